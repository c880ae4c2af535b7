/-
  Texts of the proof, put together without their remarks: Gra, Gup, Grf, Gaw, Rpa, Rpb, Grs, Srp, Gbx, Lgb, Lift, LiftV, LiftP, LiftX, Lift5.
-/
import Derived.Test.YthjinpodhacleaaGreatB11
import Derived.Test.YthjinpodhacleaaGreatRows
import Derived.ProofKit
import Derived.SizedLaws
import Derived.Deep.Slices
import Derived.Deep.Fields
import Derived.Lib.SmallJoins
import Derived.OpenShut
import Derived.Carry
set_option linter.unusedSimpArgs false
set_option linter.unusedVariables false
set_option maxHeartbeats 8000000
set_option maxRecDepth 100000
namespace Go.Proofs.YthjinpodhacleaaGreat
open Go.Proofs.Tryz
section
open Go Go.RowKit
attribute [local go_sem] Oper.semAt_some
theorem SV.nilG(w:World)(S:Nat->Prop):SV w S nilS (.agg #[.slice none 0 0,.slice none 0 0,.slice none 0 0]) :=
 ⟨none,0,none,0,none,0,rfl,fun i hi=>by simp[nilS]at hi,fun i hi=>by simp[nilS]at hi,fun i hi=>by simp[nilS]at hi,by simp[nilS],by simp[nilS],by simp[nilS],by simp[nilS,LI],by intro l hl;simp[nilS]at hl,by simp[nilS,LI],by simp[nilS,LI]⟩
theorem zKx:IsFn prog 39 Tryz.f39:=⟨func39,by kernel_rfl,by kernel_rfl⟩
theorem ztd:IsFn prog 31 f31:=⟨func31,by kernel_rfl,by kernel_rfl⟩
abbrev vdA(ok:Bool)(n:Int)(A:Option Addr)(l c:Nat)(B:Option Addr)(m d:Nat)(D:Option Addr)(k e:Nat)(er:Int):Array Value := #[.bool ok,.int .i64 n,.slice A l c,.slice B m d,.slice D k e,.int .i64 er]
theorem zsX{W:World}{b:Nat}{x0 x1 x2 x3 x4 x5:Value}{E:TypeId}(u0 u1 u2 u3 u4 u5:Value)(h:W.heap[b]?=some (.cells #[x0,x1,x2,x3,x4,x5] E (0,0))) :
  ∃W',((((((W.setCell ⟨b,0,none⟩ u0).setCell ⟨b,1,none⟩ u1).setCell ⟨b,2,none⟩ u2).setCell ⟨b,3,none⟩ u3).setCell ⟨b,4,none⟩ u4).setCell ⟨b,5,none⟩ u5)=W'/\W'.heap[b]?=some (.cells #[u0,u1,u2,u3,u4,u5] E (0,0))/\Chg (fun q=>q=b) W W':=zz8 h
def GraP(r:Bool×Nat×SS×Int)(a:Int)(W:World)(en:Ending)(W':World):Prop :=
 ∃A c B d D e,en=.returned (.tuple #[.agg (vdA r.1 (r.2.1:Int) A r.2.2.1.cells.length c B r.2.2.1.tin.length d D r.2.2.1.tout.length e r.2.2.2),.int .i64 a]) /\
  SV W' Any r.2.2.1 (.agg #[.slice A r.2.2.1.cells.length c,.slice B r.2.2.1.tin.length d,.slice D r.2.2.1.tout.length e])/\Below W.heap.size W W'
def GdI(W0:World)(T:Nat)(w5:World)(rel right:SS->Bool)(pre:List SS)(C:Nat->Prop)(W:World):Prop :=
 (∀b,C b↔b<T+1)/\(∀b,b<T->W.heap[b]?=w5.heap[b]?)/\W.heap[T]?=some (.cells #[.int .i64 ((pre.filter rel).length:Int)] 3 (0,0))/\(∀x∈pre,rel x=true->right x=true)/\Below W0.heap.size W0 W
def GdX(W0:World)(N T:Nat)(w5:World)(rel right:SS->Bool)(err:SS->Int)(xs pre:List SS)(C:Nat->Prop)(W:World):Prop:=∃fO s g X A c B1 d D e,pre=fO++[s]/\pre <+: xs/\(∀x∈fO,rel x=true->right x=true)/\rel s=true/\right s=false/\(∀b,C b↔b<T+1\/(g<=b/\b<X))/\w5.heap.size<g/\X<=W.heap.size/\T+1<=W.heap.size /\
 Below W0.heap.size W0 W/\W.heap[N+2]?=some (.cells (vdA false ((((fO.filter rel).length+1:Nat):Int)) A s.cells.length c B1 s.tin.length d D s.tout.length e (err s)) 46 (0,0))/\W.heap[N+3]?=some (.cells #[.int .i64 0] 35 (0,0)) /\
 SV W (fun q=>g<=q/\q<X) s (.agg #[.slice A s.cells.length c,.slice B1 s.tin.length d,.slice D s.tout.length e])
theorem GdI.chg{W0:World}{T:Nat}{w5 W W':World}{rel right:SS->Bool}{pre:List SS}{C D:Nat->Prop}(h:GdI W0 T w5 rel right pre C W)(hT:W0.heap.size<=T)(hc:Chg D W W')(hD:∀b,C b->¬ D b):GdI W0 T w5 rel right pre C W':=by
 obtain⟨h1,h2,h3,h4,h5⟩:=h;have hlt:T<W.heap.size:=zkf h3;have hk:∀b,b<T+1->W'.heap[b]?=W.heap[b]?:=fun b hb=>hc.block b (by omega) (hD b ((h1 b).2 hb));exact⟨h1,fun b hb=>(hk b (by omega)).trans (h2 b hb),(hk T (by omega)).trans h3,h4,h5.trans ⟨hc.os,hc.tape,hc.output,hc.size,fun b hb=>hk b (by omega)⟩⟩
theorem GdX.chg{W0:World}{N T:Nat}{w5 W W':World}{rel right:SS->Bool}{err:SS->Int}{xs pre:List SS}{C D:Nat->Prop}(h:GdX W0 N T w5 rel right err xs pre C W)(hT:W0.heap.size<=T)(hN:N+3<T)(hc:Chg D W W')(hD:∀b,C b->¬ D b):GdX W0 N T w5 rel right err xs pre C W':=by
 obtain⟨fO,s,g,X,A,c,B1,d,E,e,h1,h2,h3,h4,Bo,h5,h6,h7,h8,h9,h10,h11,mR⟩:=h;have hk:∀b,b<T+1->W'.heap[b]?=W.heap[b]?:=fun b hb=>hc.block b (by omega) (hD b ((h5 b).2 (.inl hb)));exact⟨fO,s,g,X,A,c,B1,d,E,e,h1,h2,h3,h4,Bo,h5,h6,Nat.le_trans h7 hc.size,Nat.le_trans h8 hc.size,h9.trans ⟨hc.os,hc.tape,hc.output,hc.size,fun b hb=>hk b (by omega)⟩,(hk _ (by omega)).trans h10,(hk _ (by omega)).trans h11,mR.keep (fun _ h _=>h) fun b hb _=>hc.block b (by omega) (hD b ((h5 b).2 (.inr hb)))⟩
theorem zox{rel right:SS->Bool}{err:SS->Int}{s:SS}{t:List SS}:∀(a:List SS) (n:Nat),(∀x∈a,rel x=true->right x=true)->rel s=true->right s=false->grE rel right err n (a++s::t)=(false,n+(a.filter rel).length+1,s,err s)
 | [],n,_,h1,h2=>by rw[List.nil_append,grE,if_pos h1,if_neg (by rw[h2];simp)];rfl
 | x::a,n,h,h1,h2=>by
  rw[List.cons_append,grE];by_cases hx:rel x=true
  ·rw[if_pos hx,if_pos (h x List.mem_cons_self hx),zox a (n+1) (fun y hy=>h y (List.mem_cons_of_mem _ hy)) h1 h2,List.filter_cons_of_pos hx,List.length_cons,show n+((a.filter rel).length+1)+1=n+1+(a.filter rel).length+1 by omega]
  ·rw[if_neg hx,zox a n (fun y hy=>h y (List.mem_cons_of_mem _ hy)) h1 h2,List.filter_cons_of_neg hx]
theorem zoS{W:World}{e:EX}{q:PG}{ev qv:Value}(he:EV W Any e ev)(hq:PV W Any q qv)(hok:admE e q=0->(e.bx.ok&&svB e.gv.vs)=true/\(allS e.bx (lenE e.gv.vs e.bx)).length<=1000000/\e.fu<=1000000) :
  Calls prog 13 #[ev,qv] W (GraP (if admE e q=0 then grdE e q else(false,0,nilS,0)) (admE e q) W):=by
 have HAD:=zh (fun w' (hb:Below W.heap.size W w')=>zvG (he.later hb) (hq.later hb));have lU:=zh (fun w' (hb:Below W.heap.size W w')=>he.later hb);have HQ:=zh (fun w' (hb:Below W.heap.size W w')=>hq.later hb);have dJ:=zh hok;obtain⟨A1,c1,A2,c2,A3,c3,rfl,hg,hI⟩:=he;obtain⟨D1,e1,D2,e2,D3,e3,rfl,jS⟩:=hq;have HG:=zh (fun w' (hb:Below W.heap.size W w')=>hg.later hb);have HI:=zh hI;obtain⟨hb1,hz1,k0,k1,k2,k3⟩:=al4G W (.cells (exA e A1 c1 A2 c2 A3 c3) 32) (.cells (pgA q D1 e1 D2 e2 D3 e3) 30) (.cells (vdA false 0 none 0 0 none 0 0 none 0 0 0) 46) (.cells #[.int .i64 0] 35);obtain⟨w1,hw1⟩:=zX ((((W.alloc (.cells (exA e A1 c1 A2 c2 A3 c3) 32)).alloc (.cells (pgA q D1 e1 D2 e2 D3 e3) 30)).alloc (.cells (vdA false 0 none 0 0 none 0 0 none 0 0 0) 46)).alloc (.cells #[.int .i64 0] 35));obtain⟨N,hN⟩:=zX (W.heap.size);have HN:=zh hN;rw[hw1]at hb1 hz1 k0 k1 k2 k3;rw[hN]at hz1 k0 k1 k2 k3
 have HB1:=zh hb1;have HZ1:=zh hz1;have aF:=zh k0;have aA:=zh k1;have aP:=zh k2;have fB:=zh k3;obtain⟨x0,x1,x2,x3,x4,x5,x6,x7,x8,x9,aJ,aI⟩:=znE k0;obtain⟨q0,q1,q2,q3,q4,q5⟩:=box6 k1;obtain⟨AD,lJ⟩:=zX (admE e q);have HADE:=zh lJ;rw[lJ]at dJ ⊢;rw[lJ]at HAD;obtain⟨RR,hRR⟩:=zX ((if AD=0 then grdE e q else(false,0,nilS,0)));have HRR:=zh hRR;rw[hRR];clear hRR;clear hok hg hI jS hb1 hz1 k0 k1 k2 k3 lJ;refine(callsIn_wide (n:=3)).1 (callsIn_of_wp_marks func13 rfl trivial ((wpIn_wide (n:=3)).2 ?_));simp only[ntmps13,List.size_toArray,List.length_cons,List.length_nil,Nat.reduceAdd,Nat.reduceSub,Array.replicate_succ,Array.replicate_zero,List.push_toArray,List.append_toArray,List.nil_append,List.cons_append];go_upto_region 1 with fail
 try simp only[Nat.add_assoc,Nat.reduceAdd]
 try rw[hw1]
 try rw[hN]
 try simp only[Nat.add_assoc,Nat.reduceAdd]
 clear hw1;go_wp2_with fail;refine(HAD.out _ HB1.out).mono ?_;rintro en w2 ⟨rfl,hb2⟩;have HB2:=zh (zka HB1.out hb2);have HK02:=zh (zkc aF.out hb2);have nL:=zh (zkc aA.out hb2);have nK:=zh (zkc aP.out hb2);have uL:=zh (zkc fB.out hb2);have HZ2:=zh (show N+4<=w2.heap.size by have:=HZ1.out;have:=hb2.size;omega);clear hb2 x0 x1 x2 x3 x4 x5 x6 x7 x8 x9 aJ aI q0 q1 q2 q3 q4 q5 aF aA aP fB;by_cases ha:AD=0
 ·subst ha;have ha1:((0:Int) != 0)=false:=by decide
  have ha2:((0:Int)==0)=true:=by decide
  have hRR:=HRR.out;rw[if_pos rfl]at hRR;have HRR2:=zh hRR;clear hRR HRR;obtain⟨hok,hm,qy⟩:=dJ.out rfl;have bP:=zh (fun w' (hb:Below W.heap.size W w')=>zzY e.gv.vs e.bx A1 c1 w' (HG.out w' hb).vars (HG.out w' hb).lv hok);have HOK2:=zh hok;have HMX:=zh hm;have Ce:=zh qy;clear hok hm qy dJ;go_upto_region 5 with fail;have hk3:=heap_alloc_new w2 (.cells #[.int .i64 0] 3);have hb3:=zkb (zs w2) (.cells #[.int .i64 0] 3);obtain⟨w3,hw3⟩:=zX (w2.alloc (.cells #[.int .i64 0] 3));have hz3:w3.heap.size=w2.heap.size+1:=by rw[<-hw3];simp
  rw[hw3]at hk3 hb3 ⊢;obtain⟨T,hT⟩:=zX (w2.heap.size);rw[hT]at hk3 hz3 ⊢;have HT:=zh hT;have gU:=zh (show N+4<=T by rw[<-hT];exact HZ2.out);have HZ3:=zh hz3;have HB3:=zh (zka HB2.out hb3);have HK03:=zh (zkc HK02.out hb3);have HK13:=zh (zkc nL.out hb3);have HK23:=zh (zkc nK.out hb3);have HK33:=zh (zkc uL.out hb3);have HKT3:=zh hk3;clear hk3 hb3 hw3 hz3 hT HK02 nL nK uL;obtain⟨x0,x1,x2,x3,x4,x5,x6,x7,x8,x9,aJ,aI⟩:=znE HK03.out;have jQ:=zh (bP.out _ HB3.out);go_wp2_with fail;refine jQ.out.mono ?_;rintro e5 w5 ⟨kv,xb,lb',A9,c9,rfl,hb5,g1,g2,g3,hM5⟩;have aR:=zh hb5;have HG5:=zh (And.intro g1 (And.intro g2 g3));have uD:=zh hM5;clear hb5 g1 g2 g3 hM5 x0 x1 x2 x3 x4 x5 x6 x7 x8 x9 aJ aI jQ bP;go_wp2_with fail;have hlb:=zlG HOK2.out
  have HAW:=zh (zwg (nf:=3-1) (S:=fun q=>w3.heap.size<=q/\q<w5.heap.size) ⟨uD.out.ok,uD.out.bx,uD.out.ls,uD.out.row.keep (fun b h hlt=>⟨h,hlt⟩) fun _ _ _=>rfl⟩ ⟨hlb.2.2.2.1,hlb.2.2.2.2⟩ ⟨by rw[hlb.1];omega,by rw[hlb.1];have:=hlb.2.1;omega⟩ fun q hq=>(hlb.2.2.1 q hq).2);clear hlb;have tQ:=zh (show T+1<=w5.heap.size by have:=aR.out.size;have:=HZ3.out;omega);have HB05:=zh (zka HB3.out aR.out);have xc:W.heap.size<=T:=by have:=HN.out;have:=gU.out;omega
  have pV:=zh xc;clear xc;obtain⟨rel,hrel⟩:=zX (relG e.gv e.fu);obtain⟨vg,rF⟩:=zX (rigG e.gv q e.fu);obtain⟨err,sD⟩:=zX (erG e.gv q e.fu);have pY:=zh (fun s=>congrFun hrel s);have HRG:=zh (fun s=>congrFun rF s);have yS:=zh (fun s=>congrFun sD s);have uq:=zh (show grE rel vg err 0 (allS e.bx (lenE e.gv.vs e.bx))=RR by rw[<-HRR2.out,<-hrel,<-rF,<-sD];rfl);clear hrel rF sD HRR2;refine(wpIn_wide (n:=3)).1 ?_;refine zs4 (n:=3) (gf:=39) (lb := #[ptr0 kv,ptr0 xb,ptr0 lb']) rfl (zkE zKx) HAW.out (fun l x vs' g W' h=>by obtain⟨v9,rfl,-,h2,-⟩:=h;exact⟨rfl,h2⟩)
   (GdI W T w5 rel vg) (GdX W N T w5 rel vg err (allS e.bx (lenE e.gv.vs e.bx))) (fun b=>b<T+1)
   (fun pre C W' W'' h hc=>h.chg pV.out hc fun b hb h=>h hb) (fun pre C W' W'' h hc=>h.chg pV.out (by have:=gU.out;omega) hc fun b hb h=>h hb) (fun pre C W' h b hb=>by have h1:=(h.1 b).1 hb;have h2:=zkf h.2.2.1;omega) (fun pre C W' h b hb=>by obtain⟨_,_,g,X,_,_,_,_,_,_,_,_,_,_,_,h5,h6,h7,h8,_⟩:=h;rcases(h5 b).1 hb with h|h<;>omega)
   (fun b h1 h2=>by
    have:=HG5.out;have:=HZ3.out;rcases h2 with h|h|h|h<;>omega) (fun b h=>by
    rcases h with rfl|rfl|rfl|h
    ·exact zkf uD.out.ok
    ·exact zkf uD.out.bx
    ·exact zkf uD.out.ls
    ·exact h.2) ⟨fun _=>Iff.rfl,fun _ _=>rfl,zkc HKT3.out aR.out,(fun s hs=>by cases hs),HB05.out⟩ ?_ ?_ ?_
  ·rintro l pre x C W3 vs' g hI vR jy hl wS hpre ⟨sv,rfl,hsv,Am⟩;clear vR;have hxm:x∈allS e.bx (lenE e.gv.vs e.bx):=hpre.subset (by simp);have hpl:(pre.filter rel).length<1000000:=by have h1:=hpre.length_le;have h2:=HMX.out;have h3:=List.length_filter_le rel pre;simp only[List.length_append,List.length_cons,List.length_nil]at h1;omega
   have hxc:x.cells.length<=100:=by
    obtain⟨y,hy,rfl⟩:=List.mem_map.1 hxm;have h1:=(znl rfl y hy).len;have h2:=zlG HOK2.out;simp only[stOf,List.length_dropLast];omega
   have oz:=zh (show x.Lim by obtain⟨A,c,B,d,D,e,-,-,-,-,-,-,-,h1,h2,h3,h4⟩:=hsv;exact⟨h1,h2,h3,h4⟩);obtain⟨As,cs,Bs,ds,Ds,es,rfl⟩:∃A c B d D e,sv=.agg #[.slice A x.cells.length c,.slice B x.tin.length d,.slice D x.tout.length e]:=by
    obtain⟨A,c,B,d,D,e,rfl,-⟩:=hsv;exact⟨_,_,_,_,_,_,rfl⟩
   change Code.wpIn (Fence.wide.inRound l) (3-1-1) prog _ _ _ _
   gi_wp2
   refine⟨(Chg.refl _ _).alloc _,fun W4 sS=>?_⟩;have hbx:=sS.keep (heap_alloc_new W3 (.cells #[.slice As x.cells.length cs,.slice Bs x.tin.length ds,.slice Ds x.tout.length es] 44)) (show ¬ W3.heap.size=l by omega);have sO:=zkb (zs W3) (.cells #[.slice As x.cells.length cs,.slice Bs x.tin.length ds,.slice Ds x.tout.length es] 44);have xq:=(hI.chg pV.out (Chg.of_below sO) (fun b hb h=>h)).chg pV.out sS (fun b hb h=>jy (by have h:b=l:=h;rwa[h]at hb));have rD:SV W4 (fun q=>g<=q) x (.agg #[.slice As x.cells.length cs,.slice Bs x.tin.length ds,.slice Ds x.tout.length es]):=(hsv.later sO).keep (fun _ h _=>h) fun q h hlt=>sS.block q hlt (fun e:q=l=>by have h:g<=q:=h;omega);obtain⟨xp,hxp⟩:=zX (W3.heap.size);rw[hxp]at hbx ⊢;have hg6:T+1<=g:=by have:=tQ.out;omega
   have hxp6:g<=xp:=by omega
   have rX:=(xq.2.1 N (by have:=gU.out;omega)).trans (zkc HK03.out aR.out);have hk14:=(xq.2.1 (N+1) (by have:=gU.out;omega)).trans (zkc HK13.out aR.out);have HK04:=zh rX;have HK14:=zh hk14;have HI4:=zh xq;have HSV4:=zh rD;have aQ:=zh hbx;have HXC:=zh hxc;have lS:=zh (And.intro hl (And.intro wS (And.intro Am (And.intro hg6 hxp6))));have dI:=zh hpre;have uX:=zh (zoT e.gv x e.fu (e.fu.toNat*2000+2000) _ _ W4 (HG.out _ xq.2.2.2.2).pv rD.any (by omega) HI.out Ce.out zl);have lT:=zh (show(resO e.gv x e.fu (e.fu.toNat*2000+2000) false).2.2.1=0->((resO e.gv x e.fu (e.fu.toNat*2000+2000) false).2.1:Int)<=max e.fu 0 from fun h=>(zw4 zl h).1)
   have jG:=zh (show rel x=((resO e.gv x e.fu (e.fu.toNat*2000+2000) false).2.2.1==0)/\vg x=(gerE q e.fu (resO e.gv x e.fu (e.fu.toNat*2000+2000) false).1==0&&eqS (gstE q e.fu (resO e.gv x e.fu (e.fu.toNat*2000+2000) false).1) x)/\err x=gerE q e.fu (resO e.gv x e.fu (e.fu.toNat*2000+2000) false).1 from⟨(pY.out x).symm,(HRG.out x).symm,(yS.out x).symm⟩);generalize resO e.gv x e.fu (e.fu.toNat*2000+2000) false=R at uX jG lT;obtain⟨x0,x1,x2,x3,x4,x5,x6,x7,x8,x9,aJ,aI⟩:=znE rX;obtain⟨y0,y1,y2⟩:=zlD hbx;clear hI hpre hbx xq rD sS hsv hxc jy hl wS Am sO hxm hg6 hxp6 rX hk14;change Code.wpIn (Fence.wide.inRound l) (3-1-1) prog _ _ _ _
   gi_wp2
   refine⟨trivial,CallsIn.inRound l (callsIn_wide.2 (uX.out.mono ?_))⟩;rintro en w6 ⟨u1,u2,u3,rfl,jT,hb6,Ar⟩;obtain⟨A6,c6,B6,d6,D6,e6,hv⟩:=jT.slices;injection hv with hv;simp only[Array.mk.injEq,List.cons.injEq,and_true]at hv;obtain⟨rfl,rfl,rfl⟩:=hv;have BO:=zh (show R.2.2.1=0->R.1.cells.length<=2000000 from fun h=>by have h1:=(Ar.2 h).1;have h2:=lT.out h;have h3:=Ce.out;omega);have ug:=zh (jT.svR Ar.1);have bC:=zh hb6;clear uX jT hb6 Ar;obtain⟨R1,R2,R3,R4⟩:=R;simp only at jG BO lT ug ⊢;by_cases hr:R3=0
   ·subst hr;have hr1:((0:Int) != 0)=false:=by decide
    have hr2:((0:Int)==0)=true:=by decide
    have uw:=zh (show rel x=true from jG.out.1.trans (by decide));have HR1:=zh jG.out.2
    gi_upto_region 8 with fail
    have eX:=zkb bC.out (.cells #[.slice A6 R1.cells.length c6,.slice B6 R1.tin.length d6,.slice D6 R1.tout.length e6,.int .i64 (R2:Int),.int .i64 0] 58);have sN:=zkb (zs w6) (.cells #[.slice A6 R1.cells.length c6,.slice B6 R1.tin.length d6,.slice D6 R1.tout.length e6,.int .i64 (R2:Int),.int .i64 0] 58);have mi:=heap_alloc_new w6 (.cells #[.slice A6 R1.cells.length c6,.slice B6 R1.tin.length d6,.slice D6 R1.tout.length e6,.int .i64 (R2:Int),.int .i64 0] 58);obtain⟨w7,hw7⟩:=zX (w6.alloc (.cells #[.slice A6 R1.cells.length c6,.slice B6 R1.tin.length d6,.slice D6 R1.tout.length e6,.int .i64 (R2:Int),.int .i64 0] 58));obtain⟨gp,Aw⟩:=zX (w6.heap.size);rw[hw7]at eX sN mi ⊢;rw[Aw]at mi ⊢;have hgp2:W4.heap.size<=gp:=by rw[<-Aw];exact bC.out.size
    have hx4:=zkf aQ.out;have hgpT:T<gp:=by have:=zkf HI4.out.2.2.1;omega
    have hgpx:xp<gp:=by omega
    have nM:=zh (And.intro hgp2 (And.intro hgpT hgpx));have pK:=zkc HI4.out.2.2.1 eX;obtain⟨n,hn⟩:=zX ((pre.filter rel).length);have ow:=zh hn;rw[hn]at pK hpl;have z7:w7.cell? ⟨T,0,none⟩=some (.int .i64 (n:Int)):=zc pK rfl;have cf7:∀o,w7.frozen? ⟨T,o,none⟩=false:=fun o=>zf pK;have z8:w7.cell? ⟨gp,4,none⟩=some (.int .i64 0):=zc mi rfl;obtain⟨W8,hw8,hc8,hh8⟩:=setU (o:=0) (.int .i64 ((n:Int)+1)) pK;have hk08:=hc8.keep (zkc HK04.out eX) (fun e:N=T=>by have:=gU.out;omega);have hk18:=hc8.keep (zkc HK14.out eX) (fun e:N+1=T=>by have:=gU.out;omega);have zx:=hc8.keep (zkc aQ.out eX) (fun e:xp=T=>by have:=lS.out;omega);have yn:=hc8.keep mi (fun e:gp=T=>by omega);have HX8:=zh zx;have pQ:=HI4.out.chg pV.out (Chg.of_below eX (C:=fun _=>False)) (fun b hb h=>h)
    have fM:=zh (show Below W.heap.size W W8 from pQ.2.2.2.2.trans (hc8.below pQ.2.2.2.2.size fun b (e:b=T)=>by have:=pV.out;omega));have oD:=zh (show Chg (fun q=>q=T) W4 W8 from(Chg.of_below eX).trans2 hc8 fun q _ e=>e);have HH8:=zh hh8;have vE:SV W8 Any R1 (.agg #[.slice A6 R1.cells.length c6,.slice B6 R1.tin.length d6,.slice D6 R1.tout.length e6]):=(ug.out.later sN).keep (fun _ _ _=>trivial) fun q h hlt=>hc8.block q hlt fun e:q=T=>by have h:W4.heap.size<=q:=h;have:=zkf HI4.out.2.2.1;omega
    have hx8v:SV W8 Any x (.agg #[.slice As x.cells.length cs,.slice Bs x.tin.length ds,.slice Ds x.tout.length es]):=HSV4.out.keep (fun _ _ _=>trivial) fun q h hlt=>oD.out.block q hlt fun e:q=T=>by have h:g<=q:=h;have:=lS.out;omega
    have HCM:=zh (zqQ (lU.out _ fM.out) (HQ.out _ fM.out) vE hx8v (BO.out rfl) Ce.out);obtain⟨bb,hbb⟩:=zX ((gerE q e.fu R1==0&&eqS (gstE q e.fu R1) x));obtain⟨ge,hge⟩:=zX (gerE q e.fu R1);rw[hbb,hge]at HCM;have HR2:=zh (show vg x=bb/\err x=ge from⟨HR1.out.1.trans hbb,HR1.out.2.trans hge⟩);obtain⟨x0,x1,x2,x3,x4,x5,x6,x7,x8,x9,aJ,aI⟩:=znE hk08;obtain⟨q0,q1,q2,q3,q4,q5⟩:=box6 hk18;obtain⟨y0,y1,y2⟩:=zlD zx;have r0:W8.cell? ⟨gp,0,none⟩=some (.slice A6 R1.cells.length c6):=zc yn rfl;have r1:W8.cell? ⟨gp,1,none⟩=some (.slice B6 R1.tin.length d6):=zc yn rfl;have r2:W8.cell? ⟨gp,2,none⟩=some (.slice D6 R1.tout.length e6):=zc yn rfl;clear eX sN mi hw7 Aw hgp2 hx4 hgpT hgpx pK hn hc8 hh8 hk08 hk18 zx yn pQ vE hx8v hbb hge HR1 jG HK04 HK14 lT BO ug bC;change Code.wpIn (Fence.wide.inRound l) (3-1-1) prog _ _ _ _
    gi_wp2
    refine⟨trivial,CallsIn.inRound l (callsIn_wide.2 (HCM.out.mono ?_))⟩;rintro en w9 ⟨rfl,aM⟩;have bz:=zh aM;have nP:=zh (oD.out.trans2 (Chg.of_below (C:=fun _=>False) aM) fun q _ e=>e.elim);have hlow:∀b,b<T->w9.heap[b]?=w5.heap[b]?:=fun b hb=>(nP.out.block b (by have:=zkf HI4.out.2.2.1;omega) (fun e:b=T=>by omega)).trans (HI4.out.2.1 b hb);have uF:=zh hlow;have HT9:=zh (zkc HH8.out aM);have uZ:=zh (fM.out.trans (aM.mono fM.out.size));have HX9:=zh (zkc HX8.out aM);have HSV9:=zh (show SV w9 Any x (.agg #[.slice As x.cells.length cs,.slice Bs x.tin.length ds,.slice Ds x.tout.length es])from HSV4.out.keep (fun _ _ _=>trivial) fun q h hlt=>nP.out.block q hlt fun e:q=T=>by have h:g<=q:=h;have:=lS.out;omega);clear aM hlow x0 x1 x2 x3 x4 x5 x6 x7 x8 x9 aJ aI q0 q1 q2 q3 q4 q5 y0 y1 y2 r0 r1 r2 z7 cf7 z8 hw8 HCM
    cases bb
    ·gi_upto_region 12 with fail
     have AR:w9.heap[T]?=some (.cells #[.int .i64 ((n:Int)+1)] 3 (0,0)):=by have:=HT9.out;simpa using this
     have yx:(fun w':World=>zv w' T 0 (.int .i64 ((n:Int)+1))/\stC w' xp As x.cells.length cs Bs x.tin.length ds Ds x.tout.length es) w9.drew:=⟨zc AR rfl,zlD HX9.out⟩
     refine zmf (ro:=some l) (fun w':World=>zv w' T 0 (.int .i64 ((n:Int)+1))/\stC w' xp As x.cells.length cs Bs x.tin.length ds Ds x.tout.length es) (by kernel_rfl) ?_;refine zI 0 yx ?_;refine zI 1 yx ?_;refine zI 3 yx ?_;have hcl:=zqi x _ w9.drew (HSV9.out.later zr.drew) (by have:=HXC.out;omega);have had:Calls prog 31 [.agg #[.slice As x.cells.length cs,.slice Bs x.tin.length ds,.slice Ds x.tout.length es]].toArray w9.drew fun e w'=>∃u,e=.returned u/\(OwnS w' w9.heap.size x u/\Below w9.heap.size w9 w') :=
      hcl.mono fun e w' ⟨v,h1,h2,h3⟩=>⟨v,h1,h2,zka (zs w9).drew h3⟩
     refine zns (i:=2) (by kernel_rfl) rfl (by kernel_rfl) (by rfl) (fun K hK=>?_);refine zkd (by rfl) (.func 31) [.tmp 49] _ (by rfl) 31 _ ztd (by rfl) _ (by rfl) _ had ?_;rintro u aT ⟨kC,cK⟩;have hsv10:=kC.svR oz.out;obtain⟨Au,cu,Bu,du,Du,eu,rfl⟩:=kC.slices;have pM:=zkc AR cK;have oH:=zkc HX9.out cK;have tu:(fun w':World=>zv w' T 0 (.int .i64 ((n:Int)+1))/\stC w' xp As x.cells.length cs Bs x.tin.length ds Ds x.tout.length es) aT:=⟨zc pM rfl,zlD oH⟩
     refine hK.out _ _ tu ?_;clear hK K had hcl yx AR kC;(try simp only[zQ]);refine zI 4 tu ?_;have hk2:=zkc ((uF.out (N+2) (by have:=gU.out;omega)).trans (zkc HK23.out aR.out)) cK;have hk3:=zkc ((uF.out (N+3) (by have:=gU.out;omega)).trans (zkc HK33.out aR.out)) cK;obtain⟨q0,q1,q2,q3,q4,q5⟩:=box6 hk2;have cf:∀o,aT.frozen? ⟨N+2,o,none⟩=false:=fun o=>zf hk2;obtain⟨aS,dU,hh11,iy⟩:=zsX (.bool false) (.int .i64 ((n:Int)+1)) (.slice Au x.cells.length cu) (.slice Bu x.tin.length du) (.slice Du x.tout.length eu) (.int .i64 ge) hk2;refine zns (i:=5) (by kernel_rfl) rfl (by kernel_rfl) (by rfl) (fun K hK=>?_);(try simp only[zA,zB,zC]);go_simp;have hT11:=iy.keep pM (fun e:T=N+2=>by have:=gU.out;omega);have hx11:=iy.keep oH (fun e:xp=N+2=>by have:=gU.out;have:=nM.out;have:=lS.out;omega);refine hK.out _ _ ⟨zc hT11 rfl,zlD hx11⟩ ?_
     clear hK K q0 q1 q2 q3 q4 q5 cf;(try simp only[zQ]);have jW:=iy.keep hk3 (fun e:N+3=N+2=>by omega);have q0:aS.cell? ⟨N+3,0,none⟩=some (.int .i64 0):=zc jW rfl;have cf:∀o,aS.frozen? ⟨N+3,o,none⟩=false:=fun o=>zf jW;obtain⟨eH,hw12,sJ,hh12⟩:=setU (o:=0) (.int .i64 0) jW;refine zns (i:=6) (by kernel_rfl) rfl (by kernel_rfl) (by rfl) (fun K hK=>?_);(try simp only[zA,zB,zC]);go_simp;have hc:Chg (fun q=>q=N+2\/q=N+3) aT eH:=(iy.mono fun q _ e=>.inl e).trans2 sJ fun q _ e=>.inr e;have hT12:=hc.keep pM (fun e=>by have:=gU.out;rcases e with e|e<;>omega);have hx12:=hc.keep oH (fun e=>by have:=gU.out;have:=nM.out;have:=lS.out;rcases e with e|e<;>omega);have hcx:Chg (fun q=>q=N+2\/q=N+3) w9 eH:=(Chg.of_below cK).trans2 hc fun q _ e=>e;have vz:W4.heap.size<=w9.heap.size:=nP.out.size;have lZ:w9.heap.size<=aT.heap.size:=cK.size;have hx4:=zkf aQ.out
     have hT94:T<W4.heap.size:=zkf HI4.out.2.2.1;have uR:=zh (show GdX W N T w5 rel vg err (allS e.bx (lenE e.gv.vs e.bx)) (pre++[x]) (fun b=>b<T+1\/(w9.heap.size<=b/\b<eH.heap.size)) eH from
      ⟨pre,x,w9.heap.size,eH.heap.size,Au,cu,Bu,du,Du,eu,rfl,dI.out,HI4.out.2.2.2.1,uw.out,HR2.out.1,fun b=>Iff.rfl,(by have:=lS.out;omega),zl,(by have:=hc.size;omega),
       uZ.out.trans (hcx.below uZ.out.size fun b h=>by have:=HN.out;rcases h with h|h<;>omega),by rw[sJ.keep hh11 (fun e:N+2=N+3=>by omega),ow.out,HR2.out.2];simp,hh12,
       hsv10.keep (fun q h hlt=>⟨h,Nat.lt_of_lt_of_le hlt hc.size⟩) fun q h hlt=>hc.block q hlt fun e=>by have h:w9.heap.size<=q:=h;have:=gU.out;rcases e with e|e<;>omega⟩)
     have HCX:=zh (show Chg C W4 eH from(nP.out.mono fun q _ e=>(HI4.out.1 q).2 (by have e:q=T:=e;omega)).trans2 hcx fun q _ e=>(HI4.out.1 q).2 (by have:=gU.out;rcases e with e|e<;>omega));have HGL:=zh (show g<=w9.heap.size by have:=lS.out;omega);refine hK.out _ _ ⟨zc hT12 rfl,zlD hx12⟩ ?_;clear hK K q0 cf hcx hc hT12 hx12 hh12 sJ jW hh11 iy hT11 hx11 hk2 hk3 hsv10 pM oH cK tu vz lZ;(try simp only[zQ]);refine znV (by kernel_rfl) ?_
     gi_wp2
     exact⟨_,uR.out,(fun b hb=>by rcases hb with h|h;exact .inl ((HI4.out.1 b).2 h);exact .inr (Nat.le_trans HGL.out h.1)),HCX.out⟩
    ·gi_wp2
     have vJ:(pre++[x]).filter rel=pre.filter rel++[x]:=by rw[List.filter_append,List.filter_cons_of_pos uw.out];simp
     exact⟨C,⟨HI4.out.1,uF.out,by rw[vJ,List.length_append,ow.out,HT9.out];simp,fun y hy h=>by
      rcases List.mem_append.1 hy with hy|hy
      ·exact HI4.out.2.2.2.1 y hy h
      ·rw[List.mem_singleton.1 hy];exact HR2.out.1,uZ.out⟩,fun b hb=>.inl hb,nP.out.mono fun q _ e=>(HI4.out.1 q).2 (by have e:q=T:=e;omega)⟩
   ·have hr1:(R3 != 0)=true:=by simpa using hr
    have hr2:(R3==0)=false:=by simpa using hr
    have uw:=zh (jG.out.1.trans hr2);clear hr
    gi_upto_region 8 with fail
    have ig:=zh (zkb bC.out (.cells #[.slice A6 R1.cells.length c6,.slice B6 R1.tin.length d6,.slice D6 R1.tout.length e6,.int .i64 (R2:Int),.int .i64 R3] 58))
    gi_wp2
    have pQ:=HI4.out.chg pV.out (Chg.of_below ig.out (C:=fun _=>False)) (fun b hb h=>h);have vJ:(pre++[x]).filter rel=pre.filter rel:=by rw[List.filter_append,List.filter_cons_of_neg (by rw[uw.out];simp)];simp
    exact⟨C,⟨pQ.1,pQ.2.1,by rw[vJ];exact pQ.2.2.1,fun y hy h=>by
     rcases List.mem_append.1 hy with hy|hy
     ·exact pQ.2.2.2.1 y hy h
     ·rw[List.mem_singleton.1 hy,uw.out]at h;exact absurd h Bool.false_ne_true,pQ.2.2.2.2⟩,fun b hb=>.inl hb,Chg.of_below ig.out⟩
  ·intro D C W' hD hI hch hK;have hchL:Chg (fun b=>b<T+1) w5 W':=hch;have hk2:=(hI.2.1 (N+2) (by have:=gU.out;omega)).trans (zkc HK23.out aR.out);have hk3:=(hI.2.1 (N+3) (by have:=gU.out;omega)).trans (zkc HK33.out aR.out);have hRR:(true,((allS e.bx (lenE e.gv.vs e.bx)).filter rel).length,nilS,0)=RR:=(zuV hI.2.2.2.1).symm.trans uq.out;obtain⟨n,hn⟩:=zX (((allS e.bx (lenE e.gv.vs e.bx)).filter rel).length);have pK:=hI.2.2.1;rw[hn]at pK hRR;subst hRR;have aU:=zh hI.2.2.2.2;have HK:=zh hK;have HD:=zh (show w5.heap.size=D from hD.symm);have z7:W'.cell? ⟨T,0,none⟩=some (.int .i64 (n:Int)):=zc pK rfl;obtain⟨q0,q1,q2,q3,q4,q5⟩:=box6 hk2;have cf:∀o,W'.frozen? ⟨N+2,o,none⟩=false:=fun o=>zf hk2;obtain⟨w6,jR,nY,hc6⟩:=zsX (.bool true) (.int .i64 (n:Int)) (.slice none 0 0) (.slice none 0 0) (.slice none 0 0) (.int .i64 0) hk2;have oU:=hc6.keep hk3 (fun e:N+3=N+2=>by omega)
   have q6:w6.cell? ⟨N+3,0,none⟩=some (.int .i64 0):=zc oU rfl;have cf6:∀o,w6.frozen? ⟨N+3,o,none⟩=false:=fun o=>zf oU;obtain⟨w7,hw7,pE,wW⟩:=setU (o:=0) (.int .i64 0) oU;have hcx:Chg (fun q=>q=N+2\/q=N+3) W' w7:=(hc6.mono fun q _ e=>.inl e).trans2 pE fun q _ e=>.inr e;have hND:N+3<D:=by have:=tQ.out;have:=HD.out;have:=gU.out;omega
   have HKD:=zh (hcx.keep hK (fun e=>by rcases e with e|e<;>omega));have hcd:=Chg.putObj w7 D (.deferred none);obtain⟨t0,t1,t2,t3,t4,t5⟩:=box6 (hcd.keep (pE.keep nY (fun e:N+2=N+3=>by omega)) (fun(e:N+2=D)=>by omega));have t6:(w7.putObj D (.deferred none)).cell? ⟨N+3,0,none⟩=some (.int .i64 0):=zc (hcd.keep wW (fun(e:N+3=D)=>by omega)) rfl;have ll:=zh (show Below W.heap.size W (w7.putObj D (.deferred none))from(aU.out.trans (hcx.below aU.out.size fun b h=>by have:=HN.out;rcases h with h|h<;>omega)).trans (hcd.below (Nat.le_trans aU.out.size hcx.size) fun b (e:b=D)=>by have:=HN.out;omega));have HT0:=zh (And.intro t0 (And.intro t1 (And.intro t2 (And.intro t3 (And.intro t4 (And.intro t5 t6))))));clear hI hch hchL hK hD hk2 hk3 hn pK hc6 nY oU pE wW hcx hcd t0 t1 t2 t3 t4 t5 t6 uq;go_wp2_with fail;refine⟨by simp,.inl ⟨_,_,rfl,run_takeDeferred HKD.out,?_⟩⟩
   obtain⟨t0,t1,t2,t3,t4,t5,t6⟩:=HT0.out;exact⟨.tuple #[.agg (vdA true (n:Int) none 0 0 none 0 0 none 0 0 0),.int .i64 0],by simp[results,results13,go_sem,t0,t1,t2,t3,t4,t5,t6],none,0,none,0,none,0,rfl,SV.nilG _ _,ll.out⟩
  ·intro D pre C W' hD hX hch hK;obtain⟨fO,s,g,X,As,cs,Bs,ds,Ds,es,rfl,h2,h3,h4,Bo,h5,h6,h7,h8,h9,h10,h11,mR⟩:=hX;have hRR:(false,0+(fO.filter rel).length+1,s,err s)=RR:=by
    obtain⟨t,ht⟩:=h2;rw[<-uq.out,<-ht,List.append_assoc];exact(zox fO 0 h3 h4 Bo).symm
   subst hRR;have HK:=zh hK;have HD:=zh (show w5.heap.size=D from hD.symm);have hND:N+3<D:=by have:=tQ.out;have:=HD.out;have:=gU.out;omega
   have hcd:=Chg.putObj W' D (.deferred none);refine wpIn_ret ?_;simp only[Exit.inBlock,Exit.then];refine⟨by simp,.inl ⟨_,_,rfl,run_takeDeferred HK.out,?_⟩⟩;obtain⟨t0,t1,t2,t3,t4,t5⟩:=box6 (hcd.keep h10 (fun(e:N+2=D)=>by omega));have t6:(W'.putObj D (.deferred none)).cell? ⟨N+3,0,none⟩=some (.int .i64 0):=zc (hcd.keep h11 (fun(e:N+3=D)=>by omega)) rfl;have hBF:Below W.heap.size W (W'.putObj D (.deferred none)):=h9.trans (hcd.below h9.size fun b (e:b=D)=>by have:=HN.out;omega);simp only[Nat.zero_add];exact⟨.tuple #[.agg (vdA false (((fO.filter rel).length+1:Nat):Int) As s.cells.length cs Bs s.tin.length ds Ds s.tout.length es (err s)),.int .i64 0],by simp[results,results13,go_sem,t0,t1,t2,t3,t4,t5,t6],As,cs,Bs,ds,Ds,es,rfl,mR.keep (fun _ _ _=>trivial) fun q h hlt=>hcd.block q hlt fun e=>by have h:g<=q:=h.1;have e:q=D:=e;have:=HD.out;omega,hBF⟩
 ·have ha1:(AD != 0)=true:=by simpa using ha
  have ha2:(AD==0)=false:=by simpa using ha
  have hRR:=HRR.out;rw[if_neg ha]at hRR;subst hRR;clear ha HRR;obtain⟨q0,q1,q2,q3,q4,q5⟩:=box6 nK.out;have cf:∀o,w2.frozen? ⟨N+2,o,none⟩=false:=fun o=>zf nK.out;obtain⟨w3,hw3,hh3,hc3⟩:=zsX (.bool false) (.int .i64 0) (.slice none 0 0) (.slice none 0 0) (.slice none 0 0) (.int .i64 0) nK.out;have hk3:=hc3.keep uL.out (fun e:N+3=N+2=>by omega);have q6:w3.cell? ⟨N+3,0,none⟩=some (.int .i64 0):=zc hk3 rfl;have cf3:∀o,w3.frozen? ⟨N+3,o,none⟩=false:=fun o=>zf hk3;obtain⟨w4,hw4,hc4,hh4⟩:=setU (o:=0) (.int .i64 AD) hk3;obtain⟨t0,t1,t2,t3,t4,t5⟩:=box6 (hc4.keep hh3 (fun e:N+2=N+3=>by omega));have t6:w4.cell? ⟨N+3,0,none⟩=some (.int .i64 AD):=zc hh4 rfl;have ll:=zh (show Below W.heap.size W w4 from HB2.out.trans ((hc3.below HB2.out.size fun b (e:b=N+2)=>by have:=HN.out;omega).trans (hc4.below (Nat.le_trans HB2.out.size hc3.size) fun b (e:b=N+3)=>by have:=HN.out;omega)))
  clear hc3 hh3 hk3 hc4 hh4;go_wp2_with fail;exact⟨.tuple #[.agg (vdA false 0 none 0 0 none 0 0 none 0 0 0),.int .i64 AD],by simp[results,results13,go_sem,t0,t1,t2,t3,t4,t5,t6],none,0,none,0,none,0,rfl,SV.nilG _ _,ll.out⟩
end
section
open Go Go.RowKit
attribute [local go_sem] Oper.semAt_some
theorem zsP(w:World)(S:Nat->Prop){k n:Int}{s:ByteArray}(hf:Fld k n s):NV w S (.nd k n s []) (nv k n s none 0 0):=NV.shut (ks:=[]) hf (by simp[LK]) (by simp) fun i hi=>by simp at hi
theorem zLs{w:World}{S:Nat->Prop}{b:Nat}{E:TypeId}{t1:T}{k n k1 n1:Int}{s s1:ByteArray}{A1:Option Addr}{l1 c1:Nat}(hf:Fld k n s)(hS:S b)(hk:w.heap[b]?=some (.cells #[.int .u8 k1,.int .i64 n1,.string s1,.slice A1 l1 c1] E (0,0)))(h1:NV w S t1 (nv k1 n1 s1 A1 l1 c1)) :
  NV w S (.nd k n s [t1]) (nv k n s (some ⟨b,0,none⟩) 1 1):=by
 refine NV.shut (ks:=[t1]) hf (by simp[LK]) (by simp) fun i hi=>?_
 match i,hi with
 | 0,_=>exact⟨⟨b,0,none⟩,_,_,_,_,rfl,hS,⟨zc hk rfl,zc hk rfl,zc hk rfl,zc hk rfl⟩,h1⟩
theorem zLr{w:World}{S:Nat->Prop}{b:Nat}{E:TypeId}{t1 t2:T}{k n k1 n1 k2 n2:Int}{s s1 s2:ByteArray}{A1 A2:Option Addr}{l1 c1 l2 c2:Nat}(hf:Fld k n s)(hS:S b)(hk:w.heap[b]?=some (.cells #[.int .u8 k1,.int .i64 n1,.string s1,.slice A1 l1 c1,.int .u8 k2,.int .i64 n2,.string s2,.slice A2 l2 c2] E (0,0)))(h1:NV w S t1 (nv k1 n1 s1 A1 l1 c1))(h2:NV w S t2 (nv k2 n2 s2 A2 l2 c2)) :
  NV w S (.nd k n s [t1,t2]) (nv k n s (some ⟨b,0,none⟩) 2 2):=by
 refine NV.shut (ks:=[t1,t2]) hf (by simp[LK]) (by simp) fun i hi=>?_
 match i,hi with
 | 0,_=>exact⟨⟨b,0,none⟩,_,_,_,_,rfl,hS,⟨zc hk rfl,zc hk rfl,zc hk rfl,zc hk rfl⟩,h1⟩
 | 1,_=>exact⟨⟨b,0,none⟩,_,_,_,_,rfl,hS,⟨zc hk rfl,zc hk rfl,zc hk rfl,zc hk rfl⟩,h2⟩
theorem fldG(k n:Int)(hk:0<=k/\k<256)(hn:I64 n):Fld k n ⟨#[]⟩:=⟨hk,hn,by decide⟩
theorem zLj(a0 a1 a2 a3:Value)(w:World):(Instr.buildSlice 26 1 #[(0,.agg #[a0,a1,a2,a3])]).run prog w=.ok (.slice (some ⟨w.heap.size,0,none⟩) 1 1) (w.alloc (.cells #[a0,a1,a2,a3] 28)):=by kernel_rfl
theorem zLi(a0 a1 a2 a3 b0 b1 b2 b3:Value)(w:World):(Instr.buildSlice 26 2 #[(0,.agg #[a0,a1,a2,a3]),(1,.agg #[b0,b1,b2,b3])]).run prog w=.ok (.slice (some ⟨w.heap.size,0,none⟩) 2 2) (w.alloc (.cells #[a0,a1,a2,a3,b0,b1,b2,b3] 28)):=by kernel_rfl
theorem bNkG(k:Int)(A:Option Addr)(l c:Nat)(w:World):(Instr.build 28 #[(0,.int .u8 k),(3,.slice A l c)]).run prog w=.ok (nv k 0 ⟨#[]⟩ A l c) w:=by kernel_rfl
theorem bSVG(a0 a1 a2:Value)(w:World):(Instr.buildSlice 24 1 #[(0,.agg #[a0,a1,a2])]).run prog w=.ok (.slice (some ⟨w.heap.size,0,none⟩) 1 1) (w.alloc (.cells #[a0,a1,a2] 38)):=by kernel_rfl
theorem bVdG(s:ByteArray)(k:Int)(w:World):(Instr.build 38 #[(0,.string s),(1,.int .u8 k)]).run prog w=.ok (.agg #[.string s,.int .u8 k,.int .i64 0]) w:=by kernel_rfl
theorem bPgG(A B:Option Addr)(l c m d:Nat)(k n:Int)(s:ByteArray)(w:World):(Instr.build 30 #[(0,.slice A l c),(2,nv k n s B m d)]).run prog w=.ok (pv A l c none 0 0 k n s B m d) w:=by kernel_rfl
abbrev xX:ByteArray:=⟨#[120]⟩
abbrev xO:ByteArray:=⟨#[]⟩
abbrev updT(k n:Int):T:=.nd k 0 xO [.nd 2 0 xX [],.nd 1 n xO []]
def updP(k n:Int):PG:=⟨[⟨xX,1,0⟩],[],.nd 57 0 xO [updT k n]⟩
theorem zyC(s:ByteArray)(w:World):Calls prog 11 #[.string s] w fun e w'=>e=.returned (nv 2 0 s none 0 0)/\Below w.heap.size w w':=by
 have hb:∀w,(Instr.build 28 #[(0,.int .u8 2),(2,.string s)]).run prog w=.ok (nv 2 0 s none 0 0) w:=fun w=>by kernel_rfl
 go_enter func11,ntmps11;go_wp2_with fail;exact bodyPost_ret (v:=nv 2 0 s none 0 0) (by simp[results,results11,go_sem]) rfl ⟨rfl,zkb zr _⟩
theorem zup(n:Int)(w:World):Calls prog 12 #[.int .i64 n] w fun e w'=>e=.returned (nv 1 n xO none 0 0)/\Below w.heap.size w w':=by
 have hb:∀w,(Instr.build 28 #[(0,.int .u8 1),(1,.int .i64 n)]).run prog w=.ok (nv 1 n xO none 0 0) w:=fun w=>by kernel_rfl
 go_enter func12,ntmps12;go_wp2_with fail;exact bodyPost_ret (v:=nv 1 n xO none 0 0) (by simp[results,results12,go_sem]) rfl ⟨rfl,zkb zr _⟩
theorem znu(k n:Int)(hk:0<=k/\k<256)(hn:I64 n)(w:World):Calls prog 21 #[.int .u8 k,.int .i64 n] w fun e w'=>∃v,e=.returned v/\PV w' Any (updP k n) v/\Below w.heap.size w w':=by
 have h1:=zLj;have h2:=zLi;have h3:=bNkG;have h4:=bSVG;have h5:=bVdG;have h6:=bPgG;have HKN:=zh (And.intro hk hn);obtain⟨N,hN⟩:=zX (w.heap.size);have HN:=zh hN;clear hk hn;have k0:=heap_alloc_new w (.cells #[.slice none 0 0,.slice none 0 0,.int .u8 0,.int .i64 0,.string xO,.slice none 0 0] 30);have hb0:=zkb (zs w) (.cells #[.slice none 0 0,.slice none 0 0,.int .u8 0,.int .i64 0,.string xO,.slice none 0 0] 30);rw[hN]at k0;have HB0:=zh hb0;have aF:=zh k0;clear k0 hb0;go_enter func21,ntmps21;go_upto_region 1 with fail;obtain⟨w1,hw1⟩:=zX (w.alloc (.cells #[.slice none 0 0,.slice none 0 0,.int .u8 0,.int .i64 0,.string xO,.slice none 0 0] 30));rw[hw1]at HB0 aF
 try rw[hw1]
 try rw[hN]
 clear hw1 hN;go_wp2_with fail;refine(zyC _ _).mono ?_;rintro e w2 ⟨rfl,hb2⟩;have HB2:=zh hb2;clear hb2;go_wp2_with fail;refine(zup _ _).mono ?_;rintro e w3 ⟨rfl,hb3⟩;have HB3:=zh (zka HB2.out hb3);clear hb3;go_upto_region 2 with fail;obtain⟨M,hM⟩:=zX (w3.heap.size);obtain⟨w4,hw4⟩:=zX ((w3.alloc (.cells #[.int .u8 2,.int .i64 0,.string xX,.slice none 0 0,.int .u8 1,.int .i64 n,.string xO,.slice none 0 0] 28)).alloc (.cells #[.int .u8 k,.int .i64 0,.string xO,.slice (some ⟨M,0,none⟩) 2 2] 28));have hb4:Below w3.heap.size w3 w4:=by rw[<-hw4];exact zkb (zkb zr _) _
 have lY:w4.heap.size=M+2:=by rw[<-hw4];simp[hM]
 have hm4:w4.heap[M]?=some (.cells #[.int .u8 2,.int .i64 0,.string xX,.slice none 0 0,.int .u8 1,.int .i64 n,.string xO,.slice none 0 0] 28 (0,0)):=by rw[<-hw4,<-hM];exact zke (heap_alloc_new w3 _) _
 have rO:w4.heap[M+1]?=some (.cells #[.int .u8 k,.int .i64 0,.string xO,.slice (some ⟨M,0,none⟩) 2 2] 28 (0,0)):=by rw[<-hw4];exact zoO _ (by simp[hM]) _
 have hk4:=zkc (zkc aF.out HB3.out) hb4;have hNM:N<M:=by rw[<-hM];exact zkf (zkc aF.out HB3.out)
 rw[hM];rw[hw4];have hb5:=zkb (zs w4) (.cells #[.string xX,.int .u8 1,.int .i64 0] 38);have hb6:=zkb hb5 (.cells #[.int .u8 k,.int .i64 0,.string xO,.slice (some ⟨M,0,none⟩) 2 2] 28);have hv6:=zke (heap_alloc_new w4 (.cells #[.string xX,.int .u8 1,.int .i64 0] 38)) (.cells #[.int .u8 k,.int .i64 0,.string xO,.slice (some ⟨M,0,none⟩) 2 2] 28);have gT:=heap_alloc_new (w4.alloc (.cells #[.string xX,.int .u8 1,.int .i64 0] 38)) (.cells #[.int .u8 k,.int .i64 0,.string xO,.slice (some ⟨M,0,none⟩) 2 2] 28);rw[World.size_alloc]at gT;have Ak:=zkc hm4 hb6;have bu:=zkc hk4 hb6;obtain⟨x0,x1,x2,x3⟩:=box4 (zkc rO hb5);obtain⟨w6,jR⟩:=zX ((w4.alloc (.cells #[.string xX,.int .u8 1,.int .i64 0] 38)).alloc (.cells #[.int .u8 k,.int .i64 0,.string xO,.slice (some ⟨M,0,none⟩) 2 2] 28));obtain⟨z0,z1,z2,z3⟩:=box4 rO;rw[lY]at hv6 gT
 have qp:(w4.alloc (.cells #[.string xX,.int .u8 1,.int .i64 0] 38)).heap.size=M+3:=by simp[lY]
 rw[jR]at hb6 hv6 gT Ak bu;obtain⟨w7,hw7,wW,pE⟩:=zsX (.slice (some ⟨M+2,0,none⟩) 1 1) (.slice none 0 0) (.int .u8 57) (.int .i64 0) (.string xO) (.slice (some ⟨M+2+1,0,none⟩) 1 1) bu;obtain⟨q0,q1,q2,q3,q4,q5⟩:=box6 bu;have cf:∀o,w6.frozen? ⟨N,o,none⟩=false:=fun o=>zf bu;have hv7:=pE.keep hv6 (fun e:M+2=N=>by omega);have wQ:=pE.keep gT (fun e:M+2+1=N=>by omega);have hm7:=pE.keep Ak (fun e:M=N=>by omega);have xK:=zh (show NV w7 Any (updP k n).m (nv 57 0 xO (some ⟨M+2+1,0,none⟩) 1 1)from zLs (fldG 57 0 (by decide) ⟨by decide,by decide⟩) trivial wQ (zLr (fldG k 0 HKN.out.1 ⟨by decide,by decide⟩) trivial hm7 (zsP _ Any ⟨by decide,by decide,by decide⟩) (zsP _ Any (fldG 1 n (by decide) HKN.out.2))));have BQ:=zh hv7
 have BI:=zh (show PV w7 Any (updP k n) (pv (some ⟨M+2,0,none⟩) 1 1 none 0 0 57 0 xO (some ⟨M+2+1,0,none⟩) 1 1)from⟨some ⟨M+2,0,none⟩,1,none,0,some ⟨M+2+1,0,none⟩,1,rfl,⟨fun i hi=>by
   obtain rfl:i=0:=by simp[updP]at hi;omega
   exact⟨⟨M+2,0,none⟩,rfl,trivial,⟨zc BQ.out rfl,zc BQ.out rfl,zc BQ.out rfl⟩,show FldV ⟨xX,1,0⟩from⟨by decide,by decide,by decide⟩⟩,show(1:Nat)<=LV by decide,show(1:Nat)<=1 by decide,fun i hi=>by simp[updP]at hi,show(0:Nat)<=LV by decide,show(0:Nat)<=0 by decide,xK.out⟩⟩)
 have ll:=zh (show Below w.heap.size w w7 from(zka HB0.out (zka HB3.out (zka hb4 hb6))).trans (pE.below (zka HB0.out (zka HB3.out (zka hb4 hb6))).size fun b (e:b=N)=>by have:=HN.out;omega));obtain⟨t0,t1,t2,t3,t4,t5⟩:=box6 wW;clear hb5 hb6 hv6 gT Ak bu wW pE hv7 wQ hm7 hm4 rO hk4 hb4;go_wp2_with fail;exact bodyPost_ret (v:=pv (some ⟨M+2,0,none⟩) 1 1 none 0 0 57 0 xO (some ⟨M+2+1,0,none⟩) 1 1) (by simp[results,results21,go_sem,t0,t1,t2,t3,t4,t5]) rfl ⟨_,rfl,BI.out,ll.out⟩
end
section
open Go Go.RowKit
attribute [local go_sem] Oper.semAt_some
theorem zve(a b:List VD):eqVs a b=eqVs b a:=by
 rw[Bool.eq_iff_iff,zmQ,zmQ];exact eq_comm
theorem zoh{W:World}{e:EX}{q:PG}{ev qv:Value}(he:EV W Any e ev)(hq:PV W Any q qv) :
  Calls prog 10 #[ev,qv] W fun en w'=>en=.returned (.int .i64 (admE e q))/\Below W.heap.size W w':=by
 have lU:=zh (fun w' (hb:Below W.heap.size W w')=>he.later hb);have HQ:=zh (fun w' (hb:Below W.heap.size W w')=>hq.later hb);obtain⟨A1,c1,A2,c2,A3,c3,rfl,hg,hI⟩:=he;obtain⟨D1,e1,D2,e2,D3,e3,rfl,jS⟩:=hq;have hb2:=zkb (zkb (zs W) (.cells (exA e A1 c1 A2 c2 A3 c3) 32)) (.cells (pgA q D1 e1 D2 e2 D3 e3) 30);have k0:=zke (heap_alloc_new W (.cells (exA e A1 c1 A2 c2 A3 c3) 32)) (.cells (pgA q D1 e1 D2 e2 D3 e3) 30);have k1:=heap_alloc_new (W.alloc (.cells (exA e A1 c1 A2 c2 A3 c3) 32)) (.cells (pgA q D1 e1 D2 e2 D3 e3) 30);rw[World.size_alloc]at k1;obtain⟨w2,hw2⟩:=zX ((W.alloc (.cells (exA e A1 c1 A2 c2 A3 c3) 32)).alloc (.cells (pgA q D1 e1 D2 e2 D3 e3) 30));obtain⟨N,hN⟩:=zX (W.heap.size);rw[hw2]at hb2 k0 k1;rw[hN]at k0 k1;have HB:=zh hb2;have dF:=zh (fun w' (h:Below w2.heap.size w2 w')=>znE (zkc k0 h));have dH:=zh (fun w' (h:Below w2.heap.size w2 w')=>box6 (zkc k1 h))
 have bS:=zh (zs w2);have tT:=zh (zoF e _ w2 (lU.out _ hb2));have bK:=zh (fun w' (h:Below w2.heap.size w2 w')=>zre (HQ.out _ (zka hb2 h)));have dG:=zh (fun w' (h:Below w2.heap.size w2 w')=>zlA q Any _ w' (HQ.out _ (zka hb2 h)));have gV:=zh (fun w' (h:Below w2.heap.size w2 w')=>zlL q Any _ w' (HQ.out _ (zka hb2 h)));have jN:=zh (fun w' (h:Below w2.heap.size w2 w')=>zxN (W:=w') (c:=c1) (d:=e1) ((hg.vars.later hb2).later h) ((jS.vars.later hb2).later h) hg.lv jS.lv);obtain⟨VX,mK⟩:=zX (zk9 e);obtain⟨AD,lJ⟩:=zX (admE e q);have HAD:=zh lJ;have jE:=zh mK;rw[lJ];rw[mK]at tT;clear hb2 k0 k1 hg jS mK lJ hI;obtain⟨x0,x1,x2,x3,x4,x5,x6,x7,x8,x9,aJ,aI⟩:=dF.out _ bS.out;obtain⟨q0,q1,q2,q3,q4,q5⟩:=dH.out _ bS.out;go_enter func10,ntmps10;go_upto_region 1 with fail
 try rw[hw2]
 try rw[hN]
 clear hw2 hN;go_wp2_with fail;refine tT.out.mono ?_;rintro en w3 ⟨rfl,hb3⟩;have aX:=zh (zka bS.out hb3);clear hb3 tT;obtain⟨x0,x1,x2,x3,x4,x5,x6,x7,x8,x9,aJ,aI⟩:=dF.out _ aX.out;obtain⟨q0,q1,q2,q3,q4,q5⟩:=dH.out _ aX.out
 cases VX
 ·have HF:=zh (show admE e q=1 by unfold admE;rw[jE.out];rfl);go_wp2_with fail;go_ret;exact⟨by rw[<-HAD.out,HF.out];rfl,zka HB.out aX.out⟩
 have nT:=zh (show admE e q=admP e.gv.vs q by unfold admE;rw[jE.out];rfl);go_wp2_with fail;refine(dG.out _ aX.out).mono ?_;rintro en w5 ⟨rfl,hb5⟩;have bO:=zh (zka aX.out hb5);clear hb5 dG;obtain⟨x0,x1,x2,x3,x4,x5,x6,x7,x8,x9,aJ,aI⟩:=dF.out _ bO.out;obtain⟨q0,q1,q2,q3,q4,q5⟩:=dH.out _ bO.out;obtain⟨VB,sU⟩:=zX (zkH q);have bg:=zh sU;rw[sU];clear sU
 cases VB
 ·have HF:=zh (show admE e q=3 by rw[nT.out];unfold admP;rw[bg.out];rfl);go_wp2_with fail;go_ret;exact⟨by rw[<-HAD.out,HF.out];rfl,zka HB.out bO.out⟩
 have tq:=gV.out _ bO.out;rw[if_pos bg.out]at tq;have nz:=zh tq;clear tq gV;go_wp2_with fail;refine nz.out.mono ?_;rintro en w6 ⟨B0,d0,rfl,hb6⟩;have dS:=zh (zka bO.out hb6);clear hb6 nz;obtain⟨x0,x1,x2,x3,x4,x5,x6,x7,x8,x9,aJ,aI⟩:=dF.out _ dS.out;obtain⟨q0,q1,q2,q3,q4,q5⟩:=dH.out _ dS.out;obtain⟨CN,iC⟩:=zX (chkN q);have lh:=zh iC;rw[iC];clear iC;by_cases hc:CN=0
 ·have hz1:decide ((CN:Int)>0)=false:=by simp;omega
  have hz2:decide (0<CN)=false:=by simp;omega
  have qO:=zh (lh.out.trans hc);clear hc;go_wp2_with fail;refine(bK.out _ dS.out).mono ?_;rintro en w4 ⟨R,n,c,rfl,hR,hb4⟩;have bJ:=zh (zka dS.out hb4);clear hb4;obtain⟨x0,x1,x2,x3,x4,x5,x6,x7,x8,x9,aJ,aI⟩:=dF.out _ bJ.out;obtain⟨q0,q1,q2,q3,q4,q5⟩:=dH.out _ bJ.out;obtain⟨hn,hcell⟩:=hR ⟨bg.out,qO.out⟩;have xJ:=zh hn;clear hn hR;by_cases hz:n=0
  ·have xg:=zh (xJ.out.symm.trans hz);have hz3:decide ((n:Int)>0)=false:=by simp;omega
   have lY:decide (0<n)=false:=by simp;omega
   clear hz hcell;go_wp2_with fail;refine(jN.out _ bJ.out).mono ?_;rintro en w7 ⟨rfl,eX⟩;have gY:=zh (zka bJ.out eX);obtain⟨EQ,tJ⟩:=zX (eqVs e.gv.vs q.vs);have HE:=zh (show eqVs q.vs e.gv.vs=EQ by rw[zve,tJ]);rw[tJ];clear tJ
   cases EQ
   ·have HF:=zh (show admE e q=7 by rw[nT.out];unfold admP;rw[bg.out,qO.out,xg.out,HE.out];rfl);go_wp2_with fail;go_ret;exact⟨by rw[<-HAD.out,HF.out];rfl,zka HB.out gY.out⟩
   ·have HF:=zh (show admE e q=0 by rw[nT.out];unfold admP;rw[bg.out,qO.out,xg.out,HE.out];rfl);go_wp2_with fail;go_ret;exact⟨by rw[<-HAD.out,HF.out];rfl,zka HB.out gY.out⟩
  ·obtain⟨g,rfl,sG⟩:=hcell hz;have hz3:decide ((n:Int)>0)=true:=by simp;omega
   have lY:decide (0<n)=true:=by simp;omega
   have HF:=zh (show admE e q=(rjA q).headD 0 by rw[nT.out];unfold admP;rw[bg.out,qO.out,if_pos rfl,if_pos rfl,if_neg (fun h=>hz (xJ.out.trans h))]);obtain⟨HD,xu⟩:=zX ((rjA q).headD 0);rw[xu]at HF sG;clear xu;go_wp2_with fail;go_ret;exact⟨by rw[<-HAD.out,HF.out];rfl,zka HB.out bJ.out⟩
 ·have hz1:decide ((CN:Int)>0)=true:=by simp;omega
  have hz2:decide (0<CN)=true:=by simp;omega
  have HF:=zh (show admE e q=3 by rw[nT.out];unfold admP;rw[bg.out,lh.out,if_pos rfl,if_neg hc]);go_wp2_with fail;go_ret;exact⟨by rw[<-HAD.out,HF.out];rfl,zka HB.out dS.out⟩
end
section
open Go Go.RowKit
attribute [local go_sem] Oper.semAt_some
abbrev xInc:ByteArray:=⟨#[105,110,99]⟩
def gxE:EX:=⟨xInc,5,9,⟨2,0,0⟩,updP 40 1⟩
theorem zuU:allS gxE.bx (lenE gxE.gv.vs gxE.bx)=[⟨[[0]],[],[]⟩,⟨[[1]],[],[]⟩,⟨[[-1]],[],[]⟩,⟨[[2]],[],[]⟩,⟨[[-2]],[],[]⟩]:=by kernel_rfl
theorem gx_a:admE gxE (updP 41 1)=0:=by kernel_rfl
theorem gx_b:admE gxE (updP 41 2)=0:=by kernel_rfl
theorem zLd:grdE gxE (updP 41 1)=(true,5,nilS,0):=by unfold grdE;rw[zuU];kernel_rfl
def gxS:SS:=⟨[[0]],[],[]⟩
theorem zLc:grdE gxE (updP 41 2)=(false,1,gxS,0):=by unfold grdE;rw[zuU];kernel_rfl
theorem zLe(q:PG)(h:admE gxE q=0):(gxE.bx.ok&&svB gxE.gv.vs)=true/\(allS gxE.bx (lenE gxE.gv.vs gxE.bx)).length<=1000000/\gxE.fu<=1000000:=⟨by kernel_rfl,by rw[zuU];decide,by decide⟩
theorem zLn(n:Int)(w:World):(Instr.build 23 #[(0,.int .i64 n)]).run prog w=.ok (.agg #[.int .i64 n,.int .i64 0,.int .i64 0]) w:=by kernel_rfl
theorem bExK(s t:ByteArray)(a b x y z:Int)(A B D:Option Addr)(l c m d j e:Nat)(k n:Int)(w:World):(Instr.build 32 #[(0,.string s),(1,.int .i64 a),(2,.int .i64 b),(3,.agg #[.int .i64 x,.int .i64 y,.int .i64 z]),(4,pv A l c B m d k n t D j e)]).run prog w=.ok (.agg #[.string s,.int .i64 a,.int .i64 b,.int .i64 x,.int .i64 y,.int .i64 z,.slice A l c,.slice B m d,.int .u8 k,.int .i64 n,.string t,.slice D j e]) w:=by kernel_rfl
theorem zKq:IsFn prog 21 Tryz.f21:=⟨func21,by kernel_rfl,by kernel_rfl⟩
theorem zKu:IsFn prog 13 f13:=⟨func13,by kernel_rfl,by kernel_rfl⟩
abbrev AlK(w0:World)(Z:Array Value)(E:TypeId)(u:Value)(w:World):Prop:=∃b,u=.pointer (some ⟨b,0,none⟩)/\w0.heap.size<=b/\w.heap[b]?=some (.cells Z E (0,0))
abbrev nzVd:Array Value := #[.bool false,.int .i64 0,.slice none 0 0,.slice none 0 0,.slice none 0 0,.int .i64 0]
def VdF(r:Bool×Nat×SS×Int)(v:Value):Prop:=∃A c B d D e,v=.tuple #[.agg (vdA r.1 (r.2.1:Int) A r.2.2.1.cells.length c B r.2.2.1.tin.length d D r.2.2.1.tout.length e r.2.2.2),.int .i64 0]
theorem zsz{w:World}{q:PG}{ev qv:Value}(he:EV w Any gxE ev)(hq:PV w Any q qv)(h:admE gxE q=0){r:Bool×Nat×SS×Int}(hr:grdE gxE q=r) :
  Calls prog 13 #[ev,qv] w fun e w'=>∃v,e=.returned v/\(VdF r v/\Below w.heap.size w w'):=by
 have:=zoS he hq (zLe q);rw[if_pos h,hr,h]at this;exact this.mono fun e w' ⟨A,c,B,d,D,e',h1,_,h3⟩=>⟨_,h1,⟨A,c,B,d,D,e',rfl⟩,h3⟩
theorem zlS(w:World):Calls prog 8 #[] w fun e w'=>e=.returned (.bool true)/\Below w.heap.size w w':=by
 have h1:=zLn;have h2:=bExK;go_enter func8,ntmps8;go_wp2_with fail;refine(znu 40 1 (by decide) ⟨by decide,by decide⟩ _).mono ?_;rintro en w1 ⟨v,rfl,hpv,hb1⟩;obtain⟨A1,c1,A2,c2,A3,c3,rfl,ji⟩:=hpv;have HB1:=zh hb1;have xI:=zh ji;clear ji hb1;go_upto_region 2 with fail;have hb2:Below w1.heap.size w1 (w1.alloc (.cells (exA gxE A1 c1 A2 c2 A3 c3) 32)):=zkb (zs w1) _;have k2:=heap_alloc_new w1 (.cells (exA gxE A1 c1 A2 c2 A3 c3) 32);obtain⟨w2,hw2⟩:=zX (w1.alloc (.cells #[.string xInc,.int .i64 5,.int .i64 9,.int .i64 2,.int .i64 0,.int .i64 0,.slice A1 (updP 40 1).vs.length c1,.slice A2 (updP 40 1).prs.length c2,.int .u8 (updP 40 1).m.k,.int .i64 (updP 40 1).m.n,.string (updP 40 1).m.s,.slice A3 (updP 40 1).m.ks.length c3] 32));have hw2':w1.alloc (.cells (exA gxE A1 c1 A2 c2 A3 c3) 32)=w2:=hw2;obtain⟨E0,hE0⟩:=zX (w1.heap.size);rw[hw2']at hb2 k2;rw[hw2,hE0];rw[hE0]at k2
 have HB2:=zh (zka HB1.out hb2);have lU:=zh (fun w' (h:Below w2.heap.size w2 w')=>(show EV w' Any gxE (.agg (exA gxE A1 c1 A2 c2 A3 c3))from⟨A1,c1,A2,c2,A3,c3,rfl,(xI.out.later hb2).later h,show I64 9 from⟨by decide,by decide⟩⟩));have HEC:=zh (fun w' (h:Below w2.heap.size w2 w')=>znE (zkc k2 h));have HR2:=zh (zs w2);clear hb2 k2 hw2 hw2' hE0 h1 h2;have av:=zh (show ∀w',Below w2.heap.size w2 w'->(fun w':World=>exS w' E0 gxE A1 c1 A2 c2 A3 c3) w' from fun w' hb=>HEC.out _ (zka HR2.out hb));have hSS:zW (fun w':World=>exS w' E0 gxE A1 c1 A2 c2 A3 c3) zU w2.drew:=⟨av.out _ zr.drew,trivial⟩
 refine wp_region_noPanic ?_;refine zG hSS 20 ?_;refine zT 0 hSS ?_;have hI:(fun w=>Below w2.heap.size w2 w) w2.drew:=zr.drew;clear hSS;refine zpI (i:=1) (j:=6) (some 11) (some 2) 6 (fun li l4 => #[true,li,false,false,false,false,l4,false,false]) _ (fun w=>Below w2.heap.size w2 w) (AlK w2 (nzVd) 46) (fun v w=>PV w Any (updP 41 1) v) rfl rfl rfl rfl (by kernel_rfl) (by kernel_rfl) (fun l4=>by cases l4<;>rfl) rfl (fun w h=>⟨av.out _ h,trivial⟩) (fun w w' h hb=>?_) (fun u w w' h hb=>?_) (fun v4 K w h aO=>?_) (fun v4 K w h aO=>?_) (fun u v=>?_) (fun l4 v4 v wc h hF hA hU=>?_) false undef w2.drew hI (fun h=>by cases h) (fun _=>rfl) ?_
 ·exact zka h hb
 ·obtain⟨b,e1,e2,e3⟩:=h;exact⟨b,e1,e2,zkc e3 hb⟩
 ·have hK:=zh aO;clear aO;have had:Calls prog 21 [.int .u8 41,.int .i64 1].toArray w fun e w'=>∃v,e=.returned v/\(PV w' Any (updP 41 1) v/\Below w.heap.size w w'):=znu 41 1 (by decide) ⟨by decide,by decide⟩ w;refine zkd (by rfl) (.func 21) [.const (.int .u8 41),.const (.int .i64 1)] _ (by rfl) 21 _ zKq (by rfl) _ (by rfl) _ had ?_;rintro v w' ⟨hv,hb⟩;exact hK.out _ _ hb hv
 ·have hK:=zh aO;clear aO;(try simp only[zQ]);(try simp only[zA,zB,zC]);go_simp;exact hK.out _ _ (zkb zr _) ⟨_,rfl,h.size,heap_alloc_new w _⟩
 ·simp only[Act.put,zD,zE,zF]
 rotate_left 1
 ·simp only[Act.put,zD,zE,zF]
 (try simp only[zQ]);clear hI;have hI:(fun w=>Below w2.heap.size w2 w/\PV w Any (updP 41 1) v) wc:=⟨h,hF⟩
 have xw:=hA;have sV:=hU;clear hA hU;refine zpI (i:=2) (j:=6) (some 12) (some 2) 5 (fun li l4 => #[true,true,li,false,false,false,l4,false,false]) _ (fun w=>Below w2.heap.size w2 w/\PV w Any (updP 41 1) v) (AlK w2 (nzVd) 46) (fun v w=>VdF (true,5,nilS,0) v) rfl rfl rfl rfl (by kernel_rfl) (by kernel_rfl) (fun l4=>by cases l4<;>rfl) rfl (fun w h=>⟨av.out _ h.1,trivial⟩) (fun w w' h hb=>?_) (fun u w w' h hb=>?_) (fun v4 K w h aO=>?_) (fun v4 K w h aO=>?_) (fun u v=>?_) (fun l4 v4 vv wc h hF hA hU=>?_) l4 v4 wc hI xw sV ?_
 ·exact⟨zka h.1 hb,h.2.later hb⟩
 ·obtain⟨b,e1,e2,e3⟩:=h;exact⟨b,e1,e2,zkc e3 hb⟩
 ·have hK:=zh aO;clear aO;have had:=zsz (lU.out _ (zka HR2.out h.1)) h.2 gx_a zLd;refine zkd (by rfl) (.func 13) [.tmp 10,.tmp 11] _ (by rfl) 13 _ zKu (by rfl) [.agg (exA gxE A1 c1 A2 c2 A3 c3),v] (by rfl) _ had ?_;rintro v w' ⟨hv,hb⟩;exact hK.out _ _ hb hv
 ·have hK:=zh aO;clear aO;(try simp only[zQ]);(try simp only[zA,zB,zC]);go_simp;exact hK.out _ _ (zkb zr _) ⟨_,rfl,h.1.size,heap_alloc_new w _⟩
 ·simp only[Act.put,zD,zE,zF]
 rotate_left 1
 ·simp only[Act.put,zD,zE,zF]
 (try simp only[zQ]);obtain⟨Ag,cg,Bg,dg,Dg,eg,rfl⟩:=hF;clear hI;have hSS:zW (fun w':World=>exS w' E0 gxE A1 c1 A2 c2 A3 c3) zU wc:=⟨av.out _ h.1,trivial⟩
 have hI:(fun w=>Below w2.heap.size w2 w) wc:=h.1;clear h xw sV;rw[Nat.add_comm 5];refine zkp (i:=3) (v:=?_) rfl (by kernel_rfl) (by cases l4<;>kernel_rfl) (by cases l4<;>kernel_rfl) (by decide) (fun _ _ _ h=>h) (Or.inl ⟨by rfl,?_⟩) hSS ?_;rotate_left 1
 ·(intro w hSw;(try dsimp only at hSw);(try simp only[zA,zB,zC]);go_simp;(try with_reducible rfl))
 (try simp only[zQ]);refine zkp (i:=4) (v:=?_) rfl (by kernel_rfl) (by cases l4<;>kernel_rfl) (by cases l4<;>kernel_rfl) (by decide) (fun _ _ _ h=>h) (Or.inl ⟨by rfl,?_⟩) hSS ?_;rotate_left 1
 ·(intro w hSw;(try dsimp only at hSw);(try simp only[zA,zB,zC]);go_simp;(try with_reducible rfl))
 (try simp only[zQ]);refine zkp (i:=5) (v:=?_) rfl (by kernel_rfl) (by cases l4<;>kernel_rfl) (by cases l4<;>kernel_rfl) (by decide) (fun _ _ _ h=>h) (Or.inl ⟨by rfl,?_⟩) hSS ?_;rotate_left 1
 ·(intro w hSw;(try dsimp only at hSw);(try simp only[zA,zB,zC]);go_simp;(try with_reducible rfl))
 (try simp only[zQ]);rw[Nat.add_comm (Bool.toNat _) 2];clear hSS;refine zr4 (j:=6) (some 2) 2 (fun l4 => #[true,true,true,true,true,true,l4,false,false]) _ (fun w=>Below w2.heap.size w2 w) (AlK w2 (nzVd) 46) rfl rfl (by kernel_rfl) rfl (fun w h=>⟨av.out _ h,trivial⟩) (fun w w' h hb=>zka h hb) (fun v4 K w h aO=>?_) (fun u v=>?_) (fun v5 w5 h5 Bl=>?_) l4 v4 wc hI hA ?_
 ·have hb0:=h;have hK:=zh aO;clear aO;(try simp only[zQ]);(try simp only[zA,zB,zC]);go_simp;exact hK.out _ _ (zkb zr _) ⟨_,rfl,hb0.size,heap_alloc_new w _⟩
 ·simp only[Act.put,zD,zE,zF]
 rotate_left 1
 ·simp only[Act.put,zD,zE,zF]
 (try simp only[zQ]);clear hI hA hU;obtain⟨ab,rfl,hbl,hbz⟩:=Bl;obtain⟨q0,q1,q2,q3,q4,q5⟩:=box6 hbz;have cf:∀o,w5.frozen? ⟨ab,o,none⟩=false:=fun _=>zf hbz;obtain⟨w6,wG,wU,hcy⟩:=zsX (.bool (true,5,nilS,0).1) (.int .i64 ((true,5,nilS,0).2.1:Int)) (.slice Ag (true,5,nilS,0).2.2.1.cells.length cg) (.slice Bg (true,5,nilS,0).2.2.1.tin.length dg) (.slice Dg (true,5,nilS,0).2.2.1.tout.length eg) (.int .i64 (true,5,nilS,0).2.2.2) hbz;have hby:Below w2.heap.size w2 w6:=h5.trans (hcy.below h5.size fun b (e:b=ab)=>by omega);have sW:zW (fun w':World=>exS w' E0 gxE A1 c1 A2 c2 A3 c3) zU w6:=⟨av.out _ hby,trivial⟩
 have dG:=zh wU;have ek:=zh (zka HR2.out hby);have HB26:=zh hby;refine zo 7 fun K hK=>?_;(try simp only[zA,zB,zC]);go_simp;refine hK.out _ _ sW ?_;clear hK K q0 q1 q2 q3 q4 q5 cf wG wU hcy hby h5 hbz;(try simp only[zQ]);refine zT 8 sW ?_;refine zd ?_;refine NoPanic.normal ?_;clear sW av;go_upto_region 3 with fail;have tX:=zh (show w6.heap[ab]?=some (.cells #[.bool true,.int .i64 5,.slice Ag 0 cg,.slice Bg 0 dg,.slice Dg 0 eg,.int .i64 0] 46 (0,0))from dG.out);clear dG;have av:=zh (show ∀w',Below w6.heap.size w6 w'->(fun w':World=>exS w' E0 gxE A1 c1 A2 c2 A3 c3) w' from fun w' hb=>HEC.out _ (zka ek.out hb));have hSS:zW (fun w':World=>exS w' E0 gxE A1 c1 A2 c2 A3 c3) zU w6.drew:=⟨av.out _ zr.drew,trivial⟩
 refine wp_region_noPanic ?_;refine zG hSS 20 ?_;refine zT 0 hSS ?_;have hI:(fun w=>Below w6.heap.size w6 w) w6.drew:=zr.drew;clear hSS;refine zpI (i:=1) (j:=6) (some 17) (some 4) 6 (fun li l4 => #[true,li,false,false,false,false,l4,false,false]) _ (fun w=>Below w6.heap.size w6 w) (AlK w6 (nzVd) 46) (fun v w=>PV w Any (updP 41 2) v) rfl rfl rfl rfl (by kernel_rfl) (by kernel_rfl) (fun l4=>by cases l4<;>rfl) rfl (fun w h=>⟨av.out _ h,trivial⟩) (fun w w' h hb=>?_) (fun u w w' h hb=>?_) (fun v4 K w h aO=>?_) (fun v4 K w h aO=>?_) (fun u v=>?_) (fun l4 v4 v wc h hF hA hU=>?_) false undef w6.drew hI (fun h=>by cases h) (fun _=>rfl) ?_
 ·exact zka h hb
 ·obtain⟨b,e1,e2,e3⟩:=h;exact⟨b,e1,e2,zkc e3 hb⟩
 ·have hK:=zh aO;clear aO;have had:Calls prog 21 [.int .u8 41,.int .i64 2].toArray w fun e w'=>∃v,e=.returned v/\(PV w' Any (updP 41 2) v/\Below w.heap.size w w'):=znu 41 2 (by decide) ⟨by decide,by decide⟩ w;refine zkd (by rfl) (.func 21) [.const (.int .u8 41),.const (.int .i64 2)] _ (by rfl) 21 _ zKq (by rfl) _ (by rfl) _ had ?_;rintro v w' ⟨hv,hb⟩;exact hK.out _ _ hb hv
 ·have hK:=zh aO;clear aO;(try simp only[zQ]);(try simp only[zA,zB,zC]);go_simp;exact hK.out _ _ (zkb zr _) ⟨_,rfl,h.size,heap_alloc_new w _⟩
 ·simp only[Act.put,zD,zE,zF]
 rotate_left 1
 ·simp only[Act.put,zD,zE,zF]
 (try simp only[zQ]);clear hI;have hI:(fun w=>Below w6.heap.size w6 w/\PV w Any (updP 41 2) v) wc:=⟨h,hF⟩
 have xw:=hA;have sV:=hU;clear hA hU;refine zpI (i:=2) (j:=6) (some 18) (some 4) 5 (fun li l4 => #[true,true,li,false,false,false,l4,false,false]) _ (fun w=>Below w6.heap.size w6 w/\PV w Any (updP 41 2) v) (AlK w6 (nzVd) 46) (fun v w=>VdF (false,1,gxS,0) v) rfl rfl rfl rfl (by kernel_rfl) (by kernel_rfl) (fun l4=>by cases l4<;>rfl) rfl (fun w h=>⟨av.out _ h.1,trivial⟩) (fun w w' h hb=>?_) (fun u w w' h hb=>?_) (fun v4 K w h aO=>?_) (fun v4 K w h aO=>?_) (fun u v=>?_) (fun l4 v4 vv wc h hF hA hU=>?_) l4 v4 wc hI xw sV ?_
 ·exact⟨zka h.1 hb,h.2.later hb⟩
 ·obtain⟨b,e1,e2,e3⟩:=h;exact⟨b,e1,e2,zkc e3 hb⟩
 ·have hK:=zh aO;clear aO;have had:=zsz (lU.out _ (zka ek.out h.1)) h.2 gx_b zLc;refine zkd (by rfl) (.func 13) [.tmp 16,.tmp 17] _ (by rfl) 13 _ zKu (by rfl) [.agg (exA gxE A1 c1 A2 c2 A3 c3),v] (by rfl) _ had ?_;rintro v w' ⟨hv,hb⟩;exact hK.out _ _ hb hv
 ·have hK:=zh aO;clear aO;(try simp only[zQ]);(try simp only[zA,zB,zC]);go_simp;exact hK.out _ _ (zkb zr _) ⟨_,rfl,h.1.size,heap_alloc_new w _⟩
 ·simp only[Act.put,zD,zE,zF]
 rotate_left 1
 ·simp only[Act.put,zD,zE,zF]
 (try simp only[zQ]);obtain⟨Ag,cg,Bg,dg,Dg,eg,rfl⟩:=hF;clear hI;have hSS:zW (fun w':World=>exS w' E0 gxE A1 c1 A2 c2 A3 c3) zU wc:=⟨av.out _ h.1,trivial⟩
 have hI:(fun w=>Below w6.heap.size w6 w) wc:=h.1;clear h xw sV;rw[Nat.add_comm 5];refine zkp (i:=3) (v:=?_) rfl (by kernel_rfl) (by cases l4<;>kernel_rfl) (by cases l4<;>kernel_rfl) (by decide) (fun _ _ _ h=>h) (Or.inl ⟨by rfl,?_⟩) hSS ?_;rotate_left 1
 ·(intro w hSw;(try dsimp only at hSw);(try simp only[zA,zB,zC]);go_simp;(try with_reducible rfl))
 (try simp only[zQ]);refine zkp (i:=4) (v:=?_) rfl (by kernel_rfl) (by cases l4<;>kernel_rfl) (by cases l4<;>kernel_rfl) (by decide) (fun _ _ _ h=>h) (Or.inl ⟨by rfl,?_⟩) hSS ?_;rotate_left 1
 ·(intro w hSw;(try dsimp only at hSw);(try simp only[zA,zB,zC]);go_simp;(try with_reducible rfl))
 (try simp only[zQ]);refine zkp (i:=5) (v:=?_) rfl (by kernel_rfl) (by cases l4<;>kernel_rfl) (by cases l4<;>kernel_rfl) (by decide) (fun _ _ _ h=>h) (Or.inl ⟨by rfl,?_⟩) hSS ?_;rotate_left 1
 ·(intro w hSw;(try dsimp only at hSw);(try simp only[zA,zB,zC]);go_simp;(try with_reducible rfl))
 (try simp only[zQ]);rw[Nat.add_comm (Bool.toNat _) 2];clear hSS;refine zr4 (j:=6) (some 4) 2 (fun l4 => #[true,true,true,true,true,true,l4,false,false]) _ (fun w=>Below w6.heap.size w6 w) (AlK w6 (nzVd) 46) rfl rfl (by kernel_rfl) rfl (fun w h=>⟨av.out _ h,trivial⟩) (fun w w' h hb=>zka h hb) (fun v4 K w h aO=>?_) (fun u v=>?_) (fun v5 w5 h5 Bl=>?_) l4 v4 wc hI hA ?_
 ·have hb0:=h;have hK:=zh aO;clear aO;(try simp only[zQ]);(try simp only[zA,zB,zC]);go_simp;exact hK.out _ _ (zkb zr _) ⟨_,rfl,hb0.size,heap_alloc_new w _⟩
 ·simp only[Act.put,zD,zE,zF]
 rotate_left 1
 ·simp only[Act.put,zD,zE,zF]
 (try simp only[zQ]);clear hI hA hU;obtain⟨bb,rfl,hbl,hbz⟩:=Bl;obtain⟨q0,q1,q2,q3,q4,q5⟩:=box6 hbz;have cf:∀o,w5.frozen? ⟨bb,o,none⟩=false:=fun _=>zf hbz;obtain⟨aT,wG,wU,hcy⟩:=zsX (.bool (false,1,gxS,0).1) (.int .i64 ((false,1,gxS,0).2.1:Int)) (.slice Ag (false,1,gxS,0).2.2.1.cells.length cg) (.slice Bg (false,1,gxS,0).2.2.1.tin.length dg) (.slice Dg (false,1,gxS,0).2.2.1.tout.length eg) (.int .i64 (false,1,gxS,0).2.2.2) hbz;have hby:Below w6.heap.size w6 aT:=h5.trans (hcy.below h5.size fun b (e:b=bb)=>by omega);have sW:zW (fun w':World=>exS w' E0 gxE A1 c1 A2 c2 A3 c3) zU aT:=⟨av.out _ hby,trivial⟩
 have bg:=zh wU;have uu:=zh (zka ek.out hby);have HB610:=zh hby;refine zo 7 fun K hK=>?_;(try simp only[zA,zB,zC]);go_simp;refine hK.out _ _ sW ?_;clear hK K q0 q1 q2 q3 q4 q5 cf wG wU hcy hby h5 hbz;(try simp only[zQ]);refine zT 8 sW ?_;refine zd ?_;refine NoPanic.normal ?_;clear sW av;have HVB2:=zh (show aT.heap[bb]?=some (.cells #[.bool false,.int .i64 1,.slice Ag 1 cg,.slice Bg 0 dg,.slice Dg 0 eg,.int .i64 0] 46 (0,0))from bg.out);obtain⟨a0,a1,a2,a3,a4,a5⟩:=box6 (zkc tX.out HB610.out);obtain⟨b0,b1,b2,b3,b4,b5⟩:=box6 HVB2.out;clear bg;go_wp2_with fail;go_ret;exact⟨rfl,zka HB2.out uu.out⟩
end
section
open Go Go.RowKit
def timR(a b:Int):Int:=if a≠0/\(1099511627776:Int).tdiv a<b then 1099511627777 else a*b
def powR(b:Int):Nat->Int
 | 0=>1
 | n+1=>timR (powR b n) b
def upA(b:Int):Int->List Nat->Int
 | s,[]=>s
 | s,i::l=>if 1099511627776<s+powR b i then 1099511627777 else upA b (s+powR b i) l
def upR(b:Int)(n:Nat):Int:=upA b 0 (List.range (n+1))
def cnt1(b:BX)(v:VD):Int:=if v.k=1 then 2*b.v+1 else if v.k=2 then powR (2*b.v+1) v.n.toNat else upR (2*b.v+1) b.l.toNat
def cntF(vs:List VD)(b:BX):Int:=vs.foldl (fun n v=>timR n (cnt1 b v)) (upR (2*b.v+1) b.i.toNat)
def rngZ(v:Int):List Int:=(List.range (2*v+1).toNat).map fun i:Nat=>(i:Int)-v
def tupE(v:Int):Nat->List (List Int)
 | 0=>[[]]
 | n+1=>(tupE v n).flatMap fun t=>(rngZ v).map fun x=>t++[x]
def betE(v:Int)(a m:Nat):List (List Int):=(List.range (m+1-a)).flatMap fun i=>tupE v (a+i)
def lstE(b:BX)(v:VD):List (List Int):=if v.k=1 then betE b.v 1 1 else if v.k=2 then betE b.v v.n.toNat v.n.toNat else betE b.v 0 b.l.toNat
def stg(st:List SS)(l:List (List Int)):List SS:=st.flatMap fun s=>l.map fun x=>⟨s.cells++[x],[],[]⟩
def stgF(b:BX)(vs:List VD):List SS:=vs.foldl (fun st v=>stg st (lstE b v)) [nilS]
def allU(vs:List VD)(b:BX):List SS:=(stgF b vs).flatMap fun s=>(betE b.v 0 b.i.toNat).map fun x=>⟨s.cells,x,[]⟩
theorem zpK{a b:Int}(ha:1<=a/\a<=1099511627777)(hb:1<=b/\b<=1099511627777):1<=timR a b/\timR a b<=1099511627777:=by
 unfold timR
 split
 ·omega
 ·rename_i h;have h1:b<=(1099511627776:Int).tdiv a:=by
   by_cases h2:b<=(1099511627776:Int).tdiv a
   ·exact h2
   ·exact absurd ⟨by omega,by omega⟩ h
  rw[Int.tdiv_eq_ediv_of_nonneg (by decide)]at h1;have h2:b*a<=1099511627776:=(Int.le_ediv_iff_mul_le (by omega)).1 h1;have h3:1*1<=a*b:=Int.mul_le_mul ha.1 hb.1 (by decide) (by omega);rw[Int.mul_comm]at h2;omega
theorem znv{a b:Int}(ha:1<=a)(hb:1<=b)(h:timR a b<=60):timR a b=a*b/\a<=60/\b<=60:=by
 unfold timR at h ⊢
 split at h
 ·omega
 ·rename_i h0;rw[if_neg h0];have h1:a*1<=a*b:=Int.mul_le_mul_of_nonneg_left hb (by omega);have h2:1*b<=a*b:=Int.mul_le_mul_of_nonneg_right ha (by omega);exact⟨rfl,by omega,by omega⟩
theorem zmh{b:Int}(hb:1<=b/\b<=2001):∀n,1<=powR b n/\powR b n<=1099511627777
 | 0=>by unfold powR;omega
 | n+1=>zpK (zmh hb n) (by omega)
theorem zny{b:Int}(hb:1<=b/\b<=2001):∀n,powR b n<=60->powR b n=b ^ n
 | 0,_=>by rw[Int.pow_zero];rfl
 | n+1,h=>by
  have h1:=znv (zmh hb n).1 hb.1 h;rw[powR,h1.1,zny hb n h1.2.1,Int.pow_succ]
theorem zrl{b:Int}(hb:1<=b/\b<=2001):∀(l:List Nat) (s:Int),0<=s/\s<=1099511627776->s<=upA b s l/\upA b s l<=1099511627777
 | [],s,h=>by unfold upA;omega
 | i::l,s,h=>by
  have h1:=zmh hb i;unfold upA
  split
  ·omega
  ·have:=zrl hb l (s+powR b i) (by omega);omega
theorem zrk{b:Int}(hb:1<=b/\b<=2001)(n:Nat):1<=upR b n/\upR b n<=1099511627777:=by
 unfold upR;rw[List.range_succ_eq_map];unfold upA;rw[if_neg (by unfold powR;decide)];have:=zrl hb (List.map Nat.succ (List.range n)) (0+powR b 0) (by unfold powR;decide);unfold powR at this ⊢;omega
theorem zqp{b:Int}(hb:1<=b/\b<=2001):∀(l:List Nat) (s:Int),0<=s->upA b s l<=60->upA b s l=s+(l.map fun i=>b ^ i).sum/\∀i∈l,powR b i<=60
 | [],s,_,h=>by unfold upA;simp
 | i::l,s,h0,h=>by
  have h1:=zmh hb i;unfold upA at h ⊢
  split at h
  ·omega
  ·rename_i h2;rw[if_neg h2];have h3:=zqp hb l (s+powR b i) (by omega) h;have h4:=(zrl hb l (s+powR b i) (by omega)).1;have h5:powR b i<=60:=by omega
   rw[h3.1,zny hb i h5];refine⟨by simp;omega,fun j hj=>?_⟩;rcases List.mem_cons.1 hj with rfl|hj
   ·exact h5
   ·exact h3.2 j hj
theorem zwz(v:Int):(rngZ v).length=(2*v+1).toNat:=by simp[rngZ]
theorem zr8{v:Int}(hv:0<=v):∀n,((tupE v n).length:Int)=(2*v+1) ^ n
 | 0=>by rw[Int.pow_zero];rfl
 | n+1=>by
  have h:∀l:List (List Int),((l.flatMap fun t=>(rngZ v).map fun x=>t++[x]).length:Int)=l.length*(2*v+1):=by
   intro l
   induction l with
   | nil=>simp
   | cons t l ih =>
    rw[List.flatMap_cons,List.length_append,List.length_map,zwz,List.length_cons];have e:((2*v+1).toNat:Int)=2*v+1:=Int.toNat_of_nonneg (by omega)
    push_cast
    rw[ih,e,Int.add_mul];omega
  rw[tupE,h,zr8 hv n,Int.pow_succ]
theorem zn7{v:Int}(hv:0<=v)(a m:Nat):((betE v a m).length:Int)=((List.range (m+1-a)).map fun i=>(2*v+1) ^ (a+i)).sum:=by
 unfold betE
 induction List.range (m+1-a)with
 | nil=>rfl
 | cons i l ih=>rw[List.flatMap_cons,List.length_append,List.map_cons,List.sum_cons,<-ih,<-zr8 hv (a+i)];push_cast;rfl
theorem zl2{b:BX}(h:b.ok=true):(0<=b.v/\b.v<=1000)/\(0<=b.l/\b.l<=1000)/\0<=b.i/\b.i<=1000:=by
 simp only[BX.ok,okI,Bool.and_eq_true,decide_eq_true_eq]at h;omega
theorem zn5{b:BX}(hb:0<=b.v/\b.v<=1000)(v:VD):1<=cnt1 b v/\cnt1 b v<=1099511627777:=by
 unfold cnt1
 split
 ·omega
 ·split
  ·exact zmh (by omega) _
  ·exact zrk (by omega) _
theorem zya{v:Int}(hv:0<=v/\v<=1000){n:Nat}(h:upR (2*v+1) n<=60):((betE v 0 n).length:Int)=upR (2*v+1) n:=by
 have h1:=(zqp (b:=2*v+1) (by omega) (List.range (n+1)) 0 (by decide) h).1;rw[zn7 hv.1,show upR (2*v+1) n=upA (2*v+1) 0 (List.range (n+1))from rfl,h1];simp
theorem zuw{b:BX}{v:VD}(hb:0<=b.v/\b.v<=1000)(h:cnt1 b v<=60):((lstE b v).length:Int)=cnt1 b v:=by
 unfold lstE;unfold cnt1 at h ⊢;by_cases h1:v.k=1
 ·rw[if_pos h1]at h ⊢;rw[if_pos h1,zn7 hb.1];simp[Int.pow_succ]
 ·rw[if_neg h1]at h ⊢;rw[if_neg h1];by_cases h2:v.k=2
  ·rw[if_pos h2]at h ⊢;rw[if_pos h2,zn7 hb.1,zny (by omega) _ h];simp
  ·rw[if_neg h2]at h ⊢;rw[if_neg h2,zya hb h]
theorem znj{vs:List VD}{b:BX}{i:Nat}(hi:i<vs.length):cntF (vs.take (i+1)) b=timR (cntF (vs.take i) b) (cnt1 b vs[i]):=by
 unfold cntF;rw[List.take_succ_eq_append_getElem hi,List.foldl_append];rfl
theorem ztT{vs:List VD}{b:BX}{i:Nat}(hi:i<vs.length):stgF b (vs.take (i+1))=stg (stgF b (vs.take i)) (lstE b vs[i]):=by
 unfold stgF;rw[List.take_succ_eq_append_getElem hi,List.foldl_append];rfl
theorem zn4{b:BX}(hb:b.ok=true)(vs:List VD):1<=cntF vs b/\cntF vs b<=1099511627777:=by
 have hk:=zl2 hb;unfold cntF;have:∀(l:List VD) (n:Int),1<=n/\n<=1099511627777->1<=l.foldl (fun n v=>timR n (cnt1 b v)) n/\l.foldl (fun n v=>timR n (cnt1 b v)) n<=1099511627777:=by
  intro l
  induction l with
  | nil=>intro n h;exact h
  | cons v l ih=>intro n h;exact ih _ (zpK h (zn5 hk.1 v))
 exact this vs _ (zrk (by omega) _)
theorem zsG{vs:List VD}{b:BX}(hb:b.ok=true)(h:cntF vs b<=60):∀k,k<=vs.length->cntF (vs.take (vs.length-k)) b<=60
 | 0,_=>by simpa using h
 | k+1,hk=>by
  have h1:=zsG hb h k (by omega);rw[show vs.length-k=vs.length-(k+1)+1 by omega,znj (by omega)]at h1;exact(znv (zn4 hb _).1 (zn5 (zl2 hb).1 _).1 h1).2.1
theorem ztS(st:List SS)(l:List (List Int)):(stg st l).length=st.length*l.length:=by
 unfold stg
 induction st with
 | nil=>simp
 | cons s st ih=>rw[List.flatMap_cons,List.length_append,ih,List.length_map,List.length_cons,Nat.add_mul];omega
structure RefB(vs:List VD)(b:BX):Prop where
 one:∀i (hi:i<vs.length),cnt1 b vs[i]<=60/\(lstE b vs[i]).length<=60
 st:∀i,i<=vs.length->((stgF b (vs.take i)).length:Int)*upR (2*b.v+1) b.i.toNat=cntF (vs.take i) b/\(stgF b (vs.take i)).length<=60
 inp:((betE b.v 0 b.i.toNat).length:Int)=upR (2*b.v+1) b.i.toNat/\(betE b.v 0 b.i.toNat).length<=60
 all:((allU vs b).length:Int)=cntF vs b/\(allU vs b).length<=60
theorem zyP{vs:List VD}{b:BX}(hb:b.ok=true)(h:cntF vs b<=60):RefB vs b:=by
 have hk:=zl2 hb;have h1:∀i (hi:i<vs.length),cnt1 b vs[i]<=60/\cntF (vs.take i) b<=60/\cntF (vs.take (i+1)) b=cntF (vs.take i) b*cnt1 b vs[i]:=fun i hi=>by
  have h2:=zsG hb h (vs.length-(i+1)) (by omega);rw[show vs.length-(vs.length-(i+1))=i+1 by omega,znj hi]at h2;have h3:=znv (zn4 hb _).1 (zn5 hk.1 _).1 h2;exact⟨h3.2.2,h3.2.1,by rw[znj hi];exact h3.1⟩
 have hup:=zrk (b:=2*b.v+1) (by omega) b.i.toNat
 have hu:upR (2*b.v+1) b.i.toNat<=60:=by
  have:=zsG hb h vs.length zl;simpa[cntF]using this
 have hst:∀i,i<=vs.length->((stgF b (vs.take i)).length:Int)*upR (2*b.v+1) b.i.toNat=cntF (vs.take i) b:=by
  intro i
  induction i with
  | zero=>intro _;simp[stgF,cntF]
  | succ i ih =>
   intro hi;rw[ztT (by omega),ztS,(h1 i (by omega)).2.2,<-ih (by omega)]
   push_cast
   rw[zuw hk.1 (h1 i (by omega)).1,Int.mul_assoc,Int.mul_assoc,Int.mul_comm (cnt1 b vs[i])]
 have hle:∀i,i<=vs.length->(stgF b (vs.take i)).length<=60:=fun i hi=>by
  have h2:=zsG hb h (vs.length-i) (by omega);rw[show vs.length-(vs.length-i)=i by omega,<-hst i hi]at h2;have h3:((stgF b (vs.take i)).length:Int)*1<=((stgF b (vs.take i)).length:Int)*upR (2*b.v+1) b.i.toNat:=Int.mul_le_mul_of_nonneg_left hup.1 (by omega);omega
 have hin:=zya hk.1 hu;have hall:((allU vs b).length:Int)=cntF vs b:=by
  have h3:=hst vs.length zl;rw[List.take_length]at h3;rw[<-h3,<-hin];unfold allU
  induction stgF b vs with
  | nil=>simp
  | cons s st ih=>rw[List.flatMap_cons,List.length_append,List.length_map,List.length_cons];push_cast;rw[ih,Int.add_mul];omega
 exact⟨fun i hi=>⟨(h1 i hi).1,by have:=zuw hk.1 (h1 i hi).1;have:=(h1 i hi).1;omega⟩,fun i hi=>⟨hst i hi,hle i hi⟩,⟨hin,by omega⟩,⟨hall,by omega⟩⟩
theorem zqs(a b:Int)(w:World)(ha:1<=a/\a<=1099511627777)(hb:1<=b/\b<=1099511627777):Calls prog 50 #[.int .i64 a,.int .i64 b] w fun e w'=>e=.returned (.int .i64 (timR a b))/\w'=w:=by
 have e0:(a != 0)=true:=by simp;omega
 have e1:(a==0)=false:=by simp;omega
 have hq:=Int.tdiv_eq_ediv_of_nonneg (a:=1099511627776) (b:=a) (by decide);have hq2:0<=(1099511627776:Int) / a/\(1099511627776:Int) / a<=1099511627776:=⟨Int.ediv_nonneg (by decide) (by omega),Int.ediv_le_self _ (by decide)⟩
 have hw:IntKind.i64.wrap ((1099511627776:Int).tdiv a)=(1099511627776:Int).tdiv a:=IntWalk.i64_in _ (by rw[hq];omega);by_cases h:(1099511627776:Int).tdiv a<b
 ·have HT:=zh (show timR a b=1099511627777 by unfold timR;rw[if_pos ⟨by omega,h⟩]);clear hq hq2;go_enter func50,ntmps50;go_wp2_with fail;go_ret;exact⟨by rw[HT.out];rfl,rfl⟩
 ·have HT:=zh (show timR a b=a*b by unfold timR;rw[if_neg fun h2=>h h2.2]);have hm:IntKind.i64.wrap (a*b)=a*b:=IntWalk.i64_in _ (by have:=zpK ha hb;rw[HT.out]at this;omega);clear hq hq2;go_enter func50,ntmps50;go_wp2_with fail;go_ret;exact⟨by rw[HT.out];rfl,rfl⟩
theorem zqD(b:Int)(n:Nat)(w:World)(hb:1<=b/\b<=2001)(hn:n<=1000):Calls prog 51 #[.int .i64 b,.int .i64 (n:Int)] w fun e w'=>e=.returned (.int .i64 (powR b n))/\w'=w:=by
 have HT:=zh (fun i w'=>zqs (powR b i) b w' (zmh hb i) (by omega));have HB:=zh hb;clear hb;go_enter func51,ntmps51;go_wp2_with fail
 go_loopw [6,5] (fun i s wr=>∃j:Nat,j<=n/\i=.int .i64 j/\s=.int .i64 (powR b j)/\wr=w) (fun i _ _=>n-(intOf i).toNat)
 case atStart=>exact⟨0,by omega,rfl,rfl,rfl⟩
 case round =>
  obtain⟨j,hj,rfl,rfl,rfl⟩:=hrel;by_cases hlt:j<n
  ·have hj1:(j:Int)<(n:Int):=by omega
   have hj0:(0:Int)<=(j:Int):=by omega
   go_wp2_with fail;refine(HT.out j _).mono ?_;rintro e w1 ⟨rfl,rfl⟩;go_wp2_with fail
   go_roundw
   case rel=>exact⟨j+1,by omega,by go_num,rfl,trivial⟩
   case measure=>simp[intOf];omega
  ·obtain rfl:j=n:=by omega
   have hj1:¬ (j:Int)<(j:Int):=by omega
   go_wp2_with fail;go_ret;simp
theorem zwo(b:Int)(n:Nat)(w:World)(hb:1<=b/\b<=2001)(hn:n<=1000):Calls prog 49 #[.int .i64 b,.int .i64 (n:Int)] w fun e w'=>e=.returned (.int .i64 (upR b n))/\w'=w:=by
 have HT:=zh (fun i w' (hi:i<=1000)=>zqD b i w' hb hi);have HB:=zh hb;clear hb;go_enter func49,ntmps49;go_wp2_with fail
 go_loopw [6,5] (fun i s wr=>∃(j:Nat) (x:Int),j<=n+1/\i=.int .i64 j/\s=.int .i64 x/\(0<=x/\x<=1099511627776)/\wr=w/\Hid (upR b n=upA b x ((List.range (n+1)).drop j))) (fun i _ _=>n+1-(intOf i).toNat)
 case atStart=>exact⟨0,0,by omega,rfl,rfl,by omega,rfl,zh rfl⟩
 case round =>
  obtain⟨j,x,hj,rfl,rfl,hx,rfl,HU⟩:=hrel;by_cases hlt:j<=n
  ·have hj1:(j:Int)<=(n:Int):=by omega
   have hj0:(0:Int)<=(j:Int):=by omega
   go_wp2_with fail;refine(HT.out j _ (by omega)).mono ?_;rintro e w1 ⟨rfl,rfl⟩;have hp:=zmh HB.out j;obtain⟨y,hy⟩:=zX (powR b j);have HU2:=zh (show upR b n=if 1099511627776<x+y then 1099511627777 else upA b (x+y) ((List.range (n+1)).drop (j+1)) by
    rw[HU.out,List.drop_eq_getElem_cons (by simp;omega),List.getElem_range,upA,hy])
   rw[hy]at hp ⊢;have hw:IntKind.i64.wrap (x+y)=x+y:=IntWalk.i64_in _ (by omega);by_cases hg:1099511627776<x+y
   ·go_wp2_with fail;go_ret;exact⟨by rw[HU2.out,if_pos hg];rfl,rfl⟩
   ·go_wp2_with fail
    go_roundw
    case rel=>exact⟨j+1,x+y,by omega,by go_num,rfl,by omega,trivial,zh (by rw[HU2.out,if_neg (by omega)])⟩
    case measure=>simp[intOf];omega
  ·obtain rfl:j=n+1:=by omega
   have hj1:¬ ((n+1:Nat):Int)<=(n:Int):=by omega
   go_wp2_with fail;go_ret;exact⟨by rw[HU.out,List.drop_eq_nil_of_le (by simp)];rfl,rfl⟩
theorem zyz{v:VD}(h:vdB v=true):(v.k=1/\v.n=0)\/(v.k=2/\1<=v.n/\v.n<=16)\/(v.k=3/\v.n=0):=by
 unfold vdB at h;by_cases h1:v.k=1\/v.k=3
 ·rw[if_pos h1]at h;have h:=eq_of_beq h;rcases h1 with h1|h1
  ·exact .inl ⟨h1,h⟩
  ·exact .inr (.inr ⟨h1,h⟩)
 ·rw[if_neg h1]at h;by_cases h2:v.k=2
  ·rw[if_pos h2]at h;exact .inr (.inl ⟨h2,of_decide_eq_true h⟩)
  ·rw[if_neg h2]at h;cases h
theorem zws{vs:List VD}(h:svB vs=true):vs.length<=32/\∀v∈vs,vdB v=true:=by
 unfold svB at h;simp only[Bool.and_eq_true,decide_eq_true_eq,List.all_eq_true]at h;exact h
theorem zts(vs:List VD)(b:BX)(A:Option Addr)(c:Nat)(w:World)(hr:RowV w Any A vs)(hok:(b.ok&&svB vs)=true) :
  Calls prog 24 #[.slice A vs.length c,.int .i64 b.v,.int .i64 b.l,.int .i64 b.i] w fun e w'=>e=.returned (.int .i64 (cntF vs b))/\w'=w:=by
 simp only[Bool.and_eq_true]at hok;have hb:=zl2 hok.1;obtain⟨hn,hvd⟩:=zws hok.2;have HB:=zh hb;have HV:=zh hvd;have HC:=zh (fun i (hi:i<=vs.length)=>zn4 hok.1 (vs.take i));obtain⟨V,hV⟩:=zX (b.v);obtain⟨nl,hnl⟩:∃nl:Nat,b.l=(nl:Int):=⟨b.l.toNat,by omega⟩
 obtain⟨ni,hni⟩:∃ni:Nat,b.i=(ni:Int):=⟨b.i.toNat,by omega⟩
 have dM:=zh (And.intro hV (And.intro hnl hni));have vS:=zh (fun n w' (h:n<=1000)=>zwo (2*V+1) n w' (by omega) h);have yK:=zh (fun n w' (h:n<=1000)=>zqD (2*V+1) n w' (by omega) h);have BB:=zh (fun i v w' (hi:i<=vs.length)=>zqs (cntF (vs.take i) b) (cnt1 b v) w' (zn4 hok.1 (vs.take i)) (zn5 hb.1 v));have vT:=zh (fun i (hi:i<vs.length)=>znj (b:=b) hi);have lV:=zh (fun v=>show cnt1 b v=if v.k=1 then 2*V+1 else if v.k=2 then powR (2*V+1) v.n.toNat else upR (2*V+1) nl by unfold cnt1;rw[hV,hnl];rfl);have bE:=zh (show cntF (vs.take 0) b=upR (2*V+1) ni by unfold cntF;rw[hV,hni];rfl);have e1:IntKind.i64.wrap (2*V)=2*V:=IntWalk.i64_in _ (by omega);have e2:IntKind.i64.wrap (2*V+1)=2*V+1:=IntWalk.i64_in _ (by omega);have hnl3:nl<=1000:=by omega
 have hni3:ni<=1000:=by omega
 have HR:=zh hr;have HT:=zh (show cntF (vs.take vs.length) b=cntF vs b by rw[List.take_length]);obtain⟨CF,hCF⟩:∃CF:Nat->Int,∀i,cntF (vs.take i) b=CF i:=⟨fun i=>cntF (vs.take i) b,fun _=>rfl⟩
 simp only[hCF]at HC BB vT bE HT;rw[<-HT.out,hV,hnl,hni];obtain⟨C1,bB⟩:∃C1:VD->Int,∀v,cnt1 b v=C1 v:=⟨fun v=>cnt1 b v,fun _=>rfl⟩
 simp only[bB]at BB vT lV;clear hok hb hvd hr hV hnl hni hCF bB;obtain⟨n,hn'⟩:=zX (vs.length);have HN:=zh hn';rw[hn']at hn ⊢;clear hn';go_enter func24,ntmps24;go_wp2_with fail;refine(vS.out ni w hni3).mono ?_;rintro e w1 ⟨rfl,rfl⟩;rw[<-bE.out];go_wp2_with fail
 go_loopw [10,9] (fun i s wr=>∃j:Nat,j<=n/\i=.int .i64 j/\s=.int .i64 (CF j)/\wr=w1) (fun i _ _=>n-(intOf i).toNat)
 case atStart=>exact⟨0,by omega,rfl,rfl,rfl⟩
 case round =>
  obtain⟨j,hj,rfl,rfl,rfl⟩:=hrel;by_cases hlt:j<n
  ·have hj1:(j:Int)<(n:Int):=by omega
   have hj0:(0:Int)<=(j:Int):=by omega
   have dz:j<vs.length:=by rw[HN.out];exact hlt
   obtain⟨a,v,rfl,-,hv,⟨x0,x1,x2⟩,-⟩:=HR.out.nd dz;have hvb:=zyz (HV.out _ (List.getElem_mem dz));have nX:=BB.out j v wr (by omega);have htk:=vT.out j dz;have hc1:=lV.out v;rw[hv.out]at hvb htk;rw[<-htk]at nX;clear htk hv dz;obtain⟨v0,v1,v2⟩:=v;simp only at x0 x1 x2 hvb hc1;rcases hvb with⟨rfl,rfl⟩|⟨rfl,hn1,hn2⟩|⟨rfl,rfl⟩
   ·rw[if_pos rfl]at hc1;rw[hc1]at nX;have mZ:=zh nX;clear nX hc1;go_wp2_with fail;refine mZ.out.mono ?_;rintro e w2 ⟨rfl,rfl⟩;go_wp2_with fail
    go_roundw
    case rel=>exact⟨j+1,by omega,by go_num,rfl,trivial⟩
    case measure=>simp[intOf];omega
   ·rw[if_neg (by decide),if_pos rfl]at hc1;obtain⟨m,rfl⟩:∃m:Nat,v2=(m:Int):=⟨v2.toNat,by omega⟩
    rw[show((m:Int)).toNat=m from rfl]at hc1;have hm:m<=1000:=by omega
    rw[hc1]at nX;have mZ:=zh nX;clear nX hc1;go_wp2_with fail;refine(yK.out m wr hm).mono ?_;rintro e w2 ⟨rfl,rfl⟩;go_wp2_with fail;refine mZ.out.mono ?_;rintro e w2 ⟨rfl,rfl⟩;go_wp2_with fail
    go_roundw
    case rel=>exact⟨j+1,by omega,by go_num,rfl,trivial⟩
    case measure=>simp[intOf];omega
   ·rw[if_neg (by decide),if_neg (by decide)]at hc1;rw[hc1]at nX;have mZ:=zh nX;clear nX hc1;go_wp2_with fail;refine(vS.out nl wr hnl3).mono ?_;rintro e w2 ⟨rfl,rfl⟩;go_wp2_with fail;refine mZ.out.mono ?_;rintro e w2 ⟨rfl,rfl⟩;go_wp2_with fail
    go_roundw
    case rel=>exact⟨j+1,by omega,by go_num,rfl,trivial⟩
    case measure=>simp[intOf];omega
  ·obtain rfl:j=n:=by omega
   have hj1:¬ (j:Int)<(j:Int):=by omega
   go_wp2_with fail;go_ret;exact⟨rfl,rfl⟩
theorem zwn{v:VD}(h:(v.k=1/\v.n=0)\/(v.k=2/\1<=v.n/\v.n<=16)\/(v.k=3/\v.n=0)):vdB v=true:=by
 unfold vdB;rcases h with⟨h1,h2⟩|⟨h1,h2⟩|⟨h1,h2⟩
 ·rw[if_pos (.inl h1),h2];rfl
 ·rw[if_neg (by omega),if_pos h1];exact decide_eq_true h2
 ·rw[if_pos (.inr h1),h2];rfl
theorem ztN{v:VD}(h:¬ ((v.k=1/\v.n=0)\/(v.k=2/\1<=v.n/\v.n<=16)\/(v.k=3/\v.n=0))):vdB v=false:=by
 cases e:vdB v with
 | false=>rfl
 | true=>exact absurd (zyz e) h
theorem zyH{vs:List VD}{i:Nat}(hi:i<vs.length)(h:vdB vs[i]=false):svB vs=false:=by
 cases e:svB vs with
 | false=>rfl
 | true=>rw[(zws e).2 _ (List.getElem_mem hi)]at h;cases h
theorem zyI{vs:List VD}{n:Nat}(hn:vs.length=n)(h32:n<=32)(h:∀i (hi:i<vs.length),vdB vs[i]=true):svB vs=true:=by
 unfold svB;simp only[Bool.and_eq_true,decide_eq_true_eq,List.all_eq_true];exact⟨by omega,fun v hv=>by obtain⟨i,hi,rfl⟩:=List.mem_iff_getElem.1 hv;exact h i hi⟩
theorem zyV{b:BX}(h:((0<=b.v/\b.v<=1000)/\(0<=b.l/\b.l<=1000)/\0<=b.i/\b.i<=1000)):b.ok=true:=by
 simp only[BX.ok,okI,Bool.and_eq_true,decide_eq_true_eq];omega
theorem zwI{b:BX}(h:¬ ((0<=b.v/\b.v<=1000)/\(0<=b.l/\b.l<=1000)/\0<=b.i/\b.i<=1000)):b.ok=false:=by
 cases e:b.ok with
 | false=>rfl
 | true=>exact absurd (zl2 e) h
theorem ztr(vs:List VD)(b:BX)(A:Option Addr)(c:Nat)(w:World)(hr:RowV w Any A vs)(hl:vs.length<=LV) :
  Calls prog 23 #[.slice A vs.length c,.int .i64 b.v,.int .i64 b.l,.int .i64 b.i] w fun e w'=>e=.returned (.bool (b.ok&&svB vs))/\Below w.heap.size w w':=by
 have hl1:=zkW hl;have HR:=zh hr;obtain⟨RR,hRR⟩:=zX ((b.ok&&svB vs));have HRR:=zh hRR;rw[hRR];obtain⟨V,hV⟩:=zX (b.v);obtain⟨L,hL⟩:=zX (b.l);obtain⟨I,hI⟩:=zX (b.i);have yN:=zh (fun h=>zyV (b:=b) h);have uH:=zh (fun h=>zwI (b:=b) h);have nu:=zh (fun(n:Nat)=>zyI (vs:=vs) (n:=n));rw[hV,hL,hI]at yN uH ⊢;clear hr hl hRR hV hL hI;obtain⟨n,hn⟩:=zX (vs.length);have HN:=zh hn;rw[hn]at hl1 ⊢;clear hn;go_enter func23,ntmps23;by_cases h32:32<n
 ·have h32i:(32:Int)<(n:Int):=by omega
  go_wp2_with fail;go_ret;exact⟨by rw[<-HRR.out,show svB vs=false by { cases e:svB vs with|false=>rfl|true=>have:=(zws e).1;have:=HN.out;omega },Bool.and_false];rfl,zr⟩
 have h32i:¬ (32:Int)<(n:Int):=by omega
 go_wp2_with fail
 go_loopw [9] (fun i wr=>∃j:Nat,j<=n/\i=.int .i64 j/\Hid (Below w.heap.size w wr)/\Hid (∀i (hi:i<vs.length),i<j->vdB vs[i]=true)) (fun i _=>n-(intOf i).toNat)
 case atStart=>exact⟨0,by omega,rfl,zh zr,zh fun i _ h=>by omega⟩
 case round =>
  obtain⟨j,hj,rfl,af,HE⟩:=hrel;by_cases hlt:j<n
  ·have hj1:(j:Int)<(n:Int):=by omega
   have hj0:(0:Int)<=(j:Int):=by omega
   have dz:j<vs.length:=by rw[HN.out];exact hlt
   obtain⟨a,v,rfl,-,hv,⟨x0,x1,x2⟩,hfl⟩:=(HR.out.later af.out).nd dz;have Bw:=zh (fun h=>(congrArg vdB hv.out).trans (zwn (v:=v) h));have mY:=zh (fun h=>zyH dz ((congrArg vdB hv.out).trans (ztN (v:=v) h)));have HJ:=zh dz;obtain⟨v0,v1,v2⟩:=v;have hk:=hfl.2.1;simp only at x0 x1 x2 Bw mY hk;have hk1:=heap_alloc_new wr (.cells #[.string v0,.int .u8 v1,.int .i64 v2] 38);have qR:=zh (zkb af.out (.cells #[.string v0,.int .u8 v1,.int .i64 v2] 38));obtain⟨wm,vB⟩:=zX (wr.alloc (.cells #[.string v0,.int .u8 v1,.int .i64 v2] 38));rw[vB]at hk1 qR;obtain⟨y0,y1,y2⟩:=zlD hk1;clear hv hfl hk1;by_cases c1:v1<1
   ·go_wp2_with fail;go_ret;exact⟨by rw[<-HRR.out,mY.out (by omega),Bool.and_false];rfl,qR.out⟩
   by_cases c2:3<v1
   ·go_wp2_with fail;go_ret;exact⟨by rw[<-HRR.out,mY.out (by omega),Bool.and_false];rfl,qR.out⟩
   by_cases c3:v1=2
   ·subst c3;by_cases c4:v2<1
    ·go_wp2_with fail;go_ret;exact⟨by rw[<-HRR.out,mY.out (by omega),Bool.and_false];rfl,qR.out⟩
    by_cases c5:16<v2
    ·go_wp2_with fail;go_ret;exact⟨by rw[<-HRR.out,mY.out (by omega),Bool.and_false];rfl,qR.out⟩
    go_wp2_with fail
    go_roundw
    case rel =>
     refine⟨j+1,by omega,by go_num,qR,zh fun i hi hij=>?_⟩;by_cases e:i<j
     ·exact HE.out i hi e
     ·obtain rfl:i=j:=by omega
      exact Bw.out (by omega)
    case measure=>simp[intOf];omega
   ·have c3b:(v1==2)=false:=by simpa using c3
    have c3c:(v1 != 2)=true:=by simpa using c3
    by_cases c4:v2=0;rotate_left 1
    ·have c4b:(v2 != 0)=true:=by simpa using c4
     go_wp2_with fail;go_ret;exact⟨by rw[<-HRR.out,mY.out (by omega),Bool.and_false];rfl,qR.out⟩
    ·have c4b:(v2 != 0)=false:=by simpa using c4
     have bJ:=zh c4;clear c4;go_wp2_with fail
     go_roundw
     case rel =>
      refine⟨j+1,by omega,by go_num,qR,zh fun i hi hij=>?_⟩;by_cases e:i<j
      ·exact HE.out i hi e
      ·obtain rfl:i=j:=by omega
       exact Bw.out (by have:=bJ.out;omega)
     case measure=>simp[intOf];omega
  ·obtain rfl:j=n:=by omega
   have hj1:¬ (j:Int)<(j:Int):=by omega
   by_cases g1:0<=V;rotate_left 1
   ·go_wp2_with fail;go_ret;exact⟨by rw[<-HRR.out,show b.ok=false from uH.out (by omega)];rfl,af.out⟩
   by_cases g2:V<=1000;rotate_left 1
   ·go_wp2_with fail;go_ret;exact⟨by rw[<-HRR.out,show b.ok=false from uH.out (by omega)];rfl,af.out⟩
   by_cases g3:0<=L;rotate_left 1
   ·go_wp2_with fail;go_ret;exact⟨by rw[<-HRR.out,show b.ok=false from uH.out (by omega)];rfl,af.out⟩
   by_cases g4:L<=1000;rotate_left 1
   ·go_wp2_with fail;go_ret;exact⟨by rw[<-HRR.out,show b.ok=false from uH.out (by omega)];rfl,af.out⟩
   by_cases g5:0<=I;rotate_left 1
   ·go_wp2_with fail;go_ret;exact⟨by rw[<-HRR.out,show b.ok=false from uH.out (by omega)];rfl,af.out⟩
   by_cases g6:I<=1000;rotate_left 1
   ·go_wp2_with fail;go_ret;exact⟨by rw[<-HRR.out,show b.ok=false from uH.out (by omega)];rfl,af.out⟩
   go_wp2_with fail;go_ret;exact⟨by rw[<-HRR.out,show b.ok=true from yN.out (by omega),nu.out _ HN.out (by omega) fun i hi=>HE.out i hi (by have:=HN.out;omega)];rfl,af.out⟩
attribute [local go_sem] Oper.semAt_some
mutual
/-- How many nodes are left of a budget. -/
def szR:T->Int->Int
 | .nd _ _ _ ks,l=>szRs ks (l-1)
def szRs:List T->Int->Int
 | [],l=>l
 | t::ts,l=>if l<0 then l else szRs ts (szR t l)
end
theorem zsb:∀(m:Nat) (t:T) (l:Int),size t<=m->0<=l -> -1<=szR t l/\szR t l<=l
 | 0,.nd k n s ks,l,h,_=>by rw[size]at h;omega
 | m+1,.nd k n s ks,l,h,h0=>by
  rw[szR];rw[size]at h;have key:∀(us:List T) (l:Int),zkV us<=m -> -1<=l -> -1<=szRs us l/\szRs us l<=l:=by
   intro us
   induction us with
   | nil=>intro l _ h1;rw[szRs];exact⟨h1,Int.le_refl _⟩
   | cons u us ih =>
    intro l hs h1;rw[zkV]at hs;rw[szRs]
    split
    ·exact⟨h1,Int.le_refl _⟩
    ·have h2:=zsb m u l (by omega) (by omega);have h3:=ih (szR u l) (by omega) h2.1;exact⟨h3.1,by omega⟩
  have:=key ks (l-1) (by omega) (by omega);exact⟨this.1,by omega⟩
theorem zsa:∀(ts:List T) (l:Int),-1<=l->0<=szRs ts l->(ts.length:Int)<=l
 | [],l,_,h=>by rw[szRs]at h;simpa using h
 | t::ts,l,h0,h=>by
  rw[szRs]at h
  split at h
  ·omega
  ·rename_i hl;obtain⟨k,n,s,ks⟩:=t;have h1 : -1<=szR (.nd k n s ks) l/\szR (.nd k n s ks) l<=l-1:=by
    rw[szR];have h2:=zsb _ (.nd k n s ks) l zl (by omega);rw[szR]at h2;refine⟨h2.1,?_⟩;rcases Int.lt_or_le (l-1) 0 with h3|h3
    ·cases ks with
     | nil=>rw[szRs];exact Int.le_refl _
     | cons u us=>rw[szRs,if_pos h3];exact Int.le_refl _
    ·have key:∀(us:List T) (l:Int),-1<=l -> -1<=szRs us l/\szRs us l<=l:=by
      intro us
      induction us with
      | nil=>intro l h1;rw[szRs];exact⟨h1,Int.le_refl _⟩
      | cons u us ih =>
       intro l h1;rw[szRs]
       split
       ·exact⟨h1,Int.le_refl _⟩
       ·have h2:=zsb _ u l zl (by omega);have h3:=ih (szR u l) h2.1;exact⟨h3.1,by omega⟩
     exact(key ks (l-1) (by omega)).2
   have:=zsa ts _ h1.1 h;simp only[List.length_cons];omega
theorem zyG{t:T}(h:0<=szR t 100):t.ks.length<=100:=by
 obtain⟨k,n,s,ks⟩:=t;rw[szR]at h;have:=zsa ks 99 (by decide) h
 show ks.length<=100
 omega
theorem zpa:∀(t:T) (v:Value) (l:Int) (w:World),NV w Any t v->0<=l->l<=1000->Calls prog 48 #[v,.int .i64 l] w fun e w'=>e=.returned (.int .i64 (szR t l))/\Below w.heap.size w w':=by
 intro t
 induction t using T.ind with
 | _ k n s ks ih =>
  intro v l w hv h0 h1;obtain⟨A,c,rfl,hf,hlk,hlc,hrow⟩:=hv.open_;have IH:=zh ih;have ae:=zh hrow;have hw1:IntKind.i64.wrap (l-1)=l-1:=IntWalk.i64_in _ (by omega);have hb1:=zkb (zs w) (.cells #[.int .u8 k,.int .i64 n,.string s,.slice A ks.length c] 28);have k1:=heap_alloc_new w (.cells #[.int .u8 k,.int .i64 n,.string s,.slice A ks.length c] 28);obtain⟨w1,hw⟩:=zX (w.alloc (.cells #[.int .u8 k,.int .i64 n,.string s,.slice A ks.length c] 28));obtain⟨r,hr⟩:=zX (szR (.nd k n s ks) l);have HR:=zh (show szRs (ks.drop 0) (l-1)=r by rw[<-hr,szR,List.drop_zero]);rw[hr];rw[hw]at hb1 k1;have HB1:=zh hb1;have aA:=zh k1;simp only[T.k_nd,T.n_nd,T.s_nd,T.ks_nd]at hlk hlc ⊢;have hlk2:ks.length<=17592186044416:=by unfold LK at hlk;omega
  clear hv hf hlk hrow ih hr hb1 k1;go_enter func48,ntmps48;go_wp2_with fail;clear hw
  go_loopw [5,1] (fun i q wr=>∃(j:Nat) (x:Int),j<=ks.length/\i=.int .i64 j/\q=.int .i64 x /\ -1<=x/\x<=1000/\Hid (Below w1.heap.size w1 wr)/\Hid (szRs (ks.drop j) x=r)) (fun i _ _=>ks.length-(intOf i).toNat)
  case atStart=>exact⟨0,l-1,Nat.zero_le _,rfl,rfl,by omega,by omega,zh zr,HR⟩
  case round =>
   obtain⟨j,x,hj,rfl,rfl,hx1,hx2,af,HJ⟩:=hrel;have hk:=zkc aA.out af.out;have z3:wr.cell? ⟨w.heap.size,3,none⟩=some (.slice A ks.length c):=zc hk rfl;by_cases hlt:j<ks.length
   ·have hj1:(j:Int)<(ks.length:Int):=by omega
    have hj0:(0:Int)<=(j:Int):=by omega
    by_cases hx:0<=x
    ·have hbb:=zka HB1.out af.out;obtain⟨a,u,Au,cu,rfl,-,Hu,⟨p0,p1,p2,p3⟩,hn⟩:=ae.out.nd hlt;have q0:=zb hbb p0;have q1:=zb hbb p1;have q2:=zb hbb p2;have q3:=zb hbb p3;have HS:=zh (IH.out u (by rw[<-Hu.out];exact List.getElem_mem hlt) _ x wr (hn.later hbb) hx hx2);have HJ2:=zh (show szRs (ks.drop (j+1)) (szR u x)=r by
      have h5:=HJ.out;rw[List.drop_eq_getElem_cons hlt]at h5;rw[szRs,if_neg (by omega)]at h5;rw[<-h5];have:=Hu.out;simp only[T.ks_nd]at this;rw[this])
     have HL:=zh (zsb _ u x zl hx);clear p0 p1 p2 p3 hn hbb HJ hk;go_wp2_with fail;refine HS.out.mono ?_;rintro e w2 ⟨rfl,hb2⟩;have HB2:=zh (zka af.out hb2);obtain⟨y,hy⟩:=zX (szR u x);rw[hy]at HJ2 HL ⊢;clear hb2 HS q0 q1 q2 q3 z3 hy;go_wp2_with fail
     go_roundw
     case rel=>exact⟨j+1,y,by omega,by go_num,rfl,HL.out.1,by have:=HL.out.2;omega,HB2,HJ2⟩
     case measure=>simp[intOf];omega
    ·have hx':¬ (0:Int)<=x:=hx;have HJ2:=zh (show x=r by
      have h5:=HJ.out;rw[List.drop_eq_getElem_cons hlt,szRs,if_pos (by omega)]at h5;exact h5)
     clear HJ hk;go_wp2_with fail;go_ret;exact⟨by rw[HJ2.out];rfl,zka HB1.out af.out⟩
   ·have hj1:¬ (j:Int)<(ks.length:Int):=by omega
    have HJ2:=zh (show x=r by
     have h5:=HJ.out;rw[List.drop_eq_nil_of_le (by omega),szRs]at h5;exact h5)
    clear HJ hk;go_wp2_with fail;go_ret;exact⟨by rw[HJ2.out];rfl,zka HB1.out af.out⟩
def SmlP(p:PG)(W:World)(e:Ending)(w':World):Prop:=∃b:Bool,e=.returned (.bool b)/\(b=true->p.vs.length<=6/\p.m.ks.length<=100)/\Below W.heap.size W w'
theorem zoe(p:PG)(v:Value)(W:World)(hp:PV W Any p v):Calls prog 22 #[v] W (SmlP p W):=by
 obtain⟨A1,c1,A2,c2,A3,c3,rfl,ji⟩:=hp;have xI:=zh ji;have hb2:=zkb (zs W) (.cells #[.slice A1 p.vs.length c1,.slice A2 p.prs.length c2,.int .u8 p.m.k,.int .i64 p.m.n,.string p.m.s,.slice A3 p.m.ks.length c3] 30);have k0:=heap_alloc_new W (.cells #[.slice A1 p.vs.length c1,.slice A2 p.prs.length c2,.int .u8 p.m.k,.int .i64 p.m.n,.string p.m.s,.slice A3 p.m.ks.length c3] 30);obtain⟨w2,hw2⟩:=zX (W.alloc (.cells #[.slice A1 p.vs.length c1,.slice A2 p.prs.length c2,.int .u8 p.m.k,.int .i64 p.m.n,.string p.m.s,.slice A3 p.m.ks.length c3] 30));rw[hw2]at hb2 k0;have HB2:=zh hb2;have aF:=zh k0;obtain⟨p0,p1,p2,p3,p4,p5⟩:=box6 k0;have hlp:=zkW ji.lp;have ng:=zh (zpa p.m _ 100 w2 (ji.main.later hb2) (by omega) (by omega));obtain⟨x,hx⟩:=zX (szR p.m 100);rw[hx]at ng;have HX:=zh (show 0<=x->p.m.ks.length<=100 from fun h=>zyG (hx▸h));have hpgl:=ji.lv;clear ji hb2 k0 hx
 go_enter func22,ntmps22;by_cases h1:(4:Int)<(p.prs.length:Int)
 ·go_wp2_with fail;go_ret;exact⟨_,rfl,nofun,HB2.out⟩
 have hlv:=zkW hpgl;by_cases h1v:(6:Int)<(p.vs.length:Int)
 ·go_wp2_with fail;go_ret;exact⟨_,rfl,nofun,HB2.out⟩
 go_wp2_with fail;refine ng.out.mono ?_;rintro e3 w3 ⟨rfl,hb3⟩;have HB3:=zh (zka HB2.out hb3);have kp:=zkc aF.out hb3;obtain⟨-,q1,-⟩:=box6 kp;clear hb3 ng kp p0 p1 p2 p3 p4 p5 hw2;by_cases h3:x<0
 ·go_wp2_with fail;go_ret;exact⟨_,rfl,nofun,HB3.out⟩
 go_wp2_with fail
 go_loopw [24,4] (fun i _ wr=>∃j:Nat,j<=p.prs.length/\i=.int .i64 j/\Hid (Below w3.heap.size w3 wr)) (fun i _ _=>p.prs.length-(intOf i).toNat)
 case atStart=>exact⟨0,Nat.zero_le _,rfl,zh zr⟩
 case round =>
  obtain⟨j,hj,rfl,af⟩:=hrel;by_cases hlt:j<p.prs.length
  ·have hj1:(j:Int)<(p.prs.length:Int):=by omega
   have hj0:(0:Int)<=(j:Int):=by omega
   have hbb:=zka HB3.out af.out;obtain⟨pa,q,B1,d1,B2,d2,rfl,-,Hq,⟨y0,y1,y2,y3,y4,y5⟩,hpr⟩:=(xI.out.procs.later hbb).nd hlt;have hbz:=zkb af.out (.cells #[.string q.s,.slice B1 q.ps.length d1,.int .u8 q.b.k,.int .i64 q.b.n,.string q.b.s,.slice B2 q.b.ks.length d2] 100);have hbw:=zkb (zs wr) (.cells #[.string q.s,.slice B1 q.ps.length d1,.int .u8 q.b.k,.int .i64 q.b.n,.string q.b.s,.slice B2 q.b.ks.length d2] 100);have ng:=zh (zpa q.b _ 100 _ (hpr.body.later hbw) (by omega) (by omega));obtain⟨z,hz⟩:=zX (szR q.b 100);rw[hz]at ng;have yV:=zh hbz;clear hbb hpr hbz hbw hz;go_wp2_with fail;refine ng.out.mono ?_;rintro e4 w4 ⟨rfl,hb4⟩;have ay:=zh (zka yV.out hb4);clear hb4 ng y0 y1 y2 y3 y4 y5;by_cases hz:z<0
   ·go_wp2_with fail;go_ret;exact⟨_,rfl,nofun,zka HB3.out ay.out⟩
   ·go_wp2_with fail
    go_roundw
    case rel=>exact⟨j+1,by omega,by go_num,ay⟩
    case measure=>simp[intOf];omega
  ·have hj1:¬ (j:Int)<(p.prs.length:Int):=by omega
   go_wp2_with fail;go_ret;exact⟨_,rfl,fun _=>⟨by omega,HX.out (by omega)⟩,zka HB3.out af.out⟩
def GrtP(e:EX)(q:PG)(W:World)(en:Ending)(w':World):Prop:=∃g:Bool,en=.returned (.bool g)/\(g=false->e.gv.vs.length<=6/\e.fu<=300/\(e.bx.ok&&svB e.gv.vs)=true/\cntF e.gv.vs e.bx<=60/\q.m.ks.length<=100/\q.vs.length<=6)/\Below W.heap.size W w'
theorem zow{W:World}{e:EX}{q:PG}{ev qv:Value}(he:EV W Any e ev)(hq:PV W Any q qv):Calls prog 9 #[ev,qv] W (GrtP e q W):=by
 obtain⟨A1,c1,A2,c2,A3,c3,rfl,hg,hI⟩:=he;have HSE:=zh (fun w' (h:Below W.heap.size W w')=>zoe e.gv _ w' (hg.later h).pv);have HSQ:=zh (fun w' (h:Below W.heap.size W w')=>zoe q _ w' (hq.later h));have dG:=zh (fun w' (h:Below W.heap.size W w')=>ztr e.gv.vs e.bx A1 c1 w' (hg.vars.later h) hg.lv);have lh:=zh (fun w' (h:Below W.heap.size W w') (hok:(e.bx.ok&&svB e.gv.vs)=true)=>zts e.gv.vs e.bx A1 c1 w' (hg.vars.later h) hok);obtain⟨D1,e1,D2,e2,D3,e3,rfl,-⟩:=hq;obtain⟨ok,hok⟩:=zX ((e.bx.ok&&svB e.gv.vs));obtain⟨CN,iC⟩:=zX (cntF e.gv.vs e.bx);have nM:=zh (show ∀(g:Bool) w',Below W.heap.size W w'->(g=false->e.gv.vs.length<=6/\e.fu<=300/\ok=true/\CN<=60/\q.m.ks.length<=100/\q.vs.length<=6)->GrtP e q W (.returned (.bool g)) w' from fun g w' h1 h2=>⟨g,rfl,by rw[hok,iC];exact h2,h1⟩);rw[hok]at dG;simp only[hok,iC]at lh
 have hb2:=zkb (zkb (zkb (zs W) (.cells (exA e A1 c1 A2 c2 A3 c3) 32)) (.cells (pgA q D1 e1 D2 e2 D3 e3) 30)) (.cells #[.int .i64 e.bx.v,.int .i64 e.bx.l,.int .i64 e.bx.i] 23);have k0:=zke (zke (heap_alloc_new W (.cells (exA e A1 c1 A2 c2 A3 c3) 32)) (.cells (pgA q D1 e1 D2 e2 D3 e3) 30)) (.cells #[.int .i64 e.bx.v,.int .i64 e.bx.l,.int .i64 e.bx.i] 23);have k1:=zke (heap_alloc_new (W.alloc (.cells (exA e A1 c1 A2 c2 A3 c3) 32)) (.cells (pgA q D1 e1 D2 e2 D3 e3) 30)) (.cells #[.int .i64 e.bx.v,.int .i64 e.bx.l,.int .i64 e.bx.i] 23);have k2:=heap_alloc_new ((W.alloc (.cells (exA e A1 c1 A2 c2 A3 c3) 32)).alloc (.cells (pgA q D1 e1 D2 e2 D3 e3) 30)) (.cells #[.int .i64 e.bx.v,.int .i64 e.bx.l,.int .i64 e.bx.i] 23);have kx:=heap_alloc_new W (.cells (exA e A1 c1 A2 c2 A3 c3) 32)
 obtain⟨x0,x1,x2,x3,x4,x5,x6,x7,x8,x9,aJ,aI⟩:=znE (zke kx (.cells (pgA q D1 e1 D2 e2 D3 e3) 30));clear kx hg;go_enter func9,ntmps9;go_upto_region 2 with fail;obtain⟨w2,hw2⟩:=zX (((W.alloc (.cells (exA e A1 c1 A2 c2 A3 c3) 32)).alloc (.cells (pgA q D1 e1 D2 e2 D3 e3) 30)).alloc (.cells #[.int .i64 e.bx.v,.int .i64 e.bx.l,.int .i64 e.bx.i] 23));rw[hw2]at hb2 k0 k1 k2
 try rw[hw2]
 simp only[World.size_alloc,Nat.add_assoc,Nat.reduceAdd]at k1 k2;obtain⟨N,hN⟩:=zX (W.heap.size);rw[hN]at k0 k1 k2
 try rw[hN]
 try simp only[Nat.add_assoc,Nat.reduceAdd]
 clear hw2 hN hok iC;have HB:=zh hb2;have dF:=zh (fun w' (h:Below w2.heap.size w2 w')=>znE (zkc k0 h));have dH:=zh (fun w' (h:Below w2.heap.size w2 w')=>box6 (zkc k1 h));have ax:=zh (fun w' (h:Below w2.heap.size w2 w')=>zlD (zkc k2 h));have bS:=zh (zs w2);clear hb2 k0 k1 k2;obtain⟨x0,x1,x2,x3,x4,x5,x6,x7,x8,x9,aJ,aI⟩:=dF.out _ bS.out;obtain⟨q0,q1,q2,q3,q4,q5⟩:=dH.out _ bS.out;obtain⟨y0,y1,y2⟩:=ax.out _ bS.out;go_wp2_with fail;refine(HSE.out _ HB.out).mono ?_;rintro en w3 ⟨sb,rfl,hsb,hb3⟩;have bR:=zh hsb;have aX:=zh (zka bS.out hb3);clear hsb hb3;obtain⟨x0,x1,x2,x3,x4,x5,x6,x7,x8,x9,aJ,aI⟩:=dF.out _ aX.out;obtain⟨q0,q1,q2,q3,q4,q5⟩:=dH.out _ aX.out;obtain⟨y0,y1,y2⟩:=ax.out _ aX.out
 cases sb
 ·go_wp2_with fail;go_ret;exact nM.out true _ (zka HB.out aX.out) nofun
 go_wp2_with fail;refine(HSQ.out _ (zka HB.out aX.out)).mono ?_;rintro en w4 ⟨sb,rfl,hsb,hb4⟩;have HS2:=zh hsb;have bJ:=zh (zka aX.out hb4);clear hsb hb4;obtain⟨x0,x1,x2,x3,x4,x5,x6,x7,x8,x9,aJ,aI⟩:=dF.out _ bJ.out;obtain⟨q0,q1,q2,q3,q4,q5⟩:=dH.out _ bJ.out;obtain⟨y0,y1,y2⟩:=ax.out _ bJ.out
 cases sb
 ·go_wp2_with fail;go_ret;exact nM.out true _ (zka HB.out bJ.out) nofun
 by_cases h300:(300:Int)<e.fu
 ·go_wp2_with fail;go_ret;exact nM.out true _ (zka HB.out bJ.out) nofun
 go_wp2_with fail;refine(dG.out _ (zka HB.out bJ.out)).mono ?_;rintro en w5 ⟨rfl,hb5⟩;have bO:=zh (zka bJ.out hb5);clear hb5;obtain⟨x0,x1,x2,x3,x4,x5,x6,x7,x8,x9,aJ,aI⟩:=dF.out _ bO.out;obtain⟨q0,q1,q2,q3,q4,q5⟩:=dH.out _ bO.out;obtain⟨y0,y1,y2⟩:=ax.out _ bO.out
 cases ok
 ·go_wp2_with fail;go_ret;exact nM.out true _ (zka HB.out bO.out) nofun
 go_wp2_with fail;refine(lh.out _ (zka HB.out bO.out) trivial).mono ?_;rintro en w6 ⟨rfl,rfl⟩;go_wp2_with fail;go_ret;refine nM.out _ _ (zka HB.out bO.out) fun h=>⟨(bR.out trivial).1,by omega,trivial,?_,(HS2.out trivial).2,(HS2.out trivial).1⟩
 have:e.fu<=300/\CN<=60:=by simpa using h
 exact this.2
end
section
open Go Go.RowKit
theorem zp9{v:Int}(hv:0<=v)(a m:Nat):(betE v a m).length=nLst (2*v+1).toNat (a,m):=by
 have h1:=zn7 hv a m;have h2:∀l:List Nat,(((l.map fun i=>(2*v+1).toNat ^ (a+i)).sum:Nat):Int)=(l.map fun i=>(2*v+1) ^ (a+i)).sum:=by
  intro l
  induction l with
  | nil=>rfl
  | cons i l ih =>
   rw[List.map_cons,List.sum_cons,List.map_cons,List.sum_cons,<-ih]
   push_cast
   rw[Int.toNat_of_nonneg (by omega)]
 unfold nLst;have h3:=h2 (List.range (m+1-a));simp only;omega
theorem zyZ{b:BX}{v:VD}(hb:b.ok=true)(hv:vdB v=true):(lstE b v).length=nLst (2*b.v+1).toNat (len1 b v):=by
 have hk:=zl2 hb;unfold lstE len1;rcases zyz hv with⟨h1,h2⟩|⟨h1,h2,h3⟩|⟨h1,h2⟩
 ·rw[if_pos h1,if_neg (by omega),zp9 hk.1.1];unfold fixE;rw[if_pos h1];rfl
 ·rw[if_neg (by omega),if_pos h1,if_neg (by omega),zp9 hk.1.1];unfold fixE;rw[if_neg (by omega)]
 ·rw[if_neg (by omega),if_neg (by omega),if_pos h1,zp9 hk.1.1]
theorem zse{b:BX}(hb:b.ok=true):∀(vs:List VD) (st:List SS),(∀v∈vs,vdB v=true)->(vs.foldl (fun st v=>stg st (lstE b v)) st).length=st.length*nAll (2*b.v+1).toNat (vs.map (len1 b))
 | [],st,_=>by simp[nAll]
 | v::vs,st,h=>by
  rw[List.foldl_cons,zse hb vs _ fun u hu=>h u (by simp[hu]),ztS,zyZ hb (h v (by simp)),List.map_cons,nAll,Nat.mul_assoc]
theorem zss(h:Nat):∀(a b:List Bn),nAll h (a++b)=nAll h a*nAll h b
 | [],b=>by simp[nAll]
 | x::a,b=>by rw[List.cons_append,nAll,nAll,zss h a b,Nat.mul_assoc]
theorem ztf{α β:Type}(l:List α)(f:α->List β)(n:Nat)(h:∀x,(f x).length=n):(l.flatMap f).length=l.length*n:=by
 induction l with
 | nil=>simp
 | cons x l ih=>rw[List.flatMap_cons,List.length_append,ih,h,List.length_cons,Nat.add_mul];omega
theorem zyr{vs:List VD}{b:BX}(hok:(b.ok&&svB vs)=true)(h60:cntF vs b<=60):(allS b (lenE vs b)).length<=60:=by
 have h:=hok;simp only[Bool.and_eq_true]at h;have hk:=zl2 h.1;have hr:=(zyP h.1 h60).all.2;have h1:(allU vs b).length=nAll (2*b.v+1).toNat (lenE vs b):=by
  unfold allU stgF lenE;rw[ztf _ _ (betE b.v 0 b.i.toNat).length fun s=>by simp,zse h.1 vs _ fun v hv=>(zws h.2).2 v hv,zss,zp9 hk.1.1];simp[nAll]
 have h2:=zzM (h:=(2*b.v+1).toNat) (by omega) (bs:=lenE vs b) fun q hq=>((zlG hok).2.2.1 q hq).1;rw[Int.toNat_of_nonneg (by omega)]at h2;unfold allS;rw[List.length_map];omega
theorem zzK{b:BX}{vs:List VD}{x y z:Int}(h:(b.ok&&svB vs)=true)(hx:0<=x/\x<256)(hy:0<=y/\y<256)(hz:0<=z/\z<256):GeB b ⟨wrap64 (b.v+x % 2),wrap64 (b.l+y % 2),wrap64 (b.i+z % 2)⟩:=by
 simp only[Bool.and_eq_true]at h;have hk:=zl2 h.1
 constructor<;>(simp only[wrap64];omega)
attribute [local go_sem] Oper.semAt_some
def bigB(b:BX)(x y z:Int):BX:=⟨wrap64 (b.v+x % 2),wrap64 (b.l+y % 2),wrap64 (b.i+z % 2)⟩
def bigE(e:EX)(x y z:Int):EX:={ e with bx:=bigB e.bx x y z }
theorem zv9{W:World}{e:EX}{q:PG}{ev qv:Value}{x y z:Int}(he:EV W Any e ev)(hq:PV W Any q qv)(hx:0<=x/\x<256)(hy:0<=y/\y<256)(hz:0<=z/\z<256) :
  Calls prog 7 #[ev,qv,.int .u8 x,.int .u8 y,.int .u8 z] W fun en w'=>en=.returned (.bool true)/\Below W.heap.size W w':=by
 have lU:=zh (fun w' (hb:Below W.heap.size W w')=>he.later hb);have HQ:=zh (fun w' (hb:Below W.heap.size W w')=>hq.later hb);obtain⟨A1,c1,A2,c2,A3,c3,rfl,hg,hI⟩:=he;obtain⟨D1,e1,D2,e2,D3,e3,rfl,jS⟩:=hq;have HG:=zh (fun w' (hb:Below W.heap.size W w')=>hg.later hb);have HXYZ:=zh (And.intro hx (And.intro hy (And.intro hz hI)));have k0:=zke (heap_alloc_new W (.cells (exA e A1 c1 A2 c2 A3 c3) 32)) (.cells (pgA q D1 e1 D2 e2 D3 e3) 30);obtain⟨x0,x1,x2,x3,x4,x5,x6,x7,x8,x9,aJ,aI⟩:=znE k0;clear hg jS hI k0;go_enter func7,ntmps7;go_upto_region 3 with fail;have hb2:Below W.heap.size W (((W.alloc (.cells (exA e A1 c1 A2 c2 A3 c3) 32)).alloc (.cells (pgA q D1 e1 D2 e2 D3 e3) 30)).alloc (.cells (exA (bigE e x y z) A1 c1 A2 c2 A3 c3) 32)):=zkb (zkb (zkb (zs W) _) _) _
 have k0:=zke (zke (heap_alloc_new W (.cells (exA e A1 c1 A2 c2 A3 c3) 32)) (.cells (pgA q D1 e1 D2 e2 D3 e3) 30)) (.cells (exA (bigE e x y z) A1 c1 A2 c2 A3 c3) 32);have k1:=zke (heap_alloc_new (W.alloc (.cells (exA e A1 c1 A2 c2 A3 c3) 32)) (.cells (pgA q D1 e1 D2 e2 D3 e3) 30)) (.cells (exA (bigE e x y z) A1 c1 A2 c2 A3 c3) 32);have k2:=heap_alloc_new ((W.alloc (.cells (exA e A1 c1 A2 c2 A3 c3) 32)).alloc (.cells (pgA q D1 e1 D2 e2 D3 e3) 30)) (.cells (exA (bigE e x y z) A1 c1 A2 c2 A3 c3) 32);simp only[World.size_alloc,Nat.add_assoc,Nat.reduceAdd]at k1 k2;obtain⟨w2,hw2⟩:=zX (((W.alloc (.cells (exA e A1 c1 A2 c2 A3 c3) 32)).alloc (.cells (pgA q D1 e1 D2 e2 D3 e3) 30)).alloc (.cells (exA (bigE e x y z) A1 c1 A2 c2 A3 c3) 32));rw[hw2]at hb2 k0 k1 k2;obtain⟨N,hN⟩:=zX (W.heap.size)
 change Code.wp _ _ _ _ (((W.alloc (.cells (exA e A1 c1 A2 c2 A3 c3) 32)).alloc (.cells (pgA q D1 e1 D2 e2 D3 e3) 30)).alloc (.cells (exA (bigE e x y z) A1 c1 A2 c2 A3 c3) 32));rw[hw2,hN];rw[hN]at k0 k1 k2
 try simp only[Nat.add_assoc,Nat.reduceAdd]
 clear hw2 hN x0 x1 x2 x3 x4 x5 x6 x7 x8 x9 aJ aI;have HB:=zh hb2;have dF:=zh (fun w' (h:Below w2.heap.size w2 w')=>znE (zkc k0 h));have dH:=zh (fun w' (h:Below w2.heap.size w2 w')=>box6 (zkc k1 h));have qD:=zh (fun w' (h:Below w2.heap.size w2 w')=>znE (zkc k2 h));have bS:=zh (zs w2);have Cf:=zh (fun w' (h:Below W.heap.size W w')=>(show EV w' Any (bigE e x y z) (.agg (exA (bigE e x y z) A1 c1 A2 c2 A3 c3))from⟨A1,c1,A2,c2,A3,c3,rfl,HG.out w' h,HXYZ.out.2.2.2⟩));clear hb2 k0 k1 k2;obtain⟨x0,x1,x2,x3,x4,x5,x6,x7,x8,x9,aJ,aI⟩:=dF.out _ bS.out;obtain⟨q0,q1,q2,q3,q4,q5⟩:=dH.out _ bS.out;obtain⟨y0,y1,y2,y3,y4,y5,y6,y7,y8,y9,iX,iW⟩:=qD.out _ bS.out;go_wp2_with fail;refine(zlS _).mono ?_;rintro en w3 ⟨rfl,hb3⟩;have aX:=zh (zka bS.out hb3);clear hb3
 obtain⟨x0,x1,x2,x3,x4,x5,x6,x7,x8,x9,aJ,aI⟩:=dF.out _ aX.out;obtain⟨q0,q1,q2,q3,q4,q5⟩:=dH.out _ aX.out;obtain⟨y0,y1,y2,y3,y4,y5,y6,y7,y8,y9,iX,iW⟩:=qD.out _ aX.out;go_wp2_with fail;refine(zow (lU.out _ (zka HB.out aX.out)) (HQ.out _ (zka HB.out aX.out))).mono ?_;rintro en w4 ⟨g1,rfl,hg1,hb4⟩;have uQ:=zh hg1;have bJ:=zh (zka aX.out hb4);clear hb4 hg1;obtain⟨x0,x1,x2,x3,x4,x5,x6,x7,x8,x9,aJ,aI⟩:=dF.out _ bJ.out;obtain⟨q0,q1,q2,q3,q4,q5⟩:=dH.out _ bJ.out;obtain⟨y0,y1,y2,y3,y4,y5,y6,y7,y8,y9,iX,iW⟩:=qD.out _ bJ.out
 cases g1
 rotate_left 1
 ·skip
  go_wp2_with fail;refine(zlS _).mono ?_;rintro en wz ⟨rfl,hbz⟩;go_wp2_with fail;go_ret;exact⟨rfl,zka (zka HB.out bJ.out) hbz⟩
 go_wp2_with fail;refine(zow (Cf.out _ (zka HB.out bJ.out)) (HQ.out _ (zka HB.out bJ.out))).mono ?_;rintro en w5 ⟨g2,rfl,hg2,hb5⟩;have HG2:=zh hg2;have bO:=zh (zka bJ.out hb5);clear hb5 hg2;obtain⟨x0,x1,x2,x3,x4,x5,x6,x7,x8,x9,aJ,aI⟩:=dF.out _ bO.out;obtain⟨q0,q1,q2,q3,q4,q5⟩:=dH.out _ bO.out;obtain⟨y0,y1,y2,y3,y4,y5,y6,y7,y8,y9,iX,iW⟩:=qD.out _ bO.out
 cases g2
 rotate_left 1
 ·skip
  go_wp2_with fail;refine(zlS _).mono ?_;rintro en wz ⟨rfl,hbz⟩;go_wp2_with fail;go_ret;exact⟨rfl,zka (zka HB.out bO.out) hbz⟩
 have bD:=zh (uQ.out trivial);have lg:=zh (HG2.out rfl);clear uQ HG2;go_wp2_with fail;refine(zoh (lU.out _ (zka HB.out bO.out)) (HQ.out _ (zka HB.out bO.out))).mono ?_;rintro en w6 ⟨rfl,hb6⟩;have dS:=zh (zka bO.out hb6);clear hb6;obtain⟨x0,x1,x2,x3,x4,x5,x6,x7,x8,x9,aJ,aI⟩:=dF.out _ dS.out;obtain⟨q0,q1,q2,q3,q4,q5⟩:=dH.out _ dS.out;obtain⟨y0,y1,y2,y3,y4,y5,y6,y7,y8,y9,iX,iW⟩:=qD.out _ dS.out;obtain⟨r1,hr1⟩:=zX (admE e q);have HR1:=zh hr1;rw[hr1];clear hr1;by_cases h1:r1=0;rotate_left 1
 ·have h1a:(r1 != 0)=true:=by simpa using h1
  go_wp2_with fail;refine(zlS _).mono ?_;rintro en wz ⟨rfl,hbz⟩;go_wp2_with fail;go_ret;exact⟨rfl,zka (zka HB.out dS.out) hbz⟩
 have h1a:(r1 != 0)=false:=by simpa using h1
 have HA1:=zh (HR1.out.trans h1);clear h1;go_wp2_with fail;refine(zoh (Cf.out _ (zka HB.out dS.out)) (HQ.out _ (zka HB.out dS.out))).mono ?_;rintro en w7 ⟨rfl,eX⟩;have gY:=zh (zka dS.out eX);clear eX;obtain⟨x0,x1,x2,x3,x4,x5,x6,x7,x8,x9,aJ,aI⟩:=dF.out _ gY.out;obtain⟨q0,q1,q2,q3,q4,q5⟩:=dH.out _ gY.out;obtain⟨y0,y1,y2,y3,y4,y5,y6,y7,y8,y9,iX,iW⟩:=qD.out _ gY.out;obtain⟨r2,hr2⟩:=zX (admE (bigE e x y z) q);have HR2:=zh hr2;rw[hr2];clear hr2;by_cases h2:r2=0;rotate_left 1
 ·have h2a:(r2 != 0)=true:=by simpa using h2
  go_wp2_with fail;refine(zlS _).mono ?_;rintro en wz ⟨rfl,hbz⟩;go_wp2_with fail;go_ret;exact⟨rfl,zka (zka HB.out gY.out) hbz⟩
 have h2a:(r2 != 0)=false:=by simpa using h2
 have HA2:=zh (HR2.out.trans h2);clear h2;have HGR1:=zh (show ∀w',Below w2.heap.size w2 w'->Calls prog 13 #[.agg (exA e A1 c1 A2 c2 A3 c3),pv D1 q.vs.length e1 D2 q.prs.length e2 q.m.k q.m.n q.m.s D3 q.m.ks.length e3] w' (GraP (grdE e q) 0 w')from fun w' h=>by
  have:=zoS (lU.out w' (zka HB.out h)) (HQ.out w' (zka HB.out h)) (fun _=>⟨bD.out.2.2.1,Nat.le_trans (zyr bD.out.2.2.1 bD.out.2.2.2.1) (by decide),by have:=bD.out.2.1;omega⟩);rwa[HA1.out,if_pos rfl]at this)
 have HGR2:=zh (show ∀w',Below w2.heap.size w2 w'->Calls prog 13 #[.agg (exA (bigE e x y z) A1 c1 A2 c2 A3 c3),pv D1 q.vs.length e1 D2 q.prs.length e2 q.m.k q.m.n q.m.s D3 q.m.ks.length e3] w' (GraP (grdE (bigE e x y z) q) 0 w')from fun w' h=>by
  have:=zoS (Cf.out w' (zka HB.out h)) (HQ.out w' (zka HB.out h)) (fun _=>⟨lg.out.2.2.1,Nat.le_trans (zyr lg.out.2.2.1 lg.out.2.2.2.1) (by decide),by have:=lg.out.2.1;omega⟩);rwa[HA2.out,if_pos rfl]at this)
 go_wp2_with fail;refine(HGR1.out _ gY.out).mono ?_;rintro en w8 ⟨B1,b1,B2,b2,B3,b3,rfl,vE,cB⟩;have oD:=zh (zka gY.out cB);have HS8:=zh (fun w' (h:Below w8.heap.size w8 w')=>vE.later h);obtain⟨ra,hra⟩:=zX (grdE e q);have HRA:=zh hra;rw[hra]at HS8 ⊢;clear hra vE cB;obtain⟨x0,x1,x2,x3,x4,x5,x6,x7,x8,x9,aJ,aI⟩:=dF.out _ oD.out;obtain⟨q0,q1,q2,q3,q4,q5⟩:=dH.out _ oD.out;obtain⟨y0,y1,y2,y3,y4,y5,y6,y7,y8,y9,iX,iW⟩:=qD.out _ oD.out;go_upto_region 6 with fail;have aM:=zkb (zs w8) (.cells (vdA ra.1 (ra.2.1:Int) B1 ra.2.2.1.cells.length b1 B2 ra.2.2.1.tin.length b2 B3 ra.2.2.1.tout.length b3 ra.2.2.2) 46);have k9:=heap_alloc_new w8 (.cells (vdA ra.1 (ra.2.1:Int) B1 ra.2.2.1.cells.length b1 B2 ra.2.2.1.tin.length b2 B3 ra.2.2.1.tout.length b3 ra.2.2.2) 46)
 obtain⟨w9,dC⟩:=zX (w8.alloc (.cells (vdA ra.1 (ra.2.1:Int) B1 ra.2.2.1.cells.length b1 B2 ra.2.2.1.tin.length b2 B3 ra.2.2.1.tout.length b3 ra.2.2.2) 46));obtain⟨ab,hab⟩:=zX (w8.heap.size);rw[dC]at aM k9 ⊢;rw[hab]at k9 ⊢;have nP:=zh (zka oD.out aM);have HB89:=zh aM;have HKA:=zh k9;clear aM k9 dC hab;obtain⟨x0,x1,x2,x3,x4,x5,x6,x7,x8,x9,aJ,aI⟩:=dF.out _ nP.out;obtain⟨q0,q1,q2,q3,q4,q5⟩:=dH.out _ nP.out;obtain⟨y0,y1,y2,y3,y4,y5,y6,y7,y8,y9,iX,iW⟩:=qD.out _ nP.out;go_wp2_with fail;refine(HGR2.out _ nP.out).mono ?_;rintro en aT ⟨F1,f1,F2,f2,F3,f3,rfl,hs10,cK⟩;have HC10:=zh (zka nP.out cK);have iM:=zh cK;have HS10:=zh (fun w' (h:Below aT.heap.size aT w')=>hs10.later h);obtain⟨rb,hrb⟩:=zX (grdE (bigE e x y z) q);have cZ:=zh hrb;rw[hrb]at HS10 ⊢
 clear hrb hs10 cK;go_upto_region 7 with fail;have dZ:=zkb (zs aT) (.cells (vdA rb.1 (rb.2.1:Int) F1 rb.2.2.1.cells.length f1 F2 rb.2.2.1.tin.length f2 F3 rb.2.2.1.tout.length f3 rb.2.2.2) 46);have k11:=heap_alloc_new aT (.cells (vdA rb.1 (rb.2.1:Int) F1 rb.2.2.1.cells.length f1 F2 rb.2.2.1.tin.length f2 F3 rb.2.2.1.tout.length f3 rb.2.2.2) 46);obtain⟨aS,dU⟩:=zX (aT.alloc (.cells (vdA rb.1 (rb.2.1:Int) F1 rb.2.2.1.cells.length f1 F2 rb.2.2.1.tin.length f2 F3 rb.2.2.1.tout.length f3 rb.2.2.2) 46));obtain⟨bb,hbb⟩:=zX (aT.heap.size);rw[dU]at dZ k11 ⊢;rw[hbb]at k11 ⊢;have uY:=zh (zka HC10.out dZ);have hka:=zkc (zkc HKA.out iM.out) dZ;have HSA:=zh (HS8.out aS (zka (zka HB89.out iM.out) dZ));have iE:=zh (HS10.out aS dZ)
 obtain⟨a0,a1,a2,a3,a4,a5⟩:=box6 hka;obtain⟨b0,b1,b2,b3,b4,b5⟩:=box6 k11;have oQ:=zzJ bD.out.2.2.1 lg.out.2.2.1 (zzK bD.out.2.2.1 hx hy hz) (relG e.gv e.fu) (rigG e.gv q e.fu) (erG e.gv q e.fu);change((grdE (bigE e x y z) q).1=true->(grdE e q).2.1<=(grdE (bigE e x y z) q).2.1)/\((grdE e q).1=false->(grdE (bigE e x y z) q).1=false/\InB e.gv.vs (grdE e q).2.2.1/\InB e.gv.vs (grdE (bigE e x y z) q).2.2.1/\znT (grdE e q).2.2.1 (grdE (bigE e x y z) q).2.2.1=false)at oQ;rw[HRA.out,cZ.out]at oQ;clear dZ k11 dU hbb hka HRA cZ;obtain⟨la,na,sa,ea⟩:=ra;obtain⟨lb,nb,sb,eb⟩:=rb;simp only at oQ a0 a1 a2 a3 a4 a5 b0 b1 b2 b3 b4 b5 HSA iE ⊢;obtain⟨l1,l2⟩:=oQ;obtain⟨ma,hma⟩:=zX ((na:Int));obtain⟨mb,hmb⟩:=zX ((nb:Int));rw[hma]at a1;rw[hmb]at b1;have gX:=zh (show lb=true->decide (ma>mb)=false from fun h=>by have:=l1 h;rw[decide_eq_false_iff_not];omega);have HL2:=zh l2
 clear l1 l2 hma hmb;obtain⟨t,ht⟩:=zX (decide (ma>mb));have ht2:decide (mb<ma)=t:=ht
 cases la
 ·have hlb:=(HL2.out rfl).1;have jM:=zh (HL2.out rfl).2;clear gX HL2;subst hlb
  cases t
  all_goals
   go_wp2_with fail;refine(zxX sa sb _ _ _ HSA.out iE.out jM.out.1.sm jM.out.2.1.sm (jM.out.1.n.trans jM.out.2.1.n.symm)).mono ?_;rintro en eH ⟨rfl,kM⟩;have hls:=jM.out.2.2;rw[hls];go_wp2_with fail;go_ret;exact⟨rfl,zka (zka HB.out uY.out) kM⟩
 ·cases lb
  ·clear gX HL2
   cases t
   all_goals
    go_wp2_with fail;go_ret;exact⟨rfl,zka HB.out uY.out⟩
  ·have h:=gX.out rfl;rw[ht]at h;clear gX HL2;subst h;go_wp2_with fail;go_ret;exact⟨rfl,zka HB.out uY.out⟩
end
section
open Go.RowKit Go.ChangeShapes Go.WideShapes Go.ChangeAt Go.Deep
theorem znk:prog.cellsOf 28=4:=by kernel_rfl
theorem zvy:prog.bytesOf 28=56:=by kernel_rfl
theorem zzr:prog.cellsOf 5=1:=by kernel_rfl
theorem zxu:prog.cellsOf 3=1:=by kernel_rfl
theorem zxt:prog.cellsOf 9=1:=by kernel_rfl
theorem zvw:prog.cellsOf 26=1:=by kernel_rfl
theorem zl3{H:Type}{P:Program}{e:TypeId}:∀ {l:List (DataW H)} {d:DataW H},d∈l->∀n∈d.weights P e,n∈DataW.weightsAll P e l
 | d0::l,d,hd,n,hn=>by
  simp only[DataW.weightsAll,List.mem_append];rcases List.mem_cons.1 hd with rfl|hd
  ·exact .inl hn
  ·exact .inr (zl3 hd n hn)
theorem zm7{H:Type}:∀(ks:List T) (ds:List (DataW H)),ks.length=ds.length->(∀i (h:i<ks.length) (h':i<ds.length),size ks[i]<=Rows.uptoBulk ds[i])->zkV ks<=Rows.uptoBulkAll ds
 | [],[],_,_=>by simp[zkV]
 | t::ts,d::ds,hl,h=>by
  have h0:=h 0 (Nat.zero_lt_succ _) (Nat.zero_lt_succ _);have h1:=zm7 ts ds (by simpa using hl) (fun i hi hi'=>h (i+1) (Nat.succ_lt_succ hi) (Nat.succ_lt_succ hi'));simp only[List.getElem_cons_zero]at h0;simp only[zkV,Rows.uptoBulkAll];omega
 | [],_::_,hl,_=>by simp at hl
 | _::_,[],hl,_=>by simp at hl
section
variable {H:Type} {enc:TypeId×Value->H} {w:World} {held:Bool}
def zeroT':T:=.nd 0 0 ⟨#[]⟩ []
theorem zqI:∀(fuel:Nat) (cs:List Value) (x:DataW H×List MemPlace),DataW.trod enc prog w 0 (fun _=>true) held fuel 28 cs=some x ->
  (∀n∈x.1.weights prog 28,n<=reachBytes) ->
  ∃t u0 u1 u2 u3,cs=[u0,u1,u2,u3]/\NV w Any t (.agg #[u0,u1,u2,u3])/\t.ks.length*56<=reachBytes/\size t<=Rows.uptoBulk x.1:=by
 intro fuel
 induction fuel using Nat.strongRecOn with
 | _ fuel ih =>
 intro cs x h hw;have hts:=DataW.trod_struct underlying28 h;obtain⟨xs,n,hfu,hx,hcl,hxl,hg⟩:=hts;subst hx;rw[znk]at hcl
 match cs,hcl with
 | [c0,c1,c2,c3],_ =>
 match xs,hxl with
 | [y0,y1,y2,y3],_ =>
 have g0:=hg 0 _ rfl;have g1:=hg 1 _ rfl;have g2:=hg 2 _ rfl;have g3:=hg 3 _ rfl;simp only[zzr,zxu,zxt,zvw,List.drop_zero,List.take_succ_cons,List.take_zero,List.drop_succ_cons,List.getElem?_cons_zero,List.getElem?_cons_succ]at g0 g1 g2 g3;obtain⟨k,e0,e0',wk⟩:=DataW.trod_int underlying5 g0;obtain⟨m,e1,e1',wm⟩:=DataW.trod_int underlying3 g1;obtain⟨s,e2,e2',ws⟩:=DataW.trod_string underlying9 g2;injection e0 with e0;injection e1 with e1;injection e2 with e2;subst e0 e1 e2 e0' e1' e2';have hf:Fld k m s:=by
  refine⟨?_,?_,ws⟩
  ·have:=wk;simp[Lit.wf,IntKind.min,IntKind.max,IntKind.signed,IntKind.bits]at this;omega
  ·have:=wm;simp[Lit.wf,IntKind.min,IntKind.max,IntKind.signed,IntKind.bits]at this;omega
 have hsl:=DataW.trod_slice underlying26 g3;rcases hsl with⟨e3,e3'⟩|⟨a,len,cap,elems,rest,n',hn',e3,e3',_,hl,hm,hel,hat,hsp,_⟩
 ·injection e3 with e3;subst e3 e3';refine⟨.nd k m s [],_,_,_,_,rfl,NV.shut (ks:=[]) hf (Nat.zero_le _) (Nat.zero_le _) zkP.nil,by simp,?_⟩;simp only[size,zkV,List.map_cons,List.map_nil,Rows.uptoBulk];omega
 ·injection e3 with e3;subst e3 e3';obtain⟨hrl,_⟩:=hsp rfl;rw[znk]at hat
  -- what the reach says of this slice,and of its elements
  have hws:∀q∈DataW.weights prog 26 (.slice (elems.map (·.1)) (rest.map (·.1)):DataW H),q<=reachBytes:=by
   intro q hq;refine hw q ?_;simp only[List.map_cons,List.map_nil,DataW.weights,underlying28];simp only[DataW.weightsEach,List.map_cons,List.map_nil,List.mem_append];exact .inr (.inr (.inr (.inl hq)))
  simp only[DataW.weights,underlying26,zvy]at hws;have hcap:cap*56<=reachBytes:=by
   have:=hws _ (List.mem_cons_self ..);simp only[List.length_map]at this;rw[hel,hrl]at this;rw[show cap=len+(cap-len) by omega];exact this
  have yc:∀y∈elems,∀q∈y.1.weights prog 28,q<=reachBytes:=fun y hy q hq =>
   hws q (List.mem_cons_of_mem _ (List.mem_append_left _ (zl3 (List.mem_map_of_mem hy) q hq)))
  have key:∀i (hi:i<elems.length),∃t u0 u1 u2 u3,w.cells? 0 (a.add (i*4)) 4=some [u0,u1,u2,u3]/\NV w Any t (.agg #[u0,u1,u2,u3])/\size t<=Rows.uptoBulk elems[i].1:=by
   intro i hi;have h1:=hat i (by omega);rw[List.getElem?_eq_getElem hi]at h1;obtain⟨cs',hcs,ht⟩:=Option.bind_eq_some_iff.1 h1;obtain⟨t,u0,u1,u2,u3,rfl,hn,_,hb⟩:=ih n' (by omega) cs' elems[i] ht (yc _ (List.getElem_mem hi));exact⟨t,u0,u1,u2,u3,hcs,hn,hb⟩
  have hex:∃ks:List T,ks.length=elems.length/\∀i (h:i<ks.length) (h':i<elems.length),(∃u0 u1 u2 u3,w.cells? 0 (a.add (i*4)) 4=some [u0,u1,u2,u3]/\NV w Any ks[i] (.agg #[u0,u1,u2,u3]))/\size ks[i]<=Rows.uptoBulk elems[i].1:=by
   classical
   refine⟨(List.range elems.length).map fun i=>if h:i<elems.length then(key i h).choose else zeroT',by simp,fun i h h'=>?_⟩;simp only[List.getElem_map,List.getElem_range,h',dif_pos];obtain⟨u0,u1,u2,u3,h1,h2,h3⟩:=(key i h').choose_spec;exact⟨⟨u0,u1,u2,u3,h1,h2⟩,h3⟩
  obtain⟨ks,hkl,hks⟩:=hex;have hlen:ks.length=len:=by omega
  have hLK:ks.length<=LK:=by unfold LK;unfold reachBytes at hcap;omega
  refine⟨.nd k m s ks,_,_,_,_,rfl,?_,?_,?_⟩
  ·rw[<-hlen];refine NV.shut hf hLK (by omega) fun i hi=>?_;obtain⟨⟨u0,u1,u2,u3,hc,hn⟩,_⟩:=hks i hi (by omega);obtain⟨_,_,hcell⟩:=World.cells?_some hc;refine⟨a,u0,u1,u2,u3,rfl,trivial,⟨?_,?_,?_,?_⟩,hn⟩
   ·have:=hcell 0 (by omega);simpa[Addr.add]using this
   ·have:=hcell 1 (by omega);simpa[Addr.add]using this
   ·have:=hcell 2 (by omega);simpa[Addr.add]using this
   ·have:=hcell 3 (by omega);simpa[Addr.add]using this
  ·simp only[T.ks_nd];omega
  ·have hb:=zm7 ks (elems.map (·.1)) (by simp[hkl]) (fun i h h'=>by
    have:=(hks i h (by simpa using h')).2;simpa using this)
   simp only[size,List.map_cons,List.map_nil,Rows.uptoBulk,Rows.uptoBulkAll];omega
end
theorem Tryz.own:ownKnob prog.godebug=none:=by kernel_rfl
theorem Tryz.laidOut:laidOutB prog=true:=by kernel_rfl
theorem zvt:prog.cellsOf 38=3:=by kernel_rfl
theorem zzt:prog.bytesOf 38=32:=by kernel_rfl
section
variable {H:Type} {enc:TypeId×Value->H} {w:World} {held:Bool}
theorem zso{ty E:TypeId}{n b:Nat}(ht:prog.underlying ty=some (.slice E))(hc:prog.cellsOf E=n)(hb:prog.bytesOf E=b){fuel:Nat}{cs:List Value}{x:DataW H×List MemPlace}
  (h:DataW.trod enc prog w 0 (fun _=>true) held fuel ty cs=some x)(hw:∀q∈x.1.weights prog ty,q<=reachBytes) :
  cs=[.slice none 0 0]\/∃a len cap,cs=[.slice (some a) len cap]/\len<=cap/\cap*b<=reachBytes/\∀i,i<len->∃cs' y n',w.cells? 0 (a.add (i*n)) n=some cs'/\DataW.trod enc prog w 0 (fun _=>true) held n' E cs'=some y/\∀q∈y.1.weights prog E,q<=reachBytes:=by
 have hsl:=DataW.trod_slice ht h;rcases hsl with⟨e3,e3'⟩|⟨a,len,cap,elems,rest,n',hn',e3,e3',_,hl,hm,hel,hat,hsp,_⟩
 ·exact .inl e3
 ·refine .inr ⟨a,len,cap,e3,hl,?_,?_⟩
  ·obtain⟨hrl,_⟩:=hsp rfl;subst e3';simp only[DataW.weights,ht,hb]at hw;have:=hw _ (List.mem_cons_self ..);simp only[List.length_map]at this;rw[hel,hrl]at this;rw[show cap=len+(cap-len) by omega];exact this
  ·intro i hi;subst e3';simp only[DataW.weights,ht,hb]at hw;have hi':i<elems.length:=by omega
   have h1:=hat i (by omega);rw[List.getElem?_eq_getElem hi',hc]at h1;obtain⟨cs',hcs,ht'⟩:=Option.bind_eq_some_iff.1 h1;exact⟨cs',elems[i],n',hcs,ht',fun q hq=>hw q (List.mem_cons_of_mem _ (List.mem_append_left _ (zl3 (List.mem_map_of_mem (List.getElem_mem hi')) q hq)))⟩
theorem zyS{fuel:Nat}{cs:List Value}{x:DataW H×List MemPlace}(h:DataW.trod enc prog w 0 (fun _=>true) held fuel 38 cs=some x) :
  ∃v:VD,cs=[.string v.s,.int .u8 v.k,.int .i64 v.n]/\FldV v:=by
 have hts:=DataW.trod_struct underlying38 h;obtain⟨xs,n,hfu,hx,hcl,hxl,hg⟩:=hts;rw[zvt]at hcl
 match cs,hcl with
 | [c0,c1,c2],_ =>
 match xs,hxl with
 | [y0,y1,y2],_ =>
 have g0:=hg 0 _ rfl;have g1:=hg 1 _ rfl;have g2:=hg 2 _ rfl;obtain⟨s,e2,e2',ws⟩:=DataW.trod_string underlying9 g0;obtain⟨k,e0,e0',wk⟩:=DataW.trod_int underlying5 g1;obtain⟨m,e1,e1',wm⟩:=DataW.trod_int underlying3 g2;injection e0 with e0;injection e1 with e1;injection e2 with e2;subst e0 e1 e2;refine⟨⟨s,k,m⟩,rfl,ws,?_,?_⟩
 ·have:=wk;simp[Lit.wf,IntKind.min,IntKind.max,IntKind.signed,IntKind.bits]at this;constructor<;>simp only<;>omega
 ·have:=wm;simp[Lit.wf,IntKind.min,IntKind.max,IntKind.signed,IntKind.bits]at this;constructor<;>simp only<;>omega
theorem zoL{α:Type}[Inhabited α]{n:Nat}{P:Nat->α->Prop}(h:∀i,i<n->∃x,P i x):∃l:List α,l.length=n/\∀i (hi:i<l.length),P i l[i]:=by
 obtain⟨f,hf⟩:=choose_lt h;exact⟨(List.range n).map f,by simp,fun i hi=>by simp only[List.getElem_map,List.getElem_range];exact hf i (by simpa using hi)⟩
instance:Inhabited VD:=⟨⟨⟨#[]⟩,0,0⟩⟩
theorem zs5{fuel:Nat}{cs:List Value}{x:DataW H×List MemPlace}(h:DataW.trod enc prog w 0 (fun _=>true) held fuel 24 cs=some x)(hw:∀q∈x.1.weights prog 24,q<=reachBytes) :
  ∃(A:Option Addr) (vs:List VD) (c:Nat),cs=[.slice A vs.length c]/\RowV w Any A vs/\vs.length<=4398046510976/\vs.length<=c:=by
 rcases zso underlying24 zvt zzt h hw with rfl|⟨a,len,cap,rfl,hl,hcap,hat⟩
 ·exact⟨none,[],0,rfl,fun i hi=>absurd hi (by simp),Nat.zero_le _,Nat.zero_le _⟩
 ·obtain⟨vs,hvl,hvs⟩:=zoL (n:=len) (P:=fun i (v:VD)=>w.cells? 0 (a.add (i*3)) 3=some [.string v.s,.int .u8 v.k,.int .i64 v.n]/\FldV v) fun i hi=>by
   obtain⟨cs',y,n',hcs,ht,_⟩:=hat i hi;obtain⟨v,rfl,hf⟩:=zyS ht;exact⟨v,hcs,hf⟩
  refine⟨some a,vs,cap,by rw[hvl],fun i hi=>?_,by unfold reachBytes at hcap;omega,by omega⟩;obtain⟨hc,hf⟩:=hvs i hi;obtain⟨_,_,hcell⟩:=World.cells?_some hc;refine⟨a,rfl,trivial,⟨?_,?_,?_⟩,hf⟩
  ·have:=hcell 0 (by omega);simpa[Addr.add]using this
  ·have:=hcell 1 (by omega);simpa[Addr.add]using this
  ·have:=hcell 2 (by omega);simpa[Addr.add]using this
theorem zqG{fuel:Nat}{cs:List Value}{x:DataW H×List MemPlace}(h:DataW.trod enc prog w 0 (fun _=>true) held fuel 24 cs=some x)(hw:∀q∈x.1.weights prog 24,q<=reachBytes) :
  ∃(A:Option Addr) (vs:List VD) (c:Nat),cs=[.slice A vs.length c]/\RowV w Any A vs/\vs.length<=LV/\vs.length<=c:=by
 obtain⟨A,vs,c,h1,h2,h3,h4⟩:=zs5 h hw;exact⟨A,vs,c,h1,h2,by unfold LV;omega,h4⟩
instance:Inhabited T:=⟨zeroT'⟩
theorem zsp{t:T}{u0 u1 u2 u3:Value}(h:NV w Any t (.agg #[u0,u1,u2,u3])):∃A c,u0=.int .u8 t.k/\u1=.int .i64 t.n/\u2=.string t.s/\u3=.slice A t.ks.length c/\NV w Any t (nv t.k t.n t.s A t.ks.length c):=by
 obtain⟨A,c,e,_⟩:=h.open_;have e':=e;simp only[nv,Value.agg.injEq,Array.mk.injEq,List.cons.injEq,and_true]at e;exact⟨A,c,e.1,e.2.1,e.2.2.1,e.2.2.2,e'▸h⟩
end
theorem zvu:prog.cellsOf 100=6:=by kernel_rfl
theorem zzu:prog.bytesOf 100=96:=by kernel_rfl
theorem zvv:prog.cellsOf 30=6:=by kernel_rfl
section
variable {H:Type} {enc:TypeId×Value->H} {w:World} {held:Bool}
instance:Inhabited PR:=⟨⟨⟨#[]⟩,[],zeroT'⟩⟩
theorem zuj{fuel:Nat}{cs:List Value}{x:DataW H×List MemPlace}(h:DataW.trod enc prog w 0 (fun _=>true) held fuel 100 cs=some x)(hw:∀q∈x.1.weights prog 100,q<=reachBytes) :
  ∃(r:PR) (A1:Option Addr) (c1:Nat) (A2:Option Addr) (c2:Nat),cs=[.string r.s,.slice A1 r.ps.length c1,.int .u8 r.b.k,.int .i64 r.b.n,.string r.b.s,.slice A2 r.b.ks.length c2]/\PrR w Any r A1 c1 A2 c2:=by
 have hts:=DataW.trod_struct underlying100 h;obtain⟨xs,n,hfu,hx,hcl,hxl,hg⟩:=hts;subst hx;rw[zvu]at hcl
 match cs,hcl with
 | [c0,c1,c2,c3,c4,c5],_ =>
 match xs,hxl with
 | [y0,y1,y2],_ =>
 have g0:=hg 0 _ rfl;have g1:=hg 1 _ rfl;have g2:=hg 2 _ rfl;have hw1:∀q∈y1.1.weights prog 24,q<=reachBytes:=fun q hq=>by
  refine hw q ?_;simp only[List.map_cons,List.map_nil,DataW.weights,underlying100];simp only[DataW.weightsEach,List.map_cons,List.map_nil,List.mem_append];exact .inr (.inl hq)
 have hw2:∀q∈y2.1.weights prog 28,q<=reachBytes:=fun q hq=>by
  refine hw q ?_;simp only[List.map_cons,List.map_nil,DataW.weights,underlying100];simp only[DataW.weightsEach,List.map_cons,List.map_nil,List.mem_append];exact .inr (.inr (.inl hq))
 obtain⟨s,e0,_,ws⟩:=DataW.trod_string underlying9 g0;obtain⟨A1,ps,k1,e1,hrow,hlp,hlc⟩:=zqG g1 hw1;obtain⟨t,u0,u1,u2,u3,e2,hn,_,_⟩:=zqI _ _ _ g2 hw2;obtain⟨A2,k2,rfl,rfl,rfl,rfl,hn'⟩:=zsp hn;injection e0 with e0;injection e1 with e1;change List.take (prog.cellsOf 28) [c2,c3,c4,c5]=_ at e2;rw[znk]at e2;simp only[List.take_succ_cons,List.take_zero,List.cons.injEq,and_true]at e2;obtain⟨rfl,rfl,rfl,rfl⟩:=e2;subst e0 e1;exact⟨⟨s,ps,t⟩,A1,k1,A2,k2,rfl,ws,hrow,hlp,hlc,hn'⟩
theorem zs6{fuel:Nat}{cs:List Value}{x:DataW H×List MemPlace}(h:DataW.trod enc prog w 0 (fun _=>true) held fuel 25 cs=some x)(hw:∀q∈x.1.weights prog 25,q<=reachBytes) :
  ∃(A:Option Addr) (ps:List PR) (c:Nat),cs=[.slice A ps.length c]/\RowP w Any A ps/\ps.length<=LV/\ps.length<=c:=by
 rcases zso underlying25 zvu zzu h hw with rfl|⟨a,len,cap,rfl,hl,hcap,hat⟩
 ·exact⟨none,[],0,rfl,fun i hi=>absurd hi (by simp),Nat.zero_le _,Nat.zero_le _⟩
 ·obtain⟨ps,hvl,hvs⟩:=zoL (n:=len) (P:=fun i (r:PR)=>∃A1 c1 A2 c2,w.cells? 0 (a.add (i*6)) 6=some [.string r.s,.slice A1 r.ps.length c1,.int .u8 r.b.k,.int .i64 r.b.n,.string r.b.s,.slice A2 r.b.ks.length c2]/\PrR w Any r A1 c1 A2 c2) fun i hi=>by
   obtain⟨cs',y,n',hcs,ht,wG⟩:=hat i hi;obtain⟨r,A1,c1,A2,c2,rfl,hr⟩:=zuj ht wG;exact⟨r,A1,c1,A2,c2,hcs,hr⟩
  refine⟨some a,ps,cap,by rw[hvl],fun i hi=>?_,by unfold LV;unfold reachBytes at hcap;omega,by omega⟩;obtain⟨A1,c1,A2,c2,hc,hr⟩:=hvs i hi;obtain⟨_,_,hcell⟩:=World.cells?_some hc;refine⟨a,A1,c1,A2,c2,rfl,trivial,⟨?_,?_,?_,?_,?_,?_⟩,hr⟩
  ·have:=hcell 0 (by omega);simpa[Addr.add]using this
  ·have:=hcell 1 (by omega);simpa[Addr.add]using this
  ·have:=hcell 2 (by omega);simpa[Addr.add]using this
  ·have:=hcell 3 (by omega);simpa[Addr.add]using this
  ·have:=hcell 4 (by omega);simpa[Addr.add]using this
  ·have:=hcell 5 (by omega);simpa[Addr.add]using this
theorem zqH{fuel:Nat}{cs:List Value}{x:DataW H×List MemPlace}(h:DataW.trod enc prog w 0 (fun _=>true) held fuel 30 cs=some x)(hw:∀q∈x.1.weights prog 30,q<=reachBytes) :
  ∃(p:PG) (A1:Option Addr) (c1:Nat) (A2:Option Addr) (c2:Nat) (A3:Option Addr) (c3:Nat),cs=[.slice A1 p.vs.length c1,.slice A2 p.prs.length c2,.int .u8 p.m.k,.int .i64 p.m.n,.string p.m.s,.slice A3 p.m.ks.length c3]/\PgR w Any p A1 c1 A2 c2 A3 c3:=by
 have hts:=DataW.trod_struct underlying30 h;obtain⟨xs,n,hfu,hx,hcl,hxl,hg⟩:=hts;subst hx;rw[zvv]at hcl
 match cs,hcl with
 | [c0,c1,c2,c3,c4,c5],_ =>
 match xs,hxl with
 | [y0,y1,y2],_ =>
 have g0:=hg 0 _ rfl;have g1:=hg 1 _ rfl;have g2:=hg 2 _ rfl;have hw0:∀q∈y0.1.weights prog 24,q<=reachBytes:=fun q hq=>by
  refine hw q ?_;simp only[List.map_cons,List.map_nil,DataW.weights,underlying30];simp only[DataW.weightsEach,List.map_cons,List.map_nil,List.mem_append];exact .inl hq
 have hw1:∀q∈y1.1.weights prog 25,q<=reachBytes:=fun q hq=>by
  refine hw q ?_;simp only[List.map_cons,List.map_nil,DataW.weights,underlying30];simp only[DataW.weightsEach,List.map_cons,List.map_nil,List.mem_append];exact .inr (.inl hq)
 have hw2:∀q∈y2.1.weights prog 28,q<=reachBytes:=fun q hq=>by
  refine hw q ?_;simp only[List.map_cons,List.map_nil,DataW.weights,underlying30];simp only[DataW.weightsEach,List.map_cons,List.map_nil,List.mem_append];exact .inr (.inr (.inl hq))
 obtain⟨A1,vs,k1,e0,hrow,hlv,hlvc⟩:=zqG g0 hw0;obtain⟨A2,ps,k2,e1,wL,hlp,hlpc⟩:=zs6 g1 hw1;obtain⟨t,u0,u1,u2,u3,e2,hn,_,_⟩:=zqI _ _ _ g2 hw2;obtain⟨A3,k3,rfl,rfl,rfl,rfl,hn'⟩:=zsp hn;injection e0 with e0;injection e1 with e1;change List.take (prog.cellsOf 28) [c2,c3,c4,c5]=_ at e2;rw[znk]at e2;simp only[List.take_succ_cons,List.take_zero,List.cons.injEq,and_true]at e2;obtain⟨rfl,rfl,rfl,rfl⟩:=e2;subst e0 e1;exact⟨⟨vs,ps,t⟩,A1,k1,A2,k2,A3,k3,rfl,hrow,hlv,hlvc,wL,hlp,hlpc,hn'⟩
end
theorem zyQ{H:Type}{enc:TypeId×Value->H}{W:World}{base:Nat}{v:Value}{d:DataW H}{p:List MemPlace}(hok:Value.okWide prog W .any base 30 v)
  (h:DataW.Trod enc prog W 0 (fun _=>true) true 30 v d p)(hw:∀n∈d.weights prog 30,n<=reachBytes):∃g,PV W Any g v:=by
 obtain⟨cs,rfl,hcs⟩:=okWide_struct underlying30 hok;obtain⟨fuel,hf⟩:=h;obtain⟨g,A1,c1,A2,c2,A3,c3,e,hr⟩:=zqH hf hw;refine⟨g,A1,c1,A2,c2,A3,c3,?_,hr⟩;have:cs = #[.slice A1 g.vs.length c1,.slice A2 g.prs.length c2,.int .u8 g.m.k,.int .i64 g.m.n,.string g.m.s,.slice A3 g.m.ks.length c3]:=by
  apply Array.ext';simpa[Value.cells]using e
 rw[this]
theorem zsJ:prog.cellsOf 23=3:=by kernel_rfl
theorem zzs:prog.cellsOf 32=12:=by kernel_rfl
section
variable {H:Type} {enc:TypeId×Value->H} {w:World} {held:Bool}
theorem zuk{fuel:Nat}{cs:List Value}{x:DataW H×List MemPlace}(h:DataW.trod enc prog w 0 (fun _=>true) held fuel 23 cs=some x) :
  ∃b:BX,cs=[.int .i64 b.v,.int .i64 b.l,.int .i64 b.i]:=by
 have hts:=DataW.trod_struct underlying23 h;obtain⟨xs,n,hfu,hx,hcl,hxl,hg⟩:=hts;rw[zsJ]at hcl
 match cs,hcl with
 | [c0,c1,c2],_ =>
 match xs,hxl with
 | [y0,y1,y2],_ =>
 obtain⟨m0,e0,_,w0⟩:=DataW.trod_int underlying3 (hg 0 _ rfl);obtain⟨m1,e1,_,w1⟩:=DataW.trod_int underlying3 (hg 1 _ rfl);obtain⟨m2,e2,_,w2⟩:=DataW.trod_int underlying3 (hg 2 _ rfl);injection e0 with e0;injection e1 with e1;injection e2 with e2;subst e0 e1 e2;exact⟨⟨m0,m1,m2⟩,rfl⟩
theorem zyT{fuel:Nat}{cs:List Value}{x:DataW H×List MemPlace}(h:DataW.trod enc prog w 0 (fun _=>true) held fuel 32 cs=some x)(hw:∀q∈x.1.weights prog 32,q<=reachBytes) :
  ∃(e:EX) (A1:Option Addr) (c1:Nat) (A2:Option Addr) (c2:Nat) (A3:Option Addr) (c3:Nat),cs=(exA e A1 c1 A2 c2 A3 c3).toList/\PgR w Any e.gv A1 c1 A2 c2 A3 c3/\I64 e.fu:=by
 have hts:=DataW.trod_struct underlying32 h;obtain⟨xs,n,hfu,hx,hcl,hxl,hg⟩:=hts;subst hx;rw[zzs]at hcl
 match cs,hcl with
 | [c0,c1,c2,c3,c4,c5,c6,c7,c8,c9,c10,c11],_ =>
 match xs,hxl with
 | [y0,y1,y2,y3,y4],_ =>
 have g0:=hg 0 _ rfl;have g1:=hg 1 _ rfl;have g2:=hg 2 _ rfl;have g3:=hg 3 _ rfl;have g4:=hg 4 _ rfl;have hw4:∀q∈y4.1.weights prog 30,q<=reachBytes:=fun q hq=>by
  refine hw q ?_;simp only[List.map_cons,List.map_nil,DataW.weights,underlying32];simp only[DataW.weightsEach,List.map_cons,List.map_nil,List.mem_append];exact .inr (.inr (.inr (.inr (.inl hq))))
 obtain⟨s,e0,_,ws⟩:=DataW.trod_string underlying9 g0;obtain⟨m1,e1,_,w1⟩:=DataW.trod_int underlying3 g1;obtain⟨m2,e2,_,w2⟩:=DataW.trod_int underlying3 g2;obtain⟨b,e3⟩:=zuk g3;obtain⟨p,A1,k1,A2,k2,A3,k3,e4,hr⟩:=zqH g4 hw4;injection e0 with e0;injection e1 with e1;injection e2 with e2;change List.take (prog.cellsOf 23) [c3,c4,c5,c6,c7,c8,c9,c10,c11]=_ at e3;rw[zsJ]at e3;change List.take (prog.cellsOf 30) [c6,c7,c8,c9,c10,c11]=_ at e4;rw[zvv]at e4;simp only[List.take_succ_cons,List.take_zero,List.cons.injEq,and_true]at e3 e4;obtain⟨rfl,rfl,rfl⟩:=e3;obtain⟨rfl,rfl,rfl,rfl,rfl,rfl⟩:=e4;subst e0 e1 e2;simp[Lit.wf,IntKind.min,IntKind.max,IntKind.signed,IntKind.bits]at w1 w2;exact⟨⟨s,m1,m2,b,p⟩,A1,k1,A2,k2,A3,k3,rfl,hr,⟨by simp only;omega,by simp only;omega⟩⟩
end
theorem zLh{H:Type}{enc:TypeId×Value->H}{W:World}{base:Nat}{v:Value}{d:DataW H}{p:List MemPlace}(hok:Value.okWide prog W .any base 32 v)
  (h:DataW.Trod enc prog W 0 (fun _=>true) true 32 v d p)(hw:∀n∈d.weights prog 32,n<=reachBytes):∃e,EV W Any e v:=by
 obtain⟨cs,rfl,hcs⟩:=okWide_struct underlying32 hok;obtain⟨fuel,hf⟩:=h;obtain⟨g,A1,c1,A2,c2,A3,c3,e,hr,hI⟩:=zyT hf hw;refine⟨g,A1,c1,A2,c2,A3,c3,?_,hr,hI⟩;have:cs=exA g A1 c1 A2 c2 A3 c3:=by
  apply Array.ext';simpa[Value.cells]using e
 rw[this]
end
section
open Go Go.RowKit Go.ChangeShapes Go.WideShapes Go.ChangeAt
section
variable {H:Type} {enc:TypeId×Value->H} {P:Program} {w:World} {base:Nat} {spare:Nat->Bool} {held:Bool}
theorem zqq{t t' t'' t3 t4:TypeId}{args:Array Value}{ds:List (DataW H)}{ps:List MemPlace}(h:DataW.TrodAll enc P w base spare held [t,t',t'',t3,t4] args.toList ds ps) :
  ∃v v' v'' v3 v4 d d' d'' d3 d4 p p' p'' p3 p4,args = #[v,v',v'',v3,v4]/\ds=[d,d',d'',d3,d4]/\ps=p++p'++p''++p3++p4/\DataW.Trod enc P w base spare held t v d p/\DataW.Trod enc P w base spare held t' v' d' p'/\DataW.Trod enc P w base spare held t'' v'' d'' p''/\DataW.Trod enc P w base spare held t3 v3 d3 p3/\DataW.Trod enc P w base spare held t4 v4 d4 p4:=by
 obtain⟨v,vs,d,ds',p,q,hargs,rfl,rfl,hd,hrest⟩:=trodAll_cons h;obtain⟨v',vs',d',ds'',p',q',rfl,rfl,rfl,hd',hrest'⟩:=trodAll_cons hrest;obtain⟨v'',vs'',d'',ds''',p'',q'',rfl,rfl,rfl,hd'',hrest''⟩:=trodAll_cons hrest';obtain⟨v3,vs3,d3,ds3,p3,q3,rfl,rfl,rfl,hd3,hrest3⟩:=trodAll_cons hrest'';obtain⟨v4,vs4,d4,ds4,p4,q4,rfl,rfl,rfl,hd4,hrest4⟩:=trodAll_cons hrest3;obtain⟨rfl,rfl,rfl⟩:=trodAll_nil hrest4;exact⟨v,v',v'',v3,v4,d,d',d'',d3,d4,p,p',p'',p3,p4,by cases args;simp_all,rfl,by simp,hd,hd',hd'',hd3,hd4⟩
theorem zrm{t t' t'' t3 t4:TypeId}{v v' v'' v3 v4:Value}{d d' d'' d3 d4:DataW H}{p p' p'' p3 p4:List MemPlace}(h:DataW.Trod enc P w base spare held t v d p)(h':DataW.Trod enc P w base spare held t' v' d' p')
  (h'':DataW.Trod enc P w base spare held t'' v'' d'' p'')(h3:DataW.Trod enc P w base spare held t3 v3 d3 p3)(h4:DataW.Trod enc P w base spare held t4 v4 d4 p4):DataW.TrodAll enc P w base spare held [t,t',t'',t3,t4] [v,v',v'',v3,v4] [d,d',d'',d3,d4] (p++(p'++(p''++(p3++p4)))):=⟨p,p'++(p''++(p3++p4)),h,trodAll_mk4 h' h'' h3 h4,rfl⟩
end
end
end Go.Proofs.YthjinpodhacleaaGreat
