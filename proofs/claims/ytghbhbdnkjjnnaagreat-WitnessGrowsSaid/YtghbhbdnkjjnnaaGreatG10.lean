/-
  Texts of the proof, put together without their remarks: En7, En8, Wsm, Wlp, Wfa, Wlo, Wco, Waw, Wbs, Lwn, Apq, Rst, Wst, Wsa, Lwc, Ig, Eqv, Wfp, Pfi, Wpr, Lwl, Eno.
-/
import Derived.Test.YtghbhbdnkjjnnaaGreatG9
import Derived.Maps.OwnSet
import Derived.StringKeys
import Derived.Maps.OwnIn
set_option linter.unusedSimpArgs false
set_option linter.unusedVariables false
set_option maxHeartbeats 8000000
set_option maxRecDepth 100000
namespace Go.Proofs.YtghbhbdnkjjnnaaGreat
section
open Go Go.RowKit
section
variable {Z:DK} {n:Nat} {W W':World} {p:List (List Int)} {m f m' f':Nat->Nat}
theorem RowQ.congr(h:RowQ Z n W p m' f')(he:∀j,j<p.length->m' j=m j/\f' j=f j):RowQ Z n W p m f:=by
 obtain⟨us,h1,h2,h3⟩:=h.row;refine⟨⟨us,h1,h2,fun j hj=>by rw[h3 j hj,(he j hj).1,(he j hj).2]⟩,fun j hj=>?_,fun j hj=>by rw[<-(he j hj).2];exact h.ne j hj,fun i j hi hj e=>h.inj i j hi hj (by rw[(he i hi).2,(he j hj).2];exact e),h.fits⟩;have:=h.el j hj;rwa[(he j hj).1,(he j hj).2]at this
theorem RowQ.new{M:Nat}{W1 W2:World}(h:RowQ Z n W p m f)(hp:p.length<n)(h1:W1=W.alloc (.cells (madeCells #[.int .i64 0] M) 3))(hc:Chg (fun b=>b=Z.rb) W1 W2)
  (hk:∀us,W1.heap[Z.rb]?=some (.cells us 32 (0,0))->W2.heap[Z.rb]?=some (.cells (us.setIfInBounds p.length (.slice (some ⟨W.heap.size,0,none⟩) M M)) 32 (0,0))) :
  RowQ Z n W2 (p++[[]]) (fun j=>if j=p.length then M else m j) (fun j=>if j=p.length then W.heap.size else f j):=by
 have hb:Below W.heap.size W W1:=by rw[h1];exact zkc zr _
 have hn:W1.heap[W.heap.size]?=some (.cells (madeCells #[.int .i64 0] M) 3 (0,0)):=by rw[h1];exact heap_alloc_new W _
 obtain⟨us,u1,u2,u3⟩:=h.row;have hl:=h.lt;have hlen:(p++[[]]).length=p.length+1:=by simp
 refine⟨⟨_,hk us (zka u1 hb),by simpa using u2,fun j hj=>?_⟩,fun j hj=>?_,fun j hj=>?_,fun i j hi hj e=>?_,fun x hx e he=>?_⟩
 ·by_cases e:j=p.length
  ·subst e;simp only[if_true];rw[Array.getElem?_setIfInBounds_self_of_lt (by omega)]
  ·simp only[e,if_false];rw[Array.getElem?_setIfInBounds_ne (by omega)];exact u3 j (by omega)
 ·rcases zpy hj with⟨hjp,_,e⟩|⟨rfl,e⟩
  ·have hne:j≠p.length:=by omega
   simp only[e,hne,if_false];obtain⟨vs,v1,v2⟩:=h.el j hjp;exact⟨vs,hc.keep (zka v1 hb) (h.ne j hjp),v2⟩
  ·simp only[e,if_true];exact⟨_,hc.keep hn fun e=>by have e:W.heap.size=Z.rb:=e;omega,by rw[size_madeCells],Nat.zero_le _,fun i hi=>absurd hi (Nat.not_lt_zero i)⟩
 ·by_cases e:j=p.length
  ·simp only[e,if_true];omega
  ·simp only[e,if_false];exact h.ne j (by omega)
 ·split at e<;>split at e
  ·omega
  ·have:=hl.2 j (by omega);omega
  ·have:=hl.2 i (by omega);omega
  ·exact h.inj i j (by omega) (by omega) e
 ·rcases List.mem_append.1 hx with hx|hx
  ·exact h.fits x hx e he
  ·obtain rfl:=List.mem_singleton.1 hx;cases he
end
theorem zs0{J Jx:List SS->(Nat->Prop)->World->Prop}{Z:DK}{bs rs:List Bn}{h nf:Nat}{B:Nat->Prop}{tot:List SS}{p:List (List Int)}{m f:Nat->Nat}{pre:List SS}{C:Nat->Prop}{W:World}{left:Int}{n c l0 l1 w0 T:Nat}{w1 Q lo hi':Int}{a:Addr}{G:Int->List SS}
  (x0:W.cell? ⟨Z.lb,0,none⟩=some (.slice (some ⟨Z.rb,0,none⟩) n n))(x2:W.cell? ⟨Z.hb,0,none⟩=some (.int .i64 (h:Int)))(x3:W.cell? ⟨Z.tb,0,none⟩=some (.slice (some ⟨Z.tr,0,none⟩) (n+1) Z.tc))(x1:W.cell? ⟨Z.bb,0,none⟩=some (.slice (some a) n Z.c))
  (x4:W.cell? ⟨Z.tr,(c+1)*2,none⟩=some (.int .i64 (w0:Int)))(x5:W.cell? ⟨Z.tr,(c+1)*2+1,none⟩=some (.int .i64 w1))(x6:W.cell? (a.add (c*2))=some (.int .i64 (l0:Int)))(x7:W.cell? ⟨(a.add (c*2)).block,(a.add (c*2)).off+1,none⟩=some (.int .i64 (l1:Int)))
  (hwb:w0<=1000000/\0<=w1/\w1<=10000000000)(hbb:l0<=1000/\l1<=1000)(hbn:n<=100)(tL:h<=10000)(kg:1<=h)(hcn:c<n)(hleft:0<=left/\left<=100000000000)
  (uR:(left-w1+(h:Int)-1).tdiv (h:Int)=Q)(uQ : -100000010000<=Q/\Q<=100000010000)(hlo:max (l0:Int) Q=lo)(hhi:min (l1:Int) (left-(w0:Int))=hi')(hlo0:0<=lo)(hlo1:lo<=100000010000)(hhi1:hi'<=1000)(hhi2 : -100000000000<=hi')(hT:(hi'-lo+1).toNat=T)
  (HJ:Hid (JC J Jx nf Z.l tot))(mM:Hid (J pre C W))(HD:Hid (DW Z bs h B W))(HQ:Hid (RowQ Z bs.length W p m f))(HS:Hid (SepQ Z B p.length f C))(dL:Hid ((pre++(List.range T).flatMap fun(j:Nat)=>G (lo+(j:Int))) <+: tot))(HN:Hid (∀k,NumC J Jx Z bs h B tot rs k))
  (HM:Hid (∀j (hj:j<p.length),m j=p[j].length))(vN:Hid (∀j,j<p.length->m j<=1000))(lh:Hid (bs.drop (p.length+1)=rs))(HG:Hid (G=fun r=>(numE h rs (zkR h rs) r.toNat left).map fun z=>stOf (p++hdA [] z)))(pz:Hid (bs.length=n/\p.length=c/\p.length+1<=bs.length)) :
  Calls Tryz.prog 112 (#[.int .i64 (c:Int),.int .i64 left]++Z.cap1) W (zr6 J Jx Z n (fun b=>b=Z.rb) pre ((List.range T).flatMap fun(j:Nat)=>G (lo+(j:Int))) p m f C W):=by
 have hp1:(c:Int)<(n:Int):=by omega
 have hp2:(0:Int)<=(c:Int)+1:=by omega
 have hp3:(c:Int)+1<(n:Int)+1:=by omega
 have hwc:IntKind.i64.wrap ((c:Int)+1)=(c:Int)+1:=IntWalk.i64_in _ (by omega);have hne:((c:Int)==(n:Int))=false:=by simp;omega
 have hh0:¬ (h:Int)=0:=by omega
 have e3:IntKind.i64.wrap (left-w1)=left-w1:=IntWalk.i64_in _ (by omega);have e4:IntKind.i64.wrap (left-w1+(h:Int))=left-w1+(h:Int):=IntWalk.i64_in _ (by omega);have e5:IntKind.i64.wrap (left-w1+(h:Int)-1)=left-w1+(h:Int)-1:=IntWalk.i64_in _ (by omega);have e6:IntKind.i64.wrap Q=Q:=IntWalk.i64_in _ (by omega);have qp:=zh (And.intro hwb (And.intro hbb (And.intro hlo0 (And.intro hlo1 (And.intro hhi1 (And.intro hhi2 (And.intro uQ (And.intro hleft (And.intro hbn (And.intro tL (And.intro kg hcn)))))))))));have HHI:=zh hhi;have HTT:=zh hT;clear hwb hbb hlo0 hlo1 hhi1 hhi2 uQ hleft hbn tL kg hcn hhi hT;go_enter Tryz.func112,Tryz.ntmps112;go_upto_region 4 with fail
 go_region
 have hbd:=(zs W).drew;obtain⟨wA,uD⟩:=zX (W.drew);rw[uD]at hbd ⊢
 replace x0:=zb hbd x0
 replace x1:=zb hbd x1
 replace x3:=zb hbd x3
 replace x4:=zb hbd x4
 replace x7:=zb hbd x7
 clear uD x2 x5 x6 e3 e4 e5 e6 hlo uR;have hhi:=HHI.out;have e4:IntKind.i64.wrap (left-(w0:Int))=left-(w0:Int):=IntWalk.i64_in _ (by have:=qp.out;omega);go_upto_region 5 with fail
 go_region
 have ji:=hbd.trans (Below.refl W.heap.size wA |>.mono zl |>.drew);obtain⟨wB,uC⟩:=zX (wA.drew);rw[uC]at ji ⊢;have dP:=zh ji;clear uC x0 x1 x3 x4 x7 e4 hbd ji hwc hp2 hp3;clear hhi;obtain⟨hwb,hbb,hlo0,hlo1,hhi1,hhi2,uQ,hleft,hbn,tL,kg,hcn⟩:=qp.out;have hT:=HTT.out;have e1:IntKind.i64.wrap (hi'-lo)=hi'-lo:=IntWalk.i64_in _ (by omega);have e2:IntKind.i64.wrap (hi'-lo+1)=hi'-lo+1:=IntWalk.i64_in _ (by omega);go_wp2_with fail
 go_loopw [72] (fun iv wr=>∃(j:Nat) (C':Nat->Prop),j<=T/\iv=.int .i64 j/\Hid (J (pre++(List.range j).flatMap fun(i:Nat)=>G (lo+(i:Int))) C' wr/\(∀b,C' b->C b\/W.heap.size<=b)/\Chg (fun b=>C b\/b=Z.rb) W wr/\RowQ Z bs.length wr p m f)) (fun iv _=>T-(intOf iv).toNat)
 case atStart=>exact⟨0,C,Nat.zero_le _,rfl,zh ⟨by rw[List.range_zero,List.flatMap_nil,List.append_nil];exact HJ.out.keep _ _ _ _ mM.out (Chg.of_below dP.out),fun b h=>.inl h,Chg.of_below dP.out,HQ.out.chg (Chg.of_below (C:=fun _=>False) dP.out) id fun _ _=>id⟩⟩
 case round =>
  obtain⟨j,C',hjT,rfl,HI⟩:=hrel;by_cases hlt:j<T
  ·obtain⟨i1,i2,i3,i4⟩:=HI.out;have hDn:∀b,B b->¬ (C b\/b=Z.rb):=fun b hb h=>by
    rcases h with h|rfl
    ·exact HS.out.b _ hb h
    ·exact HS.out.br hb
   have hD2:=HD.out.chg i3 hDn;have hS2:=SepQ.grow HS.out HD.out HQ.out i2;obtain⟨us,hu,gW,hur⟩:=i4.row;obtain⟨g1,g2,g4⟩:=pz.out;have x0:wr.cell? ⟨Z.lb,0,none⟩=some (.slice (some ⟨Z.rb,0,none⟩) n n):=by rw[<-g1];exact zc hD2.lists rfl
   obtain⟨M,hM⟩:∃M:Nat,lo+(j:Int)=(M:Int):=⟨(lo+(j:Int)).toNat,by omega⟩
   have hM1:M<=1000:=by omega
   have hwr:IntKind.i64.wrap (M:Int)=(M:Int):=IntWalk.i64_in _ (by omega);have hmk:=bMkI M (by omega) wr.drew;have hj1:(j:Int)<hi'-lo+1:=by omega
   have aD:Below wr.heap.size wr (wr.drew.alloc (.cells (madeCells #[.int .i64 0] M) 3)):=zkc (zs wr).drew _;obtain⟨w9,aP⟩:=zX (wr.drew.alloc (.cells (madeCells #[.int .i64 0] M) 3));rw[aP]at aD hmk;have pI:=zka hu aD;obtain⟨g,hg⟩:=zX (wr.drew.heap.size);rw[hg]at hmk;obtain⟨w5,fF,dF,kV⟩:=setU (o:=c) (.slice (some ⟨g,0,none⟩) M M) pI;obtain⟨z,hz⟩:∃z,us[c]?=some z:=⟨_,Array.getElem?_eq_getElem (by omega)⟩
   have x2:w9.cell? ⟨Z.rb,c,none⟩=some z:=zc pI hz;have cf:∀o,w9.frozen? ⟨Z.rb,o,none⟩=false:=fun o=>zf pI;have hD5:=(hD2.chg (Chg.of_below aD (C:=fun _=>False)) fun _ _=>id).chg dF fun b hb (e:b=Z.rb)=>by rw[e]at hb;exact HS.out.br hb
   have tO:=RowQ.new (W:=wr.drew) (M:=M) (W2:=w5) (i4.chg (Chg.of_below (zs wr).drew (C:=fun _=>False)) id fun _ _=>id) (by omega) aP.symm dF (fun xK h'=>by
    rw[pI]at h';injection h' with h';injection h' with h';subst h';rw[hg,g2];exact kV)
   rw[hg]at tO;have uV:=HJ.out.keep _ _ _ _ i1 (((Chg.of_below aD).trans (dF.mono fun b _ (e:b=Z.rb) hb=>by rw[e]at hb;exact hS2.r hb):Chg (fun b=>¬ C' b) wr w5));have hgw:g=wr.heap.size:=hg.symm;have nG:∀b,C' b->b<g:=fun b hb=>by rw[hgw];exact HJ.out.lt _ _ _ i1 b hb
   have hBg:∀b,B b->b<g:=fun b hb=>by rw[hgw];exact hD2.lt b hb
   have hS5:SepQ Z B (p.length+1) (fun j=>if j=p.length then g else f j) C':=⟨hS2.b,hS2.r,fun j hj=>by
    by_cases e:j=p.length
    ·simp only[e,if_true];intro h;have:=nG _ h;omega
    ·simp only[e,if_false];exact hS2.fc j (by omega),hS2.br,fun j hj=>by
    by_cases e:j=p.length
    ·simp only[e,if_true];intro h;have:=hBg _ h;omega
    ·simp only[e,if_false];exact hS2.bf j (by omega)⟩
   have hin:(pre++(List.range j).flatMap fun(i:Nat)=>G (lo+(i:Int)))++G M <+: tot:=by
    refine List.IsPrefix.trans ?_ dL.out;rw[List.append_assoc,<-hM];exact(List.prefix_append_right_inj pre).2 (zob (F:=G) (g:=fun(i:Nat)=>lo+(i:Int)) hlt)
   have rD:G M=(numE h rs (zkR h rs) M left).map fun z=>stOf (p++hdA [] z):=by rw[HG.out];simp
   have hcall:=HN.out M p [] _ _ _ C' w5 left lh.out g4 uV hD5 tO hS5 (fun j hj=>by simp only[Nat.ne_of_lt hj,if_false];exact HM.out j hj) (fun j hj=>by
    by_cases e:j=p.length
    ·simp only[e,if_true];omega
    ·simp only[e,if_false];exact vN.out j (by omega)) (by simp) hleft (by rw[<-rD];exact hin)
   rw[<-rD]at hcall;simp only[if_true,List.length_nil]at hcall;rw[g2]at hcall;have mQ:=zh hcall;have y0:w5.cell? ⟨Z.nb,0,none⟩=some (.func (.func 113) #[] Z.cap2):=zc hD5.num rfl;have y1:w5.cell? ⟨Z.lb,0,none⟩=some (.slice (some ⟨Z.rb,0,none⟩) n n):=by rw[<-g1];exact zc hD5.lists rfl
   have ng:IntKind.i64.wrap ((j:Int)+1)=(j:Int)+1:=IntWalk.i64_in _ (by omega);have hstep:(List.range (j+1)).flatMap (fun(i:Nat)=>G (lo+(i:Int)))=((List.range j).flatMap fun(i:Nat)=>G (lo+(i:Int)))++G M:=by rw[List.range_succ,List.flatMap_append,<-hM];simp
   have HST:=zh hstep;have bP:=zh (show Chg (fun b=>C b\/b=Z.rb) W w5/\W.heap.size<=w5.heap.size/\W.heap.size<=g from⟨(i3.trans2 (Chg.of_below aD (C:=fun _=>False)) fun b _ h=>h.elim).trans2 dF fun b _ e=>.inr e,Nat.le_trans i3.size (Nat.le_trans aD.size dF.size),by rw[hgw];exact i3.size⟩);have z9:w9.cell? ⟨Z.lb,0,none⟩=some (.slice (some ⟨Z.rb,0,none⟩) n n):=zb aD x0;have hj0:(0:Int)<=(c:Int):=by omega
   clear i1 i2 i3 i4 hDn hD2 hS2 hu gW hur g1 g2 g4 hz pI aD dF kV hD5 tO uV hgw nG hBg hS5 hin rD hcall hstep aP hg;go_upto_region 9 with fail;have hS0:zW (fun w':World=>zv w' Z.lb 0 (.slice (some ⟨Z.rb,0,none⟩) n n)) zU wr.drew:=⟨x0,trivial⟩
   refine wp_region_noPanic ?_;refine zG hS0 7 ?_;refine zT 0 hS0 ?_;refine zT 1 hS0 ?_;refine zT 2 hS0 ?_;refine zT 3 hS0 ?_;refine zT 4 hS0 ?_;refine zo 5 fun K hK=>?_;(try simp only[zA,zB,zC]);go_simp;refine hK.out _ _ ⟨z9,trivial⟩ ?_;clear hK K hS0 hmk;(try simp only[zQ]);refine zo 6 fun K hK=>?_;(try simp only[zA,zB,zC]);go_simp;refine hK.out _ _ ⟨z9,trivial⟩ ?_;clear hK K;(try simp only[zQ]);refine zp 7 fun K hK=>?_;(try simp only[zA,zB,zC]);go_simp;refine hK.out _ _ y1 ?_;clear hK K;(try simp only[zQ]);refine zd ?_;refine NoPanic.normal ?_;clear x0 x2 cf fF z9 y1;go_wp2_with fail;refine mQ.out.mono ?_;rintro e w6 (⟨rfl,C6,j6,c6,h6,q6⟩|⟨rfl,pre6,C6,j6,h6⟩)
   ·have fH:=zh (show J (pre++(List.range (j+1)).flatMap fun(i:Nat)=>G (lo+(i:Int))) C6 w6/\(∀b,C6 b->C b\/W.heap.size<=b)/\Chg (fun b=>C b\/b=Z.rb) W w6/\RowQ Z bs.length w6 p m f from
     ⟨by rw[HST.out,<-List.append_assoc];exact j6,fun b hb=>(c6 b hb).elim (HI.out.2.1 b) fun h=>.inr (Nat.le_trans bP.out.2.1 h),bP.out.1.trans2 h6 fun b hb h=>by
      rcases h with h|h|h
      ·exact(HI.out.2.1 b h).elim .inl fun h=>by omega
      ·exact .inr h
      ·have:=bP.out.2.2;have h:b=g:=h;omega,q6.dropL.congr fun j hj=>by
       have hj':j≠c:=by have:=pz.out.2.1;omega
       exact⟨if_neg hj',if_neg hj'⟩⟩)
    clear j6 c6 h6 q6 y0;go_wp2_with fail
    go_roundw
    case rel=>exact⟨j+1,C6,by omega,by go_num,fH⟩
    case measure=>simp[intOf];omega
   ·have fH:=zh (show Jx pre6 C6 w6/\Chg (fun b=>C b\/b=Z.rb) W w6 from⟨j6,bP.out.1.trans2 h6 fun b hb h=>by
      rcases h with h|h|h
      ·exact(HI.out.2.1 b h).elim .inl fun h=>by omega
      ·exact .inr h
      ·have:=bP.out.2.2;have h:b=g:=h;omega⟩)
    clear j6 h6 y0;go_wp2_with fail;go_ret;exact .inr ⟨rfl,pre6,C6,fH.out.1,fH.out.2⟩
  ·obtain rfl:j=T:=by omega
   have hj1:¬ (j:Int)<hi'-lo+1:=by omega
   go_wp2_with fail;go_ret;obtain⟨i1,i2,i3,i4⟩:=HI.out;have:=pz.out.1;rw[this]at i4;exact .inl ⟨rfl,C',i1,i2,i3,i4⟩
theorem zs1{J Jx:List SS->(Nat->Prop)->World->Prop}{Z:DK}{bs rs:List Bn}{b0:Bn}{h nf:Nat}{B:Nat->Prop}{tot:List SS}(hj:JC J Jx nf Z.l tot)(hb:DB bs h)(hN:∀k,NumC J Jx Z bs h B tot rs k):zv1 J Jx Z bs h B tot (b0::rs):=by
 intro p m f pre C W left hrs hpl hJ hD hQ hS hm hm2 hleft hpre;have lJ:p.length<bs.length:=by have:=congrArg List.length hrs;rw[List.length_drop]at this;simp at this;omega
 have nS:bs.drop (p.length+1)=rs:=by rw[<-List.drop_drop,hrs];rfl
 have hb0:bs[p.length]=b0:=by have:=List.drop_eq_getElem_cons lJ;rw[hrs]at this;injection this with h1 _;exact h1.symm
 have hwb:=zsp (bs:=rs) (h:=h) (by rw[<-nS];exact zrB hb.b _) (by rw[<-nS,List.length_drop];have:=hb.n;omega) hb.hm;have hbb:=hb.b b0 (by rw[<-hb0];exact List.getElem_mem lJ);have x0:W.cell? ⟨Z.lb,0,none⟩=some (.slice (some ⟨Z.rb,0,none⟩) bs.length bs.length):=zc hD.lists rfl;have x2:W.cell? ⟨Z.hb,0,none⟩=some (.int .i64 (h:Int)):=zc hD.hv rfl;have x3:W.cell? ⟨Z.tb,0,none⟩=some (.slice (some ⟨Z.tr,0,none⟩) (bs.length+1) Z.tc):=zc hD.rest rfl;have x1:W.cell? ⟨Z.bb,0,none⟩=some (.slice Z.A bs.length Z.c):=zc hD.ls rfl;obtain⟨x4,x5⟩:=hD.rst (p.length+1) lJ;obtain⟨a,hA,-,x6,x7⟩:=hD.row p.length lJ;rw[hA]at x1;rw[hb0]at x6 x7;rw[nS]at x4 x5;obtain⟨l0,l1⟩:=b0;simp only at hbb x6 x7;have hbn:=hb.n;have tL:=hb.hm;have kg:=hb.h1;obtain⟨n,hn⟩:=zX (bs.length);obtain⟨c,hc⟩:=zX (p.length);obtain⟨w0,hw0⟩:=zX (wlo rs);obtain⟨w1,hw1⟩:=zX (whi h rs);rw[hw0,hw1]at hwb
 rw[hn]at x0 x1 x3 hbn;rw[hc,hw0]at x4;rw[hc,hw1]at x5;rw[hc]at x6 x7;have hcn:c<n:=by omega
 obtain⟨Q,uR⟩:=zX ((left-w1+(h:Int)-1).tdiv (h:Int));have uQ : -100000010000<=Q/\Q<=100000010000:=by
  have h1:=Int.natAbs_tdiv_le_natAbs (left-w1+(h:Int)-1) (h:Int);rw[uR]at h1;omega
 obtain⟨lo,hlo⟩:=zX (max (l0:Int) Q);obtain⟨hi',hhi⟩:=zX (min (l1:Int) (left-(w0:Int)));have hlo0:0<=lo:=by omega
 have hlo1:lo<=100000010000:=by omega
 have hhi1:hi'<=1000:=by omega
 have hhi2 : -100000000000<=hi':=by omega
 obtain⟨G,hG⟩:∃G:Int->List SS,G=fun r=>(numE h rs (zkR h rs) r.toNat left).map fun z=>stOf (p++hdA [] z):=⟨_,rfl⟩
 have hX:(zkR h ((l0,l1)::rs) left).map (fun ls=>stOf (p++ls))=(List.range (hi'-lo+1).toNat).flatMap fun(j:Nat)=>G (lo+(j:Int)):=by
  have e:∀z:List (List Int),hdA [] z=z:=fun z=>by cases z<;>rfl
  rw[<-znV,zkR,List.map_flatMap,hw0,hw1,uR,hlo,hhi,hG];simp only[e]
 rw[hX]at hpre ⊢;obtain⟨T,hT⟩:∃T:Nat,(hi'-lo+1).toNat=T:=⟨_,rfl⟩
 rw[hT]at hpre ⊢;have HJ:=zh hj;have mM:=zh hJ;have HD:=zh hD;have HQ:=zh hQ;have HS:=zh hS;have dL:=zh hpre;have HN:=zh hN;have HM:=zh hm;have vN:=zh hm2;have lh:=zh nS;have HG:=zh hG;have pz:=zh (show bs.length=n/\p.length=c/\p.length+1<=bs.length from⟨hn,hc,lJ⟩);rw[hn,hc];exact zs0 x0 x2 x3 x1 x4 x5 x6 x7 hwb hbb hbn tL kg hcn hleft uR uQ hlo hhi hlo0 hlo1 hhi1 hhi2 hT HJ mM HD HQ HS dL HN HM vN lh HG pz
theorem zri{J Jx:List SS->(Nat->Prop)->World->Prop}{Z:DK}{bs:List Bn}{h nf:Nat}{B:Nat->Prop}{tot:List SS}(hj:JC J Jx nf Z.l tot)(hb:DB bs h)(hl:∀W,DW Z bs h B W->Z.l<W.heap.size):∀rs,zv1 J Jx Z bs h B tot rs
 | []=>zu0 hj hb hl
 | b::rs=>zs1 hj hb fun k=>by
  induction k with
  | zero=>exact zuR hb (zri hj hb hl rs)
  | succ k ih=>exact zuS hj hb ih
theorem zwG:(Tryz.prog.info? 32).map (fun i=>(i.zero,i.size,i.bytes))=some (some (.slice none 0 0),1,24):=by kernel_rfl
theorem zyP(n:Nat)(hn:n<=4096)(w:World):(Instr.makeSlice 31 (.int .i64 (n:Int)) (.int .i64 (n:Int))).run Tryz.prog w=.ok (.slice (some ⟨w.heap.size,0,none⟩) n n) (w.alloc (.cells (madeCells #[.slice none 0 0] n) 32)):=by
 obtain⟨i,hi,h1,h2,h3⟩:=info_parts zwG;have:=zlc (P:=Tryz.prog) 31 32 i (.slice none 0 0) Tryz.underlying31 hi h1 .i64 .i64 n n zl (by rw[h3];omega) (by omega) w;rw[h2,Nat.mul_one]at this;exact this
theorem zmH{w:World}{n:Nat}(hn:w.heap.size=n)(o:Obj):(w.alloc o).heap[n]?=some o:=by rw[<-hn];exact World.alloc_heap_new w o
theorem al8(W:World)(o0 o1 o2 o3 o4 o5 o6 o7:Obj) :
  Below W.heap.size W ((((((((W.alloc o0).alloc o1).alloc o2).alloc o3).alloc o4).alloc o5).alloc o6).alloc o7)/\((((((((W.alloc o0).alloc o1).alloc o2).alloc o3).alloc o4).alloc o5).alloc o6).alloc o7).heap.size=W.heap.size+8 /\
  ∀k,k<8->((((((((W.alloc o0).alloc o1).alloc o2).alloc o3).alloc o4).alloc o5).alloc o6).alloc o7).heap[W.heap.size+k]?=[o0,o1,o2,o3,o4,o5,o6,o7][k]?:=by
 refine⟨zkc (zkc (zkc (zkc (zkc (zkc (zkc (zkc zr _) _) _) _) _) _) _) _,by simp,fun k hk=>?_⟩;have h:k=0\/k=1\/k=2\/k=3\/k=4\/k=5\/k=6\/k=7:=by omega
 rcases h with rfl|rfl|rfl|rfl|rfl|rfl|rfl|rfl
 ·exact zke (zke (zke (zke (zke (zke (zke (zmH rfl _) _) _) _) _) _) _) _
 ·exact zke (zke (zke (zke (zke (zke (zmH (by simp) _) _) _) _) _) _) _
 ·exact zke (zke (zke (zke (zke (zmH (by simp) _) _) _) _) _) _
 ·exact zke (zke (zke (zke (zmH (by simp) _) _) _) _) _
 ·exact zke (zke (zke (zmH (by simp) _) _) _) _
 ·exact zke (zke (zmH (by simp) _) _) _
 ·exact zke (zmH (by simp) _) _
 ·exact zmH (by simp) _
theorem zos{J Jx:List SS->(Nat->Prop)->World->Prop}{bs:List Bn}{h nf l tr c ct:Nat}{A:Option Addr}{R:Nat->Prop}{tot pre:List SS}{C:Nat->Prop}{W:World}{weight:Int}(hj:JC J Jx nf l tot)(hb:DB bs h)(hl:l<W.heap.size)
  (hJ:J pre C W)(hrb:RowB W R A bs)(hrt:zqf W tr h bs)(hR:∀b,R b->¬ C b)(htr:¬ C tr)(htl:tr<W.heap.size)(hw:0<=weight/\weight<=100000000000)(hpre:(pre++(zkR h bs weight).map stOf) <+: tot) :
  Calls Tryz.prog 81 #[.slice A bs.length c,.slice (some ⟨tr,0,none⟩) (bs.length+1) ct,.int .i64 (h:Int),.int .i64 weight,.func (.yield l) #[] #[]] W fun e W' =>
   ∃b,e=.returned (.bool b)/\((b=true/\∃C',J (pre++(zkR h bs weight).map stOf) C' W'/\(∀b,C' b->C b\/W.heap.size<=b)/\Chg C W W')\/(b=false/\∃pre' C',Jx pre' C' W'/\Chg C W W')):=by
 have hmk:=zyP bs.length (by have:=hb.n;omega);have h8:=fun o0 o1 o2 o3 o4 o5 o6 o7=>al8 W o0 o1 o2 o3 o4 o5 o6 o7;obtain⟨N,hN⟩:=zX (W.heap.size);have H8:=zh (show ∀W',W'=((((((((W.alloc (.cells #[.slice A bs.length c] 93)).alloc (.cells #[.slice (some ⟨tr,0,none⟩) (bs.length+1) ct] 93)).alloc (.cells #[.int .i64 (h:Int)] 3)).alloc (.cells #[.func (.yield l) #[] #[]] 135)).alloc (.cells (madeCells #[.slice none 0 0] bs.length) 32)).alloc (.cells #[.slice (some ⟨N+1+1+1+1,0,none⟩) bs.length bs.length] 31)).alloc (.cells #[.func (.func 112) #[] (DK.cap1 ⟨l,N+1+1+1+1+1,N+1+1+1,N,N+1,N+1+1,N+1+1+1+1+1+1+1,N+1+1+1+1+1+1,N+1+1+1+1,tr,A,c,ct⟩)] 175)).alloc (.cells #[.func (.func 113) #[] (DK.cap2 ⟨l,N+1+1+1+1+1,N+1+1+1,N,N+1,N+1+1,N+1+1+1+1+1+1+1,N+1+1+1+1+1+1,N+1+1+1+1,tr,A,c,ct⟩)] 176)) ->
   Calls Tryz.prog 112 (#[.int .i64 (([]:List (List Int)).length:Int),.int .i64 weight]++DK.cap1 ⟨l,N+1+1+1+1+1,N+1+1+1,N,N+1,N+1+1,N+1+1+1+1+1+1+1,N+1+1+1+1+1+1,N+1+1+1+1,tr,A,c,ct⟩) W' fun e W'=>∃b,e=.returned (.bool b)/\(
   (b=true/\∃C',J (pre++(zkR h bs weight).map stOf) C' W'/\(∀b,C' b->C b\/N<=b)/\Chg C W W')\/(b=false/\∃pre' C',Jx pre' C' W'/\Chg C W W'))from fun W' hW'=>by
  obtain⟨hbl,hsz,hat⟩:=h8 (.cells #[.slice A bs.length c] 93) (.cells #[.slice (some ⟨tr,0,none⟩) (bs.length+1) ct] 93) (.cells #[.int .i64 (h:Int)] 3) (.cells #[.func (.yield l) #[] #[]] 135) (.cells (madeCells #[.slice none 0 0] bs.length) 32) (.cells #[.slice (some ⟨N+1+1+1+1,0,none⟩) bs.length bs.length] 31) (.cells #[.func (.func 112) #[] (DK.cap1 ⟨l,N+1+1+1+1+1,N+1+1+1,N,N+1,N+1+1,N+1+1+1+1+1+1+1,N+1+1+1+1+1+1,N+1+1+1+1,tr,A,c,ct⟩)] 175) (.cells #[.func (.func 113) #[] (DK.cap2 ⟨l,N+1+1+1+1+1,N+1+1+1,N,N+1,N+1+1,N+1+1+1+1+1+1+1,N+1+1+1+1+1+1,N+1+1+1+1,tr,A,c,ct⟩)] 176);rw[<-hW']at hbl hsz hat
  rw[hN]at hsz hat
  have hCN:∀b,C b->b<N:=fun b h=>by rw[<-hN];exact hj.lt _ _ _ hJ b h
  have hlN:l<N:=by omega
  have htN:tr<N:=by omega
  have rE:∀b,N<=b->b<N+8->b≠N+4->((R b/\b<N)\/b=tr\/(N<=b/\b<N+8/\b≠N+4)):=fun b h1 h2 h3=>.inr (.inr ⟨h1,h2,h3⟩);have hL:=zri (Z:=⟨l,N+1+1+1+1+1,N+1+1+1,N,N+1,N+1+1,N+1+1+1+1+1+1+1,N+1+1+1+1+1+1,N+1+1+1+1,tr,A,c,ct⟩) (B:=fun b=>(R b/\b<N)\/b=tr\/(N<=b/\b<N+8/\b≠N+4)) hj hb (fun w hd=>by have:=hd.lt N (.inr (.inr ⟨by omega,by omega,by omega⟩));show l<_;omega) (rs:=bs) [] (fun _=>0) (fun _=>0) pre C W' weight rfl (Nat.zero_le _) (hj.keep _ _ _ _ hJ (Chg.of_below hbl))
   ⟨hat 5 (by decide),hat 3 (by decide),hat 0 (by decide),hat 1 (by decide),hat 2 (by decide),hat 7 (by decide),hat 6 (by decide),(hrb.keep (S':=fun b=>(R b/\b<N)\/b=tr\/(N<=b/\b<N+8/\b≠N+4)) (fun b h hlt=>.inl ⟨h,by omega⟩) fun b _ hlt=>hbl.block b hlt),hrt.keep (hbl.block _ htl),⟨rE (N+1+1+1+1+1) (by omega) (by omega) (by omega),rE (N+1+1+1) (by omega) (by omega) (by omega),rE (N) (by omega) (by omega) (by omega),rE (N+1) (by omega) (by omega) (by omega),rE (N+1+1) (by omega) (by omega) (by omega),rE (N+1+1+1+1+1+1+1) (by omega) (by omega) (by omega),rE (N+1+1+1+1+1+1) (by omega) (by omega) (by omega),.inr (.inl rfl)⟩,fun b h=>by rw[hsz];rcases h with h|h|h<;>omega⟩
   ⟨⟨_,hat 4 (by decide),by rw[size_madeCells],fun j hj=>absurd hj (Nat.not_lt_zero j)⟩,fun j hj=>absurd hj (Nat.not_lt_zero j),fun j hj=>absurd hj (Nat.not_lt_zero j),fun i j hi=>absurd hi (Nat.not_lt_zero i),fun x hx=>by cases hx⟩
   ⟨fun b h hc=>by
    have:=hCN b hc;rcases h with h|rfl|h
    ·exact hR b h.1 hc
    ·exact htr hc
    ·omega,fun h=>by have:=hCN _ h;simp only at this;omega,fun j hj=>absurd hj (Nat.not_lt_zero j),fun h=>by simp only at h;omega,fun j hj=>absurd hj (Nat.not_lt_zero j)⟩
   (fun j hj=>absurd hj (Nat.not_lt_zero j)) (fun j hj=>absurd hj (Nat.not_lt_zero j)) hw (by simpa only[List.nil_append]using hpre)
  refine hL.mono ?_;have hch:∀ {w':World},Chg (fun b=>C b\/b=N+1+1+1+1) W' w'->Chg C W w':=fun h=>(Chg.of_below hbl).trans2 h fun b hb h=>h.elim id fun h=>by omega
  rintro e w' (⟨rfl,C',h1,h2,h3,-⟩|⟨rfl,pre',C',h1,h2⟩)
  ·exact⟨_,rfl,.inl ⟨rfl,C',by simpa only[List.nil_append]using h1,fun b h=>(h2 b h).imp id fun h=>by omega,hch h3⟩⟩
  ·exact⟨_,rfl,.inr ⟨rfl,pre',C',h1,hch h2⟩⟩)
 clear h8 hj hb hJ hrb hrt hR hpre htr;go_enter Tryz.func81,Tryz.ntmps81;rw[hN];go_wp2_with fail;refine(H8.out _ rfl).mono ?_;rintro e w2 ⟨b,rfl,hP⟩;have HP:=zh hP;clear hP H8;go_wp2_with fail;go_ret;exact⟨b,rfl,HP.out⟩
structure AllM(W:World)(S:Nat->Prop)(b:BX)(bs:List Bn)(iV xb lb:Nat)(A:Option Addr)(c:Nat):Prop where
 ok:W.heap[iV]?=some (.cells #[.bool true] 4 (0,0))
 bx:W.heap[xb]?=some (.cells #[.int .i64 b.v,.int .i64 b.l,.int .i64 b.i] 27 (0,0))
 ls:W.heap[lb]?=some (.cells #[.slice A bs.length c] 93 (0,0))
 row:RowB W S A bs
def allS(b:BX)(bs:List Bn):List SS:=(allB (2*b.v+1) bs).map stOf
theorem zqj{W:World}{S:Nat->Prop}{b:BX}{bs:List Bn}{iV xb lb c nf:Nat}{A:Option Addr}(hM:AllM W S b bs iV xb lb A c)(hv:0<=b.v/\b.v<=1000)(hn:1<=bs.length/\bs.length<=100)(hb:∀q∈bs,q.1<=1000/\q.2<=1000) :
  zyf YS nf Tryz.prog 79 #[ptr0 iV,ptr0 xb,ptr0 lb] (allS b bs) (fun q=>q=iV\/q=xb\/q=lb\/S q) W:=by
 intro l J Jx C W1 hl0 lZ hch hJ oF hY h0;refine(callsIn_wide (n:=nf)).2 ?_;obtain⟨v,vl,vi⟩:=b;obtain⟨h,hh⟩:∃h:Nat,2*v+1=(h:Int):=⟨(2*v+1).toNat,by simp only at hv;omega⟩
 simp only at hv;have hdb:DB bs h:=⟨hn.2,hb,by omega,by omega,hn.1⟩
 have hxs:allS ⟨v,vl,vi⟩ bs=(List.range (whi h bs-wlo bs+1).toNat).flatMap fun(j:Nat)=>(zkR h bs (wlo bs+(j:Int))).map stOf:=by
  unfold allS allB;simp only;rw[hh,List.map_flatMap,znV (F:=fun w=>(zkR h bs w).map stOf)]
 obtain⟨xs,hx⟩:=zX (allS ⟨v,vl,vi⟩ bs);rw[hx]at hY hxs ⊢;have xq:=zh (show JC J Jx nf l xs from⟨hJ,oF,hY⟩);have hbd:=zsp (h:=h) hb (by omega) (by omega);have x0:W1.cell? ⟨iV,0,none⟩=some (.bool true):=zc (hch.keep hM.ok fun h=>lZ _ h (.inl rfl)) rfl;have x1:W1.cell? ⟨xb,0,none⟩=some (.int .i64 v):=zc (hch.keep hM.bx fun h=>lZ _ h (.inr (.inl rfl))) rfl;have hk2:=hch.keep hM.ls fun h=>lZ _ h (.inr (.inr (.inl rfl)));have x2:W1.cell? ⟨lb,0,none⟩=some (.slice A bs.length c):=zc hk2 rfl;have hnl:¬ C lb:=fun h=>lZ _ h (.inr (.inr (.inl rfl)));have hrb:=hM.row.keep (w':=W1) (S':=fun q=>¬ C q/\q<W1.heap.size) (fun q h hlt=>⟨fun hc=>lZ q hc (.inr (.inr (.inr h))),Nat.lt_of_lt_of_le hlt hch.size⟩) fun q h hlt=>hch.block q hlt fun hc=>lZ q hc (.inr (.inr (.inr h)));have wF:=zql bs h A c W1 (hrb.keep (S':=Any) (fun _ _ _=>trivial) fun _ _ _=>rfl) (by omega) hb (by omega)
 obtain⟨w0,hw0⟩:=zX (wlo bs);obtain⟨w1,hw1⟩:=zX (whi h bs);rw[hw0,hw1]at hbd hxs;obtain⟨T,hT⟩:=zX ((w1-(w0:Int)+1).toNat);rw[hT]at hxs;have HWE:=zh wF;have eP:=zh hrb;have zi:=zh hdb;have wW:=zh hxs;have H0:=zh h0;have aI:=zh hk2;have yO:=zh hnl;have HW:=zh (show wlo bs=w0/\whi h bs=w1 from⟨hw0,hw1⟩);have HL0:=zh hl0;have hnn:=hn;obtain⟨n,hn'⟩:=zX (bs.length);have HN:=zh hn';rw[hn']at x2 HWE hnn;clear hM hv hn hb hl0 lZ hch hJ oF hY h0 hdb hxs hrb wF hw0 hw1 hx hk2 hnl hn'
 show Calls Tryz.prog 79 #[.func (.yield l) #[] #[],ptr0 iV,ptr0 xb,ptr0 lb] W1 _
 have e1:IntKind.i64.wrap (2*v)=2*v:=IntWalk.i64_in _ (by have:=zi.out.hm;omega);have e2:IntKind.i64.wrap (2*v+1)=(h:Int):=by rw[hh];exact IntWalk.i64_in _ (by have:=zi.out.hm;omega)
 have HHH:=zh hh;clear hh;go_enter Tryz.func79,Tryz.ntmps79;go_wp2_with fail;refine HWE.out.mono ?_;rintro e w2 ⟨tr,rfl,htr,xU,hb2⟩;obtain⟨y0,y1⟩:=xU 0 (Nat.zero_le _);rw[List.drop_zero,HW.out.1]at y0;rw[List.drop_zero,HW.out.2]at y1;rw[Nat.zero_mul]at y0 y1;have HRP:=zh xU;have HB2:=zh hb2;have xe:=zh htr;have hp0:(0:Int)<(n:Int)+1:=by omega
 have e3:IntKind.i64.wrap (w1-(w0:Int))=w1-(w0:Int):=IntWalk.i64_in _ (by omega);have e4:IntKind.i64.wrap (w1-(w0:Int)+1)=w1-(w0:Int)+1:=IntWalk.i64_in _ (by omega);clear xU htr x0 x1 x2 e1 e2;go_upto_region 3 with fail
 go_quiet (fail)
 have hb3:=zkY (zs w2) nq;obtain⟨w3,hw3⟩:=zX (w2.drewN nq);rw[hw3]at hb3;rw[hw3];have HB3:=zh (zkb hb2 hb3);have HRP3:=zh (HRP.out.keep (hb3.block _ (World.block_lt_of_cell? w2 _ y0)));have HTL:=zh (World.block_lt_of_cell? w2 _ y0);clear hw3 hb3 hb2 y0 y1 e3 e4;go_wp2_with fail;obtain⟨G,hG⟩:∃G:Nat->List SS,G=fun(j:Nat)=>(zkR h bs (w0+(j:Int))).map stOf:=⟨_,rfl⟩
 have HG:=zh hG;have hxs:=wW.out;rw[show(fun(j:Nat)=>(zkR h bs (w0+(j:Int))).map stOf)=G from hG.symm]at hxs;have wW:=zh hxs;clear hG hxs
 go_loopw [27] (fun iv wr=>∃(j:Nat) (C':Nat->Prop),j<=T/\iv=.int .i64 j/\Hid (J ((List.range j).flatMap G) C' wr/\(∀b,C' b->C b\/W1.heap.size<=b)/\Chg C W1 wr)/\Hid (¬ C' tr/\zqf wr tr h bs)) (fun iv _=>T-(intOf iv).toNat)
 case atStart=>exact⟨0,C,Nat.zero_le _,rfl,zh ⟨xq.out.keep _ _ _ _ H0.out (Chg.of_below HB3.out),fun b h=>.inl h,Chg.of_below HB3.out⟩,zh ⟨fun h=>by have:=xq.out.lt _ _ _ H0.out _ h;have:=xe.out;omega,HRP3.out⟩⟩
 case round =>
  obtain⟨j,C',hjT,rfl,HI,lh⟩:=hrel;by_cases hlt:j<T
  ·have hj1:(j:Int)<w1-(w0:Int)+1:=by omega
   have hsz:=HI.out.2.2.size;have y0:wr.cell? ⟨tr,0,none⟩=some (.int .i64 (w0:Int)):=by have:=(lh.out.2 0 (Nat.zero_le _)).1;rwa[List.drop_zero,HW.out.1,Nat.zero_mul]at this
   have x2:wr.cell? ⟨lb,0,none⟩=some (.slice A n c):=by rw[<-HN.out];exact zc (HI.out.2.2.keep aI.out yO.out) rfl
   have hpre:(List.range j).flatMap G++(zkR h bs ((w0:Int)+(j:Int))).map stOf <+: xs:=by
    rw[wW.out];have:=zob (F:=G) (g:=fun i=>i) hlt;rwa[HG.out]at this ⊢
   have e1:IntKind.i64.wrap ((w0:Int)+(j:Int))=(w0:Int)+(j:Int):=IntWalk.i64_in _ (by omega);have htl:tr<wr.heap.size:=World.block_lt_of_cell? wr _ y0
   have HDI:=zh (fun w' (hbw:Below wr.heap.size wr w')=>show Calls Tryz.prog 81 #[.slice A bs.length c,.slice (some ⟨tr,0,none⟩) (bs.length+1) (n+1),.int .i64 (h:Int),.int .i64 ((w0:Int)+(j:Int)),.func (.yield l) #[] #[]] w' (fun e w9=>∃b,e=.returned (.bool b)/\((b=true/\∃C9,J ((List.range (j+1)).flatMap G) C9 w9/\(∀q,C9 q->C q\/W1.heap.size<=q)/\Chg C W1 w9/\¬ C9 tr/\zqf w9 tr h bs)\/(b=false/\∃pre' C9,Jx pre' C9 w9/\Chg C W1 w9)))from(zos (c:=c) (ct:=n+1) (A:=A) (R:=fun q=>¬ C q/\q<W1.heap.size) (tr:=tr) (pre:=(List.range j).flatMap G) (C:=C') (W:=w') (weight:=(w0:Int)+(j:Int)) xq.out zi.out (by have:=HL0.out;have:=hbw.size;omega) (xq.out.keep _ _ _ _ HI.out.1 (Chg.of_below hbw)) ((eP.out.keep (fun q h _=>h) fun q h hlt=>HI.out.2.2.block q hlt h.1).later hbw) (lh.out.2.keep (hbw.block _ htl)) (fun q h hc=>(HI.out.2.1 q hc).elim h.1 fun h'=>by omega) lh.out.1 (Nat.lt_of_lt_of_le htl hbw.size) (by omega) hpre).mono
    fun e w9 ⟨b,hb,hr⟩=>⟨b,hb,by
     have hch:∀ {D:World},Chg C' w' D->Chg C W1 D:=fun h=>(HI.out.2.2.trans2 (Chg.of_below hbw (C:=fun _=>False)) fun _ _ h=>h.elim).trans2 h fun q hq h=>(HI.out.2.1 q h).elim id fun h'=>by omega
     rcases hr with⟨rfl,C9,h1,h2,h3⟩|⟨rfl,pre',C9,h1,h2⟩
     ·refine .inl ⟨rfl,C9,?_,fun q hq=>(h2 q hq).elim (HI.out.2.1 q) fun h=>.inr (Nat.le_trans hsz (Nat.le_trans hbw.size h)),hch h3,fun h=>(h2 _ h).elim lh.out.1 fun h=>by have:=hbw.size;omega,lh.out.2.keep ((h3.block _ (Nat.lt_of_lt_of_le htl hbw.size) lh.out.1).trans (hbw.block _ htl))⟩;rw[List.range_succ,List.flatMap_append];have e:[j].flatMap G=(zkR h bs ((w0:Int)+(j:Int))).map stOf:=by rw[HG.out];simp
      rw[e];exact h1
     ·exact .inr ⟨rfl,pre',C9,h1,hch h2⟩⟩)
   rw[HN.out]at HDI;clear hpre htl;go_upto_region 6 with fail
   go_region_with (refine(HDI.out _ (by first|exact zr.drew|exact zkY zr _)).mono ?_;rintro e w9 ⟨b9,rfl,hR9⟩)
   all_goals
    have kC:=zh hR9;clear hR9 y0 x2;(try simp only[zQ])
    cases b9
    ·obtain⟨h0,-⟩|⟨-,pre',C9,j9,h9⟩:=kC.out
     ·cases h0
     have HF:=zh (And.intro j9 h9);clear j9 h9;go_wp2_with fail;refine bodyPost_ret (v:=.tuple #[]) (results_none (by rfl) _ _ _) rfl ?_;exact⟨⟨_,rfl⟩,.inr ⟨⟨pre',C9,HF.out.1⟩,HF.out.2⟩⟩
    ·obtain⟨-,C9,j9,c9,h9,t9,r9⟩|⟨h0,-⟩:=kC.out;rotate_left 1
     ·cases h0
     have HF:=zh (And.intro j9 (And.intro c9 h9));have sO:=zh (And.intro t9 r9);clear j9 c9 h9 t9 r9;have ng:IntKind.i64.wrap ((j:Int)+1)=(j:Int)+1:=IntWalk.i64_in _ (by omega);go_wp2_with fail;exact⟨⟨j+1,C9,by omega,by go_num,HF,sO⟩,by simp[intOf];omega⟩
  ·obtain rfl:j=T:=by omega
   have hj1:¬ (j:Int)<w1-(w0:Int)+1:=by omega
   go_wp2_with fail;go_end0;exact⟨⟨_,rfl⟩,.inl ⟨⟨C',by rw[wW.out];exact HI.out.1⟩,HI.out.2.2⟩⟩
theorem zup(vs:List VD)(b:BX)(A:Option Addr)(c:Nat)(w:World)(hrow:RowV w Any A vs)(hl:vs.length<=LV)(hok:(b.ok&&svB vs)=true):Calls Tryz.prog 38 #[.slice A vs.length c,.agg #[.int .i64 b.v,.int .i64 b.l,.int .i64 b.i]] w fun e w' =>
  ∃iV xb lb A2 c2,e=.returned (.func (.func 79) #[] #[ptr0 iV,ptr0 xb,ptr0 lb])/\Below w.heap.size w w'/\w.heap.size<=iV/\w.heap.size<=xb/\w.heap.size<=lb/\AllM w' (fun q=>w.heap.size<=q) b (lenE vs b) iV xb lb A2 c2:=by
 obtain⟨bv,bl,bi⟩:=b;simp only;have hb1:=zkc (zs w) (.cells #[.int .i64 bv,.int .i64 bl,.int .i64 bi] 27);have hk1:=heap_alloc_new w (.cells #[.int .i64 bv,.int .i64 bl,.int .i64 bi] 27);have vP:=zh (fun w' (hb:Below w.heap.size w w')=>zn5 vs ⟨bv,bl,bi⟩ A c w' (hrow.later hb) hl);have hlen:=(zlq hok).1;obtain⟨bs,hbs⟩:=zX (lenE vs ⟨bv,bl,bi⟩);have jE:=zh hbs;rw[hbs]at hlen ⊢;have HLEN:=zh hlen;clear hrow hl hbs hlen;go_enter Tryz.func38,Tryz.ntmps38;go_upto_region 1 with fail;obtain⟨w1,hw1⟩:=zX (w.alloc (.cells #[.int .i64 bv,.int .i64 bl,.int .i64 bi] 27));rw[hw1]at hb1 hk1 ⊢;obtain⟨x0,x1,x2⟩:=zkk hk1;have HB1:=zh hb1;have aB:=zh hk1;clear hw1 hb1 hk1;go_wp2_with fail;refine(vP.out _ HB1.out).mono ?_;rintro e w2 ⟨hb2,⟨h0,rfl⟩|⟨-,A2,c2,rfl,hrb⟩⟩
 ·rw[hok]at h0;cases h0
 have HB2:=zh (zkb HB1.out hb2);have aI:=zh (zka aB.out hb2);rw[jE.out]at hrb;have eP:=zh (hrb.keep (S':=fun q=>w.heap.size<=q) (fun q h _=>Nat.le_trans HB1.out.size h) fun _ _ _=>rfl);clear hrb hb2 x0 x1 x2 vP;go_wp2_with fail;go_ret;have hb4:=zkc (zkc HB2.out (.cells #[.slice A2 (vs.length+1) c2] 93)) (.cells #[.bool true] 4);have hb24:Below w2.heap.size w2 ((w2.alloc (.cells #[.slice A2 (vs.length+1) c2] 93)).alloc (.cells #[.bool true] 4)):=zkc (zkc zr _) _;have hsz:=HB2.out.size;have hl:=HLEN.out;refine⟨w2.heap.size+1,w.heap.size,w2.heap.size,A2,c2,rfl,hb4,by omega,zl,hsz,zmH (by simp) _,zka aI.out hb24,?_,eP.out.later hb24⟩;rw[hl];exact zke (zmH rfl _) _
def smlE(vs:List VD)(b:BX):Bool:=decide ((cntR vs b).2=0)&&decide ((cntR vs b).1<=65536)
theorem znU{vs:List VD}{b:BX}(h:smlE vs b=true):(b.ok&&svB vs)=true/\cntE (2*b.v+1) (lenE vs b)<=65536:=by
 simp only[smlE,Bool.and_eq_true,decide_eq_true_eq]at h;obtain⟨h1,h2⟩:=h;unfold cntR at h1 h2
 split at h1
 ·rename_i h3;rw[if_pos h3]at h2;refine⟨h3,?_⟩
  split at h1
  ·cases h1
  ·rename_i h4;rw[if_neg h4]at h2;exact h2
 ·cases h1
theorem zoF(vs:List VD)(b:BX)(A:Option Addr)(c:Nat)(w:World)(hrow:RowV w Any A vs)(hl:vs.length<=LV):Calls Tryz.prog 37 #[.slice A vs.length c,.agg #[.int .i64 b.v,.int .i64 b.l,.int .i64 b.i]] w fun e w'=>e=.returned (.bool (smlE vs b))/\Below w.heap.size w w':=by
 obtain⟨bv,bl,bi⟩:=b;simp only;have hb1:=zkc (zs w) (.cells #[.int .i64 bv,.int .i64 bl,.int .i64 bi] 27);have hk1:=heap_alloc_new w (.cells #[.int .i64 bv,.int .i64 bl,.int .i64 bi] 27);have qi:=zh (fun w' (hb:Below w.heap.size w w')=>zon vs ⟨bv,bl,bi⟩ A c w' (hrow.later hb) hl);have HS:=zh (show smlE vs ⟨bv,bl,bi⟩=(decide ((cntR vs ⟨bv,bl,bi⟩).2=0)&&decide ((cntR vs ⟨bv,bl,bi⟩).1<=65536))from rfl);obtain⟨⟨R1,R2⟩,hR⟩:=zX (cntR vs ⟨bv,bl,bi⟩);rw[hR]at qi HS;clear hrow hl hR;go_enter Tryz.func37,Tryz.ntmps37;go_upto_region 1 with fail;obtain⟨w1,hw1⟩:=zX (w.alloc (.cells #[.int .i64 bv,.int .i64 bl,.int .i64 bi] 27));rw[hw1]at hb1 hk1 ⊢;obtain⟨x0,x1,x2⟩:=zkk hk1;have HB1:=zh hb1;clear hw1 hb1 hk1;go_wp2_with fail;refine(qi.out _ HB1.out).mono ?_;rintro e w2 ⟨rfl,hb2⟩;have HB2:=zh (zkb HB1.out hb2);clear hb2 x0 x1 x2;by_cases h0:R2=0
 ·subst h0;have HF:=zh (show smlE vs ⟨bv,bl,bi⟩=decide (R1<=65536) by rw[HS.out];simp);go_wp2_with fail;go_ret;exact⟨by rw[HF.out];rfl,HB2.out⟩
 ·have e0:(R2==0)=false:=by simpa using h0
  have HF:=zh (show smlE vs ⟨bv,bl,bi⟩=false by rw[HS.out];simp[h0]);go_wp2_with fail;go_ret;exact⟨by rw[HF.out];rfl,HB2.out⟩
def cdE(vs:List VD)(t:T)(s:SS):Option SS:=if (asgE vs t s).1=0/\fitB vs (asgE vs t s).2=true then some (asgE vs t s).2 else none
def hitE(f:SS->Option SS)(x q:SS):Bool:=match f q with
 | some y=>eqS y x
 | none=>false
theorem zps{s t:SS}:eqS s t=true↔s=t:=by
 obtain⟨a,b,c⟩:=s;obtain⟨a',b',c'⟩:=t;simp[eqS,and_assoc]
theorem zm2{f:SS->Option SS}{x q:SS}:hitE f x q=true↔f q=some x:=by
 unfold hitE
 cases h:f q with
 | none=>simp
 | some y=>simp[zps]
def zlB(f:SS->Option SS):List SS->List SS->Option (SS×SS)
 | _,[]=>none
 | pre,s::ss=>match f s with
  | none=>zlB f (pre++[s]) ss
  | some x=>match pre.find? (hitE f x)with
   | some q=>some (q,s)
   | none=>zlB f (pre++[s]) ss
def zot(f:SS->Option SS)(l:List SS):Prop:=∀a s b,l=a++s::b->∀x,f s=some x->∀q∈a,f q≠some x
theorem zot.snoc{f:SS->Option SS}{a:List SS}{s:SS}(h:zot f a)(hs:∀x,f s=some x->∀q∈a,f q≠some x):zot f (a++[s]):=by
 intro c r d e x hx q hq;rcases List.eq_nil_or_concat d with rfl|⟨d',y,rfl⟩
 ·have e2:=List.append_inj' (s₁:=a) (s₂:=c) e rfl;obtain⟨rfl,e3⟩:=e2;injection e3 with e3;exact hs x (e3▸hx) q hq
 ·have e2:a++[s]=(c++r::d')++[y]:=by rw[e];simp
  exact h c r d' (List.append_inj' e2 rfl).1 x hx q hq
theorem zot.find{f:SS->Option SS}{a b:List SS}{s x:SS}(h:zot f (a++s::b))(hx:f s=some x):a.find? (hitE f x)=none :=
 List.find?_eq_none.2 fun q hq=>by
  intro e;exact h a s b rfl x hx q hq (zm2.1 e)
theorem zmN{f:SS->Option SS}:∀(ss pre:List SS),zot f (pre++ss)->zlB f pre ss=none
 | [],_,_=>rfl
 | s::ss,pre,h=>by
  rw[zlB]
  cases hx:f s with
  | none=>exact zmN ss (pre++[s]) (by simpa using h)
  | some x =>
   simp only[h.find hx];exact zmN ss (pre++[s]) (by simpa using h)
theorem zmM{f:SS->Option SS}{s x q:SS}{b:List SS}(hx:f s=some x):∀(a pre:List SS),zot f (pre++a)->(pre++a).find? (hitE f x)=some q->zlB f pre (a++s::b)=some (q,s)
 | [],pre,_,hf=>by
  rw[List.append_nil]at hf;rw[List.nil_append,zlB];simp only[hx,hf]
 | r::a,pre,h,hf=>by
  rw[List.cons_append,zlB]
  cases hy:f r with
  | none=>exact zmM hx a (pre++[r]) (by simpa using h) (by simpa using hf)
  | some y =>
   simp only[h.find hy];exact zmM hx a (pre++[r]) (by simpa using h) (by simpa using hf)
theorem zvl{f:SS->Option SS}{a:List SS}{q x:SS}(h:zot f a)(hq:q∈a)(hx:f q=some x):a.find? (hitE f x)=some q:=by
 obtain⟨c,d,rfl⟩:=List.append_of_mem hq;rw[List.find?_append,h.find hx];simp[List.find?_cons,zm2.2 hx]
def strS(xs:List Int):ByteArray:=xs.foldl (fun r n=>r.push (UInt8.ofNat n.toNat)) ByteArray.empty
def bysS(xs:List Int):List UInt8:=xs.map fun n=>UInt8.ofNat n.toNat
theorem zoD:∀(xs:List Int) (r:ByteArray),(xs.foldl (fun r n=>r.push (UInt8.ofNat n.toNat)) r).data.toList=r.data.toList++bysS xs
 | [],r=>by simp[bysS]
 | x::xs,r=>by
  rw[List.foldl_cons,zoD xs];simp[bysS,ByteArray.push]
theorem zpM(xs:List Int):(strS xs).data.toList=bysS xs:=by
 rw[strS,zoD];rfl
theorem zry:∀ {xs ys:List Int},(∀x∈xs,0<=x/\x<256)->(∀y∈ys,0<=y/\y<256)->bysS xs=bysS ys->xs=ys
 | [],[],_,_,_=>rfl
 | [],_::_,_,_,h=>by simp[bysS]at h
 | _::_,[],_,_,h=>by simp[bysS]at h
 | x::xs,y::ys,h1,h2,h=>by
  simp only[bysS,List.map_cons,List.cons.injEq]at h;obtain⟨e1,e2⟩:=h;have b1:=h1 x (by simp);have b2:=h2 y (by simp);have e3:=congrArg UInt8.toNat e1;simp only[UInt8.toNat_ofNat']at e3;rw[Nat.mod_eq_of_lt (by omega),Nat.mod_eq_of_lt (by omega)]at e3;rw[show x=y by omega,zry (fun z hz=>h1 z (by simp[hz])) (fun z hz=>h2 z (by simp[hz])) e2]
theorem zxh(n:Int)(i:Nat):0<=byE n i/\byE n i<256:=by unfold byE;omega
theorem znM(n:Int):∀k,∀x∈bysE n k,0<=x/\x<256
 | 0,x,h=>by simp[bysE]at h
 | k+1,x,h=>by
  simp only[bysE,List.mem_cons]at h;rcases h with rfl|h
  ·exact zxh n _
  ·exact znM n k x h
theorem zsX(l:List Int):∀x∈lsE l,0<=x/\x<256:=fun x h=>by
 obtain⟨y,-,h⟩:=List.mem_flatMap.1 h;exact znM _ _ _ h
theorem ztz(l:List Int):∀x∈cnE l,0<=x/\x<256:=fun x h=>by
 rcases List.mem_append.1 h with h|h
 ·exact znM _ _ _ h
 ·exact zsX _ _ h
theorem ztu:∀(vs:List VD) (ls:List (List Int)),∀x∈enC vs ls,0<=x/\x<256
 | [],[],x,h=>by simp[enC]at h
 | [],_::_,x,h=>by simp[enC]at h
 | _::_,[],x,h=>by simp[enC]at h
 | v::vs,l::ls,x,h=>by
  simp only[enC,List.mem_append]at h;rcases h with h|h|h
  ·by_cases h3:v.k=3
   ·rw[if_pos h3]at h;exact znM _ _ _ h
   ·rw[if_neg h3]at h;exact absurd h (List.not_mem_nil)
  ·exact zsX _ _ h
  ·exact ztu vs ls x h
theorem zrs(vs:List VD)(s:SS):∀x∈encS vs s,0<=x/\x<256:=fun x h=>by
 simp only[encS,List.mem_append]at h;rcases h with h|h|h
 ·exact ztu _ _ _ h
 ·exact ztz _ _ h
 ·exact ztz _ _ h
def kS(vs:List VD)(x:SS):Lit:=.string (bysS (encS vs x))
theorem zxV{vs:List VD}{x y:SS}(hx:fitB vs x=true)(hy:fitB vs y=true)(ix:x.I)(iy:y.I)(h:kS vs x=kS vs y):x=y:=by
 unfold kS at h;injection h with h;exact zvs hx hy ix iy (zry (zrs _ _) (zrs _ _) h)
def hR:Value->Option (DataW Value×List MemPlace):=fun v=>some (.held v,[])
def LoM(W:World)(mb:Nat)(vs:List VD)(f:SS->Option SS)(pre:List SS)(S:Nat->Prop):Prop :=
 ∃D:DataW Value,W.ownsMap Tryz.prog 9 hR mb pre.length D/\(∀s∈pre,∀x,f s=some x->x.I/\∃v,Maps.has D (kS vs x)=true/\(∀zd,D.atKey (kS vs x) zd=.held v)/\SV W S s v) /\
  ∀kl,Maps.has D kl=true->∃s∈pre,∃x,f s=some x/\kl=kS vs x
theorem LoM.lt{W:World}{mb:Nat}{vs:List VD}{f:SS->Option SS}{pre:List SS}{S:Nat->Prop}(h:LoM W mb vs f pre S):mb<W.heap.size:=h.choose_spec.1.lt
theorem LoM.keep{W W':World}{mb:Nat}{vs:List VD}{f:SS->Option SS}{pre:List SS}{S S':Nat->Prop}(h:LoM W mb vs f pre S)(hm:W'.heap[mb]?=W.heap[mb]?)(hS:∀b,S b->b<W.heap.size->S' b)(hk:∀b,S b->b<W.heap.size->W'.heap[b]?=W.heap[b]?):LoM W' mb vs f pre S':=by
 obtain⟨D,⟨es,clock,hb,r⟩,h2,h3⟩:=h;exact⟨D,⟨es,clock,hm.trans hb,r⟩,fun s hs x hx=>let ⟨i,v,a,b,c⟩:=h2 s hs x hx;⟨i,v,a,b,c.keep hS hk⟩,h3⟩
theorem LoM.skip{W:World}{mb:Nat}{vs:List VD}{f:SS->Option SS}{pre:List SS}{S:Nat->Prop}{s:SS}(h:LoM W mb vs f pre S)(hs:f s=none):LoM W mb vs f (pre++[s]) S:=by
 obtain⟨D,h1,h2,h3⟩:=h;refine⟨D,h1.mono (by simp),fun r hr x hx=>?_,fun kl hk=>?_⟩
 ·rcases List.mem_append.1 hr with hr|hr
  ·exact h2 r hr x hx
  ·rw[List.mem_singleton.1 hr,hs]at hx;cases hx
 ·obtain⟨r,hr,x,hx⟩:=h3 kl hk;exact⟨r,List.mem_append_left _ hr,x,hx⟩
theorem LoM.made(W:World)(vs:List VD)(f:SS->Option SS)(S:Nat->Prop):LoM (W.alloc (.map #[] 0)) W.heap.size vs f [] S :=
 ⟨.map [],World.ownsMap_made W _ _ _,(fun _ h=>by cases h),(fun _ h=>by cases h)⟩
theorem LoM.put{W W':World}{mb:Nat}{vs:List VD}{f:SS->Option SS}{pre:List SS}{S S':Nat->Prop}{s x:SS}{v:Value}{D:DataW Value}
  (h2:∀s∈pre,∀x,f s=some x->x.I/\∃v,Maps.has D (kS vs x)=true/\(∀zd,D.atKey (kS vs x) zd=.held v)/\SV W S s v)(h3:∀kl,Maps.has D kl=true->∃s∈pre,∃x,f s=some x/\kl=kS vs x)(hD:Maps.IsMap D)
  (hx:f s=some x)(tq:x.I)(hn:Maps.has D (kS vs x)=false)(ho:W'.ownsMap Tryz.prog 9 hR mb (pre.length+1) (D.put (kS vs x) (.held v)))(hv:SV W' S' s v)(hS:∀b,S b->b<W.heap.size->S' b)(hk:∀b,S b->b<W.heap.size->W'.heap[b]?=W.heap[b]?):LoM W' mb vs f (pre++[s]) S':=by
 have hkl:WideAt.IsKeyLit (kS vs x):=trivial;refine⟨_,by simpa using ho,fun r hr y hy=>?_,fun kl h=>?_⟩
 ·rcases List.mem_append.1 hr with hr|hr
  ·obtain⟨i,u,a,b,c⟩:=h2 r hr y hy;have hne:kS vs y≠kS vs x:=fun e=>by rw[e,hn]at a;cases a
   exact⟨i,u,by rw[Maps.has_put_other hne];exact a,fun zd=>by rw[Maps.atKey_put_other hne];exact b zd,c.keep hS hk⟩
  ·rw[List.mem_singleton.1 hr]at hy ⊢;rw[hx]at hy;injection hy with hy;subst hy;exact⟨tq,v,Maps.has_put_same hD hkl _,fun zd=>Maps.atKey_put_same hD hkl _ zd,hv⟩
 ·by_cases e:kl=kS vs x
  ·exact⟨s,by simp,x,hx,e⟩
  ·rw[Maps.has_put_other e]at h;obtain⟨r,hr,y,hy⟩:=h3 kl h;exact⟨r,List.mem_append_left _ hr,y,hy⟩
attribute [local go_sem] Oper.semAt_some
def zlP(vs:List VD)(prs:List PR)(t:T):PG:=⟨vs,prs,.nd 57 0 ⟨#[]⟩ [t]⟩
def zog(p:PG)(F:Int)(s:SS):Bool:=decide ((resO p s F (F.toNat*2000+2000) false).2.2.1=15)
theorem al5(W:World)(o0 o1 o2 o3 o4:Obj):Below W.heap.size W (((((W.alloc o0).alloc o1).alloc o2).alloc o3).alloc o4)/\(((((W.alloc o0).alloc o1).alloc o2).alloc o3).alloc o4).heap.size=W.heap.size+5/\(((((W.alloc o0).alloc o1).alloc o2).alloc o3).alloc o4).heap[W.heap.size]?=some o0/\(((((W.alloc o0).alloc o1).alloc o2).alloc o3).alloc o4).heap[W.heap.size+1]?=some o1/\(((((W.alloc o0).alloc o1).alloc o2).alloc o3).alloc o4).heap[W.heap.size+2]?=some o2/\(((((W.alloc o0).alloc o1).alloc o2).alloc o3).alloc o4).heap[W.heap.size+3]?=some o3/\(((((W.alloc o0).alloc o1).alloc o2).alloc o3).alloc o4).heap[W.heap.size+4]?=some o4 :=
 ⟨zkc (zkc (zkc (zkc (zkc zr _) _) _) _) _,by simp,zke (zke (zke (zke (zlY _ rfl _) _) _) _) _,zke (zke (zke (zlY _ (by simp) _) _) _) _,zke (zke (zlY _ (by simp) _) _) _,zke (zlY _ (by simp) _) _,zlY _ (by simp) _⟩
theorem zyn{w:World}{S:Nat->Prop}{k n k1 n1:Int}{s s1:ByteArray}{ks:List T}{A:Option Addr}{l c b:Nat}(hf:Fld k n s)(hb:S b)(hk:w.heap[b]?=some (.cells #[.int .u8 k1,.int .i64 n1,.string s1,.slice A l c] 24 (0,0)))
  (h:NV w S (.nd k1 n1 s1 ks) (.agg #[.int .u8 k1,.int .i64 n1,.string s1,.slice A l c])):NV w S (.nd k n s [.nd k1 n1 s1 ks]) (.agg #[.int .u8 k,.int .i64 n,.string s,.slice (some ⟨b,0,none⟩) 1 1]):=by
 obtain⟨q0,q1,q2,q3⟩:=box4 hk;refine NV.mk k n s [.nd k1 n1 s1 ks] (some ⟨b,0,none⟩) 1 ⟨b,0,none⟩ (fun _=>.int .u8 k1) (fun _=>.int .i64 n1) (fun _=>.string s1) (fun _=>.slice A l c) hf (by unfold LK;simp) zl (fun _=>⟨rfl,hb⟩) (fun i hi=>?_) fun i hi=>?_
 ·obtain rfl:i=0:=by simpa using hi
  rw[Nat.zero_mul,Addr.add_zero'];exact⟨q0,q1,q2,q3⟩
 ·obtain rfl:i=0:=by simpa using hi
  exact h
def FaI(B:Nat)(w5:World)(f:SS->Bool)(pre:List SS)(C:Nat->Prop)(W:World):Prop:=(∀b,C b↔b<B)/\(∀b,b<B->W.heap[b]?=w5.heap[b]?)/\(∀s∈pre,f s=false)/\B<=W.heap.size
def FaX(B N:Nat)(w5:World)(f:SS->Bool)(xs pre:List SS)(C:Nat->Prop)(W:World):Prop:=∃dn s g X A l c B1 m d D k e,pre=dn++[s]/\pre <+: xs/\(∀s∈dn,f s=false)/\f s=true/\(∀b,C b↔b<B\/(g<=b/\b<X))/\(B<=g/\w5.heap.size<g)/\X<=W.heap.size/\B<=W.heap.size /\
 (∀b,b<B->b≠N+3->b≠N+4->W.heap[b]?=w5.heap[b]?)/\W.heap[N+3]?=some (.cells #[.slice A l c,.slice B1 m d,.slice D k e] 34 (0,0))/\W.heap[N+4]?=some (.cells #[.bool true] 4 (0,0))/\SV W (fun q=>g<=q/\q<X) s (.agg #[.slice A l c,.slice B1 m d,.slice D k e])
theorem FaI.chg{B:Nat}{w5 W W':World}{f:SS->Bool}{pre:List SS}{C D:Nat->Prop}(h:FaI B w5 f pre C W)(hc:Chg D W W')(hD:∀b,C b->¬ D b):FaI B w5 f pre C W' :=
 ⟨h.1,fun b hb=>(hc.block b (Nat.lt_of_lt_of_le hb h.2.2.2) (hD b ((h.1 b).2 hb))).trans (h.2.1 b hb),h.2.2.1,Nat.le_trans h.2.2.2 hc.size⟩
theorem FaX.chg{B N:Nat}{w5 W W':World}{f:SS->Bool}{xs pre:List SS}{C D:Nat->Prop}(h:FaX B N w5 f xs pre C W)(hN:N+4<B)(hc:Chg D W W')(hD:∀b,C b->¬ D b):FaX B N w5 f xs pre C W':=by
 obtain⟨dn,s,g,X,A,l,c,B1,m,d,E,k,e,h1,h2,h3,h4,h5,h6,h7,h8,h9,h10,h11,h12⟩:=h;exact⟨dn,s,g,X,A,l,c,B1,m,d,E,k,e,h1,h2,h3,h4,h5,h6,Nat.le_trans h7 hc.size,Nat.le_trans h8 hc.size,fun b hb n3 n4=>(hc.block b (by omega) (hD b ((h5 b).2 (.inl hb)))).trans (h9 b hb n3 n4),hc.keep h10 (hD _ ((h5 _).2 (.inl (by omega)))),hc.keep h11 (hD _ ((h5 _).2 (.inl hN))),h12.keep (fun _ h _=>h) fun b hb _=>hc.block b (by omega) (hD b ((h5 b).2 (.inr hb)))⟩
def zv9(r:Option SS)(W:World)(e:Ending)(W':World):Prop:=Below W.heap.size W W'/\∃v b,e=.returned (.tuple #[v,.bool b])/\((r=none/\b=false/\v=.agg #[.slice none 0 0,.slice none 0 0,.slice none 0 0])\/∃s,r=some s/\b=true/\SV W' (fun q=>W.heap.size<=q) s v)
theorem zwl:IsFn Tryz.prog 79 Tryz.f79:=⟨Tryz.func79,by kernel_rfl,by kernel_rfl⟩
theorem bNd1(k n:Int)(s:ByteArray)(A:Option Addr)(l c:Nat)(w:World):(Instr.buildSlice 22 1 #[(0,.agg #[.int .u8 k,.int .i64 n,.string s,.slice A l c])]).run Tryz.prog w=.ok (.slice (some ⟨w.heap.size,0,none⟩) 1 1) (w.alloc (.cells #[.int .u8 k,.int .i64 n,.string s,.slice A l c] 24)):=by kernel_rfl
theorem zqG{W:World}{vs:List VD}{prs:List PR}{b:BX}{t:T}{v:Value}{F:Int}{A1 A2:Option Addr}{c1 c2:Nat}(hv:NV W Any t v)(hr:RowV W Any A1 vs)(hl:vs.length<=LV)(hlc:vs.length<=c1)(hp:RowP W Any A2 prs)(hlp:prs.length<=LV)(hpc:prs.length<=c2)
  (hF:I64 F)(lY:F<=1000000) :
  Calls Tryz.prog 43 #[v,.slice A1 vs.length c1,.slice A2 prs.length c2,.agg #[.int .i64 b.v,.int .i64 b.l,.int .i64 b.i],.int .i64 F] W
   (zv9 (if smlE vs b=true then(allS b (lenE vs b)).find? (zog (zlP vs prs t) F)else none) W):=by
 obtain⟨RR,hRR⟩:=zX ((if smlE vs b=true then(allS b (lenE vs b)).find? (zog (zlP vs prs t) F)else none));rw[hRR];have HRR:=zh hRR;clear hRR;have vE:=zh (fun w' (hb:Below W.heap.size W w')=>zoF vs b A1 c1 w' (hr.later hb) hl);have fE:=zh (fun w' (hb:Below W.heap.size W w') hok=>zup vs b A1 c1 w' (hr.later hb) hl hok);have HV:=zh (hv.keep (S':=fun b=>b<W.heap.size) (fun _ _ h=>h) fun _ _ _=>rfl);have HR:=zh (hr.keep (S':=fun b=>b<W.heap.size) (fun _ _ h=>h) fun _ _ _=>rfl);have HP:=zh (hp.keep (S':=fun b=>b<W.heap.size) (fun _ _ h=>h) fun _ _ _=>rfl);have HL:=zh (And.intro hl (And.intro hlc (And.intro hlp (And.intro hpc (And.intro hF lY)))));obtain⟨A3,c3,rfl,-⟩:=hv.open_;obtain⟨k,n,nm,ks⟩:=t;obtain⟨bv,bl,bi⟩:=b;simp only[T.k_nd,T.n_nd,T.s_nd,T.ks_nd]at HV ⊢;obtain⟨N,hN⟩:=zX (W.heap.size);have HN:=zh hN
 obtain⟨hb1,hz1,k0,k1,k2,k3,k4⟩:=al5 W (.cells #[.int .u8 k,.int .i64 n,.string nm,.slice A3 ks.length c3] 24) (.cells #[.int .i64 bv,.int .i64 bl,.int .i64 bi] 27) (.cells #[.int .i64 F] 3) (.cells #[.slice none 0 0,.slice none 0 0,.slice none 0 0] 34) (.cells #[.bool false] 4);obtain⟨w1,hw1⟩:=zX (((((W.alloc (.cells #[.int .u8 k,.int .i64 n,.string nm,.slice A3 ks.length c3] 24)).alloc (.cells #[.int .i64 bv,.int .i64 bl,.int .i64 bi] 27)).alloc (.cells #[.int .i64 F] 3)).alloc (.cells #[.slice none 0 0,.slice none 0 0,.slice none 0 0] 34)).alloc (.cells #[.bool false] 4));rw[hw1]at hb1 hz1 k0 k1 k2 k3 k4;rw[hN]at hz1 k0 k1 k2 k3 k4;have HB1:=zh hb1;have HZ1:=zh hz1;have aN:=zh k0;have aB:=zh k1;have aI:=zh k2;have fJ:=zh k3;have dW:=zh k4;obtain⟨y0,y1,y2⟩:=zkk k1;clear hv hr hp hl hlc hlp hpc hF lY hb1 hz1 k0 k1 k2 k3 k4
 show Calls Tryz.prog 43 #[.agg #[.int .u8 k,.int .i64 n,.string nm,.slice A3 ks.length c3],.slice A1 vs.length c1,.slice A2 prs.length c2,.agg #[.int .i64 bv,.int .i64 bl,.int .i64 bi],.int .i64 F] W _
 refine(callsIn_wide (n:=3)).1 (callsIn_of_wp_marks Tryz.func43 rfl trivial ((wpIn_wide (n:=3)).2 ?_));simp only[Tryz.ntmps43,List.size_toArray,List.length_cons,List.length_nil,Nat.reduceAdd,Nat.reduceSub,Array.replicate_succ,Array.replicate_zero,List.push_toArray,List.append_toArray,List.nil_append,List.cons_append];go_wp2_with fail;refine(vE.out _ HB1.out).mono ?_;rintro e2 w2 ⟨rfl,hb2⟩;obtain⟨sm,hsm⟩:=zX (smlE vs ⟨bv,bl,bi⟩);have HS:=zh hsm;rw[hsm]at HRR ⊢;have HB2:=zh (zkb HB1.out hb2);have fA:=zh (zka aN.out hb2);have dO:=zh (zka aB.out hb2);have gG:=zh (zka aI.out hb2);have eD:=zh (zka fJ.out hb2);have jA:=zh (zka dW.out hb2);have HZ2:=zh (show N+5<=w2.heap.size by have:=HZ1.out;have:=hb2.size;omega);clear hsm hb2 y0 y1 y2 vE hw1
 cases sm
 ·have HF:=zh (show RR=none from HRR.out.symm);obtain⟨q0,q1,q2⟩:=zkk eD.out;have cf:∀o,w2.frozen? ⟨N+3,o,none⟩=false:=fun o=>zf eD.out;obtain⟨w9,aP,aS,aZ⟩:=st3 (.slice none 0 0) (.slice none 0 0) (.slice none 0 0) eD.out;have hk4:=aS.keep jA.out fun(e:N+4=N+3)=>by omega
  have q4:w9.cell? ⟨N+4,0,none⟩=some (.bool false):=zc hk4 rfl;have tY:∀o,w9.frozen? ⟨N+4,o,none⟩=false:=fun o=>zf hk4;obtain⟨w8,hw8,hc8,il⟩:=setU (o:=0) (.bool false) hk4;obtain⟨t0,t1,t2⟩:=zkk (hc8.keep aZ fun(e:N+3=N+4)=>by omega);have t4:w8.cell? ⟨N+4,0,none⟩=some (.bool false):=zc il rfl;have bD:=zh (show Below W.heap.size W w8 from(HB2.out.trans (aS.below HB2.out.size fun b (e:b=N+3)=>by have:=HN.out;omega)).trans (hc8.below (Nat.le_trans HB2.out.size aS.size) fun b (e:b=N+4)=>by have:=HN.out;omega));clear aS aZ hk4 hc8 il;go_wp2_with fail;exact⟨.tuple #[.agg #[.slice none 0 0,.slice none 0 0,.slice none 0 0],.bool false],by simp[results,Tryz.results43,go_sem,t0,t1,t2,t4],bD.out,_,_,rfl,.inl ⟨HF.out,rfl,rfl⟩⟩
 obtain⟨hok,hcn⟩:=znU HS.out;obtain⟨x0,x1,x2,x3⟩:=box4 fA.out;have hbn:=bNd1 k n nm A3 ks.length c3 w2;obtain⟨w3,hw3⟩:=zX (w2.alloc (.cells #[.int .u8 k,.int .i64 n,.string nm,.slice A3 ks.length c3] 24));have hb3:Below w2.heap.size w2 w3:=by rw[<-hw3];exact zkc zr _
 have hk3:=heap_alloc_new w2 (.cells #[.int .u8 k,.int .i64 n,.string nm,.slice A3 ks.length c3] 24);rw[hw3]at hk3;have hz3:w3.heap.size=w2.heap.size+1:=by rw[<-hw3];simp
 obtain⟨w4,hw4⟩:=zX (w3.alloc (.cells #[.slice A1 vs.length c1,.slice A2 prs.length c2,.int .u8 57,.int .i64 0,.string ⟨#[]⟩,.slice (some ⟨w2.heap.size,0,none⟩) 1 1] 55));have hb4:Below w3.heap.size w3 w4:=by rw[<-hw4];exact zkc zr _
 have hk4:=heap_alloc_new w3 (.cells #[.slice A1 vs.length c1,.slice A2 prs.length c2,.int .u8 57,.int .i64 0,.string ⟨#[]⟩,.slice (some ⟨w2.heap.size,0,none⟩) 1 1] 55);rw[hw4]at hk4;have iY:w4.heap.size=w2.heap.size+2:=by rw[<-hw4];simp[hz3]
 rw[hz3]at hk4;have bH:=zh (zkb hb3 hb4);have av:=zh (zkb HB2.out bH.out);have bC:=zh (zka hk3 hb4);have xn:=zh hk4;have ky:=zh iY;have HZ3:=zh hz3;obtain⟨M,hM⟩:=zX (w2.heap.size);have HM:=zh hM;obtain⟨y0,y1,y2⟩:=zkk (zka dO.out bH.out);have qi:=zh hcn;have iE:=zh hok;have jR:=zh (fE.out _ av.out hok);clear hb3 hk3 hz3 hb4 hk4 iY hcn hok fE hM;go_wp2_with fail;refine jR.out.mono ?_;rintro e5 w5 ⟨iV,xb,lb,A9,c9,rfl,hb5,g1,g2,g3,uU⟩;have ay:=zh hb5;have za:=zh (And.intro g1 (And.intro g2 g3));have jy:=zh uU;clear hb5 g1 g2 g3 uU y0 y1 y2 jR hw3 hw4 hbn x0 x1 x2 x3;go_wp2_with fail;have hpv:PV w5 (fun q=>q<M+2) (zlP vs prs (.nd k n nm ks)) (.agg #[.slice A1 vs.length c1,.slice A2 prs.length c2,.int .u8 57,.int .i64 0,.string ⟨#[]⟩,.slice (some ⟨M,0,none⟩) 1 1]):=by
  have fF:Below W.heap.size W w5:=zkb av.out ay.out;have hlt:∀b,b<W.heap.size->b<M+2:=fun b h=>by have:=HB2.out.size;have:=HM.out;omega
  refine⟨A1,c1,A2,c2,some ⟨M,0,none⟩,1,rfl,⟨(HR.out.later fF).keep (fun b h _=>hlt b h) fun _ _ _=>rfl,HL.out.1,HL.out.2.1,(HP.out.later fF).keep (fun b h _=>hlt b h) fun _ _ _=>rfl,HL.out.2.2.1,HL.out.2.2.2.1,?_⟩⟩;have hkn:=zka bC.out ay.out;rw[HM.out]at hkn;exact zyn ⟨by decide,by decide,Nat.zero_le _⟩ (by omega) hkn ((HV.out.later fF).keep (fun b h _=>hlt b h) fun _ _ _=>rfl)
 have HPV:=zh hpv;have iY:w4.heap.size=M+2:=by rw[ky.out,HM.out]
 have hNM:N+5<=M:=by have:=HZ2.out;rw[HM.out]at this;exact this
 have HNM:=zh hNM;have HMZ:=zh iY;have hlb:=zlq iE.out;have vX:=zh (zqj (nf:=3-1) (S:=fun q=>w4.heap.size<=q/\q<w5.heap.size) ⟨jy.out.ok,jy.out.bx,jy.out.ls,jy.out.row.keep (fun b h hlt=>⟨h,hlt⟩) fun _ _ _=>rfl⟩ ⟨hlb.2.2.2.1,hlb.2.2.2.2⟩ ⟨by rw[hlb.1];omega,by rw[hlb.1];have:=hlb.2.1;omega⟩ fun q hq=>(hlb.2.2.1 q hq).2);clear hpv hlb;rw[HM.out,HZ3.out,HM.out];refine(wpIn_wide (n:=3)).1 ?_;refine zoG (n:=3) (gf:=79) (lb := #[ptr0 iV,ptr0 xb,ptr0 lb]) rfl (zkC zwl) vX.out (fun l x vs' g W' h=>by obtain⟨v9,rfl,-,h2,-⟩:=h;exact⟨rfl,h2⟩)
  (FaI (M+2) w5 (zog (zlP vs prs (.nd k n nm ks)) F)) (FaX (M+2) N w5 (zog (zlP vs prs (.nd k n nm ks)) F) (allS ⟨bv,bl,bi⟩ (lenE vs ⟨bv,bl,bi⟩))) (fun b=>b<M+2)
  (fun pre C W' W'' h hc=>h.chg hc fun b hb h=>h hb) (fun pre C W' W'' h hc=>h.chg (by omega) hc fun b hb h=>h hb) (fun pre C W' h b hb=>Nat.lt_of_lt_of_le ((h.1 b).1 hb) h.2.2.2) (fun pre C W' h b hb=>by obtain⟨_,_,g,X,_,_,_,_,_,_,_,_,_,_,_,_,_,h5,h6,h7,h8,_⟩:=h;rcases(h5 b).1 hb with h|h<;>omega)
  (fun b h1 h2=>by
   have:=za.out;rcases h2 with h|h|h|h<;>omega) (fun b h=>by
   rcases h with rfl|rfl|rfl|h
   ·exact zki jy.out.ok
   ·exact zki jy.out.bx
   ·exact zki jy.out.ls
   ·exact h.2) ⟨fun _=>Iff.rfl,fun _ _=>rfl,(fun s hs=>by cases hs),by have:=ay.out.size;omega⟩ ?_ ?_ ?_
 ·rintro l pre x C W3 vs' g hI nG nE hl uK hpre ⟨sv,rfl,hsv,tF⟩;clear nG;have hxm:x∈allS ⟨bv,bl,bi⟩ (lenE vs ⟨bv,bl,bi⟩):=hpre.subset (by simp);have hxc:x.cells.length<=100:=by
   obtain⟨y,hy,rfl⟩:=List.mem_map.1 hxm;have h1:=(zm8 rfl y hy).len;have h2:=zlq iE.out;simp only[stOf,List.length_dropLast];omega
  obtain⟨As,cs,Bs,ds,Ds,es,rfl⟩:∃A c B d D e,sv=.agg #[.slice A x.cells.length c,.slice B x.tin.length d,.slice D x.tout.length e]:=by
   obtain⟨A,c,B,d,D,e,rfl,-⟩:=hsv;exact⟨_,_,_,_,_,_,rfl⟩
  change Code.wpIn (Fence.wide.inRound l) (3-1-1) Tryz.prog _ _ _ _
  gi_wp2
  refine⟨(Chg.refl _ _).alloc _,fun W4 iw=>?_⟩;have hbx:=iw.keep (heap_alloc_new W3 (.cells #[.slice As x.cells.length cs,.slice Bs x.tin.length ds,.slice Ds x.tout.length es] 34)) (show ¬ W3.heap.size=l by omega);have jl:=zkc (zs W3) (.cells #[.slice As x.cells.length cs,.slice Bs x.tin.length ds,.slice Ds x.tout.length es] 34);have nD:=(hI.chg (Chg.of_below jl) (fun b hb h=>h)).chg iw (fun b hb h=>nE (by have h:b=l:=h;rwa[h]at hb));have jW:SV W4 (fun q=>g<=q) x (.agg #[.slice As x.cells.length cs,.slice Bs x.tin.length ds,.slice Ds x.tout.length es]):=(hsv.later jl).keep (fun _ h _=>h) fun q h hlt=>iw.block q hlt (fun e:q=l=>by have h:g<=q:=h;omega);obtain⟨xp,hxp⟩:=zX (W3.heap.size);rw[hxp]at hbx ⊢;have hlow:∀q,q<M+2->W4.heap[q]?=w5.heap[q]?:=fun q hq=>nD.2.1 q hq
  have qN:=(hlow (M+1) (by omega)).trans (zka (show w4.heap[M+1]?=_ by rw[<-HM.out];exact xn.out) ay.out);have hkf4:=(hlow (N+2) (by omega)).trans (zka gG.out (zkb bH.out ay.out));rw[HM.out]at qN;obtain⟨p0,p1,p2,p3,p4,p5⟩:=box6 qN;obtain⟨x0,x1,x2⟩:=zkk hbx;have z2:W4.cell? ⟨N+2,0,none⟩=some (.int .i64 F):=zc hkf4 rfl;have HI4:=zh nD;have mq:=zh jW;have aO:=zh hbx;have HXC:=zh hxc;have HCLL:=zh nE;have kH:=zh (And.intro hl (And.intro uK tF));have dL:=zh hpre;clear hI hpre hbx nD jW iw hsv hxc nE hl uK tF qN hkf4 jl hxm;change Code.wpIn (Fence.wide.inRound l) (3-1-1) Tryz.prog _ _ _ _;have hpv4:=(HPV.out.keep (w':=W4) (S':=Any) (fun _ _ _=>trivial) fun q h _=>hlow q h)
  have jD:=zh (zqW (zlP vs prs (.nd k n nm ks)) x F (F.toNat*2000+2000) _ _ W4 hpv4 mq.out.any (by have:=HXC.out;omega) HL.out.2.2.2.2.1 HL.out.2.2.2.2.2 zl);have dH:=zh (show zog (zlP vs prs (.nd k n nm ks)) F x=decide ((resO (zlP vs prs (.nd k n nm ks)) x F (F.toNat*2000+2000) false).2.2.1=15)from rfl);generalize resO (zlP vs prs (.nd k n nm ks)) x F (F.toNat*2000+2000) false=R at jD dH;clear hlow hpv4
  gi_wp2
  refine⟨trivial,CallsIn.inRound l (callsIn_wide.2 (jD.out.mono ?_))⟩;rintro e6 w6 ⟨u1,u2,u3,rfl,gL,hb6,-⟩;obtain⟨A6,l6,c6,B6,m6,d6,D6,k6,f6,hv⟩:=gL.parts;injection hv with hv;simp only[Array.mk.injEq,List.cons.injEq,and_true]at hv;obtain⟨rfl,rfl,rfl⟩:=hv;clear gL;have aR:=zh hb6;clear jD hb6 p0 p1 p2 p3 p4 p5 z2 x0 x1 x2;obtain⟨R1,R2,R3,R4⟩:=R;simp only at dH ⊢;by_cases yw:R3=15
  ·have HT:=zh (show zog (zlP vs prs (.nd k n nm ks)) F x=true by rw[dH.out];exact decide_eq_true yw);have jJ:∀q,q<M+2->w6.heap[q]?=w5.heap[q]?:=fun q hq=>(aR.out.block q (Nat.lt_of_lt_of_le hq HI4.out.2.2.2)).trans (HI4.out.2.1 q hq);have hk3:=(jJ (N+3) (by omega)).trans (zka eD.out (zkb bH.out ay.out));have hk4:=(jJ (N+4) (by omega)).trans (zka jA.out (zkb bH.out ay.out));obtain⟨x0,x1,x2⟩:=zkk (zka aO.out aR.out);obtain⟨q0,q1,q2⟩:=zkk hk3;have cf:∀o,w6.frozen? ⟨N+3,o,none⟩=false:=fun o=>zf hk3;obtain⟨w9,aP,aS,aZ⟩:=st3 (.slice As x.cells.length cs) (.slice Bs x.tin.length ds) (.slice Ds x.tout.length es) hk3;have bz:=aS.keep hk4 fun(e:N+4=N+3)=>by omega
   have q4:w9.cell? ⟨N+4,0,none⟩=some (.bool false):=zc bz rfl;have tY:∀o,w9.frozen? ⟨N+4,o,none⟩=false:=fun o=>zf bz;obtain⟨w8,hw8,hc8,il⟩:=setU (o:=0) (.bool true) bz;have hch:Chg (fun q=>q=N+3\/q=N+4) w6 w8:=(aS.mono fun q _ h=>.inl h).trans2 hc8 fun q _ h=>.inr h;have jP:=zh (show FaX (M+2) N w5 (zog (zlP vs prs (.nd k n nm ks)) F) (allS ⟨bv,bl,bi⟩ (lenE vs ⟨bv,bl,bi⟩)) (pre++[x]) (fun b=>b<M+2\/(g<=b/\b<w8.heap.size)) w8 from
    ⟨pre,x,g,w8.heap.size,As,_,cs,Bs,_,ds,Ds,_,es,rfl,dL.out,HI4.out.2.2.1,HT.out,fun b=>Iff.rfl,(by have:=kH.out;have:=ay.out.size;omega),zl,Nat.le_trans HI4.out.2.2.2 (Nat.le_trans aR.out.size hch.size),
     fun b hb n3 n4=>(hch.block b (Nat.lt_of_lt_of_le hb (Nat.le_trans HI4.out.2.2.2 aR.out.size)) fun h=>by rcases h with h|h;exact n3 h;exact n4 h).trans (jJ b hb),
     hc8.keep aZ (fun(e:N+3=N+4)=>by omega),il,(mq.out.later aR.out).keep (fun q h hlt=>⟨h,Nat.lt_of_lt_of_le hlt hch.size⟩) fun q h hlt=>hch.block q hlt fun e=>by have h:g<=q:=h;have:=kH.out;have:=ay.out.size;rcases e with e|e<;>omega⟩)
   have bP:=zh (show Chg C W4 w8 from(Chg.of_below aR.out).trans2 hch fun q _ e=>(HI4.out.1 q).2 (by rcases e with e|e<;>omega));clear jJ hk3 hk4 aS aZ bz hc8 il hch;subst yw;have hfl:(Instr.field 91 (.agg #[.slice A6 l6 c6,.slice B6 m6 d6,.slice D6 k6 f6,.int .i64 (R2:Int),.int .i64 15]) 2).run Tryz.prog w6=.ok (.int .i64 15) w6:=by kernel_rfl
   gi_wp2
   exact⟨_,jP.out,(fun b hb=>by rcases hb with h|h;exact .inl ((HI4.out.1 b).2 h);exact .inr h.1),bP.out⟩
  ·have HT:=zh (show zog (zlP vs prs (.nd k n nm ks)) F x=false by rw[dH.out];exact decide_eq_false yw);have hfl:(Instr.field 91 (.agg #[.slice A6 l6 c6,.slice B6 m6 d6,.slice D6 k6 f6,.int .i64 (R2:Int),.int .i64 R3]) 2).run Tryz.prog w6=.ok (.int .i64 R3) w6:=by kernel_rfl
   gi_wp2
   refine⟨C,⟨HI4.out.1,fun b hb=>(aR.out.block b (Nat.lt_of_lt_of_le hb HI4.out.2.2.2)).trans (HI4.out.2.1 b hb),fun s hs=>?_,Nat.le_trans HI4.out.2.2.2 aR.out.size⟩,fun b hb=>.inl hb,Chg.of_below aR.out⟩;rcases List.mem_append.1 hs with hs|hs
   ·exact HI4.out.2.2.1 s hs
   ·rw[List.mem_singleton.1 hs];exact HT.out
 ·intro D C W' hD hI hch hK;have hk3:=(hI.2.1 (N+3) (by omega)).trans (zka eD.out (zkb bH.out ay.out));have hk4:=(hI.2.1 (N+4) (by omega)).trans (zka jA.out (zkb bH.out ay.out));have aY:Chg (fun _=>False) w5 W':=⟨hch.1,hch.2,hch.3,hch.4,fun q hlt _=>by
   by_cases hq:q<M+2
   ·exact hI.2.1 q hq
   ·exact hch.block q hlt hq⟩
  have dI:=zh (show Below W.heap.size W W' from(zkb av.out ay.out).trans (aY.below (zkb av.out ay.out).size fun b h=>h.elim));clear aY;have HF:=zh (show RR=none by rw[<-HRR.out];exact List.find?_eq_none.2 fun s hs=>by rw[hI.2.2.1 s hs];simp);obtain⟨q0,q1,q2⟩:=zkk hk3;have cf:∀o,W'.frozen? ⟨N+3,o,none⟩=false:=fun o=>zf hk3;obtain⟨w9,aP,aS,aZ⟩:=st3 (.slice none 0 0) (.slice none 0 0) (.slice none 0 0) hk3;have bz:=aS.keep hk4 fun(e:N+4=N+3)=>by omega
  have q4:w9.cell? ⟨N+4,0,none⟩=some (.bool false):=zc bz rfl;have tY:∀o,w9.frozen? ⟨N+4,o,none⟩=false:=fun o=>zf bz;obtain⟨w8,hw8,hc8,il⟩:=setU (o:=0) (.bool false) bz;have fZ:Chg (fun q=>q=N+3\/q=N+4) W' w8:=(aS.mono fun q _ h=>.inl h).trans2 hc8 fun q _ h=>.inr h;have bP:=zh fZ;have vR:=zh (hc8.keep aZ (fun(e:N+3=N+4)=>by omega));have qg:=zh il;have HK:=zh (fZ.keep hK (fun e=>by have:=ay.out.size;have:D=w5.heap.size:=hD;rcases e with e|e<;>omega));have HD:=zh (show w5.heap.size=D from hD.symm);clear hk3 hk4 aS aZ bz hc8 il fZ hI hch hK hD;go_wp2_with fail;clear q0 q1 q2 q4 cf tY;refine⟨by simp,.inl ⟨_,_,rfl,run_takeDeferred HK.out,?_⟩⟩;have hcd:Chg (fun q=>q=N+3\/q=N+4\/q=D) W' (w8.putObj D (.deferred none)):=(bP.out.mono fun b _ h=>h.elim .inl fun h=>.inr (.inl h)).trans2 (Chg.putObj w8 D (.deferred none)) fun b _ h=>.inr (.inr h)
  have bI:=(Chg.putObj w8 D (.deferred none)).keep vR.out (fun(e:N+3=D)=>by have:=HD.out;have:=ay.out.size;omega);have eX:=(Chg.putObj w8 D (.deferred none)).keep qg.out (fun(e:N+4=D)=>by have:=HD.out;have:=ay.out.size;omega);obtain⟨t0,t1,t2⟩:=zkk bI;have t4:(w8.putObj D (.deferred none)).cell? ⟨N+4,0,none⟩=some (.bool false):=zc eX rfl;exact⟨.tuple #[.agg #[.slice none 0 0,.slice none 0 0,.slice none 0 0],.bool false],by simp[results,Tryz.results43,go_sem,t0,t1,t2,t4],dI.out.trans (hcd.below dI.out.size fun b h=>by
   have:=HD.out;have:=ay.out.size;have:=av.out.size;have:=HN.out;rcases h with h|h|h<;>omega),_,_,rfl,.inl ⟨HF.out,rfl,rfl⟩⟩
 ·intro D pre C W' hD hX hch hK;obtain⟨dn,s,g,X,As,ls,cs,Bs,ms,ds,Ds,ks',es,rfl,h2,h3,h4,h5,h6,h7,h8,h9,h10,h11,h12⟩:=hX;have tT:N+4<D:=by have:D=w5.heap.size:=hD;have:=ay.out.size;omega
  have HF:=zh (show RR=some s by
   rw[<-HRR.out];obtain⟨ys,hys⟩:=h2;simp only[if_pos];rw[<-hys,List.find?_append,List.find?_append,List.find?_eq_none.2 fun q hq=>by rw[h3 q hq];simp];simp[h4])
  have aY:Chg (fun b=>b=N+3\/b=N+4) w5 W':=⟨hch.1,hch.2,hch.3,hch.4,fun q hlt hn=>by
   by_cases hq:q<M+2
   ·exact h9 q hq (fun e=>hn (.inl e)) (fun e=>hn (.inr e))
   ·exact hch.block q hlt hq⟩
  have hbd:=(zkb av.out ay.out).trans (aY.below (zkb av.out ay.out).size fun b h=>by have:=HN.out;rcases h with h|h<;>omega);have dI:=zh hbd;have HK:=zh hK;have HS:=zh h12;have bS:=zh h10;have vM:=zh h11;have HG:=zh (And.intro h6 (And.intro h7 tT));have HD:=zh (show w5.heap.size=D from hD.symm);clear h2 h3 h4 h5 h6 h7 h8 h9 h10 h11 h12 aY hbd hch hK hD tT;refine wpIn_ret ?_;simp only[Exit.inBlock,Exit.then];refine⟨by simp,.inl ⟨_,_,rfl,run_takeDeferred HK.out,?_⟩⟩;have hcd:=Chg.putObj W' D (.deferred none);have bI:=hcd.keep bS.out (fun(e:N+3=D)=>by have:=HG.out;omega);have eX:=hcd.keep vM.out (fun(e:N+4=D)=>by have:=HG.out;omega);obtain⟨t0,t1,t2⟩:=zkk bI;have t4:(W'.putObj D (.deferred none)).cell? ⟨N+4,0,none⟩=some (.bool true):=zc eX rfl
  exact⟨.tuple #[.agg #[.slice As ls cs,.slice Bs ms ds,.slice Ds ks' es],.bool true],by simp[results,Tryz.results43,go_sem,t0,t1,t2,t4],dI.out.trans (hcd.below dI.out.size fun b h=>by
   have h:b=D:=h;have:=HD.out;have:=ay.out.size;have:=av.out.size;omega),_,_,rfl,.inr ⟨s,HF.out,rfl,HS.out.keep (fun q h _=>by have:=HG.out;have:=av.out.size;have:=HN.out;have:=bH.out.size;have:=ky.out;have:=HM.out;have:=HB2.out.size;omega) fun q h hlt=>hcd.block q hlt fun e=>by have h:g<=q:=h.1;have e:q=D:=e;have:=HG.out;have:=HD.out;omega⟩⟩
end
section
open Go Go.RowKit
attribute [local go_sem] Oper.semAt_some
theorem st6{W:World}{b:Nat}{a0 a1 a2 a3 a4 a5:Value}{ty:TypeId}(v0 v1 v2 v3 v4 v5:Value)(h:W.heap[b]?=some (.cells #[a0,a1,a2,a3,a4,a5] ty (0,0))) :
  ∃W',(((((W.setCell ⟨b,0,none⟩ v0).setCell ⟨b,1,none⟩ v1).setCell ⟨b,2,none⟩ v2).setCell ⟨b,3,none⟩ v3).setCell ⟨b,4,none⟩ v4).setCell ⟨b,5,none⟩ v5=W'/\Chg (fun q=>q=b) W W'/\W'.heap[b]?=some (.cells #[v0,v1,v2,v3,v4,v5] ty (0,0)):=by
 obtain⟨W0,h0,c0,k0⟩:=setU (o:=0) v0 h;obtain⟨W1,h1,c1,k1⟩:=setU (o:=1) v1 k0;obtain⟨W2,h2,c2,k2⟩:=setU (o:=2) v2 k1;obtain⟨W3,h3,c3,k3⟩:=setU (o:=3) v3 k2;obtain⟨W4,h4,c4,k4⟩:=setU (o:=4) v4 k3;obtain⟨W5,h5,c5,k5⟩:=setU (o:=5) v5 k4;refine⟨W5,by rw[h0,h1,h2,h3,h4,h5],((((c0.trans2 c1 fun b _ h=>h).trans2 c2 fun b _ h=>h).trans2 c3 fun b _ h=>h).trans2 c4 fun b _ h=>h).trans2 c5 fun b _ h=>h,?_⟩;rw[k5];simp
theorem zyN(w:World):(Instr.makeMap 79 none).run Tryz.prog w=.ok (.map (some w.heap.size)) (w.alloc (.map #[] 0)):=by kernel_rfl
def LoC(B D:Nat)(C:Nat->Prop)(W:World):Prop:=(∀b,b<B->C b)/\(∀b,C b->b<B\/D<b)/\(∀b,C b->b<W.heap.size)
def LoI(B mb:Nat)(w5:World)(vs:List VD)(f:SS->Option SS)(pre:List SS)(C:Nat->Prop)(W:World):Prop :=
 LoC B w5.heap.size C W/\(∀b,b<B->b≠mb->W.heap[b]?=w5.heap[b]?)/\zot f pre/\LoM W mb vs f pre (fun b=>C b/\B<=b)
def LoX(B mb N:Nat)(w5:World)(f:SS->Option SS)(xs pre:List SS)(C:Nat->Prop)(W:World):Prop:=∃dn q s x x0 x1 x2 x3 x4 x5,pre=dn++[s]/\pre <+: xs/\zot f dn/\f s=some x/\dn.find? (hitE f x)=some q /\
 LoC B w5.heap.size C W/\(∀b,b<B->b≠mb->b≠N+3->b≠N+4->W.heap[b]?=w5.heap[b]?)/\W.heap[N+3]?=some (.cells #[x0,x1,x2,x3,x4,x5] 36 (0,0))/\W.heap[N+4]?=some (.cells #[.bool true] 4 (0,0)) /\
 SV W (fun b=>C b/\B<=b) q (.agg #[x0,x1,x2])/\SV W (fun b=>C b/\B<=b) s (.agg #[x3,x4,x5])
theorem LoC.chg{B D:Nat}{C:Nat->Prop}{W W':World}(h:LoC B D C W)(hs:W.heap.size<=W'.heap.size):LoC B D C W':=⟨h.1,h.2.1,fun b hb=>Nat.lt_of_lt_of_le (h.2.2 b hb) hs⟩
theorem LoI.chg{B mb:Nat}{w5 W W':World}{vs:List VD}{f:SS->Option SS}{pre:List SS}{C D:Nat->Prop}(h:LoI B mb w5 vs f pre C W)(hm:mb<B)(hc:Chg D W W')(hD:∀b,C b->¬ D b):LoI B mb w5 vs f pre C W' :=
 ⟨h.1.chg hc.size,fun b hb hn=>(hc.block b (h.1.2.2 b (h.1.1 b hb)) (hD b (h.1.1 b hb))).trans (h.2.1 b hb hn),h.2.2.1,h.2.2.2.keep (hc.block mb (h.1.2.2 mb (h.1.1 mb hm)) (hD mb (h.1.1 mb hm))) (fun _ h _=>h) fun b hb hlt=>hc.block b hlt (hD b hb.1)⟩
theorem LoX.chg{B mb N:Nat}{w5 W W':World}{f:SS->Option SS}{xs pre:List SS}{C D:Nat->Prop}(h:LoX B mb N w5 f xs pre C W)(hN:N+4<B)(hc:Chg D W W')(hD:∀b,C b->¬ D b):LoX B mb N w5 f xs pre C W':=by
 obtain⟨dn,q,s,x,x0,x1,x2,x3,x4,x5,h1,h2,h3,h4,h5,h6,h7,h8,h9,h10,h11⟩:=h;refine⟨dn,q,s,x,x0,x1,x2,x3,x4,x5,h1,h2,h3,h4,h5,h6.chg hc.size,fun b hb a1 a2 a3=>(hc.block b (h6.2.2 b (h6.1 b hb)) (hD b (h6.1 b hb))).trans (h7 b hb a1 a2 a3),hc.keep h8 (hD _ (h6.1 _ (by omega))),hc.keep h9 (hD _ (h6.1 _ hN)),h10.keep (fun _ h _=>h) fun b hb hlt=>hc.block b hlt (hD b hb.1),h11.keep (fun _ h _=>h) fun b hb hlt=>hc.block b hlt (hD b hb.1)⟩
theorem zvN{vs:List VD}{b:BX}(h:(b.ok&&svB vs)=true)(hc:cntE (2*b.v+1) (lenE vs b)<=65536):(allS b (lenE vs b)).length<=65536:=by
 obtain⟨-,-,h1,h2,h3⟩:=zlq h;obtain⟨m,hm⟩:∃m:Nat,2*b.v+1=m:=⟨(2*b.v+1).toNat,by omega⟩
 have h4:=zvP (v:=m) (by omega) (by unfold maxC;omega) (fun q hq=>(h1 q hq).1) (bs:=lenE vs b) (by rw[<-hm];unfold maxC;omega);rw[<-hm]at h4;simp only[allS,List.length_map];omega
def LosP(r:Option (SS×SS))(W:World)(e:Ending)(W':World):Prop:=Below W.heap.size W W'/\∃x0 x1 x2 x3 x4 x5 b,e=.returned (.tuple #[.agg #[x0,x1,x2,x3,x4,x5],.bool b]) /\
 ((r=none/\b=false /\ #[x0,x1,x2,x3,x4,x5] = #[.slice none 0 0,.slice none 0 0,.slice none 0 0,.slice none 0 0,.slice none 0 0,.slice none 0 0]) \/
  ∃q s,r=some (q,s)/\b=true/\SV W' (fun p=>W.heap.size<=p) q (.agg #[x0,x1,x2])/\SV W' (fun p=>W.heap.size<=p) s (.agg #[x3,x4,x5]))
def losE(t:T)(vs:List VD)(b:BX):Option (SS×SS):=if smlE vs b=true then zlB (cdE vs t) [] (allS b (lenE vs b))else none
theorem zvv{W:World}{base n:Nat}{A:Option Addr}{c:Nat}{xs:List Int}(h:W.ownsRow base 5 1 (.slice A n c) n (zkP xs))(hx:xs.length=n)(hn:0<n):(convert 83 9 (.slice A n c)).run Tryz.prog W=.ok (.string (strS xs)) W/\n<=maxLen:=by
 rcases h.2 with⟨h1,h2⟩|⟨g,cap,cur,hv,-,-,h2,h3,-⟩
 ·omega
 injection hv with e1 e2 e3;subst e1 e3;refine⟨?_,Nat.le_trans h2 h3⟩;rw[run_convert_bytes_string W _ _ 5 _ _ _ Tryz.underlying83 Tryz.underlying5 Tryz.underlying9,run_bytesToString W _ _ _ xs ?_]
 ·rfl
 ·have h2:=run_loadCells_list (P:=Tryz.prog) (w:=W) ⟨g,0,none⟩ (zkP xs) fun j v hj=>by
   have hl:j<(zkP xs).length:=(List.getElem?_eq_some_iff.1 hj).1;have h3:=h.cellAt j (by simpa[zkP,hx]using hl);by_cases j0:j=0
   ·subst j0;exact h3.trans hj
   ·simp only[Addr.add,if_neg j0,Nat.zero_add];exact h3.trans hj
  simpa[zkP,hx]using h2
theorem zsu(xs:List Int):(strS xs).size=xs.length:=by
 show(strS xs).data.size=xs.length
 rw[<-Array.length_toList,zpM,bysS,List.length_map]
def nilV:Value:=.agg #[.slice none 0 0,.slice none 0 0,.slice none 0 0]
theorem zStV(w:World):(zeroValue 34).run Tryz.prog w=.ok nilV w:=by kernel_rfl
theorem kMS{vs:List VD}{y:SS}(h:(encS vs y).length<=maxLen):keyOf Tryz.prog 9 (.string (strS (encS vs y)))=some (kS vs y):=by
 rw[WideMaps.keyOf_string_mk Tryz.underlying9 (by rw[zsu];exact h),zpM];rfl
theorem zxA{W:World}{mb n:Nat}{D:DataW Value}{vs:List VD}{y:SS}(h:W.ownsMap Tryz.prog 9 hR mb n D)(hl:(encS vs y).length<=maxLen):∃v,(Instr.lookup 79 (.map (some mb)) (.string (strS (encS vs y))) true).run Tryz.prog W=.ok (.tuple #[v,.bool (Maps.has D (kS vs y))]) W/\D.atKey (kS vs y) (.held nilV)=.held v:=by
 obtain⟨v,ps,h1,h2⟩:=h.look_ok (Maps.string_keyed Tryz.underlying9) Tryz.underlying79 (zStV W) (zd:=.held nilV) (zp:=[]) rfl (kMS hl);refine⟨v,h1,?_⟩;unfold hR at h2;injection h2 with h2;injection h2 with h2;exact h2.symm
theorem zyo{W:World}{mb n:Nat}{D:DataW Value}{vs:List VD}{y:SS}(h:W.ownsMap Tryz.prog 9 hR mb n D)(hl:(encS vs y).length<=maxLen)(hn:n<maxLen)(v:Value):∃W',(Instr.mapUpdate 79 (.map (some mb)) (.string (strS (encS vs y))) v).run Tryz.prog W=.ok () W'/\W'.ownsMap Tryz.prog 9 hR mb (n+1) (D.put (kS vs y) (.held v))/\Chg (fun b=>b=mb) W W':=by
 obtain⟨W',h1,h2,h3⟩:=h.store (Maps.string_keyed Tryz.underlying9) Tryz.underlying79 hn (kMS hl) (val:=v) (d:=.held v) (ps:=[]) rfl;refine⟨W',h1,h2,(Chg.row h3.grown).mono fun b _ e=>?_⟩;injection e with e;exact e.symm
theorem zqg{W:World}{vs:List VD}{b:BX}{t:T}{v:Value}{A1:Option Addr}{c1:Nat}(hv:NV W Any t v)(hr:RowV W Any A1 vs)(hl:vs.length<=LV) :
  Calls Tryz.prog 12 #[v,.slice A1 vs.length c1,.agg #[.int .i64 b.v,.int .i64 b.l,.int .i64 b.i]] W (LosP (losE t vs b) W):=by
 obtain⟨RR,hRR⟩:=zX (losE t vs b);rw[hRR];have HRR:=zh hRR;clear hRR;unfold losE at HRR;have vE:=zh (fun w' (hb:Below W.heap.size W w')=>zoF vs b A1 c1 w' (hr.later hb) hl);have fE:=zh (fun w' (hb:Below W.heap.size W w') hok=>zup vs b A1 c1 w' (hr.later hb) hl hok);have HV:=zh (hv.keep (S':=fun b=>b<W.heap.size) (fun _ _ h=>h) fun _ _ _=>rfl);have HR:=zh (hr.keep (S':=fun b=>b<W.heap.size) (fun _ _ h=>h) fun _ _ _=>rfl);have HL:=zh hl;obtain⟨A3,c3,rfl,-⟩:=hv.open_;obtain⟨k,n,nm,ks⟩:=t;obtain⟨bv,bl,bi⟩:=b;simp only[T.k_nd,T.n_nd,T.s_nd,T.ks_nd]at HV ⊢;obtain⟨N,hN⟩:=zX (W.heap.size);have HN:=zh hN
 obtain⟨hb1,hz1,k0,k1,k2,k3,k4⟩:=al5 W (.cells #[.int .u8 k,.int .i64 n,.string nm,.slice A3 ks.length c3] 24) (.cells #[.slice A1 vs.length c1] 25) (.cells #[.int .i64 bv,.int .i64 bl,.int .i64 bi] 27) (.cells #[.slice none 0 0,.slice none 0 0,.slice none 0 0,.slice none 0 0,.slice none 0 0,.slice none 0 0] 36) (.cells #[.bool false] 4);obtain⟨w1,hw1⟩:=zX (((((W.alloc (.cells #[.int .u8 k,.int .i64 n,.string nm,.slice A3 ks.length c3] 24)).alloc (.cells #[.slice A1 vs.length c1] 25)).alloc (.cells #[.int .i64 bv,.int .i64 bl,.int .i64 bi] 27)).alloc (.cells #[.slice none 0 0,.slice none 0 0,.slice none 0 0,.slice none 0 0,.slice none 0 0,.slice none 0 0] 36)).alloc (.cells #[.bool false] 4));rw[hw1]at hb1 hz1 k0 k1 k2 k3 k4;rw[hN]at hz1 k0 k1 k2 k3 k4;have HB1:=zh hb1;have HZ1:=zh hz1;have aN:=zh k0;have aB:=zh k1;have aI:=zh k2;have fJ:=zh k3;have dW:=zh k4
 obtain⟨y0,y1,y2⟩:=zkk k2;have yv:w1.cell? ⟨N+1,0,none⟩=some (.slice A1 vs.length c1):=zc k1 rfl;clear hv hr hl hb1 hz1 k0 k1 k2 k3 k4
 show Calls Tryz.prog 12 #[.agg #[.int .u8 k,.int .i64 n,.string nm,.slice A3 ks.length c3],.slice A1 vs.length c1,.agg #[.int .i64 bv,.int .i64 bl,.int .i64 bi]] W _
 refine(callsIn_wide (n:=3)).1 (callsIn_of_wp_marks Tryz.func12 rfl trivial ((wpIn_wide (n:=3)).2 ?_));simp only[Tryz.ntmps12,List.size_toArray,List.length_cons,List.length_nil,Nat.reduceAdd,Nat.reduceSub,Array.replicate_succ,Array.replicate_zero,List.push_toArray,List.append_toArray,List.nil_append,List.cons_append];go_wp2_with fail;refine(vE.out _ HB1.out).mono ?_;rintro e2 w2 ⟨rfl,hb2⟩;obtain⟨sm,hsm⟩:=zX (smlE vs ⟨bv,bl,bi⟩);have HS:=zh hsm;rw[hsm]at HRR ⊢;have HB2:=zh (zkb HB1.out hb2);have fA:=zh (zka aN.out hb2);have dO:=zh (zka aB.out hb2);have gG:=zh (zka aI.out hb2);have eD:=zh (zka fJ.out hb2);have jA:=zh (zka dW.out hb2);have HZ2:=zh (show N+5<=w2.heap.size by have:=HZ1.out;have:=hb2.size;omega);clear hsm hb2 y0 y1 y2 yv vE hw1
 cases sm
 ·have HF:=zh (show RR=none from HRR.out.symm);obtain⟨q0,q1,q2,q3,q4,q5⟩:=box6 eD.out;have cf:∀o,w2.frozen? ⟨N+3,o,none⟩=false:=fun o=>zf eD.out;obtain⟨w9,aP,aS,aZ⟩:=st6 (.slice none 0 0) (.slice none 0 0) (.slice none 0 0) (.slice none 0 0) (.slice none 0 0) (.slice none 0 0) eD.out;have bz:=aS.keep jA.out fun(e:N+4=N+3)=>by omega
  have qb:w9.cell? ⟨N+4,0,none⟩=some (.bool false):=zc bz rfl;have tY:∀o,w9.frozen? ⟨N+4,o,none⟩=false:=fun o=>zf bz;obtain⟨w8,hw8,hc8,il⟩:=setU (o:=0) (.bool false) bz;have fZ:Chg (fun q=>q=N+3\/q=N+4) w2 w8:=(aS.mono fun q _ h=>.inl h).trans2 hc8 fun q _ h=>.inr h;have bP:=zh fZ;have vR:=zh (hc8.keep aZ (fun(e:N+3=N+4)=>by omega));have qg:=zh il;clear aS aZ bz hc8 il fZ;go_wp2_with fail;obtain⟨t0,t1,t2,t3,t4,t5⟩:=box6 vR.out;have tb:w8.cell? ⟨N+4,0,none⟩=some (.bool false):=zc qg.out rfl;exact⟨.tuple #[.agg #[.slice none 0 0,.slice none 0 0,.slice none 0 0,.slice none 0 0,.slice none 0 0,.slice none 0 0],.bool false],by simp[results,Tryz.results12,go_sem,t0,t1,t2,t3,t4,t5,tb],HB2.out.trans (bP.out.below HB2.out.size fun b h=>by
   have:=HN.out;rcases h with h|h<;>omega),_,_,_,_,_,_,_,rfl,.inl ⟨HF.out,rfl,rfl⟩⟩
 obtain⟨hok,hcn⟩:=znU HS.out;have hbn:=zyN w2;obtain⟨w3,hw3⟩:=zX (w2.alloc (.map #[] 0));have hb3:Below w2.heap.size w2 w3:=by rw[<-hw3];exact zkc zr _
 obtain⟨M,hM⟩:=zX (w2.heap.size);have HM:=zh hM;have mI:=zh (show LoM w3 M vs (cdE vs (.nd k n nm ks)) [] (fun _=>False)from by rw[<-hw3,<-hM];exact LoM.made _ _ _ _);have hz3:w3.heap.size=M+1:=by rw[<-hw3,<-hM];simp
 obtain⟨w4,hw4⟩:=zX (w3.alloc (.cells #[.map (some M)] 79));have hb4:Below w3.heap.size w3 w4:=by rw[<-hw4];exact zkc zr _
 have hk4:=heap_alloc_new w3 (.cells #[.map (some M)] 79);rw[hw4,hz3]at hk4;have iY:w4.heap.size=M+2:=by rw[<-hw4];simp[hz3]
 have bH:=zh (zkb hb3 hb4);have HB34:=zh hb4;have av:=zh (zkb HB2.out bH.out);have xn:=zh hk4;have ky:=zh iY;have HZ3:=zh hz3;obtain⟨y0,y1,y2⟩:=zkk (zka gG.out bH.out);have yv:w4.cell? ⟨N+1,0,none⟩=some (.slice A1 vs.length c1):=zc (zka dO.out bH.out) rfl;have qi:=zh hcn;have iE:=zh hok;have jR:=zh (fE.out _ av.out hok);clear hb3 hz3 hb4 hk4 iY hcn hok fE;go_wp2_with fail;refine jR.out.mono ?_;rintro e5 w5 ⟨iV,xb,lb,A9,c9,rfl,hb5,g1,g2,g3,uU⟩;have ay:=zh hb5;have za:=zh (And.intro g1 (And.intro g2 g3));have jy:=zh uU;clear hb5 g1 g2 g3 uU y0 y1 y2 yv jR hw3 hw4 hbn;go_wp2_with fail;obtain⟨f,hf⟩:=zX (cdE vs (.nd k n nm ks));rw[hf]at mI HRR;have sN:=zh hf;clear hf;have iY:w4.heap.size=M+2:=ky.out;have hNM:N+5<=M:=by have:=HZ2.out;rw[HM.out]at this;exact this
 have HNM:=zh hNM;have HMZ:=zh iY;have mZ:M+2<=w5.heap.size:=by have:=ay.out.size;omega
 have iM:=zh mZ;have hlb:=zlq iE.out;have vX:=zh (zqj (nf:=3-1) (S:=fun q=>w4.heap.size<=q/\q<w5.heap.size) ⟨jy.out.ok,jy.out.bx,jy.out.ls,jy.out.row.keep (fun b h hlt=>⟨h,hlt⟩) fun _ _ _=>rfl⟩ ⟨hlb.2.2.2.1,hlb.2.2.2.2⟩ ⟨by rw[hlb.1];omega,by rw[hlb.1];have:=hlb.2.1;omega⟩ fun q hq=>(hlb.2.2.1 q hq).2);have h0I:LoI (M+2) M w5 vs f [] (fun b=>b<M+2) w5:=by
  have ko:=zkb HB34.out ay.out;refine⟨⟨fun b h=>h,fun b h=>.inl h,fun b h=>Nat.lt_of_lt_of_le h mZ⟩,fun _ _ _=>rfl,fun a s b e=>by simp at e,mI.out.keep (ko.block M (by rw[HZ3.out];omega)) (fun _ h=>h.elim) fun _ h=>h.elim⟩
 have H0I:=zh h0I;clear hlb h0I;refine(wpIn_wide (n:=3)).1 ?_;refine zoG (n:=3) (gf:=79) (lb := #[ptr0 iV,ptr0 xb,ptr0 lb]) rfl (zkC zwl) vX.out (fun l x vs' g W' h=>by obtain⟨v9,rfl,-,h2,-⟩:=h;exact⟨rfl,h2⟩)
  (LoI (M+2) M w5 vs f) (LoX (M+2) M N w5 f (allS ⟨bv,bl,bi⟩ (lenE vs ⟨bv,bl,bi⟩))) (fun b=>b<M+2)
  (fun pre C W' W'' h hc=>h.chg (by omega) hc fun b hb h=>h hb) (fun pre C W' W'' h hc=>h.chg (by omega) hc fun b hb h=>h hb) (fun pre C W' h b hb=>h.1.2.2 b hb) (fun pre C W' h b hb=>by obtain⟨_,_,_,_,_,_,_,_,_,_,_,_,_,_,_,h6,_⟩:=h;exact h6.2.2 b hb)
  (fun b h1 h2=>by
   have:=za.out;rcases h2 with h|h|h|h<;>omega) (fun b h=>by
   rcases h with rfl|rfl|rfl|h
   ·exact zki jy.out.ok
   ·exact zki jy.out.bx
   ·exact zki jy.out.ls
   ·exact h.2) H0I.out ?_ ?_ ?_
 ·rintro l pre x C W3 vs' g hI nG nE hl uK hpre ⟨sv,rfl,hsv,tF⟩;clear nG;obtain⟨As,cs,Bs,ds,Ds,es,rfl⟩:∃A c B d D e,sv=.agg #[.slice A x.cells.length c,.slice B x.tin.length d,.slice D x.tout.length e]:=by
   obtain⟨A,c,B,d,D,e,rfl,-⟩:=hsv;exact⟨_,_,_,_,_,_,rfl⟩
  change Code.wpIn (Fence.wide.inRound l) (3-1-1) Tryz.prog _ _ _ _
  gi_wp2
  refine⟨(Chg.refl _ _).alloc _,fun W4 iw=>?_⟩;have hbx:=iw.keep (heap_alloc_new W3 (.cells #[.slice As x.cells.length cs,.slice Bs x.tin.length ds,.slice Ds x.tout.length es] 34)) (show ¬ W3.heap.size=l by omega);have jl:=zkc (zs W3) (.cells #[.slice As x.cells.length cs,.slice Bs x.tin.length ds,.slice Ds x.tout.length es] 34);have nD:=(hI.chg (by omega) (Chg.of_below jl) (fun b hb h=>h)).chg (by omega) iw (fun b hb h=>nE (by have h:b=l:=h;rwa[h]at hb));have jW:SV W4 (fun q=>g<=q) x (.agg #[.slice As x.cells.length cs,.slice Bs x.tin.length ds,.slice Ds x.tout.length es]):=(hsv.later jl).keep (fun _ h _=>h) fun q h hlt=>iw.block q hlt (fun e:q=l=>by have h:g<=q:=h;omega);obtain⟨xp,hxp⟩:=zX (W3.heap.size);have hxpl:l<xp:=by omega
  rw[hxp]at hbx ⊢;have hlow:∀q,q<M->W4.heap[q]?=w5.heap[q]?:=fun q hq=>nD.2.1 q (by omega) (by omega);have nO:∀q,q<w2.heap.size->W4.heap[q]?=w2.heap[q]?:=fun q hq=>(hlow q (by rw[<-HM.out];exact hq)).trans ((zkb bH.out ay.out).block q hq);have hk0:=(nO N (zki fA.out)).trans fA.out;have hk1:=(nO (N+1) (zki dO.out)).trans dO.out;have hwn:∀q,q<W.heap.size->W4.heap[q]?=W.heap[q]?:=fun q hq=>(nO q (Nat.lt_of_lt_of_le hq HB2.out.size)).trans (HB2.out.block q hq);have wY:=zh hwn;obtain⟨p0,p1,p2,p3⟩:=box4 hk0;obtain⟨x0,x1,x2⟩:=zkk hbx;have zv:W4.cell? ⟨N+1,0,none⟩=some (.slice A1 vs.length c1):=zc hk1 rfl;have HK1W:=zh hk1;have HI4:=zh nD;have mq:=zh jW;have aO:=zh hbx;have HCLL:=zh nE;have kH:=zh (And.intro hl (And.intro hxpl tF));have dL:=zh hpre;have HRW:=zh (HR.out.keep (w':=W4) (S':=Any) (fun _ _ _=>trivial) fun q h _=>hwn q h)
  have kP:=zh (zsg (c:=c1) (HV.out.keep (w':=W4) (S':=Any) (fun _ _ _=>trivial) fun q h _=>hwn q h) HRW.out HL.out jW.any);have jP:=zh (show f x=cdE vs (.nd k n nm ks) x by rw[sN.out]);unfold cdE at jP;generalize asgE vs (.nd k n nm ks) x=R at kP jP;clear hI hpre hbx nD jW iw hsv nE hl uK tF hlow hk0 hk1 nO hwn jl hxpl;change Code.wpIn (Fence.wide.inRound l) (3-1-1) Tryz.prog _ _ _ _
  gi_wp2
  refine⟨trivial,CallsIn.inRound l (callsIn_wide.2 (kP.out.mono ?_))⟩;rintro e6 w6 ⟨hb6,u6,rfl,gL,lK⟩;obtain⟨er,y⟩:=R;simp only at gL lK jP ⊢;obtain⟨Ay,cy,By,dy,Dy,ey,rfl⟩:=gL.slices;have lu:=zh gL;have aR:=zh hb6;have kI:=zh lK;clear kP hb6 gL lK p0 p1 p2 p3 x0 x1 x2 zv;obtain⟨w7,hw7⟩:=zX (w6.alloc (.cells #[.slice Ay y.cells.length cy,.slice By y.tin.length dy,.slice Dy y.tout.length ey] 34));have ou:Below w6.heap.size w6 w7:=by rw[<-hw7];exact zkc zr _
  have jK:=heap_alloc_new w6 (.cells #[.slice Ay y.cells.length cy,.slice By y.tin.length dy,.slice Dy y.tout.length ey] 34);rw[hw7]at jK;obtain⟨yp,hyp⟩:=zX (w6.heap.size);rw[hyp]at jK;have HYP:=zh hyp;have sF:=zh jK;have HB67:=zh ou;have mW:=zh (zkb aR.out ou);have HSY:=zh ((lu.out.svR kI.out).later ou);have HIY:=zh (show y.I from by obtain⟨_,_,_,_,_,_,h⟩:=lu.out;exact h);clear ou jK hyp;have HSKIP:=zh (show ∀W',Below W4.heap.size W4 W'->f x=none->∃C',LoI (M+2) M w5 vs f (pre++[x]) C' W'/\(∀b,C' b->C b\/g<=b)/\Chg C W4 W' from fun W' hb hn =>
   have h:=HI4.out.chg (by omega) (Chg.of_below hb) (fun b hb h=>h)
   ⟨C,⟨h.1,h.2.1,h.2.2.1.snoc (fun z hz=>by rw[hn]at hz;cases hz),h.2.2.2.skip hn⟩,fun b hb=>.inl hb,Chg.of_below hb⟩)
  by_cases h0:er=0
  ·subst h0;have sP:=zh (zsc vs y A1 c1 _ w7 (HRW.out.later mW.out) HL.out HSY.out.any);have jK:=sF.out;rw[<-HYP.out]at jK;obtain⟨z0,z1,z2⟩:=zkk jK;clear jK;have zv:w7.cell? ⟨N+1,0,none⟩=some (.slice A1 vs.length c1):=zc (zka HK1W.out mW.out) rfl
   gi_wp2
   refine⟨trivial,CallsIn.inRound l (callsIn_wide.2 (sP.out.mono ?_))⟩;rintro e8 w8 ⟨bJ,⟨hfit,rfl⟩|⟨hfit,Ae,ce,rfl,hor⟩⟩
   ·have HN:=zh (show f x=none from jP.out.trans (if_neg fun h=>by rw[hfit]at h;exact absurd h.2 (by simp)));have bD:=zh (zkb mW.out bJ);clear bJ hfit sP z0 z1 z2 zv
    gi_wp2
    exact HSKIP.out _ bD.out HN.out
   have pq:=zh (show f x=some y from jP.out.trans (if_pos ⟨by trivial,hfit⟩));have bD:=zh (zkb mW.out bJ);have HB78:=zh bJ;have HFIT:=zh hfit;have rW:=zh hor;clear bJ hfit sP z0 z1 z2 zv;have hlen0:0<(encS vs y).length:=by simp only[encS,cnE,List.length_append,zkG];omega
   obtain⟨hcv,hmx⟩:=zvv hor rfl hlen0;have yQ:=zh hmx;have hlo8:=HI4.out.2.2.2.keep (W':=w8) (bD.out.block M HI4.out.2.2.2.lt) (fun _ h _=>h) fun b _ hlt=>bD.out.block b hlt;obtain⟨D,hD1,hD2,hD3⟩:=hlo8;obtain⟨v9,hlk,hat⟩:=zxA (vs:=vs) (y:=y) hD1 hmx;obtain⟨hs,uL⟩:=zX (Maps.has D (kS vs y));rw[uL]at hlk;have qO:=zka ((HI4.out.2.1 (M+1) (by omega) (by omega)).trans (zka xn.out ay.out)) bD.out;have HKM8:=zh qO;have zm:w8.cell? ⟨M+1,0,none⟩=some (.map (some M)):=zc qO rfl;have hbx8:=zka aO.out bD.out;have HBX8:=zh hbx8;have hzM:M<w8.heap.size:=hD1.lt;clear hor hlen0 hmx hbx8 qO;rw[HZ3.out]
   cases hs
   ·have wI:v9=nilV:=by
     rw[Maps.atKey_of_not_has uL]at hat
     injection hat with hat
     exact hat.symm
    subst wI;unfold nilV at hlk
    gi_upto_region 14 with fail
    obtain⟨w9,aP⟩:=zX (w8.alloc (.cells #[.slice none 0 0,.slice none 0 0,.slice none 0 0] 34));have aD:Below w8.heap.size w8 w9:=by rw[<-aP];exact zkc zr _
    obtain⟨p0,p1,p2⟩:=zkk (zka HBX8.out aD);have zm9:w9.cell? ⟨M+1,0,none⟩=some (.map (some M)):=zc (zka HKM8.out aD) rfl;have hD9:w9.ownsMap Tryz.prog 9 hR M pre.length D:=by
     obtain⟨es',ck',h1,h2⟩:=hD1;exact⟨es',ck',zka h1 aD,h2⟩
    obtain⟨bB,hmu,hD10,qW⟩:=zyo hD9 yQ.out (by
     have h1:=zvN iE.out qi.out;have h2:=dL.out.length_le;simp only[List.length_append,List.length_cons,List.length_nil]at h2;exact Nat.lt_of_le_of_lt (show pre.length<=65536 by omega) (by unfold maxLen;decide)) (.agg #[.slice As x.cells.length cs,.slice Bs x.tin.length ds,.slice Ds x.tout.length es])
    have jk:=zkb bD.out aD;have jV:Chg (fun b=>b=M) W4 bB:=(Chg.of_below jk).trans2 qW fun b _ h=>h;have aC:=zh (show LoI (M+2) M w5 vs f (pre++[x]) (fun b=>C b\/(g<=b/\b<bB.heap.size)) bB from by
     have h4:=HI4.out;refine⟨⟨fun b hb=>.inl (h4.1.1 b hb),fun b hb=>?_,fun b hb=>?_⟩,fun b hb hn=>(jV.block b (h4.1.2.2 b (h4.1.1 b hb)) hn).trans (h4.2.1 b hb hn),h4.2.2.1.snoc fun z hz q hq hqz=>?_,?_⟩
     ·rcases hb with hb|hb
      ·exact h4.1.2.1 b hb
      ·exact .inr (by have:=kH.out;omega)
     ·rcases hb with hb|hb
      ·exact Nat.lt_of_lt_of_le (h4.1.2.2 b hb) jV.size
      ·exact hb.2
     ·rw[pq.out]at hz;injection hz with hz;subst hz;obtain⟨-,v0,h0,-⟩:=hD2 q hq y hqz;rw[uL]at h0
      cases h0
     ·refine LoM.put hD2 hD3 hD1.isMap pq.out HIY.out uL hD10 (mq.out.keep (fun q h hlt=>⟨.inr ⟨h,Nat.lt_of_lt_of_le hlt jV.size⟩,by have h:g<=q:=h;have:=kH.out;have:=iM.out;omega⟩) fun q h hlt=>jV.block q hlt fun(e:q=M)=>by have h:g<=q:=h;have:=kH.out;have:=iM.out;omega)
       (fun b h _=>⟨.inl h.1,h.2⟩) fun b h hlt=>((Chg.of_below (C:=fun b=>b=M) aD).trans2 qW fun b _ h=>h).block b hlt fun(e:b=M)=>by have:=h.2;omega)
    have bP:=zh (jV.mono (C':=C) fun b _ (e:b=M)=>by rw[e];exact HI4.out.1.1 M (by omega));clear aD hD9 hD10 qW jk jV hD1 hD2 hD3 hat
    rw[aP];clear aP hlk hcv
    gi_wp2
    exact⟨_,aC.out,(fun b hb=>hb.elim .inl fun h=>.inr h.1),bP.out⟩
   ·obtain⟨s0,hs0,y',uM,hky⟩:=hD3 _ uL;obtain⟨hIy',v0,-,hat0,qE⟩:=hD2 s0 hs0 y' uM;have hfit':fitB vs y'=true:=by
     have h1:=uM;rw[<-sN.out,cdE]at h1
     split at h1
     ·rename_i h2;injection h1 with h1;rw[<-h1];exact h2.2
     ·cases h1
    have hyy:=zxV HFIT.out hfit' HIY.out hIy' hky;subst hyy;rw[hat0]at hat
    injection hat with hat
    subst hat
    obtain⟨A0,c0,B0,d0,D0,e0,rfl⟩:∃A c B d D e,v0=.agg #[.slice A s0.cells.length c,.slice B s0.tin.length d,.slice D s0.tout.length e]:=by
     obtain⟨A,c,B,d,D,e,rfl,-⟩:=qE;exact⟨_,_,_,_,_,_,rfl⟩
    have hfind:=zvl HI4.out.2.2.1 hs0 uM;have HFY:=zh uM;have HS0:=zh hs0;clear uM hs0
    gi_upto_region 13 with fail
    obtain⟨w9,aP⟩:=zX (w8.alloc (.cells #[.slice A0 s0.cells.length c0,.slice B0 s0.tin.length d0,.slice D0 s0.tout.length e0] 34));have aD:Below w8.heap.size w8 w9:=by rw[<-aP];exact zkc zr _
    obtain⟨p0,p1,p2⟩:=zkk (zka HBX8.out aD);have xW:=heap_alloc_new w8 (.cells #[.slice A0 s0.cells.length c0,.slice B0 s0.tin.length d0,.slice D0 s0.tout.length e0] 34);rw[aP]at xW;obtain⟨r0,r1,r2⟩:=zkk xW;have jk:=zkb bD.out aD;have hk3:=zka ((HI4.out.2.1 (N+3) (by omega) (by omega)).trans (zka eD.out (zkb bH.out ay.out))) jk;have hk4:=zka ((HI4.out.2.1 (N+4) (by omega) (by omega)).trans (zka jA.out (zkb bH.out ay.out))) jk;obtain⟨q0,q1,q2,q3,q4,q5⟩:=box6 hk3;have cf:∀o,w9.frozen? ⟨N+3,o,none⟩=false:=fun o=>zf hk3;obtain⟨wa,lG,lS,hha⟩:=st6 (.slice A0 s0.cells.length c0) (.slice B0 s0.tin.length d0) (.slice D0 s0.tout.length e0) (.slice As x.cells.length cs) (.slice Bs x.tin.length ds) (.slice Ds x.tout.length es) hk3;have nX:=lS.keep hk4 fun(e:N+4=N+3)=>by omega
    have qb:wa.cell? ⟨N+4,0,none⟩=some (.bool false):=zc nX rfl;have cfb:∀o,wa.frozen? ⟨N+4,o,none⟩=false:=fun o=>zf nX;obtain⟨wb,hwb,hcb,hhb⟩:=setU (o:=0) (.bool true) nX;have hch:Chg (fun q=>q=N+3\/q=N+4) w9 wb:=(lS.mono fun q _ h=>.inl h).trans2 hcb fun q _ h=>.inr h;have jU:Chg (fun q=>q=N+3\/q=N+4) W4 wb:=(Chg.of_below jk).trans2 hch fun b _ h=>h;have HFX2:=zh (show LoX (M+2) M N w5 f (allS ⟨bv,bl,bi⟩ (lenE vs ⟨bv,bl,bi⟩)) (pre++[x]) (fun b=>C b\/(g<=b/\b<wb.heap.size)) wb from by
     have h4:=HI4.out;refine⟨pre,s0,x,y,_,_,_,_,_,_,rfl,dL.out,h4.2.2.1,pq.out,hfind,⟨fun b hb=>.inl (h4.1.1 b hb),fun b hb=>?_,fun b hb=>?_⟩,fun b hb hn n3 n4=>(jU.block b (h4.1.2.2 b (h4.1.1 b hb)) fun h=>by rcases h with h|h;exact n3 h;exact n4 h).trans (h4.2.1 b hb hn),hcb.keep hha (fun(e:N+3=N+4)=>by omega),hhb,
      qE.keep (fun q h hlt=>⟨.inl h.1,h.2⟩) (fun q h hlt=>((Chg.of_below (C:=fun q=>q=N+3\/q=N+4) aD).trans2 hch fun b _ h=>h).block q hlt fun e=>by have:=h.2;rcases e with e|e<;>omega),
      mq.out.keep (fun q h hlt=>⟨.inr ⟨h,Nat.lt_of_lt_of_le hlt jU.size⟩,by have h:g<=q:=h;have:=kH.out;have:=iM.out;omega⟩) fun q h hlt=>jU.block q hlt fun e=>by have h:g<=q:=h;have:=kH.out;have:=iM.out;rcases e with e|e<;>omega⟩
     ·rcases hb with hb|hb
      ·exact h4.1.2.1 b hb
      ·exact .inr (by have:=kH.out;omega)
     ·rcases hb with hb|hb
      ·exact Nat.lt_of_lt_of_le (h4.1.2.2 b hb) jU.size
      ·exact hb.2)
    have bP:=zh (jU.mono (C':=C) fun b _ e=>HI4.out.1.1 b (by rcases e with e|e<;>omega));clear aD xW jk hk3 hk4 lS hha nX hcb hhb hch jU hD1 hD2 hD3 hat0 qE hfind;rw[aP];clear aP hlk hcv
    gi_wp2
    exact⟨_,HFX2.out,(fun b hb=>hb.elim .inl fun h=>.inr h.1),bP.out⟩
  ·have hne:(er==0)=false:=by simpa using h0
   have hn:f x=none:=jP.out.trans (if_neg fun h=>h0 h.1);have HN:=zh hn;clear hn
   gi_wp2
   exact HSKIP.out _ mW.out HN.out
 ·intro D C W' hD hI hch hK;have hlow:∀q,q<M->W'.heap[q]?=w5.heap[q]?:=fun q hq=>hI.2.1 q (by omega) (by omega);have hk3:=(hlow (N+3) (by omega)).trans (zka eD.out (zkb bH.out ay.out));have hk4:=(hlow (N+4) (by omega)).trans (zka jA.out (zkb bH.out ay.out));have aY:Chg (fun q=>q=M) w5 W':=⟨hch.1,hch.2,hch.3,hch.4,fun q hlt hn=>by
   by_cases hq:q<M+2
   ·exact hI.2.1 q hq hn
   ·exact hch.block q hlt hq⟩
  have dI:=zh (show Below W.heap.size W W' from(zkb av.out ay.out).trans (aY.below (zkb av.out ay.out).size fun b (e:b=M)=>by have:=HN.out;omega));have HF:=zh (show RR=none by rw[<-HRR.out,if_pos trivial];exact zmN _ [] hI.2.2.1);clear aY hlow;obtain⟨q0,q1,q2,q3,q4,q5⟩:=box6 hk3;have cf:∀o,W'.frozen? ⟨N+3,o,none⟩=false:=fun o=>zf hk3;obtain⟨w9,aP,aS,aZ⟩:=st6 (.slice none 0 0) (.slice none 0 0) (.slice none 0 0) (.slice none 0 0) (.slice none 0 0) (.slice none 0 0) hk3;have bz:=aS.keep hk4 fun(e:N+4=N+3)=>by omega
  have qb:w9.cell? ⟨N+4,0,none⟩=some (.bool false):=zc bz rfl;have tY:∀o,w9.frozen? ⟨N+4,o,none⟩=false:=fun o=>zf bz;obtain⟨w8,hw8,hc8,il⟩:=setU (o:=0) (.bool false) bz;have fZ:Chg (fun q=>q=N+3\/q=N+4) W' w8:=(aS.mono fun q _ h=>.inl h).trans2 hc8 fun q _ h=>.inr h;have bP:=zh fZ;have vR:=zh (hc8.keep aZ (fun(e:N+3=N+4)=>by omega));have qg:=zh il;clear aS aZ bz hc8 il fZ;have HK:=zh (bP.out.keep hK (fun e=>by have:D=w5.heap.size:=hD;have:=iM.out;rcases e with e|e<;>omega));have HD:=zh (show w5.heap.size=D from hD.symm);clear hk3 hk4 hI hch hK hD;go_wp2_with fail;clear q0 q1 q2 q3 q4 q5 qb cf tY;refine⟨by simp,.inl ⟨_,_,rfl,run_takeDeferred HK.out,?_⟩⟩;have hcd:Chg (fun q=>q=N+3\/q=N+4\/q=D) W' (w8.putObj D (.deferred none)):=(bP.out.mono fun b _ h=>h.elim .inl fun h=>.inr (.inl h)).trans2 (Chg.putObj w8 D (.deferred none)) fun b _ h=>.inr (.inr h)
  have bI:=(Chg.putObj w8 D (.deferred none)).keep vR.out (fun(e:N+3=D)=>by have:=HD.out;have:=iM.out;omega);have eX:=(Chg.putObj w8 D (.deferred none)).keep qg.out (fun(e:N+4=D)=>by have:=HD.out;have:=iM.out;omega);obtain⟨t0,t1,t2,t3,t4,t5⟩:=box6 bI;have tb:(w8.putObj D (.deferred none)).cell? ⟨N+4,0,none⟩=some (.bool false):=zc eX rfl;exact⟨.tuple #[.agg #[.slice none 0 0,.slice none 0 0,.slice none 0 0,.slice none 0 0,.slice none 0 0,.slice none 0 0],.bool false],by simp[results,Tryz.results12,go_sem,t0,t1,t2,t3,t4,t5,tb],dI.out.trans (hcd.below dI.out.size fun b h=>by
   have:=HD.out;have:=iM.out;have:=HN.out;rcases h with h|h|h<;>omega),_,_,_,_,_,_,_,rfl,.inl ⟨HF.out,rfl,rfl⟩⟩
 ·intro D pre C W' hD hX hch hK;obtain⟨dn,q,s,x,x0,x1,x2,x3,x4,x5,rfl,h2,h3,h4,h5,h6,h7,h8,h9,h10,h11⟩:=hX;have HF:=zh (show RR=some (q,s) by
   rw[<-HRR.out,if_pos trivial];obtain⟨ys,hys⟩:=h2;rw[<-hys,List.append_assoc];exact zmM h4 dn [] h3 h5)
  have aY:Chg (fun b=>b=M\/b=N+3\/b=N+4) w5 W':=⟨hch.1,hch.2,hch.3,hch.4,fun q hlt hn=>by
   by_cases hq:q<M+2
   ·exact h7 q hq (fun e=>hn (.inl e)) (fun e=>hn (.inr (.inl e))) (fun e=>hn (.inr (.inr e)))
   ·exact hch.block q hlt hq⟩
  have dI:=zh (show Below W.heap.size W W' from(zkb av.out ay.out).trans (aY.below (zkb av.out ay.out).size fun b h=>by have:=HN.out;rcases h with h|h|h<;>omega));have HK:=zh hK;have oL:=zh h10;have HS2:=zh h11;have zq:=zh h6;have bS:=zh h8;have vM:=zh h9;have HD:=zh (show w5.heap.size=D from hD.symm);clear h2 h3 h4 h5 h6 h7 h8 h9 h10 h11 aY hch hK hD;go_wp2_with fail;refine wpIn_ret ?_;simp only[Exit.inBlock,Exit.then];refine⟨by simp,.inl ⟨_,_,rfl,run_takeDeferred HK.out,?_⟩⟩;have hcd:=Chg.putObj W' D (.deferred none);have bI:=hcd.keep bS.out (fun(e:N+3=D)=>by have:=HD.out;have:=iM.out;omega);have eX:=hcd.keep vM.out (fun(e:N+4=D)=>by have:=HD.out;have:=iM.out;omega);obtain⟨t0,t1,t2,t3,t4,t5⟩:=box6 bI;have tb:(W'.putObj D (.deferred none)).cell? ⟨N+4,0,none⟩=some (.bool true):=zc eX rfl
  have hkeep:∀q,(C q/\M+2<=q)->q<W'.heap.size->(W'.putObj D (.deferred none)).heap[q]?=W'.heap[q]?:=fun q h hlt=>hcd.block q hlt fun(e:q=D)=>by
   have:=HD.out;have:=iM.out;have:=zq.out.2.1 q h.1;omega
  have hge:∀q,(C q/\M+2<=q)->q<W'.heap.size->W.heap.size<=q:=fun q h _=>by have:=HN.out;omega
  exact⟨.tuple #[.agg #[x0,x1,x2,x3,x4,x5],.bool true],by simp[results,Tryz.results12,go_sem,t0,t1,t2,t3,t4,t5,tb],dI.out.trans (hcd.below dI.out.size fun b (h:b=D)=>by
   have:=HD.out;have:=iM.out;have:=HN.out;omega),_,_,_,_,_,_,_,rfl,.inr ⟨q,s,HF.out,rfl,oL.out.keep hge hkeep,HS2.out.keep hge hkeep⟩⟩
end
section
open Go Go.RowKit
attribute [local go_sem] Oper.semAt_some
def zms(t:T)(vs:List VD)(b:BX)(F:Int):Option SS:=if smlE vs b=true then(allS b (lenE vs b)).find? (zog (zlP vs [] t) F)else none
theorem zny{W:World}{vs:List VD}{b:BX}{t:T}{v:Value}{F:Int}{A1:Option Addr}{c1:Nat}(hv:NV W Any t v)(hr:RowV W Any A1 vs)(hl:vs.length<=LV)(hlc:vs.length<=c1)(hF:I64 F)(lY:F<=1000000) :
  Calls Tryz.prog 18 #[v,.slice A1 vs.length c1,.agg #[.int .i64 b.v,.int .i64 b.l,.int .i64 b.i],.int .i64 F] W (zv9 (zms t vs b F) W):=by
 have HC:=zh (fun w' (hb:Below W.heap.size W w')=>zqG (W:=w') (prs:=[]) (b:=b) (A2:=none) (c2:=0) (hv.later hb) (hr.later hb) hl hlc (fun i hi=>by cases hi) (by decide) (by decide) hF lY);obtain⟨A3,c3,rfl,-⟩:=hv.open_;obtain⟨k,n,nm,ks⟩:=t;obtain⟨bv,bl,bi⟩:=b;simp only[T.k_nd,T.n_nd,T.s_nd,T.ks_nd]at HC ⊢;obtain⟨N,hN⟩:=zX (W.heap.size);have HN:=zh hN;obtain⟨hb1,hz1,k0,k1,k2⟩:=al3 W (.cells #[.int .u8 k,.int .i64 n,.string nm,.slice A3 ks.length c3] 24) (.cells #[.int .i64 bv,.int .i64 bl,.int .i64 bi] 27) (.cells #[.slice none 0 0,.slice none 0 0,.slice none 0 0] 34);obtain⟨w1,hw1⟩:=zX (((W.alloc (.cells #[.int .u8 k,.int .i64 n,.string nm,.slice A3 ks.length c3] 24)).alloc (.cells #[.int .i64 bv,.int .i64 bl,.int .i64 bi] 27)).alloc (.cells #[.slice none 0 0,.slice none 0 0,.slice none 0 0] 34));rw[hw1]at hb1 hz1 k0 k1 k2;rw[hN]at hz1 k0 k1 k2;have HB1:=zh hb1;have HZ1:=zh hz1
 have aI:=zh k2;obtain⟨y0,y1,y2⟩:=zkk k1;obtain⟨x0,x1,x2,x3⟩:=box4 k0;clear hb1 hz1 k0 k1 k2;clear hv hr hl hlc hF lY
 show Calls Tryz.prog 18 #[.agg #[.int .u8 k,.int .i64 n,.string nm,.slice A3 ks.length c3],.slice A1 vs.length c1,.agg #[.int .i64 bv,.int .i64 bl,.int .i64 bi],.int .i64 F] W _
 refine(callsIn_wide (n:=3)).1 (callsIn_of_wp_marks Tryz.func18 rfl trivial ((wpIn_wide (n:=3)).2 ?_));simp only[Tryz.ntmps18,List.size_toArray,List.length_cons,List.length_nil,Nat.reduceAdd,Nat.reduceSub,Array.replicate_succ,Array.replicate_zero,List.push_toArray,List.append_toArray,List.nil_append,List.cons_append];go_wp2_with fail;refine(HC.out _ HB1.out).mono ?_;rintro e w' ⟨hb,v,x,rfl,h⟩;obtain⟨RR,hRR⟩:=zX (zms (.nd k n nm ks) vs ⟨bv,bl,bi⟩ F);have h':=h;rw[show(if smlE vs ⟨bv,bl,bi⟩=true then List.find? (zog (zlP vs [] (.nd k n nm ks)) F) (allS ⟨bv,bl,bi⟩ (lenE vs ⟨bv,bl,bi⟩))else none)=RR from hRR]at h';have HRR:=zh hRR;have HH:=zh (And.intro hb h');clear hb h HC hRR h';obtain⟨A,la,ca,B,lb,cb,D,ld,cd,rfl⟩:∃A l c B m d D k e,v=.agg #[.slice A l c,.slice B m d,.slice D k e]:=by
  rcases HH.out.2 with⟨-,-,h⟩|⟨s,-,-,h⟩
  ·exact⟨_,_,_,_,_,_,_,_,_,h⟩
  ·obtain⟨A,c,B,d,D,e,h,-⟩:=h;exact⟨_,_,_,_,_,_,_,_,_,h⟩
 have hk2:=zka aI.out HH.out.1;obtain⟨q0,q1,q2⟩:=zkk hk2;have cf:∀o,w'.frozen? ⟨N+2,o,none⟩=false:=fun o=>zf hk2;obtain⟨w9,aP,aS,aZ⟩:=st3 (.slice A la ca) (.slice B lb cb) (.slice D ld cd) hk2;obtain⟨t0,t1,t2⟩:=zkk aZ;have mR:=zh aS;clear hk2 aS aZ x0 x1 x2 x3 y0 y1 y2 hw1;go_wp2_with fail;refine⟨.tuple #[.agg #[.slice A la ca,.slice B lb cb,.slice D ld cd],.bool x],by simp[results,Tryz.results18,go_sem,t0,t1,t2],(zkb HB1.out HH.out.1).trans (mR.out.below (zkb HB1.out HH.out.1).size fun b (e:b=N+2)=>by have:=HN.out;omega),_,_,rfl,?_⟩;rcases HH.out.2 with⟨h1,h2,h3⟩|⟨s,h1,h2,h3⟩
 ·exact .inl ⟨HRR.out.trans h1,h2,h3⟩
 ·exact .inr ⟨s,HRR.out.trans h1,h2,h3.keep (fun q h _=>Nat.le_trans HB1.out.size h) fun q h hlt=>mR.out.block q hlt fun(e:q=N+2)=>by have h:w1.heap.size<=q:=h;have:=HZ1.out;omega⟩
end
section
open Go Go.RowKit
def xTW:T:=.nd 2 0 ⟨#[120]⟩ []
def nTW(n:Int):T:=.nd 1 n ⟨#[]⟩ []
def stTW:T:=.nd 56 0 ⟨#[]⟩ [xTW,nTW 0]
def eqTW:T:=.nd 16 0 ⟨#[]⟩ [xTW,nTW 1]
def blTW:T:=.nd 57 0 ⟨#[]⟩ []
def ifTW:T:=.nd 52 0 ⟨#[]⟩ [eqTW,blTW,blTW,nTW 1]
def vsW:List VD:=[⟨⟨#[120]⟩,1,0⟩]
def bxW:BX:=⟨1,0,0⟩
def okPW:Option (SS×SS)->Bool
 | some (a,b)=>eqS a ⟨[[0]],[],[]⟩&&eqS b ⟨[[1]],[],[]⟩
 | none=>false
def okSW:Option SS->Bool
 | some a=>eqS a ⟨[[0]],[],[]⟩
 | none=>false
theorem zwP:okPW (losE stTW vsW bxW)=true:=by decide +kernel
theorem zxd:okSW (zms ifTW vsW bxW 100)=true:=by decide +kernel
theorem zxR:losE stTW vsW bxW=some (⟨[[0]],[],[]⟩,⟨[[1]],[],[]⟩):=by
 have h:=zwP;unfold okPW at h
 split at h
 ·rename_i a b e;rw[e];simp only[Bool.and_eq_true,zps]at h;rw[h.1,h.2]
 ·cases h
theorem zx8:zms ifTW vsW bxW 100=some ⟨[[0]],[],[]⟩:=by
 have h:=zxd;unfold okSW at h
 split at h
 ·rename_i a e;rw[e,zps.1 h]
 ·cases h
theorem zqv(n:Int)(w:World):Calls Tryz.prog 35 #[.int .i64 n] w fun e w'=>e=.returned (nv 1 n ⟨#[]⟩ none 0 0)/\Below w.heap.size w w':=by
 have hb:∀w,(Instr.build 24 #[(0,.int .u8 1),(1,.int .i64 n)]).run Tryz.prog w=.ok (nv 1 n ⟨#[]⟩ none 0 0) w:=fun w=>by kernel_rfl
 go_enter Tryz.func35,Tryz.ntmps35;go_wp2_with fail;exact bodyPost_ret (v:=nv 1 n ⟨#[]⟩ none 0 0) (by simp[results,Tryz.results35,go_sem]) rfl ⟨rfl,zkc zr _⟩
def AwP:Prop:=∀w,Calls Tryz.prog 9 #[] w fun e w'=>e=.returned (.bool true)/\Below w.heap.size w w'
attribute [local go_sem] Oper.semAt_some
end
section
open Go Go.RowKit
attribute [local go_sem] Oper.semAt_some
end
section
open Go Go.RowKit
def smL(vs:List VD)(b:BX):Bool:=decide (vs.length<=40)&&(decide ((cntR vs b).2=1)||(decide ((cntR vs b).2=0)&&decide ((cntR vs b).1<=150)))
theorem zrK(vs:List VD)(b:BX)(A:Option Addr)(c:Nat)(w:World)(hrow:RowV w Any A vs)(hl:vs.length<=LV):Calls Tryz.prog 11 #[.slice A vs.length c,.agg #[.int .i64 b.v,.int .i64 b.l,.int .i64 b.i]] w fun e w'=>e=.returned (.bool (smL vs b))/\Below w.heap.size w w':=by
 obtain⟨bv,bl,bi⟩:=b;simp only;have hb1:=zkc (zs w) (.cells #[.int .i64 bv,.int .i64 bl,.int .i64 bi] 27);have hk1:=heap_alloc_new w (.cells #[.int .i64 bv,.int .i64 bl,.int .i64 bi] 27);have qi:=zh (fun w' (hb:Below w.heap.size w w')=>zon vs ⟨bv,bl,bi⟩ A c w' (hrow.later hb) hl);have HS:=zh (show smL vs ⟨bv,bl,bi⟩=(decide (vs.length<=40)&&(decide ((cntR vs ⟨bv,bl,bi⟩).2=1)||(decide ((cntR vs ⟨bv,bl,bi⟩).2=0)&&decide ((cntR vs ⟨bv,bl,bi⟩).1<=150))))from rfl);obtain⟨⟨R1,R2⟩,hR⟩:=zX (cntR vs ⟨bv,bl,bi⟩);rw[hR]at qi HS;clear hrow hl hR;go_enter Tryz.func11,Tryz.ntmps11;go_upto_region 1 with fail;obtain⟨w1,hw1⟩:=zX (w.alloc (.cells #[.int .i64 bv,.int .i64 bl,.int .i64 bi] 27));rw[hw1]at hb1 hk1 ⊢;obtain⟨x0,x1,x2⟩:=zkk hk1;have HB1:=zh hb1;clear hw1 hb1 hk1;go_wp2_with fail;refine(qi.out _ HB1.out).mono ?_;rintro e w2 ⟨rfl,hb2⟩;have HB2:=zh (zkb HB1.out hb2);clear hb2 x0 x1 x2
 by_cases rG:vs.length<=40;rotate_left 1
 ·have h4:¬ (vs.length:Int)<=40:=by omega
  have HF:=zh (show smL vs ⟨bv,bl,bi⟩=false by rw[HS.out];simp[rG]);go_wp2_with fail;go_ret;exact⟨by rw[HF.out];rfl,HB2.out⟩
 have h4:(vs.length:Int)<=40:=by omega
 by_cases h1:R2=1
 ·have e1:(R2==1)=true:=by simpa using h1
  have HF:=zh (show smL vs ⟨bv,bl,bi⟩=true by rw[HS.out];simp[h1,rG]);go_wp2_with fail;go_ret;exact⟨by rw[HF.out];rfl,HB2.out⟩
 have e1:(R2==1)=false:=by simpa using h1
 by_cases h0:R2=0
 ·have e0:(R2==0)=true:=by simpa using h0
  have HF:=zh (show smL vs ⟨bv,bl,bi⟩=decide (R1<=150) by rw[HS.out];simp[h1,rG,h0]);go_wp2_with fail;go_ret;exact⟨by rw[HF.out];rfl,HB2.out⟩
 ·have e0:(R2==0)=false:=by simpa using h0
  have HF:=zh (show smL vs ⟨bv,bl,bi⟩=false by rw[HS.out];simp[h1,rG,h0]);go_wp2_with fail;go_ret;exact⟨by rw[HF.out];rfl,HB2.out⟩
section
variable {E:Prop} {Rl:Nat->ST->ST->Prop} {F F' k:Int} {o o':Out}
end
section
variable {S:ST} {l:List Int}
end
section
variable {ρ ρ':Nat->Nat->Prop} {f g:FR} {S S' S'':ST} {a b:Nat}
end
section
variable {S:ST}
end
section
variable {o:Out} {f:RS->Out} {r r':RS} {F:Int} {t:T}
end
section
variable {r r1 r':RS} {F:Int}
end
section
variable {vs:List VD} {s:SS} {r':RS} {e:List Nat}
end
def gE(vs:List VD)(t:T)(s:SS):Option SS:=if (asgE vs t s).1=0 then some (asgE vs t s).2 else none
def rnk(x:Int):Int:=if 0<x then 2*x-1 else -2*x
theorem zsC(x:Int):0<=rnk x:=by unfold rnk;split<;>omega
theorem zpd{r:Int}(h:0<=r):rnk (unrk r)=r:=by
 unfold unrk;rw[if_neg (by omega),Int.tmod_eq_emod_of_nonneg h,Int.tdiv_eq_ediv_of_nonneg h];unfold rnk
 split<;>split<;>omega
theorem zpa(x:Int):unrk (rnk x)=x:=by
 have h:=zsC x;unfold unrk;rw[if_neg (by omega),Int.tmod_eq_emod_of_nonneg h,Int.tdiv_eq_ediv_of_nonneg h];unfold rnk
 split<;>split<;>omega
theorem zsD{x y:Int}(h:rnk x=rnk y):x=y:=by rw[<-zpa x,h,zpa]
def lw(l:List Int):Int:=(l.map fun x=>1+rnk x).sum
def wt(ls:List (List Int)):Int:=(ls.map lw).sum
theorem zqy(x:Int)(l:List Int):lw (x::l)=1+rnk x+lw l:=by simp[lw]
theorem znP(l:List Int)(ls:List (List Int)):wt (l::ls)=lw l+wt ls:=by simp[wt]
def FitH(h:Int):List Bn->List (List Int)->Prop
 | [],[]=>True
 | (lo,hi)::bs,x::xs=>lo<=x.length/\x.length<=hi/\(∀e∈x,rnk e<h)/\FitH h bs xs
 | _,_=>False
theorem zpV{h:Int}:∀ {l:List Int},(∀e∈l,rnk e<h)->(l.length:Int)<=lw l/\lw l<=l.length*h
 | [],_=>by simp[lw]
 | x::l,hx=>by
  have h1:=zpV (l:=l) fun e he=>hx e (List.mem_cons_of_mem _ he);have h2:=hx x (List.mem_cons_self ..);have h3:=zsC x;rw[zqy,List.length_cons,Int.natCast_add,Int.add_mul];omega
theorem zqZ(b:Bn)(bs:List Bn):wlo (b::bs)=b.1+wlo bs:=by simp[wlo]
theorem zq0(h:Int)(b:Bn)(bs:List Bn):whi h (b::bs)=b.2*h+whi h bs:=by simp[whi]
theorem FitH.bnd{h:Int}(hh:0<h):∀ {bs:List Bn} {x:List (List Int)},FitH h bs x->(wlo bs:Int)<=wt x/\wt x<=whi h bs
 | [],[],_=>by simp[wlo,whi,wt]
 | (lo,hi)::bs,x::xs,hf=>by
  have h1:=FitH.bnd hh hf.2.2.2;have h2:=zpV hf.2.2.1;rw[zqZ,zq0,znP];have h3:(x.length:Int)*h<=hi*h:=Int.mul_le_mul_of_nonneg_right (by have:=hf.2.1;omega) (by omega);have:=hf.1;simp only[Int.natCast_add];omega
 | [],_::_,hf=>hf.elim
 | (_,_)::_,[],hf=>hf.elim
theorem zml{lo hi x:Int}:x∈ranE lo hi↔lo<=x/\x<=hi:=by
 refine⟨zkU,fun h=>List.mem_map.2 ⟨(x-lo).toNat,List.mem_range.2 (by omega),by omega⟩⟩
theorem znF{h:Int}{bs:List Bn}{rec:Int->List (List (List Int))}(hr:∀left:Int,(wlo bs:Int)<=left->left<=whi h bs->∀x,x∈rec left↔FitH h bs x/\wt x=left)(hh:0<h) :
  ∀(k:Nat) (left:Int),(k:Int)+wlo bs<=left->left<=k*h+whi h bs->∀x,x∈numE h bs rec k left↔∃l ls,x=l::ls/\l.length=k/\(∀e∈l,rnk e<h)/\FitH h bs ls/\lw l+wt ls=left
 | 0,left,h1,h2,x=>by
  rw[numE,List.mem_map]
  constructor
  ·rintro⟨y,hy,rfl⟩;obtain⟨a,b⟩:=(hr left (by omega) (by omega) y).1 hy;exact⟨[],y,rfl,rfl,by simp,a,by simp[lw,b]⟩
  ·rintro⟨l,ls,rfl,hl,-,hf,hw⟩;obtain rfl:=List.eq_nil_of_length_eq_zero hl;exact⟨ls,(hr left (by omega) (by omega) ls).2 ⟨hf,by simpa[lw]using hw⟩,rfl⟩
 | k+1,left,h1,h2,x=>by
  rw[numE,List.mem_flatMap];have hk:((k+1:Nat):Int)*h=k*h+h:=by rw[Int.natCast_add,Int.add_mul];omega
  rw[hk]at h2
  constructor
  ·rintro⟨r,hr1,hx⟩;obtain⟨y,hy,rfl⟩:=List.mem_map.1 hx;have hrr:=zkU hr1;obtain⟨l,ls,rfl,a,b,c,d⟩:=(znF hr hh k (left-1-r) (by omega) (by omega) y).1 hy;have gX:rnk (unrk r)=r:=zpd (by omega);refine⟨unrk r::l,ls,rfl,by simp[a],fun e he=>?_,c,by rw[zqy,gX];omega⟩;rcases List.mem_cons.1 he with rfl|he
   ·rw[gX];omega
   ·exact b e he
  ·rintro⟨l,ls,rfl,hl,hb,hf,hw⟩
   cases l with
   | nil=>simp at hl
   | cons e l =>
    have h3:=zpV (l:=l) fun z hz=>hb z (List.mem_cons_of_mem _ hz);have h4:=hf.bnd hh;have h5:=zsC e;have h6:=hb e (List.mem_cons_self ..);have hl':l.length=k:=by simpa using hl
    rw[zqy]at hw;rw[hl']at h3;refine⟨rnk e,zml.2 (by omega),List.mem_map.2 ⟨l::ls,(znF hr hh k _ (by omega) (by omega) _).2 ⟨l,ls,rfl,hl',fun z hz=>hb z (List.mem_cons_of_mem _ hz),hf,by omega⟩,?_⟩⟩;rw[zpa];rfl
theorem ztH{a h m:Int}(hh:0<h)(hm:0<=m)(h1:a<=m*h):(a+h-1).tdiv h<=m:=by
 by_cases ha:0<=a+h-1
 ·rw[Int.tdiv_eq_ediv_of_nonneg ha];have h2:a+h-1<(m+1)*h:=by rw[Int.add_mul];omega
  have:=Int.ediv_lt_of_lt_mul hh h2;omega
 ·have h2:(a+h-1) = -(-(a+h-1)):=by omega
  rw[h2,Int.neg_tdiv];have:=Int.tdiv_nonneg (show 0 <= -(a+h-1) by omega) (show 0<=h by omega);omega
theorem zmr{h:Int}(hh:0<h):∀(bs:List Bn) (left:Int),(wlo bs:Int)<=left->left<=whi h bs->∀x,x∈zkR h bs left↔FitH h bs x/\wt x=left
 | [],left,h1,h2,x=>by
  simp only[wlo,whi,List.map_nil,List.sum_nil]at h1 h2;have:left=0:=by simp at h1;omega
  subst this;rw[zkR,List.mem_singleton]
  constructor
  ·rintro rfl;exact⟨trivial,by simp[wt]⟩
  ·rintro⟨a,b⟩
   cases x with
   | nil=>rfl
   | cons y ys=>exact a.elim
 | (lo,hi)::bs,left,h1,h2,x=>by
  rw[zkR,List.mem_flatMap];rw[zqZ]at h1;rw[zq0]at h2;simp only[Int.natCast_add]at h1
  constructor
  ·rintro⟨m,hm,hx⟩;have hm2:=zkU hm;have hc:=zpK (a:=left-whi h bs) hh (by omega:0<=m) (by omega);obtain⟨l,ls,rfl,a,b,c,d⟩:=(znF (zmr hh bs) hh m.toNat left (by omega) (by rw[show((m.toNat:Nat):Int)=m by omega];omega) x).1 hx;exact⟨⟨by omega,by omega,b,c⟩,by rw[znP];exact d⟩
  ·rintro⟨hf,hw⟩
   cases x with
   | nil=>exact hf.elim
   | cons l ls =>
    have h3:=zpV hf.2.2.1;have h4:=FitH.bnd hh hf.2.2.2;have h5:=hf.1;have h6:=hf.2.1;rw[znP]at hw;have hc:=ztH (a:=left-whi h bs) (m:=(l.length:Int)) hh (by omega) (by omega);refine⟨(l.length:Int),zml.2 (by omega),(znF (zmr hh bs) hh _ left (by simp;omega) (by simp;omega) _).2 ⟨l,ls,rfl,by simp,hf.2.2.1,hf.2.2.2,hw⟩⟩
theorem zvO{h:Int}(hh:0<h){bs:List Bn}(x:List (List Int)):x∈allB h bs↔FitH h bs x:=by
 rw[allB,List.mem_flatMap]
 constructor
 ·rintro⟨w,hw,hx⟩;have:=zkU hw;exact((zmr hh bs w this.1 this.2 x).1 hx).1
 ·intro hf;have hb:=hf.bnd hh;exact⟨wt x,zml.2 hb,(zmr hh bs _ hb.1 hb.2 x).2 ⟨hf,rfl⟩⟩
theorem FitH.mono{h h':Int}(hh:h<=h'):∀ {bs cs:List Bn} {x:List (List Int)},bs.length=cs.length->(∀i (h1:i<bs.length) (h2:i<cs.length),cs[i].1<=bs[i].1/\bs[i].2<=cs[i].2)->FitH h bs x->FitH h' cs x
 | [],[],[],_,_,_=>trivial
 | b::bs,c::cs,x::xs,hl,hc,hf=>by
  obtain⟨b1,b2⟩:=b;obtain⟨c1,c2⟩:=c;have h0:=hc 0 (by simp) (by simp);simp only[List.getElem_cons_zero]at h0;refine⟨Nat.le_trans h0.1 hf.1,Nat.le_trans hf.2.1 h0.2,fun e he=>Int.lt_of_lt_of_le (hf.2.2.1 e he) hh,FitH.mono hh (by simpa using hl) (fun i h1 h2=>?_) hf.2.2.2⟩;have:=hc (i+1) (by simpa using h1) (by simpa using h2);simpa using this
 | [],_::_,_,hl,_,_=>by simp at hl
 | _::_,[],_,hl,_,_=>by simp at hl
 | [],[],_::_,_,_,hf=>hf.elim
 | (_,_)::_,_::_,[],_,_,hf=>hf.elim
def lexR:List Int->List Int->Prop
 | x::a,y::b=>rnk x<rnk y\/(x=y/\lexR a b)
 | _,_=>False
def ltL(a b:List Int):Prop:=a.length<b.length\/(a.length=b.length/\lexR a b)
def ltLL:List (List Int)->List (List Int)->Prop
 | a::p,b::q=>ltL a b\/(a=b/\ltLL p q)
 | _,_=>False
def ltB(a b:List (List Int)):Prop:=wt a<wt b\/(wt a=wt b/\ltLL a b)
theorem zoK:∀ {a b:List Int},lexR a b->¬ lexR b a
 | x::a,y::b,h,h'=>by
  rcases h with h|⟨rfl,h⟩
  ·rcases h' with h'|⟨rfl,-⟩<;>omega
  ·rcases h' with h'|⟨-,h'⟩
   ·omega
   ·exact zoK h h'
 | [],_,h,_=>h.elim
 | _::_,[],h,_=>h.elim
theorem zn2{a b:List Int}(h:ltL a b):¬ ltL b a:=fun h'=>by
 rcases h with h|⟨e,h⟩
 ·rcases h' with h'|⟨e',-⟩<;>omega
 ·rcases h' with h'|⟨-,h'⟩
  ·omega
  ·exact zoK h h'
theorem zoH:∀ {a b:List (List Int)},ltLL a b->¬ ltLL b a
 | x::a,y::b,h,h'=>by
  rcases h with h|⟨rfl,h⟩
  ·rcases h' with h'|⟨rfl,-⟩
   ·exact zn2 h h'
   ·exact zn2 h h
  ·rcases h' with h'|⟨-,h'⟩
   ·exact zn2 h' h'
   ·exact zoH h h'
 | [],_,h,_=>h.elim
 | _::_,[],h,_=>h.elim
theorem zsW{a b:List (List Int)}(h:ltB a b):¬ ltB b a:=fun h'=>by
 rcases h with h|⟨e,h⟩
 ·rcases h' with h'|⟨e',-⟩<;>omega
 ·rcases h' with h'|⟨-,h'⟩
  ·omega
  ·exact zoH h h'
theorem zmJ(lo hi:Int):(ranE lo hi).Pairwise (· < ·):=by
 unfold ranE;rw[List.pairwise_map];exact List.Pairwise.imp (fun {a b} (h:a<b)=>by omega) List.pairwise_lt_range
theorem zlk{h:Int}{bs:List Bn}{rec:Int->List (List (List Int))}:∀(k:Nat) (left:Int),∀x∈numE h bs rec k left,∃l ls,x=l::ls/\l.length=k
 | 0,left,x,hx=>by
  obtain⟨y,hy,rfl⟩:=List.mem_map.1 hx;exact⟨[],y,rfl,rfl⟩
 | k+1,left,x,hx=>by
  rw[numE]at hx;obtain⟨r,hr1,hx⟩:=List.mem_flatMap.1 hx;obtain⟨y,hy,rfl⟩:=List.mem_map.1 hx;obtain⟨l,ls,rfl,h1⟩:=zlk k _ y hy;exact⟨unrk r::l,ls,rfl,by simp[h1]⟩
theorem zn1{h:Int}{bs:List Bn}{rec:Int->List (List (List Int))}(hr:∀left,(rec left).Pairwise ltLL):∀(k:Nat) (left:Int),(numE h bs rec k left).Pairwise ltLL
 | 0,left=>by
  rw[numE,List.pairwise_map];exact(hr left).imp fun {a b} h=>Or.inr ⟨rfl,h⟩
 | k+1,left=>by
  rw[numE,List.pairwise_flatMap];refine⟨fun r hr1=>?_,List.Pairwise.imp_of_mem (fun {r s} hr1 hs1 hlt x hx y hy=>?_) (zmJ _ _)⟩
  ·rw[List.pairwise_map];refine List.Pairwise.imp_of_mem (fun {a b} ha hb hab=>?_) (zn1 hr k _);obtain⟨l,ls,rfl,e1⟩:=zlk k _ a ha;obtain⟨m,ms,rfl,e2⟩:=zlk k _ b hb;rcases hab with hab|⟨rfl,hab⟩
   ·rcases hab with hab|⟨e,hab⟩
    ·omega
    ·exact Or.inl (Or.inr ⟨by simp[e],Or.inr ⟨rfl,hab⟩⟩)
   ·exact Or.inr ⟨rfl,hab⟩
  ·obtain⟨a,ha,rfl⟩:=List.mem_map.1 hx;obtain⟨b,hb,rfl⟩:=List.mem_map.1 hy;obtain⟨l,ls,rfl,e1⟩:=zlk k _ a ha;obtain⟨m,ms,rfl,e2⟩:=zlk k _ b hb;have h1:=zkU hr1;have h2:=zkU hs1;exact Or.inl (Or.inr ⟨by simp[e1,e2],Or.inl (by rw[zpd (by omega),zpd (by omega)];exact hlt)⟩)
theorem znv{h:Int}:∀(bs:List Bn) (left:Int),(zkR h bs left).Pairwise ltLL
 | [],left=>by rw[zkR];exact List.pairwise_singleton _ _
 | (lo,hi)::bs,left=>by
  rw[zkR,List.pairwise_flatMap];refine⟨fun m _=>zn1 (znv bs) _ _,List.Pairwise.imp_of_mem (fun {r s} hr1 hs1 hlt x hx y hy=>?_) (zmJ _ _)⟩;obtain⟨l,ls,rfl,e1⟩:=zlk _ _ x hx;obtain⟨m,ms,rfl,e2⟩:=zlk _ _ y hy;have h1:=zkU hr1;have h2:=zkU hs1;exact Or.inl (Or.inl (by omega))
theorem zqO{h:Int}(hh:0<h)(bs:List Bn):(allB h bs).Pairwise ltB:=by
 rw[allB,List.pairwise_flatMap];have hw:∀w∈ranE (wlo bs) (whi h bs),∀x∈zkR h bs w,wt x=w:=fun w hw x hx=>by
  have:=zkU hw;exact((zmr hh bs w this.1 this.2 x).1 hx).2
 refine⟨fun w hw1=>List.Pairwise.imp_of_mem (fun {a b} ha hb hab=>.inr ⟨by rw[hw w hw1 a ha,hw w hw1 b hb],hab⟩) (znv bs w),List.Pairwise.imp_of_mem (fun {r s} hr1 hs1 hlt x hx y hy=>.inl (by rw[hw r hr1 x hx,hw s hs1 y hy];exact hlt)) (zmJ _ _)⟩
end
end Go.Proofs.YtghbhbdnkjjnnaaGreat
