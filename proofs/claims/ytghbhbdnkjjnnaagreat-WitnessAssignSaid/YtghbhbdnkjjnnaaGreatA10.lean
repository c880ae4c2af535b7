/-
  Texts of the proof, put together without their remarks: En7, En8, Wsm, Wlp, Wfa, Wlo, Wco, Waw, Wbs, Lwn, Apq, Rst, Wst, Wsa, Lwc, Ig, Eqv, Wfp, Pfi, Wpr, Trp, Wap, Trc, Apn.
-/
import Derived.Test.YtghbhbdnkjjnnaaGreatA9
import Derived.Maps.OwnSet
import Derived.StringKeys
import Derived.Maps.OwnIn
set_option linter.unusedSimpArgs false
set_option linter.unusedVariables false
set_option maxHeartbeats 8000000
set_option maxRecDepth 100000
namespace Go.Proofs.YtghbhbdnkjjnnaaGreat
section
open Go Go.RowKit
section
variable {Z:DK} {n:Nat} {W W':World} {p:List (List Int)} {m f m' f':Nat->Nat}
theorem RowQ.congr(h:RowQ Z n W p m' f')(he:∀j,j<p.length->m' j=m j/\f' j=f j):RowQ Z n W p m f:=by
 obtain⟨us,h1,h2,h3⟩:=h.row;refine⟨⟨us,h1,h2,fun j hj=>by rw[h3 j hj,(he j hj).1,(he j hj).2]⟩,fun j hj=>?_,fun j hj=>by rw[<-(he j hj).2];exact h.ne j hj,fun i j hi hj e=>h.inj i j hi hj (by rw[(he i hi).2,(he j hj).2];exact e),h.fits⟩;have:=h.el j hj;rwa[(he j hj).1,(he j hj).2]at this
theorem RowQ.new{M:Nat}{W1 W2:World}(h:RowQ Z n W p m f)(hp:p.length<n)(h1:W1=W.alloc (.cells (madeCells #[.int .i64 0] M) 3))(hc:Chg (fun b=>b=Z.rb) W1 W2)
  (hk:∀us,W1.heap[Z.rb]?=some (.cells us 32 (0,0))->W2.heap[Z.rb]?=some (.cells (us.setIfInBounds p.length (.slice (some ⟨W.heap.size,0,none⟩) M M)) 32 (0,0))) :
  RowQ Z n W2 (p++[[]]) (fun j=>if j=p.length then M else m j) (fun j=>if j=p.length then W.heap.size else f j):=by
 have hb:Below W.heap.size W W1:=by rw[h1];exact zkc zr _
 have hn:W1.heap[W.heap.size]?=some (.cells (madeCells #[.int .i64 0] M) 3 (0,0)):=by rw[h1];exact heap_alloc_new W _
 obtain⟨us,u1,u2,u3⟩:=h.row;have hl:=h.lt;have hlen:(p++[[]]).length=p.length+1:=by simp
 refine⟨⟨_,hk us (zka u1 hb),by simpa using u2,fun j hj=>?_⟩,fun j hj=>?_,fun j hj=>?_,fun i j hi hj e=>?_,fun x hx e he=>?_⟩
 ·by_cases e:j=p.length
  ·subst e;simp only[if_true];rw[Array.getElem?_setIfInBounds_self_of_lt (by omega)]
  ·simp only[e,if_false];rw[Array.getElem?_setIfInBounds_ne (by omega)];exact u3 j (by omega)
 ·rcases zps hj with⟨hjp,_,e⟩|⟨rfl,e⟩
  ·have hne:j≠p.length:=by omega
   simp only[e,hne,if_false];obtain⟨vs,v1,v2⟩:=h.el j hjp;exact⟨vs,hc.keep (zka v1 hb) (h.ne j hjp),v2⟩
  ·simp only[e,if_true];exact⟨_,hc.keep hn fun e=>by have e:W.heap.size=Z.rb:=e;omega,by rw[size_madeCells],Nat.zero_le _,fun i hi=>absurd hi (Nat.not_lt_zero i)⟩
 ·by_cases e:j=p.length
  ·simp only[e,if_true];omega
  ·simp only[e,if_false];exact h.ne j (by omega)
 ·split at e<;>split at e
  ·omega
  ·have:=hl.2 j (by omega);omega
  ·have:=hl.2 i (by omega);omega
  ·exact h.inj i j (by omega) (by omega) e
 ·rcases List.mem_append.1 hx with hx|hx
  ·exact h.fits x hx e he
  ·obtain rfl:=List.mem_singleton.1 hx;cases he
end
theorem zsU{J Jx:List SS->(Nat->Prop)->World->Prop}{Z:DK}{bs rs:List Bn}{h nf:Nat}{B:Nat->Prop}{tot:List SS}{p:List (List Int)}{m f:Nat->Nat}{pre:List SS}{C:Nat->Prop}{W:World}{left:Int}{n c l0 l1 w0 T:Nat}{w1 Q lo hi':Int}{a:Addr}{G:Int->List SS}
  (x0:W.cell? ⟨Z.lb,0,none⟩=some (.slice (some ⟨Z.rb,0,none⟩) n n))(x2:W.cell? ⟨Z.hb,0,none⟩=some (.int .i64 (h:Int)))(x3:W.cell? ⟨Z.tb,0,none⟩=some (.slice (some ⟨Z.tr,0,none⟩) (n+1) Z.tc))(x1:W.cell? ⟨Z.bb,0,none⟩=some (.slice (some a) n Z.c))
  (x4:W.cell? ⟨Z.tr,(c+1)*2,none⟩=some (.int .i64 (w0:Int)))(x5:W.cell? ⟨Z.tr,(c+1)*2+1,none⟩=some (.int .i64 w1))(x6:W.cell? (a.add (c*2))=some (.int .i64 (l0:Int)))(x7:W.cell? ⟨(a.add (c*2)).block,(a.add (c*2)).off+1,none⟩=some (.int .i64 (l1:Int)))
  (hwb:w0<=1000000/\0<=w1/\w1<=10000000000)(hbb:l0<=1000/\l1<=1000)(hbn:n<=100)(uL:h<=10000)(kX:1<=h)(hcn:c<n)(hleft:0<=left/\left<=100000000000)
  (vW:(left-w1+(h:Int)-1).tdiv (h:Int)=Q)(vU : -100000010000<=Q/\Q<=100000010000)(hlo:max (l0:Int) Q=lo)(hhi:min (l1:Int) (left-(w0:Int))=hi')(hlo0:0<=lo)(hlo1:lo<=100000010000)(hhi1:hi'<=1000)(hhi2 : -100000000000<=hi')(hT:(hi'-lo+1).toNat=T)
  (HJ:Hid (JC J Jx nf Z.l tot))(nz:Hid (J pre C W))(HD:Hid (DW Z bs h B W))(HQ:Hid (RowQ Z bs.length W p m f))(HS:Hid (SepQ Z B p.length f C))(dU:Hid ((pre++(List.range T).flatMap fun(j:Nat)=>G (lo+(j:Int))) <+: tot))(HN:Hid (∀k,NumC J Jx Z bs h B tot rs k))
  (HM:Hid (∀j (hj:j<p.length),m j=p[j].length))(wX:Hid (∀j,j<p.length->m j<=1000))(lV:Hid (bs.drop (p.length+1)=rs))(HG:Hid (G=fun r=>(numE h rs (zkW h rs) r.toNat left).map fun z=>stOf (p++hdA [] z)))(lH:Hid (bs.length=n/\p.length=c/\p.length+1<=bs.length)) :
  Calls Tryz.prog 112 (#[.int .i64 (c:Int),.int .i64 left]++Z.cap1) W (zr1 J Jx Z n (fun b=>b=Z.rb) pre ((List.range T).flatMap fun(j:Nat)=>G (lo+(j:Int))) p m f C W):=by
 have hp1:(c:Int)<(n:Int):=by omega
 have hp2:(0:Int)<=(c:Int)+1:=by omega
 have hp3:(c:Int)+1<(n:Int)+1:=by omega
 have hwc:IntKind.i64.wrap ((c:Int)+1)=(c:Int)+1:=IntWalk.i64_in _ (by omega);have hne:((c:Int)==(n:Int))=false:=by simp;omega
 have hh0:¬ (h:Int)=0:=by omega
 have e3:IntKind.i64.wrap (left-w1)=left-w1:=IntWalk.i64_in _ (by omega);have e4:IntKind.i64.wrap (left-w1+(h:Int))=left-w1+(h:Int):=IntWalk.i64_in _ (by omega);have e5:IntKind.i64.wrap (left-w1+(h:Int)-1)=left-w1+(h:Int)-1:=IntWalk.i64_in _ (by omega);have e6:IntKind.i64.wrap Q=Q:=IntWalk.i64_in _ (by omega);have qN:=zh (And.intro hwb (And.intro hbb (And.intro hlo0 (And.intro hlo1 (And.intro hhi1 (And.intro hhi2 (And.intro vU (And.intro hleft (And.intro hbn (And.intro uL (And.intro kX hcn)))))))))));have HHI:=zh hhi;have HTT:=zh hT;clear hwb hbb hlo0 hlo1 hhi1 hhi2 vU hleft hbn uL kX hcn hhi hT;go_enter Tryz.func112,Tryz.ntmps112;go_upto_region 4 with fail
 go_region
 have hbd:=(zs W).drew;obtain⟨wA,vE⟩:=zX (W.drew);rw[vE]at hbd ⊢
 replace x0:=zb hbd x0
 replace x1:=zb hbd x1
 replace x3:=zb hbd x3
 replace x4:=zb hbd x4
 replace x7:=zb hbd x7
 clear vE x2 x5 x6 e3 e4 e5 e6 hlo vW;have hhi:=HHI.out;have e4:IntKind.i64.wrap (left-(w0:Int))=left-(w0:Int):=IntWalk.i64_in _ (by have:=qN.out;omega);go_upto_region 5 with fail
 go_region
 have jQ:=hbd.trans (Below.refl W.heap.size wA |>.mono zl |>.drew);obtain⟨wB,vD⟩:=zX (wA.drew);rw[vD]at jQ ⊢;have jl:=zh jQ;clear vD x0 x1 x3 x4 x7 e4 hbd jQ hwc hp2 hp3;clear hhi;obtain⟨hwb,hbb,hlo0,hlo1,hhi1,hhi2,vU,hleft,hbn,uL,kX,hcn⟩:=qN.out;have hT:=HTT.out;have e1:IntKind.i64.wrap (hi'-lo)=hi'-lo:=IntWalk.i64_in _ (by omega);have e2:IntKind.i64.wrap (hi'-lo+1)=hi'-lo+1:=IntWalk.i64_in _ (by omega);go_wp2_with fail
 go_loopw [72] (fun iv wr=>∃(j:Nat) (C':Nat->Prop),j<=T/\iv=.int .i64 j/\Hid (J (pre++(List.range j).flatMap fun(i:Nat)=>G (lo+(i:Int))) C' wr/\(∀b,C' b->C b\/W.heap.size<=b)/\Chg (fun b=>C b\/b=Z.rb) W wr/\RowQ Z bs.length wr p m f)) (fun iv _=>T-(intOf iv).toNat)
 case atStart=>exact⟨0,C,Nat.zero_le _,rfl,zh ⟨by rw[List.range_zero,List.flatMap_nil,List.append_nil];exact HJ.out.keep _ _ _ _ nz.out (Chg.of_below jl.out),fun b h=>.inl h,Chg.of_below jl.out,HQ.out.chg (Chg.of_below (C:=fun _=>False) jl.out) id fun _ _=>id⟩⟩
 case round =>
  obtain⟨j,C',hjT,rfl,HI⟩:=hrel;by_cases hlt:j<T
  ·obtain⟨i1,i2,i3,i4⟩:=HI.out;have hDn:∀b,B b->¬ (C b\/b=Z.rb):=fun b hb h=>by
    rcases h with h|rfl
    ·exact HS.out.b _ hb h
    ·exact HS.out.br hb
   have hD2:=HD.out.chg i3 hDn;have hS2:=SepQ.grow HS.out HD.out HQ.out i2;obtain⟨us,hu,iI,hur⟩:=i4.row;obtain⟨g1,g2,g4⟩:=lH.out;have x0:wr.cell? ⟨Z.lb,0,none⟩=some (.slice (some ⟨Z.rb,0,none⟩) n n):=by rw[<-g1];exact zc hD2.lists rfl
   obtain⟨M,hM⟩:∃M:Nat,lo+(j:Int)=(M:Int):=⟨(lo+(j:Int)).toNat,by omega⟩
   have hM1:M<=1000:=by omega
   have hwr:IntKind.i64.wrap (M:Int)=(M:Int):=IntWalk.i64_in _ (by omega);have hmk:=bMkI M (by omega) wr.drew;have hj1:(j:Int)<hi'-lo+1:=by omega
   have aF:Below wr.heap.size wr (wr.drew.alloc (.cells (madeCells #[.int .i64 0] M) 3)):=zkc (zs wr).drew _;obtain⟨w9,aP⟩:=zX (wr.drew.alloc (.cells (madeCells #[.int .i64 0] M) 3));rw[aP]at aF hmk;have qo:=zka hu aF;obtain⟨g,hg⟩:=zX (wr.drew.heap.size);rw[hg]at hmk;obtain⟨w5,eF,dH,lN⟩:=setU (o:=c) (.slice (some ⟨g,0,none⟩) M M) qo;obtain⟨z,hz⟩:∃z,us[c]?=some z:=⟨_,Array.getElem?_eq_getElem (by omega)⟩
   have x2:w9.cell? ⟨Z.rb,c,none⟩=some z:=zc qo hz;have cf:∀o,w9.frozen? ⟨Z.rb,o,none⟩=false:=fun o=>zf qo;have hD5:=(hD2.chg (Chg.of_below aF (C:=fun _=>False)) fun _ _=>id).chg dH fun b hb (e:b=Z.rb)=>by rw[e]at hb;exact HS.out.br hb
   have uN:=RowQ.new (W:=wr.drew) (M:=M) (W2:=w5) (i4.chg (Chg.of_below (zs wr).drew (C:=fun _=>False)) id fun _ _=>id) (by omega) aP.symm dH (fun yl h'=>by
    rw[qo]at h';injection h' with h';injection h' with h';subst h';rw[hg,g2];exact lN)
   rw[hg]at uN;have wu:=HJ.out.keep _ _ _ _ i1 (((Chg.of_below aF).trans (dH.mono fun b _ (e:b=Z.rb) hb=>by rw[e]at hb;exact hS2.r hb):Chg (fun b=>¬ C' b) wr w5));have hgw:g=wr.heap.size:=hg.symm;have nX:∀b,C' b->b<g:=fun b hb=>by rw[hgw];exact HJ.out.lt _ _ _ i1 b hb
   have hBg:∀b,B b->b<g:=fun b hb=>by rw[hgw];exact hD2.lt b hb
   have hS5:SepQ Z B (p.length+1) (fun j=>if j=p.length then g else f j) C':=⟨hS2.b,hS2.r,fun j hj=>by
    by_cases e:j=p.length
    ·simp only[e,if_true];intro h;have:=nX _ h;omega
    ·simp only[e,if_false];exact hS2.fc j (by omega),hS2.br,fun j hj=>by
    by_cases e:j=p.length
    ·simp only[e,if_true];intro h;have:=hBg _ h;omega
    ·simp only[e,if_false];exact hS2.bf j (by omega)⟩
   have hin:(pre++(List.range j).flatMap fun(i:Nat)=>G (lo+(i:Int)))++G M <+: tot:=by
    refine List.IsPrefix.trans ?_ dU.out;rw[List.append_assoc,<-hM];exact(List.prefix_append_right_inj pre).2 (zn4 (F:=G) (g:=fun(i:Nat)=>lo+(i:Int)) hlt)
   have sI:G M=(numE h rs (zkW h rs) M left).map fun z=>stOf (p++hdA [] z):=by rw[HG.out];simp
   have hcall:=HN.out M p [] _ _ _ C' w5 left lV.out g4 wu hD5 uN hS5 (fun j hj=>by simp only[Nat.ne_of_lt hj,if_false];exact HM.out j hj) (fun j hj=>by
    by_cases e:j=p.length
    ·simp only[e,if_true];omega
    ·simp only[e,if_false];exact wX.out j (by omega)) (by simp) hleft (by rw[<-sI];exact hin)
   rw[<-sI]at hcall;simp only[if_true,List.length_nil]at hcall;rw[g2]at hcall;have nE:=zh hcall;have y0:w5.cell? ⟨Z.nb,0,none⟩=some (.func (.func 113) #[] Z.cap2):=zc hD5.num rfl;have y1:w5.cell? ⟨Z.lb,0,none⟩=some (.slice (some ⟨Z.rb,0,none⟩) n n):=by rw[<-g1];exact zc hD5.lists rfl
   have uB:IntKind.i64.wrap ((j:Int)+1)=(j:Int)+1:=IntWalk.i64_in _ (by omega);have hstep:(List.range (j+1)).flatMap (fun(i:Nat)=>G (lo+(i:Int)))=((List.range j).flatMap fun(i:Nat)=>G (lo+(i:Int)))++G M:=by rw[List.range_succ,List.flatMap_append,<-hM];simp
   have HST:=zh hstep;have bH:=zh (show Chg (fun b=>C b\/b=Z.rb) W w5/\W.heap.size<=w5.heap.size/\W.heap.size<=g from⟨(i3.trans2 (Chg.of_below aF (C:=fun _=>False)) fun b _ h=>h.elim).trans2 dH fun b _ e=>.inr e,Nat.le_trans i3.size (Nat.le_trans aF.size dH.size),by rw[hgw];exact i3.size⟩);have z9:w9.cell? ⟨Z.lb,0,none⟩=some (.slice (some ⟨Z.rb,0,none⟩) n n):=zb aF x0;have hj0:(0:Int)<=(c:Int):=by omega
   clear i1 i2 i3 i4 hDn hD2 hS2 hu iI hur g1 g2 g4 hz qo aF dH lN hD5 uN wu hgw nX hBg hS5 hin sI hcall hstep aP hg;go_upto_region 9 with fail;have hS0:zW (fun w':World=>zv w' Z.lb 0 (.slice (some ⟨Z.rb,0,none⟩) n n)) zU wr.drew:=⟨x0,trivial⟩
   refine wp_region_noPanic ?_;refine zG hS0 7 ?_;refine zT 0 hS0 ?_;refine zT 1 hS0 ?_;refine zT 2 hS0 ?_;refine zT 3 hS0 ?_;refine zT 4 hS0 ?_;refine zo 5 fun K hK=>?_;(try simp only[zA,zB,zC]);go_simp;refine hK.out _ _ ⟨z9,trivial⟩ ?_;clear hK K hS0 hmk;(try simp only[zQ]);refine zo 6 fun K hK=>?_;(try simp only[zA,zB,zC]);go_simp;refine hK.out _ _ ⟨z9,trivial⟩ ?_;clear hK K;(try simp only[zQ]);refine zp 7 fun K hK=>?_;(try simp only[zA,zB,zC]);go_simp;refine hK.out _ _ y1 ?_;clear hK K;(try simp only[zQ]);refine zd ?_;refine NoPanic.normal ?_;clear x0 x2 cf eF z9 y1;go_wp2_with fail;refine nE.out.mono ?_;rintro e w6 (⟨rfl,C6,j6,c6,h6,q6⟩|⟨rfl,pre6,C6,j6,h6⟩)
   ·have dL:=zh (show J (pre++(List.range (j+1)).flatMap fun(i:Nat)=>G (lo+(i:Int))) C6 w6/\(∀b,C6 b->C b\/W.heap.size<=b)/\Chg (fun b=>C b\/b=Z.rb) W w6/\RowQ Z bs.length w6 p m f from
     ⟨by rw[HST.out,<-List.append_assoc];exact j6,fun b hb=>(c6 b hb).elim (HI.out.2.1 b) fun h=>.inr (Nat.le_trans bH.out.2.1 h),bH.out.1.trans2 h6 fun b hb h=>by
      rcases h with h|h|h
      ·exact(HI.out.2.1 b h).elim .inl fun h=>by omega
      ·exact .inr h
      ·have:=bH.out.2.2;have h:b=g:=h;omega,q6.dropL.congr fun j hj=>by
       have hj':j≠c:=by have:=lH.out.2.1;omega
       exact⟨if_neg hj',if_neg hj'⟩⟩)
    clear j6 c6 h6 q6 y0;go_wp2_with fail
    go_roundw
    case rel=>exact⟨j+1,C6,by omega,by go_num,dL⟩
    case measure=>simp[intOf];omega
   ·have dL:=zh (show Jx pre6 C6 w6/\Chg (fun b=>C b\/b=Z.rb) W w6 from⟨j6,bH.out.1.trans2 h6 fun b hb h=>by
      rcases h with h|h|h
      ·exact(HI.out.2.1 b h).elim .inl fun h=>by omega
      ·exact .inr h
      ·have:=bH.out.2.2;have h:b=g:=h;omega⟩)
    clear j6 h6 y0;go_wp2_with fail;go_ret;exact .inr ⟨rfl,pre6,C6,dL.out.1,dL.out.2⟩
  ·obtain rfl:j=T:=by omega
   have hj1:¬ (j:Int)<hi'-lo+1:=by omega
   go_wp2_with fail;go_ret;obtain⟨i1,i2,i3,i4⟩:=HI.out;have:=lH.out.1;rw[this]at i4;exact .inl ⟨rfl,C',i1,i2,i3,i4⟩
theorem zsV{J Jx:List SS->(Nat->Prop)->World->Prop}{Z:DK}{bs rs:List Bn}{b0:Bn}{h nf:Nat}{B:Nat->Prop}{tot:List SS}(hj:JC J Jx nf Z.l tot)(hb:DB bs h)(hN:∀k,NumC J Jx Z bs h B tot rs k):zvW J Jx Z bs h B tot (b0::rs):=by
 intro p m f pre C W left hrs hpl hJ hD hQ hS hm hm2 hleft hpre;have mi:p.length<bs.length:=by have:=congrArg List.length hrs;rw[List.length_drop]at this;simp at this;omega
 have oJ:bs.drop (p.length+1)=rs:=by rw[<-List.drop_drop,hrs];rfl
 have hb0:bs[p.length]=b0:=by have:=List.drop_eq_getElem_cons mi;rw[hrs]at this;injection this with h1 _;exact h1.symm
 have hwb:=zsi (bs:=rs) (h:=h) (by rw[<-oJ];exact zru hb.b _) (by rw[<-oJ,List.length_drop];have:=hb.n;omega) hb.hm;have hbb:=hb.b b0 (by rw[<-hb0];exact List.getElem_mem mi);have x0:W.cell? ⟨Z.lb,0,none⟩=some (.slice (some ⟨Z.rb,0,none⟩) bs.length bs.length):=zc hD.lists rfl;have x2:W.cell? ⟨Z.hb,0,none⟩=some (.int .i64 (h:Int)):=zc hD.hv rfl;have x3:W.cell? ⟨Z.tb,0,none⟩=some (.slice (some ⟨Z.tr,0,none⟩) (bs.length+1) Z.tc):=zc hD.rest rfl;have x1:W.cell? ⟨Z.bb,0,none⟩=some (.slice Z.A bs.length Z.c):=zc hD.ls rfl;obtain⟨x4,x5⟩:=hD.rst (p.length+1) mi;obtain⟨a,hA,-,x6,x7⟩:=hD.row p.length mi;rw[hA]at x1;rw[hb0]at x6 x7;rw[oJ]at x4 x5;obtain⟨l0,l1⟩:=b0;simp only at hbb x6 x7;have hbn:=hb.n;have uL:=hb.hm;have kX:=hb.h1;obtain⟨n,hn⟩:=zX (bs.length);obtain⟨c,hc⟩:=zX (p.length);obtain⟨w0,hw0⟩:=zX (wlo rs);obtain⟨w1,hw1⟩:=zX (whi h rs);rw[hw0,hw1]at hwb
 rw[hn]at x0 x1 x3 hbn;rw[hc,hw0]at x4;rw[hc,hw1]at x5;rw[hc]at x6 x7;have hcn:c<n:=by omega
 obtain⟨Q,vW⟩:=zX ((left-w1+(h:Int)-1).tdiv (h:Int));have vU : -100000010000<=Q/\Q<=100000010000:=by
  have h1:=Int.natAbs_tdiv_le_natAbs (left-w1+(h:Int)-1) (h:Int);rw[vW]at h1;omega
 obtain⟨lo,hlo⟩:=zX (max (l0:Int) Q);obtain⟨hi',hhi⟩:=zX (min (l1:Int) (left-(w0:Int)));have hlo0:0<=lo:=by omega
 have hlo1:lo<=100000010000:=by omega
 have hhi1:hi'<=1000:=by omega
 have hhi2 : -100000000000<=hi':=by omega
 obtain⟨G,hG⟩:∃G:Int->List SS,G=fun r=>(numE h rs (zkW h rs) r.toNat left).map fun z=>stOf (p++hdA [] z):=⟨_,rfl⟩
 have hX:(zkW h ((l0,l1)::rs) left).map (fun ls=>stOf (p++ls))=(List.range (hi'-lo+1).toNat).flatMap fun(j:Nat)=>G (lo+(j:Int)):=by
  have e:∀z:List (List Int),hdA [] z=z:=fun z=>by cases z<;>rfl
  rw[<-znR,zkW,List.map_flatMap,hw0,hw1,vW,hlo,hhi,hG];simp only[e]
 rw[hX]at hpre ⊢;obtain⟨T,hT⟩:∃T:Nat,(hi'-lo+1).toNat=T:=⟨_,rfl⟩
 rw[hT]at hpre ⊢;have HJ:=zh hj;have nz:=zh hJ;have HD:=zh hD;have HQ:=zh hQ;have HS:=zh hS;have dU:=zh hpre;have HN:=zh hN;have HM:=zh hm;have wX:=zh hm2;have lV:=zh oJ;have HG:=zh hG;have lH:=zh (show bs.length=n/\p.length=c/\p.length+1<=bs.length from⟨hn,hc,mi⟩);rw[hn,hc];exact zsU x0 x2 x3 x1 x4 x5 x6 x7 hwb hbb hbn uL kX hcn hleft vW vU hlo hhi hlo0 hlo1 hhi1 hhi2 hT HJ nz HD HQ HS dU HN HM wX lV HG lH
theorem zq8{J Jx:List SS->(Nat->Prop)->World->Prop}{Z:DK}{bs:List Bn}{h nf:Nat}{B:Nat->Prop}{tot:List SS}(hj:JC J Jx nf Z.l tot)(hb:DB bs h)(hl:∀W,DW Z bs h B W->Z.l<W.heap.size):∀rs,zvW J Jx Z bs h B tot rs
 | []=>zuU hj hb hl
 | b::rs=>zsV hj hb fun k=>by
  induction k with
  | zero=>exact zuK hb (zq8 hj hb hl rs)
  | succ k ih=>exact zuL hj hb ih
theorem zwD:(Tryz.prog.info? 32).map (fun i=>(i.zero,i.size,i.bytes))=some (some (.slice none 0 0),1,24):=by kernel_rfl
theorem zyN(n:Nat)(hn:n<=4096)(w:World):(Instr.makeSlice 31 (.int .i64 (n:Int)) (.int .i64 (n:Int))).run Tryz.prog w=.ok (.slice (some ⟨w.heap.size,0,none⟩) n n) (w.alloc (.cells (madeCells #[.slice none 0 0] n) 32)):=by
 obtain⟨i,hi,h1,h2,h3⟩:=info_parts zwD;have:=zlg (P:=Tryz.prog) 31 32 i (.slice none 0 0) Tryz.underlying31 hi h1 .i64 .i64 n n zl (by rw[h3];omega) (by omega) w;rw[h2,Nat.mul_one]at this;exact this
theorem zmG{w:World}{n:Nat}(hn:w.heap.size=n)(o:Obj):(w.alloc o).heap[n]?=some o:=by rw[<-hn];exact World.alloc_heap_new w o
theorem al8(W:World)(o0 o1 o2 o3 o4 o5 o6 o7:Obj) :
  Below W.heap.size W ((((((((W.alloc o0).alloc o1).alloc o2).alloc o3).alloc o4).alloc o5).alloc o6).alloc o7)/\((((((((W.alloc o0).alloc o1).alloc o2).alloc o3).alloc o4).alloc o5).alloc o6).alloc o7).heap.size=W.heap.size+8 /\
  ∀k,k<8->((((((((W.alloc o0).alloc o1).alloc o2).alloc o3).alloc o4).alloc o5).alloc o6).alloc o7).heap[W.heap.size+k]?=[o0,o1,o2,o3,o4,o5,o6,o7][k]?:=by
 refine⟨zkc (zkc (zkc (zkc (zkc (zkc (zkc (zkc zr _) _) _) _) _) _) _) _,by simp,fun k hk=>?_⟩;have h:k=0\/k=1\/k=2\/k=3\/k=4\/k=5\/k=6\/k=7:=by omega
 rcases h with rfl|rfl|rfl|rfl|rfl|rfl|rfl|rfl
 ·exact zkg (zkg (zkg (zkg (zkg (zkg (zkg (zmG rfl _) _) _) _) _) _) _) _
 ·exact zkg (zkg (zkg (zkg (zkg (zkg (zmG (by simp) _) _) _) _) _) _) _
 ·exact zkg (zkg (zkg (zkg (zkg (zmG (by simp) _) _) _) _) _) _
 ·exact zkg (zkg (zkg (zkg (zmG (by simp) _) _) _) _) _
 ·exact zkg (zkg (zkg (zmG (by simp) _) _) _) _
 ·exact zkg (zkg (zmG (by simp) _) _) _
 ·exact zkg (zmG (by simp) _) _
 ·exact zmG (by simp) _
theorem zoo{J Jx:List SS->(Nat->Prop)->World->Prop}{bs:List Bn}{h nf l tr c ct:Nat}{A:Option Addr}{R:Nat->Prop}{tot pre:List SS}{C:Nat->Prop}{W:World}{weight:Int}(hj:JC J Jx nf l tot)(hb:DB bs h)(hl:l<W.heap.size)
  (hJ:J pre C W)(hrb:RowB W R A bs)(hrt:zp4 W tr h bs)(hR:∀b,R b->¬ C b)(htr:¬ C tr)(htl:tr<W.heap.size)(hw:0<=weight/\weight<=100000000000)(hpre:(pre++(zkW h bs weight).map stOf) <+: tot) :
  Calls Tryz.prog 81 #[.slice A bs.length c,.slice (some ⟨tr,0,none⟩) (bs.length+1) ct,.int .i64 (h:Int),.int .i64 weight,.func (.yield l) #[] #[]] W fun e W' =>
   ∃b,e=.returned (.bool b)/\((b=true/\∃C',J (pre++(zkW h bs weight).map stOf) C' W'/\(∀b,C' b->C b\/W.heap.size<=b)/\Chg C W W')\/(b=false/\∃pre' C',Jx pre' C' W'/\Chg C W W')):=by
 have hmk:=zyN bs.length (by have:=hb.n;omega);have h8:=fun o0 o1 o2 o3 o4 o5 o6 o7=>al8 W o0 o1 o2 o3 o4 o5 o6 o7;obtain⟨N,hN⟩:=zX (W.heap.size);have H8:=zh (show ∀W',W'=((((((((W.alloc (.cells #[.slice A bs.length c] 93)).alloc (.cells #[.slice (some ⟨tr,0,none⟩) (bs.length+1) ct] 93)).alloc (.cells #[.int .i64 (h:Int)] 3)).alloc (.cells #[.func (.yield l) #[] #[]] 135)).alloc (.cells (madeCells #[.slice none 0 0] bs.length) 32)).alloc (.cells #[.slice (some ⟨N+1+1+1+1,0,none⟩) bs.length bs.length] 31)).alloc (.cells #[.func (.func 112) #[] (DK.cap1 ⟨l,N+1+1+1+1+1,N+1+1+1,N,N+1,N+1+1,N+1+1+1+1+1+1+1,N+1+1+1+1+1+1,N+1+1+1+1,tr,A,c,ct⟩)] 175)).alloc (.cells #[.func (.func 113) #[] (DK.cap2 ⟨l,N+1+1+1+1+1,N+1+1+1,N,N+1,N+1+1,N+1+1+1+1+1+1+1,N+1+1+1+1+1+1,N+1+1+1+1,tr,A,c,ct⟩)] 176)) ->
   Calls Tryz.prog 112 (#[.int .i64 (([]:List (List Int)).length:Int),.int .i64 weight]++DK.cap1 ⟨l,N+1+1+1+1+1,N+1+1+1,N,N+1,N+1+1,N+1+1+1+1+1+1+1,N+1+1+1+1+1+1,N+1+1+1+1,tr,A,c,ct⟩) W' fun e W'=>∃b,e=.returned (.bool b)/\(
   (b=true/\∃C',J (pre++(zkW h bs weight).map stOf) C' W'/\(∀b,C' b->C b\/N<=b)/\Chg C W W')\/(b=false/\∃pre' C',Jx pre' C' W'/\Chg C W W'))from fun W' hW'=>by
  obtain⟨hbl,hsz,hat⟩:=h8 (.cells #[.slice A bs.length c] 93) (.cells #[.slice (some ⟨tr,0,none⟩) (bs.length+1) ct] 93) (.cells #[.int .i64 (h:Int)] 3) (.cells #[.func (.yield l) #[] #[]] 135) (.cells (madeCells #[.slice none 0 0] bs.length) 32) (.cells #[.slice (some ⟨N+1+1+1+1,0,none⟩) bs.length bs.length] 31) (.cells #[.func (.func 112) #[] (DK.cap1 ⟨l,N+1+1+1+1+1,N+1+1+1,N,N+1,N+1+1,N+1+1+1+1+1+1+1,N+1+1+1+1+1+1,N+1+1+1+1,tr,A,c,ct⟩)] 175) (.cells #[.func (.func 113) #[] (DK.cap2 ⟨l,N+1+1+1+1+1,N+1+1+1,N,N+1,N+1+1,N+1+1+1+1+1+1+1,N+1+1+1+1+1+1,N+1+1+1+1,tr,A,c,ct⟩)] 176);rw[<-hW']at hbl hsz hat
  rw[hN]at hsz hat
  have hCN:∀b,C b->b<N:=fun b h=>by rw[<-hN];exact hj.lt _ _ _ hJ b h
  have hlN:l<N:=by omega
  have htN:tr<N:=by omega
  have sJ:∀b,N<=b->b<N+8->b≠N+4->((R b/\b<N)\/b=tr\/(N<=b/\b<N+8/\b≠N+4)):=fun b h1 h2 h3=>.inr (.inr ⟨h1,h2,h3⟩);have hL:=zq8 (Z:=⟨l,N+1+1+1+1+1,N+1+1+1,N,N+1,N+1+1,N+1+1+1+1+1+1+1,N+1+1+1+1+1+1,N+1+1+1+1,tr,A,c,ct⟩) (B:=fun b=>(R b/\b<N)\/b=tr\/(N<=b/\b<N+8/\b≠N+4)) hj hb (fun w hd=>by have:=hd.lt N (.inr (.inr ⟨by omega,by omega,by omega⟩));show l<_;omega) (rs:=bs) [] (fun _=>0) (fun _=>0) pre C W' weight rfl (Nat.zero_le _) (hj.keep _ _ _ _ hJ (Chg.of_below hbl))
   ⟨hat 5 (by decide),hat 3 (by decide),hat 0 (by decide),hat 1 (by decide),hat 2 (by decide),hat 7 (by decide),hat 6 (by decide),(hrb.keep (S':=fun b=>(R b/\b<N)\/b=tr\/(N<=b/\b<N+8/\b≠N+4)) (fun b h hlt=>.inl ⟨h,by omega⟩) fun b _ hlt=>hbl.block b hlt),hrt.keep (hbl.block _ htl),⟨sJ (N+1+1+1+1+1) (by omega) (by omega) (by omega),sJ (N+1+1+1) (by omega) (by omega) (by omega),sJ (N) (by omega) (by omega) (by omega),sJ (N+1) (by omega) (by omega) (by omega),sJ (N+1+1) (by omega) (by omega) (by omega),sJ (N+1+1+1+1+1+1+1) (by omega) (by omega) (by omega),sJ (N+1+1+1+1+1+1) (by omega) (by omega) (by omega),.inr (.inl rfl)⟩,fun b h=>by rw[hsz];rcases h with h|h|h<;>omega⟩
   ⟨⟨_,hat 4 (by decide),by rw[size_madeCells],fun j hj=>absurd hj (Nat.not_lt_zero j)⟩,fun j hj=>absurd hj (Nat.not_lt_zero j),fun j hj=>absurd hj (Nat.not_lt_zero j),fun i j hi=>absurd hi (Nat.not_lt_zero i),fun x hx=>by cases hx⟩
   ⟨fun b h hc=>by
    have:=hCN b hc;rcases h with h|rfl|h
    ·exact hR b h.1 hc
    ·exact htr hc
    ·omega,fun h=>by have:=hCN _ h;simp only at this;omega,fun j hj=>absurd hj (Nat.not_lt_zero j),fun h=>by simp only at h;omega,fun j hj=>absurd hj (Nat.not_lt_zero j)⟩
   (fun j hj=>absurd hj (Nat.not_lt_zero j)) (fun j hj=>absurd hj (Nat.not_lt_zero j)) hw (by simpa only[List.nil_append]using hpre)
  refine hL.mono ?_;have hch:∀ {w':World},Chg (fun b=>C b\/b=N+1+1+1+1) W' w'->Chg C W w':=fun h=>(Chg.of_below hbl).trans2 h fun b hb h=>h.elim id fun h=>by omega
  rintro e w' (⟨rfl,C',h1,h2,h3,-⟩|⟨rfl,pre',C',h1,h2⟩)
  ·exact⟨_,rfl,.inl ⟨rfl,C',by simpa only[List.nil_append]using h1,fun b h=>(h2 b h).imp id fun h=>by omega,hch h3⟩⟩
  ·exact⟨_,rfl,.inr ⟨rfl,pre',C',h1,hch h2⟩⟩)
 clear h8 hj hb hJ hrb hrt hR hpre htr;go_enter Tryz.func81,Tryz.ntmps81;rw[hN];go_wp2_with fail;refine(H8.out _ rfl).mono ?_;rintro e w2 ⟨b,rfl,hP⟩;have HP:=zh hP;clear hP H8;go_wp2_with fail;go_ret;exact⟨b,rfl,HP.out⟩
structure AllM(W:World)(S:Nat->Prop)(b:BX)(bs:List Bn)(jG xb lb:Nat)(A:Option Addr)(c:Nat):Prop where
 ok:W.heap[jG]?=some (.cells #[.bool true] 4 (0,0))
 bx:W.heap[xb]?=some (.cells #[.int .i64 b.v,.int .i64 b.l,.int .i64 b.i] 27 (0,0))
 ls:W.heap[lb]?=some (.cells #[.slice A bs.length c] 93 (0,0))
 row:RowB W S A bs
def allS(b:BX)(bs:List Bn):List SS:=(allB (2*b.v+1) bs).map stOf
theorem zp8{W:World}{S:Nat->Prop}{b:BX}{bs:List Bn}{jG xb lb c nf:Nat}{A:Option Addr}(hM:AllM W S b bs jG xb lb A c)(hv:0<=b.v/\b.v<=1000)(hn:1<=bs.length/\bs.length<=100)(hb:∀q∈bs,q.1<=1000/\q.2<=1000) :
  zye YS nf Tryz.prog 79 #[ptr0 jG,ptr0 xb,ptr0 lb] (allS b bs) (fun q=>q=jG\/q=xb\/q=lb\/S q) W:=by
 intro l J Jx C W1 hl0 mO hch hJ pz hY h0;refine(callsIn_wide (n:=nf)).2 ?_;obtain⟨v,vl,vi⟩:=b;obtain⟨h,hh⟩:∃h:Nat,2*v+1=(h:Int):=⟨(2*v+1).toNat,by simp only at hv;omega⟩
 simp only at hv;have hdb:DB bs h:=⟨hn.2,hb,by omega,by omega,hn.1⟩
 have hxs:allS ⟨v,vl,vi⟩ bs=(List.range (whi h bs-wlo bs+1).toNat).flatMap fun(j:Nat)=>(zkW h bs (wlo bs+(j:Int))).map stOf:=by
  unfold allS allB;simp only;rw[hh,List.map_flatMap,znR (F:=fun w=>(zkW h bs w).map stOf)]
 obtain⟨xs,hx⟩:=zX (allS ⟨v,vl,vi⟩ bs);rw[hx]at hY hxs ⊢;have tV:=zh (show JC J Jx nf l xs from⟨hJ,pz,hY⟩);have hbd:=zsi (h:=h) hb (by omega) (by omega);have x0:W1.cell? ⟨jG,0,none⟩=some (.bool true):=zc (hch.keep hM.ok fun h=>mO _ h (.inl rfl)) rfl;have x1:W1.cell? ⟨xb,0,none⟩=some (.int .i64 v):=zc (hch.keep hM.bx fun h=>mO _ h (.inr (.inl rfl))) rfl;have hk2:=hch.keep hM.ls fun h=>mO _ h (.inr (.inr (.inl rfl)));have x2:W1.cell? ⟨lb,0,none⟩=some (.slice A bs.length c):=zc hk2 rfl;have hnl:¬ C lb:=fun h=>mO _ h (.inr (.inr (.inl rfl)));have hrb:=hM.row.keep (w':=W1) (S':=fun q=>¬ C q/\q<W1.heap.size) (fun q h hlt=>⟨fun hc=>mO q hc (.inr (.inr (.inr h))),Nat.lt_of_lt_of_le hlt hch.size⟩) fun q h hlt=>hch.block q hlt fun hc=>mO q hc (.inr (.inr (.inr h)));have xz:=zqb bs h A c W1 (hrb.keep (S':=Any) (fun _ _ _=>trivial) fun _ _ _=>rfl) (by omega) hb (by omega)
 obtain⟨w0,hw0⟩:=zX (wlo bs);obtain⟨w1,hw1⟩:=zX (whi h bs);rw[hw0,hw1]at hbd hxs;obtain⟨T,hT⟩:=zX ((w1-(w0:Int)+1).toNat);rw[hT]at hxs;have HWE:=zh xz;have fu:=zh hrb;have AU:=zh hdb;have xO:=zh hxs;have H0:=zh h0;have aL:=zh hk2;have zN:=zh hnl;have HW:=zh (show wlo bs=w0/\whi h bs=w1 from⟨hw0,hw1⟩);have HL0:=zh hl0;have hnn:=hn;obtain⟨n,hn'⟩:=zX (bs.length);have HN:=zh hn';rw[hn']at x2 HWE hnn;clear hM hv hn hb hl0 mO hch hJ pz hY h0 hdb hxs hrb xz hw0 hw1 hx hk2 hnl hn'
 show Calls Tryz.prog 79 #[.func (.yield l) #[] #[],ptr0 jG,ptr0 xb,ptr0 lb] W1 _
 have e1:IntKind.i64.wrap (2*v)=2*v:=IntWalk.i64_in _ (by have:=AU.out.hm;omega);have e2:IntKind.i64.wrap (2*v+1)=(h:Int):=by rw[hh];exact IntWalk.i64_in _ (by have:=AU.out.hm;omega)
 have HHH:=zh hh;clear hh;go_enter Tryz.func79,Tryz.ntmps79;go_wp2_with fail;refine HWE.out.mono ?_;rintro e w2 ⟨tr,rfl,htr,yD,hb2⟩;obtain⟨y0,y1⟩:=yD 0 (Nat.zero_le _);rw[List.drop_zero,HW.out.1]at y0;rw[List.drop_zero,HW.out.2]at y1;rw[Nat.zero_mul]at y0 y1;have HRP:=zh yD;have HB2:=zh hb2;have xU:=zh htr;have hp0:(0:Int)<(n:Int)+1:=by omega
 have e3:IntKind.i64.wrap (w1-(w0:Int))=w1-(w0:Int):=IntWalk.i64_in _ (by omega);have e4:IntKind.i64.wrap (w1-(w0:Int)+1)=w1-(w0:Int)+1:=IntWalk.i64_in _ (by omega);clear yD htr x0 x1 x2 e1 e2;go_upto_region 3 with fail
 go_quiet (fail)
 have hb3:=zkZ (zs w2) nq;obtain⟨w3,hw3⟩:=zX (w2.drewN nq);rw[hw3]at hb3;rw[hw3];have HB3:=zh (zkb hb2 hb3);have HRP3:=zh (HRP.out.keep (hb3.block _ (World.block_lt_of_cell? w2 _ y0)));have HTL:=zh (World.block_lt_of_cell? w2 _ y0);clear hw3 hb3 hb2 y0 y1 e3 e4;go_wp2_with fail;obtain⟨G,hG⟩:∃G:Nat->List SS,G=fun(j:Nat)=>(zkW h bs (w0+(j:Int))).map stOf:=⟨_,rfl⟩
 have HG:=zh hG;have hxs:=xO.out;rw[show(fun(j:Nat)=>(zkW h bs (w0+(j:Int))).map stOf)=G from hG.symm]at hxs;have xO:=zh hxs;clear hG hxs
 go_loopw [27] (fun iv wr=>∃(j:Nat) (C':Nat->Prop),j<=T/\iv=.int .i64 j/\Hid (J ((List.range j).flatMap G) C' wr/\(∀b,C' b->C b\/W1.heap.size<=b)/\Chg C W1 wr)/\Hid (¬ C' tr/\zp4 wr tr h bs)) (fun iv _=>T-(intOf iv).toNat)
 case atStart=>exact⟨0,C,Nat.zero_le _,rfl,zh ⟨tV.out.keep _ _ _ _ H0.out (Chg.of_below HB3.out),fun b h=>.inl h,Chg.of_below HB3.out⟩,zh ⟨fun h=>by have:=tV.out.lt _ _ _ H0.out _ h;have:=xU.out;omega,HRP3.out⟩⟩
 case round =>
  obtain⟨j,C',hjT,rfl,HI,lV⟩:=hrel;by_cases hlt:j<T
  ·have hj1:(j:Int)<w1-(w0:Int)+1:=by omega
   have hsz:=HI.out.2.2.size;have y0:wr.cell? ⟨tr,0,none⟩=some (.int .i64 (w0:Int)):=by have:=(lV.out.2 0 (Nat.zero_le _)).1;rwa[List.drop_zero,HW.out.1,Nat.zero_mul]at this
   have x2:wr.cell? ⟨lb,0,none⟩=some (.slice A n c):=by rw[<-HN.out];exact zc (HI.out.2.2.keep aL.out zN.out) rfl
   have hpre:(List.range j).flatMap G++(zkW h bs ((w0:Int)+(j:Int))).map stOf <+: xs:=by
    rw[xO.out];have:=zn4 (F:=G) (g:=fun i=>i) hlt;rwa[HG.out]at this ⊢
   have e1:IntKind.i64.wrap ((w0:Int)+(j:Int))=(w0:Int)+(j:Int):=IntWalk.i64_in _ (by omega);have htl:tr<wr.heap.size:=World.block_lt_of_cell? wr _ y0
   have fT:=zh (fun w' (hbw:Below wr.heap.size wr w')=>show Calls Tryz.prog 81 #[.slice A bs.length c,.slice (some ⟨tr,0,none⟩) (bs.length+1) (n+1),.int .i64 (h:Int),.int .i64 ((w0:Int)+(j:Int)),.func (.yield l) #[] #[]] w' (fun e w9=>∃b,e=.returned (.bool b)/\((b=true/\∃C9,J ((List.range (j+1)).flatMap G) C9 w9/\(∀q,C9 q->C q\/W1.heap.size<=q)/\Chg C W1 w9/\¬ C9 tr/\zp4 w9 tr h bs)\/(b=false/\∃pre' C9,Jx pre' C9 w9/\Chg C W1 w9)))from(zoo (c:=c) (ct:=n+1) (A:=A) (R:=fun q=>¬ C q/\q<W1.heap.size) (tr:=tr) (pre:=(List.range j).flatMap G) (C:=C') (W:=w') (weight:=(w0:Int)+(j:Int)) tV.out AU.out (by have:=HL0.out;have:=hbw.size;omega) (tV.out.keep _ _ _ _ HI.out.1 (Chg.of_below hbw)) ((fu.out.keep (fun q h _=>h) fun q h hlt=>HI.out.2.2.block q hlt h.1).later hbw) (lV.out.2.keep (hbw.block _ htl)) (fun q h hc=>(HI.out.2.1 q hc).elim h.1 fun h'=>by omega) lV.out.1 (Nat.lt_of_lt_of_le htl hbw.size) (by omega) hpre).mono
    fun e w9 ⟨b,hb,hr⟩=>⟨b,hb,by
     have hch:∀ {D:World},Chg C' w' D->Chg C W1 D:=fun h=>(HI.out.2.2.trans2 (Chg.of_below hbw (C:=fun _=>False)) fun _ _ h=>h.elim).trans2 h fun q hq h=>(HI.out.2.1 q h).elim id fun h'=>by omega
     rcases hr with⟨rfl,C9,h1,h2,h3⟩|⟨rfl,pre',C9,h1,h2⟩
     ·refine .inl ⟨rfl,C9,?_,fun q hq=>(h2 q hq).elim (HI.out.2.1 q) fun h=>.inr (Nat.le_trans hsz (Nat.le_trans hbw.size h)),hch h3,fun h=>(h2 _ h).elim lV.out.1 fun h=>by have:=hbw.size;omega,lV.out.2.keep ((h3.block _ (Nat.lt_of_lt_of_le htl hbw.size) lV.out.1).trans (hbw.block _ htl))⟩;rw[List.range_succ,List.flatMap_append];have e:[j].flatMap G=(zkW h bs ((w0:Int)+(j:Int))).map stOf:=by rw[HG.out];simp
      rw[e];exact h1
     ·exact .inr ⟨rfl,pre',C9,h1,hch h2⟩⟩)
   rw[HN.out]at fT;clear hpre htl;go_upto_region 6 with fail
   go_region_with (refine(fT.out _ (by first|exact zr.drew|exact zkZ zr _)).mono ?_;rintro e w9 ⟨b9,rfl,hR9⟩)
   all_goals
    have lu:=zh hR9;clear hR9 y0 x2;(try simp only[zQ])
    cases b9
    ·obtain⟨h0,-⟩|⟨-,pre',C9,j9,h9⟩:=lu.out
     ·cases h0
     have HF:=zh (And.intro j9 h9);clear j9 h9;go_wp2_with fail;refine bodyPost_ret (v:=.tuple #[]) (results_none (by rfl) _ _ _) rfl ?_;exact⟨⟨_,rfl⟩,.inr ⟨⟨pre',C9,HF.out.1⟩,HF.out.2⟩⟩
    ·obtain⟨-,C9,j9,c9,h9,t9,r9⟩|⟨h0,-⟩:=lu.out;rotate_left 1
     ·cases h0
     have HF:=zh (And.intro j9 (And.intro c9 h9));have qc:=zh (And.intro t9 r9);clear j9 c9 h9 t9 r9;have uB:IntKind.i64.wrap ((j:Int)+1)=(j:Int)+1:=IntWalk.i64_in _ (by omega);go_wp2_with fail;exact⟨⟨j+1,C9,by omega,by go_num,HF,qc⟩,by simp[intOf];omega⟩
  ·obtain rfl:j=T:=by omega
   have hj1:¬ (j:Int)<w1-(w0:Int)+1:=by omega
   go_wp2_with fail;go_end0;exact⟨⟨_,rfl⟩,.inl ⟨⟨C',by rw[xO.out];exact HI.out.1⟩,HI.out.2.2⟩⟩
theorem zuj(vs:List VD)(b:BX)(A:Option Addr)(c:Nat)(w:World)(hrow:RowV w Any A vs)(hl:vs.length<=LV)(hok:(b.ok&&svB vs)=true):Calls Tryz.prog 38 #[.slice A vs.length c,.agg #[.int .i64 b.v,.int .i64 b.l,.int .i64 b.i]] w fun e w' =>
  ∃jG xb lb A2 c2,e=.returned (.func (.func 79) #[] #[ptr0 jG,ptr0 xb,ptr0 lb])/\Below w.heap.size w w'/\w.heap.size<=jG/\w.heap.size<=xb/\w.heap.size<=lb/\AllM w' (fun q=>w.heap.size<=q) b (lenE vs b) jG xb lb A2 c2:=by
 obtain⟨bv,bl,bi⟩:=b;simp only;have hb1:=zkc (zs w) (.cells #[.int .i64 bv,.int .i64 bl,.int .i64 bi] 27);have hk1:=heap_alloc_new w (.cells #[.int .i64 bv,.int .i64 bl,.int .i64 bi] 27);have wZ:=zh (fun w' (hb:Below w.heap.size w w')=>znZ vs ⟨bv,bl,bi⟩ A c w' (hrow.later hb) hl);have hlen:=(zmx hok).1;obtain⟨bs,hbs⟩:=zX (lenE vs ⟨bv,bl,bi⟩);have iF:=zh hbs;rw[hbs]at hlen ⊢;have HLEN:=zh hlen;clear hrow hl hbs hlen;go_enter Tryz.func38,Tryz.ntmps38;go_upto_region 1 with fail;obtain⟨w1,hw1⟩:=zX (w.alloc (.cells #[.int .i64 bv,.int .i64 bl,.int .i64 bi] 27));rw[hw1]at hb1 hk1 ⊢;obtain⟨x0,x1,x2⟩:=zkn hk1;have HB1:=zh hb1;have aB:=zh hk1;clear hw1 hb1 hk1;go_wp2_with fail;refine(wZ.out _ HB1.out).mono ?_;rintro e w2 ⟨hb2,⟨h0,rfl⟩|⟨-,A2,c2,rfl,hrb⟩⟩
 ·rw[hok]at h0;cases h0
 have HB2:=zh (zkb HB1.out hb2);have aL:=zh (zka aB.out hb2);rw[iF.out]at hrb;have fu:=zh (hrb.keep (S':=fun q=>w.heap.size<=q) (fun q h _=>Nat.le_trans HB1.out.size h) fun _ _ _=>rfl);clear hrb hb2 x0 x1 x2 wZ;go_wp2_with fail;go_ret;have hb4:=zkc (zkc HB2.out (.cells #[.slice A2 (vs.length+1) c2] 93)) (.cells #[.bool true] 4);have hb24:Below w2.heap.size w2 ((w2.alloc (.cells #[.slice A2 (vs.length+1) c2] 93)).alloc (.cells #[.bool true] 4)):=zkc (zkc zr _) _;have hsz:=HB2.out.size;have hl:=HLEN.out;refine⟨w2.heap.size+1,w.heap.size,w2.heap.size,A2,c2,rfl,hb4,by omega,zl,hsz,zmG (by simp) _,zka aL.out hb24,?_,fu.out.later hb24⟩;rw[hl];exact zkg (zmG rfl _) _
def smlE(vs:List VD)(b:BX):Bool:=decide ((cntR vs b).2=0)&&decide ((cntR vs b).1<=65536)
theorem zsu{vs:List VD}{b:BX}(h:smlE vs b=true):(b.ok&&svB vs)=true/\cntE (2*b.v+1) (lenE vs b)<=65536:=by
 simp only[smlE,Bool.and_eq_true,decide_eq_true_eq]at h;obtain⟨h1,h2⟩:=h;unfold cntR at h1 h2
 split at h1
 ·rename_i h3;rw[if_pos h3]at h2;refine⟨h3,?_⟩
  split at h1
  ·cases h1
  ·rename_i h4;rw[if_neg h4]at h2;exact h2
 ·cases h1
theorem zoC(vs:List VD)(b:BX)(A:Option Addr)(c:Nat)(w:World)(hrow:RowV w Any A vs)(hl:vs.length<=LV):Calls Tryz.prog 37 #[.slice A vs.length c,.agg #[.int .i64 b.v,.int .i64 b.l,.int .i64 b.i]] w fun e w'=>e=.returned (.bool (smlE vs b))/\Below w.heap.size w w':=by
 obtain⟨bv,bl,bi⟩:=b;simp only;have hb1:=zkc (zs w) (.cells #[.int .i64 bv,.int .i64 bl,.int .i64 bi] 27);have hk1:=heap_alloc_new w (.cells #[.int .i64 bv,.int .i64 bl,.int .i64 bi] 27);have xm:=zh (fun w' (hb:Below w.heap.size w w')=>zuf vs ⟨bv,bl,bi⟩ A c w' (hrow.later hb) hl);have HS:=zh (show smlE vs ⟨bv,bl,bi⟩=(decide ((cntR vs ⟨bv,bl,bi⟩).2=0)&&decide ((cntR vs ⟨bv,bl,bi⟩).1<=65536))from rfl);obtain⟨⟨R1,R2⟩,hR⟩:=zX (cntR vs ⟨bv,bl,bi⟩);rw[hR]at xm HS;clear hrow hl hR;go_enter Tryz.func37,Tryz.ntmps37;go_upto_region 1 with fail;obtain⟨w1,hw1⟩:=zX (w.alloc (.cells #[.int .i64 bv,.int .i64 bl,.int .i64 bi] 27));rw[hw1]at hb1 hk1 ⊢;obtain⟨x0,x1,x2⟩:=zkn hk1;have HB1:=zh hb1;clear hw1 hb1 hk1;go_wp2_with fail;refine(xm.out _ HB1.out).mono ?_;rintro e w2 ⟨rfl,hb2⟩;have HB2:=zh (zkb HB1.out hb2);clear hb2 x0 x1 x2;by_cases h0:R2=0
 ·subst h0;have HF:=zh (show smlE vs ⟨bv,bl,bi⟩=decide (R1<=65536) by rw[HS.out];simp);go_wp2_with fail;go_ret;exact⟨by rw[HF.out];rfl,HB2.out⟩
 ·have e0:(R2==0)=false:=by simpa using h0
  have HF:=zh (show smlE vs ⟨bv,bl,bi⟩=false by rw[HS.out];simp[h0]);go_wp2_with fail;go_ret;exact⟨by rw[HF.out];rfl,HB2.out⟩
def cdE(vs:List VD)(t:T)(s:SS):Option SS:=if (asgE vs t s).1=0/\fitB vs (asgE vs t s).2=true then some (asgE vs t s).2 else none
def hitE(f:SS->Option SS)(x q:SS):Bool:=match f q with
 | some y=>eqS y x
 | none=>false
theorem zpl{s t:SS}:eqS s t=true↔s=t:=by
 obtain⟨a,b,c⟩:=s;obtain⟨a',b',c'⟩:=t;simp[eqS,and_assoc]
theorem zpM{f:SS->Option SS}{x q:SS}:hitE f x q=true↔f q=some x:=by
 unfold hitE
 cases h:f q with
 | none=>simp
 | some y=>simp[zpl]
def znu(f:SS->Option SS):List SS->List SS->Option (SS×SS)
 | _,[]=>none
 | pre,s::ss=>match f s with
  | none=>znu f (pre++[s]) ss
  | some x=>match pre.find? (hitE f x)with
   | some q=>some (q,s)
   | none=>znu f (pre++[s]) ss
def zoq(f:SS->Option SS)(l:List SS):Prop:=∀a s b,l=a++s::b->∀x,f s=some x->∀q∈a,f q≠some x
theorem zoq.snoc{f:SS->Option SS}{a:List SS}{s:SS}(h:zoq f a)(hs:∀x,f s=some x->∀q∈a,f q≠some x):zoq f (a++[s]):=by
 intro c r d e x hx q hq;rcases List.eq_nil_or_concat d with rfl|⟨d',y,rfl⟩
 ·have e2:=List.append_inj' (s₁:=a) (s₂:=c) e rfl;obtain⟨rfl,e3⟩:=e2;injection e3 with e3;exact hs x (e3▸hx) q hq
 ·have e2:a++[s]=(c++r::d')++[y]:=by rw[e];simp
  exact h c r d' (List.append_inj' e2 rfl).1 x hx q hq
theorem zoq.find{f:SS->Option SS}{a b:List SS}{s x:SS}(h:zoq f (a++s::b))(hx:f s=some x):a.find? (hitE f x)=none :=
 List.find?_eq_none.2 fun q hq=>by
  intro e;exact h a s b rfl x hx q hq (zpM.1 e)
theorem zmM{f:SS->Option SS}:∀(ss pre:List SS),zoq f (pre++ss)->znu f pre ss=none
 | [],_,_=>rfl
 | s::ss,pre,h=>by
  rw[znu]
  cases hx:f s with
  | none=>exact zmM ss (pre++[s]) (by simpa using h)
  | some x =>
   simp only[h.find hx];exact zmM ss (pre++[s]) (by simpa using h)
theorem zmL{f:SS->Option SS}{s x q:SS}{b:List SS}(hx:f s=some x):∀(a pre:List SS),zoq f (pre++a)->(pre++a).find? (hitE f x)=some q->znu f pre (a++s::b)=some (q,s)
 | [],pre,_,hf=>by
  rw[List.append_nil]at hf;rw[List.nil_append,znu];simp only[hx,hf]
 | r::a,pre,h,hf=>by
  rw[List.cons_append,znu]
  cases hy:f r with
  | none=>exact zmL hx a (pre++[r]) (by simpa using h) (by simpa using hf)
  | some y =>
   simp only[h.find hy];exact zmL hx a (pre++[r]) (by simpa using h) (by simpa using hf)
theorem zvd{f:SS->Option SS}{a:List SS}{q x:SS}(h:zoq f a)(hq:q∈a)(hx:f q=some x):a.find? (hitE f x)=some q:=by
 obtain⟨c,d,rfl⟩:=List.append_of_mem hq;rw[List.find?_append,h.find hx];simp[List.find?_cons,zpM.2 hx]
def strS(xs:List Int):ByteArray:=xs.foldl (fun r n=>r.push (UInt8.ofNat n.toNat)) ByteArray.empty
def bysS(xs:List Int):List UInt8:=xs.map fun n=>UInt8.ofNat n.toNat
theorem zoA:∀(xs:List Int) (r:ByteArray),(xs.foldl (fun r n=>r.push (UInt8.ofNat n.toNat)) r).data.toList=r.data.toList++bysS xs
 | [],r=>by simp[bysS]
 | x::xs,r=>by
  rw[List.foldl_cons,zoA xs];simp[bysS,ByteArray.push]
theorem zpC(xs:List Int):(strS xs).data.toList=bysS xs:=by
 rw[strS,zoA];rfl
theorem zrr:∀ {xs ys:List Int},(∀x∈xs,0<=x/\x<256)->(∀y∈ys,0<=y/\y<256)->bysS xs=bysS ys->xs=ys
 | [],[],_,_,_=>rfl
 | [],_::_,_,_,h=>by simp[bysS]at h
 | _::_,[],_,_,h=>by simp[bysS]at h
 | x::xs,y::ys,h1,h2,h=>by
  simp only[bysS,List.map_cons,List.cons.injEq]at h;obtain⟨e1,e2⟩:=h;have b1:=h1 x (by simp);have b2:=h2 y (by simp);have e3:=congrArg UInt8.toNat e1;simp only[UInt8.toNat_ofNat']at e3;rw[Nat.mod_eq_of_lt (by omega),Nat.mod_eq_of_lt (by omega)]at e3;rw[show x=y by omega,zrr (fun z hz=>h1 z (by simp[hz])) (fun z hz=>h2 z (by simp[hz])) e2]
theorem zxf(n:Int)(i:Nat):0<=byE n i/\byE n i<256:=by unfold byE;omega
theorem znJ(n:Int):∀k,∀x∈bysE n k,0<=x/\x<256
 | 0,x,h=>by simp[bysE]at h
 | k+1,x,h=>by
  simp only[bysE,List.mem_cons]at h;rcases h with rfl|h
  ·exact zxf n _
  ·exact znJ n k x h
theorem zsR(l:List Int):∀x∈lsE l,0<=x/\x<256:=fun x h=>by
 obtain⟨y,-,h⟩:=List.mem_flatMap.1 h;exact znJ _ _ _ h
theorem ztz(l:List Int):∀x∈cnE l,0<=x/\x<256:=fun x h=>by
 rcases List.mem_append.1 h with h|h
 ·exact znJ _ _ _ h
 ·exact zsR _ _ h
theorem ztr:∀(vs:List VD) (ls:List (List Int)),∀x∈enC vs ls,0<=x/\x<256
 | [],[],x,h=>by simp[enC]at h
 | [],_::_,x,h=>by simp[enC]at h
 | _::_,[],x,h=>by simp[enC]at h
 | v::vs,l::ls,x,h=>by
  simp only[enC,List.mem_append]at h;rcases h with h|h|h
  ·by_cases h3:v.k=3
   ·rw[if_pos h3]at h;exact znJ _ _ _ h
   ·rw[if_neg h3]at h;exact absurd h (List.not_mem_nil)
  ·exact zsR _ _ h
  ·exact ztr vs ls x h
theorem zrj(vs:List VD)(s:SS):∀x∈encS vs s,0<=x/\x<256:=fun x h=>by
 simp only[encS,List.mem_append]at h;rcases h with h|h|h
 ·exact ztr _ _ _ h
 ·exact ztz _ _ h
 ·exact ztz _ _ h
def kS(vs:List VD)(x:SS):Lit:=.string (bysS (encS vs x))
theorem zxR{vs:List VD}{x y:SS}(hx:fitB vs x=true)(hy:fitB vs y=true)(ix:x.I)(iy:y.I)(h:kS vs x=kS vs y):x=y:=by
 unfold kS at h;injection h with h;exact zvk hx hy ix iy (zrr (zrj _ _) (zrj _ _) h)
def hR:Value->Option (DataW Value×List MemPlace):=fun v=>some (.held v,[])
def LoM(W:World)(mb:Nat)(vs:List VD)(f:SS->Option SS)(pre:List SS)(S:Nat->Prop):Prop :=
 ∃D:DataW Value,W.ownsMap Tryz.prog 9 hR mb pre.length D/\(∀s∈pre,∀x,f s=some x->x.I/\∃v,Maps.has D (kS vs x)=true/\(∀zd,D.atKey (kS vs x) zd=.held v)/\SV W S s v) /\
  ∀kl,Maps.has D kl=true->∃s∈pre,∃x,f s=some x/\kl=kS vs x
theorem LoM.lt{W:World}{mb:Nat}{vs:List VD}{f:SS->Option SS}{pre:List SS}{S:Nat->Prop}(h:LoM W mb vs f pre S):mb<W.heap.size:=h.choose_spec.1.lt
theorem LoM.keep{W W':World}{mb:Nat}{vs:List VD}{f:SS->Option SS}{pre:List SS}{S S':Nat->Prop}(h:LoM W mb vs f pre S)(hm:W'.heap[mb]?=W.heap[mb]?)(hS:∀b,S b->b<W.heap.size->S' b)(hk:∀b,S b->b<W.heap.size->W'.heap[b]?=W.heap[b]?):LoM W' mb vs f pre S':=by
 obtain⟨D,⟨es,clock,hb,r⟩,h2,h3⟩:=h;exact⟨D,⟨es,clock,hm.trans hb,r⟩,fun s hs x hx=>let ⟨i,v,a,b,c⟩:=h2 s hs x hx;⟨i,v,a,b,c.keep hS hk⟩,h3⟩
theorem LoM.skip{W:World}{mb:Nat}{vs:List VD}{f:SS->Option SS}{pre:List SS}{S:Nat->Prop}{s:SS}(h:LoM W mb vs f pre S)(hs:f s=none):LoM W mb vs f (pre++[s]) S:=by
 obtain⟨D,h1,h2,h3⟩:=h;refine⟨D,h1.mono (by simp),fun r hr x hx=>?_,fun kl hk=>?_⟩
 ·rcases List.mem_append.1 hr with hr|hr
  ·exact h2 r hr x hx
  ·rw[List.mem_singleton.1 hr,hs]at hx;cases hx
 ·obtain⟨r,hr,x,hx⟩:=h3 kl hk;exact⟨r,List.mem_append_left _ hr,x,hx⟩
theorem LoM.made(W:World)(vs:List VD)(f:SS->Option SS)(S:Nat->Prop):LoM (W.alloc (.map #[] 0)) W.heap.size vs f [] S :=
 ⟨.map [],World.ownsMap_made W _ _ _,(fun _ h=>by cases h),(fun _ h=>by cases h)⟩
theorem LoM.put{W W':World}{mb:Nat}{vs:List VD}{f:SS->Option SS}{pre:List SS}{S S':Nat->Prop}{s x:SS}{v:Value}{D:DataW Value}
  (h2:∀s∈pre,∀x,f s=some x->x.I/\∃v,Maps.has D (kS vs x)=true/\(∀zd,D.atKey (kS vs x) zd=.held v)/\SV W S s v)(h3:∀kl,Maps.has D kl=true->∃s∈pre,∃x,f s=some x/\kl=kS vs x)(hD:Maps.IsMap D)
  (hx:f s=some x)(uA:x.I)(hn:Maps.has D (kS vs x)=false)(ho:W'.ownsMap Tryz.prog 9 hR mb (pre.length+1) (D.put (kS vs x) (.held v)))(hv:SV W' S' s v)(hS:∀b,S b->b<W.heap.size->S' b)(hk:∀b,S b->b<W.heap.size->W'.heap[b]?=W.heap[b]?):LoM W' mb vs f (pre++[s]) S':=by
 have hkl:WideAt.IsKeyLit (kS vs x):=trivial;refine⟨_,by simpa using ho,fun r hr y hy=>?_,fun kl h=>?_⟩
 ·rcases List.mem_append.1 hr with hr|hr
  ·obtain⟨i,u,a,b,c⟩:=h2 r hr y hy;have hne:kS vs y≠kS vs x:=fun e=>by rw[e,hn]at a;cases a
   exact⟨i,u,by rw[Maps.has_put_other hne];exact a,fun zd=>by rw[Maps.atKey_put_other hne];exact b zd,c.keep hS hk⟩
  ·rw[List.mem_singleton.1 hr]at hy ⊢;rw[hx]at hy;injection hy with hy;subst hy;exact⟨uA,v,Maps.has_put_same hD hkl _,fun zd=>Maps.atKey_put_same hD hkl _ zd,hv⟩
 ·by_cases e:kl=kS vs x
  ·exact⟨s,by simp,x,hx,e⟩
  ·rw[Maps.has_put_other e]at h;obtain⟨r,hr,y,hy⟩:=h3 kl h;exact⟨r,List.mem_append_left _ hr,y,hy⟩
attribute [local go_sem] Oper.semAt_some
def zlW(vs:List VD)(prs:List PR)(t:T):PG:=⟨vs,prs,.nd 57 0 ⟨#[]⟩ [t]⟩
def zom(p:PG)(F:Int)(s:SS):Bool:=decide ((resO p s F (F.toNat*2000+2000) false).2.2.1=15)
theorem al5(W:World)(o0 o1 o2 o3 o4:Obj):Below W.heap.size W (((((W.alloc o0).alloc o1).alloc o2).alloc o3).alloc o4)/\(((((W.alloc o0).alloc o1).alloc o2).alloc o3).alloc o4).heap.size=W.heap.size+5/\(((((W.alloc o0).alloc o1).alloc o2).alloc o3).alloc o4).heap[W.heap.size]?=some o0/\(((((W.alloc o0).alloc o1).alloc o2).alloc o3).alloc o4).heap[W.heap.size+1]?=some o1/\(((((W.alloc o0).alloc o1).alloc o2).alloc o3).alloc o4).heap[W.heap.size+2]?=some o2/\(((((W.alloc o0).alloc o1).alloc o2).alloc o3).alloc o4).heap[W.heap.size+3]?=some o3/\(((((W.alloc o0).alloc o1).alloc o2).alloc o3).alloc o4).heap[W.heap.size+4]?=some o4 :=
 ⟨zkc (zkc (zkc (zkc (zkc zr _) _) _) _) _,by simp,zkg (zkg (zkg (zkg (zlC _ rfl _) _) _) _) _,zkg (zkg (zkg (zlC _ (by simp) _) _) _) _,zkg (zkg (zlC _ (by simp) _) _) _,zkg (zlC _ (by simp) _) _,zlC _ (by simp) _⟩
theorem zyj{w:World}{S:Nat->Prop}{k n k1 n1:Int}{s s1:ByteArray}{ks:List T}{A:Option Addr}{l c b:Nat}(hf:Fld k n s)(hb:S b)(hk:w.heap[b]?=some (.cells #[.int .u8 k1,.int .i64 n1,.string s1,.slice A l c] 24 (0,0)))
  (h:NV w S (.nd k1 n1 s1 ks) (.agg #[.int .u8 k1,.int .i64 n1,.string s1,.slice A l c])):NV w S (.nd k n s [.nd k1 n1 s1 ks]) (.agg #[.int .u8 k,.int .i64 n,.string s,.slice (some ⟨b,0,none⟩) 1 1]):=by
 obtain⟨q0,q1,q2,q3⟩:=box4 hk;refine NV.mk k n s [.nd k1 n1 s1 ks] (some ⟨b,0,none⟩) 1 ⟨b,0,none⟩ (fun _=>.int .u8 k1) (fun _=>.int .i64 n1) (fun _=>.string s1) (fun _=>.slice A l c) hf (by unfold LK;simp) zl (fun _=>⟨rfl,hb⟩) (fun i hi=>?_) fun i hi=>?_
 ·obtain rfl:i=0:=by simpa using hi
  rw[Nat.zero_mul,Addr.add_zero'];exact⟨q0,q1,q2,q3⟩
 ·obtain rfl:i=0:=by simpa using hi
  exact h
def FaI(B:Nat)(w5:World)(f:SS->Bool)(pre:List SS)(C:Nat->Prop)(W:World):Prop:=(∀b,C b↔b<B)/\(∀b,b<B->W.heap[b]?=w5.heap[b]?)/\(∀s∈pre,f s=false)/\B<=W.heap.size
def FaX(B N:Nat)(w5:World)(f:SS->Bool)(xs pre:List SS)(C:Nat->Prop)(W:World):Prop:=∃dB s g X A l c B1 m d D k e,pre=dB++[s]/\pre <+: xs/\(∀s∈dB,f s=false)/\f s=true/\(∀b,C b↔b<B\/(g<=b/\b<X))/\(B<=g/\w5.heap.size<g)/\X<=W.heap.size/\B<=W.heap.size /\
 (∀b,b<B->b≠N+3->b≠N+4->W.heap[b]?=w5.heap[b]?)/\W.heap[N+3]?=some (.cells #[.slice A l c,.slice B1 m d,.slice D k e] 34 (0,0))/\W.heap[N+4]?=some (.cells #[.bool true] 4 (0,0))/\SV W (fun q=>g<=q/\q<X) s (.agg #[.slice A l c,.slice B1 m d,.slice D k e])
theorem FaI.chg{B:Nat}{w5 W W':World}{f:SS->Bool}{pre:List SS}{C D:Nat->Prop}(h:FaI B w5 f pre C W)(hc:Chg D W W')(hD:∀b,C b->¬ D b):FaI B w5 f pre C W' :=
 ⟨h.1,fun b hb=>(hc.block b (Nat.lt_of_lt_of_le hb h.2.2.2) (hD b ((h.1 b).2 hb))).trans (h.2.1 b hb),h.2.2.1,Nat.le_trans h.2.2.2 hc.size⟩
theorem FaX.chg{B N:Nat}{w5 W W':World}{f:SS->Bool}{xs pre:List SS}{C D:Nat->Prop}(h:FaX B N w5 f xs pre C W)(hN:N+4<B)(hc:Chg D W W')(hD:∀b,C b->¬ D b):FaX B N w5 f xs pre C W':=by
 obtain⟨dB,s,g,X,A,l,c,B1,m,d,E,k,e,h1,h2,h3,h4,h5,h6,h7,h8,h9,h10,h11,h12⟩:=h;exact⟨dB,s,g,X,A,l,c,B1,m,d,E,k,e,h1,h2,h3,h4,h5,h6,Nat.le_trans h7 hc.size,Nat.le_trans h8 hc.size,fun b hb n3 n4=>(hc.block b (by omega) (hD b ((h5 b).2 (.inl hb)))).trans (h9 b hb n3 n4),hc.keep h10 (hD _ ((h5 _).2 (.inl (by omega)))),hc.keep h11 (hD _ ((h5 _).2 (.inl hN))),h12.keep (fun _ h _=>h) fun b hb _=>hc.block b (by omega) (hD b ((h5 b).2 (.inr hb)))⟩
def zym(r:Option SS)(W:World)(e:Ending)(W':World):Prop:=Below W.heap.size W W'/\∃v b,e=.returned (.tuple #[v,.bool b])/\((r=none/\b=false/\v=.agg #[.slice none 0 0,.slice none 0 0,.slice none 0 0])\/∃s,r=some s/\b=true/\SV W' (fun q=>W.heap.size<=q) s v)
theorem zwj:IsFn Tryz.prog 79 Tryz.f79:=⟨Tryz.func79,by kernel_rfl,by kernel_rfl⟩
theorem bNd1(k n:Int)(s:ByteArray)(A:Option Addr)(l c:Nat)(w:World):(Instr.buildSlice 22 1 #[(0,.agg #[.int .u8 k,.int .i64 n,.string s,.slice A l c])]).run Tryz.prog w=.ok (.slice (some ⟨w.heap.size,0,none⟩) 1 1) (w.alloc (.cells #[.int .u8 k,.int .i64 n,.string s,.slice A l c] 24)):=by kernel_rfl
theorem zqw{W:World}{vs:List VD}{prs:List PR}{b:BX}{t:T}{v:Value}{F:Int}{A1 A2:Option Addr}{c1 c2:Nat}(hv:NV W Any t v)(hr:RowV W Any A1 vs)(hl:vs.length<=LV)(hlc:vs.length<=c1)(hp:RowP W Any A2 prs)(hlp:prs.length<=LV)(hpc:prs.length<=c2)
  (hF:I64 F)(mM:F<=1000000) :
  Calls Tryz.prog 43 #[v,.slice A1 vs.length c1,.slice A2 prs.length c2,.agg #[.int .i64 b.v,.int .i64 b.l,.int .i64 b.i],.int .i64 F] W
   (zym (if smlE vs b=true then(allS b (lenE vs b)).find? (zom (zlW vs prs t) F)else none) W):=by
 obtain⟨RR,hRR⟩:=zX ((if smlE vs b=true then(allS b (lenE vs b)).find? (zom (zlW vs prs t) F)else none));rw[hRR];have HRR:=zh hRR;clear hRR;have wO:=zh (fun w' (hb:Below W.heap.size W w')=>zoC vs b A1 c1 w' (hr.later hb) hl);have fZ:=zh (fun w' (hb:Below W.heap.size W w') hok=>zuj vs b A1 c1 w' (hr.later hb) hl hok);have HV:=zh (hv.keep (S':=fun b=>b<W.heap.size) (fun _ _ h=>h) fun _ _ _=>rfl);have HR:=zh (hr.keep (S':=fun b=>b<W.heap.size) (fun _ _ h=>h) fun _ _ _=>rfl);have HP:=zh (hp.keep (S':=fun b=>b<W.heap.size) (fun _ _ h=>h) fun _ _ _=>rfl);have HL:=zh (And.intro hl (And.intro hlc (And.intro hlp (And.intro hpc (And.intro hF mM)))));obtain⟨A3,c3,rfl,-⟩:=hv.open_;obtain⟨k,n,nm,ks⟩:=t;obtain⟨bv,bl,bi⟩:=b;simp only[T.k_nd,T.n_nd,T.s_nd,T.ks_nd]at HV ⊢;obtain⟨N,hN⟩:=zX (W.heap.size);have HN:=zh hN
 obtain⟨hb1,hz1,k0,k1,k2,k3,k4⟩:=al5 W (.cells #[.int .u8 k,.int .i64 n,.string nm,.slice A3 ks.length c3] 24) (.cells #[.int .i64 bv,.int .i64 bl,.int .i64 bi] 27) (.cells #[.int .i64 F] 3) (.cells #[.slice none 0 0,.slice none 0 0,.slice none 0 0] 34) (.cells #[.bool false] 4);obtain⟨w1,hw1⟩:=zX (((((W.alloc (.cells #[.int .u8 k,.int .i64 n,.string nm,.slice A3 ks.length c3] 24)).alloc (.cells #[.int .i64 bv,.int .i64 bl,.int .i64 bi] 27)).alloc (.cells #[.int .i64 F] 3)).alloc (.cells #[.slice none 0 0,.slice none 0 0,.slice none 0 0] 34)).alloc (.cells #[.bool false] 4));rw[hw1]at hb1 hz1 k0 k1 k2 k3 k4;rw[hN]at hz1 k0 k1 k2 k3 k4;have HB1:=zh hb1;have HZ1:=zh hz1;have aN:=zh k0;have aB:=zh k1;have aL:=zh k2;have gu:=zh k3;have eB:=zh k4;obtain⟨y0,y1,y2⟩:=zkn k1;clear hv hr hp hl hlc hlp hpc hF mM hb1 hz1 k0 k1 k2 k3 k4
 show Calls Tryz.prog 43 #[.agg #[.int .u8 k,.int .i64 n,.string nm,.slice A3 ks.length c3],.slice A1 vs.length c1,.slice A2 prs.length c2,.agg #[.int .i64 bv,.int .i64 bl,.int .i64 bi],.int .i64 F] W _
 refine(callsIn_wide (n:=3)).1 (callsIn_of_wp_marks Tryz.func43 rfl trivial ((wpIn_wide (n:=3)).2 ?_));simp only[Tryz.ntmps43,List.size_toArray,List.length_cons,List.length_nil,Nat.reduceAdd,Nat.reduceSub,Array.replicate_succ,Array.replicate_zero,List.push_toArray,List.append_toArray,List.nil_append,List.cons_append];go_wp2_with fail;refine(wO.out _ HB1.out).mono ?_;rintro e2 w2 ⟨rfl,hb2⟩;obtain⟨sm,hsm⟩:=zX (smlE vs ⟨bv,bl,bi⟩);have HS:=zh hsm;rw[hsm]at HRR ⊢;have HB2:=zh (zkb HB1.out hb2);have ko:=zh (zka aN.out hb2);have jc:=zh (zka aB.out hb2);have gV:=zh (zka aL.out hb2);have eY:=zh (zka gu.out hb2);have j3:=zh (zka eB.out hb2);have HZ2:=zh (show N+5<=w2.heap.size by have:=HZ1.out;have:=hb2.size;omega);clear hsm hb2 y0 y1 y2 wO hw1
 cases sm
 ·have HF:=zh (show RR=none from HRR.out.symm);obtain⟨q0,q1,q2⟩:=zkn eY.out;have cf:∀o,w2.frozen? ⟨N+3,o,none⟩=false:=fun o=>zf eY.out;obtain⟨w9,aP,aU,bA⟩:=st3 (.slice none 0 0) (.slice none 0 0) (.slice none 0 0) eY.out;have hk4:=aU.keep j3.out fun(e:N+4=N+3)=>by omega
  have q4:w9.cell? ⟨N+4,0,none⟩=some (.bool false):=zc hk4 rfl;have uR:∀o,w9.frozen? ⟨N+4,o,none⟩=false:=fun o=>zf hk4;obtain⟨w8,hw8,hc8,iO⟩:=setU (o:=0) (.bool false) hk4;obtain⟨t0,t1,t2⟩:=zkn (hc8.keep bA fun(e:N+3=N+4)=>by omega);have t4:w8.cell? ⟨N+4,0,none⟩=some (.bool false):=zc iO rfl;have bF:=zh (show Below W.heap.size W w8 from(HB2.out.trans (aU.below HB2.out.size fun b (e:b=N+3)=>by have:=HN.out;omega)).trans (hc8.below (Nat.le_trans HB2.out.size aU.size) fun b (e:b=N+4)=>by have:=HN.out;omega));clear aU bA hk4 hc8 iO;go_wp2_with fail;exact⟨.tuple #[.agg #[.slice none 0 0,.slice none 0 0,.slice none 0 0],.bool false],by simp[results,Tryz.results43,go_sem,t0,t1,t2,t4],bF.out,_,_,rfl,.inl ⟨HF.out,rfl,rfl⟩⟩
 obtain⟨hok,hcn⟩:=zsu HS.out;obtain⟨x0,x1,x2,x3⟩:=box4 ko.out;have hbn:=bNd1 k n nm A3 ks.length c3 w2;obtain⟨w3,hw3⟩:=zX (w2.alloc (.cells #[.int .u8 k,.int .i64 n,.string nm,.slice A3 ks.length c3] 24));have hb3:Below w2.heap.size w2 w3:=by rw[<-hw3];exact zkc zr _
 have hk3:=heap_alloc_new w2 (.cells #[.int .u8 k,.int .i64 n,.string nm,.slice A3 ks.length c3] 24);rw[hw3]at hk3;have hz3:w3.heap.size=w2.heap.size+1:=by rw[<-hw3];simp
 obtain⟨w4,hw4⟩:=zX (w3.alloc (.cells #[.slice A1 vs.length c1,.slice A2 prs.length c2,.int .u8 57,.int .i64 0,.string ⟨#[]⟩,.slice (some ⟨w2.heap.size,0,none⟩) 1 1] 55));have hb4:Below w3.heap.size w3 w4:=by rw[<-hw4];exact zkc zr _
 have hk4:=heap_alloc_new w3 (.cells #[.slice A1 vs.length c1,.slice A2 prs.length c2,.int .u8 57,.int .i64 0,.string ⟨#[]⟩,.slice (some ⟨w2.heap.size,0,none⟩) 1 1] 55);rw[hw4]at hk4;have jJ:w4.heap.size=w2.heap.size+2:=by rw[<-hw4];simp[hz3]
 rw[hz3]at hk4;have bL:=zh (zkb hb3 hb4);have av:=zh (zkb HB2.out bL.out);have aX:=zh (zka hk3 hb4);have qK:=zh hk4;have lq:=zh jJ;have HZ3:=zh hz3;obtain⟨M,hM⟩:=zX (w2.heap.size);have HM:=zh hM;obtain⟨y0,y1,y2⟩:=zkn (zka jc.out bL.out);have xm:=zh hcn;have lD:=zh hok;have gZ:=zh (fZ.out _ av.out hok);clear hb3 hk3 hz3 hb4 hk4 jJ hcn hok fZ hM;go_wp2_with fail;refine gZ.out.mono ?_;rintro e5 w5 ⟨jG,xb,lb,A9,c9,rfl,hb5,g1,g2,g3,vZ⟩;have ay:=zh hb5;have Aw:=zh (And.intro g1 (And.intro g2 g3));have jZ:=zh vZ;clear hb5 g1 g2 g3 vZ y0 y1 y2 gZ hw3 hw4 hbn x0 x1 x2 x3;go_wp2_with fail;have hpv:PV w5 (fun q=>q<M+2) (zlW vs prs (.nd k n nm ks)) (.agg #[.slice A1 vs.length c1,.slice A2 prs.length c2,.int .u8 57,.int .i64 0,.string ⟨#[]⟩,.slice (some ⟨M,0,none⟩) 1 1]):=by
  have eF:Below W.heap.size W w5:=zkb av.out ay.out;have hlt:∀b,b<W.heap.size->b<M+2:=fun b h=>by have:=HB2.out.size;have:=HM.out;omega
  refine⟨A1,c1,A2,c2,some ⟨M,0,none⟩,1,rfl,⟨(HR.out.later eF).keep (fun b h _=>hlt b h) fun _ _ _=>rfl,HL.out.1,HL.out.2.1,(HP.out.later eF).keep (fun b h _=>hlt b h) fun _ _ _=>rfl,HL.out.2.2.1,HL.out.2.2.2.1,?_⟩⟩;have hkn:=zka aX.out ay.out;rw[HM.out]at hkn;exact zyj ⟨by decide,by decide,Nat.zero_le _⟩ (by omega) hkn ((HV.out.later eF).keep (fun b h _=>hlt b h) fun _ _ _=>rfl)
 have HPV:=zh hpv;have jJ:w4.heap.size=M+2:=by rw[lq.out,HM.out]
 have hNM:N+5<=M:=by have:=HZ2.out;rw[HM.out]at this;exact this
 have HNM:=zh hNM;have HMZ:=zh jJ;have hlb:=zmx lD.out;have xu:=zh (zp8 (nf:=3-1) (S:=fun q=>w4.heap.size<=q/\q<w5.heap.size) ⟨jZ.out.ok,jZ.out.bx,jZ.out.ls,jZ.out.row.keep (fun b h hlt=>⟨h,hlt⟩) fun _ _ _=>rfl⟩ ⟨hlb.2.2.2.1,hlb.2.2.2.2⟩ ⟨by rw[hlb.1];omega,by rw[hlb.1];have:=hlb.2.1;omega⟩ fun q hq=>(hlb.2.2.1 q hq).2);clear hpv hlb;rw[HM.out,HZ3.out,HM.out];refine(wpIn_wide (n:=3)).1 ?_;refine zoE (n:=3) (gf:=79) (lb := #[ptr0 jG,ptr0 xb,ptr0 lb]) rfl (zkE zwj) xu.out (fun l x vs' g W' h=>by obtain⟨v9,rfl,-,h2,-⟩:=h;exact⟨rfl,h2⟩)
  (FaI (M+2) w5 (zom (zlW vs prs (.nd k n nm ks)) F)) (FaX (M+2) N w5 (zom (zlW vs prs (.nd k n nm ks)) F) (allS ⟨bv,bl,bi⟩ (lenE vs ⟨bv,bl,bi⟩))) (fun b=>b<M+2)
  (fun pre C W' W'' h hc=>h.chg hc fun b hb h=>h hb) (fun pre C W' W'' h hc=>h.chg (by omega) hc fun b hb h=>h hb) (fun pre C W' h b hb=>Nat.lt_of_lt_of_le ((h.1 b).1 hb) h.2.2.2) (fun pre C W' h b hb=>by obtain⟨_,_,g,X,_,_,_,_,_,_,_,_,_,_,_,_,_,h5,h6,h7,h8,_⟩:=h;rcases(h5 b).1 hb with h|h<;>omega)
  (fun b h1 h2=>by
   have:=Aw.out;rcases h2 with h|h|h|h<;>omega) (fun b h=>by
   rcases h with rfl|rfl|rfl|h
   ·exact zki jZ.out.ok
   ·exact zki jZ.out.bx
   ·exact zki jZ.out.ls
   ·exact h.2) ⟨fun _=>Iff.rfl,fun _ _=>rfl,(fun s hs=>by cases hs),by have:=ay.out.size;omega⟩ ?_ ?_ ?_
 ·rintro l pre x C W3 vs' g hI nX nW hl vN hpre ⟨sv,rfl,hsv,uH⟩;clear nX;have hxm:x∈allS ⟨bv,bl,bi⟩ (lenE vs ⟨bv,bl,bi⟩):=hpre.subset (by simp);have hxc:x.cells.length<=100:=by
   obtain⟨y,hy,rfl⟩:=List.mem_map.1 hxm;have h1:=(zvI rfl y hy).len;have h2:=zmx lD.out;simp only[stOf,List.length_dropLast];omega
  obtain⟨As,cs,Bs,ds,Ds,es,rfl⟩:∃A c B d D e,sv=.agg #[.slice A x.cells.length c,.slice B x.tin.length d,.slice D x.tout.length e]:=by
   obtain⟨A,c,B,d,D,e,rfl,-⟩:=hsv;exact⟨_,_,_,_,_,_,rfl⟩
  change Code.wpIn (Fence.wide.inRound l) (3-1-1) Tryz.prog _ _ _ _
  gi_wp2
  refine⟨(Chg.refl _ _).alloc _,fun W4 iQ=>?_⟩;have hbx:=iQ.keep (heap_alloc_new W3 (.cells #[.slice As x.cells.length cs,.slice Bs x.tin.length ds,.slice Ds x.tout.length es] 34)) (show ¬ W3.heap.size=l by omega);have dS:=zkc (zs W3) (.cells #[.slice As x.cells.length cs,.slice Bs x.tin.length ds,.slice Ds x.tout.length es] 34);have nU:=(hI.chg (Chg.of_below dS) (fun b hb h=>h)).chg iQ (fun b hb h=>nW (by have h:b=l:=h;rwa[h]at hb));have kR:SV W4 (fun q=>g<=q) x (.agg #[.slice As x.cells.length cs,.slice Bs x.tin.length ds,.slice Ds x.tout.length es]):=(hsv.later dS).keep (fun _ h _=>h) fun q h hlt=>iQ.block q hlt (fun e:q=l=>by have h:g<=q:=h;omega);obtain⟨xp,hxp⟩:=zX (W3.heap.size);rw[hxp]at hbx ⊢;have hlow:∀q,q<M+2->W4.heap[q]?=w5.heap[q]?:=fun q hq=>nU.2.1 q hq
  have rF:=(hlow (M+1) (by omega)).trans (zka (show w4.heap[M+1]?=_ by rw[<-HM.out];exact qK.out) ay.out);have hkf4:=(hlow (N+2) (by omega)).trans (zka gV.out (zkb bL.out ay.out));rw[HM.out]at rF;obtain⟨p0,p1,p2,p3,p4,p5⟩:=box6 rF;obtain⟨x0,x1,x2⟩:=zkn hbx;have z2:W4.cell? ⟨N+2,0,none⟩=some (.int .i64 F):=zc hkf4 rfl;have HI4:=zh nU;have mW:=zh kR;have aO:=zh hbx;have wI:=zh hxc;have HCLL:=zh nW;have pR:=zh (And.intro hl (And.intro vN uH));have dU:=zh hpre;clear hI hpre hbx nU kR iQ hsv hxc nW hl vN uH rF hkf4 dS hxm;change Code.wpIn (Fence.wide.inRound l) (3-1-1) Tryz.prog _ _ _ _;have hpv4:=(HPV.out.keep (w':=W4) (S':=Any) (fun _ _ _=>trivial) fun q h _=>hlow q h)
  have uw:=zh (zqN (zlW vs prs (.nd k n nm ks)) x F (F.toNat*2000+2000) _ _ W4 hpv4 mW.out.any (by have:=wI.out;omega) HL.out.2.2.2.2.1 HL.out.2.2.2.2.2 zl);have dM:=zh (show zom (zlW vs prs (.nd k n nm ks)) F x=decide ((resO (zlW vs prs (.nd k n nm ks)) x F (F.toNat*2000+2000) false).2.2.1=15)from rfl);generalize resO (zlW vs prs (.nd k n nm ks)) x F (F.toNat*2000+2000) false=R at uw dM;clear hlow hpv4
  gi_wp2
  refine⟨trivial,CallsIn.inRound l (callsIn_wide.2 (uw.out.mono ?_))⟩;rintro e6 w6 ⟨u1,u2,u3,rfl,ik,hb6,-⟩;obtain⟨A6,l6,c6,B6,m6,d6,D6,k6,f6,hv⟩:=ik.parts;injection hv with hv;simp only[Array.mk.injEq,List.cons.injEq,and_true]at hv;obtain⟨rfl,rfl,rfl⟩:=hv;clear ik;have aT:=zh hb6;clear uw hb6 p0 p1 p2 p3 p4 p5 z2 x0 x1 x2;obtain⟨R1,R2,R3,R4⟩:=R;simp only at dM ⊢;by_cases yU:R3=15
  ·have HT:=zh (show zom (zlW vs prs (.nd k n nm ks)) F x=true by rw[dM.out];exact decide_eq_true yU);have kG:∀q,q<M+2->w6.heap[q]?=w5.heap[q]?:=fun q hq=>(aT.out.block q (Nat.lt_of_lt_of_le hq HI4.out.2.2.2)).trans (HI4.out.2.1 q hq);have hk3:=(kG (N+3) (by omega)).trans (zka eY.out (zkb bL.out ay.out));have hk4:=(kG (N+4) (by omega)).trans (zka j3.out (zkb bL.out ay.out));obtain⟨x0,x1,x2⟩:=zkn (zka aO.out aT.out);obtain⟨q0,q1,q2⟩:=zkn hk3;have cf:∀o,w6.frozen? ⟨N+3,o,none⟩=false:=fun o=>zf hk3;obtain⟨w9,aP,aU,bA⟩:=st3 (.slice As x.cells.length cs) (.slice Bs x.tin.length ds) (.slice Ds x.tout.length es) hk3;have bC:=aU.keep hk4 fun(e:N+4=N+3)=>by omega
   have q4:w9.cell? ⟨N+4,0,none⟩=some (.bool false):=zc bC rfl;have uR:∀o,w9.frozen? ⟨N+4,o,none⟩=false:=fun o=>zf bC;obtain⟨w8,hw8,hc8,iO⟩:=setU (o:=0) (.bool true) bC;have hch:Chg (fun q=>q=N+3\/q=N+4) w6 w8:=(aU.mono fun q _ h=>.inl h).trans2 hc8 fun q _ h=>.inr h;have jg:=zh (show FaX (M+2) N w5 (zom (zlW vs prs (.nd k n nm ks)) F) (allS ⟨bv,bl,bi⟩ (lenE vs ⟨bv,bl,bi⟩)) (pre++[x]) (fun b=>b<M+2\/(g<=b/\b<w8.heap.size)) w8 from
    ⟨pre,x,g,w8.heap.size,As,_,cs,Bs,_,ds,Ds,_,es,rfl,dU.out,HI4.out.2.2.1,HT.out,fun b=>Iff.rfl,(by have:=pR.out;have:=ay.out.size;omega),zl,Nat.le_trans HI4.out.2.2.2 (Nat.le_trans aT.out.size hch.size),
     fun b hb n3 n4=>(hch.block b (Nat.lt_of_lt_of_le hb (Nat.le_trans HI4.out.2.2.2 aT.out.size)) fun h=>by rcases h with h|h;exact n3 h;exact n4 h).trans (kG b hb),
     hc8.keep bA (fun(e:N+3=N+4)=>by omega),iO,(mW.out.later aT.out).keep (fun q h hlt=>⟨h,Nat.lt_of_lt_of_le hlt hch.size⟩) fun q h hlt=>hch.block q hlt fun e=>by have h:g<=q:=h;have:=pR.out;have:=ay.out.size;rcases e with e|e<;>omega⟩)
   have bH:=zh (show Chg C W4 w8 from(Chg.of_below aT.out).trans2 hch fun q _ e=>(HI4.out.1 q).2 (by rcases e with e|e<;>omega));clear kG hk3 hk4 aU bA bC hc8 iO hch;subst yU;have hfl:(Instr.field 91 (.agg #[.slice A6 l6 c6,.slice B6 m6 d6,.slice D6 k6 f6,.int .i64 (R2:Int),.int .i64 15]) 2).run Tryz.prog w6=.ok (.int .i64 15) w6:=by kernel_rfl
   gi_wp2
   exact⟨_,jg.out,(fun b hb=>by rcases hb with h|h;exact .inl ((HI4.out.1 b).2 h);exact .inr h.1),bH.out⟩
  ·have HT:=zh (show zom (zlW vs prs (.nd k n nm ks)) F x=false by rw[dM.out];exact decide_eq_false yU);have hfl:(Instr.field 91 (.agg #[.slice A6 l6 c6,.slice B6 m6 d6,.slice D6 k6 f6,.int .i64 (R2:Int),.int .i64 R3]) 2).run Tryz.prog w6=.ok (.int .i64 R3) w6:=by kernel_rfl
   gi_wp2
   refine⟨C,⟨HI4.out.1,fun b hb=>(aT.out.block b (Nat.lt_of_lt_of_le hb HI4.out.2.2.2)).trans (HI4.out.2.1 b hb),fun s hs=>?_,Nat.le_trans HI4.out.2.2.2 aT.out.size⟩,fun b hb=>.inl hb,Chg.of_below aT.out⟩;rcases List.mem_append.1 hs with hs|hs
   ·exact HI4.out.2.2.1 s hs
   ·rw[List.mem_singleton.1 hs];exact HT.out
 ·intro D C W' hD hI hch hK;have hk3:=(hI.2.1 (N+3) (by omega)).trans (zka eY.out (zkb bL.out ay.out));have hk4:=(hI.2.1 (N+4) (by omega)).trans (zka j3.out (zkb bL.out ay.out));have bu:Chg (fun _=>False) w5 W':=⟨hch.1,hch.2,hch.3,hch.4,fun q hlt _=>by
   by_cases hq:q<M+2
   ·exact hI.2.1 q hq
   ·exact hch.block q hlt hq⟩
  have dP:=zh (show Below W.heap.size W W' from(zkb av.out ay.out).trans (bu.below (zkb av.out ay.out).size fun b h=>h.elim));clear bu;have HF:=zh (show RR=none by rw[<-HRR.out];exact List.find?_eq_none.2 fun s hs=>by rw[hI.2.2.1 s hs];simp);obtain⟨q0,q1,q2⟩:=zkn hk3;have cf:∀o,W'.frozen? ⟨N+3,o,none⟩=false:=fun o=>zf hk3;obtain⟨w9,aP,aU,bA⟩:=st3 (.slice none 0 0) (.slice none 0 0) (.slice none 0 0) hk3;have bC:=aU.keep hk4 fun(e:N+4=N+3)=>by omega
  have q4:w9.cell? ⟨N+4,0,none⟩=some (.bool false):=zc bC rfl;have uR:∀o,w9.frozen? ⟨N+4,o,none⟩=false:=fun o=>zf bC;obtain⟨w8,hw8,hc8,iO⟩:=setU (o:=0) (.bool false) bC;have gL:Chg (fun q=>q=N+3\/q=N+4) W' w8:=(aU.mono fun q _ h=>.inl h).trans2 hc8 fun q _ h=>.inr h;have bH:=zh gL;have xg:=zh (hc8.keep bA (fun(e:N+3=N+4)=>by omega));have qM:=zh iO;have HK:=zh (gL.keep hK (fun e=>by have:=ay.out.size;have:D=w5.heap.size:=hD;rcases e with e|e<;>omega));have HD:=zh (show w5.heap.size=D from hD.symm);clear hk3 hk4 aU bA bC hc8 iO gL hI hch hK hD;go_wp2_with fail;clear q0 q1 q2 q4 cf uR;refine⟨by simp,.inl ⟨_,_,rfl,run_takeDeferred HK.out,?_⟩⟩;have hcd:Chg (fun q=>q=N+3\/q=N+4\/q=D) W' (w8.putObj D (.deferred none)):=(bH.out.mono fun b _ h=>h.elim .inl fun h=>.inr (.inl h)).trans2 (Chg.putObj w8 D (.deferred none)) fun b _ h=>.inr (.inr h)
  have bR:=(Chg.putObj w8 D (.deferred none)).keep xg.out (fun(e:N+3=D)=>by have:=HD.out;have:=ay.out.size;omega);have fG:=(Chg.putObj w8 D (.deferred none)).keep qM.out (fun(e:N+4=D)=>by have:=HD.out;have:=ay.out.size;omega);obtain⟨t0,t1,t2⟩:=zkn bR;have t4:(w8.putObj D (.deferred none)).cell? ⟨N+4,0,none⟩=some (.bool false):=zc fG rfl;exact⟨.tuple #[.agg #[.slice none 0 0,.slice none 0 0,.slice none 0 0],.bool false],by simp[results,Tryz.results43,go_sem,t0,t1,t2,t4],dP.out.trans (hcd.below dP.out.size fun b h=>by
   have:=HD.out;have:=ay.out.size;have:=av.out.size;have:=HN.out;rcases h with h|h|h<;>omega),_,_,rfl,.inl ⟨HF.out,rfl,rfl⟩⟩
 ·intro D pre C W' hD hX hch hK;obtain⟨dB,s,g,X,As,ls,cs,Bs,ms,ds,Ds,ks',es,rfl,h2,h3,h4,h5,h6,h7,h8,h9,h10,h11,h12⟩:=hX;have uP:N+4<D:=by have:D=w5.heap.size:=hD;have:=ay.out.size;omega
  have HF:=zh (show RR=some s by
   rw[<-HRR.out];obtain⟨ys,hys⟩:=h2;simp only[if_pos];rw[<-hys,List.find?_append,List.find?_append,List.find?_eq_none.2 fun q hq=>by rw[h3 q hq];simp];simp[h4])
  have bu:Chg (fun b=>b=N+3\/b=N+4) w5 W':=⟨hch.1,hch.2,hch.3,hch.4,fun q hlt hn=>by
   by_cases hq:q<M+2
   ·exact h9 q hq (fun e=>hn (.inl e)) (fun e=>hn (.inr e))
   ·exact hch.block q hlt hq⟩
  have hbd:=(zkb av.out ay.out).trans (bu.below (zkb av.out ay.out).size fun b h=>by have:=HN.out;rcases h with h|h<;>omega);have dP:=zh hbd;have HK:=zh hK;have HS:=zh h12;have bU:=zh h10;have wU:=zh h11;have HG:=zh (And.intro h6 (And.intro h7 uP));have HD:=zh (show w5.heap.size=D from hD.symm);clear h2 h3 h4 h5 h6 h7 h8 h9 h10 h11 h12 bu hbd hch hK hD uP;refine wpIn_ret ?_;simp only[Exit.inBlock,Exit.then];refine⟨by simp,.inl ⟨_,_,rfl,run_takeDeferred HK.out,?_⟩⟩;have hcd:=Chg.putObj W' D (.deferred none);have bR:=hcd.keep bU.out (fun(e:N+3=D)=>by have:=HG.out;omega);have fG:=hcd.keep wU.out (fun(e:N+4=D)=>by have:=HG.out;omega);obtain⟨t0,t1,t2⟩:=zkn bR;have t4:(W'.putObj D (.deferred none)).cell? ⟨N+4,0,none⟩=some (.bool true):=zc fG rfl
  exact⟨.tuple #[.agg #[.slice As ls cs,.slice Bs ms ds,.slice Ds ks' es],.bool true],by simp[results,Tryz.results43,go_sem,t0,t1,t2,t4],dP.out.trans (hcd.below dP.out.size fun b h=>by
   have h:b=D:=h;have:=HD.out;have:=ay.out.size;have:=av.out.size;omega),_,_,rfl,.inr ⟨s,HF.out,rfl,HS.out.keep (fun q h _=>by have:=HG.out;have:=av.out.size;have:=HN.out;have:=bL.out.size;have:=lq.out;have:=HM.out;have:=HB2.out.size;omega) fun q h hlt=>hcd.block q hlt fun e=>by have h:g<=q:=h.1;have e:q=D:=e;have:=HG.out;have:=HD.out;omega⟩⟩
end
section
open Go Go.RowKit
attribute [local go_sem] Oper.semAt_some
theorem st6{W:World}{b:Nat}{a0 a1 a2 a3 a4 a5:Value}{ty:TypeId}(v0 v1 v2 v3 v4 v5:Value)(h:W.heap[b]?=some (.cells #[a0,a1,a2,a3,a4,a5] ty (0,0))) :
  ∃W',(((((W.setCell ⟨b,0,none⟩ v0).setCell ⟨b,1,none⟩ v1).setCell ⟨b,2,none⟩ v2).setCell ⟨b,3,none⟩ v3).setCell ⟨b,4,none⟩ v4).setCell ⟨b,5,none⟩ v5=W'/\Chg (fun q=>q=b) W W'/\W'.heap[b]?=some (.cells #[v0,v1,v2,v3,v4,v5] ty (0,0)):=by
 obtain⟨W0,h0,c0,k0⟩:=setU (o:=0) v0 h;obtain⟨W1,h1,c1,k1⟩:=setU (o:=1) v1 k0;obtain⟨W2,h2,c2,k2⟩:=setU (o:=2) v2 k1;obtain⟨W3,h3,c3,k3⟩:=setU (o:=3) v3 k2;obtain⟨W4,h4,c4,k4⟩:=setU (o:=4) v4 k3;obtain⟨W5,h5,c5,k5⟩:=setU (o:=5) v5 k4;refine⟨W5,by rw[h0,h1,h2,h3,h4,h5],((((c0.trans2 c1 fun b _ h=>h).trans2 c2 fun b _ h=>h).trans2 c3 fun b _ h=>h).trans2 c4 fun b _ h=>h).trans2 c5 fun b _ h=>h,?_⟩;rw[k5];simp
theorem zyL(w:World):(Instr.makeMap 79 none).run Tryz.prog w=.ok (.map (some w.heap.size)) (w.alloc (.map #[] 0)):=by kernel_rfl
def LoC(B D:Nat)(C:Nat->Prop)(W:World):Prop:=(∀b,b<B->C b)/\(∀b,C b->b<B\/D<b)/\(∀b,C b->b<W.heap.size)
def LoI(B mb:Nat)(w5:World)(vs:List VD)(f:SS->Option SS)(pre:List SS)(C:Nat->Prop)(W:World):Prop :=
 LoC B w5.heap.size C W/\(∀b,b<B->b≠mb->W.heap[b]?=w5.heap[b]?)/\zoq f pre/\LoM W mb vs f pre (fun b=>C b/\B<=b)
def LoX(B mb N:Nat)(w5:World)(f:SS->Option SS)(xs pre:List SS)(C:Nat->Prop)(W:World):Prop:=∃dB q s x x0 x1 x2 x3 x4 x5,pre=dB++[s]/\pre <+: xs/\zoq f dB/\f s=some x/\dB.find? (hitE f x)=some q /\
 LoC B w5.heap.size C W/\(∀b,b<B->b≠mb->b≠N+3->b≠N+4->W.heap[b]?=w5.heap[b]?)/\W.heap[N+3]?=some (.cells #[x0,x1,x2,x3,x4,x5] 36 (0,0))/\W.heap[N+4]?=some (.cells #[.bool true] 4 (0,0)) /\
 SV W (fun b=>C b/\B<=b) q (.agg #[x0,x1,x2])/\SV W (fun b=>C b/\B<=b) s (.agg #[x3,x4,x5])
theorem LoC.chg{B D:Nat}{C:Nat->Prop}{W W':World}(h:LoC B D C W)(hs:W.heap.size<=W'.heap.size):LoC B D C W':=⟨h.1,h.2.1,fun b hb=>Nat.lt_of_lt_of_le (h.2.2 b hb) hs⟩
theorem LoI.chg{B mb:Nat}{w5 W W':World}{vs:List VD}{f:SS->Option SS}{pre:List SS}{C D:Nat->Prop}(h:LoI B mb w5 vs f pre C W)(hm:mb<B)(hc:Chg D W W')(hD:∀b,C b->¬ D b):LoI B mb w5 vs f pre C W' :=
 ⟨h.1.chg hc.size,fun b hb hn=>(hc.block b (h.1.2.2 b (h.1.1 b hb)) (hD b (h.1.1 b hb))).trans (h.2.1 b hb hn),h.2.2.1,h.2.2.2.keep (hc.block mb (h.1.2.2 mb (h.1.1 mb hm)) (hD mb (h.1.1 mb hm))) (fun _ h _=>h) fun b hb hlt=>hc.block b hlt (hD b hb.1)⟩
theorem LoX.chg{B mb N:Nat}{w5 W W':World}{f:SS->Option SS}{xs pre:List SS}{C D:Nat->Prop}(h:LoX B mb N w5 f xs pre C W)(hN:N+4<B)(hc:Chg D W W')(hD:∀b,C b->¬ D b):LoX B mb N w5 f xs pre C W':=by
 obtain⟨dB,q,s,x,x0,x1,x2,x3,x4,x5,h1,h2,h3,h4,h5,h6,h7,h8,h9,h10,h11⟩:=h;refine⟨dB,q,s,x,x0,x1,x2,x3,x4,x5,h1,h2,h3,h4,h5,h6.chg hc.size,fun b hb a1 a2 a3=>(hc.block b (h6.2.2 b (h6.1 b hb)) (hD b (h6.1 b hb))).trans (h7 b hb a1 a2 a3),hc.keep h8 (hD _ (h6.1 _ (by omega))),hc.keep h9 (hD _ (h6.1 _ hN)),h10.keep (fun _ h _=>h) fun b hb hlt=>hc.block b hlt (hD b hb.1),h11.keep (fun _ h _=>h) fun b hb hlt=>hc.block b hlt (hD b hb.1)⟩
theorem zvH{vs:List VD}{b:BX}(h:(b.ok&&svB vs)=true)(hc:cntE (2*b.v+1) (lenE vs b)<=65536):(allS b (lenE vs b)).length<=65536:=by
 obtain⟨-,-,h1,h2,h3⟩:=zmx h;obtain⟨m,hm⟩:∃m:Nat,2*b.v+1=m:=⟨(2*b.v+1).toNat,by omega⟩
 have h4:=zvJ (v:=m) (by omega) (by unfold maxC;omega) (fun q hq=>(h1 q hq).1) (bs:=lenE vs b) (by rw[<-hm];unfold maxC;omega);rw[<-hm]at h4;simp only[allS,List.length_map];omega
def LosP(r:Option (SS×SS))(W:World)(e:Ending)(W':World):Prop:=Below W.heap.size W W'/\∃x0 x1 x2 x3 x4 x5 b,e=.returned (.tuple #[.agg #[x0,x1,x2,x3,x4,x5],.bool b]) /\
 ((r=none/\b=false /\ #[x0,x1,x2,x3,x4,x5] = #[.slice none 0 0,.slice none 0 0,.slice none 0 0,.slice none 0 0,.slice none 0 0,.slice none 0 0]) \/
  ∃q s,r=some (q,s)/\b=true/\SV W' (fun p=>W.heap.size<=p) q (.agg #[x0,x1,x2])/\SV W' (fun p=>W.heap.size<=p) s (.agg #[x3,x4,x5]))
def losE(t:T)(vs:List VD)(b:BX):Option (SS×SS):=if smlE vs b=true then znu (cdE vs t) [] (allS b (lenE vs b))else none
theorem zvq{W:World}{base n:Nat}{A:Option Addr}{c:Nat}{xs:List Int}(h:W.ownsRow base 5 1 (.slice A n c) n (zkP xs))(hx:xs.length=n)(hn:0<n):(convert 83 9 (.slice A n c)).run Tryz.prog W=.ok (.string (strS xs)) W/\n<=maxLen:=by
 rcases h.2 with⟨h1,h2⟩|⟨g,cap,cur,hv,-,-,h2,h3,-⟩
 ·omega
 injection hv with e1 e2 e3;subst e1 e3;refine⟨?_,Nat.le_trans h2 h3⟩;rw[run_convert_bytes_string W _ _ 5 _ _ _ Tryz.underlying83 Tryz.underlying5 Tryz.underlying9,run_bytesToString W _ _ _ xs ?_]
 ·rfl
 ·have h2:=run_loadCells_list (P:=Tryz.prog) (w:=W) ⟨g,0,none⟩ (zkP xs) fun j v hj=>by
   have hl:j<(zkP xs).length:=(List.getElem?_eq_some_iff.1 hj).1;have h3:=h.cellAt j (by simpa[zkP,hx]using hl);by_cases j0:j=0
   ·subst j0;exact h3.trans hj
   ·simp only[Addr.add,if_neg j0,Nat.zero_add];exact h3.trans hj
  simpa[zkP,hx]using h2
theorem zsq(xs:List Int):(strS xs).size=xs.length:=by
 show(strS xs).data.size=xs.length
 rw[<-Array.length_toList,zpC,bysS,List.length_map]
def nilV:Value:=.agg #[.slice none 0 0,.slice none 0 0,.slice none 0 0]
theorem zStV(w:World):(zeroValue 34).run Tryz.prog w=.ok nilV w:=by kernel_rfl
theorem kMS{vs:List VD}{y:SS}(h:(encS vs y).length<=maxLen):keyOf Tryz.prog 9 (.string (strS (encS vs y)))=some (kS vs y):=by
 rw[WideMaps.keyOf_string_mk Tryz.underlying9 (by rw[zsq];exact h),zpC];rfl
theorem zxB{W:World}{mb n:Nat}{D:DataW Value}{vs:List VD}{y:SS}(h:W.ownsMap Tryz.prog 9 hR mb n D)(hl:(encS vs y).length<=maxLen):∃v,(Instr.lookup 79 (.map (some mb)) (.string (strS (encS vs y))) true).run Tryz.prog W=.ok (.tuple #[v,.bool (Maps.has D (kS vs y))]) W/\D.atKey (kS vs y) (.held nilV)=.held v:=by
 obtain⟨v,ps,h1,h2⟩:=h.look_ok (Maps.string_keyed Tryz.underlying9) Tryz.underlying79 (zStV W) (zd:=.held nilV) (zp:=[]) rfl (kMS hl);refine⟨v,h1,?_⟩;unfold hR at h2;injection h2 with h2;injection h2 with h2;exact h2.symm
theorem zyk{W:World}{mb n:Nat}{D:DataW Value}{vs:List VD}{y:SS}(h:W.ownsMap Tryz.prog 9 hR mb n D)(hl:(encS vs y).length<=maxLen)(hn:n<maxLen)(v:Value):∃W',(Instr.mapUpdate 79 (.map (some mb)) (.string (strS (encS vs y))) v).run Tryz.prog W=.ok () W'/\W'.ownsMap Tryz.prog 9 hR mb (n+1) (D.put (kS vs y) (.held v))/\Chg (fun b=>b=mb) W W':=by
 obtain⟨W',h1,h2,h3⟩:=h.store (Maps.string_keyed Tryz.underlying9) Tryz.underlying79 hn (kMS hl) (val:=v) (d:=.held v) (ps:=[]) rfl;refine⟨W',h1,h2,(Chg.row h3.grown).mono fun b _ e=>?_⟩;injection e with e;exact e.symm
theorem ztU{W:World}{vs:List VD}{b:BX}{t:T}{v:Value}{A1:Option Addr}{c1:Nat}(hv:NV W Any t v)(hr:RowV W Any A1 vs)(hl:vs.length<=LV) :
  Calls Tryz.prog 12 #[v,.slice A1 vs.length c1,.agg #[.int .i64 b.v,.int .i64 b.l,.int .i64 b.i]] W (LosP (losE t vs b) W):=by
 obtain⟨RR,hRR⟩:=zX (losE t vs b);rw[hRR];have HRR:=zh hRR;clear hRR;unfold losE at HRR;have wO:=zh (fun w' (hb:Below W.heap.size W w')=>zoC vs b A1 c1 w' (hr.later hb) hl);have fZ:=zh (fun w' (hb:Below W.heap.size W w') hok=>zuj vs b A1 c1 w' (hr.later hb) hl hok);have HV:=zh (hv.keep (S':=fun b=>b<W.heap.size) (fun _ _ h=>h) fun _ _ _=>rfl);have HR:=zh (hr.keep (S':=fun b=>b<W.heap.size) (fun _ _ h=>h) fun _ _ _=>rfl);have HL:=zh hl;obtain⟨A3,c3,rfl,-⟩:=hv.open_;obtain⟨k,n,nm,ks⟩:=t;obtain⟨bv,bl,bi⟩:=b;simp only[T.k_nd,T.n_nd,T.s_nd,T.ks_nd]at HV ⊢;obtain⟨N,hN⟩:=zX (W.heap.size);have HN:=zh hN
 obtain⟨hb1,hz1,k0,k1,k2,k3,k4⟩:=al5 W (.cells #[.int .u8 k,.int .i64 n,.string nm,.slice A3 ks.length c3] 24) (.cells #[.slice A1 vs.length c1] 25) (.cells #[.int .i64 bv,.int .i64 bl,.int .i64 bi] 27) (.cells #[.slice none 0 0,.slice none 0 0,.slice none 0 0,.slice none 0 0,.slice none 0 0,.slice none 0 0] 36) (.cells #[.bool false] 4);obtain⟨w1,hw1⟩:=zX (((((W.alloc (.cells #[.int .u8 k,.int .i64 n,.string nm,.slice A3 ks.length c3] 24)).alloc (.cells #[.slice A1 vs.length c1] 25)).alloc (.cells #[.int .i64 bv,.int .i64 bl,.int .i64 bi] 27)).alloc (.cells #[.slice none 0 0,.slice none 0 0,.slice none 0 0,.slice none 0 0,.slice none 0 0,.slice none 0 0] 36)).alloc (.cells #[.bool false] 4));rw[hw1]at hb1 hz1 k0 k1 k2 k3 k4;rw[hN]at hz1 k0 k1 k2 k3 k4;have HB1:=zh hb1;have HZ1:=zh hz1;have aN:=zh k0;have aB:=zh k1;have aL:=zh k2;have gu:=zh k3;have eB:=zh k4
 obtain⟨y0,y1,y2⟩:=zkn k2;have yv:w1.cell? ⟨N+1,0,none⟩=some (.slice A1 vs.length c1):=zc k1 rfl;clear hv hr hl hb1 hz1 k0 k1 k2 k3 k4
 show Calls Tryz.prog 12 #[.agg #[.int .u8 k,.int .i64 n,.string nm,.slice A3 ks.length c3],.slice A1 vs.length c1,.agg #[.int .i64 bv,.int .i64 bl,.int .i64 bi]] W _
 refine(callsIn_wide (n:=3)).1 (callsIn_of_wp_marks Tryz.func12 rfl trivial ((wpIn_wide (n:=3)).2 ?_));simp only[Tryz.ntmps12,List.size_toArray,List.length_cons,List.length_nil,Nat.reduceAdd,Nat.reduceSub,Array.replicate_succ,Array.replicate_zero,List.push_toArray,List.append_toArray,List.nil_append,List.cons_append];go_wp2_with fail;refine(wO.out _ HB1.out).mono ?_;rintro e2 w2 ⟨rfl,hb2⟩;obtain⟨sm,hsm⟩:=zX (smlE vs ⟨bv,bl,bi⟩);have HS:=zh hsm;rw[hsm]at HRR ⊢;have HB2:=zh (zkb HB1.out hb2);have ko:=zh (zka aN.out hb2);have jc:=zh (zka aB.out hb2);have gV:=zh (zka aL.out hb2);have eY:=zh (zka gu.out hb2);have j3:=zh (zka eB.out hb2);have HZ2:=zh (show N+5<=w2.heap.size by have:=HZ1.out;have:=hb2.size;omega);clear hsm hb2 y0 y1 y2 yv wO hw1
 cases sm
 ·have HF:=zh (show RR=none from HRR.out.symm);obtain⟨q0,q1,q2,q3,q4,q5⟩:=box6 eY.out;have cf:∀o,w2.frozen? ⟨N+3,o,none⟩=false:=fun o=>zf eY.out;obtain⟨w9,aP,aU,bA⟩:=st6 (.slice none 0 0) (.slice none 0 0) (.slice none 0 0) (.slice none 0 0) (.slice none 0 0) (.slice none 0 0) eY.out;have bC:=aU.keep j3.out fun(e:N+4=N+3)=>by omega
  have qb:w9.cell? ⟨N+4,0,none⟩=some (.bool false):=zc bC rfl;have uR:∀o,w9.frozen? ⟨N+4,o,none⟩=false:=fun o=>zf bC;obtain⟨w8,hw8,hc8,iO⟩:=setU (o:=0) (.bool false) bC;have gL:Chg (fun q=>q=N+3\/q=N+4) w2 w8:=(aU.mono fun q _ h=>.inl h).trans2 hc8 fun q _ h=>.inr h;have bH:=zh gL;have xg:=zh (hc8.keep bA (fun(e:N+3=N+4)=>by omega));have qM:=zh iO;clear aU bA bC hc8 iO gL;go_wp2_with fail;obtain⟨t0,t1,t2,t3,t4,t5⟩:=box6 xg.out;have tb:w8.cell? ⟨N+4,0,none⟩=some (.bool false):=zc qM.out rfl;exact⟨.tuple #[.agg #[.slice none 0 0,.slice none 0 0,.slice none 0 0,.slice none 0 0,.slice none 0 0,.slice none 0 0],.bool false],by simp[results,Tryz.results12,go_sem,t0,t1,t2,t3,t4,t5,tb],HB2.out.trans (bH.out.below HB2.out.size fun b h=>by
   have:=HN.out;rcases h with h|h<;>omega),_,_,_,_,_,_,_,rfl,.inl ⟨HF.out,rfl,rfl⟩⟩
 obtain⟨hok,hcn⟩:=zsu HS.out;have hbn:=zyL w2;obtain⟨w3,hw3⟩:=zX (w2.alloc (.map #[] 0));have hb3:Below w2.heap.size w2 w3:=by rw[<-hw3];exact zkc zr _
 obtain⟨M,hM⟩:=zX (w2.heap.size);have HM:=zh hM;have nu:=zh (show LoM w3 M vs (cdE vs (.nd k n nm ks)) [] (fun _=>False)from by rw[<-hw3,<-hM];exact LoM.made _ _ _ _);have hz3:w3.heap.size=M+1:=by rw[<-hw3,<-hM];simp
 obtain⟨w4,hw4⟩:=zX (w3.alloc (.cells #[.map (some M)] 79));have hb4:Below w3.heap.size w3 w4:=by rw[<-hw4];exact zkc zr _
 have hk4:=heap_alloc_new w3 (.cells #[.map (some M)] 79);rw[hw4,hz3]at hk4;have jJ:w4.heap.size=M+2:=by rw[<-hw4];simp[hz3]
 have bL:=zh (zkb hb3 hb4);have HB34:=zh hb4;have av:=zh (zkb HB2.out bL.out);have qK:=zh hk4;have lq:=zh jJ;have HZ3:=zh hz3;obtain⟨y0,y1,y2⟩:=zkn (zka gV.out bL.out);have yv:w4.cell? ⟨N+1,0,none⟩=some (.slice A1 vs.length c1):=zc (zka jc.out bL.out) rfl;have xm:=zh hcn;have lD:=zh hok;have gZ:=zh (fZ.out _ av.out hok);clear hb3 hz3 hb4 hk4 jJ hcn hok fZ;go_wp2_with fail;refine gZ.out.mono ?_;rintro e5 w5 ⟨jG,xb,lb,A9,c9,rfl,hb5,g1,g2,g3,vZ⟩;have ay:=zh hb5;have Aw:=zh (And.intro g1 (And.intro g2 g3));have jZ:=zh vZ;clear hb5 g1 g2 g3 vZ y0 y1 y2 yv gZ hw3 hw4 hbn;go_wp2_with fail;obtain⟨f,hf⟩:=zX (cdE vs (.nd k n nm ks));rw[hf]at nu HRR;have uf:=zh hf;clear hf;have jJ:w4.heap.size=M+2:=lq.out;have hNM:N+5<=M:=by have:=HZ2.out;rw[HM.out]at this;exact this
 have HNM:=zh hNM;have HMZ:=zh jJ;have nM:M+2<=w5.heap.size:=by have:=ay.out.size;omega
 have jy:=zh nM;have hlb:=zmx lD.out;have xu:=zh (zp8 (nf:=3-1) (S:=fun q=>w4.heap.size<=q/\q<w5.heap.size) ⟨jZ.out.ok,jZ.out.bx,jZ.out.ls,jZ.out.row.keep (fun b h hlt=>⟨h,hlt⟩) fun _ _ _=>rfl⟩ ⟨hlb.2.2.2.1,hlb.2.2.2.2⟩ ⟨by rw[hlb.1];omega,by rw[hlb.1];have:=hlb.2.1;omega⟩ fun q hq=>(hlb.2.2.1 q hq).2);have h0I:LoI (M+2) M w5 vs f [] (fun b=>b<M+2) w5:=by
  have kY:=zkb HB34.out ay.out;refine⟨⟨fun b h=>h,fun b h=>.inl h,fun b h=>Nat.lt_of_lt_of_le h nM⟩,fun _ _ _=>rfl,fun a s b e=>by simp at e,nu.out.keep (kY.block M (by rw[HZ3.out];omega)) (fun _ h=>h.elim) fun _ h=>h.elim⟩
 have H0I:=zh h0I;clear hlb h0I;refine(wpIn_wide (n:=3)).1 ?_;refine zoE (n:=3) (gf:=79) (lb := #[ptr0 jG,ptr0 xb,ptr0 lb]) rfl (zkE zwj) xu.out (fun l x vs' g W' h=>by obtain⟨v9,rfl,-,h2,-⟩:=h;exact⟨rfl,h2⟩)
  (LoI (M+2) M w5 vs f) (LoX (M+2) M N w5 f (allS ⟨bv,bl,bi⟩ (lenE vs ⟨bv,bl,bi⟩))) (fun b=>b<M+2)
  (fun pre C W' W'' h hc=>h.chg (by omega) hc fun b hb h=>h hb) (fun pre C W' W'' h hc=>h.chg (by omega) hc fun b hb h=>h hb) (fun pre C W' h b hb=>h.1.2.2 b hb) (fun pre C W' h b hb=>by obtain⟨_,_,_,_,_,_,_,_,_,_,_,_,_,_,_,h6,_⟩:=h;exact h6.2.2 b hb)
  (fun b h1 h2=>by
   have:=Aw.out;rcases h2 with h|h|h|h<;>omega) (fun b h=>by
   rcases h with rfl|rfl|rfl|h
   ·exact zki jZ.out.ok
   ·exact zki jZ.out.bx
   ·exact zki jZ.out.ls
   ·exact h.2) H0I.out ?_ ?_ ?_
 ·rintro l pre x C W3 vs' g hI nX nW hl vN hpre ⟨sv,rfl,hsv,uH⟩;clear nX;obtain⟨As,cs,Bs,ds,Ds,es,rfl⟩:∃A c B d D e,sv=.agg #[.slice A x.cells.length c,.slice B x.tin.length d,.slice D x.tout.length e]:=by
   obtain⟨A,c,B,d,D,e,rfl,-⟩:=hsv;exact⟨_,_,_,_,_,_,rfl⟩
  change Code.wpIn (Fence.wide.inRound l) (3-1-1) Tryz.prog _ _ _ _
  gi_wp2
  refine⟨(Chg.refl _ _).alloc _,fun W4 iQ=>?_⟩;have hbx:=iQ.keep (heap_alloc_new W3 (.cells #[.slice As x.cells.length cs,.slice Bs x.tin.length ds,.slice Ds x.tout.length es] 34)) (show ¬ W3.heap.size=l by omega);have dS:=zkc (zs W3) (.cells #[.slice As x.cells.length cs,.slice Bs x.tin.length ds,.slice Ds x.tout.length es] 34);have nU:=(hI.chg (by omega) (Chg.of_below dS) (fun b hb h=>h)).chg (by omega) iQ (fun b hb h=>nW (by have h:b=l:=h;rwa[h]at hb));have kR:SV W4 (fun q=>g<=q) x (.agg #[.slice As x.cells.length cs,.slice Bs x.tin.length ds,.slice Ds x.tout.length es]):=(hsv.later dS).keep (fun _ h _=>h) fun q h hlt=>iQ.block q hlt (fun e:q=l=>by have h:g<=q:=h;omega);obtain⟨xp,hxp⟩:=zX (W3.heap.size);have hxpl:l<xp:=by omega
  rw[hxp]at hbx ⊢;have hlow:∀q,q<M->W4.heap[q]?=w5.heap[q]?:=fun q hq=>nU.2.1 q (by omega) (by omega);have oD:∀q,q<w2.heap.size->W4.heap[q]?=w2.heap[q]?:=fun q hq=>(hlow q (by rw[<-HM.out];exact hq)).trans ((zkb bL.out ay.out).block q hq);have hk0:=(oD N (zki ko.out)).trans ko.out;have hk1:=(oD (N+1) (zki jc.out)).trans jc.out;have hwn:∀q,q<W.heap.size->W4.heap[q]?=W.heap[q]?:=fun q hq=>(oD q (Nat.lt_of_lt_of_le hq HB2.out.size)).trans (HB2.out.block q hq);have xQ:=zh hwn;obtain⟨p0,p1,p2,p3⟩:=box4 hk0;obtain⟨x0,x1,x2⟩:=zkn hbx;have zv:W4.cell? ⟨N+1,0,none⟩=some (.slice A1 vs.length c1):=zc hk1 rfl;have HK1W:=zh hk1;have HI4:=zh nU;have mW:=zh kR;have aO:=zh hbx;have HCLL:=zh nW;have pR:=zh (And.intro hl (And.intro hxpl uH));have dU:=zh hpre;have HRW:=zh (HR.out.keep (w':=W4) (S':=Any) (fun _ _ _=>trivial) fun q h _=>hwn q h)
  have fU:=zh (zoY (c:=c1) (HV.out.keep (w':=W4) (S':=Any) (fun _ _ _=>trivial) fun q h _=>hwn q h) HRW.out HL.out kR.any);have jg:=zh (show f x=cdE vs (.nd k n nm ks) x by rw[uf.out]);unfold cdE at jg;generalize asgE vs (.nd k n nm ks) x=R at fU jg;clear hI hpre hbx nU kR iQ hsv nW hl vN uH hlow hk0 hk1 oD hwn dS hxpl;change Code.wpIn (Fence.wide.inRound l) (3-1-1) Tryz.prog _ _ _ _
  gi_wp2
  refine⟨trivial,CallsIn.inRound l (callsIn_wide.2 (fU.out.mono ?_))⟩;rintro e6 w6 ⟨hb6,u6,rfl,ik,mr⟩;obtain⟨er,y⟩:=R;simp only at ik mr jg ⊢;obtain⟨Ay,cy,By,dy,Dy,ey,rfl⟩:=ik.slices;have lY:=zh ik;have aT:=zh hb6;have iY:=zh mr;clear fU hb6 ik mr p0 p1 p2 p3 x0 x1 x2 zv;obtain⟨w7,hw7⟩:=zX (w6.alloc (.cells #[.slice Ay y.cells.length cy,.slice By y.tin.length dy,.slice Dy y.tout.length ey] 34));have oZ:Below w6.heap.size w6 w7:=by rw[<-hw7];exact zkc zr _
  have kH:=heap_alloc_new w6 (.cells #[.slice Ay y.cells.length cy,.slice By y.tin.length dy,.slice Dy y.tout.length ey] 34);rw[hw7]at kH;obtain⟨yp,hyp⟩:=zX (w6.heap.size);rw[hyp]at kH;have HYP:=zh hyp;have tN:=zh kH;have gX:=zh oZ;have nJ:=zh (zkb aT.out oZ);have HSY:=zh ((lY.out.svR iY.out).later oZ);have HIY:=zh (show y.I from by obtain⟨_,_,_,_,_,_,h⟩:=lY.out;exact h);clear oZ kH hyp;have HSKIP:=zh (show ∀W',Below W4.heap.size W4 W'->f x=none->∃C',LoI (M+2) M w5 vs f (pre++[x]) C' W'/\(∀b,C' b->C b\/g<=b)/\Chg C W4 W' from fun W' hb hn =>
   have h:=HI4.out.chg (by omega) (Chg.of_below hb) (fun b hb h=>h)
   ⟨C,⟨h.1,h.2.1,h.2.2.1.snoc (fun z hz=>by rw[hn]at hz;cases hz),h.2.2.2.skip hn⟩,fun b hb=>.inl hb,Chg.of_below hb⟩)
  by_cases h0:er=0
  ·subst h0;have uh:=zh (zr7 vs y A1 c1 _ w7 (HRW.out.later nJ.out) HL.out HSY.out.any);have kH:=tN.out;rw[<-HYP.out]at kH;obtain⟨z0,z1,z2⟩:=zkn kH;clear kH;have zv:w7.cell? ⟨N+1,0,none⟩=some (.slice A1 vs.length c1):=zc (zka HK1W.out nJ.out) rfl
   gi_wp2
   refine⟨trivial,CallsIn.inRound l (callsIn_wide.2 (uh.out.mono ?_))⟩;rintro e8 w8 ⟨cK,⟨hfit,rfl⟩|⟨hfit,Ae,ce,rfl,hor⟩⟩
   ·have HN:=zh (show f x=none from jg.out.trans (if_neg fun h=>by rw[hfit]at h;exact absurd h.2 (by simp)));have bF:=zh (zkb nJ.out cK);clear cK hfit uh z0 z1 z2 zv
    gi_wp2
    exact HSKIP.out _ bF.out HN.out
   have p9:=zh (show f x=some y from jg.out.trans (if_pos ⟨by trivial,hfit⟩));have bF:=zh (zkb nJ.out cK);have HB78:=zh cK;have qa:=zh hfit;have tq:=zh hor;clear cK hfit uh z0 z1 z2 zv;have hlen0:0<(encS vs y).length:=by simp only[encS,cnE,List.length_append,zkI];omega
   obtain⟨hcv,hmx⟩:=zvq hor rfl hlen0;have wV:=zh hmx;have hlo8:=HI4.out.2.2.2.keep (W':=w8) (bF.out.block M HI4.out.2.2.2.lt) (fun _ h _=>h) fun b _ hlt=>bF.out.block b hlt;obtain⟨D,hD1,hD2,hD3⟩:=hlo8;obtain⟨v9,hlk,hat⟩:=zxB (vs:=vs) (y:=y) hD1 hmx;obtain⟨hs,vP⟩:=zX (Maps.has D (kS vs y));rw[vP]at hlk;have rG:=zka ((HI4.out.2.1 (M+1) (by omega) (by omega)).trans (zka qK.out ay.out)) bF.out;have HKM8:=zh rG;have zm:w8.cell? ⟨M+1,0,none⟩=some (.map (some M)):=zc rG rfl;have hbx8:=zka aO.out bF.out;have HBX8:=zh hbx8;have hzM:M<w8.heap.size:=hD1.lt;clear hor hlen0 hmx hbx8 rG;rw[HZ3.out]
   cases hs
   ·have hv9:v9=nilV:=by
     rw[Maps.atKey_of_not_has vP]at hat
     injection hat with hat
     exact hat.symm
    subst hv9;unfold nilV at hlk
    gi_upto_region 14 with fail
    obtain⟨w9,aP⟩:=zX (w8.alloc (.cells #[.slice none 0 0,.slice none 0 0,.slice none 0 0] 34));have aF:Below w8.heap.size w8 w9:=by rw[<-aP];exact zkc zr _
    obtain⟨p0,p1,p2⟩:=zkn (zka HBX8.out aF);have zm9:w9.cell? ⟨M+1,0,none⟩=some (.map (some M)):=zc (zka HKM8.out aF) rfl;have hD9:w9.ownsMap Tryz.prog 9 hR M pre.length D:=by
     obtain⟨es',ck',h1,h2⟩:=hD1;exact⟨es',ck',zka h1 aF,h2⟩
    obtain⟨bD,hmu,hD10,rQ⟩:=zyk hD9 wV.out (by
     have h1:=zvH lD.out xm.out;have h2:=dU.out.length_le;simp only[List.length_append,List.length_cons,List.length_nil]at h2;exact Nat.lt_of_le_of_lt (show pre.length<=65536 by omega) (by unfold maxLen;decide)) (.agg #[.slice As x.cells.length cs,.slice Bs x.tin.length ds,.slice Ds x.tout.length es])
    have jR:=zkb bF.out aF;have kQ:Chg (fun b=>b=M) W4 bD:=(Chg.of_below jR).trans2 rQ fun b _ h=>h;have aC:=zh (show LoI (M+2) M w5 vs f (pre++[x]) (fun b=>C b\/(g<=b/\b<bD.heap.size)) bD from by
     have h4:=HI4.out;refine⟨⟨fun b hb=>.inl (h4.1.1 b hb),fun b hb=>?_,fun b hb=>?_⟩,fun b hb hn=>(kQ.block b (h4.1.2.2 b (h4.1.1 b hb)) hn).trans (h4.2.1 b hb hn),h4.2.2.1.snoc fun z hz q hq hqz=>?_,?_⟩
     ·rcases hb with hb|hb
      ·exact h4.1.2.1 b hb
      ·exact .inr (by have:=pR.out;omega)
     ·rcases hb with hb|hb
      ·exact Nat.lt_of_lt_of_le (h4.1.2.2 b hb) kQ.size
      ·exact hb.2
     ·rw[p9.out]at hz;injection hz with hz;subst hz;obtain⟨-,v0,h0,-⟩:=hD2 q hq y hqz;rw[vP]at h0
      cases h0
     ·refine LoM.put hD2 hD3 hD1.isMap p9.out HIY.out vP hD10 (mW.out.keep (fun q h hlt=>⟨.inr ⟨h,Nat.lt_of_lt_of_le hlt kQ.size⟩,by have h:g<=q:=h;have:=pR.out;have:=jy.out;omega⟩) fun q h hlt=>kQ.block q hlt fun(e:q=M)=>by have h:g<=q:=h;have:=pR.out;have:=jy.out;omega)
       (fun b h _=>⟨.inl h.1,h.2⟩) fun b h hlt=>((Chg.of_below (C:=fun b=>b=M) aF).trans2 rQ fun b _ h=>h).block b hlt fun(e:b=M)=>by have:=h.2;omega)
    have bH:=zh (kQ.mono (C':=C) fun b _ (e:b=M)=>by rw[e];exact HI4.out.1.1 M (by omega));clear aF hD9 hD10 rQ jR kQ hD1 hD2 hD3 hat
    rw[aP];clear aP hlk hcv
    gi_wp2
    exact⟨_,aC.out,(fun b hb=>hb.elim .inl fun h=>.inr h.1),bH.out⟩
   ·obtain⟨s0,hs0,y',vQ,hky⟩:=hD3 _ vP;obtain⟨hIy',v0,-,hat0,qZ⟩:=hD2 s0 hs0 y' vQ;have hfit':fitB vs y'=true:=by
     have h1:=vQ;rw[<-uf.out,cdE]at h1
     split at h1
     ·rename_i h2;injection h1 with h1;rw[<-h1];exact h2.2
     ·cases h1
    have hyy:=zxR qa.out hfit' HIY.out hIy' hky;subst hyy;rw[hat0]at hat
    injection hat with hat
    subst hat
    obtain⟨A0,c0,B0,d0,D0,e0,rfl⟩:∃A c B d D e,v0=.agg #[.slice A s0.cells.length c,.slice B s0.tin.length d,.slice D s0.tout.length e]:=by
     obtain⟨A,c,B,d,D,e,rfl,-⟩:=qZ;exact⟨_,_,_,_,_,_,rfl⟩
    have hfind:=zvd HI4.out.2.2.1 hs0 vQ;have HFY:=zh vQ;have HS0:=zh hs0;clear vQ hs0
    gi_upto_region 13 with fail
    obtain⟨w9,aP⟩:=zX (w8.alloc (.cells #[.slice A0 s0.cells.length c0,.slice B0 s0.tin.length d0,.slice D0 s0.tout.length e0] 34));have aF:Below w8.heap.size w8 w9:=by rw[<-aP];exact zkc zr _
    obtain⟨p0,p1,p2⟩:=zkn (zka HBX8.out aF);have yG:=heap_alloc_new w8 (.cells #[.slice A0 s0.cells.length c0,.slice B0 s0.tin.length d0,.slice D0 s0.tout.length e0] 34);rw[aP]at yG;obtain⟨r0,r1,r2⟩:=zkn yG;have jR:=zkb bF.out aF;have hk3:=zka ((HI4.out.2.1 (N+3) (by omega) (by omega)).trans (zka eY.out (zkb bL.out ay.out))) jR;have hk4:=zka ((HI4.out.2.1 (N+4) (by omega) (by omega)).trans (zka j3.out (zkb bL.out ay.out))) jR;obtain⟨q0,q1,q2,q3,q4,q5⟩:=box6 hk3;have cf:∀o,w9.frozen? ⟨N+3,o,none⟩=false:=fun o=>zf hk3;obtain⟨wa,qi,il,hha⟩:=st6 (.slice A0 s0.cells.length c0) (.slice B0 s0.tin.length d0) (.slice D0 s0.tout.length e0) (.slice As x.cells.length cs) (.slice Bs x.tin.length ds) (.slice Ds x.tout.length es) hk3;have oN:=il.keep hk4 fun(e:N+4=N+3)=>by omega
    have qb:wa.cell? ⟨N+4,0,none⟩=some (.bool false):=zc oN rfl;have cfb:∀o,wa.frozen? ⟨N+4,o,none⟩=false:=fun o=>zf oN;obtain⟨wb,hwb,hcb,hhb⟩:=setU (o:=0) (.bool true) oN;have hch:Chg (fun q=>q=N+3\/q=N+4) w9 wb:=(il.mono fun q _ h=>.inl h).trans2 hcb fun q _ h=>.inr h;have kP:Chg (fun q=>q=N+3\/q=N+4) W4 wb:=(Chg.of_below jR).trans2 hch fun b _ h=>h;have HFX2:=zh (show LoX (M+2) M N w5 f (allS ⟨bv,bl,bi⟩ (lenE vs ⟨bv,bl,bi⟩)) (pre++[x]) (fun b=>C b\/(g<=b/\b<wb.heap.size)) wb from by
     have h4:=HI4.out;refine⟨pre,s0,x,y,_,_,_,_,_,_,rfl,dU.out,h4.2.2.1,p9.out,hfind,⟨fun b hb=>.inl (h4.1.1 b hb),fun b hb=>?_,fun b hb=>?_⟩,fun b hb hn n3 n4=>(kP.block b (h4.1.2.2 b (h4.1.1 b hb)) fun h=>by rcases h with h|h;exact n3 h;exact n4 h).trans (h4.2.1 b hb hn),hcb.keep hha (fun(e:N+3=N+4)=>by omega),hhb,
      qZ.keep (fun q h hlt=>⟨.inl h.1,h.2⟩) (fun q h hlt=>((Chg.of_below (C:=fun q=>q=N+3\/q=N+4) aF).trans2 hch fun b _ h=>h).block q hlt fun e=>by have:=h.2;rcases e with e|e<;>omega),
      mW.out.keep (fun q h hlt=>⟨.inr ⟨h,Nat.lt_of_lt_of_le hlt kP.size⟩,by have h:g<=q:=h;have:=pR.out;have:=jy.out;omega⟩) fun q h hlt=>kP.block q hlt fun e=>by have h:g<=q:=h;have:=pR.out;have:=jy.out;rcases e with e|e<;>omega⟩
     ·rcases hb with hb|hb
      ·exact h4.1.2.1 b hb
      ·exact .inr (by have:=pR.out;omega)
     ·rcases hb with hb|hb
      ·exact Nat.lt_of_lt_of_le (h4.1.2.2 b hb) kP.size
      ·exact hb.2)
    have bH:=zh (kP.mono (C':=C) fun b _ e=>HI4.out.1.1 b (by rcases e with e|e<;>omega));clear aF yG jR hk3 hk4 il hha oN hcb hhb hch kP hD1 hD2 hD3 hat0 qZ hfind;rw[aP];clear aP hlk hcv
    gi_wp2
    exact⟨_,HFX2.out,(fun b hb=>hb.elim .inl fun h=>.inr h.1),bH.out⟩
  ·have hne:(er==0)=false:=by simpa using h0
   have hn:f x=none:=jg.out.trans (if_neg fun h=>h0 h.1);have HN:=zh hn;clear hn
   gi_wp2
   exact HSKIP.out _ nJ.out HN.out
 ·intro D C W' hD hI hch hK;have hlow:∀q,q<M->W'.heap[q]?=w5.heap[q]?:=fun q hq=>hI.2.1 q (by omega) (by omega);have hk3:=(hlow (N+3) (by omega)).trans (zka eY.out (zkb bL.out ay.out));have hk4:=(hlow (N+4) (by omega)).trans (zka j3.out (zkb bL.out ay.out));have bu:Chg (fun q=>q=M) w5 W':=⟨hch.1,hch.2,hch.3,hch.4,fun q hlt hn=>by
   by_cases hq:q<M+2
   ·exact hI.2.1 q hq hn
   ·exact hch.block q hlt hq⟩
  have dP:=zh (show Below W.heap.size W W' from(zkb av.out ay.out).trans (bu.below (zkb av.out ay.out).size fun b (e:b=M)=>by have:=HN.out;omega));have HF:=zh (show RR=none by rw[<-HRR.out,if_pos trivial];exact zmM _ [] hI.2.2.1);clear bu hlow;obtain⟨q0,q1,q2,q3,q4,q5⟩:=box6 hk3;have cf:∀o,W'.frozen? ⟨N+3,o,none⟩=false:=fun o=>zf hk3;obtain⟨w9,aP,aU,bA⟩:=st6 (.slice none 0 0) (.slice none 0 0) (.slice none 0 0) (.slice none 0 0) (.slice none 0 0) (.slice none 0 0) hk3;have bC:=aU.keep hk4 fun(e:N+4=N+3)=>by omega
  have qb:w9.cell? ⟨N+4,0,none⟩=some (.bool false):=zc bC rfl;have uR:∀o,w9.frozen? ⟨N+4,o,none⟩=false:=fun o=>zf bC;obtain⟨w8,hw8,hc8,iO⟩:=setU (o:=0) (.bool false) bC;have gL:Chg (fun q=>q=N+3\/q=N+4) W' w8:=(aU.mono fun q _ h=>.inl h).trans2 hc8 fun q _ h=>.inr h;have bH:=zh gL;have xg:=zh (hc8.keep bA (fun(e:N+3=N+4)=>by omega));have qM:=zh iO;clear aU bA bC hc8 iO gL;have HK:=zh (bH.out.keep hK (fun e=>by have:D=w5.heap.size:=hD;have:=jy.out;rcases e with e|e<;>omega));have HD:=zh (show w5.heap.size=D from hD.symm);clear hk3 hk4 hI hch hK hD;go_wp2_with fail;clear q0 q1 q2 q3 q4 q5 qb cf uR;refine⟨by simp,.inl ⟨_,_,rfl,run_takeDeferred HK.out,?_⟩⟩;have hcd:Chg (fun q=>q=N+3\/q=N+4\/q=D) W' (w8.putObj D (.deferred none)):=(bH.out.mono fun b _ h=>h.elim .inl fun h=>.inr (.inl h)).trans2 (Chg.putObj w8 D (.deferred none)) fun b _ h=>.inr (.inr h)
  have bR:=(Chg.putObj w8 D (.deferred none)).keep xg.out (fun(e:N+3=D)=>by have:=HD.out;have:=jy.out;omega);have fG:=(Chg.putObj w8 D (.deferred none)).keep qM.out (fun(e:N+4=D)=>by have:=HD.out;have:=jy.out;omega);obtain⟨t0,t1,t2,t3,t4,t5⟩:=box6 bR;have tb:(w8.putObj D (.deferred none)).cell? ⟨N+4,0,none⟩=some (.bool false):=zc fG rfl;exact⟨.tuple #[.agg #[.slice none 0 0,.slice none 0 0,.slice none 0 0,.slice none 0 0,.slice none 0 0,.slice none 0 0],.bool false],by simp[results,Tryz.results12,go_sem,t0,t1,t2,t3,t4,t5,tb],dP.out.trans (hcd.below dP.out.size fun b h=>by
   have:=HD.out;have:=jy.out;have:=HN.out;rcases h with h|h|h<;>omega),_,_,_,_,_,_,_,rfl,.inl ⟨HF.out,rfl,rfl⟩⟩
 ·intro D pre C W' hD hX hch hK;obtain⟨dB,q,s,x,x0,x1,x2,x3,x4,x5,rfl,h2,h3,h4,h5,h6,h7,h8,h9,h10,h11⟩:=hX;have HF:=zh (show RR=some (q,s) by
   rw[<-HRR.out,if_pos trivial];obtain⟨ys,hys⟩:=h2;rw[<-hys,List.append_assoc];exact zmL h4 dB [] h3 h5)
  have bu:Chg (fun b=>b=M\/b=N+3\/b=N+4) w5 W':=⟨hch.1,hch.2,hch.3,hch.4,fun q hlt hn=>by
   by_cases hq:q<M+2
   ·exact h7 q hq (fun e=>hn (.inl e)) (fun e=>hn (.inr (.inl e))) (fun e=>hn (.inr (.inr e)))
   ·exact hch.block q hlt hq⟩
  have dP:=zh (show Below W.heap.size W W' from(zkb av.out ay.out).trans (bu.below (zkb av.out ay.out).size fun b h=>by have:=HN.out;rcases h with h|h|h<;>omega));have HK:=zh hK;have pI:=zh h10;have HS2:=zh h11;have Ba:=zh h6;have bU:=zh h8;have wU:=zh h9;have HD:=zh (show w5.heap.size=D from hD.symm);clear h2 h3 h4 h5 h6 h7 h8 h9 h10 h11 bu hch hK hD;go_wp2_with fail;refine wpIn_ret ?_;simp only[Exit.inBlock,Exit.then];refine⟨by simp,.inl ⟨_,_,rfl,run_takeDeferred HK.out,?_⟩⟩;have hcd:=Chg.putObj W' D (.deferred none);have bR:=hcd.keep bU.out (fun(e:N+3=D)=>by have:=HD.out;have:=jy.out;omega);have fG:=hcd.keep wU.out (fun(e:N+4=D)=>by have:=HD.out;have:=jy.out;omega);obtain⟨t0,t1,t2,t3,t4,t5⟩:=box6 bR;have tb:(W'.putObj D (.deferred none)).cell? ⟨N+4,0,none⟩=some (.bool true):=zc fG rfl
  have hkeep:∀q,(C q/\M+2<=q)->q<W'.heap.size->(W'.putObj D (.deferred none)).heap[q]?=W'.heap[q]?:=fun q h hlt=>hcd.block q hlt fun(e:q=D)=>by
   have:=HD.out;have:=jy.out;have:=Ba.out.2.1 q h.1;omega
  have hge:∀q,(C q/\M+2<=q)->q<W'.heap.size->W.heap.size<=q:=fun q h _=>by have:=HN.out;omega
  exact⟨.tuple #[.agg #[x0,x1,x2,x3,x4,x5],.bool true],by simp[results,Tryz.results12,go_sem,t0,t1,t2,t3,t4,t5,tb],dP.out.trans (hcd.below dP.out.size fun b (h:b=D)=>by
   have:=HD.out;have:=jy.out;have:=HN.out;omega),_,_,_,_,_,_,_,rfl,.inr ⟨q,s,HF.out,rfl,pI.out.keep hge hkeep,HS2.out.keep hge hkeep⟩⟩
end
section
open Go Go.RowKit
attribute [local go_sem] Oper.semAt_some
def zrn(t:T)(vs:List VD)(b:BX)(F:Int):Option SS:=if smlE vs b=true then(allS b (lenE vs b)).find? (zom (zlW vs [] t) F)else none
theorem zp5{W:World}{vs:List VD}{b:BX}{t:T}{v:Value}{F:Int}{A1:Option Addr}{c1:Nat}(hv:NV W Any t v)(hr:RowV W Any A1 vs)(hl:vs.length<=LV)(hlc:vs.length<=c1)(hF:I64 F)(mM:F<=1000000) :
  Calls Tryz.prog 18 #[v,.slice A1 vs.length c1,.agg #[.int .i64 b.v,.int .i64 b.l,.int .i64 b.i],.int .i64 F] W (zym (zrn t vs b F) W):=by
 have HC:=zh (fun w' (hb:Below W.heap.size W w')=>zqw (W:=w') (prs:=[]) (b:=b) (A2:=none) (c2:=0) (hv.later hb) (hr.later hb) hl hlc (fun i hi=>by cases hi) (by decide) (by decide) hF mM);obtain⟨A3,c3,rfl,-⟩:=hv.open_;obtain⟨k,n,nm,ks⟩:=t;obtain⟨bv,bl,bi⟩:=b;simp only[T.k_nd,T.n_nd,T.s_nd,T.ks_nd]at HC ⊢;obtain⟨N,hN⟩:=zX (W.heap.size);have HN:=zh hN;obtain⟨hb1,hz1,k0,k1,k2⟩:=al3 W (.cells #[.int .u8 k,.int .i64 n,.string nm,.slice A3 ks.length c3] 24) (.cells #[.int .i64 bv,.int .i64 bl,.int .i64 bi] 27) (.cells #[.slice none 0 0,.slice none 0 0,.slice none 0 0] 34);obtain⟨w1,hw1⟩:=zX (((W.alloc (.cells #[.int .u8 k,.int .i64 n,.string nm,.slice A3 ks.length c3] 24)).alloc (.cells #[.int .i64 bv,.int .i64 bl,.int .i64 bi] 27)).alloc (.cells #[.slice none 0 0,.slice none 0 0,.slice none 0 0] 34));rw[hw1]at hb1 hz1 k0 k1 k2;rw[hN]at hz1 k0 k1 k2;have HB1:=zh hb1;have HZ1:=zh hz1
 have aL:=zh k2;obtain⟨y0,y1,y2⟩:=zkn k1;obtain⟨x0,x1,x2,x3⟩:=box4 k0;clear hb1 hz1 k0 k1 k2;clear hv hr hl hlc hF mM
 show Calls Tryz.prog 18 #[.agg #[.int .u8 k,.int .i64 n,.string nm,.slice A3 ks.length c3],.slice A1 vs.length c1,.agg #[.int .i64 bv,.int .i64 bl,.int .i64 bi],.int .i64 F] W _
 refine(callsIn_wide (n:=3)).1 (callsIn_of_wp_marks Tryz.func18 rfl trivial ((wpIn_wide (n:=3)).2 ?_));simp only[Tryz.ntmps18,List.size_toArray,List.length_cons,List.length_nil,Nat.reduceAdd,Nat.reduceSub,Array.replicate_succ,Array.replicate_zero,List.push_toArray,List.append_toArray,List.nil_append,List.cons_append];go_wp2_with fail;refine(HC.out _ HB1.out).mono ?_;rintro e w' ⟨hb,v,x,rfl,h⟩;obtain⟨RR,hRR⟩:=zX (zrn (.nd k n nm ks) vs ⟨bv,bl,bi⟩ F);have h':=h;rw[show(if smlE vs ⟨bv,bl,bi⟩=true then List.find? (zom (zlW vs [] (.nd k n nm ks)) F) (allS ⟨bv,bl,bi⟩ (lenE vs ⟨bv,bl,bi⟩))else none)=RR from hRR]at h';have HRR:=zh hRR;have HH:=zh (And.intro hb h');clear hb h HC hRR h';obtain⟨A,la,ca,B,lb,cb,D,ld,cd,rfl⟩:∃A l c B m d D k e,v=.agg #[.slice A l c,.slice B m d,.slice D k e]:=by
  rcases HH.out.2 with⟨-,-,h⟩|⟨s,-,-,h⟩
  ·exact⟨_,_,_,_,_,_,_,_,_,h⟩
  ·obtain⟨A,c,B,d,D,e,h,-⟩:=h;exact⟨_,_,_,_,_,_,_,_,_,h⟩
 have hk2:=zka aL.out HH.out.1;obtain⟨q0,q1,q2⟩:=zkn hk2;have cf:∀o,w'.frozen? ⟨N+2,o,none⟩=false:=fun o=>zf hk2;obtain⟨w9,aP,aU,bA⟩:=st3 (.slice A la ca) (.slice B lb cb) (.slice D ld cd) hk2;obtain⟨t0,t1,t2⟩:=zkn bA;have nG:=zh aU;clear hk2 aU bA x0 x1 x2 x3 y0 y1 y2 hw1;go_wp2_with fail;refine⟨.tuple #[.agg #[.slice A la ca,.slice B lb cb,.slice D ld cd],.bool x],by simp[results,Tryz.results18,go_sem,t0,t1,t2],(zkb HB1.out HH.out.1).trans (nG.out.below (zkb HB1.out HH.out.1).size fun b (e:b=N+2)=>by have:=HN.out;omega),_,_,rfl,?_⟩;rcases HH.out.2 with⟨h1,h2,h3⟩|⟨s,h1,h2,h3⟩
 ·exact .inl ⟨HRR.out.trans h1,h2,h3⟩
 ·exact .inr ⟨s,HRR.out.trans h1,h2,h3.keep (fun q h _=>Nat.le_trans HB1.out.size h) fun q h hlt=>nG.out.block q hlt fun(e:q=N+2)=>by have h:w1.heap.size<=q:=h;have:=HZ1.out;omega⟩
end
section
open Go Go.RowKit
def xTW:T:=.nd 2 0 ⟨#[120]⟩ []
def nTW(n:Int):T:=.nd 1 n ⟨#[]⟩ []
def stTW:T:=.nd 56 0 ⟨#[]⟩ [xTW,nTW 0]
def eqTW:T:=.nd 16 0 ⟨#[]⟩ [xTW,nTW 1]
def blTW:T:=.nd 57 0 ⟨#[]⟩ []
def ifTW:T:=.nd 52 0 ⟨#[]⟩ [eqTW,blTW,blTW,nTW 1]
def vsW:List VD:=[⟨⟨#[120]⟩,1,0⟩]
def bxW:BX:=⟨1,0,0⟩
def okPW:Option (SS×SS)->Bool
 | some (a,b)=>eqS a ⟨[[0]],[],[]⟩&&eqS b ⟨[[1]],[],[]⟩
 | none=>false
def okSW:Option SS->Bool
 | some a=>eqS a ⟨[[0]],[],[]⟩
 | none=>false
theorem zwL:okPW (losE stTW vsW bxW)=true:=by decide +kernel
theorem zw8:okSW (zrn ifTW vsW bxW 100)=true:=by decide +kernel
theorem zxN:losE stTW vsW bxW=some (⟨[[0]],[],[]⟩,⟨[[1]],[],[]⟩):=by
 have h:=zwL;unfold okPW at h
 split at h
 ·rename_i a b e;rw[e];simp only[Bool.and_eq_true,zpl]at h;rw[h.1,h.2]
 ·cases h
theorem zx4:zrn ifTW vsW bxW 100=some ⟨[[0]],[],[]⟩:=by
 have h:=zw8;unfold okSW at h
 split at h
 ·rename_i a e;rw[e,zpl.1 h]
 ·cases h
theorem zqm(n:Int)(w:World):Calls Tryz.prog 35 #[.int .i64 n] w fun e w'=>e=.returned (nv 1 n ⟨#[]⟩ none 0 0)/\Below w.heap.size w w':=by
 have hb:∀w,(Instr.build 24 #[(0,.int .u8 1),(1,.int .i64 n)]).run Tryz.prog w=.ok (nv 1 n ⟨#[]⟩ none 0 0) w:=fun w=>by kernel_rfl
 go_enter Tryz.func35,Tryz.ntmps35;go_wp2_with fail;exact bodyPost_ret (v:=nv 1 n ⟨#[]⟩ none 0 0) (by simp[results,Tryz.results35,go_sem]) rfl ⟨rfl,zkc zr _⟩
theorem zrX{w:World}{t:T}{v:Value}(hv:NV w Any t v):Calls Tryz.prog 22 #[v] w fun e w'=>e=.returned (.bool (basB t.k))/\Below w.heap.size w w':=by
 obtain⟨A3,c3,rfl,-⟩:=hv.open_;obtain⟨k,n,nm,ks⟩:=t;simp only[T.k_nd,T.n_nd,T.s_nd,T.ks_nd];clear hv
 show Calls Tryz.prog 22 #[.agg #[.int .u8 k,.int .i64 n,.string nm,.slice A3 ks.length c3]] w _
 have hb1:=zkc (zs w) (.cells #[.int .u8 k,.int .i64 n,.string nm,.slice A3 ks.length c3] 24);have HB1:=zh hb1;clear hb1;by_cases h1:40<=k
 ·by_cases h2:k<=49
  ·have e:basB k=true:=by simp[basB,h1,h2]
   have E:=zh e;clear e;go_enter Tryz.func22,Tryz.ntmps22;go_wp2_with fail;go_ret;exact⟨by rw[E.out];rfl,HB1.out⟩
  ·have e:basB k=false:=by simp[basB,h1,h2]
   have E:=zh e;clear e;go_enter Tryz.func22,Tryz.ntmps22;go_wp2_with fail;go_ret;exact⟨by rw[E.out];rfl,HB1.out⟩
 ·have e:basB k=false:=by simp[basB,h1]
  have E:=zh e;clear e;go_enter Tryz.func22,Tryz.ntmps22;go_wp2_with fail;go_ret;exact⟨by rw[E.out];rfl,HB1.out⟩
def AwP:Prop:=∀w,Calls Tryz.prog 9 #[] w fun e w'=>e=.returned (.bool true)/\Below w.heap.size w w'
attribute [local go_sem] Oper.semAt_some
end
section
open Go Go.RowKit
attribute [local go_sem] Oper.semAt_some
end
section
open Go Go.RowKit
theorem bStZ(w:World):(Instr.build 34 #[]).run Tryz.prog w=.ok (.agg #[.slice none 0 0,.slice none 0 0,.slice none 0 0]) w:=by kernel_rfl
theorem zxz(w:World)(S:Nat->Prop):SV w S ⟨[],[],[]⟩ (.agg #[.slice none 0 0,.slice none 0 0,.slice none 0 0]) :=
 ⟨none,0,none,0,none,0,rfl,fun i hi=>by simp at hi,fun i hi=>by simp at hi,fun i hi=>by simp at hi,by simp,by simp,by simp,by simp[LI],by intro l hl;simp at hl,by simp[LI],by simp[LI]⟩
section
variable {E:Prop} {Rl:Nat->ST->ST->Prop} {F F' k:Int} {o o':Out}
end
section
variable {S:ST} {l:List Int}
end
section
variable {ρ ρ':Nat->Nat->Prop} {f g:FR} {S S' S'':ST} {a b:Nat}
end
section
variable {S:ST}
theorem zwc(h:S.WF){s:ByteArray}{id:Nat}(hn:S.num s=some id):id<S.nc:=by
 obtain⟨kd,hw⟩:=h.cur;unfold ST.num at hn;obtain⟨i,-,h2⟩:=Option.bind_eq_some_iff.1 hn;exact hw.num id (List.mem_of_getElem? h2)
theorem zur(k x y:Int):I64 (updE k x y):=by
 unfold updE
 repeat' split
 all_goals first|exact zmr _|exact zp9 _
theorem zuP(h:S.WF)(k:Int){id:Nat}(i:Nat){ah:Nat}(hid:id<S.nc)(hs:CurK S ah 3):(zmX S k id i ah).2.WF:=by
 have bX:=hs.lt h;have hc:=h.cells ah bX;unfold zmX
 split
 ·split
  ·exact h
  ·refine zmH (ztM h ah hs _ (by simp;omega) fun x hx=>?_) hid i 0 zero_I64;rcases List.mem_append.1 hx with hx|hx
   ·exact hc.2 x hx
   ·obtain rfl:=List.mem_singleton.1 hx;exact zmq h hid i
 ·split
  ·exact h
  ·split
   ·exact h
   ·refine ztM (S:=S.put id i _) (zmH h hid i _ (zmq h bX _)) ah hs _ (by rw[List.length_take];omega) fun x hx=>hc.2 x (List.mem_of_mem_take hx)
theorem znK(h:S.WF)(l m:List Int)(h1:l.length<=4096/\∀x∈l,I64 x)(h2:m.length<=4096/\∀x∈m,I64 x):({ S with tin:=l,tout:=m }:ST).WF:=⟨h.ex,h.ncalls,h.cells,h1,h2⟩
theorem zsm(h:S.WF)(k:Int){id:Nat}(i:Nat)(hid:id<S.nc):(zlf S k id i).2.WF:=by
 unfold zlf;have h1:=h.tin;have h2:=h.tout
 split
 ·split
  ·exact h
  ·rename_i y r he
   split
   ·exact h
   ·rw[he]at h1;exact zmH (S:={ S with tin:=r }) (znK h r S.tout ⟨by have:=h1.1;simp at this;omega,fun x hx=>h1.2 x (List.mem_cons_of_mem _ hx)⟩ h2) hid i y (h1.2 y (List.mem_cons_self ..))
 ·split
  ·split
   ·exact h
   ·split
    ·exact h
    ·refine zmH (S:={ S with tout:=S.tout.dropLast }) (znK h S.tin S.tout.dropLast h1 ⟨by have:=h2.1;simp;omega,fun x hx=>h2.2 x (List.dropLast_subset _ hx)⟩) hid i _ ?_
     cases hl:S.tout.getLast? with
     | none=>exact zero_I64
     | some x=>exact h2.2 x (List.mem_of_getLast? hl)
  ·split
   ·split
    ·exact h
    ·refine zmH (S:={ S with tin:=S.el id i::S.tin }) (znK h _ S.tout ⟨by simp;omega,fun x hx=>?_⟩ h2) hid i 0 zero_I64;rcases List.mem_cons.1 hx with rfl|hx
     ·exact zmq h hid i
     ·exact h1.2 x hx
   ·split
    ·exact h
    ·refine zmH (S:={ S with tout:=S.tout++[S.el id i] }) (znK h S.tin _ h1 ⟨by simp;omega,fun x hx=>?_⟩) hid i 0 zero_I64;rcases List.mem_append.1 hx with hx|hx
     ·exact h2.2 x hx
     ·obtain rfl:=List.mem_singleton.1 hx;exact zmq h hid i
theorem zwA(h:S.WF){k n:Int}{s:ByteArray}{ks:List T}(hf:fltE S.cur.vs (.nd k n s ks)=0)(hk:k=44\/k=45):∃ah,S.num s=some ah/\CurK S ah 3:=by
 have hn:zol k=3:=by rcases hk with rfl|rfl<;>rfl
 obtain⟨u,h4,h5⟩:=znB (zph hf).1 (by rw[hn];decide);obtain⟨ah,h6,h7⟩:=zq2 h h4;exact⟨ah,h6,by rw[h5,hn]at h7;exact h7⟩
theorem zx3(h:S.WF)(t:T):(doE S t).2.WF:=by
 unfold doE
 split
 ·exact h
 split
 ·exact h
 split
 ·exact h
 split
 ·exact h
 rename_i h1 h2 h3 h4;have hf:fltE S.cur.vs t=0:=by simpa using h4
 obtain⟨k,n,s,ks⟩:=t
 show(zk8 S k s (ks.getD 0 nil0) (ks.getD 1 nil0) (indE S.look (ks.getD 0 nil0)) (zmc S k (ks.getD 1 nil0))).2.WF
 unfold zk8
 split
 ·exact h
 unfold zm4
 split
 ·exact h
 cases h5:S.num (ks.getD 0 nil0).s with
 | none=>exact h
 | some id =>
  have hid:=zwc h h5;dsimp only
  split
  ·unfold zno
   split
   ·exact zmH h hid _ _ (zur _ _ _)
   ·split
    ·cases h6:S.num (ks.getD 1 nil0).s with
     | none=>exact h
     | some jd =>
      have hjd:=zwc h h6;dsimp only
      split
      ·exact zmH (zmH h hid _ _ (zmq h hjd _)) hjd _ _ (zmq h hid _)
      ·exact h
    ·split
     ·rename_i hk;obtain⟨ah,h6,h7⟩:=zwA h hf hk;rw[h6];exact zuP h _ _ hid h7
     ·exact zsm h _ _ hid
  ·exact h
end
section
variable {o:Out} {f:RS->Out} {r r':RS} {F:Int} {t:T}
end
structure Keep(r r':RS):Prop where
 base:r'.S.base=r.S.base
 calls:r'.S.calls=r.S.calls
 nc:r.S.nc<=r'.S.nc
section
variable {r r1 r':RS} {F:Int}
theorem zrT{S:ST}(t:T):(doE S t).2.base=S.base/\(doE S t).2.calls=S.calls/\(doE S t).2.nc=S.nc:=by
 obtain⟨h1,h2,h3⟩:=ztv S t;exact⟨h1,h2,h3⟩
end
theorem zpj:∀(vs:List VD) (ls:List (List Int)),(∀i (h:i<vs.length) (h':i<ls.length),fit1 vs[i] ls[i]=true)->zln vs ls=true
 | [],_,_=>by simp[zln]
 | _::_,[],_=>by simp[zln]
 | v::vs,l::ls,h=>by
  rw[zln,Bool.and_eq_true];exact⟨h 0 (by simp) (by simp),zpj vs ls fun i hi hi'=>h (i+1) (by simpa using hi) (by simpa using hi')⟩
section
variable {vs:List VD} {s:SS} {r':RS} {e:List Nat}
theorem ztq(hk:Keep ⟨newS vs s,0,e⟩ r'):r'.S.state.cells=(List.range vs.length).map r'.S.cell:=by
 unfold ST.state;rw[hk.base];simp[newS]
theorem zw7(h0:fitB vs s=true)(hw:r'.S.WF)(hk:Keep ⟨newS vs s,0,e⟩ r'):fitB vs r'.S.state=true:=by
 have hs:=ztq hk;obtain⟨kd,hb,-,hc⟩:=hw.ex;have hsv:svB vs=true:=by
  unfold fitB at h0;simp only[Bool.and_eq_true]at h0;exact h0.1.1.1.1
 unfold fitB;simp only[Bool.and_eq_true,decide_eq_true_eq];refine⟨⟨⟨⟨hsv,by rw[hs];simp⟩,hw.tin.1⟩,hw.tout.1⟩,zpj _ _ fun i hi hi'=>?_⟩;have hbase:r'.S.base=⟨vs,List.range vs.length,0⟩:=hk.base;rw[hbase]at hb;have hki:=hb.kind i hi (by simpa using hi);simp only[List.getElem_range]at hki;have hii:=hb.num i (List.mem_range.2 hi);have hci:=hc i hii;have rC:=(hw.cells i hii).1;have e1:r'.S.state.cells[i]=r'.S.cell i:=by
  have:r'.S.state.cells[i]?=some (r'.S.cell i):=by rw[hs,List.getElem?_map,List.getElem?_range hi];rfl
  exact(List.getElem?_eq_some_iff.1 this).2
 rw[e1];rw[hki]at hci;simp only at hci;unfold fit1 fixE;by_cases h3:vs[i].k=3
 ·rw[if_pos h3];simpa using rC
 ·rw[if_neg h3];by_cases h1:vs[i].k=1
  ·rw[if_pos h1];have:=hci.1 h1;simp[this]
  ·rw[if_neg h1];have h2:vs[i].k=2:=by omega
   have:=hci.2.1 h2;simpa using this
end
def gE(vs:List VD)(t:T)(s:SS):Option SS:=if (asgE vs t s).1=0 then some (asgE vs t s).2 else none
theorem ztk{vs:List VD}{x:SS}{i a:Nat}{v:Int}(h:fitB vs x=true):fitB vs (putC x i a v)=true:=by
 obtain⟨h1,h2,h3,h4,h5⟩:=zlo h;have hall:=(zlF h).2.2.2.2;unfold fitB;simp only[Bool.and_eq_true,decide_eq_true_eq];refine⟨⟨⟨⟨h1,by simp[putC,h2]⟩,h3⟩,h4⟩,zpj _ _ fun j hj hj'=>?_⟩;have hj2:j<x.cells.length:=by omega
 have hf:=(hall j hj hj2).2;have hl:((putC x i a v).cells[j]).length=(x.cells[j]).length:=by
  show((x.cells.set i ((x.cells.getD i []).set a v))[j]'(by simpa using hj2)).length=_
  rw[List.getElem_set]
  split
  ·rename_i e;subst e;simp[List.getD_eq_getElem?_getD,List.getElem?_eq_getElem hj2]
  ·rfl
 unfold fit1 at hf ⊢;rw[hl];exact hf
theorem ztu{vs:List VD}{s:SS}{t:T}(h0:fitB vs s=true)(hf:∀v∈vs,FldV v)(hI:s.I):fitB vs (doE (newS vs s) t).2.state=true:=by
 have hw:=zqn h0 hf hI.1 hI.2.1 hI.2.2 vs.length zl;rw[List.take_of_length_le zl]at hw;obtain⟨f1,f2,f3⟩:=zrT (S:=newS vs s) t;exact zw7 (e:=[]) (r':=⟨(doE (newS vs s) t).2,0,[]⟩) h0 (zx3 hw t) ⟨f1,f2,Nat.le_of_eq f3.symm⟩
theorem zxp{vs:List VD}{s:SS}{t:T}(hf:∀v∈vs,FldV v)(hI:s.I)(h:(asgE vs t s).1=0):fitB vs (asgE vs t s).2=true:=by
 unfold asgE at h ⊢
 split at h
 ·simp at h
 rename_i h1;rw[if_neg h1];have h0:fitB vs s=true:=by
  rcases hb:fitB vs s with _|_
  ·exact absurd (.inl hb) h1
  ·rfl
 split at h
 ·rename_i h2;rw[if_pos h2];obtain⟨k,n,nm,ks⟩:=t;unfold setE at h ⊢;simp only at h ⊢
  split at h
  ·rename_i h3;exact absurd h h3
  ·rename_i h3;rw[if_neg h3]
   split
   ·exact ztu h0 hf hI
   ·exact ztk (ztu h0 hf hI)
 ·rename_i h2;rw[if_neg h2]
  split at h
  ·rename_i h3;exact absurd h h3
  ·rename_i h3;rw[if_neg h3];exact ztu h0 hf hI
structure CH where
 cell:Int
 at':Int
 old:Int
 new:Int
deriving DecidableEq
def part(s:SS)(c:Int):List Int:=if c = -1 then s.tin.reverse else if c = -2 then s.tout else s.cells.getD c.toNat []
def zkT(n:Nat):List Int:=(List.range n).map Int.ofNat++[-1,-2]
def chg1(c:Int)(x y:List Int)(i:Nat):List CH:=if x.getD i 0≠y.getD i 0 then [⟨c,i,x.getD i 0,y.getD i 0⟩]else []
def chgL(c:Int)(x y:List Int):List CH:=if x.length≠y.length then [⟨c,-1,x.length,y.length⟩]else []
def dif1(c:Int)(x y:List Int):List CH:=chgL c x y++(List.range (max x.length y.length)).flatMap (chg1 c x y)
def zpo(a b:SS):List CH:=if a.cells.length≠b.cells.length then []else(zkT a.cells.length).flatMap fun c=>dif1 c (part a c) (part b c)
theorem zpi{α β:Type}[DecidableEq α]{f:α->List β}{c0:α}:∀ {l:List α},l.Nodup->c0∈l->(∀c∈l,c≠c0->f c=[])->(l.flatMap f).length=(f c0).length
 | c::l,hn,hm,hf=>by
  rw[List.nodup_cons]at hn;rw[List.flatMap_cons,List.length_append];by_cases e:c=c0
  ·subst e;have:l.flatMap f=[]:=List.flatMap_eq_nil_iff.2 fun x hx=>hf x (List.mem_cons_of_mem _ hx) fun e=>hn.1 (e▸hx);rw[this];simp
  ·rw[hf c (List.mem_cons_self ..) e,zpi hn.2 (by rcases List.mem_cons.1 hm with h|h;exact absurd h.symm e;exact h) fun x hx=>hf x (List.mem_cons_of_mem _ hx)];simp
theorem ztw(c:Int)(x:List Int):dif1 c x x=[]:=by
 unfold dif1 chgL;rw[if_neg (by simp),List.nil_append];refine List.flatMap_eq_nil_iff.2 fun i _=>?_;unfold chg1;rw[if_neg (by simp)]
theorem zvo(c:Int){l:List Int}{a:Nat}(v:Int)(ha:a<l.length):(dif1 c l (l.set a v)).length=if l.getD a 0≠v then 1 else 0:=by
 unfold dif1 chgL;rw[if_neg (by simp),List.nil_append,zpi (c0:=a) List.nodup_range (by simp;exact ha) fun i _ hi=>?_]
 ·unfold chg1;have e:(l.set a v).getD a 0=v:=by simp[List.getD_eq_getElem?_getD,ha]
  rw[e]
  split<;>rfl
 ·unfold chg1;rw[if_neg];simp[List.getD_eq_getElem?_getD,List.getElem?_set_ne (Ne.symm hi)]
theorem zqy(n:Nat):(zkT n).Nodup:=by
 unfold zkT;rw[List.nodup_append];refine⟨?_,by decide,fun x hx y hy=>?_⟩
 ·unfold List.Nodup;rw[List.pairwise_map];exact List.Pairwise.imp (fun {a b} (h:a≠b) e=>h (Int.ofNat.inj e)) List.nodup_range
 ·obtain⟨a,-,rfl⟩:=List.mem_map.1 hx;simp only[List.mem_cons,List.not_mem_nil,or_false]at hy;intro e;have:(0:Int)<=Int.ofNat a:=Int.natCast_nonneg a;rcases hy with h|h<;>omega
theorem zvn{s:SS}{i a:Nat}(v:Int)(hi:i<s.cells.length)(ha:a<(s.cells.getD i []).length):(zpo s (putC s i a v)).length=if (s.cells.getD i []).getD a 0≠v then 1 else 0:=by
 unfold zpo;rw[if_neg (by simp[putC]),zpi (c0:=(i:Int)) (zqy _) (by unfold zkT;rw[List.mem_append];exact .inl (List.mem_map.2 ⟨i,List.mem_range.2 hi,rfl⟩)) fun c hc hne=>?_]
 ·have e1:part s (i:Int)=s.cells.getD i []:=by
   unfold part;rw[if_neg (by omega),if_neg (by omega)];rfl
  have e2:part (putC s i a v) (i:Int)=(s.cells.getD i []).set a v:=by
   unfold part;rw[if_neg (by omega),if_neg (by omega)];simp only[putC,Int.toNat_natCast,List.getD_eq_getElem?_getD,List.getElem?_set_self hi,Option.getD_some]
  rw[e1,e2];exact zvo _ v ha
 ·have:part (putC s i a v) c=part s c:=by
   unfold part
   split
   ·rfl
   ·split
    ·rfl
    ·rename_i h1 h2;have hc0:0<=c:=by
      unfold zkT at hc;rcases List.mem_append.1 hc with h|h
      ·obtain⟨k,-,rfl⟩:=List.mem_map.1 h;exact Int.natCast_nonneg k
      ·simp only[List.mem_cons,List.not_mem_nil,or_false]at h;rcases h with h|h<;>omega
     simp only[putC,List.getD_eq_getElem?_getD];rw[List.getElem?_set_ne (by omega)]
  rw[this];exact ztw _ _
theorem zsC(s:SS)(i a:Nat)(x y:Int):putC (putC s i a x) i a y=putC s i a y:=by
 unfold putC;simp only[List.set_set];by_cases hi:i<s.cells.length
 ·have:(s.cells.set i ((s.cells.getD i []).set a x)).getD i []=(s.cells.getD i []).set a x:=by simp[List.getD_eq_getElem?_getD,hi]
  rw[this,List.set_set]
 ·rw[List.set_eq_of_length_le (by omega),List.set_eq_of_length_le (by omega)]
theorem zq7{vs:List VD}{s:SS}{nm:ByteArray}{i:Nat}(h:zlw vs nm vs.length=some i):(newS vs s).look nm=some (s.cells.getD i []):=by
 have h':(newS vs s).cur.at nm=some i:=h;have hi:i<vs.length:=FR.at_lt h';have hn:(newS vs s).num nm=some i:=by
  unfold ST.num;rw[h']
  show(List.range vs.length)[i]?=some i
  rw[List.getElem?_range hi]
 unfold ST.look;rw[hn];rfl
theorem zwB{vs:List VD}{s:SS}{n:Int}{nm:ByteArray}{p q:T}(hw:(newS vs s).WF)(h0:fitB vs s=true)(hp:isP p=true)(h:(doE (newS vs s) (.nd 40 n nm [p,q])).1=0) :
  ∃i a,zlw vs p.s vs.length=some i/\i<vs.length/\indE (newS vs s).look p=(((a:Nat):Int),0)/\(zk7 (newS vs s).look q).2=0/\a<(s.cells.getD i []).length/\setE vs s (.nd 56 n nm [p,q])=(0,putC s i a (zk7 (newS vs s).look q).1):=by
 obtain⟨i,a,h1,h2,h3,h4,x,h5⟩:=zwa hw hp h;have hlen:s.cells.length=vs.length:=(zlo h0).2.1;have he:(indE (newS vs s).look p).2=0/\(zk7 (newS vs s).look q).2=0:=by
  unfold doE at h
  split at h
  ·cases h
  split at h
  ·cases h
  split at h
  ·cases h
  split at h
  ·rename_i h9;exact absurd h h9
  simp only[zon,List.getD_cons_zero,List.getD_cons_succ]at h;have e1:zmc (newS vs s) 40 q=zk7 (newS vs s).look q:=by simp[zmc]
  rw[e1]at h;unfold zk8 zm4 at h
  split at h
  ·rename_i h9;exact absurd h h9
  rename_i h9
  split at h
  ·rename_i h10;exact absurd h h10
  rename_i h10;exact⟨Decidable.not_not.1 h9,Decidable.not_not.1 h10⟩
 refine⟨i,a,h1,h2,by rw[<-h3,<-he.1],he.2,h4,?_⟩;unfold setE;simp only;rw[if_neg (by rw[h];simp)];simp only[List.getD_cons_zero,List.getD_cons_succ];rw[h1];simp only;rw[h5,zpH hlen h2,h3,Int.toNat_natCast,zsC]
theorem do_7{S:ST}{t:T}(h1:isS t=true)(h2:t.k≠56)(h3:basB t.k=false):(doE S t).1=7:=by
 unfold doE;rw[if_neg (by rw[h1];simp),if_neg h2,if_pos h3]
theorem zxo{vs:List VD}{t:T}{s:SS}(h:(asgE vs t s).1≠0):(asgE vs t s).2=nilS:=by
 unfold asgE at h ⊢
 split
 ·rfl
 ·rename_i h1;rw[if_neg h1]at h
  split
  ·rename_i h2;rw[if_pos h2]at h;obtain⟨k,n,nm,ks⟩:=t;unfold setE at h ⊢;simp only at h ⊢
   split
   ·rfl
   ·rename_i h3;rw[if_neg h3]at h
    split at h<;>exact absurd rfl h
  ·rename_i h2;rw[if_neg h2]at h
   split
   ·rfl
   ·rename_i h3;rw[if_neg h3]at h;exact absurd rfl h
def CH.nums(c:CH):List Value:=[.int .i64 c.cell,.int .i64 c.at',.int .i64 c.old,.int .i64 c.new]
def zn8(l:List CH):List Value:=l.flatMap CH.nums
def CH.I(c:CH):Prop:=I64 c.cell/\I64 c.at'/\I64 c.old/\I64 c.new
theorem zmh{ops:Array Oper}{rest:List Oper}{o:Oper}{a:Act}{W:World}{Q:Exit->Act->World->Prop}(hgd:o.guard=none)(s x:Operand)
  (ho:o.op=.call { callee:=.builtin .append,args := #[s,x],argTypes := #[32,32] })(base:Nat)(v:Value)(n:Nat)(xs:List Value)(hs:a.eval s=v)(hrow:W.ownsRow base 3 1 v n xs)
  (A:Option Addr)(l:List Int)(c:Nat)(hx:a.eval x=.slice A l.length c)(hr:RowI W Any A l)(hl:n+l.length<=17592186044416)(hb:base<=W.heap.size)
  (h:∀v' w',w'.ownsRow base 3 1 v' (n+l.length) (xs++zkf l)->W.grownBy w' v.ownBlock->(v'.ownBlock=v.ownBlock\/v'.ownBlock=some W.heap.size)->wpList Tryz.prog ops Q rest (a.put o.dst v') w') :
  wpList Tryz.prog ops Q (o::rest) a W:=by
 obtain⟨i,hi,hz0,hz1,hz2⟩:=info_parts znn;rcases A with _|ad
 ·have hl0:l=[]:=by
   rcases l with _|⟨y,l⟩
   ·rfl
   ·obtain⟨_,h0,_⟩:=hr 0 (by simp);cases h0
  subst hl0;refine wpList_plain hgd fun K hK=>?_;have hrun:(Builtin.append_ #[32,32] o.type #[v,.slice none 0 c]).run Tryz.prog W=.ok v W:=by
   rcases hrow.2 with⟨rfl,h0⟩|⟨g,cap,cur,rfl,_,_,hnc,_⟩
   ·simp[Builtin.append_,run_underlying Tryz.underlying32,sizeOf,typeInfo,hi,Builtin.lenOf,Builtin.firstCells]
   ·simp[Builtin.append_,run_underlying Tryz.underlying32,sizeOf,typeInfo,hi,Builtin.lenOf,Builtin.firstCells,hnc,storeCells]
  unfold Oper.wp execOp;simp only[ho,resolve,invoke,builtin,Sem.run_bind,Sem.run_pure,Result.andThen_ok,List.map_toArray,List.map_cons,List.map_nil,hs,hx,List.length_nil,hrun];exact hK _ _ (h v W (by simpa[zkf]using hrow) (zpK _ _) (.inl rfl))
 ·refine wpList_append_own_at (P:=Tryz.prog) _ hgd s x 32 ho base 3 i _ 1 8 Tryz.underlying32 hi hz0 hz1 hz2 rfl (by decide) v n xs hs hrow ad l.length c (zkf l) hx (by simp[zkf]) (fun j u hj=>?_) (fun u hu=>?_) (by unfold maxLen;omega) (by omega) hb (fun v' w' h1 h2 _ h4=>h v' w' h1 h2 h4)
  ·have hjl:j<l.length:=by have:=(List.getElem?_eq_some_iff.1 hj).1;simpa[zkf]using this
   obtain⟨a',h0,_,h2,_⟩:=hr j hjl;injection h0 with h0;subst h0;rw[h2];simp[zkf,hjl]at hj ⊢;exact hj
  ·simp only[zkf,List.mem_map]at hu;obtain⟨y,_,rfl⟩:=hu;rfl
end
end Go.Proofs.YtghbhbdnkjjnnaaGreat
