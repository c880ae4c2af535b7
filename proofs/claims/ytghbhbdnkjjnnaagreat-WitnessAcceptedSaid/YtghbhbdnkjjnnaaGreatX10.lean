/-
  Texts of the proof, put together without their remarks: En7, En8, Wsm, Wlp, Wfa, Wlo, Wco, Waw, Wbs, Lwn, Apq, Rst, Wst, Wsa, Lwc, Ig, Eqv, Wfp, Pfi, Wpr.
-/
import Derived.Test.YtghbhbdnkjjnnaaGreatX9
import Derived.Maps.OwnSet
import Derived.StringKeys
import Derived.Maps.OwnIn
set_option linter.unusedSimpArgs false
set_option linter.unusedVariables false
set_option maxHeartbeats 8000000
set_option maxRecDepth 100000
namespace Go.Proofs.YtghbhbdnkjjnnaaGreat
section
open Go Go.RowKit
section
variable {Z:DK} {n:Nat} {W W':World} {p:List (List Int)} {m f m' f':Nat->Nat}
theorem RowQ.congr(h:RowQ Z n W p m' f')(he:∀j,j<p.length->m' j=m j/\f' j=f j):RowQ Z n W p m f:=by
 obtain⟨us,h1,h2,h3⟩:=h.row;refine⟨⟨us,h1,h2,fun j hj=>by rw[h3 j hj,(he j hj).1,(he j hj).2]⟩,fun j hj=>?_,fun j hj=>by rw[<-(he j hj).2];exact h.ne j hj,fun i j hi hj e=>h.inj i j hi hj (by rw[(he i hi).2,(he j hj).2];exact e),h.fits⟩;have:=h.el j hj;rwa[(he j hj).1,(he j hj).2]at this
theorem RowQ.new{M:Nat}{W1 W2:World}(h:RowQ Z n W p m f)(hp:p.length<n)(h1:W1=W.alloc (.cells (madeCells #[.int .i64 0] M) 3))(hc:Chg (fun b=>b=Z.rb) W1 W2)
  (hk:∀us,W1.heap[Z.rb]?=some (.cells us 32 (0,0))->W2.heap[Z.rb]?=some (.cells (us.setIfInBounds p.length (.slice (some ⟨W.heap.size,0,none⟩) M M)) 32 (0,0))) :
  RowQ Z n W2 (p++[[]]) (fun j=>if j=p.length then M else m j) (fun j=>if j=p.length then W.heap.size else f j):=by
 have hb:Below W.heap.size W W1:=by rw[h1];exact zkb zr _
 have hn:W1.heap[W.heap.size]?=some (.cells (madeCells #[.int .i64 0] M) 3 (0,0)):=by rw[h1];exact heap_alloc_new W _
 obtain⟨us,u1,u2,u3⟩:=h.row;have hl:=h.lt;have hlen:(p++[[]]).length=p.length+1:=by simp
 refine⟨⟨_,hk us (zkc u1 hb),by simpa using u2,fun j hj=>?_⟩,fun j hj=>?_,fun j hj=>?_,fun i j hi hj e=>?_,fun x hx e he=>?_⟩
 ·by_cases e:j=p.length
  ·subst e;simp only[if_true];rw[Array.getElem?_setIfInBounds_self_of_lt (by omega)]
  ·simp only[e,if_false];rw[Array.getElem?_setIfInBounds_ne (by omega)];exact u3 j (by omega)
 ·rcases zp9 hj with⟨hjp,_,e⟩|⟨rfl,e⟩
  ·have hne:j≠p.length:=by omega
   simp only[e,hne,if_false];obtain⟨vs,v1,v2⟩:=h.el j hjp;exact⟨vs,hc.keep (zkc v1 hb) (h.ne j hjp),v2⟩
  ·simp only[e,if_true];exact⟨_,hc.keep hn fun e=>by have e:W.heap.size=Z.rb:=e;omega,by rw[size_madeCells],Nat.zero_le _,fun i hi=>absurd hi (Nat.not_lt_zero i)⟩
 ·by_cases e:j=p.length
  ·simp only[e,if_true];omega
  ·simp only[e,if_false];exact h.ne j (by omega)
 ·split at e<;>split at e
  ·omega
  ·have:=hl.2 j (by omega);omega
  ·have:=hl.2 i (by omega);omega
  ·exact h.inj i j (by omega) (by omega) e
 ·rcases List.mem_append.1 hx with hx|hx
  ·exact h.fits x hx e he
  ·obtain rfl:=List.mem_singleton.1 hx;cases he
end
theorem zuo{J Jx:List SS->(Nat->Prop)->World->Prop}{Z:DK}{bs rs:List Bn}{h nf:Nat}{B:Nat->Prop}{tot:List SS}{p:List (List Int)}{m f:Nat->Nat}{pre:List SS}{C:Nat->Prop}{W:World}{left:Int}{n c l0 l1 w0 T:Nat}{w1 Q lo hi':Int}{a:Addr}{G:Int->List SS}
  (x0:W.cell? ⟨Z.lb,0,none⟩=some (.slice (some ⟨Z.rb,0,none⟩) n n))(x2:W.cell? ⟨Z.hb,0,none⟩=some (.int .i64 (h:Int)))(x3:W.cell? ⟨Z.tb,0,none⟩=some (.slice (some ⟨Z.tr,0,none⟩) (n+1) Z.tc))(x1:W.cell? ⟨Z.bb,0,none⟩=some (.slice (some a) n Z.c))
  (x4:W.cell? ⟨Z.tr,(c+1)*2,none⟩=some (.int .i64 (w0:Int)))(x5:W.cell? ⟨Z.tr,(c+1)*2+1,none⟩=some (.int .i64 w1))(x6:W.cell? (a.add (c*2))=some (.int .i64 (l0:Int)))(x7:W.cell? ⟨(a.add (c*2)).block,(a.add (c*2)).off+1,none⟩=some (.int .i64 (l1:Int)))
  (hwb:w0<=1000000/\0<=w1/\w1<=10000000000)(hbb:l0<=1000/\l1<=1000)(hbn:n<=100)(u7:h<=10000)(lg:1<=h)(hcn:c<n)(hleft:0<=left/\left<=100000000000)
  (wL:(left-w1+(h:Int)-1).tdiv (h:Int)=Q)(wK : -100000010000<=Q/\Q<=100000010000)(hlo:max (l0:Int) Q=lo)(hhi:min (l1:Int) (left-(w0:Int))=hi')(hlo0:0<=lo)(hlo1:lo<=100000010000)(hhi1:hi'<=1000)(hhi2 : -100000000000<=hi')(hT:(hi'-lo+1).toNat=T)
  (HJ:Hid (JC J Jx nf Z.l tot))(jr:Hid (J pre C W))(HD:Hid (DW Z bs h B W))(HQ:Hid (RowQ Z bs.length W p m f))(HS:Hid (SepQ Z B p.length f C))(cz:Hid ((pre++(List.range T).flatMap fun(j:Nat)=>G (lo+(j:Int))) <+: tot))(HN:Hid (∀k,NumC J Jx Z bs h B tot rs k))
  (HM:Hid (∀j (hj:j<p.length),m j=p[j].length))(xm:Hid (∀j,j<p.length->m j<=1000))(fT:Hid (bs.drop (p.length+1)=rs))(HG:Hid (G=fun r=>(numE h rs (zkW h rs) r.toNat left).map fun z=>stOf (p++hdA [] z)))(qy:Hid (bs.length=n/\p.length=c/\p.length+1<=bs.length)) :
  Calls Tryz.prog 112 (#[.int .i64 (c:Int),.int .i64 left]++Z.cap1) W (ztk J Jx Z n (fun b=>b=Z.rb) pre ((List.range T).flatMap fun(j:Nat)=>G (lo+(j:Int))) p m f C W):=by
 have hp1:(c:Int)<(n:Int):=by omega
 have hp2:(0:Int)<=(c:Int)+1:=by omega
 have hp3:(c:Int)+1<(n:Int)+1:=by omega
 have hwc:IntKind.i64.wrap ((c:Int)+1)=(c:Int)+1:=IntWalk.i64_in _ (by omega);have hne:((c:Int)==(n:Int))=false:=by simp;omega
 have hh0:¬ (h:Int)=0:=by omega
 have e3:IntKind.i64.wrap (left-w1)=left-w1:=IntWalk.i64_in _ (by omega);have e4:IntKind.i64.wrap (left-w1+(h:Int))=left-w1+(h:Int):=IntWalk.i64_in _ (by omega);have e5:IntKind.i64.wrap (left-w1+(h:Int)-1)=left-w1+(h:Int)-1:=IntWalk.i64_in _ (by omega);have e6:IntKind.i64.wrap Q=Q:=IntWalk.i64_in _ (by omega);have rq:=zh (And.intro hwb (And.intro hbb (And.intro hlo0 (And.intro hlo1 (And.intro hhi1 (And.intro hhi2 (And.intro wK (And.intro hleft (And.intro hbn (And.intro u7 (And.intro lg hcn)))))))))));have HHI:=zh hhi;have vG:=zh hT;clear hwb hbb hlo0 hlo1 hhi1 hhi2 wK hleft hbn u7 lg hcn hhi hT;go_enter Tryz.func112,Tryz.ntmps112;go_upto_region 4 with fail
 go_region
 have hbd:=(zs W).drew;obtain⟨wA,vZ⟩:=zX (W.drew);rw[vZ]at hbd ⊢
 replace x0:=zb hbd x0
 replace x1:=zb hbd x1
 replace x3:=zb hbd x3
 replace x4:=zb hbd x4
 replace x7:=zb hbd x7
 clear vZ x2 x5 x6 e3 e4 e5 e6 hlo wL;have hhi:=HHI.out;have e4:IntKind.i64.wrap (left-(w0:Int))=left-(w0:Int):=IntWalk.i64_in _ (by have:=rq.out;omega);go_upto_region 5 with fail
 go_region
 have jM:=hbd.trans (Below.refl W.heap.size wA |>.mono zl |>.drew);obtain⟨wB,vY⟩:=zX (wA.drew);rw[vY]at jM ⊢;have eU:=zh jM;clear vY x0 x1 x3 x4 x7 e4 hbd jM hwc hp2 hp3;clear hhi;obtain⟨hwb,hbb,hlo0,hlo1,hhi1,hhi2,wK,hleft,hbn,u7,lg,hcn⟩:=rq.out;have hT:=vG.out;have e1:IntKind.i64.wrap (hi'-lo)=hi'-lo:=IntWalk.i64_in _ (by omega);have e2:IntKind.i64.wrap (hi'-lo+1)=hi'-lo+1:=IntWalk.i64_in _ (by omega);go_wp2_with fail
 go_loopw [72] (fun iv wr=>∃(j:Nat) (C':Nat->Prop),j<=T/\iv=.int .i64 j/\Hid (J (pre++(List.range j).flatMap fun(i:Nat)=>G (lo+(i:Int))) C' wr/\(∀b,C' b->C b\/W.heap.size<=b)/\Chg (fun b=>C b\/b=Z.rb) W wr/\RowQ Z bs.length wr p m f)) (fun iv _=>T-(intOf iv).toNat)
 case atStart=>exact⟨0,C,Nat.zero_le _,rfl,zh ⟨by rw[List.range_zero,List.flatMap_nil,List.append_nil];exact HJ.out.keep _ _ _ _ jr.out (Chg.of_below eU.out),fun b h=>.inl h,Chg.of_below eU.out,HQ.out.chg (Chg.of_below (C:=fun _=>False) eU.out) id fun _ _=>id⟩⟩
 case round =>
  obtain⟨j,C',hjT,rfl,HI⟩:=hrel;by_cases hlt:j<T
  ·obtain⟨i1,i2,i3,i4⟩:=HI.out;have hDn:∀b,B b->¬ (C b\/b=Z.rb):=fun b hb h=>by
    rcases h with h|rfl
    ·exact HS.out.b _ hb h
    ·exact HS.out.br hb
   have hD2:=HD.out.chg i3 hDn;have hS2:=SepQ.grow HS.out HD.out HQ.out i2;obtain⟨us,hu,iI,hur⟩:=i4.row;obtain⟨g1,g2,g4⟩:=qy.out;have x0:wr.cell? ⟨Z.lb,0,none⟩=some (.slice (some ⟨Z.rb,0,none⟩) n n):=by rw[<-g1];exact zc hD2.lists rfl
   obtain⟨M,hM⟩:∃M:Nat,lo+(j:Int)=(M:Int):=⟨(lo+(j:Int)).toNat,by omega⟩
   have hM1:M<=1000:=by omega
   have hwr:IntKind.i64.wrap (M:Int)=(M:Int):=IntWalk.i64_in _ (by omega);have hmk:=bMkI M (by omega) wr.drew;have hj1:(j:Int)<hi'-lo+1:=by omega
   have aG:Below wr.heap.size wr (wr.drew.alloc (.cells (madeCells #[.int .i64 0] M) 3)):=zkb (zs wr).drew _;obtain⟨w9,aS⟩:=zX (wr.drew.alloc (.cells (madeCells #[.int .i64 0] M) 3));rw[aS]at aG hmk;have qE:=zkc hu aG;obtain⟨g,hg⟩:=zX (wr.drew.heap.size);rw[hg]at hmk;obtain⟨w5,fM,dE,lY⟩:=setU (o:=c) (.slice (some ⟨g,0,none⟩) M M) qE;obtain⟨z,hz⟩:∃z,us[c]?=some z:=⟨_,Array.getElem?_eq_getElem (by omega)⟩
   have x2:w9.cell? ⟨Z.rb,c,none⟩=some z:=zc qE hz;have cf:∀o,w9.frozen? ⟨Z.rb,o,none⟩=false:=fun o=>zf qE;have hD5:=(hD2.chg (Chg.of_below aG (C:=fun _=>False)) fun _ _=>id).chg dE fun b hb (e:b=Z.rb)=>by rw[e]at hb;exact HS.out.br hb
   have vg:=RowQ.new (W:=wr.drew) (M:=M) (W2:=w5) (i4.chg (Chg.of_below (zs wr).drew (C:=fun _=>False)) id fun _ _=>id) (by omega) aS.symm dE (fun vW h'=>by
    rw[qE]at h';injection h' with h';injection h' with h';subst h';rw[hg,g2];exact lY)
   rw[hg]at vg;have wP:=HJ.out.keep _ _ _ _ i1 (((Chg.of_below aG).trans (dE.mono fun b _ (e:b=Z.rb) hb=>by rw[e]at hb;exact hS2.r hb):Chg (fun b=>¬ C' b) wr w5));have hgw:g=wr.heap.size:=hg.symm;have ou:∀b,C' b->b<g:=fun b hb=>by rw[hgw];exact HJ.out.lt _ _ _ i1 b hb
   have hBg:∀b,B b->b<g:=fun b hb=>by rw[hgw];exact hD2.lt b hb
   have hS5:SepQ Z B (p.length+1) (fun j=>if j=p.length then g else f j) C':=⟨hS2.b,hS2.r,fun j hj=>by
    by_cases e:j=p.length
    ·simp only[e,if_true];intro h;have:=ou _ h;omega
    ·simp only[e,if_false];exact hS2.fc j (by omega),hS2.br,fun j hj=>by
    by_cases e:j=p.length
    ·simp only[e,if_true];intro h;have:=hBg _ h;omega
    ·simp only[e,if_false];exact hS2.bf j (by omega)⟩
   have hin:(pre++(List.range j).flatMap fun(i:Nat)=>G (lo+(i:Int)))++G M <+: tot:=by
    refine List.IsPrefix.trans ?_ cz.out;rw[List.append_assoc,<-hM];exact(List.prefix_append_right_inj pre).2 (zoI (F:=G) (g:=fun(i:Nat)=>lo+(i:Int)) hlt)
   have sW:G M=(numE h rs (zkW h rs) M left).map fun z=>stOf (p++hdA [] z):=by rw[HG.out];simp
   have hcall:=HN.out M p [] _ _ _ C' w5 left fT.out g4 wP hD5 vg hS5 (fun j hj=>by simp only[Nat.ne_of_lt hj,if_false];exact HM.out j hj) (fun j hj=>by
    by_cases e:j=p.length
    ·simp only[e,if_true];omega
    ·simp only[e,if_false];exact xm.out j (by omega)) (by simp) hleft (by rw[<-sW];exact hin)
   rw[<-sW]at hcall;simp only[if_true,List.length_nil]at hcall;rw[g2]at hcall;have nP:=zh hcall;have y0:w5.cell? ⟨Z.nb,0,none⟩=some (.func (.func 113) #[] Z.cap2):=zc hD5.num rfl;have y1:w5.cell? ⟨Z.lb,0,none⟩=some (.slice (some ⟨Z.rb,0,none⟩) n n):=by rw[<-g1];exact zc hD5.lists rfl
   have uS:IntKind.i64.wrap ((j:Int)+1)=(j:Int)+1:=IntWalk.i64_in _ (by omega);have hstep:(List.range (j+1)).flatMap (fun(i:Nat)=>G (lo+(i:Int)))=((List.range j).flatMap fun(i:Nat)=>G (lo+(i:Int)))++G M:=by rw[List.range_succ,List.flatMap_append,<-hM];simp
   have HST:=zh hstep;have bN:=zh (show Chg (fun b=>C b\/b=Z.rb) W w5/\W.heap.size<=w5.heap.size/\W.heap.size<=g from⟨(i3.trans2 (Chg.of_below aG (C:=fun _=>False)) fun b _ h=>h.elim).trans2 dE fun b _ e=>.inr e,Nat.le_trans i3.size (Nat.le_trans aG.size dE.size),by rw[hgw];exact i3.size⟩);have z9:w9.cell? ⟨Z.lb,0,none⟩=some (.slice (some ⟨Z.rb,0,none⟩) n n):=zb aG x0;have hj0:(0:Int)<=(c:Int):=by omega
   clear i1 i2 i3 i4 hDn hD2 hS2 hu iI hur g1 g2 g4 hz qE aG dE lY hD5 vg wP hgw ou hBg hS5 hin sW hcall hstep aS hg;go_upto_region 9 with fail;have hS0:zW (fun w':World=>zv w' Z.lb 0 (.slice (some ⟨Z.rb,0,none⟩) n n)) zU wr.drew:=⟨x0,trivial⟩
   refine wp_region_noPanic ?_;refine zG hS0 7 ?_;refine zT 0 hS0 ?_;refine zT 1 hS0 ?_;refine zT 2 hS0 ?_;refine zT 3 hS0 ?_;refine zT 4 hS0 ?_;refine zo 5 fun K hK=>?_;(try simp only[zA,zB,zC]);go_simp;refine hK.out _ _ ⟨z9,trivial⟩ ?_;clear hK K hS0 hmk;(try simp only[zQ]);refine zo 6 fun K hK=>?_;(try simp only[zA,zB,zC]);go_simp;refine hK.out _ _ ⟨z9,trivial⟩ ?_;clear hK K;(try simp only[zQ]);refine zp 7 fun K hK=>?_;(try simp only[zA,zB,zC]);go_simp;refine hK.out _ _ y1 ?_;clear hK K;(try simp only[zQ]);refine zd ?_;refine NoPanic.normal ?_;clear x0 x2 cf fM z9 y1;go_wp2_with fail;refine nP.out.mono ?_;rintro e w6 (⟨rfl,C6,j6,c6,h6,q6⟩|⟨rfl,pre6,C6,j6,h6⟩)
   ·have dS:=zh (show J (pre++(List.range (j+1)).flatMap fun(i:Nat)=>G (lo+(i:Int))) C6 w6/\(∀b,C6 b->C b\/W.heap.size<=b)/\Chg (fun b=>C b\/b=Z.rb) W w6/\RowQ Z bs.length w6 p m f from
     ⟨by rw[HST.out,<-List.append_assoc];exact j6,fun b hb=>(c6 b hb).elim (HI.out.2.1 b) fun h=>.inr (Nat.le_trans bN.out.2.1 h),bN.out.1.trans2 h6 fun b hb h=>by
      rcases h with h|h|h
      ·exact(HI.out.2.1 b h).elim .inl fun h=>by omega
      ·exact .inr h
      ·have:=bN.out.2.2;have h:b=g:=h;omega,q6.dropL.congr fun j hj=>by
       have hj':j≠c:=by have:=qy.out.2.1;omega
       exact⟨if_neg hj',if_neg hj'⟩⟩)
    clear j6 c6 h6 q6 y0;go_wp2_with fail
    go_roundw
    case rel=>exact⟨j+1,C6,by omega,by go_num,dS⟩
    case measure=>simp[intOf];omega
   ·have dS:=zh (show Jx pre6 C6 w6/\Chg (fun b=>C b\/b=Z.rb) W w6 from⟨j6,bN.out.1.trans2 h6 fun b hb h=>by
      rcases h with h|h|h
      ·exact(HI.out.2.1 b h).elim .inl fun h=>by omega
      ·exact .inr h
      ·have:=bN.out.2.2;have h:b=g:=h;omega⟩)
    clear j6 h6 y0;go_wp2_with fail;go_ret;exact .inr ⟨rfl,pre6,C6,dS.out.1,dS.out.2⟩
  ·obtain rfl:j=T:=by omega
   have hj1:¬ (j:Int)<hi'-lo+1:=by omega
   go_wp2_with fail;go_ret;obtain⟨i1,i2,i3,i4⟩:=HI.out;have:=qy.out.1;rw[this]at i4;exact .inl ⟨rfl,C',i1,i2,i3,i4⟩
theorem zup{J Jx:List SS->(Nat->Prop)->World->Prop}{Z:DK}{bs rs:List Bn}{b0:Bn}{h nf:Nat}{B:Nat->Prop}{tot:List SS}(hj:JC J Jx nf Z.l tot)(hb:DB bs h)(hN:∀k,NumC J Jx Z bs h B tot rs k):zx3 J Jx Z bs h B tot (b0::rs):=by
 intro p m f pre C W left hrs hpl hJ hD hQ hS hm hm2 hleft hpre;have mJ:p.length<bs.length:=by have:=congrArg List.length hrs;rw[List.length_drop]at this;simp at this;omega
 have jH:bs.drop (p.length+1)=rs:=by rw[<-List.drop_drop,hrs];rfl
 have hb0:bs[p.length]=b0:=by have:=List.drop_eq_getElem_cons mJ;rw[hrs]at this;injection this with h1 _;exact h1.symm
 have hwb:=ztz (bs:=rs) (h:=h) (by rw[<-jH];exact zsA hb.b _) (by rw[<-jH,List.length_drop];have:=hb.n;omega) hb.hm;have hbb:=hb.b b0 (by rw[<-hb0];exact List.getElem_mem mJ);have x0:W.cell? ⟨Z.lb,0,none⟩=some (.slice (some ⟨Z.rb,0,none⟩) bs.length bs.length):=zc hD.lists rfl;have x2:W.cell? ⟨Z.hb,0,none⟩=some (.int .i64 (h:Int)):=zc hD.hv rfl;have x3:W.cell? ⟨Z.tb,0,none⟩=some (.slice (some ⟨Z.tr,0,none⟩) (bs.length+1) Z.tc):=zc hD.rest rfl;have x1:W.cell? ⟨Z.bb,0,none⟩=some (.slice Z.A bs.length Z.c):=zc hD.ls rfl;obtain⟨x4,x5⟩:=hD.rst (p.length+1) mJ;obtain⟨a,hA,-,x6,x7⟩:=hD.row p.length mJ;rw[hA]at x1;rw[hb0]at x6 x7;rw[jH]at x4 x5;obtain⟨l0,l1⟩:=b0;simp only at hbb x6 x7;have hbn:=hb.n;have u7:=hb.hm;have lg:=hb.h1;obtain⟨n,hn⟩:=zX (bs.length);obtain⟨c,hc⟩:=zX (p.length);obtain⟨w0,hw0⟩:=zX (wlo rs);obtain⟨w1,hw1⟩:=zX (whi h rs);rw[hw0,hw1]at hwb
 rw[hn]at x0 x1 x3 hbn;rw[hc,hw0]at x4;rw[hc,hw1]at x5;rw[hc]at x6 x7;have hcn:c<n:=by omega
 obtain⟨Q,wL⟩:=zX ((left-w1+(h:Int)-1).tdiv (h:Int));have wK : -100000010000<=Q/\Q<=100000010000:=by
  have h1:=Int.natAbs_tdiv_le_natAbs (left-w1+(h:Int)-1) (h:Int);rw[wL]at h1;omega
 obtain⟨lo,hlo⟩:=zX (max (l0:Int) Q);obtain⟨hi',hhi⟩:=zX (min (l1:Int) (left-(w0:Int)));have hlo0:0<=lo:=by omega
 have hlo1:lo<=100000010000:=by omega
 have hhi1:hi'<=1000:=by omega
 have hhi2 : -100000000000<=hi':=by omega
 obtain⟨G,hG⟩:∃G:Int->List SS,G=fun r=>(numE h rs (zkW h rs) r.toNat left).map fun z=>stOf (p++hdA [] z):=⟨_,rfl⟩
 have hX:(zkW h ((l0,l1)::rs) left).map (fun ls=>stOf (p++ls))=(List.range (hi'-lo+1).toNat).flatMap fun(j:Nat)=>G (lo+(j:Int)):=by
  have e:∀z:List (List Int),hdA [] z=z:=fun z=>by cases z<;>rfl
  rw[<-zor,zkW,List.map_flatMap,hw0,hw1,wL,hlo,hhi,hG];simp only[e]
 rw[hX]at hpre ⊢;obtain⟨T,hT⟩:∃T:Nat,(hi'-lo+1).toNat=T:=⟨_,rfl⟩
 rw[hT]at hpre ⊢;have HJ:=zh hj;have jr:=zh hJ;have HD:=zh hD;have HQ:=zh hQ;have HS:=zh hS;have cz:=zh hpre;have HN:=zh hN;have HM:=zh hm;have xm:=zh hm2;have fT:=zh jH;have HG:=zh hG;have qy:=zh (show bs.length=n/\p.length=c/\p.length+1<=bs.length from⟨hn,hc,mJ⟩);rw[hn,hc];exact zuo x0 x2 x3 x1 x4 x5 x6 x7 hwb hbb hbn u7 lg hcn hleft wL wK hlo hhi hlo0 hlo1 hhi1 hhi2 hT HJ jr HD HQ HS cz HN HM xm fT HG qy
theorem zse{J Jx:List SS->(Nat->Prop)->World->Prop}{Z:DK}{bs:List Bn}{h nf:Nat}{B:Nat->Prop}{tot:List SS}(hj:JC J Jx nf Z.l tot)(hb:DB bs h)(hl:∀W,DW Z bs h B W->Z.l<W.heap.size):∀rs,zx3 J Jx Z bs h B tot rs
 | []=>zwU hj hb hl
 | b::rs=>zup hj hb fun k=>by
  induction k with
  | zero=>exact zwH hb (zse hj hb hl rs)
  | succ k ih=>exact zwI hj hb ih
theorem zyL:(Tryz.prog.info? 32).map (fun i=>(i.zero,i.size,i.bytes))=some (some (.slice none 0 0),1,24):=by kernel_rfl
theorem zLa(n:Nat)(hn:n<=4096)(w:World):(Instr.makeSlice 31 (.int .i64 (n:Int)) (.int .i64 (n:Int))).run Tryz.prog w=.ok (.slice (some ⟨w.heap.size,0,none⟩) n n) (w.alloc (.cells (madeCells #[.slice none 0 0] n) 32)):=by
 obtain⟨i,hi,h1,h2,h3⟩:=info_parts zyL;have:=zln (P:=Tryz.prog) 31 32 i (.slice none 0 0) Tryz.underlying31 hi h1 .i64 .i64 n n zl (by rw[h3];omega) (by omega) w;rw[h2,Nat.mul_one]at this;exact this
theorem zm7{w:World}{n:Nat}(hn:w.heap.size=n)(o:Obj):(w.alloc o).heap[n]?=some o:=by rw[<-hn];exact World.alloc_heap_new w o
theorem al8(W:World)(o0 o1 o2 o3 o4 o5 o6 o7:Obj) :
  Below W.heap.size W ((((((((W.alloc o0).alloc o1).alloc o2).alloc o3).alloc o4).alloc o5).alloc o6).alloc o7)/\((((((((W.alloc o0).alloc o1).alloc o2).alloc o3).alloc o4).alloc o5).alloc o6).alloc o7).heap.size=W.heap.size+8 /\
  ∀k,k<8->((((((((W.alloc o0).alloc o1).alloc o2).alloc o3).alloc o4).alloc o5).alloc o6).alloc o7).heap[W.heap.size+k]?=[o0,o1,o2,o3,o4,o5,o6,o7][k]?:=by
 refine⟨zkb (zkb (zkb (zkb (zkb (zkb (zkb (zkb zr _) _) _) _) _) _) _) _,by simp,fun k hk=>?_⟩;have h:k=0\/k=1\/k=2\/k=3\/k=4\/k=5\/k=6\/k=7:=by omega
 rcases h with rfl|rfl|rfl|rfl|rfl|rfl|rfl|rfl
 ·exact zkd (zkd (zkd (zkd (zkd (zkd (zkd (zm7 rfl _) _) _) _) _) _) _) _
 ·exact zkd (zkd (zkd (zkd (zkd (zkd (zm7 (by simp) _) _) _) _) _) _) _
 ·exact zkd (zkd (zkd (zkd (zkd (zm7 (by simp) _) _) _) _) _) _
 ·exact zkd (zkd (zkd (zkd (zm7 (by simp) _) _) _) _) _
 ·exact zkd (zkd (zkd (zm7 (by simp) _) _) _) _
 ·exact zkd (zkd (zm7 (by simp) _) _) _
 ·exact zkd (zm7 (by simp) _) _
 ·exact zm7 (by simp) _
theorem zo2{J Jx:List SS->(Nat->Prop)->World->Prop}{bs:List Bn}{h nf l tr c ct:Nat}{A:Option Addr}{R:Nat->Prop}{tot pre:List SS}{C:Nat->Prop}{W:World}{weight:Int}(hj:JC J Jx nf l tot)(hb:DB bs h)(hl:l<W.heap.size)
  (hJ:J pre C W)(hrb:RowB W R A bs)(hrt:zqS W tr h bs)(hR:∀b,R b->¬ C b)(htr:¬ C tr)(htl:tr<W.heap.size)(hw:0<=weight/\weight<=100000000000)(hpre:(pre++(zkW h bs weight).map stOf) <+: tot) :
  Calls Tryz.prog 81 #[.slice A bs.length c,.slice (some ⟨tr,0,none⟩) (bs.length+1) ct,.int .i64 (h:Int),.int .i64 weight,.func (.yield l) #[] #[]] W fun e W' =>
   ∃b,e=.returned (.bool b)/\((b=true/\∃C',J (pre++(zkW h bs weight).map stOf) C' W'/\(∀b,C' b->C b\/W.heap.size<=b)/\Chg C W W')\/(b=false/\∃pre' C',Jx pre' C' W'/\Chg C W W')):=by
 have hmk:=zLa bs.length (by have:=hb.n;omega);have h8:=fun o0 o1 o2 o3 o4 o5 o6 o7=>al8 W o0 o1 o2 o3 o4 o5 o6 o7;obtain⟨N,hN⟩:=zX (W.heap.size);have H8:=zh (show ∀W',W'=((((((((W.alloc (.cells #[.slice A bs.length c] 93)).alloc (.cells #[.slice (some ⟨tr,0,none⟩) (bs.length+1) ct] 93)).alloc (.cells #[.int .i64 (h:Int)] 3)).alloc (.cells #[.func (.yield l) #[] #[]] 135)).alloc (.cells (madeCells #[.slice none 0 0] bs.length) 32)).alloc (.cells #[.slice (some ⟨N+1+1+1+1,0,none⟩) bs.length bs.length] 31)).alloc (.cells #[.func (.func 112) #[] (DK.cap1 ⟨l,N+1+1+1+1+1,N+1+1+1,N,N+1,N+1+1,N+1+1+1+1+1+1+1,N+1+1+1+1+1+1,N+1+1+1+1,tr,A,c,ct⟩)] 175)).alloc (.cells #[.func (.func 113) #[] (DK.cap2 ⟨l,N+1+1+1+1+1,N+1+1+1,N,N+1,N+1+1,N+1+1+1+1+1+1+1,N+1+1+1+1+1+1,N+1+1+1+1,tr,A,c,ct⟩)] 176)) ->
   Calls Tryz.prog 112 (#[.int .i64 (([]:List (List Int)).length:Int),.int .i64 weight]++DK.cap1 ⟨l,N+1+1+1+1+1,N+1+1+1,N,N+1,N+1+1,N+1+1+1+1+1+1+1,N+1+1+1+1+1+1,N+1+1+1+1,tr,A,c,ct⟩) W' fun e W'=>∃b,e=.returned (.bool b)/\(
   (b=true/\∃C',J (pre++(zkW h bs weight).map stOf) C' W'/\(∀b,C' b->C b\/N<=b)/\Chg C W W')\/(b=false/\∃pre' C',Jx pre' C' W'/\Chg C W W'))from fun W' hW'=>by
  obtain⟨hbl,hsz,hat⟩:=h8 (.cells #[.slice A bs.length c] 93) (.cells #[.slice (some ⟨tr,0,none⟩) (bs.length+1) ct] 93) (.cells #[.int .i64 (h:Int)] 3) (.cells #[.func (.yield l) #[] #[]] 135) (.cells (madeCells #[.slice none 0 0] bs.length) 32) (.cells #[.slice (some ⟨N+1+1+1+1,0,none⟩) bs.length bs.length] 31) (.cells #[.func (.func 112) #[] (DK.cap1 ⟨l,N+1+1+1+1+1,N+1+1+1,N,N+1,N+1+1,N+1+1+1+1+1+1+1,N+1+1+1+1+1+1,N+1+1+1+1,tr,A,c,ct⟩)] 175) (.cells #[.func (.func 113) #[] (DK.cap2 ⟨l,N+1+1+1+1+1,N+1+1+1,N,N+1,N+1+1,N+1+1+1+1+1+1+1,N+1+1+1+1+1+1,N+1+1+1+1,tr,A,c,ct⟩)] 176);rw[<-hW']at hbl hsz hat
  rw[hN]at hsz hat
  have hCN:∀b,C b->b<N:=fun b h=>by rw[<-hN];exact hj.lt _ _ _ hJ b h
  have hlN:l<N:=by omega
  have htN:tr<N:=by omega
  have sZ:∀b,N<=b->b<N+8->b≠N+4->((R b/\b<N)\/b=tr\/(N<=b/\b<N+8/\b≠N+4)):=fun b h1 h2 h3=>.inr (.inr ⟨h1,h2,h3⟩);have hL:=zse (Z:=⟨l,N+1+1+1+1+1,N+1+1+1,N,N+1,N+1+1,N+1+1+1+1+1+1+1,N+1+1+1+1+1+1,N+1+1+1+1,tr,A,c,ct⟩) (B:=fun b=>(R b/\b<N)\/b=tr\/(N<=b/\b<N+8/\b≠N+4)) hj hb (fun w hd=>by have:=hd.lt N (.inr (.inr ⟨by omega,by omega,by omega⟩));show l<_;omega) (rs:=bs) [] (fun _=>0) (fun _=>0) pre C W' weight rfl (Nat.zero_le _) (hj.keep _ _ _ _ hJ (Chg.of_below hbl))
   ⟨hat 5 (by decide),hat 3 (by decide),hat 0 (by decide),hat 1 (by decide),hat 2 (by decide),hat 7 (by decide),hat 6 (by decide),(hrb.keep (S':=fun b=>(R b/\b<N)\/b=tr\/(N<=b/\b<N+8/\b≠N+4)) (fun b h hlt=>.inl ⟨h,by omega⟩) fun b _ hlt=>hbl.block b hlt),hrt.keep (hbl.block _ htl),⟨sZ (N+1+1+1+1+1) (by omega) (by omega) (by omega),sZ (N+1+1+1) (by omega) (by omega) (by omega),sZ (N) (by omega) (by omega) (by omega),sZ (N+1) (by omega) (by omega) (by omega),sZ (N+1+1) (by omega) (by omega) (by omega),sZ (N+1+1+1+1+1+1+1) (by omega) (by omega) (by omega),sZ (N+1+1+1+1+1+1) (by omega) (by omega) (by omega),.inr (.inl rfl)⟩,fun b h=>by rw[hsz];rcases h with h|h|h<;>omega⟩
   ⟨⟨_,hat 4 (by decide),by rw[size_madeCells],fun j hj=>absurd hj (Nat.not_lt_zero j)⟩,fun j hj=>absurd hj (Nat.not_lt_zero j),fun j hj=>absurd hj (Nat.not_lt_zero j),fun i j hi=>absurd hi (Nat.not_lt_zero i),fun x hx=>by cases hx⟩
   ⟨fun b h hc=>by
    have:=hCN b hc;rcases h with h|rfl|h
    ·exact hR b h.1 hc
    ·exact htr hc
    ·omega,fun h=>by have:=hCN _ h;simp only at this;omega,fun j hj=>absurd hj (Nat.not_lt_zero j),fun h=>by simp only at h;omega,fun j hj=>absurd hj (Nat.not_lt_zero j)⟩
   (fun j hj=>absurd hj (Nat.not_lt_zero j)) (fun j hj=>absurd hj (Nat.not_lt_zero j)) hw (by simpa only[List.nil_append]using hpre)
  refine hL.mono ?_;have hch:∀ {w':World},Chg (fun b=>C b\/b=N+1+1+1+1) W' w'->Chg C W w':=fun h=>(Chg.of_below hbl).trans2 h fun b hb h=>h.elim id fun h=>by omega
  rintro e w' (⟨rfl,C',h1,h2,h3,-⟩|⟨rfl,pre',C',h1,h2⟩)
  ·exact⟨_,rfl,.inl ⟨rfl,C',by simpa only[List.nil_append]using h1,fun b h=>(h2 b h).imp id fun h=>by omega,hch h3⟩⟩
  ·exact⟨_,rfl,.inr ⟨rfl,pre',C',h1,hch h2⟩⟩)
 clear h8 hj hb hJ hrb hrt hR hpre htr;go_enter Tryz.func81,Tryz.ntmps81;rw[hN];go_wp2_with fail;refine(H8.out _ rfl).mono ?_;rintro e w2 ⟨b,rfl,hP⟩;have HP:=zh hP;clear hP H8;go_wp2_with fail;go_ret;exact⟨b,rfl,HP.out⟩
structure AllM(W:World)(S:Nat->Prop)(b:BX)(bs:List Bn)(jA xb lb:Nat)(A:Option Addr)(c:Nat):Prop where
 ok:W.heap[jA]?=some (.cells #[.bool true] 4 (0,0))
 bx:W.heap[xb]?=some (.cells #[.int .i64 b.v,.int .i64 b.l,.int .i64 b.i] 27 (0,0))
 ls:W.heap[lb]?=some (.cells #[.slice A bs.length c] 93 (0,0))
 row:RowB W S A bs
def allS(b:BX)(bs:List Bn):List SS:=(allB (2*b.v+1) bs).map stOf
theorem zq0{W:World}{S:Nat->Prop}{b:BX}{bs:List Bn}{jA xb lb c nf:Nat}{A:Option Addr}(hM:AllM W S b bs jA xb lb A c)(hv:0<=b.v/\b.v<=1000)(hn:1<=bs.length/\bs.length<=100)(hb:∀q∈bs,q.1<=1000/\q.2<=1000) :
  zKA YS nf Tryz.prog 79 #[ptr0 jA,ptr0 xb,ptr0 lb] (allS b bs) (fun q=>q=jA\/q=xb\/q=lb\/S q) W:=by
 intro l J Jx C W1 hl0 gQ hch hJ fq hY h0;refine(callsIn_wide (n:=nf)).2 ?_;obtain⟨v,vl,vi⟩:=b;obtain⟨h,hh⟩:∃h:Nat,2*v+1=(h:Int):=⟨(2*v+1).toNat,by simp only at hv;omega⟩
 simp only at hv;have hdb:DB bs h:=⟨hn.2,hb,by omega,by omega,hn.1⟩
 have hxs:allS ⟨v,vl,vi⟩ bs=(List.range (whi h bs-wlo bs+1).toNat).flatMap fun(j:Nat)=>(zkW h bs (wlo bs+(j:Int))).map stOf:=by
  unfold allS allB;simp only;rw[hh,List.map_flatMap,zor (F:=fun w=>(zkW h bs w).map stOf)]
 obtain⟨xs,hx⟩:=zX (allS ⟨v,vl,vi⟩ bs);rw[hx]at hY hxs ⊢;have yx:=zh (show JC J Jx nf l xs from⟨hJ,fq,hY⟩);have hbd:=ztz (h:=h) hb (by omega) (by omega);have x0:W1.cell? ⟨jA,0,none⟩=some (.bool true):=zc (hch.keep hM.ok fun h=>gQ _ h (.inl rfl)) rfl;have x1:W1.cell? ⟨xb,0,none⟩=some (.int .i64 v):=zc (hch.keep hM.bx fun h=>gQ _ h (.inr (.inl rfl))) rfl;have hk2:=hch.keep hM.ls fun h=>gQ _ h (.inr (.inr (.inl rfl)));have x2:W1.cell? ⟨lb,0,none⟩=some (.slice A bs.length c):=zc hk2 rfl;have hnl:¬ C lb:=fun h=>gQ _ h (.inr (.inr (.inl rfl)));have hrb:=hM.row.keep (w':=W1) (S':=fun q=>¬ C q/\q<W1.heap.size) (fun q h hlt=>⟨fun hc=>gQ q hc (.inr (.inr (.inr h))),Nat.lt_of_lt_of_le hlt hch.size⟩) fun q h hlt=>hch.block q hlt fun hc=>gQ q hc (.inr (.inr (.inr h)));have xI:=zq4 bs h A c W1 (hrb.keep (S':=Any) (fun _ _ _=>trivial) fun _ _ _=>rfl) (by omega) hb (by omega)
 obtain⟨w0,hw0⟩:=zX (wlo bs);obtain⟨w1,hw1⟩:=zX (whi h bs);rw[hw0,hw1]at hbd hxs;obtain⟨T,hT⟩:=zX ((w1-(w0:Int)+1).toNat);rw[hT]at hxs;have HWE:=zh xI;have dH:=zh hrb;have Bg:=zh hdb;have xX:=zh hxs;have H0:=zh h0;have aK:=zh hk2;have xh:=zh hnl;have HW:=zh (show wlo bs=w0/\whi h bs=w1 from⟨hw0,hw1⟩);have HL0:=zh hl0;have hnn:=hn;obtain⟨n,hn'⟩:=zX (bs.length);have HN:=zh hn';rw[hn']at x2 HWE hnn;clear hM hv hn hb hl0 gQ hch hJ fq hY h0 hdb hxs hrb xI hw0 hw1 hx hk2 hnl hn'
 show Calls Tryz.prog 79 #[.func (.yield l) #[] #[],ptr0 jA,ptr0 xb,ptr0 lb] W1 _
 have e1:IntKind.i64.wrap (2*v)=2*v:=IntWalk.i64_in _ (by have:=Bg.out.hm;omega);have e2:IntKind.i64.wrap (2*v+1)=(h:Int):=by rw[hh];exact IntWalk.i64_in _ (by have:=Bg.out.hm;omega)
 have HHH:=zh hh;clear hh;go_enter Tryz.func79,Tryz.ntmps79;go_wp2_with fail;refine HWE.out.mono ?_;rintro e w2 ⟨tr,rfl,htr,yY,hb2⟩;obtain⟨y0,y1⟩:=yY 0 (Nat.zero_le _);rw[List.drop_zero,HW.out.1]at y0;rw[List.drop_zero,HW.out.2]at y1;rw[Nat.zero_mul]at y0 y1;have HRP:=zh yY;have HB2:=zh hb2;have yg:=zh htr;have hp0:(0:Int)<(n:Int)+1:=by omega
 have e3:IntKind.i64.wrap (w1-(w0:Int))=w1-(w0:Int):=IntWalk.i64_in _ (by omega);have e4:IntKind.i64.wrap (w1-(w0:Int)+1)=w1-(w0:Int)+1:=IntWalk.i64_in _ (by omega);clear yY htr x0 x1 x2 e1 e2;go_upto_region 3 with fail
 go_quiet (fail)
 have hb3:=zk7 (zs w2) nq;obtain⟨w3,hw3⟩:=zX (w2.drewN nq);rw[hw3]at hb3;rw[hw3];have HB3:=zh (zka hb2 hb3);have HRP3:=zh (HRP.out.keep (hb3.block _ (World.block_lt_of_cell? w2 _ y0)));have HTL:=zh (World.block_lt_of_cell? w2 _ y0);clear hw3 hb3 hb2 y0 y1 e3 e4;go_wp2_with fail;obtain⟨G,hG⟩:∃G:Nat->List SS,G=fun(j:Nat)=>(zkW h bs (w0+(j:Int))).map stOf:=⟨_,rfl⟩
 have HG:=zh hG;have hxs:=xX.out;rw[show(fun(j:Nat)=>(zkW h bs (w0+(j:Int))).map stOf)=G from hG.symm]at hxs;have xX:=zh hxs;clear hG hxs
 go_loopw [27] (fun iv wr=>∃(j:Nat) (C':Nat->Prop),j<=T/\iv=.int .i64 j/\Hid (J ((List.range j).flatMap G) C' wr/\(∀b,C' b->C b\/W1.heap.size<=b)/\Chg C W1 wr)/\Hid (¬ C' tr/\zqS wr tr h bs)) (fun iv _=>T-(intOf iv).toNat)
 case atStart=>exact⟨0,C,Nat.zero_le _,rfl,zh ⟨yx.out.keep _ _ _ _ H0.out (Chg.of_below HB3.out),fun b h=>.inl h,Chg.of_below HB3.out⟩,zh ⟨fun h=>by have:=yx.out.lt _ _ _ H0.out _ h;have:=yg.out;omega,HRP3.out⟩⟩
 case round =>
  obtain⟨j,C',hjT,rfl,HI,fT⟩:=hrel;by_cases hlt:j<T
  ·have hj1:(j:Int)<w1-(w0:Int)+1:=by omega
   have hsz:=HI.out.2.2.size;have y0:wr.cell? ⟨tr,0,none⟩=some (.int .i64 (w0:Int)):=by have:=(fT.out.2 0 (Nat.zero_le _)).1;rwa[List.drop_zero,HW.out.1,Nat.zero_mul]at this
   have x2:wr.cell? ⟨lb,0,none⟩=some (.slice A n c):=by rw[<-HN.out];exact zc (HI.out.2.2.keep aK.out xh.out) rfl
   have hpre:(List.range j).flatMap G++(zkW h bs ((w0:Int)+(j:Int))).map stOf <+: xs:=by
    rw[xX.out];have:=zoI (F:=G) (g:=fun i=>i) hlt;rwa[HG.out]at this ⊢
   have e1:IntKind.i64.wrap ((w0:Int)+(j:Int))=(w0:Int)+(j:Int):=IntWalk.i64_in _ (by omega);have htl:tr<wr.heap.size:=World.block_lt_of_cell? wr _ y0
   have HDI:=zh (fun w' (hbw:Below wr.heap.size wr w')=>show Calls Tryz.prog 81 #[.slice A bs.length c,.slice (some ⟨tr,0,none⟩) (bs.length+1) (n+1),.int .i64 (h:Int),.int .i64 ((w0:Int)+(j:Int)),.func (.yield l) #[] #[]] w' (fun e w9=>∃b,e=.returned (.bool b)/\((b=true/\∃C9,J ((List.range (j+1)).flatMap G) C9 w9/\(∀q,C9 q->C q\/W1.heap.size<=q)/\Chg C W1 w9/\¬ C9 tr/\zqS w9 tr h bs)\/(b=false/\∃pre' C9,Jx pre' C9 w9/\Chg C W1 w9)))from(zo2 (c:=c) (ct:=n+1) (A:=A) (R:=fun q=>¬ C q/\q<W1.heap.size) (tr:=tr) (pre:=(List.range j).flatMap G) (C:=C') (W:=w') (weight:=(w0:Int)+(j:Int)) yx.out Bg.out (by have:=HL0.out;have:=hbw.size;omega) (yx.out.keep _ _ _ _ HI.out.1 (Chg.of_below hbw)) ((dH.out.keep (fun q h _=>h) fun q h hlt=>HI.out.2.2.block q hlt h.1).later hbw) (fT.out.2.keep (hbw.block _ htl)) (fun q h hc=>(HI.out.2.1 q hc).elim h.1 fun h'=>by omega) fT.out.1 (Nat.lt_of_lt_of_le htl hbw.size) (by omega) hpre).mono
    fun e w9 ⟨b,hb,hr⟩=>⟨b,hb,by
     have hch:∀ {D:World},Chg C' w' D->Chg C W1 D:=fun h=>(HI.out.2.2.trans2 (Chg.of_below hbw (C:=fun _=>False)) fun _ _ h=>h.elim).trans2 h fun q hq h=>(HI.out.2.1 q h).elim id fun h'=>by omega
     rcases hr with⟨rfl,C9,h1,h2,h3⟩|⟨rfl,pre',C9,h1,h2⟩
     ·refine .inl ⟨rfl,C9,?_,fun q hq=>(h2 q hq).elim (HI.out.2.1 q) fun h=>.inr (Nat.le_trans hsz (Nat.le_trans hbw.size h)),hch h3,fun h=>(h2 _ h).elim fT.out.1 fun h=>by have:=hbw.size;omega,fT.out.2.keep ((h3.block _ (Nat.lt_of_lt_of_le htl hbw.size) fT.out.1).trans (hbw.block _ htl))⟩;rw[List.range_succ,List.flatMap_append];have e:[j].flatMap G=(zkW h bs ((w0:Int)+(j:Int))).map stOf:=by rw[HG.out];simp
      rw[e];exact h1
     ·exact .inr ⟨rfl,pre',C9,h1,hch h2⟩⟩)
   rw[HN.out]at HDI;clear hpre htl;go_upto_region 6 with fail
   go_region_with (refine(HDI.out _ (by first|exact zr.drew|exact zk7 zr _)).mono ?_;rintro e w9 ⟨b9,rfl,hR9⟩)
   all_goals
    have lG:=zh hR9;clear hR9 y0 x2;(try simp only[zQ])
    cases b9
    ·obtain⟨h0,-⟩|⟨-,pre',C9,j9,h9⟩:=lG.out
     ·cases h0
     have HF:=zh (And.intro j9 h9);clear j9 h9;go_wp2_with fail;refine bodyPost_ret (v:=.tuple #[]) (results_none (by rfl) _ _ _) rfl ?_;exact⟨⟨_,rfl⟩,.inr ⟨⟨pre',C9,HF.out.1⟩,HF.out.2⟩⟩
    ·obtain⟨-,C9,j9,c9,h9,t9,r9⟩|⟨h0,-⟩:=lG.out;rotate_left 1
     ·cases h0
     have HF:=zh (And.intro j9 (And.intro c9 h9));have uG:=zh (And.intro t9 r9);clear j9 c9 h9 t9 r9;have uS:IntKind.i64.wrap ((j:Int)+1)=(j:Int)+1:=IntWalk.i64_in _ (by omega);go_wp2_with fail;exact⟨⟨j+1,C9,by omega,by go_num,HF,uG⟩,by simp[intOf];omega⟩
  ·obtain rfl:j=T:=by omega
   have hj1:¬ (j:Int)<w1-(w0:Int)+1:=by omega
   go_wp2_with fail;go_end0;exact⟨⟨_,rfl⟩,.inl ⟨⟨C',by rw[xX.out];exact HI.out.1⟩,HI.out.2.2⟩⟩
theorem zv4(vs:List VD)(b:BX)(A:Option Addr)(c:Nat)(w:World)(hrow:RowV w Any A vs)(hl:vs.length<=LV)(hok:(b.ok&&svB vs)=true):Calls Tryz.prog 38 #[.slice A vs.length c,.agg #[.int .i64 b.v,.int .i64 b.l,.int .i64 b.i]] w fun e w' =>
  ∃jA xb lb A2 c2,e=.returned (.func (.func 79) #[] #[ptr0 jA,ptr0 xb,ptr0 lb])/\Below w.heap.size w w'/\w.heap.size<=jA/\w.heap.size<=xb/\w.heap.size<=lb/\AllM w' (fun q=>w.heap.size<=q) b (lenE vs b) jA xb lb A2 c2:=by
 obtain⟨bv,bl,bi⟩:=b;simp only;have hb1:=zkb (zs w) (.cells #[.int .i64 bv,.int .i64 bl,.int .i64 bi] 27);have hk1:=heap_alloc_new w (.cells #[.int .i64 bv,.int .i64 bl,.int .i64 bi] 27);have xn:=zh (fun w' (hb:Below w.heap.size w w')=>zoB vs ⟨bv,bl,bi⟩ A c w' (hrow.later hb) hl);have hlen:=(zlV hok).1;obtain⟨bs,hbs⟩:=zX (lenE vs ⟨bv,bl,bi⟩);have kg:=zh hbs;rw[hbs]at hlen ⊢;have HLEN:=zh hlen;clear hrow hl hbs hlen;go_enter Tryz.func38,Tryz.ntmps38;go_upto_region 1 with fail;obtain⟨w1,hw1⟩:=zX (w.alloc (.cells #[.int .i64 bv,.int .i64 bl,.int .i64 bi] 27));rw[hw1]at hb1 hk1 ⊢;obtain⟨x0,x1,x2⟩:=zkx hk1;have HB1:=zh hb1;have aB:=zh hk1;clear hw1 hb1 hk1;go_wp2_with fail;refine(xn.out _ HB1.out).mono ?_;rintro e w2 ⟨hb2,⟨h0,rfl⟩|⟨-,A2,c2,rfl,hrb⟩⟩
 ·rw[hok]at h0;cases h0
 have HB2:=zh (zka HB1.out hb2);have aK:=zh (zkc aB.out hb2);rw[kg.out]at hrb;have dH:=zh (hrb.keep (S':=fun q=>w.heap.size<=q) (fun q h _=>Nat.le_trans HB1.out.size h) fun _ _ _=>rfl);clear hrb hb2 x0 x1 x2 xn;go_wp2_with fail;go_ret;have hb4:=zkb (zkb HB2.out (.cells #[.slice A2 (vs.length+1) c2] 93)) (.cells #[.bool true] 4);have hb24:Below w2.heap.size w2 ((w2.alloc (.cells #[.slice A2 (vs.length+1) c2] 93)).alloc (.cells #[.bool true] 4)):=zkb (zkb zr _) _;have hsz:=HB2.out.size;have hl:=HLEN.out;refine⟨w2.heap.size+1,w.heap.size,w2.heap.size,A2,c2,rfl,hb4,by omega,zl,hsz,zm7 (by simp) _,zkc aK.out hb24,?_,dH.out.later hb24⟩;rw[hl];exact zkd (zm7 rfl _) _
def smlE(vs:List VD)(b:BX):Bool:=decide ((cntR vs b).2=0)&&decide ((cntR vs b).1<=65536)
theorem zra{vs:List VD}{b:BX}(h:smlE vs b=true):(b.ok&&svB vs)=true/\cntE (2*b.v+1) (lenE vs b)<=65536:=by
 simp only[smlE,Bool.and_eq_true,decide_eq_true_eq]at h;obtain⟨h1,h2⟩:=h;unfold cntR at h1 h2
 split at h1
 ·rename_i h3;rw[if_pos h3]at h2;refine⟨h3,?_⟩
  split at h1
  ·cases h1
  ·rename_i h4;rw[if_neg h4]at h2;exact h2
 ·cases h1
theorem zpg(vs:List VD)(b:BX)(A:Option Addr)(c:Nat)(w:World)(hrow:RowV w Any A vs)(hl:vs.length<=LV):Calls Tryz.prog 37 #[.slice A vs.length c,.agg #[.int .i64 b.v,.int .i64 b.l,.int .i64 b.i]] w fun e w'=>e=.returned (.bool (smlE vs b))/\Below w.heap.size w w':=by
 obtain⟨bv,bl,bi⟩:=b;simp only;have hb1:=zkb (zs w) (.cells #[.int .i64 bv,.int .i64 bl,.int .i64 bi] 27);have hk1:=heap_alloc_new w (.cells #[.int .i64 bv,.int .i64 bl,.int .i64 bi] 27);have q9:=zh (fun w' (hb:Below w.heap.size w w')=>zqU vs ⟨bv,bl,bi⟩ A c w' (hrow.later hb) hl);have HS:=zh (show smlE vs ⟨bv,bl,bi⟩=(decide ((cntR vs ⟨bv,bl,bi⟩).2=0)&&decide ((cntR vs ⟨bv,bl,bi⟩).1<=65536))from rfl);obtain⟨⟨R1,R2⟩,hR⟩:=zX (cntR vs ⟨bv,bl,bi⟩);rw[hR]at q9 HS;clear hrow hl hR;go_enter Tryz.func37,Tryz.ntmps37;go_upto_region 1 with fail;obtain⟨w1,hw1⟩:=zX (w.alloc (.cells #[.int .i64 bv,.int .i64 bl,.int .i64 bi] 27));rw[hw1]at hb1 hk1 ⊢;obtain⟨x0,x1,x2⟩:=zkx hk1;have HB1:=zh hb1;clear hw1 hb1 hk1;go_wp2_with fail;refine(q9.out _ HB1.out).mono ?_;rintro e w2 ⟨rfl,hb2⟩;have HB2:=zh (zka HB1.out hb2);clear hb2 x0 x1 x2;by_cases h0:R2=0
 ·subst h0;have HF:=zh (show smlE vs ⟨bv,bl,bi⟩=decide (R1<=65536) by rw[HS.out];simp);go_wp2_with fail;go_ret;exact⟨by rw[HF.out];rfl,HB2.out⟩
 ·have e0:(R2==0)=false:=by simpa using h0
  have HF:=zh (show smlE vs ⟨bv,bl,bi⟩=false by rw[HS.out];simp[h0]);go_wp2_with fail;go_ret;exact⟨by rw[HF.out];rfl,HB2.out⟩
def cdE(vs:List VD)(t:T)(s:SS):Option SS:=if (asgE vs t s).1=0/\fitB vs (asgE vs t s).2=true then some (asgE vs t s).2 else none
def hitE(f:SS->Option SS)(x q:SS):Bool:=match f q with
 | some y=>eqS y x
 | none=>false
theorem zp5{s t:SS}:eqS s t=true↔s=t:=by
 obtain⟨a,b,c⟩:=s;obtain⟨a',b',c'⟩:=t;simp[eqS,and_assoc]
theorem zqA{f:SS->Option SS}{x q:SS}:hitE f x q=true↔f q=some x:=by
 unfold hitE
 cases h:f q with
 | none=>simp
 | some y=>simp[zp5]
def zmj(f:SS->Option SS):List SS->List SS->Option (SS×SS)
 | _,[]=>none
 | pre,s::ss=>match f s with
  | none=>zmj f (pre++[s]) ss
  | some x=>match pre.find? (hitE f x)with
   | some q=>some (q,s)
   | none=>zmj f (pre++[s]) ss
def zoX(f:SS->Option SS)(l:List SS):Prop:=∀a s b,l=a++s::b->∀x,f s=some x->∀q∈a,f q≠some x
theorem zoX.snoc{f:SS->Option SS}{a:List SS}{s:SS}(h:zoX f a)(hs:∀x,f s=some x->∀q∈a,f q≠some x):zoX f (a++[s]):=by
 intro c r d e x hx q hq;rcases List.eq_nil_or_concat d with rfl|⟨d',y,rfl⟩
 ·have e2:=List.append_inj' (s₁:=a) (s₂:=c) e rfl;obtain⟨rfl,e3⟩:=e2;injection e3 with e3;exact hs x (e3▸hx) q hq
 ·have e2:a++[s]=(c++r::d')++[y]:=by rw[e];simp
  exact h c r d' (List.append_inj' e2 rfl).1 x hx q hq
theorem zoX.find{f:SS->Option SS}{a b:List SS}{s x:SS}(h:zoX f (a++s::b))(hx:f s=some x):a.find? (hitE f x)=none :=
 List.find?_eq_none.2 fun q hq=>by
  intro e;exact h a s b rfl x hx q hq (zqA.1 e)
theorem zmq{f:SS->Option SS}:∀(ss pre:List SS),zoX f (pre++ss)->zmj f pre ss=none
 | [],_,_=>rfl
 | s::ss,pre,h=>by
  rw[zmj]
  cases hx:f s with
  | none=>exact zmq ss (pre++[s]) (by simpa using h)
  | some x =>
   simp only[h.find hx];exact zmq ss (pre++[s]) (by simpa using h)
theorem zng{f:SS->Option SS}{s x q:SS}{b:List SS}(hx:f s=some x):∀(a pre:List SS),zoX f (pre++a)->(pre++a).find? (hitE f x)=some q->zmj f pre (a++s::b)=some (q,s)
 | [],pre,_,hf=>by
  rw[List.append_nil]at hf;rw[List.nil_append,zmj];simp only[hx,hf]
 | r::a,pre,h,hf=>by
  rw[List.cons_append,zmj]
  cases hy:f r with
  | none=>exact zng hx a (pre++[r]) (by simpa using h) (by simpa using hf)
  | some y =>
   simp only[h.find hy];exact zng hx a (pre++[r]) (by simpa using h) (by simpa using hf)
theorem zxh{f:SS->Option SS}{a:List SS}{q x:SS}(h:zoX f a)(hq:q∈a)(hx:f q=some x):a.find? (hitE f x)=some q:=by
 obtain⟨c,d,rfl⟩:=List.append_of_mem hq;rw[List.find?_append,h.find hx];simp[List.find?_cons,zqA.2 hx]
def strS(xs:List Int):ByteArray:=xs.foldl (fun r n=>r.push (UInt8.ofNat n.toNat)) ByteArray.empty
def bysS(xs:List Int):List UInt8:=xs.map fun n=>UInt8.ofNat n.toNat
theorem zpe:∀(xs:List Int) (r:ByteArray),(xs.foldl (fun r n=>r.push (UInt8.ofNat n.toNat)) r).data.toList=r.data.toList++bysS xs
 | [],r=>by simp[bysS]
 | x::xs,r=>by
  rw[List.foldl_cons,zpe xs];simp[bysS,ByteArray.push]
theorem zqm(xs:List Int):(strS xs).data.toList=bysS xs:=by
 rw[strS,zpe];rfl
theorem zsw:∀ {xs ys:List Int},(∀x∈xs,0<=x/\x<256)->(∀y∈ys,0<=y/\y<256)->bysS xs=bysS ys->xs=ys
 | [],[],_,_,_=>rfl
 | [],_::_,_,_,h=>by simp[bysS]at h
 | _::_,[],_,_,h=>by simp[bysS]at h
 | x::xs,y::ys,h1,h2,h=>by
  simp only[bysS,List.map_cons,List.cons.injEq]at h;obtain⟨e1,e2⟩:=h;have b1:=h1 x (by simp);have b2:=h2 y (by simp);have e3:=congrArg UInt8.toNat e1;simp only[UInt8.toNat_ofNat']at e3;rw[Nat.mod_eq_of_lt (by omega),Nat.mod_eq_of_lt (by omega)]at e3;rw[show x=y by omega,zsw (fun z hz=>h1 z (by simp[hz])) (fun z hz=>h2 z (by simp[hz])) e2]
theorem zzr(n:Int)(i:Nat):0<=byE n i/\byE n i<256:=by unfold byE;omega
theorem zog(n:Int):∀k,∀x∈bysE n k,0<=x/\x<256
 | 0,x,h=>by simp[bysE]at h
 | k+1,x,h=>by
  simp only[bysE,List.mem_cons]at h;rcases h with rfl|h
  ·exact zzr n _
  ·exact zog n k x h
theorem zuk(l:List Int):∀x∈lsE l,0<=x/\x<256:=fun x h=>by
 obtain⟨y,-,h⟩:=List.mem_flatMap.1 h;exact zog _ _ _ h
theorem zvd(l:List Int):∀x∈cnE l,0<=x/\x<256:=fun x h=>by
 rcases List.mem_append.1 h with h|h
 ·exact zog _ _ _ h
 ·exact zuk _ _ h
theorem zuY:∀(vs:List VD) (ls:List (List Int)),∀x∈enC vs ls,0<=x/\x<256
 | [],[],x,h=>by simp[enC]at h
 | [],_::_,x,h=>by simp[enC]at h
 | _::_,[],x,h=>by simp[enC]at h
 | v::vs,l::ls,x,h=>by
  simp only[enC,List.mem_append]at h;rcases h with h|h|h
  ·by_cases h3:v.k=3
   ·rw[if_pos h3]at h;exact zog _ _ _ h
   ·rw[if_neg h3]at h;exact absurd h (List.not_mem_nil)
  ·exact zuk _ _ h
  ·exact zuY vs ls x h
theorem zsp(vs:List VD)(s:SS):∀x∈encS vs s,0<=x/\x<256:=fun x h=>by
 simp only[encS,List.mem_append]at h;rcases h with h|h|h
 ·exact zuY _ _ _ h
 ·exact zvd _ _ h
 ·exact zvd _ _ h
def kS(vs:List VD)(x:SS):Lit:=.string (bysS (encS vs x))
theorem zKa{vs:List VD}{x y:SS}(hx:fitB vs x=true)(hy:fitB vs y=true)(ix:x.I)(iy:y.I)(h:kS vs x=kS vs y):x=y:=by
 unfold kS at h;injection h with h;exact zxs hx hy ix iy (zsw (zsp _ _) (zsp _ _) h)
def hR:Value->Option (DataW Value×List MemPlace):=fun v=>some (.held v,[])
def LoM(W:World)(mb:Nat)(vs:List VD)(f:SS->Option SS)(pre:List SS)(S:Nat->Prop):Prop :=
 ∃D:DataW Value,W.ownsMap Tryz.prog 9 hR mb pre.length D/\(∀s∈pre,∀x,f s=some x->x.I/\∃v,Maps.has D (kS vs x)=true/\(∀zd,D.atKey (kS vs x) zd=.held v)/\SV W S s v) /\
  ∀kl,Maps.has D kl=true->∃s∈pre,∃x,f s=some x/\kl=kS vs x
theorem LoM.lt{W:World}{mb:Nat}{vs:List VD}{f:SS->Option SS}{pre:List SS}{S:Nat->Prop}(h:LoM W mb vs f pre S):mb<W.heap.size:=h.choose_spec.1.lt
theorem LoM.keep{W W':World}{mb:Nat}{vs:List VD}{f:SS->Option SS}{pre:List SS}{S S':Nat->Prop}(h:LoM W mb vs f pre S)(hm:W'.heap[mb]?=W.heap[mb]?)(hS:∀b,S b->b<W.heap.size->S' b)(hk:∀b,S b->b<W.heap.size->W'.heap[b]?=W.heap[b]?):LoM W' mb vs f pre S':=by
 obtain⟨D,⟨es,clock,hb,r⟩,h2,h3⟩:=h;exact⟨D,⟨es,clock,hm.trans hb,r⟩,fun s hs x hx=>let ⟨i,v,a,b,c⟩:=h2 s hs x hx;⟨i,v,a,b,c.keep hS hk⟩,h3⟩
theorem LoM.skip{W:World}{mb:Nat}{vs:List VD}{f:SS->Option SS}{pre:List SS}{S:Nat->Prop}{s:SS}(h:LoM W mb vs f pre S)(hs:f s=none):LoM W mb vs f (pre++[s]) S:=by
 obtain⟨D,h1,h2,h3⟩:=h;refine⟨D,h1.mono (by simp),fun r hr x hx=>?_,fun kl hk=>?_⟩
 ·rcases List.mem_append.1 hr with hr|hr
  ·exact h2 r hr x hx
  ·rw[List.mem_singleton.1 hr,hs]at hx;cases hx
 ·obtain⟨r,hr,x,hx⟩:=h3 kl hk;exact⟨r,List.mem_append_left _ hr,x,hx⟩
theorem LoM.made(W:World)(vs:List VD)(f:SS->Option SS)(S:Nat->Prop):LoM (W.alloc (.map #[] 0)) W.heap.size vs f [] S :=
 ⟨.map [],World.ownsMap_made W _ _ _,(fun _ h=>by cases h),(fun _ h=>by cases h)⟩
theorem LoM.put{W W':World}{mb:Nat}{vs:List VD}{f:SS->Option SS}{pre:List SS}{S S':Nat->Prop}{s x:SS}{v:Value}{D:DataW Value}
  (h2:∀s∈pre,∀x,f s=some x->x.I/\∃v,Maps.has D (kS vs x)=true/\(∀zd,D.atKey (kS vs x) zd=.held v)/\SV W S s v)(h3:∀kl,Maps.has D kl=true->∃s∈pre,∃x,f s=some x/\kl=kS vs x)(hD:Maps.IsMap D)
  (hx:f s=some x)(uR:x.I)(hn:Maps.has D (kS vs x)=false)(ho:W'.ownsMap Tryz.prog 9 hR mb (pre.length+1) (D.put (kS vs x) (.held v)))(hv:SV W' S' s v)(hS:∀b,S b->b<W.heap.size->S' b)(hk:∀b,S b->b<W.heap.size->W'.heap[b]?=W.heap[b]?):LoM W' mb vs f (pre++[s]) S':=by
 have hkl:WideAt.IsKeyLit (kS vs x):=trivial;refine⟨_,by simpa using ho,fun r hr y hy=>?_,fun kl h=>?_⟩
 ·rcases List.mem_append.1 hr with hr|hr
  ·obtain⟨i,u,a,b,c⟩:=h2 r hr y hy;have hne:kS vs y≠kS vs x:=fun e=>by rw[e,hn]at a;cases a
   exact⟨i,u,by rw[Maps.has_put_other hne];exact a,fun zd=>by rw[Maps.atKey_put_other hne];exact b zd,c.keep hS hk⟩
  ·rw[List.mem_singleton.1 hr]at hy ⊢;rw[hx]at hy;injection hy with hy;subst hy;exact⟨uR,v,Maps.has_put_same hD hkl _,fun zd=>Maps.atKey_put_same hD hkl _ zd,hv⟩
 ·by_cases e:kl=kS vs x
  ·exact⟨s,by simp,x,hx,e⟩
  ·rw[Maps.has_put_other e]at h;obtain⟨r,hr,y,hy⟩:=h3 kl h;exact⟨r,List.mem_append_left _ hr,y,hy⟩
attribute [local go_sem] Oper.semAt_some
def zlR(vs:List VD)(prs:List PR)(t:T):PG:=⟨vs,prs,.nd 57 0 ⟨#[]⟩ [t]⟩
def zo1(p:PG)(F:Int)(s:SS):Bool:=decide ((resO p s F (F.toNat*2000+2000) false).2.2.1=15)
theorem al5(W:World)(o0 o1 o2 o3 o4:Obj):Below W.heap.size W (((((W.alloc o0).alloc o1).alloc o2).alloc o3).alloc o4)/\(((((W.alloc o0).alloc o1).alloc o2).alloc o3).alloc o4).heap.size=W.heap.size+5/\(((((W.alloc o0).alloc o1).alloc o2).alloc o3).alloc o4).heap[W.heap.size]?=some o0/\(((((W.alloc o0).alloc o1).alloc o2).alloc o3).alloc o4).heap[W.heap.size+1]?=some o1/\(((((W.alloc o0).alloc o1).alloc o2).alloc o3).alloc o4).heap[W.heap.size+2]?=some o2/\(((((W.alloc o0).alloc o1).alloc o2).alloc o3).alloc o4).heap[W.heap.size+3]?=some o3/\(((((W.alloc o0).alloc o1).alloc o2).alloc o3).alloc o4).heap[W.heap.size+4]?=some o4 :=
 ⟨zkb (zkb (zkb (zkb (zkb zr _) _) _) _) _,by simp,zkd (zkd (zkd (zkd (zlQ _ rfl _) _) _) _) _,zkd (zkd (zkd (zlQ _ (by simp) _) _) _) _,zkd (zkd (zlQ _ (by simp) _) _) _,zkd (zlQ _ (by simp) _) _,zlQ _ (by simp) _⟩
theorem zyx{w:World}{S:Nat->Prop}{k n k1 n1:Int}{s s1:ByteArray}{ks:List T}{A:Option Addr}{l c b:Nat}(hf:Fld k n s)(hb:S b)(hk:w.heap[b]?=some (.cells #[.int .u8 k1,.int .i64 n1,.string s1,.slice A l c] 24 (0,0)))
  (h:NV w S (.nd k1 n1 s1 ks) (.agg #[.int .u8 k1,.int .i64 n1,.string s1,.slice A l c])):NV w S (.nd k n s [.nd k1 n1 s1 ks]) (.agg #[.int .u8 k,.int .i64 n,.string s,.slice (some ⟨b,0,none⟩) 1 1]):=by
 obtain⟨q0,q1,q2,q3⟩:=box4 hk;refine NV.mk k n s [.nd k1 n1 s1 ks] (some ⟨b,0,none⟩) 1 ⟨b,0,none⟩ (fun _=>.int .u8 k1) (fun _=>.int .i64 n1) (fun _=>.string s1) (fun _=>.slice A l c) hf (by unfold LK;simp) zl (fun _=>⟨rfl,hb⟩) (fun i hi=>?_) fun i hi=>?_
 ·obtain rfl:i=0:=by simpa using hi
  rw[Nat.zero_mul,Addr.add_zero'];exact⟨q0,q1,q2,q3⟩
 ·obtain rfl:i=0:=by simpa using hi
  exact h
def FaI(B:Nat)(w5:World)(f:SS->Bool)(pre:List SS)(C:Nat->Prop)(W:World):Prop:=(∀b,C b↔b<B)/\(∀b,b<B->W.heap[b]?=w5.heap[b]?)/\(∀s∈pre,f s=false)/\B<=W.heap.size
def FaX(B N:Nat)(w5:World)(f:SS->Bool)(xs pre:List SS)(C:Nat->Prop)(W:World):Prop:=∃dC s g X A l c B1 m d D k e,pre=dC++[s]/\pre <+: xs/\(∀s∈dC,f s=false)/\f s=true/\(∀b,C b↔b<B\/(g<=b/\b<X))/\(B<=g/\w5.heap.size<g)/\X<=W.heap.size/\B<=W.heap.size /\
 (∀b,b<B->b≠N+3->b≠N+4->W.heap[b]?=w5.heap[b]?)/\W.heap[N+3]?=some (.cells #[.slice A l c,.slice B1 m d,.slice D k e] 34 (0,0))/\W.heap[N+4]?=some (.cells #[.bool true] 4 (0,0))/\SV W (fun q=>g<=q/\q<X) s (.agg #[.slice A l c,.slice B1 m d,.slice D k e])
theorem FaI.chg{B:Nat}{w5 W W':World}{f:SS->Bool}{pre:List SS}{C D:Nat->Prop}(h:FaI B w5 f pre C W)(hc:Chg D W W')(hD:∀b,C b->¬ D b):FaI B w5 f pre C W' :=
 ⟨h.1,fun b hb=>(hc.block b (Nat.lt_of_lt_of_le hb h.2.2.2) (hD b ((h.1 b).2 hb))).trans (h.2.1 b hb),h.2.2.1,Nat.le_trans h.2.2.2 hc.size⟩
theorem FaX.chg{B N:Nat}{w5 W W':World}{f:SS->Bool}{xs pre:List SS}{C D:Nat->Prop}(h:FaX B N w5 f xs pre C W)(hN:N+4<B)(hc:Chg D W W')(hD:∀b,C b->¬ D b):FaX B N w5 f xs pre C W':=by
 obtain⟨dC,s,g,X,A,l,c,B1,m,d,E,k,e,h1,h2,h3,h4,h5,h6,h7,h8,h9,h10,h11,h12⟩:=h;exact⟨dC,s,g,X,A,l,c,B1,m,d,E,k,e,h1,h2,h3,h4,h5,h6,Nat.le_trans h7 hc.size,Nat.le_trans h8 hc.size,fun b hb n3 n4=>(hc.block b (by omega) (hD b ((h5 b).2 (.inl hb)))).trans (h9 b hb n3 n4),hc.keep h10 (hD _ ((h5 _).2 (.inl (by omega)))),hc.keep h11 (hD _ ((h5 _).2 (.inl hN))),h12.keep (fun _ h _=>h) fun b hb _=>hc.block b (by omega) (hD b ((h5 b).2 (.inr hb)))⟩
def zKK(r:Option SS)(W:World)(e:Ending)(W':World):Prop:=Below W.heap.size W W'/\∃v b,e=.returned (.tuple #[v,.bool b])/\((r=none/\b=false/\v=.agg #[.slice none 0 0,.slice none 0 0,.slice none 0 0])\/∃s,r=some s/\b=true/\SV W' (fun q=>W.heap.size<=q) s v)
theorem zyo:IsFn Tryz.prog 79 Tryz.f79:=⟨Tryz.func79,by kernel_rfl,by kernel_rfl⟩
theorem bNd1(k n:Int)(s:ByteArray)(A:Option Addr)(l c:Nat)(w:World):(Instr.buildSlice 22 1 #[(0,.agg #[.int .u8 k,.int .i64 n,.string s,.slice A l c])]).run Tryz.prog w=.ok (.slice (some ⟨w.heap.size,0,none⟩) 1 1) (w.alloc (.cells #[.int .u8 k,.int .i64 n,.string s,.slice A l c] 24)):=by kernel_rfl
theorem zry{W:World}{vs:List VD}{prs:List PR}{b:BX}{t:T}{v:Value}{F:Int}{A1 A2:Option Addr}{c1 c2:Nat}(hv:NV W Any t v)(hr:RowV W Any A1 vs)(hl:vs.length<=LV)(hlc:vs.length<=c1)(hp:RowP W Any A2 prs)(hlp:prs.length<=LV)(hpc:prs.length<=c2)
  (hF:I64 F)(ng:F<=1000000) :
  Calls Tryz.prog 43 #[v,.slice A1 vs.length c1,.slice A2 prs.length c2,.agg #[.int .i64 b.v,.int .i64 b.l,.int .i64 b.i],.int .i64 F] W
   (zKK (if smlE vs b=true then(allS b (lenE vs b)).find? (zo1 (zlR vs prs t) F)else none) W):=by
 obtain⟨RR,hRR⟩:=zX ((if smlE vs b=true then(allS b (lenE vs b)).find? (zo1 (zlR vs prs t) F)else none));rw[hRR];have HRR:=zh hRR;clear hRR;have xc:=zh (fun w' (hb:Below W.heap.size W w')=>zpg vs b A1 c1 w' (hr.later hb) hl);have bE:=zh (fun w' (hb:Below W.heap.size W w') hok=>zv4 vs b A1 c1 w' (hr.later hb) hl hok);have HV:=zh (hv.keep (S':=fun b=>b<W.heap.size) (fun _ _ h=>h) fun _ _ _=>rfl);have HR:=zh (hr.keep (S':=fun b=>b<W.heap.size) (fun _ _ h=>h) fun _ _ _=>rfl);have HP:=zh (hp.keep (S':=fun b=>b<W.heap.size) (fun _ _ h=>h) fun _ _ _=>rfl);have HL:=zh (And.intro hl (And.intro hlc (And.intro hlp (And.intro hpc (And.intro hF ng)))));obtain⟨A3,c3,rfl,-⟩:=hv.open_;obtain⟨k,n,nm,ks⟩:=t;obtain⟨bv,bl,bi⟩:=b;simp only[T.k_nd,T.n_nd,T.s_nd,T.ks_nd]at HV ⊢;obtain⟨N,hN⟩:=zX (W.heap.size);have HN:=zh hN
 obtain⟨hb1,hz1,k0,k1,k2,k3,k4⟩:=al5 W (.cells #[.int .u8 k,.int .i64 n,.string nm,.slice A3 ks.length c3] 24) (.cells #[.int .i64 bv,.int .i64 bl,.int .i64 bi] 27) (.cells #[.int .i64 F] 3) (.cells #[.slice none 0 0,.slice none 0 0,.slice none 0 0] 34) (.cells #[.bool false] 4);obtain⟨w1,hw1⟩:=zX (((((W.alloc (.cells #[.int .u8 k,.int .i64 n,.string nm,.slice A3 ks.length c3] 24)).alloc (.cells #[.int .i64 bv,.int .i64 bl,.int .i64 bi] 27)).alloc (.cells #[.int .i64 F] 3)).alloc (.cells #[.slice none 0 0,.slice none 0 0,.slice none 0 0] 34)).alloc (.cells #[.bool false] 4));rw[hw1]at hb1 hz1 k0 k1 k2 k3 k4;rw[hN]at hz1 k0 k1 k2 k3 k4;have HB1:=zh hb1;have HZ1:=zh hz1;have aO:=zh k0;have aB:=zh k1;have aK:=zh k2;have fZ:=zh k3;have dU:=zh k4;obtain⟨y0,y1,y2⟩:=zkx k1;clear hv hr hp hl hlc hlp hpc hF ng hb1 hz1 k0 k1 k2 k3 k4
 show Calls Tryz.prog 43 #[.agg #[.int .u8 k,.int .i64 n,.string nm,.slice A3 ks.length c3],.slice A1 vs.length c1,.slice A2 prs.length c2,.agg #[.int .i64 bv,.int .i64 bl,.int .i64 bi],.int .i64 F] W _
 refine(callsIn_wide (n:=3)).1 (callsIn_of_wp_marks Tryz.func43 rfl trivial ((wpIn_wide (n:=3)).2 ?_));simp only[Tryz.ntmps43,List.size_toArray,List.length_cons,List.length_nil,Nat.reduceAdd,Nat.reduceSub,Array.replicate_succ,Array.replicate_zero,List.push_toArray,List.append_toArray,List.nil_append,List.cons_append];go_wp2_with fail;refine(xc.out _ HB1.out).mono ?_;rintro e2 w2 ⟨rfl,hb2⟩;obtain⟨sm,hsm⟩:=zX (smlE vs ⟨bv,bl,bi⟩);have HS:=zh hsm;rw[hsm]at HRR ⊢;have HB2:=zh (zka HB1.out hb2);have fI:=zh (zkc aO.out hb2);have fH:=zh (zkc aB.out hb2);have ig:=zh (zkc aK.out hb2);have eD:=zh (zkc fZ.out hb2);have jX:=zh (zkc dU.out hb2);have HZ2:=zh (show N+5<=w2.heap.size by have:=HZ1.out;have:=hb2.size;omega);clear hsm hb2 y0 y1 y2 xc hw1
 cases sm
 ·have HF:=zh (show RR=none from HRR.out.symm);obtain⟨q0,q1,q2⟩:=zkx eD.out;have cf:∀o,w2.frozen? ⟨N+3,o,none⟩=false:=fun o=>zf eD.out;obtain⟨w9,aS,aW,bA⟩:=st3 (.slice none 0 0) (.slice none 0 0) (.slice none 0 0) eD.out;have hk4:=aW.keep jX.out fun(e:N+4=N+3)=>by omega
  have q4:w9.cell? ⟨N+4,0,none⟩=some (.bool false):=zc hk4 rfl;have vE:∀o,w9.frozen? ⟨N+4,o,none⟩=false:=fun o=>zf hk4;obtain⟨w8,hw8,hc8,iR⟩:=setU (o:=0) (.bool false) hk4;obtain⟨t0,t1,t2⟩:=zkx (hc8.keep bA fun(e:N+3=N+4)=>by omega);have t4:w8.cell? ⟨N+4,0,none⟩=some (.bool false):=zc iR rfl;have bQ:=zh (show Below W.heap.size W w8 from(HB2.out.trans (aW.below HB2.out.size fun b (e:b=N+3)=>by have:=HN.out;omega)).trans (hc8.below (Nat.le_trans HB2.out.size aW.size) fun b (e:b=N+4)=>by have:=HN.out;omega));clear aW bA hk4 hc8 iR;go_wp2_with fail;exact⟨.tuple #[.agg #[.slice none 0 0,.slice none 0 0,.slice none 0 0],.bool false],by simp[results,Tryz.results43,go_sem,t0,t1,t2,t4],bQ.out,_,_,rfl,.inl ⟨HF.out,rfl,rfl⟩⟩
 obtain⟨hok,hcn⟩:=zra HS.out;obtain⟨x0,x1,x2,x3⟩:=box4 fI.out;have hbn:=bNd1 k n nm A3 ks.length c3 w2;obtain⟨w3,hw3⟩:=zX (w2.alloc (.cells #[.int .u8 k,.int .i64 n,.string nm,.slice A3 ks.length c3] 24));have hb3:Below w2.heap.size w2 w3:=by rw[<-hw3];exact zkb zr _
 have hk3:=heap_alloc_new w2 (.cells #[.int .u8 k,.int .i64 n,.string nm,.slice A3 ks.length c3] 24);rw[hw3]at hk3;have hz3:w3.heap.size=w2.heap.size+1:=by rw[<-hw3];simp
 obtain⟨w4,hw4⟩:=zX (w3.alloc (.cells #[.slice A1 vs.length c1,.slice A2 prs.length c2,.int .u8 57,.int .i64 0,.string ⟨#[]⟩,.slice (some ⟨w2.heap.size,0,none⟩) 1 1] 55));have hb4:Below w3.heap.size w3 w4:=by rw[<-hw4];exact zkb zr _
 have hk4:=heap_alloc_new w3 (.cells #[.slice A1 vs.length c1,.slice A2 prs.length c2,.int .u8 57,.int .i64 0,.string ⟨#[]⟩,.slice (some ⟨w2.heap.size,0,none⟩) 1 1] 55);rw[hw4]at hk4;have jD:w4.heap.size=w2.heap.size+2:=by rw[<-hw4];simp[hz3]
 rw[hz3]at hk4;have bP:=zh (zka hb3 hb4);have ak:=zh (zka HB2.out bP.out);have HKN:=zh (zkc hk3 hb4);have yw:=zh hk4;have lD:=zh jD;have HZ3:=zh hz3;obtain⟨M,hM⟩:=zX (w2.heap.size);have HM:=zh hM;obtain⟨y0,y1,y2⟩:=zkx (zkc fH.out bP.out);have q9:=zh hcn;have iC:=zh hok;have fJ:=zh (bE.out _ ak.out hok);clear hb3 hk3 hz3 hb4 hk4 jD hcn hok bE hM;go_wp2_with fail;refine fJ.out.mono ?_;rintro e5 w5 ⟨jA,xb,lb,A9,c9,rfl,hb5,g1,g2,g3,wO⟩;have av:=zh hb5;have Bc:=zh (And.intro g1 (And.intro g2 g3));have jW:=zh wO;clear hb5 g1 g2 g3 wO y0 y1 y2 fJ hw3 hw4 hbn x0 x1 x2 x3;go_wp2_with fail;have hpv:PV w5 (fun q=>q<M+2) (zlR vs prs (.nd k n nm ks)) (.agg #[.slice A1 vs.length c1,.slice A2 prs.length c2,.int .u8 57,.int .i64 0,.string ⟨#[]⟩,.slice (some ⟨M,0,none⟩) 1 1]):=by
  have fM:Below W.heap.size W w5:=zka ak.out av.out;have hlt:∀b,b<W.heap.size->b<M+2:=fun b h=>by have:=HB2.out.size;have:=HM.out;omega
  refine⟨A1,c1,A2,c2,some ⟨M,0,none⟩,1,rfl,⟨(HR.out.later fM).keep (fun b h _=>hlt b h) fun _ _ _=>rfl,HL.out.1,HL.out.2.1,(HP.out.later fM).keep (fun b h _=>hlt b h) fun _ _ _=>rfl,HL.out.2.2.1,HL.out.2.2.2.1,?_⟩⟩;have hkn:=zkc HKN.out av.out;rw[HM.out]at hkn;exact zyx ⟨by decide,by decide,Nat.zero_le _⟩ (by omega) hkn ((HV.out.later fM).keep (fun b h _=>hlt b h) fun _ _ _=>rfl)
 have yn:=zh hpv;have jD:w4.heap.size=M+2:=by rw[lD.out,HM.out]
 have hNM:N+5<=M:=by have:=HZ2.out;rw[HM.out]at this;exact this
 have HNM:=zh hNM;have HMZ:=zh jD;have hlb:=zlV iC.out;have xD:=zh (zq0 (nf:=3-1) (S:=fun q=>w4.heap.size<=q/\q<w5.heap.size) ⟨jW.out.ok,jW.out.bx,jW.out.ls,jW.out.row.keep (fun b h hlt=>⟨h,hlt⟩) fun _ _ _=>rfl⟩ ⟨hlb.2.2.2.1,hlb.2.2.2.2⟩ ⟨by rw[hlb.1];omega,by rw[hlb.1];have:=hlb.2.1;omega⟩ fun q hq=>(hlb.2.2.1 q hq).2);clear hpv hlb;rw[HM.out,HZ3.out,HM.out];refine(wpIn_wide (n:=3)).1 ?_;refine zpi (n:=3) (gf:=79) (lb := #[ptr0 jA,ptr0 xb,ptr0 lb]) rfl (zkz zyo) xD.out (fun l x vs' g W' h=>by obtain⟨v9,rfl,-,h2,-⟩:=h;exact⟨rfl,h2⟩)
  (FaI (M+2) w5 (zo1 (zlR vs prs (.nd k n nm ks)) F)) (FaX (M+2) N w5 (zo1 (zlR vs prs (.nd k n nm ks)) F) (allS ⟨bv,bl,bi⟩ (lenE vs ⟨bv,bl,bi⟩))) (fun b=>b<M+2)
  (fun pre C W' W'' h hc=>h.chg hc fun b hb h=>h hb) (fun pre C W' W'' h hc=>h.chg (by omega) hc fun b hb h=>h hb) (fun pre C W' h b hb=>Nat.lt_of_lt_of_le ((h.1 b).1 hb) h.2.2.2) (fun pre C W' h b hb=>by obtain⟨_,_,g,X,_,_,_,_,_,_,_,_,_,_,_,_,_,h5,h6,h7,h8,_⟩:=h;rcases(h5 b).1 hb with h|h<;>omega)
  (fun b h1 h2=>by
   have:=Bc.out;rcases h2 with h|h|h|h<;>omega) (fun b h=>by
   rcases h with rfl|rfl|rfl|h
   ·exact zkf jW.out.ok
   ·exact zkf jW.out.bx
   ·exact zkf jW.out.ls
   ·exact h.2) ⟨fun _=>Iff.rfl,fun _ _=>rfl,(fun s hs=>by cases hs),by have:=av.out.size;omega⟩ ?_ ?_ ?_
 ·rintro l pre x C W3 vs' g hI ou ek hl qH hpre ⟨sv,rfl,hsv,uW⟩;clear ou;have hxm:x∈allS ⟨bv,bl,bi⟩ (lenE vs ⟨bv,bl,bi⟩):=hpre.subset (by simp);have hxc:x.cells.length<=100:=by
   obtain⟨y,hy,rfl⟩:=List.mem_map.1 hxm;have h1:=(zqa rfl y hy).len;have h2:=zlV iC.out;simp only[stOf,List.length_dropLast];omega
  obtain⟨As,cs,Bs,ds,Ds,es,rfl⟩:∃A c B d D e,sv=.agg #[.slice A x.cells.length c,.slice B x.tin.length d,.slice D x.tout.length e]:=by
   obtain⟨A,c,B,d,D,e,rfl,-⟩:=hsv;exact⟨_,_,_,_,_,_,rfl⟩
  change Code.wpIn (Fence.wide.inRound l) (3-1-1) Tryz.prog _ _ _ _
  gi_wp2
  refine⟨(Chg.refl _ _).alloc _,fun W4 iU=>?_⟩;have hbx:=iU.keep (heap_alloc_new W3 (.cells #[.slice As x.cells.length cs,.slice Bs x.tin.length ds,.slice Ds x.tout.length es] 34)) (show ¬ W3.heap.size=l by omega);have jO:=zkb (zs W3) (.cells #[.slice As x.cells.length cs,.slice Bs x.tin.length ds,.slice Ds x.tout.length es] 34);have oq:=(hI.chg (Chg.of_below jO) (fun b hb h=>h)).chg iU (fun b hb h=>ek (by have h:b=l:=h;rwa[h]at hb));have kU:SV W4 (fun q=>g<=q) x (.agg #[.slice As x.cells.length cs,.slice Bs x.tin.length ds,.slice Ds x.tout.length es]):=(hsv.later jO).keep (fun _ h _=>h) fun q h hlt=>iU.block q hlt (fun e:q=l=>by have h:g<=q:=h;omega);obtain⟨xp,hxp⟩:=zX (W3.heap.size);rw[hxp]at hbx ⊢;have hlow:∀q,q<M+2->W4.heap[q]?=w5.heap[q]?:=fun q hq=>oq.2.1 q hq
  have rZ:=(hlow (M+1) (by omega)).trans (zkc (show w4.heap[M+1]?=_ by rw[<-HM.out];exact yw.out) av.out);have hkf4:=(hlow (N+2) (by omega)).trans (zkc ig.out (zka bP.out av.out));rw[HM.out]at rZ;obtain⟨p0,p1,p2,p3,p4,p5⟩:=box6 rZ;obtain⟨x0,x1,x2⟩:=zkx hbx;have z2:W4.cell? ⟨N+2,0,none⟩=some (.int .i64 F):=zc hkf4 rfl;have HI4:=zh oq;have nD:=zh kU;have aF:=zh hbx;have HXC:=zh hxc;have HCLL:=zh ek;have kM:=zh (And.intro hl (And.intro qH uW));have cz:=zh hpre;clear hI hpre hbx oq kU iU hsv hxc ek hl qH uW rZ hkf4 jO hxm;change Code.wpIn (Fence.wide.inRound l) (3-1-1) Tryz.prog _ _ _ _;have hpv4:=(yn.out.keep (w':=W4) (S':=Any) (fun _ _ _=>trivial) fun q h _=>hlow q h)
  have uL:=zh (zrP (zlR vs prs (.nd k n nm ks)) x F (F.toNat*2000+2000) _ _ W4 hpv4 nD.out.any (by have:=HXC.out;omega) HL.out.2.2.2.2.1 HL.out.2.2.2.2.2 zl);have dJ:=zh (show zo1 (zlR vs prs (.nd k n nm ks)) F x=decide ((resO (zlR vs prs (.nd k n nm ks)) x F (F.toNat*2000+2000) false).2.2.1=15)from rfl);generalize resO (zlR vs prs (.nd k n nm ks)) x F (F.toNat*2000+2000) false=R at uL dJ;clear hlow hpv4
  gi_wp2
  refine⟨trivial,CallsIn.inRound l (callsIn_wide.2 (uL.out.mono ?_))⟩;rintro e6 w6 ⟨u1,u2,u3,rfl,iA,hb6,-⟩;obtain⟨A6,l6,c6,B6,m6,d6,D6,k6,f6,hv⟩:=iA.parts;injection hv with hv;simp only[Array.mk.injEq,List.cons.injEq,and_true]at hv;obtain⟨rfl,rfl,rfl⟩:=hv;clear iA;have aU:=zh hb6;clear uL hb6 p0 p1 p2 p3 p4 p5 z2 x0 x1 x2;obtain⟨R1,R2,R3,R4⟩:=R;simp only at dJ ⊢;by_cases zN:R3=15
  ·have HT:=zh (show zo1 (zlR vs prs (.nd k n nm ks)) F x=true by rw[dJ.out];exact decide_eq_true zN);have kC:∀q,q<M+2->w6.heap[q]?=w5.heap[q]?:=fun q hq=>(aU.out.block q (Nat.lt_of_lt_of_le hq HI4.out.2.2.2)).trans (HI4.out.2.1 q hq);have hk3:=(kC (N+3) (by omega)).trans (zkc eD.out (zka bP.out av.out));have hk4:=(kC (N+4) (by omega)).trans (zkc jX.out (zka bP.out av.out));obtain⟨x0,x1,x2⟩:=zkx (zkc aF.out aU.out);obtain⟨q0,q1,q2⟩:=zkx hk3;have cf:∀o,w6.frozen? ⟨N+3,o,none⟩=false:=fun o=>zf hk3;obtain⟨w9,aS,aW,bA⟩:=st3 (.slice As x.cells.length cs) (.slice Bs x.tin.length ds) (.slice Ds x.tout.length es) hk3;have bD:=aW.keep hk4 fun(e:N+4=N+3)=>by omega
   have q4:w9.cell? ⟨N+4,0,none⟩=some (.bool false):=zc bD rfl;have vE:∀o,w9.frozen? ⟨N+4,o,none⟩=false:=fun o=>zf bD;obtain⟨w8,hw8,hc8,iR⟩:=setU (o:=0) (.bool true) bD;have hch:Chg (fun q=>q=N+3\/q=N+4) w6 w8:=(aW.mono fun q _ h=>.inl h).trans2 hc8 fun q _ h=>.inr h;have kN:=zh (show FaX (M+2) N w5 (zo1 (zlR vs prs (.nd k n nm ks)) F) (allS ⟨bv,bl,bi⟩ (lenE vs ⟨bv,bl,bi⟩)) (pre++[x]) (fun b=>b<M+2\/(g<=b/\b<w8.heap.size)) w8 from
    ⟨pre,x,g,w8.heap.size,As,_,cs,Bs,_,ds,Ds,_,es,rfl,cz.out,HI4.out.2.2.1,HT.out,fun b=>Iff.rfl,(by have:=kM.out;have:=av.out.size;omega),zl,Nat.le_trans HI4.out.2.2.2 (Nat.le_trans aU.out.size hch.size),
     fun b hb n3 n4=>(hch.block b (Nat.lt_of_lt_of_le hb (Nat.le_trans HI4.out.2.2.2 aU.out.size)) fun h=>by rcases h with h|h;exact n3 h;exact n4 h).trans (kC b hb),
     hc8.keep bA (fun(e:N+3=N+4)=>by omega),iR,(nD.out.later aU.out).keep (fun q h hlt=>⟨h,Nat.lt_of_lt_of_le hlt hch.size⟩) fun q h hlt=>hch.block q hlt fun e=>by have h:g<=q:=h;have:=kM.out;have:=av.out.size;rcases e with e|e<;>omega⟩)
   have bN:=zh (show Chg C W4 w8 from(Chg.of_below aU.out).trans2 hch fun q _ e=>(HI4.out.1 q).2 (by rcases e with e|e<;>omega));clear kC hk3 hk4 aW bA bD hc8 iR hch;subst zN;have hfl:(Instr.field 91 (.agg #[.slice A6 l6 c6,.slice B6 m6 d6,.slice D6 k6 f6,.int .i64 (R2:Int),.int .i64 15]) 2).run Tryz.prog w6=.ok (.int .i64 15) w6:=by kernel_rfl
   gi_wp2
   exact⟨_,kN.out,(fun b hb=>by rcases hb with h|h;exact .inl ((HI4.out.1 b).2 h);exact .inr h.1),bN.out⟩
  ·have HT:=zh (show zo1 (zlR vs prs (.nd k n nm ks)) F x=false by rw[dJ.out];exact decide_eq_false zN);have hfl:(Instr.field 91 (.agg #[.slice A6 l6 c6,.slice B6 m6 d6,.slice D6 k6 f6,.int .i64 (R2:Int),.int .i64 R3]) 2).run Tryz.prog w6=.ok (.int .i64 R3) w6:=by kernel_rfl
   gi_wp2
   refine⟨C,⟨HI4.out.1,fun b hb=>(aU.out.block b (Nat.lt_of_lt_of_le hb HI4.out.2.2.2)).trans (HI4.out.2.1 b hb),fun s hs=>?_,Nat.le_trans HI4.out.2.2.2 aU.out.size⟩,fun b hb=>.inl hb,Chg.of_below aU.out⟩;rcases List.mem_append.1 hs with hs|hs
   ·exact HI4.out.2.2.1 s hs
   ·rw[List.mem_singleton.1 hs];exact HT.out
 ·intro D C W' hD hI hch hK;have hk3:=(hI.2.1 (N+3) (by omega)).trans (zkc eD.out (zka bP.out av.out));have hk4:=(hI.2.1 (N+4) (by omega)).trans (zkc jX.out (zka bP.out av.out));have aI:Chg (fun _=>False) w5 W':=⟨hch.1,hch.2,hch.3,hch.4,fun q hlt _=>by
   by_cases hq:q<M+2
   ·exact hI.2.1 q hq
   ·exact hch.block q hlt hq⟩
  have aR:=zh (show Below W.heap.size W W' from(zka ak.out av.out).trans (aI.below (zka ak.out av.out).size fun b h=>h.elim));clear aI;have HF:=zh (show RR=none by rw[<-HRR.out];exact List.find?_eq_none.2 fun s hs=>by rw[hI.2.2.1 s hs];simp);obtain⟨q0,q1,q2⟩:=zkx hk3;have cf:∀o,W'.frozen? ⟨N+3,o,none⟩=false:=fun o=>zf hk3;obtain⟨w9,aS,aW,bA⟩:=st3 (.slice none 0 0) (.slice none 0 0) (.slice none 0 0) hk3;have bD:=aW.keep hk4 fun(e:N+4=N+3)=>by omega
  have q4:w9.cell? ⟨N+4,0,none⟩=some (.bool false):=zc bD rfl;have vE:∀o,w9.frozen? ⟨N+4,o,none⟩=false:=fun o=>zf bD;obtain⟨w8,hw8,hc8,iR⟩:=setU (o:=0) (.bool false) bD;have gM:Chg (fun q=>q=N+3\/q=N+4) W' w8:=(aW.mono fun q _ h=>.inl h).trans2 hc8 fun q _ h=>.inr h;have bN:=zh gM;have xw:=zh (hc8.keep bA (fun(e:N+3=N+4)=>by omega));have qX:=zh iR;have HK:=zh (gM.keep hK (fun e=>by have:=av.out.size;have:D=w5.heap.size:=hD;rcases e with e|e<;>omega));have HD:=zh (show w5.heap.size=D from hD.symm);clear hk3 hk4 aW bA bD hc8 iR gM hI hch hK hD;go_wp2_with fail;clear q0 q1 q2 q4 cf vE;refine⟨by simp,.inl ⟨_,_,rfl,run_takeDeferred HK.out,?_⟩⟩;have hcd:Chg (fun q=>q=N+3\/q=N+4\/q=D) W' (w8.putObj D (.deferred none)):=(bN.out.mono fun b _ h=>h.elim .inl fun h=>.inr (.inl h)).trans2 (Chg.putObj w8 D (.deferred none)) fun b _ h=>.inr (.inr h)
  have bz:=(Chg.putObj w8 D (.deferred none)).keep xw.out (fun(e:N+3=D)=>by have:=HD.out;have:=av.out.size;omega);have dW:=(Chg.putObj w8 D (.deferred none)).keep qX.out (fun(e:N+4=D)=>by have:=HD.out;have:=av.out.size;omega);obtain⟨t0,t1,t2⟩:=zkx bz;have t4:(w8.putObj D (.deferred none)).cell? ⟨N+4,0,none⟩=some (.bool false):=zc dW rfl;exact⟨.tuple #[.agg #[.slice none 0 0,.slice none 0 0,.slice none 0 0],.bool false],by simp[results,Tryz.results43,go_sem,t0,t1,t2,t4],aR.out.trans (hcd.below aR.out.size fun b h=>by
   have:=HD.out;have:=av.out.size;have:=ak.out.size;have:=HN.out;rcases h with h|h|h<;>omega),_,_,rfl,.inl ⟨HF.out,rfl,rfl⟩⟩
 ·intro D pre C W' hD hX hch hK;obtain⟨dC,s,g,X,As,ls,cs,Bs,ms,ds,Ds,ks',es,rfl,h2,h3,h4,h5,h6,h7,h8,h9,h10,h11,h12⟩:=hX;have vz:N+4<D:=by have:D=w5.heap.size:=hD;have:=av.out.size;omega
  have HF:=zh (show RR=some s by
   rw[<-HRR.out];obtain⟨ys,hys⟩:=h2;simp only[if_pos];rw[<-hys,List.find?_append,List.find?_append,List.find?_eq_none.2 fun q hq=>by rw[h3 q hq];simp];simp[h4])
  have aI:Chg (fun b=>b=N+3\/b=N+4) w5 W':=⟨hch.1,hch.2,hch.3,hch.4,fun q hlt hn=>by
   by_cases hq:q<M+2
   ·exact h9 q hq (fun e=>hn (.inl e)) (fun e=>hn (.inr e))
   ·exact hch.block q hlt hq⟩
  have hbd:=(zka ak.out av.out).trans (aI.below (zka ak.out av.out).size fun b h=>by have:=HN.out;rcases h with h|h<;>omega);have aR:=zh hbd;have HK:=zh hK;have HS:=zh h12;have bY:=zh h10;have xk:=zh h11;have HG:=zh (And.intro h6 (And.intro h7 vz));have HD:=zh (show w5.heap.size=D from hD.symm);clear h2 h3 h4 h5 h6 h7 h8 h9 h10 h11 h12 aI hbd hch hK hD vz;refine wpIn_ret ?_;simp only[Exit.inBlock,Exit.then];refine⟨by simp,.inl ⟨_,_,rfl,run_takeDeferred HK.out,?_⟩⟩;have hcd:=Chg.putObj W' D (.deferred none);have bz:=hcd.keep bY.out (fun(e:N+3=D)=>by have:=HG.out;omega);have dW:=hcd.keep xk.out (fun(e:N+4=D)=>by have:=HG.out;omega);obtain⟨t0,t1,t2⟩:=zkx bz;have t4:(W'.putObj D (.deferred none)).cell? ⟨N+4,0,none⟩=some (.bool true):=zc dW rfl
  exact⟨.tuple #[.agg #[.slice As ls cs,.slice Bs ms ds,.slice Ds ks' es],.bool true],by simp[results,Tryz.results43,go_sem,t0,t1,t2,t4],aR.out.trans (hcd.below aR.out.size fun b h=>by
   have h:b=D:=h;have:=HD.out;have:=av.out.size;have:=ak.out.size;omega),_,_,rfl,.inr ⟨s,HF.out,rfl,HS.out.keep (fun q h _=>by have:=HG.out;have:=ak.out.size;have:=HN.out;have:=bP.out.size;have:=lD.out;have:=HM.out;have:=HB2.out.size;omega) fun q h hlt=>hcd.block q hlt fun e=>by have h:g<=q:=h.1;have e:q=D:=e;have:=HG.out;have:=HD.out;omega⟩⟩
end
section
open Go Go.RowKit
attribute [local go_sem] Oper.semAt_some
theorem st6{W:World}{b:Nat}{a0 a1 a2 a3 a4 a5:Value}{ty:TypeId}(v0 v1 v2 v3 v4 v5:Value)(h:W.heap[b]?=some (.cells #[a0,a1,a2,a3,a4,a5] ty (0,0))) :
  ∃W',(((((W.setCell ⟨b,0,none⟩ v0).setCell ⟨b,1,none⟩ v1).setCell ⟨b,2,none⟩ v2).setCell ⟨b,3,none⟩ v3).setCell ⟨b,4,none⟩ v4).setCell ⟨b,5,none⟩ v5=W'/\Chg (fun q=>q=b) W W'/\W'.heap[b]?=some (.cells #[v0,v1,v2,v3,v4,v5] ty (0,0)):=by
 obtain⟨W0,h0,c0,k0⟩:=setU (o:=0) v0 h;obtain⟨W1,h1,c1,k1⟩:=setU (o:=1) v1 k0;obtain⟨W2,h2,c2,k2⟩:=setU (o:=2) v2 k1;obtain⟨W3,h3,c3,k3⟩:=setU (o:=3) v3 k2;obtain⟨W4,h4,c4,k4⟩:=setU (o:=4) v4 k3;obtain⟨W5,h5,c5,k5⟩:=setU (o:=5) v5 k4;refine⟨W5,by rw[h0,h1,h2,h3,h4,h5],((((c0.trans2 c1 fun b _ h=>h).trans2 c2 fun b _ h=>h).trans2 c3 fun b _ h=>h).trans2 c4 fun b _ h=>h).trans2 c5 fun b _ h=>h,?_⟩;rw[k5];simp
theorem zK8(w:World):(Instr.makeMap 79 none).run Tryz.prog w=.ok (.map (some w.heap.size)) (w.alloc (.map #[] 0)):=by kernel_rfl
def LoC(B D:Nat)(C:Nat->Prop)(W:World):Prop:=(∀b,b<B->C b)/\(∀b,C b->b<B\/D<b)/\(∀b,C b->b<W.heap.size)
def LoI(B mb:Nat)(w5:World)(vs:List VD)(f:SS->Option SS)(pre:List SS)(C:Nat->Prop)(W:World):Prop :=
 LoC B w5.heap.size C W/\(∀b,b<B->b≠mb->W.heap[b]?=w5.heap[b]?)/\zoX f pre/\LoM W mb vs f pre (fun b=>C b/\B<=b)
def LoX(B mb N:Nat)(w5:World)(f:SS->Option SS)(xs pre:List SS)(C:Nat->Prop)(W:World):Prop:=∃dC q s x x0 x1 x2 x3 x4 x5,pre=dC++[s]/\pre <+: xs/\zoX f dC/\f s=some x/\dC.find? (hitE f x)=some q /\
 LoC B w5.heap.size C W/\(∀b,b<B->b≠mb->b≠N+3->b≠N+4->W.heap[b]?=w5.heap[b]?)/\W.heap[N+3]?=some (.cells #[x0,x1,x2,x3,x4,x5] 36 (0,0))/\W.heap[N+4]?=some (.cells #[.bool true] 4 (0,0)) /\
 SV W (fun b=>C b/\B<=b) q (.agg #[x0,x1,x2])/\SV W (fun b=>C b/\B<=b) s (.agg #[x3,x4,x5])
theorem LoC.chg{B D:Nat}{C:Nat->Prop}{W W':World}(h:LoC B D C W)(hs:W.heap.size<=W'.heap.size):LoC B D C W':=⟨h.1,h.2.1,fun b hb=>Nat.lt_of_lt_of_le (h.2.2 b hb) hs⟩
theorem LoI.chg{B mb:Nat}{w5 W W':World}{vs:List VD}{f:SS->Option SS}{pre:List SS}{C D:Nat->Prop}(h:LoI B mb w5 vs f pre C W)(hm:mb<B)(hc:Chg D W W')(hD:∀b,C b->¬ D b):LoI B mb w5 vs f pre C W' :=
 ⟨h.1.chg hc.size,fun b hb hn=>(hc.block b (h.1.2.2 b (h.1.1 b hb)) (hD b (h.1.1 b hb))).trans (h.2.1 b hb hn),h.2.2.1,h.2.2.2.keep (hc.block mb (h.1.2.2 mb (h.1.1 mb hm)) (hD mb (h.1.1 mb hm))) (fun _ h _=>h) fun b hb hlt=>hc.block b hlt (hD b hb.1)⟩
theorem LoX.chg{B mb N:Nat}{w5 W W':World}{f:SS->Option SS}{xs pre:List SS}{C D:Nat->Prop}(h:LoX B mb N w5 f xs pre C W)(hN:N+4<B)(hc:Chg D W W')(hD:∀b,C b->¬ D b):LoX B mb N w5 f xs pre C W':=by
 obtain⟨dC,q,s,x,x0,x1,x2,x3,x4,x5,h1,h2,h3,h4,h5,h6,h7,h8,h9,h10,h11⟩:=h;refine⟨dC,q,s,x,x0,x1,x2,x3,x4,x5,h1,h2,h3,h4,h5,h6.chg hc.size,fun b hb a1 a2 a3=>(hc.block b (h6.2.2 b (h6.1 b hb)) (hD b (h6.1 b hb))).trans (h7 b hb a1 a2 a3),hc.keep h8 (hD _ (h6.1 _ (by omega))),hc.keep h9 (hD _ (h6.1 _ hN)),h10.keep (fun _ h _=>h) fun b hb hlt=>hc.block b hlt (hD b hb.1),h11.keep (fun _ h _=>h) fun b hb hlt=>hc.block b hlt (hD b hb.1)⟩
theorem zsB{vs:List VD}{b:BX}(h:(b.ok&&svB vs)=true)(hc:cntE (2*b.v+1) (lenE vs b)<=65536):(allS b (lenE vs b)).length<=65536:=by
 obtain⟨-,-,h1,h2,h3⟩:=zlV h;obtain⟨m,hm⟩:∃m:Nat,2*b.v+1=m:=⟨(2*b.v+1).toNat,by omega⟩
 have h4:=zxR (v:=m) (by omega) (by unfold maxC;omega) (fun q hq=>(h1 q hq).1) (bs:=lenE vs b) (by rw[<-hm];unfold maxC;omega);rw[<-hm]at h4;simp only[allS,List.length_map];omega
def LosP(r:Option (SS×SS))(W:World)(e:Ending)(W':World):Prop:=Below W.heap.size W W'/\∃x0 x1 x2 x3 x4 x5 b,e=.returned (.tuple #[.agg #[x0,x1,x2,x3,x4,x5],.bool b]) /\
 ((r=none/\b=false /\ #[x0,x1,x2,x3,x4,x5] = #[.slice none 0 0,.slice none 0 0,.slice none 0 0,.slice none 0 0,.slice none 0 0,.slice none 0 0]) \/
  ∃q s,r=some (q,s)/\b=true/\SV W' (fun p=>W.heap.size<=p) q (.agg #[x0,x1,x2])/\SV W' (fun p=>W.heap.size<=p) s (.agg #[x3,x4,x5]))
def losE(t:T)(vs:List VD)(b:BX):Option (SS×SS):=if smlE vs b=true then zmj (cdE vs t) [] (allS b (lenE vs b))else none
theorem zxw{W:World}{base n:Nat}{A:Option Addr}{c:Nat}{xs:List Int}(h:W.ownsRow base 5 1 (.slice A n c) n (zkT xs))(hx:xs.length=n)(hn:0<n):(convert 83 9 (.slice A n c)).run Tryz.prog W=.ok (.string (strS xs)) W/\n<=maxLen:=by
 rcases h.2 with⟨h1,h2⟩|⟨g,cap,cur,hv,-,-,h2,h3,-⟩
 ·omega
 injection hv with e1 e2 e3;subst e1 e3;refine⟨?_,Nat.le_trans h2 h3⟩;rw[run_convert_bytes_string W _ _ 5 _ _ _ Tryz.underlying83 Tryz.underlying5 Tryz.underlying9,run_bytesToString W _ _ _ xs ?_]
 ·rfl
 ·have h2:=run_loadCells_list (P:=Tryz.prog) (w:=W) ⟨g,0,none⟩ (zkT xs) fun j v hj=>by
   have hl:j<(zkT xs).length:=(List.getElem?_eq_some_iff.1 hj).1;have h3:=h.cellAt j (by simpa[zkT,hx]using hl);by_cases j0:j=0
   ·subst j0;exact h3.trans hj
   ·simp only[Addr.add,if_neg j0,Nat.zero_add];exact h3.trans hj
  simpa[zkT,hx]using h2
theorem ztK(xs:List Int):(strS xs).size=xs.length:=by
 show(strS xs).data.size=xs.length
 rw[<-Array.length_toList,zqm,bysS,List.length_map]
def nilV:Value:=.agg #[.slice none 0 0,.slice none 0 0,.slice none 0 0]
theorem zStV(w:World):(zeroValue 34).run Tryz.prog w=.ok nilV w:=by kernel_rfl
theorem kMS{vs:List VD}{y:SS}(h:(encS vs y).length<=maxLen):keyOf Tryz.prog 9 (.string (strS (encS vs y)))=some (kS vs y):=by
 rw[WideMaps.keyOf_string_mk Tryz.underlying9 (by rw[ztK];exact h),zqm];rfl
theorem zzQ{W:World}{mb n:Nat}{D:DataW Value}{vs:List VD}{y:SS}(h:W.ownsMap Tryz.prog 9 hR mb n D)(hl:(encS vs y).length<=maxLen):∃v,(Instr.lookup 79 (.map (some mb)) (.string (strS (encS vs y))) true).run Tryz.prog W=.ok (.tuple #[v,.bool (Maps.has D (kS vs y))]) W/\D.atKey (kS vs y) (.held nilV)=.held v:=by
 obtain⟨v,ps,h1,h2⟩:=h.look_ok (Maps.string_keyed Tryz.underlying9) Tryz.underlying79 (zStV W) (zd:=.held nilV) (zp:=[]) rfl (kMS hl);refine⟨v,h1,?_⟩;unfold hR at h2;injection h2 with h2;injection h2 with h2;exact h2.symm
theorem zKH{W:World}{mb n:Nat}{D:DataW Value}{vs:List VD}{y:SS}(h:W.ownsMap Tryz.prog 9 hR mb n D)(hl:(encS vs y).length<=maxLen)(hn:n<maxLen)(v:Value):∃W',(Instr.mapUpdate 79 (.map (some mb)) (.string (strS (encS vs y))) v).run Tryz.prog W=.ok () W'/\W'.ownsMap Tryz.prog 9 hR mb (n+1) (D.put (kS vs y) (.held v))/\Chg (fun b=>b=mb) W W':=by
 obtain⟨W',h1,h2,h3⟩:=h.store (Maps.string_keyed Tryz.underlying9) Tryz.underlying79 hn (kMS hl) (val:=v) (d:=.held v) (ps:=[]) rfl;refine⟨W',h1,h2,(Chg.row h3.grown).mono fun b _ e=>?_⟩;injection e with e;exact e.symm
theorem zqT{W:World}{vs:List VD}{b:BX}{t:T}{v:Value}{A1:Option Addr}{c1:Nat}(hv:NV W Any t v)(hr:RowV W Any A1 vs)(hl:vs.length<=LV) :
  Calls Tryz.prog 12 #[v,.slice A1 vs.length c1,.agg #[.int .i64 b.v,.int .i64 b.l,.int .i64 b.i]] W (LosP (losE t vs b) W):=by
 obtain⟨RR,hRR⟩:=zX (losE t vs b);rw[hRR];have HRR:=zh hRR;clear hRR;unfold losE at HRR;have xc:=zh (fun w' (hb:Below W.heap.size W w')=>zpg vs b A1 c1 w' (hr.later hb) hl);have bE:=zh (fun w' (hb:Below W.heap.size W w') hok=>zv4 vs b A1 c1 w' (hr.later hb) hl hok);have HV:=zh (hv.keep (S':=fun b=>b<W.heap.size) (fun _ _ h=>h) fun _ _ _=>rfl);have HR:=zh (hr.keep (S':=fun b=>b<W.heap.size) (fun _ _ h=>h) fun _ _ _=>rfl);have HL:=zh hl;obtain⟨A3,c3,rfl,-⟩:=hv.open_;obtain⟨k,n,nm,ks⟩:=t;obtain⟨bv,bl,bi⟩:=b;simp only[T.k_nd,T.n_nd,T.s_nd,T.ks_nd]at HV ⊢;obtain⟨N,hN⟩:=zX (W.heap.size);have HN:=zh hN
 obtain⟨hb1,hz1,k0,k1,k2,k3,k4⟩:=al5 W (.cells #[.int .u8 k,.int .i64 n,.string nm,.slice A3 ks.length c3] 24) (.cells #[.slice A1 vs.length c1] 25) (.cells #[.int .i64 bv,.int .i64 bl,.int .i64 bi] 27) (.cells #[.slice none 0 0,.slice none 0 0,.slice none 0 0,.slice none 0 0,.slice none 0 0,.slice none 0 0] 36) (.cells #[.bool false] 4);obtain⟨w1,hw1⟩:=zX (((((W.alloc (.cells #[.int .u8 k,.int .i64 n,.string nm,.slice A3 ks.length c3] 24)).alloc (.cells #[.slice A1 vs.length c1] 25)).alloc (.cells #[.int .i64 bv,.int .i64 bl,.int .i64 bi] 27)).alloc (.cells #[.slice none 0 0,.slice none 0 0,.slice none 0 0,.slice none 0 0,.slice none 0 0,.slice none 0 0] 36)).alloc (.cells #[.bool false] 4));rw[hw1]at hb1 hz1 k0 k1 k2 k3 k4;rw[hN]at hz1 k0 k1 k2 k3 k4;have HB1:=zh hb1;have HZ1:=zh hz1;have aO:=zh k0;have aB:=zh k1;have aK:=zh k2;have fZ:=zh k3;have dU:=zh k4
 obtain⟨y0,y1,y2⟩:=zkx k2;have yv:w1.cell? ⟨N+1,0,none⟩=some (.slice A1 vs.length c1):=zc k1 rfl;clear hv hr hl hb1 hz1 k0 k1 k2 k3 k4
 show Calls Tryz.prog 12 #[.agg #[.int .u8 k,.int .i64 n,.string nm,.slice A3 ks.length c3],.slice A1 vs.length c1,.agg #[.int .i64 bv,.int .i64 bl,.int .i64 bi]] W _
 refine(callsIn_wide (n:=3)).1 (callsIn_of_wp_marks Tryz.func12 rfl trivial ((wpIn_wide (n:=3)).2 ?_));simp only[Tryz.ntmps12,List.size_toArray,List.length_cons,List.length_nil,Nat.reduceAdd,Nat.reduceSub,Array.replicate_succ,Array.replicate_zero,List.push_toArray,List.append_toArray,List.nil_append,List.cons_append];go_wp2_with fail;refine(xc.out _ HB1.out).mono ?_;rintro e2 w2 ⟨rfl,hb2⟩;obtain⟨sm,hsm⟩:=zX (smlE vs ⟨bv,bl,bi⟩);have HS:=zh hsm;rw[hsm]at HRR ⊢;have HB2:=zh (zka HB1.out hb2);have fI:=zh (zkc aO.out hb2);have fH:=zh (zkc aB.out hb2);have ig:=zh (zkc aK.out hb2);have eD:=zh (zkc fZ.out hb2);have jX:=zh (zkc dU.out hb2);have HZ2:=zh (show N+5<=w2.heap.size by have:=HZ1.out;have:=hb2.size;omega);clear hsm hb2 y0 y1 y2 yv xc hw1
 cases sm
 ·have HF:=zh (show RR=none from HRR.out.symm);obtain⟨q0,q1,q2,q3,q4,q5⟩:=box6 eD.out;have cf:∀o,w2.frozen? ⟨N+3,o,none⟩=false:=fun o=>zf eD.out;obtain⟨w9,aS,aW,bA⟩:=st6 (.slice none 0 0) (.slice none 0 0) (.slice none 0 0) (.slice none 0 0) (.slice none 0 0) (.slice none 0 0) eD.out;have bD:=aW.keep jX.out fun(e:N+4=N+3)=>by omega
  have qb:w9.cell? ⟨N+4,0,none⟩=some (.bool false):=zc bD rfl;have vE:∀o,w9.frozen? ⟨N+4,o,none⟩=false:=fun o=>zf bD;obtain⟨w8,hw8,hc8,iR⟩:=setU (o:=0) (.bool false) bD;have gM:Chg (fun q=>q=N+3\/q=N+4) w2 w8:=(aW.mono fun q _ h=>.inl h).trans2 hc8 fun q _ h=>.inr h;have bN:=zh gM;have xw:=zh (hc8.keep bA (fun(e:N+3=N+4)=>by omega));have qX:=zh iR;clear aW bA bD hc8 iR gM;go_wp2_with fail;obtain⟨t0,t1,t2,t3,t4,t5⟩:=box6 xw.out;have tb:w8.cell? ⟨N+4,0,none⟩=some (.bool false):=zc qX.out rfl;exact⟨.tuple #[.agg #[.slice none 0 0,.slice none 0 0,.slice none 0 0,.slice none 0 0,.slice none 0 0,.slice none 0 0],.bool false],by simp[results,Tryz.results12,go_sem,t0,t1,t2,t3,t4,t5,tb],HB2.out.trans (bN.out.below HB2.out.size fun b h=>by
   have:=HN.out;rcases h with h|h<;>omega),_,_,_,_,_,_,_,rfl,.inl ⟨HF.out,rfl,rfl⟩⟩
 obtain⟨hok,hcn⟩:=zra HS.out;have hbn:=zK8 w2;obtain⟨w3,hw3⟩:=zX (w2.alloc (.map #[] 0));have hb3:Below w2.heap.size w2 w3:=by rw[<-hw3];exact zkb zr _
 obtain⟨M,hM⟩:=zX (w2.heap.size);have HM:=zh hM;have nL:=zh (show LoM w3 M vs (cdE vs (.nd k n nm ks)) [] (fun _=>False)from by rw[<-hw3,<-hM];exact LoM.made _ _ _ _);have hz3:w3.heap.size=M+1:=by rw[<-hw3,<-hM];simp
 obtain⟨w4,hw4⟩:=zX (w3.alloc (.cells #[.map (some M)] 79));have hb4:Below w3.heap.size w3 w4:=by rw[<-hw4];exact zkb zr _
 have hk4:=heap_alloc_new w3 (.cells #[.map (some M)] 79);rw[hw4,hz3]at hk4;have jD:w4.heap.size=M+2:=by rw[<-hw4];simp[hz3]
 have bP:=zh (zka hb3 hb4);have HB34:=zh hb4;have ak:=zh (zka HB2.out bP.out);have yw:=zh hk4;have lD:=zh jD;have HZ3:=zh hz3;obtain⟨y0,y1,y2⟩:=zkx (zkc ig.out bP.out);have yv:w4.cell? ⟨N+1,0,none⟩=some (.slice A1 vs.length c1):=zc (zkc fH.out bP.out) rfl;have q9:=zh hcn;have iC:=zh hok;have fJ:=zh (bE.out _ ak.out hok);clear hb3 hz3 hb4 hk4 jD hcn hok bE;go_wp2_with fail;refine fJ.out.mono ?_;rintro e5 w5 ⟨jA,xb,lb,A9,c9,rfl,hb5,g1,g2,g3,wO⟩;have av:=zh hb5;have Bc:=zh (And.intro g1 (And.intro g2 g3));have jW:=zh wO;clear hb5 g1 g2 g3 wO y0 y1 y2 yv fJ hw3 hw4 hbn;go_wp2_with fail;obtain⟨f,hf⟩:=zX (cdE vs (.nd k n nm ks));rw[hf]at nL HRR;have uE:=zh hf;clear hf;have jD:w4.heap.size=M+2:=lD.out;have hNM:N+5<=M:=by have:=HZ2.out;rw[HM.out]at this;exact this
 have HNM:=zh hNM;have HMZ:=zh jD;have nX:M+2<=w5.heap.size:=by have:=av.out.size;omega
 have ji:=zh nX;have hlb:=zlV iC.out;have xD:=zh (zq0 (nf:=3-1) (S:=fun q=>w4.heap.size<=q/\q<w5.heap.size) ⟨jW.out.ok,jW.out.bx,jW.out.ls,jW.out.row.keep (fun b h hlt=>⟨h,hlt⟩) fun _ _ _=>rfl⟩ ⟨hlb.2.2.2.1,hlb.2.2.2.2⟩ ⟨by rw[hlb.1];omega,by rw[hlb.1];have:=hlb.2.1;omega⟩ fun q hq=>(hlb.2.2.1 q hq).2);have h0I:LoI (M+2) M w5 vs f [] (fun b=>b<M+2) w5:=by
  have lh:=zka HB34.out av.out;refine⟨⟨fun b h=>h,fun b h=>.inl h,fun b h=>Nat.lt_of_lt_of_le h nX⟩,fun _ _ _=>rfl,fun a s b e=>by simp at e,nL.out.keep (lh.block M (by rw[HZ3.out];omega)) (fun _ h=>h.elim) fun _ h=>h.elim⟩
 have H0I:=zh h0I;clear hlb h0I;refine(wpIn_wide (n:=3)).1 ?_;refine zpi (n:=3) (gf:=79) (lb := #[ptr0 jA,ptr0 xb,ptr0 lb]) rfl (zkz zyo) xD.out (fun l x vs' g W' h=>by obtain⟨v9,rfl,-,h2,-⟩:=h;exact⟨rfl,h2⟩)
  (LoI (M+2) M w5 vs f) (LoX (M+2) M N w5 f (allS ⟨bv,bl,bi⟩ (lenE vs ⟨bv,bl,bi⟩))) (fun b=>b<M+2)
  (fun pre C W' W'' h hc=>h.chg (by omega) hc fun b hb h=>h hb) (fun pre C W' W'' h hc=>h.chg (by omega) hc fun b hb h=>h hb) (fun pre C W' h b hb=>h.1.2.2 b hb) (fun pre C W' h b hb=>by obtain⟨_,_,_,_,_,_,_,_,_,_,_,_,_,_,_,h6,_⟩:=h;exact h6.2.2 b hb)
  (fun b h1 h2=>by
   have:=Bc.out;rcases h2 with h|h|h|h<;>omega) (fun b h=>by
   rcases h with rfl|rfl|rfl|h
   ·exact zkf jW.out.ok
   ·exact zkf jW.out.bx
   ·exact zkf jW.out.ls
   ·exact h.2) H0I.out ?_ ?_ ?_
 ·rintro l pre x C W3 vs' g hI ou ek hl qH hpre ⟨sv,rfl,hsv,uW⟩;clear ou;obtain⟨As,cs,Bs,ds,Ds,es,rfl⟩:∃A c B d D e,sv=.agg #[.slice A x.cells.length c,.slice B x.tin.length d,.slice D x.tout.length e]:=by
   obtain⟨A,c,B,d,D,e,rfl,-⟩:=hsv;exact⟨_,_,_,_,_,_,rfl⟩
  change Code.wpIn (Fence.wide.inRound l) (3-1-1) Tryz.prog _ _ _ _
  gi_wp2
  refine⟨(Chg.refl _ _).alloc _,fun W4 iU=>?_⟩;have hbx:=iU.keep (heap_alloc_new W3 (.cells #[.slice As x.cells.length cs,.slice Bs x.tin.length ds,.slice Ds x.tout.length es] 34)) (show ¬ W3.heap.size=l by omega);have jO:=zkb (zs W3) (.cells #[.slice As x.cells.length cs,.slice Bs x.tin.length ds,.slice Ds x.tout.length es] 34);have oq:=(hI.chg (by omega) (Chg.of_below jO) (fun b hb h=>h)).chg (by omega) iU (fun b hb h=>ek (by have h:b=l:=h;rwa[h]at hb));have kU:SV W4 (fun q=>g<=q) x (.agg #[.slice As x.cells.length cs,.slice Bs x.tin.length ds,.slice Ds x.tout.length es]):=(hsv.later jO).keep (fun _ h _=>h) fun q h hlt=>iU.block q hlt (fun e:q=l=>by have h:g<=q:=h;omega);obtain⟨xp,hxp⟩:=zX (W3.heap.size);have hxpl:l<xp:=by omega
  rw[hxp]at hbx ⊢;have hlow:∀q,q<M->W4.heap[q]?=w5.heap[q]?:=fun q hq=>oq.2.1 q (by omega) (by omega);have oH:∀q,q<w2.heap.size->W4.heap[q]?=w2.heap[q]?:=fun q hq=>(hlow q (by rw[<-HM.out];exact hq)).trans ((zka bP.out av.out).block q hq);have hk0:=(oH N (zkf fI.out)).trans fI.out;have hk1:=(oH (N+1) (zkf fH.out)).trans fH.out;have hwn:∀q,q<W.heap.size->W4.heap[q]?=W.heap[q]?:=fun q hq=>(oH q (Nat.lt_of_lt_of_le hq HB2.out.size)).trans (HB2.out.block q hq);have xZ:=zh hwn;obtain⟨p0,p1,p2,p3⟩:=box4 hk0;obtain⟨x0,x1,x2⟩:=zkx hbx;have zv:W4.cell? ⟨N+1,0,none⟩=some (.slice A1 vs.length c1):=zc hk1 rfl;have HK1W:=zh hk1;have HI4:=zh oq;have nD:=zh kU;have aF:=zh hbx;have HCLL:=zh ek;have kM:=zh (And.intro hl (And.intro hxpl uW));have cz:=zh hpre;have HRW:=zh (HR.out.keep (w':=W4) (S':=Any) (fun _ _ _=>trivial) fun q h _=>hwn q h)
  have lT:=zh (ztt (c:=c1) (HV.out.keep (w':=W4) (S':=Any) (fun _ _ _=>trivial) fun q h _=>hwn q h) HRW.out HL.out kU.any);have kN:=zh (show f x=cdE vs (.nd k n nm ks) x by rw[uE.out]);unfold cdE at kN;generalize asgE vs (.nd k n nm ks) x=R at lT kN;clear hI hpre hbx oq kU iU hsv ek hl qH uW hlow hk0 hk1 oH hwn jO hxpl;change Code.wpIn (Fence.wide.inRound l) (3-1-1) Tryz.prog _ _ _ _
  gi_wp2
  refine⟨trivial,CallsIn.inRound l (callsIn_wide.2 (lT.out.mono ?_))⟩;rintro e6 w6 ⟨hb6,u6,rfl,iA,mK⟩;obtain⟨er,y⟩:=R;simp only at iA mK kN ⊢;obtain⟨Ay,cy,By,dy,Dy,ey,rfl⟩:=iA.slices;have mD:=zh iA;have aU:=zh hb6;have lK:=zh mK;clear lT hb6 iA mK p0 p1 p2 p3 x0 x1 x2 zv;obtain⟨w7,hw7⟩:=zX (w6.alloc (.cells #[.slice Ay y.cells.length cy,.slice By y.tin.length dy,.slice Dy y.tout.length ey] 34));have pG:Below w6.heap.size w6 w7:=by rw[<-hw7];exact zkb zr _
  have kD:=heap_alloc_new w6 (.cells #[.slice Ay y.cells.length cy,.slice By y.tin.length dy,.slice Dy y.tout.length ey] 34);rw[hw7]at kD;obtain⟨yp,hyp⟩:=zX (w6.heap.size);rw[hyp]at kD;have HYP:=zh hyp;have uo:=zh kD;have HB67:=zh pG;have nT:=zh (zka aU.out pG);have HSY:=zh ((mD.out.svR lK.out).later pG);have HIY:=zh (show y.I from by obtain⟨_,_,_,_,_,_,h⟩:=mD.out;exact h);clear pG kD hyp;have HSKIP:=zh (show ∀W',Below W4.heap.size W4 W'->f x=none->∃C',LoI (M+2) M w5 vs f (pre++[x]) C' W'/\(∀b,C' b->C b\/g<=b)/\Chg C W4 W' from fun W' hb hn =>
   have h:=HI4.out.chg (by omega) (Chg.of_below hb) (fun b hb h=>h)
   ⟨C,⟨h.1,h.2.1,h.2.2.1.snoc (fun z hz=>by rw[hn]at hz;cases hz),h.2.2.2.skip hn⟩,fun b hb=>.inl hb,Chg.of_below hb⟩)
  by_cases h0:er=0
  ·subst h0;have uH:=zh (ztq vs y A1 c1 _ w7 (HRW.out.later nT.out) HL.out HSY.out.any);have kD:=uo.out;rw[<-HYP.out]at kD;obtain⟨z0,z1,z2⟩:=zkx kD;clear kD;have zv:w7.cell? ⟨N+1,0,none⟩=some (.slice A1 vs.length c1):=zc (zkc HK1W.out nT.out) rfl
   gi_wp2
   refine⟨trivial,CallsIn.inRound l (callsIn_wide.2 (uH.out.mono ?_))⟩;rintro e8 w8 ⟨bV,⟨hfit,rfl⟩|⟨hfit,Ae,ce,rfl,hor⟩⟩
   ·have HN:=zh (show f x=none from kN.out.trans (if_neg fun h=>by rw[hfit]at h;exact absurd h.2 (by simp)));have bQ:=zh (zka nT.out bV);clear bV hfit uH z0 z1 z2 zv
    gi_wp2
    exact HSKIP.out _ bQ.out HN.out
   have qw:=zh (show f x=some y from kN.out.trans (if_pos ⟨by trivial,hfit⟩));have bQ:=zh (zka nT.out bV);have HB78:=zh bV;have HFIT:=zh hfit;have tY:=zh hor;clear bV hfit uH z0 z1 z2 zv;have hlen0:0<(encS vs y).length:=by simp only[encS,cnE,List.length_append,zkL];omega
   obtain⟨hcv,hmx⟩:=zxw hor rfl hlen0;have HMX:=zh hmx;have hlo8:=HI4.out.2.2.2.keep (W':=w8) (bQ.out.block M HI4.out.2.2.2.lt) (fun _ h _=>h) fun b _ hlt=>bQ.out.block b hlt;obtain⟨D,hD1,hD2,hD3⟩:=hlo8;obtain⟨v9,hlk,hat⟩:=zzQ (vs:=vs) (y:=y) hD1 hmx;obtain⟨hs,wE⟩:=zX (Maps.has D (kS vs y));rw[wE]at hlk;have su:=zkc ((HI4.out.2.1 (M+1) (by omega) (by omega)).trans (zkc yw.out av.out)) bQ.out;have HKM8:=zh su;have zm:w8.cell? ⟨M+1,0,none⟩=some (.map (some M)):=zc su rfl;have hbx8:=zkc aF.out bQ.out;have HBX8:=zh hbx8;have hzM:M<w8.heap.size:=hD1.lt;clear hor hlen0 hmx hbx8 su;rw[HZ3.out]
   cases hs
   ·have hv9:v9=nilV:=by
     rw[Maps.atKey_of_not_has wE]at hat
     injection hat with hat
     exact hat.symm
    subst hv9;unfold nilV at hlk
    gi_upto_region 14 with fail
    obtain⟨w9,aS⟩:=zX (w8.alloc (.cells #[.slice none 0 0,.slice none 0 0,.slice none 0 0] 34));have aG:Below w8.heap.size w8 w9:=by rw[<-aS];exact zkb zr _
    obtain⟨p0,p1,p2⟩:=zkx (zkc HBX8.out aG);have zm9:w9.cell? ⟨M+1,0,none⟩=some (.map (some M)):=zc (zkc HKM8.out aG) rfl;have hD9:w9.ownsMap Tryz.prog 9 hR M pre.length D:=by
     obtain⟨es',ck',h1,h2⟩:=hD1;exact⟨es',ck',zkc h1 aG,h2⟩
    obtain⟨bF,hmu,hD10,sK⟩:=zKH hD9 HMX.out (by
     have h1:=zsB iC.out q9.out;have h2:=cz.out.length_le;simp only[List.length_append,List.length_cons,List.length_nil]at h2;exact Nat.lt_of_le_of_lt (show pre.length<=65536 by omega) (by unfold maxLen;decide)) (.agg #[.slice As x.cells.length cs,.slice Bs x.tin.length ds,.slice Ds x.tout.length es])
    have jN:=zka bQ.out aG;have kT:Chg (fun b=>b=M) W4 bF:=(Chg.of_below jN).trans2 sK fun b _ h=>h;have aD:=zh (show LoI (M+2) M w5 vs f (pre++[x]) (fun b=>C b\/(g<=b/\b<bF.heap.size)) bF from by
     have h4:=HI4.out;refine⟨⟨fun b hb=>.inl (h4.1.1 b hb),fun b hb=>?_,fun b hb=>?_⟩,fun b hb hn=>(kT.block b (h4.1.2.2 b (h4.1.1 b hb)) hn).trans (h4.2.1 b hb hn),h4.2.2.1.snoc fun z hz q hq hqz=>?_,?_⟩
     ·rcases hb with hb|hb
      ·exact h4.1.2.1 b hb
      ·exact .inr (by have:=kM.out;omega)
     ·rcases hb with hb|hb
      ·exact Nat.lt_of_lt_of_le (h4.1.2.2 b hb) kT.size
      ·exact hb.2
     ·rw[qw.out]at hz;injection hz with hz;subst hz;obtain⟨-,v0,h0,-⟩:=hD2 q hq y hqz;rw[wE]at h0
      cases h0
     ·refine LoM.put hD2 hD3 hD1.isMap qw.out HIY.out wE hD10 (nD.out.keep (fun q h hlt=>⟨.inr ⟨h,Nat.lt_of_lt_of_le hlt kT.size⟩,by have h:g<=q:=h;have:=kM.out;have:=ji.out;omega⟩) fun q h hlt=>kT.block q hlt fun(e:q=M)=>by have h:g<=q:=h;have:=kM.out;have:=ji.out;omega)
       (fun b h _=>⟨.inl h.1,h.2⟩) fun b h hlt=>((Chg.of_below (C:=fun b=>b=M) aG).trans2 sK fun b _ h=>h).block b hlt fun(e:b=M)=>by have:=h.2;omega)
    have bN:=zh (kT.mono (C':=C) fun b _ (e:b=M)=>by rw[e];exact HI4.out.1.1 M (by omega));clear aG hD9 hD10 sK jN kT hD1 hD2 hD3 hat
    rw[aS];clear aS hlk hcv
    gi_wp2
    exact⟨_,aD.out,(fun b hb=>hb.elim .inl fun h=>.inr h.1),bN.out⟩
   ·obtain⟨s0,hs0,y',wF,hky⟩:=hD3 _ wE;obtain⟨hIy',v0,-,hat0,rJ⟩:=hD2 s0 hs0 y' wF;have hfit':fitB vs y'=true:=by
     have h1:=wF;rw[<-uE.out,cdE]at h1
     split at h1
     ·rename_i h2;injection h1 with h1;rw[<-h1];exact h2.2
     ·cases h1
    have hyy:=zKa HFIT.out hfit' HIY.out hIy' hky;subst hyy;rw[hat0]at hat
    injection hat with hat
    subst hat
    obtain⟨A0,c0,B0,d0,D0,e0,rfl⟩:∃A c B d D e,v0=.agg #[.slice A s0.cells.length c,.slice B s0.tin.length d,.slice D s0.tout.length e]:=by
     obtain⟨A,c,B,d,D,e,rfl,-⟩:=rJ;exact⟨_,_,_,_,_,_,rfl⟩
    have hfind:=zxh HI4.out.2.2.1 hs0 wF;have HFY:=zh wF;have HS0:=zh hs0;clear wF hs0
    gi_upto_region 13 with fail
    obtain⟨w9,aS⟩:=zX (w8.alloc (.cells #[.slice A0 s0.cells.length c0,.slice B0 s0.tin.length d0,.slice D0 s0.tout.length e0] 34));have aG:Below w8.heap.size w8 w9:=by rw[<-aS];exact zkb zr _
    obtain⟨p0,p1,p2⟩:=zkx (zkc HBX8.out aG);have zg:=heap_alloc_new w8 (.cells #[.slice A0 s0.cells.length c0,.slice B0 s0.tin.length d0,.slice D0 s0.tout.length e0] 34);rw[aS]at zg;obtain⟨r0,r1,r2⟩:=zkx zg;have jN:=zka bQ.out aG;have hk3:=zkc ((HI4.out.2.1 (N+3) (by omega) (by omega)).trans (zkc eD.out (zka bP.out av.out))) jN;have hk4:=zkc ((HI4.out.2.1 (N+4) (by omega) (by omega)).trans (zkc jX.out (zka bP.out av.out))) jN;obtain⟨q0,q1,q2,q3,q4,q5⟩:=box6 hk3;have cf:∀o,w9.frozen? ⟨N+3,o,none⟩=false:=fun o=>zf hk3;obtain⟨wa,qD,jK,hha⟩:=st6 (.slice A0 s0.cells.length c0) (.slice B0 s0.tin.length d0) (.slice D0 s0.tout.length e0) (.slice As x.cells.length cs) (.slice Bs x.tin.length ds) (.slice Ds x.tout.length es) hk3;have oU:=jK.keep hk4 fun(e:N+4=N+3)=>by omega
    have qb:wa.cell? ⟨N+4,0,none⟩=some (.bool false):=zc oU rfl;have cfb:∀o,wa.frozen? ⟨N+4,o,none⟩=false:=fun o=>zf oU;obtain⟨wb,hwb,hcb,hhb⟩:=setU (o:=0) (.bool true) oU;have hch:Chg (fun q=>q=N+3\/q=N+4) w9 wb:=(jK.mono fun q _ h=>.inl h).trans2 hcb fun q _ h=>.inr h;have kR:Chg (fun q=>q=N+3\/q=N+4) W4 wb:=(Chg.of_below jN).trans2 hch fun b _ h=>h;have HFX2:=zh (show LoX (M+2) M N w5 f (allS ⟨bv,bl,bi⟩ (lenE vs ⟨bv,bl,bi⟩)) (pre++[x]) (fun b=>C b\/(g<=b/\b<wb.heap.size)) wb from by
     have h4:=HI4.out;refine⟨pre,s0,x,y,_,_,_,_,_,_,rfl,cz.out,h4.2.2.1,qw.out,hfind,⟨fun b hb=>.inl (h4.1.1 b hb),fun b hb=>?_,fun b hb=>?_⟩,fun b hb hn n3 n4=>(kR.block b (h4.1.2.2 b (h4.1.1 b hb)) fun h=>by rcases h with h|h;exact n3 h;exact n4 h).trans (h4.2.1 b hb hn),hcb.keep hha (fun(e:N+3=N+4)=>by omega),hhb,
      rJ.keep (fun q h hlt=>⟨.inl h.1,h.2⟩) (fun q h hlt=>((Chg.of_below (C:=fun q=>q=N+3\/q=N+4) aG).trans2 hch fun b _ h=>h).block q hlt fun e=>by have:=h.2;rcases e with e|e<;>omega),
      nD.out.keep (fun q h hlt=>⟨.inr ⟨h,Nat.lt_of_lt_of_le hlt kR.size⟩,by have h:g<=q:=h;have:=kM.out;have:=ji.out;omega⟩) fun q h hlt=>kR.block q hlt fun e=>by have h:g<=q:=h;have:=kM.out;have:=ji.out;rcases e with e|e<;>omega⟩
     ·rcases hb with hb|hb
      ·exact h4.1.2.1 b hb
      ·exact .inr (by have:=kM.out;omega)
     ·rcases hb with hb|hb
      ·exact Nat.lt_of_lt_of_le (h4.1.2.2 b hb) kR.size
      ·exact hb.2)
    have bN:=zh (kR.mono (C':=C) fun b _ e=>HI4.out.1.1 b (by rcases e with e|e<;>omega));clear aG zg jN hk3 hk4 jK hha oU hcb hhb hch kR hD1 hD2 hD3 hat0 rJ hfind;rw[aS];clear aS hlk hcv
    gi_wp2
    exact⟨_,HFX2.out,(fun b hb=>hb.elim .inl fun h=>.inr h.1),bN.out⟩
  ·have hne:(er==0)=false:=by simpa using h0
   have hn:f x=none:=kN.out.trans (if_neg fun h=>h0 h.1);have HN:=zh hn;clear hn
   gi_wp2
   exact HSKIP.out _ nT.out HN.out
 ·intro D C W' hD hI hch hK;have hlow:∀q,q<M->W'.heap[q]?=w5.heap[q]?:=fun q hq=>hI.2.1 q (by omega) (by omega);have hk3:=(hlow (N+3) (by omega)).trans (zkc eD.out (zka bP.out av.out));have hk4:=(hlow (N+4) (by omega)).trans (zkc jX.out (zka bP.out av.out));have aI:Chg (fun q=>q=M) w5 W':=⟨hch.1,hch.2,hch.3,hch.4,fun q hlt hn=>by
   by_cases hq:q<M+2
   ·exact hI.2.1 q hq hn
   ·exact hch.block q hlt hq⟩
  have aR:=zh (show Below W.heap.size W W' from(zka ak.out av.out).trans (aI.below (zka ak.out av.out).size fun b (e:b=M)=>by have:=HN.out;omega));have HF:=zh (show RR=none by rw[<-HRR.out,if_pos trivial];exact zmq _ [] hI.2.2.1);clear aI hlow;obtain⟨q0,q1,q2,q3,q4,q5⟩:=box6 hk3;have cf:∀o,W'.frozen? ⟨N+3,o,none⟩=false:=fun o=>zf hk3;obtain⟨w9,aS,aW,bA⟩:=st6 (.slice none 0 0) (.slice none 0 0) (.slice none 0 0) (.slice none 0 0) (.slice none 0 0) (.slice none 0 0) hk3;have bD:=aW.keep hk4 fun(e:N+4=N+3)=>by omega
  have qb:w9.cell? ⟨N+4,0,none⟩=some (.bool false):=zc bD rfl;have vE:∀o,w9.frozen? ⟨N+4,o,none⟩=false:=fun o=>zf bD;obtain⟨w8,hw8,hc8,iR⟩:=setU (o:=0) (.bool false) bD;have gM:Chg (fun q=>q=N+3\/q=N+4) W' w8:=(aW.mono fun q _ h=>.inl h).trans2 hc8 fun q _ h=>.inr h;have bN:=zh gM;have xw:=zh (hc8.keep bA (fun(e:N+3=N+4)=>by omega));have qX:=zh iR;clear aW bA bD hc8 iR gM;have HK:=zh (bN.out.keep hK (fun e=>by have:D=w5.heap.size:=hD;have:=ji.out;rcases e with e|e<;>omega));have HD:=zh (show w5.heap.size=D from hD.symm);clear hk3 hk4 hI hch hK hD;go_wp2_with fail;clear q0 q1 q2 q3 q4 q5 qb cf vE;refine⟨by simp,.inl ⟨_,_,rfl,run_takeDeferred HK.out,?_⟩⟩;have hcd:Chg (fun q=>q=N+3\/q=N+4\/q=D) W' (w8.putObj D (.deferred none)):=(bN.out.mono fun b _ h=>h.elim .inl fun h=>.inr (.inl h)).trans2 (Chg.putObj w8 D (.deferred none)) fun b _ h=>.inr (.inr h)
  have bz:=(Chg.putObj w8 D (.deferred none)).keep xw.out (fun(e:N+3=D)=>by have:=HD.out;have:=ji.out;omega);have dW:=(Chg.putObj w8 D (.deferred none)).keep qX.out (fun(e:N+4=D)=>by have:=HD.out;have:=ji.out;omega);obtain⟨t0,t1,t2,t3,t4,t5⟩:=box6 bz;have tb:(w8.putObj D (.deferred none)).cell? ⟨N+4,0,none⟩=some (.bool false):=zc dW rfl;exact⟨.tuple #[.agg #[.slice none 0 0,.slice none 0 0,.slice none 0 0,.slice none 0 0,.slice none 0 0,.slice none 0 0],.bool false],by simp[results,Tryz.results12,go_sem,t0,t1,t2,t3,t4,t5,tb],aR.out.trans (hcd.below aR.out.size fun b h=>by
   have:=HD.out;have:=ji.out;have:=HN.out;rcases h with h|h|h<;>omega),_,_,_,_,_,_,_,rfl,.inl ⟨HF.out,rfl,rfl⟩⟩
 ·intro D pre C W' hD hX hch hK;obtain⟨dC,q,s,x,x0,x1,x2,x3,x4,x5,rfl,h2,h3,h4,h5,h6,h7,h8,h9,h10,h11⟩:=hX;have HF:=zh (show RR=some (q,s) by
   rw[<-HRR.out,if_pos trivial];obtain⟨ys,hys⟩:=h2;rw[<-hys,List.append_assoc];exact zng h4 dC [] h3 h5)
  have aI:Chg (fun b=>b=M\/b=N+3\/b=N+4) w5 W':=⟨hch.1,hch.2,hch.3,hch.4,fun q hlt hn=>by
   by_cases hq:q<M+2
   ·exact h7 q hq (fun e=>hn (.inl e)) (fun e=>hn (.inr (.inl e))) (fun e=>hn (.inr (.inr e)))
   ·exact hch.block q hlt hq⟩
  have aR:=zh (show Below W.heap.size W W' from(zka ak.out av.out).trans (aI.below (zka ak.out av.out).size fun b h=>by have:=HN.out;rcases h with h|h|h<;>omega));have HK:=zh hK;have pX:=zh h10;have HS2:=zh h11;have Bi:=zh h6;have bY:=zh h8;have xk:=zh h9;have HD:=zh (show w5.heap.size=D from hD.symm);clear h2 h3 h4 h5 h6 h7 h8 h9 h10 h11 aI hch hK hD;go_wp2_with fail;refine wpIn_ret ?_;simp only[Exit.inBlock,Exit.then];refine⟨by simp,.inl ⟨_,_,rfl,run_takeDeferred HK.out,?_⟩⟩;have hcd:=Chg.putObj W' D (.deferred none);have bz:=hcd.keep bY.out (fun(e:N+3=D)=>by have:=HD.out;have:=ji.out;omega);have dW:=hcd.keep xk.out (fun(e:N+4=D)=>by have:=HD.out;have:=ji.out;omega);obtain⟨t0,t1,t2,t3,t4,t5⟩:=box6 bz;have tb:(W'.putObj D (.deferred none)).cell? ⟨N+4,0,none⟩=some (.bool true):=zc dW rfl
  have hkeep:∀q,(C q/\M+2<=q)->q<W'.heap.size->(W'.putObj D (.deferred none)).heap[q]?=W'.heap[q]?:=fun q h hlt=>hcd.block q hlt fun(e:q=D)=>by
   have:=HD.out;have:=ji.out;have:=Bi.out.2.1 q h.1;omega
  have hge:∀q,(C q/\M+2<=q)->q<W'.heap.size->W.heap.size<=q:=fun q h _=>by have:=HN.out;omega
  exact⟨.tuple #[.agg #[x0,x1,x2,x3,x4,x5],.bool true],by simp[results,Tryz.results12,go_sem,t0,t1,t2,t3,t4,t5,tb],aR.out.trans (hcd.below aR.out.size fun b (h:b=D)=>by
   have:=HD.out;have:=ji.out;have:=HN.out;omega),_,_,_,_,_,_,_,rfl,.inr ⟨q,s,HF.out,rfl,pX.out.keep hge hkeep,HS2.out.keep hge hkeep⟩⟩
end
section
open Go Go.RowKit
attribute [local go_sem] Oper.semAt_some
def zst(t:T)(vs:List VD)(b:BX)(F:Int):Option SS:=if smlE vs b=true then(allS b (lenE vs b)).find? (zo1 (zlR vs [] t) F)else none
theorem zqV{W:World}{vs:List VD}{b:BX}{t:T}{v:Value}{F:Int}{A1:Option Addr}{c1:Nat}(hv:NV W Any t v)(hr:RowV W Any A1 vs)(hl:vs.length<=LV)(hlc:vs.length<=c1)(hF:I64 F)(ng:F<=1000000) :
  Calls Tryz.prog 18 #[v,.slice A1 vs.length c1,.agg #[.int .i64 b.v,.int .i64 b.l,.int .i64 b.i],.int .i64 F] W (zKK (zst t vs b F) W):=by
 have HC:=zh (fun w' (hb:Below W.heap.size W w')=>zry (W:=w') (prs:=[]) (b:=b) (A2:=none) (c2:=0) (hv.later hb) (hr.later hb) hl hlc (fun i hi=>by cases hi) (by decide) (by decide) hF ng);obtain⟨A3,c3,rfl,-⟩:=hv.open_;obtain⟨k,n,nm,ks⟩:=t;obtain⟨bv,bl,bi⟩:=b;simp only[T.k_nd,T.n_nd,T.s_nd,T.ks_nd]at HC ⊢;obtain⟨N,hN⟩:=zX (W.heap.size);have HN:=zh hN;obtain⟨hb1,hz1,k0,k1,k2⟩:=al3 W (.cells #[.int .u8 k,.int .i64 n,.string nm,.slice A3 ks.length c3] 24) (.cells #[.int .i64 bv,.int .i64 bl,.int .i64 bi] 27) (.cells #[.slice none 0 0,.slice none 0 0,.slice none 0 0] 34);obtain⟨w1,hw1⟩:=zX (((W.alloc (.cells #[.int .u8 k,.int .i64 n,.string nm,.slice A3 ks.length c3] 24)).alloc (.cells #[.int .i64 bv,.int .i64 bl,.int .i64 bi] 27)).alloc (.cells #[.slice none 0 0,.slice none 0 0,.slice none 0 0] 34));rw[hw1]at hb1 hz1 k0 k1 k2;rw[hN]at hz1 k0 k1 k2;have HB1:=zh hb1;have HZ1:=zh hz1
 have aK:=zh k2;obtain⟨y0,y1,y2⟩:=zkx k1;obtain⟨x0,x1,x2,x3⟩:=box4 k0;clear hb1 hz1 k0 k1 k2;clear hv hr hl hlc hF ng
 show Calls Tryz.prog 18 #[.agg #[.int .u8 k,.int .i64 n,.string nm,.slice A3 ks.length c3],.slice A1 vs.length c1,.agg #[.int .i64 bv,.int .i64 bl,.int .i64 bi],.int .i64 F] W _
 refine(callsIn_wide (n:=3)).1 (callsIn_of_wp_marks Tryz.func18 rfl trivial ((wpIn_wide (n:=3)).2 ?_));simp only[Tryz.ntmps18,List.size_toArray,List.length_cons,List.length_nil,Nat.reduceAdd,Nat.reduceSub,Array.replicate_succ,Array.replicate_zero,List.push_toArray,List.append_toArray,List.nil_append,List.cons_append];go_wp2_with fail;refine(HC.out _ HB1.out).mono ?_;rintro e w' ⟨hb,v,x,rfl,h⟩;obtain⟨RR,hRR⟩:=zX (zst (.nd k n nm ks) vs ⟨bv,bl,bi⟩ F);have h':=h;rw[show(if smlE vs ⟨bv,bl,bi⟩=true then List.find? (zo1 (zlR vs [] (.nd k n nm ks)) F) (allS ⟨bv,bl,bi⟩ (lenE vs ⟨bv,bl,bi⟩))else none)=RR from hRR]at h';have HRR:=zh hRR;have HH:=zh (And.intro hb h');clear hb h HC hRR h';obtain⟨A,la,ca,B,lb,cb,D,ld,cd,rfl⟩:∃A l c B m d D k e,v=.agg #[.slice A l c,.slice B m d,.slice D k e]:=by
  rcases HH.out.2 with⟨-,-,h⟩|⟨s,-,-,h⟩
  ·exact⟨_,_,_,_,_,_,_,_,_,h⟩
  ·obtain⟨A,c,B,d,D,e,h,-⟩:=h;exact⟨_,_,_,_,_,_,_,_,_,h⟩
 have hk2:=zkc aK.out HH.out.1;obtain⟨q0,q1,q2⟩:=zkx hk2;have cf:∀o,w'.frozen? ⟨N+2,o,none⟩=false:=fun o=>zf hk2;obtain⟨w9,aS,aW,bA⟩:=st3 (.slice A la ca) (.slice B lb cb) (.slice D ld cd) hk2;obtain⟨t0,t1,t2⟩:=zkx bA;have nQ:=zh aW;clear hk2 aW bA x0 x1 x2 x3 y0 y1 y2 hw1;go_wp2_with fail;refine⟨.tuple #[.agg #[.slice A la ca,.slice B lb cb,.slice D ld cd],.bool x],by simp[results,Tryz.results18,go_sem,t0,t1,t2],(zka HB1.out HH.out.1).trans (nQ.out.below (zka HB1.out HH.out.1).size fun b (e:b=N+2)=>by have:=HN.out;omega),_,_,rfl,?_⟩;rcases HH.out.2 with⟨h1,h2,h3⟩|⟨s,h1,h2,h3⟩
 ·exact .inl ⟨HRR.out.trans h1,h2,h3⟩
 ·exact .inr ⟨s,HRR.out.trans h1,h2,h3.keep (fun q h _=>Nat.le_trans HB1.out.size h) fun q h hlt=>nQ.out.block q hlt fun(e:q=N+2)=>by have h:w1.heap.size<=q:=h;have:=HZ1.out;omega⟩
end
section
open Go Go.RowKit
def xTW:T:=.nd 2 0 ⟨#[120]⟩ []
def nTW(n:Int):T:=.nd 1 n ⟨#[]⟩ []
def stTW:T:=.nd 56 0 ⟨#[]⟩ [xTW,nTW 0]
def eqTW:T:=.nd 16 0 ⟨#[]⟩ [xTW,nTW 1]
def blTW:T:=.nd 57 0 ⟨#[]⟩ []
def ifTW:T:=.nd 52 0 ⟨#[]⟩ [eqTW,blTW,blTW,nTW 1]
def vsW:List VD:=[⟨⟨#[120]⟩,1,0⟩]
def bxW:BX:=⟨1,0,0⟩
def okPW:Option (SS×SS)->Bool
 | some (a,b)=>eqS a ⟨[[0]],[],[]⟩&&eqS b ⟨[[1]],[],[]⟩
 | none=>false
def okSW:Option SS->Bool
 | some a=>eqS a ⟨[[0]],[],[]⟩
 | none=>false
theorem zyX:okPW (losE stTW vsW bxW)=true:=by decide +kernel
theorem zzn:okSW (zst ifTW vsW bxW 100)=true:=by decide +kernel
theorem zz7:losE stTW vsW bxW=some (⟨[[0]],[],[]⟩,⟨[[1]],[],[]⟩):=by
 have h:=zyX;unfold okPW at h
 split at h
 ·rename_i a b e;rw[e];simp only[Bool.and_eq_true,zp5]at h;rw[h.1,h.2]
 ·cases h
theorem zKp:zst ifTW vsW bxW 100=some ⟨[[0]],[],[]⟩:=by
 have h:=zzn;unfold okSW at h
 split at h
 ·rename_i a e;rw[e,zp5.1 h]
 ·cases h
theorem zrl(n:Int)(w:World):Calls Tryz.prog 35 #[.int .i64 n] w fun e w'=>e=.returned (nv 1 n ⟨#[]⟩ none 0 0)/\Below w.heap.size w w':=by
 have hb:∀w,(Instr.build 24 #[(0,.int .u8 1),(1,.int .i64 n)]).run Tryz.prog w=.ok (nv 1 n ⟨#[]⟩ none 0 0) w:=fun w=>by kernel_rfl
 go_enter Tryz.func35,Tryz.ntmps35;go_wp2_with fail;exact bodyPost_ret (v:=nv 1 n ⟨#[]⟩ none 0 0) (by simp[results,Tryz.results35,go_sem]) rfl ⟨rfl,zkb zr _⟩
theorem zte{w:World}{t:T}{v:Value}(hv:NV w Any t v):Calls Tryz.prog 22 #[v] w fun e w'=>e=.returned (.bool (basB t.k))/\Below w.heap.size w w':=by
 obtain⟨A3,c3,rfl,-⟩:=hv.open_;obtain⟨k,n,nm,ks⟩:=t;simp only[T.k_nd,T.n_nd,T.s_nd,T.ks_nd];clear hv
 show Calls Tryz.prog 22 #[.agg #[.int .u8 k,.int .i64 n,.string nm,.slice A3 ks.length c3]] w _
 have hb1:=zkb (zs w) (.cells #[.int .u8 k,.int .i64 n,.string nm,.slice A3 ks.length c3] 24);have HB1:=zh hb1;clear hb1;by_cases h1:40<=k
 ·by_cases h2:k<=49
  ·have e:basB k=true:=by simp[basB,h1,h2]
   have E:=zh e;clear e;go_enter Tryz.func22,Tryz.ntmps22;go_wp2_with fail;go_ret;exact⟨by rw[E.out];rfl,HB1.out⟩
  ·have e:basB k=false:=by simp[basB,h1,h2]
   have E:=zh e;clear e;go_enter Tryz.func22,Tryz.ntmps22;go_wp2_with fail;go_ret;exact⟨by rw[E.out];rfl,HB1.out⟩
 ·have e:basB k=false:=by simp[basB,h1]
  have E:=zh e;clear e;go_enter Tryz.func22,Tryz.ntmps22;go_wp2_with fail;go_ret;exact⟨by rw[E.out];rfl,HB1.out⟩
def AwP:Prop:=∀w,Calls Tryz.prog 9 #[] w fun e w'=>e=.returned (.bool true)/\Below w.heap.size w w'
attribute [local go_sem] Oper.semAt_some
theorem zmx{F:Fence}{n:Nat}{P:Program}(w:World){ops:Array Oper}{rest:List Oper}{o:Oper}{a:Act}{Q:Exit->Act->World->Prop}
  (hg:o.guard=none)(s x:Operand)(t:TypeId)(hop:o.op=Op.call { callee:=Callee.builtin Builtin.append,args := #[s,x],argTypes := #[t,t] })
  (base:Nat)(e:TypeId)(i:TypeInfo)(z:Value)(size bytes:Nat)(h1:P.underlying t=some (.slice e))(h2:P.info? e=some i)(h3:i.zero=some z)(h4:i.size=size)(h5:i.bytes=bytes)(h6:z.cells.size=size)(h7:0<size)
  (v:Value)(k:Nat)(xs:List Value)(hs:a.eval s=v)(hown:w.ownsRow base e size v k xs)(ad:Addr)(m c:Nat)(news:List Value)(hx:a.eval x=.slice (some ad) m c)(hn:news.length=m*size)
  (hc:∀j u,news[j]?=some u->w.cell? (ad.add j)=some u)(h1c:∀u∈news,u.oneCell'=true)(b1:k+m<=maxLen)(b2:(k+m)*bytes<=140737488355328)(b3:base<=w.heap.size)
  (hK:∀v' w',w'.ownsRow base e size v' (k+m) (xs++news)->w.grownBy w' v.ownBlock->(v'.ownBlock=v.ownBlock\/v'.ownBlock=some w.heap.size)->wpListIn F n P ops Q rest (a.put o.dst v') w') :
  wpListIn F n P ops Q (o::rest) a w:=by
 refine wpListIn_plain hg fun K hK'=>?_;obtain⟨v',w',hrun,r1,r2,_,r4⟩:=run_append_own_at (P:=P) w base t o.type e i z size bytes h1 h2 h3 h4 h5 h6 h7 v k xs hown ad m c news hn hc h1c b1 b2 b3;unfold Oper.wpIn;refine⟨?_,?_⟩
 ·simp[Oper.about,hop,resolve,Target.leads,Sem.run_pure]
 ·rw[Oper.semAt_plain F _ _ (by rw[hop];intro c hc';cases hc')];simp[execOp,hop,resolve,invoke,builtin,hs,hx,hrun,Result.andThen];exact hK' _ _ (hK v' w' r1 r2 r4)
end
section
open Go Go.RowKit
attribute [local go_sem] Oper.semAt_some
def stsL(vs:List VD)(b:BX)(m:Int):Option (List SS):=if (cntR vs b).2=0/\(cntR vs b).1<=m then some (allS b (lenE vs b))else none
end
section
open Go Go.RowKit
def smL(vs:List VD)(b:BX):Bool:=decide (vs.length<=40)&&(decide ((cntR vs b).2=1)||(decide ((cntR vs b).2=0)&&decide ((cntR vs b).1<=150)))
theorem zsM(vs:List VD)(b:BX)(A:Option Addr)(c:Nat)(w:World)(hrow:RowV w Any A vs)(hl:vs.length<=LV):Calls Tryz.prog 11 #[.slice A vs.length c,.agg #[.int .i64 b.v,.int .i64 b.l,.int .i64 b.i]] w fun e w'=>e=.returned (.bool (smL vs b))/\Below w.heap.size w w':=by
 obtain⟨bv,bl,bi⟩:=b;simp only;have hb1:=zkb (zs w) (.cells #[.int .i64 bv,.int .i64 bl,.int .i64 bi] 27);have hk1:=heap_alloc_new w (.cells #[.int .i64 bv,.int .i64 bl,.int .i64 bi] 27);have q9:=zh (fun w' (hb:Below w.heap.size w w')=>zqU vs ⟨bv,bl,bi⟩ A c w' (hrow.later hb) hl);have HS:=zh (show smL vs ⟨bv,bl,bi⟩=(decide (vs.length<=40)&&(decide ((cntR vs ⟨bv,bl,bi⟩).2=1)||(decide ((cntR vs ⟨bv,bl,bi⟩).2=0)&&decide ((cntR vs ⟨bv,bl,bi⟩).1<=150))))from rfl);obtain⟨⟨R1,R2⟩,hR⟩:=zX (cntR vs ⟨bv,bl,bi⟩);rw[hR]at q9 HS;clear hrow hl hR;go_enter Tryz.func11,Tryz.ntmps11;go_upto_region 1 with fail;obtain⟨w1,hw1⟩:=zX (w.alloc (.cells #[.int .i64 bv,.int .i64 bl,.int .i64 bi] 27));rw[hw1]at hb1 hk1 ⊢;obtain⟨x0,x1,x2⟩:=zkx hk1;have HB1:=zh hb1;clear hw1 hb1 hk1;go_wp2_with fail;refine(q9.out _ HB1.out).mono ?_;rintro e w2 ⟨rfl,hb2⟩;have HB2:=zh (zka HB1.out hb2);clear hb2 x0 x1 x2
 by_cases tu:vs.length<=40;rotate_left 1
 ·have h4:¬ (vs.length:Int)<=40:=by omega
  have HF:=zh (show smL vs ⟨bv,bl,bi⟩=false by rw[HS.out];simp[tu]);go_wp2_with fail;go_ret;exact⟨by rw[HF.out];rfl,HB2.out⟩
 have h4:(vs.length:Int)<=40:=by omega
 by_cases h1:R2=1
 ·have e1:(R2==1)=true:=by simpa using h1
  have HF:=zh (show smL vs ⟨bv,bl,bi⟩=true by rw[HS.out];simp[h1,tu]);go_wp2_with fail;go_ret;exact⟨by rw[HF.out];rfl,HB2.out⟩
 have e1:(R2==1)=false:=by simpa using h1
 by_cases h0:R2=0
 ·have e0:(R2==0)=true:=by simpa using h0
  have HF:=zh (show smL vs ⟨bv,bl,bi⟩=decide (R1<=150) by rw[HS.out];simp[h1,tu,h0]);go_wp2_with fail;go_ret;exact⟨by rw[HF.out];rfl,HB2.out⟩
 ·have e0:(R2==0)=false:=by simpa using h0
  have HF:=zh (show smL vs ⟨bv,bl,bi⟩=false by rw[HS.out];simp[h1,tu,h0]);go_wp2_with fail;go_ret;exact⟨by rw[HF.out];rfl,HB2.out⟩
theorem zvr{W:World}{vs:List VD}{prs:List PR}{t:T}{v:Value}{A1 A2:Option Addr}{c1 c2:Nat}(hv:NV W Any t v)(hr:RowV W Any A1 vs)(hl:vs.length<=LV)(hlc:vs.length<=c1)(hp:RowP W Any A2 prs)(hlp:prs.length<=LV)(hpc:prs.length<=c2) :
  Calls Tryz.prog 20 #[v,.slice A1 vs.length c1,.slice A2 prs.length c2] W fun e w'=>∃A3:Option Addr,e=.returned (.agg #[.slice A1 vs.length c1,.slice A2 prs.length c2,.int .u8 57,.int .i64 0,.string ⟨#[]⟩,.slice A3 1 1])/\PV w' Any (zlR vs prs t) (.agg #[.slice A1 vs.length c1,.slice A2 prs.length c2,.int .u8 57,.int .i64 0,.string ⟨#[]⟩,.slice A3 1 1])/\Below W.heap.size W w':=by
 have yn:=zh (fun w' (hb:Below W.heap.size W w')=>And.intro (hv.later hb) (And.intro (hr.later hb) (hp.later hb)));have HL:=zh (And.intro hl (And.intro hlc (And.intro hlp hpc)));obtain⟨A3,c3,rfl,-⟩:=hv.open_;obtain⟨k,n,nm,ks⟩:=t;simp only[T.k_nd,T.n_nd,T.s_nd,T.ks_nd]at yn ⊢;have hbn:=bNd1 k n nm A3 ks.length c3;have hbp:∀(q:Nat) (w:World),(Instr.build 55 #[(0,.slice A1 vs.length c1),(1,.slice A2 prs.length c2),(2,.agg #[.int .u8 57,.int .i64 0,.string ⟨#[]⟩,.slice (some ⟨q,0,none⟩) 1 1])]).run Tryz.prog w=.ok (.agg #[.slice A1 vs.length c1,.slice A2 prs.length c2,.int .u8 57,.int .i64 0,.string ⟨#[]⟩,.slice (some ⟨q,0,none⟩) 1 1]) w:=fun q w=>by kernel_rfl
 clear hv hr hl hlc hp hlp hpc;go_enter Tryz.func20,Tryz.ntmps20;go_wp2_with fail;obtain⟨hb,hz,k0,k1,k2⟩:=al3 W (.cells #[.int .u8 k,.int .i64 n,.string nm,.slice A3 ks.length c3] 24) (.cells #[.slice A1 vs.length c1,.slice A2 prs.length c2,.int .u8 57,.int .i64 0,.string ⟨#[]⟩,.slice (some ⟨W.heap.size+1+1,0,none⟩) 1 1] 55) (.cells #[.int .u8 k,.int .i64 n,.string nm,.slice A3 ks.length c3] 24);obtain⟨t0,t1,t2,t3,t4,t5⟩:=box6 k1;refine bodyPost_ret (v:=.agg #[.slice A1 vs.length c1,.slice A2 prs.length c2,.int .u8 57,.int .i64 0,.string ⟨#[]⟩,.slice (some ⟨W.heap.size+1+1,0,none⟩) 1 1]) (by simp[results,Tryz.results20,go_sem,t0,t1,t2,t3,t4,t5]) rfl ⟨_,rfl,?_,hb⟩;obtain⟨q1,q2,q3⟩:=yn.out _ hb;exact⟨A1,c1,A2,c2,some ⟨W.heap.size+1+1,0,none⟩,1,rfl,⟨q2,HL.out.1,HL.out.2.1,q3,HL.out.2.2.1,HL.out.2.2.2,zyx ⟨by decide,by decide,Nat.zero_le _⟩ trivial k2 q1⟩⟩
def OpS(E:Prop)(Q:ST->ST->Prop)(R R':Int×ST):Prop:=(R.1=0->R'.1=0/\Q R.2 R'.2)/\(E->R.1≠0->R'.1=R.1)
structure SimR(E:Prop)(F:Int)(Rl:Nat->ST->ST->Prop):Prop where
 look:∀(n:Nat) S S',Rl n S S'->S'.look=S.look
 tick:∀(n:Nat) S S',Rl n S S'->Rl (n+1) S S'
 do_:∀(n:Nat) S S' t,(n:Int)<F->Rl n S S'->OpS E (Rl (n+1)) (doE S t) (doE S' t)
 undo:∀(n:Nat) S S' t,(n:Int)<F->Rl n S S'->OpS E (Rl (n+1)) (zld S t) (zld S' t)
 open_:∀(n:Nat) S S' v x,(n:Int)<F->Rl n S S'->OpS E (Rl (n+1)) (zlO S v x) (zlO S' v x)
 close:∀(n:Nat) S S' s x,(n:Int)<F->Rl n S S'->OpS E (Rl (n+1)) (zk3 S s x) (zk3 S' s x)
 enter:∀(n:Nat) S S' ps ss,(n:Int)<F->Rl n S S'->OpS E (Rl (n+1)) (zlu S ps ss) (zlu S' ps ss)
 leave:∀(n:Nat) S S',(n:Int)<F->Rl n S S'->OpS E (Rl (n+1)) (zlL S) (zlL S')
section
variable {E:Prop} {Rl:Nat->ST->ST->Prop} {F F' k:Int} {o o':Out}
end
section
variable {S:ST} {l:List Int}
end
structure FrR(ρ:Nat->Nat->Prop)(f g:FR):Prop where
 vs:f.vs=g.vs
 loc:f.loc=g.loc
 len:f.cs.length=g.cs.length
 full:f.cs.length=f.vs.length/\f.loc<=f.vs.length
 cs:∀(i a b:Nat),f.cs[i]?=some a->g.cs[i]?=some b->ρ a b
structure EqR(ρ:Nat->Nat->Prop)(S S':ST):Prop where
 fn:∀a b b',ρ a b->ρ a b'->b=b'
 inj:∀a a' b,ρ a b->ρ a' b->a=a'
 lt:∀a b,ρ a b->a<S.nc/\b<S'.nc
 cell:∀a b,ρ a b->S'.cell b=S.cell a
 base:FrR ρ S.base S'.base
 ncalls:S.calls.length=S'.calls.length
 calls:∀(i:Nat) (f g:FR),S.calls[i]?=some f->S'.calls[i]?=some g->FrR ρ f g
 tin:S'.tin=S.tin
 tout:S'.tout=S.tout
def Eqv(S S':ST):Prop:=∃ρ,EqR ρ S S'
def OpE(ρ:Nat->Nat->Prop)(R R':Int×ST):Prop:=R'.1=R.1/\(R.1=0->EqR ρ R.2 R'.2)
section
variable {ρ ρ':Nat->Nat->Prop} {f g:FR} {S S' S'':ST} {a b:Nat}
theorem FrR.mono(h:FrR ρ f g)(hr:∀a b,ρ a b->ρ' a b):FrR ρ' f g:=⟨h.vs,h.loc,h.len,h.full,fun i a b x y=>hr a b (h.cs i a b x y)⟩
theorem FrR.getD(h:FrR ρ f g){i:Nat}(hi:i<f.vs.length):ρ (f.cs.getD i 0) (g.cs.getD i 0):=by
 have h1:i<f.cs.length:=by rw[h.full.1];exact hi
 have h2:i<g.cs.length:=by rw[<-h.len];exact h1
 refine h.cs i _ _ ?_ ?_
 ·rw[List.getD_eq_getElem?_getD,List.getElem?_eq_getElem h1];rfl
 ·rw[List.getD_eq_getElem?_getD,List.getElem?_eq_getElem h2];rfl
theorem FrR.snoc(h:FrR ρ f g)(v:VD)(hab:ρ a b)(l:Nat)(hl:l<=f.vs.length+1):FrR ρ ⟨f.vs++[v],f.cs++[a],l⟩ ⟨g.vs++[v],g.cs++[b],l⟩:=by
 refine⟨by rw[h.vs],rfl,by simp[h.len],⟨by simp[h.full.1],by simpa using hl⟩,fun i x y hx hy=>?_⟩;simp only at hx hy;rcases Nat.lt_or_ge i f.cs.length with h1|h1
 ·rw[List.getElem?_append_left h1]at hx;rw[List.getElem?_append_left (by rw[<-h.len];exact h1)]at hy;exact h.cs i x y hx hy
 ·rw[List.getElem?_append_right h1]at hx;rw[List.getElem?_append_right (by rw[<-h.len];exact h1)]at hy;rw[<-h.len]at hy
  cases hi:i-f.cs.length with
  | zero =>
   rw[hi]at hx hy;simp only[List.getElem?_cons_zero,Option.some.injEq]at hx hy;subst hx hy;exact hab
  | succ j =>
   rw[hi]at hx;simp at hx
theorem FrR.pop(h:FrR ρ f g):FrR ρ f.pop g.pop:=by
 have h1:=h.full;refine⟨by simp only[FR.pop,h.vs],by simp only[FR.pop,h.loc],by simp only[FR.pop,List.length_take,h.len,h.vs],⟨by simp only[FR.pop,List.length_take,h1.1],by simp only[FR.pop,List.length_take];omega⟩,fun i x y hx hy=>?_⟩;simp only[FR.pop]at hx hy;rw[List.getElem?_take]at hx hy
 split at hx
 ·split at hy
  ·exact h.cs i x y hx hy
  ·cases hy
 ·cases hx
theorem EqR.cur(h:EqR ρ S S'):FrR ρ S.cur S'.cur:=by
 rcases Nat.eq_zero_or_pos S.calls.length with h0|h0
 ·rw[zm5 h0,zm5 (by rw[<-h.ncalls];exact h0)];exact h.base
 ·have h1:0<S'.calls.length:=by rw[<-h.ncalls];exact h0
  rw[zm4 h0,zm4 h1];refine h.calls (S.calls.length-1) _ _ (List.getElem?_eq_getElem (by omega)) ?_;rw[List.getElem?_eq_getElem (by have:=h.ncalls;omega)];congr 1;congr 1;rw[h.ncalls]
theorem EqR.num(h:EqR ρ S S')(s:ByteArray):(S.num s=none/\S'.num s=none)\/∃a b,S.num s=some a/\S'.num s=some b/\ρ a b:=by
 have hc:=h.cur;unfold ST.num FR.at
 rw[<-hc.vs]
 cases hl:zlo S.cur.vs s S.cur.vs.length with
 | none=>exact .inl ⟨rfl,rfl⟩
 | some i =>
  simp only[Option.bind_some];have h1:i<S.cur.cs.length:=by rw[hc.full.1];exact zob hl
  have h2:i<S'.cur.cs.length:=by rw[<-hc.len];exact h1
  exact .inr ⟨_,_,List.getElem?_eq_getElem h1,List.getElem?_eq_getElem h2,hc.cs i _ _ (List.getElem?_eq_getElem h1) (List.getElem?_eq_getElem h2)⟩
theorem EqR.look(h:EqR ρ S S'):S'.look=S.look:=by
 funext s;unfold ST.look;rcases h.num s with⟨h1,h2⟩|⟨a,b,h1,h2,h3⟩
 ·rw[h1,h2];rfl
 ·rw[h1,h2];simp[h.cell a b h3]
theorem EqR.el(h:EqR ρ S S')(hab:ρ a b)(i:Nat):S'.el b i=S.el a i:=by unfold ST.el;rw[h.cell a b hab]
theorem EqR.setL(h:EqR ρ S S')(hab:ρ a b)(l:List Int):EqR ρ (S.setL a l) (S'.setL b l) :=
 ⟨h.fn,h.inj,h.lt,fun c d hcd=>by
  simp only[ST.setL];by_cases e:c=a
  ·subst e;rw[if_pos rfl,if_pos (h.fn _ _ _ hcd hab)]
  ·rw[if_neg e,if_neg (fun e'=>e (h.inj _ _ _ hcd (by rw[e'];exact hab)))];exact h.cell c d hcd,h.base,h.ncalls,h.calls,h.tin,h.tout⟩
theorem EqR.put(h:EqR ρ S S')(hab:ρ a b)(i:Nat)(x:Int):EqR ρ (S.put a i x) (S'.put b i x):=by
 unfold ST.put;rw[h.cell a b hab];exact h.setL hab _
theorem EqR.tapes(h:EqR ρ S S')(l m:List Int):EqR ρ { S with tin:=l,tout:=m } { S' with tin:=l,tout:=m } :=
 ⟨h.fn,h.inj,h.lt,h.cell,h.base,h.ncalls,h.calls,rfl,rfl⟩
theorem OpE.bad{e:Int}(h:e≠0):OpE ρ (e,S) (e,S'):=⟨rfl,fun h0=>absurd h0 h⟩
theorem OpE.good(h:EqR ρ S S'):OpE ρ (0,S) (0,S'):=⟨rfl,fun _=>h⟩
theorem zuh(h:EqR ρ S S')(k:Int)(hab:ρ a b)(i:Nat){s t:Nat}(hst:ρ s t):OpE ρ (zle S k a i s) (zle S' k b i t):=by
 unfold zle;rw[h.cell s t hst,h.el hab]
 split
 ·split
  ·exact OpE.bad (by decide)
  ·exact OpE.good ((h.setL hst _).put hab _ _)
 ·split
  ·exact OpE.bad (by decide)
  ·split
   ·exact OpE.bad (by decide)
   ·rw[h.el hst];exact OpE.good ((h.put hab _ _).setL hst _)
theorem zsJ(h:EqR ρ S S')(k:Int)(hab:ρ a b)(i:Nat):OpE ρ (zkp S k a i) (zkp S' k b i):=by
 unfold zkp;rw[h.tin,h.tout,h.el hab]
 split
 ·cases S.tin with
  | nil=>exact OpE.bad (by decide)
  | cons y r =>
   dsimp only
   split
   ·exact OpE.bad (by decide)
   ·have:=(h.tapes r S.tout).put hab i y;exact OpE.good this
 ·split
  ·split
   ·exact OpE.bad (by decide)
   ·split
    ·exact OpE.bad (by decide)
    ·have:=(h.tapes S.tin S.tout.dropLast).put hab i (S.tout.getLast?.getD 0);exact OpE.good this
  ·split
   ·split
    ·exact OpE.bad (by decide)
    ·have:=(h.tapes (S.el a i::S.tin) S.tout).put hab i 0;exact OpE.good this
   ·split
    ·exact OpE.bad (by decide)
    ·have:=(h.tapes S.tin (S.tout++[S.el a i])).put hab i 0;exact OpE.good this
theorem zuT(h:EqR ρ S S')(k:Int)(s qs:ByteArray)(r2:Int)(hab:ρ a b)(i:Nat):OpE ρ (zkw S k s qs r2 a i) (zkw S' k s qs r2 b i):=by
 unfold zkw
 split
 ·rw[h.el hab];exact OpE.good (h.put hab _ _)
 ·split
  ·rcases h.num qs with⟨h1,h2⟩|⟨c,d,h1,h2,h3⟩
   ·rw[h1,h2];exact OpE.good h
   ·rw[h1,h2];dsimp only;rw[h.cell c d h3]
    split
    ·refine OpE.good ?_;unfold zna;rw[h.el hab,h.el h3];exact(h.put hab _ _).put h3 _ _
    ·exact OpE.bad (by decide)
  ·split
   ·rcases h.num s with⟨h1,h2⟩|⟨c,d,h1,h2,h3⟩
    ·rw[h1,h2];exact OpE.good h
    ·rw[h1,h2];exact zuh h k hab i h3
   ·exact zsJ h k hab i
theorem zu9(h:EqR ρ S S')(t:T):OpE ρ (doE S t) (doE S' t):=by
 unfold doE;rw[<-h.cur.vs]
 split
 ·exact OpE.bad (by decide)
 split
 ·exact OpE.bad (by decide)
 split
 ·exact OpE.bad (by decide)
 split
 ·rename_i hf;exact OpE.bad hf
 obtain⟨k,n,s,ks⟩:=t
 show OpE ρ (zk0 S k s (ks.getD 0 nil0) (ks.getD 1 nil0) (indE S.look (ks.getD 0 nil0)) (zkR S k (ks.getD 1 nil0))) (zk0 S' k s (ks.getD 0 nil0) (ks.getD 1 nil0) (indE S'.look (ks.getD 0 nil0)) (zkR S' k (ks.getD 1 nil0)))
 have er:zkR S' k (ks.getD 1 nil0)=zkR S k (ks.getD 1 nil0):=by unfold zkR;rw[h.look]
 rw[er,h.look];unfold zk0
 split
 ·rename_i h1;exact OpE.bad h1
 ·unfold zmu
  split
  ·rename_i h1;exact OpE.bad h1
  ·rcases h.num (ks.getD 0 nil0).s with⟨h1,h2⟩|⟨c,d,h1,h2,h3⟩
   ·rw[h1,h2];exact OpE.good h
   ·rw[h1,h2];dsimp only;rw[h.cell c d h3]
    split
    ·exact zuT h _ _ _ _ h3 _
    ·exact OpE.bad (by decide)
theorem ztE(h:EqR ρ S S')(t:T):OpE ρ (zld S t) (zld S' t):=by
 obtain⟨k,n,s,ks⟩:=t;exact zu9 h _
theorem EqR.setCur(h:EqR ρ S S'){f g:FR}(hf:FrR ρ f g):EqR ρ (S.setCur f) (S'.setCur g):=by
 unfold ST.setCur;by_cases h0:S.calls.length=0
 ·rw[if_pos h0,if_pos (by rw[<-h.ncalls];exact h0)];exact⟨h.fn,h.inj,h.lt,h.cell,hf,h.ncalls,h.calls,h.tin,h.tout⟩
 ·rw[if_neg h0,if_neg (by rw[<-h.ncalls];exact h0)];refine⟨h.fn,h.inj,h.lt,h.cell,h.base,by simpa using h.ncalls,fun i x y hx hy=>?_,h.tin,h.tout⟩;simp only at hx hy;rw[<-h.ncalls]at hy;by_cases e:S.calls.length-1=i
  ·subst e;rw[List.getElem?_set_self (by omega)]at hx;rw[List.getElem?_set_self (by have:=h.ncalls;omega)]at hy;injection hx with hx;injection hy with hy;subst hx hy;exact hf
  ·rw[List.getElem?_set_ne e]at hx hy;exact h.calls i x y hx hy
theorem EqR.newCell(h:EqR ρ S S')(l:List Int):EqR (fun a b=>ρ a b\/(a=S.nc/\b=S'.nc)) (S.newCell l) (S'.newCell l):=by
 have hm:∀a b,ρ a b->ρ a b\/(a=S.nc/\b=S'.nc):=fun _ _=>.inl;refine⟨fun a b b' h1 h2=>?_,fun a a' b h1 h2=>?_,fun a b h1=>?_,fun a b h1=>?_,h.base.mono hm,h.ncalls,fun i x y hx hy=>(h.calls i x y hx hy).mono hm,h.tin,h.tout⟩
 ·rcases h1 with h1|⟨h1,h1'⟩<;>rcases h2 with h2|⟨h2,h2'⟩
  ·exact h.fn _ _ _ h1 h2
  ·have:=(h.lt _ _ h1).1;omega
  ·have:=(h.lt _ _ h2).1;omega
  ·omega
 ·rcases h1 with h1|⟨h1,h1'⟩<;>rcases h2 with h2|⟨h2,h2'⟩
  ·exact h.inj _ _ _ h1 h2
  ·have:=(h.lt _ _ h1).2;omega
  ·have:=(h.lt _ _ h2).2;omega
  ·omega
 ·simp only[ST.newCell];rcases h1 with h1|⟨h1,h1'⟩
  ·have:=h.lt _ _ h1;omega
  ·omega
 ·simp only[ST.newCell];rcases h1 with h1|⟨rfl,rfl⟩
  ·have:=h.lt _ _ h1;rw[if_neg (by omega),if_neg (by omega)];exact h.cell _ _ h1
  ·simp
theorem zub(h:EqR ρ S S')(v:VD)(x:Int):∃ρ',OpE ρ' (zlO S v x) (zlO S' v x):=by
 unfold zlO FR.at
 rw[<-h.cur.vs]
 split
 ·exact⟨ρ,OpE.bad (by decide)⟩
 ·split
  ·exact⟨ρ,OpE.bad (by decide)⟩
  ·refine⟨_,OpE.good ((h.newCell (if v.k=1 then [x]else [])).setCur ?_)⟩;unfold FR.push;rw[<-h.cur.loc];exact(h.cur.mono fun _ _=>.inl).snoc v (.inr ⟨rfl,rfl⟩) _ (by have:=h.cur.full;omega)
theorem ztc(h:EqR ρ S S')(s:ByteArray)(x:Int):OpE ρ (zk3 S s x) (zk3 S' s x):=by
 have hc:=h.cur;have e1:zqv S'.cur=zqv S.cur:=by unfold zqv;rw[hc.vs]
 unfold zk3;rw[e1,<-hc.loc]
 split
 ·exact OpE.bad (by decide)
 ·rename_i h1;have h2:S'.cell (zrt S'.cur)=S.cell (zrt S.cur):=by
   refine h.cell _ _ ?_;unfold zrt;rw[<-hc.vs];exact hc.getD (by have:=hc.full;omega)
  rw[h2]
  split
  ·exact OpE.bad (by decide)
  ·exact OpE.good (h.setCur hc.pop)
theorem zso{f g:FR}(h:FrR ρ f g):∀(l:List (VD×ByteArray)) (x y:FR),FrR ρ x y->x.loc=0->(∃e,e≠0/\entL f x l=.error e/\entL g y l=.error e)\/∃x' y',entL f x l=.ok x'/\entL g y l=.ok y'/\FrR ρ x' y'
 | [],x,y,hxy,h0=>.inr ⟨x,y,rfl,rfl,hxy⟩
 | (v,a)::r,x,y,hxy,h0=>by
  rw[entL,entL];unfold FR.at
  rw[<-h.vs]
  cases hl:zlo f.vs a f.vs.length with
  | none=>exact .inl ⟨6,by decide,rfl,rfl⟩
  | some i =>
   dsimp only
   split
   ·exact zso h r _ _ (hxy.snoc v (h.getD (zob hl)) 0 (Nat.zero_le _)) rfl
   ·exact .inl ⟨7,by decide,rfl,rfl⟩
theorem zta(h:EqR ρ S S')(ps:List VD)(ss:List ByteArray):OpE ρ (zlu S ps ss) (zlu S' ps ss):=by
 unfold zlu
 split
 ·exact OpE.bad (by decide)
 ·rcases zso h.cur (ps.zip ss) ⟨[],[],0⟩ ⟨[],[],0⟩ ⟨rfl,rfl,rfl,⟨rfl,zl⟩,fun i a b hx=>by simp at hx⟩ rfl with⟨e,h0,h1,h2⟩|⟨x,y,h1,h2,h3⟩
  ·rw[h1,h2];exact OpE.bad h0
  ·rw[h1,h2];unfold entR;dsimp only;rw[<-h.ncalls]
   split
   ·exact OpE.bad (by decide)
   ·refine OpE.good ⟨h.fn,h.inj,h.lt,h.cell,h.base,by simp[h.ncalls],fun i p q hp hq=>?_,h.tin,h.tout⟩;simp only at hp hq;rcases Nat.lt_or_ge i S.calls.length with hi|hi
    ·rw[List.getElem?_append_left hi]at hp;rw[List.getElem?_append_left (by rw[<-h.ncalls];exact hi)]at hq;exact h.calls i p q hp hq
    ·rw[List.getElem?_append_right hi]at hp;rw[List.getElem?_append_right (by rw[<-h.ncalls];exact hi),<-h.ncalls]at hq
     cases hj:i-S.calls.length with
     | zero =>
      rw[hj]at hp hq;simp only[List.getElem?_cons_zero,Option.some.injEq]at hp hq;subst hp hq;exact h3
     | succ j =>
      rw[hj]at hp;simp at hp
theorem zs1(h:EqR ρ S S'):OpE ρ (zlL S) (zlL S'):=by
 unfold zlL;rw[<-h.cur.loc,<-h.ncalls]
 split
 ·exact OpE.bad (by decide)
 ·refine OpE.good ⟨h.fn,h.inj,h.lt,h.cell,h.base,by simp[h.ncalls],fun i p q hp hq=>?_,h.tin,h.tout⟩;simp only at hp hq;rw[List.getElem?_take]at hp hq
  split at hp
  ·rename_i h1;rw[if_pos h1]at hq;exact h.calls i p q hp hq
  ·cases hp
theorem OpE.op{R R':Int×ST}(h:OpE ρ R R'):OpS True Eqv R R':=⟨fun h0=>⟨by rw[h.1];exact h0,ρ,h.2 h0⟩,fun _ _=>h.1⟩
end
theorem zzj(F:Int):SimR True F (fun _=>Eqv) where
 look:=fun n S S' ⟨ρ,h⟩=>h.look
 tick:=fun n S S' h=>h
 do_:=fun n S S' t _ ⟨ρ,h⟩=>(zu9 h t).op
 undo:=fun n S S' t _ ⟨ρ,h⟩=>(ztE h t).op
 open_:=fun n S S' v x _ ⟨ρ,h⟩=>by obtain⟨ρ',h'⟩:=zub h v x;exact h'.op
 close:=fun n S S' s x _ ⟨ρ,h⟩=>(ztc h s x).op
 enter:=fun n S S' ps ss _ ⟨ρ,h⟩=>(zta h ps ss).op
 leave:=fun n S S' _ ⟨ρ,h⟩=>(zs1 h).op
theorem FrR.symm{ρ:Nat->Nat->Prop}{f g:FR}(h:FrR ρ f g):FrR (fun a b=>ρ b a) g f:=⟨h.vs.symm,h.loc.symm,h.len.symm,by rw[<-h.vs,<-h.len,<-h.loc];exact h.full,fun i a b ha hb=>h.cs i b a hb ha⟩
theorem Eqv.symm{S S':ST}(h:Eqv S S'):Eqv S' S:=by
 obtain⟨ρ,h⟩:=h;exact⟨fun a b=>ρ b a,fun a b b' h1 h2=>h.inj _ _ _ h1 h2,fun a a' b h1 h2=>h.fn _ _ _ h1 h2,fun a b h1=>(h.lt _ _ h1).symm,fun a b h1=>(h.cell _ _ h1).symm,h.base.symm,h.ncalls.symm,fun i f g hf hg=>(h.calls i g f hg hf).symm,h.tin.symm,h.tout.symm⟩
theorem FrR.trans{ρ ρ':Nat->Nat->Prop}{f g k:FR}(h:FrR ρ f g)(h':FrR ρ' g k):FrR (fun a c=>∃b,ρ a b/\ρ' b c) f k :=
 ⟨h.vs.trans h'.vs,h.loc.trans h'.loc,h.len.trans h'.len,h.full,fun i a c ha hc=>by
  have hi:i<g.cs.length:=by rw[<-h.len];exact(List.getElem?_eq_some_iff.1 ha).1
  exact⟨_,h.cs i a _ ha (List.getElem?_eq_getElem hi),h'.cs i _ c (List.getElem?_eq_getElem hi) hc⟩⟩
theorem Eqv.trans{S S' S'':ST}(h:Eqv S S')(h':Eqv S' S''):Eqv S S'':=by
 obtain⟨ρ,h⟩:=h;obtain⟨ρ',h'⟩:=h';refine⟨fun a c=>∃b,ρ a b/\ρ' b c,?_,?_,?_,?_,h.base.trans h'.base,h.ncalls.trans h'.ncalls,fun i f k hf hk=>?_,h'.tin.trans h.tin,h'.tout.trans h.tout⟩
 ·rintro a c c' ⟨b,h1,h2⟩ ⟨b',h3,h4⟩;have:=h.fn _ _ _ h1 h3;subst this;exact h'.fn _ _ _ h2 h4
 ·rintro a a' c ⟨b,h1,h2⟩ ⟨b',h3,h4⟩;have:=h'.inj _ _ _ h2 h4;subst this;exact h.inj _ _ _ h1 h3
 ·rintro a c ⟨b,h1,h2⟩;exact⟨(h.lt _ _ h1).1,(h'.lt _ _ h2).2⟩
 ·rintro a c ⟨b,h1,h2⟩;exact(h'.cell _ _ h2).trans (h.cell _ _ h1)
 ·have hi:i<S'.calls.length:=by rw[<-h.ncalls];exact(List.getElem?_eq_some_iff.1 hf).1
  exact(h.calls i f _ hf (List.getElem?_eq_getElem hi)).trans (h'.calls i _ k (List.getElem?_eq_getElem hi) hk)
theorem FrR.map{ρ:Nat->Nat->Prop}{S S':ST}(h:EqR ρ S S')(n:Nat):(S'.base.cs.take n).map S'.cell=(S.base.cs.take n).map S.cell:=by
 refine List.ext_getElem? fun i=>?_;rw[List.getElem?_map,List.getElem?_map,List.getElem?_take,List.getElem?_take]
 split
 ·rcases Nat.lt_or_ge i S.base.cs.length with hi|hi
  ·have hi':i<S'.base.cs.length:=by rw[<-h.base.len];exact hi
   rw[List.getElem?_eq_getElem hi,List.getElem?_eq_getElem hi'];simp only[Option.map_some,Option.some.injEq];exact h.cell _ _ (h.base.cs i _ _ (List.getElem?_eq_getElem hi) (List.getElem?_eq_getElem hi'))
  ·rw[List.getElem?_eq_none hi,List.getElem?_eq_none (by rw[<-h.base.len];exact hi)];rfl
 ·rfl
theorem Eqv.state{S S':ST}(h:Eqv S S'):S'.state=S.state:=by
 obtain⟨ρ,h⟩:=h;unfold ST.state;rw[h.tin,h.tout,<-h.base.len,<-h.base.loc,FrR.map h]
section
variable {S:ST}
theorem zyj(h:S.WF){s:ByteArray}{id:Nat}(hn:S.num s=some id):id<S.nc:=by
 obtain⟨kd,hw⟩:=h.cur;unfold ST.num at hn;obtain⟨i,-,h2⟩:=Option.bind_eq_some_iff.1 hn;exact hw.num id (List.mem_of_getElem? h2)
theorem zwd(k x y:Int):I64 (updE k x y):=by
 unfold updE
 repeat' split
 all_goals first|exact zmP _|exact zq2 _
theorem zwP(h:S.WF)(k:Int){id:Nat}(i:Nat){af:Nat}(hid:id<S.nc)(hs:CurK S af 3):(zle S k id i af).2.WF:=by
 have df:=hs.lt h;have hc:=h.cells af df;unfold zle
 split
 ·split
  ·exact h
  ·refine zm8 (zvu h af hs _ (by simp;omega) fun x hx=>?_) hid i 0 zero_I64;rcases List.mem_append.1 hx with hx|hx
   ·exact hc.2 x hx
   ·obtain rfl:=List.mem_singleton.1 hx;exact zmw h hid i
 ·split
  ·exact h
  ·split
   ·exact h
   ·refine zvu (S:=S.put id i _) (zm8 h hid i _ (zmw h df _)) af hs _ (by rw[List.length_take];omega) fun x hx=>hc.2 x (List.mem_of_mem_take hx)
theorem zoh(h:S.WF)(l m:List Int)(h1:l.length<=4096/\∀x∈l,I64 x)(h2:m.length<=4096/\∀x∈m,I64 x):({ S with tin:=l,tout:=m }:ST).WF:=⟨h.ex,h.ncalls,h.cells,h1,h2⟩
theorem ztH(h:S.WF)(k:Int){id:Nat}(i:Nat)(hid:id<S.nc):(zkp S k id i).2.WF:=by
 unfold zkp;have h1:=h.tin;have h2:=h.tout
 split
 ·split
  ·exact h
  ·rename_i y r he
   split
   ·exact h
   ·rw[he]at h1;exact zm8 (S:={ S with tin:=r }) (zoh h r S.tout ⟨by have:=h1.1;simp at this;omega,fun x hx=>h1.2 x (List.mem_cons_of_mem _ hx)⟩ h2) hid i y (h1.2 y (List.mem_cons_self ..))
 ·split
  ·split
   ·exact h
   ·split
    ·exact h
    ·refine zm8 (S:={ S with tout:=S.tout.dropLast }) (zoh h S.tin S.tout.dropLast h1 ⟨by have:=h2.1;simp;omega,fun x hx=>h2.2 x (List.dropLast_subset _ hx)⟩) hid i _ ?_
     cases hl:S.tout.getLast? with
     | none=>exact zero_I64
     | some x=>exact h2.2 x (List.mem_of_getLast? hl)
  ·split
   ·split
    ·exact h
    ·refine zm8 (S:={ S with tin:=S.el id i::S.tin }) (zoh h _ S.tout ⟨by simp;omega,fun x hx=>?_⟩ h2) hid i 0 zero_I64;rcases List.mem_cons.1 hx with rfl|hx
     ·exact zmw h hid i
     ·exact h1.2 x hx
   ·split
    ·exact h
    ·refine zm8 (S:={ S with tout:=S.tout++[S.el id i] }) (zoh h S.tin _ h1 ⟨by simp;omega,fun x hx=>?_⟩) hid i 0 zero_I64;rcases List.mem_append.1 hx with hx|hx
     ·exact h2.2 x hx
     ·obtain rfl:=List.mem_singleton.1 hx;exact zmw h hid i
theorem zu7{t:T}(h:(doE S t).1=0):isS t=true/\t.k≠56/\basB t.k=true/\fltE S.cur.vs t=0/\doE S t=zn5 S t:=by
 unfold doE at h ⊢
 split at h
 ·cases h
 rename_i h1
 split at h
 ·cases h
 rename_i h2
 split at h
 ·cases h
 rename_i h3
 split at h
 ·rename_i h4;exact absurd h h4
 rename_i h4;rw[if_neg h1,if_neg h2,if_neg h3,if_neg h4];exact⟨by simpa using h1,h2,by simpa using h3,by simpa using h4,rfl⟩
theorem ztM(h:S.WF){k n:Int}{s:ByteArray}{ks:List T}(hf:fltE S.cur.vs (.nd k n s ks)=0)(hk:k=44\/k=45):∃af,S.num s=some af/\CurK S af 3:=by
 have hn:zn3 k=3:=by rcases hk with rfl|rfl<;>rfl
 obtain⟨u,h4,h5⟩:=zn8 (znO hf).1 (by rw[hn];decide);obtain⟨af,h6,h7⟩:=zr5 h h4;exact⟨af,h6,by rw[h5,hn]at h7;exact h7⟩
theorem zKo(h:S.WF)(t:T):(doE S t).2.WF:=by
 unfold doE
 split
 ·exact h
 split
 ·exact h
 split
 ·exact h
 split
 ·exact h
 rename_i h1 h2 h3 h4;have hf:fltE S.cur.vs t=0:=by simpa using h4
 obtain⟨k,n,s,ks⟩:=t
 show(zk0 S k s (ks.getD 0 nil0) (ks.getD 1 nil0) (indE S.look (ks.getD 0 nil0)) (zkR S k (ks.getD 1 nil0))).2.WF
 unfold zk0
 split
 ·exact h
 unfold zmu
 split
 ·exact h
 cases h5:S.num (ks.getD 0 nil0).s with
 | none=>exact h
 | some id =>
  have hid:=zyj h h5;dsimp only
  split
  ·unfold zkw
   split
   ·exact zm8 h hid _ _ (zwd _ _ _)
   ·split
    ·cases h6:S.num (ks.getD 1 nil0).s with
     | none=>exact h
     | some jd =>
      have hjd:=zyj h h6;dsimp only
      split
      ·exact zm8 (zm8 h hid _ _ (zmw h hjd _)) hjd _ _ (zmw h hid _)
      ·exact h
    ·split
     ·rename_i hk;obtain⟨af,h6,h7⟩:=ztM h hf hk;rw[h6];exact zwP h _ _ hid h7
     ·exact ztH h _ _ hid
  ·exact h
end
section
variable {o:Out} {f:RS->Out} {r r':RS} {F:Int} {t:T}
end
structure RInv(r:RS):Prop where
 wf:r.S.WF
 fb:FB r.n r.S
 n:r.n<=1000000
structure Keep(r r':RS):Prop where
 base:r'.S.base=r.S.base
 calls:r'.S.calls=r.S.calls
 nc:r.S.nc<=r'.S.nc
section
variable {r r1 r':RS} {F:Int}
theorem zm0{S:ST}(t:T):(doE S t).2.base=S.base/\(doE S t).2.calls=S.calls/\(doE S t).2.nc=S.nc:=by
 obtain⟨h1,h2,h3⟩:=zu8 S t;exact⟨h1,h2,h3⟩
end
theorem zp4:∀(vs:List VD) (ls:List (List Int)),(∀i (h:i<vs.length) (h':i<ls.length),fit1 vs[i] ls[i]=true)->zlA vs ls=true
 | [],_,_=>by simp[zlA]
 | _::_,[],_=>by simp[zlA]
 | v::vs,l::ls,h=>by
  rw[zlA,Bool.and_eq_true];exact⟨h 0 (by simp) (by simp),zp4 vs ls fun i hi hi'=>h (i+1) (by simpa using hi) (by simpa using hi')⟩
section
variable {vs:List VD} {s:SS} {r':RS} {e:List Nat}
theorem zqI(hk:Keep ⟨newS vs s,0,e⟩ r'):r'.S.state.cells=(List.range vs.length).map r'.S.cell:=by
 unfold ST.state;rw[hk.base];simp[newS]
theorem zuX(hk:Keep ⟨newS vs s,0,e⟩ r'):Eqv r'.S (newS vs r'.S.state):=by
 have hn:=hk.nc;have hs:=zqI hk;refine⟨fun a b=>a=b/\a<vs.length,⟨by rintro a b b' ⟨rfl,_⟩ ⟨rfl,_⟩;rfl,by rintro a a' b ⟨rfl,_⟩ ⟨rfl,_⟩;rfl,?_,?_,?_,?_,?_,rfl,rfl⟩⟩
 ·rintro a b ⟨rfl,h⟩;exact⟨Nat.lt_of_lt_of_le h hn,h⟩
 ·rintro a b ⟨rfl,h⟩
  show(r'.S.state.cells).getD a []=_
  rw[hs,List.getD_eq_getElem?_getD,List.getElem?_map,List.getElem?_range h];rfl
 ·rw[hk.base];refine⟨rfl,rfl,rfl,⟨by simp[newS],by simp[newS]⟩,fun i a b ha hb=>?_⟩;have ha':(List.range vs.length)[i]?=some a:=ha;have hb':(List.range vs.length)[i]?=some b:=hb;rw[ha']at hb';injection hb' with hb';exact⟨hb',List.mem_range.1 (List.mem_of_getElem? ha')⟩
 ·rw[hk.calls];rfl
 ·intro i f g hf;rw[hk.calls]at hf;simp[newS]at hf
theorem zzl(h0:fitB vs s=true)(hw:r'.S.WF)(hk:Keep ⟨newS vs s,0,e⟩ r'):fitB vs r'.S.state=true:=by
 have hs:=zqI hk;obtain⟨kd,hb,-,hc⟩:=hw.ex;have hsv:svB vs=true:=by
  unfold fitB at h0;simp only[Bool.and_eq_true]at h0;exact h0.1.1.1.1
 unfold fitB;simp only[Bool.and_eq_true,decide_eq_true_eq];refine⟨⟨⟨⟨hsv,by rw[hs];simp⟩,hw.tin.1⟩,hw.tout.1⟩,zp4 _ _ fun i hi hi'=>?_⟩;have hbase:r'.S.base=⟨vs,List.range vs.length,0⟩:=hk.base;rw[hbase]at hb;have hki:=hb.kind i hi (by simpa using hi);simp only[List.getElem_range]at hki;have hii:=hb.num i (List.mem_range.2 hi);have hci:=hc i hii;have rW:=(hw.cells i hii).1;have e1:r'.S.state.cells[i]=r'.S.cell i:=by
  have:r'.S.state.cells[i]?=some (r'.S.cell i):=by rw[hs,List.getElem?_map,List.getElem?_range hi];rfl
  exact(List.getElem?_eq_some_iff.1 this).2
 rw[e1];rw[hki]at hci;simp only at hci;unfold fit1 fixE;by_cases h3:vs[i].k=3
 ·rw[if_pos h3];simpa using rW
 ·rw[if_neg h3];by_cases h1:vs[i].k=1
  ·rw[if_pos h1];have:=hci.1 h1;simp[this]
  ·rw[if_neg h1];have h2:vs[i].k=2:=by omega
   have:=hci.2.1 h2;simpa using this
end
def gE(vs:List VD)(t:T)(s:SS):Option SS:=if (asgE vs t s).1=0 then some (asgE vs t s).2 else none
theorem zuQ{vs:List VD}{x:SS}{i a:Nat}{v:Int}(h:fitB vs x=true):fitB vs (putC x i a v)=true:=by
 obtain⟨h1,h2,h3,h4,h5⟩:=zmZ h;have hall:=(zlI h).2.2.2.2;unfold fitB;simp only[Bool.and_eq_true,decide_eq_true_eq];refine⟨⟨⟨⟨h1,by simp[putC,h2]⟩,h3⟩,h4⟩,zp4 _ _ fun j hj hj'=>?_⟩;have hj2:j<x.cells.length:=by omega
 have hf:=(hall j hj hj2).2;have hl:((putC x i a v).cells[j]).length=(x.cells[j]).length:=by
  show((x.cells.set i ((x.cells.getD i []).set a v))[j]'(by simpa using hj2)).length=_
  rw[List.getElem_set]
  split
  ·rename_i e;subst e;simp[List.getD_eq_getElem?_getD,List.getElem?_eq_getElem hj2]
  ·rfl
 unfold fit1 at hf ⊢;rw[hl];exact hf
theorem zu4{vs:List VD}{s:SS}{t:T}(h0:fitB vs s=true)(hf:∀v∈vs,FldV v)(hI:s.I):fitB vs (doE (newS vs s) t).2.state=true:=by
 have hw:=zpT h0 hf hI.1 hI.2.1 hI.2.2 vs.length zl;rw[List.take_of_length_le zl]at hw;obtain⟨f1,f2,f3⟩:=zm0 (S:=newS vs s) t;exact zzl (e:=[]) (r':=⟨(doE (newS vs s) t).2,0,[]⟩) h0 (zKo hw t) ⟨f1,f2,Nat.le_of_eq f3.symm⟩
theorem zvq{vs:List VD}{s:SS}{t:T}(hf:∀v∈vs,FldV v)(hI:s.I)(h:(asgE vs t s).1=0):fitB vs (asgE vs t s).2=true:=by
 unfold asgE at h ⊢
 split at h
 ·simp at h
 rename_i h1;rw[if_neg h1];have h0:fitB vs s=true:=by
  rcases hb:fitB vs s with _|_
  ·exact absurd (.inl hb) h1
  ·rfl
 split at h
 ·rename_i h2;rw[if_pos h2];obtain⟨k,n,nm,ks⟩:=t;unfold setE at h ⊢;simp only at h ⊢
  split at h
  ·rename_i h3;exact absurd h h3
  ·rename_i h3;rw[if_neg h3]
   split
   ·exact zu4 h0 hf hI
   ·exact zuQ (zu4 h0 hf hI)
 ·rename_i h2;rw[if_neg h2]
  split at h
  ·rename_i h3;exact absurd h h3
  ·rename_i h3;rw[if_neg h3];exact zu4 h0 hf hI
theorem zKq{vs:List VD}{s:SS}{t:T}(hf:∀v∈vs,FldV v)(hI:s.I):cdE vs t s=gE vs t s:=by
 unfold cdE gE;by_cases h:(asgE vs t s).1=0
 ·rw[if_pos ⟨h,zvq hf hI h⟩,if_pos h]
 ·rw[if_neg fun h'=>h h'.1,if_neg h]
theorem znX{f g:SS->Option SS}:∀(l pre:List SS),(∀x∈pre++l,f x=g x)->zmj f pre l=zmj g pre l
 | [],_,_=>rfl
 | s::l,pre,h=>by
  have hs:=h s (by simp);have ih:=znX l (pre++[s]) (by simpa using h);rw[zmj,zmj,hs]
  cases hx:g s with
  | none=>exact ih
  | some x =>
   have hh:∀q∈pre,hitE f x q=hitE g x q:=fun q hq=>by unfold hitE;rw[h q (by simp[hq])]
   have hp:pre.find? (hitE f x)=pre.find? (hitE g x):=by
    clear ih h hs
    induction pre with
    | nil=>rfl
    | cons a p ihp =>
     rw[List.find?_cons,List.find?_cons,hh a (by simp),ihp fun q hq=>hh q (by simp[hq])]
   simp only[hp,ih]
end
end Go.Proofs.YtghbhbdnkjjnnaaGreat
