/-
  Texts of the proof, put together without their remarks: En6, En7, En8, Rfg, Bkv, Rfx, Asg, Eno, Rpa, Apn, Apq, Rst, Rpc, Rpd, Els, Rpe.
-/
import Derived.Test.YtembgnhbpmfhpaaGreatY5
import Derived.Sort.CutIn
set_option linter.unusedSimpArgs false
set_option linter.unusedVariables false
set_option maxHeartbeats 8000000
set_option maxRecDepth 100000
namespace Go.Proofs.YtembgnhbpmfhpaaGreat
open Tryz
section
open Go Go.RowKit
section
variable {Z:DK} {n:Nat} {W W':World} {p:List (List Int)} {q:List Int} {m f:Nat->Nat}
theorem zp0{p:List (List Int)}{q:List Int}{j:Nat}(hj:j<(p++[q]).length):(j<p.length/\∃h:j<p.length,(p++[q])[j]=p[j])\/(j=p.length/\(p++[q])[j]=q):=by
 by_cases h:j<p.length
 ·exact .inl ⟨h,h,List.getElem_append_left h⟩
 ·have:j=p.length:=by simp at hj;omega
  subst this;exact .inr ⟨rfl,by simp⟩
theorem RowQ.pop{q':List Int}(h:RowQ Z n W (p++[q']) m f)(hq:q <+: q'):RowQ Z n W (p++[q]) m f:=by
 have hl:(p++[q']).length=(p++[q]).length:=by simp
 refine⟨by rw[<-hl];exact h.row,fun j hj=>?_,fun j hj=>h.ne j (by rw[hl];exact hj),fun i j hi hj=>h.inj i j (by rw[hl];exact hi) (by rw[hl];exact hj),fun x hx e he=>?_⟩
 ·obtain⟨vs,h1,h2,h3,h4⟩:=h.el j (by rw[hl];exact hj);rcases zp0 hj with⟨hjp,_,e⟩|⟨rfl,e⟩
  ·have e2:(p++[q'])[j]'(by rw[hl];exact hj)=p[j]:=List.getElem_append_left hjp;simp only[e,e2]at h3 h4 ⊢;exact⟨vs,h1,h2,h3,h4⟩
  ·have e2:(p++[q'])[p.length]'(by simp)=q':=by simp
   simp only[e,e2]at h3 h4 ⊢;exact⟨vs,h1,h2,Nat.le_trans hq.length_le h3,fun i hi=>by rw[h4 i (Nat.lt_of_lt_of_le hi hq.length_le)];congr 2;exact(hq.getElem hi).symm⟩
 ·rcases List.mem_append.1 hx with hx|hx
  ·exact h.fits x (List.mem_append.2 (.inl hx)) e he
  ·obtain rfl:=List.mem_singleton.1 hx;exact h.fits q' (by simp) e (hq.subset he)
theorem RowQ.dropL(h:RowQ Z n W (p++[q]) m f):RowQ Z n W p m f:=by
 obtain⟨us,h1,h2,h3⟩:=h.row;refine⟨⟨us,h1,h2,fun j hj=>h3 j (by simp;omega)⟩,fun j hj=>?_,fun j hj=>h.ne j (by simp;omega),fun i j hi hj=>h.inj i j (by simp;omega) (by simp;omega),fun x hx=>h.fits x (List.mem_append.2 (.inl hx))⟩;obtain⟨vs,h1,h2,h3⟩:=h.el j (by simp;omega);simp only[List.getElem_append_left hj]at h3;exact⟨vs,h1,h2,h3⟩
theorem RowQ.put{x:Int}(h:RowQ Z n W (p++[q]) m f)(hm:q.length<m p.length)(hx:I64 x)(hc:Chg (fun b=>b=f p.length) W W')
  (hk:∀vs,W.heap[f p.length]?=some (.cells vs 3 (0,0))->W'.heap[f p.length]?=some (.cells (vs.setIfInBounds q.length (.int .i64 x)) 3 (0,0))):RowQ Z n W' (p++[q++[x]]) m f:=by
 have hl:(p++[q++[x]]).length=(p++[q]).length:=by simp
 have hpl:p.length<(p++[q]).length:=by simp
 obtain⟨us,h1,h2,h3⟩:=h.row;refine⟨⟨us,hc.keep h1 fun e=>h.ne _ hpl e.symm,h2,by rw[hl];exact h3⟩,fun j hj=>?_,fun j hj=>h.ne j (by rw[<-hl];exact hj),fun i j hi hj=>h.inj i j (by rw[<-hl];exact hi) (by rw[<-hl];exact hj),fun y hy e he=>?_⟩
 ·obtain⟨vs,v1,v2,v3,v4⟩:=h.el j (by rw[<-hl];exact hj);rcases zp0 hj with⟨hjp,_,e⟩|⟨rfl,e⟩
  ·have e2:(p++[q])[j]'(by rw[<-hl];exact hj)=p[j]:=List.getElem_append_left hjp;simp only[e,e2]at v3 v4 ⊢;exact⟨vs,hc.keep v1 fun e=>by have:=h.inj _ _ (by rw[<-hl];exact hj) hpl e;omega,v2,v3,v4⟩
  ·have e2:(p++[q])[p.length]'(by simp)=q:=by simp
   simp only[e,e2]at v3 v4 ⊢;refine⟨_,hk vs v1,by simpa using v2,by rw[List.length_append];simp;omega,fun i hi=>?_⟩;by_cases hiq:i=q.length
   ·subst hiq;rw[Array.getElem?_setIfInBounds_self_of_lt (by omega)];simp
   ·have hi2:i<q.length:=by simp at hi;omega
    rw[Array.getElem?_setIfInBounds_ne (by omega),List.getElem_append_left hi2];exact v4 i hi2
 ·rcases List.mem_append.1 hy with hy|hy
  ·exact h.fits y (List.mem_append.2 (.inl hy)) e he
  ·obtain rfl:=List.mem_singleton.1 hy;rcases List.mem_append.1 he with he|he
   ·exact h.fits q (by simp) e he
   ·obtain rfl:=List.mem_singleton.1 he;exact hx
end
theorem zyB(q:List Int)(x:Int)(z:List (List Int)):hdA q (hdC x z)=hdA (q++[x]) z:=by
 cases z with
 | nil=>rfl
 | cons l ls=>simp[hdA,hdC]
theorem zyA(q:List Int)(ls:List (List Int))(p:List (List Int)):p++hdA q ([]::ls)=(p++[q])++ls:=by simp[hdA]
theorem zwj{J Jx:List SS->(Nat->Prop)->World->Prop}{Z:DK}{bs rs:List Bn}{h:Nat}{B:Nat->Prop}{tot:List SS}(hb:DB bs h)(hL:zxn J Jx Z bs h B tot rs):NumC J Jx Z bs h B tot rs 0:=by
 intro p q m f pre C W left hrs hpl hJ hD hQ hS hm hm2 hmk hleft hpre;have hx:(numE h rs (zkT h rs) 0 left).map (fun z=>stOf (p++hdA q z))=(zkT h rs left).map fun ls=>stOf ((p++[q])++ls):=by
  simp only[numE,List.map_map,Function.comp_def,zyA]
 rw[hx]at hpre ⊢;have hlen:(p++[q]).length=p.length+1:=by simp
 have hC:=hL (p++[q]) m f pre C W left (by rw[hlen];exact hrs) (by rw[hlen];exact hpl) hJ hD hQ (by rw[hlen];exact hS) (fun j hj=>by
  rcases zp0 hj with⟨hjp,_,e⟩|⟨rfl,e⟩
  ·rw[e];exact hm j hjp
  ·rw[e];omega) (fun j hj=>hm2 j (by rw[<-hlen];exact hj)) hleft hpre
 rw[hlen]at hC;have HC:=zh hC;obtain⟨us,hu,dS,hur⟩:=hQ.row;have x0:W.cell? ⟨Z.lb,0,none⟩=some (.slice (some ⟨Z.rb,0,none⟩) bs.length bs.length):=zc hD.lists rfl;have x1:W.cell? ⟨Z.rb,p.length,none⟩=some (.slice (some ⟨f p.length,0,none⟩) (m p.length) (m p.length)):=zc hu (hur _ (by simp));have x2:W.cell? ⟨Z.sb,0,none⟩=some (.func (.func 129) #[] Z.cap1):=zc hD.slf rfl;rw[hmk,Nat.add_zero]at x1;have hbn:=hb.n;obtain⟨n,hn⟩:=zX (bs.length);rw[hn]at x0 hpl hbn;obtain⟨c,hc⟩:=zX (p.length);rw[hc]at x1 hpl ⊢;have hp1:(c:Int)<(n:Int):=by omega
 have hwc:IntKind.i64.wrap ((c:Int)+1)=((c+1:Nat):Int):=IntWalk.i64_in _ (by omega);have HN:=zh hn;have bg:=zh hc;obtain⟨R,hR⟩:=zX (ztb J Jx Z bs.length (fun b=>b=Z.rb) pre ((zkT h rs left).map fun ls=>stOf (p++[q]++ls)) (p++[q]) m f C W);have HR:=zh (show ∀e w',R e w'->ztb J Jx Z bs.length (fun b=>b=Z.rb\/b=f c) pre ((zkT h rs left).map fun ls=>stOf (p++[q]++ls)) (p++[q]) m f C W e w'/\∃b,e=.returned (.bool b)from fun e w' hr=>by
  rw[<-hR]at hr;rcases hr with⟨rfl,C',h1,h2,h3,h4⟩|⟨rfl,pre',C',h1,h2⟩
  ·exact⟨.inl ⟨rfl,C',h1,h2,h3.mono fun b _ h=>h.imp id .inl,h4⟩,_,rfl⟩
  ·exact⟨.inr ⟨rfl,pre',C',h1,h2.mono fun b _ h=>h.imp id .inl⟩,_,rfl⟩)
 rw[hR,hc]at HC;rw[HN.out]at HR ⊢;clear hJ hD hQ hS hpre hu hur dS hrs hm hm2 hmk hleft hx hb hL hlen hC hn hc hR;go_enter func130,ntmps130;go_wp2_with fail;refine HC.out.mono ?_;rintro e w2 hr;obtain⟨h1,b,rfl⟩:=HR.out e w2 hr;have H1:=zh h1;clear h1 hr;go_wp2_with fail;go_ret;exact H1.out
theorem zov{α β:Type}(F:α->List β)(g:Nat->α){j n:Nat}(hj:j<n):(List.range j).flatMap (fun i=>F (g i))++F (g j) <+: (List.range n).flatMap (fun i=>F (g i)):=by
 have e:(List.range j).flatMap (fun i=>F (g i))++F (g j)=(List.range (j+1)).flatMap (fun i=>F (g i)):=by rw[List.range_succ,List.flatMap_append];simp
 rw[e];obtain⟨d,rfl⟩:∃d,n=(j+1)+d:=⟨n-(j+1),by omega⟩
 rw[List.range_add (n:=j+1) (m:=d),List.flatMap_append];exact List.prefix_append _ _
theorem zoi{β:Type}(F:Int->List β)(lo hi:Int):(ranE lo hi).flatMap F=(List.range (hi-lo+1).toNat).flatMap fun(i:Nat)=>F (lo+(i:Int)):=by
 unfold ranE;rw[List.flatMap_map]
theorem zvS{r:Int}(h0:0<=r)(h1:r<=1000000):I64 (unrk r):=by
 have:=zty (v:=500000) h0 (by omega);unfold I64;omega
theorem zwk{J Jx:List SS->(Nat->Prop)->World->Prop}{Z:DK}{bs rs:List Bn}{h nf:Nat}{B:Nat->Prop}{tot:List SS}(hj:JC J Jx nf Z.l tot)(hb:DB bs h){k:Nat}(hN:NumC J Jx Z bs h B tot rs k):NumC J Jx Z bs h B tot rs (k+1):=by
 intro p q m f pre C W left hrs hpl hJ hD hQ hS hm hm2 hmk hleft hpre;obtain⟨us,hu,dS,hur⟩:=hQ.row;have hwb:=ztv (bs:=rs) (h:=h) (by rw[<-hrs];exact zsy hb.b _) (by rw[<-hrs,List.length_drop];have:=hb.n;omega) hb.hm;have x0:W.cell? ⟨Z.lb,0,none⟩=some (.slice (some ⟨Z.rb,0,none⟩) bs.length bs.length):=zc hD.lists rfl;have x1:W.cell? ⟨Z.rb,p.length,none⟩=some (.slice (some ⟨f p.length,0,none⟩) (m p.length) (m p.length)):=zc hu (hur _ (by simp));have x2:W.cell? ⟨Z.hb,0,none⟩=some (.int .i64 (h:Int)):=zc hD.hv rfl;have x3:W.cell? ⟨Z.tb,0,none⟩=some (.slice (some ⟨Z.tr,0,none⟩) (bs.length+1) Z.tc):=zc hD.rest rfl;obtain⟨x4,x5⟩:=hD.rst (p.length+1) hpl;rw[hrs]at x4 x5;have hM:m p.length<=1000:=hm2 p.length (by omega);have hbn:=hb.n;have u6:=hb.hm;have kD:=hb.h1;obtain⟨n,hn⟩:=zX (bs.length);obtain⟨c,hc⟩:=zX (p.length);obtain⟨i,hi⟩:=zX (q.length);obtain⟨M,wO⟩:=zX (m p.length)
 obtain⟨F,hF⟩:=zX (f p.length);obtain⟨w0,hw0⟩:=zX (wlo rs);obtain⟨w1,hw1⟩:=zX (whi h rs);have hmk2:=hmk;rw[wO,hi]at hmk;rw[wO]at hM;rw[hw0,hw1]at hwb;rw[hn]at x0 x3 hpl hbn;rw[wO,hF,hc]at x1;rw[hc,hw0]at x4;rw[hc,hw1]at x5;rw[hc]at hpl;obtain⟨lo,hlo⟩:=zX (max 0 (left-1-(k:Int)*(h:Int)-w1));obtain⟨hi',hhi⟩:=zX (min ((h:Int)-1) (left-1-(k:Int)-(w0:Int)));have hkh:(0:Int)<=(k:Int)*(h:Int)/\(k:Int)*(h:Int)<=1000*10000:=⟨Int.mul_nonneg (by omega) (by omega),Int.mul_le_mul (by omega) (by omega) (by omega) (by omega)⟩
 have hlo0:0<=lo:=by omega
 have hlo1:lo<=100000000000:=by omega
 have hhi1:hi'<=10000:=by omega
 have hhi2 : -100000000000<=hi':=by omega
 obtain⟨G,hG⟩:∃G:Int->List SS,G=fun r=>(numE h rs (zkT h rs) k (left-1-r)).map fun z=>stOf (p++hdA (q++[unrk r]) z):=⟨_,rfl⟩
 have hX:(numE h rs (zkT h rs) (k+1) left).map (fun z=>stOf (p++hdA q z))=(List.range (hi'-lo+1).toNat).flatMap fun(j:Nat)=>G (lo+(j:Int)):=by
  rw[<-zoi,numE,List.map_flatMap,hw0,hw1,hlo,hhi,hG];simp only[List.map_map,Function.comp_def,zyB]
 rw[hX]at hpre ⊢;obtain⟨T,hT⟩:∃T:Nat,(hi'-lo+1).toNat=T:=⟨_,rfl⟩
 rw[hT]at hpre ⊢;have HJ:=zh hj;have rH:=zh hJ;have HD:=zh hD;have HQ:=zh hQ;have HS:=zh hS;have gH:=zh hpre;have HN:=zh hN;have HM:=zh hm;have qx:=zh hm2;have BF:=zh hmk2;have iD:=zh hrs;have xg:=zh (show p.length+1<=bs.length by rw[hc,hn];exact hpl);have HG:=zh hG;have nJ:=zh (show bs.length=n/\p.length=c/\q.length=i/\m p.length=M/\f p.length=F from⟨hn,hc,hi,wO,hF⟩);rw[hn,hF,hc,hi];clear hj hJ hD hQ hS hpre hu hur dS hrs hm hm2 hmk2 hX hb hN hn hc hi wO hF hw0 hw1 hG;have hp1:(c:Int)<(n:Int):=by omega
 have hp2:(0:Int)<=(c:Int)+1:=by omega
 have hp3:(c:Int)+1<(n:Int)+1:=by omega
 have hwc:IntKind.i64.wrap ((c:Int)+1)=(c:Int)+1:=IntWalk.i64_in _ (by omega);have hne:((i:Int)==(M:Int))=false:=by simp;omega
 have e1:IntKind.i64.wrap ((M:Int)-1)=(M:Int)-1:=IntWalk.i64_in _ (by omega);have e2:IntKind.i64.wrap ((M:Int)-1-(i:Int))=(k:Int):=by rw[show(M:Int)-1-(i:Int)=(k:Int) by omega];exact IntWalk.i64_in _ (by omega)
 have yH:=zh hmk;clear hmk;go_enter func130,ntmps130;go_upto_region 4 with fail;have e3:IntKind.i64.wrap (left-1)=left-1:=IntWalk.i64_in _ (by omega);have e4:IntKind.i64.wrap ((k:Int)*(h:Int))=(k:Int)*(h:Int):=IntWalk.i64_in _ (by omega);have e5:IntKind.i64.wrap (left-1-(k:Int)*(h:Int))=left-1-(k:Int)*(h:Int):=IntWalk.i64_in _ (by omega);have e6:IntKind.i64.wrap (left-1-(k:Int)*(h:Int)-w1)=left-1-(k:Int)*(h:Int)-w1:=IntWalk.i64_in _ (by omega)
 go_region
 have hbd:=(zs W).drew;obtain⟨wA,oN⟩:=zX (W.drew);rw[oN]at hbd ⊢
 replace x0:=zb hbd x0
 replace x1:=zb hbd x1
 replace x2:=zb hbd x2
 replace x3:=zb hbd x3
 replace x4:=zb hbd x4
 clear oN x5 e4 e5 e6;go_upto_region 5 with fail;have e4:IntKind.i64.wrap ((h:Int)-1)=(h:Int)-1:=IntWalk.i64_in _ (by omega);have e5:IntKind.i64.wrap (left-1-(k:Int))=left-1-(k:Int):=IntWalk.i64_in _ (by omega);have e6:IntKind.i64.wrap (left-1-(k:Int)-(w0:Int))=left-1-(k:Int)-(w0:Int):=IntWalk.i64_in _ (by omega)
 go_region
 have jr:=hbd.trans (Below.refl W.heap.size wA |>.mono zl |>.drew);obtain⟨wB,vZ⟩:=zX (wA.drew);rw[vZ]at jr ⊢;have gM:=zh jr;clear vZ x0 x1 x2 x3 x4 e4 e5 e6 hbd jr hwc e1 e2 e3 hp2 hp3;have e1:IntKind.i64.wrap (hi'-lo)=hi'-lo:=IntWalk.i64_in _ (by omega);have e2:IntKind.i64.wrap (hi'-lo+1)=hi'-lo+1:=IntWalk.i64_in _ (by omega);go_wp2_with fail
 go_loopw [68] (fun iv wr=>∃(j:Nat) (C':Nat->Prop),j<=T/\iv=.int .i64 j/\Hid (J (pre++(List.range j).flatMap fun(i:Nat)=>G (lo+(i:Int))) C' wr/\(∀b,C' b->C b\/W.heap.size<=b)/\Chg (fun b=>C b\/b=Z.rb\/b=F) W wr/\RowQ Z bs.length wr (p++[q]) m f)) (fun iv _=>T-(intOf iv).toNat)
 case atStart=>exact⟨0,C,Nat.zero_le _,rfl,zh ⟨by rw[List.range_zero,List.flatMap_nil,List.append_nil];exact HJ.out.keep _ _ _ _ rH.out (Chg.of_below gM.out),fun b h=>.inl h,Chg.of_below gM.out,HQ.out.chg (Chg.of_below (C:=fun _=>False) gM.out) id fun _ _=>id⟩⟩
 case round =>
  obtain⟨j,C',hjT,rfl,HI⟩:=hrel;by_cases hlt:j<T
  ·obtain⟨i1,i2,i3,i4⟩:=HI.out;have hDn:∀b,B b->¬ (C b\/b=Z.rb\/b=F):=fun b hb h=>by
    rcases h with h|rfl|rfl
    ·exact HS.out.b _ hb h
    ·exact HS.out.br hb
    ·have:=nJ.out.2.2.2.2;subst this;exact HS.out.bf _ (Nat.lt_succ_self _) hb
   have hD2:=HD.out.chg i3 hDn;have hS2:=SepQ.grow (p:=p++[q]) (by rw[show(p++[q]).length=p.length+1 by simp];exact HS.out) HD.out HQ.out i2;obtain⟨us,hu,dS,hur⟩:=i4.row;obtain⟨vs,hv,hvs,hv3,hv4⟩:=i4.el p.length (by simp);obtain⟨g1,g2,g3,g4,g5⟩:=nJ.out;rw[g4]at hvs;rw[g5]at hv;have x0:wr.cell? ⟨Z.lb,0,none⟩=some (.slice (some ⟨Z.rb,0,none⟩) n n):=by rw[<-g1];exact zc hD2.lists rfl
   have x1:wr.cell? ⟨Z.rb,c,none⟩=some (.slice (some ⟨F,0,none⟩) M M):=by have h:=hur p.length (by simp);rw[g4,g5]at h;rw[<-g2];exact zc hu h
   obtain⟨z,hz⟩:∃z,vs[i]?=some z:=⟨_,Array.getElem?_eq_getElem (by have:=yH.out;omega)⟩
   have x2:wr.cell? ⟨F,i,none⟩=some z:=zc hv hz;have cf:∀o,wr.frozen? ⟨F,o,none⟩=false:=fun o=>zf hv;obtain⟨r,hr⟩:=zX (lo+(j:Int));have hr0:0<=r/\r<=10000:=by omega
   have hwr:IntKind.i64.wrap (lo+(j:Int))=r:=by rw[hr];exact IntWalk.i64_in _ (by omega)
   obtain⟨x,hx⟩:=zX (unrk r);have rY:I64 x:=by rw[<-hx];exact zvS hr0.1 (by omega)
   have HU:=zh (fun w'=>hx▸zs7 r w' (by omega));have hj1:(j:Int)<hi'-lo+1:=by omega
   have hi0:(0:Int)<=(i:Int):=by omega
   have hiM:(i:Int)<(M:Int):=by have:=yH.out;omega
   obtain⟨w5,ig,bQ,jm⟩:=setU (o:=i) (.int .i64 x) hv;have hD5:=hD2.chg bQ.drew fun b hb (e:b=F)=>by rw[<-g5]at e;rw[e]at hb;exact HS.out.bf _ (Nat.lt_succ_self _) hb
   have u7:RowQ Z bs.length w5.drew (p++[q++[x]]) m f:=i4.put (by rw[g3,g4];have:=yH.out;omega) rY (by rw[g5];exact bQ.drew) (fun vs' h'=>by
    rw[g5]at h' ⊢;rw[g3];rw[hv]at h';injection h' with h';injection h' with h';subst h';exact jm)
   have wP:=HJ.out.keep _ _ _ _ i1 (bQ.drew.mono fun b _ (e:b=F) hb=>by rw[<-g5]at e;rw[e]at hb;exact hS2.fc p.length (by simp) hb);have hin:(pre++(List.range j).flatMap fun(i:Nat)=>G (lo+(i:Int)))++G r <+: tot:=by
    refine List.IsPrefix.trans ?_ gH.out;rw[List.append_assoc,<-hr];exact(List.prefix_append_right_inj pre).2 (zov (F:=G) (g:=fun(i:Nat)=>lo+(i:Int)) hlt)
   have tT:G r=(numE h rs (zkT h rs) k (left-1-r)).map fun z=>stOf (p++hdA (q++[x]) z):=by rw[HG.out,<-hx]
   have hcall:=HN.out p (q++[x]) m f _ C' w5.drew (left-1-r) iD.out xg.out wP hD5 u7 (by rw[show(p++[q]).length=p.length+1 by simp]at hS2;exact hS2) HM.out qx.out (by rw[BF.out,List.length_append];simp;omega) (by omega) (by rw[<-tT];exact hin);rw[<-tT]at hcall;have hlq:(q++[x]).length=i+1:=by rw[List.length_append,g3];rfl
   rw[hlq,g5,g2]at hcall;have nM:=zh hcall;have y0:w5.drew.cell? ⟨Z.nb,0,none⟩=some (.func (.func 130) #[] Z.cap2):=zc hD5.num rfl;have hwi:IntKind.i64.wrap ((i:Int)+1)=((i+1:Nat):Int):=IntWalk.i64_in _ (by have:=yH.out;omega);have hwl0:IntKind.i64.wrap (left-1)=left-1:=IntWalk.i64_in _ (by omega);have hwl:IntKind.i64.wrap (left-1-lo)=left-1-lo:=IntWalk.i64_in _ (by omega);have hwl2:IntKind.i64.wrap (left-1-lo-(j:Int))=left-1-r:=by rw[show left-1-lo-(j:Int)=left-1-r by omega];exact IntWalk.i64_in _ (by omega)
   have hwj:IntKind.i64.wrap ((j:Int)+1)=(j:Int)+1:=IntWalk.i64_in _ (by omega);have hstep:(List.range (j+1)).flatMap (fun(i:Nat)=>G (lo+(i:Int)))=((List.range j).flatMap fun(i:Nat)=>G (lo+(i:Int)))++G r:=by rw[List.range_succ,List.flatMap_append,<-hr];simp
   have HST:=zh hstep;have bS:=zh (show Chg (fun b=>C b\/b=Z.rb\/b=F) W w5.drew/\W.heap.size<=w5.drew.heap.size from⟨i3.trans2 bQ.drew fun b _ e=>.inr (.inr e),Nat.le_trans i3.size bQ.drew.size⟩);have HR:=zh hr;have HX:=zh hx;have HX64:=zh rY;have HD2:=zh hD2;have HS2:=zh hS2;have Bh:=zh (And.intro hv hvs);have gY:=zh bQ;have yK:=zh jm;clear i1 i2 i3 i4 hDn hD2 hS2 hu dS hur hv hvs hv3 hv4 g1 g2 g3 g4 g5 hz hr hx rY bQ jm hD5 u7 wP hin tT hcall hlq hstep;go_upto_region 9 with fail
   go_region_with (refine(HU.out _).mono ?_;rintro e w9 ⟨rfl,rfl⟩)
   all_goals
    clear x0 x1 x2 cf ig;go_wp2_with fail;refine nM.out.mono ?_;rintro e w6 (⟨rfl,C6,j6,c6,h6,q6⟩|⟨rfl,pre6,C6,j6,h6⟩)
    ·have kT:=zh (show J (pre++(List.range (j+1)).flatMap fun(i:Nat)=>G (lo+(i:Int))) C6 w6/\(∀b,C6 b->C b\/W.heap.size<=b)/\Chg (fun b=>C b\/b=Z.rb\/b=F) W w6/\RowQ Z bs.length w6 (p++[q]) m f from
      ⟨by rw[HST.out,<-List.append_assoc];exact j6,fun b hb=>(c6 b hb).elim (HI.out.2.1 b) fun h=>.inr (Nat.le_trans bS.out.2 h),bS.out.1.trans2 h6 fun b hb h=>h.elim (fun h=>(HI.out.2.1 b h).elim .inl fun h=>by omega) .inr,q6.pop (List.prefix_append _ _)⟩)
     clear j6 c6 h6 q6 y0;go_wp2_with fail
     go_roundw
     case rel=>exact⟨j+1,C6,by omega,by go_num,kT⟩
     case measure=>simp[intOf];omega
    ·have kT:=zh (show Jx pre6 C6 w6/\Chg (fun b=>C b\/b=Z.rb\/b=F) W w6 from⟨j6,bS.out.1.trans2 h6 fun b hb h=>h.elim (fun h=>(HI.out.2.1 b h).elim .inl fun h=>by omega) .inr⟩);clear j6 h6 y0;go_wp2_with fail;go_ret;exact .inr ⟨rfl,pre6,C6,kT.out.1,kT.out.2⟩
  ·obtain rfl:j=T:=by omega
   have hj1:¬ (j:Int)<hi'-lo+1:=by omega
   go_wp2_with fail;go_ret;obtain⟨i1,i2,i3,i4⟩:=HI.out;have:=nJ.out.1;rw[this]at i4;exact .inl ⟨rfl,C',i1,i2,i3,i4⟩
section
variable {Z:DK} {n:Nat} {W W':World} {p:List (List Int)} {m f m' f':Nat->Nat}
theorem RowQ.congr(h:RowQ Z n W p m' f')(he:∀j,j<p.length->m' j=m j/\f' j=f j):RowQ Z n W p m f:=by
 obtain⟨us,h1,h2,h3⟩:=h.row;refine⟨⟨us,h1,h2,fun j hj=>by rw[h3 j hj,(he j hj).1,(he j hj).2]⟩,fun j hj=>?_,fun j hj=>by rw[<-(he j hj).2];exact h.ne j hj,fun i j hi hj e=>h.inj i j hi hj (by rw[(he i hi).2,(he j hj).2];exact e),h.fits⟩;have:=h.el j hj;rwa[(he j hj).1,(he j hj).2]at this
theorem RowQ.new{M:Nat}{W1 W2:World}(h:RowQ Z n W p m f)(hp:p.length<n)(h1:W1=W.alloc (.cells (madeCells #[.int .i64 0] M) 3))(hc:Chg (fun b=>b=Z.rb) W1 W2)
  (hk:∀us,W1.heap[Z.rb]?=some (.cells us 30 (0,0))->W2.heap[Z.rb]?=some (.cells (us.setIfInBounds p.length (.slice (some ⟨W.heap.size,0,none⟩) M M)) 30 (0,0))) :
  RowQ Z n W2 (p++[[]]) (fun j=>if j=p.length then M else m j) (fun j=>if j=p.length then W.heap.size else f j):=by
 have hb:Below W.heap.size W W1:=by rw[h1];exact zka zr _
 have hn:W1.heap[W.heap.size]?=some (.cells (madeCells #[.int .i64 0] M) 3 (0,0)):=by rw[h1];exact heap_alloc_new W _
 obtain⟨us,u1,u2,u3⟩:=h.row;have hl:=h.lt;have hlen:(p++[[]]).length=p.length+1:=by simp
 refine⟨⟨_,hk us (zkc u1 hb),by simpa using u2,fun j hj=>?_⟩,fun j hj=>?_,fun j hj=>?_,fun i j hi hj e=>?_,fun x hx e he=>?_⟩
 ·by_cases e:j=p.length
  ·subst e;simp only[if_true];rw[Array.getElem?_setIfInBounds_self_of_lt (by omega)]
  ·simp only[e,if_false];rw[Array.getElem?_setIfInBounds_ne (by omega)];exact u3 j (by omega)
 ·rcases zp0 hj with⟨hjp,_,e⟩|⟨rfl,e⟩
  ·have hne:j≠p.length:=by omega
   simp only[e,hne,if_false];obtain⟨vs,v1,v2⟩:=h.el j hjp;exact⟨vs,hc.keep (zkc v1 hb) (h.ne j hjp),v2⟩
  ·simp only[e,if_true];exact⟨_,hc.keep hn fun e=>by have e:W.heap.size=Z.rb:=e;omega,by rw[size_madeCells],Nat.zero_le _,fun i hi=>absurd hi (Nat.not_lt_zero i)⟩
 ·by_cases e:j=p.length
  ·simp only[e,if_true];omega
  ·simp only[e,if_false];exact h.ne j (by omega)
 ·split at e<;>split at e
  ·omega
  ·have:=hl.2 j (by omega);omega
  ·have:=hl.2 i (by omega);omega
  ·exact h.inj i j (by omega) (by omega) e
 ·rcases List.mem_append.1 hx with hx|hx
  ·exact h.fits x hx e he
  ·obtain rfl:=List.mem_singleton.1 hx;cases he
end
theorem zue{J Jx:List SS->(Nat->Prop)->World->Prop}{Z:DK}{bs rs:List Bn}{h nf:Nat}{B:Nat->Prop}{tot:List SS}{p:List (List Int)}{m f:Nat->Nat}{pre:List SS}{C:Nat->Prop}{W:World}{left:Int}{n c l0 l1 w0 T:Nat}{w1 Q lo hi':Int}{a:Addr}{G:Int->List SS}
  (x0:W.cell? ⟨Z.lb,0,none⟩=some (.slice (some ⟨Z.rb,0,none⟩) n n))(x2:W.cell? ⟨Z.hb,0,none⟩=some (.int .i64 (h:Int)))(x3:W.cell? ⟨Z.tb,0,none⟩=some (.slice (some ⟨Z.tr,0,none⟩) (n+1) Z.tc))(x1:W.cell? ⟨Z.bb,0,none⟩=some (.slice (some a) n Z.c))
  (x4:W.cell? ⟨Z.tr,(c+1)*2,none⟩=some (.int .i64 (w0:Int)))(x5:W.cell? ⟨Z.tr,(c+1)*2+1,none⟩=some (.int .i64 w1))(x6:W.cell? (a.add (c*2))=some (.int .i64 (l0:Int)))(x7:W.cell? ⟨(a.add (c*2)).block,(a.add (c*2)).off+1,none⟩=some (.int .i64 (l1:Int)))
  (hwb:w0<=1000000/\0<=w1/\w1<=10000000000)(hbb:l0<=1000/\l1<=1000)(hbn:n<=100)(u6:h<=10000)(kD:1<=h)(hcn:c<n)(hleft:0<=left/\left<=100000000000)
  (wN:(left-w1+(h:Int)-1).tdiv (h:Int)=Q)(wM : -100000010000<=Q/\Q<=100000010000)(hlo:max (l0:Int) Q=lo)(hhi:min (l1:Int) (left-(w0:Int))=hi')(hlo0:0<=lo)(hlo1:lo<=100000010000)(hhi1:hi'<=1000)(hhi2 : -100000000000<=hi')(hT:(hi'-lo+1).toNat=T)
  (HJ:Hid (JC J Jx nf Z.l tot))(rH:Hid (J pre C W))(HD:Hid (DW Z bs h B W))(HQ:Hid (RowQ Z bs.length W p m f))(HS:Hid (SepQ Z B p.length f C))(gH:Hid ((pre++(List.range T).flatMap fun(j:Nat)=>G (lo+(j:Int))) <+: tot))(HN:Hid (∀k,NumC J Jx Z bs h B tot rs k))
  (HM:Hid (∀j (hj:j<p.length),m j=p[j].length))(qx:Hid (∀j,j<p.length->m j<=1000))(iD:Hid (bs.drop (p.length+1)=rs))(HG:Hid (G=fun r=>(numE h rs (zkT h rs) r.toNat left).map fun z=>stOf (p++hdA [] z)))(nJ:Hid (bs.length=n/\p.length=c/\p.length+1<=bs.length)) :
  Calls prog 129 (#[.int .i64 (c:Int),.int .i64 left]++Z.cap1) W (ztb J Jx Z n (fun b=>b=Z.rb) pre ((List.range T).flatMap fun(j:Nat)=>G (lo+(j:Int))) p m f C W):=by
 have hp1:(c:Int)<(n:Int):=by omega
 have hp2:(0:Int)<=(c:Int)+1:=by omega
 have hp3:(c:Int)+1<(n:Int)+1:=by omega
 have hwc:IntKind.i64.wrap ((c:Int)+1)=(c:Int)+1:=IntWalk.i64_in _ (by omega);have hne:((c:Int)==(n:Int))=false:=by simp;omega
 have hh0:¬ (h:Int)=0:=by omega
 have e3:IntKind.i64.wrap (left-w1)=left-w1:=IntWalk.i64_in _ (by omega);have e4:IntKind.i64.wrap (left-w1+(h:Int))=left-w1+(h:Int):=IntWalk.i64_in _ (by omega);have e5:IntKind.i64.wrap (left-w1+(h:Int)-1)=left-w1+(h:Int)-1:=IntWalk.i64_in _ (by omega);have e6:IntKind.i64.wrap Q=Q:=IntWalk.i64_in _ (by omega);have rR:=zh (And.intro hwb (And.intro hbb (And.intro hlo0 (And.intro hlo1 (And.intro hhi1 (And.intro hhi2 (And.intro wM (And.intro hleft (And.intro hbn (And.intro u6 (And.intro kD hcn)))))))))));have HHI:=zh hhi;have HTT:=zh hT;clear hwb hbb hlo0 hlo1 hhi1 hhi2 wM hleft hbn u6 kD hcn hhi hT;go_enter func129,ntmps129;go_upto_region 4 with fail
 go_region
 have hbd:=(zs W).drew;obtain⟨wA,oN⟩:=zX (W.drew);rw[oN]at hbd ⊢
 replace x0:=zb hbd x0
 replace x1:=zb hbd x1
 replace x3:=zb hbd x3
 replace x4:=zb hbd x4
 replace x7:=zb hbd x7
 clear oN x2 x5 x6 e3 e4 e5 e6 hlo wN;have hhi:=HHI.out;have e4:IntKind.i64.wrap (left-(w0:Int))=left-(w0:Int):=IntWalk.i64_in _ (by have:=rR.out;omega);go_upto_region 5 with fail
 go_region
 have jr:=hbd.trans (Below.refl W.heap.size wA |>.mono zl |>.drew);obtain⟨wB,vZ⟩:=zX (wA.drew);rw[vZ]at jr ⊢;have gM:=zh jr;clear vZ x0 x1 x3 x4 x7 e4 hbd jr hwc hp2 hp3;clear hhi;obtain⟨hwb,hbb,hlo0,hlo1,hhi1,hhi2,wM,hleft,hbn,u6,kD,hcn⟩:=rR.out;have hT:=HTT.out;have e1:IntKind.i64.wrap (hi'-lo)=hi'-lo:=IntWalk.i64_in _ (by omega);have e2:IntKind.i64.wrap (hi'-lo+1)=hi'-lo+1:=IntWalk.i64_in _ (by omega);go_wp2_with fail
 go_loopw [72] (fun iv wr=>∃(j:Nat) (C':Nat->Prop),j<=T/\iv=.int .i64 j/\Hid (J (pre++(List.range j).flatMap fun(i:Nat)=>G (lo+(i:Int))) C' wr/\(∀b,C' b->C b\/W.heap.size<=b)/\Chg (fun b=>C b\/b=Z.rb) W wr/\RowQ Z bs.length wr p m f)) (fun iv _=>T-(intOf iv).toNat)
 case atStart=>exact⟨0,C,Nat.zero_le _,rfl,zh ⟨by rw[List.range_zero,List.flatMap_nil,List.append_nil];exact HJ.out.keep _ _ _ _ rH.out (Chg.of_below gM.out),fun b h=>.inl h,Chg.of_below gM.out,HQ.out.chg (Chg.of_below (C:=fun _=>False) gM.out) id fun _ _=>id⟩⟩
 case round =>
  obtain⟨j,C',hjT,rfl,HI⟩:=hrel;by_cases hlt:j<T
  ·obtain⟨i1,i2,i3,i4⟩:=HI.out;have hDn:∀b,B b->¬ (C b\/b=Z.rb):=fun b hb h=>by
    rcases h with h|rfl
    ·exact HS.out.b _ hb h
    ·exact HS.out.br hb
   have hD2:=HD.out.chg i3 hDn;have hS2:=SepQ.grow HS.out HD.out HQ.out i2;obtain⟨us,hu,dS,hur⟩:=i4.row;obtain⟨g1,g2,g4⟩:=nJ.out;have x0:wr.cell? ⟨Z.lb,0,none⟩=some (.slice (some ⟨Z.rb,0,none⟩) n n):=by rw[<-g1];exact zc hD2.lists rfl
   obtain⟨M,hM⟩:∃M:Nat,lo+(j:Int)=(M:Int):=⟨(lo+(j:Int)).toNat,by omega⟩
   have hM1:M<=1000:=by omega
   have hwr:IntKind.i64.wrap (M:Int)=(M:Int):=IntWalk.i64_in _ (by omega);have hmk:=bMkI M (by omega) wr.drew;have hj1:(j:Int)<hi'-lo+1:=by omega
   have aU:Below wr.heap.size wr (wr.drew.alloc (.cells (madeCells #[.int .i64 0] M) 3)):=zka (zs wr).drew _;obtain⟨w9,dw⟩:=zX (wr.drew.alloc (.cells (madeCells #[.int .i64 0] M) 3));rw[dw]at aU hmk;have wo:=zkc hu aU;obtain⟨g,hg⟩:=zX (wr.drew.heap.size);rw[hg]at hmk;obtain⟨w5,ig,bQ,jm⟩:=setU (o:=c) (.slice (some ⟨g,0,none⟩) M M) wo;obtain⟨z,hz⟩:∃z,us[c]?=some z:=⟨_,Array.getElem?_eq_getElem (by omega)⟩
   have x2:w9.cell? ⟨Z.rb,c,none⟩=some z:=zc wo hz;have cf:∀o,w9.frozen? ⟨Z.rb,o,none⟩=false:=fun o=>zf wo;have hD5:=(hD2.chg (Chg.of_below aU (C:=fun _=>False)) fun _ _=>id).chg bQ fun b hb (e:b=Z.rb)=>by rw[e]at hb;exact HS.out.br hb
   have u7:=RowQ.new (W:=wr.drew) (M:=M) (W2:=w5) (i4.chg (Chg.of_below (zs wr).drew (C:=fun _=>False)) id fun _ _=>id) (by omega) dw.symm bQ (fun us' h'=>by
    rw[wo]at h';injection h' with h';injection h' with h';subst h';rw[hg,g2];exact jm)
   rw[hg]at u7;have wP:=HJ.out.keep _ _ _ _ i1 (((Chg.of_below aU).trans (bQ.mono fun b _ (e:b=Z.rb) hb=>by rw[e]at hb;exact hS2.r hb):Chg (fun b=>¬ C' b) wr w5));have hgw:g=wr.heap.size:=hg.symm;have vz:∀b,C' b->b<g:=fun b hb=>by rw[hgw];exact HJ.out.lt _ _ _ i1 b hb
   have hBg:∀b,B b->b<g:=fun b hb=>by rw[hgw];exact hD2.lt b hb
   have hS5:SepQ Z B (p.length+1) (fun j=>if j=p.length then g else f j) C':=⟨hS2.b,hS2.r,fun j hj=>by
    by_cases e:j=p.length
    ·simp only[e,if_true];intro h;have:=vz _ h;omega
    ·simp only[e,if_false];exact hS2.fc j (by omega),hS2.br,fun j hj=>by
    by_cases e:j=p.length
    ·simp only[e,if_true];intro h;have:=hBg _ h;omega
    ·simp only[e,if_false];exact hS2.bf j (by omega)⟩
   have hin:(pre++(List.range j).flatMap fun(i:Nat)=>G (lo+(i:Int)))++G M <+: tot:=by
    refine List.IsPrefix.trans ?_ gH.out;rw[List.append_assoc,<-hM];exact(List.prefix_append_right_inj pre).2 (zov (F:=G) (g:=fun(i:Nat)=>lo+(i:Int)) hlt)
   have tT:G M=(numE h rs (zkT h rs) M left).map fun z=>stOf (p++hdA [] z):=by rw[HG.out];simp
   have hcall:=HN.out M p [] _ _ _ C' w5 left iD.out g4 wP hD5 u7 hS5 (fun j hj=>by simp only[Nat.ne_of_lt hj,if_false];exact HM.out j hj) (fun j hj=>by
    by_cases e:j=p.length
    ·simp only[e,if_true];omega
    ·simp only[e,if_false];exact qx.out j (by omega)) (by simp) hleft (by rw[<-tT];exact hin)
   rw[<-tT]at hcall;simp only[if_true,List.length_nil]at hcall;rw[g2]at hcall;have nM:=zh hcall;have y0:w5.cell? ⟨Z.nb,0,none⟩=some (.func (.func 130) #[] Z.cap2):=zc hD5.num rfl;have y1:w5.cell? ⟨Z.lb,0,none⟩=some (.slice (some ⟨Z.rb,0,none⟩) n n):=by rw[<-g1];exact zc hD5.lists rfl
   have hwj:IntKind.i64.wrap ((j:Int)+1)=(j:Int)+1:=IntWalk.i64_in _ (by omega);have hstep:(List.range (j+1)).flatMap (fun(i:Nat)=>G (lo+(i:Int)))=((List.range j).flatMap fun(i:Nat)=>G (lo+(i:Int)))++G M:=by rw[List.range_succ,List.flatMap_append,<-hM];simp
   have HST:=zh hstep;have bS:=zh (show Chg (fun b=>C b\/b=Z.rb) W w5/\W.heap.size<=w5.heap.size/\W.heap.size<=g from⟨(i3.trans2 (Chg.of_below aU (C:=fun _=>False)) fun b _ h=>h.elim).trans2 bQ fun b _ e=>.inr e,Nat.le_trans i3.size (Nat.le_trans aU.size bQ.size),by rw[hgw];exact i3.size⟩);have z9:w9.cell? ⟨Z.lb,0,none⟩=some (.slice (some ⟨Z.rb,0,none⟩) n n):=zb aU x0;have hj0:(0:Int)<=(c:Int):=by omega
   clear i1 i2 i3 i4 hDn hD2 hS2 hu dS hur g1 g2 g4 hz wo aU bQ jm hD5 u7 wP hgw vz hBg hS5 hin tT hcall hstep dw hg;go_upto_region 9 with fail;have hS0:zW (fun w':World=>zv w' Z.lb 0 (.slice (some ⟨Z.rb,0,none⟩) n n)) zU wr.drew:=⟨x0,trivial⟩
   refine wp_region_noPanic ?_;refine zG hS0 7 ?_;refine zT 0 hS0 ?_;refine zT 1 hS0 ?_;refine zT 2 hS0 ?_;refine zT 3 hS0 ?_;refine zT 4 hS0 ?_;refine zo 5 fun K hK=>?_;(try simp only[zA,zB,zC]);go_simp;refine hK.out _ _ ⟨z9,trivial⟩ ?_;clear hK K hS0 hmk;(try simp only[zQ]);refine zo 6 fun K hK=>?_;(try simp only[zA,zB,zC]);go_simp;refine hK.out _ _ ⟨z9,trivial⟩ ?_;clear hK K;(try simp only[zQ]);refine zp 7 fun K hK=>?_;(try simp only[zA,zB,zC]);go_simp;refine hK.out _ _ y1 ?_;clear hK K;(try simp only[zQ]);refine zd ?_;refine NoPanic.normal ?_;clear x0 x2 cf ig z9 y1;go_wp2_with fail;refine nM.out.mono ?_;rintro e w6 (⟨rfl,C6,j6,c6,h6,q6⟩|⟨rfl,pre6,C6,j6,h6⟩)
   ·have kT:=zh (show J (pre++(List.range (j+1)).flatMap fun(i:Nat)=>G (lo+(i:Int))) C6 w6/\(∀b,C6 b->C b\/W.heap.size<=b)/\Chg (fun b=>C b\/b=Z.rb) W w6/\RowQ Z bs.length w6 p m f from
     ⟨by rw[HST.out,<-List.append_assoc];exact j6,fun b hb=>(c6 b hb).elim (HI.out.2.1 b) fun h=>.inr (Nat.le_trans bS.out.2.1 h),bS.out.1.trans2 h6 fun b hb h=>by
      rcases h with h|h|h
      ·exact(HI.out.2.1 b h).elim .inl fun h=>by omega
      ·exact .inr h
      ·have:=bS.out.2.2;have h:b=g:=h;omega,q6.dropL.congr fun j hj=>by
       have hj':j≠c:=by have:=nJ.out.2.1;omega
       exact⟨if_neg hj',if_neg hj'⟩⟩)
    clear j6 c6 h6 q6 y0;go_wp2_with fail
    go_roundw
    case rel=>exact⟨j+1,C6,by omega,by go_num,kT⟩
    case measure=>simp[intOf];omega
   ·have kT:=zh (show Jx pre6 C6 w6/\Chg (fun b=>C b\/b=Z.rb) W w6 from⟨j6,bS.out.1.trans2 h6 fun b hb h=>by
      rcases h with h|h|h
      ·exact(HI.out.2.1 b h).elim .inl fun h=>by omega
      ·exact .inr h
      ·have:=bS.out.2.2;have h:b=g:=h;omega⟩)
    clear j6 h6 y0;go_wp2_with fail;go_ret;exact .inr ⟨rfl,pre6,C6,kT.out.1,kT.out.2⟩
  ·obtain rfl:j=T:=by omega
   have hj1:¬ (j:Int)<hi'-lo+1:=by omega
   go_wp2_with fail;go_ret;obtain⟨i1,i2,i3,i4⟩:=HI.out;have:=nJ.out.1;rw[this]at i4;exact .inl ⟨rfl,C',i1,i2,i3,i4⟩
theorem zuf{J Jx:List SS->(Nat->Prop)->World->Prop}{Z:DK}{bs rs:List Bn}{b0:Bn}{h nf:Nat}{B:Nat->Prop}{tot:List SS}(hj:JC J Jx nf Z.l tot)(hb:DB bs h)(hN:∀k,NumC J Jx Z bs h B tot rs k):zxn J Jx Z bs h B tot (b0::rs):=by
 intro p m f pre C W left hrs hpl hJ hD hQ hS hm hm2 hleft hpre;have lY:p.length<bs.length:=by have:=congrArg List.length hrs;rw[List.length_drop]at this;simp at this;omega
 have oU:bs.drop (p.length+1)=rs:=by rw[<-List.drop_drop,hrs];rfl
 have hb0:bs[p.length]=b0:=by have:=List.drop_eq_getElem_cons lY;rw[hrs]at this;injection this with h1 _;exact h1.symm
 have hwb:=ztv (bs:=rs) (h:=h) (by rw[<-oU];exact zsy hb.b _) (by rw[<-oU,List.length_drop];have:=hb.n;omega) hb.hm;have hbb:=hb.b b0 (by rw[<-hb0];exact List.getElem_mem lY);have x0:W.cell? ⟨Z.lb,0,none⟩=some (.slice (some ⟨Z.rb,0,none⟩) bs.length bs.length):=zc hD.lists rfl;have x2:W.cell? ⟨Z.hb,0,none⟩=some (.int .i64 (h:Int)):=zc hD.hv rfl;have x3:W.cell? ⟨Z.tb,0,none⟩=some (.slice (some ⟨Z.tr,0,none⟩) (bs.length+1) Z.tc):=zc hD.rest rfl;have x1:W.cell? ⟨Z.bb,0,none⟩=some (.slice Z.A bs.length Z.c):=zc hD.ls rfl;obtain⟨x4,x5⟩:=hD.rst (p.length+1) lY;obtain⟨a,hA,-,x6,x7⟩:=hD.row p.length lY;rw[hA]at x1;rw[hb0]at x6 x7;rw[oU]at x4 x5;obtain⟨l0,l1⟩:=b0;simp only at hbb x6 x7;have hbn:=hb.n;have u6:=hb.hm;have kD:=hb.h1;obtain⟨n,hn⟩:=zX (bs.length);obtain⟨c,hc⟩:=zX (p.length);obtain⟨w0,hw0⟩:=zX (wlo rs);obtain⟨w1,hw1⟩:=zX (whi h rs);rw[hw0,hw1]at hwb
 rw[hn]at x0 x1 x3 hbn;rw[hc,hw0]at x4;rw[hc,hw1]at x5;rw[hc]at x6 x7;have hcn:c<n:=by omega
 obtain⟨Q,wN⟩:=zX ((left-w1+(h:Int)-1).tdiv (h:Int));have wM : -100000010000<=Q/\Q<=100000010000:=by
  have h1:=Int.natAbs_tdiv_le_natAbs (left-w1+(h:Int)-1) (h:Int);rw[wN]at h1;omega
 obtain⟨lo,hlo⟩:=zX (max (l0:Int) Q);obtain⟨hi',hhi⟩:=zX (min (l1:Int) (left-(w0:Int)));have hlo0:0<=lo:=by omega
 have hlo1:lo<=100000010000:=by omega
 have hhi1:hi'<=1000:=by omega
 have hhi2 : -100000000000<=hi':=by omega
 obtain⟨G,hG⟩:∃G:Int->List SS,G=fun r=>(numE h rs (zkT h rs) r.toNat left).map fun z=>stOf (p++hdA [] z):=⟨_,rfl⟩
 have hX:(zkT h ((l0,l1)::rs) left).map (fun ls=>stOf (p++ls))=(List.range (hi'-lo+1).toNat).flatMap fun(j:Nat)=>G (lo+(j:Int)):=by
  have e:∀z:List (List Int),hdA [] z=z:=fun z=>by cases z<;>rfl
  rw[<-zoi,zkT,List.map_flatMap,hw0,hw1,wN,hlo,hhi,hG];simp only[e]
 rw[hX]at hpre ⊢;obtain⟨T,hT⟩:∃T:Nat,(hi'-lo+1).toNat=T:=⟨_,rfl⟩
 rw[hT]at hpre ⊢;have HJ:=zh hj;have rH:=zh hJ;have HD:=zh hD;have HQ:=zh hQ;have HS:=zh hS;have gH:=zh hpre;have HN:=zh hN;have HM:=zh hm;have qx:=zh hm2;have iD:=zh oU;have HG:=zh hG;have nJ:=zh (show bs.length=n/\p.length=c/\p.length+1<=bs.length from⟨hn,hc,lY⟩);rw[hn,hc];exact zue x0 x2 x3 x1 x4 x5 x6 x7 hwb hbb hbn u6 kD hcn hleft wN wM hlo hhi hlo0 hlo1 hhi1 hhi2 hT HJ rH HD HQ HS gH HN HM qx iD HG nJ
theorem zsc{J Jx:List SS->(Nat->Prop)->World->Prop}{Z:DK}{bs:List Bn}{h nf:Nat}{B:Nat->Prop}{tot:List SS}(hj:JC J Jx nf Z.l tot)(hb:DB bs h)(hl:∀W,DW Z bs h B W->Z.l<W.heap.size):∀rs,zxn J Jx Z bs h B tot rs
 | []=>zwr hj hb hl
 | b::rs=>zuf hj hb fun k=>by
  induction k with
  | zero=>exact zwj hb (zsc hj hb hl rs)
  | succ k ih=>exact zwk hj hb ih
theorem zyf:(prog.info? 30).map (fun i=>(i.zero,i.size,i.bytes))=some (some (.slice none 0 0),1,24):=by kernel_rfl
theorem zKM(n:Nat)(hn:n<=4096)(w:World):(Instr.makeSlice 29 (.int .i64 (n:Int)) (.int .i64 (n:Int))).run prog w=.ok (.slice (some ⟨w.heap.size,0,none⟩) n n) (w.alloc (.cells (madeCells #[.slice none 0 0] n) 30)):=by
 obtain⟨i,hi,h1,h2,h3⟩:=info_parts zyf;have:=zll (P:=prog) 29 30 i (.slice none 0 0) underlying29 hi h1 .i64 .i64 n n zl (by rw[h3];omega) (by omega) w;rw[h2,Nat.mul_one]at this;exact this
theorem zmT{w:World}{n:Nat}(hn:w.heap.size=n)(o:Obj):(w.alloc o).heap[n]?=some o:=by rw[<-hn];exact World.alloc_heap_new w o
theorem al8(W:World)(o0 o1 o2 o3 o4 o5 o6 o7:Obj) :
  Below W.heap.size W ((((((((W.alloc o0).alloc o1).alloc o2).alloc o3).alloc o4).alloc o5).alloc o6).alloc o7)/\((((((((W.alloc o0).alloc o1).alloc o2).alloc o3).alloc o4).alloc o5).alloc o6).alloc o7).heap.size=W.heap.size+8 /\
  ∀k,k<8->((((((((W.alloc o0).alloc o1).alloc o2).alloc o3).alloc o4).alloc o5).alloc o6).alloc o7).heap[W.heap.size+k]?=[o0,o1,o2,o3,o4,o5,o6,o7][k]?:=by
 refine⟨zka (zka (zka (zka (zka (zka (zka (zka zr _) _) _) _) _) _) _) _,by simp,fun k hk=>?_⟩;have h:k=0\/k=1\/k=2\/k=3\/k=4\/k=5\/k=6\/k=7:=by omega
 rcases h with rfl|rfl|rfl|rfl|rfl|rfl|rfl|rfl
 ·exact zkf (zkf (zkf (zkf (zkf (zkf (zkf (zmT rfl _) _) _) _) _) _) _) _
 ·exact zkf (zkf (zkf (zkf (zkf (zkf (zmT (by simp) _) _) _) _) _) _) _
 ·exact zkf (zkf (zkf (zkf (zkf (zmT (by simp) _) _) _) _) _) _
 ·exact zkf (zkf (zkf (zkf (zmT (by simp) _) _) _) _) _
 ·exact zkf (zkf (zkf (zmT (by simp) _) _) _) _
 ·exact zkf (zkf (zmT (by simp) _) _) _
 ·exact zkf (zmT (by simp) _) _
 ·exact zmT (by simp) _
theorem zoL{J Jx:List SS->(Nat->Prop)->World->Prop}{bs:List Bn}{h nf l tr c ct:Nat}{A:Option Addr}{R:Nat->Prop}{tot pre:List SS}{C:Nat->Prop}{W:World}{weight:Int}(hj:JC J Jx nf l tot)(hb:DB bs h)(hl:l<W.heap.size)
  (hJ:J pre C W)(hrb:RowB W R A bs)(hrt:zqS W tr h bs)(hR:∀b,R b->¬ C b)(htr:¬ C tr)(htl:tr<W.heap.size)(hw:0<=weight/\weight<=100000000000)(hpre:(pre++(zkT h bs weight).map stOf) <+: tot) :
  Calls prog 95 #[.slice A bs.length c,.slice (some ⟨tr,0,none⟩) (bs.length+1) ct,.int .i64 (h:Int),.int .i64 weight,.func (.yield l) #[] #[]] W fun e W' =>
   ∃b,e=.returned (.bool b)/\((b=true/\∃C',J (pre++(zkT h bs weight).map stOf) C' W'/\(∀b,C' b->C b\/W.heap.size<=b)/\Chg C W W')\/(b=false/\∃pre' C',Jx pre' C' W'/\Chg C W W')):=by
 have hmk:=zKM bs.length (by have:=hb.n;omega);have h8:=fun o0 o1 o2 o3 o4 o5 o6 o7=>al8 W o0 o1 o2 o3 o4 o5 o6 o7;obtain⟨N,hN⟩:=zX (W.heap.size);have H8:=zh (show ∀W',W'=((((((((W.alloc (.cells #[.slice A bs.length c] 98)).alloc (.cells #[.slice (some ⟨tr,0,none⟩) (bs.length+1) ct] 98)).alloc (.cells #[.int .i64 (h:Int)] 3)).alloc (.cells #[.func (.yield l) #[] #[]] 35)).alloc (.cells (madeCells #[.slice none 0 0] bs.length) 30)).alloc (.cells #[.slice (some ⟨N+1+1+1+1,0,none⟩) bs.length bs.length] 29)).alloc (.cells #[.func (.func 129) #[] (DK.cap1 ⟨l,N+1+1+1+1+1,N+1+1+1,N,N+1,N+1+1,N+1+1+1+1+1+1+1,N+1+1+1+1+1+1,N+1+1+1+1,tr,A,c,ct⟩)] 180)).alloc (.cells #[.func (.func 130) #[] (DK.cap2 ⟨l,N+1+1+1+1+1,N+1+1+1,N,N+1,N+1+1,N+1+1+1+1+1+1+1,N+1+1+1+1+1+1,N+1+1+1+1,tr,A,c,ct⟩)] 181)) ->
   Calls prog 129 (#[.int .i64 (([]:List (List Int)).length:Int),.int .i64 weight]++DK.cap1 ⟨l,N+1+1+1+1+1,N+1+1+1,N,N+1,N+1+1,N+1+1+1+1+1+1+1,N+1+1+1+1+1+1,N+1+1+1+1,tr,A,c,ct⟩) W' fun e W'=>∃b,e=.returned (.bool b)/\(
   (b=true/\∃C',J (pre++(zkT h bs weight).map stOf) C' W'/\(∀b,C' b->C b\/N<=b)/\Chg C W W')\/(b=false/\∃pre' C',Jx pre' C' W'/\Chg C W W'))from fun W' hW'=>by
  obtain⟨hbl,hsz,hat⟩:=h8 (.cells #[.slice A bs.length c] 98) (.cells #[.slice (some ⟨tr,0,none⟩) (bs.length+1) ct] 98) (.cells #[.int .i64 (h:Int)] 3) (.cells #[.func (.yield l) #[] #[]] 35) (.cells (madeCells #[.slice none 0 0] bs.length) 30) (.cells #[.slice (some ⟨N+1+1+1+1,0,none⟩) bs.length bs.length] 29) (.cells #[.func (.func 129) #[] (DK.cap1 ⟨l,N+1+1+1+1+1,N+1+1+1,N,N+1,N+1+1,N+1+1+1+1+1+1+1,N+1+1+1+1+1+1,N+1+1+1+1,tr,A,c,ct⟩)] 180) (.cells #[.func (.func 130) #[] (DK.cap2 ⟨l,N+1+1+1+1+1,N+1+1+1,N,N+1,N+1+1,N+1+1+1+1+1+1+1,N+1+1+1+1+1+1,N+1+1+1+1,tr,A,c,ct⟩)] 181);rw[<-hW']at hbl hsz hat
  rw[hN]at hsz hat
  have hCN:∀b,C b->b<N:=fun b h=>by rw[<-hN];exact hj.lt _ _ _ hJ b h
  have hlN:l<N:=by omega
  have htN:tr<N:=by omega
  have kG:∀b,N<=b->b<N+8->b≠N+4->((R b/\b<N)\/b=tr\/(N<=b/\b<N+8/\b≠N+4)):=fun b h1 h2 h3=>.inr (.inr ⟨h1,h2,h3⟩);have hL:=zsc (Z:=⟨l,N+1+1+1+1+1,N+1+1+1,N,N+1,N+1+1,N+1+1+1+1+1+1+1,N+1+1+1+1+1+1,N+1+1+1+1,tr,A,c,ct⟩) (B:=fun b=>(R b/\b<N)\/b=tr\/(N<=b/\b<N+8/\b≠N+4)) hj hb (fun w hd=>by have:=hd.lt N (.inr (.inr ⟨by omega,by omega,by omega⟩));show l<_;omega) (rs:=bs) [] (fun _=>0) (fun _=>0) pre C W' weight rfl (Nat.zero_le _) (hj.keep _ _ _ _ hJ (Chg.of_below hbl))
   ⟨hat 5 (by decide),hat 3 (by decide),hat 0 (by decide),hat 1 (by decide),hat 2 (by decide),hat 7 (by decide),hat 6 (by decide),(hrb.keep (S':=fun b=>(R b/\b<N)\/b=tr\/(N<=b/\b<N+8/\b≠N+4)) (fun b h hlt=>.inl ⟨h,by omega⟩) fun b _ hlt=>hbl.block b hlt),hrt.keep (hbl.block _ htl),⟨kG (N+1+1+1+1+1) (by omega) (by omega) (by omega),kG (N+1+1+1) (by omega) (by omega) (by omega),kG (N) (by omega) (by omega) (by omega),kG (N+1) (by omega) (by omega) (by omega),kG (N+1+1) (by omega) (by omega) (by omega),kG (N+1+1+1+1+1+1+1) (by omega) (by omega) (by omega),kG (N+1+1+1+1+1+1) (by omega) (by omega) (by omega),.inr (.inl rfl)⟩,fun b h=>by rw[hsz];rcases h with h|h|h<;>omega⟩
   ⟨⟨_,hat 4 (by decide),by rw[size_madeCells],fun j hj=>absurd hj (Nat.not_lt_zero j)⟩,fun j hj=>absurd hj (Nat.not_lt_zero j),fun j hj=>absurd hj (Nat.not_lt_zero j),fun i j hi=>absurd hi (Nat.not_lt_zero i),fun x hx=>by cases hx⟩
   ⟨fun b h hc=>by
    have:=hCN b hc;rcases h with h|rfl|h
    ·exact hR b h.1 hc
    ·exact htr hc
    ·omega,fun h=>by have:=hCN _ h;simp only at this;omega,fun j hj=>absurd hj (Nat.not_lt_zero j),fun h=>by simp only at h;omega,fun j hj=>absurd hj (Nat.not_lt_zero j)⟩
   (fun j hj=>absurd hj (Nat.not_lt_zero j)) (fun j hj=>absurd hj (Nat.not_lt_zero j)) hw (by simpa only[List.nil_append]using hpre)
  refine hL.mono ?_;have hch:∀ {w':World},Chg (fun b=>C b\/b=N+1+1+1+1) W' w'->Chg C W w':=fun h=>(Chg.of_below hbl).trans2 h fun b hb h=>h.elim id fun h=>by omega
  rintro e w' (⟨rfl,C',h1,h2,h3,-⟩|⟨rfl,pre',C',h1,h2⟩)
  ·exact⟨_,rfl,.inl ⟨rfl,C',by simpa only[List.nil_append]using h1,fun b h=>(h2 b h).imp id fun h=>by omega,hch h3⟩⟩
  ·exact⟨_,rfl,.inr ⟨rfl,pre',C',h1,hch h2⟩⟩)
 clear h8 hj hb hJ hrb hrt hR hpre htr;go_enter func95,ntmps95;rw[hN];go_wp2_with fail;refine(H8.out _ rfl).mono ?_;rintro e w2 ⟨b,rfl,hP⟩;have HP:=zh hP;clear hP H8;go_wp2_with fail;go_ret;exact⟨b,rfl,HP.out⟩
structure AllM(W:World)(S:Nat->Prop)(b:BX)(bs:List Bn)(jY xb lb:Nat)(A:Option Addr)(c:Nat):Prop where
 ok:W.heap[jY]?=some (.cells #[.bool true] 4 (0,0))
 bx:W.heap[xb]?=some (.cells #[.int .i64 b.v,.int .i64 b.l,.int .i64 b.i] 24 (0,0))
 ls:W.heap[lb]?=some (.cells #[.slice A bs.length c] 98 (0,0))
 row:RowB W S A bs
def allS(b:BX)(bs:List Bn):List SS:=(allB (2*b.v+1) bs).map stOf
theorem zvJ{W:World}{S:Nat->Prop}{b:BX}{bs:List Bn}{jY xb lb c nf:Nat}{A:Option Addr}(hM:AllM W S b bs jY xb lb A c)(hv:0<=b.v/\b.v<=1000)(hn:1<=bs.length/\bs.length<=100)(hb:∀q∈bs,q.1<=1000/\q.2<=1000) :
  zz6 YS nf prog 93 #[ptr0 jY,ptr0 xb,ptr0 lb] (allS b bs) (fun q=>q=jY\/q=xb\/q=lb\/S q) W:=by
 intro l J Jx C W1 hl0 tV hch hJ hJlt hY h0;refine(callsIn_wide (n:=nf)).2 ?_;obtain⟨v,vl,vi⟩:=b;obtain⟨h,hh⟩:∃h:Nat,2*v+1=(h:Int):=⟨(2*v+1).toNat,by simp only at hv;omega⟩
 simp only at hv;have uZ:DB bs h:=⟨hn.2,hb,by omega,by omega,hn.1⟩
 have hxs:allS ⟨v,vl,vi⟩ bs=(List.range (whi h bs-wlo bs+1).toNat).flatMap fun(j:Nat)=>(zkT h bs (wlo bs+(j:Int))).map stOf:=by
  unfold allS allB;simp only;rw[hh,List.map_flatMap,zoi (F:=fun w=>(zkT h bs w).map stOf)]
 obtain⟨xs,hx⟩:=zX (allS ⟨v,vl,vi⟩ bs);rw[hx]at hY hxs ⊢;have yJ:=zh (show JC J Jx nf l xs from⟨hJ,hJlt,hY⟩);have hbd:=ztv (h:=h) hb (by omega) (by omega);have x0:W1.cell? ⟨jY,0,none⟩=some (.bool true):=zc (hch.keep hM.ok fun h=>tV _ h (.inl rfl)) rfl;have x1:W1.cell? ⟨xb,0,none⟩=some (.int .i64 v):=zc (hch.keep hM.bx fun h=>tV _ h (.inr (.inl rfl))) rfl;have hk2:=hch.keep hM.ls fun h=>tV _ h (.inr (.inr (.inl rfl)));have x2:W1.cell? ⟨lb,0,none⟩=some (.slice A bs.length c):=zc hk2 rfl;have hnl:¬ C lb:=fun h=>tV _ h (.inr (.inr (.inl rfl)));have hrb:=hM.row.keep (w':=W1) (S':=fun q=>¬ C q/\q<W1.heap.size) (fun q h hlt=>⟨fun hc=>tV q hc (.inr (.inr (.inr h))),Nat.lt_of_lt_of_le hlt hch.size⟩) fun q h hlt=>hch.block q hlt fun hc=>tV q hc (.inr (.inr (.inr h)));have hwe:=zqX bs h A c W1 (hrb.keep (S':=Any) (fun _ _ _=>trivial) fun _ _ _=>rfl) (by omega) hb (by omega)
 obtain⟨w0,hw0⟩:=zX (wlo bs);obtain⟨w1,hw1⟩:=zX (whi h bs);rw[hw0,hw1]at hbd hxs;obtain⟨T,hT⟩:=zX ((w1-(w0:Int)+1).toNat);rw[hT]at hxs;have HWE:=zh hwe;have dm:=zh hrb;have Cf:=zh uZ;have ym:=zh hxs;have H0:=zh h0;have aR:=zh hk2;have oz:=zh hnl;have HW:=zh (show wlo bs=w0/\whi h bs=w1 from⟨hw0,hw1⟩);have HL0:=zh hl0;have hnn:=hn;obtain⟨n,hn'⟩:=zX (bs.length);have HN:=zh hn';rw[hn']at x2 HWE hnn;clear hM hv hn hb hl0 tV hch hJ hJlt hY h0 uZ hxs hrb hwe hw0 hw1 hx hk2 hnl hn'
 show Calls prog 93 #[.func (.yield l) #[] #[],ptr0 jY,ptr0 xb,ptr0 lb] W1 _
 have e1:IntKind.i64.wrap (2*v)=2*v:=IntWalk.i64_in _ (by have:=Cf.out.hm;omega);have e2:IntKind.i64.wrap (2*v+1)=(h:Int):=by rw[hh];exact IntWalk.i64_in _ (by have:=Cf.out.hm;omega)
 have HHH:=zh hh;clear hh;go_enter func93,ntmps93;go_wp2_with fail;refine HWE.out.mono ?_;rintro e w2 ⟨tr,rfl,htr,zu,hb2⟩;obtain⟨y0,y1⟩:=zu 0 (Nat.zero_le _);rw[List.drop_zero,HW.out.1]at y0;rw[List.drop_zero,HW.out.2]at y1;rw[Nat.zero_mul]at y0 y1;have HRP:=zh zu;have HB2:=zh hb2;have q9:=zh htr;have hp0:(0:Int)<(n:Int)+1:=by omega
 have e3:IntKind.i64.wrap (w1-(w0:Int))=w1-(w0:Int):=IntWalk.i64_in _ (by omega);have e4:IntKind.i64.wrap (w1-(w0:Int)+1)=w1-(w0:Int)+1:=IntWalk.i64_in _ (by omega);clear zu htr x0 x1 x2 e1 e2;go_upto_region 3 with fail
 go_quiet (fail)
 have hb3:=zkm (zs w2) nq;obtain⟨w3,hw3⟩:=zX (w2.drewN nq);rw[hw3]at hb3;rw[hw3];have HB3:=zh (zkb hb2 hb3);have HRP3:=zh (HRP.out.keep (hb3.block _ (World.block_lt_of_cell? w2 _ y0)));have HTL:=zh (World.block_lt_of_cell? w2 _ y0);clear hw3 hb3 hb2 y0 y1 e3 e4;go_wp2_with fail;obtain⟨G,hG⟩:∃G:Nat->List SS,G=fun(j:Nat)=>(zkT h bs (w0+(j:Int))).map stOf:=⟨_,rfl⟩
 have HG:=zh hG;have hxs:=ym.out;rw[show(fun(j:Nat)=>(zkT h bs (w0+(j:Int))).map stOf)=G from hG.symm]at hxs;have ym:=zh hxs;clear hG hxs
 go_loopw [27] (fun iv wr=>∃(j:Nat) (C':Nat->Prop),j<=T/\iv=.int .i64 j/\Hid (J ((List.range j).flatMap G) C' wr/\(∀b,C' b->C b\/W1.heap.size<=b)/\Chg C W1 wr)/\Hid (¬ C' tr/\zqS wr tr h bs)) (fun iv _=>T-(intOf iv).toNat)
 case atStart=>exact⟨0,C,Nat.zero_le _,rfl,zh ⟨yJ.out.keep _ _ _ _ H0.out (Chg.of_below HB3.out),fun b h=>.inl h,Chg.of_below HB3.out⟩,zh ⟨fun h=>by have:=yJ.out.lt _ _ _ H0.out _ h;have:=q9.out;omega,HRP3.out⟩⟩
 case round =>
  obtain⟨j,C',hjT,rfl,HI,iD⟩:=hrel;by_cases hlt:j<T
  ·have hj1:(j:Int)<w1-(w0:Int)+1:=by omega
   have hsz:=HI.out.2.2.size;have y0:wr.cell? ⟨tr,0,none⟩=some (.int .i64 (w0:Int)):=by have:=(iD.out.2 0 (Nat.zero_le _)).1;rwa[List.drop_zero,HW.out.1,Nat.zero_mul]at this
   have x2:wr.cell? ⟨lb,0,none⟩=some (.slice A n c):=by rw[<-HN.out];exact zc (HI.out.2.2.keep aR.out oz.out) rfl
   have hpre:(List.range j).flatMap G++(zkT h bs ((w0:Int)+(j:Int))).map stOf <+: xs:=by
    rw[ym.out];have:=zov (F:=G) (g:=fun i=>i) hlt;rwa[HG.out]at this ⊢
   have e1:IntKind.i64.wrap ((w0:Int)+(j:Int))=(w0:Int)+(j:Int):=IntWalk.i64_in _ (by omega);have htl:tr<wr.heap.size:=World.block_lt_of_cell? wr _ y0
   have vR:=zh (fun w' (hbw:Below wr.heap.size wr w')=>show Calls prog 95 #[.slice A bs.length c,.slice (some ⟨tr,0,none⟩) (bs.length+1) (n+1),.int .i64 (h:Int),.int .i64 ((w0:Int)+(j:Int)),.func (.yield l) #[] #[]] w' (fun e w9=>∃b,e=.returned (.bool b)/\((b=true/\∃C9,J ((List.range (j+1)).flatMap G) C9 w9/\(∀q,C9 q->C q\/W1.heap.size<=q)/\Chg C W1 w9/\¬ C9 tr/\zqS w9 tr h bs)\/(b=false/\∃pre' C9,Jx pre' C9 w9/\Chg C W1 w9)))from(zoL (c:=c) (ct:=n+1) (A:=A) (R:=fun q=>¬ C q/\q<W1.heap.size) (tr:=tr) (pre:=(List.range j).flatMap G) (C:=C') (W:=w') (weight:=(w0:Int)+(j:Int)) yJ.out Cf.out (by have:=HL0.out;have:=hbw.size;omega) (yJ.out.keep _ _ _ _ HI.out.1 (Chg.of_below hbw)) ((dm.out.keep (fun q h _=>h) fun q h hlt=>HI.out.2.2.block q hlt h.1).later hbw) (iD.out.2.keep (hbw.block _ htl)) (fun q h hc=>(HI.out.2.1 q hc).elim h.1 fun h'=>by omega) iD.out.1 (Nat.lt_of_lt_of_le htl hbw.size) (by omega) hpre).mono
    fun e w9 ⟨b,hb,hr⟩=>⟨b,hb,by
     have hch:∀ {D:World},Chg C' w' D->Chg C W1 D:=fun h=>(HI.out.2.2.trans2 (Chg.of_below hbw (C:=fun _=>False)) fun _ _ h=>h.elim).trans2 h fun q hq h=>(HI.out.2.1 q h).elim id fun h'=>by omega
     rcases hr with⟨rfl,C9,h1,h2,h3⟩|⟨rfl,pre',C9,h1,h2⟩
     ·refine .inl ⟨rfl,C9,?_,fun q hq=>(h2 q hq).elim (HI.out.2.1 q) fun h=>.inr (Nat.le_trans hsz (Nat.le_trans hbw.size h)),hch h3,fun h=>(h2 _ h).elim iD.out.1 fun h=>by have:=hbw.size;omega,iD.out.2.keep ((h3.block _ (Nat.lt_of_lt_of_le htl hbw.size) iD.out.1).trans (hbw.block _ htl))⟩;rw[List.range_succ,List.flatMap_append];have e:[j].flatMap G=(zkT h bs ((w0:Int)+(j:Int))).map stOf:=by rw[HG.out];simp
      rw[e];exact h1
     ·exact .inr ⟨rfl,pre',C9,h1,hch h2⟩⟩)
   rw[HN.out]at vR;clear hpre htl;go_upto_region 6 with fail
   go_region_with (refine(vR.out _ (by first|exact zr.drew|exact zkm zr _)).mono ?_;rintro e w9 ⟨b9,rfl,wL⟩)
   all_goals
    have bI:=zh wL;clear wL y0 x2;(try simp only[zQ])
    cases b9
    ·obtain⟨h0,-⟩|⟨-,pre',C9,j9,h9⟩:=bI.out
     ·cases h0
     have HF:=zh (And.intro j9 h9);clear j9 h9;go_wp2_with fail;refine bodyPost_ret (v:=.tuple #[]) (results_none (by rfl) _ _ _) rfl ?_;exact⟨⟨_,rfl⟩,.inr ⟨⟨pre',C9,HF.out.1⟩,HF.out.2⟩⟩
    ·obtain⟨-,C9,j9,c9,h9,t9,r9⟩|⟨h0,-⟩:=bI.out;rotate_left 1
     ·cases h0
     have HF:=zh (And.intro j9 (And.intro c9 h9));have oH:=zh (And.intro t9 r9);clear j9 c9 h9 t9 r9;have hwj:IntKind.i64.wrap ((j:Int)+1)=(j:Int)+1:=IntWalk.i64_in _ (by omega);go_wp2_with fail;exact⟨⟨j+1,C9,by omega,by go_num,HF,oH⟩,by simp[intOf];omega⟩
  ·obtain rfl:j=T:=by omega
   have hj1:¬ (j:Int)<w1-(w0:Int)+1:=by omega
   go_wp2_with fail;go_end0;exact⟨⟨_,rfl⟩,.inl ⟨⟨C',by rw[ym.out];exact HI.out.1⟩,HI.out.2.2⟩⟩
theorem zzi(vs:List VD)(b:BX)(A:Option Addr)(c:Nat)(w:World)(hrow:RowV w Any A vs)(hl:vs.length<=LV)(hok:(b.ok&&svB vs)=true):Calls prog 46 #[.slice A vs.length c,.agg #[.int .i64 b.v,.int .i64 b.l,.int .i64 b.i]] w fun e w' =>
  ∃jY xb lb A2 c2,e=.returned (.func (.func 93) #[] #[ptr0 jY,ptr0 xb,ptr0 lb])/\Below w.heap.size w w'/\w.heap.size<=jY/\w.heap.size<=xb/\w.heap.size<=lb/\AllM w' (fun q=>w.heap.size<=q) b (lenE vs b) jY xb lb A2 c2:=by
 obtain⟨bv,bl,bi⟩:=b;simp only;have hb1:=zka (zs w) (.cells #[.int .i64 bv,.int .i64 bl,.int .i64 bi] 24);have hk1:=heap_alloc_new w (.cells #[.int .i64 bv,.int .i64 bl,.int .i64 bi] 24);have bB:=zh (fun w' (hb:Below w.heap.size w w')=>zrh vs ⟨bv,bl,bi⟩ A c w' (hrow.later hb) hl);have hlen:=(zlJ hok).1;obtain⟨bs,hbs⟩:=zX (lenE vs ⟨bv,bl,bi⟩);have nP:=zh hbs;rw[hbs]at hlen ⊢;have HLEN:=zh hlen;clear hrow hl hbs hlen;go_enter func46,ntmps46;go_upto_region 1 with fail;obtain⟨w1,hw1⟩:=zX (w.alloc (.cells #[.int .i64 bv,.int .i64 bl,.int .i64 bi] 24));rw[hw1]at hb1 hk1 ⊢;obtain⟨x0,x1,x2⟩:=zky hk1;have HB1:=zh hb1;have aB:=zh hk1;clear hw1 hb1 hk1;go_wp2_with fail;refine(bB.out _ HB1.out).mono ?_;rintro e w2 ⟨hb2,⟨h0,rfl⟩|⟨-,A2,c2,rfl,hrb⟩⟩
 ·rw[hok]at h0;cases h0
 have HB2:=zh (zkb HB1.out hb2);have aR:=zh (zkc aB.out hb2);rw[nP.out]at hrb;have dm:=zh (hrb.keep (S':=fun q=>w.heap.size<=q) (fun q h _=>Nat.le_trans HB1.out.size h) fun _ _ _=>rfl);clear hrb hb2 x0 x1 x2 bB;go_wp2_with fail;go_ret;have hb4:=zka (zka HB2.out (.cells #[.slice A2 (vs.length+1) c2] 98)) (.cells #[.bool true] 4);have hb24:Below w2.heap.size w2 ((w2.alloc (.cells #[.slice A2 (vs.length+1) c2] 98)).alloc (.cells #[.bool true] 4)):=zka (zka zr _) _;have hsz:=HB2.out.size;have hl:=HLEN.out;refine⟨w2.heap.size+1,w.heap.size,w2.heap.size,A2,c2,rfl,hb4,by omega,zl,hsz,zmT (by simp) _,zkc aR.out hb24,?_,dm.out.later hb24⟩;rw[hl];exact zkf (zmT rfl _) _
attribute [local go_sem] Oper.semAt_some
end
section
open Go Go.RowKit
attribute [local go_sem] Oper.semAt_some
def nilS:SS:=⟨[],[],[]⟩
theorem zl2(w:World){n:Nat}(hn:w.heap.size=n)(o:Obj):(w.alloc o).heap[n]?=some o:=by rw[<-hn];exact World.alloc_heap_new w o
section
variable {N N2 N4 N8 n6:Nat} {nd:Array Value} {a0 xv:Int} {vc vi vo:Value} {fc:Nat->Value} {X:SS} {C:Nat->Prop} {W W':World}
end
end
section
open Go Go.RowKit
def rnk(x:Int):Int:=if 0<x then 2*x-1 else -2*x
theorem ztQ(x:Int):0<=rnk x:=by unfold rnk;split<;>omega
theorem zpB{r:Int}(h:0<=r):rnk (unrk r)=r:=by
 unfold unrk;rw[if_neg (by omega),Int.tmod_eq_emod_of_nonneg h,Int.tdiv_eq_ediv_of_nonneg h];unfold rnk
 split<;>split<;>omega
theorem zpu(x:Int):unrk (rnk x)=x:=by
 have h:=ztQ x;unfold unrk;rw[if_neg (by omega),Int.tmod_eq_emod_of_nonneg h,Int.tdiv_eq_ediv_of_nonneg h];unfold rnk
 split<;>split<;>omega
theorem zyj{x y:Int}(h:rnk x=rnk y):x=y:=by rw[<-zpu x,h,zpu]
def lw(l:List Int):Int:=(l.map fun x=>1+rnk x).sum
def wt(ls:List (List Int)):Int:=(ls.map lw).sum
theorem zre(x:Int)(l:List Int):lw (x::l)=1+rnk x+lw l:=by simp[lw]
theorem zps(l:List Int)(ls:List (List Int)):wt (l::ls)=lw l+wt ls:=by simp[wt]
def FitH(h:Int):List Bn->List (List Int)->Prop
 | [],[]=>True
 | (lo,hi)::bs,x::xs=>lo<=x.length/\x.length<=hi/\(∀e∈x,rnk e<h)/\FitH h bs xs
 | _,_=>False
theorem zqw{h:Int}:∀ {l:List Int},(∀e∈l,rnk e<h)->(l.length:Int)<=lw l/\lw l<=l.length*h
 | [],_=>by simp[lw]
 | x::l,hx=>by
  have h1:=zqw (l:=l) fun e he=>hx e (List.mem_cons_of_mem _ he);have h2:=hx x (List.mem_cons_self ..);have h3:=ztQ x;rw[zre,List.length_cons,Int.natCast_add,Int.add_mul];omega
theorem zrH(b:Bn)(bs:List Bn):wlo (b::bs)=b.1+wlo bs:=by simp[wlo]
theorem zrI(h:Int)(b:Bn)(bs:List Bn):whi h (b::bs)=b.2*h+whi h bs:=by simp[whi]
theorem FitH.bnd{h:Int}(hh:0<h):∀ {bs:List Bn} {x:List (List Int)},FitH h bs x->(wlo bs:Int)<=wt x/\wt x<=whi h bs
 | [],[],_=>by simp[wlo,whi,wt]
 | (lo,hi)::bs,x::xs,hf=>by
  have h1:=FitH.bnd hh hf.2.2.2;have h2:=zqw hf.2.2.1;rw[zrH,zrI,zps];have h3:(x.length:Int)*h<=hi*h:=Int.mul_le_mul_of_nonneg_right (by have:=hf.2.1;omega) (by omega);have:=hf.1;simp only[Int.natCast_add];omega
 | [],_::_,hf=>hf.elim
 | (_,_)::_,[],hf=>hf.elim
theorem zmv{lo hi x:Int}:x∈ranE lo hi↔lo<=x/\x<=hi:=by
 refine⟨zkY,fun h=>List.mem_map.2 ⟨(x-lo).toNat,List.mem_range.2 (by omega),by omega⟩⟩
theorem znX{h:Int}{bs:List Bn}{rec:Int->List (List (List Int))}(hr:∀left:Int,(wlo bs:Int)<=left->left<=whi h bs->∀x,x∈rec left↔FitH h bs x/\wt x=left)(hh:0<h) :
  ∀(k:Nat) (left:Int),(k:Int)+wlo bs<=left->left<=k*h+whi h bs->∀x,x∈numE h bs rec k left↔∃l ls,x=l::ls/\l.length=k/\(∀e∈l,rnk e<h)/\FitH h bs ls/\lw l+wt ls=left
 | 0,left,h1,h2,x=>by
  rw[numE,List.mem_map]
  constructor
  ·rintro⟨y,hy,rfl⟩;obtain⟨a,b⟩:=(hr left (by omega) (by omega) y).1 hy;exact⟨[],y,rfl,rfl,by simp,a,by simp[lw,b]⟩
  ·rintro⟨l,ls,rfl,hl,-,hf,hw⟩;obtain rfl:=List.eq_nil_of_length_eq_zero hl;exact⟨ls,(hr left (by omega) (by omega) ls).2 ⟨hf,by simpa[lw]using hw⟩,rfl⟩
 | k+1,left,h1,h2,x=>by
  rw[numE,List.mem_flatMap];have hk:((k+1:Nat):Int)*h=k*h+h:=by rw[Int.natCast_add,Int.add_mul];omega
  rw[hk]at h2
  constructor
  ·rintro⟨r,hr1,hx⟩;obtain⟨y,hy,rfl⟩:=List.mem_map.1 hx;have hrr:=zkY hr1;obtain⟨l,ls,rfl,a,b,c,d⟩:=(znX hr hh k (left-1-r) (by omega) (by omega) y).1 hy;have ik:rnk (unrk r)=r:=zpB (by omega);refine⟨unrk r::l,ls,rfl,by simp[a],fun e he=>?_,c,by rw[zre,ik];omega⟩;rcases List.mem_cons.1 he with rfl|he
   ·rw[ik];omega
   ·exact b e he
  ·rintro⟨l,ls,rfl,hl,hb,hf,hw⟩
   cases l with
   | nil=>simp at hl
   | cons e l =>
    have h3:=zqw (l:=l) fun z hz=>hb z (List.mem_cons_of_mem _ hz);have h4:=hf.bnd hh;have h5:=ztQ e;have h6:=hb e (List.mem_cons_self ..);have hl':l.length=k:=by simpa using hl
    rw[zre]at hw;rw[hl']at h3;refine⟨rnk e,zmv.2 (by omega),List.mem_map.2 ⟨l::ls,(znX hr hh k _ (by omega) (by omega) _).2 ⟨l,ls,rfl,hl',fun z hz=>hb z (List.mem_cons_of_mem _ hz),hf,by omega⟩,?_⟩⟩;rw[zpu];rfl
theorem zu0{a h m:Int}(hh:0<h)(hm:0<=m)(h1:a<=m*h):(a+h-1).tdiv h<=m:=by
 by_cases ha:0<=a+h-1
 ·rw[Int.tdiv_eq_ediv_of_nonneg ha];have h2:a+h-1<(m+1)*h:=by rw[Int.add_mul];omega
  have:=Int.ediv_lt_of_lt_mul hh h2;omega
 ·have h2:(a+h-1) = -(-(a+h-1)):=by omega
  rw[h2,Int.neg_tdiv];have:=Int.tdiv_nonneg (show 0 <= -(a+h-1) by omega) (show 0<=h by omega);omega
theorem zmB{h:Int}(hh:0<h):∀(bs:List Bn) (left:Int),(wlo bs:Int)<=left->left<=whi h bs->∀x,x∈zkT h bs left↔FitH h bs x/\wt x=left
 | [],left,h1,h2,x=>by
  simp only[wlo,whi,List.map_nil,List.sum_nil]at h1 h2;have:left=0:=by simp at h1;omega
  subst this;rw[zkT,List.mem_singleton]
  constructor
  ·rintro rfl;exact⟨trivial,by simp[wt]⟩
  ·rintro⟨a,b⟩
   cases x with
   | nil=>rfl
   | cons y ys=>exact a.elim
 | (lo,hi)::bs,left,h1,h2,x=>by
  rw[zkT,List.mem_flatMap];rw[zrH]at h1;rw[zrI]at h2;simp only[Int.natCast_add]at h1
  constructor
  ·rintro⟨m,hm,hx⟩;have hm2:=zkY hm;have hc:=zqf (a:=left-whi h bs) hh (by omega:0<=m) (by omega);obtain⟨l,ls,rfl,a,b,c,d⟩:=(znX (zmB hh bs) hh m.toNat left (by omega) (by rw[show((m.toNat:Nat):Int)=m by omega];omega) x).1 hx;exact⟨⟨by omega,by omega,b,c⟩,by rw[zps];exact d⟩
  ·rintro⟨hf,hw⟩
   cases x with
   | nil=>exact hf.elim
   | cons l ls =>
    have h3:=zqw hf.2.2.1;have h4:=FitH.bnd hh hf.2.2.2;have h5:=hf.1;have h6:=hf.2.1;rw[zps]at hw;have hc:=zu0 (a:=left-whi h bs) (m:=(l.length:Int)) hh (by omega) (by omega);refine⟨(l.length:Int),zmv.2 (by omega),(znX (zmB hh bs) hh _ left (by simp;omega) (by simp;omega) _).2 ⟨l,ls,rfl,by simp,hf.2.2.1,hf.2.2.2,hw⟩⟩
theorem zsz{h:Int}(hh:0<h){bs:List Bn}(x:List (List Int)):x∈allB h bs↔FitH h bs x:=by
 rw[allB,List.mem_flatMap]
 constructor
 ·rintro⟨w,hw,hx⟩;have:=zkY hw;exact((zmB hh bs w this.1 this.2 x).1 hx).1
 ·intro hf;have hb:=hf.bnd hh;exact⟨wt x,zmv.2 hb,(zmB hh bs _ hb.1 hb.2 x).2 ⟨hf,rfl⟩⟩
def lexR:List Int->List Int->Prop
 | x::a,y::b=>rnk x<rnk y\/(x=y/\lexR a b)
 | _,_=>False
def ltL(a b:List Int):Prop:=a.length<b.length\/(a.length=b.length/\lexR a b)
def ltLL:List (List Int)->List (List Int)->Prop
 | a::p,b::q=>ltL a b\/(a=b/\ltLL p q)
 | _,_=>False
def ltB(a b:List (List Int)):Prop:=wt a<wt b\/(wt a=wt b/\ltLL a b)
theorem zo8:∀ {a b:List Int},lexR a b->¬ lexR b a
 | x::a,y::b,h,h'=>by
  rcases h with h|⟨rfl,h⟩
  ·rcases h' with h'|⟨rfl,-⟩<;>omega
  ·rcases h' with h'|⟨-,h'⟩
   ·omega
   ·exact zo8 h h'
 | [],_,h,_=>h.elim
 | _::_,[],h,_=>h.elim
theorem zon{a b:List Int}(h:ltL a b):¬ ltL b a:=fun h'=>by
 rcases h with h|⟨e,h⟩
 ·rcases h' with h'|⟨e',-⟩<;>omega
 ·rcases h' with h'|⟨-,h'⟩
  ·omega
  ·exact zo8 h h'
theorem zo4:∀ {a b:List (List Int)},ltLL a b->¬ ltLL b a
 | x::a,y::b,h,h'=>by
  rcases h with h|⟨rfl,h⟩
  ·rcases h' with h'|⟨rfl,-⟩
   ·exact zon h h'
   ·exact zon h h
  ·rcases h' with h'|⟨-,h'⟩
   ·exact zon h' h'
   ·exact zo4 h h'
 | [],_,h,_=>h.elim
 | _::_,[],h,_=>h.elim
theorem zm9{a b:List (List Int)}(h:ltB a b):¬ ltB b a:=fun h'=>by
 rcases h with h|⟨e,h⟩
 ·rcases h' with h'|⟨e',-⟩<;>omega
 ·rcases h' with h'|⟨-,h'⟩
  ·omega
  ·exact zo4 h h'
theorem zmV(lo hi:Int):(ranE lo hi).Pairwise (· < ·):=by
 unfold ranE;rw[List.pairwise_map];exact List.Pairwise.imp (fun {a b} (h:a<b)=>by omega) List.pairwise_lt_range
theorem zlu{h:Int}{bs:List Bn}{rec:Int->List (List (List Int))}:∀(k:Nat) (left:Int),∀x∈numE h bs rec k left,∃l ls,x=l::ls/\l.length=k
 | 0,left,x,hx=>by
  obtain⟨y,hy,rfl⟩:=List.mem_map.1 hx;exact⟨[],y,rfl,rfl⟩
 | k+1,left,x,hx=>by
  rw[numE]at hx;obtain⟨r,hr1,hx⟩:=List.mem_flatMap.1 hx;obtain⟨y,hy,rfl⟩:=List.mem_map.1 hx;obtain⟨l,ls,rfl,h1⟩:=zlu k _ y hy;exact⟨unrk r::l,ls,rfl,by simp[h1]⟩
theorem zom{h:Int}{bs:List Bn}{rec:Int->List (List (List Int))}(hr:∀left,(rec left).Pairwise ltLL):∀(k:Nat) (left:Int),(numE h bs rec k left).Pairwise ltLL
 | 0,left=>by
  rw[numE,List.pairwise_map];exact(hr left).imp fun {a b} h=>Or.inr ⟨rfl,h⟩
 | k+1,left=>by
  rw[numE,List.pairwise_flatMap];refine⟨fun r hr1=>?_,List.Pairwise.imp_of_mem (fun {r s} hr1 hs1 hlt x hx y hy=>?_) (zmV _ _)⟩
  ·rw[List.pairwise_map];refine List.Pairwise.imp_of_mem (fun {a b} ha hb hab=>?_) (zom hr k _);obtain⟨l,ls,rfl,e1⟩:=zlu k _ a ha;obtain⟨m,ms,rfl,e2⟩:=zlu k _ b hb;rcases hab with hab|⟨rfl,hab⟩
   ·rcases hab with hab|⟨e,hab⟩
    ·omega
    ·exact Or.inl (Or.inr ⟨by simp[e],Or.inr ⟨rfl,hab⟩⟩)
   ·exact Or.inr ⟨rfl,hab⟩
  ·obtain⟨a,ha,rfl⟩:=List.mem_map.1 hx;obtain⟨b,hb,rfl⟩:=List.mem_map.1 hy;obtain⟨l,ls,rfl,e1⟩:=zlu k _ a ha;obtain⟨m,ms,rfl,e2⟩:=zlu k _ b hb;have h1:=zkY hr1;have h2:=zkY hs1;exact Or.inl (Or.inr ⟨by simp[e1,e2],Or.inl (by rw[zpB (by omega),zpB (by omega)];exact hlt)⟩)
theorem znQ{h:Int}:∀(bs:List Bn) (left:Int),(zkT h bs left).Pairwise ltLL
 | [],left=>by rw[zkT];exact List.pairwise_singleton _ _
 | (lo,hi)::bs,left=>by
  rw[zkT,List.pairwise_flatMap];refine⟨fun m _=>zom (znQ bs) _ _,List.Pairwise.imp_of_mem (fun {r s} hr1 hs1 hlt x hx y hy=>?_) (zmV _ _)⟩;obtain⟨l,ls,rfl,e1⟩:=zlu _ _ x hx;obtain⟨m,ms,rfl,e2⟩:=zlu _ _ y hy;have h1:=zkY hr1;have h2:=zkY hs1;exact Or.inl (Or.inl (by omega))
theorem zru{h:Int}(hh:0<h)(bs:List Bn):(allB h bs).Pairwise ltB:=by
 rw[allB,List.pairwise_flatMap];have hw:∀w∈ranE (wlo bs) (whi h bs),∀x∈zkT h bs w,wt x=w:=fun w hw x hx=>by
  have:=zkY hw;exact((zmB hh bs w this.1 this.2 x).1 hx).2
 refine⟨fun w hw1=>List.Pairwise.imp_of_mem (fun {a b} ha hb hab=>.inr ⟨by rw[hw w hw1 a ha,hw w hw1 b hb],hab⟩) (znQ bs w),List.Pairwise.imp_of_mem (fun {r s} hr1 hs1 hlt x hx y hy=>.inl (by rw[hw r hr1 x hx,hw s hs1 y hy];exact hlt)) (zmV _ _)⟩
def timR(a b:Int):Int:=if a≠0/\(1099511627776:Int).tdiv a<b then 1099511627777 else a*b
def powR(b:Int):Nat->Int
 | 0=>1
 | n+1=>timR (powR b n) b
def upA(b:Int):Int->List Nat->Int
 | s,[]=>s
 | s,i::l=>if 1099511627776<s+powR b i then 1099511627777 else upA b (s+powR b i) l
def upR(b:Int)(n:Nat):Int:=upA b 0 (List.range (n+1))
def cnt1(b:BX)(v:VD):Int:=if v.k=1 then 2*b.v+1 else if v.k=2 then powR (2*b.v+1) v.n.toNat else upR (2*b.v+1) b.l.toNat
def cntF(vs:List VD)(b:BX):Int:=vs.foldl (fun n v=>timR n (cnt1 b v)) (upR (2*b.v+1) b.i.toNat)
def rngZ(v:Int):List Int:=(List.range (2*v+1).toNat).map fun i:Nat=>(i:Int)-v
def tupE(v:Int):Nat->List (List Int)
 | 0=>[[]]
 | n+1=>(tupE v n).flatMap fun t=>(rngZ v).map fun x=>t++[x]
def betE(v:Int)(a m:Nat):List (List Int):=(List.range (m+1-a)).flatMap fun i=>tupE v (a+i)
def lstE(b:BX)(v:VD):List (List Int):=if v.k=1 then betE b.v 1 1 else if v.k=2 then betE b.v v.n.toNat v.n.toNat else betE b.v 0 b.l.toNat
def stg(st:List SS)(l:List (List Int)):List SS:=st.flatMap fun s=>l.map fun x=>⟨s.cells++[x],[],[]⟩
def stgF(b:BX)(vs:List VD):List SS:=vs.foldl (fun st v=>stg st (lstE b v)) [nilS]
def allU(vs:List VD)(b:BX):List SS:=(stgF b vs).flatMap fun s=>(betE b.v 0 b.i.toNat).map fun x=>⟨s.cells,x,[]⟩
def keyA:List (List Int)->List (List Int)->List Int
 | a::l,b::m=>((a.length:Int)::(a.take b.length).map rnk)++(if a.length=b.length then keyA l m else [])
 | _,_=>[]
def lexE:List Int->List Int->Int
 | x::a,y::b=>if x<y then -1 else if y<x then 1 else lexE a b
 | _,_=>0
def lisS(s:SS):List (List Int):=s.cells++[s.tin,s.tout]
def keyE(a b:SS):List Int:=[wt (lisS a),(a.cells.length:Int)]++keyA (lisS a) (lisS b)
def cmpE(a b:SS):Int:=lexE (keyE a b) (keyE b a)
def zkW(a b:List SS):List SS :=
 match a,b with
 | [],b=>b
 | a,[]=>a
 | x::a,y::b=>if cmpE y x<0 then y::zkW (x::a) b else x::zkW a (y::b)
 termination_by a.length+b.length
def zkX(l:List SS):List SS:=if h:l.length<2 then l else zkW (zkX (l.take (l.length / 2))) (zkX (l.drop (l.length / 2)))
 termination_by l.length
 decreasing_by
 ·simp;omega
 ·simp;omega
def allR(vs:List VD)(b:BX):List SS:=zkX (allU vs b)
theorem zpw{a b:Int}(ha:1<=a/\a<=1099511627777)(hb:1<=b/\b<=1099511627777):1<=timR a b/\timR a b<=1099511627777:=by
 unfold timR
 split
 ·omega
 ·rename_i h;have h1:b<=(1099511627776:Int).tdiv a:=by
   by_cases h2:b<=(1099511627776:Int).tdiv a
   ·exact h2
   ·exact absurd ⟨by omega,by omega⟩ h
  rw[Int.tdiv_eq_ediv_of_nonneg (by decide)]at h1;have h2:b*a<=1099511627776:=(Int.le_ediv_iff_mul_le (by omega)).1 h1;have h3:1*1<=a*b:=Int.mul_le_mul ha.1 hb.1 (by decide) (by omega);rw[Int.mul_comm]at h2;omega
theorem znv{a b:Int}(ha:1<=a)(hb:1<=b)(h:timR a b<=60):timR a b=a*b/\a<=60/\b<=60:=by
 unfold timR at h ⊢
 split at h
 ·omega
 ·rename_i h0;rw[if_neg h0];have h1:a*1<=a*b:=Int.mul_le_mul_of_nonneg_left hb (by omega);have h2:1*b<=a*b:=Int.mul_le_mul_of_nonneg_right ha (by omega);exact⟨rfl,by omega,by omega⟩
theorem zmd{b:Int}(hb:1<=b/\b<=2001):∀n,1<=powR b n/\powR b n<=1099511627777
 | 0=>by unfold powR;omega
 | n+1=>zpw (zmd hb n) (by omega)
theorem zny{b:Int}(hb:1<=b/\b<=2001):∀n,powR b n<=60->powR b n=b ^ n
 | 0,_=>by rw[Int.pow_zero];rfl
 | n+1,h=>by
  have h1:=znv (zmd hb n).1 hb.1 h;rw[powR,h1.1,zny hb n h1.2.1,Int.pow_succ]
theorem zq1{b:Int}(hb:1<=b/\b<=2001):∀(l:List Nat) (s:Int),0<=s/\s<=1099511627776->s<=upA b s l/\upA b s l<=1099511627777
 | [],s,h=>by unfold upA;omega
 | i::l,s,h=>by
  have h1:=zmd hb i;unfold upA
  split
  ·omega
  ·have:=zq1 hb l (s+powR b i) (by omega);omega
theorem zq0{b:Int}(hb:1<=b/\b<=2001)(n:Nat):1<=upR b n/\upR b n<=1099511627777:=by
 unfold upR;rw[List.range_succ_eq_map];unfold upA;rw[if_neg (by unfold powR;decide)];have:=zq1 hb (List.map Nat.succ (List.range n)) (0+powR b 0) (by unfold powR;decide);unfold powR at this ⊢;omega
theorem zqc{b:Int}(hb:1<=b/\b<=2001):∀(l:List Nat) (s:Int),0<=s->upA b s l<=60->upA b s l=s+(l.map fun i=>b ^ i).sum/\∀i∈l,powR b i<=60
 | [],s,_,h=>by unfold upA;simp
 | i::l,s,h0,h=>by
  have h1:=zmd hb i;unfold upA at h ⊢
  split at h
  ·omega
  ·rename_i h2;rw[if_neg h2];have h3:=zqc hb l (s+powR b i) (by omega) h;have h4:=(zq1 hb l (s+powR b i) (by omega)).1;have h5:powR b i<=60:=by omega
   rw[h3.1,zny hb i h5];refine⟨by simp;omega,fun j hj=>?_⟩;rcases List.mem_cons.1 hj with rfl|hj
   ·exact h5
   ·exact h3.2 j hj
theorem zpC(v:Int):(rngZ v).length=(2*v+1).toNat:=by simp[rngZ]
theorem zrL{v:Int}(hv:0<=v):∀n,((tupE v n).length:Int)=(2*v+1) ^ n
 | 0=>by rw[Int.pow_zero];rfl
 | n+1=>by
  have h:∀l:List (List Int),((l.flatMap fun t=>(rngZ v).map fun x=>t++[x]).length:Int)=l.length*(2*v+1):=by
   intro l
   induction l with
   | nil=>simp
   | cons t l ih =>
    rw[List.flatMap_cons,List.length_append,List.length_map,zpC,List.length_cons];have e:((2*v+1).toNat:Int)=2*v+1:=Int.toNat_of_nonneg (by omega)
    push_cast
    rw[ih,e,Int.add_mul];omega
  rw[tupE,h,zrL hv n,Int.pow_succ]
theorem zn7{v:Int}(hv:0<=v)(a m:Nat):((betE v a m).length:Int)=((List.range (m+1-a)).map fun i=>(2*v+1) ^ (a+i)).sum:=by
 unfold betE
 induction List.range (m+1-a)with
 | nil=>rfl
 | cons i l ih=>rw[List.flatMap_cons,List.length_append,List.map_cons,List.sum_cons,<-ih,<-zrL hv (a+i)];push_cast;rfl
theorem zld{b:BX}(h:b.ok=true):(0<=b.v/\b.v<=1000)/\(0<=b.l/\b.l<=1000)/\0<=b.i/\b.i<=1000:=by
 simp only[BX.ok,okI,Bool.and_eq_true,decide_eq_true_eq]at h;omega
theorem zn5{b:BX}(hb:0<=b.v/\b.v<=1000)(v:VD):1<=cnt1 b v/\cnt1 b v<=1099511627777:=by
 unfold cnt1
 split
 ·omega
 ·split
  ·exact zmd (by omega) _
  ·exact zq0 (by omega) _
theorem zxy{v:Int}(hv:0<=v/\v<=1000){n:Nat}(h:upR (2*v+1) n<=60):((betE v 0 n).length:Int)=upR (2*v+1) n:=by
 have h1:=(zqc (b:=2*v+1) (by omega) (List.range (n+1)) 0 (by decide) h).1;rw[zn7 hv.1,show upR (2*v+1) n=upA (2*v+1) 0 (List.range (n+1))from rfl,h1];simp
theorem zub{b:BX}{v:VD}(hb:0<=b.v/\b.v<=1000)(h:cnt1 b v<=60):((lstE b v).length:Int)=cnt1 b v:=by
 unfold lstE;unfold cnt1 at h ⊢;by_cases h1:v.k=1
 ·rw[if_pos h1]at h ⊢;rw[if_pos h1,zn7 hb.1];simp[Int.pow_succ]
 ·rw[if_neg h1]at h ⊢;rw[if_neg h1];by_cases h2:v.k=2
  ·rw[if_pos h2]at h ⊢;rw[if_pos h2,zn7 hb.1,zny (by omega) _ h];simp
  ·rw[if_neg h2]at h ⊢;rw[if_neg h2,zxy hb h]
theorem znj{vs:List VD}{b:BX}{i:Nat}(hi:i<vs.length):cntF (vs.take (i+1)) b=timR (cntF (vs.take i) b) (cnt1 b vs[i]):=by
 unfold cntF;rw[List.take_succ_eq_append_getElem hi,List.foldl_append];rfl
theorem zqj{vs:List VD}{b:BX}{i:Nat}(hi:i<vs.length):stgF b (vs.take (i+1))=stg (stgF b (vs.take i)) (lstE b vs[i]):=by
 unfold stgF;rw[List.take_succ_eq_append_getElem hi,List.foldl_append];rfl
theorem zn4{b:BX}(hb:b.ok=true)(vs:List VD):1<=cntF vs b/\cntF vs b<=1099511627777:=by
 have hk:=zld hb;unfold cntF;have:∀(l:List VD) (n:Int),1<=n/\n<=1099511627777->1<=l.foldl (fun n v=>timR n (cnt1 b v)) n/\l.foldl (fun n v=>timR n (cnt1 b v)) n<=1099511627777:=by
  intro l
  induction l with
  | nil=>intro n h;exact h
  | cons v l ih=>intro n h;exact ih _ (zpw h (zn5 hk.1 v))
 exact this vs _ (zq0 (by omega) _)
theorem zsu{vs:List VD}{b:BX}(hb:b.ok=true)(h:cntF vs b<=60):∀k,k<=vs.length->cntF (vs.take (vs.length-k)) b<=60
 | 0,_=>by simpa using h
 | k+1,hk=>by
  have h1:=zsu hb h k (by omega);rw[show vs.length-k=vs.length-(k+1)+1 by omega,znj (by omega)]at h1;exact(znv (zn4 hb _).1 (zn5 (zld hb).1 _).1 h1).2.1
theorem ztE(st:List SS)(l:List (List Int)):(stg st l).length=st.length*l.length:=by
 unfold stg
 induction st with
 | nil=>simp
 | cons s st ih=>rw[List.flatMap_cons,List.length_append,ih,List.length_map,List.length_cons,Nat.add_mul];omega
structure RefB(vs:List VD)(b:BX):Prop where
 one:∀i (hi:i<vs.length),cnt1 b vs[i]<=60/\(lstE b vs[i]).length<=60
 st:∀i,i<=vs.length->((stgF b (vs.take i)).length:Int)*upR (2*b.v+1) b.i.toNat=cntF (vs.take i) b/\(stgF b (vs.take i)).length<=60
 inp:((betE b.v 0 b.i.toNat).length:Int)=upR (2*b.v+1) b.i.toNat/\(betE b.v 0 b.i.toNat).length<=60
 all:((allU vs b).length:Int)=cntF vs b/\(allU vs b).length<=60
theorem zq9{vs:List VD}{b:BX}(hb:b.ok=true)(h:cntF vs b<=60):RefB vs b:=by
 have hk:=zld hb;have h1:∀i (hi:i<vs.length),cnt1 b vs[i]<=60/\cntF (vs.take i) b<=60/\cntF (vs.take (i+1)) b=cntF (vs.take i) b*cnt1 b vs[i]:=fun i hi=>by
  have h2:=zsu hb h (vs.length-(i+1)) (by omega);rw[show vs.length-(vs.length-(i+1))=i+1 by omega,znj hi]at h2;have h3:=znv (zn4 hb _).1 (zn5 hk.1 _).1 h2;exact⟨h3.2.2,h3.2.1,by rw[znj hi];exact h3.1⟩
 have hup:=zq0 (b:=2*b.v+1) (by omega) b.i.toNat
 have hu:upR (2*b.v+1) b.i.toNat<=60:=by
  have:=zsu hb h vs.length zl;simpa[cntF]using this
 have hst:∀i,i<=vs.length->((stgF b (vs.take i)).length:Int)*upR (2*b.v+1) b.i.toNat=cntF (vs.take i) b:=by
  intro i
  induction i with
  | zero=>intro _;simp[stgF,cntF]
  | succ i ih =>
   intro hi;rw[zqj (by omega),ztE,(h1 i (by omega)).2.2,<-ih (by omega)]
   push_cast
   rw[zub hk.1 (h1 i (by omega)).1,Int.mul_assoc,Int.mul_assoc,Int.mul_comm (cnt1 b vs[i])]
 have hle:∀i,i<=vs.length->(stgF b (vs.take i)).length<=60:=fun i hi=>by
  have h2:=zsu hb h (vs.length-i) (by omega);rw[show vs.length-(vs.length-i)=i by omega,<-hst i hi]at h2;have h3:((stgF b (vs.take i)).length:Int)*1<=((stgF b (vs.take i)).length:Int)*upR (2*b.v+1) b.i.toNat:=Int.mul_le_mul_of_nonneg_left hup.1 (by omega);omega
 have hin:=zxy hk.1 hu;have hall:((allU vs b).length:Int)=cntF vs b:=by
  have h3:=hst vs.length zl;rw[List.take_length]at h3;rw[<-h3,<-hin];unfold allU
  induction stgF b vs with
  | nil=>simp
  | cons s st ih=>rw[List.flatMap_cons,List.length_append,List.length_map,List.length_cons];push_cast;rw[ih,Int.add_mul];omega
 exact⟨fun i hi=>⟨(h1 i hi).1,by have:=zub hk.1 (h1 i hi).1;have:=(h1 i hi).1;omega⟩,fun i hi=>⟨hst i hi,hle i hi⟩,⟨hin,by omega⟩,⟨hall,by omega⟩⟩
attribute [local go_sem] Oper.semAt_some
end
section
open Go Go.RowKit
theorem zmp:(prog.info? 32).map (fun i=>(i.zero,i.size,i.bytes))=some (some (.agg #[.slice none 0 0,.slice none 0 0,.slice none 0 0]),3,72):=by kernel_rfl
theorem bSts(a0 a1 a2:Value)(w:World):(Instr.buildSlice 27 1 #[(0,.agg #[a0,a1,a2])]).run prog w=.ok (.slice (some ⟨w.heap.size,0,none⟩) 1 1) (w.alloc (.cells #[a0,a1,a2] 32)):=by kernel_rfl
def zk1(vs:List (Value×Value×Value)):List Value:=vs.flatMap fun t=>[t.1,t.2.1,t.2.2]
theorem zqD(vs:List (Value×Value×Value)):(zk1 vs).length=vs.length*3:=by
 induction vs with
 | nil=>rfl
 | cons c l ih=>simp only[zk1,List.flatMap_cons,List.length_append,List.length_cons,List.length_nil]at ih ⊢;omega
theorem zqE:∀(l:List (Value×Value×Value)) (i o:Nat) (hi:i<l.length),o<3->(zk1 l)[i*3+o]?=[l[i].1,l[i].2.1,l[i].2.2][o]?
 | c::l,0,o,_,ho=>by
  rw[show zk1 (c::l)=[c.1,c.2.1,c.2.2]++zk1 l from rfl,List.getElem?_append_left (by simp;omega)];simp
 | c::l,i+1,o,hi,ho=>by
  rw[show zk1 (c::l)=[c.1,c.2.1,c.2.2]++zk1 l from rfl,List.getElem?_append_right (by simp;omega)];have:(i+1)*3+o-[c.1,c.2.1,c.2.2].length=i*3+o:=by simp;omega
  rw[this,zqE l i o (by simpa using hi) ho];simp
def zk7(W:World)(n0:Nat)(S:Nat->Prop)(v:Value)(ss:List SS):Prop :=
 ∃vs:List (Value×Value×Value),W.ownsRow n0 32 3 v ss.length (zk1 vs)/\vs.length=ss.length/\∀k (hk:k<ss.length) (hv:k<vs.length),SV W (fun q=>S q/\v.ownBlock≠some q) ss[k] (.agg #[vs[k].1,vs[k].2.1,vs[k].2.2])
theorem zwe{W:World}{n0 n1 sz n:Nat}{E:TypeId}{v:Value}{xs:List Value}(h:W.ownsRow n0 E sz v n xs)(hn:n1<=n0):W.ownsRow n1 E sz v n xs:=by
 obtain⟨e1,h2⟩:=h;rcases h2 with h2|⟨g,cap,cur,rfl,h3,h4⟩
 ·exact⟨e1,.inl h2⟩
 ·exact⟨e1,.inr ⟨g,cap,cur,rfl,Nat.le_trans hn h3,h4⟩⟩
theorem zk7.nil(W:World)(n0:Nat)(S:Nat->Prop):zk7 W n0 S (.slice none 0 0) []:=⟨[],World.ownsRow_nil _ _ _ _,rfl,fun k hk=>by simp at hk⟩
theorem zk7.keep{W W':World}{n0:Nat}{S S':Nat->Prop}{v:Value}{ss:List SS}(h:zk7 W n0 S v ss)(hS:∀q,S q->q<W.heap.size->S' q)(hk:∀q,S q\/v.ownBlock=some q->q<W.heap.size->W'.heap[q]?=W.heap[q]?):zk7 W' n0 S' v ss:=by
 obtain⟨vs,h1,h2,h3⟩:=h;refine⟨vs,zme h1 fun b hb=>hk b (.inr hb) (h1.lt b hb).2,h2,fun k hk1 hk2=>(h3 k hk1 hk2).keep (fun q h hlt=>⟨hS q h.1 hlt,h.2⟩) fun q h hlt=>hk q (.inl h.1) hlt⟩
theorem zk7.nd{W:World}{n0:Nat}{S:Nat->Prop}{v:Value}{ss:List SS}(h:zk7 W n0 S v ss){k:Nat}(hk:k<ss.length) :
  ∃g cap A c B d D e,v=.slice (some ⟨g,0,none⟩) ss.length cap/\n0<=g/\g<W.heap.size/\W.cell? ⟨g,k*3,none⟩=some (.slice A ss[k].cells.length c)/\W.cell? ⟨g,k*3+1,none⟩=some (.slice B ss[k].tin.length d)/\W.cell? ⟨g,k*3+2,none⟩=some (.slice D ss[k].tout.length e) /\
   SV W (fun q=>S q/\q≠g) ss[k] (.agg #[.slice A ss[k].cells.length c,.slice B ss[k].tin.length d,.slice D ss[k].tout.length e]):=by
 obtain⟨vs,h1,hl,h2⟩:=h;have pz:k<vs.length:=by omega
 have hs:=h2 k hk pz;rcases h1.2 with⟨e1,e2⟩|⟨g,cap,cur,rfl,hb,hg,-⟩
 ·omega
 ·have hx:∀o u,o<3->[vs[k].1,vs[k].2.1,vs[k].2.2][o]?=some u->W.cell? ⟨g,k*3+o,none⟩=some u:=fun o u h4 hu=>by
   rw[h1.cellAt (k*3+o) (by omega),zqE vs k o pz h4];exact hu
  have x0:=hx 0 _ (by omega) rfl;have x1:=hx 1 _ (by omega) rfl;have x2:=hx 2 _ (by omega) rfl;generalize vs[k]=t at *
  obtain⟨t0,t1,t2⟩:=t;simp only at hs x0 x1 x2;obtain⟨A,c,B,d,D,e,he,h9⟩:=hs;have hs:SV W (fun q=>S q/\(Value.slice (some ⟨g,0,none⟩) ss.length cap).ownBlock≠some q) ss[k] (.agg #[t0,t1,t2]):=⟨A,c,B,d,D,e,he,h9⟩
  injection he with he;simp only[Array.mk.injEq,List.cons.injEq,and_true]at he;obtain⟨rfl,rfl,rfl⟩:=he;exact⟨g,cap,A,c,B,d,D,e,rfl,hb,zkp hg,x0,x1,x2,hs.keep (fun q hq _=>⟨hq.1,fun e=>hq.2 (by rw[e];rfl)⟩) fun _ _ _=>rfl⟩
def zkq(W:World)(n0:Nat)(S:Nat->Prop)(v:Value)(ls:List (List Int)):Prop :=
 ∃vs:List Value,W.ownsRow n0 30 1 v ls.length vs/\vs.length=ls.length/\∀k (hk:k<ls.length) (hv:k<vs.length),∃A c,vs[k]=.slice A ls[k].length c/\ls[k].length<=c/\RowI W (fun q=>S q/\v.ownBlock≠some q) A ls[k]
theorem zkq.nil(W:World)(n0:Nat)(S:Nat->Prop):zkq W n0 S (.slice none 0 0) []:=⟨[],World.ownsRow_nil _ _ _ _,rfl,fun k hk=>by simp at hk⟩
theorem zkq.base{W:World}{n0 n1:Nat}{S:Nat->Prop}{v:Value}{ls:List (List Int)}(h:zkq W n0 S v ls)(hn:n1<=n0):zkq W n1 S v ls:=by
 obtain⟨vs,h1,h2⟩:=h;exact⟨vs,zwe h1 hn,h2⟩
theorem zkq.keep{W W':World}{n0:Nat}{S S':Nat->Prop}{v:Value}{ls:List (List Int)}(h:zkq W n0 S v ls)(hS:∀q,S q->q<W.heap.size->S' q)(hk:∀q,S q\/v.ownBlock=some q->q<W.heap.size->W'.heap[q]?=W.heap[q]?):zkq W' n0 S' v ls:=by
 obtain⟨vs,h1,h2,h3⟩:=h;refine⟨vs,zme h1 fun b hb=>hk b (.inr hb) (h1.lt b hb).2,h2,fun k hk1 hk2=>?_⟩;obtain⟨A,c,e,hc,hr⟩:=h3 k hk1 hk2;exact⟨A,c,e,hc,hr.keep (fun q h hlt=>⟨hS q h.1 hlt,h.2⟩) fun q h hlt=>hk q (.inl h.1) hlt⟩
theorem zkq.slice{W:World}{n0:Nat}{S:Nat->Prop}{v:Value}{ls:List (List Int)}(h:zkq W n0 S v ls):∃A c,v=.slice A ls.length c:=by
 obtain⟨vs,h1,-⟩:=h;obtain⟨A',c',rfl,-⟩:=zkd h1;exact⟨A',c',rfl⟩
theorem zkq.nd{W:World}{n0:Nat}{S:Nat->Prop}{v:Value}{ls:List (List Int)}(h:zkq W n0 S v ls){k:Nat}(hk:k<ls.length) :
  ∃g cap A c,v=.slice (some ⟨g,0,none⟩) ls.length cap/\n0<=g/\g<W.heap.size/\W.cell? ⟨g,k,none⟩=some (.slice A ls[k].length c)/\ls[k].length<=c/\RowI W (fun q=>S q/\q≠g) A ls[k]:=by
 obtain⟨vs,h1,hl,h2⟩:=h;have pz:k<vs.length:=by omega
 obtain⟨A,c,e,hc,hr⟩:=h2 k hk pz;rcases h1.2 with⟨e1,e2⟩|⟨g,cap,cur,rfl,hb,hg,-⟩
 ·omega
 ·refine⟨g,cap,A,c,rfl,hb,zkp hg,?_,hc,hr.keep (fun q hq _=>⟨hq.1,fun e=>hq.2 (by rw[e];rfl)⟩) fun _ _ _=>rfl⟩;rw[h1.cellAt k (by omega),List.getElem?_eq_getElem pz,e]
theorem zkq.ii{W:World}{n0:Nat}{S:Nat->Prop}{v:Value}{ls:List (List Int)}(h:zkq W n0 S v ls)(hS:∀q,n0<=q->q<W.heap.size->S q):∃A c,v=.slice A ls.length c/\ls.length<=c/\zlo W S A ls:=by
 obtain⟨vs,h1,hl,h2⟩:=h;obtain⟨A',c',rfl,hc',-⟩:=zkd h1;refine⟨A',c',rfl,hc',fun i hi=>?_⟩;obtain⟨g,cap,A,c,e,hg1,hg2,hc,hlc,hr⟩:=zkq.nd ⟨vs,h1,hl,h2⟩ hi;injection e with e1 e2 e3;subst e1;exact⟨⟨g,0,none⟩,A,c,rfl,hS g hg1 hg2,by rw[Addr.add_lit,Nat.zero_add];exact hc,hlc,hr.keep (fun q h _=>h.1) fun _ _ _=>rfl⟩
theorem zkq.app{W W5:World}{n0:Nat}{S S':Nat->Prop}{v v':Value}{ls ys:List (List Int)}{vs us:List Value}(hl:vs.length=ls.length)(ku:us.length=ys.length)
  (h2:∀k (hk:k<ls.length) (hv:k<vs.length),∃A c,vs[k]=.slice A ls[k].length c/\ls[k].length<=c/\RowI W (fun q=>S q/\v.ownBlock≠some q) A ls[k])(hS:∀q,S q->q<W.heap.size->S' q)
  (hy:∀k (hk:k<ys.length) (hv:k<us.length),∃A c,us[k]=.slice A ys[k].length c/\ys[k].length<=c/\RowI W (fun q=>S' q/\v.ownBlock≠some q) A ys[k])
  (ho:W5.ownsRow n0 30 1 v' (ls.length+ys.length) (vs++us))(hg:W.grownBy W5 v.ownBlock)(aj:v'.ownBlock=v.ownBlock\/v'.ownBlock=some W.heap.size):zkq W5 n0 S' v' (ls++ys):=by
 have hB:∀q,v.ownBlock≠some q->q<W.heap.size->v'.ownBlock≠some q:=fun q h hq e=>by
  rcases aj with e1|e1
  ·exact h (e1▸e)
  ·rw[e1]at e;injection e with e;omega
 have hk:∀q,v.ownBlock≠some q->q<W.heap.size->W5.heap[q]?=W.heap[q]?:=fun q h hq=>hg.block q hq fun e=>h e.symm;refine⟨vs++us,by rw[List.length_append];exact ho,by simp[hl,ku],fun k hk1 hk2=>?_⟩;by_cases hlt:k<ls.length
 ·have hlv:k<vs.length:=by omega
  obtain⟨A,c,e,hc,hr⟩:=h2 k hlt hlv;rw[List.getElem_append_left hlt,List.getElem_append_left hlv];exact⟨A,c,e,hc,hr.keep (fun q h hq=>⟨hS q h.1 hq,hB q h.2 hq⟩) fun q h hq=>hk q h.2 hq⟩
 ·have hk3:k-ls.length<ys.length:=by simp at hk1;omega
  obtain⟨A,c,e,hc,hr⟩:=hy (k-ls.length) hk3 (by omega);rw[List.getElem_append_right (by omega),List.getElem_append_right (by omega)];simp only[hl];exact⟨A,c,e,hc,hr.keep (fun q h hq=>⟨h.1,hB q h.2 hq⟩) fun q h hq=>hk q h.2 hq⟩
theorem zki{ops:Array Oper}{rest:List Oper}{o:Oper}{a:Act}{W:World}{Q:Exit->Act->World->Prop}{tS E:TypeId}{z:Value}{sz fG:Nat}(hgd:o.guard=none)(s x:Operand)
  (ho:o.op=.call { callee:=.builtin .append,args := #[s,x],argTypes := #[tS,tS] })(hu:prog.underlying tS=some (.slice E))(hin:(prog.info? E).map (fun i=>(i.zero,i.size,i.bytes))=some (some z,sz,fG))(hzc:z.cells.size=sz)(hsz:0<sz)(hby:fG<=100)
  (base:Nat)(v:Value)(n:Nat)(xs:List Value)(hs:a.eval s=v)(hrow:W.ownsRow base E sz v n xs)
  (A:Option Addr)(m c:Nat)(news:List Value)(hx:a.eval x=.slice A m c)(hl:news.length=m*sz)(hA:A=none->m=0)(hc:∀ad,A=some ad->∀j u,news[j]?=some u->W.cell? (ad.add j)=some u)(h1c:∀u∈news,u.oneCell'=true)(hm:n+m<=1000000)(hb:base<=W.heap.size)
  (h:∀v' w',w'.ownsRow base E sz v' (n+m) (xs++news)->W.grownBy w' v.ownBlock->(v'.ownBlock=v.ownBlock\/v'.ownBlock=some W.heap.size)->wpList prog ops Q rest (a.put o.dst v') w') :
  wpList prog ops Q (o::rest) a W:=by
 obtain⟨i,hi,hz0,hz1,hz2⟩:=info_parts hin;rcases A with _|ad
 ·obtain rfl:=hA rfl;obtain rfl:news=[]:=List.eq_nil_of_length_eq_zero (by rw[hl];omega);refine wpList_plain hgd fun K hK=>?_;have hrun:(Builtin.append_ #[tS,tS] o.type #[v,.slice none 0 c]).run prog W=.ok v W:=by
   rcases hrow.2 with⟨rfl,h0⟩|⟨g,cap,cur,rfl,_,_,hnc,_⟩
   ·simp[Builtin.append_,run_underlying hu,sizeOf,typeInfo,hi,Builtin.lenOf,Builtin.firstCells]
   ·simp[Builtin.append_,run_underlying hu,sizeOf,typeInfo,hi,Builtin.lenOf,Builtin.firstCells,hnc,storeCells]
  unfold Oper.wp execOp;simp only[ho,resolve,invoke,builtin,Sem.run_bind,Sem.run_pure,Result.andThen_ok,List.map_toArray,List.map_cons,List.map_nil,hs,hx,List.length_nil,hrun];exact hK _ _ (h v W (by simpa using hrow) (zm7 _ _) (.inl rfl))
 ·have h9:(n+m)*fG<=1000000*100:=Nat.mul_le_mul hm hby;exact wpList_append_own_at (P:=prog) _ hgd s x tS ho base E i z sz fG hu hi hz0 hz1 hz2 hzc hsz v n xs hs hrow ad m c news hx hl (hc ad rfl) h1c (by unfold maxLen;omega) (by omega) hb (fun v' w' h1 h2 _ h4=>h v' w' h1 h2 h4)
attribute [local go_sem] Oper.semAt_some
theorem bI0R(w:World):(Instr.buildSlice 30 0 #[]).run prog w=.ok (.slice (some ⟨w.heap.size,0,none⟩) 0 0) (w.alloc (.cells #[] 3)):=by kernel_rfl
theorem bI1R(x:Int)(w:World):(Instr.buildSlice 30 1 #[(0,.int .i64 x)]).run prog w=.ok (.slice (some ⟨w.heap.size,0,none⟩) 1 1) (w.alloc (.cells #[.int .i64 x] 3)):=by kernel_rfl
theorem bL1R(A:Option Addr)(l c:Nat)(w:World):(Instr.buildSlice 29 1 #[(0,.slice A l c)]).run prog w=.ok (.slice (some ⟨w.heap.size,0,none⟩) 1 1) (w.alloc (.cells #[.slice A l c] 30)):=by kernel_rfl
theorem bL0R(w:World):(Instr.buildSlice 29 0 #[]).run prog w=.ok (.slice (some ⟨w.heap.size,0,none⟩) 0 0) (w.alloc (.cells #[] 30)):=by kernel_rfl
theorem zo1(w:World)(E:TypeId)(sz n0:Nat)(h:n0<=w.heap.size):(w.alloc (.cells #[] E)).ownsRow n0 E sz (.slice (some ⟨w.heap.size,0,none⟩) 0 0) 0 [] :=
 ⟨by simp,.inr ⟨w.heap.size,0,#[],rfl,h,heap_alloc_new w _,zl,by unfold maxLen;omega,by simp,by simp⟩⟩
theorem zwc(w:World)(E:TypeId)(n0:Nat)(u:Value)(h:n0<=w.heap.size):(w.alloc (.cells #[u] E)).ownsRow n0 E 1 (.slice (some ⟨w.heap.size,0,none⟩) 1 1) 1 [u] :=
 ⟨by simp,.inr ⟨w.heap.size,1,#[u],rfl,h,heap_alloc_new w _,zl,by unfold maxLen;omega,by simp,by simp⟩⟩
theorem zsm{W0 W W':World}{n0 n m sz:Nat}{E:TypeId}{v v':Value}{xs news:List Value}(hb:Below n0 W0 W)(hn:n0<=W0.heap.size)(hrow:W.ownsRow n0 E sz v n xs)(ho:W'.ownsRow n0 E sz v' (n+m) (xs++news)){ob:Option Nat}(aj:∀b,ob=some b->n0<=b)(hg:W.grownBy W' ob) :
  ∃A c,v'=.slice A (n+m) c/\n+m<=c/\Below n0 W0 W'/\W'.ownsRow n0 E sz (.slice A (n+m) c) (n+m) (xs++news):=by
 obtain⟨A,c,rfl,hc,-⟩:=zkd ho;exact⟨A,c,rfl,hc,hb.grown hg (Nat.le_trans hn hb.size) aj,ho⟩
theorem RowI.nilA{w:World}{S:Nat->Prop}{A:Option Addr}{l:List Int}(h:RowI w S A l)(hA:A=none):l.length=0:=by
 rcases l with _|⟨x,l⟩
 ·rfl
 ·obtain⟨a,h1,-⟩:=h 0 (by simp);rw[hA]at h1;cases h1
theorem RowI.newsA{w:World}{S:Nat->Prop}{A:Option Addr}{l:List Int}(h:RowI w S A l):∀ad,A=some ad->∀j u,(zkg l)[j]?=some u->w.cell? (ad.add j)=some u:=fun ad e=>by subst e;exact h.news.1
theorem zl0(w:World)(u:Value)(E:TypeId):∀ad,(some ⟨w.heap.size,0,none⟩:Option Addr)=some ad->∀j v,[u][j]?=some v->(w.alloc (.cells #[u] E)).cell? (ad.add j)=some v:=fun ad e=>by
 injection e with e;subst e;exact cell_one_new w u E
theorem zol(x:Int):∀u∈[Value.int .i64 x],u.oneCell'=true:=fun u hu=>by rw[List.mem_singleton.1 hu];rfl
theorem zpG(A:Option Addr)(l c:Nat):∀u∈[Value.slice A l c],u.oneCell'=true:=fun u hu=>by rw[List.mem_singleton.1 hu];rfl
theorem zwb{w:World}{base:Nat}{A:Option Addr}{c:Nat}{xs:List Int}{E:TypeId}(h:w.ownsRow base E 1 (.slice A xs.length c) xs.length (zkg xs))(hf:∀x∈xs,I64 x):RowI w (fun b=>base<=b) A xs:=by
 obtain⟨A',c',e,-,hr⟩:=zlA (xs:=xs) h hf;injection e with e1 _ e3;subst e1 e3;exact hr.mono fun b hb=>(h.lt b hb).1
theorem zkq.push1{W0 we w':World}{B:Nat}{An:Option Addr}{cn:Nat}{acc:List (List Int)}{vs:List Value}{y:List Int}{A:Option Addr}{c:Nat}{v':Value}{wr:World}(hl:vs.length=acc.length)
  (h2:∀k (hk:k<acc.length) (hv:k<vs.length),∃A c,vs[k]=.slice A acc[k].length c/\acc[k].length<=c/\RowI wr (fun q=>B<=q/\(Value.slice An acc.length cn).ownBlock≠some q) A acc[k])
  (hown:∀b,(Value.slice An acc.length cn).ownBlock=some b->B<=b/\b<wr.heap.size)(hb:Below B W0 wr)(hB:B<=W0.heap.size)(hw:Below wr.heap.size wr we)(hc:y.length<=c)(hy:RowI we (fun q=>wr.heap.size<=q) A y)
  (ho:w'.ownsRow B 30 1 v' (acc.length+1) (vs++[.slice A y.length c]))(hg:we.grownBy w' (Value.slice An acc.length cn).ownBlock)(aj:v'.ownBlock=(Value.slice An acc.length cn).ownBlock\/v'.ownBlock=some we.heap.size) :
  ∃A' c',v'=.slice A' (acc.length+1) c'/\Hid (Below B W0 w')/\Hid (zkq w' B (fun q=>B<=q) (.slice A' (acc.length+1) c') (acc++[y])):=by
 obtain⟨A',c',rfl,-⟩:=zkd ho;have hs:=hb.size;have hbe:Below B W0 we:=hb.trans (hw.mono (by omega));refine⟨A',c',rfl,zh (hbe.grown hg (Nat.le_trans hB hbe.size) fun k hk=>(hown k hk).1),zh ?_⟩;have:=zkq.app (W:=we) (W5:=w') (n0:=B) (S:=fun q=>B<=q) (S':=fun q=>B<=q) (v:=.slice An acc.length cn) (v':=.slice A' (acc.length+1) c') (ls:=acc) (ys:=[y]) (vs:=vs) (us:=[.slice A y.length c]) hl rfl
  (fun k hk hv=>by
   obtain⟨A1,c1,e1,e2,e3⟩:=h2 k hk hv;exact⟨A1,c1,e1,e2,e3.later hw⟩) (fun q h _=>h)
  (fun k hk hv=>by
   obtain rfl:k=0:=by simpa using hk
   refine⟨A,c,rfl,hc,hy.keep (fun q h hlt=>⟨by omega,fun e=>by have:=(hown q e).2;omega⟩) fun _ _ _=>rfl⟩) ho hg aj
 simpa using this
def tupF(v:Int)(t:List Int):List (List Int):=(rngZ v).map fun x=>t++[x]
theorem zl3{v:Int}:∀ {j:Nat} {t:List Int},t∈tupE v j->t.length=j
 | 0,t,h=>by simp[tupE]at h;rw[h];rfl
 | j+1,t,h=>by
  simp only[tupE,List.mem_flatMap,List.mem_map]at h;obtain⟨r,hr,x,-,rfl⟩:=h;simp[zl3 hr]
theorem zpv(v:Int)(t:List Int):(tupF v t).length=(rngZ v).length:=by simp[tupF]
theorem zx7{v:Int}{j q m:Nat}{t:List Int}(h:(tupE v j)[q]?=some t)(hm:m<(rngZ v).length):(((tupE v j).take q).flatMap (tupF v)++(tupF v t).take m).length+1<=(tupE v (j+1)).length:=by
 obtain⟨hq,rfl⟩:=List.getElem?_eq_some_iff.1 h;have e:tupE v (j+1)=((tupE v j).take q).flatMap (tupF v)++(tupF v (tupE v j)[q]++((tupE v j).drop (q+1)).flatMap (tupF v)):=by
  have h1:tupE v j=(tupE v j).take q++((tupE v j)[q]::(tupE v j).drop (q+1)):=by rw[<-List.drop_eq_getElem_cons hq,List.take_append_drop]
  calc (tupE v j).flatMap (tupF v)=((tupE v j).take q++((tupE v j)[q]::(tupE v j).drop (q+1))).flatMap (tupF v):=congrArg (fun l=>l.flatMap (tupF v)) h1
   _=_:=by rw[List.flatMap_append,List.flatMap_cons]
 rw[e];simp only[List.length_append,List.length_take,zpv];omega
theorem zvX{v:Int}{j q:Nat}{t:List Int}(h:(tupE v j)[q]?=some t):((tupE v j).take (q+1)).flatMap (tupF v)=((tupE v j).take q).flatMap (tupF v)++tupF v t:=by
 rw[List.take_add_one,h];simp
theorem ztz{v:Int}{t:List Int}{m:Nat}(hm:m<(rngZ v).length):(tupF v t).take (m+1)=(tupF v t).take m++[t++[-v+(m:Int)]]:=by
 rw[List.take_add_one,List.getElem?_eq_getElem (by rw[zpv];exact hm)];simp[tupF,rngZ,Int.sub_eq_add_neg,Int.add_comm]
theorem zsE(v:Int)(n:Nat)(w:World)(hv:0<=v/\v<=1000)(hn:n<=1000)(hm:∀j,j<=n->(tupE v j).length<=1000) :
  Calls prog 91 #[.int .i64 v,.int .i64 (n:Int)] w fun e w'=>Below w.heap.size w w'/\∃u,e=.returned u/\zkq w' w.heap.size (fun q=>w.heap.size<=q) u (tupE v n):=by
 have HM:=zh hm;have hI0:=bI0R;have hI1:=bI1R;have hL1:=bL1R;have hL0:=bL1R none 0 0;have hb1:=zka (zs w) (.cells #[.slice none 0 0] 30);have ho1:=zwc w 30 w.heap.size (.slice none 0 0) zl;obtain⟨N,hN⟩:=zX (w.heap.size);obtain⟨w1,hw1⟩:=zX (w.alloc (.cells #[.slice none 0 0] 30));rw[hw1]at hb1 ho1;rw[hN]at ho1;have yB:=zh (show zkq w1 N (fun q=>N<=q) (.slice (some ⟨N,0,none⟩) 1 1) (tupE v 0)from⟨_,ho1,rfl,fun k hk hv=>by
  obtain rfl:k=0:=by simpa[tupE]using hk
  exact⟨none,0,rfl,Nat.zero_le _,fun i hi=>by simp[tupE]at hi⟩⟩)
 have HB0:=zh hb1;have HN:=zh hN;clear hm hb1 ho1;go_enter func91,ntmps91;go_wp2_with fail
 try rw[hw1]
 try rw[hN]
 clear hw1
 go_loopw [6,5] (fun i ov wr=>∃j:Nat,j<=n/\i=.int .i64 j/\Hid (Below w.heap.size w wr)/\Hid (zkq wr N (fun q=>N<=q) ov (tupE v j))) (fun i _ _=>n-(intOf i).toNat)
 case atStart=>exact⟨0,by omega,rfl,HB0,yB⟩
 case round =>
  clear HB0 yB;obtain⟨j,hj,rfl,HB,HR⟩:=hrel;obtain⟨W0,rfl⟩:∃x,x=wr:=⟨_,rfl⟩
  obtain⟨Ao,co,rfl⟩:=HR.out.slice;by_cases hlt:j<n
  ·have hj1:(j:Int)<(n:Int):=by omega
   have hj0:(0:Int)<=(j:Int):=by omega
   obtain⟨L,hL⟩:=zX ((tupE v j).length);have HL:=zh hL;rw[hL];have hL3:L<=1000:=by rw[<-hL];exact HM.out j (by omega)
   clear hL;have HB1:=zh (show N<=W0.heap.size by have:=HB.out.size;have:=HN.out;omega);obtain⟨B,hB⟩:=zX (W0.heap.size);have dW:=zh hB;rw[hB]at HB1;have e1:IntKind.i64.wrap (0-v) = -v:=by rw[Int.zero_sub];exact IntWalk.i64_in _ (by omega)
   have HRO:=zh (show ∀w',Below B W0 w'->zkq w' N (fun q=>N<=q/\q<B) (.slice Ao (tupE v j).length co) (tupE v j)from fun w' hb=>HR.out.keep (fun q h hlt=>⟨h,by omega⟩) fun q h hlt=>hb.block q (by omega));have HJ1:=zh (HM.out (j+1) (by omega));clear hB HR;go_wp2_with fail
   go_loopw [8,7] (fun k nv wr2=>∃q:Nat,q<=L/\k=.int .i64 q/\Hid (Below B W0 wr2)/\Hid (zkq wr2 B (fun q=>B<=q) nv (((tupE v j).take q).flatMap (tupF v)))) (fun k _ _=>L-(intOf k).toNat)
   case atStart=>exact⟨0,by omega,rfl,zh zr,zh (zkq.nil _ _ _)⟩
   case round =>
    obtain⟨q,hq,rfl,HB2,HR2⟩:=hrel;obtain⟨An,cn,rfl⟩:=HR2.out.slice;by_cases j3:q<L
    ·have hq1:(q:Int)<(L:Int):=by omega
     have hq0:(0:Int)<=(q:Int):=by omega
     have zw:q<(tupE v j).length:=by rw[HL.out];exact j3
     obtain⟨t,ht⟩:=zX ((tupE v j)[q]);have Bo:=zh (show(tupE v j)[q]?=some t by rw[List.getElem?_eq_getElem zw,ht]);obtain⟨R,hR⟩:=zX ((2*v+1).toNat);have gT:=zh (show(rngZ v).length=R by rw[zpC,hR]);have hRv:(R:Int)=2*v+1:=by omega
     have HRO2:=zh (show ∀w',Below B W0 w'->∃g cap A c,(Value.slice Ao L co)=.slice (some ⟨g,0,none⟩) L cap/\w'.cell? ⟨g,q,none⟩=some (.slice A t.length c)/\t.length<=c/\RowI w' (fun b=>b<B) A t from fun w' hb=>by
      obtain⟨g,cap,A,c,h1,h2,h3,h4,h5,h6⟩:=(HRO.out w' hb).nd zw;rw[ht]at h4 h5 h6;rw[HL.out]at h1;exact⟨g,cap,A,c,h1,h4,h5,h6.mono fun b hb=>hb.1.2⟩)
     clear zw ht hR;go_wp2_with fail
     go_loopw [9,7] (fun x nv wr3=>∃m:Nat,m<=R/\x=.int .i64 (-v+(m:Int))/\Hid (Below B W0 wr3)/\Hid (zkq wr3 B (fun q=>B<=q) nv (((tupE v j).take q).flatMap (tupF v)++(tupF v t).take m))) (fun x _ _=>R-(intOf x+v).toNat)
     case atStart=>exact⟨0,by omega,by simp,HB2,zh (by simpa using HR2.out)⟩
     case round =>
      clear HR2 HB2;obtain⟨m,hm,rfl,HB3,HR3⟩:=hrel;obtain⟨An,cn,rfl⟩:=HR3.out.slice;by_cases lC:m<R
      ·have hm1 : -v+(m:Int)<=v:=by omega
       obtain⟨g,cap,A,c,hgv,hcg,htc,htr⟩:=HRO2.out wr HB3.out;injection hgv with hg1 hg2 hg3;subst hg1 hg3;obtain⟨vs,hown,hvl,hvs⟩:=HR3.out;obtain⟨acc,hacc⟩:=zX (((tupE v j).take q).flatMap (tupF v)++(tupF v t).take m);have HACC:=zh hacc;rw[hacc]at hown hvl hvs;have hal:acc.length+1<=1000:=by
        have:=zx7 Bo.out (m:=m) (by rw[gT.out];exact lC);rw[hacc]at this;have h9:=HJ1.out;omega
       rw[hacc];obtain⟨x,hx⟩:=zX (-v+(m:Int));have HX:=zh hx;have uS:I64 x:=⟨by omega,by omega⟩
       rw[hx]at hm1 ⊢;clear hx hacc;have iN:=zh (show B<=wr.heap.size by have:=HB3.out.size;have:=dW.out;omega);have Bh:=zh (And.intro hvl hvs);have HOW:=zh hown;have q9:=zh htr;have qK:=zka (zs wr) (.cells #[] 3);have howa:=zo1 wr 3 1 wr.heap.size zl;have hla:t.length<=1000:=by have:=zl3 (List.mem_of_getElem? Bo.out);omega
       clear hvl hvs hown htr;have hHA:=fun v' w' ho hg=>zsm (W0:=wr) (n0:=wr.heap.size) (v':=v') (W':=w') (m:=t.length) (news:=zkg t) qK zl howa ho (ob:=(Value.slice (some ⟨wr.heap.size,0,none⟩) 0 0).ownBlock) (fun b hb=>by injection hb with hb;exact Nat.le_of_eq hb) hg;have HHA:=zh hHA;have hcg2:=zb qK hcg;have htl:=fun w' (hb:Below wr.heap.size wr w')=>q9.out.later hb;have hw1:IntKind.i64.wrap (x+1)=x+1:=IntWalk.i64_in _ (by have:=HX.out;omega)
       have iU:=zh (show ∀w2 A2 c2,t.length+1<=c2->Below wr.heap.size wr w2->w2.ownsRow wr.heap.size 3 1 (.slice A2 (t.length+1) c2) (t.length+1) (zkg t++[.int .i64 x])->∀v3 w3,w3.ownsRow B 30 1 v3 (acc.length+1) (vs++[.slice A2 (t.length+1) c2])->(w2.alloc (.cells #[.slice A2 (t.length+1) c2] 30)).grownBy w3 (Value.slice An acc.length cn).ownBlock->(v3.ownBlock=(Value.slice An acc.length cn).ownBlock\/v3.ownBlock=some (w2.alloc (.cells #[.slice A2 (t.length+1) c2] 30)).heap.size) ->
         ∃A' c',v3=.slice A' (acc.length+1) c'/\Hid (Below B W0 w3)/\Hid (zkq w3 B (fun q=>B<=q) (.slice A' (acc.length+1) c') (acc++[t++[x]]))from fun w2 A2 c2 h1 h2 h3 v3 w3 h4 h5 h6=>by
        have hl:(t++[x]).length=t.length+1:=by simp
        have hfl:zkg (t++[x])=zkg t++[.int .i64 x]:=by simp[zkg]
        have h7:=zwb (w:=w2) (base:=wr.heap.size) (A:=A2) (c:=c2) (xs:=t++[x]) (E:=3) (by rw[hl,hfl];exact h3) (fun y hy=>by
         rcases List.mem_append.1 hy with hy|hy
         ·exact q9.out.fits y hy
         ·rw[List.mem_singleton.1 hy];exact uS)
        exact zkq.push1 (y:=t++[x]) (A:=A2) (c:=c2) Bh.out.1 Bh.out.2 (fun b hb=>HOW.out.lt b hb) HB3.out (Nat.le_of_eq dW.out.symm) (zka h2 _) (by rw[hl];exact h1) (h7.later (zka zr _)) (by rw[hl];exact h4) h5 h6)
       go_wp2_with (at_builtin;first
        | (refine zki rfl (.tmp 30) (.tmp 34) rfl underlying30 zlO rfl (by decide) (by decide) wr.heap.size (.slice (some ⟨wr.heap.size,0,none⟩) 0 0) 0 [] rfl howa A t.length c (zkg t) rfl (by simp[zkg]) (RowI.nilA q9.out) (RowI.newsA (htl _ qK)) (zow t) (by omega) (by simp) ?_;intro v1 w1 ho hg aj;obtain⟨A1,c1,rfl,hc1,hb1,ho1⟩:=HHA.out _ _ ho hg;clear ho hg aj;rw[Nat.zero_add]at ho1 hc1;rw[List.nil_append]at ho1)
        | (refine zki rfl (.tmp 35) (.tmp 37) rfl underlying30 zlO rfl (by decide) (by decide) wr.heap.size (.slice A1 t.length c1) t.length (zkg t) rfl (zko ho1 (zka zr _)) (some ⟨w1.heap.size,0,none⟩) 1 1 [.int .i64 x] rfl rfl (fun e=>by cases e) (zl0 w1 _ _) (zol x) (by omega) (Nat.le_trans hb1.size (zka zr _).size) ?_;intro v2 w2 ho hg aj;obtain⟨A2,c2,rfl,hc2,hb2,ho2⟩:=zsm (zka hb1 (.cells #[.int .i64 x] 3)) zl (zko ho1 (zka zr _)) ho (fun b hb=>(ho1.lt b hb).1) hg;clear ho hg aj)
        | (refine zki rfl (.tmp 29) (.tmp 39) rfl underlying29 zm6 rfl (by decide) (by decide) B (.slice An acc.length cn) acc.length vs rfl (zko HOW.out (zka hb2 _)) (some ⟨w2.heap.size,0,none⟩) 1 1 [.slice A2 (t.length+1) c2] rfl rfl (fun e=>by cases e) (zl0 w2 _ _) (zpG _ _ _) (by omega) (Nat.le_trans iN.out (zka hb2 _).size) ?_;intro v3 w3 ho hg aj;obtain⟨A3,c3,rfl,aF,bI⟩:=iU.out w2 A2 c2 hc2 hb2 ho2 _ _ ho hg aj;clear ho hg aj))
       go_roundw
       case rel =>
        refine⟨m+1,by omega,?_,aF,zh ?_⟩
        ·have:=HX.out;rw[show -v+((m+1:Nat):Int)=x+1 by omega]
        ·have h:=bI.out;rw[ztz (by rw[gT.out];exact lC),<-List.append_assoc,HACC.out,HX.out];exact h
       case measure=>have:=HX.out;simp only[intOf];omega
      ·obtain rfl:m=R:=by omega
       have hm1:¬ -v+(m:Int)<=v:=by omega
       go_wp2_with fail
       go_roundw
       case rel =>
        refine⟨q+1,by omega,by go_num,HB3,zh ?_⟩;have h3:=HR3.out;have e:((tupE v j).take (q+1)).flatMap (tupF v)=((tupE v j).take q).flatMap (tupF v)++(tupF v t).take m:=by rw[zvX Bo.out,List.take_of_length_le (l:=tupF v t) (i:=m) (by rw[zpv,gT.out];omega)]
        rw[e];exact h3
       case measure=>simp[intOf];omega
    ·obtain rfl:q=L:=by omega
     have hq1:¬ (q:Int)<(q:Int):=by omega
     go_wp2_with fail
     go_roundw
     case rel =>
      refine⟨j+1,by omega,by go_num,zh (HB.out.trans (HB2.out.mono (by have:=dW.out;have:=HB.out.size;omega))),zh ?_⟩;have h2:=HR2.out;rw[show tupE v (j+1)=((tupE v j).take q).flatMap (tupF v) by rw[<-HL.out,List.take_length];rfl];exact(h2.base HB1.out).keep (S':=fun q=>N<=q) (fun q h _=>Nat.le_trans HB1.out h) fun _ _ _=>rfl
     case measure=>simp[intOf];omega
  ·obtain rfl:j=n:=by omega
   have hj1:¬ (j:Int)<(j:Int):=by omega
   go_wp2_with fail;go_ret;exact⟨by rw[<-HN.out];exact HB.out,_,rfl,HR.out⟩
theorem zr3{w:World}{n0 n:Nat}{E:TypeId}{A:Option Addr}{c:Nat}{us:List Value}(h:w.ownsRow n0 E 1 (.slice A n c) n us):(A=none->n=0)/\(∀ad,A=some ad->∀j u,us[j]?=some u->w.cell? (ad.add j)=some u)/\us.length=n*1:=by
 refine⟨fun e=>?_,fun ad e j u hj=>?_,h.1⟩
 ·subst e;rcases h.2 with⟨e1,e2⟩|⟨g,cap,cur,e1,-⟩
  ·exact e2
  ·cases e1
 ·subst e;rcases h.2 with⟨e1,-⟩|⟨g,cap,cur,e1,-⟩
  ·cases e1
  ·injection e1 with e1 e2 e3;injection e1 with e1;subst e1 e3;rw[Addr.add_lit,Nat.zero_add,h.cellAt j (by have:=(List.getElem?_eq_some_iff.1 hj).1;have:=h.1;omega)];exact hj
theorem zkq.join{W0 w1 w':World}{N:Nat}{v v' u:Value}{ls ys:List (List Int)}{vs us:List Value}{wr:World}(hb:Below N W0 wr)(hN:N<=W0.heap.size)(hw:Below wr.heap.size wr w1)(hl:vs.length=ls.length)
  (hown:wr.ownsRow N 30 1 v ls.length vs)(h2:∀k (hk:k<ls.length) (hv:k<vs.length),∃A c,vs[k]=.slice A ls[k].length c/\ls[k].length<=c/\RowI wr (fun q=>N<=q/\v.ownBlock≠some q) A ls[k])
  (ku:us.length=ys.length)(hy:∀k (hk:k<ys.length) (hv:k<us.length),∃A c,us[k]=.slice A ys[k].length c/\ys[k].length<=c/\RowI w1 (fun q=>wr.heap.size<=q/\u.ownBlock≠some q) A ys[k])
  (ho:w'.ownsRow N 30 1 v' (ls.length+ys.length) (vs++us))(hg:w1.grownBy w' v.ownBlock)(aj:v'.ownBlock=v.ownBlock\/v'.ownBlock=some w1.heap.size) :
  ∃A' c',v'=.slice A' (ls.length+ys.length) c'/\Hid (Below N W0 w')/\Hid (zkq w' N (fun q=>N<=q) (.slice A' (ls.length+ys.length) c') (ls++ys)):=by
 obtain⟨A',c',rfl,-⟩:=zkd ho;have hs:=hb.size;have hbe:Below N W0 w1:=hb.trans (hw.mono (by omega));refine⟨A',c',rfl,zh (hbe.grown hg (Nat.le_trans hN hbe.size) fun k hk=>(hown.lt k hk).1),zh ?_⟩;exact zkq.app (W:=w1) (S:=fun q=>N<=q) (S':=fun q=>N<=q) hl ku
  (fun k hk hv=>by
   obtain⟨A1,c1,e1,e2,e3⟩:=h2 k hk hv;exact⟨A1,c1,e1,e2,e3.later hw⟩) (fun q h _=>h)
  (fun k hk hv=>by
   obtain⟨A1,c1,e1,e2,e3⟩:=hy k hk hv;exact⟨A1,c1,e1,e2,e3.keep (fun q h hlt=>⟨by omega,fun e=>by have:=(hown.lt q e).2;omega⟩) fun _ _ _=>rfl⟩) ho hg aj
theorem zzp{w:World}{P:Nat->Prop}{us:List Value}{ys:List (List Int)}(hl:us.length=ys.length)(hy:∀k (hk:k<ys.length) (hv:k<us.length),∃A c,us[k]=.slice A ys[k].length c/\ys[k].length<=c/\RowI w P A ys[k]):∀u∈us,u.oneCell'=true:=fun u hu=>by
 obtain⟨k,hk,rfl⟩:=List.mem_iff_getElem.1 hu;obtain⟨A,c,e,-⟩:=hy k (by omega) hk;rw[e];rfl
theorem znk{v:Int}{a:Nat}(j:Nat):(List.range (j+1)).flatMap (fun i=>tupE v (a+i))=(List.range j).flatMap (fun i=>tupE v (a+i))++tupE v (a+j):=by
 rw[List.range_succ,List.flatMap_append];simp
theorem zyQ{v:Int}{a j K:Nat}(h:j<=K):((List.range j).flatMap (fun i=>tupE v (a+i))).length<=((List.range K).flatMap (fun i=>tupE v (a+i))).length:=by
 induction K with
 | zero =>
  obtain rfl:j=0:=by omega
  exact zl
 | succ K ih =>
  by_cases e:j=K+1
  ·rw[e];exact zl
  ·rw[znk K,List.length_append];have:=ih (by omega);omega
theorem ztA{v:Int}(hv:0<=v):∀ {i j:Nat},i<=j->(tupE v i).length<=(tupE v j).length:=by
 intro i j h
 induction j with
 | zero =>
  obtain rfl:i=0:=by omega
  exact zl
 | succ j ih =>
  by_cases e:i=j+1
  ·rw[e];exact zl
  ·refine Nat.le_trans (ih (by omega)) ?_;have hs:∀l:List (List Int),l.length<=(l.flatMap fun t=>(rngZ v).map fun x=>t++[x]).length:=by
    intro l
    induction l with
    | nil=>exact zl
    | cons t l ih2 =>
     rw[List.flatMap_cons,List.length_append,List.length_map,zpC,List.length_cons];omega
   exact hs _
theorem zrp(v:Int)(a m:Nat)(w:World)(hv:0<=v/\v<=1000)(ha:a<=1000)(wD:m<=1000)(ham:a<=m)(hm:(betE v a m).length<=1000) :
  Calls prog 44 #[.int .i64 v,.int .i64 (a:Int),.int .i64 (m:Int)] w fun e w'=>Below w.heap.size w w'/\∃u,e=.returned u/\zkq w' w.heap.size (fun q=>w.heap.size<=q) u (betE v a m):=by
 obtain⟨K,hK⟩:=zX (m+1-a);have hKm:(a:Int)+(K:Int)=(m:Int)+1:=by omega
 have rP:=zh (show betE v a m=(List.range K).flatMap (fun i=>tupE v (a+i)) by unfold betE;rw[hK]);have dN:=zh (fun j (hj:j<=K)=>show((List.range j).flatMap (fun i=>tupE v (a+i))).length<=1000 by have:=zyQ (v:=v) (a:=a) hj;have h2:=rP.out;rw[h2]at hm;omega);have HTU:=zh (fun j w' (hj:j<K)=>zsE v (a+j) w' hv (by omega) fun i hi=>by
  have h1:=dN.out (j+1) hj;rw[znk,List.length_append]at h1;have:=ztA hv.1 hi;omega)
 obtain⟨N,hN⟩:=zX (w.heap.size);have HN:=zh hN;clear hm hN hK;go_enter func44,ntmps44;go_wp2_with fail
 go_loopw [8,7] (fun i ov wr=>∃j:Nat,j<=K/\i=.int .i64 ((a:Int)+(j:Int))/\Hid (Below w.heap.size w wr)/\Hid (zkq wr w.heap.size (fun q=>w.heap.size<=q) ov ((List.range j).flatMap (fun i=>tupE v (a+i))))) (fun i _ _=>K-(intOf i-(a:Int)).toNat)
 case atStart=>exact⟨0,by omega,by simp,zh zr,zh (zkq.nil _ _ _)⟩
 case round =>
  obtain⟨j,hj,rfl,HB,HR⟩:=hrel;obtain⟨Ao,co,rfl⟩:=HR.out.slice;obtain⟨ls,hls⟩:=zX ((List.range j).flatMap (fun i=>tupE v (a+i)));have xw:=zh hls;rw[hls]at HR ⊢;clear hls;by_cases hlt:j<K
  ·have hj1:(a:Int)+(j:Int)<=(m:Int):=by omega
   have hw1:IntKind.i64.wrap ((a:Int)+(j:Int)+1)=(a:Int)+(j:Int)+1:=IntWalk.i64_in _ (by omega);have HT2:=zh (show Calls _ _ _ _ _ from HTU.out j wr hlt);rw[show(((a+j:Nat)):Int)=(a:Int)+(j:Int) by omega]at HT2;go_wp2_with fail;refine HT2.out.mono ?_;rintro e w1 ⟨hb1,u,rfl,hu⟩;obtain⟨Au,cu,rfl⟩:=hu.slice;obtain⟨us,zk,lh,dS⟩:=hu;obtain⟨vs,hown,hvl,hvs⟩:=HR.out;obtain⟨hn1,hn2,dx⟩:=zr3 zk;have hlen:ls.length+(tupE v (a+j)).length<=1000:=by
    have h1:=dN.out (j+1) (by omega);rw[znk,xw.out,List.length_append]at h1;exact h1
   have h1c:=zzp lh dS;have vL:=zh (fun v' w'=>zkq.join (W0:=w) (N:=w.heap.size) (wr:=wr) (w1:=w1) (v':=v') (w':=w') (u:=.slice Au (tupE v (a+j)).length cu) HB.out zl hb1 hvl hown hvs lh dS);obtain⟨ys,hys⟩:=zX (tupE v (a+j));have HYS:=zh hys;rw[hys]at vL hn1 dx hlen zk ⊢;have hbw:w.heap.size<=w1.heap.size:=Nat.le_trans HB.out.size hb1.size;have howl:=zko hown hb1;clear hb1 lh dS hown hvl hvs zk hys;go_wp2_with (at_builtin;refine zki rfl (.tmp 15) (.tmp 18) rfl underlying29 zm6 rfl (by decide) (by decide) w.heap.size (.slice Ao ls.length co) ls.length vs rfl howl Au ys.length cu us rfl dx hn1 hn2 h1c (by omega) hbw ?_;intro v3 w3 ho hg aj;obtain⟨A3,c3,rfl,aF,bI⟩:=vL.out _ _ ho hg aj;clear ho hg aj)
   go_roundw
   case rel =>
    refine⟨j+1,by omega,by rw[show(a:Int)+((j+1:Nat):Int)=(a:Int)+(j:Int)+1 by omega],aF,zh ?_⟩;have h:=bI.out;rw[znk,xw.out,HYS.out];exact h
   case measure=>simp only[intOf];omega
  ·obtain rfl:j=K:=by omega
   have hj1:¬ (a:Int)+(j:Int)<=(m:Int):=by omega
   go_wp2_with fail;go_ret;exact⟨HB.out,_,rfl,by rw[rP.out,xw.out];exact HR.out⟩
end
section
open Go Go.RowKit
def SmI(l:List Int):Prop:=l.length<=1000000/\∀e∈l,-1000000<=e/\e<=1000000
theorem zqv{l:List Int}{j:Nat}(hj:j<l.length):lw (l.take (j+1))=lw (l.take j)+(1+rnk l[j]):=by
 rw[List.take_succ_eq_append_getElem hj];unfold lw;rw[List.map_append,List.sum_append];congr 1;simp
theorem ztS{x:Int}(h : -1000000<=x/\x<=1000000):0<=rnk x/\rnk x<=2000000:=by unfold rnk;split<;>omega
theorem zKm{l:List Int}(h:SmI l):0<=lw l/\lw l<=l.length*2000001:=by
 have h1:=zqw (l:=l) (h:=2000001) fun e he=>by have:=ztS (h.2 e he);omega
 omega
structure SmS(s:SS):Prop where
 n:s.cells.length<=1000
 c:∀l∈s.cells,SmI l
 i:SmI s.tin
 o:SmI s.tout
theorem zp8{ls:List (List Int)}{j:Nat}(hj:j<ls.length):wt (ls.take (j+1))=wt (ls.take j)+lw ls[j]:=by
 rw[List.take_succ_eq_append_getElem hj];unfold wt;rw[List.map_append,List.sum_append];congr 1;simp
theorem zxD{l:List Int}(h:SmI l):0<=lw l/\lw l<=2000001000000:=by
 have h1:=zKm h;have h2:=h.1;omega
theorem zzj:∀ {ls:List (List Int)},(∀l∈ls,SmI l)->0<=wt ls/\wt ls<=ls.length*2000001000000
 | [],_=>by simp[wt]
 | l::ls,h=>by
  have h1:=zxD (h l (List.mem_cons_self ..));have h2:=zzj (ls:=ls) fun x hx=>h x (List.mem_cons_of_mem _ hx);rw[zps,List.length_cons];omega
attribute [local go_sem] Oper.semAt_some
theorem zqT(x:Int)(w:World)(hx : -1000000<=x/\x<=1000000):Calls prog 128 #[.int .i64 x] w fun e w'=>e=.returned (.int .i64 (rnk x))/\w'=w:=by
 have e1:IntKind.i64.wrap (2*x)=2*x:=IntWalk.i64_in _ (by omega);have e2:IntKind.i64.wrap (2*x-1)=2*x-1:=IntWalk.i64_in _ (by omega);have e3:IntKind.i64.wrap (0-2*x) = -2*x:=by rw[show(0:Int)-2*x = -2*x by omega];exact IntWalk.i64_in _ (by omega)
 go_enter func128,ntmps128;by_cases h:0<x
 ·go_wp2_with fail;go_ret;simp[rnk,h]
 ·go_wp2_with fail;go_ret;exact⟨by rw[show rnk x = -(2*x) by unfold rnk;rw[if_neg (by omega)];omega];rfl,rfl⟩
theorem zr6{A:Option Addr}{m n c:Nat}:(Value.slice A m c).ownBlock=(Value.slice A n c).ownBlock:=by cases A<;>rfl
theorem zkq.addS{W0 wr we w':World}{n0:Nat}{S:Nat->Prop}{v v':Value}{ls ys:List (List Int)}{vs us:List Value}(wJ:∀q,S q->q<n0)(hb:Below n0 W0 wr)(hn:n0<=W0.heap.size)(hown:wr.ownsRow n0 30 1 v ls.length vs)(hl:vs.length=ls.length)
  (h2:∀k (hk:k<ls.length) (hv:k<vs.length),∃A c,vs[k]=.slice A ls[k].length c/\ls[k].length<=c/\RowI wr (fun q=>S q/\v.ownBlock≠some q) A ls[k])(ku:us.length=ys.length)(hw:Below wr.heap.size wr we)
  (hy:∀k (hk:k<ys.length) (hv:k<us.length),∃A c,us[k]=.slice A ys[k].length c/\ys[k].length<=c/\RowI we S A ys[k])
  (ho:w'.ownsRow n0 30 1 v' (ls.length+ys.length) (vs++us))(hg:we.grownBy w' v.ownBlock)(aj:v'.ownBlock=v.ownBlock\/v'.ownBlock=some we.heap.size) :
  ∃A' c',v'=.slice A' (ls.length+ys.length) c'/\Hid (Below n0 W0 w')/\Hid (zkq w' n0 S (.slice A' (ls.length+ys.length) c') (ls++ys)):=by
 obtain⟨A',c',rfl,-⟩:=zkd ho;have hs:=hb.size;have hbe:Below n0 W0 we:=hb.trans (hw.mono (by omega));refine⟨A',c',rfl,zh (hbe.grown hg (Nat.le_trans hn hbe.size) fun k hk=>(hown.lt k hk).1),zh ?_⟩;exact zkq.app (W:=we) (S:=S) (S':=S) hl ku
  (fun k hk hv=>by
   obtain⟨A1,c1,e1,e2,e3⟩:=h2 k hk hv;exact⟨A1,c1,e1,e2,e3.later hw⟩) (fun q h _=>h)
  (fun k hk hv=>by
   obtain⟨A1,c1,e1,e2,e3⟩:=hy k hk hv;exact⟨A1,c1,e1,e2,e3.mono fun q h=>⟨h,fun e=>by have:=(hown.lt q e).1;have:=wJ q h;omega⟩⟩) ho hg aj
theorem bL2R(A B:Option Addr)(l c m d:Nat)(w:World):(Instr.buildSlice 29 2 #[(0,.slice A l c),(1,.slice B m d)]).run prog w=.ok (.slice (some ⟨w.heap.size,0,none⟩) 2 2) (w.alloc (.cells #[.slice A l c,.slice B m d] 30)):=by kernel_rfl
theorem zvW(w:World)(u v:Value)(E:TypeId):∀ad,(some ⟨w.heap.size,0,none⟩:Option Addr)=some ad->∀j x,[u,v][j]?=some x->(w.alloc (.cells #[u,v] E)).cell? (ad.add j)=some x:=fun ad e j x hj=>by
 injection e with e;subst e;have hk:=heap_alloc_new w (.cells #[u,v] E);rw[Addr.add_lit,Nat.zero_add]
 match j,hj with
 | 0,hj=>simp at hj;subst hj;exact zc hk rfl
 | 1,hj=>simp at hj;subst hj;exact zc hk rfl
theorem zvV(A B:Option Addr)(l c m d:Nat):∀u∈[Value.slice A l c,Value.slice B m d],u.oneCell'=true:=fun u hu=>by
 simp only[List.mem_cons,List.not_mem_nil,or_false]at hu;rcases hu with rfl|rfl<;>rfl
theorem zoo(s:SS)(v:Value)(w:World){S:Nat->Prop}(hv:SV w S s v)(hn:s.cells.length<=1000) :
  Calls prog 127 #[v] w fun e w'=>Below w.heap.size w w'/\∃A c,e=.returned (.slice A (s.cells.length+2) c)/\zlo w' (fun q=>S q\/w.heap.size<=q) A (lisS s):=by
 have hv2:=hv.keep (S':=fun q=>S q/\q<w.heap.size) (fun _ h hlt=>⟨h,hlt⟩) fun _ _ _=>rfl;obtain⟨A,c,B,d,D,e,rfl,h1,h2,h3,h4,h5,h6,h7⟩:=hv2;obtain⟨N,hN⟩:=zX (w.heap.size);have hb1:=zka (zs w) (.cells #[.slice A s.cells.length c,.slice B s.tin.length d,.slice D s.tout.length e] 32);have k1:=heap_alloc_new w (.cells #[.slice A s.cells.length c,.slice B s.tin.length d,.slice D s.tout.length e] 32);have hz1:(w.alloc (.cells #[.slice A s.cells.length c,.slice B s.tin.length d,.slice D s.tout.length e] 32)).heap.size=N+1:=by simp[hN]
 obtain⟨w1,hw1⟩:=zX (w.alloc (.cells #[.slice A s.cells.length c,.slice B s.tin.length d,.slice D s.tout.length e] 32));rw[hw1]at hb1 k1 hz1;rw[hN]at k1 h1 h2 h3;have HB1:=zh hb1;have HZ1:=zh hz1;have aB:=zh k1;have HR:=zh (h1.later hb1);have HI:=zh (And.intro (h2.later hb1) (And.intro (h3.later hb1) (And.intro h5 h6)));have hL1:=bL1R;have hL2:=bL2R;obtain⟨n,hn'⟩:=zX (s.cells.length);have HN:=zh hn';rw[hn']at hn k1 aB hw1 ⊢;clear hv h1 h2 h3 h4 h5 h6 h7 hb1 k1 hz1 hn';go_enter func127,ntmps127;go_wp2_with fail
 try rw[hw1]
 try rw[hN]
 clear hw1 hN
 go_loopw [4,3] (fun i ov wr=>∃j:Nat,j<=n/\i=.int .i64 j/\Hid (Below w1.heap.size w1 wr)/\Hid (zkq wr w1.heap.size (fun q=>S q/\q<N) ov (s.cells.take j))) (fun i _ _=>n-(intOf i).toNat)
 case atStart=>exact⟨0,by omega,rfl,zh zr,zh (zkq.nil _ _ _)⟩
 case round =>
  obtain⟨j,hj,rfl,HB,HR2⟩:=hrel;obtain⟨z0,z1,z2⟩:=zky (zkc aB.out HB.out);by_cases hlt:j<n
  ·have hj1:(j:Int)<(n:Int):=by omega
   have hj0:(0:Int)<=(j:Int):=by omega
   have hjs:j<s.cells.length:=by rw[HN.out];exact hlt
   obtain⟨a,A',c',rfl,-,h0,hc,hr⟩:=(HR.out.later HB.out) j hjs;obtain⟨l,hl⟩:=zX (s.cells[j]);rw[hl]at h0 hc hr;have rq:=zh (show s.cells.take (j+1)=s.cells.take j++[l] by rw[List.take_succ_eq_append_getElem hjs,hl]);obtain⟨Ao,co,rfl⟩:=HR2.out.slice;obtain⟨vs,hown,hvl,hvs⟩:=HR2.out;have hlj:(s.cells.take j).length=j:=by rw[List.length_take];omega
   have hown0:=hown;rw[hlj]at hown;have hsz:w1.heap.size<=wr.heap.size:=HB.out.size;have iU:=zh (show ∀v3 w3,w3.ownsRow w1.heap.size 30 1 v3 (j+1) (vs++[.slice A' l.length c'])->(wr.alloc (.cells #[.slice A' l.length c'] 30)).grownBy w3 (Value.slice Ao j co).ownBlock->(v3.ownBlock=(Value.slice Ao j co).ownBlock\/v3.ownBlock=some (wr.alloc (.cells #[.slice A' l.length c'] 30)).heap.size) ->
     ∃A9 c9,v3=.slice A9 (j+1) c9/\Hid (Below w1.heap.size w1 w3)/\Hid (zkq w3 w1.heap.size (fun q=>S q/\q<N) (.slice A9 (j+1) c9) (s.cells.take (j+1)))from fun v3 w3 h1 h2 h3=>by
    rw[rq.out];have hz:=HZ1.out;have:=zkq.addS (W0:=w1) (wr:=wr) (we:=wr.alloc (.cells #[.slice A' l.length c'] 30)) (w':=w3) (n0:=w1.heap.size) (S:=fun q=>S q/\q<N) (v:=.slice Ao (s.cells.take j).length co) (v':=v3) (ls:=s.cells.take j) (ys:=[l]) (vs:=vs) (us:=[.slice A' l.length c']) (fun q h=>by have:=h.2;omega) HB.out zl hown0 hvl hvs rfl (zka zr _)
     (fun k hk hv=>by
      obtain rfl:k=0:=by simpa using hk
      exact⟨A',c',rfl,hc,hr.later (zka zr _)⟩) (by rw[hlj];exact h1) (by rw[zr6 (n:=j)];exact h2) (by rw[zr6 (n:=j)];exact h3)
    rw[hlj]at this;exact this)
   have hown2:=zko hown (zka (zs wr) (.cells #[.slice A' l.length c'] 30));have hs2:w1.heap.size<=(wr.alloc (.cells #[.slice A' l.length c'] 30)).heap.size:=Nat.le_trans hsz (zka (zs wr) _).size;clear hvl hvs hown hown0 hr hc hl;rw[hlj];go_wp2_with (at_builtin;refine zki rfl (.tmp 12) (.tmp 18) rfl underlying29 zm6 rfl (by decide) (by decide) w1.heap.size (.slice Ao j co) j vs rfl hown2 (some ⟨wr.heap.size,0,none⟩) 1 1 [.slice A' l.length c'] rfl rfl (fun e=>by cases e) (zl0 wr _ _) (zpG _ _ _) (by omega) hs2 ?_;intro v3 w3 ho hg aj;obtain⟨A3,c3,rfl,aF,bI⟩:=iU.out _ _ ho hg aj;clear ho hg aj)
   go_roundw
   case rel=>exact⟨j+1,by omega,by go_num,aF,bI⟩
   case measure=>simp[intOf];omega
  ·obtain rfl:j=n:=by omega
   have hj1:¬ (j:Int)<(j:Int):=by omega
   have hlj:s.cells.take j=s.cells:=by rw[<-HN.out,List.take_length]
   rw[hlj]at HR2;obtain⟨Ao,co,rfl⟩:=HR2.out.slice;obtain⟨vs,hown,hvl,hvs⟩:=HR2.out;have hown0:=hown;rw[HN.out]at hown ⊢;have hsz:w1.heap.size<=wr.heap.size:=HB.out.size;have iU:=zh (show ∀v3 w3,w3.ownsRow w1.heap.size 30 1 v3 (j+2) (vs++[.slice B s.tin.length d,.slice D s.tout.length e])->(wr.alloc (.cells #[.slice B s.tin.length d,.slice D s.tout.length e] 30)).grownBy w3 (Value.slice Ao j co).ownBlock->(v3.ownBlock=(Value.slice Ao j co).ownBlock\/v3.ownBlock=some (wr.alloc (.cells #[.slice B s.tin.length d,.slice D s.tout.length e] 30)).heap.size) ->
     ∃A9 c9,v3=.slice A9 (j+2) c9/\Hid (Below w1.heap.size w1 w3)/\Hid (zkq w3 w1.heap.size (fun q=>S q/\q<N) (.slice A9 (j+2) c9) (lisS s))from fun v3 w3 h1 h2 h3=>by
    have hz:=HZ1.out;obtain⟨i1,i2,i3,i4⟩:=HI.out;have:=zkq.addS (W0:=w1) (wr:=wr) (we:=wr.alloc (.cells #[.slice B s.tin.length d,.slice D s.tout.length e] 30)) (w':=w3) (n0:=w1.heap.size) (S:=fun q=>S q/\q<N) (v:=.slice Ao s.cells.length co) (v':=v3) (ls:=s.cells) (ys:=[s.tin,s.tout]) (vs:=vs) (us:=[.slice B s.tin.length d,.slice D s.tout.length e]) (fun q h=>by have:=h.2;omega) HB.out zl hown0 hvl hvs rfl (zka zr _)
     (fun k hk hv=>by
      match k,hk with
      | 0,_=>exact⟨B,d,rfl,i3,(i1.later HB.out).later (zka zr _)⟩
      | 1,_=>exact⟨D,e,rfl,i4,(i2.later HB.out).later (zka zr _)⟩) (by rw[HN.out];exact h1) (by rw[zr6 (n:=j)];exact h2) (by rw[zr6 (n:=j)];exact h3)
    rw[HN.out]at this;exact this)
   have hown2:=zko hown (zka (zs wr) (.cells #[.slice B s.tin.length d,.slice D s.tout.length e] 30));have hs2:w1.heap.size<=(wr.alloc (.cells #[.slice B s.tin.length d,.slice D s.tout.length e] 30)).heap.size:=Nat.le_trans hsz (zka (zs wr) _).size;clear hvl hvs hown hown0 hlj;go_wp2_with (at_builtin;refine zki rfl (.tmp 20) (.tmp 25) rfl underlying29 zm6 rfl (by decide) (by decide) w1.heap.size (.slice Ao j co) j vs rfl hown2 (some ⟨wr.heap.size,0,none⟩) 2 2 [.slice B s.tin.length d,.slice D s.tout.length e] rfl rfl (fun e=>by cases e) (zvW wr _ _ _) (zvV _ _ _ _ _ _) (by omega) hs2 ?_;intro v3 w3 ho hg aj;obtain⟨A3,c3,rfl,aF,bI⟩:=iU.out _ _ ho hg aj;clear ho hg aj)
   go_ret;obtain⟨A8,c8,e8,-,h8⟩:=(bI.out.keep (S':=fun q=>S q\/w.heap.size<=q) (fun q h _=>.inl h.1) fun _ _ _=>rfl).ii fun q h _=>.inr (Nat.le_trans HB1.out.size h);have hll:(lisS s).length=j+2:=by unfold lisS;rw[List.length_append,HN.out];rfl
   injection e8 with e1 e2 e3;subst e1 e3;exact⟨zkb HB1.out aF.out,A3,⟨c3,rfl⟩,h8⟩
theorem zoH(s:SS)(v:Value)(w:World)(hv:SV w Any s v)(hs:SmS s) :
  Calls prog 126 #[v] w fun e w'=>e=.returned (.int .i64 (wt (lisS s)))/\Below w.heap.size w w':=by
 have rF:=zh (fun w' (hb:Below w.heap.size w w')=>zoo s v w' (hv.later hb) hs.n);obtain⟨A,c,B,d,D,e,rfl⟩:∃A c B d D e,v=.agg #[.slice A s.cells.length c,.slice B s.tin.length d,.slice D s.tout.length e]:=by
  obtain⟨A,c,B,d,D,e,rfl,-⟩:=hv;exact⟨_,_,_,_,_,_,rfl⟩
 have qd:=zh zqT;have hb1:=zka (zs w) (.cells #[.slice A s.cells.length c,.slice B s.tin.length d,.slice D s.tout.length e] 32);have k1:=heap_alloc_new w (.cells #[.slice A s.cells.length c,.slice B s.tin.length d,.slice D s.tout.length e] 32);obtain⟨w1,hw1⟩:=zX (w.alloc (.cells #[.slice A s.cells.length c,.slice B s.tin.length d,.slice D s.tout.length e] 32));rw[hw1]at hb1 k1;obtain⟨z0,z1,z2⟩:=zky k1;have HB1:=zh hb1;have gQ:=zh (show ∀l∈lisS s,SmI l from fun l hl=>by
  rcases List.mem_append.1 hl with h|h
  ·exact hs.c l h
  ·simp only[List.mem_cons,List.not_mem_nil,or_false]at h;rcases h with rfl|rfl
   ·exact hs.i
   ·exact hs.o)
 have HN:=zh (show(lisS s).length=s.cells.length+2 by simp[lisS]);have dx:=hs.n;clear hv hb1 k1 hs;obtain⟨n,hn⟩:=zX (s.cells.length+2);have qO:n<=1002:=by omega
 rw[hn]at HN;go_enter func126,ntmps126;go_wp2_with fail;refine(rF.out _ HB1.out).mono ?_;rintro e2 w2 ⟨hb2,A2,c2,rfl,hr2⟩;rw[hn];have HB2:=zh (zkb HB1.out hb2);have HR:=zh (hr2.keep (S':=Any) (fun _ _ _=>trivial) fun _ _ _=>rfl);obtain⟨LL,lG⟩:=zX (lisS s);have bK:=zh lG;rw[lG]at HR gQ HN;clear hb2 hr2 z0 z1 z2 lG hn hw1 rF dx;go_wp2_with fail
 go_loopw [5,4] (fun i x wr=>∃j:Nat,j<=n/\i=.int .i64 j/\x=.int .i64 (wt (LL.take j))/\wr=w2) (fun i _ _=>n-(intOf i).toNat)
 case atStart=>exact⟨0,by omega,rfl,rfl,rfl⟩
 case round =>
  obtain⟨j,hj,rfl,rfl,rfl⟩:=hrel;obtain⟨W9,rfl⟩:∃x,x=wr:=⟨_,rfl⟩
  by_cases hlt:j<n
  ·have hj1:(j:Int)<(n:Int):=by omega
   have hj0:(0:Int)<=(j:Int):=by omega
   have hjl:j<LL.length:=by rw[HN.out];exact hlt
   obtain⟨a,l,Al,cl,rfl,Hl,h0,hlc,hr⟩:=HR.out.nd hjl;have hsm:SmI l:=by rw[<-Hl.out];exact gQ.out _ (List.getElem_mem hjl)
   have yw:=zh (show wt (LL.take (j+1))=wt (LL.take j)+lw l by rw[zp8 hjl,Hl.out]);have gT:=zh hr;have ru:=zh hsm;have hwb:=zzj (fun q hq=>gQ.out q (List.mem_of_mem_take (i:=j) hq));obtain⟨W0,hW0⟩:=zX (wt (LL.take j));rw[hW0]at yw hwb ⊢;obtain⟨m,hm⟩:=zX (l.length);have HM:=zh hm;have hm6:m<=1000000:=by rw[<-hm];exact hsm.1
   rw[hm]at h0;have hwb2:0<=W0/\W0<=1002*2000001000000:=by
    have:(LL.take j).length<=1002:=by rw[List.length_take];omega
    obtain⟨q1,q2⟩:=hwb;refine⟨q1,Int.le_trans q2 ?_⟩;have:((LL.take j).length:Int)<=1002:=by omega
    omega
   clear hr hsm hwb hm hW0 Hl hjl;go_wp2_with fail
   go_loopw [6,4] (fun i x wr=>∃k:Nat,k<=m/\i=.int .i64 k/\x=.int .i64 (W0+lw (l.take k))/\wr=W9) (fun i _ _=>m-(intOf i).toNat)
   case atStart=>exact⟨0,by omega,rfl,by simp[lw],rfl⟩
   case round =>
    obtain⟨k,hk,rfl,rfl,rfl⟩:=hrel;by_cases uW:k<m
    ·have hk1:(k:Int)<(m:Int):=by omega
     have hk0:(0:Int)<=(k:Int):=by omega
     have hkl:k<l.length:=by rw[HM.out];exact uW
     obtain⟨a',e1,-,hx,-⟩:=gT.out k hkl;subst e1;have qJ:=ru.out.2 _ (List.getElem_mem hkl);have HT:=zh (show W0+lw (l.take (k+1))=W0+lw (l.take k)+rnk l[k]+1 by rw[zqv hkl];omega);have iR:=zxD (l:=l.take k) ⟨by rw[List.length_take];omega,fun e he=>ru.out.2 e (List.mem_of_mem_take he)⟩;have hRk:=qd.out l[k] wr qJ;have hrb:=ztS qJ;generalize l[k]=x at *
     obtain⟨r,hr⟩:=zX (rnk x);obtain⟨X,hX⟩:=zX (W0+lw (l.take k));rw[hr]at HT hRk hrb;rw[hX]at HT ⊢;have hXb:0<=X/\X<=3000000000000000:=by omega
     have HRk:=zh hRk;have hw1:IntKind.i64.wrap (X+r)=X+r:=IntWalk.i64_in _ (by omega);have hw2:IntKind.i64.wrap (X+r+1)=X+r+1:=IntWalk.i64_in _ (by omega);clear hr hX iR hRk qJ hkl;go_wp2_with fail;refine HRk.out.mono ?_;rintro e w3 ⟨rfl,rfl⟩;go_wp2_with fail
     go_roundw
     case rel=>exact⟨k+1,by omega,by go_num,by rw[HT.out],trivial⟩
     case measure=>simp[intOf];omega
    ·obtain rfl:k=m:=by omega
     have hk1:¬ (k:Int)<(k:Int):=by omega
     have HE:=zh (show W0+lw (l.take k)=wt (LL.take (j+1)) by rw[yw.out,<-HM.out,List.take_length]);go_wp2_with fail
     go_roundw
     case rel=>exact⟨j+1,by omega,by go_num,by rw[HE.out],trivial⟩
     case measure=>simp[intOf];omega
  ·obtain rfl:j=n:=by omega
   have hj1:¬ (j:Int)<(j:Int):=by omega
   go_wp2_with fail;go_ret;exact⟨by rw[bK.out,<-HN.out,List.take_length];rfl,HB2.out⟩
end
end Go.Proofs.YtembgnhbpmfhpaaGreat
