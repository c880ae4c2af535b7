/-
  Texts of the proof, put together without their remarks: Enq, En1, En4, Ssp, Srq, Ser, Lso.
-/
import Derived.Test.YtembgnhbpmfhpaaGreatK12
import Derived.Deep.Cut
set_option linter.unusedSimpArgs false
set_option linter.unusedVariables false
set_option maxHeartbeats 8000000
set_option maxRecDepth 100000
namespace Go.Proofs.YtembgnhbpmfhpaaGreat
section
open Go Go.RowKit
def maxC:Int:=1099511627776
def prdE(x y:Int):Int:=if maxC.tdiv y<x then maxC+1 else x*y
def lcL(lo:Nat)(v:Int):Nat->Int×Int
 | 0=>(0,1)
 | n+1=>(if lo<=n then min ((lcL lo v n).1+(lcL lo v n).2) (maxC+1)else(lcL lo v n).1,prdE (lcL lo v n).2 v)
def lcE(b:Bn)(v:Int):Int:=(lcL b.1 v (b.2+1)).1
def cntE(v:Int)(bs:List Bn):Int:=bs.foldl (fun s b=>prdE s (lcE b v)) 1
structure Sat(c:Int)(n:Nat):Prop where
 le:c<=maxC->(n:Int)<=c
 top:c<=maxC+1
 pos:0<=c
theorem Sat.prd{c d:Int}{n m:Nat}(h:Sat c n)(h':Sat d m)(hc:1<=c)(hd:1<=d):Sat (prdE c d) (n*m)/\1<=prdE c d:=by
 unfold prdE
 split
 ·exact⟨⟨fun h=>by omega,Int.le_refl _,by unfold maxC;omega⟩,by unfold maxC;omega⟩
 ·rename_i h1;rw[Int.tdiv_eq_ediv_of_nonneg (by unfold maxC;omega)]at h1;have h2:c<=maxC / d:=by omega
  have h3:c*d<=maxC:=by
   have h4:=Int.mul_le_mul_of_nonneg_right h2 (show 0<=d by omega);have h5:=Int.ediv_mul_le maxC (show d≠0 by omega);omega
  have h4:1*1<=c*d:=Int.mul_le_mul hc hd (by decide) (by omega);have h5:c*1<=c*d:=Int.mul_le_mul_of_nonneg_left hd (by omega);have h6:1*d<=c*d:=Int.mul_le_mul_of_nonneg_right hc (by omega);refine⟨⟨fun _=>?_,by omega,by omega⟩,by omega⟩;have a:=h.le (by omega);have b:=h'.le (by omega);rw[Int.natCast_mul];exact Int.mul_le_mul a b (by omega) (by omega)
theorem Sat.sum{c d:Int}{n m:Nat}(h:Sat c n)(h':Sat d m):Sat (min (c+d) (maxC+1)) (n+m):=by
 have h0:=h.pos;have h1:=h'.pos;refine⟨fun hle=>?_,by omega,by unfold maxC;omega⟩;have a:=h.le (by omega);have b:=h'.le (by omega);omega
theorem zKX{v:Nat}(hv:1<=v)(hv2:(v:Int)<=maxC)(lo:Nat):∀n,Sat (lcL lo v n).1 (((List.range (n-lo)).map fun i=>v ^ (lo+i)).sum)/\Sat (lcL lo v n).2 (v ^ n)/\1<=(lcL lo v n).2/\(lo<n->1<=(lcL lo v n).1)
 | 0=>by
  simp only[lcL];refine⟨⟨fun _=>?_,by decide,by decide⟩,⟨fun _=>by simp,by decide,by decide⟩,by decide,fun h=>by omega⟩;rw[Nat.zero_sub];exact Int.le_refl _
 | n+1=>by
  obtain⟨h1,h2,h3,h4⟩:=zKX hv hv2 lo n;have hp:=h2.prd (d:=(v:Int)) (m:=v) ⟨fun _=>Int.le_refl _,by omega,by omega⟩ h3 (by omega);rw[lcL];refine⟨?_,by rw[Nat.pow_succ];exact hp.1,hp.2,fun hl=>?_⟩
  ·simp only
   split
   ·rename_i hl;rw[show n+1-lo=(n-lo)+1 by omega,List.range_succ,List.map_append,List.sum_append];simp only[List.map_cons,List.map_nil,List.sum_cons,List.sum_nil,Nat.add_zero];rw[show lo+(n-lo)=n by omega];exact h1.sum h2
   ·rename_i hl;rw[show n+1-lo=n-lo by omega];exact h1
  ·have:=h1.pos;simp only;rw[if_pos (by omega)];unfold maxC;omega
theorem zKY{v:Nat}(hv:1<=v)(hv2:(v:Int)<=maxC){b:Bn}(hb:b.1<=b.2):Sat (lcE b v) (nLst v b)/\1<=lcE b v:=by
 obtain⟨h1,-,-,h4⟩:=zKX hv hv2 b.1 (b.2+1);exact⟨h1,h4 (by omega)⟩
theorem zKZ{v:Nat}(hv:1<=v)(hv2:(v:Int)<=maxC):∀(bs:List Bn) (c:Int) (n:Nat),(∀b∈bs,b.1<=b.2)->Sat c n->1<=c->Sat (bs.foldl (fun s b=>prdE s (lcE b v)) c) (n*nAll v bs)/\1<=bs.foldl (fun s b=>prdE s (lcE b v)) c
 | [],c,n,_,h,hc=>by rw[nAll,Nat.mul_one];exact⟨h,hc⟩
 | b::bs,c,n,hb,h,hc=>by
  obtain⟨a1,a2⟩:=zKY hv hv2 (hb b (List.mem_cons_self ..));obtain⟨b1,b2⟩:=h.prd a1 hc a2;have:=zKZ hv hv2 bs _ _ (fun x hx=>hb x (List.mem_cons_of_mem _ hx)) b1 b2;rw[List.foldl_cons,nAll,<-Nat.mul_assoc];exact this
theorem zLe{v:Nat}(hv:1<=v)(hv2:(v:Int)<=maxC){bs:List Bn}(hb:∀b∈bs,b.1<=b.2)(hc:cntE v bs<=maxC):((allB v bs).length:Int)<=cntE v bs:=by
 have h1:=(zKZ hv hv2 bs 1 1 hb ⟨fun _=>Int.le_refl _,by decide,by decide⟩ (by decide)).1.le hc;have h2:=zy4 (h:=v) (by omega) hb;rw[Nat.one_mul]at h1;unfold cntE at hc ⊢;omega
theorem zr2(x y:Int)(w:World)(hx:0<=x/\x<=maxC+1)(hy:1<=y/\y<=maxC+1):Calls Tryz.prog 52 #[.int .i64 x,.int .i64 y] w fun e w'=>e=.returned (.int .i64 (prdE x y))/\w'=w:=by
 obtain⟨q,hq⟩:=zX ((1099511627776:Int).tdiv y);have hq1:0<=q/\q<=1099511627776:=by
  rw[<-hq,Int.tdiv_eq_ediv_of_nonneg (by decide)];exact⟨Int.ediv_nonneg (by decide) (by omega),Int.ediv_le_self _ (by decide)⟩
 have hwq:IntKind.i64.wrap q=q:=IntWalk.i64_in _ (by omega);have hy0:¬ y=0:=by omega
 have HP:=zh (show prdE x y=if q<x then 1099511627777 else x*y by unfold prdE maxC;rw[hq];rfl);by_cases h:q<x
 ·have HN:=zh (HP.out.trans (if_pos h));go_enter Tryz.func52,Tryz.ntmps52;go_wp2_with fail;go_ret;exact⟨by rw[HN.out];rfl,rfl⟩
 ·have hm:0<=x*y/\x*y<=1099511627776:=by
   have h1:x<=1099511627776 / y:=by rw[Int.tdiv_eq_ediv_of_nonneg (by decide)]at hq;omega
   have h2:=Int.mul_le_mul_of_nonneg_right h1 (show 0<=y by omega);have h3:=Int.ediv_mul_le 1099511627776 (show y≠0 by omega);exact⟨Int.mul_nonneg hx.1 (by omega),by omega⟩
  have HN:=zh (HP.out.trans (if_neg h));have xP:IntKind.i64.wrap (x*y)=x*y:=IntWalk.i64_in _ (by omega);go_enter Tryz.func52,Tryz.ntmps52;go_wp2_with fail;go_ret;exact⟨by rw[HN.out];rfl,rfl⟩
theorem zLh{v:Nat}(hv:1<=v)(hv2:(v:Int)<=maxC)(lo n:Nat):0<=(lcL lo v n).1/\(lcL lo v n).1<=maxC+1/\1<=(lcL lo v n).2/\(lcL lo v n).2<=maxC+1:=by
 obtain⟨h1,h2,h3,-⟩:=zKX hv hv2 lo n;exact⟨h1.pos,h1.top,h3,h2.top⟩
theorem zKV(b:Bn)(v:Nat)(w:World)(hb:b.1<=1000000/\b.2<=1000000)(hv:1<=v)(hv2:v<=1000000) :
  Calls Tryz.prog 53 #[.agg #[.int .i64 (b.1:Int),.int .i64 (b.2:Int)],.int .i64 (v:Int)] w fun e w'=>e=.returned (.int .i64 (lcE b v))/\Below w.heap.size w w':=by
 obtain⟨lo,hi⟩:=b;simp only at hb;have Ci:=zh (fun n=>zLh hv (by unfold maxC;omega) lo n);have dH:=zh (show lcE (lo,hi) v=(lcL lo v (hi+1)).1 from rfl);have HV:=zh (And.intro hv hv2);have hb1:=zkb (zs w) (.cells #[.int .i64 (lo:Int),.int .i64 (hi:Int)] 102);have hk1:=heap_alloc_new w (.cells #[.int .i64 (lo:Int),.int .i64 (hi:Int)] 102);have hwh:IntKind.i64.wrap ((hi:Int)+1)=(hi:Int)+1:=IntWalk.i64_in _ (by omega);go_enter Tryz.func53,Tryz.ntmps53;go_upto_region 2 with fail;obtain⟨w1,hw1⟩:=zX (w.alloc (.cells #[.int .i64 (lo:Int),.int .i64 (hi:Int)] 102));rw[hw1]at hb1 hk1 ⊢;have x0:w1.cell? ⟨w.heap.size,0,none⟩=some (.int .i64 (lo:Int)):=zc hk1 rfl;have x1:w1.cell? ⟨w.heap.size,1,none⟩=some (.int .i64 (hi:Int)):=zc hk1 rfl;have HB1:=zh hb1;clear hw1 hb1 hk1;go_wp2_with fail
 go_loopw [11,5,6] (fun i s p wr=>∃n:Nat,n<=hi+1/\i=.int .i64 n/\s=.int .i64 (lcL lo v n).1/\p=.int .i64 (lcL lo v n).2/\wr=w1) (fun i _ _ _=>hi+1-(intOf i).toNat)
 case atStart=>exact⟨0,Nat.zero_le _,rfl,rfl,rfl,rfl⟩
 case round =>
  obtain⟨n,hn,rfl,rfl,rfl,rfl⟩:=hrel;obtain⟨S,hS⟩:=zX ((lcL lo v n).1);obtain⟨Q,hQ⟩:=zX ((lcL lo v n).2);have HX:=zh (show lcL lo v (n+1)=(if lo<=n then min (S+Q) (maxC+1)else S,prdE Q v) by rw[lcL,hS,hQ]);have hT:=Ci.out n;rw[hS,hQ]at hT;have HT:=zh hT;rw[hS,hQ];have av:=zh hS;clear hT hS hQ;have gX:=zh (zr2 Q v wr ⟨by have:=HT.out;omega,HT.out.2.2.2⟩ ⟨by have:=HV.out;omega,by have:=HV.out;unfold maxC;omega⟩);by_cases hlt:n<hi+1
  ·have hn1:(n:Int)<(hi:Int)+1:=by omega
   have hwn:IntKind.i64.wrap ((n:Int)+1)=(n:Int)+1:=IntWalk.i64_in _ (by omega);by_cases hl:lo<=n
   ·have hl1:(lo:Int)<=(n:Int):=by omega
    have hws:IntKind.i64.wrap (S+Q)=S+Q:=IntWalk.i64_in _ (by have:=HT.out;unfold maxC at this;omega);go_wp2_with fail
    all_goals
     refine gX.out.mono ?_;rintro e w2 ⟨rfl,hw2⟩;rw[hw2];go_wp2_with fail
     go_roundw
     case rel=>exact⟨n+1,by omega,by go_num,by rw[HX.out,if_pos hl];exact congrArg (Value.int .i64) (show _=min (S+Q) (maxC+1) by unfold maxC;omega),by rw[HX.out],trivial⟩
     case measure=>simp[intOf];omega
   ·have hl1:¬ (lo:Int)<=(n:Int):=by omega
    go_wp2_with fail;refine gX.out.mono ?_;rintro e w2 ⟨rfl,hw2⟩;rw[hw2];go_wp2_with fail
    go_roundw
    case rel=>exact⟨n+1,by omega,by go_num,by rw[HX.out,if_neg hl],by rw[HX.out],trivial⟩
    case measure=>simp[intOf];omega
  ·have hn1:¬ (n:Int)<(hi:Int)+1:=by omega
   obtain rfl:n=hi+1:=by omega
   have HF:=zh (dH.out.trans av.out);go_wp2_with fail;go_ret;exact⟨by rw[HF.out];rfl,HB1.out⟩
def cntR(vs:List VD)(b:BX):Int×Int:=if (b.ok&&svB vs)=true then(if maxC<cntE (2*b.v+1) (lenE vs b)then(0,5)else(cntE (2*b.v+1) (lenE vs b),0))else(0,1)
theorem zLb(vs:List VD)(b:BX)(A:Option Addr)(c:Nat)(w:World)(hrow:RowV w Any A vs)(hl:vs.length<=LV):Calls Tryz.prog 17 #[.slice A vs.length c,.agg #[.int .i64 b.v,.int .i64 b.l,.int .i64 b.i]] w (NumE (cntR vs b) w):=by
 obtain⟨bv,bl,bi⟩:=b;simp only;have hb1:=zkb (zs w) (.cells #[.int .i64 bv,.int .i64 bl,.int .i64 bi] 24);have hk1:=heap_alloc_new w (.cells #[.int .i64 bv,.int .i64 bl,.int .i64 bi] 24);have bD:=zh (fun w' (hb:Below w.heap.size w w')=>zrh vs ⟨bv,bl,bi⟩ A c w' (hrow.later hb) hl);clear hrow hl;go_enter Tryz.func17,Tryz.ntmps17;go_upto_region 1 with fail;obtain⟨w1,hw1⟩:=zX (w.alloc (.cells #[.int .i64 bv,.int .i64 bl,.int .i64 bi] 24));rw[hw1]at hb1 hk1 ⊢;obtain⟨x0,x1,x2⟩:=zkr hk1;have HB1:=zh hb1;have az:=zh hk1;clear hw1 hb1 hk1;go_wp2_with fail;refine(bD.out _ HB1.out).mono ?_;rintro e w2 ⟨hb2,⟨hok,rfl⟩|⟨hok,A2,c2,rfl,hrb⟩⟩
 ·have HF:=zh (show cntR vs ⟨bv,bl,bi⟩=(0,1) by unfold cntR;rw[hok];rfl);have HB2:=zh (zka HB1.out hb2);clear hok x0 x1 x2 hb2;go_wp2_with fail;go_ret2;rw[HF.out];exact⟨rfl,HB2.out⟩
 ·obtain⟨l1,l2,l3,l4,l5⟩:=zlI hok;simp only at l4 l5;have hR:cntR vs ⟨bv,bl,bi⟩=if maxC<cntE (2*bv+1) (lenE vs ⟨bv,bl,bi⟩)then(0,5)else(cntE (2*bv+1) (lenE vs ⟨bv,bl,bi⟩),0):=by unfold cntR;rw[hok];rfl
  obtain⟨bs,hbs⟩:=zX (lenE vs ⟨bv,bl,bi⟩);rw[hbs]at l1 l3 hrb hR;rw[<-l1];obtain⟨n,hn⟩:=zX (bs.length);rw[hn]at l1 ⊢;obtain⟨h,rfl⟩:∃h:Nat,bv=(h:Int):=⟨bv.toNat,by omega⟩
  have HR:=zh hR;have di:=zh hrb;have xn:=zh l3;have HN:=zh hn;have HB2:=zh (zka HB1.out hb2);have HKB2:=zh (zkc az.out hb2);have hn33:n<=33:=by omega
  have hh:h<=1000:=by omega
  have xP:IntKind.i64.wrap (2*(h:Int))=2*(h:Int):=IntWalk.i64_in _ (by omega);have hwp:IntKind.i64.wrap (2*(h:Int)+1)=2*(h:Int)+1:=IntWalk.i64_in _ (by omega);clear hR hrb hbs hn l1 l2 l3 l4 l5 hok x0 x1 x2 hb2 bD;go_wp2_with fail
  go_loopw [21,8] (fun i s wr=>∃j:Nat,j<=n/\i=.int .i64 j/\s=.int .i64 (cntE (2*(h:Int)+1) (bs.take j))/\Hid (Below w2.heap.size w2 wr)) (fun i _ _=>n-(intOf i).toNat)
  case atStart=>exact⟨0,Nat.zero_le _,rfl,rfl,zh zr⟩
  case round =>
   obtain⟨j,hj,rfl,rfl,af⟩:=hrel;obtain⟨x0,x1,x2⟩:=zkr (zkc HKB2.out af.out);have BZ:=zKZ (v:=2*h+1) (by omega) (by unfold maxC;omega) (bs.take j) 1 1 (fun q hq=>(xn.out q (List.mem_of_mem_take hq)).1) ⟨fun _=>Int.le_refl _,by decide,by decide⟩ (by decide);have hS:bs.foldl (fun s b=>prdE s (lcE b (2*(h:Int)+1))) 1=cntE (2*(h:Int)+1) bs:=rfl;obtain⟨S,hSS⟩:=zX (cntE (2*(h:Int)+1) (bs.take j));have hs1:1<=S/\S<=maxC+1:=by
    rw[<-hSS];exact⟨BZ.2,BZ.1.top⟩
   rw[hSS];clear BZ hS;by_cases hlt:j<n
   ·have hj1:(j:Int)<(n:Int):=by omega
    have hj0:(0:Int)<=(j:Int):=by omega
    have hlb:j<bs.length:=by rw[HN.out];exact hlt
    obtain⟨a,rfl,-,p0,p1⟩:=(di.out.later af.out) j hlb;obtain⟨q1,q2,q3⟩:=xn.out bs[j] (List.getElem_mem hlb);have hstep:cntE (2*(h:Int)+1) (bs.take (j+1))=prdE S (lcE bs[j] (2*(h:Int)+1)):=by
     rw[List.take_succ_eq_append_getElem hlb,<-hSS];unfold cntE;rw[List.foldl_append];rfl
    have hlc:=zKY (v:=2*h+1) (by omega) (by unfold maxC;omega) q1;have nz:=zh (fun w'=>zKV bs[j] (2*h+1) w' (by omega) (by omega) (by omega));obtain⟨⟨lo,hi⟩,hq⟩:=zX (bs[j]);rw[hq]at p0 p1 hstep hlc nz;simp only at p0 p1 nz;have HST:=zh hstep;obtain⟨M,hM⟩:=zX (lcE (lo,hi) (2*(h:Int)+1));have hcast:(((2*h+1:Nat):Int))=2*(h:Int)+1:=by omega
    rw[hcast,hM]at nz hlc;rw[hM]at HST;have gX:=zh (fun w'=>zr2 S M w' ⟨by omega,hs1.2⟩ ⟨hlc.2,hlc.1.top⟩);have hb4:=zkb (zs wr) (.cells #[.int .i64 (lo:Int),.int .i64 (hi:Int)] 102);have hk4:=heap_alloc_new wr (.cells #[.int .i64 (lo:Int),.int .i64 (hi:Int)] 102);obtain⟨w4,hw4⟩:=zX (wr.alloc (.cells #[.int .i64 (lo:Int),.int .i64 (hi:Int)] 102));rw[hw4]at hb4 hk4;have aF:=zh (zka af.out hb4);have y0:=zb hb4 x0;have z0:w4.cell? ⟨wr.heap.size,0,none⟩=some (.int .i64 (lo:Int)):=zc hk4 rfl;have z1:w4.cell? ⟨wr.heap.size,1,none⟩=some (.int .i64 (hi:Int)):=zc hk4 rfl;clear hstep hlc hM hq q1 q2 q3 hcast x0 x1 x2 hb4 hk4;go_wp2_with fail;refine(nz.out _).mono ?_;rintro e w5 ⟨rfl,hb5⟩;have aP:=zh (zka aF.out hb5);clear hb5 y0 z0 z1 hw4;go_wp2_with fail;refine(gX.out _).mono ?_;rintro e w6 ⟨rfl,rfl⟩;go_wp2_with fail
    go_roundw
    case rel=>exact⟨j+1,by omega,by go_num,by rw[HST.out],aP⟩
    case measure=>simp[intOf];omega
   ·obtain rfl:j=n:=by omega
    have hj1:¬ (j:Int)<(j:Int):=by omega
    have hfin:cntE (2*(h:Int)+1) bs=S:=by rw[<-hSS,List.take_of_length_le (by rw[HN.out];exact zl)]
    have hR:=HR.out;rw[hfin]at hR;by_cases hbig:(1099511627776:Int)<S
    ·have HF:=zh (hR.trans (if_pos (show maxC<S from hbig)));clear hR hfin hSS;go_wp2_with fail;go_ret2;exact⟨by rw[HF.out];rfl,zka HB2.out af.out⟩
    ·have HF:=zh (hR.trans (if_neg (show ¬ maxC<S from hbig)));clear hR hfin hSS;go_wp2_with fail;go_ret2;exact⟨by rw[HF.out];rfl,zka HB2.out af.out⟩
theorem zLc(f:SS->Bool)(l:List SS):(fndE f l).2.2=true↔∃s∈l,f s=true:=by
 rcases zoo f l with⟨a,s,b,h1,h2,h3,h4⟩|⟨h2,h4⟩
 ·rw[h4];exact⟨fun _=>⟨s,by rw[h1];simp,h3⟩,fun _=>rfl⟩
 ·rw[h4];exact⟨fun h=>(by cases h),fun⟨s,hs,h⟩=>(by rw[h2 s hs]at h;cases h)⟩
theorem zK8(e:SS->Int)(s:SS)(l:List SS)(k:Int):cntS e (s::l) k=(if e s=k then 1 else 0)+cntS e l k:=by
 unfold cntS;rw[List.filter_cons];by_cases h:e s=k
 ·rw[if_pos (by simpa using h),if_pos h,List.length_cons];omega
 ·rw[if_neg (by simpa using h),if_neg h];omega
theorem zLg(x:Int)(N:Nat):((List.range N).map fun k:Nat=>if x=(k:Int)then 1 else 0).sum=if 0<=x/\x<N then 1 else 0:=by
 induction N with
 | zero=>rw[if_neg (by omega)];rfl
 | succ N ih =>
  rw[List.range_succ,List.map_append,List.sum_append,ih];simp only[List.map_cons,List.map_nil,List.sum_cons,List.sum_nil];by_cases h:x=(N:Int)
  ·rw[if_pos h,if_neg (by omega),if_pos (by omega)];rfl
  ·rw[if_neg h];by_cases h2:0<=x/\x<N
   ·rw[if_pos h2,if_pos (by omega)];rfl
   ·rw[if_neg h2,if_neg (by omega)];rfl
theorem zK3(e:SS->Int)(N:Nat):∀(l:List SS),(∀s∈l,0<=e s/\e s<N)->((List.range N).map fun k:Nat=>cntS e l k).sum=l.length
 | [],_=>by
  induction N with
  | zero=>rfl
  | succ N ih=>rw[List.range_succ,List.map_append,List.sum_append,ih (fun s h=>by cases h)];rfl
 | s::l,h=>by
  have h1:=zK3 e N l fun x hx=>h x (List.mem_cons_of_mem _ hx);have h2:=zLg (e s) N;rw[if_pos (h s (List.mem_cons_self ..))]at h2;have:((List.range N).map fun k:Nat=>cntS e (s::l) k).sum=((List.range N).map fun k:Nat=>if e s=(k:Int)then 1 else 0).sum+((List.range N).map fun k:Nat=>cntS e l k).sum:=by
   clear h h1 h2
   induction N with
   | zero=>rfl
   | succ N ih =>
    rw[List.range_succ,List.map_append,List.sum_append,ih,List.map_append,List.sum_append,List.map_append,List.sum_append];simp only[List.map_cons,List.map_nil,List.sum_cons,List.sum_nil,zK8];omega
  rw[this,h1,h2,List.length_cons];omega
theorem zLd(e:SS->Int)(l:List SS)(k:Int):0<cntS e l k↔(fndE (fun s=>e s==k) l).2.2=true:=by
 rw[zLc];unfold cntS;rw[List.length_pos_iff_exists_mem];simp only[List.mem_filter]
theorem zK2{α:Type}:∀ {l l':List α},l.Nodup->(∀x∈l,x∈l')->l.length<=l'.length
 | [],_,_,_=>Nat.zero_le _
 | x::l,l',hn,hs=>by
  classical
  rw[List.nodup_cons]at hn;have hx:=hs x (List.mem_cons_self ..);have h1:l.length<=(l'.erase x).length:=zK2 hn.2 fun y hy=>(List.mem_erase_of_ne (fun e=>hn.1 (by rw[<-e];exact hy))).2 (hs y (List.mem_cons_of_mem _ hy));have h2:=List.length_erase_of_mem hx;have h3:=List.length_pos_of_mem hx;rw[List.length_cons];omega
theorem zr1{α β:Type}{l:List α}{f:α->List β}(hl:l.Nodup)(h1:∀x∈l,(f x).Nodup)(h2:∀x∈l,∀y∈l,∀u,u∈f x->u∈f y->x=y):(l.flatMap f).Nodup:=by
 rw[List.nodup_iff_pairwise_ne,List.pairwise_flatMap];exact⟨fun x hx=>h1 x hx,List.Pairwise.imp_of_mem (fun {a b} ha hb hne u hu w hw e=>hne (h2 a ha b hb u hu (e▸hw))) hl⟩
theorem zKS{α β:Type}{l:List α}{f:α->β}(hl:l.Nodup)(hf:∀x y,f x=f y->x=y):(l.map f).Nodup:=by
 rw[List.nodup_iff_pairwise_ne,List.pairwise_map];exact hl.imp fun {a b} hab e=>hab (hf a b e)
theorem zK4(v:Int):(rngZ v).Nodup:=zKS List.nodup_range fun x y h=>by omega
theorem zKT(v:Int):∀n,(tupE v n).Nodup
 | 0=>by simp[tupE]
 | n+1=>by
  rw[tupE];refine zr1 (zKT v n) (fun t _=>zKS (zK4 v) fun x y h=>?_) fun s _ t _ u hs ht=>?_
  ·simpa using h
  ·obtain⟨x,-,rfl⟩:=List.mem_map.1 hs;obtain⟨y,-,e⟩:=List.mem_map.1 ht;exact(List.append_inj' e rfl).1.symm
theorem zK5(v:Int)(a m:Nat):(betE v a m).Nodup:=by
 unfold betE;refine zr1 List.nodup_range (fun i _=>zKT v _) fun i _ j _ u hi hj=>?_;have h1:=zn6 hi;have h2:=zn6 hj;omega
theorem zK9{v:Int}{a m:Nat}(ham:a<=m){l:List Int}(h:l∈betE v a m):a<=l.length/\l.length<=m:=by
 unfold betE at h;obtain⟨i,hi,h⟩:=List.mem_flatMap.1 h;rw[List.mem_range]at hi;have:=zn6 h;omega
theorem zLi{v:Int}{a m:Nat}{l:List Int}(h:l∈betE v a m):∀e∈l,-v<=e/\e<=v:=by
 unfold betE at h;obtain⟨i,hi,h⟩:=List.mem_flatMap.1 h;intro e he;have key:∀(n:Nat) (l:List Int),l∈tupE v n->e∈l -> -v<=e/\e<=v:=by
  intro n
  induction n with
  | zero=>intro l h he;rw[tupE,List.mem_singleton]at h;subst h;simp at he
  | succ n ih =>
   intro l h he;rw[tupE]at h;obtain⟨t,ht,h⟩:=List.mem_flatMap.1 h;obtain⟨y,hy,rfl⟩:=List.mem_map.1 h;rcases List.mem_append.1 he with he|he
   ·exact ih t ht he
   ·rw[List.mem_singleton]at he;subst he;unfold rngZ at hy;obtain⟨i,hi,rfl⟩:=List.mem_map.1 hy;rw[List.mem_range]at hi;omega
 exact key _ l h he
def prdB(v:Int):List Bn->List (List (List Int))
 | []=>[[]]
 | b::bs=>(betE v b.1 b.2).flatMap fun l=>(prdB v bs).map fun x=>l::x
theorem zK0{v:Int}(hv:0<=v):∀bs:List Bn,(prdB v bs).length=nAll (2*v+1).toNat bs
 | []=>rfl
 | b::bs=>by rw[prdB,zsV _ _ (prdB v bs).length fun s=>by simp,zpT hv,zK0 hv bs,nAll]
theorem zKU(v:Int):∀bs:List Bn,(prdB v bs).Nodup
 | []=>by simp[prdB]
 | b::bs=>by
  rw[prdB];refine zr1 (zK5 v _ _) (fun l _=>zKS (zKU v bs) fun x y h=>(List.cons.inj h).2) fun s _ t _ u hs ht=>?_;obtain⟨x,-,rfl⟩:=List.mem_map.1 hs;obtain⟨y,-,e⟩:=List.mem_map.1 ht;exact(List.cons.inj e).1.symm
theorem zK1{v:Int}:∀ {bs:List Bn},(∀b∈bs,b.1<=b.2)->∀x∈prdB v bs,FitH (2*v+1) bs x
 | [],_,x,h=>by
  rw[prdB,List.mem_singleton]at h;subst h;trivial
 | b::bs,hb,x,h=>by
  rw[prdB]at h;obtain⟨l,hl,h⟩:=List.mem_flatMap.1 h;obtain⟨y,hy,rfl⟩:=List.mem_map.1 h;obtain⟨h1,h2⟩:=zK9 (hb b (by simp)) hl;obtain⟨lo,hi⟩:=b;exact⟨h1,h2,fun e he=>zzr (zLi hl e he),zK1 (fun q hq=>hb q (by simp[hq])) y hy⟩
theorem zLf{v:Nat}(hv:1<=v)(lo:Nat):∀n,(lcL lo v n).1<=(((List.range (n-lo)).map fun i=>v ^ (lo+i)).sum:Nat)/\(lcL lo v n).2<=(v ^ n:Nat)/\0<=(lcL lo v n).2
 | 0=>by simp[lcL]
 | n+1=>by
  obtain⟨h1,h2,h3⟩:=zLf hv lo n;have hp:prdE (lcL lo v n).2 v<=((v ^ (n+1):Nat):Int)/\0<=prdE (lcL lo v n).2 v:=by
   have h4:(lcL lo v n).2*(v:Int)<=((v ^ n:Nat):Int)*(v:Int):=Int.mul_le_mul_of_nonneg_right h2 (by omega);have h5:0<=(lcL lo v n).2*(v:Int):=Int.mul_nonneg h3 (by omega);have h6:((v ^ (n+1):Nat):Int)=((v ^ n:Nat):Int)*(v:Int):=by rw[Nat.pow_succ];push_cast;rfl
   rw[h6];unfold prdE
   split
   ·rename_i h;rw[Int.tdiv_eq_ediv_of_nonneg (by unfold maxC;decide)]at h;have h7:=(Int.ediv_lt_iff_lt_mul (show(0:Int)<(v:Int) by omega)).1 h;exact⟨by omega,by unfold maxC;decide⟩
   ·exact⟨h4,h5⟩
  rw[lcL];refine⟨?_,hp.1,hp.2⟩;simp only
  split
  ·rename_i hl;rw[show n+1-lo=(n-lo)+1 by omega,List.range_succ,List.map_append,List.sum_append];simp only[List.map_cons,List.map_nil,List.sum_cons,List.sum_nil,Nat.add_zero];rw[show lo+(n-lo)=n by omega]
   push_cast at h1 h2 ⊢
   omega
  ·rw[show n+1-lo=n-lo by omega];exact h1
theorem zK6{v:Nat}(hv:1<=v):∀(bs:List Bn) (c:Int) (n:Nat),0<=c->c<=n->(∀b∈bs,1<=lcE b v)->bs.foldl (fun s b=>prdE s (lcE b v)) c<=(n*nAll v bs:Nat)
 | [],c,n,_,h,_=>by rw[nAll,Nat.mul_one];exact h
 | b::bs,c,n,h0,h,hb=>by
  have h1:lcE b v<=(nLst v b:Nat):=(zLf hv b.1 (b.2+1)).1;have h2:=hb b (by simp);have h4:c*lcE b v<=(n:Int)*(nLst v b:Nat):=Int.mul_le_mul h h1 (by omega) (by omega);have h5:0<=c*lcE b v:=Int.mul_nonneg h0 (by omega);have hp:prdE c (lcE b v)<=((n*nLst v b:Nat):Int)/\0<=prdE c (lcE b v):=by
   push_cast
   unfold prdE
   split
   ·rename_i h;rw[Int.tdiv_eq_ediv_of_nonneg (by unfold maxC;decide)]at h;have h7:=(Int.ediv_lt_iff_lt_mul (show(0:Int)<lcE b v by omega)).1 h;exact⟨by omega,by unfold maxC;decide⟩
   ·exact⟨h4,h5⟩
  have:=zK6 hv bs _ _ hp.2 hp.1 fun q hq=>hb q (by simp[hq]);rw[List.foldl_cons,nAll,<-Nat.mul_assoc];exact this
theorem zK7{vs:List VD}{b:BX}(hok:(b.ok&&svB vs)=true)(Ca:cntF vs b<=60):cntR vs b=(((allS b (lenE vs b)).length:Int),0):=by
 have hb:=zlI hok;have h60':=zxQ hok Ca;obtain⟨v,hv⟩:∃v:Nat,2*b.v+1=(v:Int):=⟨(2*b.v+1).toNat,by omega⟩
 have hq:∀q∈lenE vs b,q.1<=q.2:=fun q h=>(hb.2.2.1 q h).1;have e1:(allS b (lenE vs b)).length=(allB v (lenE vs b)).length:=by unfold allS;rw[List.length_map,hv]
 have e2:(allB v (lenE vs b)).length=nAll v (lenE vs b):=by
  have h1:=zy4 (h:=v) (by omega) hq;have h2:(prdB b.v (lenE vs b)).length<=(allB (2*b.v+1) (lenE vs b)).length:=zK2 (zKU _ _) fun x hx=>(zw4 (by omega) x).2 (zK1 hq x hx);rw[zK0 hb.2.2.2.1,hv]at h2;simp only[Int.toNat_natCast]at h2;omega
 have hl1:∀q∈lenE vs b,1<=lcE q v:=fun q h=>(zKY (v:=v) (by omega) (by unfold maxC;omega) (hq q h)).2;have h3:=zK6 (v:=v) (by omega) (lenE vs b) 1 1 (by omega) (by omega) hl1;rw[Nat.one_mul]at h3;have h3:cntE v (lenE vs b)<=(nAll v (lenE vs b):Nat):=h3;have h4:=zLe (v:=v) (by omega) (by unfold maxC;omega) hq (by unfold maxC;omega);unfold cntR;rw[if_pos hok,hv,if_neg (by unfold maxC;omega)];have:cntE v (lenE vs b)=((allS b (lenE vs b)).length:Int):=by omega
 rw[this]
theorem zKW(p:PG)(F:Int)(g:Nat)(l:List SS) :
  ((List.range 24).map fun k:Nat=>cntS (fun s=>(resO p s F g false).2.2.1) l k).sum=l.length :=
 zK3 _ 24 l fun s _=>by have:=zyc p s F g false;unfold E23 at this;omega
attribute [local go_sem] Oper.semAt_some
theorem zLa{W:World}{p:PG}{b:BX}{F:Int}{v:Value}(hp:PV W Any p v)(hF:I64 F) :
  Calls Tryz.prog 4 #[v,.agg #[.int .i64 b.v,.int .i64 b.l,.int .i64 b.i],.int .i64 F] W fun en w'=>en=.returned (.bool true)/\Below W.heap.size W w':=by
 have gJ:=zh (fun w' (h:Below W.heap.size W w')=>hp.later h);obtain⟨A1,c1,A2,c2,A3,c3,rfl,fZ⟩:=hp;have uL:=zh (fun w' (h:Below W.heap.size W w')=>zLb p.vs b A1 c1 w' (fZ.vars.later h) fZ.lv);have hb2:=zkb (zkb (zs W) (.cells #[.slice A1 p.vs.length c1,.slice A2 p.prs.length c2,.int .u8 p.m.k,.int .i64 p.m.n,.string p.m.s,.slice A3 p.m.ks.length c3] 43)) (.cells #[.int .i64 b.v,.int .i64 b.l,.int .i64 b.i] 24);have k0:=zkf (heap_alloc_new W (.cells #[.slice A1 p.vs.length c1,.slice A2 p.prs.length c2,.int .u8 p.m.k,.int .i64 p.m.n,.string p.m.s,.slice A3 p.m.ks.length c3] 43)) (.cells #[.int .i64 b.v,.int .i64 b.l,.int .i64 b.i] 24);have k1:=heap_alloc_new (W.alloc (.cells #[.slice A1 p.vs.length c1,.slice A2 p.prs.length c2,.int .u8 p.m.k,.int .i64 p.m.n,.string p.m.s,.slice A3 p.m.ks.length c3] 43)) (.cells #[.int .i64 b.v,.int .i64 b.l,.int .i64 b.i] 24)
 rw[World.size_alloc]at k1;obtain⟨w2,hw2⟩:=zX ((W.alloc (.cells #[.slice A1 p.vs.length c1,.slice A2 p.prs.length c2,.int .u8 p.m.k,.int .i64 p.m.n,.string p.m.s,.slice A3 p.m.ks.length c3] 43)).alloc (.cells #[.int .i64 b.v,.int .i64 b.l,.int .i64 b.i] 24));obtain⟨N1,hN1⟩:=zX (W.heap.size);rw[hw2]at hb2 k0 k1;rw[hN1]at k0 k1;have xD:=zh (fun w' (h:Below w2.heap.size w2 w')=>zkc k0 h);have gZ:=zh (fun w' (h:Below w2.heap.size w2 w')=>zkc k1 h);have uw:=zh (fun w' (h:Below w2.heap.size w2 w')=>gJ.out _ (zka hb2 h));have jL:=zh (fun w' (h:Below w2.heap.size w2 w')=>zka hb2 h);have eU:=zh (zs w2);clear hb2 k0 k1 fZ gJ;have xJ:=zh zsH;have HR1:=zh (fun w' (h:Below w2.heap.size w2 w')=>zrS p b F _ w' (uw.out _ h) hF);have BF:=zh hF;clear hF;go_enter Tryz.func4,Tryz.ntmps4;go_upto_region 1 with fail
 try rw[hw2]
 try rw[hN1]
 clear hw2 hN1;obtain⟨p0,p1,p2,p3,p4,p5⟩:=box6 (xD.out _ eU.out);obtain⟨x0,x1,x2⟩:=zkr (gZ.out _ eU.out);go_wp2_with fail;refine(HR1.out _ eU.out).mono ?_;rintro en w3 ⟨hb3,A4,n4,c4,ok,rfl,hr1⟩;have HO:=zh (show ok=true->F<=300/\(b.ok&&svB p.vs)=true/\cntF p.vs b<=60 from fun h=>⟨(hr1 h).1,(hr1 h).2.2.1,(hr1 h).2.2.2.1⟩);have dY:=zh (zka eU.out hb3);clear p0 p1 p2 p3 p4 p5 x0 x1 x2 hb3 hr1;obtain⟨p0,p1,p2,p3,p4,p5⟩:=box6 (xD.out _ dY.out);obtain⟨x0,x1,x2⟩:=zkr (gZ.out _ dY.out);go_wp2_with fail;refine(xJ.out _).mono ?_;rintro en w4 ⟨rfl,hb4⟩;have lS:=zh (zka dY.out hb4);clear p0 p1 p2 p3 p4 p5 x0 x1 x2 hb4;obtain⟨p0,p1,p2,p3,p4,p5⟩:=box6 (xD.out _ lS.out);obtain⟨x0,x1,x2⟩:=zkr (gZ.out _ lS.out)
 cases ok
 ·go_wp2_with fail;refine(xJ.out _).mono ?_;rintro en w7 ⟨rfl,iD⟩;have BP:=zh (zka lS.out iD);clear iD;go_wp2_with fail;go_ret;exact⟨rfl,jL.out _ BP.out⟩
 obtain⟨hF3,hok,Ca⟩:=HO.out rfl;have BV:=zxQ hok Ca;have Cg:=zh (fun w' (h:Below w2.heap.size w2 w')=>zqR (uw.out _ h) hok (Nat.le_trans BV (by decide)) BF.out (by omega));have BK:=zh (fun e w' (h:Below w2.heap.size w2 w')=>zmV (e:=e) (uw.out _ h) hok (Nat.le_trans BV (by decide)) BF.out (by omega));have xG:=zh (zK7 hok Ca);have wW:=zh (show((List.range 24).map fun k:Nat=>cntS (errE p F) (allS b (lenE p.vs b)) k).sum=(allS b (lenE p.vs b)).length from zKW p F (F.toNat*2000+2000) (allS b (lenE p.vs b)));obtain⟨xs,hxs⟩:=zX (allS b (lenE p.vs b));rw[hxs]at Cg xG wW BV;simp only[hxs]at BK;rw[xG.out]at uL;have HPOS:=zh (fun k:Int=>show 0<cntS (errE p F) xs k↔(fndE (fun s=>decide (errE p F s=k)) xs).2.2=true from by
  rw[zLd];have e:(fun s=>errE p F s==k)=(fun s=>decide (errE p F s=k)):=by funext s;rw[Bool.eq_iff_iff];simp
  rw[e])
 obtain⟨SU,Ce⟩:∃SU:Nat->Nat,∀j,((List.range j).map fun k:Nat=>cntS (errE p F) xs k).sum=SU j:=⟨_,fun _=>rfl⟩
 have HS0:=zh (show SU 0=0 by rw[<-Ce];rfl);have gT:=zh (show ∀j,SU (j+1)=SU j+cntS (errE p F) xs (j:Int)from fun j=>by rw[<-Ce,<-Ce,List.range_succ,List.map_append,List.sum_append];simp);have Cb:=zh (show SU 24=xs.length by rw[<-Ce];exact wW.out);have iX:=zh (show ∀j,j<=24->SU j<=60 from fun j hj=>by
  have key:∀d j,j+d=24->SU j<=SU 24:=by
   intro d
   induction d with
   | zero=>intro j h;rw[show j=24 by omega];exact zl
   | succ d ih=>intro j h;have h1:=ih (j+1) (by omega);have h2:=gT.out j;omega
  have:=key (24-j) j (by omega);have:=Cb.out;omega)
 obtain⟨nx,hnx⟩:=zX (xs.length);rw[hnx]at uL Cb BV;clear hxs Ce hnx hok Ca wW xG HO HR1;go_wp2_with fail;refine(Cg.out _ lS.out).mono ?_;rintro en w5 ⟨hb5,mb,rfl,hmb,jR⟩;have eH:=zh (zka lS.out hb5);have pV:=zh (fun w' (h:Below w5.heap.size w5 w')=>jR.keep (h.block mb jR.lt));clear p0 p1 p2 p3 p4 p5 x0 x1 x2 hb5 jR hmb;obtain⟨p0,p1,p2,p3,p4,p5⟩:=box6 (xD.out _ eH.out);obtain⟨x0,x1,x2⟩:=zkr (gZ.out _ eH.out);go_wp2_with fail;refine(uL.out _ (jL.out _ eH.out)).mono ?_;rintro en w6 ⟨rfl,hb6⟩;have jf:=zh (zka eH.out hb6);have HD6:=zh hb6;clear p0 p1 p2 p3 p4 p5 x0 x1 x2 hb6 uL;simp only;go_wp2_with fail
 go_loopw [13,12,14,15] (fun ev sv _ _ wr=>∃j:Nat,j<=24/\ev=.int .i64 j/\sv=.int .i64 (SU j:Nat)/\Hid (Below w2.heap.size w2 wr)/\Hid (Below w5.heap.size w5 wr)) (fun ev _ _ _ _=>24-(intOf ev).toNat)
 case atStart=>exact⟨0,by omega,rfl,by rw[HS0.out];rfl,jf,HD6⟩
 case round =>
  obtain⟨j,hj,rfl,rfl,Ch,HDR⟩:=hrel;obtain⟨p0,p1,p2,p3,p4,p5⟩:=box6 (xD.out _ Ch.out);obtain⟨x0,x1,x2⟩:=zkr (gZ.out _ Ch.out);by_cases hlt:j<24
  ·have hj1:(j:Int)<=23:=by omega
   have Cm:=zh (BK.out (j:Int) wr Ch.out);have Cj:=zh (HPOS.out (j:Int));have Cf:=zh (gT.out j);have hsb:=iX.out (j+1) (by omega);rw[Cf.out]at hsb;have Ck:=zh (fun w' (h:Below w5.heap.size w5 w')=>(pV.out w' h).look (k:=(j:Int)) ⟨by omega,by omega⟩);obtain⟨⟨s1,m1,f1⟩,hr1⟩:=zX (fndE (fun s=>decide (errE p F s=(j:Int))) xs);obtain⟨cj,hcj⟩:=zX (cntS (errE p F) xs (j:Int));rw[hr1]at Cm Cj;simp only[hcj]at Ck;rw[hcj]at Cj Cf hsb;obtain⟨sj,hsj⟩:=zX (SU j);rw[hsj]at Cf hsb ⊢;clear hr1 hcj hsj;go_wp2_with fail;refine Cm.out.mono ?_;rintro en w7 ⟨iD,v7,rfl,hs7⟩;simp only at hs7;obtain⟨As,cs,Bs,ds,Ds,es,rfl⟩:∃A c B d D e,v7=.agg #[.slice A s1.cells.length c,.slice B s1.tin.length d,.slice D s1.tout.length e]:=by
    obtain⟨A,c,B,d,D,e,h,-⟩:=hs7;exact⟨_,_,_,_,_,_,h⟩
   have bR:=zkb iD (.cells #[.slice As s1.cells.length cs,.slice Bs s1.tin.length ds,.slice Ds s1.tout.length es] 32);have xH:=zh (zka Ch.out bR);have Cn:=zh (zka HDR.out bR);have hlk:=Ck.out _ Cn.out;clear p0 p1 p2 p3 p4 p5 x0 x1 x2 iD bR hs7 Cm;have hc0:¬ (cj:Int)<0:=by omega
   by_cases hc:0<cj
   ·have hci:(0:Int)<(cj:Int):=by omega
    have hf:f1=true:=Cj.out.1 hc;subst hf;go_wp2_with fail
    go_roundw
    case rel=>exact⟨j+1,by omega,by go_num,by rw[Cf.out];go_num,xH,Cn⟩
    case measure=>simp[intOf];omega
   ·have hci:¬ (0:Int)<(cj:Int):=by omega
    have hf:f1=false:=by
     cases f1
     ·rfl
     ·exact absurd (Cj.out.2 rfl) hc
    subst hf;go_wp2_with fail
    go_roundw
    case rel=>exact⟨j+1,by omega,by go_num,by rw[Cf.out];go_num,xH,Cn⟩
    case measure=>simp[intOf];omega
  ·obtain rfl:j=24:=by omega
   have hj1:¬ ((24:Nat):Int)<=23:=by decide
   rw[Cb.out];go_wp2_with fail;go_ret;exact⟨by simp,jL.out _ Ch.out⟩
end
end Go.Proofs.YtembgnhbpmfhpaaGreat
