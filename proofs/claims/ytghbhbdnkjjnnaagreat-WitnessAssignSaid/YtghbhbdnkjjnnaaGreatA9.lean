/-
  Texts of the proof, put together without their remarks: En1, En2, En3, Asg, Ass, En4, Rfv, En5, En6.
-/
import Derived.Test.YtghbhbdnkjjnnaaGreatA8
import Derived.Deep.Cut
import Derived.Sort.CutIn
set_option linter.unusedSimpArgs false
set_option linter.unusedVariables false
set_option maxHeartbeats 8000000
set_option maxRecDepth 100000
namespace Go.Proofs.YtghbhbdnkjjnnaaGreat
section
open Go Go.RowKit
theorem znS(x y:Int)(w:World)(hx:0<=x/\x<=maxC+1)(hy:1<=y/\y<=maxC+1):Calls Tryz.prog 46 #[.int .i64 x,.int .i64 y] w fun e w'=>e=.returned (.int .i64 (prdE x y))/\w'=w:=by
 obtain⟨q,hq⟩:=zX ((1099511627776:Int).tdiv y);have hq1:0<=q/\q<=1099511627776:=by
  rw[<-hq,Int.tdiv_eq_ediv_of_nonneg (by decide)];exact⟨Int.ediv_nonneg (by decide) (by omega),Int.ediv_le_self _ (by decide)⟩
 have hwq:IntKind.i64.wrap q=q:=IntWalk.i64_in _ (by omega);have hy0:¬ y=0:=by omega
 have HP:=zh (show prdE x y=if q<x then 1099511627777 else x*y by unfold prdE maxC;rw[hq];rfl);by_cases h:q<x
 ·have HN:=zh (HP.out.trans (if_pos h));go_enter Tryz.func46,Tryz.ntmps46;go_wp2_with fail;go_ret;exact⟨by rw[HN.out];rfl,rfl⟩
 ·have hm:0<=x*y/\x*y<=1099511627776:=by
   have h1:x<=1099511627776 / y:=by rw[Int.tdiv_eq_ediv_of_nonneg (by decide)]at hq;omega
   have h2:=Int.mul_le_mul_of_nonneg_right h1 (show 0<=y by omega);have h3:=Int.ediv_mul_le 1099511627776 (show y≠0 by omega);exact⟨Int.mul_nonneg hx.1 (by omega),by omega⟩
  have HN:=zh (HP.out.trans (if_neg h));have xy:IntKind.i64.wrap (x*y)=x*y:=IntWalk.i64_in _ (by omega);go_enter Tryz.func46,Tryz.ntmps46;go_wp2_with fail;go_ret;exact⟨by rw[HN.out];rfl,rfl⟩
theorem zrZ(r:Int)(w:World)(hr:0<=r/\r<=1000000):Calls Tryz.prog 114 #[.int .i64 r] w fun e w'=>e=.returned (.int .i64 (unrk r))/\w'=w:=by
 obtain⟨q,hq⟩:=zX (r.tdiv 2);obtain⟨m,hm⟩:=zX (r.tmod 2);have hq1:0<=q/\q<=1000000:=by
  rw[<-hq,Int.tdiv_eq_ediv_of_nonneg hr.1];omega
 have hm1:0<=m/\m<2:=by
  rw[<-hm,Int.tmod_eq_emod_of_nonneg hr.1];omega
 have hwq:IntKind.i64.wrap q=q:=IntWalk.i64_in _ (by omega);have xy:IntKind.i64.wrap m=m:=IntWalk.i64_in _ (by omega);have hwq1:IntKind.i64.wrap (q+1)=q+1:=IntWalk.i64_in _ (by omega);have hwq2:IntKind.i64.wrap (-q) = -q:=IntWalk.i64_in _ (by omega);have hr0:¬ r<0:=by omega
 have HU:=zh (show unrk r=if m=1 then q+1 else -q by unfold unrk;rw[if_neg hr0,hq,hm]);by_cases h:m=1
 ·have e1:(m==1)=true:=by simpa using h
  go_enter Tryz.func114,Tryz.ntmps114;go_wp2_with fail;go_ret;exact⟨by rw[HU.out,if_pos h];rfl,rfl⟩
 ·have e1:(m==1)=false:=by simpa using h
  go_enter Tryz.func114,Tryz.ntmps114;go_wp2_with fail;go_ret;exact⟨by rw[HU.out,if_neg h];rfl,rfl⟩
theorem zwM{v:Nat}(hv:1<=v)(hv2:(v:Int)<=maxC)(lo n:Nat):0<=(lcL lo v n).1/\(lcL lo v n).1<=maxC+1/\1<=(lcL lo v n).2/\(lcL lo v n).2<=maxC+1:=by
 obtain⟨h1,h2,h3,-⟩:=zqs hv hv2 lo n;exact⟨h1.pos,h1.top,h3,h2.top⟩
theorem zpb(b:Bn)(v:Nat)(w:World)(hb:b.1<=1000000/\b.2<=1000000)(hv:1<=v)(hv2:v<=1000000) :
  Calls Tryz.prog 47 #[.agg #[.int .i64 (b.1:Int),.int .i64 (b.2:Int)],.int .i64 (v:Int)] w fun e w'=>e=.returned (.int .i64 (lcE b v))/\Below w.heap.size w w':=by
 obtain⟨lo,hi⟩:=b;simp only at hb;have HTP:=zh (fun n=>zwM hv (by unfold maxC;omega) lo n);have kM:=zh (show lcE (lo,hi) v=(lcL lo v (hi+1)).1 from rfl);have HV:=zh (And.intro hv hv2);have hb1:=zkc (zs w) (.cells #[.int .i64 (lo:Int),.int .i64 (hi:Int)] 97);have hk1:=heap_alloc_new w (.cells #[.int .i64 (lo:Int),.int .i64 (hi:Int)] 97);have hwh:IntKind.i64.wrap ((hi:Int)+1)=(hi:Int)+1:=IntWalk.i64_in _ (by omega);go_enter Tryz.func47,Tryz.ntmps47;go_upto_region 2 with fail;obtain⟨w1,hw1⟩:=zX (w.alloc (.cells #[.int .i64 (lo:Int),.int .i64 (hi:Int)] 97));rw[hw1]at hb1 hk1 ⊢;have x0:w1.cell? ⟨w.heap.size,0,none⟩=some (.int .i64 (lo:Int)):=zc hk1 rfl;have x1:w1.cell? ⟨w.heap.size,1,none⟩=some (.int .i64 (hi:Int)):=zc hk1 rfl;have HB1:=zh hb1;clear hw1 hb1 hk1;go_wp2_with fail
 go_loopw [11,5,6] (fun i s p wr=>∃n:Nat,n<=hi+1/\i=.int .i64 n/\s=.int .i64 (lcL lo v n).1/\p=.int .i64 (lcL lo v n).2/\wr=w1) (fun i _ _ _=>hi+1-(intOf i).toNat)
 case atStart=>exact⟨0,Nat.zero_le _,rfl,rfl,rfl,rfl⟩
 case round =>
  obtain⟨n,hn,rfl,rfl,rfl,rfl⟩:=hrel;obtain⟨S,hS⟩:=zX ((lcL lo v n).1);obtain⟨Q,hQ⟩:=zX ((lcL lo v n).2);have HX:=zh (show lcL lo v (n+1)=(if lo<=n then min (S+Q) (maxC+1)else S,prdE Q v) by rw[lcL,hS,hQ]);have hT:=HTP.out n;rw[hS,hQ]at hT;have HT:=zh hT;rw[hS,hQ];have ax:=zh hS;clear hT hS hQ;have eU:=zh (znS Q v wr ⟨by have:=HT.out;omega,HT.out.2.2.2⟩ ⟨by have:=HV.out;omega,by have:=HV.out;unfold maxC;omega⟩);by_cases hlt:n<hi+1
  ·have hn1:(n:Int)<(hi:Int)+1:=by omega
   have hwn:IntKind.i64.wrap ((n:Int)+1)=(n:Int)+1:=IntWalk.i64_in _ (by omega);by_cases hl:lo<=n
   ·have hl1:(lo:Int)<=(n:Int):=by omega
    have hws:IntKind.i64.wrap (S+Q)=S+Q:=IntWalk.i64_in _ (by have:=HT.out;unfold maxC at this;omega);go_wp2_with fail
    all_goals
     refine eU.out.mono ?_;rintro e w2 ⟨rfl,hw2⟩;rw[hw2];go_wp2_with fail
     go_roundw
     case rel=>exact⟨n+1,by omega,by go_num,by rw[HX.out,if_pos hl];exact congrArg (Value.int .i64) (show _=min (S+Q) (maxC+1) by unfold maxC;omega),by rw[HX.out],trivial⟩
     case measure=>simp[intOf];omega
   ·have hl1:¬ (lo:Int)<=(n:Int):=by omega
    go_wp2_with fail;refine eU.out.mono ?_;rintro e w2 ⟨rfl,hw2⟩;rw[hw2];go_wp2_with fail
    go_roundw
    case rel=>exact⟨n+1,by omega,by go_num,by rw[HX.out,if_neg hl],by rw[HX.out],trivial⟩
    case measure=>simp[intOf];omega
  ·have hn1:¬ (n:Int)<(hi:Int)+1:=by omega
   obtain rfl:n=hi+1:=by omega
   have HF:=zh (kM.out.trans ax.out);go_wp2_with fail;go_ret;exact⟨by rw[HF.out];rfl,HB1.out⟩
def RowB(w:World)(S:Nat->Prop)(A:Option Addr)(bs:List Bn):Prop :=
 ∀i (hi:i<bs.length),∃a:Addr,A=some a/\S a.block/\w.cell? (a.add (i*2))=some (.int .i64 (bs[i].1:Int))/\w.cell? ⟨(a.add (i*2)).block,(a.add (i*2)).off+1,none⟩=some (.int .i64 (bs[i].2:Int))
theorem RowB.keep{w w':World}{S S':Nat->Prop}{A:Option Addr}{bs:List Bn}(h:RowB w S A bs)(hS:∀b,S b->b<w.heap.size->S' b)(hk:∀b,S b->b<w.heap.size->w'.heap[b]?=w.heap[b]?):RowB w' S' A bs:=fun i hi=>by
 obtain⟨a,hA,iR,h0,h1⟩:=h i hi;have hlt:a.block<w.heap.size:=by have:=World.block_lt_of_cell? w _ h0;rwa[zkq]at this
 refine⟨a,hA,hS _ iR hlt,zkr h0 ?_,zkr h1 ?_⟩
 all_goals simp only[zkq];exact hk _ iR hlt
theorem RowB.later{w w':World}{S:Nat->Prop}{A:Option Addr}{bs:List Bn}(h:RowB w S A bs)(hb:Below w.heap.size w w'):RowB w' S A bs:=h.keep (fun _ hb _=>hb) fun b _ hlt=>hb.block b hlt
def zp4(w:World)(b:Nat)(h:Int)(bs:List Bn):Prop :=
 ∀i,i<=bs.length->w.cell? ⟨b,i*2,none⟩=some (.int .i64 (wlo (bs.drop i):Int))/\w.cell? ⟨b,i*2+1,none⟩=some (.int .i64 (whi h (bs.drop i)))
theorem zp4.keep{w w':World}{b:Nat}{h:Int}{bs:List Bn}(hr:zp4 w b h bs)(hk:w'.heap[b]?=w.heap[b]?):zp4 w' b h bs:=fun i hi =>
 ⟨zkr (hr i hi).1 hk,zkr (hr i hi).2 hk⟩
theorem zuo{bs:List Bn}{i:Nat}(hi:i<bs.length):wlo (bs.drop i)=wlo (bs.drop (i+1))+bs[i].1:=by
 unfold wlo;rw[List.drop_eq_getElem_cons hi,List.map_cons,List.sum_cons];omega
theorem zup{h:Int}{bs:List Bn}{i:Nat}(hi:i<bs.length):whi h (bs.drop i)=whi h (bs.drop (i+1))+bs[i].2*h:=by
 unfold whi;rw[List.drop_eq_getElem_cons hi,List.map_cons,List.sum_cons];omega
theorem ztF:(Tryz.prog.info? 97).map (fun i=>(i.zero,i.size,i.bytes))=some (some (.agg #[.int .i64 0,.int .i64 0]),2,16):=by kernel_rfl
theorem bMkB(n:Nat)(hn:n<=4096)(w:World):(Instr.makeSlice 93 (.int .i64 (n:Int)) (.int .i64 (n:Int))).run Tryz.prog w=.ok (.slice (some ⟨w.heap.size,0,none⟩) n n) (w.alloc (.cells (madeCells #[.int .i64 0,.int .i64 0] (n*2)) 97)):=by
 have h:=ztF;obtain⟨i,hi,hz⟩:=Option.map_eq_some_iff.1 h;injection hz with h1 h2;injection h2 with h2 h3;have:=zlg (P:=Tryz.prog) 93 97 i (.agg #[.int .i64 0,.int .i64 0]) Tryz.underlying93 hi h1 .i64 .i64 n n zl (by rw[h3];omega) (by omega) w;rw[h2]at this;exact this
def zyh(w:World)(b:Nat)(h:Int)(bs:List Bn)(k:Nat):Prop :=
 ∃us:Array Value,w.heap[b]?=some (.cells us 97 (0,0))/\us.size=(bs.length+1)*2/\∀i,k<=i->i<=bs.length->us[i*2]?=some (.int .i64 (wlo (bs.drop i):Int))/\us[i*2+1]?=some (.int .i64 (whi h (bs.drop i)))
theorem zxC{bs:List Bn}(hb:∀b∈bs,b.1<=1000/\b.2<=1000):wlo bs<=bs.length*1000:=by
 induction bs with
 | nil=>simp[wlo]
 | cons b bs ih =>
  have h1:=hb b (List.mem_cons_self ..);have h2:=ih fun c hc=>hb c (List.mem_cons_of_mem _ hc);have e:wlo (b::bs)=b.1+wlo bs:=by simp[wlo]
  rw[e,List.length_cons];omega
theorem zxD{bs:List Bn}{h:Nat}(hb:∀b∈bs,b.1<=1000/\b.2<=1000):0<=whi h bs/\whi h bs<=bs.length*(1000*h):=by
 induction bs with
 | nil=>exact⟨Int.le_refl _,by rw[List.length_nil];show(0:Int)<=_;omega⟩
 | cons b bs ih =>
  have h1:=hb b (List.mem_cons_self ..);have h2:=ih fun c hc=>hb c (List.mem_cons_of_mem _ hc);have e:whi h (b::bs)=b.2*h+whi h bs:=by unfold whi;rw[List.map_cons,List.sum_cons]
  rw[e,List.length_cons];have h4:((bs.length+1:Nat):Int)*(1000*(h:Int))=bs.length*(1000*(h:Int))+1000*(h:Int):=by rw[Int.natCast_add,Int.add_mul];omega
  have h5:(0:Int)<=(b.2:Int)*(h:Int):=Int.mul_nonneg (by omega) (by omega);have h6:(b.2:Int)*(h:Int)<=1000*(h:Int):=Int.mul_le_mul_of_nonneg_right (by omega) (by omega);omega
theorem zsi{bs:List Bn}{h:Nat}(hb:∀b∈bs,b.1<=1000/\b.2<=1000)(hn:bs.length<=1000)(hh:h<=10000):wlo bs<=1000000/\0<=whi h bs/\whi h bs<=10000000000:=by
 have h1:=zxC hb;have h2:=zxD (h:=h) hb;refine⟨by omega,h2.1,Int.le_trans h2.2 ?_⟩;have h3:(bs.length:Int)*(1000*(h:Int))<=1000*(1000*(h:Int)):=Int.mul_le_mul_of_nonneg_right (by omega) (by omega);omega
theorem zru{bs:List Bn}(hb:∀b∈bs,b.1<=1000/\b.2<=1000)(i:Nat):∀b∈bs.drop i,b.1<=1000/\b.2<=1000:=fun b h=>hb b (List.mem_of_mem_drop h)
theorem zxM(n i:Nat)(hi:i<n):(madeCells #[Value.int .i64 0,.int .i64 0] n)[i]?=some (.int .i64 0):=by
 unfold madeCells;rw[Array.getElem?_map,Array.getElem?_eq_getElem (by simpa using hi)];have h:i % 2<2:=Nat.mod_lt _ (by decide);rcases Nat.lt_succ_iff_lt_or_eq.1 h with h|h
 ·simp[show i % 2=0 by omega]
 ·simp[h]
theorem setU{W:World}{b o:Nat}{us:Array Value}{ty:TypeId}(v:Value)(h:W.heap[b]?=some (.cells us ty (0,0))):∃W',W.setCell ⟨b,o,none⟩ v=W'/\Chg (fun q=>q=b) W W'/\W'.heap[b]?=some (.cells (us.setIfInBounds o v) ty (0,0)) :=
 ⟨_,rfl,(Chg.refl (fun q=>q=b) W).setCell (p:=⟨b,o,none⟩) (.inl rfl) _,heap_setCell_same W b o us ty v h⟩
theorem zqb(bs:List Bn)(h:Nat)(A:Option Addr)(c:Nat)(w:World)(hr:RowB w Any A bs)(hn:bs.length<=1000)(hb:∀b∈bs,b.1<=1000/\b.2<=1000)(hh:h<=10000) :
  Calls Tryz.prog 80 #[.slice A bs.length c,.int .i64 h] w fun e w'=>∃b,e=.returned (.slice (some ⟨b,0,none⟩) (bs.length+1) (bs.length+1))/\w.heap.size<=b/\zp4 w' b h bs/\Below w.heap.size w w':=by
 have HR:=zh (hr.keep (S':=fun q=>q<w.heap.size) (fun _ _ h=>h) fun _ _ _=>rfl);have HB:=zh hb;have HH:=zh hh;have hmk:=bMkB (bs.length+1) (by omega) w;obtain⟨n,hnn⟩:=zX (bs.length);rw[hnn]at hn hmk ⊢;rw[show((n+1:Nat):Int)=(n:Int)+1 from rfl]at hmk;have HN:=zh hnn;have hwn:IntKind.i64.wrap ((n:Int)+1)=(n:Int)+1:=IntWalk.i64_in _ (by omega);have xy:IntKind.i64.wrap ((n:Int)-1)=(n:Int)-1:=IntWalk.i64_in _ (by omega);have hk0:=heap_alloc_new w (.cells (madeCells #[.int .i64 0,.int .i64 0] ((n+1)*2)) 97);have hb0:=zkc (zs w) (.cells (madeCells #[.int .i64 0,.int .i64 0] ((n+1)*2)) 97);clear hr hnn hb hh;go_enter Tryz.func80,Tryz.ntmps80;go_upto_region 2 with fail;obtain⟨w1,hw1⟩:=zX (w.alloc (.cells (madeCells #[.int .i64 0,.int .i64 0] ((n+1)*2)) 97));rw[hw1]at hb0 hk0 ⊢;have HB0:=zh hb0;have aN:=zh hk0;clear hw1 hb0 hk0 hmk;obtain⟨b,hbb⟩:=zX (w.heap.size);have dA:=zh hbb
 rw[hbb]at aN ⊢;clear hbb;go_wp2_with fail
 go_loopw [6] (fun iv wr=>∃k:Nat,k<=n/\iv=.int .i64 ((k:Int)-1)/\Hid (Chg (fun q=>q=b) w1 wr)/\Hid (zyh wr b h bs k)) (fun iv _=>(intOf iv+1).toNat)
 case atStart =>
  refine⟨n,zl,rfl,zh (Chg.refl _ _),zh ⟨_,aN.out,?_,?_⟩⟩
  ·rw[size_madeCells,HN.out]
  ·intro j h1 h2;obtain rfl:j=n:=by have:=HN.out;omega
   rw[List.drop_of_length_le (by rw[HN.out];exact zl),zxM _ _ (by omega),zxM _ _ (by omega)];exact⟨rfl,rfl⟩
 case round =>
  obtain⟨k,hk,rfl,HC,oh⟩:=hrel;by_cases hlt:0<k
  ·obtain⟨i,rfl⟩:∃i,k=i+1:=⟨k-1,by omega⟩
   obtain⟨us,hu,iI,oF⟩:=oh.out;have hin:i<bs.length:=by have:=HN.out;omega
   have hin1:i+1<=bs.length:=by omega
   obtain⟨a,rfl,has,x0,x1⟩:=(HR.out.later HB0.out).keep (w':=wr) (S':=fun q=>q<w.heap.size) (fun _ h _=>h) (fun q h hq=>HC.out.block q hq (fun e=>by have e:q=b:=e;have h:q<w.heap.size:=h;have:=dA.out;omega)) i hin;have e1:((i+1:Nat):Int)-1=(i:Int):=by omega
   rw[e1];have hlt1:(0:Int)<=(i:Int):=by omega
   obtain⟨y0,y1⟩:wr.cell? ⟨b,(i+1)*2,none⟩=some (.int .i64 (wlo (bs.drop (i+1)):Int))/\wr.cell? ⟨b,(i+1)*2+1,none⟩=some (.int .i64 (whi h (bs.drop (i+1)))):=⟨zc hu (oF (i+1) zl hin1).1,zc hu (oF (i+1) zl hin1).2⟩
   obtain⟨z0,hz0⟩:∃u,us[i*2]?=some u:=⟨_,Array.getElem?_eq_getElem (by omega)⟩
   obtain⟨z1,hz1⟩:∃u,us[i*2+1]?=some u:=⟨_,Array.getElem?_eq_getElem (by omega)⟩
   have y2:wr.cell? ⟨b,i*2,none⟩=some z0:=zc hu hz0;have cf:∀o,wr.frozen? ⟨b,o,none⟩=false:=fun o=>zf hu;have hw1:=zsi (zru HB.out i) (by rw[List.length_drop,HN.out];omega) HH.out;have hw2:=zsi (zru HB.out (i+1)) (by rw[List.length_drop,HN.out];omega) HH.out;obtain⟨w5,eF,dH,lN⟩:=setU (o:=i*2) (.int .i64 (wlo (bs.drop i):Int)) hu;have mE:w5.drew.heap[b]?=some (.cells (us.setIfInBounds (i*2) (.int .i64 (wlo (bs.drop i):Int))) 97 (0,0)):=lN;obtain⟨w6,uD,hc6,nR⟩:=setU (o:=i*2+1) (.int .i64 (whi h (bs.drop i))) mE;have Ba:=zh ((HC.out.trans dH.drew).trans hc6.drew);have qL:=zh (show zyh w6.drew b h bs i from⟨_,nR,by simpa using iI,fun j h1 h2=>by
    by_cases e:j=i
    ·subst e;refine⟨?_,?_⟩
     ·rw[Array.getElem?_setIfInBounds_ne (by omega),Array.getElem?_setIfInBounds_self_of_lt (by omega)]
     ·rw[Array.getElem?_setIfInBounds_self_of_lt (by rw[Array.size_setIfInBounds];omega)]
    ·rw[Array.getElem?_setIfInBounds_ne (by omega),Array.getElem?_setIfInBounds_ne (by omega),Array.getElem?_setIfInBounds_ne (by omega),Array.getElem?_setIfInBounds_ne (by omega)];exact oF j (by omega) h2⟩)
   have hwi1:IntKind.i64.wrap ((i:Int)-1)=(i:Int)-1:=IntWalk.i64_in _ (by omega);have hl0:=zuo hin;have hl1:=zup (h:=h) hin;have hwl:IntKind.i64.wrap ((wlo (bs.drop (i+1)):Int)+(bs[i].1:Int))=(wlo (bs.drop i):Int):=by rw[hl0];exact IntWalk.i64_in _ (by omega)
   have hwm1:IntKind.i64.wrap ((bs[i].2:Int)*(h:Int))=(bs[i].2:Int)*(h:Int):=IntWalk.i64_in _ (by omega);have hwh:IntKind.i64.wrap (whi h (bs.drop (i+1))+(bs[i].2:Int)*(h:Int))=whi h (bs.drop i):=by rw[hl1];exact IntWalk.i64_in _ (by omega)
   have y3:w5.drew.cell? ⟨b,i*2+1,none⟩=some z1:=zc mE (by rw[Array.getElem?_setIfInBounds_ne (by omega)];exact hz1);have y4:w5.drew.cell? ⟨b,(i+1)*2+1,none⟩=some (.int .i64 (whi h (bs.drop (i+1)))):=zc mE (by rw[Array.getElem?_setIfInBounds_ne (by omega)];exact(oF (i+1) zl hin1).2);have cf5:∀o,w5.drew.frozen? ⟨b,o,none⟩=false:=fun o=>zf mE;have x5:w5.drew.cell? ⟨(a.add (i*2)).block,(a.add (i*2)).off+1,none⟩=some (.int .i64 (bs[i].2:Int)):=zkr x1 (dH.block _ (World.block_lt_of_cell? wr _ x1) (by rw[zkq];have:=dA.out;have has:a.block<w.heap.size:=has;omega));have HL0:=zh hl0;have qJ:=zh hl1;have uC:IntKind.i64.wrap ((i:Int)+1)=(i:Int)+1:=IntWalk.i64_in _ (by omega);have hp0:(0:Int)<=(i:Int)+1:=by omega
   have hp1:(i:Int)+1<(n:Int)+1:=by omega
   have hp2:(i:Int)<(n:Int)+1:=by omega
   have hp3:(i:Int)<(n:Int):=by omega
   have HU:=zh hu;have HUS:=zh iI;have HUU:=zh oF;generalize bs[i].1=lo,bs[i].2=hi,wlo (bs.drop (i+1))=L1,whi h (bs.drop (i+1))=L2,wlo (bs.drop i)=M1,whi h (bs.drop i)=M2 at *
   clear hu iI oF hl0 hl1 hw1 hw2 mE HB HH;go_upto_region 5 with fail
   go_region
   go_upto_region 6 with fail
   go_region
   clear eF uD;go_wp2_with fail
   go_roundw
   case rel=>exact⟨i,by omega,rfl,Ba,qL⟩
   case measure=>simp[intOf]
  ·obtain rfl:k=0:=by omega
   have hlt1:¬ (0:Int)<=((0:Nat):Int)-1:=by omega
   go_wp2_with fail;go_ret;obtain⟨us,hu,iI,oF⟩:=oh.out;refine⟨b,rfl,by rw[dA.out];exact zl,fun j hj=>⟨zc hu (oF j (Nat.zero_le _) hj).1,zc hu (oF j (Nat.zero_le _) hj).2⟩,HB0.out.trans (HC.out.below HB0.out.size fun q e=>by have e:q=b:=e;have:=dA.out;omega)⟩
attribute [local go_sem] Oper.semAt_some
def nilS:SS:=⟨[],[],[]⟩
def putC(x:SS)(i a:Nat)(v:Int):SS:=⟨x.cells.set i ((x.cells.getD i []).set a v),x.tin,x.tout⟩
def setE(vs:List VD)(s:SS):T->Int×SS
 | .nd k n nm ks =>
  if (doE (newS vs s) (.nd 40 n nm ks)).1≠0 then((doE (newS vs s) (.nd 40 n nm ks)).1,nilS)
  else match zlw vs (ks.getD 0 nil0).s vs.length with
   | none=>(0,(doE (newS vs s) (.nd 40 n nm ks)).2.state)
   | some i=>(0,putC (doE (newS vs s) (.nd 40 n nm ks)).2.state i (indE (newS vs s).look (ks.getD 0 nil0)).1.toNat (zk7 (newS vs s).look (ks.getD 1 nil0)).1)
def asgE(vs:List VD)(t:T)(s:SS):Int×SS :=
 if fitB vs s=false\/isS t=false then(3,nilS)else if t.k=56 then setE vs s t
 else if (doE (newS vs s) t).1≠0 then((doE (newS vs s) t).1,nilS)else(0,(doE (newS vs s) t).2.state)
theorem zwg{k n:Int}{s:ByteArray}{ks:List T}(h:isS (.nd k n s ks)=true)(hk:k=56):∃p q,ks=[p,q]/\isP p=true/\isE q=true/\isS (.nd 40 n s ks)=true:=by
 subst hk;have h':=h;rw[isS,if_pos (by decide),Bool.and_eq_true]at h;obtain⟨p,q,e,a,b⟩:=zs3 h.2;exact⟨p,q,e,by simpa using a,by simpa using b,h'⟩
theorem zuM{vs:List VD}{s:SS}{nm:ByteArray}{id:Nat}(h:(newS vs s).num nm=some id):zlw vs nm vs.length=some id/\id<vs.length:=by
 unfold ST.num at h;obtain⟨i,h1,h2⟩:=Option.bind_eq_some_iff.1 h;have h3:(newS vs s).cur=⟨vs,List.range vs.length,0⟩:=rfl;rw[h3]at h1 h2;have hi:=FR.at_lt h1;simp only at hi h2;rw[List.getElem?_range hi]at h2;injection h2 with h2;subst h2;exact⟨h1,hi⟩
theorem zwa{vs:List VD}{s:SS}{n:Int}{nm:ByteArray}{p q:T}(hw:(newS vs s).WF)(hp:isP p=true)(h:(doE (newS vs s) (.nd 40 n nm [p,q])).1=0) :
  ∃i a,zlw vs p.s vs.length=some i/\i<vs.length/\(indE (newS vs s).look p).1=((a:Nat):Int)/\a<(s.cells.getD i []).length/\∃x,(doE (newS vs s) (.nd 40 n nm [p,q])).2=(newS vs s).put i a x:=by
 unfold doE at h ⊢
 split at h
 ·cases h
 rename_i h1
 split at h
 ·cases h
 rename_i h2
 split at h
 ·cases h
 rename_i h3
 split at h
 ·rename_i h4;exact absurd h h4
 rename_i h4;rw[if_neg h1,if_neg h2,if_neg h3,if_neg h4];have hfl:=zph (Classical.not_not.1 h4);have hfp:=zmz hfl.2 p (by simp);obtain⟨id,kk,hid,-,-⟩:=znU hw hp hfp;simp only[zon,List.getD_cons_zero,List.getD_cons_succ]at h ⊢;have e1:zmc (newS vs s) 40 q=zk7 (newS vs s).look q:=by simp[zmc]
 rw[e1]at h ⊢;unfold zk8 zm4 at h ⊢
 split at h
 ·rename_i h5;exact absurd h h5
 rename_i h5;rw[if_neg h5]
 split at h
 ·rename_i h6;exact absurd h h6
 rename_i h6;rw[if_neg h6];rw[hid]at h ⊢;simp only at h ⊢
 split at h
 ·rename_i h7;rw[if_pos h7];obtain⟨hl,hlt⟩:=zuM hid;refine⟨id,(indE (newS vs s).look p).1.toNat,hl,hlt,by omega,?_,?_⟩
  ·have h8:(newS vs s).cell id=s.cells.getD id []:=rfl;rw[h8]at h7;omega
  ·unfold zno;rw[if_pos (.inl rfl)];exact⟨_,rfl⟩
 ·cases h
theorem zpH{vs:List VD}{s:SS}(hl:s.cells.length=vs.length){i a:Nat}(hi:i<vs.length)(x:Int):((newS vs s).put i a x).state=putC s i a x:=by
 unfold ST.put ST.setL ST.state putC;congr 1;refine List.ext_getElem (by simp[newS,hl]) fun j h1 h2=>?_;simp only[newS,List.length_range,Nat.sub_zero,List.getElem_map,List.getElem_take,List.getElem_range];have h3:j<s.cells.length:=by simpa using h2
 by_cases e:j=i
 ·subst e;rw[if_pos rfl,List.getElem_set_self]
 ·rw[if_neg e,List.getElem_set_ne (Ne.symm e),List.getD_eq_getElem?_getD,List.getElem?_eq_getElem h3];rfl
def AsgP(w:World)(n0:Nat)(kb:Nat->Prop)(R:Int×SS)(W:World)(e:Ending)(W':World):Prop:=Below w.heap.size w W'/\Kpt n0 kb W W'/\∃v,e=.returned (.tuple #[v,.int .i64 R.1])/\OwnS W' W.heap.size R.2 v/\R.2.Lim
theorem zq5:nilS.Lim:=⟨Nat.zero_le _,(fun l h=>by cases h),Nat.zero_le _,Nat.zero_le _⟩
theorem zuF{x:SS}(h:x.Lim)(i a:Nat)(v:Int):(putC x i a v).Lim:=by
 obtain⟨h1,h2,h3,h4⟩:=h;refine⟨by simp only[putC,List.length_set];exact h1,fun l hl=>?_,h3,h4⟩;rcases List.mem_or_eq_of_mem_set hl with hl|rfl
 ·exact h2 l hl
 ·rw[List.length_set,List.getD_eq_getElem?_getD]
  cases h9:x.cells[i]? with
  | none=>exact Nat.zero_le _
  | some l0=>exact h2 l0 (List.mem_of_getElem? h9)
theorem OwnS.nil(W:World)(n0:Nat):OwnS W n0 nilS (.agg #[.slice none 0 0,.slice none 0 0,.slice none 0 0]):=by
 refine⟨_,_,_,fun _=>.slice none 0 0,rfl,⟨fun i=>?_,fun i j b _ hi=>?_⟩,⟨fun l hl=>(by cases hl),fun x hx=>(by cases hx),fun x hx=>(by cases hx)⟩⟩
 ·cases i<;>simp only[zkV,nilS,List.getD_nil]<;>exact⟨rfl,.inl ⟨rfl,rfl⟩⟩
 ·cases i<;>simp[zkV,nilS,nilR,Value.ownBlock]at hi
theorem NV.kind{w:World}{S:Nat->Prop}{k k' n:Int}{s:ByteArray}{ks:List T}{A:Option Addr}{l c:Nat}(h:NV w S (.nd k n s ks) (.agg #[.int .u8 k,.int .i64 n,.string s,.slice A l c]))(hk:0<=k'/\k'<256):NV w S (.nd k' n s ks) (.agg #[.int .u8 k',.int .i64 n,.string s,.slice A l c]):=by
 obtain⟨v,hv⟩:=zX (Value.agg #[.int .u8 k,.int .i64 n,.string s,.slice A l c]);rw[hv]at h
 cases h with
 | mk _ _ _ _ A' c' a U0 U1 U2 U3 hf hlk hlc hA hc hk' =>
  unfold nv at hv;injection hv with hv;simp only[Array.mk.injEq,List.cons.injEq,and_true,Value.slice.injEq,true_and]at hv;obtain⟨rfl,rfl,rfl⟩:=hv;exact NV.mk k' n s ks A c a U0 U1 U2 U3 ⟨hk,hf.2⟩ hlk hlc hA hc hk'
theorem Kpt.chgS{n0:Nat}{kb C:Nat->Prop}{W w6 w9:World}(h:Kpt n0 kb W w6)(hc:Chg C w6 w9)(hC:∀b,b<W.heap.size->¬ C b):Kpt n0 kb W w9 :=
 ⟨Nat.le_trans h.size hc.size,fun b hb hk=>(hc.block b (Nat.lt_of_lt_of_le hb h.size) (hC b hb)).trans (h.kept b hb hk)⟩
theorem zlC(w:World){n:Nat}(hn:w.heap.size=n)(o:Obj):(w.alloc o).heap[n]?=some o:=by rw[<-hn];exact World.alloc_heap_new w o
theorem zqG(A:Option Addr)(n c:Nat)(w:World):Calls Tryz.prog 84 #[.slice A n c] w fun e w'=>e=.returned (.func (.func 115) #[] #[.pointer (some ⟨w.heap.size,0,none⟩)])/\w'=w.alloc (.cells #[.slice A n c] 25):=by
 go_enter Tryz.func84,Tryz.ntmps84;go_wp2_with fail;go_ret;exact⟨rfl,rfl⟩
theorem zyI:IsFn Tryz.prog 115 Tryz.f115:=⟨Tryz.func115,by kernel_rfl,by kernel_rfl⟩
theorem zuE{vc vi vo:Value}{fc:Nat->Value}{X:SS}{i a:Nat}{x:Int}(hi:i<X.cells.length) :
  updR (zkV vc vi vo fc X) (.el i) { (zkV vc vi vo fc X (.el i))with xs:=(zkV vc vi vo fc X (.el i)).xs.set a (.int .i64 x) }=zkV vc vi vo fc (putC X i a x):=by
 funext j
 cases j with
 | all=>simp[updR,zkV,putC]
 | inp=>rfl
 | out=>rfl
 | el j =>
  by_cases e:j=i
  ·subst e;simp[updR,zkV,putC,hi,zkf,List.getD_eq_getElem?_getD,List.map_set]
   try rw[List.getD_eq_getElem?_getD]
  ·have e2:(SI.el j=SI.el i)=False:=by simp[e]
   simp only[updR,e2,if_false,zkV,putC,List.length_set]
   split
   ·rw[show(X.cells.set i ((X.cells.getD i []).set a x)).getD j []=X.cells.getD j [] by simp only[List.getD_eq_getElem?_getD,List.getElem?_set_ne (Ne.symm e)]]
   ·rfl
theorem zqX{vc vi vo:Value}{fc:Nat->Value}{X:SS}{i a:Nat}{x:Int}(j:SI):(zkV vc vi vo fc (putC X i a x) j).v=(zkV vc vi vo fc X j).v:=by
 cases j<;>simp only[zkV,putC,List.length_set]
 split<;>rfl
theorem zoH{vs:List VD}{s:ByteArray}:∀ {j i:Nat},zlw vs s j=some i->j<=vs.length->(∀hi:i<vs.length,vs[i].s.toList=s.toList)/\∀k,i<k->k<j->∀hk:k<vs.length,vs[k].s.toList≠s.toList
 | 0,_,h,_=>by simp[zlw]at h
 | j+1,i,h,hj=>by
  have hjl:j<vs.length:=by omega
  rw[znk hjl]at h
  split at h
  ·rename_i h1;injection h with h;subst h;exact⟨fun _=>by simpa using h1,fun k h2 h3=>by omega⟩
  ·rename_i h1;obtain⟨a,b⟩:=zoH h (by omega);refine⟨a,fun k h2 h3 hk=>?_⟩;by_cases e:k=j
   ·subst e;simpa using h1
   ·exact b k h2 (by omega) hk
structure SetI(N N2 N4 N8 n6:Nat)(nd:Array Value)(a0 xv:Int)(vc vi vo:Value)(fc:Nat->Value)(X:SS)(C:Nat->Prop)(W:World):Prop where
 c:∀b,C b↔b=N\/b=N+1\/b=N2\/b=N4\/b=N8\/∃i,(zkV vc vi vo fc X i).v.ownBlock=some b
 n:W.heap[N]?=some (.cells nd 24 (0,0))
 n1:W.heap[N+1]?=some (.cells #[.slice none 0 0,.slice none 0 0,.slice none 0 0] 34 (0,0))
 n2:W.heap[N2]?=some (.cells #[.int .i64 a0] 3 (0,0))
 n4:W.heap[N4]?=some (.cells #[.int .i64 xv] 3 (0,0))
 n8:W.heap[N8]?=some (.cells #[vc,vi,vo] 34 (0,0))
 rws:Rws W n6 (zkV vc vi vo fc X)
section
variable {N N2 N4 N8 n6:Nat} {nd:Array Value} {a0 xv:Int} {vc vi vo:Value} {fc:Nat->Value} {X:SS} {C:Nat->Prop} {W W':World}
theorem SetI.chg{D:Nat->Prop}(h:SetI N N2 N4 N8 n6 nd a0 xv vc vi vo fc X C W)(hc:Chg D W W')(hD:∀b,C b->¬ D b):SetI N N2 N4 N8 n6 nd a0 xv vc vi vo fc X C W':=by
 have hk:=fun b (e:b=N\/b=N+1\/b=N2\/b=N4\/b=N8\/∃i,(zkV vc vi vo fc X i).v.ownBlock=some b)=>hD b ((h.c b).2 e);exact⟨h.c,hc.keep h.n (hk _ (.inl rfl)),hc.keep h.n1 (hk _ (.inr (.inl rfl))),hc.keep h.n2 (hk _ (.inr (.inr (.inl rfl)))),hc.keep h.n4 (hk _ (.inr (.inr (.inr (.inl rfl))))),hc.keep h.n8 (hk _ (.inr (.inr (.inr (.inr (.inl rfl)))))),h.rws.chg hc fun i b hb=>hk _ (.inr (.inr (.inr (.inr (.inr ⟨i,hb⟩)))))⟩
theorem SetI.lt(h:SetI N N2 N4 N8 n6 nd a0 xv vc vi vo fc X C W)(b:Nat)(hb:C b):b<W.heap.size:=by
 rcases(h.c b).1 hb with rfl|rfl|rfl|rfl|rfl|⟨i,hi⟩
 ·exact zki h.n
 ·exact zki h.n1
 ·exact zki h.n2
 ·exact zki h.n4
 ·exact zki h.n8
 ·exact(h.rws.lt i b hi).2
end
theorem zwC{w:World}{n0 sb:Nat}{kb:Nat->Prop}{W:World}{vs:List VD}{s:SS}{n:Int}{nm:ByteArray}{ks:List T}{v:Value}{A:Option Addr}{c:Nat}(hk:KS w n0 sb kb W (newS vs s))(hf:fitB vs s=true)(hs:isS (.nd 56 n nm ks)=true)
  (hv:NV W (fun b=>b<n0\/kb b) (.nd 56 n nm ks) v)(hr:RowV W (fun b=>b<n0\/kb b) A vs) :
  Calls Tryz.prog 40 #[v,.slice A vs.length c,.pointer (some ⟨sb,0,none⟩)] W (AsgP w n0 kb (setE vs s (.nd 56 n nm ks)) W):=by
 obtain⟨p,q,rfl,hp,hq,ru⟩:=zwg hs rfl;obtain⟨A2,c2,rfl,hfl,hlk,hlc,hrow⟩:=hv.open_;simp only[T.k_nd,T.n_nd,T.s_nd,T.ks_nd,List.length_cons,List.length_nil,Nat.zero_add,Nat.reduceAdd]at hfl hlk hlc hrow;obtain⟨a,u,A3,c3,rfl,ha2,Hu,⟨q0,q1,q2,q3⟩,hnu⟩:=hrow.nd (i:=0) (by simp);obtain⟨a',u',A4,c4,e4,xI,Hu',⟨r0,r1,r2,r3⟩,hnu'⟩:=hrow.nd (i:=1) (by simp);injection e4 with e4;subst e4;simp only[Nat.zero_mul,Nat.one_mul,Addr.add_zero']at q0 q1 q2 q3 r0 r1 r2 r3;have rW:a.add 4=⟨a.block,a.off+4,none⟩:=by simp[Addr.add]
 simp only[rW]at r0 r1 r2 r3;have hw:=hk.wf;have nY:=zh (zrh hw (hnu'.keep (S':=Any) (fun _ _ _=>trivial) fun _ _ _=>rfl));have iB:=zh (fun w' (hb:Below W.heap.size W w')=>zl5 (zrV w n0 sb kb (newS vs s) hw) u _ w' ((hnu.keep (S':=Any) (fun _ _ _=>trivial) fun _ _ _=>rfl).later hb) (hk.later hb));have iD:=zh (fun w' (hb:Below W.heap.size W w')=>zne (zrV w n0 sb kb (newS vs s) hw) u' _ w' ((hnu'.keep (S':=Any) (fun _ _ _=>trivial) fun _ _ _=>rfl).later hb) (hk.later hb));have hset:setE vs s (.nd 56 n nm [p,q])=if (doE (newS vs s) (.nd 40 n nm [p,q])).1≠0 then((doE (newS vs s) (.nd 40 n nm [p,q])).1,nilS)else match zlw vs p.s vs.length with
   | none=>(0,(doE (newS vs s) (.nd 40 n nm [p,q])).2.state)
   | some i=>(0,putC (doE (newS vs s) (.nd 40 n nm [p,q])).2.state i (indE (newS vs s).look p).1.toNat (zk7 (newS vs s).look q).1):=rfl
 have hok:=fun h=>zwa (q:=q) (n:=n) (nm:=nm) hw hp h;have yR:p=u:=Hu.out;have sH:q=u':=Hu'.out;subst yR sH;obtain⟨⟨xi,ei⟩,hxi⟩:=zX (indE (newS vs s).look p);obtain⟨⟨xv,ev⟩,hxv⟩:=zX (zk7 (newS vs s).look q);rw[hxi]at iB hset hok;rw[hxv]at iD hset nY;simp only at hset hok;have jW:=zh hset;have lD:=zh hok;have HK:=zh hk;have HR:=zh (hr.keep (S':=fun b=>(b<n0\/kb b)/\b<W.heap.size) (fun b h hlt=>⟨h,hlt⟩) fun _ _ _=>rfl);have HV:=zh (hv.keep (S':=fun b=>(b<n0\/kb b)/\b<W.heap.size) (fun b h hlt=>⟨h,hlt⟩) fun _ _ _=>rfl);have aa:=zh (hrow.keep (S':=fun b=>(b<n0\/kb b)/\b<W.heap.size) (fun b h hlt=>⟨h,hlt⟩) fun _ _ _=>rfl);have HF:=zh hf;have HA2:=zh (And.intro ha2 xI);obtain⟨uk,un,us,uks⟩:=p;obtain⟨uk',un',yl,uks'⟩:=q;simp only[T.k_nd,T.n_nd,T.s_nd,T.ks_nd]at q0 q1 q2 q3 r0 r1 r2 r3 iB iD;obtain⟨N,hN⟩:=zX (W.heap.size);have HN:=zh hN
 have xQ:=zh (show w.heap.size<=N by rw[<-hN];exact hk.bl.size);have k0:=zkg (heap_alloc_new W (.cells #[.int .u8 56,.int .i64 n,.string nm,.slice (some a) 2 c2] 24)) (.cells #[.slice none 0 0,.slice none 0 0,.slice none 0 0] 34);have hb1:Below W.heap.size W ((W.alloc (.cells #[.int .u8 56,.int .i64 n,.string nm,.slice (some a) 2 c2] 24)).alloc (.cells #[.slice none 0 0,.slice none 0 0,.slice none 0 0] 34)):=zkc (zkc zr _) _;have k1:=zlC (W.alloc (.cells #[.int .u8 56,.int .i64 n,.string nm,.slice (some a) 2 c2] 24)) (by simp[hN]:(W.alloc (.cells #[.int .u8 56,.int .i64 n,.string nm,.slice (some a) 2 c2] 24)).heap.size=N+1) (.cells #[.slice none 0 0,.slice none 0 0,.slice none 0 0] 34);obtain⟨w1,hw1⟩:=zX ((W.alloc (.cells #[.int .u8 56,.int .i64 n,.string nm,.slice (some a) 2 c2] 24)).alloc (.cells #[.slice none 0 0,.slice none 0 0,.slice none 0 0] 34))
 have hz1:w1.heap.size=N+2:=by rw[<-hw1,<-hN];simp
 rw[hw1]at k0 k1 hb1;rw[hN]at k0;have aN:=zh k0;have aB:=zh k1;have HB1:=zh hb1;have HZ1:=zh hz1;have y3:w1.cell? ⟨N,3,none⟩=some (.slice (some a) 2 c2):=zc k0 rfl;have t0:=zb hb1 q0;have t1:=zb hb1 q1;have t2:=zb hb1 q2;have t3:=zb hb1 q3;have qE:=zh q2;have HROWL:=zh (show a.block<W.heap.size from World.block_lt_of_cell? W _ q0);have HT:=zh (And.intro r0 (And.intro r1 (And.intro r2 r3)));clear hk hr hv hrow hf hp hq hs ru hfl hlk hlc hnu hnu' hw hset hok k0 k1 hz1 q0 q1 q2 q3 r0 r1 r2 r3 hxi hxv ha2 xI hb1 Hu Hu'
 show Calls Tryz.prog 40 #[.agg #[.int .u8 56,.int .i64 n,.string nm,.slice (some a) 2 c2],.slice A vs.length c,.pointer (some ⟨sb,0,none⟩)] W _
 refine(callsIn_wide (n:=3)).1 (callsIn_of_wp_marks Tryz.func40 rfl trivial ((wpIn_wide (n:=3)).2 ?_));simp only[Tryz.ntmps40,List.size_toArray,List.length_cons,List.length_nil,Nat.reduceAdd,Nat.reduceSub,Array.replicate_succ,Array.replicate_zero,List.push_toArray,List.append_toArray,List.nil_append,List.cons_append];go_wp2_with fail;refine(iB.out _ HB1.out).mono ?_;rintro e2 w2 ⟨rfl,hb2⟩;have HB2:=zh (zkb HB1.out hb2);have k2:=zka aN.out hb2;have hz2:=hb2.size;have HZ2:=zh (show N+2<=w2.heap.size by have:=HZ1.out;omega);obtain⟨w3,hw3⟩:=zX (w2.alloc (.cells #[.int .i64 xi] 3));have hb3:Below w2.heap.size w2 w3:=by rw[<-hw3];exact zkc zr _
 have hk3:=heap_alloc_new w2 (.cells #[.int .i64 xi] 3);rw[hw3]at hk3;have gu:=zh hk3;obtain⟨N2,sG⟩:=zX (w2.heap.size);have aI:=zh sG;have HW3:=zh hw3;have HB3:=zh (zkb HB2.out hb3);have k3:=zka k2 hb3
 replace y3:w3.cell? ⟨N,3,none⟩=some (.slice (some a) 2 c2):=zc k3 rfl
 have HKN3:=zh k3;have HK13:=zh (zka aB.out (zkb hb2 hb3));obtain⟨r0,r1,r2,r3⟩:=HT.out
 replace r0:=zb HB3.out r0
 replace r1:=zb HB3.out r1
 replace r2:=zb HB3.out r2
 replace r3:=zb HB3.out r3
 clear hb2 hb3 k2 k3 hk3 t0 t1 t2 t3 hw1 hz2 iB;go_wp2_with fail;refine(iD.out _ HB3.out).mono ?_;rintro e4 w4 ⟨rfl,hb4⟩;have av:=zh (zkb HB3.out hb4);obtain⟨w5,eF⟩:=zX (w4.alloc (.cells #[.int .i64 xv] 3));have hb5:Below w4.heap.size w4 w5:=by rw[<-eF];exact zkc zr _
 have hk5:=heap_alloc_new w4 (.cells #[.int .i64 xv] 3);rw[eF]at hk5;have kY:=zkb hb4 hb5;have dW:=zh hk5;obtain⟨N4,uP⟩:=zX (w4.heap.size);have wU:=zh uP;have ay:=zh (zkb av.out hb5);rw[sG]at gu;rw[uP]at dW;have HK35:=zh (zka gu.out kY);have tL:=zh (zka HKN3.out kY);have HK15:=zh (zka HK13.out kY);obtain⟨wk,hwk,hck,hhk⟩:=setU (o:=0) (.int .u8 40) tL.out;have rJ:wk.heap[N]?=some (.cells #[.int .u8 40,.int .i64 n,.string nm,.slice (some a) 2 c2] 24 (0,0)):=by simpa using hhk
 obtain⟨z0,z1,z2,z3⟩:=box4 rJ;have x0:w5.cell? ⟨N,0,none⟩=some (.int .u8 56):=zc tL.out rfl;have cf:∀o,w5.frozen? ⟨N,o,none⟩=false:=fun o=>zf tL.out;have iA:=zh (show N2<w5.heap.size/\N4<w5.heap.size/\N+2<=N2/\N2<N4/\w5.heap.size=N4+1 from by
  have h1:=zki HK35.out;have h2:=zki dW.out;have h3:=HZ1.out;have h4:=hb4.size;have h5:=zki gu.out;have h6:w5.heap.size=w4.heap.size+1:=by rw[<-eF];simp
  have h7:=HB2.out.size;have h8:=HZ2.out;exact⟨h1,h2,by omega,by omega,by omega⟩)
 have bP:=zh hck;have HHK:=zh rJ;have hkb0:∀b,(kb b\/b=N\/b=N+1\/b=N2\/b=N4)->kb b\/(W.heap.size<=b/\b<w5.heap.size):=fun b h=>by
  have:=iA.out;have h1:=HN.out;rcases h with h|rfl|rfl|rfl|rfl
  ·exact .inl h
  ·exact .inr ⟨by omega,by omega⟩
  ·exact .inr ⟨by omega,by omega⟩
  ·exact .inr ⟨by omega,by omega⟩
  ·exact .inr ⟨by omega,by omega⟩
 have hk5':=HK.out.also (kb':=fun b=>kb b\/b=N\/b=N+1\/b=N2\/b=N4) ay.out hkb0;have hkk:=hk5'.chg hck fun b hb (e:b=N)=>⟨by have:=HK.out.bl.size;have:=HN.out;omega,.inr (.inr (.inl e))⟩
 have hnv40:NV wk Any (.nd 40 n nm [.nd uk un us uks,.nd uk' un' yl uks']) (.agg #[.int .u8 40,.int .i64 n,.string nm,.slice (some a) 2 c2]):=by
  refine((NV.kind HV.out (by decide)).later ay.out).keep (fun _ _ _=>trivial) fun b hb hlt=>?_;exact hck.block b hlt fun(e:b=N)=>by have:=hb.2;have:=HN.out;omega
 have ji:=zh (hkk.do_ _ _ hnv40);clear hb4 hb5 hk5 kY hck hhk rJ hkb0 hk5' r0 r1 r2 r3 iD hw3 sG uP;go_wp2_with fail;refine ji.out.mono ?_;rintro e6 w6 ⟨rfl,iL,eH⟩;obtain⟨⟨er,S6⟩,hdo⟩:=zX (doE (newS vs s) (.nd 40 n nm [.nd uk un us uks,.nd uk' un' yl uks']));rw[hdo]at iL ⊢;have hset:=jW.out;have hok:=lD.out;rw[hdo]at hset hok;simp only at iL hset hok ⊢;have aS:=zh iL;have qK:=zh eH;have hin:∀b,b=N\/b=N+1\/b=N2\/b=N4->b<n0\/(kb b\/b=N\/b=N+1\/b=N2\/b=N4):=fun b h=>.inr (.inr h);have mq:=eH.blk (hin N (.inl rfl)) HHK.out;have hn61:=eH.blk (hin (N+1) (.inr (.inl rfl))) (bP.out.keep HK15.out fun e=>by have e:N+1=N:=e;omega);have hn62:=eH.blk (hin N2 (.inr (.inr (.inl rfl)))) (bP.out.keep HK35.out fun e=>by have e:N2=N:=e;have:=iA.out;omega)
 have hn64:=eH.blk (hin N4 (.inr (.inr (.inr rfl)))) (bP.out.keep dW.out fun e=>by have e:N4=N:=e;have:=iA.out;omega);have dL:=zh mq;have pQ:=zh hn61;have HN62:=zh hn62;have HN64:=zh hn64;have HKW:=zh (show Kpt n0 kb W w6 from⟨Nat.le_trans ay.out.size (Nat.le_trans bP.out.size eH.size),fun b hb hk=>by
  rw[eH.kept b (by have:=ay.out.size;have:=bP.out.size;omega) (hk.imp id .inl),bP.out.block b (by have:=ay.out.size;omega) fun(e:b=N)=>by have:=HN.out;omega];exact ay.out.block b hb⟩)
 clear iL eH hin mq hn61 hn62 hn64 x0 cf z0 z1 z2 z3 eF hwk y3 ji hkk hnv40;by_cases h0:er=0;rotate_left 1
 ·have hne:(er==0)=false:=by simpa using h0
  have HS:=zh (hset.trans (if_pos h0));obtain⟨w9,aP,aU,bA⟩:=st3 (.slice none 0 0) (.slice none 0 0) (.slice none 0 0) pQ.out;obtain⟨q0,q1,q2⟩:=zkn pQ.out;have cf:∀o,w6.frozen? ⟨N+1,o,none⟩=false:=fun o=>zf pQ.out;obtain⟨t0,t1,t2⟩:=zkn bA;have nG:=zh aU;clear hset hok bA aU hdo;go_wp2_with fail;rw[HS.out];exact⟨_,by simp[results,Tryz.results40,go_sem,t0,t1,t2],aS.out.bl.trans (nG.out.below aS.out.bl.size fun b (e:b=N+1)=>by have:=xQ.out;omega),HKW.out.chgS nG.out fun b hb (e:b=N+1)=>by have:=HN.out;omega,_,rfl,OwnS.nil _ _,zq5⟩
 subst h0;obtain⟨i,a0,g1,g2,g3,g4,x,g5⟩:=hok rfl;rw[if_neg (by decide),g1]at hset;simp only at hset;have hst:=aS.out.state;have HST:=zh hst;have hst9:S6.state=putC s i a0 x:=by
  rw[show S6=(newS vs s).put i a0 x from g5];exact zpH (zlF HF.out).2.1 g2 x
 have pG:=zh hst9;have HI:=zh (And.intro g1 (And.intro g2 g4));have jW:=zh hset;subst g3;clear hset hok hdo g1 g2 g4 g5 hst hst9;go_wp2_with fail;refine HST.out.mono ?_;rintro e7 w7 ⟨v7,rfl,ig,dF⟩;obtain⟨vc,vi,vo,fc,rfl,hrw,hI7⟩:=ig;obtain⟨Ac,cc,bQ,-⟩:=zkd (hrw.row .all);obtain⟨Ai,ci,nN,-⟩:=zkd (hrw.row .inp);obtain⟨Ao,co,uE,-⟩:=zkd (hrw.row .out);change vc=.slice Ac S6.state.cells.length cc at bQ;change vi=.slice Ai S6.state.tin.length ci at nN;change vo=.slice Ao S6.state.tout.length co at uE;have hcl:S6.state.cells.length=vs.length:=by rw[pG.out];simp[putC,(zlF HF.out).2.1]
 rw[hcl]at bQ;subst bQ nN uE;have cK:=zkc (zs w7) (.cells #[.slice Ac vs.length cc,.slice Ai S6.state.tin.length ci,.slice Ao S6.state.tout.length co] 34);have iM:=heap_alloc_new w7 (.cells #[.slice Ac vs.length cc,.slice Ai S6.state.tin.length ci,.slice Ao S6.state.tout.length co] 34);obtain⟨w8,hw8⟩:=zX (w7.alloc (.cells #[.slice Ac vs.length cc,.slice Ai S6.state.tin.length ci,.slice Ao S6.state.tout.length co] 34));have qP:w8.heap.size=w7.heap.size+1:=by rw[<-hw8];simp
 rw[hw8]at cK iM;obtain⟨N8,vX⟩:=zX (w7.heap.size);rw[vX]at iM qP;have HN8:=zh vX;have y9:=zh qP;have HB68:=zh (zkb dF cK);have xV:=zh (show w6.heap.size<=N8 by rw[<-vX];exact dF.size);have pV:=zh iM;have HRW8:=zh (hrw.later cK);have pO:=zh (show ∀j b,(zkV (.slice Ac vs.length cc) (.slice Ai S6.state.tin.length ci) (.slice Ao S6.state.tout.length co) fc S6.state j).v.ownBlock=some b->b<N8 from fun j b h=>by rw[<-vX];exact(hrw.lt j b h).2);have jE:=zh hI7;clear dF cK iM qP hrw hI7 vX HST hcl;go_wp2_with fail;refine(zqG _ _ _ w8).mono ?_;rintro e9 w9 ⟨rfl,aP⟩;have yt:=zlC w8 y9.out (.cells #[.slice A vs.length c] 25);have aF:=zkc (zs w8) (.cells #[.slice A vs.length c] 25);have lL:w9.heap.size=N8+2:=by rw[aP];simp[y9.out]
 rw[<-aP]at yt aF;have eX:=zh yt;have yZ:=zh lL;have lJ:=zh (zkb HB68.out aF);have hsz68:w6.heap.size<=N8:=xV.out;have fA:=zh (show N+1<N2/\N2<N4/\N4<w6.heap.size/\w6.heap.size<=N8/\N=W.heap.size from by
  have h1:=iA.out;have h2:=zki HN64.out;have h3:=HN.out;exact⟨by omega,h1.2.2.2.1,h2,hsz68,h3.symm⟩)
 have hB6W:Kpt n0 kb W w9:=HKW.out.trans (Kpt.of_below lJ.out);have pU:=zh hB6W;obtain⟨X,hX⟩:=zX (S6.state);rw[hX]at HRW8 jE pG pV pO;have HX:=zh hX;have iY:=zh (hX▸(znQ aS.out.wf).2.1);have hsi:SetI N N2 N4 N8 w6.heap.size #[.int .u8 40,.int .i64 n,.string nm,.slice (some a) 2 c2] (a0:Int) xv (.slice Ac vs.length cc) (.slice Ai X.tin.length ci) (.slice Ao X.tout.length co) fc X (fun b=>b=N\/b=N+1\/b=N2\/b=N4\/b=N8\/∃i,(zkV (.slice Ac vs.length cc) (.slice Ai X.tin.length ci) (.slice Ao X.tout.length co) fc X i).v.ownBlock=some b) w9 :=
  ⟨fun _=>Iff.rfl,zka dL.out lJ.out,zka pQ.out lJ.out,zka HN62.out lJ.out,zka HN64.out lJ.out,zka pV.out aF,HRW8.out.later aF⟩
 have wP:=zh hsi;clear yt aF lL hsz68 hB6W hX hsi aP hw8;rw[y9.out];go_wp2_with fail;have HBG:=zh (zp7 (3-1) (N8+1) (by decide) vs A c (fun b=>(b<n0\/kb b)/\b<W.heap.size) w9 eX.out (HR.out.keep (fun b h _=>h) fun b h hlt=>pU.out.kept b hlt h.1) (by have:=(zlF HF.out).1;omega));have hls:=zoH HI.out.1 zl;have hlast:∀k,k<vs.length->i<k->∀hk:k<vs.length,vs[k].s.toList≠us.toList:=fun k h1 h2 hk=>hls.2 k h2 h1 hk;have hname:∀hk:i<vs.length,vs[i].s.toList=us.toList:=hls.1;have HLAST:=zh hlast;have HNAME:=zh hname;clear hlast hname hls;refine(wpIn_wide (n:=3)).1 ?_;rw[HN8.out,wU.out];refine zrG (k:=0) (n:=3) (gf:=115) (lb := #[.pointer (some ⟨N8+1,0,none⟩)]) rfl (zkE zyI) HBG.out rfl
  (fun pre C W'=>SetI N N2 N4 N8 w6.heap.size #[.int .u8 40,.int .i64 n,.string nm,.slice (some a) 2 c2] (a0:Int) xv (.slice Ac vs.length cc) (.slice Ai X.tin.length ci) (.slice Ao X.tout.length co) fc X C W'/\∀k,vs.length-pre.length<=k->∀hk:k<vs.length,vs[k].s.toList≠us.toList)
  (fun pre C W'=>SetI N N2 N4 N8 w6.heap.size #[.int .u8 40,.int .i64 n,.string nm,.slice (some a) 2 c2] (a0:Int) xv (.slice Ac vs.length cc) (.slice Ai X.tin.length ci) (.slice Ao X.tout.length co) fc (putC X i a0 xv) C W') (fun b=>b=N\/b=N+1\/b=N2\/b=N4\/b=N8\/∃i,(zkV (.slice Ac vs.length cc) (.slice Ai X.tin.length ci) (.slice Ao X.tout.length co) fc X i).v.ownBlock=some b)
  (fun pre C W W' h hc=>⟨h.1.chg hc fun b hb h=>h hb,h.2⟩) (fun pre C W W' h hc=>h.chg hc fun b hb h=>h hb) (fun pre C W h=>h.1.lt) (fun pre C W h=>h.lt)
  (fun b h1 h2=>by
   have hn:=fA.out;have h3:b<N8+1:=by
    rcases h1 with h|h|h|h|h|⟨j,h⟩
    ·omega
    ·omega
    ·omega
    ·omega
    ·omega
    ·have:=pO.out j b h;omega
   have h4:W.heap.size<=b:=by
    rcases h1 with h|h|h|h|h|⟨j,h⟩
    ·omega
    ·omega
    ·omega
    ·omega
    ·omega
    ·have:=(wP.out.rws.lt j b h).1;omega
   rcases h2 with h2|h2
   ·omega
   ·have:=h2.1.2;omega) (fun b h=>by
   have:=yZ.out;rcases h with h|h
   ·omega
   ·exact h.2) ⟨wP.out,fun k h hk=>by simp at h;omega⟩ ?_ (fun a w h=>h) ?_
 ·rintro l pre x C W3 pv v ⟨hI,hpl⟩ nW hl vN hpre ⟨rfl,⟨hxv,rfl⟩,hkeep⟩;have hx:x=vs.length-1-pre.length/\pre.length+1<=vs.length:=by
   have h1:=hpre.length_le;simp at h1;obtain⟨ys,hys⟩:=hpre;have h2:=congrArg (fun L:List Nat=>L[pre.length]?) hys;simp only[List.append_assoc,List.singleton_append,List.getElem?_append_right zl,Nat.sub_self,List.getElem?_cons_zero]at h2;rw[List.getElem?_eq_getElem (by simp;omega)]at h2;simp at h2;exact⟨h2,h1⟩
  obtain⟨u9,qo⟩:=zX (vs[x]);rw[qo];obtain⟨s9,k9,n9⟩:=u9;have iW:=zh (And.intro hx hpl);clear hx;have HU9:=zh (show ∃h:x<vs.length,vs[x]=⟨s9,k9,n9⟩from⟨hxv,qo⟩);unfold vdV;simp only;change Code.wpIn (Fence.wide.inRound l) (3-1-1) Tryz.prog _ _ _ _
  gi_wp2
  refine⟨(Chg.refl _ _).alloc _,fun W4 iQ=>?_⟩;have hbx:=iQ.keep (heap_alloc_new W3 (.cells #[.string s9,.int .u8 k9,.int .i64 n9] 76)) (show ¬ W3.heap.size=l by omega);have nU:=(hI.chg (Chg.of_below (zkc (zs W3) (.cells #[.string s9,.int .u8 k9,.int .i64 n9] 76)) (C:=fun _=>False)) fun _ _=>id).chg iQ fun b hb (e:b=l)=>nW (e▸hb);have HI4:=zh nU;have hkq:W4.heap[a.block]?=W.heap[a.block]?:=by
   have h1:=HA2.out.1;have h2:a.block<W.heap.size:=HROWL.out;have h9:=pU.out.size;have h3:=hkeep a.block ⟨h1,h2⟩ (Nat.lt_of_lt_of_le h2 h9);have h5:a.block<W3.heap.size:=by omega
   exact(((iQ.block a.block (by rw[World.size_alloc];omega) (fun(e:a.block=l)=>by omega)).trans (Below.heap_alloc _ _ _ h5)).trans h3).trans (pU.out.kept a.block h2 h1)
  obtain⟨t0,t1,t2⟩:=zkn hbx;obtain⟨b9,aF⟩:=zX (W3.heap.size);rw[aF]at t0 t1 t2 ⊢;have y3:W4.cell? ⟨N,3,none⟩=some (.slice (some a) 2 c2):=zc nU.n rfl;have ys:W4.cell? ⟨a.block,a.off+2,none⟩=some (.string us):=zkr qE.out hkq;have hSS:(fun w':World=>zv w' b9 0 (.string s9)/\zv w' N 3 (.slice (some a) 2 c2)/\zv w' a.block (a.off+2) (.string us)) W4.drew:=⟨t0,y3,ys⟩
  clear t0 t1 t2 y3 ys hkq hbx iQ hI hpl nW hpre hkeep;obtain⟨bq,hbq⟩:=zX ((s9.toList==us.toList));have HBQ:=zh hbq
  gi_upto_region 11 with fail
  refine zl6 (ro:=some l) (fun w':World=>zv w' b9 0 (.string s9)/\zv w' N 3 (.slice (some a) 2 c2)/\zv w' a.block (a.off+2) (.string us)) (by kernel_rfl) ?_;refine zI 0 hSS ?_;refine zI 1 hSS ?_;refine zI 2 hSS ?_;refine zI 3 hSS ?_;refine zI 4 hSS ?_;refine zI 5 hSS ?_;refine zI 6 hSS ?_;refine zI 7 hSS ?_;refine zoZ (by kernel_rfl) ?_;have Ak:=zh (HI4.out.chg (Chg.of_below (zs W4).drew (C:=fun _=>False)) fun _ _=>id);obtain⟨W5,uM⟩:=zX (W4.drew);have hc45:Chg C W4 W5:=by rw[<-uM];exact Chg.of_below zr.drew
  rw[uM]at Ak ⊢;have HC45:=zh hc45;clear uM hc45 hSS hbq
  cases bq
  ·gi_wp2
   refine⟨C,⟨Ak.out,fun k h hk=>?_⟩,fun b h=>.inl h,HC45.out⟩;rw[List.length_append,List.length_singleton]at h;by_cases e:vs.length-pre.length<=k
   ·exact iW.out.2 k e hk
   ·have hk2:k=x:=by have:=iW.out.1;omega
    subst hk2;obtain⟨_,hu⟩:=HU9.out;rw[hu];have:=HBQ.out;simpa using this
  ·have hxi:x=i:=by
    obtain⟨hx1,hu⟩:=HU9.out;have hm:vs[x].s.toList=us.toList:=by rw[hu];have:=HBQ.out;simpa using this
    have h1:¬ i<x:=fun h=>HLAST.out x hx1 h hx1 hm;have h2:¬ vs.length-pre.length<=i:=fun h=>iW.out.2 i h HI.out.2.1 (HNAME.out HI.out.2.1);have:=iW.out.1;omega
   subst hxi;have hin:=HI.out.2.1;have yL:X.cells.length=vs.length:=by rw[pG.out];simp[putC,(zlF HF.out).2.1]
   have xK:a0<(X.cells.getD x []).length:=by
    have h4:=HI.out.2.2;rw[pG.out];simp only[putC];rw[List.getD_eq_getElem?_getD,List.getElem?_set_self (by rw[(zlF HF.out).2.1];exact hin)];simpa using h4
   have hxX:x<X.cells.length:=by rw[yL];exact hin
   have hput:=zuE (vc:=.slice Ac vs.length cc) (vi:=.slice Ai X.tin.length ci) (vo:=.slice Ao X.tout.length co) (fc:=fc) (a:=a0) (x:=xv) hxX;have hown:=fun j=>zqX (vc:=.slice Ac vs.length cc) (vi:=.slice Ai X.tin.length ci) (vo:=.slice Ao X.tout.length co) (fc:=fc) (X:=X) (i:=x) (a:=a0) (x:=xv) j;have iC:=zh (Ak.out.chg (Chg.of_below (zs W5).drew (C:=fun _=>False)) fun _ _=>id);obtain⟨W6,rY⟩:=zX (W5.drew);have hc56:Chg C W5 W6:=by rw[<-rY];exact Chg.of_below zr.drew
   rw[rY]at iC;have hra:=iC.out.rws.row .all;have aQ:=iC.out.rws.row (.el x);have wD:zkV (.slice Ac vs.length cc) (.slice Ai X.tin.length ci) (.slice Ao X.tout.length co) fc X (.el x)=⟨fc x,3,1,(X.cells.getD x []).length,zkf (X.cells.getD x [])⟩:=by simp only[zkV,hxX,if_true]
   obtain⟨L,hL⟩:=zX ((X.cells.getD x []).length);have hxl:(zkV (.slice Ac vs.length cc) (.slice Ai X.tin.length ci) (.slice Ao X.tout.length co) fc X (.el x)).xs.length=L:=by rw[wD];simp[zkf,<-hL]
   rw[wD,hL]at aQ;simp only[zkV,yL]at hra;rw[hL]at xK;rcases hra.2 with⟨e1,e2⟩|⟨gc,cap,cur,e1,-⟩
   ·omega
   rcases aQ.2 with⟨e3,e4⟩|⟨gi,cg,cur3,e3,-,hgi,-⟩
   ·simp only at e4;omega
   have hown':=hown;injection e1 with e1 e1b e1c;subst e1 e1c;simp only at e3;have y0:W6.cell? ⟨N8,0,none⟩=some (.slice (some ⟨gc,0,none⟩) vs.length cc):=zc iC.out.n8 rfl;have y1:W6.cell? ⟨gc,x,none⟩=some (.slice (some ⟨gi,0,none⟩) L cg):=by
    have:=iC.out.rws.cell .all (g:=gc) (u:=fc x) (o:=x) rfl (by simp only[zkV,yL];simp[hin]);rwa[e3]at this
   have y2:W6.cell? ⟨N2,0,none⟩=some (.int .i64 a0):=zc iC.out.n2 rfl;have y4:W6.cell? ⟨N4,0,none⟩=some (.int .i64 xv):=zc iC.out.n4 rfl;have hgo:(zkV (.slice (some ⟨gc,0,none⟩) vs.length cc) (.slice Ai X.tin.length ci) (.slice Ao X.tout.length co) fc X (.el x)).v.ownBlock=some gi:=by rw[wD,e3];rfl
   have hset:=iC.out.rws.set (.el x) (g:=gi) (o:=a0) hgo (by rw[hxl];exact xK) (.int .i64 xv);rw[hput]at hset;have hx0:(0:Int)<=(x:Int):=by omega
   have hx1:(x:Int)<(vs.length:Int):=by omega
   have ha0:(0:Int)<=(a0:Int):=by omega
   have ha1:(a0:Int)<(L:Int):=by omega
   have hgl:=iC.out.rws.lt (.el x) gi hgo;have gK:gi≠N/\gi≠N+1/\gi≠N2/\gi≠N4/\gi≠N8/\gi≠gc:=by
    have h:=fA.out;refine⟨by omega,by omega,by omega,by omega,fun e=>?_,fun e=>?_⟩
    ·have:=pO.out (.el x) gi (by rw[wD,e3];rfl);omega
    ·exact iC.out.rws.sep (.el x) .all gi (by simp) hgo (by rw[e];rfl)
   have y5:W6.cell? ⟨gi,a0,none⟩=some (.int .i64 ((X.cells.getD x []).getD a0 0)):=iC.out.rws.cell (.el x) hgo (by rw[wD];simp only[zkf];rw[List.getElem?_map,List.getElem?_eq_getElem (by rw[hL];exact xK)];rw[Option.map_some,List.getD_eq_getElem?_getD (l:=X.cells.getD x []),List.getElem?_eq_getElem (show a0<(X.cells.getD x []).length by rw[hL];exact xK)];rfl);have cfg:∀o,W6.frozen? ⟨gi,o,none⟩=false:=fun o=>zf hgi;have hcs:Chg (fun q=>q=gi) W6 (W6.setCell ⟨gi,a0,none⟩ (.int .i64 xv)):=(Chg.refl (fun q=>q=gi) W6).setCell (p:=⟨gi,a0,none⟩) (.inl rfl) _;have hkq:∀b,b≠gi->(W6.setCell ⟨gi,a0,none⟩ (.int .i64 xv)).heap[b]?=W6.heap[b]?:=fun b h=>Below.heap_setCell _ _ _ _ h
   have aC:=zh (show SetI N N2 N4 N8 w6.heap.size #[.int .u8 40,.int .i64 n,.string nm,.slice (some a) 2 c2] (a0:Int) xv (.slice (some ⟨gc,0,none⟩) vs.length cc) (.slice Ai X.tin.length ci) (.slice Ao X.tout.length co) fc (putC X x a0 xv) C (W6.setCell ⟨gi,a0,none⟩ (.int .i64 xv))from
    ⟨fun b=>by rw[iC.out.c b];simp only[hown'],(hkq N (Ne.symm gK.1)).trans iC.out.n,(hkq (N+1) (Ne.symm gK.2.1)).trans iC.out.n1,(hkq N2 (Ne.symm gK.2.2.1)).trans iC.out.n2,(hkq N4 (Ne.symm gK.2.2.2.1)).trans iC.out.n4,(hkq N8 (Ne.symm gK.2.2.2.2.1)).trans iC.out.n8,hset⟩)
   have nX:C gi:=(iC.out.c gi).2 (.inr (.inr (.inr (.inr (.inr ⟨_,hgo⟩)))));have yg:=zh (show Chg C W4 (W6.setCell ⟨gi,a0,none⟩ (.int .i64 xv))from(HC45.out.trans hc56).trans (hcs.mono fun b _ (e:b=gi)=>e▸nX))
   gi_upto_region 12 with fail
   have hSS:(fun w':World=>zv w' N8 0 (.slice (some ⟨gc,0,none⟩) vs.length cc)/\zv w' gc x (.slice (some ⟨gi,0,none⟩) L cg)/\zv w' N2 0 (.int .i64 a0)/\zv w' N4 0 (.int .i64 xv)) W6:=⟨y0,y1,y2,y4⟩
   have sw:(fun w':World=>zv w' N8 0 (.slice (some ⟨gc,0,none⟩) vs.length cc)/\zv w' gc x (.slice (some ⟨gi,0,none⟩) L cg)/\zv w' N2 0 (.int .i64 a0)/\zv w' N4 0 (.int .i64 xv)) (W6.setCell ⟨gi,a0,none⟩ (.int .i64 xv)):=⟨zkr y0 (hkq N8 (Ne.symm gK.2.2.2.2.1)),zkr y1 (hkq gc (Ne.symm gK.2.2.2.2.2)),zkr y2 (hkq N2 (Ne.symm gK.2.2.1)),zkr y4 (hkq N4 (Ne.symm gK.2.2.2.1))⟩
   refine zl6 (ro:=some l) (fun w':World=>zv w' N8 0 (.slice (some ⟨gc,0,none⟩) vs.length cc)/\zv w' gc x (.slice (some ⟨gi,0,none⟩) L cg)/\zv w' N2 0 (.int .i64 a0)/\zv w' N4 0 (.int .i64 xv)) (by kernel_rfl) ?_;rw[rY];refine zI 0 hSS ?_;refine zI 1 hSS ?_;refine zI 2 hSS ?_;refine zI 3 hSS ?_;refine zI 4 hSS ?_;refine zI 5 hSS ?_;refine zI 6 hSS ?_;refine zI 7 hSS ?_;refine zsc (i:=8) (by kernel_rfl) rfl (by kernel_rfl) (by rfl) (fun K hK=>?_);(try simp only[zA,zB,zC]);go_simp;refine hK.out _ _ sw ?_;clear hK K;(try simp only[zQ]);refine zoZ (by kernel_rfl) ?_
   gi_wp2
   exact⟨rfl,C,aC.out,fun b h=>.inl h,yg.out⟩
 ·intro D pre C W' hD hC hch hK;have hsi:SetI N N2 N4 N8 w6.heap.size #[.int .u8 40,.int .i64 n,.string nm,.slice (some a) 2 c2] (a0:Int) xv (.slice Ac vs.length cc) (.slice Ai X.tin.length ci) (.slice Ao X.tout.length co) fc (putC X i a0 xv) C W':=by
   rcases hC with⟨rfl,-,h2⟩|h
   ·exact absurd (HNAME.out HI.out.2.1) (h2 i (by simp) HI.out.2.1)
   ·exact h
  have HSI9:=zh hsi;have iZ:=zh hK;have hkp:Kpt n0 kb W W':=pU.out.chgS hch fun b hb h=>by
   have hn:=fA.out;rcases h with h|h|h|h|h|⟨j,h⟩
   ·omega
   ·omega
   ·omega
   ·omega
   ·omega
   ·have:=(wP.out.rws.lt j b h).1;omega
  have HKP9:=zh hkp;have hbw:=(aS.out.later lJ.out).bl;have HBW9:=zh (hbw.trans (hch.below hbw.size fun b h=>by
   have hn:=fA.out;have:=xQ.out;rcases h with h|h|h|h|h|⟨j,h⟩
   ·omega
   ·omega
   ·omega
   ·omega
   ·omega
   ·have:=(wP.out.rws.lt j b h).1;omega))
  clear hbw;obtain⟨x0,x1,x2⟩:=zkn hsi.n8;obtain⟨q0,q1,q2⟩:=zkn hsi.n1;have cf:∀o,W'.frozen? ⟨N+1,o,none⟩=false:=fun o=>zf hsi.n1;obtain⟨wz,hwz,hcz,hhz⟩:=st3 (.slice Ac vs.length cc) (.slice Ai X.tin.length ci) (.slice Ao X.tout.length co) hsi.n1;have HCZ:=zh hcz;have HHZ:=zh hhz;clear hC hch hK hsi hkp hcz hhz;go_wp2_with fail;have hDN:D≠N+1:=by have:=yZ.out;have:=fA.out;omega
  have HKD:=zh (HCZ.out.keep iZ.out hDN);have yc:=zh (show N8+2<=D by have:=yZ.out;omega);clear hDN x0 x1 x2 q0 q1 q2 cf;refine⟨by simp,.inl ⟨_,_,rfl,run_takeDeferred HKD.out,?_⟩⟩;have hcd:Chg (fun q=>q=N+1\/q=D) W' (wz.putObj D (.deferred none)):=(HCZ.out.mono fun b _ h=>.inl h).trans2 (Chg.putObj wz D (.deferred none)) fun b _ h=>.inr h;have hn1:=(Chg.putObj wz D (.deferred none)).keep HHZ.out (fun(e:N+1=D)=>by have:=yc.out;have:=fA.out;omega);obtain⟨t0,t1,t2⟩:=zkn hn1;have hrw:=HSI9.out.rws.chg hcd fun j b hb h=>by
   rw[zqX]at hb;have h1:=pO.out j b hb;have h2:=(wP.out.rws.lt j b hb).1;have:=yc.out;have:=fA.out;rcases h with h|h<;>omega
  refine⟨.tuple #[.agg #[.slice Ac vs.length cc,.slice Ai X.tin.length ci,.slice Ao X.tout.length co],.int .i64 0],by simp[results,Tryz.results40,go_sem,t0,t1,t2],HBW9.out.trans (hcd.below HBW9.out.size fun b h=>by
   have:=yc.out;have:=fA.out;have:=xQ.out;rcases h with h|h<;>omega),HKP9.out.chgS hcd fun b hb h=>by
   have:=yc.out;have:=fA.out;rcases h with h|h<;>omega,.agg #[.slice Ac vs.length cc,.slice Ai X.tin.length ci,.slice Ao X.tout.length co],by rw[jW.out],?_⟩
  rw[jW.out];simp only[Int.toNat_natCast];rw[HX.out];refine⟨⟨_,_,_,fc,rfl,hrw.mono (by have:=fA.out;omega),?_⟩,zuF iY.out _ _ _⟩;have h7:=jE.out;refine⟨fun l hl y hy=>?_,h7.2.1,h7.2.2⟩;rcases List.mem_or_eq_of_mem_set hl with hl|rfl
  ·exact h7.1 l hl y hy
  ·rcases List.mem_or_eq_of_mem_set hy with hy|rfl
   ·rw[List.getD_eq_getElem?_getD]at hy
    cases h9:X.cells[i]? with
    | none=>rw[h9]at hy;cases hy
    | some l0=>rw[h9]at hy;exact h7.1 l0 (List.mem_of_getElem? h9) y hy
   ·exact nY.out
end
section
open Go Go.RowKit
def AsP(R:Int×SS)(W:World)(e:Ending)(W':World):Prop:=Below W.heap.size W W'/\∃v,e=.returned (.tuple #[v,.int .i64 R.1])/\OwnS W' W.heap.size R.2 v/\R.2.Lim
theorem al3(W:World)(o0 o1 o2:Obj):Below W.heap.size W (((W.alloc o0).alloc o1).alloc o2)/\(((W.alloc o0).alloc o1).alloc o2).heap.size=W.heap.size+3/\(((W.alloc o0).alloc o1).alloc o2).heap[W.heap.size]?=some o0/\(((W.alloc o0).alloc o1).alloc o2).heap[W.heap.size+1]?=some o1/\(((W.alloc o0).alloc o1).alloc o2).heap[W.heap.size+2]?=some o2 :=
 ⟨zkc (zkc (zkc zr _) _) _,by simp,zkg (zkg (zlC _ rfl _) _) _,zkg (zlC _ (by simp) _) _,zlC _ (by simp) _⟩
theorem OwnS.parts{W:World}{n0:Nat}{s:SS}{v:Value}(h:OwnS W n0 s v):∃A l c B m d D k e,v=.agg #[.slice A l c,.slice B m d,.slice D k e]:=by
 obtain⟨vc,vi,vo,fc,rfl,hr,-⟩:=h;obtain⟨A,c,h1,-⟩:=zkd (hr.row .all);obtain⟨B,d,h2,-⟩:=zkd (hr.row .inp);obtain⟨D,e,h3,-⟩:=zkd (hr.row .out);have h1:vc=_:=h1;have h2:vi=_:=h2;have h3:vo=_:=h3;rw[h1,h2,h3];exact⟨_,_,_,_,_,_,_,_,_,rfl⟩
theorem OwnS.chgN{W W':World}{n0 n1:Nat}{s:SS}{v:Value}{C:Nat->Prop}(h:OwnS W n0 s v)(hc:Chg C W W')(hC:∀b,C b->b<n0)(hn:n1<=n0):OwnS W' n1 s v:=by
 obtain⟨vc,vi,vo,fc,rfl,hr,hI⟩:=h;exact⟨vc,vi,vo,fc,rfl,(hr.chg hc fun i b hb h=>by have:=(hr.lt i b hb).1;have:=hC b h;omega).mono hn,hI⟩
theorem zoY{W:World}{vs:List VD}{s:SS}{t:T}{v sv:Value}{A:Option Addr}{c:Nat}(hv:NV W Any t v)(hr:RowV W Any A vs)(hl:vs.length<=LV)(hs:SV W Any s sv) :
  Calls Tryz.prog 16 #[v,.slice A vs.length c,sv] W (AsP (asgE vs t s) W):=by
 have HV:=zh (hv.keep (S':=fun b=>b<W.heap.size) (fun _ _ h=>h) fun _ _ _=>rfl);have HR:=zh (hr.keep (S':=fun b=>b<W.heap.size) (fun _ _ h=>h) fun _ _ _=>rfl);have iA:=zh (fun w' (hb:Below W.heap.size W w')=>zqI vs s A c sv w' (hr.later hb) hl (hs.later hb));have HIS:=zh (fun w' (hb:Below W.heap.size W w')=>zns t v w' (hv.later hb));obtain⟨A1,c1,B1,d1,D1,e1,rfl,-⟩:=hs;obtain⟨A2,c2,rfl,-⟩:=hv.open_;obtain⟨k,n,nm,ks⟩:=t;simp only[T.k_nd,T.n_nd,T.s_nd,T.ks_nd]at HV HIS ⊢;obtain⟨N,hN⟩:=zX (W.heap.size);have HN:=zh hN;obtain⟨hb1,hz1,k0,k1,k2⟩:=al3 W (.cells #[.int .u8 k,.int .i64 n,.string nm,.slice A2 ks.length c2] 24) (.cells #[.slice A1 s.cells.length c1,.slice B1 s.tin.length d1,.slice D1 s.tout.length e1] 34) (.cells #[.slice none 0 0,.slice none 0 0,.slice none 0 0] 34)
 obtain⟨w1,hw1⟩:=zX (((W.alloc (.cells #[.int .u8 k,.int .i64 n,.string nm,.slice A2 ks.length c2] 24)).alloc (.cells #[.slice A1 s.cells.length c1,.slice B1 s.tin.length d1,.slice D1 s.tout.length e1] 34)).alloc (.cells #[.slice none 0 0,.slice none 0 0,.slice none 0 0] 34));rw[hw1]at hb1 hz1 k0 k1 k2;rw[hN]at hz1 k0 k1 k2;have HB1:=zh hb1;have HZ1:=zh hz1;have aN:=zh k0;have aL:=zh k2;obtain⟨y0,y1,y2⟩:=zkn k1;clear hv hr hb1 hz1 k0 k1 k2;go_enter Tryz.func16,Tryz.ntmps16;go_wp2_with fail;refine(iA.out _ HB1.out).mono ?_;rintro e2 w2 ⟨hb2,⟨hf,rfl⟩|⟨hf,P,rfl,gz⟩⟩
 ·have HS:=zh (show asgE vs (.nd k n nm ks) s=(3,nilS)from if_pos (.inl hf));have gV:=zh (zka aL.out hb2);have HB2:=zh (zkb HB1.out hb2);obtain⟨q0,q1,q2⟩:=zkn gV.out;have cf:∀o,w2.frozen? ⟨N+2,o,none⟩=false:=fun o=>zf gV.out;obtain⟨w9,aP,aU,bA⟩:=st3 (.slice none 0 0) (.slice none 0 0) (.slice none 0 0) gV.out;obtain⟨t0,t1,t2⟩:=zkn bA;have nG:=zh aU;clear hb2 aU bA y0 y1 y2 hw1;go_wp2_with fail;refine bodyPost_ret (v:=.tuple #[.agg #[.slice none 0 0,.slice none 0 0,.slice none 0 0],.int .i64 3]) (by simp[results,Tryz.results16,go_sem,t0,t1,t2]) rfl ?_;rw[HS.out];exact⟨HB2.out.trans (nG.out.below HB2.out.size fun b (e:b=N+2)=>by have:=HN.out;omega),_,rfl,OwnS.nil _ _,zq5⟩
 ·have HB2:=zh (zkb HB1.out hb2);have ko:=zh (zka aN.out hb2);have gV:=zh (zka aL.out hb2);have aS:=zh (KS.new (w:=W) HB1.out hb2 gz);obtain⟨z0,z1,z2,z3⟩:=box4 ko.out;obtain⟨bs,hbs⟩:=zX (isS (.nd k n nm ks));have iF:=zh hbs;rw[hbs]at HIS;have HF:=zh hf;have hks2:=KS.new (w:=W) HB1.out hb2 gz;clear hb2 y0 y1 y2 hw1 hbs gz hf hks2;go_wp2_with fail;refine(HIS.out _ HB2.out).mono ?_;rintro e3 w3 ⟨rfl,hb3⟩;have HB3:=zh (zkb HB2.out hb3);have HK03:=zh (zka ko.out hb3);have lG:=zh (zka gV.out hb3);have tK:=zh (aS.out.later hb3);obtain⟨q0,q1,q2⟩:=zkn lG.out;have cf:∀o,w3.frozen? ⟨N+2,o,none⟩=false:=fun o=>zf lG.out;obtain⟨x0,x1,x2,x3⟩:=box4 HK03.out;clear z0 z1 z2 z3 hb3 aS HIS
  cases bs
  ·have HS:=zh (show asgE vs (.nd k n nm ks) s=(3,nilS)from if_pos (.inr iF.out));obtain⟨w9,aP,aU,bA⟩:=st3 (.slice none 0 0) (.slice none 0 0) (.slice none 0 0) lG.out;obtain⟨t0,t1,t2⟩:=zkn bA;have nG:=zh aU;clear aU bA;go_wp2_with fail;refine bodyPost_ret (v:=.tuple #[.agg #[.slice none 0 0,.slice none 0 0,.slice none 0 0],.int .i64 3]) (by simp[results,Tryz.results16,go_sem,t0,t1,t2]) rfl ?_;rw[HS.out];exact⟨HB3.out.trans (nG.out.below HB3.out.size fun b (e:b=N+2)=>by have:=HN.out;omega),_,rfl,OwnS.nil _ _,zq5⟩
  have jS:asgE vs (.nd k n nm ks) s=if k=56 then setE vs s (.nd k n nm ks)else if (doE (newS vs s) (.nd k n nm ks)).1≠0 then((doE (newS vs s) (.nd k n nm ks)).1,nilS)else(0,(doE (newS vs s) (.nd k n nm ks)).2.state):=if_neg (by rw[HF.out,iF.out];simp)
  have fU:=zh jS;clear jS;by_cases iV:k=56
  ·subst iV;have hse:=zwC (c:=c) tK.out HF.out iF.out ((HV.out.later HB3.out).keep (S':=fun b=>b<w1.heap.size\/False) (fun b h _=>.inl (by have h:b<W.heap.size:=h;have:=HZ1.out;have:=HN.out;omega)) fun _ _ _=>rfl) ((HR.out.later HB3.out).keep (S':=fun b=>b<w1.heap.size\/False) (fun b h _=>.inl (by have h:b<W.heap.size:=h;have:=HZ1.out;have:=HN.out;omega)) fun _ _ _=>rfl);have HSE:=zh hse;clear hse;go_wp2_with fail;refine HSE.out.mono ?_;rintro e4 w4 ⟨hbw,hkp,v4,rfl,cB,hlim⟩;have iY:=zh hlim;clear hlim;have fG:=hkp.blk (b:=N+2) (.inl (by have:=HZ1.out;omega)) lG.out;have qX:N+3<=w3.heap.size:=by have:=HZ1.out;have:=zki lG.out;have:=tK.out.n0le;omega
   obtain⟨A7,l7,c7,B7,m7,d7,D7,k7,e7,rfl⟩:=cB.parts;obtain⟨q0,q1,q2⟩:=zkn fG;have cf:∀o,w4.frozen? ⟨N+2,o,none⟩=false:=fun o=>zf fG;obtain⟨w9,aP,aU,bA⟩:=st3 (.slice A7 l7 c7) (.slice B7 m7 d7) (.slice D7 k7 e7) fG;obtain⟨t0,t1,t2⟩:=zkn bA;have aC:=zh (show Below W.heap.size W w9/\OwnS w9 W.heap.size (setE vs s (.nd 56 n nm ks)).2 (.agg #[.slice A7 l7 c7,.slice B7 m7 d7,.slice D7 k7 e7])from⟨hbw.trans (aU.below hbw.size fun b (e:b=N+2)=>by have:=HN.out;omega),cB.chgN aU (fun b (e:b=N+2)=>by have:=HZ1.out;have:=HN.out;omega) (by omega)⟩);clear fG aU bA hbw cB;obtain⟨R,hR⟩:=zX (setE vs s (.nd 56 n nm ks));have HS:=zh (show asgE vs (.nd 56 n nm ks) s=setE vs s (.nd 56 n nm ks) by have:=fU.out;simpa using this);rw[hR]at aC HS iY ⊢;clear hkp qX x0 x1 x2 x3 HSE;go_wp2_with fail
   refine bodyPost_ret (v:=.tuple #[.agg #[.slice A7 l7 c7,.slice B7 m7 d7,.slice D7 k7 e7],.int .i64 R.1]) (by simp[results,Tryz.results16,go_sem,t0,t1,t2]) rfl ?_;rw[HS.out];exact⟨aC.out.1,_,rfl,aC.out.2,iY.out⟩
  ·have e56:(k==56)=false:=by simpa using iV
   have ji:=zh (tK.out.do_ (.nd k n nm ks) _ ((HV.out.later HB3.out).keep (S':=Any) (fun _ _ _=>trivial) fun _ _ _=>rfl));have jS:=fU.out.trans (if_neg iV);obtain⟨⟨er,S6⟩,hR⟩:=zX (doE (newS vs s) (.nd k n nm ks));rw[hR]at ji jS;simp only at jS;have HASG2:=zh jS;clear jS hR;go_wp2_with fail;refine ji.out.mono ?_;rintro e6 w6 ⟨rfl,iL,eH⟩;have mq:=eH.blk (b:=N+2) (.inl (by have:=HZ1.out;omega)) lG.out;have dL:=zh mq;have gU:=zh iL;have hst:=iL.state;have HST:=zh hst;clear q0 q1 q2 cf x0 x1 x2 x3 ji eH iL hst mq;by_cases h0:er=0
   ·subst h0;have HS:=zh (HASG2.out.trans (if_neg (by simp)));go_wp2_with fail;refine HST.out.mono ?_;rintro e7 w4 ⟨v4,rfl,cB,hb4⟩;have fG:=zka dL.out hb4;have hbw:=zkb gU.out.bl hb4;have qX:N+3<=w6.heap.size:=by have:=HZ1.out;have:=gU.out.n0le;omega
    obtain⟨A7,l7,c7,B7,m7,d7,D7,k7,e7,rfl⟩:=cB.parts;obtain⟨q0,q1,q2⟩:=zkn fG;have cf:∀o,w4.frozen? ⟨N+2,o,none⟩=false:=fun o=>zf fG;obtain⟨w9,aP,aU,bA⟩:=st3 (.slice A7 l7 c7) (.slice B7 m7 d7) (.slice D7 k7 e7) fG;obtain⟨t0,t1,t2⟩:=zkn bA;have aC:=zh (show Below W.heap.size W w9/\OwnS w9 W.heap.size S6.state (.agg #[.slice A7 l7 c7,.slice B7 m7 d7,.slice D7 k7 e7])from⟨hbw.trans (aU.below hbw.size fun b (e:b=N+2)=>by have:=HN.out;omega),cB.chgN aU (fun b (e:b=N+2)=>by have:=HZ1.out;have:=HN.out;omega) (by omega)⟩);clear fG aU bA hbw cB;clear hb4 qX;go_wp2_with fail;refine bodyPost_ret (v:=.tuple #[.agg #[.slice A7 l7 c7,.slice B7 m7 d7,.slice D7 k7 e7],.int .i64 0]) (by simp[results,Tryz.results16,go_sem,t0,t1,t2]) rfl ?_;rw[HS.out];exact⟨aC.out.1,_,rfl,aC.out.2,(znQ gU.out.wf).2.1⟩
   ·have hne:(er==0)=false:=by simpa using h0
    have HS:=zh (HASG2.out.trans (if_pos h0));obtain⟨q0,q1,q2⟩:=zkn dL.out;have cf:∀o,w6.frozen? ⟨N+2,o,none⟩=false:=fun o=>zf dL.out;obtain⟨w9,aP,aU,bA⟩:=st3 (.slice none 0 0) (.slice none 0 0) (.slice none 0 0) dL.out;obtain⟨t0,t1,t2⟩:=zkn bA;have nG:=zh aU;clear aU bA;go_wp2_with fail;refine bodyPost_ret (v:=.tuple #[.agg #[.slice none 0 0,.slice none 0 0,.slice none 0 0],.int .i64 er]) (by simp[results,Tryz.results16,go_sem,t0,t1,t2]) rfl ?_;rw[HS.out];exact⟨gU.out.bl.trans (nG.out.below gU.out.bl.size fun b (e:b=N+2)=>by have:=HN.out;omega),_,rfl,OwnS.nil _ _,zq5⟩
structure BX where
 v:Int
 l:Int
 i:Int
def okI(x:Int):Bool:=decide (0<=x/\x<=1000)
def BX.ok(b:BX):Bool:=okI b.v&&okI b.l&&okI b.i
def len1(b:BX)(v:VD):Bn:=if v.k=3 then(0,b.l.toNat)else((fixE v).toNat,(fixE v).toNat)
def lenE(vs:List VD)(b:BX):List Bn:=vs.map (len1 b)++[(0,b.i.toNat)]
def znz(bs:List Bn):List Value:=bs.flatMap fun b=>[.int .i64 (b.1:Int),.int .i64 (b.2:Int)]
theorem zpR:∀(bs:List Bn) (i:Nat) (h:i<bs.length),(znz bs)[i*2]?=some (.int .i64 (bs[i].1:Int))/\(znz bs)[i*2+1]?=some (.int .i64 (bs[i].2:Int))
 | b::bs,0,_=>by simp[znz]
 | b::bs,i+1,h=>by
  have:=zpR bs i (by simpa using h);unfold znz at this ⊢;rw[List.flatMap_cons,show(i+1)*2=i*2+2 by omega,show i*2+2+1=i*2+1+2 by omega];simpa using this
theorem RowB.of_own{W:World}{n0 n c:Nat}{A:Option Addr}{bs:List Bn}(h:W.ownsRow n0 97 2 (.slice A n c) n (znz bs))(hn:bs.length=n):RowB W (fun q=>n0<=q) A bs:=fun i hi=>by
 rcases h.2 with⟨e1,e2⟩|⟨g,cap,cur,e,hb,hg,-⟩
 ·omega
 ·injection e with e1 e2 e3;subst e1;obtain⟨h0,h1⟩:=zpR bs i hi;refine⟨_,rfl,hb,?_,?_⟩
  ·rw[Addr.add_lit,Nat.zero_add,World.ownsRow.cellAt h (i*2) (by omega)];exact h0
  ·rw[Addr.add_lit,Nat.zero_add,World.ownsRow.cellAt h (i*2+1) (by omega)];exact h1
theorem bB1(x y:Int)(w:World):(Instr.buildSlice 93 1 #[(0,.agg #[.int .i64 x,.int .i64 y])]).run Tryz.prog w=.ok (.slice (some ⟨w.heap.size,0,none⟩) 1 1) (w.alloc (.cells #[.int .i64 x,.int .i64 y] 97)):=by kernel_rfl
theorem zlI{ops:Array Oper}{rest:List Oper}{o:Oper}{a:Act}{W:World}{Q:Exit->Act->World->Prop}(hgd:o.guard=none)(s x:Operand)
  (ho:o.op=.call { callee:=.builtin .append,args := #[s,x],argTypes := #[93,93] })(base:Nat)(v:Value)(n:Nat)(xs:List Value)(hs:a.eval s=v)(hrow:W.ownsRow base 97 2 v n xs)
  (b:Nat)(y0 y1:Int)(hx:a.eval x=.slice (some ⟨b,0,none⟩) 1 1)(hc:W.heap[b]?=some (.cells #[.int .i64 y0,.int .i64 y1] 97 (0,0)))(hl:n+1<=1000000)(hb:base<=W.heap.size)
  (h:∀v' w',w'.ownsRow base 97 2 v' (n+1) (xs++[.int .i64 y0,.int .i64 y1])->W.grownBy w' v.ownBlock->wpList Tryz.prog ops Q rest (a.put o.dst v') w') :
  wpList Tryz.prog ops Q (o::rest) a W:=by
 obtain⟨i,hi,hz0,hz1,hz2⟩:=info_parts ztF;refine wpList_append_own_at (P:=Tryz.prog) _ hgd s x 93 ho base 97 i _ 2 16 Tryz.underlying93 hi hz0 hz1 hz2 rfl (by decide) v n xs hs hrow ⟨b,0,none⟩ 1 1 [.int .i64 y0,.int .i64 y1] hx (by simp) (fun j u hj=>?_) (fun u hu=>?_) (by unfold maxLen;omega) (by omega) hb (fun v' w' h1 h2 _ _=>h v' w' h1 h2)
 ·rw[Addr.add_lit,Nat.zero_add];exact zc hc (by simpa using hj)
 ·simp only[List.mem_cons,List.not_mem_nil,or_false]at hu;rcases hu with rfl|rfl<;>rfl
theorem znV{W0 W1 wr:World}{j c9:Nat}{A9:Option Addr}{y0 y1:Nat}{bs:List Bn}(hy:bs[j]?=some (y0,y1))(h1:Below W1.heap.size W1 wr)(h0:Below W0.heap.size W0 wr)(hn:W0.heap.size<=W1.heap.size)
  (ho:wr.ownsRow W1.heap.size 97 2 (.slice A9 j c9) j (znz (bs.take j)))(v':Value)(w':World)
  (h:w'.ownsRow W1.heap.size 97 2 v' (j+1) (znz (bs.take j)++[.int .i64 (y0:Int),.int .i64 (y1:Int)]))(hg:(wr.alloc (.cells #[.int .i64 (y0:Int),.int .i64 (y1:Int)] 97)).grownBy w' (Value.slice A9 j c9).ownBlock) :
  ∃A' c',v'=.slice A' (j+1) c'/\Hid (Below W0.heap.size W0 w')/\Hid (Below W1.heap.size W1 w')/\Hid (w'.ownsRow W1.heap.size 97 2 (.slice A' (j+1) c') (j+1) (znz (bs.take (j+1)))):=by
 obtain⟨A',c',rfl,-⟩:=zkd h;have hlt:=ho.lt;refine⟨A',c',rfl,zh ?_,zh ?_,zh ?_⟩
 ·have h2:=zkc h0 (.cells #[.int .i64 (y0:Int),.int .i64 (y1:Int)] 97);exact h2.trans ((Chg.row hg).below h2.size fun q e=>by have:=(hlt q e).1;omega)
 ·have h2:=zkc h1 (.cells #[.int .i64 (y0:Int),.int .i64 (y1:Int)] 97);exact h2.trans ((Chg.row hg).below h2.size fun q e=>(hlt q e).1)
 ·have e:znz (bs.take (j+1))=znz (bs.take j)++[.int .i64 (y0:Int),.int .i64 (y1:Int)]:=by
   rw[List.take_add_one,hy];simp[znz]
  rw[e];exact h
def LenP(vs:List VD)(b:BX)(w:World)(e:Ending)(w':World):Prop:=Below w.heap.size w w'/\(((b.ok&&svB vs)=false/\e=.returned (.tuple #[.slice none 0 0,.bool false]))\/((b.ok&&svB vs)=true/\∃A c,e=.returned (.tuple #[.slice A (vs.length+1) c,.bool true])/\RowB w' (fun q=>w.heap.size<=q) A (lenE vs b)))
theorem znZ(vs:List VD)(b:BX)(A:Option Addr)(c:Nat)(w:World)(hrow:RowV w Any A vs)(hl:vs.length<=LV):Calls Tryz.prog 45 #[.slice A vs.length c,.agg #[.int .i64 b.v,.int .i64 b.l,.int .i64 b.i]] w (LenP vs b w):=by
 obtain⟨bv,bl,bi⟩:=b;simp only;have hb1:=zkc (zs w) (.cells #[.int .i64 bv,.int .i64 bl,.int .i64 bi] 27);have hk1:=heap_alloc_new w (.cells #[.int .i64 bv,.int .i64 bl,.int .i64 bi] 27);have aa:=zh hrow;have HSN:=zh (fun w' (hb:Below w.heap.size w w')=>zvR vs A c w' (hrow.later hb) hl);clear hrow hl;go_enter Tryz.func45,Tryz.ntmps45;go_upto_region 1 with fail;obtain⟨w1,hw1⟩:=zX (w.alloc (.cells #[.int .i64 bv,.int .i64 bl,.int .i64 bi] 27));rw[hw1]at hb1 hk1 ⊢;obtain⟨x0,x1,x2⟩:=zkn hk1;have HB1:=zh hb1;have aB:=zh hk1;clear hw1 hb1 hk1;go_wp2_with fail
 go_loopw [20] (fun i wr=>∃j:Nat,j<=3/\i=.int .i64 j/\wr=w1/\Hid (∀k,k<j->okI ([bv,bl,bi].getD k 0)=true)) (fun i _=>3-(intOf i).toNat)
 case atStart=>exact⟨0,by omega,rfl,rfl,zh fun k hk=>by omega⟩
 case round =>
  obtain⟨j,hj,rfl,rfl,lD⟩:=hrel;by_cases hlt:j<3
  ·have key:∃x,x=[bv,bl,bi].getD j 0:=⟨_,rfl⟩
   obtain⟨x,hx⟩:=key;have hj1:(j:Int)<3:=by omega
   have hj0:(0:Int)<=(j:Int):=by omega
   obtain⟨x,hx⟩:=zX ([bv,bl,bi].getD j 0);have hix:(Instr.index 145 (.agg #[.int .i64 bv,.int .i64 bl,.int .i64 bi]) (.int .i64 (j:Int))).run Tryz.prog wr=.ok (.int .i64 x) wr:=by
    rw[<-hx];rcases j with _|_|_|j
    ·kernel_rfl
    ·kernel_rfl
    ·kernel_rfl
    ·omega
   have HX:=zh hx;clear hx;have hno:okI x=false->(BX.ok ⟨bv,bl,bi⟩&&svB vs)=false:=fun h=>by
    rw[<-HX.out]at h;unfold BX.ok;rcases j with _|_|_|j
    ·have h:okI bv=false:=h;simp[h]
    ·have h:okI bl=false:=h;simp[h]
    ·have h:okI bi=false:=h;simp[h]
    ·omega
   have dh:=zh hno;clear hno;by_cases h1:x<0
   ·have HF:=zh (dh.out (decide_eq_false (by omega)));go_wp2_with fail;go_ret2;exact⟨HB1.out,.inl ⟨HF.out,rfl⟩⟩
   ·by_cases h2:1000<x
    ·have HF:=zh (dh.out (decide_eq_false (by omega)));go_wp2_with fail;go_ret2;exact⟨HB1.out,.inl ⟨HF.out,rfl⟩⟩
    ·have HT:=zh (show okI x=true from decide_eq_true (by omega));go_wp2_with fail
     go_roundw
     case rel=>exact⟨j+1,by omega,by go_num,trivial,zh fun k hk=>by
      by_cases e:k=j
      ·subst e;rw[HX.out];exact HT.out
      ·exact lD.out k (by omega)⟩
     case measure=>simp[intOf];omega
  ·obtain rfl:j=3:=by omega
   have Bd:=zh (show BX.ok ⟨bv,bl,bi⟩=true by
    have h0:okI bv=true:=lD.out 0 (by omega);have h1:okI bl=true:=lD.out 1 (by omega);have h2:okI bi=true:=lD.out 2 (by omega);simp[BX.ok,h0,h1,h2])
   clear lD;go_wp2_with fail;refine(HSN.out _ HB1.out).mono ?_;rintro e w2 ⟨hb2,v,er,rfl,hs0,hs1⟩;have HB2:=zh (zkb HB1.out hb2);have aL:=zh (zka aB.out hb2);obtain⟨sv,hsv⟩:=zX (svB vs);have jV:=zh hsv;rw[hsv]at hs0 hs1;clear hsv hb2
   cases sv
   ·obtain⟨rfl,rfl⟩:=hs0 rfl;have HF:=zh (show(BX.ok ⟨bv,bl,bi⟩&&svB vs)=false by rw[jV.out];simp);clear hs0 hs1 x0 x1 x2;go_wp2_with fail;go_ret2;exact⟨zkc HB2.out _,.inl ⟨HF.out,rfl⟩⟩
   ·obtain⟨rfl,hos⟩:=hs1 rfl;have HT:=zh (show(BX.ok ⟨bv,bl,bi⟩&&svB vs)=true by rw[jV.out,Bd.out];rfl);have hsv2:=hos.svR (zSLim vs jV.out);obtain⟨A2,c2,B2,d2,D2,e2,rfl,hr2,-⟩:=hsv2;clear hs0 hs1 x0 x1 x2;obtain⟨nv,nP⟩:=zX (vs.length);have hzn:(zS vs).cells.length=nv:=by rw[<-nP];simp[zS]
    have oH:=jV.out;simp only[svB,Bool.and_eq_true,decide_eq_true_eq,List.all_eq_true]at oH;have zx:=zh oH;have hn32:nv<=32:=by rw[<-nP];exact oH.1
    rw[hzn]at hos ⊢;have kL:=zh nP;have hb3:=zkc HB2.out (.cells #[.slice A2 nv c2,.slice B2 (zS vs).tin.length d2,.slice D2 (zS vs).tout.length e2] 34);obtain⟨w3,hw3⟩:=zX (w2.alloc (.cells #[.slice A2 nv c2,.slice B2 (zS vs).tin.length d2,.slice D2 (zS vs).tout.length e2] 34));have rU:Below w2.heap.size w2 w3:=by rw[<-hw3];exact zkc zr _
    have hk3:=heap_alloc_new w2 (.cells #[.slice A2 nv c2,.slice B2 (zS vs).tin.length d2,.slice D2 (zS vs).tout.length e2] 34);rw[hw3]at hb3 hk3;have x3:w3.cell? ⟨w2.heap.size,0,none⟩=some (.slice A2 nv c2):=zc hk3 rfl;have HB3:=zh hb3;have HR3:=zh ((hr2.keep (S':=Any) (fun _ _ _=>trivial) fun _ _ _=>rfl).later rU);have gu:=zh (zka aL.out rU);clear hb3 rU hk3 hr2 hos nP oH hzn HSN;rw[kL.out];go_wp2_with fail;clear hw3 x3
    go_loopw [40,10] (fun i lv wr=>∃j:Nat,j<=nv/\i=.int .i64 j/\∃A9 c9,lv=.slice A9 j c9/\Hid (Below w.heap.size w wr)/\Hid (Below w3.heap.size w3 wr)/\Hid (wr.ownsRow w3.heap.size 97 2 (.slice A9 j c9) j (znz ((lenE vs ⟨bv,bl,bi⟩).take j)))) (fun i _ _=>nv-(intOf i).toNat)
    case atStart=>exact⟨0,Nat.zero_le _,rfl,none,0,rfl,HB3,zh zr,zh ⟨rfl,.inl ⟨rfl,rfl⟩⟩⟩
    case round =>
     obtain⟨j,hj,rfl,A9,c9,rfl,af,lI,tq⟩:=hrel;have hkb:=zka gu.out lI.out;obtain⟨x0,x1,x2⟩:=zkn hkb;by_cases hlt:j<nv
     ·have hj1:(j:Int)<(nv:Int):=by omega
      have hj0:(0:Int)<=(j:Int):=by omega
      obtain⟨a,v,rfl,-,Hv,⟨p0,p1,p2⟩,hf⟩:=(aa.out.later af.out).nd (show j<vs.length by rw[kL.out];exact hlt);obtain⟨a2,q,A3,c3,rfl,Hq,hcq,-,-⟩:=(HR3.out.later lI.out).nd (i:=j) (by simp[zS];rw[kL.out];exact hlt);have hle:(lenE vs ⟨bv,bl,bi⟩)[j]?=some (len1 ⟨bv,bl,bi⟩ v):=by
       have h9:j<vs.length:=by rw[kL.out];exact hlt
       simp only[lenE];rw[List.getElem?_append_left (by simpa using h9),List.getElem?_map,List.getElem?_eq_getElem h9,Hv.out];rfl
      have mh:q.length=(fixE v).toNat:=by rw[<-Hq.out,<-Hv.out];simp[zS]
      have HQL:=zh mh;have kM:=zh hle;have bR:w.heap.size<=w3.heap.size:=HB3.out.size;have hl4:j+1<=1000000:=by omega
      have uC:IntKind.i64.wrap ((j:Int)+1)=(j:Int)+1:=IntWalk.i64_in _ (by omega);obtain⟨s9,k9,n9⟩:=v;simp only at p0 p1 p2;clear mh hle hf;by_cases h3:k9=3
      ·obtain⟨L,rfl⟩:∃L:Nat,bl=(L:Int):=⟨bl.toNat,by
        have:=Bd.out;simp only[BX.ok,okI,Bool.and_eq_true,decide_eq_true_eq]at this;omega⟩
       have hrow:=zky tq.out (zkc (zs wr) (.cells #[.int .i64 0,.int .i64 (L:Int)] 97));have hk4:=heap_alloc_new wr (.cells #[.int .i64 0,.int .i64 (L:Int)] 97);have HX:=zh (znV (y0:=0) (y1:=L) (by rw[kM.out];simp[len1,h3]) lI.out af.out bR tq.out);have hbb:=bB1 0 (L:Int) wr;have hs4:w3.heap.size<=(wr.alloc (.cells #[.int .i64 0,.int .i64 (L:Int)] 97)).heap.size:=by have:=lI.out.size;simp;omega
       subst h3;go_wp2_with (at_builtin;refine zlI rfl (.tmp 51) (.tmp 55) rfl w3.heap.size (.slice A9 j c9) j _ rfl hrow wr.heap.size _ _ rfl hk4 hl4 hs4 ?_;intro v' w' ho hg;obtain⟨A',c',rfl,ay,mX,fO⟩:=HX.out _ _ ho hg;clear ho hg)
       go_roundw
       case rel=>exact⟨j+1,by omega,by go_num,A',c',rfl,ay,mX,fO⟩
       case measure=>simp[intOf];omega
      ·have e3:(k9==3)=false:=by simpa using h3
       obtain⟨L,hL⟩:∃L:Nat,(fixE ⟨s9,k9,n9⟩).toNat=L:=⟨_,rfl⟩
       have yF:=HQL.out;rw[hL]at yF;rw[yF]at hcq;have hrow:=zky tq.out (zkc (zs wr) (.cells #[.int .i64 (L:Int),.int .i64 (L:Int)] 97));have hk4:=heap_alloc_new wr (.cells #[.int .i64 (L:Int),.int .i64 (L:Int)] 97);have HX:=zh (znV (y0:=L) (y1:=L) (by rw[kM.out];simp[len1,h3,hL]) lI.out af.out bR tq.out);have hbb:=bB1 (L:Int) (L:Int) wr;have hs4:w3.heap.size<=(wr.alloc (.cells #[.int .i64 (L:Int),.int .i64 (L:Int)] 97)).heap.size:=by have:=lI.out.size;simp;omega
       clear hL yF h3;go_wp2_with (at_builtin;refine zlI rfl (.tmp 57) (.tmp 63) rfl w3.heap.size (.slice A9 j c9) j _ rfl hrow wr.heap.size _ _ rfl hk4 hl4 hs4 ?_;intro v' w' ho hg;obtain⟨A',c',rfl,ay,mX,fO⟩:=HX.out _ _ ho hg;clear ho hg)
       go_roundw
       case rel=>exact⟨j+1,by omega,by go_num,A',c',rfl,ay,mX,fO⟩
       case measure=>simp[intOf];omega
     ·obtain rfl:j=nv:=by omega
      have hj1:¬ (j:Int)<(j:Int):=by omega
      obtain⟨L,rfl⟩:∃L:Nat,bi=(L:Int):=⟨bi.toNat,by
       have:=Bd.out;simp only[BX.ok,okI,Bool.and_eq_true,decide_eq_true_eq]at this;omega⟩
      have hrow:=zky tq.out (zkc (zs wr) (.cells #[.int .i64 0,.int .i64 (L:Int)] 97));have hk4:=heap_alloc_new wr (.cells #[.int .i64 0,.int .i64 (L:Int)] 97);have HX:=zh (znV (y0:=0) (y1:=L) (by simp only[lenE];rw[List.getElem?_append_right (by simp[kL.out])];simp[kL.out]) lI.out af.out (show w.heap.size<=w3.heap.size from HB3.out.size) tq.out);have hbb:=bB1 0 (L:Int) wr;have hl4:j+1<=1000000:=by omega
      have hs4:w3.heap.size<=(wr.alloc (.cells #[.int .i64 0,.int .i64 (L:Int)] 97)).heap.size:=by have:=lI.out.size;simp;omega
      go_wp2_with (at_builtin;refine zlI rfl (.tmp 66) (.tmp 70) rfl w3.heap.size (.slice A9 j c9) j _ rfl hrow wr.heap.size _ _ rfl hk4 hl4 hs4 ?_;intro v' w' ho hg;obtain⟨A',c',rfl,ay,mX,fO⟩:=HX.out _ _ ho hg;clear ho hg)
      go_ret2;refine⟨ay.out,.inr ⟨HT.out,A',c',by rw[kL.out];rfl,?_⟩⟩;have hlen:(lenE vs ⟨bv,bl,(L:Int)⟩).length=j+1:=by simp[lenE,kL.out]
      have h5:=fO.out;rw[List.take_of_length_le (by rw[hlen];exact zl)]at h5;exact(RowB.of_own h5 hlen).keep (fun q h _=>Nat.le_trans HB3.out.size h) fun _ _ _=>rfl
def cntR(vs:List VD)(b:BX):Int×Int:=if (b.ok&&svB vs)=true then(if maxC<cntE (2*b.v+1) (lenE vs b)then(0,5)else(cntE (2*b.v+1) (lenE vs b),0))else(0,1)
theorem zmx{vs:List VD}{b:BX}(h:(b.ok&&svB vs)=true):(lenE vs b).length=vs.length+1/\vs.length<=32/\(∀q∈lenE vs b,q.1<=q.2/\q.1<=1000/\q.2<=1000)/\0<=b.v/\b.v<=1000:=by
 simp only[BX.ok,okI,svB,Bool.and_eq_true,decide_eq_true_eq,List.all_eq_true]at h;obtain⟨⟨⟨h1,h2⟩,h3⟩,h4,h5⟩:=h;refine⟨by simp[lenE],h4,fun q hq=>?_,h1.1,h1.2⟩;rcases List.mem_append.1 hq with hq|hq
 ·obtain⟨v,hv,rfl⟩:=List.mem_map.1 hq;have:=zo1 (h5 v hv);unfold len1
  split
  ·exact⟨Nat.zero_le _,by omega,by omega⟩
  ·exact⟨zl,by omega,by omega⟩
 ·obtain rfl:=List.mem_singleton.1 hq;exact⟨Nat.zero_le _,by omega,by omega⟩
theorem zuf(vs:List VD)(b:BX)(A:Option Addr)(c:Nat)(w:World)(hrow:RowV w Any A vs)(hl:vs.length<=LV):Calls Tryz.prog 21 #[.slice A vs.length c,.agg #[.int .i64 b.v,.int .i64 b.l,.int .i64 b.i]] w (NumE (cntR vs b) w):=by
 obtain⟨bv,bl,bi⟩:=b;simp only;have hb1:=zkc (zs w) (.cells #[.int .i64 bv,.int .i64 bl,.int .i64 bi] 27);have hk1:=heap_alloc_new w (.cells #[.int .i64 bv,.int .i64 bl,.int .i64 bi] 27);have wZ:=zh (fun w' (hb:Below w.heap.size w w')=>znZ vs ⟨bv,bl,bi⟩ A c w' (hrow.later hb) hl);clear hrow hl;go_enter Tryz.func21,Tryz.ntmps21;go_upto_region 1 with fail;obtain⟨w1,hw1⟩:=zX (w.alloc (.cells #[.int .i64 bv,.int .i64 bl,.int .i64 bi] 27));rw[hw1]at hb1 hk1 ⊢;obtain⟨x0,x1,x2⟩:=zkn hk1;have HB1:=zh hb1;have aB:=zh hk1;clear hw1 hb1 hk1;go_wp2_with fail;refine(wZ.out _ HB1.out).mono ?_;rintro e w2 ⟨hb2,⟨hok,rfl⟩|⟨hok,A2,c2,rfl,hrb⟩⟩
 ·have HF:=zh (show cntR vs ⟨bv,bl,bi⟩=(0,1) by unfold cntR;rw[hok];rfl);have HB2:=zh (zkb HB1.out hb2);clear hok x0 x1 x2 hb2;go_wp2_with fail;go_ret2;rw[HF.out];exact⟨rfl,HB2.out⟩
 ·obtain⟨l1,l2,l3,l4,l5⟩:=zmx hok;simp only at l4 l5;have hR:cntR vs ⟨bv,bl,bi⟩=if maxC<cntE (2*bv+1) (lenE vs ⟨bv,bl,bi⟩)then(0,5)else(cntE (2*bv+1) (lenE vs ⟨bv,bl,bi⟩),0):=by unfold cntR;rw[hok];rfl
  obtain⟨bs,hbs⟩:=zX (lenE vs ⟨bv,bl,bi⟩);rw[hbs]at l1 l3 hrb hR;rw[<-l1];obtain⟨n,hn⟩:=zX (bs.length);rw[hn]at l1 ⊢;obtain⟨h,rfl⟩:∃h:Nat,bv=(h:Int):=⟨bv.toNat,by omega⟩
  have HR:=zh hR;have fu:=zh hrb;have xc:=zh l3;have HN:=zh hn;have HB2:=zh (zkb HB1.out hb2);have HKB2:=zh (zka aB.out hb2);have hn33:n<=33:=by omega
  have hh:h<=1000:=by omega
  have xy:IntKind.i64.wrap (2*(h:Int))=2*(h:Int):=IntWalk.i64_in _ (by omega);have hwp:IntKind.i64.wrap (2*(h:Int)+1)=2*(h:Int)+1:=IntWalk.i64_in _ (by omega);clear hR hrb hbs hn l1 l2 l3 l4 l5 hok x0 x1 x2 hb2 wZ;go_wp2_with fail
  go_loopw [21,8] (fun i s wr=>∃j:Nat,j<=n/\i=.int .i64 j/\s=.int .i64 (cntE (2*(h:Int)+1) (bs.take j))/\Hid (Below w2.heap.size w2 wr)) (fun i _ _=>n-(intOf i).toNat)
  case atStart=>exact⟨0,Nat.zero_le _,rfl,rfl,zh zr⟩
  case round =>
   obtain⟨j,hj,rfl,rfl,af⟩:=hrel;obtain⟨x0,x1,x2⟩:=zkn (zka HKB2.out af.out);have rq:=zqz (v:=2*h+1) (by omega) (by unfold maxC;omega) (bs.take j) 1 1 (fun q hq=>(xc.out q (List.mem_of_mem_take hq)).1) ⟨fun _=>Int.le_refl _,by decide,by decide⟩ (by decide);have hS:bs.foldl (fun s b=>prdE s (lcE b (2*(h:Int)+1))) 1=cntE (2*(h:Int)+1) bs:=rfl;obtain⟨S,hSS⟩:=zX (cntE (2*(h:Int)+1) (bs.take j));have hs1:1<=S/\S<=maxC+1:=by
    rw[<-hSS];exact⟨rq.2,rq.1.top⟩
   rw[hSS];clear rq hS;by_cases hlt:j<n
   ·have hj1:(j:Int)<(n:Int):=by omega
    have hj0:(0:Int)<=(j:Int):=by omega
    have hlb:j<bs.length:=by rw[HN.out];exact hlt
    obtain⟨a,rfl,-,p0,p1⟩:=(fu.out.later af.out) j hlb;obtain⟨q1,q2,q3⟩:=xc.out bs[j] (List.getElem_mem hlb);have hstep:cntE (2*(h:Int)+1) (bs.take (j+1))=prdE S (lcE bs[j] (2*(h:Int)+1)):=by
     rw[List.take_succ_eq_append_getElem hlb,<-hSS];unfold cntE;rw[List.foldl_append];rfl
    have hlc:=zsZ (v:=2*h+1) (by omega) (by unfold maxC;omega) q1;have jD:=zh (fun w'=>zpb bs[j] (2*h+1) w' (by omega) (by omega) (by omega));obtain⟨⟨lo,hi⟩,hq⟩:=zX (bs[j]);rw[hq]at p0 p1 hstep hlc jD;simp only at p0 p1 jD;have HST:=zh hstep;obtain⟨M,hM⟩:=zX (lcE (lo,hi) (2*(h:Int)+1));have hcast:(((2*h+1:Nat):Int))=2*(h:Int)+1:=by omega
    rw[hcast,hM]at jD hlc;rw[hM]at HST;have eU:=zh (fun w'=>znS S M w' ⟨by omega,hs1.2⟩ ⟨hlc.2,hlc.1.top⟩);have hb4:=zkc (zs wr) (.cells #[.int .i64 (lo:Int),.int .i64 (hi:Int)] 97);have hk4:=heap_alloc_new wr (.cells #[.int .i64 (lo:Int),.int .i64 (hi:Int)] 97);obtain⟨w4,hw4⟩:=zX (wr.alloc (.cells #[.int .i64 (lo:Int),.int .i64 (hi:Int)] 97));rw[hw4]at hb4 hk4;have av:=zh (zkb af.out hb4);have y0:=zb hb4 x0;have z0:w4.cell? ⟨wr.heap.size,0,none⟩=some (.int .i64 (lo:Int)):=zc hk4 rfl;have z1:w4.cell? ⟨wr.heap.size,1,none⟩=some (.int .i64 (hi:Int)):=zc hk4 rfl;clear hstep hlc hM hq q1 q2 q3 hcast x0 x1 x2 hb4 hk4;go_wp2_with fail;refine(jD.out _).mono ?_;rintro e w5 ⟨rfl,hb5⟩;have ay:=zh (zkb av.out hb5);clear hb5 y0 z0 z1 hw4;go_wp2_with fail;refine(eU.out _).mono ?_;rintro e w6 ⟨rfl,rfl⟩;go_wp2_with fail
    go_roundw
    case rel=>exact⟨j+1,by omega,by go_num,by rw[HST.out],ay⟩
    case measure=>simp[intOf];omega
   ·obtain rfl:j=n:=by omega
    have hj1:¬ (j:Int)<(j:Int):=by omega
    have hfin:cntE (2*(h:Int)+1) bs=S:=by rw[<-hSS,List.take_of_length_le (by rw[HN.out];exact zl)]
    have hR:=HR.out;rw[hfin]at hR;by_cases hbig:(1099511627776:Int)<S
    ·have HF:=zh (hR.trans (if_pos (show maxC<S from hbig)));clear hR hfin hSS;go_wp2_with fail;go_ret2;exact⟨by rw[HF.out];rfl,zkb HB2.out af.out⟩
    ·have HF:=zh (hR.trans (if_neg (show ¬ maxC<S from hbig)));clear hR hfin hSS;go_wp2_with fail;go_ret2;exact⟨by rw[HF.out];rfl,zkb HB2.out af.out⟩
def zye{α:Type}(Y:Nat->α->Array Value->Nat->World->Prop)(n:Nat)(P:Program)(gf:FuncId)(lb:Array Value)(xs:List α)(R:Nat->Prop)(W:World):Prop :=
 ∀(l:Nat) (J Jx:List α->(Nat->Prop)->World->Prop) (C:Nat->Prop) (W1:World),l<W1.heap.size->(∀b,C b->¬ R b)->Chg C W W1 ->
  (∀pre C W W',J pre C W->Chg (fun b=>¬ C b) W W'->J pre C W')->(∀pre C W,J pre C W->∀b,C b->b<W.heap.size) ->
  (∀pre x C W vs g,J pre C W->(∀b,C b->b<g)->(pre++[x]) <+: xs->Y l x vs g W ->
   YieldAt (Fw none) (n-1) P l vs W fun e W' =>
    (e=.returned (.bool true)/\∃C',J (pre++[x]) C' W'/\(∀b,C' b->C b\/g<=b)/\Chg C W W') \/
    (e=.returned (.bool false)/\∃C',Jx (pre++[x]) C' W'/\Chg C W W')) ->
  J [] C W1 ->
  CallsIn (Fw none) n P gf (#[.func (.yield l) #[] #[]]++lb) W1 fun e W'=>(∃v,e=.returned v)/\((∃C',J xs C' W'/\Chg C W1 W')\/(∃pre C',Jx pre C' W'/\Chg C W1 W'))
def zxK{α:Type}(I Ix:List α->(Nat->Prop)->World->Prop)(pre:List α)(C:Nat->Prop)(g:Nat)(W:World):Exit->Act->World->Prop
 | .normal,_,W'=>∃C',I pre C' W'/\(∀b,C' b->C b\/g<=b)/\Chg C W W'
 | .ret,_,W'=>∃C',Ix pre C' W'/\(∀b,C' b->C b\/g<=b)/\Chg C W W'
 | _,_,_=>False
theorem zoE{α:Type}{Y:Nat->α->Array Value->Nat->World->Prop}{n:Nat}{P:Program}{g:Operand}{ps:Array Tmp}{assign body:Code}{Q:Exit->Act->World->Prop}{a:Act}{w:World}{gf:FuncId}{lb:Array Value}{xs:List α}{R:Nat->Prop}
  (hg:a.eval g=.func (.func gf) #[] lb)(eg:∀args w,(callFunc gf args).run P w=.ok (.enter gf args) w)(hseq:zye Y (n-1) P gf lb xs R w)(hps:∀l x vs g W,Y l x vs g W->vs.size=ps.size/\l<g)
  (I Ix:List α->(Nat->Prop)->World->Prop)(C0:Nat->Prop)(hI:∀pre C W W',I pre C W->Chg (fun b=>¬ C b) W W'->I pre C W')(hIx:∀pre C W W',Ix pre C W->Chg (fun b=>¬ C b) W W'->Ix pre C W')
  (hIlt:∀pre C W,I pre C W->∀b,C b->b<W.heap.size)(hIxlt:∀pre C W,Ix pre C W->∀b,C b->b<W.heap.size)(hC:∀b,C0 b->¬ R b)(hRlt:∀b,R b->b<w.heap.size)(h0:I [] C0 w)
  (eG:∀l pre x C W vs g,I pre C W->(∀b,C b->b<g)->¬ C l->w.heap.size<l->l<W.heap.size->(pre++[x]) <+: xs->Y l x vs g W ->
   assign.wpIn (Fw (some l)) (n-1-1) P (Exit.then (fun a1 W1=>Chg C W W1/\∀W2,Chg (· = l) W1 W2->body.wpIn (Fw (some l)) (n-1-1) P (zxK I Ix (pre++[x]) C g W2) a1 W2) (fun _ _ _=>False))
    { tmps:=(ps.zip vs).foldl (fun t (p,v)=>t.setIfInBounds p v) a.tmps,defers:=[] } W)
  (hdone:∀D C W',D=w.heap.size->I xs C W'->Chg C0 w W'->W'.heap[D]?=some (.deferred (some []))->Q .normal { a with defers:={ target:=.collected D,args := #[] }::a.defers } W')
  (hstop:∀D pre C W',D=w.heap.size->Ix pre C W'->Chg C0 w W'->W'.heap[D]?=some (.deferred (some []))->Code.ret.wpIn (Fw none) n P Q { a with defers:={ target:=.collected D,args := #[] }::a.defers } W') :
  (Code.rangeFunc g ps assign body).wpIn (Fw none) n P Q a w:=by
 refine wpIn_rangeFunc ?_;intro fn hfn;obtain⟨rec,hrec⟩:∃rec:LoopState->Option Code->Loop,rec=fun st pe=>{ state:=st,pending:=pe,fn,tmps:=a.tmps,params:=ps,assign,body,defers:=w.heap.size }:=⟨_,rfl⟩
 obtain⟨W1,hW1⟩:=zX ((w.alloc (.deferred (some []))).alloc (.loop (rec .ready none)));have hL1:W1.heap[w.heap.size+1]?=some (.loop (rec .ready none)):=by
  rw[<-hW1];have:=World.alloc_heap_new (w.alloc (.deferred (some []))) (.loop (rec .ready none));rwa[World.size_alloc]at this
 have hK1:W1.heap[w.heap.size]?=some (.deferred (some [])):=by
  rw[<-hW1];exact(Below.heap_alloc _ _ _ (by simp)).trans (World.alloc_heap_new w _)
 have hb1:Below w.heap.size w W1:=by rw[<-hW1];exact((Below.refl _ w).alloc zl _).alloc (by simp) _
 have hI1:I [] C0 W1:=hI _ _ _ _ h0 (Chg.of_below hb1);have iT:∀b,C0 b->b<w.heap.size:=hIlt _ _ _ h0;refine⟨w.heap.size+1,[{ target:=.collected w.heap.size,args := #[] }],W1,{ target:=.fn (.func gf) lb,args := #[.func (.yield (w.heap.size+1)) #[] #[]] },W1,gf,
  #[.func (.yield (w.heap.size+1)) #[] #[]]++lb,W1,?_,?_,(fun _ _=>trivial),?_,(fun e=>by cases e),?_⟩
 ·rw[<-hW1,hrec];exact run_enterLoop_outer _ _ _ _ _
 ·simp only[resolve,hg];simp[go_sem]
 ·simp[invoke,go_sem,eg]
 ·refine(hseq (w.heap.size+1)
   (fun pre C' W=>∃C,(∀b,C' b↔C b\/b=w.heap.size+1\/b=w.heap.size)/\I pre C W/\¬ C (w.heap.size+1)/\¬ C w.heap.size/\(∀b,C b->b<w.heap.size->C0 b)/\W.heap[w.heap.size+1]?=some (.loop (rec .ready none))/\W.heap[w.heap.size]?=some (.deferred (some [])))
   (fun pre C' W=>∃C,Ix pre C W/\¬ C (w.heap.size+1)/\W.heap[w.heap.size+1]?=some (.loop (rec .done (some .ret)))/\W.heap[w.heap.size]?=some (.deferred (some [])))
   (fun b=>C0 b\/b=w.heap.size+1\/b=w.heap.size) W1 (Array.getElem?_eq_some_iff.1 hL1).1 ?_ (Chg.of_below hb1) ?_ ?_ ?_ ⟨C0,fun _=>Iff.rfl,hI1,(fun h=>by have:=iT _ h;omega),(fun h=>by have:=iT _ h;omega),(fun _ h _=>h),hL1,hK1⟩).mono ?_
  ·intro b hb hr;have:=hRlt b hr;rcases hb with hb|hb|hb
   ·exact hC b hb hr
   ·omega
   ·omega
  ·rintro pre C' W W' ⟨C,hC',hi,h1,h2,h3,hl,hk⟩ hch;refine⟨C,hC',hI _ _ _ _ hi (hch.mono fun b _ hb hc=>hb ((hC' b).2 (.inl hc))),h1,h2,h3,hch.keep hl (fun h=>h ((hC' _).2 (.inr (.inl rfl)))),hch.keep hk (fun h=>h ((hC' _).2 (.inr (.inr rfl))))⟩
  ·rintro pre C' W ⟨C,hC',hi,h1,h2,h3,hl,hk⟩ b hb;rcases(hC' b).1 hb with hb|rfl|rfl
   ·exact hIlt _ _ _ hi b hb
   ·exact(Array.getElem?_eq_some_iff.1 hl).1
   ·exact(Array.getElem?_eq_some_iff.1 hk).1
  ·rintro pre x C' W vs g ⟨C,hC',hi,h1,h2,h3,hl,hk⟩ nX hpre hpv;have uH:=(hps _ _ _ _ _ hpv).2;have hlt:w.heap.size+1<W.heap.size:=(Array.getElem?_eq_some_iff.1 hl).1;have hy:=run_yield (P:=P) (args:=vs) hl (by rw[hrec];exact(hps _ _ _ _ _ hpv).1);rw[hrec]at hy;refine⟨fn,_,assign,body,hy,roundIn_of_wpIn hfn (wpIn_mono (eG (w.heap.size+1) pre x C W vs g hi (fun b hb=>nX b ((hC' b).2 (.inl hb))) h1 (by omega) hlt hpre hpv) ?_)⟩;rintro e a1 Wa kU
   cases e with
   | normal =>
    obtain⟨il,hbody⟩:=kU;have hl1:=il.keep hl h1;have hk1:=il.keep hk h2;have hlt1:w.heap.size+1<Wa.heap.size:=(Array.getElem?_eq_some_iff.1 hl1).1;refine⟨_,run_beginRound hl1 (by rw[hrec]),?_⟩;have hl2:(Wa.putObj (w.heap.size+1) (.loop { rec .ready none with state:=.busy })).heap[w.heap.size+1]?=some (.loop { rec .ready none with state:=.busy }):=World.putObj_heap_same hlt1;have hk2:(Wa.putObj (w.heap.size+1) (.loop { rec .ready none with state:=.busy })).heap[w.heap.size]?=some (.deferred (some [])):=(World.putObj_heap_other (by omega)).trans hk1;have hc2:Chg (fun b=>C b\/b=w.heap.size+1) W (Wa.putObj (w.heap.size+1) (.loop { rec .ready none with state:=.busy })) :=
     (il.mono fun _ _ h=>.inl h).trans2 (Chg.putObj Wa (w.heap.size+1) _) (fun b _ h=>.inr h)
    refine wpIn_mono (hbody _ (Chg.putObj _ _ _)) ?_;have fin:∀(jump:Option Code) (W3:World),Chg C (Wa.putObj (w.heap.size+1) (.loop { rec .ready none with state:=.busy })) W3 ->
      (Instr.endRound (w.heap.size+1) jump).run P W3=.ok (.bool jump.isNone) (W3.putObj (w.heap.size+1) (.loop (rec (if jump.isNone then .ready else .done) jump))) /\
      (W3.putObj (w.heap.size+1) (.loop (rec (if jump.isNone then .ready else .done) jump))).heap[w.heap.size+1]?=some (.loop (rec (if jump.isNone then .ready else .done) jump)) /\
      (W3.putObj (w.heap.size+1) (.loop (rec (if jump.isNone then .ready else .done) jump))).heap[w.heap.size]?=some (.deferred (some [])) /\
      Chg C' W (W3.putObj (w.heap.size+1) (.loop (rec (if jump.isNone then .ready else .done) jump))):=fun jump W3 hk3=>by
     have hl3:=hk3.keep hl2 h1;have:=run_endRound (P:=P) jump hl3;rw[hrec]at this ⊢;refine⟨this,World.putObj_heap_same (Array.getElem?_eq_some_iff.1 hl3).1,(World.putObj_heap_other (by omega)).trans (hk3.keep hk2 h2),?_⟩;have hA:Chg (fun b=>C b\/b=w.heap.size+1) W W3:=by
      have:=hc2;rw[hrec]at this hk3;exact this.trans2 hk3 (fun b _ h=>.inl h)
     exact(hA.trans2 (Chg.putObj W3 (w.heap.size+1) _) (fun b _ h=>.inr h)).mono fun b _ hb=>(hC' b).2 (by rcases hb with hb|hb;exact .inl hb;exact .inr (.inl hb))
    rintro e3 a3 W3 hp;have hsz:W.heap.size<=(Wa.putObj (w.heap.size+1) (.loop { rec .ready none with state:=.busy })).heap.size:=hc2.size
    cases e3 with
    | normal =>
     obtain⟨C3,hi3,jT,dE⟩:=hp;have dw:∀b,C3 b->C b\/g<=b:=jT;obtain⟨hr,hl4,hk4,dD⟩:=fin none W3 dE;have bR:¬ C3 (w.heap.size+1):=fun h=>by rcases dw _ h with h|h;exact h1 h;omega
     have fG:¬ C3 w.heap.size:=fun h=>by rcases dw _ h with h|h;exact h2 h;omega
     refine⟨_,_,hr,.inl ⟨rfl,fun b=>C3 b\/b=w.heap.size+1\/b=w.heap.size,⟨C3,fun _=>Iff.rfl,hI _ _ _ _ hi3 ((Chg.putObj _ _ _).mono fun b _ hb hc=>bR (hb▸hc)),bR,fG,?_,hl4,hk4⟩,?_,dD⟩⟩
     ·intro b hb hlt';rcases dw b hb with hb|hb
      ·exact h3 b hb hlt'
      ·omega
     ·intro b hb;rcases hb with hb|hb
      ·rcases dw b hb with hb|hb
       ·exact .inl ((hC' b).2 (.inl hb))
       ·exact .inr (by omega)
      ·exact .inl ((hC' b).2 (.inr hb))
    | ret =>
     obtain⟨C3,hi3,jT,dE⟩:=hp;have dw:∀b,C3 b->C b\/g<=b:=jT;obtain⟨hr,hl4,hk4,dD⟩:=fin (some .ret) W3 dE;have bR:¬ C3 (w.heap.size+1):=fun h=>by rcases dw _ h with h|h;exact h1 h;omega
     exact⟨_,_,hr,.inr ⟨rfl,fun _=>True,⟨C3,hIx _ _ _ _ hi3 ((Chg.putObj _ _ _).mono fun b _ hb hc=>bR (hb▸hc)),bR,hl4,hk4⟩,dD⟩⟩
    | exit id=>exact hp.elim
    | goto t=>exact hp.elim
    | panic ch=>exact hp.elim
    | outgrown=>exact hp.elim
   | exit id=>exact kU.elim
   | goto t=>exact kU.elim
   | ret=>exact kU.elim
   | panic ch=>exact kU.elim
   | outgrown=>exact kU.elim
  ·rintro e W2 ⟨⟨v,rfl⟩,(⟨C',⟨C,hC',hi,h1,h2,h3,hl,hk⟩,hch⟩|⟨pre,C',⟨C,hi,h1,hl,hk⟩,hch⟩)⟩
   all_goals
    have hw2:Chg C0 w W2:=((Chg.of_below hb1).trans2 hch fun b hb hc=>by rcases hc with hc|hc|hc;exact hc;omega;omega)
    have hfin:∀o,Chg C0 w (W2.putObj (w.heap.size+1) o):=fun o=>hw2.trans2 (Chg.putObj W2 (w.heap.size+1) o) fun b hb hc=>by omega
   ·exact⟨none,_,by have:=run_endLoop (P:=P) hl (by rw[hrec];simp);rw[hrec]at this;exact this,hdone _ C _ rfl (hI _ _ _ _ hi ((Chg.putObj W2 (w.heap.size+1) _).mono fun b _ (hb:b=w.heap.size+1) hc=>h1 (hb▸hc))) (hfin _) ((World.putObj_heap_other (by omega)).trans hk)⟩
   ·exact⟨some .ret,_,by have:=run_endLoop (P:=P) hl (by rw[hrec];simp);rw[hrec]at this;exact this,hstop _ pre C _ rfl (hIx _ _ _ _ hi ((Chg.putObj W2 (w.heap.size+1) _).mono fun b _ (hb:b=w.heap.size+1) hc=>h1 (hb▸hc))) (hfin _) ((World.putObj_heap_other (by omega)).trans hk)⟩
structure DK where
 l:Nat
 lb:Nat
 yb:Nat
 bb:Nat
 tb:Nat
 hb:Nat
 nb:Nat
 sb:Nat
 rb:Nat
 tr:Nat
 A:Option Addr
 c:Nat
 tc:Nat
abbrev ptr0(b:Nat):Value:=.pointer (some ⟨b,0,none⟩)
abbrev DK.cap1(Z:DK):Array Value := #[ptr0 Z.lb,ptr0 Z.yb,ptr0 Z.bb,ptr0 Z.tb,ptr0 Z.hb,ptr0 Z.nb]
abbrev DK.cap2(Z:DK):Array Value := #[ptr0 Z.lb,ptr0 Z.sb,ptr0 Z.hb,ptr0 Z.tb,ptr0 Z.nb]
structure DW(Z:DK)(bs:List Bn)(h:Nat)(B:Nat->Prop)(W:World):Prop where
 lists:W.heap[Z.lb]?=some (.cells #[.slice (some ⟨Z.rb,0,none⟩) bs.length bs.length] 31 (0,0))
 yld:W.heap[Z.yb]?=some (.cells #[.func (.yield Z.l) #[] #[]] 135 (0,0))
 ls:W.heap[Z.bb]?=some (.cells #[.slice Z.A bs.length Z.c] 93 (0,0))
 rest:W.heap[Z.tb]?=some (.cells #[.slice (some ⟨Z.tr,0,none⟩) (bs.length+1) Z.tc] 93 (0,0))
 hv:W.heap[Z.hb]?=some (.cells #[.int .i64 (h:Int)] 3 (0,0))
 num:W.heap[Z.nb]?=some (.cells #[.func (.func 113) #[] Z.cap2] 176 (0,0))
 slf:W.heap[Z.sb]?=some (.cells #[.func (.func 112) #[] Z.cap1] 175 (0,0))
 row:RowB W B Z.A bs
 rst:zp4 W Z.tr h bs
 kb:B Z.lb/\B Z.yb/\B Z.bb/\B Z.tb/\B Z.hb/\B Z.nb/\B Z.sb/\B Z.tr
 lt:∀b,B b->b<W.heap.size
theorem DW.chg{Z:DK}{bs:List Bn}{h:Nat}{B D:Nat->Prop}{W W':World}(hd:DW Z bs h B W)(hc:Chg D W W')(hD:∀b,B b->¬ D b):DW Z bs h B W':=by
 obtain⟨h1,h2,h3,h4,h5,h6,h7,h8,h9,hk,hl⟩:=hd;obtain⟨k1,k2,k3,k4,k5,k6,k7,k8⟩:=hk;exact⟨hc.keep h1 (hD _ k1),hc.keep h2 (hD _ k2),hc.keep h3 (hD _ k3),hc.keep h4 (hD _ k4),hc.keep h5 (hD _ k5),hc.keep h6 (hD _ k6),hc.keep h7 (hD _ k7),h8.keep (fun _ h _=>h) fun b hb hlt=>hc.block b hlt (hD b hb),h9.keep (hc.block _ (hl _ k8) (hD _ k8)),⟨k1,k2,k3,k4,k5,k6,k7,k8⟩,fun b hb=>Nat.lt_of_lt_of_le (hl b hb) hc.size⟩
structure RowQ(Z:DK)(n:Nat)(W:World)(p:List (List Int))(m f:Nat->Nat):Prop where
 row:∃us:Array Value,W.heap[Z.rb]?=some (.cells us 32 (0,0))/\us.size=n/\∀j,j<p.length->us[j]?=some (.slice (some ⟨f j,0,none⟩) (m j) (m j))
 el:∀j (hj:j<p.length),∃vs:Array Value,W.heap[f j]?=some (.cells vs 3 (0,0))/\vs.size=m j/\p[j].length<=m j/\∀i (hi:i<p[j].length),vs[i]?=some (.int .i64 p[j][i])
 ne:∀j,j<p.length->f j≠Z.rb
 inj:∀i j,i<p.length->j<p.length->f i=f j->i=j
 fits:∀x∈p,∀e∈x,I64 e
theorem RowQ.lt{Z:DK}{n:Nat}{W:World}{p:List (List Int)}{m f:Nat->Nat}(h:RowQ Z n W p m f):Z.rb<W.heap.size/\∀j,j<p.length->f j<W.heap.size:=by
 obtain⟨us,hu,-⟩:=h.row;exact⟨zki hu,fun j hj=>by obtain⟨vs,hv,-⟩:=h.el j hj;exact zki hv⟩
theorem RowQ.chg{Z:DK}{n:Nat}{W W':World}{p:List (List Int)}{m f:Nat->Nat}{D:Nat->Prop}(h:RowQ Z n W p m f)(hc:Chg D W W')(h1:¬ D Z.rb)(h2:∀j,j<p.length->¬ D (f j)):RowQ Z n W' p m f:=by
 obtain⟨us,hu,hs,hr⟩:=h.row;refine⟨⟨us,hc.keep hu h1,hs,hr⟩,fun j hj=>?_,h.ne,h.inj,h.fits⟩;obtain⟨vs,hv,h3⟩:=h.el j hj;exact⟨vs,hc.keep hv (h2 j hj),h3⟩
structure SepQ(Z:DK)(B:Nat->Prop)(n:Nat)(f:Nat->Nat)(C:Nat->Prop):Prop where
 b:∀q,B q->¬ C q
 r:¬ C Z.rb
 fc:∀j,j<n->¬ C (f j)
 br:¬ B Z.rb
 bf:∀j,j<n->¬ B (f j)
theorem SepQ.grow{Z:DK}{bs:List Bn}{h:Nat}{B C C':Nat->Prop}{W:World}{p:List (List Int)}{m f:Nat->Nat}(hs:SepQ Z B p.length f C)(hd:DW Z bs h B W)(hq:RowQ Z bs.length W p m f)(hC:∀b,C' b->C b\/W.heap.size<=b):SepQ Z B p.length f C' :=
 ⟨fun q hq' h=>(hC q h).elim (hs.b q hq') fun h=>by have:=hd.lt q hq';omega,fun h=>(hC _ h).elim hs.r fun h=>by have:=hq.lt.1;omega,fun j hj h=>(hC _ h).elim (hs.fc j hj) fun h=>by have:=hq.lt.2 j hj;omega,hs.br,hs.bf⟩
def stOf(x:List (List Int)):SS:=⟨x.dropLast,x.getLastD [],[]⟩
def zr1(J Jx:List SS->(Nat->Prop)->World->Prop)(Z:DK)(n:Nat)(D:Nat->Prop)(pre xs:List SS)(p:List (List Int))(m f:Nat->Nat)(C:Nat->Prop)(W:World)(e:Ending)(W':World):Prop :=
 (e=.returned (.bool true)/\∃C',J (pre++xs) C' W'/\(∀b,C' b->C b\/W.heap.size<=b)/\Chg (fun b=>C b\/D b) W W'/\RowQ Z n W' p m f) \/
 (e=.returned (.bool false)/\∃pre' C',Jx pre' C' W'/\Chg (fun b=>C b\/D b) W W')
def YS(l:Nat)(s:SS)(vs:Array Value)(g:Nat)(W:World):Prop:=∃v,vs = #[v]/\SV W (fun q=>g<=q) s v/\l<g/\g<=W.heap.size
structure DB(bs:List Bn)(h:Nat):Prop where
 n:bs.length<=100
 b:∀b∈bs,b.1<=1000/\b.2<=1000
 hm:h<=10000
 h1:1<=h
 ne:1<=bs.length
theorem zpN{p:List (List Int)}{n:Nat}(hn:p.length=n)(h1:1<=n):p.getLastD []=p[n-1]:=by
 have hne:p≠[]:=by rintro rfl;simp at hn;omega
 subst hn;rw[<-List.getLast_eq_getElem hne]
 cases p with
 | nil=>exact(hne rfl).elim
 | cons a p=>rfl
theorem RowQ.sv{Z:DK}{n:Nat}{W:World}{p:List (List Int)}{m f:Nat->Nat}(h:RowQ Z n W p m f)(hn:p.length=n)(h1:1<=n)(hn2:n<=100)(hf:∀j (hj:j<p.length),m j=p[j].length)(hm:∀j,j<p.length->m j<=1000) :
  SV W Any (stOf p) (.agg #[.slice (some ⟨Z.rb,0,none⟩) (n-1) n,.slice (some ⟨f (n-1),0,none⟩) (m (n-1)) (m (n-1)),.slice none 0 0]):=by
 obtain⟨us,hu,iI,hr⟩:=h.row;have hrow:∀j (hj:j<p.length),RowI W Any (some ⟨f j,0,none⟩) p[j]:=fun j hj i hi=>by
  obtain⟨vs,hv,h3,h4,h5⟩:=h.el j hj;refine⟨_,rfl,trivial,?_,h.fits _ (List.getElem_mem hj) _ (List.getElem_mem hi)⟩;rw[Addr.add_lit,Nat.zero_add];exact zc hv (h5 i hi)
 have hcl:(stOf p).cells.length=n-1:=by simp[stOf,hn]
 have htl:(stOf p).tin=p[n-1]:=zpN hn h1;have hti:(stOf p).tin.length=m (n-1):=by rw[htl,hf (n-1) (by omega)]
 have hcg:∀i (hi:i<(stOf p).cells.length),(stOf p).cells[i]=p[i]'(by rw[hcl]at hi;omega):=fun i hi=>by simp[stOf]
 refine⟨some ⟨Z.rb,0,none⟩,n,some ⟨f (n-1),0,none⟩,m (n-1),none,0,by rw[hcl,hti];rfl,fun i hi=>?_,?_,fun i hi=>absurd hi (Nat.not_lt_zero i),by rw[hcl];omega,by rw[hti];exact zl,zl,?_⟩
 ·have uI:i<p.length:=by rw[hcl]at hi;omega
  have hl:(stOf p).cells[i].length=m i:=by rw[hcg i hi,hf i uI]
  refine⟨⟨Z.rb,0,none⟩,some ⟨f i,0,none⟩,m i,rfl,trivial,?_,by rw[hl];exact zl,?_⟩
  ·rw[Addr.add_lit,Nat.zero_add,hl];exact zc hu (hr i uI)
  ·rw[hcg i hi];exact hrow i uI
 ·rw[htl];exact hrow (n-1) (by omega)
 ·refine⟨by rw[hcl];unfold LI;omega,fun l hl=>?_,by rw[hti];have:=hm (n-1) (by omega);unfold LI;omega,Nat.zero_le _⟩;obtain⟨i,hi,rfl⟩:=List.mem_iff_getElem.1 hl;have uI:i<p.length:=by rw[hcl]at hi;omega
  rw[hcg i hi,<-hf i uI];have:=hm i uI;unfold LI;omega
def zvW(J Jx:List SS->(Nat->Prop)->World->Prop)(Z:DK)(bs:List Bn)(h:Nat)(B:Nat->Prop)(tot:List SS)(rs:List Bn):Prop :=
 ∀(p:List (List Int)) (m f:Nat->Nat) (pre:List SS) (C:Nat->Prop) (W:World) (left:Int),bs.drop p.length=rs->p.length<=bs.length->J pre C W->DW Z bs h B W->RowQ Z bs.length W p m f->SepQ Z B p.length f C ->
  (∀j (hj:j<p.length),m j=p[j].length)->(∀j,j<p.length->m j<=1000)->(0<=left/\left<=100000000000)->(pre++(zkW h rs left).map fun ls=>stOf (p++ls)) <+: tot ->
  Calls Tryz.prog 112 (#[.int .i64 (p.length:Int),.int .i64 left]++Z.cap1) W (zr1 J Jx Z bs.length (fun b=>b=Z.rb) pre ((zkW h rs left).map fun ls=>stOf (p++ls)) p m f C W)
def hdA(q:List Int):List (List Int)->List (List Int)
 | []=>[]
 | l::ls=>(q++l)::ls
def NumC(J Jx:List SS->(Nat->Prop)->World->Prop)(Z:DK)(bs:List Bn)(h:Nat)(B:Nat->Prop)(tot:List SS)(rs:List Bn)(k:Nat):Prop :=
 ∀(p:List (List Int)) (q:List Int) (m f:Nat->Nat) (pre:List SS) (C:Nat->Prop) (W:World) (left:Int),bs.drop (p.length+1)=rs->p.length+1<=bs.length->J pre C W->DW Z bs h B W->RowQ Z bs.length W (p++[q]) m f->SepQ Z B (p.length+1) f C ->
  (∀j (hj:j<p.length),m j=p[j].length)->(∀j,j<p.length+1->m j<=1000)->m p.length=q.length+k->(0<=left/\left<=100000000000)->(pre++(numE h rs (zkW h rs) k left).map fun z=>stOf (p++hdA q z)) <+: tot ->
  Calls Tryz.prog 113 (#[.int .i64 (p.length:Int),.int .i64 (q.length:Int),.int .i64 left]++Z.cap2) W (zr1 J Jx Z bs.length (fun b=>b=Z.rb\/b=f p.length) pre ((numE h rs (zkW h rs) k left).map fun z=>stOf (p++hdA q z)) (p++[q]) m f C W)
structure JC(J Jx:List SS->(Nat->Prop)->World->Prop)(n l:Nat)(tot:List SS):Prop where
 keep:∀pre C W W',J pre C W->Chg (fun b=>¬ C b) W W'->J pre C W'
 lt:∀pre C W,J pre C W->∀b,C b->b<W.heap.size
 y:∀pre x C W vs g,J pre C W->(∀b,C b->b<g)->(pre++[x]) <+: tot->YS l x vs g W->YieldAt (Fw none) (n-1) Tryz.prog l vs W fun e W' =>
    (e=.returned (.bool true)/\∃C',J (pre++[x]) C' W'/\(∀b,C' b->C b\/g<=b)/\Chg C W W') \/
    (e=.returned (.bool false)/\∃C',Jx (pre++[x]) C' W'/\Chg C W W')
theorem zrN:IsFn Tryz.prog 23 Tryz.f23:=⟨Tryz.func23,by kernel_rfl,by kernel_rfl⟩
theorem bSt2(A B:Option Addr)(m d n e:Nat)(w:World):(Instr.build 34 #[(0,.slice A m d),(1,.slice B n e)]).run Tryz.prog w=.ok (.agg #[.slice A m d,.slice B n e,.slice none 0 0]) w:=by kernel_rfl
theorem zuU{J Jx:List SS->(Nat->Prop)->World->Prop}{Z:DK}{bs:List Bn}{h nf:Nat}{B:Nat->Prop}{tot:List SS}(hj:JC J Jx nf Z.l tot)(hb:DB bs h)(hl:∀W,DW Z bs h B W->Z.l<W.heap.size):zvW J Jx Z bs h B tot []:=by
 intro p m f pre C W left hrs hpl hJ hD hQ hS hm hm2 hleft hpre;have hpn:p.length=bs.length:=by have:=congrArg List.length hrs;rw[List.length_drop]at this;simp at this;omega
 have hn1:=hb.ne;have hn2:=hb.n;obtain⟨n,hn⟩:=zX (bs.length);have hx:(zkW h [] left).map (fun ls=>stOf (p++ls))=[stOf p]:=by simp[zkW]
 rw[hx]at hpre ⊢;have hsv:=hQ.sv hpn hn1 hn2 hm hm2;obtain⟨us,hu,iI,hur⟩:=hQ.row;have x0:W.cell? ⟨Z.lb,0,none⟩=some (.slice (some ⟨Z.rb,0,none⟩) bs.length bs.length):=zc hD.lists rfl;have x1:W.cell? ⟨Z.yb,0,none⟩=some (.func (.yield Z.l) #[] #[]):=zc hD.yld rfl;have x2:W.cell? ⟨Z.rb,bs.length-1,none⟩=some (.slice (some ⟨f (bs.length-1),0,none⟩) (m (bs.length-1)) (m (bs.length-1))):=zc hu (hur _ (by omega));rw[hpn];rw[hn]at hpn hn1 hn2 x0 x2 hsv ⊢;have HJ:=zh hj;have nz:=zh hJ;have HD:=zh hD;have HQ:=zh hQ;have HS:=zh hS;have dU:=zh hpre;have jV:=zh hsv;have HN:=zh hn;have nu:=zh (show(stOf p).Lim from by obtain⟨_,_,_,_,_,_,_,_,_,_,_,_,_,h⟩:=hsv;exact h);have dV:=zh (hl W hD);have hwn:IntKind.i64.wrap ((n:Int)-1)=((n-1:Nat):Int):=by rw[show((n-1:Nat):Int)=(n:Int)-1 by omega];exact IntWalk.i64_in _ (by omega)
 clear hj hJ hD hQ hS hpre hsv hu hur hrs hm hm2 hleft hx hb hl hpl;obtain⟨F,hF⟩:=zX (f (n-1));obtain⟨M,hM⟩:=zX (m (n-1));rw[hF,hM]at x2 jV;go_enter Tryz.func112,Tryz.ntmps112;go_upto_region 2 with fail;have hp0:(0:Int)<=((n-1:Nat):Int):=by omega
 have hp1:((n-1:Nat):Int)<(n:Int):=by omega
 have hp2:((n-1:Nat):Int)<=(n:Int):=by omega
 go_quiet (fail)
 have hb2:=zkZ (zs W) nq;obtain⟨w2,hw2⟩:=zX (W.drewN nq);rw[hw2]at hb2;rw[hw2]
 replace x1:=zb hb2 x1
 have HB2:=zh hb2;clear hw2 hb2 x0 x2 hp0 hp1 hp2;go_upto_region 3 with fail;have hbs:=bSt2;have hSS:(fun w':World=>zv w' Z.yb 0 (.func (.yield Z.l) #[] #[])) w2.drew:=x1;refine wp_region_noPanic ?_;refine(wpIn_wide (n:=nf)).1 ?_;refine zl6 (ro:=none) (fun w':World=>zv w' Z.yb 0 (.func (.yield Z.l) #[] #[])) (by kernel_rfl) ?_;clear x1;refine zI 0 hSS ?_;refine zI 1 hSS ?_;refine zI 2 hSS ?_;refine zI 3 hSS ?_;have hcl:=zpx (stOf p) _ w2.drew ((jV.out.later HB2.out).later zr.drew) (by simp only[stOf,List.length_dropLast];omega);have had:Calls Tryz.prog 23 [.agg #[.slice (some ⟨Z.rb,0,none⟩) (n-1) n,.slice (some ⟨F,0,none⟩) M M,.slice none 0 0]].toArray w2.drew fun e w'=>∃u,e=.returned u/\(SV w' (fun q=>w2.heap.size<=q) (stOf p) u/\Below w2.heap.size w2 w') :=
  hcl.mono fun e w' ⟨v,h1,h2,h3⟩=>⟨v,h1,h2.svR nu.out,zkb (zs w2).drew h3⟩
 refine zsc (i:=4) (by kernel_rfl) rfl (by kernel_rfl) (by rfl) (fun K hK=>?_);refine zke (by rfl) (.func 23) [.tmp 32] _ (by rfl) 23 _ zrN (by rfl) _ (by rfl) _ had ?_;rintro v3 w3 ⟨hs3,hb3⟩;have bN:(fun w':World=>zv w' Z.yb 0 (.func (.yield Z.l) #[] #[])) w3:=zb hb3 hSS;refine hK.out _ _ bN ?_;clear hK K had hcl hSS;(try simp only[zQ]);have yY:=zkb HB2.out hb3;have nQ:=HJ.out.keep _ _ _ _ nz.out (Chg.of_below yY);obtain⟨yfn,ytmps,yas,ybo,hyr,hyR⟩:=HJ.out.y pre (stOf p) C w3 #[v3] w2.heap.size nQ (fun b hb=>Nat.lt_of_lt_of_le (HJ.out.lt _ _ _ nz.out b hb) HB2.out.size) dU.out ⟨v3,rfl,hs3,(by have:=dV.out;have:=HB2.out.size;omega),hb3.size⟩;refine zsb (i:=5) (by kernel_rfl) rfl (by kernel_rfl) (by rfl) (l:=Z.l) (f:=yfn) (tmps:=ytmps) (assign:=yas) (body:=ybo) ?_ hyR ?_
 ·(try simp only[zA,zB,zC]);go_simp
 ·clear hyr hyR;have HB3:=zh yY;have HSZ:=zh (show W.heap.size<=w2.heap.size from HB2.out.size);rintro e W1 hR;have hy1:W1.heap[Z.yb]?=w3.heap[Z.yb]?:=by
   have hlt:=HD.out.lt _ HD.out.kb.2.1;have hnc:=HS.out.b _ HD.out.kb.2.1;rcases hR with⟨_,C1,_,_,hch⟩|⟨_,C1,_,hch⟩<;>exact hch.block _ (Nat.lt_of_lt_of_le hlt HB3.out.size) hnc
  have su:(fun w':World=>zv w' Z.yb 0 (.func (.yield Z.l) #[] #[])) W1:=zkr bN hy1;have hfin:∃b:Bool,e=.returned (.bool b)/\zr1 J Jx Z n (fun b=>b=Z.rb) pre [stOf p] p m f C W (.returned (.bool b)) W1:=by
   have hch':Chg C w3 W1->Chg (fun b=>C b\/b=Z.rb) W W1:=fun h=>(Chg.of_below HB3.out).trans2 h fun b _ h=>.inl h;rcases hR with⟨rfl,C1,hj1,dJ,hch⟩|⟨rfl,C1,hjx1,hch⟩
   ·refine⟨true,rfl,.inl ⟨rfl,C1,hj1,fun b h=>(dJ b h).imp id fun h=>Nat.le_trans HSZ.out h,hch' hch,?_⟩⟩;have h3:=HQ.out.chg (D:=C) ((Chg.of_below HB3.out).trans2 hch fun b _ h=>h) HS.out.r HS.out.fc;have:=HN.out;rwa[this]at h3
   ·exact⟨false,rfl,.inr ⟨rfl,_,C1,hjx1,hch' hch⟩⟩
  obtain⟨b,rfl,hP⟩:=hfin;have HP:=zh hP;refine⟨_,rfl,su,?_⟩;(try simp only[zQ]);refine zI 6 su ?_;refine zoZ (by kernel_rfl) ?_;refine NoPanic.normal ?_;clear hP hR hy1 su nQ hb3 hs3 yY bN;go_wp2_with fail;go_ret;exact HP.out
section
variable {Z:DK} {n:Nat} {W W':World} {p:List (List Int)} {q:List Int} {m f:Nat->Nat}
theorem zps{p:List (List Int)}{q:List Int}{j:Nat}(hj:j<(p++[q]).length):(j<p.length/\∃h:j<p.length,(p++[q])[j]=p[j])\/(j=p.length/\(p++[q])[j]=q):=by
 by_cases h:j<p.length
 ·exact .inl ⟨h,h,List.getElem_append_left h⟩
 ·have:j=p.length:=by simp at hj;omega
  subst this;exact .inr ⟨rfl,by simp⟩
theorem RowQ.pop{q':List Int}(h:RowQ Z n W (p++[q']) m f)(hq:q <+: q'):RowQ Z n W (p++[q]) m f:=by
 have hl:(p++[q']).length=(p++[q]).length:=by simp
 refine⟨by rw[<-hl];exact h.row,fun j hj=>?_,fun j hj=>h.ne j (by rw[hl];exact hj),fun i j hi hj=>h.inj i j (by rw[hl];exact hi) (by rw[hl];exact hj),fun x hx e he=>?_⟩
 ·obtain⟨vs,h1,h2,h3,h4⟩:=h.el j (by rw[hl];exact hj);rcases zps hj with⟨hjp,_,e⟩|⟨rfl,e⟩
  ·have e2:(p++[q'])[j]'(by rw[hl];exact hj)=p[j]:=List.getElem_append_left hjp;simp only[e,e2]at h3 h4 ⊢;exact⟨vs,h1,h2,h3,h4⟩
  ·have e2:(p++[q'])[p.length]'(by simp)=q':=by simp
   simp only[e,e2]at h3 h4 ⊢;exact⟨vs,h1,h2,Nat.le_trans hq.length_le h3,fun i hi=>by rw[h4 i (Nat.lt_of_lt_of_le hi hq.length_le)];congr 2;exact(hq.getElem hi).symm⟩
 ·rcases List.mem_append.1 hx with hx|hx
  ·exact h.fits x (List.mem_append.2 (.inl hx)) e he
  ·obtain rfl:=List.mem_singleton.1 hx;exact h.fits q' (by simp) e (hq.subset he)
theorem RowQ.dropL(h:RowQ Z n W (p++[q]) m f):RowQ Z n W p m f:=by
 obtain⟨us,h1,h2,h3⟩:=h.row;refine⟨⟨us,h1,h2,fun j hj=>h3 j (by simp;omega)⟩,fun j hj=>?_,fun j hj=>h.ne j (by simp;omega),fun i j hi hj=>h.inj i j (by simp;omega) (by simp;omega),fun x hx=>h.fits x (List.mem_append.2 (.inl hx))⟩;obtain⟨vs,h1,h2,h3⟩:=h.el j (by simp;omega);simp only[List.getElem_append_left hj]at h3;exact⟨vs,h1,h2,h3⟩
theorem RowQ.put{x:Int}(h:RowQ Z n W (p++[q]) m f)(hm:q.length<m p.length)(hx:I64 x)(hc:Chg (fun b=>b=f p.length) W W')
  (hk:∀vs,W.heap[f p.length]?=some (.cells vs 3 (0,0))->W'.heap[f p.length]?=some (.cells (vs.setIfInBounds q.length (.int .i64 x)) 3 (0,0))):RowQ Z n W' (p++[q++[x]]) m f:=by
 have hl:(p++[q++[x]]).length=(p++[q]).length:=by simp
 have hpl:p.length<(p++[q]).length:=by simp
 obtain⟨us,h1,h2,h3⟩:=h.row;refine⟨⟨us,hc.keep h1 fun e=>h.ne _ hpl e.symm,h2,by rw[hl];exact h3⟩,fun j hj=>?_,fun j hj=>h.ne j (by rw[<-hl];exact hj),fun i j hi hj=>h.inj i j (by rw[<-hl];exact hi) (by rw[<-hl];exact hj),fun y hy e he=>?_⟩
 ·obtain⟨vs,v1,v2,v3,v4⟩:=h.el j (by rw[<-hl];exact hj);rcases zps hj with⟨hjp,_,e⟩|⟨rfl,e⟩
  ·have e2:(p++[q])[j]'(by rw[<-hl];exact hj)=p[j]:=List.getElem_append_left hjp;simp only[e,e2]at v3 v4 ⊢;exact⟨vs,hc.keep v1 fun e=>by have:=h.inj _ _ (by rw[<-hl];exact hj) hpl e;omega,v2,v3,v4⟩
  ·have e2:(p++[q])[p.length]'(by simp)=q:=by simp
   simp only[e,e2]at v3 v4 ⊢;refine⟨_,hk vs v1,by simpa using v2,by rw[List.length_append];simp;omega,fun i hi=>?_⟩;by_cases hiq:i=q.length
   ·subst hiq;rw[Array.getElem?_setIfInBounds_self_of_lt (by omega)];simp
   ·have hi2:i<q.length:=by simp at hi;omega
    rw[Array.getElem?_setIfInBounds_ne (by omega),List.getElem_append_left hi2];exact v4 i hi2
 ·rcases List.mem_append.1 hy with hy|hy
  ·exact h.fits y (List.mem_append.2 (.inl hy)) e he
  ·obtain rfl:=List.mem_singleton.1 hy;rcases List.mem_append.1 he with he|he
   ·exact h.fits q (by simp) e he
   ·obtain rfl:=List.mem_singleton.1 he;exact hx
end
theorem zwS(q:List Int)(x:Int)(z:List (List Int)):hdA q (hdC x z)=hdA (q++[x]) z:=by
 cases z with
 | nil=>rfl
 | cons l ls=>simp[hdA,hdC]
theorem zwR(q:List Int)(ls:List (List Int))(p:List (List Int)):p++hdA q ([]::ls)=(p++[q])++ls:=by simp[hdA]
theorem zuK{J Jx:List SS->(Nat->Prop)->World->Prop}{Z:DK}{bs rs:List Bn}{h:Nat}{B:Nat->Prop}{tot:List SS}(hb:DB bs h)(hL:zvW J Jx Z bs h B tot rs):NumC J Jx Z bs h B tot rs 0:=by
 intro p q m f pre C W left hrs hpl hJ hD hQ hS hm hm2 hmk hleft hpre;have hx:(numE h rs (zkW h rs) 0 left).map (fun z=>stOf (p++hdA q z))=(zkW h rs left).map fun ls=>stOf ((p++[q])++ls):=by
  simp only[numE,List.map_map,Function.comp_def,zwR]
 rw[hx]at hpre ⊢;have hlen:(p++[q]).length=p.length+1:=by simp
 have hC:=hL (p++[q]) m f pre C W left (by rw[hlen];exact hrs) (by rw[hlen];exact hpl) hJ hD hQ (by rw[hlen];exact hS) (fun j hj=>by
  rcases zps hj with⟨hjp,_,e⟩|⟨rfl,e⟩
  ·rw[e];exact hm j hjp
  ·rw[e];omega) (fun j hj=>hm2 j (by rw[<-hlen];exact hj)) hleft hpre
 rw[hlen]at hC;have HC:=zh hC;obtain⟨us,hu,iI,hur⟩:=hQ.row;have x0:W.cell? ⟨Z.lb,0,none⟩=some (.slice (some ⟨Z.rb,0,none⟩) bs.length bs.length):=zc hD.lists rfl;have x1:W.cell? ⟨Z.rb,p.length,none⟩=some (.slice (some ⟨f p.length,0,none⟩) (m p.length) (m p.length)):=zc hu (hur _ (by simp));have x2:W.cell? ⟨Z.sb,0,none⟩=some (.func (.func 112) #[] Z.cap1):=zc hD.slf rfl;rw[hmk,Nat.add_zero]at x1;have hbn:=hb.n;obtain⟨n,hn⟩:=zX (bs.length);rw[hn]at x0 hpl hbn;obtain⟨c,hc⟩:=zX (p.length);rw[hc]at x1 hpl ⊢;have hp1:(c:Int)<(n:Int):=by omega
 have hwc:IntKind.i64.wrap ((c:Int)+1)=((c+1:Nat):Int):=IntWalk.i64_in _ (by omega);have HN:=zh hn;have aV:=zh hc;obtain⟨R,hR⟩:=zX (zr1 J Jx Z bs.length (fun b=>b=Z.rb) pre ((zkW h rs left).map fun ls=>stOf (p++[q]++ls)) (p++[q]) m f C W);have HR:=zh (show ∀e w',R e w'->zr1 J Jx Z bs.length (fun b=>b=Z.rb\/b=f c) pre ((zkW h rs left).map fun ls=>stOf (p++[q]++ls)) (p++[q]) m f C W e w'/\∃b,e=.returned (.bool b)from fun e w' hr=>by
  rw[<-hR]at hr;rcases hr with⟨rfl,C',h1,h2,h3,h4⟩|⟨rfl,pre',C',h1,h2⟩
  ·exact⟨.inl ⟨rfl,C',h1,h2,h3.mono fun b _ h=>h.imp id .inl,h4⟩,_,rfl⟩
  ·exact⟨.inr ⟨rfl,pre',C',h1,h2.mono fun b _ h=>h.imp id .inl⟩,_,rfl⟩)
 rw[hR,hc]at HC;rw[HN.out]at HR ⊢;clear hJ hD hQ hS hpre hu hur iI hrs hm hm2 hmk hleft hx hb hL hlen hC hn hc hR;go_enter Tryz.func113,Tryz.ntmps113;go_wp2_with fail;refine HC.out.mono ?_;rintro e w2 hr;obtain⟨h1,b,rfl⟩:=HR.out e w2 hr;have H1:=zh h1;clear h1 hr;go_wp2_with fail;go_ret;exact H1.out
theorem zn4{α β:Type}(F:α->List β)(g:Nat->α){j n:Nat}(hj:j<n):(List.range j).flatMap (fun i=>F (g i))++F (g j) <+: (List.range n).flatMap (fun i=>F (g i)):=by
 have e:(List.range j).flatMap (fun i=>F (g i))++F (g j)=(List.range (j+1)).flatMap (fun i=>F (g i)):=by rw[List.range_succ,List.flatMap_append];simp
 rw[e];obtain⟨d,rfl⟩:∃d,n=(j+1)+d:=⟨n-(j+1),by omega⟩
 rw[List.range_add (n:=j+1) (m:=d),List.flatMap_append];exact List.prefix_append _ _
theorem znR{β:Type}(F:Int->List β)(lo hi:Int):(ranE lo hi).flatMap F=(List.range (hi-lo+1).toNat).flatMap fun(i:Nat)=>F (lo+(i:Int)):=by
 unfold ranE;rw[List.flatMap_map]
theorem zus{r:Int}(h0:0<=r)(h1:r<=1000000):I64 (unrk r):=by
 have:=zsk (v:=500000) h0 (by omega);unfold I64;omega
theorem zuL{J Jx:List SS->(Nat->Prop)->World->Prop}{Z:DK}{bs rs:List Bn}{h nf:Nat}{B:Nat->Prop}{tot:List SS}(hj:JC J Jx nf Z.l tot)(hb:DB bs h){k:Nat}(hN:NumC J Jx Z bs h B tot rs k):NumC J Jx Z bs h B tot rs (k+1):=by
 intro p q m f pre C W left hrs hpl hJ hD hQ hS hm hm2 hmk hleft hpre;obtain⟨us,hu,iI,hur⟩:=hQ.row;have hwb:=zsi (bs:=rs) (h:=h) (by rw[<-hrs];exact zru hb.b _) (by rw[<-hrs,List.length_drop];have:=hb.n;omega) hb.hm;have x0:W.cell? ⟨Z.lb,0,none⟩=some (.slice (some ⟨Z.rb,0,none⟩) bs.length bs.length):=zc hD.lists rfl;have x1:W.cell? ⟨Z.rb,p.length,none⟩=some (.slice (some ⟨f p.length,0,none⟩) (m p.length) (m p.length)):=zc hu (hur _ (by simp));have x2:W.cell? ⟨Z.hb,0,none⟩=some (.int .i64 (h:Int)):=zc hD.hv rfl;have x3:W.cell? ⟨Z.tb,0,none⟩=some (.slice (some ⟨Z.tr,0,none⟩) (bs.length+1) Z.tc):=zc hD.rest rfl;obtain⟨x4,x5⟩:=hD.rst (p.length+1) hpl;rw[hrs]at x4 x5;have hM:m p.length<=1000:=hm2 p.length (by omega);have hbn:=hb.n;have uL:=hb.hm;have kX:=hb.h1;obtain⟨n,hn⟩:=zX (bs.length);obtain⟨c,hc⟩:=zX (p.length);obtain⟨i,hi⟩:=zX (q.length);obtain⟨M,vY⟩:=zX (m p.length)
 obtain⟨F,hF⟩:=zX (f p.length);obtain⟨w0,hw0⟩:=zX (wlo rs);obtain⟨w1,hw1⟩:=zX (whi h rs);have hmk2:=hmk;rw[vY,hi]at hmk;rw[vY]at hM;rw[hw0,hw1]at hwb;rw[hn]at x0 x3 hpl hbn;rw[vY,hF,hc]at x1;rw[hc,hw0]at x4;rw[hc,hw1]at x5;rw[hc]at hpl;obtain⟨lo,hlo⟩:=zX (max 0 (left-1-(k:Int)*(h:Int)-w1));obtain⟨hi',hhi⟩:=zX (min ((h:Int)-1) (left-1-(k:Int)-(w0:Int)));have hkh:(0:Int)<=(k:Int)*(h:Int)/\(k:Int)*(h:Int)<=1000*10000:=⟨Int.mul_nonneg (by omega) (by omega),Int.mul_le_mul (by omega) (by omega) (by omega) (by omega)⟩
 have hlo0:0<=lo:=by omega
 have hlo1:lo<=100000000000:=by omega
 have hhi1:hi'<=10000:=by omega
 have hhi2 : -100000000000<=hi':=by omega
 obtain⟨G,hG⟩:∃G:Int->List SS,G=fun r=>(numE h rs (zkW h rs) k (left-1-r)).map fun z=>stOf (p++hdA (q++[unrk r]) z):=⟨_,rfl⟩
 have hX:(numE h rs (zkW h rs) (k+1) left).map (fun z=>stOf (p++hdA q z))=(List.range (hi'-lo+1).toNat).flatMap fun(j:Nat)=>G (lo+(j:Int)):=by
  rw[<-znR,numE,List.map_flatMap,hw0,hw1,hlo,hhi,hG];simp only[List.map_map,Function.comp_def,zwS]
 rw[hX]at hpre ⊢;obtain⟨T,hT⟩:∃T:Nat,(hi'-lo+1).toNat=T:=⟨_,rfl⟩
 rw[hT]at hpre ⊢;have HJ:=zh hj;have nz:=zh hJ;have HD:=zh hD;have HQ:=zh hQ;have HS:=zh hS;have dU:=zh hpre;have HN:=zh hN;have HM:=zh hm;have wX:=zh hm2;have HMK:=zh hmk2;have lV:=zh hrs;have wQ:=zh (show p.length+1<=bs.length by rw[hc,hn];exact hpl);have HG:=zh hG;have lH:=zh (show bs.length=n/\p.length=c/\q.length=i/\m p.length=M/\f p.length=F from⟨hn,hc,hi,vY,hF⟩);rw[hn,hF,hc,hi];clear hj hJ hD hQ hS hpre hu hur iI hrs hm hm2 hmk2 hX hb hN hn hc hi vY hF hw0 hw1 hG;have hp1:(c:Int)<(n:Int):=by omega
 have hp2:(0:Int)<=(c:Int)+1:=by omega
 have hp3:(c:Int)+1<(n:Int)+1:=by omega
 have hwc:IntKind.i64.wrap ((c:Int)+1)=(c:Int)+1:=IntWalk.i64_in _ (by omega);have hne:((i:Int)==(M:Int))=false:=by simp;omega
 have e1:IntKind.i64.wrap ((M:Int)-1)=(M:Int)-1:=IntWalk.i64_in _ (by omega);have e2:IntKind.i64.wrap ((M:Int)-1-(i:Int))=(k:Int):=by rw[show(M:Int)-1-(i:Int)=(k:Int) by omega];exact IntWalk.i64_in _ (by omega)
 have xX:=zh hmk;clear hmk;go_enter Tryz.func113,Tryz.ntmps113;go_upto_region 4 with fail;have e3:IntKind.i64.wrap (left-1)=left-1:=IntWalk.i64_in _ (by omega);have e4:IntKind.i64.wrap ((k:Int)*(h:Int))=(k:Int)*(h:Int):=IntWalk.i64_in _ (by omega);have e5:IntKind.i64.wrap (left-1-(k:Int)*(h:Int))=left-1-(k:Int)*(h:Int):=IntWalk.i64_in _ (by omega);have e6:IntKind.i64.wrap (left-1-(k:Int)*(h:Int)-w1)=left-1-(k:Int)*(h:Int)-w1:=IntWalk.i64_in _ (by omega)
 go_region
 have hbd:=(zs W).drew;obtain⟨wA,vE⟩:=zX (W.drew);rw[vE]at hbd ⊢
 replace x0:=zb hbd x0
 replace x1:=zb hbd x1
 replace x2:=zb hbd x2
 replace x3:=zb hbd x3
 replace x4:=zb hbd x4
 clear vE x5 e4 e5 e6;go_upto_region 5 with fail;have e4:IntKind.i64.wrap ((h:Int)-1)=(h:Int)-1:=IntWalk.i64_in _ (by omega);have e5:IntKind.i64.wrap (left-1-(k:Int))=left-1-(k:Int):=IntWalk.i64_in _ (by omega);have e6:IntKind.i64.wrap (left-1-(k:Int)-(w0:Int))=left-1-(k:Int)-(w0:Int):=IntWalk.i64_in _ (by omega)
 go_region
 have jQ:=hbd.trans (Below.refl W.heap.size wA |>.mono zl |>.drew);obtain⟨wB,vD⟩:=zX (wA.drew);rw[vD]at jQ ⊢;have jl:=zh jQ;clear vD x0 x1 x2 x3 x4 e4 e5 e6 hbd jQ hwc e1 e2 e3 hp2 hp3;have e1:IntKind.i64.wrap (hi'-lo)=hi'-lo:=IntWalk.i64_in _ (by omega);have e2:IntKind.i64.wrap (hi'-lo+1)=hi'-lo+1:=IntWalk.i64_in _ (by omega);go_wp2_with fail
 go_loopw [68] (fun iv wr=>∃(j:Nat) (C':Nat->Prop),j<=T/\iv=.int .i64 j/\Hid (J (pre++(List.range j).flatMap fun(i:Nat)=>G (lo+(i:Int))) C' wr/\(∀b,C' b->C b\/W.heap.size<=b)/\Chg (fun b=>C b\/b=Z.rb\/b=F) W wr/\RowQ Z bs.length wr (p++[q]) m f)) (fun iv _=>T-(intOf iv).toNat)
 case atStart=>exact⟨0,C,Nat.zero_le _,rfl,zh ⟨by rw[List.range_zero,List.flatMap_nil,List.append_nil];exact HJ.out.keep _ _ _ _ nz.out (Chg.of_below jl.out),fun b h=>.inl h,Chg.of_below jl.out,HQ.out.chg (Chg.of_below (C:=fun _=>False) jl.out) id fun _ _=>id⟩⟩
 case round =>
  obtain⟨j,C',hjT,rfl,HI⟩:=hrel;by_cases hlt:j<T
  ·obtain⟨i1,i2,i3,i4⟩:=HI.out;have hDn:∀b,B b->¬ (C b\/b=Z.rb\/b=F):=fun b hb h=>by
    rcases h with h|rfl|rfl
    ·exact HS.out.b _ hb h
    ·exact HS.out.br hb
    ·have:=lH.out.2.2.2.2;subst this;exact HS.out.bf _ (Nat.lt_succ_self _) hb
   have hD2:=HD.out.chg i3 hDn;have hS2:=SepQ.grow (p:=p++[q]) (by rw[show(p++[q]).length=p.length+1 by simp];exact HS.out) HD.out HQ.out i2;obtain⟨us,hu,iI,hur⟩:=i4.row;obtain⟨vs,hv,hvs,hv3,hv4⟩:=i4.el p.length (by simp);obtain⟨g1,g2,g3,g4,g5⟩:=lH.out;rw[g4]at hvs;rw[g5]at hv;have x0:wr.cell? ⟨Z.lb,0,none⟩=some (.slice (some ⟨Z.rb,0,none⟩) n n):=by rw[<-g1];exact zc hD2.lists rfl
   have x1:wr.cell? ⟨Z.rb,c,none⟩=some (.slice (some ⟨F,0,none⟩) M M):=by have h:=hur p.length (by simp);rw[g4,g5]at h;rw[<-g2];exact zc hu h
   obtain⟨z,hz⟩:∃z,vs[i]?=some z:=⟨_,Array.getElem?_eq_getElem (by have:=xX.out;omega)⟩
   have x2:wr.cell? ⟨F,i,none⟩=some z:=zc hv hz;have cf:∀o,wr.frozen? ⟨F,o,none⟩=false:=fun o=>zf hv;obtain⟨r,hr⟩:=zX (lo+(j:Int));have hr0:0<=r/\r<=10000:=by omega
   have hwr:IntKind.i64.wrap (lo+(j:Int))=r:=by rw[hr];exact IntWalk.i64_in _ (by omega)
   obtain⟨x,hx⟩:=zX (unrk r);have jL:I64 x:=by rw[<-hx];exact zus hr0.1 (by omega)
   have HU:=zh (fun w'=>hx▸zrZ r w' (by omega));have hj1:(j:Int)<hi'-lo+1:=by omega
   have hi0:(0:Int)<=(i:Int):=by omega
   have hiM:(i:Int)<(M:Int):=by have:=xX.out;omega
   obtain⟨w5,eF,dH,lN⟩:=setU (o:=i) (.int .i64 x) hv;have hD5:=hD2.chg dH.drew fun b hb (e:b=F)=>by rw[<-g5]at e;rw[e]at hb;exact HS.out.bf _ (Nat.lt_succ_self _) hb
   have uN:RowQ Z bs.length w5.drew (p++[q++[x]]) m f:=i4.put (by rw[g3,g4];have:=xX.out;omega) jL (by rw[g5];exact dH.drew) (fun vs' h'=>by
    rw[g5]at h' ⊢;rw[g3];rw[hv]at h';injection h' with h';injection h' with h';subst h';exact lN)
   have wu:=HJ.out.keep _ _ _ _ i1 (dH.drew.mono fun b _ (e:b=F) hb=>by rw[<-g5]at e;rw[e]at hb;exact hS2.fc p.length (by simp) hb);have hin:(pre++(List.range j).flatMap fun(i:Nat)=>G (lo+(i:Int)))++G r <+: tot:=by
    refine List.IsPrefix.trans ?_ dU.out;rw[List.append_assoc,<-hr];exact(List.prefix_append_right_inj pre).2 (zn4 (F:=G) (g:=fun(i:Nat)=>lo+(i:Int)) hlt)
   have sI:G r=(numE h rs (zkW h rs) k (left-1-r)).map fun z=>stOf (p++hdA (q++[x]) z):=by rw[HG.out,<-hx]
   have hcall:=HN.out p (q++[x]) m f _ C' w5.drew (left-1-r) lV.out wQ.out wu hD5 uN (by rw[show(p++[q]).length=p.length+1 by simp]at hS2;exact hS2) HM.out wX.out (by rw[HMK.out,List.length_append];simp;omega) (by omega) (by rw[<-sI];exact hin);rw[<-sI]at hcall;have hlq:(q++[x]).length=i+1:=by rw[List.length_append,g3];rfl
   rw[hlq,g5,g2]at hcall;have nE:=zh hcall;have y0:w5.drew.cell? ⟨Z.nb,0,none⟩=some (.func (.func 113) #[] Z.cap2):=zc hD5.num rfl;have uC:IntKind.i64.wrap ((i:Int)+1)=((i+1:Nat):Int):=IntWalk.i64_in _ (by have:=xX.out;omega);have hwl0:IntKind.i64.wrap (left-1)=left-1:=IntWalk.i64_in _ (by omega);have hwl:IntKind.i64.wrap (left-1-lo)=left-1-lo:=IntWalk.i64_in _ (by omega);have hwl2:IntKind.i64.wrap (left-1-lo-(j:Int))=left-1-r:=by rw[show left-1-lo-(j:Int)=left-1-r by omega];exact IntWalk.i64_in _ (by omega)
   have uB:IntKind.i64.wrap ((j:Int)+1)=(j:Int)+1:=IntWalk.i64_in _ (by omega);have hstep:(List.range (j+1)).flatMap (fun(i:Nat)=>G (lo+(i:Int)))=((List.range j).flatMap fun(i:Nat)=>G (lo+(i:Int)))++G r:=by rw[List.range_succ,List.flatMap_append,<-hr];simp
   have HST:=zh hstep;have bH:=zh (show Chg (fun b=>C b\/b=Z.rb\/b=F) W w5.drew/\W.heap.size<=w5.drew.heap.size from⟨i3.trans2 dH.drew fun b _ e=>.inr (.inr e),Nat.le_trans i3.size dH.drew.size⟩);have HR:=zh hr;have HX:=zh hx;have HX64:=zh jL;have HD2:=zh hD2;have HS2:=zh hS2;have HVS:=zh (And.intro hv hvs);have ve:=zh dH;have HH5:=zh lN;clear i1 i2 i3 i4 hDn hD2 hS2 hu iI hur hv hvs hv3 hv4 g1 g2 g3 g4 g5 hz hr hx jL dH lN hD5 uN wu hin sI hcall hlq hstep;go_upto_region 9 with fail
   go_region_with (refine(HU.out _).mono ?_;rintro e w9 ⟨rfl,rfl⟩)
   all_goals
    clear x0 x1 x2 cf eF;go_wp2_with fail;refine nE.out.mono ?_;rintro e w6 (⟨rfl,C6,j6,c6,h6,q6⟩|⟨rfl,pre6,C6,j6,h6⟩)
    ·have dL:=zh (show J (pre++(List.range (j+1)).flatMap fun(i:Nat)=>G (lo+(i:Int))) C6 w6/\(∀b,C6 b->C b\/W.heap.size<=b)/\Chg (fun b=>C b\/b=Z.rb\/b=F) W w6/\RowQ Z bs.length w6 (p++[q]) m f from
      ⟨by rw[HST.out,<-List.append_assoc];exact j6,fun b hb=>(c6 b hb).elim (HI.out.2.1 b) fun h=>.inr (Nat.le_trans bH.out.2 h),bH.out.1.trans2 h6 fun b hb h=>h.elim (fun h=>(HI.out.2.1 b h).elim .inl fun h=>by omega) .inr,q6.pop (List.prefix_append _ _)⟩)
     clear j6 c6 h6 q6 y0;go_wp2_with fail
     go_roundw
     case rel=>exact⟨j+1,C6,by omega,by go_num,dL⟩
     case measure=>simp[intOf];omega
    ·have dL:=zh (show Jx pre6 C6 w6/\Chg (fun b=>C b\/b=Z.rb\/b=F) W w6 from⟨j6,bH.out.1.trans2 h6 fun b hb h=>h.elim (fun h=>(HI.out.2.1 b h).elim .inl fun h=>by omega) .inr⟩);clear j6 h6 y0;go_wp2_with fail;go_ret;exact .inr ⟨rfl,pre6,C6,dL.out.1,dL.out.2⟩
  ·obtain rfl:j=T:=by omega
   have hj1:¬ (j:Int)<hi'-lo+1:=by omega
   go_wp2_with fail;go_ret;obtain⟨i1,i2,i3,i4⟩:=HI.out;have:=lH.out.1;rw[this]at i4;exact .inl ⟨rfl,C',i1,i2,i3,i4⟩
end
end Go.Proofs.YtghbhbdnkjjnnaaGreat
