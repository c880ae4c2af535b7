/-
  Texts of the proof, put together without their remarks: En4, Rfv, En5, En6, En7, En8, Wsm, Wlp.
-/
import Derived.Test.YtghbhbdnkjjnnaaGreatN10
import Derived.Maps.OwnSet
import Derived.StringKeys
set_option linter.unusedSimpArgs false
set_option linter.unusedVariables false
set_option maxHeartbeats 8000000
set_option maxRecDepth 100000
namespace Go.Proofs.YtghbhbdnkjjnnaaGreat
open Go Go.RowKit
structure BX where
 v:Int
 l:Int
 i:Int
def okI (x:Int):Bool:=decide (0<=x/\x<=1000)
def BX.ok (b:BX):Bool:=okI b.v&&okI b.l&&okI b.i
def len1 (b:BX) (v:VD):Bn:=if v.k=3 then (0,b.l.toNat) else ((fixE v).toNat,(fixE v).toNat)
def lenE (vs:List VD) (b:BX):List Bn:=vs.map (len1 b)++[(0,b.i.toNat)]
def znl (bs:List Bn):List Value:=bs.flatMap fun b=>[.int .i64 (b.1:Int),.int .i64 (b.2:Int)]
theorem zpr:∀ (bs:List Bn) (i:Nat) (h:i<bs.length),(znl bs)[i*2]?=some (.int .i64 (bs[i].1:Int))/\(znl bs)[i*2+1]?=some (.int .i64 (bs[i].2:Int))
 | b::bs,0,_=>by simp[znl]
 | b::bs,i+1,h=>by
  have:=zpr bs i (by simpa using h);unfold znl at this ⊢;rw[List.flatMap_cons,show(i+1)*2=i*2+2 by omega,show i*2+2+1=i*2+1+2 by omega];simpa using this
theorem RowB.of_own {W:World} {n0 n c:Nat} {A:Option Addr} {bs:List Bn} (h:W.ownsRow n0 97 2 (.slice A n c) n (znl bs)) (hn:bs.length=n):RowB W (fun q=>n0<=q) A bs:=fun i hi=>by
 rcases h.2 with⟨e1,e2⟩|⟨g,cap,cur,e,hb,hg,-⟩
 ·omega
 ·injection e with e1 e2 e3;subst e1;obtain⟨h0,h1⟩:=zpr bs i hi;refine⟨_,rfl,hb,?_,?_⟩
  ·rw[Addr.add_lit,Nat.zero_add,World.ownsRow.cellAt h (i*2) (by omega)];exact h0
  ·rw[Addr.add_lit,Nat.zero_add,World.ownsRow.cellAt h (i*2+1) (by omega)];exact h1
theorem bB1 (x y:Int) (w:World):(Instr.buildSlice 93 1 #[(0,.agg #[.int .i64 x,.int .i64 y])]).run Tryz.prog w=.ok (.slice (some ⟨w.heap.size,0,none⟩) 1 1) (w.alloc (.cells #[.int .i64 x,.int .i64 y] 97)):=by kernel_rfl
theorem zlG {ops:Array Oper} {rest:List Oper} {o:Oper} {a:Act} {W:World} {Q:Exit->Act->World->Prop} (hgd:o.guard=none) (s x:Operand)
  (ho:o.op=.call { callee:=.builtin .append,args := #[s,x],argTypes := #[93,93] }) (base:Nat) (v:Value) (n:Nat) (xs:List Value) (hs:a.eval s=v) (hrow:W.ownsRow base 97 2 v n xs)
  (b:Nat) (y0 y1:Int) (hx:a.eval x=.slice (some ⟨b,0,none⟩) 1 1) (hc:W.heap[b]?=some (.cells #[.int .i64 y0,.int .i64 y1] 97 (0,0))) (hl:n+1<=1000000) (hb:base<=W.heap.size)
  (h:∀ v' w',w'.ownsRow base 97 2 v' (n+1) (xs++[.int .i64 y0,.int .i64 y1])->W.grownBy w' v.ownBlock->wpList Tryz.prog ops Q rest (a.put o.dst v') w') :
  wpList Tryz.prog ops Q (o::rest) a W:=by
 obtain⟨i,hi,hz0,hz1,hz2⟩:=info_parts zsP;refine wpList_append_own_at (P:=Tryz.prog) _ hgd s x 93 ho base 97 i _ 2 16 Tryz.underlying93 hi hz0 hz1 hz2 rfl (by decide) v n xs hs hrow ⟨b,0,none⟩ 1 1 [.int .i64 y0,.int .i64 y1] hx (by simp) (fun j u hj=>?_) (fun u hu=>?_) (by unfold maxLen;omega) (by omega) hb (fun v' w' h1 h2 _ _=>h v' w' h1 h2)
 ·rw[Addr.add_lit,Nat.zero_add];exact zc hc (by simpa using hj)
 ·simp only[List.mem_cons,List.not_mem_nil,or_false] at hu;rcases hu with rfl|rfl<;>rfl
theorem znG {W0 W1 wr:World} {j c9:Nat} {A9:Option Addr} {y0 y1:Nat} {bs:List Bn} (hy:bs[j]?=some (y0,y1)) (h1:Below W1.heap.size W1 wr) (h0:Below W0.heap.size W0 wr) (hn:W0.heap.size<=W1.heap.size)
  (ho:wr.ownsRow W1.heap.size 97 2 (.slice A9 j c9) j (znl (bs.take j))) (v':Value) (w':World)
  (h:w'.ownsRow W1.heap.size 97 2 v' (j+1) (znl (bs.take j)++[.int .i64 (y0:Int),.int .i64 (y1:Int)])) (hg:(wr.alloc (.cells #[.int .i64 (y0:Int),.int .i64 (y1:Int)] 97)).grownBy w' (Value.slice A9 j c9).ownBlock) :
  ∃ A' c',v'=.slice A' (j+1) c'/\Hid (Below W0.heap.size W0 w')/\Hid (Below W1.heap.size W1 w')/\Hid (w'.ownsRow W1.heap.size 97 2 (.slice A' (j+1) c') (j+1) (znl (bs.take (j+1)))):=by
 obtain⟨A',c',rfl,-⟩:=zkg h;have hlt:=ho.lt;refine⟨A',c',rfl,zh ?_,zh ?_,zh ?_⟩
 ·have h2:=zkc h0 (.cells #[.int .i64 (y0:Int),.int .i64 (y1:Int)] 97);exact h2.trans ((Chg.row hg).below h2.size fun q e=>by have:=(hlt q e).1;omega)
 ·have h2:=zkc h1 (.cells #[.int .i64 (y0:Int),.int .i64 (y1:Int)] 97);exact h2.trans ((Chg.row hg).below h2.size fun q e=>(hlt q e).1)
 ·have e:znl (bs.take (j+1))=znl (bs.take j)++[.int .i64 (y0:Int),.int .i64 (y1:Int)]:=by
   rw[List.take_add_one,hy];simp[znl]
  rw[e];exact h
def LenP (vs:List VD) (b:BX) (w:World) (e:Ending) (w':World):Prop:=Below w.heap.size w w'/\(((b.ok&&svB vs)=false/\e=.returned (.tuple #[.slice none 0 0,.bool false]))\/((b.ok&&svB vs)=true/\∃ A c,e=.returned (.tuple #[.slice A (vs.length+1) c,.bool true])/\RowB w' (fun q=>w.heap.size<=q) A (lenE vs b)))
theorem znK (vs:List VD) (b:BX) (A:Option Addr) (c:Nat) (w:World) (hrow:RowV w Any A vs) (hl:vs.length<=LV):Calls Tryz.prog 45 #[.slice A vs.length c,.agg #[.int .i64 b.v,.int .i64 b.l,.int .i64 b.i]] w (LenP vs b w):=by
 obtain⟨bv,bl,bi⟩:=b;simp only;have hb1:=zkc (Below.refl w.heap.size w) (.cells #[.int .i64 bv,.int .i64 bl,.int .i64 bi] 27);have hk1:=heap_alloc_new w (.cells #[.int .i64 bv,.int .i64 bl,.int .i64 bi] 27);have ae:=zh hrow;have HSN:=zh (fun w' (hb:Below w.heap.size w w')=>zuZ vs A c w' (hrow.later hb) hl);clear hrow hl;go_enter Tryz.func45,Tryz.ntmps45;go_upto_region 1 with fail;obtain⟨w1,hw1⟩:∃ x,w.alloc (.cells #[.int .i64 bv,.int .i64 bl,.int .i64 bi] 27)=x:=⟨_,rfl⟩
 rw[hw1] at hb1 hk1 ⊢;obtain⟨x0,x1,x2⟩:=zkr hk1;have HB1:=zh hb1;have aB:=zh hk1;clear hw1 hb1 hk1;go_wp2_with fail
 go_loopw [20] (fun i wr=>∃ j:Nat,j<=3/\i=.int .i64 j/\wr=w1/\Hid (∀ k,k<j->okI ([bv,bl,bi].getD k 0)=true)) (fun i _=>3-(intOf i).toNat)
 case atStart=>exact⟨0,by omega,rfl,rfl,zh fun k hk=>by omega⟩
 case round =>
  obtain⟨j,hj,rfl,rfl,ko⟩:=hrel;by_cases hlt:j<3
  ·have key:∃ x,x=[bv,bl,bi].getD j 0:=⟨_,rfl⟩
   obtain⟨x,hx⟩:=key;have hj1:(j:Int)<3:=by omega
   have hj0:(0:Int)<=(j:Int):=by omega
   obtain⟨x,hx⟩:∃ x,[bv,bl,bi].getD j 0=x:=⟨_,rfl⟩
   have hix:(Instr.index 145 (.agg #[.int .i64 bv,.int .i64 bl,.int .i64 bi]) (.int .i64 (j:Int))).run Tryz.prog wr=.ok (.int .i64 x) wr:=by
    rw[<-hx];rcases j with _|_|_|j
    ·kernel_rfl
    ·kernel_rfl
    ·kernel_rfl
    ·omega
   have HX:=zh hx;clear hx;have hno:okI x=false->(BX.ok ⟨bv,bl,bi⟩&&svB vs)=false:=fun h=>by
    rw[<-HX.out] at h;unfold BX.ok;rcases j with _|_|_|j
    ·have h:okI bv=false:=h;simp[h]
    ·have h:okI bl=false:=h;simp[h]
    ·have h:okI bi=false:=h;simp[h]
    ·omega
   have bW:=zh hno;clear hno;by_cases h1:x<0
   ·have HF:=zh (bW.out (decide_eq_false (by omega)));go_wp2_with fail;go_ret2;exact⟨HB1.out,.inl ⟨HF.out,rfl⟩⟩
   ·by_cases h2:1000<x
    ·have HF:=zh (bW.out (decide_eq_false (by omega)));go_wp2_with fail;go_ret2;exact⟨HB1.out,.inl ⟨HF.out,rfl⟩⟩
    ·have HT:=zh (show okI x=true from decide_eq_true (by omega));go_wp2_with fail
     go_roundw
     case rel=>exact⟨j+1,by omega,by go_num,trivial,zh fun k hk=>by
      by_cases e:k=j
      ·subst e;rw[HX.out];exact HT.out
      ·exact ko.out k (by omega)⟩
     case measure=>simp[intOf];omega
  ·obtain rfl:j=3:=by omega
   have yG:=zh (show BX.ok ⟨bv,bl,bi⟩=true by
    have h0:okI bv=true:=ko.out 0 (by omega);have h1:okI bl=true:=ko.out 1 (by omega);have h2:okI bi=true:=ko.out 2 (by omega);simp[BX.ok,h0,h1,h2])
   clear ko;go_wp2_with fail;refine(HSN.out _ HB1.out).mono ?_;rintro e w2 ⟨hb2,v,er,rfl,hs0,hs1⟩;have HB2:=zh (zka HB1.out hb2);have aK:=zh (zkb aB.out hb2);obtain⟨sv,hsv⟩:∃ x,svB vs=x:=⟨_,rfl⟩
   have nW:=zh hsv;rw[hsv] at hs0 hs1;clear hsv hb2
   cases sv
   ·obtain⟨rfl,rfl⟩:=hs0 rfl;have HF:=zh (show(BX.ok ⟨bv,bl,bi⟩&&svB vs)=false by rw[nW.out];simp);clear hs0 hs1 x0 x1 x2;go_wp2_with fail;go_ret2;exact⟨zkc HB2.out _,.inl ⟨HF.out,rfl⟩⟩
   ·obtain⟨rfl,hos⟩:=hs1 rfl;have HT:=zh (show(BX.ok ⟨bv,bl,bi⟩&&svB vs)=true by rw[nW.out,yG.out];rfl);have hsv2:=hos.svR (zSLim vs nW.out);obtain⟨A2,c2,B2,d2,D2,e2,rfl,hr2,-⟩:=hsv2;clear hs0 hs1 x0 x1 x2;obtain⟨nv,mM⟩:∃ x,vs.length=x:=⟨_,rfl⟩
    have hzn:(zS vs).cells.length=nv:=by rw[<-mM];simp[zS]
    have nA:=nW.out;simp only[svB,Bool.and_eq_true,decide_eq_true_eq,List.all_eq_true] at nA;have xU:=zh nA;have hn32:nv<=32:=by rw[<-mM];exact nA.1
    rw[hzn] at hos ⊢;have mZ:=zh mM;have hb3:=zkc HB2.out (.cells #[.slice A2 nv c2,.slice B2 (zS vs).tin.length d2,.slice D2 (zS vs).tout.length e2] 34);obtain⟨w3,hw3⟩:∃ x,w2.alloc (.cells #[.slice A2 nv c2,.slice B2 (zS vs).tin.length d2,.slice D2 (zS vs).tout.length e2] 34)=x:=⟨_,rfl⟩
    have qJ:Below w2.heap.size w2 w3:=by rw[<-hw3];exact zkc (Below.refl _ _) _
    have hk3:=heap_alloc_new w2 (.cells #[.slice A2 nv c2,.slice B2 (zS vs).tin.length d2,.slice D2 (zS vs).tout.length e2] 34);rw[hw3] at hb3 hk3;have x3:w3.cell? ⟨w2.heap.size,0,none⟩=some (.slice A2 nv c2):=zc hk3 rfl;have HB3:=zh hb3;have HR3:=zh ((hr2.keep (S':=Any) (fun _ _ _=>trivial) fun _ _ _=>rfl).later qJ);have fw:=zh (zkb aK.out qJ);clear hb3 qJ hk3 hr2 hos mM nA hzn HSN;rw[mZ.out];go_wp2_with fail;clear hw3 x3
    go_loopw [40,10] (fun i lv wr=>∃ j:Nat,j<=nv/\i=.int .i64 j/\∃ A9 c9,lv=.slice A9 j c9/\Hid (Below w.heap.size w wr)/\Hid (Below w3.heap.size w3 wr)/\Hid (wr.ownsRow w3.heap.size 97 2 (.slice A9 j c9) j (znl ((lenE vs ⟨bv,bl,bi⟩).take j)))) (fun i _ _=>nv-(intOf i).toNat)
    case atStart=>exact⟨0,Nat.zero_le _,rfl,none,0,rfl,HB3,zh (Below.refl _ _),zh ⟨rfl,.inl ⟨rfl,rfl⟩⟩⟩
    case round =>
     obtain⟨j,hj,rfl,A9,c9,rfl,af,kF,rC⟩:=hrel;have hkb:=zkb fw.out kF.out;obtain⟨x0,x1,x2⟩:=zkr hkb;by_cases hlt:j<nv
     ·have hj1:(j:Int)<(nv:Int):=by omega
      have hj0:(0:Int)<=(j:Int):=by omega
      obtain⟨a,v,rfl,-,Hv,⟨p0,p1,p2⟩,hf⟩:=(ae.out.later af.out).nd (show j<vs.length by rw[mZ.out];exact hlt);obtain⟨a2,q,A3,c3,rfl,Hq,hcq,-,-⟩:=(HR3.out.later kF.out).nd (i:=j) (by simp[zS];rw[mZ.out];exact hlt);have hle:(lenE vs ⟨bv,bl,bi⟩)[j]?=some (len1 ⟨bv,bl,bi⟩ v):=by
       have h9:j<vs.length:=by rw[mZ.out];exact hlt
       simp only[lenE];rw[List.getElem?_append_left (by simpa using h9),List.getElem?_map,List.getElem?_eq_getElem h9,Hv.out];rfl
      have lg:q.length=(fixE v).toNat:=by rw[<-Hq.out,<-Hv.out];simp[zS]
      have HQL:=zh lg;have iK:=zh hle;have bL:w.heap.size<=w3.heap.size:=HB3.out.size;have hl4:j+1<=1000000:=by omega
      have hwi:IntKind.i64.wrap ((j:Int)+1)=(j:Int)+1:=IntWalk.i64_in _ (by omega);obtain⟨s9,k9,n9⟩:=v;simp only at p0 p1 p2;clear lg hle hf;by_cases h3:k9=3
      ·obtain⟨L,rfl⟩:∃ L:Nat,bl=(L:Int):=⟨bl.toNat,by
        have:=yG.out;simp only[BX.ok,okI,Bool.and_eq_true,decide_eq_true_eq] at this;omega⟩
       have hrow:=zkI rC.out (zkc (Below.refl wr.heap.size wr) (.cells #[.int .i64 0,.int .i64 (L:Int)] 97));have hk4:=heap_alloc_new wr (.cells #[.int .i64 0,.int .i64 (L:Int)] 97);have HX:=zh (znG (y0:=0) (y1:=L) (by rw[iK.out];simp[len1,h3]) kF.out af.out bL rC.out);have hbb:=bB1 0 (L:Int) wr;have hs4:w3.heap.size<=(wr.alloc (.cells #[.int .i64 0,.int .i64 (L:Int)] 97)).heap.size:=by have:=kF.out.size;simp;omega
       subst h3;go_wp2_with (at_builtin;refine zlG rfl (.tmp 51) (.tmp 55) rfl w3.heap.size (.slice A9 j c9) j _ rfl hrow wr.heap.size _ _ rfl hk4 hl4 hs4 ?_;intro v' w' ho hg;obtain⟨A',c',rfl,av,lW,fQ⟩:=HX.out _ _ ho hg;clear ho hg)
       go_roundw
       case rel=>exact⟨j+1,by omega,by go_num,A',c',rfl,av,lW,fQ⟩
       case measure=>simp[intOf];omega
      ·have e3:(k9==3)=false:=by simpa using h3
       obtain⟨L,hL⟩:∃ L:Nat,(fixE ⟨s9,k9,n9⟩).toNat=L:=⟨_,rfl⟩
       have xm:=HQL.out;rw[hL] at xm;rw[xm] at hcq;have hrow:=zkI rC.out (zkc (Below.refl wr.heap.size wr) (.cells #[.int .i64 (L:Int),.int .i64 (L:Int)] 97));have hk4:=heap_alloc_new wr (.cells #[.int .i64 (L:Int),.int .i64 (L:Int)] 97);have HX:=zh (znG (y0:=L) (y1:=L) (by rw[iK.out];simp[len1,h3,hL]) kF.out af.out bL rC.out);have hbb:=bB1 (L:Int) (L:Int) wr;have hs4:w3.heap.size<=(wr.alloc (.cells #[.int .i64 (L:Int),.int .i64 (L:Int)] 97)).heap.size:=by have:=kF.out.size;simp;omega
       clear hL xm h3;go_wp2_with (at_builtin;refine zlG rfl (.tmp 57) (.tmp 63) rfl w3.heap.size (.slice A9 j c9) j _ rfl hrow wr.heap.size _ _ rfl hk4 hl4 hs4 ?_;intro v' w' ho hg;obtain⟨A',c',rfl,av,lW,fQ⟩:=HX.out _ _ ho hg;clear ho hg)
       go_roundw
       case rel=>exact⟨j+1,by omega,by go_num,A',c',rfl,av,lW,fQ⟩
       case measure=>simp[intOf];omega
     ·obtain rfl:j=nv:=by omega
      have hj1:¬ (j:Int)<(j:Int):=by omega
      obtain⟨L,rfl⟩:∃ L:Nat,bi=(L:Int):=⟨bi.toNat,by
       have:=yG.out;simp only[BX.ok,okI,Bool.and_eq_true,decide_eq_true_eq] at this;omega⟩
      have hrow:=zkI rC.out (zkc (Below.refl wr.heap.size wr) (.cells #[.int .i64 0,.int .i64 (L:Int)] 97));have hk4:=heap_alloc_new wr (.cells #[.int .i64 0,.int .i64 (L:Int)] 97);have HX:=zh (znG (y0:=0) (y1:=L) (by simp only[lenE];rw[List.getElem?_append_right (by simp[mZ.out])];simp[mZ.out]) kF.out af.out (show w.heap.size<=w3.heap.size from HB3.out.size) rC.out);have hbb:=bB1 0 (L:Int) wr;have hl4:j+1<=1000000:=by omega
      have hs4:w3.heap.size<=(wr.alloc (.cells #[.int .i64 0,.int .i64 (L:Int)] 97)).heap.size:=by have:=kF.out.size;simp;omega
      go_wp2_with (at_builtin;refine zlG rfl (.tmp 66) (.tmp 70) rfl w3.heap.size (.slice A9 j c9) j _ rfl hrow wr.heap.size _ _ rfl hk4 hl4 hs4 ?_;intro v' w' ho hg;obtain⟨A',c',rfl,av,lW,fQ⟩:=HX.out _ _ ho hg;clear ho hg)
      go_ret2;refine⟨av.out,.inr ⟨HT.out,A',c',by rw[mZ.out];rfl,?_⟩⟩;have hlen:(lenE vs ⟨bv,bl,(L:Int)⟩).length=j+1:=by simp[lenE,mZ.out]
      have h5:=fQ.out;rw[List.take_of_length_le (by rw[hlen];exact Nat.le_refl _)] at h5;exact(RowB.of_own h5 hlen).keep (fun q h _=>Nat.le_trans HB3.out.size h) fun _ _ _=>rfl
def cntR (vs:List VD) (b:BX):Int×Int:=if (b.ok&&svB vs)=true then (if maxC<cntE (2*b.v+1) (lenE vs b) then (0,5) else (cntE (2*b.v+1) (lenE vs b),0)) else (0,1)
theorem zmq {vs:List VD} {b:BX} (h:(b.ok&&svB vs)=true):(lenE vs b).length=vs.length+1/\vs.length<=32/\(∀ q∈lenE vs b,q.1<=q.2/\q.1<=1000/\q.2<=1000)/\0<=b.v/\b.v<=1000:=by
 simp only[BX.ok,okI,svB,Bool.and_eq_true,decide_eq_true_eq,List.all_eq_true] at h;obtain⟨⟨⟨h1,h2⟩,h3⟩,h4,h5⟩:=h;refine⟨by simp[lenE],h4,fun q hq=>?_,h1.1,h1.2⟩;rcases List.mem_append.1 hq with hq|hq
 ·obtain⟨v,hv,rfl⟩:=List.mem_map.1 hq;have:=zoI (h5 v hv);unfold len1
  split
  ·exact⟨Nat.zero_le _,by omega,by omega⟩
  ·exact⟨Nat.le_refl _,by omega,by omega⟩
 ·obtain rfl:=List.mem_singleton.1 hq;exact⟨Nat.zero_le _,by omega,by omega⟩
theorem zpH (vs:List VD) (b:BX) (A:Option Addr) (c:Nat) (w:World) (hrow:RowV w Any A vs) (hl:vs.length<=LV):Calls Tryz.prog 21 #[.slice A vs.length c,.agg #[.int .i64 b.v,.int .i64 b.l,.int .i64 b.i]] w (NumE (cntR vs b) w):=by
 obtain⟨bv,bl,bi⟩:=b;simp only;have hb1:=zkc (Below.refl w.heap.size w) (.cells #[.int .i64 bv,.int .i64 bl,.int .i64 bi] 27);have hk1:=heap_alloc_new w (.cells #[.int .i64 bv,.int .i64 bl,.int .i64 bi] 27);have ve:=zh (fun w' (hb:Below w.heap.size w w')=>znK vs ⟨bv,bl,bi⟩ A c w' (hrow.later hb) hl);clear hrow hl;go_enter Tryz.func21,Tryz.ntmps21;go_upto_region 1 with fail;obtain⟨w1,hw1⟩:∃ x,w.alloc (.cells #[.int .i64 bv,.int .i64 bl,.int .i64 bi] 27)=x:=⟨_,rfl⟩
 rw[hw1] at hb1 hk1 ⊢;obtain⟨x0,x1,x2⟩:=zkr hk1;have HB1:=zh hb1;have aB:=zh hk1;clear hw1 hb1 hk1;go_wp2_with fail;refine(ve.out _ HB1.out).mono ?_;rintro e w2 ⟨hb2,⟨hok,rfl⟩|⟨hok,A2,c2,rfl,hrb⟩⟩
 ·have HF:=zh (show cntR vs ⟨bv,bl,bi⟩=(0,1) by unfold cntR;rw[hok];rfl);have HB2:=zh (zka HB1.out hb2);clear hok x0 x1 x2 hb2;go_wp2_with fail;go_ret2;rw[HF.out];exact⟨rfl,HB2.out⟩
 ·obtain⟨l1,l2,l3,l4,l5⟩:=zmq hok;simp only at l4 l5;have hR:cntR vs ⟨bv,bl,bi⟩=if maxC<cntE (2*bv+1) (lenE vs ⟨bv,bl,bi⟩) then (0,5) else (cntE (2*bv+1) (lenE vs ⟨bv,bl,bi⟩),0):=by unfold cntR;rw[hok];rfl
  obtain⟨bs,hbs⟩:∃ x,lenE vs ⟨bv,bl,bi⟩=x:=⟨_,rfl⟩
  rw[hbs] at l1 l3 hrb hR;rw[<-l1];obtain⟨n,hn⟩:∃ x,bs.length=x:=⟨_,rfl⟩
  rw[hn] at l1 ⊢;obtain⟨h,rfl⟩:∃ h:Nat,bv=(h:Int):=⟨bv.toNat,by omega⟩
  have HR:=zh hR;have dZ:=zh hrb;have vg:=zh l3;have HN:=zh hn;have HB2:=zh (zka HB1.out hb2);have HKB2:=zh (zkb aB.out hb2);have hn33:n<=33:=by omega
  have hh:h<=1000:=by omega
  have vM:IntKind.i64.wrap (2*(h:Int))=2*(h:Int):=IntWalk.i64_in _ (by omega);have hwp:IntKind.i64.wrap (2*(h:Int)+1)=2*(h:Int)+1:=IntWalk.i64_in _ (by omega);clear hR hrb hbs hn l1 l2 l3 l4 l5 hok x0 x1 x2 hb2 ve;go_wp2_with fail
  go_loopw [21,8] (fun i s wr=>∃ j:Nat,j<=n/\i=.int .i64 j/\s=.int .i64 (cntE (2*(h:Int)+1) (bs.take j))/\Hid (Below w2.heap.size w2 wr)) (fun i _ _=>n-(intOf i).toNat)
  case atStart=>exact⟨0,Nat.zero_le _,rfl,rfl,zh (Below.refl _ _)⟩
  case round =>
   obtain⟨j,hj,rfl,rfl,af⟩:=hrel;obtain⟨x0,x1,x2⟩:=zkr (zkb HKB2.out af.out);have qi:=zp7 (v:=2*h+1) (by omega) (by unfold maxC;omega) (bs.take j) 1 1 (fun q hq=>(vg.out q (List.mem_of_mem_take hq)).1) ⟨fun _=>Int.le_refl _,by decide,by decide⟩ (by decide);have hS:bs.foldl (fun s b=>prdE s (lcE b (2*(h:Int)+1))) 1=cntE (2*(h:Int)+1) bs:=rfl;obtain⟨S,hSS⟩:∃ x,cntE (2*(h:Int)+1) (bs.take j)=x:=⟨_,rfl⟩
   have hs1:1<=S/\S<=maxC+1:=by
    rw[<-hSS];exact⟨qi.2,qi.1.top⟩
   rw[hSS];clear qi hS;by_cases hlt:j<n
   ·have hj1:(j:Int)<(n:Int):=by omega
    have hj0:(0:Int)<=(j:Int):=by omega
    have hlb:j<bs.length:=by rw[HN.out];exact hlt
    obtain⟨a,rfl,-,p0,p1⟩:=(dZ.out.later af.out) j hlb;obtain⟨q1,q2,q3⟩:=vg.out bs[j] (List.getElem_mem hlb);have hstep:cntE (2*(h:Int)+1) (bs.take (j+1))=prdE S (lcE bs[j] (2*(h:Int)+1)):=by
     rw[List.take_succ_eq_append_getElem hlb,<-hSS];unfold cntE;rw[List.foldl_append];rfl
    have hlc:=zsh (v:=2*h+1) (by omega) (by unfold maxC;omega) q1;have iL:=zh (fun w'=>zoR bs[j] (2*h+1) w' (by omega) (by omega) (by omega));obtain⟨⟨lo,hi⟩,hq⟩:∃ x,bs[j]=x:=⟨_,rfl⟩
    rw[hq] at p0 p1 hstep hlc iL;simp only at p0 p1 iL;have HST:=zh hstep;obtain⟨M,hM⟩:∃ x,lcE (lo,hi) (2*(h:Int)+1)=x:=⟨_,rfl⟩
    have hcast:(((2*h+1:Nat):Int))=2*(h:Int)+1:=by omega
    rw[hcast,hM] at iL hlc;rw[hM] at HST;have dS:=zh (fun w'=>znD S M w' ⟨by omega,hs1.2⟩ ⟨hlc.2,hlc.1.top⟩);have hb4:=zkc (Below.refl wr.heap.size wr) (.cells #[.int .i64 (lo:Int),.int .i64 (hi:Int)] 97);have hk4:=heap_alloc_new wr (.cells #[.int .i64 (lo:Int),.int .i64 (hi:Int)] 97);obtain⟨w4,hw4⟩:∃ x,wr.alloc (.cells #[.int .i64 (lo:Int),.int .i64 (hi:Int)] 97)=x:=⟨_,rfl⟩
    rw[hw4] at hb4 hk4;have ak:=zh (zka af.out hb4);have y0:=zb hb4 x0;have z0:w4.cell? ⟨wr.heap.size,0,none⟩=some (.int .i64 (lo:Int)):=zc hk4 rfl;have z1:w4.cell? ⟨wr.heap.size,1,none⟩=some (.int .i64 (hi:Int)):=zc hk4 rfl;clear hstep hlc hM hq q1 q2 q3 hcast x0 x1 x2 hb4 hk4;go_wp2_with fail;refine(iL.out _).mono ?_;rintro e w5 ⟨rfl,hb5⟩;have av:=zh (zka ak.out hb5);clear hb5 y0 z0 z1 hw4;go_wp2_with fail;refine(dS.out _).mono ?_;rintro e w6 ⟨rfl,rfl⟩;go_wp2_with fail
    go_roundw
    case rel=>exact⟨j+1,by omega,by go_num,by rw[HST.out],av⟩
    case measure=>simp[intOf];omega
   ·obtain rfl:j=n:=by omega
    have hj1:¬ (j:Int)<(j:Int):=by omega
    have hfin:cntE (2*(h:Int)+1) bs=S:=by rw[<-hSS,List.take_of_length_le (by rw[HN.out];exact Nat.le_refl _)]
    have hR:=HR.out;rw[hfin] at hR;by_cases hbig:(1099511627776:Int)<S
    ·have HF:=zh (hR.trans (if_pos (show maxC<S from hbig)));clear hR hfin hSS;go_wp2_with fail;go_ret2;exact⟨by rw[HF.out];rfl,zka HB2.out af.out⟩
    ·have HF:=zh (hR.trans (if_neg (show ¬ maxC<S from hbig)));clear hR hfin hSS;go_wp2_with fail;go_ret2;exact⟨by rw[HF.out];rfl,zka HB2.out af.out⟩
def zw5 {α:Type} (Y:Nat->α->Array Value->Nat->World->Prop) (n:Nat) (P:Program) (gf:FuncId) (lb:Array Value) (xs:List α) (R:Nat->Prop) (W:World):Prop :=
 ∀ (l:Nat) (J Jx:List α->(Nat->Prop)->World->Prop) (C:Nat->Prop) (W1:World),l<W1.heap.size->(∀ b,C b->¬ R b)->Chg C W W1 ->
  (∀ pre C W W',J pre C W->Chg (fun b=>¬ C b) W W'->J pre C W')->(∀ pre C W,J pre C W->∀ b,C b->b<W.heap.size) ->
  (∀ pre x C W vs g,J pre C W->(∀ b,C b->b<g)->(pre++[x]) <+: xs->Y l x vs g W ->
   YieldAt (Fw none) (n-1) P l vs W fun e W' =>
    (e=.returned (.bool true)/\∃ C',J (pre++[x]) C' W'/\(∀ b,C' b->C b\/g<=b)/\Chg C W W') \/
    (e=.returned (.bool false)/\∃ C',Jx (pre++[x]) C' W'/\Chg C W W')) ->
  J [] C W1 ->
  CallsIn (Fw none) n P gf (#[.func (.yield l) #[] #[]]++lb) W1 fun e W'=>(∃ v,e=.returned v)/\((∃ C',J xs C' W'/\Chg C W1 W')\/(∃ pre C',Jx pre C' W'/\Chg C W1 W'))
def zwD {α:Type} (I Ix:List α->(Nat->Prop)->World->Prop) (pre:List α) (C:Nat->Prop) (g:Nat) (W:World):Exit->Act->World->Prop
 | .normal,_,W'=>∃ C',I pre C' W'/\(∀ b,C' b->C b\/g<=b)/\Chg C W W'
 | .ret,_,W'=>∃ C',Ix pre C' W'/\(∀ b,C' b->C b\/g<=b)/\Chg C W W'
 | _,_,_=>False
theorem zok {α:Type} {Y:Nat->α->Array Value->Nat->World->Prop} {n:Nat} {P:Program} {g:Operand} {ps:Array Tmp} {assign body:Code} {Q:Exit->Act->World->Prop} {a:Act} {w:World} {gf:FuncId} {lb:Array Value} {xs:List α} {R:Nat->Prop}
  (hg:a.eval g=.func (.func gf) #[] lb) (eg:∀ args w,(callFunc gf args).run P w=.ok (.enter gf args) w) (hseq:zw5 Y (n-1) P gf lb xs R w) (hps:∀ l x vs g W,Y l x vs g W->vs.size=ps.size/\l<g)
  (I Ix:List α->(Nat->Prop)->World->Prop) (C0:Nat->Prop) (hI:∀ pre C W W',I pre C W->Chg (fun b=>¬ C b) W W'->I pre C W') (hIx:∀ pre C W W',Ix pre C W->Chg (fun b=>¬ C b) W W'->Ix pre C W')
  (hIlt:∀ pre C W,I pre C W->∀ b,C b->b<W.heap.size) (hIxlt:∀ pre C W,Ix pre C W->∀ b,C b->b<W.heap.size) (hC:∀ b,C0 b->¬ R b) (hRlt:∀ b,R b->b<w.heap.size) (h0:I [] C0 w)
  (dO:∀ l pre x C W vs g,I pre C W->(∀ b,C b->b<g)->¬ C l->w.heap.size<l->l<W.heap.size->(pre++[x]) <+: xs->Y l x vs g W ->
   assign.wpIn (Fw (some l)) (n-1-1) P (Exit.then (fun a1 W1=>Chg C W W1/\∀ W2,Chg (· = l) W1 W2->body.wpIn (Fw (some l)) (n-1-1) P (zwD I Ix (pre++[x]) C g W2) a1 W2) (fun _ _ _=>False))
    { tmps:=(ps.zip vs).foldl (fun t (p,v)=>t.setIfInBounds p v) a.tmps,defers:=[] } W)
  (hdone:∀ D C W',D=w.heap.size->I xs C W'->Chg C0 w W'->W'.heap[D]?=some (.deferred (some []))->Q .normal { a with defers:={ target:=.collected D,args := #[] }::a.defers } W')
  (hstop:∀ D pre C W',D=w.heap.size->Ix pre C W'->Chg C0 w W'->W'.heap[D]?=some (.deferred (some []))->Code.ret.wpIn (Fw none) n P Q { a with defers:={ target:=.collected D,args := #[] }::a.defers } W') :
  (Code.rangeFunc g ps assign body).wpIn (Fw none) n P Q a w:=by
 refine wpIn_rangeFunc ?_;intro fn hfn;obtain⟨rec,hrec⟩:∃ rec:LoopState->Option Code->Loop,rec=fun st pe=>{ state:=st,pending:=pe,fn,tmps:=a.tmps,params:=ps,assign,body,defers:=w.heap.size }:=⟨_,rfl⟩
 obtain⟨W1,hW1⟩:∃ W1,(w.alloc (.deferred (some []))).alloc (.loop (rec .ready none))=W1:=⟨_,rfl⟩
 have hL1:W1.heap[w.heap.size+1]?=some (.loop (rec .ready none)):=by
  rw[<-hW1];have:=World.alloc_heap_new (w.alloc (.deferred (some []))) (.loop (rec .ready none));rwa[World.size_alloc] at this
 have hK1:W1.heap[w.heap.size]?=some (.deferred (some [])):=by
  rw[<-hW1];exact(Below.heap_alloc _ _ _ (by simp)).trans (World.alloc_heap_new w _)
 have hb1:Below w.heap.size w W1:=by rw[<-hW1];exact((Below.refl _ w).alloc (Nat.le_refl _) _).alloc (by simp) _
 have hI1:I [] C0 W1:=hI _ _ _ _ h0 (Chg.of_below hb1);have gZ:∀ b,C0 b->b<w.heap.size:=hIlt _ _ _ h0;refine⟨w.heap.size+1,[{ target:=.collected w.heap.size,args := #[] }],W1,{ target:=.fn (.func gf) lb,args := #[.func (.yield (w.heap.size+1)) #[] #[]] },W1,gf,
  #[.func (.yield (w.heap.size+1)) #[] #[]]++lb,W1,?_,?_,(fun _ _=>trivial),?_,(fun e=>by cases e),?_⟩
 ·rw[<-hW1,hrec];exact run_enterLoop_outer _ _ _ _ _
 ·simp only[resolve,hg];simp[go_sem]
 ·simp[invoke,go_sem,eg]
 ·refine(hseq (w.heap.size+1)
   (fun pre C' W=>∃ C,(∀ b,C' b↔C b\/b=w.heap.size+1\/b=w.heap.size)/\I pre C W/\¬ C (w.heap.size+1)/\¬ C w.heap.size/\(∀ b,C b->b<w.heap.size->C0 b)/\W.heap[w.heap.size+1]?=some (.loop (rec .ready none))/\W.heap[w.heap.size]?=some (.deferred (some [])))
   (fun pre C' W=>∃ C,Ix pre C W/\¬ C (w.heap.size+1)/\W.heap[w.heap.size+1]?=some (.loop (rec .done (some .ret)))/\W.heap[w.heap.size]?=some (.deferred (some [])))
   (fun b=>C0 b\/b=w.heap.size+1\/b=w.heap.size) W1 (Array.getElem?_eq_some_iff.1 hL1).1 ?_ (Chg.of_below hb1) ?_ ?_ ?_ ⟨C0,fun _=>Iff.rfl,hI1,(fun h=>by have:=gZ _ h;omega),(fun h=>by have:=gZ _ h;omega),(fun _ h _=>h),hL1,hK1⟩).mono ?_
  ·intro b hb hr;have:=hRlt b hr;rcases hb with hb|hb|hb
   ·exact hC b hb hr
   ·omega
   ·omega
  ·rintro pre C' W W' ⟨C,hC',hi,h1,h2,h3,hl,hk⟩ hch;refine⟨C,hC',hI _ _ _ _ hi (hch.mono fun b _ hb hc=>hb ((hC' b).2 (.inl hc))),h1,h2,h3,hch.keep hl (fun h=>h ((hC' _).2 (.inr (.inl rfl)))),hch.keep hk (fun h=>h ((hC' _).2 (.inr (.inr rfl))))⟩
  ·rintro pre C' W ⟨C,hC',hi,h1,h2,h3,hl,hk⟩ b hb;rcases(hC' b).1 hb with hb|rfl|rfl
   ·exact hIlt _ _ _ hi b hb
   ·exact(Array.getElem?_eq_some_iff.1 hl).1
   ·exact(Array.getElem?_eq_some_iff.1 hk).1
  ·rintro pre x C' W vs g ⟨C,hC',hi,h1,h2,h3,hl,hk⟩ mV hpre hpv;have sM:=(hps _ _ _ _ _ hpv).2;have hlt:w.heap.size+1<W.heap.size:=(Array.getElem?_eq_some_iff.1 hl).1;have hy:=run_yield (P:=P) (args:=vs) hl (by rw[hrec];exact(hps _ _ _ _ _ hpv).1);rw[hrec] at hy;refine⟨fn,_,assign,body,hy,roundIn_of_wpIn hfn (wpIn_mono (dO (w.heap.size+1) pre x C W vs g hi (fun b hb=>mV b ((hC' b).2 (.inl hb))) h1 (by omega) hlt hpre hpv) ?_)⟩;rintro e a1 Wa jR
   cases e with
   | normal =>
    obtain⟨lG,hbody⟩:=jR;have hl1:=lG.keep hl h1;have hk1:=lG.keep hk h2;have hlt1:w.heap.size+1<Wa.heap.size:=(Array.getElem?_eq_some_iff.1 hl1).1;refine⟨_,run_beginRound hl1 (by rw[hrec]),?_⟩;have hl2:(Wa.putObj (w.heap.size+1) (.loop { rec .ready none with state:=.busy })).heap[w.heap.size+1]?=some (.loop { rec .ready none with state:=.busy }):=World.putObj_heap_same hlt1;have hk2:(Wa.putObj (w.heap.size+1) (.loop { rec .ready none with state:=.busy })).heap[w.heap.size]?=some (.deferred (some [])):=(World.putObj_heap_other (by omega)).trans hk1;have hc2:Chg (fun b=>C b\/b=w.heap.size+1) W (Wa.putObj (w.heap.size+1) (.loop { rec .ready none with state:=.busy })) :=
     (lG.mono fun _ _ h=>.inl h).trans2 (Chg.putObj Wa (w.heap.size+1) _) (fun b _ h=>.inr h)
    refine wpIn_mono (hbody _ (Chg.putObj _ _ _)) ?_;have fin:∀ (jump:Option Code) (W3:World),Chg C (Wa.putObj (w.heap.size+1) (.loop { rec .ready none with state:=.busy })) W3 ->
      (Instr.endRound (w.heap.size+1) jump).run P W3=.ok (.bool jump.isNone) (W3.putObj (w.heap.size+1) (.loop (rec (if jump.isNone then .ready else .done) jump))) /\
      (W3.putObj (w.heap.size+1) (.loop (rec (if jump.isNone then .ready else .done) jump))).heap[w.heap.size+1]?=some (.loop (rec (if jump.isNone then .ready else .done) jump)) /\
      (W3.putObj (w.heap.size+1) (.loop (rec (if jump.isNone then .ready else .done) jump))).heap[w.heap.size]?=some (.deferred (some [])) /\
      Chg C' W (W3.putObj (w.heap.size+1) (.loop (rec (if jump.isNone then .ready else .done) jump))):=fun jump W3 hk3=>by
     have hl3:=hk3.keep hl2 h1;have:=run_endRound (P:=P) jump hl3;rw[hrec] at this ⊢;refine⟨this,World.putObj_heap_same (Array.getElem?_eq_some_iff.1 hl3).1,(World.putObj_heap_other (by omega)).trans (hk3.keep hk2 h2),?_⟩;have hA:Chg (fun b=>C b\/b=w.heap.size+1) W W3:=by
      have:=hc2;rw[hrec] at this hk3;exact this.trans2 hk3 (fun b _ h=>.inl h)
     exact(hA.trans2 (Chg.putObj W3 (w.heap.size+1) _) (fun b _ h=>.inr h)).mono fun b _ hb=>(hC' b).2 (by rcases hb with hb|hb;exact .inl hb;exact .inr (.inl hb))
    rintro e3 a3 W3 hp;have hsz:W.heap.size<=(Wa.putObj (w.heap.size+1) (.loop { rec .ready none with state:=.busy })).heap.size:=hc2.size
    cases e3 with
    | normal =>
     obtain⟨C3,hi3,jh,df⟩:=hp;have bZ:∀ b,C3 b->C b\/g<=b:=jh;obtain⟨hr,hl4,hk4,cZ⟩:=fin none W3 df;have bL:¬ C3 (w.heap.size+1):=fun h=>by rcases bZ _ h with h|h;exact h1 h;omega
     have eB:¬ C3 w.heap.size:=fun h=>by rcases bZ _ h with h|h;exact h2 h;omega
     refine⟨_,_,hr,.inl ⟨rfl,fun b=>C3 b\/b=w.heap.size+1\/b=w.heap.size,⟨C3,fun _=>Iff.rfl,hI _ _ _ _ hi3 ((Chg.putObj _ _ _).mono fun b _ hb hc=>bL (hb▸hc)),bL,eB,?_,hl4,hk4⟩,?_,cZ⟩⟩
     ·intro b hb hlt';rcases bZ b hb with hb|hb
      ·exact h3 b hb hlt'
      ·omega
     ·intro b hb;rcases hb with hb|hb
      ·rcases bZ b hb with hb|hb
       ·exact .inl ((hC' b).2 (.inl hb))
       ·exact .inr (by omega)
      ·exact .inl ((hC' b).2 (.inr hb))
    | ret =>
     obtain⟨C3,hi3,jh,df⟩:=hp;have bZ:∀ b,C3 b->C b\/g<=b:=jh;obtain⟨hr,hl4,hk4,cZ⟩:=fin (some .ret) W3 df;have bL:¬ C3 (w.heap.size+1):=fun h=>by rcases bZ _ h with h|h;exact h1 h;omega
     exact⟨_,_,hr,.inr ⟨rfl,fun _=>True,⟨C3,hIx _ _ _ _ hi3 ((Chg.putObj _ _ _).mono fun b _ hb hc=>bL (hb▸hc)),bL,hl4,hk4⟩,cZ⟩⟩
    | exit id=>exact hp.elim
    | goto t=>exact hp.elim
    | panic ch=>exact hp.elim
    | outgrown=>exact hp.elim
   | exit id=>exact jR.elim
   | goto t=>exact jR.elim
   | ret=>exact jR.elim
   | panic ch=>exact jR.elim
   | outgrown=>exact jR.elim
  ·rintro e W2 ⟨⟨v,rfl⟩,(⟨C',⟨C,hC',hi,h1,h2,h3,hl,hk⟩,hch⟩|⟨pre,C',⟨C,hi,h1,hl,hk⟩,hch⟩)⟩
   all_goals
    have hw2:Chg C0 w W2:=((Chg.of_below hb1).trans2 hch fun b hb hc=>by rcases hc with hc|hc|hc;exact hc;omega;omega)
    have hfin:∀ o,Chg C0 w (W2.putObj (w.heap.size+1) o):=fun o=>hw2.trans2 (Chg.putObj W2 (w.heap.size+1) o) fun b hb hc=>by omega
   ·exact⟨none,_,by have:=run_endLoop (P:=P) hl (by rw[hrec];simp);rw[hrec] at this;exact this,hdone _ C _ rfl (hI _ _ _ _ hi ((Chg.putObj W2 (w.heap.size+1) _).mono fun b _ (hb:b=w.heap.size+1) hc=>h1 (hb▸hc))) (hfin _) ((World.putObj_heap_other (by omega)).trans hk)⟩
   ·exact⟨some .ret,_,by have:=run_endLoop (P:=P) hl (by rw[hrec];simp);rw[hrec] at this;exact this,hstop _ pre C _ rfl (hIx _ _ _ _ hi ((Chg.putObj W2 (w.heap.size+1) _).mono fun b _ (hb:b=w.heap.size+1) hc=>h1 (hb▸hc))) (hfin _) ((World.putObj_heap_other (by omega)).trans hk)⟩
structure DK where
 l:Nat
 lb:Nat
 yb:Nat
 bb:Nat
 tb:Nat
 hb:Nat
 nb:Nat
 sb:Nat
 rb:Nat
 tr:Nat
 A:Option Addr
 c:Nat
 tc:Nat
abbrev ptr0 (b:Nat):Value:=.pointer (some ⟨b,0,none⟩)
abbrev DK.cap1 (Z:DK):Array Value := #[ptr0 Z.lb,ptr0 Z.yb,ptr0 Z.bb,ptr0 Z.tb,ptr0 Z.hb,ptr0 Z.nb]
abbrev DK.cap2 (Z:DK):Array Value := #[ptr0 Z.lb,ptr0 Z.sb,ptr0 Z.hb,ptr0 Z.tb,ptr0 Z.nb]
structure DW (Z:DK) (bs:List Bn) (h:Nat) (B:Nat->Prop) (W:World):Prop where
 lists:W.heap[Z.lb]?=some (.cells #[.slice (some ⟨Z.rb,0,none⟩) bs.length bs.length] 31 (0,0))
 yld:W.heap[Z.yb]?=some (.cells #[.func (.yield Z.l) #[] #[]] 135 (0,0))
 ls:W.heap[Z.bb]?=some (.cells #[.slice Z.A bs.length Z.c] 93 (0,0))
 rest:W.heap[Z.tb]?=some (.cells #[.slice (some ⟨Z.tr,0,none⟩) (bs.length+1) Z.tc] 93 (0,0))
 hv:W.heap[Z.hb]?=some (.cells #[.int .i64 (h:Int)] 3 (0,0))
 num:W.heap[Z.nb]?=some (.cells #[.func (.func 113) #[] Z.cap2] 176 (0,0))
 slf:W.heap[Z.sb]?=some (.cells #[.func (.func 112) #[] Z.cap1] 175 (0,0))
 row:RowB W B Z.A bs
 rst:zpF W Z.tr h bs
 kb:B Z.lb/\B Z.yb/\B Z.bb/\B Z.tb/\B Z.hb/\B Z.nb/\B Z.sb/\B Z.tr
 lt:∀ b,B b->b<W.heap.size
theorem DW.chg {Z:DK} {bs:List Bn} {h:Nat} {B D:Nat->Prop} {W W':World} (hd:DW Z bs h B W) (hc:Chg D W W') (hD:∀ b,B b->¬ D b):DW Z bs h B W':=by
 obtain⟨h1,h2,h3,h4,h5,h6,h7,h8,h9,hk,hl⟩:=hd;obtain⟨k1,k2,k3,k4,k5,k6,k7,k8⟩:=hk;exact⟨hc.keep h1 (hD _ k1),hc.keep h2 (hD _ k2),hc.keep h3 (hD _ k3),hc.keep h4 (hD _ k4),hc.keep h5 (hD _ k5),hc.keep h6 (hD _ k6),hc.keep h7 (hD _ k7),h8.keep (fun _ h _=>h) fun b hb hlt=>hc.block b hlt (hD b hb),h9.keep (hc.block _ (hl _ k8) (hD _ k8)),⟨k1,k2,k3,k4,k5,k6,k7,k8⟩,fun b hb=>Nat.lt_of_lt_of_le (hl b hb) hc.size⟩
structure RowQ (Z:DK) (n:Nat) (W:World) (p:List (List Int)) (m f:Nat->Nat):Prop where
 row:∃ us:Array Value,W.heap[Z.rb]?=some (.cells us 32 (0,0))/\us.size=n/\∀ j,j<p.length->us[j]?=some (.slice (some ⟨f j,0,none⟩) (m j) (m j))
 el:∀ j (hj:j<p.length),∃ vs:Array Value,W.heap[f j]?=some (.cells vs 3 (0,0))/\vs.size=m j/\p[j].length<=m j/\∀ i (hi:i<p[j].length),vs[i]?=some (.int .i64 p[j][i])
 ne:∀ j,j<p.length->f j≠Z.rb
 inj:∀ i j,i<p.length->j<p.length->f i=f j->i=j
 fits:∀ x∈p,∀ e∈x,I64 e
theorem RowQ.lt {Z:DK} {n:Nat} {W:World} {p:List (List Int)} {m f:Nat->Nat} (h:RowQ Z n W p m f):Z.rb<W.heap.size/\∀ j,j<p.length->f j<W.heap.size:=by
 obtain⟨us,hu,-⟩:=h.row;exact⟨zkj hu,fun j hj=>by obtain⟨vs,hv,-⟩:=h.el j hj;exact zkj hv⟩
theorem RowQ.chg {Z:DK} {n:Nat} {W W':World} {p:List (List Int)} {m f:Nat->Nat} {D:Nat->Prop} (h:RowQ Z n W p m f) (hc:Chg D W W') (h1:¬ D Z.rb) (h2:∀ j,j<p.length->¬ D (f j)):RowQ Z n W' p m f:=by
 obtain⟨us,hu,hs,hr⟩:=h.row;refine⟨⟨us,hc.keep hu h1,hs,hr⟩,fun j hj=>?_,h.ne,h.inj,h.fits⟩;obtain⟨vs,hv,h3⟩:=h.el j hj;exact⟨vs,hc.keep hv (h2 j hj),h3⟩
structure SepQ (Z:DK) (B:Nat->Prop) (n:Nat) (f:Nat->Nat) (C:Nat->Prop):Prop where
 b:∀ q,B q->¬ C q
 r:¬ C Z.rb
 fc:∀ j,j<n->¬ C (f j)
 br:¬ B Z.rb
 bf:∀ j,j<n->¬ B (f j)
theorem SepQ.grow {Z:DK} {bs:List Bn} {h:Nat} {B C C':Nat->Prop} {W:World} {p:List (List Int)} {m f:Nat->Nat} (hs:SepQ Z B p.length f C) (hd:DW Z bs h B W) (hq:RowQ Z bs.length W p m f) (hC:∀ b,C' b->C b\/W.heap.size<=b):SepQ Z B p.length f C' :=
 ⟨fun q hq' h=>(hC q h).elim (hs.b q hq') fun h=>by have:=hd.lt q hq';omega,fun h=>(hC _ h).elim hs.r fun h=>by have:=hq.lt.1;omega,fun j hj h=>(hC _ h).elim (hs.fc j hj) fun h=>by have:=hq.lt.2 j hj;omega,hs.br,hs.bf⟩
def stOf (x:List (List Int)):SS:=⟨x.dropLast,x.getLastD [],[]⟩
def zrm (J Jx:List SS->(Nat->Prop)->World->Prop) (Z:DK) (n:Nat) (D:Nat->Prop) (pre xs:List SS) (p:List (List Int)) (m f:Nat->Nat) (C:Nat->Prop) (W:World) (e:Ending) (W':World):Prop :=
 (e=.returned (.bool true)/\∃ C',J (pre++xs) C' W'/\(∀ b,C' b->C b\/W.heap.size<=b)/\Chg (fun b=>C b\/D b) W W'/\RowQ Z n W' p m f) \/
 (e=.returned (.bool false)/\∃ pre' C',Jx pre' C' W'/\Chg (fun b=>C b\/D b) W W')
def YS (l:Nat) (s:SS) (vs:Array Value) (g:Nat) (W:World):Prop:=∃ v,vs = #[v]/\SV W (fun q=>g<=q) s v/\l<g/\g<=W.heap.size
structure DB (bs:List Bn) (h:Nat):Prop where
 n:bs.length<=100
 b:∀ b∈bs,b.1<=1000/\b.2<=1000
 hm:h<=10000
 h1:1<=h
 ne:1<=bs.length
theorem zpn {p:List (List Int)} {n:Nat} (hn:p.length=n) (h1:1<=n):p.getLastD []=p[n-1]:=by
 have hne:p≠[]:=by rintro rfl;simp at hn;omega
 subst hn;rw[<-List.getLast_eq_getElem hne]
 cases p with
 | nil=>exact(hne rfl).elim
 | cons a p=>rfl
theorem RowQ.sv {Z:DK} {n:Nat} {W:World} {p:List (List Int)} {m f:Nat->Nat} (h:RowQ Z n W p m f) (hn:p.length=n) (h1:1<=n) (hn2:n<=100) (hf:∀ j (hj:j<p.length),m j=p[j].length) (hm:∀ j,j<p.length->m j<=1000) :
  SV W Any (stOf p) (.agg #[.slice (some ⟨Z.rb,0,none⟩) (n-1) n,.slice (some ⟨f (n-1),0,none⟩) (m (n-1)) (m (n-1)),.slice none 0 0]):=by
 obtain⟨us,hu,gM,hr⟩:=h.row;have hrow:∀ j (hj:j<p.length),RowI W Any (some ⟨f j,0,none⟩) p[j]:=fun j hj i hi=>by
  obtain⟨vs,hv,h3,h4,h5⟩:=h.el j hj;refine⟨_,rfl,trivial,?_,h.fits _ (List.getElem_mem hj) _ (List.getElem_mem hi)⟩;rw[Addr.add_lit,Nat.zero_add];exact zc hv (h5 i hi)
 have hcl:(stOf p).cells.length=n-1:=by simp[stOf,hn]
 have htl:(stOf p).tin=p[n-1]:=zpn hn h1;have hti:(stOf p).tin.length=m (n-1):=by rw[htl,hf (n-1) (by omega)]
 have hcg:∀ i (hi:i<(stOf p).cells.length),(stOf p).cells[i]=p[i]'(by rw[hcl] at hi;omega):=fun i hi=>by simp[stOf]
 refine⟨some ⟨Z.rb,0,none⟩,n,some ⟨f (n-1),0,none⟩,m (n-1),none,0,by rw[hcl,hti];rfl,fun i hi=>?_,?_,fun i hi=>absurd hi (Nat.not_lt_zero i),by rw[hcl];omega,by rw[hti];exact Nat.le_refl _,Nat.le_refl _,?_⟩
 ·have sN:i<p.length:=by rw[hcl] at hi;omega
  have hl:(stOf p).cells[i].length=m i:=by rw[hcg i hi,hf i sN]
  refine⟨⟨Z.rb,0,none⟩,some ⟨f i,0,none⟩,m i,rfl,trivial,?_,by rw[hl];exact Nat.le_refl _,?_⟩
  ·rw[Addr.add_lit,Nat.zero_add,hl];exact zc hu (hr i sN)
  ·rw[hcg i hi];exact hrow i sN
 ·rw[htl];exact hrow (n-1) (by omega)
 ·refine⟨by rw[hcl];unfold LI;omega,fun l hl=>?_,by rw[hti];have:=hm (n-1) (by omega);unfold LI;omega,Nat.zero_le _⟩;obtain⟨i,hi,rfl⟩:=List.mem_iff_getElem.1 hl;have sN:i<p.length:=by rw[hcl] at hi;omega
  rw[hcg i hi,<-hf i sN];have:=hm i sN;unfold LI;omega
def zu3 (J Jx:List SS->(Nat->Prop)->World->Prop) (Z:DK) (bs:List Bn) (h:Nat) (B:Nat->Prop) (tot:List SS) (rs:List Bn):Prop :=
 ∀ (p:List (List Int)) (m f:Nat->Nat) (pre:List SS) (C:Nat->Prop) (W:World) (left:Int),bs.drop p.length=rs->p.length<=bs.length->J pre C W->DW Z bs h B W->RowQ Z bs.length W p m f->SepQ Z B p.length f C ->
  (∀ j (hj:j<p.length),m j=p[j].length)->(∀ j,j<p.length->m j<=1000)->(0<=left/\left<=100000000000)->(pre++(zkW h rs left).map fun ls=>stOf (p++ls)) <+: tot ->
  Calls Tryz.prog 112 (#[.int .i64 (p.length:Int),.int .i64 left]++Z.cap1) W (zrm J Jx Z bs.length (fun b=>b=Z.rb) pre ((zkW h rs left).map fun ls=>stOf (p++ls)) p m f C W)
def hdA (q:List Int):List (List Int)->List (List Int)
 | []=>[]
 | l::ls=>(q++l)::ls
def NumC (J Jx:List SS->(Nat->Prop)->World->Prop) (Z:DK) (bs:List Bn) (h:Nat) (B:Nat->Prop) (tot:List SS) (rs:List Bn) (k:Nat):Prop :=
 ∀ (p:List (List Int)) (q:List Int) (m f:Nat->Nat) (pre:List SS) (C:Nat->Prop) (W:World) (left:Int),bs.drop (p.length+1)=rs->p.length+1<=bs.length->J pre C W->DW Z bs h B W->RowQ Z bs.length W (p++[q]) m f->SepQ Z B (p.length+1) f C ->
  (∀ j (hj:j<p.length),m j=p[j].length)->(∀ j,j<p.length+1->m j<=1000)->m p.length=q.length+k->(0<=left/\left<=100000000000)->(pre++(numE h rs (zkW h rs) k left).map fun z=>stOf (p++hdA q z)) <+: tot ->
  Calls Tryz.prog 113 (#[.int .i64 (p.length:Int),.int .i64 (q.length:Int),.int .i64 left]++Z.cap2) W (zrm J Jx Z bs.length (fun b=>b=Z.rb\/b=f p.length) pre ((numE h rs (zkW h rs) k left).map fun z=>stOf (p++hdA q z)) (p++[q]) m f C W)
structure JC (J Jx:List SS->(Nat->Prop)->World->Prop) (n l:Nat) (tot:List SS):Prop where
 keep:∀ pre C W W',J pre C W->Chg (fun b=>¬ C b) W W'->J pre C W'
 lt:∀ pre C W,J pre C W->∀ b,C b->b<W.heap.size
 y:∀ pre x C W vs g,J pre C W->(∀ b,C b->b<g)->(pre++[x]) <+: tot->YS l x vs g W->YieldAt (Fw none) (n-1) Tryz.prog l vs W fun e W' =>
    (e=.returned (.bool true)/\∃ C',J (pre++[x]) C' W'/\(∀ b,C' b->C b\/g<=b)/\Chg C W W') \/
    (e=.returned (.bool false)/\∃ C',Jx (pre++[x]) C' W'/\Chg C W W')
theorem zrc:IsFn Tryz.prog 23 Tryz.f23:=⟨Tryz.func23,by kernel_rfl,by kernel_rfl⟩
theorem bSt2 (A B:Option Addr) (m d n e:Nat) (w:World):(Instr.build 34 #[(0,.slice A m d),(1,.slice B n e)]).run Tryz.prog w=.ok (.agg #[.slice A m d,.slice B n e,.slice none 0 0]) w:=by kernel_rfl
theorem zt2 {J Jx:List SS->(Nat->Prop)->World->Prop} {Z:DK} {bs:List Bn} {h nf:Nat} {B:Nat->Prop} {tot:List SS} (hj:JC J Jx nf Z.l tot) (hb:DB bs h) (hl:∀ W,DW Z bs h B W->Z.l<W.heap.size):zu3 J Jx Z bs h B tot []:=by
 intro p m f pre C W left hrs hpl hJ hD hQ hS hm hm2 hleft hpre;have hpn:p.length=bs.length:=by have:=congrArg List.length hrs;rw[List.length_drop] at this;simp at this;omega
 have hn1:=hb.ne;have hn2:=hb.n;obtain⟨n,hn⟩:∃ n,bs.length=n:=⟨_,rfl⟩
 have hx:(zkW h [] left).map (fun ls=>stOf (p++ls))=[stOf p]:=by simp[zkW]
 rw[hx] at hpre ⊢;have hsv:=hQ.sv hpn hn1 hn2 hm hm2;obtain⟨us,hu,gM,hur⟩:=hQ.row;have x0:W.cell? ⟨Z.lb,0,none⟩=some (.slice (some ⟨Z.rb,0,none⟩) bs.length bs.length):=zc hD.lists rfl;have x1:W.cell? ⟨Z.yb,0,none⟩=some (.func (.yield Z.l) #[] #[]):=zc hD.yld rfl;have x2:W.cell? ⟨Z.rb,bs.length-1,none⟩=some (.slice (some ⟨f (bs.length-1),0,none⟩) (m (bs.length-1)) (m (bs.length-1))):=zc hu (hur _ (by omega));rw[hpn];rw[hn] at hpn hn1 hn2 x0 x2 hsv ⊢;have HJ:=zh hj;have mi:=zh hJ;have HD:=zh hD;have HQ:=zh hQ;have HS:=zh hS;have dE:=zh hpre;have nW:=zh hsv;have HN:=zh hn;have mf:=zh (show(stOf p).Lim from by obtain⟨_,_,_,_,_,_,_,_,_,_,_,_,_,h⟩:=hsv;exact h);have fU:=zh (hl W hD);have hwn:IntKind.i64.wrap ((n:Int)-1)=((n-1:Nat):Int):=by rw[show((n-1:Nat):Int)=(n:Int)-1 by omega];exact IntWalk.i64_in _ (by omega)
 clear hj hJ hD hQ hS hpre hsv hu hur hrs hm hm2 hleft hx hb hl hpl;obtain⟨F,hF⟩:∃ F,f (n-1)=F:=⟨_,rfl⟩
 obtain⟨M,hM⟩:∃ M,m (n-1)=M:=⟨_,rfl⟩
 rw[hF,hM] at x2 nW;go_enter Tryz.func112,Tryz.ntmps112;go_upto_region 2 with fail;have hp0:(0:Int)<=((n-1:Nat):Int):=by omega
 have hp1:((n-1:Nat):Int)<(n:Int):=by omega
 have hp2:((n-1:Nat):Int)<=(n:Int):=by omega
 go_quiet (fail)
 have hb2:=zkZ (Below.refl W.heap.size W) nq;obtain⟨w2,hw2⟩:∃ x,W.drewN nq=x:=⟨_,rfl⟩
 rw[hw2] at hb2;rw[hw2]
 replace x1:=zb hb2 x1
 have HB2:=zh hb2;clear hw2 hb2 x0 x2 hp0 hp1 hp2;go_upto_region 3 with fail;have hbs:=bSt2;have hSS:(fun w':World=>w'.cell? ⟨Z.yb,0,none⟩=some (.func (.yield Z.l) #[] #[])) w2.drew:=x1;refine wp_region_noPanic ?_;refine(wpIn_wide (n:=nf)).1 ?_;refine zl2 (ro:=none) (fun w':World=>w'.cell? ⟨Z.yb,0,none⟩=some (.func (.yield Z.l) #[] #[])) (by kernel_rfl) ?_;clear x1;refine zkF (i:=0) (v:=?_) rfl (by kernel_rfl) (by kernel_rfl) (by kernel_rfl) (by kernel_rfl) (fun _ _ _ h=>h) (Or.inl ⟨by rfl,?_⟩) hSS ?_;rotate_left 1
 ·(intro w hSw;(try dsimp only at hSw);(try simp only[zA,zB,zC]);go_simp;(try with_reducible rfl))
 (try simp only[zQ]);refine zkF (i:=1) (v:=?_) rfl (by kernel_rfl) (by kernel_rfl) (by kernel_rfl) (by kernel_rfl) (fun _ _ _ h=>h) (Or.inl ⟨by rfl,?_⟩) hSS ?_;rotate_left 1
 ·(intro w hSw;(try dsimp only at hSw);(try simp only[zA,zB,zC]);go_simp;(try with_reducible rfl))
 (try simp only[zQ]);refine zkF (i:=2) (v:=?_) rfl (by kernel_rfl) (by kernel_rfl) (by kernel_rfl) (by kernel_rfl) (fun _ _ _ h=>h) (Or.inl ⟨by rfl,?_⟩) hSS ?_;rotate_left 1
 ·(intro w hSw;(try dsimp only at hSw);(try simp only[zA,zB,zC]);go_simp;(try with_reducible rfl))
 (try simp only[zQ]);refine zkF (i:=3) (v:=?_) rfl (by kernel_rfl) (by kernel_rfl) (by kernel_rfl) (by kernel_rfl) (fun _ _ _ h=>h) (Or.inl ⟨by rfl,?_⟩) hSS ?_;rotate_left 1
 ·(intro w hSw;(try dsimp only at hSw);(try simp only[zA,zB,zC]);go_simp;(try with_reducible rfl))
 (try simp only[zQ]);have hcl:=zqT (stOf p) _ w2.drew ((nW.out.later HB2.out).later (Below.refl _ _).drew) (by simp only[stOf,List.length_dropLast];omega);have had:Calls Tryz.prog 23 [.agg #[.slice (some ⟨Z.rb,0,none⟩) (n-1) n,.slice (some ⟨F,0,none⟩) M M,.slice none 0 0]].toArray w2.drew fun e w'=>∃ u,e=.returned u/\(SV w' (fun q=>w2.heap.size<=q) (stOf p) u/\Below w2.heap.size w2 w') :=
  hcl.mono fun e w' ⟨v,h1,h2,h3⟩=>⟨v,h1,h2.svR mf.out,zka (Below.refl w2.heap.size w2).drew h3⟩
 refine zrz (i:=4) (by kernel_rfl) rfl (by kernel_rfl) (by rfl) (fun K hK=>?_);refine zke (by rfl) (.func 23) [.tmp 32] _ (by rfl) 23 _ zrc (by rfl) _ (by rfl) _ had ?_;rintro v3 w3 ⟨hs3,hb3⟩;have bG:(fun w':World=>w'.cell? ⟨Z.yb,0,none⟩=some (.func (.yield Z.l) #[] #[])) w3:=zb hb3 hSS;refine hK.out _ _ bG ?_;clear hK K had hcl hSS;(try simp only[zQ]);have xI:=zka HB2.out hb3;have mO:=HJ.out.keep _ _ _ _ mi.out (Chg.of_below xI);obtain⟨yfn,ytmps,yas,ybo,hyr,hyR⟩:=HJ.out.y pre (stOf p) C w3 #[v3] w2.heap.size mO (fun b hb=>Nat.lt_of_lt_of_le (HJ.out.lt _ _ _ mi.out b hb) HB2.out.size) dE.out ⟨v3,rfl,hs3,(by have:=fU.out;have:=HB2.out.size;omega),hb3.size⟩;refine zry (i:=5) (by kernel_rfl) rfl (by kernel_rfl) (by rfl) (l:=Z.l) (f:=yfn) (tmps:=ytmps) (assign:=yas) (body:=ybo) ?_ hyR ?_
 ·(try simp only[zA,zB,zC]);go_simp
 ·clear hyr hyR;have HB3:=zh xI;have HSZ:=zh (show W.heap.size<=w2.heap.size from HB2.out.size);rintro e W1 hR;have hy1:W1.heap[Z.yb]?=w3.heap[Z.yb]?:=by
   have hlt:=HD.out.lt _ HD.out.kb.2.1;have hnc:=HS.out.b _ HD.out.kb.2.1;rcases hR with⟨_,C1,_,_,hch⟩|⟨_,C1,_,hch⟩<;>exact hch.block _ (Nat.lt_of_lt_of_le hlt HB3.out.size) hnc
  have qN:(fun w':World=>w'.cell? ⟨Z.yb,0,none⟩=some (.func (.yield Z.l) #[] #[])) W1:=zkp bG hy1;have hfin:∃ b:Bool,e=.returned (.bool b)/\zrm J Jx Z n (fun b=>b=Z.rb) pre [stOf p] p m f C W (.returned (.bool b)) W1:=by
   have hch':Chg C w3 W1->Chg (fun b=>C b\/b=Z.rb) W W1:=fun h=>(Chg.of_below HB3.out).trans2 h fun b _ h=>.inl h;rcases hR with⟨rfl,C1,hj1,dw,hch⟩|⟨rfl,C1,hjx1,hch⟩
   ·refine⟨true,rfl,.inl ⟨rfl,C1,hj1,fun b h=>(dw b h).imp id fun h=>Nat.le_trans HSZ.out h,hch' hch,?_⟩⟩;have h3:=HQ.out.chg (D:=C) ((Chg.of_below HB3.out).trans2 hch fun b _ h=>h) HS.out.r HS.out.fc;have:=HN.out;rwa[this] at h3
   ·exact⟨false,rfl,.inr ⟨rfl,_,C1,hjx1,hch' hch⟩⟩
  obtain⟨b,rfl,hP⟩:=hfin;have HP:=zh hP;refine⟨_,rfl,qN,?_⟩;(try simp only[zQ]);refine zkF (i:=6) (v:=?_) rfl (by kernel_rfl) (by kernel_rfl) (by kernel_rfl) (by kernel_rfl) (fun _ _ _ h=>h) (Or.inl ⟨by rfl,?_⟩) qN ?_;rotate_left 1
  ·(intro w hSw;(try dsimp only at hSw);(try simp only[zA,zB,zC]);go_simp;(try with_reducible rfl))
  (try simp only[zQ]);refine zoG (by kernel_rfl) ?_;refine NoPanic.normal ?_;clear hP hR hy1 qN mO hb3 hs3 xI bG;go_wp2_with fail;go_ret;exact HP.out
section
variable {Z:DK} {n:Nat} {W W':World} {p:List (List Int)} {q:List Int} {m f:Nat->Nat}
theorem zo4 {p:List (List Int)} {q:List Int} {j:Nat} (hj:j<(p++[q]).length):(j<p.length/\∃ h:j<p.length,(p++[q])[j]=p[j])\/(j=p.length/\(p++[q])[j]=q):=by
 by_cases h:j<p.length
 ·exact .inl ⟨h,h,List.getElem_append_left h⟩
 ·have:j=p.length:=by simp at hj;omega
  subst this;exact .inr ⟨rfl,by simp⟩
theorem RowQ.pop {q':List Int} (h:RowQ Z n W (p++[q']) m f) (hq:q <+: q'):RowQ Z n W (p++[q]) m f:=by
 have hl:(p++[q']).length=(p++[q]).length:=by simp
 refine⟨by rw[<-hl];exact h.row,fun j hj=>?_,fun j hj=>h.ne j (by rw[hl];exact hj),fun i j hi hj=>h.inj i j (by rw[hl];exact hi) (by rw[hl];exact hj),fun x hx e he=>?_⟩
 ·obtain⟨vs,h1,h2,h3,h4⟩:=h.el j (by rw[hl];exact hj);rcases zo4 hj with⟨hjp,_,e⟩|⟨rfl,e⟩
  ·have e2:(p++[q'])[j]'(by rw[hl];exact hj)=p[j]:=List.getElem_append_left hjp;simp only[e,e2] at h3 h4 ⊢;exact⟨vs,h1,h2,h3,h4⟩
  ·have e2:(p++[q'])[p.length]'(by simp)=q':=by simp
   simp only[e,e2] at h3 h4 ⊢;exact⟨vs,h1,h2,Nat.le_trans hq.length_le h3,fun i hi=>by rw[h4 i (Nat.lt_of_lt_of_le hi hq.length_le)];congr 2;exact(hq.getElem hi).symm⟩
 ·rcases List.mem_append.1 hx with hx|hx
  ·exact h.fits x (List.mem_append.2 (.inl hx)) e he
  ·obtain rfl:=List.mem_singleton.1 hx;exact h.fits q' (by simp) e (hq.subset he)
theorem RowQ.dropL (h:RowQ Z n W (p++[q]) m f):RowQ Z n W p m f:=by
 obtain⟨us,h1,h2,h3⟩:=h.row;refine⟨⟨us,h1,h2,fun j hj=>h3 j (by simp;omega)⟩,fun j hj=>?_,fun j hj=>h.ne j (by simp;omega),fun i j hi hj=>h.inj i j (by simp;omega) (by simp;omega),fun x hx=>h.fits x (List.mem_append.2 (.inl hx))⟩;obtain⟨vs,h1,h2,h3⟩:=h.el j (by simp;omega);simp only[List.getElem_append_left hj] at h3;exact⟨vs,h1,h2,h3⟩
theorem RowQ.put {x:Int} (h:RowQ Z n W (p++[q]) m f) (hm:q.length<m p.length) (hx:I64 x) (hc:Chg (fun b=>b=f p.length) W W')
  (hk:∀ vs,W.heap[f p.length]?=some (.cells vs 3 (0,0))->W'.heap[f p.length]?=some (.cells (vs.setIfInBounds q.length (.int .i64 x)) 3 (0,0))):RowQ Z n W' (p++[q++[x]]) m f:=by
 have hl:(p++[q++[x]]).length=(p++[q]).length:=by simp
 have hpl:p.length<(p++[q]).length:=by simp
 obtain⟨us,h1,h2,h3⟩:=h.row;refine⟨⟨us,hc.keep h1 fun e=>h.ne _ hpl e.symm,h2,by rw[hl];exact h3⟩,fun j hj=>?_,fun j hj=>h.ne j (by rw[<-hl];exact hj),fun i j hi hj=>h.inj i j (by rw[<-hl];exact hi) (by rw[<-hl];exact hj),fun y hy e he=>?_⟩
 ·obtain⟨vs,v1,v2,v3,v4⟩:=h.el j (by rw[<-hl];exact hj);rcases zo4 hj with⟨hjp,_,e⟩|⟨rfl,e⟩
  ·have e2:(p++[q])[j]'(by rw[<-hl];exact hj)=p[j]:=List.getElem_append_left hjp;simp only[e,e2] at v3 v4 ⊢;exact⟨vs,hc.keep v1 fun e=>by have:=h.inj _ _ (by rw[<-hl];exact hj) hpl e;omega,v2,v3,v4⟩
  ·have e2:(p++[q])[p.length]'(by simp)=q:=by simp
   simp only[e,e2] at v3 v4 ⊢;refine⟨_,hk vs v1,by simpa using v2,by rw[List.length_append];simp;omega,fun i hi=>?_⟩;by_cases hiq:i=q.length
   ·subst hiq;rw[Array.getElem?_setIfInBounds_self_of_lt (by omega)];simp
   ·have hi2:i<q.length:=by simp at hi;omega
    rw[Array.getElem?_setIfInBounds_ne (by omega),List.getElem_append_left hi2];exact v4 i hi2
 ·rcases List.mem_append.1 hy with hy|hy
  ·exact h.fits y (List.mem_append.2 (.inl hy)) e he
  ·obtain rfl:=List.mem_singleton.1 hy;rcases List.mem_append.1 he with he|he
   ·exact h.fits q (by simp) e he
   ·obtain rfl:=List.mem_singleton.1 he;exact hx
end
theorem zvS (q:List Int) (x:Int) (z:List (List Int)):hdA q (hdC x z)=hdA (q++[x]) z:=by
 cases z with
 | nil=>rfl
 | cons l ls=>simp[hdA,hdC]
theorem zvR (q:List Int) (ls:List (List Int)) (p:List (List Int)):p++hdA q ([]::ls)=(p++[q])++ls:=by simp[hdA]
theorem ztT {J Jx:List SS->(Nat->Prop)->World->Prop} {Z:DK} {bs rs:List Bn} {h:Nat} {B:Nat->Prop} {tot:List SS} (hb:DB bs h) (hL:zu3 J Jx Z bs h B tot rs):NumC J Jx Z bs h B tot rs 0:=by
 intro p q m f pre C W left hrs hpl hJ hD hQ hS hm hm2 hmk hleft hpre;have hx:(numE h rs (zkW h rs) 0 left).map (fun z=>stOf (p++hdA q z))=(zkW h rs left).map fun ls=>stOf ((p++[q])++ls):=by
  simp only[numE,List.map_map,Function.comp_def,zvR]
 rw[hx] at hpre ⊢;have hlen:(p++[q]).length=p.length+1:=by simp
 have hC:=hL (p++[q]) m f pre C W left (by rw[hlen];exact hrs) (by rw[hlen];exact hpl) hJ hD hQ (by rw[hlen];exact hS) (fun j hj=>by
  rcases zo4 hj with⟨hjp,_,e⟩|⟨rfl,e⟩
  ·rw[e];exact hm j hjp
  ·rw[e];omega) (fun j hj=>hm2 j (by rw[<-hlen];exact hj)) hleft hpre
 rw[hlen] at hC;have HC:=zh hC;obtain⟨us,hu,gM,hur⟩:=hQ.row;have x0:W.cell? ⟨Z.lb,0,none⟩=some (.slice (some ⟨Z.rb,0,none⟩) bs.length bs.length):=zc hD.lists rfl;have x1:W.cell? ⟨Z.rb,p.length,none⟩=some (.slice (some ⟨f p.length,0,none⟩) (m p.length) (m p.length)):=zc hu (hur _ (by simp));have x2:W.cell? ⟨Z.sb,0,none⟩=some (.func (.func 112) #[] Z.cap1):=zc hD.slf rfl;rw[hmk,Nat.add_zero] at x1;have hbn:=hb.n;obtain⟨n,hn⟩:∃ n,bs.length=n:=⟨_,rfl⟩
 rw[hn] at x0 hpl hbn;obtain⟨c,hc⟩:∃ c,p.length=c:=⟨_,rfl⟩
 rw[hc] at x1 hpl ⊢;have hp1:(c:Int)<(n:Int):=by omega
 have hwc:IntKind.i64.wrap ((c:Int)+1)=((c+1:Nat):Int):=IntWalk.i64_in _ (by omega);have HN:=zh hn;have aV:=zh hc;obtain⟨R,hR⟩:∃ R,zrm J Jx Z bs.length (fun b=>b=Z.rb) pre ((zkW h rs left).map fun ls=>stOf (p++[q]++ls)) (p++[q]) m f C W=R:=⟨_,rfl⟩
 have HR:=zh (show ∀ e w',R e w'->zrm J Jx Z bs.length (fun b=>b=Z.rb\/b=f c) pre ((zkW h rs left).map fun ls=>stOf (p++[q]++ls)) (p++[q]) m f C W e w'/\∃ b,e=.returned (.bool b) from fun e w' hr=>by
  rw[<-hR] at hr;rcases hr with⟨rfl,C',h1,h2,h3,h4⟩|⟨rfl,pre',C',h1,h2⟩
  ·exact⟨.inl ⟨rfl,C',h1,h2,h3.mono fun b _ h=>h.imp id .inl,h4⟩,_,rfl⟩
  ·exact⟨.inr ⟨rfl,pre',C',h1,h2.mono fun b _ h=>h.imp id .inl⟩,_,rfl⟩)
 rw[hR,hc] at HC;rw[HN.out] at HR ⊢;clear hJ hD hQ hS hpre hu hur gM hrs hm hm2 hmk hleft hx hb hL hlen hC hn hc hR;go_enter Tryz.func113,Tryz.ntmps113;go_wp2_with fail;refine HC.out.mono ?_;rintro e w2 hr;obtain⟨h1,b,rfl⟩:=HR.out e w2 hr;have H1:=zh h1;clear h1 hr;go_wp2_with fail;go_ret;exact H1.out
theorem znQ {α β:Type} (F:α->List β) (g:Nat->α) {j n:Nat} (hj:j<n):(List.range j).flatMap (fun i=>F (g i))++F (g j) <+: (List.range n).flatMap (fun i=>F (g i)):=by
 have e:(List.range j).flatMap (fun i=>F (g i))++F (g j)=(List.range (j+1)).flatMap (fun i=>F (g i)):=by rw[List.range_succ,List.flatMap_append];simp
 rw[e];obtain⟨d,rfl⟩:∃ d,n=(j+1)+d:=⟨n-(j+1),by omega⟩
 rw[List.range_add (n:=j+1) (m:=d),List.flatMap_append];exact List.prefix_append _ _
theorem znC {β:Type} (F:Int->List β) (lo hi:Int):(ranE lo hi).flatMap F=(List.range (hi-lo+1).toNat).flatMap fun(i:Nat)=>F (lo+(i:Int)):=by
 unfold ranE;rw[List.flatMap_map]
theorem ztz {r:Int} (h0:0<=r) (h1:r<=1000000):I64 (unrk r):=by
 have:=zrE (v:=500000) h0 (by omega);unfold I64;omega
theorem ztU {J Jx:List SS->(Nat->Prop)->World->Prop} {Z:DK} {bs rs:List Bn} {h nf:Nat} {B:Nat->Prop} {tot:List SS} (hj:JC J Jx nf Z.l tot) (hb:DB bs h) {k:Nat} (hN:NumC J Jx Z bs h B tot rs k):NumC J Jx Z bs h B tot rs (k+1):=by
 intro p q m f pre C W left hrs hpl hJ hD hQ hS hm hm2 hmk hleft hpre;obtain⟨us,hu,gM,hur⟩:=hQ.row;have hwb:=zrC (bs:=rs) (h:=h) (by rw[<-hrs];exact zqR hb.b _) (by rw[<-hrs,List.length_drop];have:=hb.n;omega) hb.hm;have x0:W.cell? ⟨Z.lb,0,none⟩=some (.slice (some ⟨Z.rb,0,none⟩) bs.length bs.length):=zc hD.lists rfl;have x1:W.cell? ⟨Z.rb,p.length,none⟩=some (.slice (some ⟨f p.length,0,none⟩) (m p.length) (m p.length)):=zc hu (hur _ (by simp));have x2:W.cell? ⟨Z.hb,0,none⟩=some (.int .i64 (h:Int)):=zc hD.hv rfl;have x3:W.cell? ⟨Z.tb,0,none⟩=some (.slice (some ⟨Z.tr,0,none⟩) (bs.length+1) Z.tc):=zc hD.rest rfl;obtain⟨x4,x5⟩:=hD.rst (p.length+1) hpl;rw[hrs] at x4 x5;have hM:m p.length<=1000:=hm2 p.length (by omega);have hbn:=hb.n;have sQ:=hb.hm;have jU:=hb.h1;obtain⟨n,hn⟩:∃ n,bs.length=n:=⟨_,rfl⟩
 obtain⟨c,hc⟩:∃ c,p.length=c:=⟨_,rfl⟩
 obtain⟨i,hi⟩:∃ i,q.length=i:=⟨_,rfl⟩
 obtain⟨M,uF⟩:∃ M,m p.length=M:=⟨_,rfl⟩
 obtain⟨F,hF⟩:∃ F,f p.length=F:=⟨_,rfl⟩
 obtain⟨w0,hw0⟩:∃ x,wlo rs=x:=⟨_,rfl⟩
 obtain⟨w1,hw1⟩:∃ x,whi h rs=x:=⟨_,rfl⟩
 have hmk2:=hmk;rw[uF,hi] at hmk;rw[uF] at hM;rw[hw0,hw1] at hwb;rw[hn] at x0 x3 hpl hbn;rw[uF,hF,hc] at x1;rw[hc,hw0] at x4;rw[hc,hw1] at x5;rw[hc] at hpl;obtain⟨lo,hlo⟩:∃ x,max 0 (left-1-(k:Int)*(h:Int)-w1)=x:=⟨_,rfl⟩
 obtain⟨hi',hhi⟩:∃ x,min ((h:Int)-1) (left-1-(k:Int)-(w0:Int))=x:=⟨_,rfl⟩
 have hkh:(0:Int)<=(k:Int)*(h:Int)/\(k:Int)*(h:Int)<=1000*10000:=⟨Int.mul_nonneg (by omega) (by omega),Int.mul_le_mul (by omega) (by omega) (by omega) (by omega)⟩
 have hlo0:0<=lo:=by omega
 have hlo1:lo<=100000000000:=by omega
 have hhi1:hi'<=10000:=by omega
 have hhi2 : -100000000000<=hi':=by omega
 obtain⟨G,hG⟩:∃ G:Int->List SS,G=fun r=>(numE h rs (zkW h rs) k (left-1-r)).map fun z=>stOf (p++hdA (q++[unrk r]) z):=⟨_,rfl⟩
 have hX:(numE h rs (zkW h rs) (k+1) left).map (fun z=>stOf (p++hdA q z))=(List.range (hi'-lo+1).toNat).flatMap fun(j:Nat)=>G (lo+(j:Int)):=by
  rw[<-znC,numE,List.map_flatMap,hw0,hw1,hlo,hhi,hG];simp only[List.map_map,Function.comp_def,zvS]
 rw[hX] at hpre ⊢;obtain⟨T,hT⟩:∃ T:Nat,(hi'-lo+1).toNat=T:=⟨_,rfl⟩
 rw[hT] at hpre ⊢;have HJ:=zh hj;have mi:=zh hJ;have HD:=zh hD;have HQ:=zh hQ;have HS:=zh hS;have dE:=zh hpre;have HN:=zh hN;have HM:=zh hm;have u7:=zh hm2;have HMK:=zh hmk2;have kR:=zh hrs;have uW:=zh (show p.length+1<=bs.length by rw[hc,hn];exact hpl);have HG:=zh hG;have oM:=zh (show bs.length=n/\p.length=c/\q.length=i/\m p.length=M/\f p.length=F from ⟨hn,hc,hi,uF,hF⟩);rw[hn,hF,hc,hi];clear hj hJ hD hQ hS hpre hu hur gM hrs hm hm2 hmk2 hX hb hN hn hc hi uF hF hw0 hw1 hG;have hp1:(c:Int)<(n:Int):=by omega
 have hp2:(0:Int)<=(c:Int)+1:=by omega
 have hp3:(c:Int)+1<(n:Int)+1:=by omega
 have hwc:IntKind.i64.wrap ((c:Int)+1)=(c:Int)+1:=IntWalk.i64_in _ (by omega);have hne:((i:Int)==(M:Int))=false:=by simp;omega
 have e1:IntKind.i64.wrap ((M:Int)-1)=(M:Int)-1:=IntWalk.i64_in _ (by omega);have e2:IntKind.i64.wrap ((M:Int)-1-(i:Int))=(k:Int):=by rw[show(M:Int)-1-(i:Int)=(k:Int) by omega];exact IntWalk.i64_in _ (by omega)
 have wL:=zh hmk;clear hmk;go_enter Tryz.func113,Tryz.ntmps113;go_upto_region 4 with fail;have e3:IntKind.i64.wrap (left-1)=left-1:=IntWalk.i64_in _ (by omega);have e4:IntKind.i64.wrap ((k:Int)*(h:Int))=(k:Int)*(h:Int):=IntWalk.i64_in _ (by omega);have e5:IntKind.i64.wrap (left-1-(k:Int)*(h:Int))=left-1-(k:Int)*(h:Int):=IntWalk.i64_in _ (by omega);have e6:IntKind.i64.wrap (left-1-(k:Int)*(h:Int)-w1)=left-1-(k:Int)*(h:Int)-w1:=IntWalk.i64_in _ (by omega)
 go_region
 have hbd:=(Below.refl W.heap.size W).drew;obtain⟨wA,uf⟩:∃ x,W.drew=x:=⟨_,rfl⟩
 rw[uf] at hbd ⊢
 replace x0:=zb hbd x0
 replace x1:=zb hbd x1
 replace x2:=zb hbd x2
 replace x3:=zb hbd x3
 replace x4:=zb hbd x4
 clear uf x5 e4 e5 e6;go_upto_region 5 with fail;have e4:IntKind.i64.wrap ((h:Int)-1)=(h:Int)-1:=IntWalk.i64_in _ (by omega);have e5:IntKind.i64.wrap (left-1-(k:Int))=left-1-(k:Int):=IntWalk.i64_in _ (by omega);have e6:IntKind.i64.wrap (left-1-(k:Int)-(w0:Int))=left-1-(k:Int)-(w0:Int):=IntWalk.i64_in _ (by omega)
 go_region
 have ja:=hbd.trans (Below.refl W.heap.size wA |>.mono (Nat.le_refl _) |>.drew);obtain⟨wB,tZ⟩:∃ x,wA.drew=x:=⟨_,rfl⟩
 rw[tZ] at ja ⊢;have iD:=zh ja;clear tZ x0 x1 x2 x3 x4 e4 e5 e6 hbd ja hwc e1 e2 e3 hp2 hp3;have e1:IntKind.i64.wrap (hi'-lo)=hi'-lo:=IntWalk.i64_in _ (by omega);have e2:IntKind.i64.wrap (hi'-lo+1)=hi'-lo+1:=IntWalk.i64_in _ (by omega);go_wp2_with fail
 go_loopw [68] (fun iv wr=>∃ (j:Nat) (C':Nat->Prop),j<=T/\iv=.int .i64 j/\Hid (J (pre++(List.range j).flatMap fun(i:Nat)=>G (lo+(i:Int))) C' wr/\(∀ b,C' b->C b\/W.heap.size<=b)/\Chg (fun b=>C b\/b=Z.rb\/b=F) W wr/\RowQ Z bs.length wr (p++[q]) m f)) (fun iv _=>T-(intOf iv).toNat)
 case atStart=>exact⟨0,C,Nat.zero_le _,rfl,zh ⟨by rw[List.range_zero,List.flatMap_nil,List.append_nil];exact HJ.out.keep _ _ _ _ mi.out (Chg.of_below iD.out),fun b h=>.inl h,Chg.of_below iD.out,HQ.out.chg (Chg.of_below (C:=fun _=>False) iD.out) id fun _ _=>id⟩⟩
 case round =>
  obtain⟨j,C',hjT,rfl,HI⟩:=hrel;by_cases hlt:j<T
  ·obtain⟨i1,i2,i3,i4⟩:=HI.out;have hDn:∀ b,B b->¬ (C b\/b=Z.rb\/b=F):=fun b hb h=>by
    rcases h with h|rfl|rfl
    ·exact HS.out.b _ hb h
    ·exact HS.out.br hb
    ·have:=oM.out.2.2.2.2;subst this;exact HS.out.bf _ (Nat.lt_succ_self _) hb
   have hD2:=HD.out.chg i3 hDn;have hS2:=SepQ.grow (p:=p++[q]) (by rw[show(p++[q]).length=p.length+1 by simp];exact HS.out) HD.out HQ.out i2;obtain⟨us,hu,gM,hur⟩:=i4.row;obtain⟨vs,hv,hvs,hv3,hv4⟩:=i4.el p.length (by simp);obtain⟨g1,g2,g3,g4,g5⟩:=oM.out;rw[g4] at hvs;rw[g5] at hv;have x0:wr.cell? ⟨Z.lb,0,none⟩=some (.slice (some ⟨Z.rb,0,none⟩) n n):=by rw[<-g1];exact zc hD2.lists rfl
   have x1:wr.cell? ⟨Z.rb,c,none⟩=some (.slice (some ⟨F,0,none⟩) M M):=by have h:=hur p.length (by simp);rw[g4,g5] at h;rw[<-g2];exact zc hu h
   obtain⟨z,hz⟩:∃ z,vs[i]?=some z:=⟨_,Array.getElem?_eq_getElem (by have:=wL.out;omega)⟩
   have x2:wr.cell? ⟨F,i,none⟩=some z:=zc hv hz;have cf:∀ o,wr.frozen? ⟨F,o,none⟩=false:=fun o=>zf hv;obtain⟨r,hr⟩:∃ r,lo+(j:Int)=r:=⟨_,rfl⟩
   have hr0:0<=r/\r<=10000:=by omega
   have hwr:IntKind.i64.wrap (lo+(j:Int))=r:=by rw[hr];exact IntWalk.i64_in _ (by omega)
   obtain⟨x,hx⟩:∃ x,unrk r=x:=⟨_,rfl⟩
   have iV:I64 x:=by rw[<-hx];exact ztz hr0.1 (by omega)
   have HU:=zh (fun w'=>hx▸zrk r w' (by omega));have hj1:(j:Int)<hi'-lo+1:=by omega
   have hi0:(0:Int)<=(i:Int):=by omega
   have hiM:(i:Int)<(M:Int):=by have:=wL.out;omega
   obtain⟨w5,eX,di,kL⟩:=setU (o:=i) (.int .i64 x) hv;have hD5:=hD2.chg di.drew fun b hb (e:b=F)=>by rw[<-g5] at e;rw[e] at hb;exact HS.out.bf _ (Nat.lt_succ_self _) hb
   have sU:RowQ Z bs.length w5.drew (p++[q++[x]]) m f:=i4.put (by rw[g3,g4];have:=wL.out;omega) iV (by rw[g5];exact di.drew) (fun vs' h'=>by
    rw[g5] at h' ⊢;rw[g3];rw[hv] at h';injection h' with h';injection h' with h';subst h';exact kL)
   have uH:=HJ.out.keep _ _ _ _ i1 (di.drew.mono fun b _ (e:b=F) hb=>by rw[<-g5] at e;rw[e] at hb;exact hS2.fc p.length (by simp) hb);have hin:(pre++(List.range j).flatMap fun(i:Nat)=>G (lo+(i:Int)))++G r <+: tot:=by
    refine List.IsPrefix.trans ?_ dE.out;rw[List.append_assoc,<-hr];exact(List.prefix_append_right_inj pre).2 (znQ (F:=G) (g:=fun(i:Nat)=>lo+(i:Int)) hlt)
   have qR:G r=(numE h rs (zkW h rs) k (left-1-r)).map fun z=>stOf (p++hdA (q++[x]) z):=by rw[HG.out,<-hx]
   have hcall:=HN.out p (q++[x]) m f _ C' w5.drew (left-1-r) kR.out uW.out uH hD5 sU (by rw[show(p++[q]).length=p.length+1 by simp] at hS2;exact hS2) HM.out u7.out (by rw[HMK.out,List.length_append];simp;omega) (by omega) (by rw[<-qR];exact hin);rw[<-qR] at hcall;have hlq:(q++[x]).length=i+1:=by rw[List.length_append,g3];rfl
   rw[hlq,g5,g2] at hcall;have mq:=zh hcall;have y0:w5.drew.cell? ⟨Z.nb,0,none⟩=some (.func (.func 113) #[] Z.cap2):=zc hD5.num rfl;have hwi:IntKind.i64.wrap ((i:Int)+1)=((i+1:Nat):Int):=IntWalk.i64_in _ (by have:=wL.out;omega);have hwl0:IntKind.i64.wrap (left-1)=left-1:=IntWalk.i64_in _ (by omega);have hwl:IntKind.i64.wrap (left-1-lo)=left-1-lo:=IntWalk.i64_in _ (by omega);have hwl2:IntKind.i64.wrap (left-1-lo-(j:Int))=left-1-r:=by rw[show left-1-lo-(j:Int)=left-1-r by omega];exact IntWalk.i64_in _ (by omega)
   have sH:IntKind.i64.wrap ((j:Int)+1)=(j:Int)+1:=IntWalk.i64_in _ (by omega);have hstep:(List.range (j+1)).flatMap (fun(i:Nat)=>G (lo+(i:Int)))=((List.range j).flatMap fun(i:Nat)=>G (lo+(i:Int)))++G r:=by rw[List.range_succ,List.flatMap_append,<-hr];simp
   have HST:=zh hstep;have bJ:=zh (show Chg (fun b=>C b\/b=Z.rb\/b=F) W w5.drew/\W.heap.size<=w5.drew.heap.size from ⟨i3.trans2 di.drew fun b _ e=>.inr (.inr e),Nat.le_trans i3.size di.drew.size⟩);have HR:=zh hr;have HX:=zh hx;have HX64:=zh iV;have HD2:=zh hD2;have HS2:=zh hS2;have HVS:=zh (And.intro hv hvs);have tT:=zh di;have HH5:=zh kL;clear i1 i2 i3 i4 hDn hD2 hS2 hu gM hur hv hvs hv3 hv4 g1 g2 g3 g4 g5 hz hr hx iV di kL hD5 sU uH hin qR hcall hlq hstep;go_upto_region 9 with fail
   go_region_with (refine(HU.out _).mono ?_;rintro e w9 ⟨rfl,rfl⟩)
   all_goals
    clear x0 x1 x2 cf eX;go_wp2_with fail;refine mq.out.mono ?_;rintro e w6 (⟨rfl,C6,j6,c6,h6,q6⟩|⟨rfl,pre6,C6,j6,h6⟩)
    ·have fq:=zh (show J (pre++(List.range (j+1)).flatMap fun(i:Nat)=>G (lo+(i:Int))) C6 w6/\(∀ b,C6 b->C b\/W.heap.size<=b)/\Chg (fun b=>C b\/b=Z.rb\/b=F) W w6/\RowQ Z bs.length w6 (p++[q]) m f from
      ⟨by rw[HST.out,<-List.append_assoc];exact j6,fun b hb=>(c6 b hb).elim (HI.out.2.1 b) fun h=>.inr (Nat.le_trans bJ.out.2 h),bJ.out.1.trans2 h6 fun b hb h=>h.elim (fun h=>(HI.out.2.1 b h).elim .inl fun h=>by omega) .inr,q6.pop (List.prefix_append _ _)⟩)
     clear j6 c6 h6 q6 y0;go_wp2_with fail
     go_roundw
     case rel=>exact⟨j+1,C6,by omega,by go_num,fq⟩
     case measure=>simp[intOf];omega
    ·have fq:=zh (show Jx pre6 C6 w6/\Chg (fun b=>C b\/b=Z.rb\/b=F) W w6 from ⟨j6,bJ.out.1.trans2 h6 fun b hb h=>h.elim (fun h=>(HI.out.2.1 b h).elim .inl fun h=>by omega) .inr⟩);clear j6 h6 y0;go_wp2_with fail;go_ret;exact .inr ⟨rfl,pre6,C6,fq.out.1,fq.out.2⟩
  ·obtain rfl:j=T:=by omega
   have hj1:¬ (j:Int)<hi'-lo+1:=by omega
   go_wp2_with fail;go_ret;obtain⟨i1,i2,i3,i4⟩:=HI.out;have:=oM.out.1;rw[this] at i4;exact .inl ⟨rfl,C',i1,i2,i3,i4⟩
section
variable {Z:DK} {n:Nat} {W W':World} {p:List (List Int)} {m f m' f':Nat->Nat}
theorem RowQ.congr (h:RowQ Z n W p m' f') (he:∀ j,j<p.length->m' j=m j/\f' j=f j):RowQ Z n W p m f:=by
 obtain⟨us,h1,h2,h3⟩:=h.row;refine⟨⟨us,h1,h2,fun j hj=>by rw[h3 j hj,(he j hj).1,(he j hj).2]⟩,fun j hj=>?_,fun j hj=>by rw[<-(he j hj).2];exact h.ne j hj,fun i j hi hj e=>h.inj i j hi hj (by rw[(he i hi).2,(he j hj).2];exact e),h.fits⟩;have:=h.el j hj;rwa[(he j hj).1,(he j hj).2] at this
theorem RowQ.new {M:Nat} {W1 W2:World} (h:RowQ Z n W p m f) (hp:p.length<n) (h1:W1=W.alloc (.cells (madeCells #[.int .i64 0] M) 3)) (hc:Chg (fun b=>b=Z.rb) W1 W2)
  (hk:∀ us,W1.heap[Z.rb]?=some (.cells us 32 (0,0))->W2.heap[Z.rb]?=some (.cells (us.setIfInBounds p.length (.slice (some ⟨W.heap.size,0,none⟩) M M)) 32 (0,0))) :
  RowQ Z n W2 (p++[[]]) (fun j=>if j=p.length then M else m j) (fun j=>if j=p.length then W.heap.size else f j):=by
 have hb:Below W.heap.size W W1:=by rw[h1];exact zkc (Below.refl _ _) _
 have hn:W1.heap[W.heap.size]?=some (.cells (madeCells #[.int .i64 0] M) 3 (0,0)):=by rw[h1];exact heap_alloc_new W _
 obtain⟨us,u1,u2,u3⟩:=h.row;have hl:=h.lt;have hlen:(p++[[]]).length=p.length+1:=by simp
 refine⟨⟨_,hk us (zkb u1 hb),by simpa using u2,fun j hj=>?_⟩,fun j hj=>?_,fun j hj=>?_,fun i j hi hj e=>?_,fun x hx e he=>?_⟩
 ·by_cases e:j=p.length
  ·subst e;simp only[if_true];rw[Array.getElem?_setIfInBounds_self_of_lt (by omega)]
  ·simp only[e,if_false];rw[Array.getElem?_setIfInBounds_ne (by omega)];exact u3 j (by omega)
 ·rcases zo4 hj with⟨hjp,_,e⟩|⟨rfl,e⟩
  ·have hne:j≠p.length:=by omega
   simp only[e,hne,if_false];obtain⟨vs,v1,v2⟩:=h.el j hjp;exact⟨vs,hc.keep (zkb v1 hb) (h.ne j hjp),v2⟩
  ·simp only[e,if_true];exact⟨_,hc.keep hn fun e=>by have e:W.heap.size=Z.rb:=e;omega,by rw[size_madeCells],Nat.zero_le _,fun i hi=>absurd hi (Nat.not_lt_zero i)⟩
 ·by_cases e:j=p.length
  ·simp only[e,if_true];omega
  ·simp only[e,if_false];exact h.ne j (by omega)
 ·split at e<;>split at e
  ·omega
  ·have:=hl.2 j (by omega);omega
  ·have:=hl.2 i (by omega);omega
  ·exact h.inj i j (by omega) (by omega) e
 ·rcases List.mem_append.1 hx with hx|hx
  ·exact h.fits x hx e he
  ·obtain rfl:=List.mem_singleton.1 hx;cases he
end
theorem zsc {J Jx:List SS->(Nat->Prop)->World->Prop} {Z:DK} {bs rs:List Bn} {h nf:Nat} {B:Nat->Prop} {tot:List SS} {p:List (List Int)} {m f:Nat->Nat} {pre:List SS} {C:Nat->Prop} {W:World} {left:Int} {n c l0 l1 w0 T:Nat} {w1 Q lo hi':Int} {a:Addr} {G:Int->List SS}
  (x0:W.cell? ⟨Z.lb,0,none⟩=some (.slice (some ⟨Z.rb,0,none⟩) n n)) (x2:W.cell? ⟨Z.hb,0,none⟩=some (.int .i64 (h:Int))) (x3:W.cell? ⟨Z.tb,0,none⟩=some (.slice (some ⟨Z.tr,0,none⟩) (n+1) Z.tc)) (x1:W.cell? ⟨Z.bb,0,none⟩=some (.slice (some a) n Z.c))
  (x4:W.cell? ⟨Z.tr,(c+1)*2,none⟩=some (.int .i64 (w0:Int))) (x5:W.cell? ⟨Z.tr,(c+1)*2+1,none⟩=some (.int .i64 w1)) (x6:W.cell? (a.add (c*2))=some (.int .i64 (l0:Int))) (x7:W.cell? ⟨(a.add (c*2)).block,(a.add (c*2)).off+1,none⟩=some (.int .i64 (l1:Int)))
  (hwb:w0<=1000000/\0<=w1/\w1<=10000000000) (hbb:l0<=1000/\l1<=1000) (hbn:n<=100) (sQ:h<=10000) (jU:1<=h) (hcn:c<n) (hleft:0<=left/\left<=100000000000)
  (uD:(left-w1+(h:Int)-1).tdiv (h:Int)=Q) (uC : -100000010000<=Q/\Q<=100000010000) (hlo:max (l0:Int) Q=lo) (hhi:min (l1:Int) (left-(w0:Int))=hi') (hlo0:0<=lo) (hlo1:lo<=100000010000) (hhi1:hi'<=1000) (hhi2 : -100000000000<=hi') (hT:(hi'-lo+1).toNat=T)
  (HJ:Hid (JC J Jx nf Z.l tot)) (mi:Hid (J pre C W)) (HD:Hid (DW Z bs h B W)) (HQ:Hid (RowQ Z bs.length W p m f)) (HS:Hid (SepQ Z B p.length f C)) (dE:Hid ((pre++(List.range T).flatMap fun(j:Nat)=>G (lo+(j:Int))) <+: tot)) (HN:Hid (∀ k,NumC J Jx Z bs h B tot rs k))
  (HM:Hid (∀ j (hj:j<p.length),m j=p[j].length)) (u7:Hid (∀ j,j<p.length->m j<=1000)) (kR:Hid (bs.drop (p.length+1)=rs)) (HG:Hid (G=fun r=>(numE h rs (zkW h rs) r.toNat left).map fun z=>stOf (p++hdA [] z))) (oM:Hid (bs.length=n/\p.length=c/\p.length+1<=bs.length)) :
  Calls Tryz.prog 112 (#[.int .i64 (c:Int),.int .i64 left]++Z.cap1) W (zrm J Jx Z n (fun b=>b=Z.rb) pre ((List.range T).flatMap fun(j:Nat)=>G (lo+(j:Int))) p m f C W):=by
 have hp1:(c:Int)<(n:Int):=by omega
 have hp2:(0:Int)<=(c:Int)+1:=by omega
 have hp3:(c:Int)+1<(n:Int)+1:=by omega
 have hwc:IntKind.i64.wrap ((c:Int)+1)=(c:Int)+1:=IntWalk.i64_in _ (by omega);have hne:((c:Int)==(n:Int))=false:=by simp;omega
 have hh0:¬ (h:Int)=0:=by omega
 have e3:IntKind.i64.wrap (left-w1)=left-w1:=IntWalk.i64_in _ (by omega);have e4:IntKind.i64.wrap (left-w1+(h:Int))=left-w1+(h:Int):=IntWalk.i64_in _ (by omega);have e5:IntKind.i64.wrap (left-w1+(h:Int)-1)=left-w1+(h:Int)-1:=IntWalk.i64_in _ (by omega);have e6:IntKind.i64.wrap Q=Q:=IntWalk.i64_in _ (by omega);have pW:=zh (And.intro hwb (And.intro hbb (And.intro hlo0 (And.intro hlo1 (And.intro hhi1 (And.intro hhi2 (And.intro uC (And.intro hleft (And.intro hbn (And.intro sQ (And.intro jU hcn)))))))))));have HHI:=zh hhi;have HTT:=zh hT;clear hwb hbb hlo0 hlo1 hhi1 hhi2 uC hleft hbn sQ jU hcn hhi hT;go_enter Tryz.func112,Tryz.ntmps112;go_upto_region 4 with fail
 go_region
 have hbd:=(Below.refl W.heap.size W).drew;obtain⟨wA,uf⟩:∃ x,W.drew=x:=⟨_,rfl⟩
 rw[uf] at hbd ⊢
 replace x0:=zb hbd x0
 replace x1:=zb hbd x1
 replace x3:=zb hbd x3
 replace x4:=zb hbd x4
 replace x7:=zb hbd x7
 clear uf x2 x5 x6 e3 e4 e5 e6 hlo uD;have hhi:=HHI.out;have e4:IntKind.i64.wrap (left-(w0:Int))=left-(w0:Int):=IntWalk.i64_in _ (by have:=pW.out;omega);go_upto_region 5 with fail
 go_region
 have ja:=hbd.trans (Below.refl W.heap.size wA |>.mono (Nat.le_refl _) |>.drew);obtain⟨wB,tZ⟩:∃ x,wA.drew=x:=⟨_,rfl⟩
 rw[tZ] at ja ⊢;have iD:=zh ja;clear tZ x0 x1 x3 x4 x7 e4 hbd ja hwc hp2 hp3;clear hhi;obtain⟨hwb,hbb,hlo0,hlo1,hhi1,hhi2,uC,hleft,hbn,sQ,jU,hcn⟩:=pW.out;have hT:=HTT.out;have e1:IntKind.i64.wrap (hi'-lo)=hi'-lo:=IntWalk.i64_in _ (by omega);have e2:IntKind.i64.wrap (hi'-lo+1)=hi'-lo+1:=IntWalk.i64_in _ (by omega);go_wp2_with fail
 go_loopw [72] (fun iv wr=>∃ (j:Nat) (C':Nat->Prop),j<=T/\iv=.int .i64 j/\Hid (J (pre++(List.range j).flatMap fun(i:Nat)=>G (lo+(i:Int))) C' wr/\(∀ b,C' b->C b\/W.heap.size<=b)/\Chg (fun b=>C b\/b=Z.rb) W wr/\RowQ Z bs.length wr p m f)) (fun iv _=>T-(intOf iv).toNat)
 case atStart=>exact⟨0,C,Nat.zero_le _,rfl,zh ⟨by rw[List.range_zero,List.flatMap_nil,List.append_nil];exact HJ.out.keep _ _ _ _ mi.out (Chg.of_below iD.out),fun b h=>.inl h,Chg.of_below iD.out,HQ.out.chg (Chg.of_below (C:=fun _=>False) iD.out) id fun _ _=>id⟩⟩
 case round =>
  obtain⟨j,C',hjT,rfl,HI⟩:=hrel;by_cases hlt:j<T
  ·obtain⟨i1,i2,i3,i4⟩:=HI.out;have hDn:∀ b,B b->¬ (C b\/b=Z.rb):=fun b hb h=>by
    rcases h with h|rfl
    ·exact HS.out.b _ hb h
    ·exact HS.out.br hb
   have hD2:=HD.out.chg i3 hDn;have hS2:=SepQ.grow HS.out HD.out HQ.out i2;obtain⟨us,hu,gM,hur⟩:=i4.row;obtain⟨g1,g2,g4⟩:=oM.out;have x0:wr.cell? ⟨Z.lb,0,none⟩=some (.slice (some ⟨Z.rb,0,none⟩) n n):=by rw[<-g1];exact zc hD2.lists rfl
   obtain⟨M,hM⟩:∃ M:Nat,lo+(j:Int)=(M:Int):=⟨(lo+(j:Int)).toNat,by omega⟩
   have hM1:M<=1000:=by omega
   have hwr:IntKind.i64.wrap (M:Int)=(M:Int):=IntWalk.i64_in _ (by omega);have hmk:=bMkI M (by omega) wr.drew;have hj1:(j:Int)<hi'-lo+1:=by omega
   have aH:Below wr.heap.size wr (wr.drew.alloc (.cells (madeCells #[.int .i64 0] M) 3)):=zkc (Below.refl wr.heap.size wr).drew _;obtain⟨w9,aQ⟩:∃ x,wr.drew.alloc (.cells (madeCells #[.int .i64 0] M) 3)=x:=⟨_,rfl⟩
   rw[aQ] at aH hmk;have oW:=zkb hu aH;obtain⟨g,hg⟩:∃ x,wr.drew.heap.size=x:=⟨_,rfl⟩
   rw[hg] at hmk;obtain⟨w5,eX,di,kL⟩:=setU (o:=c) (.slice (some ⟨g,0,none⟩) M M) oW;obtain⟨z,hz⟩:∃ z,us[c]?=some z:=⟨_,Array.getElem?_eq_getElem (by omega)⟩
   have x2:w9.cell? ⟨Z.rb,c,none⟩=some z:=zc oW hz;have cf:∀ o,w9.frozen? ⟨Z.rb,o,none⟩=false:=fun o=>zf oW;have hD5:=(hD2.chg (Chg.of_below aH (C:=fun _=>False)) fun _ _=>id).chg di fun b hb (e:b=Z.rb)=>by rw[e] at hb;exact HS.out.br hb
   have sU:=RowQ.new (W:=wr.drew) (M:=M) (W2:=w5) (i4.chg (Chg.of_below (Below.refl wr.heap.size wr).drew (C:=fun _=>False)) id fun _ _=>id) (by omega) aQ.symm di (fun wU h'=>by
    rw[oW] at h';injection h' with h';injection h' with h';subst h';rw[hg,g2];exact kL)
   rw[hg] at sU;have uH:=HJ.out.keep _ _ _ _ i1 (((Chg.of_below aH).trans (di.mono fun b _ (e:b=Z.rb) hb=>by rw[e] at hb;exact hS2.r hb):Chg (fun b=>¬ C' b) wr w5));have hgw:g=wr.heap.size:=hg.symm;have mV:∀ b,C' b->b<g:=fun b hb=>by rw[hgw];exact HJ.out.lt _ _ _ i1 b hb
   have hBg:∀ b,B b->b<g:=fun b hb=>by rw[hgw];exact hD2.lt b hb
   have hS5:SepQ Z B (p.length+1) (fun j=>if j=p.length then g else f j) C':=⟨hS2.b,hS2.r,fun j hj=>by
    by_cases e:j=p.length
    ·simp only[e,if_true];intro h;have:=mV _ h;omega
    ·simp only[e,if_false];exact hS2.fc j (by omega),hS2.br,fun j hj=>by
    by_cases e:j=p.length
    ·simp only[e,if_true];intro h;have:=hBg _ h;omega
    ·simp only[e,if_false];exact hS2.bf j (by omega)⟩
   have hin:(pre++(List.range j).flatMap fun(i:Nat)=>G (lo+(i:Int)))++G M <+: tot:=by
    refine List.IsPrefix.trans ?_ dE.out;rw[List.append_assoc,<-hM];exact(List.prefix_append_right_inj pre).2 (znQ (F:=G) (g:=fun(i:Nat)=>lo+(i:Int)) hlt)
   have qR:G M=(numE h rs (zkW h rs) M left).map fun z=>stOf (p++hdA [] z):=by rw[HG.out];simp
   have hcall:=HN.out M p [] _ _ _ C' w5 left kR.out g4 uH hD5 sU hS5 (fun j hj=>by simp only[Nat.ne_of_lt hj,if_false];exact HM.out j hj) (fun j hj=>by
    by_cases e:j=p.length
    ·simp only[e,if_true];omega
    ·simp only[e,if_false];exact u7.out j (by omega)) (by simp) hleft (by rw[<-qR];exact hin)
   rw[<-qR] at hcall;simp only[if_true,List.length_nil] at hcall;rw[g2] at hcall;have mq:=zh hcall;have y0:w5.cell? ⟨Z.nb,0,none⟩=some (.func (.func 113) #[] Z.cap2):=zc hD5.num rfl;have y1:w5.cell? ⟨Z.lb,0,none⟩=some (.slice (some ⟨Z.rb,0,none⟩) n n):=by rw[<-g1];exact zc hD5.lists rfl
   have sH:IntKind.i64.wrap ((j:Int)+1)=(j:Int)+1:=IntWalk.i64_in _ (by omega);have hstep:(List.range (j+1)).flatMap (fun(i:Nat)=>G (lo+(i:Int)))=((List.range j).flatMap fun(i:Nat)=>G (lo+(i:Int)))++G M:=by rw[List.range_succ,List.flatMap_append,<-hM];simp
   have HST:=zh hstep;have bJ:=zh (show Chg (fun b=>C b\/b=Z.rb) W w5/\W.heap.size<=w5.heap.size/\W.heap.size<=g from ⟨(i3.trans2 (Chg.of_below aH (C:=fun _=>False)) fun b _ h=>h.elim).trans2 di fun b _ e=>.inr e,Nat.le_trans i3.size (Nat.le_trans aH.size di.size),by rw[hgw];exact i3.size⟩);have z9:w9.cell? ⟨Z.lb,0,none⟩=some (.slice (some ⟨Z.rb,0,none⟩) n n):=zb aH x0;have hj0:(0:Int)<=(c:Int):=by omega
   clear i1 i2 i3 i4 hDn hD2 hS2 hu gM hur g1 g2 g4 hz oW aH di kL hD5 sU uH hgw mV hBg hS5 hin qR hcall hstep aQ hg;go_upto_region 9 with fail;have hS0:(fun w':World=>w'.cell? ⟨Z.lb,0,none⟩=some (.slice (some ⟨Z.rb,0,none⟩) n n)) wr.drew/\(fun _:World=>True) wr.drew:=⟨x0,trivial⟩
   refine wp_region_noPanic ?_;refine zkd (fun w':World=>w'.cell? ⟨Z.lb,0,none⟩=some (.slice (some ⟨Z.rb,0,none⟩) n n)) (fun _:World=>True) 7 (by kernel_rfl) ?_;refine zT 0 hS0 ?_;(try simp only[zQ]);refine zT 1 hS0 ?_;(try simp only[zQ]);refine zT 2 hS0 ?_;(try simp only[zQ]);refine zT 3 hS0 ?_;(try simp only[zQ]);refine zT 4 hS0 ?_;(try simp only[zQ]);refine zo 5 fun K hK=>?_;(try simp only[zA,zB,zC]);go_simp;refine hK.out _ _ ⟨z9,trivial⟩ ?_;clear hK K hS0 hmk;(try simp only[zQ]);refine zo 6 fun K hK=>?_;(try simp only[zA,zB,zC]);go_simp;refine hK.out _ _ ⟨z9,trivial⟩ ?_;clear hK K;(try simp only[zQ]);refine zp 7 fun K hK=>?_;(try simp only[zA,zB,zC]);go_simp;refine hK.out _ _ y1 ?_;clear hK K;(try simp only[zQ]);refine zd ?_;refine NoPanic.normal ?_;clear x0 x2 cf eX z9 y1;go_wp2_with fail;refine mq.out.mono ?_;rintro e w6 (⟨rfl,C6,j6,c6,h6,q6⟩|⟨rfl,pre6,C6,j6,h6⟩)
   ·have fq:=zh (show J (pre++(List.range (j+1)).flatMap fun(i:Nat)=>G (lo+(i:Int))) C6 w6/\(∀ b,C6 b->C b\/W.heap.size<=b)/\Chg (fun b=>C b\/b=Z.rb) W w6/\RowQ Z bs.length w6 p m f from
     ⟨by rw[HST.out,<-List.append_assoc];exact j6,fun b hb=>(c6 b hb).elim (HI.out.2.1 b) fun h=>.inr (Nat.le_trans bJ.out.2.1 h),bJ.out.1.trans2 h6 fun b hb h=>by
      rcases h with h|h|h
      ·exact(HI.out.2.1 b h).elim .inl fun h=>by omega
      ·exact .inr h
      ·have:=bJ.out.2.2;have h:b=g:=h;omega,q6.dropL.congr fun j hj=>by
       have hj':j≠c:=by have:=oM.out.2.1;omega
       exact⟨if_neg hj',if_neg hj'⟩⟩)
    clear j6 c6 h6 q6 y0;go_wp2_with fail
    go_roundw
    case rel=>exact⟨j+1,C6,by omega,by go_num,fq⟩
    case measure=>simp[intOf];omega
   ·have fq:=zh (show Jx pre6 C6 w6/\Chg (fun b=>C b\/b=Z.rb) W w6 from ⟨j6,bJ.out.1.trans2 h6 fun b hb h=>by
      rcases h with h|h|h
      ·exact(HI.out.2.1 b h).elim .inl fun h=>by omega
      ·exact .inr h
      ·have:=bJ.out.2.2;have h:b=g:=h;omega⟩)
    clear j6 h6 y0;go_wp2_with fail;go_ret;exact .inr ⟨rfl,pre6,C6,fq.out.1,fq.out.2⟩
  ·obtain rfl:j=T:=by omega
   have hj1:¬ (j:Int)<hi'-lo+1:=by omega
   go_wp2_with fail;go_ret;obtain⟨i1,i2,i3,i4⟩:=HI.out;have:=oM.out.1;rw[this] at i4;exact .inl ⟨rfl,C',i1,i2,i3,i4⟩
theorem zsd {J Jx:List SS->(Nat->Prop)->World->Prop} {Z:DK} {bs rs:List Bn} {b0:Bn} {h nf:Nat} {B:Nat->Prop} {tot:List SS} (hj:JC J Jx nf Z.l tot) (hb:DB bs h) (hN:∀ k,NumC J Jx Z bs h B tot rs k):zu3 J Jx Z bs h B tot (b0::rs):=by
 intro p m f pre C W left hrs hpl hJ hD hQ hS hm hm2 hleft hpre;have lh:p.length<bs.length:=by have:=congrArg List.length hrs;rw[List.length_drop] at this;simp at this;omega
 have nD:bs.drop (p.length+1)=rs:=by rw[<-List.drop_drop,hrs];rfl
 have hb0:bs[p.length]=b0:=by have:=List.drop_eq_getElem_cons lh;rw[hrs] at this;injection this with h1 _;exact h1.symm
 have hwb:=zrC (bs:=rs) (h:=h) (by rw[<-nD];exact zqR hb.b _) (by rw[<-nD,List.length_drop];have:=hb.n;omega) hb.hm;have hbb:=hb.b b0 (by rw[<-hb0];exact List.getElem_mem lh);have x0:W.cell? ⟨Z.lb,0,none⟩=some (.slice (some ⟨Z.rb,0,none⟩) bs.length bs.length):=zc hD.lists rfl;have x2:W.cell? ⟨Z.hb,0,none⟩=some (.int .i64 (h:Int)):=zc hD.hv rfl;have x3:W.cell? ⟨Z.tb,0,none⟩=some (.slice (some ⟨Z.tr,0,none⟩) (bs.length+1) Z.tc):=zc hD.rest rfl;have x1:W.cell? ⟨Z.bb,0,none⟩=some (.slice Z.A bs.length Z.c):=zc hD.ls rfl;obtain⟨x4,x5⟩:=hD.rst (p.length+1) lh;obtain⟨a,hA,-,x6,x7⟩:=hD.row p.length lh;rw[hA] at x1;rw[hb0] at x6 x7;rw[nD] at x4 x5;obtain⟨l0,l1⟩:=b0;simp only at hbb x6 x7;have hbn:=hb.n;have sQ:=hb.hm;have jU:=hb.h1;obtain⟨n,hn⟩:∃ n,bs.length=n:=⟨_,rfl⟩
 obtain⟨c,hc⟩:∃ c,p.length=c:=⟨_,rfl⟩
 obtain⟨w0,hw0⟩:∃ x,wlo rs=x:=⟨_,rfl⟩
 obtain⟨w1,hw1⟩:∃ x,whi h rs=x:=⟨_,rfl⟩
 rw[hw0,hw1] at hwb;rw[hn] at x0 x1 x3 hbn;rw[hc,hw0] at x4;rw[hc,hw1] at x5;rw[hc] at x6 x7;have hcn:c<n:=by omega
 obtain⟨Q,uD⟩:∃ x,(left-w1+(h:Int)-1).tdiv (h:Int)=x:=⟨_,rfl⟩
 have uC : -100000010000<=Q/\Q<=100000010000:=by
  have h1:=Int.natAbs_tdiv_le_natAbs (left-w1+(h:Int)-1) (h:Int);rw[uD] at h1;omega
 obtain⟨lo,hlo⟩:∃ x,max (l0:Int) Q=x:=⟨_,rfl⟩
 obtain⟨hi',hhi⟩:∃ x,min (l1:Int) (left-(w0:Int))=x:=⟨_,rfl⟩
 have hlo0:0<=lo:=by omega
 have hlo1:lo<=100000010000:=by omega
 have hhi1:hi'<=1000:=by omega
 have hhi2 : -100000000000<=hi':=by omega
 obtain⟨G,hG⟩:∃ G:Int->List SS,G=fun r=>(numE h rs (zkW h rs) r.toNat left).map fun z=>stOf (p++hdA [] z):=⟨_,rfl⟩
 have hX:(zkW h ((l0,l1)::rs) left).map (fun ls=>stOf (p++ls))=(List.range (hi'-lo+1).toNat).flatMap fun(j:Nat)=>G (lo+(j:Int)):=by
  have e:∀ z:List (List Int),hdA [] z=z:=fun z=>by cases z<;>rfl
  rw[<-znC,zkW,List.map_flatMap,hw0,hw1,uD,hlo,hhi,hG];simp only[e]
 rw[hX] at hpre ⊢;obtain⟨T,hT⟩:∃ T:Nat,(hi'-lo+1).toNat=T:=⟨_,rfl⟩
 rw[hT] at hpre ⊢;have HJ:=zh hj;have mi:=zh hJ;have HD:=zh hD;have HQ:=zh hQ;have HS:=zh hS;have dE:=zh hpre;have HN:=zh hN;have HM:=zh hm;have u7:=zh hm2;have kR:=zh nD;have HG:=zh hG;have oM:=zh (show bs.length=n/\p.length=c/\p.length+1<=bs.length from ⟨hn,hc,lh⟩);rw[hn,hc];exact zsc x0 x2 x3 x1 x4 x5 x6 x7 hwb hbb hbn sQ jU hcn hleft uD uC hlo hhi hlo0 hlo1 hhi1 hhi2 hT HJ mi HD HQ HS dE HN HM u7 kR HG oM
theorem zqA {J Jx:List SS->(Nat->Prop)->World->Prop} {Z:DK} {bs:List Bn} {h nf:Nat} {B:Nat->Prop} {tot:List SS} (hj:JC J Jx nf Z.l tot) (hb:DB bs h) (hl:∀ W,DW Z bs h B W->Z.l<W.heap.size):∀ rs,zu3 J Jx Z bs h B tot rs
 | []=>zt2 hj hb hl
 | b::rs=>zsd hj hb fun k=>by
  induction k with
  | zero=>exact ztT hb (zqA hj hb hl rs)
  | succ k ih=>exact ztU hj hb ih
theorem zvD:(Tryz.prog.info? 32).map (fun i=>(i.zero,i.size,i.bytes))=some (some (.slice none 0 0),1,24):=by kernel_rfl
theorem zxF (n:Nat) (hn:n<=4096) (w:World):(Instr.makeSlice 31 (.int .i64 (n:Int)) (.int .i64 (n:Int))).run Tryz.prog w=.ok (.slice (some ⟨w.heap.size,0,none⟩) n n) (w.alloc (.cells (madeCells #[.slice none 0 0] n) 32)):=by
 obtain⟨i,hi,h1,h2,h3⟩:=info_parts zvD;have:=zld (P:=Tryz.prog) 31 32 i (.slice none 0 0) Tryz.underlying31 hi h1 .i64 .i64 n n (Nat.le_refl _) (by rw[h3];omega) (by omega) w;rw[h2,Nat.mul_one] at this;exact this
theorem zmB {w:World} {n:Nat} (hn:w.heap.size=n) (o:Obj):(w.alloc o).heap[n]?=some o:=by rw[<-hn];exact World.alloc_heap_new w o
theorem al8 (W:World) (o0 o1 o2 o3 o4 o5 o6 o7:Obj) :
  Below W.heap.size W ((((((((W.alloc o0).alloc o1).alloc o2).alloc o3).alloc o4).alloc o5).alloc o6).alloc o7)/\((((((((W.alloc o0).alloc o1).alloc o2).alloc o3).alloc o4).alloc o5).alloc o6).alloc o7).heap.size=W.heap.size+8 /\
  ∀ k,k<8->((((((((W.alloc o0).alloc o1).alloc o2).alloc o3).alloc o4).alloc o5).alloc o6).alloc o7).heap[W.heap.size+k]?=[o0,o1,o2,o3,o4,o5,o6,o7][k]?:=by
 refine⟨zkc (zkc (zkc (zkc (zkc (zkc (zkc (zkc (Below.refl _ _) _) _) _) _) _) _) _) _,by simp,fun k hk=>?_⟩;have h:k=0\/k=1\/k=2\/k=3\/k=4\/k=5\/k=6\/k=7:=by omega
 rcases h with rfl|rfl|rfl|rfl|rfl|rfl|rfl|rfl
 ·exact zkf (zkf (zkf (zkf (zkf (zkf (zkf (zmB rfl _) _) _) _) _) _) _) _
 ·exact zkf (zkf (zkf (zkf (zkf (zkf (zmB (by simp) _) _) _) _) _) _) _
 ·exact zkf (zkf (zkf (zkf (zkf (zmB (by simp) _) _) _) _) _) _
 ·exact zkf (zkf (zkf (zkf (zmB (by simp) _) _) _) _) _
 ·exact zkf (zkf (zkf (zmB (by simp) _) _) _) _
 ·exact zkf (zkf (zmB (by simp) _) _) _
 ·exact zkf (zmB (by simp) _) _
 ·exact zmB (by simp) _
theorem zn6 {J Jx:List SS->(Nat->Prop)->World->Prop} {bs:List Bn} {h nf l tr c ct:Nat} {A:Option Addr} {R:Nat->Prop} {tot pre:List SS} {C:Nat->Prop} {W:World} {weight:Int} (hj:JC J Jx nf l tot) (hb:DB bs h) (hl:l<W.heap.size)
  (hJ:J pre C W) (hrb:RowB W R A bs) (hrt:zpF W tr h bs) (hR:∀ b,R b->¬ C b) (htr:¬ C tr) (htl:tr<W.heap.size) (hw:0<=weight/\weight<=100000000000) (hpre:(pre++(zkW h bs weight).map stOf) <+: tot) :
  Calls Tryz.prog 81 #[.slice A bs.length c,.slice (some ⟨tr,0,none⟩) (bs.length+1) ct,.int .i64 (h:Int),.int .i64 weight,.func (.yield l) #[] #[]] W fun e W' =>
   ∃ b,e=.returned (.bool b)/\((b=true/\∃ C',J (pre++(zkW h bs weight).map stOf) C' W'/\(∀ b,C' b->C b\/W.heap.size<=b)/\Chg C W W')\/(b=false/\∃ pre' C',Jx pre' C' W'/\Chg C W W')):=by
 have hmk:=zxF bs.length (by have:=hb.n;omega);have h8:=fun o0 o1 o2 o3 o4 o5 o6 o7=>al8 W o0 o1 o2 o3 o4 o5 o6 o7;obtain⟨N,hN⟩:∃ N,W.heap.size=N:=⟨_,rfl⟩
 have H8:=zh (show ∀ W',W'=((((((((W.alloc (.cells #[.slice A bs.length c] 93)).alloc (.cells #[.slice (some ⟨tr,0,none⟩) (bs.length+1) ct] 93)).alloc (.cells #[.int .i64 (h:Int)] 3)).alloc (.cells #[.func (.yield l) #[] #[]] 135)).alloc (.cells (madeCells #[.slice none 0 0] bs.length) 32)).alloc (.cells #[.slice (some ⟨N+1+1+1+1,0,none⟩) bs.length bs.length] 31)).alloc (.cells #[.func (.func 112) #[] (DK.cap1 ⟨l,N+1+1+1+1+1,N+1+1+1,N,N+1,N+1+1,N+1+1+1+1+1+1+1,N+1+1+1+1+1+1,N+1+1+1+1,tr,A,c,ct⟩)] 175)).alloc (.cells #[.func (.func 113) #[] (DK.cap2 ⟨l,N+1+1+1+1+1,N+1+1+1,N,N+1,N+1+1,N+1+1+1+1+1+1+1,N+1+1+1+1+1+1,N+1+1+1+1,tr,A,c,ct⟩)] 176)) ->
   Calls Tryz.prog 112 (#[.int .i64 (([]:List (List Int)).length:Int),.int .i64 weight]++DK.cap1 ⟨l,N+1+1+1+1+1,N+1+1+1,N,N+1,N+1+1,N+1+1+1+1+1+1+1,N+1+1+1+1+1+1,N+1+1+1+1,tr,A,c,ct⟩) W' fun e W'=>∃ b,e=.returned (.bool b)/\(
   (b=true/\∃ C',J (pre++(zkW h bs weight).map stOf) C' W'/\(∀ b,C' b->C b\/N<=b)/\Chg C W W')\/(b=false/\∃ pre' C',Jx pre' C' W'/\Chg C W W')) from fun W' hW'=>by
  obtain⟨hbl,hsz,hat⟩:=h8 (.cells #[.slice A bs.length c] 93) (.cells #[.slice (some ⟨tr,0,none⟩) (bs.length+1) ct] 93) (.cells #[.int .i64 (h:Int)] 3) (.cells #[.func (.yield l) #[] #[]] 135) (.cells (madeCells #[.slice none 0 0] bs.length) 32) (.cells #[.slice (some ⟨N+1+1+1+1,0,none⟩) bs.length bs.length] 31) (.cells #[.func (.func 112) #[] (DK.cap1 ⟨l,N+1+1+1+1+1,N+1+1+1,N,N+1,N+1+1,N+1+1+1+1+1+1+1,N+1+1+1+1+1+1,N+1+1+1+1,tr,A,c,ct⟩)] 175) (.cells #[.func (.func 113) #[] (DK.cap2 ⟨l,N+1+1+1+1+1,N+1+1+1,N,N+1,N+1+1,N+1+1+1+1+1+1+1,N+1+1+1+1+1+1,N+1+1+1+1,tr,A,c,ct⟩)] 176);rw[<-hW'] at hbl hsz hat
  rw[hN] at hsz hat
  have hCN:∀ b,C b->b<N:=fun b h=>by rw[<-hN];exact hj.lt _ _ _ hJ b h
  have hlN:l<N:=by omega
  have htN:tr<N:=by omega
  have qU:∀ b,N<=b->b<N+8->b≠N+4->((R b/\b<N)\/b=tr\/(N<=b/\b<N+8/\b≠N+4)):=fun b h1 h2 h3=>.inr (.inr ⟨h1,h2,h3⟩);have hL:=zqA (Z:=⟨l,N+1+1+1+1+1,N+1+1+1,N,N+1,N+1+1,N+1+1+1+1+1+1+1,N+1+1+1+1+1+1,N+1+1+1+1,tr,A,c,ct⟩) (B:=fun b=>(R b/\b<N)\/b=tr\/(N<=b/\b<N+8/\b≠N+4)) hj hb (fun w hd=>by have:=hd.lt N (.inr (.inr ⟨by omega,by omega,by omega⟩));show l<_;omega) (rs:=bs) [] (fun _=>0) (fun _=>0) pre C W' weight rfl (Nat.zero_le _) (hj.keep _ _ _ _ hJ (Chg.of_below hbl))
   ⟨hat 5 (by decide),hat 3 (by decide),hat 0 (by decide),hat 1 (by decide),hat 2 (by decide),hat 7 (by decide),hat 6 (by decide),(hrb.keep (S':=fun b=>(R b/\b<N)\/b=tr\/(N<=b/\b<N+8/\b≠N+4)) (fun b h hlt=>.inl ⟨h,by omega⟩) fun b _ hlt=>hbl.block b hlt),hrt.keep (hbl.block _ htl),⟨qU (N+1+1+1+1+1) (by omega) (by omega) (by omega),qU (N+1+1+1) (by omega) (by omega) (by omega),qU (N) (by omega) (by omega) (by omega),qU (N+1) (by omega) (by omega) (by omega),qU (N+1+1) (by omega) (by omega) (by omega),qU (N+1+1+1+1+1+1+1) (by omega) (by omega) (by omega),qU (N+1+1+1+1+1+1) (by omega) (by omega) (by omega),.inr (.inl rfl)⟩,fun b h=>by rw[hsz];rcases h with h|h|h<;>omega⟩
   ⟨⟨_,hat 4 (by decide),by rw[size_madeCells],fun j hj=>absurd hj (Nat.not_lt_zero j)⟩,fun j hj=>absurd hj (Nat.not_lt_zero j),fun j hj=>absurd hj (Nat.not_lt_zero j),fun i j hi=>absurd hi (Nat.not_lt_zero i),fun x hx=>by cases hx⟩
   ⟨fun b h hc=>by
    have:=hCN b hc;rcases h with h|rfl|h
    ·exact hR b h.1 hc
    ·exact htr hc
    ·omega,fun h=>by have:=hCN _ h;simp only at this;omega,fun j hj=>absurd hj (Nat.not_lt_zero j),fun h=>by simp only at h;omega,fun j hj=>absurd hj (Nat.not_lt_zero j)⟩
   (fun j hj=>absurd hj (Nat.not_lt_zero j)) (fun j hj=>absurd hj (Nat.not_lt_zero j)) hw (by simpa only[List.nil_append] using hpre)
  refine hL.mono ?_;have hch:∀ {w':World},Chg (fun b=>C b\/b=N+1+1+1+1) W' w'->Chg C W w':=fun h=>(Chg.of_below hbl).trans2 h fun b hb h=>h.elim id fun h=>by omega
  rintro e w' (⟨rfl,C',h1,h2,h3,-⟩|⟨rfl,pre',C',h1,h2⟩)
  ·exact⟨_,rfl,.inl ⟨rfl,C',by simpa only[List.nil_append] using h1,fun b h=>(h2 b h).imp id fun h=>by omega,hch h3⟩⟩
  ·exact⟨_,rfl,.inr ⟨rfl,pre',C',h1,hch h2⟩⟩)
 clear h8 hj hb hJ hrb hrt hR hpre htr;go_enter Tryz.func81,Tryz.ntmps81;rw[hN];go_wp2_with fail;refine(H8.out _ rfl).mono ?_;rintro e w2 ⟨b,rfl,hP⟩;have HP:=zh hP;clear hP H8;go_wp2_with fail;go_ret;exact⟨b,rfl,HP.out⟩
structure AllM (W:World) (S:Nat->Prop) (b:BX) (bs:List Bn) (iP xb lb:Nat) (A:Option Addr) (c:Nat):Prop where
 ok:W.heap[iP]?=some (.cells #[.bool true] 4 (0,0))
 bx:W.heap[xb]?=some (.cells #[.int .i64 b.v,.int .i64 b.l,.int .i64 b.i] 27 (0,0))
 ls:W.heap[lb]?=some (.cells #[.slice A bs.length c] 93 (0,0))
 row:RowB W S A bs
def allS (b:BX) (bs:List Bn):List SS:=(allB (2*b.v+1) bs).map stOf
theorem zpK {W:World} {S:Nat->Prop} {b:BX} {bs:List Bn} {iP xb lb c nf:Nat} {A:Option Addr} (hM:AllM W S b bs iP xb lb A c) (hv:0<=b.v/\b.v<=1000) (hn:1<=bs.length/\bs.length<=100) (hb:∀ q∈bs,q.1<=1000/\q.2<=1000) :
  zw5 YS nf Tryz.prog 79 #[ptr0 iP,ptr0 xb,ptr0 lb] (allS b bs) (fun q=>q=iP\/q=xb\/q=lb\/S q) W:=by
 intro l J Jx C W1 hl0 lL hch hJ nT hY h0;refine(callsIn_wide (n:=nf)).2 ?_;obtain⟨v,vl,vi⟩:=b;obtain⟨h,hh⟩:∃ h:Nat,2*v+1=(h:Int):=⟨(2*v+1).toNat,by simp only at hv;omega⟩
 simp only at hv;have hdb:DB bs h:=⟨hn.2,hb,by omega,by omega,hn.1⟩
 have hxs:allS ⟨v,vl,vi⟩ bs=(List.range (whi h bs-wlo bs+1).toNat).flatMap fun(j:Nat)=>(zkW h bs (wlo bs+(j:Int))).map stOf:=by
  unfold allS allB;simp only;rw[hh,List.map_flatMap,znC (F:=fun w=>(zkW h bs w).map stOf)]
 obtain⟨xs,hx⟩:∃ x,allS ⟨v,vl,vi⟩ bs=x:=⟨_,rfl⟩
 rw[hx] at hY hxs ⊢;have wN:=zh (show JC J Jx nf l xs from ⟨hJ,nT,hY⟩);have hbd:=zrC (h:=h) hb (by omega) (by omega);have x0:W1.cell? ⟨iP,0,none⟩=some (.bool true):=zc (hch.keep hM.ok fun h=>lL _ h (.inl rfl)) rfl;have x1:W1.cell? ⟨xb,0,none⟩=some (.int .i64 v):=zc (hch.keep hM.bx fun h=>lL _ h (.inr (.inl rfl))) rfl;have hk2:=hch.keep hM.ls fun h=>lL _ h (.inr (.inr (.inl rfl)));have x2:W1.cell? ⟨lb,0,none⟩=some (.slice A bs.length c):=zc hk2 rfl;have hnl:¬ C lb:=fun h=>lL _ h (.inr (.inr (.inl rfl)));have hrb:=hM.row.keep (w':=W1) (S':=fun q=>¬ C q/\q<W1.heap.size) (fun q h hlt=>⟨fun hc=>lL q hc (.inr (.inr (.inr h))),Nat.lt_of_lt_of_le hlt hch.size⟩) fun q h hlt=>hch.block q hlt fun hc=>lL q hc (.inr (.inr (.inr h)));have vN:=zpM bs h A c W1 (hrb.keep (S':=Any) (fun _ _ _=>trivial) fun _ _ _=>rfl) (by omega) hb (by omega);obtain⟨w0,hw0⟩:∃ x,wlo bs=x:=⟨_,rfl⟩
 obtain⟨w1,hw1⟩:∃ x,whi h bs=x:=⟨_,rfl⟩
 rw[hw0,hw1] at hbd hxs;obtain⟨T,hT⟩:∃ T,(w1-(w0:Int)+1).toNat=T:=⟨_,rfl⟩
 rw[hT] at hxs;have HWE:=zh vN;have dZ:=zh hrb;have yA:=zh hdb;have wC:=zh hxs;have H0:=zh h0;have aK:=zh hk2;have xZ:=zh hnl;have HW:=zh (show wlo bs=w0/\whi h bs=w1 from ⟨hw0,hw1⟩);have HL0:=zh hl0;have hnn:=hn;obtain⟨n,hn'⟩:∃ n,bs.length=n:=⟨_,rfl⟩
 have HN:=zh hn';rw[hn'] at x2 HWE hnn;clear hM hv hn hb hl0 lL hch hJ nT hY h0 hdb hxs hrb vN hw0 hw1 hx hk2 hnl hn'
 show Calls Tryz.prog 79 #[.func (.yield l) #[] #[],ptr0 iP,ptr0 xb,ptr0 lb] W1 _
 have e1:IntKind.i64.wrap (2*v)=2*v:=IntWalk.i64_in _ (by have:=yA.out.hm;omega);have e2:IntKind.i64.wrap (2*v+1)=(h:Int):=by rw[hh];exact IntWalk.i64_in _ (by have:=yA.out.hm;omega)
 have HHH:=zh hh;clear hh;go_enter Tryz.func79,Tryz.ntmps79;go_wp2_with fail;refine HWE.out.mono ?_;rintro e w2 ⟨tr,rfl,htr,xh,hb2⟩;obtain⟨y0,y1⟩:=xh 0 (Nat.zero_le _);rw[List.drop_zero,HW.out.1] at y0;rw[List.drop_zero,HW.out.2] at y1;rw[Nat.zero_mul] at y0 y1;have HRP:=zh xh;have HB2:=zh hb2;have wH:=zh htr;have hp0:(0:Int)<(n:Int)+1:=by omega
 have e3:IntKind.i64.wrap (w1-(w0:Int))=w1-(w0:Int):=IntWalk.i64_in _ (by omega);have e4:IntKind.i64.wrap (w1-(w0:Int)+1)=w1-(w0:Int)+1:=IntWalk.i64_in _ (by omega);clear xh htr x0 x1 x2 e1 e2;go_upto_region 3 with fail
 go_quiet (fail)
 have hb3:=zkZ (Below.refl w2.heap.size w2) nq;obtain⟨w3,hw3⟩:∃ x,w2.drewN nq=x:=⟨_,rfl⟩
 rw[hw3] at hb3;rw[hw3];have HB3:=zh (zka hb2 hb3);have HRP3:=zh (HRP.out.keep (hb3.block _ (World.block_lt_of_cell? w2 _ y0)));have HTL:=zh (World.block_lt_of_cell? w2 _ y0);clear hw3 hb3 hb2 y0 y1 e3 e4;go_wp2_with fail;obtain⟨G,hG⟩:∃ G:Nat->List SS,G=fun(j:Nat)=>(zkW h bs (w0+(j:Int))).map stOf:=⟨_,rfl⟩
 have HG:=zh hG;have hxs:=wC.out;rw[show(fun(j:Nat)=>(zkW h bs (w0+(j:Int))).map stOf)=G from hG.symm] at hxs;have wC:=zh hxs;clear hG hxs
 go_loopw [27] (fun iv wr=>∃ (j:Nat) (C':Nat->Prop),j<=T/\iv=.int .i64 j/\Hid (J ((List.range j).flatMap G) C' wr/\(∀ b,C' b->C b\/W1.heap.size<=b)/\Chg C W1 wr)/\Hid (¬ C' tr/\zpF wr tr h bs)) (fun iv _=>T-(intOf iv).toNat)
 case atStart=>exact⟨0,C,Nat.zero_le _,rfl,zh ⟨wN.out.keep _ _ _ _ H0.out (Chg.of_below HB3.out),fun b h=>.inl h,Chg.of_below HB3.out⟩,zh ⟨fun h=>by have:=wN.out.lt _ _ _ H0.out _ h;have:=wH.out;omega,HRP3.out⟩⟩
 case round =>
  obtain⟨j,C',hjT,rfl,HI,kR⟩:=hrel;by_cases hlt:j<T
  ·have hj1:(j:Int)<w1-(w0:Int)+1:=by omega
   have hsz:=HI.out.2.2.size;have y0:wr.cell? ⟨tr,0,none⟩=some (.int .i64 (w0:Int)):=by have:=(kR.out.2 0 (Nat.zero_le _)).1;rwa[List.drop_zero,HW.out.1,Nat.zero_mul] at this
   have x2:wr.cell? ⟨lb,0,none⟩=some (.slice A n c):=by rw[<-HN.out];exact zc (HI.out.2.2.keep aK.out xZ.out) rfl
   have hpre:(List.range j).flatMap G++(zkW h bs ((w0:Int)+(j:Int))).map stOf <+: xs:=by
    rw[wC.out];have:=znQ (F:=G) (g:=fun i=>i) hlt;rwa[HG.out] at this ⊢
   have e1:IntKind.i64.wrap ((w0:Int)+(j:Int))=(w0:Int)+(j:Int):=IntWalk.i64_in _ (by omega);have htl:tr<wr.heap.size:=World.block_lt_of_cell? wr _ y0
   have HDI:=zh (fun w' (hbw:Below wr.heap.size wr w')=>show Calls Tryz.prog 81 #[.slice A bs.length c,.slice (some ⟨tr,0,none⟩) (bs.length+1) (n+1),.int .i64 (h:Int),.int .i64 ((w0:Int)+(j:Int)),.func (.yield l) #[] #[]] w' (fun e w9=>∃ b,e=.returned (.bool b)/\((b=true/\∃ C9,J ((List.range (j+1)).flatMap G) C9 w9/\(∀ q,C9 q->C q\/W1.heap.size<=q)/\Chg C W1 w9/\¬ C9 tr/\zpF w9 tr h bs)\/(b=false/\∃ pre' C9,Jx pre' C9 w9/\Chg C W1 w9))) from (zn6 (c:=c) (ct:=n+1) (A:=A) (R:=fun q=>¬ C q/\q<W1.heap.size) (tr:=tr) (pre:=(List.range j).flatMap G) (C:=C') (W:=w') (weight:=(w0:Int)+(j:Int)) wN.out yA.out (by have:=HL0.out;have:=hbw.size;omega) (wN.out.keep _ _ _ _ HI.out.1 (Chg.of_below hbw)) ((dZ.out.keep (fun q h _=>h) fun q h hlt=>HI.out.2.2.block q hlt h.1).later hbw) (kR.out.2.keep (hbw.block _ htl)) (fun q h hc=>(HI.out.2.1 q hc).elim h.1 fun h'=>by omega) kR.out.1 (Nat.lt_of_lt_of_le htl hbw.size) (by omega) hpre).mono
    fun e w9 ⟨b,hb,hr⟩=>⟨b,hb,by
     have hch:∀ {D:World},Chg C' w' D->Chg C W1 D:=fun h=>(HI.out.2.2.trans2 (Chg.of_below hbw (C:=fun _=>False)) fun _ _ h=>h.elim).trans2 h fun q hq h=>(HI.out.2.1 q h).elim id fun h'=>by omega
     rcases hr with⟨rfl,C9,h1,h2,h3⟩|⟨rfl,pre',C9,h1,h2⟩
     ·refine .inl ⟨rfl,C9,?_,fun q hq=>(h2 q hq).elim (HI.out.2.1 q) fun h=>.inr (Nat.le_trans hsz (Nat.le_trans hbw.size h)),hch h3,fun h=>(h2 _ h).elim kR.out.1 fun h=>by have:=hbw.size;omega,kR.out.2.keep ((h3.block _ (Nat.lt_of_lt_of_le htl hbw.size) kR.out.1).trans (hbw.block _ htl))⟩;rw[List.range_succ,List.flatMap_append];have e:[j].flatMap G=(zkW h bs ((w0:Int)+(j:Int))).map stOf:=by rw[HG.out];simp
      rw[e];exact h1
     ·exact .inr ⟨rfl,pre',C9,h1,hch h2⟩⟩)
   rw[HN.out] at HDI;clear hpre htl;go_upto_region 6 with fail
   go_region_with (refine(HDI.out _ (by first|exact(Below.refl _ _).drew|exact zkZ (Below.refl _ _) _)).mono ?_;rintro e w9 ⟨b9,rfl,hR9⟩)
   all_goals
    have j3:=zh hR9;clear hR9 y0 x2;(try simp only[zQ])
    cases b9
    ·obtain⟨h0,-⟩|⟨-,pre',C9,j9,h9⟩:=j3.out
     ·cases h0
     have HF:=zh (And.intro j9 h9);clear j9 h9;go_wp2_with fail;refine bodyPost_ret (v:=.tuple #[]) (results_none (by rfl) _ _ _) rfl ?_;exact⟨⟨_,rfl⟩,.inr ⟨⟨pre',C9,HF.out.1⟩,HF.out.2⟩⟩
    ·obtain⟨-,C9,j9,c9,h9,t9,r9⟩|⟨h0,-⟩:=j3.out;rotate_left 1
     ·cases h0
     have HF:=zh (And.intro j9 (And.intro c9 h9));have rW:=zh (And.intro t9 r9);clear j9 c9 h9 t9 r9;have sH:IntKind.i64.wrap ((j:Int)+1)=(j:Int)+1:=IntWalk.i64_in _ (by omega);go_wp2_with fail;exact⟨⟨j+1,C9,by omega,by go_num,HF,rW⟩,by simp[intOf];omega⟩
  ·obtain rfl:j=T:=by omega
   have hj1:¬ (j:Int)<w1-(w0:Int)+1:=by omega
   go_wp2_with fail;go_end0;exact⟨⟨_,rfl⟩,.inl ⟨⟨C',by rw[wC.out];exact HI.out.1⟩,HI.out.2.2⟩⟩
theorem zts (vs:List VD) (b:BX) (A:Option Addr) (c:Nat) (w:World) (hrow:RowV w Any A vs) (hl:vs.length<=LV) (hok:(b.ok&&svB vs)=true):Calls Tryz.prog 38 #[.slice A vs.length c,.agg #[.int .i64 b.v,.int .i64 b.l,.int .i64 b.i]] w fun e w' =>
  ∃ iP xb lb A2 c2,e=.returned (.func (.func 79) #[] #[ptr0 iP,ptr0 xb,ptr0 lb])/\Below w.heap.size w w'/\w.heap.size<=iP/\w.heap.size<=xb/\w.heap.size<=lb/\AllM w' (fun q=>w.heap.size<=q) b (lenE vs b) iP xb lb A2 c2:=by
 obtain⟨bv,bl,bi⟩:=b;simp only;have hb1:=zkc (Below.refl w.heap.size w) (.cells #[.int .i64 bv,.int .i64 bl,.int .i64 bi] 27);have hk1:=heap_alloc_new w (.cells #[.int .i64 bv,.int .i64 bl,.int .i64 bi] 27);have ve:=zh (fun w' (hb:Below w.heap.size w w')=>znK vs ⟨bv,bl,bi⟩ A c w' (hrow.later hb) hl);have hlen:=(zmq hok).1;obtain⟨bs,hbs⟩:∃ x,lenE vs ⟨bv,bl,bi⟩=x:=⟨_,rfl⟩
 have iC:=zh hbs;rw[hbs] at hlen ⊢;have HLEN:=zh hlen;clear hrow hl hbs hlen;go_enter Tryz.func38,Tryz.ntmps38;go_upto_region 1 with fail;obtain⟨w1,hw1⟩:∃ x,w.alloc (.cells #[.int .i64 bv,.int .i64 bl,.int .i64 bi] 27)=x:=⟨_,rfl⟩
 rw[hw1] at hb1 hk1 ⊢;obtain⟨x0,x1,x2⟩:=zkr hk1;have HB1:=zh hb1;have aB:=zh hk1;clear hw1 hb1 hk1;go_wp2_with fail;refine(ve.out _ HB1.out).mono ?_;rintro e w2 ⟨hb2,⟨h0,rfl⟩|⟨-,A2,c2,rfl,hrb⟩⟩
 ·rw[hok] at h0;cases h0
 have HB2:=zh (zka HB1.out hb2);have aK:=zh (zkb aB.out hb2);rw[iC.out] at hrb;have dZ:=zh (hrb.keep (S':=fun q=>w.heap.size<=q) (fun q h _=>Nat.le_trans HB1.out.size h) fun _ _ _=>rfl);clear hrb hb2 x0 x1 x2 ve;go_wp2_with fail;go_ret;have hb4:=zkc (zkc HB2.out (.cells #[.slice A2 (vs.length+1) c2] 93)) (.cells #[.bool true] 4);have hb24:Below w2.heap.size w2 ((w2.alloc (.cells #[.slice A2 (vs.length+1) c2] 93)).alloc (.cells #[.bool true] 4)):=zkc (zkc (Below.refl _ _) _) _;have hsz:=HB2.out.size;have hl:=HLEN.out;refine⟨w2.heap.size+1,w.heap.size,w2.heap.size,A2,c2,rfl,hb4,by omega,Nat.le_refl _,hsz,zmB (by simp) _,zkb aK.out hb24,?_,dZ.out.later hb24⟩;rw[hl];exact zkf (zmB rfl _) _
def smlE (vs:List VD) (b:BX):Bool:=decide ((cntR vs b).2=0)&&decide ((cntR vs b).1<=65536)
theorem zrL {vs:List VD} {b:BX} (h:smlE vs b=true):(b.ok&&svB vs)=true/\cntE (2*b.v+1) (lenE vs b)<=65536:=by
 simp only[smlE,Bool.and_eq_true,decide_eq_true_eq] at h;obtain⟨h1,h2⟩:=h;unfold cntR at h1 h2
 split at h1
 ·rename_i h3;rw[if_pos h3] at h2;refine⟨h3,?_⟩
  split at h1
  ·cases h1
  ·rename_i h4;rw[if_neg h4] at h2;exact h2
 ·cases h1
theorem zoj (vs:List VD) (b:BX) (A:Option Addr) (c:Nat) (w:World) (hrow:RowV w Any A vs) (hl:vs.length<=LV):Calls Tryz.prog 37 #[.slice A vs.length c,.agg #[.int .i64 b.v,.int .i64 b.l,.int .i64 b.i]] w fun e w'=>e=.returned (.bool (smlE vs b))/\Below w.heap.size w w':=by
 obtain⟨bv,bl,bi⟩:=b;simp only;have hb1:=zkc (Below.refl w.heap.size w) (.cells #[.int .i64 bv,.int .i64 bl,.int .i64 bi] 27);have hk1:=heap_alloc_new w (.cells #[.int .i64 bv,.int .i64 bl,.int .i64 bi] 27);have vD:=zh (fun w' (hb:Below w.heap.size w w')=>zpH vs ⟨bv,bl,bi⟩ A c w' (hrow.later hb) hl);have HS:=zh (show smlE vs ⟨bv,bl,bi⟩=(decide ((cntR vs ⟨bv,bl,bi⟩).2=0)&&decide ((cntR vs ⟨bv,bl,bi⟩).1<=65536)) from rfl);obtain⟨⟨R1,R2⟩,hR⟩:∃ R,cntR vs ⟨bv,bl,bi⟩=R:=⟨_,rfl⟩
 rw[hR] at vD HS;clear hrow hl hR;go_enter Tryz.func37,Tryz.ntmps37;go_upto_region 1 with fail;obtain⟨w1,hw1⟩:∃ x,w.alloc (.cells #[.int .i64 bv,.int .i64 bl,.int .i64 bi] 27)=x:=⟨_,rfl⟩
 rw[hw1] at hb1 hk1 ⊢;obtain⟨x0,x1,x2⟩:=zkr hk1;have HB1:=zh hb1;clear hw1 hb1 hk1;go_wp2_with fail;refine(vD.out _ HB1.out).mono ?_;rintro e w2 ⟨rfl,hb2⟩;have HB2:=zh (zka HB1.out hb2);clear hb2 x0 x1 x2;by_cases h0:R2=0
 ·subst h0;have HF:=zh (show smlE vs ⟨bv,bl,bi⟩=decide (R1<=65536) by rw[HS.out];simp);go_wp2_with fail;go_ret;exact⟨by rw[HF.out];rfl,HB2.out⟩
 ·have e0:(R2==0)=false:=by simpa using h0
  have HF:=zh (show smlE vs ⟨bv,bl,bi⟩=false by rw[HS.out];simp[h0]);go_wp2_with fail;go_ret;exact⟨by rw[HF.out];rfl,HB2.out⟩
def cdE (vs:List VD) (t:T) (s:SS):Option SS:=if (asgE vs t s).1=0/\fitB vs (asgE vs t s).2=true then some (asgE vs t s).2 else none
def hitE (f:SS->Option SS) (x q:SS):Bool:=match f q with
 | some y=>eqS y x
 | none=>false
theorem zoZ {s t:SS}:eqS s t=true↔s=t:=by
 obtain⟨a,b,c⟩:=s;obtain⟨a',b',c'⟩:=t;simp[eqS,and_assoc]
theorem zpm {f:SS->Option SS} {x q:SS}:hitE f x q=true↔f q=some x:=by
 unfold hitE
 cases h:f q with
 | none=>simp
 | some y=>simp[zoZ]
def zmA (f:SS->Option SS):List SS->List SS->Option (SS×SS)
 | _,[]=>none
 | pre,s::ss=>match f s with
  | none=>zmA f (pre++[s]) ss
  | some x=>match pre.find? (hitE f x) with
   | some q=>some (q,s)
   | none=>zmA f (pre++[s]) ss
def zn7 (f:SS->Option SS) (l:List SS):Prop:=∀ a s b,l=a++s::b->∀ x,f s=some x->∀ q∈a,f q≠some x
theorem zn7.snoc {f:SS->Option SS} {a:List SS} {s:SS} (h:zn7 f a) (hs:∀ x,f s=some x->∀ q∈a,f q≠some x):zn7 f (a++[s]):=by
 intro c r d e x hx q hq;rcases List.eq_nil_or_concat d with rfl|⟨d',y,rfl⟩
 ·have e2:=List.append_inj' (s₁:=a) (s₂:=c) e rfl;obtain⟨rfl,e3⟩:=e2;injection e3 with e3;exact hs x (e3▸hx) q hq
 ·have e2:a++[s]=(c++r::d')++[y]:=by rw[e];simp
  exact h c r d' (List.append_inj' e2 rfl).1 x hx q hq
theorem zn7.find {f:SS->Option SS} {a b:List SS} {s x:SS} (h:zn7 f (a++s::b)) (hx:f s=some x):a.find? (hitE f x)=none :=
 List.find?_eq_none.2 fun q hq=>by
  intro e;exact h a s b rfl x hx q hq (zpm.1 e)
theorem zmG {f:SS->Option SS}:∀ (ss pre:List SS),zn7 f (pre++ss)->zmA f pre ss=none
 | [],_,_=>rfl
 | s::ss,pre,h=>by
  rw[zmA]
  cases hx:f s with
  | none=>exact zmG ss (pre++[s]) (by simpa using h)
  | some x =>
   simp only[h.find hx];exact zmG ss (pre++[s]) (by simpa using h)
theorem zmF {f:SS->Option SS} {s x q:SS} {b:List SS} (hx:f s=some x):∀ (a pre:List SS),zn7 f (pre++a)->(pre++a).find? (hitE f x)=some q->zmA f pre (a++s::b)=some (q,s)
 | [],pre,_,hf=>by
  rw[List.append_nil] at hf;rw[List.nil_append,zmA];simp only[hx,hf]
 | r::a,pre,h,hf=>by
  rw[List.cons_append,zmA]
  cases hy:f r with
  | none=>exact zmF hx a (pre++[r]) (by simpa using h) (by simpa using hf)
  | some y =>
   simp only[h.find hy];exact zmF hx a (pre++[r]) (by simpa using h) (by simpa using hf)
theorem zum {f:SS->Option SS} {a:List SS} {q x:SS} (h:zn7 f a) (hq:q∈a) (hx:f q=some x):a.find? (hitE f x)=some q:=by
 obtain⟨c,d,rfl⟩:=List.append_of_mem hq;rw[List.find?_append,h.find hx];simp[List.find?_cons,zpm.2 hx]
def strS (xs:List Int):ByteArray:=xs.foldl (fun r n=>r.push (UInt8.ofNat n.toNat)) ByteArray.empty
def bysS (xs:List Int):List UInt8:=xs.map fun n=>UInt8.ofNat n.toNat
theorem zoh:∀ (xs:List Int) (r:ByteArray),(xs.foldl (fun r n=>r.push (UInt8.ofNat n.toNat)) r).data.toList=r.data.toList++bysS xs
 | [],r=>by simp[bysS]
 | x::xs,r=>by
  rw[List.foldl_cons,zoh xs];simp[bysS,ByteArray.push]
theorem zpe (xs:List Int):(strS xs).data.toList=bysS xs:=by
 rw[strS,zoh];rfl
theorem zqO:∀ {xs ys:List Int},(∀ x∈xs,0<=x/\x<256)->(∀ y∈ys,0<=y/\y<256)->bysS xs=bysS ys->xs=ys
 | [],[],_,_,_=>rfl
 | [],_::_,_,_,h=>by simp[bysS] at h
 | _::_,[],_,_,h=>by simp[bysS] at h
 | x::xs,y::ys,h1,h2,h=>by
  simp only[bysS,List.map_cons,List.cons.injEq] at h;obtain⟨e1,e2⟩:=h;have b1:=h1 x (by simp);have b2:=h2 y (by simp);have e3:=congrArg UInt8.toNat e1;simp only[UInt8.toNat_ofNat'] at e3;rw[Nat.mod_eq_of_lt (by omega),Nat.mod_eq_of_lt (by omega)] at e3;rw[show x=y by omega,zqO (fun z hz=>h1 z (by simp[hz])) (fun z hz=>h2 z (by simp[hz])) e2]
theorem zwa (n:Int) (i:Nat):0<=byE n i/\byE n i<256:=by unfold byE;omega
theorem znv (n:Int):∀ k,∀ x∈bysE n k,0<=x/\x<256
 | 0,x,h=>by simp[bysE] at h
 | k+1,x,h=>by
  simp only[bysE,List.mem_cons] at h;rcases h with rfl|h
  ·exact zwa n _
  ·exact znv n k x h
theorem zr8 (l:List Int):∀ x∈lsE l,0<=x/\x<256:=fun x h=>by
 obtain⟨y,-,h⟩:=List.mem_flatMap.1 h;exact znv _ _ _ h
theorem zsK (l:List Int):∀ x∈cnE l,0<=x/\x<256:=fun x h=>by
 rcases List.mem_append.1 h with h|h
 ·exact znv _ _ _ h
 ·exact zr8 _ _ h
theorem zsF:∀ (vs:List VD) (ls:List (List Int)),∀ x∈enC vs ls,0<=x/\x<256
 | [],[],x,h=>by simp[enC] at h
 | [],_::_,x,h=>by simp[enC] at h
 | _::_,[],x,h=>by simp[enC] at h
 | v::vs,l::ls,x,h=>by
  simp only[enC,List.mem_append] at h;rcases h with h|h|h
  ·by_cases h3:v.k=3
   ·rw[if_pos h3] at h;exact znv _ _ _ h
   ·rw[if_neg h3] at h;exact absurd h (List.not_mem_nil)
  ·exact zr8 _ _ h
  ·exact zsF vs ls x h
theorem zqK (vs:List VD) (s:SS):∀ x∈encS vs s,0<=x/\x<256:=fun x h=>by
 simp only[encS,List.mem_append] at h;rcases h with h|h|h
 ·exact zsF _ _ _ h
 ·exact zsK _ _ h
 ·exact zsK _ _ h
def kS (vs:List VD) (x:SS):Lit:=.string (bysS (encS vs x))
theorem zwK {vs:List VD} {x y:SS} (hx:fitB vs x=true) (hy:fitB vs y=true) (ix:x.I) (iy:y.I) (h:kS vs x=kS vs y):x=y:=by
 unfold kS at h;injection h with h;exact zut hx hy ix iy (zqO (zqK _ _) (zqK _ _) h)
def hR:Value->Option (DataW Value×List MemPlace):=fun v=>some (.held v,[])
def LoM (W:World) (mb:Nat) (vs:List VD) (f:SS->Option SS) (pre:List SS) (S:Nat->Prop):Prop :=
 ∃ D:DataW Value,W.ownsMap Tryz.prog 9 hR mb pre.length D/\(∀ s∈pre,∀ x,f s=some x->x.I/\∃ v,Maps.has D (kS vs x)=true/\(∀ zd,D.atKey (kS vs x) zd=.held v)/\SV W S s v) /\
  ∀ kl,Maps.has D kl=true->∃ s∈pre,∃ x,f s=some x/\kl=kS vs x
theorem LoM.lt {W:World} {mb:Nat} {vs:List VD} {f:SS->Option SS} {pre:List SS} {S:Nat->Prop} (h:LoM W mb vs f pre S):mb<W.heap.size:=h.choose_spec.1.lt
theorem LoM.keep {W W':World} {mb:Nat} {vs:List VD} {f:SS->Option SS} {pre:List SS} {S S':Nat->Prop} (h:LoM W mb vs f pre S) (hm:W'.heap[mb]?=W.heap[mb]?) (hS:∀ b,S b->b<W.heap.size->S' b) (hk:∀ b,S b->b<W.heap.size->W'.heap[b]?=W.heap[b]?):LoM W' mb vs f pre S':=by
 obtain⟨D,⟨es,clock,hb,r⟩,h2,h3⟩:=h;exact⟨D,⟨es,clock,hm.trans hb,r⟩,fun s hs x hx=>let ⟨i,v,a,b,c⟩:=h2 s hs x hx;⟨i,v,a,b,c.keep hS hk⟩,h3⟩
theorem LoM.skip {W:World} {mb:Nat} {vs:List VD} {f:SS->Option SS} {pre:List SS} {S:Nat->Prop} {s:SS} (h:LoM W mb vs f pre S) (hs:f s=none):LoM W mb vs f (pre++[s]) S:=by
 obtain⟨D,h1,h2,h3⟩:=h;refine⟨D,h1.mono (by simp),fun r hr x hx=>?_,fun kl hk=>?_⟩
 ·rcases List.mem_append.1 hr with hr|hr
  ·exact h2 r hr x hx
  ·rw[List.mem_singleton.1 hr,hs] at hx;cases hx
 ·obtain⟨r,hr,x,hx⟩:=h3 kl hk;exact⟨r,List.mem_append_left _ hr,x,hx⟩
theorem LoM.made (W:World) (vs:List VD) (f:SS->Option SS) (S:Nat->Prop):LoM (W.alloc (.map #[] 0)) W.heap.size vs f [] S :=
 ⟨.map [],World.ownsMap_made W _ _ _,(fun _ h=>by cases h),(fun _ h=>by cases h)⟩
theorem LoM.put {W W':World} {mb:Nat} {vs:List VD} {f:SS->Option SS} {pre:List SS} {S S':Nat->Prop} {s x:SS} {v:Value} {D:DataW Value}
  (h2:∀ s∈pre,∀ x,f s=some x->x.I/\∃ v,Maps.has D (kS vs x)=true/\(∀ zd,D.atKey (kS vs x) zd=.held v)/\SV W S s v) (h3:∀ kl,Maps.has D kl=true->∃ s∈pre,∃ x,f s=some x/\kl=kS vs x) (hD:Maps.IsMap D)
  (hx:f s=some x) (sG:x.I) (hn:Maps.has D (kS vs x)=false) (ho:W'.ownsMap Tryz.prog 9 hR mb (pre.length+1) (D.put (kS vs x) (.held v))) (hv:SV W' S' s v) (hS:∀ b,S b->b<W.heap.size->S' b) (hk:∀ b,S b->b<W.heap.size->W'.heap[b]?=W.heap[b]?):LoM W' mb vs f (pre++[s]) S':=by
 have hkl:WideAt.IsKeyLit (kS vs x):=trivial;refine⟨_,by simpa using ho,fun r hr y hy=>?_,fun kl h=>?_⟩
 ·rcases List.mem_append.1 hr with hr|hr
  ·obtain⟨i,u,a,b,c⟩:=h2 r hr y hy;have hne:kS vs y≠kS vs x:=fun e=>by rw[e,hn] at a;cases a
   exact⟨i,u,by rw[Maps.has_put_other hne];exact a,fun zd=>by rw[Maps.atKey_put_other hne];exact b zd,c.keep hS hk⟩
  ·rw[List.mem_singleton.1 hr] at hy ⊢;rw[hx] at hy;injection hy with hy;subst hy;exact⟨sG,v,Maps.has_put_same hD hkl _,fun zd=>Maps.atKey_put_same hD hkl _ zd,hv⟩
 ·by_cases e:kl=kS vs x
  ·exact⟨s,by simp,x,hx,e⟩
  ·rw[Maps.has_put_other e] at h;obtain⟨r,hr,y,hy⟩:=h3 kl h;exact⟨r,List.mem_append_left _ hr,y,hy⟩
end Go.Proofs.YtghbhbdnkjjnnaaGreat
