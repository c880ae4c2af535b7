/-
  Texts of the proof, put together without their remarks: En1, En2, En3, En4, Rfv, En5, En6, En7, En8, Rfg, Bkv, Rfx, Asg, Eno, Rpa, Apn, Apq, Rst, Rpc.
-/
import Derived.Test.YtembgnhbpmfhpaaGreatV5
import Derived.Deep.Cut
import Derived.Sort.CutIn
set_option linter.unusedSimpArgs false
set_option linter.unusedVariables false
set_option maxHeartbeats 8000000
set_option maxRecDepth 100000
namespace Go.Proofs.YtembgnhbpmfhpaaGreat
open Tryz
section
open Go Go.RowKit
theorem ztg(r:Int)(w:World)(hr:0<=r/\r<=1000000):Calls prog 131 #[.int .i64 r] w fun e w'=>e=.returned (.int .i64 (unrk r))/\w'=w:=by
 obtain⟨q,hq⟩:=zX (r.tdiv 2);obtain⟨m,hm⟩:=zX (r.tmod 2);have hq1:0<=q/\q<=1000000:=by
  rw[<-hq,Int.tdiv_eq_ediv_of_nonneg hr.1];omega
 have hm1:0<=m/\m<2:=by
  rw[<-hm,Int.tmod_eq_emod_of_nonneg hr.1];omega
 have hwq:IntKind.i64.wrap q=q:=IntWalk.i64_in _ (by omega);have yz:IntKind.i64.wrap m=m:=IntWalk.i64_in _ (by omega);have hwq1:IntKind.i64.wrap (q+1)=q+1:=IntWalk.i64_in _ (by omega);have hwq2:IntKind.i64.wrap (-q) = -q:=IntWalk.i64_in _ (by omega);have hr0:¬ r<0:=by omega
 have HU:=zh (show unrk r=if m=1 then q+1 else -q by unfold unrk;rw[if_neg hr0,hq,hm]);by_cases h:m=1
 ·have e1:(m==1)=true:=by simpa using h
  go_enter func131,ntmps131;go_wp2_with fail;go_ret;exact⟨by rw[HU.out,if_pos h];rfl,rfl⟩
 ·have e1:(m==1)=false:=by simpa using h
  go_enter func131,ntmps131;go_wp2_with fail;go_ret;exact⟨by rw[HU.out,if_neg h];rfl,rfl⟩
def RowB(w:World)(S:Nat->Prop)(A:Option Addr)(bs:List Bn):Prop :=
 ∀i (hi:i<bs.length),∃a:Addr,A=some a/\S a.block/\w.cell? (a.add (i*2))=some (.int .i64 (bs[i].1:Int))/\w.cell? ⟨(a.add (i*2)).block,(a.add (i*2)).off+1,none⟩=some (.int .i64 (bs[i].2:Int))
theorem RowB.keep{w w':World}{S S':Nat->Prop}{A:Option Addr}{bs:List Bn}(h:RowB w S A bs)(hS:∀b,S b->b<w.heap.size->S' b)(hk:∀b,S b->b<w.heap.size->w'.heap[b]?=w.heap[b]?):RowB w' S' A bs:=fun i hi=>by
 obtain⟨a,hA,iH,h0,h1⟩:=h i hi;have hlt:a.block<w.heap.size:=by have:=World.block_lt_of_cell? w _ h0;rwa[zkz]at this
 refine⟨a,hA,hS _ iH hlt,zkN h0 ?_,zkN h1 ?_⟩
 all_goals simp only[zkz];exact hk _ iH hlt
theorem RowB.later{w w':World}{S:Nat->Prop}{A:Option Addr}{bs:List Bn}(h:RowB w S A bs)(hb:Below w.heap.size w w'):RowB w' S A bs:=h.keep (fun _ hb _=>hb) fun b _ hlt=>hb.block b hlt
def zqT(w:World)(b:Nat)(h:Int)(bs:List Bn):Prop :=
 ∀i,i<=bs.length->w.cell? ⟨b,i*2,none⟩=some (.int .i64 (wlo (bs.drop i):Int))/\w.cell? ⟨b,i*2+1,none⟩=some (.int .i64 (whi h (bs.drop i)))
theorem zqT.keep{w w':World}{b:Nat}{h:Int}{bs:List Bn}(hr:zqT w b h bs)(hk:w'.heap[b]?=w.heap[b]?):zqT w' b h bs:=fun i hi =>
 ⟨zkN (hr i hi).1 hk,zkN (hr i hi).2 hk⟩
theorem zvW{bs:List Bn}{i:Nat}(hi:i<bs.length):wlo (bs.drop i)=wlo (bs.drop (i+1))+bs[i].1:=by
 unfold wlo;rw[List.drop_eq_getElem_cons hi,List.map_cons,List.sum_cons];omega
theorem zvX{h:Int}{bs:List Bn}{i:Nat}(hi:i<bs.length):whi h (bs.drop i)=whi h (bs.drop (i+1))+bs[i].2*h:=by
 unfold whi;rw[List.drop_eq_getElem_cons hi,List.map_cons,List.sum_cons];omega
theorem zvf:(prog.info? 102).map (fun i=>(i.zero,i.size,i.bytes))=some (some (.agg #[.int .i64 0,.int .i64 0]),2,16):=by kernel_rfl
theorem bMkB(n:Nat)(hn:n<=4096)(w:World):(Instr.makeSlice 98 (.int .i64 (n:Int)) (.int .i64 (n:Int))).run prog w=.ok (.slice (some ⟨w.heap.size,0,none⟩) n n) (w.alloc (.cells (madeCells #[.int .i64 0,.int .i64 0] (n*2)) 102)):=by
 have h:=zvf;obtain⟨i,hi,hz⟩:=Option.map_eq_some_iff.1 h;injection hz with h1 h2;injection h2 with h2 h3;have:=zlu (P:=prog) 98 102 i (.agg #[.int .i64 0,.int .i64 0]) underlying98 hi h1 .i64 .i64 n n zl (by rw[h3];omega) (by omega) w;rw[h2]at this;exact this
def zKA(w:World)(b:Nat)(h:Int)(bs:List Bn)(k:Nat):Prop :=
 ∃us:Array Value,w.heap[b]?=some (.cells us 102 (0,0))/\us.size=(bs.length+1)*2/\∀i,k<=i->i<=bs.length->us[i*2]?=some (.int .i64 (wlo (bs.drop i):Int))/\us[i*2+1]?=some (.int .i64 (whi h (bs.drop i)))
theorem zzM{bs:List Bn}(hb:∀b∈bs,b.1<=1000/\b.2<=1000):wlo bs<=bs.length*1000:=by
 induction bs with
 | nil=>simp[wlo]
 | cons b bs ih =>
  have h1:=hb b (List.mem_cons_self ..);have h2:=ih fun c hc=>hb c (List.mem_cons_of_mem _ hc);have e:wlo (b::bs)=b.1+wlo bs:=by simp[wlo]
  rw[e,List.length_cons];omega
theorem zzN{bs:List Bn}{h:Nat}(hb:∀b∈bs,b.1<=1000/\b.2<=1000):0<=whi h bs/\whi h bs<=bs.length*(1000*h):=by
 induction bs with
 | nil=>exact⟨Int.le_refl _,by rw[List.length_nil];show(0:Int)<=_;omega⟩
 | cons b bs ih =>
  have h1:=hb b (List.mem_cons_self ..);have h2:=ih fun c hc=>hb c (List.mem_cons_of_mem _ hc);have e:whi h (b::bs)=b.2*h+whi h bs:=by unfold whi;rw[List.map_cons,List.sum_cons]
  rw[e,List.length_cons];have h4:((bs.length+1:Nat):Int)*(1000*(h:Int))=bs.length*(1000*(h:Int))+1000*(h:Int):=by rw[Int.natCast_add,Int.add_mul];omega
  have h5:(0:Int)<=(b.2:Int)*(h:Int):=Int.mul_nonneg (by omega) (by omega);have h6:(b.2:Int)*(h:Int)<=1000*(h:Int):=Int.mul_le_mul_of_nonneg_right (by omega) (by omega);omega
theorem ztz{bs:List Bn}{h:Nat}(hb:∀b∈bs,b.1<=1000/\b.2<=1000)(hn:bs.length<=1000)(hh:h<=10000):wlo bs<=1000000/\0<=whi h bs/\whi h bs<=10000000000:=by
 have h1:=zzM hb;have h2:=zzN (h:=h) hb;refine⟨by omega,h2.1,Int.le_trans h2.2 ?_⟩;have h3:(bs.length:Int)*(1000*(h:Int))<=1000*(1000*(h:Int)):=Int.mul_le_mul_of_nonneg_right (by omega) (by omega);omega
theorem zsz{bs:List Bn}(hb:∀b∈bs,b.1<=1000/\b.2<=1000)(i:Nat):∀b∈bs.drop i,b.1<=1000/\b.2<=1000:=fun b h=>hb b (List.mem_of_mem_drop h)
theorem zz1(n i:Nat)(hi:i<n):(madeCells #[Value.int .i64 0,.int .i64 0] n)[i]?=some (.int .i64 0):=by
 unfold madeCells;rw[Array.getElem?_map,Array.getElem?_eq_getElem (by simpa using hi)];have h:i % 2<2:=Nat.mod_lt _ (by decide);rcases Nat.lt_succ_iff_lt_or_eq.1 h with h|h
 ·simp[show i % 2=0 by omega]
 ·simp[h]
theorem setU{W:World}{b o:Nat}{us:Array Value}{ty:TypeId}(v:Value)(h:W.heap[b]?=some (.cells us ty (0,0))):∃W',W.setCell ⟨b,o,none⟩ v=W'/\Chg (fun q=>q=b) W W'/\W'.heap[b]?=some (.cells (us.setIfInBounds o v) ty (0,0)) :=
 ⟨_,rfl,(Chg.refl (fun q=>q=b) W).setCell (p:=⟨b,o,none⟩) (.inl rfl) _,heap_setCell_same W b o us ty v h⟩
theorem zqZ(bs:List Bn)(h:Nat)(A:Option Addr)(c:Nat)(w:World)(hr:RowB w Any A bs)(hn:bs.length<=1000)(hb:∀b∈bs,b.1<=1000/\b.2<=1000)(hh:h<=10000) :
  Calls prog 94 #[.slice A bs.length c,.int .i64 h] w fun e w'=>∃b,e=.returned (.slice (some ⟨b,0,none⟩) (bs.length+1) (bs.length+1))/\w.heap.size<=b/\zqT w' b h bs/\Below w.heap.size w w':=by
 have HR:=zh (hr.keep (S':=fun q=>q<w.heap.size) (fun _ _ h=>h) fun _ _ _=>rfl);have HB:=zh hb;have HH:=zh hh;have hmk:=bMkB (bs.length+1) (by omega) w;obtain⟨n,hnn⟩:=zX (bs.length);rw[hnn]at hn hmk ⊢;rw[show((n+1:Nat):Int)=(n:Int)+1 from rfl]at hmk;have HN:=zh hnn;have hwn:IntKind.i64.wrap ((n:Int)+1)=(n:Int)+1:=IntWalk.i64_in _ (by omega);have yz:IntKind.i64.wrap ((n:Int)-1)=(n:Int)-1:=IntWalk.i64_in _ (by omega);have hk0:=heap_alloc_new w (.cells (madeCells #[.int .i64 0,.int .i64 0] ((n+1)*2)) 102);have hb0:=zkb (zs w) (.cells (madeCells #[.int .i64 0,.int .i64 0] ((n+1)*2)) 102);clear hr hnn hb hh;go_enter func94,ntmps94;go_upto_region 2 with fail;obtain⟨w1,hw1⟩:=zX (w.alloc (.cells (madeCells #[.int .i64 0,.int .i64 0] ((n+1)*2)) 102));rw[hw1]at hb0 hk0 ⊢;have HB0:=zh hb0;have aD:=zh hk0;clear hw1 hb0 hk0 hmk;obtain⟨b,hbb⟩:=zX (w.heap.size);have dC:=zh hbb
 rw[hbb]at aD ⊢;clear hbb;go_wp2_with fail
 go_loopw [6] (fun iv wr=>∃k:Nat,k<=n/\iv=.int .i64 ((k:Int)-1)/\Hid (Chg (fun q=>q=b) w1 wr)/\Hid (zKA wr b h bs k)) (fun iv _=>(intOf iv+1).toNat)
 case atStart =>
  refine⟨n,zl,rfl,zh (Chg.refl _ _),zh ⟨_,aD.out,?_,?_⟩⟩
  ·rw[size_madeCells,HN.out]
  ·intro j h1 h2;obtain rfl:j=n:=by have:=HN.out;omega
   rw[List.drop_of_length_le (by rw[HN.out];exact zl),zz1 _ _ (by omega),zz1 _ _ (by omega)];exact⟨rfl,rfl⟩
 case round =>
  obtain⟨k,hk,rfl,HC,qf⟩:=hrel;by_cases hlt:0<k
  ·obtain⟨i,rfl⟩:∃i,k=i+1:=⟨k-1,by omega⟩
   obtain⟨us,hu,dX,lq⟩:=qf.out;have hin:i<bs.length:=by have:=HN.out;omega
   have hin1:i+1<=bs.length:=by omega
   obtain⟨a,rfl,has,x0,x1⟩:=(HR.out.later HB0.out).keep (w':=wr) (S':=fun q=>q<w.heap.size) (fun _ h _=>h) (fun q h hq=>HC.out.block q hq (fun e=>by have e:q=b:=e;have h:q<w.heap.size:=h;have:=dC.out;omega)) i hin;have e1:((i+1:Nat):Int)-1=(i:Int):=by omega
   rw[e1];have hlt1:(0:Int)<=(i:Int):=by omega
   obtain⟨y0,y1⟩:wr.cell? ⟨b,(i+1)*2,none⟩=some (.int .i64 (wlo (bs.drop (i+1)):Int))/\wr.cell? ⟨b,(i+1)*2+1,none⟩=some (.int .i64 (whi h (bs.drop (i+1)))):=⟨zc hu (lq (i+1) zl hin1).1,zc hu (lq (i+1) zl hin1).2⟩
   obtain⟨z0,hz0⟩:∃u,us[i*2]?=some u:=⟨_,Array.getElem?_eq_getElem (by omega)⟩
   obtain⟨z1,hz1⟩:∃u,us[i*2+1]?=some u:=⟨_,Array.getElem?_eq_getElem (by omega)⟩
   have y2:wr.cell? ⟨b,i*2,none⟩=some z0:=zc hu hz0;have cf:∀o,wr.frozen? ⟨b,o,none⟩=false:=fun o=>zf hu;have hw1:=ztz (zsz HB.out i) (by rw[List.length_drop,HN.out];omega) HH.out;have hw2:=ztz (zsz HB.out (i+1)) (by rw[List.length_drop,HN.out];omega) HH.out;obtain⟨w5,iA,bQ,jr⟩:=setU (o:=i*2) (.int .i64 (wlo (bs.drop i):Int)) hu;have mh:w5.drew.heap[b]?=some (.cells (us.setIfInBounds (i*2) (.int .i64 (wlo (bs.drop i):Int))) 102 (0,0)):=jr;obtain⟨w6,qJ,hc6,sQ⟩:=setU (o:=i*2+1) (.int .i64 (whi h (bs.drop i))) mh;have nP:=zh ((HC.out.trans bQ.drew).trans hc6.drew);have xY:=zh (show zKA w6.drew b h bs i from⟨_,sQ,by simpa using dX,fun j h1 h2=>by
    by_cases e:j=i
    ·subst e;refine⟨?_,?_⟩
     ·rw[Array.getElem?_setIfInBounds_ne (by omega),Array.getElem?_setIfInBounds_self_of_lt (by omega)]
     ·rw[Array.getElem?_setIfInBounds_self_of_lt (by rw[Array.size_setIfInBounds];omega)]
    ·rw[Array.getElem?_setIfInBounds_ne (by omega),Array.getElem?_setIfInBounds_ne (by omega),Array.getElem?_setIfInBounds_ne (by omega),Array.getElem?_setIfInBounds_ne (by omega)];exact lq j (by omega) h2⟩)
   have hwi1:IntKind.i64.wrap ((i:Int)-1)=(i:Int)-1:=IntWalk.i64_in _ (by omega);have hl0:=zvW hin;have hl1:=zvX (h:=h) hin;have hwl:IntKind.i64.wrap ((wlo (bs.drop (i+1)):Int)+(bs[i].1:Int))=(wlo (bs.drop i):Int):=by rw[hl0];exact IntWalk.i64_in _ (by omega)
   have hwm1:IntKind.i64.wrap ((bs[i].2:Int)*(h:Int))=(bs[i].2:Int)*(h:Int):=IntWalk.i64_in _ (by omega);have hwh:IntKind.i64.wrap (whi h (bs.drop (i+1))+(bs[i].2:Int)*(h:Int))=whi h (bs.drop i):=by rw[hl1];exact IntWalk.i64_in _ (by omega)
   have y3:w5.drew.cell? ⟨b,i*2+1,none⟩=some z1:=zc mh (by rw[Array.getElem?_setIfInBounds_ne (by omega)];exact hz1);have y4:w5.drew.cell? ⟨b,(i+1)*2+1,none⟩=some (.int .i64 (whi h (bs.drop (i+1)))):=zc mh (by rw[Array.getElem?_setIfInBounds_ne (by omega)];exact(lq (i+1) zl hin1).2);have cf5:∀o,w5.drew.frozen? ⟨b,o,none⟩=false:=fun o=>zf mh;have x5:w5.drew.cell? ⟨(a.add (i*2)).block,(a.add (i*2)).off+1,none⟩=some (.int .i64 (bs[i].2:Int)):=zkN x1 (bQ.block _ (World.block_lt_of_cell? wr _ x1) (by rw[zkz];have:=dC.out;have has:a.block<w.heap.size:=has;omega));have HL0:=zh hl0;have iP:=zh hl1;have hwi:IntKind.i64.wrap ((i:Int)+1)=(i:Int)+1:=IntWalk.i64_in _ (by omega);have hp0:(0:Int)<=(i:Int)+1:=by omega
   have hp1:(i:Int)+1<(n:Int)+1:=by omega
   have hp2:(i:Int)<(n:Int)+1:=by omega
   have hp3:(i:Int)<(n:Int):=by omega
   have HU:=zh hu;have HUS:=zh dX;have HUU:=zh lq;generalize bs[i].1=lo,bs[i].2=hi,wlo (bs.drop (i+1))=L1,whi h (bs.drop (i+1))=L2,wlo (bs.drop i)=M1,whi h (bs.drop i)=M2 at *
   clear hu dX lq hl0 hl1 hw1 hw2 mh HB HH;go_upto_region 5 with fail
   go_region
   go_upto_region 6 with fail
   go_region
   clear iA qJ;go_wp2_with fail
   go_roundw
   case rel=>exact⟨i,by omega,rfl,nP,xY⟩
   case measure=>simp[intOf]
  ·obtain rfl:k=0:=by omega
   have hlt1:¬ (0:Int)<=((0:Nat):Int)-1:=by omega
   go_wp2_with fail;go_ret;obtain⟨us,hu,dX,lq⟩:=qf.out;refine⟨b,rfl,by rw[dC.out];exact zl,fun j hj=>⟨zc hu (lq j (Nat.zero_le _) hj).1,zc hu (lq j (Nat.zero_le _) hj).2⟩,HB0.out.trans (HC.out.below HB0.out.size fun q e=>by have e:q=b:=e;have:=dC.out;omega)⟩
structure BX where
 v:Int
 l:Int
 i:Int
def okI(x:Int):Bool:=decide (0<=x/\x<=1000)
def BX.ok(b:BX):Bool:=okI b.v&&okI b.l&&okI b.i
def len1(b:BX)(v:VD):Bn:=if v.k=3 then(0,b.l.toNat)else((fixE v).toNat,(fixE v).toNat)
def lenE(vs:List VD)(b:BX):List Bn:=vs.map (len1 b)++[(0,b.i.toNat)]
def znW(bs:List Bn):List Value:=bs.flatMap fun b=>[.int .i64 (b.1:Int),.int .i64 (b.2:Int)]
theorem zqA:∀(bs:List Bn) (i:Nat) (h:i<bs.length),(znW bs)[i*2]?=some (.int .i64 (bs[i].1:Int))/\(znW bs)[i*2+1]?=some (.int .i64 (bs[i].2:Int))
 | b::bs,0,_=>by simp[znW]
 | b::bs,i+1,h=>by
  have:=zqA bs i (by simpa using h);unfold znW at this ⊢;rw[List.flatMap_cons,show(i+1)*2=i*2+2 by omega,show i*2+2+1=i*2+1+2 by omega];simpa using this
theorem RowB.of_own{W:World}{n0 n c:Nat}{A:Option Addr}{bs:List Bn}(h:W.ownsRow n0 102 2 (.slice A n c) n (znW bs))(hn:bs.length=n):RowB W (fun q=>n0<=q) A bs:=fun i hi=>by
 rcases h.2 with⟨e1,e2⟩|⟨g,cap,cur,e,hb,hg,-⟩
 ·omega
 ·injection e with e1 e2 e3;subst e1;obtain⟨h0,h1⟩:=zqA bs i hi;refine⟨_,rfl,hb,?_,?_⟩
  ·rw[Addr.add_lit,Nat.zero_add,World.ownsRow.cellAt h (i*2) (by omega)];exact h0
  ·rw[Addr.add_lit,Nat.zero_add,World.ownsRow.cellAt h (i*2+1) (by omega)];exact h1
theorem bB1(x y:Int)(w:World):(Instr.buildSlice 98 1 #[(0,.agg #[.int .i64 x,.int .i64 y])]).run prog w=.ok (.slice (some ⟨w.heap.size,0,none⟩) 1 1) (w.alloc (.cells #[.int .i64 x,.int .i64 y] 102)):=by kernel_rfl
theorem zlR{ops:Array Oper}{rest:List Oper}{o:Oper}{a:Act}{W:World}{Q:Exit->Act->World->Prop}(hgd:o.guard=none)(s x:Operand)
  (ho:o.op=.call { callee:=.builtin .append,args := #[s,x],argTypes := #[98,98] })(base:Nat)(v:Value)(n:Nat)(xs:List Value)(hs:a.eval s=v)(hrow:W.ownsRow base 102 2 v n xs)
  (b:Nat)(y0 y1:Int)(hx:a.eval x=.slice (some ⟨b,0,none⟩) 1 1)(hc:W.heap[b]?=some (.cells #[.int .i64 y0,.int .i64 y1] 102 (0,0)))(hl:n+1<=1000000)(hb:base<=W.heap.size)
  (h:∀v' w',w'.ownsRow base 102 2 v' (n+1) (xs++[.int .i64 y0,.int .i64 y1])->W.grownBy w' v.ownBlock->wpList prog ops Q rest (a.put o.dst v') w') :
  wpList prog ops Q (o::rest) a W:=by
 obtain⟨i,hi,hz0,hz1,hz2⟩:=info_parts zvf;refine wpList_append_own_at (P:=prog) _ hgd s x 98 ho base 102 i _ 2 16 underlying98 hi hz0 hz1 hz2 rfl (by decide) v n xs hs hrow ⟨b,0,none⟩ 1 1 [.int .i64 y0,.int .i64 y1] hx (by simp) (fun j u hj=>?_) (fun u hu=>?_) (by unfold maxLen;omega) (by omega) hb (fun v' w' h1 h2 _ _=>h v' w' h1 h2)
 ·rw[Addr.add_lit,Nat.zero_add];exact zc hc (by simpa using hj)
 ·simp only[List.mem_cons,List.not_mem_nil,or_false]at hu;rcases hu with rfl|rfl<;>rfl
theorem zom{W0 W1 wr:World}{j c9:Nat}{A9:Option Addr}{y0 y1:Nat}{bs:List Bn}(hy:bs[j]?=some (y0,y1))(h1:Below W1.heap.size W1 wr)(h0:Below W0.heap.size W0 wr)(hn:W0.heap.size<=W1.heap.size)
  (ho:wr.ownsRow W1.heap.size 102 2 (.slice A9 j c9) j (znW (bs.take j)))(v':Value)(w':World)
  (h:w'.ownsRow W1.heap.size 102 2 v' (j+1) (znW (bs.take j)++[.int .i64 (y0:Int),.int .i64 (y1:Int)]))(hg:(wr.alloc (.cells #[.int .i64 (y0:Int),.int .i64 (y1:Int)] 102)).grownBy w' (Value.slice A9 j c9).ownBlock) :
  ∃A' c',v'=.slice A' (j+1) c'/\Hid (Below W0.heap.size W0 w')/\Hid (Below W1.heap.size W1 w')/\Hid (w'.ownsRow W1.heap.size 102 2 (.slice A' (j+1) c') (j+1) (znW (bs.take (j+1)))):=by
 obtain⟨A',c',rfl,-⟩:=zkd h;have hlt:=ho.lt;refine⟨A',c',rfl,zh ?_,zh ?_,zh ?_⟩
 ·have h2:=zkb h0 (.cells #[.int .i64 (y0:Int),.int .i64 (y1:Int)] 102);exact h2.trans ((Chg.row hg).below h2.size fun q e=>by have:=(hlt q e).1;omega)
 ·have h2:=zkb h1 (.cells #[.int .i64 (y0:Int),.int .i64 (y1:Int)] 102);exact h2.trans ((Chg.row hg).below h2.size fun q e=>(hlt q e).1)
 ·have e:znW (bs.take (j+1))=znW (bs.take j)++[.int .i64 (y0:Int),.int .i64 (y1:Int)]:=by
   rw[List.take_add_one,hy];simp[znW]
  rw[e];exact h
def LenP(vs:List VD)(b:BX)(w:World)(e:Ending)(w':World):Prop:=Below w.heap.size w w'/\(((b.ok&&svB vs)=false/\e=.returned (.tuple #[.slice none 0 0,.bool false]))\/((b.ok&&svB vs)=true/\∃A c,e=.returned (.tuple #[.slice A (vs.length+1) c,.bool true])/\RowB w' (fun q=>w.heap.size<=q) A (lenE vs b)))
theorem zrl(vs:List VD)(b:BX)(A:Option Addr)(c:Nat)(w:World)(hrow:RowV w Any A vs)(hl:vs.length<=LV):Calls prog 51 #[.slice A vs.length c,.agg #[.int .i64 b.v,.int .i64 b.l,.int .i64 b.i]] w (LenP vs b w):=by
 obtain⟨bv,bl,bi⟩:=b;simp only;have hb1:=zkb (zs w) (.cells #[.int .i64 bv,.int .i64 bl,.int .i64 bi] 24);have hk1:=heap_alloc_new w (.cells #[.int .i64 bv,.int .i64 bl,.int .i64 bi] 24);have af:=zh hrow;have HSN:=zh (fun w' (hb:Below w.heap.size w w')=>zxu vs A c w' (hrow.later hb) hl);clear hrow hl;go_enter func51,ntmps51;go_upto_region 1 with fail;obtain⟨w1,hw1⟩:=zX (w.alloc (.cells #[.int .i64 bv,.int .i64 bl,.int .i64 bi] 24));rw[hw1]at hb1 hk1 ⊢;obtain⟨x0,x1,x2⟩:=zky hk1;have HB1:=zh hb1;have aA:=zh hk1;clear hw1 hb1 hk1;go_wp2_with fail
 go_loopw [20] (fun i wr=>∃j:Nat,j<=3/\i=.int .i64 j/\wr=w1/\Hid (∀k,k<j->okI ([bv,bl,bi].getD k 0)=true)) (fun i _=>3-(intOf i).toNat)
 case atStart=>exact⟨0,by omega,rfl,rfl,zh fun k hk=>by omega⟩
 case round =>
  obtain⟨j,hj,rfl,rfl,fG⟩:=hrel;by_cases hlt:j<3
  ·have key:∃x,x=[bv,bl,bi].getD j 0:=⟨_,rfl⟩
   obtain⟨x,hx⟩:=key;have hj1:(j:Int)<3:=by omega
   have hj0:(0:Int)<=(j:Int):=by omega
   obtain⟨x,hx⟩:=zX ([bv,bl,bi].getD j 0);have hix:(Instr.index 140 (.agg #[.int .i64 bv,.int .i64 bl,.int .i64 bi]) (.int .i64 (j:Int))).run prog wr=.ok (.int .i64 x) wr:=by
    rw[<-hx];rcases j with _|_|_|j
    ·kernel_rfl
    ·kernel_rfl
    ·kernel_rfl
    ·omega
   have HX:=zh hx;clear hx;have hno:okI x=false->(BX.ok ⟨bv,bl,bi⟩&&svB vs)=false:=fun h=>by
    rw[<-HX.out]at h;unfold BX.ok;rcases j with _|_|_|j
    ·have h:okI bv=false:=h;simp[h]
    ·have h:okI bl=false:=h;simp[h]
    ·have h:okI bi=false:=h;simp[h]
    ·omega
   have bL:=zh hno;clear hno;by_cases h1:x<0
   ·have HF:=zh (bL.out (decide_eq_false (by omega)));go_wp2_with fail;go_ret2;exact⟨HB1.out,.inl ⟨HF.out,rfl⟩⟩
   ·by_cases h2:1000<x
    ·have HF:=zh (bL.out (decide_eq_false (by omega)));go_wp2_with fail;go_ret2;exact⟨HB1.out,.inl ⟨HF.out,rfl⟩⟩
    ·have HT:=zh (show okI x=true from decide_eq_true (by omega));go_wp2_with fail
     go_roundw
     case rel=>exact⟨j+1,by omega,by go_num,trivial,zh fun k hk=>by
      by_cases e:k=j
      ·subst e;rw[HX.out];exact HT.out
      ·exact fG.out k (by omega)⟩
     case measure=>simp[intOf];omega
  ·obtain rfl:j=3:=by omega
   have Cy:=zh (show BX.ok ⟨bv,bl,bi⟩=true by
    have h0:okI bv=true:=fG.out 0 (by omega);have h1:okI bl=true:=fG.out 1 (by omega);have h2:okI bi=true:=fG.out 2 (by omega);simp[BX.ok,h0,h1,h2])
   clear fG;go_wp2_with fail;refine(HSN.out _ HB1.out).mono ?_;rintro e w2 ⟨hb2,v,er,rfl,hs0,hs1⟩;have HB2:=zh (zka HB1.out hb2);have aR:=zh (zkc aA.out hb2);obtain⟨sv,hsv⟩:=zX (svB vs);have mU:=zh hsv;rw[hsv]at hs0 hs1;clear hsv hb2
   cases sv
   ·obtain⟨rfl,rfl⟩:=hs0 rfl;have HF:=zh (show(BX.ok ⟨bv,bl,bi⟩&&svB vs)=false by rw[mU.out];simp);clear hs0 hs1 x0 x1 x2;go_wp2_with fail;go_ret2;exact⟨zkb HB2.out _,.inl ⟨HF.out,rfl⟩⟩
   ·obtain⟨rfl,hos⟩:=hs1 rfl;have HT:=zh (show(BX.ok ⟨bv,bl,bi⟩&&svB vs)=true by rw[mU.out,Cy.out];rfl);have hsv2:=hos.svR (zSLim vs mU.out);obtain⟨A2,c2,B2,d2,D2,e2,rfl,hr2,-⟩:=hsv2;clear hs0 hs1 x0 x1 x2;obtain⟨nv,nX⟩:=zX (vs.length);have hzn:(zS vs).cells.length=nv:=by rw[<-nX];simp[zS]
    have oU:=mU.out;simp only[svB,Bool.and_eq_true,decide_eq_true_eq,List.all_eq_true]at oU;have HS3:=zh oU;have hn32:nv<=32:=by rw[<-nX];exact oU.1
    rw[hzn]at hos ⊢;have lQ:=zh nX;have hb3:=zkb HB2.out (.cells #[.slice A2 nv c2,.slice B2 (zS vs).tin.length d2,.slice D2 (zS vs).tout.length e2] 32);obtain⟨w3,hw3⟩:=zX (w2.alloc (.cells #[.slice A2 nv c2,.slice B2 (zS vs).tin.length d2,.slice D2 (zS vs).tout.length e2] 32));have tK:Below w2.heap.size w2 w3:=by rw[<-hw3];exact zkb zr _
    have hk3:=heap_alloc_new w2 (.cells #[.slice A2 nv c2,.slice B2 (zS vs).tin.length d2,.slice D2 (zS vs).tout.length e2] 32);rw[hw3]at hb3 hk3;have x3:w3.cell? ⟨w2.heap.size,0,none⟩=some (.slice A2 nv c2):=zc hk3 rfl;have HB3:=zh hb3;have HR3:=zh ((hr2.keep (S':=Any) (fun _ _ _=>trivial) fun _ _ _=>rfl).later tK);have gT:=zh (zkc aR.out tK);clear hb3 tK hk3 hr2 hos nX oU hzn HSN;rw[lQ.out];go_wp2_with fail;clear hw3 x3
    go_loopw [40,10] (fun i lv wr=>∃j:Nat,j<=nv/\i=.int .i64 j/\∃A9 c9,lv=.slice A9 j c9/\Hid (Below w.heap.size w wr)/\Hid (Below w3.heap.size w3 wr)/\Hid (wr.ownsRow w3.heap.size 102 2 (.slice A9 j c9) j (znW ((lenE vs ⟨bv,bl,bi⟩).take j)))) (fun i _ _=>nv-(intOf i).toNat)
    case atStart=>exact⟨0,Nat.zero_le _,rfl,none,0,rfl,HB3,zh zr,zh ⟨rfl,.inl ⟨rfl,rfl⟩⟩⟩
    case round =>
     obtain⟨j,hj,rfl,A9,c9,rfl,ag,kY,vU⟩:=hrel;have hkb:=zkc gT.out kY.out;obtain⟨x0,x1,x2⟩:=zky hkb;by_cases hlt:j<nv
     ·have hj1:(j:Int)<(nv:Int):=by omega
      have hj0:(0:Int)<=(j:Int):=by omega
      obtain⟨a,v,rfl,-,Hv,⟨p0,p1,p2⟩,hf⟩:=(af.out.later ag.out).nd (show j<vs.length by rw[lQ.out];exact hlt);obtain⟨a2,q,A3,c3,rfl,Hq,hcq,-,-⟩:=(HR3.out.later kY.out).nd (i:=j) (by simp[zS];rw[lQ.out];exact hlt);have hle:(lenE vs ⟨bv,bl,bi⟩)[j]?=some (len1 ⟨bv,bl,bi⟩ v):=by
       have h9:j<vs.length:=by rw[lQ.out];exact hlt
       simp only[lenE];rw[List.getElem?_append_left (by simpa using h9),List.getElem?_map,List.getElem?_eq_getElem h9,Hv.out];rfl
      have ku:q.length=(fixE v).toNat:=by rw[<-Hq.out,<-Hv.out];simp[zS]
      have HQL:=zh ku;have fQ:=zh hle;have bV:w.heap.size<=w3.heap.size:=HB3.out.size;have hl4:j+1<=1000000:=by omega
      have hwi:IntKind.i64.wrap ((j:Int)+1)=(j:Int)+1:=IntWalk.i64_in _ (by omega);obtain⟨s9,k9,n9⟩:=v;simp only at p0 p1 p2;clear ku hle hf;by_cases h3:k9=3
      ·obtain⟨L,rfl⟩:∃L:Nat,bl=(L:Int):=⟨bl.toNat,by
        have:=Cy.out;simp only[BX.ok,okI,Bool.and_eq_true,decide_eq_true_eq]at this;omega⟩
       have hrow:=zkp vU.out (zkb (zs wr) (.cells #[.int .i64 0,.int .i64 (L:Int)] 102));have hk4:=heap_alloc_new wr (.cells #[.int .i64 0,.int .i64 (L:Int)] 102);have HX:=zh (zom (y0:=0) (y1:=L) (by rw[fQ.out];simp[len1,h3]) kY.out ag.out bV vU.out);have hbb:=bB1 0 (L:Int) wr;have hs4:w3.heap.size<=(wr.alloc (.cells #[.int .i64 0,.int .i64 (L:Int)] 102)).heap.size:=by have:=kY.out.size;simp;omega
       subst h3;go_wp2_with (at_builtin;refine zlR rfl (.tmp 51) (.tmp 55) rfl w3.heap.size (.slice A9 j c9) j _ rfl hrow wr.heap.size _ _ rfl hk4 hl4 hs4 ?_;intro v' w' ho hg;obtain⟨A',c',rfl,aO,kQ,iM⟩:=HX.out _ _ ho hg;clear ho hg)
       go_roundw
       case rel=>exact⟨j+1,by omega,by go_num,A',c',rfl,aO,kQ,iM⟩
       case measure=>simp[intOf];omega
      ·have e3:(k9==3)=false:=by simpa using h3
       obtain⟨L,hL⟩:∃L:Nat,(fixE ⟨s9,k9,n9⟩).toNat=L:=⟨_,rfl⟩
       have AL:=HQL.out;rw[hL]at AL;rw[AL]at hcq;have hrow:=zkp vU.out (zkb (zs wr) (.cells #[.int .i64 (L:Int),.int .i64 (L:Int)] 102));have hk4:=heap_alloc_new wr (.cells #[.int .i64 (L:Int),.int .i64 (L:Int)] 102);have HX:=zh (zom (y0:=L) (y1:=L) (by rw[fQ.out];simp[len1,h3,hL]) kY.out ag.out bV vU.out);have hbb:=bB1 (L:Int) (L:Int) wr;have hs4:w3.heap.size<=(wr.alloc (.cells #[.int .i64 (L:Int),.int .i64 (L:Int)] 102)).heap.size:=by have:=kY.out.size;simp;omega
       clear hL AL h3;go_wp2_with (at_builtin;refine zlR rfl (.tmp 57) (.tmp 63) rfl w3.heap.size (.slice A9 j c9) j _ rfl hrow wr.heap.size _ _ rfl hk4 hl4 hs4 ?_;intro v' w' ho hg;obtain⟨A',c',rfl,aO,kQ,iM⟩:=HX.out _ _ ho hg;clear ho hg)
       go_roundw
       case rel=>exact⟨j+1,by omega,by go_num,A',c',rfl,aO,kQ,iM⟩
       case measure=>simp[intOf];omega
     ·obtain rfl:j=nv:=by omega
      have hj1:¬ (j:Int)<(j:Int):=by omega
      obtain⟨L,rfl⟩:∃L:Nat,bi=(L:Int):=⟨bi.toNat,by
       have:=Cy.out;simp only[BX.ok,okI,Bool.and_eq_true,decide_eq_true_eq]at this;omega⟩
      have hrow:=zkp vU.out (zkb (zs wr) (.cells #[.int .i64 0,.int .i64 (L:Int)] 102));have hk4:=heap_alloc_new wr (.cells #[.int .i64 0,.int .i64 (L:Int)] 102);have HX:=zh (zom (y0:=0) (y1:=L) (by simp only[lenE];rw[List.getElem?_append_right (by simp[lQ.out])];simp[lQ.out]) kY.out ag.out (show w.heap.size<=w3.heap.size from HB3.out.size) vU.out);have hbb:=bB1 0 (L:Int) wr;have hl4:j+1<=1000000:=by omega
      have hs4:w3.heap.size<=(wr.alloc (.cells #[.int .i64 0,.int .i64 (L:Int)] 102)).heap.size:=by have:=kY.out.size;simp;omega
      go_wp2_with (at_builtin;refine zlR rfl (.tmp 66) (.tmp 70) rfl w3.heap.size (.slice A9 j c9) j _ rfl hrow wr.heap.size _ _ rfl hk4 hl4 hs4 ?_;intro v' w' ho hg;obtain⟨A',c',rfl,aO,kQ,iM⟩:=HX.out _ _ ho hg;clear ho hg)
      go_ret2;refine⟨aO.out,.inr ⟨HT.out,A',c',by rw[lQ.out];rfl,?_⟩⟩;have hlen:(lenE vs ⟨bv,bl,(L:Int)⟩).length=j+1:=by simp[lenE,lQ.out]
      have h5:=iM.out;rw[List.take_of_length_le (by rw[hlen];exact zl)]at h5;exact(RowB.of_own h5 hlen).keep (fun q h _=>Nat.le_trans HB3.out.size h) fun _ _ _=>rfl
theorem zmk{vs:List VD}{b:BX}(h:(b.ok&&svB vs)=true):(lenE vs b).length=vs.length+1/\vs.length<=32/\(∀q∈lenE vs b,q.1<=q.2/\q.1<=1000/\q.2<=1000)/\0<=b.v/\b.v<=1000:=by
 simp only[BX.ok,okI,svB,Bool.and_eq_true,decide_eq_true_eq,List.all_eq_true]at h;obtain⟨⟨⟨h1,h2⟩,h3⟩,h4,h5⟩:=h;refine⟨by simp[lenE],h4,fun q hq=>?_,h1.1,h1.2⟩;rcases List.mem_append.1 hq with hq|hq
 ·obtain⟨v,hv,rfl⟩:=List.mem_map.1 hq;have:=zq0 (h5 v hv);unfold len1
  split
  ·exact⟨Nat.zero_le _,by omega,by omega⟩
  ·exact⟨zl,by omega,by omega⟩
 ·obtain rfl:=List.mem_singleton.1 hq;exact⟨Nat.zero_le _,by omega,by omega⟩
def zKy{α:Type}(Y:Nat->α->Array Value->Nat->World->Prop)(n:Nat)(P:Program)(gf:FuncId)(lb:Array Value)(xs:List α)(R:Nat->Prop)(W:World):Prop :=
 ∀(l:Nat) (J Jx:List α->(Nat->Prop)->World->Prop) (C:Nat->Prop) (W1:World),l<W1.heap.size->(∀b,C b->¬ R b)->Chg C W W1 ->
  (∀pre C W W',J pre C W->Chg (fun b=>¬ C b) W W'->J pre C W')->(∀pre C W,J pre C W->∀b,C b->b<W.heap.size) ->
  (∀pre x C W vs g,J pre C W->(∀b,C b->b<g)->(pre++[x]) <+: xs->Y l x vs g W ->
   YieldAt (Fw none) (n-1) P l vs W fun e W' =>
    (e=.returned (.bool true)/\∃C',J (pre++[x]) C' W'/\(∀b,C' b->C b\/g<=b)/\Chg C W W') \/
    (e=.returned (.bool false)/\∃C',Jx (pre++[x]) C' W'/\Chg C W W')) ->
  J [] C W1 ->
  CallsIn (Fw none) n P gf (#[.func (.yield l) #[] #[]]++lb) W1 fun e W'=>(∃v,e=.returned v)/\((∃C',J xs C' W'/\Chg C W1 W')\/(∃pre C',Jx pre C' W'/\Chg C W1 W'))
def zzW{α:Type}(I Ix:List α->(Nat->Prop)->World->Prop)(pre:List α)(C:Nat->Prop)(g:Nat)(W:World):Exit->Act->World->Prop
 | .normal,_,W'=>∃C',I pre C' W'/\(∀b,C' b->C b\/g<=b)/\Chg C W W'
 | .ret,_,W'=>∃C',Ix pre C' W'/\(∀b,C' b->C b\/g<=b)/\Chg C W W'
 | _,_,_=>False
theorem zsU{α:Type}{Y:Nat->α->Array Value->Nat->World->Prop}{n:Nat}{P:Program}{g:Operand}{ps:Array Tmp}{assign body:Code}{Q:Exit->Act->World->Prop}{a:Act}{w:World}{gf:FuncId}{lb:Array Value}{xs:List α}{R:Nat->Prop}
  (hg:a.eval g=.func (.func gf) #[] lb)(eg:∀args w,(callFunc gf args).run P w=.ok (.enter gf args) w)(hseq:zKy Y (n-1) P gf lb xs R w)(hps:∀l x vs g W,Y l x vs g W->vs.size=ps.size/\l<g)
  (I Ix:List α->(Nat->Prop)->World->Prop)(C0:Nat->Prop)(hI:∀pre C W W',I pre C W->Chg (fun b=>¬ C b) W W'->I pre C W')(hIx:∀pre C W W',Ix pre C W->Chg (fun b=>¬ C b) W W'->Ix pre C W')
  (hIlt:∀pre C W,I pre C W->∀b,C b->b<W.heap.size)(hIxlt:∀pre C W,Ix pre C W->∀b,C b->b<W.heap.size)(hC:∀b,C0 b->¬ R b)(hRlt:∀b,R b->b<w.heap.size)(h0:I [] C0 w)
  (hround:∀l pre x C W vs g,I pre C W->(∀b,C b->b<g)->¬ C l->w.heap.size<l->l<W.heap.size->(pre++[x]) <+: xs->Y l x vs g W ->
   assign.wpIn (Fw (some l)) (n-1-1) P (Exit.then (fun a1 W1=>Chg C W W1/\∀W2,Chg (· = l) W1 W2->body.wpIn (Fw (some l)) (n-1-1) P (zzW I Ix (pre++[x]) C g W2) a1 W2) (fun _ _ _=>False))
    { tmps:=(ps.zip vs).foldl (fun t (p,v)=>t.setIfInBounds p v) a.tmps,defers:=[] } W)
  (hdone:∀D C W',D=w.heap.size->I xs C W'->Chg C0 w W'->W'.heap[D]?=some (.deferred (some []))->Q .normal { a with defers:={ target:=.collected D,args := #[] }::a.defers } W')
  (hstop:∀D pre C W',D=w.heap.size->Ix pre C W'->Chg C0 w W'->W'.heap[D]?=some (.deferred (some []))->Code.ret.wpIn (Fw none) n P Q { a with defers:={ target:=.collected D,args := #[] }::a.defers } W') :
  (Code.rangeFunc g ps assign body).wpIn (Fw none) n P Q a w:=by
 refine wpIn_rangeFunc ?_;intro fn hfn;obtain⟨rec,hrec⟩:∃rec:LoopState->Option Code->Loop,rec=fun st pe=>{ state:=st,pending:=pe,fn,tmps:=a.tmps,params:=ps,assign,body,defers:=w.heap.size }:=⟨_,rfl⟩
 obtain⟨W1,hW1⟩:=zX ((w.alloc (.deferred (some []))).alloc (.loop (rec .ready none)));have hL1:W1.heap[w.heap.size+1]?=some (.loop (rec .ready none)):=by
  rw[<-hW1];have:=World.alloc_heap_new (w.alloc (.deferred (some []))) (.loop (rec .ready none));rwa[World.size_alloc]at this
 have hK1:W1.heap[w.heap.size]?=some (.deferred (some [])):=by
  rw[<-hW1];exact(Below.heap_alloc _ _ _ (by simp)).trans (World.alloc_heap_new w _)
 have hb1:Below w.heap.size w W1:=by rw[<-hW1];exact((Below.refl _ w).alloc zl _).alloc (by simp) _
 have hI1:I [] C0 W1:=hI _ _ _ _ h0 (Chg.of_below hb1);have hC0lt:∀b,C0 b->b<w.heap.size:=hIlt _ _ _ h0;refine⟨w.heap.size+1,[{ target:=.collected w.heap.size,args := #[] }],W1,{ target:=.fn (.func gf) lb,args := #[.func (.yield (w.heap.size+1)) #[] #[]] },W1,gf,
  #[.func (.yield (w.heap.size+1)) #[] #[]]++lb,W1,?_,?_,(fun _ _=>trivial),?_,(fun e=>by cases e),?_⟩
 ·rw[<-hW1,hrec];exact run_enterLoop_outer _ _ _ _ _
 ·simp only[resolve,hg];simp[go_sem]
 ·simp[invoke,go_sem,eg]
 ·refine(hseq (w.heap.size+1)
   (fun pre C' W=>∃C,(∀b,C' b↔C b\/b=w.heap.size+1\/b=w.heap.size)/\I pre C W/\¬ C (w.heap.size+1)/\¬ C w.heap.size/\(∀b,C b->b<w.heap.size->C0 b)/\W.heap[w.heap.size+1]?=some (.loop (rec .ready none))/\W.heap[w.heap.size]?=some (.deferred (some [])))
   (fun pre C' W=>∃C,Ix pre C W/\¬ C (w.heap.size+1)/\W.heap[w.heap.size+1]?=some (.loop (rec .done (some .ret)))/\W.heap[w.heap.size]?=some (.deferred (some [])))
   (fun b=>C0 b\/b=w.heap.size+1\/b=w.heap.size) W1 (Array.getElem?_eq_some_iff.1 hL1).1 ?_ (Chg.of_below hb1) ?_ ?_ ?_ ⟨C0,fun _=>Iff.rfl,hI1,(fun h=>by have:=hC0lt _ h;omega),(fun h=>by have:=hC0lt _ h;omega),(fun _ h _=>h),hL1,hK1⟩).mono ?_
  ·intro b hb hr;have:=hRlt b hr;rcases hb with hb|hb|hb
   ·exact hC b hb hr
   ·omega
   ·omega
  ·rintro pre C' W W' ⟨C,hC',hi,h1,h2,h3,hl,hk⟩ hch;refine⟨C,hC',hI _ _ _ _ hi (hch.mono fun b _ hb hc=>hb ((hC' b).2 (.inl hc))),h1,h2,h3,hch.keep hl (fun h=>h ((hC' _).2 (.inr (.inl rfl)))),hch.keep hk (fun h=>h ((hC' _).2 (.inr (.inr rfl))))⟩
  ·rintro pre C' W ⟨C,hC',hi,h1,h2,h3,hl,hk⟩ b hb;rcases(hC' b).1 hb with hb|rfl|rfl
   ·exact hIlt _ _ _ hi b hb
   ·exact(Array.getElem?_eq_some_iff.1 hl).1
   ·exact(Array.getElem?_eq_some_iff.1 hk).1
  ·rintro pre x C' W vs g ⟨C,hC',hi,h1,h2,h3,hl,hk⟩ vL hpre hpv;have AQ:=(hps _ _ _ _ _ hpv).2;have hlt:w.heap.size+1<W.heap.size:=(Array.getElem?_eq_some_iff.1 hl).1;have hy:=run_yield (P:=P) (args:=vs) hl (by rw[hrec];exact(hps _ _ _ _ _ hpv).1);rw[hrec]at hy;refine⟨fn,_,assign,body,hy,roundIn_of_wpIn hfn (wpIn_mono (hround (w.heap.size+1) pre x C W vs g hi (fun b hb=>vL b ((hC' b).2 (.inl hb))) h1 (by omega) hlt hpre hpv) ?_)⟩;rintro e a1 Wa vg
   cases e with
   | normal =>
    obtain⟨yI,hbody⟩:=vg;have hl1:=yI.keep hl h1;have hk1:=yI.keep hk h2;have hlt1:w.heap.size+1<Wa.heap.size:=(Array.getElem?_eq_some_iff.1 hl1).1;refine⟨_,run_beginRound hl1 (by rw[hrec]),?_⟩;have hl2:(Wa.putObj (w.heap.size+1) (.loop { rec .ready none with state:=.busy })).heap[w.heap.size+1]?=some (.loop { rec .ready none with state:=.busy }):=World.putObj_heap_same hlt1;have hk2:(Wa.putObj (w.heap.size+1) (.loop { rec .ready none with state:=.busy })).heap[w.heap.size]?=some (.deferred (some [])):=(World.putObj_heap_other (by omega)).trans hk1;have hc2:Chg (fun b=>C b\/b=w.heap.size+1) W (Wa.putObj (w.heap.size+1) (.loop { rec .ready none with state:=.busy })) :=
     (yI.mono fun _ _ h=>.inl h).trans2 (Chg.putObj Wa (w.heap.size+1) _) (fun b _ h=>.inr h)
    refine wpIn_mono (hbody _ (Chg.putObj _ _ _)) ?_;have fin:∀(jump:Option Code) (W3:World),Chg C (Wa.putObj (w.heap.size+1) (.loop { rec .ready none with state:=.busy })) W3 ->
      (Instr.endRound (w.heap.size+1) jump).run P W3=.ok (.bool jump.isNone) (W3.putObj (w.heap.size+1) (.loop (rec (if jump.isNone then .ready else .done) jump))) /\
      (W3.putObj (w.heap.size+1) (.loop (rec (if jump.isNone then .ready else .done) jump))).heap[w.heap.size+1]?=some (.loop (rec (if jump.isNone then .ready else .done) jump)) /\
      (W3.putObj (w.heap.size+1) (.loop (rec (if jump.isNone then .ready else .done) jump))).heap[w.heap.size]?=some (.deferred (some [])) /\
      Chg C' W (W3.putObj (w.heap.size+1) (.loop (rec (if jump.isNone then .ready else .done) jump))):=fun jump W3 hk3=>by
     have hl3:=hk3.keep hl2 h1;have:=run_endRound (P:=P) jump hl3;rw[hrec]at this ⊢;refine⟨this,World.putObj_heap_same (Array.getElem?_eq_some_iff.1 hl3).1,(World.putObj_heap_other (by omega)).trans (hk3.keep hk2 h2),?_⟩;have hA:Chg (fun b=>C b\/b=w.heap.size+1) W W3:=by
      have:=hc2;rw[hrec]at this hk3;exact this.trans2 hk3 (fun b _ h=>.inl h)
     exact(hA.trans2 (Chg.putObj W3 (w.heap.size+1) _) (fun b _ h=>.inr h)).mono fun b _ hb=>(hC' b).2 (by rcases hb with hb|hb;exact .inl hb;exact .inr (.inl hb))
    rintro e3 a3 W3 hp;have hsz:W.heap.size<=(Wa.putObj (w.heap.size+1) (.loop { rec .ready none with state:=.busy })).heap.size:=hc2.size
    cases e3 with
    | normal =>
     obtain⟨C3,hi3,tY,sZ⟩:=hp;have fu:∀b,C3 b->C b\/g<=b:=tY;obtain⟨hr,hl4,hk4,gJ⟩:=fin none W3 sZ;have bV:¬ C3 (w.heap.size+1):=fun h=>by rcases fu _ h with h|h;exact h1 h;omega
     have qM:¬ C3 w.heap.size:=fun h=>by rcases fu _ h with h|h;exact h2 h;omega
     refine⟨_,_,hr,.inl ⟨rfl,fun b=>C3 b\/b=w.heap.size+1\/b=w.heap.size,⟨C3,fun _=>Iff.rfl,hI _ _ _ _ hi3 ((Chg.putObj _ _ _).mono fun b _ hb hc=>bV (hb▸hc)),bV,qM,?_,hl4,hk4⟩,?_,gJ⟩⟩
     ·intro b hb hlt';rcases fu b hb with hb|hb
      ·exact h3 b hb hlt'
      ·omega
     ·intro b hb;rcases hb with hb|hb
      ·rcases fu b hb with hb|hb
       ·exact .inl ((hC' b).2 (.inl hb))
       ·exact .inr (by omega)
      ·exact .inl ((hC' b).2 (.inr hb))
    | ret =>
     obtain⟨C3,hi3,tY,sZ⟩:=hp;have fu:∀b,C3 b->C b\/g<=b:=tY;obtain⟨hr,hl4,hk4,gJ⟩:=fin (some .ret) W3 sZ;have bV:¬ C3 (w.heap.size+1):=fun h=>by rcases fu _ h with h|h;exact h1 h;omega
     exact⟨_,_,hr,.inr ⟨rfl,fun _=>True,⟨C3,hIx _ _ _ _ hi3 ((Chg.putObj _ _ _).mono fun b _ hb hc=>bV (hb▸hc)),bV,hl4,hk4⟩,gJ⟩⟩
    | exit id=>exact hp.elim
    | goto t=>exact hp.elim
    | panic ch=>exact hp.elim
    | outgrown=>exact hp.elim
   | exit id=>exact vg.elim
   | goto t=>exact vg.elim
   | ret=>exact vg.elim
   | panic ch=>exact vg.elim
   | outgrown=>exact vg.elim
  ·rintro e W2 ⟨⟨v,rfl⟩,(⟨C',⟨C,hC',hi,h1,h2,h3,hl,hk⟩,hch⟩|⟨pre,C',⟨C,hi,h1,hl,hk⟩,hch⟩)⟩
   all_goals
    have hw2:Chg C0 w W2:=((Chg.of_below hb1).trans2 hch fun b hb hc=>by rcases hc with hc|hc|hc;exact hc;omega;omega)
    have hfin:∀o,Chg C0 w (W2.putObj (w.heap.size+1) o):=fun o=>hw2.trans2 (Chg.putObj W2 (w.heap.size+1) o) fun b hb hc=>by omega
   ·exact⟨none,_,by have:=run_endLoop (P:=P) hl (by rw[hrec];simp);rw[hrec]at this;exact this,hdone _ C _ rfl (hI _ _ _ _ hi ((Chg.putObj W2 (w.heap.size+1) _).mono fun b _ (hb:b=w.heap.size+1) hc=>h1 (hb▸hc))) (hfin _) ((World.putObj_heap_other (by omega)).trans hk)⟩
   ·exact⟨some .ret,_,by have:=run_endLoop (P:=P) hl (by rw[hrec];simp);rw[hrec]at this;exact this,hstop _ pre C _ rfl (hIx _ _ _ _ hi ((Chg.putObj W2 (w.heap.size+1) _).mono fun b _ (hb:b=w.heap.size+1) hc=>h1 (hb▸hc))) (hfin _) ((World.putObj_heap_other (by omega)).trans hk)⟩
structure DK where
 l:Nat
 lb:Nat
 yb:Nat
 bb:Nat
 tb:Nat
 hb:Nat
 nb:Nat
 sb:Nat
 rb:Nat
 tr:Nat
 A:Option Addr
 c:Nat
 tc:Nat
abbrev ptr0(b:Nat):Value:=.pointer (some ⟨b,0,none⟩)
abbrev DK.cap1(Z:DK):Array Value := #[ptr0 Z.lb,ptr0 Z.yb,ptr0 Z.bb,ptr0 Z.tb,ptr0 Z.hb,ptr0 Z.nb]
abbrev DK.cap2(Z:DK):Array Value := #[ptr0 Z.lb,ptr0 Z.sb,ptr0 Z.hb,ptr0 Z.tb,ptr0 Z.nb]
structure DW(Z:DK)(bs:List Bn)(h:Nat)(B:Nat->Prop)(W:World):Prop where
 lists:W.heap[Z.lb]?=some (.cells #[.slice (some ⟨Z.rb,0,none⟩) bs.length bs.length] 29 (0,0))
 yld:W.heap[Z.yb]?=some (.cells #[.func (.yield Z.l) #[] #[]] 35 (0,0))
 ls:W.heap[Z.bb]?=some (.cells #[.slice Z.A bs.length Z.c] 98 (0,0))
 rest:W.heap[Z.tb]?=some (.cells #[.slice (some ⟨Z.tr,0,none⟩) (bs.length+1) Z.tc] 98 (0,0))
 hv:W.heap[Z.hb]?=some (.cells #[.int .i64 (h:Int)] 3 (0,0))
 num:W.heap[Z.nb]?=some (.cells #[.func (.func 130) #[] Z.cap2] 181 (0,0))
 slf:W.heap[Z.sb]?=some (.cells #[.func (.func 129) #[] Z.cap1] 180 (0,0))
 row:RowB W B Z.A bs
 rst:zqT W Z.tr h bs
 kb:B Z.lb/\B Z.yb/\B Z.bb/\B Z.tb/\B Z.hb/\B Z.nb/\B Z.sb/\B Z.tr
 lt:∀b,B b->b<W.heap.size
theorem DW.chg{Z:DK}{bs:List Bn}{h:Nat}{B D:Nat->Prop}{W W':World}(hd:DW Z bs h B W)(hc:Chg D W W')(hD:∀b,B b->¬ D b):DW Z bs h B W':=by
 obtain⟨h1,h2,h3,h4,h5,h6,h7,h8,h9,hk,hl⟩:=hd;obtain⟨k1,k2,k3,k4,k5,k6,k7,k8⟩:=hk;exact⟨hc.keep h1 (hD _ k1),hc.keep h2 (hD _ k2),hc.keep h3 (hD _ k3),hc.keep h4 (hD _ k4),hc.keep h5 (hD _ k5),hc.keep h6 (hD _ k6),hc.keep h7 (hD _ k7),h8.keep (fun _ h _=>h) fun b hb hlt=>hc.block b hlt (hD b hb),h9.keep (hc.block _ (hl _ k8) (hD _ k8)),⟨k1,k2,k3,k4,k5,k6,k7,k8⟩,fun b hb=>Nat.lt_of_lt_of_le (hl b hb) hc.size⟩
structure RowQ(Z:DK)(n:Nat)(W:World)(p:List (List Int))(m f:Nat->Nat):Prop where
 row:∃us:Array Value,W.heap[Z.rb]?=some (.cells us 30 (0,0))/\us.size=n/\∀j,j<p.length->us[j]?=some (.slice (some ⟨f j,0,none⟩) (m j) (m j))
 el:∀j (hj:j<p.length),∃vs:Array Value,W.heap[f j]?=some (.cells vs 3 (0,0))/\vs.size=m j/\p[j].length<=m j/\∀i (hi:i<p[j].length),vs[i]?=some (.int .i64 p[j][i])
 ne:∀j,j<p.length->f j≠Z.rb
 inj:∀i j,i<p.length->j<p.length->f i=f j->i=j
 fits:∀x∈p,∀e∈x,I64 e
theorem RowQ.lt{Z:DK}{n:Nat}{W:World}{p:List (List Int)}{m f:Nat->Nat}(h:RowQ Z n W p m f):Z.rb<W.heap.size/\∀j,j<p.length->f j<W.heap.size:=by
 obtain⟨us,hu,-⟩:=h.row;exact⟨zko hu,fun j hj=>by obtain⟨vs,hv,-⟩:=h.el j hj;exact zko hv⟩
theorem RowQ.chg{Z:DK}{n:Nat}{W W':World}{p:List (List Int)}{m f:Nat->Nat}{D:Nat->Prop}(h:RowQ Z n W p m f)(hc:Chg D W W')(h1:¬ D Z.rb)(h2:∀j,j<p.length->¬ D (f j)):RowQ Z n W' p m f:=by
 obtain⟨us,hu,hs,hr⟩:=h.row;refine⟨⟨us,hc.keep hu h1,hs,hr⟩,fun j hj=>?_,h.ne,h.inj,h.fits⟩;obtain⟨vs,hv,h3⟩:=h.el j hj;exact⟨vs,hc.keep hv (h2 j hj),h3⟩
structure SepQ(Z:DK)(B:Nat->Prop)(n:Nat)(f:Nat->Nat)(C:Nat->Prop):Prop where
 b:∀q,B q->¬ C q
 r:¬ C Z.rb
 fc:∀j,j<n->¬ C (f j)
 br:¬ B Z.rb
 bf:∀j,j<n->¬ B (f j)
theorem SepQ.grow{Z:DK}{bs:List Bn}{h:Nat}{B C C':Nat->Prop}{W:World}{p:List (List Int)}{m f:Nat->Nat}(hs:SepQ Z B p.length f C)(hd:DW Z bs h B W)(hq:RowQ Z bs.length W p m f)(hC:∀b,C' b->C b\/W.heap.size<=b):SepQ Z B p.length f C' :=
 ⟨fun q hq' h=>(hC q h).elim (hs.b q hq') fun h=>by have:=hd.lt q hq';omega,fun h=>(hC _ h).elim hs.r fun h=>by have:=hq.lt.1;omega,fun j hj h=>(hC _ h).elim (hs.fc j hj) fun h=>by have:=hq.lt.2 j hj;omega,hs.br,hs.bf⟩
def stOf(x:List (List Int)):SS:=⟨x.dropLast,x.getLastD [],[]⟩
def ztj(J Jx:List SS->(Nat->Prop)->World->Prop)(Z:DK)(n:Nat)(D:Nat->Prop)(pre xs:List SS)(p:List (List Int))(m f:Nat->Nat)(C:Nat->Prop)(W:World)(e:Ending)(W':World):Prop :=
 (e=.returned (.bool true)/\∃C',J (pre++xs) C' W'/\(∀b,C' b->C b\/W.heap.size<=b)/\Chg (fun b=>C b\/D b) W W'/\RowQ Z n W' p m f) \/
 (e=.returned (.bool false)/\∃pre' C',Jx pre' C' W'/\Chg (fun b=>C b\/D b) W W')
def YS(l:Nat)(s:SS)(vs:Array Value)(g:Nat)(W:World):Prop:=∃v,vs = #[v]/\SV W (fun q=>g<=q) s v/\l<g/\g<=W.heap.size
structure DB(bs:List Bn)(h:Nat):Prop where
 n:bs.length<=100
 b:∀b∈bs,b.1<=1000/\b.2<=1000
 hm:h<=10000
 h1:1<=h
 ne:1<=bs.length
theorem zmA{p:List (List Int)}{n:Nat}(hn:p.length=n)(h1:1<=n):p.getLastD []=p[n-1]:=by
 have hne:p≠[]:=by rintro rfl;simp at hn;omega
 subst hn;rw[<-List.getLast_eq_getElem hne]
 cases p with
 | nil=>exact(hne rfl).elim
 | cons a p=>rfl
theorem RowQ.sv{Z:DK}{n:Nat}{W:World}{p:List (List Int)}{m f:Nat->Nat}(h:RowQ Z n W p m f)(hn:p.length=n)(h1:1<=n)(hn2:n<=100)(hf:∀j (hj:j<p.length),m j=p[j].length)(hm:∀j,j<p.length->m j<=1000) :
  SV W Any (stOf p) (.agg #[.slice (some ⟨Z.rb,0,none⟩) (n-1) n,.slice (some ⟨f (n-1),0,none⟩) (m (n-1)) (m (n-1)),.slice none 0 0]):=by
 obtain⟨us,hu,dX,hr⟩:=h.row;have hrow:∀j (hj:j<p.length),RowI W Any (some ⟨f j,0,none⟩) p[j]:=fun j hj i hi=>by
  obtain⟨vs,hv,h3,h4,h5⟩:=h.el j hj;refine⟨_,rfl,trivial,?_,h.fits _ (List.getElem_mem hj) _ (List.getElem_mem hi)⟩;rw[Addr.add_lit,Nat.zero_add];exact zc hv (h5 i hi)
 have hcl:(stOf p).cells.length=n-1:=by simp[stOf,hn]
 have htl:(stOf p).tin=p[n-1]:=zmA hn h1;have hti:(stOf p).tin.length=m (n-1):=by rw[htl,hf (n-1) (by omega)]
 have hcg:∀i (hi:i<(stOf p).cells.length),(stOf p).cells[i]=p[i]'(by rw[hcl]at hi;omega):=fun i hi=>by simp[stOf]
 refine⟨some ⟨Z.rb,0,none⟩,n,some ⟨f (n-1),0,none⟩,m (n-1),none,0,by rw[hcl,hti];rfl,fun i hi=>?_,?_,fun i hi=>absurd hi (Nat.not_lt_zero i),by rw[hcl];omega,by rw[hti];exact zl,zl,?_⟩
 ·have ve:i<p.length:=by rw[hcl]at hi;omega
  have hl:(stOf p).cells[i].length=m i:=by rw[hcg i hi,hf i ve]
  refine⟨⟨Z.rb,0,none⟩,some ⟨f i,0,none⟩,m i,rfl,trivial,?_,by rw[hl];exact zl,?_⟩
  ·rw[Addr.add_lit,Nat.zero_add,hl];exact zc hu (hr i ve)
  ·rw[hcg i hi];exact hrow i ve
 ·rw[htl];exact hrow (n-1) (by omega)
 ·refine⟨by rw[hcl];unfold LI;omega,fun l hl=>?_,by rw[hti];have:=hm (n-1) (by omega);unfold LI;omega,Nat.zero_le _⟩;obtain⟨i,hi,rfl⟩:=List.mem_iff_getElem.1 hl;have ve:i<p.length:=by rw[hcl]at hi;omega
  rw[hcg i hi,<-hf i ve];have:=hm i ve;unfold LI;omega
def zxy(J Jx:List SS->(Nat->Prop)->World->Prop)(Z:DK)(bs:List Bn)(h:Nat)(B:Nat->Prop)(tot:List SS)(rs:List Bn):Prop :=
 ∀(p:List (List Int)) (m f:Nat->Nat) (pre:List SS) (C:Nat->Prop) (W:World) (left:Int),bs.drop p.length=rs->p.length<=bs.length->J pre C W->DW Z bs h B W->RowQ Z bs.length W p m f->SepQ Z B p.length f C ->
  (∀j (hj:j<p.length),m j=p[j].length)->(∀j,j<p.length->m j<=1000)->(0<=left/\left<=100000000000)->(pre++(zk5 h rs left).map fun ls=>stOf (p++ls)) <+: tot ->
  Calls prog 129 (#[.int .i64 (p.length:Int),.int .i64 left]++Z.cap1) W (ztj J Jx Z bs.length (fun b=>b=Z.rb) pre ((zk5 h rs left).map fun ls=>stOf (p++ls)) p m f C W)
def hdA(q:List Int):List (List Int)->List (List Int)
 | []=>[]
 | l::ls=>(q++l)::ls
def NumC(J Jx:List SS->(Nat->Prop)->World->Prop)(Z:DK)(bs:List Bn)(h:Nat)(B:Nat->Prop)(tot:List SS)(rs:List Bn)(k:Nat):Prop :=
 ∀(p:List (List Int)) (q:List Int) (m f:Nat->Nat) (pre:List SS) (C:Nat->Prop) (W:World) (left:Int),bs.drop (p.length+1)=rs->p.length+1<=bs.length->J pre C W->DW Z bs h B W->RowQ Z bs.length W (p++[q]) m f->SepQ Z B (p.length+1) f C ->
  (∀j (hj:j<p.length),m j=p[j].length)->(∀j,j<p.length+1->m j<=1000)->m p.length=q.length+k->(0<=left/\left<=100000000000)->(pre++(numE h rs (zk5 h rs) k left).map fun z=>stOf (p++hdA q z)) <+: tot ->
  Calls prog 130 (#[.int .i64 (p.length:Int),.int .i64 (q.length:Int),.int .i64 left]++Z.cap2) W (ztj J Jx Z bs.length (fun b=>b=Z.rb\/b=f p.length) pre ((numE h rs (zk5 h rs) k left).map fun z=>stOf (p++hdA q z)) (p++[q]) m f C W)
structure JC(J Jx:List SS->(Nat->Prop)->World->Prop)(n l:Nat)(tot:List SS):Prop where
 keep:∀pre C W W',J pre C W->Chg (fun b=>¬ C b) W W'->J pre C W'
 lt:∀pre C W,J pre C W->∀b,C b->b<W.heap.size
 y:∀pre x C W vs g,J pre C W->(∀b,C b->b<g)->(pre++[x]) <+: tot->YS l x vs g W->YieldAt (Fw none) (n-1) prog l vs W fun e W' =>
    (e=.returned (.bool true)/\∃C',J (pre++[x]) C' W'/\(∀b,C' b->C b\/g<=b)/\Chg C W W') \/
    (e=.returned (.bool false)/\∃C',Jx (pre++[x]) C' W'/\Chg C W W')
theorem zs6:IsFn prog 47 f47:=⟨func47,by kernel_rfl,by kernel_rfl⟩
theorem bSt2(A B:Option Addr)(m d n e:Nat)(w:World):(Instr.build 32 #[(0,.slice A m d),(1,.slice B n e)]).run prog w=.ok (.agg #[.slice A m d,.slice B n e,.slice none 0 0]) w:=by kernel_rfl
theorem zwE{J Jx:List SS->(Nat->Prop)->World->Prop}{Z:DK}{bs:List Bn}{h nf:Nat}{B:Nat->Prop}{tot:List SS}(hj:JC J Jx nf Z.l tot)(hb:DB bs h)(hl:∀W,DW Z bs h B W->Z.l<W.heap.size):zxy J Jx Z bs h B tot []:=by
 intro p m f pre C W left hrs hpl hJ hD hQ hS hm hm2 hleft hpre;have hpn:p.length=bs.length:=by have:=congrArg List.length hrs;rw[List.length_drop]at this;simp at this;omega
 have hn1:=hb.ne;have hn2:=hb.n;obtain⟨n,hn⟩:=zX (bs.length);have hx:(zk5 h [] left).map (fun ls=>stOf (p++ls))=[stOf p]:=by simp[zk5]
 rw[hx]at hpre ⊢;have hsv:=hQ.sv hpn hn1 hn2 hm hm2;obtain⟨us,hu,dX,hur⟩:=hQ.row;have x0:W.cell? ⟨Z.lb,0,none⟩=some (.slice (some ⟨Z.rb,0,none⟩) bs.length bs.length):=zc hD.lists rfl;have x1:W.cell? ⟨Z.yb,0,none⟩=some (.func (.yield Z.l) #[] #[]):=zc hD.yld rfl;have x2:W.cell? ⟨Z.rb,bs.length-1,none⟩=some (.slice (some ⟨f (bs.length-1),0,none⟩) (m (bs.length-1)) (m (bs.length-1))):=zc hu (hur _ (by omega));rw[hpn];rw[hn]at hpn hn1 hn2 x0 x2 hsv ⊢;have HJ:=zh hj;have rC:=zh hJ;have HD:=zh hD;have HQ:=zh hQ;have HS:=zh hS;have gP:=zh hpre;have mU:=zh hsv;have HN:=zh hn;have nD:=zh (show(stOf p).Lim from by obtain⟨_,_,_,_,_,_,_,_,_,_,_,_,_,h⟩:=hsv;exact h);have bH:=zh (hl W hD);have hwn:IntKind.i64.wrap ((n:Int)-1)=((n-1:Nat):Int):=by rw[show((n-1:Nat):Int)=(n:Int)-1 by omega];exact IntWalk.i64_in _ (by omega)
 clear hj hJ hD hQ hS hpre hsv hu hur hrs hm hm2 hleft hx hb hl hpl;obtain⟨F,hF⟩:=zX (f (n-1));obtain⟨M,hM⟩:=zX (m (n-1));rw[hF,hM]at x2 mU;go_enter func129,ntmps129;go_upto_region 2 with fail;have hp0:(0:Int)<=((n-1:Nat):Int):=by omega
 have hp1:((n-1:Nat):Int)<(n:Int):=by omega
 have hp2:((n-1:Nat):Int)<=(n:Int):=by omega
 go_quiet (fail)
 have hb2:=zkm (zs W) nq;obtain⟨w2,hw2⟩:=zX (W.drewN nq);rw[hw2]at hb2;rw[hw2]
 replace x1:=zb hb2 x1
 have HB2:=zh hb2;clear hw2 hb2 x0 x2 hp0 hp1 hp2;go_upto_region 3 with fail;have hbs:=bSt2;have hSS:(fun w':World=>zv w' Z.yb 0 (.func (.yield Z.l) #[] #[])) w2.drew:=x1;refine wp_region_noPanic ?_;refine(wpIn_wide (n:=nf)).1 ?_;refine zme (ro:=none) (fun w':World=>zv w' Z.yb 0 (.func (.yield Z.l) #[] #[])) (by kernel_rfl) ?_;clear x1;refine zI 0 hSS ?_;refine zI 1 hSS ?_;refine zI 2 hSS ?_;refine zI 3 hSS ?_;have hcl:=zp6 (stOf p) _ w2.drew ((mU.out.later HB2.out).later zr.drew) (by simp only[stOf,List.length_dropLast];omega);have had:Calls prog 47 [.agg #[.slice (some ⟨Z.rb,0,none⟩) (n-1) n,.slice (some ⟨F,0,none⟩) M M,.slice none 0 0]].toArray w2.drew fun e w'=>∃u,e=.returned u/\(SV w' (fun q=>w2.heap.size<=q) (stOf p) u/\Below w2.heap.size w2 w') :=
  hcl.mono fun e w' ⟨v,h1,h2,h3⟩=>⟨v,h1,h2.svR nD.out,zka (zs w2).drew h3⟩
 refine znx (i:=4) (by kernel_rfl) rfl (by kernel_rfl) (by rfl) (fun K hK=>?_);refine zkf (by rfl) (.func 47) [.tmp 32] _ (by rfl) 47 _ zs6 (by rfl) _ (by rfl) _ had ?_;rintro v3 w3 ⟨hs3,hb3⟩;have bO:(fun w':World=>zv w' Z.yb 0 (.func (.yield Z.l) #[] #[])) w3:=zb hb3 hSS;refine hK.out _ _ bO ?_;clear hK K had hcl hSS;(try simp only[zQ]);have Bz:=zka HB2.out hb3;have yG:=HJ.out.keep _ _ _ _ rC.out (Chg.of_below Bz);obtain⟨yfn,ytmps,yas,ybo,hyr,hyR⟩:=HJ.out.y pre (stOf p) C w3 #[v3] w2.heap.size yG (fun b hb=>Nat.lt_of_lt_of_le (HJ.out.lt _ _ _ rC.out b hb) HB2.out.size) gP.out ⟨v3,rfl,hs3,(by have:=bH.out;have:=HB2.out.size;omega),hb3.size⟩;refine zts (i:=5) (by kernel_rfl) rfl (by kernel_rfl) (by rfl) (l:=Z.l) (f:=yfn) (tmps:=ytmps) (assign:=yas) (body:=ybo) ?_ hyR ?_
 ·(try simp only[zA,zB,zC]);go_simp
 ·clear hyr hyR;have HB3:=zh Bz;have p8:=zh (show W.heap.size<=w2.heap.size from HB2.out.size);rintro e W1 hR;have hy1:W1.heap[Z.yb]?=w3.heap[Z.yb]?:=by
   have hlt:=HD.out.lt _ HD.out.kb.2.1;have hnc:=HS.out.b _ HD.out.kb.2.1;rcases hR with⟨_,C1,_,_,hch⟩|⟨_,C1,_,hch⟩<;>exact hch.block _ (Nat.lt_of_lt_of_le hlt HB3.out.size) hnc
  have tQ:(fun w':World=>zv w' Z.yb 0 (.func (.yield Z.l) #[] #[])) W1:=zkN bO hy1;have hfin:∃b:Bool,e=.returned (.bool b)/\ztj J Jx Z n (fun b=>b=Z.rb) pre [stOf p] p m f C W (.returned (.bool b)) W1:=by
   have hch':Chg C w3 W1->Chg (fun b=>C b\/b=Z.rb) W W1:=fun h=>(Chg.of_below HB3.out).trans2 h fun b _ h=>.inl h;rcases hR with⟨rfl,C1,hj1,di,hch⟩|⟨rfl,C1,hjx1,hch⟩
   ·refine⟨true,rfl,.inl ⟨rfl,C1,hj1,fun b h=>(di b h).imp id fun h=>Nat.le_trans p8.out h,hch' hch,?_⟩⟩;have h3:=HQ.out.chg (D:=C) ((Chg.of_below HB3.out).trans2 hch fun b _ h=>h) HS.out.r HS.out.fc;have:=HN.out;rwa[this]at h3
   ·exact⟨false,rfl,.inr ⟨rfl,_,C1,hjx1,hch' hch⟩⟩
  obtain⟨b,rfl,hP⟩:=hfin;have HP:=zh hP;refine⟨_,rfl,tQ,?_⟩;(try simp only[zQ]);refine zI 6 tQ ?_;refine zpv (by kernel_rfl) ?_;refine NoPanic.normal ?_;clear hP hR hy1 tQ yG hb3 hs3 Bz bO;go_wp2_with fail;go_ret;exact HP.out
section
variable {Z:DK} {n:Nat} {W W':World} {p:List (List Int)} {q:List Int} {m f:Nat->Nat}
theorem zpY{p:List (List Int)}{q:List Int}{j:Nat}(hj:j<(p++[q]).length):(j<p.length/\∃h:j<p.length,(p++[q])[j]=p[j])\/(j=p.length/\(p++[q])[j]=q):=by
 by_cases h:j<p.length
 ·exact .inl ⟨h,h,List.getElem_append_left h⟩
 ·have:j=p.length:=by simp at hj;omega
  subst this;exact .inr ⟨rfl,by simp⟩
theorem RowQ.pop{q':List Int}(h:RowQ Z n W (p++[q']) m f)(hq:q <+: q'):RowQ Z n W (p++[q]) m f:=by
 have hl:(p++[q']).length=(p++[q]).length:=by simp
 refine⟨by rw[<-hl];exact h.row,fun j hj=>?_,fun j hj=>h.ne j (by rw[hl];exact hj),fun i j hi hj=>h.inj i j (by rw[hl];exact hi) (by rw[hl];exact hj),fun x hx e he=>?_⟩
 ·obtain⟨vs,h1,h2,h3,h4⟩:=h.el j (by rw[hl];exact hj);rcases zpY hj with⟨hjp,_,e⟩|⟨rfl,e⟩
  ·have e2:(p++[q'])[j]'(by rw[hl];exact hj)=p[j]:=List.getElem_append_left hjp;simp only[e,e2]at h3 h4 ⊢;exact⟨vs,h1,h2,h3,h4⟩
  ·have e2:(p++[q'])[p.length]'(by simp)=q':=by simp
   simp only[e,e2]at h3 h4 ⊢;exact⟨vs,h1,h2,Nat.le_trans hq.length_le h3,fun i hi=>by rw[h4 i (Nat.lt_of_lt_of_le hi hq.length_le)];congr 2;exact(hq.getElem hi).symm⟩
 ·rcases List.mem_append.1 hx with hx|hx
  ·exact h.fits x (List.mem_append.2 (.inl hx)) e he
  ·obtain rfl:=List.mem_singleton.1 hx;exact h.fits q' (by simp) e (hq.subset he)
theorem RowQ.dropL(h:RowQ Z n W (p++[q]) m f):RowQ Z n W p m f:=by
 obtain⟨us,h1,h2,h3⟩:=h.row;refine⟨⟨us,h1,h2,fun j hj=>h3 j (by simp;omega)⟩,fun j hj=>?_,fun j hj=>h.ne j (by simp;omega),fun i j hi hj=>h.inj i j (by simp;omega) (by simp;omega),fun x hx=>h.fits x (List.mem_append.2 (.inl hx))⟩;obtain⟨vs,h1,h2,h3⟩:=h.el j (by simp;omega);simp only[List.getElem_append_left hj]at h3;exact⟨vs,h1,h2,h3⟩
theorem RowQ.put{x:Int}(h:RowQ Z n W (p++[q]) m f)(hm:q.length<m p.length)(hx:I64 x)(hc:Chg (fun b=>b=f p.length) W W')
  (hk:∀vs,W.heap[f p.length]?=some (.cells vs 3 (0,0))->W'.heap[f p.length]?=some (.cells (vs.setIfInBounds q.length (.int .i64 x)) 3 (0,0))):RowQ Z n W' (p++[q++[x]]) m f:=by
 have hl:(p++[q++[x]]).length=(p++[q]).length:=by simp
 have hpl:p.length<(p++[q]).length:=by simp
 obtain⟨us,h1,h2,h3⟩:=h.row;refine⟨⟨us,hc.keep h1 fun e=>h.ne _ hpl e.symm,h2,by rw[hl];exact h3⟩,fun j hj=>?_,fun j hj=>h.ne j (by rw[<-hl];exact hj),fun i j hi hj=>h.inj i j (by rw[<-hl];exact hi) (by rw[<-hl];exact hj),fun y hy e he=>?_⟩
 ·obtain⟨vs,v1,v2,v3,v4⟩:=h.el j (by rw[<-hl];exact hj);rcases zpY hj with⟨hjp,_,e⟩|⟨rfl,e⟩
  ·have e2:(p++[q])[j]'(by rw[<-hl];exact hj)=p[j]:=List.getElem_append_left hjp;simp only[e,e2]at v3 v4 ⊢;exact⟨vs,hc.keep v1 fun e=>by have:=h.inj _ _ (by rw[<-hl];exact hj) hpl e;omega,v2,v3,v4⟩
  ·have e2:(p++[q])[p.length]'(by simp)=q:=by simp
   simp only[e,e2]at v3 v4 ⊢;refine⟨_,hk vs v1,by simpa using v2,by rw[List.length_append];simp;omega,fun i hi=>?_⟩;by_cases hiq:i=q.length
   ·subst hiq;rw[Array.getElem?_setIfInBounds_self_of_lt (by omega)];simp
   ·have hi2:i<q.length:=by simp at hi;omega
    rw[Array.getElem?_setIfInBounds_ne (by omega),List.getElem_append_left hi2];exact v4 i hi2
 ·rcases List.mem_append.1 hy with hy|hy
  ·exact h.fits y (List.mem_append.2 (.inl hy)) e he
  ·obtain rfl:=List.mem_singleton.1 hy;rcases List.mem_append.1 he with he|he
   ·exact h.fits q (by simp) e he
   ·obtain rfl:=List.mem_singleton.1 he;exact hx
end
theorem zyU(q:List Int)(x:Int)(z:List (List Int)):hdA q (hdC x z)=hdA (q++[x]) z:=by
 cases z with
 | nil=>rfl
 | cons l ls=>simp[hdA,hdC]
theorem zyT(q:List Int)(ls:List (List Int))(p:List (List Int)):p++hdA q ([]::ls)=(p++[q])++ls:=by simp[hdA]
theorem zwv{J Jx:List SS->(Nat->Prop)->World->Prop}{Z:DK}{bs rs:List Bn}{h:Nat}{B:Nat->Prop}{tot:List SS}(hb:DB bs h)(hL:zxy J Jx Z bs h B tot rs):NumC J Jx Z bs h B tot rs 0:=by
 intro p q m f pre C W left hrs hpl hJ hD hQ hS hm hm2 hmk hleft hpre;have hx:(numE h rs (zk5 h rs) 0 left).map (fun z=>stOf (p++hdA q z))=(zk5 h rs left).map fun ls=>stOf ((p++[q])++ls):=by
  simp only[numE,List.map_map,Function.comp_def,zyT]
 rw[hx]at hpre ⊢;have hlen:(p++[q]).length=p.length+1:=by simp
 have hC:=hL (p++[q]) m f pre C W left (by rw[hlen];exact hrs) (by rw[hlen];exact hpl) hJ hD hQ (by rw[hlen];exact hS) (fun j hj=>by
  rcases zpY hj with⟨hjp,_,e⟩|⟨rfl,e⟩
  ·rw[e];exact hm j hjp
  ·rw[e];omega) (fun j hj=>hm2 j (by rw[<-hlen];exact hj)) hleft hpre
 rw[hlen]at hC;have HC:=zh hC;obtain⟨us,hu,dX,hur⟩:=hQ.row;have x0:W.cell? ⟨Z.lb,0,none⟩=some (.slice (some ⟨Z.rb,0,none⟩) bs.length bs.length):=zc hD.lists rfl;have x1:W.cell? ⟨Z.rb,p.length,none⟩=some (.slice (some ⟨f p.length,0,none⟩) (m p.length) (m p.length)):=zc hu (hur _ (by simp));have x2:W.cell? ⟨Z.sb,0,none⟩=some (.func (.func 129) #[] Z.cap1):=zc hD.slf rfl;rw[hmk,Nat.add_zero]at x1;have hbn:=hb.n;obtain⟨n,hn⟩:=zX (bs.length);rw[hn]at x0 hpl hbn;obtain⟨c,hc⟩:=zX (p.length);rw[hc]at x1 hpl ⊢;have hp1:(c:Int)<(n:Int):=by omega
 have hwc:IntKind.i64.wrap ((c:Int)+1)=((c+1:Nat):Int):=IntWalk.i64_in _ (by omega);have HN:=zh hn;have aW:=zh hc;obtain⟨R,hR⟩:=zX (ztj J Jx Z bs.length (fun b=>b=Z.rb) pre ((zk5 h rs left).map fun ls=>stOf (p++[q]++ls)) (p++[q]) m f C W);have HR:=zh (show ∀e w',R e w'->ztj J Jx Z bs.length (fun b=>b=Z.rb\/b=f c) pre ((zk5 h rs left).map fun ls=>stOf (p++[q]++ls)) (p++[q]) m f C W e w'/\∃b,e=.returned (.bool b)from fun e w' hr=>by
  rw[<-hR]at hr;rcases hr with⟨rfl,C',h1,h2,h3,h4⟩|⟨rfl,pre',C',h1,h2⟩
  ·exact⟨.inl ⟨rfl,C',h1,h2,h3.mono fun b _ h=>h.imp id .inl,h4⟩,_,rfl⟩
  ·exact⟨.inr ⟨rfl,pre',C',h1,h2.mono fun b _ h=>h.imp id .inl⟩,_,rfl⟩)
 rw[hR,hc]at HC;rw[HN.out]at HR ⊢;clear hJ hD hQ hS hpre hu hur dX hrs hm hm2 hmk hleft hx hb hL hlen hC hn hc hR;go_enter func130,ntmps130;go_wp2_with fail;refine HC.out.mono ?_;rintro e w2 hr;obtain⟨h1,b,rfl⟩:=HR.out e w2 hr;have H1:=zh h1;clear h1 hr;go_wp2_with fail;go_ret;exact H1.out
theorem zoy{α β:Type}(F:α->List β)(g:Nat->α){j n:Nat}(hj:j<n):(List.range j).flatMap (fun i=>F (g i))++F (g j) <+: (List.range n).flatMap (fun i=>F (g i)):=by
 have e:(List.range j).flatMap (fun i=>F (g i))++F (g j)=(List.range (j+1)).flatMap (fun i=>F (g i)):=by rw[List.range_succ,List.flatMap_append];simp
 rw[e];obtain⟨d,rfl⟩:∃d,n=(j+1)+d:=⟨n-(j+1),by omega⟩
 rw[List.range_add (n:=j+1) (m:=d),List.flatMap_append];exact List.prefix_append _ _
theorem zoj{β:Type}(F:Int->List β)(lo hi:Int):(ranE lo hi).flatMap F=(List.range (hi-lo+1).toNat).flatMap fun(i:Nat)=>F (lo+(i:Int)):=by
 unfold ranE;rw[List.flatMap_map]
theorem zv1{r:Int}(h0:0<=r)(h1:r<=1000000):I64 (unrk r):=by
 have:=ztD (v:=500000) h0 (by omega);unfold I64;omega
theorem zww{J Jx:List SS->(Nat->Prop)->World->Prop}{Z:DK}{bs rs:List Bn}{h nf:Nat}{B:Nat->Prop}{tot:List SS}(hj:JC J Jx nf Z.l tot)(hb:DB bs h){k:Nat}(hN:NumC J Jx Z bs h B tot rs k):NumC J Jx Z bs h B tot rs (k+1):=by
 intro p q m f pre C W left hrs hpl hJ hD hQ hS hm hm2 hmk hleft hpre;obtain⟨us,hu,dX,hur⟩:=hQ.row;have hwb:=ztz (bs:=rs) (h:=h) (by rw[<-hrs];exact zsz hb.b _) (by rw[<-hrs,List.length_drop];have:=hb.n;omega) hb.hm;have x0:W.cell? ⟨Z.lb,0,none⟩=some (.slice (some ⟨Z.rb,0,none⟩) bs.length bs.length):=zc hD.lists rfl;have x1:W.cell? ⟨Z.rb,p.length,none⟩=some (.slice (some ⟨f p.length,0,none⟩) (m p.length) (m p.length)):=zc hu (hur _ (by simp));have x2:W.cell? ⟨Z.hb,0,none⟩=some (.int .i64 (h:Int)):=zc hD.hv rfl;have x3:W.cell? ⟨Z.tb,0,none⟩=some (.slice (some ⟨Z.tr,0,none⟩) (bs.length+1) Z.tc):=zc hD.rest rfl;obtain⟨x4,x5⟩:=hD.rst (p.length+1) hpl;rw[hrs]at x4 x5;have hM:m p.length<=1000:=hm2 p.length (by omega);have hbn:=hb.n;have vz:=hb.hm;have kJ:=hb.h1;obtain⟨n,hn⟩:=zX (bs.length);obtain⟨c,hc⟩:=zX (p.length);obtain⟨i,hi⟩:=zX (q.length);obtain⟨M,xn⟩:=zX (m p.length)
 obtain⟨F,hF⟩:=zX (f p.length);obtain⟨w0,hw0⟩:=zX (wlo rs);obtain⟨w1,hw1⟩:=zX (whi h rs);have hmk2:=hmk;rw[xn,hi]at hmk;rw[xn]at hM;rw[hw0,hw1]at hwb;rw[hn]at x0 x3 hpl hbn;rw[xn,hF,hc]at x1;rw[hc,hw0]at x4;rw[hc,hw1]at x5;rw[hc]at hpl;obtain⟨lo,hlo⟩:=zX (max 0 (left-1-(k:Int)*(h:Int)-w1));obtain⟨hi',hhi⟩:=zX (min ((h:Int)-1) (left-1-(k:Int)-(w0:Int)));have hkh:(0:Int)<=(k:Int)*(h:Int)/\(k:Int)*(h:Int)<=1000*10000:=⟨Int.mul_nonneg (by omega) (by omega),Int.mul_le_mul (by omega) (by omega) (by omega) (by omega)⟩
 have hlo0:0<=lo:=by omega
 have hlo1:lo<=100000000000:=by omega
 have hhi1:hi'<=10000:=by omega
 have hhi2 : -100000000000<=hi':=by omega
 obtain⟨G,hG⟩:∃G:Int->List SS,G=fun r=>(numE h rs (zk5 h rs) k (left-1-r)).map fun z=>stOf (p++hdA (q++[unrk r]) z):=⟨_,rfl⟩
 have hX:(numE h rs (zk5 h rs) (k+1) left).map (fun z=>stOf (p++hdA q z))=(List.range (hi'-lo+1).toNat).flatMap fun(j:Nat)=>G (lo+(j:Int)):=by
  rw[<-zoj,numE,List.map_flatMap,hw0,hw1,hlo,hhi,hG];simp only[List.map_map,Function.comp_def,zyU]
 rw[hX]at hpre ⊢;obtain⟨T,hT⟩:∃T:Nat,(hi'-lo+1).toNat=T:=⟨_,rfl⟩
 rw[hT]at hpre ⊢;have HJ:=zh hj;have rC:=zh hJ;have HD:=zh hD;have HQ:=zh hQ;have HS:=zh hS;have gP:=zh hpre;have HN:=zh hN;have HM:=zh hm;have qw:=zh hm2;have Ca:=zh hmk2;have iL:=zh hrs;have xJ:=zh (show p.length+1<=bs.length by rw[hc,hn];exact hpl);have HG:=zh hG;have nL:=zh (show bs.length=n/\p.length=c/\q.length=i/\m p.length=M/\f p.length=F from⟨hn,hc,hi,xn,hF⟩);rw[hn,hF,hc,hi];clear hj hJ hD hQ hS hpre hu hur dX hrs hm hm2 hmk2 hX hb hN hn hc hi xn hF hw0 hw1 hG;have hp1:(c:Int)<(n:Int):=by omega
 have hp2:(0:Int)<=(c:Int)+1:=by omega
 have hp3:(c:Int)+1<(n:Int)+1:=by omega
 have hwc:IntKind.i64.wrap ((c:Int)+1)=(c:Int)+1:=IntWalk.i64_in _ (by omega);have hne:((i:Int)==(M:Int))=false:=by simp;omega
 have e1:IntKind.i64.wrap ((M:Int)-1)=(M:Int)-1:=IntWalk.i64_in _ (by omega);have e2:IntKind.i64.wrap ((M:Int)-1-(i:Int))=(k:Int):=by rw[show(M:Int)-1-(i:Int)=(k:Int) by omega];exact IntWalk.i64_in _ (by omega)
 have y9:=zh hmk;clear hmk;go_enter func130,ntmps130;go_upto_region 4 with fail;have e3:IntKind.i64.wrap (left-1)=left-1:=IntWalk.i64_in _ (by omega);have e4:IntKind.i64.wrap ((k:Int)*(h:Int))=(k:Int)*(h:Int):=IntWalk.i64_in _ (by omega);have e5:IntKind.i64.wrap (left-1-(k:Int)*(h:Int))=left-1-(k:Int)*(h:Int):=IntWalk.i64_in _ (by omega);have e6:IntKind.i64.wrap (left-1-(k:Int)*(h:Int)-w1)=left-1-(k:Int)*(h:Int)-w1:=IntWalk.i64_in _ (by omega)
 go_region
 have hbd:=(zs W).drew;obtain⟨wA,wP⟩:=zX (W.drew);rw[wP]at hbd ⊢
 replace x0:=zb hbd x0
 replace x1:=zb hbd x1
 replace x2:=zb hbd x2
 replace x3:=zb hbd x3
 replace x4:=zb hbd x4
 clear wP x5 e4 e5 e6;go_upto_region 5 with fail;have e4:IntKind.i64.wrap ((h:Int)-1)=(h:Int)-1:=IntWalk.i64_in _ (by omega);have e5:IntKind.i64.wrap (left-1-(k:Int))=left-1-(k:Int):=IntWalk.i64_in _ (by omega);have e6:IntKind.i64.wrap (left-1-(k:Int)-(w0:Int))=left-1-(k:Int)-(w0:Int):=IntWalk.i64_in _ (by omega)
 go_region
 have jA:=hbd.trans (Below.refl W.heap.size wA |>.mono zl |>.drew);obtain⟨wB,wO⟩:=zX (wA.drew);rw[wO]at jA ⊢;have gV:=zh jA;clear wO x0 x1 x2 x3 x4 e4 e5 e6 hbd jA hwc e1 e2 e3 hp2 hp3;have e1:IntKind.i64.wrap (hi'-lo)=hi'-lo:=IntWalk.i64_in _ (by omega);have e2:IntKind.i64.wrap (hi'-lo+1)=hi'-lo+1:=IntWalk.i64_in _ (by omega);go_wp2_with fail
 go_loopw [68] (fun iv wr=>∃(j:Nat) (C':Nat->Prop),j<=T/\iv=.int .i64 j/\Hid (J (pre++(List.range j).flatMap fun(i:Nat)=>G (lo+(i:Int))) C' wr/\(∀b,C' b->C b\/W.heap.size<=b)/\Chg (fun b=>C b\/b=Z.rb\/b=F) W wr/\RowQ Z bs.length wr (p++[q]) m f)) (fun iv _=>T-(intOf iv).toNat)
 case atStart=>exact⟨0,C,Nat.zero_le _,rfl,zh ⟨by rw[List.range_zero,List.flatMap_nil,List.append_nil];exact HJ.out.keep _ _ _ _ rC.out (Chg.of_below gV.out),fun b h=>.inl h,Chg.of_below gV.out,HQ.out.chg (Chg.of_below (C:=fun _=>False) gV.out) id fun _ _=>id⟩⟩
 case round =>
  obtain⟨j,C',hjT,rfl,HI⟩:=hrel;by_cases hlt:j<T
  ·obtain⟨i1,i2,i3,i4⟩:=HI.out;have hDn:∀b,B b->¬ (C b\/b=Z.rb\/b=F):=fun b hb h=>by
    rcases h with h|rfl|rfl
    ·exact HS.out.b _ hb h
    ·exact HS.out.br hb
    ·have:=nL.out.2.2.2.2;subst this;exact HS.out.bf _ (Nat.lt_succ_self _) hb
   have hD2:=HD.out.chg i3 hDn;have hS2:=SepQ.grow (p:=p++[q]) (by rw[show(p++[q]).length=p.length+1 by simp];exact HS.out) HD.out HQ.out i2;obtain⟨us,hu,dX,hur⟩:=i4.row;obtain⟨vs,hv,hvs,hv3,hv4⟩:=i4.el p.length (by simp);obtain⟨g1,g2,g3,g4,g5⟩:=nL.out;rw[g4]at hvs;rw[g5]at hv;have x0:wr.cell? ⟨Z.lb,0,none⟩=some (.slice (some ⟨Z.rb,0,none⟩) n n):=by rw[<-g1];exact zc hD2.lists rfl
   have x1:wr.cell? ⟨Z.rb,c,none⟩=some (.slice (some ⟨F,0,none⟩) M M):=by have h:=hur p.length (by simp);rw[g4,g5]at h;rw[<-g2];exact zc hu h
   obtain⟨z,hz⟩:∃z,vs[i]?=some z:=⟨_,Array.getElem?_eq_getElem (by have:=y9.out;omega)⟩
   have x2:wr.cell? ⟨F,i,none⟩=some z:=zc hv hz;have cf:∀o,wr.frozen? ⟨F,o,none⟩=false:=fun o=>zf hv;obtain⟨r,hr⟩:=zX (lo+(j:Int));have hr0:0<=r/\r<=10000:=by omega
   have hwr:IntKind.i64.wrap (lo+(j:Int))=r:=by rw[hr];exact IntWalk.i64_in _ (by omega)
   obtain⟨x,hx⟩:=zX (unrk r);have rW:I64 x:=by rw[<-hx];exact zv1 hr0.1 (by omega)
   have HU:=zh (fun w'=>hx▸ztg r w' (by omega));have hj1:(j:Int)<hi'-lo+1:=by omega
   have hi0:(0:Int)<=(i:Int):=by omega
   have hiM:(i:Int)<(M:Int):=by have:=y9.out;omega
   obtain⟨w5,iA,bQ,jr⟩:=setU (o:=i) (.int .i64 x) hv;have hD5:=hD2.chg bQ.drew fun b hb (e:b=F)=>by rw[<-g5]at e;rw[e]at hb;exact HS.out.bf _ (Nat.lt_succ_self _) hb
   have vG:RowQ Z bs.length w5.drew (p++[q++[x]]) m f:=i4.put (by rw[g3,g4];have:=y9.out;omega) rW (by rw[g5];exact bQ.drew) (fun vs' h'=>by
    rw[g5]at h' ⊢;rw[g3];rw[hv]at h';injection h' with h';injection h' with h';subst h';exact jr)
   have xq:=HJ.out.keep _ _ _ _ i1 (bQ.drew.mono fun b _ (e:b=F) hb=>by rw[<-g5]at e;rw[e]at hb;exact hS2.fc p.length (by simp) hb);have hin:(pre++(List.range j).flatMap fun(i:Nat)=>G (lo+(i:Int)))++G r <+: tot:=by
    refine List.IsPrefix.trans ?_ gP.out;rw[List.append_assoc,<-hr];exact(List.prefix_append_right_inj pre).2 (zoy (F:=G) (g:=fun(i:Nat)=>lo+(i:Int)) hlt)
   have tV:G r=(numE h rs (zk5 h rs) k (left-1-r)).map fun z=>stOf (p++hdA (q++[x]) z):=by rw[HG.out,<-hx]
   have hcall:=HN.out p (q++[x]) m f _ C' w5.drew (left-1-r) iL.out xJ.out xq hD5 vG (by rw[show(p++[q]).length=p.length+1 by simp]at hS2;exact hS2) HM.out qw.out (by rw[Ca.out,List.length_append];simp;omega) (by omega) (by rw[<-tV];exact hin);rw[<-tV]at hcall;have hlq:(q++[x]).length=i+1:=by rw[List.length_append,g3];rfl
   rw[hlq,g5,g2]at hcall;have nN:=zh hcall;have y0:w5.drew.cell? ⟨Z.nb,0,none⟩=some (.func (.func 130) #[] Z.cap2):=zc hD5.num rfl;have hwi:IntKind.i64.wrap ((i:Int)+1)=((i+1:Nat):Int):=IntWalk.i64_in _ (by have:=y9.out;omega);have hwl0:IntKind.i64.wrap (left-1)=left-1:=IntWalk.i64_in _ (by omega);have hwl:IntKind.i64.wrap (left-1-lo)=left-1-lo:=IntWalk.i64_in _ (by omega);have hwl2:IntKind.i64.wrap (left-1-lo-(j:Int))=left-1-r:=by rw[show left-1-lo-(j:Int)=left-1-r by omega];exact IntWalk.i64_in _ (by omega)
   have hwj:IntKind.i64.wrap ((j:Int)+1)=(j:Int)+1:=IntWalk.i64_in _ (by omega);have hstep:(List.range (j+1)).flatMap (fun(i:Nat)=>G (lo+(i:Int)))=((List.range j).flatMap fun(i:Nat)=>G (lo+(i:Int)))++G r:=by rw[List.range_succ,List.flatMap_append,<-hr];simp
   have HST:=zh hstep;have dG:=zh (show Chg (fun b=>C b\/b=Z.rb\/b=F) W w5.drew/\W.heap.size<=w5.drew.heap.size from⟨i3.trans2 bQ.drew fun b _ e=>.inr (.inr e),Nat.le_trans i3.size bQ.drew.size⟩);have HR:=zh hr;have HX:=zh hx;have HX64:=zh rW;have HD2:=zh hD2;have HS2:=zh hS2;have BF:=zh (And.intro hv hvs);have dB:=zh bQ;have zg:=zh jr;clear i1 i2 i3 i4 hDn hD2 hS2 hu dX hur hv hvs hv3 hv4 g1 g2 g3 g4 g5 hz hr hx rW bQ jr hD5 vG xq hin tV hcall hlq hstep;go_upto_region 9 with fail
   go_region_with (refine(HU.out _).mono ?_;rintro e w9 ⟨rfl,rfl⟩)
   all_goals
    clear x0 x1 x2 cf iA;go_wp2_with fail;refine nN.out.mono ?_;rintro e w6 (⟨rfl,C6,j6,c6,h6,q6⟩|⟨rfl,pre6,C6,j6,h6⟩)
    ·have kU:=zh (show J (pre++(List.range (j+1)).flatMap fun(i:Nat)=>G (lo+(i:Int))) C6 w6/\(∀b,C6 b->C b\/W.heap.size<=b)/\Chg (fun b=>C b\/b=Z.rb\/b=F) W w6/\RowQ Z bs.length w6 (p++[q]) m f from
      ⟨by rw[HST.out,<-List.append_assoc];exact j6,fun b hb=>(c6 b hb).elim (HI.out.2.1 b) fun h=>.inr (Nat.le_trans dG.out.2 h),dG.out.1.trans2 h6 fun b hb h=>h.elim (fun h=>(HI.out.2.1 b h).elim .inl fun h=>by omega) .inr,q6.pop (List.prefix_append _ _)⟩)
     clear j6 c6 h6 q6 y0;go_wp2_with fail
     go_roundw
     case rel=>exact⟨j+1,C6,by omega,by go_num,kU⟩
     case measure=>simp[intOf];omega
    ·have kU:=zh (show Jx pre6 C6 w6/\Chg (fun b=>C b\/b=Z.rb\/b=F) W w6 from⟨j6,dG.out.1.trans2 h6 fun b hb h=>h.elim (fun h=>(HI.out.2.1 b h).elim .inl fun h=>by omega) .inr⟩);clear j6 h6 y0;go_wp2_with fail;go_ret;exact .inr ⟨rfl,pre6,C6,kU.out.1,kU.out.2⟩
  ·obtain rfl:j=T:=by omega
   have hj1:¬ (j:Int)<hi'-lo+1:=by omega
   go_wp2_with fail;go_ret;obtain⟨i1,i2,i3,i4⟩:=HI.out;have:=nL.out.1;rw[this]at i4;exact .inl ⟨rfl,C',i1,i2,i3,i4⟩
section
variable {Z:DK} {n:Nat} {W W':World} {p:List (List Int)} {m f m' f':Nat->Nat}
theorem RowQ.congr(h:RowQ Z n W p m' f')(he:∀j,j<p.length->m' j=m j/\f' j=f j):RowQ Z n W p m f:=by
 obtain⟨us,h1,h2,h3⟩:=h.row;refine⟨⟨us,h1,h2,fun j hj=>by rw[h3 j hj,(he j hj).1,(he j hj).2]⟩,fun j hj=>?_,fun j hj=>by rw[<-(he j hj).2];exact h.ne j hj,fun i j hi hj e=>h.inj i j hi hj (by rw[(he i hi).2,(he j hj).2];exact e),h.fits⟩;have:=h.el j hj;rwa[(he j hj).1,(he j hj).2]at this
theorem RowQ.new{M:Nat}{W1 W2:World}(h:RowQ Z n W p m f)(hp:p.length<n)(h1:W1=W.alloc (.cells (madeCells #[.int .i64 0] M) 3))(hc:Chg (fun b=>b=Z.rb) W1 W2)
  (hk:∀us,W1.heap[Z.rb]?=some (.cells us 30 (0,0))->W2.heap[Z.rb]?=some (.cells (us.setIfInBounds p.length (.slice (some ⟨W.heap.size,0,none⟩) M M)) 30 (0,0))) :
  RowQ Z n W2 (p++[[]]) (fun j=>if j=p.length then M else m j) (fun j=>if j=p.length then W.heap.size else f j):=by
 have hb:Below W.heap.size W W1:=by rw[h1];exact zkb zr _
 have hn:W1.heap[W.heap.size]?=some (.cells (madeCells #[.int .i64 0] M) 3 (0,0)):=by rw[h1];exact heap_alloc_new W _
 obtain⟨us,u1,u2,u3⟩:=h.row;have hl:=h.lt;have hlen:(p++[[]]).length=p.length+1:=by simp
 refine⟨⟨_,hk us (zkc u1 hb),by simpa using u2,fun j hj=>?_⟩,fun j hj=>?_,fun j hj=>?_,fun i j hi hj e=>?_,fun x hx e he=>?_⟩
 ·by_cases e:j=p.length
  ·subst e;simp only[if_true];rw[Array.getElem?_setIfInBounds_self_of_lt (by omega)]
  ·simp only[e,if_false];rw[Array.getElem?_setIfInBounds_ne (by omega)];exact u3 j (by omega)
 ·rcases zpY hj with⟨hjp,_,e⟩|⟨rfl,e⟩
  ·have hne:j≠p.length:=by omega
   simp only[e,hne,if_false];obtain⟨vs,v1,v2⟩:=h.el j hjp;exact⟨vs,hc.keep (zkc v1 hb) (h.ne j hjp),v2⟩
  ·simp only[e,if_true];exact⟨_,hc.keep hn fun e=>by have e:W.heap.size=Z.rb:=e;omega,by rw[size_madeCells],Nat.zero_le _,fun i hi=>absurd hi (Nat.not_lt_zero i)⟩
 ·by_cases e:j=p.length
  ·simp only[e,if_true];omega
  ·simp only[e,if_false];exact h.ne j (by omega)
 ·split at e<;>split at e
  ·omega
  ·have:=hl.2 j (by omega);omega
  ·have:=hl.2 i (by omega);omega
  ·exact h.inj i j (by omega) (by omega) e
 ·rcases List.mem_append.1 hx with hx|hx
  ·exact h.fits x hx e he
  ·obtain rfl:=List.mem_singleton.1 hx;cases he
end
theorem zuk{J Jx:List SS->(Nat->Prop)->World->Prop}{Z:DK}{bs rs:List Bn}{h nf:Nat}{B:Nat->Prop}{tot:List SS}{p:List (List Int)}{m f:Nat->Nat}{pre:List SS}{C:Nat->Prop}{W:World}{left:Int}{n c l0 l1 w0 T:Nat}{w1 Q lo hi':Int}{a:Addr}{G:Int->List SS}
  (x0:W.cell? ⟨Z.lb,0,none⟩=some (.slice (some ⟨Z.rb,0,none⟩) n n))(x2:W.cell? ⟨Z.hb,0,none⟩=some (.int .i64 (h:Int)))(x3:W.cell? ⟨Z.tb,0,none⟩=some (.slice (some ⟨Z.tr,0,none⟩) (n+1) Z.tc))(x1:W.cell? ⟨Z.bb,0,none⟩=some (.slice (some a) n Z.c))
  (x4:W.cell? ⟨Z.tr,(c+1)*2,none⟩=some (.int .i64 (w0:Int)))(x5:W.cell? ⟨Z.tr,(c+1)*2+1,none⟩=some (.int .i64 w1))(x6:W.cell? (a.add (c*2))=some (.int .i64 (l0:Int)))(x7:W.cell? ⟨(a.add (c*2)).block,(a.add (c*2)).off+1,none⟩=some (.int .i64 (l1:Int)))
  (hwb:w0<=1000000/\0<=w1/\w1<=10000000000)(hbb:l0<=1000/\l1<=1000)(hbn:n<=100)(vz:h<=10000)(kJ:1<=h)(hcn:c<n)(hleft:0<=left/\left<=100000000000)
  (xm:(left-w1+(h:Int)-1).tdiv (h:Int)=Q)(xk : -100000010000<=Q/\Q<=100000010000)(hlo:max (l0:Int) Q=lo)(hhi:min (l1:Int) (left-(w0:Int))=hi')(hlo0:0<=lo)(hlo1:lo<=100000010000)(hhi1:hi'<=1000)(hhi2 : -100000000000<=hi')(hT:(hi'-lo+1).toNat=T)
  (HJ:Hid (JC J Jx nf Z.l tot))(rC:Hid (J pre C W))(HD:Hid (DW Z bs h B W))(HQ:Hid (RowQ Z bs.length W p m f))(HS:Hid (SepQ Z B p.length f C))(gP:Hid ((pre++(List.range T).flatMap fun(j:Nat)=>G (lo+(j:Int))) <+: tot))(HN:Hid (∀k,NumC J Jx Z bs h B tot rs k))
  (HM:Hid (∀j (hj:j<p.length),m j=p[j].length))(qw:Hid (∀j,j<p.length->m j<=1000))(iL:Hid (bs.drop (p.length+1)=rs))(HG:Hid (G=fun r=>(numE h rs (zk5 h rs) r.toNat left).map fun z=>stOf (p++hdA [] z)))(nL:Hid (bs.length=n/\p.length=c/\p.length+1<=bs.length)) :
  Calls prog 129 (#[.int .i64 (c:Int),.int .i64 left]++Z.cap1) W (ztj J Jx Z n (fun b=>b=Z.rb) pre ((List.range T).flatMap fun(j:Nat)=>G (lo+(j:Int))) p m f C W):=by
 have hp1:(c:Int)<(n:Int):=by omega
 have hp2:(0:Int)<=(c:Int)+1:=by omega
 have hp3:(c:Int)+1<(n:Int)+1:=by omega
 have hwc:IntKind.i64.wrap ((c:Int)+1)=(c:Int)+1:=IntWalk.i64_in _ (by omega);have hne:((c:Int)==(n:Int))=false:=by simp;omega
 have hh0:¬ (h:Int)=0:=by omega
 have e3:IntKind.i64.wrap (left-w1)=left-w1:=IntWalk.i64_in _ (by omega);have e4:IntKind.i64.wrap (left-w1+(h:Int))=left-w1+(h:Int):=IntWalk.i64_in _ (by omega);have e5:IntKind.i64.wrap (left-w1+(h:Int)-1)=left-w1+(h:Int)-1:=IntWalk.i64_in _ (by omega);have e6:IntKind.i64.wrap Q=Q:=IntWalk.i64_in _ (by omega);have rP:=zh (And.intro hwb (And.intro hbb (And.intro hlo0 (And.intro hlo1 (And.intro hhi1 (And.intro hhi2 (And.intro xk (And.intro hleft (And.intro hbn (And.intro vz (And.intro kJ hcn)))))))))));have HHI:=zh hhi;have HTT:=zh hT;clear hwb hbb hlo0 hlo1 hhi1 hhi2 xk hleft hbn vz kJ hcn hhi hT;go_enter func129,ntmps129;go_upto_region 4 with fail
 go_region
 have hbd:=(zs W).drew;obtain⟨wA,wP⟩:=zX (W.drew);rw[wP]at hbd ⊢
 replace x0:=zb hbd x0
 replace x1:=zb hbd x1
 replace x3:=zb hbd x3
 replace x4:=zb hbd x4
 replace x7:=zb hbd x7
 clear wP x2 x5 x6 e3 e4 e5 e6 hlo xm;have hhi:=HHI.out;have e4:IntKind.i64.wrap (left-(w0:Int))=left-(w0:Int):=IntWalk.i64_in _ (by have:=rP.out;omega);go_upto_region 5 with fail
 go_region
 have jA:=hbd.trans (Below.refl W.heap.size wA |>.mono zl |>.drew);obtain⟨wB,wO⟩:=zX (wA.drew);rw[wO]at jA ⊢;have gV:=zh jA;clear wO x0 x1 x3 x4 x7 e4 hbd jA hwc hp2 hp3;clear hhi;obtain⟨hwb,hbb,hlo0,hlo1,hhi1,hhi2,xk,hleft,hbn,vz,kJ,hcn⟩:=rP.out;have hT:=HTT.out;have e1:IntKind.i64.wrap (hi'-lo)=hi'-lo:=IntWalk.i64_in _ (by omega);have e2:IntKind.i64.wrap (hi'-lo+1)=hi'-lo+1:=IntWalk.i64_in _ (by omega);go_wp2_with fail
 go_loopw [72] (fun iv wr=>∃(j:Nat) (C':Nat->Prop),j<=T/\iv=.int .i64 j/\Hid (J (pre++(List.range j).flatMap fun(i:Nat)=>G (lo+(i:Int))) C' wr/\(∀b,C' b->C b\/W.heap.size<=b)/\Chg (fun b=>C b\/b=Z.rb) W wr/\RowQ Z bs.length wr p m f)) (fun iv _=>T-(intOf iv).toNat)
 case atStart=>exact⟨0,C,Nat.zero_le _,rfl,zh ⟨by rw[List.range_zero,List.flatMap_nil,List.append_nil];exact HJ.out.keep _ _ _ _ rC.out (Chg.of_below gV.out),fun b h=>.inl h,Chg.of_below gV.out,HQ.out.chg (Chg.of_below (C:=fun _=>False) gV.out) id fun _ _=>id⟩⟩
 case round =>
  obtain⟨j,C',hjT,rfl,HI⟩:=hrel;by_cases hlt:j<T
  ·obtain⟨i1,i2,i3,i4⟩:=HI.out;have hDn:∀b,B b->¬ (C b\/b=Z.rb):=fun b hb h=>by
    rcases h with h|rfl
    ·exact HS.out.b _ hb h
    ·exact HS.out.br hb
   have hD2:=HD.out.chg i3 hDn;have hS2:=SepQ.grow HS.out HD.out HQ.out i2;obtain⟨us,hu,dX,hur⟩:=i4.row;obtain⟨g1,g2,g4⟩:=nL.out;have x0:wr.cell? ⟨Z.lb,0,none⟩=some (.slice (some ⟨Z.rb,0,none⟩) n n):=by rw[<-g1];exact zc hD2.lists rfl
   obtain⟨M,hM⟩:∃M:Nat,lo+(j:Int)=(M:Int):=⟨(lo+(j:Int)).toNat,by omega⟩
   have hM1:M<=1000:=by omega
   have hwr:IntKind.i64.wrap (M:Int)=(M:Int):=IntWalk.i64_in _ (by omega);have hmk:=bMkI M (by omega) wr.drew;have hj1:(j:Int)<hi'-lo+1:=by omega
   have aZ:Below wr.heap.size wr (wr.drew.alloc (.cells (madeCells #[.int .i64 0] M) 3)):=zkb (zs wr).drew _;obtain⟨w9,bX⟩:=zX (wr.drew.alloc (.cells (madeCells #[.int .i64 0] M) 3));rw[bX]at aZ hmk;have wR:=zkc hu aZ;obtain⟨g,hg⟩:=zX (wr.drew.heap.size);rw[hg]at hmk;obtain⟨w5,iA,bQ,jr⟩:=setU (o:=c) (.slice (some ⟨g,0,none⟩) M M) wR;obtain⟨z,hz⟩:∃z,us[c]?=some z:=⟨_,Array.getElem?_eq_getElem (by omega)⟩
   have x2:w9.cell? ⟨Z.rb,c,none⟩=some z:=zc wR hz;have cf:∀o,w9.frozen? ⟨Z.rb,o,none⟩=false:=fun o=>zf wR;have hD5:=(hD2.chg (Chg.of_below aZ (C:=fun _=>False)) fun _ _=>id).chg bQ fun b hb (e:b=Z.rb)=>by rw[e]at hb;exact HS.out.br hb
   have vG:=RowQ.new (W:=wr.drew) (M:=M) (W2:=w5) (i4.chg (Chg.of_below (zs wr).drew (C:=fun _=>False)) id fun _ _=>id) (by omega) bX.symm bQ (fun us' h'=>by
    rw[wR]at h';injection h' with h';injection h' with h';subst h';rw[hg,g2];exact jr)
   rw[hg]at vG;have xq:=HJ.out.keep _ _ _ _ i1 (((Chg.of_below aZ).trans (bQ.mono fun b _ (e:b=Z.rb) hb=>by rw[e]at hb;exact hS2.r hb):Chg (fun b=>¬ C' b) wr w5));have hgw:g=wr.heap.size:=hg.symm;have vL:∀b,C' b->b<g:=fun b hb=>by rw[hgw];exact HJ.out.lt _ _ _ i1 b hb
   have hBg:∀b,B b->b<g:=fun b hb=>by rw[hgw];exact hD2.lt b hb
   have hS5:SepQ Z B (p.length+1) (fun j=>if j=p.length then g else f j) C':=⟨hS2.b,hS2.r,fun j hj=>by
    by_cases e:j=p.length
    ·simp only[e,if_true];intro h;have:=vL _ h;omega
    ·simp only[e,if_false];exact hS2.fc j (by omega),hS2.br,fun j hj=>by
    by_cases e:j=p.length
    ·simp only[e,if_true];intro h;have:=hBg _ h;omega
    ·simp only[e,if_false];exact hS2.bf j (by omega)⟩
   have hin:(pre++(List.range j).flatMap fun(i:Nat)=>G (lo+(i:Int)))++G M <+: tot:=by
    refine List.IsPrefix.trans ?_ gP.out;rw[List.append_assoc,<-hM];exact(List.prefix_append_right_inj pre).2 (zoy (F:=G) (g:=fun(i:Nat)=>lo+(i:Int)) hlt)
   have tV:G M=(numE h rs (zk5 h rs) M left).map fun z=>stOf (p++hdA [] z):=by rw[HG.out];simp
   have hcall:=HN.out M p [] _ _ _ C' w5 left iL.out g4 xq hD5 vG hS5 (fun j hj=>by simp only[Nat.ne_of_lt hj,if_false];exact HM.out j hj) (fun j hj=>by
    by_cases e:j=p.length
    ·simp only[e,if_true];omega
    ·simp only[e,if_false];exact qw.out j (by omega)) (by simp) hleft (by rw[<-tV];exact hin)
   rw[<-tV]at hcall;simp only[if_true,List.length_nil]at hcall;rw[g2]at hcall;have nN:=zh hcall;have y0:w5.cell? ⟨Z.nb,0,none⟩=some (.func (.func 130) #[] Z.cap2):=zc hD5.num rfl;have y1:w5.cell? ⟨Z.lb,0,none⟩=some (.slice (some ⟨Z.rb,0,none⟩) n n):=by rw[<-g1];exact zc hD5.lists rfl
   have hwj:IntKind.i64.wrap ((j:Int)+1)=(j:Int)+1:=IntWalk.i64_in _ (by omega);have hstep:(List.range (j+1)).flatMap (fun(i:Nat)=>G (lo+(i:Int)))=((List.range j).flatMap fun(i:Nat)=>G (lo+(i:Int)))++G M:=by rw[List.range_succ,List.flatMap_append,<-hM];simp
   have HST:=zh hstep;have dG:=zh (show Chg (fun b=>C b\/b=Z.rb) W w5/\W.heap.size<=w5.heap.size/\W.heap.size<=g from⟨(i3.trans2 (Chg.of_below aZ (C:=fun _=>False)) fun b _ h=>h.elim).trans2 bQ fun b _ e=>.inr e,Nat.le_trans i3.size (Nat.le_trans aZ.size bQ.size),by rw[hgw];exact i3.size⟩);have z9:w9.cell? ⟨Z.lb,0,none⟩=some (.slice (some ⟨Z.rb,0,none⟩) n n):=zb aZ x0;have hj0:(0:Int)<=(c:Int):=by omega
   clear i1 i2 i3 i4 hDn hD2 hS2 hu dX hur g1 g2 g4 hz wR aZ bQ jr hD5 vG xq hgw vL hBg hS5 hin tV hcall hstep bX hg;go_upto_region 9 with fail;have hS0:zW (fun w':World=>zv w' Z.lb 0 (.slice (some ⟨Z.rb,0,none⟩) n n)) zU wr.drew:=⟨x0,trivial⟩
   refine wp_region_noPanic ?_;refine zG hS0 7 ?_;refine zT 0 hS0 ?_;refine zT 1 hS0 ?_;refine zT 2 hS0 ?_;refine zT 3 hS0 ?_;refine zT 4 hS0 ?_;refine zo 5 fun K hK=>?_;(try simp only[zA,zB,zC]);go_simp;refine hK.out _ _ ⟨z9,trivial⟩ ?_;clear hK K hS0 hmk;(try simp only[zQ]);refine zo 6 fun K hK=>?_;(try simp only[zA,zB,zC]);go_simp;refine hK.out _ _ ⟨z9,trivial⟩ ?_;clear hK K;(try simp only[zQ]);refine zp 7 fun K hK=>?_;(try simp only[zA,zB,zC]);go_simp;refine hK.out _ _ y1 ?_;clear hK K;(try simp only[zQ]);refine zd ?_;refine NoPanic.normal ?_;clear x0 x2 cf iA z9 y1;go_wp2_with fail;refine nN.out.mono ?_;rintro e w6 (⟨rfl,C6,j6,c6,h6,q6⟩|⟨rfl,pre6,C6,j6,h6⟩)
   ·have kU:=zh (show J (pre++(List.range (j+1)).flatMap fun(i:Nat)=>G (lo+(i:Int))) C6 w6/\(∀b,C6 b->C b\/W.heap.size<=b)/\Chg (fun b=>C b\/b=Z.rb) W w6/\RowQ Z bs.length w6 p m f from
     ⟨by rw[HST.out,<-List.append_assoc];exact j6,fun b hb=>(c6 b hb).elim (HI.out.2.1 b) fun h=>.inr (Nat.le_trans dG.out.2.1 h),dG.out.1.trans2 h6 fun b hb h=>by
      rcases h with h|h|h
      ·exact(HI.out.2.1 b h).elim .inl fun h=>by omega
      ·exact .inr h
      ·have:=dG.out.2.2;have h:b=g:=h;omega,q6.dropL.congr fun j hj=>by
       have hj':j≠c:=by have:=nL.out.2.1;omega
       exact⟨if_neg hj',if_neg hj'⟩⟩)
    clear j6 c6 h6 q6 y0;go_wp2_with fail
    go_roundw
    case rel=>exact⟨j+1,C6,by omega,by go_num,kU⟩
    case measure=>simp[intOf];omega
   ·have kU:=zh (show Jx pre6 C6 w6/\Chg (fun b=>C b\/b=Z.rb) W w6 from⟨j6,dG.out.1.trans2 h6 fun b hb h=>by
      rcases h with h|h|h
      ·exact(HI.out.2.1 b h).elim .inl fun h=>by omega
      ·exact .inr h
      ·have:=dG.out.2.2;have h:b=g:=h;omega⟩)
    clear j6 h6 y0;go_wp2_with fail;go_ret;exact .inr ⟨rfl,pre6,C6,kU.out.1,kU.out.2⟩
  ·obtain rfl:j=T:=by omega
   have hj1:¬ (j:Int)<hi'-lo+1:=by omega
   go_wp2_with fail;go_ret;obtain⟨i1,i2,i3,i4⟩:=HI.out;have:=nL.out.1;rw[this]at i4;exact .inl ⟨rfl,C',i1,i2,i3,i4⟩
theorem zul{J Jx:List SS->(Nat->Prop)->World->Prop}{Z:DK}{bs rs:List Bn}{b0:Bn}{h nf:Nat}{B:Nat->Prop}{tot:List SS}(hj:JC J Jx nf Z.l tot)(hb:DB bs h)(hN:∀k,NumC J Jx Z bs h B tot rs k):zxy J Jx Z bs h B tot (b0::rs):=by
 intro p m f pre C W left hrs hpl hJ hD hQ hS hm hm2 hleft hpre;have lZ:p.length<bs.length:=by have:=congrArg List.length hrs;rw[List.length_drop]at this;simp at this;omega
 have oV:bs.drop (p.length+1)=rs:=by rw[<-List.drop_drop,hrs];rfl
 have hb0:bs[p.length]=b0:=by have:=List.drop_eq_getElem_cons lZ;rw[hrs]at this;injection this with h1 _;exact h1.symm
 have hwb:=ztz (bs:=rs) (h:=h) (by rw[<-oV];exact zsz hb.b _) (by rw[<-oV,List.length_drop];have:=hb.n;omega) hb.hm;have hbb:=hb.b b0 (by rw[<-hb0];exact List.getElem_mem lZ);have x0:W.cell? ⟨Z.lb,0,none⟩=some (.slice (some ⟨Z.rb,0,none⟩) bs.length bs.length):=zc hD.lists rfl;have x2:W.cell? ⟨Z.hb,0,none⟩=some (.int .i64 (h:Int)):=zc hD.hv rfl;have x3:W.cell? ⟨Z.tb,0,none⟩=some (.slice (some ⟨Z.tr,0,none⟩) (bs.length+1) Z.tc):=zc hD.rest rfl;have x1:W.cell? ⟨Z.bb,0,none⟩=some (.slice Z.A bs.length Z.c):=zc hD.ls rfl;obtain⟨x4,x5⟩:=hD.rst (p.length+1) lZ;obtain⟨a,hA,-,x6,x7⟩:=hD.row p.length lZ;rw[hA]at x1;rw[hb0]at x6 x7;rw[oV]at x4 x5;obtain⟨l0,l1⟩:=b0;simp only at hbb x6 x7;have hbn:=hb.n;have vz:=hb.hm;have kJ:=hb.h1;obtain⟨n,hn⟩:=zX (bs.length);obtain⟨c,hc⟩:=zX (p.length);obtain⟨w0,hw0⟩:=zX (wlo rs);obtain⟨w1,hw1⟩:=zX (whi h rs);rw[hw0,hw1]at hwb
 rw[hn]at x0 x1 x3 hbn;rw[hc,hw0]at x4;rw[hc,hw1]at x5;rw[hc]at x6 x7;have hcn:c<n:=by omega
 obtain⟨Q,xm⟩:=zX ((left-w1+(h:Int)-1).tdiv (h:Int));have xk : -100000010000<=Q/\Q<=100000010000:=by
  have h1:=Int.natAbs_tdiv_le_natAbs (left-w1+(h:Int)-1) (h:Int);rw[xm]at h1;omega
 obtain⟨lo,hlo⟩:=zX (max (l0:Int) Q);obtain⟨hi',hhi⟩:=zX (min (l1:Int) (left-(w0:Int)));have hlo0:0<=lo:=by omega
 have hlo1:lo<=100000010000:=by omega
 have hhi1:hi'<=1000:=by omega
 have hhi2 : -100000000000<=hi':=by omega
 obtain⟨G,hG⟩:∃G:Int->List SS,G=fun r=>(numE h rs (zk5 h rs) r.toNat left).map fun z=>stOf (p++hdA [] z):=⟨_,rfl⟩
 have hX:(zk5 h ((l0,l1)::rs) left).map (fun ls=>stOf (p++ls))=(List.range (hi'-lo+1).toNat).flatMap fun(j:Nat)=>G (lo+(j:Int)):=by
  have e:∀z:List (List Int),hdA [] z=z:=fun z=>by cases z<;>rfl
  rw[<-zoj,zk5,List.map_flatMap,hw0,hw1,xm,hlo,hhi,hG];simp only[e]
 rw[hX]at hpre ⊢;obtain⟨T,hT⟩:∃T:Nat,(hi'-lo+1).toNat=T:=⟨_,rfl⟩
 rw[hT]at hpre ⊢;have HJ:=zh hj;have rC:=zh hJ;have HD:=zh hD;have HQ:=zh hQ;have HS:=zh hS;have gP:=zh hpre;have HN:=zh hN;have HM:=zh hm;have qw:=zh hm2;have iL:=zh oV;have HG:=zh hG;have nL:=zh (show bs.length=n/\p.length=c/\p.length+1<=bs.length from⟨hn,hc,lZ⟩);rw[hn,hc];exact zuk x0 x2 x3 x1 x4 x5 x6 x7 hwb hbb hbn vz kJ hcn hleft xm xk hlo hhi hlo0 hlo1 hhi1 hhi2 hT HJ rC HD HQ HS gP HN HM qw iL HG nL
theorem zsg{J Jx:List SS->(Nat->Prop)->World->Prop}{Z:DK}{bs:List Bn}{h nf:Nat}{B:Nat->Prop}{tot:List SS}(hj:JC J Jx nf Z.l tot)(hb:DB bs h)(hl:∀W,DW Z bs h B W->Z.l<W.heap.size):∀rs,zxy J Jx Z bs h B tot rs
 | []=>zwE hj hb hl
 | b::rs=>zul hj hb fun k=>by
  induction k with
  | zero=>exact zwv hb (zsg hj hb hl rs)
  | succ k ih=>exact zww hj hb ih
theorem zyw:(prog.info? 30).map (fun i=>(i.zero,i.size,i.bytes))=some (some (.slice none 0 0),1,24):=by kernel_rfl
theorem zK9(n:Nat)(hn:n<=4096)(w:World):(Instr.makeSlice 29 (.int .i64 (n:Int)) (.int .i64 (n:Int))).run prog w=.ok (.slice (some ⟨w.heap.size,0,none⟩) n n) (w.alloc (.cells (madeCells #[.slice none 0 0] n) 30)):=by
 obtain⟨i,hi,h1,h2,h3⟩:=info_parts zyw;have:=zlu (P:=prog) 29 30 i (.slice none 0 0) underlying29 hi h1 .i64 .i64 n n zl (by rw[h3];omega) (by omega) w;rw[h2,Nat.mul_one]at this;exact this
theorem zmW{w:World}{n:Nat}(hn:w.heap.size=n)(o:Obj):(w.alloc o).heap[n]?=some o:=by rw[<-hn];exact World.alloc_heap_new w o
theorem al8(W:World)(o0 o1 o2 o3 o4 o5 o6 o7:Obj) :
  Below W.heap.size W ((((((((W.alloc o0).alloc o1).alloc o2).alloc o3).alloc o4).alloc o5).alloc o6).alloc o7)/\((((((((W.alloc o0).alloc o1).alloc o2).alloc o3).alloc o4).alloc o5).alloc o6).alloc o7).heap.size=W.heap.size+8 /\
  ∀k,k<8->((((((((W.alloc o0).alloc o1).alloc o2).alloc o3).alloc o4).alloc o5).alloc o6).alloc o7).heap[W.heap.size+k]?=[o0,o1,o2,o3,o4,o5,o6,o7][k]?:=by
 refine⟨zkb (zkb (zkb (zkb (zkb (zkb (zkb (zkb zr _) _) _) _) _) _) _) _,by simp,fun k hk=>?_⟩;have h:k=0\/k=1\/k=2\/k=3\/k=4\/k=5\/k=6\/k=7:=by omega
 rcases h with rfl|rfl|rfl|rfl|rfl|rfl|rfl|rfl
 ·exact zke (zke (zke (zke (zke (zke (zke (zmW rfl _) _) _) _) _) _) _) _
 ·exact zke (zke (zke (zke (zke (zke (zmW (by simp) _) _) _) _) _) _) _
 ·exact zke (zke (zke (zke (zke (zmW (by simp) _) _) _) _) _) _
 ·exact zke (zke (zke (zke (zmW (by simp) _) _) _) _) _
 ·exact zke (zke (zke (zmW (by simp) _) _) _) _
 ·exact zke (zke (zmW (by simp) _) _) _
 ·exact zke (zmW (by simp) _) _
 ·exact zmW (by simp) _
theorem zoP{J Jx:List SS->(Nat->Prop)->World->Prop}{bs:List Bn}{h nf l tr c ct:Nat}{A:Option Addr}{R:Nat->Prop}{tot pre:List SS}{C:Nat->Prop}{W:World}{weight:Int}(hj:JC J Jx nf l tot)(hb:DB bs h)(hl:l<W.heap.size)
  (hJ:J pre C W)(hrb:RowB W R A bs)(hrt:zqT W tr h bs)(hR:∀b,R b->¬ C b)(htr:¬ C tr)(htl:tr<W.heap.size)(hw:0<=weight/\weight<=100000000000)(hpre:(pre++(zk5 h bs weight).map stOf) <+: tot) :
  Calls prog 95 #[.slice A bs.length c,.slice (some ⟨tr,0,none⟩) (bs.length+1) ct,.int .i64 (h:Int),.int .i64 weight,.func (.yield l) #[] #[]] W fun e W' =>
   ∃b,e=.returned (.bool b)/\((b=true/\∃C',J (pre++(zk5 h bs weight).map stOf) C' W'/\(∀b,C' b->C b\/W.heap.size<=b)/\Chg C W W')\/(b=false/\∃pre' C',Jx pre' C' W'/\Chg C W W')):=by
 have hmk:=zK9 bs.length (by have:=hb.n;omega);have h8:=fun o0 o1 o2 o3 o4 o5 o6 o7=>al8 W o0 o1 o2 o3 o4 o5 o6 o7;obtain⟨N,hN⟩:=zX (W.heap.size);have H8:=zh (show ∀W',W'=((((((((W.alloc (.cells #[.slice A bs.length c] 98)).alloc (.cells #[.slice (some ⟨tr,0,none⟩) (bs.length+1) ct] 98)).alloc (.cells #[.int .i64 (h:Int)] 3)).alloc (.cells #[.func (.yield l) #[] #[]] 35)).alloc (.cells (madeCells #[.slice none 0 0] bs.length) 30)).alloc (.cells #[.slice (some ⟨N+1+1+1+1,0,none⟩) bs.length bs.length] 29)).alloc (.cells #[.func (.func 129) #[] (DK.cap1 ⟨l,N+1+1+1+1+1,N+1+1+1,N,N+1,N+1+1,N+1+1+1+1+1+1+1,N+1+1+1+1+1+1,N+1+1+1+1,tr,A,c,ct⟩)] 180)).alloc (.cells #[.func (.func 130) #[] (DK.cap2 ⟨l,N+1+1+1+1+1,N+1+1+1,N,N+1,N+1+1,N+1+1+1+1+1+1+1,N+1+1+1+1+1+1,N+1+1+1+1,tr,A,c,ct⟩)] 181)) ->
   Calls prog 129 (#[.int .i64 (([]:List (List Int)).length:Int),.int .i64 weight]++DK.cap1 ⟨l,N+1+1+1+1+1,N+1+1+1,N,N+1,N+1+1,N+1+1+1+1+1+1+1,N+1+1+1+1+1+1,N+1+1+1+1,tr,A,c,ct⟩) W' fun e W'=>∃b,e=.returned (.bool b)/\(
   (b=true/\∃C',J (pre++(zk5 h bs weight).map stOf) C' W'/\(∀b,C' b->C b\/N<=b)/\Chg C W W')\/(b=false/\∃pre' C',Jx pre' C' W'/\Chg C W W'))from fun W' hW'=>by
  obtain⟨hbl,hsz,hat⟩:=h8 (.cells #[.slice A bs.length c] 98) (.cells #[.slice (some ⟨tr,0,none⟩) (bs.length+1) ct] 98) (.cells #[.int .i64 (h:Int)] 3) (.cells #[.func (.yield l) #[] #[]] 35) (.cells (madeCells #[.slice none 0 0] bs.length) 30) (.cells #[.slice (some ⟨N+1+1+1+1,0,none⟩) bs.length bs.length] 29) (.cells #[.func (.func 129) #[] (DK.cap1 ⟨l,N+1+1+1+1+1,N+1+1+1,N,N+1,N+1+1,N+1+1+1+1+1+1+1,N+1+1+1+1+1+1,N+1+1+1+1,tr,A,c,ct⟩)] 180) (.cells #[.func (.func 130) #[] (DK.cap2 ⟨l,N+1+1+1+1+1,N+1+1+1,N,N+1,N+1+1,N+1+1+1+1+1+1+1,N+1+1+1+1+1+1,N+1+1+1+1,tr,A,c,ct⟩)] 181);rw[<-hW']at hbl hsz hat
  rw[hN]at hsz hat
  have hCN:∀b,C b->b<N:=fun b h=>by rw[<-hN];exact hj.lt _ _ _ hJ b h
  have hlN:l<N:=by omega
  have htN:tr<N:=by omega
  have tZ:∀b,N<=b->b<N+8->b≠N+4->((R b/\b<N)\/b=tr\/(N<=b/\b<N+8/\b≠N+4)):=fun b h1 h2 h3=>.inr (.inr ⟨h1,h2,h3⟩);have hL:=zsg (Z:=⟨l,N+1+1+1+1+1,N+1+1+1,N,N+1,N+1+1,N+1+1+1+1+1+1+1,N+1+1+1+1+1+1,N+1+1+1+1,tr,A,c,ct⟩) (B:=fun b=>(R b/\b<N)\/b=tr\/(N<=b/\b<N+8/\b≠N+4)) hj hb (fun w hd=>by have:=hd.lt N (.inr (.inr ⟨by omega,by omega,by omega⟩));show l<_;omega) (rs:=bs) [] (fun _=>0) (fun _=>0) pre C W' weight rfl (Nat.zero_le _) (hj.keep _ _ _ _ hJ (Chg.of_below hbl))
   ⟨hat 5 (by decide),hat 3 (by decide),hat 0 (by decide),hat 1 (by decide),hat 2 (by decide),hat 7 (by decide),hat 6 (by decide),(hrb.keep (S':=fun b=>(R b/\b<N)\/b=tr\/(N<=b/\b<N+8/\b≠N+4)) (fun b h hlt=>.inl ⟨h,by omega⟩) fun b _ hlt=>hbl.block b hlt),hrt.keep (hbl.block _ htl),⟨tZ (N+1+1+1+1+1) (by omega) (by omega) (by omega),tZ (N+1+1+1) (by omega) (by omega) (by omega),tZ (N) (by omega) (by omega) (by omega),tZ (N+1) (by omega) (by omega) (by omega),tZ (N+1+1) (by omega) (by omega) (by omega),tZ (N+1+1+1+1+1+1+1) (by omega) (by omega) (by omega),tZ (N+1+1+1+1+1+1) (by omega) (by omega) (by omega),.inr (.inl rfl)⟩,fun b h=>by rw[hsz];rcases h with h|h|h<;>omega⟩
   ⟨⟨_,hat 4 (by decide),by rw[size_madeCells],fun j hj=>absurd hj (Nat.not_lt_zero j)⟩,fun j hj=>absurd hj (Nat.not_lt_zero j),fun j hj=>absurd hj (Nat.not_lt_zero j),fun i j hi=>absurd hi (Nat.not_lt_zero i),fun x hx=>by cases hx⟩
   ⟨fun b h hc=>by
    have:=hCN b hc;rcases h with h|rfl|h
    ·exact hR b h.1 hc
    ·exact htr hc
    ·omega,fun h=>by have:=hCN _ h;simp only at this;omega,fun j hj=>absurd hj (Nat.not_lt_zero j),fun h=>by simp only at h;omega,fun j hj=>absurd hj (Nat.not_lt_zero j)⟩
   (fun j hj=>absurd hj (Nat.not_lt_zero j)) (fun j hj=>absurd hj (Nat.not_lt_zero j)) hw (by simpa only[List.nil_append]using hpre)
  refine hL.mono ?_;have hch:∀ {w':World},Chg (fun b=>C b\/b=N+1+1+1+1) W' w'->Chg C W w':=fun h=>(Chg.of_below hbl).trans2 h fun b hb h=>h.elim id fun h=>by omega
  rintro e w' (⟨rfl,C',h1,h2,h3,-⟩|⟨rfl,pre',C',h1,h2⟩)
  ·exact⟨_,rfl,.inl ⟨rfl,C',by simpa only[List.nil_append]using h1,fun b h=>(h2 b h).imp id fun h=>by omega,hch h3⟩⟩
  ·exact⟨_,rfl,.inr ⟨rfl,pre',C',h1,hch h2⟩⟩)
 clear h8 hj hb hJ hrb hrt hR hpre htr;go_enter func95,ntmps95;rw[hN];go_wp2_with fail;refine(H8.out _ rfl).mono ?_;rintro e w2 ⟨b,rfl,hP⟩;have HP:=zh hP;clear hP H8;go_wp2_with fail;go_ret;exact⟨b,rfl,HP.out⟩
structure AllM(W:World)(S:Nat->Prop)(b:BX)(bs:List Bn)(kg xb lb:Nat)(A:Option Addr)(c:Nat):Prop where
 ok:W.heap[kg]?=some (.cells #[.bool true] 4 (0,0))
 bx:W.heap[xb]?=some (.cells #[.int .i64 b.v,.int .i64 b.l,.int .i64 b.i] 24 (0,0))
 ls:W.heap[lb]?=some (.cells #[.slice A bs.length c] 98 (0,0))
 row:RowB W S A bs
def allS(b:BX)(bs:List Bn):List SS:=(allB (2*b.v+1) bs).map stOf
theorem zvR{W:World}{S:Nat->Prop}{b:BX}{bs:List Bn}{kg xb lb c nf:Nat}{A:Option Addr}(hM:AllM W S b bs kg xb lb A c)(hv:0<=b.v/\b.v<=1000)(hn:1<=bs.length/\bs.length<=100)(hb:∀q∈bs,q.1<=1000/\q.2<=1000) :
  zKy YS nf prog 93 #[ptr0 kg,ptr0 xb,ptr0 lb] (allS b bs) (fun q=>q=kg\/q=xb\/q=lb\/S q) W:=by
 intro l J Jx C W1 hl0 tX hch hJ hJlt hY h0;refine(callsIn_wide (n:=nf)).2 ?_;obtain⟨v,vl,vi⟩:=b;obtain⟨h,hh⟩:∃h:Nat,2*v+1=(h:Int):=⟨(2*v+1).toNat,by simp only at hv;omega⟩
 simp only at hv;have vw:DB bs h:=⟨hn.2,hb,by omega,by omega,hn.1⟩
 have hxs:allS ⟨v,vl,vi⟩ bs=(List.range (whi h bs-wlo bs+1).toNat).flatMap fun(j:Nat)=>(zk5 h bs (wlo bs+(j:Int))).map stOf:=by
  unfold allS allB;simp only;rw[hh,List.map_flatMap,zoj (F:=fun w=>(zk5 h bs w).map stOf)]
 obtain⟨xs,hx⟩:=zX (allS ⟨v,vl,vi⟩ bs);rw[hx]at hY hxs ⊢;have ze:=zh (show JC J Jx nf l xs from⟨hJ,hJlt,hY⟩);have hbd:=ztz (h:=h) hb (by omega) (by omega);have x0:W1.cell? ⟨kg,0,none⟩=some (.bool true):=zc (hch.keep hM.ok fun h=>tX _ h (.inl rfl)) rfl;have x1:W1.cell? ⟨xb,0,none⟩=some (.int .i64 v):=zc (hch.keep hM.bx fun h=>tX _ h (.inr (.inl rfl))) rfl;have hk2:=hch.keep hM.ls fun h=>tX _ h (.inr (.inr (.inl rfl)));have x2:W1.cell? ⟨lb,0,none⟩=some (.slice A bs.length c):=zc hk2 rfl;have hnl:¬ C lb:=fun h=>tX _ h (.inr (.inr (.inl rfl)));have hrb:=hM.row.keep (w':=W1) (S':=fun q=>¬ C q/\q<W1.heap.size) (fun q h hlt=>⟨fun hc=>tX q hc (.inr (.inr (.inr h))),Nat.lt_of_lt_of_le hlt hch.size⟩) fun q h hlt=>hch.block q hlt fun hc=>tX q hc (.inr (.inr (.inr h)));have yA:=zqZ bs h A c W1 (hrb.keep (S':=Any) (fun _ _ _=>trivial) fun _ _ _=>rfl) (by omega) hb (by omega)
 obtain⟨w0,hw0⟩:=zX (wlo bs);obtain⟨w1,hw1⟩:=zX (whi h bs);rw[hw0,hw1]at hbd hxs;obtain⟨T,hT⟩:=zX ((w1-(w0:Int)+1).toNat);rw[hT]at hxs;have HWE:=zh yA;have dz:=zh hrb;have oM:=zh vw;have yO:=zh hxs;have H0:=zh h0;have aR:=zh hk2;have BV:=zh hnl;have HW:=zh (show wlo bs=w0/\whi h bs=w1 from⟨hw0,hw1⟩);have HL0:=zh hl0;have hnn:=hn;obtain⟨n,hn'⟩:=zX (bs.length);have HN:=zh hn';rw[hn']at x2 HWE hnn;clear hM hv hn hb hl0 tX hch hJ hJlt hY h0 vw hxs hrb yA hw0 hw1 hx hk2 hnl hn'
 show Calls prog 93 #[.func (.yield l) #[] #[],ptr0 kg,ptr0 xb,ptr0 lb] W1 _
 have e1:IntKind.i64.wrap (2*v)=2*v:=IntWalk.i64_in _ (by have:=oM.out.hm;omega);have e2:IntKind.i64.wrap (2*v+1)=(h:Int):=by rw[hh];exact IntWalk.i64_in _ (by have:=oM.out.hm;omega)
 have HHH:=zh hh;clear hh;go_enter func93,ntmps93;go_wp2_with fail;refine HWE.out.mono ?_;rintro e w2 ⟨tr,rfl,htr,wS,hb2⟩;obtain⟨y0,y1⟩:=wS 0 (Nat.zero_le _);rw[List.drop_zero,HW.out.1]at y0;rw[List.drop_zero,HW.out.2]at y1;rw[Nat.zero_mul]at y0 y1;have HRP:=zh wS;have HB2:=zh hb2;have qW:=zh htr;have hp0:(0:Int)<(n:Int)+1:=by omega
 have e3:IntKind.i64.wrap (w1-(w0:Int))=w1-(w0:Int):=IntWalk.i64_in _ (by omega);have e4:IntKind.i64.wrap (w1-(w0:Int)+1)=w1-(w0:Int)+1:=IntWalk.i64_in _ (by omega);clear wS htr x0 x1 x2 e1 e2;go_upto_region 3 with fail
 go_quiet (fail)
 have hb3:=zkm (zs w2) nq;obtain⟨w3,hw3⟩:=zX (w2.drewN nq);rw[hw3]at hb3;rw[hw3];have HB3:=zh (zka hb2 hb3);have HRP3:=zh (HRP.out.keep (hb3.block _ (World.block_lt_of_cell? w2 _ y0)));have HTL:=zh (World.block_lt_of_cell? w2 _ y0);clear hw3 hb3 hb2 y0 y1 e3 e4;go_wp2_with fail;obtain⟨G,hG⟩:∃G:Nat->List SS,G=fun(j:Nat)=>(zk5 h bs (w0+(j:Int))).map stOf:=⟨_,rfl⟩
 have HG:=zh hG;have hxs:=yO.out;rw[show(fun(j:Nat)=>(zk5 h bs (w0+(j:Int))).map stOf)=G from hG.symm]at hxs;have yO:=zh hxs;clear hG hxs
 go_loopw [27] (fun iv wr=>∃(j:Nat) (C':Nat->Prop),j<=T/\iv=.int .i64 j/\Hid (J ((List.range j).flatMap G) C' wr/\(∀b,C' b->C b\/W1.heap.size<=b)/\Chg C W1 wr)/\Hid (¬ C' tr/\zqT wr tr h bs)) (fun iv _=>T-(intOf iv).toNat)
 case atStart=>exact⟨0,C,Nat.zero_le _,rfl,zh ⟨ze.out.keep _ _ _ _ H0.out (Chg.of_below HB3.out),fun b h=>.inl h,Chg.of_below HB3.out⟩,zh ⟨fun h=>by have:=ze.out.lt _ _ _ H0.out _ h;have:=qW.out;omega,HRP3.out⟩⟩
 case round =>
  obtain⟨j,C',hjT,rfl,HI,iL⟩:=hrel;by_cases hlt:j<T
  ·have hj1:(j:Int)<w1-(w0:Int)+1:=by omega
   have hsz:=HI.out.2.2.size;have y0:wr.cell? ⟨tr,0,none⟩=some (.int .i64 (w0:Int)):=by have:=(iL.out.2 0 (Nat.zero_le _)).1;rwa[List.drop_zero,HW.out.1,Nat.zero_mul]at this
   have x2:wr.cell? ⟨lb,0,none⟩=some (.slice A n c):=by rw[<-HN.out];exact zc (HI.out.2.2.keep aR.out BV.out) rfl
   have hpre:(List.range j).flatMap G++(zk5 h bs ((w0:Int)+(j:Int))).map stOf <+: xs:=by
    rw[yO.out];have:=zoy (F:=G) (g:=fun i=>i) hlt;rwa[HG.out]at this ⊢
   have e1:IntKind.i64.wrap ((w0:Int)+(j:Int))=(w0:Int)+(j:Int):=IntWalk.i64_in _ (by omega);have htl:tr<wr.heap.size:=World.block_lt_of_cell? wr _ y0
   have wI:=zh (fun w' (hbw:Below wr.heap.size wr w')=>show Calls prog 95 #[.slice A bs.length c,.slice (some ⟨tr,0,none⟩) (bs.length+1) (n+1),.int .i64 (h:Int),.int .i64 ((w0:Int)+(j:Int)),.func (.yield l) #[] #[]] w' (fun e w9=>∃b,e=.returned (.bool b)/\((b=true/\∃C9,J ((List.range (j+1)).flatMap G) C9 w9/\(∀q,C9 q->C q\/W1.heap.size<=q)/\Chg C W1 w9/\¬ C9 tr/\zqT w9 tr h bs)\/(b=false/\∃pre' C9,Jx pre' C9 w9/\Chg C W1 w9)))from(zoP (c:=c) (ct:=n+1) (A:=A) (R:=fun q=>¬ C q/\q<W1.heap.size) (tr:=tr) (pre:=(List.range j).flatMap G) (C:=C') (W:=w') (weight:=(w0:Int)+(j:Int)) ze.out oM.out (by have:=HL0.out;have:=hbw.size;omega) (ze.out.keep _ _ _ _ HI.out.1 (Chg.of_below hbw)) ((dz.out.keep (fun q h _=>h) fun q h hlt=>HI.out.2.2.block q hlt h.1).later hbw) (iL.out.2.keep (hbw.block _ htl)) (fun q h hc=>(HI.out.2.1 q hc).elim h.1 fun h'=>by omega) iL.out.1 (Nat.lt_of_lt_of_le htl hbw.size) (by omega) hpre).mono
    fun e w9 ⟨b,hb,hr⟩=>⟨b,hb,by
     have hch:∀ {D:World},Chg C' w' D->Chg C W1 D:=fun h=>(HI.out.2.2.trans2 (Chg.of_below hbw (C:=fun _=>False)) fun _ _ h=>h.elim).trans2 h fun q hq h=>(HI.out.2.1 q h).elim id fun h'=>by omega
     rcases hr with⟨rfl,C9,h1,h2,h3⟩|⟨rfl,pre',C9,h1,h2⟩
     ·refine .inl ⟨rfl,C9,?_,fun q hq=>(h2 q hq).elim (HI.out.2.1 q) fun h=>.inr (Nat.le_trans hsz (Nat.le_trans hbw.size h)),hch h3,fun h=>(h2 _ h).elim iL.out.1 fun h=>by have:=hbw.size;omega,iL.out.2.keep ((h3.block _ (Nat.lt_of_lt_of_le htl hbw.size) iL.out.1).trans (hbw.block _ htl))⟩;rw[List.range_succ,List.flatMap_append];have e:[j].flatMap G=(zk5 h bs ((w0:Int)+(j:Int))).map stOf:=by rw[HG.out];simp
      rw[e];exact h1
     ·exact .inr ⟨rfl,pre',C9,h1,hch h2⟩⟩)
   rw[HN.out]at wI;clear hpre htl;go_upto_region 6 with fail
   go_region_with (refine(wI.out _ (by first|exact zr.drew|exact zkm zr _)).mono ?_;rintro e w9 ⟨b9,rfl,xh⟩)
   all_goals
    have bJ:=zh xh;clear xh y0 x2;(try simp only[zQ])
    cases b9
    ·obtain⟨h0,-⟩|⟨-,pre',C9,j9,h9⟩:=bJ.out
     ·cases h0
     have HF:=zh (And.intro j9 h9);clear j9 h9;go_wp2_with fail;refine bodyPost_ret (v:=.tuple #[]) (results_none (by rfl) _ _ _) rfl ?_;exact⟨⟨_,rfl⟩,.inr ⟨⟨pre',C9,HF.out.1⟩,HF.out.2⟩⟩
    ·obtain⟨-,C9,j9,c9,h9,t9,r9⟩|⟨h0,-⟩:=bJ.out;rotate_left 1
     ·cases h0
     have HF:=zh (And.intro j9 (And.intro c9 h9));have oL:=zh (And.intro t9 r9);clear j9 c9 h9 t9 r9;have hwj:IntKind.i64.wrap ((j:Int)+1)=(j:Int)+1:=IntWalk.i64_in _ (by omega);go_wp2_with fail;exact⟨⟨j+1,C9,by omega,by go_num,HF,oL⟩,by simp[intOf];omega⟩
  ·obtain rfl:j=T:=by omega
   have hj1:¬ (j:Int)<w1-(w0:Int)+1:=by omega
   go_wp2_with fail;go_end0;exact⟨⟨_,rfl⟩,.inl ⟨⟨C',by rw[yO.out];exact HI.out.1⟩,HI.out.2.2⟩⟩
theorem zzK(vs:List VD)(b:BX)(A:Option Addr)(c:Nat)(w:World)(hrow:RowV w Any A vs)(hl:vs.length<=LV)(hok:(b.ok&&svB vs)=true):Calls prog 46 #[.slice A vs.length c,.agg #[.int .i64 b.v,.int .i64 b.l,.int .i64 b.i]] w fun e w' =>
  ∃kg xb lb A2 c2,e=.returned (.func (.func 93) #[] #[ptr0 kg,ptr0 xb,ptr0 lb])/\Below w.heap.size w w'/\w.heap.size<=kg/\w.heap.size<=xb/\w.heap.size<=lb/\AllM w' (fun q=>w.heap.size<=q) b (lenE vs b) kg xb lb A2 c2:=by
 obtain⟨bv,bl,bi⟩:=b;simp only;have hb1:=zkb (zs w) (.cells #[.int .i64 bv,.int .i64 bl,.int .i64 bi] 24);have hk1:=heap_alloc_new w (.cells #[.int .i64 bv,.int .i64 bl,.int .i64 bi] 24);have bA:=zh (fun w' (hb:Below w.heap.size w w')=>zrl vs ⟨bv,bl,bi⟩ A c w' (hrow.later hb) hl);have hlen:=(zmk hok).1;obtain⟨bs,hbs⟩:=zX (lenE vs ⟨bv,bl,bi⟩);have nR:=zh hbs;rw[hbs]at hlen ⊢;have HLEN:=zh hlen;clear hrow hl hbs hlen;go_enter func46,ntmps46;go_upto_region 1 with fail;obtain⟨w1,hw1⟩:=zX (w.alloc (.cells #[.int .i64 bv,.int .i64 bl,.int .i64 bi] 24));rw[hw1]at hb1 hk1 ⊢;obtain⟨x0,x1,x2⟩:=zky hk1;have HB1:=zh hb1;have aA:=zh hk1;clear hw1 hb1 hk1;go_wp2_with fail;refine(bA.out _ HB1.out).mono ?_;rintro e w2 ⟨hb2,⟨h0,rfl⟩|⟨-,A2,c2,rfl,hrb⟩⟩
 ·rw[hok]at h0;cases h0
 have HB2:=zh (zka HB1.out hb2);have aR:=zh (zkc aA.out hb2);rw[nR.out]at hrb;have dz:=zh (hrb.keep (S':=fun q=>w.heap.size<=q) (fun q h _=>Nat.le_trans HB1.out.size h) fun _ _ _=>rfl);clear hrb hb2 x0 x1 x2 bA;go_wp2_with fail;go_ret;have hb4:=zkb (zkb HB2.out (.cells #[.slice A2 (vs.length+1) c2] 98)) (.cells #[.bool true] 4);have hb24:Below w2.heap.size w2 ((w2.alloc (.cells #[.slice A2 (vs.length+1) c2] 98)).alloc (.cells #[.bool true] 4)):=zkb (zkb zr _) _;have hsz:=HB2.out.size;have hl:=HLEN.out;refine⟨w2.heap.size+1,w.heap.size,w2.heap.size,A2,c2,rfl,hb4,by omega,zl,hsz,zmW (by simp) _,zkc aR.out hb24,?_,dz.out.later hb24⟩;rw[hl];exact zke (zmW rfl _) _
attribute [local go_sem] Oper.semAt_some
end
section
open Go Go.RowKit
attribute [local go_sem] Oper.semAt_some
def nilS:SS:=⟨[],[],[]⟩
def putC(x:SS)(i a:Nat)(v:Int):SS:=⟨x.cells.set i ((x.cells.getD i []).set a v),x.tin,x.tout⟩
theorem zwy{vs:List VD}{s:SS}{nm:ByteArray}{id:Nat}(h:(newS vs s).num nm=some id):zl6 vs nm vs.length=some id/\id<vs.length:=by
 unfold ST.num at h;obtain⟨i,h1,h2⟩:=Option.bind_eq_some_iff.1 h;have h3:(newS vs s).cur=⟨vs,List.range vs.length,0⟩:=rfl;rw[h3]at h1 h2;have hi:=FR.at_lt h1;simp only at hi h2;rw[List.getElem?_range hi]at h2;injection h2 with h2;subst h2;exact⟨h1,hi⟩
theorem zt1{vs:List VD}{s:SS}(hl:s.cells.length=vs.length){i a:Nat}(hi:i<vs.length)(x:Int):((newS vs s).put i a x).state=putC s i a x:=by
 unfold ST.put ST.setL ST.state putC;congr 1;refine List.ext_getElem (by simp[newS,hl]) fun j h1 h2=>?_;simp only[newS,List.length_range,Nat.sub_zero,List.getElem_map,List.getElem_take,List.getElem_range];have h3:j<s.cells.length:=by simpa using h2
 by_cases e:j=i
 ·subst e;rw[if_pos rfl,List.getElem_set_self]
 ·rw[if_neg e,List.getElem_set_ne (Ne.symm e),List.getD_eq_getElem?_getD,List.getElem?_eq_getElem h3];rfl
theorem zl8(w:World){n:Nat}(hn:w.heap.size=n)(o:Obj):(w.alloc o).heap[n]?=some o:=by rw[<-hn];exact World.alloc_heap_new w o
section
variable {N N2 N4 N8 n6:Nat} {nd:Array Value} {a0 xv:Int} {vc vi vo:Value} {fc:Nat->Value} {X:SS} {C:Nat->Prop} {W W':World}
end
end
section
open Go Go.RowKit
def rnk(x:Int):Int:=if 0<x then 2*x-1 else -2*x
theorem zzU(x:Int):0<=rnk x:=by unfold rnk;split<;>omega
def lw(l:List Int):Int:=(l.map fun x=>1+rnk x).sum
def wt(ls:List (List Int)):Int:=(ls.map lw).sum
theorem zyK(x:Int)(l:List Int):lw (x::l)=1+rnk x+lw l:=by simp[lw]
theorem zye(l:List Int)(ls:List (List Int)):wt (l::ls)=lw l+wt ls:=by simp[wt]
theorem zxS{h:Int}:∀ {l:List Int},(∀e∈l,rnk e<h)->(l.length:Int)<=lw l/\lw l<=l.length*h
 | [],_=>by simp[lw]
 | x::l,hx=>by
  have h1:=zxS (l:=l) fun e he=>hx e (List.mem_cons_of_mem _ he);have h2:=hx x (List.mem_cons_self ..);have h3:=zzU x;rw[zyK,List.length_cons,Int.natCast_add,Int.add_mul];omega
def timR(a b:Int):Int:=if a≠0/\(1099511627776:Int).tdiv a<b then 1099511627777 else a*b
def powR(b:Int):Nat->Int
 | 0=>1
 | n+1=>timR (powR b n) b
def upA(b:Int):Int->List Nat->Int
 | s,[]=>s
 | s,i::l=>if 1099511627776<s+powR b i then 1099511627777 else upA b (s+powR b i) l
def upR(b:Int)(n:Nat):Int:=upA b 0 (List.range (n+1))
def cnt1(b:BX)(v:VD):Int:=if v.k=1 then 2*b.v+1 else if v.k=2 then powR (2*b.v+1) v.n.toNat else upR (2*b.v+1) b.l.toNat
def cntF(vs:List VD)(b:BX):Int:=vs.foldl (fun n v=>timR n (cnt1 b v)) (upR (2*b.v+1) b.i.toNat)
def rngZ(v:Int):List Int:=(List.range (2*v+1).toNat).map fun i:Nat=>(i:Int)-v
def tupE(v:Int):Nat->List (List Int)
 | 0=>[[]]
 | n+1=>(tupE v n).flatMap fun t=>(rngZ v).map fun x=>t++[x]
def betE(v:Int)(a m:Nat):List (List Int):=(List.range (m+1-a)).flatMap fun i=>tupE v (a+i)
def lstE(b:BX)(v:VD):List (List Int):=if v.k=1 then betE b.v 1 1 else if v.k=2 then betE b.v v.n.toNat v.n.toNat else betE b.v 0 b.l.toNat
def stg(st:List SS)(l:List (List Int)):List SS:=st.flatMap fun s=>l.map fun x=>⟨s.cells++[x],[],[]⟩
def stgF(b:BX)(vs:List VD):List SS:=vs.foldl (fun st v=>stg st (lstE b v)) [nilS]
def allU(vs:List VD)(b:BX):List SS:=(stgF b vs).flatMap fun s=>(betE b.v 0 b.i.toNat).map fun x=>⟨s.cells,x,[]⟩
def keyA:List (List Int)->List (List Int)->List Int
 | a::l,b::m=>((a.length:Int)::(a.take b.length).map rnk)++(if a.length=b.length then keyA l m else [])
 | _,_=>[]
def lexE:List Int->List Int->Int
 | x::a,y::b=>if x<y then -1 else if y<x then 1 else lexE a b
 | _,_=>0
def lisS(s:SS):List (List Int):=s.cells++[s.tin,s.tout]
def keyE(a b:SS):List Int:=[wt (lisS a),(a.cells.length:Int)]++keyA (lisS a) (lisS b)
def cmpE(a b:SS):Int:=lexE (keyE a b) (keyE b a)
def zll(a b:List SS):List SS :=
 match a,b with
 | [],b=>b
 | a,[]=>a
 | x::a,y::b=>if cmpE y x<0 then y::zll (x::a) b else x::zll a (y::b)
 termination_by a.length+b.length
def zlt(l:List SS):List SS:=if h:l.length<2 then l else zll (zlt (l.take (l.length / 2))) (zlt (l.drop (l.length / 2)))
 termination_by l.length
 decreasing_by
 ·simp;omega
 ·simp;omega
def allR(vs:List VD)(b:BX):List SS:=zlt (allU vs b)
theorem zpx{a b:Int}(ha:1<=a/\a<=1099511627777)(hb:1<=b/\b<=1099511627777):1<=timR a b/\timR a b<=1099511627777:=by
 unfold timR
 split
 ·omega
 ·rename_i h;have h1:b<=(1099511627776:Int).tdiv a:=by
   by_cases h2:b<=(1099511627776:Int).tdiv a
   ·exact h2
   ·exact absurd ⟨by omega,by omega⟩ h
  rw[Int.tdiv_eq_ediv_of_nonneg (by decide)]at h1;have h2:b*a<=1099511627776:=(Int.le_ediv_iff_mul_le (by omega)).1 h1;have h3:1*1<=a*b:=Int.mul_le_mul ha.1 hb.1 (by decide) (by omega);rw[Int.mul_comm]at h2;omega
theorem znA{a b:Int}(ha:1<=a)(hb:1<=b)(h:timR a b<=60):timR a b=a*b/\a<=60/\b<=60:=by
 unfold timR at h ⊢
 split at h
 ·omega
 ·rename_i h0;rw[if_neg h0];have h1:a*1<=a*b:=Int.mul_le_mul_of_nonneg_left hb (by omega);have h2:1*b<=a*b:=Int.mul_le_mul_of_nonneg_right ha (by omega);exact⟨rfl,by omega,by omega⟩
theorem zmh{b:Int}(hb:1<=b/\b<=2001):∀n,1<=powR b n/\powR b n<=1099511627777
 | 0=>by unfold powR;omega
 | n+1=>zpx (zmh hb n) (by omega)
theorem znD{b:Int}(hb:1<=b/\b<=2001):∀n,powR b n<=60->powR b n=b ^ n
 | 0,_=>by rw[Int.pow_zero];rfl
 | n+1,h=>by
  have h1:=znA (zmh hb n).1 hb.1 h;rw[powR,h1.1,znD hb n h1.2.1,Int.pow_succ]
theorem zq4{b:Int}(hb:1<=b/\b<=2001):∀(l:List Nat) (s:Int),0<=s/\s<=1099511627776->s<=upA b s l/\upA b s l<=1099511627777
 | [],s,h=>by unfold upA;omega
 | i::l,s,h=>by
  have h1:=zmh hb i;unfold upA
  split
  ·omega
  ·have:=zq4 hb l (s+powR b i) (by omega);omega
theorem zq3{b:Int}(hb:1<=b/\b<=2001)(n:Nat):1<=upR b n/\upR b n<=1099511627777:=by
 unfold upR;rw[List.range_succ_eq_map];unfold upA;rw[if_neg (by unfold powR;decide)];have:=zq4 hb (List.map Nat.succ (List.range n)) (0+powR b 0) (by unfold powR;decide);unfold powR at this ⊢;omega
theorem zqb{b:Int}(hb:1<=b/\b<=2001):∀(l:List Nat) (s:Int),0<=s->upA b s l<=60->upA b s l=s+(l.map fun i=>b ^ i).sum/\∀i∈l,powR b i<=60
 | [],s,_,h=>by unfold upA;simp
 | i::l,s,h0,h=>by
  have h1:=zmh hb i;unfold upA at h ⊢
  split at h
  ·omega
  ·rename_i h2;rw[if_neg h2];have h3:=zqb hb l (s+powR b i) (by omega) h;have h4:=(zq4 hb l (s+powR b i) (by omega)).1;have h5:powR b i<=60:=by omega
   rw[h3.1,znD hb i h5];refine⟨by simp;omega,fun j hj=>?_⟩;rcases List.mem_cons.1 hj with rfl|hj
   ·exact h5
   ·exact h3.2 j hj
theorem zpC(v:Int):(rngZ v).length=(2*v+1).toNat:=by simp[rngZ]
theorem zrL{v:Int}(hv:0<=v):∀n,((tupE v n).length:Int)=(2*v+1) ^ n
 | 0=>by rw[Int.pow_zero];rfl
 | n+1=>by
  have h:∀l:List (List Int),((l.flatMap fun t=>(rngZ v).map fun x=>t++[x]).length:Int)=l.length*(2*v+1):=by
   intro l
   induction l with
   | nil=>simp
   | cons t l ih =>
    rw[List.flatMap_cons,List.length_append,List.length_map,zpC,List.length_cons];have e:((2*v+1).toNat:Int)=2*v+1:=Int.toNat_of_nonneg (by omega)
    push_cast
    rw[ih,e,Int.add_mul];omega
  rw[tupE,h,zrL hv n,Int.pow_succ]
theorem zn8{v:Int}(hv:0<=v)(a m:Nat):((betE v a m).length:Int)=((List.range (m+1-a)).map fun i=>(2*v+1) ^ (a+i)).sum:=by
 unfold betE
 induction List.range (m+1-a)with
 | nil=>rfl
 | cons i l ih=>rw[List.flatMap_cons,List.length_append,List.map_cons,List.sum_cons,<-ih,<-zrL hv (a+i)];push_cast;rfl
theorem zlE{b:BX}(h:b.ok=true):(0<=b.v/\b.v<=1000)/\(0<=b.l/\b.l<=1000)/\0<=b.i/\b.i<=1000:=by
 simp only[BX.ok,okI,Bool.and_eq_true,decide_eq_true_eq]at h;omega
theorem zn6{b:BX}(hb:0<=b.v/\b.v<=1000)(v:VD):1<=cnt1 b v/\cnt1 b v<=1099511627777:=by
 unfold cnt1
 split
 ·omega
 ·split
  ·exact zmh (by omega) _
  ·exact zq3 (by omega) _
theorem zxL{v:Int}(hv:0<=v/\v<=1000){n:Nat}(h:upR (2*v+1) n<=60):((betE v 0 n).length:Int)=upR (2*v+1) n:=by
 have h1:=(zqb (b:=2*v+1) (by omega) (List.range (n+1)) 0 (by decide) h).1;rw[zn8 hv.1,show upR (2*v+1) n=upA (2*v+1) 0 (List.range (n+1))from rfl,h1];simp
theorem zuh{b:BX}{v:VD}(hb:0<=b.v/\b.v<=1000)(h:cnt1 b v<=60):((lstE b v).length:Int)=cnt1 b v:=by
 unfold lstE;unfold cnt1 at h ⊢;by_cases h1:v.k=1
 ·rw[if_pos h1]at h ⊢;rw[if_pos h1,zn8 hb.1];simp[Int.pow_succ]
 ·rw[if_neg h1]at h ⊢;rw[if_neg h1];by_cases h2:v.k=2
  ·rw[if_pos h2]at h ⊢;rw[if_pos h2,zn8 hb.1,znD (by omega) _ h];simp
  ·rw[if_neg h2]at h ⊢;rw[if_neg h2,zxL hb h]
theorem znn{vs:List VD}{b:BX}{i:Nat}(hi:i<vs.length):cntF (vs.take (i+1)) b=timR (cntF (vs.take i) b) (cnt1 b vs[i]):=by
 unfold cntF;rw[List.take_succ_eq_append_getElem hi,List.foldl_append];rfl
theorem zqh{vs:List VD}{b:BX}{i:Nat}(hi:i<vs.length):stgF b (vs.take (i+1))=stg (stgF b (vs.take i)) (lstE b vs[i]):=by
 unfold stgF;rw[List.take_succ_eq_append_getElem hi,List.foldl_append];rfl
theorem zn5{b:BX}(hb:b.ok=true)(vs:List VD):1<=cntF vs b/\cntF vs b<=1099511627777:=by
 have hk:=zlE hb;unfold cntF;have:∀(l:List VD) (n:Int),1<=n/\n<=1099511627777->1<=l.foldl (fun n v=>timR n (cnt1 b v)) n/\l.foldl (fun n v=>timR n (cnt1 b v)) n<=1099511627777:=by
  intro l
  induction l with
  | nil=>intro n h;exact h
  | cons v l ih=>intro n h;exact ih _ (zpx h (zn6 hk.1 v))
 exact this vs _ (zq3 (by omega) _)
theorem zsw{vs:List VD}{b:BX}(hb:b.ok=true)(h:cntF vs b<=60):∀k,k<=vs.length->cntF (vs.take (vs.length-k)) b<=60
 | 0,_=>by simpa using h
 | k+1,hk=>by
  have h1:=zsw hb h k (by omega);rw[show vs.length-k=vs.length-(k+1)+1 by omega,znn (by omega)]at h1;exact(znA (zn5 hb _).1 (zn6 (zlE hb).1 _).1 h1).2.1
theorem ztN(st:List SS)(l:List (List Int)):(stg st l).length=st.length*l.length:=by
 unfold stg
 induction st with
 | nil=>simp
 | cons s st ih=>rw[List.flatMap_cons,List.length_append,ih,List.length_map,List.length_cons,Nat.add_mul];omega
structure RefB(vs:List VD)(b:BX):Prop where
 one:∀i (hi:i<vs.length),cnt1 b vs[i]<=60/\(lstE b vs[i]).length<=60
 st:∀i,i<=vs.length->((stgF b (vs.take i)).length:Int)*upR (2*b.v+1) b.i.toNat=cntF (vs.take i) b/\(stgF b (vs.take i)).length<=60
 inp:((betE b.v 0 b.i.toNat).length:Int)=upR (2*b.v+1) b.i.toNat/\(betE b.v 0 b.i.toNat).length<=60
 all:((allU vs b).length:Int)=cntF vs b/\(allU vs b).length<=60
theorem zt0{vs:List VD}{b:BX}(hb:b.ok=true)(h:cntF vs b<=60):RefB vs b:=by
 have hk:=zlE hb;have h1:∀i (hi:i<vs.length),cnt1 b vs[i]<=60/\cntF (vs.take i) b<=60/\cntF (vs.take (i+1)) b=cntF (vs.take i) b*cnt1 b vs[i]:=fun i hi=>by
  have h2:=zsw hb h (vs.length-(i+1)) (by omega);rw[show vs.length-(vs.length-(i+1))=i+1 by omega,znn hi]at h2;have h3:=znA (zn5 hb _).1 (zn6 hk.1 _).1 h2;exact⟨h3.2.2,h3.2.1,by rw[znn hi];exact h3.1⟩
 have hup:=zq3 (b:=2*b.v+1) (by omega) b.i.toNat
 have hu:upR (2*b.v+1) b.i.toNat<=60:=by
  have:=zsw hb h vs.length zl;simpa[cntF]using this
 have hst:∀i,i<=vs.length->((stgF b (vs.take i)).length:Int)*upR (2*b.v+1) b.i.toNat=cntF (vs.take i) b:=by
  intro i
  induction i with
  | zero=>intro _;simp[stgF,cntF]
  | succ i ih =>
   intro hi;rw[zqh (by omega),ztN,(h1 i (by omega)).2.2,<-ih (by omega)]
   push_cast
   rw[zuh hk.1 (h1 i (by omega)).1,Int.mul_assoc,Int.mul_assoc,Int.mul_comm (cnt1 b vs[i])]
 have hle:∀i,i<=vs.length->(stgF b (vs.take i)).length<=60:=fun i hi=>by
  have h2:=zsw hb h (vs.length-i) (by omega);rw[show vs.length-(vs.length-i)=i by omega,<-hst i hi]at h2;have h3:((stgF b (vs.take i)).length:Int)*1<=((stgF b (vs.take i)).length:Int)*upR (2*b.v+1) b.i.toNat:=Int.mul_le_mul_of_nonneg_left hup.1 (by omega);omega
 have hin:=zxL hk.1 hu;have hall:((allU vs b).length:Int)=cntF vs b:=by
  have h3:=hst vs.length zl;rw[List.take_length]at h3;rw[<-h3,<-hin];unfold allU
  induction stgF b vs with
  | nil=>simp
  | cons s st ih=>rw[List.flatMap_cons,List.length_append,List.length_map,List.length_cons];push_cast;rw[ih,Int.add_mul];omega
 exact⟨fun i hi=>⟨(h1 i hi).1,by have:=zuh hk.1 (h1 i hi).1;have:=(h1 i hi).1;omega⟩,fun i hi=>⟨hst i hi,hle i hi⟩,⟨hin,by omega⟩,⟨hall,by omega⟩⟩
attribute [local go_sem] Oper.semAt_some
end
section
open Go Go.RowKit
theorem zmv:(prog.info? 32).map (fun i=>(i.zero,i.size,i.bytes))=some (some (.agg #[.slice none 0 0,.slice none 0 0,.slice none 0 0]),3,72):=by kernel_rfl
theorem bSts(a0 a1 a2:Value)(w:World):(Instr.buildSlice 27 1 #[(0,.agg #[a0,a1,a2])]).run prog w=.ok (.slice (some ⟨w.heap.size,0,none⟩) 1 1) (w.alloc (.cells #[a0,a1,a2] 32)):=by kernel_rfl
def zk8(vs:List (Value×Value×Value)):List Value:=vs.flatMap fun t=>[t.1,t.2.1,t.2.2]
theorem zqB(vs:List (Value×Value×Value)):(zk8 vs).length=vs.length*3:=by
 induction vs with
 | nil=>rfl
 | cons c l ih=>simp only[zk8,List.flatMap_cons,List.length_append,List.length_cons,List.length_nil]at ih ⊢;omega
theorem zqC:∀(l:List (Value×Value×Value)) (i o:Nat) (hi:i<l.length),o<3->(zk8 l)[i*3+o]?=[l[i].1,l[i].2.1,l[i].2.2][o]?
 | c::l,0,o,_,ho=>by
  rw[show zk8 (c::l)=[c.1,c.2.1,c.2.2]++zk8 l from rfl,List.getElem?_append_left (by simp;omega)];simp
 | c::l,i+1,o,hi,ho=>by
  rw[show zk8 (c::l)=[c.1,c.2.1,c.2.2]++zk8 l from rfl,List.getElem?_append_right (by simp;omega)];have:(i+1)*3+o-[c.1,c.2.1,c.2.2].length=i*3+o:=by simp;omega
  rw[this,zqC l i o (by simpa using hi) ho];simp
def zli(W:World)(n0:Nat)(S:Nat->Prop)(v:Value)(ss:List SS):Prop :=
 ∃vs:List (Value×Value×Value),W.ownsRow n0 32 3 v ss.length (zk8 vs)/\vs.length=ss.length/\∀k (hk:k<ss.length) (hv:k<vs.length),SV W (fun q=>S q/\v.ownBlock≠some q) ss[k] (.agg #[vs[k].1,vs[k].2.1,vs[k].2.2])
theorem zwq{W:World}{n0 n1 sz n:Nat}{E:TypeId}{v:Value}{xs:List Value}(h:W.ownsRow n0 E sz v n xs)(hn:n1<=n0):W.ownsRow n1 E sz v n xs:=by
 obtain⟨e1,h2⟩:=h;rcases h2 with h2|⟨g,cap,cur,rfl,h3,h4⟩
 ·exact⟨e1,.inl h2⟩
 ·exact⟨e1,.inr ⟨g,cap,cur,rfl,Nat.le_trans hn h3,h4⟩⟩
theorem zli.nil(W:World)(n0:Nat)(S:Nat->Prop):zli W n0 S (.slice none 0 0) []:=⟨[],World.ownsRow_nil _ _ _ _,rfl,fun k hk=>by simp at hk⟩
theorem zli.keep{W W':World}{n0:Nat}{S S':Nat->Prop}{v:Value}{ss:List SS}(h:zli W n0 S v ss)(hS:∀q,S q->q<W.heap.size->S' q)(hk:∀q,S q\/v.ownBlock=some q->q<W.heap.size->W'.heap[q]?=W.heap[q]?):zli W' n0 S' v ss:=by
 obtain⟨vs,h1,h2,h3⟩:=h;refine⟨vs,zmi h1 fun b hb=>hk b (.inr hb) (h1.lt b hb).2,h2,fun k hk1 hk2=>(h3 k hk1 hk2).keep (fun q h hlt=>⟨hS q h.1 hlt,h.2⟩) fun q h hlt=>hk q (.inl h.1) hlt⟩
theorem zli.nd{W:World}{n0:Nat}{S:Nat->Prop}{v:Value}{ss:List SS}(h:zli W n0 S v ss){k:Nat}(hk:k<ss.length) :
  ∃g cap A c B d D e,v=.slice (some ⟨g,0,none⟩) ss.length cap/\n0<=g/\g<W.heap.size/\W.cell? ⟨g,k*3,none⟩=some (.slice A ss[k].cells.length c)/\W.cell? ⟨g,k*3+1,none⟩=some (.slice B ss[k].tin.length d)/\W.cell? ⟨g,k*3+2,none⟩=some (.slice D ss[k].tout.length e) /\
   SV W (fun q=>S q/\q≠g) ss[k] (.agg #[.slice A ss[k].cells.length c,.slice B ss[k].tin.length d,.slice D ss[k].tout.length e]):=by
 obtain⟨vs,h1,hl,h2⟩:=h;have pz:k<vs.length:=by omega
 have hs:=h2 k hk pz;rcases h1.2 with⟨e1,e2⟩|⟨g,cap,cur,rfl,hb,hg,-⟩
 ·omega
 ·have hx:∀o u,o<3->[vs[k].1,vs[k].2.1,vs[k].2.2][o]?=some u->W.cell? ⟨g,k*3+o,none⟩=some u:=fun o u h4 hu=>by
   rw[h1.cellAt (k*3+o) (by omega),zqC vs k o pz h4];exact hu
  have x0:=hx 0 _ (by omega) rfl;have x1:=hx 1 _ (by omega) rfl;have x2:=hx 2 _ (by omega) rfl;generalize vs[k]=t at *
  obtain⟨t0,t1,t2⟩:=t;simp only at hs x0 x1 x2;obtain⟨A,c,B,d,D,e,he,h9⟩:=hs;have hs:SV W (fun q=>S q/\(Value.slice (some ⟨g,0,none⟩) ss.length cap).ownBlock≠some q) ss[k] (.agg #[t0,t1,t2]):=⟨A,c,B,d,D,e,he,h9⟩
  injection he with he;simp only[Array.mk.injEq,List.cons.injEq,and_true]at he;obtain⟨rfl,rfl,rfl⟩:=he;exact⟨g,cap,A,c,B,d,D,e,rfl,hb,zko hg,x0,x1,x2,hs.keep (fun q hq _=>⟨hq.1,fun e=>hq.2 (by rw[e];rfl)⟩) fun _ _ _=>rfl⟩
def zkq(W:World)(n0:Nat)(S:Nat->Prop)(v:Value)(ls:List (List Int)):Prop :=
 ∃vs:List Value,W.ownsRow n0 30 1 v ls.length vs/\vs.length=ls.length/\∀k (hk:k<ls.length) (hv:k<vs.length),∃A c,vs[k]=.slice A ls[k].length c/\ls[k].length<=c/\RowI W (fun q=>S q/\v.ownBlock≠some q) A ls[k]
theorem zkq.nil(W:World)(n0:Nat)(S:Nat->Prop):zkq W n0 S (.slice none 0 0) []:=⟨[],World.ownsRow_nil _ _ _ _,rfl,fun k hk=>by simp at hk⟩
theorem zkq.base{W:World}{n0 n1:Nat}{S:Nat->Prop}{v:Value}{ls:List (List Int)}(h:zkq W n0 S v ls)(hn:n1<=n0):zkq W n1 S v ls:=by
 obtain⟨vs,h1,h2⟩:=h;exact⟨vs,zwq h1 hn,h2⟩
theorem zkq.keep{W W':World}{n0:Nat}{S S':Nat->Prop}{v:Value}{ls:List (List Int)}(h:zkq W n0 S v ls)(hS:∀q,S q->q<W.heap.size->S' q)(hk:∀q,S q\/v.ownBlock=some q->q<W.heap.size->W'.heap[q]?=W.heap[q]?):zkq W' n0 S' v ls:=by
 obtain⟨vs,h1,h2,h3⟩:=h;refine⟨vs,zmi h1 fun b hb=>hk b (.inr hb) (h1.lt b hb).2,h2,fun k hk1 hk2=>?_⟩;obtain⟨A,c,e,hc,hr⟩:=h3 k hk1 hk2;exact⟨A,c,e,hc,hr.keep (fun q h hlt=>⟨hS q h.1 hlt,h.2⟩) fun q h hlt=>hk q (.inl h.1) hlt⟩
theorem zkq.slice{W:World}{n0:Nat}{S:Nat->Prop}{v:Value}{ls:List (List Int)}(h:zkq W n0 S v ls):∃A c,v=.slice A ls.length c:=by
 obtain⟨vs,h1,-⟩:=h;obtain⟨A',c',rfl,-⟩:=zkd h1;exact⟨A',c',rfl⟩
theorem zkq.nd{W:World}{n0:Nat}{S:Nat->Prop}{v:Value}{ls:List (List Int)}(h:zkq W n0 S v ls){k:Nat}(hk:k<ls.length) :
  ∃g cap A c,v=.slice (some ⟨g,0,none⟩) ls.length cap/\n0<=g/\g<W.heap.size/\W.cell? ⟨g,k,none⟩=some (.slice A ls[k].length c)/\ls[k].length<=c/\RowI W (fun q=>S q/\q≠g) A ls[k]:=by
 obtain⟨vs,h1,hl,h2⟩:=h;have pz:k<vs.length:=by omega
 obtain⟨A,c,e,hc,hr⟩:=h2 k hk pz;rcases h1.2 with⟨e1,e2⟩|⟨g,cap,cur,rfl,hb,hg,-⟩
 ·omega
 ·refine⟨g,cap,A,c,rfl,hb,zko hg,?_,hc,hr.keep (fun q hq _=>⟨hq.1,fun e=>hq.2 (by rw[e];rfl)⟩) fun _ _ _=>rfl⟩;rw[h1.cellAt k (by omega),List.getElem?_eq_getElem pz,e]
theorem zkq.ii{W:World}{n0:Nat}{S:Nat->Prop}{v:Value}{ls:List (List Int)}(h:zkq W n0 S v ls)(hS:∀q,n0<=q->q<W.heap.size->S q):∃A c,v=.slice A ls.length c/\ls.length<=c/\zlw W S A ls:=by
 obtain⟨vs,h1,hl,h2⟩:=h;obtain⟨A',c',rfl,hc',-⟩:=zkd h1;refine⟨A',c',rfl,hc',fun i hi=>?_⟩;obtain⟨g,cap,A,c,e,hg1,hg2,hc,hlc,hr⟩:=zkq.nd ⟨vs,h1,hl,h2⟩ hi;injection e with e1 e2 e3;subst e1;exact⟨⟨g,0,none⟩,A,c,rfl,hS g hg1 hg2,by rw[Addr.add_lit,Nat.zero_add];exact hc,hlc,hr.keep (fun q h _=>h.1) fun _ _ _=>rfl⟩
theorem zkq.app{W W5:World}{n0:Nat}{S S':Nat->Prop}{v v':Value}{ls ys:List (List Int)}{vs us:List Value}(hl:vs.length=ls.length)(kH:us.length=ys.length)
  (h2:∀k (hk:k<ls.length) (hv:k<vs.length),∃A c,vs[k]=.slice A ls[k].length c/\ls[k].length<=c/\RowI W (fun q=>S q/\v.ownBlock≠some q) A ls[k])(hS:∀q,S q->q<W.heap.size->S' q)
  (hy:∀k (hk:k<ys.length) (hv:k<us.length),∃A c,us[k]=.slice A ys[k].length c/\ys[k].length<=c/\RowI W (fun q=>S' q/\v.ownBlock≠some q) A ys[k])
  (ho:W5.ownsRow n0 30 1 v' (ls.length+ys.length) (vs++us))(hg:W.grownBy W5 v.ownBlock)(ak:v'.ownBlock=v.ownBlock\/v'.ownBlock=some W.heap.size):zkq W5 n0 S' v' (ls++ys):=by
 have hB:∀q,v.ownBlock≠some q->q<W.heap.size->v'.ownBlock≠some q:=fun q h hq e=>by
  rcases ak with e1|e1
  ·exact h (e1▸e)
  ·rw[e1]at e;injection e with e;omega
 have hk:∀q,v.ownBlock≠some q->q<W.heap.size->W5.heap[q]?=W.heap[q]?:=fun q h hq=>hg.block q hq fun e=>h e.symm;refine⟨vs++us,by rw[List.length_append];exact ho,by simp[hl,kH],fun k hk1 hk2=>?_⟩;by_cases hlt:k<ls.length
 ·have hlv:k<vs.length:=by omega
  obtain⟨A,c,e,hc,hr⟩:=h2 k hlt hlv;rw[List.getElem_append_left hlt,List.getElem_append_left hlv];exact⟨A,c,e,hc,hr.keep (fun q h hq=>⟨hS q h.1 hq,hB q h.2 hq⟩) fun q h hq=>hk q h.2 hq⟩
 ·have hk3:k-ls.length<ys.length:=by simp at hk1;omega
  obtain⟨A,c,e,hc,hr⟩:=hy (k-ls.length) hk3 (by omega);rw[List.getElem_append_right (by omega),List.getElem_append_right (by omega)];simp only[hl];exact⟨A,c,e,hc,hr.keep (fun q h hq=>⟨h.1,hB q h.2 hq⟩) fun q h hq=>hk q h.2 hq⟩
theorem zki{ops:Array Oper}{rest:List Oper}{o:Oper}{a:Act}{W:World}{Q:Exit->Act->World->Prop}{tS E:TypeId}{z:Value}{sz fJ:Nat}(hgd:o.guard=none)(s x:Operand)
  (ho:o.op=.call { callee:=.builtin .append,args := #[s,x],argTypes := #[tS,tS] })(hu:prog.underlying tS=some (.slice E))(hin:(prog.info? E).map (fun i=>(i.zero,i.size,i.bytes))=some (some z,sz,fJ))(hzc:z.cells.size=sz)(hsz:0<sz)(hby:fJ<=100)
  (base:Nat)(v:Value)(n:Nat)(xs:List Value)(hs:a.eval s=v)(hrow:W.ownsRow base E sz v n xs)
  (A:Option Addr)(m c:Nat)(news:List Value)(hx:a.eval x=.slice A m c)(hl:news.length=m*sz)(hA:A=none->m=0)(hc:∀ad,A=some ad->∀j u,news[j]?=some u->W.cell? (ad.add j)=some u)(h1c:∀u∈news,u.oneCell'=true)(hm:n+m<=1000000)(hb:base<=W.heap.size)
  (h:∀v' w',w'.ownsRow base E sz v' (n+m) (xs++news)->W.grownBy w' v.ownBlock->(v'.ownBlock=v.ownBlock\/v'.ownBlock=some W.heap.size)->wpList prog ops Q rest (a.put o.dst v') w') :
  wpList prog ops Q (o::rest) a W:=by
 obtain⟨i,hi,hz0,hz1,hz2⟩:=info_parts hin;rcases A with _|ad
 ·obtain rfl:=hA rfl;obtain rfl:news=[]:=List.eq_nil_of_length_eq_zero (by rw[hl];omega);refine wpList_plain hgd fun K hK=>?_;have hrun:(Builtin.append_ #[tS,tS] o.type #[v,.slice none 0 c]).run prog W=.ok v W:=by
   rcases hrow.2 with⟨rfl,h0⟩|⟨g,cap,cur,rfl,_,_,hnc,_⟩
   ·simp[Builtin.append_,run_underlying hu,sizeOf,typeInfo,hi,Builtin.lenOf,Builtin.firstCells]
   ·simp[Builtin.append_,run_underlying hu,sizeOf,typeInfo,hi,Builtin.lenOf,Builtin.firstCells,hnc,storeCells]
  unfold Oper.wp execOp;simp only[ho,resolve,invoke,builtin,Sem.run_bind,Sem.run_pure,Result.andThen_ok,List.map_toArray,List.map_cons,List.map_nil,hs,hx,List.length_nil,hrun];exact hK _ _ (h v W (by simpa using hrow) (znc _ _) (.inl rfl))
 ·have h9:(n+m)*fJ<=1000000*100:=Nat.mul_le_mul hm hby;exact wpList_append_own_at (P:=prog) _ hgd s x tS ho base E i z sz fJ hu hi hz0 hz1 hz2 hzc hsz v n xs hs hrow ad m c news hx hl (hc ad rfl) h1c (by unfold maxLen;omega) (by omega) hb (fun v' w' h1 h2 _ h4=>h v' w' h1 h2 h4)
end
end Go.Proofs.YtembgnhbpmfhpaaGreat
