/-
  Texts of the proof, put together without their remarks: Gf, Rcp, Scl, Nz, Ib, Fw, Wbg, Ecp, Stn.
-/
import Derived.Test.YtghbhbdnkjjnnaaGreatN8
set_option linter.unusedSimpArgs false
set_option linter.unusedVariables false
set_option maxHeartbeats 8000000
set_option maxRecDepth 100000
namespace Go.Proofs.YtghbhbdnkjjnnaaGreat
open Go Go.RowKit
theorem zrT:∀ (prs:List PR) (s:ByteArray),prcI prs s=idxP prs s
 | [],_=>rfl
 | q::qs,s=>by
  unfold prcI;rw[zrT qs s];unfold idxP;rw[List.findIdx?_cons]
def CalB (prs:List PR) (t:T):Prop:=∀ u∈po t,(u.k=50\/u.k=51)->∃ i,prcI prs u.s=some i
theorem zvP:∀ (t:T),isE t=true->∀ x∈po t,isE x=true:=by
 intro t
 induction t using T.ind with
 | _ k n s ks ih =>
  intro h x hx;simp only[po,List.mem_cons] at hx;rcases hx with rfl|hx
  ·exact h
  ·obtain⟨t,ht,hx⟩:=zm5.1 hx;exact ih t ht (zt8 h t ht) x hx
theorem CalB.expr {prs:List PR} {t:T} (h:isE t=true):CalB prs t:=fun u hu hk=>by
 have:=zt9 u (zvP t h u hu);omega
theorem CalB.kid {prs:List PR} {k n:Int} {s:ByteArray} {ks:List T} (h:CalB prs (.nd k n s ks)) {t:T} (ht:t∈ks):CalB prs t:=fun u hu=>h u (by simp only[po,List.mem_cons];exact .inr (zm5.2 ⟨t,ht,hu⟩))
theorem znW {prs:List PR} {k:Int} {s:ByteArray} {vs:List VD}:∀ {ks:List T} {i:Nat},cntK prs k s i ks vs=0->∀ t∈ks,∃ vs',cntV prs t vs'=0
 | [],_,_,t,ht=>by cases ht
 | u::us,i,h,t,ht=>by
  rw[cntK] at h;obtain⟨h1,h2⟩:=Nat.add_eq_zero_iff.1 h;rcases List.mem_cons.1 ht with rfl|ht
  ·exact⟨_,h1⟩
  ·exact znW h2 t ht
theorem zr2 {e:Int} (h:one1 e=0):e=0:=by
 unfold one1 at h
 split at h
 ·assumption
 ·omega
theorem zvq:∀ (t:T) (prs:List PR) (vs:List VD),(isS t=true\/isB t=true\/isE t=true)->cntV prs t vs=0->CalB prs t:=by
 intro t
 induction t using T.ind with
 | _ k n s ks ih =>
  intro prs vs ht h;rcases ht with hs|hb|he
  ·rw[cntV] at h;intro u hu hk;simp only[po,List.mem_cons] at hu;by_cases hc:k=50\/k=51
   ·rcases hu with rfl|hu
    ·have h0:=zr2 (e:=zli prs k s ks.length vs) (by omega);unfold zli at h0;rw[if_neg (by omega),if_neg (by omega),if_neg (by omega),if_neg (by omega),if_pos hc] at h0;rw[zrT]
     cases hi:idxP prs s with
     | none=>rw[hi] at h0;simp at h0
     | some i=>exact⟨i,hi⟩
    ·obtain⟨t,ht,hx⟩:=zm5.1 hu;have h57:t.k≠57:=by
      rcases zmS hs with⟨_,h1⟩|⟨h1,_⟩|⟨h1,_⟩|⟨h1,_⟩
      ·exact h1 t ht
      all_goals omega
     rcases(zvi hs).2 t ht with h1|h1
     ·exact CalB.expr h1 u hx hk
     ·exact absurd (zxx h1) h57
   ·rw[if_neg hc] at h;rcases hu with rfl|hu
    ·exact absurd hk hc
    ·obtain⟨t,ht,hx⟩:=zm5.1 hu;obtain⟨vs',hv⟩:=znW (Nat.add_eq_zero_iff.1 h).2 t ht;rcases(zvi hs).2 t ht with h1|h1
     ·exact CalB.expr h1 u hx hk
     ·exact ih t ht prs vs' (.inr (.inl h1)) hv u hx hk
  ·obtain⟨h57,hks⟩:=zqD _ _ _ _ hb;rw[cntV,if_neg (by omega)] at h;intro u hu hk;simp only[po,List.mem_cons] at hu;rcases hu with rfl|hu
   ·simp only[T.k_nd] at hk;omega
   ·obtain⟨t,ht,hx⟩:=zm5.1 hu;obtain⟨vs',hv⟩:=znW (Nat.add_eq_zero_iff.1 h).2 t ht;exact ih t ht prs vs' (.inl (hks t ht)) hv u hx hk
  ·exact CalB.expr he
def GP (prs:List PR) (t:T):Prop:=isS t=true/\CalB prs t/\∀ q∈prs,isB q.b=true/\CalB prs q.b
theorem GP.block {prs:List PR} {b:T} (hb:isB b=true) (hc:CalB prs b) (hq:∀ q∈prs,isB q.b=true/\CalB prs q.b):∀ u∈b.ks,GP prs u:=by
 obtain⟨k,n,s,ks⟩:=b;exact fun u hu=>⟨(zqD _ _ _ _ hb).2 u hu,hc.kid hu,hq⟩
theorem zxe:GC GP where
 two:=fun prs t h hk=>by
  obtain⟨k,n,s,ks⟩:=t;obtain⟨hs,hc,hq⟩:=h;simp only[T.k_nd] at hk;rcases zmS hs with⟨h1,_⟩|⟨_,_,a,b,c,d,rfl,_,hb1,hb2,_⟩|⟨h1,_⟩|⟨h1,_⟩
  ·omega
  ·exact⟨rfl,GP.block hb1 (hc.kid (t:=b) (by simp)) hq,GP.block hb2 (hc.kid (t:=c) (by simp)) hq⟩
  ·omega
  ·omega
 loc:=fun prs t h hk=>by
  obtain⟨k,n,s,ks⟩:=t;obtain⟨hs,hc,hq⟩:=h;simp only[T.k_nd] at hk;rcases zmS hs with⟨h1,_⟩|⟨h1,_⟩|⟨_,_,a,b,c,rfl,_,hb1,_⟩|⟨h1,_⟩
  ·omega
  ·omega
  ·exact⟨rfl,GP.block hb1 (hc.kid (t:=b) (by simp)) hq⟩
  ·omega
 stk:=fun prs t h hk=>by
  obtain⟨k,n,s,ks⟩:=t;obtain⟨hs,hc,hq⟩:=h;simp only[T.k_nd] at hk;rcases zmS hs with⟨h1,_⟩|⟨h1,_⟩|⟨h1,_⟩|⟨_,_,b,rfl,hb1⟩
  ·omega
  ·omega
  ·omega
  ·exact⟨rfl,GP.block hb1 (hc.kid (t:=b) (by simp)) hq⟩
 cal:=fun prs t h hk=>by
  obtain⟨hs,hc,hq⟩:=h;have hm:t∈po t:=by obtain⟨k,n,s,ks⟩:=t;simp[po]
  obtain⟨i,hi⟩:=hc t hm hk;obtain⟨-,hl⟩:=zoL _ _ _ hi;exact⟨i,prs[i],hi,List.getElem?_eq_getElem hl,GP.block (hq _ (List.getElem_mem hl)).1 (hq _ (List.getElem_mem hl)).2 hq⟩
theorem zpj {ps:List PR}:∀ {j:Nat},j<=ps.length->prcN ps j=0->∀ i (h:i<ps.length),i<j->prcE ps i ps[i]=0
 | 0,_,_,i,_,hi=>by omega
 | j+1,hj,h,i,hl,hi=>by
  rw[znE (by omega)] at h;by_cases e:i=j
  ·subst e;omega
  ·exact zpj (j:=j) (by omega) (by omega) i hl (by omega)
theorem zrD {p:PG} (h:zlc p=true):isB p.m=true/\∀ r∈p.prs,isB r.b=true:=by
 simp only[zlc,Bool.and_eq_true,decide_eq_true_eq,List.all_eq_true] at h;refine⟨?_,fun r hr=>?_⟩
 ·have:=h.2;simp only[zlx,Bool.and_eq_true] at this;exact this.2
 ·have:=h.1.2 r hr;simp only[zn4,zlx,Bool.and_eq_true] at this;exact this.2.2
theorem ztn {p:PG} (hv:zlc p=true) (hc:chkN p=0):∀ u∈p.m.ks,GP p.prs u:=by
 obtain⟨h1,h2⟩:=zrD hv;unfold chkN at hc;refine GP.block h1 (zvq _ _ p.vs (.inr (.inl h1)) (by omega)) fun q hq=>⟨h2 q hq,?_⟩
 obtain⟨i,hi,rfl⟩:=List.getElem_of_mem hq;have:=zpj (Nat.le_refl _) (show prcN p.prs p.prs.length=0 by omega) i hi hi;unfold prcE at this;exact zvq _ _ _ (.inr (.inl (h2 _ hq))) (show cntV p.prs p.prs[i].b p.prs[i].ps=0 by omega)
theorem zwN (M a b r s g:Nat) (h1:a<=b) (h2:s<=r) (hg:b*M+r<=g):a*M+s<=g:=by have:=Nat.mul_le_mul_right M h1;omega
theorem ztH {p:PG} {F:Int} {g:Nat} (hv:zlc p=true) (hg:F.toNat*2000+2000<=g) (back:Bool) (S:ST) (e:List Nat):Good 0 (runO p.prs F g back p.m ⟨S,0,e⟩):=by
 obtain⟨_,_,h3,_,h5⟩:=zmc hv;refine zlF _ _ fun u hu r hr=>zlZ (M:=2000) (fun q hq=>(h3 q hq).2.2) (by omega) g back u r ?_;have h6:=zoP (zlE hu);exact zwN 2000 (F.toNat-r.n) F.toNat 2000 _ g (by omega) (by omega) hg
theorem zw3 (A:Option Addr) (l c:Nat) (w:World):(Instr.buildSlice 31 1 #[(0,.slice A l c)]).run Tryz.prog w=.ok (.slice (some ⟨w.heap.size,0,none⟩) 1 1) (w.alloc (.cells #[.slice A l c] 32)):=by kernel_rfl
theorem bS12 (B C:Option Addr) (m d n e:Nat) (w:World):(Instr.build 34 #[(1,.slice B m d),(2,.slice C n e)]).run Tryz.prog w=.ok (.agg #[.slice none 0 0,.slice B m d,.slice C n e]) w:=by kernel_rfl
section
variable {P:Program} {ops:Array Oper} {Q:Exit->Act->World->Prop} {md:Region.Mode} {S1 S2:World->Prop} {k:Nat}
theorem zpa (I:Nat->Array Bool->Act->World->Prop) (hS:∀ f l a w,I f l a w->S1 w/\S2 w)
  (h:∀ f l a w,I f l a w->wpG P md ops Q S1 S2 k f l a w\/∃ f',f=f'+1/\Region.ready md ops l≠[]/\∀ i∈Region.ready md ops l,wpOp P ops Q i (fun a' w'=>I f' (l.setIfInBounds i true) a' w') a w) :
  ∀ f l a w,I f l a w->wpG P md ops Q S1 S2 k f l a w
 | 0,l,a,w,hi=>by
  rcases h 0 l a w hi with h1|⟨f',h1,_⟩
  ·exact h1
  ·omega
 | f+1,l,a,w,hi=>by
  rcases h (f+1) l a w hi with h1|⟨f',h1,h2,h3⟩
  ·exact h1
  ·obtain rfl:f=f':=by omega
   exact⟨fun h0=>absurd h0 h2,fun i hm=>wpOp_mono (fun a' w' h'=>⟨⟨(hS _ _ _ _ h').1,fun _=>(hS _ _ _ _ h').2⟩,zpa I hS h f _ a' w' h'⟩) (h3 i hm)⟩
theorem zql {a0:Act} {f0:Nat} {l0:Array Bool} {w0:World} (I:Act->Nat->Array Bool->Act->World->Prop) (hS:∀ A f l a w,I A f l a w->S1 w/\S2 w)
  (h:∀ A,A=a0->∀ f l a w,I A f l a w->wpG P md ops Q S1 S2 k f l a w\/∃ f',f=f'+1/\Region.ready md ops l≠[]/\∀ i∈Region.ready md ops l,wpOp P ops Q i (fun a' w'=>I A f' (l.setIfInBounds i true) a' w') a w)
  (h0:I a0 f0 l0 a0 w0):wpG P md ops Q S1 S2 k f0 l0 a0 w0:=zpa (I a0) (hS a0) (h a0 rfl) _ _ _ _ h0
end
def zn3 (l0 l3 l4 l7 l9:Bool) (v5 v8 v9 v12:Value) (b3:Nat) (s:SS):Option SI->RowD
 | none=>if l9=true then ⟨boxV b3,34,3,1,[.slice none 0 0,.slice none 0 0,.slice none 0 0]⟩ else nilR
 | some .inp=>if l3=true then ⟨v8,3,1,s.tin.length,zki s.tin⟩ else if l0=true then ⟨v5,3,1,0,[]⟩ else nilR
 | some .out=>if l7=true then ⟨v12,3,1,s.tout.length,zki s.tout⟩ else if l4=true then ⟨v9,3,1,0,[]⟩ else nilR
 | some _=>nilR
def zlN (vc vi vo:Value) (fc:Nat->Value) (b3:Nat) (s:SS) (j:Nat):Option SI->RowD
 | none=>⟨boxV b3,34,3,1,[vc,vi,vo]⟩
 | some .all=>⟨vc,32,1,j,(List.range j).map fc⟩
 | some (.el i)=>if i<j then ⟨fc i,3,1,(s.cells.getD i []).length,zki (s.cells.getD i [])⟩ else nilR
 | some .inp=>⟨vi,3,1,s.tin.length,zki s.tin⟩
 | some .out=>⟨vo,3,1,s.tout.length,zki s.tout⟩
theorem zvK (w:World) (n0:Nat) (v5 v8 v9 v12:Value) (b3:Nat) (s:SS):Rws w n0 (zn3 false false false false false v5 v8 v9 v12 b3 s):=by
 have e:∀ i,zn3 false false false false false v5 v8 v9 v12 b3 s i=nilR:=by
  intro i;rcases i with _|i
  ·rfl
  ·cases i<;>rfl
 refine⟨fun i=>by rw[e];exact zlS w n0,fun i j b _ hi _=>?_⟩;rw[e] at hi;simp[nilR,Value.ownBlock] at hi
theorem ztQ (w:World) (n0:Nat) (h:n0<=w.heap.size) (a b c:Value) (E:TypeId):(w.alloc (.cells #[a,b,c] E)).ownsRow n0 E 3 (boxV w.heap.size) 1 [a,b,c] :=
 ⟨rfl,.inr ⟨w.heap.size,1,#[a,b,c],rfl,h,heap_alloc_new w _,Nat.le_refl _,by unfold maxLen;omega,rfl,rfl⟩⟩
theorem zq3 (vc iE vi vo:Value) (fc:Nat->Value) (b3:Nat) (s:SS) (j:Nat) (l:List Int) (v8 r5:Value) (hl:s.cells.getD j []=l) :
  updR (updR (updR (updR (zlN vc vi vo fc b3 s j) (some (.el j)) ⟨r5,3,1,0,[]⟩) (some (.el j)) ⟨v8,3,1,l.length,zki l⟩) (some .all) ⟨iE,32,1,j+1,(List.range j).map fc++[v8]⟩) none ⟨boxV b3,34,3,1,[iE,vi,vo]⟩=zlN iE vi vo (fun i=>if i=j then v8 else fc i) b3 s (j+1):=by
 funext i;rcases i with _|i
 ·rfl
 ·cases i with
  | all =>
   simp only[updR,zlN,reduceCtorEq,if_false,if_true,RowD.mk.injEq,true_and];rw[List.range_succ,List.map_append];congr 1
   ·refine List.map_congr_left fun i hi=>?_;have:i≠j:=by have:=List.mem_range.1 hi;omega
    simp[this]
   ·simp
  | inp=>rfl
  | out=>rfl
  | el i =>
   by_cases e:i=j
   ·subst e;simp[updR,zlN,<-hl]
   ·have e2:(i<j+1)↔(i<j):=by omega
    simp[updR,zlN,e,e2]
theorem zpg {W:World} {n0:Nat} {vc vi vo:Value} {fc:Nat->Value} {b3:Nat} {s:SS} (h:Rws W n0 (zlN vc vi vo fc b3 s s.cells.length)):Rws W n0 (zk3 vc vi vo fc s):=by
 have e:∀ i,zk3 vc vi vo fc s i=zlN vc vi vo fc b3 s s.cells.length (some i):=fun i=>by cases i<;>rfl
 refine⟨fun i=>by rw[e];exact h.row (some i),fun i j b hij hi hj=>?_⟩;rw[e] at hi hj;exact h.sep (some i) (some j) b (fun e'=>hij (by injection e')) hi hj
theorem zrX {w:World} {n0 b:Nat} {x y z:Value} {E:TypeId} (hn:n0<=b) (h:w.heap[b]?=some (.cells #[x,y,z] E (0,0))):w.ownsRow n0 E 3 (boxV b) 1 [x,y,z] :=
 ⟨rfl,.inr ⟨b,1,#[x,y,z],rfl,hn,h,Nat.le_refl _,by unfold maxLen;omega,rfl,rfl⟩⟩
theorem zpU (w:World) (n0:Nat) (E:TypeId):w.ownsRow n0 E 1 (.slice none 0 0) 0 []:=⟨rfl,.inl ⟨rfl,rfl⟩⟩
theorem k_2 (l5 l9:Bool) (v5 v8 v8' v9 v12:Value) (b3:Nat) (s:SS):updR (zn3 false false false l5 l9 v5 v8' v9 v12 b3 s) (some .inp) ⟨v8,3,1,s.tin.length,zki s.tin⟩=zn3 false true false l5 l9 v5 v8 v9 v12 b3 s:=by
 funext i;rcases i with _|i
 ·rfl
 ·cases i<;>rfl
theorem k_5 (l2 l9:Bool) (v5 v8 v9 v12 v12':Value) (b3:Nat) (s:SS):updR (zn3 false l2 false false l9 v5 v8 v9 v12' b3 s) (some .out) ⟨v12,3,1,s.tout.length,zki s.tout⟩=zn3 false l2 false true l9 v5 v8 v9 v12 b3 s:=by
 funext i;rcases i with _|i
 ·rfl
 ·cases i<;>rfl
theorem k_7 (l2 l5:Bool) (v5 v8 v9 v12:Value) (b3 b3':Nat) (s:SS):updR (zn3 false l2 false l5 false v5 v8 v9 v12 b3' s) none ⟨boxV b3,34,3,1,[.slice none 0 0,.slice none 0 0,.slice none 0 0]⟩=zn3 false l2 false l5 true v5 v8 v9 v12 b3 s:=by
 funext i;rcases i with _|i
 ·rfl
 ·cases i<;>rfl
theorem zxu (vi vo v5 v9:Value) (fc:Nat->Value) (b3:Nat) (s:SS):updR (updR (zn3 false true false true true v5 vi v9 vo b3 s) none ⟨boxV b3,34,3,1,[.slice none 0 0,vi,vo]⟩) (some .all) ⟨.slice none 0 0,32,1,0,[]⟩=zlN (.slice none 0 0) vi vo fc b3 s 0:=by
 funext i;rcases i with _|i
 ·rfl
 ·cases i<;>rfl
theorem zvh (vc iE vi vo:Value) (fc:Nat->Value) (b3:Nat) (s:SS) (j:Nat) (l:List Int) (v8:Value) (hl:s.cells.getD j []=l) :
  updR (updR (updR (zlN vc vi vo fc b3 s j) (some (.el j)) ⟨v8,3,1,l.length,zki l⟩) (some .all) ⟨iE,32,1,j+1,(List.range j).map fc++[v8]⟩) none ⟨boxV b3,34,3,1,[iE,vi,vo]⟩=zlN iE vi vo (fun i=>if i=j then v8 else fc i) b3 s (j+1):=by
 rw[<-zq3 vc iE vi vo fc b3 s j l v8 v8 hl];congr 2;funext i;by_cases e:i=some (.el j)
 ·subst e;simp[updR]
 ·simp[updR,e]
theorem zqT (s:SS) (v:Value) (w:World) (hv:SV w Any s v) (hcl:s.cells.length<=5864062014800):Calls Tryz.prog 23 #[v] w fun e W'=>∃ v',e=.returned v'/\OwnS W' w.heap.size s v'/\Below w.heap.size w W':=by
 have h1:=bS12;have HV:=zh hv;obtain⟨A,c,B,d,D,e,rfl,hr1,hr2,hr3,hc1,hc2,hc3,hl1,hl2,hl3,hl4⟩:=hv;have hk:=heap_alloc_new w (.cells #[.slice A s.cells.length c,.slice B s.tin.length d,.slice D s.tout.length e] 34);have hbw:Below w.heap.size w ((w.alloc (.cells #[.slice A s.cells.length c,.slice B s.tin.length d,.slice D s.tout.length e] 34)).alloc (.cells #[.slice none 0 0,.slice none 0 0,.slice none 0 0] 34)):=zkc (zkc (Below.refl _ _) _) _;have hk2:=zkf hk (.cells #[.slice none 0 0,.slice none 0 0,.slice none 0 0] 34);have hz1:((w.alloc (.cells #[.slice A s.cells.length c,.slice B s.tin.length d,.slice D s.tout.length e] 34)).alloc (.cells #[.slice none 0 0,.slice none 0 0,.slice none 0 0] 34)).heap.size=w.heap.size+1+1:=by simp
 have hk3:=heap_alloc_new (w.alloc (.cells #[.slice A s.cells.length c,.slice B s.tin.length d,.slice D s.tout.length e] 34)) (.cells #[.slice none 0 0,.slice none 0 0,.slice none 0 0] 34);rw[World.size_alloc] at hk3;have HI:=zh (show s.I from ⟨fun l hl=>by
  obtain⟨i,hi,rfl⟩:=List.mem_iff_getElem.1 hl;obtain⟨_,_,_,_,_,_,_,hr⟩:=hr1 i hi;exact hr.fits,hr2.fits,hr3.fits⟩)
 go_enter Tryz.func23,Tryz.ntmps23;go_upto_region 1 with fail;obtain⟨w1,hw1⟩:∃ x,(w.alloc (.cells #[.slice A s.cells.length c,.slice B s.tin.length d,.slice D s.tout.length e] 34)).alloc (.cells #[.slice none 0 0,.slice none 0 0,.slice none 0 0] 34)=x:=⟨_,rfl⟩
 rw[hw1] at hbw hk2 hk3 hz1 ⊢;have HB1:=zh hbw;have aB:=zh hk2;have fw:=zh hk3;have HR1:=zh (hr1.later hbw);have HR2:=zh (hr2.later hbw);have HR3:=zh (hr3.later hbw);have HL:=zh (show s.Lim from ⟨hl1,hl2,hl3,hl4⟩);clear hk hbw hk2 hk3 hw1 hr1 hr2 hr3 hl1 hl2 hl3 hl4 HV;obtain⟨z0,z1,z2⟩:=zkr aB.out;have hSS:(fun w':World=>w'.cell? ⟨w.heap.size,1,none⟩=some (.slice B s.tin.length d)/\w'.cell? ⟨w.heap.size,2,none⟩=some (.slice D s.tout.length e)) w1.drew/\(fun _:World=>True) w1.drew:=⟨⟨z1,z2⟩,trivial⟩
 refine wp_region_noPanic ?_;refine zkd (fun w':World=>w'.cell? ⟨w.heap.size,1,none⟩=some (.slice B s.tin.length d)/\w'.cell? ⟨w.heap.size,2,none⟩=some (.slice D s.tout.length e)) (fun _:World=>True) 8 (by kernel_rfl) ?_;refine zT 0 hSS ?_;(try simp only[zQ]);refine zT 1 hSS ?_;(try simp only[zQ]);refine zT 3 hSS ?_;(try simp only[zQ]);refine zT 4 hSS ?_;(try simp only[zQ]);refine zql (fun A f l a wr=>∃ (l2 l5 l6 l7:Bool) (v8 v12 v13 v3:Value) (b3:Nat),f=(!l2).toNat+(!l5).toNat+(!l6).toNat+(!l7).toNat+1/\l = #[true,true,l2,true,true,l5,l6,l7,false] /\
  a=(((A.put (some 8) v8).put (some 11) v12).put (some 12) v13).put (some 3) v3/\Hid (Below w1.heap.size w1 wr)/\Hid (Rws wr w1.heap.size (zn3 false l2 false l5 l7 undef v8 undef v12 b3 s))/\Hid ((l5=true->l2=true)/\(l6=true->v13=.agg #[.slice none 0 0,v8,v12]/\l2=true/\l5=true)/\(l7=true->v3=.pointer (some ⟨b3,0,none⟩)))/\Hid (l7=false->v3=undef)) (fun A f l a wr h=>?_) ?_ ⟨false,false,false,false,undef,undef,undef,undef,0,rfl,rfl,(by simp only[Act.put,zD,zE,zF]),zh (Below.refl _ _).drew,zh (zvK _ _ _ _ _ _ _ _),zh ⟨fun h=>(by cases h),fun h=>(by cases h),fun h=>(by cases h)⟩,zh (fun _=>rfl)⟩
 ·obtain⟨_,_,_,_,_,_,_,_,_,_,_,_,hb,_⟩:=h;exact⟨⟨zb hb.out z1,zb hb.out z2⟩,trivial⟩
 rintro A' hA f l a wr ⟨l2,l5,l6,l7,v8,v12,v13,v3,b3,hf,rfl,ha,af,HRW,HC,HU⟩;by_cases hall:(l2&&l5&&l6&&l7)=true
 ·left
  simp only[Bool.and_eq_true] at hall;obtain⟨⟨⟨rfl,rfl⟩,rfl⟩,rfl⟩:=hall;obtain⟨-,qW,h3⟩:=HC.out;obtain⟨rfl,-,-⟩:=qW rfl;obtain rfl:=h3 rfl;subst hf ha hA;have hrow:=HRW.out.row none;obtain⟨B8,c8,e8,-,-⟩:=zkg (HRW.out.row (some .inp));change v8=.slice B8 s.tin.length c8 at e8;obtain⟨kI,c12,e12,-,-⟩:=zkg (HRW.out.row (some .out));change v12=.slice kI s.tout.length c12 at e12;subst e8 e12;have hbx:=zlL hrow;have c0:wr.cell? ⟨b3,0,none⟩=some (.slice none 0 0):=zc hbx rfl;have c1:wr.cell? ⟨b3,1,none⟩=some (.slice none 0 0):=zc hbx rfl;have c2:wr.cell? ⟨b3,2,none⟩=some (.slice none 0 0):=zc hbx rfl;have cf:∀ j,wr.frozen? ⟨b3,j,none⟩=false:=fun j=>zf hbx;refine zp 8 fun K hK=>?_;(try simp only[zQ]);go_simp;have hb3:w1.heap.size<=b3/\b3<wr.heap.size:=hrow.lt b3 rfl
  have hch:Chg (fun b=>b=b3) wr (((wr.setCell ⟨b3,0,none⟩ (.slice none 0 0)).setCell ⟨b3,1,none⟩ (.slice B8 s.tin.length c8)).setCell ⟨b3,2,none⟩ (.slice kI s.tout.length c12)) :=
   (((Chg.refl (fun b=>b=b3) wr).setCell (p:=⟨b3,0,none⟩) (.inl rfl) _).setCell (p:=⟨b3,1,none⟩) (.inl rfl) _).setCell (p:=⟨b3,2,none⟩) (.inl rfl) _
  have hh:=heap_setCell_same _ b3 2 _ _ (.slice kI s.tout.length c12) (heap_setCell_same _ b3 1 _ _ (.slice B8 s.tin.length c8) (heap_setCell_same wr b3 0 _ _ (.slice none 0 0) hbx));have aM:=zh (af.out.trans (hch.below af.out.size fun b e=>by omega));have hrw:=(HRW.out.upd none (r:=⟨boxV b3,34,3,1,[.slice none 0 0,.slice B8 s.tin.length c8,.slice kI s.tout.length c12]⟩) (hch.mono fun b _ e=>by subst e;rfl) (zrX hb3.1 hh) (fun b hb=>.inl hb)).upd (some .all) (r:=⟨.slice none 0 0,32,1,0,[]⟩) (Chg.refl _ _) (zpU _ _ _) (fun b hb=>by simp[Value.ownBlock] at hb);rw[zxu (fc:=fun _=>.slice none 0 0)] at hrw;have pG:=zh hrw;obtain⟨w2,hw2⟩:∃ x,((wr.setCell ⟨b3,0,none⟩ (.slice none 0 0)).setCell ⟨b3,1,none⟩ (.slice B8 s.tin.length c8)).setCell ⟨b3,2,none⟩ (.slice kI s.tout.length c12)=x:=⟨_,rfl⟩
  rw[hw2] at aM pG ⊢;have aN:(fun w':World=>w'.cell? ⟨w.heap.size,1,none⟩=some (.slice B s.tin.length d)/\w'.cell? ⟨w.heap.size,2,none⟩=some (.slice D s.tout.length e)) w2:=⟨zb aM.out z1,zb aM.out z2⟩
  refine hK.out _ _ aN ?_;clear hK K hSS aN hch hh hrw hw2 hbx c0 c1 c2 cf hrow HRW af HU HC qW h3 h1;refine zd ?_;refine NoPanic.normal ?_;obtain⟨vi,mJ⟩:∃ x,Value.slice B8 s.tin.length c8=x:=⟨_,rfl⟩
  obtain⟨vo,sJ⟩:∃ x,Value.slice kI s.tout.length c12=x:=⟨_,rfl⟩
  rw[mJ,sJ] at pG;have uQ:=zh mJ;have HVO:=zh sJ;clear mJ sJ;have q0:=zb aM.out z0;go_wp2_with fail;clear q0
  go_loopw [16] (fun i wr=>∃ j:Nat,j<=s.cells.length/\i=.int .i64 j/\Hid (Below w1.heap.size w1 wr)/\∃ vc fc,Hid (Rws wr w1.heap.size (zlN vc vi vo fc b3 s j))) (fun i _=>s.cells.length-(intOf i).toNat)
  case atStart=>exact⟨0,Nat.zero_le _,rfl,aM,_,_,pG⟩
  case round =>
   clear aM pG;obtain⟨j,hj,rfl,af,vc,fc,HRW⟩:=hrel;have y0:=zb af.out z0;by_cases hlt:j<s.cells.length
   ·have hj1:(j:Int)<(s.cells.length:Int):=by omega
    have hj0:(0:Int)<=(j:Int):=by omega
    obtain⟨a,l,Al,cl,rfl,Hl,hcl0,hlc,hrl⟩:=(HR1.out.later af.out).nd hlt;have xV:=zh hrl;have fU:=zh (show l.length<=LI by rw[<-Hl.out];exact HL.out.2.1 _ (List.getElem_mem hlt));have hbx:=zlL (HRW.out.row none);have x0:wr.cell? ⟨b3,0,none⟩=some vc:=zc hbx rfl;have hz0:wr.frozen? ⟨b3,0,none⟩=false:=zf hbx;obtain⟨Av,cv,bK,-⟩:=zkg (HRW.out.row (some .all));change vc=.slice Av j cv at bK;subst bK;have hS0:(fun _:World=>True) wr.drew/\(fun w':World=>w'.cell? ⟨b3,0,none⟩=some (.slice Av j cv)) wr.drew:=⟨trivial,x0⟩
    obtain⟨i0,hi0,hq0,hq1,hq2⟩:=info_parts zrN;have dV:=zh (zkP l Al cl Any wr.drew (xV.out.later (Below.refl _ _).drew) fU.out);go_upto_region 5 with fail;refine wp_region_noPanic ?_;refine zkd (fun _:World=>True) (fun w':World=>w'.cell? ⟨b3,0,none⟩=some (.slice Av j cv)) 7 (by kernel_rfl) ?_;refine zT 0 hS0 ?_;(try simp only[zQ]);refine zkN (i:=1) (v:=?_) rfl (by kernel_rfl) (by kernel_rfl) (by kernel_rfl) (by decide) rfl (by kernel_rfl) (by kernel_rfl) (fun _ _ _ h=>h) (Or.inl ⟨by rfl,?_⟩) hS0 ?_;rotate_left 1
    ·(intro w hSw;(try dsimp only at hSw);(try simp only[zA,zB,zC]);go_simp;(try with_reducible rfl))
    (try simp only[zQ]);refine zT 2 hS0 ?_;(try simp only[zQ]);have hsz:=af.out.size;have had:Calls Tryz.prog 48 [.slice Al l.length cl].toArray wr.drew fun e w'=>∃ v,e=.returned v/\(w'.ownsRow wr.heap.size 3 1 v l.length (zki l)/\Below wr.heap.size wr w') :=
     dV.out.mono fun e w' ⟨v,h1,h2,_,h4⟩=>⟨v,h1,h2,zka (Below.refl wr.heap.size wr).drew h4⟩
    refine zo 3 fun K hK=>?_;refine zke (by rfl) (.func 48) [.tmp 22] _ (by rfl) 48 _ zmU (by rfl) _ (by rfl) _ had ?_;rintro v8 wb ⟨ho,hbb⟩;have hd1:=HRW.out.upd (some (.el j)) (r:=⟨v8,3,1,l.length,zki l⟩) (Chg.of_below hbb) (zk6 ho hsz) (fun b hb=>.inr (ho.lt b hb).1);have HD1:=zh hd1;have dH:=zh hbb;have hS2:(fun _:World=>True) wb/\(fun w':World=>w'.cell? ⟨b3,0,none⟩=some (.slice Av j cv)) wb:=⟨trivial,zb dH.out x0⟩
    obtain⟨A8,lQ,rfl,-⟩:=zkg ho;refine hK.out _ _ hS2 ?_;clear hK K hd1 ho hS0 hbb had;(try simp only[zQ]);have h1:=zw3;refine zo 4 fun K hK=>?_;(try simp only[zA,zB,zC]);go_simp;have gK:=zh (show Below wr.heap.size wr (wb.alloc (.cells #[.slice A8 l.length lQ] 32)) from zkc dH.out _);have HD2:=zh (HD1.out.later (show Below wb.heap.size wb (wb.alloc (.cells #[.slice A8 l.length lQ] 32)) from zkc (Below.refl _ _) _));have aI:=zh (show(wb.alloc (.cells #[.slice A8 l.length lQ] 32)).heap[wb.heap.size]?=some (.cells #[.slice A8 l.length lQ] 32 (0,0)) from heap_alloc_new wb _);have xA:(fun _:World=>True) (wb.alloc (.cells #[.slice A8 l.length lQ] 32))/\(fun w':World=>w'.cell? ⟨b3,0,none⟩=some (.slice Av j cv)) (wb.alloc (.cells #[.slice A8 l.length lQ] 32)):=⟨trivial,zb gK.out x0⟩
    obtain⟨wc,hwc⟩:∃ x,(wb.alloc (.cells #[.slice A8 l.length lQ] 32))=x:=⟨_,rfl⟩
    rw[hwc] at gK HD2 aI xA ⊢;refine hK.out _ _ xA ?_;clear hK K hwc hS2 HD1;(try simp only[zQ]);have nz:=(zka af.out gK.out).size;have hrow:=HD2.out.row (some .all);rw[zkk (by simp)] at hrow;change wc.ownsRow w1.heap.size 32 1 (.slice Av j cv) j ((List.range j).map fc) at hrow;refine zo 5 fun K hK=>?_;refine zkT (by rfl) (.tmp 21) (.tmp 24) 31 (by rfl) w1.heap.size 32 i0 _ 1 24 Tryz.underlying31 hi0 hq0 hq1 hq2 rfl (by decide) (.slice Av j cv) j ((List.range j).map fc) (by rfl) hrow ⟨wb.heap.size,0,none⟩ 1 1 [.slice A8 l.length lQ] (by rfl) rfl (fun q u hq=>by
     match q,hq with
     | 0,hq=>injection hq with hq;subst hq;exact zc aI.out rfl) (fun u hu=>by simp at hu;subst hu;rfl) (by unfold maxLen;omega) (by omega) nz (fun vd wd ho hg bQ=>?_)
    have hd3:=HD2.out.upd (some .all) (r:=⟨vd,32,1,j+1,(List.range j).map fc++[.slice A8 l.length lQ]⟩) ((Chg.row hg).mono fun b _ hb=>hb) ho (fun b hb=>by
     rcases bQ with h5|h5
     ·exact .inl (h5▸hb)
     ·exact .inr (by rw[h5] at hb;injection hb with hb;omega))
    have HD3:=zh hd3;have hav:∀ g,(Value.slice Av j cv).ownBlock=some g->(zlN (.slice Av j cv) vi vo fc b3 s j (some .all)).v.ownBlock=some g:=fun g e=>e;have hsep:∀ g,(Value.slice Av j cv).ownBlock=some g->g≠b3:=fun g e h=>HRW.out.sep (some .all) none g (by simp) e (by rw[h];rfl);have hlo:∀ g,(Value.slice Av j cv).ownBlock=some g->w1.heap.size<=g:=fun g e=>(HRW.out.lt (some .all) g e).1;have cZ:Chg (fun b=>(Value.slice Av j cv).ownBlock=some b) wc wd:=Chg.row hg;have iD:=zh (show Below w1.heap.size w1 wd from (zka af.out gK.out).grown hg nz (fun g e=>hlo g e));have iZ:=zlL (HD3.out.row none);have e0:wd.cell? ⟨b3,0,none⟩=some (.slice Av j cv):=zc iZ rfl;have ez:wd.frozen? ⟨b3,0,none⟩=false:=zf iZ;have hab:a.block<w1.heap.size:=by
     obtain⟨a',_,_,e',_,hc',_⟩:=HR1.out j hlt;injection e' with e';subst e';have:=World.block_lt_of_cell? w1 _ hc';rwa[zko] at this
    have lH:(fun _:World=>True) wd/\(fun w':World=>w'.cell? ⟨b3,0,none⟩=some (.slice Av j cv)) wd:=⟨trivial,e0⟩
    have hd4:=HD3.out.set none (g:=b3) (o:=0) (by rfl) (by show 0<3;decide) vd;have hd5:Rws (wd.setCell ⟨b3,0,none⟩ vd) w1.heap.size (zlN vd vi vo (fun i=>if i=j then .slice A8 l.length lQ else fc i) b3 s (j+1)):=by
     rw[<-zvh (.slice Av j cv) vd vi vo fc b3 s j l (.slice A8 l.length lQ) (by rw[List.getD_eq_getElem?_getD,List.getElem?_eq_getElem hlt];exact Hl.out)];exact hd4
    have HD5:=zh hd5;have hb3lt:=(HD3.out.lt none b3 rfl)
    have vG:=zh (show Below w1.heap.size w1 (wd.setCell ⟨b3,0,none⟩ vd) from iD.out.trans ((((Chg.refl (fun b=>b=b3) wd).setCell (p:=⟨b3,0,none⟩) (.inl rfl) vd)).below iD.out.size fun b e=>by omega));obtain⟨Ad,cd',rfl,-⟩:=zkg ho;refine hK.out _ _ lH ?_;clear hK K hd3 hd4 hd5 ho hg bQ hrow xA cZ hav hsep hlo iZ;(try simp only[zQ]);refine zo 6 fun K hK=>?_;(try simp only[zA,zB,zC]);go_simp;refine hK.out _ _ lH ?_;clear hK K;(try simp only[zQ]);refine zp 7 fun K hK=>?_;(try simp only[zA,zB,zC]);go_simp;refine hK.out _ _ trivial ?_;clear hK K;(try simp only[zQ]);refine zd ?_;refine NoPanic.normal ?_;go_wp2_with fail
    go_roundw
    case rel=>exact⟨j+1,by omega,by go_num,vG,_,_,HD5⟩
    case measure=>simp[intOf];omega
   ·obtain rfl:j=s.cells.length:=by omega
    have hj1:¬ (s.cells.length:Int)<(s.cells.length:Int):=by omega
    have hbx:=zlL (HRW.out.row none);have x0:wr.cell? ⟨b3,0,none⟩=some vc:=zc hbx rfl;have x1:wr.cell? ⟨b3,1,none⟩=some vi:=zc hbx rfl;have x2:wr.cell? ⟨b3,2,none⟩=some vo:=zc hbx rfl;obtain⟨Av,cv,bK,-⟩:=zkg (HRW.out.row (some .all));change vc=.slice Av s.cells.length cv at bK;subst bK;rw[<-uQ.out] at x1;rw[<-HVO.out] at x2;have hk3:=zkb fw.out af.out;have q0:wr.cell? ⟨w.heap.size+1,0,none⟩=some (.slice none 0 0):=zc hk3 rfl;have q1:wr.cell? ⟨w.heap.size+1,1,none⟩=some (.slice none 0 0):=zc hk3 rfl;have q2:wr.cell? ⟨w.heap.size+1,2,none⟩=some (.slice none 0 0):=zc hk3 rfl;have cf:∀ j,wr.frozen? ⟨w.heap.size+1,j,none⟩=false:=fun j=>zf hk3;have fO:=zh (zpg HRW.out);have HK3E:=zh hk3;clear hbx hk3 HRW;go_wp2_with fail
    have hch:Chg (fun b=>b=w.heap.size+1) wr (((wr.setCell ⟨w.heap.size+1,0,none⟩ (.slice Av s.cells.length cv)).setCell ⟨w.heap.size+1,1,none⟩ (.slice B8 s.tin.length c8)).setCell ⟨w.heap.size+1,2,none⟩ (.slice kI s.tout.length c12)) :=
     (((Chg.refl (fun b=>b=w.heap.size+1) wr).setCell (p:=⟨w.heap.size+1,0,none⟩) (.inl rfl) _).setCell (p:=⟨w.heap.size+1,1,none⟩) (.inl rfl) _).setCell (p:=⟨w.heap.size+1,2,none⟩) (.inl rfl) _
    have hh:=heap_setCell_same _ (w.heap.size+1) 2 _ _ (.slice kI s.tout.length c12) (heap_setCell_same _ (w.heap.size+1) 1 _ _ (.slice B8 s.tin.length c8) (heap_setCell_same wr (w.heap.size+1) 0 _ _ (.slice Av s.cells.length cv) HK3E.out));obtain⟨w9,aQ⟩:∃ x,((wr.setCell ⟨w.heap.size+1,0,none⟩ (.slice Av s.cells.length cv)).setCell ⟨w.heap.size+1,1,none⟩ (.slice B8 s.tin.length c8)).setCell ⟨w.heap.size+1,2,none⟩ (.slice kI s.tout.length c12)=x:=⟨_,rfl⟩
    rw[aQ] at hch hh ⊢;have t0:w9.cell? ⟨w.heap.size+1,0,none⟩=some (.slice Av s.cells.length cv):=zc hh (by simp);have t1:w9.cell? ⟨w.heap.size+1,1,none⟩=some (.slice B8 s.tin.length c8):=zc hh (by simp);have t2:w9.cell? ⟨w.heap.size+1,2,none⟩=some (.slice kI s.tout.length c12):=zc hh (by simp);refine bodyPost_ret (v:=.agg #[.slice Av s.cells.length cv,.slice B8 s.tin.length c8,.slice kI s.tout.length c12]) (by simp[results,Tryz.results23,go_sem,t0,t1,t2]) rfl ⟨_,rfl,?_,(zka HB1.out af.out).trans (hch.below (zka HB1.out af.out).size fun b e=>by omega)⟩;have hrw:=fO.out.chg hch (fun i b hb e=>by have:=(fO.out.lt i b hb).1;omega);rw[<-uQ.out,<-HVO.out] at hrw;exact⟨_,_,_,_,rfl,hrw.mono (by omega),HI.out⟩
 ·right
  have bC:=HC.out;have hcc:(l5=true->l2=true)/\(l6=true->l2=true/\l5=true):=⟨bC.1,fun h=>(bC.2.1 h).2⟩
  refine⟨f-1,?_,?_,?_⟩
  ·clear HC bC HRW HU ha af hcc;subst hf;revert hall;revert l2 l5 l6 l7
   decide
  ·clear HC bC HRW HU ha af hf;revert hall hcc;revert l2 l5 l6 l7
   decide +kernel
  intro i hi;have hcase:(i=2/\l2=false)\/(i=5/\l5=false/\l2=true)\/(i=6/\l6=false/\l2=true/\l5=true)\/(i=7/\l7=false):=by
   refine of_decide_eq_true ((List.all_eq_true (p:=fun i=>decide ((i=2/\l2=false)\/(i=5/\l5=false/\l2=true)\/(i=6/\l6=false/\l2=true/\l5=true)\/(i=7/\l7=false)))).1 ?_ i hi);clear HC bC HRW HU ha af hf hi;revert hall hcc;revert l2 l5 l6 l7
   decide +kernel
  clear hi hall;subst ha hA;rcases hcase with⟨rfl,rfl⟩|⟨rfl,rfl,rfl⟩|⟨rfl,rfl,rfl,rfl⟩|⟨rfl,rfl⟩
  ·refine wpOp_step rfl (fun K' au=>?_);have hK:=zh au;clear au;have hsz:=af.out.size;have had:Calls Tryz.prog 48 [.slice B s.tin.length d].toArray wr fun e w'=>∃ v,e=.returned v/\(w'.ownsRow wr.heap.size 3 1 v s.tin.length (zki s.tin)/\Below wr.heap.size wr w') :=
    (zkP s.tin B d Any wr (HR2.out.later af.out) HL.out.2.2.1).mono fun e w' ⟨v,h1,h2,_,h4⟩=>⟨v,h1,h2,h4⟩
   refine zke (by rfl) (.func 48) [.tmp 7] _ (by rfl) 48 _ zmU (by rfl) _ (by rfl) _ had ?_;rintro v' w' ⟨ho,hb⟩;obtain rfl:l6=false:=by
    rcases l6 with _|_
    ·rfl
    ·exact absurd (hcc.2 rfl).1 (by decide)
   obtain rfl:l5=false:=by
    rcases l5 with _|_
    ·rfl
    ·exact absurd (hcc.1 rfl) (by decide)
   have hrw:=HRW.out.upd (some .inp) (r:=⟨v',3,1,s.tin.length,zki s.tin⟩) (Chg.of_below hb) (zk6 ho hsz) (fun b hb=>.inr (ho.lt b hb).1);rw[k_2] at hrw;exact hK.out _ _ ⟨true,false,false,l7,_,v12,v13,v3,b3,(by subst hf;simp<;>omega),rfl,(by simp only[zQ]),zh (zka af.out hb),zh hrw,zh ⟨fun h=>(by cases h),fun h=>(by cases h),bC.2.2⟩,HU⟩
  ·refine wpOp_step rfl (fun K' au=>?_);have hK:=zh au;clear au;have hsz:=af.out.size;have had:Calls Tryz.prog 48 [.slice D s.tout.length e].toArray wr fun e w'=>∃ v,e=.returned v/\(w'.ownsRow wr.heap.size 3 1 v s.tout.length (zki s.tout)/\Below wr.heap.size wr w') :=
    (zkP s.tout D e Any wr (HR3.out.later af.out) HL.out.2.2.2).mono fun e w' ⟨v,h1,h2,_,h4⟩=>⟨v,h1,h2,h4⟩
   refine zke (by rfl) (.func 48) [.tmp 10] _ (by rfl) 48 _ zmU (by rfl) _ (by rfl) _ had ?_;rintro v' w' ⟨ho,hb⟩;obtain rfl:l6=false:=by
    rcases l6 with _|_
    ·rfl
    ·exact absurd (hcc.2 rfl).2 (by decide)
   have hrw:=HRW.out.upd (some .out) (r:=⟨v',3,1,s.tout.length,zki s.tout⟩) (Chg.of_below hb) (zk6 ho hsz) (fun b hb=>.inr (ho.lt b hb).1);rw[k_5] at hrw;exact hK.out _ _ ⟨true,true,false,l7,v8,_,v13,v3,b3,(by subst hf;simp<;>omega),rfl,(by simp only[zQ]),zh (zka af.out hb),zh hrw,zh ⟨fun _=>rfl,fun h=>(by cases h),bC.2.2⟩,HU⟩
  ·refine wpOp_step rfl (fun K' au=>?_);have hK:=zh au;clear au;obtain⟨B8,c8,e8,-,-⟩:=zkg (HRW.out.row (some .inp));change v8=.slice B8 s.tin.length c8 at e8;obtain⟨kI,c12,e12,-,-⟩:=zkg (HRW.out.row (some .out));change v12=.slice kI s.tout.length c12 at e12;subst e8 e12;(try simp only[zQ]);go_simp;exact hK.out _ _ ⟨true,true,true,l7,_,_,_,v3,b3,(by subst hf;simp<;>omega),rfl,(by simp only[Act.put,zD,zE,zF]),af,HRW,zh ⟨fun _=>rfl,fun _=>⟨rfl,rfl,rfl⟩,bC.2.2⟩,HU⟩
  ·refine wpOp_step rfl (fun K' au=>?_);have hK:=zh au;clear au;obtain rfl:=HU.out rfl;(try simp only[zQ]);go_simp;have hsz:=af.out.size;have hrw:=HRW.out.upd none (r:=⟨boxV wr.heap.size,34,3,1,[.slice none 0 0,.slice none 0 0,.slice none 0 0]⟩) (W':=wr.alloc (.cells #[.slice none 0 0,.slice none 0 0,.slice none 0 0] 34)) (Chg.of_below (zkc (Below.refl _ _) _)) (ztQ wr _ hsz _ _ _ _) (fun b hb=>.inr (by simp[Value.ownBlock] at hb;omega));rw[k_7] at hrw;exact hK.out _ _ ⟨l2,l5,l6,true,v8,v12,v13,_,wr.heap.size,(by subst hf;simp<;>omega),rfl,(by simp only[Act.put,zD,zE,zF]),zh (zkc af.out _),zh hrw,zh ⟨bC.1,bC.2.1,fun _=>rfl⟩,zh (fun h=>(by cases h))⟩
def Nz (o:Out):Prop:=o ≠ .err 0
theorem Nz.bind {o:Out} {f:RS->Out} (h:Nz o) (hf:∀ r,Nz (f r)):Nz (o.bind f):=by
 cases o with
 | gas=>exact fun e=>by cases e
 | err x=>exact h
 | ok r=>exact hf r
theorem Nz.ok (r:RS):Nz (.ok r):=fun e=>by cases e
theorem Nz.gas:Nz .gas:=fun e=>by cases e
theorem Nz.step (F:Int) (r:RS):Nz (zkD F r):=by
 unfold zkD
 split
 ·intro e;injection e with e;omega
 ·exact Nz.ok _
theorem Nz.store (r:RS) (R:Int×ST):Nz (zkl r R):=by
 unfold zkl
 split
 ·rename_i h;intro e;injection e with e;exact h e
 ·exact Nz.ok _
theorem Nz.val {t:T} {r:RS} {f:Int->RS->Out} (hf:∀ x,Nz (f x r)):Nz (valO t r f):=by
 unfold valO
 split
 ·rename_i h;intro e;injection e with e;exact h e
 ·exact hf _
theorem Nz.holds {F:Int} {t:T} {r:RS} {f:Bool->RS->Out} (hf:∀ b r,Nz (f b r)):Nz (zle F t r f):=(Nz.step F r).bind fun r=>Nz.val fun x=>hf _ _
theorem Nz.assert (F:Int) (t:T) (b:Bool) (r:RS):Nz (zkw F t b r):=Nz.holds fun b' r=>by
 split
 ·exact Nz.ok _
 ·intro e;injection e with e;omega
theorem Nz.body {f:T->RS->Out}:∀ (l:List T) (r:RS),(∀ t∈l,∀ r,Nz (f t r))->Nz (zlb f l r)
 | [],r,_=>Nz.ok r
 | t::ts,r,h=>(h t (List.mem_cons_self ..) r).bind fun r=>Nz.body ts r fun u hu=>h u (List.mem_cons_of_mem _ hu)
theorem Nz.loop {F:Int} {f:T->RS->Out} {entry test:T} {l1 l2:List T} (h1:∀ t∈l1,∀ r,Nz (f t r)) (h2:∀ t∈l2,∀ r,Nz (f t r)):∀ (m:Nat) (r:RS),Nz (zma F f entry test l1 l2 m r)
 | 0,_=>Nz.gas
 | m+1,r=>by
  rw[zma];refine(Nz.body l1 r h1).bind fun r=>Nz.holds fun b r=>?_
  split
  ·exact Nz.ok _
  ·exact(Nz.body l2 r h2).bind fun r=>(Nz.assert F entry false r).bind fun r=>Nz.loop h1 h2 m r
theorem znt {G:List PR->T->Prop} (hG:GC G) {prs:List PR} {F:Int}:∀ (g:Nat) (back:Bool) (t:T) (r:RS),G prs t->Nz (zkA prs F g back t r)
 | 0,_,_,_,_=>Nz.gas
 | g+1,back,t,r,h=>by
  have hb:∀ back (b:T) r,(∀ u∈b.ks,G prs u)->Nz (zlb (zkA prs F g back) (blkL back b) r):=fun back b r hu=>Nz.body _ r fun u hm r=>znt hG g back u r (hu u (zlE hm));rw[zkA]
  split
  ·rename_i hk;obtain⟨-,h1,h2⟩:=hG.two _ _ h (.inl hk);refine Nz.holds fun yes r=>Nz.bind ?_ fun r=>Nz.assert _ _ _ _
   split
   ·exact hb _ _ _ h1
   ·exact hb _ _ _ h2
  ·split
   ·rename_i hk;obtain⟨-,h1,h2⟩:=hG.two _ _ h (.inr hk);exact(Nz.assert _ _ _ _).bind fun r=>Nz.loop (fun u hm r=>znt hG g back u r (h1 u (zlE hm))) (fun u hm r=>znt hG g back u r (h2 u (zlE hm))) g r
   ·split
    ·rename_i hk;obtain⟨-,h1⟩:=hG.loc _ _ h hk;exact(Nz.step _ _).bind fun r=>Nz.val fun x=>(Nz.store _ _).bind fun r=>(hb _ _ _ h1).bind fun r=>(Nz.step _ _).bind fun r=>Nz.val fun x=>Nz.store _ _
    ·split
     ·rename_i hk;obtain⟨-,h1⟩:=hG.stk _ _ h hk;exact(Nz.step _ _).bind fun r=>(Nz.store _ _).bind fun r=>(hb _ _ _ h1).bind fun r=>(Nz.step _ _).bind fun r=>Nz.store _ _
     ·split
      ·rename_i hk;obtain⟨i,q,hi,hq,h1⟩:=hG.cal _ _ h hk;rw[hi];dsimp only;rw[getD_some hq];exact(Nz.step _ _).bind fun r=>(Nz.store _ _).bind fun r=>(hb _ _ _ h1).bind fun r=>(Nz.step _ _).bind fun r=>Nz.store _ _
      ·exact(Nz.step _ _).bind fun r=>Nz.store _ _
theorem zvF {G:List PR->T->Prop} (hG:GC G) {prs:List PR} {F:Int} {g:Nat} {back:Bool} {b:T} {r:RS} (h:∀ u∈b.ks,G prs u):Nz (runO prs F g back b r):=Nz.body _ r fun u hm r=>znt hG g back u r (h u (zlE hm))
theorem RI.chgK {C:RC} {lo hi:Nat} {W W':World} {r:RS} (hC:(C.plus lo hi).Ok) (h:RI (C.plus lo hi) W r) (hc:Chg (fun b=>lo<=b/\b<hi) W W') (hlo:C.w.heap.size<=lo):RI (C.plus lo hi) W' r:=by
 have hkb:∀ b,lo<=b/\b<hi->(C.plus lo hi).kb b:=fun b hb=>.inr hb;refine⟨h.ks.chg hc fun b _ hb=>⟨Nat.le_trans hlo hb.1,.inr (.inl (hkb b hb))⟩,hc.keep h.box fun hb=>hC.rb.2 (hkb _ hb),znH h.ent fun b hb=>?_,h.el,h.en,h.n,h.fb⟩;exact hc.block b (h.ent.lt b hb).2 fun hb'=>hC.ev.2 b hb (hkb _ hb')
def Fam (p:PG):Prop:=∃ G:List PR->T->Prop,(∀ g,IStC G g)/\(zlc p=true->chkN p=0->(∀ u∈p.m.ks,G p.prs u)/\∀ (F:Int) (g:Nat) (back:Bool) (r:RS),Nz (runO p.prs F g back p.m r))
theorem zv3 (p:PG):Fam p:=⟨GP,zqp zxe,fun hv hc=>⟨ztn hv hc,fun _ _ _ _=>zvF zxe (ztn hv hc)⟩⟩
theorem zqZ {G:List PR->T->Prop} (hS:∀ g,IStC G g) {C:RC} (hC:C.Ok) {W:World} {r:RS} (h:RI C W r) (hG:∀ u∈C.p.m.ks,G C.p.prs u) (g:Nat) (back:Bool) (hg:runO C.p.prs C.F g back C.p.m r ≠ .gas) (pb qb bb:Nat)
  (h0:W.cell? ⟨pb,0,none⟩=some (.pointer (some ⟨C.rb,0,none⟩))) (hq:W.heap[qb]?=some (.cells #[.slice C.A1 C.p.vs.length C.c1,.slice C.A2 C.p.prs.length C.c2,.int .u8 C.p.m.k,.int .i64 C.p.m.n,.string C.p.m.s,.slice C.A3 C.p.m.ks.length C.c3] 55 (0,0))) (hb:W.cell? ⟨bb,0,none⟩=some (.bool back)) :
  Calls Tryz.prog 117 #[.pointer (some ⟨pb,0,none⟩),.pointer (some ⟨qb,0,none⟩),.pointer (some ⟨bb,0,none⟩)] W (RunP C W (runO C.p.prs C.F g back C.p.m r)):=by
 have aA:=zh (zk8 (hS g) hC h C.p.m _ back hC.pg.main hG hg);have q2:W.cell? ⟨qb,2,none⟩=some (.int .u8 C.p.m.k):=zc hq rfl;have q3:W.cell? ⟨qb,3,none⟩=some (.int .i64 C.p.m.n):=zc hq rfl;have q4:W.cell? ⟨qb,4,none⟩=some (.string C.p.m.s):=zc hq rfl;have q5:W.cell? ⟨qb,5,none⟩=some (.slice C.A3 C.p.m.ks.length C.c3):=zc hq rfl;obtain⟨o,ho⟩:∃ o,runO C.p.prs C.F g back C.p.m r=o:=⟨_,rfl⟩
 rw[ho] at aA hg ⊢;clear hC h hG hq ho;go_enter Tryz.func117,Tryz.ntmps117;go_wp2_with fail;refine aA.out.mono ?_;rintro e w1 ⟨hk1,hb1,ho1⟩
 cases o with
 | gas=>exact absurd rfl hg
 | err x =>
  subst ho1;exact⟨rfl,hk1,hb1,rfl⟩
 | ok r1 =>
  obtain⟨⟨u,rfl⟩,hr1⟩:=ho1;have HR:=zh hr1;have aB:=zh hk1;have HB1:=zh hb1;clear h0 q2 q3 q4 q5 hb hr1 hk1 hb1;go_wp2_with fail;go_end0;exact⟨aB.out,HB1.out,⟨_,rfl⟩,HR.out⟩
def outR (s:SS):Out->SS×Nat×Int×List Nat
 | .ok r=>(r.S.state,r.n,0,r.ent)
 | .err e=>(s,0,e,[])
 | .gas=>(s,0,0,[])
def resO (p:PG) (s:SS) (F:Int) (g:Nat) (back:Bool):SS×Nat×Int×List Nat :=
 if zlc p=false\/chkN p≠0 then (s,0,3,[]) else if fitB p.vs s=false then (s,0,20,[]) else outR s (runO p.prs F g back p.m ⟨newS p.vs s,0,List.replicate p.prs.length 0⟩)
def LimR (R:SS×Nat×Int×List Nat):Prop:=R.1.Lim/\(R.2.2.1=0->R.1.cells.length<=1000+R.2.1/\(∀ l∈R.1.cells,l.length<=1000)/\R.1.tin.length<=4096/\R.1.tout.length<=4096)
theorem LimR.run {r:RS} (h:r.S.WF) (hf:FB r.n r.S) (e:List Nat):LimR (r.S.state,r.n,0,e):=by
 obtain⟨-,h1,h2⟩:=zoK h;obtain⟨kd,hb,-⟩:=h.ex;refine⟨h1,fun _=>⟨?_,h2,h.tin.1,h.tout.1⟩⟩;have:=hb.len;have:=hf.1;simp only[ST.state,List.length_map,List.length_take];omega
def ResP (W:World) (R:SS×Nat×Int×List Nat) (e:Ending) (W':World):Prop:=∃ A c v1 v2 v3,e=.returned (.tuple #[.slice A R.2.2.2.length c,.agg #[v1,v2,v3,.int .i64 (R.2.1:Int),.int .i64 R.2.2.1]]) /\
 OwnS W' W.heap.size R.1 (.agg #[v1,v2,v3])/\RowI W' (fun b=>W.heap.size<=b) A (R.2.2.2.map Int.ofNat)/\R.2.2.2.length<=c/\Below W.heap.size W W'/\LimR R
theorem OwnS.slices {W:World} {n0:Nat} {s:SS} {v:Value} (h:OwnS W n0 s v):∃ A c B d D e,v=.agg #[.slice A s.cells.length c,.slice B s.tin.length d,.slice D s.tout.length e]:=by
 obtain⟨vc,vi,vo,fc,rfl,hr,-⟩:=h;obtain⟨A,c,e1,-⟩:=zkg (hr.row .all);obtain⟨B,d,e2,-⟩:=zkg (hr.row .inp);obtain⟨D,e,e3,-⟩:=zkg (hr.row .out);change vc=.slice A s.cells.length c at e1;change vi=.slice B s.tin.length d at e2;change vo=.slice D s.tout.length e at e3;exact⟨A,c,B,d,D,e,by rw[e1,e2,e3]⟩
theorem OwnS.chg {W W':World} {n0:Nat} {s:SS} {v:Value} {Cc:Nat->Prop} (h:OwnS W n0 s v) (hc:Chg Cc W W') (hC:∀ b,Cc b->b<n0):OwnS W' n0 s v:=by
 obtain⟨vc,vi,vo,fc,rfl,hr,hi⟩:=h;exact⟨vc,vi,vo,fc,rfl,hr.chg hc fun i b hb hcb=>by have:=(hr.lt i b hb).1;have:=hC b hcb;omega,hi⟩
theorem OwnS.lower {W:World} {n0 n1:Nat} {s:SS} {v:Value} (h:OwnS W n1 s v) (hn:n0<=n1):OwnS W n0 s v:=by
 obtain⟨vc,vi,vo,fc,rfl,hr,hi⟩:=h;exact⟨vc,vi,vo,fc,rfl,hr.mono hn,hi⟩
theorem set5 {W:World} {b:Nat} {x0 x1 x2 x3 x4 u0 u1 u2 u3 u4:Value} {E:TypeId} (h:W.heap[b]?=some (.cells #[x0,x1,x2,x3,x4] E (0,0))) :
  (((((W.setCell ⟨b,0,none⟩ u0).setCell ⟨b,1,none⟩ u1).setCell ⟨b,2,none⟩ u2).setCell ⟨b,3,none⟩ u3).setCell ⟨b,4,none⟩ u4).heap[b]?=some (.cells #[u0,u1,u2,u3,u4] E (0,0)) /\
   Chg (fun q=>q=b) W (((((W.setCell ⟨b,0,none⟩ u0).setCell ⟨b,1,none⟩ u1).setCell ⟨b,2,none⟩ u2).setCell ⟨b,3,none⟩ u3).setCell ⟨b,4,none⟩ u4):=by
 refine⟨?_,(((((Chg.refl (fun q=>q=b) W).setCell (p:=⟨b,0,none⟩) (.inl rfl) _).setCell (p:=⟨b,1,none⟩) (.inl rfl) _).setCell (p:=⟨b,2,none⟩) (.inl rfl) _).setCell (p:=⟨b,3,none⟩) (.inl rfl) _).setCell (p:=⟨b,4,none⟩) (.inl rfl) _⟩;rw[heap_setCell_same _ b 4 _ _ u4 (heap_setCell_same _ b 3 _ _ u3 (heap_setCell_same _ b 2 _ _ u2 (heap_setCell_same _ b 1 _ _ u1 (heap_setCell_same W b 0 _ _ u0 h))))];simp
theorem bRes (A B D:Option Addr) (l c m d n e:Nat) (x:Int) (w:World):(Instr.build 91 #[(0,.agg #[.slice A l c,.slice B m d,.slice D n e]),(2,.int .i64 x)]).run Tryz.prog w=.ok (.agg #[.slice A l c,.slice B m d,.slice D n e,.int .i64 0,.int .i64 x]) w:=by kernel_rfl
theorem zxC (A B D:Option Addr) (l c m d n e:Nat) (x:Int) (w:World):(Instr.build 91 #[(0,.agg #[.slice A l c,.slice B m d,.slice D n e]),(1,.int .i64 x)]).run Tryz.prog w=.ok (.agg #[.slice A l c,.slice B m d,.slice D n e,.int .i64 x,.int .i64 0]) w:=by kernel_rfl
theorem zr7 (n:Nat):madeCells (Value.int .i64 0).cells (n*1)=(zki (List.replicate n 0)).toArray:=by
 apply Array.ext';apply List.ext_getElem
 ·rw[Array.length_toList,size_madeCells];simp[zki]
 ·intro i h1 h2;have e:i % 1=0:=by omega
  simp[madeCells,zki,Value.cells,e]
theorem zxE (n:Nat) (hn:n<=4096) (w:World):(Instr.makeSlice 32 (.int .i64 (n:Int)) (.int .i64 (n:Int))).run Tryz.prog w=.ok (.slice (some ⟨w.heap.size,0,none⟩) n n) (w.alloc (.cells (zki (List.replicate n 0)).toArray 3)):=by
 have h:=znM;obtain⟨i,hi,hz⟩:=Option.map_eq_some_iff.1 h;injection hz with h1 h2;injection h2 with h2 h3;have hsc:(4096:Nat)<=9223372036854775807:=by decide
 have:=zld (P:=Tryz.prog) 32 3 i (.int .i64 0) Tryz.underlying32 hi h1 .i64 .i64 n n (Nat.le_refl _) (by rw[h3];omega) (Nat.le_trans hn hsc) w;rw[h2,zr7] at this;exact this
theorem bRun (A1 A2 A3 E:Option Addr) (l1 c1 l2 c2 l3 c3 m d:Nat) (k n F:Int) (s:ByteArray) (sb:Nat) (w:World):(Instr.build 180 #[(0,pv A1 l1 c1 A2 l2 c2 k n s A3 l3 c3),(1,.pointer (some ⟨sb,0,none⟩)),(3,.int .i64 F),(4,.slice E m d)]).run Tryz.prog w =
  .ok (.agg #[.slice A1 l1 c1,.slice A2 l2 c2,.int .u8 k,.int .i64 n,.string s,.slice A3 l3 c3,.pointer (some ⟨sb,0,none⟩),.int .i64 0,.int .i64 F,.slice E m d]) w:=by kernel_rfl
theorem zsQ {W:World} {a b:Nat} {x y:Array Value} {E F:TypeId} (ha:W.heap[a]?=some (.cells x E (0,0))) (hb:W.heap[b]?=some (.cells y F (0,0))) (hne:E≠F):a≠b:=by
 rintro rfl;rw[ha] at hb;injection hb with hb;injection hb with h1 h2;exact hne h2
theorem zpB {W w4 w8 aT:World} {n0:Nat} {kb:Nat->Prop} (h4:Below W.heap.size W w4) (h11:Below W.heap.size W aT) (h48:Below w4.heap.size w4 w8) (hk:Kpt n0 kb w8 aT) (hn:w4.heap.size<=n0):Below w4.heap.size w4 aT :=
 ⟨h11.os.trans h4.os.symm,h11.tape.trans h4.tape.symm,h11.output.trans h4.output.symm,Nat.le_trans h48.size hk.size,fun b hb=>(hk.kept b (Nat.lt_of_lt_of_le hb h48.size) (.inl (Nat.lt_of_lt_of_le hb hn))).trans (h48.block b hb)⟩
theorem zue:IsFn Tryz.prog 117 Tryz.f117:=⟨Tryz.func117,by kernel_rfl,by kernel_rfl⟩
theorem zud:IsFn Tryz.prog 28 Tryz.f28:=⟨Tryz.func28,by kernel_rfl,by kernel_rfl⟩
def OkR (C:RC) (lo hi:Nat) (o:Out) (w9 w':World):Prop:=∃ r,o=.ok r/\(C.plus lo hi).Ok/\RI (C.plus lo hi) w' r/\Kpt C.n0 C.kb w9 w'
def ErX (C:RC) (o:Out) (w9:World) (x:Int) (w':World):Prop:=o=.err x/\Kpt C.n0 C.kb w9 w'/\Below C.w.heap.size C.w w'
theorem zqb {G:List PR->T->Prop} (hS:∀ g,IStC G g) {C:RC} {w8 w9:World} {r:RS} {jb:Nat} (hC8:C.Ok) (h8:RI C w8 r) (aQ:w8.alloc (.cells #[.slice none 0 0,.bool false] 185)=w9) (hjb:w8.heap.size=jb) (hG:∀ u∈C.p.m.ks,G C.p.prs u) (g:Nat) (back:Bool) (o:Out) (ho:runO C.p.prs C.F g back C.p.m r=o) (hg:o ≠ .gas) (pb qb bb:Nat)
  (h0:w8.cell? ⟨pb,0,none⟩=some (.pointer (some ⟨C.rb,0,none⟩))) (hq:w8.heap[qb]?=some (.cells #[.slice C.A1 C.p.vs.length C.c1,.slice C.A2 C.p.prs.length C.c2,.int .u8 C.p.m.k,.int .i64 C.p.m.n,.string C.p.m.s,.slice C.A3 C.p.m.ks.length C.c3] 55 (0,0))) (hb:w8.cell? ⟨bb,0,none⟩=some (.bool back)) :
  Calls Tryz.prog 116 #[.pointer (some ⟨jb,0,none⟩),.func (.func 117) #[] #[.pointer (some ⟨pb,0,none⟩),.pointer (some ⟨qb,0,none⟩),.pointer (some ⟨bb,0,none⟩)]] w9 (AttP w9 (OkR (C.plus jb w9.heap.size) w9.heap.size (w9.heap.size+3) o w9) (ErX (C.plus jb w9.heap.size) o w9)):=by
 have hbj:=zkc (Below.refl w8.heap.size w8) (.cells #[.slice none 0 0,.bool false] 185);have kj:=heap_alloc_new w8 (.cells #[.slice none 0 0,.bool false] 185);obtain⟨hC9,h9⟩:=h8.plus hC8 hbj;rw[aQ,hjb] at kj hC9 h9;rw[aQ] at hbj;have hjl:=zkj kj;refine zqk jb _ _ zue _ w9 kj _ _ fun W1 hb1 hz1=>?_;obtain⟨dw,h1⟩:=h9.plus hC9 hb1;have hbt:=zka hbj hb1;have hrun:=zqZ hS dw h1 hG g back (show runO C.p.prs C.F g back C.p.m r ≠ .gas by rw[ho];exact hg) pb qb bb (zb hbt h0) (zkb hq hbt) (zb hbt hb);refine hrun.mono ?_;rintro e w' ⟨hk,hbl,hout⟩;rw[show runO ((C.plus jb w9.heap.size).plus w9.heap.size W1.heap.size).p.prs ((C.plus jb w9.heap.size).plus w9.heap.size W1.heap.size).F g back ((C.plus jb w9.heap.size).plus w9.heap.size W1.heap.size).p.m r=o from ho] at hout;refine⟨fun b hb hlt=>hk.kept b hlt (.inr ?_),?_⟩
 ·rcases hb with hb|rfl
  ·exact .inr ⟨hb,hlt⟩
  ·exact .inl (.inr ⟨Nat.le_refl _,hjl⟩)
 ·have hkk:Kpt C.n0 (C.plus jb w9.heap.size).kb w9 w':=(Kpt.of_below hb1).trans (Kpt.less (C:=C.plus jb w9.heap.size) hk)
  cases o with
  | gas=>exact absurd rfl hg
  | err x=>exact .inr ⟨x,hout,rfl,hkk,hbl⟩
  | ok r1 =>
   rw[hz1] at dw hout;exact .inl ⟨hout.1,r1,rfl,dw,hout.2,hkk⟩
theorem zrK (p:PG) (s:SS) (F:Int) (g:Nat) (back:Bool) (v sv:Value) (W:World) (hp:PV W Any p v) (hs:SV W Any s sv) (hcl:s.cells.length<=5864062014800) (hF:I64 F) (lK:F<=1000000) (hg:F.toNat*2000+2000<=g) (hfam:Fam p) :
  Calls Tryz.prog 85 #[v,sv,.int .i64 F,.bool back] W (ResP W (resO p s F g back)):=by
 have HFAM:=zh hfam;clear hfam;have HP:=zh hp;have HS:=zh hs;obtain⟨A1,c1,A2,c2,A3,c3,rfl,sK⟩:=hp;obtain⟨A,c,B,d,D,e,rfl,hr1,hr2,hr3,hc1,hc2,hc3,hl1,hl2,hl3,hl4⟩:=hs;have HPG:=zh sK;have mf:=zh (show s.Lim from ⟨hl1,hl2,hl3,hl4⟩);have HV:=zh (fun w' (hb:Below W.heap.size W w')=>zpE p Any _ w' (HP.out.later hb));have bI:=zh (fun w' (hb:Below W.heap.size W w')=>zrl p Any _ w' (HP.out.later hb));have dV:=zh (fun w' (hb:Below W.heap.size W w')=>zqT s _ w' (HS.out.later hb) hcl);have ku:=zh (fun w' (hb:Below W.heap.size W w')=>zs4 p.vs s A1 c1 _ w' (sK.vars.later hb) sK.lv (HS.out.later hb));obtain⟨Re,hRe⟩:∃ R,resO p s F g back=R:=⟨_,rfl⟩
 have fO:=zh hRe;rw[hRe];have hb4:=zkc (zkc (zkc (zkc (Below.refl W.heap.size W) (.cells #[.slice A1 p.vs.length c1,.slice A2 p.prs.length c2,.int .u8 p.m.k,.int .i64 p.m.n,.string p.m.s,.slice A3 p.m.ks.length c3] 55)) (.cells #[.slice A s.cells.length c,.slice B s.tin.length d,.slice D s.tout.length e] 34)) (.cells #[.bool back] 4)) (.cells #[.slice none 0 0,.slice none 0 0,.slice none 0 0,.int .i64 0,.int .i64 0] 91);have k0:=zkf (zkf (zkf (heap_alloc_new W (.cells #[.slice A1 p.vs.length c1,.slice A2 p.prs.length c2,.int .u8 p.m.k,.int .i64 p.m.n,.string p.m.s,.slice A3 p.m.ks.length c3] 55)) (.cells #[.slice A s.cells.length c,.slice B s.tin.length d,.slice D s.tout.length e] 34)) (.cells #[.bool back] 4)) (.cells #[.slice none 0 0,.slice none 0 0,.slice none 0 0,.int .i64 0,.int .i64 0] 91)
 have k1:=zkf (zkf (heap_alloc_new (W.alloc (.cells #[.slice A1 p.vs.length c1,.slice A2 p.prs.length c2,.int .u8 p.m.k,.int .i64 p.m.n,.string p.m.s,.slice A3 p.m.ks.length c3] 55)) (.cells #[.slice A s.cells.length c,.slice B s.tin.length d,.slice D s.tout.length e] 34)) (.cells #[.bool back] 4)) (.cells #[.slice none 0 0,.slice none 0 0,.slice none 0 0,.int .i64 0,.int .i64 0] 91);have k2:=zkf (heap_alloc_new ((W.alloc (.cells #[.slice A1 p.vs.length c1,.slice A2 p.prs.length c2,.int .u8 p.m.k,.int .i64 p.m.n,.string p.m.s,.slice A3 p.m.ks.length c3] 55)).alloc (.cells #[.slice A s.cells.length c,.slice B s.tin.length d,.slice D s.tout.length e] 34)) (.cells #[.bool back] 4)) (.cells #[.slice none 0 0,.slice none 0 0,.slice none 0 0,.int .i64 0,.int .i64 0] 91)
 have k3:=heap_alloc_new (((W.alloc (.cells #[.slice A1 p.vs.length c1,.slice A2 p.prs.length c2,.int .u8 p.m.k,.int .i64 p.m.n,.string p.m.s,.slice A3 p.m.ks.length c3] 55)).alloc (.cells #[.slice A s.cells.length c,.slice B s.tin.length d,.slice D s.tout.length e] 34)).alloc (.cells #[.bool back] 4)) (.cells #[.slice none 0 0,.slice none 0 0,.slice none 0 0,.int .i64 0,.int .i64 0] 91);simp only[World.size_alloc] at k1 k2 k3;have iT:((((W.alloc (.cells #[.slice A1 p.vs.length c1,.slice A2 p.prs.length c2,.int .u8 p.m.k,.int .i64 p.m.n,.string p.m.s,.slice A3 p.m.ks.length c3] 55)).alloc (.cells #[.slice A s.cells.length c,.slice B s.tin.length d,.slice D s.tout.length e] 34)).alloc (.cells #[.bool back] 4)).alloc (.cells #[.slice none 0 0,.slice none 0 0,.slice none 0 0,.int .i64 0,.int .i64 0] 91)).heap.size=W.heap.size+4:=by simp
 obtain⟨w4,hw4⟩:∃ x,((((W.alloc (.cells #[.slice A1 p.vs.length c1,.slice A2 p.prs.length c2,.int .u8 p.m.k,.int .i64 p.m.n,.string p.m.s,.slice A3 p.m.ks.length c3] 55)).alloc (.cells #[.slice A s.cells.length c,.slice B s.tin.length d,.slice D s.tout.length e] 34)).alloc (.cells #[.bool back] 4)).alloc (.cells #[.slice none 0 0,.slice none 0 0,.slice none 0 0,.int .i64 0,.int .i64 0] 91))=x:=⟨_,rfl⟩
 rw[hw4] at hb4 k0 k1 k2 k3 iT;have ak:=zh hb4;have aP:=zh k0;have aB:=zh k1;have aK:=zh k2;have fw:=zh k3;have jZ:=zh iT;have p0:w4.cell? ⟨W.heap.size,0,none⟩=some (.slice A1 p.vs.length c1):=zc k0 rfl;have p1:w4.cell? ⟨W.heap.size,1,none⟩=some (.slice A2 p.prs.length c2):=zc k0 rfl;have p2:w4.cell? ⟨W.heap.size,2,none⟩=some (.int .u8 p.m.k):=zc k0 rfl;have p3:w4.cell? ⟨W.heap.size,3,none⟩=some (.int .i64 p.m.n):=zc k0 rfl;have p4:w4.cell? ⟨W.heap.size,4,none⟩=some (.string p.m.s):=zc k0 rfl;have p5:w4.cell? ⟨W.heap.size,5,none⟩=some (.slice A3 p.m.ks.length c3):=zc k0 rfl;obtain⟨vb,hvb⟩:∃ b,zlc p=b:=⟨_,rfl⟩
 have eH:=zh hvb;rw[hvb] at HV bI;clear sK hr1 hr2 hr3 hRe hvb hb4 k0 k1 k2 k3 iT hl1 hl2 hl3 hl4 hc1 hc2 hc3;go_enter Tryz.func85,Tryz.ntmps85;go_wp2_with fail;refine(HV.out w4 ak.out).mono ?_;rintro e5 w5 ⟨rfl,b5⟩;clear hw4
 cases vb
 ·have HX:=zh (show Re=(s,0,3,[]) by rw[<-fO.out,resO,if_pos (.inl eH.out)]);clear p0 p1 p2 p3 p4 p5;have dI:=zkb aB.out b5;have lJ:=zkb fw.out b5;have s0:w5.cell? ⟨W.heap.size+1,0,none⟩=some (.slice A s.cells.length c):=zc dI rfl;have s1:w5.cell? ⟨W.heap.size+1,1,none⟩=some (.slice B s.tin.length d):=zc dI rfl;have s2:w5.cell? ⟨W.heap.size+1,2,none⟩=some (.slice D s.tout.length e):=zc dI rfl;have aV:=zh (dV.out w5 (zka ak.out b5));have dZ:=zh lJ;have hbq:=b5;clear dI lJ;go_wp2_with fail;refine aV.out.mono ?_;rintro e9 w9 ⟨v9,rfl,dC,aH⟩;obtain⟨A9,c9,B9,d9,D9,e9,rfl⟩:=dC.slices;have ed:=zh dC;have aW:=zh (zka hbq aH);have aG:=zkb dZ.out aH;have x0:w9.cell? ⟨W.heap.size+3,0,none⟩=some (.slice none 0 0):=zc aG rfl;have x1:w9.cell? ⟨W.heap.size+3,1,none⟩=some (.slice none 0 0):=zc aG rfl
  have x2:w9.cell? ⟨W.heap.size+3,2,none⟩=some (.slice none 0 0):=zc aG rfl;have x3:w9.cell? ⟨W.heap.size+3,3,none⟩=some (.int .i64 0):=zc aG rfl;have x4:w9.cell? ⟨W.heap.size+3,4,none⟩=some (.int .i64 0):=zc aG rfl;have xf:∀ o,w9.frozen? ⟨W.heap.size+3,o,none⟩=false:=fun _=>zf aG;have iq:=zh aG;have hbr:=bRes;have qd:W.heap.size+4<=w5.heap.size:=by have:=hbq.size;rw[jZ.out] at this;exact this
  clear s0 s1 s2 aG dC aH hbq aV;go_wp2_with fail;obtain⟨hh,hch⟩:=set5 (u0:=.slice A9 s.cells.length c9) (u1:=.slice B9 s.tin.length d9) (u2:=.slice D9 s.tout.length e9) (u3:=.int .i64 0) (u4:=.int .i64 3) iq.out;obtain⟨bz,fA⟩:∃ zz,(((((w9.setCell ⟨W.heap.size+3,0,none⟩ (.slice A9 s.cells.length c9)).setCell ⟨W.heap.size+3,1,none⟩ (.slice B9 s.tin.length d9)).setCell ⟨W.heap.size+3,2,none⟩ (.slice D9 s.tout.length e9)).setCell ⟨W.heap.size+3,3,none⟩ (.int .i64 0)).setCell ⟨W.heap.size+3,4,none⟩ (.int .i64 3))=zz:=⟨_,rfl⟩
  rw[fA] at hh hch ⊢;have t0:bz.cell? ⟨W.heap.size+3,0,none⟩=some (.slice A9 s.cells.length c9):=zc hh rfl;have t1:bz.cell? ⟨W.heap.size+3,1,none⟩=some (.slice B9 s.tin.length d9):=zc hh rfl;have t2:bz.cell? ⟨W.heap.size+3,2,none⟩=some (.slice D9 s.tout.length e9):=zc hh rfl;have t3:bz.cell? ⟨W.heap.size+3,3,none⟩=some (.int .i64 0):=zc hh rfl;have t4:bz.cell? ⟨W.heap.size+3,4,none⟩=some (.int .i64 3):=zc hh rfl;refine bodyPost_ret (v:=.tuple #[.slice none 0 0,.agg #[.slice A9 s.cells.length c9,.slice B9 s.tin.length d9,.slice D9 s.tout.length e9,.int .i64 0,.int .i64 3]]) (by simp[results,Tryz.results85,go_sem,t0,t1,t2,t3,t4]) rfl ?_;rw[HX.out]
  exact⟨none,0,_,_,_,rfl,(ed.out.chg hch fun b hb=>by omega).lower (by omega),fun i hi=>absurd hi (by simp),Nat.le_refl _,(zka ak.out aW.out).trans (hch.below (zka ak.out aW.out).size fun b hb=>by omega),mf.out,fun h=>by first|(simp at h;done)|exact absurd h wD.out⟩
 ·have q0:=zb b5 p0;have q1:=zb b5 p1;have q2:=zb b5 p2;have q3:=zb b5 p3;have q4:=zb b5 p4;have q5:=zb b5 p5;have tT:=zh (show Calls Tryz.prog 77 #[pv A1 p.vs.length c1 A2 p.prs.length c2 p.m.k p.m.n p.m.s A3 p.m.ks.length c3] w5 (fun e w'=>∃ A c,e=Ending.returned (.slice A (chkN p) c)/\Below w5.heap.size w5 w') from (bI.out w5 (zka ak.out b5)).mono (fun e w' ⟨A,c,h1,h2⟩=>⟨A,c,by rw[h1,if_pos rfl],h2⟩));clear p0 p1 p2 p3 p4 p5 bI HV;go_wp2_with fail;refine tT.out.mono ?_;rintro e6 w6 ⟨AA,cc,rfl,b6⟩;have lS:=zka b5 b6;clear q0 q1 q2 q3 q4 q5;by_cases hn:chkN p=0
  ·obtain⟨n,hnn⟩:∃ n,chkN p=n:=⟨_,rfl⟩
   rw[hnn];obtain rfl:n=0:=by omega
   have hng:¬ (0:Int)<((0:Nat):Int):=by omega
   have mQ:=zkb aP.out lS;have dI:=zkb aB.out lS;have p0:w6.cell? ⟨W.heap.size,0,none⟩=some (.slice A1 p.vs.length c1):=zc mQ rfl;have s0:w6.cell? ⟨W.heap.size+1,0,none⟩=some (.slice A s.cells.length c):=zc dI rfl;have s1:w6.cell? ⟨W.heap.size+1,1,none⟩=some (.slice B s.tin.length d):=zc dI rfl;have s2:w6.cell? ⟨W.heap.size+1,2,none⟩=some (.slice D s.tout.length e):=zc dI rfl;have jl:=zh hnn;clear mQ dI hn hnn;go_wp2_with fail;refine(ku.out w6 (zka ak.out lS)).mono ?_;rintro e7 w7 ⟨b7,⟨hfit,rfl⟩|⟨hfit,P,rfl,qh⟩⟩
   ·have HX:=zh (show Re=(s,0,20,[]) by rw[<-fO.out,resO,if_neg (by rw[eH.out,jl.out];simp),if_pos hfit]);have pq:=zka lS b7;clear p0 s0 s1 s2 hfit;have dI:=zkb aB.out pq;have lJ:=zkb fw.out pq;have s0:w7.cell? ⟨W.heap.size+1,0,none⟩=some (.slice A s.cells.length c):=zc dI rfl;have s1:w7.cell? ⟨W.heap.size+1,1,none⟩=some (.slice B s.tin.length d):=zc dI rfl;have s2:w7.cell? ⟨W.heap.size+1,2,none⟩=some (.slice D s.tout.length e):=zc dI rfl;have aV:=zh (dV.out w7 (zka ak.out pq));have dZ:=zh lJ;have hbq:=pq;clear dI lJ;go_wp2_with fail;refine aV.out.mono ?_;rintro e9 w9 ⟨v9,rfl,dC,aH⟩;obtain⟨A9,c9,B9,d9,D9,e9,rfl⟩:=dC.slices;have ed:=zh dC;have aW:=zh (zka hbq aH);have aG:=zkb dZ.out aH;have x0:w9.cell? ⟨W.heap.size+3,0,none⟩=some (.slice none 0 0):=zc aG rfl;have x1:w9.cell? ⟨W.heap.size+3,1,none⟩=some (.slice none 0 0):=zc aG rfl
    have x2:w9.cell? ⟨W.heap.size+3,2,none⟩=some (.slice none 0 0):=zc aG rfl;have x3:w9.cell? ⟨W.heap.size+3,3,none⟩=some (.int .i64 0):=zc aG rfl;have x4:w9.cell? ⟨W.heap.size+3,4,none⟩=some (.int .i64 0):=zc aG rfl;have xf:∀ o,w9.frozen? ⟨W.heap.size+3,o,none⟩=false:=fun _=>zf aG;have iq:=zh aG;have hbr:=bRes;have qd:W.heap.size+4<=w7.heap.size:=by have:=hbq.size;rw[jZ.out] at this;exact this
    clear s0 s1 s2 aG dC aH hbq aV;go_wp2_with fail;obtain⟨hh,hch⟩:=set5 (u0:=.slice A9 s.cells.length c9) (u1:=.slice B9 s.tin.length d9) (u2:=.slice D9 s.tout.length e9) (u3:=.int .i64 0) (u4:=.int .i64 20) iq.out;obtain⟨bz,fA⟩:∃ zz,(((((w9.setCell ⟨W.heap.size+3,0,none⟩ (.slice A9 s.cells.length c9)).setCell ⟨W.heap.size+3,1,none⟩ (.slice B9 s.tin.length d9)).setCell ⟨W.heap.size+3,2,none⟩ (.slice D9 s.tout.length e9)).setCell ⟨W.heap.size+3,3,none⟩ (.int .i64 0)).setCell ⟨W.heap.size+3,4,none⟩ (.int .i64 20))=zz:=⟨_,rfl⟩
    rw[fA] at hh hch ⊢;have t0:bz.cell? ⟨W.heap.size+3,0,none⟩=some (.slice A9 s.cells.length c9):=zc hh rfl;have t1:bz.cell? ⟨W.heap.size+3,1,none⟩=some (.slice B9 s.tin.length d9):=zc hh rfl;have t2:bz.cell? ⟨W.heap.size+3,2,none⟩=some (.slice D9 s.tout.length e9):=zc hh rfl;have t3:bz.cell? ⟨W.heap.size+3,3,none⟩=some (.int .i64 0):=zc hh rfl;have t4:bz.cell? ⟨W.heap.size+3,4,none⟩=some (.int .i64 20):=zc hh rfl;refine bodyPost_ret (v:=.tuple #[.slice none 0 0,.agg #[.slice A9 s.cells.length c9,.slice B9 s.tin.length d9,.slice D9 s.tout.length e9,.int .i64 0,.int .i64 20]]) (by simp[results,Tryz.results85,go_sem,t0,t1,t2,t3,t4]) rfl ?_;rw[HX.out]
    exact⟨none,0,_,_,_,rfl,(ed.out.chg hch fun b hb=>by omega).lower (by omega),fun i hi=>absurd hi (by simp),Nat.le_refl _,(zka ak.out aW.out).trans (hch.below (zka ak.out aW.out).size fun b hb=>by omega),mf.out,fun h=>by first|(simp at h;done)|exact absurd h wD.out⟩
   ·have pq:=zka lS b7;have oK:=zh hfit;have xS:=zh qh;clear p0 s0 s1 s2 hfit qh;have mQ:=zkb aP.out pq;have p0:w7.cell? ⟨W.heap.size,0,none⟩=some (.slice A1 p.vs.length c1):=zc mQ rfl;have p1:w7.cell? ⟨W.heap.size,1,none⟩=some (.slice A2 p.prs.length c2):=zc mQ rfl;have p2:w7.cell? ⟨W.heap.size,2,none⟩=some (.int .u8 p.m.k):=zc mQ rfl;have p3:w7.cell? ⟨W.heap.size,3,none⟩=some (.int .i64 p.m.n):=zc mQ rfl;have p4:w7.cell? ⟨W.heap.size,4,none⟩=some (.string p.m.s):=zc mQ rfl;have p5:w7.cell? ⟨W.heap.size,5,none⟩=some (.slice A3 p.m.ks.length c3):=zc mQ rfl;obtain⟨hvl,hpl,ui,-,hpm⟩:=zmc eH.out;have hmk:=zxE p.prs.length (by omega);obtain⟨np,qw⟩:∃ n,p.prs.length=n:=⟨_,rfl⟩
    rw[qw] at p1 hmk;have pM:=zh qw;obtain⟨HH,hHH⟩:∃ H:World->Prop,H=fun w':World=>w'.cell? ⟨W.heap.size,0,none⟩=some (.slice A1 p.vs.length c1)/\w'.cell? ⟨W.heap.size,1,none⟩=some (.slice A2 np c2)/\w'.cell? ⟨W.heap.size,2,none⟩=some (.int .u8 p.m.k)/\w'.cell? ⟨W.heap.size,3,none⟩=some (.int .i64 p.m.n)/\w'.cell? ⟨W.heap.size,4,none⟩=some (.string p.m.s)/\w'.cell? ⟨W.heap.size,5,none⟩=some (.slice A3 p.m.ks.length c3):=⟨_,rfl⟩
    have ay:=zh (show ∀ w',Below w7.heap.size w7 w'->HH w' by
     rw[hHH];exact fun w' hb=>⟨zb hb p0,zb hb p1,zb hb p2,zb hb p3,zb hb p4,zb hb p5⟩)
    rw[qw];go_upto_region 6 with fail;have hSS:HH w7.drew/\(fun _:World=>True) w7.drew:=⟨ay.out _ (Below.refl _ _).drew,trivial⟩
    refine wp_region_noPanic ?_;refine zkd HH (fun _:World=>True) 10 (by kernel_rfl) ?_;subst hHH;refine zT 0 hSS ?_;(try simp only[zQ]);refine zT 1 hSS ?_;(try simp only[zQ]);refine zT 2 hSS ?_;(try simp only[zQ]);refine zT 3 hSS ?_;(try simp only[zQ]);refine zT 4 hSS ?_;(try simp only[zQ]);refine zT 5 hSS ?_;(try simp only[zQ]);clear p0 p1 p2 p3 p4 p5 mQ qw;refine zql (fun A f l a wr=>∃ (l6 l7 l8 l9:Bool) (v43 v44 v45 v12:Value) (eb rb pb:Nat),f=(!l6).toNat+(!l7).toNat+(!l8).toNat+(!l9).toNat+1/\l = #[true,true,true,true,true,true,l6,l7,l8,l9,false] /\
     a=(((A.put (some 43) v43).put (some 44) v44).put (some 45) v45).put (some 12) v12/\Hid (Below w7.heap.size w7 wr) /\
     Hid ((l7=true->l6=true)/\(l8=true->l7=true)/\(l6=true->v43=.slice (some ⟨eb,0,none⟩) np np/\wr.heap[eb]?=some (.cells (zki (List.replicate np 0)).toArray 3 (0,0))/\w7.heap.size<=eb) /\
      (l7=true->v44=.agg #[.slice A1 p.vs.length c1,.slice A2 np c2,.int .u8 p.m.k,.int .i64 p.m.n,.string p.m.s,.slice A3 p.m.ks.length c3,.pointer (some ⟨P.sb,0,none⟩),.int .i64 0,.int .i64 F,.slice (some ⟨eb,0,none⟩) np np]) /\
      (l8=true->v45=.pointer (some ⟨rb,0,none⟩)/\wr.heap[rb]?=some (.cells #[.slice A1 p.vs.length c1,.slice A2 np c2,.int .u8 p.m.k,.int .i64 p.m.n,.string p.m.s,.slice A3 p.m.ks.length c3,.pointer (some ⟨P.sb,0,none⟩),.int .i64 0,.int .i64 F,.slice (some ⟨eb,0,none⟩) np np] 180 (0,0))/\w7.heap.size<=rb) /\
      (l9=true->v12=.pointer (some ⟨pb,0,none⟩)/\wr.heap[pb]?=some (.cells #[.pointer none] 178 (0,0))/\w7.heap.size<=pb)) /\
     Hid ((l6=false->v43=undef)/\(l7=false->v44=undef)/\(l8=false->v45=undef)/\(l9=false->v12=undef))) (fun A f l a wr h=>?_) ?_ ⟨false,false,false,false,undef,undef,undef,undef,0,0,0,rfl,rfl,(by simp only[Act.put,zD,zE,zF]),zh (Below.refl _ _).drew,zh ⟨fun h=>(by cases h),fun h=>(by cases h),fun h=>(by cases h),fun h=>(by cases h),fun h=>(by cases h),fun h=>(by cases h)⟩,zh ⟨fun _=>rfl,fun _=>rfl,fun _=>rfl,fun _=>rfl⟩⟩
    ·obtain⟨_,_,_,_,_,_,_,_,_,_,_,_,_,_,hb,_⟩:=h;exact⟨ay.out _ hb.out,trivial⟩
    rintro A' hA f l a wr ⟨l6,l7,l8,l9,v43,v44,v45,v12,eb,rb,pb,hf,rfl,ha,af,HC,HU⟩;by_cases hall:(l6&&l7&&l8&&l9)=true
    ·left
     simp only[Bool.and_eq_true] at hall;obtain⟨⟨⟨rfl,rfl⟩,rfl⟩,rfl⟩:=hall;obtain⟨-,-,h6,h7,h8,h9⟩:=HC.out;obtain⟨rfl,he,hel⟩:=h6 rfl;obtain rfl:=h7 rfl;obtain⟨rfl,hr,hrl⟩:=h8 rfl;obtain⟨rfl,hq,lg⟩:=h9 rfl;subst hf ha hA;have hner:eb≠rb:=zsQ he hr (by decide);have hneq:eb≠pb:=zsQ he hq (by decide);have hnrq:rb≠pb:=zsQ hr hq (by decide);have c0:wr.cell? ⟨pb,0,none⟩=some (.pointer none):=zc hq rfl;have cf:∀ j,wr.frozen? ⟨pb,j,none⟩=false:=fun j=>zf hq;refine zp 10 fun K hK=>?_;(try simp only[zQ]);go_simp;have hch:Chg (fun b=>b=pb) wr (wr.setCell ⟨pb,0,none⟩ (.pointer (some ⟨rb,0,none⟩))):=(Chg.refl (fun b=>b=pb) wr).setCell (p:=⟨pb,0,none⟩) (.inl rfl) _;have hh:(wr.setCell ⟨pb,0,none⟩ (.pointer (some ⟨rb,0,none⟩))).heap[pb]?=some (.cells #[.pointer (some ⟨rb,0,none⟩)] 178 (0,0)):=by
      rw[heap_setCell_same wr pb 0 _ _ (.pointer (some ⟨rb,0,none⟩)) hq];rfl
     have bA:=zh (show Below w7.heap.size w7 (wr.setCell ⟨pb,0,none⟩ (.pointer (some ⟨rb,0,none⟩))) from af.out.trans (hch.below af.out.size fun b e=>by omega));have yz:=zh (hch.keep he hneq);have mX:=zh (hch.keep hr hnrq);have tH:=zh hh;obtain⟨w8,hw8⟩:∃ x,wr.setCell ⟨pb,0,none⟩ (.pointer (some ⟨rb,0,none⟩))=x:=⟨_,rfl⟩
     rw[hw8] at bA yz mX tH ⊢;refine hK.out _ _ (ay.out _ bA.out) ?_;clear hK K hSS hch hh hw8 c0 cf he hr hq h6 h7 h8 h9 HC HU af hmk ay;refine zd ?_;refine NoPanic.normal ?_;(try simp only[zQ]);have hlt_e:=zkj yz.out;have hlt_r:=zkj mX.out;have hlt_q:=zkj tH.out;obtain⟨C,hC⟩:∃ C:RC,C=⟨W,w6.heap.size,P.sb,rb,p,A1,c1,A2,c2,A3,c3,F,.slice (some ⟨eb,0,none⟩) np np,fun b=>b=pb⟩:=⟨_,rfl⟩
     have hs67:=b7.size;have hs46:=lS.size;have iT:=jZ.out;have hbWw6:=zka ak.out lS;have HCO:=zh (show C.Ok by
      rw[hC];exact⟨HPG.out,hF,lK,⟨by simp only;omega,by simp only;exact hnrq⟩,⟨by simp[Value.ownBlock];exact hner,fun b hb hk=>by simp only[Value.ownBlock,Option.some.injEq] at hb;simp only at hk;omega⟩,fun q hq=>by have:=(ui q hq).1;omega⟩)
     have bV:=zh (show RI C w8 ⟨newS p.vs s,0,List.replicate np 0⟩ by
      rw[hC];have hks:=(KS.new hbWw6 b7 xS.out).also bA.out (kb':=fun b=>b=pb\/b=rb\/(Value.slice (some ⟨eb,0,none⟩) np np).ownBlock=some b) (fun b hb=>.inr (by
       rcases hb with rfl|rfl|hb
       ·exact⟨lg,hlt_q⟩
       ·exact⟨hrl,hlt_r⟩
       ·simp[Value.ownBlock] at hb;subst hb;exact⟨hel,hlt_e⟩))
      refine⟨hks,by rw[<-pM.out] at mX;simpa[RC.cells,pM.out] using mX.out,?_,by simp[pM.out],fun c hc=>by simp at hc;omega,by simp,?_⟩
      ·refine⟨by simp[zki],.inr ⟨eb,np,_,by simp,Nat.le_trans hs67 hel,yz.out,by simp,by unfold maxLen;have:=pM.out;omega,by simp[zki],by simp[zki]⟩⟩
      ·exact⟨by simp only[newS];omega,fun f hf=>by simp[newS] at hf⟩)
     obtain⟨GX,hGX,hGM⟩:=HFAM.out;have HGP:=zh (hGM eH.out jl.out);clear hGM;obtain⟨o,ho⟩:∃ o,runO p.prs F g back p.m ⟨newS p.vs s,0,List.replicate np 0⟩=o:=⟨_,rfl⟩
     have hog:o ≠ .gas:=ho▸(ztH eH.out hg back (newS p.vs s) (List.replicate np 0)).1;have hon:Nz o:=ho▸HGP.out.2 _ _ _ _;have HRR:=zh (show Re=outR s o by rw[<-fO.out,resO,if_neg (by rw[eH.out,jl.out];simp),if_neg (by rw[oK.out];simp),<-ho,<-pM.out]);have jH:=zka pq bA.out;obtain⟨jb,hjb⟩:∃ x,w8.heap.size=x:=⟨_,rfl⟩
     obtain⟨w9,aQ⟩:∃ x,w8.alloc (.cells #[.slice none 0 0,.bool false] 185)=x:=⟨_,rfl⟩
     have HAT:=zh (zqb hGX HCO.out bV.out aQ hjb (by rw[hC];exact HGP.out.1) g back o (by rw[hC];exact ho) hog pb W.heap.size (W.heap.size+1+1) (by rw[hC];exact zc tH.out rfl) (by rw[hC];simp only;rw[pM.out];have:=zkb aP.out jH;rw[pM.out] at this;exact this) (zc (zkb aK.out jH) rfl));have kJ:w9.heap.size=jb+1:=by rw[<-aQ];simp[hjb]
     have HK89:=zh (show Kpt C.n0 C.kb w8 w9 from Kpt.of_below (aQ▸zkc (Below.refl w8.heap.size w8) _));have vT:∀ (fn:Fn) (first cap:Array Value) (w:World),(Instr.makeFunc fn first cap).run Tryz.prog w=.ok (.func fn first cap) w:=fun _ _ _ _=>rfl;have HN0C:=zh (show C.n0=w6.heap.size/\C.w=W/\C.rb=rb/\C.ev=.slice (some ⟨eb,0,none⟩) np np/\(C.kb=fun b=>b=pb)/\C.sb=P.sb/\C.p=p by rw[hC];exact⟨rfl,rfl,rfl,rfl,rfl,rfl,rfl⟩);have HHB48:=zh jH;have jG:=ak.out;have hb4s:W.heap.size<=w6.heap.size:=hbWw6.size;clear hC jH ho hlt_e hlt_r;go_wp2_with fail;refine HAT.out.mono ?_;rintro e10 aT hat;clear HAT aQ vT;rcases hat with⟨rfl,bz,⟨r,rfl,hok,aS,hkp⟩,hch⟩|⟨x,rfl,bz,⟨rfl,hkp,hbl⟩,hch⟩
     ·obtain⟨hn0,hcw,nL,lD,jT,nK,hcp⟩:=HN0C.out;have hri1:=RI.chgK (C:=C.plus jb w9.heap.size) hok aS hch (by show C.w.heap.size<=_;rw[hcw];have:=bA.out.size;omega);have iX:RI C aT r:=hri1.less.less;have hkk:Kpt C.n0 C.kb w8 aT:=HK89.out.trans ((Kpt.less (C:=C) hkp).trans (Kpt.chg hch fun b hb=>⟨by rw[hn0];omega,by rw[jT];intro e;subst e;omega⟩));have dn:=zpB jG (by have:=iX.below;rw[hcw] at this;exact this) HHB48.out hkk (by rw[hn0];exact hs46);have fM:=zh iX;have HX:=zh (show Re=(r.S.state,r.n,0,r.ent) from HRR.out);obtain⟨-,x7,-,x9,-⟩:=iX.cells;rw[nL] at x7 x9;rw[lD] at x9;have xp:aT.cell? ⟨pb,0,none⟩=some (.pointer (some ⟨rb,0,none⟩)):=zc (hkk.blk (.inr (by rw[jT])) tH.out) rfl;have HKR:=zh (zkb fw.out dn);have mG:=zh dn;have hls:=iX.ks;have HST:=zh (fun w' (hb:Below aT.heap.size aT w')=>(hls.later hb).state)
      rw[nK] at HST;have xZ:=zh (show r.ent.length=np by rw[iX.el,hcp,pM.out]);have mo:=zh iX.ent;rw[hn0,lD] at mo;have hne0:(0:Int)=0:=rfl;have ay:=zh (show ∀ w',Below aT.heap.size aT w'->(fun w':World=>w'.cell? ⟨pb,0,none⟩=some (.pointer (some ⟨rb,0,none⟩))/\w'.cell? ⟨rb,7,none⟩=some (.int .i64 r.n)/\w'.cell? ⟨rb,9,none⟩=some (.slice (some ⟨eb,0,none⟩) np np)) w' from fun w' hb=>⟨zb hb xp,zb hb x7,zb hb x9⟩);clear aS hri1 iX hkk hkp hls hn0 hcw nL lD jT nK hch x7 x9 xp dn hok;go_upto_region 10 with fail;have hSS:(fun w':World=>w'.cell? ⟨pb,0,none⟩=some (.pointer (some ⟨rb,0,none⟩))/\w'.cell? ⟨rb,7,none⟩=some (.int .i64 r.n)/\w'.cell? ⟨rb,9,none⟩=some (.slice (some ⟨eb,0,none⟩) np np)) aT.drew/\(fun _:World=>True) aT.drew:=⟨ay.out _ (Below.refl _ _).drew,trivial⟩
      refine wp_region_noPanic ?_;refine zkd (fun w':World=>w'.cell? ⟨pb,0,none⟩=some (.pointer (some ⟨rb,0,none⟩))/\w'.cell? ⟨rb,7,none⟩=some (.int .i64 r.n)/\w'.cell? ⟨rb,9,none⟩=some (.slice (some ⟨eb,0,none⟩) np np)) (fun _:World=>True) 12 (by kernel_rfl) ?_;refine zT 0 hSS ?_;(try simp only[zQ]);refine zT 1 hSS ?_;(try simp only[zQ]);refine zT 2 hSS ?_;(try simp only[zQ]);refine zT 3 hSS ?_;(try simp only[zQ]);refine zT 4 hSS ?_;(try simp only[zQ]);refine zT 6 hSS ?_;(try simp only[zQ]);refine zT 7 hSS ?_;(try simp only[zQ]);refine zT 8 hSS ?_;(try simp only[zQ]);refine zT 9 hSS ?_;(try simp only[zQ]);have had:Calls Tryz.prog 28 [.pointer (some ⟨P.sb,0,none⟩)].toArray aT.drew fun e W'=>∃ v,e=.returned v/\(OwnS W' aT.heap.size r.S.state v/\Below aT.heap.size aT W') :=
       (HST.out _ (Below.refl _ _).drew).mono fun e w' ⟨v,h1,h2,h3⟩=>⟨v,h1,h2,zka (Below.refl aT.heap.size aT).drew h3⟩
      refine zo 5 fun K hK=>?_;refine zke (by rfl) (.func 28) [.tmp 59] _ (by rfl) 28 _ zud (by rfl) _ (by rfl) _ had ?_;rintro v12 iN ⟨qp,nQ⟩;obtain⟨A9,c9,B9,d9,D9,e9,rfl⟩:=qp.slices;have HO12:=zh qp;have gy:=zh nQ;refine hK.out _ _ ⟨ay.out _ nQ,trivial⟩ ?_;have aN:(fun w':World=>w'.cell? ⟨pb,0,none⟩=some (.pointer (some ⟨rb,0,none⟩))/\w'.cell? ⟨rb,7,none⟩=some (.int .i64 r.n)/\w'.cell? ⟨rb,9,none⟩=some (.slice (some ⟨eb,0,none⟩) np np)) iN/\(fun _:World=>True) iN:=⟨ay.out _ nQ,trivial⟩
      clear hK K hSS had qp nQ;(try simp only[zQ]);have hbr:=zxC;refine zT 10 aN ?_;(try simp only[zQ]);refine zo 11 fun K hK=>?_;(try simp only[zA,zB,zC]);go_simp;refine hK.out _ _ ⟨ay.out _ gy.out,trivial⟩ ?_;clear hK K;(try simp only[zQ]);have aG:=zkb HKR.out gy.out;have x0:iN.cell? ⟨W.heap.size+3,0,none⟩=some (.slice none 0 0):=zc aG rfl;have x1:iN.cell? ⟨W.heap.size+3,1,none⟩=some (.slice none 0 0):=zc aG rfl;have x2:iN.cell? ⟨W.heap.size+3,2,none⟩=some (.slice none 0 0):=zc aG rfl;have x3:iN.cell? ⟨W.heap.size+3,3,none⟩=some (.int .i64 0):=zc aG rfl;have x4:iN.cell? ⟨W.heap.size+3,4,none⟩=some (.int .i64 0):=zc aG rfl;have xf:∀ o,iN.frozen? ⟨W.heap.size+3,o,none⟩=false:=fun _=>zf aG;refine zp 12 fun K hK=>?_;(try simp only[zQ]);go_simp
      obtain⟨hh,hch⟩:=set5 (u0:=.slice A9 r.S.state.cells.length c9) (u1:=.slice B9 r.S.state.tin.length d9) (u2:=.slice D9 r.S.state.tout.length e9) (u3:=.int .i64 r.n) (u4:=.int .i64 0) aG;obtain⟨tX,hw13⟩:∃ zz,(((((iN.setCell ⟨W.heap.size+3,0,none⟩ (.slice A9 r.S.state.cells.length c9)).setCell ⟨W.heap.size+3,1,none⟩ (.slice B9 r.S.state.tin.length d9)).setCell ⟨W.heap.size+3,2,none⟩ (.slice D9 r.S.state.tout.length e9)).setCell ⟨W.heap.size+3,3,none⟩ (.int .i64 r.n)).setCell ⟨W.heap.size+3,4,none⟩ (.int .i64 0))=zz:=⟨_,rfl⟩
      rw[hw13] at hh hch ⊢;have bJ:=zh hch;have t0:tX.cell? ⟨W.heap.size+3,0,none⟩=some (.slice A9 r.S.state.cells.length c9):=zc hh rfl;have t1:tX.cell? ⟨W.heap.size+3,1,none⟩=some (.slice B9 r.S.state.tin.length d9):=zc hh rfl;have t2:tX.cell? ⟨W.heap.size+3,2,none⟩=some (.slice D9 r.S.state.tout.length e9):=zc hh rfl;have t3:tX.cell? ⟨W.heap.size+3,3,none⟩=some (.int .i64 r.n):=zc hh rfl;have t4:tX.cell? ⟨W.heap.size+3,4,none⟩=some (.int .i64 0):=zc hh rfl;have hszs:W.heap.size+4<=aT.heap.size:=by have:=mG.out.size;omega
      have hplt:W.heap.size+3<w7.heap.size:=by have:=pq.size;omega
      refine hK.out _ _ ?_ ?_
      ·obtain⟨q1,q2,q3⟩:=ay.out _ gy.out;exact⟨zkU hch q1 (by simp only;omega),zkU hch q2 (by simp only;omega),zkU hch q3 (by simp only;omega)⟩
      clear hK K hch hh hw13 x0 x1 x2 x3 x4 xf aG aN ay;(try simp only[zQ]);refine zd ?_;refine NoPanic.normal ?_;go_wp2_with fail;have hrow:=zkI mo.out gy.out;have hrow2:=znH hrow (fun b hb=>bJ.out.block b (hrow.lt b hb).2 (by have:=(hrow.lt b hb).1;omega));have hI:∀ z∈r.ent.map Int.ofNat,I64 z:=fun z hz=>by
       obtain⟨q,hq,rfl⟩:=List.mem_map.1 hz;have h1:=fM.out.en q hq;have h2:=fM.out.n;exact⟨by simp only[Int.ofNat_eq_natCast];omega,by simp only[Int.ofNat_eq_natCast];omega⟩
      obtain⟨Ae,ce,he1,he2,he3⟩:=zqt (l:=r.ent.map Int.ofNat) (by simpa using hrow2) hI;injection he1 with he1 _ he4;subst he1 he4;refine bodyPost_ret (v:=.tuple #[.slice (some ⟨eb,0,none⟩) np np,.agg #[.slice A9 r.S.state.cells.length c9,.slice B9 r.S.state.tin.length d9,.slice D9 r.S.state.tout.length e9,.int .i64 r.n,.int .i64 0]]) (by simp[results,Tryz.results85,go_sem,t0,t1,t2,t3,t4]) rfl ?_;rw[HX.out];refine⟨_,_,_,_,_,by rw[xZ.out],(HO12.out.chg bJ.out fun b hb=>by omega).lower (by omega),he3.keep (fun b hb _=>by have:=hb4s;omega) (fun _ _ _=>rfl),by simpa using he2,?_⟩;exact⟨(zka jG (zka mG.out gy.out)).trans (bJ.out.below (zka jG (zka mG.out gy.out)).size fun b hb=>by omega),LimR.run fM.out.ks.wf fM.out.fb _⟩
     ·have hx:x≠0:=fun e=>hon (by rw[e]);obtain⟨hn0,hcw,nL,lD,jT,nK,-⟩:=HN0C.out;have hkk:Kpt C.n0 C.kb w8 aT:=HK89.out.trans ((Kpt.less (C:=C) hkp).trans (Kpt.chg hch fun b hb=>⟨by rw[hn0];omega,by rw[jT];intro e;subst e;omega⟩));have nM:Below C.w.heap.size C.w bz:=hbl;rw[hcw] at nM;have hs8:=bA.out.size;have nN:Below W.heap.size W aT:=nM.trans (hch.below nM.size fun b hb=>by omega);have dn:=zpB jG nN HHB48.out hkk (by rw[hn0];exact hs46);have HX:=zh (show Re=(s,0,x,[]) from HRR.out);have e1:(x != 0)=true:=by simpa using hx
      have wD:=zh hx;clear hn0 hcw nL lD jT nK hkk nN hkp hbl nM hch hon;have dI:=zkb aB.out dn;have lJ:=zkb fw.out dn;have s0:aT.cell? ⟨W.heap.size+1,0,none⟩=some (.slice A s.cells.length c):=zc dI rfl;have s1:aT.cell? ⟨W.heap.size+1,1,none⟩=some (.slice B s.tin.length d):=zc dI rfl;have s2:aT.cell? ⟨W.heap.size+1,2,none⟩=some (.slice D s.tout.length e):=zc dI rfl;have aV:=zh (dV.out aT (zka ak.out dn));have dZ:=zh lJ;have hbq:=dn;clear dI lJ;go_wp2_with fail;refine aV.out.mono ?_;rintro e9 w9 ⟨v9,rfl,dC,aH⟩;obtain⟨A9,c9,B9,d9,D9,e9,rfl⟩:=dC.slices;have ed:=zh dC;have aW:=zh (zka hbq aH);have aG:=zkb dZ.out aH;have x0:w9.cell? ⟨W.heap.size+3,0,none⟩=some (.slice none 0 0):=zc aG rfl;have x1:w9.cell? ⟨W.heap.size+3,1,none⟩=some (.slice none 0 0):=zc aG rfl
      have x2:w9.cell? ⟨W.heap.size+3,2,none⟩=some (.slice none 0 0):=zc aG rfl;have x3:w9.cell? ⟨W.heap.size+3,3,none⟩=some (.int .i64 0):=zc aG rfl;have x4:w9.cell? ⟨W.heap.size+3,4,none⟩=some (.int .i64 0):=zc aG rfl;have xf:∀ o,w9.frozen? ⟨W.heap.size+3,o,none⟩=false:=fun _=>zf aG;have iq:=zh aG;have hbr:=bRes;have qd:W.heap.size+4<=aT.heap.size:=by have:=hbq.size;rw[jZ.out] at this;exact this
      clear s0 s1 s2 aG dC aH hbq aV;go_wp2_with fail;obtain⟨hh,hch⟩:=set5 (u0:=.slice A9 s.cells.length c9) (u1:=.slice B9 s.tin.length d9) (u2:=.slice D9 s.tout.length e9) (u3:=.int .i64 0) (u4:=.int .i64 x) iq.out;obtain⟨bz,fA⟩:∃ zz,(((((w9.setCell ⟨W.heap.size+3,0,none⟩ (.slice A9 s.cells.length c9)).setCell ⟨W.heap.size+3,1,none⟩ (.slice B9 s.tin.length d9)).setCell ⟨W.heap.size+3,2,none⟩ (.slice D9 s.tout.length e9)).setCell ⟨W.heap.size+3,3,none⟩ (.int .i64 0)).setCell ⟨W.heap.size+3,4,none⟩ (.int .i64 x))=zz:=⟨_,rfl⟩
      rw[fA] at hh hch ⊢;have t0:bz.cell? ⟨W.heap.size+3,0,none⟩=some (.slice A9 s.cells.length c9):=zc hh rfl;have t1:bz.cell? ⟨W.heap.size+3,1,none⟩=some (.slice B9 s.tin.length d9):=zc hh rfl;have t2:bz.cell? ⟨W.heap.size+3,2,none⟩=some (.slice D9 s.tout.length e9):=zc hh rfl;have t3:bz.cell? ⟨W.heap.size+3,3,none⟩=some (.int .i64 0):=zc hh rfl;have t4:bz.cell? ⟨W.heap.size+3,4,none⟩=some (.int .i64 x):=zc hh rfl;refine bodyPost_ret (v:=.tuple #[.slice none 0 0,.agg #[.slice A9 s.cells.length c9,.slice B9 s.tin.length d9,.slice D9 s.tout.length e9,.int .i64 0,.int .i64 x]]) (by simp[results,Tryz.results85,go_sem,t0,t1,t2,t3,t4]) rfl ?_;rw[HX.out]
      exact⟨none,0,_,_,_,rfl,(ed.out.chg hch fun b hb=>by omega).lower (by omega),fun i hi=>absurd hi (by simp),Nat.le_refl _,(zka ak.out aW.out).trans (hch.below (zka ak.out aW.out).size fun b hb=>by omega),mf.out,fun h=>by first|(simp at h;done)|exact absurd h wD.out⟩
    ·right
     have bC:=HC.out;have iH:=HU.out;have hcc:(l7=true->l6=true)/\(l8=true->l7=true):=⟨bC.1,bC.2.1⟩
     refine⟨f-1,?_,?_,?_⟩
     ·clear HC bC HU iH ha af hcc;subst hf;revert hall;revert l6 l7 l8 l9
      decide
     ·clear HC bC HU iH ha af hf;revert hall hcc;revert l6 l7 l8 l9
      decide +kernel
     intro i hi;have hcase:(i=6/\l6=false/\l7=false/\l8=false)\/(i=7/\l7=false/\l6=true/\l8=false)\/(i=8/\l8=false/\l6=true/\l7=true)\/(i=9/\l9=false):=by
      refine of_decide_eq_true ((List.all_eq_true (p:=fun i=>decide ((i=6/\l6=false/\l7=false/\l8=false)\/(i=7/\l7=false/\l6=true/\l8=false)\/(i=8/\l8=false/\l6=true/\l7=true)\/(i=9/\l9=false)))).1 ?_ i hi);clear HC bC HU iH ha af hf hi;revert hall hcc;revert l6 l7 l8 l9
      decide +kernel
     clear hi hall;subst ha hA;rcases hcase with⟨rfl,rfl,rfl,rfl⟩|⟨rfl,rfl,rfl,rfl⟩|⟨rfl,rfl,rfl,rfl⟩|⟨rfl,rfl⟩
     ·refine wpOp_step rfl (fun K' au=>?_);have hK:=zh au;clear au;have hU1:=iH.1 rfl;have xz:=iH.2.1 rfl;have uB:=iH.2.2.1 rfl;subst hU1 xz uB;(try simp only[zQ]);go_simp;have hsz:=af.out.size;exact hK.out _ _ ⟨true,false,false,l9,_,undef,undef,v12,wr.heap.size,0,pb,(by subst hf;simp<;>omega),rfl,(by simp only[zQ]),zh (zkc af.out _),zh ⟨fun h=>(by cases h),fun h=>(by cases h),fun _=>⟨rfl,heap_alloc_new wr _,hsz⟩,fun h=>(by cases h),fun h=>(by cases h),fun h=>⟨(bC.2.2.2.2.2 h).1,zkf (bC.2.2.2.2.2 h).2.1 _,(bC.2.2.2.2.2 h).2.2⟩⟩,zh ⟨fun h=>(by cases h),fun _=>rfl,fun _=>rfl,iH.2.2.2⟩⟩
     ·refine wpOp_step rfl (fun K' au=>?_);have hK:=zh au;clear au;have xz:=iH.2.1 rfl;have uB:=iH.2.2.1 rfl;obtain⟨hv6,he,hel⟩:=bC.2.2.1 rfl;subst xz uB hv6;have hbn:=bRun;(try simp only[zQ]);go_simp;exact hK.out _ _ ⟨true,true,false,l9,_,_,undef,v12,eb,0,pb,(by subst hf;simp<;>omega),rfl,(by simp only[zQ]),af,zh ⟨fun _=>rfl,fun h=>(by cases h),fun _=>⟨rfl,he,hel⟩,fun _=>rfl,fun h=>(by cases h),bC.2.2.2.2.2⟩,zh ⟨fun h=>(by cases h),fun h=>(by cases h),fun _=>rfl,iH.2.2.2⟩⟩
     ·refine wpOp_step rfl (fun K' au=>?_);have hK:=zh au;clear au;have uB:=iH.2.2.1 rfl;obtain⟨hv6,he,hel⟩:=bC.2.2.1 rfl;have hv7:=bC.2.2.2.1 rfl;subst uB hv6 hv7;(try simp only[zQ]);go_simp;have hsz:=af.out.size;exact hK.out _ _ ⟨true,true,true,l9,_,_,_,v12,eb,wr.heap.size,pb,(by subst hf;simp<;>omega),rfl,(by simp only[zQ]),zh (zkc af.out _),zh ⟨fun _=>rfl,fun _=>rfl,fun _=>⟨rfl,zkf he _,hel⟩,fun _=>rfl,fun _=>⟨rfl,heap_alloc_new wr _,hsz⟩,fun h=>⟨(bC.2.2.2.2.2 h).1,zkf (bC.2.2.2.2.2 h).2.1 _,(bC.2.2.2.2.2 h).2.2⟩⟩,zh ⟨fun h=>(by cases h),fun h=>(by cases h),fun h=>(by cases h),iH.2.2.2⟩⟩
     ·refine wpOp_step rfl (fun K' au=>?_);have hK:=zh au;clear au;have fK:=iH.2.2.2 rfl;subst fK;(try simp only[zQ]);go_simp;have hsz:=af.out.size;exact hK.out _ _ ⟨l6,l7,l8,true,v43,v44,v45,_,eb,rb,wr.heap.size,(by subst hf;simp<;>omega),rfl,(by simp only[zQ]),zh (zkc af.out _),zh ⟨bC.1,bC.2.1,fun h=>⟨(bC.2.2.1 h).1,zkf (bC.2.2.1 h).2.1 _,(bC.2.2.1 h).2.2⟩,bC.2.2.2.1,fun h=>⟨(bC.2.2.2.2.1 h).1,zkf (bC.2.2.2.2.1 h).2.1 _,(bC.2.2.2.2.1 h).2.2⟩,fun _=>⟨rfl,heap_alloc_new wr _,hsz⟩⟩,zh ⟨iH.1,iH.2.1,iH.2.2.1,fun h=>(by cases h)⟩⟩
  ·have HX:=zh (show Re=(s,0,3,[]) by rw[<-fO.out,resO,if_pos (.inr hn)]);obtain⟨n,hnn⟩:∃ n,chkN p=n:=⟨_,rfl⟩
   rw[hnn];have hng:(0:Int)<(n:Int):=by omega
   clear hn hnn;have dI:=zkb aB.out lS;have lJ:=zkb fw.out lS;have s0:w6.cell? ⟨W.heap.size+1,0,none⟩=some (.slice A s.cells.length c):=zc dI rfl;have s1:w6.cell? ⟨W.heap.size+1,1,none⟩=some (.slice B s.tin.length d):=zc dI rfl;have s2:w6.cell? ⟨W.heap.size+1,2,none⟩=some (.slice D s.tout.length e):=zc dI rfl;have aV:=zh (dV.out w6 (zka ak.out lS));have dZ:=zh lJ;have hbq:=lS;clear dI lJ;go_wp2_with fail;refine aV.out.mono ?_;rintro e9 w9 ⟨v9,rfl,dC,aH⟩;obtain⟨A9,c9,B9,d9,D9,e9,rfl⟩:=dC.slices;have ed:=zh dC;have aW:=zh (zka hbq aH);have aG:=zkb dZ.out aH;have x0:w9.cell? ⟨W.heap.size+3,0,none⟩=some (.slice none 0 0):=zc aG rfl;have x1:w9.cell? ⟨W.heap.size+3,1,none⟩=some (.slice none 0 0):=zc aG rfl;have x2:w9.cell? ⟨W.heap.size+3,2,none⟩=some (.slice none 0 0):=zc aG rfl;have x3:w9.cell? ⟨W.heap.size+3,3,none⟩=some (.int .i64 0):=zc aG rfl
   have x4:w9.cell? ⟨W.heap.size+3,4,none⟩=some (.int .i64 0):=zc aG rfl;have xf:∀ o,w9.frozen? ⟨W.heap.size+3,o,none⟩=false:=fun _=>zf aG;have iq:=zh aG;have hbr:=bRes;have qd:W.heap.size+4<=w6.heap.size:=by have:=hbq.size;rw[jZ.out] at this;exact this
   clear s0 s1 s2 aG dC aH hbq aV;go_wp2_with fail;obtain⟨hh,hch⟩:=set5 (u0:=.slice A9 s.cells.length c9) (u1:=.slice B9 s.tin.length d9) (u2:=.slice D9 s.tout.length e9) (u3:=.int .i64 0) (u4:=.int .i64 3) iq.out;obtain⟨bz,fA⟩:∃ zz,(((((w9.setCell ⟨W.heap.size+3,0,none⟩ (.slice A9 s.cells.length c9)).setCell ⟨W.heap.size+3,1,none⟩ (.slice B9 s.tin.length d9)).setCell ⟨W.heap.size+3,2,none⟩ (.slice D9 s.tout.length e9)).setCell ⟨W.heap.size+3,3,none⟩ (.int .i64 0)).setCell ⟨W.heap.size+3,4,none⟩ (.int .i64 3))=zz:=⟨_,rfl⟩
   rw[fA] at hh hch ⊢;have t0:bz.cell? ⟨W.heap.size+3,0,none⟩=some (.slice A9 s.cells.length c9):=zc hh rfl;have t1:bz.cell? ⟨W.heap.size+3,1,none⟩=some (.slice B9 s.tin.length d9):=zc hh rfl;have t2:bz.cell? ⟨W.heap.size+3,2,none⟩=some (.slice D9 s.tout.length e9):=zc hh rfl;have t3:bz.cell? ⟨W.heap.size+3,3,none⟩=some (.int .i64 0):=zc hh rfl;have t4:bz.cell? ⟨W.heap.size+3,4,none⟩=some (.int .i64 3):=zc hh rfl;refine bodyPost_ret (v:=.tuple #[.slice none 0 0,.agg #[.slice A9 s.cells.length c9,.slice B9 s.tin.length d9,.slice D9 s.tout.length e9,.int .i64 0,.int .i64 3]]) (by simp[results,Tryz.results85,go_sem,t0,t1,t2,t3,t4]) rfl ?_;rw[HX.out]
   exact⟨none,0,_,_,_,rfl,(ed.out.chg hch fun b hb=>by omega).lower (by omega),fun i hi=>absurd hi (by simp),Nat.le_refl _,(zka ak.out aW.out).trans (hch.below (zka ak.out aW.out).size fun b hb=>by omega),mf.out,fun h=>by first|(simp at h;done)|exact absurd h wD.out⟩
def FwP (W:World) (R:SS×Nat×Int×List Nat) (e:Ending) (W':World):Prop:=∃ v1 v2 v3,e=.returned (.agg #[v1,v2,v3,.int .i64 (R.2.1:Int),.int .i64 R.2.2.1]) /\
 OwnS W' W.heap.size R.1 (.agg #[v1,v2,v3])/\Below W.heap.size W W'/\LimR R
theorem zqi (p:PG) (s:SS) (F:Int) (g:Nat) (v sv:Value) (W:World) (hp:PV W Any p v) (hs:SV W Any s sv) (hcl:s.cells.length<=5864062014800) (hF:I64 F) (lK:F<=1000000) (hg:F.toNat*2000+2000<=g) (hfam:Fam p) :
  Calls Tryz.prog 44 #[v,sv,.int .i64 F] W (FwP W (resO p s F g false)):=by
 have HPX:=zh hp;have HSX:=zh hs;obtain⟨A1,c1,A2,c2,A3,c3,rfl,sK⟩:=hp;obtain⟨A,c,B,d,D,e,rfl,hr1,hr2,hr3,hc1,hc2,hc3,hl1,hl2,hl3,hl4⟩:=hs;have HST:=zh (fun w' (hb:Below W.heap.size W w')=>zrK p s F g false _ _ w' (HPX.out.later hb) (HSX.out.later hb) hcl hF lK hg hfam);have hb3:=zkc (zkc (zkc (Below.refl W.heap.size W) (.cells #[.slice A1 p.vs.length c1,.slice A2 p.prs.length c2,.int .u8 p.m.k,.int .i64 p.m.n,.string p.m.s,.slice A3 p.m.ks.length c3] 55)) (.cells #[.slice A s.cells.length c,.slice B s.tin.length d,.slice D s.tout.length e] 34)) (.cells #[.slice none 0 0,.slice none 0 0,.slice none 0 0,.int .i64 0,.int .i64 0] 91)
 have k2:=heap_alloc_new ((W.alloc (.cells #[.slice A1 p.vs.length c1,.slice A2 p.prs.length c2,.int .u8 p.m.k,.int .i64 p.m.n,.string p.m.s,.slice A3 p.m.ks.length c3] 55)).alloc (.cells #[.slice A s.cells.length c,.slice B s.tin.length d,.slice D s.tout.length e] 34)) (.cells #[.slice none 0 0,.slice none 0 0,.slice none 0 0,.int .i64 0,.int .i64 0] 91);simp only[World.size_alloc] at k2;obtain⟨Re,hRe⟩:∃ R,resO p s F g false=R:=⟨_,rfl⟩
 rw[hRe] at HST;have HR:=zh hRe;have HB3:=zh hb3;have aK:=zh k2;have hz3:W.heap.size+3<=(((W.alloc (.cells #[.slice A1 p.vs.length c1,.slice A2 p.prs.length c2,.int .u8 p.m.k,.int .i64 p.m.n,.string p.m.s,.slice A3 p.m.ks.length c3] 55)).alloc (.cells #[.slice A s.cells.length c,.slice B s.tin.length d,.slice D s.tout.length e] 34)).alloc (.cells #[.slice none 0 0,.slice none 0 0,.slice none 0 0,.int .i64 0,.int .i64 0] 91)).heap.size:=by simp
 rw[hRe];clear sK hr1 hr2 hr3 hRe hb3 k2 hl1 hl2 hl3 hl4 hc1 hc2 hc3;clear hfam;go_enter Tryz.func44,Tryz.ntmps44;go_wp2_with fail;refine(HST.out _ HB3.out).mono ?_;rintro e9 w9 ⟨A9,c9,v1,v2,v3,rfl,dC,-,-,aH,hlm9⟩;have mf:=zh hlm9;clear hlm9;obtain⟨A4,c4,B5,d5,D6,e6,h6⟩:=dC.slices;injection h6 with h6;injection h6 with h6;injection h6 with h6 h7;injection h7 with h7 h8;injection h8 with h8 _;subst h6 h7 h8;have ed:=zh dC;have aW:=zh aH;have aG:=zkb aK.out aH;have x0:w9.cell? ⟨W.heap.size+1+1,0,none⟩=some (.slice none 0 0):=zc aG rfl;have x1:w9.cell? ⟨W.heap.size+1+1,1,none⟩=some (.slice none 0 0):=zc aG rfl;have x2:w9.cell? ⟨W.heap.size+1+1,2,none⟩=some (.slice none 0 0):=zc aG rfl;have x3:w9.cell? ⟨W.heap.size+1+1,3,none⟩=some (.int .i64 0):=zc aG rfl;have x4:w9.cell? ⟨W.heap.size+1+1,4,none⟩=some (.int .i64 0):=zc aG rfl
 have xf:∀ o,w9.frozen? ⟨W.heap.size+1+1,o,none⟩=false:=fun _=>zf aG;have y0:=fun o=>zkq x0 o;have y1:=fun o=>zkq x1 o;have y2:=fun o=>zkq x2 o;have y3:=fun o=>zkq x3 o;have y4:=fun o=>zkq x4 o;have hlt9:W.heap.size+1+1<w9.heap.size:=zkj aG;have iq:=zh aG;clear dC aH aG;go_wp2_with fail;obtain⟨hh,hch⟩:=set5 (u0:=.slice A4 Re.1.cells.length c4) (u1:=.slice B5 Re.1.tin.length d5) (u2:=.slice D6 Re.1.tout.length e6) (u3:=.int .i64 (Re.2.1:Int)) (u4:=.int .i64 Re.2.2.1) iq.out;obtain⟨bz,fA⟩:∃ zz,(((((w9.setCell ⟨W.heap.size+1+1,0,none⟩ (.slice A4 Re.1.cells.length c4)).setCell ⟨W.heap.size+1+1,1,none⟩ (.slice B5 Re.1.tin.length d5)).setCell ⟨W.heap.size+1+1,2,none⟩ (.slice D6 Re.1.tout.length e6)).setCell ⟨W.heap.size+1+1,3,none⟩ (.int .i64 (Re.2.1:Int))).setCell ⟨W.heap.size+1+1,4,none⟩ (.int .i64 Re.2.2.1))=zz:=⟨_,rfl⟩
 rw[fA] at hh hch ⊢;obtain⟨aT,iW⟩:∃ zz,bz.alloc (.cells #[.slice A4 Re.1.cells.length c4,.slice B5 Re.1.tin.length d5,.slice D6 Re.1.tout.length e6,.int .i64 (Re.2.1:Int),.int .i64 Re.2.2.1] 91)=zz:=⟨_,rfl⟩
 rw[iW];have t0:aT.cell? ⟨W.heap.size+1+1,0,none⟩=some (.slice A4 Re.1.cells.length c4):=iW▸zkq (zc hh rfl) _;have t1:aT.cell? ⟨W.heap.size+1+1,1,none⟩=some (.slice B5 Re.1.tin.length d5):=iW▸zkq (zc hh rfl) _;have t2:aT.cell? ⟨W.heap.size+1+1,2,none⟩=some (.slice D6 Re.1.tout.length e6):=iW▸zkq (zc hh rfl) _;have t3:aT.cell? ⟨W.heap.size+1+1,3,none⟩=some (.int .i64 (Re.2.1:Int)):=iW▸zkq (zc hh rfl) _;have t4:aT.cell? ⟨W.heap.size+1+1,4,none⟩=some (.int .i64 Re.2.2.1):=iW▸zkq (zc hh rfl) _;refine bodyPost_ret (v:=.agg #[.slice A4 Re.1.cells.length c4,.slice B5 Re.1.tin.length d5,.slice D6 Re.1.tout.length e6,.int .i64 (Re.2.1:Int),.int .i64 Re.2.2.1]) (by simp[results,Tryz.results44,go_sem,t0,t1,t2,t3,t4]) rfl ?_;have hz33:=hz3;have hb39:Below W.heap.size W w9:=zka HB3.out aW.out;have hc11:Chg (fun b=>b=W.heap.size+1+1) w9 aT:=iW▸hch.alloc _
 have nG:=ed.out.chg hc11 fun b hb=>by omega
 have nR:=hb39.trans (hc11.below hb39.size fun b hb=>by omega);exact⟨_,_,_,rfl,nG.lower (by omega),nR,mf.out⟩
theorem zqj (p:PG) (s:SS) (F:Int) (g:Nat) (v sv:Value) (W:World) (hp:PV W Any p v) (hs:SV W Any s sv) (hcl:s.cells.length<=5864062014800) (hF:I64 F) (lK:F<=1000000) (hg:F.toNat*2000+2000<=g) :
  Calls Tryz.prog 44 #[v,sv,.int .i64 F] W (FwP W (resO p s F g false)):=zqi p s F g v sv W hp hs hcl hF lK hg (zv3 p)
theorem zqM:∀ (d:Nat),d<=1000->∀ (t:T) (v:Value) (w:World),NV w Any t v->Calls Tryz.prog 36 #[v,.int .i64 d] w fun e w'=>∃ c:Int,e=.returned (.int .i64 c) /\ -1<=c/\c<=1000*(d:Int)+1/\Below w.heap.size w w'
 | 0,_,t,v,w,hv=>by
  obtain⟨A,c,rfl,-⟩:=hv.open_;obtain⟨k,n,s,ks⟩:=t;simp only[T.k_nd,T.n_nd,T.s_nd,T.ks_nd];clear hv
  show Calls Tryz.prog 36 #[.agg #[.int .u8 k,.int .i64 n,.string s,.slice A ks.length c],.int .i64 0] w _
  have HB:=zh (zkc (Below.refl w.heap.size w) (.cells #[.int .u8 k,.int .i64 n,.string s,.slice A ks.length c] 24));go_enter Tryz.func36,Tryz.ntmps36;go_wp2_with fail;go_ret;exact⟨-1,rfl,by omega,by omega,HB.out⟩
 | d+1,hd,t,v,w,hv=>by
  have IH:=zh (zqM d (by omega));obtain⟨A,c,rfl,hfl,hlk,hlc,hrow⟩:=hv.open_;obtain⟨k,n,s,ks⟩:=t;simp only[T.k_nd,T.n_nd,T.s_nd,T.ks_nd] at hlk hlc hrow ⊢;have ae:=zh hrow;clear hv hrow
  show Calls Tryz.prog 36 #[.agg #[.int .u8 k,.int .i64 n,.string s,.slice A ks.length c],.int .i64 ((d+1:Nat):Int)] w _
  have hb1:=zkc (Below.refl w.heap.size w) (.cells #[.int .u8 k,.int .i64 n,.string s,.slice A ks.length c] 24);have hk1:=heap_alloc_new w (.cells #[.int .u8 k,.int .i64 n,.string s,.slice A ks.length c] 24);obtain⟨w1,hw1⟩:∃ x,w.alloc (.cells #[.int .u8 k,.int .i64 n,.string s,.slice A ks.length c] 24)=x:=⟨_,rfl⟩
  rw[hw1] at hb1 hk1;have HB1:=zh hb1;have aB:=zh hk1;clear hb1 hk1;rw[show((d+1:Nat):Int)=(d:Int)+1 from rfl];have hwd:IntKind.i64.wrap ((d:Int)+1-1)=(d:Int):=by
   rw[show(d:Int)+1-1=(d:Int) by omega];exact IntWalk.i64_in _ (by omega)
  have hd1:¬ (d:Int)+1<1:=by omega
  have hkl:ks.length<=17592186044416:=by unfold LK at hlk;omega
  go_enter Tryz.func36,Tryz.ntmps36;go_wp2_with fail;clear hw1
  go_loopw [6,5] (fun i x wr=>∃ (j:Nat) (y:Int),j<=ks.length/\i=.int .i64 j/\x=.int .i64 y/\(1<=y/\y<=1000*((d:Int)+1)+1)/\Hid (Below w1.heap.size w1 wr)) (fun i _ _=>ks.length-(intOf i).toNat)
  case atStart=>exact⟨0,1,Nat.zero_le _,rfl,rfl,⟨by omega,by omega⟩,zh (Below.refl _ _)⟩
  case round =>
   obtain⟨j,y,hj,rfl,rfl,hy,HW⟩:=hrel;obtain⟨q0,q1,q2,q3⟩:=box4 (zkb aB.out HW.out);have HY:=zh hy;by_cases hlt:j<ks.length
   ·obtain⟨a,u,A2,c2,rfl,-,Hu,⟨r0,r1,r2,r3⟩,hnu⟩:=((ae.out.later HB1.out).later HW.out).nd hlt;have HC:=zh (IH.out u _ wr hnu);clear hnu hy;go_wp2_with fail;refine HC.out.mono ?_;rintro e w2 ⟨z,rfl,hz1,hz2,hb2⟩;have HB2:=zh (zka HW.out hb2);clear hb2 HC q0 q1 q2 q3 r0 r1 r2 r3;by_cases hz:z<0
    ·go_wp2_with fail;go_ret;exact⟨-1,rfl,by omega,by omega,zka HB1.out HB2.out⟩
    ·by_cases hy2:1000<y
     ·go_wp2_with fail;go_ret;exact⟨-1,rfl,by omega,by omega,zka HB1.out HB2.out⟩
     ·have hy3:=HY.out;have hwz:IntKind.i64.wrap (y+z)=y+z:=IntWalk.i64_in _ (by omega);have HYZ:=zh (show 1<=y+z/\y+z<=1000*((d:Int)+1)+1 by omega);clear hy3;go_wp2_with fail
      go_roundw
      case rel=>exact⟨j+1,y+z,by omega,by go_num,by first|rfl|rw[hwz],HYZ.out,HB2⟩
      case measure=>simp[intOf];omega
   ·go_wp2_with fail;go_ret;exact⟨y,rfl,by have:=HY.out;omega,HY.out.2,zka HB1.out HW.out⟩
theorem zvc (t:T) (v:Value) (w:World) (hv:NV w Any t v):Calls Tryz.prog 10 #[v] w fun e w'=>∃ x,e=.returned (.bool x)/\Below w.heap.size w w':=by
 have HC:=zh (fun w' (hb:Below w.heap.size w w')=>zqM 100 (by omega) t v w' (hv.later hb));obtain⟨A,c,rfl,-⟩:=hv.open_;obtain⟨k,n,s,ks⟩:=t;simp only[T.k_nd,T.n_nd,T.s_nd,T.ks_nd] at HC ⊢;clear hv
 show Calls Tryz.prog 10 #[.agg #[.int .u8 k,.int .i64 n,.string s,.slice A ks.length c]] w _
 have hb1:=zkc (Below.refl w.heap.size w) (.cells #[.int .u8 k,.int .i64 n,.string s,.slice A ks.length c] 24);have hk1:=heap_alloc_new w (.cells #[.int .u8 k,.int .i64 n,.string s,.slice A ks.length c] 24);obtain⟨w1,hw1⟩:∃ x,w.alloc (.cells #[.int .u8 k,.int .i64 n,.string s,.slice A ks.length c] 24)=x:=⟨_,rfl⟩
 rw[hw1] at hb1 hk1;have HB1:=zh hb1;have aB:=zh hk1;obtain⟨x0,x1,x2,x3⟩:=box4 hk1;clear hb1 hk1;go_enter Tryz.func10,Tryz.ntmps10;go_wp2_with fail;refine(HC.out _ HB1.out).mono ?_;rintro e w2 ⟨z,rfl,hz1,hz2,hb2⟩;have HB2:=zh (zka HB1.out hb2);obtain⟨y0,y1,y2,y3⟩:=box4 (zkb aB.out hb2);clear hb2 x0 x1 x2 x3 hw1;by_cases hz:z<0
 ·go_wp2_with fail;go_ret;exact⟨_,rfl,HB2.out⟩
 ·go_wp2_with fail;refine(HC.out _ HB2.out).mono ?_;rintro e w3 ⟨z2,rfl,hz3,iT,hb3⟩;have HB3:=zh (zka HB2.out hb3);clear hb3;by_cases h4:400<z2
  ·go_wp2_with fail;go_ret;exact⟨_,rfl,HB3.out⟩
  ·go_wp2_with fail;go_ret;exact⟨_,rfl,HB3.out⟩
def byE (n:Int) (i:Nat):Int:=n / 256 ^ i % 256
def bysE (n:Int):Nat->List Int
 | 0=>[]
 | k+1=>byE n k::bysE n k
theorem zkH (n:Int):∀ k,(bysE n k).length=k
 | 0=>rfl
 | k+1=>by rw[bysE,List.length_cons,zkH n k]
theorem zo2 {n m:Int}:∀ k,bysE n k=bysE m k->n % 256 ^ k=m % 256 ^ k
 | 0,_=>by simp[Int.emod_one]
 | k+1,h=>by
  rw[bysE,bysE] at h;injection h with h1 h2;have ih:=zo2 k h2;have key:∀ x:Int,x % 256 ^ (k+1)=x % 256 ^ k+256 ^ k*byE x k:=fun x=>by
   unfold byE;have hp:(0:Int)<256 ^ k:=Int.pow_pos (by decide);have h1:=Int.mul_ediv_add_emod x (256 ^ k);have h2:=Int.mul_ediv_add_emod (x / 256 ^ k) 256;have h3:=Int.emod_nonneg x (show(256:Int) ^ k≠0 by omega);have h4:=Int.emod_lt_of_pos x hp;have h5:=Int.emod_nonneg (x / 256 ^ k) (show(256:Int)≠0 by decide);have h6:=Int.emod_lt_of_pos (x / 256 ^ k) (show(0:Int)<256 by decide);have e:x=(256 ^ k*(x / 256 ^ k % 256)+x % 256 ^ k)+256 ^ (k+1)*(x / 256 ^ k / 256):=by
    have h7:256 ^ (k+1)*(x / 256 ^ k / 256)=256 ^ k*(256*(x / 256 ^ k / 256)):=by rw[Int.pow_succ,Int.mul_assoc]
    rw[h7,Int.add_right_comm,<-Int.mul_add,Int.add_comm (x / 256 ^ k % 256),h2,h1]
   have h8:(256:Int) ^ k*(x / 256 ^ k % 256)<=256 ^ k*255:=Int.mul_le_mul_of_nonneg_left (by omega) (by omega);have h9:(0:Int)<=256 ^ k*(x / 256 ^ k % 256):=Int.mul_nonneg (by omega) h5;have h10:(256:Int) ^ (k+1)=256 ^ k*256:=Int.pow_succ ..
   conv=>lhs;rw[e]
   rw[Int.add_mul_emod_self_left,Int.emod_eq_of_lt (by omega) (by omega)];omega
  rw[key,key,ih,h1]
theorem zuC {n m:Int} (hn:I64 n) (hm:I64 m) (h:bysE n 8=bysE m 8):n=m:=by
 have:=zo2 8 h;unfold I64 at hn hm;omega
theorem zuD {n m:Int} (hn:0<=n/\n<65536) (hm:0<=m/\m<65536) (h:bysE n 2=bysE m 2):n=m:=by
 have:=zo2 2 h;omega
def lsE (l:List Int):List Int:=l.flatMap (bysE · 8)
theorem zoQ:∀ l,(lsE l).length=8*l.length
 | []=>rfl
 | x::l=>by unfold lsE;rw[List.flatMap_cons,List.length_append,zkH];have:=zoQ l;unfold lsE at this;rw[this,List.length_cons];omega
theorem zpY:∀ {l m:List Int} {p q:List Int},l.length=m.length->(∀ x∈l,I64 x)->(∀ x∈m,I64 x)->lsE l++p=lsE m++q->l=m/\p=q
 | [],[],p,q,_,_,_,h=>⟨rfl,h⟩
 | x::l,y::m,p,q,hl,h1,h2,h=>by
  unfold lsE at h;rw[List.flatMap_cons,List.flatMap_cons,List.append_assoc,List.append_assoc] at h;obtain⟨ha,hb⟩:=List.append_inj h (by rw[zkH,zkH]);obtain⟨rfl,rfl⟩:=zpY (l:=l) (m:=m) (by simpa using hl) (fun z hz=>h1 z (List.mem_cons_of_mem _ hz)) (fun z hz=>h2 z (List.mem_cons_of_mem _ hz)) hb;exact⟨by rw[zuC (h1 x (List.mem_cons_self ..)) (h2 y (List.mem_cons_self ..)) ha],rfl⟩
 | [],_::_,_,_,h,_,_,_=>by simp at h
 | _::_,[],_,_,h,_,_,_=>by simp at h
def cnE (l:List Int):List Int:=bysE l.length 2++lsE l
theorem zp9 {l m p q:List Int} (hl:l.length<65536) (hm:m.length<65536) (h1:∀ x∈l,I64 x) (h2:∀ x∈m,I64 x) (h:cnE l++p=cnE m++q):l=m/\p=q:=by
 unfold cnE at h;rw[List.append_assoc,List.append_assoc] at h;obtain⟨ha,hb⟩:=List.append_inj h (by rw[zkH,zkH]);have:=zuD (by omega) (by omega) ha;exact zpY (by omega) h1 h2 hb
def enC:List VD->List (List Int)->List Int
 | v::vs,l::ls=>(if v.k=3 then bysE l.length 2 else [])++(lsE l++enC vs ls)
 | _,_=>[]
def encS (vs:List VD) (s:SS):List Int:=enC vs s.cells++(cnE s.tin++cnE s.tout)
theorem zsH:∀ {vs:List VD} {ls ms:List (List Int)} {p q:List Int},ls.length=vs.length->ms.length=vs.length->zlJ vs ls=true->zlJ vs ms=true->(∀ l∈ls,∀ x∈l,I64 x)->(∀ l∈ms,∀ x∈l,I64 x) ->
  enC vs ls++p=enC vs ms++q->ls=ms/\p=q
 | [],[],[],p,q,_,_,_,_,_,_,h=>⟨rfl,h⟩
 | v::vs,l::ls,m::ms,p,q,h1,h2,f1,f2,i1,i2,h=>by
  simp only[zlJ,Bool.and_eq_true] at f1 f2;have ih:=fun {p q:List Int}=>zsH (vs:=vs) (ls:=ls) (ms:=ms) (p:=p) (q:=q) (by simpa using h1) (by simpa using h2) f1.2 f2.2 (fun a ha=>i1 a (List.mem_cons_of_mem _ ha)) fun a ha=>i2 a (List.mem_cons_of_mem _ ha);have j1:=i1 l (List.mem_cons_self ..);have j2:=i2 m (List.mem_cons_self ..);have g1:=f1.1;have g2:=f2.1;unfold fit1 at g1 g2;rw[enC,enC] at h;by_cases hk:v.k=3
  ·rw[if_pos hk] at g1 g2 h;rw[if_pos hk] at h;have g1:=of_decide_eq_true g1;have g2:=of_decide_eq_true g2;have h':cnE l++(enC vs ls++p)=cnE m++(enC vs ms++q):=by
    unfold cnE;simpa only[List.append_assoc] using h
   obtain⟨rfl,e⟩:=zp9 (by omega) (by omega) j1 j2 h';obtain⟨rfl,rfl⟩:=ih e;exact⟨rfl,rfl⟩
  ·rw[if_neg hk] at g1 g2 h;rw[if_neg hk] at h;have g1:=of_decide_eq_true g1;have g2:=of_decide_eq_true g2;have h':lsE l++(enC vs ls++p)=lsE m++(enC vs ms++q):=by simpa only[List.append_assoc,List.nil_append] using h
   obtain⟨rfl,e⟩:=zpY (by omega) j1 j2 h';obtain⟨rfl,rfl⟩:=ih e;exact⟨rfl,rfl⟩
 | _::_,[],_,_,_,h,_,_,_,_,_,_=>by simp at h
 | _::_,_::_,[],_,_,_,h,_,_,_,_,_=>by simp at h
 | [],_::_,_,_,_,h,_,_,_,_,_,_=>by simp at h
 | [],[],_::_,_,_,_,h,_,_,_,_,_=>by simp at h
theorem zna {vs:List VD} {s:SS} (h:fitB vs s=true):svB vs=true/\s.cells.length=vs.length/\s.tin.length<=4096/\s.tout.length<=4096/\zlJ vs s.cells=true:=by
 simp only[fitB,Bool.and_eq_true,decide_eq_true_eq] at h;exact⟨h.1.1.1.1,h.1.1.1.2,h.1.1.2,h.1.2,h.2⟩
theorem zut {vs:List VD} {s t:SS} (hs:fitB vs s=true) (ht:fitB vs t=true) (is:s.I) (it:t.I) (h:encS vs s=encS vs t):s=t:=by
 obtain⟨-,a1,a2,a3,a4⟩:=zna hs;obtain⟨-,b1,b2,b3,b4⟩:=zna ht;obtain⟨e1,h⟩:=zsH a1 b1 a4 b4 is.1 it.1 h;obtain⟨e2,h⟩:=zp9 (by omega) (by omega) is.2.1 it.2.1 h;have e3:=zp9 (p:=[]) (q:=[]) (by omega) (by omega) is.2.2 it.2.2 (by rw[List.append_nil,List.append_nil];exact h)
 cases s;cases t
 simp only at e1 e2 e3;rw[e1,e2,e3.1]
def zS (vs:List VD):SS:=⟨vs.map fun v=>List.replicate (fixE v).toNat 0,[],[]⟩
theorem bMkI (n:Nat) (hn:n<=4096) (w:World):(Instr.makeSlice 32 (.int .i64 (n:Int)) (.int .i64 (n:Int))).run Tryz.prog w=.ok (.slice (some ⟨w.heap.size,0,none⟩) n n) (w.alloc (.cells (madeCells #[.int .i64 0] n) 3)):=by
 obtain⟨i,hi,h1,h2,h3⟩:=info_parts znM;have:=zld (P:=Tryz.prog) 32 3 i (.int .i64 0) Tryz.underlying32 hi h1 .i64 .i64 n n (Nat.le_refl _) (by rw[h3];omega) (by omega) w;rw[h2,Nat.mul_one] at this;exact this
theorem zrY (w:World) (n0 n:Nat) (h:n0<=w.heap.size) (hn:n<=4096):(w.alloc (.cells (madeCells #[.int .i64 0] n) 3)).ownsRow n0 3 1 (.slice (some ⟨w.heap.size,0,none⟩) n n) (List.replicate n (0:Int)).length (zki (List.replicate n 0)) :=
 ⟨by simp[zki],.inr ⟨w.heap.size,n,madeCells #[.int .i64 0] n,by simp,h,heap_alloc_new w _,by simp,by unfold maxLen;omega,by rw[size_madeCells];simp,by rw[zmQ];simp[zki]⟩⟩
theorem zpS {W:World} {n0 b3:Nat} {vi:Value} {fc:Nat->Value} {s:SS} (hn:n0<=b3) (h:W.heap[b3]?=some (.cells #[.slice none 0 0,vi,.slice none 0 0] 34 (0,0))) (hv:W.ownsRow n0 3 1 vi 0 []) (hne:vi.ownBlock≠some b3) (h1:s.tin=[]) (h2:s.tout=[]) :
  Rws W n0 (zlN (.slice none 0 0) vi (.slice none 0 0) fc b3 s 0):=by
 refine⟨fun i=>?_,fun i j b hij hi hj=>?_⟩
 ·rcases i with _|i
  ·exact zrX hn h
  ·cases i with
   | all=>exact zpU _ _ _
   | inp=>simp only[zlN,h1];exact hv
   | out=>simp only[zlN,h2];exact zpU _ _ _
   | el i=>simp only[zlN,Nat.not_lt_zero,if_false];exact zlS W n0
 ·rcases i with _|i<;>rcases j with _|j
  ·exact hij rfl
  ·cases j<;>simp[zlN,nilR,Value.ownBlock,boxV] at hi hj
   subst hi;exact hne hj
  ·cases i<;>simp[zlN,nilR,Value.ownBlock,boxV] at hi hj
   subst hj;exact hne hi
  ·cases i<;>cases j<;>simp[zlN,nilR,Value.ownBlock] at hi hj hij
theorem zoI {v:VD} (h:vdB v=true):0<=fixE v/\fixE v<=16:=by
 unfold vdB at h;unfold fixE
 split
 ·omega
 ·rename_i h1
  split at h
  ·have:=eq_of_beq h;omega
  ·split at h
   ·have:=of_decide_eq_true h;omega
   ·cases h
theorem zSLim (vs:List VD) (h:svB vs=true):(zS vs).Lim:=by
 simp only[svB,Bool.and_eq_true,decide_eq_true_eq,List.all_eq_true] at h;refine⟨by simp only[zS,List.length_map];unfold LI;omega,fun l hl=>?_,Nat.zero_le _,Nat.zero_le _⟩;obtain⟨v,hv,rfl⟩:=List.mem_map.1 hl;have:=zoI (h.2 v hv);rw[List.length_replicate];unfold LI;omega
theorem st3 {W:World} {b:Nat} {a0 a1 a2:Value} {ty:TypeId} (v0 v1 v2:Value) (h:W.heap[b]?=some (.cells #[a0,a1,a2] ty (0,0))) :
  ∃ W',((W.setCell ⟨b,0,none⟩ v0).setCell ⟨b,1,none⟩ v1).setCell ⟨b,2,none⟩ v2=W'/\Chg (fun q=>q=b) W W'/\W'.heap[b]?=some (.cells #[v0,v1,v2] ty (0,0)):=by
 have hch:Chg (fun q=>q=b) W (((W.setCell ⟨b,0,none⟩ v0).setCell ⟨b,1,none⟩ v1).setCell ⟨b,2,none⟩ v2) :=
  (((Chg.refl (fun q=>q=b) W).setCell (p:=⟨b,0,none⟩) (.inl rfl) _).setCell (p:=⟨b,1,none⟩) (.inl rfl) _).setCell (p:=⟨b,2,none⟩) (.inl rfl) _
 have hh:=heap_setCell_same _ b 2 _ _ v2 (heap_setCell_same _ b 1 _ _ v1 (heap_setCell_same W b 0 _ _ v0 h));exact⟨_,rfl,hch,by simpa using hh⟩
def zxH (vs:List VD) (w:World) (e:Ending) (w':World):Prop:=Below w.heap.size w w'/\∃ v er,e=.returned (.tuple #[v,.int .i64 er])/\(svB vs=false->er=3/\v=.agg #[.slice none 0 0,.slice none 0 0,.slice none 0 0])/\(svB vs=true->er=0/\OwnS w' w.heap.size (zS vs) v)
theorem zvY:IsFn Tryz.prog 50 Tryz.f50:=⟨Tryz.func50,by kernel_rfl,by kernel_rfl⟩
theorem zuZ (vs:List VD) (A:Option Addr) (c:Nat) (w:World) (hrow:RowV w Any A vs) (hl:vs.length<=LV):Calls Tryz.prog 86 #[.slice A vs.length c,.slice none 0 0] w (zxH vs w):=by
 have hb1:=zkc (Below.refl w.heap.size w) (.cells #[.slice none 0 0,.slice none 0 0,.slice none 0 0] 34);have hk1:=heap_alloc_new w (.cells #[.slice none 0 0,.slice none 0 0,.slice none 0 0] 34);have h1:=bS12;have ae:=zh hrow;obtain⟨b0,hb0⟩:∃ b,svB vs=b:=⟨_,rfl⟩
 have HB0:=zh hb0;have mW:=zh (fun w' (hb:Below w.heap.size w w')=>hb0▸zof vs A c w' (hrow.later hb) hl);clear hrow hl hb0;go_enter Tryz.func86,Tryz.ntmps86;go_upto_region 1 with fail;obtain⟨w1,hw1⟩:∃ x,w.alloc (.cells #[.slice none 0 0,.slice none 0 0,.slice none 0 0] 34)=x:=⟨_,rfl⟩
 rw[hw1] at hb1 hk1 ⊢;have HB1:=zh hb1;have aB:=zh hk1;clear hw1 hb1 hk1;go_wp2_with fail;refine(mW.out _ HB1.out).mono ?_;rintro e w2 ⟨rfl,hb2⟩;have HB2:=zh (zka HB1.out hb2);have aK:=zh (zkb aB.out hb2);have q0:w2.cell? ⟨w.heap.size,0,none⟩=some (.slice none 0 0):=zc aK.out rfl;have q1:w2.cell? ⟨w.heap.size,1,none⟩=some (.slice none 0 0):=zc aK.out rfl;have q2:w2.cell? ⟨w.heap.size,2,none⟩=some (.slice none 0 0):=zc aK.out rfl;have cf:∀ j,w2.frozen? ⟨w.heap.size,j,none⟩=false:=fun j=>zf aK.out;clear hb2
 cases b0
 ·obtain⟨w9,aQ,aR,aY⟩:=st3 (.slice none 0 0) (.slice none 0 0) (.slice none 0 0) aK.out;have aW:=zh (HB2.out.trans (aR.below HB2.out.size fun q e=>by have e:q=w.heap.size:=e;omega));obtain⟨t0,t1,t2⟩:=zkr aY;clear aR aY;go_wp2_with fail;refine bodyPost_ret (v:=.tuple #[.agg #[.slice none 0 0,.slice none 0 0,.slice none 0 0],.int .i64 3]) (by simp[results,Tryz.results86,go_sem,t0,t1,t2]) rfl ?_;exact⟨aW.out,_,_,rfl,fun _=>⟨rfl,rfl⟩,fun h=>by rw[HB0.out] at h;cases h⟩
 ·have dV:=zh (zkP [] none 0 Any w2 (fun i hi=>absurd hi (Nat.not_lt_zero i)) (Nat.zero_le _));have hsv:=HB0.out;simp only[svB,Bool.and_eq_true,decide_eq_true_eq,List.all_eq_true] at hsv;have nW:=zh hsv;have hln:vs.length<=32:=hsv.1;clear hsv;go_wp2_with fail;refine dV.out.mono ?_;rintro e w3 ⟨vi,rfl,aS,-,jW⟩;have HB3:=zh (zka HB2.out jW);have bV:=zh aS;clear aS q0 q1 q2 cf dV;obtain⟨B,d,rfl,-⟩:=zkg bV.out;have hk4:=heap_alloc_new w3 (.cells #[.slice none 0 0,.slice none 0 0,.slice none 0 0] 34);have hb4:=zkc (Below.refl w3.heap.size w3) (.cells #[.slice none 0 0,.slice none 0 0,.slice none 0 0] 34);obtain⟨w4,hw4⟩:∃ x,w3.alloc (.cells #[.slice none 0 0,.slice none 0 0,.slice none 0 0] 34)=x:=⟨_,rfl⟩
  rw[hw4] at hk4 hb4;obtain⟨b3,hb3⟩:∃ x,w3.heap.size=x:=⟨_,rfl⟩
  rw[hb3] at hk4;obtain⟨w5,eX,di,kL⟩:=st3 (.slice none 0 0) (.slice B 0 d) (.slice none 0 0) hk4;have av:=zh (HB3.out.trans (hb4.trans (di.below hb4.size fun q e=>by have e:q=b3:=e;omega) |>.mono HB3.out.size));have pG:=zh (zpS (n0:=w.heap.size+1) (fc:=fun _=>.slice none 0 0) (s:=zS vs) (by have:=jW.size;have:=zkj aK.out;omega) kL (zk6 (znH (zkI bV.out hb4) fun q hq=>di.block q (Nat.lt_of_lt_of_le (bV.out.lt q hq).2 hb4.size) fun e=>by have e:q=b3:=e;have:=(bV.out.lt q hq).2;omega) (by have:=zkj aK.out;omega)) (fun e=>by have:=(bV.out.lt _ e).2;omega) rfl rfl);obtain⟨d0,d1,d2⟩:=zkr hk4;have cf:∀ j,w4.frozen? ⟨b3,j,none⟩=false:=fun j=>zf hk4;have HH5:=zh kL
  have dF:=zh ((di.block _ (Nat.lt_of_lt_of_le (zkj aK.out) (Nat.le_trans (zka (Below.refl _ _) jW).size hb4.size)) fun e=>by have e:w.heap.size=b3:=e;have:=zkj aK.out;have:=jW.size;omega).trans (zkb (zkb aK.out jW) hb4));clear hb4 hk4 di kL jW;go_wp2_with fail;clear hw4 eX d0 d1 d2 cf h1;obtain⟨vi,mJ⟩:∃ x,Value.slice B 0 d=x:=⟨_,rfl⟩
  rw[mJ] at pG;have uQ:=zh mJ;clear mJ bV HH5
  go_loopw [22] (fun i wr=>∃ j:Nat,j<=vs.length/\i=.int .i64 j/\Hid (Below w.heap.size w wr)/\∃ vc fc,Hid (Rws wr (w.heap.size+1) (zlN vc vi (.slice none 0 0) fc b3 (zS vs) j))/\Hid (wr.heap[w.heap.size]?=some (.cells #[.slice none 0 0,.slice none 0 0,.slice none 0 0] 34 (0,0)))) (fun i _=>vs.length-(intOf i).toNat)
  case atStart=>exact⟨0,Nat.zero_le _,rfl,av,_,_,pG,dF⟩
  case round =>
   clear pG av dF;obtain⟨j,hj,rfl,af,vc,fc,HRW,HK⟩:=hrel;by_cases hlt:j<vs.length
   ·have hj1:(j:Int)<(vs.length:Int):=by omega
    have hj0:(0:Int)<=(j:Int):=by omega
    obtain⟨a,v,rfl,-,Hv,⟨p0,p1,p2⟩,hf⟩:=(ae.out.later af.out).nd hlt;have hfx:=zoI (nW.out.2 _ (List.getElem_mem hlt));rw[Hv.out] at hfx;obtain⟨m,hm⟩:∃ m,(fixE v).toNat=m:=⟨_,rfl⟩
    have hm2:fixE v=(m:Int):=by omega
    have hm3:m<=4096:=by omega
    have jK:=zh (fun w'=>hm2▸zps v w');have hgd:(zS vs).cells.getD j []=List.replicate m 0:=by
     rw[<-hm,<-Hv.out];simp[zS,List.getD_eq_getElem?_getD,List.getElem?_map,List.getElem?_eq_getElem hlt]
    have HGD:=zh hgd;obtain⟨ng,vk,vn⟩:=v;simp only at p0 p1 p2;have hbx:=zlL (HRW.out.row none);obtain⟨Av,cv,bK,-⟩:=zkg (HRW.out.row (some .all));change vc=.slice Av j cv at bK;subst bK;have gT:=heap_alloc_new wr (.cells #[.string ng,.int .u8 vk,.int .i64 vn] 76);have dm:=zkc (Below.refl wr.heap.size wr) (.cells #[.string ng,.int .u8 vk,.int .i64 vn] 76);obtain⟨w9,aQ⟩:∃ x,wr.alloc (.cells #[.string ng,.int .u8 vk,.int .i64 vn] 76)=x:=⟨_,rfl⟩
    rw[aQ] at gT dm;have aW:=zh dm;have rz:=zh (HRW.out.later aW.out);obtain⟨e0,e1,e2⟩:=zkr gT;have hbx:=zlL (rz.out.row none);have x0:w9.cell? ⟨b3,0,none⟩=some (.slice Av j cv):=zc hbx rfl;clear gT dm hgd hm2 hfx hf;go_upto_region 9 with fail;clear aQ p0 p1 p2;obtain⟨vb,hvb⟩:∃ x,wr.heap.size=x:=⟨_,rfl⟩
    have eH:=zh hvb;rw[hvb] at e0 e1 e2 ⊢;have hS0:(fun w':World=>w'.cell? ⟨vb,0,none⟩=some (.string ng)/\w'.cell? ⟨vb,1,none⟩=some (.int .u8 vk)/\w'.cell? ⟨vb,2,none⟩=some (.int .i64 vn)) w9.drew/\(fun w':World=>w'.cell? ⟨b3,0,none⟩=some (.slice Av j cv)) w9.drew:=⟨⟨e0,e1,e2⟩,x0⟩
    have ay:=zh (show ∀ w',Below w9.heap.size w9 w'->(fun w':World=>w'.cell? ⟨vb,0,none⟩=some (.string ng)/\w'.cell? ⟨vb,1,none⟩=some (.int .u8 vk)/\w'.cell? ⟨vb,2,none⟩=some (.int .i64 vn)) w'/\(fun w':World=>w'.cell? ⟨b3,0,none⟩=some (.slice Av j cv)) w' from fun w' h=>⟨⟨zb h e0,zb h e1,zb h e2⟩,zb h x0⟩);obtain⟨i0,hi0,hq0,hq1,hq2⟩:=info_parts zrN;refine wp_region_noPanic ?_;refine zkd (fun w':World=>w'.cell? ⟨vb,0,none⟩=some (.string ng)/\w'.cell? ⟨vb,1,none⟩=some (.int .u8 vk)/\w'.cell? ⟨vb,2,none⟩=some (.int .i64 vn)) (fun w':World=>w'.cell? ⟨b3,0,none⟩=some (.slice Av j cv)) 8 (by kernel_rfl) ?_;clear e0 e1 e2 x0 hvb;refine zT 0 hS0 ?_;(try simp only[zQ]);refine zkN (i:=1) (v:=?_) rfl (by kernel_rfl) (by kernel_rfl) (by kernel_rfl) (by decide) rfl (by kernel_rfl) (by kernel_rfl) (fun _ _ _ h=>h) (Or.inl ⟨by rfl,?_⟩) hS0 ?_;rotate_left 1
    ·(intro w hSw;(try dsimp only at hSw);(try simp only[zA,zB,zC]);go_simp;(try with_reducible rfl))
    (try simp only[zQ]);refine zT 2 hS0 ?_;(try simp only[zQ]);refine zo 3 fun K hK=>?_;have had:Calls Tryz.prog 50 [.agg #[.string ng,.int .u8 vk,.int .i64 vn]].toArray w9.drew fun e w'=>∃ u,e=.returned u/\(u=.int .i64 (m:Int)/\Below w9.heap.size w9 w') :=
     (jK.out _).mono fun e w' ⟨h1,h2⟩=>⟨_,h1,rfl,zka (Below.refl w9.heap.size w9).drew h2⟩
    refine zke (by rfl) (.func 50) [.tmp 28] _ (by rfl) 50 _ zvY (by rfl) _ (by rfl) _ had ?_;rintro v8 wb ⟨rfl,hbb⟩;have dH:=zh hbb;refine hK.out _ _ (ay.out _ hbb) ?_;clear hK K hS0 hbb had;(try simp only[zQ]);have hmk:=bMkI m hm3 wb;refine zo 4 fun K hK=>?_;(try simp only[zA,zB,zC]);go_simp;have hb4:=zka dH.out (zkc (Below.refl wb.heap.size wb) (.cells (madeCells #[.int .i64 0] m) 3));have hsz:=af.out.size;have hd1:=(rz.out.later dH.out).upd (some (.el j)) (r:=⟨.slice (some ⟨wb.heap.size,0,none⟩) m m,3,1,(List.replicate m (0:Int)).length,zki (List.replicate m 0)⟩) (Chg.of_below (zkc (Below.refl wb.heap.size wb) (.cells (madeCells #[.int .i64 0] m) 3))) (zrY wb (w.heap.size+1) m (by have:=aW.out.size;have:=dH.out.size;have:=zkj HK.out;omega) hm3) (fun b hb=>.inr (by have hb:some wb.heap.size=some b:=hb;injection hb with hb;omega));have HD1:=zh hd1
    have ak:=zh hb4;obtain⟨g,hg⟩:∃ x,wb.heap.size=x:=⟨_,rfl⟩
    obtain⟨wx,hwx⟩:∃ x,wb.alloc (.cells (madeCells #[.int .i64 0] m) 3)=x:=⟨_,rfl⟩
    rw[hwx] at HD1 ak ⊢;rw[hg] at HD1 ⊢;refine hK.out _ _ (ay.out _ ak.out) ?_;clear hK K hmk hd1 hb4 hwx hg rz;(try simp only[zQ]);have h1:=zw3;refine zo 5 fun K hK=>?_;(try simp only[zA,zB,zC]);go_simp;have gK:=zh (zka ak.out (zkc (Below.refl wx.heap.size wx) (.cells #[.slice (some ⟨g,0,none⟩) m m] 32)));have HD2:=zh (HD1.out.later (zkc (Below.refl wx.heap.size wx) (.cells #[.slice (some ⟨g,0,none⟩) m m] 32)));have aI:=zh (heap_alloc_new wx (.cells #[.slice (some ⟨g,0,none⟩) m m] 32));obtain⟨wc,hwc⟩:∃ x,wx.alloc (.cells #[.slice (some ⟨g,0,none⟩) m m] 32)=x:=⟨_,rfl⟩
    rw[hwc] at gK HD2 aI ⊢;refine hK.out _ _ (ay.out _ gK.out) ?_;clear hK K hwc HD1 h1;(try simp only[zQ]);have hbC:=zka af.out (zka aW.out gK.out);have nz:=hbC.size;have hrow:=HD2.out.row (some .all);rw[zkk (by simp)] at hrow;change wc.ownsRow (w.heap.size+1) 32 1 (.slice Av j cv) j ((List.range j).map fc) at hrow;refine zo 6 fun K hK=>?_;refine zkT (by rfl) (.tmp 27) (.tmp 31) 31 (by rfl) (w.heap.size+1) 32 i0 _ 1 24 Tryz.underlying31 hi0 hq0 hq1 hq2 rfl (by decide) (.slice Av j cv) j ((List.range j).map fc) (by rfl) hrow ⟨wx.heap.size,0,none⟩ 1 1 [.slice (some ⟨g,0,none⟩) m m] (by rfl) rfl (fun q u hq=>by
     match q,hq with
     | 0,hq=>injection hq with hq;subst hq;exact zc aI.out rfl) (fun u hu=>by simp at hu;subst hu;rfl) (by unfold maxLen;omega) (by omega) (by have:=aW.out.size;have:=gK.out.size;have:=zkj HK.out;omega) (fun vd wd ho hg bQ=>?_)
    have hd3:=HD2.out.upd (some .all) (r:=⟨vd,32,1,j+1,(List.range j).map fc++[.slice (some ⟨g,0,none⟩) m m]⟩) ((Chg.row hg).mono fun b _ hb=>hb) ho (fun b hb=>by
     rcases bQ with h5|h5
     ·exact .inl (h5▸hb)
     ·exact .inr (by rw[h5] at hb;injection hb with hb;omega))
    have HD3:=zh hd3;have hlo:∀ g,(Value.slice Av j cv).ownBlock=some g->w.heap.size+1<=g:=fun g e=>(HRW.out.lt (some .all) g e).1;have cZ:Chg (fun b=>(Value.slice Av j cv).ownBlock=some b) wc wd:=Chg.row hg;have hbD:=hbC.grown hg nz (fun g e=>by have:=hlo g e;omega);have lH:(fun w':World=>w'.cell? ⟨vb,0,none⟩=some (.string ng)/\w'.cell? ⟨vb,1,none⟩=some (.int .u8 vk)/\w'.cell? ⟨vb,2,none⟩=some (.int .i64 vn)) wd:=by
     obtain⟨f0,f1,f2⟩:=(ay.out _ gK.out).1;have hne:∀ b,(Value.slice Av j cv).ownBlock=some b->b≠vb:=fun b h e=>by have:=(HRW.out.lt (some .all) b h).2;have:=eH.out;omega
     have hk:=cZ.block vb (World.block_lt_of_cell? wc _ f0) fun h=>hne _ h rfl;exact⟨zkp f0 hk,zkp f1 hk,zkp f2 hk⟩
    have iZ:=zlL (HD3.out.row none);have e0:wd.cell? ⟨b3,0,none⟩=some (.slice Av j cv):=zc iZ rfl;have ez:wd.frozen? ⟨b3,0,none⟩=false:=zf iZ;have hd4:=HD3.out.set none (g:=b3) (o:=0) (by rfl) (by show 0<3;decide) vd;have hd5:Rws (wd.setCell ⟨b3,0,none⟩ vd) (w.heap.size+1) (zlN vd vi (.slice none 0 0) (fun i=>if i=j then .slice (some ⟨g,0,none⟩) m m else fc i) b3 (zS vs) (j+1)):=by
     rw[<-zvh (.slice Av j cv) vd vi (.slice none 0 0) fc b3 (zS vs) j (List.replicate m 0) (.slice (some ⟨g,0,none⟩) m m) HGD.out];exact hd4
    have HD5:=zh hd5;have hb3lt:=(HD3.out.lt none b3 rfl)
    have hkd:wd.heap[w.heap.size]?=some (.cells #[.slice none 0 0,.slice none 0 0,.slice none 0 0] 34 (0,0)):=cZ.keep (zkb (zkb HK.out aW.out) gK.out) fun h=>by have:=hlo _ h;omega
    have hcs:=((Chg.refl (fun b=>b=b3) wd).setCell (p:=⟨b3,0,none⟩) (.inl rfl) vd)
    have vG:=zh (show Below w.heap.size w (wd.setCell ⟨b3,0,none⟩ vd) from hbD.trans (hcs.below hbD.size fun b e=>by omega));have HKE:=zh (hcs.keep hkd fun e=>by have e:w.heap.size=b3:=e;have:=hb3lt;omega);have hS5:(fun w':World=>w'.cell? ⟨vb,0,none⟩=some (.string ng)/\w'.cell? ⟨vb,1,none⟩=some (.int .u8 vk)/\w'.cell? ⟨vb,2,none⟩=some (.int .i64 vn)) (wd.setCell ⟨b3,0,none⟩ vd):=by
     obtain⟨f0,f1,f2⟩:=lH;have hk:=hcs.block vb (World.block_lt_of_cell? wd _ f0) fun e=>by have e:vb=b3:=e;have:=(HRW.out.lt none b3 rfl).2;have:=eH.out;omega
     exact⟨zkp f0 hk,zkp f1 hk,zkp f2 hk⟩
    obtain⟨Ad,cd',rfl,-⟩:=zkg ho;refine hK.out _ _ ⟨lH,e0⟩ ?_;clear hK K hd3 hd4 hd5 ho hg bQ hrow cZ hlo iZ hkd hcs hbC hbD ay;(try simp only[zQ]);refine zo 7 fun K hK=>?_;(try simp only[zA,zB,zC]);go_simp;refine hK.out _ _ ⟨lH,e0⟩ ?_;clear hK K;(try simp only[zQ]);refine zp 8 fun K hK=>?_;(try simp only[zA,zB,zC]);go_simp;refine hK.out _ _ hS5 ?_;clear hK K;(try simp only[zQ]);refine zd ?_;refine NoPanic.normal ?_;clear lH hS5 e0 ez;go_wp2_with fail
    go_roundw
    case rel=>exact⟨j+1,by omega,by go_num,vG,_,_,HD5,HKE⟩
    case measure=>simp[intOf];omega
   ·obtain rfl:j=vs.length:=by omega
    have hj1:¬ (vs.length:Int)<(vs.length:Int):=by omega
    have hbx:=zlL (HRW.out.row none);obtain⟨x0,x1,x2⟩:=zkr hbx;obtain⟨Av,cv,bK,-⟩:=zkg (HRW.out.row (some .all));change vc=.slice Av vs.length cv at bK;subst bK;rw[<-uQ.out] at x1;obtain⟨w9,aQ,aR,aY⟩:=st3 (.slice Av vs.length cv) (.slice B 0 d) (.slice none 0 0) HK.out;obtain⟨q0,q1,q2⟩:=zkr HK.out;have cf:∀ j,wr.frozen? ⟨w.heap.size,j,none⟩=false:=fun j=>zf HK.out;obtain⟨t0,t1,t2⟩:=zkr aY;have aW:=zh (af.out.trans (aR.below af.out.size fun q e=>by have e:q=w.heap.size:=e;omega));clear aY hbx;go_wp2_with fail;refine bodyPost_ret (v:=.tuple #[.agg #[.slice Av vs.length cv,.slice B 0 d,.slice none 0 0],.int .i64 0]) (by simp[results,Tryz.results86,go_sem,t0,t1,t2]) rfl ?_;refine⟨aW.out,_,_,rfl,fun h=>(by rw[HB0.out] at h;cases h),fun _=>⟨rfl,?_⟩⟩;have hre:=zpg (b3:=b3) (s:=zS vs) (by rw[show(zS vs).cells.length=vs.length by simp[zS]];exact HRW.out)
    have hrw:=hre.chg aR (fun i b hb e=>by
     have e:b=w.heap.size:=e;have:=(hre.lt i b hb).1;omega)
    rw[<-uQ.out] at hrw;exact⟨_,_,_,_,rfl,hrw.mono (by omega),⟨fun l hl x hx=>by
     obtain⟨v,_,rfl⟩:=List.mem_map.1 hl;obtain rfl:=List.eq_of_mem_replicate hx;unfold I64;omega,fun x hx=>(by cases hx),fun x hx=>(by cases hx)⟩⟩
end Go.Proofs.YtghbhbdnkjjnnaaGreat
