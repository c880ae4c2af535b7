/-
  Texts of the proof, put together without their remarks: Ia, Gf, Nz, Ib, Fw, Ig, Eqv, Wfp, Pfi, Rxp, Pvl, Gpl, Alt, Alf, Gex, Gcm, Sve, Gad, If, Lfp.
-/
import Derived.Test.YthjinpodhacleaaGreatB10
import Derived.Tactics
import Derived.Tactics2
import Derived.Defers
import Derived.Laws.StructEq
import Derived.Laws.OwnMore
set_option linter.unusedSimpArgs false
set_option linter.unusedVariables false
set_option maxHeartbeats 8000000
set_option maxRecDepth 100000
namespace Go.Proofs.YthjinpodhacleaaGreat
open Tryz
section
open Go Go.RowKit
theorem zsy(jb:Nat)(w:World)(h:w.cell? ⟨jb,0,none⟩=some (.slice none 0 0)):Calls prog 105 #[.pointer (some ⟨jb,0,none⟩)] w fun e w'=>e=.returned (.int .i64 0)/\w'=w:=by
 go_enter func105,ntmps105;go_wp2_with fail;go_ret;exact⟨rfl,rfl⟩
theorem zKt:IsFn prog 105 f105:=⟨func105,by kernel_rfl,by kernel_rfl⟩
theorem zyw{P:Program}{c:Code}{Q Q':Exit->Act->World->Prop}{a:Act}{w:World}(h:c.wp P Q a w)(hQ:∀e a' w',Q e a' w'->Q' e a' w'):c.wp P Q' a w :=
 fun b k cs=>let ⟨e,a',w',q,r⟩:=h b k cs;⟨e,a',w',hQ _ _ _ q,r⟩
theorem zyU(C:World->Prop):∃Q:Exit->Act->World->Prop,(∀a' w',a'.defers=[]->C w'->Q .normal a' w')/\∀e a' w',Q e a' w'->e=.normal/\a'.defers=[]/\C w' :=
 ⟨fun e a' w'=>e=.normal/\a'.defers=[]/\C w',fun _ _ h1 h2=>⟨rfl,h1,h2⟩,fun _ _ _ h=>h⟩
theorem tAss(x:Int)(w:World):(Instr.typeAssert (.iface 175 (.agg #[.int .i64 x])) 20 175 true).run prog w=.ok (.tuple #[.agg #[.int .i64 x],.bool true]) w:=by kernel_rfl
theorem zxD(a b c:Value)(w:World) :
  CallsD prog 106 #[a,b,c] .returning w fun e u' w'=>e=.returned (.tuple #[])/\u'=.returning/\w'=w:=by
 refine callsD_of_wpS func106 rfl fun c₀ cs hu=>?_;apply wpS_seq;apply wpS_region;simp[wpOpsS,go_sem,recoverD,hu,ntmps106,Exit.thenS];apply wpS_seq;apply wpS_seq;apply wpS_region;simp[wpOpsS,go_sem,Exit.thenS];refine wpS_cond (t:=true) (by simp[Act.eval,Array.replicate]) ?_;simp only[if_true];refine wpS_of_wp (wp_ret ?_)
 cases c₀
 simp_all [bodyPostS,results,results106,Exit.thenS]
theorem zvE(a2 a5 a4 jb:Nat)(x y:Int)(w:World)(h2:w.cell? ⟨a2,0,none⟩=some (.pointer (some ⟨jb,0,none⟩)))(h5:w.cell? ⟨a5,0,none⟩=some (.int .i64 0))(hj:w.cell? ⟨jb,0,none⟩=some (.slice none 0 0))(h4:w.cell? ⟨a4,0,none⟩=some (.int .i64 y))(hf:w.frozen? ⟨a4,0,none⟩=false) :
  CallsD prog 106 #[.pointer (some ⟨a2,0,none⟩),.pointer (some ⟨a5,0,none⟩),.pointer (some ⟨a4,0,none⟩)] (.panicking [{ v:=.iface 175 (.agg #[.int .i64 x]),recovered:=false }]) w fun e u' w' =>
   e=.returned (.tuple #[])/\u'=.panicking [{ v:=.iface 175 (.agg #[.int .i64 x]),recovered:=true }]/\w'.cell? ⟨a4,0,none⟩=some (.int .i64 x)/\Chg (fun b=>b=a4) w w':=by
 refine callsD_of_wpS func106 rfl fun c₀ cs hu=>?_;apply wpS_seq;apply wpS_region;simp[wpOpsS,go_sem,recoverD,hu,ntmps106,Exit.thenS];apply wpS_seq;apply wpS_seq;apply wpS_region;simp[wpOpsS,go_sem,Exit.thenS];refine wpS_cond (t:=false) (by simp[Act.eval,Array.replicate]) ?_;simp only[Bool.false_eq_true,if_false];refine wpS_of_wp (wp_skip ?_);refine wpS_of_wp ?_;obtain⟨Q,vN,hQ2⟩:=zyU (fun w'=>w'.cell? ⟨a4,0,none⟩=some (.int .i64 x)/\Chg (fun b=>b=a4) w w');refine zyw (Q:=Q) ?_ ?_;rotate_left 1
 ·intro e a' w' hq;obtain⟨rfl,h1,h2⟩:=hQ2 _ _ _ hq
  cases c₀
  simp_all [bodyPostS,results,results106,Exit.thenS]
 have HQ:=zh vN;clear vN hQ2 hu;refine Eq.mp (congrArg (fun t=>Code.wp prog _ Q ⟨t,[]⟩ w) (?e:(#[.pointer (some ⟨a2,0,none⟩),.pointer (some ⟨a5,0,none⟩),.pointer (some ⟨a4,0,none⟩),.iface 175 (.agg #[.int .i64 x]),undef,undef,.iface 175 (.agg #[.int .i64 x]),.iface 175 (.agg #[.int .i64 x]),.bool false,undef,undef,undef,undef,undef,undef,undef,undef,undef,undef,undef,undef,undef,undef,undef,undef,undef]:Array Value)=_)) ?_
 case e=>kernel_rfl
 go_upto_region 2 with fail;have HS:=zh (show ∀w',Below w.heap.size w w'->(fun w':World=>zv w' a2 0 (.pointer (some ⟨jb,0,none⟩))/\zv w' a5 0 (.int .i64 0)) w' from fun w' hb=>⟨zb hb h2,zb hb h5⟩);have iU:=zh (fun w' (hb:Below w.heap.size w w')=>zsy jb w' (zb hb hj));have hSS:zW (fun w':World=>zv w' a2 0 (.pointer (some ⟨jb,0,none⟩))/\zv w' a5 0 (.int .i64 0)) zU w.drew:=⟨HS.out _ zr.drew,trivial⟩
 refine wp_region_noPanic ?_;refine zG hSS 3 ?_;refine zT 0 hSS ?_;refine zT 2 hSS ?_;have had:Calls prog 105 [.pointer (some ⟨jb,0,none⟩)].toArray w.drew fun e w'=>∃v,e=.returned v/\(v=.int .i64 0/\w'=w.drew):=(iU.out _ zr.drew).mono fun e w' ⟨h1,h2⟩=>⟨_,h1,rfl,h2⟩
 refine zo 1 fun K hK=>?_;refine zkd (by rfl) (.func 105) [.tmp 9] _ (by rfl) 105 _ zKt (by rfl) _ (by rfl) _ had ?_;rintro v1 w1 ⟨rfl,rfl⟩;refine hK.out _ _ hSS ?_;clear hK K had;(try simp only[zQ]);refine zp 3 fun K hK=>?_;(try simp only[zA,zB,zC]);go_simp;refine hK.out _ _ hSS.1 ?_;clear hK K;(try simp only[zQ]);refine zd ?_;refine NoPanic.normal ?_;clear hSS HS iU;have ht:=fun w=>tAss x w;obtain⟨w1,hw1⟩:=zX (w.drew);have hb1:Below w.heap.size w w1:=hw1▸zr.drew;have g4:=zb hb1 h4;have gf:w1.frozen? ⟨a4,0,none⟩=false:=hw1▸hf;have hlt:a4<w1.heap.size:=World.block_lt_of_cell? w1 _ g4;have z4:=zkj g4 (.cells #[.int .i64 x] 175);have HB1:=zh hb1;rw[hw1];clear h2 h5 hj h4 hf hw1 hb1;go_wp2_with fail;have hch:=(Chg.refl (fun b=>b=a4) w1).setCell (p:=⟨a4,0,none⟩) (.inl rfl) (.int .i64 x)
 exact HQ.out _ _ rfl ⟨zkj (by simp[go_sem,g4]) _,(Chg.of_below HB1.out).trans (hch.alloc _)⟩
def AttP(W:World)(R:World->Prop)(X:Int->World->Prop)(e:Ending)(w':World):Prop :=
 (e=.returned (.int .i64 0)/\∃w1,R w1/\Chg (fun b=>W.heap.size<=b/\b<W.heap.size+3) w1 w')\/∃x,e=.returned (.int .i64 x)/\∃w1,X x w1/\Chg (fun b=>W.heap.size<=b/\b<W.heap.size+3) w1 w'
theorem zr2(jb:Nat)(f:FuncId)(fn:Func)(hf:IsFn prog f fn)(caps:Array Value)(W:World)(hj:W.heap[jb]?=some (.cells #[.slice none 0 0,.bool false] 132 (0,0)))(R:World->Prop)(X:Int->World->Prop)
  (hact:∀W1,Below W.heap.size W W1->W1.heap.size=W.heap.size+3->Calls prog f caps W1 fun e w'=>(∀b,(W.heap.size<=b\/b=jb)->b<W1.heap.size->w'.heap[b]?=W1.heap[b]?)/\(((∃u,e=.returned u)/\R w')\/∃x,e=zlz x/\X x w')) :
  Calls prog 74 #[.pointer (some ⟨jb,0,none⟩),.func (.func f) #[] caps] W (AttP W R X):=by
 have ym:∀(fn:Fn) (first cap:Array Value) (w:World),(Instr.makeFunc fn first cap).run prog w=.ok (.func fn first cap) w:=fun _ _ _ _=>rfl;have hnf:∀w:World,(binOp BinOp.eql 1 (.func (.func f) #[] caps) .nilFunc).run prog w=.ok (.bool false) w:=fun _=>by kernel_rfl
 have HJ:=zh hj;have hjl:=zkf hj;have HA:=zh hact;have hLE:=fun w' (hb:Below W.heap.size W w')=>zsy jb w' (zb hb (zc hj rfl));have iU:=zh hLE;clear hj hact hLE
 go_enter_defers func74,ntmps74
 go_wp2_with fail;refine(iU.out _ (zkb (zkb zr _) _)).mono ?_;rintro e w1 ⟨rfl,rfl⟩;go_wp2_with fail;rw[zkE hf,Oper.upon_enter];have k0:=zke (zke (heap_alloc_new W (.cells #[.pointer (some ⟨jb,0,none⟩)] 129)) (.cells #[.int .i64 0] 35)) (.cells #[.int .i64 0] 3);have k1:=zke (heap_alloc_new (W.alloc (.cells #[.pointer (some ⟨jb,0,none⟩)] 129)) (.cells #[.int .i64 0] 35)) (.cells #[.int .i64 0] 3);have k2:=heap_alloc_new ((W.alloc (.cells #[.pointer (some ⟨jb,0,none⟩)] 129)).alloc (.cells #[.int .i64 0] 35)) (.cells #[.int .i64 0] 3);have kj:=zke (zke (zke HJ.out (.cells #[.pointer (some ⟨jb,0,none⟩)] 129)) (.cells #[.int .i64 0] 35)) (.cells #[.int .i64 0] 3);have hb3:=zkb (zkb (zkb (zs W) (.cells #[.pointer (some ⟨jb,0,none⟩)] 129)) (.cells #[.int .i64 0] 35)) (.cells #[.int .i64 0] 3);simp only[World.size_alloc]at k1 k2
 obtain⟨w3,hw3⟩:=zX (((W.alloc (.cells #[.pointer (some ⟨jb,0,none⟩)] 129)).alloc (.cells #[.int .i64 0] 35)).alloc (.cells #[.int .i64 0] 3));have hz3:w3.heap.size=W.heap.size+3:=by rw[<-hw3];simp
 rw[hw3]at k0 k1 k2 kj hb3 ⊢;clear hw3;refine(HA.out w3 hb3 hz3).mono ?_;rintro e w2 ⟨hk,h⟩;have q0:=(hk _ (.inl zl) (by omega)).trans k0;have q1:=(hk _ (.inl (Nat.le_succ _)) (by omega)).trans k1;have q2:=(hk _ (.inl (by omega)) (by omega)).trans k2;have qj:=(hk _ (.inr rfl) (by omega)).trans kj;clear k0 k1 k2 kj hk hb3;rcases h with⟨⟨u,rfl⟩,hR⟩|⟨x,rfl,hX⟩
 ·have c1:w2.cell? ⟨W.heap.size+1,0,none⟩=some (.int .i64 0):=zc q1 rfl;have f1:∀o,w2.frozen? ⟨W.heap.size+1,o,none⟩=false:=fun _=>zf q1;have HRR:=zh hR;clear q0 q2 qj iU HA hR;go_wp2_with fail;refine leaves_cons (f:=106) (args := #[.pointer (some ⟨W.heap.size,0,none⟩),.pointer (some ⟨W.heap.size+1+1,0,none⟩),.pointer (some ⟨W.heap.size+1,0,none⟩)]) (by simp) (by simp[go_sem]) ?_;refine(zxD _ _ _ _).mono ?_;rintro e u' w'' ⟨rfl,rfl,rfl⟩;have hch:=(Chg.refl (fun b=>W.heap.size<=b/\b<W.heap.size+3) w2).setCell (p:=⟨W.heap.size+1,0,none⟩) (.inl ⟨Nat.le_succ _,by simp⟩) (.int .i64 0);have hc2:(w2.setCell ⟨W.heap.size+1,0,none⟩ (.int .i64 0)).cell? ⟨W.heap.size+1,0,none⟩=some (.int .i64 0):=by simp[go_sem,c1]
  have HP:AttP W R X (.returned (.int .i64 0)) (w2.setCell ⟨W.heap.size+1,0,none⟩ (.int .i64 0)):=.inl ⟨rfl,w2,HRR.out,hch⟩;simp[Leaves,settle,results,results74,go_sem,hc2,HP]
 ·have p0:w2.cell? ⟨W.heap.size,0,none⟩=some (.pointer (some ⟨jb,0,none⟩)):=zc q0 rfl;have p1:w2.cell? ⟨W.heap.size+1,0,none⟩=some (.int .i64 0):=zc q1 rfl;have p2:w2.cell? ⟨W.heap.size+1+1,0,none⟩=some (.int .i64 0):=zc q2 rfl;have pj:w2.cell? ⟨jb,0,none⟩=some (.slice none 0 0):=zc qj rfl;have f1:w2.frozen? ⟨W.heap.size+1,0,none⟩=false:=zf q1;refine leaves_cons (f:=106) (args := #[.pointer (some ⟨W.heap.size,0,none⟩),.pointer (some ⟨W.heap.size+1+1,0,none⟩),.pointer (some ⟨W.heap.size+1,0,none⟩)]) (by simp) (by simp[go_sem]) ?_;refine(zvE _ _ _ jb x 0 _ p0 p2 pj p1 f1).mono ?_;rintro e u' w'' ⟨rfl,rfl,hc2,hch⟩;have HP:AttP W R X (.returned (.int .i64 x)) w'':=.inr ⟨x,rfl,w2,hX,hch.mono fun b _ e=>by omega⟩;simp[Leaves,settle,results,results74,go_sem,hc2,HP]
theorem zub:∀(prs:List PR) (s:ByteArray),prcI prs s=idxP prs s
 | [],_=>rfl
 | q::qs,s=>by
  unfold prcI;rw[zub qs s];unfold idxP;rw[List.findIdx?_cons]
def CalB(prs:List PR)(t:T):Prop:=∀u∈po t,(u.k=50\/u.k=51)->∃i,prcI prs u.s=some i
theorem zy4:∀(t:T),isE t=true->∀x∈po t,isE x=true:=by
 intro t
 induction t using T.ind with
 | _ k n s ks ih =>
  intro h x hx;simp only[po,List.mem_cons]at hx;rcases hx with rfl|hx
  ·exact h
  ·obtain⟨t,ht,hx⟩:=zm0.1 hx;exact ih t ht (zp0 h t ht) x hx
theorem CalB.expr{prs:List PR}{t:T}(h:isE t=true):CalB prs t:=fun u hu hk=>by
 have:=zuR u (zy4 t h u hu);omega
theorem CalB.kid{prs:List PR}{k n:Int}{s:ByteArray}{ks:List T}(h:CalB prs (.nd k n s ks)){t:T}(ht:t∈ks):CalB prs t:=fun u hu=>h u (by simp only[po,List.mem_cons];exact .inr (zm0.2 ⟨t,ht,hu⟩))
theorem zoH{prs:List PR}{k:Int}{s:ByteArray}{vs:List VD}:∀ {ks:List T} {i:Nat},cntK prs k s i ks vs=0->∀t∈ks,∃vs',cntV prs t vs'=0
 | [],_,_,t,ht=>by cases ht
 | u::us,i,h,t,ht=>by
  rw[cntK]at h;obtain⟨h1,h2⟩:=Nat.add_eq_zero_iff.1 h;rcases List.mem_cons.1 ht with rfl|ht
  ·exact⟨_,h1⟩
  ·exact zoH h2 t ht
theorem zum{e:Int}(h:one1 e=0):e=0:=by
 unfold one1 at h
 split at h
 ·assumption
 ·omega
theorem zyo:∀(t:T) (prs:List PR) (vs:List VD),(isS t=true\/isB t=true\/isE t=true)->cntV prs t vs=0->CalB prs t:=by
 intro t
 induction t using T.ind with
 | _ k n s ks ih =>
  intro prs vs ht h;rcases ht with hs|hb|he
  ·rw[cntV]at h;intro u hu hk;simp only[po,List.mem_cons]at hu;by_cases hc:k=50\/k=51
   ·rcases hu with rfl|hu
    ·have h0:=zum (e:=zlm prs k s ks.length vs) (by omega);unfold zlm at h0;rw[if_neg (by omega),if_neg (by omega),if_neg (by omega),if_neg (by omega),if_pos hc]at h0;rw[zub]
     cases hi:idxP prs s with
     | none=>rw[hi]at h0;simp at h0
     | some i=>exact⟨i,hi⟩
    ·obtain⟨t,ht,hx⟩:=zm0.1 hu;have h57:t.k≠57:=by
      rcases znc hs with⟨_,h1⟩|⟨h1,_⟩|⟨h1,_⟩|⟨h1,_⟩
      ·exact h1 t ht
      all_goals omega
     rcases(zuM hs).2 t ht with h1|h1
     ·exact CalB.expr h1 u hx hk
     ·exact absurd (zy5 h1) h57
   ·rw[if_neg hc]at h;rcases hu with rfl|hu
    ·exact absurd hk hc
    ·obtain⟨t,ht,hx⟩:=zm0.1 hu;obtain⟨vs',hv⟩:=zoH (Nat.add_eq_zero_iff.1 h).2 t ht;rcases(zuM hs).2 t ht with h1|h1
     ·exact CalB.expr h1 u hx hk
     ·exact ih t ht prs vs' (.inr (.inl h1)) hv u hx hk
  ·obtain⟨h57,hks⟩:=zn0 _ _ _ _ hb;rw[cntV,if_neg (by omega)]at h;intro u hu hk;simp only[po,List.mem_cons]at hu;rcases hu with rfl|hu
   ·simp only[T.k_nd]at hk;omega
   ·obtain⟨t,ht,hx⟩:=zm0.1 hu;obtain⟨vs',hv⟩:=zoH (Nat.add_eq_zero_iff.1 h).2 t ht;exact ih t ht prs vs' (.inl (hks t ht)) hv u hx hk
  ·exact CalB.expr he
def GP(prs:List PR)(t:T):Prop:=isS t=true/\CalB prs t/\∀q∈prs,isB q.b=true/\CalB prs q.b
theorem GP.block{prs:List PR}{b:T}(hb:isB b=true)(hc:CalB prs b)(hq:∀q∈prs,isB q.b=true/\CalB prs q.b):∀u∈b.ks,GP prs u:=by
 obtain⟨k,n,s,ks⟩:=b;exact fun u hu=>⟨(zn0 _ _ _ _ hb).2 u hu,hc.kid hu,hq⟩
theorem zzW:GC GP where
 two:=fun prs t h hk=>by
  obtain⟨k,n,s,ks⟩:=t;obtain⟨hs,hc,hq⟩:=h;simp only[T.k_nd]at hk;rcases znc hs with⟨h1,_⟩|⟨_,_,a,b,c,d,rfl,_,hb1,hb2,_⟩|⟨h1,_⟩|⟨h1,_⟩
  ·omega
  ·exact⟨rfl,GP.block hb1 (hc.kid (t:=b) (by simp)) hq,GP.block hb2 (hc.kid (t:=c) (by simp)) hq⟩
  ·omega
  ·omega
 loc:=fun prs t h hk=>by
  obtain⟨k,n,s,ks⟩:=t;obtain⟨hs,hc,hq⟩:=h;simp only[T.k_nd]at hk;rcases znc hs with⟨h1,_⟩|⟨h1,_⟩|⟨_,_,a,b,c,rfl,_,hb1,_⟩|⟨h1,_⟩
  ·omega
  ·omega
  ·exact⟨rfl,GP.block hb1 (hc.kid (t:=b) (by simp)) hq⟩
  ·omega
 stk:=fun prs t h hk=>by
  obtain⟨k,n,s,ks⟩:=t;obtain⟨hs,hc,hq⟩:=h;simp only[T.k_nd]at hk;rcases znc hs with⟨h1,_⟩|⟨h1,_⟩|⟨h1,_⟩|⟨_,_,b,rfl,hb1⟩
  ·omega
  ·omega
  ·omega
  ·exact⟨rfl,GP.block hb1 (hc.kid (t:=b) (by simp)) hq⟩
 cal:=fun prs t h hk=>by
  obtain⟨hs,hc,hq⟩:=h;have hm:t∈po t:=by obtain⟨k,n,s,ks⟩:=t;simp[po]
  obtain⟨i,hi⟩:=hc t hm hk;obtain⟨-,hl⟩:=zpP _ _ _ hi;exact⟨i,prs[i],hi,List.getElem?_eq_getElem hl,GP.block (hq _ (List.getElem_mem hl)).1 (hq _ (List.getElem_mem hl)).2 hq⟩
theorem zqC{ps:List PR}:∀ {j:Nat},j<=ps.length->prcN ps j=0->∀i (h:i<ps.length),i<j->prcE ps i ps[i]=0
 | 0,_,_,i,_,hi=>by omega
 | j+1,hj,h,i,hl,hi=>by
  rw[zol (by omega)]at h;by_cases e:i=j
  ·subst e;omega
  ·exact zqC (j:=j) (by omega) (by omega) i hl (by omega)
theorem zqn{p:PG}(h:zkH p=true):isB p.m=true/\∀r∈p.prs,isB r.b=true:=by
 simp only[zkH,Bool.and_eq_true,decide_eq_true_eq,List.all_eq_true]at h;refine⟨?_,fun r hr=>?_⟩
 ·have:=h.2;simp only[zkY,Bool.and_eq_true]at this;exact this.2
 ·have:=h.1.2 r hr;simp only[zok,zkY,Bool.and_eq_true]at this;exact this.2.2
theorem zr0{p:PG}(hv:zkH p=true)(hc:chkN p=0):∀u∈p.m.ks,GP p.prs u:=by
 obtain⟨h1,h2⟩:=zqn hv;unfold chkN at hc;refine GP.block h1 (zyo _ _ p.vs (.inr (.inl h1)) (by omega)) fun q hq=>⟨h2 q hq,?_⟩
 obtain⟨i,hi,rfl⟩:=List.getElem_of_mem hq;have:=zqC zl (show prcN p.prs p.prs.length=0 by omega) i hi hi;unfold prcE at this;exact zyo _ _ _ (.inr (.inl (h2 _ hq))) (show cntV p.prs p.prs[i].b p.prs[i].ps=0 by omega)
theorem zKo(M a b r s g:Nat)(h1:a<=b)(h2:s<=r)(hg:b*M+r<=g):a*M+s<=g:=by have:=Nat.mul_le_mul_right M h1;omega
theorem zsg{p:PG}{F:Int}{g:Nat}(hv:zkH p=true)(hg:F.toNat*2000+2000<=g)(back:Bool)(S:ST)(e:List Nat):Good 0 (runO p.prs F g back p.m ⟨S,0,e⟩):=by
 obtain⟨_,_,h3,_,h5⟩:=zlY hv;refine zlK _ _ fun u hu r hr=>zmd (M:=2000) (fun q hq=>(h3 q hq).2.2) (by omega) g back u r ?_;have h6:=zpV (zlI hu);exact zKo 2000 (F.toNat-r.n) F.toNat 2000 _ g (by omega) (by omega) hg
def Nz(o:Out):Prop:=o ≠ .err 0
theorem Nz.bind{o:Out}{f:RS->Out}(h:Nz o)(hf:∀r,Nz (f r)):Nz (o.bind f):=by
 cases o with
 | gas=>exact fun e=>by cases e
 | err x=>exact h
 | ok r=>exact hf r
theorem Nz.ok(r:RS):Nz (.ok r):=fun e=>by cases e
theorem Nz.gas:Nz .gas:=fun e=>by cases e
theorem Nz.step(F:Int)(r:RS):Nz (zkz F r):=by
 unfold zkz
 split
 ·intro e;injection e with e;omega
 ·exact Nz.ok _
theorem Nz.store(r:RS)(R:Int×ST):Nz (zkm r R):=by
 unfold zkm
 split
 ·rename_i h;intro e;injection e with e;exact h e
 ·exact Nz.ok _
theorem Nz.val{t:T}{r:RS}{f:Int->RS->Out}(hf:∀x,Nz (f x r)):Nz (valO t r f):=by
 unfold valO
 split
 ·rename_i h;intro e;injection e with e;exact h e
 ·exact hf _
theorem Nz.holds{F:Int}{t:T}{r:RS}{f:Bool->RS->Out}(hf:∀b r,Nz (f b r)):Nz (zk8 F t r f):=(Nz.step F r).bind fun r=>Nz.val fun x=>hf _ _
theorem Nz.assert(F:Int)(t:T)(b:Bool)(r:RS):Nz (zkq F t b r):=Nz.holds fun b' r=>by
 split
 ·exact Nz.ok _
 ·intro e;injection e with e;omega
theorem Nz.body{f:T->RS->Out}:∀(l:List T) (r:RS),(∀t∈l,∀r,Nz (f t r))->Nz (zk1 f l r)
 | [],r,_=>Nz.ok r
 | t::ts,r,h=>(h t (List.mem_cons_self ..) r).bind fun r=>Nz.body ts r fun u hu=>h u (List.mem_cons_of_mem _ hu)
theorem Nz.loop{F:Int}{f:T->RS->Out}{entry test:T}{l1 l2:List T}(h1:∀t∈l1,∀r,Nz (f t r))(h2:∀t∈l2,∀r,Nz (f t r)):∀(m:Nat) (r:RS),Nz (zlV F f entry test l1 l2 m r)
 | 0,_=>Nz.gas
 | m+1,r=>by
  rw[zlV];refine(Nz.body l1 r h1).bind fun r=>Nz.holds fun b r=>?_
  split
  ·exact Nz.ok _
  ·exact(Nz.body l2 r h2).bind fun r=>(Nz.assert F entry false r).bind fun r=>Nz.loop h1 h2 m r
theorem zn3{G:List PR->T->Prop}(hG:GC G){prs:List PR}{F:Int}:∀(g:Nat) (back:Bool) (t:T) (r:RS),G prs t->Nz (zku prs F g back t r)
 | 0,_,_,_,_=>Nz.gas
 | g+1,back,t,r,h=>by
  have hb:∀back (b:T) r,(∀u∈b.ks,G prs u)->Nz (zk1 (zku prs F g back) (blkL back b) r):=fun back b r hu=>Nz.body _ r fun u hm r=>zn3 hG g back u r (hu u (zlI hm));rw[zku]
  split
  ·rename_i hk;obtain⟨-,h1,h2⟩:=hG.two _ _ h (.inl hk);refine Nz.holds fun yes r=>Nz.bind ?_ fun r=>Nz.assert _ _ _ _
   split
   ·exact hb _ _ _ h1
   ·exact hb _ _ _ h2
  ·split
   ·rename_i hk;obtain⟨-,h1,h2⟩:=hG.two _ _ h (.inr hk);exact(Nz.assert _ _ _ _).bind fun r=>Nz.loop (fun u hm r=>zn3 hG g back u r (h1 u (zlI hm))) (fun u hm r=>zn3 hG g back u r (h2 u (zlI hm))) g r
   ·split
    ·rename_i hk;obtain⟨-,h1⟩:=hG.loc _ _ h hk;exact(Nz.step _ _).bind fun r=>Nz.val fun x=>(Nz.store _ _).bind fun r=>(hb _ _ _ h1).bind fun r=>(Nz.step _ _).bind fun r=>Nz.val fun x=>Nz.store _ _
    ·split
     ·rename_i hk;obtain⟨-,h1⟩:=hG.stk _ _ h hk;exact(Nz.step _ _).bind fun r=>(Nz.store _ _).bind fun r=>(hb _ _ _ h1).bind fun r=>(Nz.step _ _).bind fun r=>Nz.store _ _
     ·split
      ·rename_i hk;obtain⟨i,q,hi,hq,h1⟩:=hG.cal _ _ h hk;rw[hi];dsimp only;rw[getD_some hq];exact(Nz.step _ _).bind fun r=>(Nz.store _ _).bind fun r=>(hb _ _ _ h1).bind fun r=>(Nz.step _ _).bind fun r=>Nz.store _ _
      ·exact(Nz.step _ _).bind fun r=>Nz.store _ _
theorem ztY{G:List PR->T->Prop}(hG:GC G){prs:List PR}{F:Int}{g:Nat}{back:Bool}{b:T}{r:RS}(h:∀u∈b.ks,G prs u):Nz (runO prs F g back b r):=Nz.body _ r fun u hm r=>zn3 hG g back u r (h u (zlI hm))
theorem RI.chgK{C:RC}{lo hi:Nat}{W W':World}{r:RS}(hC:(C.plus lo hi).Ok)(h:RI (C.plus lo hi) W r)(hc:Chg (fun b=>lo<=b/\b<hi) W W')(hlo:C.w.heap.size<=lo):RI (C.plus lo hi) W' r:=by
 have hkb:∀b,lo<=b/\b<hi->(C.plus lo hi).kb b:=fun b hb=>.inr hb;refine⟨h.ks.chg hc fun b _ hb=>⟨Nat.le_trans hlo hb.1,.inr (.inl (hkb b hb))⟩,hc.keep h.box fun hb=>hC.rb.2 (hkb _ hb),zon h.ent fun b hb=>?_,h.el,h.en,h.n,h.fb⟩;exact hc.block b (h.ent.lt b hb).2 fun hb'=>hC.ev.2 b hb (hkb _ hb')
def Fam(p:PG):Prop:=∃G:List PR->T->Prop,(∀g,IStC G g)/\(zkH p=true->chkN p=0->(∀u∈p.m.ks,G p.prs u)/\∀(F:Int) (g:Nat) (back:Bool) (r:RS),Nz (runO p.prs F g back p.m r))
theorem zzl(p:PG):Fam p:=⟨GP,zsd zzW,fun hv hc=>⟨zr0 hv hc,fun _ _ _ _=>ztY zzW (zr0 hv hc)⟩⟩
theorem zsV{G:List PR->T->Prop}(hS:∀g,IStC G g){C:RC}(hC:C.Ok){W:World}{r:RS}(h:RI C W r)(hG:∀u∈C.p.m.ks,G C.p.prs u)(g:Nat)(back:Bool)(hg:runO C.p.prs C.F g back C.p.m r ≠ .gas)(pb qb bb:Nat)
  (h0:W.cell? ⟨pb,0,none⟩=some (.pointer (some ⟨C.rb,0,none⟩)))(hq:W.heap[qb]?=some (.cells #[.slice C.A1 C.p.vs.length C.c1,.slice C.A2 C.p.prs.length C.c2,.int .u8 C.p.m.k,.int .i64 C.p.m.n,.string C.p.m.s,.slice C.A3 C.p.m.ks.length C.c3] 30 (0,0)))(hb:W.cell? ⟨bb,0,none⟩=some (.bool back)) :
  Calls prog 75 #[.pointer (some ⟨pb,0,none⟩),.pointer (some ⟨qb,0,none⟩),.pointer (some ⟨bb,0,none⟩)] W (RunP C W (runO C.p.prs C.F g back C.p.m r)):=by
 have ax:=zh (zlf (hS g) hC h C.p.m _ back hC.pg.main hG hg);have q2:W.cell? ⟨qb,2,none⟩=some (.int .u8 C.p.m.k):=zc hq rfl;have q3:W.cell? ⟨qb,3,none⟩=some (.int .i64 C.p.m.n):=zc hq rfl;have q4:W.cell? ⟨qb,4,none⟩=some (.string C.p.m.s):=zc hq rfl;have q5:W.cell? ⟨qb,5,none⟩=some (.slice C.A3 C.p.m.ks.length C.c3):=zc hq rfl;obtain⟨o,ho⟩:=zX (runO C.p.prs C.F g back C.p.m r);rw[ho]at ax hg ⊢;clear hC h hG hq ho;go_enter func75,ntmps75;go_wp2_with fail;refine ax.out.mono ?_;rintro e w1 ⟨hk1,hb1,ho1⟩
 cases o with
 | gas=>exact absurd rfl hg
 | err x =>
  subst ho1;exact⟨rfl,hk1,hb1,rfl⟩
 | ok r1 =>
  obtain⟨⟨u,rfl⟩,hr1⟩:=ho1;have HR:=zh hr1;have aA:=zh hk1;have HB1:=zh hb1;clear h0 q2 q3 q4 q5 hb hr1 hk1 hb1;go_wp2_with fail;go_end0;exact⟨aA.out,HB1.out,⟨_,rfl⟩,HR.out⟩
def outR(s:SS):Out->SS×Nat×Int×List Nat
 | .ok r=>(r.S.state,r.n,0,r.ent)
 | .err e=>(s,0,e,[])
 | .gas=>(s,0,0,[])
def resO(p:PG)(s:SS)(F:Int)(g:Nat)(back:Bool):SS×Nat×Int×List Nat :=
 if zkH p=false\/chkN p≠0 then(s,0,3,[])else if fitB p.vs s=false then(s,0,20,[])else outR s (runO p.prs F g back p.m ⟨newS p.vs s,0,List.replicate p.prs.length 0⟩)
def LimR(R:SS×Nat×Int×List Nat):Prop:=R.1.Lim/\(R.2.2.1=0->R.1.cells.length<=1000+R.2.1/\(∀l∈R.1.cells,l.length<=1000)/\R.1.tin.length<=4096/\R.1.tout.length<=4096)
theorem LimR.run{r:RS}(h:r.S.WF)(hf:FB r.n r.S)(e:List Nat):LimR (r.S.state,r.n,0,e):=by
 obtain⟨-,h1,h2⟩:=ztU h;obtain⟨kd,hb,-⟩:=h.ex;refine⟨h1,fun _=>⟨?_,h2,h.tin.1,h.tout.1⟩⟩;have:=hb.len;have:=hf.1;simp only[ST.state,List.length_map,List.length_take];omega
def ResP(W:World)(R:SS×Nat×Int×List Nat)(e:Ending)(W':World):Prop:=∃A c v1 v2 v3,e=.returned (.tuple #[.slice A R.2.2.2.length c,.agg #[v1,v2,v3,.int .i64 (R.2.1:Int),.int .i64 R.2.2.1]]) /\
 OwnS W' W.heap.size R.1 (.agg #[v1,v2,v3])/\RowI W' (fun b=>W.heap.size<=b) A (R.2.2.2.map Int.ofNat)/\R.2.2.2.length<=c/\Below W.heap.size W W'/\LimR R
theorem OwnS.slices{W:World}{n0:Nat}{s:SS}{v:Value}(h:OwnS W n0 s v):∃A c B d D e,v=.agg #[.slice A s.cells.length c,.slice B s.tin.length d,.slice D s.tout.length e]:=by
 obtain⟨vc,vi,vo,fc,rfl,hr,-⟩:=h;obtain⟨A,c,e1,-⟩:=zkh (hr.row .all);obtain⟨B,d,e2,-⟩:=zkh (hr.row .inp);obtain⟨D,e,e3,-⟩:=zkh (hr.row .out);change vc=.slice A s.cells.length c at e1;change vi=.slice B s.tin.length d at e2;change vo=.slice D s.tout.length e at e3;exact⟨A,c,B,d,D,e,by rw[e1,e2,e3]⟩
theorem OwnS.chg{W W':World}{n0:Nat}{s:SS}{v:Value}{Cc:Nat->Prop}(h:OwnS W n0 s v)(hc:Chg Cc W W')(hC:∀b,Cc b->b<n0):OwnS W' n0 s v:=by
 obtain⟨vc,vi,vo,fc,rfl,hr,hi⟩:=h;exact⟨vc,vi,vo,fc,rfl,hr.chg hc fun i b hb hcb=>by have:=(hr.lt i b hb).1;have:=hC b hcb;omega,hi⟩
theorem OwnS.lower{W:World}{n0 n1:Nat}{s:SS}{v:Value}(h:OwnS W n1 s v)(hn:n0<=n1):OwnS W n0 s v:=by
 obtain⟨vc,vi,vo,fc,rfl,hr,hi⟩:=h;exact⟨vc,vi,vo,fc,rfl,hr.mono hn,hi⟩
theorem set5{W:World}{b:Nat}{x0 x1 x2 x3 x4 u0 u1 u2 u3 u4:Value}{E:TypeId}(h:W.heap[b]?=some (.cells #[x0,x1,x2,x3,x4] E (0,0))) :
  (((((W.setCell ⟨b,0,none⟩ u0).setCell ⟨b,1,none⟩ u1).setCell ⟨b,2,none⟩ u2).setCell ⟨b,3,none⟩ u3).setCell ⟨b,4,none⟩ u4).heap[b]?=some (.cells #[u0,u1,u2,u3,u4] E (0,0)) /\
   Chg (fun q=>q=b) W (((((W.setCell ⟨b,0,none⟩ u0).setCell ⟨b,1,none⟩ u1).setCell ⟨b,2,none⟩ u2).setCell ⟨b,3,none⟩ u3).setCell ⟨b,4,none⟩ u4):=by
 refine⟨?_,(((((Chg.refl (fun q=>q=b) W).setCell (p:=⟨b,0,none⟩) (.inl rfl) _).setCell (p:=⟨b,1,none⟩) (.inl rfl) _).setCell (p:=⟨b,2,none⟩) (.inl rfl) _).setCell (p:=⟨b,3,none⟩) (.inl rfl) _).setCell (p:=⟨b,4,none⟩) (.inl rfl) _⟩;rw[heap_setCell_same _ b 4 _ _ u4 (heap_setCell_same _ b 3 _ _ u3 (heap_setCell_same _ b 2 _ _ u2 (heap_setCell_same _ b 1 _ _ u1 (heap_setCell_same W b 0 _ _ u0 h))))];simp
theorem bRes(A B D:Option Addr)(l c m d n e:Nat)(x:Int)(w:World):(Instr.build 58 #[(0,.agg #[.slice A l c,.slice B m d,.slice D n e]),(2,.int .i64 x)]).run prog w=.ok (.agg #[.slice A l c,.slice B m d,.slice D n e,.int .i64 0,.int .i64 x]) w:=by kernel_rfl
theorem zLk(A B D:Option Addr)(l c m d n e:Nat)(x:Int)(w:World):(Instr.build 58 #[(0,.agg #[.slice A l c,.slice B m d,.slice D n e]),(1,.int .i64 x)]).run prog w=.ok (.agg #[.slice A l c,.slice B m d,.slice D n e,.int .i64 x,.int .i64 0]) w:=by kernel_rfl
theorem zuu(n:Nat):madeCells (Value.int .i64 0).cells (n*1)=(zki (List.replicate n 0)).toArray:=by
 apply Array.ext';apply List.ext_getElem
 ·rw[Array.length_toList,size_madeCells];simp[zki]
 ·intro i h1 h2;have e:i % 1=0:=by omega
  simp[madeCells,zki,Value.cells,e]
theorem zLl(n:Nat)(hn:n<=4096)(w:World):(Instr.makeSlice 42 (.int .i64 (n:Int)) (.int .i64 (n:Int))).run prog w=.ok (.slice (some ⟨w.heap.size,0,none⟩) n n) (w.alloc (.cells (zki (List.replicate n 0)).toArray 3)):=by
 have h:=znD;obtain⟨i,hi,hz⟩:=Option.map_eq_some_iff.1 h;injection hz with h1 h2;injection h2 with h2 h3;have hsc:(4096:Nat)<=9223372036854775807:=by decide
 have:=zk6 (P:=prog) 42 3 i (.int .i64 0) underlying42 hi h1 .i64 .i64 n n zl (by rw[h3];omega) (Nat.le_trans hn hsc) w;rw[h2,zuu]at this;exact this
theorem bRun(A1 A2 A3 E:Option Addr)(l1 c1 l2 c2 l3 c3 m d:Nat)(k n F:Int)(s:ByteArray)(sb:Nat)(w:World):(Instr.build 127 #[(0,pv A1 l1 c1 A2 l2 c2 k n s A3 l3 c3),(1,.pointer (some ⟨sb,0,none⟩)),(3,.int .i64 F),(4,.slice E m d)]).run prog w =
  .ok (.agg #[.slice A1 l1 c1,.slice A2 l2 c2,.int .u8 k,.int .i64 n,.string s,.slice A3 l3 c3,.pointer (some ⟨sb,0,none⟩),.int .i64 0,.int .i64 F,.slice E m d]) w:=by kernel_rfl
theorem zvC{W:World}{a b:Nat}{x y:Array Value}{E F:TypeId}(ha:W.heap[a]?=some (.cells x E (0,0)))(hb:W.heap[b]?=some (.cells y F (0,0)))(hne:E≠F):a≠b:=by
 rintro rfl;rw[ha]at hb;injection hb with hb;injection hb with h1 h2;exact hne h2
theorem zq6{W w4 w8 aS:World}{n0:Nat}{kb:Nat->Prop}(h4:Below W.heap.size W w4)(h11:Below W.heap.size W aS)(h48:Below w4.heap.size w4 w8)(hk:Kpt n0 kb w8 aS)(hn:w4.heap.size<=n0):Below w4.heap.size w4 aS :=
 ⟨h11.os.trans h4.os.symm,h11.tape.trans h4.tape.symm,h11.output.trans h4.output.symm,Nat.le_trans h48.size hk.size,fun b hb=>(hk.kept b (Nat.lt_of_lt_of_le hb h48.size) (.inl (Nat.lt_of_lt_of_le hb hn))).trans (h48.block b hb)⟩
theorem zxa:IsFn prog 75 f75:=⟨func75,by kernel_rfl,by kernel_rfl⟩
theorem zw9:IsFn prog 77 f77:=⟨func77,by kernel_rfl,by kernel_rfl⟩
def OkR(C:RC)(lo hi:Nat)(o:Out)(w9 w':World):Prop:=∃r,o=.ok r/\(C.plus lo hi).Ok/\RI (C.plus lo hi) w' r/\Kpt C.n0 C.kb w9 w'
def ErX(C:RC)(o:Out)(w9:World)(x:Int)(w':World):Prop:=o=.err x/\Kpt C.n0 C.kb w9 w'/\Below C.w.heap.size C.w w'
theorem zrS{G:List PR->T->Prop}(hS:∀g,IStC G g){C:RC}{w8 w9:World}{r:RS}{jb:Nat}(hC8:C.Ok)(h8:RI C w8 r)(dC:w8.alloc (.cells #[.slice none 0 0,.bool false] 132)=w9)(hjb:w8.heap.size=jb)(hG:∀u∈C.p.m.ks,G C.p.prs u)(g:Nat)(back:Bool)(o:Out)(ho:runO C.p.prs C.F g back C.p.m r=o)(hg:o ≠ .gas)(pb qb bb:Nat)
  (h0:w8.cell? ⟨pb,0,none⟩=some (.pointer (some ⟨C.rb,0,none⟩)))(hq:w8.heap[qb]?=some (.cells #[.slice C.A1 C.p.vs.length C.c1,.slice C.A2 C.p.prs.length C.c2,.int .u8 C.p.m.k,.int .i64 C.p.m.n,.string C.p.m.s,.slice C.A3 C.p.m.ks.length C.c3] 30 (0,0)))(hb:w8.cell? ⟨bb,0,none⟩=some (.bool back)) :
  Calls prog 74 #[.pointer (some ⟨jb,0,none⟩),.func (.func 75) #[] #[.pointer (some ⟨pb,0,none⟩),.pointer (some ⟨qb,0,none⟩),.pointer (some ⟨bb,0,none⟩)]] w9 (AttP w9 (OkR (C.plus jb w9.heap.size) w9.heap.size (w9.heap.size+3) o w9) (ErX (C.plus jb w9.heap.size) o w9)):=by
 have hbj:=zkb (zs w8) (.cells #[.slice none 0 0,.bool false] 132);have kj:=heap_alloc_new w8 (.cells #[.slice none 0 0,.bool false] 132);obtain⟨hC9,h9⟩:=h8.plus hC8 hbj;rw[dC,hjb]at kj hC9 h9;rw[dC]at hbj;have hjl:=zkf kj;refine zr2 jb _ _ zxa _ w9 kj _ _ fun W1 hb1 hz1=>?_;obtain⟨bB,h1⟩:=h9.plus hC9 hb1;have hbt:=zka hbj hb1;have hrun:=zsV hS bB h1 hG g back (show runO C.p.prs C.F g back C.p.m r ≠ .gas by rw[ho];exact hg) pb qb bb (zb hbt h0) (zkc hq hbt) (zb hbt hb);refine hrun.mono ?_;rintro e w' ⟨hk,hbl,hout⟩;rw[show runO ((C.plus jb w9.heap.size).plus w9.heap.size W1.heap.size).p.prs ((C.plus jb w9.heap.size).plus w9.heap.size W1.heap.size).F g back ((C.plus jb w9.heap.size).plus w9.heap.size W1.heap.size).p.m r=o from ho]at hout;refine⟨fun b hb hlt=>hk.kept b hlt (.inr ?_),?_⟩
 ·rcases hb with hb|rfl
  ·exact .inr ⟨hb,hlt⟩
  ·exact .inl (.inr ⟨zl,hjl⟩)
 ·have hkk:Kpt C.n0 (C.plus jb w9.heap.size).kb w9 w':=(Kpt.of_below hb1).trans (Kpt.less (C:=C.plus jb w9.heap.size) hk)
  cases o with
  | gas=>exact absurd rfl hg
  | err x=>exact .inr ⟨x,hout,rfl,hkk,hbl⟩
  | ok r1 =>
   rw[hz1]at bB hout;exact .inl ⟨hout.1,r1,rfl,bB,hout.2,hkk⟩
theorem ztV(p:PG)(s:SS)(F:Int)(g:Nat)(back:Bool)(v sv:Value)(W:World)(hp:PV W Any p v)(hs:SV W Any s sv)(hcl:s.cells.length<=5864062014800)(hF:I64 F)(qy:F<=1000000)(hg:F.toNat*2000+2000<=g)(hfam:Fam p) :
  Calls prog 42 #[v,sv,.int .i64 F,.bool back] W (ResP W (resO p s F g back)):=by
 have HFAM:=zh hfam;clear hfam;have HP:=zh hp;have HS:=zh hs;obtain⟨A1,c1,A2,c2,A3,c3,rfl,ji⟩:=hp;obtain⟨A,c,B,d,D,e,rfl,hr1,hr2,hr3,hc1,hc2,hc3,hl1,hl2,hl3,hl4⟩:=hs;have xI:=zh ji;have oz:=zh (show s.Lim from⟨hl1,hl2,hl3,hl4⟩);have HV:=zh (fun w' (hb:Below W.heap.size W w')=>zlA p Any _ w' (HP.out.later hb));have bK:=zh (fun w' (hb:Below W.heap.size W w')=>zlL p Any _ w' (HP.out.later hb));have dL:=zh (fun w' (hb:Below W.heap.size W w')=>zqi s _ w' (HS.out.later hb) hcl);have vY:=zh (fun w' (hb:Below W.heap.size W w')=>zzV p.vs s A1 c1 _ w' (ji.vars.later hb) ji.lv (HS.out.later hb));obtain⟨Re,hRe⟩:=zX (resO p s F g back);have gH:=zh hRe;rw[hRe]
 have hb4:=zkb (zkb (zkb (zkb (zs W) (.cells #[.slice A1 p.vs.length c1,.slice A2 p.prs.length c2,.int .u8 p.m.k,.int .i64 p.m.n,.string p.m.s,.slice A3 p.m.ks.length c3] 30)) (.cells #[.slice A s.cells.length c,.slice B s.tin.length d,.slice D s.tout.length e] 44)) (.cells #[.bool back] 4)) (.cells #[.slice none 0 0,.slice none 0 0,.slice none 0 0,.int .i64 0,.int .i64 0] 58);have k0:=zke (zke (zke (heap_alloc_new W (.cells #[.slice A1 p.vs.length c1,.slice A2 p.prs.length c2,.int .u8 p.m.k,.int .i64 p.m.n,.string p.m.s,.slice A3 p.m.ks.length c3] 30)) (.cells #[.slice A s.cells.length c,.slice B s.tin.length d,.slice D s.tout.length e] 44)) (.cells #[.bool back] 4)) (.cells #[.slice none 0 0,.slice none 0 0,.slice none 0 0,.int .i64 0,.int .i64 0] 58)
 have k1:=zke (zke (heap_alloc_new (W.alloc (.cells #[.slice A1 p.vs.length c1,.slice A2 p.prs.length c2,.int .u8 p.m.k,.int .i64 p.m.n,.string p.m.s,.slice A3 p.m.ks.length c3] 30)) (.cells #[.slice A s.cells.length c,.slice B s.tin.length d,.slice D s.tout.length e] 44)) (.cells #[.bool back] 4)) (.cells #[.slice none 0 0,.slice none 0 0,.slice none 0 0,.int .i64 0,.int .i64 0] 58);have k2:=zke (heap_alloc_new ((W.alloc (.cells #[.slice A1 p.vs.length c1,.slice A2 p.prs.length c2,.int .u8 p.m.k,.int .i64 p.m.n,.string p.m.s,.slice A3 p.m.ks.length c3] 30)).alloc (.cells #[.slice A s.cells.length c,.slice B s.tin.length d,.slice D s.tout.length e] 44)) (.cells #[.bool back] 4)) (.cells #[.slice none 0 0,.slice none 0 0,.slice none 0 0,.int .i64 0,.int .i64 0] 58)
 have k3:=heap_alloc_new (((W.alloc (.cells #[.slice A1 p.vs.length c1,.slice A2 p.prs.length c2,.int .u8 p.m.k,.int .i64 p.m.n,.string p.m.s,.slice A3 p.m.ks.length c3] 30)).alloc (.cells #[.slice A s.cells.length c,.slice B s.tin.length d,.slice D s.tout.length e] 44)).alloc (.cells #[.bool back] 4)) (.cells #[.slice none 0 0,.slice none 0 0,.slice none 0 0,.int .i64 0,.int .i64 0] 58);simp only[World.size_alloc]at k1 k2 k3;have lY:((((W.alloc (.cells #[.slice A1 p.vs.length c1,.slice A2 p.prs.length c2,.int .u8 p.m.k,.int .i64 p.m.n,.string p.m.s,.slice A3 p.m.ks.length c3] 30)).alloc (.cells #[.slice A s.cells.length c,.slice B s.tin.length d,.slice D s.tout.length e] 44)).alloc (.cells #[.bool back] 4)).alloc (.cells #[.slice none 0 0,.slice none 0 0,.slice none 0 0,.int .i64 0,.int .i64 0] 58)).heap.size=W.heap.size+4:=by simp
 obtain⟨w4,hw4⟩:=zX (((((W.alloc (.cells #[.slice A1 p.vs.length c1,.slice A2 p.prs.length c2,.int .u8 p.m.k,.int .i64 p.m.n,.string p.m.s,.slice A3 p.m.ks.length c3] 30)).alloc (.cells #[.slice A s.cells.length c,.slice B s.tin.length d,.slice D s.tout.length e] 44)).alloc (.cells #[.bool back] 4)).alloc (.cells #[.slice none 0 0,.slice none 0 0,.slice none 0 0,.int .i64 0,.int .i64 0] 58)));rw[hw4]at hb4 k0 k1 k2 k3 lY;have ay:=zh hb4;have aF:=zh k0;have aA:=zh k1;have aP:=zh k2;have fB:=zh k3;have qC:=zh lY;have p0:w4.cell? ⟨W.heap.size,0,none⟩=some (.slice A1 p.vs.length c1):=zc k0 rfl;have p1:w4.cell? ⟨W.heap.size,1,none⟩=some (.slice A2 p.prs.length c2):=zc k0 rfl;have p2:w4.cell? ⟨W.heap.size,2,none⟩=some (.int .u8 p.m.k):=zc k0 rfl;have p3:w4.cell? ⟨W.heap.size,3,none⟩=some (.int .i64 p.m.n):=zc k0 rfl;have p4:w4.cell? ⟨W.heap.size,4,none⟩=some (.string p.m.s):=zc k0 rfl
 have p5:w4.cell? ⟨W.heap.size,5,none⟩=some (.slice A3 p.m.ks.length c3):=zc k0 rfl;obtain⟨vb,hvb⟩:=zX (zkH p);have bg:=zh hvb;rw[hvb]at HV bK;clear ji hr1 hr2 hr3 hRe hvb hb4 k0 k1 k2 k3 lY hl1 hl2 hl3 hl4 hc1 hc2 hc3;go_enter func42,ntmps42;go_wp2_with fail;refine(HV.out w4 ay.out).mono ?_;rintro e5 w5 ⟨rfl,b5⟩;clear hw4
 cases vb
 ·have HX:=zh (show Re=(s,0,3,[]) by rw[<-gH.out,resO,if_pos (.inl bg.out)]);clear p0 p1 p2 p3 p4 p5;have dN:=zkc aA.out b5;have jr:=zkc fB.out b5;have s0:w5.cell? ⟨W.heap.size+1,0,none⟩=some (.slice A s.cells.length c):=zc dN rfl;have s1:w5.cell? ⟨W.heap.size+1,1,none⟩=some (.slice B s.tin.length d):=zc dN rfl;have s2:w5.cell? ⟨W.heap.size+1,2,none⟩=some (.slice D s.tout.length e):=zc dN rfl;have aH:=zh (dL.out w5 (zka ay.out b5));have cZ:=zh jr;have hbq:=b5;clear dN jr;go_wp2_with fail;refine aH.out.mono ?_;rintro e9 w9 ⟨v9,rfl,dD,aM⟩;obtain⟨A9,c9,B9,d9,D9,e9,rfl⟩:=dD.slices;have fH:=zh dD;have bz:=zh (zka hbq aM);have aL:=zkc cZ.out aM;have x0:w9.cell? ⟨W.heap.size+3,0,none⟩=some (.slice none 0 0):=zc aL rfl;have x1:w9.cell? ⟨W.heap.size+3,1,none⟩=some (.slice none 0 0):=zc aL rfl
  have x2:w9.cell? ⟨W.heap.size+3,2,none⟩=some (.slice none 0 0):=zc aL rfl;have x3:w9.cell? ⟨W.heap.size+3,3,none⟩=some (.int .i64 0):=zc aL rfl;have x4:w9.cell? ⟨W.heap.size+3,4,none⟩=some (.int .i64 0):=zc aL rfl;have xf:∀o,w9.frozen? ⟨W.heap.size+3,o,none⟩=false:=fun _=>zf aL;have jI:=zh aL;have hbr:=bRes;have rC:W.heap.size+4<=w5.heap.size:=by have:=hbq.size;rw[qC.out]at this;exact this
  clear s0 s1 s2 aL dD aM hbq aH;go_wp2_with fail;obtain⟨hh,hch⟩:=set5 (u0:=.slice A9 s.cells.length c9) (u1:=.slice B9 s.tin.length d9) (u2:=.slice D9 s.tout.length e9) (u3:=.int .i64 0) (u4:=.int .i64 3) jI.out;obtain⟨aT,fP⟩:=zX ((((((w9.setCell ⟨W.heap.size+3,0,none⟩ (.slice A9 s.cells.length c9)).setCell ⟨W.heap.size+3,1,none⟩ (.slice B9 s.tin.length d9)).setCell ⟨W.heap.size+3,2,none⟩ (.slice D9 s.tout.length e9)).setCell ⟨W.heap.size+3,3,none⟩ (.int .i64 0)).setCell ⟨W.heap.size+3,4,none⟩ (.int .i64 3)));rw[fP]at hh hch ⊢;have t0:aT.cell? ⟨W.heap.size+3,0,none⟩=some (.slice A9 s.cells.length c9):=zc hh rfl;have t1:aT.cell? ⟨W.heap.size+3,1,none⟩=some (.slice B9 s.tin.length d9):=zc hh rfl;have t2:aT.cell? ⟨W.heap.size+3,2,none⟩=some (.slice D9 s.tout.length e9):=zc hh rfl;have t3:aT.cell? ⟨W.heap.size+3,3,none⟩=some (.int .i64 0):=zc hh rfl
  have t4:aT.cell? ⟨W.heap.size+3,4,none⟩=some (.int .i64 3):=zc hh rfl;refine bodyPost_ret (v:=.tuple #[.slice none 0 0,.agg #[.slice A9 s.cells.length c9,.slice B9 s.tin.length d9,.slice D9 s.tout.length e9,.int .i64 0,.int .i64 3]]) (by simp[results,results42,go_sem,t0,t1,t2,t3,t4]) rfl ?_;rw[HX.out];exact⟨none,0,_,_,_,rfl,(fH.out.chg hch fun b hb=>by omega).lower (by omega),fun i hi=>absurd hi (by simp),zl,(zka ay.out bz.out).trans (hch.below (zka ay.out bz.out).size fun b hb=>by omega),oz.out,fun h=>by first|(simp at h;done)|exact absurd h yD.out⟩
 ·have q0:=zb b5 p0;have q1:=zb b5 p1;have q2:=zb b5 p2;have q3:=zb b5 p3;have q4:=zb b5 p4;have q5:=zb b5 p5;have bO:=zh (show Calls prog 26 #[pv A1 p.vs.length c1 A2 p.prs.length c2 p.m.k p.m.n p.m.s A3 p.m.ks.length c3] w5 (fun e w'=>∃A c,e=Ending.returned (.slice A (chkN p) c)/\Below w5.heap.size w5 w')from(bK.out w5 (zka ay.out b5)).mono (fun e w' ⟨A,c,h1,h2⟩=>⟨A,c,by rw[h1,if_pos rfl],h2⟩));clear p0 p1 p2 p3 p4 p5 bK HV;go_wp2_with fail;refine bO.out.mono ?_;rintro e6 w6 ⟨AA,cc,rfl,b6⟩;have mW:=zka b5 b6;clear q0 q1 q2 q3 q4 q5;by_cases hn:chkN p=0
  ·obtain⟨n,hnn⟩:=zX (chkN p);rw[hnn];obtain rfl:n=0:=by omega
   have hng:¬ (0:Int)<((0:Nat):Int):=by omega
   have jY:=zkc aF.out mW;have dN:=zkc aA.out mW;have p0:w6.cell? ⟨W.heap.size,0,none⟩=some (.slice A1 p.vs.length c1):=zc jY rfl;have s0:w6.cell? ⟨W.heap.size+1,0,none⟩=some (.slice A s.cells.length c):=zc dN rfl;have s1:w6.cell? ⟨W.heap.size+1,1,none⟩=some (.slice B s.tin.length d):=zc dN rfl;have s2:w6.cell? ⟨W.heap.size+1,2,none⟩=some (.slice D s.tout.length e):=zc dN rfl;have fw:=zh hnn;clear jY dN hn hnn;go_wp2_with fail;refine(vY.out w6 (zka ay.out mW)).mono ?_;rintro e7 w7 ⟨b7,⟨hfit,rfl⟩|⟨hfit,P,rfl,zY⟩⟩
   ·have HX:=zh (show Re=(s,0,20,[]) by rw[<-gH.out,resO,if_neg (by rw[bg.out,fw.out];simp),if_pos hfit]);have qB:=zka mW b7;clear p0 s0 s1 s2 hfit;have dN:=zkc aA.out qB;have jr:=zkc fB.out qB;have s0:w7.cell? ⟨W.heap.size+1,0,none⟩=some (.slice A s.cells.length c):=zc dN rfl;have s1:w7.cell? ⟨W.heap.size+1,1,none⟩=some (.slice B s.tin.length d):=zc dN rfl;have s2:w7.cell? ⟨W.heap.size+1,2,none⟩=some (.slice D s.tout.length e):=zc dN rfl;have aH:=zh (dL.out w7 (zka ay.out qB));have cZ:=zh jr;have hbq:=qB;clear dN jr;go_wp2_with fail;refine aH.out.mono ?_;rintro e9 w9 ⟨v9,rfl,dD,aM⟩;obtain⟨A9,c9,B9,d9,D9,e9,rfl⟩:=dD.slices;have fH:=zh dD;have bz:=zh (zka hbq aM);have aL:=zkc cZ.out aM;have x0:w9.cell? ⟨W.heap.size+3,0,none⟩=some (.slice none 0 0):=zc aL rfl;have x1:w9.cell? ⟨W.heap.size+3,1,none⟩=some (.slice none 0 0):=zc aL rfl
    have x2:w9.cell? ⟨W.heap.size+3,2,none⟩=some (.slice none 0 0):=zc aL rfl;have x3:w9.cell? ⟨W.heap.size+3,3,none⟩=some (.int .i64 0):=zc aL rfl;have x4:w9.cell? ⟨W.heap.size+3,4,none⟩=some (.int .i64 0):=zc aL rfl;have xf:∀o,w9.frozen? ⟨W.heap.size+3,o,none⟩=false:=fun _=>zf aL;have jI:=zh aL;have hbr:=bRes;have rC:W.heap.size+4<=w7.heap.size:=by have:=hbq.size;rw[qC.out]at this;exact this
    clear s0 s1 s2 aL dD aM hbq aH;go_wp2_with fail;obtain⟨hh,hch⟩:=set5 (u0:=.slice A9 s.cells.length c9) (u1:=.slice B9 s.tin.length d9) (u2:=.slice D9 s.tout.length e9) (u3:=.int .i64 0) (u4:=.int .i64 20) jI.out;obtain⟨aT,fP⟩:=zX ((((((w9.setCell ⟨W.heap.size+3,0,none⟩ (.slice A9 s.cells.length c9)).setCell ⟨W.heap.size+3,1,none⟩ (.slice B9 s.tin.length d9)).setCell ⟨W.heap.size+3,2,none⟩ (.slice D9 s.tout.length e9)).setCell ⟨W.heap.size+3,3,none⟩ (.int .i64 0)).setCell ⟨W.heap.size+3,4,none⟩ (.int .i64 20)));rw[fP]at hh hch ⊢;have t0:aT.cell? ⟨W.heap.size+3,0,none⟩=some (.slice A9 s.cells.length c9):=zc hh rfl;have t1:aT.cell? ⟨W.heap.size+3,1,none⟩=some (.slice B9 s.tin.length d9):=zc hh rfl;have t2:aT.cell? ⟨W.heap.size+3,2,none⟩=some (.slice D9 s.tout.length e9):=zc hh rfl;have t3:aT.cell? ⟨W.heap.size+3,3,none⟩=some (.int .i64 0):=zc hh rfl
    have t4:aT.cell? ⟨W.heap.size+3,4,none⟩=some (.int .i64 20):=zc hh rfl;refine bodyPost_ret (v:=.tuple #[.slice none 0 0,.agg #[.slice A9 s.cells.length c9,.slice B9 s.tin.length d9,.slice D9 s.tout.length e9,.int .i64 0,.int .i64 20]]) (by simp[results,results42,go_sem,t0,t1,t2,t3,t4]) rfl ?_;rw[HX.out];exact⟨none,0,_,_,_,rfl,(fH.out.chg hch fun b hb=>by omega).lower (by omega),fun i hi=>absurd hi (by simp),zl,(zka ay.out bz.out).trans (hch.below (zka ay.out bz.out).size fun b hb=>by omega),oz.out,fun h=>by first|(simp at h;done)|exact absurd h yD.out⟩
   ·have qB:=zka mW b7;have qh:=zh hfit;have BF:=zh zY;clear p0 s0 s1 s2 hfit zY;have jY:=zkc aF.out qB;have p0:w7.cell? ⟨W.heap.size,0,none⟩=some (.slice A1 p.vs.length c1):=zc jY rfl;have p1:w7.cell? ⟨W.heap.size,1,none⟩=some (.slice A2 p.prs.length c2):=zc jY rfl;have p2:w7.cell? ⟨W.heap.size,2,none⟩=some (.int .u8 p.m.k):=zc jY rfl;have p3:w7.cell? ⟨W.heap.size,3,none⟩=some (.int .i64 p.m.n):=zc jY rfl;have p4:w7.cell? ⟨W.heap.size,4,none⟩=some (.string p.m.s):=zc jY rfl;have p5:w7.cell? ⟨W.heap.size,5,none⟩=some (.slice A3 p.m.ks.length c3):=zc jY rfl;obtain⟨hvl,hpl,wO,-,hpm⟩:=zlY bg.out;have hmk:=zLl p.prs.length (by omega);obtain⟨np,kF⟩:=zX (p.prs.length);rw[kF]at p1 hmk;have qI:=zh kF
    obtain⟨HH,hHH⟩:∃H:World->Prop,H=fun w':World=>w'.cell? ⟨W.heap.size,0,none⟩=some (.slice A1 p.vs.length c1)/\w'.cell? ⟨W.heap.size,1,none⟩=some (.slice A2 np c2)/\w'.cell? ⟨W.heap.size,2,none⟩=some (.int .u8 p.m.k)/\w'.cell? ⟨W.heap.size,3,none⟩=some (.int .i64 p.m.n)/\w'.cell? ⟨W.heap.size,4,none⟩=some (.string p.m.s)/\w'.cell? ⟨W.heap.size,5,none⟩=some (.slice A3 p.m.ks.length c3):=⟨_,rfl⟩
    have av:=zh (show ∀w',Below w7.heap.size w7 w'->HH w' by
     rw[hHH];exact fun w' hb=>⟨zb hb p0,zb hb p1,zb hb p2,zb hb p3,zb hb p4,zb hb p5⟩)
    rw[kF];go_upto_region 6 with fail;have hSS:zW HH zU w7.drew:=⟨av.out _ zr.drew,trivial⟩
    refine wp_region_noPanic ?_;refine zG hSS 10 ?_;subst hHH;refine zT 0 hSS ?_;refine zT 1 hSS ?_;refine zT 2 hSS ?_;refine zT 3 hSS ?_;refine zT 4 hSS ?_;refine zT 5 hSS ?_;clear p0 p1 p2 p3 p4 p5 jY kF;refine zr3 (fun A f l a wr=>∃(l6 l7 l8 l9:Bool) (v43 v44 v45 v12:Value) (eb rb pb:Nat),f=(!l6).toNat+(!l7).toNat+(!l8).toNat+(!l9).toNat+1/\l = #[true,true,true,true,true,true,l6,l7,l8,l9,false] /\
     a=(((A.put (some 43) v43).put (some 44) v44).put (some 45) v45).put (some 12) v12/\Hid (Below w7.heap.size w7 wr) /\
     Hid ((l7=true->l6=true)/\(l8=true->l7=true)/\(l6=true->v43=.slice (some ⟨eb,0,none⟩) np np/\wr.heap[eb]?=some (.cells (zki (List.replicate np 0)).toArray 3 (0,0))/\w7.heap.size<=eb) /\
      (l7=true->v44=.agg #[.slice A1 p.vs.length c1,.slice A2 np c2,.int .u8 p.m.k,.int .i64 p.m.n,.string p.m.s,.slice A3 p.m.ks.length c3,.pointer (some ⟨P.sb,0,none⟩),.int .i64 0,.int .i64 F,.slice (some ⟨eb,0,none⟩) np np]) /\
      (l8=true->v45=.pointer (some ⟨rb,0,none⟩)/\wr.heap[rb]?=some (.cells #[.slice A1 p.vs.length c1,.slice A2 np c2,.int .u8 p.m.k,.int .i64 p.m.n,.string p.m.s,.slice A3 p.m.ks.length c3,.pointer (some ⟨P.sb,0,none⟩),.int .i64 0,.int .i64 F,.slice (some ⟨eb,0,none⟩) np np] 127 (0,0))/\w7.heap.size<=rb) /\
      (l9=true->v12=.pointer (some ⟨pb,0,none⟩)/\wr.heap[pb]?=some (.cells #[.pointer none] 125 (0,0))/\w7.heap.size<=pb)) /\
     Hid ((l6=false->v43=undef)/\(l7=false->v44=undef)/\(l8=false->v45=undef)/\(l9=false->v12=undef))) (fun A f l a wr h=>?_) ?_ ⟨false,false,false,false,undef,undef,undef,undef,0,0,0,rfl,rfl,(by simp only[Act.put,zD,zE,zF]),zh zr.drew,zh ⟨fun h=>(by cases h),fun h=>(by cases h),fun h=>(by cases h),fun h=>(by cases h),fun h=>(by cases h),fun h=>(by cases h)⟩,zh ⟨fun _=>rfl,fun _=>rfl,fun _=>rfl,fun _=>rfl⟩⟩
    ·obtain⟨_,_,_,_,_,_,_,_,_,_,_,_,_,_,hb,_⟩:=h;exact⟨av.out _ hb.out,trivial⟩
    rintro A' hA f l a wr ⟨l6,l7,l8,l9,v43,v44,v45,v12,eb,rb,pb,hf,rfl,ha,af,HC,HU⟩;by_cases hall:(l6&&l7&&l8&&l9)=true
    ·left
     simp only[Bool.and_eq_true]at hall;obtain⟨⟨⟨rfl,rfl⟩,rfl⟩,rfl⟩:=hall;obtain⟨-,-,h6,h7,h8,h9⟩:=HC.out;obtain⟨rfl,he,hel⟩:=h6 rfl;obtain rfl:=h7 rfl;obtain⟨rfl,hr,hrl⟩:=h8 rfl;obtain⟨rfl,hq,lC⟩:=h9 rfl;subst hf ha hA;have hner:eb≠rb:=zvC he hr (by decide);have hneq:eb≠pb:=zvC he hq (by decide);have hnrq:rb≠pb:=zvC hr hq (by decide);have c0:wr.cell? ⟨pb,0,none⟩=some (.pointer none):=zc hq rfl;have cf:∀j,wr.frozen? ⟨pb,j,none⟩=false:=fun j=>zf hq;refine zp 10 fun K hK=>?_;(try simp only[zQ]);go_simp;have hch:Chg (fun b=>b=pb) wr (wr.setCell ⟨pb,0,none⟩ (.pointer (some ⟨rb,0,none⟩))):=(Chg.refl (fun b=>b=pb) wr).setCell (p:=⟨pb,0,none⟩) (.inl rfl) _;have hh:(wr.setCell ⟨pb,0,none⟩ (.pointer (some ⟨rb,0,none⟩))).heap[pb]?=some (.cells #[.pointer (some ⟨rb,0,none⟩)] 125 (0,0)):=by
      rw[heap_setCell_same wr pb 0 _ _ (.pointer (some ⟨rb,0,none⟩)) hq];rfl
     have fM:=zh (show Below w7.heap.size w7 (wr.setCell ⟨pb,0,none⟩ (.pointer (some ⟨rb,0,none⟩)))from af.out.trans (hch.below af.out.size fun b e=>by omega));have Ch:=zh (hch.keep he hneq);have oo:=zh (hch.keep hr hnrq);have yJ:=zh hh;obtain⟨w8,hw8⟩:=zX (wr.setCell ⟨pb,0,none⟩ (.pointer (some ⟨rb,0,none⟩)));rw[hw8]at fM Ch oo yJ ⊢;refine hK.out _ _ (av.out _ fM.out) ?_;clear hK K hSS hch hh hw8 c0 cf he hr hq h6 h7 h8 h9 HC HU af hmk av;refine zd ?_;refine NoPanic.normal ?_;(try simp only[zQ]);have hlt_e:=zkf Ch.out;have hlt_r:=zkf oo.out;have hlt_q:=zkf yJ.out;obtain⟨C,hC⟩:∃C:RC,C=⟨W,w6.heap.size,P.sb,rb,p,A1,c1,A2,c2,A3,c3,F,.slice (some ⟨eb,0,none⟩) np np,fun b=>b=pb⟩:=⟨_,rfl⟩
     have hs67:=b7.size;have hs46:=mW.size;have lY:=qC.out;have hbWw6:=zka ay.out mW;have qP:=zh (show C.Ok by
      rw[hC];exact⟨xI.out,hF,qy,⟨by simp only;omega,by simp only;exact hnrq⟩,⟨by simp[Value.ownBlock];exact hner,fun b hb hk=>by simp only[Value.ownBlock,Option.some.injEq]at hb;simp only at hk;omega⟩,fun q hq=>by have:=(wO q hq).1;omega⟩)
     have bV:=zh (show RI C w8 ⟨newS p.vs s,0,List.replicate np 0⟩ by
      rw[hC];have hks:=(KS.new hbWw6 b7 BF.out).also fM.out (kb':=fun b=>b=pb\/b=rb\/(Value.slice (some ⟨eb,0,none⟩) np np).ownBlock=some b) (fun b hb=>.inr (by
       rcases hb with rfl|rfl|hb
       ·exact⟨lC,hlt_q⟩
       ·exact⟨hrl,hlt_r⟩
       ·simp[Value.ownBlock]at hb;subst hb;exact⟨hel,hlt_e⟩))
      refine⟨hks,by rw[<-qI.out]at oo;simpa[RC.cells,qI.out]using oo.out,?_,by simp[qI.out],fun c hc=>by simp at hc;omega,by simp,?_⟩
      ·refine⟨by simp[zki],.inr ⟨eb,np,_,by simp,Nat.le_trans hs67 hel,Ch.out,by simp,by unfold maxLen;have:=qI.out;omega,by simp[zki],by simp[zki]⟩⟩
      ·exact⟨by simp only[newS];omega,fun f hf=>by simp[newS]at hf⟩)
     obtain⟨GX,hGX,hGM⟩:=HFAM.out;have nM:=zh (hGM bg.out fw.out);clear hGM;obtain⟨o,ho⟩:=zX (runO p.prs F g back p.m ⟨newS p.vs s,0,List.replicate np 0⟩);have hog:o ≠ .gas:=ho▸(zsg bg.out hg back (newS p.vs s) (List.replicate np 0)).1;have hon:Nz o:=ho▸nM.out.2 _ _ _ _;have HRR:=zh (show Re=outR s o by rw[<-gH.out,resO,if_neg (by rw[bg.out,fw.out];simp),if_neg (by rw[qh.out];simp),<-ho,<-qI.out]);have jZ:=zka qB fM.out;obtain⟨jb,hjb⟩:=zX (w8.heap.size);obtain⟨w9,dC⟩:=zX (w8.alloc (.cells #[.slice none 0 0,.bool false] 132));have HAT:=zh (zrS hGX qP.out bV.out dC hjb (by rw[hC];exact nM.out.1) g back o (by rw[hC];exact ho) hog pb W.heap.size (W.heap.size+1+1) (by rw[hC];exact zc yJ.out rfl) (by rw[hC];simp only;rw[qI.out];have:=zkc aF.out jZ;rw[qI.out]at this;exact this) (zc (zkc aP.out jZ) rfl))
     have vz:w9.heap.size=jb+1:=by rw[<-dC];simp[hjb]
     have HK89:=zh (show Kpt C.n0 C.kb w8 w9 from Kpt.of_below (dC▸zkb (zs w8) _));have ym:∀(fn:Fn) (first cap:Array Value) (w:World),(Instr.makeFunc fn first cap).run prog w=.ok (.func fn first cap) w:=fun _ _ _ _=>rfl;have HN0C:=zh (show C.n0=w6.heap.size/\C.w=W/\C.rb=rb/\C.ev=.slice (some ⟨eb,0,none⟩) np np/\(C.kb=fun b=>b=pb)/\C.sb=P.sb/\C.p=p by rw[hC];exact⟨rfl,rfl,rfl,rfl,rfl,rfl,rfl⟩);have HHB48:=zh jZ;have jX:=ay.out;have hb4s:W.heap.size<=w6.heap.size:=hbWw6.size;clear hC jZ ho hlt_e hlt_r;go_wp2_with fail;refine HAT.out.mono ?_;rintro e10 aS hat;clear HAT dC ym;rcases hat with⟨rfl,aT,⟨r,rfl,hok,aY,hkp⟩,hch⟩|⟨x,rfl,aT,⟨rfl,hkp,hbl⟩,hch⟩
     ·obtain⟨hn0,hcw,pz,mG,kJ,pq,hcp⟩:=HN0C.out;have hri1:=RI.chgK (C:=C.plus jb w9.heap.size) hok aY hch (by show C.w.heap.size<=_;rw[hcw];have:=fM.out.size;omega);have jh:RI C aS r:=hri1.less.less;have hkk:Kpt C.n0 C.kb w8 aS:=HK89.out.trans ((Kpt.less (C:=C) hkp).trans (Kpt.chg hch fun b hb=>⟨by rw[hn0];omega,by rw[kJ];intro e;subst e;omega⟩));have dB:=zq6 jX (by have:=jh.below;rw[hcw]at this;exact this) HHB48.out hkk (by rw[hn0];exact hs46);have gG:=zh jh;have HX:=zh (show Re=(r.S.state,r.n,0,r.ent)from HRR.out);obtain⟨-,x7,-,x9,-⟩:=jh.cells;rw[pz]at x7 x9;rw[mG]at x9;have xp:aS.cell? ⟨pb,0,none⟩=some (.pointer (some ⟨rb,0,none⟩)):=zc (hkk.blk (.inr (by rw[kJ])) yJ.out) rfl;have HKR:=zh (zkc fB.out dB);have nS:=zh dB;have hls:=jh.ks;have HST:=zh (fun w' (hb:Below aS.heap.size aS w')=>(hls.later hb).state);rw[pq]at HST
      have xL:=zh (show r.ent.length=np by rw[jh.el,hcp,qI.out]);have nN:=zh jh.ent;rw[hn0,mG]at nN;have hne0:(0:Int)=0:=rfl;have av:=zh (show ∀w',Below aS.heap.size aS w'->(fun w':World=>zv w' pb 0 (.pointer (some ⟨rb,0,none⟩))/\zv w' rb 7 (.int .i64 r.n)/\zv w' rb 9 (.slice (some ⟨eb,0,none⟩) np np)) w' from fun w' hb=>⟨zb hb xp,zb hb x7,zb hb x9⟩);clear aY hri1 jh hkk hkp hls hn0 hcw pz mG kJ pq hch x7 x9 xp dB hok;go_upto_region 10 with fail;have hSS:zW (fun w':World=>zv w' pb 0 (.pointer (some ⟨rb,0,none⟩))/\zv w' rb 7 (.int .i64 r.n)/\zv w' rb 9 (.slice (some ⟨eb,0,none⟩) np np)) zU aS.drew:=⟨av.out _ zr.drew,trivial⟩
      refine wp_region_noPanic ?_;refine zG hSS 12 ?_;refine zT 0 hSS ?_;refine zT 1 hSS ?_;refine zT 2 hSS ?_;refine zT 3 hSS ?_;refine zT 4 hSS ?_;refine zT 6 hSS ?_;refine zT 7 hSS ?_;refine zT 8 hSS ?_;refine zT 9 hSS ?_;have had:Calls prog 77 [.pointer (some ⟨P.sb,0,none⟩)].toArray aS.drew fun e W'=>∃v,e=.returned v/\(OwnS W' aS.heap.size r.S.state v/\Below aS.heap.size aS W') :=
       (HST.out _ zr.drew).mono fun e w' ⟨v,h1,h2,h3⟩=>⟨v,h1,h2,zka (zs aS).drew h3⟩
      refine zo 5 fun K hK=>?_;refine zkd (by rfl) (.func 77) [.tmp 59] _ (by rfl) 77 _ zw9 (by rfl) _ (by rfl) _ had ?_;rintro v12 eH ⟨rH,kM⟩;obtain⟨A9,c9,B9,d9,D9,e9,rfl⟩:=rH.slices;have HO12:=zh rH;have gQ:=zh kM;refine hK.out _ _ ⟨av.out _ kM,trivial⟩ ?_;have aB:=zV hSS (av.out _ kM) trivial;clear hK K hSS had rH kM;(try simp only[zQ]);have hbr:=zLk;refine zT 10 aB ?_;refine zo 11 fun K hK=>?_;(try simp only[zA,zB,zC]);go_simp;refine hK.out _ _ ⟨av.out _ gQ.out,trivial⟩ ?_;clear hK K;(try simp only[zQ]);have aL:=zkc HKR.out gQ.out;have x0:eH.cell? ⟨W.heap.size+3,0,none⟩=some (.slice none 0 0):=zc aL rfl;have x1:eH.cell? ⟨W.heap.size+3,1,none⟩=some (.slice none 0 0):=zc aL rfl;have x2:eH.cell? ⟨W.heap.size+3,2,none⟩=some (.slice none 0 0):=zc aL rfl;have x3:eH.cell? ⟨W.heap.size+3,3,none⟩=some (.int .i64 0):=zc aL rfl
      have x4:eH.cell? ⟨W.heap.size+3,4,none⟩=some (.int .i64 0):=zc aL rfl;have xf:∀o,eH.frozen? ⟨W.heap.size+3,o,none⟩=false:=fun _=>zf aL;refine zp 12 fun K hK=>?_;(try simp only[zQ]);go_simp;obtain⟨hh,hch⟩:=set5 (u0:=.slice A9 r.S.state.cells.length c9) (u1:=.slice B9 r.S.state.tin.length d9) (u2:=.slice D9 r.S.state.tout.length e9) (u3:=.int .i64 r.n) (u4:=.int .i64 0) aL;obtain⟨wD,hw13⟩:=zX ((((((eH.setCell ⟨W.heap.size+3,0,none⟩ (.slice A9 r.S.state.cells.length c9)).setCell ⟨W.heap.size+3,1,none⟩ (.slice B9 r.S.state.tin.length d9)).setCell ⟨W.heap.size+3,2,none⟩ (.slice D9 r.S.state.tout.length e9)).setCell ⟨W.heap.size+3,3,none⟩ (.int .i64 r.n)).setCell ⟨W.heap.size+3,4,none⟩ (.int .i64 0)));rw[hw13]at hh hch ⊢;have fK:=zh hch;have t0:wD.cell? ⟨W.heap.size+3,0,none⟩=some (.slice A9 r.S.state.cells.length c9):=zc hh rfl
      have t1:wD.cell? ⟨W.heap.size+3,1,none⟩=some (.slice B9 r.S.state.tin.length d9):=zc hh rfl;have t2:wD.cell? ⟨W.heap.size+3,2,none⟩=some (.slice D9 r.S.state.tout.length e9):=zc hh rfl;have t3:wD.cell? ⟨W.heap.size+3,3,none⟩=some (.int .i64 r.n):=zc hh rfl;have t4:wD.cell? ⟨W.heap.size+3,4,none⟩=some (.int .i64 0):=zc hh rfl;have hszs:W.heap.size+4<=aS.heap.size:=by have:=nS.out.size;omega
      have hplt:W.heap.size+3<w7.heap.size:=by have:=qB.size;omega
      refine hK.out _ _ ?_ ?_
      ·obtain⟨q1,q2,q3⟩:=av.out _ gQ.out;exact⟨zkX hch q1 (by simp only;omega),zkX hch q2 (by simp only;omega),zkX hch q3 (by simp only;omega)⟩
      clear hK K hch hh hw13 x0 x1 x2 x3 x4 xf aL aB av;(try simp only[zQ]);refine zd ?_;refine NoPanic.normal ?_;go_wp2_with fail;have hrow:=zkI nN.out gQ.out;have hrow2:=zon hrow (fun b hb=>fK.out.block b (hrow.lt b hb).2 (by have:=(hrow.lt b hb).1;omega));have hI:∀z∈r.ent.map Int.ofNat,I64 z:=fun z hz=>by
       obtain⟨q,hq,rfl⟩:=List.mem_map.1 hz;have h1:=gG.out.en q hq;have h2:=gG.out.n;exact⟨by simp only[Int.ofNat_eq_natCast];omega,by simp only[Int.ofNat_eq_natCast];omega⟩
      obtain⟨Ae,ce,he1,he2,he3⟩:=zsj (l:=r.ent.map Int.ofNat) (by simpa using hrow2) hI;injection he1 with he1 _ he4;subst he1 he4;refine bodyPost_ret (v:=.tuple #[.slice (some ⟨eb,0,none⟩) np np,.agg #[.slice A9 r.S.state.cells.length c9,.slice B9 r.S.state.tin.length d9,.slice D9 r.S.state.tout.length e9,.int .i64 r.n,.int .i64 0]]) (by simp[results,results42,go_sem,t0,t1,t2,t3,t4]) rfl ?_;rw[HX.out];refine⟨_,_,_,_,_,by rw[xL.out],(HO12.out.chg fK.out fun b hb=>by omega).lower (by omega),he3.keep (fun b hb _=>by have:=hb4s;omega) (fun _ _ _=>rfl),by simpa using he2,?_⟩;exact⟨(zka jX (zka nS.out gQ.out)).trans (fK.out.below (zka jX (zka nS.out gQ.out)).size fun b hb=>by omega),LimR.run gG.out.ks.wf gG.out.fb _⟩
     ·have hx:x≠0:=fun e=>hon (by rw[e]);obtain⟨hn0,hcw,pz,mG,kJ,pq,-⟩:=HN0C.out;have hkk:Kpt C.n0 C.kb w8 aS:=HK89.out.trans ((Kpt.less (C:=C) hkp).trans (Kpt.chg hch fun b hb=>⟨by rw[hn0];omega,by rw[kJ];intro e;subst e;omega⟩));have pF:Below C.w.heap.size C.w aT:=hbl;rw[hcw]at pF;have vE:=fM.out.size;have pG:Below W.heap.size W aS:=pF.trans (hch.below pF.size fun b hb=>by omega);have dB:=zq6 jX pG HHB48.out hkk (by rw[hn0];exact hs46);have HX:=zh (show Re=(s,0,x,[])from HRR.out);have e1:(x != 0)=true:=by simpa using hx
      have yD:=zh hx;clear hn0 hcw pz mG kJ pq hkk pG hkp hbl pF hch hon;have dN:=zkc aA.out dB;have jr:=zkc fB.out dB;have s0:aS.cell? ⟨W.heap.size+1,0,none⟩=some (.slice A s.cells.length c):=zc dN rfl;have s1:aS.cell? ⟨W.heap.size+1,1,none⟩=some (.slice B s.tin.length d):=zc dN rfl;have s2:aS.cell? ⟨W.heap.size+1,2,none⟩=some (.slice D s.tout.length e):=zc dN rfl;have aH:=zh (dL.out aS (zka ay.out dB));have cZ:=zh jr;have hbq:=dB;clear dN jr;go_wp2_with fail;refine aH.out.mono ?_;rintro e9 w9 ⟨v9,rfl,dD,aM⟩;obtain⟨A9,c9,B9,d9,D9,e9,rfl⟩:=dD.slices;have fH:=zh dD;have bz:=zh (zka hbq aM);have aL:=zkc cZ.out aM;have x0:w9.cell? ⟨W.heap.size+3,0,none⟩=some (.slice none 0 0):=zc aL rfl;have x1:w9.cell? ⟨W.heap.size+3,1,none⟩=some (.slice none 0 0):=zc aL rfl
      have x2:w9.cell? ⟨W.heap.size+3,2,none⟩=some (.slice none 0 0):=zc aL rfl;have x3:w9.cell? ⟨W.heap.size+3,3,none⟩=some (.int .i64 0):=zc aL rfl;have x4:w9.cell? ⟨W.heap.size+3,4,none⟩=some (.int .i64 0):=zc aL rfl;have xf:∀o,w9.frozen? ⟨W.heap.size+3,o,none⟩=false:=fun _=>zf aL;have jI:=zh aL;have hbr:=bRes;have rC:W.heap.size+4<=aS.heap.size:=by have:=hbq.size;rw[qC.out]at this;exact this
      clear s0 s1 s2 aL dD aM hbq aH;go_wp2_with fail;obtain⟨hh,hch⟩:=set5 (u0:=.slice A9 s.cells.length c9) (u1:=.slice B9 s.tin.length d9) (u2:=.slice D9 s.tout.length e9) (u3:=.int .i64 0) (u4:=.int .i64 x) jI.out;obtain⟨aT,fP⟩:=zX ((((((w9.setCell ⟨W.heap.size+3,0,none⟩ (.slice A9 s.cells.length c9)).setCell ⟨W.heap.size+3,1,none⟩ (.slice B9 s.tin.length d9)).setCell ⟨W.heap.size+3,2,none⟩ (.slice D9 s.tout.length e9)).setCell ⟨W.heap.size+3,3,none⟩ (.int .i64 0)).setCell ⟨W.heap.size+3,4,none⟩ (.int .i64 x)));rw[fP]at hh hch ⊢;have t0:aT.cell? ⟨W.heap.size+3,0,none⟩=some (.slice A9 s.cells.length c9):=zc hh rfl;have t1:aT.cell? ⟨W.heap.size+3,1,none⟩=some (.slice B9 s.tin.length d9):=zc hh rfl;have t2:aT.cell? ⟨W.heap.size+3,2,none⟩=some (.slice D9 s.tout.length e9):=zc hh rfl;have t3:aT.cell? ⟨W.heap.size+3,3,none⟩=some (.int .i64 0):=zc hh rfl
      have t4:aT.cell? ⟨W.heap.size+3,4,none⟩=some (.int .i64 x):=zc hh rfl;refine bodyPost_ret (v:=.tuple #[.slice none 0 0,.agg #[.slice A9 s.cells.length c9,.slice B9 s.tin.length d9,.slice D9 s.tout.length e9,.int .i64 0,.int .i64 x]]) (by simp[results,results42,go_sem,t0,t1,t2,t3,t4]) rfl ?_;rw[HX.out];exact⟨none,0,_,_,_,rfl,(fH.out.chg hch fun b hb=>by omega).lower (by omega),fun i hi=>absurd hi (by simp),zl,(zka ay.out bz.out).trans (hch.below (zka ay.out bz.out).size fun b hb=>by omega),oz.out,fun h=>by first|(simp at h;done)|exact absurd h yD.out⟩
    ·right
     have bE:=HC.out;have iQ:=HU.out;have hcc:(l7=true->l6=true)/\(l8=true->l7=true):=⟨bE.1,bE.2.1⟩
     refine⟨f-1,?_,?_,?_⟩
     ·clear HC bE HU iQ ha af hcc;subst hf;revert hall;revert l6 l7 l8 l9
      decide
     ·clear HC bE HU iQ ha af hf;revert hall hcc;revert l6 l7 l8 l9
      decide +kernel
     intro i hi;have hcase:(i=6/\l6=false/\l7=false/\l8=false)\/(i=7/\l7=false/\l6=true/\l8=false)\/(i=8/\l8=false/\l6=true/\l7=true)\/(i=9/\l9=false):=by
      refine of_decide_eq_true ((List.all_eq_true (p:=fun i=>decide ((i=6/\l6=false/\l7=false/\l8=false)\/(i=7/\l7=false/\l6=true/\l8=false)\/(i=8/\l8=false/\l6=true/\l7=true)\/(i=9/\l9=false)))).1 ?_ i hi);clear HC bE HU iQ ha af hf hi;revert hall hcc;revert l6 l7 l8 l9
      decide +kernel
     clear hi hall;subst ha hA;rcases hcase with⟨rfl,rfl,rfl,rfl⟩|⟨rfl,rfl,rfl,rfl⟩|⟨rfl,rfl,rfl,rfl⟩|⟨rfl,rfl⟩
     ·refine wpOp_step rfl (fun K' aO=>?_);have hK:=zh aO;clear aO;have hU1:=iQ.1 rfl;have AP:=iQ.2.1 rfl;have xe:=iQ.2.2.1 rfl;subst hU1 AP xe;(try simp only[zQ]);go_simp;have hsz:=af.out.size;exact hK.out _ _ ⟨true,false,false,l9,_,undef,undef,v12,wr.heap.size,0,pb,(by subst hf;simp<;>omega),rfl,(by simp only[zQ]),zh (zkb af.out _),zh ⟨fun h=>(by cases h),fun h=>(by cases h),fun _=>⟨rfl,heap_alloc_new wr _,hsz⟩,fun h=>(by cases h),fun h=>(by cases h),fun h=>⟨(bE.2.2.2.2.2 h).1,zke (bE.2.2.2.2.2 h).2.1 _,(bE.2.2.2.2.2 h).2.2⟩⟩,zh ⟨fun h=>(by cases h),fun _=>rfl,fun _=>rfl,iQ.2.2.2⟩⟩
     ·refine wpOp_step rfl (fun K' aO=>?_);have hK:=zh aO;clear aO;have AP:=iQ.2.1 rfl;have xe:=iQ.2.2.1 rfl;obtain⟨hv6,he,hel⟩:=bE.2.2.1 rfl;subst AP xe hv6;have hbn:=bRun;(try simp only[zQ]);go_simp;exact hK.out _ _ ⟨true,true,false,l9,_,_,undef,v12,eb,0,pb,(by subst hf;simp<;>omega),rfl,(by simp only[zQ]),af,zh ⟨fun _=>rfl,fun h=>(by cases h),fun _=>⟨rfl,he,hel⟩,fun _=>rfl,fun h=>(by cases h),bE.2.2.2.2.2⟩,zh ⟨fun h=>(by cases h),fun h=>(by cases h),fun _=>rfl,iQ.2.2.2⟩⟩
     ·refine wpOp_step rfl (fun K' aO=>?_);have hK:=zh aO;clear aO;have xe:=iQ.2.2.1 rfl;obtain⟨hv6,he,hel⟩:=bE.2.2.1 rfl;have hv7:=bE.2.2.2.1 rfl;subst xe hv6 hv7;(try simp only[zQ]);go_simp;have hsz:=af.out.size;exact hK.out _ _ ⟨true,true,true,l9,_,_,_,v12,eb,wr.heap.size,pb,(by subst hf;simp<;>omega),rfl,(by simp only[zQ]),zh (zkb af.out _),zh ⟨fun _=>rfl,fun _=>rfl,fun _=>⟨rfl,zke he _,hel⟩,fun _=>rfl,fun _=>⟨rfl,heap_alloc_new wr _,hsz⟩,fun h=>⟨(bE.2.2.2.2.2 h).1,zke (bE.2.2.2.2.2 h).2.1 _,(bE.2.2.2.2.2 h).2.2⟩⟩,zh ⟨fun h=>(by cases h),fun h=>(by cases h),fun h=>(by cases h),iQ.2.2.2⟩⟩
     ·refine wpOp_step rfl (fun K' aO=>?_);have hK:=zh aO;clear aO;have sV:=iQ.2.2.2 rfl;subst sV;(try simp only[zQ]);go_simp;have hsz:=af.out.size;exact hK.out _ _ ⟨l6,l7,l8,true,v43,v44,v45,_,eb,rb,wr.heap.size,(by subst hf;simp<;>omega),rfl,(by simp only[zQ]),zh (zkb af.out _),zh ⟨bE.1,bE.2.1,fun h=>⟨(bE.2.2.1 h).1,zke (bE.2.2.1 h).2.1 _,(bE.2.2.1 h).2.2⟩,bE.2.2.2.1,fun h=>⟨(bE.2.2.2.2.1 h).1,zke (bE.2.2.2.2.1 h).2.1 _,(bE.2.2.2.2.1 h).2.2⟩,fun _=>⟨rfl,heap_alloc_new wr _,hsz⟩⟩,zh ⟨iQ.1,iQ.2.1,iQ.2.2.1,fun h=>(by cases h)⟩⟩
  ·have HX:=zh (show Re=(s,0,3,[]) by rw[<-gH.out,resO,if_pos (.inr hn)]);obtain⟨n,hnn⟩:=zX (chkN p);rw[hnn];have hng:(0:Int)<(n:Int):=by omega
   clear hn hnn;have dN:=zkc aA.out mW;have jr:=zkc fB.out mW;have s0:w6.cell? ⟨W.heap.size+1,0,none⟩=some (.slice A s.cells.length c):=zc dN rfl;have s1:w6.cell? ⟨W.heap.size+1,1,none⟩=some (.slice B s.tin.length d):=zc dN rfl;have s2:w6.cell? ⟨W.heap.size+1,2,none⟩=some (.slice D s.tout.length e):=zc dN rfl;have aH:=zh (dL.out w6 (zka ay.out mW));have cZ:=zh jr;have hbq:=mW;clear dN jr;go_wp2_with fail;refine aH.out.mono ?_;rintro e9 w9 ⟨v9,rfl,dD,aM⟩;obtain⟨A9,c9,B9,d9,D9,e9,rfl⟩:=dD.slices;have fH:=zh dD;have bz:=zh (zka hbq aM);have aL:=zkc cZ.out aM;have x0:w9.cell? ⟨W.heap.size+3,0,none⟩=some (.slice none 0 0):=zc aL rfl;have x1:w9.cell? ⟨W.heap.size+3,1,none⟩=some (.slice none 0 0):=zc aL rfl;have x2:w9.cell? ⟨W.heap.size+3,2,none⟩=some (.slice none 0 0):=zc aL rfl;have x3:w9.cell? ⟨W.heap.size+3,3,none⟩=some (.int .i64 0):=zc aL rfl
   have x4:w9.cell? ⟨W.heap.size+3,4,none⟩=some (.int .i64 0):=zc aL rfl;have xf:∀o,w9.frozen? ⟨W.heap.size+3,o,none⟩=false:=fun _=>zf aL;have jI:=zh aL;have hbr:=bRes;have rC:W.heap.size+4<=w6.heap.size:=by have:=hbq.size;rw[qC.out]at this;exact this
   clear s0 s1 s2 aL dD aM hbq aH;go_wp2_with fail;obtain⟨hh,hch⟩:=set5 (u0:=.slice A9 s.cells.length c9) (u1:=.slice B9 s.tin.length d9) (u2:=.slice D9 s.tout.length e9) (u3:=.int .i64 0) (u4:=.int .i64 3) jI.out;obtain⟨aT,fP⟩:=zX ((((((w9.setCell ⟨W.heap.size+3,0,none⟩ (.slice A9 s.cells.length c9)).setCell ⟨W.heap.size+3,1,none⟩ (.slice B9 s.tin.length d9)).setCell ⟨W.heap.size+3,2,none⟩ (.slice D9 s.tout.length e9)).setCell ⟨W.heap.size+3,3,none⟩ (.int .i64 0)).setCell ⟨W.heap.size+3,4,none⟩ (.int .i64 3)));rw[fP]at hh hch ⊢;have t0:aT.cell? ⟨W.heap.size+3,0,none⟩=some (.slice A9 s.cells.length c9):=zc hh rfl;have t1:aT.cell? ⟨W.heap.size+3,1,none⟩=some (.slice B9 s.tin.length d9):=zc hh rfl;have t2:aT.cell? ⟨W.heap.size+3,2,none⟩=some (.slice D9 s.tout.length e9):=zc hh rfl;have t3:aT.cell? ⟨W.heap.size+3,3,none⟩=some (.int .i64 0):=zc hh rfl
   have t4:aT.cell? ⟨W.heap.size+3,4,none⟩=some (.int .i64 3):=zc hh rfl;refine bodyPost_ret (v:=.tuple #[.slice none 0 0,.agg #[.slice A9 s.cells.length c9,.slice B9 s.tin.length d9,.slice D9 s.tout.length e9,.int .i64 0,.int .i64 3]]) (by simp[results,results42,go_sem,t0,t1,t2,t3,t4]) rfl ?_;rw[HX.out];exact⟨none,0,_,_,_,rfl,(fH.out.chg hch fun b hb=>by omega).lower (by omega),fun i hi=>absurd hi (by simp),zl,(zka ay.out bz.out).trans (hch.below (zka ay.out bz.out).size fun b hb=>by omega),oz.out,fun h=>by first|(simp at h;done)|exact absurd h yD.out⟩
def FwP(W:World)(R:SS×Nat×Int×List Nat)(e:Ending)(W':World):Prop:=∃v1 v2 v3,e=.returned (.agg #[v1,v2,v3,.int .i64 (R.2.1:Int),.int .i64 R.2.2.1]) /\
 OwnS W' W.heap.size R.1 (.agg #[v1,v2,v3])/\Below W.heap.size W W'/\LimR R
theorem zr1(p:PG)(s:SS)(F:Int)(g:Nat)(v sv:Value)(W:World)(hp:PV W Any p v)(hs:SV W Any s sv)(hcl:s.cells.length<=5864062014800)(hF:I64 F)(qy:F<=1000000)(hg:F.toNat*2000+2000<=g)(hfam:Fam p) :
  Calls prog 18 #[v,sv,.int .i64 F] W (FwP W (resO p s F g false)):=by
 have HPX:=zh hp;have HSX:=zh hs;obtain⟨A1,c1,A2,c2,A3,c3,rfl,ji⟩:=hp;obtain⟨A,c,B,d,D,e,rfl,hr1,hr2,hr3,hc1,hc2,hc3,hl1,hl2,hl3,hl4⟩:=hs;have HST:=zh (fun w' (hb:Below W.heap.size W w')=>ztV p s F g false _ _ w' (HPX.out.later hb) (HSX.out.later hb) hcl hF qy hg hfam);have hb3:=zkb (zkb (zkb (zs W) (.cells #[.slice A1 p.vs.length c1,.slice A2 p.prs.length c2,.int .u8 p.m.k,.int .i64 p.m.n,.string p.m.s,.slice A3 p.m.ks.length c3] 30)) (.cells #[.slice A s.cells.length c,.slice B s.tin.length d,.slice D s.tout.length e] 44)) (.cells #[.slice none 0 0,.slice none 0 0,.slice none 0 0,.int .i64 0,.int .i64 0] 58)
 have k2:=heap_alloc_new ((W.alloc (.cells #[.slice A1 p.vs.length c1,.slice A2 p.prs.length c2,.int .u8 p.m.k,.int .i64 p.m.n,.string p.m.s,.slice A3 p.m.ks.length c3] 30)).alloc (.cells #[.slice A s.cells.length c,.slice B s.tin.length d,.slice D s.tout.length e] 44)) (.cells #[.slice none 0 0,.slice none 0 0,.slice none 0 0,.int .i64 0,.int .i64 0] 58);simp only[World.size_alloc]at k2;obtain⟨Re,hRe⟩:=zX (resO p s F g false);rw[hRe]at HST;have HR:=zh hRe;have HB3:=zh hb3;have aP:=zh k2;have hz3:W.heap.size+3<=(((W.alloc (.cells #[.slice A1 p.vs.length c1,.slice A2 p.prs.length c2,.int .u8 p.m.k,.int .i64 p.m.n,.string p.m.s,.slice A3 p.m.ks.length c3] 30)).alloc (.cells #[.slice A s.cells.length c,.slice B s.tin.length d,.slice D s.tout.length e] 44)).alloc (.cells #[.slice none 0 0,.slice none 0 0,.slice none 0 0,.int .i64 0,.int .i64 0] 58)).heap.size:=by simp
 rw[hRe];clear ji hr1 hr2 hr3 hRe hb3 k2 hl1 hl2 hl3 hl4 hc1 hc2 hc3;clear hfam;go_enter func18,ntmps18;go_wp2_with fail;refine(HST.out _ HB3.out).mono ?_;rintro e9 w9 ⟨A9,c9,v1,v2,v3,rfl,dD,-,-,aM,hlm9⟩;have oz:=zh hlm9;clear hlm9;obtain⟨A4,c4,B5,d5,D6,e6,h6⟩:=dD.slices;injection h6 with h6;injection h6 with h6;injection h6 with h6 h7;injection h7 with h7 h8;injection h8 with h8 _;subst h6 h7 h8;have fH:=zh dD;have bz:=zh aM;have aL:=zkc aP.out aM;have x0:w9.cell? ⟨W.heap.size+1+1,0,none⟩=some (.slice none 0 0):=zc aL rfl;have x1:w9.cell? ⟨W.heap.size+1+1,1,none⟩=some (.slice none 0 0):=zc aL rfl;have x2:w9.cell? ⟨W.heap.size+1+1,2,none⟩=some (.slice none 0 0):=zc aL rfl;have x3:w9.cell? ⟨W.heap.size+1+1,3,none⟩=some (.int .i64 0):=zc aL rfl;have x4:w9.cell? ⟨W.heap.size+1+1,4,none⟩=some (.int .i64 0):=zc aL rfl
 have xf:∀o,w9.frozen? ⟨W.heap.size+1+1,o,none⟩=false:=fun _=>zf aL;have y0:=fun o=>zkj x0 o;have y1:=fun o=>zkj x1 o;have y2:=fun o=>zkj x2 o;have y3:=fun o=>zkj x3 o;have y4:=fun o=>zkj x4 o;have hlt9:W.heap.size+1+1<w9.heap.size:=zkf aL;have jI:=zh aL;clear dD aM aL;go_wp2_with fail;obtain⟨hh,hch⟩:=set5 (u0:=.slice A4 Re.1.cells.length c4) (u1:=.slice B5 Re.1.tin.length d5) (u2:=.slice D6 Re.1.tout.length e6) (u3:=.int .i64 (Re.2.1:Int)) (u4:=.int .i64 Re.2.2.1) jI.out;obtain⟨aT,fP⟩:=zX ((((((w9.setCell ⟨W.heap.size+1+1,0,none⟩ (.slice A4 Re.1.cells.length c4)).setCell ⟨W.heap.size+1+1,1,none⟩ (.slice B5 Re.1.tin.length d5)).setCell ⟨W.heap.size+1+1,2,none⟩ (.slice D6 Re.1.tout.length e6)).setCell ⟨W.heap.size+1+1,3,none⟩ (.int .i64 (Re.2.1:Int))).setCell ⟨W.heap.size+1+1,4,none⟩ (.int .i64 Re.2.2.1)));rw[fP]at hh hch ⊢
 obtain⟨aS,dU⟩:=zX (aT.alloc (.cells #[.slice A4 Re.1.cells.length c4,.slice B5 Re.1.tin.length d5,.slice D6 Re.1.tout.length e6,.int .i64 (Re.2.1:Int),.int .i64 Re.2.2.1] 58));rw[dU];have t0:aS.cell? ⟨W.heap.size+1+1,0,none⟩=some (.slice A4 Re.1.cells.length c4):=dU▸zkj (zc hh rfl) _;have t1:aS.cell? ⟨W.heap.size+1+1,1,none⟩=some (.slice B5 Re.1.tin.length d5):=dU▸zkj (zc hh rfl) _;have t2:aS.cell? ⟨W.heap.size+1+1,2,none⟩=some (.slice D6 Re.1.tout.length e6):=dU▸zkj (zc hh rfl) _;have t3:aS.cell? ⟨W.heap.size+1+1,3,none⟩=some (.int .i64 (Re.2.1:Int)):=dU▸zkj (zc hh rfl) _;have t4:aS.cell? ⟨W.heap.size+1+1,4,none⟩=some (.int .i64 Re.2.2.1):=dU▸zkj (zc hh rfl) _
 refine bodyPost_ret (v:=.agg #[.slice A4 Re.1.cells.length c4,.slice B5 Re.1.tin.length d5,.slice D6 Re.1.tout.length e6,.int .i64 (Re.2.1:Int),.int .i64 Re.2.2.1]) (by simp[results,results18,go_sem,t0,t1,t2,t3,t4]) rfl ?_;have hz33:=hz3;have hb39:Below W.heap.size W w9:=zka HB3.out bz.out;have iy:Chg (fun b=>b=W.heap.size+1+1) w9 aS:=dU▸hch.alloc _;have oO:=fH.out.chg iy fun b hb=>by omega
 have dZ:=hb39.trans (iy.below hb39.size fun b hb=>by omega);exact⟨_,_,_,rfl,oO.lower (by omega),dZ,oz.out⟩
theorem zoT(p:PG)(s:SS)(F:Int)(g:Nat)(v sv:Value)(W:World)(hp:PV W Any p v)(hs:SV W Any s sv)(hcl:s.cells.length<=5864062014800)(hF:I64 F)(qy:F<=1000000)(hg:F.toNat*2000+2000<=g) :
  Calls prog 18 #[v,sv,.int .i64 F] W (FwP W (resO p s F g false)):=zr1 p s F g v sv W hp hs hcl hF qy hg (zzl p)
section
variable {E:Prop} {Rl:Nat->ST->ST->Prop} {F F' k:Int} {o o':Out}
end
section
variable {S:ST} {l:List Int}
end
section
variable {ρ ρ':Nat->Nat->Prop} {f g:FR} {S S' S'':ST} {a b:Nat}
end
section
variable {S:ST}
end
section
variable {o:Out} {f:RS->Out} {r r':RS} {F:Int} {t:T}
end
section
variable {r r1 r':RS} {F:Int}
end
section
variable {vs:List VD} {s:SS} {r':RS} {e:List Nat}
end
structure EX where
 nm:ByteArray
 pt:Int
 fu:Int
 bx:BX
 gv:PG
abbrev exA(e:EX)(A1:Option Addr)(c1:Nat)(A2:Option Addr)(c2:Nat)(A3:Option Addr)(c3:Nat):Array Value := #[.string e.nm,.int .i64 e.pt,.int .i64 e.fu,.int .i64 e.bx.v,.int .i64 e.bx.l,.int .i64 e.bx.i,.slice A1 e.gv.vs.length c1,.slice A2 e.gv.prs.length c2,.int .u8 e.gv.m.k,.int .i64 e.gv.m.n,.string e.gv.m.s,.slice A3 e.gv.m.ks.length c3]
def EV(w:World)(S:Nat->Prop)(e:EX)(v:Value):Prop:=∃A1 c1 A2 c2 A3 c3,v=.agg (exA e A1 c1 A2 c2 A3 c3)/\PgR w S e.gv A1 c1 A2 c2 A3 c3/\I64 e.fu
theorem PgR.pv{w:World}{S:Nat->Prop}{p:PG}{A1:Option Addr}{c1:Nat}{A2:Option Addr}{c2:Nat}{A3:Option Addr}{c3:Nat}(h:PgR w S p A1 c1 A2 c2 A3 c3):PV w S p (pv A1 p.vs.length c1 A2 p.prs.length c2 p.m.k p.m.n p.m.s A3 p.m.ks.length c3):=⟨A1,c1,A2,c2,A3,c3,rfl,h⟩
theorem EV.later{w w':World}{S:Nat->Prop}{e:EX}{v:Value}(h:EV w S e v)(hb:Below w.heap.size w w'):EV w' S e v:=by
 obtain⟨A1,c1,A2,c2,A3,c3,h1,h2,h3⟩:=h;exact⟨A1,c1,A2,c2,A3,c3,h1,h2.later hb,h3⟩
def zk9(e:EX):Bool:=zmb e.nm&&decide (1<=e.pt/\e.pt<=1000)&&decide (0<=e.fu/\e.fu<=1000000)&&okB e.gv&&okB (zkM e.gv)&&decide ((cntR e.gv.vs e.bx).2=0/\(cntR e.gv.vs e.bx).1<=65536)
def gerE(p:PG)(F:Int)(s:SS):Int:=(resO p s F (F.toNat*2000+2000) false).2.2.1
def gstE(p:PG)(F:Int)(s:SS):SS:=(resO p s F (F.toNat*2000+2000) false).1
def relG(p:PG)(F:Int)(s:SS):Bool:=gerE p F s==0
def rigG(p q:PG)(F:Int)(s:SS):Bool:=gerE q F (gstE p F s)==0&&eqS (gstE q F (gstE p F s)) s
def erG(p q:PG)(F:Int)(s:SS):Int:=gerE q F (gstE p F s)
def grdE(e:EX)(q:PG):Bool×Nat×SS×Int:=grE (relG e.gv e.fu) (rigG e.gv q e.fu) (erG e.gv q e.fu) 0 (allS e.bx (lenE e.gv.vs e.bx))
section
variable {P:Program} {md:Region.Mode} {ops:Array Oper} {Q:Exit->Act->World->Prop} {S1 S2:World->Prop} {k:Nat}
theorem zpI{i j:Nat}{oi oj:Oper}(si sj:Option Nat)(n:Nat)(L:Bool->Bool->Array Bool)(a0:Act)(Inv:World->Prop)(Al Fact:Value->World->Prop)
  (hoi:ops[i]?=some oi)(hoj:ops[j]?=some oj)(hdi:oi.dst=si)(hdj:oj.dst=sj)(hr0:Region.ready md ops (L false false)=[i,j])(hr1:Region.ready md ops (L false true)=[i])
  (hLi:∀l4,(L false l4).setIfInBounds i true=L true l4)(hLj:(L false false).setIfInBounds j true=L false true)
  (hS:∀w,Inv w->S1 w/\S2 w)(hInv:∀w w',Inv w->Below w.heap.size w w'->Inv w')(hAl:∀u w w',Al u w->Below w.heap.size w w'->Al u w')
  (hi:∀(v4:Value) (K:Act->World->Prop) (w:World),Inv w->Shut (∀v w',Below w.heap.size w w'->Fact v w'->K ((a0.put sj v4).put si v) w')->if Region.wanted oi (yielded ops (a0.put sj v4).tmps)=true then Oper.wp P oi (a0.put sj v4) w K Q else K ((a0.put sj v4).put si undef) w)
  (hj:∀(v4:Value) (K:Act->World->Prop) (w:World),Inv w->Shut (∀v w',Below w.heap.size w w'->Al v w'->K ((a0.put sj v4).put sj v) w')->if Region.wanted oj (yielded ops (a0.put sj v4).tmps)=true then Oper.wp P oj (a0.put sj v4) w K Q else K ((a0.put sj v4).put sj undef) w)
  (wO:∀u v,(a0.put sj u).put sj v=a0.put sj v)
  (hc:∀(l4:Bool) (v4 v:Value) (w:World),Inv w->Fact v w->(l4=true->Al v4 w)->(l4=false->v4=undef)->wpG P md ops Q S1 S2 k (n+(!l4).toNat) (L true l4) ((a0.put sj v4).put si v) w) :
  ∀(l4:Bool) (v4:Value) (w:World),Inv w->(l4=true->Al v4 w)->(l4=false->v4=undef)->a0.put sj v4=a0->wpG P md ops Q S1 S2 k (n+1+(!l4).toNat) (L false l4) a0 w:=by
 subst hdi hdj;have h1:∀(v4:Value) (w:World),Inv w->Al v4 w->wpG P md ops Q S1 S2 k (n+1) (L false true) (a0.put oj.dst v4) w:=by
  intro v4 w hI hA;refine⟨(fun h0=>by rw[hr1]at h0;cases h0),fun q hq=>?_⟩;rw[hr1]at hq;simp only[List.mem_singleton]at hq;subst hq;refine wpOp_step hoi fun K' hK=>hi v4 K' w hI ?_;intro v w' hb hF;have hI':=hInv _ _ hI hb;refine hK _ _ ⟨⟨(hS _ hI').1,fun _=>(hS _ hI').2⟩,?_⟩;rw[hLi];exact hc true v4 v w' hI' hF (fun _=>hAl _ _ _ hA hb) (fun h=>by cases h)
 intro l4 v4 w hI hA hU ha
 cases l4
 ·have hv:=hU rfl;refine⟨(fun h0=>by rw[hr0]at h0;cases h0),fun q hq=>?_⟩;rw[hr0]at hq;simp only[List.mem_cons,List.not_mem_nil,or_false]at hq;rcases hq with rfl|rfl
  ·refine wpOp_step hoi fun K' hK=>?_;rw[<-ha];refine hi v4 K' w hI ?_;intro v w' hb hF;have hI':=hInv _ _ hI hb;refine hK _ _ ⟨⟨(hS _ hI').1,fun _=>(hS _ hI').2⟩,?_⟩;rw[hLi];exact hc false v4 v w' hI' hF (fun h=>by cases h) (fun _=>hv)
  ·refine wpOp_step hoj fun K' hK=>?_;rw[<-ha];refine hj v4 K' w hI ?_;intro v w' hb hF;have hI':=hInv _ _ hI hb;refine hK _ _ ⟨⟨(hS _ hI').1,fun _=>(hS _ hI').2⟩,?_⟩;rw[hLj,wO];exact h1 v w' hI' hF
 ·rw[<-ha];exact h1 v4 w hI (hA rfl)
theorem zr4{j:Nat}{oj:Oper}(sj:Option Nat)(n:Nat)(L:Bool->Array Bool)(a0:Act)(Inv:World->Prop)(Al:Value->World->Prop)
  (hoj:ops[j]?=some oj)(hdj:oj.dst=sj)(hr0:Region.ready md ops (L false)=[j])(hLj:(L false).setIfInBounds j true=L true)
  (hS:∀w,Inv w->S1 w/\S2 w)(hInv:∀w w',Inv w->Below w.heap.size w w'->Inv w')
  (hj:∀(v4:Value) (K:Act->World->Prop) (w:World),Inv w->Shut (∀v w',Below w.heap.size w w'->Al v w'->K ((a0.put sj v4).put sj v) w')->if Region.wanted oj (yielded ops (a0.put sj v4).tmps)=true then Oper.wp P oj (a0.put sj v4) w K Q else K ((a0.put sj v4).put sj undef) w)
  (wO:∀u v,(a0.put sj u).put sj v=a0.put sj v)
  (hc:∀(v4:Value) (w:World),Inv w->Al v4 w->wpG P md ops Q S1 S2 k n (L true) (a0.put sj v4) w) :
  ∀(l4:Bool) (v4:Value) (w:World),Inv w->(l4=true->Al v4 w)->a0.put sj v4=a0->wpG P md ops Q S1 S2 k (n+(!l4).toNat) (L l4) a0 w:=by
 subst hdj;intro l4 v4 w hI hA ha
 cases l4
 ·refine⟨(fun h0=>by rw[hr0]at h0;cases h0),fun q hq=>?_⟩;rw[hr0]at hq;simp only[List.mem_singleton]at hq;subst hq;refine wpOp_step hoj fun K' hK=>?_;rw[<-ha];refine hj v4 K' w hI ?_;intro v w' hb hF;have hI':=hInv _ _ hI hb;refine hK _ _ ⟨⟨(hS _ hI').1,fun _=>(hS _ hI').2⟩,?_⟩;rw[hLj,wO];exact hc v w' hI' hF
 ·rw[<-ha];exact hc v4 w hI (hA rfl)
end
section
variable {P:Program} {md:Region.Mode} {ops:Array Oper} {Q:Exit->Act->World->Prop} {S1 S2:World->Prop} {k:Nat}
end
attribute [local go_sem] Oper.semAt_some
theorem zz8{W:World}{b:Nat}{x0 x1 x2 x3 x4 x5 u0 u1 u2 u3 u4 u5:Value}{E:TypeId}(h:W.heap[b]?=some (.cells #[x0,x1,x2,x3,x4,x5] E (0,0))) :
  ∃W',((((((W.setCell ⟨b,0,none⟩ u0).setCell ⟨b,1,none⟩ u1).setCell ⟨b,2,none⟩ u2).setCell ⟨b,3,none⟩ u3).setCell ⟨b,4,none⟩ u4).setCell ⟨b,5,none⟩ u5)=W'/\W'.heap[b]?=some (.cells #[u0,u1,u2,u3,u4,u5] E (0,0))/\Chg (fun q=>q=b) W W':=by
 refine⟨_,rfl,?_,((((((Chg.refl (fun q=>q=b) W).setCell (p:=⟨b,0,none⟩) (.inl rfl) _).setCell (p:=⟨b,1,none⟩) (.inl rfl) _).setCell (p:=⟨b,2,none⟩) (.inl rfl) _).setCell (p:=⟨b,3,none⟩) (.inl rfl) _).setCell (p:=⟨b,4,none⟩) (.inl rfl) _).setCell (p:=⟨b,5,none⟩) (.inl rfl) _⟩;simp only[World.setCell,Array.getElem?_modify,if_true,h,Option.map_some];rfl
theorem zqP(p:PG)(v:Value)(w:World)(hv:PV w Any p v)(hval:zkH p=true) :
  Calls prog 36 #[v] w fun e w'=>∃v',e=.returned (.tuple #[v',.int .i64 0])/\PV w' (From w.heap.size) (zkM p) v'/\Below w.heap.size w w':=by
 have BI:=zh (fun w' (h:Below w.heap.size w w')=>hv.later h);have dJ:=zh (And.intro hval (And.intro (zqn hval).1 (zlY hval).2.1));obtain⟨A1,c1,A2,c2,A3,c3,rfl,-⟩:=hv;have hb2:=zkb (zkb (zs w) (.cells #[.slice A1 p.vs.length c1,.slice A2 p.prs.length c2,.int .u8 p.m.k,.int .i64 p.m.n,.string p.m.s,.slice A3 p.m.ks.length c3] 30)) (.cells ZP 30);have k0:=zke (heap_alloc_new w (.cells #[.slice A1 p.vs.length c1,.slice A2 p.prs.length c2,.int .u8 p.m.k,.int .i64 p.m.n,.string p.m.s,.slice A3 p.m.ks.length c3] 30)) (.cells ZP 30);have k1:=heap_alloc_new (w.alloc (.cells #[.slice A1 p.vs.length c1,.slice A2 p.prs.length c2,.int .u8 p.m.k,.int .i64 p.m.n,.string p.m.s,.slice A3 p.m.ks.length c3] 30)) (.cells ZP 30);rw[World.size_alloc]at k1
 obtain⟨w2,hw2⟩:=zX ((w.alloc (.cells #[.slice A1 p.vs.length c1,.slice A2 p.prs.length c2,.int .u8 p.m.k,.int .i64 p.m.n,.string p.m.s,.slice A3 p.m.ks.length c3] 30)).alloc (.cells ZP 30));obtain⟨N,hN⟩:=zX (w.heap.size);rw[hw2]at hb2 k0 k1;have HZ2:=zh (show w2.heap.size=N+2 by rw[<-hw2,<-hN];simp);have HN:=zh hN;rw[hN]at k0 k1;have HC:=zh (zqO p Any _ w2 (BI.out _ hb2) dJ.out.1 (.inr dJ.out.2.1) dJ.out.2.2);have HB2:=zh hb2;have aA:=zh k1;obtain⟨p0,p1,p2,p3,p4,p5⟩:=box6 k0;clear hb2 k0 k1 hval;go_enter func36,ntmps36;go_upto_region 1 with fail
 try rw[hw2]
 try rw[hN]
 clear hw2 hN;go_wp2_with fail;refine HC.out.mono ?_;rintro e w3 ⟨v3,rfl,hv3,hb3⟩;have HV3:=zh hv3;have HB3:=zh hb3;obtain⟨B1,d1,B2,d2,B3,d3,rfl,-⟩:=hv3;have hk3:=zkc aA.out hb3;obtain⟨q0,q1,q2,q3,q4,q5⟩:=box6 hk3;have cf:∀o,w3.frozen? ⟨N+1,o,none⟩=false:=fun o=>zf hk3;obtain⟨w4,hw4,hk4,hc4⟩:=zz8 (u0:=.slice B1 (zkM p).vs.length d1) (u1:=.slice B2 (zkM p).prs.length d2) (u2:=.int .u8 (zkM p).m.k) (u3:=.int .i64 (zkM p).m.n) (u4:=.string (zkM p).m.s) (u5:=.slice B3 (zkM p).m.ks.length d3) hk3;have ay:=zh (show Below w.heap.size w w4 from(zka HB2.out hb3).trans (hc4.below (zka HB2.out hb3).size fun b h=>by have h:b=N+1:=h;have:=HN.out;omega))
 have HV4:=zh (show PV w4 (From w.heap.size) (zkM p) (pv B1 (zkM p).vs.length d1 B2 (zkM p).prs.length d2 (zkM p).m.k (zkM p).m.n (zkM p).m.s B3 (zkM p).m.ks.length d3)from HV3.out.keep (fun q h _=>by have h:w2.heap.size<=q:=h;have:=HZ2.out;have:=HN.out;show w.heap.size<=q;omega) fun q h hlt=>hc4.block q hlt fun e=>by have h:w2.heap.size<=q:=h;have e:q=N+1:=e;have:=HZ2.out;omega);have r:=box6 hk4;clear hb3 hk3 hc4 hk4 p0 p1 p2 p3 p4 p5;obtain⟨r0,r1,r2,r3,r4,r5⟩:=r;go_wp2_with fail;exact bodyPost_ret (v:=.tuple #[pv B1 (zkM p).vs.length d1 B2 (zkM p).prs.length d2 (zkM p).m.k (zkM p).m.n (zkM p).m.s B3 (zkM p).m.ks.length d3,.int .i64 0]) (by simp[results,results36,go_sem,r0,r1,r2,r3,r4,r5]) rfl ⟨_,rfl,HV4.out,ay.out⟩
abbrev exS(w:World)(b:Nat)(e:EX)(A1:Option Addr)(c1:Nat)(A2:Option Addr)(c2:Nat)(A3:Option Addr)(c3:Nat):Prop:=w.cell? ⟨b,0,none⟩=some (.string e.nm)/\w.cell? ⟨b,1,none⟩=some (.int .i64 e.pt)/\w.cell? ⟨b,2,none⟩=some (.int .i64 e.fu)/\w.cell? ⟨b,3,none⟩=some (.int .i64 e.bx.v)/\w.cell? ⟨b,4,none⟩=some (.int .i64 e.bx.l)/\w.cell? ⟨b,5,none⟩=some (.int .i64 e.bx.i) /\
 w.cell? ⟨b,6,none⟩=some (.slice A1 e.gv.vs.length c1)/\w.cell? ⟨b,7,none⟩=some (.slice A2 e.gv.prs.length c2)/\w.cell? ⟨b,8,none⟩=some (.int .u8 e.gv.m.k)/\w.cell? ⟨b,9,none⟩=some (.int .i64 e.gv.m.n)/\w.cell? ⟨b,10,none⟩=some (.string e.gv.m.s)/\w.cell? ⟨b,11,none⟩=some (.slice A3 e.gv.m.ks.length c3)
theorem znE{w:World}{b:Nat}{e:EX}{A1:Option Addr}{c1:Nat}{A2:Option Addr}{c2:Nat}{A3:Option Addr}{c3:Nat}(h:w.heap[b]?=some (.cells (exA e A1 c1 A2 c2 A3 c3) 32 (0,0))):exS w b e A1 c1 A2 c2 A3 c3 :=
 ⟨zc h rfl,zc h rfl,zc h rfl,zc h rfl,zc h rfl,zc h rfl,zc h rfl,zc h rfl,zc h rfl,zc h rfl,zc h rfl,zc h rfl⟩
theorem zun{p:PG}(h:okB p=true):zkH p=true/\chkN p=0/\rjT p=0:=by
 simp only[okB,Bool.and_eq_true,decide_eq_true_eq]at h;exact⟨h.1.1,h.1.2,h.2⟩
theorem zoF(e:EX)(v:Value)(w:World)(hv:EV w Any e v):Calls prog 15 #[v] w fun en w'=>en=.returned (.bool (zk9 e))/\Below w.heap.size w w':=by
 obtain⟨A1,c1,A2,c2,A3,c3,rfl,hg,-⟩:=hv;have hb2:=zkb (zs w) (.cells (exA e A1 c1 A2 c2 A3 c3) 32);have k0:=heap_alloc_new w (.cells (exA e A1 c1 A2 c2 A3 c3) 32);obtain⟨w2,hw2⟩:=zX (w.alloc (.cells (exA e A1 c1 A2 c2 A3 c3) 32));obtain⟨N,hN⟩:=zX (w.heap.size);rw[hw2]at hb2 k0;rw[hN]at k0;have HB:=zh hb2;have HK:=zh (fun w' (h:Below w2.heap.size w2 w')=>znE (zkc k0 h));have HG:=zh (fun w' (h:Below w2.heap.size w2 w')=>(hg.later hb2).later h);have bS:=zh (zs w2);have xK:=zh (zn8 e.nm w2);obtain⟨NB,tC⟩:=zX (zmb e.nm);have qc:=zh tC;rw[tC]at xK;obtain⟨OB,Bf⟩:=zX (okB e.gv);have p9:=zh Bf;have dJ:=zh (fun w' (h:Below w2.heap.size w2 w')=>zyt e.gv _ w' (HG.out _ h).pv);simp only[Bf]at dJ;obtain⟨IB,hIB⟩:=zX (okB (zkM e.gv));have BU:=zh hIB;obtain⟨VX,mK⟩:=zX (zk9 e);have jE:=zh mK;rw[mK];clear hb2 k0 hg tC Bf hIB mK
 obtain⟨x0,x1,x2,x3,x4,x5,x6,x7,x8,x9,aJ,aI⟩:=HK.out _ bS.out;go_enter func15,ntmps15;go_upto_region 1 with fail
 try rw[hw2]
 try rw[hN]
 clear hw2 hN;go_wp2_with fail;refine xK.out.mono ?_;rintro en w3 ⟨rfl,hb3⟩;have aX:=zh (zka bS.out hb3);clear x0 x1 x2 x3 x4 x5 x6 x7 x8 x9 aJ aI hb3 xK;obtain⟨x0,x1,x2,x3,x4,x5,x6,x7,x8,x9,aJ,aI⟩:=HK.out _ aX.out
 cases NB
 ·have HF:=zh (show zk9 e=false by unfold zk9;rw[qc.out];rfl);go_wp2_with fail;go_ret;exact⟨by rw[<-jE.out,HF.out];rfl,zka HB.out aX.out⟩
 by_cases h1:e.pt<1
 ·have HF:=zh (show zk9 e=false by unfold zk9;rw[decide_eq_false (show ¬ (1<=e.pt/\e.pt<=1000) by omega)];simp);go_wp2_with fail;go_ret;exact⟨by rw[<-jE.out,HF.out];rfl,zka HB.out aX.out⟩
 by_cases h2:(1000:Int)<e.pt
 ·have HF:=zh (show zk9 e=false by unfold zk9;rw[decide_eq_false (show ¬ (1<=e.pt/\e.pt<=1000) by omega)];simp);go_wp2_with fail;go_ret;exact⟨by rw[<-jE.out,HF.out];rfl,zka HB.out aX.out⟩
 by_cases h3:e.fu<0
 ·have HF:=zh (show zk9 e=false by unfold zk9;rw[decide_eq_false (show ¬ (0<=e.fu/\e.fu<=1000000) by omega)];simp);go_wp2_with fail;go_ret;exact⟨by rw[<-jE.out,HF.out];rfl,zka HB.out aX.out⟩
 by_cases h4:(1000000:Int)<e.fu
 ·have HF:=zh (show zk9 e=false by unfold zk9;rw[decide_eq_false (show ¬ (0<=e.fu/\e.fu<=1000000) by omega)];simp);go_wp2_with fail;go_ret;exact⟨by rw[<-jE.out,HF.out];rfl,zka HB.out aX.out⟩
 have HPF:=zh (show(1<=e.pt/\e.pt<=1000)/\(0<=e.fu/\e.fu<=1000000) by omega);go_wp2_with fail;refine(dJ.out _ aX.out).mono ?_;rintro en w4 ⟨rfl,hb4⟩;have bJ:=zh (zka aX.out hb4);clear x0 x1 x2 x3 x4 x5 x6 x7 x8 x9 aJ aI hb4 h1 h2 h3 h4;obtain⟨x0,x1,x2,x3,x4,x5,x6,x7,x8,x9,aJ,aI⟩:=HK.out _ bJ.out
 cases OB
 ·have HF:=zh (show zk9 e=false by unfold zk9;rw[p9.out];simp);go_wp2_with fail;go_ret;exact⟨by rw[<-jE.out,HF.out];rfl,zka HB.out bJ.out⟩
 have HIP:=zh (zqP e.gv _ w4 (HG.out _ bJ.out).pv (zun p9.out).1);go_wp2_with fail;refine HIP.out.mono ?_;rintro en w5 ⟨v5,rfl,hv5,hb5⟩;have HV5:=zh hv5;obtain⟨B1,d1,B2,d2,B3,d3,rfl,-⟩:=hv5;have hb6:=zkb hb5 (.cells #[.slice B1 (zkM e.gv).vs.length d1,.slice B2 (zkM e.gv).prs.length d2,.int .u8 (zkM e.gv).m.k,.int .i64 (zkM e.gv).m.n,.string (zkM e.gv).m.s,.slice B3 (zkM e.gv).m.ks.length d3] 30);have k6:=heap_alloc_new w5 (.cells #[.slice B1 (zkM e.gv).vs.length d1,.slice B2 (zkM e.gv).prs.length d2,.int .u8 (zkM e.gv).m.k,.int .i64 (zkM e.gv).m.n,.string (zkM e.gv).m.s,.slice B3 (zkM e.gv).m.ks.length d3] 30)
 have hv6:=HV5.out.later (zkb (zs w5) (.cells #[.slice B1 (zkM e.gv).vs.length d1,.slice B2 (zkM e.gv).prs.length d2,.int .u8 (zkM e.gv).m.k,.int .i64 (zkM e.gv).m.n,.string (zkM e.gv).m.s,.slice B3 (zkM e.gv).m.ks.length d3] 30));go_upto_region 6 with fail;obtain⟨w6,jR⟩:=zX (w5.alloc (.cells #[.slice B1 (zkM e.gv).vs.length d1,.slice B2 (zkM e.gv).prs.length d2,.int .u8 (zkM e.gv).m.k,.int .i64 (zkM e.gv).m.n,.string (zkM e.gv).m.s,.slice B3 (zkM e.gv).m.ks.length d3] 30));obtain⟨N6,Bh⟩:=zX (w5.heap.size);rw[jR]at hb6 k6 hv6
 try rw[jR]
 rw[Bh]at k6
 try rw[Bh]
 have dS:=zh (zka bJ.out hb6);have BJ:=zh (zyt (zkM e.gv) _ w6 (hv6.keep (S':=Any) (fun _ _ _=>trivial) fun _ _ _=>rfl));rw[BU.out]at BJ;obtain⟨p0,p1,p2,p3,p4,p5⟩:=box6 k6;clear x0 x1 x2 x3 x4 x5 x6 x7 x8 x9 aJ aI hb5 hb6 k6 hv6 jR Bh HIP HV5;go_wp2_with fail;refine BJ.out.mono ?_;rintro en w7 ⟨rfl,eX⟩;have gY:=zh (zka dS.out eX);clear p0 p1 p2 p3 p4 p5 eX BJ;obtain⟨x0,x1,x2,x3,x4,x5,x6,x7,x8,x9,aJ,aI⟩:=HK.out _ gY.out
 cases IB
 ·have HF:=zh (show zk9 e=false by unfold zk9;rw[BU.out];simp);go_wp2_with fail;go_ret;exact⟨by rw[<-jE.out,HF.out];rfl,zka HB.out gY.out⟩
 have lh:=zh (zwb e.gv.vs e.bx A1 c1 w7 (HG.out _ gY.out).vars (HG.out _ gY.out).lv);obtain⟨R,hR⟩:=zX (cntR e.gv.vs e.bx);have HR:=zh hR;rw[hR]at lh;clear hR;have HVE:=zh (show zk9 e=decide (R.2=0/\R.1<=65536) by
  unfold zk9;rw[qc.out,p9.out,BU.out,decide_eq_true HPF.out.1,decide_eq_true HPF.out.2,HR.out];simp)
 go_wp2_with fail;refine lh.out.mono ?_;rintro en w8 ⟨rfl,cB⟩;have oD:=zh (zka gY.out cB);clear x0 x1 x2 x3 x4 x5 x6 x7 x8 x9 aJ aI cB lh;by_cases hr:R.2=0
 ·have hr1:(R.2==0)=true:=by simp[hr]
  go_wp2_with fail;go_ret;have e1:decide (R.1<=65536)=VX:=by rw[<-jE.out,HVE.out];exact decide_eq_decide.2 ⟨fun h=>⟨hr,h⟩,fun h=>h.2⟩
  exact⟨congrArg (fun b=>Ending.returned (.bool b)) e1,zka HB.out oD.out⟩
 ·have hr1:(R.2==0)=false:=by simp[hr]
  go_wp2_with fail;go_ret;have e1:VX=false:=by rw[<-jE.out,HVE.out];exact decide_eq_false fun h=>hr h.1
  exact⟨congrArg (fun b=>Ending.returned (.bool b)) e1.symm,zka HB.out oD.out⟩
end
section
open Go Go.RowKit
attribute [local go_sem] Oper.semAt_some
theorem zKs:IsFn prog 14 f14:=⟨func14,by kernel_rfl,by kernel_rfl⟩
theorem al4G(W:World)(o0 o1 o2 o3:Obj):Below W.heap.size W ((((W.alloc o0).alloc o1).alloc o2).alloc o3)/\((((W.alloc o0).alloc o1).alloc o2).alloc o3).heap.size=W.heap.size+4/\((((W.alloc o0).alloc o1).alloc o2).alloc o3).heap[W.heap.size]?=some o0/\((((W.alloc o0).alloc o1).alloc o2).alloc o3).heap[W.heap.size+1]?=some o1/\((((W.alloc o0).alloc o1).alloc o2).alloc o3).heap[W.heap.size+2]?=some o2/\((((W.alloc o0).alloc o1).alloc o2).alloc o3).heap[W.heap.size+3]?=some o3 :=
 ⟨zkb (zkb (zkb (zkb zr _) _) _) _,by simp,zke (zke (zke (zoO _ rfl _) _) _) _,zke (zke (zoO _ (by simp) _) _) _,zke (zoO _ (by simp) _) _,zoO _ (by simp) _⟩
abbrev pgA(p:PG)(A1:Option Addr)(c1:Nat)(A2:Option Addr)(c2:Nat)(A3:Option Addr)(c3:Nat):Array Value := #[.slice A1 p.vs.length c1,.slice A2 p.prs.length c2,.int .u8 p.m.k,.int .i64 p.m.n,.string p.m.s,.slice A3 p.m.ks.length c3]
abbrev stC(w':World)(b:Nat)(A:Option Addr)(l c:Nat)(B:Option Addr)(m d:Nat)(D:Option Addr)(n e:Nat):Prop:=w'.cell? ⟨b,0,none⟩=some (.slice A l c)/\w'.cell? ⟨b,1,none⟩=some (.slice B m d)/\w'.cell? ⟨b,2,none⟩=some (.slice D n e)
abbrev reS(w:World)(b:Nat)(A:Option Addr)(l c:Nat)(B:Option Addr)(l2 c2:Nat)(D:Option Addr)(l3 c3:Nat)(n e:Int):Prop:=w.cell? ⟨b,0,none⟩=some (.slice A l c)/\w.cell? ⟨b,1,none⟩=some (.slice B l2 c2)/\w.cell? ⟨b,2,none⟩=some (.slice D l3 c3)/\w.cell? ⟨b,3,none⟩=some (.int .i64 n)/\w.cell? ⟨b,4,none⟩=some (.int .i64 e)
theorem zKW{w:World}{b l c l2 c2 l3 c3:Nat}{A B D:Option Addr}{n e:Int}(h:w.heap[b]?=some (.cells #[.slice A l c,.slice B l2 c2,.slice D l3 c3,.int .i64 n,.int .i64 e] 58 (0,0))):reS w b A l c B l2 c2 D l3 c3 n e :=
 ⟨zc h rfl,zc h rfl,zc h rfl,zc h rfl,zc h rfl⟩
theorem zqQ{W:World}{e:EX}{q:PG}{s1 s:SS}{ev qv v1 v:Value}(he:EV W Any e ev)(hq:PV W Any q qv)(h1:SV W Any s1 v1)(h:SV W Any s v)(hc:s1.cells.length<=2000000)(hF:e.fu<=1000000) :
  Calls prog 30 #[ev,qv,v1,v] W fun en w'=>en=.returned (.tuple #[.bool (gerE q e.fu s1==0&&eqS (gstE q e.fu s1) s),.int .i64 (gerE q e.fu s1)])/\Below W.heap.size W w':=by
 have HQ:=zh (fun w' (hb:Below W.heap.size W w')=>hq.later hb);have bR:=zh (fun w' (hb:Below W.heap.size W w')=>h1.later hb);have HS:=zh (fun w' (hb:Below W.heap.size W w')=>h.later hb);obtain⟨A1,c1,A2,c2,A3,c3,rfl,-,hI⟩:=he;obtain⟨D1,e1,D2,e2,D3,e3,rfl,-⟩:=hq;obtain⟨Aa,ca,Ba,da,Da,ea,rfl⟩:∃A c B d D e,v1=.agg #[.slice A s1.cells.length c,.slice B s1.tin.length d,.slice D s1.tout.length e]:=by
  obtain⟨A,c,B,d,D,e,h,-⟩:=h1;exact⟨_,_,_,_,_,_,h⟩
 obtain⟨Ab,cb,Bb,db,Db,eb,rfl⟩:∃A c B d D e,v=.agg #[.slice A s.cells.length c,.slice B s.tin.length d,.slice D s.tout.length e]:=by
  obtain⟨A,c,B,d,D,e,h,-⟩:=h;exact⟨_,_,_,_,_,_,h⟩
 obtain⟨hb2,hz2,k0,k1,k2,k3⟩:=al4G W (.cells (exA e A1 c1 A2 c2 A3 c3) 32) (.cells (pgA q D1 e1 D2 e2 D3 e3) 30) (.cells #[.slice Aa s1.cells.length ca,.slice Ba s1.tin.length da,.slice Da s1.tout.length ea] 44) (.cells #[.slice Ab s.cells.length cb,.slice Bb s.tin.length db,.slice Db s.tout.length eb] 44);obtain⟨w2,hw2⟩:=zX ((((W.alloc (.cells (exA e A1 c1 A2 c2 A3 c3) 32)).alloc (.cells (pgA q D1 e1 D2 e2 D3 e3) 30)).alloc (.cells #[.slice Aa s1.cells.length ca,.slice Ba s1.tin.length da,.slice Da s1.tout.length ea] 44)).alloc (.cells #[.slice Ab s.cells.length cb,.slice Bb s.tin.length db,.slice Db s.tout.length eb] 44));obtain⟨N,hN⟩:=zX (W.heap.size);rw[hw2]at hb2 hz2 k0 k1 k2 k3;rw[hN]at hz2 k0 k1 k2 k3;have HB2:=zh hb2;have fB:=zh k3;have Ca:=zh (zoT q s1 e.fu (e.fu.toNat*2000+2000) _ _ w2 (HQ.out _ hb2) (bR.out _ hb2) (by omega) hI hF zl)
 have yP:=zh (show gerE q e.fu s1=(resO q s1 e.fu (e.fu.toNat*2000+2000) false).2.2.1/\gstE q e.fu s1=(resO q s1 e.fu (e.fu.toNat*2000+2000) false).1 from⟨rfl,rfl⟩);obtain⟨GE,hGE⟩:=zX (gerE q e.fu s1);obtain⟨GS,hGS⟩:=zX (gstE q e.fu s1);rw[hGE,hGS]at yP ⊢;generalize resO q s1 e.fu (e.fu.toNat*2000+2000) false=R at Ca yP;have x2:w2.cell? ⟨N,2,none⟩=some (.int .i64 e.fu):=zc k0 rfl;obtain⟨q0,q1,q2,q3,q4,q5⟩:=box6 k1;obtain⟨y0,y1,y2⟩:=zlD k2;clear hb2 hz2 k0 k1 k2 k3 h1 h hI hc hF hGE hGS;go_enter func30,ntmps30;go_upto_region 1 with fail
 try rw[hw2]
 try rw[hN]
 try simp only[Nat.add_assoc,Nat.reduceAdd]
 clear hw2 hN;go_wp2_with fail;refine Ca.out.mono ?_;rintro en w3 ⟨u1,u2,u3,rfl,ho,hb3,hl⟩;obtain⟨Ac,cc,Bc,dc,Dc,ec,hu⟩:=ho.slices;injection hu with hu;simp only[Array.mk.injEq,List.cons.injEq,and_true]at hu;obtain⟨rfl,rfl,rfl⟩:=hu;have hsv:=ho.sv hl.1;have HB3:=zh (zka HB2.out hb3);have hb4:=zkb hb3 (.cells #[.slice Ac R.1.cells.length cc,.slice Bc R.1.tin.length dc,.slice Dc R.1.tout.length ec,.int .i64 (R.2.1:Int),.int .i64 R.2.2.1] 58);have k4:=heap_alloc_new w3 (.cells #[.slice Ac R.1.cells.length cc,.slice Bc R.1.tin.length dc,.slice Dc R.1.tout.length ec,.int .i64 (R.2.1:Int),.int .i64 R.2.2.1] 58);have hs4:=hsv.later (zkb (zs w3) (.cells #[.slice Ac R.1.cells.length cc,.slice Bc R.1.tin.length dc,.slice Dc R.1.tout.length ec,.int .i64 (R.2.1:Int),.int .i64 R.2.2.1] 58));clear x2 q0 q1 q2 q3 q4 q5 y0 y1 y2 hsv hl ho hb3 Ca;go_upto_region 2 with fail
 obtain⟨w4,hw4⟩:=zX (w3.alloc (.cells #[.slice Ac R.1.cells.length cc,.slice Bc R.1.tin.length dc,.slice Dc R.1.tout.length ec,.int .i64 (R.2.1:Int),.int .i64 R.2.2.1] 58));obtain⟨N4,Bi⟩:=zX (w3.heap.size);rw[hw4]at hb4 k4 hs4
 try rw[hw4]
 rw[Bi]at k4
 try rw[Bi]
 have ay:=zh (zka HB2.out hb4);have jF:=zh (fun w' (h:Below w4.heap.size w4 w')=>hs4.later h);have HST:=zh (fun w' (h:Below w4.heap.size w4 w')=>(⟨zKW (zkc k4 h),zlD (zkc (zkc fB.out hb4) h)⟩:reS w' N4 Ac R.1.cells.length cc Bc R.1.tin.length dc Dc R.1.tout.length ec (R.2.1:Int) R.2.2.1/\stC w' (N+3) Ab s.cells.length cb Bb s.tin.length db Db s.tout.length eb));have hSS:zW (fun w':World=>reS w' N4 Ac R.1.cells.length cc Bc R.1.tin.length dc Dc R.1.tout.length ec (R.2.1:Int) R.2.2.1/\stC w' (N+3) Ab s.cells.length cb Bb s.tin.length db Db s.tout.length eb) zU w4.drew:=⟨HST.out _ zr.drew,trivial⟩
 clear hb4 k4 hs4 hw4 Bi;obtain⟨Bp,h0b⟩:=yP.out;obtain⟨n0,hn0⟩:=zX (R.2.1);obtain⟨r0,hr0⟩:=zX (R.2.2.1);rw[hr0]at Bp;rw[hn0,hr0]at HST hSS ⊢;have bD:=zh Bp;have lg:=zh h0b;clear Bp h0b hn0 hr0 yP;refine wp_region_noPanic ?_;refine zkk (fun w':World=>reS w' N4 Ac R.1.cells.length cc Bc R.1.tin.length dc Dc R.1.tout.length ec (n0:Int) r0/\stC w' (N+3) Ab s.cells.length cb Bb s.tin.length db Db s.tout.length eb) zU 20 (by kernel_rfl) ?_;by_cases hr:r0=0
 ·subst hr;have hr1:((0:Int)==0)=true:=by decide
  refine zT 0 hSS ?_;refine zT 1 hSS ?_;refine zT 2 hSS ?_;refine zT 3 hSS ?_;refine zT 4 hSS ?_;refine zT 5 hSS ?_;refine zT 6 hSS ?_;refine zT 9 hSS ?_;refine zT 10 hSS ?_;have hcon:=zvN R.1 s _ _ w4.drew (jF.out _ zr.drew |>.keep (S':=Any) (fun _ _ _=>trivial) fun _ _ _=>rfl) (HS.out _ (ay.out.trans (zr.drew.mono ay.out.size)));have had:Calls prog 14 [.agg #[.slice Ac R.1.cells.length cc,.slice Bc R.1.tin.length dc,.slice Dc R.1.tout.length ec],.agg #[.slice Ab s.cells.length cb,.slice Bb s.tin.length db,.slice Db s.tout.length eb]].toArray w4.drew fun e' W'=>∃z,e'=.returned z/\(z=.bool (eqS R.1 s)/\Below w4.heap.size w4 W'):=hcon.mono fun e' W' ⟨h1,h2⟩=>⟨_,h1,rfl,(zs w4).drew.trans (h2.mono (zs w4).drew.size)⟩
  refine zo 7 fun K hK=>?_;refine zld (by rfl) (.func 14) [.tmp 21,.tmp 22] _ (by rfl) 14 _ zKs (by rfl) [.agg #[.slice Ac R.1.cells.length cc,.slice Bc R.1.tin.length dc,.slice Dc R.1.tout.length ec],.agg #[.slice Ab s.cells.length cb,.slice Bb s.tin.length db,.slice Db s.tout.length eb]] (by rfl) _ had ?_;rintro z w5 ⟨rfl,hb5⟩;have hS2:zW (fun w':World=>reS w' N4 Ac R.1.cells.length cc Bc R.1.tin.length dc Dc R.1.tout.length ec (n0:Int) 0/\stC w' (N+3) Ab s.cells.length cb Bb s.tin.length db Db s.tout.length eb) zU w5:=⟨HST.out _ hb5,trivial⟩
  refine hK.out _ _ hS2 ?_;clear hK K had hcon hSS;(try simp only[zQ]);refine zT 8 hS2 ?_;refine zT 11 hS2 ?_;refine zT 12 hS2 ?_;refine zd ?_;refine NoPanic.normal ?_;have ll:=zh (zka ay.out hb5);clear hS2 hb5;go_wp2_with fail;exact bodyPost_ret (v:=.tuple #[.bool (eqS R.1 s),.int .i64 0]) (by simp[results,results30,go_sem]) rfl ⟨by rw[bD.out,lg.out,hr1];rfl,ll.out⟩
 ·have hr1:(r0==0)=false:=by simp[hr]
  refine zT 0 hSS ?_;refine zT 1 hSS ?_;refine zT 2 hSS ?_;refine zT 3 hSS ?_;refine zkp (i:=4) (v:=undef) rfl (by kernel_rfl) (by kernel_rfl) (by kernel_rfl) (by decide) (fun _ _ _ h=>h) (Or.inr ⟨by rfl,rfl⟩) hSS ?_;(try simp only[zQ]);refine zkp (i:=5) (v:=undef) rfl (by kernel_rfl) (by kernel_rfl) (by kernel_rfl) (by decide) (fun _ _ _ h=>h) (Or.inr ⟨by rfl,rfl⟩) hSS ?_;(try simp only[zQ]);refine zkp (i:=6) (v:=undef) rfl (by kernel_rfl) (by kernel_rfl) (by kernel_rfl) (by decide) (fun _ _ _ h=>h) (Or.inr ⟨by rfl,rfl⟩) hSS ?_;(try simp only[zQ]);refine zkp (i:=7) (v:=undef) rfl (by kernel_rfl) (by kernel_rfl) (by kernel_rfl) (by decide) (fun _ _ _ h=>h) (Or.inr ⟨by rfl,rfl⟩) hSS ?_;(try simp only[zQ]);refine zT 8 hSS ?_;refine zT 9 hSS ?_;refine zT 10 hSS ?_;refine zT 11 hSS ?_;refine zT 12 hSS ?_;refine zd ?_;refine NoPanic.normal ?_;go_wp2_with fail
  exact bodyPost_ret (v:=.tuple #[.bool false,.int .i64 r0]) (by simp[results,results30,go_sem]) rfl ⟨by rw[bD.out,hr1];rfl,ay.out.trans (zr.drew.mono ay.out.size)⟩
end
section
open Go Go.RowKit
theorem zKV(s1 s2:ByteArray)(k1 k2 n1 n2:Int)(w:World):(Op.equalIn 10000 38 (.agg #[.string s1,.int .u8 k1,.int .i64 n1]) (.agg #[.string s2,.int .u8 k2,.int .i64 n2])).run prog w=.ok (s1.toList==s2.toList&&k1==k2&&n1==n2) w:=by
 have hS:prog.underlying 38=some (.struct (prog.fieldsOf 38)):=by kernel_rfl
 have hp:prog.stoodInHeld 38=false:=by kernel_rfl
 rw[show(10000:Nat)=9999+1 from rfl,run_equalIn_agg w 9999 38 _ _ hS hp];simp only[Program.fieldsOf,underlying38];go_simp;by_cases h1:s1.toList=s2.toList<;>by_cases h2:k1=k2<;>by_cases h3:n1=n2<;>simp[h1,h2,h3]
def eqV(u v:VD):Bool:=decide (u.s=v.s)&&decide (u.k=v.k)&&decide (u.n=v.n)
def eqVs:List VD->List VD->Bool
 | [],[]=>true
 | u::us,v::vs=>eqV u v&&eqVs us vs
 | _,_=>false
theorem zp5{u v:VD}:eqV u v=true↔u=v:=by
 obtain⟨a,b,c⟩:=u;obtain⟨d,e,f⟩:=v;simp[eqV,and_assoc]
theorem zmQ:∀ {us vs:List VD},eqVs us vs=true↔us=vs
 | [],[]=>by simp[eqVs]
 | u::us,v::vs=>by simp[eqVs,zp5,zmQ (us:=us) (vs:=vs)]
 | [],_::_=>by simp[eqVs]
 | _::_,[]=>by simp[eqVs]
theorem zsT(s1 s2:ByteArray):(s1.toList==s2.toList)=decide (s1=s2):=by
 rw[ByteArray.toList_eq,ByteArray.toList_eq];obtain⟨⟨x⟩⟩:=s1;obtain⟨⟨y⟩⟩:=s2;by_cases h:x=y
 ·subst h;simp
 ·simp[h]
theorem zz5(s1 s2:ByteArray)(k1 k2 n1 n2:Int)(w:World):(binOp BinOp.neq 38 (.agg #[.string s1,.int .u8 k1,.int .i64 n1]) (.agg #[.string s2,.int .u8 k2,.int .i64 n2])).run prog w=.ok (.bool (!eqV ⟨s1,k1,n1⟩ ⟨s2,k2,n2⟩)) w:=by
 rw[run_neq_struct,zKV];simp only[Result.andThen_ok,zsT,eqV];congr 3
theorem ztM(x y:Operand)(xs ys:Array Value)(w:World):(eqGuard BinOp.neq 38 x y (.agg xs) (.agg ys)).run prog w=.ok () w:=run_eqGuard_agg w _ _ x y xs ys (by kernel_rfl)
theorem zz3{vs us:List VD}{j:Nat}(h1:j<vs.length)(h2:j<us.length)(h:eqV vs[j] us[j]=false):eqVs vs us=false:=by
 cases e:eqVs vs us with
 | false=>rfl
 | true =>
  have e:=zmQ.1 e;subst e;rw[zp5.2 rfl]at h
  cases h
theorem zx9{vs us:List VD}(h:vs.length≠us.length):eqVs vs us=false:=by
 cases e:eqVs vs us with
 | false=>rfl
 | true=>exact absurd (by rw[zmQ.1 e]) h
theorem zz4{vs us:List VD}(hl:vs.length=us.length)(h:∀k (h1:k<vs.length) (h2:k<us.length),vs[k]=us[k]):eqVs vs us=true:=zmQ.2 (List.ext_getElem hl fun i h1 h2=>h i h1 h2)
theorem zzR{W:World}{vs us:List VD}{A B:Option Addr}{c d:Nat}(h1:RowV W Any A vs)(h2:RowV W Any B us)(hl:vs.length<=LV)(hk:us.length<=LV) :
  Calls prog 62 #[.slice A vs.length c,.slice B us.length d] W fun e W'=>e=.returned (.bool (eqVs vs us))/\Below W.heap.size W W':=by
 have H1:=zh h1;have H2:=zh h2;have hl1:=zkW hl;have hl2:=zkW hk;clear h1 h2 hl hk;have hneq:=zz5;have hgd:=ztM;obtain⟨n,hn⟩:=zX (vs.length);obtain⟨m,hm⟩:=zX (us.length);have HN:=zh (And.intro hn hm);rw[hn]at hl1 ⊢;rw[hm]at hl2 ⊢;clear hn hm;obtain⟨R,hR⟩:=zX (eqVs vs us);have HR:=zh hR;rw[hR];clear hR;go_enter func62,ntmps62;by_cases hnm:n=m;rotate_left 1
 ·have e0:((n:Int) != (m:Int))=true:=by simp;omega
  go_wp2_with fail;go_ret;exact⟨by rw[<-HR.out,zx9 (by have:=HN.out;omega)];rfl,zr⟩
 subst hnm;go_wp2_with fail
 go_loopw [13] (fun i wr=>∃j:Nat,j<=n/\i=.int .i64 j/\Hid (Below W.heap.size W wr)/\Hid (∀k (h1:k<vs.length) (h2:k<us.length),k<j->vs[k]=us[k])) (fun i _=>n-(intOf i).toNat)
 case atStart=>exact⟨0,by omega,rfl,zh zr,zh fun k _ _ h=>by omega⟩
 case round =>
  obtain⟨j,hj,rfl,HB,HE⟩:=hrel;by_cases hlt:j<n
  ·have hj1:(j:Int)<(n:Int):=by omega
   have hj0:(0:Int)<=(j:Int):=by omega
   have dz:j<vs.length:=by rw[HN.out.1];exact hlt
   have wT:j<us.length:=by rw[HN.out.2];exact hlt
   obtain⟨a,v,rfl,-,hv,⟨x0,x1,x2⟩,-⟩:=(H1.out.later HB.out).nd dz;obtain⟨b,u,rfl,-,hu,⟨y0,y1,y2⟩,-⟩:=(H2.out.later HB.out).nd wT;obtain⟨v0,v1,v2⟩:=v;obtain⟨u0,u1,u2⟩:=u;simp only at x0 x1 x2 y0 y1 y2;have hvv:=hv.out;have jc:=hu.out;obtain⟨t,ht⟩:=zX (eqV ⟨v0,v1,v2⟩ ⟨u0,u1,u2⟩);have hnn:=fun w=>(hneq v0 u0 v1 u1 v2 u2 w).trans (by rw[ht]);have HT:=zh (show eqV vs[j] us[j]=t by rw[hvv,jc];exact ht);have HJ:=zh (And.intro dz wT);clear ht hneq hv hu hvv jc
   cases t
   ·go_upto_region 6 with fail
    go_quiet (fail)
    have bF:=zh (zkJ HB.out nq);go_wp2_with fail;go_ret;exact⟨by rw[<-HR.out,zz3 HJ.out.1 HJ.out.2 HT.out];rfl,bF.out⟩
   ·go_upto_region 6 with fail
    go_quiet (fail)
    have bF:=zh (zkJ HB.out nq);go_wp2_with fail
    go_roundw
    case rel =>
     refine⟨j+1,by omega,by go_num,bF,zh fun k h1 h2 hk=>?_⟩;by_cases e:k<j
     ·exact HE.out k h1 h2 e
     ·obtain rfl:k=j:=by omega
      exact zp5.1 HT.out
    case measure=>simp[intOf];omega
  ·obtain rfl:j=n:=by omega
   have hj1:¬ (j:Int)<(j:Int):=by omega
   go_wp2_with fail;go_ret;exact⟨by rw[<-HR.out,zz4 (by have:=HN.out;omega) fun k h1 h2=>HE.out k h1 h2 (by have:=HN.out;omega)];rfl,HB.out⟩
theorem zxN{W:World}{vs us:List VD}{A B:Option Addr}{c d:Nat}(h1:RowV W Any A vs)(h2:RowV W Any B us)(hl:vs.length<=LV)(hk:us.length<=LV) :
  Calls prog 28 #[.slice A vs.length c,.slice B us.length d] W fun e W'=>e=.returned (.bool (eqVs vs us))/\Below W.heap.size W W':=by
 have H1:=zh h1;have H2:=zh h2;have hl1:=zkW hl;have hl2:=zkW hk;clear h1 h2 hl hk;have hneq:=zz5;have hgd:=ztM;obtain⟨n,hn⟩:=zX (vs.length);obtain⟨m,hm⟩:=zX (us.length);have HN:=zh (And.intro hn hm);rw[hn]at hl1 ⊢;rw[hm]at hl2 ⊢;clear hn hm;obtain⟨R,hR⟩:=zX (eqVs vs us);have HR:=zh hR;rw[hR];clear hR;go_enter func28,ntmps28;by_cases hnm:n=m;rotate_left 1
 ·have e0:((n:Int) != (m:Int))=true:=by simp;omega
  go_wp2_with fail;go_ret;exact⟨by rw[<-HR.out,zx9 (by have:=HN.out;omega)];rfl,zr⟩
 subst hnm;go_wp2_with fail
 go_loopw [5] (fun i wr=>∃j:Nat,j<=n/\i=.int .i64 j/\Hid (Below W.heap.size W wr)/\Hid (∀k (h1:k<vs.length) (h2:k<us.length),k<j->vs[k]=us[k])) (fun i _=>n-(intOf i).toNat)
 case atStart=>exact⟨0,by omega,rfl,zh zr,zh fun k _ _ h=>by omega⟩
 case round =>
  obtain⟨j,hj,rfl,HB,HE⟩:=hrel;by_cases hlt:j<n
  ·have hj1:(j:Int)<(n:Int):=by omega
   have hj0:(0:Int)<=(j:Int):=by omega
   have dz:j<vs.length:=by rw[HN.out.1];exact hlt
   have wT:j<us.length:=by rw[HN.out.2];exact hlt
   obtain⟨a,v,rfl,-,hv,⟨x0,x1,x2⟩,-⟩:=(H1.out.later HB.out).nd dz;obtain⟨b,u,rfl,-,hu,⟨y0,y1,y2⟩,-⟩:=(H2.out.later HB.out).nd wT;obtain⟨v0,v1,v2⟩:=v;obtain⟨u0,u1,u2⟩:=u;simp only at x0 x1 x2 y0 y1 y2;have hvv:=hv.out;have jc:=hu.out;obtain⟨t,ht⟩:=zX (eqV ⟨v0,v1,v2⟩ ⟨u0,u1,u2⟩);have hnn:=fun w=>(hneq v0 u0 v1 u1 v2 u2 w).trans (by rw[ht]);have HT:=zh (show eqV vs[j] us[j]=t by rw[hvv,jc];exact ht);have HJ:=zh (And.intro dz wT);clear ht hneq hv hu hvv jc
   cases t
   ·go_upto_region 6 with fail
    go_quiet (fail)
    have bF:=zh (zkJ HB.out nq);go_wp2_with fail;go_ret;exact⟨by rw[<-HR.out,zz3 HJ.out.1 HJ.out.2 HT.out];rfl,bF.out⟩
   ·go_upto_region 6 with fail
    go_quiet (fail)
    have bF:=zh (zkJ HB.out nq);go_wp2_with fail
    go_roundw
    case rel =>
     refine⟨j+1,by omega,by go_num,bF,zh fun k h1 h2 hk=>?_⟩;by_cases e:k<j
     ·exact HE.out k h1 h2 e
     ·obtain rfl:k=j:=by omega
      exact zp5.1 HT.out
    case measure=>simp[intOf];omega
  ·obtain rfl:j=n:=by omega
   have hj1:¬ (j:Int)<(j:Int):=by omega
   go_wp2_with fail;go_ret;exact⟨by rw[<-HR.out,zz4 (by have:=HN.out;omega) fun k h1 h2=>HE.out k h1 h2 (by have:=HN.out;omega)];rfl,HB.out⟩
attribute [local go_sem] Oper.semAt_some
theorem zu9{W:World}{base n c:Nat}{A:Option Addr}{xs:List Value}{es:List Int}(h:W.ownsRow base 73 4 (.slice A n c) n xs)(hr:RjO es xs)(hn:n≠0) :
  ∃g,A=some ⟨g,0,none⟩/\W.cell? ⟨g,2,none⟩=some (.int .i64 (es.headD 0)):=by
 have h0:=h;obtain⟨hl,h1|⟨g,cap,cur,he,-⟩⟩:=h
 ·exact absurd h1.2 hn
 injection he with he1 _ he2;subst he1 he2;refine⟨g,rfl,?_⟩;rw[h0.cellAt 2 (by omega)]
 match xs,hl with
 | a::b::c::d::r,hl =>
  have h2:=hr.2
  match es,h2 with
  | [],h2=>simp[er4]at h2
  | x::es,h2 =>
   simp only[er4,List.map_cons,List.cons.injEq]at h2;rw[h2.1];rfl
 | [],hl=>simp at hl;omega
 | [_],hl=>simp at hl;omega
 | [_,_],hl=>simp at hl;omega
 | [_,_,_],hl=>simp at hl;omega
def admP(vs:List VD)(q:PG):Int:=if zkH q=true then(if chkN q=0 then(if rjT q=0 then(if eqVs q.vs vs=true then 0 else 7)else(rjA q).headD 0)else 3)else 3
def admE(e:EX)(q:PG):Int:=if zk9 e=true then admP e.gv.vs q else 1
def ChkO(W:World)(q:PG)(en:Ending)(w':World):Prop:=∃A n c,en=.returned (.slice A n c)/\((zkH q=true/\chkN q=0)->n=rjT q/\(n≠0->∃g,A=some ⟨g,0,none⟩/\w'.cell? ⟨g,2,none⟩=some (.int .i64 ((rjA q).headD 0))))/\Below W.heap.size W w'
theorem zre{W:World}{q:PG}{v:Value}(hq:PV W Any q v):Calls prog 27 #[v] W (ChkO W q):=by
 by_cases hval:zkH q=true
 ·by_cases hch:chkN q=0
  ·refine(zrd q v W hq hval hch).mono ?_;rintro en w' ⟨A,c,rfl,⟨xs,h1,h2⟩,h3⟩;exact⟨A,_,c,rfl,fun _=>⟨rfl,zu9 h1 h2⟩,h3⟩
  ·have iT:=zh (show ∀A n c w',Below W.heap.size W w'->ChkO W q (.returned (.slice A n c)) w' from fun A n c w' h=>⟨A,n,c,rfl,fun h=>absurd h.2 hch,h⟩);have HQ:=zh (fun w' (hb:Below W.heap.size W w')=>hq.later hb);obtain⟨A1,c1,A2,c2,A3,c3,rfl,-⟩:=hq;have kU:=zh (fun w' (hb:Below W.heap.size W w')=>zq9 hval (HQ.out w' hb));have gV:=zh (fun w' (hb:Below W.heap.size W w')=>by
    have:=zlL q Any _ w' (HQ.out w' hb);rwa[if_pos hval]at this)
   obtain⟨CN,iC⟩:=zX (chkN q);rw[iC]at hch gV;have hc1:((CN:Int)==0)=false:=by simpa using hch
   have hc2:decide ((CN:Int)>0)=true:=by simp;omega
   have hc3:decide ((0:Int)<CN)=true:=by simp;omega
   clear iC hval;have bH:=zh (zs W);go_enter func27,ntmps27;go_wp2_with fail;have hb1:=zkb bH.out (.cells (pgA q A1 c1 A2 c2 A3 c3) 30);refine(kU.out _ hb1).mono ?_;rintro e w1 ⟨rfl,aa⟩;have hb2:=zka hb1 aa;obtain⟨a0,a1,a2,a3,a4,a5⟩:=box6 (zkc (heap_alloc_new W (.cells (pgA q A1 c1 A2 c2 A3 c3) 30)) aa);go_wp2_with fail;refine(gV.out _ hb2).mono ?_;rintro e w2 ⟨B0,d0,rfl,ah⟩;have hb3:=zka hb2 ah;clear a0 a1 a2 a3 a4 a5;go_wp2_with fail;go_ret;exact iT.out _ _ _ _ hb3
 ·have iT:=zh (show ∀A n c w',Below W.heap.size W w'->ChkO W q (.returned (.slice A n c)) w' from fun A n c w' h=>⟨A,n,c,rfl,fun h=>absurd h.1 hval,h⟩);have HQ:=zh (fun w' (hb:Below W.heap.size W w')=>hq.later hb);obtain⟨A1,c1,A2,c2,A3,c3,rfl,-⟩:=hq;have hv0:zkH q=false:=by simpa using hval
  have kU:=zh (fun w' (hb:Below W.heap.size W w')=>by
   have:=zlA q Any _ w' (HQ.out w' hb);rwa[hv0]at this)
  clear hval hv0;have bH:=zh (zs W);go_enter func27,ntmps27;go_wp2_with fail;have hb1:=zkb bH.out (.cells (pgA q A1 c1 A2 c2 A3 c3) 30);refine(kU.out _ hb1).mono ?_;rintro e w1 ⟨rfl,aa⟩;have hb2:=zka hb1 aa;go_wp2_with fail;go_ret;exact iT.out _ _ _ _ hb2
theorem zvG{W:World}{e:EX}{q:PG}{ev qv:Value}(he:EV W Any e ev)(hq:PV W Any q qv) :
  Calls prog 29 #[ev,qv] W fun en w'=>en=.returned (.int .i64 (admE e q))/\Below W.heap.size W w':=by
 have lU:=zh (fun w' (hb:Below W.heap.size W w')=>he.later hb);have HQ:=zh (fun w' (hb:Below W.heap.size W w')=>hq.later hb);obtain⟨A1,c1,A2,c2,A3,c3,rfl,hg,hI⟩:=he;obtain⟨D1,e1,D2,e2,D3,e3,rfl,jS⟩:=hq;have hb2:=zkb (zkb (zs W) (.cells (exA e A1 c1 A2 c2 A3 c3) 32)) (.cells (pgA q D1 e1 D2 e2 D3 e3) 30);have k0:=zke (heap_alloc_new W (.cells (exA e A1 c1 A2 c2 A3 c3) 32)) (.cells (pgA q D1 e1 D2 e2 D3 e3) 30);have k1:=heap_alloc_new (W.alloc (.cells (exA e A1 c1 A2 c2 A3 c3) 32)) (.cells (pgA q D1 e1 D2 e2 D3 e3) 30);rw[World.size_alloc]at k1;obtain⟨w2,hw2⟩:=zX ((W.alloc (.cells (exA e A1 c1 A2 c2 A3 c3) 32)).alloc (.cells (pgA q D1 e1 D2 e2 D3 e3) 30));obtain⟨N,hN⟩:=zX (W.heap.size);rw[hw2]at hb2 k0 k1;rw[hN]at k0 k1;have HB:=zh hb2;have dF:=zh (fun w' (h:Below w2.heap.size w2 w')=>znE (zkc k0 h));have dH:=zh (fun w' (h:Below w2.heap.size w2 w')=>box6 (zkc k1 h))
 have bS:=zh (zs w2);have tT:=zh (zoF e _ w2 (lU.out _ hb2));have bK:=zh (fun w' (h:Below w2.heap.size w2 w')=>zre (HQ.out _ (zka hb2 h)));have dG:=zh (fun w' (h:Below w2.heap.size w2 w')=>zlA q Any _ w' (HQ.out _ (zka hb2 h)));have gV:=zh (fun w' (h:Below w2.heap.size w2 w')=>zlL q Any _ w' (HQ.out _ (zka hb2 h)));have jN:=zh (fun w' (h:Below w2.heap.size w2 w')=>zzR (W:=w') (c:=e1) (d:=c1) ((jS.vars.later hb2).later h) ((hg.vars.later hb2).later h) jS.lv hg.lv);obtain⟨VX,mK⟩:=zX (zk9 e);obtain⟨AD,lJ⟩:=zX (admE e q);have HAD:=zh lJ;have jE:=zh mK;rw[lJ];rw[mK]at tT;clear hb2 k0 k1 hg jS mK lJ hI;obtain⟨x0,x1,x2,x3,x4,x5,x6,x7,x8,x9,aJ,aI⟩:=dF.out _ bS.out;obtain⟨q0,q1,q2,q3,q4,q5⟩:=dH.out _ bS.out;go_enter func29,ntmps29;go_upto_region 1 with fail
 try rw[hw2]
 try rw[hN]
 clear hw2 hN;go_wp2_with fail;refine tT.out.mono ?_;rintro en w3 ⟨rfl,hb3⟩;have aX:=zh (zka bS.out hb3);clear x0 x1 x2 x3 x4 x5 x6 x7 x8 x9 aJ aI q0 q1 q2 q3 q4 q5 hb3 tT;obtain⟨x0,x1,x2,x3,x4,x5,x6,x7,x8,x9,aJ,aI⟩:=dF.out _ aX.out;obtain⟨q0,q1,q2,q3,q4,q5⟩:=dH.out _ aX.out
 cases VX
 ·have HF:=zh (show admE e q=1 by unfold admE;rw[jE.out];rfl);go_wp2_with fail;go_ret;exact⟨by rw[<-HAD.out,HF.out];rfl,zka HB.out aX.out⟩
 have nT:=zh (show admE e q=admP e.gv.vs q by unfold admE;rw[jE.out];rfl);go_wp2_with fail;refine(bK.out _ aX.out).mono ?_;rintro en w4 ⟨R,n,c,rfl,hR,hb4⟩;have HR:=zh hR;have bJ:=zh (zka aX.out hb4);have ay:=zh hb4;clear x0 x1 x2 x3 x4 x5 x6 x7 x8 x9 aJ aI q0 q1 q2 q3 q4 q5 hb4 hR;obtain⟨x0,x1,x2,x3,x4,x5,x6,x7,x8,x9,aJ,aI⟩:=dF.out _ bJ.out;obtain⟨q0,q1,q2,q3,q4,q5⟩:=dH.out _ bJ.out;go_wp2_with fail;refine(dG.out _ bJ.out).mono ?_;rintro en w5 ⟨rfl,hb5⟩;have bO:=zh (zka bJ.out hb5);have aR:=zh hb5;clear x0 x1 x2 x3 x4 x5 x6 x7 x8 x9 aJ aI q0 q1 q2 q3 q4 q5 hb5 dG;obtain⟨x0,x1,x2,x3,x4,x5,x6,x7,x8,x9,aJ,aI⟩:=dF.out _ bO.out;obtain⟨q0,q1,q2,q3,q4,q5⟩:=dH.out _ bO.out;obtain⟨VB,sU⟩:=zX (zkH q);have bg:=zh sU;rw[sU];clear sU
 cases VB
 ·have HF:=zh (show admE e q=3 by rw[nT.out];unfold admP;rw[bg.out];rfl);go_wp2_with fail;go_ret;exact⟨by rw[<-HAD.out,HF.out];rfl,zka HB.out bO.out⟩
 have tq:=gV.out _ bO.out;rw[if_pos bg.out]at tq;have nz:=zh tq;clear tq gV;go_wp2_with fail;refine nz.out.mono ?_;rintro en w6 ⟨B0,d0,rfl,hb6⟩;have dS:=zh (zka bO.out hb6);have bC:=zh (zka aR.out hb6);clear x0 x1 x2 x3 x4 x5 x6 x7 x8 x9 aJ aI q0 q1 q2 q3 q4 q5 hb6 nz;obtain⟨x0,x1,x2,x3,x4,x5,x6,x7,x8,x9,aJ,aI⟩:=dF.out _ dS.out;obtain⟨q0,q1,q2,q3,q4,q5⟩:=dH.out _ dS.out;obtain⟨CN,iC⟩:=zX (chkN q);have lh:=zh iC;rw[iC];clear iC;by_cases hc:CN=0
 ·have hz1:decide ((CN:Int)>0)=false:=by simp;omega
  have hz2:decide (0<CN)=false:=by simp;omega
  obtain⟨hn,hcell⟩:=HR.out ⟨bg.out,lh.out.trans hc⟩;have qO:=zh (lh.out.trans hc);clear hc;have xJ:=zh hn;clear hn;by_cases hz:n=0
  ·have xg:=zh (xJ.out.symm.trans hz);have hz3:decide ((n:Int)>0)=false:=by simp;omega
   have lY:decide (0<n)=false:=by simp;omega
   clear hz hcell;go_wp2_with fail;refine(jN.out _ dS.out).mono ?_;rintro en w7 ⟨rfl,eX⟩;have gY:=zh (zka dS.out eX);obtain⟨EQ,tJ⟩:=zX (eqVs q.vs e.gv.vs);have HE:=zh tJ;rw[tJ];clear tJ
   cases EQ
   ·have HF:=zh (show admE e q=7 by rw[nT.out];unfold admP;rw[bg.out,qO.out,xg.out,HE.out];rfl);go_wp2_with fail;go_ret;exact⟨by rw[<-HAD.out,HF.out];rfl,zka HB.out gY.out⟩
   ·have HF:=zh (show admE e q=0 by rw[nT.out];unfold admP;rw[bg.out,qO.out,xg.out,HE.out];rfl);go_wp2_with fail;go_ret;exact⟨by rw[<-HAD.out,HF.out];rfl,zka HB.out gY.out⟩
  ·obtain⟨g,rfl,hcl⟩:=hcell hz;have sG:=zb bC.out hcl;have hz3:decide ((n:Int)>0)=true:=by simp;omega
   have lY:decide (0<n)=true:=by simp;omega
   have HF:=zh (show admE e q=(rjA q).headD 0 by rw[nT.out];unfold admP;rw[bg.out,qO.out,if_pos rfl,if_pos rfl,if_neg (fun h=>hz (xJ.out.trans h))]);obtain⟨HD,xu⟩:=zX ((rjA q).headD 0);rw[xu]at HF sG;clear hcl xu;go_wp2_with fail;go_ret;exact⟨by rw[<-HAD.out,HF.out];rfl,zka HB.out dS.out⟩
 ·have hz1:decide ((CN:Int)>0)=true:=by simp;omega
  have hz2:decide (0<CN)=true:=by simp;omega
  have HF:=zh (show admE e q=3 by rw[nT.out];unfold admP;rw[bg.out,lh.out,if_pos rfl,if_neg hc]);go_wp2_with fail;go_ret;exact⟨by rw[<-HAD.out,HF.out];rfl,zka HB.out dS.out⟩
end
section
open Go Go.RowKit
def Fl(F':Int)(n:Nat)(o o':Out):Prop:=∀r',o=.ok r'->n<=r'.n/\((r'.n:Int)<=F'\/r'.n=n->o'=.ok r')/\(F'<(r'.n:Int)->n<r'.n->o'=.err 18)
theorem Fl.bind{F':Int}{n:Nat}{o o':Out}{f f':RS->Out}(h:Fl F' n o o')(hf:∀r,n<=r.n->Fl F' r.n (f r) (f' r)):Fl F' n (o.bind f) (o'.bind f'):=by
 intro r2 e
 cases o with
 | gas=>cases e
 | err x=>cases e
 | ok r1 =>
  obtain⟨h1,h2,h3⟩:=h r1 rfl;obtain⟨g1,g2,g3⟩:=hf r1 h1 r2 e;refine⟨by omega,fun hc=>?_,fun a b=>?_⟩
  ·rw[h2 (by omega)];exact g2 (by omega)
  ·by_cases hc:(r1.n:Int)<=F'\/r1.n=n
   ·rw[h2 hc];exact g3 a (by omega)
   ·rw[h3 (by omega) (by omega)];rfl
theorem Fl.err{F':Int}{n:Nat}{x:Int}{o':Out}:Fl F' n (.err x) o':=fun _ e=>by cases e
theorem Fl.gas{F':Int}{n:Nat}{o':Out}:Fl F' n .gas o':=fun _ e=>by cases e
theorem Fl.same{F':Int}{r:RS}:Fl F' r.n (.ok r) (.ok r):=fun r' e=>by
 injection e with e;subst e;exact⟨zl,fun _=>rfl,fun _ h=>absurd h (Nat.lt_irrefl _)⟩
theorem Fl.step(F F':Int)(r:RS):Fl F' r.n (zkz F r) (zkz F' r):=fun r' e=>by
 obtain⟨rfl,-⟩:=zli e;refine⟨by simp only;omega,fun h=>?_,fun h _=>?_⟩
 ·unfold zkz;rw[if_neg (by simp only at h;omega)]
 ·unfold zkz;rw[if_pos (by simp only at h;omega)]
theorem Fl.store{F':Int}{r:RS}(R:Int×ST):Fl F' r.n (zkm r R) (zkm r R):=by
 unfold zkm
 split
 ·exact Fl.err
 ·intro r' e;injection e with e;subst e;exact⟨zl,fun _=>rfl,fun _ h=>absurd h (Nat.lt_irrefl _)⟩
theorem Fl.val{F':Int}{n:Nat}{t:T}{r:RS}{f f':Int->RS->Out}(h:∀x,Fl F' n (f x r) (f' x r)):Fl F' n (valO t r f) (valO t r f'):=by
 unfold valO
 split
 ·exact Fl.err
 ·exact h _
theorem Fl.holds{F F':Int}{t:T}{r:RS}{f f':Bool->RS->Out}(h:∀b r1,r.n<=r1.n->Fl F' r1.n (f b r1) (f' b r1)):Fl F' r.n (zk8 F t r f) (zk8 F' t r f'):=by
 unfold zk8;exact(Fl.step F F' r).bind fun r1 h1=>Fl.val fun x=>h _ _ h1
theorem Fl.assert{F F':Int}{t:T}{b:Bool}{r:RS}:Fl F' r.n (zkq F t b r) (zkq F' t b r):=by
 unfold zkq;refine Fl.holds fun b1 r1 _=>?_
 split
 ·exact Fl.same
 ·exact Fl.err
theorem Fl.body{F':Int}{f f':T->RS->Out}:∀(l:List T) (r:RS),(∀t∈l,∀r',Fl F' r'.n (f t r') (f' t r'))->Fl F' r.n (zk1 f l r) (zk1 f' l r)
 | [],r,_=>Fl.same
 | t::ts,r,h=>by
  rw[zk1,zk1];exact(h t (List.mem_cons_self ..) r).bind fun r1 _=>Fl.body ts r1 fun u hu r'=>h u (List.mem_cons_of_mem _ hu) r'
theorem Fl.loop{F F':Int}{f f':T->RS->Out}{entry test:T}{l1 l2:List T}(h1:∀t∈l1,∀r',Fl F' r'.n (f t r') (f' t r'))(h2:∀t∈l2,∀r',Fl F' r'.n (f t r') (f' t r')):∀(m:Nat) (r:RS),Fl F' r.n (zlV F f entry test l1 l2 m r) (zlV F' f' entry test l1 l2 m r)
 | 0,r=>Fl.gas
 | m+1,r=>by
  rw[zlV,zlV];refine(Fl.body l1 r h1).bind fun r1 _=>Fl.holds fun b r2 _=>?_
  split
  ·exact Fl.same
  ·exact(Fl.body l2 r2 h2).bind fun r3 _=>Fl.assert.bind fun r4 _=>Fl.loop h1 h2 m r4
theorem zmP{prs:List PR}{F F':Int}:∀(g:Nat) (back:Bool) (t:T) (r:RS),Fl F' r.n (zku prs F g back t r) (zku prs F' g back t r)
 | 0,_,_,_=>Fl.gas
 | g+1,back,t,r=>by
  have hb:∀back (l:List T) r1,Fl F' r1.n (zk1 (zku prs F g back) l r1) (zk1 (zku prs F' g back) l r1):=fun back l r1=>Fl.body l r1 fun u _ r'=>zmP g back u r';rw[zku,zku]
  split
  ·exact Fl.holds fun yes r1 _=>(hb _ _ r1).bind fun r2 _=>Fl.assert
  ·split
   ·exact Fl.assert.bind fun r1 _=>Fl.loop (fun u _ r'=>zmP g back u r') (fun u _ r'=>zmP g back u r') g r1
   ·split
    ·refine(Fl.step F F' r).bind fun r1 _=>Fl.val fun x=>(Fl.store _).bind fun r2 _=>(hb _ _ r2).bind fun r3 _=>(Fl.step F F' r3).bind fun r4 _=>Fl.val fun x=>Fl.store _
    ·split
     ·exact(Fl.step F F' r).bind fun r1 _=>(Fl.store _).bind fun r2 _=>(hb _ _ r2).bind fun r3 _=>(Fl.step F F' r3).bind fun r4 _=>Fl.store _
     ·split
      ·split
       ·exact Fl.err
       ·exact(Fl.step F F' r).bind fun r1 _=>(Fl.store _).bind fun r2 _=>Fl.bind (hb _ _ { r2 with ent:=_ }) fun r3 _=>(Fl.step F F' r3).bind fun r4 _=>Fl.store _
      ·exact(Fl.step F F' r).bind fun r1 _=>Fl.store _
theorem ztZ{prs:List PR}{F F':Int}(g:Nat)(back:Bool)(b:T)(r:RS):Fl F' r.n (runO prs F g back b r) (runO prs F' g back b r):=Fl.body _ _ fun u _ r'=>zmP g back u r'
theorem zyN{p:PG}{s:SS}{F:Int}{g:Nat}{back:Bool}(hg:F.toNat*2000+2000<=g)(h:(resO p s F g back).2.2.1=0) :
  zkH p=true/\chkN p=0/\fitB p.vs s=true/\∃r,runO p.prs F g back p.m ⟨newS p.vs s,0,List.replicate p.prs.length 0⟩=.ok r/\resO p s F g back=(r.S.state,r.n,0,r.ent):=by
 unfold resO at h ⊢
 split at h
 ·simp at h
 ·rename_i h1;rw[if_neg h1];simp only[not_or,Bool.not_eq_false,Decidable.not_not]at h1
  split at h
  ·simp at h
  ·rename_i h2;rw[if_neg h2];simp only[Bool.not_eq_false]at h2;refine⟨h1.1,by simpa using h1.2,h2,?_⟩;have hz:Nz (runO p.prs F g back p.m ⟨newS p.vs s,0,List.replicate p.prs.length 0⟩):=ztY zzW (zr0 h1.1 (by simpa using h1.2));have hg0:=(zsg (F:=F) (g:=g) h1.1 hg back (newS p.vs s) (List.replicate p.prs.length 0)).1
   cases ho:runO p.prs F g back p.m ⟨newS p.vs s,0,List.replicate p.prs.length 0⟩with
   | gas=>exact absurd ho hg0
   | err e =>
    rw[ho]at h hz;simp only[outR]at h;rw[h]at hz;exact absurd rfl hz
   | ok r=>exact⟨r,rfl,rfl⟩
theorem zsk{p:PG}{s:SS}{F:Int}{g:Nat}{back:Bool}(h1:zkH p=true)(h2:chkN p=0)(h3:fitB p.vs s=true) :
  resO p s F g back=outR s (runO p.prs F g back p.m ⟨newS p.vs s,0,List.replicate p.prs.length 0⟩):=by
 unfold resO;rw[if_neg (by rw[h1,h2];simp),if_neg (by rw[h3];simp)]
theorem zw4{p:PG}{s:SS}{F:Int}{g:Nat}{back:Bool}(hg:F.toNat*2000+2000<=g)(h:(resO p s F g back).2.2.1=0) :
  ((resO p s F g back).2.1:Int)<=max F 0/\(∀F':Int,((resO p s F g back).2.1:Int)<=F'->resO p s F' g back=resO p s F g back) /\
   ∀F':Int,F'<((resO p s F g back).2.1:Int)->0<(resO p s F g back).2.1->(resO p s F' g back).2.2.1=18:=by
 obtain⟨h1,h2,h3,r,hr,he⟩:=zyN hg h;rw[he];simp only;have key:=fun F'=>ztZ (prs:=p.prs) (F:=F) (F':=F') g back p.m ⟨newS p.vs s,0,List.replicate p.prs.length 0⟩ r hr;refine⟨?_,fun F' hF=>?_,fun F' hF h0=>?_⟩
 ·rcases Int.lt_or_le (max F 0) (r.n:Int)with hlt|hle
  ·have:=(key F).2.2 (by omega) (by simp only;omega);rw[hr]at this
   cases this
  ·exact hle
 ·rw[zsk h1 h2 h3,(key F').2.1 (.inl hF)];rfl
 ·rw[zsk h1 h2 h3,(key F').2.2 hF h0];rfl
end
end Go.Proofs.YthjinpodhacleaaGreat
