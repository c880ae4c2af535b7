/-
  Texts of the proof, put together without their remarks: Ia, ScA, ClW, ScC, Wp, ScR, ScV, Fa, ScK.
-/
import Derived.Test.YtembgnhbpmfhpaaGreatY8
import Derived.Tactics
import Derived.Tactics2
import Derived.Defers
import Derived.ArgAppend
set_option linter.unusedSimpArgs false
set_option linter.unusedVariables false
set_option maxHeartbeats 8000000
set_option maxRecDepth 100000
namespace Go.Proofs.YtembgnhbpmfhpaaGreat
open Tryz
section
open Go Go.RowKit
theorem zsk(jb:Nat)(w:World)(h:w.cell? ⟨jb,0,none⟩=some (.slice none 0 0)):Calls prog 134 #[.pointer (some ⟨jb,0,none⟩)] w fun e w'=>e=.returned (.int .i64 0)/\w'=w:=by
 go_enter func134,ntmps134;go_wp2_with fail;go_ret;exact⟨rfl,rfl⟩
theorem zzO:IsFn prog 134 f134:=⟨func134,by kernel_rfl,by kernel_rfl⟩
theorem zxZ{P:Program}{c:Code}{Q Q':Exit->Act->World->Prop}{a:Act}{w:World}(h:c.wp P Q a w)(hQ:∀e a' w',Q e a' w'->Q' e a' w'):c.wp P Q' a w :=
 fun b k cs=>let ⟨e,a',w',q,r⟩:=h b k cs;⟨e,a',w',hQ _ _ _ q,r⟩
theorem zyo(C:World->Prop):∃Q:Exit->Act->World->Prop,(∀a' w',a'.defers=[]->C w'->Q .normal a' w')/\∀e a' w',Q e a' w'->e=.normal/\a'.defers=[]/\C w' :=
 ⟨fun e a' w'=>e=.normal/\a'.defers=[]/\C w',fun _ _ h1 h2=>⟨rfl,h1,h2⟩,fun _ _ _ h=>h⟩
theorem tAss(x:Int)(w:World):(Instr.typeAssert (.iface 198 (.agg #[.int .i64 x])) 20 198 true).run prog w=.ok (.tuple #[.agg #[.int .i64 x],.bool true]) w:=by kernel_rfl
theorem zw5(a b c:Value)(w:World) :
  CallsD prog 135 #[a,b,c] .returning w fun e u' w'=>e=.returned (.tuple #[])/\u'=.returning/\w'=w:=by
 refine callsD_of_wpS func135 rfl fun c₀ cs hu=>?_;apply wpS_seq;apply wpS_region;simp[wpOpsS,go_sem,recoverD,hu,ntmps135,Exit.thenS];apply wpS_seq;apply wpS_seq;apply wpS_region;simp[wpOpsS,go_sem,Exit.thenS];refine wpS_cond (t:=true) (by simp[Act.eval,Array.replicate]) ?_;simp only[if_true];refine wpS_of_wp (wp_ret ?_)
 cases c₀
 simp_all [bodyPostS,results,results135,Exit.thenS]
theorem zu6(a2 a5 a4 jb:Nat)(x y:Int)(w:World)(h2:w.cell? ⟨a2,0,none⟩=some (.pointer (some ⟨jb,0,none⟩)))(h5:w.cell? ⟨a5,0,none⟩=some (.int .i64 0))(hj:w.cell? ⟨jb,0,none⟩=some (.slice none 0 0))(h4:w.cell? ⟨a4,0,none⟩=some (.int .i64 y))(hf:w.frozen? ⟨a4,0,none⟩=false) :
  CallsD prog 135 #[.pointer (some ⟨a2,0,none⟩),.pointer (some ⟨a5,0,none⟩),.pointer (some ⟨a4,0,none⟩)] (.panicking [{ v:=.iface 198 (.agg #[.int .i64 x]),recovered:=false }]) w fun e u' w' =>
   e=.returned (.tuple #[])/\u'=.panicking [{ v:=.iface 198 (.agg #[.int .i64 x]),recovered:=true }]/\w'.cell? ⟨a4,0,none⟩=some (.int .i64 x)/\Chg (fun b=>b=a4) w w':=by
 refine callsD_of_wpS func135 rfl fun c₀ cs hu=>?_;apply wpS_seq;apply wpS_region;simp[wpOpsS,go_sem,recoverD,hu,ntmps135,Exit.thenS];apply wpS_seq;apply wpS_seq;apply wpS_region;simp[wpOpsS,go_sem,Exit.thenS];refine wpS_cond (t:=false) (by simp[Act.eval,Array.replicate]) ?_;simp only[Bool.false_eq_true,if_false];refine wpS_of_wp (wp_skip ?_);refine wpS_of_wp ?_;obtain⟨Q,ve,hQ2⟩:=zyo (fun w'=>w'.cell? ⟨a4,0,none⟩=some (.int .i64 x)/\Chg (fun b=>b=a4) w w');refine zxZ (Q:=Q) ?_ ?_;rotate_left 1
 ·intro e a' w' hq;obtain⟨rfl,h1,h2⟩:=hQ2 _ _ _ hq
  cases c₀
  simp_all [bodyPostS,results,results135,Exit.thenS]
 have HQ:=zh ve;clear ve hQ2 hu;refine Eq.mp (congrArg (fun t=>Code.wp prog _ Q ⟨t,[]⟩ w) (?e:(#[.pointer (some ⟨a2,0,none⟩),.pointer (some ⟨a5,0,none⟩),.pointer (some ⟨a4,0,none⟩),.iface 198 (.agg #[.int .i64 x]),undef,undef,.iface 198 (.agg #[.int .i64 x]),.iface 198 (.agg #[.int .i64 x]),.bool false,undef,undef,undef,undef,undef,undef,undef,undef,undef,undef,undef,undef,undef,undef,undef,undef,undef]:Array Value)=_)) ?_
 case e=>kernel_rfl
 go_upto_region 2 with fail;have HS:=zh (show ∀w',Below w.heap.size w w'->(fun w':World=>zv w' a2 0 (.pointer (some ⟨jb,0,none⟩))/\zv w' a5 0 (.int .i64 0)) w' from fun w' hb=>⟨zb hb h2,zb hb h5⟩);have dN:=zh (fun w' (hb:Below w.heap.size w w')=>zsk jb w' (zb hb hj));have hSS:zW (fun w':World=>zv w' a2 0 (.pointer (some ⟨jb,0,none⟩))/\zv w' a5 0 (.int .i64 0)) zU w.drew:=⟨HS.out _ zr.drew,trivial⟩
 refine wp_region_noPanic ?_;refine zG hSS 3 ?_;refine zT 0 hSS ?_;refine zT 2 hSS ?_;have had:Calls prog 134 [.pointer (some ⟨jb,0,none⟩)].toArray w.drew fun e w'=>∃v,e=.returned v/\(v=.int .i64 0/\w'=w.drew):=(dN.out _ zr.drew).mono fun e w' ⟨h1,h2⟩=>⟨_,h1,rfl,h2⟩
 refine zo 1 fun K hK=>?_;refine zke (by rfl) (.func 134) [.tmp 9] _ (by rfl) 134 _ zzO (by rfl) _ (by rfl) _ had ?_;rintro v1 w1 ⟨rfl,rfl⟩;refine hK.out _ _ hSS ?_;clear hK K had;(try simp only[zQ]);refine zp 3 fun K hK=>?_;(try simp only[zA,zB,zC]);go_simp;refine hK.out _ _ hSS.1 ?_;clear hK K;(try simp only[zQ]);refine zd ?_;refine NoPanic.normal ?_;clear hSS HS dN;have ht:=fun w=>tAss x w;obtain⟨w1,hw1⟩:=zX (w.drew);have hb1:Below w.heap.size w w1:=hw1▸zr.drew;have g4:=zb hb1 h4;have gf:w1.frozen? ⟨a4,0,none⟩=false:=hw1▸hf;have hlt:a4<w1.heap.size:=World.block_lt_of_cell? w1 _ g4;have z4:=zks g4 (.cells #[.int .i64 x] 198);have HB1:=zh hb1;rw[hw1];clear h2 h5 hj h4 hf hw1 hb1;go_wp2_with fail;have hch:=(Chg.refl (fun b=>b=a4) w1).setCell (p:=⟨a4,0,none⟩) (.inl rfl) (.int .i64 x)
 exact HQ.out _ _ rfl ⟨zks (by simp[go_sem,g4]) _,(Chg.of_below HB1.out).trans (hch.alloc _)⟩
def AttP(W:World)(R:World->Prop)(X:Int->World->Prop)(e:Ending)(w':World):Prop :=
 (e=.returned (.int .i64 0)/\∃w1,R w1/\Chg (fun b=>W.heap.size<=b/\b<W.heap.size+3) w1 w')\/∃x,e=.returned (.int .i64 x)/\∃w1,X x w1/\Chg (fun b=>W.heap.size<=b/\b<W.heap.size+3) w1 w'
theorem zrE(jb:Nat)(f:FuncId)(fn:Func)(hf:IsFn prog f fn)(caps:Array Value)(W:World)(hj:W.heap[jb]?=some (.cells #[.slice none 0 0,.bool false] 152 (0,0)))(R:World->Prop)(X:Int->World->Prop)
  (hact:∀W1,Below W.heap.size W W1->W1.heap.size=W.heap.size+3->Calls prog f caps W1 fun e w'=>(∀b,(W.heap.size<=b\/b=jb)->b<W1.heap.size->w'.heap[b]?=W1.heap[b]?)/\(((∃u,e=.returned u)/\R w')\/∃x,e=zlE x/\X x w')) :
  Calls prog 99 #[.pointer (some ⟨jb,0,none⟩),.func (.func f) #[] caps] W (AttP W R X):=by
 have ma:∀(fn:Fn) (first cap:Array Value) (w:World),(Instr.makeFunc fn first cap).run prog w=.ok (.func fn first cap) w:=fun _ _ _ _=>rfl;have hnf:∀w:World,(binOp BinOp.eql 1 (.func (.func f) #[] caps) .nilFunc).run prog w=.ok (.bool false) w:=fun _=>by kernel_rfl
 have HJ:=zh hj;have hjl:=zkp hj;have HA:=zh hact;have hLE:=fun w' (hb:Below W.heap.size W w')=>zsk jb w' (zb hb (zc hj rfl));have dN:=zh hLE;clear hj hact hLE
 go_enter_defers func99,ntmps99
 go_wp2_with fail;refine(dN.out _ (zka (zka zr _) _)).mono ?_;rintro e w1 ⟨rfl,rfl⟩;go_wp2_with fail;rw[zkN hf,Oper.upon_enter];have k0:=zkf (zkf (heap_alloc_new W (.cells #[.pointer (some ⟨jb,0,none⟩)] 149)) (.cells #[.int .i64 0] 48)) (.cells #[.int .i64 0] 3);have k1:=zkf (heap_alloc_new (W.alloc (.cells #[.pointer (some ⟨jb,0,none⟩)] 149)) (.cells #[.int .i64 0] 48)) (.cells #[.int .i64 0] 3);have k2:=heap_alloc_new ((W.alloc (.cells #[.pointer (some ⟨jb,0,none⟩)] 149)).alloc (.cells #[.int .i64 0] 48)) (.cells #[.int .i64 0] 3);have kj:=zkf (zkf (zkf HJ.out (.cells #[.pointer (some ⟨jb,0,none⟩)] 149)) (.cells #[.int .i64 0] 48)) (.cells #[.int .i64 0] 3);have hb3:=zka (zka (zka (zs W) (.cells #[.pointer (some ⟨jb,0,none⟩)] 149)) (.cells #[.int .i64 0] 48)) (.cells #[.int .i64 0] 3);simp only[World.size_alloc]at k1 k2
 obtain⟨w3,hw3⟩:=zX (((W.alloc (.cells #[.pointer (some ⟨jb,0,none⟩)] 149)).alloc (.cells #[.int .i64 0] 48)).alloc (.cells #[.int .i64 0] 3));have hz3:w3.heap.size=W.heap.size+3:=by rw[<-hw3];simp
 rw[hw3]at k0 k1 k2 kj hb3 ⊢;clear hw3;refine(HA.out w3 hb3 hz3).mono ?_;rintro e w2 ⟨hk,h⟩;have q0:=(hk _ (.inl zl) (by omega)).trans k0;have q1:=(hk _ (.inl (Nat.le_succ _)) (by omega)).trans k1;have q2:=(hk _ (.inl (by omega)) (by omega)).trans k2;have qj:=(hk _ (.inr rfl) (by omega)).trans kj;clear k0 k1 k2 kj hk hb3;rcases h with⟨⟨u,rfl⟩,hR⟩|⟨x,rfl,hX⟩
 ·have c1:w2.cell? ⟨W.heap.size+1,0,none⟩=some (.int .i64 0):=zc q1 rfl;have f1:∀o,w2.frozen? ⟨W.heap.size+1,o,none⟩=false:=fun _=>zf q1;have HRR:=zh hR;clear q0 q2 qj dN HA hR;go_wp2_with fail;refine leaves_cons (f:=135) (args := #[.pointer (some ⟨W.heap.size,0,none⟩),.pointer (some ⟨W.heap.size+1+1,0,none⟩),.pointer (some ⟨W.heap.size+1,0,none⟩)]) (by simp) (by simp[go_sem]) ?_;refine(zw5 _ _ _ _).mono ?_;rintro e u' w'' ⟨rfl,rfl,rfl⟩;have hch:=(Chg.refl (fun b=>W.heap.size<=b/\b<W.heap.size+3) w2).setCell (p:=⟨W.heap.size+1,0,none⟩) (.inl ⟨Nat.le_succ _,by simp⟩) (.int .i64 0);have hc2:(w2.setCell ⟨W.heap.size+1,0,none⟩ (.int .i64 0)).cell? ⟨W.heap.size+1,0,none⟩=some (.int .i64 0):=by simp[go_sem,c1]
  have HP:AttP W R X (.returned (.int .i64 0)) (w2.setCell ⟨W.heap.size+1,0,none⟩ (.int .i64 0)):=.inl ⟨rfl,w2,HRR.out,hch⟩;simp[Leaves,settle,results,results99,go_sem,hc2,HP]
 ·have p0:w2.cell? ⟨W.heap.size,0,none⟩=some (.pointer (some ⟨jb,0,none⟩)):=zc q0 rfl;have p1:w2.cell? ⟨W.heap.size+1,0,none⟩=some (.int .i64 0):=zc q1 rfl;have p2:w2.cell? ⟨W.heap.size+1+1,0,none⟩=some (.int .i64 0):=zc q2 rfl;have pj:w2.cell? ⟨jb,0,none⟩=some (.slice none 0 0):=zc qj rfl;have f1:w2.frozen? ⟨W.heap.size+1,0,none⟩=false:=zf q1;refine leaves_cons (f:=135) (args := #[.pointer (some ⟨W.heap.size,0,none⟩),.pointer (some ⟨W.heap.size+1+1,0,none⟩),.pointer (some ⟨W.heap.size+1,0,none⟩)]) (by simp) (by simp[go_sem]) ?_;refine(zu6 _ _ _ jb x 0 _ p0 p2 pj p1 f1).mono ?_;rintro e u' w'' ⟨rfl,rfl,hc2,hch⟩;have HP:AttP W R X (.returned (.int .i64 x)) w'':=.inr ⟨x,rfl,w2,hX,hch.mono fun b _ e=>by omega⟩;simp[Leaves,settle,results,results99,go_sem,hc2,HP]
end
section
open Go.RowKit
def zlt(ps:List PR)(k:Int)(s:ByteArray)(l:Nat)(vs:List VD):Int :=
 if k=2 then useE vs s 1 else if k=3 then useE vs s 2 else if k=4\/k=5\/k=44\/k=45 then useE vs s 3 else if k=54\/k=55 then zmy vs s
 else if k=50\/k=51 then(match idxP ps s with
  | none=>6
  | some i=>match ps[i]? with
   | none=>6
   | some r=>if l=r.ps.length then 0 else 7)
 else 0
theorem zuH(p:PG)(t:T)(vs:List VD)(A:Option Addr)(c:Nat)(S S' S'':Nat->Prop)(v1 v2:Value)(w:World)(hv1:PV w S p v1)(hv2:NV w S' t v2)(hrow:RowV w S'' A vs)(hl:vs.length<=LV) :
  Calls prog 113 #[v1,v2,.slice A vs.length c] w fun e w'=>e=.returned (.int .i64 (zlt p.prs t.k t.s t.ks.length vs))/\Below w.heap.size w w':=by
 have hvv:=hv1;obtain⟨A1,c1,A2,c2,A3,c3,rfl,hr⟩:=hv1;have gW:=zh hr.procs;have hlp:=zlc hr.lp;obtain⟨L1,hL1⟩:=zX (p.vs.length);obtain⟨L2,hL2⟩:=zX (p.prs.length);obtain⟨k,hk⟩:=zX (p.m.k);obtain⟨n,hn⟩:=zX (p.m.n);obtain⟨s,hs⟩:=zX (p.m.s);obtain⟨l3,hl3⟩:=zX (p.m.ks.length);rw[hL1,hL2,hk,hn,hs,hl3];rw[hL1,hL2,hk,hn,hs,hl3]at hvv;rw[hL2]at hlp;have HL2:=zh hL2;have HV:=zh hvv;clear hr hvv hL1 hL2 hk hn hs hl3;obtain⟨B,tc,rfl,_,hlk,_,_⟩:=hv2.open_;have aA:=zkI hlk;have af:=zh hrow;have HL:=zh hl;clear hrow hl hv2 hlk;generalize t.k=tk,t.n=tn,t.s=ts,t.ks.length=tl at *
 obtain⟨R,hR⟩:=zX (zlt p.prs tk ts tl vs);rw[hR];have HR:=zh hR;clear hR;have hb0:∀o o',Below w.heap.size w ((w.alloc o).alloc o'):=fun o o'=>(zr.alloc zl _).alloc (by simp) _;have HB0:=zh hb0;clear hb0;by_cases h2:tk=2
 ·subst h2;have HN:=zh (show R=useE vs ts 1 by rw[<-HR.out];simp[zlt]);go_enter func113,ntmps113;go_wp2_with fail;refine(znu vs A c ts 1 S'' _ (af.out.later (HB0.out _ _)) HL.out).mono ?_;rintro e w1 ⟨rfl,ae⟩;rw[<-HN.out];have HB:=zh (zkb (HB0.out _ _) ae);clear ae;go_wp2_with fail;go_ret;exact⟨rfl,HB.out⟩
 have f2:(tk==2)=false:=by simpa using h2
 by_cases h3:tk=3
 ·subst h3;have HN:=zh (show R=useE vs ts 2 by rw[<-HR.out];simp[zlt]);go_enter func113,ntmps113;go_wp2_with fail;refine(znu vs A c ts 2 S'' _ (af.out.later (HB0.out _ _)) HL.out).mono ?_;rintro e w1 ⟨rfl,ae⟩;rw[<-HN.out];have HB:=zh (zkb (HB0.out _ _) ae);clear ae;go_wp2_with fail;go_ret;exact⟨rfl,HB.out⟩
 have f3:(tk==3)=false:=by simpa using h3
 by_cases h4:tk=4
 ·subst h4;have HN:=zh (show R=useE vs ts 3 by rw[<-HR.out];simp[zlt]);go_enter func113,ntmps113;go_wp2_with fail;refine(znu vs A c ts 3 S'' _ (af.out.later (HB0.out _ _)) HL.out).mono ?_;rintro e w1 ⟨rfl,ae⟩;rw[<-HN.out];have HB:=zh (zkb (HB0.out _ _) ae);clear ae;go_wp2_with fail;go_ret;exact⟨rfl,HB.out⟩
 have f4:(tk==4)=false:=by simpa using h4
 by_cases h5:tk=5
 ·subst h5;have HN:=zh (show R=useE vs ts 3 by rw[<-HR.out];simp[zlt]);go_enter func113,ntmps113;go_wp2_with fail;refine(znu vs A c ts 3 S'' _ (af.out.later (HB0.out _ _)) HL.out).mono ?_;rintro e w1 ⟨rfl,ae⟩;rw[<-HN.out];have HB:=zh (zkb (HB0.out _ _) ae);clear ae;go_wp2_with fail;go_ret;exact⟨rfl,HB.out⟩
 have f5:(tk==5)=false:=by simpa using h5
 by_cases tZ:tk=44
 ·subst tZ;have HN:=zh (show R=useE vs ts 3 by rw[<-HR.out];simp[zlt]);go_enter func113,ntmps113;go_wp2_with fail;refine(znu vs A c ts 3 S'' _ (af.out.later (HB0.out _ _)) HL.out).mono ?_;rintro e w1 ⟨rfl,ae⟩;rw[<-HN.out];have HB:=zh (zkb (HB0.out _ _) ae);clear ae;go_wp2_with fail;go_ret;exact⟨rfl,HB.out⟩
 have f44:(tk==44)=false:=by simpa using tZ
 by_cases h45:tk=45
 ·subst h45;have HN:=zh (show R=useE vs ts 3 by rw[<-HR.out];simp[zlt]);go_enter func113,ntmps113;go_wp2_with fail;refine(znu vs A c ts 3 S'' _ (af.out.later (HB0.out _ _)) HL.out).mono ?_;rintro e w1 ⟨rfl,ae⟩;rw[<-HN.out];have HB:=zh (zkb (HB0.out _ _) ae);clear ae;go_wp2_with fail;go_ret;exact⟨rfl,HB.out⟩
 have f45:(tk==45)=false:=by simpa using h45
 by_cases eB:tk=54
 ·subst eB;have HN:=zh (show R=zmy vs ts by rw[<-HR.out];simp[zlt]);go_enter func113,ntmps113;go_wp2_with fail;refine(zou vs A c ts S'' _ (af.out.later (HB0.out _ _)) HL.out).mono ?_;rintro e w1 ⟨rfl,ae⟩;rw[<-HN.out];have HB:=zh (zkb (HB0.out _ _) ae);clear ae;go_wp2_with fail;go_ret;exact⟨rfl,HB.out⟩
 have f54:(tk==54)=false:=by simpa using eB
 by_cases eU:tk=55
 ·subst eU;have HN:=zh (show R=zmy vs ts by rw[<-HR.out];simp[zlt]);go_enter func113,ntmps113;go_wp2_with fail;refine(zou vs A c ts S'' _ (af.out.later (HB0.out _ _)) HL.out).mono ?_;rintro e w1 ⟨rfl,ae⟩;rw[<-HN.out];have HB:=zh (zkb (HB0.out _ _) ae);clear ae;go_wp2_with fail;go_ret;exact⟨rfl,HB.out⟩
 have f55:(tk==55)=false:=by simpa using eU
 by_cases h50:tk=50
 ·subst h50;have HN:=zh (show R=(match idxP p.prs ts with|none=>6|some i=>match p.prs[i]? with|none=>6|some r=>if tl=r.ps.length then 0 else 7) by rw[<-HR.out];simp[zlt]);go_enter func113,ntmps113;go_wp2_with fail;refine(znm p S _ ts _ (HV.out.later (HB0.out _ _))).mono ?_;rintro e w1 ⟨rfl,ae⟩;have hbl:=zkb (HB0.out _ _) ae;have hP:=zkc (zkf (heap_alloc_new w (.cells #[.slice A1 L1 c1,.slice A2 L2 c2,.int .u8 k,.int .i64 n,.string s,.slice A3 l3 c3] 43)) _) ae;have hN:=zkc (heap_alloc_new (w.alloc (.cells #[.slice A1 L1 c1,.slice A2 L2 c2,.int .u8 k,.int .i64 n,.string s,.slice A3 l3 c3] 43)) (.cells #[.int .u8 50,.int .i64 tn,.string ts,.slice B tl tc] 41)) ae;simp only[World.size_alloc]at hN
  cases hi:idxP p.prs ts with
  | none =>
   have e1:zlF p.prs ts = -1:=by simp[zlF,hi]
   rw[e1];have aI:=zh (show R=6 by rw[HN.out,hi]);have HB:=zh hbl;clear ae hi e1 hP hN hbl;go_wp2_with fail;go_ret;exact⟨by rw[aI.out];rfl,HB.out⟩
  | some i =>
   have e1:zlF p.prs ts=i:=by simp[zlF,hi]
   rw[e1];have hi2:i<p.prs.length:=(List.findIdx?_eq_some_iff_getElem.1 hi).1;have hiL:i<L2:=by rw[<-HL2.out];exact hi2
   obtain⟨a,r,P1,d1,P2,d2,rfl,_,Hr,⟨_,q1,_⟩,hpr⟩:=(gW.out.later hbl).nd hi2;obtain⟨rl,hrl⟩:=zX (r.ps.length);have hlr:=zlc hpr.lp;rw[hrl]at q1 hlr;have aI:=zh (show R=if tl=rl then 0 else 7 by rw[HN.out,hi];simp only;rw[List.getElem?_eq_getElem hi2,Hr.out,<-hrl]);obtain⟨a0,a1,a2,a3,a4,a5⟩:=box6 hP;obtain⟨b0,b1,b2,b3⟩:=box4 hN;have HB:=zh hbl;clear ae hi e1 hP hN hbl hrl hpr;go_wp2_with fail
   go_region_held3 (fun w'=>(w'.cell? ⟨w.heap.size+1,3,none⟩=some (.slice B tl tc)/\w'.cell? ⟨w.heap.size,1,none⟩=some (.slice (some a) L2 c2)/\w'.cell? ⟨(a.add (i*6)).block,(a.add (i*6)).off+1,none⟩=some (.slice P1 rl d1))) (exact⟨b3,a1,q1⟩) (fail)
   by_cases hq:tl=rl
   ·have g1:(tl==rl)=true:=by simpa using hq
    have g2:(tl != rl)=false:=by simpa using hq
    have g3:((tl:Int)==(rl:Int))=true:=by simp;omega
    have g4:((tl:Int) != (rl:Int))=false:=by simp;omega
    have bR:=zh (show R=0 by rw[aI.out,if_pos hq]);clear hq;go_wp2_with fail;go_ret;exact⟨by rw[bR.out];rfl,HB.out.drew⟩
   ·have g1:(tl==rl)=false:=by simpa using hq
    have g2:(tl != rl)=true:=by simpa using hq
    have g3:((tl:Int)==(rl:Int))=false:=by simp;omega
    have g4:((tl:Int) != (rl:Int))=true:=by simp;omega
    have bR:=zh (show R=7 by rw[aI.out,if_neg hq]);clear hq;go_wp2_with fail;go_ret;exact⟨by rw[bR.out];rfl,HB.out.drew⟩
 have f50:(tk==50)=false:=by simpa using h50
 by_cases lI:tk=51
 ·subst lI;have HN:=zh (show R=(match idxP p.prs ts with|none=>6|some i=>match p.prs[i]? with|none=>6|some r=>if tl=r.ps.length then 0 else 7) by rw[<-HR.out];simp[zlt]);go_enter func113,ntmps113;go_wp2_with fail;refine(znm p S _ ts _ (HV.out.later (HB0.out _ _))).mono ?_;rintro e w1 ⟨rfl,ae⟩;have hbl:=zkb (HB0.out _ _) ae;have hP:=zkc (zkf (heap_alloc_new w (.cells #[.slice A1 L1 c1,.slice A2 L2 c2,.int .u8 k,.int .i64 n,.string s,.slice A3 l3 c3] 43)) _) ae;have hN:=zkc (heap_alloc_new (w.alloc (.cells #[.slice A1 L1 c1,.slice A2 L2 c2,.int .u8 k,.int .i64 n,.string s,.slice A3 l3 c3] 43)) (.cells #[.int .u8 51,.int .i64 tn,.string ts,.slice B tl tc] 41)) ae;simp only[World.size_alloc]at hN
  cases hi:idxP p.prs ts with
  | none =>
   have e1:zlF p.prs ts = -1:=by simp[zlF,hi]
   rw[e1];have aI:=zh (show R=6 by rw[HN.out,hi]);have HB:=zh hbl;clear ae hi e1 hP hN hbl;go_wp2_with fail;go_ret;exact⟨by rw[aI.out];rfl,HB.out⟩
  | some i =>
   have e1:zlF p.prs ts=i:=by simp[zlF,hi]
   rw[e1];have hi2:i<p.prs.length:=(List.findIdx?_eq_some_iff_getElem.1 hi).1;have hiL:i<L2:=by rw[<-HL2.out];exact hi2
   obtain⟨a,r,P1,d1,P2,d2,rfl,_,Hr,⟨_,q1,_⟩,hpr⟩:=(gW.out.later hbl).nd hi2;obtain⟨rl,hrl⟩:=zX (r.ps.length);have hlr:=zlc hpr.lp;rw[hrl]at q1 hlr;have aI:=zh (show R=if tl=rl then 0 else 7 by rw[HN.out,hi];simp only;rw[List.getElem?_eq_getElem hi2,Hr.out,<-hrl]);obtain⟨a0,a1,a2,a3,a4,a5⟩:=box6 hP;obtain⟨b0,b1,b2,b3⟩:=box4 hN;have HB:=zh hbl;clear ae hi e1 hP hN hbl hrl hpr;go_wp2_with fail
   go_region_held3 (fun w'=>(w'.cell? ⟨w.heap.size+1,3,none⟩=some (.slice B tl tc)/\w'.cell? ⟨w.heap.size,1,none⟩=some (.slice (some a) L2 c2)/\w'.cell? ⟨(a.add (i*6)).block,(a.add (i*6)).off+1,none⟩=some (.slice P1 rl d1))) (exact⟨b3,a1,q1⟩) (fail)
   by_cases hq:tl=rl
   ·have g1:(tl==rl)=true:=by simpa using hq
    have g2:(tl != rl)=false:=by simpa using hq
    have g3:((tl:Int)==(rl:Int))=true:=by simp;omega
    have g4:((tl:Int) != (rl:Int))=false:=by simp;omega
    have bR:=zh (show R=0 by rw[aI.out,if_pos hq]);clear hq;go_wp2_with fail;go_ret;exact⟨by rw[bR.out];rfl,HB.out.drew⟩
   ·have g1:(tl==rl)=false:=by simpa using hq
    have g2:(tl != rl)=true:=by simpa using hq
    have g3:((tl:Int)==(rl:Int))=false:=by simp;omega
    have g4:((tl:Int) != (rl:Int))=true:=by simp;omega
    have bR:=zh (show R=7 by rw[aI.out,if_neg hq]);clear hq;go_wp2_with fail;go_ret;exact⟨by rw[bR.out];rfl,HB.out.drew⟩
 have f51:(tk==51)=false:=by simpa using lI
 have HN:=zh (show R=0 by rw[<-HR.out];simp[zlt,h2,h3,h4,h5,tZ,h45,eB,eU,h50,lI]);clear h2 h3 h4 h5 tZ h45 eB eU h50 lI;go_enter func113,ntmps113;go_wp2_with fail;go_ret;exact⟨by rw[HN.out];rfl,HB0.out _ _⟩
def argE(ps:List PR)(s:ByteArray)(l i:Nat)(m:ByteArray)(vs:List VD):Int:=match zlw vs m with
 | none=>6
 | some v=>match idxP ps s with
  | none=>0
  | some j=>match ps[j]? with
   | none=>0
   | some r=>if l=r.ps.length then(match r.ps[i]? with
    | none=>0
    | some q=>if v.k=q.k/\v.n=q.n then 0 else 7)else 0
theorem box3{w:World}{b:Nat}{E:TypeId}{u0 u1 u2:Value}(h:w.heap[b]?=some (.cells #[u0,u1,u2] E (0,0))):w.cell? ⟨b,0,none⟩=some u0/\w.cell? ⟨b,1,none⟩=some u1/\w.cell? ⟨b,2,none⟩=some u2 :=
 ⟨zc h rfl,zc h rfl,zc h rfl⟩
theorem znS(p:PG)(t:T)(i:Nat)(hi:i<t.ks.length)(vs:List VD)(A:Option Addr)(c:Nat)(S S' S'':Nat->Prop)(v1 v2:Value)(w:World)(hv1:PV w S p v1)(hv2:NV w S' t v2)(hrow:RowV w S'' A vs)(hl:vs.length<=LV) :
  Calls prog 115 #[v1,v2,.int .i64 i,.slice A vs.length c] w fun e w'=>e=.returned (.int .i64 (argE p.prs t.s t.ks.length i t.ks[i].s vs))/\Below w.heap.size w w':=by
 have hvv:=hv1;obtain⟨A1,c1,A2,c2,A3,c3,rfl,hr⟩:=hv1;have gW:=zh hr.procs;have hlp:=zlc hr.lp;obtain⟨L1,hL1⟩:=zX (p.vs.length);obtain⟨L2,hL2⟩:=zX (p.prs.length);obtain⟨k,hk⟩:=zX (p.m.k);obtain⟨n,hn⟩:=zX (p.m.n);obtain⟨s,hs⟩:=zX (p.m.s);obtain⟨l3,hl3⟩:=zX (p.m.ks.length);rw[hL1,hL2,hk,hn,hs,hl3];rw[hL1,hL2,hk,hn,hs,hl3]at hvv;rw[hL2]at hlp;have HL2:=zh hL2;have HV:=zh hvv;clear hr hvv hL1 hL2 hk hn hs hl3;obtain⟨B,tc,rfl,_,hlk,_,ik⟩:=hv2.open_;have aA:=zkI hlk;have af:=zh hrow;have HL:=zh hl;obtain⟨b,u,B1,f1,rfl,_,Hu,⟨z0,z1,z2,z3⟩,-⟩:=ik.nd hi;rw[Hu.out];clear hrow hl hv2 hlk ik z0 z1 z3;obtain⟨us,dS⟩:=zX (u.s);rw[dS]at z2 ⊢;clear dS Hu;generalize t.k=tk,t.n=tn,t.s=ts,t.ks.length=tl at *
 obtain⟨R,hR⟩:=zX (argE p.prs ts tl i us vs);rw[hR];have HR:=zh hR;clear hR;have hb0:∀o o',Below w.heap.size w ((w.alloc o).alloc o'):=fun o o'=>(zr.alloc zl _).alloc (by simp) _;have HB0:=zh hb0;have z2':=fun o o'=>zks (zks z2 o) o';clear hb0 z2;go_enter func115,ntmps115;go_wp2_with fail;refine(zn9 vs A c us S'' _ (af.out.later (HB0.out _ _)) HL.out).mono ?_;rintro e w1 ⟨rfl,ae⟩;have hbl:=zkb (HB0.out _ _) ae;have hP:=zkc (zkf (heap_alloc_new w (.cells #[.slice A1 L1 c1,.slice A2 L2 c2,.int .u8 k,.int .i64 n,.string s,.slice A3 l3 c3] 43)) _) ae;have hN:=zkc (heap_alloc_new (w.alloc (.cells #[.slice A1 L1 c1,.slice A2 L2 c2,.int .u8 k,.int .i64 n,.string s,.slice A3 l3 c3] 43)) (.cells #[.int .u8 tk,.int .i64 tn,.string ts,.slice (some b) tl tc] 41)) ae;simp only[World.size_alloc]at hN
 cases hf:zlw vs us with
 | none =>
  have HN:=zh (show R=6 by rw[<-HR.out];simp[argE,hf]);have HB:=zh (zka hbl (.cells #[.string ⟨#[]⟩,.int .u8 0,.int .i64 0] 57));clear hf ae hP hN hbl z2';go_wp2_with fail;go_ret;exact⟨by rw[HN.out];rfl,HB.out⟩
 | some v =>
  obtain⟨vm,vk,vl⟩:=v;have hq2:=zka hbl (.cells #[.string vm,.int .u8 vk,.int .i64 vl] 57);have hP2:=zkf hP (.cells #[.string vm,.int .u8 vk,.int .i64 vl] 57);have AJ:=zkf hN (.cells #[.string vm,.int .u8 vk,.int .i64 vl] 57);have hV2:=heap_alloc_new w1 (.cells #[.string vm,.int .u8 vk,.int .i64 vl] 57);have HR2:=zh (show R=(match idxP p.prs ts with
   | none=>0
   | some j=>match p.prs[j]? with
    | none=>0
    | some r=>if tl=r.ps.length then(match r.ps[i]? with
     | none=>0
     | some q=>if vk=q.k/\vl=q.n then 0 else 7)else 0) by rw[<-HR.out];simp[argE,hf])
  obtain⟨a0,a1,a2,a3,a4,a5⟩:=box6 hP2;obtain⟨b0,b1,b2,b3⟩:=box4 AJ;have lM:=zh hP2;have aI:=zh AJ;have yo:=zh hV2;have BA:=zh hq2;clear hf ae hP hN hbl z2' hP2 AJ hV2 hq2 HR;go_wp2_with fail;refine(znm p S _ ts _ (HV.out.later BA.out)).mono ?_;rintro e w2 ⟨rfl,au⟩;have hbl:=zkb BA.out au;have hP:=zkc lM.out au;have hN:=zkc aI.out au;have hV:=zkc yo.out au;clear a0 a1 a2 a3 a4 a5 b0 b1 b2 b3 lM aI yo BA au
  cases hi2:idxP p.prs ts with
  | none =>
   have e1:zlF p.prs ts = -1:=by simp[zlF,hi2]
   rw[e1];have bR:=zh (show R=0 by rw[HR2.out,hi2]);have HB:=zh hbl;clear hi2 e1 hP hN hV hbl;go_wp2_with fail;refine wp_region_noPanic ?_;refine zkk zU zU 20 (by kernel_rfl) ?_;have hSS:zW zU zU w2.drew:=⟨trivial,trivial⟩
   refine zT 0 hSS ?_;refine zT 1 hSS ?_;refine zT 2 hSS ?_;refine zkQ (i:=3) (v:=undef) rfl (by kernel_rfl) (by kernel_rfl) (by kernel_rfl) (by decide) (fun _ _ _ h=>h) (Or.inr ⟨by rfl,rfl⟩) hSS ?_;(try simp only[zQ]);refine zkQ (i:=4) (v:=undef) rfl (by kernel_rfl) (by kernel_rfl) (by kernel_rfl) (by decide) (fun _ _ _ h=>h) (Or.inr ⟨by rfl,rfl⟩) hSS ?_;(try simp only[zQ]);refine zkQ (i:=5) (v:=undef) rfl (by kernel_rfl) (by kernel_rfl) (by kernel_rfl) (by decide) (fun _ _ _ h=>h) (Or.inr ⟨by rfl,rfl⟩) hSS ?_;(try simp only[zQ]);refine zkQ (i:=6) (v:=undef) rfl (by kernel_rfl) (by kernel_rfl) (by kernel_rfl) (by decide) (fun _ _ _ h=>h) (Or.inr ⟨by rfl,rfl⟩) hSS ?_;(try simp only[zQ]);refine zkQ (i:=7) (v:=undef) rfl (by kernel_rfl) (by kernel_rfl) (by kernel_rfl) (by decide) (fun _ _ _ h=>h) (Or.inr ⟨by rfl,rfl⟩) hSS ?_;(try simp only[zQ])
   refine zkQ (i:=8) (v:=undef) rfl (by kernel_rfl) (by kernel_rfl) (by kernel_rfl) (by decide) (fun _ _ _ h=>h) (Or.inr ⟨by rfl,rfl⟩) hSS ?_;(try simp only[zQ]);refine zkQ (i:=9) (v:=undef) rfl (by kernel_rfl) (by kernel_rfl) (by kernel_rfl) (by decide) (fun _ _ _ h=>h) (Or.inr ⟨by rfl,rfl⟩) hSS ?_;(try simp only[zQ]);refine zkQ (i:=10) (v:=undef) rfl (by kernel_rfl) (by kernel_rfl) (by kernel_rfl) (by decide) (fun _ _ _ h=>h) (Or.inr ⟨by rfl,rfl⟩) hSS ?_;(try simp only[zQ]);refine zkQ (i:=11) (v:=undef) rfl (by kernel_rfl) (by kernel_rfl) (by kernel_rfl) (by decide) (fun _ _ _ h=>h) (Or.inr ⟨by rfl,rfl⟩) hSS ?_;(try simp only[zQ]);refine zkQ (i:=12) (v:=undef) rfl (by kernel_rfl) (by kernel_rfl) (by kernel_rfl) (by decide) (fun _ _ _ h=>h) (Or.inr ⟨by rfl,rfl⟩) hSS ?_;(try simp only[zQ])
   refine zkQ (i:=13) (v:=undef) rfl (by kernel_rfl) (by kernel_rfl) (by kernel_rfl) (by decide) (fun _ _ _ h=>h) (Or.inr ⟨by rfl,rfl⟩) hSS ?_;(try simp only[zQ]);refine zT 14 hSS ?_;refine zd ?_;refine NoPanic.normal ?_;clear hSS;go_wp2_with fail;go_ret;exact⟨by rw[bR.out];rfl,HB.out.drew⟩
  | some j =>
   have e1:zlF p.prs ts=j:=by simp[zlF,hi2]
   rw[e1];have hj2:j<p.prs.length:=(List.findIdx?_eq_some_iff_getElem.1 hi2).1;have hjL:j<L2:=by rw[<-HL2.out];exact hj2
   obtain⟨a,r,P1,d1,P2,d2,rfl,_,Hr,⟨_,q1,_⟩,hpr⟩:=(gW.out.later hbl).nd hj2;obtain⟨rl,hrl⟩:=zX (r.ps.length);have hlr:=zlc hpr.lp;have yE:=zh hpr.row;rw[hrl]at q1 hlr;have HR3:=zh (show R=if tl=rl then(match r.ps[i]? with
     | none=>0
     | some q=>if vk=q.k/\vl=q.n then 0 else 7)else 0 by rw[HR2.out,hi2];simp only;rw[List.getElem?_eq_getElem hj2,Hr.out,<-hrl])
   have gT:=zh hrl;obtain⟨a0,a1,a2,a3,a4,a5⟩:=box6 hP;obtain⟨b0,b1,b2,b3⟩:=box4 hN;have eZ:=zh hV;have HB:=zh hbl;have hj0:decide ((j:Int)<0)=false:=by simp
   clear hi2 e1 hP hN hbl hrl hpr hV;go_wp2_with fail
   go_region_held3 (fun w'=>(w'.cell? ⟨w.heap.size+1,3,none⟩=some (.slice (some b) tl tc)/\w'.cell? ⟨w.heap.size,1,none⟩=some (.slice (some a) L2 c2)/\w'.cell? ⟨(a.add (j*6)).block,(a.add (j*6)).off+1,none⟩=some (.slice P1 rl d1))) (exact⟨b3,a1,q1⟩) (fail)
   by_cases hq:tl=rl
   ·have g1:(tl==rl)=true:=by simpa using hq
    have g2:(tl != rl)=false:=by simpa using hq
    have g3:((tl:Int)==(rl:Int))=true:=by simp;omega
    have g4:((tl:Int) != (rl:Int))=false:=by simp;omega
    have hir:i<r.ps.length:=by rw[gT.out];omega
    have hir':i<rl:=by omega
    obtain⟨e,q,rfl,_,Hq,⟨y0,y1,y2⟩,wG⟩:=(yE.out.later zr.drew).nd hir;have HR4:=zh (show R=if vk=q.k/\vl=q.n then 0 else 7 by rw[HR3.out,if_pos hq,List.getElem?_eq_getElem hir,Hq.out]);obtain⟨qm,qk,ql⟩:=q;simp only at y0 y1 y2 HR4;have hV3:=box3 eZ.out;obtain⟨x0,x1,x2⟩:=hV3;have aF:=zh (zka HB.out.drew (.cells #[.string qm,.int .u8 qk,.int .i64 ql] 57));have hlt9:=zkp eZ.out;clear hq Hq wG yE eZ;by_cases hk1:vk=qk
    ·have k1:(vk==qk)=true:=by simpa using hk1
     have k2:(vk != qk)=false:=by simpa using hk1
     by_cases hk2:vl=ql
     ·have k3:(vl==ql)=true:=by simpa using hk2
      have k4:(vl != ql)=false:=by simpa using hk2
      have bR:=zh (show R=0 by rw[HR4.out,if_pos ⟨hk1,hk2⟩]);clear hk1 hk2;go_wp2_with fail;go_ret;exact⟨by rw[bR.out];rfl,aF.out⟩
     ·have k3:(vl==ql)=false:=by simpa using hk2
      have k4:(vl != ql)=true:=by simpa using hk2
      have bR:=zh (show R=7 by rw[HR4.out,if_neg (fun h=>hk2 h.2)]);clear hk1 hk2;go_wp2_with fail;go_ret;exact⟨by rw[bR.out];rfl,aF.out⟩
    ·have k1:(vk==qk)=false:=by simpa using hk1
     have k2:(vk != qk)=true:=by simpa using hk1
     have bR:=zh (show R=7 by rw[HR4.out,if_neg (fun h=>hk1 h.1)]);clear hk1;go_wp2_with fail;go_ret;exact⟨by rw[bR.out];rfl,aF.out⟩
   ·have g1:(tl==rl)=false:=by simpa using hq
    have g2:(tl != rl)=true:=by simpa using hq
    have g3:((tl:Int)==(rl:Int))=false:=by simp;omega
    have g4:((tl:Int) != (rl:Int))=true:=by simp;omega
    have bR:=zh (show R=0 by rw[HR3.out,if_neg hq]);clear hq;go_wp2_with fail;go_ret;exact⟨by rw[bR.out];rfl,HB.out.drew⟩
theorem RowV.news{w:World}{S:Nat->Prop}{a:Addr}:∀ {vs:List VD},RowV w S (some a) vs->∃news:List Value,news.length=vs.length*3/\(∀j u,news[j]?=some u->w.cell? (a.add j)=some u)/\(∀u∈news,u.oneCell'=true) /\
  ∀i (hi:i<vs.length),news[i*3]?=some (.string vs[i].s)/\news[i*3+1]?=some (.int .u8 vs[i].k)/\news[i*3+2]?=some (.int .i64 vs[i].n):=by
 intro vs
 induction vs generalizing a with
 | nil=>exact fun _=>⟨[],rfl,fun j u h=>by simp at h,fun u h=>by simp at h,fun i hi=>absurd hi (by simp)⟩
 | cons t us ih =>
  intro h;obtain⟨a',e,hS,hc,_⟩:=h 0 (by simp);injection e with e;subst e;obtain⟨news,hl,hcell,h1,hns⟩:=ih (a:=a.add 3) (fun i hi=>by
   obtain⟨a'',e,hS',hc,hf⟩:=h (i+1) (by simpa using hi);injection e with e;subst e;refine⟨_,rfl,by rw[zkz];exact hS',?_,by simpa using hf⟩;rw[zvb,show 3+i*3=(i+1)*3 by omega];simpa using hc)
  obtain⟨c0,c1,c2⟩:=hc;simp only[Nat.zero_mul]at c0 c1 c2;refine⟨.string t.s :: .int .u8 t.k :: .int .i64 t.n::news,by simp[hl];omega,fun j u hj=>?_,fun u hu=>?_,fun i hi=>?_⟩
  ·rcases j with _|_|_|j
   ·simp at hj;subst hj;exact c0
   ·simp at hj;subst hj;exact c1
   ·simp at hj;subst hj;exact c2
   ·have:=hcell j u (by simpa using hj);rw[zvb]at this;rw[show j+1+1+1=3+j by omega];exact this
  ·simp only[List.mem_cons]at hu;rcases hu with rfl|rfl|rfl|hu
   ·rfl
   ·rfl
   ·rfl
   ·exact h1 u hu
  ·rcases i with _|i
   ·exact⟨rfl,rfl,rfl⟩
   ·obtain⟨e0,e1,e2⟩:=hns i (by simpa using hi);refine⟨?_,?_,?_⟩
    ·rw[show(i+1)*3=i*3+1+1+1 by omega];simpa using e0
    ·rw[show(i+1)*3+1=i*3+1+1+1+1 by omega];simpa using e1
    ·rw[show(i+1)*3+2=i*3+2+1+1+1 by omega];simpa using e2
theorem zvH(A:Option Addr)(l c:Nat)(hlc:l<=c)(hl:l<=LI)(w:World):Calls prog 150 #[.slice A l c] w fun e w'=>e=.returned (.slice A l l)/\w=w':=by
 have hl':=zpr hl;have h1:(l:Int)<=(c:Int):=by omega
 clear hl;go_enter func150,ntmps150;go_wp2_with fail;go_ret;exact⟨rfl,rfl⟩
theorem zqV(A:Option Addr)(l c:Nat)(hlc:l<=c)(hl:l<=LV)(w:World):Calls prog 120 #[.slice A l c] w fun e w'=>e=.returned (.slice A l l)/\w=w':=by
 have hl':=zlc hl;have h1:(l:Int)<=(c:Int):=by omega
 clear hl;go_enter func120,ntmps120;go_wp2_with fail;go_ret;exact⟨rfl,rfl⟩
theorem zl4{P:Program}{w:World}{ops:Array Oper}{o:Oper}{a:Act}{K:Act->World->Prop}{Q:Exit->Act->World->Prop}{F:Prop}(hgd:o.guard=none)(s x:Operand)(t:TypeId)
  (hop:o.op=Op.call { callee:=Callee.builtin Builtin.append,args := #[s,x],argTypes := #[t,t] })(e:TypeId)(i:TypeInfo)(z:Value)(size bytes:Nat)(h1:P.underlying t=some (.slice e))(h2:P.info? e=some i)(h3:i.zero=some z)(h4:i.size=size)(h5:i.bytes=bytes)(h6:z.cells.size=size)(h7:0<size)
  (ao:Option Addr)(n cap:Nat)(olds:List Value)(hs:a.eval s=.slice ao n cap)(hnone:ao=none->n=0/\cap=0)(hlo:olds.length=n*size)(holds:∀b,ao=some b->∀j u,olds[j]?=some u->w.cell? (b.add j)=some u)
  (ad:Addr)(m c:Nat)(news:List Value)(hx:a.eval x=.slice (some ad) m c)(hn:news.length=m*size)(hc:∀j u,news[j]?=some u->w.cell? (ad.add j)=some u)(h1c:∀u∈news,u.oneCell'=true)
  (hfull:cap<n+m)(b1:n+m<=maxLen)(b2:(n+m)*bytes<=140737488355328)
  (hK:∀v' w',w'.ownsRow w.heap.size e size v' (n+m) (olds++news)->w.grownBy w' none->K (a.put o.dst v') w') :
  if Region.wanted o (yielded ops a.tmps)=true then Oper.wp P o a w K Q else F:=by
 have hw:Region.wanted o (yielded ops a.tmps)=true:=by simp[Region.wanted,hgd]
 rw[if_pos hw]
 cases ao with
 | some b =>
  obtain⟨v',w',hrun,r1,r2⟩:=run_append_arg_grows (P:=P) w t o.type e i z size bytes h1 h2 h3 h4 h5 h6 h7 b n cap olds hlo (holds b rfl) ad m c news hn hc hfull b1 b2;unfold Oper.wp;simp[execOp,hop,resolve,invoke,builtin,hs,hx,hrun,Result.andThen];exact hK v' w' r1 r2
 | none =>
  obtain⟨rfl,rfl⟩:=hnone rfl;obtain rfl:olds=[]:=List.eq_nil_of_length_eq_zero (by simpa using hlo);obtain⟨v',w',hrun,r1,r2,_⟩:=run_append_own (P:=P) w w.heap.size t o.type e i z size bytes h1 h2 h3 h4 h5 h6 h7 (.slice none 0 0) 0 [] (World.ownsRow_nil w _ e size) ad m c news hn hc h1c b1 b2 zl;unfold Oper.wp;simp[execOp,hop,resolve,invoke,builtin,hs,hx,hrun,Result.andThen];exact hK v' w' r1 r2
theorem zoG(q:List Int)(A:Option Addr)(c:Nat)(i:Int)(hi:I64 i)(S:Nat->Prop)(w:World)(hrow:RowI w S A q)(hlc:q.length<=c)(hl:q.length<=100000) :
  Calls prog 114 #[.slice A q.length c,.int .i64 i] w (NewI w (q++[i])):=by
 obtain⟨i0,hi0,hz0,hz1,hz2⟩:=info_parts zlO;have af:=zh hrow;have HI:=zh hi;have hbI:=zpY;have hm1:q.length+1<=maxLen:=by unfold maxLen;omega
 have hm2:(q.length+1)*8<=140737488355328:=by omega
 have hnone:A=none->q.length=0/\q.length=0:=fun h=>by
  subst h
  cases q with
  | nil=>simp
  | cons x xs=>obtain⟨_,h,_⟩:=hrow 0 (by simp);cases h
 have hold:∀b,A=some b->∀(j:Nat) u,(q.map fun x=>Value.int .i64 x)[j]?=some u->(w.alloc (.cells #[.int .i64 i] 3)).cell? (b.add j)=some u:=fun b hb j u hj=>by
  subst hb;exact zks (hrow.news.1 j u hj) _
 have hnew:∀(j:Nat) (u:Value),[Value.int .i64 i][j]?=some u->(w.alloc (.cells #[.int .i64 i] 3)).cell? ((⟨w.heap.size,0,none⟩:Addr).add j)=some u:=fun j u h=>by
  have:=zlD w 3 [Value.int .i64 i] j u h;simpa using this
 clear hrow hi;go_enter func114,ntmps114;go_wp2_with fail;refine(zvH A q.length c hlc (by unfold LI;omega) _).mono ?_;rintro e w' ⟨rfl,rfl⟩;go_wp2_with (at_builtin;refine wpList_append_grows (P:=prog) _ rfl (.tmp 6) (.tmp 8) 30 rfl 3 i0 _ 1 8 underlying30 hi0 hz0 hz1 hz2 rfl (by decide) A q.length q.length _ rfl hnone (by simp) hold ⟨w.heap.size,0,none⟩ 1 1 [.int .i64 i] rfl rfl hnew (by intro u hu;simp at hu;subst hu;rfl) (by omega) hm1 hm2 ?_;intro v' w' h2 h3)
 have h2':w'.ownsRow (w.heap.size+1) 3 1 v' (q++[i]).length ((q++[i]).map (fun x=>Value.int .i64 x)):=by
  have:=h2;simp only[World.size_alloc]at this;simpa using this
 have hbl:Below w.heap.size w w':=((zs w).alloc zl _).grown h3 (by simp) (fun g e=>by cases e);obtain⟨A',c',rfl,hcc,bA⟩:=zlA h2' (by
  intro x hx;simp only[List.mem_append,List.mem_singleton]at hx;rcases hx with hx|rfl
  ·exact af.out.fits x hx
  ·exact HI.out)
 have dC:=zh (bA.mono (S':=From w.heap.size) fun b hb=>by have:=(h2'.lt b hb).1;show w.heap.size<=b;omega);have HB:=zh hbl;have HC:=zh hcc;clear h2 h2' h3 hbl hold hnew bA hcc hnone;go_wp2_with fail;go_ret;exact⟨A',c',rfl,dC.out,HC.out,HB.out⟩
theorem zyY(s:ByteArray)(k:Int)(w:World):(Instr.build 57 #[(0,.string s),(1,.int .u8 k)]).run prog w=.ok (.agg #[.string s,.int .u8 k,.int .i64 0]) w:=by kernel_rfl
theorem zw1(a0 a1 a2:Value)(w:World):(Instr.buildSlice 22 1 #[(0,.agg #[a0,a1,a2])]).run prog w=.ok (.slice (some ⟨w.heap.size,0,none⟩) 1 1) (w.alloc (.cells #[a0,a1,a2] 57)):=by kernel_rfl
def zmw(k:Int)(s:ByteArray)(i:Nat)(vs:List VD):List VD:=if k=54/\i=1 then vs++[⟨s,1,0⟩]else if k=55/\i=0 then vs++[⟨s,3,0⟩]else vs
def zxi(w:World)(S:Nat->Prop)(vs:List VD)(e:Ending)(w':World):Prop:=∃A' c',e=.returned (.slice A' vs.length c')/\RowV w' (fun b=>S b\/w.heap.size<=b) A' vs/\vs.length<=c'/\Below w.heap.size w w'
theorem zqu{w w':World}{base:Nat}{E:TypeId}{v:Value}{vs:List VD}{u:VD}{news:List Value}(hn:∀i (hi:i<vs.length),news[i*3]?=some (.string vs[i].s)/\news[i*3+1]?=some (.int .u8 vs[i].k)/\news[i*3+2]?=some (.int .i64 vs[i].n))
  (hl:news.length=vs.length*3)(hf:∀i (hi:i<vs.length),FldV vs[i])(hu:FldV u)(h:w'.ownsRow base E 3 v (vs.length+1) (news++[.string u.s,.int .u8 u.k,.int .i64 u.n])) :
  ∃A c,v=.slice A (vs++[u]).length c/\(vs++[u]).length<=c/\RowV w' (fun b=>base<=b) A (vs++[u]):=by
 rcases h.2 with⟨_,h0⟩|⟨g,cap,cur,rfl,hb,hg,hc,hm,hz,hx⟩
 ·omega
 ·refine⟨some ⟨g,0,none⟩,cap,by simp,by simpa using hc,fun i hi=>?_⟩;have ha:(⟨g,0,none⟩:Addr).add (i*3)=⟨g,i*3,none⟩:=by unfold Addr.add;split<;>simp_all
  have hcell:∀j x,(news++[Value.string u.s,.int .u8 u.k,.int .i64 u.n])[j]?=some x->w'.cell? ⟨g,j,none⟩=some x:=fun j x hj=>by
   have hlt:=(List.getElem?_eq_some_iff.1 hj).1;rw[h.cellAt j (by simp at hlt;omega)];exact hj
  refine⟨⟨g,0,none⟩,rfl,hb,?_,?_⟩
  ·rw[ha];by_cases e:i<vs.length
   ·obtain⟨e0,e1,e2⟩:=hn i e;rw[List.getElem_append_left e];exact⟨hcell (i*3) _ (by rw[List.getElem?_append_left (by omega)];exact e0),hcell (i*3+1) _ (by rw[List.getElem?_append_left (by omega)];exact e1),hcell (i*3+2) _ (by rw[List.getElem?_append_left (by omega)];exact e2)⟩
   ·have e':i=vs.length:=by simp at hi;omega
    subst e';simp only[List.getElem_append_right zl,Nat.sub_self,List.getElem_cons_zero];exact⟨hcell (vs.length*3) _ (by rw[List.getElem?_append_right (by omega)];simp[hl]),hcell (vs.length*3+1) _ (by rw[List.getElem?_append_right (by omega)];simp[hl]),hcell (vs.length*3+2) _ (by rw[List.getElem?_append_right (by omega)];simp[hl])⟩
  ·by_cases e:i<vs.length
   ·rw[List.getElem_append_left e];exact hf i e
   ·have e':i=vs.length:=by simp at hi;omega
    subst e';simpa using hu
theorem zur(t:T)(i:Nat)(hi64:i<=4000000000)(vs:List VD)(A:Option Addr)(c:Nat)(S S':Nat->Prop)(v:Value)(w:World)(hv:NV w S' t v)(hrow:RowV w S A vs)(hlc:vs.length<=c)(hl:vs.length<=100000) :
  Calls prog 84 #[v,.int .i64 i,.slice A vs.length c] w (zxi w S (zmw t.k t.s i vs)):=by
 obtain⟨i0,hi0,hz0,hz1,hz2⟩:=info_parts zxx;obtain⟨B,tc,rfl,hft,-⟩:=hv.open_;have af:=zh hrow;have nE:=zh hlc;have lQ:=zh hft;have hb2:=zyY;have hbs:=zw1;have hm1:vs.length+1<=maxLen:=by unfold maxLen;omega
 have hm2:(vs.length+1)*32<=140737488355328:=by omega
 have hlv:vs.length<=LV:=by unfold LV;omega
 obtain⟨news,hnl,hnc,hn1,nW⟩:∃news:List Value,news.length=vs.length*3/\(∀b,A=some b->∀(j:Nat) u,news[j]?=some u->w.cell? (b.add j)=some u)/\(A=none->vs.length=0/\vs.length=0)/\(∀i (hi:i<vs.length),news[i*3]?=some (.string vs[i].s)/\news[i*3+1]?=some (.int .u8 vs[i].k)/\news[i*3+2]?=some (.int .i64 vs[i].n)):=by
  cases A with
  | none =>
   have h0:vs=[]:=by
    cases vs with
    | nil=>rfl
    | cons x xs=>obtain⟨_,h,_⟩:=hrow 0 (by simp);cases h
   subst h0;exact⟨[],rfl,(fun b h=>by cases h),(fun _=>⟨rfl,rfl⟩),fun i hi=>absurd hi (by simp)⟩
  | some a =>
   obtain⟨news,h1,h2,_,h4⟩:=hrow.news;exact⟨news,h1,(fun b h=>by injection h with h;subst h;exact h2),(fun h=>by cases h),h4⟩
 have lN:=zh nW;have HFV:=zh (show ∀i (hi:i<vs.length),FldV vs[i]from fun i hi=>(hrow i hi).choose_spec.2.2.2);clear hrow hlc hft hv nW;generalize t.k=tk,t.n=tn,t.s=ts,t.ks.length=tl at *
 obtain⟨V,hV⟩:=zX (zmw tk ts i vs);rw[hV];have HV:=zh hV;clear hV;have key:∀(kd:Int) (hkd:kd=1\/kd=3) (W':World) (v':Value),(((w.alloc (.cells #[.int .u8 tk,.int .i64 tn,.string ts,.slice B tl tc] 41)).alloc (.cells #[.string ts,.int .u8 kd,.int .i64 0] 57)).drew).grownBy W' none ->
   W'.ownsRow ((w.alloc (.cells #[.int .u8 tk,.int .i64 tn,.string ts,.slice B tl tc] 41)).alloc (.cells #[.string ts,.int .u8 kd,.int .i64 0] 57)).drew.heap.size 57 3 v' (vs.length+1) (news++[.string ts,.int .u8 kd,.int .i64 0])->V=vs++[⟨ts,kd,0⟩]->zxi w S V (.returned v') W':=by
  intro kd hkd W' v' hg ho hVV;subst hVV;obtain⟨A',c',rfl,hcc,hrr⟩:=zqu (w:=w) (u:=⟨ts,kd,0⟩) lN.out hnl HFV.out ⟨lQ.out.2.2,(show(0:Int)<=kd/\kd<256 by rcases hkd with rfl|rfl<;>decide),(by decide:(-9223372036854775808:Int)<=0/\(0:Int)<=9223372036854775807)⟩ ho;refine⟨A',c',rfl,hrr.mono fun b hb=>.inr ?_,hcc,?_⟩
  ·simp at hb;omega
  ·exact((((zs w).alloc zl _).alloc (by simp) _).drew).grown hg (by simp;omega) (fun g e=>by cases e)
 have HKEY:=zh key;have hnc':∀o o' b,A=some b->∀(j:Nat) u,news[j]?=some u->((w.alloc o).alloc o').drew.cell? (b.add j)=some u:=fun o o' b hb j u hj=>zks (zks (hnc b hb j u hj) o) o';have hnw:∀(kd:Int) (j:Nat) (u:Value),[Value.string ts,.int .u8 kd,.int .i64 0][j]?=some u->((w.alloc (.cells #[.int .u8 tk,.int .i64 tn,.string ts,.slice B tl tc] 41)).alloc (.cells #[.string ts,.int .u8 kd,.int .i64 0] 57)).drew.cell? ((⟨w.heap.size+1,0,none⟩:Addr).add j)=some u:=fun kd j u h=>by
  have:=zlD (w.alloc (.cells #[.int .u8 tk,.int .i64 tn,.string ts,.slice B tl tc] 41)) 57 [Value.string ts,.int .u8 kd,.int .i64 0] j u h;simpa using this
 have HNC:=zh hnc';have vJ:=zh hnw;clear key hnc hnc' hnw;by_cases eB:tk=54/\i=1
 ·obtain⟨rfl,rfl⟩:=eB;have wV:=zh (show V=vs++[⟨ts,1,0⟩] by rw[<-HV.out];simp[zmw]);go_enter func84,ntmps84;go_wp2_with fail
  go_region_held3 (fun w'=>w'.cell? ⟨w.heap.size,2,none⟩=some (.string ts))
   (first|exact hk5|(simp;done))
   (first
    | (refine zl4 (by rfl) (.tmp 16) (.tmp 20) 22 (by rfl) 57 i0 _ 3 32 underlying22 hi0 hz0 hz1 hz2 rfl (by decide) A vs.length vs.length news (by rfl) hn1 hnl (HNC.out _ _) ⟨w.heap.size+1,0,none⟩ 1 1 [.string ts,.int .u8 1,.int .i64 0] (by rfl) rfl (vJ.out 1) (by intro u hu;simp at hu;rcases hu with rfl|rfl|rfl<;>rfl) (by omega) hm1 hm2 ?_;intro v' w' h2 h3;have HF:=zh (HKEY.out 1 (.inl rfl) w' v' h3 h2 wV.out);have hk5:w'.cell? ⟨w.heap.size,2,none⟩=some (.string ts):=(World.cell?_of_block (a:=⟨w.heap.size,2,none⟩) (h3.block _ (by simp;omega) (by simp))).trans (by simp);clear h2 h3)
    | (go_at_call 120;refine(zqV A vs.length c nE.out hlv _).mono ?_;rintro e wq ⟨rfl,rfl⟩)
    | fail)
  all_goals
   clear hk5;go_wp2_with fail;go_ret;exact HF.out
 by_cases eU:tk=55/\i=0
 ·obtain⟨rfl,rfl⟩:=eU;have wV:=zh (show V=vs++[⟨ts,3,0⟩] by rw[<-HV.out];simp[zmw]);go_enter func84,ntmps84;go_wp2_with fail
  go_region_held3 (fun w'=>w'.cell? ⟨w.heap.size,2,none⟩=some (.string ts))
   (first|exact hk5|(simp;done))
   (first
    | (refine zl4 (by rfl) (.tmp 31) (.tmp 35) 22 (by rfl) 57 i0 _ 3 32 underlying22 hi0 hz0 hz1 hz2 rfl (by decide) A vs.length vs.length news (by rfl) hn1 hnl (HNC.out _ _) ⟨w.heap.size+1,0,none⟩ 1 1 [.string ts,.int .u8 3,.int .i64 0] (by rfl) rfl (vJ.out 3) (by intro u hu;simp at hu;rcases hu with rfl|rfl|rfl<;>rfl) (by omega) hm1 hm2 ?_;intro v' w' h2 h3;have HF:=zh (HKEY.out 3 (.inr rfl) w' v' h3 h2 wV.out);have hk5:w'.cell? ⟨w.heap.size,2,none⟩=some (.string ts):=(World.cell?_of_block (a:=⟨w.heap.size,2,none⟩) (h3.block _ (by simp;omega) (by simp))).trans (by simp);clear h2 h3)
    | (go_at_call 120;refine(zqV A vs.length c nE.out hlv _).mono ?_;rintro e wq ⟨rfl,rfl⟩)
    | fail)
  all_goals
   clear hk5;go_wp2_with fail;go_ret;exact HF.out
 have wV:=zh (show V=vs by rw[<-HV.out];unfold zmw;rw[if_neg eB,if_neg eU]);have HF:=zh (show ∀o,zxi w S V (.returned (.slice A vs.length c)) (w.alloc o)from fun o=>by
  rw[wV.out];exact⟨A,c,rfl,(af.out.later (zr.alloc zl _)).mono fun b hb=>.inl hb,nE.out,zr.alloc zl _⟩)
 by_cases za:tk=54
 ·subst za;have hne:¬ i=1:=fun e=>eB ⟨rfl,e⟩;have e1:(i==1)=false:=by simpa using hne
  have e2:((i:Int)==1)=false:=by simp;omega
  clear eB eU hne;go_enter func84,ntmps84;go_wp2_with fail;go_ret;exact HF.out _
 have f54:(tk==54)=false:=by simpa using za
 by_cases y9:tk=55
 ·subst y9;have hne:¬ i=0:=fun e=>eU ⟨rfl,e⟩;have e1:(i==0)=false:=by simpa using hne
  have e2:((i:Int)==0)=false:=by simp;omega
  clear eB eU hne;go_enter func84,ntmps84;go_wp2_with fail;go_ret;exact HF.out _
 have f55:(tk==55)=false:=by simpa using y9
 clear eB eU za y9;go_enter func84,ntmps84;go_wp2_with fail;go_ret;exact HF.out _
end
section
open Go Go.RowKit
mutual
/-- The nodes of a tree,in pre-order. -/
def po:T->List T
 | .nd k n s ks=>.nd k n s ks::pos ks
def pos:List T->List T
 | []=>[]
 | t::ts=>po t++pos ts
end
mutual
/-- The depth of a tree. -/
def dep:T->Nat
 | .nd _ _ _ ks=>1+deps ks
def deps:List T->Nat
 | []=>0
 | t::ts=>max (dep t) (deps ts)
end
theorem zxS{t:T}:∀ {ks:List T},t∈ks->dep t<=deps ks
 | u::us,h=>by
  simp only[List.mem_cons]at h;rcases h with rfl|h
  ·simp only[deps];omega
  ·have:=zxS h;simp only[deps];omega
def zKS(w:World)(xs:List Int)(v:Value)(w':World):Prop:=∃A' c',v=.slice A' xs.length c'/\RowI w' (From w.heap.size) A' xs/\xs.length<=c'/\Below w.heap.size w w'
theorem znY{P:Program}{f:FuncId}{args:Array Value}{w:World}{xs:List Int}(h:Calls P f args w (NewI w xs)):Calls P f args w fun e w'=>∃v,e=.returned v/\zKS w xs v w' :=
 h.mono fun _ _ ⟨A,c,he,hn⟩=>⟨_,he,A,c,rfl,hn⟩
structure FS(W:World)(n0 fb N:Nat)(pv:Value):Prop where
 box:W.heap[fb]?=some (.cells #[pv] 65 (0,0))
 row:∃xs,W.ownsRow n0 116 4 pv N xs
 ge:n0<=fb
 ne:pv.ownBlock≠some fb
section
variable {W W':World} {n0 fb N N':Nat} {pv pv':Value}
theorem FS.lt(h:FS W n0 fb N pv):fb<W.heap.size/\∀b,pv.ownBlock=some b->n0<=b/\b<W.heap.size:=⟨zkp h.box,let ⟨_,hr⟩:=h.row;hr.lt⟩
theorem FS.chg{C:Nat->Prop}(h:FS W n0 fb N pv)(hc:Chg C W W')(hC:∀b,b=fb\/pv.ownBlock=some b->¬ C b):FS W' n0 fb N pv:=by
 refine⟨hc.keep h.box (hC _ (.inl rfl)),?_,h.ge,h.ne⟩;obtain⟨xs,e1,h2⟩:=h.row;refine⟨xs,e1,?_⟩;rcases h2 with h2|⟨g,cap,cur,rfl,hb,hg,h3⟩
 ·exact .inl h2
 ·exact .inr ⟨g,cap,cur,rfl,hb,hc.keep hg (hC _ (.inr rfl)),h3⟩
theorem FS.later(h:FS W n0 fb N pv)(hb:Below W.heap.size W W'):FS W' n0 fb N pv:=h.chg (C:=fun _=>False) (Chg.of_below hb) (fun _ _ h=>h)
theorem FS.put(h:FS W n0 fb N pv)(ho:∃xs,W'.ownsRow n0 116 4 pv' N' xs)(hg:W.grownBy W' pv.ownBlock)(aj:∀b,pv'.ownBlock=some b->pv.ownBlock=some b\/W.heap.size<=b) :
  FS (W'.setCell ⟨fb,0,none⟩ pv') n0 fb N' pv':=by
 have hp':W'.heap[fb]?=some (.cells #[pv] 65 (0,0)):=(hg.block _ (zkp h.box) (fun e=>h.ne e.symm)).trans h.box;have sH:pv'.ownBlock≠some fb:=fun e=>by
  rcases aj _ e with e|e
  ·exact h.ne e
  ·have:=zkp h.box;omega
 refine⟨by have:=heap_setCell_same W' fb 0 _ _ pv' hp';simpa using this,?_,h.ge,sH⟩;obtain⟨xs,e1,h2⟩:=ho;refine⟨xs,e1,?_⟩;rcases h2 with h2|⟨g,cap,cur,rfl,hb,hg',h3⟩
 ·exact .inl h2
 ·refine .inr ⟨g,cap,cur,rfl,hb,?_,h3⟩;rw[Below.heap_setCell _ _ _ _ (fun e=>sH (by subst e;rfl))];exact hg'
theorem FS.slice(h:FS W n0 fb N pv):∃A c,pv=.slice A N c:=by
 obtain⟨xs,e1,h2⟩:=h.row;rcases h2 with⟨rfl,rfl⟩|⟨g,cap,cur,rfl,_⟩
 ·exact⟨_,_,rfl⟩
 ·exact⟨_,_,rfl⟩
end
def RepP(W:World)(n0 fb:Nat)(pv:Value)(N':Nat)(e:Ending)(W':World):Prop :=
 (∃v,e=.returned v)/\∃pv',FS W' n0 fb N' pv'/\(∀b,pv'.ownBlock=some b->pv.ownBlock=some b\/W.heap.size<=b)/\Chg (fun b=>b=fb\/pv.ownBlock=some b) W W'
def one1(e:Int):Nat:=if e=0 then 0 else 1
theorem zyO:(prog.info? 116).map (fun i=>(i.zero,i.size,i.bytes))=some (some (.agg #[.int .i64 0,.slice none 0 0,.int .i64 0,.string ⟨#[]⟩]),4,56):=by kernel_rfl
theorem zzW(p:Int)(A:Option Addr)(l c:Nat)(e:Int)(s:ByteArray)(w:World):(Instr.build 116 #[(0,.int .i64 p),(1,.slice A l c),(2,.int .i64 e),(3,.string s)]).run prog w=.ok (.agg #[.int .i64 p,.slice A l c,.int .i64 e,.string s]) w:=by kernel_rfl
theorem zy2(a0 a1 a2 a3:Value)(w:World):(Instr.buildSlice 65 1 #[(0,.agg #[a0,a1,a2,a3])]).run prog w=.ok (.slice (some ⟨w.heap.size,0,none⟩) 1 1) (w.alloc (.cells #[a0,a1,a2,a3] 116)):=by kernel_rfl
theorem zmH(n0 fb N:Nat)(pv:Value)(pr er:Int)(q:List Int)(A:Option Addr)(c:Nat)(s:ByteArray)(S:Nat->Prop)(W:World)(hfs:FS W n0 fb N pv)(hq:RowI W S A q)(j3:q.length<=100000)(hN:N<=1000000) :
  Calls prog 69 #[.int .i64 pr,.slice A q.length c,.string s,.int .i64 er,.pointer (some ⟨fb,0,none⟩)] W (RepP W n0 fb pv (N+one1 er)):=by
 obtain⟨i0,hi0,hz0,hz1,hz2⟩:=info_parts zyO;obtain⟨Ap,cp,rfl⟩:=hfs.slice;have xD:=zh hfs;have HQ:=zh hq;have hc0:W.cell? ⟨fb,0,none⟩=some (.slice Ap N cp):=zc hfs.box rfl;have hbf:=zzW;have hbs:=zy2;have hge:=hfs.ge;have hlf:=hfs.lt.1;clear hfs hq;by_cases he:er=0
 ·subst he;clear hc0;go_enter func69,ntmps69;go_wp2_with fail;go_end0;exact⟨⟨_,rfl⟩,_,xD.out,fun b hb=>.inl hb,Chg.refl _ _⟩
 ·have e1:(er==0)=false:=by simpa using he
  have e2:(er != 0)=true:=by simpa using he
  have jC:=zh (show one1 er=1 by simp[one1,he]);rw[jC.out];clear he;go_enter func69,ntmps69;go_upto_region 1 with fail;have hSS:zU W.drew/\(fun w':World=>zv w' fb 0 (.slice Ap N cp)) W.drew:=⟨trivial,hc0⟩
  refine wp_region_noPanic ?_;refine zkk zU (fun w':World=>zv w' fb 0 (.slice Ap N cp)) 8 (by kernel_rfl) ?_;refine zJ 0 hSS ?_;refine zT 1 hSS ?_;refine zT 2 hSS ?_;refine zT 4 hSS ?_;refine zT 5 hSS ?_;refine zo 3 fun K hK=>?_;refine zsH (by rfl) (.func 70) (.tmp 13) _ (by rfl) 70 _ znd (by rfl) _ (by rfl) _ (znY (ztl q A c S _ (HQ.out.later zr.drew) (by unfold LI;omega))) ?_;rintro v2 w2 ⟨A2,c2,rfl,_,_,au⟩;have b2:=zkb (zs W).drew au;have iw:=xD.out.later b2;have g2:w2.cell? ⟨fb,0,none⟩=some (.slice Ap N cp):=zc iw.box rfl;have aM:zU w2/\(fun w':World=>zv w' fb 0 (.slice Ap N cp)) w2:=⟨trivial,g2⟩
  refine hK.out _ _ aM ?_;clear hK K hSS;(try simp only[zQ]);refine zT 6 aM ?_;refine zo 7 fun K hK=>?_;(try simp only[zA,zB,zC]);go_simp;refine hK.out _ _ ⟨trivial,zks g2 _⟩ ?_;clear hK K aM;(try simp only[zQ]);obtain⟨xs,hrow⟩:=iw.row;have hl2:=iw.lt;refine zp 8 fun K hK=>?_;refine zkP (by rfl) (.tmp 11) (.tmp 18) 65 (by rfl) n0 116 i0 _ 4 56 underlying65 hi0 hz0 hz1 hz2 rfl (by decide) (.slice Ap N cp) N xs (by rfl) (hrow.alloc _) ⟨w2.heap.size,0,none⟩ 1 1 [.int .i64 pr,.slice A2 q.length c2,.int .i64 er,.string s] (by rfl) rfl (zlD w2 _ _) (by intro u hu;simp at hu;rcases hu with rfl|rfl|rfl|rfl<;>rfl) (by unfold maxLen;omega) (by omega) (by simp;omega) ?_;intro v' w' h2 h3 h5
  have hput:=iw.put (W':=w') (pv':=v') (N':=N+1) ⟨_,h2⟩ ⟨h3.os,h3.tape,h3.output,Nat.le_trans (by simp) h3.size,fun b hb hne=>(h3.block b (by simp;omega) hne).trans (Below.heap_alloc w2 _ b hb)⟩ (fun b hb=>by rcases h5 with h5|h5;exact .inl (h5▸hb);exact .inr (by rw[h5]at hb;injection hb with hb;simp at hb;omega));have hob':∀b,v'.ownBlock=some b->(Value.slice Ap N cp).ownBlock=some b\/W.heap.size<=b:=fun b hb=>by
   have:=b2.size;rcases h5 with h5|h5
   ·exact .inl (h5▸hb)
   ·exact .inr (by rw[h5]at hb;injection hb with hb;simp at hb;omega)
  have hch:Chg (fun b=>b=fb\/(Value.slice Ap N cp).ownBlock=some b) W (w'.setCell ⟨fb,0,none⟩ v'):=(((Chg.of_below b2).alloc _).trans2 (Chg.row h3) (fun b _ h=>.inr h)).setCell (.inl (.inl rfl)) _;have hbx:=(h3.block _ (by have:=zkp iw.box;simp;omega) (fun e=>iw.ne e.symm)).trans (zkf iw.box _);have hy0:w'.cell? ⟨fb,0,none⟩=some (.slice Ap N cp):=zc hbx rfl;have hy1:w'.frozen? ⟨fb,0,none⟩=false:=zf hbx;obtain⟨g8,aH,rfl⟩:=ownsRow_succ h2;have HP:=zh hput;have HO:=zh hob';have bS:=zh hch;clear hput hob' hch hbx h2 h3 h5 hrow iw;refine hK.out _ _ trivial ?_;clear hK K;(try simp only[zQ]);refine zp 9 fun K hK=>?_;(try simp only[zA,zB,zC]);go_simp;refine hK.out _ _ trivial ?_;clear hK K;(try simp only[zQ]);refine zd ?_;refine NoPanic.normal ?_;go_wp2_with fail;go_end0;exact⟨⟨_,rfl⟩,_,HP.out,HO.out,bS.out⟩
structure RepC(f:FuncId)(cap:Array Value)(Rd:World->Prop)(n0 fb:Nat):Prop where
 fn:∃fn,IsFn prog f fn
 keep:∀W W' pv N,Rd W->FS W n0 fb N pv->Chg (fun b=>b=fb\/pv.ownBlock=some b) W W'->Rd W'
 call:∀(N:Nat) (pv:Value) (er:Int) (q:List Int) (A:Option Addr) (c:Nat) (s:ByteArray) (S:Nat->Prop) (W:World),Rd W->FS W n0 fb N pv->RowI W S A q->q.length<=100000->N<=1000000 ->
  Calls prog f (#[.slice A q.length c,.string s,.int .i64 er]++cap) W (RepP W n0 fb pv (N+one1 er))
theorem FS.other{W:World}{n0 fb N:Nat}{pv:Value}{b:Nat}{cs:Array Value}{E:TypeId}(h:FS W n0 fb N pv)(hb:W.heap[b]?=some (.cells cs E (0,0)))(h1:E≠65)(h2:E≠116):¬ (b=fb\/pv.ownBlock=some b):=by
 rintro(rfl|ho)
 ·have:=h.box;rw[hb]at this;injection this with this;injection this with _ e;exact h1 e
 ·obtain⟨xs,e1,h2'⟩:=h.row;rcases h2' with⟨rfl,_⟩|⟨g,cap,cur,rfl,_,hg,_⟩
  ·simp[Value.ownBlock]at ho
  ·simp[Value.ownBlock]at ho;subst ho;rw[hb]at hg;injection hg with hg;injection hg with _ e;exact h2 e
theorem zzR:IsFn prog 74 f74:=⟨func74,by kernel_rfl,by kernel_rfl⟩
theorem zzQ:IsFn prog 75 f75:=⟨func75,by kernel_rfl,by kernel_rfl⟩
theorem zsA(n0 fb rb ib:Nat)(k:Int):RepC 74 #[.pointer (some ⟨rb,0,none⟩),.pointer (some ⟨ib,0,none⟩)]
  (fun W=>W.heap[rb]?=some (.cells #[.func (.func 69) #[] #[.pointer (some ⟨fb,0,none⟩)]] 117 (0,0))/\W.heap[ib]?=some (.cells #[.int .i64 k] 3 (0,0))) n0 fb where
 fn:=⟨_,zzR⟩
 keep W W' pv N h hfs hc:=⟨hc.keep h.1 (hfs.other h.1 (by decide) (by decide)),hc.keep h.2 (hfs.other h.2 (by decide) (by decide))⟩
 call N pv er q A c s S W h hfs hq j3 hN:=by
  have x0:W.cell? ⟨rb,0,none⟩=some (.func (.func 69) #[] #[.pointer (some ⟨fb,0,none⟩)]):=zc h.1 rfl;have x1:W.cell? ⟨ib,0,none⟩=some (.int .i64 k):=zc h.2 rfl;have HC:=zh (zmH n0 fb N pv k er q A c s S W hfs hq j3 hN);clear h hfs hq
  show Calls prog 74 #[.slice A q.length c,.string s,.int .i64 er,.pointer (some ⟨rb,0,none⟩),.pointer (some ⟨ib,0,none⟩)] W _
  go_enter func74,ntmps74;go_wp2_with fail;refine HC.out.mono ?_;rintro e W' ⟨⟨v,rfl⟩,hp⟩;have HP:=zh hp;clear hp;go_wp2_with fail;go_end0;exact⟨⟨_,rfl⟩,HP.out⟩
theorem zxw(n0 fb rb pb:Nat)(A1:Option Addr)(l1 c1:Nat)(A2:Option Addr)(l2 c2:Nat)(k n:Int)(sn:ByteArray)(A3:Option Addr)(l3 c3:Nat):RepC 75 #[.pointer (some ⟨rb,0,none⟩),.pointer (some ⟨pb,0,none⟩)]
  (fun W=>W.heap[rb]?=some (.cells #[.func (.func 69) #[] #[.pointer (some ⟨fb,0,none⟩)]] 117 (0,0))/\W.heap[pb]?=some (.cells #[.slice A1 l1 c1,.slice A2 l2 c2,.int .u8 k,.int .i64 n,.string sn,.slice A3 l3 c3] 43 (0,0))) n0 fb where
 fn:=⟨_,zzQ⟩
 keep W W' pv N h hfs hc:=⟨hc.keep h.1 (hfs.other h.1 (by decide) (by decide)),hc.keep h.2 (hfs.other h.2 (by decide) (by decide))⟩
 call N pv er q A c s S W h hfs hq j3 hN:=by
  have x0:W.cell? ⟨rb,0,none⟩=some (.func (.func 69) #[] #[.pointer (some ⟨fb,0,none⟩)]):=zc h.1 rfl;have x1:W.cell? ⟨pb,1,none⟩=some (.slice A2 l2 c2):=zc h.2 rfl;have HC:=zh (zmH n0 fb N pv l2 er q A c s S W hfs hq j3 hN);clear h hfs hq
  show Calls prog 75 #[.slice A q.length c,.string s,.int .i64 er,.pointer (some ⟨rb,0,none⟩),.pointer (some ⟨pb,0,none⟩)] W _
  go_enter func75,ntmps75;go_wp2_with fail;refine HC.out.mono ?_;rintro e W' ⟨⟨v,rfl⟩,hp⟩;have HP:=zh hp;clear hp;go_wp2_with fail;go_end0;exact⟨⟨_,rfl⟩,HP.out⟩
def cntA(ps:List PR)(s:ByteArray)(l:Nat):Nat->List T->List VD->Nat
 | _,[],_=>0
 | i,t::ts,vs=>one1 (argE ps s l i t.s vs)+cntA ps s l (i+1) ts vs
mutual
/-- How many faults scope.visit reports. -/
def cntV(ps:List PR):T->List VD->Nat
 | .nd k _ s ks,vs=>one1 (zlt ps k s ks.length vs)+(if k=50\/k=51 then cntA ps s ks.length 0 ks vs else cntK ps k s 0 ks vs)
def cntK(ps:List PR)(k:Int)(s:ByteArray):Nat->List T->List VD->Nat
 | _,[],_=>0
 | i,t::ts,vs=>cntV ps t (zmw k s i vs)+cntK ps k s (i+1) ts vs
end
theorem zoE(ps:List PR)(s:ByteArray)(l:Nat)(vs:List VD):∀(a b:List T) (i:Nat),cntA ps s l i (a++b) vs=cntA ps s l i a vs+cntA ps s l (i+a.length) b vs
 | [],b,i=>by simp[cntA]
 | t::ts,b,i=>by simp[cntA,zoE ps s l vs ts b (i+1),Nat.add_assoc,Nat.add_comm 1 ts.length]
theorem zoD(ps:List PR)(k:Int)(s:ByteArray)(vs:List VD):∀(a b:List T) (i:Nat),cntK ps k s i (a++b) vs=cntK ps k s i a vs+cntK ps k s (i+a.length) b vs
 | [],b,i=>by simp[cntK]
 | t::ts,b,i=>by simp[cntK,zoD ps k s vs ts b (i+1),Nat.add_assoc,Nat.add_comm 1 ts.length]
theorem zqK(ps:List PR)(s:ByteArray)(l:Nat)(vs:List VD){ks:List T}{j:Nat}(h:j<ks.length):cntA ps s l 0 (ks.take (j+1)) vs=cntA ps s l 0 (ks.take j) vs+one1 (argE ps s l j ks[j].s vs):=by
 rw[List.take_succ_eq_append_getElem h,zoE];have:(ks.take j).length=j:=by simp;omega
 simp[cntA,this]
theorem zuW(ps:List PR)(k:Int)(s:ByteArray)(vs:List VD){ks:List T}{j:Nat}(h:j<ks.length):cntK ps k s 0 (ks.take (j+1)) vs=cntK ps k s 0 (ks.take j) vs+cntV ps ks[j] (zmw k s j vs):=by
 rw[List.take_succ_eq_append_getElem h,zoD];have:(ks.take j).length=j:=by simp;omega
 simp[cntK,this]
theorem zmW(e:Int):one1 e<=1:=by unfold one1;split<;>omega
theorem zrS(t:T):1<=size t:=by cases t;rw[size];omega
theorem zpX(ps:List PR)(s:ByteArray)(l:Nat)(vs:List VD):∀(ks:List T) (i:Nat),cntA ps s l i ks vs<=zle ks
 | [],i=>by simp[cntA]
 | t::ts,i=>by
  have h1:=zpX ps s l vs ts (i+1);have h2:=zmW (argE ps s l i t.s vs);have h3:=zrS t;simp only[cntA,zle];omega
theorem zrn(ps:List PR)(k:Int)(s:ByteArray):∀(ks:List T),(∀t∈ks,∀vs,cntV ps t vs<=size t)->∀(i:Nat) (vs:List VD),cntK ps k s i ks vs<=zle ks
 | [],_,i,vs=>by simp[cntK]
 | t::ts,h,i,vs=>by
  have h1:=zrn ps k s ts (fun u hu=>h u (by simp[hu])) (i+1) vs;have h2:=h t (by simp) (zmw k s i vs);simp only[cntK,zle];omega
theorem zuT(ps:List PR)(t:T):∀vs,cntV ps t vs<=size t:=by
 induction t using T.ind with
 | _ k n s ks ih =>
 intro vs;rw[cntV,size];have h1:=zmW (zlt ps k s ks.length vs);have h2:=zpX ps s ks.length vs ks 0;have h3:=zrn ps k s ks ih 0 vs
 split<;>omega
theorem zlH:∀(ks:List T) (j:Nat),zle (ks.take j)<=zle ks
 | [],j=>by simp[zle]
 | t::ts,0=>by simp[zle]
 | t::ts,j+1=>by have:=zlH ts j;simp only[List.take_succ_cons,zle];omega
theorem zsY(k:Int)(s:ByteArray)(i:Nat)(vs:List VD):(zmw k s i vs).length<=vs.length+1:=by unfold zmw;split;simp;split<;>simp
theorem PV.keep{w w':World}{S S':Nat->Prop}{p:PG}{v:Value}(h:PV w S p v)(hS:∀b,S b->b<w.heap.size->S' b)(hk:∀b,S b->b<w.heap.size->w'.heap[b]?=w.heap[b]?):PV w' S' p v :=
 let ⟨A1,c1,A2,c2,A3,c3,e,h⟩:=h;⟨A1,c1,A2,c2,A3,c3,e,h.keep hS hk⟩
structure VsI(Rd:World->Prop)(n0 fb:Nat)(Wb:World)(pv:Value)(N:Nat)(wr:World)(pv':Value):Prop where
 rd:Rd wr
 fs:FS wr n0 fb N pv'
 own:∀b,pv'.ownBlock=some b->pv.ownBlock=some b\/Wb.heap.size<=b
 chg:Chg (fun b=>b=fb\/pv.ownBlock=some b) Wb wr
theorem VsI.step{f:FuncId}{cap:Array Value}{Rd:World->Prop}{n0 fb:Nat}{Wb wr w5 W6:World}{pv pv':Value}{N N':Nat}{e:Ending}(hr:RepC f cap Rd n0 fb)(h:VsI Rd n0 fb Wb pv N wr pv')(hb:Below wr.heap.size wr w5)(hp:RepP w5 n0 fb pv' N' e W6) :
  ∃iZ,VsI Rd n0 fb Wb pv N' W6 iZ:=by
 obtain⟨_,iZ,hfs,aj,hc⟩:=hp;have sS:=h.fs.later hb;have hz:=h.chg.size;have oL:=hb.size;refine⟨iZ,hr.keep w5 W6 pv' N (hr.keep wr w5 pv' N h.rd h.fs (Chg.of_below hb)) sS hc,hfs,fun b hb'=>?_,(h.chg.trans (Chg.of_below hb)).trans2 hc fun b hlt hh=>?_⟩
 ·rcases aj b hb' with h1|h1
  ·exact h.own b h1
  ·exact .inr (by omega)
 ·rcases hh with hh|hh
  ·exact .inl hh
  ·rcases h.own b hh with h1|h1
   ·exact .inr h1
   ·omega
theorem VsI.rep{Rd:World->Prop}{n0 fb:Nat}{W Wb w:World}{pw pv':Value}{N':Nat}{e:Ending}(h:VsI Rd n0 fb Wb pw N' w pv')(hb:Below W.heap.size W Wb)(he:∃v,e=.returned v):RepP W n0 fb pw N' e w :=
 ⟨he,pv',h.fs,fun b hh=>(h.own b hh).imp id fun h1=>by have:=hb.size;omega,(Chg.of_below hb).trans h.chg⟩
def IsW(x:Value)(w:World)(v:Value)(w':World):Prop:=v=x/\Below w.heap.size w w'
theorem znO{P:Program}{f:FuncId}{args:Array Value}{w:World}{x:Value}(h:Calls P f args w fun e w'=>e=.returned x/\Below w.heap.size w w'):Calls P f args w fun e w'=>∃v,e=.returned v/\IsW x w v w' :=
 h.mono fun _ _ ⟨he,hb⟩=>⟨_,he,rfl,hb⟩
def RepV(W:World)(n0 fb:Nat)(pv:Value)(N':Nat)(_:Value)(W':World):Prop:=RepP W n0 fb pv N' (.returned undef) W'
theorem zms{P:Program}{f:FuncId}{args:Array Value}{W:World}{n0 fb N':Nat}{pv:Value}(h:Calls P f args W (RepP W n0 fb pv N')):Calls P f args W fun e w'=>∃v,e=.returned v/\RepV W n0 fb pv N' v w' :=
 h.mono fun _ _ ⟨⟨v,he⟩,hp⟩=>⟨v,he,⟨_,rfl⟩,hp⟩
def zKa(w:World)(S:Nat->Prop)(vs:List VD)(v:Value)(w':World):Prop:=∃A' c',v=.slice A' vs.length c'/\RowV w' (fun b=>S b\/w.heap.size<=b) A' vs/\vs.length<=c'/\Below w.heap.size w w'
theorem ztJ{P:Program}{f:FuncId}{args:Array Value}{w:World}{S:Nat->Prop}{vs:List VD}(h:Calls P f args w (zxi w S vs)):Calls P f args w fun e w'=>∃v,e=.returned v/\zKa w S vs v w' :=
 h.mono fun _ _ ⟨A,c,he,hn⟩=>⟨_,he,A,c,rfl,hn⟩
theorem zyJ:IsFn prog 113 f113:=⟨func113,by kernel_rfl,by kernel_rfl⟩
theorem zpd:IsFn prog 115 f115:=⟨func115,by kernel_rfl,by kernel_rfl⟩
theorem zrj:IsFn prog 114 f114:=⟨func114,by kernel_rfl,by kernel_rfl⟩
theorem zyH:IsFn prog 84 f84:=⟨func84,by kernel_rfl,by kernel_rfl⟩
theorem zyD:IsFn prog 73 f73:=⟨func73,by kernel_rfl,by kernel_rfl⟩
theorem znw(f:FuncId)(cap:Array Value)(Rd:World->Prop)(n0 fb:Nat)(hrep:RepC f cap Rd n0 fb)(p:PG)(t:T) :
  ∀(S:Nat->Prop) (vs:List VD) (A:Option Addr) (c:Nat) (q:List Int) (Aq:Option Addr) (cq N:Nat) (pw:Value) (W:World) (v1 v2:Value),Rd W->FS W n0 fb N pw->PV W S p v1->NV W S t v2->RowV W S A vs->vs.length<=c->RowI W S Aq q->q.length<=cq ->
   (∀b,S b->b<W.heap.size->¬ (b=fb\/pw.ownBlock=some b))->q.length+dep t<=50000->vs.length+dep t<=50000->N+size t<=1000000 ->
   Calls prog 73 #[v1,v2,.slice Aq q.length cq,.slice A vs.length c,.func (.func f) #[] cap] W (RepP W n0 fb pw (N+cntV p.prs t vs)):=by
 obtain⟨fn,hfn⟩:=hrep.fn;have aY:=zh hrep;clear hrep
 induction t using T.ind with
 | _ tk tn ts ks ih =>
 intro S vs A c q Aq cq N pw W v1 v2 hrd hfs hv1 hv2 hrow hlc hqr hqc hfar qP hdv hN;have xz:=zh ih;have hvv:=hv1;obtain⟨A1,c1,A2,c2,A3,c3,rfl,-⟩:=hv1;obtain⟨L1,hL1⟩:=zX (p.vs.length);obtain⟨L2,hL2⟩:=zX (p.prs.length);obtain⟨k,hk⟩:=zX (p.m.k);obtain⟨n,hn⟩:=zX (p.m.n);obtain⟨s,hs⟩:=zX (p.m.s);obtain⟨l3,hl3⟩:=zX (p.m.ks.length);rw[hL1,hL2,hk,hn,hs,hl3];rw[hL1,hL2,hk,hn,hs,hl3]at hvv;have wX:=zh hvv;clear ih hvv hL1 hL2 hk hn hs hl3;have jD:=zh hv2;obtain⟨B,tc,rfl,_,hlk,_,ik⟩:=hv2.open_;simp only[T.k_nd,T.n_nd,T.s_nd,T.ks_nd]at *
 have aA:=zkI hlk;rw[dep]at qP hdv;rw[size]at hN;have hksz:ks.length<=1000000:=by
  have:∀l:List T,l.length<=zle l:=fun l=>by
   induction l with
   | nil=>simp
   | cons t ts ih=>have:=zrS t;simp only[List.length_cons,zle];omega
  have:=this ks;omega
 have qd:=zh ik;have af:=zh hrow;have nE:=zh hlc;have HQR:=zh hqr;have Bz:=zh hqc;have oh:=zh hrd;have xD:=zh hfs;have HFAR:=zh hfar;have hlv:vs.length<=LV:=by unfold LV;omega
 have jV:=zh hlv;have hfl:=hfs.lt;have yO:=zh hfl;obtain⟨CC,AQ⟩:=zX (cntV p.prs (.nd tk tn ts ks) vs);rw[AQ];have bg:=zh AQ;obtain⟨E0,hE0⟩:=zX (zlt p.prs tk ts ks.length vs);have uM:=zh hE0;have hE1:=zmW E0;clear ik hrow hlc hqr hqc hrd hfs hfar hlk hlv hv2 hfl AQ hE0;go_enter func73,ntmps73;go_upto_region 1 with fail;have hbw:Below W.heap.size W ((W.alloc (.cells #[.slice A1 L1 c1,.slice A2 L2 c2,.int .u8 k,.int .i64 n,.string s,.slice A3 l3 c3] 43)).alloc (.cells #[.int .u8 tk,.int .i64 tn,.string ts,.slice B ks.length tc] 41)):=zka (zka zr _) _;have qR:=zkf (heap_alloc_new W (.cells #[.slice A1 L1 c1,.slice A2 L2 c2,.int .u8 k,.int .i64 n,.string s,.slice A3 l3 c3] 43)) (.cells #[.int .u8 tk,.int .i64 tn,.string ts,.slice B ks.length tc] 41)
 have hbN:=heap_alloc_new (W.alloc (.cells #[.slice A1 L1 c1,.slice A2 L2 c2,.int .u8 k,.int .i64 n,.string s,.slice A3 l3 c3] 43)) (.cells #[.int .u8 tk,.int .i64 tn,.string ts,.slice B ks.length tc] 41);simp only[World.size_alloc]at hbN;obtain⟨Wb,tK⟩:=zX ((W.alloc (.cells #[.slice A1 L1 c1,.slice A2 L2 c2,.int .u8 k,.int .i64 n,.string s,.slice A3 l3 c3] 43)).alloc (.cells #[.int .u8 tk,.int .i64 tn,.string ts,.slice B ks.length tc] 41));rw[tK]at hbw qR hbN ⊢;have iB:=zh (show Wb.heap.size=W.heap.size+2 by rw[<-tK];simp);have fM:=zh hbw;have HBP:=zh qR;have iN:=zh hbN
 have kL:=zh (show ∀w':World,w'.heap[W.heap.size]?=Wb.heap[W.heap.size]?->w'.heap[W.heap.size+1]?=Wb.heap[W.heap.size+1]?->(fun w':World=>(zN6 w' W.heap.size (.slice A1 L1 c1) (.slice A2 L2 c2) (.int .u8 k) (.int .i64 n) (.string s) (.slice A3 l3 c3))/\zN4 w' (W.heap.size+1) (.int .u8 tk) (.int .i64 tn) (.string ts) (.slice B ks.length tc)) w' from fun w' h1 h2=>⟨box6 (h1.trans qR),box4 (h2.trans hbN)⟩)
 have lS:=zh (show ∀w':World,Chg (fun b=>b=fb\/pw.ownBlock=some b) Wb w'->(fun w':World=>(zN6 w' W.heap.size (.slice A1 L1 c1) (.slice A2 L2 c2) (.int .u8 k) (.int .i64 n) (.string s) (.slice A3 l3 c3))/\zN4 w' (W.heap.size+1) (.int .u8 tk) (.int .i64 tn) (.string ts) (.slice B ks.length tc)) w' from fun w' h=>kL.out w' (h.block _ (by have:=iB.out;omega) (fun hh=>by rcases hh with hh|hh;(have:=yO.out.1;omega);(have:=(yO.out.2 _ hh).2;omega))) (h.block _ (by have:=iB.out;omega) (fun hh=>by rcases hh with hh|hh;(have:=yO.out.1;omega);(have:=(yO.out.2 _ hh).2;omega))));have oG:=zh (show ∀w':World,Chg (fun b=>b=fb\/pw.ownBlock=some b) Wb w'->∀b,S b->b<W.heap.size->w'.heap[b]?=W.heap[b]? from fun w' h b hb hlt=>(h.block b (by have:=iB.out;omega) (HFAR.out b hb hlt)).trans (fM.out.block b hlt))
 have hi0:VsI Rd n0 fb Wb pw N Wb pw:=⟨aY.out.keep W Wb pw N oh.out xD.out (Chg.of_below hbw),xD.out.later hbw,fun b hb=>.inl hb,Chg.refl _ _⟩
 have HI0:=zh hi0;clear tK hbw qR hbN hi0;have hdr:=(zs Wb).drew;have hSS:zW (fun w':World=>(zN6 w' W.heap.size (.slice A1 L1 c1) (.slice A2 L2 c2) (.int .u8 k) (.int .i64 n) (.string s) (.slice A3 l3 c3))/\zN4 w' (W.heap.size+1) (.int .u8 tk) (.int .i64 tn) (.string ts) (.slice B ks.length tc)) zU Wb.drew:=⟨lS.out _ (Chg.of_below hdr),trivial⟩
 refine wp_region_noPanic ?_;refine zG hSS 20 ?_;refine zT 0 hSS ?_;refine zT 1 hSS ?_;refine zT 2 hSS ?_;refine zT 3 hSS ?_;refine zT 4 hSS ?_;refine zT 5 hSS ?_;refine zT 6 hSS ?_;refine zo 7 fun K hK=>?_;refine zke (by rfl) (.func 113) [.tmp 18,.tmp 19,.tmp 20] _ (by rfl) 113 _ zyJ (by rfl) _ (by rfl) _ (znO (zuH p (.nd tk tn ts ks) vs A c S S S _ _ _ (wX.out.later (zkb fM.out hdr)) (jD.out.later (zkb fM.out hdr)) (af.out.later (zkb fM.out hdr)) jV.out)) ?_;rintro vq w2 ⟨rfl,au⟩;simp only[T.k_nd,T.s_nd,T.ks_nd];rw[uM.out];have b2:=zkb hdr au;have aM:=zV hSS (lS.out _ (Chg.of_below b2)) trivial;refine hK.out _ _ aM ?_;clear hK K hSS;(try simp only[zQ]);refine zo 8 fun K hK=>?_
 refine zk5 (by rfl) (.tmp 14) [.tmp 15,.tmp 17,.tmp 21] _ (by rfl) f fn hfn cap (by rfl) _ (by rfl) _ (zms (aY.out.call N pw E0 q Aq cq ts S w2 (aY.out.keep Wb w2 pw N HI0.out.rd HI0.out.fs (Chg.of_below b2)) (HI0.out.fs.later b2) ((HQR.out.later fM.out).later b2) (by omega) (by omega))) ?_;rintro vq W3 hp3;obtain⟨pv3,hi3⟩:=HI0.out.step aY.out b2 hp3;have bO:=zV aM (lS.out _ hi3.chg) trivial;refine hK.out _ _ bO ?_;clear hK K aM;(try simp only[zQ]);refine zd ?_;refine NoPanic.normal ?_;obtain⟨⟨a0,a1,a2,a3,a4,a5⟩,b0,b1,b2',b3⟩:=bO.1;have HI3:=zh hi3;clear bO hi3 hp3 b2 au hdr HI0
 have HD:=zh (show ∀w':World,Chg (fun b=>b=fb\/pw.ownBlock=some b) Wb w'->PV w' (fun b=>S b/\b<W.heap.size) p _/\NV w' (fun b=>S b/\b<W.heap.size) (.nd tk tn ts ks) _/\RowV w' (fun b=>S b/\b<W.heap.size) A vs/\RowI w' (fun b=>S b/\b<W.heap.size) Aq q/\zmD w' (fun b=>S b/\b<W.heap.size) B ks from fun w' h=>⟨wX.out.keep (fun b hb hlt=>⟨hb,hlt⟩) (oG.out w' h),jD.out.keep (fun b hb hlt=>⟨hb,hlt⟩) (oG.out w' h),af.out.keep (fun b hb hlt=>⟨hb,hlt⟩) (oG.out w' h),HQR.out.keep (fun b hb hlt=>⟨hb,hlt⟩) (oG.out w' h),qd.out.keep (fun b hb hlt=>⟨hb,hlt⟩) (oG.out w' h)⟩);by_cases hcall:tk=50\/tk=51
 ·rcases hcall with rfl|rfl
  ·go_wp2_with fail
   go_loopw [34] (fun i wr=>∃(j:Nat) (pv':Value),j<=ks.length/\i=.int .i64 j/\VsI Rd n0 fb Wb pw (N+one1 E0+cntA p.prs ts ks.length 0 (ks.take j) vs) wr pv') (fun i _=>ks.length-(intOf i).toNat)
   case atStart=>exact⟨0,_,Nat.zero_le _,rfl,by simpa[cntA]using HI3.out⟩
   case round =>
    obtain⟨j,pv',hj,rfl,hinv⟩:=hrel;have ag:=zh hinv;clear HI3;by_cases hlt:j<ks.length
    ·obtain⟨-,-,-,-,ik⟩:=HD.out wr hinv.chg;obtain⟨a,u,A4,c4,rfl,hsa,Hu,⟨q0,q1,q2,q3⟩,hnu⟩:=ik.nd hlt;have xm:=zh hnu;clear hinv ik hnu hsa;go_upto_region 6 with fail;have hbk:Below wr.heap.size wr (wr.alloc (.cells #[.int .u8 u.k,.int .i64 u.n,.string u.s,.slice A4 u.ks.length c4] 41)):=zka zr _;have ek:=heap_alloc_new wr (.cells #[.int .u8 u.k,.int .i64 u.n,.string u.s,.slice A4 u.ks.length c4] 41);obtain⟨wk,hwk⟩:=zX (wr.alloc (.cells #[.int .u8 u.k,.int .i64 u.n,.string u.s,.slice A4 u.ks.length c4] 41));rw[hwk]at hbk ek ⊢;have eX:=zh (show wk.heap.size=wr.heap.size+1 by rw[<-hwk];simp);have aC:=zh hbk;have gZ:=zh ek;clear hwk hbk ek
     have dJ:=zh (show ∀w':World,Below wk.heap.size wk w'->(fun w':World=>(zN6 w' W.heap.size (.slice A1 L1 c1) (.slice A2 L2 c2) (.int .u8 k) (.int .i64 n) (.string s) (.slice A3 l3 c3)/\zN4 w' (W.heap.size+1) (.int .u8 50) (.int .i64 tn) (.string ts) (.slice (some a) ks.length tc))/\zN4 w' wr.heap.size (.int .u8 u.k) (.int .i64 u.n) (.string u.s) (.slice A4 u.ks.length c4)) w'/\zU w' from fun w' h=>⟨⟨lS.out w' (ag.out.chg.trans (Chg.of_below (zkb aC.out h))),box4 ((h.block _ (by have:=eX.out;omega)).trans gZ.out)⟩,trivial⟩);have hdr:=(zs wk).drew;have hSS:=dJ.out _ hdr;refine wp_region_noPanic ?_
     refine zkk (fun w':World=>(zN6 w' W.heap.size (.slice A1 L1 c1) (.slice A2 L2 c2) (.int .u8 k) (.int .i64 n) (.string s) (.slice A3 l3 c3)/\zN4 w' (W.heap.size+1) (.int .u8 50) (.int .i64 tn) (.string ts) (.slice (some a) ks.length tc))/\zN4 w' wr.heap.size (.int .u8 u.k) (.int .i64 u.n) (.string u.s) (.slice A4 u.ks.length c4)) zU 40 (by kernel_rfl) ?_;refine zT 0 hSS ?_;refine zT 1 hSS ?_;refine zT 2 hSS ?_;refine zT 4 hSS ?_;refine zT 5 hSS ?_;refine zT 6 hSS ?_;refine zT 7 hSS ?_;refine zT 8 hSS ?_;refine zT 9 hSS ?_;refine zo 3 fun K hK=>?_;refine zke (by rfl) (.func 114) [.tmp 40,.tmp 41] _ (by rfl) 114 _ zrj (by rfl) _ (by rfl) _ (znY (zoG q Aq cq (j:Int) ⟨by omega,by omega⟩ _ _ (HD.out _ (ag.out.chg.trans (Chg.of_below (zkb aC.out hdr)))).2.2.2.1 Bz.out (by omega))) ?_;rintro vq w2 ⟨Ac,cc,rfl,hrc,hcc,au⟩;have b2:=zkb hdr au
     have aM:=dJ.out _ b2;refine hK.out _ _ aM ?_;clear hK K hSS;(try simp only[zQ]);refine zo 10 fun K hK=>?_;refine zke (by rfl) (.func 115) [.tmp 45,.tmp 46,.tmp 47,.tmp 48] _ (by rfl) 115 _ zpd (by rfl) _ (by rfl) _ (znO (znS p (.nd 50 tn ts ks) j hlt vs A c _ _ _ _ _ _ (HD.out _ (ag.out.chg.trans (Chg.of_below (zkb aC.out b2)))).1 (HD.out _ (ag.out.chg.trans (Chg.of_below (zkb aC.out b2)))).2.1 (HD.out _ (ag.out.chg.trans (Chg.of_below (zkb aC.out b2)))).2.2.1 jV.out)) ?_;rintro vq w3 ⟨rfl,bW⟩;simp only[T.k_nd,T.s_nd,T.ks_nd];have b3:=zkb b2 bW;have bO:=dJ.out _ b3;refine hK.out _ _ bO ?_;clear hK K aM;(try simp only[zQ]);refine zo 11 fun K hK=>?_;have hcl:cntA p.prs ts ks.length 0 (ks.take j) vs<=zle ks:=Nat.le_trans (zpX _ _ _ _ _ _) (zlH _ _);have hF:=ag.out.fs.later (zkb aC.out b3)
     have hR:=aY.out.keep _ _ _ _ ag.out.rd ag.out.fs (Chg.of_below (zkb aC.out b3));refine zk5 (by rfl) (.tmp 39) [.tmp 42,.tmp 44,.tmp 49] _ (by rfl) f fn hfn cap (by rfl) _ (by rfl) _ (zms (aY.out.call _ pv' _ (q++[(j:Int)]) Ac cc u.s _ w3 hR hF (hrc.later bW) (by simp;omega) (by omega))) ?_;rintro vq W6 hp;obtain⟨iQ,bJ⟩:=ag.out.step aY.out (zkb aC.out b3) hp;have bu:VsI Rd n0 fb Wb pw (N+one1 E0+cntA p.prs ts ks.length 0 (ks.take (j+1)) vs) W6 iQ:=by rw[zqK p.prs ts ks.length vs hlt];simpa[Nat.add_assoc]using bJ
     have av:zW (fun w':World=>(zN6 w' W.heap.size (.slice A1 L1 c1) (.slice A2 L2 c2) (.int .u8 k) (.int .i64 n) (.string s) (.slice A3 l3 c3)/\zN4 w' (W.heap.size+1) (.int .u8 50) (.int .i64 tn) (.string ts) (.slice (some a) ks.length tc))/\zN4 w' wr.heap.size (.int .u8 u.k) (.int .i64 u.n) (.string u.s) (.slice A4 u.ks.length c4)) zU W6:=⟨⟨lS.out _ bu.chg,box4 ((hp.2.elim fun _ h=>h.2.2.block _ (by have:=(zkb aC.out b3).size;have:=b3.size;have:=eX.out;omega) (fun hh=>by have hl:=ag.out.fs.lt;rcases hh with hh|hh;(have:=hl.1;omega);(have:=(hl.2 _ hh).2;omega))).trans ((b3.block _ (by have:=eX.out;omega)).trans gZ.out))⟩,trivial⟩
     refine hK.out _ _ av ?_;clear hK K bO;(try simp only[zQ]);refine zd ?_;refine NoPanic.normal ?_;have iW:=zh bu;clear bu bJ hp av hF hR;go_wp2_with fail
     go_roundw
     case rel=>exact⟨j+1,_,by omega,by go_num,iW.out⟩
     case measure=>simp[intOf];omega
    ·obtain rfl:j=ks.length:=by omega
     clear hinv;go_wp2_with fail;(try simp only[Exit.inBlock,Exit.then]);refine bodyPost_ret (results_none rfl _ _ _) rfl ?_;have hinv:=ag.out;rw[List.take_of_length_le zl]at hinv;have hcc:=bg.out;rw[cntV,uM.out,if_pos (by decide)]at hcc;rw[<-hcc,<-Nat.add_assoc];exact hinv.rep fM.out ⟨_,rfl⟩
  ·go_wp2_with fail
   go_loopw [34] (fun i wr=>∃(j:Nat) (pv':Value),j<=ks.length/\i=.int .i64 j/\VsI Rd n0 fb Wb pw (N+one1 E0+cntA p.prs ts ks.length 0 (ks.take j) vs) wr pv') (fun i _=>ks.length-(intOf i).toNat)
   case atStart=>exact⟨0,_,Nat.zero_le _,rfl,by simpa[cntA]using HI3.out⟩
   case round =>
    obtain⟨j,pv',hj,rfl,hinv⟩:=hrel;have ag:=zh hinv;clear HI3;by_cases hlt:j<ks.length
    ·obtain⟨-,-,-,-,ik⟩:=HD.out wr hinv.chg;obtain⟨a,u,A4,c4,rfl,hsa,Hu,⟨q0,q1,q2,q3⟩,hnu⟩:=ik.nd hlt;have xm:=zh hnu;clear hinv ik hnu hsa;go_upto_region 6 with fail;have hbk:Below wr.heap.size wr (wr.alloc (.cells #[.int .u8 u.k,.int .i64 u.n,.string u.s,.slice A4 u.ks.length c4] 41)):=zka zr _;have ek:=heap_alloc_new wr (.cells #[.int .u8 u.k,.int .i64 u.n,.string u.s,.slice A4 u.ks.length c4] 41);obtain⟨wk,hwk⟩:=zX (wr.alloc (.cells #[.int .u8 u.k,.int .i64 u.n,.string u.s,.slice A4 u.ks.length c4] 41));rw[hwk]at hbk ek ⊢;have eX:=zh (show wk.heap.size=wr.heap.size+1 by rw[<-hwk];simp);have aC:=zh hbk;have gZ:=zh ek;clear hwk hbk ek
     have dJ:=zh (show ∀w':World,Below wk.heap.size wk w'->(fun w':World=>(zN6 w' W.heap.size (.slice A1 L1 c1) (.slice A2 L2 c2) (.int .u8 k) (.int .i64 n) (.string s) (.slice A3 l3 c3)/\zN4 w' (W.heap.size+1) (.int .u8 51) (.int .i64 tn) (.string ts) (.slice (some a) ks.length tc))/\zN4 w' wr.heap.size (.int .u8 u.k) (.int .i64 u.n) (.string u.s) (.slice A4 u.ks.length c4)) w'/\zU w' from fun w' h=>⟨⟨lS.out w' (ag.out.chg.trans (Chg.of_below (zkb aC.out h))),box4 ((h.block _ (by have:=eX.out;omega)).trans gZ.out)⟩,trivial⟩);have hdr:=(zs wk).drew;have hSS:=dJ.out _ hdr;refine wp_region_noPanic ?_
     refine zkk (fun w':World=>(zN6 w' W.heap.size (.slice A1 L1 c1) (.slice A2 L2 c2) (.int .u8 k) (.int .i64 n) (.string s) (.slice A3 l3 c3)/\zN4 w' (W.heap.size+1) (.int .u8 51) (.int .i64 tn) (.string ts) (.slice (some a) ks.length tc))/\zN4 w' wr.heap.size (.int .u8 u.k) (.int .i64 u.n) (.string u.s) (.slice A4 u.ks.length c4)) zU 40 (by kernel_rfl) ?_;refine zT 0 hSS ?_;refine zT 1 hSS ?_;refine zT 2 hSS ?_;refine zT 4 hSS ?_;refine zT 5 hSS ?_;refine zT 6 hSS ?_;refine zT 7 hSS ?_;refine zT 8 hSS ?_;refine zT 9 hSS ?_;refine zo 3 fun K hK=>?_;refine zke (by rfl) (.func 114) [.tmp 40,.tmp 41] _ (by rfl) 114 _ zrj (by rfl) _ (by rfl) _ (znY (zoG q Aq cq (j:Int) ⟨by omega,by omega⟩ _ _ (HD.out _ (ag.out.chg.trans (Chg.of_below (zkb aC.out hdr)))).2.2.2.1 Bz.out (by omega))) ?_;rintro vq w2 ⟨Ac,cc,rfl,hrc,hcc,au⟩;have b2:=zkb hdr au
     have aM:=dJ.out _ b2;refine hK.out _ _ aM ?_;clear hK K hSS;(try simp only[zQ]);refine zo 10 fun K hK=>?_;refine zke (by rfl) (.func 115) [.tmp 45,.tmp 46,.tmp 47,.tmp 48] _ (by rfl) 115 _ zpd (by rfl) _ (by rfl) _ (znO (znS p (.nd 51 tn ts ks) j hlt vs A c _ _ _ _ _ _ (HD.out _ (ag.out.chg.trans (Chg.of_below (zkb aC.out b2)))).1 (HD.out _ (ag.out.chg.trans (Chg.of_below (zkb aC.out b2)))).2.1 (HD.out _ (ag.out.chg.trans (Chg.of_below (zkb aC.out b2)))).2.2.1 jV.out)) ?_;rintro vq w3 ⟨rfl,bW⟩;simp only[T.k_nd,T.s_nd,T.ks_nd];have b3:=zkb b2 bW;have bO:=dJ.out _ b3;refine hK.out _ _ bO ?_;clear hK K aM;(try simp only[zQ]);refine zo 11 fun K hK=>?_;have hcl:cntA p.prs ts ks.length 0 (ks.take j) vs<=zle ks:=Nat.le_trans (zpX _ _ _ _ _ _) (zlH _ _);have hF:=ag.out.fs.later (zkb aC.out b3)
     have hR:=aY.out.keep _ _ _ _ ag.out.rd ag.out.fs (Chg.of_below (zkb aC.out b3));refine zk5 (by rfl) (.tmp 39) [.tmp 42,.tmp 44,.tmp 49] _ (by rfl) f fn hfn cap (by rfl) _ (by rfl) _ (zms (aY.out.call _ pv' _ (q++[(j:Int)]) Ac cc u.s _ w3 hR hF (hrc.later bW) (by simp;omega) (by omega))) ?_;rintro vq W6 hp;obtain⟨iQ,bJ⟩:=ag.out.step aY.out (zkb aC.out b3) hp;have bu:VsI Rd n0 fb Wb pw (N+one1 E0+cntA p.prs ts ks.length 0 (ks.take (j+1)) vs) W6 iQ:=by rw[zqK p.prs ts ks.length vs hlt];simpa[Nat.add_assoc]using bJ
     have av:zW (fun w':World=>(zN6 w' W.heap.size (.slice A1 L1 c1) (.slice A2 L2 c2) (.int .u8 k) (.int .i64 n) (.string s) (.slice A3 l3 c3)/\zN4 w' (W.heap.size+1) (.int .u8 51) (.int .i64 tn) (.string ts) (.slice (some a) ks.length tc))/\zN4 w' wr.heap.size (.int .u8 u.k) (.int .i64 u.n) (.string u.s) (.slice A4 u.ks.length c4)) zU W6:=⟨⟨lS.out _ bu.chg,box4 ((hp.2.elim fun _ h=>h.2.2.block _ (by have:=(zkb aC.out b3).size;have:=b3.size;have:=eX.out;omega) (fun hh=>by have hl:=ag.out.fs.lt;rcases hh with hh|hh;(have:=hl.1;omega);(have:=(hl.2 _ hh).2;omega))).trans ((b3.block _ (by have:=eX.out;omega)).trans gZ.out))⟩,trivial⟩
     refine hK.out _ _ av ?_;clear hK K bO;(try simp only[zQ]);refine zd ?_;refine NoPanic.normal ?_;have iW:=zh bu;clear bu bJ hp av hF hR;go_wp2_with fail
     go_roundw
     case rel=>exact⟨j+1,_,by omega,by go_num,iW.out⟩
     case measure=>simp[intOf];omega
    ·obtain rfl:j=ks.length:=by omega
     clear hinv;go_wp2_with fail;(try simp only[Exit.inBlock,Exit.then]);refine bodyPost_ret (results_none rfl _ _ _) rfl ?_;have hinv:=ag.out;rw[List.take_of_length_le zl]at hinv;have hcc:=bg.out;rw[cntV,uM.out,if_pos (by decide)]at hcc;rw[<-hcc,<-Nat.add_assoc];exact hinv.rep fM.out ⟨_,rfl⟩
 ·obtain⟨h50,lI⟩:=not_or.1 hcall;have hd50:(tk==50)=false:=beq_false_of_ne h50;have hd51:(tk==51)=false:=beq_false_of_ne lI;go_wp2_with fail
  go_loopw [55] (fun i wr=>∃(j:Nat) (pv':Value),j<=ks.length/\i=.int .i64 j/\VsI Rd n0 fb Wb pw (N+one1 E0+cntK p.prs tk ts 0 (ks.take j) vs) wr pv') (fun i _=>ks.length-(intOf i).toNat)
  case atStart=>exact⟨0,_,Nat.zero_le _,rfl,by simpa[cntK]using HI3.out⟩
  case round =>
   obtain⟨j,pv',hj,rfl,hinv⟩:=hrel;have ag:=zh hinv;clear HI3;by_cases hlt:j<ks.length
   ·obtain⟨-,-,-,-,ik⟩:=HD.out wr hinv.chg;obtain⟨a,u,A4,c4,rfl,hsa,Hu,⟨q0,q1,q2,q3⟩,hnu⟩:=ik.nd hlt;have xm:=zh hnu;clear hinv ik hnu hsa;go_upto_region 11 with fail;have hbk:Below wr.heap.size wr (wr.alloc (.cells #[.int .u8 u.k,.int .i64 u.n,.string u.s,.slice A4 u.ks.length c4] 41)):=zka zr _;have ek:=heap_alloc_new wr (.cells #[.int .u8 u.k,.int .i64 u.n,.string u.s,.slice A4 u.ks.length c4] 41);obtain⟨wk,hwk⟩:=zX (wr.alloc (.cells #[.int .u8 u.k,.int .i64 u.n,.string u.s,.slice A4 u.ks.length c4] 41));rw[hwk]at hbk ek ⊢;have eX:=zh (show wk.heap.size=wr.heap.size+1 by rw[<-hwk];simp);have aC:=zh hbk;have gZ:=zh ek;clear hwk hbk ek
    have dJ:=zh (show ∀w':World,Below wk.heap.size wk w'->(fun w':World=>(zN6 w' W.heap.size (.slice A1 L1 c1) (.slice A2 L2 c2) (.int .u8 k) (.int .i64 n) (.string s) (.slice A3 l3 c3)/\zN4 w' (W.heap.size+1) (.int .u8 tk) (.int .i64 tn) (.string ts) (.slice (some a) ks.length tc))/\zN4 w' wr.heap.size (.int .u8 u.k) (.int .i64 u.n) (.string u.s) (.slice A4 u.ks.length c4)) w'/\zU w' from fun w' h=>⟨⟨lS.out w' (ag.out.chg.trans (Chg.of_below (zkb aC.out h))),box4 ((h.block _ (by have:=eX.out;omega)).trans gZ.out)⟩,trivial⟩);have hdr:=(zs wk).drew;have hSS:=dJ.out _ hdr;refine wp_region_noPanic ?_
    refine zkk (fun w':World=>(zN6 w' W.heap.size (.slice A1 L1 c1) (.slice A2 L2 c2) (.int .u8 k) (.int .i64 n) (.string s) (.slice A3 l3 c3)/\zN4 w' (W.heap.size+1) (.int .u8 tk) (.int .i64 tn) (.string ts) (.slice (some a) ks.length tc))/\zN4 w' wr.heap.size (.int .u8 u.k) (.int .i64 u.n) (.string u.s) (.slice A4 u.ks.length c4)) zU 40 (by kernel_rfl) ?_;refine zT 0 hSS ?_;refine zT 1 hSS ?_;refine zT 2 hSS ?_;refine zT 3 hSS ?_;refine zT 5 hSS ?_;refine zT 6 hSS ?_;refine zT 7 hSS ?_;refine zT 9 hSS ?_;refine zo 4 fun K hK=>?_;refine zke (by rfl) (.func 114) [.tmp 62,.tmp 63] _ (by rfl) 114 _ zrj (by rfl) _ (by rfl) _ (znY (zoG q Aq cq (j:Int) ⟨by omega,by omega⟩ _ _ (HD.out _ (ag.out.chg.trans (Chg.of_below (zkb aC.out hdr)))).2.2.2.1 Bz.out (by omega))) ?_;rintro vq w2 ⟨Ac,cc,rfl,hrc,hcc,au⟩;have b2:=zkb hdr au;have aM:=dJ.out _ b2
    refine hK.out _ _ aM ?_;clear hK K hSS;(try simp only[zQ]);refine zo 8 fun K hK=>?_;refine zke (by rfl) (.func 84) [.tmp 65,.tmp 66,.tmp 67] _ (by rfl) 84 _ zyH (by rfl) _ (by rfl) _ (ztJ (zur (.nd tk tn ts ks) j (by omega) vs A c _ _ _ _ (HD.out _ (ag.out.chg.trans (Chg.of_below (zkb aC.out b2)))).2.1 (HD.out _ (ag.out.chg.trans (Chg.of_below (zkb aC.out b2)))).2.2.1 nE.out (by omega))) ?_;simp only[T.k_nd,T.s_nd,T.ks_nd];rintro vq w3 ⟨Av,cv,rfl,fQ,hcv,bW⟩;have b3:=zkb b2 bW;have bO:=dJ.out _ b3;refine hK.out _ _ bO ?_;clear hK K aM;(try simp only[zQ]);refine zo 10 fun K hK=>?_;have hcl:cntK p.prs tk ts 0 (ks.take j) vs<=zle (ks.take j):=zrn _ _ _ _ (fun t _ vs=>zuT _ t vs) _ _;have hsz:=zlH ks (j+1);rw[zsL ks j hlt,Hu.out]at hsz;have hmem:u∈ks:=by rw[<-Hu.out];exact List.getElem_mem hlt
    have hdu:=zxS hmem;have hil:=zsY tk ts j vs;have hzb:=ag.out.chg.size;have hz0:=iB.out;have hzk:=eX.out;have hfl:=ag.out.fs.lt;have hF:=ag.out.fs.later (zkb aC.out b3);have hR:=aY.out.keep _ _ _ _ ag.out.rd ag.out.fs (Chg.of_below (zkb aC.out b3));have hzz:=hdr.size;have xO:=au.size;have hzw2:=b2.size
    refine zke (by rfl) (.func 73) [.tmp 60,.tmp 61,.tmp 64,.tmp 68,.tmp 69] _ (by rfl) 73 _ zyD (by rfl) _ (by rfl) _ (zms (xz.out u hmem (fun b=>(S b/\b<W.heap.size)\/wk.heap.size<=b) (zmw tk ts j vs) Av cv (q++[(j:Int)]) Ac cc (N+one1 E0+cntK p.prs tk ts 0 (ks.take j) vs) pv' w3 _ _ hR hF ((HD.out _ (ag.out.chg.trans (Chg.of_below (zkb aC.out b3)))).1.keep (fun b hb _=>.inl hb) (fun _ _ _=>rfl)) ((xm.out.later (zkb aC.out b3)).keep (fun b hb _=>.inl hb) (fun _ _ _=>rfl)) (fQ.mono fun b hb=>by rcases hb with hb|hb;exact .inl hb;exact .inr (by omega)) hcv ((hrc.later bW).mono fun b hb=>.inr (by have:_<=b:=hb;omega)) hcc (fun b hb hlt' hh=>?_) (by simp;omega) (by omega) (by omega))) ?_
    ·rcases hb with⟨hb,hbl⟩|hb
     ·refine HFAR.out b hb hbl (hh.imp id fun h=>?_);rcases ag.out.own b h with h1|h1
      ·exact h1
      ·omega
     ·rcases hh with rfl|hh
      ·omega
      ·have:=hfl.2 b hh;omega
    rintro vq W6 hp;obtain⟨iQ,bJ⟩:=ag.out.step aY.out (zkb aC.out b3) hp;have bu:VsI Rd n0 fb Wb pw (N+one1 E0+cntK p.prs tk ts 0 (ks.take (j+1)) vs) W6 iQ:=by rw[zuW p.prs tk ts vs hlt,Hu.out];simpa[Nat.add_assoc]using bJ
    have av:zW (fun w':World=>(zN6 w' W.heap.size (.slice A1 L1 c1) (.slice A2 L2 c2) (.int .u8 k) (.int .i64 n) (.string s) (.slice A3 l3 c3)/\zN4 w' (W.heap.size+1) (.int .u8 tk) (.int .i64 tn) (.string ts) (.slice (some a) ks.length tc))/\zN4 w' wr.heap.size (.int .u8 u.k) (.int .i64 u.n) (.string u.s) (.slice A4 u.ks.length c4)) zU W6:=⟨⟨lS.out _ bu.chg,box4 ((hp.2.elim fun _ h=>h.2.2.block _ (by have:=(zkb aC.out b3).size;have:=b3.size;have:=eX.out;omega) (fun hh=>by have hl:=ag.out.fs.lt;rcases hh with hh|hh;(have:=hl.1;omega);(have:=(hl.2 _ hh).2;omega))).trans ((b3.block _ (by have:=eX.out;omega)).trans gZ.out))⟩,trivial⟩
    refine hK.out _ _ av ?_;clear hK K bO;(try simp only[zQ]);refine zd ?_;refine NoPanic.normal ?_;have iW:=zh bu;clear bu bJ hp av hF hR;go_wp2_with fail
    go_roundw
    case rel=>exact⟨j+1,_,by omega,by go_num,iW.out⟩
    case measure=>simp[intOf];omega
   ·obtain rfl:j=ks.length:=by omega
    clear hinv;go_wp2_with fail;go_end0;have hinv:=ag.out;rw[List.take_of_length_le zl]at hinv;have hcc:=bg.out;rw[cntV,uM.out,if_neg hcall]at hcc;rw[<-hcc,<-Nat.add_assoc];exact hinv.rep fM.out ⟨_,rfl⟩
theorem zyz(k n:Int)(s:ByteArray)(ks:List T):isB (.nd k n s ks)=true↔k=57/\zkr n s=true/\∀t∈ks,isS t=true:=by
 rw[isB];simp only[Bool.and_eq_true,decide_eq_true_eq,and_assoc];refine and_congr Iff.rfl (and_congr Iff.rfl ?_);rw[zpP 0,zkH]
 constructor
 ·intro h t ht;obtain⟨q,hq,rfl⟩:=List.getElem_of_mem ht;exact h q hq
 ·intro h q hq;exact h _ (List.getElem_mem hq)
theorem zKD{t:T}(h:isB t=true):t.k=57:=by cases t;exact((zyz _ _ _ _).1 h).1
theorem zmZ{x:T}:∀ {l:List T},x∈pos l↔∃t∈l,x∈po t
 | []=>by simp[pos]
 | t::ts=>by simp[pos,zmZ (l:=ts)]
theorem zui:∀(ks:List T),(∀t∈ks,∀d l,lim t d l=if dep t<=d/\size t<=l then some (l-size t)else none)->∀d l,lims ks d l=if deps ks<=d/\zle ks<=l then some (l-zle ks)else none
 | [],_,d,l=>by simp[lims,deps,zle]
 | t::ts,h,d,l=>by
  have e1:deps (t::ts)=max (dep t) (deps ts):=by rw[deps]
  have e2:zle (t::ts)=size t+zle ts:=by rw[zle]
  rw[lims,h t (by simp) d l];by_cases h1:dep t<=d/\size t<=l
  ·rw[if_pos h1];simp only;rw[zui ts (fun u hu=>h u (by simp[hu])) d (l-size t)];by_cases h2:deps ts<=d/\zle ts<=l-size t
   ·rw[if_pos h2,if_pos ⟨by omega,by omega⟩];congr 1;omega
   ·rw[if_neg h2,if_neg (by omega)]
  ·rw[if_neg h1];simp only;rw[if_neg (by omega)]
theorem zzB(t:T):∀d l,lim t d l=if dep t<=d/\size t<=l then some (l-size t)else none:=by
 induction t using T.ind with
 | _ k n s ks ih =>
 intro d l;have e1:dep (.nd k n s ks)=1+deps ks:=by rw[dep]
 have e2:size (.nd k n s ks)=1+zle ks:=by rw[size]
 rw[lim];by_cases h:d=0\/l=0
 ·rw[if_pos h,if_neg (by omega)]
 ·rw[if_neg h,zui ks ih];by_cases h2:deps ks<=d-1/\zle ks<=l-1
  ·rw[if_pos h2,if_pos ⟨by omega,by omega⟩];congr 1;omega
  ·rw[if_neg h2,if_neg (by omega)]
theorem zwy{k n:Int}{s:ByteArray}{ks:List T}(h:isE (.nd k n s ks)=true):∀t∈ks,isE t=true:=by
 have key:isEs ks=true->∀t∈ks,isE t=true:=by
  intro h t ht;rw[znD 0,zkH]at h;obtain⟨i,hi,rfl⟩:=List.getElem_of_mem ht;exact h i hi
 have nil:decide (ks.length=0)=true->∀t∈ks,isE t=true:=by
  intro h t ht;have:ks=[]:=by simpa using h
  rw[this]at ht;cases ht
 rw[isE]at h
 split at h
 ·simp only[Bool.and_eq_true]at h;exact nil h.2
 split at h
 ·simp only[Bool.and_eq_true]at h;exact nil h.2
 split at h
 ·simp only[Bool.and_eq_true]at h;exact key h.2.2
 split at h
 ·simp only[Bool.and_eq_true]at h;exact key h.2.2
 split at h
 ·simp only[Bool.and_eq_true]at h;exact key h.2.2
 ·cases h
theorem zwx{t:T}(h:isP t=true):isE t=true:=by unfold isP at h;simp only[Bool.and_eq_true]at h;exact h.2
theorem zKC{t:T}(h:isV t=true):isE t=true:=by unfold isV at h;simp only[Bool.and_eq_true]at h;exact h.2
theorem zna{m:Nat}{p:Nat->T->Bool}{ks:List T}(h:zkG m p ks=true){t:T}(ht:t∈ks):∃i,p i t=true:=by
 unfold zkG at h;simp only[Bool.and_eq_true]at h;have:=(zkH p 0 ks).1 h.2;obtain⟨i,hi,rfl⟩:=List.getElem_of_mem ht;exact⟨0+i,this i hi⟩
theorem zpQ{d:Nat}{ks:List T}(h:isEB d ks=true){t:T}(ht:t∈ks):isE t=true\/isB t=true:=by
 have h':isEB (d+0) ks=true:=h;rw[znE d 0]at h';have:=(zkH _ 0 ks).1 h';obtain⟨i,hi,rfl⟩:=List.getElem_of_mem ht;have h2:=this i hi;unfold pEB at h2
 split at h2
 ·exact .inl h2
 ·exact .inr h2
theorem zxK{k n:Int}{s:ByteArray}{ks:List T}(h:isS (.nd k n s ks)=true):k≠57/\∀t∈ks,isE t=true\/isB t=true:=by
 rw[isS]at h
 split at h
 ·rename_i hk;simp only[Bool.and_eq_true]at h;refine⟨by omega,fun t ht=>?_⟩;obtain⟨i,hi⟩:=zna h.2 ht
  split at hi
  ·exact .inl (zwx hi)
  ·exact .inl hi
 split at h
 ·rename_i hk;simp only[Bool.and_eq_true]at h;refine⟨by omega,fun t ht=>?_⟩;obtain⟨i,hi⟩:=zna h.2 ht;exact .inl (zwx hi)
 split at h
 ·rename_i hk;simp only[Bool.and_eq_true]at h;refine⟨by omega,fun t ht=>?_⟩;obtain⟨i,hi⟩:=zna h.2 ht;exact .inl (zwx hi)
 split at h
 ·rename_i hk;simp only[Bool.and_eq_true]at h;refine⟨by omega,fun t ht=>?_⟩;obtain⟨i,hi⟩:=zna h.2 ht;exact .inl (zwx hi)
 split at h
 ·rename_i hk;simp only[Bool.and_eq_true]at h;refine⟨by omega,fun t ht=>?_⟩;have:=(zkH _ 0 ks).1 h.2;obtain⟨i,hi,rfl⟩:=List.getElem_of_mem ht;exact .inl (zKC (this i hi))
 split at h
 ·rename_i hk;simp only[Bool.and_eq_true]at h;exact⟨by omega,fun t ht=>zpQ h.2.2 ht⟩
 split at h
 ·rename_i hk;simp only[Bool.and_eq_true]at h;exact⟨by omega,fun t ht=>zpQ h.2.2 ht⟩
 split at h
 ·rename_i hk;simp only[Bool.and_eq_true]at h;exact⟨by omega,fun t ht=>zpQ h.2.2 ht⟩
 ·cases h
theorem znb{k n:Int}{s:ByteArray}{ks:List T}(h:isS (.nd k n s ks)=true) :
  ((k≠52/\k≠53/\k≠54/\k≠55/\k≠57)/\∀t∈ks,t.k≠57) \/
  ((k=52\/k=53)/\zkr n s=true/\∃a b c d,ks=[a,b,c,d]/\isE a=true/\isB b=true/\isB c=true/\isE d=true) \/
  (k=54/\zkC n s=true/\∃a b c,ks=[a,b,c]/\isE a=true/\isB b=true/\isE c=true) \/
  (k=55/\zkC n s=true/\∃b,ks=[b]/\isB b=true):=by
 have key:∀(p:Nat->T->Bool),(∀j t,p j t=true->t.k≠57)->zkA p 0 ks=true->∀t∈ks,t.k≠57:=by
  intro p hp hk t ht;obtain⟨q,hq,rfl⟩:=List.getElem_of_mem ht;exact hp _ _ ((zkH p 0 ks).1 hk q hq)
 have kE:∀t,isE t=true->t.k≠57:=fun t h1=>by have:=zwz t h1;omega
 rw[isS]at h
 repeat' split at h
 ·simp only[zkG,Bool.and_eq_true]at h;exact .inl ⟨by omega,key _ (fun j t hj=>by split at hj;exact zww t hj;exact kE t hj) h.2.2⟩
 ·simp only[zkG,Bool.and_eq_true]at h;exact .inl ⟨by omega,key _ (fun j t=>zww t) h.2.2⟩
 ·simp only[zkG,Bool.and_eq_true]at h;exact .inl ⟨by omega,key _ (fun j t=>zww t) h.2.2⟩
 ·simp only[zkG,Bool.and_eq_true]at h;exact .inl ⟨by omega,key _ (fun j t=>zww t) h.2.2⟩
 ·simp only[Bool.and_eq_true]at h;exact .inl ⟨by omega,key _ (fun j t=>zKB t) h.2⟩
 ·rename_i hk;simp only[Bool.and_eq_true,decide_eq_true_eq]at h;obtain⟨h1,h2,h3⟩:=h
  match ks,h2 with
  | [a,b,c,d],_ =>
   simp only[isEB,Bool.and_eq_true,Bool.and_true]at h3;simp at h3;exact .inr (.inl ⟨hk,h1,a,b,c,d,rfl,h3.1,h3.2.1,h3.2.2.1,h3.2.2.2⟩)
 ·rename_i hk;simp only[Bool.and_eq_true,decide_eq_true_eq]at h;obtain⟨h1,h2,h3⟩:=h
  match ks,h2 with
  | [a,b,c],_ =>
   simp only[isEB,Bool.and_eq_true,Bool.and_true]at h3;simp at h3;exact .inr (.inr (.inl ⟨hk,h1,a,b,c,rfl,h3.1,h3.2.1,h3.2.2⟩))
 ·rename_i hk;simp only[Bool.and_eq_true,decide_eq_true_eq]at h;obtain⟨h1,h2,h3⟩:=h
  match ks,h2 with
  | [b],_ =>
   simp only[isEB,Bool.and_eq_true,Bool.and_true]at h3;simp at h3;exact .inr (.inr (.inr ⟨hk,h1,b,rfl,h3⟩))
 ·cases h
section
variable {P:Program} {ops:Array Oper} {Q:Exit->Act->World->Prop} {md:Region.Mode} {S1 S2:World->Prop} {k:Nat}
theorem zx0{i j:Nat}{o o':Oper}{fuel:Nat}{listed:Array Bool}{a:Act}{w:World}(hr:Region.ready md ops listed=[i,j])(ho:ops[i]?=some o)(ho':ops[j]?=some o')
  (h:∀K':Act->World->Prop,Shut (∀a w,S1 w/\S2 w->wpG P md ops Q S1 S2 k fuel (listed.setIfInBounds i true) a w->K' a w)->if Region.wanted o (yielded ops a.tmps)=true then Oper.wp P o a w K' Q else K' (a.put o.dst undef) w)
  (h':∀K':Act->World->Prop,Shut (∀a w,S1 w/\S2 w->wpG P md ops Q S1 S2 k fuel (listed.setIfInBounds j true) a w->K' a w)->if Region.wanted o' (yielded ops a.tmps)=true then Oper.wp P o' a w K' Q else K' (a.put o'.dst undef) w) :
  wpG P md ops Q S1 S2 k (fuel+1) listed a w:=by
 refine⟨(fun h0=>by rw[hr]at h0;cases h0),fun x hx=>?_⟩;rw[hr]at hx;simp only[List.mem_cons,List.not_mem_nil,or_false]at hx;rcases hx with rfl|rfl
 ·exact wpOp_step ho fun K' hK=>h K' fun a w hS hW=>hK a w ⟨⟨hS.1,fun _=>hS.2⟩,hW⟩
 ·exact wpOp_step ho' fun K' hK=>h' K' fun a w hS hW=>hK a w ⟨⟨hS.1,fun _=>hS.2⟩,hW⟩
end
def frsN(vs:List VD):Nat->Nat
 | 0=>0
 | j+1=>frsN vs j+(if h:j<vs.length then one1 (zmy (vs.take j) vs[j].s)else 0)
theorem znc{vs:List VD}{j:Nat}(h:j<vs.length):frsN vs (j+1)=frsN vs j+one1 (zmy (vs.take j) vs[j].s):=by simp[frsN,h]
theorem zmx(vs:List VD):∀j,frsN vs j<=j
 | 0=>by simp[frsN]
 | j+1=>by
  have h:=zmx vs j;rw[frsN]
  split
  ·have:=zmW (zmy (vs.take j) vs[j].s);omega
  ·omega
def prcE(ps:List PR)(j:Nat)(r:PR):Nat:=one1 (if zlF ps r.s<(j:Int)then 22 else 0)+frsN r.ps r.ps.length+cntV ps r.b r.ps
def prcN(ps:List PR):Nat->Nat
 | 0=>0
 | j+1=>prcN ps j+(if h:j<ps.length then prcE ps j ps[j]else 0)
theorem zoj{ps:List PR}{j:Nat}(h:j<ps.length):prcN ps (j+1)=prcN ps j+prcE ps j ps[j]:=by simp[prcN,h]
def chkN(p:PG):Nat:=frsN p.vs p.vs.length+prcN p.prs p.prs.length+cntV p.prs p.m p.vs
theorem zoU{t:T}(h:zlG t=true):dep t<=80/\size t<=2000:=by
 simp only[zlG,Bool.and_eq_true]at h;have h1:=h.1;rw[zzB]at h1
 split at h1
 ·assumption
 ·simp at h1
theorem zmo{p:PG}(h:zlk p=true):p.vs.length<=32/\p.prs.length<=64/\(∀r∈p.prs,r.ps.length<=8/\dep r.b<=80/\size r.b<=2000)/\dep p.m<=80/\size p.m<=2000:=by
 simp only[zlk,Bool.and_eq_true,decide_eq_true_eq,List.all_eq_true]at h;refine⟨h.1.1.1.1,h.1.1.1.2,fun r hr=>?_,zoU h.2⟩;have:=h.1.2 r hr;simp only[zoK,Bool.and_eq_true,decide_eq_true_eq]at this;exact⟨this.1.1.2,zoU this.2⟩
theorem zra(ps:List PR)(h:∀r∈ps,r.ps.length<=8/\dep r.b<=80/\size r.b<=2000):∀j,prcN ps j<=j*2009
 | 0=>by simp[prcN]
 | j+1=>by
  have h1:=zra ps h j;rw[prcN]
  split
  ·rename_i hj;have h2:=h _ (List.getElem_mem hj);have h3:=zmW (if zlF ps ps[j].s<(j:Int)then 22 else 0);have h4:=zmx ps[j].ps ps[j].ps.length;have h5:=zuT ps ps[j].b ps[j].ps;unfold prcE;omega
  ·omega
theorem RowV.take{w:World}{S:Nat->Prop}{A:Option Addr}{vs:List VD}(h:RowV w S A vs)(j:Nat):RowV w S A (vs.take j):=fun i hi=>by
 have h1:i<vs.length:=by simp at hi;omega
 obtain⟨a,h2,h3,h4,h5⟩:=h i h1;exact⟨a,h2,h3,by simpa using h4,by simpa using h5⟩
theorem RowI.nil{w:World}{S:Nat->Prop}{A:Option Addr}:RowI w S A []:=fun i hi=>by simp at hi
theorem zqp(w:World)(j:Int)(hj:I64 j):RowI (w.alloc (.cells #[.int .i64 j] 3)) Any (some ⟨w.heap.size,0,none⟩) [j]:=fun i hi=>by
 simp only[List.length_singleton,Nat.lt_one_iff]at hi;subst hi;exact⟨_,rfl,trivial,zlD w 3 [.int .i64 j] 0 _ rfl,hj⟩
theorem zmG(n0 fb N:Nat)(pv:Value)(pr er:Int)(q:List Int)(A:Option Addr)(c:Nat)(s:ByteArray)(S:Nat->Prop)(W:World)(hfs:FS W n0 fb N pv)(hq:RowI W S A q)(j3:q.length<=100000)(hN:N<=1000000) :
  Calls prog 69 ([.int .i64 pr,.slice A q.length c,.string s,.int .i64 er].toArray ++ #[.pointer (some ⟨fb,0,none⟩)]) W (RepP W n0 fb pv (N+one1 er)):=by
 simpa using zmH n0 fb N pv pr er q A c s S W hfs hq j3 hN
theorem VsI.chg2{Rd:World->Prop}{n0 fb:Nat}{Wb wr wk w':World}{pv pv':Value}{N:Nat}(h:VsI Rd n0 fb Wb pv N wr pv')(hb:Below wr.heap.size wr wk)(hc:Chg (fun b=>b=fb\/pv'.ownBlock=some b) wk w'):Chg (fun b=>b=fb\/pv.ownBlock=some b) Wb w' :=
 (h.chg.trans (Chg.of_below hb)).trans2 hc fun b hlt hh=>by
  rcases hh with hh|hh
  ·exact .inl hh
  ·rcases h.own b hh with h1|h1
   ·exact .inr h1
   ·omega
theorem VsI.stepK{Rd:World->Prop}{n0 fb:Nat}{Wb wr w5 W6:World}{pv pv':Value}{N N':Nat}{e:Ending}(hk:∀W W' pv N,Rd W->FS W n0 fb N pv->Chg (fun b=>b=fb\/pv.ownBlock=some b) W W'->Rd W')(h:VsI Rd n0 fb Wb pv N wr pv')(hb:Below wr.heap.size wr w5)(hp:RepP w5 n0 fb pv' N' e W6) :
  ∃iZ,VsI Rd n0 fb Wb pv N' W6 iZ:=by
 obtain⟨_,iZ,hfs,aj,hc⟩:=hp;have sS:=h.fs.later hb;have hz:=h.chg.size;have oL:=hb.size;refine⟨iZ,hk w5 W6 pv' N (hk wr w5 pv' N h.rd h.fs (Chg.of_below hb)) sS hc,hfs,fun b hb'=>?_,h.chg2 hb hc⟩;rcases aj b hb' with h1|h1
 ·exact h.own b h1
 ·exact .inr (by omega)
theorem zmK(vs:List VD)(j:Nat)(hj:j<=vs.length)(A:Option Addr)(c:Nat)(s:ByteArray)(S:Nat->Prop)(w:World)(hrow:RowV w S A vs)(hl:vs.length<=LV) :
  Calls prog 71 #[.slice A j c,.string s] w fun e w'=>e=.returned (.int .i64 (zmy (vs.take j) s))/\Below w.heap.size w w':=by
 have h:=zou (vs.take j) A c s S w (hrow.take j) (by simp;omega);rwa[show(vs.take j).length=j by simp;omega]at h
theorem zpS:IsFn prog 71 f71:=⟨func71,by kernel_rfl,by kernel_rfl⟩
theorem zyG:IsFn prog 72 f72:=⟨func72,by kernel_rfl,by kernel_rfl⟩
theorem zsp:IsFn prog 69 f69:=⟨func69,by kernel_rfl,by kernel_rfl⟩
theorem zs8(p:PG)(S:Nat->Prop)(v:Value)(W:World)(hv:PV W S p v):Calls prog 26 #[v] W fun e w'=>∃A c,e=.returned (.slice A (if zlk p=true then chkN p else 0) c)/\Below W.heap.size W w':=by
 obtain⟨NN,Aw⟩:=zX ((if zlk p=true then chkN p else 0));rw[Aw];have qp:=zh Aw;clear Aw;have hvv:=hv;obtain⟨A1,c1,A2,c2,A3,c3,rfl,hr⟩:=hv;have hlv:=zlc hr.lv;have hlp:=zlc hr.lp;obtain⟨L1,hL1⟩:=zX (p.vs.length);obtain⟨L2,hL2⟩:=zX (p.prs.length);obtain⟨k,hk⟩:=zX (p.m.k);obtain⟨n,hn⟩:=zX (p.m.n);obtain⟨s,hs⟩:=zX (p.m.s);obtain⟨l3,hl3⟩:=zX (p.m.ks.length);rw[hL1,hL2,hk,hn,hs,hl3];rw[hL1,hL2,hk,hn,hs,hl3]at hvv;rw[hL1]at hlv;rw[hL2]at hlp;have wX:=zh hvv;have HR:=zh hr;have iH:=zh hL1;have HL2:=zh hL2;have iG:=zh (show p.m.k=k/\p.m.n=n/\p.m.s=s/\p.m.ks.length=l3 from⟨hk,hn,hs,hl3⟩);clear hvv hr hL1 hL2 hk hn hs hl3;go_enter func26,ntmps26;go_wp2_with fail;refine(zqR p S _ _ (wX.out.later (zka zr _))).mono ?_;rintro e w1 ⟨rfl,ae⟩;have b1:Below W.heap.size W w1:=zkb (zka zr _) ae
 have hp1:=(ae.block W.heap.size (by simp)).trans (heap_alloc_new W (.cells #[.slice A1 L1 c1,.slice A2 L2 c2,.int .u8 k,.int .i64 n,.string s,.slice A3 l3 c3] 43));have hz1:=ae.size;simp only[World.size_alloc]at hz1;have HB1:=zh b1;have HP1:=zh hp1;have HZ1:=zh hz1;obtain⟨a0,a1,a2,a3,a4,a5⟩:=box6 hp1;clear ae b1 hp1
 cases hvb:zlk p
 ·have hN0:NN=0:=by rw[<-qp.out,hvb];rfl
  subst hN0;go_wp2_with fail;go_ret;exact⟨none,0,rfl,HB1.out⟩
 ·have eZ:=zh (zmo hvb);have HNN2:=zh (show chkN p=NN by rw[<-qp.out,hvb];rfl);clear hvb qp;go_upto_region 5 with fail;obtain⟨fb,xY⟩:=zX (w1.heap.size);rw[xY];have vX:W.heap.size+1<=fb:=by omega
  have hbw:Below W.heap.size W ((w1.alloc (.cells #[.slice none 0 0] 65)).alloc (.cells #[.func (.func 69) #[] #[.pointer (some ⟨fb,0,none⟩)]] 117)):=zka (zka HB1.out _) _;have x8:=zkf (heap_alloc_new w1 (.cells #[.slice none 0 0] 65)) (.cells #[.func (.func 69) #[] #[.pointer (some ⟨fb,0,none⟩)]] 117);have hbR:=heap_alloc_new (w1.alloc (.cells #[.slice none 0 0] 65)) (.cells #[.func (.func 69) #[] #[.pointer (some ⟨fb,0,none⟩)]] 117);simp only[World.size_alloc]at hbR;rw[xY]at x8 hbR;have qR:=zkf (zkf HP1.out (.cells #[.slice none 0 0] 65)) (.cells #[.func (.func 69) #[] #[.pointer (some ⟨fb,0,none⟩)]] 117);obtain⟨Wb,tK⟩:=zX ((w1.alloc (.cells #[.slice none 0 0] 65)).alloc (.cells #[.func (.func 69) #[] #[.pointer (some ⟨fb,0,none⟩)]] 117));rw[tK]at hbw x8 hbR qR ⊢;have iB:=zh (show Wb.heap.size=fb+2 by rw[<-tK,<-xY];simp);have fM:=zh hbw;have HZF:=zh vX
  clear tK xY a0 a1 a2 a3 a4 a5 HP1 HZ1 HB1 hz1;have hrep:=zxw fb fb (fb+1) W.heap.size A1 L1 c1 A2 L2 c2 k n s A3 l3 c3;obtain⟨Rd,yg⟩:∃Rd:World->Prop,(fun W':World=>W'.heap[fb+1]?=some (.cells #[.func (.func 69) #[] #[.pointer (some ⟨fb,0,none⟩)]] 117 (0,0))/\W'.heap[W.heap.size]?=some (.cells #[.slice A1 L1 c1,.slice A2 L2 c2,.int .u8 k,.int .i64 n,.string s,.slice A3 l3 c3] 43 (0,0)))=Rd:=⟨_,rfl⟩
  rw[yg]at hrep;have aY:=zh hrep;have oh:=zh (show ∀w':World,Rd w'->w'.heap[fb+1]?=some (.cells #[.func (.func 69) #[] #[.pointer (some ⟨fb,0,none⟩)]] 117 (0,0))/\w'.heap[W.heap.size]?=some (.cells #[.slice A1 L1 c1,.slice A2 L2 c2,.int .u8 k,.int .i64 n,.string s,.slice A3 l3 c3] 43 (0,0))from fun w' h=>by rw[<-yg]at h;exact h);have bg:=zh (show ∀w':World,Rd w'->(fun w':World=>(zN6 w' W.heap.size (.slice A1 L1 c1) (.slice A2 L2 c2) (.int .u8 k) (.int .i64 n) (.string s) (.slice A3 l3 c3))/\(zv w' (fb+1) 0 (.func (.func 69) #[] #[.pointer (some ⟨fb,0,none⟩)]))) w' from fun w' h=>⟨box6 (oh.out w' h).2,zc (oh.out w' h).1 rfl⟩);have HI0:=zh (show VsI Rd fb fb Wb (.slice none 0 0) 0 Wb (.slice none 0 0)from⟨by rw[<-yg];exact⟨hbR,qR⟩,⟨x8,⟨[],World.ownsRow_nil _ _ _ _⟩,zl,by simp[Value.ownBlock]⟩,fun b hb=>.inl hb,Chg.refl _ _⟩)
  have oG:=zh (show ∀w':World,Chg (fun b=>b=fb\/(Value.slice none 0 0).ownBlock=some b) Wb w'->∀b,S b->b<W.heap.size->w'.heap[b]?=W.heap[b]? from fun w' h b hb hlt=>(h.block b (by have:=iB.out;omega) (fun hh=>by rcases hh with hh|hh;omega;simp[Value.ownBlock]at hh)).trans (fM.out.block b hlt));have HD:=zh (show ∀w':World,Chg (fun b=>b=fb\/(Value.slice none 0 0).ownBlock=some b) Wb w'->PV w' (fun b=>S b/\b<W.heap.size) p _/\PgR w' (fun b=>S b/\b<W.heap.size) p A1 c1 A2 c2 A3 c3 from fun w' h=>⟨wX.out.keep (fun b hb hlt=>⟨hb,hlt⟩) (oG.out w' h),HR.out.keep (fun b hb hlt=>⟨hb,hlt⟩) (oG.out w' h)⟩);have hl32:L1<=32:=by have:=eZ.out.1;rw[iH.out]at this;exact this
  have hl64:L2<=64:=by have:=eZ.out.2.1;rw[HL2.out]at this;exact this
  have hlc1:L1<=c1:=by have:=HR.out.lvc;rw[iH.out]at this;exact this
  have pq:L2<=c2:=by have:=HR.out.lpc;rw[HL2.out]at this;exact this
  obtain⟨⟨a0,a1,a2,a3,a4,a5⟩,ar⟩:=bg.out _ HI0.out.rd;clear hrep yg hbR qR x8 hbw;go_wp2_with fail
  go_loopw [18] (fun i wr=>∃(j:Nat) (pv':Value),j<=L1/\i=.int .i64 j/\VsI Rd fb fb Wb (.slice none 0 0) (frsN p.vs j) wr pv') (fun i _=>L1-(intOf i).toNat)
  case atStart=>exact⟨0,_,Nat.zero_le _,rfl,HI0.out⟩
  case round =>
   obtain⟨j,pv',hj,rfl,hinv⟩:=hrel;have ag:=zh hinv;clear HI0 a0 a1 a2 a3 a4 a5 ar;by_cases hlt:j<L1
   ·have il:j<p.vs.length:=by rw[iH.out];exact hlt
    obtain⟨a,u,rfl,hsa,Hu,⟨q0,q1,q2⟩,hfu⟩:=(HD.out wr hinv.chg).2.vars.nd il;have hjc:(j:Int)<=(c1:Int):=by omega
    have hj0:(0:Int)<=(j:Int):=by omega
    obtain⟨⟨a0,a1,a2,a3,a4,a5⟩,ar⟩:=bg.out _ hinv.rd;clear hinv hsa hfu;go_upto_region 8 with fail;have hbk:Below wr.heap.size wr (wr.alloc (.cells #[.string u.s,.int .u8 u.k,.int .i64 u.n] 57)):=zka zr _;have ek:=heap_alloc_new wr (.cells #[.string u.s,.int .u8 u.k,.int .i64 u.n] 57);obtain⟨wk,hwk⟩:=zX (wr.alloc (.cells #[.string u.s,.int .u8 u.k,.int .i64 u.n] 57));rw[hwk]at hbk ek ⊢;have eX:=zh (show wk.heap.size=wr.heap.size+1 by rw[<-hwk];simp);have aC:=zh hbk;have gZ:=zh ek;clear hwk hbk ek a0 a1 a2 a3 a4 a5 ar q0 q1 q2;have HRW:=zh (show ∀w':World,Below wk.heap.size wk w'->Rd w' from fun w' h=>aY.out.keep _ _ _ _ ag.out.rd ag.out.fs (Chg.of_below (zkb aC.out h)))
    have dJ:=zh (show ∀w':World,Below wk.heap.size wk w'->(fun w':World=>(zN6 w' W.heap.size (.slice (some a) L1 c1) (.slice A2 L2 c2) (.int .u8 k) (.int .i64 n) (.string s) (.slice A3 l3 c3)/\(zv w' (fb+1) 0 (.func (.func 69) #[] #[.pointer (some ⟨fb,0,none⟩)])))/\zN3 w' wr.heap.size (.string u.s) (.int .u8 u.k) (.int .i64 u.n)) w'/\zU w' from fun w' h=>⟨⟨bg.out _ (HRW.out w' h),box3 ((h.block _ (by have:=eX.out;omega)).trans gZ.out)⟩,trivial⟩);have hdr:=(zs wk).drew;have hSS:=dJ.out _ hdr;have hbI:=zpY;have hN:=zmx p.vs j;refine wp_region_noPanic ?_;refine zkk (fun w':World=>(zN6 w' W.heap.size (.slice (some a) L1 c1) (.slice A2 L2 c2) (.int .u8 k) (.int .i64 n) (.string s) (.slice A3 l3 c3)/\(zv w' (fb+1) 0 (.func (.func 69) #[] #[.pointer (some ⟨fb,0,none⟩)])))/\zN3 w' wr.heap.size (.string u.s) (.int .u8 u.k) (.int .i64 u.n)) zU 40 (by kernel_rfl) ?_
    refine zT 0 hSS ?_;refine zT 1 hSS ?_;refine zT 3 hSS ?_;refine zT 4 hSS ?_;refine zT 5 hSS ?_;refine zT 6 hSS ?_;refine zT 7 hSS ?_;refine zT 8 hSS ?_;refine zT 9 hSS ?_;refine zT 10 hSS ?_;refine zx0 (i:=2) (j:=11) (by kernel_rfl) rfl rfl (fun K hK=>?_) (fun K hK=>?_)
    ·(try simp only[zA,zB,zC]);go_simp;have b2:=zka hdr (.cells #[.int .i64 (j:Int)] 3);refine hK.out _ _ (dJ.out _ b2) ?_;clear hK K;(try simp only[zQ]);refine zo 11 fun K hK=>?_;refine zke (by rfl) (.func 71) [.tmp 31,.tmp 33] _ (by rfl) 71 _ zpS (by rfl) _ (by rfl) _ (znO (zmK p.vs j (by omega) (some a) c1 u.s _ _ (HD.out _ (ag.out.chg.trans (Chg.of_below (zkb aC.out b2)))).2.vars HR.out.lv)) ?_;rintro vq w3 ⟨rfl,bW⟩;have b3:=zkb b2 bW;refine hK.out _ _ (dJ.out _ b3) ?_;clear hK K;(try simp only[zQ]);refine zo 12 fun K hK=>?_
     refine zk5 (by rfl) (.tmp 23) [.const (.int .i64 (-1)),.tmp 25,.tmp 27,.tmp 34] _ (by rfl) 69 _ zsp #[.pointer (some ⟨fb,0,none⟩)] (by rfl) _ (by rfl) _ (zms (zmG fb fb _ pv' (-1) _ [(j:Int)] (some ⟨wk.heap.size,0,none⟩) 1 u.s _ _ (ag.out.fs.later (zkb aC.out b3)) (((zqp _ (j:Int) ⟨by omega,by omega⟩).later zr.drew).later bW) (by simp) (by omega))) ?_;rintro vq W6 hp;obtain⟨iQ,bJ⟩:=ag.out.step aY.out (zkb aC.out b3) hp;have bu:VsI Rd fb fb Wb (.slice none 0 0) (frsN p.vs (j+1)) W6 iQ:=by rw[znc il,Hu.out];exact bJ
     have av:zW (fun w':World=>(zN6 w' W.heap.size (.slice (some a) L1 c1) (.slice A2 L2 c2) (.int .u8 k) (.int .i64 n) (.string s) (.slice A3 l3 c3)/\(zv w' (fb+1) 0 (.func (.func 69) #[] #[.pointer (some ⟨fb,0,none⟩)])))/\zN3 w' wr.heap.size (.string u.s) (.int .u8 u.k) (.int .i64 u.n)) zU W6:=⟨⟨bg.out _ bu.rd,box3 ((hp.2.elim fun _ h=>h.2.2.block _ (by have:=(zkb aC.out b3).size;have:=(b3).size;have:=eX.out;omega) (fun hh=>by have hl:=ag.out.fs.lt;rcases hh with hh|hh;(have:=hl.1;omega);(have:=(hl.2 _ hh).2;omega))).trans (((b3).block _ (by have:=eX.out;omega)).trans gZ.out))⟩,trivial⟩
     refine hK.out _ _ av ?_;clear hK K;(try simp only[zQ]);refine zd ?_;refine NoPanic.normal ?_;have iW:=zh bu;clear bu bJ hp av;go_wp2_with fail
     go_roundw
     case rel=>exact⟨j+1,_,by omega,by go_num,iW.out⟩
     case measure=>simp[intOf];omega
    ·skip
     refine zke (by rfl) (.func 71) [.tmp 31,.tmp 33] _ (by rfl) 71 _ zpS (by rfl) _ (by rfl) _ (znO (zmK p.vs j (by omega) (some a) c1 u.s _ _ (HD.out _ (ag.out.chg.trans (Chg.of_below (zkb aC.out hdr)))).2.vars HR.out.lv)) ?_;rintro vq w2 ⟨rfl,au⟩;have b2:=zkb hdr au;refine hK.out _ _ (dJ.out _ b2) ?_;clear hK K;(try simp only[zQ]);refine zo 2 fun K hK=>?_;(try simp only[zA,zB,zC]);go_simp;have b3:=zka b2 (.cells #[.int .i64 (j:Int)] 3);refine hK.out _ _ (dJ.out _ b3) ?_;clear hK K;(try simp only[zQ]);refine zo 12 fun K hK=>?_
     refine zk5 (by rfl) (.tmp 23) [.const (.int .i64 (-1)),.tmp 25,.tmp 27,.tmp 34] _ (by rfl) 69 _ zsp #[.pointer (some ⟨fb,0,none⟩)] (by rfl) _ (by rfl) _ (zms (zmG fb fb _ pv' (-1) _ [(j:Int)] (some ⟨w2.heap.size,0,none⟩) 1 u.s _ _ (ag.out.fs.later (zkb aC.out b3)) (zqp _ (j:Int) ⟨by omega,by omega⟩) (by simp) (by omega))) ?_;rintro vq W6 hp;obtain⟨iQ,bJ⟩:=ag.out.step aY.out (zkb aC.out b3) hp;have bu:VsI Rd fb fb Wb (.slice none 0 0) (frsN p.vs (j+1)) W6 iQ:=by rw[znc il,Hu.out];exact bJ
     have av:zW (fun w':World=>(zN6 w' W.heap.size (.slice (some a) L1 c1) (.slice A2 L2 c2) (.int .u8 k) (.int .i64 n) (.string s) (.slice A3 l3 c3)/\(zv w' (fb+1) 0 (.func (.func 69) #[] #[.pointer (some ⟨fb,0,none⟩)])))/\zN3 w' wr.heap.size (.string u.s) (.int .u8 u.k) (.int .i64 u.n)) zU W6:=⟨⟨bg.out _ bu.rd,box3 ((hp.2.elim fun _ h=>h.2.2.block _ (by have:=(zkb aC.out b3).size;have:=(b3).size;have:=eX.out;omega) (fun hh=>by have hl:=ag.out.fs.lt;rcases hh with hh|hh;(have:=hl.1;omega);(have:=(hl.2 _ hh).2;omega))).trans (((b3).block _ (by have:=eX.out;omega)).trans gZ.out))⟩,trivial⟩
     refine hK.out _ _ av ?_;clear hK K;(try simp only[zQ]);refine zd ?_;refine NoPanic.normal ?_;have iW:=zh bu;clear bu bJ hp av;go_wp2_with fail
     go_roundw
     case rel=>exact⟨j+1,_,by omega,by go_num,iW.out⟩
     case measure=>simp[intOf];omega
   ·obtain rfl:L1=j:=by omega
    have jJ:=zh (show VsI Rd fb fb Wb (.slice none 0 0) (frsN p.vs p.vs.length) wr pv' by rw[iH.out];exact ag.out);obtain⟨⟨a0,a1,a2,a3,a4,a5⟩,ar⟩:=bg.out _ hinv.rd;obtain⟨F1,hF1⟩:=zX (frsN p.vs p.vs.length);have hF32:F1<=32:=by have:=zmx p.vs p.vs.length;have:=eZ.out.1;omega
    have yP:=zh hF1;rw[hF1]at jJ;clear hinv ag hF1 hj hlt;go_wp2_with fail
    go_loopw [40] (fun i wr=>∃(j:Nat) (pv':Value),j<=L2/\i=.int .i64 j/\VsI Rd fb fb Wb (.slice none 0 0) (F1+prcN p.prs j) wr pv') (fun i _=>L2-(intOf i).toNat)
    case atStart=>exact⟨0,_,Nat.zero_le _,rfl,jJ.out⟩
    case round =>
     clear jJ a0 a1 a2 a3 a4 a5 ar;obtain⟨j,pv',hj,rfl,hinv⟩:=hrel;obtain⟨w0,rfl⟩:∃w0,w0=wr:=⟨_,rfl⟩
     have ag:=zh hinv;by_cases hlt:j<L2
     ·have il:j<p.prs.length:=by rw[HL2.out];exact hlt
      obtain⟨a,r,P1,d1,P2,d2,rfl,hsa,Hr,⟨q0,q1,q2,q3,q4,q5⟩,hpr⟩:=(HD.out w0 hinv.chg).2.procs.nd il;obtain⟨⟨a0,a1,a2,a3,a4,a5⟩,ar⟩:=bg.out _ hinv.rd;have gW:=zh hpr;clear hinv hsa hpr;go_upto_region 13 with fail;have hbk:Below w0.heap.size w0 ((w0.alloc (.cells #[.int .i64 (j:Int)] 3)).alloc (.cells #[.string r.s,.slice P1 r.ps.length d1,.int .u8 r.b.k,.int .i64 r.b.n,.string r.b.s,.slice P2 r.b.ks.length d2] 75)):=zka (zka zr _) _;have tF:=zkf (heap_alloc_new w0 (.cells #[.int .i64 (j:Int)] 3)) (.cells #[.string r.s,.slice P1 r.ps.length d1,.int .u8 r.b.k,.int .i64 r.b.n,.string r.b.s,.slice P2 r.b.ks.length d2] 75);have pO:=heap_alloc_new (w0.alloc (.cells #[.int .i64 (j:Int)] 3)) (.cells #[.string r.s,.slice P1 r.ps.length d1,.int .u8 r.b.k,.int .i64 r.b.n,.string r.b.s,.slice P2 r.b.ks.length d2] 75);simp only[World.size_alloc]at pO
      obtain⟨wk,hwk⟩:=zX ((w0.alloc (.cells #[.int .i64 (j:Int)] 3)).alloc (.cells #[.string r.s,.slice P1 r.ps.length d1,.int .u8 r.b.k,.int .i64 r.b.n,.string r.b.s,.slice P2 r.b.ks.length d2] 75));rw[hwk]at hbk tF pO ⊢;have eX:=zh (show wk.heap.size=w0.heap.size+2 by rw[<-hwk];simp);have aC:=zh hbk;obtain⟨jA,pU⟩:∃jA:World->Prop,(fun W':World=>(Rd W'/\W'.heap[w0.heap.size]?=some (.cells #[.int .i64 (j:Int)] 3 (0,0)))/\W'.heap[w0.heap.size+1]?=some (.cells #[.string r.s,.slice P1 r.ps.length d1,.int .u8 r.b.k,.int .i64 r.b.n,.string r.b.s,.slice P2 r.b.ks.length d2] 75 (0,0)))=jA:=⟨_,rfl⟩
      have jB:=zh (show ∀w':World,jA w'->(fun W':World=>(Rd W'/\W'.heap[w0.heap.size]?=some (.cells #[.int .i64 (j:Int)] 3 (0,0)))/\W'.heap[w0.heap.size+1]?=some (.cells #[.string r.s,.slice P1 r.ps.length d1,.int .u8 r.b.k,.int .i64 r.b.n,.string r.b.s,.slice P2 r.b.ks.length d2] 75 (0,0))) w' from fun w' h=>by rw[<-pU]at h;exact h);have aR:=zh (show ∀(W W':World) (pv:Value) (N:Nat),jA W->FS W fb fb N pv->Chg (fun b=>b=fb\/pv.ownBlock=some b) W W'->jA W' from fun W W' pv N h hfs hc=>by rw[<-pU]at h ⊢;exact⟨⟨aY.out.keep _ _ _ _ h.1.1 hfs hc,hc.keep h.1.2 (hfs.other h.1.2 (by decide) (by decide))⟩,hc.keep h.2 (hfs.other h.2 (by decide) (by decide))⟩);have HI2:=zh (show VsI jA fb fb wk pv' (F1+prcN p.prs j) wk pv' from⟨by rw[<-pU];exact⟨⟨aY.out.keep _ _ _ _ ag.out.rd ag.out.fs (Chg.of_below hbk),tF⟩,pO⟩,ag.out.fs.later hbk,fun b hb=>.inl hb,Chg.refl _ _⟩)
      have fE:=zh (show ∀w':World,jA w'->(fun w':World=>(zN6 w' W.heap.size (.slice A1 L1 c1) (.slice (some a) L2 c2) (.int .u8 k) (.int .i64 n) (.string s) (.slice A3 l3 c3)/\(zv w' (fb+1) 0 (.func (.func 69) #[] #[.pointer (some ⟨fb,0,none⟩)])))/\(zv w' w0.heap.size 0 (.int .i64 (j:Int)))/\zN6 w' (w0.heap.size+1) (.string r.s) (.slice P1 r.ps.length d1) (.int .u8 r.b.k) (.int .i64 r.b.n) (.string r.b.s) (.slice P2 r.b.ks.length d2)) w' from fun w' h=>⟨bg.out w' (jB.out w' h).1.1,zc (jB.out w' h).1.2 rfl,box6 (jB.out w' h).2⟩)
      have HD2:=zh (show ∀w':World,Chg (fun b=>b=fb\/pv'.ownBlock=some b) wk w'->PV w' (fun b=>S b/\b<W.heap.size) p _/\PrR w' (fun b=>S b/\b<W.heap.size) r P1 d1 P2 d2 from fun w' h=>⟨(HD.out w' (ag.out.chg2 aC.out h)).1,gW.out.keep (fun b hb _=>hb) fun b hb _=>(oG.out w' (ag.out.chg2 aC.out h) b hb.1 hb.2).trans (oG.out w0 ag.out.chg b hb.1 hb.2).symm⟩)
      have dJ:=zh (show ∀w':World,Below wk.heap.size wk w'->(fun w':World=>(zN6 w' W.heap.size (.slice A1 L1 c1) (.slice (some a) L2 c2) (.int .u8 k) (.int .i64 n) (.string s) (.slice A3 l3 c3)/\(zv w' (fb+1) 0 (.func (.func 69) #[] #[.pointer (some ⟨fb,0,none⟩)])))/\(zv w' w0.heap.size 0 (.int .i64 (j:Int)))/\zN6 w' (w0.heap.size+1) (.string r.s) (.slice P1 r.ps.length d1) (.int .u8 r.b.k) (.int .i64 r.b.n) (.string r.b.s) (.slice P2 r.b.ks.length d2)) w'/\zU w' from fun w' h=>⟨fE.out w' (aR.out _ _ _ _ HI2.out.rd HI2.out.fs (Chg.of_below h)),trivial⟩);clear hwk hbk tF pO pU a0 a1 a2 a3 a4 a5 ar q0 q1 q2 q3 q4 q5;have hdr:=(zs wk).drew;have hSS:=dJ.out _ hdr;have hrb:=eZ.out.2.2.1 r (by rw[<-Hr.out];exact List.getElem_mem il);have hpN:=zra p.prs eZ.out.2.2.1 j;obtain⟨rb1,rb2,rb3⟩:=hrb;refine wp_region_noPanic ?_
      refine zkk (fun w':World=>(zN6 w' W.heap.size (.slice A1 L1 c1) (.slice (some a) L2 c2) (.int .u8 k) (.int .i64 n) (.string s) (.slice A3 l3 c3)/\(zv w' (fb+1) 0 (.func (.func 69) #[] #[.pointer (some ⟨fb,0,none⟩)])))/\(zv w' w0.heap.size 0 (.int .i64 (j:Int)))/\zN6 w' (w0.heap.size+1) (.string r.s) (.slice P1 r.ps.length d1) (.int .u8 r.b.k) (.int .i64 r.b.n) (.string r.b.s) (.slice P2 r.b.ks.length d2)) zU 40 (by kernel_rfl) ?_;refine zT 0 hSS ?_;refine zT 1 hSS ?_;refine zT 2 hSS ?_;refine zT 4 hSS ?_;refine zo 3 fun K hK=>?_;refine zke (by rfl) (.func 72) [.tmp 45,.tmp 47] _ (by rfl) 72 _ zyG (by rfl) _ (by rfl) _ (znO (znm p _ _ r.s _ (HD2.out _ (Chg.of_below hdr)).1)) ?_;rintro vq w2 ⟨rfl,au⟩;have b2:=zkb hdr au;have aM:=dJ.out _ b2;obtain⟨PE,Am⟩:=zX (zlF p.prs r.s);rw[Am];have HPE:=zh Am;refine hK.out _ _ aM ?_;clear hK K hSS Am
      (try simp only[zQ]);have uJ:=zh (show VsI jA fb fb wk pv' (F1+prcN p.prs j) w2 pv' from⟨aR.out _ _ _ _ HI2.out.rd HI2.out.fs (Chg.of_below b2),HI2.out.fs.later b2,fun b hb=>.inl hb,Chg.of_below b2⟩);by_cases hpe:PE<(j:Int)
      ·have hd:decide (PE<(j:Int))=true:=decide_eq_true hpe;obtain⟨E1,hE1⟩:=zX (one1 (22));have hE2:E1<=1:=by rw[<-hE1];exact zmW _
       have jW:=zh (show one1 (if zlF p.prs r.s<(j:Int)then 22 else 0)=E1 by rw[HPE.out,if_pos hpe];exact hE1);refine zT 5 aM ?_;refine zd ?_;refine NoPanic.normal ?_;obtain⟨⟨⟨a0,a1,a2,a3,a4,a5⟩,ar⟩,ai,r0,r1,r2,r3,r4,r5⟩:=aM.1;clear aM;go_wp2_with fail;refine(zmH fb fb _ pv' (j:Int) 22 [] none 0 r.s Any w2 uJ.out.fs RowI.nil (by simp) (by omega)).mono ?_;rintro e w3 hp;obtain⟨v3,rfl⟩:=hp.1;obtain⟨pv3,hi3⟩:=uJ.out.stepK aR.out zr hp;rw[hE1]at hi3;have HI3:=zh hi3;clear hp a0 a1 a2 a3 a4 a5 ar ai r0 r1 r2 r3 r4 r5;obtain⟨⟨⟨a0,a1,a2,a3,a4,a5⟩,ar⟩,ai,r0,r1,r2,r3,r4,r5⟩:=fE.out _ hi3.rd;clear hi3 hE1;go_wp2_with fail
       go_loopw [59] (fun x w'=>∃(i:Nat) (lU:Value),i<=r.ps.length/\x=.int .i64 i/\VsI jA fb fb wk pv' (F1+prcN p.prs j+E1+frsN r.ps i) w' lU) (fun x _=>r.ps.length-(intOf x).toNat)
       case atStart=>exact⟨0,_,Nat.zero_le _,rfl,HI3.out⟩
       case round =>
        clear HI3 a0 a1 a2 a3 a4 a5 ar ai r0 r1 r2 r3 r4 r5;obtain⟨i,lU,hi,rfl,hinv⟩:=hrel;have bL:=zh hinv;by_cases wE:i<r.ps.length
        ·obtain⟨a',u,rfl,hsa,Hu,⟨q0,q1,q2⟩,hfu⟩:=(HD2.out wr hinv.chg).2.row.nd wE;have hic:(i:Int)<=(d1:Int):=by have:=gW.out.lc;omega
         have hi0:(0:Int)<=(i:Int):=by omega
         obtain⟨⟨⟨a0,a1,a2,a3,a4,a5⟩,ar⟩,ai,r0,r1,r2,r3,r4,r5⟩:=fE.out _ hinv.rd;clear hinv hsa hfu;go_upto_region 18 with fail;have hbk:Below wr.heap.size wr (wr.alloc (.cells #[.string u.s,.int .u8 u.k,.int .i64 u.n] 57)):=zka zr _;have ek:=heap_alloc_new wr (.cells #[.string u.s,.int .u8 u.k,.int .i64 u.n] 57);obtain⟨wv,hwv⟩:=zX (wr.alloc (.cells #[.string u.s,.int .u8 u.k,.int .i64 u.n] 57));rw[hwv]at hbk ek ⊢;have uf:=zh (show wv.heap.size=wr.heap.size+1 by rw[<-hwv];simp);have nO:=zh hbk;have gZ:=zh ek;clear hwv hbk ek a0 a1 a2 a3 a4 a5 ar ai r0 r1 r2 r3 r4 r5 q0 q1 q2
         have qH:=zh (show ∀w':World,Below wv.heap.size wv w'->(fun w':World=>(fun w':World=>(zN6 w' W.heap.size (.slice A1 L1 c1) (.slice (some a) L2 c2) (.int .u8 k) (.int .i64 n) (.string s) (.slice A3 l3 c3)/\(zv w' (fb+1) 0 (.func (.func 69) #[] #[.pointer (some ⟨fb,0,none⟩)])))/\(zv w' w0.heap.size 0 (.int .i64 (j:Int)))/\zN6 w' (w0.heap.size+1) (.string r.s) (.slice (some a') r.ps.length d1) (.int .u8 r.b.k) (.int .i64 r.b.n) (.string r.b.s) (.slice P2 r.b.ks.length d2)) w'/\zN3 w' wr.heap.size (.string u.s) (.int .u8 u.k) (.int .i64 u.n)) w'/\zU w' from fun w' h=>⟨⟨fE.out _ (aR.out _ _ _ _ bL.out.rd bL.out.fs (Chg.of_below (zkb nO.out h))),box3 ((h.block _ (by have:=uf.out;omega)).trans gZ.out)⟩,trivial⟩);have hdv:=(zs wv).drew;have hSS:=qH.out _ hdv;have zR:=zmx r.ps i;refine wp_region_noPanic ?_
         refine zkk (fun w':World=>(fun w':World=>(zN6 w' W.heap.size (.slice A1 L1 c1) (.slice (some a) L2 c2) (.int .u8 k) (.int .i64 n) (.string s) (.slice A3 l3 c3)/\(zv w' (fb+1) 0 (.func (.func 69) #[] #[.pointer (some ⟨fb,0,none⟩)])))/\(zv w' w0.heap.size 0 (.int .i64 (j:Int)))/\zN6 w' (w0.heap.size+1) (.string r.s) (.slice (some a') r.ps.length d1) (.int .u8 r.b.k) (.int .i64 r.b.n) (.string r.b.s) (.slice P2 r.b.ks.length d2)) w'/\zN3 w' wr.heap.size (.string u.s) (.int .u8 u.k) (.int .i64 u.n)) zU 40 (by kernel_rfl) ?_;refine zT 0 hSS ?_;refine zT 1 hSS ?_;refine zT 2 hSS ?_;refine zT 3 hSS ?_;refine zT 4 hSS ?_;refine zT 5 hSS ?_;refine zT 6 hSS ?_;refine zT 7 hSS ?_;refine zT 8 hSS ?_;refine zT 9 hSS ?_;refine zo 10 fun K hK=>?_
         refine zke (by rfl) (.func 71) [.tmp 71,.tmp 73] _ (by rfl) 71 _ zpS (by rfl) _ (by rfl) _ (znO (zmK r.ps i (by omega) (some a') d1 u.s _ _ (HD2.out _ (bL.out.chg.trans (Chg.of_below (zkb nO.out hdv)))).2.row gW.out.lp)) ?_;rintro vq w5 ⟨rfl,fH⟩;have b5:=zkb hdv fH;refine hK.out _ _ (qH.out _ b5) ?_;clear hK K hSS;(try simp only[zQ]);refine zo 11 fun K hK=>?_;refine zk5 (by rfl) (.tmp 64) [.tmp 65,.const (.slice none 0 0),.tmp 67,.tmp 74] _ (by rfl) 69 _ zsp #[.pointer (some ⟨fb,0,none⟩)] (by rfl) _ (by rfl) _ (zms (zmG fb fb _ lU (j:Int) _ [] none 0 u.s Any _ (bL.out.fs.later (zkb nO.out b5)) RowI.nil (by simp) (by omega))) ?_;rintro vq W6 hp;obtain⟨iQ,bJ⟩:=bL.out.stepK aR.out (zkb nO.out b5) hp
         have bu:VsI jA fb fb wk pv' (F1+prcN p.prs j+E1+frsN r.ps (i+1)) W6 iQ:=by rw[znc wE,Hu.out,<-Nat.add_assoc];exact bJ
         have av:zW (fun w':World=>(fun w':World=>(zN6 w' W.heap.size (.slice A1 L1 c1) (.slice (some a) L2 c2) (.int .u8 k) (.int .i64 n) (.string s) (.slice A3 l3 c3)/\(zv w' (fb+1) 0 (.func (.func 69) #[] #[.pointer (some ⟨fb,0,none⟩)])))/\(zv w' w0.heap.size 0 (.int .i64 (j:Int)))/\zN6 w' (w0.heap.size+1) (.string r.s) (.slice (some a') r.ps.length d1) (.int .u8 r.b.k) (.int .i64 r.b.n) (.string r.b.s) (.slice P2 r.b.ks.length d2)) w'/\zN3 w' wr.heap.size (.string u.s) (.int .u8 u.k) (.int .i64 u.n)) zU W6:=⟨⟨fE.out _ bu.rd,box3 ((hp.2.elim fun _ h=>h.2.2.block _ (by have:=(zkb nO.out b5).size;have:=b5.size;have:=uf.out;omega) (fun hh=>by have hl:=bL.out.fs.lt;rcases hh with hh|hh;(have:=hl.1;omega);(have:=(hl.2 _ hh).2;omega))).trans ((b5.block _ (by have:=uf.out;omega)).trans gZ.out))⟩,trivial⟩
         refine hK.out _ _ av ?_;clear hK K;(try simp only[zQ]);refine zd ?_;refine NoPanic.normal ?_;have iW:=zh bu;clear bu bJ hp av;go_wp2_with fail
         go_roundw
         case rel=>exact⟨i+1,_,by omega,by go_num,iW.out⟩
         case measure=>simp[intOf];omega
        ·have hil:i=r.ps.length:=by omega
         obtain⟨⟨⟨a0,a1,a2,a3,a4,a5⟩,ar⟩,ai,r0,r1,r2,r3,r4,r5⟩:=fE.out _ hinv.rd;have hge:¬ ((i:Int)<(r.ps.length:Int)):=by omega
         clear hinv;go_wp2_with fail;have zR:=zmx r.ps r.ps.length;have aI:=zh (show VsI jA fb fb wk pv' (F1+prcN p.prs j+E1+frsN r.ps r.ps.length) wr lU by rw[<-hil];exact bL.out);have xO:=bL.out.chg.size;have hzk:=eX.out;have hz0:=ag.out.chg.size;have hzb:=iB.out;refine(znw 74 _ _ fb fb (zsA fb fb (fb+1) w0.heap.size (j:Int)) p r.b (fun b=>S b/\b<W.heap.size) r.ps P1 d1 [] none 0 (F1+prcN p.prs j+E1+frsN r.ps r.ps.length) lU wr _ _ ⟨(oh.out _ (jB.out _ aI.out.rd).1.1).1,(jB.out _ aI.out.rd).1.2⟩ aI.out.fs (HD2.out _ aI.out.chg).1 (HD2.out _ aI.out.chg).2.body (HD2.out _ aI.out.chg).2.row gW.out.lc RowI.nil (Nat.zero_le _) (fun b hb hbl hh=>?_) (by simp;omega) (by omega) (by omega)).mono ?_
         ·rcases hh with hh|hh
          ·have:=hb.2;omega
          ·rcases aI.out.own b hh with h1|h1
           ·have:=(ag.out.fs.lt.2 b h1).1;have:=hb.2;omega
           ·have:=hb.2;omega
         rintro e W6 hp;obtain⟨v6,rfl⟩:=hp.1;obtain⟨iQ,bJ⟩:=aI.out.stepK aR.out zr hp;obtain⟨yX,bu⟩:=ag.out.step aY.out aC.out (bJ.rep zr (e:=.returned undef) ⟨_,rfl⟩);have BU:=zh (show VsI Rd fb fb Wb (.slice none 0 0) (F1+prcN p.prs (j+1)) W6 yX by rw[zoj il,Hr.out,prcE,jW.out];simpa only[Nat.add_assoc]using bu);clear bu bJ hp a0 a1 a2 a3 a4 a5 ar ai r0 r1 r2 r3 r4 r5;go_wp2_with fail
         go_roundw
         case rel=>exact⟨j+1,_,by omega,by go_num,BU.out⟩
         case measure=>simp[intOf];omega
      ·have hd:decide (PE<(j:Int))=false:=decide_eq_false hpe;obtain⟨E1,hE1⟩:=zX (one1 (0));have hE2:E1<=1:=by rw[<-hE1];exact zmW _
       have jW:=zh (show one1 (if zlF p.prs r.s<(j:Int)then 22 else 0)=E1 by rw[HPE.out,if_neg hpe];exact hE1);refine zT 5 aM ?_;refine zd ?_;refine NoPanic.normal ?_;obtain⟨⟨⟨a0,a1,a2,a3,a4,a5⟩,ar⟩,ai,r0,r1,r2,r3,r4,r5⟩:=aM.1;clear aM;go_wp2_with fail;have HI3:=zh (show VsI jA fb fb wk pv' (F1+prcN p.prs j+E1) w2 pv' by rw[<-hE1];exact uJ.out);clear hE1
       go_loopw [59] (fun x w'=>∃(i:Nat) (lU:Value),i<=r.ps.length/\x=.int .i64 i/\VsI jA fb fb wk pv' (F1+prcN p.prs j+E1+frsN r.ps i) w' lU) (fun x _=>r.ps.length-(intOf x).toNat)
       case atStart=>exact⟨0,_,Nat.zero_le _,rfl,HI3.out⟩
       case round =>
        clear HI3 a0 a1 a2 a3 a4 a5 ar ai r0 r1 r2 r3 r4 r5;obtain⟨i,lU,hi,rfl,hinv⟩:=hrel;have bL:=zh hinv;by_cases wE:i<r.ps.length
        ·obtain⟨a',u,rfl,hsa,Hu,⟨q0,q1,q2⟩,hfu⟩:=(HD2.out wr hinv.chg).2.row.nd wE;have hic:(i:Int)<=(d1:Int):=by have:=gW.out.lc;omega
         have hi0:(0:Int)<=(i:Int):=by omega
         obtain⟨⟨⟨a0,a1,a2,a3,a4,a5⟩,ar⟩,ai,r0,r1,r2,r3,r4,r5⟩:=fE.out _ hinv.rd;clear hinv hsa hfu;go_upto_region 18 with fail;have hbk:Below wr.heap.size wr (wr.alloc (.cells #[.string u.s,.int .u8 u.k,.int .i64 u.n] 57)):=zka zr _;have ek:=heap_alloc_new wr (.cells #[.string u.s,.int .u8 u.k,.int .i64 u.n] 57);obtain⟨wv,hwv⟩:=zX (wr.alloc (.cells #[.string u.s,.int .u8 u.k,.int .i64 u.n] 57));rw[hwv]at hbk ek ⊢;have uf:=zh (show wv.heap.size=wr.heap.size+1 by rw[<-hwv];simp);have nO:=zh hbk;have gZ:=zh ek;clear hwv hbk ek a0 a1 a2 a3 a4 a5 ar ai r0 r1 r2 r3 r4 r5 q0 q1 q2
         have qH:=zh (show ∀w':World,Below wv.heap.size wv w'->(fun w':World=>(fun w':World=>(zN6 w' W.heap.size (.slice A1 L1 c1) (.slice (some a) L2 c2) (.int .u8 k) (.int .i64 n) (.string s) (.slice A3 l3 c3)/\(zv w' (fb+1) 0 (.func (.func 69) #[] #[.pointer (some ⟨fb,0,none⟩)])))/\(zv w' w0.heap.size 0 (.int .i64 (j:Int)))/\zN6 w' (w0.heap.size+1) (.string r.s) (.slice (some a') r.ps.length d1) (.int .u8 r.b.k) (.int .i64 r.b.n) (.string r.b.s) (.slice P2 r.b.ks.length d2)) w'/\zN3 w' wr.heap.size (.string u.s) (.int .u8 u.k) (.int .i64 u.n)) w'/\zU w' from fun w' h=>⟨⟨fE.out _ (aR.out _ _ _ _ bL.out.rd bL.out.fs (Chg.of_below (zkb nO.out h))),box3 ((h.block _ (by have:=uf.out;omega)).trans gZ.out)⟩,trivial⟩);have hdv:=(zs wv).drew;have hSS:=qH.out _ hdv;have zR:=zmx r.ps i;refine wp_region_noPanic ?_
         refine zkk (fun w':World=>(fun w':World=>(zN6 w' W.heap.size (.slice A1 L1 c1) (.slice (some a) L2 c2) (.int .u8 k) (.int .i64 n) (.string s) (.slice A3 l3 c3)/\(zv w' (fb+1) 0 (.func (.func 69) #[] #[.pointer (some ⟨fb,0,none⟩)])))/\(zv w' w0.heap.size 0 (.int .i64 (j:Int)))/\zN6 w' (w0.heap.size+1) (.string r.s) (.slice (some a') r.ps.length d1) (.int .u8 r.b.k) (.int .i64 r.b.n) (.string r.b.s) (.slice P2 r.b.ks.length d2)) w'/\zN3 w' wr.heap.size (.string u.s) (.int .u8 u.k) (.int .i64 u.n)) zU 40 (by kernel_rfl) ?_;refine zT 0 hSS ?_;refine zT 1 hSS ?_;refine zT 2 hSS ?_;refine zT 3 hSS ?_;refine zT 4 hSS ?_;refine zT 5 hSS ?_;refine zT 6 hSS ?_;refine zT 7 hSS ?_;refine zT 8 hSS ?_;refine zT 9 hSS ?_;refine zo 10 fun K hK=>?_
         refine zke (by rfl) (.func 71) [.tmp 71,.tmp 73] _ (by rfl) 71 _ zpS (by rfl) _ (by rfl) _ (znO (zmK r.ps i (by omega) (some a') d1 u.s _ _ (HD2.out _ (bL.out.chg.trans (Chg.of_below (zkb nO.out hdv)))).2.row gW.out.lp)) ?_;rintro vq w5 ⟨rfl,fH⟩;have b5:=zkb hdv fH;refine hK.out _ _ (qH.out _ b5) ?_;clear hK K hSS;(try simp only[zQ]);refine zo 11 fun K hK=>?_;refine zk5 (by rfl) (.tmp 64) [.tmp 65,.const (.slice none 0 0),.tmp 67,.tmp 74] _ (by rfl) 69 _ zsp #[.pointer (some ⟨fb,0,none⟩)] (by rfl) _ (by rfl) _ (zms (zmG fb fb _ lU (j:Int) _ [] none 0 u.s Any _ (bL.out.fs.later (zkb nO.out b5)) RowI.nil (by simp) (by omega))) ?_;rintro vq W6 hp;obtain⟨iQ,bJ⟩:=bL.out.stepK aR.out (zkb nO.out b5) hp
         have bu:VsI jA fb fb wk pv' (F1+prcN p.prs j+E1+frsN r.ps (i+1)) W6 iQ:=by rw[znc wE,Hu.out,<-Nat.add_assoc];exact bJ
         have av:zW (fun w':World=>(fun w':World=>(zN6 w' W.heap.size (.slice A1 L1 c1) (.slice (some a) L2 c2) (.int .u8 k) (.int .i64 n) (.string s) (.slice A3 l3 c3)/\(zv w' (fb+1) 0 (.func (.func 69) #[] #[.pointer (some ⟨fb,0,none⟩)])))/\(zv w' w0.heap.size 0 (.int .i64 (j:Int)))/\zN6 w' (w0.heap.size+1) (.string r.s) (.slice (some a') r.ps.length d1) (.int .u8 r.b.k) (.int .i64 r.b.n) (.string r.b.s) (.slice P2 r.b.ks.length d2)) w'/\zN3 w' wr.heap.size (.string u.s) (.int .u8 u.k) (.int .i64 u.n)) zU W6:=⟨⟨fE.out _ bu.rd,box3 ((hp.2.elim fun _ h=>h.2.2.block _ (by have:=(zkb nO.out b5).size;have:=b5.size;have:=uf.out;omega) (fun hh=>by have hl:=bL.out.fs.lt;rcases hh with hh|hh;(have:=hl.1;omega);(have:=(hl.2 _ hh).2;omega))).trans ((b5.block _ (by have:=uf.out;omega)).trans gZ.out))⟩,trivial⟩
         refine hK.out _ _ av ?_;clear hK K;(try simp only[zQ]);refine zd ?_;refine NoPanic.normal ?_;have iW:=zh bu;clear bu bJ hp av;go_wp2_with fail
         go_roundw
         case rel=>exact⟨i+1,_,by omega,by go_num,iW.out⟩
         case measure=>simp[intOf];omega
        ·have hil:i=r.ps.length:=by omega
         obtain⟨⟨⟨a0,a1,a2,a3,a4,a5⟩,ar⟩,ai,r0,r1,r2,r3,r4,r5⟩:=fE.out _ hinv.rd;have hge:¬ ((i:Int)<(r.ps.length:Int)):=by omega
         clear hinv;go_wp2_with fail;have zR:=zmx r.ps r.ps.length;have aI:=zh (show VsI jA fb fb wk pv' (F1+prcN p.prs j+E1+frsN r.ps r.ps.length) wr lU by rw[<-hil];exact bL.out);have xO:=bL.out.chg.size;have hzk:=eX.out;have hz0:=ag.out.chg.size;have hzb:=iB.out;refine(znw 74 _ _ fb fb (zsA fb fb (fb+1) w0.heap.size (j:Int)) p r.b (fun b=>S b/\b<W.heap.size) r.ps P1 d1 [] none 0 (F1+prcN p.prs j+E1+frsN r.ps r.ps.length) lU wr _ _ ⟨(oh.out _ (jB.out _ aI.out.rd).1.1).1,(jB.out _ aI.out.rd).1.2⟩ aI.out.fs (HD2.out _ aI.out.chg).1 (HD2.out _ aI.out.chg).2.body (HD2.out _ aI.out.chg).2.row gW.out.lc RowI.nil (Nat.zero_le _) (fun b hb hbl hh=>?_) (by simp;omega) (by omega) (by omega)).mono ?_
         ·rcases hh with hh|hh
          ·have:=hb.2;omega
          ·rcases aI.out.own b hh with h1|h1
           ·have:=(ag.out.fs.lt.2 b h1).1;have:=hb.2;omega
           ·have:=hb.2;omega
         rintro e W6 hp;obtain⟨v6,rfl⟩:=hp.1;obtain⟨iQ,bJ⟩:=aI.out.stepK aR.out zr hp;obtain⟨yX,bu⟩:=ag.out.step aY.out aC.out (bJ.rep zr (e:=.returned undef) ⟨_,rfl⟩);have BU:=zh (show VsI Rd fb fb Wb (.slice none 0 0) (F1+prcN p.prs (j+1)) W6 yX by rw[zoj il,Hr.out,prcE,jW.out];simpa only[Nat.add_assoc]using bu);clear bu bJ hp a0 a1 a2 a3 a4 a5 ar ai r0 r1 r2 r3 r4 r5;go_wp2_with fail
         go_roundw
         case rel=>exact⟨j+1,_,by omega,by go_num,BU.out⟩
         case measure=>simp[intOf];omega
     ·have hjl:j=L2:=by omega
      obtain⟨⟨a0,a1,a2,a3,a4,a5⟩,ar⟩:=bg.out _ hinv.rd;have hge:¬ ((j:Int)<(L2:Int)):=by omega
      have bR:=zh (show VsI Rd fb fb Wb (.slice none 0 0) (F1+prcN p.prs p.prs.length) w0 pv' by rw[HL2.out,<-hjl];exact ag.out);clear hinv;go_wp2_with fail;have hpN:=zra p.prs eZ.out.2.2.1 p.prs.length;have hvb:=eZ.out;have xO:=ag.out.chg.size;have hzb:=iB.out;have uU:=(HD.out _ bR.out.chg).2.main;rw[iG.out.1,iG.out.2.1,iG.out.2.2.1,iG.out.2.2.2]at uU;have hcall:=znw _ _ Rd fb fb aY.out p p.m (fun b=>S b/\b<W.heap.size) p.vs A1 c1 [] none 0 (F1+prcN p.prs p.prs.length) pv' w0 _ _ bR.out.rd bR.out.fs (HD.out _ bR.out.chg).1 uU (HD.out _ bR.out.chg).2.vars HR.out.lvc RowI.nil (Nat.zero_le _) (fun b hb hbl hh=>by rcases hh with hh|hh;(have:=hb.2;omega);(rcases bR.out.own b hh with h1|h1;(simp[Value.ownBlock]at h1);(have:=hb.2;omega))) (by simp;omega) (by omega) (by omega);rw[iH.out]at hcall;refine hcall.mono ?_;clear hcall;rintro e W6 hp
      obtain⟨v6,rfl⟩:=hp.1;obtain⟨iQ,bJ⟩:=bR.out.step aY.out zr hp;rw[show F1+prcN p.prs p.prs.length+cntV p.prs p.m p.vs=NN by rw[<-HNN2.out,chkN,yP.out]]at bJ;obtain⟨A6,c6,rfl⟩:=bJ.fs.slice;have hf6:W6.cell? ⟨fb,0,none⟩=some (.slice A6 NN c6):=zc bJ.fs.box rfl;have HBZ:=zh (show Below W.heap.size W W6 from fM.out.trans (bJ.chg.below (by omega) (fun b hb=>by rcases hb with hb|hb;omega;simp[Value.ownBlock]at hb)));clear bJ hp uU hvb a0 a1 a2 a3 a4 a5 ar;go_wp2_with fail;go_ret;exact⟨A6,c6,rfl,HBZ.out⟩
end
end Go.Proofs.YtembgnhbpmfhpaaGreat
