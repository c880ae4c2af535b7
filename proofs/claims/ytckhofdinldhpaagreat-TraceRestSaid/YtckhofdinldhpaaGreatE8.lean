/-
  Texts of the proof, put together without their remarks: Ia, Nz, Ib, Fw, If, Lfp, Tof, Taw, Apl.
-/
import Derived.Test.YtckhofdinldhpaaGreatE7
import Derived.Tactics
import Derived.Tactics2
import Derived.Defers
set_option linter.unusedSimpArgs false
set_option linter.unusedVariables false
set_option maxHeartbeats 8000000
set_option maxRecDepth 100000
namespace Go.Proofs.YtckhofdinldhpaaGreat
open Go Go.RowKit
theorem zpY (jb:Nat) (w:World) (h:w.cell? ⟨jb,0,none⟩=some (.slice none 0 0)):Calls Tryz.prog 154 #[.pointer (some ⟨jb,0,none⟩)] w fun e w'=>e=.returned (.int .i64 0)/\w'=w:=by
 go_enter Tryz.func154,Tryz.ntmps154;go_wp2_with fail;go_ret;exact⟨rfl,rfl⟩
theorem zuV:IsFn Tryz.prog 154 Tryz.f154:=⟨Tryz.func154,by kernel_rfl,by kernel_rfl⟩
theorem ztX {P:Program} {c:Code} {Q Q':Exit->Act->World->Prop} {a:Act} {w:World} (h:c.wp P Q a w) (hQ:∀ e a' w',Q e a' w'->Q' e a' w'):c.wp P Q' a w :=
 fun b k cs=>let ⟨e,a',w',q,r⟩:=h b k cs;⟨e,a',w',hQ _ _ _ q,r⟩
theorem zt6 (C:World->Prop):∃ Q:Exit->Act->World->Prop,(∀ a' w',a'.defers=[]->C w'->Q .normal a' w')/\∀ e a' w',Q e a' w'->e=.normal/\a'.defers=[]/\C w' :=
 ⟨fun e a' w'=>e=.normal/\a'.defers=[]/\C w',fun _ _ h1 h2=>⟨rfl,h1,h2⟩,fun _ _ _ h=>h⟩
theorem tAss (x:Int) (w:World):(Instr.typeAssert (.iface 210 (.agg #[.int .i64 x])) 20 210 true).run Tryz.prog w=.ok (.tuple #[.agg #[.int .i64 x],.bool true]) w:=by kernel_rfl
theorem zti (a b c:Value) (w:World) :
  CallsD Tryz.prog 155 #[a,b,c] .returning w fun e u' w'=>e=.returned (.tuple #[])/\u'=.returning/\w'=w:=by
 refine callsD_of_wpS Tryz.func155 rfl fun c₀ cs hu=>?_;apply wpS_seq;apply wpS_region;simp[wpOpsS,go_sem,recoverD,hu,Tryz.ntmps155,Exit.thenS];apply wpS_seq;apply wpS_seq;apply wpS_region;simp[wpOpsS,go_sem,Exit.thenS];refine wpS_cond (t:=true) (by simp[Act.eval,Array.replicate]) ?_;simp only[if_true];refine wpS_of_wp (wp_ret ?_)
 cases c₀
 simp_all [bodyPostS,results,Tryz.results155,Exit.thenS]
theorem zrW (a2 a5 a4 jb:Nat) (x y:Int) (w:World) (h2:w.cell? ⟨a2,0,none⟩=some (.pointer (some ⟨jb,0,none⟩))) (h5:w.cell? ⟨a5,0,none⟩=some (.int .i64 0)) (hj:w.cell? ⟨jb,0,none⟩=some (.slice none 0 0)) (h4:w.cell? ⟨a4,0,none⟩=some (.int .i64 y)) (hf:w.frozen? ⟨a4,0,none⟩=false) :
  CallsD Tryz.prog 155 #[.pointer (some ⟨a2,0,none⟩),.pointer (some ⟨a5,0,none⟩),.pointer (some ⟨a4,0,none⟩)] (.panicking [{ v:=.iface 210 (.agg #[.int .i64 x]),recovered:=false }]) w fun e u' w' =>
   e=.returned (.tuple #[])/\u'=.panicking [{ v:=.iface 210 (.agg #[.int .i64 x]),recovered:=true }]/\w'.cell? ⟨a4,0,none⟩=some (.int .i64 x)/\Chg (fun b=>b=a4) w w':=by
 refine callsD_of_wpS Tryz.func155 rfl fun c₀ cs hu=>?_;apply wpS_seq;apply wpS_region;simp[wpOpsS,go_sem,recoverD,hu,Tryz.ntmps155,Exit.thenS];apply wpS_seq;apply wpS_seq;apply wpS_region;simp[wpOpsS,go_sem,Exit.thenS];refine wpS_cond (t:=false) (by simp[Act.eval,Array.replicate]) ?_;simp only[Bool.false_eq_true,if_false];refine wpS_of_wp (wp_skip ?_);refine wpS_of_wp ?_;obtain⟨Q,qz,hQ2⟩:=zt6 (fun w'=>w'.cell? ⟨a4,0,none⟩=some (.int .i64 x)/\Chg (fun b=>b=a4) w w');refine ztX (Q:=Q) ?_ ?_;rotate_left 1
 ·intro e a' w' hq;obtain⟨rfl,h1,h2⟩:=hQ2 _ _ _ hq
  cases c₀
  simp_all [bodyPostS,results,Tryz.results155,Exit.thenS]
 have HQ:=zh qz;clear qz hQ2 hu;refine Eq.mp (congrArg (fun t=>Code.wp Tryz.prog _ Q ⟨t,[]⟩ w) (?e:(#[.pointer (some ⟨a2,0,none⟩),.pointer (some ⟨a5,0,none⟩),.pointer (some ⟨a4,0,none⟩),.iface 210 (.agg #[.int .i64 x]),undef,undef,.iface 210 (.agg #[.int .i64 x]),.iface 210 (.agg #[.int .i64 x]),.bool false,undef,undef,undef,undef,undef,undef,undef,undef,undef,undef,undef,undef,undef,undef,undef,undef,undef]:Array Value)=_)) ?_
 case e=>kernel_rfl
 go_upto_region 2 with fail;have HS:=zh (show ∀ w',Below w.heap.size w w'->(fun w':World=>w'.cell? ⟨a2,0,none⟩=some (.pointer (some ⟨jb,0,none⟩))/\w'.cell? ⟨a5,0,none⟩=some (.int .i64 0)) w' from fun w' hb=>⟨zb hb h2,zb hb h5⟩);have fG:=zh (fun w' (hb:Below w.heap.size w w')=>zpY jb w' (zb hb hj));have hSS:(fun w':World=>w'.cell? ⟨a2,0,none⟩=some (.pointer (some ⟨jb,0,none⟩))/\w'.cell? ⟨a5,0,none⟩=some (.int .i64 0)) w.drew/\(fun _:World=>True) w.drew:=⟨HS.out _ (Below.refl _ _).drew,trivial⟩
 refine wp_region_noPanic ?_;refine zke (fun w':World=>w'.cell? ⟨a2,0,none⟩=some (.pointer (some ⟨jb,0,none⟩))/\w'.cell? ⟨a5,0,none⟩=some (.int .i64 0)) (fun _:World=>True) 3 (by kernel_rfl) ?_;refine zT 0 hSS ?_;(try simp only[zQ]);refine zT 2 hSS ?_;(try simp only[zQ]);have had:Calls Tryz.prog 154 [.pointer (some ⟨jb,0,none⟩)].toArray w.drew fun e w'=>∃ v,e=.returned v/\(v=.int .i64 0/\w'=w.drew):=(fG.out _ (Below.refl _ _).drew).mono fun e w' ⟨h1,h2⟩=>⟨_,h1,rfl,h2⟩
 refine zo 1 fun K hK=>?_;refine zkg (by rfl) (.func 154) [.tmp 9] _ (by rfl) 154 _ zuV (by rfl) _ (by rfl) _ had ?_;rintro v1 w1 ⟨rfl,rfl⟩;refine hK.out _ _ hSS ?_;clear hK K had;(try simp only[zQ]);refine zp 3 fun K hK=>?_;(try simp only[zA,zB,zC]);go_simp;refine hK.out _ _ hSS.1 ?_;clear hK K;(try simp only[zQ]);refine zd ?_;refine NoPanic.normal ?_;clear hSS HS fG;have ht:=fun w=>tAss x w;obtain⟨w1,hw1⟩:∃ w1,w.drew=w1:=⟨_,rfl⟩
 have hb1:Below w.heap.size w w1:=hw1▸(Below.refl _ _).drew;have g4:=zb hb1 h4;have gf:w1.frozen? ⟨a4,0,none⟩=false:=hw1▸hf;have hlt:a4<w1.heap.size:=World.block_lt_of_cell? w1 _ g4;have z4:=zkj g4 (.cells #[.int .i64 x] 210);have HB1:=zh hb1;rw[hw1];clear h2 h5 hj h4 hf hw1 hb1;go_wp2_with fail;have hch:=(Chg.refl (fun b=>b=a4) w1).setCell (p:=⟨a4,0,none⟩) (.inl rfl) (.int .i64 x);exact HQ.out _ _ rfl ⟨zkj (by simp[go_sem,g4]) _,(Chg.of_below HB1.out).trans (hch.alloc _)⟩
def AttP (W:World) (R:World->Prop) (X:Int->World->Prop) (e:Ending) (w':World):Prop :=
 (e=.returned (.int .i64 0)/\∃ w1,R w1/\Chg (fun b=>W.heap.size<=b/\b<W.heap.size+3) w1 w')\/∃ x,e=.returned (.int .i64 x)/\∃ w1,X x w1/\Chg (fun b=>W.heap.size<=b/\b<W.heap.size+3) w1 w'
theorem zpJ (jb:Nat) (f:FuncId) (fn:Func) (hf:IsFn Tryz.prog f fn) (caps:Array Value) (W:World) (hj:W.heap[jb]?=some (.cells #[.slice none 0 0,.bool false] 179 (0,0))) (R:World->Prop) (X:Int->World->Prop)
  (hact:∀ W1,Below W.heap.size W W1->W1.heap.size=W.heap.size+3->Calls Tryz.prog f caps W1 fun e w'=>(∀ b,(W.heap.size<=b\/b=jb)->b<W1.heap.size->w'.heap[b]?=W1.heap[b]?)/\(((∃ u,e=.returned u)/\R w')\/∃ x,e=zpt x/\X x w')) :
  Calls Tryz.prog 116 #[.pointer (some ⟨jb,0,none⟩),.func (.func f) #[] caps] W (AttP W R X):=by
 have uL:∀ (fn:Fn) (first cap:Array Value) (w:World),(Instr.makeFunc fn first cap).run Tryz.prog w=.ok (.func fn first cap) w:=fun _ _ _ _=>rfl;have hnf:∀ w:World,(binOp BinOp.eql 1 (.func (.func f) #[] caps) .nilFunc).run Tryz.prog w=.ok (.bool false) w:=fun _=>by kernel_rfl
 have HJ:=zh hj;have hjl:=zko hj;have HA:=zh hact;have hLE:=fun w' (hb:Below W.heap.size W w')=>zpY jb w' (zb hb (zc hj rfl));have fG:=zh hLE;clear hj hact hLE
 go_enter_defers Tryz.func116,Tryz.ntmps116
 go_wp2_with fail;refine(fG.out _ (zkd (zkd (Below.refl _ _) _) _)).mono ?_;rintro e w1 ⟨rfl,rfl⟩;go_wp2_with fail;rw[zkH hf,Oper.upon_enter];have k0:=zkr (zkr (heap_alloc_new W (.cells #[.pointer (some ⟨jb,0,none⟩)] 176)) (.cells #[.int .i64 0] 37)) (.cells #[.int .i64 0] 3);have k1:=zkr (heap_alloc_new (W.alloc (.cells #[.pointer (some ⟨jb,0,none⟩)] 176)) (.cells #[.int .i64 0] 37)) (.cells #[.int .i64 0] 3);have k2:=heap_alloc_new ((W.alloc (.cells #[.pointer (some ⟨jb,0,none⟩)] 176)).alloc (.cells #[.int .i64 0] 37)) (.cells #[.int .i64 0] 3);have kj:=zkr (zkr (zkr HJ.out (.cells #[.pointer (some ⟨jb,0,none⟩)] 176)) (.cells #[.int .i64 0] 37)) (.cells #[.int .i64 0] 3);have hb3:=zkd (zkd (zkd (Below.refl W.heap.size W) (.cells #[.pointer (some ⟨jb,0,none⟩)] 176)) (.cells #[.int .i64 0] 37)) (.cells #[.int .i64 0] 3)
 simp only[World.size_alloc] at k1 k2;obtain⟨w3,hw3⟩:∃ x,((W.alloc (.cells #[.pointer (some ⟨jb,0,none⟩)] 176)).alloc (.cells #[.int .i64 0] 37)).alloc (.cells #[.int .i64 0] 3)=x:=⟨_,rfl⟩
 have hz3:w3.heap.size=W.heap.size+3:=by rw[<-hw3];simp
 rw[hw3] at k0 k1 k2 kj hb3 ⊢;clear hw3;refine(HA.out w3 hb3 hz3).mono ?_;rintro e w2 ⟨hk,h⟩;have q0:=(hk _ (.inl (Nat.le_refl _)) (by omega)).trans k0;have q1:=(hk _ (.inl (Nat.le_succ _)) (by omega)).trans k1;have q2:=(hk _ (.inl (by omega)) (by omega)).trans k2;have qj:=(hk _ (.inr rfl) (by omega)).trans kj;clear k0 k1 k2 kj hk hb3;rcases h with⟨⟨u,rfl⟩,hR⟩|⟨x,rfl,hX⟩
 ·have c1:w2.cell? ⟨W.heap.size+1,0,none⟩=some (.int .i64 0):=zc q1 rfl;have f1:∀ o,w2.frozen? ⟨W.heap.size+1,o,none⟩=false:=fun _=>zf q1;have HRR:=zh hR;clear q0 q2 qj fG HA hR;go_wp2_with fail;refine leaves_cons (f:=155) (args := #[.pointer (some ⟨W.heap.size,0,none⟩),.pointer (some ⟨W.heap.size+1+1,0,none⟩),.pointer (some ⟨W.heap.size+1,0,none⟩)]) (by simp) (by simp[go_sem]) ?_;refine(zti _ _ _ _).mono ?_;rintro e u' w'' ⟨rfl,rfl,rfl⟩;have hch:=(Chg.refl (fun b=>W.heap.size<=b/\b<W.heap.size+3) w2).setCell (p:=⟨W.heap.size+1,0,none⟩) (.inl ⟨Nat.le_succ _,by simp⟩) (.int .i64 0);have hc2:(w2.setCell ⟨W.heap.size+1,0,none⟩ (.int .i64 0)).cell? ⟨W.heap.size+1,0,none⟩=some (.int .i64 0):=by simp[go_sem,c1]
  have HP:AttP W R X (.returned (.int .i64 0)) (w2.setCell ⟨W.heap.size+1,0,none⟩ (.int .i64 0)):=.inl ⟨rfl,w2,HRR.out,hch⟩;simp[Leaves,settle,results,Tryz.results116,go_sem,hc2,HP]
 ·have p0:w2.cell? ⟨W.heap.size,0,none⟩=some (.pointer (some ⟨jb,0,none⟩)):=zc q0 rfl;have p1:w2.cell? ⟨W.heap.size+1,0,none⟩=some (.int .i64 0):=zc q1 rfl;have p2:w2.cell? ⟨W.heap.size+1+1,0,none⟩=some (.int .i64 0):=zc q2 rfl;have pj:w2.cell? ⟨jb,0,none⟩=some (.slice none 0 0):=zc qj rfl;have f1:w2.frozen? ⟨W.heap.size+1,0,none⟩=false:=zf q1;refine leaves_cons (f:=155) (args := #[.pointer (some ⟨W.heap.size,0,none⟩),.pointer (some ⟨W.heap.size+1+1,0,none⟩),.pointer (some ⟨W.heap.size+1,0,none⟩)]) (by simp) (by simp[go_sem]) ?_;refine(zrW _ _ _ jb x 0 _ p0 p2 pj p1 f1).mono ?_;rintro e u' w'' ⟨rfl,rfl,hc2,hch⟩;have HP:AttP W R X (.returned (.int .i64 x)) w'':=.inr ⟨x,rfl,w2,hX,hch.mono fun b _ e=>by omega⟩;simp[Leaves,settle,results,Tryz.results116,go_sem,hc2,HP]
def Nz (o:Out):Prop:=o ≠ .err 0
theorem Nz.bind {o:Out} {f:RS->Out} (h:Nz o) (hf:∀ r,Nz (f r)):Nz (o.bind f):=by
 cases o with
 | gas=>exact fun e=>by cases e
 | err x=>exact h
 | ok r=>exact hf r
theorem Nz.ok (r:RS):Nz (.ok r):=fun e=>by cases e
theorem Nz.gas:Nz .gas:=fun e=>by cases e
theorem Nz.step (F:Int) (r:RS):Nz (zk5 F r):=by
 unfold zk5
 split
 ·intro e;injection e with e;omega
 ·exact Nz.ok _
theorem Nz.store (r:RS) (R:Int×ST):Nz (zkK r R):=by
 unfold zkK
 split
 ·rename_i h;intro e;injection e with e;exact h e
 ·exact Nz.ok _
theorem Nz.val {t:T} {r:RS} {f:Int->RS->Out} (hf:∀ x,Nz (f x r)):Nz (valO t r f):=by
 unfold valO
 split
 ·rename_i h;intro e;injection e with e;exact h e
 ·exact hf _
theorem Nz.holds {F:Int} {t:T} {r:RS} {f:Bool->RS->Out} (hf:∀ b r,Nz (f b r)):Nz (zlX F t r f):=(Nz.step F r).bind fun r=>Nz.val fun x=>hf _ _
theorem Nz.assert (F:Int) (t:T) (b:Bool) (r:RS):Nz (zlc F t b r):=Nz.holds fun b' r=>by
 split
 ·exact Nz.ok _
 ·intro e;injection e with e;omega
theorem Nz.body {f:T->RS->Out}:∀ (l:List T) (r:RS),(∀ t∈l,∀ r,Nz (f t r))->Nz (zkY f l r)
 | [],r,_=>Nz.ok r
 | t::ts,r,h=>(h t (List.mem_cons_self ..) r).bind fun r=>Nz.body ts r fun u hu=>h u (List.mem_cons_of_mem _ hu)
theorem Nz.loop {F:Int} {f:T->RS->Out} {entry test:T} {l1 l2:List T} (h1:∀ t∈l1,∀ r,Nz (f t r)) (h2:∀ t∈l2,∀ r,Nz (f t r)):∀ (m:Nat) (r:RS),Nz (zm6 F f entry test l1 l2 m r)
 | 0,_=>Nz.gas
 | m+1,r=>by
  rw[zm6];refine(Nz.body l1 r h1).bind fun r=>Nz.holds fun b r=>?_
  split
  ·exact Nz.ok _
  ·exact(Nz.body l2 r h2).bind fun r=>(Nz.assert F entry false r).bind fun r=>Nz.loop h1 h2 m r
theorem znd {G:List PR->T->Prop} (hG:GC G) {prs:List PR} {F:Int}:∀ (g:Nat) (back:Bool) (t:T) (r:RS),G prs t->Nz (zkJ prs F g back t r)
 | 0,_,_,_,_=>Nz.gas
 | g+1,back,t,r,h=>by
  have hb:∀ back (b:T) r,(∀ u∈b.ks,G prs u)->Nz (zkY (zkJ prs F g back) (blkL back b) r):=fun back b r hu=>Nz.body _ r fun u hm r=>znd hG g back u r (hu u (zle hm));rw[zkJ]
  split
  ·rename_i hk;obtain⟨-,h1,h2⟩:=hG.two _ _ h (.inl hk);refine Nz.holds fun yes r=>Nz.bind ?_ fun r=>Nz.assert _ _ _ _
   split
   ·exact hb _ _ _ h1
   ·exact hb _ _ _ h2
  ·split
   ·rename_i hk;obtain⟨-,h1,h2⟩:=hG.two _ _ h (.inr hk);exact(Nz.assert _ _ _ _).bind fun r=>Nz.loop (fun u hm r=>znd hG g back u r (h1 u (zle hm))) (fun u hm r=>znd hG g back u r (h2 u (zle hm))) g r
   ·split
    ·rename_i hk;obtain⟨-,h1⟩:=hG.loc _ _ h hk;exact(Nz.step _ _).bind fun r=>Nz.val fun x=>(Nz.store _ _).bind fun r=>(hb _ _ _ h1).bind fun r=>(Nz.step _ _).bind fun r=>Nz.val fun x=>Nz.store _ _
    ·split
     ·rename_i hk;obtain⟨-,h1⟩:=hG.stk _ _ h hk;exact(Nz.step _ _).bind fun r=>(Nz.store _ _).bind fun r=>(hb _ _ _ h1).bind fun r=>(Nz.step _ _).bind fun r=>Nz.store _ _
     ·split
      ·rename_i hk;obtain⟨i,q,hi,hq,h1⟩:=hG.cal _ _ h hk;rw[hi];dsimp only;rw[getD_some hq];exact(Nz.step _ _).bind fun r=>(Nz.store _ _).bind fun r=>(hb _ _ _ h1).bind fun r=>(Nz.step _ _).bind fun r=>Nz.store _ _
      ·exact(Nz.step _ _).bind fun r=>Nz.store _ _
theorem zq9 {G:List PR->T->Prop} (hG:GC G) {prs:List PR} {F:Int} {g:Nat} {back:Bool} {b:T} {r:RS} (h:∀ u∈b.ks,G prs u):Nz (runO prs F g back b r):=Nz.body _ r fun u hm r=>znd hG g back u r (h u (zle hm))
theorem RI.chgK {C:RC} {lo hi:Nat} {W W':World} {r:RS} (hC:(C.plus lo hi).Ok) (h:RI (C.plus lo hi) W r) (hc:Chg (fun b=>lo<=b/\b<hi) W W') (hlo:C.w.heap.size<=lo):RI (C.plus lo hi) W' r:=by
 have hkb:∀ b,lo<=b/\b<hi->(C.plus lo hi).kb b:=fun b hb=>.inr hb;refine⟨h.ks.chg hc fun b _ hb=>⟨Nat.le_trans hlo hb.1,.inr (.inl (hkb b hb))⟩,hc.keep h.box fun hb=>hC.rb.2 (hkb _ hb),zoq h.ent fun b hb=>?_,h.el,h.en,h.n,h.fb⟩;exact hc.block b (h.ent.lt b hb).2 fun hb'=>hC.ev.2 b hb (hkb _ hb')
def Fam (p:PG):Prop:=∃ G:List PR->T->Prop,(∀ g,IStC G g)/\(zkX p=true->chkN p=0->(∀ u∈p.m.ks,G p.prs u)/\∀ (F:Int) (g:Nat) (back:Bool) (r:RS),Nz (runO p.prs F g back p.m r))
def GB (_:List PR) (t:T):Prop:=¬ (50<=t.k/\t.k<=55)
theorem zvJ:GC GB where
 two:=fun prs t h hk=>absurd (by omega) h
 loc:=fun prs t h hk=>absurd (by omega) h
 stk:=fun prs t h hk=>absurd (by omega) h
 cal:=fun prs t h hk=>absurd (by omega) h
theorem zqk:∀ g,IStC GB g
 | 0=>fun C hC W r h t v back hv hGt hg=>absurd rfl hg
 | g+1=>fun C hC W r h t v back hv hGt hg=>by
  unfold GB at hGt;have e:zkJ C.p.prs C.F (g+1) back t r=basO C.F back t r:=by
   rw[zkJ,if_neg (by omega),if_neg (by omega),if_neg (by omega),if_neg (by omega),if_neg (by omega)];rfl
  rw[e];exact zsw hC h t v back hv ⟨by omega,by omega,by omega,by omega,by omega,by omega⟩
theorem zul {p:PG} (h:∀ u∈p.m.ks,GB p.prs u):Fam p:=⟨GB,zqk,fun _ _=>⟨h,fun _ _ _ _=>zq9 zvJ h⟩⟩
theorem zqm {G:List PR->T->Prop} (hS:∀ g,IStC G g) {C:RC} (hC:C.Ok) {W:World} {r:RS} (h:RI C W r) (hG:∀ u∈C.p.m.ks,G C.p.prs u) (g:Nat) (back:Bool) (hg:runO C.p.prs C.F g back C.p.m r ≠ .gas) (pb qb bb:Nat)
  (h0:W.cell? ⟨pb,0,none⟩=some (.pointer (some ⟨C.rb,0,none⟩))) (hq:W.heap[qb]?=some (.cells #[.slice C.A1 C.p.vs.length C.c1,.slice C.A2 C.p.prs.length C.c2,.int .u8 C.p.m.k,.int .i64 C.p.m.n,.string C.p.m.s,.slice C.A3 C.p.m.ks.length C.c3] 35 (0,0))) (hb:W.cell? ⟨bb,0,none⟩=some (.bool back)) :
  Calls Tryz.prog 117 #[.pointer (some ⟨pb,0,none⟩),.pointer (some ⟨qb,0,none⟩),.pointer (some ⟨bb,0,none⟩)] W (RunP C W (runO C.p.prs C.F g back C.p.m r)):=by
 have aC:=zh (zqB (hS g) hC h C.p.m _ back hC.pg.main hG hg);have q2:W.cell? ⟨qb,2,none⟩=some (.int .u8 C.p.m.k):=zc hq rfl;have q3:W.cell? ⟨qb,3,none⟩=some (.int .i64 C.p.m.n):=zc hq rfl;have q4:W.cell? ⟨qb,4,none⟩=some (.string C.p.m.s):=zc hq rfl;have q5:W.cell? ⟨qb,5,none⟩=some (.slice C.A3 C.p.m.ks.length C.c3):=zc hq rfl;obtain⟨o,ho⟩:∃ o,runO C.p.prs C.F g back C.p.m r=o:=⟨_,rfl⟩
 rw[ho] at aC hg ⊢;clear hC h hG hq ho;go_enter Tryz.func117,Tryz.ntmps117;go_wp2_with fail;refine aC.out.mono ?_;rintro e w1 ⟨hk1,hb1,ho1⟩
 cases o with
 | gas=>exact absurd rfl hg
 | err x =>
  subst ho1;exact⟨rfl,hk1,hb1,rfl⟩
 | ok r1 =>
  obtain⟨⟨u,rfl⟩,hr1⟩:=ho1;have HR:=zh hr1;have aN:=zh hk1;have HB1:=zh hb1;clear h0 q2 q3 q4 q5 hb hr1 hk1 hb1;go_wp2_with fail;go_end0;exact⟨aN.out,HB1.out,⟨_,rfl⟩,HR.out⟩
def outR (s:SS):Out->SS×Nat×Int×List Nat
 | .ok r=>(r.S.state,r.n,0,r.ent)
 | .err e=>(s,0,e,[])
 | .gas=>(s,0,0,[])
def resO (p:PG) (s:SS) (F:Int) (g:Nat) (back:Bool):SS×Nat×Int×List Nat :=
 if zkX p=false\/chkN p≠0 then (s,0,3,[]) else if fitB p.vs s=false then (s,0,20,[]) else outR s (runO p.prs F g back p.m ⟨newS p.vs s,0,List.replicate p.prs.length 0⟩)
def LimR (R:SS×Nat×Int×List Nat):Prop:=R.1.Lim/\(R.2.2.1=0->R.1.cells.length<=1000+R.2.1/\(∀ l∈R.1.cells,l.length<=1000)/\R.1.tin.length<=4096/\R.1.tout.length<=4096)
theorem LimR.run {r:RS} (h:r.S.WF) (hf:FB r.n r.S) (e:List Nat):LimR (r.S.state,r.n,0,e):=by
 obtain⟨-,h1,h2⟩:=zpg h;obtain⟨kd,hb,-⟩:=h.ex;refine⟨h1,fun _=>⟨?_,h2,h.tin.1,h.tout.1⟩⟩;have:=hb.len;have:=hf.1;simp only[ST.state,List.length_map,List.length_take];omega
def ResP (W:World) (R:SS×Nat×Int×List Nat) (e:Ending) (W':World):Prop:=∃ A c v1 v2 v3,e=.returned (.tuple #[.slice A R.2.2.2.length c,.agg #[v1,v2,v3,.int .i64 (R.2.1:Int),.int .i64 R.2.2.1]]) /\
 OwnS W' W.heap.size R.1 (.agg #[v1,v2,v3])/\RowI W' (fun b=>W.heap.size<=b) A (R.2.2.2.map Int.ofNat)/\R.2.2.2.length<=c/\Below W.heap.size W W'/\LimR R
theorem OwnS.slices {W:World} {n0:Nat} {s:SS} {v:Value} (h:OwnS W n0 s v):∃ A c B d D e,v=.agg #[.slice A s.cells.length c,.slice B s.tin.length d,.slice D s.tout.length e]:=by
 obtain⟨vc,vi,vo,fc,rfl,hr,-⟩:=h;obtain⟨A,c,e1,-⟩:=zkb (hr.row .all);obtain⟨B,d,e2,-⟩:=zkb (hr.row .inp);obtain⟨D,e,e3,-⟩:=zkb (hr.row .out);change vc=.slice A s.cells.length c at e1;change vi=.slice B s.tin.length d at e2;change vo=.slice D s.tout.length e at e3;exact⟨A,c,B,d,D,e,by rw[e1,e2,e3]⟩
theorem OwnS.chg {W W':World} {n0:Nat} {s:SS} {v:Value} {Cc:Nat->Prop} (h:OwnS W n0 s v) (hc:Chg Cc W W') (hC:∀ b,Cc b->b<n0):OwnS W' n0 s v:=by
 obtain⟨vc,vi,vo,fc,rfl,hr,hi⟩:=h;exact⟨vc,vi,vo,fc,rfl,hr.chg hc fun i b hb hcb=>by have:=(hr.lt i b hb).1;have:=hC b hcb;omega,hi⟩
theorem OwnS.lower {W:World} {n0 n1:Nat} {s:SS} {v:Value} (h:OwnS W n1 s v) (hn:n0<=n1):OwnS W n0 s v:=by
 obtain⟨vc,vi,vo,fc,rfl,hr,hi⟩:=h;exact⟨vc,vi,vo,fc,rfl,hr.mono hn,hi⟩
theorem set5 {W:World} {b:Nat} {x0 x1 x2 x3 x4 u0 u1 u2 u3 u4:Value} {E:TypeId} (h:W.heap[b]?=some (.cells #[x0,x1,x2,x3,x4] E (0,0))) :
  (((((W.setCell ⟨b,0,none⟩ u0).setCell ⟨b,1,none⟩ u1).setCell ⟨b,2,none⟩ u2).setCell ⟨b,3,none⟩ u3).setCell ⟨b,4,none⟩ u4).heap[b]?=some (.cells #[u0,u1,u2,u3,u4] E (0,0)) /\
   Chg (fun q=>q=b) W (((((W.setCell ⟨b,0,none⟩ u0).setCell ⟨b,1,none⟩ u1).setCell ⟨b,2,none⟩ u2).setCell ⟨b,3,none⟩ u3).setCell ⟨b,4,none⟩ u4):=by
 refine⟨?_,(((((Chg.refl (fun q=>q=b) W).setCell (p:=⟨b,0,none⟩) (.inl rfl) _).setCell (p:=⟨b,1,none⟩) (.inl rfl) _).setCell (p:=⟨b,2,none⟩) (.inl rfl) _).setCell (p:=⟨b,3,none⟩) (.inl rfl) _).setCell (p:=⟨b,4,none⟩) (.inl rfl) _⟩;rw[heap_setCell_same _ b 4 _ _ u4 (heap_setCell_same _ b 3 _ _ u3 (heap_setCell_same _ b 2 _ _ u2 (heap_setCell_same _ b 1 _ _ u1 (heap_setCell_same W b 0 _ _ u0 h))))];simp
theorem bRes (A B D:Option Addr) (l c m d n e:Nat) (x:Int) (w:World):(Instr.build 50 #[(0,.agg #[.slice A l c,.slice B m d,.slice D n e]),(2,.int .i64 x)]).run Tryz.prog w=.ok (.agg #[.slice A l c,.slice B m d,.slice D n e,.int .i64 0,.int .i64 x]) w:=by kernel_rfl
theorem zvB (A B D:Option Addr) (l c m d n e:Nat) (x:Int) (w:World):(Instr.build 50 #[(0,.agg #[.slice A l c,.slice B m d,.slice D n e]),(1,.int .i64 x)]).run Tryz.prog w=.ok (.agg #[.slice A l c,.slice B m d,.slice D n e,.int .i64 x,.int .i64 0]) w:=by kernel_rfl
theorem zrr (n:Nat):madeCells (Value.int .i64 0).cells (n*1)=(zkf (List.replicate n 0)).toArray:=by
 apply Array.ext';apply List.ext_getElem
 ·rw[Array.length_toList,size_madeCells];simp[zkf]
 ·intro i h1 h2;have e:i % 1=0:=by omega
  simp[madeCells,zkf,Value.cells,e]
theorem bMkI (n:Nat) (hn:n<=4096) (w:World):(Instr.makeSlice 24 (.int .i64 (n:Int)) (.int .i64 (n:Int))).run Tryz.prog w=.ok (.slice (some ⟨w.heap.size,0,none⟩) n n) (w.alloc (.cells (zkf (List.replicate n 0)).toArray 3)):=by
 have h:=zmX;obtain⟨i,hi,hz⟩:=Option.map_eq_some_iff.1 h;injection hz with h1 h2;injection h2 with h2 h3;have hsc:(4096:Nat)<=9223372036854775807:=by decide
 have:=zon (P:=Tryz.prog) 24 3 i (.int .i64 0) Tryz.underlying24 hi h1 .i64 .i64 n n (Nat.le_refl _) (by rw[h3];omega) (Nat.le_trans hn hsc) w;rw[h2,zrr] at this;exact this
theorem bRun (A1 A2 A3 E:Option Addr) (l1 c1 l2 c2 l3 c3 m d:Nat) (k n F:Int) (s:ByteArray) (sb:Nat) (w:World):(Instr.build 174 #[(0,pv A1 l1 c1 A2 l2 c2 k n s A3 l3 c3),(1,.pointer (some ⟨sb,0,none⟩)),(3,.int .i64 F),(4,.slice E m d)]).run Tryz.prog w =
  .ok (.agg #[.slice A1 l1 c1,.slice A2 l2 c2,.int .u8 k,.int .i64 n,.string s,.slice A3 l3 c3,.pointer (some ⟨sb,0,none⟩),.int .i64 0,.int .i64 F,.slice E m d]) w:=by kernel_rfl
theorem zrU {W:World} {a b:Nat} {x y:Array Value} {E F:TypeId} (ha:W.heap[a]?=some (.cells x E (0,0))) (hb:W.heap[b]?=some (.cells y F (0,0))) (hne:E≠F):a≠b:=by
 rintro rfl;rw[ha] at hb;injection hb with hb;injection hb with h1 h2;exact hne h2
theorem zo8 {W w4 w8 aS:World} {n0:Nat} {kb:Nat->Prop} (h4:Below W.heap.size W w4) (h11:Below W.heap.size W aS) (h48:Below w4.heap.size w4 w8) (hk:Kpt n0 kb w8 aS) (hn:w4.heap.size<=n0):Below w4.heap.size w4 aS :=
 ⟨h11.os.trans h4.os.symm,h11.tape.trans h4.tape.symm,h11.output.trans h4.output.symm,Nat.le_trans h48.size hk.size,fun b hb=>(hk.kept b (Nat.lt_of_lt_of_le hb h48.size) (.inl (Nat.lt_of_lt_of_le hb hn))).trans (h48.block b hb)⟩
theorem zsW:IsFn Tryz.prog 117 Tryz.f117:=⟨Tryz.func117,by kernel_rfl,by kernel_rfl⟩
theorem zp0:IsFn Tryz.prog 22 Tryz.f22:=⟨Tryz.func22,by kernel_rfl,by kernel_rfl⟩
def OkR (C:RC) (lo hi:Nat) (o:Out) (w9 w':World):Prop:=∃ r,o=.ok r/\(C.plus lo hi).Ok/\RI (C.plus lo hi) w' r/\Kpt C.n0 C.kb w9 w'
def ErX (C:RC) (o:Out) (w9:World) (x:Int) (w':World):Prop:=o=.err x/\Kpt C.n0 C.kb w9 w'/\Below C.w.heap.size C.w w'
theorem zpC {G:List PR->T->Prop} (hS:∀ g,IStC G g) {C:RC} {w8 w9:World} {r:RS} {jb:Nat} (hC8:C.Ok) (h8:RI C w8 r) (aZ:w8.alloc (.cells #[.slice none 0 0,.bool false] 179)=w9) (hjb:w8.heap.size=jb) (hG:∀ u∈C.p.m.ks,G C.p.prs u) (g:Nat) (back:Bool) (o:Out) (ho:runO C.p.prs C.F g back C.p.m r=o) (hg:o ≠ .gas) (pb qb bb:Nat)
  (h0:w8.cell? ⟨pb,0,none⟩=some (.pointer (some ⟨C.rb,0,none⟩))) (hq:w8.heap[qb]?=some (.cells #[.slice C.A1 C.p.vs.length C.c1,.slice C.A2 C.p.prs.length C.c2,.int .u8 C.p.m.k,.int .i64 C.p.m.n,.string C.p.m.s,.slice C.A3 C.p.m.ks.length C.c3] 35 (0,0))) (hb:w8.cell? ⟨bb,0,none⟩=some (.bool back)) :
  Calls Tryz.prog 116 #[.pointer (some ⟨jb,0,none⟩),.func (.func 117) #[] #[.pointer (some ⟨pb,0,none⟩),.pointer (some ⟨qb,0,none⟩),.pointer (some ⟨bb,0,none⟩)]] w9 (AttP w9 (OkR (C.plus jb w9.heap.size) w9.heap.size (w9.heap.size+3) o w9) (ErX (C.plus jb w9.heap.size) o w9)):=by
 have hbj:=zkd (Below.refl w8.heap.size w8) (.cells #[.slice none 0 0,.bool false] 179);have kj:=heap_alloc_new w8 (.cells #[.slice none 0 0,.bool false] 179);obtain⟨hC9,h9⟩:=h8.plus hC8 hbj;rw[aZ,hjb] at kj hC9 h9;rw[aZ] at hbj;have hjl:=zko kj;refine zpJ jb _ _ zsW _ w9 kj _ _ fun W1 hb1 hz1=>?_;obtain⟨dm,h1⟩:=h9.plus hC9 hb1;have hbt:=zka hbj hb1;have hrun:=zqm hS dm h1 hG g back (show runO C.p.prs C.F g back C.p.m r ≠ .gas by rw[ho];exact hg) pb qb bb (zb hbt h0) (zkc hq hbt) (zb hbt hb);refine hrun.mono ?_;rintro e w' ⟨hk,hbl,hout⟩;rw[show runO ((C.plus jb w9.heap.size).plus w9.heap.size W1.heap.size).p.prs ((C.plus jb w9.heap.size).plus w9.heap.size W1.heap.size).F g back ((C.plus jb w9.heap.size).plus w9.heap.size W1.heap.size).p.m r=o from ho] at hout;refine⟨fun b hb hlt=>hk.kept b hlt (.inr ?_),?_⟩
 ·rcases hb with hb|rfl
  ·exact .inr ⟨hb,hlt⟩
  ·exact .inl (.inr ⟨Nat.le_refl _,hjl⟩)
 ·have hkk:Kpt C.n0 (C.plus jb w9.heap.size).kb w9 w':=(Kpt.of_below hb1).trans (Kpt.less (C:=C.plus jb w9.heap.size) hk)
  cases o with
  | gas=>exact absurd rfl hg
  | err x=>exact .inr ⟨x,hout,rfl,hkk,hbl⟩
  | ok r1 =>
   rw[hz1] at dm hout;exact .inl ⟨hout.1,r1,rfl,dm,hout.2,hkk⟩
theorem zq6 (p:PG) (s:SS) (F:Int) (g:Nat) (back:Bool) (v sv:Value) (W:World) (hp:PV W Any p v) (hs:SV W Any s sv) (hcl:s.cells.length<=5864062014800) (hF:I64 F) (hF6:F<=1000000) (hg:F.toNat*2000+2000<=g) (hfam:Fam p) :
  Calls Tryz.prog 66 #[v,sv,.int .i64 F,.bool back] W (ResP W (resO p s F g back)):=by
 have HFAM:=zh hfam;clear hfam;have HP:=zh hp;have HS:=zh hs;obtain⟨A1,c1,A2,c2,A3,c3,rfl,kU⟩:=hp;obtain⟨A,c,B,d,D,e,rfl,hr1,hr2,hr3,hc1,hc2,hc3,hl1,hl2,hl3,hl4⟩:=hs;have qI:=zh kU;have jY:=zh (show s.Lim from ⟨hl1,hl2,hl3,hl4⟩);have HV:=zh (fun w' (hb:Below W.heap.size W w')=>zpb p Any _ w' (HP.out.later hb));have bf:=zh (fun w' (hb:Below W.heap.size W w')=>zqQ p Any _ w' (HP.out.later hb));have aQ:=zh (fun w' (hb:Below W.heap.size W w')=>znj s _ w' (HS.out.later hb) hcl);have iM:=zh (fun w' (hb:Below W.heap.size W w')=>zr2 p.vs s A1 c1 _ w' (kU.vars.later hb) kU.lv (HS.out.later hb));obtain⟨Re,hRe⟩:∃ R,resO p s F g back=R:=⟨_,rfl⟩
 have bO:=zh hRe;rw[hRe];have hb4:=zkd (zkd (zkd (zkd (Below.refl W.heap.size W) (.cells #[.slice A1 p.vs.length c1,.slice A2 p.prs.length c2,.int .u8 p.m.k,.int .i64 p.m.n,.string p.m.s,.slice A3 p.m.ks.length c3] 35)) (.cells #[.slice A s.cells.length c,.slice B s.tin.length d,.slice D s.tout.length e] 26)) (.cells #[.bool back] 4)) (.cells #[.slice none 0 0,.slice none 0 0,.slice none 0 0,.int .i64 0,.int .i64 0] 50);have k0:=zkr (zkr (zkr (heap_alloc_new W (.cells #[.slice A1 p.vs.length c1,.slice A2 p.prs.length c2,.int .u8 p.m.k,.int .i64 p.m.n,.string p.m.s,.slice A3 p.m.ks.length c3] 35)) (.cells #[.slice A s.cells.length c,.slice B s.tin.length d,.slice D s.tout.length e] 26)) (.cells #[.bool back] 4)) (.cells #[.slice none 0 0,.slice none 0 0,.slice none 0 0,.int .i64 0,.int .i64 0] 50)
 have k1:=zkr (zkr (heap_alloc_new (W.alloc (.cells #[.slice A1 p.vs.length c1,.slice A2 p.prs.length c2,.int .u8 p.m.k,.int .i64 p.m.n,.string p.m.s,.slice A3 p.m.ks.length c3] 35)) (.cells #[.slice A s.cells.length c,.slice B s.tin.length d,.slice D s.tout.length e] 26)) (.cells #[.bool back] 4)) (.cells #[.slice none 0 0,.slice none 0 0,.slice none 0 0,.int .i64 0,.int .i64 0] 50);have k2:=zkr (heap_alloc_new ((W.alloc (.cells #[.slice A1 p.vs.length c1,.slice A2 p.prs.length c2,.int .u8 p.m.k,.int .i64 p.m.n,.string p.m.s,.slice A3 p.m.ks.length c3] 35)).alloc (.cells #[.slice A s.cells.length c,.slice B s.tin.length d,.slice D s.tout.length e] 26)) (.cells #[.bool back] 4)) (.cells #[.slice none 0 0,.slice none 0 0,.slice none 0 0,.int .i64 0,.int .i64 0] 50)
 have k3:=heap_alloc_new (((W.alloc (.cells #[.slice A1 p.vs.length c1,.slice A2 p.prs.length c2,.int .u8 p.m.k,.int .i64 p.m.n,.string p.m.s,.slice A3 p.m.ks.length c3] 35)).alloc (.cells #[.slice A s.cells.length c,.slice B s.tin.length d,.slice D s.tout.length e] 26)).alloc (.cells #[.bool back] 4)) (.cells #[.slice none 0 0,.slice none 0 0,.slice none 0 0,.int .i64 0,.int .i64 0] 50);simp only[World.size_alloc] at k1 k2 k3;have sO:((((W.alloc (.cells #[.slice A1 p.vs.length c1,.slice A2 p.prs.length c2,.int .u8 p.m.k,.int .i64 p.m.n,.string p.m.s,.slice A3 p.m.ks.length c3] 35)).alloc (.cells #[.slice A s.cells.length c,.slice B s.tin.length d,.slice D s.tout.length e] 26)).alloc (.cells #[.bool back] 4)).alloc (.cells #[.slice none 0 0,.slice none 0 0,.slice none 0 0,.int .i64 0,.int .i64 0] 50)).heap.size=W.heap.size+4:=by simp
 obtain⟨w4,hw4⟩:∃ x,((((W.alloc (.cells #[.slice A1 p.vs.length c1,.slice A2 p.prs.length c2,.int .u8 p.m.k,.int .i64 p.m.n,.string p.m.s,.slice A3 p.m.ks.length c3] 35)).alloc (.cells #[.slice A s.cells.length c,.slice B s.tin.length d,.slice D s.tout.length e] 26)).alloc (.cells #[.bool back] 4)).alloc (.cells #[.slice none 0 0,.slice none 0 0,.slice none 0 0,.int .i64 0,.int .i64 0] 50))=x:=⟨_,rfl⟩
 rw[hw4] at hb4 k0 k1 k2 k3 sO;have az:=zh hb4;have bP:=zh k0;have aN:=zh k1;have bG:=zh k2;have jh:=zh k3;have rH:=zh sO;have p0:w4.cell? ⟨W.heap.size,0,none⟩=some (.slice A1 p.vs.length c1):=zc k0 rfl;have p1:w4.cell? ⟨W.heap.size,1,none⟩=some (.slice A2 p.prs.length c2):=zc k0 rfl;have p2:w4.cell? ⟨W.heap.size,2,none⟩=some (.int .u8 p.m.k):=zc k0 rfl;have p3:w4.cell? ⟨W.heap.size,3,none⟩=some (.int .i64 p.m.n):=zc k0 rfl;have p4:w4.cell? ⟨W.heap.size,4,none⟩=some (.string p.m.s):=zc k0 rfl;have p5:w4.cell? ⟨W.heap.size,5,none⟩=some (.slice A3 p.m.ks.length c3):=zc k0 rfl;obtain⟨vb,hvb⟩:∃ b,zkX p=b:=⟨_,rfl⟩
 have eG:=zh hvb;rw[hvb] at HV bf;clear kU hr1 hr2 hr3 hRe hvb hb4 k0 k1 k2 k3 sO hl1 hl2 hl3 hl4 hc1 hc2 hc3;go_enter Tryz.func66,Tryz.ntmps66;go_wp2_with fail;refine(HV.out w4 az.out).mono ?_;rintro e5 w5 ⟨rfl,b5⟩;clear hw4
 cases vb
 ·have HX:=zh (show Re=(s,0,3,[]) by rw[<-bO.out,resO,if_pos (.inl eG.out)]);clear p0 p1 p2 p3 p4 p5;have bZ:=zkc aN.out b5;have jM:=zkc jh.out b5;have s0:w5.cell? ⟨W.heap.size+1,0,none⟩=some (.slice A s.cells.length c):=zc bZ rfl;have s1:w5.cell? ⟨W.heap.size+1,1,none⟩=some (.slice B s.tin.length d):=zc bZ rfl;have s2:w5.cell? ⟨W.heap.size+1,2,none⟩=some (.slice D s.tout.length e):=zc bZ rfl;have bD:=zh (aQ.out w5 (zka az.out b5));have oO:=zh jM;have hbq:=b5;clear bZ jM;go_wp2_with fail;refine bD.out.mono ?_;rintro e9 w9 ⟨v9,rfl,dz,bI⟩;obtain⟨A9,c9,B9,d9,D9,e9,rfl⟩:=dz.slices;have lV:=zh dz;have bu:=zh (zka hbq bI);have aD:=zkc oO.out bI;have x0:w9.cell? ⟨W.heap.size+3,0,none⟩=some (.slice none 0 0):=zc aD rfl;have x1:w9.cell? ⟨W.heap.size+3,1,none⟩=some (.slice none 0 0):=zc aD rfl
  have x2:w9.cell? ⟨W.heap.size+3,2,none⟩=some (.slice none 0 0):=zc aD rfl;have x3:w9.cell? ⟨W.heap.size+3,3,none⟩=some (.int .i64 0):=zc aD rfl;have x4:w9.cell? ⟨W.heap.size+3,4,none⟩=some (.int .i64 0):=zc aD rfl;have xf:∀ o,w9.frozen? ⟨W.heap.size+3,o,none⟩=false:=fun _=>zf aD;have j4:=zh aD;have hbr:=bRes;have nG:W.heap.size+4<=w5.heap.size:=by have:=hbq.size;rw[rH.out] at this;exact this
  clear s0 s1 s2 aD dz bI hbq bD;go_wp2_with fail;obtain⟨hh,hch⟩:=set5 (u0:=.slice A9 s.cells.length c9) (u1:=.slice B9 s.tin.length d9) (u2:=.slice D9 s.tout.length e9) (u3:=.int .i64 0) (u4:=.int .i64 3) j4.out;obtain⟨aT,cZ⟩:∃ zz,(((((w9.setCell ⟨W.heap.size+3,0,none⟩ (.slice A9 s.cells.length c9)).setCell ⟨W.heap.size+3,1,none⟩ (.slice B9 s.tin.length d9)).setCell ⟨W.heap.size+3,2,none⟩ (.slice D9 s.tout.length e9)).setCell ⟨W.heap.size+3,3,none⟩ (.int .i64 0)).setCell ⟨W.heap.size+3,4,none⟩ (.int .i64 3))=zz:=⟨_,rfl⟩
  rw[cZ] at hh hch ⊢;have t0:aT.cell? ⟨W.heap.size+3,0,none⟩=some (.slice A9 s.cells.length c9):=zc hh rfl;have t1:aT.cell? ⟨W.heap.size+3,1,none⟩=some (.slice B9 s.tin.length d9):=zc hh rfl;have t2:aT.cell? ⟨W.heap.size+3,2,none⟩=some (.slice D9 s.tout.length e9):=zc hh rfl;have t3:aT.cell? ⟨W.heap.size+3,3,none⟩=some (.int .i64 0):=zc hh rfl;have t4:aT.cell? ⟨W.heap.size+3,4,none⟩=some (.int .i64 3):=zc hh rfl;refine bodyPost_ret (v:=.tuple #[.slice none 0 0,.agg #[.slice A9 s.cells.length c9,.slice B9 s.tin.length d9,.slice D9 s.tout.length e9,.int .i64 0,.int .i64 3]]) (by simp[results,Tryz.results66,go_sem,t0,t1,t2,t3,t4]) rfl ?_;rw[HX.out]
  exact⟨none,0,_,_,_,rfl,(lV.out.chg hch fun b hb=>by omega).lower (by omega),fun i hi=>absurd hi (by simp),Nat.le_refl _,(zka az.out bu.out).trans (hch.below (zka az.out bu.out).size fun b hb=>by omega),jY.out,fun h=>by first|(simp at h;done)|exact absurd h tL.out⟩
 ·have q0:=zb b5 p0;have q1:=zb b5 p1;have q2:=zb b5 p2;have q3:=zb b5 p3;have q4:=zb b5 p4;have q5:=zb b5 p5;have HC5:=zh (show Calls Tryz.prog 53 #[pv A1 p.vs.length c1 A2 p.prs.length c2 p.m.k p.m.n p.m.s A3 p.m.ks.length c3] w5 (fun e w'=>∃ A c,e=Ending.returned (.slice A (chkN p) c)/\Below w5.heap.size w5 w') from (bf.out w5 (zka az.out b5)).mono (fun e w' ⟨A,c,h1,h2⟩=>⟨A,c,by rw[h1,if_pos rfl],h2⟩));clear p0 p1 p2 p3 p4 p5 bf HV;go_wp2_with fail;refine HC5.out.mono ?_;rintro e6 w6 ⟨AA,cc,rfl,b6⟩;have jS:=zka b5 b6;clear q0 q1 q2 q3 q4 q5;by_cases hn:chkN p=0
  ·obtain⟨n,hnn⟩:∃ n,chkN p=n:=⟨_,rfl⟩
   rw[hnn];obtain rfl:n=0:=by omega
   have q8:¬ (0:Int)<((0:Nat):Int):=by omega
   have kK:=zkc bP.out jS;have bZ:=zkc aN.out jS;have p0:w6.cell? ⟨W.heap.size,0,none⟩=some (.slice A1 p.vs.length c1):=zc kK rfl;have s0:w6.cell? ⟨W.heap.size+1,0,none⟩=some (.slice A s.cells.length c):=zc bZ rfl;have s1:w6.cell? ⟨W.heap.size+1,1,none⟩=some (.slice B s.tin.length d):=zc bZ rfl;have s2:w6.cell? ⟨W.heap.size+1,2,none⟩=some (.slice D s.tout.length e):=zc bZ rfl;have gG:=zh hnn;clear kK bZ hn hnn;go_wp2_with fail;refine(iM.out w6 (zka az.out jS)).mono ?_;rintro e7 w7 ⟨b7,⟨hfit,rfl⟩|⟨hfit,P,rfl,mo⟩⟩
   ·have HX:=zh (show Re=(s,0,20,[]) by rw[<-bO.out,resO,if_neg (by rw[eG.out,gG.out];simp),if_pos hfit]);have mF:=zka jS b7;clear p0 s0 s1 s2 hfit;have bZ:=zkc aN.out mF;have jM:=zkc jh.out mF;have s0:w7.cell? ⟨W.heap.size+1,0,none⟩=some (.slice A s.cells.length c):=zc bZ rfl;have s1:w7.cell? ⟨W.heap.size+1,1,none⟩=some (.slice B s.tin.length d):=zc bZ rfl;have s2:w7.cell? ⟨W.heap.size+1,2,none⟩=some (.slice D s.tout.length e):=zc bZ rfl;have bD:=zh (aQ.out w7 (zka az.out mF));have oO:=zh jM;have hbq:=mF;clear bZ jM;go_wp2_with fail;refine bD.out.mono ?_;rintro e9 w9 ⟨v9,rfl,dz,bI⟩;obtain⟨A9,c9,B9,d9,D9,e9,rfl⟩:=dz.slices;have lV:=zh dz;have bu:=zh (zka hbq bI);have aD:=zkc oO.out bI;have x0:w9.cell? ⟨W.heap.size+3,0,none⟩=some (.slice none 0 0):=zc aD rfl;have x1:w9.cell? ⟨W.heap.size+3,1,none⟩=some (.slice none 0 0):=zc aD rfl
    have x2:w9.cell? ⟨W.heap.size+3,2,none⟩=some (.slice none 0 0):=zc aD rfl;have x3:w9.cell? ⟨W.heap.size+3,3,none⟩=some (.int .i64 0):=zc aD rfl;have x4:w9.cell? ⟨W.heap.size+3,4,none⟩=some (.int .i64 0):=zc aD rfl;have xf:∀ o,w9.frozen? ⟨W.heap.size+3,o,none⟩=false:=fun _=>zf aD;have j4:=zh aD;have hbr:=bRes;have nG:W.heap.size+4<=w7.heap.size:=by have:=hbq.size;rw[rH.out] at this;exact this
    clear s0 s1 s2 aD dz bI hbq bD;go_wp2_with fail;obtain⟨hh,hch⟩:=set5 (u0:=.slice A9 s.cells.length c9) (u1:=.slice B9 s.tin.length d9) (u2:=.slice D9 s.tout.length e9) (u3:=.int .i64 0) (u4:=.int .i64 20) j4.out;obtain⟨aT,cZ⟩:∃ zz,(((((w9.setCell ⟨W.heap.size+3,0,none⟩ (.slice A9 s.cells.length c9)).setCell ⟨W.heap.size+3,1,none⟩ (.slice B9 s.tin.length d9)).setCell ⟨W.heap.size+3,2,none⟩ (.slice D9 s.tout.length e9)).setCell ⟨W.heap.size+3,3,none⟩ (.int .i64 0)).setCell ⟨W.heap.size+3,4,none⟩ (.int .i64 20))=zz:=⟨_,rfl⟩
    rw[cZ] at hh hch ⊢;have t0:aT.cell? ⟨W.heap.size+3,0,none⟩=some (.slice A9 s.cells.length c9):=zc hh rfl;have t1:aT.cell? ⟨W.heap.size+3,1,none⟩=some (.slice B9 s.tin.length d9):=zc hh rfl;have t2:aT.cell? ⟨W.heap.size+3,2,none⟩=some (.slice D9 s.tout.length e9):=zc hh rfl;have t3:aT.cell? ⟨W.heap.size+3,3,none⟩=some (.int .i64 0):=zc hh rfl;have t4:aT.cell? ⟨W.heap.size+3,4,none⟩=some (.int .i64 20):=zc hh rfl;refine bodyPost_ret (v:=.tuple #[.slice none 0 0,.agg #[.slice A9 s.cells.length c9,.slice B9 s.tin.length d9,.slice D9 s.tout.length e9,.int .i64 0,.int .i64 20]]) (by simp[results,Tryz.results66,go_sem,t0,t1,t2,t3,t4]) rfl ?_;rw[HX.out]
    exact⟨none,0,_,_,_,rfl,(lV.out.chg hch fun b hb=>by omega).lower (by omega),fun i hi=>absurd hi (by simp),Nat.le_refl _,(zka az.out bu.out).trans (hch.below (zka az.out bu.out).size fun b hb=>by omega),jY.out,fun h=>by first|(simp at h;done)|exact absurd h tL.out⟩
   ·have mF:=zka jS b7;have ji:=zh hfit;have iq:=zh mo;clear p0 s0 s1 s2 hfit mo;have kK:=zkc bP.out mF;have p0:w7.cell? ⟨W.heap.size,0,none⟩=some (.slice A1 p.vs.length c1):=zc kK rfl;have p1:w7.cell? ⟨W.heap.size,1,none⟩=some (.slice A2 p.prs.length c2):=zc kK rfl;have p2:w7.cell? ⟨W.heap.size,2,none⟩=some (.int .u8 p.m.k):=zc kK rfl;have p3:w7.cell? ⟨W.heap.size,3,none⟩=some (.int .i64 p.m.n):=zc kK rfl;have p4:w7.cell? ⟨W.heap.size,4,none⟩=some (.string p.m.s):=zc kK rfl;have p5:w7.cell? ⟨W.heap.size,5,none⟩=some (.slice A3 p.m.ks.length c3):=zc kK rfl;obtain⟨hvl,hpl,sV,-,hpm⟩:=zlG eG.out;have hmk:=bMkI p.prs.length (by omega);obtain⟨np,nO⟩:∃ n,p.prs.length=n:=⟨_,rfl⟩
    rw[nO] at p1 hmk;have mX:=zh nO;obtain⟨HH,hHH⟩:∃ H:World->Prop,H=fun w':World=>w'.cell? ⟨W.heap.size,0,none⟩=some (.slice A1 p.vs.length c1)/\w'.cell? ⟨W.heap.size,1,none⟩=some (.slice A2 np c2)/\w'.cell? ⟨W.heap.size,2,none⟩=some (.int .u8 p.m.k)/\w'.cell? ⟨W.heap.size,3,none⟩=some (.int .i64 p.m.n)/\w'.cell? ⟨W.heap.size,4,none⟩=some (.string p.m.s)/\w'.cell? ⟨W.heap.size,5,none⟩=some (.slice A3 p.m.ks.length c3):=⟨_,rfl⟩
    have aB:=zh (show ∀ w',Below w7.heap.size w7 w'->HH w' by
     rw[hHH];exact fun w' hb=>⟨zb hb p0,zb hb p1,zb hb p2,zb hb p3,zb hb p4,zb hb p5⟩)
    rw[nO];go_upto_region 6 with fail;have hSS:HH w7.drew/\(fun _:World=>True) w7.drew:=⟨aB.out _ (Below.refl _ _).drew,trivial⟩
    refine wp_region_noPanic ?_;refine zke HH (fun _:World=>True) 10 (by kernel_rfl) ?_;subst hHH;refine zT 0 hSS ?_;(try simp only[zQ]);refine zT 1 hSS ?_;(try simp only[zQ]);refine zT 2 hSS ?_;(try simp only[zQ]);refine zT 3 hSS ?_;(try simp only[zQ]);refine zT 4 hSS ?_;(try simp only[zQ]);refine zT 5 hSS ?_;(try simp only[zQ]);clear p0 p1 p2 p3 p4 p5 kK nO;refine zm7 (fun A f l a wr=>∃ (l6 l7 l8 l9:Bool) (v43 v44 v45 v12:Value) (eb rb pb:Nat),f=(!l6).toNat+(!l7).toNat+(!l8).toNat+(!l9).toNat+1/\l = #[true,true,true,true,true,true,l6,l7,l8,l9,false] /\
     a=(((A.put (some 43) v43).put (some 44) v44).put (some 45) v45).put (some 12) v12/\Hid (Below w7.heap.size w7 wr) /\
     Hid ((l7=true->l6=true)/\(l8=true->l7=true)/\(l6=true->v43=.slice (some ⟨eb,0,none⟩) np np/\wr.heap[eb]?=some (.cells (zkf (List.replicate np 0)).toArray 3 (0,0))/\w7.heap.size<=eb) /\
      (l7=true->v44=.agg #[.slice A1 p.vs.length c1,.slice A2 np c2,.int .u8 p.m.k,.int .i64 p.m.n,.string p.m.s,.slice A3 p.m.ks.length c3,.pointer (some ⟨P.sb,0,none⟩),.int .i64 0,.int .i64 F,.slice (some ⟨eb,0,none⟩) np np]) /\
      (l8=true->v45=.pointer (some ⟨rb,0,none⟩)/\wr.heap[rb]?=some (.cells #[.slice A1 p.vs.length c1,.slice A2 np c2,.int .u8 p.m.k,.int .i64 p.m.n,.string p.m.s,.slice A3 p.m.ks.length c3,.pointer (some ⟨P.sb,0,none⟩),.int .i64 0,.int .i64 F,.slice (some ⟨eb,0,none⟩) np np] 174 (0,0))/\w7.heap.size<=rb) /\
      (l9=true->v12=.pointer (some ⟨pb,0,none⟩)/\wr.heap[pb]?=some (.cells #[.pointer none] 172 (0,0))/\w7.heap.size<=pb)) /\
     Hid ((l6=false->v43=undef)/\(l7=false->v44=undef)/\(l8=false->v45=undef)/\(l9=false->v12=undef))) (fun A f l a wr h=>?_) ?_ ⟨false,false,false,false,undef,undef,undef,undef,0,0,0,rfl,rfl,(by simp only[Act.put,zD,zE,zF]),zh (Below.refl _ _).drew,zh ⟨fun h=>(by cases h),fun h=>(by cases h),fun h=>(by cases h),fun h=>(by cases h),fun h=>(by cases h),fun h=>(by cases h)⟩,zh ⟨fun _=>rfl,fun _=>rfl,fun _=>rfl,fun _=>rfl⟩⟩
    ·obtain⟨_,_,_,_,_,_,_,_,_,_,_,_,_,_,hb,_⟩:=h;exact⟨aB.out _ hb.out,trivial⟩
    rintro A' hA f l a wr ⟨l6,l7,l8,l9,v43,v44,v45,v12,eb,rb,pb,hf,rfl,ha,ae,HC,HU⟩;by_cases hall:(l6&&l7&&l8&&l9)=true
    ·left
     simp only[Bool.and_eq_true] at hall;obtain⟨⟨⟨rfl,rfl⟩,rfl⟩,rfl⟩:=hall;obtain⟨-,-,h6,h7,h8,h9⟩:=HC.out;obtain⟨rfl,he,hel⟩:=h6 rfl;obtain rfl:=h7 rfl;obtain⟨rfl,hr,hrl⟩:=h8 rfl;obtain⟨rfl,hq,mq⟩:=h9 rfl;subst hf ha hA;have hner:eb≠rb:=zrU he hr (by decide);have hneq:eb≠pb:=zrU he hq (by decide);have hnrq:rb≠pb:=zrU hr hq (by decide);have c0:wr.cell? ⟨pb,0,none⟩=some (.pointer none):=zc hq rfl;have cf:∀ j,wr.frozen? ⟨pb,j,none⟩=false:=fun j=>zf hq;refine zp 10 fun K hK=>?_;(try simp only[zQ]);go_simp;have hch:Chg (fun b=>b=pb) wr (wr.setCell ⟨pb,0,none⟩ (.pointer (some ⟨rb,0,none⟩))):=(Chg.refl (fun b=>b=pb) wr).setCell (p:=⟨pb,0,none⟩) (.inl rfl) _;have hh:(wr.setCell ⟨pb,0,none⟩ (.pointer (some ⟨rb,0,none⟩))).heap[pb]?=some (.cells #[.pointer (some ⟨rb,0,none⟩)] 172 (0,0)):=by
      rw[heap_setCell_same wr pb 0 _ _ (.pointer (some ⟨rb,0,none⟩)) hq];rfl
     have bR:=zh (show Below w7.heap.size w7 (wr.setCell ⟨pb,0,none⟩ (.pointer (some ⟨rb,0,none⟩))) from ae.out.trans (hch.below ae.out.size fun b e=>by omega));have wB:=zh (hch.keep he hneq);have mM:=zh (hch.keep hr hnrq);have tT:=zh hh;obtain⟨w8,hw8⟩:∃ x,wr.setCell ⟨pb,0,none⟩ (.pointer (some ⟨rb,0,none⟩))=x:=⟨_,rfl⟩
     rw[hw8] at bR wB mM tT ⊢;refine hK.out _ _ (aB.out _ bR.out) ?_;clear hK K hSS hch hh hw8 c0 cf he hr hq h6 h7 h8 h9 HC HU ae hmk aB;refine zd ?_;refine NoPanic.normal ?_;(try simp only[zQ]);have hlt_e:=zko wB.out;have hlt_r:=zko mM.out;have hlt_q:=zko tT.out;obtain⟨C,hC⟩:∃ C:RC,C=⟨W,w6.heap.size,P.sb,rb,p,A1,c1,A2,c2,A3,c3,F,.slice (some ⟨eb,0,none⟩) np np,fun b=>b=pb⟩:=⟨_,rfl⟩
     have hs67:=b7.size;have hs46:=jS.size;have sO:=rH.out;have hbWw6:=zka az.out jS;have jk:=zh (show C.Ok by
      rw[hC];exact⟨qI.out,hF,hF6,⟨by simp only;omega,by simp only;exact hnrq⟩,⟨by simp[Value.ownBlock];exact hner,fun b hb hk=>by simp only[Value.ownBlock,Option.some.injEq] at hb;simp only at hk;omega⟩,fun q hq=>by have:=(sV q hq).1;omega⟩)
     have eH:=zh (show RI C w8 ⟨newS p.vs s,0,List.replicate np 0⟩ by
      rw[hC];have hks:=(KS.new hbWw6 b7 iq.out).also bR.out (kb':=fun b=>b=pb\/b=rb\/(Value.slice (some ⟨eb,0,none⟩) np np).ownBlock=some b) (fun b hb=>.inr (by
       rcases hb with rfl|rfl|hb
       ·exact⟨mq,hlt_q⟩
       ·exact⟨hrl,hlt_r⟩
       ·simp[Value.ownBlock] at hb;subst hb;exact⟨hel,hlt_e⟩))
      refine⟨hks,by rw[<-mX.out] at mM;simpa[RC.cells,mX.out] using mM.out,?_,by simp[mX.out],fun c hc=>by simp at hc;omega,by simp,?_⟩
      ·refine⟨by simp[zkf],.inr ⟨eb,np,_,by simp,Nat.le_trans hs67 hel,wB.out,by simp,by unfold maxLen;have:=mX.out;omega,by simp[zkf],by simp[zkf]⟩⟩
      ·exact⟨by simp only[newS];omega,fun f hf=>by simp[newS] at hf⟩)
     obtain⟨GX,tF,rE⟩:=HFAM.out;have HGP:=zh (rE eG.out gG.out);clear rE;obtain⟨o,ho⟩:∃ o,runO p.prs F g back p.m ⟨newS p.vs s,0,List.replicate np 0⟩=o:=⟨_,rfl⟩
     have hog:o ≠ .gas:=ho▸(zpN eG.out hg back (newS p.vs s) (List.replicate np 0)).1;have hon:Nz o:=ho▸HGP.out.2 _ _ _ _;have HRR:=zh (show Re=outR s o by rw[<-bO.out,resO,if_neg (by rw[eG.out,gG.out];simp),if_neg (by rw[ji.out];simp),<-ho,<-mX.out]);have gW:=zka mF bR.out;obtain⟨jb,hjb⟩:∃ x,w8.heap.size=x:=⟨_,rfl⟩
     obtain⟨w9,aZ⟩:∃ x,w8.alloc (.cells #[.slice none 0 0,.bool false] 179)=x:=⟨_,rfl⟩
     have HAT:=zh (zpC tF jk.out eH.out aZ hjb (by rw[hC];exact HGP.out.1) g back o (by rw[hC];exact ho) hog pb W.heap.size (W.heap.size+1+1) (by rw[hC];exact zc tT.out rfl) (by rw[hC];simp only;rw[mX.out];have:=zkc bP.out gW;rw[mX.out] at this;exact this) (zc (zkc bG.out gW) rfl));have sN:w9.heap.size=jb+1:=by rw[<-aZ];simp[hjb]
     have HK89:=zh (show Kpt C.n0 C.kb w8 w9 from Kpt.of_below (aZ▸zkd (Below.refl w8.heap.size w8) _));have uL:∀ (fn:Fn) (first cap:Array Value) (w:World),(Instr.makeFunc fn first cap).run Tryz.prog w=.ok (.func fn first cap) w:=fun _ _ _ _=>rfl;have HN0C:=zh (show C.n0=w6.heap.size/\C.w=W/\C.rb=rb/\C.ev=.slice (some ⟨eb,0,none⟩) np np/\(C.kb=fun b=>b=pb)/\C.sb=P.sb/\C.p=p by rw[hC];exact⟨rfl,rfl,rfl,rfl,rfl,rfl,rfl⟩);have HHB48:=zh gW;have gU:=az.out;have hb4s:W.heap.size<=w6.heap.size:=hbWw6.size;clear hC gW ho hlt_e hlt_r;go_wp2_with fail;refine HAT.out.mono ?_;rintro e10 aS hat;clear HAT aZ uL;rcases hat with⟨rfl,aT,⟨r,rfl,hok,aL,hkp⟩,hch⟩|⟨x,rfl,aT,⟨rfl,hkp,hbl⟩,hch⟩
     ·obtain⟨hn0,hcw,ll,jF,iG,lh,hcp⟩:=HN0C.out;have hri1:=RI.chgK (C:=C.plus jb w9.heap.size) hok aL hch (by show C.w.heap.size<=_;rw[hcw];have:=bR.out.size;omega);have dG:RI C aS r:=hri1.less.less;have hkk:Kpt C.n0 C.kb w8 aS:=HK89.out.trans ((Kpt.less (C:=C) hkp).trans (Kpt.chg hch fun b hb=>⟨by rw[hn0];omega,by rw[iG];intro e;subst e;omega⟩));have bT:=zo8 gU (by have:=dG.below;rw[hcw] at this;exact this) HHB48.out hkk (by rw[hn0];exact hs46);have dZ:=zh dG;have HX:=zh (show Re=(r.S.state,r.n,0,r.ent) from HRR.out);obtain⟨-,x7,-,x9,-⟩:=dG.cells;rw[ll] at x7 x9;rw[jF] at x9;have xp:aS.cell? ⟨pb,0,none⟩=some (.pointer (some ⟨rb,0,none⟩)):=zc (hkk.blk (.inr (by rw[iG])) tT.out) rfl;have r9:=zh (zkc jh.out bT);have kD:=zh bT;have hls:=dG.ks;have HST:=zh (fun w' (hb:Below aS.heap.size aS w')=>(hls.later hb).state)
      rw[lh] at HST;have HNL:=zh (show r.ent.length=np by rw[dG.el,hcp,mX.out]);have HEN:=zh dG.ent;rw[hn0,jF] at HEN;have hne0:(0:Int)=0:=rfl;have aB:=zh (show ∀ w',Below aS.heap.size aS w'->(fun w':World=>w'.cell? ⟨pb,0,none⟩=some (.pointer (some ⟨rb,0,none⟩))/\w'.cell? ⟨rb,7,none⟩=some (.int .i64 r.n)/\w'.cell? ⟨rb,9,none⟩=some (.slice (some ⟨eb,0,none⟩) np np)) w' from fun w' hb=>⟨zb hb xp,zb hb x7,zb hb x9⟩);clear aL hri1 dG hkk hkp hls hn0 hcw ll jF iG lh hch x7 x9 xp bT hok;go_upto_region 10 with fail;have hSS:(fun w':World=>w'.cell? ⟨pb,0,none⟩=some (.pointer (some ⟨rb,0,none⟩))/\w'.cell? ⟨rb,7,none⟩=some (.int .i64 r.n)/\w'.cell? ⟨rb,9,none⟩=some (.slice (some ⟨eb,0,none⟩) np np)) aS.drew/\(fun _:World=>True) aS.drew:=⟨aB.out _ (Below.refl _ _).drew,trivial⟩
      refine wp_region_noPanic ?_;refine zke (fun w':World=>w'.cell? ⟨pb,0,none⟩=some (.pointer (some ⟨rb,0,none⟩))/\w'.cell? ⟨rb,7,none⟩=some (.int .i64 r.n)/\w'.cell? ⟨rb,9,none⟩=some (.slice (some ⟨eb,0,none⟩) np np)) (fun _:World=>True) 12 (by kernel_rfl) ?_;refine zT 0 hSS ?_;(try simp only[zQ]);refine zT 1 hSS ?_;(try simp only[zQ]);refine zT 2 hSS ?_;(try simp only[zQ]);refine zT 3 hSS ?_;(try simp only[zQ]);refine zT 4 hSS ?_;(try simp only[zQ]);refine zT 6 hSS ?_;(try simp only[zQ]);refine zT 7 hSS ?_;(try simp only[zQ]);refine zT 8 hSS ?_;(try simp only[zQ]);refine zT 9 hSS ?_;(try simp only[zQ]);have had:Calls Tryz.prog 22 [.pointer (some ⟨P.sb,0,none⟩)].toArray aS.drew fun e W'=>∃ v,e=.returned v/\(OwnS W' aS.heap.size r.S.state v/\Below aS.heap.size aS W') :=
       (HST.out _ (Below.refl _ _).drew).mono fun e w' ⟨v,h1,h2,h3⟩=>⟨v,h1,h2,zka (Below.refl aS.heap.size aS).drew h3⟩
      refine zo 5 fun K hK=>?_;refine zkg (by rfl) (.func 22) [.tmp 59] _ (by rfl) 22 _ zp0 (by rfl) _ (by rfl) _ had ?_;rintro v12 fJ ⟨nN,bC⟩;obtain⟨A9,c9,B9,d9,D9,e9,rfl⟩:=nN.slices;have HO12:=zh nN;have bE:=zh bC;refine hK.out _ _ ⟨aB.out _ bC,trivial⟩ ?_;have aA:(fun w':World=>w'.cell? ⟨pb,0,none⟩=some (.pointer (some ⟨rb,0,none⟩))/\w'.cell? ⟨rb,7,none⟩=some (.int .i64 r.n)/\w'.cell? ⟨rb,9,none⟩=some (.slice (some ⟨eb,0,none⟩) np np)) fJ/\(fun _:World=>True) fJ:=⟨aB.out _ bC,trivial⟩
      clear hK K hSS had nN bC;(try simp only[zQ]);have hbr:=zvB;refine zT 10 aA ?_;(try simp only[zQ]);refine zo 11 fun K hK=>?_;(try simp only[zA,zB,zC]);go_simp;refine hK.out _ _ ⟨aB.out _ bE.out,trivial⟩ ?_;clear hK K;(try simp only[zQ]);have aD:=zkc r9.out bE.out;have x0:fJ.cell? ⟨W.heap.size+3,0,none⟩=some (.slice none 0 0):=zc aD rfl;have x1:fJ.cell? ⟨W.heap.size+3,1,none⟩=some (.slice none 0 0):=zc aD rfl;have x2:fJ.cell? ⟨W.heap.size+3,2,none⟩=some (.slice none 0 0):=zc aD rfl;have x3:fJ.cell? ⟨W.heap.size+3,3,none⟩=some (.int .i64 0):=zc aD rfl;have x4:fJ.cell? ⟨W.heap.size+3,4,none⟩=some (.int .i64 0):=zc aD rfl;have xf:∀ o,fJ.frozen? ⟨W.heap.size+3,o,none⟩=false:=fun _=>zf aD;refine zp 12 fun K hK=>?_;(try simp only[zQ]);go_simp
      obtain⟨hh,hch⟩:=set5 (u0:=.slice A9 r.S.state.cells.length c9) (u1:=.slice B9 r.S.state.tin.length d9) (u2:=.slice D9 r.S.state.tout.length e9) (u3:=.int .i64 r.n) (u4:=.int .i64 0) aD;obtain⟨iV,hw13⟩:∃ zz,(((((fJ.setCell ⟨W.heap.size+3,0,none⟩ (.slice A9 r.S.state.cells.length c9)).setCell ⟨W.heap.size+3,1,none⟩ (.slice B9 r.S.state.tin.length d9)).setCell ⟨W.heap.size+3,2,none⟩ (.slice D9 r.S.state.tout.length e9)).setCell ⟨W.heap.size+3,3,none⟩ (.int .i64 r.n)).setCell ⟨W.heap.size+3,4,none⟩ (.int .i64 0))=zz:=⟨_,rfl⟩
      rw[hw13] at hh hch ⊢;have aJ:=zh hch;have t0:iV.cell? ⟨W.heap.size+3,0,none⟩=some (.slice A9 r.S.state.cells.length c9):=zc hh rfl;have t1:iV.cell? ⟨W.heap.size+3,1,none⟩=some (.slice B9 r.S.state.tin.length d9):=zc hh rfl;have t2:iV.cell? ⟨W.heap.size+3,2,none⟩=some (.slice D9 r.S.state.tout.length e9):=zc hh rfl;have t3:iV.cell? ⟨W.heap.size+3,3,none⟩=some (.int .i64 r.n):=zc hh rfl;have t4:iV.cell? ⟨W.heap.size+3,4,none⟩=some (.int .i64 0):=zc hh rfl;have hszs:W.heap.size+4<=aS.heap.size:=by have:=kD.out.size;omega
      have hplt:W.heap.size+3<w7.heap.size:=by have:=mF.size;omega
      refine hK.out _ _ ?_ ?_
      ·obtain⟨q1,q2,q3⟩:=aB.out _ bE.out;exact⟨zld hch q1 (by simp only;omega),zld hch q2 (by simp only;omega),zld hch q3 (by simp only;omega)⟩
      clear hK K hch hh hw13 x0 x1 x2 x3 x4 xf aD aA aB;(try simp only[zQ]);refine zd ?_;refine NoPanic.normal ?_;go_wp2_with fail;have hrow:=zkt HEN.out bE.out;have hrow2:=zoq hrow (fun b hb=>aJ.out.block b (hrow.lt b hb).2 (by have:=(hrow.lt b hb).1;omega));have hI:∀ z∈r.ent.map Int.ofNat,I64 z:=fun z hz=>by
       obtain⟨q,hq,rfl⟩:=List.mem_map.1 hz;have h1:=dZ.out.en q hq;have h2:=dZ.out.n;exact⟨by simp only[Int.ofNat_eq_natCast];omega,by simp only[Int.ofNat_eq_natCast];omega⟩
      obtain⟨Ae,ce,he1,he2,he3⟩:=zn0 (l:=r.ent.map Int.ofNat) (by simpa using hrow2) hI;injection he1 with he1 _ rA;subst he1 rA;refine bodyPost_ret (v:=.tuple #[.slice (some ⟨eb,0,none⟩) np np,.agg #[.slice A9 r.S.state.cells.length c9,.slice B9 r.S.state.tin.length d9,.slice D9 r.S.state.tout.length e9,.int .i64 r.n,.int .i64 0]]) (by simp[results,Tryz.results66,go_sem,t0,t1,t2,t3,t4]) rfl ?_;rw[HX.out];refine⟨_,_,_,_,_,by rw[HNL.out],(HO12.out.chg aJ.out fun b hb=>by omega).lower (by omega),he3.keep (fun b hb _=>by have:=hb4s;omega) (fun _ _ _=>rfl),by simpa using he2,?_⟩;exact⟨(zka gU (zka kD.out bE.out)).trans (aJ.out.below (zka gU (zka kD.out bE.out)).size fun b hb=>by omega),LimR.run dZ.out.ks.wf dZ.out.fb _⟩
     ·have hx:x≠0:=fun e=>hon (by rw[e]);obtain⟨hn0,hcw,ll,jF,iG,lh,-⟩:=HN0C.out;have hkk:Kpt C.n0 C.kb w8 aS:=HK89.out.trans ((Kpt.less (C:=C) hkp).trans (Kpt.chg hch fun b hb=>⟨by rw[hn0];omega,by rw[iG];intro e;subst e;omega⟩));have lu:Below C.w.heap.size C.w aT:=hbl;rw[hcw] at lu;have hs8:=bR.out.size;have lC:Below W.heap.size W aS:=lu.trans (hch.below lu.size fun b hb=>by omega);have bT:=zo8 gU lC HHB48.out hkk (by rw[hn0];exact hs46);have HX:=zh (show Re=(s,0,x,[]) from HRR.out);have e1:(x != 0)=true:=by simpa using hx
      have tL:=zh hx;clear hn0 hcw ll jF iG lh hkk lC hkp hbl lu hch hon;have bZ:=zkc aN.out bT;have jM:=zkc jh.out bT;have s0:aS.cell? ⟨W.heap.size+1,0,none⟩=some (.slice A s.cells.length c):=zc bZ rfl;have s1:aS.cell? ⟨W.heap.size+1,1,none⟩=some (.slice B s.tin.length d):=zc bZ rfl;have s2:aS.cell? ⟨W.heap.size+1,2,none⟩=some (.slice D s.tout.length e):=zc bZ rfl;have bD:=zh (aQ.out aS (zka az.out bT));have oO:=zh jM;have hbq:=bT;clear bZ jM;go_wp2_with fail;refine bD.out.mono ?_;rintro e9 w9 ⟨v9,rfl,dz,bI⟩;obtain⟨A9,c9,B9,d9,D9,e9,rfl⟩:=dz.slices;have lV:=zh dz;have bu:=zh (zka hbq bI);have aD:=zkc oO.out bI;have x0:w9.cell? ⟨W.heap.size+3,0,none⟩=some (.slice none 0 0):=zc aD rfl;have x1:w9.cell? ⟨W.heap.size+3,1,none⟩=some (.slice none 0 0):=zc aD rfl
      have x2:w9.cell? ⟨W.heap.size+3,2,none⟩=some (.slice none 0 0):=zc aD rfl;have x3:w9.cell? ⟨W.heap.size+3,3,none⟩=some (.int .i64 0):=zc aD rfl;have x4:w9.cell? ⟨W.heap.size+3,4,none⟩=some (.int .i64 0):=zc aD rfl;have xf:∀ o,w9.frozen? ⟨W.heap.size+3,o,none⟩=false:=fun _=>zf aD;have j4:=zh aD;have hbr:=bRes;have nG:W.heap.size+4<=aS.heap.size:=by have:=hbq.size;rw[rH.out] at this;exact this
      clear s0 s1 s2 aD dz bI hbq bD;go_wp2_with fail;obtain⟨hh,hch⟩:=set5 (u0:=.slice A9 s.cells.length c9) (u1:=.slice B9 s.tin.length d9) (u2:=.slice D9 s.tout.length e9) (u3:=.int .i64 0) (u4:=.int .i64 x) j4.out;obtain⟨aT,cZ⟩:∃ zz,(((((w9.setCell ⟨W.heap.size+3,0,none⟩ (.slice A9 s.cells.length c9)).setCell ⟨W.heap.size+3,1,none⟩ (.slice B9 s.tin.length d9)).setCell ⟨W.heap.size+3,2,none⟩ (.slice D9 s.tout.length e9)).setCell ⟨W.heap.size+3,3,none⟩ (.int .i64 0)).setCell ⟨W.heap.size+3,4,none⟩ (.int .i64 x))=zz:=⟨_,rfl⟩
      rw[cZ] at hh hch ⊢;have t0:aT.cell? ⟨W.heap.size+3,0,none⟩=some (.slice A9 s.cells.length c9):=zc hh rfl;have t1:aT.cell? ⟨W.heap.size+3,1,none⟩=some (.slice B9 s.tin.length d9):=zc hh rfl;have t2:aT.cell? ⟨W.heap.size+3,2,none⟩=some (.slice D9 s.tout.length e9):=zc hh rfl;have t3:aT.cell? ⟨W.heap.size+3,3,none⟩=some (.int .i64 0):=zc hh rfl;have t4:aT.cell? ⟨W.heap.size+3,4,none⟩=some (.int .i64 x):=zc hh rfl;refine bodyPost_ret (v:=.tuple #[.slice none 0 0,.agg #[.slice A9 s.cells.length c9,.slice B9 s.tin.length d9,.slice D9 s.tout.length e9,.int .i64 0,.int .i64 x]]) (by simp[results,Tryz.results66,go_sem,t0,t1,t2,t3,t4]) rfl ?_;rw[HX.out]
      exact⟨none,0,_,_,_,rfl,(lV.out.chg hch fun b hb=>by omega).lower (by omega),fun i hi=>absurd hi (by simp),Nat.le_refl _,(zka az.out bu.out).trans (hch.below (zka az.out bu.out).size fun b hb=>by omega),jY.out,fun h=>by first|(simp at h;done)|exact absurd h tL.out⟩
    ·right
     have au:=HC.out;have fE:=HU.out;have hcc:(l7=true->l6=true)/\(l8=true->l7=true):=⟨au.1,au.2.1⟩
     refine⟨f-1,?_,?_,?_⟩
     ·clear HC au HU fE ha ae hcc;subst hf;revert hall;revert l6 l7 l8 l9
      decide
     ·clear HC au HU fE ha ae hf;revert hall hcc;revert l6 l7 l8 l9
      decide +kernel
     intro i hi;have hcase:(i=6/\l6=false/\l7=false/\l8=false)\/(i=7/\l7=false/\l6=true/\l8=false)\/(i=8/\l8=false/\l6=true/\l7=true)\/(i=9/\l9=false):=by
      refine of_decide_eq_true ((List.all_eq_true (p:=fun i=>decide ((i=6/\l6=false/\l7=false/\l8=false)\/(i=7/\l7=false/\l6=true/\l8=false)\/(i=8/\l8=false/\l6=true/\l7=true)\/(i=9/\l9=false)))).1 ?_ i hi);clear HC au HU fE ha ae hf hi;revert hall hcc;revert l6 l7 l8 l9
      decide +kernel
     clear hi hall;subst ha hA;rcases hcase with⟨rfl,rfl,rfl,rfl⟩|⟨rfl,rfl,rfl,rfl⟩|⟨rfl,rfl,rfl,rfl⟩|⟨rfl,rfl⟩
     ·refine wpOp_step rfl (fun K' aG=>?_);have hK:=zh aG;clear aG;have hU1:=fE.1 rfl;have uU:=fE.2.1 rfl;have rD:=fE.2.2.1 rfl;subst hU1 uU rD;(try simp only[zQ]);go_simp;have hsz:=ae.out.size;exact hK.out _ _ ⟨true,false,false,l9,_,undef,undef,v12,wr.heap.size,0,pb,(by subst hf;simp<;>omega),rfl,(by simp only[zQ]),zh (zkd ae.out _),zh ⟨fun h=>(by cases h),fun h=>(by cases h),fun _=>⟨rfl,heap_alloc_new wr _,hsz⟩,fun h=>(by cases h),fun h=>(by cases h),fun h=>⟨(au.2.2.2.2.2 h).1,zkr (au.2.2.2.2.2 h).2.1 _,(au.2.2.2.2.2 h).2.2⟩⟩,zh ⟨fun h=>(by cases h),fun _=>rfl,fun _=>rfl,fE.2.2.2⟩⟩
     ·refine wpOp_step rfl (fun K' aG=>?_);have hK:=zh aG;clear aG;have uU:=fE.2.1 rfl;have rD:=fE.2.2.1 rfl;obtain⟨hv6,he,hel⟩:=au.2.2.1 rfl;subst uU rD hv6;have hbn:=bRun;(try simp only[zQ]);go_simp;exact hK.out _ _ ⟨true,true,false,l9,_,_,undef,v12,eb,0,pb,(by subst hf;simp<;>omega),rfl,(by simp only[zQ]),ae,zh ⟨fun _=>rfl,fun h=>(by cases h),fun _=>⟨rfl,he,hel⟩,fun _=>rfl,fun h=>(by cases h),au.2.2.2.2.2⟩,zh ⟨fun h=>(by cases h),fun h=>(by cases h),fun _=>rfl,fE.2.2.2⟩⟩
     ·refine wpOp_step rfl (fun K' aG=>?_);have hK:=zh aG;clear aG;have rD:=fE.2.2.1 rfl;obtain⟨hv6,he,hel⟩:=au.2.2.1 rfl;have hv7:=au.2.2.2.1 rfl;subst rD hv6 hv7;(try simp only[zQ]);go_simp;have hsz:=ae.out.size;exact hK.out _ _ ⟨true,true,true,l9,_,_,_,v12,eb,wr.heap.size,pb,(by subst hf;simp<;>omega),rfl,(by simp only[zQ]),zh (zkd ae.out _),zh ⟨fun _=>rfl,fun _=>rfl,fun _=>⟨rfl,zkr he _,hel⟩,fun _=>rfl,fun _=>⟨rfl,heap_alloc_new wr _,hsz⟩,fun h=>⟨(au.2.2.2.2.2 h).1,zkr (au.2.2.2.2.2 h).2.1 _,(au.2.2.2.2.2 h).2.2⟩⟩,zh ⟨fun h=>(by cases h),fun h=>(by cases h),fun h=>(by cases h),fE.2.2.2⟩⟩
     ·refine wpOp_step rfl (fun K' aG=>?_);have hK:=zh aG;clear aG;have hU4:=fE.2.2.2 rfl;subst hU4;(try simp only[zQ]);go_simp;have hsz:=ae.out.size;exact hK.out _ _ ⟨l6,l7,l8,true,v43,v44,v45,_,eb,rb,wr.heap.size,(by subst hf;simp<;>omega),rfl,(by simp only[zQ]),zh (zkd ae.out _),zh ⟨au.1,au.2.1,fun h=>⟨(au.2.2.1 h).1,zkr (au.2.2.1 h).2.1 _,(au.2.2.1 h).2.2⟩,au.2.2.2.1,fun h=>⟨(au.2.2.2.2.1 h).1,zkr (au.2.2.2.2.1 h).2.1 _,(au.2.2.2.2.1 h).2.2⟩,fun _=>⟨rfl,heap_alloc_new wr _,hsz⟩⟩,zh ⟨fE.1,fE.2.1,fE.2.2.1,fun h=>(by cases h)⟩⟩
  ·have HX:=zh (show Re=(s,0,3,[]) by rw[<-bO.out,resO,if_pos (.inr hn)]);obtain⟨n,hnn⟩:∃ n,chkN p=n:=⟨_,rfl⟩
   rw[hnn];have q8:(0:Int)<(n:Int):=by omega
   clear hn hnn;have bZ:=zkc aN.out jS;have jM:=zkc jh.out jS;have s0:w6.cell? ⟨W.heap.size+1,0,none⟩=some (.slice A s.cells.length c):=zc bZ rfl;have s1:w6.cell? ⟨W.heap.size+1,1,none⟩=some (.slice B s.tin.length d):=zc bZ rfl;have s2:w6.cell? ⟨W.heap.size+1,2,none⟩=some (.slice D s.tout.length e):=zc bZ rfl;have bD:=zh (aQ.out w6 (zka az.out jS));have oO:=zh jM;have hbq:=jS;clear bZ jM;go_wp2_with fail;refine bD.out.mono ?_;rintro e9 w9 ⟨v9,rfl,dz,bI⟩;obtain⟨A9,c9,B9,d9,D9,e9,rfl⟩:=dz.slices;have lV:=zh dz;have bu:=zh (zka hbq bI);have aD:=zkc oO.out bI;have x0:w9.cell? ⟨W.heap.size+3,0,none⟩=some (.slice none 0 0):=zc aD rfl;have x1:w9.cell? ⟨W.heap.size+3,1,none⟩=some (.slice none 0 0):=zc aD rfl;have x2:w9.cell? ⟨W.heap.size+3,2,none⟩=some (.slice none 0 0):=zc aD rfl;have x3:w9.cell? ⟨W.heap.size+3,3,none⟩=some (.int .i64 0):=zc aD rfl
   have x4:w9.cell? ⟨W.heap.size+3,4,none⟩=some (.int .i64 0):=zc aD rfl;have xf:∀ o,w9.frozen? ⟨W.heap.size+3,o,none⟩=false:=fun _=>zf aD;have j4:=zh aD;have hbr:=bRes;have nG:W.heap.size+4<=w6.heap.size:=by have:=hbq.size;rw[rH.out] at this;exact this
   clear s0 s1 s2 aD dz bI hbq bD;go_wp2_with fail;obtain⟨hh,hch⟩:=set5 (u0:=.slice A9 s.cells.length c9) (u1:=.slice B9 s.tin.length d9) (u2:=.slice D9 s.tout.length e9) (u3:=.int .i64 0) (u4:=.int .i64 3) j4.out;obtain⟨aT,cZ⟩:∃ zz,(((((w9.setCell ⟨W.heap.size+3,0,none⟩ (.slice A9 s.cells.length c9)).setCell ⟨W.heap.size+3,1,none⟩ (.slice B9 s.tin.length d9)).setCell ⟨W.heap.size+3,2,none⟩ (.slice D9 s.tout.length e9)).setCell ⟨W.heap.size+3,3,none⟩ (.int .i64 0)).setCell ⟨W.heap.size+3,4,none⟩ (.int .i64 3))=zz:=⟨_,rfl⟩
   rw[cZ] at hh hch ⊢;have t0:aT.cell? ⟨W.heap.size+3,0,none⟩=some (.slice A9 s.cells.length c9):=zc hh rfl;have t1:aT.cell? ⟨W.heap.size+3,1,none⟩=some (.slice B9 s.tin.length d9):=zc hh rfl;have t2:aT.cell? ⟨W.heap.size+3,2,none⟩=some (.slice D9 s.tout.length e9):=zc hh rfl;have t3:aT.cell? ⟨W.heap.size+3,3,none⟩=some (.int .i64 0):=zc hh rfl;have t4:aT.cell? ⟨W.heap.size+3,4,none⟩=some (.int .i64 3):=zc hh rfl;refine bodyPost_ret (v:=.tuple #[.slice none 0 0,.agg #[.slice A9 s.cells.length c9,.slice B9 s.tin.length d9,.slice D9 s.tout.length e9,.int .i64 0,.int .i64 3]]) (by simp[results,Tryz.results66,go_sem,t0,t1,t2,t3,t4]) rfl ?_;rw[HX.out]
   exact⟨none,0,_,_,_,rfl,(lV.out.chg hch fun b hb=>by omega).lower (by omega),fun i hi=>absurd hi (by simp),Nat.le_refl _,(zka az.out bu.out).trans (hch.below (zka az.out bu.out).size fun b hb=>by omega),jY.out,fun h=>by first|(simp at h;done)|exact absurd h tL.out⟩
def FwP (W:World) (R:SS×Nat×Int×List Nat) (e:Ending) (W':World):Prop:=∃ v1 v2 v3,e=.returned (.agg #[v1,v2,v3,.int .i64 (R.2.1:Int),.int .i64 R.2.2.1]) /\
 OwnS W' W.heap.size R.1 (.agg #[v1,v2,v3])/\Below W.heap.size W W'/\LimR R
theorem zpH (p:PG) (s:SS) (F:Int) (g:Nat) (v sv:Value) (W:World) (hp:PV W Any p v) (hs:SV W Any s sv) (hcl:s.cells.length<=5864062014800) (hF:I64 F) (hF6:F<=1000000) (hg:F.toNat*2000+2000<=g) (hfam:Fam p) :
  Calls Tryz.prog 25 #[v,sv,.int .i64 F] W (FwP W (resO p s F g false)):=by
 have jV:=zh hp;have HSX:=zh hs;obtain⟨A1,c1,A2,c2,A3,c3,rfl,kU⟩:=hp;obtain⟨A,c,B,d,D,e,rfl,hr1,hr2,hr3,hc1,hc2,hc3,hl1,hl2,hl3,hl4⟩:=hs;have HST:=zh (fun w' (hb:Below W.heap.size W w')=>zq6 p s F g false _ _ w' (jV.out.later hb) (HSX.out.later hb) hcl hF hF6 hg hfam);have hb3:=zkd (zkd (zkd (Below.refl W.heap.size W) (.cells #[.slice A1 p.vs.length c1,.slice A2 p.prs.length c2,.int .u8 p.m.k,.int .i64 p.m.n,.string p.m.s,.slice A3 p.m.ks.length c3] 35)) (.cells #[.slice A s.cells.length c,.slice B s.tin.length d,.slice D s.tout.length e] 26)) (.cells #[.slice none 0 0,.slice none 0 0,.slice none 0 0,.int .i64 0,.int .i64 0] 50)
 have k2:=heap_alloc_new ((W.alloc (.cells #[.slice A1 p.vs.length c1,.slice A2 p.prs.length c2,.int .u8 p.m.k,.int .i64 p.m.n,.string p.m.s,.slice A3 p.m.ks.length c3] 35)).alloc (.cells #[.slice A s.cells.length c,.slice B s.tin.length d,.slice D s.tout.length e] 26)) (.cells #[.slice none 0 0,.slice none 0 0,.slice none 0 0,.int .i64 0,.int .i64 0] 50);simp only[World.size_alloc] at k2;obtain⟨Re,hRe⟩:∃ R,resO p s F g false=R:=⟨_,rfl⟩
 rw[hRe] at HST;have HR:=zh hRe;have HB3:=zh hb3;have bG:=zh k2;have hz3:W.heap.size+3<=(((W.alloc (.cells #[.slice A1 p.vs.length c1,.slice A2 p.prs.length c2,.int .u8 p.m.k,.int .i64 p.m.n,.string p.m.s,.slice A3 p.m.ks.length c3] 35)).alloc (.cells #[.slice A s.cells.length c,.slice B s.tin.length d,.slice D s.tout.length e] 26)).alloc (.cells #[.slice none 0 0,.slice none 0 0,.slice none 0 0,.int .i64 0,.int .i64 0] 50)).heap.size:=by simp
 rw[hRe];clear kU hr1 hr2 hr3 hRe hb3 k2 hl1 hl2 hl3 hl4 hc1 hc2 hc3;clear hfam;go_enter Tryz.func25,Tryz.ntmps25;go_wp2_with fail;refine(HST.out _ HB3.out).mono ?_;rintro e9 w9 ⟨A9,c9,v1,v2,v3,rfl,dz,-,-,bI,hlm9⟩;have jY:=zh hlm9;clear hlm9;obtain⟨A4,c4,B5,d5,D6,e6,h6⟩:=dz.slices;injection h6 with h6;injection h6 with h6;injection h6 with h6 h7;injection h7 with h7 h8;injection h8 with h8 _;subst h6 h7 h8;have lV:=zh dz;have bu:=zh bI;have aD:=zkc bG.out bI;have x0:w9.cell? ⟨W.heap.size+1+1,0,none⟩=some (.slice none 0 0):=zc aD rfl;have x1:w9.cell? ⟨W.heap.size+1+1,1,none⟩=some (.slice none 0 0):=zc aD rfl;have x2:w9.cell? ⟨W.heap.size+1+1,2,none⟩=some (.slice none 0 0):=zc aD rfl;have x3:w9.cell? ⟨W.heap.size+1+1,3,none⟩=some (.int .i64 0):=zc aD rfl;have x4:w9.cell? ⟨W.heap.size+1+1,4,none⟩=some (.int .i64 0):=zc aD rfl
 have xf:∀ o,w9.frozen? ⟨W.heap.size+1+1,o,none⟩=false:=fun _=>zf aD;have y0:=fun o=>zkj x0 o;have y1:=fun o=>zkj x1 o;have y2:=fun o=>zkj x2 o;have y3:=fun o=>zkj x3 o;have y4:=fun o=>zkj x4 o;have hlt9:W.heap.size+1+1<w9.heap.size:=zko aD;have j4:=zh aD;clear dz bI aD;go_wp2_with fail;obtain⟨hh,hch⟩:=set5 (u0:=.slice A4 Re.1.cells.length c4) (u1:=.slice B5 Re.1.tin.length d5) (u2:=.slice D6 Re.1.tout.length e6) (u3:=.int .i64 (Re.2.1:Int)) (u4:=.int .i64 Re.2.2.1) j4.out;obtain⟨aT,cZ⟩:∃ zz,(((((w9.setCell ⟨W.heap.size+1+1,0,none⟩ (.slice A4 Re.1.cells.length c4)).setCell ⟨W.heap.size+1+1,1,none⟩ (.slice B5 Re.1.tin.length d5)).setCell ⟨W.heap.size+1+1,2,none⟩ (.slice D6 Re.1.tout.length e6)).setCell ⟨W.heap.size+1+1,3,none⟩ (.int .i64 (Re.2.1:Int))).setCell ⟨W.heap.size+1+1,4,none⟩ (.int .i64 Re.2.2.1))=zz:=⟨_,rfl⟩
 rw[cZ] at hh hch ⊢;obtain⟨aS,fM⟩:∃ zz,aT.alloc (.cells #[.slice A4 Re.1.cells.length c4,.slice B5 Re.1.tin.length d5,.slice D6 Re.1.tout.length e6,.int .i64 (Re.2.1:Int),.int .i64 Re.2.2.1] 50)=zz:=⟨_,rfl⟩
 rw[fM];have t0:aS.cell? ⟨W.heap.size+1+1,0,none⟩=some (.slice A4 Re.1.cells.length c4):=fM▸zkj (zc hh rfl) _;have t1:aS.cell? ⟨W.heap.size+1+1,1,none⟩=some (.slice B5 Re.1.tin.length d5):=fM▸zkj (zc hh rfl) _;have t2:aS.cell? ⟨W.heap.size+1+1,2,none⟩=some (.slice D6 Re.1.tout.length e6):=fM▸zkj (zc hh rfl) _;have t3:aS.cell? ⟨W.heap.size+1+1,3,none⟩=some (.int .i64 (Re.2.1:Int)):=fM▸zkj (zc hh rfl) _;have t4:aS.cell? ⟨W.heap.size+1+1,4,none⟩=some (.int .i64 Re.2.2.1):=fM▸zkj (zc hh rfl) _;refine bodyPost_ret (v:=.agg #[.slice A4 Re.1.cells.length c4,.slice B5 Re.1.tin.length d5,.slice D6 Re.1.tout.length e6,.int .i64 (Re.2.1:Int),.int .i64 Re.2.2.1]) (by simp[results,Tryz.results25,go_sem,t0,t1,t2,t3,t4]) rfl ?_;have hz33:=hz3;have hb39:Below W.heap.size W w9:=zka HB3.out bu.out;have hc11:Chg (fun b=>b=W.heap.size+1+1) w9 aS:=fM▸hch.alloc _
 have kX:=lV.out.chg hc11 fun b hb=>by omega
 have lF:=hb39.trans (hc11.below hb39.size fun b hb=>by omega);exact⟨_,_,_,rfl,kX.lower (by omega),lF,jY.out⟩
def Fl (F':Int) (n:Nat) (o o':Out):Prop:=∀ r',o=.ok r'->n<=r'.n/\((r'.n:Int)<=F'\/r'.n=n->o'=.ok r')/\(F'<(r'.n:Int)->n<r'.n->o'=.err 18)
theorem Fl.bind {F':Int} {n:Nat} {o o':Out} {f f':RS->Out} (h:Fl F' n o o') (hf:∀ r,n<=r.n->Fl F' r.n (f r) (f' r)):Fl F' n (o.bind f) (o'.bind f'):=by
 intro r2 e
 cases o with
 | gas=>cases e
 | err x=>cases e
 | ok r1 =>
  obtain⟨h1,h2,h3⟩:=h r1 rfl;obtain⟨g1,g2,g3⟩:=hf r1 h1 r2 e;refine⟨by omega,fun hc=>?_,fun a b=>?_⟩
  ·rw[h2 (by omega)];exact g2 (by omega)
  ·by_cases hc:(r1.n:Int)<=F'\/r1.n=n
   ·rw[h2 hc];exact g3 a (by omega)
   ·rw[h3 (by omega) (by omega)];rfl
theorem Fl.err {F':Int} {n:Nat} {x:Int} {o':Out}:Fl F' n (.err x) o':=fun _ e=>by cases e
theorem Fl.gas {F':Int} {n:Nat} {o':Out}:Fl F' n .gas o':=fun _ e=>by cases e
theorem Fl.same {F':Int} {r:RS}:Fl F' r.n (.ok r) (.ok r):=fun r' e=>by
 injection e with e;subst e;exact⟨Nat.le_refl _,fun _=>rfl,fun _ h=>absurd h (Nat.lt_irrefl _)⟩
theorem Fl.step (F F':Int) (r:RS):Fl F' r.n (zk5 F r) (zk5 F' r):=fun r' e=>by
 obtain⟨rfl,-⟩:=zkV e;refine⟨by simp only;omega,fun h=>?_,fun h _=>?_⟩
 ·unfold zk5;rw[if_neg (by simp only at h;omega)]
 ·unfold zk5;rw[if_pos (by simp only at h;omega)]
theorem Fl.store {F':Int} {r:RS} (R:Int×ST):Fl F' r.n (zkK r R) (zkK r R):=by
 unfold zkK
 split
 ·exact Fl.err
 ·intro r' e;injection e with e;subst e;exact⟨Nat.le_refl _,fun _=>rfl,fun _ h=>absurd h (Nat.lt_irrefl _)⟩
theorem Fl.val {F':Int} {n:Nat} {t:T} {r:RS} {f f':Int->RS->Out} (h:∀ x,Fl F' n (f x r) (f' x r)):Fl F' n (valO t r f) (valO t r f'):=by
 unfold valO
 split
 ·exact Fl.err
 ·exact h _
theorem Fl.holds {F F':Int} {t:T} {r:RS} {f f':Bool->RS->Out} (h:∀ b r1,r.n<=r1.n->Fl F' r1.n (f b r1) (f' b r1)):Fl F' r.n (zlX F t r f) (zlX F' t r f'):=by
 unfold zlX;exact(Fl.step F F' r).bind fun r1 h1=>Fl.val fun x=>h _ _ h1
theorem Fl.assert {F F':Int} {t:T} {b:Bool} {r:RS}:Fl F' r.n (zlc F t b r) (zlc F' t b r):=by
 unfold zlc;refine Fl.holds fun b1 r1 _=>?_
 split
 ·exact Fl.same
 ·exact Fl.err
theorem Fl.body {F':Int} {f f':T->RS->Out}:∀ (l:List T) (r:RS),(∀ t∈l,∀ r',Fl F' r'.n (f t r') (f' t r'))->Fl F' r.n (zkY f l r) (zkY f' l r)
 | [],r,_=>Fl.same
 | t::ts,r,h=>by
  rw[zkY,zkY];exact(h t (List.mem_cons_self ..) r).bind fun r1 _=>Fl.body ts r1 fun u hu r'=>h u (List.mem_cons_of_mem _ hu) r'
theorem Fl.loop {F F':Int} {f f':T->RS->Out} {entry test:T} {l1 l2:List T} (h1:∀ t∈l1,∀ r',Fl F' r'.n (f t r') (f' t r')) (h2:∀ t∈l2,∀ r',Fl F' r'.n (f t r') (f' t r')):∀ (m:Nat) (r:RS),Fl F' r.n (zm6 F f entry test l1 l2 m r) (zm6 F' f' entry test l1 l2 m r)
 | 0,r=>Fl.gas
 | m+1,r=>by
  rw[zm6,zm6];refine(Fl.body l1 r h1).bind fun r1 _=>Fl.holds fun b r2 _=>?_
  split
  ·exact Fl.same
  ·exact(Fl.body l2 r2 h2).bind fun r3 _=>Fl.assert.bind fun r4 _=>Fl.loop h1 h2 m r4
theorem zmo {prs:List PR} {F F':Int}:∀ (g:Nat) (back:Bool) (t:T) (r:RS),Fl F' r.n (zkJ prs F g back t r) (zkJ prs F' g back t r)
 | 0,_,_,_=>Fl.gas
 | g+1,back,t,r=>by
  have hb:∀ back (l:List T) r1,Fl F' r1.n (zkY (zkJ prs F g back) l r1) (zkY (zkJ prs F' g back) l r1):=fun back l r1=>Fl.body l r1 fun u _ r'=>zmo g back u r';rw[zkJ,zkJ]
  split
  ·exact Fl.holds fun yes r1 _=>(hb _ _ r1).bind fun r2 _=>Fl.assert
  ·split
   ·exact Fl.assert.bind fun r1 _=>Fl.loop (fun u _ r'=>zmo g back u r') (fun u _ r'=>zmo g back u r') g r1
   ·split
    ·refine(Fl.step F F' r).bind fun r1 _=>Fl.val fun x=>(Fl.store _).bind fun r2 _=>(hb _ _ r2).bind fun r3 _=>(Fl.step F F' r3).bind fun r4 _=>Fl.val fun x=>Fl.store _
    ·split
     ·exact(Fl.step F F' r).bind fun r1 _=>(Fl.store _).bind fun r2 _=>(hb _ _ r2).bind fun r3 _=>(Fl.step F F' r3).bind fun r4 _=>Fl.store _
     ·split
      ·split
       ·exact Fl.err
       ·exact(Fl.step F F' r).bind fun r1 _=>(Fl.store _).bind fun r2 _=>Fl.bind (hb _ _ { r2 with ent:=_ }) fun r3 _=>(Fl.step F F' r3).bind fun r4 _=>Fl.store _
      ·exact(Fl.step F F' r).bind fun r1 _=>Fl.store _
theorem zra {prs:List PR} {F F':Int} (g:Nat) (back:Bool) (b:T) (r:RS):Fl F' r.n (runO prs F g back b r) (runO prs F' g back b r):=Fl.body _ _ fun u _ r'=>zmo g back u r'
theorem zrg {p:PG} {s:SS} {F:Int} {g:Nat} {back:Bool} (hg:F.toNat*2000+2000<=g) (h:(resO p s F g back).2.2.1=0) :
  zkX p=true/\chkN p=0/\fitB p.vs s=true/\∃ r,runO p.prs F g back p.m ⟨newS p.vs s,0,List.replicate p.prs.length 0⟩=.ok r/\resO p s F g back=(r.S.state,r.n,0,r.ent):=by
 unfold resO at h ⊢
 split at h
 ·simp at h
 ·rename_i h1;rw[if_neg h1];simp only[not_or,Bool.not_eq_false,Decidable.not_not] at h1
  split at h
  ·simp at h
  ·rename_i h2;rw[if_neg h2];simp only[Bool.not_eq_false] at h2;refine⟨h1.1,by simpa using h1.2,h2,?_⟩;have hz:Nz (runO p.prs F g back p.m ⟨newS p.vs s,0,List.replicate p.prs.length 0⟩):=zq9 zvI (zuH h1.1 (by simpa using h1.2));have hg0:=(zpN (F:=F) (g:=g) h1.1 hg back (newS p.vs s) (List.replicate p.prs.length 0)).1
   cases ho:runO p.prs F g back p.m ⟨newS p.vs s,0,List.replicate p.prs.length 0⟩ with
   | gas=>exact absurd ho hg0
   | err e =>
    rw[ho] at h hz;simp only[outR] at h;rw[h] at hz;exact absurd rfl hz
   | ok r=>exact⟨r,rfl,rfl⟩
theorem zpQ {p:PG} {s:SS} {F:Int} {g:Nat} {back:Bool} (h1:zkX p=true) (h2:chkN p=0) (h3:fitB p.vs s=true) :
  resO p s F g back=outR s (runO p.prs F g back p.m ⟨newS p.vs s,0,List.replicate p.prs.length 0⟩):=by
 unfold resO;rw[if_neg (by rw[h1,h2];simp),if_neg (by rw[h3];simp)]
theorem zsU {p:PG} {s:SS} {F:Int} {g:Nat} {back:Bool} (hg:F.toNat*2000+2000<=g) (h:(resO p s F g back).2.2.1=0) :
  ((resO p s F g back).2.1:Int)<=max F 0/\(∀ F':Int,((resO p s F g back).2.1:Int)<=F'->resO p s F' g back=resO p s F g back) /\
   ∀ F':Int,F'<((resO p s F g back).2.1:Int)->0<(resO p s F g back).2.1->(resO p s F' g back).2.2.1=18:=by
 obtain⟨h1,h2,h3,r,hr,he⟩:=zrg hg h;rw[he];simp only;have key:=fun F'=>zra (prs:=p.prs) (F:=F) (F':=F') g back p.m ⟨newS p.vs s,0,List.replicate p.prs.length 0⟩ r hr;refine⟨?_,fun F' hF=>?_,fun F' hF h0=>?_⟩
 ·rcases Int.lt_or_le (max F 0) (r.n:Int) with hlt|hle
  ·have:=(key F).2.2 (by omega) (by simp only;omega);rw[hr] at this
   cases this
  ·exact hle
 ·rw[zpQ h1 h2 h3,(key F').2.1 (.inl hF)];rfl
 ·rw[zpQ h1 h2 h3,(key F').2.2 hF h0];rfl
theorem EvR.lower {w:World} {n0 n1:Nat} {O O':Nat->Prop} {v:Value} {es:List (List CH)} (h:EvR w n0 O v es) (hn:n1<=n0) (hO:∀ b,O b->O' b):EvR w n1 O' v es:=by
 obtain⟨xs,h1,h2,h3⟩:=h;refine⟨xs,zlO h1 hn,fun b hb=>hO b (h2 b hb),fun i hi=>?_⟩;obtain⟨A,c,f1,f2,f3⟩:=h3 i hi;exact⟨A,c,f1,f2,f3.keep (fun b hb _=>⟨hO b hb.1,hb.2⟩) fun b hb _=>rfl⟩
theorem bTrc (A1 A2 A3 AX BX DX:Option Addr) (l1 c1 l2 c2 l3 c3 x1 cX x2 dX x3 gX:Nat) (k n:Int) (s:ByteArray) (sb:Nat) (w:World):(Instr.build 119 #[(0,.agg #[.slice A1 l1 c1,.slice A2 l2 c2,.int .u8 k,.int .i64 n,.string s,.slice A3 l3 c3]),(1,.pointer (some ⟨sb,0,none⟩)),(2,.agg #[.slice AX x1 cX,.slice BX x2 dX,.slice DX x3 gX])]).run Tryz.prog w =
  .ok (.agg #[.slice A1 l1 c1,.slice A2 l2 c2,.int .u8 k,.int .i64 n,.string s,.slice A3 l3 c3,.pointer (some ⟨sb,0,none⟩),.slice AX x1 cX,.slice BX x2 dX,.slice DX x3 gX,.slice none 0 0]) w:=by kernel_rfl
def OfP (W:World) (p:PG) (s:SS) (R:SS×Nat×Int×List Nat) (e:Ending) (W':World):Prop:=Below W.heap.size W W' /\
 ((R.2.2.1≠0/\e=.returned (.tuple #[.slice none 0 0,.int .i64 R.2.2.1])) \/
  (R.2.2.1=0/\∃ (S':ST) (L:List SS) (ev:Value),Tg p.prs (.blk false (blkL false p.m)) (newS p.vs s) L S'/\S'.state=R.1/\R.2.1=L.length/\fitB p.vs s=true/\e=.returned (.tuple #[ev,.int .i64 0])/\EvR W' W.heap.size (fun b=>W.heap.size<=b) ev (evsE s L)/\L.length<=900000))
def FamT (p:PG):Prop:=∃ G:List PR->T->Prop,(∀ {S S':ST} {L:List SS},Tg p.prs (.blk false (blkL false p.m)) S L S'->BlkC G false (blkL false p.m) S L S')/\(zkX p=true->chkN p=0->∀ u∈p.m.ks,G p.prs u)
theorem ztD {prs:List PR} {back:Bool}:∀ (l:List T) {S S':ST} {L:List SS},(∀ u∈l,GB prs u)->Tg prs (.blk back l) S L S'->BlkC GB back l S L S'
 | [],_,_,_,_,h=>by cases h;exact⟨rfl,rfl⟩
 | t::ts,_,_,_,hb,h=>by
  cases h with
  | cons h1 h2 =>
   have hk:=hb t (List.mem_cons_self ..);refine⟨_,_,_,rfl,?_,ztD ts (fun u hu=>hb u (List.mem_cons_of_mem _ hu)) h2⟩;unfold GB at hk
   cases h1 with
   | bas hk' h0=>exact fun C hC hg W L0 h hln v hv=>zsu hC h _ v _ hv ⟨by omega,by omega,by omega,by omega,by omega,by omega⟩ h0 (by simpa using hln)
   | iff h=>exact absurd (by omega) hk
   | frm h=>exact absurd (by omega) hk
   | loc h=>exact absurd (by omega) hk
   | stk h=>exact absurd (by omega) hk
   | cal h=>exact absurd (by omega) hk
theorem zs5 {p:PG} (h:∀ u∈p.m.ks,GB p.prs u):FamT p:=⟨GB,fun ht=>ztD _ (fun u hu=>h u (zle hu)) ht,fun _ _=>h⟩
theorem zvb (p:PG) (s:SS) (F:Int) (g:Nat) (v sv:Value) (W:World) (hp:PV W Any p v) (hs:SV W Any s sv) (hcl:s.cells.length<=5864062014800) (hF:I64 F) (hF6:F<=900000) (hg:F.toNat*2000+2000<=g) (hfam:Fam p) (hft:FamT p) :
  Calls Tryz.prog 24 #[v,sv,.int .i64 F] W (OfP W p s (resO p s F g false)):=by
 have HP:=zh hp;have HS:=zh hs;obtain⟨A1,c1,A2,c2,A3,c3,rfl,kU⟩:=hp;obtain⟨A,c,B,d,D,e,rfl,hr1,hr2,hr3,hc1,hc2,hc3,hl1,hl2,hl3,hl4⟩:=hs;have qI:=zh kU;have ui:=zh (fun w' (hb:Below W.heap.size W w')=>zpH p s F g _ _ w' (HP.out.later hb) (HS.out.later hb) hcl hF (by omega) hg hfam);have HFMT:=zh hft;clear hfam hft;have iM:=zh (fun w' (hb:Below W.heap.size W w')=>zr2 p.vs s A1 c1 _ w' (qI.out.vars.later hb) qI.out.lv (HS.out.later hb));have tX:=zh (fun h=>zrg (p:=p) (s:=s) (F:=F) (g:=g) (back:=false) hg h);have mg:=zh (fun h=>zsU (p:=p) (s:=s) (F:=F) (g:=g) (back:=false) hg h);obtain⟨R,hR⟩:∃ R,resO p s F g false=R:=⟨_,rfl⟩
 rw[hR] at ui tX mg;rw[hR];have hb2:=zkd (zkd (Below.refl W.heap.size W) (.cells #[.slice A1 p.vs.length c1,.slice A2 p.prs.length c2,.int .u8 p.m.k,.int .i64 p.m.n,.string p.m.s,.slice A3 p.m.ks.length c3] 35)) (.cells #[.slice A s.cells.length c,.slice B s.tin.length d,.slice D s.tout.length e] 26);have k0:=zkr (heap_alloc_new W (.cells #[.slice A1 p.vs.length c1,.slice A2 p.prs.length c2,.int .u8 p.m.k,.int .i64 p.m.n,.string p.m.s,.slice A3 p.m.ks.length c3] 35)) (.cells #[.slice A s.cells.length c,.slice B s.tin.length d,.slice D s.tout.length e] 26);have k1:=heap_alloc_new (W.alloc (.cells #[.slice A1 p.vs.length c1,.slice A2 p.prs.length c2,.int .u8 p.m.k,.int .i64 p.m.n,.string p.m.s,.slice A3 p.m.ks.length c3] 35)) (.cells #[.slice A s.cells.length c,.slice B s.tin.length d,.slice D s.tout.length e] 26);rw[World.size_alloc] at k1
 obtain⟨w2,hw2⟩:∃ x,(W.alloc (.cells #[.slice A1 p.vs.length c1,.slice A2 p.prs.length c2,.int .u8 p.m.k,.int .i64 p.m.n,.string p.m.s,.slice A3 p.m.ks.length c3] 35)).alloc (.cells #[.slice A s.cells.length c,.slice B s.tin.length d,.slice D s.tout.length e] 26)=x:=⟨_,rfl⟩
 rw[hw2] at hb2 k0 k1;have HB2:=zh hb2;have K0:=zh k0;have K1:=zh k1;have p0:w2.cell? ⟨W.heap.size,0,none⟩=some (.slice A1 p.vs.length c1):=zc k0 rfl;have p1:w2.cell? ⟨W.heap.size,1,none⟩=some (.slice A2 p.prs.length c2):=zc k0 rfl;have p2:w2.cell? ⟨W.heap.size,2,none⟩=some (.int .u8 p.m.k):=zc k0 rfl;have p3:w2.cell? ⟨W.heap.size,3,none⟩=some (.int .i64 p.m.n):=zc k0 rfl;have p4:w2.cell? ⟨W.heap.size,4,none⟩=some (.string p.m.s):=zc k0 rfl;have p5:w2.cell? ⟨W.heap.size,5,none⟩=some (.slice A3 p.m.ks.length c3):=zc k0 rfl;have s0:w2.cell? ⟨W.heap.size+1,0,none⟩=some (.slice A s.cells.length c):=zc k1 rfl;have s1:w2.cell? ⟨W.heap.size+1,1,none⟩=some (.slice B s.tin.length d):=zc k1 rfl;have s2:w2.cell? ⟨W.heap.size+1,2,none⟩=some (.slice D s.tout.length e):=zc k1 rfl;clear kU hr1 hr2 hr3 hR hb2 k0 k1 hl1 hl2 hl3 hl4 hc1 hc2 hc3;go_enter Tryz.func24,Tryz.ntmps24;go_wp2_with fail
 (try rw[hw2]);refine(ui.out w2 HB2.out).mono ?_;rintro e3 w3 ⟨v1,v2,v3,rfl,ho3,hb3,hlm3⟩;obtain⟨A5,c5,B5,d5,D5,g5,h6⟩:=ho3.slices;injection h6 with h6;injection h6 with h6;injection h6 with h6 h7;injection h7 with h7 h8;injection h8 with h8 _;subst h6 h7 h8;have hb4:=zkd hb3 (.cells #[.slice A5 R.1.cells.length c5,.slice B5 R.1.tin.length d5,.slice D5 R.1.tout.length g5,.int .i64 (R.2.1:Int),.int .i64 R.2.2.1] 50);have k2:=heap_alloc_new w3 (.cells #[.slice A5 R.1.cells.length c5,.slice B5 R.1.tin.length d5,.slice D5 R.1.tout.length g5,.int .i64 (R.2.1:Int),.int .i64 R.2.2.1] 50);obtain⟨w4,hw4⟩:∃ x,w3.alloc (.cells #[.slice A5 R.1.cells.length c5,.slice B5 R.1.tin.length d5,.slice D5 R.1.tout.length g5,.int .i64 (R.2.1:Int),.int .i64 R.2.2.1] 50)=x:=⟨_,rfl⟩
 obtain⟨rb,hrb⟩:∃ x,w3.heap.size=x:=⟨_,rfl⟩
 rw[hw4] at hb4 k2;rw[hrb] at k2;have az:=zh hb4;have K2:=zh k2;clear p0 p1 p2 p3 p4 p5 s0 s1 s2 hw2 ho3 hlm3 hb3 hb4;go_upto_region 2 with fail;(try rw[hw4]);(try rw[hrb]);clear hw4 hrb;have y2:w4.cell? ⟨rb,4,none⟩=some (.int .i64 R.2.2.1):=zc k2 rfl;clear k2;have aM:=zh (zka HB2.out az.out);by_cases he:R.2.2.1≠0
 ·have e1:(R.2.2.1 != 0)=true:=by simpa using he
  clear tX mg iM ui;go_upto_region 3 with fail
  go_quiet (fail)
  go_wp2_with fail;go_ret2;exact⟨zka aM.out (zkN (Below.refl _ _) nq),.inl ⟨he,rfl⟩⟩
 ·have he:=Decidable.not_not.1 he;obtain⟨S0,n0,e0,l0⟩:=R;change e0=0 at he;subst he;obtain⟨hvb,hch,hft,r,hrun,hres⟩:=tX.out rfl;simp only[Prod.mk.injEq] at hres;obtain⟨rfl,rfl,-,rfl⟩:=hres;have hfl:(r.n:Int)<=max F 0:=(mg.out rfl).1;obtain⟨L,qW,hn⟩:=zt4 hrun;simp only[Nat.zero_add] at hn;have dA:L.length<=900000:=by omega
  have HTG:=zh qW;have HN:=zh hn;have HV:=zh hvb;have HC:=zh hch;have ji:=zh hft;have cB:=zh dA;have k0:=zkc K0.out az.out;have k1:=zkc K1.out az.out;have p0:w4.cell? ⟨W.heap.size,0,none⟩=some (.slice A1 p.vs.length c1):=zc k0 rfl;have s0:w4.cell? ⟨W.heap.size+1,0,none⟩=some (.slice A s.cells.length c):=zc k1 rfl;have s1:w4.cell? ⟨W.heap.size+1,1,none⟩=some (.slice B s.tin.length d):=zc k1 rfl;have s2:w4.cell? ⟨W.heap.size+1,2,none⟩=some (.slice D s.tout.length e):=zc k1 rfl;clear qW hn hvb hch hft dA k0 k1 tX mg hrun hfl ui;go_wp2_with fail;refine(iM.out w4 aM.out).mono ?_;rintro e7 w7 ⟨b7,⟨hfit,rfl⟩|⟨hfit,P,rfl,mo⟩⟩
  ·have:=ji.out;rw[hfit] at this
   cases this
  have iq:=zh mo;have gL:=zh b7;have kG:=zh (zka az.out b7);have HW7:=zh (zka aM.out b7);clear p0 s0 s1 s2 hfit mo y2 iM;go_upto_region 7 with fail;have aB:=zh (show ∀ w',Below w7.heap.size w7 w'->(fun w':World=>w'.cell? ⟨W.heap.size,0,none⟩=some (.slice A1 p.vs.length c1)/\w'.cell? ⟨W.heap.size,1,none⟩=some (.slice A2 p.prs.length c2)/\w'.cell? ⟨W.heap.size,2,none⟩=some (.int .u8 p.m.k)/\w'.cell? ⟨W.heap.size,3,none⟩=some (.int .i64 p.m.n)/\w'.cell? ⟨W.heap.size,4,none⟩=some (.string p.m.s)/\w'.cell? ⟨W.heap.size,5,none⟩=some (.slice A3 p.m.ks.length c3)) w' from fun w' hb=>by
   have k0:=zkc (zkc K0.out kG.out) hb;exact⟨zc k0 rfl,zc k0 rfl,zc k0 rfl,zc k0 rfl,zc k0 rfl,zc k0 rfl⟩)
  have hSS:(fun w':World=>w'.cell? ⟨W.heap.size,0,none⟩=some (.slice A1 p.vs.length c1)/\w'.cell? ⟨W.heap.size,1,none⟩=some (.slice A2 p.prs.length c2)/\w'.cell? ⟨W.heap.size,2,none⟩=some (.int .u8 p.m.k)/\w'.cell? ⟨W.heap.size,3,none⟩=some (.int .i64 p.m.n)/\w'.cell? ⟨W.heap.size,4,none⟩=some (.string p.m.s)/\w'.cell? ⟨W.heap.size,5,none⟩=some (.slice A3 p.m.ks.length c3)) w7.drew/\(fun _:World=>True) w7.drew:=⟨aB.out _ (Below.refl _ _).drew,trivial⟩
  refine wp_region_noPanic ?_;refine zke (fun w':World=>w'.cell? ⟨W.heap.size,0,none⟩=some (.slice A1 p.vs.length c1)/\w'.cell? ⟨W.heap.size,1,none⟩=some (.slice A2 p.prs.length c2)/\w'.cell? ⟨W.heap.size,2,none⟩=some (.int .u8 p.m.k)/\w'.cell? ⟨W.heap.size,3,none⟩=some (.int .i64 p.m.n)/\w'.cell? ⟨W.heap.size,4,none⟩=some (.string p.m.s)/\w'.cell? ⟨W.heap.size,5,none⟩=some (.slice A3 p.m.ks.length c3)) (fun _:World=>True) 4 (by kernel_rfl) ?_;refine zT 0 hSS ?_;(try simp only[zQ]);refine zT 1 hSS ?_;(try simp only[zQ]);refine zT 2 hSS ?_;(try simp only[zQ]);have hks:=KS.new aM.out b7 iq.out;have had:Calls Tryz.prog 22 [.pointer (some ⟨P.sb,0,none⟩)].toArray w7.drew fun e W'=>∃ v,e=.returned v/\(OwnS W' w7.heap.size s v/\Below w7.heap.size w7 W') :=
   ((hks.later (Below.refl _ _).drew).state).mono fun e W' ⟨v,h1,h2,h3⟩=>⟨v,h1,by rw[zn2 ji.out] at h2;exact h2,(Below.refl _ _).drew.trans h3⟩
  clear hSS b7 hks;refine zo 3 fun K hK=>?_;refine zkQ (by rfl) (.func 22) [.tmp 34] _ (by rfl) 22 _ zp0 (by rfl) _ (by rfl) _ had ?_;rintro v8 w8 ⟨iE,eU⟩;obtain⟨AX,cX,BX,dX,DX,gX,rfl⟩:=iE.slices;refine hK.out _ _ ⟨aB.out _ eU,trivial⟩ ?_;have oW:=zh iE;have bR:=zh eU;clear hK K had iE eU;obtain⟨x1,hx1⟩:∃ x,s.cells.length=x:=⟨_,rfl⟩
  obtain⟨x2,hx2⟩:∃ x,s.tin.length=x:=⟨_,rfl⟩
  obtain⟨x3,hx3⟩:∃ x,s.tout.length=x:=⟨_,rfl⟩
  rw[hx1,hx2,hx3];have jc:=zh hx1;have bN:=zh hx2;have oH:=zh hx3;clear hx1 hx2 hx3;have hbt:=bTrc A1 A2 A3 AX BX DX p.vs.length c1 p.prs.length c2 p.m.ks.length c3 x1 cX x2 dX x3 gX p.m.k p.m.n p.m.s P.sb;(try simp only[zQ]);refine zp 4 fun K hK=>?_;(try simp only[zA,zB,zC]);go_simp;refine hK.out _ _ (aB.out _ bR.out) ?_;clear hK K;(try simp only[zQ]);refine zp 5 fun K hK=>?_;(try simp only[zA,zB,zC]);go_simp;have bI:=zkd bR.out (.cells #[.slice A1 p.vs.length c1,.slice A2 p.prs.length c2,.int .u8 p.m.k,.int .i64 p.m.n,.string p.m.s,.slice A3 p.m.ks.length c3,.pointer (some ⟨P.sb,0,none⟩),.slice AX x1 cX,.slice BX x2 dX,.slice DX x3 gX,.slice none 0 0] 119)
  have kt:=heap_alloc_new w8 (.cells #[.slice A1 p.vs.length c1,.slice A2 p.prs.length c2,.int .u8 p.m.k,.int .i64 p.m.n,.string p.m.s,.slice A3 p.m.ks.length c3,.pointer (some ⟨P.sb,0,none⟩),.slice AX x1 cX,.slice BX x2 dX,.slice DX x3 gX,.slice none 0 0] 119);obtain⟨w9,aZ⟩:∃ x,w8.alloc (.cells #[.slice A1 p.vs.length c1,.slice A2 p.prs.length c2,.int .u8 p.m.k,.int .i64 p.m.n,.string p.m.s,.slice A3 p.m.ks.length c3,.pointer (some ⟨P.sb,0,none⟩),.slice AX x1 cX,.slice BX x2 dX,.slice DX x3 gX,.slice none 0 0] 119)=x:=⟨_,rfl⟩
  have sN:w9.heap.size=w8.heap.size+1:=by rw[<-aZ];simp
  have HX89:=zh (show Below w8.heap.size w8 w9 from aZ▸zkd (Below.refl _ _) _);obtain⟨tb,htb⟩:∃ x,w8.heap.size=x:=⟨_,rfl⟩
  rw[aZ] at bI kt ⊢;rw[htb] at kt sN ⊢;have bu:=zh bI;have KT:=zh kt;have HTB:=zh (show w7.heap.size<=tb by rw[<-htb];exact bR.out.size);refine hK.out _ _ (aB.out _ bI) ?_;clear hK K aZ bI kt hbt;(try simp only[zQ]);refine zp 6 fun K hK=>?_;(try simp only[zA,zB,zC]);go_simp;refine hK.out _ _ (aB.out _ bu.out) ?_;clear hK K;(try simp only[zQ]);refine zd ?_;refine NoPanic.normal ?_;obtain⟨C,hC⟩:∃ C:TC,C=⟨W,w4.heap.size,P.sb,tb,p,A1,c1,A2,c2,A3,c3,s,fun _=>False⟩:=⟨_,rfl⟩
  obtain⟨hvl,hpl,sV,-,hpm⟩:=zlG HV.out;have h47:=gL.out.size;have h7t:=HTB.out;have jk:=zh (show C.Ok by
   rw[hC];exact⟨qI.out,⟨by simp only;omega,fun h=>h⟩,fun q hq=>by have:=(sV q hq).1;omega⟩)
  have HTI:=zh (show TI C w9 (newS p.vs s) [] by
   have hks:=(KS.new aM.out gL.out iq.out).also bu.out (kb':=fun b=>False\/b=tb\/(w7.heap.size<=b/\b<tb)) (fun b hb=>.inr (by
    rcases hb with hb|rfl|hb
    ·exact hb.elim
    ·exact⟨h7t,by rw[sN];omega⟩
    ·exact⟨hb.1,by rw[sN];omega⟩))
   have nR:FB 0 (newS p.vs s):=⟨by simp only[newS];omega,fun f hf=>by simp[newS] at hf⟩
   have hsm:s.Sm:=by
    have:=zt2 hks.wf nR (by omega);rw[zn2 ji.out] at this;exact this
   rw[hC];refine⟨⟨fun b=>w7.heap.size<=b/\b<tb,.slice AX x1 cX,.slice BX x2 dX,.slice DX x3 gX,.slice none 0 0,hks,fun b hb=>⟨by simp only;omega,fun h=>h,by simp only;omega⟩,KT.out,?_,⟨[],World.ownsRow_nil _ _ _ _,fun b hb=>(by cases hb),fun i hi=>(by cases hi)⟩,hsm,by simp⟩,nR⟩;have:=(oW.out.svR hsm.lim)
   rw[jc.out,bN.out,oH.out] at this;exact this.keep (fun b hb hlt=>⟨⟨hb,by rw[<-htb];exact hlt⟩,fun e=>(by cases e)⟩) fun b hb hlt=>HX89.out.block b hlt)
  obtain⟨GX,tF,rE⟩:=HFMT.out;have aC:=zh (zqi (G:=GX) jk.out HTI.out p.m (nv p.m.k p.m.n p.m.s A3 p.m.ks.length c3) false (tF HTG.out) (by simpa using cB.out) (by rw[hC];exact qI.out.main) (by rw[hC];exact rE HV.out HC.out));clear tF rE;rw[show C.tb=tb by rw[hC]] at aC;have q2:w9.cell? ⟨W.heap.size,2,none⟩=some (.int .u8 p.m.k):=zc (zkc (zkc K0.out kG.out) bu.out) rfl;have q3:w9.cell? ⟨W.heap.size,3,none⟩=some (.int .i64 p.m.n):=zc (zkc (zkc K0.out kG.out) bu.out) rfl;have q4:w9.cell? ⟨W.heap.size,4,none⟩=some (.string p.m.s):=zc (zkc (zkc K0.out kG.out) bu.out) rfl;have q5:w9.cell? ⟨W.heap.size,5,none⟩=some (.slice A3 p.m.ks.length c3):=zc (zkc (zkc K0.out kG.out) bu.out) rfl;have bD:=zh hC;clear hvl hpl sV hpm h47 hC htb HTI jk aB;go_wp2_with fail;refine aC.out.mono ?_;rintro e10 aT ⟨rfl,hk10,oh,nJ⟩
  clear q2 q3 q4 q5 aC hk10;rw[bD.out] at oh nJ;simp only[List.nil_append] at nJ;obtain⟨⟨O,y1,y2,y3,ev,-,hO,hT,-,hE,-,-⟩,-⟩:=nJ;have z10:aT.cell? ⟨tb,10,none⟩=some ev:=zc hT rfl;have HE:=zh (hE.lower (n1:=W.heap.size) (O':=fun b=>W.heap.size<=b) (by simp only;have:=aM.out.size;omega) (fun b hb=>by have:=(hO b hb).1;simp only at this;have:=aM.out.size;omega));have HB10:=zh (show Below W.heap.size W aT from oh);clear hO hT hE oh;go_wp2_with fail;go_ret2;exact⟨HB10.out,.inr ⟨rfl,_,L,ev,HTG.out,rfl,by simp only;exact HN.out,ji.out,rfl,HE.out,cB.out⟩⟩
def xTt:T:=.nd 2 0 ⟨#[120]⟩ []
def oTt:T:=.nd 1 1 ⟨#[]⟩ []
def plTt:T:=.nd 40 0 ⟨#[]⟩ [xTt,oTt]
def miTt:T:=.nd 41 0 ⟨#[]⟩ [xTt,oTt]
def pgT:PG:=⟨[⟨⟨#[120]⟩,1,0⟩],[],.nd 57 0 ⟨#[]⟩ [plTt,miTt]⟩
theorem gbT:∀ u∈pgT.m.ks,GB pgT.prs u:=fun u hu=>by
 have h:u.k=40\/u.k=41:=by
  simp only[pgT,T.ks_nd,List.mem_cons,List.not_mem_nil,or_false] at hu;rcases hu with rfl|rfl
  ·left;rfl
  ·right;rfl
 unfold GB;omega
theorem awT:(resO pgT ⟨[[0]],[],[]⟩ 9 20000 false).2.2.1=0:=by decide +kernel
theorem Tg.bas_inv {prs:List PR} {back:Bool} {t:T} {S S':ST} {L:List SS} (h:Tg prs (.stm back t) S L S') (hk:¬ (50<=t.k/\t.k<=55)):S'=(if back=true then zls S t else doE S t).2/\L=[(if back=true then zls S t else doE S t).2.state]:=by
 cases h<;>first|exact⟨rfl,rfl⟩|(exfalso;omega)
theorem evT:evsE ⟨[[0]],[],[]⟩ ([(doE (newS pgT.vs ⟨[[0]],[],[]⟩) plTt).2.state]++([(doE (doE (newS pgT.vs ⟨[[0]],[],[]⟩) plTt).2 miTt).2.state]++[]))=[[⟨0,0,0,1⟩],[⟨0,0,1,0⟩]]:=by decide +kernel
theorem TgT {S':ST} {L:List SS} (h:Tg pgT.prs (.blk false (blkL false pgT.m)) (newS pgT.vs ⟨[[0]],[],[]⟩) L S'):evsE ⟨[[0]],[],[]⟩ L=[[⟨0,0,0,1⟩],[⟨0,0,1,0⟩]]:=by
 have h:Tg pgT.prs (.blk false [plTt,miTt]) (newS pgT.vs ⟨[[0]],[],[]⟩) L S':=h
 cases h with
 | cons h1 h2 =>
  obtain⟨rfl,rfl⟩:=h1.bas_inv (by decide)
  cases h2 with
  | cons h3 h4 =>
   obtain⟨rfl,rfl⟩:=h3.bas_inv (by decide)
   cases h4
   exact evT
theorem EvR.nd {w:World} {n0:Nat} {O:Nat->Prop} {v:Value} {es:List (List CH)} (h:EvR w n0 O v es) (hl:0<es.length):∃ g cap,v=.slice (some ⟨g,0,none⟩) es.length cap/\∀ i (hi:i<es.length),∃ A c,w.cell? ⟨g,i,none⟩=some (.slice A es[i].length c)/\RowC w O A es[i]:=by
 obtain⟨xs,h1,h2,h3⟩:=h;rcases h1.2 with⟨e1,e2⟩|⟨g,cap,cur,e,hb,hg,-⟩
 ·omega
 ·subst e;refine⟨g,cap,rfl,fun i hi=>?_⟩;obtain⟨A,c,f1,f2,f3⟩:=h3 i hi;refine⟨A,c,?_,f3.keep (fun b hb _=>hb.1) fun _ _ _=>rfl⟩;rw[h1.cellAt i (by omega)];exact f1
theorem zsN {W:World} {k n:Int} {s:ByteArray} (hf:Fld k n s):NV W Any (.nd k n s []) (nv k n s none 0 0):=NV.shut (ks:=[]) hf (by simp[LK]) (by simp) fun i hi=>by simp at hi
theorem fldT (k n:Int) (hk:0<=k/\k<256) (hn:I64 n):Fld k n ⟨#[]⟩:=⟨hk,hn,by decide⟩
theorem zvz (a0 a1 a2:Value) (w:World):(Instr.buildSlice 22 1 #[(0,.agg #[a0,a1,a2])]).run Tryz.prog w=.ok (.slice (some ⟨w.heap.size,0,none⟩) 1 1) (w.alloc (.cells #[a0,a1,a2] 83)):=by kernel_rfl
theorem zvC (A B:Option Addr) (l c m d:Nat) (k n:Int) (s:ByteArray) (w:World):(Instr.build 35 #[(0,.slice A l c),(2,nv k n s B m d)]).run Tryz.prog w=.ok (.agg #[.slice A l c,.slice none 0 0,.int .u8 k,.int .i64 n,.string s,.slice B m d]) w:=by kernel_rfl
theorem zvD (A:Option Addr) (l c:Nat) (w:World):(Instr.buildSlice 23 1 #[(0,.slice A l c)]).run Tryz.prog w=.ok (.slice (some ⟨w.heap.size,0,none⟩) 1 1) (w.alloc (.cells #[.slice A l c] 24)):=by kernel_rfl
theorem zvA (a0 a1 a2 a3 b0 b1 b2 b3:Value) (w:World):(Instr.buildSlice 27 2 #[(0,.agg #[a0,a1,a2,a3]),(1,.agg #[b0,b1,b2,b3])]).run Tryz.prog w=.ok (.slice (some ⟨w.heap.size,0,none⟩) 2 2) (w.alloc (.cells #[a0,a1,a2,a3,b0,b1,b2,b3] 29)):=by kernel_rfl
theorem bNkT (k:Int) (A:Option Addr) (l c:Nat) (w:World):(Instr.build 29 #[(0,.int .u8 k),(3,.slice A l c)]).run Tryz.prog w=.ok (nv k 0 ⟨#[]⟩ A l c) w:=by kernel_rfl
theorem bNx (w:World):(Instr.build 29 #[(0,.int .u8 2),(2,.string ⟨#[120]⟩)]).run Tryz.prog w=.ok (nv 2 0 ⟨#[120]⟩ none 0 0) w:=by kernel_rfl
theorem bNo (w:World):(Instr.build 29 #[(0,.int .u8 1),(1,.int .i64 1)]).run Tryz.prog w=.ok (nv 1 1 ⟨#[]⟩ none 0 0) w:=by kernel_rfl
theorem bCh3 (w:World):(Instr.build 64 #[(3,.int .i64 1)]).run Tryz.prog w=.ok (.agg #[.int .i64 0,.int .i64 0,.int .i64 0,.int .i64 1]) w:=by kernel_rfl
theorem bCh2 (w:World):(Instr.build 64 #[(2,.int .i64 1)]).run Tryz.prog w=.ok (.agg #[.int .i64 0,.int .i64 0,.int .i64 1,.int .i64 0]) w:=by kernel_rfl
theorem zvE (a:Addr):a.add 0=a:=by unfold Addr.add;split<;>simp_all
theorem zt1 (W:World) (x:Int) (hx:I64 x):SV ((W.alloc (.cells #[.int .i64 x] 3)).alloc (.cells #[.slice (some ⟨W.heap.size,0,none⟩) 1 1] 24)) Any ⟨[[x]],[],[]⟩ (.agg #[.slice (some ⟨W.heap.size+1,0,none⟩) 1 1,.slice none 0 0,.slice none 0 0]):=by
 have k0:=zkr (heap_alloc_new W (.cells #[.int .i64 x] 3)) (.cells #[.slice (some ⟨W.heap.size,0,none⟩) 1 1] 24);have k1:=heap_alloc_new (W.alloc (.cells #[.int .i64 x] 3)) (.cells #[.slice (some ⟨W.heap.size,0,none⟩) 1 1] 24);rw[World.size_alloc] at k1;refine⟨_,1,none,0,none,0,rfl,fun i hi=>?_,fun i hi=>by simp at hi,fun i hi=>by simp at hi,by simp,by simp,by simp,?_⟩
 ·have h0:i=0:=by simp at hi;exact hi
  subst h0;exact⟨⟨W.heap.size+1,0,none⟩,some ⟨W.heap.size,0,none⟩,1,rfl,trivial,zc k1 rfl,by simp,zm9 (xs:=[x]) k0 (by intro y hy;simp at hy;subst hy;exact hx)⟩
 ·exact⟨by simp[LI],fun l hl=>by simp at hl;subst hl;simp[LI],by simp,by simp⟩
theorem pv_T (w2:World):PV ((((w2.alloc (.cells #[.string ⟨#[120]⟩,.int .u8 1,.int .i64 0] 83)).alloc (.cells #[.int .u8 2,.int .i64 0,.string ⟨#[120]⟩,.slice none 0 0,.int .u8 1,.int .i64 1,.string ⟨#[]⟩,.slice none 0 0] 29)).alloc (.cells #[.int .u8 2,.int .i64 0,.string ⟨#[120]⟩,.slice none 0 0,.int .u8 1,.int .i64 1,.string ⟨#[]⟩,.slice none 0 0] 29)).alloc (.cells #[.int .u8 40,.int .i64 0,.string ⟨#[]⟩,.slice (some ⟨w2.heap.size+1,0,none⟩) 2 2,.int .u8 41,.int .i64 0,.string ⟨#[]⟩,.slice (some ⟨w2.heap.size+1+1,0,none⟩) 2 2] 29)) Any pgT (.agg #[.slice (some ⟨w2.heap.size,0,none⟩) 1 1,.slice none 0 0,.int .u8 57,.int .i64 0,.string ⟨#[]⟩,.slice (some ⟨w2.heap.size+1+1+1,0,none⟩) 2 2]):=by
 have n1:=zr3 (w2.alloc (.cells #[.string ⟨#[120]⟩,.int .u8 1,.int .i64 0] 83)) 29 (S:=Any) trivial (fldT 40 0 (by decide) ⟨by decide,by decide⟩) (zsN (W:=w2.alloc (.cells #[.string ⟨#[120]⟩,.int .u8 1,.int .i64 0] 83)) (k:=2) (n:=0) (s:=⟨#[120]⟩) ⟨by decide,⟨by decide,by decide⟩,by decide⟩) (zsN (W:=w2.alloc (.cells #[.string ⟨#[120]⟩,.int .u8 1,.int .i64 0] 83)) (k:=1) (n:=1) (s:=⟨#[]⟩) (fldT 1 1 (by decide) ⟨by decide,by decide⟩))
 have n2:=zr3 ((w2.alloc (.cells #[.string ⟨#[120]⟩,.int .u8 1,.int .i64 0] 83)).alloc (.cells #[.int .u8 2,.int .i64 0,.string ⟨#[120]⟩,.slice none 0 0,.int .u8 1,.int .i64 1,.string ⟨#[]⟩,.slice none 0 0] 29)) 29 (S:=Any) trivial (fldT 41 0 (by decide) ⟨by decide,by decide⟩) (zsN (W:=(w2.alloc (.cells #[.string ⟨#[120]⟩,.int .u8 1,.int .i64 0] 83)).alloc (.cells #[.int .u8 2,.int .i64 0,.string ⟨#[120]⟩,.slice none 0 0,.int .u8 1,.int .i64 1,.string ⟨#[]⟩,.slice none 0 0] 29)) (k:=2) (n:=0) (s:=⟨#[120]⟩) ⟨by decide,⟨by decide,by decide⟩,by decide⟩) (zsN (W:=(w2.alloc (.cells #[.string ⟨#[120]⟩,.int .u8 1,.int .i64 0] 83)).alloc (.cells #[.int .u8 2,.int .i64 0,.string ⟨#[120]⟩,.slice none 0 0,.int .u8 1,.int .i64 1,.string ⟨#[]⟩,.slice none 0 0] 29)) (k:=1) (n:=1) (s:=⟨#[]⟩) (fldT 1 1 (by decide) ⟨by decide,by decide⟩))
 have n3:=zr3 (((w2.alloc (.cells #[.string ⟨#[120]⟩,.int .u8 1,.int .i64 0] 83)).alloc (.cells #[.int .u8 2,.int .i64 0,.string ⟨#[120]⟩,.slice none 0 0,.int .u8 1,.int .i64 1,.string ⟨#[]⟩,.slice none 0 0] 29)).alloc (.cells #[.int .u8 2,.int .i64 0,.string ⟨#[120]⟩,.slice none 0 0,.int .u8 1,.int .i64 1,.string ⟨#[]⟩,.slice none 0 0] 29)) 29 (S:=Any) trivial (fldT 57 0 (by decide) ⟨by decide,by decide⟩) (n1.later (zkd (Below.refl _ _) _)) n2
 have hk:=zkr (zkr (zkr (heap_alloc_new w2 (.cells #[.string ⟨#[120]⟩,.int .u8 1,.int .i64 0] 83)) (.cells #[.int .u8 2,.int .i64 0,.string ⟨#[120]⟩,.slice none 0 0,.int .u8 1,.int .i64 1,.string ⟨#[]⟩,.slice none 0 0] 29)) (.cells #[.int .u8 2,.int .i64 0,.string ⟨#[120]⟩,.slice none 0 0,.int .u8 1,.int .i64 1,.string ⟨#[]⟩,.slice none 0 0] 29)) (.cells #[.int .u8 40,.int .i64 0,.string ⟨#[]⟩,.slice (some ⟨w2.heap.size+1,0,none⟩) 2 2,.int .u8 41,.int .i64 0,.string ⟨#[]⟩,.slice (some ⟨w2.heap.size+1+1,0,none⟩) 2 2] 29);simp only[World.size_alloc] at n1 n2 n3;refine⟨some ⟨w2.heap.size,0,none⟩,1,none,0,_,2,rfl,zsG (vs:=[⟨⟨#[120]⟩,1,0⟩]) hk ?_,by decide,by decide,fun i hi=>by simp[pgT] at hi,by decide,by decide,n3⟩;intro v hv;simp at hv;subst hv;exact⟨by decide,⟨by decide,by decide⟩,by decide,by decide⟩
theorem zqO (w:World):Calls Tryz.prog 23 #[] w fun e w'=>e=.returned (.bool true)/\Below w.heap.size w w':=by
 have h1:=bNx;have h2:=bNo;have h3:=bV2;have h4:=zvz;have h5:=zvA;have h6:=bNkT;have h7:=zvC;have h8:=zoE;have h9:=zvD;have h10:=bS1;go_enter Tryz.func23,Tryz.ntmps23;go_upto_region 3 with fail;have hb2:=zkd (zkd (Below.refl w.heap.size w) (.cells #[.int .u8 2,.int .i64 0,.string ⟨#[120]⟩,.slice none 0 0] 29)) (.cells #[.int .u8 1,.int .i64 1,.string ⟨#[]⟩,.slice none 0 0] 29);have kx:=zkr (heap_alloc_new w (.cells #[.int .u8 2,.int .i64 0,.string ⟨#[120]⟩,.slice none 0 0] 29)) (.cells #[.int .u8 1,.int .i64 1,.string ⟨#[]⟩,.slice none 0 0] 29);have ko:=heap_alloc_new (w.alloc (.cells #[.int .u8 2,.int .i64 0,.string ⟨#[120]⟩,.slice none 0 0] 29)) (.cells #[.int .u8 1,.int .i64 1,.string ⟨#[]⟩,.slice none 0 0] 29);rw[World.size_alloc] at ko
 obtain⟨w2,hw2⟩:∃ x,(w.alloc (.cells #[.int .u8 2,.int .i64 0,.string ⟨#[120]⟩,.slice none 0 0] 29)).alloc (.cells #[.int .u8 1,.int .i64 1,.string ⟨#[]⟩,.slice none 0 0] 29)=x:=⟨_,rfl⟩
 rw[hw2] at hb2 kx ko ⊢;have HB2:=zh hb2;obtain⟨x0,x1,x2,x3⟩:=box4 kx;obtain⟨o0,o1,o2,o3⟩:=box4 ko;have y0:=fun o=>zkj x0 o;have y1:=fun o=>zkj x1 o;have y2:=fun o=>zkj x2 o;have y3:=fun o=>zkj x3 o;have q0:=fun o=>zkj o0 o;have q1:=fun o=>zkj o1 o;have q2:=fun o=>zkj o2 o;have q3:=fun o=>zkj o3 o;have Y0:=fun o p=>zkj (y0 o) p;have Y1:=fun o p=>zkj (y1 o) p;have Y2:=fun o p=>zkj (y2 o) p;have Y3:=fun o p=>zkj (y3 o) p;have Q0:=fun o p=>zkj (q0 o) p;have Q1:=fun o p=>zkj (q1 o) p;have Q2:=fun o p=>zkj (q2 o) p;have Q3:=fun o p=>zkj (q3 o) p;clear hw2 hb2 kx ko x0 x1 x2 x3 o0 o1 o2 o3;go_upto_region 4 with fail;have hn:=pv_T w2
 have kp:=heap_alloc_new (((((w2.alloc (.cells #[.string ⟨#[120]⟩,.int .u8 1,.int .i64 0] 83)).alloc (.cells #[.int .u8 2,.int .i64 0,.string ⟨#[120]⟩,.slice none 0 0,.int .u8 1,.int .i64 1,.string ⟨#[]⟩,.slice none 0 0] 29)).alloc (.cells #[.int .u8 2,.int .i64 0,.string ⟨#[120]⟩,.slice none 0 0,.int .u8 1,.int .i64 1,.string ⟨#[]⟩,.slice none 0 0] 29)).alloc (.cells #[.int .u8 40,.int .i64 0,.string ⟨#[]⟩,.slice (some ⟨w2.heap.size+1,0,none⟩) 2 2,.int .u8 41,.int .i64 0,.string ⟨#[]⟩,.slice (some ⟨w2.heap.size+1+1,0,none⟩) 2 2] 29))) (.cells #[.slice (some ⟨w2.heap.size,0,none⟩) 1 1,.slice none 0 0,.int .u8 57,.int .i64 0,.string ⟨#[]⟩,.slice (some ⟨w2.heap.size+1+1+1,0,none⟩) 2 2] 35);simp only[World.size_alloc] at kp
 have hb3:=zkd (zkd (zkd (zkd (zkd (Below.refl w2.heap.size w2) (.cells #[.string ⟨#[120]⟩,.int .u8 1,.int .i64 0] 83)) (.cells #[.int .u8 2,.int .i64 0,.string ⟨#[120]⟩,.slice none 0 0,.int .u8 1,.int .i64 1,.string ⟨#[]⟩,.slice none 0 0] 29)) (.cells #[.int .u8 2,.int .i64 0,.string ⟨#[120]⟩,.slice none 0 0,.int .u8 1,.int .i64 1,.string ⟨#[]⟩,.slice none 0 0] 29)) (.cells #[.int .u8 40,.int .i64 0,.string ⟨#[]⟩,.slice (some ⟨w2.heap.size+1,0,none⟩) 2 2,.int .u8 41,.int .i64 0,.string ⟨#[]⟩,.slice (some ⟨w2.heap.size+1+1,0,none⟩) 2 2] 29)) (.cells #[.slice (some ⟨w2.heap.size,0,none⟩) 1 1,.slice none 0 0,.int .u8 57,.int .i64 0,.string ⟨#[]⟩,.slice (some ⟨w2.heap.size+1+1+1,0,none⟩) 2 2] 35)
 obtain⟨w3,hw3⟩:∃ x,(((((w2.alloc (.cells #[.string ⟨#[120]⟩,.int .u8 1,.int .i64 0] 83)).alloc (.cells #[.int .u8 2,.int .i64 0,.string ⟨#[120]⟩,.slice none 0 0,.int .u8 1,.int .i64 1,.string ⟨#[]⟩,.slice none 0 0] 29)).alloc (.cells #[.int .u8 2,.int .i64 0,.string ⟨#[120]⟩,.slice none 0 0,.int .u8 1,.int .i64 1,.string ⟨#[]⟩,.slice none 0 0] 29)).alloc (.cells #[.int .u8 40,.int .i64 0,.string ⟨#[]⟩,.slice (some ⟨w2.heap.size+1,0,none⟩) 2 2,.int .u8 41,.int .i64 0,.string ⟨#[]⟩,.slice (some ⟨w2.heap.size+1+1,0,none⟩) 2 2] 29))).alloc (.cells #[.slice (some ⟨w2.heap.size,0,none⟩) 1 1,.slice none 0 0,.int .u8 57,.int .i64 0,.string ⟨#[]⟩,.slice (some ⟨w2.heap.size+1+1+1,0,none⟩) 2 2] 35)=x:=⟨_,rfl⟩
 obtain⟨pb,hpb⟩:∃ x,w2.heap.size+1+1+1+1=x:=⟨_,rfl⟩
 rw[hw3] at kp hb3 ⊢;rw[hpb] at kp ⊢;have HP:=zh (fun w' (hb:Below w3.heap.size w3 w')=>PV.later hn (zka (hw3▸zkd (Below.refl _ _) _) hb));have HB3:=zh (zka HB2.out hb3);have z0:w3.cell? ⟨pb,0,none⟩=some (.slice (some ⟨w2.heap.size,0,none⟩) 1 1):=zc kp rfl;have z1:w3.cell? ⟨pb,1,none⟩=some (.slice none 0 0):=zc kp rfl;have z2:w3.cell? ⟨pb,2,none⟩=some (.int .u8 57):=zc kp rfl;have z3:w3.cell? ⟨pb,3,none⟩=some (.int .i64 0):=zc kp rfl;have z4:w3.cell? ⟨pb,4,none⟩=some (.string ⟨#[]⟩):=zc kp rfl;have z5:w3.cell? ⟨pb,5,none⟩=some (.slice (some ⟨w2.heap.size+1+1+1,0,none⟩) 2 2):=zc kp rfl;clear y0 y1 y2 y3 q0 q1 q2 q3 Y0 Y1 Y2 Y3 Q0 Q1 Q2 Q3 kp hw3 hpb hn hb3;go_wp2_with fail;have hbf:=zkd (zkd (Below.refl w3.heap.size w3) (.cells #[.int .i64 0] 3)) (.cells #[.slice (some ⟨w3.heap.size,0,none⟩) 1 1] 24)
 have rU:=zh (zvb pgT ⟨[[0]],[],[]⟩ 9 20000 _ _ _ (HP.out _ hbf) (zt1 w3 0 ⟨by decide,by decide⟩) (by decide) ⟨by decide,by decide⟩ (by decide) (by decide) (zul gbT) (zs5 gbT));refine rU.out.mono ?_;rintro e4 w4 ⟨hb4,⟨hne,-⟩|⟨-,S',L,ev,qW,-,-,-,rfl,hev,-⟩⟩
 ·exact absurd awT hne
 rw[TgT qW] at hev;obtain⟨g,cap,e4,rA⟩:=hev.nd (by decide);change ev=.slice (some ⟨g,0,none⟩) 2 cap at e4;subst e4;obtain⟨A0,c0,f0,r0⟩:=rA 0 (by decide);obtain⟨A1,c1,f1,r1⟩:=rA 1 (by decide);obtain⟨a0,rfl,-,m0,m1,m2,m3⟩:=r0 0 (by decide);obtain⟨a1,rfl,-,n0,n1,n2,n3⟩:=r1 0 (by decide);change w4.cell? ⟨g,0,none⟩=some (.slice (some a0) 1 c0) at f0;change w4.cell? ⟨g,1,none⟩=some (.slice (some a1) 1 c1) at f1;simp only[Nat.zero_mul,zvE] at m0 m1 m2 m3 n0 n1 n2 n3;change w4.cell? a0=some (.int .i64 0) at m0;change w4.cell? _=some (.int .i64 0) at m1;change w4.cell? _=some (.int .i64 0) at m2;change w4.cell? _=some (.int .i64 1) at m3;change w4.cell? a1=some (.int .i64 0) at n0;change w4.cell? _=some (.int .i64 0) at n1;change w4.cell? _=some (.int .i64 1) at n2;change w4.cell? _=some (.int .i64 0) at n3;have hc3:=bCh3;have hc2:=bCh2;have az:=zh (zka HB3.out (zka hbf hb4))
 clear hev qW hb4 hbf rU HP z0 z1 z2 z3 z4 z5 r0 r1 rA h1 h2 h3 h4 h5 h6 h7 h8 h9 h10;go_wp2_with fail;go_ret;exact⟨rfl,az.out⟩
structure SQ where
 len:Int
 el:List Int
def ext (l:List Int) (n:Nat):List Int:=l++List.replicate (n-l.length) 0
def chgQ (q:SQ) (c:CH):Int×SQ :=
 if c.at' < -1\/4096<=c.at' then (2,q)
 else if c.at' = -1/\(c.new<0\/4096<c.new) then (2,q)
 else if c.at' = -1/\c.old≠q.len then (20,q)
 else if c.at' = -1 then (0,{ q with len:=c.new })
 else if c.old≠q.el.getD c.at'.toNat 0 then (20,q)
 else (0,{ q with el:=(ext q.el (c.at'.toNat+1)).set c.at'.toNat c.new })
def lstQ (q:SQ):Option (List Int) :=
 if ((ext q.el q.len.toNat).drop q.len.toNat).all (fun x=>decide (x=0))=true then some ((ext q.el q.len.toNat).take q.len.toNat) else none
abbrev QM:=Int->Option SQ
def QM.put (m:QM) (c:Int) (q:SQ):QM:=fun d=>if d=c then some q else m d
theorem QM.put_same (m:QM) (c:Int) (q:SQ):m.put c q c=some q:=if_pos rfl
def zlh:QM->List CH->Int×QM
 | m,[]=>(0,m)
 | m,c::l=>match m c.cell with
  | none=>(2,m)
  | some q=>if (chgQ q c).1≠0 then ((chgQ q c).1,m) else zlh (m.put c.cell (chgQ q c).2) l
def QM.of (s:SS):QM:=fun c=>if c∈zkl s.cells.length then some ⟨(part s c).length,part s c⟩ else none
def zqw (m:QM):List Int->Option (List (List Int))
 | []=>some []
 | c::l=>match m c with
  | none=>none
  | some q=>match lstQ q with
   | none=>none
   | some x=>(zqw m l).map (x :: ·)
def zkw (s:SS) (l:List CH):Int×SS :=
 if (zlh (QM.of s) l).1≠0 then ((zlh (QM.of s) l).1,⟨[],[],[]⟩)
 else match zqw (zlh (QM.of s) l).2 (zkl s.cells.length) with
  | none=>(20,⟨[],[],[]⟩)
  | some ls=>(0,⟨ls.take s.cells.length,(ls.getD s.cells.length []).reverse,ls.getD (s.cells.length+1) []⟩)
theorem zoB (l:List Int) (n:Nat):(ext l n).length=max l.length n:=by
 unfold ext;simp;omega
theorem zpx (n:Nat):(zkl n).Nodup:=by
 unfold zkl;rw[List.nodup_append];refine⟨?_,by decide,fun a ha b hb=>?_⟩
 ·unfold List.Nodup;rw[List.pairwise_map];exact List.nodup_range.imp fun h e=>h (Int.ofNat.inj e)
 ·obtain⟨i,-,rfl⟩:=List.mem_map.1 ha;have:b = -1\/b = -2:=by simpa using hb
  intro e;have:(Int.ofNat i:Int)=(i:Int):=rfl;omega
end Go.Proofs.YtckhofdinldhpaaGreat
