/-
  Texts of the proof, put together without their remarks: RgI, Rf, Rws, Sr, Scf, Ar, Ast, Ast2, Ev, Sq, Stk, Ss.
-/
import Derived.Test.YtckhofdinldhpaaGreatR1
import Derived.RangeFuncNested
import Derived.RangeFuncBound
import Derived.RangeFuncCalls
import Derived.RangeFuncLeaves
import Derived.OwnWalkIn
import Derived.TacticsInMore
import Derived.LoopNIn
import Derived.LoopIn
import Derived.OrdersIn
import Derived.Laws.EntriesVeiled
import Derived.Deep.DeepCutAuto
set_option linter.unusedSimpArgs false
set_option linter.unusedVariables false
set_option maxHeartbeats 8000000
set_option maxRecDepth 100000
namespace Go.Proofs.YtckhofdinldhpaaGreat
open Go
abbrev Fw (ro:Option Nat):Fence:={ Fence.wide with round:=ro }
def zps (ops:Array Oper):Bool:=ops.all fun o=>match o.op with|.defer _=>false|_=>true
theorem zl0 {ops:Array Oper} (h:zps ops=true) {j:Nat} {o:Oper} (hj:ops[j]?=some o):∀ c,o.op ≠ .defer c:=fun c e=>by
 have hm:o∈ops:=Array.mem_of_getElem? hj;have:=(Array.all_eq_true_iff_forall_mem.1 h) o hm;rw[e] at this
 cases this
section
variable {ro:Option Nat} {n:Nat} {P:Program} {ops:Array Oper} {Q:Exit->Act->World->Prop} {md:Region.Mode}
theorem zKI {row:String} {args:Array Value} {w:World} {R:Value->World->Prop} (h:Rows P row args w R):RowsIn (Fw ro) n P row args w R :=
 fun c cs _=>let ⟨v,w',r,s⟩:=h c cs;⟨v,w',r,stepsIn_wide.2 s⟩
theorem zp4 {o:Oper} {a:Act} {w:World} {K:Act->World->Prop} (hnd:∀ c,o.op ≠ .defer c) (h:o.wp P a w K Q):o.wpIn (Fw ro) n P a w K Q:=by
 refine⟨fun _ _=>trivial,?_⟩;rw[Oper.semAt_eq _ _ _ hnd];unfold Oper.wp at h;generalize (execOp a.eval o).run P w=r at *
 cases r with
 | ok x w' =>
  cases x<;>simp only[Oper.upon,Oper.uponIn] at h ⊢
  case value=>exact h
  case skip=>exact h
  case defer=>exact h
  case enter f args =>
   have h':CallsIn Fence.wide (n-1) P f args w' _:=callsIn_wide.2 h;exact⟨(fun e=>by cases e),h'⟩
  case row row args=>exact⟨(fun e=>by cases e),zKI h⟩
 | halt x w'=>cases x<;>simp only[Oper.upon,Oper.uponIn] at h ⊢ <;> exact h
theorem YieldsIf.wpOpI {S:World->Prop} {i:Nat} {o:Oper} {v:Value} {a:Act} (hnd:∀ c,o.op ≠ .defer c) (hi:ops[i]?=some o) (hy:YieldsIf P ops S o v a)
  {K:Act->World->Prop} {w:World} (hS:S w) (h:K (a.put o.dst v) w):wpOpIn (Fw ro) n P ops Q i K a w:=by
 unfold Go.wpOpIn;simp only[hi];rcases hy with⟨hw,hv⟩|⟨hw,rfl⟩
 ·simp only[hw,if_true];refine zp4 hnd ?_;simp only[Oper.wp,hv w hS,Oper.upon];exact h
 ·simp only[hw,Bool.false_eq_true,if_false];exact⟨fun _ _=>trivial,h⟩
theorem zsh {S:World->Prop} {j:Nat} {oi oj:Oper} {v:Value} (hnd:∀ c,oj.op ≠ .defer c) (hj:ops[j]?=some oj) (hap:oi.apart ops oj=true)
  (hsi:∀ cs b,oi.op ≠ .select cs b) (hsj:∀ cs b,oj.op ≠ .select cs b)
  (hQ:∀ c a w,Q (.panic c) (a.put oi.dst v) w->Q (.panic c) a w) {K:Act->World->Prop} {a:Act} {w:World}
  (hy:YieldsIf P ops S oi v a) (h:wpOpIn (Fw ro) n P ops Q j K (a.put oi.dst v) w) :
  wpOpIn (Fw ro) n P ops Q j (fun a' w'=>YieldsIf P ops S oi v a'/\K (a'.put oi.dst v) w') a w:=by
 obtain⟨h1,h2,h3⟩:=Oper.apart_spec hap;have keep:∀ (a:Act),YieldsIf P ops S oi v a->∀ u,YieldsIf P ops S oi v (a.put oj.dst u):=fun a hy u =>
  hy.of_same (execOp_put oi hsi a oj.dst u h3) (wanted_put oi a oj.dst u h3)
 have keepD:∀ d,YieldsIf P ops S oi v { a with defers:=d::a.defers }:=fun d=>hy.of_same rfl rfl;unfold wpOpIn at *
 simp only[hj] at *
 rw[wanted_put oj a oi.dst v h1] at h
 split
 ·rename_i hw;simp only[hw,if_true] at h;unfold Oper.wpIn at *
  refine⟨fun _ _=>trivial,?_⟩;have h:=h.2;rw[Oper.semAt_eq _ _ _ hnd,execOp_put oj hsj a oi.dst v h1] at h;rw[Oper.semAt_eq _ _ _ hnd];generalize (execOp a.eval oj).run P w=r at *
  cases r with
  | ok x w' =>
   cases x<;>simp only[Oper.uponIn] at h ⊢
   case value u=>exact⟨keep a hy u,by rw[<-Act.put_comm a v u h2];exact h⟩
   case skip=>exact⟨keep a hy _,by rw[<-Act.put_comm a v undef h2];exact h⟩
   case defer d =>
    refine⟨keep _ (keepD d) _,?_⟩;rw[<-Act.put_comm _ v undef h2,<-Act.put_defers];exact h
   case enter f args =>
    refine⟨h.1,CallsIn.mono h.2 fun e w'' he=>?_⟩
    cases e with
    | returned u=>exact⟨keep a hy u,by rw[<-Act.put_comm a v u h2];exact he⟩
    | panicked c=>exact hQ _ _ _ he
    | outgrown=>exact he
   case row row args=>exact⟨h.1,RowsIn.mono h.2 fun u w'' he=>⟨keep a hy u,by rw[<-Act.put_comm a v u h2];exact he⟩⟩
   case round l f tmps assign body =>
    refine⟨h.1,RoundIn.mono h.2 fun e w'' he=>?_⟩
    cases e with
    | returned u=>exact⟨keep a hy u,by rw[<-Act.put_comm a v u h2];exact he⟩
    | panicked c=>exact hQ _ _ _ he
    | outgrown=>exact he
  | halt x w' =>
   cases x<;>simp only[Oper.uponIn] at h ⊢
   case panic u=>exact hQ _ _ _ h
 ·rename_i hw;simp only[hw] at h;exact⟨fun _ _=>trivial,keep a hy _,by rw[<-Act.put_comm a v undef h2];exact h.2⟩
def wpI (ro:Option Nat) (n:Nat) (P:Program) (md:Region.Mode) (ops:Array Oper) (Q:Exit->Act->World->Prop) (S:World->Prop):Nat->Array Bool->Act->World->Prop
 | 0,listed,a,w=>Region.ready md ops listed=[]/\Q .normal a w
 | fuel+1,listed,a,w =>
  (Region.ready md ops listed=[]->Q .normal a w) /\
  ∀ i∈Region.ready md ops listed,wpOpIn (Fw ro) n P ops Q i (fun a' w'=>S w'/\wpI ro n P md ops Q S fuel (listed.setIfInBounds i true) a' w') a w
variable {S:World->Prop}
theorem zp6:∀ (fuel:Nat) (listed:Array Bool) (a:Act) (w:World),wpI ro n P md ops Q S fuel listed a w->wpAnyIn (Fw ro) n P md ops Q fuel listed a w
 | 0,_,_,_,h=>h
 | fuel+1,_,_,_,h=>⟨h.1,fun i hi=>wpOpIn_mono (fun a' w' h'=>zp6 fuel _ a' w' h'.2) (h.2 i hi)⟩
theorem zuS {i:Nat} {oi:Oper} {v:Value} (hnd:zps ops=true) (hi:ops[i]?=some oi) (hsel:∀ (j:Nat) (o:Oper) cs b,ops[j]?=some o->o.op ≠ .select cs b)
  (hQ:∀ c a w,Q (.panic c) (a.put oi.dst v) w->Q (.panic c) a w) :
  ∀ (fuel:Nat) (listed:Array Bool) (a:Act) (w:World),
   (∀ j oj,ops[j]?=some oj->j≠i->listed.getD j true=false->(∀ e∈oj.after,Region.binds md e=true->e.on≠i)->oi.apart ops oj=true) ->
   i∈Region.ready md ops listed->YieldsIf P ops S oi v a->S w ->
   wpI ro n P md ops Q S fuel (listed.setIfInBounds i true) (a.put oi.dst v) w->wpI ro n P md ops Q S (fuel+1) listed a w:=by
 intro fuel
 induction fuel with
 | zero =>
  intro listed a w _ hr hy hS H;refine⟨fun h=>(by rw[h] at hr;cases hr),fun j hj=>?_⟩;by_cases hji:j=i
  ·subst hji;exact YieldsIf.wpOpI (zl0 hnd hi) hi hy hS ⟨hS,H⟩
  ·have:=ready_mono hj hji;rw[H.1] at this
   cases this
 | succ fuel ih =>
  intro listed a w hfree hr hy hS H;refine⟨fun h=>(by rw[h] at hr;cases hr),fun j hj=>?_⟩;by_cases hji:j=i
  ·subst hji;exact YieldsIf.wpOpI (zl0 hnd hi) hi hy hS ⟨hS,H⟩
  ·have h1:=H.2 j (ready_mono hj hji);obtain⟨hjun,oj,hoj,hall⟩:=mem_ready.1 hj;have hnot:∀ e∈oj.after,Region.binds md e=true->e.on≠i:=fun e he hb heq=>by
    have h1:=hall e he hb;have h0:=(mem_ready.1 hr).1;rw[heq] at h1;rcases Nat.lt_or_ge i listed.size with h'|h'
    ·simp[h'] at h0 h1;rw[h0] at h1;cases h1
    ·simp[Array.getElem?_eq_none h'] at h1
   have h2:=zsh (zl0 hnd hoj) hoj (hfree j oj hoj hji hjun hnot) (fun cs b=>hsel i oi cs b hi) (fun cs b=>hsel j oj cs b hoj) hQ hy h1;have hfree':∀ k ok,ops[k]?=some ok->k≠i->(listed.setIfInBounds j true).getD k true=false ->
     (∀ e∈ok.after,Region.binds md e=true->e.on≠i)->oi.apart ops ok=true:=fun k ok hk hki hun hno=>by
    refine hfree k ok hk hki ?_ hno;by_cases hjk:j=k
    ·subst hjk;exact hjun
    ·rw[getD_set_ne true hjk] at hun;exact hun
   refine wpOpIn_mono (fun a' w' h3=>?_) h2;obtain⟨hy',hs1,hW⟩:=h3;refine⟨hs1,ih (listed.setIfInBounds j true) a' w' hfree' (ready_mono hr (Ne.symm hji)) hy' hs1 ?_⟩;rw[Array.setIfInBounds_comm _ _ hji];exact hW
theorem znX {i:Nat} {oi:Oper} {v:Value} {fuel:Nat} {listed:Array Bool} {a:Act} {w:World} (hi:ops[i]?=some oi) (hnd:zps ops=true)
  (hs:Region.noSelect ops=true) (hf:Region.free md ops listed i=true) (hr:(Region.ready md ops listed).contains i=true)
  (hQ:∀ c a w,Q (.panic c) (a.put oi.dst v) w->Q (.panic c) a w) (hy:YieldsIf P ops S oi v a) (hS:S w)
  (h:wpI ro n P md ops Q S fuel (listed.setIfInBounds i true) (a.put oi.dst v) w):wpI ro n P md ops Q S (fuel+1) listed a w :=
 zuS hnd hi (Region.noSelect_spec hs) hQ fuel listed a w (Region.free_spec hi hf) (by simpa using hr) hy hS h
theorem zuR {i:Nat} {o:Oper} {fuel:Nat} {listed:Array Bool} {a:Act} {w:World} (hr:Region.ready md ops listed=[i]) (ho:ops[i]?=some o) (hnd:zps ops=true)
  (hw:Region.wanted o (yielded ops a.tmps)=true)
  (h:∀ K':Act->World->Prop,Shut (∀ a w,S w->wpI ro n P md ops Q S fuel (listed.setIfInBounds i true) a w->K' a w)->if Region.wanted o (yielded ops a.tmps)=true then Oper.wp P o a w K' Q else K' (a.put o.dst undef) w) :
  wpI ro n P md ops Q S (fuel+1) listed a w:=by
 refine⟨(fun h0=>by rw[hr] at h0;cases h0),fun j hj=>?_⟩;rw[hr] at hj;simp only[List.mem_singleton] at hj;subst hj;unfold wpOpIn;have:=h _ (fun a w hS hW=>(⟨hS,hW⟩:S w/\wpI ro n P md ops Q S fuel (listed.setIfInBounds j true) a w));rw[if_pos hw] at this;simp only[ho,hw,if_true];exact zp4 (zl0 hnd ho) this
theorem zuQ {i:Nat} {o:Oper} {fuel:Nat} {listed:Array Bool} {a:Act} {w:World} (hr:Region.ready md ops listed=[i]) (ho:ops[i]?=some o) (hnd:zps ops=true)
  (hw:Region.wanted o (yielded ops a.tmps)=true) {l:Nat} {f:FuncId} {tmps:Array Value} {assign body:Code}
  (hx:(execOp a.eval o).run P w=.ok (.round l f tmps assign body) w) {R:Ending->World->Prop} (hR:RoundIn (Fw ro) (n-1) P l f tmps assign body w R)
  (h:∀ e w',R e w'->∃ v,e=.returned v/\S w'/\wpI ro n P md ops Q S fuel (listed.setIfInBounds i true) (a.put o.dst v) w') :
  wpI ro n P md ops Q S (fuel+1) listed a w:=by
 refine⟨(fun h0=>by rw[hr] at h0;cases h0),fun j hj=>?_⟩;rw[hr] at hj;simp only[List.mem_singleton] at hj;subst hj;unfold wpOpIn;simp only[ho,hw,if_true];refine⟨fun _ _=>trivial,?_⟩;rw[Oper.semAt_eq _ _ _ (zl0 hnd ho),hx];refine⟨(fun e=>by cases e),hR.mono fun e w' hr=>?_⟩;obtain⟨v,rfl,hS,hW⟩:=h e w' hr;exact⟨hS,hW⟩
theorem ztb {fuel:Nat} {listed:Array Bool} {a:Act} {w:World} (hr:Region.ready md ops listed=[]) (h:Q .normal a w):wpI ro n P md ops Q S fuel listed a w:=by
 cases fuel with
 | zero=>exact⟨hr,h⟩
 | succ fuel=>exact⟨fun _=>h,fun i hi=>by rw[hr] at hi;cases hi⟩
theorem zqJ {id:Nat} {a:Act} {w:World} (S:World->Prop) (hm:P.follows .mixedOrders=true)
  (h:wpI ro n P .any ops Q S ops.size (Array.replicate ops.size false) a w.drew):(Code.region id ops true).wpIn (Fw ro) n P Q a w :=
 wpIn_region_any hm (zp6 _ _ _ _ h)
end
end Go.Proofs.YtckhofdinldhpaaGreat
namespace Go.Proofs.YtckhofdinldhpaaGreat
open Go Go.RowKit
structure Chg (C:Nat->Prop) (w w':World):Prop where
 os:w'.os=w.os
 tape:w'.tape=w.tape
 output:w'.output=w.output
 size:w.heap.size<=w'.heap.size
 block:∀ b,b<w.heap.size->¬ C b->w'.heap[b]?=w.heap[b]?
section
variable {C C':Nat->Prop} {w w' w'':World}
theorem Chg.refl (C:Nat->Prop) (w:World):Chg C w w:=⟨rfl,rfl,rfl,Nat.le_refl _,fun _ _ _=>rfl⟩
theorem Chg.trans (h:Chg C w w') (h':Chg C w' w''):Chg C w w'' :=
 ⟨h'.os.trans h.os,h'.tape.trans h.tape,h'.output.trans h.output,Nat.le_trans h.size h'.size,fun b hb hc=>(h'.block b (Nat.lt_of_lt_of_le hb h.size) hc).trans (h.block b hb hc)⟩
theorem Chg.mono (h:Chg C w w') (hC:∀ b,b<w.heap.size->C b->C' b):Chg C' w w':=⟨h.os,h.tape,h.output,h.size,fun b hb hc=>h.block b hb fun h=>hc (hC b hb h)⟩
theorem Chg.trans2 (h:Chg C w w') (h':Chg C' w' w'') (hC:∀ b,b<w.heap.size->C' b->C b):Chg C w w'' :=
 ⟨h'.os.trans h.os,h'.tape.trans h.tape,h'.output.trans h.output,Nat.le_trans h.size h'.size,fun b hb hc=>(h'.block b (Nat.lt_of_lt_of_le hb h.size) fun h=>hc (hC b hb h)).trans (h.block b hb hc)⟩
theorem Chg.of_below (h:Below w.heap.size w w'):Chg C w w':=⟨h.os,h.tape,h.output,h.size,fun b hb _=>h.block b hb⟩
theorem Chg.alloc (h:Chg C w w') (o:Obj):Chg C w (w'.alloc o):=h.trans (Chg.of_below ((Below.refl _ _).alloc (Nat.le_refl _) o))
theorem Chg.drew (h:Chg C w w'):Chg C w w'.drew:=h.trans (Chg.of_below (Below.refl _ _).drew)
theorem Chg.setCell (h:Chg C w w') {p:Addr} (hp:C p.block\/w.heap.size<=p.block) (v:Value):Chg C w (w'.setCell p v) :=
 have hs:Below p.block w' (w'.setCell p v):=(Below.refl _ _).setCell (Nat.le_refl _) v
 ⟨hs.os.trans h.os,hs.tape.trans h.tape,hs.output.trans h.output,Nat.le_trans h.size hs.size,fun b hb hc=>by
  rw[Below.heap_setCell _ _ _ _ (by rintro rfl;rcases hp with hp|hp;exact hc hp;omega)];exact h.block b hb hc⟩
theorem Chg.below {B:Nat} (h:Chg C w w') (hB:B<=w.heap.size) (hC:∀ b,C b->B<=b):Below B w w' :=
 ⟨h.os,h.tape,h.output,h.size,fun b hb=>h.block b (by omega) fun hc=>by have:=hC b hc;omega⟩
theorem Chg.putObj (w:World) (l:Nat) (o:Obj):Chg (· = l) w (w.putObj l o) :=
 ⟨rfl,rfl,rfl,by simp[World.putObj],fun b _ hc=>World.putObj_heap_other hc⟩
theorem Chg.keep {b:Nat} {o:Obj} (h:Chg C w w') (hb:w.heap[b]?=some o) (hc:¬ C b):w'.heap[b]?=some o :=
 (h.block b (Array.getElem?_eq_some_iff.1 hb).1 hc).trans hb
theorem Chg.row {row:Option Nat} (h:w.grownBy w' row):Chg (fun b=>row=some b) w w':=⟨h.os,h.tape,h.output,h.size,fun b hb hc=>h.block b hb fun e=>hc e.symm⟩
end
def zLh (n:Nat) (P:Program) (gf:FuncId) (lb:Array Value) (xs:List T) (R:Nat->Prop) (W:World):Prop :=
 ∀ (l:Nat) (J Jx:List T->(Nat->Prop)->World->Prop) (C:Nat->Prop) (W1:World),l<W1.heap.size->(∀ b,C b->¬ R b)->Chg C W W1 ->
  (∀ pre C W W',J pre C W->Chg (fun b=>¬ C b) W W'->J pre C W')->(∀ pre C W,J pre C W->∀ b,C b->b<W.heap.size) ->
  (∀ pre x C W pv v,J pre C W->(pre++[x]) <+: xs->(∃ A m c,pv=.slice A m c)->NV W (fun b=>l<b) x v ->
   YieldAt (Fw none) (n-1) P l #[pv,v] W fun e W' =>
    (e=.returned (.bool true)/\∃ C',J (pre++[x]) C' W'/\(∀ b,C' b->C b\/W.heap.size<=b)/\Chg C W W') \/
    (e=.returned (.bool false)/\∃ C',Jx (pre++[x]) C' W'/\Chg C W W')) ->
  J [] C W1 ->
  CallsIn (Fw none) n P gf (#[.func (.yield l) #[] #[]]++lb) W1 fun e W'=>(∃ v,e=.returned v)/\((∃ C',J xs C' W'/\Chg C W1 W')\/(∃ pre C',Jx pre C' W'/\Chg C W1 W'))
def zKN (I Ix:List T->(Nat->Prop)->World->Prop) (pre:List T) (C:Nat->Prop) (W:World):Exit->Act->World->Prop
 | .normal,_,W'=>∃ C',I pre C' W'/\(∀ b,C' b->C b\/W.heap.size<=b)/\Chg C W W'
 | .ret,_,W'=>∃ C',Ix pre C' W'/\(∀ b,C' b->C b\/W.heap.size<=b)/\Chg C W W'
 | _,_,_=>False
theorem zqb {n:Nat} {P:Program} {g:Operand} {ps:Array Tmp} {assign body:Code} {Q:Exit->Act->World->Prop} {a:Act} {w:World} {gf:FuncId} {lb:Array Value} {xs:List T} {R:Nat->Prop}
  (hg:a.eval g=.func (.func gf) #[] lb) (eg:∀ args w,(callFunc gf args).run P w=.ok (.enter gf args) w) (hseq:zLh (n-1) P gf lb xs R w) (hps:ps.size=2)
  (I Ix:List T->(Nat->Prop)->World->Prop) (C0:Nat->Prop) (hI:∀ pre C W W',I pre C W->Chg (fun b=>¬ C b) W W'->I pre C W') (hIx:∀ pre C W W',Ix pre C W->Chg (fun b=>¬ C b) W W'->Ix pre C W')
  (hIlt:∀ pre C W,I pre C W->∀ b,C b->b<W.heap.size) (hIxlt:∀ pre C W,Ix pre C W->∀ b,C b->b<W.heap.size) (hC:∀ b,C0 b->¬ R b) (hRlt:∀ b,R b->b<w.heap.size) (h0:I [] C0 w)
  (hround:∀ l pre x C W pv v,I pre C W->¬ C l->w.heap.size<=l->l<W.heap.size->(pre++[x]) <+: xs->(∃ A m c,pv=.slice A m c)->NV W (fun b=>l<b) x v ->
   assign.wpIn (Fw (some l)) (n-1-1) P (Exit.then (fun a1 W1=>Chg C W W1/\∀ W2,Chg (· = l) W1 W2->body.wpIn (Fw (some l)) (n-1-1) P (zKN I Ix (pre++[x]) C W2) a1 W2) (fun _ _ _=>False))
    { tmps:=(ps.zip #[pv,v]).foldl (fun t (p,v)=>t.setIfInBounds p v) a.tmps,defers:=[] } W)
  (hdone:∀ D C W',w.heap.size<=D->I xs C W'->Chg C0 w W'->W'.heap[D]?=some (.deferred (some []))->Q .normal { a with defers:={ target:=.collected D,args := #[] }::a.defers } W')
  (hstop:∀ D pre C W',w.heap.size<=D->Ix pre C W'->Chg C0 w W'->W'.heap[D]?=some (.deferred (some []))->Code.ret.wpIn (Fw none) n P Q { a with defers:={ target:=.collected D,args := #[] }::a.defers } W') :
  (Code.rangeFunc g ps assign body).wpIn (Fw none) n P Q a w:=by
 refine wpIn_rangeFunc ?_;intro fn hfn;obtain⟨rec,hrec⟩:∃ rec:LoopState->Option Code->Loop,rec=fun st pe=>{ state:=st,pending:=pe,fn,tmps:=a.tmps,params:=ps,assign,body,defers:=w.heap.size }:=⟨_,rfl⟩
 obtain⟨W1,hW1⟩:∃ W1,(w.alloc (.deferred (some []))).alloc (.loop (rec .ready none))=W1:=⟨_,rfl⟩
 have hL1:W1.heap[w.heap.size+1]?=some (.loop (rec .ready none)):=by
  rw[<-hW1];have:=World.alloc_heap_new (w.alloc (.deferred (some []))) (.loop (rec .ready none));rwa[World.size_alloc] at this
 have hK1:W1.heap[w.heap.size]?=some (.deferred (some [])):=by
  rw[<-hW1];exact(Below.heap_alloc _ _ _ (by simp)).trans (World.alloc_heap_new w _)
 have hb1:Below w.heap.size w W1:=by rw[<-hW1];exact((Below.refl _ w).alloc (Nat.le_refl _) _).alloc (by simp) _
 have hI1:I [] C0 W1:=hI _ _ _ _ h0 (Chg.of_below hb1);have hC0lt:∀ b,C0 b->b<w.heap.size:=hIlt _ _ _ h0;refine⟨w.heap.size+1,[{ target:=.collected w.heap.size,args := #[] }],W1,{ target:=.fn (.func gf) lb,args := #[.func (.yield (w.heap.size+1)) #[] #[]] },W1,gf,
  #[.func (.yield (w.heap.size+1)) #[] #[]]++lb,W1,?_,?_,(fun _ _=>trivial),?_,(fun e=>by cases e),?_⟩
 ·rw[<-hW1,hrec];exact run_enterLoop_outer _ _ _ _ _
 ·simp only[resolve,hg];simp[go_sem]
 ·simp[invoke,go_sem,eg]
 ·refine(hseq (w.heap.size+1)
   (fun pre C' W=>∃ C,(∀ b,C' b↔C b\/b=w.heap.size+1\/b=w.heap.size)/\I pre C W/\¬ C (w.heap.size+1)/\¬ C w.heap.size/\(∀ b,C b->b<w.heap.size->C0 b)/\W.heap[w.heap.size+1]?=some (.loop (rec .ready none))/\W.heap[w.heap.size]?=some (.deferred (some [])))
   (fun pre C' W=>∃ C,Ix pre C W/\¬ C (w.heap.size+1)/\W.heap[w.heap.size+1]?=some (.loop (rec .done (some .ret)))/\W.heap[w.heap.size]?=some (.deferred (some [])))
   (fun b=>C0 b\/b=w.heap.size+1\/b=w.heap.size) W1 (Array.getElem?_eq_some_iff.1 hL1).1 ?_ (Chg.of_below hb1) ?_ ?_ ?_ ⟨C0,fun _=>Iff.rfl,hI1,(fun h=>by have:=hC0lt _ h;omega),(fun h=>by have:=hC0lt _ h;omega),(fun _ h _=>h),hL1,hK1⟩).mono ?_
  ·intro b hb hr;have:=hRlt b hr;rcases hb with hb|hb|hb
   ·exact hC b hb hr
   ·omega
   ·omega
  ·rintro pre C' W W' ⟨C,hC',hi,h1,h2,h3,hl,hk⟩ hch;refine⟨C,hC',hI _ _ _ _ hi (hch.mono fun b _ hb hc=>hb ((hC' b).2 (.inl hc))),h1,h2,h3,hch.keep hl (fun h=>h ((hC' _).2 (.inr (.inl rfl)))),hch.keep hk (fun h=>h ((hC' _).2 (.inr (.inr rfl))))⟩
  ·rintro pre C' W ⟨C,hC',hi,h1,h2,h3,hl,hk⟩ b hb;rcases(hC' b).1 hb with hb|rfl|rfl
   ·exact hIlt _ _ _ hi b hb
   ·exact(Array.getElem?_eq_some_iff.1 hl).1
   ·exact(Array.getElem?_eq_some_iff.1 hk).1
  ·rintro pre x C' W pv v ⟨C,hC',hi,h1,h2,h3,hl,hk⟩ hpre hpv hn;have hlt:w.heap.size+1<W.heap.size:=(Array.getElem?_eq_some_iff.1 hl).1;have hy:=run_yield (P:=P) (args := #[pv,v]) hl (by rw[hrec];exact hps.symm);rw[hrec] at hy;refine⟨fn,_,assign,body,hy,roundIn_of_wpIn hfn (wpIn_mono (hround (w.heap.size+1) pre x C W pv v hi h1 (by omega) hlt hpre hpv hn) ?_)⟩;rintro e a1 Wa rU
   cases e with
   | normal =>
    obtain⟨wP,hbody⟩:=rU;have hl1:=wP.keep hl h1;have hk1:=wP.keep hk h2;have hlt1:w.heap.size+1<Wa.heap.size:=(Array.getElem?_eq_some_iff.1 hl1).1;refine⟨_,run_beginRound hl1 (by rw[hrec]),?_⟩;have hl2:(Wa.putObj (w.heap.size+1) (.loop { rec .ready none with state:=.busy })).heap[w.heap.size+1]?=some (.loop { rec .ready none with state:=.busy }):=World.putObj_heap_same hlt1;have hk2:(Wa.putObj (w.heap.size+1) (.loop { rec .ready none with state:=.busy })).heap[w.heap.size]?=some (.deferred (some [])):=(World.putObj_heap_other (by omega)).trans hk1;have hc2:Chg (fun b=>C b\/b=w.heap.size+1) W (Wa.putObj (w.heap.size+1) (.loop { rec .ready none with state:=.busy })) :=
     (wP.mono fun _ _ h=>.inl h).trans2 (Chg.putObj Wa (w.heap.size+1) _) (fun b _ h=>.inr h)
    refine wpIn_mono (hbody _ (Chg.putObj _ _ _)) ?_;have fin:∀ (jump:Option Code) (W3:World),Chg C (Wa.putObj (w.heap.size+1) (.loop { rec .ready none with state:=.busy })) W3 ->
      (Instr.endRound (w.heap.size+1) jump).run P W3=.ok (.bool jump.isNone) (W3.putObj (w.heap.size+1) (.loop (rec (if jump.isNone then .ready else .done) jump))) /\
      (W3.putObj (w.heap.size+1) (.loop (rec (if jump.isNone then .ready else .done) jump))).heap[w.heap.size+1]?=some (.loop (rec (if jump.isNone then .ready else .done) jump)) /\
      (W3.putObj (w.heap.size+1) (.loop (rec (if jump.isNone then .ready else .done) jump))).heap[w.heap.size]?=some (.deferred (some [])) /\
      Chg C' W (W3.putObj (w.heap.size+1) (.loop (rec (if jump.isNone then .ready else .done) jump))):=fun jump W3 hk3=>by
     have hl3:=hk3.keep hl2 h1;have:=run_endRound (P:=P) jump hl3;rw[hrec] at this ⊢;refine⟨this,World.putObj_heap_same (Array.getElem?_eq_some_iff.1 hl3).1,(World.putObj_heap_other (by omega)).trans (hk3.keep hk2 h2),?_⟩;have hA:Chg (fun b=>C b\/b=w.heap.size+1) W W3:=by
      have:=hc2;rw[hrec] at this hk3;exact this.trans2 hk3 (fun b _ h=>.inl h)
     exact(hA.trans2 (Chg.putObj W3 (w.heap.size+1) _) (fun b _ h=>.inr h)).mono fun b _ hb=>(hC' b).2 (by rcases hb with hb|hb;exact .inl hb;exact .inr (.inl hb))
    rintro e3 a3 W3 hp;have hsz:W.heap.size<=(Wa.putObj (w.heap.size+1) (.loop { rec .ready none with state:=.busy })).heap.size:=hc2.size
    cases e3 with
    | normal =>
     obtain⟨C3,hi3,qd,pU⟩:=hp;have eB:∀ b,C3 b->C b\/W.heap.size<=b:=fun b h=>(qd b h).imp id fun h'=>Nat.le_trans hsz h';obtain⟨hr,hl4,hk4,kD⟩:=fin none W3 pU;have gu:¬ C3 (w.heap.size+1):=fun h=>by rcases eB _ h with h|h;exact h1 h;omega
     have wL:¬ C3 w.heap.size:=fun h=>by rcases eB _ h with h|h;exact h2 h;omega
     refine⟨_,_,hr,.inl ⟨rfl,fun b=>C3 b\/b=w.heap.size+1\/b=w.heap.size,⟨C3,fun _=>Iff.rfl,hI _ _ _ _ hi3 ((Chg.putObj _ _ _).mono fun b _ hb hc=>gu (hb▸hc)),gu,wL,?_,hl4,hk4⟩,?_,kD⟩⟩
     ·intro b hb hlt';rcases eB b hb with hb|hb
      ·exact h3 b hb hlt'
      ·omega
     ·intro b hb;rcases hb with hb|hb
      ·rcases eB b hb with hb|hb
       ·exact .inl ((hC' b).2 (.inl hb))
       ·exact .inr (by omega)
      ·exact .inl ((hC' b).2 (.inr hb))
    | ret =>
     obtain⟨C3,hi3,qd,pU⟩:=hp;have eB:∀ b,C3 b->C b\/W.heap.size<=b:=fun b h=>(qd b h).imp id fun h'=>Nat.le_trans hsz h';obtain⟨hr,hl4,hk4,kD⟩:=fin (some .ret) W3 pU;have gu:¬ C3 (w.heap.size+1):=fun h=>by rcases eB _ h with h|h;exact h1 h;omega
     exact⟨_,_,hr,.inr ⟨rfl,fun _=>True,⟨C3,hIx _ _ _ _ hi3 ((Chg.putObj _ _ _).mono fun b _ hb hc=>gu (hb▸hc)),gu,hl4,hk4⟩,kD⟩⟩
    | exit id=>exact hp.elim
    | goto t=>exact hp.elim
    | panic ch=>exact hp.elim
    | outgrown=>exact hp.elim
   | exit id=>exact rU.elim
   | goto t=>exact rU.elim
   | ret=>exact rU.elim
   | panic ch=>exact rU.elim
   | outgrown=>exact rU.elim
  ·rintro e W2 ⟨⟨v,rfl⟩,(⟨C',⟨C,hC',hi,h1,h2,h3,hl,hk⟩,hch⟩|⟨pre,C',⟨C,hi,h1,hl,hk⟩,hch⟩)⟩
   all_goals
    have hw2:Chg C0 w W2:=((Chg.of_below hb1).trans2 hch fun b hb hc=>by rcases hc with hc|hc|hc;exact hc;omega;omega)
    have hfin:∀ o,Chg C0 w (W2.putObj (w.heap.size+1) o):=fun o=>hw2.trans2 (Chg.putObj W2 (w.heap.size+1) o) fun b hb hc=>by omega
   ·exact⟨none,_,by have:=run_endLoop (P:=P) hl (by rw[hrec];simp);rw[hrec] at this;exact this,hdone _ C _ (Nat.le_refl _) (hI _ _ _ _ hi ((Chg.putObj W2 (w.heap.size+1) _).mono fun b _ (hb:b=w.heap.size+1) hc=>h1 (hb▸hc))) (hfin _) ((World.putObj_heap_other (by omega)).trans hk)⟩
   ·exact⟨some .ret,_,by have:=run_endLoop (P:=P) hl (by rw[hrec];simp);rw[hrec] at this;exact this,hstop _ pre C _ (Nat.le_refl _) (hIx _ _ _ _ hi ((Chg.putObj W2 (w.heap.size+1) _).mono fun b _ (hb:b=w.heap.size+1) hc=>h1 (hb▸hc))) (hfin _) ((World.putObj_heap_other (by omega)).trans hk)⟩
structure RowD where
 v:Value
 E:TypeId
 sz:Nat
 n:Nat
 xs:List Value
structure Rws {I:Type} (W:World) (n0:Nat) (d:I->RowD):Prop where
 row:∀ i,W.ownsRow n0 (d i).E (d i).sz (d i).v (d i).n (d i).xs
 sep:∀ i j b,i≠j->(d i).v.ownBlock=some b->(d j).v.ownBlock≠some b
def updR {I:Type} [DecidableEq I] (d:I->RowD) (i:I) (r:RowD):I->RowD:=fun j=>if j=i then r else d j
section
variable {I:Type} [DecidableEq I] {W W':World} {n0:Nat} {d:I->RowD} {i j:I} {r:RowD}
@[simp] theorem zkF:updR d i r i=r:=by simp[updR]
theorem zko (h:j≠i):updR d i r j=d j:=by simp[updR,h]
omit [DecidableEq I] in
theorem Rws.chg {C:Nat->Prop} (h:Rws W n0 d) (hc:Chg C W W') (hC:∀ i b,(d i).v.ownBlock=some b->¬ C b):Rws W' n0 d:=by
 refine⟨fun i=>?_,h.sep⟩;obtain⟨e1,h2⟩:=h.row i;refine⟨e1,?_⟩;rcases h2 with h2|⟨g,cap,cur,hv,hb,hg,h3⟩
 ·exact .inl h2
 ·exact .inr ⟨g,cap,cur,hv,hb,hc.keep hg (hC i g (by rw[hv];rfl)),h3⟩
omit [DecidableEq I] in
theorem Rws.later (h:Rws W n0 d) (hb:Below W.heap.size W W'):Rws W' n0 d:=h.chg (C:=fun _=>False) (Chg.of_below hb) (fun _ _ _ h=>h)
omit [DecidableEq I] in
theorem Rws.lt (h:Rws W n0 d) (i:I):∀ b,(d i).v.ownBlock=some b->n0<=b/\b<W.heap.size:=(h.row i).lt
theorem Rws.upd (h:Rws W n0 d) (i:I) (hc:Chg (fun b=>(d i).v.ownBlock=some b) W W') (ho:W'.ownsRow n0 r.E r.sz r.v r.n r.xs) (aR:∀ b,r.v.ownBlock=some b->(d i).v.ownBlock=some b\/W.heap.size<=b):Rws W' n0 (updR d i r):=by
 have key:∀ j,j≠i->∀ b,(d j).v.ownBlock=some b->r.v.ownBlock≠some b:=fun j hj b hb hr=>by
  rcases aR b hr with h1|h1
  ·exact h.sep j i b hj hb h1
  ·have:=(h.lt j b hb).2;omega
 refine⟨fun j=>?_,fun j k b hjk hb=>?_⟩
 ·by_cases hj:j=i
  ·subst hj;simpa using ho
  ·rw[zko hj];obtain⟨e1,h2⟩:=h.row j;refine⟨e1,?_⟩;rcases h2 with h2|⟨g,cap,cur,hv,hb,hg,h3⟩
   ·exact .inl h2
   ·exact .inr ⟨g,cap,cur,hv,hb,hc.keep hg (h.sep j i g hj (by rw[hv];rfl)),h3⟩
 ·by_cases hj:j=i
  ·subst hj;rw[zko (Ne.symm hjk)];rw[zkF] at hb;exact fun hk=>key k (Ne.symm hjk) b hk hb
  ·rw[zko hj] at hb;by_cases hk:k=i
   ·subst hk;rw[zkF];exact key j hj b hb
   ·rw[zko hk];exact h.sep j k b hjk hb
omit [DecidableEq I] in
theorem Rws.cell (h:Rws W n0 d) (i:I) {g:Nat} {u:Value} (hg:(d i).v.ownBlock=some g) {o:Nat} (ho:(d i).xs[o]?=some u):W.cell? ⟨g,o,none⟩=some u:=by
 have hr:=h.row i;obtain⟨e1,h2⟩:=hr;rcases h2 with⟨h2,_⟩|⟨g',cap,cur,hv,hb,hg',hn,hm,hz,hx⟩
 ·rw[h2] at hg;simp[Value.ownBlock] at hg
 ·rw[hv] at hg;simp[Value.ownBlock] at hg;subst hg;refine zc hg' ?_;have hlt:o<(d i).xs.length:=(List.getElem?_eq_some_iff.1 ho).1;rw[<-hx] at ho;rw[List.getElem?_take_of_lt (by rw[e1] at hlt;exact hlt)] at ho;simpa using ho
omit [DecidableEq I] in
theorem Rws.frozen (h:Rws W n0 d) (i:I) {g:Nat} (hg:(d i).v.ownBlock=some g) (o:Nat):W.frozen? ⟨g,o,none⟩=false:=by
 obtain⟨e1,h2⟩:=h.row i;rcases h2 with⟨h2,_⟩|⟨g',cap,cur,hv,hb,hg',_⟩
 ·rw[h2] at hg;simp[Value.ownBlock] at hg
 ·rw[hv] at hg;simp[Value.ownBlock] at hg;subst hg;exact zf hg'
theorem Rws.set (h:Rws W n0 d) (i:I) {g:Nat} (hg:(d i).v.ownBlock=some g) {o:Nat} (ho:o<(d i).xs.length) (u:Value) :
  Rws (W.setCell ⟨g,o,none⟩ u) n0 (updR d i { d i with xs:=(d i).xs.set o u }):=by
 have hc:Chg (fun b=>(d i).v.ownBlock=some b) W (W.setCell ⟨g,o,none⟩ u):=(Chg.refl _ _).setCell (.inl hg) u;refine h.upd i hc ?_ (fun b hb=>.inl hb);obtain⟨e1,h2⟩:=h.row i;rcases h2 with⟨h2,_⟩|⟨g',cap,cur,hv,hb,hg',hn,hm,hz,hx⟩
 ·rw[h2] at hg;simp[Value.ownBlock] at hg
 ·have hgg:g=g':=by rw[hv] at hg;simp[Value.ownBlock] at hg;exact hg.symm
  subst hgg;refine⟨by simpa using e1,.inr ⟨g,cap,cur.setIfInBounds o u,hv,hb,heap_setCell_same W g o cur _ u hg',hn,hm,by simpa using hz,?_⟩⟩;rw[Array.toList_setIfInBounds,<-hx,List.take_set]
end
inductive Res where
 | sb|tb|tin|tout|bv|bc|calls
 | fv (i:Nat)|fc (i:Nat)|cb (i:Nat)|ci (i:Nat)|x (i:Nat)
 deriving DecidableEq
structure Ph where
 sb:Nat
 tb:Nat
 vI:Value
 vO:Value
 vV:Value
 vC:Value
 vF:Value
 fV:Nat->Value
 fC:Nat->Value
 cb:Nat->Nat
 ci:Nat->Value
def zk5 (vs:List VD):List Value:=vs.flatMap fun v=>[.string v.s,.int .u8 v.k,.int .i64 v.n]
def zkj (l:List Int):List Value:=l.map (Value.int .i64)
def ptrs (cb:Nat->Nat) (cs:List Nat):List Value:=cs.map fun i=>.pointer (some ⟨cb i,0,none⟩)
def zk4 (P:Ph):Nat->List FR->List Value
 | _,[]=>[]
 | i,f::fs=>P.fV i::P.fC i :: .int .i64 f.loc::zk4 P (i+1) fs
def nilR:RowD:=⟨.slice none 0 0,0,1,0,[]⟩
abbrev boxV (b:Nat):Value:=.slice (some ⟨b,0,none⟩) 1 1
def rows (P:Ph) (S:ST):Res->RowD
 | .sb=>⟨boxV P.sb,95,5,1,[P.vV,P.vC,.int .i64 S.base.loc,P.vF,.pointer (some ⟨P.tb,0,none⟩)]⟩
 | .tb=>⟨boxV P.tb,148,2,1,[P.vI,P.vO]⟩
 | .tin=>⟨P.vI,3,1,S.tin.length,zkj S.tin⟩
 | .tout=>⟨P.vO,3,1,S.tout.length,zkj S.tout⟩
 | .bv=>⟨P.vV,83,3,S.base.vs.length,zk5 S.base.vs⟩
 | .bc=>⟨P.vC,97,1,S.base.cs.length,ptrs P.cb S.base.cs⟩
 | .calls=>⟨P.vF,92,3,S.calls.length,zk4 P 0 S.calls⟩
 | .fv i=>match S.calls[i]? with
  | none=>nilR
  | some f=>⟨P.fV i,83,3,f.vs.length,zk5 f.vs⟩
 | .fc i=>match S.calls[i]? with
  | none=>nilR
  | some f=>⟨P.fC i,97,1,f.cs.length,ptrs P.cb f.cs⟩
 | .cb i=>if i<S.nc then ⟨boxV (P.cb i),100,1,1,[P.ci i]⟩ else nilR
 | .ci i=>if i<S.nc then ⟨P.ci i,3,1,(S.cell i).length,zkj (S.cell i)⟩ else nilR
 | .x _=>nilR
structure SR (W:World) (n0:Nat) (P:Ph) (S:ST):Prop where
 rws:Rws W n0 (rows P S)
 wf:S.WF
theorem zpE (P:Ph):∀ (i:Nat) (fs:List FR),(zk4 P i fs).length=fs.length*3
 | _,[]=>rfl
 | i,f::fs=>by simp[zk4,zpE P (i+1) fs];omega
theorem zpF (P:Ph):∀ (fs:List FR) (i j:Nat) (h:j<fs.length),(zk4 P i fs)[j*3]?=some (P.fV (i+j))/\(zk4 P i fs)[j*3+1]?=some (P.fC (i+j))/\(zk4 P i fs)[j*3+2]?=some (.int .i64 fs[j].loc)
 | f::fs,i,0,_=>by simp[zk4]
 | f::fs,i,j+1,h=>by
  have:=zpF P fs (i+1) j (by simpa using h);rw[show(j+1)*3=j*3+1+1+1 by omega,show i+(j+1)=i+1+j by omega];simp only[zk4,List.getElem?_cons_succ,List.getElem_cons_succ];exact this
theorem zv7 (vs:List VD):(zk5 vs).length=vs.length*3:=by
 induction vs with
 | nil=>rfl
 | cons v vs ih=>simp[zk5] at *;omega
theorem zrU:∀ (vs:List VD) (i:Nat) (h:i<vs.length),(zk5 vs)[i*3]?=some (.string vs[i].s)/\(zk5 vs)[i*3+1]?=some (.int .u8 vs[i].k)/\(zk5 vs)[i*3+2]?=some (.int .i64 vs[i].n)
 | v::vs,0,_=>by simp[zk5]
 | v::vs,i+1,h=>by
  have:=zrU vs i (by simpa using h);rw[show(i+1)*3=i*3+1+1+1 by omega];simp only[zk5,List.flatMap_cons,List.cons_append,List.nil_append,List.getElem?_cons_succ,List.getElem_cons_succ];exact this
end Go.Proofs.YtckhofdinldhpaaGreat
namespace Go.Proofs.YtckhofdinldhpaaGreat
open Go.RowKit
def zlj:List VD->ByteArray->Option VD
 | [],_=>none
 | v::vs,s=>match zlj vs s with
  | some u=>some u
  | none=>if v.s.toList=s.toList then some v else none
theorem zuy (vs:List VD) (v:VD) (s:ByteArray):zlj (vs++[v]) s=if v.s.toList=s.toList then some v else zlj vs s:=by
 induction vs with
 | nil=>simp only[List.nil_append,zlj]
 | cons u us ih =>
  simp only[List.cons_append,zlj];rw[ih];by_cases h:v.s.toList=s.toList
  ·rw[if_pos h,if_pos h]
  ·rw[if_neg h,if_neg h]
theorem zqv {vs:List VD} {j:Nat} (h:j<vs.length) (s:ByteArray):zlj (vs.take (j+1)) s=if vs[j].s.toList=s.toList then some vs[j] else zlj (vs.take j) s:=by
 rw[List.take_succ_eq_append_getElem h,zuy]
abbrev fdV (v:Option VD):Value:=match v with
 | some v=>.tuple #[.agg #[.string v.s,.int .u8 v.k,.int .i64 v.n],.bool true]
 | none=>.tuple #[.agg #[.string ⟨#[]⟩,.int .u8 0,.int .i64 0],.bool false]
theorem zyv (w:World):(Instr.build 83 #[]).run Tryz.prog w=.ok (.agg #[.string ⟨#[]⟩,.int .u8 0,.int .i64 0]) w:=by kernel_rfl
theorem zo7 (vs:List VD) (A:Option Addr) (c:Nat) (s:ByteArray) (S:Nat->Prop) (w:World) (hrow:RowV w S A vs) (hl:vs.length<=LV) :
  Calls Tryz.prog 107 #[.slice A vs.length c,.string s] w fun e w'=>e=.returned (fdV (zlj vs s))/\Below w.heap.size w w':=by
 have hl':=zlE hl;have ae:=zh hrow;obtain⟨R,hR⟩:∃ R,zlj vs s=R:=⟨_,rfl⟩
 rw[hR];have HR:=zh hR;clear hrow hl hR;have hb:=zyv;go_enter Tryz.func107,Tryz.ntmps107;go_wp2_with fail;have hr0:(w.alloc (.cells #[.string ⟨#[]⟩,.int .u8 0,.int .i64 0] 83)).heap[w.heap.size]?=some (.cells #[.string ⟨#[]⟩,.int .u8 0,.int .i64 0] 83 (0,0)):=heap_alloc_new w _;have hbl:Below w.heap.size w (w.alloc (.cells #[.string ⟨#[]⟩,.int .u8 0,.int .i64 0] 83)):=(Below.refl _ _).alloc (Nat.le_refl _) _;have aj:=zh hbl;clear hr0 hbl
 go_loopw [6] (fun i wr=>∃ j:Nat,j<=vs.length/\i=.int .i64 ((j:Int)-1)/\wr=w.alloc (.cells #[.string ⟨#[]⟩,.int .u8 0,.int .i64 0] 83)/\Hid (zlj (vs.take j) s=R)) (fun i _=>((intOf i)+1).toNat)
 case atStart=>exact⟨vs.length,Nat.le_refl _,by first|rfl|simp,by first|rfl|trivial,by rw[List.take_of_length_le (Nat.le_refl _)];exact HR⟩
 case round =>
  obtain⟨j,hj,rfl,rfl,HJ⟩:=hrel;rcases j with _|m
  ·have e0:((0:Nat):Int)-1 = -1:=by omega
   rw[e0];have HN:=zh (show R=none by have:=HJ.out;simp[zlj] at this;exact this.symm);clear e0 HJ;go_wp2_with fail;exact bodyPost_ret (v:=fdV none) (by simp[results,Tryz.results107,go_sem]) rfl ⟨by rw[HN.out],aj.out⟩
  ·rw[show((m+1:Nat):Int)-1=(m:Int) by omega];obtain⟨a,v,rfl,_,Hv,⟨q0,q1,q2⟩,ky⟩:=(ae.out.later aj.out).nd (i:=m) (by omega);have hm:m<vs.length:=by omega
   have hx:=HJ.out;rw[zqv hm,Hv.out] at hx;have HX:=zh hx;clear hx HJ;by_cases hs:v.s.toList=s.toList
   ·have HN:=zh (show R=some v by have:=HX.out;rw[if_pos hs] at this;exact this.symm);have e1:(v.s.toList==s.toList)=true:=by simpa using hs
    have nQ:=zh (show Below w.heap.size w (w.alloc (.cells #[.string v.s,.int .u8 v.k,.int .i64 v.n] 83)) from (Below.refl _ _).alloc (Nat.le_refl _) _);clear hs;go_wp2_with fail;exact bodyPost_ret (v:=fdV (some v)) (by simp[results,Tryz.results107,go_sem]) rfl ⟨by rw[HN.out],nQ.out⟩
   ·have e1:(v.s.toList==s.toList)=false:=by simpa using hs
    have HN:=zh (show zlj (vs.take m) s=R by have:=HX.out;rw[if_neg hs] at this;exact this);clear hs;go_wp2_with fail
    go_roundw
    case rel=>exact⟨m,by omega,by first|rfl|go_num,by first|rfl|trivial,HN⟩
    case measure=>simp[intOf]
end Go.Proofs.YtckhofdinldhpaaGreat
namespace Go.Proofs.YtckhofdinldhpaaGreat
open Go Go.RowKit
def numI (b:Bool):Int:=if b then 1 else 0
theorem zkS (b:Bool) (w:World):Calls Tryz.prog 203 #[.bool b] w fun e w'=>e=.returned (.int .i64 (numI b))/\w'=w:=by
 cases b
 ·go_enter Tryz.func203,Tryz.ntmps203;go_wp2_with fail;go_ret;exact⟨rfl,rfl⟩
 ·go_enter Tryz.func203,Tryz.ntmps203;go_wp2_with fail;go_ret;exact⟨rfl,rfl⟩
def divE (k x y:Int):Int×Int:=if y=0 then (0,11) else if k=11 then (wrap64 (x.tdiv y),0) else (x.tmod y,0)
theorem zqB (k x y:Int) (w:World):Calls Tryz.prog 204 #[.int .u8 k,.int .i64 x,.int .i64 y] w fun e w'=>e=.returned (.tuple #[.int .i64 (divE k x y).1,.int .i64 (divE k x y).2])/\w'=w:=by
 by_cases h0:y=0
 ·subst h0;rw[show divE k x 0=(0,11) by simp[divE]];go_enter Tryz.func204,Tryz.ntmps204;go_wp2_with fail;go_ret2;exact⟨rfl,rfl⟩
 ·by_cases hk:k=11
  ·subst hk;rw[show divE 11 x y=(wrap64 (x.tdiv y),0) by simp[divE,h0]];go_enter Tryz.func204,Tryz.ntmps204;go_wp2_with fail;go_ret2;exact⟨rfl,rfl⟩
  ·rw[show divE k x y=(x.tmod y,0) by simp[divE,h0,hk]];have hy:(y==0)=false:=by simpa using h0
   have hk':(k==11)=false:=by simpa using hk
   go_enter Tryz.func204,Tryz.ntmps204;go_wp2_with fail;go_ret2;exact⟨rfl,rfl⟩
def unE (k x:Int):Int×Int:=if k=6 then (wrap64 (-x),0) else (numI (x==0),0)
theorem zsd (k x:Int) (hk:k=6\/k=7) (w:World):Calls Tryz.prog 176 #[.int .u8 k,.int .i64 x] w fun e w'=>e=.returned (.tuple #[.int .i64 (unE k x).1,.int .i64 (unE k x).2])/\w'=w:=by
 rcases hk with rfl|rfl
 ·rw[show unE 6 x=(wrap64 (-x),0) by simp[unE]];go_enter Tryz.func176,Tryz.ntmps176;go_wp2_with fail;go_ret2;exact⟨rfl,rfl⟩
 ·rw[show unE 7 x=(numI (x==0),0) by simp[unE]];go_enter Tryz.func176,Tryz.ntmps176;go_wp2_with fail;refine(zkS _ w).mono ?_;rintro e w' ⟨rfl,rfl⟩;go_wp2_with fail;go_ret2;exact⟨rfl,rfl⟩
def apE (k x y:Int):Int×Int :=
 if k=8 then (wrap64 (x+y),0) else
 if k=9 then (wrap64 (x-y),0) else
 if k=10 then (wrap64 (x*y),0) else
 if k=11 then divE 11 x y else
 if k=12 then divE 12 x y else
 if k=13 then (bits BinOp.and IntKind.i64 x y,0) else
 if k=14 then (bits BinOp.or IntKind.i64 x y,0) else
 if k=15 then (bits BinOp.xor IntKind.i64 x y,0) else
 if k=16 then (numI (x==y),0) else
 if k=17 then (numI (x != y),0) else
 if k=18 then (numI (decide (x<y)),0) else
 if k=19 then (numI (decide (x<=y)),0) else
 if k=20 then (numI (decide (y<x)),0) else
 if k=21 then (numI (decide (y<=x)),0) else
 if k=22 then (numI (x != 0&&y != 0),0) else
 if k=23 then (numI (x != 0||y != 0),0) else
 (0,0)
theorem zsf (k x y:Int) (hk:8<=k/\k<=23) (w:World):Calls Tryz.prog 177 #[.int .u8 k,.int .i64 x,.int .i64 y] w fun e w'=>e=.returned (.tuple #[.int .i64 (apE k x y).1,.int .i64 (apE k x y).2])/\w'=w:=by
 have hc:k=8\/k=9\/k=10\/k=11\/k=12\/k=13\/k=14\/k=15\/k=16\/k=17\/k=18\/k=19\/k=20\/k=21\/k=22\/k=23:=by omega
 clear hk;rcases hc with rfl|rfl|rfl|rfl|rfl|rfl|rfl|rfl|rfl|rfl|rfl|rfl|rfl|rfl|rfl|rfl
 ·rw[show apE 8 x y=(wrap64 (x+y),0) by simp[apE]];go_enter Tryz.func177,Tryz.ntmps177;go_wp2_with fail;go_ret2;exact⟨rfl,rfl⟩
 ·rw[show apE 9 x y=(wrap64 (x-y),0) by simp[apE]];go_enter Tryz.func177,Tryz.ntmps177;go_wp2_with fail;go_ret2;exact⟨rfl,rfl⟩
 ·rw[show apE 10 x y=(wrap64 (x*y),0) by simp[apE]];go_enter Tryz.func177,Tryz.ntmps177;go_wp2_with fail;go_ret2;exact⟨rfl,rfl⟩
 ·rw[show apE 11 x y=divE 11 x y by simp[apE]];go_enter Tryz.func177,Tryz.ntmps177;go_wp2_with fail;refine(zqB 11 x y w).mono ?_;rintro e w' ⟨rfl,rfl⟩;go_wp2_with fail;go_ret2;exact⟨rfl,rfl⟩
 ·rw[show apE 12 x y=divE 12 x y by simp[apE]];go_enter Tryz.func177,Tryz.ntmps177;go_wp2_with fail;refine(zqB 12 x y w).mono ?_;rintro e w' ⟨rfl,rfl⟩;go_wp2_with fail;go_ret2;exact⟨rfl,rfl⟩
 ·rw[show apE 13 x y=(bits BinOp.and IntKind.i64 x y,0) by simp[apE]];go_enter Tryz.func177,Tryz.ntmps177;go_wp2_with fail;go_ret2;exact⟨rfl,rfl⟩
 ·rw[show apE 14 x y=(bits BinOp.or IntKind.i64 x y,0) by simp[apE]];go_enter Tryz.func177,Tryz.ntmps177;go_wp2_with fail;go_ret2;exact⟨rfl,rfl⟩
 ·rw[show apE 15 x y=(bits BinOp.xor IntKind.i64 x y,0) by simp[apE]];go_enter Tryz.func177,Tryz.ntmps177;go_wp2_with fail;go_ret2;exact⟨rfl,rfl⟩
 ·rw[show apE 16 x y=(numI (x==y),0) by simp[apE]];go_enter Tryz.func177,Tryz.ntmps177;go_wp2_with fail;refine(zkS _ w).mono ?_;rintro e w' ⟨rfl,rfl⟩;go_wp2_with fail;go_ret2;exact⟨rfl,rfl⟩
 ·rw[show apE 17 x y=(numI (x != y),0) by simp[apE]];go_enter Tryz.func177,Tryz.ntmps177;go_wp2_with fail;refine(zkS _ w).mono ?_;rintro e w' ⟨rfl,rfl⟩;go_wp2_with fail;go_ret2;exact⟨rfl,rfl⟩
 ·rw[show apE 18 x y=(numI (decide (x<y)),0) by simp[apE]];go_enter Tryz.func177,Tryz.ntmps177;go_wp2_with fail;refine(zkS _ w).mono ?_;rintro e w' ⟨rfl,rfl⟩;go_wp2_with fail;go_ret2;exact⟨rfl,rfl⟩
 ·rw[show apE 19 x y=(numI (decide (x<=y)),0) by simp[apE]];go_enter Tryz.func177,Tryz.ntmps177;go_wp2_with fail;refine(zkS _ w).mono ?_;rintro e w' ⟨rfl,rfl⟩;go_wp2_with fail;go_ret2;exact⟨rfl,rfl⟩
 ·rw[show apE 20 x y=(numI (decide (y<x)),0) by simp[apE]];go_enter Tryz.func177,Tryz.ntmps177;go_wp2_with fail;refine(zkS _ w).mono ?_;rintro e w' ⟨rfl,rfl⟩;go_wp2_with fail;go_ret2;exact⟨rfl,rfl⟩
 ·rw[show apE 21 x y=(numI (decide (y<=x)),0) by simp[apE]];go_enter Tryz.func177,Tryz.ntmps177;go_wp2_with fail;refine(zkS _ w).mono ?_;rintro e w' ⟨rfl,rfl⟩;go_wp2_with fail;go_ret2;exact⟨rfl,rfl⟩
 ·rw[show apE 22 x y=(numI (x != 0&&y != 0),0) by simp[apE]]
  cases hx:(x != 0)<;>cases hy:(y != 0)
  ·rw[show(false&&false)=false from rfl];go_enter Tryz.func177,Tryz.ntmps177;go_wp2_with fail;refine(zkS false w).mono ?_;rintro e w' ⟨rfl,rfl⟩;go_wp2_with fail;go_ret2;exact⟨rfl,rfl⟩
  ·rw[show(false&&true)=false from rfl];go_enter Tryz.func177,Tryz.ntmps177;go_wp2_with fail;refine(zkS false w).mono ?_;rintro e w' ⟨rfl,rfl⟩;go_wp2_with fail;go_ret2;exact⟨rfl,rfl⟩
  ·rw[show(true&&false)=false from rfl];go_enter Tryz.func177,Tryz.ntmps177;go_wp2_with fail;refine(zkS false w).mono ?_;rintro e w' ⟨rfl,rfl⟩;go_wp2_with fail;go_ret2;exact⟨rfl,rfl⟩
  ·rw[show(true&&true)=true from rfl];go_enter Tryz.func177,Tryz.ntmps177;go_wp2_with fail;refine(zkS true w).mono ?_;rintro e w' ⟨rfl,rfl⟩;go_wp2_with fail;go_ret2;exact⟨rfl,rfl⟩
 ·rw[show apE 23 x y=(numI (x != 0||y != 0),0) by simp[apE]]
  cases hx:(x != 0)<;>cases hy:(y != 0)
  ·rw[show(false||false)=false from rfl];go_enter Tryz.func177,Tryz.ntmps177;go_wp2_with fail;refine(zkS false w).mono ?_;rintro e w' ⟨rfl,rfl⟩;go_wp2_with fail;go_ret2;exact⟨rfl,rfl⟩
  ·rw[show(false||true)=true from rfl];go_enter Tryz.func177,Tryz.ntmps177;go_wp2_with fail;refine(zkS true w).mono ?_;rintro e w' ⟨rfl,rfl⟩;go_wp2_with fail;go_ret2;exact⟨rfl,rfl⟩
  ·rw[show(true||false)=true from rfl];go_enter Tryz.func177,Tryz.ntmps177;go_wp2_with fail;refine(zkS true w).mono ?_;rintro e w' ⟨rfl,rfl⟩;go_wp2_with fail;go_ret2;exact⟨rfl,rfl⟩
  ·rw[show(true||true)=true from rfl];go_enter Tryz.func177,Tryz.ntmps177;go_wp2_with fail;refine(zkS true w).mono ?_;rintro e w' ⟨rfl,rfl⟩;go_wp2_with fail;go_ret2;exact⟨rfl,rfl⟩
end Go.Proofs.YtckhofdinldhpaaGreat
namespace Go.Proofs.YtckhofdinldhpaaGreat
open Go.RowKit
theorem zlf {W w1:World} (hb:Below W.heap.size W w1):(∀ b o,b<W.heap.size->w1.cell? ⟨b,o,none⟩=W.cell? ⟨b,o,none⟩)/\(∀ b o,b<W.heap.size->w1.frozen? ⟨b,o,none⟩=W.frozen? ⟨b,o,none⟩) :=
 ⟨fun b o h=>hb.cell (p:=⟨b,o,none⟩) h,fun b o h=>hb.frozen (p:=⟨b,o,none⟩) h⟩
theorem zkr (k n:Int) (s:ByteArray) (A:Option Addr) (l c:Nat) (w:World) :
  Calls Tryz.prog 99 #[nv k n s A l c] w fun e w'=>e=.returned (.bool (zks n s))/\Below w.heap.size w w':=by
 go_enter Tryz.func99,Tryz.ntmps99;go_wp2
 all_goals (go_ret;exact⟨by simp[zks, *],(Below.refl _ _).alloc (Nat.le_refl _) _⟩)
theorem zkA (k n:Int) (s:ByteArray) (A:Option Addr) (l c:Nat) (w:World) :
  Calls Tryz.prog 103 #[nv k n s A l c] w fun e w'=>e=.returned (.bool (zkG n s))/\Below w.heap.size w w':=by
 go_enter Tryz.func103,Tryz.ntmps103;by_cases hn:(n==0)=true
 ·go_wp2_with (go_at_call 51;refine(zrc _ _).mono ?_;rintro e w' ⟨rfl,hb⟩)
  go_ret;exact⟨by simp[zkG,hn],((Below.refl _ _).alloc (Nat.le_refl _) _).trans (hb.mono (by simp))⟩
 ·have hn':(n==0)=false:=by simpa using hn
  clear hn;go_wp2_with fail;go_ret;exact⟨by simp[zkG,hn'],(Below.refl _ _).alloc (Nat.le_refl _) _⟩
theorem zkY (t:T) (v:Value) (w:World) (hv:NV w Any t v) (b m:Nat) (F:Nat->FuncId) (G:Nat->Func) (p:Nat->T->Bool) (hm:m<=8) (hbl:b<w.heap.size)
  (hcell:∀ i,i<m->w.cell? ⟨b,i,none⟩=some (.func (.func (F i)) #[] #[])) (hfn:∀ i,i<m->IsFn Tryz.prog (F i) (G i))
  (hc:t.ks.length=m->∀ i (hi:i<t.ks.length) v1 w1,NV w1 Any t.ks[i] v1->Calls Tryz.prog (F i) #[v1] w1 fun e w'=>e=.returned (.bool (p i t.ks[i]))/\Below w1.heap.size w1 w') :
  Calls Tryz.prog 100 #[v,.slice (some ⟨b,0,none⟩) m m] w fun e w'=>e=.returned (.bool (zkN m p t.ks))/\Below w.heap.size w w':=by
 obtain⟨A,c,rfl,hf,hlk,hlc,hrow⟩:=hv.open_;have ak:=zkx hlk;have HC:=zh hc;have HCell:=zh hcell;have HFn:=zh hfn;clear hc hcell hfn hf hv hlk;generalize t.k=k,t.n=n,t.s=s,t.ks=ks at *
 by_cases hl:ks.length=m
 ·subst hl;have nO:=zh (HC.out rfl);clear HC;have hneq:((ks.length:Int) != (ks.length:Int))=false:=by simp
  go_enter Tryz.func100,Tryz.ntmps100;go_wp2
  go_loopw [4,5,6,15] (fun r _ _ i wr=>∃ j:Nat,j<=ks.length/\i=.int .i64 j/\r=.bool false/\Hid (∀ q (hq:q<ks.length),q<j->p q ks[q]=true)/\Below (w.heap.size+1) (w.alloc (.cells #[.int .u8 k,.int .i64 n,.string s,.slice A ks.length c] 29)) wr) (fun _ _ _ i _=>ks.length-(intOf i).toNat)
  case atStart=>exact⟨0,Nat.zero_le _,rfl,rfl,fun q hq h=>by omega,Below.refl _ _⟩
  case round =>
   obtain⟨j,hj,rfl,rfl,HP,hb⟩:=hrel;have hb0:Below w.heap.size w wr:=((Below.refl _ _).alloc (Nat.le_refl _) _).trans (hb.mono (by omega));by_cases hlt:j<ks.length
   ·obtain⟨a,t',A',c',rfl,_,Ht,c0,c1,c2,c3,hn⟩:=(hrow.later hb0).get hlt;have hcall:=zkP (HFn.out j hlt);have hfc:wr.cell? ⟨b,j,none⟩=some (.func (.func (F j)) #[] #[]):=(hb0.cell (p:=⟨b,j,none⟩) hbl).trans (HCell.out j hlt);have hbox:wr.cell? ⟨w.heap.size,3,none⟩=some (.slice (some a) ks.length c):=(hb.cell (p:=⟨w.heap.size,3,none⟩) (Nat.lt_succ_self _)).trans (by simp);have hlt':j<8:=by omega
    have h0:=nO.out j hlt;rw[Ht.out] at h0;have H0:=zh h0;clear h0 hrow;go_wp2_with fail;refine(H0.out _ _ hn).mono ?_;rintro e w1 ⟨rfl,hb1⟩
    cases hp:p j t'
    ·go_wp2_with fail;go_ret;exact⟨by rw[zpw hlt (by rw[Ht.out];exact hp)];rfl,hb0.trans (hb1.mono hb0.size)⟩
    ·have jh:=zh hp;clear hp;go_wp2_with fail
     go_roundw
     case rel =>
      refine⟨j+1,by omega,by go_num,rfl,?_,hb.trans (hb1.mono (by have:=hb.size;simpa using this))⟩;intro q hq hqj;by_cases e:q=j
      ·subst e;rw[Ht.out];exact jh.out
      ·exact HP.out q hq (by omega)
     case measure=>simp[intOf];omega
   ·have hlt':ks.length<=j:=by omega
    go_wp2_with fail;go_ret;exact⟨by rw[zut rfl (fun q hq=>HP.out q hq (by omega))];rfl,hb0⟩
 ·have hneq:((ks.length:Int) != (m:Int))=true:=by simp;omega
  have hneq':(ks.length != m)=true:=by simpa using hl
  have HX:=zh (zvK (p:=p) hl);clear hl HC hrow;generalize ks.length=l at *
  go_enter Tryz.func100,Tryz.ntmps100;go_wp2;go_ret;exact⟨by rw[HX.out];rfl,(Below.refl _ _).alloc (Nat.le_refl _) _⟩
theorem zpI (ts:List T) (Ad:Option Addr) (c:Nat) (w:World) (hrow:zkX w Any Ad ts) (hlk:ts.length<=LK) (f:FuncId) (fn:Func) (hfn:IsFn Tryz.prog f fn) (p:T->Bool)
  (hc:∀ i (hi:i<ts.length) v1 w1,NV w1 Any ts[i] v1->Calls Tryz.prog f #[v1] w1 fun e w'=>e=.returned (.bool (p ts[i]))/\Below w1.heap.size w1 w') :
  Calls Tryz.prog 104 #[.slice Ad ts.length c,.func (.func f) #[] #[]] w fun e w'=>e=.returned (.bool (zkD (fun _=>p) 0 ts))/\Below w.heap.size w w':=by
 have ak:=zkx hlk;have HC:=zh hc;have hcall:=zkP hfn;clear hc hfn hlk;go_enter Tryz.func104,Tryz.ntmps104;go_wp2
 go_loopw [4,9] (fun r i wr=>∃ j:Nat,j<=ts.length/\i=.int .i64 j/\r=.bool false/\Hid (∀ q (hq:q<ts.length),q<j->p ts[q]=true)/\Below w.heap.size w wr) (fun _ i _=>ts.length-(intOf i).toNat)
 case atStart=>exact⟨0,Nat.zero_le _,rfl,rfl,fun q hq h=>by omega,Below.refl _ _⟩
 case round =>
  obtain⟨j,hj,rfl,rfl,HP,hb⟩:=hrel;by_cases hlt:j<ts.length
  ·obtain⟨a,t',A',c',rfl,_,Ht,c0,c1,c2,c3,hn⟩:=(hrow.later hb).get hlt;have h0:=HC.out j hlt;rw[Ht.out] at h0;have H0:=zh h0;clear h0 hrow;go_wp2_with fail;refine(H0.out _ _ (hn.later ((Below.refl _ _).alloc (Nat.le_refl _) _))).mono ?_;rintro e w1 ⟨rfl,hb1⟩;have hb2:Below w.heap.size w w1:=(hb.alloc hb.size _).trans (hb1.mono (by have:=hb.size;simp;omega))
   cases hp:p t'
   ·go_wp2_with fail;go_ret;have hx:zkD (fun _=>p) 0 ts=false:=by
     have:=zpw (m:=ts.length) (p:=fun _=>p) hlt (by rw[Ht.out];exact hp);simpa[zkN] using this
    exact⟨by rw[hx];rfl,hb2⟩
   ·have jh:=zh hp;clear hp;go_wp2_with fail
    go_roundw
    case rel =>
     refine⟨j+1,by omega,by go_num,rfl,?_,hb2⟩;intro q hq hqj;by_cases e:q=j
     ·subst e;rw[Ht.out];exact jh.out
     ·exact HP.out q hq (by omega)
    case measure=>simp[intOf];omega
  ·have hlt':ts.length<=j:=by omega
   go_wp2_with fail;go_ret;have hx:zkD (fun _=>p) 0 ts=true:=by
    rw[zkQ];exact fun q hq=>HP.out q hq (by omega)
   exact⟨by rw[hx];rfl,hb⟩
theorem zmN {w:World} {cs:Array Value} {ty:TypeId} {i:Nat} {u:Value} (h:cs[i]?=some u):(w.alloc (.cells cs ty)).cell? ⟨w.heap.size,i,none⟩=some u:=by
 have hh:(w.alloc (.cells cs ty)).heap[w.heap.size]?=some (.cells cs ty (0,0)):=heap_alloc_new w _;simp only[World.cell?,hh];simpa using h
theorem zlg:IsFn Tryz.prog 102 Tryz.f102:=⟨Tryz.func102,by kernel_rfl,by kernel_rfl⟩
theorem zli:IsFn Tryz.prog 101 Tryz.f101:=⟨Tryz.func101,by kernel_rfl,by kernel_rfl⟩
theorem zv4:IsFn Tryz.prog 105 Tryz.f105:=⟨Tryz.func105,by kernel_rfl,by kernel_rfl⟩
theorem zx8:IsFn Tryz.prog 56 Tryz.f56:=⟨Tryz.func56,by kernel_rfl,by kernel_rfl⟩
theorem zmA:IsFn Tryz.prog 91 Tryz.f91:=⟨Tryz.func91,by kernel_rfl,by kernel_rfl⟩
theorem zyZ (n:Int) (s:ByteArray) (ks:List T) (v:Value) (w:World) (hv:NV w Any (.nd 1 n s ks) v) :
  Calls Tryz.prog 102 #[v] w fun e w'=>e=.returned (.bool (isE (.nd 1 n s ks)))/\Below w.heap.size w w':=by
 obtain⟨Ad,c,rfl,hf,hlk,hlc,hrow⟩:=hv.open_;simp only[T.k_nd,T.n_nd,T.s_nd,T.ks_nd] at *
 have ak:=zkx hlk;clear hf hv hlk hrow hlc;have HX:=zh (show isE (.nd 1 n s ks)=(decide (0<=n)&&s.toList.isEmpty&&decide (ks.length=0)) by simp[isE]);have hz:((ks.length:Int)==0)=decide (ks.length=0):=by rw[Bool.eq_iff_iff];simp
 generalize ks.length=l at *
 have HZ:=zh hz;clear hz;by_cases hn:0<=n
 all_goals
  by_cases hs:s.toList.isEmpty=true
  all_goals
   go_enter Tryz.func102,Tryz.ntmps102;go_wp2
   all_goals (go_ret;exact⟨by rw[HX.out,<-HZ.out];simp[*]<;>omega,(Below.refl _ _).alloc (Nat.le_refl _) _⟩)
theorem zyY (n:Int) (s:ByteArray) (ks:List T) (v:Value) (w:World) (hv:NV w Any (.nd 2 n s ks) v) :
  Calls Tryz.prog 102 #[v] w fun e w'=>e=.returned (.bool (isE (.nd 2 n s ks)))/\Below w.heap.size w w':=by
 obtain⟨Ad,c,rfl,hf,hlk,hlc,hrow⟩:=hv.open_;simp only[T.k_nd,T.n_nd,T.s_nd,T.ks_nd] at *
 have ak:=zkx hlk;clear hf hv hlk hrow hlc;have HX:=zh (show isE (.nd 2 n s ks)=(zkG n s&&decide (ks.length=0)) by simp[isE]);have hz:((ks.length:Int)==0)=decide (ks.length=0):=by rw[Bool.eq_iff_iff];simp
 generalize ks.length=l at *
 have HZ:=zh hz;clear hz;by_cases hnb:zkG n s=true
 ·go_enter Tryz.func102,Tryz.ntmps102;go_wp2_with fail;refine(zkA _ _ _ _ _ _ _).mono ?_;rintro e w1 ⟨rfl,hb1⟩;obtain⟨hc1,hf1⟩:=zlf hb1;have hbb:Below w.heap.size w w1:=((Below.refl _ _).alloc (Nat.le_refl _) _).trans (hb1.mono (by simp));go_wp2_with fail;go_ret;exact⟨by rw[HX.out,<-HZ.out];simp[*],hbb⟩
 ·have hnb':zkG n s=false:=by simpa using hnb
  clear hnb;go_enter Tryz.func102,Tryz.ntmps102;go_wp2_with fail;refine(zkA _ _ _ _ _ _ _).mono ?_;rintro e w1 ⟨rfl,hb1⟩;have hbb:Below w.heap.size w w1:=((Below.refl _ _).alloc (Nat.le_refl _) _).trans (hb1.mono (by simp));go_wp2_with fail;go_ret;exact⟨by rw[HX.out];simp[*],hbb⟩
theorem zyW (n:Int) (s:ByteArray) (ks:List T) (v:Value) (w:World) (hv:NV w Any (.nd 4 n s ks) v) :
  Calls Tryz.prog 102 #[v] w fun e w'=>e=.returned (.bool (isE (.nd 4 n s ks)))/\Below w.heap.size w w':=by
 obtain⟨Ad,c,rfl,hf,hlk,hlc,hrow⟩:=hv.open_;simp only[T.k_nd,T.n_nd,T.s_nd,T.ks_nd] at *
 have ak:=zkx hlk;clear hf hv hlk hrow hlc;have HX:=zh (show isE (.nd 4 n s ks)=(zkG n s&&decide (ks.length=0)) by simp[isE]);have hz:((ks.length:Int)==0)=decide (ks.length=0):=by rw[Bool.eq_iff_iff];simp
 generalize ks.length=l at *
 have HZ:=zh hz;clear hz;by_cases hnb:zkG n s=true
 ·go_enter Tryz.func102,Tryz.ntmps102;go_wp2_with fail;refine(zkA _ _ _ _ _ _ _).mono ?_;rintro e w1 ⟨rfl,hb1⟩;obtain⟨hc1,hf1⟩:=zlf hb1;have hbb:Below w.heap.size w w1:=((Below.refl _ _).alloc (Nat.le_refl _) _).trans (hb1.mono (by simp));go_wp2_with fail;go_ret;exact⟨by rw[HX.out,<-HZ.out];simp[*],hbb⟩
 ·have hnb':zkG n s=false:=by simpa using hnb
  clear hnb;go_enter Tryz.func102,Tryz.ntmps102;go_wp2_with fail;refine(zkA _ _ _ _ _ _ _).mono ?_;rintro e w1 ⟨rfl,hb1⟩;have hbb:Below w.heap.size w w1:=((Below.refl _ _).alloc (Nat.le_refl _) _).trans (hb1.mono (by simp));go_wp2_with fail;go_ret;exact⟨by rw[HX.out];simp[*],hbb⟩
theorem zyV (n:Int) (s:ByteArray) (ks:List T) (v:Value) (w:World) (hv:NV w Any (.nd 5 n s ks) v) :
  Calls Tryz.prog 102 #[v] w fun e w'=>e=.returned (.bool (isE (.nd 5 n s ks)))/\Below w.heap.size w w':=by
 obtain⟨Ad,c,rfl,hf,hlk,hlc,hrow⟩:=hv.open_;simp only[T.k_nd,T.n_nd,T.s_nd,T.ks_nd] at *
 have ak:=zkx hlk;clear hf hv hlk hrow hlc;have HX:=zh (show isE (.nd 5 n s ks)=(zkG n s&&decide (ks.length=0)) by simp[isE]);have hz:((ks.length:Int)==0)=decide (ks.length=0):=by rw[Bool.eq_iff_iff];simp
 generalize ks.length=l at *
 have HZ:=zh hz;clear hz;by_cases hnb:zkG n s=true
 ·go_enter Tryz.func102,Tryz.ntmps102;go_wp2_with fail;refine(zkA _ _ _ _ _ _ _).mono ?_;rintro e w1 ⟨rfl,hb1⟩;obtain⟨hc1,hf1⟩:=zlf hb1;have hbb:Below w.heap.size w w1:=((Below.refl _ _).alloc (Nat.le_refl _) _).trans (hb1.mono (by simp));go_wp2_with fail;go_ret;exact⟨by rw[HX.out,<-HZ.out];simp[*],hbb⟩
 ·have hnb':zkG n s=false:=by simpa using hnb
  clear hnb;go_enter Tryz.func102,Tryz.ntmps102;go_wp2_with fail;refine(zkA _ _ _ _ _ _ _).mono ?_;rintro e w1 ⟨rfl,hb1⟩;have hbb:Below w.heap.size w w1:=((Below.refl _ _).alloc (Nat.le_refl _) _).trans (hb1.mono (by simp));go_wp2_with fail;go_ret;exact⟨by rw[HX.out];simp[*],hbb⟩
theorem zyX (n:Int) (s:ByteArray) (ks:List T) (v:Value) (w:World) (hv:NV w Any (.nd 3 n s ks) v)
  (ih:∀ i (hi:i<ks.length) v1 w1,NV w1 Any ks[i] v1->Calls Tryz.prog 102 #[v1] w1 fun e w'=>e=.returned (.bool (isE ks[i]))/\Below w1.heap.size w1 w') :
  Calls Tryz.prog 102 #[v] w fun e w'=>e=.returned (.bool (isE (.nd 3 n s ks)))/\Below w.heap.size w w':=by
 have HX:=zh (show isE (.nd 3 n s ks)=(zkG n s&&zkN 1 (fun _=>isE) ks) by simp[isE,zkN,zox 0]);have IH:=zh ih;have HV:=zh hv;obtain⟨Ad,c,rfl,hf,hlk,hlc,hrow⟩:=hv.open_;simp only[T.k_nd,T.n_nd,T.s_nd,T.ks_nd] at *
 have ak:=zkx hlk;clear hf hv hlk hrow hlc ih;by_cases hnb:zkG n s=true
 ·go_enter Tryz.func102,Tryz.ntmps102;go_wp2_with fail;refine(zkA _ _ _ _ _ _ _).mono ?_;rintro e w1 ⟨rfl,hb1⟩;obtain⟨hc1,hf1⟩:=zlf hb1;have hbb:Below w.heap.size w w1:=((Below.refl _ _).alloc (Nat.le_refl _) _).trans (hb1.mono (by simp));go_wp2_with fail;refine(zkY (.nd 3 n s ks) _ _ (HV.out.later (hbb.alloc hbb.size _)) _ 1 (fun _=>102) (fun _=>Tryz.f102) (fun _=>isE) (by decide) (by simp) (fun i hi=>zmN (by rcases i with _|_|i<;>first|omega|rfl)) (fun _ _=>zlg) (fun _=>IH.out)).mono ?_;rintro e w2 ⟨rfl,hb2⟩;have hbc:Below w.heap.size w w2:=(hbb.alloc hbb.size _).trans (hb2.mono (by have:=hbb.size;simp;omega));go_wp2_with fail;go_ret;exact⟨by rw[HX.out];simp[*],hbc⟩
 ·have hnb':zkG n s=false:=by simpa using hnb
  clear hnb;go_enter Tryz.func102,Tryz.ntmps102;go_wp2_with fail;refine(zkA _ _ _ _ _ _ _).mono ?_;rintro e w1 ⟨rfl,hb1⟩;have hbb:Below w.heap.size w w1:=((Below.refl _ _).alloc (Nat.le_refl _) _).trans (hb1.mono (by simp));go_wp2_with fail;go_ret;exact⟨by rw[HX.out];simp[*],hbb⟩
theorem zyU (n:Int) (s:ByteArray) (ks:List T) (v:Value) (w:World) (hv:NV w Any (.nd 6 n s ks) v)
  (ih:∀ i (hi:i<ks.length) v1 w1,NV w1 Any ks[i] v1->Calls Tryz.prog 102 #[v1] w1 fun e w'=>e=.returned (.bool (isE ks[i]))/\Below w1.heap.size w1 w') :
  Calls Tryz.prog 102 #[v] w fun e w'=>e=.returned (.bool (isE (.nd 6 n s ks)))/\Below w.heap.size w w':=by
 have HX:=zh (show isE (.nd 6 n s ks)=(zks n s&&zkN 1 (fun _=>isE) ks) by simp[isE,zkN,zox 0]);have IH:=zh ih;have HV:=zh hv;obtain⟨Ad,c,rfl,hf,hlk,hlc,hrow⟩:=hv.open_;simp only[T.k_nd,T.n_nd,T.s_nd,T.ks_nd] at *
 have ak:=zkx hlk;clear hf hv hlk hrow hlc ih;by_cases hnb:zks n s=true
 ·go_enter Tryz.func102,Tryz.ntmps102;go_wp2_with fail;refine(zkr _ _ _ _ _ _ _).mono ?_;rintro e w1 ⟨rfl,hb1⟩;obtain⟨hc1,hf1⟩:=zlf hb1;have hbb:Below w.heap.size w w1:=((Below.refl _ _).alloc (Nat.le_refl _) _).trans (hb1.mono (by simp));go_wp2_with fail;refine(zkY (.nd 6 n s ks) _ _ (HV.out.later (hbb.alloc hbb.size _)) _ 1 (fun _=>102) (fun _=>Tryz.f102) (fun _=>isE) (by decide) (by simp) (fun i hi=>zmN (by rcases i with _|_|i<;>first|omega|rfl)) (fun _ _=>zlg) (fun _=>IH.out)).mono ?_;rintro e w2 ⟨rfl,hb2⟩;have hbc:Below w.heap.size w w2:=(hbb.alloc hbb.size _).trans (hb2.mono (by have:=hbb.size;simp;omega));go_wp2_with fail;go_ret;exact⟨by rw[HX.out];simp[*],hbc⟩
 ·have hnb':zks n s=false:=by simpa using hnb
  clear hnb;go_enter Tryz.func102,Tryz.ntmps102;go_wp2_with fail;refine(zkr _ _ _ _ _ _ _).mono ?_;rintro e w1 ⟨rfl,hb1⟩;have hbb:Below w.heap.size w w1:=((Below.refl _ _).alloc (Nat.le_refl _) _).trans (hb1.mono (by simp));go_wp2_with fail;go_ret;exact⟨by rw[HX.out];simp[*],hbb⟩
theorem zyT (n:Int) (s:ByteArray) (ks:List T) (v:Value) (w:World) (hv:NV w Any (.nd 7 n s ks) v)
  (ih:∀ i (hi:i<ks.length) v1 w1,NV w1 Any ks[i] v1->Calls Tryz.prog 102 #[v1] w1 fun e w'=>e=.returned (.bool (isE ks[i]))/\Below w1.heap.size w1 w') :
  Calls Tryz.prog 102 #[v] w fun e w'=>e=.returned (.bool (isE (.nd 7 n s ks)))/\Below w.heap.size w w':=by
 have HX:=zh (show isE (.nd 7 n s ks)=(zks n s&&zkN 1 (fun _=>isE) ks) by simp[isE,zkN,zox 0]);have IH:=zh ih;have HV:=zh hv;obtain⟨Ad,c,rfl,hf,hlk,hlc,hrow⟩:=hv.open_;simp only[T.k_nd,T.n_nd,T.s_nd,T.ks_nd] at *
 have ak:=zkx hlk;clear hf hv hlk hrow hlc ih;by_cases hnb:zks n s=true
 ·go_enter Tryz.func102,Tryz.ntmps102;go_wp2_with fail;refine(zkr _ _ _ _ _ _ _).mono ?_;rintro e w1 ⟨rfl,hb1⟩;obtain⟨hc1,hf1⟩:=zlf hb1;have hbb:Below w.heap.size w w1:=((Below.refl _ _).alloc (Nat.le_refl _) _).trans (hb1.mono (by simp));go_wp2_with fail;refine(zkY (.nd 7 n s ks) _ _ (HV.out.later (hbb.alloc hbb.size _)) _ 1 (fun _=>102) (fun _=>Tryz.f102) (fun _=>isE) (by decide) (by simp) (fun i hi=>zmN (by rcases i with _|_|i<;>first|omega|rfl)) (fun _ _=>zlg) (fun _=>IH.out)).mono ?_;rintro e w2 ⟨rfl,hb2⟩;have hbc:Below w.heap.size w w2:=(hbb.alloc hbb.size _).trans (hb2.mono (by have:=hbb.size;simp;omega));go_wp2_with fail;go_ret;exact⟨by rw[HX.out];simp[*],hbc⟩
 ·have hnb':zks n s=false:=by simpa using hnb
  clear hnb;go_enter Tryz.func102,Tryz.ntmps102;go_wp2_with fail;refine(zkr _ _ _ _ _ _ _).mono ?_;rintro e w1 ⟨rfl,hb1⟩;have hbb:Below w.heap.size w w1:=((Below.refl _ _).alloc (Nat.le_refl _) _).trans (hb1.mono (by simp));go_wp2_with fail;go_ret;exact⟨by rw[HX.out];simp[*],hbb⟩
theorem zuL (k n:Int) (s:ByteArray) (ks:List T) (v:Value) (w:World) (h8:8<=k) (h23:k<=23) (hv:NV w Any (.nd k n s ks) v)
  (ih:∀ i (hi:i<ks.length) v1 w1,NV w1 Any ks[i] v1->Calls Tryz.prog 102 #[v1] w1 fun e w'=>e=.returned (.bool (isE ks[i]))/\Below w1.heap.size w1 w') :
  Calls Tryz.prog 102 #[v] w fun e w'=>e=.returned (.bool (isE (.nd k n s ks)))/\Below w.heap.size w w':=by
 have HX:=zh (show isE (.nd k n s ks)=(zks n s&&zkN 2 (fun _=>isE) ks) by rw[isE,if_neg (by omega),if_neg (by omega),if_neg (by omega),if_neg (by omega),if_pos ⟨h8,h23⟩,zkN,zox 0]);have IH:=zh ih;have HV:=zh hv;obtain⟨Ad,c,rfl,hf,hlk,hlc,hrow⟩:=hv.open_;simp only[T.k_nd,T.n_nd,T.s_nd,T.ks_nd] at *
 have ak:=zkx hlk;clear hf hv hlk hrow hlc ih;by_cases hnb:zks n s=true
 ·go_enter Tryz.func102,Tryz.ntmps102;go_wp2_with fail;refine(zkr _ _ _ _ _ _ _).mono ?_;rintro e w1 ⟨rfl,hb1⟩;obtain⟨hc1,hf1⟩:=zlf hb1;have hbb:Below w.heap.size w w1:=((Below.refl _ _).alloc (Nat.le_refl _) _).trans (hb1.mono (by simp));go_wp2_with fail;refine(zkY (.nd k n s ks) _ _ (HV.out.later (hbb.alloc hbb.size _)) _ 2 (fun _=>102) (fun _=>Tryz.f102) (fun _=>isE) (by decide) (by simp) (fun i hi=>zmN (by rcases i with _|_|i<;>first|omega|rfl)) (fun _ _=>zlg) (fun _=>IH.out)).mono ?_;rintro e w2 ⟨rfl,hb2⟩;have hbc:Below w.heap.size w w2:=(hbb.alloc hbb.size _).trans (hb2.mono (by have:=hbb.size;simp;omega));go_wp2_with fail;go_ret;exact⟨by rw[HX.out];simp[*],hbc⟩
 ·have hnb':zks n s=false:=by simpa using hnb
  clear hnb;go_enter Tryz.func102,Tryz.ntmps102;go_wp2_with fail;refine(zkr _ _ _ _ _ _ _).mono ?_;rintro e w1 ⟨rfl,hb1⟩;have hbb:Below w.heap.size w w1:=((Below.refl _ _).alloc (Nat.le_refl _) _).trans (hb1.mono (by simp));go_wp2_with fail;go_ret;exact⟨by rw[HX.out];simp[*],hbb⟩
theorem zuK (k n:Int) (s:ByteArray) (ks:List T) (v:Value) (w:World) (n1:(k==1)=false) (n2:(k==2)=false) (n3:(k==3)=false) (n4:(k==4)=false) (n5:(k==5)=false) (n6:(k==6)=false) (n7:(k==7)=false) (h8:k<8\/23<k) (hv:NV w Any (.nd k n s ks) v) :
  Calls Tryz.prog 102 #[v] w fun e w'=>e=.returned (.bool (isE (.nd k n s ks)))/\Below w.heap.size w w':=by
 obtain⟨Ad,c,rfl,hf,hlk,hlc,hrow⟩:=hv.open_;simp only[T.k_nd,T.n_nd,T.s_nd,T.ks_nd] at *
 have ak:=zkx hlk;have HX:=zh (show isE (.nd k n s ks)=false by
  simp only[beq_eq_false_iff_ne,ne_eq] at n1 n2 n3 n4 n5 n6 n7;rw[isE,if_neg (by omega),if_neg (by omega),if_neg (by omega),if_neg (by omega),if_neg (by omega)])
 clear hf hv hlk hrow hlc;rcases h8 with h8|h8
 all_goals
  go_enter Tryz.func102,Tryz.ntmps102;go_wp2;go_ret;exact⟨by rw[HX.out];rfl,(Below.refl _ _).alloc (Nat.le_refl _) _⟩
theorem zkO (t:T):∀ (v:Value) (w:World),NV w Any t v ->
  Calls Tryz.prog 102 #[v] w fun e w'=>e=.returned (.bool (isE t))/\Below w.heap.size w w':=by
 induction t using T.ind with
 | _ k n s ks ih =>
 intro v w hv;have ih':∀ i (hi:i<ks.length) v1 w1,NV w1 Any ks[i] v1->Calls Tryz.prog 102 #[v1] w1 fun e w'=>e=.returned (.bool (isE ks[i]))/\Below w1.heap.size w1 w':=fun i hi=>ih _ (List.getElem_mem hi);by_cases h1:k=1
 ·subst h1;exact zyZ n s ks v w hv
 by_cases h2:k=2
 ·subst h2;exact zyY n s ks v w hv
 by_cases h4:k=4
 ·subst h4;exact zyW n s ks v w hv
 by_cases h5:k=5
 ·subst h5;exact zyV n s ks v w hv
 by_cases h3:k=3
 ·subst h3;exact zyX n s ks v w hv ih'
 by_cases h6:k=6
 ·subst h6;exact zyU n s ks v w hv ih'
 by_cases h7:k=7
 ·subst h7;exact zyT n s ks v w hv ih'
 by_cases h8:8<=k/\k<=23
 ·exact zuL k n s ks v w h8.1 h8.2 hv ih'
 ·exact zuK k n s ks v w (by simpa using h1) (by simpa using h2) (by simpa using h3) (by simpa using h4) (by simpa using h5) (by simpa using h6) (by simpa using h7) (by omega) hv
theorem zkU (t:T) (v:Value) (w:World) (hv:NV w Any t v) :
  Calls Tryz.prog 101 #[v] w fun e w'=>e=.returned (.bool (isP t))/\Below w.heap.size w w':=by
 have HV:=zh hv;obtain⟨Ad,c,rfl,hf,hlk,hlc,hrow⟩:=hv.open_;clear hf hlk hrow hv;have HX:=zh (show isP t=((t.k==2||t.k==3)&&isE t) from rfl);generalize t.k=k,t.n=n,t.s=s,t.ks.length=l at *
 by_cases h2:(k==2)=true
 ·go_enter Tryz.func101,Tryz.ntmps101;go_wp2_with (go_at_call 102;refine(zkO t _ _ (HV.out.later ((Below.refl _ _).alloc (Nat.le_refl _) _))).mono ?_;rintro e w1 ⟨rfl,hb1⟩)
  go_ret;exact⟨by rw[HX.out];simp[h2],((Below.refl _ _).alloc (Nat.le_refl _) _).trans (hb1.mono (by simp))⟩
 ·have h2':(k==2)=false:=by simpa using h2
  clear h2;by_cases h3:(k==3)=true
  ·go_enter Tryz.func101,Tryz.ntmps101;go_wp2_with (go_at_call 102;refine(zkO t _ _ (HV.out.later ((Below.refl _ _).alloc (Nat.le_refl _) _))).mono ?_;rintro e w1 ⟨rfl,hb1⟩)
   go_ret;exact⟨by rw[HX.out];simp[h3],((Below.refl _ _).alloc (Nat.le_refl _) _).trans (hb1.mono (by simp))⟩
  ·have h3':(k==3)=false:=by simpa using h3
   clear h3;go_enter Tryz.func101,Tryz.ntmps101;go_wp2_with fail;go_ret;exact⟨by rw[HX.out];simp[h2',h3'],((Below.refl _ _).alloc (Nat.le_refl _) _)⟩
theorem zrI (t:T) (v:Value) (w:World) (hv:NV w Any t v) :
  Calls Tryz.prog 105 #[v] w fun e w'=>e=.returned (.bool (isV t))/\Below w.heap.size w w':=by
 have HV:=zh hv;obtain⟨Ad,c,rfl,hf,hlk,hlc,hrow⟩:=hv.open_;clear hf hlk hrow hv;have HX:=zh (show isV t=(t.k==2&&isE t) from rfl);generalize t.k=k,t.n=n,t.s=s,t.ks.length=l at *
 by_cases h2:(k==2)=true
 ·go_enter Tryz.func105,Tryz.ntmps105;go_wp2_with (go_at_call 102;refine(zkO t _ _ (HV.out.later ((Below.refl _ _).alloc (Nat.le_refl _) _))).mono ?_;rintro e w1 ⟨rfl,hb1⟩)
  go_ret;exact⟨by rw[HX.out];simp[h2],((Below.refl _ _).alloc (Nat.le_refl _) _).trans (hb1.mono (by simp))⟩
 ·have h2':(k==2)=false:=by simpa using h2
  clear h2;go_enter Tryz.func105,Tryz.ntmps105;go_wp2_with fail;go_ret;exact⟨by rw[HX.out];simp[h2'],((Below.refl _ _).alloc (Nat.le_refl _) _)⟩
end Go.Proofs.YtckhofdinldhpaaGreat
namespace Go.Proofs.YtckhofdinldhpaaGreat
open Go Go.RowKit
def varE (look:ByteArray->Option (List Int)) (k:Int) (s:ByteArray) (i:Int×Int):Int×Int :=
 match look s with
 | none=>(0,6)
 | some l =>
  if k=2 then (if l.length=1 then (l.getD 0 0,0) else (0,7))
  else if k=3 then (if i.2≠0 then (0,i.2) else if 0<=i.1/\i.1<l.length then (l.getD i.1.toNat 0,0) else (0,12))
  else if k=4 then (if l.length=0 then (0,13) else (l.getD (l.length-1) 0,0))
  else (l.length,0)
def evK (look:ByteArray->Option (List Int)) (k n:Int) (s:ByteArray) (rs:List (Int×Int)):Int×Int :=
 if k=1 then (n,0)
 else if 2<=k/\k<=5 then varE look k s (rs.getD 0 (0,0))
 else if (rs.getD 0 (0,0)).2≠0 then (0,(rs.getD 0 (0,0)).2)
 else if rs.length=1 then unE k (rs.getD 0 (0,0)).1
 else if (rs.getD 1 (0,0)).2≠0 then (0,(rs.getD 1 (0,0)).2)
 else apE k (rs.getD 0 (0,0)).1 (rs.getD 1 (0,0)).1
mutual
def evE (look:ByteArray->Option (List Int)):T->Int×Int
 | .nd k n s ks=>evK look k n s (evEs look ks)
def evEs (look:ByteArray->Option (List Int)):List T->List (Int×Int)
 | []=>[]
 | t::ts=>evE look t::evEs look ts
end
theorem znu (look:ByteArray->Option (List Int)):∀ ks:List T,evEs look ks=ks.map (evE look)
 | []=>by simp[evEs]
 | t::ts=>by simp[evEs,znu look ts]
structure zs6 (f:FuncId) (fn:Func) (rv:Value) (Rd:World->Prop) (look:ByteArray->Option (List Int)):Prop where
 isFn:IsFn Tryz.prog f fn
 later:∀ W W',Rd W->Below W.heap.size W W'->Rd W'
 fits:∀ s l,look s=some l->l.length<=100000
 call:∀ (s:ByteArray) (W:World),Rd W->Calls Tryz.prog f #[rv,.string s] W fun e W'=>Below W.heap.size W W' /\
  ((look s=none/\∃ A c,e=.returned (.tuple #[.slice A 0 c,.bool false]))\/∃ l A c,look s=some l/\e=.returned (.tuple #[.slice A l.length c,.bool true])/\RowI W' Any A l)
def NumE (r:Int×Int) (w:World) (e:Ending) (w':World):Prop:=e=.returned (.tuple #[.int .i64 r.1,.int .i64 r.2])/\Below w.heap.size w w'
def ValC (f:FuncId) (rv:Value) (Rd:World->Prop) (look:ByteArray->Option (List Int)) (t:T):Prop :=
 ∀ (v:Value) (W:World),NV W Any t v->Rd W->Calls Tryz.prog 143 #[v,.func (.func f) #[rv] #[]] W (NumE (evE look t) W)
theorem RowI.nd {w:World} {S:Nat->Prop} {A:Option Addr} {xs:List Int} (h:RowI w S A xs) {i:Nat} (hi:i<xs.length):∃ a:Addr,A=some a/\w.cell? (a.add i)=some (.int .i64 (xs.getD i 0)) :=
 let ⟨a,h1,_,h3,_⟩:=h i hi;⟨a,h1,by simpa[hi] using h3⟩
theorem zoH {f:FuncId} {fn:Func} {rv:Value} {Rd:World->Prop} {look:ByteArray->Option (List Int)} (hL:zs6 f fn rv Rd look) (k n:Int) (s:ByteArray) (ks:List T) (v:Value) (w:World) (hv:NV w Any (.nd k n s ks) v) (hR:Rd w)
  (hk:2<=k/\k<=5) (h3:k=3->∃ t,ks=[t]/\ValC f rv Rd look t) :
  Calls Tryz.prog 175 #[v,.func (.func f) #[rv] #[]] w (NumE (varE look k s ((ks.map (evE look)).getD 0 (0,0))) w):=by
 obtain⟨A,c,rfl,hf,hlk,hlc,hrow⟩:=hv.open_;simp only[T.k_nd,T.n_nd,T.s_nd,T.ks_nd] at *
 have hcall:=zkP hL.isFn;have HL:=zh hL;have qC:=zh hR;have ae:=zh hrow;have H3:=zh h3;obtain⟨L,rY⟩:∃ L,ks.length=L:=⟨_,rfl⟩
 rw[rY];obtain⟨R,hRR⟩:∃ R,varE look k s ((ks.map (evE look)).getD 0 (0,0))=R:=⟨_,rfl⟩
 rw[hRR];have HRR:=zh hRR;have gV:=zh rY;clear hv hrow h3 hL hR hRR rY hf hlk hlc;go_enter Tryz.func175,Tryz.ntmps175;go_wp2_with fail;refine(HL.out.call s _ (HL.out.later _ _ qC.out (zkb (Below.refl _ _) _))).mono ?_;rintro e w1 ⟨aa,h1⟩;have q1:=zka (zkb (Below.refl _ _) _) aa;have hN:=zkd (heap_alloc_new w (.cells #[.int .u8 k,.int .i64 n,.string s,.slice A L c] 29)) aa;obtain⟨a0,a1,a2,a3⟩:=box4 hN;have HN:=zh hN;clear aa hN;rcases h1 with⟨hno,A1,c1,rfl⟩|⟨l,A1,c1,hso,rfl,aU⟩
 ·have hRR:R=(0,6):=by rw[<-HRR.out,varE,hno]
  subst hRR;clear a0 a1 a2 a3;go_wp2_with fail;go_ret2;exact⟨rfl,q1⟩
 ·have hlen:=HL.out.fits s l hso;have dM:=zh aU;have kY:=zh hso;clear aU hso;by_cases k2:k=2
  ·subst k2;have hRR:R=if l.length=1 then (l.getD 0 0,0) else (0,7):=by rw[<-HRR.out,varE,kY.out];rfl
   by_cases hl1:l.length=1
   ·rw[if_pos hl1] at hRR;obtain⟨a,rfl,hc⟩:=dM.out.nd (i:=0) (by omega);simp only[Addr.add_zero'] at hc;obtain⟨x0,hx0⟩:∃ x0,l.getD 0 0=x0:=⟨_,rfl⟩
    rw[hx0] at hc hRR;have HX:=zh hRR;rw[hl1];clear hx0 hl1 dM HRR kY hRR;go_wp2_with fail;go_ret2;exact⟨by rw[HX.out];rfl,q1⟩
   ·rw[if_neg hl1] at hRR;have HX:=zh hRR;have e1:((l.length:Int)==1)=false:=by simp;omega
    have e2:((l.length:Int) != 1)=true:=by simp;omega
    clear hl1 hRR;go_wp2_with fail;go_ret2;exact⟨by rw[HX.out];rfl,q1⟩
  by_cases k4:k=4
  ·subst k4;have hRR:R=if l.length=0 then (0,13) else (l.getD (l.length-1) 0,0):=by rw[<-HRR.out,varE,kY.out];rfl
   by_cases hl1:l.length=0
   ·rw[if_pos hl1] at hRR;have HX:=zh hRR;rw[hl1];clear hl1 dM HRR kY hRR;go_wp2_with fail;go_ret2;exact⟨by rw[HX.out];rfl,q1⟩
   ·rw[if_neg hl1] at hRR;obtain⟨a,rfl,hc⟩:=dM.out.nd (i:=l.length-1) (by omega);obtain⟨x0,hx0⟩:∃ x0,l.getD (l.length-1) 0=x0:=⟨_,rfl⟩
    rw[hx0] at hc hRR;have HX:=zh hRR;obtain⟨m,hm⟩:∃ m,l.length=m+1:=⟨l.length-1,by omega⟩
    rw[hm] at hc hlen ⊢;simp only[Nat.add_sub_cancel] at hc;clear hx0 hl1 dM HRR kY hm hRR;go_wp2_with fail;go_ret2;exact⟨by rw[HX.out];rfl,q1⟩
  by_cases k5:k=5
  ·subst k5;have hRR:R=((l.length:Int),0):=by rw[<-HRR.out,varE,kY.out];rfl
   have HX:=zh hRR;clear dM HRR kY hRR;go_wp2_with fail;go_ret2;exact⟨by rw[HX.out];rfl,q1⟩
  ·obtain rfl:k=3:=by omega
   obtain⟨t,rfl,hval⟩:=H3.out rfl;obtain⟨a,t0,A2,c2,rfl,_,Ht,⟨y0,y1,y2,y3⟩,hn0⟩:=(ae.out.later q1).nd (i:=0) (by simp);simp only[Nat.zero_mul,Addr.add_zero'] at y0 y1 y2 y3;have ht0:t0=t:=Ht.out.symm;subst ht0;have hL1:L=1:=gV.out.symm;subst hL1;obtain⟨⟨iv,ie⟩,hiv⟩:∃ r,evE look t0=r:=⟨_,rfl⟩
   have hRR:R=if ie≠0 then (0,ie) else if 0<=iv/\iv<l.length then (l.getD iv.toNat 0,0) else (0,12):=by rw[<-HRR.out,varE,kY.out];simp[hiv]
   have oh:=zh (show ∀ (v:Value) (W:World),NV W Any t0 v->Rd W->Calls Tryz.prog 143 #[v,.func (.func f) #[rv] #[]] W (NumE (iv,ie) W) from hiv▸hval);have eH:=zh hn0;have HR2:=zh hRR;clear hval hn0 Ht hiv hRR;go_wp2_with fail;refine(oh.out _ _ eH.out (HL.out.later _ _ qC.out q1)).mono ?_;rintro e w2 ⟨rfl,ag⟩;have q2:=zka q1 ag;have fG:=zh (dM.out.later ag);have hRR:=HR2.out;clear ag a0 a1 a2 a3 y0 y1 y2 y3 HRR kY dM HR2;by_cases he:ie=0
   ·subst he;rw[if_neg (by simp)] at hRR;by_cases hb:0<=iv/\iv<l.length
    ·rw[if_pos hb] at hRR;obtain⟨j,hj⟩:∃ j:Nat,iv=j:=⟨iv.toNat,by omega⟩
     subst hj;have hjl:j<l.length:=by omega
     obtain⟨a',rfl,hc⟩:=fG.out.nd hjl;simp only[Int.toNat_natCast] at hRR;obtain⟨x0,hx0⟩:∃ x0,l.getD j 0=x0:=⟨_,rfl⟩
     rw[hx0] at hc hRR;have HX:=zh hRR;clear hx0 fG hRR hb;go_wp2_with fail;go_ret2;exact⟨by rw[HX.out];rfl,q2⟩
    ·rw[if_neg hb] at hRR;have HX:=zh hRR;clear hRR fG;by_cases h0:0<=iv
     ·have h1:(l.length:Int)<=iv:=by omega
      have h2:¬ iv<0:=by omega
      clear hb;go_wp2_with fail;go_ret2;exact⟨by rw[HX.out];rfl,q2⟩
     ·have h1:iv<0:=by omega
      clear hb;go_wp2_with fail;go_ret2;exact⟨by rw[HX.out];rfl,q2⟩
   ·rw[if_pos he] at hRR;have HX:=zh hRR;have e1:(ie==0)=false:=by simpa using he
    have e2:(ie != 0)=true:=by simpa using he
    clear hRR fG he;go_wp2_with fail;go_ret2;exact⟨by rw[HX.out];rfl,q2⟩
theorem zqk {k n:Int} {s:ByteArray} {ks:List T} (h:isE (.nd k n s ks)=true) :
  (k=1/\ks=[])\/((k=2\/k=4\/k=5)/\ks=[])\/(k=3/\∃ t,ks=[t]/\isE t=true)\/((k=6\/k=7)/\∃ t,ks=[t]/\isE t=true)\/((8<=k/\k<=23)/\∃ t u,ks=[t,u]/\isE t=true/\isE u=true):=by
 have l0:decide (ks.length=0)=true->ks=[]:=fun h=>by simpa using h
 have l1:(decide (ks.length=1)&&isEs ks)=true->∃ t,ks=[t]/\isE t=true:=fun h=>by
  match ks with
  | [t]=>simp[isEs] at h;exact⟨t,rfl,h⟩
  | []=>simp at h
  | a::b::l=>simp at h
 have l2:(decide (ks.length=2)&&isEs ks)=true->∃ t u,ks=[t,u]/\isE t=true/\isE u=true:=fun h=>by
  match ks with
  | [t,u]=>simp[isEs] at h;exact⟨t,u,rfl,h⟩
  | []=>simp at h
  | [a]=>simp at h
  | a::b::c::l=>simp at h
 rw[isE] at h
 split at h
 ·rename_i h1;simp only[Bool.and_eq_true] at h;exact .inl ⟨h1,l0 h.2⟩
 ·split at h
  ·rename_i h1;simp only[Bool.and_eq_true] at h;exact .inr (.inl ⟨h1,l0 h.2⟩)
  ·split at h
   ·rename_i h1;rw[Bool.and_eq_true] at h;exact .inr (.inr (.inl ⟨h1,l1 h.2⟩))
   ·split at h
    ·rename_i h1;rw[Bool.and_eq_true] at h;exact .inr (.inr (.inr (.inl ⟨h1,l1 h.2⟩)))
    ·split at h
     ·rename_i h1;rw[Bool.and_eq_true] at h;exact .inr (.inr (.inr (.inr ⟨h1,l2 h.2⟩)))
     ·cases h
theorem zqz {f:FuncId} {fn:Func} {rv:Value} {Rd:World->Prop} {look:ByteArray->Option (List Int)} (hL:zs6 f fn rv Rd look) (t:T):isE t=true->ValC f rv Rd look t:=by
 refine T.ind (p:=fun t=>isE t=true->ValC f rv Rd look t) ?_ t;intro k n s ks ih hE v w hv hR;have HV:=zh hv;have HL:=zh hL;have qC:=zh hR;obtain⟨A,c,rfl,hf,hlk,hlc,hrow⟩:=hv.open_;simp only[T.k_nd,T.n_nd,T.s_nd,T.ks_nd] at *
 have ae:=zh hrow;obtain⟨R,hRR⟩:∃ R,evE look (.nd k n s ks)=R:=⟨_,rfl⟩
 rw[hRR];rw[evE,znu] at hRR;rcases zqk hE with⟨rfl,rfl⟩|⟨hk,rfl⟩|⟨rfl,t,rfl,ht⟩|⟨hk,t,rfl,ht⟩|⟨hk,t,u,rfl,ht,hu⟩
 ·have HX:=zh (show R=(n,0) by rw[<-hRR,evK];rfl);clear hv hrow ih hE hR hL hRR hf hlk hlc;go_enter Tryz.func143,Tryz.ntmps143;go_wp2_with fail;go_ret2;exact⟨by rw[HX.out];rfl,zkb (Below.refl _ _) _⟩
 ·have HX:=zh (show varE look k s (([].map (evE look)).getD 0 (0,0))=R by rw[<-hRR,evK,if_neg (by omega),if_pos (by omega)]);have HC:=zh (fun w' (h:Below w.heap.size w w')=>zoH hL k n s [] _ w' (hv.later h) (hL.later _ _ hR h) (by omega) (fun h=>by omega));clear hv hrow ih hE hR hL hRR hf hlk hlc;rcases hk with rfl|rfl|rfl
  all_goals
   go_enter Tryz.func143,Tryz.ntmps143;go_wp2_with fail;refine(HC.out _ (zkb (Below.refl _ _) _)).mono ?_;rintro e w1 ⟨rfl,aa⟩;rw[HX.out];have q1:=zka (zkb (Below.refl _ _) _) aa;clear aa;go_wp2_with fail;go_ret2;exact⟨rfl,q1⟩
 ·have HX:=zh (show varE look 3 s (([t].map (evE look)).getD 0 (0,0))=R by rw[<-hRR,evK,if_neg (by omega),if_pos (by omega)]);have HC:=zh (fun w' (h:Below w.heap.size w w')=>zoH hL 3 n s [t] _ w' (hv.later h) (hL.later _ _ hR h) (by omega) (fun _=>⟨t,rfl,ih t List.mem_cons_self ht⟩));clear hv hrow ih hE hR hL hRR hf hlk hlc;simp only[List.length_cons,List.length_nil,Nat.zero_add] at *
  go_enter Tryz.func143,Tryz.ntmps143;go_wp2_with fail;refine(HC.out _ (zkb (Below.refl _ _) _)).mono ?_;rintro e w1 ⟨rfl,aa⟩;rw[HX.out];have q1:=zka (zkb (Below.refl _ _) _) aa;clear aa;go_wp2_with fail;go_ret2;exact⟨rfl,q1⟩
 ·obtain⟨⟨iv,ie⟩,hiv⟩:∃ r,evE look t=r:=⟨_,rfl⟩
  obtain⟨⟨uv,ue⟩,hu⟩:∃ r,unE k iv=r:=⟨_,rfl⟩
  have HX:=zh (show R=if ie≠0 then (0,ie) else (uv,ue) by rw[<-hRR,<-hu,evK,if_neg (by omega),if_neg (by omega)];simp[hiv]);have oh:=zh (show ∀ (v:Value) (W:World),NV W Any t v->Rd W->Calls Tryz.prog 143 #[v,.func (.func f) #[rv] #[]] W (NumE (iv,ie) W) from hiv▸ih t List.mem_cons_self ht);obtain⟨a,t0,A2,c2,rfl,_,Ht,⟨y0,y1,y2,y3⟩,hn0⟩:=(hrow.later (zkb (Below.refl _ _) (.cells #[.int .u8 k,.int .i64 n,.string s,.slice A [t].length c] 29))).nd (i:=0) (by simp);simp only[Nat.zero_mul,Addr.add_zero',List.length_cons,List.length_nil,Nat.zero_add] at *
  have ht0:t0=t:=Ht.out.symm;subst ht0;have eH:=zh hn0;have hbx:=box4 (heap_alloc_new w (.cells #[.int .u8 k,.int .i64 n,.string s,.slice (some a) 1 c] 29));obtain⟨W0,hW0⟩:∃ W0,w.alloc (.cells #[.int .u8 k,.int .i64 n,.string s,.slice (some a) 1 c] 29)=W0:=⟨_,rfl⟩
  have q0:Below w.heap.size w W0:=hW0▸zkb (Below.refl _ _) _;rw[hW0] at y0 y1 y2 y3 eH hbx;have nD:=zh (hL.later _ _ hR q0);have jT:=zh (show ∀ w,Calls Tryz.prog 176 #[.int .u8 k,.int .i64 iv] w fun e w'=>e=.returned (.tuple #[.int .i64 uv,.int .i64 ue])/\w'=w from fun w=>by have:=zsd k iv hk w;rwa[hu] at this);have aO:=zh hbx;obtain⟨x0,x1,x2,x3⟩:=hbx;clear hv hrow ih hE hR hL hRR hf hlk hlc hn0 Ht hiv hu;rcases hk with rfl|rfl
  all_goals
   go_enter Tryz.func143,Tryz.ntmps143;go_wp2_with fail;refine(oh.out _ _ eH.out nD.out).mono ?_;rintro e w1 ⟨rfl,aa⟩;have q1:=zka q0 aa;have hx0:=zb aa x0;have hx3:=zb aa x3;clear aa y0 y1 y2 y3 x0 x1 x2 x3;have hX:=HX.out;by_cases he:ie=0
   ·subst he;rw[if_neg (by simp)] at hX;have bf:=zh hX;clear hX HX;go_wp2_with fail;refine(jT.out _).mono ?_;rintro e w2 ⟨rfl,rfl⟩;go_wp2_with fail;go_ret2;exact⟨by rw[bf.out];rfl,q1⟩
   ·rw[if_pos he] at hX;have bf:=zh hX;have e1:(ie==0)=false:=by simpa using he
    have e2:(ie != 0)=true:=by simpa using he
    clear hX HX he;go_wp2_with fail;go_ret2;exact⟨by rw[bf.out];rfl,q1⟩
 ·obtain⟨⟨iv,ie⟩,hiv⟩:∃ r,evE look t=r:=⟨_,rfl⟩
  obtain⟨⟨jv,je⟩,hjv⟩:∃ r,evE look u=r:=⟨_,rfl⟩
  obtain⟨⟨uv,ue⟩,hu'⟩:∃ r,apE k iv jv=r:=⟨_,rfl⟩
  have HX:=zh (show R=if ie≠0 then (0,ie) else if je≠0 then (0,je) else (uv,ue) by rw[<-hRR,<-hu',evK,if_neg (by omega),if_neg (by omega)];simp[hiv,hjv]);have oh:=zh (show ∀ (v:Value) (W:World),NV W Any t v->Rd W->Calls Tryz.prog 143 #[v,.func (.func f) #[rv] #[]] W (NumE (iv,ie) W) from hiv▸ih t (by simp) ht);have HVD:=zh (show ∀ (v:Value) (W:World),NV W Any u v->Rd W->Calls Tryz.prog 143 #[v,.func (.func f) #[rv] #[]] W (NumE (jv,je) W) from hjv▸ih u (by simp) hu);have jT:=zh (show ∀ w,Calls Tryz.prog 177 #[.int .u8 k,.int .i64 iv,.int .i64 jv] w fun e w'=>e=.returned (.tuple #[.int .i64 uv,.int .i64 ue])/\w'=w from fun w=>by have:=zsf k iv jv hk w;rwa[hu'] at this);have hrow':=hrow.later (zkb (Below.refl _ _) (.cells #[.int .u8 k,.int .i64 n,.string s,.slice A [t,u].length c] 29));obtain⟨a,t0,A2,c2,rfl,_,Ht,h4,hn0⟩:=hrow'.nd (i:=0) (by simp)
  obtain⟨a',t1,A3,c3,ea,_,Hu,h5,hn1⟩:=hrow'.nd (i:=1) (by simp);injection ea with ea;subst ea;have ha:a.add (1*4)=⟨a.block,a.off+4,none⟩:=by unfold Addr.add;split<;>simp_all
  rw[ha] at h5;simp only[Nat.zero_mul,Addr.add_zero',List.length_cons,List.length_nil,Nat.zero_add] at *
  have ht0:t0=t:=Ht.out.symm;have hu0:t1=u:=Hu.out.symm;subst ht0 hu0;have hbx:=box4 (heap_alloc_new w (.cells #[.int .u8 k,.int .i64 n,.string s,.slice (some a) 2 c] 29));obtain⟨W0,hW0⟩:∃ W0,w.alloc (.cells #[.int .u8 k,.int .i64 n,.string s,.slice (some a) 2 c] 29)=W0:=⟨_,rfl⟩
  have q0:Below w.heap.size w W0:=hW0▸zkb (Below.refl _ _) _;rw[hW0] at h4 h5 hn0 hn1 hbx;have eH:=zh hn0;have eG:=zh hn1;have nD:=zh (hL.later _ _ hR q0);have di:=zh (show ∀ w',Below W0.heap.size W0 w'->(Nd4 w' a t0 A2 c2/\Nd4 w' ⟨a.block,a.off+4,none⟩ t1 A3 c3)/\w'.cell? ⟨w.heap.size,0,none⟩=some (.int .u8 k)/\w'.cell? ⟨w.heap.size,3,none⟩=some (.slice (some a) 2 c) from fun w' h=>⟨⟨zl3 h h4,zl3 h h5⟩,zb h hbx.1,zb h hbx.2.2.2⟩);have z1:(k==1)=false:=by simp;omega
  have z2:(k==2)=false:=by simp;omega
  have z3:(k==3)=false:=by simp;omega
  have z4:(k==4)=false:=by simp;omega
  have z5:(k==5)=false:=by simp;omega
  obtain⟨⟨⟨y0,y1,y2,y3⟩,⟨v0,v1,v2,v3⟩⟩,x0,x3⟩:=di.out _ (Below.refl _ _);clear hv hrow hrow' ih hE hR hL hRR hf hlk hlc hn0 hn1 Ht Hu hiv hjv hu' h4 h5 hbx ha hk;go_enter Tryz.func143,Tryz.ntmps143;go_wp2_with fail;refine(oh.out _ _ eH.out nD.out).mono ?_;rintro e w1 ⟨rfl,aa⟩;have r1:=aa;obtain⟨⟨⟨y0,y1,y2,y3⟩,⟨v0,v1,v2,v3⟩⟩,x0,x3⟩:=di.out _ r1;have aF:=zh (eG.out.later r1);have HRd2:=zh (HL.out.later _ _ nD.out r1);clear aa;have hX:=HX.out;by_cases he:ie=0
  ·subst he;rw[if_neg (by simp)] at hX;have bf:=zh hX;clear hX HX;go_wp2_with fail;refine(HVD.out _ _ aF.out HRd2.out).mono ?_;rintro e w2 ⟨rfl,ag⟩;have r2:=zka r1 ag;obtain⟨⟨⟨y0,y1,y2,y3⟩,⟨v0,v1,v2,v3⟩⟩,x0,x3⟩:=di.out _ r2;clear ag;have hX:=bf.out;by_cases hj:je=0
   ·subst hj;rw[if_neg (by simp)] at hX;have jS:=zh hX;clear hX bf;go_wp2_with fail;refine(jT.out _).mono ?_;rintro e w3 ⟨rfl,rfl⟩;go_wp2_with fail;go_ret2;exact⟨by rw[jS.out];rfl,zka q0 r2⟩
   ·rw[if_pos hj] at hX;have jS:=zh hX;have e1:(je==0)=false:=by simpa using hj
    have e2:(je != 0)=true:=by simpa using hj
    clear hX bf hj;go_wp2_with fail;go_ret2;exact⟨by rw[jS.out];rfl,zka q0 r2⟩
  ·rw[if_pos he] at hX;have bf:=zh hX;have e1:(ie==0)=false:=by simpa using he
   have e2:(ie != 0)=true:=by simpa using he
   clear hX HX he;go_wp2_with fail;go_ret2;exact⟨by rw[bf.out];rfl,zka q0 r1⟩
theorem zzi (f:FuncId) (rv:Value) (w:World):(binOp BinOp.eql 206 (.func (.func f) #[rv] #[]) .nilFunc).run Tryz.prog w=.ok (.bool false) w:=by kernel_rfl
def zkH (look:ByteArray->Option (List Int)) (t:T):Int×Int:=if isE t=true then evE look t else (0,3)
def indE (look:ByteArray->Option (List Int)) (t:T):Int×Int:=if isP t=true then (if t.k=2 then (0,0) else evE look (t.ks.getD 0 (.nd 0 0 ⟨#[]⟩ []))) else (0,3)
theorem zrg {f:FuncId} {fn:Func} {rv:Value} {Rd:World->Prop} {look:ByteArray->Option (List Int)} (hL:zs6 f fn rv Rd look) (t:T) (v:Value) (w:World) (hv:NV w Any t v) (hR:Rd w) :
  Calls Tryz.prog 110 #[v,.func (.func f) #[rv] #[]] w (NumE (zkH look t) w):=by
 have HV:=zh hv;have HL:=zh hL;have qC:=zh hR;obtain⟨A,c,rfl,-⟩:=hv.open_;obtain⟨⟨R1,R2⟩,hRR⟩:∃ R,zkH look t=R:=⟨_,rfl⟩
 rw[hRR];obtain⟨b,hb⟩:∃ b,isE t=b:=⟨_,rfl⟩
 have xM:=zh (show ∀ (v:Value) (w:World),NV w Any t v->Calls Tryz.prog 102 #[v] w fun e w'=>e=.returned (.bool b)/\Below w.heap.size w w' from fun v w h=>hb▸zkO t v w h);have kX:=zh (show b=true->∀ (v:Value) (W:World),NV W Any t v->Rd W->Calls Tryz.prog 143 #[v,.func (.func f) #[rv] #[]] W (NumE (R1,R2) W) from fun h=>by
  have h1:zkH look t=evE look t:=by rw[zkH,if_pos (hb.trans h)]
  rw[<-hRR,h1];exact zqz hL t (hb.trans h))
 have bY:=zh (show b=false->R1=0/\R2=3 from fun h=>by
  rw[zkH,hb,h] at hRR;simp at hRR;exact⟨hRR.1.symm,hRR.2.symm⟩)
 clear hv hR hL hRR hb;generalize t.k=k,t.n=n,t.s=s,t.ks.length=m at *
 have hen:=zzi;go_enter Tryz.func110,Tryz.ntmps110;go_wp2_with fail;refine(xM.out _ _ (HV.out.later (zkb (Below.refl _ _) _))).mono ?_;rintro e w1 ⟨rfl,aa⟩;have q1:=zka (zkb (Below.refl _ _) _) aa;obtain⟨a0,a1,a2,a3⟩:=box4 (zkd (heap_alloc_new w (.cells #[.int .u8 k,.int .i64 n,.string s,.slice A m c] 29)) aa);clear aa
 cases b
 ·obtain⟨rfl,rfl⟩:=bY.out rfl;go_wp2_with fail;go_ret2;exact⟨rfl,q1⟩
 ·have HVA2:=zh (kX.out rfl);clear kX bY;go_wp2_with fail;refine(HVA2.out _ _ (HV.out.later q1) (HL.out.later _ _ qC.out q1)).mono ?_;rintro e w2 ⟨rfl,ag⟩;have q2:=zka q1 ag;clear ag;go_wp2_with fail;go_ret2;exact⟨rfl,q2⟩
theorem zol {f:FuncId} {fn:Func} {rv:Value} {Rd:World->Prop} {look:ByteArray->Option (List Int)} (hL:zs6 f fn rv Rd look) (t:T) (v:Value) (w:World) (hv:NV w Any t v) (hR:Rd w) :
  Calls Tryz.prog 108 #[v,.func (.func f) #[rv] #[]] w (NumE (indE look t) w):=by
 have HV:=zh hv;have HL:=zh hL;have qC:=zh hR;obtain⟨A,c,rfl,hf,hlk,hlc,hrow⟩:=hv.open_;obtain⟨⟨R1,R2⟩,hRR⟩:∃ R,indE look t=R:=⟨_,rfl⟩
 rw[hRR];obtain⟨b,hb⟩:∃ b,isP t=b:=⟨_,rfl⟩
 have xM:=zh (show ∀ (v:Value) (w:World),NV w Any t v->Calls Tryz.prog 101 #[v] w fun e w'=>e=.returned (.bool b)/\Below w.heap.size w w' from fun v w h=>hb▸zkU t v w h);have ae:=zh hrow;have HK:=zh (show ∀ k n s m,t.k=k->t.n=n->t.s=s->t.ks.length=m->b=true->(k=2/\R1=0/\R2=0)\/(k=3/\m=1/\∃ u,t.ks=[u]/\∀ (v:Value) (W:World),NV W Any u v->Rd W->Calls Tryz.prog 143 #[v,.func (.func f) #[rv] #[]] W (NumE (R1,R2) W)) from by
  rintro k n s m rfl rfl rfl rfl h;have hp:=hb.trans h;rw[indE,if_pos hp] at hRR;unfold isP at hp;simp only[Bool.and_eq_true,Bool.or_eq_true,beq_iff_eq] at hp;rcases hp.1 with h2|h3
  ·rw[if_pos h2] at hRR;injection hRR with r1 r2;exact .inl ⟨h2,r1.symm,r2.symm⟩
  ·rw[if_neg (by omega)] at hRR;obtain⟨k,n,s,ks⟩:=t;simp only[T.k_nd,T.ks_nd] at *
   subst h3;rcases zqk hp.2 with h|h|⟨_,u,rfl,hu⟩|h|h
   ·omega
   ·omega
   ·refine .inr ⟨rfl,rfl,u,rfl,?_⟩;simp at hRR;rw[<-hRR];exact zqz hL u hu
   ·omega
   ·omega)
 have bY:=zh (show b=false->R1=0/\R2=3 from fun h=>by
  rw[indE,hb,h] at hRR;simp at hRR;exact⟨hRR.1.symm,hRR.2.symm⟩)
 obtain⟨k,hk⟩:∃ k,t.k=k:=⟨_,rfl⟩
 obtain⟨n,hn⟩:∃ n,t.n=n:=⟨_,rfl⟩
 obtain⟨s,hs⟩:∃ s,t.s=s:=⟨_,rfl⟩
 obtain⟨m,hm⟩:∃ m,t.ks.length=m:=⟨_,rfl⟩
 have HKK:=zh (HK.out k n s m hk hn hs hm);rw[hk,hn,hs,hm] at HV ⊢;clear hv hR hL hRR hb hrow hf hlk hlc HK hk hn hs hm;have hen:=zzi;go_enter Tryz.func108,Tryz.ntmps108;go_wp2_with fail;refine(xM.out _ _ (HV.out.later (zkb (Below.refl _ _) _))).mono ?_;rintro e w1 ⟨rfl,aa⟩;have q1:=zka (zkb (Below.refl _ _) _) aa;obtain⟨a0,a1,a2,a3⟩:=box4 (zkd (heap_alloc_new w (.cells #[.int .u8 k,.int .i64 n,.string s,.slice A m c] 29)) aa);clear aa
 cases b
 ·obtain⟨rfl,rfl⟩:=bY.out rfl;clear HKK;go_wp2_with fail;go_ret2;exact⟨rfl,q1⟩
 ·rcases HKK.out rfl with⟨rfl,rfl,rfl⟩|⟨rfl,rfl,u,hu,dQ⟩
  ·clear HKK bY;go_wp2_with fail;go_ret2;exact⟨rfl,q1⟩
  ·have hrow:=ae.out;rw[hu] at hrow;obtain⟨a,t0,A2,c2,rfl,_,Ht,⟨y0,y1,y2,y3⟩,hn0⟩:=(hrow.later q1).nd (i:=0) (by simp);simp only[Nat.zero_mul,Addr.add_zero'] at y0 y1 y2 y3;have ht0:t0=u:=Ht.out.symm;subst ht0;have eH:=zh hn0;have oh:=zh dQ;clear HKK bY dQ hu hrow hn0 Ht;go_wp2_with fail;refine(oh.out _ _ eH.out (HL.out.later _ _ qC.out q1)).mono ?_;rintro e w2 ⟨rfl,ag⟩;have q2:=zka q1 ag;clear ag;go_wp2_with fail;go_ret2;exact⟨rfl,q2⟩
theorem znS {W:World} {n0 b k:Nat} {E:TypeId} {xs:List Value} (h:W.ownsRow n0 E k (boxV b) 1 xs):W.heap[b]?=some (.cells xs.toArray E (0,0)):=by
 rcases h.2 with⟨h1,_⟩|⟨g,cap,cur,hv,_,hg,hn,_,hz,hx⟩
 ·cases h1
 ·injection hv with e1 e2 e3;injection e1 with e1;injection e1 with e1;subst e1 e3;have:cur=xs.toArray:=by
   rw[List.take_of_length_le (by simp;omega)] at hx;rw[<-hx]
  rw[this] at hg;exact hg
theorem zkm {W:World} {n0 sz n:Nat} {E:TypeId} {v:Value} {xs:List Value} (h:W.ownsRow n0 E sz v n xs):∃ A c,v=.slice A n c/\n<=c/\c<=maxLen:=by
 rcases h.2 with⟨rfl,rfl⟩|⟨g,cap,cur,rfl,_,_,hn,hm,_⟩
 ·exact⟨none,0,rfl,Nat.le_refl _,Nat.zero_le _⟩
 ·exact⟨_,_,rfl,hn,hm⟩
theorem zlt {W:World} {n0 sz n:Nat} {E:TypeId} {v:Value} {xs:List Value} (h:W.ownsRow n0 E sz v n xs) (hn:0<n):∃ g c,v=.slice (some ⟨g,0,none⟩) n c/\n<=c/\c<=maxLen/\∀ j,j<n*sz->W.cell? ⟨g,j,none⟩=xs[j]?:=by
 rcases h.2 with⟨rfl,rfl⟩|⟨g,cap,cur,rfl,_,_,hc,hm,_⟩
 ·omega
 ·exact⟨g,cap,rfl,hc,hm,fun j hj=>h.cellAt j hj⟩
theorem zKJ {W:World} {n0:Nat} {E:TypeId} {v:Value} {vs:List VD} (h:W.ownsRow n0 E 3 v vs.length (zk5 vs)) (hf:∀ v∈vs,FldV v):∃ A c,v=.slice A vs.length c/\vs.length<=c/\RowV W Any A vs:=by
 rcases Nat.eq_zero_or_pos vs.length with h0|h0
 ·obtain⟨A,c,rfl,hc,_⟩:=zkm h;exact⟨A,c,rfl,hc,fun i hi=>by omega⟩
 ·obtain⟨g,c,rfl,hc,_,hcell⟩:=zlt h h0;refine⟨_,c,rfl,hc,fun i hi=>⟨_,rfl,trivial,?_,hf _ (List.getElem_mem hi)⟩⟩;have ha:(⟨g,0,none⟩:Addr).add (i*3)=⟨g,i*3,none⟩:=by unfold Addr.add;split<;>simp_all
  obtain⟨h1,h2,h3⟩:=zrU vs i hi;rw[ha];exact⟨(hcell (i*3) (by omega)).trans h1,(hcell (i*3+1) (by omega)).trans h2,(hcell (i*3+2) (by omega)).trans h3⟩
theorem zsv {W:World} {n0:Nat} {E:TypeId} {v:Value} {l:List Int} (h:W.ownsRow n0 E 1 v l.length (zkj l)) (hf:∀ x∈l,I64 x):∃ A c,v=.slice A l.length c/\l.length<=c/\RowI W Any A l:=by
 obtain⟨A,c,e,hc,hr⟩:=zly (xs:=l) h hf;exact⟨A,c,e,hc,hr.any⟩
def Ph.gF (P:Ph):Nat:=P.vF.ownBlock.getD 0
def curP (P:Ph) (S:ST):Addr:=if S.calls.length=0 then ⟨P.sb,0,none⟩ else ⟨P.gF,(S.calls.length-1)*3,none⟩
def curV (P:Ph) (S:ST):Value:=if S.calls.length=0 then P.vV else P.fV (S.calls.length-1)
def curC (P:Ph) (S:ST):Value:=if S.calls.length=0 then P.vC else P.fC (S.calls.length-1)
theorem zmj {S:ST} (h:S.calls.length=0):S.cur=S.base:=by
 have:S.calls=[]:=List.length_eq_zero_iff.1 h;simp[ST.cur,this]
theorem zmC {S:ST} (h:0<S.calls.length):S.cur=S.calls[S.calls.length-1]:=by
 unfold ST.cur;rw[List.getLast?_eq_getElem?,List.getElem?_eq_getElem (by omega)];rfl
section
variable {W W':World} {n0:Nat} {P:Ph} {S:ST}
theorem SR.later (h:SR W n0 P S) (hb:Below W.heap.size W W'):SR W' n0 P S:=⟨h.rws.later hb,h.wf⟩
theorem SR.box (h:SR W n0 P S):W.heap[P.sb]?=some (.cells #[P.vV,P.vC,.int .i64 S.base.loc,P.vF,.pointer (some ⟨P.tb,0,none⟩)] 95 (0,0)):=znS (h.rws.row .sb)
theorem SR.tbox (h:SR W n0 P S):W.heap[P.tb]?=some (.cells #[P.vI,P.vO] 148 (0,0)):=znS (h.rws.row .tb)
theorem SR.cbox (h:SR W n0 P S) {i:Nat} (hi:i<S.nc):W.heap[P.cb i]?=some (.cells #[P.ci i] 100 (0,0)):=by
 have:=h.rws.row (.cb i);simp only[rows,hi,if_true] at this;exact znS this
theorem SR.items (h:SR W n0 P S) {i:Nat} (hi:i<S.nc):∃ A c,P.ci i=.slice A (S.cell i).length c/\(S.cell i).length<=c/\RowI W Any A (S.cell i):=by
 have:=h.rws.row (.ci i);simp only[rows,hi,if_true] at this;exact zsv this (h.wf.cells i hi).2
theorem SR.calls (h:SR W n0 P S):∃ A c,P.vF=.slice A S.calls.length c/\S.calls.length<=c/\(0<S.calls.length->A=some ⟨P.gF,0,none⟩/\∀ j,j<S.calls.length*3->W.cell? ⟨P.gF,j,none⟩=(zk4 P 0 S.calls)[j]?):=by
 have hr:W.ownsRow n0 92 3 P.vF S.calls.length (zk4 P 0 S.calls):=h.rws.row .calls;rcases Nat.eq_zero_or_pos S.calls.length with h0|h0
 ·obtain⟨A,c,e,hc,_⟩:=zkm hr;exact⟨A,c,e,hc,fun h=>by omega⟩
 ·obtain⟨g,c,e,hc,_,hcell⟩:=zlt hr h0;have hg:P.gF=g:=by simp[Ph.gF,e,Value.ownBlock]
  exact⟨_,c,e,hc,fun _=>⟨by rw[hg],by rw[hg];exact hcell⟩⟩
theorem SR.curWF (h:SR W n0 P S):∃ kd,S.cur.WF kd S.nc:=by
 obtain⟨kd,h1,h2,_⟩:=h.wf.ex;refine⟨kd,?_⟩;rcases Nat.eq_zero_or_pos S.calls.length with h0|h0
 ·rw[zmj h0];exact h1
 ·rw[zmC h0];exact h2 _ (List.getElem_mem _)
theorem SR.cur3 (h:SR W n0 P S):W.cell? (curP P S)=some (curV P S)/\W.cell? ⟨(curP P S).block,(curP P S).off+1,none⟩=some (curC P S)/\W.cell? ⟨(curP P S).block,(curP P S).off+2,none⟩=some (.int .i64 S.cur.loc):=by
 rcases Nat.eq_zero_or_pos S.calls.length with h0|h0
 ·rw[zmj h0];simp only[curP,curV,curC,h0,if_true];exact⟨zc h.box rfl,zc h.box rfl,zc h.box rfl⟩
 ·rw[zmC h0];have hne:S.calls.length≠0:=by omega
  simp only[curP,curV,curC,hne,if_false];obtain⟨A,c,_,_,h2⟩:=h.calls;obtain⟨_,hcell⟩:=h2 h0;obtain⟨g1,g2,g3⟩:=zpF P S.calls 0 (S.calls.length-1) (by omega);simp only[Nat.zero_add] at g1 g2;exact⟨(hcell _ (by omega)).trans g1,(hcell _ (by omega)).trans g2,(hcell _ (by omega)).trans g3⟩
theorem SR.curVs (h:SR W n0 P S):∃ A c,curV P S=.slice A S.cur.vs.length c/\S.cur.vs.length<=c/\RowV W Any A S.cur.vs:=by
 obtain⟨kd,hw⟩:=h.curWF;rcases Nat.eq_zero_or_pos S.calls.length with h0|h0
 ·rw[zmj h0] at hw ⊢;simp only[curV,h0,if_true];exact zKJ (h.rws.row .bv) hw.fld
 ·rw[zmC h0] at hw ⊢;have hne:S.calls.length≠0:=by omega
  simp only[curV,hne,if_false];have:=h.rws.row (.fv (S.calls.length-1));simp only[rows,List.getElem?_eq_getElem (show S.calls.length-1<S.calls.length by omega)] at this;exact zKJ this hw.fld
theorem SR.curCs (h:SR W n0 P S):W.ownsRow n0 97 1 (curC P S) S.cur.cs.length (ptrs P.cb S.cur.cs):=by
 rcases Nat.eq_zero_or_pos S.calls.length with h0|h0
 ·rw[zmj h0];simp only[curC,h0,if_true];exact h.rws.row .bc
 ·rw[zmC h0];have hne:S.calls.length≠0:=by omega
  simp only[curC,hne,if_false];have:=h.rws.row (.fc (S.calls.length-1));simp only[rows,List.getElem?_eq_getElem (show S.calls.length-1<S.calls.length by omega)] at this;exact this
end
def idxZ:Option Nat->Int
 | none => -1
 | some i=>i
theorem zlw {W:World} {n0:Nat} {P:Ph} {S:ST} (h:SR W n0 P S):Calls Tryz.prog 58 #[.pointer (some ⟨P.sb,0,none⟩)] W fun e w'=>e=.returned (.pointer (some (curP P S)))/\w'=W:=by
 obtain⟨A,c,lQ,hc,h2⟩:=h.calls;have hx:W.cell? ⟨P.sb,3,none⟩=some (.slice A S.calls.length c):=by rw[<-lQ];exact zc h.box rfl
 have pV:=h.wf.ncalls;obtain⟨cp,hcp⟩:∃ cp,curP P S=cp:=⟨_,rfl⟩
 rw[hcp];have rF:=zh hcp;have H2:=zh h2;obtain⟨L,hL⟩:∃ L,S.calls.length=L:=⟨_,rfl⟩
 rw[hL] at hx pV;have HL:=zh hL;clear h lQ hc h2 hcp hL;rcases Nat.eq_zero_or_pos L with h0|h0
 ·subst h0;have HX:=zh (show cp=⟨P.sb,0,none⟩ by rw[<-rF.out,curP,if_pos HL.out]);clear HL rF H2;go_enter Tryz.func58,Tryz.ntmps58;go_wp2_with fail;go_ret;exact⟨by rw[HX.out];rfl,rfl⟩
 ·obtain⟨rfl,-⟩:=H2.out (by rw[HL.out];exact h0);obtain⟨m,hm⟩:∃ m,L=m+1:=⟨L-1,by omega⟩
  subst hm;have HX:=zh (show cp=⟨P.gF,m*3,none⟩ by rw[<-rF.out,curP,if_neg (by have:=HL.out;omega),HL.out];rfl);clear HL rF H2 h0;go_enter Tryz.func58,Tryz.ntmps58;go_wp2_with fail;go_ret;exact⟨by rw[HX.out];simp,rfl⟩
theorem zoZ (vs:List VD) (A:Option Addr) (c:Nat) (s:ByteArray) (fp:Addr) (w:World) (hc:w.cell? fp=some (.slice A vs.length c)) (hrow:RowV w Any A vs) (hl:vs.length<=4398046511000) :
  Calls Tryz.prog 144 #[.pointer (some fp),.string s] w fun e w'=>e=.returned (.int .i64 (idxZ (zlv vs s vs.length)))/\Below w.heap.size w w':=by
 obtain⟨R,hR⟩:∃ R,zlv vs s vs.length=R:=⟨_,rfl⟩
 rw[hR];have HR:=zh hR;have ae:=zh hrow;have HC:=zh hc;clear hR hrow;go_enter Tryz.func144,Tryz.ntmps144;go_wp2_with fail
 go_loopw [5] (fun i wr=>∃ j:Nat,j<=vs.length/\i=.int .i64 ((j:Int)-1)/\wr=w/\Hid (zlv vs s j=R)) (fun i _=>(intOf i+1).toNat)
 case atStart=>exact⟨vs.length,Nat.le_refl _,by go_num,rfl,HR⟩
 case round =>
  obtain⟨j,hj,rfl,rfl,HJ⟩:=hrel;by_cases h0:j=0
  ·subst h0;have HX:=zh (show R=none by rw[<-HJ.out];rfl);go_wp2_with fail;go_ret;exact⟨by rw[HX.out];rfl,Below.refl _ _⟩
  ·obtain⟨m,rfl⟩:∃ m,j=m+1:=⟨j-1,by omega⟩
   have hm:m<vs.length:=by omega
   obtain⟨a,rfl,-,⟨y0,y1,y2⟩,-⟩:=ae.out m hm;have hjm:((m+1:Nat):Int)-1=(m:Int):=by omega
   rw[hjm];obtain⟨vm,wB⟩:∃ v,vs[m]=v:=⟨_,rfl⟩
   rw[wB] at y0 y1 y2;have HL:=zh (show(if vm.s.toList==s.toList then some m else zlv vs s m)=R by rw[<-HJ.out,zov hm,wB]);obtain⟨b,hb⟩:∃ b,(vm.s.toList==s.toList)=b:=⟨_,rfl⟩
   rw[hb] at HL;clear HJ wB hjm
   cases b
   ·go_wp2_with fail
    go_roundw
    case rel=>exact⟨m,by omega,by go_num,trivial,zh (by have:=HL.out;simpa using this)⟩
    case measure=>simp[intOf]
   ·have HX:=zh (show R=some m by rw[<-HL.out];rfl);go_wp2_with fail;go_ret;exact⟨by rw[HX.out];rfl,Below.refl _ _⟩
theorem zqh {W:World} {n0:Nat} {P:Ph} {S:ST} (h:SR W n0 P S) (s:ByteArray):Calls Tryz.prog 109 #[.pointer (some ⟨P.sb,0,none⟩),.string s] W fun e W'=>Below W.heap.size W W' /\
  ((S.look s=none/\∃ A c,e=.returned (.tuple #[.slice A 0 c,.bool false]))\/∃ l A c,S.look s=some l/\e=.returned (.tuple #[.slice A l.length c,.bool true])/\RowI W' Any A l):=by
 have HS:=zh h;obtain⟨kd,hw⟩:=h.curWF;obtain⟨A,c,hcv,hc,hrow⟩:=h.curVs;obtain⟨h1,h2,h3⟩:=h.cur3;rw[hcv] at h1;have bV:=zh (zlw h);have df:=zh (fun W' (hb:Below W.heap.size W W')=>zoZ S.cur.vs A c s (curP P S) W' (zb hb h1) (hrow.later hb) hw.lim);have xS:=zh h.curCs;have dS:=zh hw;obtain⟨cp,hcp⟩:∃ cp,curP P S=cp:=⟨_,rfl⟩
 rw[hcp] at h1 h2 h3 bV df;obtain⟨r,hr⟩:∃ r,S.cur.at s=r:=⟨_,rfl⟩
 have hr':zlv S.cur.vs s S.cur.vs.length=r:=hr;rw[hr'] at df;have HRR:=zh hr;have H2:=zh h2;clear h hw hcv hrow h1 h2 h3 hcp hr hr';go_enter Tryz.func109,Tryz.ntmps109;go_wp2_with fail;refine bV.out.mono ?_;rintro e w1 ⟨rfl,rfl⟩;go_wp2_with fail;refine(df.out _ (Below.refl _ _)).mono ?_;rintro e w2 ⟨rfl,ag⟩;have hy:=zb ag H2.out;have HS2:=zh (HS.out.later ag);have HB2:=zh ag;clear ag;rcases r with _|i
 ·have HX:=zh (show S.look s=none by unfold ST.look ST.num;rw[HRR.out];rfl);simp only[idxZ];go_wp2_with fail;go_ret2;exact⟨HB2.out,.inl ⟨HX.out,none,0,rfl⟩⟩
 ·have hil:i<S.cur.vs.length:=FR.at_lt HRR.out;have hic:i<S.cur.cs.length:=by rw[dS.out.len];exact hil
  obtain⟨id,hid⟩:∃ id,S.cur.cs[i]=id:=⟨_,rfl⟩
  have av:id<S.nc:=by rw[<-hid];exact dS.out.num _ (List.getElem_mem hic)
  have HX:=zh (show S.look s=some (S.cell id) by unfold ST.look ST.num;rw[HRR.out];simp[hic,hid]);obtain⟨g,c2,hcc,hc2,hm2,hcell⟩:=zlt HS2.out.curCs (by omega);rw[hcc] at hy;have hz:w2.cell? ⟨g,i,none⟩=some (.pointer (some ⟨P.cb id,0,none⟩)):=by rw[hcell i (by omega)];simp[ptrs,hic,hid]
  obtain⟨A3,c3,hci,hc3,aU⟩:=HS2.out.items av;have hz2:w2.cell? ⟨P.cb id,0,none⟩=some (.slice A3 (S.cell id).length c3):=by rw[<-hci];exact zc (HS2.out.cbox av) rfl
  have dM:=zh aU;have hi1:(i:Int)<(S.cur.cs.length:Int):=by omega
  have hi2:¬ (i:Int)<0:=by omega
  simp only[idxZ];clear hcell hcc aU hci hid hil;go_wp2_with fail;go_ret2;exact⟨HB2.out,.inr ⟨_,HX.out,A3,⟨c3,rfl⟩,dM.out⟩⟩
theorem zx7:IsFn Tryz.prog 109 Tryz.f109:=⟨Tryz.func109,by kernel_rfl,by kernel_rfl⟩
theorem ST.look_num {S:ST} {s:ByteArray} {l:List Int} (h:S.look s=some l):∃ i id,S.cur.at s=some i/\S.cur.cs[i]?=some id/\l=S.cell id:=by
 unfold ST.look ST.num at h;simp only[Option.map_eq_some_iff,Option.bind_eq_some_iff] at h;obtain⟨id,⟨i,h1,h2⟩,rfl⟩:=h;exact⟨i,id,h1,h2,rfl⟩
theorem ST.WF.cur {S:ST} (h:S.WF):∃ kd,S.cur.WF kd S.nc:=by
 obtain⟨kd,h1,h2,_⟩:=h.ex;refine⟨kd,?_⟩;rcases Nat.eq_zero_or_pos S.calls.length with h0|h0
 ·rw[zmj h0];exact h1
 ·rw[zmC h0];exact h2 _ (List.getElem_mem _)
theorem zvD (n0:Nat) (P:Ph) (S:ST) (hw:S.WF):zs6 109 Tryz.f109 (.pointer (some ⟨P.sb,0,none⟩)) (fun W=>SR W n0 P S) S.look where
 isFn:=zx7
 later:=fun _ _ h hb=>h.later hb
 fits:=fun s l hl=>by
  obtain⟨i,id,h1,h2,rfl⟩:=ST.look_num hl;obtain⟨kd,hc⟩:=hw.cur;have:=(hw.cells id (hc.num id (List.mem_of_getElem? h2))).1;omega
 call:=fun s W h=>zqh h s
theorem zmZ {W:World} {n0:Nat} {P:Ph} {S:ST} (h:SR W n0 P S) (s:ByteArray) (id:Nat) (hid:S.num s=some id):Calls Tryz.prog 111 #[.pointer (some ⟨P.sb,0,none⟩),.string s] W fun e W'=>e=.returned (.pointer (some ⟨P.cb id,0,none⟩))/\Below W.heap.size W W':=by
 have HS:=zh h;obtain⟨kd,hw⟩:=h.curWF;obtain⟨A,c,hcv,hc,hrow⟩:=h.curVs;obtain⟨h1,h2,h3⟩:=h.cur3;rw[hcv] at h1;unfold ST.num at hid;rw[Option.bind_eq_some_iff] at hid;obtain⟨i,hr,hci⟩:=hid;have hr':zlv S.cur.vs s S.cur.vs.length=some i:=hr;have bV:=zh (zlw h);have hfi:=fun W' (hb:Below W.heap.size W W')=>zoZ S.cur.vs A c s (curP P S) W' (zb hb h1) (hrow.later hb) hw.lim;rw[hr'] at hfi;simp only[idxZ] at hfi;have df:=zh hfi;have hic:i<S.cur.cs.length:=(List.getElem?_eq_some_iff.1 hci).1;have hidd:S.cur.cs[i]=id:=(List.getElem?_eq_some_iff.1 hci).2;obtain⟨cp,hcp⟩:∃ cp,curP P S=cp:=⟨_,rfl⟩
 rw[hcp] at h1 h2 h3 bV df;have H2:=zh h2;clear hw hcv hrow h1 h2 h3 hcp hr hr' hfi h hci;go_enter Tryz.func111,Tryz.ntmps111;go_wp2_with fail;refine bV.out.mono ?_;rintro e w1 ⟨rfl,rfl⟩;have hy0:=H2.out;obtain⟨g,c2,hcc,hc2,hm2,hcell⟩:=zlt HS.out.curCs (by omega);rw[hcc] at hy0;have hz:w1.cell? ⟨g,i,none⟩=some (.pointer (some ⟨P.cb id,0,none⟩)):=by rw[hcell i (by omega)];simp[ptrs,hic,hidd]
 have aP:=zh (show ∀ w',Below w1.heap.size w1 w'->w'.cell? ⟨cp.block,cp.off+1,none⟩=some (.slice (some ⟨g,0,none⟩) S.cur.cs.length c2)/\w'.cell? ⟨g,i,none⟩=some (.pointer (some ⟨P.cb id,0,none⟩)) from fun w' hb=>⟨zb hb hy0,zb hb hz⟩);have aM:=zh (aP.out _ (Below.refl _ _).drew);obtain⟨L,hL⟩:∃ L,S.cur.cs.length=L:=⟨_,rfl⟩
 have hi1:(i:Int)<(L:Int):=by omega
 have hi0:(0:Int)<=(i:Int):=by omega
 have hi2:i<L:=by omega
 rw[hL] at aP aM;clear hcell hcc hy0 hz hL;go_upto_region 2 with fail
 go_region_held3 (fun w':World=>w'.cell? ⟨cp.block,cp.off+1,none⟩=some (.slice (some ⟨g,0,none⟩) L c2)/\w'.cell? ⟨g,i,none⟩=some (.pointer (some ⟨P.cb id,0,none⟩)))
  (first|with_reducible exact aD.out|with_reducible exact aM.out)
  (first
   | (go_at_call 144;refine(df.out _ (Below.refl _ _).drew).mono ?_;rintro e y1 ⟨rfl,bq⟩;have b1:=zka (Below.refl w1.heap.size w1).drew bq;have aD:=zh (aP.out _ b1))
   | fail)
 have HB1:=zh b1;clear b1 bq aD;go_wp2_with fail;go_ret;exact⟨rfl,HB1.out⟩
end Go.Proofs.YtckhofdinldhpaaGreat
namespace Go.Proofs.YtckhofdinldhpaaGreat
open Go Go.RowKit
def zoR (k:Int):Int:=if k=2 then 1 else if k=3 then 2 else if k=4\/k=5\/k=44\/k=45 then 3 else 0
def basB (k:Int):Bool:=decide (40<=k/\k<=49)
def zkL (k:Int):Int:=if k=40 then 41 else if k=41 then 40 else if k=44 then 45 else if k=45 then 44 else if k=46 then 47 else if k=47 then 46 else if k=48 then 49 else if k=49 then 48 else k
theorem zvA (k:Int) (w:World):Calls Tryz.prog 106 #[.int .u8 k] w fun e w'=>e=.returned (.int .u8 (zoR k))/\w'=w:=by
 by_cases e2:k=2
 ·subst e2;go_enter Tryz.func106,Tryz.ntmps106;go_wp2_with fail;go_ret;exact⟨rfl,rfl⟩
 by_cases e3:k=3
 ·subst e3;go_enter Tryz.func106,Tryz.ntmps106;go_wp2_with fail;go_ret;exact⟨rfl,rfl⟩
 by_cases e4:k=4
 ·subst e4;go_enter Tryz.func106,Tryz.ntmps106;go_wp2_with fail;go_ret;exact⟨rfl,rfl⟩
 by_cases e5:k=5
 ·subst e5;go_enter Tryz.func106,Tryz.ntmps106;go_wp2_with fail;go_ret;exact⟨rfl,rfl⟩
 by_cases e44:k=44
 ·subst e44;go_enter Tryz.func106,Tryz.ntmps106;go_wp2_with fail;go_ret;exact⟨rfl,rfl⟩
 by_cases e45:k=45
 ·subst e45;go_enter Tryz.func106,Tryz.ntmps106;go_wp2_with fail;go_ret;exact⟨rfl,rfl⟩
 have x2:(k==2)=false:=by simpa using e2
 have x3:(k==3)=false:=by simpa using e3
 have x4:(k==4)=false:=by simpa using e4
 have x5:(k==5)=false:=by simpa using e5
 have x44:(k==44)=false:=by simpa using e44
 have x45:(k==45)=false:=by simpa using e45
 obtain⟨R,hR⟩:∃ R,zoR k=R:=⟨_,rfl⟩
 rw[hR];have HR:=zh (show R=0 by rw[<-hR,zoR];rw[if_neg e2,if_neg e3,if_neg (by omega)]);clear hR e2 e3 e4 e5 e44 e45;go_enter Tryz.func106,Tryz.ntmps106;go_wp2_with fail;go_ret;exact⟨by rw[HR.out];rfl,rfl⟩
theorem zwC (k:Int) (w:World):Calls Tryz.prog 57 #[.int .u8 k] w fun e w'=>e=.returned (.bool (basB k))/\w'=w:=by
 by_cases e40:k=40
 ·subst e40;go_enter Tryz.func57,Tryz.ntmps57;go_wp2_with fail;go_ret;exact⟨rfl,rfl⟩
 by_cases e41:k=41
 ·subst e41;go_enter Tryz.func57,Tryz.ntmps57;go_wp2_with fail;go_ret;exact⟨rfl,rfl⟩
 by_cases e42:k=42
 ·subst e42;go_enter Tryz.func57,Tryz.ntmps57;go_wp2_with fail;go_ret;exact⟨rfl,rfl⟩
 by_cases e43:k=43
 ·subst e43;go_enter Tryz.func57,Tryz.ntmps57;go_wp2_with fail;go_ret;exact⟨rfl,rfl⟩
 by_cases e44:k=44
 ·subst e44;go_enter Tryz.func57,Tryz.ntmps57;go_wp2_with fail;go_ret;exact⟨rfl,rfl⟩
 by_cases e45:k=45
 ·subst e45;go_enter Tryz.func57,Tryz.ntmps57;go_wp2_with fail;go_ret;exact⟨rfl,rfl⟩
 by_cases e46:k=46
 ·subst e46;go_enter Tryz.func57,Tryz.ntmps57;go_wp2_with fail;go_ret;exact⟨rfl,rfl⟩
 by_cases e47:k=47
 ·subst e47;go_enter Tryz.func57,Tryz.ntmps57;go_wp2_with fail;go_ret;exact⟨rfl,rfl⟩
 by_cases e48:k=48
 ·subst e48;go_enter Tryz.func57,Tryz.ntmps57;go_wp2_with fail;go_ret;exact⟨rfl,rfl⟩
 by_cases e49:k=49
 ·subst e49;go_enter Tryz.func57,Tryz.ntmps57;go_wp2_with fail;go_ret;exact⟨rfl,rfl⟩
 have x40:(k==40)=false:=by simpa using e40
 have x41:(k==41)=false:=by simpa using e41
 have x42:(k==42)=false:=by simpa using e42
 have x43:(k==43)=false:=by simpa using e43
 have x44:(k==44)=false:=by simpa using e44
 have x45:(k==45)=false:=by simpa using e45
 have x46:(k==46)=false:=by simpa using e46
 have x47:(k==47)=false:=by simpa using e47
 have x48:(k==48)=false:=by simpa using e48
 have x49:(k==49)=false:=by simpa using e49
 obtain⟨R,hR⟩:∃ R,basB k=R:=⟨_,rfl⟩
 rw[hR];have HR:=zh (show R=false by rw[<-hR,basB];simp;omega);clear hR e40 e41 e42 e43 e44 e45 e46 e47 e48 e49;go_enter Tryz.func57,Tryz.ntmps57;go_wp2_with fail;go_ret;exact⟨by rw[HR.out];rfl,rfl⟩
theorem zsK (k:Int) (w:World):Calls Tryz.prog 55 #[.int .u8 k] w fun e w'=>e=.returned (.int .u8 (zkL k))/\w'=w:=by
 by_cases e40:k=40
 ·subst e40;go_enter Tryz.func55,Tryz.ntmps55;go_wp2_with fail;go_ret;exact⟨rfl,rfl⟩
 by_cases e41:k=41
 ·subst e41;go_enter Tryz.func55,Tryz.ntmps55;go_wp2_with fail;go_ret;exact⟨rfl,rfl⟩
 by_cases e44:k=44
 ·subst e44;go_enter Tryz.func55,Tryz.ntmps55;go_wp2_with fail;go_ret;exact⟨rfl,rfl⟩
 by_cases e45:k=45
 ·subst e45;go_enter Tryz.func55,Tryz.ntmps55;go_wp2_with fail;go_ret;exact⟨rfl,rfl⟩
 by_cases e46:k=46
 ·subst e46;go_enter Tryz.func55,Tryz.ntmps55;go_wp2_with fail;go_ret;exact⟨rfl,rfl⟩
 by_cases e47:k=47
 ·subst e47;go_enter Tryz.func55,Tryz.ntmps55;go_wp2_with fail;go_ret;exact⟨rfl,rfl⟩
 by_cases e48:k=48
 ·subst e48;go_enter Tryz.func55,Tryz.ntmps55;go_wp2_with fail;go_ret;exact⟨rfl,rfl⟩
 by_cases e49:k=49
 ·subst e49;go_enter Tryz.func55,Tryz.ntmps55;go_wp2_with fail;go_ret;exact⟨rfl,rfl⟩
 have x40:(k==40)=false:=by simpa using e40
 have x41:(k==41)=false:=by simpa using e41
 have x44:(k==44)=false:=by simpa using e44
 have x45:(k==45)=false:=by simpa using e45
 have x46:(k==46)=false:=by simpa using e46
 have x47:(k==47)=false:=by simpa using e47
 have x48:(k==48)=false:=by simpa using e48
 have x49:(k==49)=false:=by simpa using e49
 obtain⟨R,hR⟩:∃ R,zkL k=R:=⟨_,rfl⟩
 rw[hR];have HR:=zh (show R=k by rw[<-hR,zkL];rw[if_neg e40,if_neg e41,if_neg e44,if_neg e45,if_neg e46,if_neg e47,if_neg e48,if_neg e49]);clear hR e40 e41 e44 e45 e46 e47 e48 e49;go_enter Tryz.func55,Tryz.ntmps55;go_wp2_with fail;go_ret;exact⟨by rw[HR.out];rfl,rfl⟩
def OwnB {I:Type} (d:I->RowD) (b:Nat):Prop:=∃ i,(d i).v.ownBlock=some b
structure Stp {I:Type} (n0:Nat) (d:I->RowD) (W:World) (d':I->RowD) (W':World):Prop where
 rws:Rws W' n0 d'
 chg:Chg (OwnB d) W W'
 own:∀ b,OwnB d' b->OwnB d b\/W.heap.size<=b
section
variable {I:Type} {n0:Nat} {d d' d'':I->RowD} {W W' W'':World}
theorem Stp.refl (h:Rws W n0 d):Stp n0 d W d W:=⟨h,Chg.refl _ _,fun _ h=>.inl h⟩
theorem Stp.trans (h:Stp n0 d W d' W') (h':Stp n0 d' W' d'' W''):Stp n0 d W d'' W'' :=
 ⟨h'.rws,h.chg.trans2 h'.chg fun b hb hc=>(h.own b hc).elim id fun h=>by omega,fun b hb=>(h'.own b hb).elim (h.own b) fun h2=>.inr (Nat.le_trans h.chg.size h2)⟩
theorem Stp.cast (h:Stp n0 d W d' W') (e:d'=d''):Stp n0 d W d'' W':=e▸h
theorem Stp.below (h:Stp n0 d W d' W') (hb:Below W'.heap.size W' W''):Stp n0 d W d' W'' :=
 ⟨h.rws.later hb,h.chg.trans (Chg.of_below hb),h.own⟩
theorem Stp.after (h:Stp n0 d W' d' W'') (hb:Below W.heap.size W W') (hd:Rws W n0 d):Stp n0 d W d' W'' :=
 (Stp.below (Stp.refl hd) hb).trans h
variable [DecidableEq I]
theorem Stp.upd {i:I} {r:RowD} (h:Rws W n0 d) (hc:Chg (fun b=>(d i).v.ownBlock=some b) W W') (ho:W'.ownsRow n0 r.E r.sz r.v r.n r.xs) (aR:∀ b,r.v.ownBlock=some b->(d i).v.ownBlock=some b\/W.heap.size<=b):Stp n0 d W (updR d i r) W' :=
 ⟨h.upd i hc ho aR,hc.mono fun b _ hb=>⟨i,hb⟩,fun b ⟨j,hj⟩=>by
  by_cases e:j=i
  ·subst e;rw[zkF] at hj;exact(aR b hj).imp (fun h=>⟨j,h⟩) id
  ·rw[zko e] at hj;exact .inl ⟨j,hj⟩⟩
theorem Stp.set {i:I} (h:Rws W n0 d) {g:Nat} (hg:(d i).v.ownBlock=some g) {o:Nat} (ho:o<(d i).xs.length) (u:Value):Stp n0 d W (updR d i { d i with xs:=(d i).xs.set o u }) (W.setCell ⟨g,o,none⟩ u) :=
 ⟨h.set i hg ho u,((Chg.refl _ _).setCell (.inl hg) u).mono fun b _ hb=>⟨i,hb⟩,fun b ⟨j,hj⟩=>by
  by_cases e:j=i
  ·subst e;rw[zkF] at hj;exact .inl ⟨j,hj⟩
  ·rw[zko e] at hj;exact .inl ⟨j,hj⟩⟩
end
theorem zuV:(Tryz.prog.info? 83).map (fun i=>(i.zero,i.size,i.bytes))=some (some (.agg #[.string ⟨#[]⟩,.int .u8 0,.int .i64 0]),3,32):=by kernel_rfl
theorem zKP:(Tryz.prog.info? 97).map (fun i=>(i.zero,i.size,i.bytes))=some (some (.pointer none),1,8):=by kernel_rfl
theorem zwz (a0 a1 a2:Value) (w:World):(Instr.buildSlice 22 1 #[(0,.agg #[a0,a1,a2])]).run Tryz.prog w=.ok (.slice (some ⟨w.heap.size,0,none⟩) 1 1) (w.alloc (.cells #[a0,a1,a2] 83)):=by kernel_rfl
theorem zyz (p:Option Addr) (w:World):(Instr.buildSlice 90 1 #[(0,.pointer p)]).run Tryz.prog w=.ok (.slice (some ⟨w.heap.size,0,none⟩) 1 1) (w.alloc (.cells #[.pointer p] 97)):=by kernel_rfl
theorem zs0 {I:Type} [DecidableEq I] {n0:Nat} {d:I->RowD} {W:World} (h:Rws W n0 d) (i0 iv ic:I) (h01:i0≠iv) (h02:i0≠ic) (h12:iv≠ic) (b o:Nat) (hb:(d i0).v.ownBlock=some b)
  (hov:(d i0).xs[o]?=some (d iv).v) (hoc:(d i0).xs[o+1]?=some (d ic).v) (xs ys:List Value) (m:Nat) (hiv:d iv=⟨(d iv).v,83,3,m,xs⟩) (hic:d ic=⟨(d ic).v,97,1,m,ys⟩) (hm:m<=4398046511000)
  (v:VD) (q:Option Addr) :
  Calls Tryz.prog 48 #[.pointer (some ⟨b,o,none⟩),.agg #[.string v.s,.int .u8 v.k,.int .i64 v.n],.pointer q] W fun e W'=>(∃ u,e=.returned u)/\∃ vv vc,
   Stp n0 d W (updR (updR (updR d iv ⟨vv,83,3,m+1,xs++[.string v.s,.int .u8 v.k,.int .i64 v.n]⟩) ic ⟨vc,97,1,m+1,ys++[.pointer q]⟩) i0 { d i0 with xs:=((d i0).xs.set o vv).set (o+1) vc }) W':=by
 obtain⟨i1,hi1,hz0,hz1,hz2⟩:=info_parts zuV;obtain⟨i2,hi2,hy0,hy1,hy2⟩:=info_parts zKP;have dR:=h.row iv;rw[hiv] at dR;have hrc:=h.row ic;rw[hic] at hrc;obtain⟨A1,c1,e1,-⟩:=zkm dR;obtain⟨A2,c2,e2,-⟩:=zkm hrc;dsimp only at e1 e2 dR hrc;have x0:W.cell? ⟨b,o,none⟩=some (.slice A1 m c1):=by rw[<-e1];exact h.cell i0 hb hov
 have x1:W.cell? ⟨b,o+1,none⟩=some (.slice A2 m c2):=by rw[<-e2];exact h.cell i0 hb hoc
 have hbf:=h.frozen i0 hb;have HR:=zh h;have hb1:=zwz;have hb2:=zyz;clear h;go_enter Tryz.func48,Tryz.ntmps48;go_upto_region 1 with fail;have hvb:=heap_alloc_new W (.cells #[.string v.s,.int .u8 v.k,.int .i64 v.n] 83);obtain⟨W1,hW1⟩:∃ W1,W.alloc (.cells #[.string v.s,.int .u8 v.k,.int .i64 v.n] 83)=W1:=⟨_,rfl⟩
 have q1:Below W.heap.size W W1:=hW1▸zkb (Below.refl _ _) _;have hzW:W1.heap.size=W.heap.size+1:=by rw[<-hW1];simp
 rw[hW1] at hvb ⊢;have HR1:=zh (HR.out.later q1);have bN:=zh q1;have g0:W1.cell? ⟨b,o,none⟩=some (.slice A1 m c1):=zb q1 x0;have g1:W1.cell? ⟨b,o+1,none⟩=some (.slice A2 m c2):=zb q1 x1;have v0:W1.cell? ⟨W.heap.size,0,none⟩=some (.string v.s):=zc hvb rfl;have v1:W1.cell? ⟨W.heap.size,1,none⟩=some (.int .u8 v.k):=zc hvb rfl;have v2:W1.cell? ⟨W.heap.size,2,none⟩=some (.int .i64 v.n):=zc hvb rfl;clear hW1 q1 x0 x1 hbf;have hSS:(fun w':World=>w'.cell? ⟨W.heap.size,0,none⟩=some (.string v.s)/\w'.cell? ⟨W.heap.size,1,none⟩=some (.int .u8 v.k)/\w'.cell? ⟨W.heap.size,2,none⟩=some (.int .i64 v.n)) W1.drew/\(fun w':World=>w'.cell? ⟨b,o,none⟩=some (.slice A1 m c1)) W1.drew:=⟨⟨v0,v1,v2⟩,g0⟩
 refine wp_region_noPanic ?_;refine zkc (fun w':World=>w'.cell? ⟨W.heap.size,0,none⟩=some (.string v.s)/\w'.cell? ⟨W.heap.size,1,none⟩=some (.int .u8 v.k)/\w'.cell? ⟨W.heap.size,2,none⟩=some (.int .i64 v.n)) (fun w':World=>w'.cell? ⟨b,o,none⟩=some (.slice A1 m c1)) 7 (by kernel_rfl) ?_;refine zT 0 hSS ?_;(try simp only[zQ]);refine zT 1 hSS ?_;(try simp only[zQ]);refine zT 2 hSS ?_;(try simp only[zQ]);refine zT 3 hSS ?_;(try simp only[zQ]);refine zkV (i:=4) (v:=?_) rfl (by kernel_rfl) (by kernel_rfl) (by kernel_rfl) (by decide) rfl (by kernel_rfl) (by kernel_rfl) (fun _ _ _ h=>h) (Or.inl ⟨by rfl,?_⟩) hSS ?_;rotate_left 1
 ·(intro w hSw;(try dsimp only at hSw);(try simp only[zA,zB,zC]);go_simp;(try with_reducible rfl))
 (try simp only[zQ]);refine zT 5 hSS ?_;(try simp only[zQ]);refine zo 6 fun K hK=>?_;(try simp only[zA,zB,zC]);go_simp;refine hK.out _ _ ⟨⟨zke v0 _,zke v1 _,zke v2 _⟩,zke g0 _⟩ ?_;clear hK K hSS;(try simp only[zQ]);obtain⟨W2,hW2⟩:∃ W2,(W1.alloc (.cells #[.string v.s,.int .u8 v.k,.int .i64 v.n] 83)).drew=W2:=⟨_,rfl⟩
 have q2:Below W1.heap.size W1 W2:=hW2▸(zkb (Below.refl _ _) _).drew;have hzW2:W2.heap.size=W1.heap.size+1:=by rw[<-hW2];simp
 have aF:=zh (show ∀ j u,[Value.string v.s,.int .u8 v.k,.int .i64 v.n][j]?=some u->W2.cell? ((⟨W.heap.size+1,0,none⟩:Addr).add j)=some u from hzW▸hW2▸zk3 W1 83 [.string v.s,.int .u8 v.k,.int .i64 v.n]);have HR2:=HR1.out.later q2;have hrv2:W2.ownsRow n0 83 3 (.slice A1 m c1) m xs:=by have:=HR2.row iv;rw[hiv] at this;rw[<-e1];exact this
 have w0:W2.cell? ⟨W.heap.size,0,none⟩=some (.string v.s):=zb q2 v0;have w1:W2.cell? ⟨W.heap.size,1,none⟩=some (.int .u8 v.k):=zb q2 v1;have w2:W2.cell? ⟨W.heap.size,2,none⟩=some (.int .i64 v.n):=zb q2 v2;have hn0:=(HR.out.lt i0 b hb)
 rw[hW2];clear hW2 v0 v1 v2 g0 g1 hvb;refine zp 7 fun K hK=>?_;refine zlh (by rfl) (.tmp 10) (.tmp 12) 22 (by rfl) n0 83 i1 _ 3 32 Tryz.underlying22 hi1 hz0 hz1 hz2 rfl (by decide) (.slice A1 m c1) m xs (by rfl) hrv2 ⟨W.heap.size+1,0,none⟩ 1 1 [.string v.s,.int .u8 v.k,.int .i64 v.n] (by rfl) rfl aF.out (by intro u hu;simp at hu;rcases hu with rfl|rfl|rfl<;>rfl) (by unfold maxLen;omega) (by omega) (by omega) ?_;intro vv w3 h2 h3 h5;obtain⟨g8,ay,rfl⟩:=ownsRow_succ h2;have st1:Stp n0 d W2 (updR d iv ⟨.slice (some ⟨g8,0,none⟩) (m+1) ay,83,3,m+1,xs++[.string v.s,.int .u8 v.k,.int .i64 v.n]⟩) w3:=by
  refine Stp.upd (i:=iv) HR2 ((Chg.row h3).mono fun b' _ hb'=>by rw[e1];exact hb') h2 (fun b' hb'=>?_);rw[e1];rcases h5 with h5|h5
  ·exact .inl (h5▸hb')
  ·exact .inr (by rw[h5] at hb';injection hb' with hb';omega)
 have hd0:updR d iv ⟨.slice (some ⟨g8,0,none⟩) (m+1) ay,83,3,m+1,xs++[.string v.s,.int .u8 v.k,.int .i64 v.n]⟩ i0=d i0:=zko h01;have z0:w3.cell? ⟨b,o,none⟩=some (.slice A1 m c1):=by rw[<-e1];exact st1.rws.cell i0 (by rw[hd0];exact hb) (by rw[hd0];exact hov)
 have zf:w3.frozen? ⟨b,o,none⟩=false:=st1.rws.frozen i0 (by rw[hd0];exact hb) o;have hol:o<(d i0).xs.length:=(List.getElem?_eq_some_iff.1 hov).1;have hol1:o+1<(d i0).xs.length:=(List.getElem?_eq_some_iff.1 hoc).1;have st2:=Stp.set (i:=i0) st1.rws (g:=b) (by rw[hd0];exact hb) (o:=o) (by rw[hd0];exact hol) (.slice (some ⟨g8,0,none⟩) (m+1) ay);rw[hd0] at st2;have rR:∀ b',(Value.slice A1 m c1).ownBlock=some b'->b'≠W.heap.size:=fun b' hb' e=>by
  have:=(HR.out.lt iv b' (by rw[e1];exact hb')).2;omega
 have y0:w3.cell? ⟨W.heap.size,0,none⟩=some (.string v.s):=(World.cell?_of_block (a:=⟨W.heap.size,0,none⟩) (h3.block _ (by show W.heap.size<_;omega) (fun e=>rR _ e.symm rfl))).trans w0;have y1:w3.cell? ⟨W.heap.size,1,none⟩=some (.int .u8 v.k):=(World.cell?_of_block (a:=⟨W.heap.size,1,none⟩) (h3.block _ (by show W.heap.size<_;omega) (fun e=>rR _ e.symm rfl))).trans w1;have y2:w3.cell? ⟨W.heap.size,2,none⟩=some (.int .i64 v.n):=(World.cell?_of_block (a:=⟨W.heap.size,2,none⟩) (h3.block _ (by show W.heap.size<_;omega) (fun e=>rR _ e.symm rfl))).trans w2;have HST:=zh ((st1.trans st2).after (zka bN.out q2) HR.out);have HY:=zh (show(fun w':World=>w'.cell? ⟨W.heap.size,0,none⟩=some (.string v.s)/\w'.cell? ⟨W.heap.size,1,none⟩=some (.int .u8 v.k)/\w'.cell? ⟨W.heap.size,2,none⟩=some (.int .i64 v.n)) w3 from ⟨y0,y1,y2⟩);have hbW:b≠W.heap.size:=by omega
 have tX:=zh (show(fun w':World=>w'.cell? ⟨W.heap.size,0,none⟩=some (.string v.s)/\w'.cell? ⟨W.heap.size,1,none⟩=some (.int .u8 v.k)/\w'.cell? ⟨W.heap.size,2,none⟩=some (.int .i64 v.n)) (w3.setCell ⟨b,o,none⟩ (.slice (some ⟨g8,0,none⟩) (m+1) ay)) from by
  have key:∀ i u,w3.cell? ⟨W.heap.size,i,none⟩=some u->(w3.setCell ⟨b,o,none⟩ (.slice (some ⟨g8,0,none⟩) (m+1) ay)).cell? ⟨W.heap.size,i,none⟩=some u:=fun i u hu=>(World.cell?_of_block (a:=⟨W.heap.size,i,none⟩) (Below.heap_setCell _ _ _ _ (Ne.symm hbW))).trans hu;exact⟨key _ _ y0,key _ _ y1,key _ _ y2⟩)
 refine hK.out _ _ HY.out ?_;clear hK K h2 h3 h5 st1 st2 w0 w1 w2 hrv2 HR2 q2 aF bN HR1 y0 y1 y2;(try simp only[zQ]);refine zp 8 fun K hK=>?_;(try simp only[zA,zB,zC]);go_simp;refine hK.out _ _ HY.out ?_;clear hK K;(try simp only[zQ]);refine zp 9 fun K hK=>?_;(try simp only[zA,zB,zC]);go_simp;refine hK.out _ _ HY.out ?_;clear hK K;(try simp only[zQ]);refine zp 10 fun K hK=>?_;(try simp only[zA,zB,zC]);go_simp;refine hK.out _ _ tX.out ?_;clear hK K;(try simp only[zQ]);refine zd ?_;refine NoPanic.normal ?_;clear HY tX z0 zf;obtain⟨W4,hW4⟩:∃ W4,w3.setCell ⟨b,o,none⟩ (.slice (some ⟨g8,0,none⟩) (m+1) ay)=W4:=⟨_,rfl⟩
 rw[hW4] at HST ⊢;obtain⟨d2,hd2⟩:∃ d2,updR (updR d iv ⟨.slice (some ⟨g8,0,none⟩) (m+1) ay,83,3,m+1,xs++[.string v.s,.int .u8 v.k,.int .i64 v.n]⟩) i0 { d i0 with xs:=(d i0).xs.set o (.slice (some ⟨g8,0,none⟩) (m+1) ay) }=d2:=⟨_,rfl⟩
 rw[hd2] at HST;have pQ:d2 ic=d ic:=by rw[<-hd2,zko (Ne.symm h02),zko (Ne.symm h12)]
 have mI:d2 i0={ d i0 with xs:=(d i0).xs.set o (.slice (some ⟨g8,0,none⟩) (m+1) ay) }:=by rw[<-hd2,zkF]
 have g1:W4.cell? ⟨b,o+1,none⟩=some (.slice A2 m c2):=by
  rw[<-e2];exact HST.out.rws.cell i0 (by rw[mI];exact hb) (by rw[mI];show((d i0).xs.set o _)[o+1]?=_;rw[List.getElem?_set_ne (by omega)];exact hoc)
 have HD2:=zh hd2;clear hW4 hd0 hd2;obtain⟨W5,hW5⟩:∃ W5,W4.alloc (.cells #[.pointer q] 97)=W5:=⟨_,rfl⟩
 have q5:Below W4.heap.size W4 W5:=hW5▸zkb (Below.refl _ _) _;have HN5:=zh (show ∀ j u,[Value.pointer q][j]?=some u->W5.cell? ((⟨W4.heap.size,0,none⟩:Addr).add j)=some u from hW5▸zk3 W4 97 [.pointer q]);have sF:=HST.out.rws.later q5;have hrc5:W5.ownsRow n0 97 1 (.slice A2 m c2) m ys:=by have:=sF.row ic;rw[pQ,hic] at this;rw[<-e2];exact this
 have hs5:=q5.size;have hs4:=HST.out.chg.size;have e2':(d2 ic).v=.slice A2 m c2:=by rw[pQ];exact e2
 have HKEY:=zh (show ∀ (g9 cZ:Nat) (w6:World),w6.ownsRow n0 97 1 (.slice (some ⟨g9,0,none⟩) (m+1) cZ) (m+1) (ys++[.pointer q])->W5.grownBy w6 (Value.slice A2 m c2).ownBlock->((Value.slice (some ⟨g9,0,none⟩) (m+1) cZ).ownBlock=(Value.slice A2 m c2).ownBlock\/(Value.slice (some ⟨g9,0,none⟩) (m+1) cZ).ownBlock=some W5.heap.size) ->
   w6.cell? ⟨b,o+1,none⟩=some (.slice A2 m c2)/\w6.frozen? ⟨b,o+1,none⟩=false/\Stp n0 d W (updR (updR d2 ic ⟨.slice (some ⟨g9,0,none⟩) (m+1) cZ,97,1,m+1,ys++[.pointer q]⟩) i0 { d i0 with xs:=((d i0).xs.set o (.slice (some ⟨g8,0,none⟩) (m+1) ay)).set (o+1) (.slice (some ⟨g9,0,none⟩) (m+1) cZ) }) (w6.setCell ⟨b,o+1,none⟩ (.slice (some ⟨g9,0,none⟩) (m+1) cZ)) from fun g9 cZ w6 h2 h3 h5=>by
  have st1:Stp n0 d2 W5 (updR d2 ic ⟨.slice (some ⟨g9,0,none⟩) (m+1) cZ,97,1,m+1,ys++[.pointer q]⟩) w6:=by
   refine Stp.upd (i:=ic) sF ((Chg.row h3).mono fun b' _ hb'=>by rw[e2'];exact hb') h2 (fun b' hb'=>?_);rw[e2'];rcases h5 with h5|h5
   ·exact .inl (h5▸hb')
   ·exact .inr (by rw[h5] at hb';injection hb' with hb';omega)
  have hd0:updR d2 ic ⟨.slice (some ⟨g9,0,none⟩) (m+1) cZ,97,1,m+1,ys++[.pointer q]⟩ i0={ d i0 with xs:=(d i0).xs.set o (.slice (some ⟨g8,0,none⟩) (m+1) ay) }:=(zko h02).trans mI;have z0:w6.cell? ⟨b,o+1,none⟩=some (.slice A2 m c2):=by
   rw[<-e2];exact st1.rws.cell i0 (by rw[hd0];exact hb) (by rw[hd0];show((d i0).xs.set o _)[o+1]?=_;rw[List.getElem?_set_ne (by omega)];exact hoc)
  have zf:w6.frozen? ⟨b,o+1,none⟩=false:=st1.rws.frozen i0 (by rw[hd0];exact hb) (o+1);have st2:=Stp.set (i:=i0) st1.rws (g:=b) (by rw[hd0];exact hb) (o:=o+1) (by rw[hd0];simpa using hol1) (.slice (some ⟨g9,0,none⟩) (m+1) cZ);rw[hd0] at st2;exact⟨z0,zf,HST.out.trans ((st1.trans st2).after q5 HST.out.rws)⟩)
 clear sF q5 pQ mI e2' rR;go_wp2_with (at_builtin;refine wpList_append_own_at (P:=Tryz.prog) _ rfl (.tmp 20) (.tmp 22) 90 rfl n0 97 i2 _ 1 8 Tryz.underlying90 hi2 hy0 hy1 hy2 rfl (by decide) (.slice A2 m c2) m ys rfl hrc5 ⟨W4.heap.size,0,none⟩ 1 1 [.pointer q] rfl rfl HN5.out (by intro u hu;simp at hu;rw[hu];rfl) (by unfold maxLen;omega) (by omega) (by omega) ?_;intro vc w6 h2 h3 h4 h5;obtain⟨g9,cZ,rfl⟩:=ownsRow_succ h2;obtain⟨z0,zf,hfin⟩:=HKEY.out g9 cZ w6 h2 h3 h5;have aS:=zh hfin;clear h2 h3 h4 h5 hfin)
 go_end0;refine⟨⟨_,rfl⟩,.slice (some ⟨g8,0,none⟩) (m+1) ay,.slice (some ⟨g9,0,none⟩) (m+1) cZ,?_⟩;have:=aS.out;rw[<-HD2.out] at this;refine this.cast ?_;funext j;by_cases j0:j=i0
 ·subst j0;simp
 ·simp only[updR,j0,if_false]
end Go.Proofs.YtckhofdinldhpaaGreat
