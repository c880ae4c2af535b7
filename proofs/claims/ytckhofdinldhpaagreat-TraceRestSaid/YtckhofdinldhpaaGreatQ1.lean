/-
  Texts of the proof, put together without their remarks: RgI, Rf, Tcn, Lss, Trs, Rfg, Rfx, Trf, Ltr.
-/
import Derived.Test.YtckhofdinldhpaaGreatE11
import Derived.RangeFuncNested
import Derived.RangeFuncBound
import Derived.RangeFuncCalls
import Derived.RangeFuncLeaves
import Derived.OwnWalkIn
import Derived.TacticsInMore
import Derived.LoopNIn
import Derived.LoopIn
import Derived.OrdersIn
import Derived.Sort.CutIn
import Derived.Deep.CutBlock
import Derived.IntWalk
set_option linter.unusedSimpArgs false
set_option linter.unusedVariables false
set_option maxHeartbeats 8000000
set_option maxRecDepth 100000
namespace Go.Proofs.YtckhofdinldhpaaGreat
open Go
abbrev Fw (ro:Option Nat):Fence:={ Fence.wide with round:=ro }
def zwx (ops:Array Oper):Bool:=ops.all fun o=>match o.op with|.defer _=>false|_=>true
theorem zwt {ops:Array Oper} (h:zwx ops=true) {j:Nat} {o:Oper} (hj:ops[j]?=some o):∀ c,o.op ≠ .defer c:=fun c e=>by
 have hm:o∈ops:=Array.mem_of_getElem? hj;have:=(Array.all_eq_true_iff_forall_mem.1 h) o hm;rw[e] at this
 cases this
section
variable {ro:Option Nat} {n:Nat} {P:Program} {ops:Array Oper} {Q:Exit->Act->World->Prop} {md:Region.Mode}
theorem zwO {row:String} {args:Array Value} {w:World} {R:Value->World->Prop} (h:Rows P row args w R):RowsIn (Fw ro) n P row args w R :=
 fun c cs _=>let ⟨v,w',r,s⟩:=h c cs;⟨v,w',r,stepsIn_wide.2 s⟩
theorem zwu {o:Oper} {a:Act} {w:World} {K:Act->World->Prop} (hnd:∀ c,o.op ≠ .defer c) (h:o.wp P a w K Q):o.wpIn (Fw ro) n P a w K Q:=by
 refine⟨fun _ _=>trivial,?_⟩;rw[Oper.semAt_eq _ _ _ hnd];unfold Oper.wp at h;generalize (execOp a.eval o).run P w=r at *
 cases r with
 | ok x w' =>
  cases x<;>simp only[Oper.upon,Oper.uponIn] at h ⊢
  case value=>exact h
  case skip=>exact h
  case defer=>exact h
  case enter f args =>
   have h':CallsIn Fence.wide (n-1) P f args w' _:=callsIn_wide.2 h;exact⟨(fun e=>by cases e),h'⟩
  case row row args=>exact⟨(fun e=>by cases e),zwO h⟩
 | halt x w'=>cases x<;>simp only[Oper.upon,Oper.uponIn] at h ⊢ <;> exact h
theorem YieldsIf.wpOpI {S:World->Prop} {i:Nat} {o:Oper} {v:Value} {a:Act} (hnd:∀ c,o.op ≠ .defer c) (hi:ops[i]?=some o) (hy:YieldsIf P ops S o v a)
  {K:Act->World->Prop} {w:World} (hS:S w) (h:K (a.put o.dst v) w):wpOpIn (Fw ro) n P ops Q i K a w:=by
 unfold Go.wpOpIn;simp only[hi];rcases hy with⟨hw,hv⟩|⟨hw,rfl⟩
 ·simp only[hw,if_true];refine zwu hnd ?_;simp only[Oper.wp,hv w hS,Oper.upon];exact h
 ·simp only[hw,Bool.false_eq_true,if_false];exact⟨fun _ _=>trivial,h⟩
theorem zwy {S:World->Prop} {j:Nat} {oi oj:Oper} {v:Value} (hnd:∀ c,oj.op ≠ .defer c) (hj:ops[j]?=some oj) (hap:oi.apart ops oj=true)
  (hsi:∀ cs b,oi.op ≠ .select cs b) (hsj:∀ cs b,oj.op ≠ .select cs b)
  (hQ:∀ c a w,Q (.panic c) (a.put oi.dst v) w->Q (.panic c) a w) {K:Act->World->Prop} {a:Act} {w:World}
  (hy:YieldsIf P ops S oi v a) (h:wpOpIn (Fw ro) n P ops Q j K (a.put oi.dst v) w) :
  wpOpIn (Fw ro) n P ops Q j (fun a' w'=>YieldsIf P ops S oi v a'/\K (a'.put oi.dst v) w') a w:=by
 obtain⟨h1,h2,h3⟩:=Oper.apart_spec hap;have keep:∀ (a:Act),YieldsIf P ops S oi v a->∀ u,YieldsIf P ops S oi v (a.put oj.dst u):=fun a hy u =>
  hy.of_same (execOp_put oi hsi a oj.dst u h3) (wanted_put oi a oj.dst u h3)
 have keepD:∀ d,YieldsIf P ops S oi v { a with defers:=d::a.defers }:=fun d=>hy.of_same rfl rfl;unfold wpOpIn at *
 simp only[hj] at *
 rw[wanted_put oj a oi.dst v h1] at h
 split
 ·rename_i hw;simp only[hw,if_true] at h;unfold Oper.wpIn at *
  refine⟨fun _ _=>trivial,?_⟩;have h:=h.2;rw[Oper.semAt_eq _ _ _ hnd,execOp_put oj hsj a oi.dst v h1] at h;rw[Oper.semAt_eq _ _ _ hnd];generalize (execOp a.eval oj).run P w=r at *
  cases r with
  | ok x w' =>
   cases x<;>simp only[Oper.uponIn] at h ⊢
   case value u=>exact⟨keep a hy u,by rw[<-Act.put_comm a v u h2];exact h⟩
   case skip=>exact⟨keep a hy _,by rw[<-Act.put_comm a v undef h2];exact h⟩
   case defer d =>
    refine⟨keep _ (keepD d) _,?_⟩;rw[<-Act.put_comm _ v undef h2,<-Act.put_defers];exact h
   case enter f args =>
    refine⟨h.1,CallsIn.mono h.2 fun e w'' he=>?_⟩
    cases e with
    | returned u=>exact⟨keep a hy u,by rw[<-Act.put_comm a v u h2];exact he⟩
    | panicked c=>exact hQ _ _ _ he
    | outgrown=>exact he
   case row row args=>exact⟨h.1,RowsIn.mono h.2 fun u w'' he=>⟨keep a hy u,by rw[<-Act.put_comm a v u h2];exact he⟩⟩
   case round l f tmps assign body =>
    refine⟨h.1,RoundIn.mono h.2 fun e w'' he=>?_⟩
    cases e with
    | returned u=>exact⟨keep a hy u,by rw[<-Act.put_comm a v u h2];exact he⟩
    | panicked c=>exact hQ _ _ _ he
    | outgrown=>exact he
  | halt x w' =>
   cases x<;>simp only[Oper.uponIn] at h ⊢
   case panic u=>exact hQ _ _ _ h
 ·rename_i hw;simp only[hw] at h;exact⟨fun _ _=>trivial,keep a hy _,by rw[<-Act.put_comm a v undef h2];exact h.2⟩
def wpI (ro:Option Nat) (n:Nat) (P:Program) (md:Region.Mode) (ops:Array Oper) (Q:Exit->Act->World->Prop) (S:World->Prop):Nat->Array Bool->Act->World->Prop
 | 0,listed,a,w=>Region.ready md ops listed=[]/\Q .normal a w
 | fuel+1,listed,a,w =>
  (Region.ready md ops listed=[]->Q .normal a w) /\
  ∀ i∈Region.ready md ops listed,wpOpIn (Fw ro) n P ops Q i (fun a' w'=>S w'/\wpI ro n P md ops Q S fuel (listed.setIfInBounds i true) a' w') a w
variable {S:World->Prop}
theorem zwv:∀ (fuel:Nat) (listed:Array Bool) (a:Act) (w:World),wpI ro n P md ops Q S fuel listed a w->wpAnyIn (Fw ro) n P md ops Q fuel listed a w
 | 0,_,_,_,h=>h
 | fuel+1,_,_,_,h=>⟨h.1,fun i hi=>wpOpIn_mono (fun a' w' h'=>zwv fuel _ a' w' h'.2) (h.2 i hi)⟩
theorem zwF {i:Nat} {oi:Oper} {v:Value} (hnd:zwx ops=true) (hi:ops[i]?=some oi) (hsel:∀ (j:Nat) (o:Oper) cs b,ops[j]?=some o->o.op ≠ .select cs b)
  (hQ:∀ c a w,Q (.panic c) (a.put oi.dst v) w->Q (.panic c) a w) :
  ∀ (fuel:Nat) (listed:Array Bool) (a:Act) (w:World),
   (∀ j oj,ops[j]?=some oj->j≠i->listed.getD j true=false->(∀ e∈oj.after,Region.binds md e=true->e.on≠i)->oi.apart ops oj=true) ->
   i∈Region.ready md ops listed->YieldsIf P ops S oi v a->S w ->
   wpI ro n P md ops Q S fuel (listed.setIfInBounds i true) (a.put oi.dst v) w->wpI ro n P md ops Q S (fuel+1) listed a w:=by
 intro fuel
 induction fuel with
 | zero =>
  intro listed a w _ hr hy hS H;refine⟨fun h=>(by rw[h] at hr;cases hr),fun j hj=>?_⟩;by_cases hji:j=i
  ·subst hji;exact YieldsIf.wpOpI (zwt hnd hi) hi hy hS ⟨hS,H⟩
  ·have:=ready_mono hj hji;rw[H.1] at this
   cases this
 | succ fuel ih =>
  intro listed a w hfree hr hy hS H;refine⟨fun h=>(by rw[h] at hr;cases hr),fun j hj=>?_⟩;by_cases hji:j=i
  ·subst hji;exact YieldsIf.wpOpI (zwt hnd hi) hi hy hS ⟨hS,H⟩
  ·have h1:=H.2 j (ready_mono hj hji);obtain⟨hjun,oj,hoj,hall⟩:=mem_ready.1 hj;have hnot:∀ e∈oj.after,Region.binds md e=true->e.on≠i:=fun e he hb heq=>by
    have h1:=hall e he hb;have h0:=(mem_ready.1 hr).1;rw[heq] at h1;rcases Nat.lt_or_ge i listed.size with h'|h'
    ·simp[h'] at h0 h1;rw[h0] at h1;cases h1
    ·simp[Array.getElem?_eq_none h'] at h1
   have h2:=zwy (zwt hnd hoj) hoj (hfree j oj hoj hji hjun hnot) (fun cs b=>hsel i oi cs b hi) (fun cs b=>hsel j oj cs b hoj) hQ hy h1;have hfree':∀ k ok,ops[k]?=some ok->k≠i->(listed.setIfInBounds j true).getD k true=false ->
     (∀ e∈ok.after,Region.binds md e=true->e.on≠i)->oi.apart ops ok=true:=fun k ok hk hki hun hno=>by
    refine hfree k ok hk hki ?_ hno;by_cases hjk:j=k
    ·subst hjk;exact hjun
    ·rw[getD_set_ne true hjk] at hun;exact hun
   refine wpOpIn_mono (fun a' w' h3=>?_) h2;obtain⟨hy',hs1,hW⟩:=h3;refine⟨hs1,ih (listed.setIfInBounds j true) a' w' hfree' (ready_mono hr (Ne.symm hji)) hy' hs1 ?_⟩;rw[Array.setIfInBounds_comm _ _ hji];exact hW
theorem zws {i:Nat} {oi:Oper} {v:Value} {fuel:Nat} {listed:Array Bool} {a:Act} {w:World} (hi:ops[i]?=some oi) (hnd:zwx ops=true)
  (hs:Region.noSelect ops=true) (hf:Region.free md ops listed i=true) (hr:(Region.ready md ops listed).contains i=true)
  (hQ:∀ c a w,Q (.panic c) (a.put oi.dst v) w->Q (.panic c) a w) (hy:YieldsIf P ops S oi v a) (hS:S w)
  (h:wpI ro n P md ops Q S fuel (listed.setIfInBounds i true) (a.put oi.dst v) w):wpI ro n P md ops Q S (fuel+1) listed a w :=
 zwF hnd hi (Region.noSelect_spec hs) hQ fuel listed a w (Region.free_spec hi hf) (by simpa using hr) hy hS h
theorem zwM {i:Nat} {o:Oper} {fuel:Nat} {listed:Array Bool} {a:Act} {w:World} (hr:Region.ready md ops listed=[i]) (ho:ops[i]?=some o) (hnd:zwx ops=true)
  (hw:Region.wanted o (yielded ops a.tmps)=true)
  (h:∀ K':Act->World->Prop,Shut (∀ a w,S w->wpI ro n P md ops Q S fuel (listed.setIfInBounds i true) a w->K' a w)->if Region.wanted o (yielded ops a.tmps)=true then Oper.wp P o a w K' Q else K' (a.put o.dst undef) w) :
  wpI ro n P md ops Q S (fuel+1) listed a w:=by
 refine⟨(fun h0=>by rw[hr] at h0;cases h0),fun j hj=>?_⟩;rw[hr] at hj;simp only[List.mem_singleton] at hj;subst hj;unfold wpOpIn;have:=h _ (fun a w hS hW=>(⟨hS,hW⟩:S w/\wpI ro n P md ops Q S fuel (listed.setIfInBounds j true) a w));rw[if_pos hw] at this;simp only[ho,hw,if_true];exact zwu (zwt hnd ho) this
theorem zwI {fuel:Nat} {listed:Array Bool} {a:Act} {w:World} (hr:Region.ready md ops listed=[]) (h:Q .normal a w):wpI ro n P md ops Q S fuel listed a w:=by
 cases fuel with
 | zero=>exact⟨hr,h⟩
 | succ fuel=>exact⟨fun _=>h,fun i hi=>by rw[hr] at hi;cases hi⟩
theorem zww {id:Nat} {a:Act} {w:World} (S:World->Prop) (hm:P.follows .mixedOrders=true)
  (h:wpI ro n P .any ops Q S ops.size (Array.replicate ops.size false) a w.drew):(Code.region id ops true).wpIn (Fw ro) n P Q a w :=
 wpIn_region_any hm (zwv _ _ _ _ h)
end
end Go.Proofs.YtckhofdinldhpaaGreat
namespace Go.Proofs.YtckhofdinldhpaaGreat
open Go Go.RowKit
section
variable {C C':Nat->Prop} {w w' w'':World}
theorem Chg.putObj (w:World) (l:Nat) (o:Obj):Chg (· = l) w (w.putObj l o) :=
 ⟨rfl,rfl,rfl,by simp[World.putObj],fun b _ hc=>World.putObj_heap_other hc⟩
end
theorem zwe {W:World} {n0 b:Nat} {s0 x:SS} {es:List (List CH)} {pos:Nat} (h:Cu W n0 b s0 x es pos) :
  Calls Tryz.prog 39 #[.pointer (some ⟨b,0,none⟩)] W (fun e W'=>W'=W/\e=.returned (.int .i64 pos)):=by
 obtain⟨⟨f1,f2,f3,g1,g2,g3,A,c,hbx,hf,hx,hr,hc⟩,hnb⟩:=h;have y:W.cell? ⟨b,7,none⟩=some (.int .i64 pos):=zc hbx rfl;clear hbx hf hx hr hc;go_enter Tryz.func39,Tryz.ntmps39;go_wp2_with fail;go_ret;exact⟨rfl,rfl⟩
theorem zwf:(Tryz.prog.info? 26).map (fun i=>(i.zero,i.size,i.bytes))=some (some (.agg #[.slice none 0 0,.slice none 0 0,.slice none 0 0]),3,72):=by kernel_rfl
theorem bSts (a0 a1 a2:Value) (w:World):(Instr.buildSlice 68 1 #[(0,.agg #[a0,a1,a2])]).run Tryz.prog w=.ok (.slice (some ⟨w.heap.size,0,none⟩) 1 1) (w.alloc (.cells #[a0,a1,a2] 26)):=by kernel_rfl
def zvL (vs:List (Value×Value×Value)):List Value:=vs.flatMap fun t=>[t.1,t.2.1,t.2.2]
theorem zvS:∀ (l:List (Value×Value×Value)) (i o:Nat) (hi:i<l.length),o<3->(zvL l)[i*3+o]?=[l[i].1,l[i].2.1,l[i].2.2][o]?
 | c::l,0,o,_,ho=>by
  rw[show zvL (c::l)=[c.1,c.2.1,c.2.2]++zvL l from rfl,List.getElem?_append_left (by simp;omega)];simp
 | c::l,i+1,o,hi,ho=>by
  rw[show zvL (c::l)=[c.1,c.2.1,c.2.2]++zvL l from rfl,List.getElem?_append_right (by simp;omega)];have:(i+1)*3+o-[c.1,c.2.1,c.2.2].length=i*3+o:=by simp;omega
  rw[this,zvS l i o (by simpa using hi) ho];simp
def RowT (W:World) (n0:Nat) (v:Value) (ss:List SS):Prop :=
 ∃ vs:List (Value×Value×Value),W.ownsRow n0 26 3 v ss.length (zvL vs)/\vs.length=ss.length/\∀ k (hk:k<ss.length) (hv:k<vs.length),SV W (fun q=>v.ownBlock≠some q) ss[k] (.agg #[vs[k].1,vs[k].2.1,vs[k].2.2])
theorem RowT.push {W W4 W5:World} {n0:Nat} {v v' y0 y1 y2:Value} {ss:List SS} {y:SS} {vs:List (Value×Value×Value)} (hl:vs.length=ss.length) (h1:W.ownsRow n0 26 3 v ss.length (zvL vs))
  (h2:∀ k (hk:k<ss.length) (hv:k<vs.length),SV W (fun q=>v.ownBlock≠some q) ss[k] (.agg #[vs[k].1,vs[k].2.1,vs[k].2.2]))
  (hb4:Below W.heap.size W W4) (hy:SV W4 (fun q=>v.ownBlock≠some q) y (.agg #[y0,y1,y2])) (ho:W5.ownsRow n0 26 3 v' (ss.length+1) (zvL vs++[y0,y1,y2])) (hg:W4.grownBy W5 v.ownBlock) (ak:v'.ownBlock=v.ownBlock\/v'.ownBlock=some W4.heap.size) :
  RowT W5 n0 v' (ss++[y]):=by
 have hS:∀ q,v.ownBlock≠some q->q<W4.heap.size->v'.ownBlock≠some q:=fun q h hq e=>by
  rcases ak with e1|e1
  ·exact h (e1▸e)
  ·rw[e1] at e;injection e with e;omega
 have hk:∀ q,v.ownBlock≠some q->q<W4.heap.size->W5.heap[q]?=W4.heap[q]?:=fun q h hq=>hg.block q hq fun e=>h e.symm;refine⟨vs++[(y0,y1,y2)],?_,by simp[hl],fun k hk1 hk2=>?_⟩
 ·have e1:zvL (vs++[(y0,y1,y2)])=zvL vs++[y0,y1,y2]:=by simp[zvL]
  rw[e1,List.length_append];exact ho
 ·by_cases hlt:k<ss.length
  ·have hlv:k<vs.length:=by omega
   rw[List.getElem_append_left hlt,List.getElem_append_left hlv];exact((h2 k hlt hlv).later hb4).keep (fun q h hq=>hS q h hq) fun q h hq=>hk q h hq
  ·obtain rfl:k=ss.length:=by simp at hk1;omega
   rw[List.getElem_append_right (Nat.le_refl _),List.getElem_append_right (by omega)];simp only[Nat.sub_self,hl,List.getElem_cons_zero];exact hy.keep (fun q h hq=>hS q h hq) fun q h hq=>hk q h hq
theorem RowT.nd {W:World} {n0:Nat} {v:Value} {ss:List SS} (h:RowT W n0 v ss) {k:Nat} (hk:k<ss.length) :
  ∃ g cap A c B d D e,v=.slice (some ⟨g,0,none⟩) ss.length cap/\n0<=g/\g<W.heap.size/\W.cell? ⟨g,k*3,none⟩=some (.slice A ss[k].cells.length c)/\W.cell? ⟨g,k*3+1,none⟩=some (.slice B ss[k].tin.length d)/\W.cell? ⟨g,k*3+2,none⟩=some (.slice D ss[k].tout.length e) /\
   SV W (fun q=>q≠g) ss[k] (.agg #[.slice A ss[k].cells.length c,.slice B ss[k].tin.length d,.slice D ss[k].tout.length e]):=by
 obtain⟨vs,h1,hl,h2⟩:=h;have hkv:k<vs.length:=by omega
 have hs:=h2 k hk hkv;rcases h1.2 with⟨e1,e2⟩|⟨g,cap,cur,rfl,hb,hg,-⟩
 ·omega
 ·have hx:∀ o u,o<3->[vs[k].1,vs[k].2.1,vs[k].2.2][o]?=some u->W.cell? ⟨g,k*3+o,none⟩=some u:=fun o u h4 hu=>by
   rw[h1.cellAt (k*3+o) (by omega),zvS vs k o hkv h4];exact hu
  have x0:=hx 0 _ (by omega) rfl;have x1:=hx 1 _ (by omega) rfl;have x2:=hx 2 _ (by omega) rfl;generalize vs[k]=t at *
  obtain⟨t0,t1,t2⟩:=t;simp only at hs x0 x1 x2;obtain⟨A,c,B,d,D,e,he⟩:=hs.slices;injection he with he;simp only[Array.mk.injEq,List.cons.injEq,and_true] at he;obtain⟨rfl,rfl,rfl⟩:=he;exact⟨g,cap,A,c,B,d,D,e,rfl,hb,zko hg,x0,x1,x2,hs.keep (fun q hq _ e=>hq (by rw[e];rfl)) fun _ _ _=>rfl⟩
theorem zvO {ops:Array Oper} {rest:List Oper} {o:Oper} {a:Act} {W:World} {Q:Exit->Act->World->Prop} (hgd:o.guard=none) (s x:Operand)
  (ho:o.op=.call { callee:=.builtin .append,args := #[s,x],argTypes := #[68,68] }) (base:Nat) (v:Value) (n:Nat) (xs:List Value) (hs:a.eval s=v) (hrow:W.ownsRow base 26 3 v n xs)
  (b:Nat) (y0 y1 y2:Value) (hy:y0.oneCell'=true/\y1.oneCell'=true/\y2.oneCell'=true) (hx:a.eval x=.slice (some ⟨b,0,none⟩) 1 1) (hc:W.heap[b]?=some (.cells #[y0,y1,y2] 26 (0,0))) (hl:n+1<=1000000) (hb:base<=W.heap.size)
  (h:∀ v' w',w'.ownsRow base 26 3 v' (n+1) (xs++[y0,y1,y2])->W.grownBy w' v.ownBlock->(v'.ownBlock=v.ownBlock\/v'.ownBlock=some W.heap.size)->wpList Tryz.prog ops Q rest (a.put o.dst v') w') :
  wpList Tryz.prog ops Q (o::rest) a W:=by
 obtain⟨i,hi,hz0,hz1,hz2⟩:=info_parts zwf;refine wpList_append_own_at (P:=Tryz.prog) _ hgd s x 68 ho base 26 i _ 3 72 Tryz.underlying68 hi hz0 hz1 hz2 rfl (by decide) v n xs hs hrow ⟨b,0,none⟩ 1 1 [y0,y1,y2] hx (by simp) (fun j u hj=>?_) (fun u hu=>?_) (by unfold maxLen;omega) (by omega) hb (fun v' w' h1 h2 _ h4=>h v' w' h1 h2 h4)
 ·rw[Addr.add_lit,Nat.zero_add];exact zc hc (by simpa using hj)
 ·simp only[List.mem_cons,List.not_mem_nil,or_false] at hu;rcases hu with rfl|rfl|rfl
  ·exact hy.1
  ·exact hy.2.1
  ·exact hy.2.2
def stsE (s:SS) (es:List (List CH)) (j:Nat):List SS:=(List.range (j+1)).map (cur s es)
theorem zvK (s:SS) (es:List (List CH)) (j:Nat):(stsE s es j).length=j+1:=by simp[stsE]
theorem zv1 (s:SS) (es:List (List CH)) (j:Nat):stsE s es (j+1)=stsE s es j++[cur s es (j+1)]:=by simp only[stsE];rw[List.range_succ,List.map_append];rfl
theorem zvW (s:SS) (es:List (List CH)) (j k:Nat) (hk:k<(stsE s es j).length):(stsE s es j)[k]=cur s es k:=by simp[stsE]
def StsP (W:World) (s:SS) (es:List (List CH)) (e:Ending) (W':World):Prop :=
 Below W.heap.size W W'/\(((atE s es).1=0/\∃ v,e=.returned (.tuple #[v,.bool true])/\RowT W' W.heap.size v (stsE s es es.length))\/((atE s es).1≠0/\e=.returned (.tuple #[.slice none 0 0,.bool false])))
theorem zvY {W:World} {s:SS} {es:List (List CH)} {v:Value} {A:Option Addr} {c:Nat} (hs:SV W Any s v) (he:RowE W Any A es) {n:Nat} (hg:zmr n s) (hn:n<=1000) (hes:EvOk es) (hel:es.length<=1000) :
  Calls Tryz.prog 36 #[v,.slice A es.length c] W (StsP W s es):=by
 obtain⟨A1,c1,B1,d1,D1,e1,rfl⟩:=hs.slices;have HS:=zh hs;have HE:=zh he;have HG:=zh hg;have HN:=zh hn;have dP:=zh hes;have kS:=zh hel;have k1:=heap_alloc_new W (.cells #[.slice A1 s.cells.length c1,.slice B1 s.tin.length d1,.slice D1 s.tout.length e1] 26);have hb1:=zkd (Below.refl W.heap.size W) (.cells #[.slice A1 s.cells.length c1,.slice B1 s.tin.length d1,.slice D1 s.tout.length e1] 26);have hbc:=bSts;clear hs he hg hn hes hel;go_enter Tryz.func36,Tryz.ntmps36;go_upto_region 1 with fail;obtain⟨w1,hw1⟩:∃ x,W.alloc (.cells #[.slice A1 s.cells.length c1,.slice B1 s.tin.length d1,.slice D1 s.tout.length e1] 26)=x:=⟨_,rfl⟩
 obtain⟨xb,hxb⟩:∃ x,W.heap.size=x:=⟨_,rfl⟩
 rw[hw1] at k1 hb1;rw[hw1];have HB1:=zh hb1;have HXB:=zh hxb;rw[hxb] at k1;rw[hxb];obtain⟨z0,z1,z2⟩:=zlp k1;have k2:=heap_alloc_new w1 (.cells #[.slice A1 s.cells.length c1,.slice B1 s.tin.length d1,.slice D1 s.tout.length e1] 26);have hb2:=zkd (Below.refl w1.heap.size w1) (.cells #[.slice A1 s.cells.length c1,.slice B1 s.tin.length d1,.slice D1 s.tout.length e1] 26);clear hw1 hxb k1 hb1;go_upto_region 2 with fail;obtain⟨w2,hw2⟩:∃ x,w1.alloc (.cells #[.slice A1 s.cells.length c1,.slice B1 s.tin.length d1,.slice D1 s.tout.length e1] 26)=x:=⟨_,rfl⟩
 obtain⟨ob,ak⟩:∃ x,w1.heap.size=x:=⟨_,rfl⟩
 rw[hw2] at k2 hb2;rw[hw2];rw[ak] at k2;rw[ak];have xu:=zh (show RowT w2 W.heap.size (.slice (some ⟨ob,0,none⟩) 1 1) (stsE s es 0) from by
  refine⟨[(.slice A1 s.cells.length c1,.slice B1 s.tin.length d1,.slice D1 s.tout.length e1)],⟨rfl,.inr ⟨ob,1,_,rfl,by rw[<-ak];exact HB1.out.size,k2,Nat.le_refl _,by unfold maxLen;omega,rfl,rfl⟩⟩,rfl,fun k hk hv=>?_⟩;obtain rfl:k=0:=by simp at hv;omega
  have h2:=zka HB1.out hb2;exact(HS.out.keep (S':=fun q=>(Value.slice (some ⟨ob,0,none⟩) 1 1).ownBlock≠some q) (fun q _ hlt e=>by simp[Value.ownBlock] at e;have:=HB1.out.size;omega) fun q _ hlt=>h2.block q hlt))
 have aR:=zh (zka HB1.out hb2);have uq:=zh (show(atE s (es.take 0)).1=0 from rfl);clear k2 hb2 hw2 ak z0 z1 z2;go_wp2_with fail
 go_loopw [6,7] (fun v i wr=>∃ j:Nat,j<=es.length/\i=.int .i64 j/\Hid (Below W.heap.size W wr)/\Hid ((atE s (es.take j)).1=0)/\Hid (RowT wr W.heap.size v (stsE s es j))) (fun _ i _=>es.length-(intOf i).toNat)
 case atStart=>exact⟨0,Nat.zero_le _,rfl,aR,uq,xu⟩
 case round =>
  clear aR uq xu;obtain⟨j,hj,rfl,aR,tX,xu⟩:=hrel;by_cases hlt:j<es.length
  ·have hj1:(j:Int)<(es.length:Int):=by omega
   have hj0:(0:Int)<=(j:Int):=by omega
   have hj2:(j:Int)<(j:Int)+1:=by omega
   have iC:IntKind.i64.wrap ((j:Int)+1)=(j:Int)+1:=IntWalk.i64_in _ (by have:=dP.out.1;omega);obtain⟨g,cap,Ax,cx,Bx,dx,Dx,ex,hgv,hg1,hg2,x0,x1,x2,hsx⟩:=xu.out.nd (k:=j) (by rw[zvK];omega);rw[zvW] at x0 x1 x2 hsx;rw[zvK] at hgv;obtain⟨a,Aj,cj,rfl,-,hce,hcl,hrc⟩:=(HE.out.later aR.out) j hlt;obtain⟨hci,fU⟩:=dP.out.2 _ (List.getElem_mem hlt);have hgx:=zng s (es.take j) HG.out (fun e he=>(dP.out.2 e (List.mem_of_mem_take he)).1) tX.out;have hsn:=znf s (es.take j) es[j] tX.out;rw[<-List.take_succ_eq_append_getElem hlt] at hsn;change zmr n (cur s es j) at hgx;change atE s (es.take (j+1))=if (zkw (cur s es j) es[j]).1≠0 then ((zkw (cur s es j) es[j]).1,⟨[],[],[]⟩) else (0,(zkw (cur s es j) es[j]).2) at hsn
   obtain⟨x,hx⟩:∃ x,cur s es j=x:=⟨_,rfl⟩
   obtain⟨E,hE⟩:∃ E,es[j]=E:=⟨_,rfl⟩
   rw[hx] at x0 x1 x2 hsx hgx hsn;rw[hE] at hce hcl hrc hci fU hsn;have fD:=fun(h0:(zkw x E).1=0)=>zlW (l:=E) hgx hci h0;have fB:=zmY x E;have dE:=zh (fun w' (hb:Below wr.heap.size wr w')=>zmC x E _ Aj cj w' ((hsx.keep (S':=Any) (fun _ _ _=>trivial) fun _ _ _=>rfl).later hb) (hgx.sm (by have:=HN.out;omega)) ((hrc.keep (S':=Any) (fun _ _ _=>trivial) fun _ _ _=>rfl).later hb) hci fU);obtain⟨R1,jN⟩:∃ R1,zkw x E=R1:=⟨_,rfl⟩
   have HST:=zh jN;rw[jN] at fD fB hsn;obtain⟨er,y⟩:=R1;simp only at fD fB hsn;have hyl:y.Lim:=by
    by_cases h0:er=0
    ·exact((fD h0).sm (by have:=HN.out;omega)).lim
    ·rw[fB h0];exact⟨Nat.zero_le _,fun l hl=>(by cases hl),Nat.zero_le _,Nat.zero_le _⟩
   have rJ:=zh hyl;have qF:=zh hsn;have aY:=zh hlt;have HGL:=zh (show W.heap.size<=g/\g<wr.heap.size from ⟨hg1,hg2⟩);subst hgv;clear hE hx hrc hci fU hcl jN fD fB hyl hsn hgx hsx hlt hg1 hg2;go_upto_region 5 with fail;have hSS:(fun w':World=>w'.cell? ⟨g,j*3,none⟩=some (.slice Ax x.cells.length cx)/\w'.cell? ⟨g,j*3+1,none⟩=some (.slice Bx x.tin.length dx)/\w'.cell? ⟨g,j*3+2,none⟩=some (.slice Dx x.tout.length ex)/\w'.cell? (a.add j)=some (.slice Aj E.length cj)) wr.drew/\(fun _:World=>True) wr.drew:=⟨⟨x0,x1,x2,hce⟩,trivial⟩
   have aB:=zh (show ∀ w',Below wr.heap.size wr w'->(fun w':World=>w'.cell? ⟨g,j*3,none⟩=some (.slice Ax x.cells.length cx)/\w'.cell? ⟨g,j*3+1,none⟩=some (.slice Bx x.tin.length dx)/\w'.cell? ⟨g,j*3+2,none⟩=some (.slice Dx x.tout.length ex)/\w'.cell? (a.add j)=some (.slice Aj E.length cj)) w' from fun w' h=>⟨zb h x0,zb h x1,zb h x2,zb h hce⟩);refine wp_region_noPanic ?_;refine zke (fun w':World=>w'.cell? ⟨g,j*3,none⟩=some (.slice Ax x.cells.length cx)/\w'.cell? ⟨g,j*3+1,none⟩=some (.slice Bx x.tin.length dx)/\w'.cell? ⟨g,j*3+2,none⟩=some (.slice Dx x.tout.length ex)/\w'.cell? (a.add j)=some (.slice Aj E.length cj)) (fun _:World=>True) 14 (by kernel_rfl) ?_;refine zT 0 hSS ?_;(try simp only[zQ]);refine zT 1 hSS ?_;(try simp only[zQ]);refine zT 2 hSS ?_;(try simp only[zQ]);refine zT 3 hSS ?_;(try simp only[zQ]);refine zT 4 hSS ?_;(try simp only[zQ]);refine zT 5 hSS ?_
   (try simp only[zQ]);refine zT 6 hSS ?_;(try simp only[zQ]);refine zT 7 hSS ?_;(try simp only[zQ]);clear hSS;refine zm7 (fun A f l a wx=>∃ (l5 l6 l7 l8 l9 l10:Bool) (v62 v56 v63 v64 v12:Value) (Ay By Dy:Option Addr) (cy dy ey bq:Nat),f=(!l5).toNat+(!l6).toNat+(!l7).toNat+(!l8).toNat+(!l9).toNat+(!l10).toNat+1/\l = #[true,true,true,true,true,true,true,true,l5,l6,l7,l8,l9,l10,false] /\
    a=((((A.put (some 27) v62).put (some 18) v56).put (some 28) v63).put (some 29) v64).put (some 8) v12/\Hid (Below wr.heap.size wr wx)/\Hid ((l6=true->l5=true)/\(l7=true->l6=true)/\(l8=true->l6=true)/\(l10=true->l7=true/\l9=true)) /\
    Hid ((l5=true->v62=.tuple #[.agg #[.slice Ay y.cells.length cy,.slice By y.tin.length dy,.slice Dy y.tout.length ey],.int .i64 er])/\(l6=true->v56=.tuple #[.agg #[.slice Ay y.cells.length cy,.slice By y.tin.length dy,.slice Dy y.tout.length ey],.int .i64 er])/\(l7=true->v63=.agg #[.slice Ay y.cells.length cy,.slice By y.tin.length dy,.slice Dy y.tout.length ey])/\(l8=true->v64=.int .i64 er)/\(l9=true->v12=.pointer (some ⟨bq,0,none⟩)))/\Hid (l5=true->OwnS wx wr.heap.size y (.agg #[.slice Ay y.cells.length cy,.slice By y.tin.length dy,.slice Dy y.tout.length ey])) /\
    Hid (l9=true->wr.heap.size<=bq/\(l10=false->wx.heap[bq]?=some (.cells #[.slice none 0 0,.slice none 0 0,.slice none 0 0] 26 (0,0)))/\(l10=true->wx.heap[bq]?=some (.cells #[.slice Ay y.cells.length cy,.slice By y.tin.length dy,.slice Dy y.tout.length ey] 26 (0,0))))) (fun A f l a wx h=>?_) ?_
    ⟨false,false,false,false,false,false,u27,u18,u28,u29,u8,none,none,none,0,0,0,0,rfl,rfl,(by simp only[Act.put,zD,zE,zF]),zh (Below.refl _ _).drew,zh ⟨fun h=>(by cases h),fun h=>(by cases h),fun h=>(by cases h),fun h=>(by cases h)⟩,zh ⟨fun h=>(by cases h),fun h=>(by cases h),fun h=>(by cases h),fun h=>(by cases h),fun h=>(by cases h)⟩,zh fun h=>(by cases h),zh fun h=>(by cases h)⟩
   ·obtain⟨_,_,_,_,_,_,_,_,_,_,_,_,_,_,_,_,_,_,_,_,_,hb,_⟩:=h;exact⟨aB.out _ hb.out,trivial⟩
   rintro A' hA f l a wx ⟨l5,l6,l7,l8,l9,l10,v62,v56,v63,v64,v12,Ay,By,Dy,cy,dy,ey,bq,hf,rfl,ha,ae,HC,bJ,kP,ax⟩;by_cases hall:(l5&&l6&&l7&&l8&&l9&&l10)=true
   ·left
    simp only[Bool.and_eq_true] at hall;obtain⟨⟨⟨⟨⟨rfl,rfl⟩,rfl⟩,rfl⟩,rfl⟩,rfl⟩:=hall;obtain⟨wS,wT,wR,wQ,g12⟩:=bJ.out;obtain rfl:=wS rfl;obtain rfl:=wT rfl;obtain rfl:=wR rfl;obtain rfl:=wQ rfl;obtain rfl:=g12 rfl;subst hf ha hA;have xB:=zh (kP.out rfl);obtain⟨hb1,-,hb3⟩:=ax.out rfl;have hbx:=hb3 rfl;have bE:=zh hbx;have qP:=zh hb1;clear wS wT wR wQ g12 hb3 hbx hb1 ax kP bJ HC;refine zp 14 fun K hK=>?_;(try simp only[zQ]);go_simp;refine hK.out _ _ (aB.out _ ae.out) ?_;clear hK K;(try simp only[zQ]);refine zd ?_;refine NoPanic.normal ?_;have ax:=zh (zka aR.out ae.out);obtain⟨y0,y1,y2⟩:=zlp bE.out;clear x0 x1 x2 hce;by_cases h0:er=0
    ·subst h0;obtain⟨vs,q1,q2,q3⟩:=xu.out;rw[zvK] at q1;have k4:=heap_alloc_new wx (.cells #[.slice Ay y.cells.length cy,.slice By y.tin.length dy,.slice Dy y.tout.length ey] 26);have hb4:=zkd (Below.refl wx.heap.size wx) (.cells #[.slice Ay y.cells.length cy,.slice By y.tin.length dy,.slice Dy y.tout.length ey] 26);have hrow:=zkt q1 (zka ae.out hb4);have hl4:j+1+1<=1000000:=by have:=aY.out;have:=kS.out;omega
     have xR:W.heap.size<=(wx.alloc (.cells #[.slice Ay y.cells.length cy,.slice By y.tin.length dy,.slice Dy y.tout.length ey] 26)).heap.size:=Nat.le_trans ax.out.size hb4.size;have hcur:cur s es (j+1)=y:=by unfold cur;rw[qF.out];simp
     have xg:=zh (show(atE s (es.take (j+1))).1=0 by rw[qF.out];simp);have HX:=zh (show ∀ v' w',w'.ownsRow W.heap.size 26 3 v' (j+1+1) (zvL vs++[.slice Ay y.cells.length cy,.slice By y.tin.length dy,.slice Dy y.tout.length ey])->(wx.alloc (.cells #[.slice Ay y.cells.length cy,.slice By y.tin.length dy,.slice Dy y.tout.length ey] 26)).grownBy w' (Value.slice (some ⟨g,0,none⟩) (j+1) cap).ownBlock->(v'.ownBlock=(Value.slice (some ⟨g,0,none⟩) (j+1) cap).ownBlock\/v'.ownBlock=some (wx.alloc (.cells #[.slice Ay y.cells.length cy,.slice By y.tin.length dy,.slice Dy y.tout.length ey] 26)).heap.size)->∃ A' c',v'=.slice A' (j+1+1) c'/\Hid (Below W.heap.size W w')/\Hid (RowT w' W.heap.size v' (stsE s es (j+1))) from fun v' w' ho hg ak=>by
      obtain⟨A',c',hv,-⟩:=zkb ho;have h1:=zka ax.out hb4;refine⟨A',c',hv,zh (h1.trans ((Chg.row hg).below h1.size fun q e=>by simp[Value.ownBlock] at e;have:=HGL.out.1;omega)),zh ?_⟩;rw[zv1,hcur];refine RowT.push q2 (by rw[zvK];exact q1) q3 (zka ae.out hb4) (((xB.out.svR rJ.out).later hb4).keep (fun q h1 _ e=>by simp[Value.ownBlock] at e;have h1:wr.heap.size<=q:=h1;have:=HGL.out.2;omega) fun _ _ _=>rfl) (by rw[zvK];exact ho) hg ak)
     clear q1 q2 q3 hb4 hcur HST qF dE;go_wp2_with (at_builtin;refine zvO rfl (.tmp 32) (.tmp 34) rfl W.heap.size (.slice (some ⟨g,0,none⟩) (j+1) cap) (j+1) (zvL vs) rfl hrow wx.heap.size _ _ _ ⟨rfl,rfl,rfl⟩ rfl k4 hl4 xR ?_;intro v' w' ho hg ak;obtain⟨A',c',rfl,bu,HRT9⟩:=HX.out _ _ ho hg ak;clear ho hg ak)
     exact⟨⟨j+1,by have:=aY.out;omega,by go_num,bu,xg,HRT9⟩,by have:=aY.out;simp[intOf];omega⟩
    ·have hne:(er==0)=false:=by simpa using h0
     have zG:=zh (show(atE s es).1≠0 by
      have h5:atE s (es.take (j+1))=(er,⟨[],[],[]⟩):=by rw[qF.out];simp[h0]
      have h6:=zoG s (es.take (j+1)) (es.drop (j+1)) (by rw[h5];exact h0);rw[List.take_append_drop] at h6;rw[h6,h5];exact h0)
     go_wp2_with fail;go_ret2;exact⟨ax.out,.inr ⟨zG.out,rfl⟩⟩
   ·right
    have au:=HC.out;refine⟨f-1,?_,?_,?_⟩
    ·clear HC au bJ kP ax ha ae;subst hf;revert hall;revert l5 l6 l7 l8 l9 l10
     decide
    ·clear HC bJ kP ax ha ae hf;revert hall au;revert l5 l6 l7 l8 l9 l10
     decide +kernel
    intro i hi;have hcase:(i=8/\l5=false)\/(i=9/\l6=false/\l5=true)\/(i=10/\l7=false/\l6=true)\/(i=11/\l8=false/\l6=true)\/(i=12/\l9=false)\/(i=13/\l10=false/\l7=true/\l9=true):=by
     refine of_decide_eq_true ((List.all_eq_true (p:=fun i=>decide ((i=8/\l5=false)\/(i=9/\l6=false/\l5=true)\/(i=10/\l7=false/\l6=true)\/(i=11/\l8=false/\l6=true)\/(i=12/\l9=false)\/(i=13/\l10=false/\l7=true/\l9=true)))).1 ?_ i hi);clear HC bJ kP ax ha ae hf hi;revert hall au;revert l5 l6 l7 l8 l9 l10
     decide +kernel
    clear hi hall;subst ha hA;rcases hcase with⟨rfl,rfl⟩|⟨rfl,rfl,rfl⟩|⟨rfl,rfl,rfl⟩|⟨rfl,rfl,rfl⟩|⟨rfl,rfl⟩|⟨rfl,rfl,rfl,rfl⟩
    ·refine wpOp_step rfl (fun K' aG=>?_);have hK:=zh aG;clear aG;obtain rfl:l6=false:=by
      rcases l6 with _|_
      ·rfl
      ·exact absurd (au.1 rfl) (by decide)
     obtain rfl:l7=false:=by
      rcases l7 with _|_
      ·rfl
      ·exact absurd (au.2.1 rfl) (by decide)
     obtain rfl:l8=false:=by
      rcases l8 with _|_
      ·rfl
      ·exact absurd (au.2.2.1 rfl) (by decide)
     obtain rfl:l10=false:=by
      rcases l10 with _|_
      ·rfl
      ·exact absurd (au.2.2.2 rfl).1 (by decide)
     have had:Calls Tryz.prog 26 [.agg #[.slice Ax x.cells.length cx,.slice Bx x.tin.length dx,.slice Dx x.tout.length ex],.slice Aj E.length cj].toArray wx fun e W'=>∃ u,e=.returned u/\(∃ (Ay By Dy:Option Addr) (cy dy ey:Nat),u=.tuple #[.agg #[.slice Ay y.cells.length cy,.slice By y.tin.length dy,.slice Dy y.tout.length ey],.int .i64 er]/\OwnS W' wr.heap.size y (.agg #[.slice Ay y.cells.length cy,.slice By y.tin.length dy,.slice Dy y.tout.length ey])/\Below wx.heap.size wx W') :=
      (dE.out wx ae.out).mono fun e W' ⟨v,h1,h2,h3⟩=>by
       rw[HST.out] at h1 h3;obtain⟨Ay,cy,By,dy,Dy,ey,rfl⟩:=h3.slices;exact⟨_,h1,Ay,By,Dy,cy,dy,ey,rfl,h3.mono ae.out.size,h2⟩
     refine zkg (by rfl) (.func 26) [.tmp 22,.tmp 26] _ (by rfl) 26 _ zn8 (by rfl) _ (by rfl) _ had ?_;rintro v w' ⟨xI,xH,xG,xA,xz,xy,rfl,ho,hb⟩;exact hK.out _ _ ⟨true,false,false,false,l9,false,_,v56,v63,v64,v12,xI,xH,xG,xA,xz,xy,bq,(by subst hf;simp only[Bool.not_false,Bool.not_true,Bool.toNat_true,Bool.toNat_false];omega),rfl,(by simp only[zQ]),zh (zka ae.out hb),zh ⟨fun h=>(by cases h),fun h=>(by cases h),fun h=>(by cases h),fun h=>(by cases h)⟩,zh ⟨fun _=>rfl,fun h=>(by cases h),fun h=>(by cases h),fun h=>(by cases h),bJ.out.2.2.2.2⟩,zh fun _=>ho,zh fun h9=>by
      obtain⟨g1,g2,-⟩:=ax.out h9;exact⟨g1,fun _=>zkc (g2 rfl) hb,fun h=>(by cases h)⟩⟩
    ·refine wpOp_step rfl (fun K' aG=>?_);have hK:=zh aG;clear aG;obtain rfl:=bJ.out.1 rfl;(try simp only[zQ]);go_simp;exact hK.out _ _ ⟨true,true,l7,l8,l9,l10,_,_,v63,v64,v12,Ay,By,Dy,cy,dy,ey,bq,(by subst hf;simp only[Bool.not_false,Bool.not_true,Bool.toNat_true,Bool.toNat_false];omega),rfl,(by simp only[Act.put,zD,zE,zF]),ae,zh ⟨fun _=>rfl,fun _=>rfl,fun _=>rfl,au.2.2.2⟩,zh ⟨fun _=>rfl,fun _=>rfl,bJ.out.2.2⟩,kP,ax⟩
    ·refine wpOp_step rfl (fun K' aG=>?_);have hK:=zh aG;clear aG;obtain rfl:=bJ.out.2.1 rfl;(try simp only[zQ]);go_simp;exact hK.out _ _ ⟨l5,true,true,l8,l9,l10,_,_,_,v64,v12,Ay,By,Dy,cy,dy,ey,bq,(by subst hf;simp only[Bool.not_false,Bool.not_true,Bool.toNat_true,Bool.toNat_false];omega),rfl,(by simp only[Act.put,zD,zE,zF]),ae,zh ⟨au.1,fun _=>rfl,fun _=>rfl,fun h=>⟨rfl,(au.2.2.2 h).2⟩⟩,zh ⟨bJ.out.1,fun _=>rfl,fun _=>rfl,bJ.out.2.2.2⟩,kP,ax⟩
    ·refine wpOp_step rfl (fun K' aG=>?_);have hK:=zh aG;clear aG;obtain rfl:=bJ.out.2.1 rfl;(try simp only[zQ]);go_simp;exact hK.out _ _ ⟨l5,true,l7,true,l9,l10,_,_,_,_,v12,Ay,By,Dy,cy,dy,ey,bq,(by subst hf;simp only[Bool.not_false,Bool.not_true,Bool.toNat_true,Bool.toNat_false];omega),rfl,(by simp only[Act.put,zD,zE,zF]),ae,zh ⟨au.1,fun _=>rfl,fun _=>rfl,au.2.2.2⟩,zh ⟨bJ.out.1,fun _=>rfl,bJ.out.2.2.1,fun _=>rfl,bJ.out.2.2.2.2⟩,kP,ax⟩
    ·refine wpOp_step rfl (fun K' aG=>?_);have hK:=zh aG;clear aG;obtain rfl:l10=false:=by
      rcases l10 with _|_
      ·rfl
      ·exact absurd (au.2.2.2 rfl).2 (by decide)
     (try simp only[zQ]);go_simp;exact hK.out _ _ ⟨l5,l6,l7,l8,true,false,v62,v56,v63,v64,_,Ay,By,Dy,cy,dy,ey,wx.heap.size,(by subst hf;simp only[Bool.not_false,Bool.not_true,Bool.toNat_true,Bool.toNat_false];omega),rfl,(by simp only[Act.put,zD,zE,zF]),zh (zkd ae.out _),zh ⟨au.1,au.2.1,au.2.2.1,fun h=>(by cases h)⟩,zh ⟨bJ.out.1,bJ.out.2.1,bJ.out.2.2.1,bJ.out.2.2.2.1,fun _=>rfl⟩,zh (fun h=>(kP.out h).later (zkd (Below.refl _ _) _)),zh fun _=>⟨ae.out.size,fun _=>heap_alloc_new wx _,fun h=>(by cases h)⟩⟩
    ·refine wpOp_step rfl (fun K' aG=>?_);have hK:=zh aG;clear aG;have h6:=au.2.1 rfl;have h5:=au.1 h6;subst h6 h5;obtain rfl:=bJ.out.2.2.1 rfl;obtain rfl:=bJ.out.2.2.2.2 rfl;have ho:=kP.out (Eq.refl true);have nY:=ax.out (Eq.refl true);have g1:=nY.1;have hbx:=nY.2.1 (Eq.refl false);clear nY;have q0:wx.cell? ⟨bq,0,none⟩=some (.slice none 0 0):=zc hbx rfl;have q1:wx.cell? ⟨bq,1,none⟩=some (.slice none 0 0):=zc hbx rfl;have q2:wx.cell? ⟨bq,2,none⟩=some (.slice none 0 0):=zc hbx rfl;have cf:∀ o,wx.frozen? ⟨bq,o,none⟩=false:=fun o=>zf hbx;(try simp only[zQ]);go_simp;have hch:Chg (fun q=>q=bq) wx (((wx.setCell ⟨bq,0,none⟩ (.slice Ay y.cells.length cy)).setCell ⟨bq,1,none⟩ (.slice By y.tin.length dy)).setCell ⟨bq,2,none⟩ (.slice Dy y.tout.length ey)) :=
      (((Chg.refl (fun q=>q=bq) wx).setCell (p:=⟨bq,0,none⟩) (.inl rfl) _).setCell (p:=⟨bq,1,none⟩) (.inl rfl) _).setCell (p:=⟨bq,2,none⟩) (.inl rfl) _
     have hh:=heap_setCell_same _ bq 2 _ _ (.slice Dy y.tout.length ey) (heap_setCell_same _ bq 1 _ _ (.slice By y.tin.length dy) (heap_setCell_same wx bq 0 _ _ (.slice Ay y.cells.length cy) hbx));have xw:=ho.chgV hch hbx;exact hK.out _ _ ⟨true,true,true,l8,true,true,_,_,_,v64,_,Ay,By,Dy,cy,dy,ey,bq,(by subst hf;simp only[Bool.not_false,Bool.not_true,Bool.toNat_true,Bool.toNat_false];omega),rfl,(by simp only[Act.put,zD,zE,zF]),zh (ae.out.trans (hch.below ae.out.size fun q e=>by omega)),zh ⟨fun _=>rfl,fun _=>rfl,fun _=>rfl,fun _=>⟨rfl,rfl⟩⟩,bJ,zh (fun _=>xw),zh fun _=>⟨g1,fun h=>(by cases h),fun _=>(by simpa using hh)⟩⟩
  ·obtain rfl:j=es.length:=by omega
   have hj1:¬ (es.length:Int)<(es.length:Int):=by omega
   have hok:=tX.out;rw[List.take_length] at hok;have xg:=zh hok;clear hok;go_wp2_with fail;go_ret2;exact⟨aR.out,.inl ⟨xg.out,_,rfl,xu.out⟩⟩
structure RsP (W:World) (n0:Nat) (x:SS) (es:List (List CH)) (A0:Option Addr) (c0 pos bn bf be:Nat) (A B D:Option Addr) (c d e:Nat):Prop where
 now:W.heap[bn]?=some (.cells #[.slice A x.cells.length c,.slice B x.tin.length d,.slice D x.tout.length e] 26 (0,0))
 first:W.heap[bf]?=some (.cells #[.int .i64 pos] 3 (0,0))
 ev:W.heap[be]?=some (.cells #[.slice A0 es.length c0] 45 (0,0))
 sv:SV W (fun q=>n0<=q) x (.agg #[.slice A x.cells.length c,.slice B x.tin.length d,.slice D x.tout.length e])
 ge:n0<=bn/\n0<=bf/\n0<=be
theorem zwD:IsFn Tryz.prog 79 Tryz.f79:=⟨Tryz.func79,by kernel_rfl,by kernel_rfl⟩
theorem zwJ {W:World} {b:Nat} {a0:Value} {ty:TypeId} (v0:Value) (h:W.heap[b]?=some (.cells #[a0] ty (0,0))) :
  ∃ W',W.setCell ⟨b,0,none⟩ v0=W'/\Chg (fun q=>q=b) W W'/\W'.heap[b]?=some (.cells #[v0] ty (0,0)):=by
 have hch:Chg (fun q=>q=b) W (W.setCell ⟨b,0,none⟩ v0):=(Chg.refl (fun q=>q=b) W).setCell (p:=⟨b,0,none⟩) (.inl rfl) _;have hh:=heap_setCell_same W b 0 _ _ v0 h;exact⟨_,rfl,hch,by simpa using hh⟩
theorem zwK {W:World} {n0 b:Nat} {s0 x:SS} {es:List (List CH)} {pos:Nat} (h:Cu W n0 b s0 x es pos) {n:Nat} (hg:zmr n x) (hn:n<=1000) :
  Calls Tryz.prog 40 #[.pointer (some ⟨b,0,none⟩)] W (fun e W'=>Below W.heap.size W W'/\∃ A0 c0 bn bf be A B D c d e',e=.returned (.func (.func 84) #[] #[.pointer (some ⟨bn,0,none⟩),.pointer (some ⟨bf,0,none⟩),.pointer (some ⟨be,0,none⟩)])/\RsP W' W.heap.size x es A0 c0 pos bn bf be A B D c d e'/\RowE W (Cb n0 b) A0 es):=by
 obtain⟨⟨f1,f2,f3,g1,g2,g3,A0,c0,hbx,hf,hx,hr,hc⟩,hnb⟩:=h;obtain⟨Ax,cx,Bx,dx,Dx,ex,he1⟩:=hx.slices;injection he1 with he1;simp only[Array.mk.injEq,List.cons.injEq,and_true] at he1;obtain⟨rfl,rfl,rfl⟩:=he1;have y0:W.cell? ⟨b,3,none⟩=some (.slice Ax x.cells.length cx):=zc hbx rfl;have y1:W.cell? ⟨b,4,none⟩=some (.slice Bx x.tin.length dx):=zc hbx rfl;have y2:W.cell? ⟨b,5,none⟩=some (.slice Dx x.tout.length ex):=zc hbx rfl;have y6:W.cell? ⟨b,6,none⟩=some (.slice A0 es.length c0):=zc hbx rfl;have y7:W.cell? ⟨b,7,none⟩=some (.int .i64 pos):=zc hbx rfl;have mH:=zh (hg.sm (by omega)).lim;have aQ:=zh (fun w' (hb:Below W.heap.size W w')=>znj x _ w' ((hx.keep (S':=Any) (fun _ _ _=>trivial) fun _ _ _=>rfl).later hb) (by rw[hg.n];omega));have HR:=zh hr;clear hbx hf hx hr hc hg hn;go_enter Tryz.func40,Tryz.ntmps40;go_upto_region 3 with fail
 have aB:=zh (show ∀ w',Below W.heap.size W w'->(fun w':World=>w'.cell? ⟨b,3,none⟩=some (.slice Ax x.cells.length cx)/\w'.cell? ⟨b,4,none⟩=some (.slice Bx x.tin.length dx)/\w'.cell? ⟨b,5,none⟩=some (.slice Dx x.tout.length ex)/\w'.cell? ⟨b,6,none⟩=some (.slice A0 es.length c0)/\w'.cell? ⟨b,7,none⟩=some (.int .i64 pos)) w' from fun w' h=>⟨zb h y0,zb h y1,zb h y2,zb h y6,zb h y7⟩);have hSS:(fun w':World=>w'.cell? ⟨b,3,none⟩=some (.slice Ax x.cells.length cx)/\w'.cell? ⟨b,4,none⟩=some (.slice Bx x.tin.length dx)/\w'.cell? ⟨b,5,none⟩=some (.slice Dx x.tout.length ex)/\w'.cell? ⟨b,6,none⟩=some (.slice A0 es.length c0)/\w'.cell? ⟨b,7,none⟩=some (.int .i64 pos)) W.drew/\(fun _:World=>True) W.drew:=⟨⟨y0,y1,y2,y6,y7⟩,trivial⟩
 refine wp_region_noPanic ?_;refine zke (fun w':World=>w'.cell? ⟨b,3,none⟩=some (.slice Ax x.cells.length cx)/\w'.cell? ⟨b,4,none⟩=some (.slice Bx x.tin.length dx)/\w'.cell? ⟨b,5,none⟩=some (.slice Dx x.tout.length ex)/\w'.cell? ⟨b,6,none⟩=some (.slice A0 es.length c0)/\w'.cell? ⟨b,7,none⟩=some (.int .i64 pos)) (fun _:World=>True) 16 (by kernel_rfl) ?_;refine zT 0 hSS ?_;(try simp only[zQ]);refine zT 1 hSS ?_;(try simp only[zQ]);refine zT 2 hSS ?_;(try simp only[zQ]);refine zT 3 hSS ?_;(try simp only[zQ]);refine zT 4 hSS ?_;(try simp only[zQ]);refine zT 5 hSS ?_;(try simp only[zQ]);refine zT 6 hSS ?_;(try simp only[zQ]);refine zT 7 hSS ?_;(try simp only[zQ]);refine zT 9 hSS ?_;(try simp only[zQ]);refine zT 10 hSS ?_;(try simp only[zQ]);refine zT 11 hSS ?_;(try simp only[zQ]);refine zT 12 hSS ?_;(try simp only[zQ]);clear hSS y0 y1 y2 y6 y7
 refine zm7 (fun A f l a wx=>∃ (l8 l3 l4 l5:Bool) (v16 v3 v4 v5:Value) (Ay By Dy:Option Addr) (cy dy ey bf bn be:Nat),f=(!l8).toNat+(!l3).toNat+(!l4).toNat+(!l5).toNat+3/\l = #[true,true,true,true,true,true,true,true,l8,true,true,true,true,l3,l4,l5,false,false,false] /\
  a=(((A.put (some 16) v16).put (some 3) v3).put (some 4) v4).put (some 5) v5/\Hid (Below W.heap.size W wx) /\
  Hid ((l8=true->v16=.agg #[.slice Ay x.cells.length cy,.slice By x.tin.length dy,.slice Dy x.tout.length ey])/\(l3=true->v3=.pointer (some ⟨bf,0,none⟩))/\(l4=true->v4=.pointer (some ⟨bn,0,none⟩))/\(l5=true->v5=.pointer (some ⟨be,0,none⟩))) /\
  Hid (l8=true->SV wx (fun q=>W.heap.size<=q/\(l3=true->q≠bf)/\(l4=true->q≠bn)/\(l5=true->q≠be)) x (.agg #[.slice Ay x.cells.length cy,.slice By x.tin.length dy,.slice Dy x.tout.length ey])) /\
  Hid ((l3=true->W.heap.size<=bf/\wx.heap[bf]?=some (.cells #[.int .i64 0] 3 (0,0)))/\(l4=true->W.heap.size<=bn/\wx.heap[bn]?=some (.cells #[.slice none 0 0,.slice none 0 0,.slice none 0 0] 26 (0,0)))/\(l5=true->W.heap.size<=be/\wx.heap[be]?=some (.cells #[.slice none 0 0] 45 (0,0))))) (fun A f l a wx h=>?_) ?_
  ⟨false,false,false,false,undef,undef,undef,undef,none,none,none,0,0,0,0,0,0,rfl,rfl,(by simp only[Act.put,zD,zE,zF]),zh (Below.refl _ _).drew,zh ⟨fun h=>(by cases h),fun h=>(by cases h),fun h=>(by cases h),fun h=>(by cases h)⟩,zh fun h=>(by cases h),zh ⟨fun h=>(by cases h),fun h=>(by cases h),fun h=>(by cases h)⟩⟩
 ·obtain⟨_,_,_,_,_,_,_,_,_,_,_,_,_,_,_,_,_,_,_,_,hb,_⟩:=h;exact⟨aB.out _ hb.out,trivial⟩
 rintro A' hA f l a wx ⟨l8,l3,l4,l5,v16,v3,v4,v5,Ay,By,Dy,cy,dy,ey,bf,bn,be,hf,rfl,ha,ae,bJ,kP,ax⟩;by_cases hall:(l8&&l3&&l4&&l5)=true
 ·left
  simp only[Bool.and_eq_true] at hall;obtain⟨⟨⟨rfl,rfl⟩,rfl⟩,rfl⟩:=hall;obtain⟨g16,g3,g4,g5⟩:=bJ.out;obtain rfl:=g16 rfl;obtain rfl:=g3 rfl;obtain rfl:=g4 rfl;obtain rfl:=g5 rfl;subst hf ha hA;have hov:=kP.out rfl;obtain⟨k1,k2,k3⟩:=ax.out;obtain⟨k11,k12⟩:=k1 rfl;obtain⟨k21,k22⟩:=k2 rfl;obtain⟨k31,zg⟩:=k3 rfl;have hne1:bn≠bf:=fun e=>by rw[e,k12] at k22;cases k22
  have hne2:be≠bf:=fun e=>by rw[e,k12] at zg;cases zg
  have yQ:be≠bn:=fun e=>by rw[e,k22] at zg;cases zg
  have cf1:∀ o,wx.frozen? ⟨bf,o,none⟩=false:=fun o=>zf k12;have d0:wx.cell? ⟨bf,0,none⟩=some (.int .i64 0):=zc k12 rfl;obtain⟨w1,hw1,hc1,hh1⟩:=zwJ (.int .i64 (pos:Int)) k12;have m22:=hc1.keep k22 hne1;have m32:=hc1.keep zg hne2;have cf2:∀ o,w1.frozen? ⟨bn,o,none⟩=false:=fun o=>zf m22;obtain⟨e0,e1,e2⟩:=zlp m22;obtain⟨w2,hw2,hc2,hh2⟩:=set3 (.slice Ay x.cells.length cy) (.slice By x.tin.length dy) (.slice Dy x.tout.length ey) m22;have n12:=hc2.keep hh1 (fun e=>hne1 e.symm);have n32:=hc2.keep m32 yQ;have cf3:∀ o,w2.frozen? ⟨be,o,none⟩=false:=fun o=>zf n32;have f0:w2.cell? ⟨be,0,none⟩=some (.slice none 0 0):=zc n32 rfl;obtain⟨w3,hw3,hc3,hh3⟩:=zwJ (.slice A0 es.length c0) n32;have o12:=hc3.keep n12 (fun e=>hne2 e.symm);have o22:=hc3.keep hh2 (fun e=>yQ e.symm);have hB:=ae.out;have hb1:=hB.trans (hc1.below hB.size fun q e=>by have e:q=bf:=e;omega)
  have hb2:=hb1.trans (hc2.below hb1.size fun q e=>by have e:q=bn:=e;omega);have hb3:=hb2.trans (hc3.below hb2.size fun q e=>by have e:q=be:=e;omega);have hs1:=aB.out _ hb1;have hs2:=aB.out _ hb2;have hs3:=aB.out _ hb3;have yw:SV w3 (fun q=>W.heap.size<=q) x (.agg #[.slice Ay x.cells.length cy,.slice By x.tin.length dy,.slice Dy x.tout.length ey]):=by
   refine hov.keep (fun q h _=>h.1) fun q h hlt=>?_;rw[hc3.block q (Nat.lt_of_lt_of_le hlt (Nat.le_trans hc1.size hc2.size)) (h.2.2.2 rfl),hc2.block q (Nat.lt_of_lt_of_le hlt hc1.size) (h.2.2.1 rfl),hc1.block q hlt (h.2.1 rfl)]
  have aV:=zh (show Below W.heap.size W w3/\RsP w3 W.heap.size x es A0 c0 pos bn bf be Ay By Dy cy dy ey from ⟨hb3,o22,o12,hh3,yw,k21,k11,k31⟩);clear g16 g3 g4 g5 hov k1 k2 k3 k11 k12 k21 k22 k31 zg ax kP bJ hne1 hne2 yQ m22 m32 n12 n32 o12 o22 hB hb1 hb2 hb3 yw hc1 hc2 hc3 hh1 hh2 hh3;refine zp 16 fun K hK=>?_;(try simp only[zQ]);go_simp
  try rw[hw1]
  refine hK.out _ _ hs1 ?_;clear hK K;(try simp only[zQ]);refine zp 17 fun K hK=>?_;(try simp only[zQ]);go_simp
  try rw[hw2]
  refine hK.out _ _ hs2 ?_;clear hK K;(try simp only[zQ]);refine zp 18 fun K hK=>?_;(try simp only[zQ]);go_simp
  try rw[hw3]
  refine hK.out _ _ hs3 ?_;clear hK K;(try simp only[zQ]);refine zd ?_;refine NoPanic.normal ?_;clear hs1 hs2 hs3 hw1 hw2 hw3 d0 e0 e1 e2 f0 cf1 cf2 cf3;go_wp2_with fail;go_ret;exact⟨aV.out.1,A0,c0,bn,bf,be,by simp[Act.eval,Act.put],⟨_,_,_,_,_,_,aV.out.2⟩,HR.out⟩
 ·right
  refine⟨f-1,?_,?_,?_⟩
  ·clear bJ kP ax ha ae;subst hf;revert hall;revert l8 l3 l4 l5
   decide
  ·clear bJ kP ax ha ae hf;revert hall;revert l8 l3 l4 l5
   decide +kernel
  intro i hi;have hcase:(i=8/\l8=false)\/(i=13/\l3=false)\/(i=14/\l4=false)\/(i=15/\l5=false):=by
   refine of_decide_eq_true ((List.all_eq_true (p:=fun i=>decide ((i=8/\l8=false)\/(i=13/\l3=false)\/(i=14/\l4=false)\/(i=15/\l5=false)))).1 ?_ i hi);clear bJ kP ax ha ae hf hi;revert hall;revert l8 l3 l4 l5
   decide +kernel
  clear hi hall;subst ha hA;have hV:=bJ.out;have hO:=kP.out;have hX:=ax.out;have yH:W.heap.size<=wx.heap.size:=ae.out.size;rcases hcase with⟨rfl,rfl⟩|⟨rfl,rfl⟩|⟨rfl,rfl⟩|⟨rfl,rfl⟩
  ·refine wpOp_step rfl (fun K' aG=>?_);have hK:=zh aG;clear aG;have had:Calls Tryz.prog 79 [.agg #[.slice Ax x.cells.length cx,.slice Bx x.tin.length dx,.slice Dx x.tout.length ex]].toArray wx fun e W'=>∃ u,e=.returned u/\(∃ (Ay By Dy:Option Addr) (cy dy ey:Nat),u=.agg #[.slice Ay x.cells.length cy,.slice By x.tin.length dy,.slice Dy x.tout.length ey]/\SV W' (fun q=>wx.heap.size<=q) x u/\Below wx.heap.size wx W') :=
    (aQ.out wx ae.out).mono fun e W' ⟨v,h1,h2,h3⟩=>by
     have h4:=h2.svR mH.out;obtain⟨Ay,cy,By,dy,Dy,ey,rfl⟩:=h4.slices;exact⟨_,h1,Ay,By,Dy,cy,dy,ey,rfl,h4,h3⟩
   refine zkg (by rfl) (.func 79) [.tmp 15] _ (by rfl) 79 _ zwD (by rfl) _ (by rfl) _ had ?_;rintro v w' ⟨xI,xH,xG,xA,xz,xy,rfl,ho,hb⟩;exact hK.out _ _ ⟨true,l3,l4,l5,_,v3,v4,v5,xI,xH,xG,xA,xz,xy,bf,bn,be,(by subst hf;simp only[Bool.not_false,Bool.not_true,Bool.toNat_true,Bool.toNat_false];omega),rfl,(by simp only[zQ]),zh (zka ae.out hb),zh ⟨fun _=>rfl,hV.2⟩,zh (fun _=>ho.keep (fun q h _=>⟨Nat.le_trans yH h,fun e he=>by have:=zko (hX.1 e).2;have h:wx.heap.size<=q:=h;omega,fun e he=>by have:=zko (hX.2.1 e).2;have h:wx.heap.size<=q:=h;omega,fun e he=>by have:=zko (hX.2.2 e).2;have h:wx.heap.size<=q:=h;omega⟩) fun _ _ _=>rfl),
    zh ⟨fun e=>⟨(hX.1 e).1,zkc (hX.1 e).2 hb⟩,fun e=>⟨(hX.2.1 e).1,zkc (hX.2.1 e).2 hb⟩,fun e=>⟨(hX.2.2 e).1,zkc (hX.2.2 e).2 hb⟩⟩⟩
  ·refine wpOp_step rfl (fun K' aG=>?_);have hK:=zh aG;clear aG;(try simp only[zQ]);go_simp;exact hK.out _ _ ⟨l8,true,l4,l5,v16,_,v4,v5,Ay,By,Dy,cy,dy,ey,wx.heap.size,bn,be,(by subst hf;simp only[Bool.not_false,Bool.not_true,Bool.toNat_true,Bool.toNat_false];omega),rfl,(by simp only[Act.put,zD,zE,zF]),zh (zkd ae.out _),zh ⟨hV.1,fun _=>rfl,hV.2.2⟩,zh (fun h=>(hO h).keep (fun q h hlt=>⟨h.1,fun _ he=>by omega,h.2.2⟩) fun q _ hlt=>(zkd (Below.refl wx.heap.size wx) _).block q hlt),
    zh ⟨fun _=>⟨yH,heap_alloc_new wx _⟩,fun e=>⟨(hX.2.1 e).1,zkr (hX.2.1 e).2 _⟩,fun e=>⟨(hX.2.2 e).1,zkr (hX.2.2 e).2 _⟩⟩⟩
  ·refine wpOp_step rfl (fun K' aG=>?_);have hK:=zh aG;clear aG;(try simp only[zQ]);go_simp;exact hK.out _ _ ⟨l8,l3,true,l5,v16,v3,_,v5,Ay,By,Dy,cy,dy,ey,bf,wx.heap.size,be,(by subst hf;simp only[Bool.not_false,Bool.not_true,Bool.toNat_true,Bool.toNat_false];omega),rfl,(by simp only[Act.put,zD,zE,zF]),zh (zkd ae.out _),zh ⟨hV.1,hV.2.1,fun _=>rfl,hV.2.2.2⟩,zh (fun h=>(hO h).keep (fun q h hlt=>⟨h.1,h.2.1,fun _ he=>by omega,h.2.2.2⟩) fun q _ hlt=>(zkd (Below.refl wx.heap.size wx) _).block q hlt),
    zh ⟨fun e=>⟨(hX.1 e).1,zkr (hX.1 e).2 _⟩,fun _=>⟨yH,heap_alloc_new wx _⟩,fun e=>⟨(hX.2.2 e).1,zkr (hX.2.2 e).2 _⟩⟩⟩
  ·refine wpOp_step rfl (fun K' aG=>?_);have hK:=zh aG;clear aG;(try simp only[zQ]);go_simp;exact hK.out _ _ ⟨l8,l3,l4,true,v16,v3,v4,_,Ay,By,Dy,cy,dy,ey,bf,bn,wx.heap.size,(by subst hf;simp only[Bool.not_false,Bool.not_true,Bool.toNat_true,Bool.toNat_false];omega),rfl,(by simp only[Act.put,zD,zE,zF]),zh (zkd ae.out _),zh ⟨hV.1,hV.2.1,hV.2.2.1,fun _=>rfl⟩,zh (fun h=>(hO h).keep (fun q h hlt=>⟨h.1,h.2.1,h.2.2.1,fun _ he=>by omega⟩) fun q _ hlt=>(zkd (Below.refl wx.heap.size wx) _).block q hlt),
    zh ⟨fun e=>⟨(hX.1 e).1,zkr (hX.1 e).2 _⟩,fun e=>⟨(hX.2.1 e).1,zkr (hX.2.1 e).2 _⟩,fun _=>⟨yH,heap_alloc_new wx _⟩⟩⟩
def zwq {α:Type} (Y:Nat->α->Value->Value->World->Prop) (n:Nat) (P:Program) (gf:FuncId) (lb:Array Value) (xs:List α) (R:Nat->Prop) (W:World):Prop :=
 ∀ (l:Nat) (J Jx:List α->(Nat->Prop)->World->Prop) (C:Nat->Prop) (W1:World),l<W1.heap.size->(∀ b,C b->¬ R b)->Chg C W W1 ->
  (∀ pre C W W',J pre C W->Chg (fun b=>¬ C b) W W'->J pre C W')->(∀ pre C W,J pre C W->∀ b,C b->b<W.heap.size) ->
  (∀ pre x C W pv v,J pre C W->(pre++[x]) <+: xs->Y l x pv v W ->
   YieldAt (Fw none) (n-1) P l #[pv,v] W fun e W' =>
    (e=.returned (.bool true)/\∃ C',J (pre++[x]) C' W'/\(∀ b,C' b->C b\/W.heap.size<=b)/\Chg C W W') \/
    (e=.returned (.bool false)/\∃ C',Jx (pre++[x]) C' W'/\Chg C W W')) ->
  J [] C W1 ->
  CallsIn (Fw none) n P gf (#[.func (.yield l) #[] #[]]++lb) W1 fun e W'=>(∃ v,e=.returned v)/\((∃ C',J xs C' W'/\Chg C W1 W')\/(∃ pre C',Jx pre C' W'/\Chg C W1 W'))
def zwL {α:Type} (k:Nat) (I Ix:List α->(Nat->Prop)->World->Prop) (pre:List α) (C:Nat->Prop) (W:World):Exit->Act->World->Prop
 | .normal,_,W'=>∃ C',I pre C' W'/\(∀ b,C' b->C b\/W.heap.size<=b)/\Chg C W W'
 | .exit j,_,W'=>j=k/\∃ C',Ix pre C' W'/\(∀ b,C' b->C b\/W.heap.size<=b)/\Chg C W W'
 | _,_,_=>False
theorem zwB {α:Type} {k:Nat} {Y:Nat->α->Value->Value->World->Prop} {n:Nat} {P:Program} {g:Operand} {ps:Array Tmp} {assign body:Code} {Q:Exit->Act->World->Prop} {a:Act} {w:World} {gf:FuncId} {lb:Array Value} {xs:List α} {R:Nat->Prop}
  (hg:a.eval g=.func (.func gf) #[] lb) (eg:∀ args w,(callFunc gf args).run P w=.ok (.enter gf args) w) (hseq:zwq Y (n-1) P gf lb xs R w) (hps:ps.size=2)
  (I Ix:List α->(Nat->Prop)->World->Prop) (C0:Nat->Prop) (hI:∀ pre C W W',I pre C W->Chg (fun b=>¬ C b) W W'->I pre C W') (hIx:∀ pre C W W',Ix pre C W->Chg (fun b=>¬ C b) W W'->Ix pre C W')
  (hIlt:∀ pre C W,I pre C W->∀ b,C b->b<W.heap.size) (hIxlt:∀ pre C W,Ix pre C W->∀ b,C b->b<W.heap.size) (hC:∀ b,C0 b->¬ R b) (hRlt:∀ b,R b->b<w.heap.size) (h0:I [] C0 w)
  (yx:∀ l pre x C W pv v,I pre C W->¬ C l->w.heap.size<=l->l<W.heap.size->(pre++[x]) <+: xs->Y l x pv v W ->
   assign.wpIn (Fw (some l)) (n-1-1) P (Exit.then (fun a1 W1=>Chg C W W1/\∀ W2,Chg (· = l) W1 W2->body.wpIn (Fw (some l)) (n-1-1) P (zwL k I Ix (pre++[x]) C W2) a1 W2) (fun _ _ _=>False))
    { tmps:=(ps.zip #[pv,v]).foldl (fun t (p,v)=>t.setIfInBounds p v) a.tmps,defers:=[] } W)
  (hdone:∀ D C W',w.heap.size<=D->I xs C W'->Chg C0 w W'->W'.heap[D]?=some (.deferred (some []))->Q .normal { a with defers:={ target:=.collected D,args := #[] }::a.defers } W')
  (hstop:∀ D pre C W',w.heap.size<=D->Ix pre C W'->Chg C0 w W'->W'.heap[D]?=some (.deferred (some []))->(Code.exit k).wpIn (Fw none) n P Q { a with defers:={ target:=.collected D,args := #[] }::a.defers } W') :
  (Code.rangeFunc g ps assign body).wpIn (Fw none) n P Q a w:=by
 refine wpIn_rangeFunc ?_;intro fn hfn;obtain⟨rec,hrec⟩:∃ rec:LoopState->Option Code->Loop,rec=fun st pe=>{ state:=st,pending:=pe,fn,tmps:=a.tmps,params:=ps,assign,body,defers:=w.heap.size }:=⟨_,rfl⟩
 obtain⟨W1,hW1⟩:∃ W1,(w.alloc (.deferred (some []))).alloc (.loop (rec .ready none))=W1:=⟨_,rfl⟩
 have hL1:W1.heap[w.heap.size+1]?=some (.loop (rec .ready none)):=by
  rw[<-hW1];have:=World.alloc_heap_new (w.alloc (.deferred (some []))) (.loop (rec .ready none));rwa[World.size_alloc] at this
 have hK1:W1.heap[w.heap.size]?=some (.deferred (some [])):=by
  rw[<-hW1];exact(Below.heap_alloc _ _ _ (by simp)).trans (World.alloc_heap_new w _)
 have hb1:Below w.heap.size w W1:=by rw[<-hW1];exact((Below.refl _ w).alloc (Nat.le_refl _) _).alloc (by simp) _
 have hI1:I [] C0 W1:=hI _ _ _ _ h0 (Chg.of_below hb1);have hC0lt:∀ b,C0 b->b<w.heap.size:=hIlt _ _ _ h0;refine⟨w.heap.size+1,[{ target:=.collected w.heap.size,args := #[] }],W1,{ target:=.fn (.func gf) lb,args := #[.func (.yield (w.heap.size+1)) #[] #[]] },W1,gf,
  #[.func (.yield (w.heap.size+1)) #[] #[]]++lb,W1,?_,?_,(fun _ _=>trivial),?_,(fun e=>by cases e),?_⟩
 ·rw[<-hW1,hrec];exact run_enterLoop_outer _ _ _ _ _
 ·simp only[resolve,hg];simp[go_sem]
 ·simp[invoke,go_sem,eg]
 ·refine(hseq (w.heap.size+1)
   (fun pre C' W=>∃ C,(∀ b,C' b↔C b\/b=w.heap.size+1\/b=w.heap.size)/\I pre C W/\¬ C (w.heap.size+1)/\¬ C w.heap.size/\(∀ b,C b->b<w.heap.size->C0 b)/\W.heap[w.heap.size+1]?=some (.loop (rec .ready none))/\W.heap[w.heap.size]?=some (.deferred (some [])))
   (fun pre C' W=>∃ C,Ix pre C W/\¬ C (w.heap.size+1)/\W.heap[w.heap.size+1]?=some (.loop (rec .done (some (.exit k))))/\W.heap[w.heap.size]?=some (.deferred (some [])))
   (fun b=>C0 b\/b=w.heap.size+1\/b=w.heap.size) W1 (Array.getElem?_eq_some_iff.1 hL1).1 ?_ (Chg.of_below hb1) ?_ ?_ ?_ ⟨C0,fun _=>Iff.rfl,hI1,(fun h=>by have:=hC0lt _ h;omega),(fun h=>by have:=hC0lt _ h;omega),(fun _ h _=>h),hL1,hK1⟩).mono ?_
  ·intro b hb hr;have:=hRlt b hr;rcases hb with hb|hb|hb
   ·exact hC b hb hr
   ·omega
   ·omega
  ·rintro pre C' W W' ⟨C,hC',hi,h1,h2,h3,hl,hk⟩ hch;refine⟨C,hC',hI _ _ _ _ hi (hch.mono fun b _ hb hc=>hb ((hC' b).2 (.inl hc))),h1,h2,h3,hch.keep hl (fun h=>h ((hC' _).2 (.inr (.inl rfl)))),hch.keep hk (fun h=>h ((hC' _).2 (.inr (.inr rfl))))⟩
  ·rintro pre C' W ⟨C,hC',hi,h1,h2,h3,hl,hk⟩ b hb;rcases(hC' b).1 hb with hb|rfl|rfl
   ·exact hIlt _ _ _ hi b hb
   ·exact(Array.getElem?_eq_some_iff.1 hl).1
   ·exact(Array.getElem?_eq_some_iff.1 hk).1
  ·rintro pre x C' W pv v ⟨C,hC',hi,h1,h2,h3,hl,hk⟩ hpre hpv;have hlt:w.heap.size+1<W.heap.size:=(Array.getElem?_eq_some_iff.1 hl).1;have hy:=run_yield (P:=P) (args := #[pv,v]) hl (by rw[hrec];exact hps.symm);rw[hrec] at hy;refine⟨fn,_,assign,body,hy,roundIn_of_wpIn hfn (wpIn_mono (yx (w.heap.size+1) pre x C W pv v hi h1 (by omega) hlt hpre hpv) ?_)⟩;rintro e a1 Wa xn
   cases e with
   | normal =>
    obtain⟨xS,hbody⟩:=xn;have hl1:=xS.keep hl h1;have hk1:=xS.keep hk h2;have hlt1:w.heap.size+1<Wa.heap.size:=(Array.getElem?_eq_some_iff.1 hl1).1;refine⟨_,run_beginRound hl1 (by rw[hrec]),?_⟩;have hl2:(Wa.putObj (w.heap.size+1) (.loop { rec .ready none with state:=.busy })).heap[w.heap.size+1]?=some (.loop { rec .ready none with state:=.busy }):=World.putObj_heap_same hlt1;have hk2:(Wa.putObj (w.heap.size+1) (.loop { rec .ready none with state:=.busy })).heap[w.heap.size]?=some (.deferred (some [])):=(World.putObj_heap_other (by omega)).trans hk1;have hc2:Chg (fun b=>C b\/b=w.heap.size+1) W (Wa.putObj (w.heap.size+1) (.loop { rec .ready none with state:=.busy })) :=
     (xS.mono fun _ _ h=>.inl h).trans2 (Chg.putObj Wa (w.heap.size+1) _) (fun b _ h=>.inr h)
    refine wpIn_mono (hbody _ (Chg.putObj _ _ _)) ?_;have fin:∀ (jump:Option Code) (W3:World),Chg C (Wa.putObj (w.heap.size+1) (.loop { rec .ready none with state:=.busy })) W3 ->
      (Instr.endRound (w.heap.size+1) jump).run P W3=.ok (.bool jump.isNone) (W3.putObj (w.heap.size+1) (.loop (rec (if jump.isNone then .ready else .done) jump))) /\
      (W3.putObj (w.heap.size+1) (.loop (rec (if jump.isNone then .ready else .done) jump))).heap[w.heap.size+1]?=some (.loop (rec (if jump.isNone then .ready else .done) jump)) /\
      (W3.putObj (w.heap.size+1) (.loop (rec (if jump.isNone then .ready else .done) jump))).heap[w.heap.size]?=some (.deferred (some [])) /\
      Chg C' W (W3.putObj (w.heap.size+1) (.loop (rec (if jump.isNone then .ready else .done) jump))):=fun jump W3 hk3=>by
     have hl3:=hk3.keep hl2 h1;have:=run_endRound (P:=P) jump hl3;rw[hrec] at this ⊢;refine⟨this,World.putObj_heap_same (Array.getElem?_eq_some_iff.1 hl3).1,(World.putObj_heap_other (by omega)).trans (hk3.keep hk2 h2),?_⟩;have hA:Chg (fun b=>C b\/b=w.heap.size+1) W W3:=by
      have:=hc2;rw[hrec] at this hk3;exact this.trans2 hk3 (fun b _ h=>.inl h)
     exact(hA.trans2 (Chg.putObj W3 (w.heap.size+1) _) (fun b _ h=>.inr h)).mono fun b _ hb=>(hC' b).2 (by rcases hb with hb|hb;exact .inl hb;exact .inr (.inl hb))
    rintro e3 a3 W3 hp;have hsz:W.heap.size<=(Wa.putObj (w.heap.size+1) (.loop { rec .ready none with state:=.busy })).heap.size:=hc2.size
    cases e3 with
    | normal =>
     obtain⟨C3,hi3,wZ,wG⟩:=hp;have xq:∀ b,C3 b->C b\/W.heap.size<=b:=fun b h=>(wZ b h).imp id fun h'=>Nat.le_trans hsz h';obtain⟨hr,hl4,hk4,nU⟩:=fin none W3 wG;have kY:¬ C3 (w.heap.size+1):=fun h=>by rcases xq _ h with h|h;exact h1 h;omega
     have xR:¬ C3 w.heap.size:=fun h=>by rcases xq _ h with h|h;exact h2 h;omega
     refine⟨_,_,hr,.inl ⟨rfl,fun b=>C3 b\/b=w.heap.size+1\/b=w.heap.size,⟨C3,fun _=>Iff.rfl,hI _ _ _ _ hi3 ((Chg.putObj _ _ _).mono fun b _ hb hc=>kY (hb▸hc)),kY,xR,?_,hl4,hk4⟩,?_,nU⟩⟩
     ·intro b hb hlt';rcases xq b hb with hb|hb
      ·exact h3 b hb hlt'
      ·omega
     ·intro b hb;rcases hb with hb|hb
      ·rcases xq b hb with hb|hb
       ·exact .inl ((hC' b).2 (.inl hb))
       ·exact .inr (by omega)
      ·exact .inl ((hC' b).2 (.inr hb))
    | exit jd =>
     obtain⟨rfl,C3,hi3,wZ,wG⟩:=hp;have xq:∀ b,C3 b->C b\/W.heap.size<=b:=fun b h=>(wZ b h).imp id fun h'=>Nat.le_trans hsz h';obtain⟨hr,hl4,hk4,nU⟩:=fin (some (.exit jd)) W3 wG;have kY:¬ C3 (w.heap.size+1):=fun h=>by rcases xq _ h with h|h;exact h1 h;omega
     exact⟨_,_,hr,.inr ⟨rfl,fun _=>True,⟨C3,hIx _ _ _ _ hi3 ((Chg.putObj _ _ _).mono fun b _ hb hc=>kY (hb▸hc)),kY,hl4,hk4⟩,nU⟩⟩
    | ret=>exact hp.elim
    | goto t=>exact hp.elim
    | panic ch=>exact hp.elim
    | outgrown=>exact hp.elim
   | exit id=>exact xn.elim
   | goto t=>exact xn.elim
   | ret=>exact xn.elim
   | panic ch=>exact xn.elim
   | outgrown=>exact xn.elim
  ·rintro e W2 ⟨⟨v,rfl⟩,(⟨C',⟨C,hC',hi,h1,h2,h3,hl,hk⟩,hch⟩|⟨pre,C',⟨C,hi,h1,hl,hk⟩,hch⟩)⟩
   all_goals
    have hw2:Chg C0 w W2:=((Chg.of_below hb1).trans2 hch fun b hb hc=>by rcases hc with hc|hc|hc;exact hc;omega;omega)
    have hfin:∀ o,Chg C0 w (W2.putObj (w.heap.size+1) o):=fun o=>hw2.trans2 (Chg.putObj W2 (w.heap.size+1) o) fun b hb hc=>by omega
   ·exact⟨none,_,by have:=run_endLoop (P:=P) hl (by rw[hrec];simp);rw[hrec] at this;exact this,hdone _ C _ (Nat.le_refl _) (hI _ _ _ _ hi ((Chg.putObj W2 (w.heap.size+1) _).mono fun b _ (hb:b=w.heap.size+1) hc=>h1 (hb▸hc))) (hfin _) ((World.putObj_heap_other (by omega)).trans hk)⟩
   ·exact⟨some (.exit k),_,by have:=run_endLoop (P:=P) hl (by rw[hrec];simp);rw[hrec] at this;exact this,hstop _ pre C _ (Nat.le_refl _) (hIx _ _ _ _ hi ((Chg.putObj W2 (w.heap.size+1) _).mono fun b _ (hb:b=w.heap.size+1) hc=>h1 (hb▸hc))) (hfin _) ((World.putObj_heap_other (by omega)).trans hk)⟩
theorem zwC {α:Type} {k:Nat} {Y:Nat->α->Value->Value->World->Prop} {n:Nat} {P:Program} {g:Operand} {ps:Array Tmp} {assign body:Code} {Q:Exit->Act->World->Prop} {a:Act} {w:World} {gf:FuncId} {lb:Array Value} {xs:List α} {R:Nat->Prop}
  (hg:a.eval g=.func (.func gf) #[] lb) (eg:∀ args w,(callFunc gf args).run P w=.ok (.enter gf args) w) (hseq:zwq Y (n-1) P gf lb xs R w) (hps:ps.size=2)
  (I Ix:List α->(Nat->Prop)->World->Prop) (C0:Nat->Prop) (hI:∀ pre C W W',I pre C W->Chg (fun b=>¬ C b) W W'->I pre C W') (hIx:∀ pre C W W',Ix pre C W->Chg (fun b=>¬ C b) W W'->Ix pre C W')
  (hIlt:∀ pre C W,I pre C W->∀ b,C b->b<W.heap.size) (hIxlt:∀ pre C W,Ix pre C W->∀ b,C b->b<W.heap.size) (hC:∀ b,C0 b->¬ R b) (hRlt:∀ b,R b->b<w.heap.size) (h0:I [] C0 w)
  (yx:∀ l pre x C W pv v,I pre C W->¬ C l->w.heap.size<=l->l<W.heap.size->(pre++[x]) <+: xs->Y l x pv v W ->
   assign.wpIn (Fw (some l)) (n-1-1) P (Exit.then (fun a1 W1=>Chg C W W1/\∀ W2,Chg (· = l) W1 W2->body.wpIn (Fw (some l)) (n-1-1) P (zwL k I Ix (pre++[x]) C W2) a1 W2) (fun _ _ _=>False))
    { tmps:=(ps.zip #[pv,v]).foldl (fun t (p,v)=>t.setIfInBounds p v) a.tmps,defers:=[] } W)
  (hQ:∀ a w,Q .normal a w->Q (.exit k) a w)
  (hend:∀ D pre C W',w.heap.size<=D->(pre=xs/\I pre C W'\/Ix pre C W')->Chg C0 w W'->W'.heap[D]?=some (.deferred (some []))->Q .normal { a with defers:={ target:=.collected D,args := #[] }::a.defers } W') :
  (Code.rangeFunc g ps assign body).wpIn (Fw none) n P Q a w :=
 zwB hg eg hseq hps I Ix C0 hI hIx hIlt hIxlt hC hRlt h0 yx (fun D C W' h1 h2 h3 h4=>hend D xs C W' h1 (.inl ⟨rfl,h2⟩) h3 h4)
  (fun D pre C W' h1 h2 h3 h4=>wpIn_exit (hQ _ _ (hend D pre C W' h1 (.inr h2) h3 h4)))
attribute [local go_sem] Oper.semAt_some
def YR (s:SS) (es:List (List CH)) (l:Nat) (k:Nat) (pv v:Value) (W:World):Prop:=pv=.int .i64 k/\∃ A c B d D e,v=.agg #[.slice A (cur s es k).cells.length c,.slice B (cur s es k).tin.length d,.slice D (cur s es k).tout.length e]/\SV W (fun q=>q≠l) (cur s es k) v
theorem zwz (n:Nat) (hn:1<=n) {m:Nat} {s:SS} {es:List (List CH)} (ha:AllX m s es) (pos:Nat) (hpos:pos<=es.length) {n0:Nat} {A0:Option Addr} {c0 bn bf be:Nat} {A B D:Option Addr} {c d e:Nat} (R:Nat->Prop) (W:World)
  (hr:RsP W n0 (cur s es pos) es A0 c0 pos bn bf be A B D c d e) (hR:R bn/\R bf/\R be) (hsv:SV W R (cur s es pos) (.agg #[.slice A (cur s es pos).cells.length c,.slice B (cur s es pos).tin.length d,.slice D (cur s es pos).tout.length e])) (he:RowE W R A0 es) :
  zwq (YR s es) n Tryz.prog 84 #[.pointer (some ⟨bn,0,none⟩),.pointer (some ⟨bf,0,none⟩),.pointer (some ⟨be,0,none⟩)] (List.range' pos (es.length+1-pos)) R W:=by
 intro lp J Jx C W1 hl0 xV hch hJ yY hY h0;obtain⟨hbn,hbf,hbe,-,-⟩:=hr;have HA:=zh ha;have HN:=zh ha.n;have dP:=zh ha.es;have zm:=zh hpos;have pY:=zh hbe;have oO:=zh hR;have HE:=zh he;have HCR:=zh xV;have aJ:=zh hch;have HJ:=zh hJ;have qM:=zh yY;have HY:=zh hY;have HL0:=zh hl0;obtain⟨L,hL⟩:∃ L,List.range' pos (es.length+1-pos)=L:=⟨_,rfl⟩
 have HL:=zh hL;rw[hL] at hY ⊢;have yV:=hch.keep hbn fun h=>xV _ h hR.1;have hbf1:=hch.keep hbf fun h=>xV _ h hR.2.1;obtain⟨x0,hx0⟩:∃ x,cur s es pos=x:=⟨_,rfl⟩
 have HX0:=zh hx0;rw[hx0] at yV hsv;obtain⟨y0,y1,y2⟩:=zlp yV;have y3:W1.cell? ⟨bf,0,none⟩=some (.int .i64 pos):=zc hbf1 rfl;have hxv1:SV W1 (fun q=>¬ C q/\q<W.heap.size) x0 (.agg #[.slice A x0.cells.length c,.slice B x0.tin.length d,.slice D x0.tout.length e]):=hsv.keep (fun q h hlt=>⟨fun hc=>xV q hc h,hlt⟩) fun q h hlt=>hch.block q hlt fun hc=>xV q hc h;have k2:=heap_alloc_new W1 (.cells #[.slice A x0.cells.length c,.slice B x0.tin.length d,.slice D x0.tout.length e] 26);have hb2:=zkd (Below.refl W1.heap.size W1) (.cells #[.slice A x0.cells.length c,.slice B x0.tin.length d,.slice D x0.tout.length e] 26);have dm:∀ q,C q->q<W1.heap.size:=yY _ _ _ h0;have H0:=zh (hJ _ _ _ _ h0 (Chg.of_below hb2));obtain⟨w2,hw2⟩:∃ q,W1.alloc (.cells #[.slice A x0.cells.length c,.slice B x0.tin.length d,.slice D x0.tout.length e] 26)=q:=⟨_,rfl⟩
 obtain⟨sb,hsb⟩:∃ q,W1.heap.size=q:=⟨_,rfl⟩
 rw[hw2] at k2 hb2 H0
 replace y3:=zb hb2 y3
 rw[hsb] at k2;have HXV2:=zh ((hxv1.later hb2).keep (S':=fun q=>¬ C q/\q≠sb) (fun q h _=>⟨h.1,by have:=h.2;have:=hch.size;omega⟩) fun _ _ _=>rfl);have iK:=zh hsb;have bG:=zh k2;have HB2:=zh hb2;have iU:=zh dm;clear ha hpos hbe hR he xV hch hJ yY hY yV hbf1 hsv hxv1 k2 hb2 dm hL hx0 hbn hbf h0;refine callsIn_of_wp Tryz.func84 rfl trivial ?_ rfl;simp only[Tryz.ntmps84,List.size_toArray,List.length_cons,List.length_nil,Nat.reduceAdd,Nat.reduceSub,Array.replicate_succ,Array.replicate_zero,List.push_toArray,List.append_toArray,List.nil_append,List.cons_append]
 gi_wp2
 gi_loopw [6] (fun kv wr=>∃ j:Nat,j<es.length+1-pos/\kv=.int .i64 ((pos+j:Nat):Int)/\∃ (C':Nat->Prop) (Ax Bx Dx:Option Addr) (cx dx ex:Nat),Hid (J (L.take j) C' wr/\Chg C W1 wr/\∀ q,C' q->C q\/W1.heap.size<=q)/\Hid (¬ C' sb)/\Hid (wr.heap[sb]?=some (.cells #[.slice Ax (cur s es (pos+j)).cells.length cx,.slice Bx (cur s es (pos+j)).tin.length dx,.slice Dx (cur s es (pos+j)).tout.length ex] 26 (0,0)))/\Hid (SV wr (fun q=>¬ C' q/\q≠sb) (cur s es (pos+j)) (.agg #[.slice Ax (cur s es (pos+j)).cells.length cx,.slice Bx (cur s es (pos+j)).tin.length dx,.slice Dx (cur s es (pos+j)).tout.length ex]))) (fun kv _=>es.length+1-(intOf kv).toNat)
 case atStart =>
  refine⟨0,by have:=zm.out;omega,rfl,C,A,B,D,c,d,e,zh ⟨H0.out,Chg.of_below HB2.out,fun q h=>.inl h⟩,zh fun h=>by have:=iU.out _ h;have:=iK.out;omega,zh ?_,zh ?_⟩
  ·rw[Nat.add_zero,HX0.out];exact bG.out
  ·rw[Nat.add_zero,HX0.out];exact HXV2.out
 case round =>
  clear H0 bG HXV2 HB2 y0 y1 y2 y3 hw2;obtain⟨j,hj,rfl,C',Ax,Bx,Dx,cx,dx,ex,HK,vM,HXB,eZ⟩:=hrel;have hLl:L.length=es.length+1-pos:=by rw[<-HL.out];simp
  have htk:L.take j++[pos+j]=L.take (j+1):=by
   rw[List.take_succ_eq_append_getElem (by omega)];congr 2;have hL:=HL.out;subst hL;simp[List.getElem_range']
  obtain⟨k,hk⟩:∃ k,pos+j=k:=⟨_,rfl⟩
  rw[hk] at htk HXB eZ ⊢;have hkl:k<=es.length:=by omega
  have hgx:=HA.out.good k;obtain⟨x,hx⟩:∃ x,cur s es k=x:=⟨_,rfl⟩
  have HX:=zh hx;rw[hx] at HXB eZ hgx;have zl:=zh hgx;have lN:=zh htk;have HKK:=zh (show pos+j=k/\j<es.length+1-pos/\k<=es.length from ⟨hk,hj,hkl⟩);obtain⟨x0,x1,x2⟩:=zlp HXB.out;have aQ:=zh (znj x _ wr (eZ.out.keep (S':=Any) (fun _ _ _=>trivial) fun _ _ _=>rfl) (by rw[hgx.n];have:=HN.out;omega));have hkl2:(k:Int)<=(es.length:Int):=by omega
  clear htk hx hgx hk hj hLl
  gi_wp2
  refine⟨trivial,callsIn_wide.2 ?_⟩;refine aQ.out.mono ?_;rintro e7 w7 ⟨v7,rfl,iX,bH⟩;have hs7:=(iX.svR (zl.out.sm (by have:=HN.out;omega)).lim).keep (S':=fun q=>q≠lp) (fun q h _=>by have h:wr.heap.size<=q:=h;have h1:=HK.out.2.1.size;have h2:=HL0.out;omega) fun _ _ _=>rfl;obtain⟨A7,c7,B7,d7,D7,e7,rfl⟩:=hs7.slices;have gL:=zh bH;have hx7:YR s es lp k (.int .i64 k) (.agg #[.slice A7 x.cells.length c7,.slice B7 x.tin.length d7,.slice D7 x.tout.length e7]) w7:=⟨rfl,A7,c7,B7,d7,D7,e7,by rw[HX.out],by rw[HX.out];exact hs7⟩
  obtain⟨fn,tmps,assign,body,hy,tC⟩:=HY.out (L.take j) k C' w7 (.int .i64 k) _ (HJ.out _ _ _ _ HK.out.1 (Chg.of_below bH)) (by rw[HL.out,lN.out];exact List.take_prefix _ _) hx7;have kN:=zh tC;clear x0 x1 x2 aQ bH iX hs7 hx7 tC
  gi_wp2
  refine kN.out.mono ?_;rintro e3 W3 (⟨rfl,C3,wY,hc3,wG⟩|⟨rfl,C3,wY,wG⟩)
  ·have hwl:=gL.out.size;have hsl:=zko HXB.out;have jE:Chg C W1 w7:=HK.out.2.1.trans2 (Chg.of_below gL.out) fun _ _ h=>h;have yM:Chg C W1 W3:=jE.trans2 wG fun q hq h=>(HK.out.2.2 q h).elim id fun h=>by omega
   have kY:¬ C3 sb:=fun h=>(hc3 _ h).elim vM.out fun h=>by omega
   have fZ:=wG.keep (zkc HXB.out gL.out) vM.out;have yw:SV W3 (fun q=>¬ C3 q/\q≠sb) x (.agg #[.slice Ax x.cells.length cx,.slice Bx x.tin.length dx,.slice Dx x.tout.length ex]):=(eZ.out.later gL.out).keep (fun q h hlt=>⟨fun h3=>(hc3 _ h3).elim h.1 fun h=>by omega,h.2⟩) fun q h hlt=>wG.block q hlt h.1;have yL:Chg C W W3:=aJ.out.trans2 yM fun _ _ h=>h;have yX:=yL.keep pY.out fun h=>HCR.out _ h oO.out.2.2;have y5:W3.cell? ⟨be,0,none⟩=some (.slice A0 es.length c0):=zc yX rfl;have xP:=zh (show J (L.take (j+1)) C3 W3/\Chg C W1 W3/\∀ q,C3 q->C q\/W1.heap.size<=q from ⟨by rw[<-lN.out];exact wY,yM,fun q h=>(hc3 q h).elim (HK.out.2.2 q) fun h=>.inr (by have:=jE.size;omega)⟩);have HCL3:=zh (qM.out _ _ _ wY);have bK:=zh kY;have yZ:=zh fZ;have HSV3:=zh yw;have HSL:=zh hsl;by_cases hlt:k<es.length
   ·have hj1:(k:Int)<(es.length:Int):=by omega
    have hj0:(0:Int)<=(k:Int):=by omega
    have iC:IntKind.i64.wrap ((k:Int)+1)=(k:Int)+1:=IntWalk.i64_in _ (by have:=dP.out.1;omega);obtain⟨a,Aj,cj,rfl,-,hce,hcl,hrc⟩:=(HE.out.keep (S':=Any) (fun _ _ _=>trivial) fun q hq hlt=>yL.block q hlt fun h=>HCR.out _ h hq) k hlt;obtain⟨hci,fU⟩:=dP.out.2 _ (List.getElem_mem hlt);have hst:=HA.out.step hlt;have fD:=HA.out.good (k+1);obtain⟨E,hE⟩:∃ E,es[k]=E:=⟨_,rfl⟩
    obtain⟨y,xQ⟩:∃ y,cur s es (k+1)=y:=⟨_,rfl⟩
    obtain⟨er,her⟩:∃ er:Int,(0:Int)=er:=⟨_,rfl⟩
    rw[hE] at hce hcl hrc hci fU hst;rw[HX.out,xQ,her] at hst;rw[xQ] at fD;have HST:=zh hst;have zG:=zh her;have HYY:=zh xQ;have rJ:=zh (fD.sm (by have:=HN.out;omega)).lim;have dE:=zh (fun w' (hb:Below W3.heap.size W3 w')=>zmC x E _ Aj cj w' ((yw.keep (S':=Any) (fun _ _ _=>trivial) fun _ _ _=>rfl).later hb) (zl.out.sm (by have:=HN.out;omega)) (hrc.later hb) hci fU);obtain⟨x0,x1,x2⟩:=zlp fZ;clear hE hrc hci fU hcl hst fD her xQ hlt wY hc3 wG hwl hsl jE yM kY fZ yw yL yX hy
    gi_upto_region 4 with fail
    have hSS:(fun w':World=>w'.cell? ⟨sb,0,none⟩=some (.slice Ax x.cells.length cx)/\w'.cell? ⟨sb,1,none⟩=some (.slice Bx x.tin.length dx)/\w'.cell? ⟨sb,2,none⟩=some (.slice Dx x.tout.length ex)/\w'.cell? ⟨be,0,none⟩=some (.slice (some a) es.length c0)/\w'.cell? (a.add k)=some (.slice Aj E.length cj)) W3.drew/\(fun _:World=>True) W3.drew:=⟨⟨x0,x1,x2,y5,hce⟩,trivial⟩
    have aB:=zh (show ∀ w',Below W3.heap.size W3 w'->(fun w':World=>w'.cell? ⟨sb,0,none⟩=some (.slice Ax x.cells.length cx)/\w'.cell? ⟨sb,1,none⟩=some (.slice Bx x.tin.length dx)/\w'.cell? ⟨sb,2,none⟩=some (.slice Dx x.tout.length ex)/\w'.cell? ⟨be,0,none⟩=some (.slice (some a) es.length c0)/\w'.cell? (a.add k)=some (.slice Aj E.length cj)) w' from fun w' h=>⟨zb h x0,zb h x1,zb h x2,zb h y5,zb h hce⟩);refine(wpIn_wide (n:=n)).2 ?_;refine wp_region_noPanic ?_;refine zke (fun w':World=>w'.cell? ⟨sb,0,none⟩=some (.slice Ax x.cells.length cx)/\w'.cell? ⟨sb,1,none⟩=some (.slice Bx x.tin.length dx)/\w'.cell? ⟨sb,2,none⟩=some (.slice Dx x.tout.length ex)/\w'.cell? ⟨be,0,none⟩=some (.slice (some a) es.length c0)/\w'.cell? (a.add k)=some (.slice Aj E.length cj)) (fun _:World=>True) 11 (by kernel_rfl) ?_;refine zT 0 hSS ?_;(try simp only[zQ]);refine zT 1 hSS ?_;(try simp only[zQ])
    refine zT 2 hSS ?_;(try simp only[zQ]);refine zT 3 hSS ?_;(try simp only[zQ]);refine zT 4 hSS ?_;(try simp only[zQ]);clear hSS;refine zm7 (fun A f l a wx=>∃ (l5 l6 l7 l8 l9 l10:Bool) (v62 v56 v63 v64 v12:Value) (Ay By Dy:Option Addr) (cy dy ey bq:Nat),f=(!l5).toNat+(!l6).toNat+(!l7).toNat+(!l8).toNat+(!l9).toNat+(!l10).toNat+1/\l = #[true,true,true,true,true,l5,l6,l7,l8,l9,l10,false] /\
     a=((((A.put (some 30) v62).put (some 24) v56).put (some 31) v63).put (some 32) v64).put (some 7) v12/\Hid (Below W3.heap.size W3 wx)/\Hid ((l6=true->l5=true)/\(l7=true->l6=true)/\(l8=true->l6=true)/\(l10=true->l7=true/\l9=true)) /\
     Hid ((l5=true->v62=.tuple #[.agg #[.slice Ay y.cells.length cy,.slice By y.tin.length dy,.slice Dy y.tout.length ey],.int .i64 er])/\(l6=true->v56=.tuple #[.agg #[.slice Ay y.cells.length cy,.slice By y.tin.length dy,.slice Dy y.tout.length ey],.int .i64 er])/\(l7=true->v63=.agg #[.slice Ay y.cells.length cy,.slice By y.tin.length dy,.slice Dy y.tout.length ey])/\(l8=true->v64=.int .i64 er)/\(l9=true->v12=.pointer (some ⟨bq,0,none⟩)))/\Hid (l5=true->OwnS wx W3.heap.size y (.agg #[.slice Ay y.cells.length cy,.slice By y.tin.length dy,.slice Dy y.tout.length ey])) /\
     Hid (l9=true->W3.heap.size<=bq/\(l10=false->wx.heap[bq]?=some (.cells #[.slice none 0 0,.slice none 0 0,.slice none 0 0] 26 (0,0)))/\(l10=true->wx.heap[bq]?=some (.cells #[.slice Ay y.cells.length cy,.slice By y.tin.length dy,.slice Dy y.tout.length ey] 26 (0,0))))) (fun A f l a wx h=>?_) ?_
     ⟨false,false,false,false,false,false,u30,u24,u31,u32,u7,none,none,none,0,0,0,0,rfl,rfl,(by simp only[Act.put,zD,zE,zF]),zh (Below.refl _ _).drew,zh ⟨fun h=>(by cases h),fun h=>(by cases h),fun h=>(by cases h),fun h=>(by cases h)⟩,zh ⟨fun h=>(by cases h),fun h=>(by cases h),fun h=>(by cases h),fun h=>(by cases h),fun h=>(by cases h)⟩,zh fun h=>(by cases h),zh fun h=>(by cases h)⟩
    ·obtain⟨_,_,_,_,_,_,_,_,_,_,_,_,_,_,_,_,_,_,_,_,_,hb,_⟩:=h;exact⟨aB.out _ hb.out,trivial⟩
    rintro A' hA f l a wx ⟨l5,l6,l7,l8,l9,l10,v62,v56,v63,v64,v12,Ay,By,Dy,cy,dy,ey,bq,hf,rfl,ha,ae,HC,bJ,kP,ax⟩;by_cases hall:(l5&&l6&&l7&&l8&&l9&&l10)=true
    ·left
     simp only[Bool.and_eq_true] at hall;obtain⟨⟨⟨⟨⟨rfl,rfl⟩,rfl⟩,rfl⟩,rfl⟩,rfl⟩:=hall;obtain⟨wS,wT,wR,wQ,g12⟩:=bJ.out;obtain rfl:=wS rfl;obtain rfl:=wT rfl;obtain rfl:=wR rfl;obtain rfl:=wQ rfl;obtain rfl:=g12 rfl;subst hf ha hA;have xB:=zh (kP.out rfl);obtain⟨hb1,-,hb3⟩:=ax.out rfl;have hbx:=hb3 rfl;have bE:=zh hbx;have qP:=zh hb1;clear wS wT wR wQ g12 hb3 hbx hb1 ax kP bJ HC;refine zp 11 fun K hK=>?_;(try simp only[zQ]);go_simp;refine hK.out _ _ (aB.out _ ae.out) ?_;clear hK K;(try simp only[zQ]);refine zd ?_;refine NoPanic.normal ?_;obtain rfl:=zG.out;clear x0 x1 x2 y5 hce dE HST;obtain⟨z0,z1,z2⟩:=zlp bE.out;have hxk:=zkc yZ.out ae.out;obtain⟨x0,x1,x2⟩:=zlp hxk;have cf:∀ o,wx.frozen? ⟨sb,o,none⟩=false:=fun o=>zf hxk;obtain⟨w9,aZ,yC,hh9⟩:=set3 (.slice Ay y.cells.length cy) (.slice By y.tin.length dy) (.slice Dy y.tout.length ey) hxk
     have bQ:=zh yC;have gH:=zh hh9;have lM:=zh aZ;have xC:=zh (xB.out.svR rJ.out);clear hxk yC hh9 aZ
     gi_wp2
     try rw[lM.out]
     have h39:Chg (fun q=>q=sb) W3 w9:=(Chg.of_below ae.out).trans2 bQ.out fun _ _ h=>h;have hkj:pos+(j+1)=k+1:=by have:=HKK.out.1;omega
     refine⟨⟨j+1,by have:=HKK.out;omega,by rw[hkj];go_num,C3,Ay,By,Dy,cy,dy,ey,zh ⟨HJ.out _ _ _ _ xP.out.1 (h39.mono fun q _ hq hc=>bK.out (by have hq:q=sb:=hq;rwa[hq] at hc)),xP.out.2.1.trans2 h39 fun q hq h=>by have h:q=sb:=h;have:=iK.out;omega,xP.out.2.2⟩,bK,zh ?_,zh ?_⟩,?_⟩
     ·rw[hkj,HYY.out];exact gH.out
     ·rw[hkj,HYY.out];exact xC.out.keep (fun q h _=>by have h:W3.heap.size<=q:=h;have:=HSL.out;exact⟨fun h3=>by have:=HCL3.out q h3;omega,by have:=zko yZ.out;omega⟩) fun q h hlt=>bQ.out.block q hlt fun e=>by have e:q=sb:=e;have h:W3.heap.size<=q:=h;have:=zko yZ.out;omega
     ·have:=HKK.out;simp[intOf];omega
    ·right
     have au:=HC.out;refine⟨f-1,?_,?_,?_⟩
     ·clear HC au bJ kP ax ha ae;subst hf;revert hall;revert l5 l6 l7 l8 l9 l10
      decide
     ·clear HC bJ kP ax ha ae hf;revert hall au;revert l5 l6 l7 l8 l9 l10
      decide +kernel
     intro i hi;have hcase:(i=5/\l5=false)\/(i=6/\l6=false/\l5=true)\/(i=7/\l7=false/\l6=true)\/(i=8/\l8=false/\l6=true)\/(i=9/\l9=false)\/(i=10/\l10=false/\l7=true/\l9=true):=by
      refine of_decide_eq_true ((List.all_eq_true (p:=fun i=>decide ((i=5/\l5=false)\/(i=6/\l6=false/\l5=true)\/(i=7/\l7=false/\l6=true)\/(i=8/\l8=false/\l6=true)\/(i=9/\l9=false)\/(i=10/\l10=false/\l7=true/\l9=true)))).1 ?_ i hi);clear HC bJ kP ax ha ae hf hi;revert hall au;revert l5 l6 l7 l8 l9 l10
      decide +kernel
     clear hi hall;subst ha hA;rcases hcase with⟨rfl,rfl⟩|⟨rfl,rfl,rfl⟩|⟨rfl,rfl,rfl⟩|⟨rfl,rfl,rfl⟩|⟨rfl,rfl⟩|⟨rfl,rfl,rfl,rfl⟩
     ·refine wpOp_step rfl (fun K' aG=>?_);have hK:=zh aG;clear aG;obtain rfl:l6=false:=by
       rcases l6 with _|_
       ·rfl
       ·exact absurd (au.1 rfl) (by decide)
      obtain rfl:l7=false:=by
       rcases l7 with _|_
       ·rfl
       ·exact absurd (au.2.1 rfl) (by decide)
      obtain rfl:l8=false:=by
       rcases l8 with _|_
       ·rfl
       ·exact absurd (au.2.2.1 rfl) (by decide)
      obtain rfl:l10=false:=by
       rcases l10 with _|_
       ·rfl
       ·exact absurd (au.2.2.2 rfl).1 (by decide)
      have had:Calls Tryz.prog 26 [.agg #[.slice Ax x.cells.length cx,.slice Bx x.tin.length dx,.slice Dx x.tout.length ex],.slice Aj E.length cj].toArray wx fun e W'=>∃ u,e=.returned u/\(∃ (Ay By Dy:Option Addr) (cy dy ey:Nat),u=.tuple #[.agg #[.slice Ay y.cells.length cy,.slice By y.tin.length dy,.slice Dy y.tout.length ey],.int .i64 er]/\OwnS W' W3.heap.size y (.agg #[.slice Ay y.cells.length cy,.slice By y.tin.length dy,.slice Dy y.tout.length ey])/\Below wx.heap.size wx W') :=
       (dE.out wx ae.out).mono fun e W' ⟨v,h1,h2,h3⟩=>by
        rw[HST.out] at h1 h3;obtain⟨Ay,cy,By,dy,Dy,ey,rfl⟩:=h3.slices;exact⟨_,h1,Ay,By,Dy,cy,dy,ey,rfl,h3.mono ae.out.size,h2⟩
      refine zkg (by rfl) (.func 26) [.tmp 25,.tmp 29] _ (by rfl) 26 _ zn8 (by rfl) _ (by rfl) _ had ?_;rintro v w' ⟨xI,xH,xG,xA,xz,xy,rfl,ho,hb⟩;exact hK.out _ _ ⟨true,false,false,false,l9,false,_,v56,v63,v64,v12,xI,xH,xG,xA,xz,xy,bq,(by subst hf;simp only[Bool.not_false,Bool.not_true,Bool.toNat_true,Bool.toNat_false];omega),rfl,(by simp only[zQ]),zh (zka ae.out hb),zh ⟨fun h=>(by cases h),fun h=>(by cases h),fun h=>(by cases h),fun h=>(by cases h)⟩,zh ⟨fun _=>rfl,fun h=>(by cases h),fun h=>(by cases h),fun h=>(by cases h),bJ.out.2.2.2.2⟩,zh fun _=>ho,zh fun h9=>by
       obtain⟨g1,g2,-⟩:=ax.out h9;exact⟨g1,fun _=>zkc (g2 rfl) hb,fun h=>(by cases h)⟩⟩
     ·refine wpOp_step rfl (fun K' aG=>?_);have hK:=zh aG;clear aG;obtain rfl:=bJ.out.1 rfl;(try simp only[zQ]);go_simp;exact hK.out _ _ ⟨true,true,l7,l8,l9,l10,_,_,v63,v64,v12,Ay,By,Dy,cy,dy,ey,bq,(by subst hf;simp only[Bool.not_false,Bool.not_true,Bool.toNat_true,Bool.toNat_false];omega),rfl,(by simp only[Act.put,zD,zE,zF]),ae,zh ⟨fun _=>rfl,fun _=>rfl,fun _=>rfl,au.2.2.2⟩,zh ⟨fun _=>rfl,fun _=>rfl,bJ.out.2.2⟩,kP,ax⟩
     ·refine wpOp_step rfl (fun K' aG=>?_);have hK:=zh aG;clear aG;obtain rfl:=bJ.out.2.1 rfl;(try simp only[zQ]);go_simp;exact hK.out _ _ ⟨l5,true,true,l8,l9,l10,_,_,_,v64,v12,Ay,By,Dy,cy,dy,ey,bq,(by subst hf;simp only[Bool.not_false,Bool.not_true,Bool.toNat_true,Bool.toNat_false];omega),rfl,(by simp only[Act.put,zD,zE,zF]),ae,zh ⟨au.1,fun _=>rfl,fun _=>rfl,fun h=>⟨rfl,(au.2.2.2 h).2⟩⟩,zh ⟨bJ.out.1,fun _=>rfl,fun _=>rfl,bJ.out.2.2.2⟩,kP,ax⟩
     ·refine wpOp_step rfl (fun K' aG=>?_);have hK:=zh aG;clear aG;obtain rfl:=bJ.out.2.1 rfl;(try simp only[zQ]);go_simp;exact hK.out _ _ ⟨l5,true,l7,true,l9,l10,_,_,_,_,v12,Ay,By,Dy,cy,dy,ey,bq,(by subst hf;simp only[Bool.not_false,Bool.not_true,Bool.toNat_true,Bool.toNat_false];omega),rfl,(by simp only[Act.put,zD,zE,zF]),ae,zh ⟨au.1,fun _=>rfl,fun _=>rfl,au.2.2.2⟩,zh ⟨bJ.out.1,fun _=>rfl,bJ.out.2.2.1,fun _=>rfl,bJ.out.2.2.2.2⟩,kP,ax⟩
     ·refine wpOp_step rfl (fun K' aG=>?_);have hK:=zh aG;clear aG;obtain rfl:l10=false:=by
       rcases l10 with _|_
       ·rfl
       ·exact absurd (au.2.2.2 rfl).2 (by decide)
      (try simp only[zQ]);go_simp;exact hK.out _ _ ⟨l5,l6,l7,l8,true,false,v62,v56,v63,v64,_,Ay,By,Dy,cy,dy,ey,wx.heap.size,(by subst hf;simp only[Bool.not_false,Bool.not_true,Bool.toNat_true,Bool.toNat_false];omega),rfl,(by simp only[Act.put,zD,zE,zF]),zh (zkd ae.out _),zh ⟨au.1,au.2.1,au.2.2.1,fun h=>(by cases h)⟩,zh ⟨bJ.out.1,bJ.out.2.1,bJ.out.2.2.1,bJ.out.2.2.2.1,fun _=>rfl⟩,zh (fun h=>(kP.out h).later (zkd (Below.refl _ _) _)),zh fun _=>⟨ae.out.size,fun _=>heap_alloc_new wx _,fun h=>(by cases h)⟩⟩
     ·refine wpOp_step rfl (fun K' aG=>?_);have hK:=zh aG;clear aG;have h6:=au.2.1 rfl;have h5:=au.1 h6;subst h6 h5;obtain rfl:=bJ.out.2.2.1 rfl;obtain rfl:=bJ.out.2.2.2.2 rfl;have ho:=kP.out (Eq.refl true);have nY:=ax.out (Eq.refl true);have g1:=nY.1;have hbx:=nY.2.1 (Eq.refl false);clear nY;have q0:wx.cell? ⟨bq,0,none⟩=some (.slice none 0 0):=zc hbx rfl;have q1:wx.cell? ⟨bq,1,none⟩=some (.slice none 0 0):=zc hbx rfl;have q2:wx.cell? ⟨bq,2,none⟩=some (.slice none 0 0):=zc hbx rfl;have cf:∀ o,wx.frozen? ⟨bq,o,none⟩=false:=fun o=>zf hbx;(try simp only[zQ]);go_simp;have hch:Chg (fun q=>q=bq) wx (((wx.setCell ⟨bq,0,none⟩ (.slice Ay y.cells.length cy)).setCell ⟨bq,1,none⟩ (.slice By y.tin.length dy)).setCell ⟨bq,2,none⟩ (.slice Dy y.tout.length ey)) :=
       (((Chg.refl (fun q=>q=bq) wx).setCell (p:=⟨bq,0,none⟩) (.inl rfl) _).setCell (p:=⟨bq,1,none⟩) (.inl rfl) _).setCell (p:=⟨bq,2,none⟩) (.inl rfl) _
      have hh:=heap_setCell_same _ bq 2 _ _ (.slice Dy y.tout.length ey) (heap_setCell_same _ bq 1 _ _ (.slice By y.tin.length dy) (heap_setCell_same wx bq 0 _ _ (.slice Ay y.cells.length cy) hbx));have xw:=ho.chgV hch hbx;exact hK.out _ _ ⟨true,true,true,l8,true,true,_,_,_,v64,_,Ay,By,Dy,cy,dy,ey,bq,(by subst hf;simp only[Bool.not_false,Bool.not_true,Bool.toNat_true,Bool.toNat_false];omega),rfl,(by simp only[Act.put,zD,zE,zF]),zh (ae.out.trans (hch.below ae.out.size fun q e=>by omega)),zh ⟨fun _=>rfl,fun _=>rfl,fun _=>rfl,fun _=>⟨rfl,rfl⟩⟩,bJ,zh (fun _=>xw),zh fun _=>⟨g1,fun h=>(by cases h),fun _=>(by simpa using hh)⟩⟩
   ·have hj1:¬ (k:Int)<(es.length:Int):=by omega
    have mg:=zh (show L.take (j+1)=L by
     refine List.take_of_length_le ?_;rw[<-HL.out];have:=HKK.out;simp;omega)
    clear wY hc3 wG hwl hsl jE yM kY fZ yw yL yX hy
    gi_wp2
    go_end0;exact⟨⟨_,rfl⟩,.inl ⟨C3,by have:=xP.out.1;rwa[mg.out] at this,xP.out.2.1⟩⟩
  ·have xP:=zh (show Jx (L.take j++[k]) C3 W3/\Chg C W1 W3 from ⟨wY,(HK.out.2.1.trans2 (Chg.of_below gL.out) fun _ _ h=>h).trans2 wG fun q hq h=>(HK.out.2.2 q h).elim id fun h=>by omega⟩);clear wY wG hy
   gi_wp2
   go_end0;exact⟨⟨_,rfl⟩,.inr ⟨_,C3,xP.out.1,xP.out.2⟩⟩
attribute [local go_sem] Oper.semAt_some
theorem zwN:IsFn Tryz.prog 84 Tryz.f84:=⟨Tryz.func84,by kernel_rfl,by kernel_rfl⟩
theorem zwP:IsFn Tryz.prog 39 Tryz.f39:=⟨Tryz.func39,by kernel_rfl,by kernel_rfl⟩
theorem zwH:IsFn Tryz.prog 34 Tryz.f34:=⟨Tryz.func34,by kernel_rfl,by kernel_rfl⟩
theorem zwG:IsFn Tryz.prog 21 Tryz.f21:=⟨Tryz.func21,by kernel_rfl,by kernel_rfl⟩
theorem zwQ (x y z:Nat) (w:World):(binOp BinOp.eql 75 (.func (.func 84) #[] #[.pointer (some ⟨x,0,none⟩),.pointer (some ⟨y,0,none⟩),.pointer (some ⟨z,0,none⟩)]) .nilFunc).run Tryz.prog w=.ok (.bool false) w:=by kernel_rfl
structure RoI (aT:World) (n0 pb nb F:Nat) (pre:List Nat) (C:Nat->Prop) (W:World):Prop where
 c:∀ q,C q↔q<n0\/q=pb\/q=nb
 n:W.heap[nb]?=some (.cells #[.int .i64 (pre.length:Int)] 3 (0,0))
 kp:∀ q,q<n0\/q=pb->W.heap[q]?=aT.heap[q]?
 sz:n0<=W.heap.size/\pb<W.heap.size
theorem RoI.mv {aT W W':World} {n0 pb nb F:Nat} {pre:List Nat} {C:Nat->Prop} (h:RoI aT n0 pb nb F pre C W) (hc:Chg (fun b=>¬ C b) W W'):RoI aT n0 pb nb F pre C W' :=
 ⟨h.c,hc.keep h.n fun e=>e ((h.c _).2 (.inr (.inr rfl))),fun q hq=>(hc.block q (by rcases hq with hq|rfl;exact Nat.lt_of_lt_of_le hq h.sz.1;exact h.sz.2) fun e=>e ((h.c _).2 (by rcases hq with hq|hq;exact .inl hq;exact .inr (.inl hq)))).trans (h.kp q hq),Nat.le_trans h.sz.1 hc.size,Nat.lt_of_lt_of_le h.sz.2 hc.size⟩
theorem RoI.lt {aT W:World} {n0 pb nb F:Nat} {pre:List Nat} {C:Nat->Prop} (h:RoI aT n0 pb nb F pre C W):∀ b,C b->b<W.heap.size:=fun b hb=>by
 rcases(h.c b).1 hb with hb|rfl|rfl
 ·exact Nat.lt_of_lt_of_le hb h.sz.1
 ·exact h.sz.2
 ·exact zko h.n
theorem zwA {W:World} {q:Nat} {x v:Value} {ty:TypeId} (h:W.heap[q]?=some (.cells #[x] ty (0,0))) {a:Addr} (ha:a.block=q) (hc:W.cell? a=some v):a.off=0/\v=x:=by
 unfold World.cell? at hc;rw[ha,h] at hc;simp only at hc
 split at hc
 ·cases hc
 ·obtain⟨h1,h2⟩:=Array.getElem?_eq_some_iff.1 hc;have h3:a.off=0:=by simp at h1;omega
  refine⟨h3,?_⟩;rw[<-h2];simp[h3]
theorem RowE.ne1 {W:World} {S:Nat->Prop} {A:Option Addr} {es:List (List CH)} {q:Nat} {v:Int} {ty:TypeId} (h:RowE W S A es) (hq:W.heap[q]?=some (.cells #[.int .i64 v] ty (0,0))):RowE W (fun r=>S r/\r≠q) A es:=fun i hi=>by
 obtain⟨a,A',c',h1,h2,h3,h4,h5⟩:=h i hi;refine⟨a,A',c',h1,⟨h2,fun e=>?_⟩,h3,h4,fun j hj=>?_⟩
 ·have:=(zwA hq (a:=a.add i) (by rw[zkn];exact e) h3).2
  cases this
 ·obtain⟨a',g1,g2,g3⟩:=h5 j hj;refine⟨a',g1,⟨g2,fun e=>?_⟩,g3⟩;have e':(a'.add (j*4)).block=q:=by rw[zkn];exact e
  have z1:=(zwA hq (a:=⟨(a'.add (j*4)).block,(a'.add (j*4)).off+1,none⟩) e' g3.c1).1;have z1:(a'.add (j*4)).off+1=0:=z1;omega
theorem RowT.at {w6 w':World} {m g cap NL:Nat} {ss:List SS} (h:RowT w6 m (.slice (some ⟨g,0,none⟩) NL cap) ss) (hk:∀ q,q<w6.heap.size->w'.heap[q]?=w6.heap[q]?) {k:Nat} (hkl:k<ss.length) :
  ∃ Aa ca Ba da Da ea,w'.cell? ⟨g,k*3,none⟩=some (.slice Aa ss[k].cells.length ca)/\w'.cell? ⟨g,k*3+1,none⟩=some (.slice Ba ss[k].tin.length da)/\w'.cell? ⟨g,k*3+2,none⟩=some (.slice Da ss[k].tout.length ea)/\SV w' Any ss[k] (.agg #[.slice Aa ss[k].cells.length ca,.slice Ba ss[k].tin.length da,.slice Da ss[k].tout.length ea]):=by
 obtain⟨g',cap',Aa,ca,Ba,da,Da,ea,hge,hg0,hg1,t0,t1,t2,hsv⟩:=h.nd hkl;simp only[Value.slice.injEq,Option.some.injEq,Addr.mk.injEq,and_true,true_and] at hge;obtain⟨rfl,-⟩:=hge;exact⟨Aa,ca,Ba,da,Da,ea,zkG t0 (hk g hg1),zkG t1 (hk g hg1),zkG t2 (hk g hg1),hsv.keep (fun _ _ _=>trivial) fun q _ hlt=>hk q hlt⟩
theorem zwE (s:SS) (es:List (List CH)) (k0 f0:Int) (A0:Option Addr) (c0:Nat) (sv:Value) (W:World) (hs:SV W Any s sv) (he:RowE W Any A0 es) (hel:es.length<=4398046511103*2) (hee:∀ e∈es,e.length<=4398046511103/\∀ q∈e,q.I) (hk0:0<=k0/\k0<=255) (hf0:0<=f0/\f0<=255) :
  Calls Tryz.prog 11 #[sv,.slice A0 es.length c0,.int .u8 k0,.int .u8 f0] W fun e W'=>e=.returned (.bool true)/\Below W.heap.size W W':=by
 obtain⟨A,c,B,d,D,e,rfl⟩:=hs.slices;have HI:=zh (zom hs);have HE:=zh he;have kS:=zh hel;have sG:=zh hee;have bP:=zh hk0;have zt:=zh hf0;obtain⟨n,hn⟩:∃ n,s.cells.length=n:=⟨_,rfl⟩
 have HN:=zh hn;rw[hn] at hs;rw[hn];have HS:=zh hs;have k1:=zkr (zkr (heap_alloc_new W (.cells #[.slice A n c,.slice B s.tin.length d,.slice D s.tout.length e] 26)) (.cells #[.int .u8 f0] 5)) (.cells #[.bool false] 4);have kf:=zkr (heap_alloc_new (W.alloc (.cells #[.slice A n c,.slice B s.tin.length d,.slice D s.tout.length e] 26)) (.cells #[.int .u8 f0] 5)) (.cells #[.bool false] 4);have kr:=heap_alloc_new ((W.alloc (.cells #[.slice A n c,.slice B s.tin.length d,.slice D s.tout.length e] 26)).alloc (.cells #[.int .u8 f0] 5)) (.cells #[.bool false] 4);have hb1:=zkd (zkd (zkd (Below.refl W.heap.size W) (.cells #[.slice A n c,.slice B s.tin.length d,.slice D s.tout.length e] 26)) (.cells #[.int .u8 f0] 5)) (.cells #[.bool false] 4)
 obtain⟨w1,hw1⟩:∃ x,((W.alloc (.cells #[.slice A n c,.slice B s.tin.length d,.slice D s.tout.length e] 26)).alloc (.cells #[.int .u8 f0] 5)).alloc (.cells #[.bool false] 4)=x:=⟨_,rfl⟩
 simp only[World.size_alloc] at kf kr;rw[hw1] at k1 kf kr hb1;have HB1:=zh hb1;have vT:=zh k1;have zn:=zh kf;have r9:=zh kr;have xE:=zh (zqO w1);clear hs he hel hee hn k1 kf kr hb1 hk0 hf0;refine(callsIn_wide (n:=3)).1 (callsIn_of_wp_marks Tryz.func11 rfl trivial ((wpIn_wide (n:=3)).2 ?_));simp only[Tryz.ntmps11,List.size_toArray,List.length_cons,List.length_nil,Nat.reduceAdd,Nat.reduceSub,Array.replicate_succ,Array.replicate_zero,List.push_toArray,List.append_toArray,List.nil_append,List.cons_append];go_wp2_with fail;refine xE.out.mono ?_;rintro e2 w2 ⟨rfl,hb2⟩;clear hw1 xE;obtain⟨s0,s1,s2⟩:=zlp (zkc vT.out hb2);have HB2:=zh (zka HB1.out hb2);have bE:=zh hb2;have hev:=zqI (c0:=c0) (HS.out.later HB2.out) (HE.out.later HB2.out) kS.out (fun e he=>(sG.out e he).1) (v:=.agg #[.slice A n c,.slice B s.tin.length d,.slice D s.tout.length e]);have um:=zh hev
 clear hev hb2;go_wp2_with fail;refine um.out.mono ?_;rintro e3 w4 ⟨r,rfl,hr,hb4⟩;have yG:=zh (zka bE.out hb4);have az:=zh (zka HB2.out hb4)
 replace s0:=zb hb4 s0
 replace s1:=zb hb4 s1
 replace s2:=zb hb4 s2
 clear hb4 um;rcases hr with rfl|⟨rfl,hr⟩
 ·skip
  have rr:w4.cell? ⟨W.heap.size+1+1,0,none⟩=some (.bool false):=zc (zkc r9.out yG.out) rfl;have rf:w4.frozen? ⟨W.heap.size+1+1,0,none⟩=false:=zf (zkc r9.out yG.out);go_wp2_with fail;exact⟨.bool true,by simp[results,Tryz.results11,go_sem,rr],rfl,az.out.setCell (by simp;omega) _⟩
 have dU:=zh hr;have HG:=zh (show zmr n s from ⟨HN.out,fun l hl=>by have:=hr.row l hl;omega,by have:=hr.tin;omega,by have:=hr.tout;omega,HI.out⟩);have aX:=zh (show n<=1000 by have:=hr.cells;have:=HN.out;omega);have dP:=zh (show EvOk es from ⟨by have:=hr.n;omega,fun e he=>⟨(sG.out e he).2,(sG.out e he).1⟩⟩);clear hr;have hst:=zvY (c:=c0) (HS.out.later az.out) (HE.out.later az.out) HG.out aX.out dP.out (by have:=dU.out.n;omega);have HST:=zh hst;clear hst;go_wp2_with fail;refine HST.out.mono ?_;rintro e5 w5 ⟨hb5,qi⟩
 replace s0:=zb hb5 s0
 replace s1:=zb hb5 s1
 replace s2:=zb hb5 s2
 have ze:=zh (zka yG.out hb5);have aW:=zh (zka az.out hb5);have yN:=zh (fun w' (hb:Below W.heap.size W w')=>ztB (c:=c0) (HS.out.later hb) (HE.out.later hb) HG.out aX.out dP.out (fun e he=>by have:=dU.out.ev e he;omega));clear hb5 HST;obtain⟨hat,v5,rfl,hrow⟩|⟨hat,rfl⟩:=qi;rotate_left 1
 ·have hb6:=zkd (Below.refl w5.heap.size w5) (.cells #[.slice none 0 0] 68);obtain⟨w6,eP⟩:∃ x,w5.alloc (.cells #[.slice none 0 0] 68)=x:=⟨_,rfl⟩
  rw[eP] at hb6;have yD:=zh (zka ze.out hb6);have dD:=zh (zka aW.out hb6);have xD:=zh (yN.out _ dD.out);have zx:=zh eP
  replace s0:=zb hb6 s0
  replace s1:=zb hb6 s1
  replace s2:=zb hb6 s2
  clear hb6 yN eP;go_upto_region 6 with fail;rw[zx.out];go_wp2_with fail;refine xD.out.mono ?_;rintro e7 w7 ⟨bH,zu⟩;obtain⟨hok,-⟩|⟨hne,rfl⟩:=zu
  ·exact absurd hok hat
  ·have za:=zh (zka yD.out bH);have gL:=zh (zka dD.out bH);have rr:w7.cell? ⟨W.heap.size+1+1,0,none⟩=some (.bool false):=zc (zkc r9.out za.out) rfl;have rf:w7.frozen? ⟨W.heap.size+1+1,0,none⟩=false:=zf (zkc r9.out za.out);clear hat hne bH s0 s1 s2 xD;go_wp2_with fail;exact⟨.bool true,by simp[results,Tryz.results11,go_sem,rr],rfl,gL.out.setCell (by simp;omega) _⟩
 obtain⟨g,cap,hv5,hg0,hg1⟩:∃ g cap,v5=.slice (some ⟨g,0,none⟩) (stsE s es es.length).length cap/\w4.heap.size<=g/\g<w5.heap.size:=by
  obtain⟨g,cap,_,_,_,_,_,_,h1,h2,h3,-⟩:=hrow.nd (k:=0) (by rw[zvK];omega);exact⟨g,cap,h1,h2,h3⟩
 subst hv5;have dN:=zh (show AllX n s es from ⟨hat,HG.out,aX.out,dP.out⟩);have ag:=zh hrow;have HGG:=zh (show w4.heap.size<=g/\g<w5.heap.size from ⟨hg0,hg1⟩);obtain⟨NL,xU⟩:∃ q,(stsE s es es.length).length=q:=⟨_,rfl⟩
 have xW:=zh (show NL=es.length+1 by rw[<-xU,zvK]);rw[xU];have k6:=heap_alloc_new w5 (.cells #[.slice (some ⟨g,0,none⟩) NL cap] 68);have hb6:=zkd (Below.refl w5.heap.size w5) (.cells #[.slice (some ⟨g,0,none⟩) NL cap] 68);obtain⟨w6,eP⟩:∃ x,w5.alloc (.cells #[.slice (some ⟨g,0,none⟩) NL cap] 68)=x:=⟨_,rfl⟩
 obtain⟨ab,hab⟩:∃ x,w5.heap.size=x:=⟨_,rfl⟩
 rw[eP] at k6 hb6;rw[hab] at k6;have HAB:=zh hab;have lY:=zh k6;have xm:=zh hb6;have yD:=zh (zka ze.out hb6);have dD:=zh (zka aW.out hb6)
 replace s0:=zb hb6 s0
 replace s1:=zb hb6 s1
 replace s2:=zb hb6 s2
 have xD:=zh (yN.out _ dD.out);clear hb6 yN hrow hg0 hg1 k6 xU;go_wp2_with fail;refine xD.out.mono ?_;rintro e7 w7 ⟨bH,zu⟩;obtain⟨-,b,rfl,jD⟩|⟨hne,-⟩:=zu;rotate_left 1
 ·exact absurd hat hne
 obtain⟨n0,hn0⟩:∃ q,w6.heap.size=q:=⟨_,rfl⟩
 have gG:=zh hn0;rw[hn0] at jD;have dQ:=zh jD;have o6:=zh jD.nb;have eB:=zh bH;have za:=zh (zka yD.out bH);have gL:=zh (zka dD.out bH);clear hat bH jD xD s0 s1 s2 eP hn0;obtain⟨p,hp⟩:∃ p:Nat,k0.tmod ((es.length:Int)+1)=(p:Int):=⟨(k0.tmod ((es.length:Int)+1)).toNat,by
  have:=Int.tmod_nonneg ((es.length:Int)+1) bP.out.1;omega⟩
 have hpl:p<=es.length:=by
  have:=Int.tmod_lt_of_pos k0 (show(0:Int)<(es.length:Int)+1 by omega);omega
 have xM:=zh hpl;have hwk:IntKind.i64.wrap k0=k0:=IntWalk.i64_in _ (by have:=bP.out;omega);have hwl:IntKind.i64.wrap ((es.length:Int)+1)=(es.length:Int)+1:=IntWalk.i64_in _ (by have:=dP.out.1;omega);have hwp:IntKind.i64.wrap (p:Int)=(p:Int):=IntWalk.i64_in _ (by have:=dP.out.1;omega);have hnz:¬ ((es.length:Int)+1=0):=by omega
 have k8:=heap_alloc_new w7 (.cells #[.int .i64 (p:Int)] 3);have eU:=zkd (Below.refl w7.heap.size w7) (.cells #[.int .i64 (p:Int)] 3);obtain⟨w8,hw8⟩:∃ x,w7.alloc (.cells #[.int .i64 (p:Int)] 3)=x:=⟨_,rfl⟩
 obtain⟨pb,hpb⟩:∃ x,w7.heap.size=x:=⟨_,rfl⟩
 rw[hw8] at k8 eU;rw[hpb] at k8;have x0:w8.cell? ⟨pb,0,none⟩=some (.int .i64 (p:Int)):=zc k8 rfl;have mR:=zh hpb;have zq:=zh k8;have y9:=zh eU;have hcu8:=dQ.out.later eU;have hcur0:cur s es 0=s:=rfl;have HSK:=zh (zsn (show Cu w8 n0 b s (cur s es 0) es 0 from hcu8) dN.out (Nat.zero_le _) p hpl fun h=>by omega);clear k8 eU hcu8 hpl hcur0;go_wp2_with fail;refine HSK.out.mono ?_;rintro e9 w9 ⟨rfl,yC,yU⟩;have hbp:b<pb:=by have:=dQ.out.box;obtain⟨_,_,_,_,_,_,_,_,h,-⟩:=this;have:=zko h;have:=mR.out;omega
 have HBP:=zh hbp;have aD:=yC.keep zq.out (fun e=>by have e:pb=b:=e;omega);have HCU9:=zh yU;have bQ:=zh yC;have j4:=zh aD;have HRS:=zh (zwK yU (dN.out.good p) aX.out);clear HSK yC yU aD hw8 x0 hp hnz hwk hwl hwp hbp;go_wp2_with fail;refine HRS.out.mono ?_;rintro e10 aT ⟨oh,A1,c1,bn,bf,be,A2,B2,D2,c2,d2,e2,rfl,yn,hre⟩;have ym:=zh oh;have HRP:=zh yn;have bO:=zh hre;have hnilr:=zwQ;have k11:=heap_alloc_new aT (.cells #[.int .i64 0] 3);have lF:=zkd (Below.refl aT.heap.size aT) (.cells #[.int .i64 0] 3);obtain⟨aS,fM⟩:∃ x,aT.alloc (.cells #[.int .i64 0] 3)=x:=⟨_,rfl⟩
 obtain⟨nb,hnb⟩:∃ x,aT.heap.size=x:=⟨_,rfl⟩
 rw[fM] at k11 lF;rw[hnb] at k11;have HNBB:=zh hnb;have HW11:=zh fM;have yO:=zh k11;have yc:=zh lF;clear oh yn hre k11 lF HRS fM;obtain⟨F,hF⟩:∃ F:Nat,f0=(F:Int):=⟨f0.toNat,by have:=zt.out;omega⟩
 subst hF;go_wp2_with fail;rw[HW11.out];have hsz:n0<=b/\b<pb/\n0<=pb/\pb<w8.heap.size/\w8.heap.size<=w9.heap.size/\w9.heap.size<=nb/\nb<aS.heap.size:=by
  have h1:=o6.out;have h2:=HBP.out;have h3:=zko zq.out;have h4:=bQ.out.size;have h5:=ym.out.size;have h6:=HNBB.out;have h7:=zko yO.out;exact⟨h1,h2,by omega,h3,h4,by omega,h7⟩
 have hlow:∀ q,q<n0->aS.heap[q]?=w6.heap[q]?:=fun q hq=>by
  have h7:=eB.out.size;have h8:=y9.out.size;have h9:=bQ.out.size;have h10:=ym.out.size;have hn:=gG.out;rw[yc.out.block q (by omega),ym.out.block q (by omega),bQ.out.block q (by omega) (fun e=>by have e:q=b:=e;omega),y9.out.block q (by omega),eB.out.block q (by omega)]
 have vG:=zh hsz;have HLOW:=zh hlow;have yB:=zka ym.out yc.out;have hkp:=zkc j4.out yB;have HKP:=zh hkp;have yn:=HRP.out;have hrsp:RsP aS w9.heap.size (cur s es p) es A1 c1 p bn bf be A2 B2 D2 c2 d2 e2:=⟨zkc yn.now yc.out,zkc yn.first yc.out,zkc yn.ev yc.out,yn.sv.later yc.out,yn.ge⟩
 have hR:∀ q,w9.heap.size<=q->q<aT.heap.size->n0<=q/\q≠pb/\q≠nb/\q<aS.heap.size:=fun q h1 h2=>by
  have:=HNBB.out;exact⟨by omega,by omega,by omega,by omega⟩
 have hrsv:SV aS (fun q=>n0<=q/\q≠pb/\q≠nb/\q<aS.heap.size) (cur s es p) (.agg #[.slice A2 (cur s es p).cells.length c2,.slice B2 (cur s es p).tin.length d2,.slice D2 (cur s es p).tout.length e2]):=(yn.sv.keep (fun q h hlt=>hR q h hlt) fun _ _ _=>rfl).later yc.out;have hree:RowE aS (fun q=>n0<=q/\q≠pb/\q≠nb/\q<aS.heap.size) A1 es:=((bO.out.ne1 j4.out).keep (S':=fun q=>n0<=q/\q≠pb/\q≠nb/\q<aS.heap.size) (fun q h hlt=>⟨h.1.1,h.2,by omega,by omega⟩) fun _ _ _=>rfl).later yB;have hbn:=hR bn yn.ge.1 (zko yn.now);have hbf:=hR bf yn.ge.2.1 (zko yn.first);have hbe:=hR be yn.ge.2.2 (zko yn.ev);have HG2:=zh (zwz (3-1) (by decide) dN.out p xM.out (fun q=>n0<=q/\q≠pb/\q≠nb/\q<aS.heap.size) aS hrsp ⟨hbn,hbf,hbe⟩ hrsv hree);have h0:RoI aS n0 pb nb F [] (fun q=>q<n0\/q=pb\/q=nb) aS:=⟨fun _=>Iff.rfl,yO.out,fun _ _=>rfl,by omega,by omega⟩
 have HCUZ:=zh (HCU9.out.later yB);clear hsz hlow hkp yn hrsp hR hrsv hree hbn hbf hbe yB;refine(wpIn_wide (n:=3)).1 ?_;refine zwC (k:=0) (n:=3) (gf:=84) (lb := #[.pointer (some ⟨bn,0,none⟩),.pointer (some ⟨bf,0,none⟩),.pointer (some ⟨be,0,none⟩)]) rfl (zkH zwN) HG2.out rfl
  (fun pre C W=>RoI aS n0 pb nb F pre C W/\pre.length<=F) (fun pre C W=>RoI aS n0 pb nb F pre C W/\pre.length=F+1/\pre.length<=es.length+1-p) (fun q=>q<n0\/q=pb\/q=nb)
  (fun pre C W W' h hc=>⟨h.1.mv hc,h.2⟩) (fun pre C W W' h hc=>⟨h.1.mv hc,h.2⟩) (fun pre C W h=>h.1.lt) (fun pre C W h=>h.1.lt)
  (fun q h1 h2=>by rcases h1 with h1|h1|h1<;>omega) (fun q h=>h.2.2.2) ⟨h0,Nat.zero_le _⟩ ?_ (fun a w h=>h) ?_
 ·rintro l pre x C W3 pv v ⟨hI,hpl⟩ zw hl hlW hpre ⟨rfl,Av,cv,Bv,dv,Dv,ev,rfl,hsv⟩;have hx:x=p+pre.length/\pre.length+1<=es.length+1-p:=by
   have h1:=hpre.length_le;simp at h1;obtain⟨ys,hys⟩:=hpre;have h2:=congrArg (fun L:List Nat=>L[pre.length]?) hys;simp only[List.append_assoc,List.singleton_append,List.getElem?_append_right (Nat.le_refl _),Nat.sub_self,List.getElem?_cons_zero] at h2;rw[List.getElem?_eq_getElem (by simp;omega)] at h2;simp at h2;exact⟨h2,h1⟩
  obtain⟨hxe,hxl⟩:=hx;have mH:=zh (show x=p+pre.length/\pre.length+1<=es.length+1-p/\pre.length<=F from ⟨hxe,hxl,hpl⟩);have hne:=dP.out.1;have hwx:IntKind.i64.wrap ((p:Int)+(pre.length:Int))=(x:Int):=by
   rw[show(p:Int)+(pre.length:Int)=(x:Int) by omega];exact IntWalk.i64_in _ (by have:=xM.out;omega)
  have hwn:IntKind.i64.wrap ((pre.length:Int)+1)=(pre.length:Int)+1:=IntWalk.i64_in _ (by omega);have hwf:IntKind.i64.wrap (F:Int)=(F:Int):=IntWalk.i64_in _ (by have:=zt.out;omega);have hxN:(x:Int)<(NL:Int):=by have:=xW.out;omega
  have hx0:(0:Int)<=(x:Int):=by omega
  have hxN2:¬ NL<=x:=by omega
  have hxk:x<(stsE s es es.length).length:=by rw[zvK];omega
  have hgx:=dN.out.good x;obtain⟨y,hy⟩:∃ y,cur s es x=y:=⟨_,rfl⟩
  rw[hy] at hsv hgx ⊢;have HSVX:=zh hsv;have zl:=zh hgx;have HCLL:=zh zw;have HLW:=zh hlW;clear hxe hxl hne;change Code.wpIn (Fence.wide.inRound l) (3-1-1) Tryz.prog _ _ _ _
  gi_wp2
  refine⟨(Chg.refl _ _).alloc _,fun W4 wP=>?_⟩;have hbx:=wP.keep (heap_alloc_new W3 (.cells #[.slice Av y.cells.length cv,.slice Bv y.tin.length dv,.slice Dv y.tout.length ev] 26)) (show ¬ W3.heap.size=l by omega);have zk:RoI aS n0 pb nb F pre C W4:=(hI.mv (Chg.of_below (zkd (Below.refl _ _) (.cells #[.slice Av y.cells.length cv,.slice Bv y.tin.length dv,.slice Dv y.tout.length ev] 26)))).mv (wP.mono fun q _ hq hc=>zw (by have hq:q=l:=hq;rwa[hq] at hc));have hsv4:SV W4 Any y (.agg #[.slice Av y.cells.length cv,.slice Bv y.tin.length dv,.slice Dv y.tout.length ev]):=(hsv.later (zkd (Below.refl _ _) (.cells #[.slice Av y.cells.length cv,.slice Bv y.tin.length dv,.slice Dv y.tout.length ev] 26))).keep (fun _ _ _=>trivial) fun q h hlt=>wP.block q hlt h;obtain⟨xb,hxb⟩:∃ q,W3.heap.size=q:=⟨_,rfl⟩
  rw[hxb] at hbx;have yg:∀ q,q<w6.heap.size->W4.heap[q]?=w6.heap[q]?:=fun q hq=>(zk.kp q (.inl (by have:=gG.out;omega))).trans (HLOW.out q (by have:=gG.out;omega));obtain⟨Aa,ca,Ba,da,Da,ea,t0,t1,t2,hsa⟩:=RowT.at ag.out (fun q hq=>(yg q (Nat.lt_of_lt_of_le hq xm.out.size)).trans (xm.out.block q hq)) hxk;rw[zvW,hy] at t0 t1 t2 hsa;have z1:W4.cell? ⟨pb,0,none⟩=some (.int .i64 (p:Int)):=zc ((zk.kp pb (.inr rfl)).trans HKP.out) rfl;have z2:W4.cell? ⟨nb,0,none⟩=some (.int .i64 (pre.length:Int)):=zc zk.n rfl;have z3:W4.cell? ⟨ab,0,none⟩=some (.slice (some ⟨g,0,none⟩) NL cap):=zc ((yg ab (zko lY.out)).trans lY.out) rfl;have yz:=zkc zn.out yD.out;have yS:=(yg _ (zko yz)).trans yz;have z4:W4.cell? ⟨W.heap.size+1,0,none⟩=some (.int .u8 (F:Int)):=zc yS rfl;obtain⟨x0,x1,x2⟩:=zlp hbx;have HFB4:=zh yS;have HI4:=zh zk;have lS:=zh hsa
  have HSV4:=zh hsv4;clear hI hpl hpre hbx zk hsa hsv4 wP hsv hgx hy hxk yz yS yg zw hlW;change Code.wpIn (Fence.wide.inRound l) (3-1-1) Tryz.prog _ _ _ _
  gi_upto_region 19 with fail
  try rw[hxb]
  have hSS:(fun w':World=>w'.cell? ⟨pb,0,none⟩=some (.int .i64 (p:Int))/\w'.cell? ⟨nb,0,none⟩=some (.int .i64 (pre.length:Int))/\w'.cell? ⟨ab,0,none⟩=some (.slice (some ⟨g,0,none⟩) NL cap)/\(w'.cell? ⟨xb,0,none⟩=some (.slice Av y.cells.length cv)/\w'.cell? ⟨xb,1,none⟩=some (.slice Bv y.tin.length dv)/\w'.cell? ⟨xb,2,none⟩=some (.slice Dv y.tout.length ev))/\w'.cell? ⟨g,x*3,none⟩=some (.slice Aa y.cells.length ca)/\w'.cell? ⟨g,x*3+1,none⟩=some (.slice Ba y.tin.length da)/\w'.cell? ⟨g,x*3+2,none⟩=some (.slice Da y.tout.length ea)) W4.drew:=⟨z1,z2,z3,⟨x0,x1,x2⟩,t0,t1,t2⟩
  refine zww (ro:=some l) (fun w':World=>w'.cell? ⟨pb,0,none⟩=some (.int .i64 (p:Int))/\w'.cell? ⟨nb,0,none⟩=some (.int .i64 (pre.length:Int))/\w'.cell? ⟨ab,0,none⟩=some (.slice (some ⟨g,0,none⟩) NL cap)/\(w'.cell? ⟨xb,0,none⟩=some (.slice Av y.cells.length cv)/\w'.cell? ⟨xb,1,none⟩=some (.slice Bv y.tin.length dv)/\w'.cell? ⟨xb,2,none⟩=some (.slice Dv y.tout.length ev))/\w'.cell? ⟨g,x*3,none⟩=some (.slice Aa y.cells.length ca)/\w'.cell? ⟨g,x*3+1,none⟩=some (.slice Ba y.tin.length da)/\w'.cell? ⟨g,x*3+2,none⟩=some (.slice Da y.tout.length ea)) (by kernel_rfl) ?_;refine zws (i:=0) (v:=?_) rfl (by kernel_rfl) (by kernel_rfl) (by kernel_rfl) (by kernel_rfl) (fun _ _ _ h=>h) (Or.inl ⟨by rfl,?_⟩) hSS ?_;rotate_left 1
  ·(intro w hSw;(try dsimp only at hSw);(try simp only[zA,zB,zC]);go_simp;(try with_reducible rfl))
  (try simp only[zQ]);refine zws (i:=1) (v:=?_) rfl (by kernel_rfl) (by kernel_rfl) (by kernel_rfl) (by kernel_rfl) (fun _ _ _ h=>h) (Or.inl ⟨by rfl,?_⟩) hSS ?_;rotate_left 1
  ·(intro w hSw;(try dsimp only at hSw);(try simp only[zA,zB,zC]);go_simp;(try with_reducible rfl))
  (try simp only[zQ]);refine zws (i:=2) (v:=?_) rfl (by kernel_rfl) (by kernel_rfl) (by kernel_rfl) (by kernel_rfl) (fun _ _ _ h=>h) (Or.inl ⟨by rfl,?_⟩) hSS ?_;rotate_left 1
  ·(intro w hSw;(try dsimp only at hSw);(try simp only[zA,zB,zC]);go_simp;(try with_reducible rfl))
  (try simp only[zQ]);refine zws (i:=3) (v:=?_) rfl (by kernel_rfl) (by kernel_rfl) (by kernel_rfl) (by kernel_rfl) (fun _ _ _ h=>h) (Or.inl ⟨by rfl,?_⟩) hSS ?_;rotate_left 1
  ·(intro w hSw;(try dsimp only at hSw);(try simp only[zA,zB,zC]);go_simp;(try with_reducible rfl))
  (try simp only[zQ]);refine zws (i:=4) (v:=?_) rfl (by kernel_rfl) (by kernel_rfl) (by kernel_rfl) (by kernel_rfl) (fun _ _ _ h=>h) (Or.inl ⟨by rfl,?_⟩) hSS ?_;rotate_left 1
  ·(intro w hSw;(try dsimp only at hSw);(try simp only[zA,zB,zC]);go_simp;(try with_reducible rfl))
  (try simp only[zQ]);refine zws (i:=5) (v:=?_) rfl (by kernel_rfl) (by kernel_rfl) (by kernel_rfl) (by kernel_rfl) (fun _ _ _ h=>h) (Or.inl ⟨by rfl,?_⟩) hSS ?_;rotate_left 1
  ·(intro w hSw;(try dsimp only at hSw);(try simp only[zA,zB,zC]);go_simp;(try with_reducible rfl))
  (try simp only[zQ]);refine zws (i:=6) (v:=?_) rfl (by kernel_rfl) (by kernel_rfl) (by kernel_rfl) (by kernel_rfl) (fun _ _ _ h=>h) (Or.inl ⟨by rfl,?_⟩) hSS ?_;rotate_left 1
  ·(intro w hSw;(try dsimp only at hSw);(try simp only[zA,zB,zC]);go_simp;(try with_reducible rfl))
  (try simp only[zQ]);refine zws (i:=7) (v:=?_) rfl (by kernel_rfl) (by kernel_rfl) (by kernel_rfl) (by kernel_rfl) (fun _ _ _ h=>h) (Or.inl ⟨by rfl,?_⟩) hSS ?_;rotate_left 1
  ·(intro w hSw;(try dsimp only at hSw);(try simp only[zA,zB,zC]);go_simp;(try with_reducible rfl))
  (try simp only[zQ]);refine zws (i:=8) (v:=?_) rfl (by kernel_rfl) (by kernel_rfl) (by kernel_rfl) (by kernel_rfl) (fun _ _ _ h=>h) (Or.inl ⟨by rfl,?_⟩) hSS ?_;rotate_left 1
  ·(intro w hSw;(try dsimp only at hSw);(try simp only[zA,zB,zC]);go_simp;(try with_reducible rfl))
  (try simp only[zQ]);refine zws (i:=9) (v:=?_) rfl (by kernel_rfl) (by kernel_rfl) (by kernel_rfl) (by kernel_rfl) (fun _ _ _ h=>h) (Or.inl ⟨by rfl,?_⟩) hSS ?_;rotate_left 1
  ·(intro w hSw;(try dsimp only at hSw);(try simp only[zA,zB,zC]);go_simp;(try with_reducible rfl))
  (try simp only[zQ]);refine zws (i:=10) (v:=?_) rfl (by kernel_rfl) (by kernel_rfl) (by kernel_rfl) (by kernel_rfl) (fun _ _ _ h=>h) (Or.inl ⟨by rfl,?_⟩) hSS ?_;rotate_left 1
  ·(intro w hSw;(try dsimp only at hSw);(try simp only[zA,zB,zC]);go_simp;(try with_reducible rfl))
  (try simp only[zQ]);refine zws (i:=11) (v:=?_) rfl (by kernel_rfl) (by kernel_rfl) (by kernel_rfl) (by kernel_rfl) (fun _ _ _ h=>h) (Or.inl ⟨by rfl,?_⟩) hSS ?_;rotate_left 1
  ·(intro w hSw;(try dsimp only at hSw);(try simp only[zA,zB,zC]);go_simp;(try with_reducible rfl))
  (try simp only[zQ]);refine zws (i:=12) (v:=?_) rfl (by kernel_rfl) (by kernel_rfl) (by kernel_rfl) (by kernel_rfl) (fun _ _ _ h=>h) (Or.inl ⟨by rfl,?_⟩) hSS ?_;rotate_left 1
  ·(intro w hSw;(try dsimp only at hSw);(try simp only[zA,zB,zC]);go_simp;(try with_reducible rfl))
  (try simp only[zQ]);refine zws (i:=13) (v:=?_) rfl (by kernel_rfl) (by kernel_rfl) (by kernel_rfl) (by kernel_rfl) (fun _ _ _ h=>h) (Or.inl ⟨by rfl,?_⟩) hSS ?_;rotate_left 1
  ·(intro w hSw;(try dsimp only at hSw);(try simp only[zA,zB,zC]);go_simp;(try with_reducible rfl))
  (try simp only[zQ]);refine zws (i:=14) (v:=?_) rfl (by kernel_rfl) (by kernel_rfl) (by kernel_rfl) (by kernel_rfl) (fun _ _ _ h=>h) (Or.inl ⟨by rfl,?_⟩) hSS ?_;rotate_left 1
  ·(intro w hSw;(try dsimp only at hSw);(try simp only[zA,zB,zC]);go_simp;(try with_reducible rfl))
  (try simp only[zQ]);refine zws (i:=15) (v:=?_) rfl (by kernel_rfl) (by kernel_rfl) (by kernel_rfl) (by kernel_rfl) (fun _ _ _ h=>h) (Or.inl ⟨by rfl,?_⟩) hSS ?_;rotate_left 1
  ·(intro w hSw;(try dsimp only at hSw);(try simp only[zA,zB,zC]);go_simp;(try with_reducible rfl))
  (try simp only[zQ]);refine zws (i:=16) (v:=?_) rfl (by kernel_rfl) (by kernel_rfl) (by kernel_rfl) (by kernel_rfl) (fun _ _ _ h=>h) (Or.inl ⟨by rfl,?_⟩) hSS ?_;rotate_left 1
  ·(intro w hSw;(try dsimp only at hSw);(try simp only[zA,zB,zC]);go_simp;(try with_reducible rfl))
  (try simp only[zQ]);have hdw:Below W4.heap.size W4 W4.drew:=(Below.refl W4.heap.size W4).drew;have had:Calls Tryz.prog 21 [.agg #[.slice Av y.cells.length cv,.slice Bv y.tin.length dv,.slice Dv y.tout.length ev],.agg #[.slice Aa y.cells.length ca,.slice Ba y.tin.length da,.slice Da y.tout.length ea]].toArray W4.drew fun e W'=>∃ z,e=.returned z/\z=.bool true/\Below W4.drew.heap.size W4.drew W' :=
   (zpE y y _ _ W4.drew (HSV4.out.later hdw) (lS.out.later hdw) (zl.out.sm (by have:=aX.out;omega)) (zl.out.sm (by have:=aX.out;omega))).mono fun e W' ⟨h1,h2⟩=>⟨_,h1,by rw[show eqS y y=true by simp[eqS]],h2⟩
  refine zwM (i:=17) (by kernel_rfl) rfl (by kernel_rfl) (by rfl) (fun K hK=>?_);refine zkQ (by rfl) (.func 21) [.tmp 81,.tmp 85] _ (by rfl) 21 _ zwG (by rfl) _ (by rfl) _ had ?_;rintro z uB ⟨rfl,jI⟩;have xZ:=zka hdw jI;have hSS:(fun w':World=>w'.cell? ⟨pb,0,none⟩=some (.int .i64 (p:Int))/\w'.cell? ⟨nb,0,none⟩=some (.int .i64 (pre.length:Int))/\w'.cell? ⟨ab,0,none⟩=some (.slice (some ⟨g,0,none⟩) NL cap)/\(w'.cell? ⟨xb,0,none⟩=some (.slice Av y.cells.length cv)/\w'.cell? ⟨xb,1,none⟩=some (.slice Bv y.tin.length dv)/\w'.cell? ⟨xb,2,none⟩=some (.slice Dv y.tout.length ev))/\w'.cell? ⟨g,x*3,none⟩=some (.slice Aa y.cells.length ca)/\w'.cell? ⟨g,x*3+1,none⟩=some (.slice Ba y.tin.length da)/\w'.cell? ⟨g,x*3+2,none⟩=some (.slice Da y.tout.length ea)) uB:=⟨zb xZ z1,zb xZ z2,zb xZ z3,⟨zb xZ x0,zb xZ x1,zb xZ x2⟩,zb xZ t0,zb xZ t1,zb xZ t2⟩
  refine hK.out _ _ hSS ?_;clear hK K had;(try simp only[zQ]);refine zws (i:=18) (v:=?_) rfl (by kernel_rfl) (by kernel_rfl) (by kernel_rfl) (by kernel_rfl) (fun _ _ _ h=>h) (Or.inl ⟨by rfl,?_⟩) hSS ?_;rotate_left 1
  ·(intro w hSw;(try dsimp only at hSw);(try simp only[zA,zB,zC]);go_simp;(try with_reducible rfl))
  (try simp only[zQ]);refine zws (i:=19) (v:=?_) rfl (by kernel_rfl) (by kernel_rfl) (by kernel_rfl) (by kernel_rfl) (fun _ _ _ h=>h) (Or.inl ⟨by rfl,?_⟩) hSS ?_;rotate_left 1
  ·(intro w hSw;(try dsimp only at hSw);(try simp only[zA,zB,zC]);go_simp;(try with_reducible rfl))
  (try simp only[zQ]);refine zwI (by kernel_rfl) ?_;have yK:=zkc HI4.out.n xZ;have hf15:=zkc HFB4.out xZ;have z2':uB.cell? ⟨nb,0,none⟩=some (.int .i64 (pre.length:Int)):=zc yK rfl;have cf:∀ o,uB.frozen? ⟨nb,o,none⟩=false:=fun o=>zf yK;obtain⟨w16,hw16,yj,yR⟩:=zwJ (.int .i64 ((pre.length:Int)+1)) yK;have z2'':w16.cell? ⟨nb,0,none⟩=some (.int .i64 ((pre.length:Int)+1)):=zc yR rfl;have z4'':w16.cell? ⟨W.heap.size+1,0,none⟩=some (.int .u8 (F:Int)):=zc (yj.keep hf15 (fun e=>by have e:W.heap.size+1=nb:=e;have:=HGG.out;have:=yG.out.size;have:=zko r9.out;have:=HAB.out;have:=zko lY.out;have:=vG.out;have:=gG.out;omega)) rfl;have hI16:RoI aS n0 pb nb F (pre++[x]) C w16:=by
   refine⟨HI4.out.c,by rw[yR];simp,fun q hq=>?_,Nat.le_trans HI4.out.sz.1 (Nat.le_trans xZ.size yj.size),Nat.lt_of_lt_of_le HI4.out.sz.2 (Nat.le_trans xZ.size yj.size)⟩;have hlt:q<W4.heap.size:=by rcases hq with hq|rfl;exact Nat.lt_of_lt_of_le hq HI4.out.sz.1;exact HI4.out.sz.2
   rw[yj.block q (Nat.lt_of_lt_of_le hlt xZ.size) (fun e=>by have e:q=nb:=e;have:=vG.out;omega),xZ.block q hlt];exact HI4.out.kp q hq
  have HI16:=zh hI16;have HC16:=zh (show Chg C W4 w16 from (Chg.of_below xZ).trans2 yj fun q _ e=>(HI4.out.c q).2 (.inr (.inr e)));clear hSS hdw jI xZ yK hf15 yj yR hI16 z1 z2 z3 z4 x0 x1 x2 t0 t1 t2;by_cases hgt:F<pre.length+1
  ·have hgt2:(F:Int)<(pre.length:Int)+1:=by omega
   gi_wp2
   exact⟨rfl,C,⟨HI16.out,by have:=mH.out;simp;omega,by have:=mH.out;simp;omega⟩,fun b hb=>.inl hb,HC16.out⟩
  ·have hgt2:¬ (F:Int)<(pre.length:Int)+1:=by omega
   gi_wp2
   exact⟨C,⟨HI16.out,by have:=mH.out;simp;omega⟩,fun b hb=>.inl hb,HC16.out⟩
 ·intro D pre C W' hD hpc hch hK;obtain⟨hI,hpn⟩:RoI aS n0 pb nb F pre C W'/\min (F+1) (es.length+1-p)=pre.length:=by
   rcases hpc with⟨rfl,h,h2⟩|⟨h,h1,h2⟩
   ·refine⟨h,?_⟩;simp at h2 ⊢;omega
   ·exact⟨h,by omega⟩
  have hple:=xM.out;have hne:=dP.out.1;have hsz:=vG.out;have hmin:min ((F:Int)+1) ((es.length:Int)+1-(p:Int))=(pre.length:Int):=by omega
  have hwF:IntKind.i64.wrap (F:Int)=(F:Int):=IntWalk.i64_in _ (by have:=zt.out;omega);have hwF1:IntKind.i64.wrap ((F:Int)+1)=(F:Int)+1:=IntWalk.i64_in _ (by have:=zt.out;omega);have hwE:IntKind.i64.wrap ((es.length:Int)+1)=(es.length:Int)+1:=IntWalk.i64_in _ (by omega);have hwS:IntKind.i64.wrap ((es.length:Int)+1-(p:Int))=(es.length:Int)+1-(p:Int):=IntWalk.i64_in _ (by omega);have hp0:(0:Int)<=(p:Int):=by omega
  have hpN:(p:Int)<(NL:Int):=by have:=xW.out;omega
  have wH:Chg (fun q=>q=nb) aS W':=⟨hch.1,hch.2,hch.3,hch.4,fun q hlt hq=>by
   by_cases hc:q<n0\/q=pb
   ·exact hI.kp q hc
   ·exact hch.block q hlt fun h=>by rcases h with h|h|h;exact hc (.inl h);exact hc (.inr h);exact hq h⟩
  have yg:∀ q,q<w6.heap.size->W'.heap[q]?=w6.heap[q]?:=fun q hq=>(hI.kp q (.inl (by have:=gG.out;omega))).trans (HLOW.out q (by have:=gG.out;omega));have hpk:p<(stsE s es es.length).length:=by rw[zvK];omega
  obtain⟨Aa,ca,Ba,da,Da,ea,t0,t1,t2,hsa⟩:=RowT.at ag.out (fun q hq=>(yg q (Nat.lt_of_lt_of_le hq xm.out.size)).trans (xm.out.block q hq)) hpk;rw[zvW] at t0 t1 t2 hsa;have fD:=dN.out.good p;have yT:Cu W' n0 b s (cur s es p) es p:=HCU9.out.keep fun q h1 h2=>by
   have h11:=zka ym.out yc.out;rw[wH.block q (Nat.lt_of_lt_of_le h2 h11.size) (fun e=>by have e:q=nb:=e;omega),h11.block q h2]
  obtain⟨y,hy⟩:∃ y,cur s es p=y:=⟨_,rfl⟩
  rw[hy] at t0 t1 t2 hsa fD yT;have z1:W'.cell? ⟨pb,0,none⟩=some (.int .i64 (p:Int)):=zc ((hI.kp pb (.inr rfl)).trans HKP.out) rfl;have z2:W'.cell? ⟨nb,0,none⟩=some (.int .i64 (pre.length:Int)):=zc hI.n rfl;have z3:W'.cell? ⟨ab,0,none⟩=some (.slice (some ⟨g,0,none⟩) NL cap):=zc ((yg ab (zko lY.out)).trans lY.out) rfl;have yz:=zkc zn.out yD.out;have z4:W'.cell? ⟨W.heap.size+1,0,none⟩=some (.int .u8 (F:Int)):=zc ((yg _ (zko yz)).trans yz) rfl;have yI:=zkc r9.out yD.out;have hrl:W.heap.size+1+1<n0:=by have:=zko yI;have:=gG.out;omega
  have oO:=zh ((yg _ (zko yI)).trans yI);have mK:=zh hrl;have hbw9:Below W.heap.size W w9:=by
   have h8:=zka gL.out y9.out;exact h8.trans (bQ.out.below h8.size fun q e=>by have e:q=b:=e;omega)
  have yF:=zka hbw9 (zka ym.out yc.out);have aR:=zh (show Below W.heap.size W W' from yF.trans (wH.below yF.size fun q e=>by have e:q=nb:=e;omega));have zy:=zh hK;have zH:=zh (show aS.heap.size<=D/\n0<aS.heap.size from ⟨hD,by omega⟩);have lS:=zh hsa;have HCUF:=zh yT;have su:=zh fD;clear hpc hch wH hI hpn hple hne hsz yg hpk hsa fD yT hy yz yI hrl hbw9 yF hK hD;go_upto_region 23 with fail
  have hSS:(fun w':World=>w'.cell? ⟨pb,0,none⟩=some (.int .i64 (p:Int))/\w'.cell? ⟨nb,0,none⟩=some (.int .i64 (pre.length:Int))/\w'.cell? ⟨ab,0,none⟩=some (.slice (some ⟨g,0,none⟩) NL cap)/\w'.cell? ⟨W.heap.size+1,0,none⟩=some (.int .u8 (F:Int))/\w'.cell? ⟨g,p*3,none⟩=some (.slice Aa y.cells.length ca)/\w'.cell? ⟨g,p*3+1,none⟩=some (.slice Ba y.tin.length da)/\w'.cell? ⟨g,p*3+2,none⟩=some (.slice Da y.tout.length ea)) W'.drew/\(fun _:World=>True) W'.drew:=⟨⟨z1,z2,z3,z4,t0,t1,t2⟩,trivial⟩
  have aB:=zh (show ∀ w',Below W'.heap.size W' w'->(fun w':World=>w'.cell? ⟨pb,0,none⟩=some (.int .i64 (p:Int))/\w'.cell? ⟨nb,0,none⟩=some (.int .i64 (pre.length:Int))/\w'.cell? ⟨ab,0,none⟩=some (.slice (some ⟨g,0,none⟩) NL cap)/\w'.cell? ⟨W.heap.size+1,0,none⟩=some (.int .u8 (F:Int))/\w'.cell? ⟨g,p*3,none⟩=some (.slice Aa y.cells.length ca)/\w'.cell? ⟨g,p*3+1,none⟩=some (.slice Ba y.tin.length da)/\w'.cell? ⟨g,p*3+2,none⟩=some (.slice Da y.tout.length ea)) w'/\(fun _:World=>True) w' from fun w' h=>⟨⟨zb h z1,zb h z2,zb h z3,zb h z4,zb h t0,zb h t1,zb h t2⟩,trivial⟩);refine wp_region_noPanic ?_
  refine zke (fun w':World=>w'.cell? ⟨pb,0,none⟩=some (.int .i64 (p:Int))/\w'.cell? ⟨nb,0,none⟩=some (.int .i64 (pre.length:Int))/\w'.cell? ⟨ab,0,none⟩=some (.slice (some ⟨g,0,none⟩) NL cap)/\w'.cell? ⟨W.heap.size+1,0,none⟩=some (.int .u8 (F:Int))/\w'.cell? ⟨g,p*3,none⟩=some (.slice Aa y.cells.length ca)/\w'.cell? ⟨g,p*3+1,none⟩=some (.slice Ba y.tin.length da)/\w'.cell? ⟨g,p*3+2,none⟩=some (.slice Da y.tout.length ea)) (fun _:World=>True) 26 (by kernel_rfl) ?_;refine zT 0 hSS ?_;(try simp only[zQ]);refine zT 1 hSS ?_;(try simp only[zQ]);refine zT 2 hSS ?_;(try simp only[zQ]);refine zT 3 hSS ?_;(try simp only[zQ]);refine zT 4 hSS ?_;(try simp only[zQ]);refine zT 5 hSS ?_;(try simp only[zQ]);refine zT 6 hSS ?_;(try simp only[zQ]);refine zT 7 hSS ?_;(try simp only[zQ]);refine zT 8 hSS ?_;(try simp only[zQ]);refine zT 9 hSS ?_;(try simp only[zQ]);refine zT 10 hSS ?_
  (try simp only[zQ]);refine zT 11 hSS ?_;(try simp only[zQ]);refine zT 12 hSS ?_;(try simp only[zQ]);refine zT 14 hSS ?_;(try simp only[zQ]);have hdw:Below W'.heap.size W' W'.drew:=(Below.refl W'.heap.size W').drew;have had:Calls Tryz.prog 39 [.pointer (some ⟨b,0,none⟩)].toArray W'.drew fun e W2=>∃ u,e=.returned u/\u=.int .i64 (p:Int)/\W2=W'.drew :=
   (zwe (HCUF.out.later hdw)).mono fun e W2 ⟨h1,h2⟩=>⟨_,h2,rfl,h1⟩
  refine zo 13 fun K hK=>?_;refine zkQ (by rfl) (.func 39) [.tmp 107] _ (by rfl) 39 _ zwP (by rfl) _ (by rfl) _ had ?_;rintro u iV ⟨rfl,rfl⟩;refine hK.out _ _ hSS ?_;clear hK K had;(try simp only[zQ]);refine zT 15 hSS ?_;(try simp only[zQ]);refine zT 16 hSS ?_;(try simp only[zQ]);refine zT 17 hSS ?_;(try simp only[zQ]);refine zT 18 hSS ?_;(try simp only[zQ]);refine zT 20 hSS ?_;(try simp only[zQ]);refine zT 21 hSS ?_;(try simp only[zQ]);refine zT 22 hSS ?_;(try simp only[zQ]);refine zT 23 hSS ?_;(try simp only[zQ]);have had:Calls Tryz.prog 34 [.pointer (some ⟨b,0,none⟩)].toArray W'.drew fun e W2=>∃ u,e=.returned u/\OwnS W2 W'.drew.heap.size y u/\Below W'.drew.heap.size W'.drew W2 :=
   (zol (HCUF.out.later hdw) su.out aX.out).mono fun e W2 ⟨h1,v,h2,h3⟩=>⟨v,h2,h3,h1⟩
  refine zo 19 fun K hK=>?_;refine zkQ (by rfl) (.func 34) [.tmp 113] _ (by rfl) 34 _ zwH (by rfl) _ (by rfl) _ had ?_;rintro u ny ⟨wK,dI⟩;have wM:Below W'.heap.size W' ny:=zka hdw dI;refine hK.out _ _ (aB.out _ wM) ?_;clear hK K had;(try simp only[zQ]);have had:Calls Tryz.prog 21 [u,.agg #[.slice Aa y.cells.length ca,.slice Ba y.tin.length da,.slice Da y.tout.length ea]].toArray ny fun e W2=>∃ z,e=.returned z/\z=.bool true/\Below ny.heap.size ny W2 :=
   (zpE y y _ _ ny (wK.sv (su.out.sm (by have:=aX.out;omega)).lim) (lS.out.later wM) (su.out.sm (by have:=aX.out;omega)) (su.out.sm (by have:=aX.out;omega))).mono fun e W2 ⟨h1,h2⟩=>⟨_,h1,by rw[show eqS y y=true by simp[eqS]],h2⟩
  refine zo 24 fun K hK=>?_;refine zkQ (by rfl) (.func 21) [.tmp 114,.tmp 118] _ (by rfl) 21 _ zwG (by rfl) _ (by rfl) _ had ?_;rintro z zi ⟨rfl,hb17⟩;have yl:Below W'.heap.size W' zi:=zka wM hb17;have yh:=aB.out _ yl;refine hK.out _ _ yh ?_;clear hK K had;(try simp only[zQ]);refine zT 25 yh ?_;(try simp only[zQ]);have yJ:=zkc oO.out yl;have rr:zi.cell? ⟨W.heap.size+1+1,0,none⟩=some (.bool false):=zc yJ rfl;have rf:∀ o,zi.frozen? ⟨W.heap.size+1+1,o,none⟩=false:=fun o=>zf yJ;obtain⟨yP,hw18,yA,hh18⟩:=zwJ (.bool true) yJ
  have hS18:(fun w':World=>w'.cell? ⟨pb,0,none⟩=some (.int .i64 (p:Int))/\w'.cell? ⟨nb,0,none⟩=some (.int .i64 (pre.length:Int))/\w'.cell? ⟨ab,0,none⟩=some (.slice (some ⟨g,0,none⟩) NL cap)/\w'.cell? ⟨W.heap.size+1,0,none⟩=some (.int .u8 (F:Int))/\w'.cell? ⟨g,p*3,none⟩=some (.slice Aa y.cells.length ca)/\w'.cell? ⟨g,p*3+1,none⟩=some (.slice Ba y.tin.length da)/\w'.cell? ⟨g,p*3+2,none⟩=some (.slice Da y.tout.length ea)) yP:=by
   have hk:∀ (a:Addr) (v:Value),a.block≠W.heap.size+1+1->zi.cell? a=some v->yP.cell? a=some v:=fun a v hne h=>zkG h (yA.block _ (World.block_lt_of_cell? zi _ h) hne);have h1:=vG.out;have h2:=mK.out;have h3:=HGG.out;have h4:=HAB.out;have h5:=ze.out.size;have h6:=zko r9.out;have h7:=yG.out.size;exact⟨hk _ _ (by show pb≠_;omega) yh.1.1,hk _ _ (by show nb≠_;omega) yh.1.2.1,hk _ _ (by show ab≠_;omega) yh.1.2.2.1,hk _ _ (by show W.heap.size+1≠_;omega) yh.1.2.2.2.1,hk _ _ (by show g≠_;omega) yh.1.2.2.2.2.1,hk _ _ (by show g≠_;omega) yh.1.2.2.2.2.2.1,hk _ _ (by show g≠_;omega) yh.1.2.2.2.2.2.2⟩
  refine zp 26 fun K hK=>?_;(try simp only[zQ]);go_simp
  try rw[hw18]
  refine hK.out _ _ hS18 ?_;clear hK K;(try simp only[zQ]);have yE:=zka aR.out yl;have HBW18:=zh (show Below W.heap.size W yP from yE.trans (yA.below yE.size fun q e=>by have e:q=W.heap.size+1+1:=e;omega));have HD18:=zh (show yP.heap[D]?=some (.deferred (some [])) from (yA.block D (Nat.lt_of_lt_of_le (Array.getElem?_eq_some_iff.1 zy.out).1 yl.size) (fun e=>by have e:D=W.heap.size+1+1:=e;have:=zH.out;have:=mK.out;omega)).trans ((yl.block D (Array.getElem?_eq_some_iff.1 zy.out).1).trans zy.out));have HH18:=zh hh18;clear hS18 yh hSS yE hh18 yA hw18 yJ rr rf yl wM hb17 dI wK hdw z1 z2 z3 z4 t0 t1 t2;refine zd ?_;refine NoPanic.normal ?_;go_wp2_with fail;refine⟨by simp,.inl ⟨_,_,rfl,run_takeDeferred HD18.out,?_⟩⟩
  have eD:(yP.putObj D (.deferred none)).heap[W.heap.size+1+1]?=some (.cells #[.bool true] 4 (0,0)):=(World.putObj_heap_other (show W.heap.size+1+1≠D by have:=zH.out;have:=mK.out;omega)).trans HH18.out;have r1:(yP.putObj D (.deferred none)).cell? ⟨W.heap.size+1+1,0,none⟩=some (.bool true):=zc eD rfl;have bI:=HBW18.out.trans ((Chg.putObj yP D (.deferred none)).below (B:=W.heap.size) HBW18.out.size (fun b hb=>by have:b=D:=hb;have:=zH.out;have:=mK.out;omega));exact⟨.bool true,by simp[results,Tryz.results11,go_sem,r1],rfl,bI⟩
end Go.Proofs.YtckhofdinldhpaaGreat
