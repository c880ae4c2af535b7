/-
  Texts of the proof, put together without their remarks: Rfv, En5, En6, En7, En8, Eno, Els, Wgo, Rfg, Rfx, Asp, Ssp, Sgr.
-/
import Derived.Test.YthjinpodhacleaaGreatB8
set_option linter.unusedSimpArgs false
set_option linter.unusedVariables false
set_option maxHeartbeats 8000000
set_option maxRecDepth 100000
namespace Go.Proofs.YthjinpodhacleaaGreat
open Tryz
section
open Go Go.RowKit
def zKK{α:Type}(Y:Nat->α->Array Value->Nat->World->Prop)(n:Nat)(P:Program)(gf:FuncId)(lb:Array Value)(xs:List α)(R:Nat->Prop)(W:World):Prop :=
 ∀(l:Nat) (J Jx:List α->(Nat->Prop)->World->Prop) (C:Nat->Prop) (W1:World),l<W1.heap.size->(∀b,C b->¬ R b)->Chg C W W1 ->
  (∀pre C W W',J pre C W->Chg (fun b=>¬ C b) W W'->J pre C W')->(∀pre C W,J pre C W->∀b,C b->b<W.heap.size) ->
  (∀pre x C W vs g,J pre C W->(∀b,C b->b<g)->(pre++[x]) <+: xs->Y l x vs g W ->
   YieldAt (Fw none) (n-1) P l vs W fun e W' =>
    (e=.returned (.bool true)/\∃C',J (pre++[x]) C' W'/\(∀b,C' b->C b\/g<=b)/\Chg C W W') \/
    (e=.returned (.bool false)/\∃C',Jx (pre++[x]) C' W'/\Chg C W W')) ->
  J [] C W1 ->
  CallsIn (Fw none) n P gf (#[.func (.yield l) #[] #[]]++lb) W1 fun e W'=>(∃v,e=.returned v)/\((∃C',J xs C' W'/\Chg C W1 W')\/(∃pre C',Jx pre C' W'/\Chg C W1 W'))
def zKe{α:Type}(I Ix:List α->(Nat->Prop)->World->Prop)(pre:List α)(C:Nat->Prop)(g:Nat)(W:World):Exit->Act->World->Prop
 | .normal,_,W'=>∃C',I pre C' W'/\(∀b,C' b->C b\/g<=b)/\Chg C W W'
 | .ret,_,W'=>∃C',Ix pre C' W'/\(∀b,C' b->C b\/g<=b)/\Chg C W W'
 | _,_,_=>False
theorem zs4{α:Type}{Y:Nat->α->Array Value->Nat->World->Prop}{n:Nat}{P:Program}{g:Operand}{ps:Array Tmp}{assign body:Code}{Q:Exit->Act->World->Prop}{a:Act}{w:World}{gf:FuncId}{lb:Array Value}{xs:List α}{R:Nat->Prop}
  (hg:a.eval g=.func (.func gf) #[] lb)(eg:∀args w,(callFunc gf args).run P w=.ok (.enter gf args) w)(hseq:zKK Y (n-1) P gf lb xs R w)(hps:∀l x vs g W,Y l x vs g W->vs.size=ps.size/\l<g)
  (I Ix:List α->(Nat->Prop)->World->Prop)(C0:Nat->Prop)(hI:∀pre C W W',I pre C W->Chg (fun b=>¬ C b) W W'->I pre C W')(hIx:∀pre C W W',Ix pre C W->Chg (fun b=>¬ C b) W W'->Ix pre C W')
  (hIlt:∀pre C W,I pre C W->∀b,C b->b<W.heap.size)(hIxlt:∀pre C W,Ix pre C W->∀b,C b->b<W.heap.size)(hC:∀b,C0 b->¬ R b)(hRlt:∀b,R b->b<w.heap.size)(h0:I [] C0 w)
  (jg:∀l pre x C W vs g,I pre C W->(∀b,C b->b<g)->¬ C l->w.heap.size<l->l<W.heap.size->(pre++[x]) <+: xs->Y l x vs g W ->
   assign.wpIn (Fw (some l)) (n-1-1) P (Exit.then (fun a1 W1=>Chg C W W1/\∀W2,Chg (· = l) W1 W2->body.wpIn (Fw (some l)) (n-1-1) P (zKe I Ix (pre++[x]) C g W2) a1 W2) (fun _ _ _=>False))
    { tmps:=(ps.zip vs).foldl (fun t (p,v)=>t.setIfInBounds p v) a.tmps,defers:=[] } W)
  (hdone:∀D C W',D=w.heap.size->I xs C W'->Chg C0 w W'->W'.heap[D]?=some (.deferred (some []))->Q .normal { a with defers:={ target:=.collected D,args := #[] }::a.defers } W')
  (hstop:∀D pre C W',D=w.heap.size->Ix pre C W'->Chg C0 w W'->W'.heap[D]?=some (.deferred (some []))->Code.ret.wpIn (Fw none) n P Q { a with defers:={ target:=.collected D,args := #[] }::a.defers } W') :
  (Code.rangeFunc g ps assign body).wpIn (Fw none) n P Q a w:=by
 refine wpIn_rangeFunc ?_;intro fn hfn;obtain⟨rec,hrec⟩:∃rec:LoopState->Option Code->Loop,rec=fun st pe=>{ state:=st,pending:=pe,fn,tmps:=a.tmps,params:=ps,assign,body,defers:=w.heap.size }:=⟨_,rfl⟩
 obtain⟨W1,hW1⟩:=zX ((w.alloc (.deferred (some []))).alloc (.loop (rec .ready none)));have hL1:W1.heap[w.heap.size+1]?=some (.loop (rec .ready none)):=by
  rw[<-hW1];have:=World.alloc_heap_new (w.alloc (.deferred (some []))) (.loop (rec .ready none));rwa[World.size_alloc]at this
 have hK1:W1.heap[w.heap.size]?=some (.deferred (some [])):=by
  rw[<-hW1];exact(Below.heap_alloc _ _ _ (by simp)).trans (World.alloc_heap_new w _)
 have hb1:Below w.heap.size w W1:=by rw[<-hW1];exact((Below.refl _ w).alloc zl _).alloc (by simp) _
 have hI1:I [] C0 W1:=hI _ _ _ _ h0 (Chg.of_below hb1);have iD:∀b,C0 b->b<w.heap.size:=hIlt _ _ _ h0;refine⟨w.heap.size+1,[{ target:=.collected w.heap.size,args := #[] }],W1,{ target:=.fn (.func gf) lb,args := #[.func (.yield (w.heap.size+1)) #[] #[]] },W1,gf,
  #[.func (.yield (w.heap.size+1)) #[] #[]]++lb,W1,?_,?_,(fun _ _=>trivial),?_,(fun e=>by cases e),?_⟩
 ·rw[<-hW1,hrec];exact run_enterLoop_outer _ _ _ _ _
 ·simp only[resolve,hg];simp[go_sem]
 ·simp[invoke,go_sem,eg]
 ·refine(hseq (w.heap.size+1)
   (fun pre C' W=>∃C,(∀b,C' b↔C b\/b=w.heap.size+1\/b=w.heap.size)/\I pre C W/\¬ C (w.heap.size+1)/\¬ C w.heap.size/\(∀b,C b->b<w.heap.size->C0 b)/\W.heap[w.heap.size+1]?=some (.loop (rec .ready none))/\W.heap[w.heap.size]?=some (.deferred (some [])))
   (fun pre C' W=>∃C,Ix pre C W/\¬ C (w.heap.size+1)/\W.heap[w.heap.size+1]?=some (.loop (rec .done (some .ret)))/\W.heap[w.heap.size]?=some (.deferred (some [])))
   (fun b=>C0 b\/b=w.heap.size+1\/b=w.heap.size) W1 (Array.getElem?_eq_some_iff.1 hL1).1 ?_ (Chg.of_below hb1) ?_ ?_ ?_ ⟨C0,fun _=>Iff.rfl,hI1,(fun h=>by have:=iD _ h;omega),(fun h=>by have:=iD _ h;omega),(fun _ h _=>h),hL1,hK1⟩).mono ?_
  ·intro b hb hr;have:=hRlt b hr;rcases hb with hb|hb|hb
   ·exact hC b hb hr
   ·omega
   ·omega
  ·rintro pre C' W W' ⟨C,hC',hi,h1,h2,h3,hl,hk⟩ hch;refine⟨C,hC',hI _ _ _ _ hi (hch.mono fun b _ hb hc=>hb ((hC' b).2 (.inl hc))),h1,h2,h3,hch.keep hl (fun h=>h ((hC' _).2 (.inr (.inl rfl)))),hch.keep hk (fun h=>h ((hC' _).2 (.inr (.inr rfl))))⟩
  ·rintro pre C' W ⟨C,hC',hi,h1,h2,h3,hl,hk⟩ b hb;rcases(hC' b).1 hb with hb|rfl|rfl
   ·exact hIlt _ _ _ hi b hb
   ·exact(Array.getElem?_eq_some_iff.1 hl).1
   ·exact(Array.getElem?_eq_some_iff.1 hk).1
  ·rintro pre x C' W vs g ⟨C,hC',hi,h1,h2,h3,hl,hk⟩ vR hpre hpv;have Am:=(hps _ _ _ _ _ hpv).2;have hlt:w.heap.size+1<W.heap.size:=(Array.getElem?_eq_some_iff.1 hl).1;have hy:=run_yield (P:=P) (args:=vs) hl (by rw[hrec];exact(hps _ _ _ _ _ hpv).1);rw[hrec]at hy;refine⟨fn,_,assign,body,hy,roundIn_of_wpIn hfn (wpIn_mono (jg (w.heap.size+1) pre x C W vs g hi (fun b hb=>vR b ((hC' b).2 (.inl hb))) h1 (by omega) hlt hpre hpv) ?_)⟩;rintro e a1 Wa kH
   cases e with
   | normal =>
    obtain⟨sI,hbody⟩:=kH;have hl1:=sI.keep hl h1;have hk1:=sI.keep hk h2;have hlt1:w.heap.size+1<Wa.heap.size:=(Array.getElem?_eq_some_iff.1 hl1).1;refine⟨_,run_beginRound hl1 (by rw[hrec]),?_⟩;have hl2:(Wa.putObj (w.heap.size+1) (.loop { rec .ready none with state:=.busy })).heap[w.heap.size+1]?=some (.loop { rec .ready none with state:=.busy }):=World.putObj_heap_same hlt1;have hk2:(Wa.putObj (w.heap.size+1) (.loop { rec .ready none with state:=.busy })).heap[w.heap.size]?=some (.deferred (some [])):=(World.putObj_heap_other (by omega)).trans hk1;have hc2:Chg (fun b=>C b\/b=w.heap.size+1) W (Wa.putObj (w.heap.size+1) (.loop { rec .ready none with state:=.busy })) :=
     (sI.mono fun _ _ h=>.inl h).trans2 (Chg.putObj Wa (w.heap.size+1) _) (fun b _ h=>.inr h)
    refine wpIn_mono (hbody _ (Chg.putObj _ _ _)) ?_;have fin:∀(jump:Option Code) (W3:World),Chg C (Wa.putObj (w.heap.size+1) (.loop { rec .ready none with state:=.busy })) W3 ->
      (Instr.endRound (w.heap.size+1) jump).run P W3=.ok (.bool jump.isNone) (W3.putObj (w.heap.size+1) (.loop (rec (if jump.isNone then .ready else .done) jump))) /\
      (W3.putObj (w.heap.size+1) (.loop (rec (if jump.isNone then .ready else .done) jump))).heap[w.heap.size+1]?=some (.loop (rec (if jump.isNone then .ready else .done) jump)) /\
      (W3.putObj (w.heap.size+1) (.loop (rec (if jump.isNone then .ready else .done) jump))).heap[w.heap.size]?=some (.deferred (some [])) /\
      Chg C' W (W3.putObj (w.heap.size+1) (.loop (rec (if jump.isNone then .ready else .done) jump))):=fun jump W3 hk3=>by
     have hl3:=hk3.keep hl2 h1;have:=run_endRound (P:=P) jump hl3;rw[hrec]at this ⊢;refine⟨this,World.putObj_heap_same (Array.getElem?_eq_some_iff.1 hl3).1,(World.putObj_heap_other (by omega)).trans (hk3.keep hk2 h2),?_⟩;have hA:Chg (fun b=>C b\/b=w.heap.size+1) W W3:=by
      have:=hc2;rw[hrec]at this hk3;exact this.trans2 hk3 (fun b _ h=>.inl h)
     exact(hA.trans2 (Chg.putObj W3 (w.heap.size+1) _) (fun b _ h=>.inr h)).mono fun b _ hb=>(hC' b).2 (by rcases hb with hb|hb;exact .inl hb;exact .inr (.inl hb))
    rintro e3 a3 W3 hp;have hsz:W.heap.size<=(Wa.putObj (w.heap.size+1) (.loop { rec .ready none with state:=.busy })).heap.size:=hc2.size
    cases e3 with
    | normal =>
     obtain⟨C3,hi3,jB,jm⟩:=hp;have dm:∀b,C3 b->C b\/g<=b:=jB;obtain⟨hr,hl4,hk4,dw⟩:=fin none W3 jm;have cz:¬ C3 (w.heap.size+1):=fun h=>by rcases dm _ h with h|h;exact h1 h;omega
     have rO:¬ C3 w.heap.size:=fun h=>by rcases dm _ h with h|h;exact h2 h;omega
     refine⟨_,_,hr,.inl ⟨rfl,fun b=>C3 b\/b=w.heap.size+1\/b=w.heap.size,⟨C3,fun _=>Iff.rfl,hI _ _ _ _ hi3 ((Chg.putObj _ _ _).mono fun b _ hb hc=>cz (hb▸hc)),cz,rO,?_,hl4,hk4⟩,?_,dw⟩⟩
     ·intro b hb hlt';rcases dm b hb with hb|hb
      ·exact h3 b hb hlt'
      ·omega
     ·intro b hb;rcases hb with hb|hb
      ·rcases dm b hb with hb|hb
       ·exact .inl ((hC' b).2 (.inl hb))
       ·exact .inr (by omega)
      ·exact .inl ((hC' b).2 (.inr hb))
    | ret =>
     obtain⟨C3,hi3,jB,jm⟩:=hp;have dm:∀b,C3 b->C b\/g<=b:=jB;obtain⟨hr,hl4,hk4,dw⟩:=fin (some .ret) W3 jm;have cz:¬ C3 (w.heap.size+1):=fun h=>by rcases dm _ h with h|h;exact h1 h;omega
     exact⟨_,_,hr,.inr ⟨rfl,fun _=>True,⟨C3,hIx _ _ _ _ hi3 ((Chg.putObj _ _ _).mono fun b _ hb hc=>cz (hb▸hc)),cz,hl4,hk4⟩,dw⟩⟩
    | exit id=>exact hp.elim
    | goto t=>exact hp.elim
    | panic ch=>exact hp.elim
    | outgrown=>exact hp.elim
   | exit id=>exact kH.elim
   | goto t=>exact kH.elim
   | ret=>exact kH.elim
   | panic ch=>exact kH.elim
   | outgrown=>exact kH.elim
  ·rintro e W2 ⟨⟨v,rfl⟩,(⟨C',⟨C,hC',hi,h1,h2,h3,hl,hk⟩,hch⟩|⟨pre,C',⟨C,hi,h1,hl,hk⟩,hch⟩)⟩
   all_goals
    have hw2:Chg C0 w W2:=((Chg.of_below hb1).trans2 hch fun b hb hc=>by rcases hc with hc|hc|hc;exact hc;omega;omega)
    have hfin:∀o,Chg C0 w (W2.putObj (w.heap.size+1) o):=fun o=>hw2.trans2 (Chg.putObj W2 (w.heap.size+1) o) fun b hb hc=>by omega
   ·exact⟨none,_,by have:=run_endLoop (P:=P) hl (by rw[hrec];simp);rw[hrec]at this;exact this,hdone _ C _ rfl (hI _ _ _ _ hi ((Chg.putObj W2 (w.heap.size+1) _).mono fun b _ (hb:b=w.heap.size+1) hc=>h1 (hb▸hc))) (hfin _) ((World.putObj_heap_other (by omega)).trans hk)⟩
   ·exact⟨some .ret,_,by have:=run_endLoop (P:=P) hl (by rw[hrec];simp);rw[hrec]at this;exact this,hstop _ pre C _ rfl (hIx _ _ _ _ hi ((Chg.putObj W2 (w.heap.size+1) _).mono fun b _ (hb:b=w.heap.size+1) hc=>h1 (hb▸hc))) (hfin _) ((World.putObj_heap_other (by omega)).trans hk)⟩
structure DK where
 l:Nat
 lb:Nat
 yb:Nat
 bb:Nat
 tb:Nat
 hb:Nat
 nb:Nat
 sb:Nat
 rb:Nat
 tr:Nat
 A:Option Addr
 c:Nat
 tc:Nat
abbrev ptr0(b:Nat):Value:=.pointer (some ⟨b,0,none⟩)
abbrev DK.cap1(Z:DK):Array Value := #[ptr0 Z.lb,ptr0 Z.yb,ptr0 Z.bb,ptr0 Z.tb,ptr0 Z.hb,ptr0 Z.nb]
abbrev DK.cap2(Z:DK):Array Value := #[ptr0 Z.lb,ptr0 Z.sb,ptr0 Z.hb,ptr0 Z.tb,ptr0 Z.nb]
structure DW(Z:DK)(bs:List Bn)(h:Nat)(B:Nat->Prop)(W:World):Prop where
 lists:W.heap[Z.lb]?=some (.cells #[.slice (some ⟨Z.rb,0,none⟩) bs.length bs.length] 41 (0,0))
 yld:W.heap[Z.yb]?=some (.cells #[.func (.yield Z.l) #[] #[]] 86 (0,0))
 ls:W.heap[Z.bb]?=some (.cells #[.slice Z.A bs.length Z.c] 83 (0,0))
 rest:W.heap[Z.tb]?=some (.cells #[.slice (some ⟨Z.tr,0,none⟩) (bs.length+1) Z.tc] 83 (0,0))
 hv:W.heap[Z.hb]?=some (.cells #[.int .i64 (h:Int)] 3 (0,0))
 num:W.heap[Z.nb]?=some (.cells #[.func (.func 71) #[] Z.cap2] 120 (0,0))
 slf:W.heap[Z.sb]?=some (.cells #[.func (.func 70) #[] Z.cap1] 119 (0,0))
 row:RowB W B Z.A bs
 rst:zrb W Z.tr h bs
 kb:B Z.lb/\B Z.yb/\B Z.bb/\B Z.tb/\B Z.hb/\B Z.nb/\B Z.sb/\B Z.tr
 lt:∀b,B b->b<W.heap.size
theorem DW.chg{Z:DK}{bs:List Bn}{h:Nat}{B D:Nat->Prop}{W W':World}(hd:DW Z bs h B W)(hc:Chg D W W')(hD:∀b,B b->¬ D b):DW Z bs h B W':=by
 obtain⟨h1,h2,h3,h4,h5,h6,h7,h8,h9,hk,hl⟩:=hd;obtain⟨k1,k2,k3,k4,k5,k6,k7,k8⟩:=hk;exact⟨hc.keep h1 (hD _ k1),hc.keep h2 (hD _ k2),hc.keep h3 (hD _ k3),hc.keep h4 (hD _ k4),hc.keep h5 (hD _ k5),hc.keep h6 (hD _ k6),hc.keep h7 (hD _ k7),h8.keep (fun _ h _=>h) fun b hb hlt=>hc.block b hlt (hD b hb),h9.keep (hc.block _ (hl _ k8) (hD _ k8)),⟨k1,k2,k3,k4,k5,k6,k7,k8⟩,fun b hb=>Nat.lt_of_lt_of_le (hl b hb) hc.size⟩
structure RowQ(Z:DK)(n:Nat)(W:World)(p:List (List Int))(m f:Nat->Nat):Prop where
 row:∃us:Array Value,W.heap[Z.rb]?=some (.cells us 42 (0,0))/\us.size=n/\∀j,j<p.length->us[j]?=some (.slice (some ⟨f j,0,none⟩) (m j) (m j))
 el:∀j (hj:j<p.length),∃vs:Array Value,W.heap[f j]?=some (.cells vs 3 (0,0))/\vs.size=m j/\p[j].length<=m j/\∀i (hi:i<p[j].length),vs[i]?=some (.int .i64 p[j][i])
 ne:∀j,j<p.length->f j≠Z.rb
 inj:∀i j,i<p.length->j<p.length->f i=f j->i=j
 fits:∀x∈p,∀e∈x,I64 e
theorem RowQ.lt{Z:DK}{n:Nat}{W:World}{p:List (List Int)}{m f:Nat->Nat}(h:RowQ Z n W p m f):Z.rb<W.heap.size/\∀j,j<p.length->f j<W.heap.size:=by
 obtain⟨us,hu,-⟩:=h.row;exact⟨zkf hu,fun j hj=>by obtain⟨vs,hv,-⟩:=h.el j hj;exact zkf hv⟩
theorem RowQ.chg{Z:DK}{n:Nat}{W W':World}{p:List (List Int)}{m f:Nat->Nat}{D:Nat->Prop}(h:RowQ Z n W p m f)(hc:Chg D W W')(h1:¬ D Z.rb)(h2:∀j,j<p.length->¬ D (f j)):RowQ Z n W' p m f:=by
 obtain⟨us,hu,hs,hr⟩:=h.row;refine⟨⟨us,hc.keep hu h1,hs,hr⟩,fun j hj=>?_,h.ne,h.inj,h.fits⟩;obtain⟨vs,hv,h3⟩:=h.el j hj;exact⟨vs,hc.keep hv (h2 j hj),h3⟩
structure SepQ(Z:DK)(B:Nat->Prop)(n:Nat)(f:Nat->Nat)(C:Nat->Prop):Prop where
 b:∀q,B q->¬ C q
 r:¬ C Z.rb
 fc:∀j,j<n->¬ C (f j)
 br:¬ B Z.rb
 bf:∀j,j<n->¬ B (f j)
theorem SepQ.grow{Z:DK}{bs:List Bn}{h:Nat}{B C C':Nat->Prop}{W:World}{p:List (List Int)}{m f:Nat->Nat}(hs:SepQ Z B p.length f C)(hd:DW Z bs h B W)(hq:RowQ Z bs.length W p m f)(hC:∀b,C' b->C b\/W.heap.size<=b):SepQ Z B p.length f C' :=
 ⟨fun q hq' h=>(hC q h).elim (hs.b q hq') fun h=>by have:=hd.lt q hq';omega,fun h=>(hC _ h).elim hs.r fun h=>by have:=hq.lt.1;omega,fun j hj h=>(hC _ h).elim (hs.fc j hj) fun h=>by have:=hq.lt.2 j hj;omega,hs.br,hs.bf⟩
def stOf(x:List (List Int)):SS:=⟨x.dropLast,x.getLastD [],[]⟩
def ztu(J Jx:List SS->(Nat->Prop)->World->Prop)(Z:DK)(n:Nat)(D:Nat->Prop)(pre xs:List SS)(p:List (List Int))(m f:Nat->Nat)(C:Nat->Prop)(W:World)(e:Ending)(W':World):Prop :=
 (e=.returned (.bool true)/\∃C',J (pre++xs) C' W'/\(∀b,C' b->C b\/W.heap.size<=b)/\Chg (fun b=>C b\/D b) W W'/\RowQ Z n W' p m f) \/
 (e=.returned (.bool false)/\∃pre' C',Jx pre' C' W'/\Chg (fun b=>C b\/D b) W W')
def YS(l:Nat)(s:SS)(vs:Array Value)(g:Nat)(W:World):Prop:=∃v,vs = #[v]/\SV W (fun q=>g<=q) s v/\l<g/\g<=W.heap.size
structure DB(bs:List Bn)(h:Nat):Prop where
 n:bs.length<=100
 b:∀b∈bs,b.1<=1000/\b.2<=1000
 hm:h<=10000
 h1:1<=h
 ne:1<=bs.length
theorem znM{p:List (List Int)}{n:Nat}(hn:p.length=n)(h1:1<=n):p.getLastD []=p[n-1]:=by
 have hne:p≠[]:=by rintro rfl;simp at hn;omega
 subst hn;rw[<-List.getLast_eq_getElem hne]
 cases p with
 | nil=>exact(hne rfl).elim
 | cons a p=>rfl
theorem RowQ.sv{Z:DK}{n:Nat}{W:World}{p:List (List Int)}{m f:Nat->Nat}(h:RowQ Z n W p m f)(hn:p.length=n)(h1:1<=n)(hn2:n<=100)(hf:∀j (hj:j<p.length),m j=p[j].length)(hm:∀j,j<p.length->m j<=1000) :
  SV W Any (stOf p) (.agg #[.slice (some ⟨Z.rb,0,none⟩) (n-1) n,.slice (some ⟨f (n-1),0,none⟩) (m (n-1)) (m (n-1)),.slice none 0 0]):=by
 obtain⟨us,hu,ik,hr⟩:=h.row;have hrow:∀j (hj:j<p.length),RowI W Any (some ⟨f j,0,none⟩) p[j]:=fun j hj i hi=>by
  obtain⟨vs,hv,h3,h4,h5⟩:=h.el j hj;refine⟨_,rfl,trivial,?_,h.fits _ (List.getElem_mem hj) _ (List.getElem_mem hi)⟩;rw[Addr.add_lit,Nat.zero_add];exact zc hv (h5 i hi)
 have hcl:(stOf p).cells.length=n-1:=by simp[stOf,hn]
 have htl:(stOf p).tin=p[n-1]:=znM hn h1;have hti:(stOf p).tin.length=m (n-1):=by rw[htl,hf (n-1) (by omega)]
 have hcg:∀i (hi:i<(stOf p).cells.length),(stOf p).cells[i]=p[i]'(by rw[hcl]at hi;omega):=fun i hi=>by simp[stOf]
 refine⟨some ⟨Z.rb,0,none⟩,n,some ⟨f (n-1),0,none⟩,m (n-1),none,0,by rw[hcl,hti];rfl,fun i hi=>?_,?_,fun i hi=>absurd hi (Nat.not_lt_zero i),by rw[hcl];omega,by rw[hti];exact zl,zl,?_⟩
 ·have vG:i<p.length:=by rw[hcl]at hi;omega
  have hl:(stOf p).cells[i].length=m i:=by rw[hcg i hi,hf i vG]
  refine⟨⟨Z.rb,0,none⟩,some ⟨f i,0,none⟩,m i,rfl,trivial,?_,by rw[hl];exact zl,?_⟩
  ·rw[Addr.add_lit,Nat.zero_add,hl];exact zc hu (hr i vG)
  ·rw[hcg i hi];exact hrow i vG
 ·rw[htl];exact hrow (n-1) (by omega)
 ·refine⟨by rw[hcl];unfold LI;omega,fun l hl=>?_,by rw[hti];have:=hm (n-1) (by omega);unfold LI;omega,Nat.zero_le _⟩;obtain⟨i,hi,rfl⟩:=List.mem_iff_getElem.1 hl;have vG:i<p.length:=by rw[hcl]at hi;omega
  rw[hcg i hi,<-hf i vG];have:=hm i vG;unfold LI;omega
def zxW(J Jx:List SS->(Nat->Prop)->World->Prop)(Z:DK)(bs:List Bn)(h:Nat)(B:Nat->Prop)(tot:List SS)(rs:List Bn):Prop :=
 ∀(p:List (List Int)) (m f:Nat->Nat) (pre:List SS) (C:Nat->Prop) (W:World) (left:Int),bs.drop p.length=rs->p.length<=bs.length->J pre C W->DW Z bs h B W->RowQ Z bs.length W p m f->SepQ Z B p.length f C ->
  (∀j (hj:j<p.length),m j=p[j].length)->(∀j,j<p.length->m j<=1000)->(0<=left/\left<=100000000000)->(pre++(zkT h rs left).map fun ls=>stOf (p++ls)) <+: tot ->
  Calls prog 70 (#[.int .i64 (p.length:Int),.int .i64 left]++Z.cap1) W (ztu J Jx Z bs.length (fun b=>b=Z.rb) pre ((zkT h rs left).map fun ls=>stOf (p++ls)) p m f C W)
def hdA(q:List Int):List (List Int)->List (List Int)
 | []=>[]
 | l::ls=>(q++l)::ls
def NumC(J Jx:List SS->(Nat->Prop)->World->Prop)(Z:DK)(bs:List Bn)(h:Nat)(B:Nat->Prop)(tot:List SS)(rs:List Bn)(k:Nat):Prop :=
 ∀(p:List (List Int)) (q:List Int) (m f:Nat->Nat) (pre:List SS) (C:Nat->Prop) (W:World) (left:Int),bs.drop (p.length+1)=rs->p.length+1<=bs.length->J pre C W->DW Z bs h B W->RowQ Z bs.length W (p++[q]) m f->SepQ Z B (p.length+1) f C ->
  (∀j (hj:j<p.length),m j=p[j].length)->(∀j,j<p.length+1->m j<=1000)->m p.length=q.length+k->(0<=left/\left<=100000000000)->(pre++(numE h rs (zkT h rs) k left).map fun z=>stOf (p++hdA q z)) <+: tot ->
  Calls prog 71 (#[.int .i64 (p.length:Int),.int .i64 (q.length:Int),.int .i64 left]++Z.cap2) W (ztu J Jx Z bs.length (fun b=>b=Z.rb\/b=f p.length) pre ((numE h rs (zkT h rs) k left).map fun z=>stOf (p++hdA q z)) (p++[q]) m f C W)
structure JC(J Jx:List SS->(Nat->Prop)->World->Prop)(n l:Nat)(tot:List SS):Prop where
 keep:∀pre C W W',J pre C W->Chg (fun b=>¬ C b) W W'->J pre C W'
 lt:∀pre C W,J pre C W->∀b,C b->b<W.heap.size
 y:∀pre x C W vs g,J pre C W->(∀b,C b->b<g)->(pre++[x]) <+: tot->YS l x vs g W->YieldAt (Fw none) (n-1) prog l vs W fun e W' =>
    (e=.returned (.bool true)/\∃C',J (pre++[x]) C' W'/\(∀b,C' b->C b\/g<=b)/\Chg C W W') \/
    (e=.returned (.bool false)/\∃C',Jx (pre++[x]) C' W'/\Chg C W W')
theorem zte:IsFn prog 31 f31:=⟨func31,by kernel_rfl,by kernel_rfl⟩
theorem bSt2(A B:Option Addr)(m d n e:Nat)(w:World):(Instr.build 44 #[(0,.slice A m d),(1,.slice B n e)]).run prog w=.ok (.agg #[.slice A m d,.slice B n e,.slice none 0 0]) w:=by kernel_rfl
theorem zwV{J Jx:List SS->(Nat->Prop)->World->Prop}{Z:DK}{bs:List Bn}{h nf:Nat}{B:Nat->Prop}{tot:List SS}(hj:JC J Jx nf Z.l tot)(hb:DB bs h)(hl:∀W,DW Z bs h B W->Z.l<W.heap.size):zxW J Jx Z bs h B tot []:=by
 intro p m f pre C W left hrs hpl hJ hD hQ hS hm hm2 hleft hpre;have hpn:p.length=bs.length:=by have:=congrArg List.length hrs;rw[List.length_drop]at this;simp at this;omega
 have hn1:=hb.ne;have hn2:=hb.n;obtain⟨n,hn⟩:=zX (bs.length);have hx:(zkT h [] left).map (fun ls=>stOf (p++ls))=[stOf p]:=by simp[zkT]
 rw[hx]at hpre ⊢;have hsv:=hQ.sv hpn hn1 hn2 hm hm2;obtain⟨us,hu,ik,hur⟩:=hQ.row;have x0:W.cell? ⟨Z.lb,0,none⟩=some (.slice (some ⟨Z.rb,0,none⟩) bs.length bs.length):=zc hD.lists rfl;have x1:W.cell? ⟨Z.yb,0,none⟩=some (.func (.yield Z.l) #[] #[]):=zc hD.yld rfl;have x2:W.cell? ⟨Z.rb,bs.length-1,none⟩=some (.slice (some ⟨f (bs.length-1),0,none⟩) (m (bs.length-1)) (m (bs.length-1))):=zc hu (hur _ (by omega));rw[hpn];rw[hn]at hpn hn1 hn2 x0 x2 hsv ⊢;have HJ:=zh hj;have kY:=zh hJ;have HD:=zh hD;have HQ:=zh hQ;have HS:=zh hS;have dI:=zh hpre;have nu:=zh hsv;have HN:=zh hn;have oz:=zh (show(stOf p).Lim from by obtain⟨_,_,_,_,_,_,_,_,_,_,_,_,_,h⟩:=hsv;exact h);have gK:=zh (hl W hD);have hwn:IntKind.i64.wrap ((n:Int)-1)=((n-1:Nat):Int):=by rw[show((n-1:Nat):Int)=(n:Int)-1 by omega];exact IntWalk.i64_in _ (by omega)
 clear hj hJ hD hQ hS hpre hsv hu hur hrs hm hm2 hleft hx hb hl hpl;obtain⟨F,hF⟩:=zX (f (n-1));obtain⟨M,hM⟩:=zX (m (n-1));rw[hF,hM]at x2 nu;go_enter func70,ntmps70;go_upto_region 2 with fail;have hp0:(0:Int)<=((n-1:Nat):Int):=by omega
 have hp1:((n-1:Nat):Int)<(n:Int):=by omega
 have hp2:((n-1:Nat):Int)<=(n:Int):=by omega
 go_quiet (fail)
 have hb2:=zkJ (zs W) nq;obtain⟨w2,hw2⟩:=zX (W.drewN nq);rw[hw2]at hb2;rw[hw2]
 replace x1:=zb hb2 x1
 have HB2:=zh hb2;clear hw2 hb2 x0 x2 hp0 hp1 hp2;go_upto_region 3 with fail;have hbs:=bSt2;have hSS:(fun w':World=>zv w' Z.yb 0 (.func (.yield Z.l) #[] #[])) w2.drew:=x1;refine wp_region_noPanic ?_;refine(wpIn_wide (n:=nf)).1 ?_;refine zmf (ro:=none) (fun w':World=>zv w' Z.yb 0 (.func (.yield Z.l) #[] #[])) (by kernel_rfl) ?_;clear x1;refine zI 0 hSS ?_;refine zI 1 hSS ?_;refine zI 2 hSS ?_;refine zI 3 hSS ?_;have hcl:=zqi (stOf p) _ w2.drew ((nu.out.later HB2.out).later zr.drew) (by simp only[stOf,List.length_dropLast];omega);have had:Calls prog 31 [.agg #[.slice (some ⟨Z.rb,0,none⟩) (n-1) n,.slice (some ⟨F,0,none⟩) M M,.slice none 0 0]].toArray w2.drew fun e w'=>∃u,e=.returned u/\(SV w' (fun q=>w2.heap.size<=q) (stOf p) u/\Below w2.heap.size w2 w') :=
  hcl.mono fun e w' ⟨v,h1,h2,h3⟩=>⟨v,h1,h2.svR oz.out,zka (zs w2).drew h3⟩
 refine zns (i:=4) (by kernel_rfl) rfl (by kernel_rfl) (by rfl) (fun K hK=>?_);refine zkd (by rfl) (.func 31) [.tmp 32] _ (by rfl) 31 _ zte (by rfl) _ (by rfl) _ had ?_;rintro v3 w3 ⟨hs3,hb3⟩;have aV:(fun w':World=>zv w' Z.yb 0 (.func (.yield Z.l) #[] #[])) w3:=zb hb3 hSS;refine hK.out _ _ aV ?_;clear hK K had hcl hSS;(try simp only[zQ]);have nZ:=zka HB2.out hb3;have qx:=HJ.out.keep _ _ _ _ kY.out (Chg.of_below nZ);obtain⟨yY,lW,za,yZ,zw,wF⟩:=HJ.out.y pre (stOf p) C w3 #[v3] w2.heap.size qx (fun b hb=>Nat.lt_of_lt_of_le (HJ.out.lt _ _ _ kY.out b hb) HB2.out.size) dI.out ⟨v3,rfl,hs3,(by have:=gK.out;have:=HB2.out.size;omega),hb3.size⟩;refine zqk (i:=5) (by kernel_rfl) rfl (by kernel_rfl) (by rfl) (l:=Z.l) (f:=yY) (tmps:=lW) (assign:=za) (body:=yZ) ?_ wF ?_
 ·(try simp only[zA,zB,zC]);go_simp
 ·clear zw wF;have HB3:=zh nZ;have ng:=zh (show W.heap.size<=w2.heap.size from HB2.out.size);rintro e W1 hR;have hy1:W1.heap[Z.yb]?=w3.heap[Z.yb]?:=by
   have hlt:=HD.out.lt _ HD.out.kb.2.1;have hnc:=HS.out.b _ HD.out.kb.2.1;rcases hR with⟨_,C1,_,_,hch⟩|⟨_,C1,_,hch⟩<;>exact hch.block _ (Nat.lt_of_lt_of_le hlt HB3.out.size) hnc
  have ed:(fun w':World=>zv w' Z.yb 0 (.func (.yield Z.l) #[] #[])) W1:=zkK aV hy1;have hfin:∃b:Bool,e=.returned (.bool b)/\ztu J Jx Z n (fun b=>b=Z.rb) pre [stOf p] p m f C W (.returned (.bool b)) W1:=by
   have hch':Chg C w3 W1->Chg (fun b=>C b\/b=Z.rb) W W1:=fun h=>(Chg.of_below HB3.out).trans2 h fun b _ h=>.inl h;rcases hR with⟨rfl,C1,hj1,bB,hch⟩|⟨rfl,C1,oV,hch⟩
   ·refine⟨true,rfl,.inl ⟨rfl,C1,hj1,fun b h=>(bB b h).imp id fun h=>Nat.le_trans ng.out h,hch' hch,?_⟩⟩;have h3:=HQ.out.chg (D:=C) ((Chg.of_below HB3.out).trans2 hch fun b _ h=>h) HS.out.r HS.out.fc;have:=HN.out;rwa[this]at h3
   ·exact⟨false,rfl,.inr ⟨rfl,_,C1,oV,hch' hch⟩⟩
  obtain⟨b,rfl,hP⟩:=hfin;have HP:=zh hP;refine⟨_,rfl,ed,?_⟩;(try simp only[zQ]);refine zI 6 ed ?_;refine znV (by kernel_rfl) ?_;refine NoPanic.normal ?_;clear hP hR hy1 ed qx hb3 hs3 nZ aV;go_wp2_with fail;go_ret;exact HP.out
section
variable {Z:DK} {n:Nat} {W W':World} {p:List (List Int)} {q:List Int} {m f:Nat->Nat}
theorem zqa{p:List (List Int)}{q:List Int}{j:Nat}(hj:j<(p++[q]).length):(j<p.length/\∃h:j<p.length,(p++[q])[j]=p[j])\/(j=p.length/\(p++[q])[j]=q):=by
 by_cases h:j<p.length
 ·exact .inl ⟨h,h,List.getElem_append_left h⟩
 ·have:j=p.length:=by simp at hj;omega
  subst this;exact .inr ⟨rfl,by simp⟩
theorem RowQ.pop{q':List Int}(h:RowQ Z n W (p++[q']) m f)(hq:q <+: q'):RowQ Z n W (p++[q]) m f:=by
 have hl:(p++[q']).length=(p++[q]).length:=by simp
 refine⟨by rw[<-hl];exact h.row,fun j hj=>?_,fun j hj=>h.ne j (by rw[hl];exact hj),fun i j hi hj=>h.inj i j (by rw[hl];exact hi) (by rw[hl];exact hj),fun x hx e he=>?_⟩
 ·obtain⟨vs,h1,h2,h3,h4⟩:=h.el j (by rw[hl];exact hj);rcases zqa hj with⟨hjp,_,e⟩|⟨rfl,e⟩
  ·have e2:(p++[q'])[j]'(by rw[hl];exact hj)=p[j]:=List.getElem_append_left hjp;simp only[e,e2]at h3 h4 ⊢;exact⟨vs,h1,h2,h3,h4⟩
  ·have e2:(p++[q'])[p.length]'(by simp)=q':=by simp
   simp only[e,e2]at h3 h4 ⊢;exact⟨vs,h1,h2,Nat.le_trans hq.length_le h3,fun i hi=>by rw[h4 i (Nat.lt_of_lt_of_le hi hq.length_le)];congr 2;exact(hq.getElem hi).symm⟩
 ·rcases List.mem_append.1 hx with hx|hx
  ·exact h.fits x (List.mem_append.2 (.inl hx)) e he
  ·obtain rfl:=List.mem_singleton.1 hx;exact h.fits q' (by simp) e (hq.subset he)
theorem RowQ.dropL(h:RowQ Z n W (p++[q]) m f):RowQ Z n W p m f:=by
 obtain⟨us,h1,h2,h3⟩:=h.row;refine⟨⟨us,h1,h2,fun j hj=>h3 j (by simp;omega)⟩,fun j hj=>?_,fun j hj=>h.ne j (by simp;omega),fun i j hi hj=>h.inj i j (by simp;omega) (by simp;omega),fun x hx=>h.fits x (List.mem_append.2 (.inl hx))⟩;obtain⟨vs,h1,h2,h3⟩:=h.el j (by simp;omega);simp only[List.getElem_append_left hj]at h3;exact⟨vs,h1,h2,h3⟩
theorem RowQ.put{x:Int}(h:RowQ Z n W (p++[q]) m f)(hm:q.length<m p.length)(hx:I64 x)(hc:Chg (fun b=>b=f p.length) W W')
  (hk:∀vs,W.heap[f p.length]?=some (.cells vs 3 (0,0))->W'.heap[f p.length]?=some (.cells (vs.setIfInBounds q.length (.int .i64 x)) 3 (0,0))):RowQ Z n W' (p++[q++[x]]) m f:=by
 have hl:(p++[q++[x]]).length=(p++[q]).length:=by simp
 have hpl:p.length<(p++[q]).length:=by simp
 obtain⟨us,h1,h2,h3⟩:=h.row;refine⟨⟨us,hc.keep h1 fun e=>h.ne _ hpl e.symm,h2,by rw[hl];exact h3⟩,fun j hj=>?_,fun j hj=>h.ne j (by rw[<-hl];exact hj),fun i j hi hj=>h.inj i j (by rw[<-hl];exact hi) (by rw[<-hl];exact hj),fun y hy e he=>?_⟩
 ·obtain⟨vs,v1,v2,v3,v4⟩:=h.el j (by rw[<-hl];exact hj);rcases zqa hj with⟨hjp,_,e⟩|⟨rfl,e⟩
  ·have e2:(p++[q])[j]'(by rw[<-hl];exact hj)=p[j]:=List.getElem_append_left hjp;simp only[e,e2]at v3 v4 ⊢;exact⟨vs,hc.keep v1 fun e=>by have:=h.inj _ _ (by rw[<-hl];exact hj) hpl e;omega,v2,v3,v4⟩
  ·have e2:(p++[q])[p.length]'(by simp)=q:=by simp
   simp only[e,e2]at v3 v4 ⊢;refine⟨_,hk vs v1,by simpa using v2,by rw[List.length_append];simp;omega,fun i hi=>?_⟩;by_cases hiq:i=q.length
   ·subst hiq;rw[Array.getElem?_setIfInBounds_self_of_lt (by omega)];simp
   ·have hi2:i<q.length:=by simp at hi;omega
    rw[Array.getElem?_setIfInBounds_ne (by omega),List.getElem_append_left hi2];exact v4 i hi2
 ·rcases List.mem_append.1 hy with hy|hy
  ·exact h.fits y (List.mem_append.2 (.inl hy)) e he
  ·obtain rfl:=List.mem_singleton.1 hy;rcases List.mem_append.1 he with he|he
   ·exact h.fits q (by simp) e he
   ·obtain rfl:=List.mem_singleton.1 he;exact hx
end
theorem zy7(q:List Int)(x:Int)(z:List (List Int)):hdA q (hdC x z)=hdA (q++[x]) z:=by
 cases z with
 | nil=>rfl
 | cons l ls=>simp[hdA,hdC]
theorem zy6(q:List Int)(ls:List (List Int))(p:List (List Int)):p++hdA q ([]::ls)=(p++[q])++ls:=by simp[hdA]
theorem zwK{J Jx:List SS->(Nat->Prop)->World->Prop}{Z:DK}{bs rs:List Bn}{h:Nat}{B:Nat->Prop}{tot:List SS}(hb:DB bs h)(hL:zxW J Jx Z bs h B tot rs):NumC J Jx Z bs h B tot rs 0:=by
 intro p q m f pre C W left hrs hpl hJ hD hQ hS hm hm2 hmk hleft hpre;have hx:(numE h rs (zkT h rs) 0 left).map (fun z=>stOf (p++hdA q z))=(zkT h rs left).map fun ls=>stOf ((p++[q])++ls):=by
  simp only[numE,List.map_map,Function.comp_def,zy6]
 rw[hx]at hpre ⊢;have hlen:(p++[q]).length=p.length+1:=by simp
 have hC:=hL (p++[q]) m f pre C W left (by rw[hlen];exact hrs) (by rw[hlen];exact hpl) hJ hD hQ (by rw[hlen];exact hS) (fun j hj=>by
  rcases zqa hj with⟨hjp,_,e⟩|⟨rfl,e⟩
  ·rw[e];exact hm j hjp
  ·rw[e];omega) (fun j hj=>hm2 j (by rw[<-hlen];exact hj)) hleft hpre
 rw[hlen]at hC;have HC:=zh hC;obtain⟨us,hu,ik,hur⟩:=hQ.row;have x0:W.cell? ⟨Z.lb,0,none⟩=some (.slice (some ⟨Z.rb,0,none⟩) bs.length bs.length):=zc hD.lists rfl;have x1:W.cell? ⟨Z.rb,p.length,none⟩=some (.slice (some ⟨f p.length,0,none⟩) (m p.length) (m p.length)):=zc hu (hur _ (by simp));have x2:W.cell? ⟨Z.sb,0,none⟩=some (.func (.func 70) #[] Z.cap1):=zc hD.slf rfl;rw[hmk,Nat.add_zero]at x1;have hbn:=hb.n;obtain⟨n,hn⟩:=zX (bs.length);rw[hn]at x0 hpl hbn;obtain⟨c,hc⟩:=zX (p.length);rw[hc]at x1 hpl ⊢;have hp1:(c:Int)<(n:Int):=by omega
 have hwc:IntKind.i64.wrap ((c:Int)+1)=((c+1:Nat):Int):=IntWalk.i64_in _ (by omega);have HN:=zh hn;have aH:=zh hc;obtain⟨R,hR⟩:=zX (ztu J Jx Z bs.length (fun b=>b=Z.rb) pre ((zkT h rs left).map fun ls=>stOf (p++[q]++ls)) (p++[q]) m f C W);have HR:=zh (show ∀e w',R e w'->ztu J Jx Z bs.length (fun b=>b=Z.rb\/b=f c) pre ((zkT h rs left).map fun ls=>stOf (p++[q]++ls)) (p++[q]) m f C W e w'/\∃b,e=.returned (.bool b)from fun e w' hr=>by
  rw[<-hR]at hr;rcases hr with⟨rfl,C',h1,h2,h3,h4⟩|⟨rfl,pre',C',h1,h2⟩
  ·exact⟨.inl ⟨rfl,C',h1,h2,h3.mono fun b _ h=>h.imp id .inl,h4⟩,_,rfl⟩
  ·exact⟨.inr ⟨rfl,pre',C',h1,h2.mono fun b _ h=>h.imp id .inl⟩,_,rfl⟩)
 rw[hR,hc]at HC;rw[HN.out]at HR ⊢;clear hJ hD hQ hS hpre hu hur ik hrs hm hm2 hmk hleft hx hb hL hlen hC hn hc hR;go_enter func71,ntmps71;go_wp2_with fail;refine HC.out.mono ?_;rintro e w2 hr;obtain⟨h1,b,rfl⟩:=HR.out e w2 hr;have H1:=zh h1;clear h1 hr;go_wp2_with fail;go_ret;exact H1.out
theorem zoz{α β:Type}(F:α->List β)(g:Nat->α){j n:Nat}(hj:j<n):(List.range j).flatMap (fun i=>F (g i))++F (g j) <+: (List.range n).flatMap (fun i=>F (g i)):=by
 have e:(List.range j).flatMap (fun i=>F (g i))++F (g j)=(List.range (j+1)).flatMap (fun i=>F (g i)):=by rw[List.range_succ,List.flatMap_append];simp
 rw[e];obtain⟨d,rfl⟩:∃d,n=(j+1)+d:=⟨n-(j+1),by omega⟩
 rw[List.range_add (n:=j+1) (m:=d),List.flatMap_append];exact List.prefix_append _ _
theorem zoi{β:Type}(F:Int->List β)(lo hi:Int):(ranE lo hi).flatMap F=(List.range (hi-lo+1).toNat).flatMap fun(i:Nat)=>F (lo+(i:Int)):=by
 unfold ranE;rw[List.flatMap_map]
theorem zwp{r:Int}(h0:0<=r)(h1:r<=1000000):I64 (unrk r):=by
 have:=ztO (v:=500000) h0 (by omega);unfold I64;omega
theorem zwL{J Jx:List SS->(Nat->Prop)->World->Prop}{Z:DK}{bs rs:List Bn}{h nf:Nat}{B:Nat->Prop}{tot:List SS}(hj:JC J Jx nf Z.l tot)(hb:DB bs h){k:Nat}(hN:NumC J Jx Z bs h B tot rs k):NumC J Jx Z bs h B tot rs (k+1):=by
 intro p q m f pre C W left hrs hpl hJ hD hQ hS hm hm2 hmk hleft hpre;obtain⟨us,hu,ik,hur⟩:=hQ.row;have hwb:=ztJ (bs:=rs) (h:=h) (by rw[<-hrs];exact zsN hb.b _) (by rw[<-hrs,List.length_drop];have:=hb.n;omega) hb.hm;have x0:W.cell? ⟨Z.lb,0,none⟩=some (.slice (some ⟨Z.rb,0,none⟩) bs.length bs.length):=zc hD.lists rfl;have x1:W.cell? ⟨Z.rb,p.length,none⟩=some (.slice (some ⟨f p.length,0,none⟩) (m p.length) (m p.length)):=zc hu (hur _ (by simp));have x2:W.cell? ⟨Z.hb,0,none⟩=some (.int .i64 (h:Int)):=zc hD.hv rfl;have x3:W.cell? ⟨Z.tb,0,none⟩=some (.slice (some ⟨Z.tr,0,none⟩) (bs.length+1) Z.tc):=zc hD.rest rfl;obtain⟨x4,x5⟩:=hD.rst (p.length+1) hpl;rw[hrs]at x4 x5;have hM:m p.length<=1000:=hm2 p.length (by omega);have hbn:=hb.n;have vL:=hb.hm;have kK:=hb.h1;obtain⟨n,hn⟩:=zX (bs.length);obtain⟨c,hc⟩:=zX (p.length);obtain⟨i,hi⟩:=zX (q.length);obtain⟨M,xm⟩:=zX (m p.length)
 obtain⟨F,hF⟩:=zX (f p.length);obtain⟨w0,hw0⟩:=zX (wlo rs);obtain⟨w1,hw1⟩:=zX (whi h rs);have hmk2:=hmk;rw[xm,hi]at hmk;rw[xm]at hM;rw[hw0,hw1]at hwb;rw[hn]at x0 x3 hpl hbn;rw[xm,hF,hc]at x1;rw[hc,hw0]at x4;rw[hc,hw1]at x5;rw[hc]at hpl;obtain⟨lo,hlo⟩:=zX (max 0 (left-1-(k:Int)*(h:Int)-w1));obtain⟨hi',hhi⟩:=zX (min ((h:Int)-1) (left-1-(k:Int)-(w0:Int)));have hkh:(0:Int)<=(k:Int)*(h:Int)/\(k:Int)*(h:Int)<=1000*10000:=⟨Int.mul_nonneg (by omega) (by omega),Int.mul_le_mul (by omega) (by omega) (by omega) (by omega)⟩
 have hlo0:0<=lo:=by omega
 have hlo1:lo<=100000000000:=by omega
 have hhi1:hi'<=10000:=by omega
 have hhi2 : -100000000000<=hi':=by omega
 obtain⟨G,hG⟩:∃G:Int->List SS,G=fun r=>(numE h rs (zkT h rs) k (left-1-r)).map fun z=>stOf (p++hdA (q++[unrk r]) z):=⟨_,rfl⟩
 have hX:(numE h rs (zkT h rs) (k+1) left).map (fun z=>stOf (p++hdA q z))=(List.range (hi'-lo+1).toNat).flatMap fun(j:Nat)=>G (lo+(j:Int)):=by
  rw[<-zoi,numE,List.map_flatMap,hw0,hw1,hlo,hhi,hG];simp only[List.map_map,Function.comp_def,zy7]
 rw[hX]at hpre ⊢;obtain⟨T,hT⟩:∃T:Nat,(hi'-lo+1).toNat=T:=⟨_,rfl⟩
 rw[hT]at hpre ⊢;have HJ:=zh hj;have kY:=zh hJ;have HD:=zh hD;have HQ:=zh hQ;have HS:=zh hS;have dI:=zh hpre;have HN:=zh hN;have HM:=zh hm;have xM:=zh hm2;have HMK:=zh hmk2;have fG:=zh hrs;have xH:=zh (show p.length+1<=bs.length by rw[hc,hn];exact hpl);have HG:=zh hG;have jN:=zh (show bs.length=n/\p.length=c/\q.length=i/\m p.length=M/\f p.length=F from⟨hn,hc,hi,xm,hF⟩);rw[hn,hF,hc,hi];clear hj hJ hD hQ hS hpre hu hur ik hrs hm hm2 hmk2 hX hb hN hn hc hi xm hF hw0 hw1 hG;have hp1:(c:Int)<(n:Int):=by omega
 have hp2:(0:Int)<=(c:Int)+1:=by omega
 have hp3:(c:Int)+1<(n:Int)+1:=by omega
 have hwc:IntKind.i64.wrap ((c:Int)+1)=(c:Int)+1:=IntWalk.i64_in _ (by omega);have hne:((i:Int)==(M:Int))=false:=by simp;omega
 have e1:IntKind.i64.wrap ((M:Int)-1)=(M:Int)-1:=IntWalk.i64_in _ (by omega);have e2:IntKind.i64.wrap ((M:Int)-1-(i:Int))=(k:Int):=by rw[show(M:Int)-1-(i:Int)=(k:Int) by omega];exact IntWalk.i64_in _ (by omega)
 have yL:=zh hmk;clear hmk;go_enter func71,ntmps71;go_upto_region 4 with fail;have e3:IntKind.i64.wrap (left-1)=left-1:=IntWalk.i64_in _ (by omega);have e4:IntKind.i64.wrap ((k:Int)*(h:Int))=(k:Int)*(h:Int):=IntWalk.i64_in _ (by omega);have e5:IntKind.i64.wrap (left-1-(k:Int)*(h:Int))=left-1-(k:Int)*(h:Int):=IntWalk.i64_in _ (by omega);have e6:IntKind.i64.wrap (left-1-(k:Int)*(h:Int)-w1)=left-1-(k:Int)*(h:Int)-w1:=IntWalk.i64_in _ (by omega)
 go_region
 have hbd:=(zs W).drew;obtain⟨wA,wI⟩:=zX (W.drew);rw[wI]at hbd ⊢
 replace x0:=zb hbd x0
 replace x1:=zb hbd x1
 replace x2:=zb hbd x2
 replace x3:=zb hbd x3
 replace x4:=zb hbd x4
 clear wI x5 e4 e5 e6;go_upto_region 5 with fail;have e4:IntKind.i64.wrap ((h:Int)-1)=(h:Int)-1:=IntWalk.i64_in _ (by omega);have e5:IntKind.i64.wrap (left-1-(k:Int))=left-1-(k:Int):=IntWalk.i64_in _ (by omega);have e6:IntKind.i64.wrap (left-1-(k:Int)-(w0:Int))=left-1-(k:Int)-(w0:Int):=IntWalk.i64_in _ (by omega)
 go_region
 have jq:=hbd.trans (Below.refl W.heap.size wA |>.mono zl |>.drew);obtain⟨wB,wH⟩:=zX (wA.drew);rw[wH]at jq ⊢;have bF:=zh jq;clear wH x0 x1 x2 x3 x4 e4 e5 e6 hbd jq hwc e1 e2 e3 hp2 hp3;have e1:IntKind.i64.wrap (hi'-lo)=hi'-lo:=IntWalk.i64_in _ (by omega);have e2:IntKind.i64.wrap (hi'-lo+1)=hi'-lo+1:=IntWalk.i64_in _ (by omega);go_wp2_with fail
 go_loopw [68] (fun iv wr=>∃(j:Nat) (C':Nat->Prop),j<=T/\iv=.int .i64 j/\Hid (J (pre++(List.range j).flatMap fun(i:Nat)=>G (lo+(i:Int))) C' wr/\(∀b,C' b->C b\/W.heap.size<=b)/\Chg (fun b=>C b\/b=Z.rb\/b=F) W wr/\RowQ Z bs.length wr (p++[q]) m f)) (fun iv _=>T-(intOf iv).toNat)
 case atStart=>exact⟨0,C,Nat.zero_le _,rfl,zh ⟨by rw[List.range_zero,List.flatMap_nil,List.append_nil];exact HJ.out.keep _ _ _ _ kY.out (Chg.of_below bF.out),fun b h=>.inl h,Chg.of_below bF.out,HQ.out.chg (Chg.of_below (C:=fun _=>False) bF.out) id fun _ _=>id⟩⟩
 case round =>
  obtain⟨j,C',hjT,rfl,HI⟩:=hrel;by_cases hlt:j<T
  ·obtain⟨i1,i2,i3,i4⟩:=HI.out;have hDn:∀b,B b->¬ (C b\/b=Z.rb\/b=F):=fun b hb h=>by
    rcases h with h|rfl|rfl
    ·exact HS.out.b _ hb h
    ·exact HS.out.br hb
    ·have:=jN.out.2.2.2.2;subst this;exact HS.out.bf _ (Nat.lt_succ_self _) hb
   have hD2:=HD.out.chg i3 hDn;have hS2:=SepQ.grow (p:=p++[q]) (by rw[show(p++[q]).length=p.length+1 by simp];exact HS.out) HD.out HQ.out i2;obtain⟨us,hu,ik,hur⟩:=i4.row;obtain⟨vs,hv,hvs,hv3,hv4⟩:=i4.el p.length (by simp);obtain⟨g1,g2,g3,g4,g5⟩:=jN.out;rw[g4]at hvs;rw[g5]at hv;have x0:wr.cell? ⟨Z.lb,0,none⟩=some (.slice (some ⟨Z.rb,0,none⟩) n n):=by rw[<-g1];exact zc hD2.lists rfl
   have x1:wr.cell? ⟨Z.rb,c,none⟩=some (.slice (some ⟨F,0,none⟩) M M):=by have h:=hur p.length (by simp);rw[g4,g5]at h;rw[<-g2];exact zc hu h
   obtain⟨z,hz⟩:∃z,vs[i]?=some z:=⟨_,Array.getElem?_eq_getElem (by have:=yL.out;omega)⟩
   have x2:wr.cell? ⟨F,i,none⟩=some z:=zc hv hz;have cf:∀o,wr.frozen? ⟨F,o,none⟩=false:=fun o=>zf hv;obtain⟨r,hr⟩:=zX (lo+(j:Int));have hr0:0<=r/\r<=10000:=by omega
   have hwr:IntKind.i64.wrap (lo+(j:Int))=r:=by rw[hr];exact IntWalk.i64_in _ (by omega)
   obtain⟨x,hx⟩:=zX (unrk r);have q9:I64 x:=by rw[<-hx];exact zwp hr0.1 (by omega)
   have HU:=zh (fun w'=>hx▸ztq r w' (by omega));have hj1:(j:Int)<hi'-lo+1:=by omega
   have hi0:(0:Int)<=(i:Int):=by omega
   have hiM:(i:Int)<(M:Int):=by have:=yL.out;omega
   obtain⟨w5,mg,dA,lG⟩:=setU (o:=i) (.int .i64 x) hv;have hD5:=hD2.chg dA.drew fun b hb (e:b=F)=>by rw[<-g5]at e;rw[e]at hb;exact HS.out.bf _ (Nat.lt_succ_self _) hb
   have vM:RowQ Z bs.length w5.drew (p++[q++[x]]) m f:=i4.put (by rw[g3,g4];have:=yL.out;omega) q9 (by rw[g5];exact dA.drew) (fun vs' h'=>by
    rw[g5]at h' ⊢;rw[g3];rw[hv]at h';injection h' with h';injection h' with h';subst h';exact lG)
   have xn:=HJ.out.keep _ _ _ _ i1 (dA.drew.mono fun b _ (e:b=F) hb=>by rw[<-g5]at e;rw[e]at hb;exact hS2.fc p.length (by simp) hb);have hin:(pre++(List.range j).flatMap fun(i:Nat)=>G (lo+(i:Int)))++G r <+: tot:=by
    refine List.IsPrefix.trans ?_ dI.out;rw[List.append_assoc,<-hr];exact(List.prefix_append_right_inj pre).2 (zoz (F:=G) (g:=fun(i:Nat)=>lo+(i:Int)) hlt)
   have tH:G r=(numE h rs (zkT h rs) k (left-1-r)).map fun z=>stOf (p++hdA (q++[x]) z):=by rw[HG.out,<-hx]
   have hcall:=HN.out p (q++[x]) m f _ C' w5.drew (left-1-r) fG.out xH.out xn hD5 vM (by rw[show(p++[q]).length=p.length+1 by simp]at hS2;exact hS2) HM.out xM.out (by rw[HMK.out,List.length_append];simp;omega) (by omega) (by rw[<-tH];exact hin);rw[<-tH]at hcall;have hlq:(q++[x]).length=i+1:=by rw[List.length_append,g3];rfl
   rw[hlq,g5,g2]at hcall;have nO:=zh hcall;have y0:w5.drew.cell? ⟨Z.nb,0,none⟩=some (.func (.func 71) #[] Z.cap2):=zc hD5.num rfl;have hwi:IntKind.i64.wrap ((i:Int)+1)=((i+1:Nat):Int):=IntWalk.i64_in _ (by have:=yL.out;omega);have hwl0:IntKind.i64.wrap (left-1)=left-1:=IntWalk.i64_in _ (by omega);have hwl:IntKind.i64.wrap (left-1-lo)=left-1-lo:=IntWalk.i64_in _ (by omega);have hwl2:IntKind.i64.wrap (left-1-lo-(j:Int))=left-1-r:=by rw[show left-1-lo-(j:Int)=left-1-r by omega];exact IntWalk.i64_in _ (by omega)
   have vD:IntKind.i64.wrap ((j:Int)+1)=(j:Int)+1:=IntWalk.i64_in _ (by omega);have hstep:(List.range (j+1)).flatMap (fun(i:Nat)=>G (lo+(i:Int)))=((List.range j).flatMap fun(i:Nat)=>G (lo+(i:Int)))++G r:=by rw[List.range_succ,List.flatMap_append,<-hr];simp
   have HST:=zh hstep;have fK:=zh (show Chg (fun b=>C b\/b=Z.rb\/b=F) W w5.drew/\W.heap.size<=w5.drew.heap.size from⟨i3.trans2 dA.drew fun b _ e=>.inr (.inr e),Nat.le_trans i3.size dA.drew.size⟩);have HR:=zh hr;have HX:=zh hx;have HX64:=zh q9;have HD2:=zh hD2;have HS2:=zh hS2;have HVS:=zh (And.intro hv hvs);have bO:=zh dA;have HH5:=zh lG;clear i1 i2 i3 i4 hDn hD2 hS2 hu ik hur hv hvs hv3 hv4 g1 g2 g3 g4 g5 hz hr hx q9 dA lG hD5 vM xn hin tH hcall hlq hstep;go_upto_region 9 with fail
   go_region_with (refine(HU.out _).mono ?_;rintro e w9 ⟨rfl,rfl⟩)
   all_goals
    clear x0 x1 x2 cf mg;go_wp2_with fail;refine nO.out.mono ?_;rintro e w6 (⟨rfl,C6,j6,c6,h6,q6⟩|⟨rfl,pre6,C6,j6,h6⟩)
    ·have iH:=zh (show J (pre++(List.range (j+1)).flatMap fun(i:Nat)=>G (lo+(i:Int))) C6 w6/\(∀b,C6 b->C b\/W.heap.size<=b)/\Chg (fun b=>C b\/b=Z.rb\/b=F) W w6/\RowQ Z bs.length w6 (p++[q]) m f from
      ⟨by rw[HST.out,<-List.append_assoc];exact j6,fun b hb=>(c6 b hb).elim (HI.out.2.1 b) fun h=>.inr (Nat.le_trans fK.out.2 h),fK.out.1.trans2 h6 fun b hb h=>h.elim (fun h=>(HI.out.2.1 b h).elim .inl fun h=>by omega) .inr,q6.pop (List.prefix_append _ _)⟩)
     clear j6 c6 h6 q6 y0;go_wp2_with fail
     go_roundw
     case rel=>exact⟨j+1,C6,by omega,by go_num,iH⟩
     case measure=>simp[intOf];omega
    ·have iH:=zh (show Jx pre6 C6 w6/\Chg (fun b=>C b\/b=Z.rb\/b=F) W w6 from⟨j6,fK.out.1.trans2 h6 fun b hb h=>h.elim (fun h=>(HI.out.2.1 b h).elim .inl fun h=>by omega) .inr⟩);clear j6 h6 y0;go_wp2_with fail;go_ret;exact .inr ⟨rfl,pre6,C6,iH.out.1,iH.out.2⟩
  ·obtain rfl:j=T:=by omega
   have hj1:¬ (j:Int)<hi'-lo+1:=by omega
   go_wp2_with fail;go_ret;obtain⟨i1,i2,i3,i4⟩:=HI.out;have:=jN.out.1;rw[this]at i4;exact .inl ⟨rfl,C',i1,i2,i3,i4⟩
section
variable {Z:DK} {n:Nat} {W W':World} {p:List (List Int)} {m f m' f':Nat->Nat}
theorem RowQ.congr(h:RowQ Z n W p m' f')(he:∀j,j<p.length->m' j=m j/\f' j=f j):RowQ Z n W p m f:=by
 obtain⟨us,h1,h2,h3⟩:=h.row;refine⟨⟨us,h1,h2,fun j hj=>by rw[h3 j hj,(he j hj).1,(he j hj).2]⟩,fun j hj=>?_,fun j hj=>by rw[<-(he j hj).2];exact h.ne j hj,fun i j hi hj e=>h.inj i j hi hj (by rw[(he i hi).2,(he j hj).2];exact e),h.fits⟩;have:=h.el j hj;rwa[(he j hj).1,(he j hj).2]at this
theorem RowQ.new{M:Nat}{W1 W2:World}(h:RowQ Z n W p m f)(hp:p.length<n)(h1:W1=W.alloc (.cells (madeCells #[.int .i64 0] M) 3))(hc:Chg (fun b=>b=Z.rb) W1 W2)
  (hk:∀us,W1.heap[Z.rb]?=some (.cells us 42 (0,0))->W2.heap[Z.rb]?=some (.cells (us.setIfInBounds p.length (.slice (some ⟨W.heap.size,0,none⟩) M M)) 42 (0,0))) :
  RowQ Z n W2 (p++[[]]) (fun j=>if j=p.length then M else m j) (fun j=>if j=p.length then W.heap.size else f j):=by
 have hb:Below W.heap.size W W1:=by rw[h1];exact zkb zr _
 have hn:W1.heap[W.heap.size]?=some (.cells (madeCells #[.int .i64 0] M) 3 (0,0)):=by rw[h1];exact heap_alloc_new W _
 obtain⟨us,u1,u2,u3⟩:=h.row;have hl:=h.lt;have hlen:(p++[[]]).length=p.length+1:=by simp
 refine⟨⟨_,hk us (zkc u1 hb),by simpa using u2,fun j hj=>?_⟩,fun j hj=>?_,fun j hj=>?_,fun i j hi hj e=>?_,fun x hx e he=>?_⟩
 ·by_cases e:j=p.length
  ·subst e;simp only[if_true];rw[Array.getElem?_setIfInBounds_self_of_lt (by omega)]
  ·simp only[e,if_false];rw[Array.getElem?_setIfInBounds_ne (by omega)];exact u3 j (by omega)
 ·rcases zqa hj with⟨hjp,_,e⟩|⟨rfl,e⟩
  ·have hne:j≠p.length:=by omega
   simp only[e,hne,if_false];obtain⟨vs,v1,v2⟩:=h.el j hjp;exact⟨vs,hc.keep (zkc v1 hb) (h.ne j hjp),v2⟩
  ·simp only[e,if_true];exact⟨_,hc.keep hn fun e=>by have e:W.heap.size=Z.rb:=e;omega,by rw[size_madeCells],Nat.zero_le _,fun i hi=>absurd hi (Nat.not_lt_zero i)⟩
 ·by_cases e:j=p.length
  ·simp only[e,if_true];omega
  ·simp only[e,if_false];exact h.ne j (by omega)
 ·split at e<;>split at e
  ·omega
  ·have:=hl.2 j (by omega);omega
  ·have:=hl.2 i (by omega);omega
  ·exact h.inj i j (by omega) (by omega) e
 ·rcases List.mem_append.1 hx with hx|hx
  ·exact h.fits x hx e he
  ·obtain rfl:=List.mem_singleton.1 hx;cases he
end
theorem zuz{J Jx:List SS->(Nat->Prop)->World->Prop}{Z:DK}{bs rs:List Bn}{h nf:Nat}{B:Nat->Prop}{tot:List SS}{p:List (List Int)}{m f:Nat->Nat}{pre:List SS}{C:Nat->Prop}{W:World}{left:Int}{n c l0 l1 w0 T:Nat}{w1 Q lo hi':Int}{a:Addr}{G:Int->List SS}
  (x0:W.cell? ⟨Z.lb,0,none⟩=some (.slice (some ⟨Z.rb,0,none⟩) n n))(x2:W.cell? ⟨Z.hb,0,none⟩=some (.int .i64 (h:Int)))(x3:W.cell? ⟨Z.tb,0,none⟩=some (.slice (some ⟨Z.tr,0,none⟩) (n+1) Z.tc))(x1:W.cell? ⟨Z.bb,0,none⟩=some (.slice (some a) n Z.c))
  (x4:W.cell? ⟨Z.tr,(c+1)*2,none⟩=some (.int .i64 (w0:Int)))(x5:W.cell? ⟨Z.tr,(c+1)*2+1,none⟩=some (.int .i64 w1))(x6:W.cell? (a.add (c*2))=some (.int .i64 (l0:Int)))(x7:W.cell? ⟨(a.add (c*2)).block,(a.add (c*2)).off+1,none⟩=some (.int .i64 (l1:Int)))
  (hwb:w0<=1000000/\0<=w1/\w1<=10000000000)(hbb:l0<=1000/\l1<=1000)(hbn:n<=100)(vL:h<=10000)(kK:1<=h)(hcn:c<n)(hleft:0<=left/\left<=100000000000)
  (xk:(left-w1+(h:Int)-1).tdiv (h:Int)=Q)(xh : -100000010000<=Q/\Q<=100000010000)(hlo:max (l0:Int) Q=lo)(hhi:min (l1:Int) (left-(w0:Int))=hi')(hlo0:0<=lo)(hlo1:lo<=100000010000)(hhi1:hi'<=1000)(hhi2 : -100000000000<=hi')(hT:(hi'-lo+1).toNat=T)
  (HJ:Hid (JC J Jx nf Z.l tot))(kY:Hid (J pre C W))(HD:Hid (DW Z bs h B W))(HQ:Hid (RowQ Z bs.length W p m f))(HS:Hid (SepQ Z B p.length f C))(dI:Hid ((pre++(List.range T).flatMap fun(j:Nat)=>G (lo+(j:Int))) <+: tot))(HN:Hid (∀k,NumC J Jx Z bs h B tot rs k))
  (HM:Hid (∀j (hj:j<p.length),m j=p[j].length))(xM:Hid (∀j,j<p.length->m j<=1000))(fG:Hid (bs.drop (p.length+1)=rs))(HG:Hid (G=fun r=>(numE h rs (zkT h rs) r.toNat left).map fun z=>stOf (p++hdA [] z)))(jN:Hid (bs.length=n/\p.length=c/\p.length+1<=bs.length)) :
  Calls prog 70 (#[.int .i64 (c:Int),.int .i64 left]++Z.cap1) W (ztu J Jx Z n (fun b=>b=Z.rb) pre ((List.range T).flatMap fun(j:Nat)=>G (lo+(j:Int))) p m f C W):=by
 have hp1:(c:Int)<(n:Int):=by omega
 have hp2:(0:Int)<=(c:Int)+1:=by omega
 have hp3:(c:Int)+1<(n:Int)+1:=by omega
 have hwc:IntKind.i64.wrap ((c:Int)+1)=(c:Int)+1:=IntWalk.i64_in _ (by omega);have hne:((c:Int)==(n:Int))=false:=by simp;omega
 have hh0:¬ (h:Int)=0:=by omega
 have e3:IntKind.i64.wrap (left-w1)=left-w1:=IntWalk.i64_in _ (by omega);have e4:IntKind.i64.wrap (left-w1+(h:Int))=left-w1+(h:Int):=IntWalk.i64_in _ (by omega);have e5:IntKind.i64.wrap (left-w1+(h:Int)-1)=left-w1+(h:Int)-1:=IntWalk.i64_in _ (by omega);have e6:IntKind.i64.wrap Q=Q:=IntWalk.i64_in _ (by omega);have qV:=zh (And.intro hwb (And.intro hbb (And.intro hlo0 (And.intro hlo1 (And.intro hhi1 (And.intro hhi2 (And.intro xh (And.intro hleft (And.intro hbn (And.intro vL (And.intro kK hcn)))))))))));have HHI:=zh hhi;have tY:=zh hT;clear hwb hbb hlo0 hlo1 hhi1 hhi2 xh hleft hbn vL kK hcn hhi hT;go_enter func70,ntmps70;go_upto_region 4 with fail
 go_region
 have hbd:=(zs W).drew;obtain⟨wA,wI⟩:=zX (W.drew);rw[wI]at hbd ⊢
 replace x0:=zb hbd x0
 replace x1:=zb hbd x1
 replace x3:=zb hbd x3
 replace x4:=zb hbd x4
 replace x7:=zb hbd x7
 clear wI x2 x5 x6 e3 e4 e5 e6 hlo xk;have hhi:=HHI.out;have e4:IntKind.i64.wrap (left-(w0:Int))=left-(w0:Int):=IntWalk.i64_in _ (by have:=qV.out;omega);go_upto_region 5 with fail
 go_region
 have jq:=hbd.trans (Below.refl W.heap.size wA |>.mono zl |>.drew);obtain⟨wB,wH⟩:=zX (wA.drew);rw[wH]at jq ⊢;have bF:=zh jq;clear wH x0 x1 x3 x4 x7 e4 hbd jq hwc hp2 hp3;clear hhi;obtain⟨hwb,hbb,hlo0,hlo1,hhi1,hhi2,xh,hleft,hbn,vL,kK,hcn⟩:=qV.out;have hT:=tY.out;have e1:IntKind.i64.wrap (hi'-lo)=hi'-lo:=IntWalk.i64_in _ (by omega);have e2:IntKind.i64.wrap (hi'-lo+1)=hi'-lo+1:=IntWalk.i64_in _ (by omega);go_wp2_with fail
 go_loopw [72] (fun iv wr=>∃(j:Nat) (C':Nat->Prop),j<=T/\iv=.int .i64 j/\Hid (J (pre++(List.range j).flatMap fun(i:Nat)=>G (lo+(i:Int))) C' wr/\(∀b,C' b->C b\/W.heap.size<=b)/\Chg (fun b=>C b\/b=Z.rb) W wr/\RowQ Z bs.length wr p m f)) (fun iv _=>T-(intOf iv).toNat)
 case atStart=>exact⟨0,C,Nat.zero_le _,rfl,zh ⟨by rw[List.range_zero,List.flatMap_nil,List.append_nil];exact HJ.out.keep _ _ _ _ kY.out (Chg.of_below bF.out),fun b h=>.inl h,Chg.of_below bF.out,HQ.out.chg (Chg.of_below (C:=fun _=>False) bF.out) id fun _ _=>id⟩⟩
 case round =>
  obtain⟨j,C',hjT,rfl,HI⟩:=hrel;by_cases hlt:j<T
  ·obtain⟨i1,i2,i3,i4⟩:=HI.out;have hDn:∀b,B b->¬ (C b\/b=Z.rb):=fun b hb h=>by
    rcases h with h|rfl
    ·exact HS.out.b _ hb h
    ·exact HS.out.br hb
   have hD2:=HD.out.chg i3 hDn;have hS2:=SepQ.grow HS.out HD.out HQ.out i2;obtain⟨us,hu,ik,hur⟩:=i4.row;obtain⟨g1,g2,g4⟩:=jN.out;have x0:wr.cell? ⟨Z.lb,0,none⟩=some (.slice (some ⟨Z.rb,0,none⟩) n n):=by rw[<-g1];exact zc hD2.lists rfl
   obtain⟨M,hM⟩:∃M:Nat,lo+(j:Int)=(M:Int):=⟨(lo+(j:Int)).toNat,by omega⟩
   have hM1:M<=1000:=by omega
   have hwr:IntKind.i64.wrap (M:Int)=(M:Int):=IntWalk.i64_in _ (by omega);have hmk:=bMkI M (by omega) wr.drew;have hj1:(j:Int)<hi'-lo+1:=by omega
   have aM:Below wr.heap.size wr (wr.drew.alloc (.cells (madeCells #[.int .i64 0] M) 3)):=zkb (zs wr).drew _;obtain⟨w9,dC⟩:=zX (wr.drew.alloc (.cells (madeCells #[.int .i64 0] M) 3));rw[dC]at aM hmk;have wK:=zkc hu aM;obtain⟨g,hg⟩:=zX (wr.drew.heap.size);rw[hg]at hmk;obtain⟨w5,mg,dA,lG⟩:=setU (o:=c) (.slice (some ⟨g,0,none⟩) M M) wK;obtain⟨z,hz⟩:∃z,us[c]?=some z:=⟨_,Array.getElem?_eq_getElem (by omega)⟩
   have x2:w9.cell? ⟨Z.rb,c,none⟩=some z:=zc wK hz;have cf:∀o,w9.frozen? ⟨Z.rb,o,none⟩=false:=fun o=>zf wK;have hD5:=(hD2.chg (Chg.of_below aM (C:=fun _=>False)) fun _ _=>id).chg dA fun b hb (e:b=Z.rb)=>by rw[e]at hb;exact HS.out.br hb
   have vM:=RowQ.new (W:=wr.drew) (M:=M) (W2:=w5) (i4.chg (Chg.of_below (zs wr).drew (C:=fun _=>False)) id fun _ _=>id) (by omega) dC.symm dA (fun us' h'=>by
    rw[wK]at h';injection h' with h';injection h' with h';subst h';rw[hg,g2];exact lG)
   rw[hg]at vM;have xn:=HJ.out.keep _ _ _ _ i1 (((Chg.of_below aM).trans (dA.mono fun b _ (e:b=Z.rb) hb=>by rw[e]at hb;exact hS2.r hb):Chg (fun b=>¬ C' b) wr w5));have hgw:g=wr.heap.size:=hg.symm;have vR:∀b,C' b->b<g:=fun b hb=>by rw[hgw];exact HJ.out.lt _ _ _ i1 b hb
   have hBg:∀b,B b->b<g:=fun b hb=>by rw[hgw];exact hD2.lt b hb
   have hS5:SepQ Z B (p.length+1) (fun j=>if j=p.length then g else f j) C':=⟨hS2.b,hS2.r,fun j hj=>by
    by_cases e:j=p.length
    ·simp only[e,if_true];intro h;have:=vR _ h;omega
    ·simp only[e,if_false];exact hS2.fc j (by omega),hS2.br,fun j hj=>by
    by_cases e:j=p.length
    ·simp only[e,if_true];intro h;have:=hBg _ h;omega
    ·simp only[e,if_false];exact hS2.bf j (by omega)⟩
   have hin:(pre++(List.range j).flatMap fun(i:Nat)=>G (lo+(i:Int)))++G M <+: tot:=by
    refine List.IsPrefix.trans ?_ dI.out;rw[List.append_assoc,<-hM];exact(List.prefix_append_right_inj pre).2 (zoz (F:=G) (g:=fun(i:Nat)=>lo+(i:Int)) hlt)
   have tH:G M=(numE h rs (zkT h rs) M left).map fun z=>stOf (p++hdA [] z):=by rw[HG.out];simp
   have hcall:=HN.out M p [] _ _ _ C' w5 left fG.out g4 xn hD5 vM hS5 (fun j hj=>by simp only[Nat.ne_of_lt hj,if_false];exact HM.out j hj) (fun j hj=>by
    by_cases e:j=p.length
    ·simp only[e,if_true];omega
    ·simp only[e,if_false];exact xM.out j (by omega)) (by simp) hleft (by rw[<-tH];exact hin)
   rw[<-tH]at hcall;simp only[if_true,List.length_nil]at hcall;rw[g2]at hcall;have nO:=zh hcall;have y0:w5.cell? ⟨Z.nb,0,none⟩=some (.func (.func 71) #[] Z.cap2):=zc hD5.num rfl;have y1:w5.cell? ⟨Z.lb,0,none⟩=some (.slice (some ⟨Z.rb,0,none⟩) n n):=by rw[<-g1];exact zc hD5.lists rfl
   have vD:IntKind.i64.wrap ((j:Int)+1)=(j:Int)+1:=IntWalk.i64_in _ (by omega);have hstep:(List.range (j+1)).flatMap (fun(i:Nat)=>G (lo+(i:Int)))=((List.range j).flatMap fun(i:Nat)=>G (lo+(i:Int)))++G M:=by rw[List.range_succ,List.flatMap_append,<-hM];simp
   have HST:=zh hstep;have fK:=zh (show Chg (fun b=>C b\/b=Z.rb) W w5/\W.heap.size<=w5.heap.size/\W.heap.size<=g from⟨(i3.trans2 (Chg.of_below aM (C:=fun _=>False)) fun b _ h=>h.elim).trans2 dA fun b _ e=>.inr e,Nat.le_trans i3.size (Nat.le_trans aM.size dA.size),by rw[hgw];exact i3.size⟩);have z9:w9.cell? ⟨Z.lb,0,none⟩=some (.slice (some ⟨Z.rb,0,none⟩) n n):=zb aM x0;have hj0:(0:Int)<=(c:Int):=by omega
   clear i1 i2 i3 i4 hDn hD2 hS2 hu ik hur g1 g2 g4 hz wK aM dA lG hD5 vM xn hgw vR hBg hS5 hin tH hcall hstep dC hg;go_upto_region 9 with fail;have hS0:zW (fun w':World=>zv w' Z.lb 0 (.slice (some ⟨Z.rb,0,none⟩) n n)) zU wr.drew:=⟨x0,trivial⟩
   refine wp_region_noPanic ?_;refine zG hS0 7 ?_;refine zT 0 hS0 ?_;refine zT 1 hS0 ?_;refine zT 2 hS0 ?_;refine zT 3 hS0 ?_;refine zT 4 hS0 ?_;refine zo 5 fun K hK=>?_;(try simp only[zA,zB,zC]);go_simp;refine hK.out _ _ ⟨z9,trivial⟩ ?_;clear hK K hS0 hmk;(try simp only[zQ]);refine zo 6 fun K hK=>?_;(try simp only[zA,zB,zC]);go_simp;refine hK.out _ _ ⟨z9,trivial⟩ ?_;clear hK K;(try simp only[zQ]);refine zp 7 fun K hK=>?_;(try simp only[zA,zB,zC]);go_simp;refine hK.out _ _ y1 ?_;clear hK K;(try simp only[zQ]);refine zd ?_;refine NoPanic.normal ?_;clear x0 x2 cf mg z9 y1;go_wp2_with fail;refine nO.out.mono ?_;rintro e w6 (⟨rfl,C6,j6,c6,h6,q6⟩|⟨rfl,pre6,C6,j6,h6⟩)
   ·have iH:=zh (show J (pre++(List.range (j+1)).flatMap fun(i:Nat)=>G (lo+(i:Int))) C6 w6/\(∀b,C6 b->C b\/W.heap.size<=b)/\Chg (fun b=>C b\/b=Z.rb) W w6/\RowQ Z bs.length w6 p m f from
     ⟨by rw[HST.out,<-List.append_assoc];exact j6,fun b hb=>(c6 b hb).elim (HI.out.2.1 b) fun h=>.inr (Nat.le_trans fK.out.2.1 h),fK.out.1.trans2 h6 fun b hb h=>by
      rcases h with h|h|h
      ·exact(HI.out.2.1 b h).elim .inl fun h=>by omega
      ·exact .inr h
      ·have:=fK.out.2.2;have h:b=g:=h;omega,q6.dropL.congr fun j hj=>by
       have hj':j≠c:=by have:=jN.out.2.1;omega
       exact⟨if_neg hj',if_neg hj'⟩⟩)
    clear j6 c6 h6 q6 y0;go_wp2_with fail
    go_roundw
    case rel=>exact⟨j+1,C6,by omega,by go_num,iH⟩
    case measure=>simp[intOf];omega
   ·have iH:=zh (show Jx pre6 C6 w6/\Chg (fun b=>C b\/b=Z.rb) W w6 from⟨j6,fK.out.1.trans2 h6 fun b hb h=>by
      rcases h with h|h|h
      ·exact(HI.out.2.1 b h).elim .inl fun h=>by omega
      ·exact .inr h
      ·have:=fK.out.2.2;have h:b=g:=h;omega⟩)
    clear j6 h6 y0;go_wp2_with fail;go_ret;exact .inr ⟨rfl,pre6,C6,iH.out.1,iH.out.2⟩
  ·obtain rfl:j=T:=by omega
   have hj1:¬ (j:Int)<hi'-lo+1:=by omega
   go_wp2_with fail;go_ret;obtain⟨i1,i2,i3,i4⟩:=HI.out;have:=jN.out.1;rw[this]at i4;exact .inl ⟨rfl,C',i1,i2,i3,i4⟩
theorem zuA{J Jx:List SS->(Nat->Prop)->World->Prop}{Z:DK}{bs rs:List Bn}{b0:Bn}{h nf:Nat}{B:Nat->Prop}{tot:List SS}(hj:JC J Jx nf Z.l tot)(hb:DB bs h)(hN:∀k,NumC J Jx Z bs h B tot rs k):zxW J Jx Z bs h B tot (b0::rs):=by
 intro p m f pre C W left hrs hpl hJ hD hQ hS hm hm2 hleft hpre;have mh:p.length<bs.length:=by have:=congrArg List.length hrs;rw[List.length_drop]at this;simp at this;omega
 have jf:bs.drop (p.length+1)=rs:=by rw[<-List.drop_drop,hrs];rfl
 have hb0:bs[p.length]=b0:=by have:=List.drop_eq_getElem_cons mh;rw[hrs]at this;injection this with h1 _;exact h1.symm
 have hwb:=ztJ (bs:=rs) (h:=h) (by rw[<-jf];exact zsN hb.b _) (by rw[<-jf,List.length_drop];have:=hb.n;omega) hb.hm;have hbb:=hb.b b0 (by rw[<-hb0];exact List.getElem_mem mh);have x0:W.cell? ⟨Z.lb,0,none⟩=some (.slice (some ⟨Z.rb,0,none⟩) bs.length bs.length):=zc hD.lists rfl;have x2:W.cell? ⟨Z.hb,0,none⟩=some (.int .i64 (h:Int)):=zc hD.hv rfl;have x3:W.cell? ⟨Z.tb,0,none⟩=some (.slice (some ⟨Z.tr,0,none⟩) (bs.length+1) Z.tc):=zc hD.rest rfl;have x1:W.cell? ⟨Z.bb,0,none⟩=some (.slice Z.A bs.length Z.c):=zc hD.ls rfl;obtain⟨x4,x5⟩:=hD.rst (p.length+1) mh;obtain⟨a,hA,-,x6,x7⟩:=hD.row p.length mh;rw[hA]at x1;rw[hb0]at x6 x7;rw[jf]at x4 x5;obtain⟨l0,l1⟩:=b0;simp only at hbb x6 x7;have hbn:=hb.n;have vL:=hb.hm;have kK:=hb.h1;obtain⟨n,hn⟩:=zX (bs.length);obtain⟨c,hc⟩:=zX (p.length);obtain⟨w0,hw0⟩:=zX (wlo rs);obtain⟨w1,hw1⟩:=zX (whi h rs);rw[hw0,hw1]at hwb
 rw[hn]at x0 x1 x3 hbn;rw[hc,hw0]at x4;rw[hc,hw1]at x5;rw[hc]at x6 x7;have hcn:c<n:=by omega
 obtain⟨Q,xk⟩:=zX ((left-w1+(h:Int)-1).tdiv (h:Int));have xh : -100000010000<=Q/\Q<=100000010000:=by
  have h1:=Int.natAbs_tdiv_le_natAbs (left-w1+(h:Int)-1) (h:Int);rw[xk]at h1;omega
 obtain⟨lo,hlo⟩:=zX (max (l0:Int) Q);obtain⟨hi',hhi⟩:=zX (min (l1:Int) (left-(w0:Int)));have hlo0:0<=lo:=by omega
 have hlo1:lo<=100000010000:=by omega
 have hhi1:hi'<=1000:=by omega
 have hhi2 : -100000000000<=hi':=by omega
 obtain⟨G,hG⟩:∃G:Int->List SS,G=fun r=>(numE h rs (zkT h rs) r.toNat left).map fun z=>stOf (p++hdA [] z):=⟨_,rfl⟩
 have hX:(zkT h ((l0,l1)::rs) left).map (fun ls=>stOf (p++ls))=(List.range (hi'-lo+1).toNat).flatMap fun(j:Nat)=>G (lo+(j:Int)):=by
  have e:∀z:List (List Int),hdA [] z=z:=fun z=>by cases z<;>rfl
  rw[<-zoi,zkT,List.map_flatMap,hw0,hw1,xk,hlo,hhi,hG];simp only[e]
 rw[hX]at hpre ⊢;obtain⟨T,hT⟩:∃T:Nat,(hi'-lo+1).toNat=T:=⟨_,rfl⟩
 rw[hT]at hpre ⊢;have HJ:=zh hj;have kY:=zh hJ;have HD:=zh hD;have HQ:=zh hQ;have HS:=zh hS;have dI:=zh hpre;have HN:=zh hN;have HM:=zh hm;have xM:=zh hm2;have fG:=zh jf;have HG:=zh hG;have jN:=zh (show bs.length=n/\p.length=c/\p.length+1<=bs.length from⟨hn,hc,mh⟩);rw[hn,hc];exact zuz x0 x2 x3 x1 x4 x5 x6 x7 hwb hbb hbn vL kK hcn hleft xk xh hlo hhi hlo0 hlo1 hhi1 hhi2 hT HJ kY HD HQ HS dI HN HM xM fG HG jN
theorem zsw{J Jx:List SS->(Nat->Prop)->World->Prop}{Z:DK}{bs:List Bn}{h nf:Nat}{B:Nat->Prop}{tot:List SS}(hj:JC J Jx nf Z.l tot)(hb:DB bs h)(hl:∀W,DW Z bs h B W->Z.l<W.heap.size):∀rs,zxW J Jx Z bs h B tot rs
 | []=>zwV hj hb hl
 | b::rs=>zuA hj hb fun k=>by
  induction k with
  | zero=>exact zwK hb (zsw hj hb hl rs)
  | succ k ih=>exact zwL hj hb ih
theorem zyL:(prog.info? 42).map (fun i=>(i.zero,i.size,i.bytes))=some (some (.slice none 0 0),1,24):=by kernel_rfl
theorem zLm(n:Nat)(hn:n<=4096)(w:World):(Instr.makeSlice 41 (.int .i64 (n:Int)) (.int .i64 (n:Int))).run prog w=.ok (.slice (some ⟨w.heap.size,0,none⟩) n n) (w.alloc (.cells (madeCells #[.slice none 0 0] n) 42)):=by
 obtain⟨i,hi,h1,h2,h3⟩:=info_parts zyL;have:=zk6 (P:=prog) 41 42 i (.slice none 0 0) underlying41 hi h1 .i64 .i64 n n zl (by rw[h3];omega) (by omega) w;rw[h2,Nat.mul_one]at this;exact this
theorem zmV{w:World}{n:Nat}(hn:w.heap.size=n)(o:Obj):(w.alloc o).heap[n]?=some o:=by rw[<-hn];exact World.alloc_heap_new w o
theorem al8(W:World)(o0 o1 o2 o3 o4 o5 o6 o7:Obj) :
  Below W.heap.size W ((((((((W.alloc o0).alloc o1).alloc o2).alloc o3).alloc o4).alloc o5).alloc o6).alloc o7)/\((((((((W.alloc o0).alloc o1).alloc o2).alloc o3).alloc o4).alloc o5).alloc o6).alloc o7).heap.size=W.heap.size+8 /\
  ∀k,k<8->((((((((W.alloc o0).alloc o1).alloc o2).alloc o3).alloc o4).alloc o5).alloc o6).alloc o7).heap[W.heap.size+k]?=[o0,o1,o2,o3,o4,o5,o6,o7][k]?:=by
 refine⟨zkb (zkb (zkb (zkb (zkb (zkb (zkb (zkb zr _) _) _) _) _) _) _) _,by simp,fun k hk=>?_⟩;have h:k=0\/k=1\/k=2\/k=3\/k=4\/k=5\/k=6\/k=7:=by omega
 rcases h with rfl|rfl|rfl|rfl|rfl|rfl|rfl|rfl
 ·exact zke (zke (zke (zke (zke (zke (zke (zmV rfl _) _) _) _) _) _) _) _
 ·exact zke (zke (zke (zke (zke (zke (zmV (by simp) _) _) _) _) _) _) _
 ·exact zke (zke (zke (zke (zke (zmV (by simp) _) _) _) _) _) _
 ·exact zke (zke (zke (zke (zmV (by simp) _) _) _) _) _
 ·exact zke (zke (zke (zmV (by simp) _) _) _) _
 ·exact zke (zke (zmV (by simp) _) _) _
 ·exact zke (zmV (by simp) _) _
 ·exact zmV (by simp) _
theorem zoY{J Jx:List SS->(Nat->Prop)->World->Prop}{bs:List Bn}{h nf l tr c ct:Nat}{A:Option Addr}{R:Nat->Prop}{tot pre:List SS}{C:Nat->Prop}{W:World}{weight:Int}(hj:JC J Jx nf l tot)(hb:DB bs h)(hl:l<W.heap.size)
  (hJ:J pre C W)(hrb:RowB W R A bs)(hrt:zrb W tr h bs)(hR:∀b,R b->¬ C b)(htr:¬ C tr)(htl:tr<W.heap.size)(hw:0<=weight/\weight<=100000000000)(hpre:(pre++(zkT h bs weight).map stOf) <+: tot) :
  Calls prog 41 #[.slice A bs.length c,.slice (some ⟨tr,0,none⟩) (bs.length+1) ct,.int .i64 (h:Int),.int .i64 weight,.func (.yield l) #[] #[]] W fun e W' =>
   ∃b,e=.returned (.bool b)/\((b=true/\∃C',J (pre++(zkT h bs weight).map stOf) C' W'/\(∀b,C' b->C b\/W.heap.size<=b)/\Chg C W W')\/(b=false/\∃pre' C',Jx pre' C' W'/\Chg C W W')):=by
 have hmk:=zLm bs.length (by have:=hb.n;omega);have h8:=fun o0 o1 o2 o3 o4 o5 o6 o7=>al8 W o0 o1 o2 o3 o4 o5 o6 o7;obtain⟨N,hN⟩:=zX (W.heap.size);have H8:=zh (show ∀W',W'=((((((((W.alloc (.cells #[.slice A bs.length c] 83)).alloc (.cells #[.slice (some ⟨tr,0,none⟩) (bs.length+1) ct] 83)).alloc (.cells #[.int .i64 (h:Int)] 3)).alloc (.cells #[.func (.yield l) #[] #[]] 86)).alloc (.cells (madeCells #[.slice none 0 0] bs.length) 42)).alloc (.cells #[.slice (some ⟨N+1+1+1+1,0,none⟩) bs.length bs.length] 41)).alloc (.cells #[.func (.func 70) #[] (DK.cap1 ⟨l,N+1+1+1+1+1,N+1+1+1,N,N+1,N+1+1,N+1+1+1+1+1+1+1,N+1+1+1+1+1+1,N+1+1+1+1,tr,A,c,ct⟩)] 119)).alloc (.cells #[.func (.func 71) #[] (DK.cap2 ⟨l,N+1+1+1+1+1,N+1+1+1,N,N+1,N+1+1,N+1+1+1+1+1+1+1,N+1+1+1+1+1+1,N+1+1+1+1,tr,A,c,ct⟩)] 120)) ->
   Calls prog 70 (#[.int .i64 (([]:List (List Int)).length:Int),.int .i64 weight]++DK.cap1 ⟨l,N+1+1+1+1+1,N+1+1+1,N,N+1,N+1+1,N+1+1+1+1+1+1+1,N+1+1+1+1+1+1,N+1+1+1+1,tr,A,c,ct⟩) W' fun e W'=>∃b,e=.returned (.bool b)/\(
   (b=true/\∃C',J (pre++(zkT h bs weight).map stOf) C' W'/\(∀b,C' b->C b\/N<=b)/\Chg C W W')\/(b=false/\∃pre' C',Jx pre' C' W'/\Chg C W W'))from fun W' hW'=>by
  obtain⟨hbl,hsz,hat⟩:=h8 (.cells #[.slice A bs.length c] 83) (.cells #[.slice (some ⟨tr,0,none⟩) (bs.length+1) ct] 83) (.cells #[.int .i64 (h:Int)] 3) (.cells #[.func (.yield l) #[] #[]] 86) (.cells (madeCells #[.slice none 0 0] bs.length) 42) (.cells #[.slice (some ⟨N+1+1+1+1,0,none⟩) bs.length bs.length] 41) (.cells #[.func (.func 70) #[] (DK.cap1 ⟨l,N+1+1+1+1+1,N+1+1+1,N,N+1,N+1+1,N+1+1+1+1+1+1+1,N+1+1+1+1+1+1,N+1+1+1+1,tr,A,c,ct⟩)] 119) (.cells #[.func (.func 71) #[] (DK.cap2 ⟨l,N+1+1+1+1+1,N+1+1+1,N,N+1,N+1+1,N+1+1+1+1+1+1+1,N+1+1+1+1+1+1,N+1+1+1+1,tr,A,c,ct⟩)] 120);rw[<-hW']at hbl hsz hat
  rw[hN]at hsz hat
  have iC:∀b,C b->b<N:=fun b h=>by rw[<-hN];exact hj.lt _ _ _ hJ b h
  have hlN:l<N:=by omega
  have htN:tr<N:=by omega
  have tK:∀b,N<=b->b<N+8->b≠N+4->((R b/\b<N)\/b=tr\/(N<=b/\b<N+8/\b≠N+4)):=fun b h1 h2 h3=>.inr (.inr ⟨h1,h2,h3⟩);have hL:=zsw (Z:=⟨l,N+1+1+1+1+1,N+1+1+1,N,N+1,N+1+1,N+1+1+1+1+1+1+1,N+1+1+1+1+1+1,N+1+1+1+1,tr,A,c,ct⟩) (B:=fun b=>(R b/\b<N)\/b=tr\/(N<=b/\b<N+8/\b≠N+4)) hj hb (fun w hd=>by have:=hd.lt N (.inr (.inr ⟨by omega,by omega,by omega⟩));show l<_;omega) (rs:=bs) [] (fun _=>0) (fun _=>0) pre C W' weight rfl (Nat.zero_le _) (hj.keep _ _ _ _ hJ (Chg.of_below hbl))
   ⟨hat 5 (by decide),hat 3 (by decide),hat 0 (by decide),hat 1 (by decide),hat 2 (by decide),hat 7 (by decide),hat 6 (by decide),(hrb.keep (S':=fun b=>(R b/\b<N)\/b=tr\/(N<=b/\b<N+8/\b≠N+4)) (fun b h hlt=>.inl ⟨h,by omega⟩) fun b _ hlt=>hbl.block b hlt),hrt.keep (hbl.block _ htl),⟨tK (N+1+1+1+1+1) (by omega) (by omega) (by omega),tK (N+1+1+1) (by omega) (by omega) (by omega),tK (N) (by omega) (by omega) (by omega),tK (N+1) (by omega) (by omega) (by omega),tK (N+1+1) (by omega) (by omega) (by omega),tK (N+1+1+1+1+1+1+1) (by omega) (by omega) (by omega),tK (N+1+1+1+1+1+1) (by omega) (by omega) (by omega),.inr (.inl rfl)⟩,fun b h=>by rw[hsz];rcases h with h|h|h<;>omega⟩
   ⟨⟨_,hat 4 (by decide),by rw[size_madeCells],fun j hj=>absurd hj (Nat.not_lt_zero j)⟩,fun j hj=>absurd hj (Nat.not_lt_zero j),fun j hj=>absurd hj (Nat.not_lt_zero j),fun i j hi=>absurd hi (Nat.not_lt_zero i),fun x hx=>by cases hx⟩
   ⟨fun b h hc=>by
    have:=iC b hc;rcases h with h|rfl|h
    ·exact hR b h.1 hc
    ·exact htr hc
    ·omega,fun h=>by have:=iC _ h;simp only at this;omega,fun j hj=>absurd hj (Nat.not_lt_zero j),fun h=>by simp only at h;omega,fun j hj=>absurd hj (Nat.not_lt_zero j)⟩
   (fun j hj=>absurd hj (Nat.not_lt_zero j)) (fun j hj=>absurd hj (Nat.not_lt_zero j)) hw (by simpa only[List.nil_append]using hpre)
  refine hL.mono ?_;have hch:∀ {w':World},Chg (fun b=>C b\/b=N+1+1+1+1) W' w'->Chg C W w':=fun h=>(Chg.of_below hbl).trans2 h fun b hb h=>h.elim id fun h=>by omega
  rintro e w' (⟨rfl,C',h1,h2,h3,-⟩|⟨rfl,pre',C',h1,h2⟩)
  ·exact⟨_,rfl,.inl ⟨rfl,C',by simpa only[List.nil_append]using h1,fun b h=>(h2 b h).imp id fun h=>by omega,hch h3⟩⟩
  ·exact⟨_,rfl,.inr ⟨rfl,pre',C',h1,hch h2⟩⟩)
 clear h8 hj hb hJ hrb hrt hR hpre htr;go_enter func41,ntmps41;rw[hN];go_wp2_with fail;refine(H8.out _ rfl).mono ?_;rintro e w2 ⟨b,rfl,hP⟩;have HP:=zh hP;clear hP H8;go_wp2_with fail;go_ret;exact⟨b,rfl,HP.out⟩
structure AllM(W:World)(S:Nat->Prop)(b:BX)(bs:List Bn)(kv xb lb:Nat)(A:Option Addr)(c:Nat):Prop where
 ok:W.heap[kv]?=some (.cells #[.bool true] 4 (0,0))
 bx:W.heap[xb]?=some (.cells #[.int .i64 b.v,.int .i64 b.l,.int .i64 b.i] 23 (0,0))
 ls:W.heap[lb]?=some (.cells #[.slice A bs.length c] 83 (0,0))
 row:RowB W S A bs
def allS(b:BX)(bs:List Bn):List SS:=(allB (2*b.v+1) bs).map stOf
theorem zwg{W:World}{S:Nat->Prop}{b:BX}{bs:List Bn}{kv xb lb c nf:Nat}{A:Option Addr}(hM:AllM W S b bs kv xb lb A c)(hv:0<=b.v/\b.v<=1000)(hn:1<=bs.length/\bs.length<=100)(hb:∀q∈bs,q.1<=1000/\q.2<=1000) :
  zKK YS nf prog 39 #[ptr0 kv,ptr0 xb,ptr0 lb] (allS b bs) (fun q=>q=kv\/q=xb\/q=lb\/S q) W:=by
 intro l J Jx C W1 hl0 jA hch hJ iB hY h0;refine(callsIn_wide (n:=nf)).2 ?_;obtain⟨v,vl,vi⟩:=b;obtain⟨h,hh⟩:∃h:Nat,2*v+1=(h:Int):=⟨(2*v+1).toNat,by simp only at hv;omega⟩
 simp only at hv;have hdb:DB bs h:=⟨hn.2,hb,by omega,by omega,hn.1⟩
 have hxs:allS ⟨v,vl,vi⟩ bs=(List.range (whi h bs-wlo bs+1).toNat).flatMap fun(j:Nat)=>(zkT h bs (wlo bs+(j:Int))).map stOf:=by
  unfold allS allB;simp only;rw[hh,List.map_flatMap,zoi (F:=fun w=>(zkT h bs w).map stOf)]
 obtain⟨xs,hx⟩:=zX (allS ⟨v,vl,vi⟩ bs);rw[hx]at hY hxs ⊢;have yO:=zh (show JC J Jx nf l xs from⟨hJ,iB,hY⟩);have hbd:=ztJ (h:=h) hb (by omega) (by omega);have x0:W1.cell? ⟨kv,0,none⟩=some (.bool true):=zc (hch.keep hM.ok fun h=>jA _ h (.inl rfl)) rfl;have x1:W1.cell? ⟨xb,0,none⟩=some (.int .i64 v):=zc (hch.keep hM.bx fun h=>jA _ h (.inr (.inl rfl))) rfl;have hk2:=hch.keep hM.ls fun h=>jA _ h (.inr (.inr (.inl rfl)));have x2:W1.cell? ⟨lb,0,none⟩=some (.slice A bs.length c):=zc hk2 rfl;have hnl:¬ C lb:=fun h=>jA _ h (.inr (.inr (.inl rfl)));have hrb:=hM.row.keep (w':=W1) (S':=fun q=>¬ C q/\q<W1.heap.size) (fun q h hlt=>⟨fun hc=>jA q hc (.inr (.inr (.inr h))),Nat.lt_of_lt_of_le hlt hch.size⟩) fun q h hlt=>hch.block q hlt fun hc=>jA q hc (.inr (.inr (.inr h)));have yc:=zrh bs h A c W1 (hrb.keep (S':=Any) (fun _ _ _=>trivial) fun _ _ _=>rfl) (by omega) hb (by omega)
 obtain⟨w0,hw0⟩:=zX (wlo bs);obtain⟨w1,hw1⟩:=zX (whi h bs);rw[hw0,hw1]at hbd hxs;obtain⟨T,hT⟩:=zX ((w1-(w0:Int)+1).toNat);rw[hT]at hxs;have HWE:=zh yc;have cZ:=zh hrb;have Ci:=zh hdb;have yC:=zh hxs;have H0:=zh h0;have aP:=zh hk2;have xL:=zh hnl;have HW:=zh (show wlo bs=w0/\whi h bs=w1 from⟨hw0,hw1⟩);have HL0:=zh hl0;have hnn:=hn;obtain⟨n,hn'⟩:=zX (bs.length);have HN:=zh hn';rw[hn']at x2 HWE hnn;clear hM hv hn hb hl0 jA hch hJ iB hY h0 hdb hxs hrb yc hw0 hw1 hx hk2 hnl hn'
 show Calls prog 39 #[.func (.yield l) #[] #[],ptr0 kv,ptr0 xb,ptr0 lb] W1 _
 have e1:IntKind.i64.wrap (2*v)=2*v:=IntWalk.i64_in _ (by have:=Ci.out.hm;omega);have e2:IntKind.i64.wrap (2*v+1)=(h:Int):=by rw[hh];exact IntWalk.i64_in _ (by have:=Ci.out.hm;omega)
 have HHH:=zh hh;clear hh;go_enter func39,ntmps39;go_wp2_with fail;refine HWE.out.mono ?_;rintro e w2 ⟨tr,rfl,htr,wL,hb2⟩;obtain⟨y0,y1⟩:=wL 0 (Nat.zero_le _);rw[List.drop_zero,HW.out.1]at y0;rw[List.drop_zero,HW.out.2]at y1;rw[Nat.zero_mul]at y0 y1;have HRP:=zh wL;have HB2:=zh hb2;have yF:=zh htr;have hp0:(0:Int)<(n:Int)+1:=by omega
 have e3:IntKind.i64.wrap (w1-(w0:Int))=w1-(w0:Int):=IntWalk.i64_in _ (by omega);have e4:IntKind.i64.wrap (w1-(w0:Int)+1)=w1-(w0:Int)+1:=IntWalk.i64_in _ (by omega);clear wL htr x0 x1 x2 e1 e2;go_upto_region 3 with fail
 go_quiet (fail)
 have hb3:=zkJ (zs w2) nq;obtain⟨w3,hw3⟩:=zX (w2.drewN nq);rw[hw3]at hb3;rw[hw3];have HB3:=zh (zka hb2 hb3);have HRP3:=zh (HRP.out.keep (hb3.block _ (World.block_lt_of_cell? w2 _ y0)));have HTL:=zh (World.block_lt_of_cell? w2 _ y0);clear hw3 hb3 hb2 y0 y1 e3 e4;go_wp2_with fail;obtain⟨G,hG⟩:∃G:Nat->List SS,G=fun(j:Nat)=>(zkT h bs (w0+(j:Int))).map stOf:=⟨_,rfl⟩
 have HG:=zh hG;have hxs:=yC.out;rw[show(fun(j:Nat)=>(zkT h bs (w0+(j:Int))).map stOf)=G from hG.symm]at hxs;have yC:=zh hxs;clear hG hxs
 go_loopw [27] (fun iv wr=>∃(j:Nat) (C':Nat->Prop),j<=T/\iv=.int .i64 j/\Hid (J ((List.range j).flatMap G) C' wr/\(∀b,C' b->C b\/W1.heap.size<=b)/\Chg C W1 wr)/\Hid (¬ C' tr/\zrb wr tr h bs)) (fun iv _=>T-(intOf iv).toNat)
 case atStart=>exact⟨0,C,Nat.zero_le _,rfl,zh ⟨yO.out.keep _ _ _ _ H0.out (Chg.of_below HB3.out),fun b h=>.inl h,Chg.of_below HB3.out⟩,zh ⟨fun h=>by have:=yO.out.lt _ _ _ H0.out _ h;have:=yF.out;omega,HRP3.out⟩⟩
 case round =>
  obtain⟨j,C',hjT,rfl,HI,fG⟩:=hrel;by_cases hlt:j<T
  ·have hj1:(j:Int)<w1-(w0:Int)+1:=by omega
   have hsz:=HI.out.2.2.size;have y0:wr.cell? ⟨tr,0,none⟩=some (.int .i64 (w0:Int)):=by have:=(fG.out.2 0 (Nat.zero_le _)).1;rwa[List.drop_zero,HW.out.1,Nat.zero_mul]at this
   have x2:wr.cell? ⟨lb,0,none⟩=some (.slice A n c):=by rw[<-HN.out];exact zc (HI.out.2.2.keep aP.out xL.out) rfl
   have hpre:(List.range j).flatMap G++(zkT h bs ((w0:Int)+(j:Int))).map stOf <+: xs:=by
    rw[yC.out];have:=zoz (F:=G) (g:=fun i=>i) hlt;rwa[HG.out]at this ⊢
   have e1:IntKind.i64.wrap ((w0:Int)+(j:Int))=(w0:Int)+(j:Int):=IntWalk.i64_in _ (by omega);have htl:tr<wr.heap.size:=World.block_lt_of_cell? wr _ y0
   have HDI:=zh (fun w' (hbw:Below wr.heap.size wr w')=>show Calls prog 41 #[.slice A bs.length c,.slice (some ⟨tr,0,none⟩) (bs.length+1) (n+1),.int .i64 (h:Int),.int .i64 ((w0:Int)+(j:Int)),.func (.yield l) #[] #[]] w' (fun e w9=>∃b,e=.returned (.bool b)/\((b=true/\∃C9,J ((List.range (j+1)).flatMap G) C9 w9/\(∀q,C9 q->C q\/W1.heap.size<=q)/\Chg C W1 w9/\¬ C9 tr/\zrb w9 tr h bs)\/(b=false/\∃pre' C9,Jx pre' C9 w9/\Chg C W1 w9)))from(zoY (c:=c) (ct:=n+1) (A:=A) (R:=fun q=>¬ C q/\q<W1.heap.size) (tr:=tr) (pre:=(List.range j).flatMap G) (C:=C') (W:=w') (weight:=(w0:Int)+(j:Int)) yO.out Ci.out (by have:=HL0.out;have:=hbw.size;omega) (yO.out.keep _ _ _ _ HI.out.1 (Chg.of_below hbw)) ((cZ.out.keep (fun q h _=>h) fun q h hlt=>HI.out.2.2.block q hlt h.1).later hbw) (fG.out.2.keep (hbw.block _ htl)) (fun q h hc=>(HI.out.2.1 q hc).elim h.1 fun h'=>by omega) fG.out.1 (Nat.lt_of_lt_of_le htl hbw.size) (by omega) hpre).mono
    fun e w9 ⟨b,hb,hr⟩=>⟨b,hb,by
     have hch:∀ {D:World},Chg C' w' D->Chg C W1 D:=fun h=>(HI.out.2.2.trans2 (Chg.of_below hbw (C:=fun _=>False)) fun _ _ h=>h.elim).trans2 h fun q hq h=>(HI.out.2.1 q h).elim id fun h'=>by omega
     rcases hr with⟨rfl,C9,h1,h2,h3⟩|⟨rfl,pre',C9,h1,h2⟩
     ·refine .inl ⟨rfl,C9,?_,fun q hq=>(h2 q hq).elim (HI.out.2.1 q) fun h=>.inr (Nat.le_trans hsz (Nat.le_trans hbw.size h)),hch h3,fun h=>(h2 _ h).elim fG.out.1 fun h=>by have:=hbw.size;omega,fG.out.2.keep ((h3.block _ (Nat.lt_of_lt_of_le htl hbw.size) fG.out.1).trans (hbw.block _ htl))⟩;rw[List.range_succ,List.flatMap_append];have e:[j].flatMap G=(zkT h bs ((w0:Int)+(j:Int))).map stOf:=by rw[HG.out];simp
      rw[e];exact h1
     ·exact .inr ⟨rfl,pre',C9,h1,hch h2⟩⟩)
   rw[HN.out]at HDI;clear hpre htl;go_upto_region 6 with fail
   go_region_with (refine(HDI.out _ (by first|exact zr.drew|exact zkJ zr _)).mono ?_;rintro e w9 ⟨b9,rfl,hR9⟩)
   all_goals
    have oh:=zh hR9;clear hR9 y0 x2;(try simp only[zQ])
    cases b9
    ·obtain⟨h0,-⟩|⟨-,pre',C9,j9,h9⟩:=oh.out
     ·cases h0
     have HF:=zh (And.intro j9 h9);clear j9 h9;go_wp2_with fail;refine bodyPost_ret (v:=.tuple #[]) (results_none (by rfl) _ _ _) rfl ?_;exact⟨⟨_,rfl⟩,.inr ⟨⟨pre',C9,HF.out.1⟩,HF.out.2⟩⟩
    ·obtain⟨-,C9,j9,c9,h9,t9,r9⟩|⟨h0,-⟩:=oh.out;rotate_left 1
     ·cases h0
     have HF:=zh (And.intro j9 (And.intro c9 h9));have uT:=zh (And.intro t9 r9);clear j9 c9 h9 t9 r9;have vD:IntKind.i64.wrap ((j:Int)+1)=(j:Int)+1:=IntWalk.i64_in _ (by omega);go_wp2_with fail;exact⟨⟨j+1,C9,by omega,by go_num,HF,uT⟩,by simp[intOf];omega⟩
  ·obtain rfl:j=T:=by omega
   have hj1:¬ (j:Int)<w1-(w0:Int)+1:=by omega
   go_wp2_with fail;go_end0;exact⟨⟨_,rfl⟩,.inl ⟨⟨C',by rw[yC.out];exact HI.out.1⟩,HI.out.2.2⟩⟩
theorem zzY(vs:List VD)(b:BX)(A:Option Addr)(c:Nat)(w:World)(hrow:RowV w Any A vs)(hl:vs.length<=LV)(hok:(b.ok&&svB vs)=true):Calls prog 17 #[.slice A vs.length c,.agg #[.int .i64 b.v,.int .i64 b.l,.int .i64 b.i]] w fun e w' =>
  ∃kv xb lb A2 c2,e=.returned (.func (.func 39) #[] #[ptr0 kv,ptr0 xb,ptr0 lb])/\Below w.heap.size w w'/\w.heap.size<=kv/\w.heap.size<=xb/\w.heap.size<=lb/\AllM w' (fun q=>w.heap.size<=q) b (lenE vs b) kv xb lb A2 c2:=by
 obtain⟨bv,bl,bi⟩:=b;simp only;have hb1:=zkb (zs w) (.cells #[.int .i64 bv,.int .i64 bl,.int .i64 bi] 23);have hk1:=heap_alloc_new w (.cells #[.int .i64 bv,.int .i64 bl,.int .i64 bi] 23);have xN:=zh (fun w' (hb:Below w.heap.size w w')=>zor vs ⟨bv,bl,bi⟩ A c w' (hrow.later hb) hl);have hlen:=(zlG hok).1;obtain⟨bs,hbs⟩:=zX (lenE vs ⟨bv,bl,bi⟩);have nR:=zh hbs;rw[hbs]at hlen ⊢;have HLEN:=zh hlen;clear hrow hl hbs hlen;go_enter func17,ntmps17;go_upto_region 1 with fail;obtain⟨w1,hw1⟩:=zX (w.alloc (.cells #[.int .i64 bv,.int .i64 bl,.int .i64 bi] 23));rw[hw1]at hb1 hk1 ⊢;obtain⟨x0,x1,x2⟩:=zlD hk1;have HB1:=zh hb1;have aA:=zh hk1;clear hw1 hb1 hk1;go_wp2_with fail;refine(xN.out _ HB1.out).mono ?_;rintro e w2 ⟨hb2,⟨h0,rfl⟩|⟨-,A2,c2,rfl,hrb⟩⟩
 ·rw[hok]at h0;cases h0
 have HB2:=zh (zka HB1.out hb2);have aP:=zh (zkc aA.out hb2);rw[nR.out]at hrb;have cZ:=zh (hrb.keep (S':=fun q=>w.heap.size<=q) (fun q h _=>Nat.le_trans HB1.out.size h) fun _ _ _=>rfl);clear hrb hb2 x0 x1 x2 xN;go_wp2_with fail;go_ret;have hb4:=zkb (zkb HB2.out (.cells #[.slice A2 (vs.length+1) c2] 83)) (.cells #[.bool true] 4);have hb24:Below w2.heap.size w2 ((w2.alloc (.cells #[.slice A2 (vs.length+1) c2] 83)).alloc (.cells #[.bool true] 4)):=zkb (zkb zr _) _;have hsz:=HB2.out.size;have hl:=HLEN.out;refine⟨w2.heap.size+1,w.heap.size,w2.heap.size,A2,c2,rfl,hb4,by omega,zl,hsz,zmV (by simp) _,zkc aP.out hb24,?_,cZ.out.later hb24⟩;rw[hl];exact zke (zmV rfl _) _
def rnk(x:Int):Int:=if 0<x then 2*x-1 else -2*x
theorem zt3(x:Int):0<=rnk x:=by unfold rnk;split<;>omega
theorem zpN{r:Int}(h:0<=r):rnk (unrk r)=r:=by
 unfold unrk;rw[if_neg (by omega),Int.tmod_eq_emod_of_nonneg h,Int.tdiv_eq_ediv_of_nonneg h];unfold rnk
 split<;>split<;>omega
theorem zpJ(x:Int):unrk (rnk x)=x:=by
 have h:=zt3 x;unfold unrk;rw[if_neg (by omega),Int.tmod_eq_emod_of_nonneg h,Int.tdiv_eq_ediv_of_nonneg h];unfold rnk
 split<;>split<;>omega
theorem zt4{x y:Int}(h:rnk x=rnk y):x=y:=by rw[<-zpJ x,h,zpJ]
def lw(l:List Int):Int:=(l.map fun x=>1+rnk x).sum
def wt(ls:List (List Int)):Int:=(ls.map lw).sum
theorem zrD(x:Int)(l:List Int):lw (x::l)=1+rnk x+lw l:=by simp[lw]
theorem zoa(l:List Int)(ls:List (List Int)):wt (l::ls)=lw l+wt ls:=by simp[wt]
def FitH(h:Int):List Bn->List (List Int)->Prop
 | [],[]=>True
 | (lo,hi)::bs,x::xs=>lo<=x.length/\x.length<=hi/\(∀e∈x,rnk e<h)/\FitH h bs xs
 | _,_=>False
theorem zqK{h:Int}:∀ {l:List Int},(∀e∈l,rnk e<h)->(l.length:Int)<=lw l/\lw l<=l.length*h
 | [],_=>by simp[lw]
 | x::l,hx=>by
  have h1:=zqK (l:=l) fun e he=>hx e (List.mem_cons_of_mem _ he);have h2:=hx x (List.mem_cons_self ..);have h3:=zt3 x;rw[zrD,List.length_cons,Int.natCast_add,Int.add_mul];omega
theorem zr5(b:Bn)(bs:List Bn):wlo (b::bs)=b.1+wlo bs:=by simp[wlo]
theorem zr6(h:Int)(b:Bn)(bs:List Bn):whi h (b::bs)=b.2*h+whi h bs:=by simp[whi]
theorem FitH.bnd{h:Int}(hh:0<h):∀ {bs:List Bn} {x:List (List Int)},FitH h bs x->(wlo bs:Int)<=wt x/\wt x<=whi h bs
 | [],[],_=>by simp[wlo,whi,wt]
 | (lo,hi)::bs,x::xs,hf=>by
  have h1:=FitH.bnd hh hf.2.2.2;have h2:=zqK hf.2.2.1;rw[zr5,zr6,zoa];have h3:(x.length:Int)*h<=hi*h:=Int.mul_le_mul_of_nonneg_right (by have:=hf.2.1;omega) (by omega);have:=hf.1;simp only[Int.natCast_add];omega
 | [],_::_,hf=>hf.elim
 | (_,_)::_,[],hf=>hf.elim
theorem zmx{lo hi x:Int}:x∈ranE lo hi↔lo<=x/\x<=hi:=by
 refine⟨zkZ,fun h=>List.mem_map.2 ⟨(x-lo).toNat,List.mem_range.2 (by omega),by omega⟩⟩
theorem znY{h:Int}{bs:List Bn}{rec:Int->List (List (List Int))}(hr:∀left:Int,(wlo bs:Int)<=left->left<=whi h bs->∀x,x∈rec left↔FitH h bs x/\wt x=left)(hh:0<h) :
  ∀(k:Nat) (left:Int),(k:Int)+wlo bs<=left->left<=k*h+whi h bs->∀x,x∈numE h bs rec k left↔∃l ls,x=l::ls/\l.length=k/\(∀e∈l,rnk e<h)/\FitH h bs ls/\lw l+wt ls=left
 | 0,left,h1,h2,x=>by
  rw[numE,List.mem_map]
  constructor
  ·rintro⟨y,hy,rfl⟩;obtain⟨a,b⟩:=(hr left (by omega) (by omega) y).1 hy;exact⟨[],y,rfl,rfl,by simp,a,by simp[lw,b]⟩
  ·rintro⟨l,ls,rfl,hl,-,hf,hw⟩;obtain rfl:=List.eq_nil_of_length_eq_zero hl;exact⟨ls,(hr left (by omega) (by omega) ls).2 ⟨hf,by simpa[lw]using hw⟩,rfl⟩
 | k+1,left,h1,h2,x=>by
  rw[numE,List.mem_flatMap];have hk:((k+1:Nat):Int)*h=k*h+h:=by rw[Int.natCast_add,Int.add_mul];omega
  rw[hk]at h2
  constructor
  ·rintro⟨r,hr1,hx⟩;obtain⟨y,hy,rfl⟩:=List.mem_map.1 hx;have hrr:=zkZ hr1;obtain⟨l,ls,rfl,a,b,c,d⟩:=(znY hr hh k (left-1-r) (by omega) (by omega) y).1 hy;have eQ:rnk (unrk r)=r:=zpN (by omega);refine⟨unrk r::l,ls,rfl,by simp[a],fun e he=>?_,c,by rw[zrD,eQ];omega⟩;rcases List.mem_cons.1 he with rfl|he
   ·rw[eQ];omega
   ·exact b e he
  ·rintro⟨l,ls,rfl,hl,hb,hf,hw⟩
   cases l with
   | nil=>simp at hl
   | cons e l =>
    have h3:=zqK (l:=l) fun z hz=>hb z (List.mem_cons_of_mem _ hz);have h4:=hf.bnd hh;have h5:=zt3 e;have h6:=hb e (List.mem_cons_self ..);have hl':l.length=k:=by simpa using hl
    rw[zrD]at hw;rw[hl']at h3;refine⟨rnk e,zmx.2 (by omega),List.mem_map.2 ⟨l::ls,(znY hr hh k _ (by omega) (by omega) _).2 ⟨l,ls,rfl,hl',fun z hz=>hb z (List.mem_cons_of_mem _ hz),hf,by omega⟩,?_⟩⟩;rw[zpJ];rfl
theorem zvx{a h m:Int}(hh:0<h)(hm:0<=m)(h1:a<=m*h):(a+h-1).tdiv h<=m:=by
 by_cases ha:0<=a+h-1
 ·rw[Int.tdiv_eq_ediv_of_nonneg ha];have h2:a+h-1<(m+1)*h:=by rw[Int.add_mul];omega
  have:=Int.ediv_lt_of_lt_mul hh h2;omega
 ·have h2:(a+h-1) = -(-(a+h-1)):=by omega
  rw[h2,Int.neg_tdiv];have:=Int.tdiv_nonneg (show 0 <= -(a+h-1) by omega) (show 0<=h by omega);omega
theorem zmE{h:Int}(hh:0<h):∀(bs:List Bn) (left:Int),(wlo bs:Int)<=left->left<=whi h bs->∀x,x∈zkT h bs left↔FitH h bs x/\wt x=left
 | [],left,h1,h2,x=>by
  simp only[wlo,whi,List.map_nil,List.sum_nil]at h1 h2;have:left=0:=by simp at h1;omega
  subst this;rw[zkT,List.mem_singleton]
  constructor
  ·rintro rfl;exact⟨trivial,by simp[wt]⟩
  ·rintro⟨a,b⟩
   cases x with
   | nil=>rfl
   | cons y ys=>exact a.elim
 | (lo,hi)::bs,left,h1,h2,x=>by
  rw[zkT,List.mem_flatMap];rw[zr5]at h1;rw[zr6]at h2;simp only[Int.natCast_add]at h1
  constructor
  ·rintro⟨m,hm,hx⟩;have hm2:=zkZ hm;have hc:=zqt (a:=left-whi h bs) hh (by omega:0<=m) (by omega);obtain⟨l,ls,rfl,a,b,c,d⟩:=(znY (zmE hh bs) hh m.toNat left (by omega) (by rw[show((m.toNat:Nat):Int)=m by omega];omega) x).1 hx;exact⟨⟨by omega,by omega,b,c⟩,by rw[zoa];exact d⟩
  ·rintro⟨hf,hw⟩
   cases x with
   | nil=>exact hf.elim
   | cons l ls =>
    have h3:=zqK hf.2.2.1;have h4:=FitH.bnd hh hf.2.2.2;have h5:=hf.1;have h6:=hf.2.1;rw[zoa]at hw;have hc:=zvx (a:=left-whi h bs) (m:=(l.length:Int)) hh (by omega) (by omega);refine⟨(l.length:Int),zmx.2 (by omega),(znY (zmE hh bs) hh _ left (by simp;omega) (by simp;omega) _).2 ⟨l,ls,rfl,by simp,hf.2.2.1,hf.2.2.2,hw⟩⟩
theorem zxK{h:Int}(hh:0<h){bs:List Bn}(x:List (List Int)):x∈allB h bs↔FitH h bs x:=by
 rw[allB,List.mem_flatMap]
 constructor
 ·rintro⟨w,hw,hx⟩;have:=zkZ hw;exact((zmE hh bs w this.1 this.2 x).1 hx).1
 ·intro hf;have hb:=hf.bnd hh;exact⟨wt x,zmx.2 hb,(zmE hh bs _ hb.1 hb.2 x).2 ⟨hf,rfl⟩⟩
theorem FitH.mono{h h':Int}(hh:h<=h'):∀ {bs cs:List Bn} {x:List (List Int)},bs.length=cs.length->(∀i (h1:i<bs.length) (h2:i<cs.length),cs[i].1<=bs[i].1/\bs[i].2<=cs[i].2)->FitH h bs x->FitH h' cs x
 | [],[],[],_,_,_=>trivial
 | b::bs,c::cs,x::xs,hl,hc,hf=>by
  obtain⟨b1,b2⟩:=b;obtain⟨c1,c2⟩:=c;have h0:=hc 0 (by simp) (by simp);simp only[List.getElem_cons_zero]at h0;refine⟨Nat.le_trans h0.1 hf.1,Nat.le_trans hf.2.1 h0.2,fun e he=>Int.lt_of_lt_of_le (hf.2.2.1 e he) hh,FitH.mono hh (by simpa using hl) (fun i h1 h2=>?_) hf.2.2.2⟩;have:=hc (i+1) (by simpa using h1) (by simpa using h2);simpa using this
 | [],_::_,_,hl,_,_=>by simp at hl
 | _::_,[],_,hl,_,_=>by simp at hl
 | [],[],_::_,_,_,hf=>hf.elim
 | (_,_)::_,_::_,[],_,_,hf=>hf.elim
def lexR:List Int->List Int->Prop
 | x::a,y::b=>rnk x<rnk y\/(x=y/\lexR a b)
 | _,_=>False
def ltL(a b:List Int):Prop:=a.length<b.length\/(a.length=b.length/\lexR a b)
def ltLL:List (List Int)->List (List Int)->Prop
 | a::p,b::q=>ltL a b\/(a=b/\ltLL p q)
 | _,_=>False
def ltB(a b:List (List Int)):Prop:=wt a<wt b\/(wt a=wt b/\ltLL a b)
theorem zpg:∀ {a b:List Int},lexR a b->¬ lexR b a
 | x::a,y::b,h,h'=>by
  rcases h with h|⟨rfl,h⟩
  ·rcases h' with h'|⟨rfl,-⟩<;>omega
  ·rcases h' with h'|⟨-,h'⟩
   ·omega
   ·exact zpg h h'
 | [],_,h,_=>h.elim
 | _::_,[],h,_=>h.elim
theorem zop{a b:List Int}(h:ltL a b):¬ ltL b a:=fun h'=>by
 rcases h with h|⟨e,h⟩
 ·rcases h' with h'|⟨e',-⟩<;>omega
 ·rcases h' with h'|⟨-,h'⟩
  ·omega
  ·exact zpg h h'
theorem zpd:∀ {a b:List (List Int)},ltLL a b->¬ ltLL b a
 | x::a,y::b,h,h'=>by
  rcases h with h|⟨rfl,h⟩
  ·rcases h' with h'|⟨rfl,-⟩
   ·exact zop h h'
   ·exact zop h h
  ·rcases h' with h'|⟨-,h'⟩
   ·exact zop h' h'
   ·exact zpd h h'
 | [],_,h,_=>h.elim
 | _::_,[],h,_=>h.elim
theorem zuv{a b:List (List Int)}(h:ltB a b):¬ ltB b a:=fun h'=>by
 rcases h with h|⟨e,h⟩
 ·rcases h' with h'|⟨e',-⟩<;>omega
 ·rcases h' with h'|⟨-,h'⟩
  ·omega
  ·exact zpd h h'
theorem zmX(lo hi:Int):(ranE lo hi).Pairwise (· < ·):=by
 unfold ranE;rw[List.pairwise_map];exact List.Pairwise.imp (fun {a b} (h:a<b)=>by omega) List.pairwise_lt_range
theorem zlo{h:Int}{bs:List Bn}{rec:Int->List (List (List Int))}:∀(k:Nat) (left:Int),∀x∈numE h bs rec k left,∃l ls,x=l::ls/\l.length=k
 | 0,left,x,hx=>by
  obtain⟨y,hy,rfl⟩:=List.mem_map.1 hx;exact⟨[],y,rfl,rfl⟩
 | k+1,left,x,hx=>by
  rw[numE]at hx;obtain⟨r,hr1,hx⟩:=List.mem_flatMap.1 hx;obtain⟨y,hy,rfl⟩:=List.mem_map.1 hx;obtain⟨l,ls,rfl,h1⟩:=zlo k _ y hy;exact⟨unrk r::l,ls,rfl,by simp[h1]⟩
theorem zoo{h:Int}{bs:List Bn}{rec:Int->List (List (List Int))}(hr:∀left,(rec left).Pairwise ltLL):∀(k:Nat) (left:Int),(numE h bs rec k left).Pairwise ltLL
 | 0,left=>by
  rw[numE,List.pairwise_map];exact(hr left).imp fun {a b} h=>Or.inr ⟨rfl,h⟩
 | k+1,left=>by
  rw[numE,List.pairwise_flatMap];refine⟨fun r hr1=>?_,List.Pairwise.imp_of_mem (fun {r s} hr1 hs1 hlt x hx y hy=>?_) (zmX _ _)⟩
  ·rw[List.pairwise_map];refine List.Pairwise.imp_of_mem (fun {a b} ha hb hab=>?_) (zoo hr k _);obtain⟨l,ls,rfl,e1⟩:=zlo k _ a ha;obtain⟨m,ms,rfl,e2⟩:=zlo k _ b hb;rcases hab with hab|⟨rfl,hab⟩
   ·rcases hab with hab|⟨e,hab⟩
    ·omega
    ·exact Or.inl (Or.inr ⟨by simp[e],Or.inr ⟨rfl,hab⟩⟩)
   ·exact Or.inr ⟨rfl,hab⟩
  ·obtain⟨a,ha,rfl⟩:=List.mem_map.1 hx;obtain⟨b,hb,rfl⟩:=List.mem_map.1 hy;obtain⟨l,ls,rfl,e1⟩:=zlo k _ a ha;obtain⟨m,ms,rfl,e2⟩:=zlo k _ b hb;have h1:=zkZ hr1;have h2:=zkZ hs1;exact Or.inl (Or.inr ⟨by simp[e1,e2],Or.inl (by rw[zpN (by omega),zpN (by omega)];exact hlt)⟩)
theorem znN{h:Int}:∀(bs:List Bn) (left:Int),(zkT h bs left).Pairwise ltLL
 | [],left=>by rw[zkT];exact List.pairwise_singleton _ _
 | (lo,hi)::bs,left=>by
  rw[zkT,List.pairwise_flatMap];refine⟨fun m _=>zoo (znN bs) _ _,List.Pairwise.imp_of_mem (fun {r s} hr1 hs1 hlt x hx y hy=>?_) (zmX _ _)⟩;obtain⟨l,ls,rfl,e1⟩:=zlo _ _ x hx;obtain⟨m,ms,rfl,e2⟩:=zlo _ _ y hy;have h1:=zkZ hr1;have h2:=zkZ hs1;exact Or.inl (Or.inl (by omega))
theorem zrT{h:Int}(hh:0<h)(bs:List Bn):(allB h bs).Pairwise ltB:=by
 rw[allB,List.pairwise_flatMap];have hw:∀w∈ranE (wlo bs) (whi h bs),∀x∈zkT h bs w,wt x=w:=fun w hw x hx=>by
  have:=zkZ hw;exact((zmE hh bs w this.1 this.2 x).1 hx).2
 refine⟨fun w hw1=>List.Pairwise.imp_of_mem (fun {a b} ha hb hab=>.inr ⟨by rw[hw w hw1 a ha,hw w hw1 b hb],hab⟩) (znN bs w),List.Pairwise.imp_of_mem (fun {r s} hr1 hs1 hlt x hx y hy=>.inl (by rw[hw r hr1 x hx,hw s hs1 y hy];exact hlt)) (zmX _ _)⟩
def SmI(l:List Int):Prop:=l.length<=1000000/\∀e∈l,-1000000<=e/\e<=1000000
def cmpI(a b:Int):Int:=if a<b then -1 else if b<a then 1 else 0
def cmpR:List Int->List Int->Int
 | x::a,y::b=>if cmpI (rnk x) (rnk y)≠0 then cmpI (rnk x) (rnk y)else cmpR a b
 | _,_=>0
def cmpL(a b:List Int):Int:=if a.length≠b.length then cmpI a.length b.length else cmpR a b
def orI(x y:Int):Int:=if x≠0 then x else y
def zmn:List (List Int)->List (List Int)->Int
 | a::p,b::q=>if cmpL a b≠0 then cmpL a b else zmn p q
 | _,_=>0
def wtS(s:SS):Int:=lw s.tin+lw s.tout+wt s.cells
def znT(a b:SS):Bool :=
 if cmpI (wtS a) (wtS b)≠0 then decide (cmpI (wtS a) (wtS b)<0)
 else if zmn a.cells b.cells≠0 then decide (zmn a.cells b.cells<0)
 else decide (orI (cmpL a.tin b.tin) (cmpL a.tout b.tout)<0)
theorem zuQ(x:Int)(w:World):Calls prog 80 #[.int .i64 x] w fun e w'=>e=.returned (.bool false)/\w'=w:=by
 go_enter func80,ntmps80;go_wp2_with fail;go_ret;simp
theorem zwd(x y:Int)(w:World):Calls prog 45 #[.int .i64 x,.int .i64 y] w fun e w'=>e=.returned (.int .i64 (cmpI x y))/\w'=w:=by
 have H:=zh zuQ;go_enter func45,ntmps45;go_wp2_with fail;refine(H.out _ _).mono ?_;rintro e w1 ⟨rfl,rfl⟩;go_wp2_with fail;refine(H.out _ _).mono ?_;rintro e w1 ⟨rfl,rfl⟩;by_cases h1:x<y
 ·go_wp2_with fail;go_ret;simp[cmpI,h1]
 ·by_cases h2:y<x
  ·go_wp2_with fail;go_ret;simp[cmpI,h1,h2]
  ·go_wp2_with fail;go_ret;exact⟨by unfold cmpI;rw[if_neg (by omega),if_neg (by omega)];rfl,rfl⟩
theorem zKR(x y:Int)(b:Nat)(w:World)(h:w.heap[b]?=some (.cells #[.int .i64 x,.int .i64 y] 3 (0,0))):Calls prog 44 #[.slice (some ⟨b,0,none⟩) 2 2] w fun e w'=>e=.returned (.int .i64 (orI x y))/\w'=w:=by
 have x0:w.cell? ⟨b,0,none⟩=some (.int .i64 x):=zc h rfl;have x1:w.cell? ⟨b,1,none⟩=some (.int .i64 y):=zc h rfl;clear h;go_enter func44,ntmps44;go_wp2_with fail
 go_loopw [8] (fun i wr=>∃j:Nat,j<=2/\i=.int .i64 j/\wr=w/\Hid ((0<j->x=0)/\(1<j->y=0))) (fun i _=>2-(intOf i).toNat)
 case atStart=>exact⟨0,by omega,rfl,rfl,zh ⟨fun h=>by omega,fun h=>by omega⟩⟩
 case round =>
  obtain⟨j,hj,rfl,rfl,HO⟩:=hrel
  match j,hj,HO with
  | 0,_,HO =>
   by_cases h0:x=0
   ·subst h0;go_wp2_with fail
    go_roundw
    case rel=>exact⟨1,by omega,by go_num,trivial,zh ⟨fun _=>by trivial,fun h=>by omega⟩⟩
    case measure=>simp[intOf]
   ·have e0:(x != 0)=true:=by simpa using h0
    go_wp2_with fail;go_ret;simp[orI,h0]
  | 1,_,HO =>
   obtain rfl:=HO.out.1 (by omega);by_cases h0:y=0
   ·subst h0;go_wp2_with fail
    go_roundw
    case rel=>exact⟨2,by omega,by go_num,trivial,zh ⟨fun _=>by trivial,fun _=>by trivial⟩⟩
    case measure=>simp[intOf]
   ·have e0:(y != 0)=true:=by simpa using h0
    go_wp2_with fail;go_ret;simp[orI]
  | 2,_,HO =>
   obtain rfl:=HO.out.1 (by omega);obtain rfl:=HO.out.2 (by omega);go_wp2_with fail;go_ret;simp[orI]
theorem zqc(x:Int)(w:World)(hx : -1000000<=x/\x<=1000000):Calls prog 82 #[.int .i64 x] w fun e w'=>e=.returned (.int .i64 (rnk x))/\w'=w:=by
 have e1:IntKind.i64.wrap (2*x)=2*x:=IntWalk.i64_in _ (by omega);have e2:IntKind.i64.wrap (2*x-1)=2*x-1:=IntWalk.i64_in _ (by omega);have e3:IntKind.i64.wrap (-2*x) = -2*x:=IntWalk.i64_in _ (by omega);go_enter func82,ntmps82;by_cases h:0<x
 ·go_wp2_with fail;go_ret;simp[rnk,h]
 ·go_wp2_with fail;go_ret;exact⟨by unfold rnk;rw[if_neg (by omega)];rfl,rfl⟩
theorem zqJ{l:List Int}{j:Nat}(hj:j<l.length):lw (l.take (j+1))=lw (l.take j)+(1+rnk l[j]):=by
 rw[List.take_succ_eq_append_getElem hj];unfold lw;rw[List.map_append,List.sum_append];congr 1;simp
theorem zt5{x:Int}(h : -1000000<=x/\x<=1000000):0<=rnk x/\rnk x<=2000000:=by unfold rnk;split<;>omega
theorem zKj{l:List Int}(h:SmI l):0<=lw l/\lw l<=l.length*2000001:=by
 have h1:=zqK (l:=l) (h:=2000001) fun e he=>by have:=zt5 (h.2 e he);omega
 omega
theorem zl5(l:List Int)(A:Option Addr)(c:Nat)(w:World)(hr:RowI w Any A l)(hl:SmI l):Calls prog 81 #[.slice A l.length c] w fun e w'=>e=.returned (.int .i64 (lw l))/\w'=w:=by
 have HL:=zh hl;have HR:=zh hr;have HK:=zh zqc;obtain⟨n,hn⟩:=zX (l.length);have HN:=zh hn;have gT:n<=1000000:=by rw[<-hn];exact hl.1
 rw[hn];clear hr hl hn;go_enter func81,ntmps81;go_wp2_with fail
 go_loopw [10,3] (fun i s wr=>∃j:Nat,j<=n/\i=.int .i64 j/\s=.int .i64 (lw (l.take j)+((n:Int)-(j:Int)))/\wr=w) (fun i _ _=>n-(intOf i).toNat)
 case atStart=>exact⟨0,by omega,rfl,by simp[lw],rfl⟩
 case round =>
  obtain⟨j,hj,rfl,rfl,rfl⟩:=hrel;by_cases hlt:j<n
  ·have hj1:(j:Int)<(n:Int):=by omega
   have hj0:(0:Int)<=(j:Int):=by omega
   have hlj:j<l.length:=by rw[HN.out];exact hlt
   obtain⟨a,hA,-,hc,-⟩:=HR.out j hlj;subst hA;have hx:=HL.out.2 _ (List.getElem_mem hlj);have hb:=zt5 hx;have HX:=zh (HK.out l[j] wr hx);have hS:=zKj (l:=l.take j) ⟨by simp;omega,fun e he=>HL.out.2 e (List.mem_of_mem_take he)⟩;have HT:=zh (zqJ hlj);simp only[List.length_take]at hS;have hmin:(min j l.length:Nat)<=1000000:=by omega
   obtain⟨S,hSS⟩:=zX (lw (l.take j));rw[hSS]at HT hS ⊢;have hS2:0<=S/\S<=3000000000000:=⟨hS.1,by omega⟩
   generalize l[j]=x at *
   obtain⟨r,hr⟩:=zX (rnk x);rw[hr]at HX HT hb;have vD:IntKind.i64.wrap ((j:Int)+1)=(j:Int)+1:=IntWalk.i64_in _ (by omega);have hws:IntKind.i64.wrap (S+((n:Int)-(j:Int))+r)=S+((n:Int)-(j:Int))+r:=IntWalk.i64_in _ (by omega);clear hSS hr hS hx;go_wp2_with fail;refine HX.out.mono ?_;rintro e w2 ⟨rfl,rfl⟩;go_wp2_with fail
   go_roundw
   case rel=>exact⟨j+1,by omega,by go_num,by rw[HT.out];congr 1;omega,trivial⟩
   case measure=>simp[intOf];omega
  ·obtain rfl:j=n:=by omega
   have HF:=zh (show lw (l.take j)+((j:Int)-(j:Int))=lw l by rw[<-HN.out,List.take_length];omega);go_wp2_with fail;go_ret;exact⟨by rw[<-HF.out];rfl,rfl⟩
theorem fnLw:IsFn prog 81 f81:=⟨func81,by kernel_rfl,by kernel_rfl⟩
theorem zyh:IsFn prog 82 f82:=⟨func82,by kernel_rfl,by kernel_rfl⟩
theorem zzh:IsFn prog 45 Tryz.f45:=⟨func45,by kernel_rfl,by kernel_rfl⟩
structure SmS(s:SS):Prop where
 n:s.cells.length<=1000
 c:∀l∈s.cells,SmI l
 i:SmI s.tin
 o:SmI s.tout
theorem zqj{ls:List (List Int)}{j:Nat}(hj:j<ls.length):wt (ls.take (j+1))=wt (ls.take j)+lw ls[j]:=by
 rw[List.take_succ_eq_append_getElem hj];unfold wt;rw[List.map_append,List.sum_append];congr 1;simp
theorem zst{l:List Int}(h:SmI l):0<=lw l/\lw l<=2000001000000:=by
 have h1:=zKj h;have h2:=h.1;omega
theorem zzZ:∀ {ls:List (List Int)},(∀l∈ls,SmI l)->0<=wt ls/\wt ls<=ls.length*2000001000000
 | [],_=>by simp[wt]
 | l::ls,h=>by
  have h1:=zst (h l (List.mem_cons_self ..));have h2:=zzZ (ls:=ls) fun x hx=>h x (List.mem_cons_of_mem _ hx);rw[zoa,List.length_cons];omega
theorem zpD(s:SS)(v:Value)(w:World)(hv:SV w Any s v)(hs:SmS s):Calls prog 46 #[v] w fun e w'=>e=.returned (.int .i64 (wtS s))/\Below w.heap.size w w':=by
 obtain⟨A,c,B,d,D,e,rfl,hr1,hr2,hr3,-⟩:=hv;have k1:=heap_alloc_new w (.cells #[.slice A s.cells.length c,.slice B s.tin.length d,.slice D s.tout.length e] 44);have hb1:=zkb (zs w) (.cells #[.slice A s.cells.length c,.slice B s.tin.length d,.slice D s.tout.length e] 44);have HR1:=zh (fun w' (hb:Below w.heap.size w w')=>hr1.later hb);have HR2:=zh (fun w' (hb:Below w.heap.size w w')=>hr2.later hb);have HR3:=zh (fun w' (hb:Below w.heap.size w w')=>hr3.later hb);have HS:=zh hs;obtain⟨n,hn⟩:=zX (s.cells.length);have HN:=zh hn;have cz:n<=1000:=by rw[<-hn];exact hs.n
 rw[hn]at k1 hb1 ⊢;clear hr1 hr2 hr3 hs hn;go_enter func46,ntmps46;go_upto_region 1 with fail;obtain⟨N,hN⟩:=zX (w.heap.size);obtain⟨w1,hw1⟩:=zX (w.alloc (.cells #[.slice A n c,.slice B s.tin.length d,.slice D s.tout.length e] 44));rw[hw1]at k1 hb1 ⊢;rw[hN]at k1 ⊢;have HB1:=zh hb1;obtain⟨x0,x1,x2⟩:=zlD k1;have aA:=zh k1;clear hw1 hb1 k1 hN;have h2:=zst HS.out.i;have h3:=zst HS.out.o;have HL2:=zh (fun w' (hb:Below w.heap.size w w')=>zl5 s.tin B d w' (HR2.out _ hb) HS.out.i);have qJ:=zh (fun w' (hb:Below w.heap.size w w')=>zl5 s.tout D e w' (HR3.out _ hb) HS.out.o);obtain⟨T2,AV⟩:=zX (lw s.tin);obtain⟨T3,AU⟩:=zX (lw s.tout);have pV:=zh (show wtS s=T2+T3+wt s.cells by unfold wtS;rw[AV,AU]);rw[AV]at h2 HL2;rw[AU]at h3 qJ;have hw23:IntKind.i64.wrap (T2+T3)=T2+T3:=IntWalk.i64_in _ (by omega);clear AV AU;have hcd:=Below.drew (zs w1)
 have mJ:Calls prog 81 [.slice B s.tin.length d].toArray w1.drew fun e w'=>∃v,e=.returned v/\(v=.int .i64 T2/\w'=w1.drew):=(HL2.out _ (zka HB1.out hcd)).mono fun e w' ⟨h1,h2⟩=>⟨_,h1,rfl,h2⟩
 have mI:Calls prog 81 [.slice D s.tout.length e].toArray w1.drew fun e w'=>∃v,e=.returned v/\(v=.int .i64 T3/\w'=w1.drew):=(qJ.out _ (zka HB1.out hcd)).mono fun e w' ⟨h1,h2⟩=>⟨_,h1,rfl,h2⟩
 have hSS:zW (fun w':World=>zN3 w' N (.slice A n c) (.slice B s.tin.length d) (.slice D s.tout.length e)) zU w1.drew:=⟨⟨zb hcd x0,zb hcd x1,zb hcd x2⟩,trivial⟩
 clear x0 x1 x2;refine wp_region_noPanic ?_;refine zG hSS 20 ?_;refine zT 0 hSS ?_;refine zT 1 hSS ?_;refine zT 3 hSS ?_;refine zT 4 hSS ?_;refine zo 2 fun K hK=>?_;refine zkd (by rfl) (.func 81) [.tmp 7] _ (by rfl) 81 _ fnLw (by rfl) _ (by rfl) _ mJ ?_;rintro v2 w2 ⟨rfl,rfl⟩;refine hK.out _ _ hSS ?_;clear hK K mJ;(try simp only[zQ]);refine zo 5 fun K hK=>?_;refine zkd (by rfl) (.func 81) [.tmp 10] _ (by rfl) 81 _ fnLw (by rfl) _ (by rfl) _ mI ?_;rintro v2 w2 ⟨rfl,rfl⟩;refine hK.out _ _ hSS ?_;clear hK K mI;(try simp only[zQ]);refine zT 6 hSS ?_;refine zT 7 hSS ?_;refine zd ?_;refine NoPanic.normal ?_;obtain⟨x0,x1,x2⟩:=hSS.1;have bF:=zh (zka HB1.out hcd);obtain⟨w2,hw2⟩:=zX (w1.drew);rw[hw2]at x0 x1 x2 bF ⊢;clear hSS hcd hw2;go_wp2_with fail
 go_loopw [16,3] (fun i s' wr=>∃j:Nat,j<=n/\i=.int .i64 j/\s'=.int .i64 (T2+T3+wt (s.cells.take j))/\wr=w2) (fun i _ _=>n-(intOf i).toNat)
 case atStart=>exact⟨0,by omega,rfl,by simp[wt],rfl⟩
 case round =>
  obtain⟨j,hj,rfl,rfl,rfl⟩:=hrel;by_cases hlt:j<n
  ·have hj1:(j:Int)<(n:Int):=by omega
   have hj0:(0:Int)<=(j:Int):=by omega
   have hlj:j<s.cells.length:=by rw[HN.out];exact hlt
   obtain⟨a,A',c',hA,-,hc,-,hrow⟩:=(HR1.out _ bF.out) j hlj;subst hA;have hsm:=HS.out.c _ (List.getElem_mem hlj);have hb:=zst hsm;have HX:=zh (zl5 s.cells[j] A' c' wr hrow hsm);have HT:=zh (zqj hlj);have hS:=zzZ (ls:=s.cells.take j) fun l hl=>HS.out.c l (List.mem_of_mem_take hl);simp only[List.length_take]at hS;obtain⟨S,hSS⟩:=zX (wt (s.cells.take j));rw[hSS]at HT hS ⊢;have hmin:(min j s.cells.length:Nat)<=1000:=by omega
   have hS2:0<=S/\S<=3000001000000000:=⟨hS.1,by omega⟩
   generalize s.cells[j]=x at *
   obtain⟨r,hr⟩:=zX (lw x);rw[hr]at HX HT hb;have vD:IntKind.i64.wrap ((j:Int)+1)=(j:Int)+1:=IntWalk.i64_in _ (by omega);have hws:IntKind.i64.wrap (T2+T3+S+r)=T2+T3+S+r:=IntWalk.i64_in _ (by omega);clear hSS hr hS hsm hrow;go_wp2_with fail;refine HX.out.mono ?_;rintro e w2 ⟨rfl,rfl⟩;go_wp2_with fail
   go_roundw
   case rel=>exact⟨j+1,by omega,by go_num,by rw[HT.out];congr 1;omega,trivial⟩
   case measure=>simp[intOf];omega
  ·obtain rfl:j=n:=by omega
   have HF:=zh (show T2+T3+wt (s.cells.take j)=wtS s by rw[pV.out,<-HN.out,List.take_length]);go_wp2_with fail;go_ret;exact⟨by rw[<-HF.out];rfl,bF.out⟩
theorem zq3:∀ {a b:List Int} (j:Nat) (h1:j<a.length) (h2:j<b.length),(∀i (h1:i<a.length) (h2:i<b.length),i<j->cmpI (rnk a[i]) (rnk b[i])=0)->cmpR a b=if cmpI (rnk a[j]) (rnk b[j])≠0 then cmpI (rnk a[j]) (rnk b[j])else cmpR (a.drop (j+1)) (b.drop (j+1))
 | x::a,y::b,0,_,_,_=>rfl
 | x::a,y::b,j+1,h1,h2,h=>by
  have h0:=h 0 (by simp) (by simp) (by omega);simp only[List.getElem_cons_zero]at h0;rw[cmpR,if_neg (by rw[h0];simp)];exact zq3 j (by simpa using h1) (by simpa using h2) fun i q1 q2 q3=>by
   have:=h (i+1) (by simpa using q1) (by simpa using q2) (by omega);simpa using this
theorem zq2:∀ {a b:List Int},a.length=b.length->(∀i (h1:i<a.length) (h2:i<b.length),cmpI (rnk a[i]) (rnk b[i])=0)->cmpR a b=0
 | [],[],_,_=>rfl
 | x::a,y::b,hl,h=>by
  have h0:=h 0 (by simp) (by simp);simp only[List.getElem_cons_zero]at h0;rw[cmpR,if_neg (by rw[h0];simp)];exact zq2 (by simpa using hl) fun i q1 q2=>by
   have:=h (i+1) (by simpa using q1) (by simpa using q2);simpa using this
 | [],_::_,hl,_=>by simp at hl
 | _::_,[],hl,_=>by simp at hl
theorem zm3(l m:List Int)(A B:Option Addr)(c d:Nat)(w:World)(hr:RowI w Any A l)(hq:RowI w Any B m)(hl:SmI l)(hm:SmI m):Calls prog 47 #[.slice A l.length c,.slice B m.length d] w fun e w'=>e=.returned (.int .i64 (cmpL l m))/\Below w.heap.size w w':=by
 have HC:=zh zwd;have HL:=zh hl;have HM:=zh hm;have HR:=zh (fun w' (hb:Below w.heap.size w w')=>hr.later hb);have HQ:=zh (fun w' (hb:Below w.heap.size w w')=>hq.later hb);have h1:=hl.1;have h2:=hm.1;obtain⟨n,hn⟩:=zX (l.length);obtain⟨k,hk⟩:=zX (m.length);have HN:=zh hn;have HK:=zh hk;have HE:=zh (show cmpL l m=if n≠k then cmpI n k else cmpR l m by unfold cmpL;rw[hn,hk]);rw[hn]at h1 ⊢;rw[hk]at h2 ⊢;clear hr hq hl hm hn hk;go_enter func47,ntmps47;by_cases hnk:n=k;rotate_left 1
 ·have e0:((n:Int) != (k:Int))=true:=by simp;omega
  have HF:=zh (show cmpL l m=cmpI n k by rw[HE.out,if_pos hnk]);go_wp2_with fail;refine(HC.out _ _ _).mono ?_;rintro e w2 ⟨rfl,rfl⟩;go_wp2_with fail;go_ret;exact⟨by rw[HF.out];rfl,zr⟩
 subst hnk;have e0:((n:Int) != (n:Int))=false:=by simp
 have HF:=zh (show cmpL l m=cmpR l m by rw[HE.out,if_neg (by simp)]);go_wp2_with fail
 go_loopw [19] (fun i wr=>∃j:Nat,j<=n/\i=.int .i64 j/\Hid (Below w.heap.size w wr)/\Hid (∀i (h1:i<l.length) (h2:i<m.length),i<j->cmpI (rnk l[i]) (rnk m[i])=0)) (fun i _=>n-(intOf i).toNat)
 case atStart=>exact⟨0,by omega,rfl,zh zr,zh fun i _ _ h=>by omega⟩
 case round =>
  obtain⟨j,hj,rfl,HB,HO⟩:=hrel;by_cases hlt:j<n
  ·have hj1:(j:Int)<(n:Int):=by omega
   have hj0:(0:Int)<=(j:Int):=by omega
   have hlj:j<l.length:=by rw[HN.out];exact hlt
   have rQ:j<m.length:=by rw[HK.out];exact hlt
   obtain⟨a,hA,-,hc,-⟩:=HR.out _ HB.out j hlj;obtain⟨a',hA',-,hc',-⟩:=HQ.out _ HB.out j rQ;subst hA hA';have HX:=zh (zqc l[j] wr.drew (HL.out.2 _ (List.getElem_mem hlj)));have HY:=zh (zqc m[j] wr.drew (HM.out.2 _ (List.getElem_mem rQ)));have HST:=zh (zq3 j hlj rQ HO.out);have ou:=zh (fun(h:cmpI (rnk l[j]) (rnk m[j])=0)=>show ∀i (h1:i<l.length) (h2:i<m.length),i<j+1->cmpI (rnk l[i]) (rnk m[i])=0 from fun i h1 h2 h3=>by
    by_cases e:i=j
    ·subst e;exact h
    ·exact HO.out i h1 h2 (by omega))
   have vD:IntKind.i64.wrap ((j:Int)+1)=(j:Int)+1:=IntWalk.i64_in _ (by omega);generalize l[j]=x at *
   generalize m[j]=y at *
   obtain⟨r,hr⟩:=zX (rnk x);obtain⟨q,hq⟩:=zX (rnk y);rw[hr]at HX HST ou;rw[hq]at HY HST ou;clear hr hq;have hcd:=Below.drew (zs wr);have mJ:Calls prog 82 [.int .i64 x].toArray wr.drew fun e w'=>∃v,e=.returned v/\(v=.int .i64 r/\w'=wr.drew):=HX.out.mono fun e w' ⟨h1,h2⟩=>⟨_,h1,rfl,h2⟩
   have mI:Calls prog 82 [.int .i64 y].toArray wr.drew fun e w'=>∃v,e=.returned v/\(v=.int .i64 q/\w'=wr.drew):=HY.out.mono fun e w' ⟨h1,h2⟩=>⟨_,h1,rfl,h2⟩
   have had4:Calls prog 45 [.int .i64 r,.int .i64 q].toArray wr.drew fun e w'=>∃v,e=.returned v/\(v=.int .i64 (cmpI r q)/\w'=wr.drew):=(HC.out r q wr.drew).mono fun e w' ⟨h1,h2⟩=>⟨_,h1,rfl,h2⟩
   have hSS:zW (fun w':World=>w'.cell? (a.add j)=some (.int .i64 x)/\w'.cell? (a'.add j)=some (.int .i64 y)) zU wr.drew:=⟨⟨zb hcd hc,zb hcd hc'⟩,trivial⟩
   go_upto_region 6 with fail;clear hc hc';refine wp_region_noPanic ?_;refine zG hSS 20 ?_;refine zT 0 hSS ?_;refine zT 1 hSS ?_;refine zT 2 hSS ?_;refine zT 3 hSS ?_;refine zT 5 hSS ?_;refine zT 6 hSS ?_;refine zT 7 hSS ?_;refine zT 8 hSS ?_;refine zo 4 fun K hK=>?_;refine zkd (by rfl) (.func 82) [.tmp 25] _ (by rfl) 82 _ zyh (by rfl) _ (by rfl) _ mJ ?_;rintro v2 w2 ⟨rfl,rfl⟩;refine hK.out _ _ hSS ?_;clear hK K mJ;(try simp only[zQ]);refine zo 9 fun K hK=>?_;refine zkd (by rfl) (.func 82) [.tmp 30] _ (by rfl) 82 _ zyh (by rfl) _ (by rfl) _ mI ?_;rintro v2 w2 ⟨rfl,rfl⟩;refine hK.out _ _ hSS ?_;clear hK K mI;(try simp only[zQ]);refine zo 10 fun K hK=>?_;refine zkd (by rfl) (.func 45) [.tmp 26,.tmp 31] _ (by rfl) 45 _ zzh (by rfl) _ (by rfl) _ had4 ?_;rintro v2 w2 ⟨rfl,rfl⟩;refine hK.out _ _ hSS ?_;clear hK K had4;(try simp only[zQ]);refine zT 11 hSS ?_
   refine zd ?_;refine NoPanic.normal ?_;have bF:=zh (zka HB.out hcd);obtain⟨w2,hw2⟩:=zX (wr.drew);rw[hw2]at bF ⊢;clear hSS hcd hw2;obtain⟨z,hz⟩:=zX (cmpI r q);rw[hz]at HST ou ⊢;clear hz;by_cases h0:z=0
   ·subst h0;have e9:((0:Int) != 0)=false:=by simp
    go_wp2_with fail
    go_roundw
    case rel=>exact⟨j+1,by omega,by go_num,bF,zh (ou.out rfl)⟩
    case measure=>simp[intOf];omega
   ·have e9:(z != 0)=true:=by simpa using h0
    have HG:=zh (show cmpL l m=z by rw[HF.out,HST.out,if_pos h0]);go_wp2_with fail;go_ret;exact⟨by rw[HG.out];rfl,bF.out⟩
  ·obtain rfl:j=n:=by omega
   have HG:=zh (show cmpL l m=0 by rw[HF.out];exact zq2 (by rw[HN.out,HK.out]) fun i h1 h2=>HO.out i h1 h2 (by have:=HN.out;omega));go_wp2_with fail;go_ret;exact⟨by rw[HG.out];rfl,HB.out⟩
theorem fnWt:IsFn prog 46 f46:=⟨func46,by kernel_rfl,by kernel_rfl⟩
theorem fnOr:IsFn prog 44 Tryz.f44:=⟨func44,by kernel_rfl,by kernel_rfl⟩
theorem zzg:IsFn prog 47 f47:=⟨func47,by kernel_rfl,by kernel_rfl⟩
theorem bI2L(x y:Int)(w:World):(Instr.buildSlice 42 2 #[(0,.int .i64 x),(1,.int .i64 y)]).run prog w=.ok (.slice (some ⟨w.heap.size,0,none⟩) 2 2) (w.alloc (.cells #[.int .i64 x,.int .i64 y] 3)):=by kernel_rfl
theorem zpz:∀ {a b:List (List Int)} (j:Nat) (h1:j<a.length) (h2:j<b.length),(∀i (h1:i<a.length) (h2:i<b.length),i<j->cmpL a[i] b[i]=0)->zmn a b=if cmpL a[j] b[j]≠0 then cmpL a[j] b[j]else zmn (a.drop (j+1)) (b.drop (j+1))
 | x::a,y::b,0,_,_,_=>rfl
 | x::a,y::b,j+1,h1,h2,h=>by
  have h0:=h 0 (by simp) (by simp) (by omega);simp only[List.getElem_cons_zero]at h0;rw[zmn,if_neg (by rw[h0];simp)];exact zpz j (by simpa using h1) (by simpa using h2) fun i q1 q2 q3=>by
   have:=h (i+1) (by simpa using q1) (by simpa using q2) (by omega);simpa using this
theorem zpy:∀ {a b:List (List Int)},a.length=b.length->(∀i (h1:i<a.length) (h2:i<b.length),cmpL a[i] b[i]=0)->zmn a b=0
 | [],[],_,_=>rfl
 | x::a,y::b,hl,h=>by
  have h0:=h 0 (by simp) (by simp);simp only[List.getElem_cons_zero]at h0;rw[zmn,if_neg (by rw[h0];simp)];exact zpy (by simpa using hl) fun i q1 q2=>by
   have:=h (i+1) (by simpa using q1) (by simpa using q2);simpa using this
 | [],_::_,hl,_=>by simp at hl
 | _::_,[],hl,_=>by simp at hl
theorem zvs(a:Int):cmpI a a=0:=by unfold cmpI;rw[if_neg (by omega),if_neg (by omega)]
theorem zxX(s t:SS)(v u:Value)(w:World)(hv:SV w Any s v)(hu:SV w Any t u)(hs:SmS s)(ht:SmS t)(hl:s.cells.length=t.cells.length):Calls prog 20 #[v,u] w fun e w'=>e=.returned (.bool (znT s t))/\Below w.heap.size w w':=by
 have HV:=zh (fun w' (hb:Below w.heap.size w w')=>zpD s v w' (hv.later hb) hs);have HU:=zh (fun w' (hb:Below w.heap.size w w')=>zpD t u w' (hu.later hb) ht);obtain⟨A,c,B,d,D,e,rfl,hr1,hr2,hr3,-⟩:=hv;obtain⟨A',c',B',d',D',e',rfl,hq1,hq2,hq3,-⟩:=hu;have HR1:=zh (fun w' (hb:Below w.heap.size w w')=>hr1.later hb);have bH:=zh (fun w' (hb:Below w.heap.size w w')=>hq1.later hb);have qQ:=zh (fun w' (hb:Below w.heap.size w w')=>zm3 s.tin t.tin B B' d d' w' (hr2.later hb) (hq2.later hb) hs.i ht.i);have qP:=zh (fun w' (hb:Below w.heap.size w w')=>zm3 s.tout t.tout D D' e e' w' (hr3.later hb) (hq3.later hb) hs.o ht.o);have HS:=zh hs;have HT:=zh ht;have HC:=zh zwd;have HO:=zh zKR;obtain⟨n,hn⟩:=zX (s.cells.length);have hn2:t.cells.length=n:=by omega
 have HN:=zh (And.intro hn hn2);have cz:n<=1000:=by rw[<-hn];exact hs.n
 have iU:=zh (show znT s t=if cmpI (wtS s) (wtS t)≠0 then decide (cmpI (wtS s) (wtS t)<0)else if zmn s.cells t.cells≠0 then decide (zmn s.cells t.cells<0)else decide (orI (cmpL s.tin t.tin) (cmpL s.tout t.tout)<0)from rfl);rw[hn]at HV ⊢;rw[hn2]at HU ⊢;obtain⟨WS,hWS⟩:=zX (wtS s);obtain⟨WT,xc⟩:=zX (wtS t);rw[hWS]at HV iU;rw[xc]at HU iU;clear hr1 hr2 hr3 hq1 hq2 hq3 hs ht hn hn2 hl hWS xc;have hb1:=zkb (zkb (zs w) (.cells #[.slice A n c,.slice B s.tin.length d,.slice D s.tout.length e] 44)) (.cells #[.slice A' n c',.slice B' t.tin.length d',.slice D' t.tout.length e'] 44);obtain⟨N,hN⟩:=zX (w.heap.size);have k0:=zke (heap_alloc_new w (.cells #[.slice A n c,.slice B s.tin.length d,.slice D s.tout.length e] 44)) (.cells #[.slice A' n c',.slice B' t.tin.length d',.slice D' t.tout.length e'] 44)
 have k1:=heap_alloc_new (w.alloc (.cells #[.slice A n c,.slice B s.tin.length d,.slice D s.tout.length e] 44)) (.cells #[.slice A' n c',.slice B' t.tin.length d',.slice D' t.tout.length e'] 44);rw[World.size_alloc]at k1;rw[hN]at k0 k1;obtain⟨w1,hw1⟩:=zX ((w.alloc (.cells #[.slice A n c,.slice B s.tin.length d,.slice D s.tout.length e] 44)).alloc (.cells #[.slice A' n c',.slice B' t.tin.length d',.slice D' t.tout.length e'] 44));rw[hw1]at hb1 k0 k1;have HB1:=zh hb1;have aF:=zh k0;have aA:=zh k1;clear hb1 k0 k1;go_enter func20,ntmps20;go_upto_region 1 with fail;clear hw1 hN;have av:=zh (show ∀w',Below w1.heap.size w1 w'->(fun w':World=>(zN3 w' N (.slice A n c) (.slice B s.tin.length d) (.slice D s.tout.length e))/\zN3 w' (N+1) (.slice A' n c') (.slice B' t.tin.length d') (.slice D' t.tout.length e')) w' from fun w' hb=>⟨zlD (zkc aF.out hb),zlD (zkc aA.out hb)⟩)
 have hcd:=Below.drew (zs w1);have hSS:zW (fun w':World=>(zN3 w' N (.slice A n c) (.slice B s.tin.length d) (.slice D s.tout.length e))/\zN3 w' (N+1) (.slice A' n c') (.slice B' t.tin.length d') (.slice D' t.tout.length e')) zU w1.drew:=⟨av.out _ hcd,trivial⟩
 have had:Calls prog 46 [.agg #[.slice A n c,.slice B s.tin.length d,.slice D s.tout.length e]].toArray w1.drew fun e w'=>∃v,e=.returned v/\(v=.int .i64 WS/\Below w1.heap.size w1 w'):=(HV.out _ (zka HB1.out hcd)).mono fun e w' ⟨h1,h2⟩=>⟨_,h1,rfl,zka hcd h2⟩
 have HUA:=zh (fun w2 (hb:Below w1.heap.size w1 w2)=>show Calls prog 46 [.agg #[.slice A' n c',.slice B' t.tin.length d',.slice D' t.tout.length e']].toArray w2 fun e w'=>∃v,e=.returned v/\(v=.int .i64 WT/\Below w1.heap.size w1 w')from(HU.out _ (zka HB1.out hb)).mono fun e w' ⟨h1,h2⟩=>⟨_,h1,rfl,zka hb h2⟩);have yU:=zh (fun x y w2=>show Calls prog 45 [.int .i64 x,.int .i64 y].toArray w2 fun e w'=>∃v,e=.returned v/\(v=.int .i64 (cmpI x y)/\w'=w2)from(HC.out x y w2).mono fun e w' ⟨h1,h2⟩=>⟨_,h1,rfl,h2⟩);have HOA:=zh (fun x y b w2 h=>show Calls prog 44 [.slice (some ⟨b,0,none⟩) 2 2].toArray w2 fun e w'=>∃v,e=.returned v/\(v=.int .i64 (orI x y)/\w'=w2)from(HO.out x y b w2 h).mono fun e w' ⟨h1,h2⟩=>⟨_,h1,rfl,h2⟩);refine wp_region_noPanic ?_;refine zG hSS 30 ?_;refine zT 0 hSS ?_;refine zT 2 hSS ?_;refine zT 5 hSS ?_;refine zT 6 hSS ?_;refine zT 7 hSS ?_;refine zT 8 hSS ?_
 refine zT 9 hSS ?_;refine zT 10 hSS ?_;refine zo 1 fun K hK=>?_;refine zkd (by rfl) (.func 46) [.tmp 7] _ (by rfl) 46 _ fnWt (by rfl) _ (by rfl) _ had ?_;rintro v2 w2 ⟨rfl,hb2⟩;refine hK.out _ _ ⟨av.out _ hb2,trivial⟩ ?_;clear hK K had hSS hcd;(try simp only[zQ]);have had:=HUA.out _ hb2;clear hb2;refine zo 3 fun K hK=>?_;refine zkd (by rfl) (.func 46) [.tmp 9] _ (by rfl) 46 _ fnWt (by rfl) _ (by rfl) _ had ?_;rintro v3 w3 ⟨rfl,hb3⟩;refine hK.out _ _ ⟨av.out _ hb3,trivial⟩ ?_;clear hK K had HUA;(try simp only[zQ]);have had:=yU.out WS WT w3;refine zo 4 fun K hK=>?_;refine zkd (by rfl) (.func 45) [.tmp 8,.tmp 10] _ (by rfl) 45 _ zzh (by rfl) _ (by rfl) _ had ?_;rintro v4 w4 ⟨rfl,rfl⟩;refine hK.out _ _ ⟨av.out _ hb3,trivial⟩ ?_;clear hK K had;(try simp only[zQ]);have had:=yU.out (n:Int) (n:Int) w4;rw[zvs]at had;obtain⟨z,hz⟩:=zX (cmpI WS WT);rw[hz]at iU ⊢
 clear hz;refine zo 11 fun K hK=>?_;refine zkd (by rfl) (.func 45) [.tmp 14,.tmp 17] _ (by rfl) 45 _ zzh (by rfl) _ (by rfl) _ had ?_;rintro v5 w5 ⟨rfl,rfl⟩;refine hK.out _ _ ⟨av.out _ hb3,trivial⟩ ?_;clear hK K had;(try simp only[zQ]);have hbi:=bI2L;have hb6:=zka hb3 (zkb (zs w5) (.cells #[.int .i64 z,.int .i64 0] 3));have bu:=heap_alloc_new w5 (.cells #[.int .i64 z,.int .i64 0] 3);refine zo 12 fun K hK=>?_;(try simp only[zA,zB,zC]);go_simp;refine hK.out _ _ ⟨av.out _ hb6,trivial⟩ ?_;clear hK K;(try simp only[zQ]);obtain⟨w6,jR⟩:=zX (w5.alloc (.cells #[.int .i64 z,.int .i64 0] 3));rw[jR]at hb6 bu ⊢;have had:=HOA.out z 0 _ w6 bu;rw[show orI z 0=z by unfold orI;split<;>simp_all]at had;clear jR bu hb3;refine zo 13 fun K hK=>?_;refine zkd (by rfl) (.func 44) [.tmp 19] _ (by rfl) 44 _ fnOr (by rfl) _ (by rfl) _ had ?_;rintro v7 w7 ⟨rfl,rfl⟩
 refine hK.out _ _ ⟨av.out _ hb6,trivial⟩ ?_;clear hK K had;(try simp only[zQ]);have hSS:zW (fun w':World=>(zN3 w' N (.slice A n c) (.slice B s.tin.length d) (.slice D s.tout.length e))/\zN3 w' (N+1) (.slice A' n c') (.slice B' t.tin.length d') (.slice D' t.tout.length e')) zU w7:=⟨av.out _ hb6,trivial⟩
 refine zT 14 hSS ?_;refine zd ?_;refine NoPanic.normal ?_;have ig:=zh hb6;clear hSS hb6 hbi;by_cases h0:z=0;rotate_left 1
 ·have e0:(z != 0)=true:=by simpa using h0
  have HF:=zh (show znT s t=decide (z<0) by rw[iU.out,if_pos h0]);go_wp2_with fail;go_ret;exact⟨by rw[HF.out];rfl,zka HB1.out ig.out⟩
 subst h0;have e0:((0:Int) != 0)=false:=by simp
 have HLF:=zh (show znT s t=if zmn s.cells t.cells≠0 then decide (zmn s.cells t.cells<0)else decide (orI (cmpL s.tin t.tin) (cmpL s.tout t.tout)<0) by rw[iU.out,if_neg (by simp)]);have hx7:=av.out _ ig.out;obtain⟨⟨x0,x1,x2⟩,-⟩:=hx7;go_wp2_with fail;clear x0 x1 x2
 go_loopw [28] (fun i wr=>∃j:Nat,j<=n/\i=.int .i64 j/\Hid (Below w1.heap.size w1 wr)/\Hid (∀i (h1:i<s.cells.length) (h2:i<t.cells.length),i<j->cmpL s.cells[i] t.cells[i]=0)) (fun i _=>n-(intOf i).toNat)
 case atStart=>exact⟨0,by omega,rfl,ig,zh fun i _ _ h=>by omega⟩
 case round =>
  obtain⟨j,hj,rfl,fE,dJ⟩:=hrel;by_cases hlt:j<n
  ·have hj1:(j:Int)<(n:Int):=by omega
   have hj0:(0:Int)<=(j:Int):=by omega
   have hlj:j<s.cells.length:=by rw[HN.out.1];exact hlt
   have rQ:j<t.cells.length:=by rw[HN.out.2];exact hlt
   have hbW:=zka HB1.out fE.out;obtain⟨a,Ax,cx,hA,-,hc,-,hrx⟩:=HR1.out _ hbW j hlj;obtain⟨a',Ay,cy,hA',-,hc',-,hry⟩:=bH.out _ hbW j rQ;subst hA hA';have hcd:=Below.drew (zs wr);have hcp:=zm3 s.cells[j] t.cells[j] Ax Ay cx cy wr.drew (hrx.later hcd) (hry.later hcd) (HS.out.c _ (List.getElem_mem hlj)) (HT.out.c _ (List.getElem_mem rQ));have HST:=zh (zpz j hlj rQ dJ.out);have ou:=zh (fun(h:cmpL s.cells[j] t.cells[j]=0)=>show ∀i (h1:i<s.cells.length) (h2:i<t.cells.length),i<j+1->cmpL s.cells[i] t.cells[i]=0 from fun i h1 h2 h3=>by
    by_cases e:i=j
    ·subst e;exact h
    ·exact dJ.out i h1 h2 (by omega))
   have vD:IntKind.i64.wrap ((j:Int)+1)=(j:Int)+1:=IntWalk.i64_in _ (by omega);clear hrx hry;generalize s.cells[j]=x at *
   generalize t.cells[j]=y at *
   obtain⟨z,hz⟩:=zX (cmpL x y);rw[hz]at HST ou hcp;clear hz;have had:Calls prog 47 [.slice Ax x.length cx,.slice Ay y.length cy].toArray wr.drew fun e w'=>∃v,e=.returned v/\(v=.int .i64 z/\Below wr.heap.size wr w'):=hcp.mono fun e w' ⟨h1,h2⟩=>⟨_,h1,rfl,zka hcd h2⟩
   have HS2:=zh (show ∀w',Below wr.heap.size wr w'->(fun w':World=>(fun w':World=>(zN3 w' N (.slice (some a) n c) (.slice B s.tin.length d) (.slice D s.tout.length e))/\zN3 w' (N+1) (.slice (some a') n c') (.slice B' t.tin.length d') (.slice D' t.tout.length e')) w'/\w'.cell? (a.add j)=some (.slice Ax x.length cx)/\w'.cell? (a'.add j)=some (.slice Ay y.length cy)) w' from fun w' hb=>⟨av.out _ (zka fE.out hb),zb hb hc,zb hb hc'⟩);have hSS:zW (fun w':World=>(fun w':World=>(zN3 w' N (.slice (some a) n c) (.slice B s.tin.length d) (.slice D s.tout.length e))/\zN3 w' (N+1) (.slice (some a') n c') (.slice B' t.tin.length d') (.slice D' t.tout.length e')) w'/\w'.cell? (a.add j)=some (.slice Ax x.length cx)/\w'.cell? (a'.add j)=some (.slice Ay y.length cy)) zU wr.drew:=⟨HS2.out _ hcd,trivial⟩
   clear hcp hc hc';go_upto_region 7 with fail;refine wp_region_noPanic ?_;refine zG hSS 30 ?_;refine zT 0 hSS ?_;refine zT 1 hSS ?_;refine zT 2 hSS ?_;refine zT 3 hSS ?_;refine zT 4 hSS ?_;refine zT 5 hSS ?_;refine zT 6 hSS ?_;refine zT 7 hSS ?_;refine zT 8 hSS ?_;refine zT 9 hSS ?_;refine zo 10 fun K hK=>?_;refine zkd (by rfl) (.func 47) [.tmp 35,.tmp 40] _ (by rfl) 47 _ zzg (by rfl) _ (by rfl) _ had ?_;rintro v8 w8 ⟨rfl,cB⟩;have AZ:=zV hSS (HS2.out _ cB) trivial;refine hK.out _ _ AZ ?_;have fM:=zh (zka fE.out cB);clear hK K had hSS hcd cB hbW;(try simp only[zQ]);refine zT 11 AZ ?_;refine zd ?_;refine NoPanic.normal ?_;clear AZ HS2;by_cases h0:z=0
   ·subst h0;go_wp2_with fail
    go_roundw
    case rel=>exact⟨j+1,by omega,by go_num,fM,zh (ou.out rfl)⟩
    case measure=>simp[intOf];omega
   ·have e9:(z != 0)=true:=by simpa using h0
    have HG:=zh (show znT s t=decide (z<0) by rw[HLF.out,HST.out,if_pos h0,if_pos h0]);go_wp2_with fail;go_ret;exact⟨by rw[HG.out];rfl,zka HB1.out fM.out⟩
  ·obtain rfl:n=j:=by omega
   have HG:=zh (show znT s t=decide (orI (cmpL s.tin t.tin) (cmpL s.tout t.tout)<0) by
    rw[HLF.out,if_neg];rw[zpy (by rw[HN.out.1,HN.out.2]) fun i h1 h2=>dJ.out i h1 h2 (by have:=HN.out.1;omega)];simp)
   have hcd:=Below.drew (zs wr);have HS2:=zh (show ∀w',Below wr.heap.size wr w'->(fun w':World=>(zN3 w' N (.slice A n c) (.slice B s.tin.length d) (.slice D s.tout.length e))/\zN3 w' (N+1) (.slice A' n c') (.slice B' t.tin.length d') (.slice D' t.tout.length e')) w' from fun w' hb=>av.out _ (zka fE.out hb));have hSS:zW (fun w':World=>(zN3 w' N (.slice A n c) (.slice B s.tin.length d) (.slice D s.tout.length e))/\zN3 w' (N+1) (.slice A' n c') (.slice B' t.tin.length d') (.slice D' t.tout.length e')) zU wr.drew:=⟨HS2.out _ hcd,trivial⟩
   obtain⟨z1,hz1⟩:=zX (cmpL s.tin t.tin);obtain⟨z2,hz2⟩:=zX (cmpL s.tout t.tout);rw[hz1]at qQ HG;rw[hz2]at qP HG;have had:Calls prog 47 [.slice B s.tin.length d,.slice B' t.tin.length d'].toArray wr.drew fun e w'=>∃v,e=.returned v/\(v=.int .i64 z1/\Below wr.heap.size wr w'):=(qQ.out _ (zka HB1.out (zka fE.out hcd))).mono fun e w' ⟨h1,h2⟩=>⟨_,h1,rfl,zka hcd h2⟩
   have HCO2:=zh (fun w2 (hb:Below wr.heap.size wr w2)=>show Calls prog 47 [.slice D s.tout.length e,.slice D' t.tout.length e'].toArray w2 fun e w'=>∃v,e=.returned v/\(v=.int .i64 z2/\Below wr.heap.size wr w')from(qP.out _ (zka HB1.out (zka fE.out hb))).mono fun e w' ⟨h1,h2⟩=>⟨_,h1,rfl,zka hb h2⟩);clear hz1 hz2;go_upto_region 11 with fail;refine wp_region_noPanic ?_;refine zG hSS 30 ?_;refine zT 0 hSS ?_;refine zT 1 hSS ?_;refine zT 2 hSS ?_;refine zT 3 hSS ?_;refine zT 5 hSS ?_;refine zT 6 hSS ?_;refine zT 7 hSS ?_;refine zT 8 hSS ?_;refine zo 4 fun K hK=>?_;refine zkd (by rfl) (.func 47) [.tmp 48,.tmp 50] _ (by rfl) 47 _ zzg (by rfl) _ (by rfl) _ had ?_;rintro v8 w8 ⟨rfl,cB⟩;refine hK.out _ _ ⟨HS2.out _ cB,trivial⟩ ?_;have had:=HCO2.out _ cB;clear hK K hSS hcd cB;(try simp only[zQ]);refine zo 9 fun K hK=>?_
   refine zkd (by rfl) (.func 47) [.tmp 53,.tmp 55] _ (by rfl) 47 _ zzg (by rfl) _ (by rfl) _ had ?_;rintro v9 w9 ⟨rfl,aM⟩;refine hK.out _ _ ⟨HS2.out _ aM,trivial⟩ ?_;clear hK K had;(try simp only[zQ]);have hbi:=bI2L;have hb6:=zka aM (zkb (zs w9) (.cells #[.int .i64 z1,.int .i64 z2] 3));have bu:=heap_alloc_new w9 (.cells #[.int .i64 z1,.int .i64 z2] 3);refine zo 10 fun K hK=>?_;(try simp only[zA,zB,zC]);go_simp;refine hK.out _ _ ⟨HS2.out _ hb6,trivial⟩ ?_;clear hK K;(try simp only[zQ]);obtain⟨wa,rq⟩:=zX (w9.alloc (.cells #[.int .i64 z1,.int .i64 z2] 3));rw[rq]at hb6 bu ⊢;have had:=HOA.out z1 z2 _ wa bu;clear rq bu aM;refine zo 11 fun K hK=>?_;refine zkd (by rfl) (.func 44) [.tmp 57] _ (by rfl) 44 _ fnOr (by rfl) _ (by rfl) _ had ?_;rintro vb wb ⟨rfl,rfl⟩;refine hK.out _ _ ⟨HS2.out _ hb6,trivial⟩ ?_;clear hK K had;(try simp only[zQ])
   have hSS:zW (fun w':World=>(zN3 w' N (.slice A n c) (.slice B s.tin.length d) (.slice D s.tout.length e))/\zN3 w' (N+1) (.slice A' n c') (.slice B' t.tin.length d') (.slice D' t.tout.length e')) zU wb:=⟨HS2.out _ hb6,trivial⟩
   refine zT 12 hSS ?_;refine zT 13 hSS ?_;refine zd ?_;refine NoPanic.normal ?_;have bz:=zh (zka fE.out hb6);clear hSS hb6 hbi HS2;go_wp2_with fail;go_ret;exact⟨by rw[HG.out];rfl,zka HB1.out bz.out⟩
theorem zrP{a b:Int}:cmpI a b<0↔a<b:=by
 unfold cmpI;by_cases h1:a<b
 ·rw[if_pos h1];exact⟨fun _=>h1,fun _=>by decide⟩
 ·rw[if_neg h1];by_cases h2:b<a
  ·rw[if_pos h2];exact⟨fun h=>by simp at h,fun h=>absurd h h1⟩
  ·rw[if_neg h2];exact⟨fun h=>by simp at h,fun h=>absurd h h1⟩
theorem zp8{a b:Int}:cmpI a b=0↔a=b:=by
 unfold cmpI;by_cases h1:a<b
 ·rw[if_pos h1];exact⟨fun h=>by simp at h,fun h=>by omega⟩
 ·rw[if_neg h1];by_cases h2:b<a
  ·rw[if_pos h2];exact⟨fun h=>by simp at h,fun h=>by omega⟩
  ·rw[if_neg h2];exact⟨fun _=>by omega,fun _=>rfl⟩
theorem zvo:∀ {a b:List Int},cmpR a b<0->lexR a b
 | x::a,y::b,h=>by
  rw[cmpR]at h;by_cases h0:cmpI (rnk x) (rnk y)=0
  ·rw[if_neg (by rw[h0];simp)]at h;exact Or.inr ⟨zt4 (zp8.1 h0),zvo h⟩
  ·rw[if_pos h0]at h;exact Or.inl (zrP.1 h)
 | [],_,h=>by simp[cmpR]at h
 | _::_,[],h=>by simp[cmpR]at h
theorem zvp:∀ {a b:List Int},a.length=b.length->cmpR a b=0->a=b
 | x::a,y::b,hl,h=>by
  rw[cmpR]at h;by_cases h0:cmpI (rnk x) (rnk y)=0
  ·rw[if_neg (by rw[h0];simp)]at h;rw[zt4 (zp8.1 h0),zvp (by simpa using hl) h]
  ·rw[if_pos h0]at h;exact absurd h h0
 | [],[],_,_=>rfl
 | [],_::_,hl,_=>by simp at hl
 | _::_,[],hl,_=>by simp at hl
theorem zvq{a b:List Int}(h:cmpL a b<0):ltL a b:=by
 unfold cmpL at h;by_cases hl:a.length=b.length
 ·rw[if_neg (by simpa using hl)]at h;exact Or.inr ⟨hl,zvo h⟩
 ·rw[if_pos hl]at h;exact Or.inl (by have:=zrP.1 h;omega)
theorem zvr{a b:List Int}(h:cmpL a b=0):a=b:=by
 unfold cmpL at h;by_cases hl:a.length=b.length
 ·rw[if_neg (by simpa using hl)]at h;exact zvp hl h
 ·rw[if_pos hl]at h;exact absurd (zp8.1 h) (by omega)
theorem zsH:∀ {a b:List (List Int)} (c d:List (List Int)),zmn a b<0->ltLL (a++c) (b++d)
 | x::a,y::b,c,d,h=>by
  rw[zmn]at h;by_cases h0:cmpL x y=0
  ·rw[if_neg (by rw[h0];simp)]at h;exact Or.inr ⟨zvr h0,zsH c d h⟩
  ·rw[if_pos h0]at h;exact Or.inl (zvq h)
 | [],_,_,_,h=>by simp[zmn]at h
 | _::_,[],_,_,h=>by simp[zmn]at h
theorem zsI:∀ {a b:List (List Int)},a.length=b.length->zmn a b=0->a=b
 | x::a,y::b,hl,h=>by
  rw[zmn]at h;by_cases h0:cmpL x y=0
  ·rw[if_neg (by rw[h0];simp)]at h;rw[zvr h0,zsI (by simpa using hl) h]
  ·rw[if_pos h0]at h;exact absurd h h0
 | [],[],_,_=>rfl
 | [],_::_,hl,_=>by simp at hl
 | _::_,[],hl,_=>by simp at hl
theorem zsu:∀(a:List (List Int)) {u v:List Int},ltL u v->ltLL (a++[u]) (a++[v])
 | [],_,_,h=>Or.inl h
 | x::a,_,_,h=>Or.inr ⟨rfl,zsu a h⟩
theorem zz0(a b:List (List Int)):wt (a++b)=wt a+wt b:=by simp[wt]
theorem zna{x:List (List Int)}(hx:x≠[]):x=(stOf x).cells++[(stOf x).tin]:=by
 show x=x.dropLast++[x.getLastD []]
 rw[List.getLastD_eq_getLast?,List.getLast?_eq_some_getLast hx];simp[List.dropLast_concat_getLast hx]
theorem zx8{x:List (List Int)}(hx:x≠[]):wtS (stOf x)=wt x:=by
 have h:=congrArg wt (zna hx);rw[h,zz0];unfold wtS
 show lw (stOf x).tin+lw []+wt (stOf x).cells=_
 simp only[zoa,lw,wt,List.map_nil,List.sum_nil,List.map_cons,List.sum_cons];omega
theorem zy0{x y:List (List Int)}(hx:x≠[])(hy:y≠[])(hl:x.length=y.length)(h:znT (stOf x) (stOf y)=true):ltB x y:=by
 unfold znT at h;rw[zx8 hx,zx8 hy]at h;by_cases h0:cmpI (wt x) (wt y)=0
 ·rw[if_neg (by rw[h0];simp)]at h;refine Or.inr ⟨zp8.1 h0,?_⟩;have hc:(stOf x).cells.length=(stOf y).cells.length:=by simp[stOf,hl]
  rw[zna hx,zna hy];by_cases h1:zmn (stOf x).cells (stOf y).cells=0
  ·rw[if_neg (by rw[h1];simp)]at h;rw[zsI hc h1];refine zsu _ (zvq ?_);have ho:orI (cmpL (stOf x).tin (stOf y).tin) (cmpL (stOf x).tout (stOf y).tout)=cmpL (stOf x).tin (stOf y).tin:=by
    show orI _ (cmpL [] [])=_
    unfold orI
    split
    ·rfl
    ·rename_i h2;simp only[Decidable.not_not]at h2;rw[h2];rfl
   rw[ho]at h;exact of_decide_eq_true h
  ·rw[if_pos h1]at h;exact zsH _ _ (of_decide_eq_true h)
 ·rw[if_pos h0]at h;exact Or.inl (zrP.1 (of_decide_eq_true h))
def RSt(n:Nat)(s t:SS):Prop:=∃x y,s=stOf x/\t=stOf y/\x.length=n+1/\y.length=n+1/\ltB x y
theorem zqv{x y:List (List Int)}(hx:x≠[])(hy:y≠[])(h:stOf x=stOf y):x=y:=by rw[zna hx,zna hy,h]
theorem zlJ{α:Type}{x:List α}{n:Nat}(h:x.length=n+1):x≠[]:=by rintro rfl;simp at h
theorem RSt.asymm{n:Nat}{s t:SS}(h:RSt n s t):¬ RSt n t s:=fun h'=>by
 obtain⟨x,y,rfl,rfl,hx,hy,hlt⟩:=h;obtain⟨x',y',h1,h2,hx',hy',hlt'⟩:=h';rw[zqv (zlJ hy) (zlJ hx') h1,zqv (zlJ hx) (zlJ hy') h2]at hlt;exact zuv hlt hlt'
structure InB(vs:List VD)(x:SS):Prop where
 st:∃y,x=stOf y/\y.length=vs.length+1
 sm:SmS x
 n:x.cells.length=vs.length
theorem zoP{vs:List VD}{b:BX}(h:(b.ok&&svB vs)=true):(allS b (lenE vs b)).Pairwise (RSt vs.length):=by
 have h2:=zlG h;unfold allS;rw[List.pairwise_map];refine List.Pairwise.imp_of_mem (fun {x y} hx hy hxy=>⟨x,y,rfl,rfl,?_,?_,hxy⟩) (zrT (h:=2*b.v+1) (by omega) (lenE vs b))
 ·rw[(znl rfl x hx).len,h2.1]
 ·rw[(znl rfl y hy).len,h2.1]
theorem zvF{vs:List VD}{b:BX}(h:(b.ok&&svB vs)=true):∀x∈allS b (lenE vs b),InB vs x:=by
 intro x hx;obtain⟨y,hy,rfl⟩:=List.mem_map.1 hx;have h1:=znl rfl y hy;have h2:=zlG h;have h3:=h1.len;rw[h2.1]at h3;have hc:(stOf y).cells.length=vs.length:=by simp[stOf,h3]
 have h4:∀i (hi:i<y.length),SmI y[i]:=fun i hi=>by
  have h5:=h1.get i (by rw[h2.1];omega) hi;have h6:=(h2.2.2.1 _ (List.getElem_mem (show i<(lenE vs b).length by rw[h2.1];omega))).2.2;have h7:=h2.2.2.2;exact⟨by omega,fun e he=>by have:=h5.2.2 e he;omega⟩
 have h7:∀l∈y,SmI l:=fun l hl=>by obtain⟨i,hi,rfl⟩:=List.mem_iff_getElem.1 hl;exact h4 i hi
 refine⟨⟨y,rfl,h3⟩,⟨by omega,fun l hl=>h7 l ((List.dropLast_sublist y).subset hl),?_,⟨Nat.zero_le _,fun e he=>by cases he⟩⟩,hc⟩
 show SmI (y.getLastD [])
 rw[znM (n:=y.length) rfl (by omega)];exact h4 _ (by omega)
theorem zKb{v e:Int}:(-v<=e/\e<=v)->rnk e<2*v+1:=fun h=>by unfold rnk;split<;>omega
theorem zyj{v:Int}:∀ {bs:List Bn} {x:List (List Int)},FitB v bs x->FitH (2*v+1) bs x
 | [],[],_=>trivial
 | (_,_)::bs,x::xs,h=>⟨h.1,h.2.1,fun e he=>zKb (h.2.2.1 e he),zyj h.2.2.2⟩
 | [],_::_,h=>h.elim
 | (_,_)::_,[],h=>h.elim
structure GeB(b c:BX):Prop where
 v:b.v<=c.v
 l:b.l<=c.l
 i:b.i<=c.i
theorem zxJ{vs:List VD}{b c:BX}(h:(b.ok&&svB vs)=true)(hc:(c.ok&&svB vs)=true)(hg:GeB b c):∀x∈allS b (lenE vs b),x∈allS c (lenE vs c):=by
 intro x hx;obtain⟨y,hy,rfl⟩:=List.mem_map.1 hx;have h2:=zlG h;have h3:=zlG hc;have hf:=zyj (znl rfl y hy);have:=hg.v;have h4:=hg.l;have h5:=hg.i;refine List.mem_map.2 ⟨y,(zxK (by omega) y).2 (hf.mono (by omega) (by rw[h2.1,h3.1]) fun i q1 q2=>?_),rfl⟩;by_cases hi:i<vs.length
 ·simp only[lenE];rw[List.getElem_append_left (by simpa using hi),List.getElem_append_left (by simpa using hi),List.getElem_map,List.getElem_map];unfold len1
  split
  ·exact⟨zl,by simp only;omega⟩
  ·exact⟨zl,zl⟩
 ·have e:i=vs.length:=by rw[h2.1]at q1;omega
  subst e;simp only[lenE];rw[List.getElem_append_right (by simp),List.getElem_append_right (by simp)];simp only[List.length_map,Nat.sub_self,List.getElem_cons_zero];exact⟨zl,by omega⟩
theorem zwM{n:Nat}{vs:List VD}{s s':SS}(hn:vs.length=n)(hs:InB vs s)(hs':InB vs s')(h:s'=s\/RSt n s' s):znT s s'=false:=by
 cases hb:znT s s' with
 | false=>rfl
 | true =>
  obtain⟨x,rfl,hx⟩:=hs.st;obtain⟨y,rfl,hy⟩:=hs'.st;have hlt:=zy0 (zlJ hx) (zlJ hy) (by omega) hb;have hr:RSt n (stOf x) (stOf y):=⟨x,y,rfl,rfl,by omega,by omega,hlt⟩
  rcases h with h|h
  ·rw[h]at hr;exact absurd hr hr.asymm
  ·exact absurd hr h.asymm
attribute [local go_sem] Oper.semAt_some
def nilS:SS:=⟨[],[],[]⟩
theorem zoO(w:World){n:Nat}(hn:w.heap.size=n)(o:Obj):(w.alloc o).heap[n]?=some o:=by rw[<-hn];exact World.alloc_heap_new w o
end
section
open Go Go.RowKit
def grE(rel right:SS->Bool)(err:SS->Int):Nat->List SS->Bool×Nat×SS×Int
 | n,[]=>(true,n,nilS,0)
 | n,s::l=>if rel s=true then(if right s=true then grE rel right err (n+1) l else(false,n+1,s,err s))else grE rel right err n l
section
variable {rel right:SS->Bool} {err:SS->Int}
theorem zmK:∀(l:List SS) (n:Nat),
  (∃a s b,l=a++s::b/\(∀x∈a,rel x=true->right x=true)/\rel s=true/\right s=false/\grE rel right err n l=(false,n+(a.filter rel).length+1,s,err s)) \/
  ((∀x∈l,rel x=true->right x=true)/\grE rel right err n l=(true,n+(l.filter rel).length,nilS,0))
 | [],n=>.inr ⟨fun x hx=>(by cases hx),rfl⟩
 | s::l,n=>by
  rw[grE];by_cases h:rel s=true
  ·rw[if_pos h];by_cases h2:right s=true
   ·rw[if_pos h2];rcases zmK l (n+1)with⟨a,t,b,h3,h4,h5,h6,h7⟩|⟨h3,h4⟩
    ·refine .inl ⟨s::a,t,b,by rw[h3];rfl,fun x hx hr=>?_,h5,h6,?_⟩
     ·rcases List.mem_cons.1 hx with rfl|hx
      ·exact h2
      ·exact h4 x hx hr
     ·rw[h7,List.filter_cons_of_pos h,List.length_cons,show n+((a.filter rel).length+1)+1=n+1+(a.filter rel).length+1 by omega]
    ·refine .inr ⟨fun x hx hr=>?_,?_⟩
     ·rcases List.mem_cons.1 hx with rfl|hx
      ·exact h2
      ·exact h3 x hx hr
     ·rw[h4,List.filter_cons_of_pos h,List.length_cons,show n+((l.filter rel).length+1)=n+1+(l.filter rel).length by omega]
   ·rw[if_neg h2];exact .inl ⟨[],s,l,rfl,fun x hx=>(by cases hx),h,by simpa using h2,rfl⟩
  ·rw[if_neg h];rcases zmK l n with⟨a,t,b,h3,h4,h5,h6,h7⟩|⟨h3,h4⟩
   ·refine .inl ⟨s::a,t,b,by rw[h3];rfl,fun x hx hr=>?_,h5,h6,?_⟩
    ·rcases List.mem_cons.1 hx with rfl|hx
     ·exact absurd hr h
     ·exact h4 x hx hr
    ·rw[h7,List.filter_cons_of_neg h]
   ·refine .inr ⟨fun x hx hr=>?_,?_⟩
    ·rcases List.mem_cons.1 hx with rfl|hx
     ·exact absurd hr h
     ·exact h3 x hx hr
    ·rw[h4,List.filter_cons_of_neg h]
theorem zuV{l:List SS}(h:∀x∈l,rel x=true->right x=true):grE rel right err 0 l=(true,(l.filter rel).length,nilS,0):=by
 rcases zmK (rel:=rel) (right:=right) (err:=err) l 0 with⟨a,s,b,h1,h2,h3,h4,h5⟩|⟨h1,h2⟩
 ·rw[h s (by rw[h1];simp) h3]at h4;cases h4
 ·rw[h2,Nat.zero_add]
end
theorem zuE{α:Type}:∀ {l l':List α},l.Nodup->(∀x∈l,x∈l')->l.length<=l'.length
 | [],_,_,_=>Nat.zero_le _
 | x::l,l',hn,hs=>by
  classical
  rw[List.nodup_cons]at hn;have hx:=hs x (List.mem_cons_self ..);have h1:l.length<=(l'.erase x).length:=zuE hn.2 fun y hy=>(List.mem_erase_of_ne (fun e=>hn.1 (by rw[<-e];exact hy))).2 (hs y (List.mem_cons_of_mem _ hy));have h2:=List.length_erase_of_mem hx;have h3:=List.length_pos_of_mem hx;rw[List.length_cons];omega
theorem zto{vs:List VD}{b:BX}(h:(b.ok&&svB vs)=true):(allS b (lenE vs b)).Nodup :=
 (zoP h).imp fun {s t} hr e=>by subst e;exact hr.asymm hr
theorem zzJ{vs:List VD}{b c:BX}(h:(b.ok&&svB vs)=true)(hc:(c.ok&&svB vs)=true)(hg:GeB b c)(rel right:SS->Bool)(err:SS->Int) :
  ((grE rel right err 0 (allS c (lenE vs c))).1=true->(grE rel right err 0 (allS b (lenE vs b))).2.1<=(grE rel right err 0 (allS c (lenE vs c))).2.1) /\
  ((grE rel right err 0 (allS b (lenE vs b))).1=false->(grE rel right err 0 (allS c (lenE vs c))).1=false/\InB vs (grE rel right err 0 (allS b (lenE vs b))).2.2.1/\InB vs (grE rel right err 0 (allS c (lenE vs c))).2.2.1 /\
   znT (grE rel right err 0 (allS b (lenE vs b))).2.2.1 (grE rel right err 0 (allS c (lenE vs c))).2.2.1=false):=by
 have hsub:=zxJ h hc hg;have hnb:=zto h;have hso:=zoP hc;have hin:=zvF hc;have rY:=zvF h;generalize allS b (lenE vs b)=l at hsub hnb rY ⊢;generalize allS c (lenE vs c)=m at hsub hso hin ⊢;rcases zmK (rel:=rel) (right:=right) (err:=err) l 0 with⟨a1,s1,b1,h1,h2,h3,h4,h5⟩|⟨h1,h2⟩
 ·rcases zmK (rel:=rel) (right:=right) (err:=err) m 0 with⟨a2,s2,b2,g1,g2,g3,g4,g5⟩|⟨g1,g2⟩
  ·rw[h5,g5];refine⟨fun e=>(by cases e),fun _=>⟨rfl,rY s1 (by rw[h1];simp),hin s2 (by rw[g1];simp),?_⟩⟩;have hm:s1∈m:=hsub s1 (by rw[h1];simp);refine zwM rfl (rY s1 (by rw[h1];simp)) (hin s2 (by rw[g1];simp)) ?_;rw[g1]at hm hso;rcases List.mem_append.1 hm with hm|hm
   ·rw[g2 s1 hm h3]at h4;cases h4
   ·rcases List.mem_cons.1 hm with rfl|hm
    ·exact .inl rfl
    ·rw[List.pairwise_append]at hso;exact .inr ((List.pairwise_cons.1 hso.2.1).1 s1 hm)
  ·have:=g1 s1 (hsub s1 (by rw[h1];simp)) h3;rw[h4]at this;cases this
 ·rw[h2];refine⟨fun _=>?_,fun e=>(by cases e)⟩;rcases zmK (rel:=rel) (right:=right) (err:=err) m 0 with⟨a2,s2,b2,g1,g2,g3,g4,g5⟩|⟨g1,g2⟩
  ·rename_i hh;rw[g5]at hh
   cases hh
  ·rw[g2];have:=zuE (hnb.filter rel) (l':=m.filter rel) fun x hx=>by
    rw[List.mem_filter]at hx ⊢;exact⟨hsub x hx.1,hx.2⟩
   simpa using this
end
end Go.Proofs.YthjinpodhacleaaGreat
