/-
  Texts of the proof, put together without their remarks: Rfv, En5, En6, En7, En8, Eno, Els, Wgo, Rfg, Rfx, Asp, Ssp, Sgr, Ie, Is, Ic, Iu, Iw, Ix, Iy.
-/
import Derived.Test.YthjinpodhacleaaGreatR8
set_option linter.unusedSimpArgs false
set_option linter.unusedVariables false
set_option maxHeartbeats 8000000
set_option maxRecDepth 100000
namespace Go.Proofs.YthjinpodhacleaaGreat
open Tryz
section
open Go Go.RowKit
def zz4{α:Type}(Y:Nat->α->Array Value->Nat->World->Prop)(n:Nat)(P:Program)(gf:FuncId)(lb:Array Value)(xs:List α)(R:Nat->Prop)(W:World):Prop :=
 ∀(l:Nat) (J Jx:List α->(Nat->Prop)->World->Prop) (C:Nat->Prop) (W1:World),l<W1.heap.size->(∀b,C b->¬ R b)->Chg C W W1 ->
  (∀pre C W W',J pre C W->Chg (fun b=>¬ C b) W W'->J pre C W')->(∀pre C W,J pre C W->∀b,C b->b<W.heap.size) ->
  (∀pre x C W vs g,J pre C W->(∀b,C b->b<g)->(pre++[x]) <+: xs->Y l x vs g W ->
   YieldAt (Fw none) (n-1) P l vs W fun e W' =>
    (e=.returned (.bool true)/\∃C',J (pre++[x]) C' W'/\(∀b,C' b->C b\/g<=b)/\Chg C W W') \/
    (e=.returned (.bool false)/\∃C',Jx (pre++[x]) C' W'/\Chg C W W')) ->
  J [] C W1 ->
  CallsIn (Fw none) n P gf (#[.func (.yield l) #[] #[]]++lb) W1 fun e W'=>(∃v,e=.returned v)/\((∃C',J xs C' W'/\Chg C W1 W')\/(∃pre C',Jx pre C' W'/\Chg C W1 W'))
def zzt{α:Type}(I Ix:List α->(Nat->Prop)->World->Prop)(pre:List α)(C:Nat->Prop)(g:Nat)(W:World):Exit->Act->World->Prop
 | .normal,_,W'=>∃C',I pre C' W'/\(∀b,C' b->C b\/g<=b)/\Chg C W W'
 | .ret,_,W'=>∃C',Ix pre C' W'/\(∀b,C' b->C b\/g<=b)/\Chg C W W'
 | _,_,_=>False
theorem zsD{α:Type}{Y:Nat->α->Array Value->Nat->World->Prop}{n:Nat}{P:Program}{g:Operand}{ps:Array Tmp}{assign body:Code}{Q:Exit->Act->World->Prop}{a:Act}{w:World}{gf:FuncId}{lb:Array Value}{xs:List α}{R:Nat->Prop}
  (hg:a.eval g=.func (.func gf) #[] lb)(eg:∀args w,(callFunc gf args).run P w=.ok (.enter gf args) w)(hseq:zz4 Y (n-1) P gf lb xs R w)(hps:∀l x vs g W,Y l x vs g W->vs.size=ps.size/\l<g)
  (I Ix:List α->(Nat->Prop)->World->Prop)(C0:Nat->Prop)(hI:∀pre C W W',I pre C W->Chg (fun b=>¬ C b) W W'->I pre C W')(hIx:∀pre C W W',Ix pre C W->Chg (fun b=>¬ C b) W W'->Ix pre C W')
  (hIlt:∀pre C W,I pre C W->∀b,C b->b<W.heap.size)(hIxlt:∀pre C W,Ix pre C W->∀b,C b->b<W.heap.size)(hC:∀b,C0 b->¬ R b)(hRlt:∀b,R b->b<w.heap.size)(h0:I [] C0 w)
  (jm:∀l pre x C W vs g,I pre C W->(∀b,C b->b<g)->¬ C l->w.heap.size<l->l<W.heap.size->(pre++[x]) <+: xs->Y l x vs g W ->
   assign.wpIn (Fw (some l)) (n-1-1) P (Exit.then (fun a1 W1=>Chg C W W1/\∀W2,Chg (· = l) W1 W2->body.wpIn (Fw (some l)) (n-1-1) P (zzt I Ix (pre++[x]) C g W2) a1 W2) (fun _ _ _=>False))
    { tmps:=(ps.zip vs).foldl (fun t (p,v)=>t.setIfInBounds p v) a.tmps,defers:=[] } W)
  (hdone:∀D C W',D=w.heap.size->I xs C W'->Chg C0 w W'->W'.heap[D]?=some (.deferred (some []))->Q .normal { a with defers:={ target:=.collected D,args := #[] }::a.defers } W')
  (hstop:∀D pre C W',D=w.heap.size->Ix pre C W'->Chg C0 w W'->W'.heap[D]?=some (.deferred (some []))->Code.ret.wpIn (Fw none) n P Q { a with defers:={ target:=.collected D,args := #[] }::a.defers } W') :
  (Code.rangeFunc g ps assign body).wpIn (Fw none) n P Q a w:=by
 refine wpIn_rangeFunc ?_;intro fn hfn;obtain⟨rec,hrec⟩:∃rec:LoopState->Option Code->Loop,rec=fun st pe=>{ state:=st,pending:=pe,fn,tmps:=a.tmps,params:=ps,assign,body,defers:=w.heap.size }:=⟨_,rfl⟩
 obtain⟨W1,hW1⟩:=zX ((w.alloc (.deferred (some []))).alloc (.loop (rec .ready none)));have hL1:W1.heap[w.heap.size+1]?=some (.loop (rec .ready none)):=by
  rw[<-hW1];have:=World.alloc_heap_new (w.alloc (.deferred (some []))) (.loop (rec .ready none));rwa[World.size_alloc]at this
 have hK1:W1.heap[w.heap.size]?=some (.deferred (some [])):=by
  rw[<-hW1];exact(Below.heap_alloc _ _ _ (by simp)).trans (World.alloc_heap_new w _)
 have hb1:Below w.heap.size w W1:=by rw[<-hW1];exact((Below.refl _ w).alloc zl _).alloc (by simp) _
 have hI1:I [] C0 W1:=hI _ _ _ _ h0 (Chg.of_below hb1);have iI:∀b,C0 b->b<w.heap.size:=hIlt _ _ _ h0;refine⟨w.heap.size+1,[{ target:=.collected w.heap.size,args := #[] }],W1,{ target:=.fn (.func gf) lb,args := #[.func (.yield (w.heap.size+1)) #[] #[]] },W1,gf,
  #[.func (.yield (w.heap.size+1)) #[] #[]]++lb,W1,?_,?_,(fun _ _=>trivial),?_,(fun e=>by cases e),?_⟩
 ·rw[<-hW1,hrec];exact run_enterLoop_outer _ _ _ _ _
 ·simp only[resolve,hg];simp[go_sem]
 ·simp[invoke,go_sem,eg]
 ·refine(hseq (w.heap.size+1)
   (fun pre C' W=>∃C,(∀b,C' b↔C b\/b=w.heap.size+1\/b=w.heap.size)/\I pre C W/\¬ C (w.heap.size+1)/\¬ C w.heap.size/\(∀b,C b->b<w.heap.size->C0 b)/\W.heap[w.heap.size+1]?=some (.loop (rec .ready none))/\W.heap[w.heap.size]?=some (.deferred (some [])))
   (fun pre C' W=>∃C,Ix pre C W/\¬ C (w.heap.size+1)/\W.heap[w.heap.size+1]?=some (.loop (rec .done (some .ret)))/\W.heap[w.heap.size]?=some (.deferred (some [])))
   (fun b=>C0 b\/b=w.heap.size+1\/b=w.heap.size) W1 (Array.getElem?_eq_some_iff.1 hL1).1 ?_ (Chg.of_below hb1) ?_ ?_ ?_ ⟨C0,fun _=>Iff.rfl,hI1,(fun h=>by have:=iI _ h;omega),(fun h=>by have:=iI _ h;omega),(fun _ h _=>h),hL1,hK1⟩).mono ?_
  ·intro b hb hr;have:=hRlt b hr;rcases hb with hb|hb|hb
   ·exact hC b hb hr
   ·omega
   ·omega
  ·rintro pre C' W W' ⟨C,hC',hi,h1,h2,h3,hl,hk⟩ hch;refine⟨C,hC',hI _ _ _ _ hi (hch.mono fun b _ hb hc=>hb ((hC' b).2 (.inl hc))),h1,h2,h3,hch.keep hl (fun h=>h ((hC' _).2 (.inr (.inl rfl)))),hch.keep hk (fun h=>h ((hC' _).2 (.inr (.inr rfl))))⟩
  ·rintro pre C' W ⟨C,hC',hi,h1,h2,h3,hl,hk⟩ b hb;rcases(hC' b).1 hb with hb|rfl|rfl
   ·exact hIlt _ _ _ hi b hb
   ·exact(Array.getElem?_eq_some_iff.1 hl).1
   ·exact(Array.getElem?_eq_some_iff.1 hk).1
  ·rintro pre x C' W vs g ⟨C,hC',hi,h1,h2,h3,hl,hk⟩ vZ hpre hpv;have Bj:=(hps _ _ _ _ _ hpv).2;have hlt:w.heap.size+1<W.heap.size:=(Array.getElem?_eq_some_iff.1 hl).1;have hy:=run_yield (P:=P) (args:=vs) hl (by rw[hrec];exact(hps _ _ _ _ _ hpv).1);rw[hrec]at hy;refine⟨fn,_,assign,body,hy,roundIn_of_wpIn hfn (wpIn_mono (jm (w.heap.size+1) pre x C W vs g hi (fun b hb=>vZ b ((hC' b).2 (.inl hb))) h1 (by omega) hlt hpre hpv) ?_)⟩;rintro e a1 Wa kN
   cases e with
   | normal =>
    obtain⟨sW,hbody⟩:=kN;have hl1:=sW.keep hl h1;have hk1:=sW.keep hk h2;have hlt1:w.heap.size+1<Wa.heap.size:=(Array.getElem?_eq_some_iff.1 hl1).1;refine⟨_,run_beginRound hl1 (by rw[hrec]),?_⟩;have hl2:(Wa.putObj (w.heap.size+1) (.loop { rec .ready none with state:=.busy })).heap[w.heap.size+1]?=some (.loop { rec .ready none with state:=.busy }):=World.putObj_heap_same hlt1;have hk2:(Wa.putObj (w.heap.size+1) (.loop { rec .ready none with state:=.busy })).heap[w.heap.size]?=some (.deferred (some [])):=(World.putObj_heap_other (by omega)).trans hk1;have hc2:Chg (fun b=>C b\/b=w.heap.size+1) W (Wa.putObj (w.heap.size+1) (.loop { rec .ready none with state:=.busy })) :=
     (sW.mono fun _ _ h=>.inl h).trans2 (Chg.putObj Wa (w.heap.size+1) _) (fun b _ h=>.inr h)
    refine wpIn_mono (hbody _ (Chg.putObj _ _ _)) ?_;have fin:∀(jump:Option Code) (W3:World),Chg C (Wa.putObj (w.heap.size+1) (.loop { rec .ready none with state:=.busy })) W3 ->
      (Instr.endRound (w.heap.size+1) jump).run P W3=.ok (.bool jump.isNone) (W3.putObj (w.heap.size+1) (.loop (rec (if jump.isNone then .ready else .done) jump))) /\
      (W3.putObj (w.heap.size+1) (.loop (rec (if jump.isNone then .ready else .done) jump))).heap[w.heap.size+1]?=some (.loop (rec (if jump.isNone then .ready else .done) jump)) /\
      (W3.putObj (w.heap.size+1) (.loop (rec (if jump.isNone then .ready else .done) jump))).heap[w.heap.size]?=some (.deferred (some [])) /\
      Chg C' W (W3.putObj (w.heap.size+1) (.loop (rec (if jump.isNone then .ready else .done) jump))):=fun jump W3 hk3=>by
     have hl3:=hk3.keep hl2 h1;have:=run_endRound (P:=P) jump hl3;rw[hrec]at this ⊢;refine⟨this,World.putObj_heap_same (Array.getElem?_eq_some_iff.1 hl3).1,(World.putObj_heap_other (by omega)).trans (hk3.keep hk2 h2),?_⟩;have hA:Chg (fun b=>C b\/b=w.heap.size+1) W W3:=by
      have:=hc2;rw[hrec]at this hk3;exact this.trans2 hk3 (fun b _ h=>.inl h)
     exact(hA.trans2 (Chg.putObj W3 (w.heap.size+1) _) (fun b _ h=>.inr h)).mono fun b _ hb=>(hC' b).2 (by rcases hb with hb|hb;exact .inl hb;exact .inr (.inl hb))
    rintro e3 a3 W3 hp;have hsz:W.heap.size<=(Wa.putObj (w.heap.size+1) (.loop { rec .ready none with state:=.busy })).heap.size:=hc2.size
    cases e3 with
    | normal =>
     obtain⟨C3,hi3,jG,jy⟩:=hp;have dz:∀b,C3 b->C b\/g<=b:=jG;obtain⟨hr,hl4,hk4,dC⟩:=fin none W3 jy;have dB:¬ C3 (w.heap.size+1):=fun h=>by rcases dz _ h with h|h;exact h1 h;omega
     have sD:¬ C3 w.heap.size:=fun h=>by rcases dz _ h with h|h;exact h2 h;omega
     refine⟨_,_,hr,.inl ⟨rfl,fun b=>C3 b\/b=w.heap.size+1\/b=w.heap.size,⟨C3,fun _=>Iff.rfl,hI _ _ _ _ hi3 ((Chg.putObj _ _ _).mono fun b _ hb hc=>dB (hb▸hc)),dB,sD,?_,hl4,hk4⟩,?_,dC⟩⟩
     ·intro b hb hlt';rcases dz b hb with hb|hb
      ·exact h3 b hb hlt'
      ·omega
     ·intro b hb;rcases hb with hb|hb
      ·rcases dz b hb with hb|hb
       ·exact .inl ((hC' b).2 (.inl hb))
       ·exact .inr (by omega)
      ·exact .inl ((hC' b).2 (.inr hb))
    | ret =>
     obtain⟨C3,hi3,jG,jy⟩:=hp;have dz:∀b,C3 b->C b\/g<=b:=jG;obtain⟨hr,hl4,hk4,dC⟩:=fin (some .ret) W3 jy;have dB:¬ C3 (w.heap.size+1):=fun h=>by rcases dz _ h with h|h;exact h1 h;omega
     exact⟨_,_,hr,.inr ⟨rfl,fun _=>True,⟨C3,hIx _ _ _ _ hi3 ((Chg.putObj _ _ _).mono fun b _ hb hc=>dB (hb▸hc)),dB,hl4,hk4⟩,dC⟩⟩
    | exit id=>exact hp.elim
    | goto t=>exact hp.elim
    | panic ch=>exact hp.elim
    | outgrown=>exact hp.elim
   | exit id=>exact kN.elim
   | goto t=>exact kN.elim
   | ret=>exact kN.elim
   | panic ch=>exact kN.elim
   | outgrown=>exact kN.elim
  ·rintro e W2 ⟨⟨v,rfl⟩,(⟨C',⟨C,hC',hi,h1,h2,h3,hl,hk⟩,hch⟩|⟨pre,C',⟨C,hi,h1,hl,hk⟩,hch⟩)⟩
   all_goals
    have hw2:Chg C0 w W2:=((Chg.of_below hb1).trans2 hch fun b hb hc=>by rcases hc with hc|hc|hc;exact hc;omega;omega)
    have hfin:∀o,Chg C0 w (W2.putObj (w.heap.size+1) o):=fun o=>hw2.trans2 (Chg.putObj W2 (w.heap.size+1) o) fun b hb hc=>by omega
   ·exact⟨none,_,by have:=run_endLoop (P:=P) hl (by rw[hrec];simp);rw[hrec]at this;exact this,hdone _ C _ rfl (hI _ _ _ _ hi ((Chg.putObj W2 (w.heap.size+1) _).mono fun b _ (hb:b=w.heap.size+1) hc=>h1 (hb▸hc))) (hfin _) ((World.putObj_heap_other (by omega)).trans hk)⟩
   ·exact⟨some .ret,_,by have:=run_endLoop (P:=P) hl (by rw[hrec];simp);rw[hrec]at this;exact this,hstop _ pre C _ rfl (hIx _ _ _ _ hi ((Chg.putObj W2 (w.heap.size+1) _).mono fun b _ (hb:b=w.heap.size+1) hc=>h1 (hb▸hc))) (hfin _) ((World.putObj_heap_other (by omega)).trans hk)⟩
structure DK where
 l:Nat
 lb:Nat
 yb:Nat
 bb:Nat
 tb:Nat
 hb:Nat
 nb:Nat
 sb:Nat
 rb:Nat
 tr:Nat
 A:Option Addr
 c:Nat
 tc:Nat
abbrev ptr0(b:Nat):Value:=.pointer (some ⟨b,0,none⟩)
abbrev DK.cap1(Z:DK):Array Value := #[ptr0 Z.lb,ptr0 Z.yb,ptr0 Z.bb,ptr0 Z.tb,ptr0 Z.hb,ptr0 Z.nb]
abbrev DK.cap2(Z:DK):Array Value := #[ptr0 Z.lb,ptr0 Z.sb,ptr0 Z.hb,ptr0 Z.tb,ptr0 Z.nb]
structure DW(Z:DK)(bs:List Bn)(h:Nat)(B:Nat->Prop)(W:World):Prop where
 lists:W.heap[Z.lb]?=some (.cells #[.slice (some ⟨Z.rb,0,none⟩) bs.length bs.length] 41 (0,0))
 yld:W.heap[Z.yb]?=some (.cells #[.func (.yield Z.l) #[] #[]] 86 (0,0))
 ls:W.heap[Z.bb]?=some (.cells #[.slice Z.A bs.length Z.c] 83 (0,0))
 rest:W.heap[Z.tb]?=some (.cells #[.slice (some ⟨Z.tr,0,none⟩) (bs.length+1) Z.tc] 83 (0,0))
 hv:W.heap[Z.hb]?=some (.cells #[.int .i64 (h:Int)] 3 (0,0))
 num:W.heap[Z.nb]?=some (.cells #[.func (.func 71) #[] Z.cap2] 120 (0,0))
 slf:W.heap[Z.sb]?=some (.cells #[.func (.func 70) #[] Z.cap1] 119 (0,0))
 row:RowB W B Z.A bs
 rst:zqO W Z.tr h bs
 kb:B Z.lb/\B Z.yb/\B Z.bb/\B Z.tb/\B Z.hb/\B Z.nb/\B Z.sb/\B Z.tr
 lt:∀b,B b->b<W.heap.size
theorem DW.chg{Z:DK}{bs:List Bn}{h:Nat}{B D:Nat->Prop}{W W':World}(hd:DW Z bs h B W)(hc:Chg D W W')(hD:∀b,B b->¬ D b):DW Z bs h B W':=by
 obtain⟨h1,h2,h3,h4,h5,h6,h7,h8,h9,hk,hl⟩:=hd;obtain⟨k1,k2,k3,k4,k5,k6,k7,k8⟩:=hk;exact⟨hc.keep h1 (hD _ k1),hc.keep h2 (hD _ k2),hc.keep h3 (hD _ k3),hc.keep h4 (hD _ k4),hc.keep h5 (hD _ k5),hc.keep h6 (hD _ k6),hc.keep h7 (hD _ k7),h8.keep (fun _ h _=>h) fun b hb hlt=>hc.block b hlt (hD b hb),h9.keep (hc.block _ (hl _ k8) (hD _ k8)),⟨k1,k2,k3,k4,k5,k6,k7,k8⟩,fun b hb=>Nat.lt_of_lt_of_le (hl b hb) hc.size⟩
structure RowQ(Z:DK)(n:Nat)(W:World)(p:List (List Int))(m f:Nat->Nat):Prop where
 row:∃us:Array Value,W.heap[Z.rb]?=some (.cells us 42 (0,0))/\us.size=n/\∀j,j<p.length->us[j]?=some (.slice (some ⟨f j,0,none⟩) (m j) (m j))
 el:∀j (hj:j<p.length),∃vs:Array Value,W.heap[f j]?=some (.cells vs 3 (0,0))/\vs.size=m j/\p[j].length<=m j/\∀i (hi:i<p[j].length),vs[i]?=some (.int .i64 p[j][i])
 ne:∀j,j<p.length->f j≠Z.rb
 inj:∀i j,i<p.length->j<p.length->f i=f j->i=j
 fits:∀x∈p,∀e∈x,I64 e
theorem RowQ.lt{Z:DK}{n:Nat}{W:World}{p:List (List Int)}{m f:Nat->Nat}(h:RowQ Z n W p m f):Z.rb<W.heap.size/\∀j,j<p.length->f j<W.heap.size:=by
 obtain⟨us,hu,-⟩:=h.row;exact⟨zkf hu,fun j hj=>by obtain⟨vs,hv,-⟩:=h.el j hj;exact zkf hv⟩
theorem RowQ.chg{Z:DK}{n:Nat}{W W':World}{p:List (List Int)}{m f:Nat->Nat}{D:Nat->Prop}(h:RowQ Z n W p m f)(hc:Chg D W W')(h1:¬ D Z.rb)(h2:∀j,j<p.length->¬ D (f j)):RowQ Z n W' p m f:=by
 obtain⟨us,hu,hs,hr⟩:=h.row;refine⟨⟨us,hc.keep hu h1,hs,hr⟩,fun j hj=>?_,h.ne,h.inj,h.fits⟩;obtain⟨vs,hv,h3⟩:=h.el j hj;exact⟨vs,hc.keep hv (h2 j hj),h3⟩
structure SepQ(Z:DK)(B:Nat->Prop)(n:Nat)(f:Nat->Nat)(C:Nat->Prop):Prop where
 b:∀q,B q->¬ C q
 r:¬ C Z.rb
 fc:∀j,j<n->¬ C (f j)
 br:¬ B Z.rb
 bf:∀j,j<n->¬ B (f j)
theorem SepQ.grow{Z:DK}{bs:List Bn}{h:Nat}{B C C':Nat->Prop}{W:World}{p:List (List Int)}{m f:Nat->Nat}(hs:SepQ Z B p.length f C)(hd:DW Z bs h B W)(hq:RowQ Z bs.length W p m f)(hC:∀b,C' b->C b\/W.heap.size<=b):SepQ Z B p.length f C' :=
 ⟨fun q hq' h=>(hC q h).elim (hs.b q hq') fun h=>by have:=hd.lt q hq';omega,fun h=>(hC _ h).elim hs.r fun h=>by have:=hq.lt.1;omega,fun j hj h=>(hC _ h).elim (hs.fc j hj) fun h=>by have:=hq.lt.2 j hj;omega,hs.br,hs.bf⟩
def stOf(x:List (List Int)):SS:=⟨x.dropLast,x.getLastD [],[]⟩
def zs5(J Jx:List SS->(Nat->Prop)->World->Prop)(Z:DK)(n:Nat)(D:Nat->Prop)(pre xs:List SS)(p:List (List Int))(m f:Nat->Nat)(C:Nat->Prop)(W:World)(e:Ending)(W':World):Prop :=
 (e=.returned (.bool true)/\∃C',J (pre++xs) C' W'/\(∀b,C' b->C b\/W.heap.size<=b)/\Chg (fun b=>C b\/D b) W W'/\RowQ Z n W' p m f) \/
 (e=.returned (.bool false)/\∃pre' C',Jx pre' C' W'/\Chg (fun b=>C b\/D b) W W')
def YS(l:Nat)(s:SS)(vs:Array Value)(g:Nat)(W:World):Prop:=∃v,vs = #[v]/\SV W (fun q=>g<=q) s v/\l<g/\g<=W.heap.size
structure DB(bs:List Bn)(h:Nat):Prop where
 n:bs.length<=100
 b:∀b∈bs,b.1<=1000/\b.2<=1000
 hm:h<=10000
 h1:1<=h
 ne:1<=bs.length
theorem zqv{p:List (List Int)}{n:Nat}(hn:p.length=n)(h1:1<=n):p.getLastD []=p[n-1]:=by
 have hne:p≠[]:=by rintro rfl;simp at hn;omega
 subst hn;rw[<-List.getLast_eq_getElem hne]
 cases p with
 | nil=>exact(hne rfl).elim
 | cons a p=>rfl
theorem RowQ.sv{Z:DK}{n:Nat}{W:World}{p:List (List Int)}{m f:Nat->Nat}(h:RowQ Z n W p m f)(hn:p.length=n)(h1:1<=n)(hn2:n<=100)(hf:∀j (hj:j<p.length),m j=p[j].length)(hm:∀j,j<p.length->m j<=1000) :
  SV W Any (stOf p) (.agg #[.slice (some ⟨Z.rb,0,none⟩) (n-1) n,.slice (some ⟨f (n-1),0,none⟩) (m (n-1)) (m (n-1)),.slice none 0 0]):=by
 obtain⟨us,hu,iw,hr⟩:=h.row;have hrow:∀j (hj:j<p.length),RowI W Any (some ⟨f j,0,none⟩) p[j]:=fun j hj i hi=>by
  obtain⟨vs,hv,h3,h4,h5⟩:=h.el j hj;refine⟨_,rfl,trivial,?_,h.fits _ (List.getElem_mem hj) _ (List.getElem_mem hi)⟩;rw[Addr.add_lit,Nat.zero_add];exact zc hv (h5 i hi)
 have hcl:(stOf p).cells.length=n-1:=by simp[stOf,hn]
 have htl:(stOf p).tin=p[n-1]:=zqv hn h1;have hti:(stOf p).tin.length=m (n-1):=by rw[htl,hf (n-1) (by omega)]
 have hcg:∀i (hi:i<(stOf p).cells.length),(stOf p).cells[i]=p[i]'(by rw[hcl]at hi;omega):=fun i hi=>by simp[stOf]
 refine⟨some ⟨Z.rb,0,none⟩,n,some ⟨f (n-1),0,none⟩,m (n-1),none,0,by rw[hcl,hti];rfl,fun i hi=>?_,?_,fun i hi=>absurd hi (Nat.not_lt_zero i),by rw[hcl];omega,by rw[hti];exact zl,zl,?_⟩
 ·have vP:i<p.length:=by rw[hcl]at hi;omega
  have hl:(stOf p).cells[i].length=m i:=by rw[hcg i hi,hf i vP]
  refine⟨⟨Z.rb,0,none⟩,some ⟨f i,0,none⟩,m i,rfl,trivial,?_,by rw[hl];exact zl,?_⟩
  ·rw[Addr.add_lit,Nat.zero_add,hl];exact zc hu (hr i vP)
  ·rw[hcg i hi];exact hrow i vP
 ·rw[htl];exact hrow (n-1) (by omega)
 ·refine⟨by rw[hcl];unfold LI;omega,fun l hl=>?_,by rw[hti];have:=hm (n-1) (by omega);unfold LI;omega,Nat.zero_le _⟩;obtain⟨i,hi,rfl⟩:=List.mem_iff_getElem.1 hl;have vP:i<p.length:=by rw[hcl]at hi;omega
  rw[hcg i hi,<-hf i vP];have:=hm i vP;unfold LI;omega
def zxm(J Jx:List SS->(Nat->Prop)->World->Prop)(Z:DK)(bs:List Bn)(h:Nat)(B:Nat->Prop)(tot:List SS)(rs:List Bn):Prop :=
 ∀(p:List (List Int)) (m f:Nat->Nat) (pre:List SS) (C:Nat->Prop) (W:World) (left:Int),bs.drop p.length=rs->p.length<=bs.length->J pre C W->DW Z bs h B W->RowQ Z bs.length W p m f->SepQ Z B p.length f C ->
  (∀j (hj:j<p.length),m j=p[j].length)->(∀j,j<p.length->m j<=1000)->(0<=left/\left<=100000000000)->(pre++(zk0 h rs left).map fun ls=>stOf (p++ls)) <+: tot ->
  Calls prog 70 (#[.int .i64 (p.length:Int),.int .i64 left]++Z.cap1) W (zs5 J Jx Z bs.length (fun b=>b=Z.rb) pre ((zk0 h rs left).map fun ls=>stOf (p++ls)) p m f C W)
def hdA(q:List Int):List (List Int)->List (List Int)
 | []=>[]
 | l::ls=>(q++l)::ls
def NumC(J Jx:List SS->(Nat->Prop)->World->Prop)(Z:DK)(bs:List Bn)(h:Nat)(B:Nat->Prop)(tot:List SS)(rs:List Bn)(k:Nat):Prop :=
 ∀(p:List (List Int)) (q:List Int) (m f:Nat->Nat) (pre:List SS) (C:Nat->Prop) (W:World) (left:Int),bs.drop (p.length+1)=rs->p.length+1<=bs.length->J pre C W->DW Z bs h B W->RowQ Z bs.length W (p++[q]) m f->SepQ Z B (p.length+1) f C ->
  (∀j (hj:j<p.length),m j=p[j].length)->(∀j,j<p.length+1->m j<=1000)->m p.length=q.length+k->(0<=left/\left<=100000000000)->(pre++(numE h rs (zk0 h rs) k left).map fun z=>stOf (p++hdA q z)) <+: tot ->
  Calls prog 71 (#[.int .i64 (p.length:Int),.int .i64 (q.length:Int),.int .i64 left]++Z.cap2) W (zs5 J Jx Z bs.length (fun b=>b=Z.rb\/b=f p.length) pre ((numE h rs (zk0 h rs) k left).map fun z=>stOf (p++hdA q z)) (p++[q]) m f C W)
structure JC(J Jx:List SS->(Nat->Prop)->World->Prop)(n l:Nat)(tot:List SS):Prop where
 keep:∀pre C W W',J pre C W->Chg (fun b=>¬ C b) W W'->J pre C W'
 lt:∀pre C W,J pre C W->∀b,C b->b<W.heap.size
 y:∀pre x C W vs g,J pre C W->(∀b,C b->b<g)->(pre++[x]) <+: tot->YS l x vs g W->YieldAt (Fw none) (n-1) prog l vs W fun e W' =>
    (e=.returned (.bool true)/\∃C',J (pre++[x]) C' W'/\(∀b,C' b->C b\/g<=b)/\Chg C W W') \/
    (e=.returned (.bool false)/\∃C',Jx (pre++[x]) C' W'/\Chg C W W')
theorem zsP:IsFn prog 31 f31:=⟨func31,by kernel_rfl,by kernel_rfl⟩
theorem bSt2(A B:Option Addr)(m d n e:Nat)(w:World):(Instr.build 44 #[(0,.slice A m d),(1,.slice B n e)]).run prog w=.ok (.agg #[.slice A m d,.slice B n e,.slice none 0 0]) w:=by kernel_rfl
theorem zwn{J Jx:List SS->(Nat->Prop)->World->Prop}{Z:DK}{bs:List Bn}{h nf:Nat}{B:Nat->Prop}{tot:List SS}(hj:JC J Jx nf Z.l tot)(hb:DB bs h)(hl:∀W,DW Z bs h B W->Z.l<W.heap.size):zxm J Jx Z bs h B tot []:=by
 intro p m f pre C W left hrs hpl hJ hD hQ hS hm hm2 hleft hpre;have hpn:p.length=bs.length:=by have:=congrArg List.length hrs;rw[List.length_drop]at this;simp at this;omega
 have hn1:=hb.ne;have hn2:=hb.n;obtain⟨n,hn⟩:=zX (bs.length);have hx:(zk0 h [] left).map (fun ls=>stOf (p++ls))=[stOf p]:=by simp[zk0]
 rw[hx]at hpre ⊢;have hsv:=hQ.sv hpn hn1 hn2 hm hm2;obtain⟨us,hu,iw,hur⟩:=hQ.row;have x0:W.cell? ⟨Z.lb,0,none⟩=some (.slice (some ⟨Z.rb,0,none⟩) bs.length bs.length):=zc hD.lists rfl;have x1:W.cell? ⟨Z.yb,0,none⟩=some (.func (.yield Z.l) #[] #[]):=zc hD.yld rfl;have x2:W.cell? ⟨Z.rb,bs.length-1,none⟩=some (.slice (some ⟨f (bs.length-1),0,none⟩) (m (bs.length-1)) (m (bs.length-1))):=zc hu (hur _ (by omega));rw[hpn];rw[hn]at hpn hn1 hn2 x0 x2 hsv ⊢;have HJ:=zh hj;have lC:=zh hJ;have HD:=zh hD;have HQ:=zh hQ;have HS:=zh hS;have dP:=zh hpre;have nE:=zh hsv;have HN:=zh hn;have oJ:=zh (show(stOf p).Lim from by obtain⟨_,_,_,_,_,_,_,_,_,_,_,_,_,h⟩:=hsv;exact h);have gM:=zh (hl W hD);have hwn:IntKind.i64.wrap ((n:Int)-1)=((n-1:Nat):Int):=by rw[show((n-1:Nat):Int)=(n:Int)-1 by omega];exact IntWalk.i64_in _ (by omega)
 clear hj hJ hD hQ hS hpre hsv hu hur hrs hm hm2 hleft hx hb hl hpl;obtain⟨F,hF⟩:=zX (f (n-1));obtain⟨M,hM⟩:=zX (m (n-1));rw[hF,hM]at x2 nE;go_enter func70,ntmps70;go_upto_region 2 with fail;have hp0:(0:Int)<=((n-1:Nat):Int):=by omega
 have hp1:((n-1:Nat):Int)<(n:Int):=by omega
 have hp2:((n-1:Nat):Int)<=(n:Int):=by omega
 go_quiet (fail)
 have hb2:=zkL (zs W) nq;obtain⟨w2,hw2⟩:=zX (W.drewN nq);rw[hw2]at hb2;rw[hw2]
 replace x1:=zb hb2 x1
 have HB2:=zh hb2;clear hw2 hb2 x0 x2 hp0 hp1 hp2;go_upto_region 3 with fail;have hbs:=bSt2;have hSS:(fun w':World=>zv w' Z.yb 0 (.func (.yield Z.l) #[] #[])) w2.drew:=x1;refine wp_region_noPanic ?_;refine(wpIn_wide (n:=nf)).1 ?_;refine zl9 (ro:=none) (fun w':World=>zv w' Z.yb 0 (.func (.yield Z.l) #[] #[])) (by kernel_rfl) ?_;clear x1;refine zI 0 hSS ?_;refine zI 1 hSS ?_;refine zI 2 hSS ?_;refine zI 3 hSS ?_;have hcl:=zp1 (stOf p) _ w2.drew ((nE.out.later HB2.out).later zr.drew) (by simp only[stOf,List.length_dropLast];omega);have had:Calls prog 31 [.agg #[.slice (some ⟨Z.rb,0,none⟩) (n-1) n,.slice (some ⟨F,0,none⟩) M M,.slice none 0 0]].toArray w2.drew fun e w'=>∃u,e=.returned u/\(SV w' (fun q=>w2.heap.size<=q) (stOf p) u/\Below w2.heap.size w2 w') :=
  hcl.mono fun e w' ⟨v,h1,h2,h3⟩=>⟨v,h1,h2.svR oJ.out,zka (zs w2).drew h3⟩
 refine zno (i:=4) (by kernel_rfl) rfl (by kernel_rfl) (by rfl) (fun K hK=>?_);refine zke (by rfl) (.func 31) [.tmp 32] _ (by rfl) 31 _ zsP (by rfl) _ (by rfl) _ had ?_;rintro v3 w3 ⟨hs3,hb3⟩;have aV:(fun w':World=>zv w' Z.yb 0 (.func (.yield Z.l) #[] #[])) w3:=zb hb3 hSS;refine hK.out _ _ aV ?_;clear hK K had hcl hSS;(try simp only[zQ]);have ow:=zka HB2.out hb3;have qH:=HJ.out.keep _ _ _ _ lC.out (Chg.of_below ow);obtain⟨zO,mg,zR,zP,Aw,wS⟩:=HJ.out.y pre (stOf p) C w3 #[v3] w2.heap.size qH (fun b hb=>Nat.lt_of_lt_of_le (HJ.out.lt _ _ _ lC.out b hb) HB2.out.size) dP.out ⟨v3,rfl,hs3,(by have:=gM.out;have:=HB2.out.size;omega),hb3.size⟩;refine zp2 (i:=5) (by kernel_rfl) rfl (by kernel_rfl) (by rfl) (l:=Z.l) (f:=zO) (tmps:=mg) (assign:=zR) (body:=zP) ?_ wS ?_
 ·(try simp only[zA,zB,zC]);go_simp
 ·clear Aw wS;have HB3:=zh ow;have nD:=zh (show W.heap.size<=w2.heap.size from HB2.out.size);rintro e W1 hR;have hy1:W1.heap[Z.yb]?=w3.heap[Z.yb]?:=by
   have hlt:=HD.out.lt _ HD.out.kb.2.1;have hnc:=HS.out.b _ HD.out.kb.2.1;rcases hR with⟨_,C1,_,_,hch⟩|⟨_,C1,_,hch⟩<;>exact hch.block _ (Nat.lt_of_lt_of_le hlt HB3.out.size) hnc
  have eD:(fun w':World=>zv w' Z.yb 0 (.func (.yield Z.l) #[] #[])) W1:=zkM aV hy1;have hfin:∃b:Bool,e=.returned (.bool b)/\zs5 J Jx Z n (fun b=>b=Z.rb) pre [stOf p] p m f C W (.returned (.bool b)) W1:=by
   have hch':Chg C w3 W1->Chg (fun b=>C b\/b=Z.rb) W W1:=fun h=>(Chg.of_below HB3.out).trans2 h fun b _ h=>.inl h;rcases hR with⟨rfl,C1,hj1,bA,hch⟩|⟨rfl,C1,pF,hch⟩
   ·refine⟨true,rfl,.inl ⟨rfl,C1,hj1,fun b h=>(bA b h).imp id fun h=>Nat.le_trans nD.out h,hch' hch,?_⟩⟩;have h3:=HQ.out.chg (D:=C) ((Chg.of_below HB3.out).trans2 hch fun b _ h=>h) HS.out.r HS.out.fc;have:=HN.out;rwa[this]at h3
   ·exact⟨false,rfl,.inr ⟨rfl,_,C1,pF,hch' hch⟩⟩
  obtain⟨b,rfl,hP⟩:=hfin;have HP:=zh hP;refine⟨_,rfl,eD,?_⟩;(try simp only[zQ]);refine zI 6 eD ?_;refine znP (by kernel_rfl) ?_;refine NoPanic.normal ?_;clear hP hR hy1 eD qH hb3 hs3 ow aV;go_wp2_with fail;go_ret;exact HP.out
section
variable {Z:DK} {n:Nat} {W W':World} {p:List (List Int)} {q:List Int} {m f:Nat->Nat}
theorem zpU{p:List (List Int)}{q:List Int}{j:Nat}(hj:j<(p++[q]).length):(j<p.length/\∃h:j<p.length,(p++[q])[j]=p[j])\/(j=p.length/\(p++[q])[j]=q):=by
 by_cases h:j<p.length
 ·exact .inl ⟨h,h,List.getElem_append_left h⟩
 ·have:j=p.length:=by simp at hj;omega
  subst this;exact .inr ⟨rfl,by simp⟩
theorem RowQ.pop{q':List Int}(h:RowQ Z n W (p++[q']) m f)(hq:q <+: q'):RowQ Z n W (p++[q]) m f:=by
 have hl:(p++[q']).length=(p++[q]).length:=by simp
 refine⟨by rw[<-hl];exact h.row,fun j hj=>?_,fun j hj=>h.ne j (by rw[hl];exact hj),fun i j hi hj=>h.inj i j (by rw[hl];exact hi) (by rw[hl];exact hj),fun x hx e he=>?_⟩
 ·obtain⟨vs,h1,h2,h3,h4⟩:=h.el j (by rw[hl];exact hj);rcases zpU hj with⟨hjp,_,e⟩|⟨rfl,e⟩
  ·have e2:(p++[q'])[j]'(by rw[hl];exact hj)=p[j]:=List.getElem_append_left hjp;simp only[e,e2]at h3 h4 ⊢;exact⟨vs,h1,h2,h3,h4⟩
  ·have e2:(p++[q'])[p.length]'(by simp)=q':=by simp
   simp only[e,e2]at h3 h4 ⊢;exact⟨vs,h1,h2,Nat.le_trans hq.length_le h3,fun i hi=>by rw[h4 i (Nat.lt_of_lt_of_le hi hq.length_le)];congr 2;exact(hq.getElem hi).symm⟩
 ·rcases List.mem_append.1 hx with hx|hx
  ·exact h.fits x (List.mem_append.2 (.inl hx)) e he
  ·obtain rfl:=List.mem_singleton.1 hx;exact h.fits q' (by simp) e (hq.subset he)
theorem RowQ.dropL(h:RowQ Z n W (p++[q]) m f):RowQ Z n W p m f:=by
 obtain⟨us,h1,h2,h3⟩:=h.row;refine⟨⟨us,h1,h2,fun j hj=>h3 j (by simp;omega)⟩,fun j hj=>?_,fun j hj=>h.ne j (by simp;omega),fun i j hi hj=>h.inj i j (by simp;omega) (by simp;omega),fun x hx=>h.fits x (List.mem_append.2 (.inl hx))⟩;obtain⟨vs,h1,h2,h3⟩:=h.el j (by simp;omega);simp only[List.getElem_append_left hj]at h3;exact⟨vs,h1,h2,h3⟩
theorem RowQ.put{x:Int}(h:RowQ Z n W (p++[q]) m f)(hm:q.length<m p.length)(hx:I64 x)(hc:Chg (fun b=>b=f p.length) W W')
  (hk:∀vs,W.heap[f p.length]?=some (.cells vs 3 (0,0))->W'.heap[f p.length]?=some (.cells (vs.setIfInBounds q.length (.int .i64 x)) 3 (0,0))):RowQ Z n W' (p++[q++[x]]) m f:=by
 have hl:(p++[q++[x]]).length=(p++[q]).length:=by simp
 have hpl:p.length<(p++[q]).length:=by simp
 obtain⟨us,h1,h2,h3⟩:=h.row;refine⟨⟨us,hc.keep h1 fun e=>h.ne _ hpl e.symm,h2,by rw[hl];exact h3⟩,fun j hj=>?_,fun j hj=>h.ne j (by rw[<-hl];exact hj),fun i j hi hj=>h.inj i j (by rw[<-hl];exact hi) (by rw[<-hl];exact hj),fun y hy e he=>?_⟩
 ·obtain⟨vs,v1,v2,v3,v4⟩:=h.el j (by rw[<-hl];exact hj);rcases zpU hj with⟨hjp,_,e⟩|⟨rfl,e⟩
  ·have e2:(p++[q])[j]'(by rw[<-hl];exact hj)=p[j]:=List.getElem_append_left hjp;simp only[e,e2]at v3 v4 ⊢;exact⟨vs,hc.keep v1 fun e=>by have:=h.inj _ _ (by rw[<-hl];exact hj) hpl e;omega,v2,v3,v4⟩
  ·have e2:(p++[q])[p.length]'(by simp)=q:=by simp
   simp only[e,e2]at v3 v4 ⊢;refine⟨_,hk vs v1,by simpa using v2,by rw[List.length_append];simp;omega,fun i hi=>?_⟩;by_cases hiq:i=q.length
   ·subst hiq;rw[Array.getElem?_setIfInBounds_self_of_lt (by omega)];simp
   ·have hi2:i<q.length:=by simp at hi;omega
    rw[Array.getElem?_setIfInBounds_ne (by omega),List.getElem_append_left hi2];exact v4 i hi2
 ·rcases List.mem_append.1 hy with hy|hy
  ·exact h.fits y (List.mem_append.2 (.inl hy)) e he
  ·obtain rfl:=List.mem_singleton.1 hy;rcases List.mem_append.1 he with he|he
   ·exact h.fits q (by simp) e he
   ·obtain rfl:=List.mem_singleton.1 he;exact hx
end
theorem zyq(q:List Int)(x:Int)(z:List (List Int)):hdA q (hdC x z)=hdA (q++[x]) z:=by
 cases z with
 | nil=>rfl
 | cons l ls=>simp[hdA,hdC]
theorem zyp(q:List Int)(ls:List (List Int))(p:List (List Int)):p++hdA q ([]::ls)=(p++[q])++ls:=by simp[hdA]
theorem zwc{J Jx:List SS->(Nat->Prop)->World->Prop}{Z:DK}{bs rs:List Bn}{h:Nat}{B:Nat->Prop}{tot:List SS}(hb:DB bs h)(hL:zxm J Jx Z bs h B tot rs):NumC J Jx Z bs h B tot rs 0:=by
 intro p q m f pre C W left hrs hpl hJ hD hQ hS hm hm2 hmk hleft hpre;have hx:(numE h rs (zk0 h rs) 0 left).map (fun z=>stOf (p++hdA q z))=(zk0 h rs left).map fun ls=>stOf ((p++[q])++ls):=by
  simp only[numE,List.map_map,Function.comp_def,zyp]
 rw[hx]at hpre ⊢;have hlen:(p++[q]).length=p.length+1:=by simp
 have hC:=hL (p++[q]) m f pre C W left (by rw[hlen];exact hrs) (by rw[hlen];exact hpl) hJ hD hQ (by rw[hlen];exact hS) (fun j hj=>by
  rcases zpU hj with⟨hjp,_,e⟩|⟨rfl,e⟩
  ·rw[e];exact hm j hjp
  ·rw[e];omega) (fun j hj=>hm2 j (by rw[<-hlen];exact hj)) hleft hpre
 rw[hlen]at hC;have HC:=zh hC;obtain⟨us,hu,iw,hur⟩:=hQ.row;have x0:W.cell? ⟨Z.lb,0,none⟩=some (.slice (some ⟨Z.rb,0,none⟩) bs.length bs.length):=zc hD.lists rfl;have x1:W.cell? ⟨Z.rb,p.length,none⟩=some (.slice (some ⟨f p.length,0,none⟩) (m p.length) (m p.length)):=zc hu (hur _ (by simp));have x2:W.cell? ⟨Z.sb,0,none⟩=some (.func (.func 70) #[] Z.cap1):=zc hD.slf rfl;rw[hmk,Nat.add_zero]at x1;have hbn:=hb.n;obtain⟨n,hn⟩:=zX (bs.length);rw[hn]at x0 hpl hbn;obtain⟨c,hc⟩:=zX (p.length);rw[hc]at x1 hpl ⊢;have hp1:(c:Int)<(n:Int):=by omega
 have hwc:IntKind.i64.wrap ((c:Int)+1)=((c+1:Nat):Int):=IntWalk.i64_in _ (by omega);have HN:=zh hn;have aJ:=zh hc;obtain⟨R,hR⟩:=zX (zs5 J Jx Z bs.length (fun b=>b=Z.rb) pre ((zk0 h rs left).map fun ls=>stOf (p++[q]++ls)) (p++[q]) m f C W);have HR:=zh (show ∀e w',R e w'->zs5 J Jx Z bs.length (fun b=>b=Z.rb\/b=f c) pre ((zk0 h rs left).map fun ls=>stOf (p++[q]++ls)) (p++[q]) m f C W e w'/\∃b,e=.returned (.bool b)from fun e w' hr=>by
  rw[<-hR]at hr;rcases hr with⟨rfl,C',h1,h2,h3,h4⟩|⟨rfl,pre',C',h1,h2⟩
  ·exact⟨.inl ⟨rfl,C',h1,h2,h3.mono fun b _ h=>h.imp id .inl,h4⟩,_,rfl⟩
  ·exact⟨.inr ⟨rfl,pre',C',h1,h2.mono fun b _ h=>h.imp id .inl⟩,_,rfl⟩)
 rw[hR,hc]at HC;rw[HN.out]at HR ⊢;clear hJ hD hQ hS hpre hu hur iw hrs hm hm2 hmk hleft hx hb hL hlen hC hn hc hR;go_enter func71,ntmps71;go_wp2_with fail;refine HC.out.mono ?_;rintro e w2 hr;obtain⟨h1,b,rfl⟩:=HR.out e w2 hr;have H1:=zh h1;clear h1 hr;go_wp2_with fail;go_ret;exact H1.out
theorem zop{α β:Type}(F:α->List β)(g:Nat->α){j n:Nat}(hj:j<n):(List.range j).flatMap (fun i=>F (g i))++F (g j) <+: (List.range n).flatMap (fun i=>F (g i)):=by
 have e:(List.range j).flatMap (fun i=>F (g i))++F (g j)=(List.range (j+1)).flatMap (fun i=>F (g i)):=by rw[List.range_succ,List.flatMap_append];simp
 rw[e];obtain⟨d,rfl⟩:∃d,n=(j+1)+d:=⟨n-(j+1),by omega⟩
 rw[List.range_add (n:=j+1) (m:=d),List.flatMap_append];exact List.prefix_append _ _
theorem zob{β:Type}(F:Int->List β)(lo hi:Int):(ranE lo hi).flatMap F=(List.range (hi-lo+1).toNat).flatMap fun(i:Nat)=>F (lo+(i:Int)):=by
 unfold ranE;rw[List.flatMap_map]
theorem zvN{r:Int}(h0:0<=r)(h1:r<=1000000):I64 (unrk r):=by
 have:=ztp (v:=500000) h0 (by omega);unfold I64;omega
theorem zwd{J Jx:List SS->(Nat->Prop)->World->Prop}{Z:DK}{bs rs:List Bn}{h nf:Nat}{B:Nat->Prop}{tot:List SS}(hj:JC J Jx nf Z.l tot)(hb:DB bs h){k:Nat}(hN:NumC J Jx Z bs h B tot rs k):NumC J Jx Z bs h B tot rs (k+1):=by
 intro p q m f pre C W left hrs hpl hJ hD hQ hS hm hm2 hmk hleft hpre;obtain⟨us,hu,iw,hur⟩:=hQ.row;have hwb:=ztj (bs:=rs) (h:=h) (by rw[<-hrs];exact zsm hb.b _) (by rw[<-hrs,List.length_drop];have:=hb.n;omega) hb.hm;have x0:W.cell? ⟨Z.lb,0,none⟩=some (.slice (some ⟨Z.rb,0,none⟩) bs.length bs.length):=zc hD.lists rfl;have x1:W.cell? ⟨Z.rb,p.length,none⟩=some (.slice (some ⟨f p.length,0,none⟩) (m p.length) (m p.length)):=zc hu (hur _ (by simp));have x2:W.cell? ⟨Z.hb,0,none⟩=some (.int .i64 (h:Int)):=zc hD.hv rfl;have x3:W.cell? ⟨Z.tb,0,none⟩=some (.slice (some ⟨Z.tr,0,none⟩) (bs.length+1) Z.tc):=zc hD.rest rfl;obtain⟨x4,x5⟩:=hD.rst (p.length+1) hpl;rw[hrs]at x4 x5;have hM:m p.length<=1000:=hm2 p.length (by omega);have hbn:=hb.n;have vT:=hb.hm;have kS:=hb.h1;obtain⟨n,hn⟩:=zX (bs.length);obtain⟨c,hc⟩:=zX (p.length);obtain⟨i,hi⟩:=zX (q.length);obtain⟨M,xB⟩:=zX (m p.length)
 obtain⟨F,hF⟩:=zX (f p.length);obtain⟨w0,hw0⟩:=zX (wlo rs);obtain⟨w1,hw1⟩:=zX (whi h rs);have hmk2:=hmk;rw[xB,hi]at hmk;rw[xB]at hM;rw[hw0,hw1]at hwb;rw[hn]at x0 x3 hpl hbn;rw[xB,hF,hc]at x1;rw[hc,hw0]at x4;rw[hc,hw1]at x5;rw[hc]at hpl;obtain⟨lo,hlo⟩:=zX (max 0 (left-1-(k:Int)*(h:Int)-w1));obtain⟨hi',hhi⟩:=zX (min ((h:Int)-1) (left-1-(k:Int)-(w0:Int)));have hkh:(0:Int)<=(k:Int)*(h:Int)/\(k:Int)*(h:Int)<=1000*10000:=⟨Int.mul_nonneg (by omega) (by omega),Int.mul_le_mul (by omega) (by omega) (by omega) (by omega)⟩
 have hlo0:0<=lo:=by omega
 have hlo1:lo<=100000000000:=by omega
 have hhi1:hi'<=10000:=by omega
 have hhi2 : -100000000000<=hi':=by omega
 obtain⟨G,hG⟩:∃G:Int->List SS,G=fun r=>(numE h rs (zk0 h rs) k (left-1-r)).map fun z=>stOf (p++hdA (q++[unrk r]) z):=⟨_,rfl⟩
 have hX:(numE h rs (zk0 h rs) (k+1) left).map (fun z=>stOf (p++hdA q z))=(List.range (hi'-lo+1).toNat).flatMap fun(j:Nat)=>G (lo+(j:Int)):=by
  rw[<-zob,numE,List.map_flatMap,hw0,hw1,hlo,hhi,hG];simp only[List.map_map,Function.comp_def,zyq]
 rw[hX]at hpre ⊢;obtain⟨T,hT⟩:∃T:Nat,(hi'-lo+1).toNat=T:=⟨_,rfl⟩
 rw[hT]at hpre ⊢;have HJ:=zh hj;have lC:=zh hJ;have HD:=zh hD;have HQ:=zh hQ;have HS:=zh hS;have dP:=zh hpre;have HN:=zh hN;have HM:=zh hm;have yg:=zh hm2;have HMK:=zh hmk2;have fK:=zh hrs;have qU:=zh (show p.length+1<=bs.length by rw[hc,hn];exact hpl);have HG:=zh hG;have dX:=zh (show bs.length=n/\p.length=c/\q.length=i/\m p.length=M/\f p.length=F from⟨hn,hc,hi,xB,hF⟩);rw[hn,hF,hc,hi];clear hj hJ hD hQ hS hpre hu hur iw hrs hm hm2 hmk2 hX hb hN hn hc hi xB hF hw0 hw1 hG;have hp1:(c:Int)<(n:Int):=by omega
 have hp2:(0:Int)<=(c:Int)+1:=by omega
 have hp3:(c:Int)+1<(n:Int)+1:=by omega
 have hwc:IntKind.i64.wrap ((c:Int)+1)=(c:Int)+1:=IntWalk.i64_in _ (by omega);have hne:((i:Int)==(M:Int))=false:=by simp;omega
 have e1:IntKind.i64.wrap ((M:Int)-1)=(M:Int)-1:=IntWalk.i64_in _ (by omega);have e2:IntKind.i64.wrap ((M:Int)-1-(i:Int))=(k:Int):=by rw[show(M:Int)-1-(i:Int)=(k:Int) by omega];exact IntWalk.i64_in _ (by omega)
 have zi:=zh hmk;clear hmk;go_enter func71,ntmps71;go_upto_region 4 with fail;have e3:IntKind.i64.wrap (left-1)=left-1:=IntWalk.i64_in _ (by omega);have e4:IntKind.i64.wrap ((k:Int)*(h:Int))=(k:Int)*(h:Int):=IntWalk.i64_in _ (by omega);have e5:IntKind.i64.wrap (left-1-(k:Int)*(h:Int))=left-1-(k:Int)*(h:Int):=IntWalk.i64_in _ (by omega);have e6:IntKind.i64.wrap (left-1-(k:Int)*(h:Int)-w1)=left-1-(k:Int)*(h:Int)-w1:=IntWalk.i64_in _ (by omega)
 go_region
 have hbd:=(zs W).drew;obtain⟨wA,wU⟩:=zX (W.drew);rw[wU]at hbd ⊢
 replace x0:=zb hbd x0
 replace x1:=zb hbd x1
 replace x2:=zb hbd x2
 replace x3:=zb hbd x3
 replace x4:=zb hbd x4
 clear wU x5 e4 e5 e6;go_upto_region 5 with fail;have e4:IntKind.i64.wrap ((h:Int)-1)=(h:Int)-1:=IntWalk.i64_in _ (by omega);have e5:IntKind.i64.wrap (left-1-(k:Int))=left-1-(k:Int):=IntWalk.i64_in _ (by omega);have e6:IntKind.i64.wrap (left-1-(k:Int)-(w0:Int))=left-1-(k:Int)-(w0:Int):=IntWalk.i64_in _ (by omega)
 go_region
 have jB:=hbd.trans (Below.refl W.heap.size wA |>.mono zl |>.drew);obtain⟨wB,wT⟩:=zX (wA.drew);rw[wT]at jB ⊢;have cB:=zh jB;clear wT x0 x1 x2 x3 x4 e4 e5 e6 hbd jB hwc e1 e2 e3 hp2 hp3;have e1:IntKind.i64.wrap (hi'-lo)=hi'-lo:=IntWalk.i64_in _ (by omega);have e2:IntKind.i64.wrap (hi'-lo+1)=hi'-lo+1:=IntWalk.i64_in _ (by omega);go_wp2_with fail
 go_loopw [68] (fun iv wr=>∃(j:Nat) (C':Nat->Prop),j<=T/\iv=.int .i64 j/\Hid (J (pre++(List.range j).flatMap fun(i:Nat)=>G (lo+(i:Int))) C' wr/\(∀b,C' b->C b\/W.heap.size<=b)/\Chg (fun b=>C b\/b=Z.rb\/b=F) W wr/\RowQ Z bs.length wr (p++[q]) m f)) (fun iv _=>T-(intOf iv).toNat)
 case atStart=>exact⟨0,C,Nat.zero_le _,rfl,zh ⟨by rw[List.range_zero,List.flatMap_nil,List.append_nil];exact HJ.out.keep _ _ _ _ lC.out (Chg.of_below cB.out),fun b h=>.inl h,Chg.of_below cB.out,HQ.out.chg (Chg.of_below (C:=fun _=>False) cB.out) id fun _ _=>id⟩⟩
 case round =>
  obtain⟨j,C',hjT,rfl,HI⟩:=hrel;by_cases hlt:j<T
  ·obtain⟨i1,i2,i3,i4⟩:=HI.out;have hDn:∀b,B b->¬ (C b\/b=Z.rb\/b=F):=fun b hb h=>by
    rcases h with h|rfl|rfl
    ·exact HS.out.b _ hb h
    ·exact HS.out.br hb
    ·have:=dX.out.2.2.2.2;subst this;exact HS.out.bf _ (Nat.lt_succ_self _) hb
   have hD2:=HD.out.chg i3 hDn;have hS2:=SepQ.grow (p:=p++[q]) (by rw[show(p++[q]).length=p.length+1 by simp];exact HS.out) HD.out HQ.out i2;obtain⟨us,hu,iw,hur⟩:=i4.row;obtain⟨vs,hv,hvs,hv3,hv4⟩:=i4.el p.length (by simp);obtain⟨g1,g2,g3,g4,g5⟩:=dX.out;rw[g4]at hvs;rw[g5]at hv;have x0:wr.cell? ⟨Z.lb,0,none⟩=some (.slice (some ⟨Z.rb,0,none⟩) n n):=by rw[<-g1];exact zc hD2.lists rfl
   have x1:wr.cell? ⟨Z.rb,c,none⟩=some (.slice (some ⟨F,0,none⟩) M M):=by have h:=hur p.length (by simp);rw[g4,g5]at h;rw[<-g2];exact zc hu h
   obtain⟨z,hz⟩:∃z,vs[i]?=some z:=⟨_,Array.getElem?_eq_getElem (by have:=zi.out;omega)⟩
   have x2:wr.cell? ⟨F,i,none⟩=some z:=zc hv hz;have cf:∀o,wr.frozen? ⟨F,o,none⟩=false:=fun o=>zf hv;obtain⟨r,hr⟩:=zX (lo+(j:Int));have hr0:0<=r/\r<=10000:=by omega
   have hwr:IntKind.i64.wrap (lo+(j:Int))=r:=by rw[hr];exact IntWalk.i64_in _ (by omega)
   obtain⟨x,hx⟩:=zX (unrk r);have rO:I64 x:=by rw[<-hx];exact zvN hr0.1 (by omega)
   have HU:=zh (fun w'=>hx▸zs1 r w' (by omega));have hj1:(j:Int)<hi'-lo+1:=by omega
   have hi0:(0:Int)<=(i:Int):=by omega
   have hiM:(i:Int)<(M:Int):=by have:=zi.out;omega
   obtain⟨w5,mF,dH,lL⟩:=setU (o:=i) (.int .i64 x) hv;have hD5:=hD2.chg dH.drew fun b hb (e:b=F)=>by rw[<-g5]at e;rw[e]at hb;exact HS.out.bf _ (Nat.lt_succ_self _) hb
   have vU:RowQ Z bs.length w5.drew (p++[q++[x]]) m f:=i4.put (by rw[g3,g4];have:=zi.out;omega) rO (by rw[g5];exact dH.drew) (fun vs' h'=>by
    rw[g5]at h' ⊢;rw[g3];rw[hv]at h';injection h' with h';injection h' with h';subst h';exact lL)
   have xC:=HJ.out.keep _ _ _ _ i1 (dH.drew.mono fun b _ (e:b=F) hb=>by rw[<-g5]at e;rw[e]at hb;exact hS2.fc p.length (by simp) hb);have hin:(pre++(List.range j).flatMap fun(i:Nat)=>G (lo+(i:Int)))++G r <+: tot:=by
    refine List.IsPrefix.trans ?_ dP.out;rw[List.append_assoc,<-hr];exact(List.prefix_append_right_inj pre).2 (zop (F:=G) (g:=fun(i:Nat)=>lo+(i:Int)) hlt)
   have tZ:G r=(numE h rs (zk0 h rs) k (left-1-r)).map fun z=>stOf (p++hdA (q++[x]) z):=by rw[HG.out,<-hx]
   have hcall:=HN.out p (q++[x]) m f _ C' w5.drew (left-1-r) fK.out qU.out xC hD5 vU (by rw[show(p++[q]).length=p.length+1 by simp]at hS2;exact hS2) HM.out yg.out (by rw[HMK.out,List.length_append];simp;omega) (by omega) (by rw[<-tZ];exact hin);rw[<-tZ]at hcall;have hlq:(q++[x]).length=i+1:=by rw[List.length_append,g3];rfl
   rw[hlq,g5,g2]at hcall;have nR:=zh hcall;have y0:w5.drew.cell? ⟨Z.nb,0,none⟩=some (.func (.func 71) #[] Z.cap2):=zc hD5.num rfl;have hwi:IntKind.i64.wrap ((i:Int)+1)=((i+1:Nat):Int):=IntWalk.i64_in _ (by have:=zi.out;omega);have hwl0:IntKind.i64.wrap (left-1)=left-1:=IntWalk.i64_in _ (by omega);have hwl:IntKind.i64.wrap (left-1-lo)=left-1-lo:=IntWalk.i64_in _ (by omega);have hwl2:IntKind.i64.wrap (left-1-lo-(j:Int))=left-1-r:=by rw[show left-1-lo-(j:Int)=left-1-r by omega];exact IntWalk.i64_in _ (by omega)
   have hwj:IntKind.i64.wrap ((j:Int)+1)=(j:Int)+1:=IntWalk.i64_in _ (by omega);have hstep:(List.range (j+1)).flatMap (fun(i:Nat)=>G (lo+(i:Int)))=((List.range j).flatMap fun(i:Nat)=>G (lo+(i:Int)))++G r:=by rw[List.range_succ,List.flatMap_append,<-hr];simp
   have HST:=zh hstep;have fQ:=zh (show Chg (fun b=>C b\/b=Z.rb\/b=F) W w5.drew/\W.heap.size<=w5.drew.heap.size from⟨i3.trans2 dH.drew fun b _ e=>.inr (.inr e),Nat.le_trans i3.size dH.drew.size⟩);have HR:=zh hr;have HX:=zh hx;have HX64:=zh rO;have HD2:=zh hD2;have HS2:=zh hS2;have HVS:=zh (And.intro hv hvs);have bX:=zh dH;have HH5:=zh lL;clear i1 i2 i3 i4 hDn hD2 hS2 hu iw hur hv hvs hv3 hv4 g1 g2 g3 g4 g5 hz hr hx rO dH lL hD5 vU xC hin tZ hcall hlq hstep;go_upto_region 9 with fail
   go_region_with (refine(HU.out _).mono ?_;rintro e w9 ⟨rfl,rfl⟩)
   all_goals
    clear x0 x1 x2 cf mF;go_wp2_with fail;refine nR.out.mono ?_;rintro e w6 (⟨rfl,C6,j6,c6,h6,q6⟩|⟨rfl,pre6,C6,j6,h6⟩)
    ·have iM:=zh (show J (pre++(List.range (j+1)).flatMap fun(i:Nat)=>G (lo+(i:Int))) C6 w6/\(∀b,C6 b->C b\/W.heap.size<=b)/\Chg (fun b=>C b\/b=Z.rb\/b=F) W w6/\RowQ Z bs.length w6 (p++[q]) m f from
      ⟨by rw[HST.out,<-List.append_assoc];exact j6,fun b hb=>(c6 b hb).elim (HI.out.2.1 b) fun h=>.inr (Nat.le_trans fQ.out.2 h),fQ.out.1.trans2 h6 fun b hb h=>h.elim (fun h=>(HI.out.2.1 b h).elim .inl fun h=>by omega) .inr,q6.pop (List.prefix_append _ _)⟩)
     clear j6 c6 h6 q6 y0;go_wp2_with fail
     go_roundw
     case rel=>exact⟨j+1,C6,by omega,by go_num,iM⟩
     case measure=>simp[intOf];omega
    ·have iM:=zh (show Jx pre6 C6 w6/\Chg (fun b=>C b\/b=Z.rb\/b=F) W w6 from⟨j6,fQ.out.1.trans2 h6 fun b hb h=>h.elim (fun h=>(HI.out.2.1 b h).elim .inl fun h=>by omega) .inr⟩);clear j6 h6 y0;go_wp2_with fail;go_ret;exact .inr ⟨rfl,pre6,C6,iM.out.1,iM.out.2⟩
  ·obtain rfl:j=T:=by omega
   have hj1:¬ (j:Int)<hi'-lo+1:=by omega
   go_wp2_with fail;go_ret;obtain⟨i1,i2,i3,i4⟩:=HI.out;have:=dX.out.1;rw[this]at i4;exact .inl ⟨rfl,C',i1,i2,i3,i4⟩
section
variable {Z:DK} {n:Nat} {W W':World} {p:List (List Int)} {m f m' f':Nat->Nat}
theorem RowQ.congr(h:RowQ Z n W p m' f')(he:∀j,j<p.length->m' j=m j/\f' j=f j):RowQ Z n W p m f:=by
 obtain⟨us,h1,h2,h3⟩:=h.row;refine⟨⟨us,h1,h2,fun j hj=>by rw[h3 j hj,(he j hj).1,(he j hj).2]⟩,fun j hj=>?_,fun j hj=>by rw[<-(he j hj).2];exact h.ne j hj,fun i j hi hj e=>h.inj i j hi hj (by rw[(he i hi).2,(he j hj).2];exact e),h.fits⟩;have:=h.el j hj;rwa[(he j hj).1,(he j hj).2]at this
theorem RowQ.new{M:Nat}{W1 W2:World}(h:RowQ Z n W p m f)(hp:p.length<n)(h1:W1=W.alloc (.cells (madeCells #[.int .i64 0] M) 3))(hc:Chg (fun b=>b=Z.rb) W1 W2)
  (hk:∀us,W1.heap[Z.rb]?=some (.cells us 42 (0,0))->W2.heap[Z.rb]?=some (.cells (us.setIfInBounds p.length (.slice (some ⟨W.heap.size,0,none⟩) M M)) 42 (0,0))) :
  RowQ Z n W2 (p++[[]]) (fun j=>if j=p.length then M else m j) (fun j=>if j=p.length then W.heap.size else f j):=by
 have hb:Below W.heap.size W W1:=by rw[h1];exact zkb zr _
 have hn:W1.heap[W.heap.size]?=some (.cells (madeCells #[.int .i64 0] M) 3 (0,0)):=by rw[h1];exact heap_alloc_new W _
 obtain⟨us,u1,u2,u3⟩:=h.row;have hl:=h.lt;have hlen:(p++[[]]).length=p.length+1:=by simp
 refine⟨⟨_,hk us (zkc u1 hb),by simpa using u2,fun j hj=>?_⟩,fun j hj=>?_,fun j hj=>?_,fun i j hi hj e=>?_,fun x hx e he=>?_⟩
 ·by_cases e:j=p.length
  ·subst e;simp only[if_true];rw[Array.getElem?_setIfInBounds_self_of_lt (by omega)]
  ·simp only[e,if_false];rw[Array.getElem?_setIfInBounds_ne (by omega)];exact u3 j (by omega)
 ·rcases zpU hj with⟨hjp,_,e⟩|⟨rfl,e⟩
  ·have hne:j≠p.length:=by omega
   simp only[e,hne,if_false];obtain⟨vs,v1,v2⟩:=h.el j hjp;exact⟨vs,hc.keep (zkc v1 hb) (h.ne j hjp),v2⟩
  ·simp only[e,if_true];exact⟨_,hc.keep hn fun e=>by have e:W.heap.size=Z.rb:=e;omega,by rw[size_madeCells],Nat.zero_le _,fun i hi=>absurd hi (Nat.not_lt_zero i)⟩
 ·by_cases e:j=p.length
  ·simp only[e,if_true];omega
  ·simp only[e,if_false];exact h.ne j (by omega)
 ·split at e<;>split at e
  ·omega
  ·have:=hl.2 j (by omega);omega
  ·have:=hl.2 i (by omega);omega
  ·exact h.inj i j (by omega) (by omega) e
 ·rcases List.mem_append.1 hx with hx|hx
  ·exact h.fits x hx e he
  ·obtain rfl:=List.mem_singleton.1 hx;cases he
end
theorem zt6{J Jx:List SS->(Nat->Prop)->World->Prop}{Z:DK}{bs rs:List Bn}{h nf:Nat}{B:Nat->Prop}{tot:List SS}{p:List (List Int)}{m f:Nat->Nat}{pre:List SS}{C:Nat->Prop}{W:World}{left:Int}{n c l0 l1 w0 T:Nat}{w1 Q lo hi':Int}{a:Addr}{G:Int->List SS}
  (x0:W.cell? ⟨Z.lb,0,none⟩=some (.slice (some ⟨Z.rb,0,none⟩) n n))(x2:W.cell? ⟨Z.hb,0,none⟩=some (.int .i64 (h:Int)))(x3:W.cell? ⟨Z.tb,0,none⟩=some (.slice (some ⟨Z.tr,0,none⟩) (n+1) Z.tc))(x1:W.cell? ⟨Z.bb,0,none⟩=some (.slice (some a) n Z.c))
  (x4:W.cell? ⟨Z.tr,(c+1)*2,none⟩=some (.int .i64 (w0:Int)))(x5:W.cell? ⟨Z.tr,(c+1)*2+1,none⟩=some (.int .i64 w1))(x6:W.cell? (a.add (c*2))=some (.int .i64 (l0:Int)))(x7:W.cell? ⟨(a.add (c*2)).block,(a.add (c*2)).off+1,none⟩=some (.int .i64 (l1:Int)))
  (hwb:w0<=1000000/\0<=w1/\w1<=10000000000)(hbb:l0<=1000/\l1<=1000)(hbn:n<=100)(vT:h<=10000)(kS:1<=h)(hcn:c<n)(hleft:0<=left/\left<=100000000000)
  (xA:(left-w1+(h:Int)-1).tdiv (h:Int)=Q)(xz : -100000010000<=Q/\Q<=100000010000)(hlo:max (l0:Int) Q=lo)(hhi:min (l1:Int) (left-(w0:Int))=hi')(hlo0:0<=lo)(hlo1:lo<=100000010000)(hhi1:hi'<=1000)(hhi2 : -100000000000<=hi')(hT:(hi'-lo+1).toNat=T)
  (HJ:Hid (JC J Jx nf Z.l tot))(lC:Hid (J pre C W))(HD:Hid (DW Z bs h B W))(HQ:Hid (RowQ Z bs.length W p m f))(HS:Hid (SepQ Z B p.length f C))(dP:Hid ((pre++(List.range T).flatMap fun(j:Nat)=>G (lo+(j:Int))) <+: tot))(HN:Hid (∀k,NumC J Jx Z bs h B tot rs k))
  (HM:Hid (∀j (hj:j<p.length),m j=p[j].length))(yg:Hid (∀j,j<p.length->m j<=1000))(fK:Hid (bs.drop (p.length+1)=rs))(HG:Hid (G=fun r=>(numE h rs (zk0 h rs) r.toNat left).map fun z=>stOf (p++hdA [] z)))(dX:Hid (bs.length=n/\p.length=c/\p.length+1<=bs.length)) :
  Calls prog 70 (#[.int .i64 (c:Int),.int .i64 left]++Z.cap1) W (zs5 J Jx Z n (fun b=>b=Z.rb) pre ((List.range T).flatMap fun(j:Nat)=>G (lo+(j:Int))) p m f C W):=by
 have hp1:(c:Int)<(n:Int):=by omega
 have hp2:(0:Int)<=(c:Int)+1:=by omega
 have hp3:(c:Int)+1<(n:Int)+1:=by omega
 have hwc:IntKind.i64.wrap ((c:Int)+1)=(c:Int)+1:=IntWalk.i64_in _ (by omega);have hne:((c:Int)==(n:Int))=false:=by simp;omega
 have hh0:¬ (h:Int)=0:=by omega
 have e3:IntKind.i64.wrap (left-w1)=left-w1:=IntWalk.i64_in _ (by omega);have e4:IntKind.i64.wrap (left-w1+(h:Int))=left-w1+(h:Int):=IntWalk.i64_in _ (by omega);have e5:IntKind.i64.wrap (left-w1+(h:Int)-1)=left-w1+(h:Int)-1:=IntWalk.i64_in _ (by omega);have e6:IntKind.i64.wrap Q=Q:=IntWalk.i64_in _ (by omega);have rF:=zh (And.intro hwb (And.intro hbb (And.intro hlo0 (And.intro hlo1 (And.intro hhi1 (And.intro hhi2 (And.intro xz (And.intro hleft (And.intro hbn (And.intro vT (And.intro kS hcn)))))))))));have HHI:=zh hhi;have uz:=zh hT;clear hwb hbb hlo0 hlo1 hhi1 hhi2 xz hleft hbn vT kS hcn hhi hT;go_enter func70,ntmps70;go_upto_region 4 with fail
 go_region
 have hbd:=(zs W).drew;obtain⟨wA,wU⟩:=zX (W.drew);rw[wU]at hbd ⊢
 replace x0:=zb hbd x0
 replace x1:=zb hbd x1
 replace x3:=zb hbd x3
 replace x4:=zb hbd x4
 replace x7:=zb hbd x7
 clear wU x2 x5 x6 e3 e4 e5 e6 hlo xA;have hhi:=HHI.out;have e4:IntKind.i64.wrap (left-(w0:Int))=left-(w0:Int):=IntWalk.i64_in _ (by have:=rF.out;omega);go_upto_region 5 with fail
 go_region
 have jB:=hbd.trans (Below.refl W.heap.size wA |>.mono zl |>.drew);obtain⟨wB,wT⟩:=zX (wA.drew);rw[wT]at jB ⊢;have cB:=zh jB;clear wT x0 x1 x3 x4 x7 e4 hbd jB hwc hp2 hp3;clear hhi;obtain⟨hwb,hbb,hlo0,hlo1,hhi1,hhi2,xz,hleft,hbn,vT,kS,hcn⟩:=rF.out;have hT:=uz.out;have e1:IntKind.i64.wrap (hi'-lo)=hi'-lo:=IntWalk.i64_in _ (by omega);have e2:IntKind.i64.wrap (hi'-lo+1)=hi'-lo+1:=IntWalk.i64_in _ (by omega);go_wp2_with fail
 go_loopw [72] (fun iv wr=>∃(j:Nat) (C':Nat->Prop),j<=T/\iv=.int .i64 j/\Hid (J (pre++(List.range j).flatMap fun(i:Nat)=>G (lo+(i:Int))) C' wr/\(∀b,C' b->C b\/W.heap.size<=b)/\Chg (fun b=>C b\/b=Z.rb) W wr/\RowQ Z bs.length wr p m f)) (fun iv _=>T-(intOf iv).toNat)
 case atStart=>exact⟨0,C,Nat.zero_le _,rfl,zh ⟨by rw[List.range_zero,List.flatMap_nil,List.append_nil];exact HJ.out.keep _ _ _ _ lC.out (Chg.of_below cB.out),fun b h=>.inl h,Chg.of_below cB.out,HQ.out.chg (Chg.of_below (C:=fun _=>False) cB.out) id fun _ _=>id⟩⟩
 case round =>
  obtain⟨j,C',hjT,rfl,HI⟩:=hrel;by_cases hlt:j<T
  ·obtain⟨i1,i2,i3,i4⟩:=HI.out;have hDn:∀b,B b->¬ (C b\/b=Z.rb):=fun b hb h=>by
    rcases h with h|rfl
    ·exact HS.out.b _ hb h
    ·exact HS.out.br hb
   have hD2:=HD.out.chg i3 hDn;have hS2:=SepQ.grow HS.out HD.out HQ.out i2;obtain⟨us,hu,iw,hur⟩:=i4.row;obtain⟨g1,g2,g4⟩:=dX.out;have x0:wr.cell? ⟨Z.lb,0,none⟩=some (.slice (some ⟨Z.rb,0,none⟩) n n):=by rw[<-g1];exact zc hD2.lists rfl
   obtain⟨M,hM⟩:∃M:Nat,lo+(j:Int)=(M:Int):=⟨(lo+(j:Int)).toNat,by omega⟩
   have hM1:M<=1000:=by omega
   have hwr:IntKind.i64.wrap (M:Int)=(M:Int):=IntWalk.i64_in _ (by omega);have hmk:=bMkI M (by omega) wr.drew;have hj1:(j:Int)<hi'-lo+1:=by omega
   have aT:Below wr.heap.size wr (wr.drew.alloc (.cells (madeCells #[.int .i64 0] M) 3)):=zkb (zs wr).drew _;obtain⟨w9,dF⟩:=zX (wr.drew.alloc (.cells (madeCells #[.int .i64 0] M) 3));rw[dF]at aT hmk;have wV:=zkc hu aT;obtain⟨g,hg⟩:=zX (wr.drew.heap.size);rw[hg]at hmk;obtain⟨w5,mF,dH,lL⟩:=setU (o:=c) (.slice (some ⟨g,0,none⟩) M M) wV;obtain⟨z,hz⟩:∃z,us[c]?=some z:=⟨_,Array.getElem?_eq_getElem (by omega)⟩
   have x2:w9.cell? ⟨Z.rb,c,none⟩=some z:=zc wV hz;have cf:∀o,w9.frozen? ⟨Z.rb,o,none⟩=false:=fun o=>zf wV;have hD5:=(hD2.chg (Chg.of_below aT (C:=fun _=>False)) fun _ _=>id).chg dH fun b hb (e:b=Z.rb)=>by rw[e]at hb;exact HS.out.br hb
   have vU:=RowQ.new (W:=wr.drew) (M:=M) (W2:=w5) (i4.chg (Chg.of_below (zs wr).drew (C:=fun _=>False)) id fun _ _=>id) (by omega) dF.symm dH (fun us' h'=>by
    rw[wV]at h';injection h' with h';injection h' with h';subst h';rw[hg,g2];exact lL)
   rw[hg]at vU;have xC:=HJ.out.keep _ _ _ _ i1 (((Chg.of_below aT).trans (dH.mono fun b _ (e:b=Z.rb) hb=>by rw[e]at hb;exact hS2.r hb):Chg (fun b=>¬ C' b) wr w5));have hgw:g=wr.heap.size:=hg.symm;have vZ:∀b,C' b->b<g:=fun b hb=>by rw[hgw];exact HJ.out.lt _ _ _ i1 b hb
   have hBg:∀b,B b->b<g:=fun b hb=>by rw[hgw];exact hD2.lt b hb
   have hS5:SepQ Z B (p.length+1) (fun j=>if j=p.length then g else f j) C':=⟨hS2.b,hS2.r,fun j hj=>by
    by_cases e:j=p.length
    ·simp only[e,if_true];intro h;have:=vZ _ h;omega
    ·simp only[e,if_false];exact hS2.fc j (by omega),hS2.br,fun j hj=>by
    by_cases e:j=p.length
    ·simp only[e,if_true];intro h;have:=hBg _ h;omega
    ·simp only[e,if_false];exact hS2.bf j (by omega)⟩
   have hin:(pre++(List.range j).flatMap fun(i:Nat)=>G (lo+(i:Int)))++G M <+: tot:=by
    refine List.IsPrefix.trans ?_ dP.out;rw[List.append_assoc,<-hM];exact(List.prefix_append_right_inj pre).2 (zop (F:=G) (g:=fun(i:Nat)=>lo+(i:Int)) hlt)
   have tZ:G M=(numE h rs (zk0 h rs) M left).map fun z=>stOf (p++hdA [] z):=by rw[HG.out];simp
   have hcall:=HN.out M p [] _ _ _ C' w5 left fK.out g4 xC hD5 vU hS5 (fun j hj=>by simp only[Nat.ne_of_lt hj,if_false];exact HM.out j hj) (fun j hj=>by
    by_cases e:j=p.length
    ·simp only[e,if_true];omega
    ·simp only[e,if_false];exact yg.out j (by omega)) (by simp) hleft (by rw[<-tZ];exact hin)
   rw[<-tZ]at hcall;simp only[if_true,List.length_nil]at hcall;rw[g2]at hcall;have nR:=zh hcall;have y0:w5.cell? ⟨Z.nb,0,none⟩=some (.func (.func 71) #[] Z.cap2):=zc hD5.num rfl;have y1:w5.cell? ⟨Z.lb,0,none⟩=some (.slice (some ⟨Z.rb,0,none⟩) n n):=by rw[<-g1];exact zc hD5.lists rfl
   have hwj:IntKind.i64.wrap ((j:Int)+1)=(j:Int)+1:=IntWalk.i64_in _ (by omega);have hstep:(List.range (j+1)).flatMap (fun(i:Nat)=>G (lo+(i:Int)))=((List.range j).flatMap fun(i:Nat)=>G (lo+(i:Int)))++G M:=by rw[List.range_succ,List.flatMap_append,<-hM];simp
   have HST:=zh hstep;have fQ:=zh (show Chg (fun b=>C b\/b=Z.rb) W w5/\W.heap.size<=w5.heap.size/\W.heap.size<=g from⟨(i3.trans2 (Chg.of_below aT (C:=fun _=>False)) fun b _ h=>h.elim).trans2 dH fun b _ e=>.inr e,Nat.le_trans i3.size (Nat.le_trans aT.size dH.size),by rw[hgw];exact i3.size⟩);have z9:w9.cell? ⟨Z.lb,0,none⟩=some (.slice (some ⟨Z.rb,0,none⟩) n n):=zb aT x0;have hj0:(0:Int)<=(c:Int):=by omega
   clear i1 i2 i3 i4 hDn hD2 hS2 hu iw hur g1 g2 g4 hz wV aT dH lL hD5 vU xC hgw vZ hBg hS5 hin tZ hcall hstep dF hg;go_upto_region 9 with fail;have hS0:zW (fun w':World=>zv w' Z.lb 0 (.slice (some ⟨Z.rb,0,none⟩) n n)) zU wr.drew:=⟨x0,trivial⟩
   refine wp_region_noPanic ?_;refine zG hS0 7 ?_;refine zT 0 hS0 ?_;refine zT 1 hS0 ?_;refine zT 2 hS0 ?_;refine zT 3 hS0 ?_;refine zT 4 hS0 ?_;refine zo 5 fun K hK=>?_;(try simp only[zA,zB,zC]);go_simp;refine hK.out _ _ ⟨z9,trivial⟩ ?_;clear hK K hS0 hmk;(try simp only[zQ]);refine zo 6 fun K hK=>?_;(try simp only[zA,zB,zC]);go_simp;refine hK.out _ _ ⟨z9,trivial⟩ ?_;clear hK K;(try simp only[zQ]);refine zp 7 fun K hK=>?_;(try simp only[zA,zB,zC]);go_simp;refine hK.out _ _ y1 ?_;clear hK K;(try simp only[zQ]);refine zd ?_;refine NoPanic.normal ?_;clear x0 x2 cf mF z9 y1;go_wp2_with fail;refine nR.out.mono ?_;rintro e w6 (⟨rfl,C6,j6,c6,h6,q6⟩|⟨rfl,pre6,C6,j6,h6⟩)
   ·have iM:=zh (show J (pre++(List.range (j+1)).flatMap fun(i:Nat)=>G (lo+(i:Int))) C6 w6/\(∀b,C6 b->C b\/W.heap.size<=b)/\Chg (fun b=>C b\/b=Z.rb) W w6/\RowQ Z bs.length w6 p m f from
     ⟨by rw[HST.out,<-List.append_assoc];exact j6,fun b hb=>(c6 b hb).elim (HI.out.2.1 b) fun h=>.inr (Nat.le_trans fQ.out.2.1 h),fQ.out.1.trans2 h6 fun b hb h=>by
      rcases h with h|h|h
      ·exact(HI.out.2.1 b h).elim .inl fun h=>by omega
      ·exact .inr h
      ·have:=fQ.out.2.2;have h:b=g:=h;omega,q6.dropL.congr fun j hj=>by
       have hj':j≠c:=by have:=dX.out.2.1;omega
       exact⟨if_neg hj',if_neg hj'⟩⟩)
    clear j6 c6 h6 q6 y0;go_wp2_with fail
    go_roundw
    case rel=>exact⟨j+1,C6,by omega,by go_num,iM⟩
    case measure=>simp[intOf];omega
   ·have iM:=zh (show Jx pre6 C6 w6/\Chg (fun b=>C b\/b=Z.rb) W w6 from⟨j6,fQ.out.1.trans2 h6 fun b hb h=>by
      rcases h with h|h|h
      ·exact(HI.out.2.1 b h).elim .inl fun h=>by omega
      ·exact .inr h
      ·have:=fQ.out.2.2;have h:b=g:=h;omega⟩)
    clear j6 h6 y0;go_wp2_with fail;go_ret;exact .inr ⟨rfl,pre6,C6,iM.out.1,iM.out.2⟩
  ·obtain rfl:j=T:=by omega
   have hj1:¬ (j:Int)<hi'-lo+1:=by omega
   go_wp2_with fail;go_ret;obtain⟨i1,i2,i3,i4⟩:=HI.out;have:=dX.out.1;rw[this]at i4;exact .inl ⟨rfl,C',i1,i2,i3,i4⟩
theorem zt7{J Jx:List SS->(Nat->Prop)->World->Prop}{Z:DK}{bs rs:List Bn}{b0:Bn}{h nf:Nat}{B:Nat->Prop}{tot:List SS}(hj:JC J Jx nf Z.l tot)(hb:DB bs h)(hN:∀k,NumC J Jx Z bs h B tot rs k):zxm J Jx Z bs h B tot (b0::rs):=by
 intro p m f pre C W left hrs hpl hJ hD hQ hS hm hm2 hleft hpre;have mG:p.length<bs.length:=by have:=congrArg List.length hrs;rw[List.length_drop]at this;simp at this;omega
 have jl:bs.drop (p.length+1)=rs:=by rw[<-List.drop_drop,hrs];rfl
 have hb0:bs[p.length]=b0:=by have:=List.drop_eq_getElem_cons mG;rw[hrs]at this;injection this with h1 _;exact h1.symm
 have hwb:=ztj (bs:=rs) (h:=h) (by rw[<-jl];exact zsm hb.b _) (by rw[<-jl,List.length_drop];have:=hb.n;omega) hb.hm;have hbb:=hb.b b0 (by rw[<-hb0];exact List.getElem_mem mG);have x0:W.cell? ⟨Z.lb,0,none⟩=some (.slice (some ⟨Z.rb,0,none⟩) bs.length bs.length):=zc hD.lists rfl;have x2:W.cell? ⟨Z.hb,0,none⟩=some (.int .i64 (h:Int)):=zc hD.hv rfl;have x3:W.cell? ⟨Z.tb,0,none⟩=some (.slice (some ⟨Z.tr,0,none⟩) (bs.length+1) Z.tc):=zc hD.rest rfl;have x1:W.cell? ⟨Z.bb,0,none⟩=some (.slice Z.A bs.length Z.c):=zc hD.ls rfl;obtain⟨x4,x5⟩:=hD.rst (p.length+1) mG;obtain⟨a,hA,-,x6,x7⟩:=hD.row p.length mG;rw[hA]at x1;rw[hb0]at x6 x7;rw[jl]at x4 x5;obtain⟨l0,l1⟩:=b0;simp only at hbb x6 x7;have hbn:=hb.n;have vT:=hb.hm;have kS:=hb.h1;obtain⟨n,hn⟩:=zX (bs.length);obtain⟨c,hc⟩:=zX (p.length);obtain⟨w0,hw0⟩:=zX (wlo rs);obtain⟨w1,hw1⟩:=zX (whi h rs);rw[hw0,hw1]at hwb
 rw[hn]at x0 x1 x3 hbn;rw[hc,hw0]at x4;rw[hc,hw1]at x5;rw[hc]at x6 x7;have hcn:c<n:=by omega
 obtain⟨Q,xA⟩:=zX ((left-w1+(h:Int)-1).tdiv (h:Int));have xz : -100000010000<=Q/\Q<=100000010000:=by
  have h1:=Int.natAbs_tdiv_le_natAbs (left-w1+(h:Int)-1) (h:Int);rw[xA]at h1;omega
 obtain⟨lo,hlo⟩:=zX (max (l0:Int) Q);obtain⟨hi',hhi⟩:=zX (min (l1:Int) (left-(w0:Int)));have hlo0:0<=lo:=by omega
 have hlo1:lo<=100000010000:=by omega
 have hhi1:hi'<=1000:=by omega
 have hhi2 : -100000000000<=hi':=by omega
 obtain⟨G,hG⟩:∃G:Int->List SS,G=fun r=>(numE h rs (zk0 h rs) r.toNat left).map fun z=>stOf (p++hdA [] z):=⟨_,rfl⟩
 have hX:(zk0 h ((l0,l1)::rs) left).map (fun ls=>stOf (p++ls))=(List.range (hi'-lo+1).toNat).flatMap fun(j:Nat)=>G (lo+(j:Int)):=by
  have e:∀z:List (List Int),hdA [] z=z:=fun z=>by cases z<;>rfl
  rw[<-zob,zk0,List.map_flatMap,hw0,hw1,xA,hlo,hhi,hG];simp only[e]
 rw[hX]at hpre ⊢;obtain⟨T,hT⟩:∃T:Nat,(hi'-lo+1).toNat=T:=⟨_,rfl⟩
 rw[hT]at hpre ⊢;have HJ:=zh hj;have lC:=zh hJ;have HD:=zh hD;have HQ:=zh hQ;have HS:=zh hS;have dP:=zh hpre;have HN:=zh hN;have HM:=zh hm;have yg:=zh hm2;have fK:=zh jl;have HG:=zh hG;have dX:=zh (show bs.length=n/\p.length=c/\p.length+1<=bs.length from⟨hn,hc,mG⟩);rw[hn,hc];exact zt6 x0 x2 x3 x1 x4 x5 x6 x7 hwb hbb hbn vT kS hcn hleft xA xz hlo hhi hlo0 hlo1 hhi1 hhi2 hT HJ lC HD HQ HS dP HN HM yg fK HG dX
theorem zr5{J Jx:List SS->(Nat->Prop)->World->Prop}{Z:DK}{bs:List Bn}{h nf:Nat}{B:Nat->Prop}{tot:List SS}(hj:JC J Jx nf Z.l tot)(hb:DB bs h)(hl:∀W,DW Z bs h B W->Z.l<W.heap.size):∀rs,zxm J Jx Z bs h B tot rs
 | []=>zwn hj hb hl
 | b::rs=>zt7 hj hb fun k=>by
  induction k with
  | zero=>exact zwc hb (zr5 hj hb hl rs)
  | succ k ih=>exact zwd hj hb ih
theorem zx4:(prog.info? 42).map (fun i=>(i.zero,i.size,i.bytes))=some (some (.slice none 0 0),1,24):=by kernel_rfl
theorem zKF(n:Nat)(hn:n<=4096)(w:World):(Instr.makeSlice 41 (.int .i64 (n:Int)) (.int .i64 (n:Int))).run prog w=.ok (.slice (some ⟨w.heap.size,0,none⟩) n n) (w.alloc (.cells (madeCells #[.slice none 0 0] n) 42)):=by
 obtain⟨i,hi,h1,h2,h3⟩:=info_parts zx4;have:=zk6 (P:=prog) 41 42 i (.slice none 0 0) underlying41 hi h1 .i64 .i64 n n zl (by rw[h3];omega) (by omega) w;rw[h2,Nat.mul_one]at this;exact this
theorem zmP{w:World}{n:Nat}(hn:w.heap.size=n)(o:Obj):(w.alloc o).heap[n]?=some o:=by rw[<-hn];exact World.alloc_heap_new w o
theorem al8(W:World)(o0 o1 o2 o3 o4 o5 o6 o7:Obj) :
  Below W.heap.size W ((((((((W.alloc o0).alloc o1).alloc o2).alloc o3).alloc o4).alloc o5).alloc o6).alloc o7)/\((((((((W.alloc o0).alloc o1).alloc o2).alloc o3).alloc o4).alloc o5).alloc o6).alloc o7).heap.size=W.heap.size+8 /\
  ∀k,k<8->((((((((W.alloc o0).alloc o1).alloc o2).alloc o3).alloc o4).alloc o5).alloc o6).alloc o7).heap[W.heap.size+k]?=[o0,o1,o2,o3,o4,o5,o6,o7][k]?:=by
 refine⟨zkb (zkb (zkb (zkb (zkb (zkb (zkb (zkb zr _) _) _) _) _) _) _) _,by simp,fun k hk=>?_⟩;have h:k=0\/k=1\/k=2\/k=3\/k=4\/k=5\/k=6\/k=7:=by omega
 rcases h with rfl|rfl|rfl|rfl|rfl|rfl|rfl|rfl
 ·exact zkd (zkd (zkd (zkd (zkd (zkd (zkd (zmP rfl _) _) _) _) _) _) _) _
 ·exact zkd (zkd (zkd (zkd (zkd (zkd (zmP (by simp) _) _) _) _) _) _) _
 ·exact zkd (zkd (zkd (zkd (zkd (zmP (by simp) _) _) _) _) _) _
 ·exact zkd (zkd (zkd (zkd (zmP (by simp) _) _) _) _) _
 ·exact zkd (zkd (zkd (zmP (by simp) _) _) _) _
 ·exact zkd (zkd (zmP (by simp) _) _) _
 ·exact zkd (zmP (by simp) _) _
 ·exact zmP (by simp) _
theorem zoO{J Jx:List SS->(Nat->Prop)->World->Prop}{bs:List Bn}{h nf l tr c ct:Nat}{A:Option Addr}{R:Nat->Prop}{tot pre:List SS}{C:Nat->Prop}{W:World}{weight:Int}(hj:JC J Jx nf l tot)(hb:DB bs h)(hl:l<W.heap.size)
  (hJ:J pre C W)(hrb:RowB W R A bs)(hrt:zqO W tr h bs)(hR:∀b,R b->¬ C b)(htr:¬ C tr)(htl:tr<W.heap.size)(hw:0<=weight/\weight<=100000000000)(hpre:(pre++(zk0 h bs weight).map stOf) <+: tot) :
  Calls prog 41 #[.slice A bs.length c,.slice (some ⟨tr,0,none⟩) (bs.length+1) ct,.int .i64 (h:Int),.int .i64 weight,.func (.yield l) #[] #[]] W fun e W' =>
   ∃b,e=.returned (.bool b)/\((b=true/\∃C',J (pre++(zk0 h bs weight).map stOf) C' W'/\(∀b,C' b->C b\/W.heap.size<=b)/\Chg C W W')\/(b=false/\∃pre' C',Jx pre' C' W'/\Chg C W W')):=by
 have hmk:=zKF bs.length (by have:=hb.n;omega);have h8:=fun o0 o1 o2 o3 o4 o5 o6 o7=>al8 W o0 o1 o2 o3 o4 o5 o6 o7;obtain⟨N,hN⟩:=zX (W.heap.size);have H8:=zh (show ∀W',W'=((((((((W.alloc (.cells #[.slice A bs.length c] 83)).alloc (.cells #[.slice (some ⟨tr,0,none⟩) (bs.length+1) ct] 83)).alloc (.cells #[.int .i64 (h:Int)] 3)).alloc (.cells #[.func (.yield l) #[] #[]] 86)).alloc (.cells (madeCells #[.slice none 0 0] bs.length) 42)).alloc (.cells #[.slice (some ⟨N+1+1+1+1,0,none⟩) bs.length bs.length] 41)).alloc (.cells #[.func (.func 70) #[] (DK.cap1 ⟨l,N+1+1+1+1+1,N+1+1+1,N,N+1,N+1+1,N+1+1+1+1+1+1+1,N+1+1+1+1+1+1,N+1+1+1+1,tr,A,c,ct⟩)] 119)).alloc (.cells #[.func (.func 71) #[] (DK.cap2 ⟨l,N+1+1+1+1+1,N+1+1+1,N,N+1,N+1+1,N+1+1+1+1+1+1+1,N+1+1+1+1+1+1,N+1+1+1+1,tr,A,c,ct⟩)] 120)) ->
   Calls prog 70 (#[.int .i64 (([]:List (List Int)).length:Int),.int .i64 weight]++DK.cap1 ⟨l,N+1+1+1+1+1,N+1+1+1,N,N+1,N+1+1,N+1+1+1+1+1+1+1,N+1+1+1+1+1+1,N+1+1+1+1,tr,A,c,ct⟩) W' fun e W'=>∃b,e=.returned (.bool b)/\(
   (b=true/\∃C',J (pre++(zk0 h bs weight).map stOf) C' W'/\(∀b,C' b->C b\/N<=b)/\Chg C W W')\/(b=false/\∃pre' C',Jx pre' C' W'/\Chg C W W'))from fun W' hW'=>by
  obtain⟨hbl,hsz,hat⟩:=h8 (.cells #[.slice A bs.length c] 83) (.cells #[.slice (some ⟨tr,0,none⟩) (bs.length+1) ct] 83) (.cells #[.int .i64 (h:Int)] 3) (.cells #[.func (.yield l) #[] #[]] 86) (.cells (madeCells #[.slice none 0 0] bs.length) 42) (.cells #[.slice (some ⟨N+1+1+1+1,0,none⟩) bs.length bs.length] 41) (.cells #[.func (.func 70) #[] (DK.cap1 ⟨l,N+1+1+1+1+1,N+1+1+1,N,N+1,N+1+1,N+1+1+1+1+1+1+1,N+1+1+1+1+1+1,N+1+1+1+1,tr,A,c,ct⟩)] 119) (.cells #[.func (.func 71) #[] (DK.cap2 ⟨l,N+1+1+1+1+1,N+1+1+1,N,N+1,N+1+1,N+1+1+1+1+1+1+1,N+1+1+1+1+1+1,N+1+1+1+1,tr,A,c,ct⟩)] 120);rw[<-hW']at hbl hsz hat
  rw[hN]at hsz hat
  have iH:∀b,C b->b<N:=fun b h=>by rw[<-hN];exact hj.lt _ _ _ hJ b h
  have hlN:l<N:=by omega
  have htN:tr<N:=by omega
  have ug:∀b,N<=b->b<N+8->b≠N+4->((R b/\b<N)\/b=tr\/(N<=b/\b<N+8/\b≠N+4)):=fun b h1 h2 h3=>.inr (.inr ⟨h1,h2,h3⟩);have hL:=zr5 (Z:=⟨l,N+1+1+1+1+1,N+1+1+1,N,N+1,N+1+1,N+1+1+1+1+1+1+1,N+1+1+1+1+1+1,N+1+1+1+1,tr,A,c,ct⟩) (B:=fun b=>(R b/\b<N)\/b=tr\/(N<=b/\b<N+8/\b≠N+4)) hj hb (fun w hd=>by have:=hd.lt N (.inr (.inr ⟨by omega,by omega,by omega⟩));show l<_;omega) (rs:=bs) [] (fun _=>0) (fun _=>0) pre C W' weight rfl (Nat.zero_le _) (hj.keep _ _ _ _ hJ (Chg.of_below hbl))
   ⟨hat 5 (by decide),hat 3 (by decide),hat 0 (by decide),hat 1 (by decide),hat 2 (by decide),hat 7 (by decide),hat 6 (by decide),(hrb.keep (S':=fun b=>(R b/\b<N)\/b=tr\/(N<=b/\b<N+8/\b≠N+4)) (fun b h hlt=>.inl ⟨h,by omega⟩) fun b _ hlt=>hbl.block b hlt),hrt.keep (hbl.block _ htl),⟨ug (N+1+1+1+1+1) (by omega) (by omega) (by omega),ug (N+1+1+1) (by omega) (by omega) (by omega),ug (N) (by omega) (by omega) (by omega),ug (N+1) (by omega) (by omega) (by omega),ug (N+1+1) (by omega) (by omega) (by omega),ug (N+1+1+1+1+1+1+1) (by omega) (by omega) (by omega),ug (N+1+1+1+1+1+1) (by omega) (by omega) (by omega),.inr (.inl rfl)⟩,fun b h=>by rw[hsz];rcases h with h|h|h<;>omega⟩
   ⟨⟨_,hat 4 (by decide),by rw[size_madeCells],fun j hj=>absurd hj (Nat.not_lt_zero j)⟩,fun j hj=>absurd hj (Nat.not_lt_zero j),fun j hj=>absurd hj (Nat.not_lt_zero j),fun i j hi=>absurd hi (Nat.not_lt_zero i),fun x hx=>by cases hx⟩
   ⟨fun b h hc=>by
    have:=iH b hc;rcases h with h|rfl|h
    ·exact hR b h.1 hc
    ·exact htr hc
    ·omega,fun h=>by have:=iH _ h;simp only at this;omega,fun j hj=>absurd hj (Nat.not_lt_zero j),fun h=>by simp only at h;omega,fun j hj=>absurd hj (Nat.not_lt_zero j)⟩
   (fun j hj=>absurd hj (Nat.not_lt_zero j)) (fun j hj=>absurd hj (Nat.not_lt_zero j)) hw (by simpa only[List.nil_append]using hpre)
  refine hL.mono ?_;have hch:∀ {w':World},Chg (fun b=>C b\/b=N+1+1+1+1) W' w'->Chg C W w':=fun h=>(Chg.of_below hbl).trans2 h fun b hb h=>h.elim id fun h=>by omega
  rintro e w' (⟨rfl,C',h1,h2,h3,-⟩|⟨rfl,pre',C',h1,h2⟩)
  ·exact⟨_,rfl,.inl ⟨rfl,C',by simpa only[List.nil_append]using h1,fun b h=>(h2 b h).imp id fun h=>by omega,hch h3⟩⟩
  ·exact⟨_,rfl,.inr ⟨rfl,pre',C',h1,hch h2⟩⟩)
 clear h8 hj hb hJ hrb hrt hR hpre htr;go_enter func41,ntmps41;rw[hN];go_wp2_with fail;refine(H8.out _ rfl).mono ?_;rintro e w2 ⟨b,rfl,hP⟩;have HP:=zh hP;clear hP H8;go_wp2_with fail;go_ret;exact⟨b,rfl,HP.out⟩
structure AllM(W:World)(S:Nat->Prop)(b:BX)(bs:List Bn)(kH xb lb:Nat)(A:Option Addr)(c:Nat):Prop where
 ok:W.heap[kH]?=some (.cells #[.bool true] 4 (0,0))
 bx:W.heap[xb]?=some (.cells #[.int .i64 b.v,.int .i64 b.l,.int .i64 b.i] 23 (0,0))
 ls:W.heap[lb]?=some (.cells #[.slice A bs.length c] 83 (0,0))
 row:RowB W S A bs
def allS(b:BX)(bs:List Bn):List SS:=(allB (2*b.v+1) bs).map stOf
theorem zvE{W:World}{S:Nat->Prop}{b:BX}{bs:List Bn}{kH xb lb c nf:Nat}{A:Option Addr}(hM:AllM W S b bs kH xb lb A c)(hv:0<=b.v/\b.v<=1000)(hn:1<=bs.length/\bs.length<=100)(hb:∀q∈bs,q.1<=1000/\q.2<=1000) :
  zz4 YS nf prog 39 #[ptr0 kH,ptr0 xb,ptr0 lb] (allS b bs) (fun q=>q=kH\/q=xb\/q=lb\/S q) W:=by
 intro l J Jx C W1 hl0 jF hch hJ iG hY h0;refine(callsIn_wide (n:=nf)).2 ?_;obtain⟨v,vl,vi⟩:=b;obtain⟨h,hh⟩:∃h:Nat,2*v+1=(h:Int):=⟨(2*v+1).toNat,by simp only at hv;omega⟩
 simp only at hv;have hdb:DB bs h:=⟨hn.2,hb,by omega,by omega,hn.1⟩
 have hxs:allS ⟨v,vl,vi⟩ bs=(List.range (whi h bs-wlo bs+1).toNat).flatMap fun(j:Nat)=>(zk0 h bs (wlo bs+(j:Int))).map stOf:=by
  unfold allS allB;simp only;rw[hh,List.map_flatMap,zob (F:=fun w=>(zk0 h bs w).map stOf)]
 obtain⟨xs,hx⟩:=zX (allS ⟨v,vl,vi⟩ bs);rw[hx]at hY hxs ⊢;have zn:=zh (show JC J Jx nf l xs from⟨hJ,iG,hY⟩);have hbd:=ztj (h:=h) hb (by omega) (by omega);have x0:W1.cell? ⟨kH,0,none⟩=some (.bool true):=zc (hch.keep hM.ok fun h=>jF _ h (.inl rfl)) rfl;have x1:W1.cell? ⟨xb,0,none⟩=some (.int .i64 v):=zc (hch.keep hM.bx fun h=>jF _ h (.inr (.inl rfl))) rfl;have hk2:=hch.keep hM.ls fun h=>jF _ h (.inr (.inr (.inl rfl)));have x2:W1.cell? ⟨lb,0,none⟩=some (.slice A bs.length c):=zc hk2 rfl;have hnl:¬ C lb:=fun h=>jF _ h (.inr (.inr (.inl rfl)));have hrb:=hM.row.keep (w':=W1) (S':=fun q=>¬ C q/\q<W1.heap.size) (fun q h hlt=>⟨fun hc=>jF q hc (.inr (.inr (.inr h))),Nat.lt_of_lt_of_le hlt hch.size⟩) fun q h hlt=>hch.block q hlt fun hc=>jF q hc (.inr (.inr (.inr h)));have rQ:=zqU bs h A c W1 (hrb.keep (S':=Any) (fun _ _ _=>trivial) fun _ _ _=>rfl) (by omega) hb (by omega)
 obtain⟨w0,hw0⟩:=zX (wlo bs);obtain⟨w1,hw1⟩:=zX (whi h bs);rw[hw0,hw1]at hbd hxs;obtain⟨T,hT⟩:=zX ((w1-(w0:Int)+1).toNat);rw[hT]at hxs;have HWE:=zh rQ;have dJ:=zh hrb;have CB:=zh hdb;have yU:=zh hxs;have H0:=zh h0;have aQ:=zh hk2;have xZ:=zh hnl;have HW:=zh (show wlo bs=w0/\whi h bs=w1 from⟨hw0,hw1⟩);have HL0:=zh hl0;have hnn:=hn;obtain⟨n,hn'⟩:=zX (bs.length);have HN:=zh hn';rw[hn']at x2 HWE hnn;clear hM hv hn hb hl0 jF hch hJ iG hY h0 hdb hxs hrb rQ hw0 hw1 hx hk2 hnl hn'
 show Calls prog 39 #[.func (.yield l) #[] #[],ptr0 kH,ptr0 xb,ptr0 lb] W1 _
 have e1:IntKind.i64.wrap (2*v)=2*v:=IntWalk.i64_in _ (by have:=CB.out.hm;omega);have e2:IntKind.i64.wrap (2*v+1)=(h:Int):=by rw[hh];exact IntWalk.i64_in _ (by have:=CB.out.hm;omega)
 have HHH:=zh hh;clear hh;go_enter func39,ntmps39;go_wp2_with fail;refine HWE.out.mono ?_;rintro e w2 ⟨tr,rfl,htr,wW,hb2⟩;obtain⟨y0,y1⟩:=wW 0 (Nat.zero_le _);rw[List.drop_zero,HW.out.1]at y0;rw[List.drop_zero,HW.out.2]at y1;rw[Nat.zero_mul]at y0 y1;have HRP:=zh wW;have HB2:=zh hb2;have yY:=zh htr;have hp0:(0:Int)<(n:Int)+1:=by omega
 have e3:IntKind.i64.wrap (w1-(w0:Int))=w1-(w0:Int):=IntWalk.i64_in _ (by omega);have e4:IntKind.i64.wrap (w1-(w0:Int)+1)=w1-(w0:Int)+1:=IntWalk.i64_in _ (by omega);clear wW htr x0 x1 x2 e1 e2;go_upto_region 3 with fail
 go_quiet (fail)
 have hb3:=zkL (zs w2) nq;obtain⟨w3,hw3⟩:=zX (w2.drewN nq);rw[hw3]at hb3;rw[hw3];have HB3:=zh (zka hb2 hb3);have HRP3:=zh (HRP.out.keep (hb3.block _ (World.block_lt_of_cell? w2 _ y0)));have HTL:=zh (World.block_lt_of_cell? w2 _ y0);clear hw3 hb3 hb2 y0 y1 e3 e4;go_wp2_with fail;obtain⟨G,hG⟩:∃G:Nat->List SS,G=fun(j:Nat)=>(zk0 h bs (w0+(j:Int))).map stOf:=⟨_,rfl⟩
 have HG:=zh hG;have hxs:=yU.out;rw[show(fun(j:Nat)=>(zk0 h bs (w0+(j:Int))).map stOf)=G from hG.symm]at hxs;have yU:=zh hxs;clear hG hxs
 go_loopw [27] (fun iv wr=>∃(j:Nat) (C':Nat->Prop),j<=T/\iv=.int .i64 j/\Hid (J ((List.range j).flatMap G) C' wr/\(∀b,C' b->C b\/W1.heap.size<=b)/\Chg C W1 wr)/\Hid (¬ C' tr/\zqO wr tr h bs)) (fun iv _=>T-(intOf iv).toNat)
 case atStart=>exact⟨0,C,Nat.zero_le _,rfl,zh ⟨zn.out.keep _ _ _ _ H0.out (Chg.of_below HB3.out),fun b h=>.inl h,Chg.of_below HB3.out⟩,zh ⟨fun h=>by have:=zn.out.lt _ _ _ H0.out _ h;have:=yY.out;omega,HRP3.out⟩⟩
 case round =>
  obtain⟨j,C',hjT,rfl,HI,fK⟩:=hrel;by_cases hlt:j<T
  ·have hj1:(j:Int)<w1-(w0:Int)+1:=by omega
   have hsz:=HI.out.2.2.size;have y0:wr.cell? ⟨tr,0,none⟩=some (.int .i64 (w0:Int)):=by have:=(fK.out.2 0 (Nat.zero_le _)).1;rwa[List.drop_zero,HW.out.1,Nat.zero_mul]at this
   have x2:wr.cell? ⟨lb,0,none⟩=some (.slice A n c):=by rw[<-HN.out];exact zc (HI.out.2.2.keep aQ.out xZ.out) rfl
   have hpre:(List.range j).flatMap G++(zk0 h bs ((w0:Int)+(j:Int))).map stOf <+: xs:=by
    rw[yU.out];have:=zop (F:=G) (g:=fun i=>i) hlt;rwa[HG.out]at this ⊢
   have e1:IntKind.i64.wrap ((w0:Int)+(j:Int))=(w0:Int)+(j:Int):=IntWalk.i64_in _ (by omega);have htl:tr<wr.heap.size:=World.block_lt_of_cell? wr _ y0
   have HDI:=zh (fun w' (hbw:Below wr.heap.size wr w')=>show Calls prog 41 #[.slice A bs.length c,.slice (some ⟨tr,0,none⟩) (bs.length+1) (n+1),.int .i64 (h:Int),.int .i64 ((w0:Int)+(j:Int)),.func (.yield l) #[] #[]] w' (fun e w9=>∃b,e=.returned (.bool b)/\((b=true/\∃C9,J ((List.range (j+1)).flatMap G) C9 w9/\(∀q,C9 q->C q\/W1.heap.size<=q)/\Chg C W1 w9/\¬ C9 tr/\zqO w9 tr h bs)\/(b=false/\∃pre' C9,Jx pre' C9 w9/\Chg C W1 w9)))from(zoO (c:=c) (ct:=n+1) (A:=A) (R:=fun q=>¬ C q/\q<W1.heap.size) (tr:=tr) (pre:=(List.range j).flatMap G) (C:=C') (W:=w') (weight:=(w0:Int)+(j:Int)) zn.out CB.out (by have:=HL0.out;have:=hbw.size;omega) (zn.out.keep _ _ _ _ HI.out.1 (Chg.of_below hbw)) ((dJ.out.keep (fun q h _=>h) fun q h hlt=>HI.out.2.2.block q hlt h.1).later hbw) (fK.out.2.keep (hbw.block _ htl)) (fun q h hc=>(HI.out.2.1 q hc).elim h.1 fun h'=>by omega) fK.out.1 (Nat.lt_of_lt_of_le htl hbw.size) (by omega) hpre).mono
    fun e w9 ⟨b,hb,hr⟩=>⟨b,hb,by
     have hch:∀ {D:World},Chg C' w' D->Chg C W1 D:=fun h=>(HI.out.2.2.trans2 (Chg.of_below hbw (C:=fun _=>False)) fun _ _ h=>h.elim).trans2 h fun q hq h=>(HI.out.2.1 q h).elim id fun h'=>by omega
     rcases hr with⟨rfl,C9,h1,h2,h3⟩|⟨rfl,pre',C9,h1,h2⟩
     ·refine .inl ⟨rfl,C9,?_,fun q hq=>(h2 q hq).elim (HI.out.2.1 q) fun h=>.inr (Nat.le_trans hsz (Nat.le_trans hbw.size h)),hch h3,fun h=>(h2 _ h).elim fK.out.1 fun h=>by have:=hbw.size;omega,fK.out.2.keep ((h3.block _ (Nat.lt_of_lt_of_le htl hbw.size) fK.out.1).trans (hbw.block _ htl))⟩;rw[List.range_succ,List.flatMap_append];have e:[j].flatMap G=(zk0 h bs ((w0:Int)+(j:Int))).map stOf:=by rw[HG.out];simp
      rw[e];exact h1
     ·exact .inr ⟨rfl,pre',C9,h1,hch h2⟩⟩)
   rw[HN.out]at HDI;clear hpre htl;go_upto_region 6 with fail
   go_region_with (refine(HDI.out _ (by first|exact zr.drew|exact zkL zr _)).mono ?_;rintro e w9 ⟨b9,rfl,hR9⟩)
   all_goals
    have oC:=zh hR9;clear hR9 y0 x2;(try simp only[zQ])
    cases b9
    ·obtain⟨h0,-⟩|⟨-,pre',C9,j9,h9⟩:=oC.out
     ·cases h0
     have HF:=zh (And.intro j9 h9);clear j9 h9;go_wp2_with fail;refine bodyPost_ret (v:=.tuple #[]) (results_none (by rfl) _ _ _) rfl ?_;exact⟨⟨_,rfl⟩,.inr ⟨⟨pre',C9,HF.out.1⟩,HF.out.2⟩⟩
    ·obtain⟨-,C9,j9,c9,h9,t9,r9⟩|⟨h0,-⟩:=oC.out;rotate_left 1
     ·cases h0
     have HF:=zh (And.intro j9 (And.intro c9 h9));have vB:=zh (And.intro t9 r9);clear j9 c9 h9 t9 r9;have hwj:IntKind.i64.wrap ((j:Int)+1)=(j:Int)+1:=IntWalk.i64_in _ (by omega);go_wp2_with fail;exact⟨⟨j+1,C9,by omega,by go_num,HF,vB⟩,by simp[intOf];omega⟩
  ·obtain rfl:j=T:=by omega
   have hj1:¬ (j:Int)<w1-(w0:Int)+1:=by omega
   go_wp2_with fail;go_end0;exact⟨⟨_,rfl⟩,.inl ⟨⟨C',by rw[yU.out];exact HI.out.1⟩,HI.out.2.2⟩⟩
theorem zze(vs:List VD)(b:BX)(A:Option Addr)(c:Nat)(w:World)(hrow:RowV w Any A vs)(hl:vs.length<=LV)(hok:(b.ok&&svB vs)=true):Calls prog 17 #[.slice A vs.length c,.agg #[.int .i64 b.v,.int .i64 b.l,.int .i64 b.i]] w fun e w' =>
  ∃kH xb lb A2 c2,e=.returned (.func (.func 39) #[] #[ptr0 kH,ptr0 xb,ptr0 lb])/\Below w.heap.size w w'/\w.heap.size<=kH/\w.heap.size<=xb/\w.heap.size<=lb/\AllM w' (fun q=>w.heap.size<=q) b (lenE vs b) kH xb lb A2 c2:=by
 obtain⟨bv,bl,bi⟩:=b;simp only;have hb1:=zkb (zs w) (.cells #[.int .i64 bv,.int .i64 bl,.int .i64 bi] 23);have hk1:=heap_alloc_new w (.cells #[.int .i64 bv,.int .i64 bl,.int .i64 bi] 23);have yh:=zh (fun w' (hb:Below w.heap.size w w')=>zoi vs ⟨bv,bl,bi⟩ A c w' (hrow.later hb) hl);have hlen:=(zm5 hok).1;obtain⟨bs,hbs⟩:=zX (lenE vs ⟨bv,bl,bi⟩);have nU:=zh hbs;rw[hbs]at hlen ⊢;have HLEN:=zh hlen;clear hrow hl hbs hlen;go_enter func17,ntmps17;go_upto_region 1 with fail;obtain⟨w1,hw1⟩:=zX (w.alloc (.cells #[.int .i64 bv,.int .i64 bl,.int .i64 bi] 23));rw[hw1]at hb1 hk1 ⊢;obtain⟨x0,x1,x2⟩:=zlG hk1;have HB1:=zh hb1;have aD:=zh hk1;clear hw1 hb1 hk1;go_wp2_with fail;refine(yh.out _ HB1.out).mono ?_;rintro e w2 ⟨hb2,⟨h0,rfl⟩|⟨-,A2,c2,rfl,hrb⟩⟩
 ·rw[hok]at h0;cases h0
 have HB2:=zh (zka HB1.out hb2);have aQ:=zh (zkc aD.out hb2);rw[nU.out]at hrb;have dJ:=zh (hrb.keep (S':=fun q=>w.heap.size<=q) (fun q h _=>Nat.le_trans HB1.out.size h) fun _ _ _=>rfl);clear hrb hb2 x0 x1 x2 yh;go_wp2_with fail;go_ret;have hb4:=zkb (zkb HB2.out (.cells #[.slice A2 (vs.length+1) c2] 83)) (.cells #[.bool true] 4);have hb24:Below w2.heap.size w2 ((w2.alloc (.cells #[.slice A2 (vs.length+1) c2] 83)).alloc (.cells #[.bool true] 4)):=zkb (zkb zr _) _;have hsz:=HB2.out.size;have hl:=HLEN.out;refine⟨w2.heap.size+1,w.heap.size,w2.heap.size,A2,c2,rfl,hb4,by omega,zl,hsz,zmP (by simp) _,zkc aQ.out hb24,?_,dJ.out.later hb24⟩;rw[hl];exact zkd (zmP rfl _) _
def rnk(x:Int):Int:=if 0<x then 2*x-1 else -2*x
def lw(l:List Int):Int:=(l.map fun x=>1+rnk x).sum
def wt(ls:List (List Int)):Int:=(ls.map lw).sum
attribute [local go_sem] Oper.semAt_some
def nilS:SS:=⟨[],[],[]⟩
theorem zoF(w:World){n:Nat}(hn:w.heap.size=n)(o:Obj):(w.alloc o).heap[n]?=some o:=by rw[<-hn];exact World.alloc_heap_new w o
end
section
open Go Go.RowKit
def grE(rel right:SS->Bool)(err:SS->Int):Nat->List SS->Bool×Nat×SS×Int
 | n,[]=>(true,n,nilS,0)
 | n,s::l=>if rel s=true then(if right s=true then grE rel right err (n+1) l else(false,n+1,s,err s))else grE rel right err n l
section
variable {rel right:SS->Bool} {err:SS->Int}
theorem zpN:∀(l:List SS) (n:Nat),
  (∃a s b,l=a++s::b/\(∀x∈a,rel x=true->right x=true)/\rel s=true/\right s=false/\grE rel right err n l=(false,n+(a.filter rel).length+1,s,err s)) \/
  ((∀x∈l,rel x=true->right x=true)/\grE rel right err n l=(true,n+(l.filter rel).length,nilS,0))
 | [],n=>.inr ⟨fun x hx=>(by cases hx),rfl⟩
 | s::l,n=>by
  rw[grE];by_cases h:rel s=true
  ·rw[if_pos h];by_cases h2:right s=true
   ·rw[if_pos h2];rcases zpN l (n+1)with⟨a,t,b,h3,h4,h5,h6,h7⟩|⟨h3,h4⟩
    ·refine .inl ⟨s::a,t,b,by rw[h3];rfl,fun x hx hr=>?_,h5,h6,?_⟩
     ·rcases List.mem_cons.1 hx with rfl|hx
      ·exact h2
      ·exact h4 x hx hr
     ·rw[h7,List.filter_cons_of_pos h,List.length_cons,show n+((a.filter rel).length+1)+1=n+1+(a.filter rel).length+1 by omega]
    ·refine .inr ⟨fun x hx hr=>?_,?_⟩
     ·rcases List.mem_cons.1 hx with rfl|hx
      ·exact h2
      ·exact h3 x hx hr
     ·rw[h4,List.filter_cons_of_pos h,List.length_cons,show n+((l.filter rel).length+1)=n+1+(l.filter rel).length by omega]
   ·rw[if_neg h2];exact .inl ⟨[],s,l,rfl,fun x hx=>(by cases hx),h,by simpa using h2,rfl⟩
  ·rw[if_neg h];rcases zpN l n with⟨a,t,b,h3,h4,h5,h6,h7⟩|⟨h3,h4⟩
   ·refine .inl ⟨s::a,t,b,by rw[h3];rfl,fun x hx hr=>?_,h5,h6,?_⟩
    ·rcases List.mem_cons.1 hx with rfl|hx
     ·exact absurd hr h
     ·exact h4 x hx hr
    ·rw[h7,List.filter_cons_of_neg h]
   ·refine .inr ⟨fun x hx hr=>?_,?_⟩
    ·rcases List.mem_cons.1 hx with rfl|hx
     ·exact absurd hr h
     ·exact h3 x hx hr
    ·rw[h4,List.filter_cons_of_neg h]
theorem zuq{l:List SS}(h:∀x∈l,rel x=true->right x=true):grE rel right err 0 l=(true,(l.filter rel).length,nilS,0):=by
 rcases zpN (rel:=rel) (right:=right) (err:=err) l 0 with⟨a,s,b,h1,h2,h3,h4,h5⟩|⟨h1,h2⟩
 ·rw[h s (by rw[h1];simp) h3]at h4;cases h4
 ·rw[h2,Nat.zero_add]
end
section
variable {P:Program} {ops:Array Oper} {Q:Exit->Act->World->Prop} {md:Region.Mode} {S1 S2:World->Prop} {k:Nat}
theorem zvI{i j:Nat}{o o':Oper}{fuel:Nat}{listed:Array Bool}{a:Act}{w:World}(hr:Region.ready md ops listed=[i,j])(ho:ops[i]?=some o)(ho':ops[j]?=some o')
  (h:∀K':Act->World->Prop,Shut (∀a w,S1 w/\S2 w->wpG P md ops Q S1 S2 k fuel (listed.setIfInBounds i true) a w->K' a w)->if Region.wanted o (yielded ops a.tmps)=true then Oper.wp P o a w K' Q else K' (a.put o.dst undef) w)
  (h':∀K':Act->World->Prop,Shut (∀a w,S1 w/\S2 w->wpG P md ops Q S1 S2 k fuel (listed.setIfInBounds j true) a w->K' a w)->if Region.wanted o' (yielded ops a.tmps)=true then Oper.wp P o' a w K' Q else K' (a.put o'.dst undef) w) :
  wpG P md ops Q S1 S2 k (fuel+1) listed a w:=by
 refine⟨(fun h0=>by rw[hr]at h0;cases h0),fun x hx=>?_⟩;rw[hr]at hx;simp only[List.mem_cons,List.not_mem_nil,or_false]at hx;rcases hx with rfl|rfl
 ·exact wpOp_step ho fun K' hK=>h K' fun a w hS hW=>hK a w ⟨⟨hS.1,fun _=>hS.2⟩,hW⟩
 ·exact wpOp_step ho' fun K' hK=>h' K' fun a w hS hW=>hK a w ⟨⟨hS.1,fun _=>hS.2⟩,hW⟩
end
theorem set4{W:World}{b:Nat}{x0 x1 x2 x3 u0 u1 u2 u3:Value}{E:TypeId}(h:W.heap[b]?=some (.cells #[x0,x1,x2,x3] E (0,0))) :
  ((((W.setCell ⟨b,0,none⟩ u0).setCell ⟨b,1,none⟩ u1).setCell ⟨b,2,none⟩ u2).setCell ⟨b,3,none⟩ u3).heap[b]?=some (.cells #[u0,u1,u2,u3] E (0,0)) /\
   Chg (fun q=>q=b) W ((((W.setCell ⟨b,0,none⟩ u0).setCell ⟨b,1,none⟩ u1).setCell ⟨b,2,none⟩ u2).setCell ⟨b,3,none⟩ u3):=by
 refine⟨?_,((((Chg.refl (fun q=>q=b) W).setCell (p:=⟨b,0,none⟩) (.inl rfl) _).setCell (p:=⟨b,1,none⟩) (.inl rfl) _).setCell (p:=⟨b,2,none⟩) (.inl rfl) _).setCell (p:=⟨b,3,none⟩) (.inl rfl) _⟩;rw[heap_setCell_same _ b 3 _ _ u3 (heap_setCell_same _ b 2 _ _ u2 (heap_setCell_same _ b 1 _ _ u1 (heap_setCell_same W b 0 _ _ u0 h)))];simp
theorem zpR(t:T)(v:Value)(back:Bool)(w0 w:World)(hB0:Below w0.heap.size w0 w)(hv:NV w0 Any t v)(hk:0<t.ks.length):Calls prog 151 #[v,.bool back] w fun e W'=>∃v1 v2,e=.returned (.tuple #[v1,v2])/\NV w0 Any (fstT back t) v1/\NV w0 Any (lstT back t) v2/\Below w.heap.size w W':=by
 have HV:=zh hv;obtain⟨A,c,rfl,hf,hlk,hlc,hrow⟩:=hv.open_;obtain⟨m,hm⟩:∃m,t.ks.length=m+1:=⟨t.ks.length-1,by omega⟩
 obtain⟨a,a0,a1,a2,a3,rfl,-,ha,hna⟩:=hrow 0 (by omega);obtain⟨a',b0,b1,b2,b3,e',-,hb,hnb⟩:=hrow m (by omega);injection e' with e';subst e';obtain⟨t6,AR⟩:=zX (t.ks[0]'(by omega));obtain⟨t7,AQ⟩:=zX (t.ks[m]'(by omega));rw[AR]at hna;rw[AQ]at hnb;have iM:=zh hna;have yc:=zh hnb;have Ca:=zh (show kid t 0=t6 by simp[kid,show 0<t.ks.length by omega,AR]);have BZ:=zh (show kid t (t.ks.length-1)=t7 by simp[kid,hm,show m<t.ks.length by omega,AQ]);obtain⟨A6,c6,e6,-⟩:=hna.open_;obtain⟨A7,c7,e7,-⟩:=hnb.open_;simp only[nv,Value.agg.injEq,Array.mk.injEq,List.cons.injEq,and_true]at e6 e7;obtain⟨rfl,rfl,rfl,rfl⟩:=e6;obtain⟨rfl,rfl,rfl,rfl⟩:=e7;clear hna hnb AR AQ;obtain⟨ha0,ha1,ha2,tJ⟩:=ha;obtain⟨hb0,hb1,hb2,hb3⟩:=hb;simp only[Nat.zero_mul,Addr.add_zero']at ha0 ha1 ha2 tJ
 replace ha0:=zb hB0 ha0
 replace ha1:=zb hB0 ha1
 replace ha2:=zb hB0 ha2
 replace tJ:=zb hB0 tJ
 replace hb0:=zb hB0 hb0
 replace hb1:=zb hB0 hb1
 replace hb2:=zb hB0 hb2
 replace hb3:=zb hB0 hb3
 clear hB0;have oQ:IntKind.i64.wrap (m:Int)=(m:Int):=IntWalk.i64_in _ (by unfold LK at hlk;omega);have hm0:(0:Int)<=(m:Int):=by omega
 have hm1:(m:Int)<((m:Int)+1):=by omega
 have hbl:Below w.heap.size w (((w.alloc (.cells #[.int .u8 t.k,.int .i64 t.n,.string t.s,.slice (some a) (m+1) c] 28)).alloc (.cells #[.int .u8 0,.int .i64 0,.string ⟨#[]⟩,.slice none 0 0] 28)).alloc (.cells #[.int .u8 0,.int .i64 0,.string ⟨#[]⟩,.slice none 0 0] 28)):=zkb (zkb (zkb zr _) _) _;have hk0:=zkd (zkd (heap_alloc_new w (.cells #[.int .u8 t.k,.int .i64 t.n,.string t.s,.slice (some a) (m+1) c] 28)) (.cells #[.int .u8 0,.int .i64 0,.string ⟨#[]⟩,.slice none 0 0] 28)) (.cells #[.int .u8 0,.int .i64 0,.string ⟨#[]⟩,.slice none 0 0] 28);have hk4:=zkd (heap_alloc_new (w.alloc (.cells #[.int .u8 t.k,.int .i64 t.n,.string t.s,.slice (some a) (m+1) c] 28)) (.cells #[.int .u8 0,.int .i64 0,.string ⟨#[]⟩,.slice none 0 0] 28)) (.cells #[.int .u8 0,.int .i64 0,.string ⟨#[]⟩,.slice none 0 0] 28)
 have hk5:=heap_alloc_new ((w.alloc (.cells #[.int .u8 t.k,.int .i64 t.n,.string t.s,.slice (some a) (m+1) c] 28)).alloc (.cells #[.int .u8 0,.int .i64 0,.string ⟨#[]⟩,.slice none 0 0] 28)) (.cells #[.int .u8 0,.int .i64 0,.string ⟨#[]⟩,.slice none 0 0] 28);simp only[World.size_alloc]at hk4 hk5;go_enter func151,ntmps151;go_upto_region 1 with fail;obtain⟨w1,hw1⟩:=zX (((w.alloc (.cells #[.int .u8 t.k,.int .i64 t.n,.string t.s,.slice (some a) (m+1) c] 28)).alloc (.cells #[.int .u8 0,.int .i64 0,.string ⟨#[]⟩,.slice none 0 0] 28)).alloc (.cells #[.int .u8 0,.int .i64 0,.string ⟨#[]⟩,.slice none 0 0] 28));rw[hw1]at hbl hk0 hk4 hk5 ⊢
 have hSS:zW (fun w':World=>zv w' w.heap.size 3 (.slice (some a) (m+1) c)/\(w'.cell? a=some (.int .u8 t6.k)/\zv w' a.block (a.off+1) (.int .i64 t6.n)/\zv w' a.block (a.off+2) (.string t6.s)/\zv w' a.block (a.off+3) (.slice A6 t6.ks.length c6))/\(w'.cell? (a.add (m*4))=some (.int .u8 t7.k)/\zv w' ((a.add (m*4)).block) ((a.add (m*4)).off+1) (.int .i64 t7.n)/\zv w' ((a.add (m*4)).block) ((a.add (m*4)).off+2) (.string t7.s)/\zv w' ((a.add (m*4)).block) ((a.add (m*4)).off+3) (.slice A7 t7.ks.length c7))) zU w1.drew:=⟨⟨zc hk0 rfl,⟨zb hbl.drew ha0,zb hbl.drew ha1,zb hbl.drew ha2,zb hbl.drew tJ⟩,⟨zb hbl.drew hb0,zb hbl.drew hb1,zb hbl.drew hb2,zb hbl.drew hb3⟩⟩,trivial⟩
 have gP:=zh (show w1.heap[w.heap.size+1]?=some (.cells #[.int .u8 0,.int .i64 0,.string ⟨#[]⟩,.slice none 0 0] 28 (0,0))from hk4);have fO:=zh (show w1.heap[w.heap.size+1+1]?=some (.cells #[.int .u8 0,.int .i64 0,.string ⟨#[]⟩,.slice none 0 0] 28 (0,0))from hk5);have af:=zh hbl;clear hw1 hbl hk0 hk4 hk5 ha0 ha1 ha2 tJ hb0 hb1 hb2 hb3 hrow HV;refine wp_region_noPanic ?_;refine zG hSS 15 ?_;refine zT 0 hSS ?_;refine zT 1 hSS ?_;refine zT 2 hSS ?_;refine zT 3 hSS ?_;refine zT 4 hSS ?_;refine zT 5 hSS ?_;refine zT 6 hSS ?_;refine zT 7 hSS ?_;refine zT 8 hSS ?_;refine zT 9 hSS ?_;refine zT 10 hSS ?_;refine zT 11 hSS ?_
 have uE:=zh (show ∀w',Below w1.heap.size w1 w'->(fun w':World=>zv w' w.heap.size 3 (.slice (some a) (m+1) c)/\(w'.cell? a=some (.int .u8 t6.k)/\zv w' a.block (a.off+1) (.int .i64 t6.n)/\zv w' a.block (a.off+2) (.string t6.s)/\zv w' a.block (a.off+3) (.slice A6 t6.ks.length c6))/\(w'.cell? (a.add (m*4))=some (.int .u8 t7.k)/\zv w' ((a.add (m*4)).block) ((a.add (m*4)).off+1) (.int .i64 t7.n)/\zv w' ((a.add (m*4)).block) ((a.add (m*4)).off+2) (.string t7.s)/\zv w' ((a.add (m*4)).block) ((a.add (m*4)).off+3) (.slice A7 t7.ks.length c7))) w' from fun w' hb=>by
  obtain⟨⟨q0,⟨q1,q2,q3,q4⟩,q5,q6,q7,q8⟩,-⟩:=hSS;exact⟨zb hb q0,⟨zb hb q1,zb hb q2,zb hb q3,zb hb q4⟩,zb hb q5,zb hb q6,zb hb q7,zb hb q8⟩)
 clear hSS;refine zvI (i:=12) (j:=13) (by kernel_rfl) rfl rfl (fun K hK=>?_) (fun K hK=>?_);(try simp only[zA,zB,zC]);go_simp;have hb2:=zkb (zs w1) (.cells #[.int .u8 0,.int .i64 0,.string ⟨#[]⟩,.slice none 0 0] 28);refine hK.out _ _ ⟨uE.out _ hb2.drew,trivial⟩ ?_;clear hK K;(try simp only[zQ]);refine zo 13 fun K hK=>?_;(try simp only[zA,zB,zC]);go_simp;have hb3:Below w1.heap.size w1 ((w1.alloc (.cells #[.int .u8 0,.int .i64 0,.string ⟨#[]⟩,.slice none 0 0] 28)).alloc (.cells #[.int .u8 0,.int .i64 0,.string ⟨#[]⟩,.slice none 0 0] 28)):=zkb hb2 (.cells #[.int .u8 0,.int .i64 0,.string ⟨#[]⟩,.slice none 0 0] 28);have eU:=zkd (heap_alloc_new w1 (.cells #[.int .u8 0,.int .i64 0,.string ⟨#[]⟩,.slice none 0 0] 28)) (.cells #[.int .u8 0,.int .i64 0,.string ⟨#[]⟩,.slice none 0 0] 28)
 have lI:=heap_alloc_new (w1.alloc (.cells #[.int .u8 0,.int .i64 0,.string ⟨#[]⟩,.slice none 0 0] 28)) (.cells #[.int .u8 0,.int .i64 0,.string ⟨#[]⟩,.slice none 0 0] 28);rw[World.size_alloc]at lI;refine hK.out _ _ ⟨uE.out _ hb3.drew,trivial⟩ ?_;clear hK K;(try simp only[zQ]);obtain⟨w3,hw3⟩:=zX ((w1.alloc (.cells #[.int .u8 0,.int .i64 0,.string ⟨#[]⟩,.slice none 0 0] 28)).alloc (.cells #[.int .u8 0,.int .i64 0,.string ⟨#[]⟩,.slice none 0 0] 28));rw[hw3]at hb3 eU lI ⊢;clear hw3 hb2;generalize GE7:w1.heap.size+1=b7 at lI ⊢;generalize GE6:w1.heap.size=b6 at eU ⊢;rotate_left 1;(try simp only[zA,zB,zC]);go_simp;have hb2:=zkb (zs w1) (.cells #[.int .u8 0,.int .i64 0,.string ⟨#[]⟩,.slice none 0 0] 28);refine hK.out _ _ ⟨uE.out _ hb2.drew,trivial⟩ ?_;clear hK K;(try simp only[zQ]);refine zo 12 fun K hK=>?_;(try simp only[zA,zB,zC]);go_simp
 have hb3:Below w1.heap.size w1 ((w1.alloc (.cells #[.int .u8 0,.int .i64 0,.string ⟨#[]⟩,.slice none 0 0] 28)).alloc (.cells #[.int .u8 0,.int .i64 0,.string ⟨#[]⟩,.slice none 0 0] 28)):=zkb hb2 (.cells #[.int .u8 0,.int .i64 0,.string ⟨#[]⟩,.slice none 0 0] 28);have lI:=zkd (heap_alloc_new w1 (.cells #[.int .u8 0,.int .i64 0,.string ⟨#[]⟩,.slice none 0 0] 28)) (.cells #[.int .u8 0,.int .i64 0,.string ⟨#[]⟩,.slice none 0 0] 28);have eU:=heap_alloc_new (w1.alloc (.cells #[.int .u8 0,.int .i64 0,.string ⟨#[]⟩,.slice none 0 0] 28)) (.cells #[.int .u8 0,.int .i64 0,.string ⟨#[]⟩,.slice none 0 0] 28);rw[World.size_alloc]at eU;refine hK.out _ _ ⟨uE.out _ hb3.drew,trivial⟩ ?_;clear hK K;(try simp only[zQ]);obtain⟨w3,hw3⟩:=zX ((w1.alloc (.cells #[.int .u8 0,.int .i64 0,.string ⟨#[]⟩,.slice none 0 0] 28)).alloc (.cells #[.int .u8 0,.int .i64 0,.string ⟨#[]⟩,.slice none 0 0] 28))
 rw[hw3]at hb3 lI eU ⊢;clear hw3 hb2;generalize GE7:w1.heap.size+1=b6 at eU ⊢;generalize GE6:w1.heap.size=b7 at lI ⊢
 all_goals
  have gE:w1.heap.size<=b6/\w1.heap.size<=b7/\b6≠b7:=by omega
  obtain⟨g6,g7,gN⟩:=gE;clear GE6 GE7;have HB3:=zh hb3;have c0:w3.cell? ⟨b6,0,none⟩=some (.int .u8 0):=zc eU rfl;have c1:w3.cell? ⟨b6,1,none⟩=some (.int .i64 0):=zc eU rfl;have c2:w3.cell? ⟨b6,2,none⟩=some (.string ⟨#[]⟩):=zc eU rfl;have c3:w3.cell? ⟨b6,3,none⟩=some (.slice none 0 0):=zc eU rfl;have cf:∀o,w3.frozen? ⟨b6,o,none⟩=false:=fun _=>zf eU;refine zo 14 fun K hK=>?_;(try simp only[zA,zB,zC]);go_simp;obtain⟨hh,hch⟩:=set4 (u0:=(.int .u8 t6.k)) (u1:=(.int .i64 t6.n)) (u2:=(.string t6.s)) (u3:=(.slice A6 t6.ks.length c6)) eU;obtain⟨w4,hwn⟩:=zX ((((w3.setCell ⟨b6,0,none⟩ (.int .u8 t6.k)).setCell ⟨b6,1,none⟩ (.int .i64 t6.n)).setCell ⟨b6,2,none⟩ (.string t6.s)).setCell ⟨b6,3,none⟩ (.slice A6 t6.ks.length c6));rw[hwn]at hh hch ⊢;have hb4:Below w1.heap.size w1 w4:=HB3.out.trans (hch.below HB3.out.size fun b e=>by omega);refine hK.out _ _ ⟨uE.out _ hb4.drew,trivial⟩ ?_
  clear hK K c0 c1 c2 c3 cf hwn;(try simp only[zQ]);have ax:=zh hb4;have ji:=hch.keep lI (by omega);have c0:w4.cell? ⟨b7,0,none⟩=some (.int .u8 0):=zc ji rfl;have c1:w4.cell? ⟨b7,1,none⟩=some (.int .i64 0):=zc ji rfl;have c2:w4.cell? ⟨b7,2,none⟩=some (.string ⟨#[]⟩):=zc ji rfl;have c3:w4.cell? ⟨b7,3,none⟩=some (.slice none 0 0):=zc ji rfl;have cf:∀o,w4.frozen? ⟨b7,o,none⟩=false:=fun _=>zf ji;refine zp 15 fun K hK=>?_;(try simp only[zA,zB,zC]);go_simp;obtain⟨vQ,bP⟩:=set4 (u0:=(.int .u8 t7.k)) (u1:=(.int .i64 t7.n)) (u2:=(.string t7.s)) (u3:=(.slice A7 t7.ks.length c7)) ji;obtain⟨w5,hwn⟩:=zX ((((w4.setCell ⟨b7,0,none⟩ (.int .u8 t7.k)).setCell ⟨b7,1,none⟩ (.int .i64 t7.n)).setCell ⟨b7,2,none⟩ (.string t7.s)).setCell ⟨b7,3,none⟩ (.slice A7 t7.ks.length c7));rw[hwn]at vQ bP ⊢;have hb5:Below w1.heap.size w1 w5:=ax.out.trans (bP.below ax.out.size fun b e=>by omega)
  refine hK.out _ _ (uE.out _ hb5.drew) ?_;clear hK K c0 c1 c2 c3 cf hwn;(try simp only[zQ]);have yo:=zh (bP.keep hh (by omega));have Ct:=zh vQ;have aO:=zh (show Below w1.heap.size w1 w5 from hb5);clear hb3 eU lI ji hh vQ hch bP hb4 hb5 ax HB3 uE;refine zd ?_;refine NoPanic.normal ?_;have qM:=zh (zkc gP.out aO.out);have uo:=zh (zkc fO.out aO.out);obtain⟨P,Q,X,Y,AX,AY,CX,CY,hE⟩:∃P Q X Y AX AY CX CY,cond back (P=b7/\Q=b6/\X=t7/\Y=t6/\AX=A7/\AY=A6/\CX=c7/\CY=c6) (P=b6/\Q=b7/\X=t6/\Y=t7/\AX=A6/\AY=A7/\CX=c6/\CY=c7):=by cases back<;>exact⟨_,_,_,_,_,_,_,_,rfl,rfl,rfl,rfl,rfl,rfl,rfl,rfl⟩
  cases back
  obtain⟨rfl,rfl,rfl,rfl,rfl,rfl,rfl,rfl⟩:=hE;have HX:=yo;have HY:=Ct;have NX:=iM;have NY:=yc;have EX:=Ca;have EY:=BZ;go_upto_region 4 with fail;rotate_left 1;obtain⟨rfl,rfl,rfl,rfl,rfl,rfl,rfl,rfl⟩:=hE;have HX:=Ct;have HY:=yo;have NX:=yc;have NY:=iM;have EX:=BZ;have EY:=Ca;go_upto_region 3 with fail
  all_goals
   clear yo Ct iM yc Ca BZ;have hS5:(fun w':World=>(zN4 w' P (.int .u8 X.k) (.int .i64 X.n) (.string X.s) (.slice AX X.ks.length CX))/\zN4 w' Q (.int .u8 Y.k) (.int .i64 Y.n) (.string Y.s) (.slice AY Y.ks.length CY)) w5.drew:=⟨⟨zc HX.out rfl,zc HX.out rfl,zc HX.out rfl,zc HX.out rfl⟩,⟨zc HY.out rfl,zc HY.out rfl,zc HY.out rfl,zc HY.out rfl⟩⟩
   refine wp_region_noPanic ?_;refine zkk (fun w':World=>(zN4 w' P (.int .u8 X.k) (.int .i64 X.n) (.string X.s) (.slice AX X.ks.length CX))/\zN4 w' Q (.int .u8 Y.k) (.int .i64 Y.n) (.string Y.s) (.slice AY Y.ks.length CY)) zU 3 (by kernel_rfl) ?_;refine zkp (i:=0) (v:=?_) rfl (by kernel_rfl) (by kernel_rfl) (by kernel_rfl) (by decide) (fun _ _ _ h=>h) (Or.inl ⟨by rfl,?_⟩) ⟨hS5,trivial⟩ ?_;rotate_left 1
   ·(intro w hSw;(try dsimp only at hSw);(try simp only[zA,zC]);go_simp;(try with_reducible rfl))
   (try simp only[zQ]);refine zkp (i:=1) (v:=?_) rfl (by kernel_rfl) (by kernel_rfl) (by kernel_rfl) (by decide) (fun _ _ _ h=>h) (Or.inl ⟨by rfl,?_⟩) ⟨hS5,trivial⟩ ?_;rotate_left 1
   ·(intro w hSw;(try dsimp only at hSw);(try simp only[zA,zB,zC]);go_simp;(try with_reducible rfl))
   (try simp only[zQ]);have hsz:w.heap.size+1+1<w1.heap.size:=(Array.getElem?_eq_some_iff.mp fO.out).1;have aU:=zh (af.out.trans (aO.out.mono (by omega)));have HC:=zh (show ∀W':World,W'.heap[P]?=w5.heap[P]?->W'.heap[Q]?=w5.heap[Q]?->(fun w':World=>(zN4 w' P (.int .u8 X.k) (.int .i64 X.n) (.string X.s) (.slice AX X.ks.length CX)/\zN4 w' Q (.int .u8 Y.k) (.int .i64 Y.n) (.string Y.s) (.slice AY Y.ks.length CY))) W'.drew from fun W' h6 h7=>⟨⟨zc (h6.trans HX.out) rfl,zc (h6.trans HX.out) rfl,zc (h6.trans HX.out) rfl,zc (h6.trans HX.out) rfl⟩,⟨zc (h7.trans HY.out) rfl,zc (h7.trans HY.out) rfl,zc (h7.trans HY.out) rfl,zc (h7.trans HY.out) rfl⟩⟩);have HZQ:=zh qM.out;have kZ:=qM.out;have HZ5K:=uo.out;have c0:w5.cell? ⟨(w.heap.size+1),0,none⟩=some (.int .u8 0):=zc kZ rfl;have c1:w5.cell? ⟨(w.heap.size+1),1,none⟩=some (.int .i64 0):=zc kZ rfl
   have c2:w5.cell? ⟨(w.heap.size+1),2,none⟩=some (.string ⟨#[]⟩):=zc kZ rfl;have c3:w5.cell? ⟨(w.heap.size+1),3,none⟩=some (.slice none 0 0):=zc kZ rfl;have cf:∀o,w5.frozen? ⟨(w.heap.size+1),o,none⟩=false:=fun _=>zf kZ;refine zo 2 fun K hK=>?_;(try simp only[zA,zB,zC]);go_simp;obtain⟨hh,hch⟩:=set4 (u0:=(.int .u8 X.k)) (u1:=(.int .i64 X.n)) (u2:=(.string X.s)) (u3:=(.slice AX X.ks.length CX)) kZ;obtain⟨w6,hwn⟩:=zX ((((w5.setCell ⟨(w.heap.size+1),0,none⟩ (.int .u8 X.k)).setCell ⟨(w.heap.size+1),1,none⟩ (.int .i64 X.n)).setCell ⟨(w.heap.size+1),2,none⟩ (.string X.s)).setCell ⟨(w.heap.size+1),3,none⟩ (.slice AX X.ks.length CX));rw[hwn]at hh hch ⊢;clear c0 c1 c2 c3 cf hwn;have HBW6:=zh (aU.out.trans (hch.below aU.out.size fun b e=>by omega));have k6:=hch.block (P) (Array.getElem?_eq_some_iff.mp HX.out).1 (by omega)
   have k7:=hch.block (Q) (Array.getElem?_eq_some_iff.mp HY.out).1 (by omega);have kY:=hch.keep HZ5K (by omega);refine hK.out _ _ ⟨HC.out _ k6 k7,trivial⟩ ?_;have HF4:=zh hh;have K6:=zh k6;have K7:=zh k7;have fQ:=zh hch;clear hK K k6 k7 hh hch;(try simp only[zQ]);have c0:w6.cell? ⟨(w.heap.size+1+1),0,none⟩=some (.int .u8 0):=zc kY rfl;have c1:w6.cell? ⟨(w.heap.size+1+1),1,none⟩=some (.int .i64 0):=zc kY rfl;have c2:w6.cell? ⟨(w.heap.size+1+1),2,none⟩=some (.string ⟨#[]⟩):=zc kY rfl;have c3:w6.cell? ⟨(w.heap.size+1+1),3,none⟩=some (.slice none 0 0):=zc kY rfl;have cf:∀o,w6.frozen? ⟨(w.heap.size+1+1),o,none⟩=false:=fun _=>zf kY;refine zp 3 fun K hK=>?_;(try simp only[zA,zB,zC]);go_simp;obtain⟨hh,hch⟩:=set4 (u0:=(.int .u8 Y.k)) (u1:=(.int .i64 Y.n)) (u2:=(.string Y.s)) (u3:=(.slice AY Y.ks.length CY)) kY
   obtain⟨w7,hwn⟩:=zX ((((w6.setCell ⟨(w.heap.size+1+1),0,none⟩ (.int .u8 Y.k)).setCell ⟨(w.heap.size+1+1),1,none⟩ (.int .i64 Y.n)).setCell ⟨(w.heap.size+1+1),2,none⟩ (.string Y.s)).setCell ⟨(w.heap.size+1+1),3,none⟩ (.slice AY Y.ks.length CY));rw[hwn]at hh hch ⊢;clear c0 c1 c2 c3 cf hwn;have HBW7:=zh (HBW6.out.trans (hch.below HBW6.out.size fun b e=>by omega));have k6:=hch.block (P) (by have:=(Array.getElem?_eq_some_iff.mp HX.out).1;have:=fQ.out.size;omega) (by omega);have k7:=hch.block (Q) (by have:=(Array.getElem?_eq_some_iff.mp HY.out).1;have:=fQ.out.size;omega) (by omega);have HF4':=zh (hch.keep HF4.out (by omega));refine hK.out _ _ (HC.out _ (k6.trans K6.out) (k7.trans K7.out)) ?_;have HF5:=zh hh;clear hK K k6 k7 hh hch;(try simp only[zQ]);refine zd ?_;refine NoPanic.normal ?_;have d4:=HF4'.out;have d5:=HF5.out
   have g0:w7.drew.cell? ⟨w.heap.size+1,0,none⟩=some (.int .u8 X.k):=zc d4 rfl;have g1:w7.drew.cell? ⟨w.heap.size+1,1,none⟩=some (.int .i64 X.n):=zc d4 rfl;have g2:w7.drew.cell? ⟨w.heap.size+1,2,none⟩=some (.string X.s):=zc d4 rfl;have g3:w7.drew.cell? ⟨w.heap.size+1,3,none⟩=some (.slice AX X.ks.length CX):=zc d4 rfl;have g4:w7.drew.cell? ⟨w.heap.size+1+1,0,none⟩=some (.int .u8 Y.k):=zc d5 rfl;have g5:w7.drew.cell? ⟨w.heap.size+1+1,1,none⟩=some (.int .i64 Y.n):=zc d5 rfl;have g6:w7.drew.cell? ⟨w.heap.size+1+1,2,none⟩=some (.string Y.s):=zc d5 rfl;have g7:w7.drew.cell? ⟨w.heap.size+1+1,3,none⟩=some (.slice AY Y.ks.length CY):=zc d5 rfl;go_wp2_with fail
   refine bodyPost_ret (v:=.tuple #[.agg #[.int .u8 X.k,.int .i64 X.n,.string X.s,.slice AX X.ks.length CX],.agg #[.int .u8 Y.k,.int .i64 Y.n,.string Y.s,.slice AY Y.ks.length CY]]) (by simp[results,results151,go_sem,g0,g1,g2,g3,g4,g5,g6,g7]) rfl ⟨_,_,rfl,?_,?_,HBW7.out.drew.drew⟩
   ·simp only[fstT,lstT,if_true,if_false,Bool.false_eq_true,EX.out,EY.out];exact NX.out
   ·simp only[fstT,lstT,if_true,if_false,Bool.false_eq_true,EX.out,EY.out];exact NY.out
def IStC(G:List PR->T->Prop)(g:Nat):Prop:=∀C:RC,C.Ok->∀(W:World) (r:RS),RI C W r->∀(t:T) (v:Value) (back:Bool),NV C.w Any t v->G C.p.prs t->zku C.p.prs C.F g back t r ≠ .gas ->
 Calls prog 108 #[.pointer (some ⟨C.rb,0,none⟩),v,.bool back] W (RunP C W (zku C.p.prs C.F g back t r))
theorem zle{G:List PR->T->Prop}{g:Nat}(hS:IStC G g){C:RC}(hC:C.Ok){W:World}{r:RS}(h:RI C W r)(t:T)(v:Value)(back:Bool)(hv:NV C.w Any t v)(hG:∀u∈t.ks,G C.p.prs u)(aF:runO C.p.prs C.F g back t r ≠ .gas) :
  Calls prog 76 #[.pointer (some ⟨C.rb,0,none⟩),v,.bool back] W (RunP C W (runO C.p.prs C.F g back t r)):=by
 obtain⟨A,c,rfl,-,hlk,hlc,hrow⟩:=hv.open_;have ae:=zh hrow;have HS:=zh hS;have HG:=zh hG;have hb0:=zkb (zs W) (.cells #[.int .u8 t.k,.int .i64 t.n,.string t.s,.slice A t.ks.length c] 28);obtain⟨bA,h1⟩:=h.plus hC hb0;have hz1:(W.alloc (.cells #[.int .u8 t.k,.int .i64 t.n,.string t.s,.slice A t.ks.length c] 28)).heap.size=W.heap.size+1:=by simp
 have hbx:=box4 (heap_alloc_new W (.cells #[.int .u8 t.k,.int .i64 t.n,.string t.s,.slice A t.ks.length c] 28));have aH:=zh (Kpt.of_below (n0:=C.n0) (kb:=C.kb) hb0);obtain⟨W1,hW1⟩:=zX (W.alloc (.cells #[.int .u8 t.k,.int .i64 t.n,.string t.s,.slice A t.ks.length c] 28));rw[hW1]at bA h1 hz1 hbx aH;obtain⟨hi,hhi⟩:=zX (W1.heap.size);rw[hhi]at bA h1 hz1;have mf:=zh bA;have H1:=zh h1;have aS:=zh hbx;have hz2:W.heap.size<hi:=by omega
 have hwn:IntKind.i64.wrap ((t.ks.length:Int)-1)=(t.ks.length:Int)-1:=IntWalk.i64_in _ (by unfold LK at hlk;omega);have hwq:∀j:Nat,j<t.ks.length->IntKind.i64.wrap ((t.ks.length:Int)-1-(j:Int))=((t.ks.length-1-j:Nat):Int):=fun j hj=>by rw[IntWalk.i64_in _ (by unfold LK at hlk;omega)];omega
 obtain⟨o,ho⟩:=zX (runO C.p.prs C.F g back t r);have HO:=zh (show zk1 (zku C.p.prs C.F g back) ((blkL back t).drop 0) r=o by rw[List.drop_zero];exact ho);have qA:=zh (show o ≠ .gas from ho▸aF);have vX:(blkL back t).length=t.ks.length:=by unfold blkL;split<;>simp
 rw[ho];have gM:=zh vX;have hlk2:t.ks.length<=17592186044416:=by unfold LK at hlk;omega
 clear vX hlk;clear hv bA h1 hbx hb0 h hz1 hS hG hrow ho aF;obtain⟨x0,x1,x2,x3⟩:=aS.out;go_enter func76,ntmps76;go_wp2_with fail;clear x0 x1 x2 x3 hW1
 go_loopw [15] (fun i wr=>∃(j:Nat) (r1:RS),j<=t.ks.length/\i=.int .i64 j/\Hid (RI (C.plus W.heap.size hi) wr r1)/\Hid (Kpt C.n0 (C.plus W.heap.size hi).kb W1 wr)/\Hid (zk1 (zku C.p.prs C.F g back) ((blkL back t).drop j) r1=o)) (fun i _=>t.ks.length-(intOf i).toNat)
 case atStart=>exact⟨0,r,Nat.zero_le _,rfl,H1,zh (Kpt.refl _ _ _),HO⟩
 case round =>
  obtain⟨j,r1,hj,rfl,HR,HK,HB⟩:=hrel;by_cases hlt:j<t.ks.length
  ·cases back
   ·skip
    have hj1:(j:Int)<(t.ks.length:Int):=by omega
    have hj0:(0:Int)<=(j:Int):=by omega
    have Be:j<t.ks.length:=by omega
    have hqs1:(j:Int)<(t.ks.length:Int):=by omega
    have hqs0:(0:Int)<=(j:Int):=by omega
    have ek:=HR.out.below;obtain⟨a,u,A1,c1,rfl,-,hu,⟨p0,p1,p2,p3⟩,hnu⟩:=ae.out.nd Be;have hgu:=HG.out u (by rw[<-hu.out];exact List.getElem_mem _);have hbs:zk1 (zku C.p.prs C.F g false) ((blkL false t).drop j) r1=(zku C.p.prs C.F g false u r1).bind (zk1 (zku C.p.prs C.F g false) ((blkL false t).drop (j+1))):=by
     rw[show(blkL false t).drop j=u::(blkL false t).drop (j+1) by rw[List.drop_eq_getElem_cons (by rw[gM.out];exact hlt),<-hu.out];congr 1;all_goals simp[blkL,hlt]];rfl
    rw[HB.out]at hbs;have nU:=zh hbs;have xU:=zh (HS.out (C.plus W.heap.size hi) mf.out wr r1 HR.out u _ false hnu hgu (fun e=>qA.out (by rw[hbs,show zku C.p.prs C.F g false u r1=.gas from e];rfl)));have q0:=zb ek p0;have q1:=zb ek p1;have q2:=zb ek p2;have q3:=zb ek p3;have x3:wr.cell? ⟨W.heap.size,3,none⟩=some (.slice (some a) t.ks.length c):=HK.out.cell (.inr (.inr ⟨zl,hz2⟩)) aS.out.2.2.2;clear hbs ek hnu hgu p0 p1 p2 p3 hu;go_wp2_with fail;refine xU.out.mono ?_;rintro e w2 ⟨hk2,hb2,ho2⟩;have gB:match zku C.p.prs C.F g false u r1 with
     | .gas=>True
     | .err x=>e=zly x
     | .ok r=>(∃u,e=.returned u)/\RI (C.plus W.heap.size hi) w2 r:=ho2
    have aQ:=zh (HK.out.trans hk2);clear ho2 hk2 xU q0 q1 q2 q3 x3
    cases hx:zku C.p.prs C.F g false u r1 with
    | gas=>exact absurd (by rw[nU.out,hx];rfl) qA.out
    | err x =>
     rw[hx]at gB;subst gB;have ho3:o=.err x:=by rw[nU.out,hx];rfl
     dsimp only;refine⟨rfl,aH.out.trans (Kpt.less aQ.out),hb2,?_⟩;rw[ho3]
    | ok r2 =>
     rw[hx]at gB;obtain⟨⟨u2,rfl⟩,hr2⟩:=gB;have HR2:=zh hr2;have HB2:=zh (show zk1 (zku C.p.prs C.F g false) ((blkL false t).drop (j+1)) r2=o by rw[nU.out,hx];rfl);clear hr2 hx;go_wp2_with fail
     go_roundw
     case rel=>exact⟨j+1,r2,by omega,by go_num,HR2,aQ,HB2⟩
     case measure=>simp[intOf];omega
   ·skip
    have hwq1:=hwq j hlt;obtain⟨q,hq⟩:=zX (t.ks.length-1-j);rw[hq]at hwq1;have hj1:(j:Int)<(t.ks.length:Int):=by omega
    have hj0:(0:Int)<=(j:Int):=by omega
    have Be:q<t.ks.length:=by omega
    have hqs1:(q:Int)<(t.ks.length:Int):=by omega
    have hqs0:(0:Int)<=(q:Int):=by omega
    have ek:=HR.out.below;obtain⟨a,u,A1,c1,rfl,-,hu,⟨p0,p1,p2,p3⟩,hnu⟩:=ae.out.nd Be;have hgu:=HG.out u (by rw[<-hu.out];exact List.getElem_mem _);have hbs:zk1 (zku C.p.prs C.F g true) ((blkL true t).drop j) r1=(zku C.p.prs C.F g true u r1).bind (zk1 (zku C.p.prs C.F g true) ((blkL true t).drop (j+1))):=by
     rw[show(blkL true t).drop j=u::(blkL true t).drop (j+1) by rw[List.drop_eq_getElem_cons (by rw[gM.out];exact hlt),<-hu.out];congr 1;all_goals simp[blkL,hq]];rfl
    rw[HB.out]at hbs;have nU:=zh hbs;have xU:=zh (HS.out (C.plus W.heap.size hi) mf.out wr r1 HR.out u _ true hnu hgu (fun e=>qA.out (by rw[hbs,show zku C.p.prs C.F g true u r1=.gas from e];rfl)));have q0:=zb ek p0;have q1:=zb ek p1;have q2:=zb ek p2;have q3:=zb ek p3;have x3:wr.cell? ⟨W.heap.size,3,none⟩=some (.slice (some a) t.ks.length c):=HK.out.cell (.inr (.inr ⟨zl,hz2⟩)) aS.out.2.2.2;clear hbs ek hnu hgu p0 p1 p2 p3 hu;go_wp2_with fail;refine xU.out.mono ?_;rintro e w2 ⟨hk2,hb2,ho2⟩;have gB:match zku C.p.prs C.F g true u r1 with
     | .gas=>True
     | .err x=>e=zly x
     | .ok r=>(∃u,e=.returned u)/\RI (C.plus W.heap.size hi) w2 r:=ho2
    have aQ:=zh (HK.out.trans hk2);clear ho2 hk2 xU q0 q1 q2 q3 x3
    cases hx:zku C.p.prs C.F g true u r1 with
    | gas=>exact absurd (by rw[nU.out,hx];rfl) qA.out
    | err x =>
     rw[hx]at gB;subst gB;have ho3:o=.err x:=by rw[nU.out,hx];rfl
     dsimp only;refine⟨rfl,aH.out.trans (Kpt.less aQ.out),hb2,?_⟩;rw[ho3]
    | ok r2 =>
     rw[hx]at gB;obtain⟨⟨u2,rfl⟩,hr2⟩:=gB;have HR2:=zh hr2;have HB2:=zh (show zk1 (zku C.p.prs C.F g true) ((blkL true t).drop (j+1)) r2=o by rw[nU.out,hx];rfl);clear hr2 hx;go_wp2_with fail
     go_roundw
     case rel=>exact⟨j+1,r2,by omega,by go_num,HR2,aQ,HB2⟩
     case measure=>simp[intOf];omega
  ·have ho3:o=.ok r1:=by
    rw[<-HB.out,show(blkL back t).drop j=[] by rw[List.drop_eq_nil_iff,gM.out];omega];rfl
   have hbr:=HR.out.below;have hj1:¬ (j:Int)<(t.ks.length:Int):=by omega
   go_wp2_with fail;go_end0;refine⟨aH.out.trans (Kpt.less HK.out),hbr,?_⟩
   try rw[ho3]
   exact⟨⟨_,rfl⟩,HR.out.less⟩
def brO(prs:List PR)(F:Int)(g:Nat)(back:Bool)(t:T)(r:RS):Out :=
 zk8 F (fstT back t) r fun yes r=>(zk1 (zku prs F g back) (blkL back (if yes=true then kid t 1 else kid t 2)) r).bind (zkq F (lstT back t) yes)
theorem zsZ{G:List PR->T->Prop}{g:Nat}(hS:IStC G g){C:RC}(hC:C.Ok){W:World}{r:RS}(h:RI C W r)(t:T)(v:Value)(back:Bool)(hv:NV C.w Any t v)(hk:t.ks.length=4)(hG1:∀u∈(kid t 1).ks,G C.p.prs u)(hG2:∀u∈(kid t 2).ks,G C.p.prs u)
  (aF:brO C.p.prs C.F g back t r ≠ .gas) :
  Calls prog 132 #[.pointer (some ⟨C.rb,0,none⟩),v,.bool back] W (RunP C W (brO C.p.prs C.F g back t r)):=by
 obtain⟨A,c,rfl,-,hlk,hlc,hrow⟩:=hv.open_;have ae:=zh hrow;have HS:=zh hS;have HV:=zh hv;have hb0:=zkb (zs W) (.cells #[.int .u8 t.k,.int .i64 t.n,.string t.s,.slice A t.ks.length c] 28);obtain⟨x0,x1,x2,x3⟩:=box4 (heap_alloc_new W (.cells #[.int .u8 t.k,.int .i64 t.n,.string t.s,.slice A t.ks.length c] 28));have HB0:=zh hb0;have H:=zh h;have HC:=zh hC;have HX:=zh (heap_alloc_new W (.cells #[.int .u8 t.k,.int .i64 t.n,.string t.s,.slice A t.ks.length c] 28));have nQ:=zh (fun w' (hb:Below W.heap.size W w')=>zpR t _ back C.w w' (zka h.below hb) hv (by omega));have jf:=zh hk;clear hrow hS hb0 h hv hk hC hlk;go_enter func132,ntmps132;go_wp2_with fail;refine(nQ.out _ HB0.out).mono ?_;rintro e w2 ⟨v1,v2,rfl,n1,n2,b2⟩;obtain⟨t1,ht1⟩:=zX (fstT back t);obtain⟨t2,ht2⟩:=zX (lstT back t);have HT1:=zh ht1;have HT2:=zh ht2;rw[ht1]at n1;rw[ht2]at n2;obtain⟨A1,c1,rfl,-⟩:=n1.open_
 obtain⟨A2,c2,rfl,-⟩:=n2.open_;have fE:=zh n1;have aG:=zh n2;have b3:=zkb (zkb (zka HB0.out b2) (.cells #[.int .u8 t1.k,.int .i64 t1.n,.string t1.s,.slice A1 t1.ks.length c1] 28)) (.cells #[.int .u8 t2.k,.int .i64 t2.n,.string t2.s,.slice A2 t2.ks.length c2] 28);have k0:=zkd (zkd (zkc HX.out b2) (.cells #[.int .u8 t1.k,.int .i64 t1.n,.string t1.s,.slice A1 t1.ks.length c1] 28)) (.cells #[.int .u8 t2.k,.int .i64 t2.n,.string t2.s,.slice A2 t2.ks.length c2] 28);have k1:=zkd (heap_alloc_new w2 (.cells #[.int .u8 t1.k,.int .i64 t1.n,.string t1.s,.slice A1 t1.ks.length c1] 28)) (.cells #[.int .u8 t2.k,.int .i64 t2.n,.string t2.s,.slice A2 t2.ks.length c2] 28);have k2:=heap_alloc_new (w2.alloc (.cells #[.int .u8 t1.k,.int .i64 t1.n,.string t1.s,.slice A1 t1.ks.length c1] 28)) (.cells #[.int .u8 t2.k,.int .i64 t2.n,.string t2.s,.slice A2 t2.ks.length c2] 28)
 simp only[World.size_alloc]at k2;obtain⟨w3,hw3⟩:=zX ((w2.alloc (.cells #[.int .u8 t1.k,.int .i64 t1.n,.string t1.s,.slice A1 t1.ks.length c1] 28)).alloc (.cells #[.int .u8 t2.k,.int .i64 t2.n,.string t2.s,.slice A2 t2.ks.length c2] 28));rw[hw3]at b3 k0 k1 k2;have hz2:=zka HB0.out b2;have hzz:=hz2.size;obtain⟨dz,h3⟩:=H.out.plus HC.out b3;have bV:=zh (Kpt.of_below (n0:=C.n0) (kb:=C.kb) b3);have l0:=zkf k0;have l1:=zkf k1;have l2:=zkf k2;obtain⟨hi,hhi⟩:=zX (w3.heap.size);rw[hhi]at dz h3 l0 l1 l2;have aR:=zh dz;have H3:=zh h3;have K0:=zh k0;have K1:=zh k1;have K2:=zh k2;have iP:=zh (zol dz h3 t1 _ n1)
 obtain⟨p1,⟨y0,y1,y2,y3⟩⟩:True/\(w3.cell? ⟨w2.heap.size,0,none⟩=some (.int .u8 t1.k)/\w3.cell? ⟨w2.heap.size,1,none⟩=some (.int .i64 t1.n)/\w3.cell? ⟨w2.heap.size,2,none⟩=some (.string t1.s)/\w3.cell? ⟨w2.heap.size,3,none⟩=some (.slice A1 t1.ks.length c1)):=⟨trivial,zc k1 rfl,zc k1 rfl,zc k1 rfl,zc k1 rfl⟩
 clear n1 n2 b2 b3 k0 k1 k2 hz2 dz h3 x0 x1 x2 x3 HX HB0 nQ p1 ht1 ht2;go_upto_region 2 with fail;clear hw3;go_wp2_with fail;refine iP.out.mono ?_;rintro e w4 ⟨hk4,hb4,eY⟩;have gP:=zh (bV.out.trans (Kpt.less (C:=C) hk4));have ax:=zh (show Below C.w.heap.size C.w w4 from hb4);clear y0 y1 y2 y3 iP;rcases eY with⟨x,rfl,hx⟩|⟨b,r1,rfl,hr1,hx⟩
 ·refine⟨rfl,gP.out,ax.out,?_⟩;rw[show brO C.p.prs C.F g back t r=.err x by unfold brO;rw[HT1.out];exact hx _]
 ·have k0:=hk4.blk (.inr (.inr ⟨by omega,l0⟩)) K0.out;have k2:=hk4.blk (.inr (.inr ⟨by omega,l2⟩)) K2.out;have HR4:=zh hr1;have lG:=zh (show brO C.p.prs C.F g back t r=(runO C.p.prs C.F g back (if b=true then kid t 1 else kid t 2) r1).bind (zkq C.F t2 b) by unfold brO;rw[HT1.out,HT2.out];exact hx _);have K4:=zh k0;have K5:=zh k2;have z3:w4.cell? ⟨W.heap.size,3,none⟩=some (.slice A t.ks.length c):=zc k0 rfl;have bu:=zh aF;clear hk4 hb4 hr1 hx k0 k2 aF
  cases b
  ·skip
   have hI:2<t.ks.length:=by have:=jf.out;omega
   have hI1:(2:Int)<(t.ks.length:Int):=by omega
   obtain⟨a,u,Au,cu,rfl,-,hu,⟨p0,p1,p2,p3⟩,hnu⟩:=ae.out.nd hI;have gD:kid t 2=u:=by unfold kid;rw[List.getD_eq_getElem?_getD,List.getElem?_eq_getElem hI];exact hu.out
   have uZ:=zh (show ∀x∈u.ks,G C.p.prs x by rw[<-gD];exact hG2);have gV:=zh (show brO C.p.prs C.F g back t r=(runO C.p.prs C.F g back u r1).bind (zkq C.F t2 false) by rw[lG.out];simp only[Bool.false_eq_true,if_false,if_true,gD]);have hgu:runO C.p.prs C.F g back u r1 ≠ .gas:=fun e=>bu.out (by rw[gV.out,e];rfl);have av:=zh (zle HS.out aR.out HR4.out u _ back hnu uZ.out hgu);have ha:a.add (2*4)=⟨a.block,a.off+8,none⟩:=by unfold Addr.add;split<;>simp_all
   rw[ha]at p0 p1 p2 p3;have q0:w4.cell? ⟨a.block,a.off+8,none⟩=some (.int .u8 u.k):=zb ax.out p0;have q1:w4.cell? ⟨a.block,a.off+8+1,none⟩=some (.int .i64 u.n):=zb ax.out p1;have q2:w4.cell? ⟨a.block,a.off+8+2,none⟩=some (.string u.s):=zb ax.out p2;have q3:w4.cell? ⟨a.block,a.off+8+3,none⟩=some (.slice Au u.ks.length cu):=zb ax.out p3;clear gD hnu hu p0 p1 p2 p3 hgu;go_wp2_with fail;refine av.out.mono ?_;rintro e w5 ⟨hk5,hb5,iW⟩;have fO:=zh (gP.out.trans (Kpt.less (C:=C) hk5));have aO:=zh (show Below C.w.heap.size C.w w5 from hb5);have df:match runO C.p.prs C.F g back u r1 with
    | .gas=>True
    | .err x=>e=zly x
    | .ok r=>(∃u,e=.returned u)/\RI (C.plus W.heap.size hi) w5 r:=iW
   have k5:=hk5.blk (.inr (.inr ⟨by omega,l2⟩)) K5.out;have K6:=zh k5;clear q0 q1 q2 q3 z3 hk5 hb5 iW k5
   cases hx:runO C.p.prs C.F g back u r1 with
   | gas=>exact absurd (by rw[gV.out,hx];rfl) bu.out
   | err x =>
    rw[hx]at df;subst df;refine⟨rfl,fO.out,aO.out,?_⟩;rw[gV.out,hx];rfl
   | ok r2 =>
    rw[hx]at df;obtain⟨⟨u2,rfl⟩,hr2⟩:=df;have HAS:=zh (zmN aR.out hr2 t2 _ aG.out false);have jS:=zh (show brO C.p.prs C.F g back t r=zkq C.F t2 false r2 by rw[gV.out,hx];rfl);have q0:w5.cell? ⟨w2.heap.size+1,0,none⟩=some (.int .u8 t2.k):=zc K6.out rfl;have q1:w5.cell? ⟨w2.heap.size+1,1,none⟩=some (.int .i64 t2.n):=zc K6.out rfl;have q2:w5.cell? ⟨w2.heap.size+1,2,none⟩=some (.string t2.s):=zc K6.out rfl;have q3:w5.cell? ⟨w2.heap.size+1,3,none⟩=some (.slice A2 t2.ks.length c2):=zc K6.out rfl;clear hx hr2;go_wp2_with fail;refine HAS.out.mono ?_;rintro e w6 ⟨bJ,hb6,jW⟩;have eQ:=zh (fO.out.trans (Kpt.less (C:=C) bJ));have bC:=zh (show Below C.w.heap.size C.w w6 from hb6);have cZ:match zkq C.F t2 false r2 with
     | .gas=>True
     | .err x=>e=zly x
     | .ok r=>(∃u,e=.returned u)/\RI (C.plus W.heap.size hi) w6 r:=jW
    clear q0 q1 q2 q3 bJ hb6 jW
    cases hy:zkq C.F t2 false r2 with
    | gas=>exact absurd (by rw[jS.out,hy]) bu.out
    | err x =>
     rw[hy]at cZ;subst cZ;refine⟨rfl,eQ.out,bC.out,?_⟩;rw[jS.out,hy]
    | ok r3 =>
     rw[hy]at cZ;obtain⟨⟨u3,rfl⟩,hr3⟩:=cZ;have di:=zh hr3.less;have vJ:=zh (show brO C.p.prs C.F g back t r=.ok r3 by rw[jS.out,hy]);clear hr3 hy;go_wp2_with fail;go_end0;refine⟨eQ.out,bC.out,?_⟩;rw[vJ.out];exact⟨⟨_,rfl⟩,di.out⟩
  ·skip
   have hI:1<t.ks.length:=by have:=jf.out;omega
   have hI1:(1:Int)<(t.ks.length:Int):=by omega
   obtain⟨a,u,Au,cu,rfl,-,hu,⟨p0,p1,p2,p3⟩,hnu⟩:=ae.out.nd hI;have gD:kid t 1=u:=by unfold kid;rw[List.getD_eq_getElem?_getD,List.getElem?_eq_getElem hI];exact hu.out
   have uZ:=zh (show ∀x∈u.ks,G C.p.prs x by rw[<-gD];exact hG1);have gV:=zh (show brO C.p.prs C.F g back t r=(runO C.p.prs C.F g back u r1).bind (zkq C.F t2 true) by rw[lG.out];simp only[Bool.false_eq_true,if_false,if_true,gD]);have hgu:runO C.p.prs C.F g back u r1 ≠ .gas:=fun e=>bu.out (by rw[gV.out,e];rfl);have av:=zh (zle HS.out aR.out HR4.out u _ back hnu uZ.out hgu);have ha:a.add (1*4)=⟨a.block,a.off+4,none⟩:=by unfold Addr.add;split<;>simp_all
   rw[ha]at p0 p1 p2 p3;have q0:w4.cell? ⟨a.block,a.off+4,none⟩=some (.int .u8 u.k):=zb ax.out p0;have q1:w4.cell? ⟨a.block,a.off+4+1,none⟩=some (.int .i64 u.n):=zb ax.out p1;have q2:w4.cell? ⟨a.block,a.off+4+2,none⟩=some (.string u.s):=zb ax.out p2;have q3:w4.cell? ⟨a.block,a.off+4+3,none⟩=some (.slice Au u.ks.length cu):=zb ax.out p3;clear gD hnu hu p0 p1 p2 p3 hgu;go_wp2_with fail;refine av.out.mono ?_;rintro e w5 ⟨hk5,hb5,iW⟩;have fO:=zh (gP.out.trans (Kpt.less (C:=C) hk5));have aO:=zh (show Below C.w.heap.size C.w w5 from hb5);have df:match runO C.p.prs C.F g back u r1 with
    | .gas=>True
    | .err x=>e=zly x
    | .ok r=>(∃u,e=.returned u)/\RI (C.plus W.heap.size hi) w5 r:=iW
   have k5:=hk5.blk (.inr (.inr ⟨by omega,l2⟩)) K5.out;have K6:=zh k5;clear q0 q1 q2 q3 z3 hk5 hb5 iW k5
   cases hx:runO C.p.prs C.F g back u r1 with
   | gas=>exact absurd (by rw[gV.out,hx];rfl) bu.out
   | err x =>
    rw[hx]at df;subst df;refine⟨rfl,fO.out,aO.out,?_⟩;rw[gV.out,hx];rfl
   | ok r2 =>
    rw[hx]at df;obtain⟨⟨u2,rfl⟩,hr2⟩:=df;have HAS:=zh (zmN aR.out hr2 t2 _ aG.out true);have jS:=zh (show brO C.p.prs C.F g back t r=zkq C.F t2 true r2 by rw[gV.out,hx];rfl);have q0:w5.cell? ⟨w2.heap.size+1,0,none⟩=some (.int .u8 t2.k):=zc K6.out rfl;have q1:w5.cell? ⟨w2.heap.size+1,1,none⟩=some (.int .i64 t2.n):=zc K6.out rfl;have q2:w5.cell? ⟨w2.heap.size+1,2,none⟩=some (.string t2.s):=zc K6.out rfl;have q3:w5.cell? ⟨w2.heap.size+1,3,none⟩=some (.slice A2 t2.ks.length c2):=zc K6.out rfl;clear hx hr2;go_wp2_with fail;refine HAS.out.mono ?_;rintro e w6 ⟨bJ,hb6,jW⟩;have eQ:=zh (fO.out.trans (Kpt.less (C:=C) bJ));have bC:=zh (show Below C.w.heap.size C.w w6 from hb6);have cZ:match zkq C.F t2 true r2 with
     | .gas=>True
     | .err x=>e=zly x
     | .ok r=>(∃u,e=.returned u)/\RI (C.plus W.heap.size hi) w6 r:=jW
    clear q0 q1 q2 q3 bJ hb6 jW
    cases hy:zkq C.F t2 true r2 with
    | gas=>exact absurd (by rw[jS.out,hy]) bu.out
    | err x =>
     rw[hy]at cZ;subst cZ;refine⟨rfl,eQ.out,bC.out,?_⟩;rw[jS.out,hy]
    | ok r3 =>
     rw[hy]at cZ;obtain⟨⟨u3,rfl⟩,hr3⟩:=cZ;have di:=zh hr3.less;have vJ:=zh (show brO C.p.prs C.F g back t r=.ok r3 by rw[jS.out,hy]);clear hr3 hy;go_wp2_with fail;go_end0;refine⟨eQ.out,bC.out,?_⟩;rw[vJ.out];exact⟨⟨_,rfl⟩,di.out⟩
def Up(n:Nat)(o:Out):Prop:=∀r,o=.ok r->n<=r.n
section
variable {m n:Nat} {o:Out} {F:Int} {t:T} {r:RS}
theorem Up.of(h:Good n o):Up n o:=h.2
theorem Up.mono(h:Up n o)(hm:m<=n):Up m o:=fun r e=>Nat.le_trans hm (h r e)
theorem Up.bind{f:RS->Out}(h:Up n o)(hf:∀r,n<=r.n->Up m (f r)):Up m (o.bind f):=by
 cases o with
 | gas=>intro r e;cases e
 | err x=>intro r e;cases e
 | ok r=>exact hf r (h r rfl)
theorem zqW{f:Int->RS->Out}(hf:∀x,Up m (f x r)):Up m (valO t r f):=by
 unfold valO
 split
 ·intro r e;cases e
 ·exact hf _
theorem zom{f:Bool->RS->Out}(hf:∀b r',r.n+1<=r'.n->Up m (f b r')):Up m (zk8 F t r f):=by
 unfold zk8;exact(Up.of (zkr F r)).bind fun r' h=>zqW fun x=>hf _ _ h
theorem zmM{f:T->RS->Out}(hf:∀t r,Up r.n (f t r)):∀(l:List T) (r:RS),Up r.n (zk1 f l r)
 | [],r=>fun r' e=>by injection e with e;subst e;exact zl
 | t::ts,r=>by
  rw[zk1];exact(hf t r).bind fun r1 h1=>(zmM hf ts r1).mono h1
theorem zr4{f:T->RS->Out}(hf:∀t r,Up r.n (f t r)){entry test:T}{l1 l2:List T}:∀(m:Nat) (r:RS),Up r.n (zlT F f entry test l1 l2 m r)
 | 0,_=>fun r' e=>by cases e
 | m+1,r=>by
  rw[zlT];refine(zmM hf l1 r).bind fun r1 h1=>zom fun b r2 h2=>?_
  split
  ·intro r' e;injection e with e;subst e;omega
  ·refine(zmM hf l2 r2).bind fun r3 h3=>(Up.of (zlg F entry false r3)).bind fun r4 h4=>?_;exact(zr4 hf m r4).mono (by omega)
end
theorem znW{prs:List PR}{F:Int}:∀(g:Nat) (back:Bool) (t:T) (r:RS),Up r.n (zku prs F g back t r)
 | 0,_,_,_=>fun r' e=>by cases e
 | g+1,back,t,r=>by
  have hb:∀(back:Bool) l r1,Up r1.n (zk1 (zku prs F g back) l r1):=fun back l r1=>zmM (fun u r2=>znW g back u r2) l r1;rw[zku]
  split
  ·exact zom fun b r1 h1=>(hb _ _ r1).bind fun r2 h2=>(Up.of (zlg _ _ _ _)).mono (by omega)
  ·split
   ·refine(Up.of (zlg _ _ _ _)).bind fun r1 h1=>?_;exact(zr4 (fun u r2=>znW g back u r2) g r1).mono (by omega)
   ·split
    ·refine(Up.of (zkr F r)).bind fun r1 h1=>zqW fun x=>?_;refine(Up.of (zkB r1 _)).bind fun r2 h2=>(hb _ _ r2).bind fun r3 h3=>(Up.of (zkr F r3)).bind fun r4 h4=>zqW fun x=>?_;exact(Up.of (zkB r4 _)).mono (by omega)
    ·split
     ·refine(Up.of (zkr F r)).bind fun r1 h1=>?_;refine(Up.of (zkB r1 _)).bind fun r2 h2=>(hb _ _ r2).bind fun r3 h3=>(Up.of (zkr F r3)).bind fun r4 h4=>?_;exact(Up.of (zkB r4 _)).mono (by omega)
     ·split
      ·split
       ·intro r' e;cases e
       ·refine(Up.of (zkr F r)).bind fun r1 h1=>?_;refine(Up.of (zkB r1 _)).bind fun r2 h2=>(hb _ _ _).bind fun r3 h3=>(Up.of (zkr F r3)).bind fun r4 h4=>?_;exact(Up.of (zkB r4 _)).mono (by simp only at h3;omega)
      ·refine(Up.of (zkr F r)).bind fun r1 h1=>?_;exact(Up.of (zkB r1 _)).mono (by omega)
def lpO(prs:List PR)(F:Int)(g:Nat)(back:Bool)(t:T)(r:RS):Out :=
 (zkq F (fstT back t) true r).bind (zlT F (zku prs F g back) (fstT back t) (lstT back t) (blkL back (kid t 1)) (blkL back (kid t 2)) g)
def stp(rb:Nat)(W:World):Nat:=match W.cell? ⟨rb,7,none⟩with
 | some (.int _ n)=>n.toNat
 | _=>0
theorem zxy{C:RC}{W:World}{r:RS}(h:RI C W r):stp C.rb W=r.n:=by
 unfold stp;rw[h.cells.2.1];simp
theorem zwl{G:List PR->T->Prop}{g:Nat}(hS:IStC G g){C:RC}(hC:C.Ok){W:World}{r:RS}(h:RI C W r)(t:T)(v:Value)(back:Bool)(hv:NV C.w Any t v)(hk:t.ks.length=4)(hG1:∀u∈(kid t 1).ks,G C.p.prs u)(hG2:∀u∈(kid t 2).ks,G C.p.prs u)
  (aF:lpO C.p.prs C.F g back t r ≠ .gas) :
  Calls prog 133 #[.pointer (some ⟨C.rb,0,none⟩),v,.bool back] W (RunP C W (lpO C.p.prs C.F g back t r)):=by
 obtain⟨A,c,rfl,-,hlk,hlc,hrow⟩:=hv.open_;have ae:=zh hrow;have HS:=zh hS;have HV:=zh hv;have hb0:=zkb (zs W) (.cells #[.int .u8 t.k,.int .i64 t.n,.string t.s,.slice A t.ks.length c] 28);obtain⟨x0,x1,x2,x3⟩:=box4 (heap_alloc_new W (.cells #[.int .u8 t.k,.int .i64 t.n,.string t.s,.slice A t.ks.length c] 28));have HB0:=zh hb0;have H:=zh h;have HC:=zh hC;have HX:=zh (heap_alloc_new W (.cells #[.int .u8 t.k,.int .i64 t.n,.string t.s,.slice A t.ks.length c] 28));have nQ:=zh (fun w' (hb:Below W.heap.size W w')=>zpR t _ back C.w w' (zka h.below hb) hv (by omega));have jf:=zh hk;clear hrow hS hb0 h hv hk hC hlk;go_enter func133,ntmps133;go_wp2_with fail;refine(nQ.out _ HB0.out).mono ?_;rintro e w2 ⟨v1,v2,rfl,n1,n2,b2⟩;obtain⟨t1,ht1⟩:=zX (fstT back t);obtain⟨t2,ht2⟩:=zX (lstT back t);have HT1:=zh ht1;have HT2:=zh ht2;rw[ht1]at n1;rw[ht2]at n2;obtain⟨A1,c1,rfl,-⟩:=n1.open_
 obtain⟨A2,c2,rfl,-⟩:=n2.open_;have fE:=zh n1;have aG:=zh n2;have b3:=zkb (zkb (zka HB0.out b2) (.cells #[.int .u8 t1.k,.int .i64 t1.n,.string t1.s,.slice A1 t1.ks.length c1] 28)) (.cells #[.int .u8 t2.k,.int .i64 t2.n,.string t2.s,.slice A2 t2.ks.length c2] 28);have k0:=zkd (zkd (zkc HX.out b2) (.cells #[.int .u8 t1.k,.int .i64 t1.n,.string t1.s,.slice A1 t1.ks.length c1] 28)) (.cells #[.int .u8 t2.k,.int .i64 t2.n,.string t2.s,.slice A2 t2.ks.length c2] 28);have k1:=zkd (heap_alloc_new w2 (.cells #[.int .u8 t1.k,.int .i64 t1.n,.string t1.s,.slice A1 t1.ks.length c1] 28)) (.cells #[.int .u8 t2.k,.int .i64 t2.n,.string t2.s,.slice A2 t2.ks.length c2] 28);have k2:=heap_alloc_new (w2.alloc (.cells #[.int .u8 t1.k,.int .i64 t1.n,.string t1.s,.slice A1 t1.ks.length c1] 28)) (.cells #[.int .u8 t2.k,.int .i64 t2.n,.string t2.s,.slice A2 t2.ks.length c2] 28)
 simp only[World.size_alloc]at k2;obtain⟨w3,hw3⟩:=zX ((w2.alloc (.cells #[.int .u8 t1.k,.int .i64 t1.n,.string t1.s,.slice A1 t1.ks.length c1] 28)).alloc (.cells #[.int .u8 t2.k,.int .i64 t2.n,.string t2.s,.slice A2 t2.ks.length c2] 28));rw[hw3]at b3 k0 k1 k2;have hz2:=zka HB0.out b2;have hzz:=hz2.size;obtain⟨dz,h3⟩:=H.out.plus HC.out b3;have bV:=zh (Kpt.of_below (n0:=C.n0) (kb:=C.kb) b3);have l0:=zkf k0;have l1:=zkf k1;have l2:=zkf k2;obtain⟨hi,hhi⟩:=zX (w3.heap.size);rw[hhi]at dz h3 l0 l1 l2;have aR:=zh dz;have H3:=zh h3;have K0:=zh k0;have K1:=zh k1;have K2:=zh k2;have iP:=zh (zmN dz h3 t1 _ n1 true)
 obtain⟨p1,⟨y0,y1,y2,y3⟩⟩:True/\(w3.cell? ⟨w2.heap.size,0,none⟩=some (.int .u8 t1.k)/\w3.cell? ⟨w2.heap.size,1,none⟩=some (.int .i64 t1.n)/\w3.cell? ⟨w2.heap.size,2,none⟩=some (.string t1.s)/\w3.cell? ⟨w2.heap.size,3,none⟩=some (.slice A1 t1.ks.length c1)):=⟨trivial,zc k1 rfl,zc k1 rfl,zc k1 rfl,zc k1 rfl⟩
 clear n1 n2 b2 b3 k0 k1 k2 hz2 dz h3 x0 x1 x2 x3 HX HB0 nQ p1 ht1 ht2;go_upto_region 2 with fail;clear hw3;obtain⟨o,ho⟩:=zX (lpO C.p.prs C.F g back t r);have HO:=zh (show(zkq C.F t1 true r).bind (zlT C.F (zku C.p.prs C.F g back) t1 t2 (blkL back (kid t 1)) (blkL back (kid t 2)) g)=o by rw[<-ho];unfold lpO;rw[HT1.out,HT2.out]);rw[ho]at aF ⊢;have bu:=zh aF;have bQ:=zh ho;clear aF ho;go_wp2_with fail;refine iP.out.mono ?_;rintro e w4 ⟨hk4,hb4,eY⟩;have gP:=zh (bV.out.trans (Kpt.less (C:=C) hk4));have ax:=zh (show Below C.w.heap.size C.w w4 from hb4);have bz:match zkq C.F t1 true r with
  | .gas=>True
  | .err x=>e=zly x
  | .ok r=>(∃u,e=.returned u)/\RI (C.plus W.heap.size hi) w4 r:=eY
 have dQ:=zh hk4;clear y0 y1 y2 y3 iP hk4 hb4 eY
 cases hy:zkq C.F t1 true r with
 | gas=>exact absurd (by rw[<-HO.out,hy];rfl) bu.out
 | err x =>
  rw[hy]at bz;subst bz;refine⟨rfl,gP.out,ax.out,?_⟩;rw[<-HO.out,hy];rfl
 | ok r1 =>
  rw[hy]at bz;obtain⟨⟨u3,rfl⟩,hr1⟩:=bz;have HR4:=zh hr1;have iZ:=zh (show zlT C.F (zku C.p.prs C.F g back) t1 t2 (blkL back (kid t 1)) (blkL back (kid t 2)) g r1=o by rw[<-HO.out,hy];rfl);clear hr1 hy;have hI1:(1:Int)<(t.ks.length:Int):=by have:=jf.out;omega
  have hI2:(2:Int)<(t.ks.length:Int):=by have:=jf.out;omega
  have hi1:1<t.ks.length:=by omega
  have hi2:2<t.ks.length:=by omega
  obtain⟨a,u,Au,cu,rfl,-,hu,⟨p0,p1,p2,p3⟩,hnu⟩:=ae.out.nd hi1;obtain⟨a',u',Au',cu',e',-,hu',⟨p4,p5,p6,p7⟩,hnu'⟩:=ae.out.nd hi2;injection e' with e';subst e';have gD:kid t 1=u:=by unfold kid;rw[List.getD_eq_getElem?_getD,List.getElem?_eq_getElem hi1];exact hu.out
  have sJ:kid t 2=u':=by unfold kid;rw[List.getD_eq_getElem?_getD,List.getElem?_eq_getElem hi2];exact hu'.out
  rw[gD]at hG1;rw[sJ]at hG2;rw[gD,sJ]at iZ;have vg:=zh hG1;have HG2:=zh hG2;have uN:=zh hnu;have HNU':=zh hnu';have ha:a.add (1*4)=⟨a.block,a.off+4,none⟩:=by unfold Addr.add;split<;>simp_all
  have ha':a.add (2*4)=⟨a.block,a.off+8,none⟩:=by unfold Addr.add;split<;>simp_all
  rw[ha]at p0 p1 p2 p3;rw[ha']at p4 p5 p6 p7;have HPP:=zh (show ∀w',Below C.w.heap.size C.w w'->(w'.cell? ⟨a.block,a.off+4,none⟩=some (.int .u8 u.k)/\w'.cell? ⟨a.block,a.off+4+1,none⟩=some (.int .i64 u.n)/\w'.cell? ⟨a.block,a.off+4+2,none⟩=some (.string u.s)/\w'.cell? ⟨a.block,a.off+4+3,none⟩=some (.slice Au u.ks.length cu))/\(w'.cell? ⟨a.block,a.off+8,none⟩=some (.int .u8 u'.k)/\w'.cell? ⟨a.block,a.off+8+1,none⟩=some (.int .i64 u'.n)/\w'.cell? ⟨a.block,a.off+8+2,none⟩=some (.string u'.s)/\w'.cell? ⟨a.block,a.off+8+3,none⟩=some (.slice Au' u'.ks.length cu'))from fun w' hb=>⟨⟨zb hb p0,zb hb p1,zb hb p2,zb hb p3⟩,⟨zb hb p4,zb hb p5,zb hb p6,zb hb p7⟩⟩);clear gD sJ hnu hnu' hu hu' p0 p1 p2 p3 p4 p5 p6 p7 ha ha' hG1 hG2;have hz0:W.heap.size<hi:=l0;go_wp2_with fail
  go_loopw [] (fun wr=>∃(m:Nat) (r1:RS),Hid (RI (C.plus W.heap.size hi) wr r1)/\Hid (Kpt C.n0 (C.plus W.heap.size hi).kb w3 wr)/\Hid (zlT C.F (zku C.p.prs C.F g back) t1 t2 (blkL back u) (blkL back u') m r1=o)) (fun wr=>C.F.toNat-stp C.rb wr)
  case atStart=>exact⟨g,r1,HR4,dQ,iZ⟩
  case round =>
   obtain⟨m,r3,HR,HK,HL⟩:=hrel;have j0:=HK.out.blk (.inr (.inr ⟨by omega,l0⟩)) K0.out;have j1:=HK.out.blk (.inr (.inr ⟨by omega,l1⟩)) K1.out;have j2:=HK.out.blk (.inr (.inr ⟨by omega,l2⟩)) K2.out;have z3:wr.cell? ⟨W.heap.size,3,none⟩=some (.slice (some a) t.ks.length c):=zc j0 rfl
   cases m with
   | zero=>exact absurd HL.out.symm bu.out
   | succ m =>
    have HL2:=zh (show(runO C.p.prs C.F g back u r3).bind (fun r=>zk8 C.F t2 r fun b r=>if b=true then .ok r else(runO C.p.prs C.F g back u' r).bind fun r=>(zkq C.F t1 false r).bind (zlT C.F (zku C.p.prs C.F g back) t1 t2 (blkL back u) (blkL back u') m))=o from HL.out);have hgu:runO C.p.prs C.F g back u r3 ≠ .gas:=fun e=>bu.out (by rw[<-HL2.out,e];rfl);have av:=zh (zle HS.out aR.out HR.out u _ back uN.out vg.out hgu);obtain⟨⟨q0,q1,q2,q3⟩,-⟩:=HPP.out wr HR.out.below;clear hgu j0 j1 j2;go_wp2_with fail;refine av.out.mono ?_;rintro e w5 ⟨hk5,hb5,iW⟩;have fO:=zh (HK.out.trans hk5);have aO:=zh (show Below C.w.heap.size C.w w5 from hb5);have df:match runO C.p.prs C.F g back u r3 with
     | .gas=>True
     | .err x=>e=zly x
     | .ok r=>(∃u,e=.returned u)/\RI (C.plus W.heap.size hi) w5 r:=iW
    clear q0 q1 q2 q3 z3 hk5 hb5 iW av
    cases hx:runO C.p.prs C.F g back u r3 with
    | gas=>exact absurd (by rw[<-HL2.out,hx];rfl) bu.out
    | err x =>
     rw[hx]at df;subst df;refine⟨rfl,bV.out.trans (Kpt.less (C:=C) fO.out),aO.out,?_⟩
     try rw[bQ.out]
     rw[<-HL2.out,hx];rfl
    | ok r4 =>
     rw[hx]at df;obtain⟨⟨u2,rfl⟩,hr4⟩:=df;have wC:=zh (zmM (fun t r=>znW g back t r) (blkL back u) r3 r4 hx);have yl:=zh (show(zk8 C.F t2 r4 fun b r=>if b=true then .ok r else(runO C.p.prs C.F g back u' r).bind fun r=>(zkq C.F t1 false r).bind (zlT C.F (zku C.p.prs C.F g back) t1 t2 (blkL back u) (blkL back u') m))=o by rw[<-HL2.out,hx];rfl);have HHO2:=zh (zol aR.out hr4 t2 _ aG.out);have j2:=fO.out.blk (.inr (.inr ⟨by omega,l2⟩)) K2.out;have q0:w5.cell? ⟨w2.heap.size+1,0,none⟩=some (.int .u8 t2.k):=zc j2 rfl;have q1:w5.cell? ⟨w2.heap.size+1,1,none⟩=some (.int .i64 t2.n):=zc j2 rfl;have q2:w5.cell? ⟨w2.heap.size+1,2,none⟩=some (.string t2.s):=zc j2 rfl;have q3:w5.cell? ⟨w2.heap.size+1,3,none⟩=some (.slice A2 t2.ks.length c2):=zc j2 rfl;clear hx hr4 j2;go_wp2_with fail;refine HHO2.out.mono ?_;rintro e w6 ⟨bJ,hb6,jW⟩;have eQ:=zh (fO.out.trans bJ)
     have bC:=zh (show Below C.w.heap.size C.w w6 from hb6);clear q0 q1 q2 q3 bJ hb6 HHO2;rcases jW with⟨x,rfl,hx⟩|⟨b,r5,rfl,kI,hx⟩
     ·refine⟨rfl,bV.out.trans (Kpt.less (C:=C) eQ.out),bC.out,?_⟩
      try rw[bQ.out]
      rw[<-yl.out,show ∀f,zk8 C.F t2 r4 f=.err x from hx]
     ·have di:=zh kI;have HL4:=zh (show(if b=true then .ok r5 else(runO C.p.prs C.F g back u' r5).bind fun r=>(zkq C.F t1 false r).bind (zlT C.F (zku C.p.prs C.F g back) t1 t2 (blkL back u) (blkL back u') m))=o by rw[<-yl.out,show ∀f,zk8 C.F t2 r4 f=f b r5 from hx]);have HUP2:=zh (zom (t:=t2) (F:=C.F) (r:=r4) (m:=r4.n+1) (f:=fun _ r=>.ok r) (fun b r' h r'' e=>by injection e with e;subst e;exact h) r5 (hx _));clear hx kI
      cases b
      ·have wJ:=zh (show(runO C.p.prs C.F g back u' r5).bind (fun r=>(zkq C.F t1 false r).bind (zlT C.F (zku C.p.prs C.F g back) t1 t2 (blkL back u) (blkL back u') m))=o from HL4.out);have hgu:runO C.p.prs C.F g back u' r5 ≠ .gas:=fun e=>bu.out (by rw[<-wJ.out,e];rfl);have av:=zh (zle HS.out aR.out di.out u' _ back HNU'.out HG2.out hgu);have j0:=eQ.out.blk (.inr (.inr ⟨by omega,l0⟩)) K0.out;have z3:w6.cell? ⟨W.heap.size,3,none⟩=some (.slice (some a) t.ks.length c):=zc j0 rfl;obtain⟨-,q0,q1,q2,q3⟩:=HPP.out w6 bC.out;clear hgu j0;go_wp2_with fail;refine av.out.mono ?_;rintro e w7 ⟨mH,dN,ho7⟩;have ym:=zh (eQ.out.trans mH);have kG:=zh (show Below C.w.heap.size C.w w7 from dN);have o8:match runO C.p.prs C.F g back u' r5 with
        | .gas=>True
        | .err x=>e=zly x
        | .ok r=>(∃u,e=.returned u)/\RI (C.plus W.heap.size hi) w7 r:=ho7
       clear q0 q1 q2 q3 z3 mH dN ho7 av
       cases hx:runO C.p.prs C.F g back u' r5 with
       | gas=>exact absurd (by rw[<-wJ.out,hx];rfl) bu.out
       | err x =>
        rw[hx]at o8;subst o8;refine⟨rfl,bV.out.trans (Kpt.less (C:=C) ym.out),kG.out,?_⟩
        try rw[bQ.out]
        rw[<-wJ.out,hx];rfl
       | ok r6 =>
        rw[hx]at o8;obtain⟨⟨u2,rfl⟩,dx⟩:=o8;have HUP3:=zh (zmM (fun t r=>znW g back t r) (blkL back u') r5 r6 hx);have Cm:=zh (show(zkq C.F t1 false r6).bind (zlT C.F (zku C.p.prs C.F g back) t1 t2 (blkL back u) (blkL back u') m)=o by rw[<-wJ.out,hx];rfl);have HAS:=zh (zmN aR.out dx t1 _ fE.out false);have j1:=ym.out.blk (.inr (.inr ⟨by omega,l1⟩)) K1.out;have q0:w7.cell? ⟨w2.heap.size,0,none⟩=some (.int .u8 t1.k):=zc j1 rfl;have q1:w7.cell? ⟨w2.heap.size,1,none⟩=some (.int .i64 t1.n):=zc j1 rfl;have q2:w7.cell? ⟨w2.heap.size,2,none⟩=some (.string t1.s):=zc j1 rfl;have q3:w7.cell? ⟨w2.heap.size,3,none⟩=some (.slice A1 t1.ks.length c1):=zc j1 rfl;clear hx dx j1;go_wp2_with fail;refine HAS.out.mono ?_;rintro e w8 ⟨lK,eZ,qG⟩;have wL:=zh (ym.out.trans lK);have iT:=zh (show Below C.w.heap.size C.w w8 from eZ)
        have cK:match zkq C.F t1 false r6 with
         | .gas=>True
         | .err x=>e=zly x
         | .ok r=>(∃u,e=.returned u)/\RI (C.plus W.heap.size hi) w8 r:=qG
        clear q0 q1 q2 q3 lK eZ qG HAS
        cases hy:zkq C.F t1 false r6 with
        | gas=>exact absurd (by rw[<-Cm.out,hy];rfl) bu.out
        | err x =>
         rw[hy]at cK;subst cK;refine⟨rfl,bV.out.trans (Kpt.less (C:=C) wL.out),iT.out,?_⟩
         try rw[bQ.out]
         rw[<-Cm.out,hy];rfl
        | ok r7 =>
         rw[hy]at cK;obtain⟨⟨u3,rfl⟩,eX⟩:=cK;have eP:=zh eX;have HL7:=zh (show zlT C.F (zku C.p.prs C.F g back) t1 t2 (blkL back u) (blkL back u') m r7=o by rw[<-Cm.out,hy];rfl);have hmm:C.F.toNat-stp C.rb w8<C.F.toNat-stp C.rb wr:=by
          have e1:stp C.rb w8=r7.n:=zxy (C:=C.plus W.heap.size hi) eP.out;have e2:stp C.rb wr=r3.n:=zxy (C:=C.plus W.heap.size hi) HR.out;obtain⟨e3,e4⟩:=znB hy;have e5:=wC.out;have e6:=HUP2.out;have e7:=HUP3.out;have e8:r7.n=r6.n+1:=by rw[e3]
          omega
         have wI:=zh hmm;clear eX hy hmm;go_wp2_with fail
         go_roundw
         case rel=>exact⟨m,r7,eP,wL,HL7⟩
         case measure=>exact wI.out
      ·have wJ:=zh (show o=.ok r5 from HL4.out.symm);have oD:=zh di.out.less;go_wp2_with fail;go_end0;refine⟨bV.out.trans (Kpt.less (C:=C) eQ.out),bC.out,?_⟩
       try rw[bQ.out]
       rw[wJ.out];exact⟨⟨_,rfl⟩,oD.out⟩
section
variable {C:RC} {W W':World} {r:RS} {S':ST}
theorem RI.store(h:RI C W r)(hk:KS C.w C.n0 C.sb (fun b=>C.kb b\/b=C.rb\/C.ev.ownBlock=some b) W' S')(hp:Kpt C.n0 (fun b=>C.kb b\/b=C.rb\/C.ev.ownBlock=some b) W W')(hf:FB r.n S') :
  RI C W' { r with S:=S' }/\Kpt C.n0 C.kb W W' :=
 ⟨⟨hk,hp.blk (.inr (.inr (.inl rfl))) h.box,znx h.ent fun b hb=>hp.kept b (h.ent.lt b hb).2 (.inr (.inr (.inr hb))),h.el,h.en,h.n,hf⟩,⟨hp.size,fun b hb hk=>hp.kept b hb (hk.imp id .inl)⟩⟩
end
theorem FB.fr{j:Nat}{S S':ST}(h:FB j S)(hf:FrK S S'):FB (j+1) S':=by
 obtain⟨h1,h2,_⟩:=hf;unfold FB;rw[h1,h2];exact h.mono (Nat.le_succ _)
theorem FB.cur{j:Nat}{S:ST}(h:FB j S):S.cur.vs.length<=1000+j:=by
 rcases Nat.eq_zero_or_pos S.calls.length with h0|h0
 ·rw[zne h0];have:=h.1;omega
 ·rw[znd h0];exact h.2 _ (List.getElem_mem _)
theorem FB.setCur{j:Nat}{S:ST}(h:FB j S)(f:FR)(hf:f.vs.length<=S.cur.vs.length+1):FB (j+1) (S.setCur f):=by
 unfold ST.setCur;by_cases h0:S.calls.length=0
 ·rw[if_pos h0];rw[zne h0]at hf;exact⟨by have:=h.1;show f.vs.length<=_;omega,(h.mono (Nat.le_succ _)).2⟩
 ·rw[if_neg h0];refine⟨(h.mono (Nat.le_succ _)).1,fun g hg=>?_⟩;rw[znd (by omega)]at hf;rcases List.mem_or_eq_of_mem_set hg with hg|rfl
  ·exact(h.mono (Nat.le_succ _)).2 g hg
  ·have:=h.2 _ (List.getElem_mem (l:=S.calls) (n:=S.calls.length-1) (by omega));omega
theorem FB.open_{j:Nat}{S:ST}(h:FB j S)(v:VD)(x:Int):FB (j+1) (zl4 S v x).2:=by
 unfold zl4
 repeat' split
 all_goals first|exact h.mono (Nat.le_succ _)|exact FB.setCur (S:=S.newCell _) h _ (by rw[zmT];simp[FR.push])
theorem FB.close_{j:Nat}{S:ST}(h:FB j S)(s:ByteArray)(x:Int):FB (j+1) (zlf S s x).2:=by
 unfold zlf
 repeat' split
 all_goals first|exact h.mono (Nat.le_succ _)|skip
 all_goals exact h.setCur _ (by simp[FR.pop];omega)
theorem FB.enter{j:Nat}{S:ST}(h:FB j S)(ps:List VD)(ss:List ByteArray)(hp:ps.length<=1000):FB (j+1) (zl8 S ps ss).2:=by
 unfold zl8
 split
 ·exact h.mono (Nat.le_succ _)
 ·rcases he:entL S.cur ⟨[],[],0⟩ (ps.zip ss)with e|f
  ·exact h.mono (Nat.le_succ _)
  ·unfold entR;dsimp only
   split
   ·exact h.mono (Nat.le_succ _)
   ·refine⟨(h.mono (Nat.le_succ _)).1,fun g hg=>?_⟩;rcases List.mem_append.1 hg with hg|hg
    ·exact(h.mono (Nat.le_succ _)).2 g hg
    ·simp at hg;subst hg;have:=zse _ _ _ he;simp at this;omega
theorem FB.leave{j:Nat}{S:ST}(h:FB j S):FB (j+1) (zml S).2:=by
 unfold zml
 split
 ·exact h.mono (Nat.le_succ _)
 ·exact⟨(h.mono (Nat.le_succ _)).1,fun g hg=>(h.mono (Nat.le_succ _)).2 g (List.mem_of_mem_take hg)⟩
theorem FB.do_{j:Nat}{S:ST}(h:FB j S)(t:T):FB (j+1) (doE S t).2:=h.fr (zxI _ _)
theorem FB.undo{j:Nat}{S:ST}(h:FB j S)(t:T):FB (j+1) (zoK S t).2:=h.fr (zvO _ _)
theorem zk5{P:Program}{ops:Array Oper}{o:Oper}{a:Act}{w:World}{K:Act->World->Prop}{Q:Exit->Act->World->Prop}{F:Prop}(hw:Region.wanted o (yielded ops a.tmps)=true)(x:Operand)(xs:List Operand)(ats:Array TypeId)
  (ho:o.op=.call { callee:=.value x,args:=xs.toArray,argTypes:=ats })(f:FuncId)(fn:Func)(hf:IsFn P f fn)(hv:a.eval x=.func (.func f) #[] #[])(l:List Value)(hargs:xs.map a.eval=l)(R:Value->World->Prop)
  (hc:Calls P f l.toArray w fun e w'=>(∃v,e=.returned v/\R v w')\/∃ch,e=.panicked ch/\Q (.panic ch) a w')(h:∀v w',R v w'->K (a.put o.dst v) w') :
  if Region.wanted o (yielded ops a.tmps)=true then Oper.wp P o a w K Q else F:=by
 rw[if_pos hw];subst hargs;have e:(execOp a.eval o).run P w=.ok (.enter f (xs.map a.eval).toArray) w:=by
  unfold execOp;simp only[ho,resolve,hv,Deferred.ofValue,Sem.run_bind,Sem.run_pure,Result.andThen_ok,invoke,zkG hf,Array.empty_append,List.map_toArray,Array.append_empty]
 unfold Oper.wp;rw[e,Oper.upon_enter];refine hc.mono ?_;rintro e w' (⟨v,rfl,hR⟩|⟨ch,rfl,hq⟩)
 ·exact h v w' hR
 ·exact hq
end
end Go.Proofs.YthjinpodhacleaaGreat
