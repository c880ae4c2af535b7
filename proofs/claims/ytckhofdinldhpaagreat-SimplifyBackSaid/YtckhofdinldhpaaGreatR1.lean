/-
  Texts of the proof, put together without their remarks: Tree, Laws, Own, Lex, Name, Spec, InvW, Pi, Bld, App, RowI, Stp, Rg.
-/
import Derived.WalkKit
import Derived.WalkSpells
import Derived.WalkLawsBesides
import Derived.Lib.Hide
import Derived.Maps.AppendAt
import Derived.Test.YtckhofdinldhpaaGreatProg
import Derived.MapKept
import Derived.KernelRfl
import Derived.Deep.RegionHeld3
set_option linter.unusedSimpArgs false
set_option linter.unusedVariables false
set_option maxHeartbeats 8000000
set_option maxRecDepth 100000
namespace Go.Proofs.YtckhofdinldhpaaGreat
theorem zA.{u} {α : Type u} {xs : List α} {i : Nat} (h : i < xs.toArray.size) : xs.toArray[i] = xs[i]'h := rfl
theorem zB.{u} {α : Type u} (a : α) (ys : List α) (i : Nat) (h : i + 1 < (a :: ys).length) : (a :: ys)[i + 1] = ys[i]'(Nat.lt_of_succ_lt_succ h) := rfl
theorem zC.{u} {α : Type u} (a : α) (ys : List α) (h : 0 < (a :: ys).length) : (a :: ys)[0] = a := rfl
theorem zD.{u} {α : Type u} (l : List α) (i : Nat) (a : α) : l.toArray.setIfInBounds i a = (l.set i a).toArray := List.setIfInBounds_toArray l i a
theorem zE.{u} {α : Type u} (x : α) (xs : List α) (a : α) : (x :: xs).set 0 a = a :: xs := rfl
theorem zF.{u} {α : Type u} (x : α) (xs : List α) (n : Nat) (a : α) : (x :: xs).set (n + 1) a = x :: xs.set n a := rfl
theorem zh {p : Prop} (h : p) : Go.RowKit.Hid p := h
theorem zP : (∀ {α : Type} {xs : List α} {i : Nat} (h : i < xs.toArray.size), xs.toArray[i] = xs[i]'h) ∧ (∀ {α : Type} (a : α) (ys : List α) (i : Nat) (h : i + 1 < (a :: ys).length), (a :: ys)[i + 1] = ys[i]'(Nat.lt_of_succ_lt_succ h)) ∧ (∀ {α : Type} (a : α) (ys : List α) (h : 0 < (a :: ys).length), (a :: ys)[0] = a) ∧ (∀ {α : Type} (l : List α) (i : Nat) (a : α), l.toArray.setIfInBounds i a = (l.set i a).toArray) ∧ (∀ {α : Type} (x : α) (xs : List α) (a : α), (x :: xs).set 0 a = a :: xs) ∧ ∀ {α : Type} (x : α) (xs : List α) (n : Nat) (a : α), (x :: xs).set (n + 1) a = x :: xs.set n a := ⟨fun h => rfl, fun _ _ _ _ => rfl, fun _ _ _ => rfl, fun l i a => List.setIfInBounds_toArray l i a, fun _ _ _ => rfl, fun _ _ _ _ => rfl⟩
theorem zQ : (∀ (a : Act) (d : Nat) (v : Value), a.put (some d) v = { a with tmps := a.tmps.setIfInBounds d v }) ∧ (∀ (a : Act) (v : Value), a.put none v = a) ∧ (∀ {α : Type} {xs : List α} {i : Nat} (h : i < xs.toArray.size), xs.toArray[i] = xs[i]'h) ∧ (∀ {α : Type} (a : α) (ys : List α) (i : Nat) (h : i + 1 < (a :: ys).length), (a :: ys)[i + 1] = ys[i]'(Nat.lt_of_succ_lt_succ h)) ∧ (∀ {α : Type} (a : α) (ys : List α) (h : 0 < (a :: ys).length), (a :: ys)[0] = a) ∧ (∀ {α : Type} (l : List α) (i : Nat) (a : α), l.toArray.setIfInBounds i a = (l.set i a).toArray) ∧ (∀ {α : Type} (x : α) (xs : List α) (a : α), (x :: xs).set 0 a = a :: xs) ∧ ∀ {α : Type} (x : α) (xs : List α) (n : Nat) (a : α), (x :: xs).set (n + 1) a = x :: xs.set n a := ⟨fun _ _ _ => rfl, fun _ _ => rfl, fun h => rfl, fun _ _ _ _ => rfl, fun _ _ _ => rfl, fun l i a => List.setIfInBounds_toArray l i a, fun _ _ _ => rfl, fun _ _ _ _ => rfl⟩
end Go.Proofs.YtckhofdinldhpaaGreat
namespace Go.Proofs.YtckhofdinldhpaaGreat
open Go.RowKit
inductive T where
 | nd (k n:Int) (s:ByteArray) (ks:List T)
namespace T
def k:T->Int|.nd k _ _ _=>k
def n:T->Int|.nd _ n _ _=>n
def s:T->ByteArray|.nd _ _ s _=>s
def ks:T->List T|.nd _ _ _ ks=>ks
@[simp] theorem k_nd (k n:Int) (s:ByteArray) (ks:List T):(T.nd k n s ks).k=k:=rfl
@[simp] theorem n_nd (k n:Int) (s:ByteArray) (ks:List T):(T.nd k n s ks).n=n:=rfl
@[simp] theorem s_nd (k n:Int) (s:ByteArray) (ks:List T):(T.nd k n s ks).s=s:=rfl
@[simp] theorem ks_nd (k n:Int) (s:ByteArray) (ks:List T):(T.nd k n s ks).ks=ks:=rfl
theorem ind {p:T->Prop} (h:∀ k n s ks,(∀ t∈ks,p t)->p (.nd k n s ks)):∀ t,p t
 | .nd k n s ks=>h k n s ks fun t _=>ind h t
end T
theorem zzl (a b:ByteArray):(a==b)=(a.toList==b.toList):=by
 rw[Go.ByteArray.toList_eq,Go.ByteArray.toList_eq]
 show ByteArray.beq a b=_
 unfold ByteArray.beq;simp
theorem zLc {a b:ByteArray} (h:a.toList=b.toList):a=b:=by
 rw[Go.ByteArray.toList_eq,Go.ByteArray.toList_eq] at h;exact ByteArray.ext (Array.ext' h)
def LK:Nat:=2513169434916
theorem zt8 {n:Nat} (h:n<=LK):n*56<=140737488355328:=by unfold LK at h;omega
theorem zwS {n:Nat} (h:n<=LK):n<=maxLen:=by unfold LK at h;unfold maxLen;omega
theorem zkx {n:Nat} (h:n<=LK):n<=2513169434916:=h
def Fld (k n:Int) (s:ByteArray):Prop:=(0<=k/\k<256)/\(-9223372036854775808<=n/\n<=9223372036854775807)/\s.size<=maxLen
structure zuP (w:World) (p:Addr) (u0 u1 u2 u3:Value):Prop where
 c0:w.cell? p=some u0
 c1:w.cell? ⟨p.block,p.off+1,none⟩=some u1
 c2:w.cell? ⟨p.block,p.off+2,none⟩=some u2
 c3:w.cell? ⟨p.block,p.off+3,none⟩=some u3
abbrev nv (k n:Int) (s:ByteArray) (A:Option Addr) (l c:Nat):Value:=.agg #[.int .u8 k,.int .i64 n,.string s,.slice A l c]
inductive NV (w:World) (S:Nat->Prop):T->Value->Prop
 | mk (k n:Int) (s:ByteArray) (ks:List T) (A:Option Addr) (c:Nat) (a:Addr) (U0 U1 U2 U3:Nat->Value) (hf:Fld k n s) (hlk:ks.length<=LK) (hlc:ks.length<=c)
   (hA:0<ks.length->A=some a/\S a.block) (hc:∀ i,i<ks.length->zuP w (a.add (i*4)) (U0 i) (U1 i) (U2 i) (U3 i))
   (hk:∀ i (hi:i<ks.length),NV w S ks[i] (.agg #[U0 i,U1 i,U2 i,U3 i])):NV w S (.nd k n s ks) (nv k n s A ks.length c)
def zkX (w:World) (S:Nat->Prop) (A:Option Addr) (ts:List T):Prop :=
 ∀ i (hi:i<ts.length),∃ (a:Addr) (u0 u1 u2 u3:Value),A=some a/\S a.block/\zuP w (a.add (i*4)) u0 u1 u2 u3/\NV w S ts[i] (.agg #[u0,u1,u2,u3])
theorem NV.open_ {w:World} {S:Nat->Prop} {t:T} {v:Value} (h:NV w S t v) :
  ∃ A c,v=nv t.k t.n t.s A t.ks.length c/\Fld t.k t.n t.s/\t.ks.length<=LK/\t.ks.length<=c/\zkX w S A t.ks:=by
 cases h with
 | mk k n s ks A c a U0 U1 U2 U3 hf hlk hlc hA hc hk =>
  refine⟨A,c,rfl,hf,hlk,hlc,fun i hi=>?_⟩;obtain⟨h1,h2⟩:=hA (by simp at hi;omega);exact⟨a,U0 i,U1 i,U2 i,U3 i,h1,h2,hc i hi,hk i hi⟩
theorem zkX.get {w:World} {S:Nat->Prop} {A:Option Addr} {ts:List T} (h:zkX w S A ts) {i:Nat} (hi:i<ts.length) :
  ∃ (a:Addr) (t:T) (A':Option Addr) (c':Nat),A=some a/\S a.block/\Hid (ts[i]=t)/\w.cell? (a.add (i*4))=some (.int .u8 t.k)/\w.cell? ⟨(a.add (i*4)).block,(a.add (i*4)).off+1,none⟩=some (.int .i64 t.n) /\
   w.cell? ⟨(a.add (i*4)).block,(a.add (i*4)).off+2,none⟩=some (.string t.s)/\w.cell? ⟨(a.add (i*4)).block,(a.add (i*4)).off+3,none⟩=some (.slice A' t.ks.length c')/\NV w S t (nv t.k t.n t.s A' t.ks.length c'):=by
 obtain⟨a,u0,u1,u2,u3,hA,hS,hc,hn⟩:=h i hi;obtain⟨A',c',e,_⟩:=hn.open_;injection e with e;simp only[Array.mk.injEq,List.cons.injEq,and_true] at e;obtain⟨rfl,rfl,rfl,rfl⟩:=e;exact⟨a,ts[i],A',c',hA,hS,rfl,hc.c0,hc.c1,hc.c2,hc.c3,hn⟩
abbrev Nd4 (w:World) (p:Addr) (t:T) (A:Option Addr) (c:Nat):Prop :=
 w.cell? p=some (.int .u8 t.k)/\w.cell? ⟨p.block,p.off+1,none⟩=some (.int .i64 t.n)/\w.cell? ⟨p.block,p.off+2,none⟩=some (.string t.s)/\w.cell? ⟨p.block,p.off+3,none⟩=some (.slice A t.ks.length c)
theorem zke {w:World} {p:Addr} {u:Value} (h:w.cell? p=some u) (o:Obj):(w.alloc o).cell? p=some u:=(World.cell?_alloc_lt w o p (World.block_lt_of_cell? w p h)).trans h
theorem zb {w w':World} {p:Addr} {u:Value} (hb:Below w.heap.size w w') (h:w.cell? p=some u):w'.cell? p=some u:=(hb.cell (World.block_lt_of_cell? w p h)).trans h
theorem zl3 {w w':World} {p:Addr} {t:T} {A:Option Addr} {c:Nat} (hb:Below w.heap.size w w') (h:Nd4 w p t A c):Nd4 w' p t A c:=⟨zb hb h.1,zb hb h.2.1,zb hb h.2.2.1,zb hb h.2.2.2⟩
theorem zkX.nd {w:World} {S:Nat->Prop} {A:Option Addr} {ts:List T} (h:zkX w S A ts) {i:Nat} (hi:i<ts.length) :
  ∃ (a:Addr) (t:T) (A':Option Addr) (c':Nat),A=some a/\S a.block/\Hid (ts[i]=t)/\Nd4 w (a.add (i*4)) t A' c'/\NV w S t (nv t.k t.n t.s A' t.ks.length c'):=by
 obtain⟨a,t,A',c',h1,h2,h3,h4,h5,h6,h7,h8⟩:=h.get hi;exact⟨a,t,A',c',h1,h2,h3,⟨h4,h5,h6,h7⟩,h8⟩
theorem zKb {n:Nat} {p:Nat->Value->Value->Value->Value->Prop} (h:∀ i,i<n->∃ u0 u1 u2 u3,p i u0 u1 u2 u3) :
  ∃ U0 U1 U2 U3:Nat->Value,∀ i,i<n->p i (U0 i) (U1 i) (U2 i) (U3 i):=by
 classical
 refine⟨fun i=>if h':i<n then (h i h').choose else .nilFunc,fun i=>if h':i<n then (h i h').choose_spec.choose else .nilFunc,
  fun i=>if h':i<n then (h i h').choose_spec.choose_spec.choose else .nilFunc,fun i=>if h':i<n then (h i h').choose_spec.choose_spec.choose_spec.choose else .nilFunc,fun i hi=>?_⟩
 simp only[hi,dif_pos];exact(h i hi).choose_spec.choose_spec.choose_spec.choose_spec
theorem NV.shut {w:World} {S:Nat->Prop} {k n:Int} {s:ByteArray} {ks:List T} {A:Option Addr} {c:Nat} (hf:Fld k n s) (hlk:ks.length<=LK) (hlc:ks.length<=c)
  (h:zkX w S A ks):NV w S (.nd k n s ks) (nv k n s A ks.length c):=by
 rcases Nat.eq_zero_or_pos ks.length with h0|h0
 ·exact .mk k n s ks A c default (fun _=>.nilFunc) (fun _=>.nilFunc) (fun _=>.nilFunc) (fun _=>.nilFunc) hf hlk hlc (fun h=>absurd h (by omega)) (fun i hi=>absurd hi (by omega)) (fun i hi=>absurd hi (by omega))
 ·obtain⟨a,_,_,_,_,hA,hS,_⟩:=h 0 h0;have h':∀ i,i<ks.length->∃ u0 u1 u2 u3,zuP w (a.add (i*4)) u0 u1 u2 u3/\∀ hi:i<ks.length,NV w S ks[i] (.agg #[u0,u1,u2,u3]):=by
   intro i hi;obtain⟨a',u0,u1,u2,u3,hA',_,hc,hk⟩:=h i hi;rw[hA] at hA';injection hA' with e;subst e;exact⟨u0,u1,u2,u3,hc,fun _=>hk⟩
  obtain⟨U0,U1,U2,U3,hU⟩:=zKb h';exact .mk k n s ks A c a U0 U1 U2 U3 hf hlk hlc (fun _=>⟨hA,hS⟩) (fun i hi=>(hU i hi).1) (fun i hi=>(hU i hi).2 hi)
section
variable {w w':World} {S S':Nat->Prop} {t:T} {v:Value} {A:Option Addr} {ts:List T}
theorem zuP.keep {p:Addr} {u0 u1 u2 u3:Value} (h:zuP w p u0 u1 u2 u3) (hk:w'.heap[p.block]?=w.heap[p.block]?):zuP w' p u0 u1 u2 u3 :=
 ⟨(World.cell?_of_block (a:=p) hk).trans h.c0,(World.cell?_of_block (a:=⟨p.block,p.off+1,none⟩) hk).trans h.c1,(World.cell?_of_block (a:=⟨p.block,p.off+2,none⟩) hk).trans h.c2,
  (World.cell?_of_block (a:=⟨p.block,p.off+3,none⟩) hk).trans h.c3⟩
theorem zkW (a:Addr) (n:Nat):(a.add n).block=a.block:=by unfold Addr.add;split<;>rfl
theorem NV.keep (h:NV w S t v) (hS:∀ b,S b->b<w.heap.size->S' b) (hk:∀ b,S b->b<w.heap.size->w'.heap[b]?=w.heap[b]?):NV w' S' t v:=by
 induction h with
 | mk k n s ks A c a U0 U1 U2 U3 hf hlk hlc hA hc _ ih =>
  have hlt:∀ i,i<ks.length->a.block<w.heap.size:=fun i hi=>by
   have:=World.block_lt_of_cell? w _ (hc i hi).c0;rwa[zkW] at this
  exact .mk k n s ks A c a U0 U1 U2 U3 hf hlk hlc (fun h=>⟨(hA h).1,hS _ (hA h).2 (hlt 0 h)⟩)
   (fun i hi=>(hc i hi).keep (by rw[zkW];exact hk _ (hA (by omega)).2 (hlt i hi))) ih
theorem zkX.keep (h:zkX w S A ts) (hS:∀ b,S b->b<w.heap.size->S' b) (hk:∀ b,S b->b<w.heap.size->w'.heap[b]?=w.heap[b]?):zkX w' S' A ts:=by
 intro i hi;obtain⟨a,u0,u1,u2,u3,hA,iZ,hc,hn⟩:=h i hi;have hlt:a.block<w.heap.size:=by
  have:=World.block_lt_of_cell? w _ hc.c0;rwa[zkW] at this
 exact⟨a,u0,u1,u2,u3,hA,hS _ iZ hlt,hc.keep (by rw[zkW];exact hk _ iZ hlt),hn.keep hS hk⟩
abbrev Any:Nat->Prop:=fun _=>True
abbrev From (B:Nat):Nat->Prop:=fun b=>B<=b
theorem NV.any (h:NV w S t v):NV w Any t v:=h.keep (fun _ _ _=>trivial) (fun _ _ _=>rfl)
theorem NV.mono (h:NV w S t v) (hS:∀ b,S b->S' b):NV w S' t v:=h.keep (fun b hb _=>hS b hb) (fun _ _ _=>rfl)
theorem NV.later (h:NV w S t v) (hb:Below w.heap.size w w'):NV w' S t v:=h.keep (fun _ hb _=>hb) (fun b _ hlt=>hb.block b hlt)
theorem zkX.later (h:zkX w S A ts) (hb:Below w.heap.size w w'):zkX w' S A ts:=h.keep (fun _ hb _=>hb) (fun b _ hlt=>hb.block b hlt)
theorem zkX.mono (h:zkX w S A ts) (hS:∀ b,S b->S' b):zkX w S' A ts:=h.keep (fun b hb _=>hS b hb) (fun _ _ _=>rfl)
theorem zkX.nil:zkX w S A []:=fun i hi=>absurd hi (by simp)
end
#print axioms NV.keep
end Go.Proofs.YtckhofdinldhpaaGreat
namespace Go.Proofs.YtckhofdinldhpaaGreat
open Go.RowKit
structure IsFn (P:Program) (f:FuncId) (fn:Func):Prop where
 at_:P.funcs[f]?=some fn
 name : (fn.name == "runtime.NumGoroutine") = false
 body:fn.body.isNone=false
theorem zkP {P:Program} {f:FuncId} {fn:Func} (h:IsFn P f fn) (args:Array Value) (w:World):(callFunc f args).run P w=.ok (.enter f args) w:=by
 have h1:=h.name;have h2:=h.body;unfold callFunc;simp only[Sem.run_bind,program,Sem.run,Result.andThen_ok,h.at_,h1,h2];rfl
def OwnN (w:World) (base:Nat) (E:TypeId) (S:Nat->Prop) (v:Value) (ts:List T):Prop :=
 ∃ xs,w.ownsRow base E 4 v ts.length xs/\ts.length<=LK/\∀ i (hi:i<ts.length),∃ u0 u1 u2 u3,xs[i*4]?=some u0/\xs[i*4+1]?=some u1/\xs[i*4+2]?=some u2/\xs[i*4+3]?=some u3 /\
  NV w (fun b=>S b/\some b≠v.ownBlock) ts[i] (.agg #[u0,u1,u2,u3])
section
variable {w w':World} {base:Nat} {E:TypeId} {S S':Nat->Prop} {v:Value} {ts:List T}
theorem OwnN.nil (w:World) (base:Nat) (E:TypeId) (S:Nat->Prop):OwnN w base E S (.slice none 0 0) []:=⟨[],World.ownsRow_nil w base E 4,Nat.zero_le _,fun i hi=>absurd hi (by simp)⟩
theorem OwnN.later (h:OwnN w base E S v ts) (hb:Below w.heap.size w w'):OwnN w' base E S v ts:=by
 obtain⟨xs,ho,hl,hn⟩:=h;refine⟨xs,ho.kept (row:=none) ⟨hb.os,hb.tape,hb.output,hb.size,fun k hk _=>hb.block k hk⟩ (by cases v.ownBlock<;>simp),hl,fun i hi=>?_⟩;obtain⟨u0,u1,u2,u3,h0,h1,h2,h3,hv⟩:=hn i hi;exact⟨u0,u1,u2,u3,h0,h1,h2,h3,hv.later hb⟩
theorem OwnN.grown (h:OwnN w base E S v ts) {row:Option Nat} (hg:w.grownBy w' row) (hr:∀ g,row=some g->¬ S g/\v.ownBlock≠some g):OwnN w' base E S v ts:=by
 obtain⟨xs,ho,hl,hn⟩:=h;have hne:v.ownBlock=none\/v.ownBlock≠row:=by
  cases row with
  | none=>cases v.ownBlock<;>simp
  | some g=>exact .inr (hr g rfl).2
 refine⟨xs,ho.kept hg hne,hl,fun i hi=>?_⟩;obtain⟨u0,u1,u2,u3,h0,h1,h2,h3,hv⟩:=hn i hi;refine⟨u0,u1,u2,u3,h0,h1,h2,h3,hv.keep (fun b hb _=>hb) (fun b hb hlt=>hg.block b hlt ?_)⟩;intro e;exact(hr b e.symm).1 hb.1
theorem OwnN.lk (h:OwnN w base E S v ts):ts.length<=LK:=let ⟨_,_,hl,_⟩:=h;hl
theorem OwnN.block (h:OwnN w base E S v ts):∀ k,v.ownBlock=some k->base<=k/\k<w.heap.size:=let ⟨_,ho,_,_⟩:=h;ho.lt
theorem OwnN.row (h:OwnN w base E S v ts):∃ A c,v=.slice A ts.length c/\ts.length<=c/\zkX w (fun b=>S b\/v.ownBlock=some b) A ts/\(∀ a,A=some a->∃ g,a=⟨g,0,none⟩/\base<=g/\g<w.heap.size/\v.ownBlock=some g):=by
 obtain⟨xs,ho,hl,hn⟩:=h;rcases ho.2 with⟨rfl,h0⟩|⟨g,cap,cur,rfl,hb,hg,hc,hm,hz,hx⟩
 ·exact⟨none,0,by rw[h0],by omega,fun i hi=>absurd hi (by omega),fun a h=>by cases h⟩
 ·refine⟨some ⟨g,0,none⟩,cap,rfl,hc,fun i hi=>?_,fun a h=>by injection h with h;exact⟨g,h.symm,hb,(Array.getElem?_eq_some_iff.1 hg).1,rfl⟩⟩;obtain⟨u0,u1,u2,u3,h0,h1,h2,h3,hv⟩:=hn i hi;have hcell:∀ j u,j<4->xs[i*4+j]?=some u->w.cell? ⟨g,i*4+j,none⟩=some u:=by
   intro j u hj hu;rw[ho.cellAt (i*4+j) (by omega)];exact hu
  refine⟨⟨g,0,none⟩,u0,u1,u2,u3,rfl,.inr rfl,?_,hv.mono fun b hb=>.inl hb.1⟩;have ha:(⟨g,0,none⟩:Addr).add (i*4)=⟨g,i*4,none⟩:=by unfold Addr.add;split<;>simp_all
  rw[ha];exact⟨hcell 0 u0 (by omega) h0,hcell 1 u1 (by omega) h1,hcell 2 u2 (by omega) h2,hcell 3 u3 (by omega) h3⟩
end
theorem znD (k n:Int) (s:ByteArray) (A:Option Addr) (l c:Nat):∀ u∈[Value.int .u8 k,.int .i64 n,.string s,.slice A l c],u.oneCell'=true:=by
 intro u hu;simp at hu;rcases hu with rfl|rfl|rfl|rfl<;>rfl
theorem ztx (W:World) (E:TypeId) (u0 u1 u2 u3:Value):∀ j u,[u0,u1,u2,u3][j]?=some u->(W.alloc (.cells #[u0,u1,u2,u3] E)).cell? ((⟨W.heap.size,0,none⟩:Addr).add j)=some u:=by
 intro j u hj;have hh:(W.alloc (.cells #[u0,u1,u2,u3] E)).heap[W.heap.size]?=some (.cells #[u0,u1,u2,u3] E (0,0)):=heap_alloc_new W _;have ha:(⟨W.heap.size,0,none⟩:Addr).add j=⟨W.heap.size,j,none⟩:=by unfold Addr.add;split<;>simp_all
 rw[ha];simp only[World.cell?,hh];simpa using hj
theorem zk3 (W:World) (E:TypeId) (l:List Value):∀ j u,l[j]?=some u->(W.alloc (.cells l.toArray E)).cell? ((⟨W.heap.size,0,none⟩:Addr).add j)=some u:=by
 intro j u hj;have hh:(W.alloc (.cells l.toArray E)).heap[W.heap.size]?=some (.cells l.toArray E (0,0)):=heap_alloc_new W _;have ha:(⟨W.heap.size,0,none⟩:Addr).add j=⟨W.heap.size,j,none⟩:=by unfold Addr.add;split<;>simp_all
 rw[ha];simp only[World.cell?,hh];simpa using hj
theorem zts {W w':World} {base:Nat} {E:TypeId} {S:Nat->Prop} {v v':Value} {ts:List T} {t:T} {u0 u1 u2 u3:Value} {xs:List Value} {o:Obj}
  (ho:W.ownsRow base E 4 v ts.length xs) (hn:∀ i (hi:i<ts.length),∃ u0 u1 u2 u3,xs[i*4]?=some u0/\xs[i*4+1]?=some u1/\xs[i*4+2]?=some u2/\xs[i*4+3]?=some u3/\NV W (fun b=>S b/\some b≠v.ownBlock) ts[i] (.agg #[u0,u1,u2,u3]))
  (ht:NV W (fun b=>S b/\some b≠v.ownBlock) t (.agg #[u0,u1,u2,u3])) (hlen:ts.length+1<=LK)
  (h2:w'.ownsRow base E 4 v' (ts.length+1) (xs++[u0,u1,u2,u3])) (h3:(W.alloc o).grownBy w' v.ownBlock) (h5:v'.ownBlock=v.ownBlock\/v'.ownBlock=some (W.alloc o).heap.size) :
  OwnN w' base E S v' (ts++[t]):=by
 have hk:∀ {t:T} {u:Value},NV W (fun b=>S b/\some b≠v.ownBlock) t u->NV w' (fun b=>S b/\some b≠v'.ownBlock) t u:=by
  intro t u h;refine h.keep (fun b hb hlt=>⟨hb.1,?_⟩) (fun b hb hlt=>?_)
  ·rcases h5 with h5|h5<;>rw[h5]
   ·exact hb.2
   ·intro e;injection e with e;simp at e;omega
  ·rw[h3.block b (by simp;omega) hb.2];exact Below.heap_alloc W o b hlt
 refine⟨xs++[u0,u1,u2,u3],by simpa using h2,by simpa using hlen,fun i hi=>?_⟩;have hxl:=ho.1;by_cases h:i<ts.length
 ·obtain⟨y0,y1,y2,y3,e0,e1,e2,e3,hv⟩:=hn i h;refine⟨y0,y1,y2,y3,?_,?_,?_,?_,by rw[List.getElem_append_left h];exact hk hv⟩<;>rw[List.getElem?_append_left (by omega)]<;>assumption
 ·have e:i=ts.length:=by simp at hi;omega
  subst e;refine⟨u0,u1,u2,u3,?_,?_,?_,?_,?_⟩
  ·rw[List.getElem?_append_right (by omega)];simp[hxl]
  ·rw[List.getElem?_append_right (by omega)];simp[hxl]
  ·rw[List.getElem?_append_right (by omega)];simp[hxl]
  ·rw[List.getElem?_append_right (by omega)];simp[hxl]
  ·simpa using hk ht
theorem zmm {P:Program} {W:World} {ops:Array Oper} {rest:List Oper} {o:Oper} {a:Act} {Q:Exit->Act->World->Prop} (hgd:o.guard=none) (s x:Operand) (ty:TypeId)
  (ho:o.op=.call { callee:=.builtin .append,args := #[s,x],argTypes := #[ty,ty] }) (E:TypeId) (i:TypeInfo) (z:Value) (ht:P.underlying ty=some (.slice E)) (hi:P.info? E=some i) (hz:i.zero=some z)
  (hsize:i.size=4) (hby:i.bytes=56) (hzs:z.cells.size=4) (base:Nat) (S:Nat->Prop) (v:Value) (ts:List T) (hs:a.eval s=v) (hown:OwnN W base E S v ts)
  (t:T) (k n:Int) (nm:ByteArray) (A:Option Addr) (l c:Nat) (hx:a.eval x=.slice (some ⟨W.heap.size,0,none⟩) 1 1) (hn:NV W (fun b=>S b/\some b≠v.ownBlock) t (nv k n nm A l c)) (hlen:ts.length+1<=LK) (hbase:base<=W.heap.size)
  (h:∀ v' w',OwnN w' base E S v' (ts++[t])->W.grownBy w' v.ownBlock->(v'.ownBlock=v.ownBlock\/∃ g,v'.ownBlock=some g/\W.heap.size<=g)->wpList P ops Q rest (a.put o.dst v') w') :
  wpList P ops Q (o::rest) a (W.alloc (.cells #[.int .u8 k,.int .i64 n,.string nm,.slice A l c] E)):=by
 obtain⟨xs,hrow,_,hns⟩:=hown;refine wpList_append_own_at (P:=P) _ hgd s x ty ho base E i z 4 56 ht hi hz hsize hby hzs (by decide) v ts.length xs hs (hrow.alloc _) ⟨W.heap.size,0,none⟩ 1 1 [.int .u8 k,.int .i64 n,.string nm,.slice A l c] hx (by simp)
  (ztx W E _ _ _ _) (znD k n nm A l c) (zwS hlen) (zt8 hlen) (by simp;omega) ?_
 intro v' w' h2 h3 _ h5;refine h v' w' (zts hrow hns hn hlen h2 h3 h5) ⟨h3.os,h3.tape,h3.output,Nat.le_trans (by simp) h3.size,fun b hb hne=>?_⟩ ?_
 ·rw[h3.block b (by simp;omega) hne];exact Below.heap_alloc W _ b hb
 ·rcases h5 with h5|h5
  ·exact .inl h5
  ·exact .inr ⟨_,h5,by simp⟩
theorem OwnN.nd {w:World} {base:Nat} {E:TypeId} {S:Nat->Prop} {g l cap:Nat} {ts:List T} (h:OwnN w base E S (.slice (some ⟨g,0,none⟩) l cap) ts) {i:Nat} (hi:i<ts.length) :
  ∃ (t:T) (A':Option Addr) (c':Nat),Hid (ts[i]=t)/\w.cell? ⟨g,i*4,none⟩=some (.int .u8 t.k)/\w.cell? ⟨g,i*4+1,none⟩=some (.int .i64 t.n)/\w.cell? ⟨g,i*4+2,none⟩=some (.string t.s)/\w.cell? ⟨g,i*4+3,none⟩=some (.slice A' t.ks.length c') /\
   NV w (fun b=>S b/\some b≠some g) t (nv t.k t.n t.s A' t.ks.length c'):=by
 obtain⟨xs,ho,hl,hn⟩:=h;have hll:ts.length=l:=by
  rcases ho.2 with⟨h,_⟩|⟨_,_,_,h,_⟩
  ·cases h
  ·injection h with _ h _;exact h.symm
 subst hll;obtain⟨u0,u1,u2,u3,h0,h1,h2,h3,hv⟩:=hn i hi;obtain⟨A',c',e,_⟩:=hv.open_;injection e with e;simp only[Array.mk.injEq,List.cons.injEq,and_true] at e;obtain⟨rfl,rfl,rfl,rfl⟩:=e;refine⟨ts[i],A',c',rfl,?_,?_,?_,?_,hv⟩
 ·rw[ho.cellAt _ (by omega)];exact h0
 ·rw[ho.cellAt _ (by omega)];exact h1
 ·rw[ho.cellAt _ (by omega)];exact h2
 ·rw[ho.cellAt _ (by omega)];exact h3
theorem OwnN.frozen {w:World} {base:Nat} {E:TypeId} {S:Nat->Prop} {g l cap:Nat} {ts:List T} (h:OwnN w base E S (.slice (some ⟨g,0,none⟩) l cap) ts) (i:Nat):w.frozen? ⟨g,i,none⟩=false:=by
 obtain⟨xs,ho,_,_⟩:=h;have hll:ts.length=l:=by
  rcases ho.2 with⟨h,_⟩|⟨_,_,_,h,_⟩
  ·cases h
  ·injection h with _ h _;exact h.symm
 subst hll;exact ho.frozenAt i
theorem OwnN.len {w:World} {base:Nat} {E:TypeId} {S:Nat->Prop} {g l cap:Nat} {ts:List T} (h:OwnN w base E S (.slice (some ⟨g,0,none⟩) l cap) ts):ts.length=l/\l<=cap/\base<=g/\g<w.heap.size:=by
 obtain⟨xs,ho,_,_⟩:=h;rcases ho.2 with⟨h,_⟩|⟨g',cap',cur,h,hb,hg,hc,_⟩
 ·cases h
 ·injection h with h1 h2 h3;injection h1 with h1;injection h1 with h1;subst h1;exact⟨h2.symm,by omega,hb,(Array.getElem?_eq_some_iff.1 hg).1⟩
theorem OwnN.set4 {w:World} {base:Nat} {E:TypeId} {S:Nat->Prop} {g l cap:Nat} {ts:List T} (h:OwnN w base E S (.slice (some ⟨g,0,none⟩) l cap) ts) {i:Nat} (hi:i<ts.length) {t:T} {k n:Int} {s:ByteArray} {A:Option Addr} {l' c':Nat}
  (ht:NV w (fun b=>S b/\some b≠some g) t (nv k n s A l' c')) :
  OwnN ((((w.setCell ⟨g,i*4,none⟩ (.int .u8 k)).setCell ⟨g,i*4+1,none⟩ (.int .i64 n)).setCell ⟨g,i*4+2,none⟩ (.string s)).setCell ⟨g,i*4+3,none⟩ (.slice A l' c')) base E S (.slice (some ⟨g,0,none⟩) l cap) (ts.set i t):=by
 obtain⟨xs,ho,hl,hn⟩:=h;have hll:ts.length=l:=by
  rcases ho.2 with⟨h,_⟩|⟨_,_,_,h,_⟩
  ·cases h
  ·injection h with _ h _;exact h.symm
 subst hll;have h1:=((((ho.stored (i*4) (.int .u8 k)).1.stored (i*4+1) (.int .i64 n)).1.stored (i*4+2) (.string s)).1.stored (i*4+3) (.slice A l' c')).1;have hk:∀ {t:T} {u:Value},NV w (fun b=>S b/\some b≠some g) t u->NV ((((w.setCell ⟨g,i*4,none⟩ (.int .u8 k)).setCell ⟨g,i*4+1,none⟩ (.int .i64 n)).setCell ⟨g,i*4+2,none⟩ (.string s)).setCell ⟨g,i*4+3,none⟩ (.slice A l' c')) (fun b=>S b/\some b≠some g) t u:=by
  intro t u hv;refine hv.keep (fun _ hb _=>hb) fun b hb _=>?_;have hne:b≠g:=fun e=>hb.2 (by rw[e]);rw[Below.heap_setCell _ _ _ _ hne,Below.heap_setCell _ _ _ _ hne,Below.heap_setCell _ _ _ _ hne,Below.heap_setCell _ _ _ _ hne]
 have hxl:=ho.1;refine⟨_,by simpa using h1,by simpa using hl,fun q hq=>?_⟩;have hq':q<ts.length:=by simpa using hq
 by_cases e:q=i
 ·subst e;refine⟨.int .u8 k,.int .i64 n,.string s,.slice A l' c',?_,?_,?_,?_,by rw[List.getElem_set_self];exact hk ht⟩<;>simp[List.getElem?_set]<;>omega
 ·obtain⟨u0,u1,u2,u3,g0,g1,g2,g3,hv⟩:=hn q hq';refine⟨u0,u1,u2,u3,?_,?_,?_,?_,by rw[List.getElem_set_ne (by omega)];exact hk hv⟩
  ·rw[List.getElem?_set_ne (by omega),List.getElem?_set_ne (by omega),List.getElem?_set_ne (by omega),List.getElem?_set_ne (by omega)];exact g0
  ·rw[List.getElem?_set_ne (by omega),List.getElem?_set_ne (by omega),List.getElem?_set_ne (by omega),List.getElem?_set_ne (by omega)];exact g1
  ·rw[List.getElem?_set_ne (by omega),List.getElem?_set_ne (by omega),List.getElem?_set_ne (by omega),List.getElem?_set_ne (by omega)];exact g2
  ·rw[List.getElem?_set_ne (by omega),List.getElem?_set_ne (by omega),List.getElem?_set_ne (by omega),List.getElem?_set_ne (by omega)];exact g3
theorem zlu {a w:World} {g:Nat} (h:a.grownBy w (some g)) {p:Addr} (hp:p.block=g) (u:Value):a.grownBy (w.setCell p u) (some g) :=
 ⟨h.os,h.tape,h.output,by simpa[World.setCell] using h.size,fun i hi hne=>(Below.heap_setCell w p u i (by rintro rfl;exact hne (by rw[hp]))).trans (h.block i hi hne)⟩
theorem zlZ (w:World) (row:Option Nat):w.grownBy w row:=⟨rfl,rfl,rfl,Nat.le_refl _,fun _ _ _=>rfl⟩
theorem zvv {a w:World} {row:Option Nat} (h:a.grownBy w row):a.grownBy w.drew row:=⟨h.os,h.tape,h.output,h.size,h.block⟩
theorem OwnN.drew {w:World} {base:Nat} {E:TypeId} {S:Nat->Prop} {v:Value} {ts:List T} (h:OwnN w base E S v ts):OwnN w.drew base E S v ts:=h.later (Below.refl _ _).drew
theorem zmG {P:Program} (t e:TypeId) (i:TypeInfo) (z:Value) (ht:P.underlying t=some (.slice e)) (hi:P.info? e=some i) (hz:i.zero=some z)
  (kl kc:IntKind) (n c:Nat) (hnc:n<=c) (hbytes:i.bytes*c<=281474976710656) (h63:c<=9223372036854775807) (w:World) :
  (Instr.makeSlice t (.int kl (n:Int)) (.int kc (c:Int))).run P w=.ok (.slice (some ⟨w.heap.size,0,none⟩) n c) (w.alloc (.cells (madeCells z.cells (c*i.size)) e)):=by
 have hb:(i.bytes:Int)*(c:Int)<=281474976710656:=by
  have h:((i.bytes*c:Nat):Int)<=281474976710656:=by omega
  rwa[Int.natCast_mul] at h
 have hr:=run_make (P:=P) w t e i z ht hi hz kl kc n c (by omega) (by omega) hb (by omega);simp only[Int.toNat_natCast] at hr;exact hr
def zeroT:T:=.nd 0 0 ⟨#[]⟩ []
abbrev zeroCells:Array Value := #[.int .u8 0,.int .i64 0,.string ⟨#[]⟩,.slice none 0 0]
theorem zeroT_nv (w:World) (S:Nat->Prop):NV w S zeroT (.agg #[.int .u8 0,.int .i64 0,.string ⟨#[]⟩,.slice none 0 0]) :=
 NV.shut (ks:=[]) ⟨⟨by omega,by omega⟩,⟨by omega,by omega⟩,by decide⟩ (Nat.zero_le _) (Nat.zero_le _) zkX.nil
theorem zqU (l i r:Nat) (hi:i<l) (hr:r<4):(madeCells zeroCells (l*4)).toList[i*4+r]?=some (zeroCells.getD r undef):=by
 have hlt:i*4+r<(madeCells zeroCells (l*4)).size:=by rw[size_madeCells];omega
 rw[Array.getElem?_toList,Array.getElem?_eq_getElem hlt];simp only[madeCells,Array.getElem_map,Array.getElem_range];have e:(i*4+r) % zeroCells.size=r:=by show(i*4+r) % 4=r;omega
 rw[e];rcases r with _|_|_|_|r
 ·rfl
 ·rfl
 ·rfl
 ·rfl
 ·omega
theorem ztt (W:World) (base:Nat) (E:TypeId) (S:Nat->Prop) (l:Nat) (hb:base<=W.heap.size) (hl:l<=LK) :
  OwnN (W.alloc (.cells (madeCells zeroCells (l*4)) E)) base E S (.slice (some ⟨W.heap.size,0,none⟩) l l) (List.replicate l zeroT):=by
 have ho:(W.alloc (.cells (madeCells zeroCells (l*4)) E)).ownsRow base E 4 (.slice (some ⟨W.heap.size,0,none⟩) l l) l (madeCells zeroCells (l*4)).toList :=
  ⟨by simp[size_madeCells],.inr ⟨W.heap.size,l,madeCells zeroCells (l*4),rfl,hb,heap_alloc_new W _,Nat.le_refl _,zwS hl,by simp[size_madeCells],by rw[List.take_of_length_le];simp[size_madeCells]⟩⟩
 refine⟨_,by rw[List.length_replicate];exact ho,by simpa using hl,fun i hi=>?_⟩;have hi':i<l:=by simpa using hi
 refine⟨_,_,_,_,zqU l i 0 hi' (by omega),zqU l i 1 hi' (by omega),zqU l i 2 hi' (by omega),zqU l i 3 hi' (by omega),?_⟩;rw[List.getElem_replicate];exact zeroT_nv _ _
theorem zmd {P:Program} (w:World) {K:TypeId} (hK:P.underlying K=some .string) (em:Bool) (s:ByteArray):(Instr.checkKey em 10000 K (.string s)).run P w=.ok () w:=by
 rw[show(10000:Nat)=9999+1 from rfl];unfold Instr.checkKey;simp only[Sem.run_bind,run_underlying hK,Result.andThen_ok];rfl
theorem zmp {P:Program} (w:World) {K:TypeId} (hK:P.underlying K=some .string) (s:ByteArray) (es:List MapEntry) (r:Option (Nat×Value)) (hr:Instr.findNow .string (.string s) es 0=some r):(Instr.findKey K (.string s) es).run P w=.ok r w:=by
 unfold Instr.findKey;simp only[Sem.run_bind,run_underlying hK,Result.andThen_ok,hr];rfl
theorem zkg {P:Program} (w:World) {t K E:TypeId} (ht:P.underlying t=some (.map K E)) (hK:P.underlying K=some .string) (es:Array MapEntry) (cl:Nat) (k:ByteArray) (v:Value)
  (hnew:Instr.findNow .string (.string k) es.toList 0=some none) :
  (Instr.mapUpdate t (.map (some w.heap.size)) (.string k) v).run P (w.alloc (.map es cl))=.ok () (w.alloc (.map (es.push { key:=.string k,val:=v,born:=cl }) (cl+1))):=by
 have hg:(w.alloc (.map es cl)).heap[w.heap.size]?=some (.map es cl):=heap_alloc_new w _;unfold Instr.mapUpdate;simp only[Sem.run_bind,run_underlying ht,Result.andThen_ok,MapKept.run_getObj_map hg,zmd _ hK,zmp _ hK _ _ _ hnew];simp only[setObj,Sem.run,hg];have e:(w.heap.push (.map es cl)).setIfInBounds w.heap.size (.map (es.push { key:=.string k,val:=v,born:=cl }) (cl+1))=w.heap.push (.map (es.push { key:=.string k,val:=v,born:=cl }) (cl+1)):=by
  apply Array.ext_getElem?;intro i;simp only[Array.getElem?_setIfInBounds,Array.getElem?_push,Array.size_push]
  split
  ·subst_vars;simp
  ·rename_i h;rw[if_neg (by omega),if_neg (by omega)]
 show Result.ok () _=Result.ok () _
 congr 1
 show World.mk _ _ _ _ _=World.mk _ _ _ _ _
 congr 1
theorem zpY {P:Program} (w:World) {t K E:TypeId} (ht:P.underlying t=some (.map K E)) (hK:P.underlying K=some .string) (es:Array MapEntry) (cl:Nat) (s:ByteArray) (z:Value)
  (r:Option (Nat×Value)) (hz:∀ w,(zeroValue E).run P w=.ok z w) (hr:Instr.findNow .string (.string s) es.toList 0=some r) :
  (Instr.lookup t (.map (some w.heap.size)) (.string s) false).run P (w.alloc (.map es cl))=.ok ((r.map (·.2)).getD z) (w.alloc (.map es cl)):=by
 have hg:(w.alloc (.map es cl)).heap[w.heap.size]?=some (.map es cl):=heap_alloc_new w _;unfold Instr.lookup
 cases r<;>simp[run_underlying ht,MapKept.run_getObj_map hg,zmd _ hK,zmp _ hK _ _ _ hr,hz]
def kws:List ByteArray:=[⟨#[105,110,116]⟩,⟨#[97,114,114,97,121]⟩,⟨#[115,116,97,99,107]⟩,⟨#[112,114,111,99]⟩,⟨#[109,97,105,110]⟩,⟨#[112,117,115,104]⟩,⟨#[112,111,112]⟩,⟨#[114,101,97,100]⟩,⟨#[117,110,114,101,97,100]⟩,⟨#[119,114,105,116,101]⟩,⟨#[117,110,119,114,105,116,101]⟩,⟨#[99,97,108,108]⟩,⟨#[117,110,99,97,108,108]⟩,⟨#[105,102]⟩,⟨#[101,108,115,101]⟩,⟨#[102,105]⟩,⟨#[102,114,111,109]⟩,⟨#[108,111,111,112]⟩,⟨#[117,110,116,105,108]⟩,⟨#[108,111,99,97,108]⟩,⟨#[100,101,108,111,99,97,108]⟩,⟨#[116,111,112]⟩,⟨#[115,105,122,101]⟩]
def kwB (s:ByteArray):Bool:=kws.any fun k=>s.toList==k.toList
def kwE (l:List ByteArray) (i:Nat):List MapEntry:=match l with|[]=>[]|k::r=>{ key:=.string k,val:=.bool true,born:=i }::kwE r (i+1)
def kwEs (n:Nat):Array MapEntry:=(kwE (kws.take n) 0).toArray
theorem zpG (s:ByteArray):∀ (l:List ByteArray) (i j:Nat),∃ r,Instr.findNow .string (.string s) (kwE l i) j=some r/\(r.map (·.2)).getD (.bool false)=.bool (l.any fun k=>s.toList==k.toList)
 | [],i,j=>⟨none,rfl,by simp⟩
 | k::l,i,j=>by
  by_cases h:(s==k)=true
  ·refine⟨some (j,.bool true),?_,by rw[zzl] at h;simp[h]⟩;simp[kwE,Instr.findNow,Instr.sameNow,h]
  ·have h':(s==k)=false:=by simpa using h
   obtain⟨r,h1,h2⟩:=zpG s l (i+1) (j+1);refine⟨r,?_,by rw[zzl] at h';simp[h',h2]⟩;simp[kwE,Instr.findNow,Instr.sameNow,h',h1]
theorem kwS0 (w:World):(Instr.mapUpdate 192 (.map (some w.heap.size)) (.string ⟨#[105,110,116]⟩) (.bool true)).run Tryz.prog (w.alloc (.map #[] 0))=.ok () (w.alloc (.map (kwEs 1) 1)) :=
 zkg w Tryz.underlying192 Tryz.underlying9 #[] 0 _ _ (by kernel_rfl)
theorem kwS1 (w:World):(Instr.mapUpdate 192 (.map (some w.heap.size)) (.string ⟨#[97,114,114,97,121]⟩) (.bool true)).run Tryz.prog (w.alloc (.map (kwEs 1) 1))=.ok () (w.alloc (.map (kwEs 2) 2)) :=
 zkg w Tryz.underlying192 Tryz.underlying9 (kwEs 1) 1 _ _ (by kernel_rfl)
theorem kwS2 (w:World):(Instr.mapUpdate 192 (.map (some w.heap.size)) (.string ⟨#[115,116,97,99,107]⟩) (.bool true)).run Tryz.prog (w.alloc (.map (kwEs 2) 2))=.ok () (w.alloc (.map (kwEs 3) 3)) :=
 zkg w Tryz.underlying192 Tryz.underlying9 (kwEs 2) 2 _ _ (by kernel_rfl)
theorem kwS3 (w:World):(Instr.mapUpdate 192 (.map (some w.heap.size)) (.string ⟨#[112,114,111,99]⟩) (.bool true)).run Tryz.prog (w.alloc (.map (kwEs 3) 3))=.ok () (w.alloc (.map (kwEs 4) 4)) :=
 zkg w Tryz.underlying192 Tryz.underlying9 (kwEs 3) 3 _ _ (by kernel_rfl)
theorem kwS4 (w:World):(Instr.mapUpdate 192 (.map (some w.heap.size)) (.string ⟨#[109,97,105,110]⟩) (.bool true)).run Tryz.prog (w.alloc (.map (kwEs 4) 4))=.ok () (w.alloc (.map (kwEs 5) 5)) :=
 zkg w Tryz.underlying192 Tryz.underlying9 (kwEs 4) 4 _ _ (by kernel_rfl)
theorem kwS5 (w:World):(Instr.mapUpdate 192 (.map (some w.heap.size)) (.string ⟨#[112,117,115,104]⟩) (.bool true)).run Tryz.prog (w.alloc (.map (kwEs 5) 5))=.ok () (w.alloc (.map (kwEs 6) 6)) :=
 zkg w Tryz.underlying192 Tryz.underlying9 (kwEs 5) 5 _ _ (by kernel_rfl)
theorem kwS6 (w:World):(Instr.mapUpdate 192 (.map (some w.heap.size)) (.string ⟨#[112,111,112]⟩) (.bool true)).run Tryz.prog (w.alloc (.map (kwEs 6) 6))=.ok () (w.alloc (.map (kwEs 7) 7)) :=
 zkg w Tryz.underlying192 Tryz.underlying9 (kwEs 6) 6 _ _ (by kernel_rfl)
theorem kwS7 (w:World):(Instr.mapUpdate 192 (.map (some w.heap.size)) (.string ⟨#[114,101,97,100]⟩) (.bool true)).run Tryz.prog (w.alloc (.map (kwEs 7) 7))=.ok () (w.alloc (.map (kwEs 8) 8)) :=
 zkg w Tryz.underlying192 Tryz.underlying9 (kwEs 7) 7 _ _ (by kernel_rfl)
theorem kwS8 (w:World):(Instr.mapUpdate 192 (.map (some w.heap.size)) (.string ⟨#[117,110,114,101,97,100]⟩) (.bool true)).run Tryz.prog (w.alloc (.map (kwEs 8) 8))=.ok () (w.alloc (.map (kwEs 9) 9)) :=
 zkg w Tryz.underlying192 Tryz.underlying9 (kwEs 8) 8 _ _ (by kernel_rfl)
theorem kwS9 (w:World):(Instr.mapUpdate 192 (.map (some w.heap.size)) (.string ⟨#[119,114,105,116,101]⟩) (.bool true)).run Tryz.prog (w.alloc (.map (kwEs 9) 9))=.ok () (w.alloc (.map (kwEs 10) 10)) :=
 zkg w Tryz.underlying192 Tryz.underlying9 (kwEs 9) 9 _ _ (by kernel_rfl)
theorem zLz (w:World):(Instr.mapUpdate 192 (.map (some w.heap.size)) (.string ⟨#[117,110,119,114,105,116,101]⟩) (.bool true)).run Tryz.prog (w.alloc (.map (kwEs 10) 10))=.ok () (w.alloc (.map (kwEs 11) 11)) :=
 zkg w Tryz.underlying192 Tryz.underlying9 (kwEs 10) 10 _ _ (by kernel_rfl)
theorem zLy (w:World):(Instr.mapUpdate 192 (.map (some w.heap.size)) (.string ⟨#[99,97,108,108]⟩) (.bool true)).run Tryz.prog (w.alloc (.map (kwEs 11) 11))=.ok () (w.alloc (.map (kwEs 12) 12)) :=
 zkg w Tryz.underlying192 Tryz.underlying9 (kwEs 11) 11 _ _ (by kernel_rfl)
theorem zLx (w:World):(Instr.mapUpdate 192 (.map (some w.heap.size)) (.string ⟨#[117,110,99,97,108,108]⟩) (.bool true)).run Tryz.prog (w.alloc (.map (kwEs 12) 12))=.ok () (w.alloc (.map (kwEs 13) 13)) :=
 zkg w Tryz.underlying192 Tryz.underlying9 (kwEs 12) 12 _ _ (by kernel_rfl)
theorem zLw (w:World):(Instr.mapUpdate 192 (.map (some w.heap.size)) (.string ⟨#[105,102]⟩) (.bool true)).run Tryz.prog (w.alloc (.map (kwEs 13) 13))=.ok () (w.alloc (.map (kwEs 14) 14)) :=
 zkg w Tryz.underlying192 Tryz.underlying9 (kwEs 13) 13 _ _ (by kernel_rfl)
theorem zLv (w:World):(Instr.mapUpdate 192 (.map (some w.heap.size)) (.string ⟨#[101,108,115,101]⟩) (.bool true)).run Tryz.prog (w.alloc (.map (kwEs 14) 14))=.ok () (w.alloc (.map (kwEs 15) 15)) :=
 zkg w Tryz.underlying192 Tryz.underlying9 (kwEs 14) 14 _ _ (by kernel_rfl)
theorem zLu (w:World):(Instr.mapUpdate 192 (.map (some w.heap.size)) (.string ⟨#[102,105]⟩) (.bool true)).run Tryz.prog (w.alloc (.map (kwEs 15) 15))=.ok () (w.alloc (.map (kwEs 16) 16)) :=
 zkg w Tryz.underlying192 Tryz.underlying9 (kwEs 15) 15 _ _ (by kernel_rfl)
theorem zLt (w:World):(Instr.mapUpdate 192 (.map (some w.heap.size)) (.string ⟨#[102,114,111,109]⟩) (.bool true)).run Tryz.prog (w.alloc (.map (kwEs 16) 16))=.ok () (w.alloc (.map (kwEs 17) 17)) :=
 zkg w Tryz.underlying192 Tryz.underlying9 (kwEs 16) 16 _ _ (by kernel_rfl)
theorem zLs (w:World):(Instr.mapUpdate 192 (.map (some w.heap.size)) (.string ⟨#[108,111,111,112]⟩) (.bool true)).run Tryz.prog (w.alloc (.map (kwEs 17) 17))=.ok () (w.alloc (.map (kwEs 18) 18)) :=
 zkg w Tryz.underlying192 Tryz.underlying9 (kwEs 17) 17 _ _ (by kernel_rfl)
theorem zLr (w:World):(Instr.mapUpdate 192 (.map (some w.heap.size)) (.string ⟨#[117,110,116,105,108]⟩) (.bool true)).run Tryz.prog (w.alloc (.map (kwEs 18) 18))=.ok () (w.alloc (.map (kwEs 19) 19)) :=
 zkg w Tryz.underlying192 Tryz.underlying9 (kwEs 18) 18 _ _ (by kernel_rfl)
theorem zLq (w:World):(Instr.mapUpdate 192 (.map (some w.heap.size)) (.string ⟨#[108,111,99,97,108]⟩) (.bool true)).run Tryz.prog (w.alloc (.map (kwEs 19) 19))=.ok () (w.alloc (.map (kwEs 20) 20)) :=
 zkg w Tryz.underlying192 Tryz.underlying9 (kwEs 19) 19 _ _ (by kernel_rfl)
theorem zLp (w:World):(Instr.mapUpdate 192 (.map (some w.heap.size)) (.string ⟨#[100,101,108,111,99,97,108]⟩) (.bool true)).run Tryz.prog (w.alloc (.map (kwEs 20) 20))=.ok () (w.alloc (.map (kwEs 21) 21)) :=
 zkg w Tryz.underlying192 Tryz.underlying9 (kwEs 20) 20 _ _ (by kernel_rfl)
theorem zLo (w:World):(Instr.mapUpdate 192 (.map (some w.heap.size)) (.string ⟨#[116,111,112]⟩) (.bool true)).run Tryz.prog (w.alloc (.map (kwEs 21) 21))=.ok () (w.alloc (.map (kwEs 22) 22)) :=
 zkg w Tryz.underlying192 Tryz.underlying9 (kwEs 21) 21 _ _ (by kernel_rfl)
theorem zLn (w:World):(Instr.mapUpdate 192 (.map (some w.heap.size)) (.string ⟨#[115,105,122,101]⟩) (.bool true)).run Tryz.prog (w.alloc (.map (kwEs 22) 22))=.ok () (w.alloc (.map (kwEs 23) 23)) :=
 zkg w Tryz.underlying192 Tryz.underlying9 (kwEs 22) 22 _ _ (by kernel_rfl)
theorem zKR (s:ByteArray) (w:World):(Instr.lookup 192 (.map (some w.heap.size)) (.string s) false).run Tryz.prog (w.alloc (.map (kwEs 23) 23))=.ok (.bool (kwB s)) (w.alloc (.map (kwEs 23) 23)):=by
 obtain⟨r,h1,h2⟩:=zpG s kws 0 0;have h:=zpY (P:=Tryz.prog) w Tryz.underlying192 Tryz.underlying9 (kwEs 23) 23 s (.bool false) r (fun _=>by kernel_rfl) (by rw[<-h1];rfl);rw[h,h2];rfl
theorem zs7 (s:ByteArray) (w:World) (hs:s.size<=65536):Calls Tryz.prog 89 #[.string s] w fun e w'=>e=.returned (.bool (decide (2<=s.size)&&decide (s.size<=7)&&kwB s))/\Below w.heap.size w w':=by
 by_cases h:2<=s.size/\s.size<=7
 ·obtain⟨h1,h2⟩:=h;have hmm:=@run_makeMap Tryz.prog;have k0:=kwS0;have k1:=kwS1;have k2:=kwS2;have k3:=kwS3;have k4:=kwS4;have k5:=kwS5;have k6:=kwS6;have k7:=kwS7;have k8:=kwS8;have k9:=kwS9;have k10:=zLz;have k11:=zLy;have k12:=zLx;have k13:=zLw;have k14:=zLv;have k15:=zLu;have k16:=zLt;have k17:=zLs;have k18:=zLr;have k19:=zLq;have k20:=zLp;have k21:=zLo;have k22:=zLn;have kl:=zKR s;go_enter Tryz.func89,Tryz.ntmps89;go_wp2;go_ret;exact⟨by simp[h1,h2],(Below.refl _ _).alloc (Nat.le_refl _) _⟩
 ·by_cases h1:2<=s.size
  ·have h2:7<s.size:=by omega
   clear h;go_enter Tryz.func89,Tryz.ntmps89;go_wp2;go_ret;exact⟨by simp[show ¬ s.size<=7 by omega],Below.refl _ _⟩
  ·have h3:s.size<2:=by omega
   clear h;go_enter Tryz.func89,Tryz.ntmps89;go_wp2;go_ret;exact⟨by simp[show ¬ 2<=s.size by omega],Below.refl _ _⟩
def letB (c:Int):Bool:=decide (97<=c)&&decide (c<=122)
def digB (c:Int):Bool:=decide (48<=c)&&decide (c<=57)
def aluB (c:Int):Bool:=letB c||digB c
def blkB (c:Int):Bool:=c==32||c==9||c==13||c==10
theorem znm (c:Int) (w:World):Calls Tryz.prog 128 #[.int .u8 c] w fun e w'=>e=.returned (.bool (letB c))/\w=w':=by
 go_enter Tryz.func128,Tryz.ntmps128;go_wp2
 all_goals (go_ret;exact⟨by simp[letB, *]<;>omega,rfl⟩)
theorem zog (c:Int) (w:World):Calls Tryz.prog 131 #[.int .u8 c] w fun e w'=>e=.returned (.bool (digB c))/\w=w':=by
 go_enter Tryz.func131,Tryz.ntmps131;go_wp2
 all_goals (go_ret;exact⟨by simp[digB, *]<;>omega,rfl⟩)
theorem zr8 (c:Int) (w:World):Calls Tryz.prog 132 #[.int .u8 c] w fun e w'=>e=.returned (.bool (blkB c))/\w=w':=by
 go_enter Tryz.func132,Tryz.ntmps132;go_wp2
 all_goals (go_ret;exact⟨by simp[blkB, *],rfl⟩)
theorem zux (c:Int) (w:World):Calls Tryz.prog 130 #[.int .u8 c] w fun e w'=>e=.returned (.bool (aluB c))/\w=w':=by
 go_enter Tryz.func130,Tryz.ntmps130;by_cases h:letB c=true
 ·go_wp2_with (first|(go_at_call 128;refine(znm _ _).mono ?_;rintro e w' ⟨rfl,rfl⟩)|(go_at_call 131;refine(zog _ _).mono ?_;rintro e w' ⟨rfl,rfl⟩))
  go_ret;exact⟨by simp[aluB,h],rfl⟩
 ·have h':letB c=false:=by simpa using h
  clear h;go_wp2_with (first|(go_at_call 128;refine(znm _ _).mono ?_;rintro e w' ⟨rfl,rfl⟩)|(go_at_call 131;refine(zog _ _).mono ?_;rintro e w' ⟨rfl,rfl⟩))
  go_ret;exact⟨by simp[aluB,h'],rfl⟩
theorem zuw (c:Int) (w:World):Calls Tryz.prog 133 #[.int .u8 c] w fun e w'=>e=.returned (.bool (c != 10))/\w=w':=by
 go_enter Tryz.func133,Tryz.ntmps133;go_wp2
 all_goals (go_ret;exact⟨rfl,rfl⟩)
def zsq (p:Int->Bool) (l:List UInt8):Nat:=(l.takeWhile fun c=>p c.toNat).length
theorem znA {α:Type} (p:α->Bool):∀ (l:List α) (j:Nat) (h:j<l.length),(∀ c∈l.take j,p c=true)->p l[j]=false->(l.takeWhile p).length=j
 | [],j,h,_,_=>by simp at h
 | x::l,0,_,_,h2=>by simp at h2;simp[List.takeWhile,h2]
 | x::l,j+1,h,h1,h2=>by
  have hx:p x=true:=h1 x (by simp);have:=znA p l j (by simpa using h) (fun c hc=>h1 c (by simp[hc])) (by simpa using h2);simp[List.takeWhile,hx,this]
theorem znZ {α:Type} (p:α->Bool):∀ (l:List α),(∀ c∈l,p c=true)->(l.takeWhile p).length=l.length
 | [],_=>rfl
 | x::l,h=>by
  have hx:p x=true:=h x (by simp);have:=znZ p l (fun c hc=>h c (by simp[hc]));simp[List.takeWhile,hx,this]
theorem zmi (s:ByteArray):s.toList.length=s.size:=by rw[Go.ByteArray.toList_eq];rfl
theorem zLd (s:ByteArray) (j:Nat) (h:j<s.size):s.toList[j]'(by rw[zmi];exact h)=s[j]:=by
 simp only[Go.ByteArray.toList_eq];rfl
theorem zoS (f:FuncId) (fn:Func) (hfn:IsFn Tryz.prog f fn) (p:Int->Bool) (hf:∀ c w,Calls Tryz.prog f #[.int .u8 c] w fun e w'=>e=.returned (.bool (p c))/\w=w') (s:ByteArray) (w:World) (hs:s.size<=65536) :
  Calls Tryz.prog 129 #[.string s,.func (.func f) #[] #[]] w fun e w'=>e=.returned (.int .i64 (zsq p s.toList))/\w=w':=by
 have HF:=zh hf;have hcall:=zkP hfn;clear hf hfn;go_enter Tryz.func129,Tryz.ntmps129;go_wp2
 go_loop [4,5,8] (fun r x i=>∃ j:Nat,j<=s.size/\i=.int .i64 j/\r=.int .i64 0/\Hid (∀ c∈s.toList.take j,p c.toNat=true)) (fun _ _ i=>s.size-(intOf i).toNat)
 case atStart=>exact⟨0,by omega,rfl,rfl,fun c hc=>by simp at hc⟩
 case round =>
  obtain⟨j,hj,rfl,rfl,HP⟩:=hrel;by_cases hlt:j<s.size
  ·have hg:=zh (zLd s j hlt);go_wp2_with fail;refine(HF.out _ _).mono ?_;rintro e w' ⟨rfl,rfl⟩
   cases hp:p s[j].toNat
   ·go_wp2_with fail;go_ret;exact⟨by rw[zsq,znA _ _ j (by rw[zmi];exact hlt) HP.out (by rw[hg.out];exact hp)];rfl,rfl⟩
   ·have jh:=zh hp;go_wp2_with fail
    go_round
    case rel =>
     refine⟨j+1,by omega,by go_num,rfl,?_⟩;intro c hc;rw[List.take_succ_eq_append_getElem (by rw[zmi];exact hlt),hg.out] at hc;rcases List.mem_append.1 hc with hc|hc
     ·exact HP.out c hc
     ·rw[List.mem_singleton.1 hc];exact jh.out
    case measure=>simp[intOf];omega
  ·go_wp2_with fail;go_ret;have e:=znZ (fun c:UInt8=>p c.toNat) s.toList (fun c hc=>HP.out c (by rw[List.take_of_length_le (by rw[zmi];omega)];exact hc));exact⟨by rw[zsq,e,zmi];rfl,rfl⟩
theorem zz3:IsFn Tryz.prog 131 Tryz.f131:=⟨Tryz.func131,by kernel_rfl,by kernel_rfl⟩
theorem zz5:IsFn Tryz.prog 132 Tryz.f132:=⟨Tryz.func132,by kernel_rfl,by kernel_rfl⟩
theorem zya:IsFn Tryz.prog 130 Tryz.f130:=⟨Tryz.func130,by kernel_rfl,by kernel_rfl⟩
theorem zx9:IsFn Tryz.prog 133 Tryz.f133:=⟨Tryz.func133,by kernel_rfl,by kernel_rfl⟩
theorem zzC (args:Array Value) (w:World):(callFunc 213 args).run Tryz.prog w=((Extern.BytealgIndexByte.indexByte args).run Tryz.prog w).andThen fun v w'=>.ok (.value v) w' :=
 run_callFunc_extern Tryz.func213 (by kernel_rfl) (by kernel_rfl) (by kernel_rfl) (by kernel_rfl) args w
theorem zxw (s:ByteArray) (c:Int) (w:World):(callFunc 213 #[.string s,.int .u8 c]).run Tryz.prog w=.ok (.value (.int .i64 (firstIdx s c.toNat.toUInt8))) w:=by
 rw[zzC,run_indexByte_string];rfl
theorem zom (s:ByteArray) (c:Int) (w:World):Calls Tryz.prog 163 #[.string s,.int .u8 c] w fun e w'=>(∃ m,e=.returned (.int .i64 m))/\w=w':=by
 have hx:=zxw;go_enter Tryz.func163,Tryz.ntmps163;go_wp2;go_ret;exact⟨⟨_,rfl⟩,rfl⟩
theorem zrd (s p:ByteArray) (w:World) (hs:s.size<=65536) (hp:p.size<=65536):Calls Tryz.prog 162 #[.string s,.string p] w fun e w'=>(∃ b,e=.returned (.bool b))/\w=w':=by
 by_cases h:p.size<=s.size
 ·go_enter Tryz.func162,Tryz.ntmps162;go_wp2
  all_goals (go_ret;exact⟨⟨_,rfl⟩,rfl⟩)
 ·go_enter Tryz.func162,Tryz.ntmps162;go_wp2
  all_goals (go_ret;exact⟨⟨_,rfl⟩,rfl⟩)
theorem zxu (s:ByteArray) (w:World) (hs:s.size<=65536) (h0:0<s.size):Calls Tryz.prog 134 #[.string s] w fun e w'=>(∃ m,e=.returned (.int .i64 m))/\w=w':=by
 go_enter Tryz.func134,Tryz.ntmps134;go_wp2_with fail;refine(zrd _ _ _ hs (by decide)).mono ?_;rintro e w' ⟨⟨b,rfl⟩,rfl⟩
 cases b
 ·by_cases h2:s.size<2
  ·go_wp2_with (go_at_call 163;refine(zom _ _ _).mono ?_;rintro e w' ⟨⟨m,rfl⟩,rfl⟩)
   all_goals (go_ret;exact⟨⟨_,rfl⟩,rfl⟩)
  ·have h3:2<=s.size:=by omega
   clear h2;go_wp2_with (go_at_call 163;refine(zom _ _ _).mono ?_;rintro e w' ⟨⟨m,rfl⟩,rfl⟩)
   all_goals (go_ret;exact⟨⟨_,rfl⟩,rfl⟩)
 ·go_wp2_with fail;go_ret;exact⟨⟨_,rfl⟩,rfl⟩
def zKB (w:World) (e:Ending) (w':World):Prop:=(∃ k m,k≠1/\e=.returned (.tuple #[.int .u8 k,.int .i64 m]))/\w=w'
theorem zqu (s:ByteArray) (w:World) (hs:s.size<=65536) (h0:0<s.size) (hl:letB s[0].toNat=true) :
  Calls Tryz.prog 88 #[.string s] w fun e w'=>e=.returned (.tuple #[.int .u8 1,.int .i64 (zsq aluB s.toList)])/\w=w':=by
 go_enter Tryz.func88,Tryz.ntmps88;go_wp2_with fail;refine(znm _ _).mono ?_;rintro e w' ⟨rfl,rfl⟩;go_wp2_with fail;refine(zoS _ _ zya aluB zux s _ hs).mono ?_;rintro e w' ⟨rfl,rfl⟩;go_wp2_with fail;go_ret2;exact⟨rfl,rfl⟩
theorem zsO (s:ByteArray) (w:World) (hs:s.size<=65536) (h0:0<s.size) (hl:letB s[0].toNat=false) :
  Calls Tryz.prog 88 #[.string s] w (zKB w):=by
 go_enter Tryz.func88,Tryz.ntmps88;go_wp2_with fail;refine(znm _ _).mono ?_;rintro e w' ⟨rfl,rfl⟩;go_wp2_with fail;refine(zog _ _).mono ?_;rintro e w' ⟨rfl,rfl⟩
 cases hd:digB s[0].toNat
 ·go_wp2_with fail;refine(zr8 _ _).mono ?_;rintro e w' ⟨rfl,rfl⟩
  cases hb:blkB s[0].toNat
  ·cases hc:((s[0].toNat:Int)==35)
   ·go_wp2_with fail;refine(zxu s _ hs h0).mono ?_;rintro e w' ⟨⟨m,rfl⟩,rfl⟩;go_wp2_with fail;go_ret2;exact⟨⟨3,m,by decide,rfl⟩,rfl⟩
   ·go_wp2_with fail;refine(zoS _ _ zx9 _ zuw s _ hs).mono ?_;rintro e w' ⟨rfl,rfl⟩;go_wp2_with fail;go_ret2;exact⟨⟨5,_,by decide,rfl⟩,rfl⟩
  ·go_wp2_with fail;refine(zoS _ _ zz5 _ zr8 s _ hs).mono ?_;rintro e w' ⟨rfl,rfl⟩;go_wp2_with fail;go_ret2;exact⟨⟨4,_,by decide,rfl⟩,rfl⟩
 ·go_wp2_with fail;refine(zoS _ _ zz3 _ zog s _ hs).mono ?_;rintro e w' ⟨rfl,rfl⟩;go_wp2_with fail;go_ret2;exact⟨⟨2,_,by decide,rfl⟩,rfl⟩
def zmU (s:ByteArray):Bool:=decide (0<s.size)&&decide (s.size<=16)&&(if h:0<s.size then letB s[0].toNat else false)&&decide (zsq aluB s.toList=s.size) && !(decide (2<=s.size)&&decide (s.size<=7)&&kwB s)
theorem zrc (s:ByteArray) (w:World):Calls Tryz.prog 51 #[.string s] w fun e w'=>e=.returned (.bool (zmU s))/\Below w.heap.size w w':=by
 by_cases hz:s.size=0
 ·have h1:s.toList=[]:=List.eq_nil_of_length_eq_zero (by rw[zmi];exact hz);have hfin:=zh (show zmU s=false by simp[zmU,hz]);clear hz;go_enter Tryz.func51,Tryz.ntmps51;go_wp2_with fail;go_ret;exact⟨by rw[hfin.out];rfl,Below.refl _ _⟩
 ·have h0:0<s.size:=by omega
  have h1:s.toList.isEmpty=false:=by
   cases hl:s.toList with
   | nil=>have:=zmi s;rw[hl] at this;simp at this;omega
   | cons _ _=>rfl
  have h1':¬ s.toList=[]:=by intro h;rw[h] at h1;cases h1
  clear hz;by_cases h16:s.size<=16
  ·cases hl:letB s[0].toNat
   ·have hfin:=zh (show zmU s=false by simp[zmU,h0,hl]);have HL:=zh hl;clear hl;go_enter Tryz.func51,Tryz.ntmps51;go_wp2_with fail;refine(zsO s _ (by omega) h0 HL.out).mono ?_;rintro e w' ⟨⟨k,m,hk,rfl⟩,rfl⟩;have hk':(k==1)=false:=by simpa using hk
    clear hk;go_wp2_with fail;go_ret;exact⟨by rw[hfin.out];rfl,Below.refl _ _⟩
   ·have HL:=zh hl;by_cases hsp:zsq aluB s.toList=s.size
    ·have hfin:=zh (show zmU s = !(decide (2<=s.size)&&decide (s.size<=7)&&kwB s) by simp[zmU,h0,hl,h16,hsp]);have HS:=zh hsp;clear hl hsp;go_enter Tryz.func51,Tryz.ntmps51;go_wp2_with fail;refine(zqu s _ (by omega) h0 HL.out).mono ?_;rintro e w' ⟨rfl,rfl⟩;rw[HS.out];go_wp2_with fail;refine(zs7 s _ (by omega)).mono ?_;rintro e w' ⟨rfl,hb⟩;go_wp2_with fail;go_ret;exact⟨by rw[hfin.out];simp,hb⟩
    ·have hfin:=zh (show zmU s=false by simp[zmU,h0,hl,h16,hsp]);clear hl;generalize hm:zsq aluB s.toList=m at *
     have HM:=zh hm;have hm':(((m:Nat):Int)==(s.size:Int))=false:=by simp;omega
     have hm'':(m==s.size)=false:=by simpa using hsp
     clear hm hsp;go_enter Tryz.func51,Tryz.ntmps51;go_wp2_with fail;refine(zqu s _ (by omega) h0 HL.out).mono ?_;rintro e w' ⟨rfl,rfl⟩;rw[HM.out];go_wp2_with fail;go_ret;exact⟨by rw[hfin.out];rfl,Below.refl _ _⟩
  ·have hfin:=zh (show zmU s=false by simp[zmU,h16]);have h17:16<s.size:=by omega
   clear h16;go_enter Tryz.func51,Tryz.ntmps51;go_wp2_with fail;go_ret;exact⟨by rw[hfin.out];rfl,Below.refl _ _⟩
mutual
def size:T->Nat
 | .nd _ _ _ ks=>1+zkK ks
def zkK:List T->Nat
 | []=>0
 | t::ts=>size t+zkK ts
end
theorem zqa (ks:List T) (i:Nat) (h:i<ks.length):zkK (ks.take (i+1))=zkK (ks.take i)+size ks[i]:=by
 induction ks generalizing i with
 | nil=>simp at h
 | cons t ts ih =>
  cases i with
  | zero=>simp[zkK]
  | succ i=>simp[zkK,ih i (by simpa using h)];omega
theorem zxh (a b:Int):wrap64 (wrap64 a+wrap64 b)=wrap64 (a+b):=by
 unfold wrap64;omega
def zks (n:Int) (s:ByteArray):Bool:=n==0&&s.toList.isEmpty
def zkG (n:Int) (s:ByteArray):Bool:=n==0&&zmU s
def zkD (p:Nat->T->Bool):Nat->List T->Bool
 | _,[]=>true
 | i,t::ts=>p i t&&zkD p (i+1) ts
def zkN (m:Nat) (p:Nat->T->Bool) (ks:List T):Bool:=decide (ks.length=m)&&zkD p 0 ks
theorem zkQ (p:Nat->T->Bool):∀ (i:Nat) (ks:List T),zkD p i ks=true↔∀ j (h:j<ks.length),p (i+j) ks[j]=true
 | i,[]=>by simp[zkD]
 | i,t::ts=>by
  rw[zkD,Bool.and_eq_true,zkQ p (i+1) ts]
  constructor
  ·rintro⟨h1,h2⟩ j hj
   cases j with
   | zero=>simpa using h1
   | succ j=>have:=h2 j (by simpa using hj);simpa[Nat.add_assoc,Nat.add_comm 1 j] using this
  ·intro h;exact⟨h 0 (Nat.zero_lt_succ _),fun j hj=>by have:=h (j+1) (by simpa using hj);simpa[Nat.add_assoc,Nat.add_comm 1 j] using this⟩
theorem zut {m:Nat} {p:Nat->T->Bool} {ks:List T} (hl:ks.length=m) (h:∀ j (hj:j<ks.length),p j ks[j]=true):zkN m p ks=true:=by
 simp only[zkN,hl,decide_true,Bool.true_and];rw[zkQ];intro j hj;simpa using h j hj
theorem zpw {m:Nat} {p:Nat->T->Bool} {ks:List T} {j:Nat} (hj:j<ks.length) (h:p j ks[j]=false):zkN m p ks=false:=by
 have:zkD p 0 ks=false:=by
  rw[Bool.eq_false_iff,ne_eq,zkQ];intro hh;have:=hh j hj;simp[h] at this
 simp[zkN,this]
theorem zvK {m:Nat} {p:Nat->T->Bool} {ks:List T} (hl:ks.length≠m):zkN m p ks=false:=by simp[zkN,hl]
mutual
/-- ast.IsExpr. -/
def isE:T->Bool
 | .nd k n s ks =>
  if k=1 then decide (0<=n)&&s.toList.isEmpty&&decide (ks.length=0)
  else if k=2\/k=4\/k=5 then zkG n s&&decide (ks.length=0)
  else if k=3 then zkG n s&&(decide (ks.length=1)&&isEs ks)
  else if k=6\/k=7 then zks n s&&(decide (ks.length=1)&&isEs ks)
  else if 8<=k/\k<=23 then zks n s&&(decide (ks.length=2)&&isEs ks)
  else false
def isEs:List T->Bool
 | []=>true
 | t::ts=>isE t&&isEs ts
end
theorem zox:∀ (i:Nat) (ks:List T),isEs ks=zkD (fun _=>isE) i ks
 | _,[]=>by simp[isEs,zkD]
 | i,t::ts=>by simp[isEs,zkD,zox (i+1) ts]
def isP (t:T):Bool:=(t.k==2||t.k==3)&&isE t
def isV (t:T):Bool:=t.k==2&&isE t
mutual
/-- ast.IsStmt. -/
def isS:T->Bool
 | .nd k n s ks =>
  if k=40\/k=41\/k=42\/k=56 then zks n s&&zkN 2 (fun i=>if i=0 then isP else isE) ks
  else if k=43 then zks n s&&zkN 2 (fun _=>isP) ks
  else if k=44\/k=45 then zkG n s&&zkN 1 (fun _=>isP) ks
  else if k=46\/k=47\/k=48\/k=49 then zks n s&&zkN 1 (fun _=>isP) ks
  else if k=50\/k=51 then zkG n s&&decide (ks.length<=8)&&zkD (fun _=>isV) 0 ks
  else if k=52\/k=53 then zks n s&&(decide (ks.length=4)&&isEB 0 ks)
  else if k=54 then zkG n s&&(decide (ks.length=3)&&isEB 4 ks)
  else if k=55 then zkG n s&&(decide (ks.length=1)&&isEB 7 ks)
  else false
/-- ast.IsBlock. -/
def isB:T->Bool
 | .nd k n s ks=>decide (k=57)&&zks n s&&isSs ks
def isSs:List T->Bool
 | []=>true
 | t::ts=>isS t&&isSs ts
/-- Children of an If or a From (from place 0),of a Local (from place 4),of a LocalStack (from place 7). -/
def isEB:Nat->List T->Bool
 | _,[]=>true
 | i,t::ts=>(if i=0\/i=3\/i=4\/i=6 then isE t else isB t)&&isEB (i+1) ts
end
theorem zqY:∀ (i:Nat) (ks:List T),isSs ks=zkD (fun _=>isS) i ks
 | _,[]=>by simp[isSs,zkD]
 | i,t::ts=>by simp[isSs,zkD,zqY (i+1) ts]
def pEB (d i:Nat) (t:T):Bool:=if d+i=0\/d+i=3\/d+i=4\/d+i=6 then isE t else isB t
theorem zmK (d:Nat):∀ (i:Nat) (ks:List T),isEB (d+i) ks=zkD (pEB d) i ks
 | _,[]=>by simp[isEB,zkD]
 | i,t::ts=>by
  have:=zmK d (i+1) ts;simp only[isEB,zkD,pEB];rw[<-this,Nat.add_assoc]
def exch (k:Int):Int :=
 if k=40 then 41 else if k=41 then 40 else if k=44 then 45 else if k=45 then 44 else if k=46 then 47 else if k=47 then 46
 else if k=48 then 49 else if k=49 then 48 else if k=50 then 51 else if k=51 then 50 else k
def zn0 (l:List T):List T:=match l with
 | []=>[]
 | a::r=>((a::r).set 0 ((a::r).getLast (by simp))).set r.length a
mutual
/-- inverter.invert. -/
def inv (keep:Bool):T->T
 | .nd k n s ks =>
  if k=57 then .nd k n s (invs keep true ks).reverse
  else if k=52\/k=53\/k=54 then .nd k n s (zn0 (invs keep false ks))
  else if k=50\/k=51 then .nd (if keep then k else exch k) n s (invs keep false ks)
  else .nd (exch k) n s (invs keep false ks)
def invs (keep all:Bool):List T->List T
 | []=>[]
 | t::ts=>(if all||t.k==57 then inv keep t else t)::invs keep all ts
end
def invK (keep all:Bool) (t:T):T:=if all||t.k==57 then inv keep t else t
theorem zlV (keep all:Bool):∀ ks:List T,invs keep all ks=ks.map (invK keep all)
 | []=>by simp[invs]
 | t::ts=>by simp[invs,zlV keep all ts,invK]
theorem zsR (k:Int) (h:0<=k/\k<256):0<=exch k/\exch k<256:=by unfold exch;repeat' split<;>omega
theorem zrM (t:T) (h:isE t=true):t.k<=23:=by
 cases t with
 | nd k n s ks =>
  rw[isE] at h;simp only[T.k_nd]
  repeat' split at h
  all_goals first|omega|(simp at h)
theorem zvO (t:T) (h:isP t=true):t.k≠57:=by
 have:isE t=true:=by simp only[isP,Bool.and_eq_true] at h;exact h.2
 have:=zrM t this;omega
theorem zKT (t:T) (h:isV t=true):t.k≠57:=by
 have:isE t=true:=by simp only[isV,Bool.and_eq_true] at h;exact h.2
 have:=zrM t this;omega
theorem zxV (k n:Int) (s:ByteArray) (ks:List T) (h:isS (.nd k n s ks)=true):∀ t∈ks,t.k=57->isB t=true:=by
 have key:∀ (p:Nat->T->Bool) (i:Nat),(∀ j t,p j t=true->t.k=57->isB t=true)->zkD p i ks=true->∀ t∈ks,t.k=57->isB t=true:=by
  intro p i hp hk t ht hk57;obtain⟨q,hq,rfl⟩:=List.getElem_of_mem ht;exact hp _ _ ((zkQ p i ks).1 hk q hq) hk57
 have kP:∀ t,isP t=true->t.k=57->isB t=true:=fun t h1 h2=>absurd h2 (zvO t h1);have kE:∀ t,isE t=true->t.k=57->isB t=true:=fun t h1 h2=>by have:=zrM t h1;omega
 have kV:∀ t,isV t=true->t.k=57->isB t=true:=fun t h1 h2=>absurd h2 (zKT t h1);have vX:∀ d j t,pEB d j t=true->t.k=57->isB t=true:=by
  intro d j t h1 h2;unfold pEB at h1
  split at h1
  ·exact kE t h1 h2
  ·exact h1
 rw[isS] at h
 repeat' split at h
 ·simp only[zkN,Bool.and_eq_true] at h;exact key _ 0 (fun j t hj=>by split at hj;exact kP t hj;exact kE t hj) h.2.2
 ·simp only[zkN,Bool.and_eq_true] at h;exact key _ 0 (fun j t=>kP t) h.2.2
 ·simp only[zkN,Bool.and_eq_true] at h;exact key _ 0 (fun j t=>kP t) h.2.2
 ·simp only[zkN,Bool.and_eq_true] at h;exact key _ 0 (fun j t=>kP t) h.2.2
 ·simp only[Bool.and_eq_true] at h;exact key _ 0 (fun j t=>kV t) h.2
 ·simp only[Bool.and_eq_true] at h;exact key (pEB 0) 0 (vX 0) (by rw[<-zmK];exact h.2.2)
 ·simp only[Bool.and_eq_true] at h;exact key (pEB 4) 0 (vX 4) (by rw[<-zmK];exact h.2.2)
 ·simp only[Bool.and_eq_true] at h;exact key (pEB 7) 0 (vX 7) (by rw[<-zmK];exact h.2.2)
 ·cases h
theorem zob (k n:Int) (s:ByteArray) (ks:List T) (h:isB (.nd k n s ks)=true):k=57/\∀ t∈ks,isS t=true:=by
 rw[isB] at h;simp only[Bool.and_eq_true,decide_eq_true_eq] at h;refine⟨h.1.1,fun t ht=>?_⟩;obtain⟨q,hq,rfl⟩:=List.getElem_of_mem ht;exact(zkQ _ 0 ks).1 (by rw[<-zqY];exact h.2) q hq
theorem zvM (k n:Int) (s:ByteArray) (ks:List T) (h:isS (.nd k n s ks)=true):k≠57:=by
 rintro rfl;rw[isS] at h;simp at h
def okT (t:T):Prop:=isS t=true\/isB t=true
theorem zzN (k n:Int) (s:ByteArray) (ks:List T) (h:okT (.nd k n s ks)) (t:T) (ht:t∈ks) (hb:k=57\/t.k=57):okT t:=by
 rcases h with h|h
 ·rcases hb with hb|hb
  ·exact absurd hb (zvM k n s ks h)
  ·exact .inr (zxV k n s ks h t ht hb)
 ·exact .inl ((zob k n s ks h).2 t ht)
theorem zxJ (k n:Int) (s:ByteArray) (ks:List T) (h:okT (.nd k n s ks)) (hk:k=52\/k=53\/k=54):1<ks.length:=by
 rcases h with h|h
 ·rw[isS] at h;rcases hk with rfl|rfl|rfl<;>simp at h<;>omega
 ·have:=(zob k n s ks h).1;omega
theorem zsl (l:List T) (h:0<l.length):zn0 l=(l.set 0 l[l.length-1]).set (l.length-1) l[0]:=by
 cases l with
 | nil=>simp at h
 | cons a r=>simp[zn0,List.getLast_eq_getElem]
theorem zxY (keep:Bool) (k n:Int) (s:ByteArray) (ks:List T) (lN:¬ k=57) (nR:k=52\/k=53\/k=54) (h0:0<(ks.map (invK keep (k==57))).length) (hm:ks.length-1<(ks.map (invK keep (k==57))).length) :
  inv keep (.nd k n s ks)=.nd k n s (((ks.map (invK keep (k==57))).set 0 (ks.map (invK keep (k==57)))[ks.length-1]).set (ks.length-1) (ks.map (invK keep (k==57)))[0]):=by
 have e:(k==57)=false:=by simpa using lN
 have e1:invs keep false ks=ks.map (invK keep (k==57)):=by rw[zlV,e]
 rw[inv,if_neg lN,if_pos nR,e1,zsl _ h0];simp
abbrev ZC:Array Value := #[.int .u8 0,.int .i64 0,.string ⟨#[]⟩,.slice none 0 0]
structure zls (w wx:World) (E:TypeId) (k n:Int) (s:ByteArray) (A:Option Addr) (l c:Nat) (k':Int) (gm gr:Nat) (L:List T):Prop where
 box:wx.heap[gm]?=some (.cells #[.int .u8 k',.int .i64 n,.string s,.slice (some ⟨gr,0,none⟩) l l] E (0,0))
 own:OwnN wx (w.heap.size+2) E (fun b=>w.heap.size+2<=b/\b≠gm) (.slice (some ⟨gr,0,none⟩) l l) L
 lo:w.heap.size+2<=gm
 ne:gm≠gr
 low:Below (w.heap.size+2) ((w.alloc (.cells #[.int .u8 k,.int .i64 n,.string s,.slice A l c] E)).alloc (.cells ZC E)) wx
section
variable {w wx w':World} {E:TypeId} {k n:Int} {s:ByteArray} {A:Option Addr} {l c:Nat} {k':Int} {gm gr:Nat} {L:List T}
theorem zc {b i:Nat} {cs:Array Value} {e:TypeId} {f:Nat×Nat} {u:Value} (h:wx.heap[b]?=some (.cells cs e f)) (hu:cs[i]?=some u):wx.cell? ⟨b,i,none⟩=some u:=by
 simp only[World.cell?,h];simpa using hu
theorem zf {b i:Nat} {cs:Array Value} {e:TypeId} (h:wx.heap[b]?=some (.cells cs e (0,0))):wx.frozen? ⟨b,i,none⟩=false:=by
 simp[World.frozen?,h]
theorem zki {b:Nat} {o:Obj} (h:wx.heap[b]?=some o):b<wx.heap.size:=(Array.getElem?_eq_some_iff.1 h).1
theorem zlW {w1:World} {g b o p0 p1 p2 p3:Nat} {u u0 u1 u2 u3:Value} (hne:b≠g) (h:w1.cell? ⟨b,o,none⟩=some u) :
  ((((w1.setCell ⟨g,p0,none⟩ u0).setCell ⟨g,p1,none⟩ u1).setCell ⟨g,p2,none⟩ u2).setCell ⟨g,p3,none⟩ u3).cell? ⟨b,o,none⟩=some u:=by
 have e:∀ (W:World) (p:Nat) (x:Value),(W.setCell ⟨g,p,none⟩ x).cell? ⟨b,o,none⟩=W.cell? ⟨b,o,none⟩:=fun W p x=>World.cell?_setCell_other W _ _ x (fun h=>hne (by injection h with h;exact h.symm));rw[e,e,e,e];exact h
theorem zls.later (h:zls w wx E k n s A l c k' gm gr L) (hb:Below wx.heap.size wx w'):zls w w' E k n s A l c k' gm gr L :=
 ⟨(hb.block gm (zki h.box)).trans h.box,h.own.later hb,h.lo,h.ne,h.low.trans (hb.mono (by have:=h.low.size;simpa using this))⟩
theorem zls.arg (h:zls w wx E k n s A l c k' gm gr L):wx.heap[w.heap.size]?=some (.cells #[.int .u8 k,.int .i64 n,.string s,.slice A l c] E (0,0)):=by
 rw[h.low.block _ (by omega),Below.heap_alloc _ _ _ (by simp)];exact heap_alloc_new w _
theorem zls.res (h:zls w wx E k n s A l c k' gm gr L):wx.heap[w.heap.size+1]?=some (.cells ZC E (0,0)):=by
 rw[h.low.block _ (by omega)];have:=heap_alloc_new (w.alloc (.cells #[.int .u8 k,.int .i64 n,.string s,.slice A l c] E)) (.cells ZC E);simpa using this
theorem zls.below (h:zls w wx E k n s A l c k' gm gr L):Below w.heap.size w wx:=(((Below.refl _ _).alloc (Nat.le_refl _) _).alloc (by simp) _).trans (h.low.mono (by omega))
theorem zls.size (h:zls w wx E k n s A l c k' gm gr L):w.heap.size+2<=wx.heap.size:=by have:=h.low.size;simpa using this
theorem zls.grlo (h:zls w wx E k n s A l c k' gm gr L):w.heap.size+2<=gr/\gr<wx.heap.size:=⟨h.own.len.2.2.1,h.own.len.2.2.2⟩
theorem zls.start1 (w:World) (E:TypeId) (k n:Int) (s:ByteArray) (A:Option Addr) (l c:Nat) (hl:l<=LK) :
  zls w (((((w.alloc (.cells #[.int .u8 k,.int .i64 n,.string s,.slice A l c] E)).alloc (.cells ZC E)).alloc (.cells (madeCells ZC (l*4)) E)).alloc (.cells #[.int .u8 k,.int .i64 n,.string s,.slice (some ⟨w.heap.size+1+1,0,none⟩) l l] E)).drew) E k n s A l c k (w.heap.size+1+1+1) (w.heap.size+1+1) (List.replicate l zeroT):=by
 have hm:=ztt ((w.alloc (.cells #[.int .u8 k,.int .i64 n,.string s,.slice A l c] E)).alloc (.cells ZC E)) (w.heap.size+2) E (fun b=>w.heap.size+2<=b/\b≠w.heap.size+1+1+1) l (by simp) hl;refine⟨?_,?_,by omega,by omega,?_⟩
 ·have:=heap_alloc_new (((w.alloc (.cells #[.int .u8 k,.int .i64 n,.string s,.slice A l c] E)).alloc (.cells ZC E)).alloc (.cells (madeCells ZC (l*4)) E)) (.cells #[.int .u8 k,.int .i64 n,.string s,.slice (some ⟨w.heap.size+1+1,0,none⟩) l l] E);simp only[World.size_alloc] at this;exact this
 ·have:=(hm.later ((Below.refl _ _).alloc (Nat.le_refl _) (.cells #[.int .u8 k,.int .i64 n,.string s,.slice (some ⟨w.heap.size+1+1,0,none⟩) l l] E))).drew;simp only[World.size_alloc] at this;exact this
 ·exact(((Below.refl _ _).alloc (by simp) _).alloc (by simp) _).drew
theorem zls.start2 (w:World) (E:TypeId) (k n:Int) (s:ByteArray) (A:Option Addr) (l c:Nat) (hl:l<=LK) :
  zls w (((((w.alloc (.cells #[.int .u8 k,.int .i64 n,.string s,.slice A l c] E)).alloc (.cells ZC E)).alloc (.cells #[.int .u8 k,.int .i64 n,.string s,.slice (some ⟨w.heap.size+1+1+1,0,none⟩) l l] E)).alloc (.cells (madeCells ZC (l*4)) E)).drew) E k n s A l c k (w.heap.size+1+1) (w.heap.size+1+1+1) (List.replicate l zeroT):=by
 have hm:=ztt (((w.alloc (.cells #[.int .u8 k,.int .i64 n,.string s,.slice A l c] E)).alloc (.cells ZC E)).alloc (.cells #[.int .u8 k,.int .i64 n,.string s,.slice (some ⟨w.heap.size+1+1+1,0,none⟩) l l] E)) (w.heap.size+2) E (fun b=>w.heap.size+2<=b/\b≠w.heap.size+1+1) l (by simp) hl;refine⟨?_,?_,by omega,by omega,?_⟩
 ·have:=heap_alloc_new ((w.alloc (.cells #[.int .u8 k,.int .i64 n,.string s,.slice A l c] E)).alloc (.cells ZC E)) (.cells #[.int .u8 k,.int .i64 n,.string s,.slice (some ⟨w.heap.size+1+1+1,0,none⟩) l l] E);have h2:=Below.heap_alloc (((w.alloc (.cells #[.int .u8 k,.int .i64 n,.string s,.slice A l c] E)).alloc (.cells ZC E)).alloc (.cells #[.int .u8 k,.int .i64 n,.string s,.slice (some ⟨w.heap.size+1+1+1,0,none⟩) l l] E)) (.cells (madeCells ZC (l*4)) E) (w.heap.size+1+1) (by simp);exact h2.trans (by simpa using this)
 ·have:=hm.drew;simp only[World.size_alloc] at this;exact this
 ·exact(((Below.refl _ _).alloc (by simp) _).alloc (by simp) _).drew
theorem zls.store (h:zls w wx E k n s A l c k' gm gr L) {i:Nat} (hi:i<L.length) {t:T} {k1 n1:Int} {s1:ByteArray} {A1:Option Addr} {l1 c1:Nat}
  (ht:NV wx (fun b=>(w.heap.size+2<=b/\b≠gm)/\some b≠some gr) t (nv k1 n1 s1 A1 l1 c1)) :
  zls w ((((wx.setCell ⟨gr,i*4,none⟩ (.int .u8 k1)).setCell ⟨gr,i*4+1,none⟩ (.int .i64 n1)).setCell ⟨gr,i*4+2,none⟩ (.string s1)).setCell ⟨gr,i*4+3,none⟩ (.slice A1 l1 c1)) E k n s A l c k' gm gr (L.set i t):=by
 have hg:=h.grlo;refine⟨?_,h.own.set4 hi ht,h.lo,h.ne,(((h.low.setCell hg.1 _).setCell hg.1 _).setCell hg.1 _).setCell hg.1 _⟩;rw[Below.heap_setCell _ _ _ _ h.ne,Below.heap_setCell _ _ _ _ h.ne,Below.heap_setCell _ _ _ _ h.ne,Below.heap_setCell _ _ _ _ h.ne];exact h.box
theorem zls.rowed (h:zls w wx E k n s A l c k' gm gr L) {L':List T} (ho:OwnN w' (w.heap.size+2) E (fun b=>w.heap.size+2<=b/\b≠gm) (.slice (some ⟨gr,0,none⟩) l l) L') (hg:wx.grownBy w' (some gr)):zls w w' E k n s A l c k' gm gr L' :=
 ⟨(hg.block gm (zki h.box) (fun e=>h.ne (by injection e))).trans h.box,ho,h.lo,h.ne,h.low.grown hg h.size (fun g e=>by injection e with e;rw[<-e];exact h.grlo.1)⟩
theorem zls.kind (h:zls w wx E k n s A l c k' gm gr L) (k2:Int):zls w (wx.setCell ⟨gm,0,none⟩ (.int .u8 k2)) E k n s A l c k2 gm gr L:=by
 refine⟨?_,h.own.grown (row:=some gm) (zlu (zlZ _ _) rfl _) (fun g e=>?_),h.lo,h.ne,h.low.setCell h.lo _⟩
 ·have:=heap_setCell_same wx gm 0 _ E (.int .u8 k2) h.box;simpa using this
 ·injection e with e;subst e;exact⟨fun hh=>hh.2 rfl,by simp[Value.ownBlock];exact fun e=>h.ne e.symm⟩
theorem zls.result (h:zls w wx E k n s A l c k' gm gr L) (hf:Fld k' n s) :
  NV ((((wx.setCell ⟨w.heap.size+1,0,none⟩ (.int .u8 k')).setCell ⟨w.heap.size+1,1,none⟩ (.int .i64 n)).setCell ⟨w.heap.size+1,2,none⟩ (.string s)).setCell ⟨w.heap.size+1,3,none⟩ (.slice (some ⟨gr,0,none⟩) l l)) (From w.heap.size) (.nd k' n s L) (nv k' n s (some ⟨gr,0,none⟩) l l) /\
  Below w.heap.size w ((((wx.setCell ⟨w.heap.size+1,0,none⟩ (.int .u8 k')).setCell ⟨w.heap.size+1,1,none⟩ (.int .i64 n)).setCell ⟨w.heap.size+1,2,none⟩ (.string s)).setCell ⟨w.heap.size+1,3,none⟩ (.slice (some ⟨gr,0,none⟩) l l)):=by
 obtain⟨A2,c2,e,hc,hr,_⟩:=h.own.row;injection e with e1 e2 e3;subst e1 e3;have hlo:=h.lo;refine⟨?_,(((h.below.setCell (by simp) _).setCell (by simp) _).setCell (by simp) _).setCell (by simp) _⟩;rw[e2];refine NV.shut hf h.own.lk (by omega) (hr.keep (fun b hb _=>?_) fun b hb _=>?_)
 ·rcases hb with hb|hb
  ·exact Nat.le_trans (by omega) hb.1
  ·have:=(h.own.block b hb).1;exact Nat.le_trans (by omega) this
 ·have hb':w.heap.size+2<=b:=by
   rcases hb with hb|hb
   ·exact hb.1
   ·exact(h.own.block b hb).1
  rw[Below.heap_setCell _ _ _ _ (by simp;omega),Below.heap_setCell _ _ _ _ (by simp;omega),Below.heap_setCell _ _ _ _ (by simp;omega),Below.heap_setCell _ _ _ _ (by simp;omega)]
end
def znd (f:T->T) (ks:List T) (j:Nat):List T:=(ks.take j).map f++List.replicate (ks.length-j) zeroT
theorem zsP (f:T->T) (ks:List T):znd f ks 0=List.replicate ks.length zeroT:=by simp[znd]
theorem zuA (f:T->T) (ks:List T):znd f ks ks.length=ks.map f:=by simp[znd]
theorem zuz (f:T->T) (ks:List T) (j:Nat) (h:j<=ks.length):(znd f ks j).length=ks.length:=by simp[znd];omega
theorem zqy (f:T->T) (ks:List T) (j:Nat) (h:j<ks.length):(znd f ks j).set j (f ks[j])=znd f ks (j+1):=by
 unfold znd;have hl:((ks.take j).map f).length=j:=by simp;omega
 rw[List.set_append_right _ _ (by omega),hl,Nat.sub_self,List.take_succ_eq_append_getElem h,List.map_append,List.append_assoc];congr 1;obtain⟨d,hd⟩:∃ d,ks.length-j=d+1:=⟨ks.length-j-1,by omega⟩
 rw[hd,show ks.length-(j+1)=d by omega];simp[List.replicate_succ]
theorem zn7:(Tryz.prog.info? 29).map (fun i=>(i.zero,i.size,i.bytes))=some (some (.agg #[.int .u8 0,.int .i64 0,.string ⟨#[]⟩,.slice none 0 0]),4,56):=by kernel_rfl
theorem zr3 (u0 u1 u2 u3:Value) (w:World):(Instr.buildSlice 27 1 #[(0,.agg #[u0,u1,u2,u3])]).run Tryz.prog w=.ok (.slice (some ⟨w.heap.size,0,none⟩) 1 1) (w.alloc (.cells #[u0,u1,u2,u3] 29)):=by kernel_rfl
def znV (w:World) (t:T) (e:Ending) (w':World):Prop:=∃ k n s A l c,e=.returned (nv k n s A l c)/\NV w' (From w.heap.size) t (nv k n s A l c)/\Below w.heap.size w w'
structure VD where
 s:ByteArray
 k:Int
 n:Int
structure PR where
 s:ByteArray
 ps:List VD
 b:T
structure PG where
 vs:List VD
 prs:List PR
 m:T
def FldV (v:VD):Prop:=v.s.size<=maxLen/\(0<=v.k/\v.k<256)/\(-9223372036854775808<=v.n/\v.n<=9223372036854775807)
abbrev Vd3 (w:World) (p:Addr) (v:VD):Prop:=w.cell? p=some (.string v.s)/\w.cell? ⟨p.block,p.off+1,none⟩=some (.int .u8 v.k)/\w.cell? ⟨p.block,p.off+2,none⟩=some (.int .i64 v.n)
def LV:Nat:=4398046511104
theorem zlE {n:Nat} (h:n<=LV):n<=4398046511104:=h
def RowV (w:World) (S:Nat->Prop) (A:Option Addr) (vs:List VD):Prop :=
 ∀ i (hi:i<vs.length),∃ a:Addr,A=some a/\S a.block/\Vd3 w (a.add (i*3)) vs[i]/\FldV vs[i]
abbrev Pr6 (w:World) (p:Addr) (r:PR) (A1:Option Addr) (c1:Nat) (A2:Option Addr) (c2:Nat):Prop :=
 w.cell? p=some (.string r.s)/\w.cell? ⟨p.block,p.off+1,none⟩=some (.slice A1 r.ps.length c1)/\w.cell? ⟨p.block,p.off+2,none⟩=some (.int .u8 r.b.k)/\w.cell? ⟨p.block,p.off+3,none⟩=some (.int .i64 r.b.n) /\
  w.cell? ⟨p.block,p.off+4,none⟩=some (.string r.b.s)/\w.cell? ⟨p.block,p.off+5,none⟩=some (.slice A2 r.b.ks.length c2)
structure PrR (w:World) (S:Nat->Prop) (r:PR) (A1:Option Addr) (c1:Nat) (A2:Option Addr) (c2:Nat):Prop where
 name:r.s.size<=maxLen
 row:RowV w S A1 r.ps
 lp:r.ps.length<=LV
 lc:r.ps.length<=c1
 body:NV w S r.b (nv r.b.k r.b.n r.b.s A2 r.b.ks.length c2)
def RowP (w:World) (S:Nat->Prop) (A:Option Addr) (ps:List PR):Prop :=
 ∀ i (hi:i<ps.length),∃ (a:Addr) (A1:Option Addr) (c1:Nat) (A2:Option Addr) (c2:Nat),A=some a/\S a.block/\Pr6 w (a.add (i*6)) ps[i] A1 c1 A2 c2/\PrR w S ps[i] A1 c1 A2 c2
abbrev pv (A1:Option Addr) (l1 c1:Nat) (A2:Option Addr) (l2 c2:Nat) (k n:Int) (s:ByteArray) (A3:Option Addr) (l3 c3:Nat):Value :=
 .agg #[.slice A1 l1 c1,.slice A2 l2 c2,.int .u8 k,.int .i64 n,.string s,.slice A3 l3 c3]
structure PgR (w:World) (S:Nat->Prop) (p:PG) (A1:Option Addr) (c1:Nat) (A2:Option Addr) (c2:Nat) (A3:Option Addr) (c3:Nat):Prop where
 vars:RowV w S A1 p.vs
 lv:p.vs.length<=LV
 lvc:p.vs.length<=c1
 procs:RowP w S A2 p.prs
 lp:p.prs.length<=LV
 lpc:p.prs.length<=c2
 main:NV w S p.m (nv p.m.k p.m.n p.m.s A3 p.m.ks.length c3)
def PV (w:World) (S:Nat->Prop) (p:PG) (v:Value):Prop :=
 ∃ A1 c1 A2 c2 A3 c3,v=pv A1 p.vs.length c1 A2 p.prs.length c2 p.m.k p.m.n p.m.s A3 p.m.ks.length c3/\PgR w S p A1 c1 A2 c2 A3 c3
section
variable {w w':World} {S S':Nat->Prop} {A:Option Addr}
theorem zlP {p:Addr} {u:Value} (h:w.cell? p=some u) (hk:w'.heap[p.block]?=w.heap[p.block]?):w'.cell? p=some u:=(World.cell?_of_block (a:=p) hk).trans h
theorem RowV.keep {vs:List VD} (h:RowV w S A vs) (hS:∀ b,S b->b<w.heap.size->S' b) (hk:∀ b,S b->b<w.heap.size->w'.heap[b]?=w.heap[b]?):RowV w' S' A vs:=fun i hi=>by
 obtain⟨a,hA,iZ,⟨h0,h1,h2⟩,hf⟩:=h i hi;have hlt:a.block<w.heap.size:=by have:=World.block_lt_of_cell? w _ h0;rwa[zkW] at this
 have hb:=hk _ iZ hlt;refine⟨a,hA,hS _ iZ hlt,⟨zlP h0 ?_,zlP h1 ?_,zlP h2 ?_⟩,hf⟩<;>simp only[zkW]<;>exact hb
theorem PrR.keep {r:PR} {A1 A2:Option Addr} {c1 c2:Nat} (h:PrR w S r A1 c1 A2 c2) (hS:∀ b,S b->b<w.heap.size->S' b) (hk:∀ b,S b->b<w.heap.size->w'.heap[b]?=w.heap[b]?):PrR w' S' r A1 c1 A2 c2 :=
 ⟨h.name,h.row.keep hS hk,h.lp,h.lc,h.body.keep hS hk⟩
theorem RowP.keep {ps:List PR} (h:RowP w S A ps) (hS:∀ b,S b->b<w.heap.size->S' b) (hk:∀ b,S b->b<w.heap.size->w'.heap[b]?=w.heap[b]?):RowP w' S' A ps:=fun i hi=>by
 obtain⟨a,A1,c1,A2,c2,hA,iZ,⟨h0,h1,h2,h3,h4,h5⟩,hr⟩:=h i hi;have hlt:a.block<w.heap.size:=by have:=World.block_lt_of_cell? w _ h0;rwa[zkW] at this
 have hb:=hk _ iZ hlt;refine⟨a,A1,c1,A2,c2,hA,hS _ iZ hlt,⟨zlP h0 ?_,zlP h1 ?_,zlP h2 ?_,zlP h3 ?_,zlP h4 ?_,zlP h5 ?_⟩,hr.keep hS hk⟩<;>simp only[zkW]<;>exact hb
theorem PgR.keep {p:PG} {A1 A2 A3:Option Addr} {c1 c2 c3:Nat} (h:PgR w S p A1 c1 A2 c2 A3 c3) (hS:∀ b,S b->b<w.heap.size->S' b) (hk:∀ b,S b->b<w.heap.size->w'.heap[b]?=w.heap[b]?):PgR w' S' p A1 c1 A2 c2 A3 c3 :=
 ⟨h.vars.keep hS hk,h.lv,h.lvc,h.procs.keep hS hk,h.lp,h.lpc,h.main.keep hS hk⟩
theorem RowV.later {vs:List VD} (h:RowV w S A vs) (hb:Below w.heap.size w w'):RowV w' S A vs:=h.keep (fun _ hb _=>hb) fun b _ hlt=>hb.block b hlt
theorem RowV.mono {vs:List VD} (h:RowV w S A vs) (hS:∀ b,S b->S' b):RowV w S' A vs:=h.keep (fun b hb _=>hS b hb) fun _ _ _=>rfl
theorem RowP.later {ps:List PR} (h:RowP w S A ps) (hb:Below w.heap.size w w'):RowP w' S A ps:=h.keep (fun _ hb _=>hb) fun b _ hlt=>hb.block b hlt
theorem PrR.later {r:PR} {A1 A2:Option Addr} {c1 c2:Nat} (h:PrR w S r A1 c1 A2 c2) (hb:Below w.heap.size w w'):PrR w' S r A1 c1 A2 c2:=h.keep (fun _ hb _=>hb) fun b _ hlt=>hb.block b hlt
theorem PgR.later {p:PG} {A1 A2 A3:Option Addr} {c1 c2 c3:Nat} (h:PgR w S p A1 c1 A2 c2 A3 c3) (hb:Below w.heap.size w w'):PgR w' S p A1 c1 A2 c2 A3 c3:=h.keep (fun _ hb _=>hb) fun b _ hlt=>hb.block b hlt
theorem PgR.mono {p:PG} {A1 A2 A3:Option Addr} {c1 c2 c3:Nat} (h:PgR w S p A1 c1 A2 c2 A3 c3) (hS:∀ b,S b->S' b):PgR w S' p A1 c1 A2 c2 A3 c3:=h.keep (fun b hb _=>hS b hb) fun _ _ _=>rfl
theorem PV.later {p:PG} {v:Value} (h:PV w S p v) (hb:Below w.heap.size w w'):PV w' S p v:=let ⟨A1,c1,A2,c2,A3,c3,e,h⟩:=h;⟨A1,c1,A2,c2,A3,c3,e,h.later hb⟩
theorem PV.mono {p:PG} {v:Value} (h:PV w S p v) (hS:∀ b,S b->S' b):PV w S' p v:=let ⟨A1,c1,A2,c2,A3,c3,e,h⟩:=h;⟨A1,c1,A2,c2,A3,c3,e,h.mono hS⟩
theorem RowV.nd {vs:List VD} (h:RowV w S A vs) {i:Nat} (hi:i<vs.length):∃ (a:Addr) (v:VD),A=some a/\S a.block/\Hid (vs[i]=v)/\Vd3 w (a.add (i*3)) v/\FldV v :=
 let ⟨a,h1,h2,h3,h4⟩:=h i hi;⟨a,vs[i],h1,h2,rfl,h3,h4⟩
theorem RowP.nd {ps:List PR} (h:RowP w S A ps) {i:Nat} (hi:i<ps.length):∃ (a:Addr) (r:PR) (A1:Option Addr) (c1:Nat) (A2:Option Addr) (c2:Nat),A=some a/\S a.block/\Hid (ps[i]=r)/\Pr6 w (a.add (i*6)) r A1 c1 A2 c2/\PrR w S r A1 c1 A2 c2 :=
 let ⟨a,A1,c1,A2,c2,h1,h2,h3,h4⟩:=h i hi;⟨a,ps[i],A1,c1,A2,c2,h1,h2,rfl,h3,h4⟩
end
def OwnP (w:World) (base:Nat) (E:TypeId) (S:Nat->Prop) (v:Value) (ps:List PR):Prop :=
 ∃ xs,w.ownsRow base E 6 v ps.length xs/\ps.length<=1000/\∀ i (hi:i<ps.length),∃ A1 c1 A2 c2,xs[i*6]?=some (.string ps[i].s)/\xs[i*6+1]?=some (.slice A1 ps[i].ps.length c1)/\xs[i*6+2]?=some (.int .u8 ps[i].b.k) /\
  xs[i*6+3]?=some (.int .i64 ps[i].b.n)/\xs[i*6+4]?=some (.string ps[i].b.s)/\xs[i*6+5]?=some (.slice A2 ps[i].b.ks.length c2)/\PrR w (fun b=>S b/\some b≠v.ownBlock) ps[i] A1 c1 A2 c2
section
variable {w w':World} {base:Nat} {E:TypeId} {S S':Nat->Prop} {v:Value} {ps:List PR}
theorem OwnP.nil (w:World) (base:Nat) (E:TypeId) (S:Nat->Prop):OwnP w base E S (.slice none 0 0) []:=⟨[],World.ownsRow_nil w base E 6,Nat.zero_le _,fun i hi=>absurd hi (by simp)⟩
theorem OwnP.later (h:OwnP w base E S v ps) (hb:Below w.heap.size w w'):OwnP w' base E S v ps:=by
 obtain⟨xs,ho,hl,hn⟩:=h;refine⟨xs,ho.kept (row:=none) ⟨hb.os,hb.tape,hb.output,hb.size,fun k hk _=>hb.block k hk⟩ (by cases v.ownBlock<;>simp),hl,fun i hi=>?_⟩;obtain⟨A1,c1,A2,c2,h0,h1,h2,h3,h4,h5,hr⟩:=hn i hi;exact⟨A1,c1,A2,c2,h0,h1,h2,h3,h4,h5,hr.later hb⟩
theorem OwnP.grown (h:OwnP w base E S v ps) {row:Option Nat} (hg:w.grownBy w' row) (hr:∀ g,row=some g->¬ S g/\v.ownBlock≠some g):OwnP w' base E S v ps:=by
 obtain⟨xs,ho,hl,hn⟩:=h;have hne:v.ownBlock=none\/v.ownBlock≠row:=by
  cases row with
  | none=>cases v.ownBlock<;>simp
  | some g=>exact .inr (hr g rfl).2
 refine⟨xs,ho.kept hg hne,hl,fun i hi=>?_⟩;obtain⟨A1,c1,A2,c2,h0,h1,h2,h3,h4,h5,hv⟩:=hn i hi;refine⟨A1,c1,A2,c2,h0,h1,h2,h3,h4,h5,hv.keep (fun b hb _=>hb) (fun b hb hlt=>hg.block b hlt ?_)⟩;intro e;exact(hr b e.symm).1 hb.1
theorem OwnP.block (h:OwnP w base E S v ps):∀ k,v.ownBlock=some k->base<=k/\k<w.heap.size:=let ⟨_,ho,_,_⟩:=h;ho.lt
theorem OwnP.len (h:OwnP w base E S v ps):ps.length<=1000:=let ⟨_,_,hl,_⟩:=h;hl
theorem OwnP.row (h:OwnP w base E S v ps):∃ A c,v=.slice A ps.length c/\ps.length<=c/\RowP w (fun b=>S b\/v.ownBlock=some b) A ps:=by
 obtain⟨xs,ho,hl,hn⟩:=h;rcases ho.2 with⟨rfl,h0⟩|⟨g,cap,cur,rfl,hb,hg,hc,hm,hz,hx⟩
 ·exact⟨none,0,by rw[h0],by omega,fun i hi=>absurd hi (by omega)⟩
 ·refine⟨some ⟨g,0,none⟩,cap,rfl,hc,fun i hi=>?_⟩;obtain⟨A1,c1,A2,c2,h0,h1,h2,h3,h4,h5,hv⟩:=hn i hi;have hcell:∀ j u,j<6->xs[i*6+j]?=some u->w.cell? ⟨g,i*6+j,none⟩=some u:=by
   intro j u hj hu;rw[ho.cellAt (i*6+j) (by omega)];exact hu
  have ha:(⟨g,0,none⟩:Addr).add (i*6)=⟨g,i*6,none⟩:=by unfold Addr.add;split<;>simp_all
  refine⟨⟨g,0,none⟩,A1,c1,A2,c2,rfl,.inr rfl,?_,hv.keep (fun b hb _=>.inl hb.1) fun _ _ _=>rfl⟩;rw[ha];exact⟨hcell 0 _ (by omega) h0,hcell 1 _ (by omega) h1,hcell 2 _ (by omega) h2,hcell 3 _ (by omega) h3,hcell 4 _ (by omega) h4,hcell 5 _ (by omega) h5⟩
end
theorem zvr {W w':World} {base:Nat} {E:TypeId} {S:Nat->Prop} {v v':Value} {ps:List PR} {r:PR} {A1 A2:Option Addr} {c1 c2:Nat} {o:Obj} {xs:List Value}
  (ho:W.ownsRow base E 6 v ps.length xs)
  (hn:∀ i (hi:i<ps.length),∃ A1 c1 A2 c2,xs[i*6]?=some (.string ps[i].s)/\xs[i*6+1]?=some (.slice A1 ps[i].ps.length c1)/\xs[i*6+2]?=some (.int .u8 ps[i].b.k) /\
   xs[i*6+3]?=some (.int .i64 ps[i].b.n)/\xs[i*6+4]?=some (.string ps[i].b.s)/\xs[i*6+5]?=some (.slice A2 ps[i].b.ks.length c2)/\PrR W (fun b=>S b/\some b≠v.ownBlock) ps[i] A1 c1 A2 c2)
  (hr:PrR W (fun b=>S b/\some b≠v.ownBlock) r A1 c1 A2 c2) (hlen:ps.length+1<=1000)
  (h2:w'.ownsRow base E 6 v' (ps.length+1) (xs++[.string r.s,.slice A1 r.ps.length c1,.int .u8 r.b.k,.int .i64 r.b.n,.string r.b.s,.slice A2 r.b.ks.length c2])) (h3:(W.alloc o).grownBy w' v.ownBlock) (h5:v'.ownBlock=v.ownBlock\/v'.ownBlock=some (W.alloc o).heap.size):OwnP w' base E S v' (ps++[r]):=by
 have hk:∀ {r:PR} {A1 A2:Option Addr} {c1 c2:Nat},PrR W (fun b=>S b/\some b≠v.ownBlock) r A1 c1 A2 c2->PrR w' (fun b=>S b/\some b≠v'.ownBlock) r A1 c1 A2 c2:=by
  intro r A1 A2 c1 c2 h;refine h.keep (fun b hb hlt=>⟨hb.1,?_⟩) (fun b hb hlt=>?_)
  ·rcases h5 with h5|h5<;>rw[h5]
   ·exact hb.2
   ·intro e;injection e with e;simp at e;omega
  ·rw[h3.block b (by simp;omega) hb.2];exact Below.heap_alloc W o b hlt
 refine⟨_,by simpa using h2,by simpa using hlen,fun i hi=>?_⟩;have hxl:=ho.1;by_cases h:i<ps.length
 ·obtain⟨B1,d1,B2,d2,e0,e1,e2,e3,e4,e5,hv⟩:=hn i h;refine⟨B1,d1,B2,d2,?_,?_,?_,?_,?_,?_,?_⟩
  ·rw[List.getElem_append_left h,List.getElem?_append_left (by omega)];exact e0
  ·rw[List.getElem_append_left h,List.getElem?_append_left (by omega)];exact e1
  ·rw[List.getElem_append_left h,List.getElem?_append_left (by omega)];exact e2
  ·rw[List.getElem_append_left h,List.getElem?_append_left (by omega)];exact e3
  ·rw[List.getElem_append_left h,List.getElem?_append_left (by omega)];exact e4
  ·rw[List.getElem_append_left h,List.getElem?_append_left (by omega)];exact e5
  ·rw[List.getElem_append_left h];exact hk hv
 ·have e:i=ps.length:=by simp at hi;omega
  subst e;refine⟨A1,c1,A2,c2,?_,?_,?_,?_,?_,?_,?_⟩
  ·rw[List.getElem?_append_right (by omega)];simp[hxl]
  ·rw[List.getElem?_append_right (by omega)];simp[hxl]
  ·rw[List.getElem?_append_right (by omega)];simp[hxl]
  ·rw[List.getElem?_append_right (by omega)];simp[hxl]
  ·rw[List.getElem?_append_right (by omega)];simp[hxl]
  ·rw[List.getElem?_append_right (by omega)];simp[hxl]
  ·simpa using hk hr
abbrev ZP:Array Value := #[.slice none 0 0,.slice none 0 0,.int .u8 0,.int .i64 0,.string ⟨#[]⟩,.slice none 0 0]
theorem zqE {B:Nat} {a w:World} {g:Nat} (h:Below B a w) (hg:B<=g) (u0 u1 u2 u3 u4 u5:Value):Below B a ((((((w.setCell ⟨g,0,none⟩ u0).setCell ⟨g,1,none⟩ u1).setCell ⟨g,2,none⟩ u2).setCell ⟨g,3,none⟩ u3).setCell ⟨g,4,none⟩ u4).setCell ⟨g,5,none⟩ u5) :=
 (((((h.setCell (by simpa using hg) _).setCell (by simpa using hg) _).setCell (by simpa using hg) _).setCell (by simpa using hg) _).setCell (by simpa using hg) _).setCell (by simpa using hg) _
structure PI (w wx:World) (EG ER:TypeId) (ob:Obj) (S:Nat->Prop) (g:Nat) (A1:Option Addr) (l1 c1:Nat) (k n:Int) (s:ByteArray) (A3:Option Addr) (l3 c3:Nat) (v:Value) (vs:List VD) (m:T) (ps:List PR):Prop where
 low:Below (w.heap.size+2) ((w.alloc ob).alloc (.cells ZP EG)) wx
 ge:w.heap.size+2<=g
 box:wx.heap[g]?=some (.cells #[.slice A1 l1 c1,v,.int .u8 k,.int .i64 n,.string s,.slice A3 l3 c3] EG (0,0))
 own:OwnP wx (w.heap.size+2) ER S v ps
 ne:v.ownBlock≠some g
 vars:RowV wx (fun b=>S b/\some b≠v.ownBlock) A1 vs
 main:NV wx (fun b=>S b/\some b≠v.ownBlock) m (nv k n s A3 l3 c3)
 far:∀ b,S b->b<w.heap.size\/(w.heap.size+2<=b/\b≠g)
section
variable {w wx w':World} {EG ER:TypeId} {ob:Obj} {S:Nat->Prop} {g:Nat} {A1:Option Addr} {l1 c1:Nat} {k n:Int} {s:ByteArray} {A3:Option Addr} {l3 c3:Nat} {v v':Value} {vs:List VD} {m:T} {ps ps':List PR}
theorem PI.size (h:PI w wx EG ER ob S g A1 l1 c1 k n s A3 l3 c3 v vs m ps):w.heap.size+2<=wx.heap.size:=by have:=h.low.size;simpa using this
theorem PI.below (h:PI w wx EG ER ob S g A1 l1 c1 k n s A3 l3 c3 v vs m ps):Below w.heap.size w wx:=(((Below.refl _ _).alloc (Nat.le_refl _) _).alloc (by simp) _).trans (h.low.mono (by omega))
theorem PI.later (h:PI w wx EG ER ob S g A1 l1 c1 k n s A3 l3 c3 v vs m ps) (hb:Below wx.heap.size wx w'):PI w w' EG ER ob S g A1 l1 c1 k n s A3 l3 c3 v vs m ps :=
 ⟨h.low.trans (hb.mono (by simpa using h.size)),h.ge,(hb.block _ (zki h.box)).trans h.box,h.own.later hb,h.ne,h.vars.later hb,h.main.later hb,h.far⟩
theorem PI.res (h:PI w wx EG ER ob S g A1 l1 c1 k n s A3 l3 c3 v vs m ps):wx.heap[w.heap.size+1]?=some (.cells ZP EG (0,0)):=by
 rw[h.low.block _ (by omega)];have:=heap_alloc_new (w.alloc ob) (.cells ZP EG);simpa using this
theorem PI.arg {cs:Array Value} (h:PI w wx EG ER (.cells cs EG) S g A1 l1 c1 k n s A3 l3 c3 v vs m ps):wx.heap[w.heap.size]?=some (.cells cs EG (0,0)):=by
 rw[h.low.block _ (by omega),Below.heap_alloc _ _ _ (by simp)];exact heap_alloc_new w _
theorem PI.put (h:PI w wx EG ER ob S g A1 l1 c1 k n s A3 l3 c3 v vs m ps) (ho:OwnP w' (w.heap.size+2) ER S v' ps') (hg:wx.grownBy w' v.ownBlock) (hne:v'.ownBlock≠some g) (aR:v'.ownBlock=v.ownBlock\/∃ b,v'.ownBlock=some b/\wx.heap.size<=b) :
  PI w (w'.setCell ⟨g,1,none⟩ v') EG ER ob S g A1 l1 c1 k n s A3 l3 c3 v' vs m ps':=by
 have hrow:∀ b,v.ownBlock=some b->w.heap.size+2<=b:=fun b e=>(h.own.block b e).1;have hbx:w'.heap[g]?=some (.cells #[.slice A1 l1 c1,v,.int .u8 k,.int .i64 n,.string s,.slice A3 l3 c3] EG (0,0)):=(hg.block _ (zki h.box) (fun e=>h.ne e.symm)).trans h.box;have hS:∀ b,S b/\some b≠v.ownBlock->b<wx.heap.size->S b/\some b≠v'.ownBlock:=fun b hb hlt=>⟨hb.1,fun e=>by
  rcases aR with h1|⟨b',h1,h2⟩
  ·rw[h1] at e;exact hb.2 e
  ·rw[h1] at e;injection e with e;omega⟩
 have hK:∀ b,S b/\some b≠v.ownBlock->b<wx.heap.size->(w'.setCell ⟨g,1,none⟩ v').heap[b]?=wx.heap[b]?:=fun b hb hlt=>by
  have hbg:b≠g:=by have h1:=h.far b hb.1;have h2:=h.ge;omega
  rw[Below.heap_setCell _ _ _ _ (by simpa using hbg)];exact hg.block b hlt hb.2
 refine⟨(h.low.grown hg (by have:=h.size;omega) (fun b e=>by have:=hrow b e;omega)).setCell (by simpa using h.ge) _,h.ge,?_,ho.grown (row:=some g) (zlu (zlZ _ _) rfl _) (fun b e=>?_),hne,h.vars.keep hS hK,h.main.keep hS hK,h.far⟩
 ·have:=heap_setCell_same w' g 1 _ EG v' hbx;simpa using this
 ·injection e with e;subst e;refine⟨fun hh=>?_,hne⟩;have h1:=h.far _ hh;have h2:=h.ge;omega
theorem PI.result (h:PI w wx EG ER ob S g A1 l1 c1 k n s A3 l3 c3 v vs m ps) {A2:Option Addr} {l2 c2:Nat} (hv:v=.slice A2 l2 c2) (hl1:l1=vs.length) (hlv:vs.length<=LV) (hlc:vs.length<=c1) (S':Nat->Prop) (hS:∀ b,S b->S' b) (hS2:∀ b,w.heap.size+2<=b->S' b) :
  PV ((((((wx.setCell ⟨w.heap.size+1,0,none⟩ (.slice A1 l1 c1)).setCell ⟨w.heap.size+1,1,none⟩ (.slice A2 l2 c2)).setCell ⟨w.heap.size+1,2,none⟩ (.int .u8 k)).setCell ⟨w.heap.size+1,3,none⟩ (.int .i64 n)).setCell ⟨w.heap.size+1,4,none⟩ (.string s)).setCell ⟨w.heap.size+1,5,none⟩ (.slice A3 l3 c3)) S' ⟨vs,ps,m⟩ (pv A1 l1 c1 A2 l2 c2 k n s A3 l3 c3)/\Below w.heap.size w ((((((wx.setCell ⟨w.heap.size+1,0,none⟩ (.slice A1 l1 c1)).setCell ⟨w.heap.size+1,1,none⟩ (.slice A2 l2 c2)).setCell ⟨w.heap.size+1,2,none⟩ (.int .u8 k)).setCell ⟨w.heap.size+1,3,none⟩ (.int .i64 n)).setCell ⟨w.heap.size+1,4,none⟩ (.string s)).setCell ⟨w.heap.size+1,5,none⟩ (.slice A3 l3 c3)):=by
 obtain⟨A2',c2',e,hc,hr⟩:=h.own.row;rw[hv] at e;injection e with e1 e2 e3;subst e1 e3;have hkb:∀ b,b<w.heap.size\/w.heap.size+2<=b->((((((wx.setCell ⟨w.heap.size+1,0,none⟩ (.slice A1 l1 c1)).setCell ⟨w.heap.size+1,1,none⟩ (.slice A2 l2 c2)).setCell ⟨w.heap.size+1,2,none⟩ (.int .u8 k)).setCell ⟨w.heap.size+1,3,none⟩ (.int .i64 n)).setCell ⟨w.heap.size+1,4,none⟩ (.string s)).setCell ⟨w.heap.size+1,5,none⟩ (.slice A3 l3 c3)).heap[b]?=wx.heap[b]?:=fun b hb=>by
  rw[Below.heap_setCell _ _ _ _ (by simp;omega),Below.heap_setCell _ _ _ _ (by simp;omega),Below.heap_setCell _ _ _ _ (by simp;omega),Below.heap_setCell _ _ _ _ (by simp;omega),Below.heap_setCell _ _ _ _ (by simp;omega),Below.heap_setCell _ _ _ _ (by simp;omega)]
 have ek:∀ b,S b->b<w.heap.size\/w.heap.size+2<=b:=fun b hb=>by have:=h.far b hb;omega
 refine⟨?_,(((((h.below.setCell (by simp) _).setCell (by simp) _).setCell (by simp) _).setCell (by simp) _).setCell (by simp) _).setCell (by simp) _⟩;have hm:=h.main.keep (S':=S') (fun b hb _=>hS b hb.1) (fun b hb _=>hkb b (ek b hb.1));obtain⟨A4,c4,e4,_⟩:=hm.open_;simp only[nv,Value.agg.injEq,Array.mk.injEq,List.cons.injEq,Value.int.injEq,Value.string.injEq,Value.slice.injEq,true_and,and_true] at e4;obtain⟨rfl,rfl,rfl,rfl,rfl,rfl⟩:=e4;subst hl1;refine⟨A1,c1,A2,c2,A3,c3,by rw[e2],h.vars.keep (fun b hb _=>hS b hb.1) (fun b hb _=>hkb b (ek b hb.1)),hlv,hlc,hr.keep (fun b hb _=>?_) (fun b hb _=>hkb b ?_),by have:=h.own.len;unfold LV;simp only;omega,hc,hm⟩
 ·rcases hb with hb|hb
  ·exact hS b hb
  ·exact hS2 b (h.own.block b hb).1
 ·rcases hb with hb|hb
  ·exact ek b hb
  ·exact .inr (h.own.block b hb).1
end
section
variable {w w':World} {b:Nat} {E:TypeId} {u0 u1 u2 u3 u4 u5:Value}
theorem box4 (h:w.heap[b]?=some (.cells #[u0,u1,u2,u3] E (0,0))):w.cell? ⟨b,0,none⟩=some u0/\w.cell? ⟨b,1,none⟩=some u1/\w.cell? ⟨b,2,none⟩=some u2/\w.cell? ⟨b,3,none⟩=some u3 :=
 ⟨zc h rfl,zc h rfl,zc h rfl,zc h rfl⟩
theorem box6 (h:w.heap[b]?=some (.cells #[u0,u1,u2,u3,u4,u5] E (0,0))):w.cell? ⟨b,0,none⟩=some u0/\w.cell? ⟨b,1,none⟩=some u1/\w.cell? ⟨b,2,none⟩=some u2/\w.cell? ⟨b,3,none⟩=some u3/\w.cell? ⟨b,4,none⟩=some u4/\w.cell? ⟨b,5,none⟩=some u5 :=
 ⟨zc h rfl,zc h rfl,zc h rfl,zc h rfl,zc h rfl,zc h rfl⟩
theorem zkd {o:Obj} (h:w.heap[b]?=some o) (hb:Below w.heap.size w w'):w'.heap[b]?=some o:=(hb.block _ (zki h)).trans h
theorem zkl {o:Obj} (h:w.heap[b]?=some o) (o':Obj):(w.alloc o').heap[b]?=some o:=(Below.heap_alloc w o' b (zki h)).trans h
theorem zkb {w0:World} (h:Below w0.heap.size w0 w) (o:Obj):Below w0.heap.size w0 (w.alloc o):=h.alloc h.size o
theorem zka {w0:World} (h:Below w0.heap.size w0 w) (hb:Below w.heap.size w w'):Below w0.heap.size w0 w':=h.trans (hb.mono h.size)
end
structure Bld (w wx:World) (E:TypeId) (k n:Int) (s:ByteArray) (A:Option Addr) (l c:Nat) (k' n':Int) (s':ByteArray) (S:Nat->Prop) (v:Value) (L:List T):Prop where
 box:wx.heap[w.heap.size+2]?=some (.cells #[.int .u8 k',.int .i64 n',.string s',v] E (0,0))
 own:OwnN wx (w.heap.size+3) E S v L
 far:∀ b,S b->b<w.heap.size\/w.heap.size+3<=b
 low:Below (w.heap.size+2) ((w.alloc (.cells #[.int .u8 k,.int .i64 n,.string s,.slice A l c] E)).alloc (.cells ZC E)) wx
section
variable {w wx w':World} {E:TypeId} {k n:Int} {s:ByteArray} {A:Option Addr} {l c:Nat} {k' n':Int} {s':ByteArray} {S:Nat->Prop} {v v':Value} {L L':List T}
theorem Bld.size (h:Bld w wx E k n s A l c k' n' s' S v L):w.heap.size+3<=wx.heap.size:=zki h.box
theorem Bld.later (h:Bld w wx E k n s A l c k' n' s' S v L) (hb:Below wx.heap.size wx w'):Bld w w' E k n s A l c k' n' s' S v L :=
 ⟨(hb.block _ (zki h.box)).trans h.box,h.own.later hb,h.far,h.low.trans (hb.mono (by have:=h.low.size;simpa using this))⟩
theorem Bld.res (h:Bld w wx E k n s A l c k' n' s' S v L):wx.heap[w.heap.size+1]?=some (.cells ZC E (0,0)):=by
 rw[h.low.block _ (by omega)];have:=heap_alloc_new (w.alloc (.cells #[.int .u8 k,.int .i64 n,.string s,.slice A l c] E)) (.cells ZC E);simpa using this
theorem Bld.below (h:Bld w wx E k n s A l c k' n' s' S v L):Below w.heap.size w wx:=(((Below.refl _ _).alloc (Nat.le_refl _) _).alloc (by simp) _).trans (h.low.mono (by omega))
theorem Bld.start (w:World) (E:TypeId) (k n:Int) (s:ByteArray) (A:Option Addr) (l c:Nat) (k' n':Int) (s':ByteArray) (S:Nat->Prop) (hS:∀ b,S b->b<w.heap.size\/w.heap.size+3<=b) :
  Bld w (((w.alloc (.cells #[.int .u8 k,.int .i64 n,.string s,.slice A l c] E)).alloc (.cells ZC E)).alloc (.cells #[.int .u8 k',.int .i64 n',.string s',.slice none 0 0] E)) E k n s A l c k' n' s' S (.slice none 0 0) []:=by
 refine⟨?_,OwnN.nil _ _ _ _,hS,(Below.refl _ _).alloc (by simp) _⟩;have:=heap_alloc_new ((w.alloc (.cells #[.int .u8 k,.int .i64 n,.string s,.slice A l c] E)).alloc (.cells ZC E)) (.cells #[.int .u8 k',.int .i64 n',.string s',.slice none 0 0] E);simp only[World.size_alloc] at this;exact this
theorem Bld.put (h:Bld w wx E k n s A l c k' n' s' S v L) (ho:OwnN w' (w.heap.size+3) E S v' L') (hg:wx.grownBy w' v.ownBlock):Bld w (w'.setCell ⟨w.heap.size+2,3,none⟩ v') E k n s A l c k' n' s' S v' L':=by
 have hrow:∀ g,v.ownBlock=some g->w.heap.size+3<=g:=fun g e=>(h.own.block g e).1;have hbx:w'.heap[w.heap.size+2]?=some (.cells #[.int .u8 k',.int .i64 n',.string s',v] E (0,0)) :=
  (hg.block _ (zki h.box) (fun e=>by have:=hrow _ e.symm;omega)).trans h.box
 refine⟨?_,ho.grown (row:=some (w.heap.size+2)) (zlu (zlZ _ _) rfl _) (fun g e=>?_),h.far,(h.low.grown hg (by have:=h.size;omega) (fun g e=>by have:=hrow g e;omega)).setCell (by simp) _⟩
 ·have:=heap_setCell_same w' (w.heap.size+2) 3 _ E v' hbx;simpa using this
 ·injection e with e;subst e;refine⟨fun hh=>?_,fun e=>?_⟩
  ·have:=h.far _ hh;omega
  ·have:=(ho.block _ e).1;omega
theorem Bld.result (h:Bld w wx E k n s A l c k' n' s' S v L) (hf:Fld k' n' s') {A':Option Addr} {l' c':Nat} (hv:v=.slice A' l' c') :
  NV ((((wx.setCell ⟨w.heap.size+1,0,none⟩ (.int .u8 k')).setCell ⟨w.heap.size+1,1,none⟩ (.int .i64 n')).setCell ⟨w.heap.size+1,2,none⟩ (.string s')).setCell ⟨w.heap.size+1,3,none⟩ (.slice A' l' c')) (fun b=>S b\/w.heap.size+3<=b) (.nd k' n' s' L) (nv k' n' s' A' l' c') /\
  Below w.heap.size w ((((wx.setCell ⟨w.heap.size+1,0,none⟩ (.int .u8 k')).setCell ⟨w.heap.size+1,1,none⟩ (.int .i64 n')).setCell ⟨w.heap.size+1,2,none⟩ (.string s')).setCell ⟨w.heap.size+1,3,none⟩ (.slice A' l' c')):=by
 obtain⟨A2,c2,e,hc,hr,_⟩:=h.own.row;rw[hv] at e;injection e with e1 e2 e3;subst e1 e3;refine⟨?_,(((h.below.setCell (by simp) _).setCell (by simp) _).setCell (by simp) _).setCell (by simp) _⟩;rw[e2];refine NV.shut hf h.own.lk (by omega) (hr.keep (fun b hb _=>?_) fun b hb _=>?_)
 ·rcases hb with hb|hb
  ·exact .inl hb
  ·exact .inr (h.own.block b hb).1
 ·have hb':b<w.heap.size\/w.heap.size+3<=b:=by
   rcases hb with hb|hb
   ·exact h.far b hb
   ·exact .inr (h.own.block b hb).1
  rw[Below.heap_setCell _ _ _ _ (by simp;omega),Below.heap_setCell _ _ _ _ (by simp;omega),Below.heap_setCell _ _ _ _ (by simp;omega),Below.heap_setCell _ _ _ _ (by simp;omega)]
end
theorem zoP {P:Program} {W:World} {ops:Array Oper} {o:Oper} {a:Act} {K:Act->World->Prop} {Q:Exit->Act->World->Prop} {F:Prop} (hgd:o.guard=none) (s x:Operand) (ty:TypeId)
  (ho:o.op=.call { callee:=.builtin .append,args := #[s,x],argTypes := #[ty,ty] }) (E:TypeId) (i:TypeInfo) (z:Value) (ht:P.underlying ty=some (.slice E)) (hi:P.info? E=some i) (hz:i.zero=some z)
  (hsize:i.size=4) (hby:i.bytes=56) (hzs:z.cells.size=4) (base:Nat) (S:Nat->Prop) (v:Value) (ts:List T) (hs:a.eval s=v) (hown:OwnN W base E S v ts)
  (t:T) (k n:Int) (nm:ByteArray) (A:Option Addr) (l c:Nat) (hx:a.eval x=.slice (some ⟨W.heap.size,0,none⟩) 1 1) (hn:NV W (fun b=>S b/\some b≠v.ownBlock) t (nv k n nm A l c)) (hlen:ts.length+1<=LK) (hbase:base<=W.heap.size)
  (h:∀ v' w',OwnN w' base E S v' (ts++[t])->W.grownBy w' v.ownBlock->(v'.ownBlock=v.ownBlock\/∃ g,v'.ownBlock=some g/\W.heap.size<=g)->K (a.put o.dst v') w') :
  if Region.wanted o (yielded ops a.tmps)=true then Oper.wp P o a (W.alloc (.cells #[.int .u8 k,.int .i64 n,.string nm,.slice A l c] E)) K Q else F:=by
 have hw:Region.wanted o (yielded ops a.tmps)=true:=by simp[Region.wanted,hgd]
 rw[if_pos hw];obtain⟨xs,hrow,_,hns⟩:=hown;obtain⟨v',w',hr,h2,h3,_,h5⟩:=run_append_own_at (P:=P) (W.alloc (.cells #[.int .u8 k,.int .i64 n,.string nm,.slice A l c] E)) base ty o.type E i z 4 56 ht hi hz hsize hby hzs (by decide) v ts.length xs (hrow.alloc _) ⟨W.heap.size,0,none⟩ 1 1 [.int .u8 k,.int .i64 n,.string nm,.slice A l c] (by simp)
  (ztx W E _ _ _ _) (znD k n nm A l c) (zwS hlen) (zt8 hlen) (by simp;omega)
 unfold Oper.wp execOp;simp only[ho,resolve,invoke,builtin,Sem.run_bind,Sem.run_pure,Result.andThen_ok,List.map_toArray,List.map_cons,List.map_nil,hs,hx,hr];refine h v' w' (zts hrow hns hn hlen h2 h3 h5) ⟨h3.os,h3.tape,h3.output,Nat.le_trans (by simp) h3.size,fun b hb hne=>?_⟩ ?_
 ·rw[h3.block b (by simp;omega) hne];exact Below.heap_alloc W _ b hb
 ·rcases h5 with h5|h5
  ·exact .inl h5
  ·exact .inr ⟨_,h5,by simp⟩
theorem zlM {P:Program} {ops:Array Oper} {o:Oper} {a:Act} {w:World} {K:Act->World->Prop} {Q:Exit->Act->World->Prop} {F:Prop} (hgd:o.guard=none) (x x1:Operand) (ats:Array TypeId)
  (ho:o.op=.call { callee:=.value x,args := #[x1],argTypes:=ats }) (f:FuncId) (fn:Func) (hf:IsFn P f fn) (hv:a.eval x=.func (.func f) #[] #[]) (v1:Value) (h1:a.eval x1=v1) (R:Value->World->Prop)
  (hc:Calls P f #[v1] w fun e w'=>∃ v,e=.returned v/\R v w') (h:∀ v w',R v w'->K (a.put o.dst v) w') :
  if Region.wanted o (yielded ops a.tmps)=true then Oper.wp P o a w K Q else F:=by
 have hw:Region.wanted o (yielded ops a.tmps)=true:=by simp[Region.wanted,hgd]
 rw[if_pos hw];subst h1;have e:(execOp a.eval o).run P w=.ok (.enter f #[a.eval x1]) w:=by
  unfold execOp;simp only[ho,resolve,hv,Deferred.ofValue,Sem.run_bind,Sem.run_pure,Result.andThen_ok,invoke,zkP hf,Array.empty_append,Array.append_empty,List.map_toArray,List.map_cons,List.map_nil]
 unfold Oper.wp;rw[e,Oper.upon_enter];refine hc.mono ?_;rintro e w' ⟨v,rfl,hR⟩;exact h v w' hR
def NewV (w:World) (t:T) (v:Value) (w':World):Prop:=∃ k n s A l c,v=nv k n s A l c/\NV w' (From w.heap.size) t (nv k n s A l c)/\Below w.heap.size w w'
theorem zvx {P:Program} {f:FuncId} {args:Array Value} {w:World} {t:T} (h:Calls P f args w (znV w t)):Calls P f args w fun e w'=>∃ v,e=.returned v/\NewV w t v w' :=
 h.mono fun _ _ ⟨k,n,s,A,l,c,he,hn,hb⟩=>⟨_,he,k,n,s,A,l,c,rfl,hn,hb⟩
theorem zvU {wr:World} {o:Obj} {B:Nat} {E:TypeId} {v:Value} {L:List T} (ho:OwnN wr B E (From B) v L) (hB:B<=wr.heap.size):∀ b,From ((wr.alloc o).drew).heap.size b->From B b/\some b≠v.ownBlock:=by
 intro b hb;have hb':wr.heap.size+1<=b:=by simpa using hb
 refine⟨by show B<=b;omega,fun e=>?_⟩;have:=(ho.block b e.symm).2;omega
theorem zvs {w wx:World} {E:TypeId} {S:Nat->Prop} {v:Value} {L:List T} (ho:OwnN wx (w.heap.size+3) E S v L):some (w.heap.size+2)≠v.ownBlock:=fun e=>by
 have:=(ho.block _ e.symm).1;omega
theorem zmc {P:Program} {W:World} {ops:Array Oper} {rest:List Oper} {o:Oper} {a:Act} {Q:Exit->Act->World->Prop} (hgd:o.guard=none) (s x:Operand) (ty:TypeId)
  (ho:o.op=.call { callee:=.builtin .append,args := #[s,x],argTypes := #[ty,ty] }) (E:TypeId) (i:TypeInfo) (z:Value) (ht:P.underlying ty=some (.slice E)) (hi:P.info? E=some i) (hz:i.zero=some z)
  (hsize:i.size=4) (hby:i.bytes=56) (hzs:z.cells.size=4) (base:Nat) (S:Nat->Prop) (v:Value) (ts:List T) (hs:a.eval s=v) (hown:OwnN W base E S v ts)
  (t:T) (k n:Int) (nm:ByteArray) (A:Option Addr) (l c:Nat) (H:Nat) (hH:W.heap.size=H) (hx:a.eval x=.slice (some ⟨H,0,none⟩) 1 1) (hn:NV W (fun b=>S b/\some b≠v.ownBlock) t (nv k n nm A l c)) (hlen:ts.length+1<=LK) (hbase:base<=W.heap.size)
  (h:∀ v' w',OwnN w' base E S v' (ts++[t])->W.grownBy w' v.ownBlock->(v'.ownBlock=v.ownBlock\/∃ g,v'.ownBlock=some g/\W.heap.size<=g)->wpList P ops Q rest (a.put o.dst v') w') :
  wpList P ops Q (o::rest) a (W.alloc (.cells #[.int .u8 k,.int .i64 n,.string nm,.slice A l c] E)):=by
 subst hH;exact zmm hgd s x ty ho E i z ht hi hz hsize hby hzs base S v ts hs hown t k n nm A l c hx hn hlen hbase h
theorem zsV (a0 a1 a2 a3 b0 b1 b2 b3:Value) (w:World):(Instr.buildSlice 27 2 #[(0,.agg #[a0,a1,a2,a3]),(1,.agg #[b0,b1,b2,b3])]).run Tryz.prog w=.ok (.slice (some ⟨w.heap.size,0,none⟩) 2 2) (w.alloc (.cells #[a0,a1,a2,a3,b0,b1,b2,b3] 29)):=by kernel_rfl
theorem zsW (k:Int) (A:Option Addr) (l c:Nat) (w:World):(Instr.build 29 #[(0,.int .u8 k),(3,.slice A l c)]).run Tryz.prog w=.ok (nv k 0 ⟨#[]⟩ A l c) w:=by kernel_rfl
theorem zlh {P:Program} {W:World} {ops:Array Oper} {o:Oper} {a:Act} {K:Act->World->Prop} {Q:Exit->Act->World->Prop} {F:Prop} (hgd:o.guard=none) (s x:Operand) (ty:TypeId)
  (ho:o.op=.call { callee:=.builtin .append,args := #[s,x],argTypes := #[ty,ty] }) (base:Nat) (E:TypeId) (i:TypeInfo) (z:Value) (size bytes:Nat) (ht:P.underlying ty=some (.slice E)) (hi:P.info? E=some i) (hz:i.zero=some z)
  (hsize:i.size=size) (hby:i.bytes=bytes) (hzs:z.cells.size=size) (hsz:0<size) (v:Value) (n:Nat) (xs:List Value) (hs:a.eval s=v) (hrow:W.ownsRow base E size v n xs)
  (ad:Addr) (m c:Nat) (news:List Value) (hx:a.eval x=.slice (some ad) m c) (hl:news.length=m*size) (hc:∀ j u,news[j]?=some u->W.cell? (ad.add j)=some u) (h1c:∀ u∈news,u.oneCell'=true)
  (b1:n+m<=maxLen) (b2:(n+m)*bytes<=140737488355328) (hb:base<=W.heap.size)
  (h:∀ v' w',w'.ownsRow base E size v' (n+m) (xs++news)->W.grownBy w' v.ownBlock->(v'.ownBlock=v.ownBlock\/v'.ownBlock=some W.heap.size)->K (a.put o.dst v') w') :
  if Region.wanted o (yielded ops a.tmps)=true then Oper.wp P o a W K Q else F:=by
 have hw:Region.wanted o (yielded ops a.tmps)=true:=by simp[Region.wanted,hgd]
 rw[if_pos hw];obtain⟨v',w',hr,h2,h3,_,h5⟩:=run_append_own_at (P:=P) W base ty o.type E i z size bytes ht hi hz hsize hby hzs hsz v n xs hrow ad m c news hl hc h1c b1 b2 hb;unfold Oper.wp execOp;simp only[ho,resolve,invoke,builtin,Sem.run_bind,Sem.run_pure,Result.andThen_ok,List.map_toArray,List.map_cons,List.map_nil,hs,hx,hr];exact h v' w' h2 h3 h5
theorem zk7 {w w':World} {base:Nat} {E:TypeId} {size:Nat} {v:Value} {n:Nat} {xs:List Value} (h:w.ownsRow base E size v n xs) (hb:Below w.heap.size w w'):w'.ownsRow base E size v n xs:=by
 obtain⟨e1,h2⟩:=h;refine⟨e1,?_⟩;rcases h2 with h2|⟨g,cap,cur,rfl,h3,hg,h4⟩
 ·exact .inl h2
 ·exact .inr ⟨g,cap,cur,rfl,h3,(hb.block _ (zki hg)).trans hg,h4⟩
theorem zpk {P:Program} (W:World) (base base':Nat) (ty rty:TypeId) (E:TypeId) (i:TypeInfo) (z:Value) (size bytes:Nat) (ht:P.underlying ty=some (.slice E)) (hi:P.info? E=some i) (hz:i.zero=some z)
  (hsize:i.size=size) (hby:i.bytes=bytes) (hzs:z.cells.size=size) (hsz:0<size) (v:Value) (n:Nat) (xs:List Value) (hown:W.ownsRow base E size v n xs)
  (u:Value) (m:Nat) (ys:List Value) (hother:W.ownsRow base' E size u m ys) (h1:∀ y∈ys,y.oneCell'=true) (h63:n+m<=maxLen) (hbytes:(n+m)*bytes<=140737488355328) (hbase:base<=W.heap.size) :
  ∃ v' w',(Builtin.append_ #[ty,ty] rty #[v,u]).run P W=.ok v' w'/\w'.ownsRow base E size v' (n+m) (xs++ys)/\W.grownBy w' v.ownBlock/\(v'.ownBlock=v.ownBlock\/v'.ownBlock=some W.heap.size):=by
 rcases hother.2 with⟨rfl,rfl⟩|⟨g,cap,cur,rfl,_⟩
 ·have hy:ys=[]:=by have:=hother.1;simp at this;exact this
  subst hy;refine⟨v,W,?_,by simpa using hown,zlZ _ _,.inl rfl⟩;rcases hown.2 with⟨rfl,h0⟩|⟨g,cap,cur,rfl,_,_,hnc,_⟩
  ·simp[Builtin.append_,run_underlying ht,sizeOf,typeInfo,hi,Builtin.lenOf,Builtin.firstCells]
  ·simp[Builtin.append_,run_underlying ht,sizeOf,typeInfo,hi,Builtin.lenOf,Builtin.firstCells,hnc,storeCells]
 ·obtain⟨v',w',hrun,h2,h3,_,h5⟩:=run_append_own_at (P:=P) W base ty rty E i z size bytes ht hi hz hsize hby hzs hsz v n xs hown ⟨g,0,none⟩ m cap ys hother.1 (hother.cells rfl) h1 h63 hbytes hbase;exact⟨v',w',hrun,h2,h3,h5⟩
theorem zml {P:Program} {w:World} {ops:Array Oper} {rest:List Oper} {o:Oper} {a:Act} {Q:Exit->Act->World->Prop} (hgd:o.guard=none) (s x:Operand) (t:TypeId)
  (ho:o.op=.call { callee:=.builtin .append,args := #[s,x],argTypes := #[t,t] }) (base base':Nat) (E:TypeId) (i:TypeInfo) (z:Value) (size bytes:Nat) (ht:P.underlying t=some (.slice E)) (hi:P.info? E=some i) (hz:i.zero=some z)
  (hsize:i.size=size) (hby:i.bytes=bytes) (hzs:z.cells.size=size) (hsz:0<size) (v:Value) (n:Nat) (xs:List Value) (hs:a.eval s=v) (hown:w.ownsRow base E size v n xs)
  (u:Value) (m:Nat) (ys:List Value) (hx:a.eval x=u) (hother:w.ownsRow base' E size u m ys) (h1:∀ y∈ys,y.oneCell'=true) (h63:n+m<=maxLen) (hbytes:(n+m)*bytes<=140737488355328) (hbase:base<=w.heap.size)
  (h:∀ v' w',w'.ownsRow base E size v' (n+m) (xs++ys)->w.grownBy w' v.ownBlock->(v'.ownBlock=v.ownBlock\/v'.ownBlock=some w.heap.size)->wpList P ops Q rest (a.put o.dst v') w') :
  wpList P ops Q (o::rest) a w:=by
 refine wpList_plain hgd fun K hK=>?_;obtain⟨v',w',hr,h2,h3,h5⟩:=zpk (P:=P) w base base' t o.type E i z size bytes ht hi hz hsize hby hzs hsz v n xs hown u m ys hother h1 h63 hbytes hbase;unfold Oper.wp execOp;simp only[ho,resolve,invoke,builtin,Sem.run_bind,Sem.run_pure,Result.andThen_ok,List.map_toArray,List.map_cons,List.map_nil,hs,hx,hr];exact hK _ _ (h v' w' h2 h3 h5)
theorem zwH (a:Addr) (i j:Nat):(a.add i).add j=a.add (i+j):=by
 by_cases hi:i=0
 ·subst hi;simp[Addr.add]
 by_cases hj:j=0
 ·subst hj;simp[Addr.add]
 simp[Addr.add,hi,hj,Nat.add_assoc]
def I64 (x:Int):Prop := -9223372036854775808<=x/\x<=9223372036854775807
def RowI (w:World) (S:Nat->Prop) (A:Option Addr) (xs:List Int):Prop :=
 ∀ i (hi:i<xs.length),∃ a:Addr,A=some a/\S a.block/\w.cell? (a.add i)=some (.int .i64 xs[i])/\I64 xs[i]
def LI:Nat:=17592186044416
theorem zqG {n:Nat} (h:n<=LI):n<=17592186044416:=h
section
variable {w w':World} {S S':Nat->Prop} {A:Option Addr} {xs:List Int}
theorem RowI.keep (h:RowI w S A xs) (hS:∀ b,S b->b<w.heap.size->S' b) (hk:∀ b,S b->b<w.heap.size->w'.heap[b]?=w.heap[b]?):RowI w' S' A xs:=fun i hi=>by
 obtain⟨a,hA,iZ,h0,hf⟩:=h i hi;have hlt:a.block<w.heap.size:=by have:=World.block_lt_of_cell? w _ h0;rwa[zkW] at this
 refine⟨a,hA,hS _ iZ hlt,zlP h0 ?_,hf⟩;simp only[zkW];exact hk _ iZ hlt
theorem RowI.later (h:RowI w S A xs) (hb:Below w.heap.size w w'):RowI w' S A xs:=h.keep (fun _ hb _=>hb) fun b _ hlt=>hb.block b hlt
theorem RowI.mono (h:RowI w S A xs) (hS:∀ b,S b->S' b):RowI w S' A xs:=h.keep (fun b hb _=>hS b hb) fun _ _ _=>rfl
theorem RowI.any (h:RowI w S A xs):RowI w Any A xs:=h.mono fun _ _=>trivial
theorem RowI.fits (h:RowI w S A xs):∀ x∈xs,I64 x:=fun x hx=>by
 obtain⟨i,hi,rfl⟩:=List.getElem_of_mem hx;obtain⟨_,_,_,_,h⟩:=h i hi;exact h
theorem RowI.news {a:Addr} (h:RowI w S (some a) xs):(∀ (j:Nat) u,(xs.map (fun x=>Value.int .i64 x))[j]?=some u->w.cell? (a.add j)=some u)/\(∀ u∈xs.map (fun x=>Value.int .i64 x),u.oneCell'=true):=by
 refine⟨fun j u hj=>?_,fun u hu=>?_⟩
 ·simp only[List.getElem?_map,Option.map_eq_some_iff] at hj;obtain⟨x,hx,rfl⟩:=hj;obtain⟨hlt,rfl⟩:=List.getElem?_eq_some_iff.1 hx;obtain⟨a',e,_,hc,_⟩:=h j hlt;injection e with e;subst e;exact hc
 ·simp only[List.mem_map] at hu;obtain⟨x,_,rfl⟩:=hu;rfl
theorem zly {base:Nat} {E:TypeId} {v:Value} (h:w.ownsRow base E 1 v xs.length (xs.map (fun x=>Value.int .i64 x))) (hf:∀ x∈xs,I64 x):∃ A c,v=.slice A xs.length c/\xs.length<=c/\RowI w (fun b=>v.ownBlock=some b) A xs:=by
 rcases h.2 with⟨rfl,h0⟩|⟨g,cap,cur,rfl,hb,hg,hc,hm,hz,hx⟩
 ·exact⟨none,0,by rw[h0],by omega,fun i hi=>absurd hi (by omega)⟩
 ·refine⟨some ⟨g,0,none⟩,cap,rfl,hc,fun i hi=>?_⟩;have ha:(⟨g,0,none⟩:Addr).add i=⟨g,i,none⟩:=by unfold Addr.add;split<;>simp_all
  refine⟨⟨g,0,none⟩,rfl,rfl,?_,hf _ (List.getElem_mem hi)⟩;rw[ha];have:=h.cellAt i (by omega);rw[this];simp[hi]
end
theorem zpy:(Tryz.prog.info? 3).map (fun i=>(i.zero,i.size,i.bytes))=some (some (.int .i64 0),1,8):=by kernel_rfl
theorem zKp (w:World):(Instr.buildSlice 24 0 #[]).run Tryz.prog w=.ok (.slice (some ⟨w.heap.size,0,none⟩) 0 0) (w.alloc (.cells #[] 3)):=by kernel_rfl
theorem zpQ (x:Int) (w:World):(Instr.buildSlice 24 1 #[(0,.int .i64 x)]).run Tryz.prog w=.ok (.slice (some ⟨w.heap.size,0,none⟩) 1 1) (w.alloc (.cells #[.int .i64 x] 3)):=by kernel_rfl
theorem zK3 (a:Addr) (l c:Nat) (w:World):(binOp BinOp.eql 24 (.slice (some a) l c) (.slice none 0 0)).run Tryz.prog w=.ok (.bool false) w:=by kernel_rfl
theorem zz9 (l c:Nat) (w:World):(binOp BinOp.eql 24 (.slice none l c) (.slice none 0 0)).run Tryz.prog w=.ok (.bool true) w:=by kernel_rfl
def NewI (w:World) (xs:List Int) (e:Ending) (w':World):Prop:=∃ A' c',e=.returned (.slice A' xs.length c')/\RowI w' (From w.heap.size) A' xs/\xs.length<=c'/\Below w.heap.size w w'
def OwnI (w:World) (xs:List Int) (e:Ending) (w':World):Prop:=∃ v',e=.returned v'/\w'.ownsRow w.heap.size 3 1 v' xs.length (xs.map (fun x=>Value.int .i64 x))/\(∀ x∈xs,I64 x)/\Below w.heap.size w w'
theorem zk2 (xs:List Int) (A:Option Addr) (c:Nat) (S:Nat->Prop) (w:World) (hrow:RowI w S A xs) (hl:xs.length<=LI):Calls Tryz.prog 49 #[.slice A xs.length c] w (OwnI w xs):=by
 obtain⟨i0,hi0,hz0,hz1,hz2⟩:=info_parts zpy;have hl':=zqG hl;rcases A with _|a
 ·have h0:xs=[]:=by
   cases xs with
   | nil=>rfl
   | cons v vs=>obtain⟨_,h,_⟩:=hrow 0 (by simp);cases h
  subst h0;have he:=zz9;clear hrow hl;go_enter Tryz.func49,Tryz.ntmps49;go_wp2_with fail;go_ret;exact⟨_,rfl,World.ownsRow_nil _ _ _ _,by simp,Below.refl _ _⟩
 ·obtain⟨hnc,hn1⟩:=(hrow.later ((Below.refl w.heap.size w).alloc (Nat.le_refl _) (.cells #[] 3))).news;have HF:=zh hrow.fits;have hown:(w.alloc (.cells #[] 3)).ownsRow w.heap.size 3 1 (.slice (some ⟨w.heap.size,0,none⟩) 0 0) 0 [] :=
   ⟨rfl,.inr ⟨w.heap.size,0,#[],rfl,Nat.le_refl _,heap_alloc_new w _,Nat.le_refl _,Nat.zero_le _,rfl,rfl⟩⟩
  have hnl:(xs.map (fun x=>Value.int .i64 x)).length=xs.length*1:=by simp
  have hm1:0+xs.length<=maxLen:=by unfold maxLen;omega
  have hm2:(0+xs.length)*8<=140737488355328:=by omega
  have hb0:=zKp;have he:=zK3;obtain⟨news,hnews⟩:∃ news,xs.map (fun x=>Value.int .i64 x)=news:=⟨_,rfl⟩
  rw[hnews] at hnc hn1 hnl;have sH:=zh hnews;clear hrow hl hnews;go_enter Tryz.func49,Tryz.ntmps49;go_wp2_with (at_builtin;refine wpList_append_own_at (P:=Tryz.prog) _ rfl (.tmp 5) (.tmp 6) 24 rfl w.heap.size 3 i0 _ 1 8 Tryz.underlying24 hi0 hz0 hz1 hz2 rfl (by decide) (.slice (some ⟨w.heap.size,0,none⟩) 0 0) 0 [] rfl hown a xs.length c news rfl hnl hnc hn1 hm1 hm2 (by simp) ?_;intro v' w' h2 h3 h4 h5)
  have hbl:Below w.heap.size w w':=((Below.refl w.heap.size w).alloc (Nat.le_refl _) _).grown h3 (by simp) (fun g e=>by simp[Value.ownBlock] at e;omega);have h2':w'.ownsRow w.heap.size 3 1 v' xs.length (xs.map (fun x=>Value.int .i64 x)):=by
   have:=h2;rw[Nat.zero_add,List.nil_append,<-sH.out] at this;exact this
  have HO:=zh h2';have HB:=zh hbl;have hsl:∃ A' c',v'=.slice A' xs.length c':=by
   rcases h2'.2 with⟨rfl,h0⟩|⟨g,cap,cur,rfl,_⟩
   ·exact⟨none,0,by rw[h0]⟩
   ·exact⟨_,_,rfl⟩
  obtain⟨A',c',rfl⟩:=hsl;clear h2 h2' h3 h4 h5 hbl hnc hn1 hown;go_wp2_with fail;go_ret;exact⟨_,by simp,HO.out,HF.out,HB.out⟩
theorem zqI (xs:List Int) (A:Option Addr) (c:Nat) (S:Nat->Prop) (w:World) (hrow:RowI w S A xs) (hl:xs.length<=LI):Calls Tryz.prog 49 #[.slice A xs.length c] w (NewI w xs) :=
 (zk2 xs A c S w hrow hl).mono fun e w' ⟨v',he,ho,hf,hb⟩=>by
  obtain⟨A',c',rfl,hc,hr⟩:=zly ho hf;exact⟨A',c',he,hr.mono fun b hb=>(ho.lt b hb).1,hc,hb⟩
end Go.Proofs.YtckhofdinldhpaaGreat
namespace Go.Proofs.YtckhofdinldhpaaGreat
open Go Go.RowKit
structure FR where
 vs:List VD
 cs:List Nat
 loc:Nat
structure ST where
 base:FR
 calls:List FR
 cell:Nat->List Int
 nc:Nat
 tin:List Int
 tout:List Int
def zlv (vs:List VD) (s:ByteArray):Nat->Option Nat
 | 0=>none
 | j+1=>if (vs[j]?.elim false fun v=>v.s.toList==s.toList) then some j else zlv vs s j
theorem zov {vs:List VD} {j:Nat} (h:j<vs.length) (s:ByteArray):zlv vs s (j+1)=if vs[j].s.toList==s.toList then some j else zlv vs s j:=by simp[zlv,h]
theorem zn9 {vs:List VD} {s:ByteArray}:∀ {j i:Nat},zlv vs s j=some i->i<j
 | 0,_,h=>by simp[zlv] at h
 | j+1,i,h=>by
  rw[zlv] at h
  split at h
  ·injection h with h;omega
  ·have:=zn9 h;omega
def FR.at (f:FR) (s:ByteArray):Option Nat:=zlv f.vs s f.vs.length
theorem FR.at_lt {f:FR} {s:ByteArray} {i:Nat} (h:f.at s=some i):i<f.vs.length:=zn9 h
def ST.cur (S:ST):FR:=S.calls.getLast?.getD S.base
def ST.num (S:ST) (s:ByteArray):Option Nat:=(S.cur.at s).bind fun i=>S.cur.cs[i]?
def ST.look (S:ST) (s:ByteArray):Option (List Int):=(S.num s).map S.cell
structure FR.WF (kd:Nat->Int×Int) (nc:Nat) (f:FR):Prop where
 len:f.cs.length=f.vs.length
 loc:f.loc<=f.vs.length
 lim:f.vs.length<=4398046511000
 fld:∀ v∈f.vs,FldV v
 num:∀ c∈f.cs,c<nc
 kind:∀ i (h:i<f.vs.length) (h':i<f.cs.length),kd f.cs[i]=(f.vs[i].k,f.vs[i].n)
structure ST.WF (S:ST):Prop where
 ex:∃ kd:Nat->Int×Int,S.base.WF kd S.nc/\(∀ f∈S.calls,f.WF kd S.nc)/\∀ i,i<S.nc->((kd i).1=1->(S.cell i).length=1)/\((kd i).1=2->((S.cell i).length:Int)=(kd i).2)/\((kd i).1=1\/(kd i).1=2\/(kd i).1=3)
 ncalls:S.calls.length<=100
 cells:∀ i,i<S.nc->(S.cell i).length<=1000/\∀ x∈S.cell i,I64 x
 tin:S.tin.length<=4096/\∀ x∈S.tin,I64 x
 tout:S.tout.length<=4096/\∀ x∈S.tout,I64 x
end Go.Proofs.YtckhofdinldhpaaGreat
namespace Go.Proofs.YtckhofdinldhpaaGreat
open Go
section
variable {P:Program} {ops:Array Oper} {Q:Exit->Act->World->Prop} {md:Region.Mode} {S1 S2:World->Prop} {k:Nat}
def wpG (P:Program) (md:Region.Mode) (ops:Array Oper) (Q:Exit->Act->World->Prop) (S1 S2:World->Prop) (k:Nat):Nat->Array Bool->Act->World->Prop
 | 0,listed,a,w=>Region.ready md ops listed=[]/\Q .normal a w
 | fuel+1,listed,a,w =>
  (Region.ready md ops listed=[]->Q .normal a w) /\
  ∀ i∈Region.ready md ops listed,wpOp P ops Q i (fun a' w'=>(S1 w'/\((listed.setIfInBounds i true).getD k true=false->S2 w'))/\wpG P md ops Q S1 S2 k fuel (listed.setIfInBounds i true) a' w') a w
theorem zp7:∀ (fuel:Nat) (listed:Array Bool) (a:Act) (w:World),wpG P md ops Q S1 S2 k fuel listed a w->wpAny P md ops Q fuel listed a w
 | 0,_,_,_,h=>h
 | fuel+1,_,_,_,h=>⟨h.1,fun i hi=>wpOp_mono (fun a' w' h'=>zp7 fuel _ a' w' h'.2) (h.2 i hi)⟩
theorem zp5 {i:Nat} {oi:Oper} {v:Value} (hi:ops[i]?=some oi) (hsel:∀ (j:Nat) (o:Oper) cs b,ops[j]?=some o->o.op ≠ .select cs b)
  (hQ:∀ c a w,Q (.panic c) (a.put oi.dst v) w->Q (.panic c) a w) (hik:i≠k) :
  ∀ (fuel:Nat) (listed:Array Bool) (a:Act) (w:World),
   (∀ j oj,ops[j]?=some oj->j≠i->listed.getD j true=false->(∀ e∈oj.after,Region.binds md e=true->e.on≠i)->oi.apart ops oj=true) ->
   i∈Region.ready md ops listed->YieldsIf P ops S1 oi v a->S1 w->(listed.getD k true=false->S2 w) ->
   wpG P md ops Q S1 S2 k fuel (listed.setIfInBounds i true) (a.put oi.dst v) w->wpG P md ops Q S1 S2 k (fuel+1) listed a w:=by
 intro fuel
 induction fuel with
 | zero =>
  intro listed a w hfree hr hy hS1 HH H;refine⟨fun h=>(by rw[h] at hr;cases hr),fun j hj=>?_⟩;by_cases hji:j=i
  ·subst hji;exact hy.wpOp hi hS1 ⟨⟨hS1,fun h=>HH (by rw[getD_set_ne true hik] at h;exact h)⟩,H⟩
  ·have:=ready_mono hj hji;rw[H.1] at this
   cases this
 | succ fuel ih =>
  intro listed a w hfree hr hy hS1 HH H;refine⟨fun h=>(by rw[h] at hr;cases hr),fun j hj=>?_⟩;by_cases hji:j=i
  ·subst hji;exact hy.wpOp hi hS1 ⟨⟨hS1,fun h=>HH (by rw[getD_set_ne true hik] at h;exact h)⟩,H⟩
  ·have h1:=H.2 j (ready_mono hj hji);obtain⟨hjun,oj,hoj,hall⟩:=mem_ready.1 hj;have hnot:∀ e∈oj.after,Region.binds md e=true->e.on≠i:=fun e he hb heq=>by
    have h1:=hall e he hb;have h0:=(mem_ready.1 hr).1;rw[heq] at h1;rcases Nat.lt_or_ge i listed.size with h'|h'
    ·simp[h'] at h0 h1;rw[h0] at h1;cases h1
    ·simp[Array.getElem?_eq_none h'] at h1
   have h2:=wpOp_putIf hoj (hfree j oj hoj hji hjun hnot) (fun cs b=>hsel i oi cs b hi) (fun cs b=>hsel j oj cs b hoj) hQ hy h1;have hfree':∀ k ok,ops[k]?=some ok->k≠i->(listed.setIfInBounds j true).getD k true=false ->
     (∀ e∈ok.after,Region.binds md e=true->e.on≠i)->oi.apart ops ok=true:=fun k ok hk hki hun hno=>by
    refine hfree k ok hk hki ?_ hno;by_cases hjk:j=k
    ·subst hjk;exact hjun
    ·rw[getD_set_ne true hjk] at hun;exact hun
   have hsame:((listed.setIfInBounds i true).setIfInBounds j true).getD k true=(listed.setIfInBounds j true).getD k true:=by
    rw[Array.setIfInBounds_comm _ _ (Ne.symm hji),getD_set_ne true hik]
   refine wpOp_mono (fun a' w' h3=>?_) h2;obtain⟨hy',⟨hs1,hs2⟩,hW⟩:=h3;rw[hsame] at hs2;refine⟨⟨hs1,hs2⟩,ih (listed.setIfInBounds j true) a' w' hfree' (ready_mono hr (Ne.symm hji)) hy' hs1 hs2 ?_⟩;rw[Array.setIfInBounds_comm _ _ hji];exact hW
theorem zub {i:Nat} {oi:Oper} {v:Value} (hi:ops[i]?=some oi) (hsel:∀ (j:Nat) (o:Oper) cs b,ops[j]?=some o->o.op ≠ .select cs b)
  (hQ:∀ c a w,Q (.panic c) (a.put oi.dst v) w->Q (.panic c) a w) (hik:i≠k) (hwait:∃ ok,ops[k]?=some ok/\∃ e∈ok.after,Region.binds md e=true/\e.on=i) :
  ∀ (fuel:Nat) (listed:Array Bool) (a:Act) (w:World),
   (∀ j oj,ops[j]?=some oj->j≠i->listed.getD j true=false->(∀ e∈oj.after,Region.binds md e=true->e.on≠i)->oi.apart ops oj=true) ->
   i∈Region.ready md ops listed->YieldsIf P ops S2 oi v a->S1 w->(listed.getD k true=false/\S2 w) ->
   wpG P md ops Q S1 S2 k fuel (listed.setIfInBounds i true) (a.put oi.dst v) w->wpG P md ops Q S1 S2 k (fuel+1) listed a w:=by
 intro fuel
 induction fuel with
 | zero =>
  intro listed a w hfree hr hy hS1 HH H;refine⟨fun h=>(by rw[h] at hr;cases hr),fun j hj=>?_⟩;by_cases hji:j=i
  ·subst hji;exact hy.wpOp hi HH.2 ⟨⟨hS1,fun h=>HH.2⟩,H⟩
  ·have:=ready_mono hj hji;rw[H.1] at this
   cases this
 | succ fuel ih =>
  intro listed a w hfree hr hy hS1 HH H;refine⟨fun h=>(by rw[h] at hr;cases hr),fun j hj=>?_⟩;by_cases hji:j=i
  ·subst hji;exact hy.wpOp hi HH.2 ⟨⟨hS1,fun h=>HH.2⟩,H⟩
  ·have h1:=H.2 j (ready_mono hj hji);obtain⟨hjun,oj,hoj,hall⟩:=mem_ready.1 hj;have hnot:∀ e∈oj.after,Region.binds md e=true->e.on≠i:=fun e he hb heq=>by
    have h1:=hall e he hb;have h0:=(mem_ready.1 hr).1;rw[heq] at h1;rcases Nat.lt_or_ge i listed.size with h'|h'
    ·simp[h'] at h0 h1;rw[h0] at h1;cases h1
    ·simp[Array.getElem?_eq_none h'] at h1
   have h2:=wpOp_putIf hoj (hfree j oj hoj hji hjun hnot) (fun cs b=>hsel i oi cs b hi) (fun cs b=>hsel j oj cs b hoj) hQ hy h1;have hfree':∀ k ok,ops[k]?=some ok->k≠i->(listed.setIfInBounds j true).getD k true=false ->
     (∀ e∈ok.after,Region.binds md e=true->e.on≠i)->oi.apart ops ok=true:=fun k ok hk hki hun hno=>by
    refine hfree k ok hk hki ?_ hno;by_cases hjk:j=k
    ·subst hjk;exact hjun
    ·rw[getD_set_ne true hjk] at hun;exact hun
   have hsame:((listed.setIfInBounds i true).setIfInBounds j true).getD k true=(listed.setIfInBounds j true).getD k true:=by
    rw[Array.setIfInBounds_comm _ _ (Ne.symm hji),getD_set_ne true hik]
   have hjk:j≠k:=fun e'=>by
    obtain⟨ok,hok,e,he,hb,heq⟩:=hwait;rw[<-e',hoj] at hok;injection hok with hok;subst hok;exact hnot e he hb heq
   have ak:(listed.setIfInBounds j true).getD k true=false:=by rw[getD_set_ne true hjk];exact HH.1
   refine wpOp_mono (fun a' w' h3=>?_) h2;obtain⟨hy',⟨hs1,hs2⟩,hW⟩:=h3;have kM:=hs2 (by rw[hsame];exact ak);refine⟨⟨hs1,fun _=>kM⟩,ih (listed.setIfInBounds j true) a' w' hfree' (ready_mono hr (Ne.symm hji)) hy' hs1 ⟨ak,kM⟩ ?_⟩;rw[Array.setIfInBounds_comm _ _ hji];exact hW
theorem zkJ {i:Nat} {oi:Oper} {v:Value} {fuel:Nat} {listed:Array Bool} {a:Act} {w:World} (hi:ops[i]?=some oi)
  (hs:Region.noSelect ops=true) (hf:Region.free md ops listed i=true) (hr:(Region.ready md ops listed).contains i=true) (hik:i≠k)
  (hQ:∀ c a w,Q (.panic c) (a.put oi.dst v) w->Q (.panic c) a w) (hy:YieldsIf P ops S1 oi v a) (hS:S1 w/\S2 w)
  (h:wpG P md ops Q S1 S2 k fuel (listed.setIfInBounds i true) (a.put oi.dst v) w):wpG P md ops Q S1 S2 k (fuel+1) listed a w :=
 zp5 hi (Region.noSelect_spec hs) hQ hik fuel listed a w (Region.free_spec hi hf) (by simpa using hr) hy hS.1 (fun _=>hS.2) h
theorem zkV {i:Nat} {oi ok:Oper} {v:Value} {fuel:Nat} {listed:Array Bool} {a:Act} {w:World} (hi:ops[i]?=some oi)
  (hs:Region.noSelect ops=true) (hf:Region.free md ops listed i=true) (hr:(Region.ready md ops listed).contains i=true) (hik:i≠k)
  (hok:ops[k]?=some ok) (hwait:ok.after.any (fun e=>Region.binds md e&&e.on==i)=true) (hlk:listed.getD k true=false)
  (hQ:∀ c a w,Q (.panic c) (a.put oi.dst v) w->Q (.panic c) a w) (hy:YieldsIf P ops S2 oi v a) (hS:S1 w/\S2 w)
  (h:wpG P md ops Q S1 S2 k fuel (listed.setIfInBounds i true) (a.put oi.dst v) w):wpG P md ops Q S1 S2 k (fuel+1) listed a w :=
 zub hi (Region.noSelect_spec hs) hQ hik ⟨ok,hok,by
  obtain⟨i',hi',h'⟩:=Array.any_iff_exists.1 hwait;simp only[Bool.and_eq_true,beq_iff_eq] at h';exact⟨_,Array.getElem_mem _,h'.2.2.1,h'.2.2.2⟩⟩ fuel listed a w (Region.free_spec hi hf) (by simpa using hr) hy hS.1 ⟨hlk,hS.2⟩ h
theorem zzs {i:Nat} {o:Oper} {fuel:Nat} {listed:Array Bool} {a:Act} {w:World} (hr:Region.ready md ops listed=[i]) (ho:ops[i]?=some o)
  (h:∀ K':Act->World->Prop,Shut (∀ a w,S1 w/\S2 w->wpG P md ops Q S1 S2 k fuel (listed.setIfInBounds i true) a w->K' a w)->if Region.wanted o (yielded ops a.tmps)=true then Oper.wp P o a w K' Q else K' (a.put o.dst undef) w) :
  wpG P md ops Q S1 S2 k (fuel+1) listed a w:=by
 refine⟨(fun h0=>by rw[hr] at h0;cases h0),fun j hj=>?_⟩;rw[hr] at hj;simp only[List.mem_singleton] at hj;subst hj;exact wpOp_step ho fun K' hK=>h K' fun a w hS hW=>hK a w ⟨⟨hS.1,fun _=>hS.2⟩,hW⟩
theorem zxi {i:Nat} {o:Oper} {fuel:Nat} {listed:Array Bool} {a:Act} {w:World} (hr:Region.ready md ops listed=[i]) (ho:ops[i]?=some o) (hk:(listed.setIfInBounds i true).getD k true=true)
  (h:∀ K':Act->World->Prop,Shut (∀ a w,S1 w->wpG P md ops Q S1 S2 k fuel (listed.setIfInBounds i true) a w->K' a w)->if Region.wanted o (yielded ops a.tmps)=true then Oper.wp P o a w K' Q else K' (a.put o.dst undef) w) :
  wpG P md ops Q S1 S2 k (fuel+1) listed a w:=by
 refine⟨(fun h0=>by rw[hr] at h0;cases h0),fun j hj=>?_⟩;rw[hr] at hj;simp only[List.mem_singleton] at hj;subst hj;exact wpOp_step ho fun K' hK=>h K' fun a w hS hW=>hK a w ⟨⟨hS,fun h=>by rw[hk] at h;cases h⟩,hW⟩
theorem zxj {fuel:Nat} {listed:Array Bool} {a:Act} {w:World} (hr:Region.ready md ops listed=[]) (h:Q .normal a w):wpG P md ops Q S1 S2 k fuel listed a w:=by
 cases fuel with
 | zero=>exact⟨hr,h⟩
 | succ fuel=>exact⟨fun _=>h,fun i hi=>by rw[hr] at hi;cases hi⟩
theorem zkc {id:Nat} {a:Act} {w:World} (S1 S2:World->Prop) (k:Nat) (hm:P.follows .mixedOrders=true)
  (h:wpG P .any ops Q S1 S2 k ops.size (Array.replicate ops.size false) a w.drew):(Code.region id ops true).wp P Q a w :=
 wp_region_any hm (zp7 _ _ _ _ h)
end
section
variable {P:Program} {ops:Array Oper} {Q:Exit->Act->World->Prop} {md:Region.Mode} {S1 S2:World->Prop} {k:Nat}
def ztd (md:Region.Mode) (ops:Array Oper) (m p:Nat):Bool:=match ops[m]? with
 | some o=>o.after.any fun e=>Region.binds md e&&e.on==p
 | none=>false
def zr1 (md:Region.Mode) (ops:Array Oper):Nat->List Nat->Bool
 | _,[]=>true
 | p,m::r=>ztd md ops m p&&zr1 md ops m r
theorem zuT {m p:Nat} (h:ztd md ops m p=true):∃ o,ops[m]?=some o/\∃ e∈o.after,Region.binds md e=true/\e.on=p:=by
 unfold ztd at h
 cases ho:ops[m]? with
 | none=>rw[ho] at h;cases h
 | some o =>
  rw[ho] at h;obtain⟨i',hi',h'⟩:=Array.any_iff_exists.1 h;simp only[Bool.and_eq_true,beq_iff_eq] at h';exact⟨o,rfl,_,Array.getElem_mem _,h'.2.2.1,h'.2.2.2⟩
theorem zr0:∀ {L:List Nat} {p:Nat},zr1 md ops p L=true->∀ m∈L,∃ q,(q=p\/q∈L)/\ztd md ops m q=true
 | [],_,_,_,hm=>by cases hm
 | x::r,p,h,m,hm=>by
  simp only[zr1,Bool.and_eq_true] at h;rcases List.mem_cons.1 hm with rfl|hm
  ·exact⟨p,.inl rfl,h.1⟩
  ·obtain⟨q,hq,hw⟩:=zr0 h.2 m hm;refine⟨q,.inr ?_,hw⟩;rcases hq with rfl|hq
   ·exact List.mem_cons_self ..
   ·exact List.mem_cons_of_mem _ hq
theorem zua {i:Nat} {oi:Oper} {v:Value} (hi:ops[i]?=some oi) (hsel:∀ (j:Nat) (o:Oper) cs b,ops[j]?=some o->o.op ≠ .select cs b)
  (hQ:∀ c a w,Q (.panic c) (a.put oi.dst v) w->Q (.panic c) a w) (ms:List Nat) (hik:i ∉ ms++[k]) (hch:zr1 md ops i (ms++[k])=true) :
  ∀ (fuel:Nat) (listed:Array Bool) (a:Act) (w:World),
   (∀ j oj,ops[j]?=some oj->j≠i->listed.getD j true=false->(∀ e∈oj.after,Region.binds md e=true->e.on≠i)->oi.apart ops oj=true) ->
   i∈Region.ready md ops listed->YieldsIf P ops S2 oi v a->S1 w->((∀ m∈ms++[k],listed.getD m true=false)/\S2 w) ->
   wpG P md ops Q S1 S2 k fuel (listed.setIfInBounds i true) (a.put oi.dst v) w->wpG P md ops Q S1 S2 k (fuel+1) listed a w:=by
 have hik':i≠k:=fun e=>hik (by simp[e]);intro fuel
 induction fuel with
 | zero =>
  intro listed a w hfree hr hy hS1 HH H;refine⟨fun h=>(by rw[h] at hr;cases hr),fun j hj=>?_⟩;by_cases hji:j=i
  ·subst hji;exact hy.wpOp hi HH.2 ⟨⟨hS1,fun h=>HH.2⟩,H⟩
  ·have:=ready_mono hj hji;rw[H.1] at this
   cases this
 | succ fuel ih =>
  intro listed a w hfree hr hy hS1 HH H;refine⟨fun h=>(by rw[h] at hr;cases hr),fun j hj=>?_⟩;by_cases hji:j=i
  ·subst hji;exact hy.wpOp hi HH.2 ⟨⟨hS1,fun h=>HH.2⟩,H⟩
  ·have h1:=H.2 j (ready_mono hj hji);obtain⟨hjun,oj,hoj,hall⟩:=mem_ready.1 hj;have hun:∀ p,listed.getD p true=false->∀ e∈oj.after,Region.binds md e=true->e.on≠p:=fun p h0 e he hb heq=>by
    have h1:=hall e he hb;rw[heq] at h1;rcases Nat.lt_or_ge p listed.size with h'|h'
    ·simp[h'] at h0 h1;rw[h0] at h1;cases h1
    ·simp[Array.getElem?_eq_none h'] at h1
   have hnot:∀ e∈oj.after,Region.binds md e=true->e.on≠i:=hun i (mem_ready.1 hr).1;have h2:=wpOp_putIf hoj (hfree j oj hoj hji hjun hnot) (fun cs b=>hsel i oi cs b hi) (fun cs b=>hsel j oj cs b hoj) hQ hy h1;have hfree':∀ k ok,ops[k]?=some ok->k≠i->(listed.setIfInBounds j true).getD k true=false ->
     (∀ e∈ok.after,Region.binds md e=true->e.on≠i)->oi.apart ops ok=true:=fun k ok hk hki hun hno=>by
    refine hfree k ok hk hki ?_ hno;by_cases hjk:j=k
    ·subst hjk;exact hjun
    ·rw[getD_set_ne true hjk] at hun;exact hun
   have hsame:((listed.setIfInBounds i true).setIfInBounds j true).getD k true=(listed.setIfInBounds j true).getD k true:=by
    rw[Array.setIfInBounds_comm _ _ (Ne.symm hji),getD_set_ne true hik']
   have hjm:∀ m∈ms++[k],j≠m:=fun m hm e'=>by
    obtain⟨q,hq,hw⟩:=zr0 hch m hm;obtain⟨om,uM,e,he,hb,heq⟩:=zuT hw;rw[<-e',hoj] at uM;injection uM with uM;subst uM;refine hun q ?_ e he hb heq;rcases hq with rfl|hq
    ·exact(mem_ready.1 hr).1
    ·exact HH.1 q hq
   have ak:∀ m∈ms++[k],(listed.setIfInBounds j true).getD m true=false:=fun m hm=>by rw[getD_set_ne true (hjm m hm)];exact HH.1 m hm
   refine wpOp_mono (fun a' w' h3=>?_) h2;obtain⟨hy',⟨hs1,hs2⟩,hW⟩:=h3;have kM:=hs2 (by rw[hsame];exact ak k (by simp));refine⟨⟨hs1,fun _=>kM⟩,ih (listed.setIfInBounds j true) a' w' hfree' (ready_mono hr (Ne.symm hji)) hy' hs1 ⟨ak,kM⟩ ?_⟩;rw[Array.setIfInBounds_comm _ _ hji];exact hW
theorem zrj {i:Nat} {oi:Oper} {v:Value} {fuel:Nat} {listed:Array Bool} {a:Act} {w:World} (ms:List Nat) (hi:ops[i]?=some oi)
  (hs:Region.noSelect ops=true) (hf:Region.free md ops listed i=true) (hr:(Region.ready md ops listed).contains i=true) (hik:(ms++[k]).contains i=false)
  (hch:zr1 md ops i (ms++[k])=true) (hlk:(ms++[k]).all (fun m => !listed.getD m true)=true)
  (hQ:∀ c a w,Q (.panic c) (a.put oi.dst v) w->Q (.panic c) a w) (hy:YieldsIf P ops S2 oi v a) (hS:S1 w/\S2 w)
  (h:wpG P md ops Q S1 S2 k fuel (listed.setIfInBounds i true) (a.put oi.dst v) w):wpG P md ops Q S1 S2 k (fuel+1) listed a w :=
 zua hi (Region.noSelect_spec hs) hQ ms (by simpa using hik) hch fuel listed a w (Region.free_spec hi hf) (by simpa using hr) hy hS.1 ⟨fun m hm=>by simpa using List.all_eq_true.1 hlk m hm,hS.2⟩ h
theorem zri {i:Nat} {oi:Oper} {v:Value} {fuel:Nat} {listed:Array Bool} {a:Act} {w:World} (hi:ops[i]?=some oi)
  (hs:Region.noSelect ops=true) (hf:Region.free md ops listed i=true) (hr:(Region.ready md ops listed).contains i=true) (hik:i≠k) (hlk:listed.getD k true=true)
  (hQ:∀ c a w,Q (.panic c) (a.put oi.dst v) w->Q (.panic c) a w) (hy:YieldsIf P ops S1 oi v a) (hS:S1 w)
  (h:wpG P md ops Q S1 S2 k fuel (listed.setIfInBounds i true) (a.put oi.dst v) w):wpG P md ops Q S1 S2 k (fuel+1) listed a w :=
 zp5 hi (Region.noSelect_spec hs) hQ hik fuel listed a w (Region.free_spec hi hf) (by simpa using hr) hy hS (fun e=>by rw[hlk] at e;cases e) h
end
section
variable {P:Program} {ops:Array Oper} {Q:Exit->Act->World->Prop} {md:Region.Mode} {S1 S2:World->Prop} {k:Nat}
theorem zT (i:Nat) {oi:Oper} {v:Value} {fuel:Nat} {listed:Array Bool} {a:Act} {w:World} (hS:S1 w/\S2 w) (h:wpG P md ops Q S1 S2 k fuel (listed.setIfInBounds i true) (a.put oi.dst v) w) (hi:ops[i]?=some oi:=by rfl) (hs:Region.noSelect ops=true:=by kernel_rfl) (hf:Region.free md ops listed i=true:=by kernel_rfl) (hr:(Region.ready md ops listed).contains i=true:=by kernel_rfl) (hik:i≠k:=by decide) (hQ:∀ c a w,Q (.panic c) (a.put oi.dst v) w->Q (.panic c) a w:=by exact fun _ _ _ h=>h) (hy:YieldsIf P ops S1 oi v a:=by (refine Or.inl ⟨by rfl,?_⟩;intro w hSw;(try dsimp only at hSw);(try simp only[zA,zB,zC]);go_simp;(try with_reducible rfl))):wpG P md ops Q S1 S2 k (fuel+1) listed a w:=zkJ hi hs hf hr hik hQ hy hS h
theorem zp (i:Nat) {o:Oper} {fuel:Nat} {listed:Array Bool} {a:Act} {w:World} (h:∀ K':Act->World->Prop,Shut (∀ a w,S1 w->wpG P md ops Q S1 S2 k fuel (listed.setIfInBounds i true) a w->K' a w)->if Region.wanted o (yielded ops a.tmps)=true then Oper.wp P o a w K' Q else K' (a.put o.dst undef) w) (hr:Region.ready md ops listed=[i]:=by kernel_rfl) (ho:ops[i]?=some o:=by rfl) (hk:(listed.setIfInBounds i true).getD k true=true:=by kernel_rfl):wpG P md ops Q S1 S2 k (fuel+1) listed a w:=zxi hr ho hk h
theorem zo (i:Nat) {o:Oper} {fuel:Nat} {listed:Array Bool} {a:Act} {w:World} (h:∀ K':Act->World->Prop,Shut (∀ a w,S1 w/\S2 w->wpG P md ops Q S1 S2 k fuel (listed.setIfInBounds i true) a w->K' a w)->if Region.wanted o (yielded ops a.tmps)=true then Oper.wp P o a w K' Q else K' (a.put o.dst undef) w) (hr:Region.ready md ops listed=[i]:=by kernel_rfl) (ho:ops[i]?=some o:=by rfl):wpG P md ops Q S1 S2 k (fuel+1) listed a w:=zzs hr ho h
theorem zd {fuel:Nat} {listed:Array Bool} {a:Act} {w:World} (h:Q .normal a w) (hr:Region.ready md ops listed=[]:=by kernel_rfl):wpG P md ops Q S1 S2 k fuel listed a w:=zxj hr h
end
end Go.Proofs.YtckhofdinldhpaaGreat
