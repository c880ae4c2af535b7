
/-
  Texts of the proof, put together without their remarks: Tree, Laws, Lex, Name, Spec, Own, InvW, Pi, Bld, Pq, App, ClW, ClV, Ast, Ast2, Ast3, Lim, Val, Clone, Rev.
-/
import Derived.WalkKit
import Derived.WalkSpells
import Derived.WalkLawsBesides
import Derived.Lib.Hide
import Derived.Test.YthjinpodhacleaaGreatProg
import Derived.MapKept
import Derived.KernelRfl
import Derived.Maps.AppendAt
import Derived.RegionTactic
import Derived.BigRegion
set_option linter.unusedSimpArgs false
set_option linter.unusedVariables false
set_option maxHeartbeats 8000000
set_option maxRecDepth 100000
namespace Go.Proofs.YthjinpodhacleaaGreat
open Tryz
open Go Go.RowKit
theorem zA.{u} {α : Type u} {xs : List α} {i : Nat} (h : i < xs.toArray.size) : xs.toArray[i] = xs[i]'h := rfl
theorem zB.{u} {α : Type u} (a : α) (ys : List α) (i : Nat) (h : i + 1 < (a :: ys).length) : (a :: ys)[i + 1] = ys[i]'(Nat.lt_of_succ_lt_succ h) := rfl
theorem zC.{u} {α : Type u} (a : α) (ys : List α) (h : 0 < (a :: ys).length) : (a :: ys)[0] = a := rfl
theorem zD.{u} {α : Type u} (l : List α) (i : Nat) (a : α) : l.toArray.setIfInBounds i a = (l.set i a).toArray := List.setIfInBounds_toArray l i a
theorem zE.{u} {α : Type u} (x : α) (xs : List α) (a : α) : (x :: xs).set 0 a = a :: xs := rfl
theorem zF.{u} {α : Type u} (x : α) (xs : List α) (n : Nat) (a : α) : (x :: xs).set (n + 1) a = x :: xs.set n a := rfl
theorem zh {p : Prop} (h : p) : Go.RowKit.Hid p := h
theorem zX.{u} {α : Sort u} (a : α) : ∃ q, a = q := ⟨a, rfl⟩
theorem zr {b : Nat} {w : World} : Below b w w := Below.refl b w
abbrev zv (w : World) (b o : Nat) (v : Value) : Prop := w.cell? ⟨b, o, none⟩ = some v
abbrev zU : World → Prop := fun _ => True
abbrev zN2 (w : World) (b : Nat) (u0 u1 : Value) : Prop := zv w b 0 u0 ∧ zv w b 1 u1
abbrev zN3 (w : World) (b : Nat) (u0 u1 u2 : Value) : Prop := zv w b 0 u0 ∧ zv w b 1 u1 ∧ zv w b 2 u2
abbrev zN4 (w : World) (b : Nat) (u0 u1 u2 u3 : Value) : Prop := zv w b 0 u0 ∧ zv w b 1 u1 ∧ zv w b 2 u2 ∧ zv w b 3 u3
abbrev zN6 (w : World) (b : Nat) (u0 u1 u2 u3 u4 u5 : Value) : Prop := zv w b 0 u0 ∧ zv w b 1 u1 ∧ zv w b 2 u2 ∧ zv w b 3 u3 ∧ zv w b 4 u4 ∧ zv w b 5 u5
abbrev zN8 (w : World) (b : Nat) (u0 u1 u2 u3 u4 u5 u6 u7 : Value) : Prop := zv w b 0 u0 ∧ zv w b 1 u1 ∧ zv w b 2 u2 ∧ zv w b 3 u3 ∧ zv w b 4 u4 ∧ zv w b 5 u5 ∧ zv w b 6 u6 ∧ zv w b 7 u7
abbrev zW (S1 S2 : World → Prop) (w : World) : Prop := S1 w ∧ S2 w
theorem zV {S1 S2 : World → Prop} {w w' : World} (_ : zW S1 S2 w) (h1 : S1 w') (h2 : S2 w') : zW S1 S2 w' := ⟨h1, h2⟩
theorem zl {n : Nat} : n ≤ n := Nat.le_refl n
theorem zs (w : World) : Below w.heap.size w w := Below.refl _ w
theorem zO {p : Prop} (h : p := by omega) : p := h
theorem zS {p : Prop} (h : p := by simp) : p := h
theorem zY {p : Prop} (h : p := by decide) : p := h
theorem zR {p : Prop} (h : p := by rfl) : p := h
theorem zK {p : Prop} (h : p := by kernel_rfl) : p := h
abbrev zw (w w' : World) : Prop := Below w.heap.size w w'
abbrev zu (v : Value) (w : World) (e : Ending) (w' : World) : Prop := e = .returned v ∧ Below w.heap.size w w'
@[match_pattern] abbrev zi (x : Int) : Value := .int .i64 x
@[match_pattern] abbrev zj (x : Int) : Value := .int .u8 x
@[match_pattern] abbrev zn : Value := .slice none 0 0
theorem zAB {w w1 : World} {o : Obj} (h : Below (w.alloc o).heap.size (w.alloc o) w1) : Below w.heap.size w w1 := ((Below.refl _ _).alloc (Nat.le_refl _) o).trans (h.mono (by simp))
theorem zAC {w w1 w2 : World} {o : Obj} (h : Below w.heap.size w w1) (k : Below (w1.alloc o).heap.size (w1.alloc o) w2) : Below w.heap.size w w2 := (h.alloc h.size o).trans (k.mono (by have := h.size; simp; omega))
theorem zP : (∀ {α : Type} {xs : List α} {i : Nat} (h : i < xs.toArray.size), xs.toArray[i] = xs[i]'h) ∧ (∀ {α : Type} (a : α) (ys : List α) (i : Nat) (h : i + 1 < (a :: ys).length), (a :: ys)[i + 1] = ys[i]'(Nat.lt_of_succ_lt_succ h)) ∧ (∀ {α : Type} (a : α) (ys : List α) (h : 0 < (a :: ys).length), (a :: ys)[0] = a) ∧ (∀ {α : Type} (l : List α) (i : Nat) (a : α), l.toArray.setIfInBounds i a = (l.set i a).toArray) ∧ (∀ {α : Type} (x : α) (xs : List α) (a : α), (x :: xs).set 0 a = a :: xs) ∧ ∀ {α : Type} (x : α) (xs : List α) (n : Nat) (a : α), (x :: xs).set (n + 1) a = x :: xs.set n a := ⟨fun h => rfl, fun _ _ _ _ => rfl, fun _ _ _ => rfl, fun l i a => List.setIfInBounds_toArray l i a, fun _ _ _ => rfl, fun _ _ _ _ => rfl⟩
theorem zQ : (∀ (a : Act) (d : Nat) (v : Value), a.put (some d) v = { a with tmps := a.tmps.setIfInBounds d v }) ∧ (∀ (a : Act) (v : Value), a.put none v = a) ∧ (∀ {α : Type} {xs : List α} {i : Nat} (h : i < xs.toArray.size), xs.toArray[i] = xs[i]'h) ∧ (∀ {α : Type} (a : α) (ys : List α) (i : Nat) (h : i + 1 < (a :: ys).length), (a :: ys)[i + 1] = ys[i]'(Nat.lt_of_succ_lt_succ h)) ∧ (∀ {α : Type} (a : α) (ys : List α) (h : 0 < (a :: ys).length), (a :: ys)[0] = a) ∧ (∀ {α : Type} (l : List α) (i : Nat) (a : α), l.toArray.setIfInBounds i a = (l.set i a).toArray) ∧ (∀ {α : Type} (x : α) (xs : List α) (a : α), (x :: xs).set 0 a = a :: xs) ∧ ∀ {α : Type} (x : α) (xs : List α) (n : Nat) (a : α), (x :: xs).set (n + 1) a = x :: xs.set n a := ⟨fun _ _ _ => rfl, fun _ _ => rfl, fun h => rfl, fun _ _ _ _ => rfl, fun _ _ _ => rfl, fun l i a => List.setIfInBounds_toArray l i a, fun _ _ _ => rfl, fun _ _ _ _ => rfl⟩
end Go.Proofs.YthjinpodhacleaaGreat
namespace Go.Proofs.YthjinpodhacleaaGreat
open Tryz
section
open Go.RowKit
inductive T where
 | nd (k n:Int) (s:ByteArray) (ks:List T)
namespace T
def k:T->Int|.nd k _ _ _=>k
def n:T->Int|.nd _ n _ _=>n
def s:T->ByteArray|.nd _ _ s _=>s
def ks:T->List T|.nd _ _ _ ks=>ks
@[simp] theorem k_nd (k n:Int) (s:ByteArray) (ks:List T):(T.nd k n s ks).k=k:=rfl
@[simp] theorem n_nd (k n:Int) (s:ByteArray) (ks:List T):(T.nd k n s ks).n=n:=rfl
@[simp] theorem s_nd (k n:Int) (s:ByteArray) (ks:List T):(T.nd k n s ks).s=s:=rfl
@[simp] theorem ks_nd (k n:Int) (s:ByteArray) (ks:List T):(T.nd k n s ks).ks=ks:=rfl
theorem ind{p:T->Prop}(h:∀k n s ks,(∀t∈ks,p t)->p (.nd k n s ks)):∀t,p t
 | .nd k n s ks=>h k n s ks fun t _=>ind h t
end T
theorem zy5(a b:ByteArray):(a==b)=(a.toList==b.toList):=by
 rw[Go.ByteArray.toList_eq,Go.ByteArray.toList_eq]
 show ByteArray.beq a b=_
 unfold ByteArray.beq;simp
def LK:Nat:=2513169434916
theorem zyG{n:Nat}(h:n<=LK):n*56<=140737488355328:=by unfold LK at h;omega
theorem zza{n:Nat}(h:n<=LK):n<=maxLen:=by unfold LK at h;unfold maxLen;omega
theorem zkz{n:Nat}(h:n<=LK):n<=2513169434916:=h
def Fld(k n:Int)(s:ByteArray):Prop:=(0<=k/\k<256)/\(-9223372036854775808<=n/\n<=9223372036854775807)/\s.size<=maxLen
structure zsx(w:World)(p:Addr)(u0 u1 u2 u3:Value):Prop where
 c0:w.cell? p=some u0
 c1:w.cell? ⟨p.block,p.off+1,none⟩=some u1
 c2:w.cell? ⟨p.block,p.off+2,none⟩=some u2
 c3:w.cell? ⟨p.block,p.off+3,none⟩=some u3
abbrev nv(k n:Int)(s:ByteArray)(A:Option Addr)(l c:Nat):Value:=.agg #[zj k,zi n,.string s,.slice A l c]
inductive NV (w:World) (S:Nat->Prop):T->Value->Prop
 | mk (k n:Int) (s:ByteArray) (ks:List T) (A:Option Addr) (c:Nat) (a:Addr) (U0 U1 U2 U3:Nat->Value) (hf:Fld k n s) (hlk:ks.length<=LK) (hlc:ks.length<=c)
   (hA:0<ks.length->A=some a/\S a.block)(hc:∀i,i<ks.length->zsx w (a.add (i*4)) (U0 i) (U1 i) (U2 i) (U3 i))
   (hk:∀i (hi:i<ks.length),NV w S ks[i] (.agg #[U0 i,U1 i,U2 i,U3 i])):NV w S (.nd k n s ks) (nv k n s A ks.length c)
def zkS(w:World)(S:Nat->Prop)(A:Option Addr)(ts:List T):Prop :=
 ∀i (hi:i<ts.length),∃(a:Addr) (u0 u1 u2 u3:Value),A=some a/\S a.block/\zsx w (a.add (i*4)) u0 u1 u2 u3/\NV w S ts[i] (.agg #[u0,u1,u2,u3])
theorem NV.open_{w:World}{S:Nat->Prop}{t:T}{v:Value}(h:NV w S t v) :
  ∃A c,v=nv t.k t.n t.s A t.ks.length c/\Fld t.k t.n t.s/\t.ks.length<=LK/\t.ks.length<=c/\zkS w S A t.ks:=by
 cases h with
 | mk k n s ks A c a U0 U1 U2 U3 hf hlk hlc hA hc hk =>
  refine⟨A,c,rfl,hf,hlk,hlc,fun i hi=>?_⟩;obtain⟨h1,h2⟩:=hA (by simp at hi;omega);exact⟨a,U0 i,U1 i,U2 i,U3 i,h1,h2,hc i hi,hk i hi⟩
theorem zkS.get{w:World}{S:Nat->Prop}{A:Option Addr}{ts:List T}(h:zkS w S A ts){i:Nat}(hi:i<ts.length) :
  ∃(a:Addr) (t:T) (A':Option Addr) (c':Nat),A=some a/\S a.block/\Hid (ts[i]=t)/\w.cell? (a.add (i*4))=some (zj t.k)/\w.cell? ⟨(a.add (i*4)).block,(a.add (i*4)).off+1,none⟩=some (zi t.n) /\
   w.cell? ⟨(a.add (i*4)).block,(a.add (i*4)).off+2,none⟩=some (.string t.s)/\w.cell? ⟨(a.add (i*4)).block,(a.add (i*4)).off+3,none⟩=some (.slice A' t.ks.length c')/\NV w S t (nv t.k t.n t.s A' t.ks.length c'):=by
 obtain⟨a,u0,u1,u2,u3,hA,hS,hc,hn⟩:=h i hi;obtain⟨A',c',e,_⟩:=hn.open_;injection e with e;simp only[Array.mk.injEq,List.cons.injEq,and_true]at e;obtain⟨rfl,rfl,rfl,rfl⟩:=e;exact⟨a,ts[i],A',c',hA,hS,rfl,hc.c0,hc.c1,hc.c2,hc.c3,hn⟩
abbrev Nd4(w:World)(p:Addr)(t:T)(A:Option Addr)(c:Nat):Prop :=
 w.cell? p=some (zj t.k)/\w.cell? ⟨p.block,p.off+1,none⟩=some (zi t.n)/\w.cell? ⟨p.block,p.off+2,none⟩=some (.string t.s)/\w.cell? ⟨p.block,p.off+3,none⟩=some (.slice A t.ks.length c)
theorem zkj{w:World}{p:Addr}{u:Value}(h:w.cell? p=some u)(o:Obj):(w.alloc o).cell? p=some u:=(World.cell?_alloc_lt w o p (World.block_lt_of_cell? w p h)).trans h
theorem zb{w w':World}{p:Addr}{u:Value}(hb:Below w.heap.size w w')(h:w.cell? p=some u):w'.cell? p=some u:=(hb.cell (World.block_lt_of_cell? w p h)).trans h
theorem zl4{w w':World}{p:Addr}{t:T}{A:Option Addr}{c:Nat}(hb:zw w w')(h:Nd4 w p t A c):Nd4 w' p t A c:=⟨zb hb h.1,zb hb h.2.1,zb hb h.2.2.1,zb hb h.2.2.2⟩
theorem zkS.nd{w:World}{S:Nat->Prop}{A:Option Addr}{ts:List T}(h:zkS w S A ts){i:Nat}(hi:i<ts.length) :
  ∃(a:Addr) (t:T) (A':Option Addr) (c':Nat),A=some a/\S a.block/\Hid (ts[i]=t)/\Nd4 w (a.add (i*4)) t A' c'/\NV w S t (nv t.k t.n t.s A' t.ks.length c'):=by
 obtain⟨a,t,A',c',h1,h2,h3,h4,h5,h6,h7,h8⟩:=h.get hi;exact⟨a,t,A',c',h1,h2,h3,⟨h4,h5,h6,h7⟩,h8⟩
theorem zKd{n:Nat}{p:Nat->Value->Value->Value->Value->Prop}(h:∀i,i<n->∃u0 u1 u2 u3,p i u0 u1 u2 u3) :
  ∃U0 U1 U2 U3:Nat->Value,∀i,i<n->p i (U0 i) (U1 i) (U2 i) (U3 i):=by
 classical
 refine⟨fun i=>if h':i<n then(h i h').choose else .nilFunc,fun i=>if h':i<n then(h i h').choose_spec.choose else .nilFunc,
  fun i=>if h':i<n then(h i h').choose_spec.choose_spec.choose else .nilFunc,fun i=>if h':i<n then(h i h').choose_spec.choose_spec.choose_spec.choose else .nilFunc,fun i hi=>?_⟩
 simp only[hi,dif_pos];exact(h i hi).choose_spec.choose_spec.choose_spec.choose_spec
theorem NV.shut{w:World}{S:Nat->Prop}{k n:Int}{s:ByteArray}{ks:List T}{A:Option Addr}{c:Nat}(hf:Fld k n s)(hlk:ks.length<=LK)(hlc:ks.length<=c)
  (h:zkS w S A ks):NV w S (.nd k n s ks) (nv k n s A ks.length c):=by
 rcases Nat.eq_zero_or_pos ks.length with h0|h0
 ·exact .mk k n s ks A c default (fun _=>.nilFunc) (fun _=>.nilFunc) (fun _=>.nilFunc) (fun _=>.nilFunc) hf hlk hlc (fun h=>absurd h zO) (fun i hi=>absurd hi zO) (fun i hi=>absurd hi zO)
 ·obtain⟨a,_,_,_,_,hA,hS,_⟩:=h 0 h0;have h':∀i,i<ks.length->∃u0 u1 u2 u3,zsx w (a.add (i*4)) u0 u1 u2 u3/\∀hi:i<ks.length,NV w S ks[i] (.agg #[u0,u1,u2,u3]):=by
   intro i hi;obtain⟨a',u0,u1,u2,u3,hA',_,hc,hk⟩:=h i hi;rw[hA]at hA';injection hA' with e;subst e;exact⟨u0,u1,u2,u3,hc,fun _=>hk⟩
  obtain⟨U0,U1,U2,U3,hU⟩:=zKd h';exact .mk k n s ks A c a U0 U1 U2 U3 hf hlk hlc (fun _=>⟨hA,hS⟩) (fun i hi=>(hU i hi).1) (fun i hi=>(hU i hi).2 hi)
section
variable {w w':World} {S S':Nat->Prop} {t:T} {v:Value} {A:Option Addr} {ts:List T}
theorem zsx.keep{p:Addr}{u0 u1 u2 u3:Value}(h:zsx w p u0 u1 u2 u3)(hk:w'.heap[p.block]?=w.heap[p.block]?):zsx w' p u0 u1 u2 u3 :=
 ⟨(World.cell?_of_block (a:=p) hk).trans h.c0,(World.cell?_of_block (a:=⟨p.block,p.off+1,none⟩) hk).trans h.c1,(World.cell?_of_block (a:=⟨p.block,p.off+2,none⟩) hk).trans h.c2,
  (World.cell?_of_block (a:=⟨p.block,p.off+3,none⟩) hk).trans h.c3⟩
theorem zkF(a:Addr)(n:Nat):(a.add n).block=a.block:=by unfold Addr.add;split<;>rfl
theorem NV.keep(h:NV w S t v)(hS:∀b,S b->b<w.heap.size->S' b)(hk:∀b,S b->b<w.heap.size->w'.heap[b]?=w.heap[b]?):NV w' S' t v:=by
 induction h with
 | mk k n s ks A c a U0 U1 U2 U3 hf hlk hlc hA hc _ ih =>
  have hlt:∀i,i<ks.length->a.block<w.heap.size:=fun i hi=>by
   have:=World.block_lt_of_cell? w _ (hc i hi).c0;rwa[zkF]at this
  exact .mk k n s ks A c a U0 U1 U2 U3 hf hlk hlc (fun h=>⟨(hA h).1,hS _ (hA h).2 (hlt 0 h)⟩)
   (fun i hi=>(hc i hi).keep (by rw[zkF];exact hk _ (hA zO).2 (hlt i hi))) ih
theorem zkS.keep(h:zkS w S A ts)(hS:∀b,S b->b<w.heap.size->S' b)(hk:∀b,S b->b<w.heap.size->w'.heap[b]?=w.heap[b]?):zkS w' S' A ts:=by
 intro i hi;obtain⟨a,u0,u1,u2,u3,hA,iF,hc,hn⟩:=h i hi;have hlt:a.block<w.heap.size:=by
  have:=World.block_lt_of_cell? w _ hc.c0;rwa[zkF]at this
 exact⟨a,u0,u1,u2,u3,hA,hS _ iF hlt,hc.keep (by rw[zkF];exact hk _ iF hlt),hn.keep hS hk⟩
abbrev Any:Nat->Prop:=fun _=>True
abbrev From(B:Nat):Nat->Prop:=fun b=>B<=b
theorem NV.any(h:NV w S t v):NV w Any t v:=h.keep (fun _ _ _=>trivial) (fun _ _ _=>rfl)
theorem NV.mono(h:NV w S t v)(hS:∀b,S b->S' b):NV w S' t v:=h.keep (fun b hb _=>hS b hb) (fun _ _ _=>rfl)
theorem NV.later(h:NV w S t v)(hb:zw w w'):NV w' S t v:=h.keep (fun _ hb _=>hb) (fun b _ hlt=>hb.block b hlt)
theorem zkS.later(h:zkS w S A ts)(hb:zw w w'):zkS w' S A ts:=h.keep (fun _ hb _=>hb) (fun b _ hlt=>hb.block b hlt)
theorem zkS.mono(h:zkS w S A ts)(hS:∀b,S b->S' b):zkS w S' A ts:=h.keep (fun b hb _=>hS b hb) (fun _ _ _=>rfl)
theorem zkS.nil:zkS w S A []:=fun i hi=>absurd hi zS
end
#print axioms NV.keep
end
section
open Go.RowKit
structure IsFn(P:Program)(f:FuncId)(fn:Func):Prop where
 at_:P.funcs[f]?=some fn
 name : (fn.name == "runtime.NumGoroutine") = false
 body:fn.body.isNone=false
theorem zkH{P:Program}{f:FuncId}{fn:Func}(h:IsFn P f fn)(args:Array Value)(w:World):(callFunc f args).run P w=.ok (.enter f args) w:=by
 have h1:=h.name;have h2:=h.body;unfold callFunc;simp only[Sem.run_bind,program,Sem.run,Result.andThen_ok,h.at_,h1,h2];rfl
theorem zlY{P:Program}(w:World){K:TypeId}(hK:P.underlying K=some .string)(em:Bool)(s:ByteArray):(Instr.checkKey em 10000 K (.string s)).run P w=.ok () w:=by
 rw[show(10000:Nat)=9999+1 from rfl];unfold Instr.checkKey;simp only[Sem.run_bind,run_underlying hK,Result.andThen_ok];rfl
theorem zma{P:Program}(w:World){K:TypeId}(hK:P.underlying K=some .string)(s:ByteArray)(es:List MapEntry)(r:Option (Nat×Value))(hr:Instr.findNow .string (.string s) es 0=some r):(Instr.findKey K (.string s) es).run P w=.ok r w:=by
 unfold Instr.findKey;simp only[Sem.run_bind,run_underlying hK,Result.andThen_ok,hr];rfl
theorem zkg{P:Program}(w:World){t K E:TypeId}(ht:P.underlying t=some (.map K E))(hK:P.underlying K=some .string)(es:Array MapEntry)(cl:Nat)(k:ByteArray)(v:Value)
  (hnew:Instr.findNow .string (.string k) es.toList 0=some none) :
  (Instr.mapUpdate t (.map (some w.heap.size)) (.string k) v).run P (w.alloc (.map es cl))=.ok () (w.alloc (.map (es.push { key:=.string k,val:=v,born:=cl }) (cl+1))):=by
 have hg:(w.alloc (.map es cl)).heap[w.heap.size]?=some (.map es cl):=heap_alloc_new w _;unfold Instr.mapUpdate;simp only[Sem.run_bind,run_underlying ht,Result.andThen_ok,MapKept.run_getObj_map hg,zlY _ hK,zma _ hK _ _ _ hnew];simp only[setObj,Sem.run,hg];have e:(w.heap.push (.map es cl)).setIfInBounds w.heap.size (.map (es.push { key:=.string k,val:=v,born:=cl }) (cl+1))=w.heap.push (.map (es.push { key:=.string k,val:=v,born:=cl }) (cl+1)):=by
  apply Array.ext_getElem?;intro i;simp only[Array.getElem?_setIfInBounds,Array.getElem?_push,Array.size_push]
  split
  ·subst_vars;simp
  ·rename_i h;rw[if_neg zO,if_neg zO]
 show Result.ok () _=Result.ok () _
 congr 1
 show World.mk _ _ _ _ _=World.mk _ _ _ _ _
 congr 1
theorem zpg{P:Program}(w:World){t K E:TypeId}(ht:P.underlying t=some (.map K E))(hK:P.underlying K=some .string)(es:Array MapEntry)(cl:Nat)(s:ByteArray)(z:Value)
  (r:Option (Nat×Value))(hz:∀w,(zeroValue E).run P w=.ok z w)(hr:Instr.findNow .string (.string s) es.toList 0=some r) :
  (Instr.lookup t (.map (some w.heap.size)) (.string s) false).run P (w.alloc (.map es cl))=.ok ((r.map (·.2)).getD z) (w.alloc (.map es cl)):=by
 have hg:(w.alloc (.map es cl)).heap[w.heap.size]?=some (.map es cl):=heap_alloc_new w _;unfold Instr.lookup
 cases r<;>simp[run_underlying ht,MapKept.run_getObj_map hg,zlY _ hK,zma _ hK _ _ _ hr,hz]
def kws:List ByteArray:=[⟨#[105,110,116]⟩,⟨#[97,114,114,97,121]⟩,⟨#[115,116,97,99,107]⟩,⟨#[112,114,111,99]⟩,⟨#[109,97,105,110]⟩,⟨#[112,117,115,104]⟩,⟨#[112,111,112]⟩,⟨#[114,101,97,100]⟩,⟨#[117,110,114,101,97,100]⟩,⟨#[119,114,105,116,101]⟩,⟨#[117,110,119,114,105,116,101]⟩,⟨#[99,97,108,108]⟩,⟨#[117,110,99,97,108,108]⟩,⟨#[105,102]⟩,⟨#[101,108,115,101]⟩,⟨#[102,105]⟩,⟨#[102,114,111,109]⟩,⟨#[108,111,111,112]⟩,⟨#[117,110,116,105,108]⟩,⟨#[108,111,99,97,108]⟩,⟨#[100,101,108,111,99,97,108]⟩,⟨#[116,111,112]⟩,⟨#[115,105,122,101]⟩]
def kwB(s:ByteArray):Bool:=kws.any fun k=>s.toList==k.toList
def kwE(l:List ByteArray)(i:Nat):List MapEntry:=match l with|[]=>[]|k::r=>{ key:=.string k,val:=.bool true,born:=i }::kwE r (i+1)
def kwEs(n:Nat):Array MapEntry:=(kwE (kws.take n) 0).toArray
theorem zo1(s:ByteArray):∀(l:List ByteArray) (i j:Nat),∃r,Instr.findNow .string (.string s) (kwE l i) j=some r/\(r.map (·.2)).getD (.bool false)=.bool (l.any fun k=>s.toList==k.toList)
 | [],i,j=>⟨none,rfl,zS⟩
 | k::l,i,j=>by
  by_cases h:(s==k)=true
  ·refine⟨some (j,.bool true),?_,by rw[zy5]at h;simp[h]⟩;simp[kwE,Instr.findNow,Instr.sameNow,h]
  ·have h':(s==k)=false:=by simpa using h
   obtain⟨r,h1,h2⟩:=zo1 s l (i+1) (j+1);refine⟨r,?_,by rw[zy5]at h';simp[h',h2]⟩;simp[kwE,Instr.findNow,Instr.sameNow,h',h1]
theorem kwS0(w:World):(Instr.mapUpdate 156 (.map (some w.heap.size)) (.string ⟨#[105,110,116]⟩) (.bool true)).run prog (w.alloc (.map #[] 0))=.ok () (w.alloc (.map (kwEs 1) 1)) :=
 zkg w underlying156 underlying9 #[] 0 _ _ zK
theorem kwS1(w:World):(Instr.mapUpdate 156 (.map (some w.heap.size)) (.string ⟨#[97,114,114,97,121]⟩) (.bool true)).run prog (w.alloc (.map (kwEs 1) 1))=.ok () (w.alloc (.map (kwEs 2) 2)) :=
 zkg w underlying156 underlying9 (kwEs 1) 1 _ _ zK
theorem kwS2(w:World):(Instr.mapUpdate 156 (.map (some w.heap.size)) (.string ⟨#[115,116,97,99,107]⟩) (.bool true)).run prog (w.alloc (.map (kwEs 2) 2))=.ok () (w.alloc (.map (kwEs 3) 3)) :=
 zkg w underlying156 underlying9 (kwEs 2) 2 _ _ zK
theorem kwS3(w:World):(Instr.mapUpdate 156 (.map (some w.heap.size)) (.string ⟨#[112,114,111,99]⟩) (.bool true)).run prog (w.alloc (.map (kwEs 3) 3))=.ok () (w.alloc (.map (kwEs 4) 4)) :=
 zkg w underlying156 underlying9 (kwEs 3) 3 _ _ zK
theorem kwS4(w:World):(Instr.mapUpdate 156 (.map (some w.heap.size)) (.string ⟨#[109,97,105,110]⟩) (.bool true)).run prog (w.alloc (.map (kwEs 4) 4))=.ok () (w.alloc (.map (kwEs 5) 5)) :=
 zkg w underlying156 underlying9 (kwEs 4) 4 _ _ zK
theorem kwS5(w:World):(Instr.mapUpdate 156 (.map (some w.heap.size)) (.string ⟨#[112,117,115,104]⟩) (.bool true)).run prog (w.alloc (.map (kwEs 5) 5))=.ok () (w.alloc (.map (kwEs 6) 6)) :=
 zkg w underlying156 underlying9 (kwEs 5) 5 _ _ zK
theorem kwS6(w:World):(Instr.mapUpdate 156 (.map (some w.heap.size)) (.string ⟨#[112,111,112]⟩) (.bool true)).run prog (w.alloc (.map (kwEs 6) 6))=.ok () (w.alloc (.map (kwEs 7) 7)) :=
 zkg w underlying156 underlying9 (kwEs 6) 6 _ _ zK
theorem kwS7(w:World):(Instr.mapUpdate 156 (.map (some w.heap.size)) (.string ⟨#[114,101,97,100]⟩) (.bool true)).run prog (w.alloc (.map (kwEs 7) 7))=.ok () (w.alloc (.map (kwEs 8) 8)) :=
 zkg w underlying156 underlying9 (kwEs 7) 7 _ _ zK
theorem kwS8(w:World):(Instr.mapUpdate 156 (.map (some w.heap.size)) (.string ⟨#[117,110,114,101,97,100]⟩) (.bool true)).run prog (w.alloc (.map (kwEs 8) 8))=.ok () (w.alloc (.map (kwEs 9) 9)) :=
 zkg w underlying156 underlying9 (kwEs 8) 8 _ _ zK
theorem kwS9(w:World):(Instr.mapUpdate 156 (.map (some w.heap.size)) (.string ⟨#[119,114,105,116,101]⟩) (.bool true)).run prog (w.alloc (.map (kwEs 9) 9))=.ok () (w.alloc (.map (kwEs 10) 10)) :=
 zkg w underlying156 underlying9 (kwEs 9) 9 _ _ zK
theorem zLV(w:World):(Instr.mapUpdate 156 (.map (some w.heap.size)) (.string ⟨#[117,110,119,114,105,116,101]⟩) (.bool true)).run prog (w.alloc (.map (kwEs 10) 10))=.ok () (w.alloc (.map (kwEs 11) 11)) :=
 zkg w underlying156 underlying9 (kwEs 10) 10 _ _ zK
theorem zLU(w:World):(Instr.mapUpdate 156 (.map (some w.heap.size)) (.string ⟨#[99,97,108,108]⟩) (.bool true)).run prog (w.alloc (.map (kwEs 11) 11))=.ok () (w.alloc (.map (kwEs 12) 12)) :=
 zkg w underlying156 underlying9 (kwEs 11) 11 _ _ zK
theorem zLT(w:World):(Instr.mapUpdate 156 (.map (some w.heap.size)) (.string ⟨#[117,110,99,97,108,108]⟩) (.bool true)).run prog (w.alloc (.map (kwEs 12) 12))=.ok () (w.alloc (.map (kwEs 13) 13)) :=
 zkg w underlying156 underlying9 (kwEs 12) 12 _ _ zK
theorem zLS(w:World):(Instr.mapUpdate 156 (.map (some w.heap.size)) (.string ⟨#[105,102]⟩) (.bool true)).run prog (w.alloc (.map (kwEs 13) 13))=.ok () (w.alloc (.map (kwEs 14) 14)) :=
 zkg w underlying156 underlying9 (kwEs 13) 13 _ _ zK
theorem zLR(w:World):(Instr.mapUpdate 156 (.map (some w.heap.size)) (.string ⟨#[101,108,115,101]⟩) (.bool true)).run prog (w.alloc (.map (kwEs 14) 14))=.ok () (w.alloc (.map (kwEs 15) 15)) :=
 zkg w underlying156 underlying9 (kwEs 14) 14 _ _ zK
theorem zLQ(w:World):(Instr.mapUpdate 156 (.map (some w.heap.size)) (.string ⟨#[102,105]⟩) (.bool true)).run prog (w.alloc (.map (kwEs 15) 15))=.ok () (w.alloc (.map (kwEs 16) 16)) :=
 zkg w underlying156 underlying9 (kwEs 15) 15 _ _ zK
theorem zLP(w:World):(Instr.mapUpdate 156 (.map (some w.heap.size)) (.string ⟨#[102,114,111,109]⟩) (.bool true)).run prog (w.alloc (.map (kwEs 16) 16))=.ok () (w.alloc (.map (kwEs 17) 17)) :=
 zkg w underlying156 underlying9 (kwEs 16) 16 _ _ zK
theorem zLO(w:World):(Instr.mapUpdate 156 (.map (some w.heap.size)) (.string ⟨#[108,111,111,112]⟩) (.bool true)).run prog (w.alloc (.map (kwEs 17) 17))=.ok () (w.alloc (.map (kwEs 18) 18)) :=
 zkg w underlying156 underlying9 (kwEs 17) 17 _ _ zK
theorem zLN(w:World):(Instr.mapUpdate 156 (.map (some w.heap.size)) (.string ⟨#[117,110,116,105,108]⟩) (.bool true)).run prog (w.alloc (.map (kwEs 18) 18))=.ok () (w.alloc (.map (kwEs 19) 19)) :=
 zkg w underlying156 underlying9 (kwEs 18) 18 _ _ zK
theorem zLM(w:World):(Instr.mapUpdate 156 (.map (some w.heap.size)) (.string ⟨#[108,111,99,97,108]⟩) (.bool true)).run prog (w.alloc (.map (kwEs 19) 19))=.ok () (w.alloc (.map (kwEs 20) 20)) :=
 zkg w underlying156 underlying9 (kwEs 19) 19 _ _ zK
theorem zLL(w:World):(Instr.mapUpdate 156 (.map (some w.heap.size)) (.string ⟨#[100,101,108,111,99,97,108]⟩) (.bool true)).run prog (w.alloc (.map (kwEs 20) 20))=.ok () (w.alloc (.map (kwEs 21) 21)) :=
 zkg w underlying156 underlying9 (kwEs 20) 20 _ _ zK
theorem zLK(w:World):(Instr.mapUpdate 156 (.map (some w.heap.size)) (.string ⟨#[116,111,112]⟩) (.bool true)).run prog (w.alloc (.map (kwEs 21) 21))=.ok () (w.alloc (.map (kwEs 22) 22)) :=
 zkg w underlying156 underlying9 (kwEs 21) 21 _ _ zK
theorem zLJ(w:World):(Instr.mapUpdate 156 (.map (some w.heap.size)) (.string ⟨#[115,105,122,101]⟩) (.bool true)).run prog (w.alloc (.map (kwEs 22) 22))=.ok () (w.alloc (.map (kwEs 23) 23)) :=
 zkg w underlying156 underlying9 (kwEs 22) 22 _ _ zK
theorem zK7(s:ByteArray)(w:World):(Instr.lookup 156 (.map (some w.heap.size)) (.string s) false).run prog (w.alloc (.map (kwEs 23) 23))=.ok (.bool (kwB s)) (w.alloc (.map (kwEs 23) 23)):=by
 obtain⟨r,h1,h2⟩:=zo1 s kws 0 0;have h:=zpg (P:=prog) w underlying156 underlying9 (kwEs 23) 23 s (.bool false) r (fun _=>zK) (by rw[<-h1];rfl);rw[h,h2];rfl
theorem zst(s:ByteArray)(w:World)(hs:s.size<=65536):Calls prog 64 #[.string s] w (zu (.bool (decide (2<=s.size)&&decide (s.size<=7)&&kwB s)) w):=by
 by_cases h:2<=s.size/\s.size<=7
 ·obtain⟨h1,h2⟩:=h;have hmm:=@run_makeMap prog;have k0:=kwS0;have k1:=kwS1;have k2:=kwS2;have k3:=kwS3;have k4:=kwS4;have k5:=kwS5;have k6:=kwS6;have k7:=kwS7;have k8:=kwS8;have k9:=kwS9;have k10:=zLV;have k11:=zLU;have k12:=zLT;have k13:=zLS;have k14:=zLR;have k15:=zLQ;have k16:=zLP;have k17:=zLO;have k18:=zLN;have k19:=zLM;have k20:=zLL;have k21:=zLK;have k22:=zLJ;have kl:=zK7 s;go_enter func64,ntmps64;go_wp2;go_ret;exact⟨by simp[h1,h2],zr.alloc zl _⟩
 ·by_cases h1:2<=s.size
  ·have h2:7<s.size:=zO
   clear h;go_enter func64,ntmps64;go_wp2;go_ret;exact⟨by simp[show ¬ s.size<=7 by omega],zr⟩
  ·have h3:s.size<2:=zO
   clear h;go_enter func64,ntmps64;go_wp2;go_ret;exact⟨by simp[show ¬ 2<=s.size by omega],zr⟩
def letB(c:Int):Bool:=decide (97<=c)&&decide (c<=122)
def digB(c:Int):Bool:=decide (48<=c)&&decide (c<=57)
def aluB(c:Int):Bool:=letB c||digB c
def blkB(c:Int):Bool:=c==32||c==9||c==13||c==10
theorem zmY(c:Int)(w:World):Calls prog 94 #[zj c] w fun e w'=>e=.returned (.bool (letB c))/\w=w':=by
 go_enter func94,ntmps94;go_wp2
 all_goals (go_ret;exact⟨by simp[letB, *]<;>omega,rfl⟩)
theorem znC(c:Int)(w:World):Calls prog 97 #[zj c] w fun e w'=>e=.returned (.bool (digB c))/\w=w':=by
 go_enter func97,ntmps97;go_wp2
 all_goals (go_ret;exact⟨by simp[digB, *]<;>omega,rfl⟩)
theorem zrp(c:Int)(w:World):Calls prog 98 #[zj c] w fun e w'=>e=.returned (.bool (blkB c))/\w=w':=by
 go_enter func98,ntmps98;go_wp2
 all_goals (go_ret;exact⟨by simp[blkB, *],rfl⟩)
theorem zt1(c:Int)(w:World):Calls prog 96 #[zj c] w fun e w'=>e=.returned (.bool (aluB c))/\w=w':=by
 go_enter func96,ntmps96;by_cases h:letB c=true
 ·go_wp2_with (first|(go_at_call 94;refine(zmY _ _).mono ?_;rintro e w' ⟨rfl,rfl⟩)|(go_at_call 97;refine(znC _ _).mono ?_;rintro e w' ⟨rfl,rfl⟩))
  go_ret;exact⟨by simp[aluB,h],rfl⟩
 ·have h':letB c=false:=by simpa using h
  clear h;go_wp2_with (first|(go_at_call 94;refine(zmY _ _).mono ?_;rintro e w' ⟨rfl,rfl⟩)|(go_at_call 97;refine(znC _ _).mono ?_;rintro e w' ⟨rfl,rfl⟩))
  go_ret;exact⟨by simp[aluB,h'],rfl⟩
theorem zt0(c:Int)(w:World):Calls prog 99 #[zj c] w fun e w'=>e=.returned (.bool (c != 10))/\w=w':=by
 go_enter func99,ntmps99;go_wp2
 all_goals (go_ret;exact⟨rfl,rfl⟩)
def zrT(p:Int->Bool)(l:List UInt8):Nat:=(l.takeWhile fun c=>p c.toNat).length
theorem znb{α:Type}(p:α->Bool):∀(l:List α) (j:Nat) (h:j<l.length),(∀c∈l.take j,p c=true)->p l[j]=false->(l.takeWhile p).length=j
 | [],j,h,_,_=>by simp at h
 | x::l,0,_,_,h2=>by simp at h2;simp[List.takeWhile,h2]
 | x::l,j+1,h,h1,h2=>by
  have hx:p x=true:=h1 x zS;have:=znb p l j (by simpa using h) (fun c hc=>h1 c (by simp[hc])) (by simpa using h2);simp[List.takeWhile,hx,this]
theorem zno{α:Type}(p:α->Bool):∀(l:List α),(∀c∈l,p c=true)->(l.takeWhile p).length=l.length
 | [],_=>rfl
 | x::l,h=>by
  have hx:p x=true:=h x zS;have:=zno p l (fun c hc=>h c (by simp[hc]));simp[List.takeWhile,hx,this]
theorem zl3(s:ByteArray):s.toList.length=s.size:=by rw[Go.ByteArray.toList_eq];rfl
theorem zLs(s:ByteArray)(j:Nat)(h:j<s.size):s.toList[j]'(by rw[zl3];exact h)=s[j]:=by
 simp only[Go.ByteArray.toList_eq];rfl
theorem zoi(f:FuncId)(fn:Func)(hfn:IsFn prog f fn)(p:Int->Bool)(hf:∀c w,Calls prog f #[zj c] w fun e w'=>e=.returned (.bool (p c))/\w=w')(s:ByteArray)(w:World)(hs:s.size<=65536) :
  Calls prog 95 #[.string s,.func (.func f) #[] #[]] w fun e w'=>e=.returned (zi (zrT p s.toList))/\w=w':=by
 have HF:=zh hf;have hcall:=zkH hfn;clear hf hfn;go_enter func95,ntmps95;go_wp2
 go_loop [4,5,8] (fun r x i=>∃j:Nat,j<=s.size/\i=zi j/\r=zi 0/\Hid (∀c∈s.toList.take j,p c.toNat=true)) (fun _ _ i=>s.size-(intOf i).toNat)
 case atStart=>exact⟨0,zO,rfl,rfl,fun c hc=>by simp at hc⟩
 case round =>
  obtain⟨j,hj,rfl,rfl,HP⟩:=hrel;by_cases hlt:j<s.size
  ·have hg:=zh (zLs s j hlt);go_wp2_with fail;refine(HF.out _ _).mono ?_;rintro e w' ⟨rfl,rfl⟩
   cases hp:p s[j].toNat
   ·go_wp2_with fail;go_ret;exact⟨by rw[zrT,znb _ _ j (by rw[zl3];exact hlt) HP.out (by rw[hg.out];exact hp)];rfl,rfl⟩
   ·have lT:=zh hp;go_wp2_with fail
    go_round
    case rel =>
     refine⟨j+1,zO,by go_num,rfl,?_⟩;intro c hc;rw[List.take_succ_eq_append_getElem (by rw[zl3];exact hlt),hg.out]at hc;rcases List.mem_append.1 hc with hc|hc
     ·exact HP.out c hc
     ·rw[List.mem_singleton.1 hc];exact lT.out
    case measure=>simp[intOf];omega
  ·go_wp2_with fail;go_ret;have e:=zno (fun c:UInt8=>p c.toNat) s.toList (fun c hc=>HP.out c (by rw[List.take_of_length_le (by rw[zl3];omega)];exact hc));exact⟨by rw[zrT,e,zl3];rfl,rfl⟩
theorem zz3:IsFn prog 97 f97:=⟨func97,zK,zK⟩
theorem zz5:IsFn prog 98 f98:=⟨func98,zK,zK⟩
theorem zx0:IsFn prog 96 f96:=⟨func96,zK,zK⟩
theorem zxZ:IsFn prog 99 f99:=⟨func99,zK,zK⟩
theorem zzu(args:Array Value)(w:World):(callFunc 165 args).run prog w=((Extern.BytealgIndexByte.indexByte args).run prog w).andThen fun v w'=>.ok (.value v) w' :=
 run_callFunc_extern func165 zK zK zK zK args w
theorem zxg(s:ByteArray)(c:Int)(w:World):(callFunc 165 #[.string s,zj c]).run prog w=.ok (.value (zi (firstIdx s c.toNat.toUInt8))) w:=by
 rw[zzu,run_indexByte_string];rfl
theorem znJ(s:ByteArray)(c:Int)(w:World):Calls prog 126 #[.string s,zj c] w fun e w'=>(∃m,e=.returned (zi m))/\w=w':=by
 have hx:=zxg;go_enter func126,ntmps126;go_wp2;go_ret;exact⟨⟨_,rfl⟩,rfl⟩
theorem zqx(s p:ByteArray)(w:World)(hs:s.size<=65536)(hp:p.size<=65536):Calls prog 125 #[.string s,.string p] w fun e w'=>(∃b,e=.returned (.bool b))/\w=w':=by
 by_cases h:p.size<=s.size
 ·go_enter func125,ntmps125;go_wp2
  all_goals (go_ret;exact⟨⟨_,rfl⟩,rfl⟩)
 ·go_enter func125,ntmps125;go_wp2
  all_goals (go_ret;exact⟨⟨_,rfl⟩,rfl⟩)
theorem zxe(s:ByteArray)(w:World)(hs:s.size<=65536)(h0:0<s.size):Calls prog 100 #[.string s] w fun e w'=>(∃m,e=.returned (zi m))/\w=w':=by
 go_enter func100,ntmps100;go_wp2_with fail;refine(zqx _ _ _ hs zY).mono ?_;rintro e w' ⟨⟨b,rfl⟩,rfl⟩
 cases b
 ·by_cases h2:s.size<2
  ·go_wp2_with (go_at_call 126;refine(znJ _ _ _).mono ?_;rintro e w' ⟨⟨m,rfl⟩,rfl⟩)
   all_goals (go_ret;exact⟨⟨_,rfl⟩,rfl⟩)
  ·have h3:2<=s.size:=zO
   clear h2;go_wp2_with (go_at_call 126;refine(znJ _ _ _).mono ?_;rintro e w' ⟨⟨m,rfl⟩,rfl⟩)
   all_goals (go_ret;exact⟨⟨_,rfl⟩,rfl⟩)
 ·go_wp2_with fail;go_ret;exact⟨⟨_,rfl⟩,rfl⟩
def zKG(w:World)(e:Ending)(w':World):Prop:=(∃k m,k≠1/\e=.returned (.tuple #[zj k,zi m]))/\w=w'
theorem zpP(s:ByteArray)(w:World)(hs:s.size<=65536)(h0:0<s.size)(hl:letB s[0].toNat=true) :
  Calls prog 63 #[.string s] w fun e w'=>e=.returned (.tuple #[zj 1,zi (zrT aluB s.toList)])/\w=w':=by
 go_enter func63,ntmps63;go_wp2_with fail;refine(zmY _ _).mono ?_;rintro e w' ⟨rfl,rfl⟩;go_wp2_with fail;refine(zoi _ _ zx0 aluB zt1 s _ hs).mono ?_;rintro e w' ⟨rfl,rfl⟩;go_wp2_with fail;go_ret2;exact⟨rfl,rfl⟩
theorem zsg(s:ByteArray)(w:World)(hs:s.size<=65536)(h0:0<s.size)(hl:letB s[0].toNat=false) :
  Calls prog 63 #[.string s] w (zKG w):=by
 go_enter func63,ntmps63;go_wp2_with fail;refine(zmY _ _).mono ?_;rintro e w' ⟨rfl,rfl⟩;go_wp2_with fail;refine(znC _ _).mono ?_;rintro e w' ⟨rfl,rfl⟩
 cases hd:digB s[0].toNat
 ·go_wp2_with fail;refine(zrp _ _).mono ?_;rintro e w' ⟨rfl,rfl⟩
  cases hb:blkB s[0].toNat
  ·cases hc:((s[0].toNat:Int)==35)
   ·go_wp2_with fail;refine(zxe s _ hs h0).mono ?_;rintro e w' ⟨⟨m,rfl⟩,rfl⟩;go_wp2_with fail;go_ret2;exact⟨⟨3,m,zY,rfl⟩,rfl⟩
   ·go_wp2_with fail;refine(zoi _ _ zxZ _ zt0 s _ hs).mono ?_;rintro e w' ⟨rfl,rfl⟩;go_wp2_with fail;go_ret2;exact⟨⟨5,_,zY,rfl⟩,rfl⟩
  ·go_wp2_with fail;refine(zoi _ _ zz5 _ zrp s _ hs).mono ?_;rintro e w' ⟨rfl,rfl⟩;go_wp2_with fail;go_ret2;exact⟨⟨4,_,zY,rfl⟩,rfl⟩
 ·go_wp2_with fail;refine(zoi _ _ zz3 _ znC s _ hs).mono ?_;rintro e w' ⟨rfl,rfl⟩;go_wp2_with fail;go_ret2;exact⟨⟨2,_,zY,rfl⟩,rfl⟩
def zmo(s:ByteArray):Bool:=decide (0<s.size)&&decide (s.size<=16)&&(if h:0<s.size then letB s[0].toNat else false)&&decide (zrT aluB s.toList=s.size) && !(decide (2<=s.size)&&decide (s.size<=7)&&kwB s)
theorem zou(s:ByteArray)(w:World):Calls prog 34 #[.string s] w (zu (.bool (zmo s)) w):=by
 by_cases hz:s.size=0
 ·have h1:s.toList=[]:=List.eq_nil_of_length_eq_zero (by rw[zl3];exact hz);have hfin:=zh (show zmo s=false by simp[zmo,hz]);clear hz;go_enter func34,ntmps34;go_wp2_with fail;go_ret;exact⟨by rw[hfin.out];rfl,zr⟩
 ·have h0:0<s.size:=zO
  have h1:s.toList.isEmpty=false:=by
   cases hl:s.toList with
   | nil=>have:=zl3 s;rw[hl]at this;simp at this;omega
   | cons _ _=>rfl
  have h1':¬ s.toList=[]:=by intro h;rw[h]at h1;cases h1
  clear hz;by_cases h16:s.size<=16
  ·cases hl:letB s[0].toNat
   ·have hfin:=zh (show zmo s=false by simp[zmo,h0,hl]);have HL:=zh hl;clear hl;go_enter func34,ntmps34;go_wp2_with fail;refine(zsg s _ zO h0 HL.out).mono ?_;rintro e w' ⟨⟨k,m,hk,rfl⟩,rfl⟩;have hk':(k==1)=false:=by simpa using hk
    clear hk;go_wp2_with fail;go_ret;exact⟨by rw[hfin.out];rfl,zr⟩
   ·have HL:=zh hl;by_cases hsp:zrT aluB s.toList=s.size
    ·have hfin:=zh (show zmo s = !(decide (2<=s.size)&&decide (s.size<=7)&&kwB s) by simp[zmo,h0,hl,h16,hsp]);have HS:=zh hsp;clear hl hsp;go_enter func34,ntmps34;go_wp2_with fail;refine(zpP s _ zO h0 HL.out).mono ?_;rintro e w' ⟨rfl,rfl⟩;rw[HS.out];go_wp2_with fail;refine(zst s _ zO).mono ?_;rintro e w' ⟨rfl,hb⟩;go_wp2_with fail;go_ret;exact⟨by rw[hfin.out];simp,hb⟩
    ·have hfin:=zh (show zmo s=false by simp[zmo,h0,hl,h16,hsp]);clear hl;generalize hm:zrT aluB s.toList=m at *
     have HM:=zh hm;have hm':(((m:Nat):Int)==(s.size:Int))=false:=by simp;omega
     have hm'':(m==s.size)=false:=by simpa using hsp
     clear hm hsp;go_enter func34,ntmps34;go_wp2_with fail;refine(zpP s _ zO h0 HL.out).mono ?_;rintro e w' ⟨rfl,rfl⟩;rw[HM.out];go_wp2_with fail;go_ret;exact⟨by rw[hfin.out];rfl,zr⟩
  ·have hfin:=zh (show zmo s=false by simp[zmo,h16]);have h17:16<s.size:=zO
   clear h16;go_enter func34,ntmps34;go_wp2_with fail;go_ret;exact⟨by rw[hfin.out];rfl,zr⟩
mutual
def size:T->Nat
 | .nd _ _ _ ks=>1+zk0 ks
def zk0:List T->Nat
 | []=>0
 | t::ts=>size t+zk0 ts
end
theorem ztB(ks:List T)(i:Nat)(h:i<ks.length):zk0 (ks.take (i+1))=zk0 (ks.take i)+size ks[i]:=by
 induction ks generalizing i with
 | nil=>simp at h
 | cons t ts ih =>
  cases i with
  | zero=>simp[zk0]
  | succ i=>simp[zk0,ih i (by simpa using h)];omega
def zko(n:Int)(s:ByteArray):Bool:=n==0&&s.toList.isEmpty
def zkB(n:Int)(s:ByteArray):Bool:=n==0&&zmo s
def zkw(p:Nat->T->Bool):Nat->List T->Bool
 | _,[]=>true
 | i,t::ts=>p i t&&zkw p (i+1) ts
def zkE(m:Nat)(p:Nat->T->Bool)(ks:List T):Bool:=decide (ks.length=m)&&zkw p 0 ks
theorem zkI(p:Nat->T->Bool):∀(i:Nat) (ks:List T),zkw p i ks=true↔∀j (h:j<ks.length),p (i+j) ks[j]=true
 | i,[]=>by simp[zkw]
 | i,t::ts=>by
  rw[zkw,Bool.and_eq_true,zkI p (i+1) ts]
  constructor
  ·rintro⟨h1,h2⟩ j hj
   cases j with
   | zero=>simpa using h1
   | succ j=>have:=h2 j (by simpa using hj);simpa[Nat.add_assoc,Nat.add_comm 1 j]using this
  ·intro h;exact⟨h 0 (Nat.zero_lt_succ _),fun j hj=>by have:=h (j+1) (by simpa using hj);simpa[Nat.add_assoc,Nat.add_comm 1 j]using this⟩
theorem ztS{m:Nat}{p:Nat->T->Bool}{ks:List T}(hl:ks.length=m)(h:∀j (hj:j<ks.length),p j ks[j]=true):zkE m p ks=true:=by
 simp only[zkE,hl,decide_true,Bool.true_and];rw[zkI];intro j hj;simpa using h j hj
theorem zoQ{m:Nat}{p:Nat->T->Bool}{ks:List T}{j:Nat}(hj:j<ks.length)(h:p j ks[j]=false):zkE m p ks=false:=by
 have:zkw p 0 ks=false:=by
  rw[Bool.eq_false_iff,ne_eq,zkI];intro hh;have:=hh j hj;simp[h]at this
 simp[zkE,this]
theorem zvr{m:Nat}{p:Nat->T->Bool}{ks:List T}(hl:ks.length≠m):zkE m p ks=false:=by simp[zkE,hl]
mutual
/-- ast.IsExpr. -/
def isE:T->Bool
 | .nd k n s ks =>
  if k=1 then decide (0<=n)&&s.toList.isEmpty&&decide (ks.length=0)
  else if k=2\/k=4\/k=5 then zkB n s&&decide (ks.length=0)
  else if k=3 then zkB n s&&(decide (ks.length=1)&&isEs ks)
  else if k=6\/k=7 then zko n s&&(decide (ks.length=1)&&isEs ks)
  else if 8<=k/\k<=23 then zko n s&&(decide (ks.length=2)&&isEs ks)
  else false
def isEs:List T->Bool
 | []=>true
 | t::ts=>isE t&&isEs ts
end
theorem znZ:∀(i:Nat) (ks:List T),isEs ks=zkw (fun _=>isE) i ks
 | _,[]=>by simp[isEs,zkw]
 | i,t::ts=>by simp[isEs,zkw,znZ (i+1) ts]
def isP(t:T):Bool:=(t.k==2||t.k==3)&&isE t
def isV(t:T):Bool:=t.k==2&&isE t
mutual
/-- ast.IsStmt. -/
def isS:T->Bool
 | .nd k n s ks =>
  if k=40\/k=41\/k=42\/k=56 then zko n s&&zkE 2 (fun i=>if i=0 then isP else isE) ks
  else if k=43 then zko n s&&zkE 2 (fun _=>isP) ks
  else if k=44\/k=45 then zkB n s&&zkE 1 (fun _=>isP) ks
  else if k=46\/k=47\/k=48\/k=49 then zko n s&&zkE 1 (fun _=>isP) ks
  else if k=50\/k=51 then zkB n s&&decide (ks.length<=8)&&zkw (fun _=>isV) 0 ks
  else if k=52\/k=53 then zko n s&&(decide (ks.length=4)&&isEB 0 ks)
  else if k=54 then zkB n s&&(decide (ks.length=3)&&isEB 4 ks)
  else if k=55 then zkB n s&&(decide (ks.length=1)&&isEB 7 ks)
  else false
/-- ast.IsBlock. -/
def isB:T->Bool
 | .nd k n s ks=>decide (k=57)&&zko n s&&isSs ks
def isSs:List T->Bool
 | []=>true
 | t::ts=>isS t&&isSs ts
/-- Children of an If or a From (from place 0),of a Local (from place 4),of a LocalStack (from place 7). -/
def isEB:Nat->List T->Bool
 | _,[]=>true
 | i,t::ts=>(if i=0\/i=3\/i=4\/i=6 then isE t else isB t)&&isEB (i+1) ts
end
theorem zqg:∀(i:Nat) (ks:List T),isSs ks=zkw (fun _=>isS) i ks
 | _,[]=>by simp[isSs,zkw]
 | i,t::ts=>by simp[isSs,zkw,zqg (i+1) ts]
def pEB(d i:Nat)(t:T):Bool:=if d+i=0\/d+i=3\/d+i=4\/d+i=6 then isE t else isB t
theorem zmy(d:Nat):∀(i:Nat) (ks:List T),isEB (d+i) ks=zkw (pEB d) i ks
 | _,[]=>by simp[isEB,zkw]
 | i,t::ts=>by
  have:=zmy d (i+1) ts;simp only[isEB,zkw,pEB];rw[<-this,Nat.add_assoc]
def OwnN(w:World)(base:Nat)(E:TypeId)(S:Nat->Prop)(v:Value)(ts:List T):Prop :=
 ∃xs,w.ownsRow base E 4 v ts.length xs/\ts.length<=LK/\∀i (hi:i<ts.length),∃u0 u1 u2 u3,xs[i*4]?=some u0/\xs[i*4+1]?=some u1/\xs[i*4+2]?=some u2/\xs[i*4+3]?=some u3 /\
  NV w (fun b=>S b/\some b≠v.ownBlock) ts[i] (.agg #[u0,u1,u2,u3])
section
variable {w w':World} {base:Nat} {E:TypeId} {S S':Nat->Prop} {v:Value} {ts:List T}
theorem OwnN.nil(w:World)(base:Nat)(E:TypeId)(S:Nat->Prop):OwnN w base E S zn []:=⟨[],World.ownsRow_nil w base E 4,Nat.zero_le _,fun i hi=>absurd hi zS⟩
theorem OwnN.later(h:OwnN w base E S v ts)(hb:zw w w'):OwnN w' base E S v ts:=by
 obtain⟨xs,ho,hl,hn⟩:=h;refine⟨xs,ho.kept (row:=none) ⟨hb.os,hb.tape,hb.output,hb.size,fun k hk _=>hb.block k hk⟩ (by cases v.ownBlock<;>simp),hl,fun i hi=>?_⟩;obtain⟨u0,u1,u2,u3,h0,h1,h2,h3,hv⟩:=hn i hi;exact⟨u0,u1,u2,u3,h0,h1,h2,h3,hv.later hb⟩
theorem OwnN.grown(h:OwnN w base E S v ts){row:Option Nat}(hg:w.grownBy w' row)(hr:∀g,row=some g->¬ S g/\v.ownBlock≠some g):OwnN w' base E S v ts:=by
 obtain⟨xs,ho,hl,hn⟩:=h;have hne:v.ownBlock=none\/v.ownBlock≠row:=by
  cases row with
  | none=>cases v.ownBlock<;>simp
  | some g=>exact .inr (hr g rfl).2
 refine⟨xs,ho.kept hg hne,hl,fun i hi=>?_⟩;obtain⟨u0,u1,u2,u3,h0,h1,h2,h3,hv⟩:=hn i hi;refine⟨u0,u1,u2,u3,h0,h1,h2,h3,hv.keep (fun b hb _=>hb) (fun b hb hlt=>hg.block b hlt ?_)⟩;intro e;exact(hr b e.symm).1 hb.1
theorem OwnN.mono(h:OwnN w base E S v ts)(hS:∀b,S b->S' b):OwnN w base E S' v ts:=by
 obtain⟨xs,ho,hl,hn⟩:=h;refine⟨xs,ho,hl,fun i hi=>?_⟩;obtain⟨u0,u1,u2,u3,h0,h1,h2,h3,hv⟩:=hn i hi;exact⟨u0,u1,u2,u3,h0,h1,h2,h3,hv.mono (fun b hb=>⟨hS b hb.1,hb.2⟩)⟩
theorem OwnN.lk(h:OwnN w base E S v ts):ts.length<=LK:=let ⟨_,_,hl,_⟩:=h;hl
theorem OwnN.block(h:OwnN w base E S v ts):∀k,v.ownBlock=some k->base<=k/\k<w.heap.size:=let ⟨_,ho,_,_⟩:=h;ho.lt
theorem OwnN.row(h:OwnN w base E S v ts):∃A c,v=.slice A ts.length c/\ts.length<=c/\zkS w (fun b=>S b\/v.ownBlock=some b) A ts/\(∀a,A=some a->∃g,a=⟨g,0,none⟩/\base<=g/\g<w.heap.size/\v.ownBlock=some g):=by
 obtain⟨xs,ho,hl,hn⟩:=h;rcases ho.2 with⟨rfl,h0⟩|⟨g,cap,cur,rfl,hb,hg,hc,hm,hz,hx⟩
 ·exact⟨none,0,by rw[h0],zO,fun i hi=>absurd hi zO,fun a h=>by cases h⟩
 ·refine⟨some ⟨g,0,none⟩,cap,rfl,hc,fun i hi=>?_,fun a h=>by injection h with h;exact⟨g,h.symm,hb,(Array.getElem?_eq_some_iff.1 hg).1,rfl⟩⟩;obtain⟨u0,u1,u2,u3,h0,h1,h2,h3,hv⟩:=hn i hi;have hcell:∀j u,j<4->xs[i*4+j]?=some u->w.cell? ⟨g,i*4+j,none⟩=some u:=by
   intro j u hj hu;rw[ho.cellAt (i*4+j) zO];exact hu
  refine⟨⟨g,0,none⟩,u0,u1,u2,u3,rfl,.inr rfl,?_,hv.mono fun b hb=>.inl hb.1⟩;have ha:(⟨g,0,none⟩:Addr).add (i*4)=⟨g,i*4,none⟩:=by unfold Addr.add;split<;>simp_all
  rw[ha];exact⟨hcell 0 u0 zO h0,hcell 1 u1 zO h1,hcell 2 u2 zO h2,hcell 3 u3 zO h3⟩
end
theorem zpi(k n:Int)(s:ByteArray)(A:Option Addr)(l c:Nat):∀u∈[Value.int .u8 k,zi n,.string s,.slice A l c],u.oneCell'=true:=by
 intro u hu;simp at hu;rcases hu with rfl|rfl|rfl|rfl<;>rfl
theorem zxz(W:World)(E:TypeId)(u0 u1 u2 u3:Value):∀j u,[u0,u1,u2,u3][j]?=some u->(W.alloc (.cells #[u0,u1,u2,u3] E)).cell? ((⟨W.heap.size,0,none⟩:Addr).add j)=some u:=by
 intro j u hj;have hh:(W.alloc (.cells #[u0,u1,u2,u3] E)).heap[W.heap.size]?=some (.cells #[u0,u1,u2,u3] E (0,0)):=heap_alloc_new W _;have ha:(⟨W.heap.size,0,none⟩:Addr).add j=⟨W.heap.size,j,none⟩:=by unfold Addr.add;split<;>simp_all
 rw[ha];simp only[World.cell?,hh];simpa using hj
theorem zkU(W:World)(E:TypeId)(l:List Value):∀j u,l[j]?=some u->(W.alloc (.cells l.toArray E)).cell? ((⟨W.heap.size,0,none⟩:Addr).add j)=some u:=by
 intro j u hj;have hh:(W.alloc (.cells l.toArray E)).heap[W.heap.size]?=some (.cells l.toArray E (0,0)):=heap_alloc_new W _;have ha:(⟨W.heap.size,0,none⟩:Addr).add j=⟨W.heap.size,j,none⟩:=by unfold Addr.add;split<;>simp_all
 rw[ha];simp only[World.cell?,hh];simpa using hj
theorem zxr{W w':World}{base:Nat}{E:TypeId}{S:Nat->Prop}{v v':Value}{ts:List T}{t:T}{u0 u1 u2 u3:Value}{xs:List Value}{o:Obj}
  (ho:W.ownsRow base E 4 v ts.length xs)(hn:∀i (hi:i<ts.length),∃u0 u1 u2 u3,xs[i*4]?=some u0/\xs[i*4+1]?=some u1/\xs[i*4+2]?=some u2/\xs[i*4+3]?=some u3/\NV W (fun b=>S b/\some b≠v.ownBlock) ts[i] (.agg #[u0,u1,u2,u3]))
  (ht:NV W (fun b=>S b/\some b≠v.ownBlock) t (.agg #[u0,u1,u2,u3]))(hlen:ts.length+1<=LK)
  (h2:w'.ownsRow base E 4 v' (ts.length+1) (xs++[u0,u1,u2,u3]))(h3:(W.alloc o).grownBy w' v.ownBlock)(h5:v'.ownBlock=v.ownBlock\/v'.ownBlock=some (W.alloc o).heap.size) :
  OwnN w' base E S v' (ts++[t]):=by
 have hk:∀ {t:T} {u:Value},NV W (fun b=>S b/\some b≠v.ownBlock) t u->NV w' (fun b=>S b/\some b≠v'.ownBlock) t u:=by
  intro t u h;refine h.keep (fun b hb hlt=>⟨hb.1,?_⟩) (fun b hb hlt=>?_)
  ·rcases h5 with h5|h5<;>rw[h5]
   ·exact hb.2
   ·intro e;injection e with e;simp at e;omega
  ·rw[h3.block b (by simp;omega) hb.2];exact Below.heap_alloc W o b hlt
 refine⟨xs++[u0,u1,u2,u3],by simpa using h2,by simpa using hlen,fun i hi=>?_⟩;have hxl:=ho.1;by_cases h:i<ts.length
 ·obtain⟨y0,y1,y2,y3,e0,e1,e2,e3,hv⟩:=hn i h;refine⟨y0,y1,y2,y3,?_,?_,?_,?_,by rw[List.getElem_append_left h];exact hk hv⟩<;>rw[List.getElem?_append_left zO]<;>assumption
 ·have e:i=ts.length:=by simp at hi;omega
  subst e;refine⟨u0,u1,u2,u3,?_,?_,?_,?_,?_⟩
  ·rw[List.getElem?_append_right zO];simp[hxl]
  ·rw[List.getElem?_append_right zO];simp[hxl]
  ·rw[List.getElem?_append_right zO];simp[hxl]
  ·rw[List.getElem?_append_right zO];simp[hxl]
  ·simpa using hk ht
theorem znm{P:Program}{W:World}{ops:Array Oper}{rest:List Oper}{o:Oper}{a:Act}{Q:Exit->Act->World->Prop}(hgd:o.guard=none)(s x:Operand)(ty:TypeId)
  (ho:o.op=.call { callee:=.builtin .append,args := #[s,x],argTypes := #[ty,ty] })(E:TypeId)(i:TypeInfo)(z:Value)(ht:P.underlying ty=some (.slice E))(hi:P.info? E=some i)(hz:i.zero=some z)
  (hsize:i.size=4)(hby:i.bytes=56)(hzs:z.cells.size=4)(base:Nat)(S:Nat->Prop)(v:Value)(ts:List T)(hs:a.eval s=v)(hown:OwnN W base E S v ts)
  (t:T)(k n:Int)(nm:ByteArray)(A:Option Addr)(l c:Nat)(hx:a.eval x=.slice (some ⟨W.heap.size,0,none⟩) 1 1)(hn:NV W (fun b=>S b/\some b≠v.ownBlock) t (nv k n nm A l c))(hlen:ts.length+1<=LK)(hbase:base<=W.heap.size)
  (h:∀v' w',OwnN w' base E S v' (ts++[t])->W.grownBy w' v.ownBlock->(v'.ownBlock=v.ownBlock\/∃g,v'.ownBlock=some g/\W.heap.size<=g)->wpList P ops Q rest (a.put o.dst v') w') :
  wpList P ops Q (o::rest) a (W.alloc (.cells #[zj k,zi n,.string nm,.slice A l c] E)):=by
 obtain⟨xs,hrow,_,hns⟩:=hown;refine wpList_append_own_at (P:=P) _ hgd s x ty ho base E i z 4 56 ht hi hz hsize hby hzs zY v ts.length xs hs (hrow.alloc _) ⟨W.heap.size,0,none⟩ 1 1 [zj k,zi n,.string nm,.slice A l c] hx zS
  (zxz W E _ _ _ _) (zpi k n nm A l c) (zza hlen) (zyG hlen) (by simp;omega) ?_
 intro v' w' h2 h3 _ h5;refine h v' w' (zxr hrow hns hn hlen h2 h3 h5) ⟨h3.os,h3.tape,h3.output,Nat.le_trans zS h3.size,fun b hb hne=>?_⟩ ?_
 ·rw[h3.block b (by simp;omega) hne];exact Below.heap_alloc W _ b hb
 ·rcases h5 with h5|h5
  ·exact .inl h5
  ·exact .inr ⟨_,h5,zS⟩
theorem OwnN.nd{w:World}{base:Nat}{E:TypeId}{S:Nat->Prop}{g l cap:Nat}{ts:List T}(h:OwnN w base E S (.slice (some ⟨g,0,none⟩) l cap) ts){i:Nat}(hi:i<ts.length) :
  ∃(t:T) (A':Option Addr) (c':Nat),Hid (ts[i]=t)/\w.cell? ⟨g,i*4,none⟩=some (zj t.k)/\w.cell? ⟨g,i*4+1,none⟩=some (zi t.n)/\w.cell? ⟨g,i*4+2,none⟩=some (.string t.s)/\w.cell? ⟨g,i*4+3,none⟩=some (.slice A' t.ks.length c') /\
   NV w (fun b=>S b/\some b≠some g) t (nv t.k t.n t.s A' t.ks.length c'):=by
 obtain⟨xs,ho,hl,hn⟩:=h;have hll:ts.length=l:=by
  rcases ho.2 with⟨h,_⟩|⟨_,_,_,h,_⟩
  ·cases h
  ·injection h with _ h _;exact h.symm
 subst hll;obtain⟨u0,u1,u2,u3,h0,h1,h2,h3,hv⟩:=hn i hi;obtain⟨A',c',e,_⟩:=hv.open_;injection e with e;simp only[Array.mk.injEq,List.cons.injEq,and_true]at e;obtain⟨rfl,rfl,rfl,rfl⟩:=e;refine⟨ts[i],A',c',rfl,?_,?_,?_,?_,hv⟩
 ·rw[ho.cellAt _ zO];exact h0
 ·rw[ho.cellAt _ zO];exact h1
 ·rw[ho.cellAt _ zO];exact h2
 ·rw[ho.cellAt _ zO];exact h3
theorem OwnN.frozen{w:World}{base:Nat}{E:TypeId}{S:Nat->Prop}{g l cap:Nat}{ts:List T}(h:OwnN w base E S (.slice (some ⟨g,0,none⟩) l cap) ts)(i:Nat):w.frozen? ⟨g,i,none⟩=false:=by
 obtain⟨xs,ho,_,_⟩:=h;have hll:ts.length=l:=by
  rcases ho.2 with⟨h,_⟩|⟨_,_,_,h,_⟩
  ·cases h
  ·injection h with _ h _;exact h.symm
 subst hll;exact ho.frozenAt i
theorem OwnN.len{w:World}{base:Nat}{E:TypeId}{S:Nat->Prop}{g l cap:Nat}{ts:List T}(h:OwnN w base E S (.slice (some ⟨g,0,none⟩) l cap) ts):ts.length=l/\l<=cap/\base<=g/\g<w.heap.size:=by
 obtain⟨xs,ho,_,_⟩:=h;rcases ho.2 with⟨h,_⟩|⟨g',cap',cur,h,hb,hg,hc,_⟩
 ·cases h
 ·injection h with h1 h2 h3;injection h1 with h1;injection h1 with h1;subst h1;exact⟨h2.symm,zO,hb,(Array.getElem?_eq_some_iff.1 hg).1⟩
theorem OwnN.set4{w:World}{base:Nat}{E:TypeId}{S:Nat->Prop}{g l cap:Nat}{ts:List T}(h:OwnN w base E S (.slice (some ⟨g,0,none⟩) l cap) ts){i:Nat}(hi:i<ts.length){t:T}{k n:Int}{s:ByteArray}{A:Option Addr}{l' c':Nat}
  (ht:NV w (fun b=>S b/\some b≠some g) t (nv k n s A l' c')) :
  OwnN ((((w.setCell ⟨g,i*4,none⟩ (zj k)).setCell ⟨g,i*4+1,none⟩ (zi n)).setCell ⟨g,i*4+2,none⟩ (.string s)).setCell ⟨g,i*4+3,none⟩ (.slice A l' c')) base E S (.slice (some ⟨g,0,none⟩) l cap) (ts.set i t):=by
 obtain⟨xs,ho,hl,hn⟩:=h;have hll:ts.length=l:=by
  rcases ho.2 with⟨h,_⟩|⟨_,_,_,h,_⟩
  ·cases h
  ·injection h with _ h _;exact h.symm
 subst hll;have h1:=((((ho.stored (i*4) (zj k)).1.stored (i*4+1) (zi n)).1.stored (i*4+2) (.string s)).1.stored (i*4+3) (.slice A l' c')).1;have hk:∀ {t:T} {u:Value},NV w (fun b=>S b/\some b≠some g) t u->NV ((((w.setCell ⟨g,i*4,none⟩ (zj k)).setCell ⟨g,i*4+1,none⟩ (zi n)).setCell ⟨g,i*4+2,none⟩ (.string s)).setCell ⟨g,i*4+3,none⟩ (.slice A l' c')) (fun b=>S b/\some b≠some g) t u:=by
  intro t u hv;refine hv.keep (fun _ hb _=>hb) fun b hb _=>?_;have hne:b≠g:=fun e=>hb.2 (by rw[e]);rw[Below.heap_setCell _ _ _ _ hne,Below.heap_setCell _ _ _ _ hne,Below.heap_setCell _ _ _ _ hne,Below.heap_setCell _ _ _ _ hne]
 have hxl:=ho.1;refine⟨_,by simpa using h1,by simpa using hl,fun q hq=>?_⟩;have hq':q<ts.length:=by simpa using hq
 by_cases e:q=i
 ·subst e;refine⟨zj k,zi n,.string s,.slice A l' c',?_,?_,?_,?_,by rw[List.getElem_set_self];exact hk ht⟩<;>simp[List.getElem?_set]<;>omega
 ·obtain⟨u0,u1,u2,u3,g0,g1,g2,g3,hv⟩:=hn q hq';refine⟨u0,u1,u2,u3,?_,?_,?_,?_,by rw[List.getElem_set_ne zO];exact hk hv⟩
  ·rw[List.getElem?_set_ne zO,List.getElem?_set_ne zO,List.getElem?_set_ne zO,List.getElem?_set_ne zO];exact g0
  ·rw[List.getElem?_set_ne zO,List.getElem?_set_ne zO,List.getElem?_set_ne zO,List.getElem?_set_ne zO];exact g1
  ·rw[List.getElem?_set_ne zO,List.getElem?_set_ne zO,List.getElem?_set_ne zO,List.getElem?_set_ne zO];exact g2
  ·rw[List.getElem?_set_ne zO,List.getElem?_set_ne zO,List.getElem?_set_ne zO,List.getElem?_set_ne zO];exact g3
theorem zlw{a w:World}{g:Nat}(h:a.grownBy w (some g)){p:Addr}(hp:p.block=g)(u:Value):a.grownBy (w.setCell p u) (some g) :=
 ⟨h.os,h.tape,h.output,by simpa[World.setCell]using h.size,fun i hi hne=>(Below.heap_setCell w p u i (by rintro rfl;exact hne (by rw[hp]))).trans (h.block i hi hne)⟩
theorem zlZ(w:World)(row:Option Nat):w.grownBy w row:=⟨rfl,rfl,rfl,zl,fun _ _ _=>rfl⟩
theorem zu9{a w:World}{row:Option Nat}(h:a.grownBy w row):a.grownBy w.drew row:=⟨h.os,h.tape,h.output,h.size,h.block⟩
theorem OwnN.drew{w:World}{base:Nat}{E:TypeId}{S:Nat->Prop}{v:Value}{ts:List T}(h:OwnN w base E S v ts):OwnN w.drew base E S v ts:=h.later zr.drew
theorem zlf{P:Program}(t e:TypeId)(i:TypeInfo)(z:Value)(ht:P.underlying t=some (.slice e))(hi:P.info? e=some i)(hz:i.zero=some z)
  (kl kc:IntKind)(n c:Nat)(hnc:n<=c)(hbytes:i.bytes*c<=281474976710656)(h63:c<=9223372036854775807)(w:World) :
  (Instr.makeSlice t (.int kl (n:Int)) (.int kc (c:Int))).run P w=.ok (.slice (some ⟨w.heap.size,0,none⟩) n c) (w.alloc (.cells (madeCells z.cells (c*i.size)) e)):=by
 have hb:(i.bytes:Int)*(c:Int)<=281474976710656:=by
  have h:((i.bytes*c:Nat):Int)<=281474976710656:=zO
  rwa[Int.natCast_mul]at h
 have hr:=run_make (P:=P) w t e i z ht hi hz kl kc n c zO zO hb zO;simp only[Int.toNat_natCast]at hr;exact hr
def zeroT:T:=.nd 0 0 ⟨#[]⟩ []
abbrev zeroCells:Array Value := #[zj 0,zi 0,.string ⟨#[]⟩,zn]
theorem zeroT_nv(w:World)(S:Nat->Prop):NV w S zeroT (.agg #[zj 0,zi 0,.string ⟨#[]⟩,zn]) :=
 NV.shut (ks:=[]) ⟨⟨zO,zO⟩,⟨zO,zO⟩,zY⟩ (Nat.zero_le _) (Nat.zero_le _) zkS.nil
theorem zqc(l i r:Nat)(hi:i<l)(hr:r<4):(madeCells zeroCells (l*4)).toList[i*4+r]?=some (zeroCells.getD r undef):=by
 have hlt:i*4+r<(madeCells zeroCells (l*4)).size:=by rw[size_madeCells];omega
 rw[Array.getElem?_toList,Array.getElem?_eq_getElem hlt];simp only[madeCells,Array.getElem_map,Array.getElem_range];have e:(i*4+r) % zeroCells.size=r:=by show(i*4+r) % 4=r;omega
 rw[e];rcases r with _|_|_|_|r
 ·rfl
 ·rfl
 ·rfl
 ·rfl
 ·omega
theorem zsS(W:World)(base:Nat)(E:TypeId)(S:Nat->Prop)(l:Nat)(hb:base<=W.heap.size)(hl:l<=LK) :
  OwnN (W.alloc (.cells (madeCells zeroCells (l*4)) E)) base E S (.slice (some ⟨W.heap.size,0,none⟩) l l) (List.replicate l zeroT):=by
 have ho:(W.alloc (.cells (madeCells zeroCells (l*4)) E)).ownsRow base E 4 (.slice (some ⟨W.heap.size,0,none⟩) l l) l (madeCells zeroCells (l*4)).toList :=
  ⟨by simp[size_madeCells],.inr ⟨W.heap.size,l,madeCells zeroCells (l*4),rfl,hb,heap_alloc_new W _,zl,zza hl,by simp[size_madeCells],by rw[List.take_of_length_le];simp[size_madeCells]⟩⟩
 refine⟨_,by rw[List.length_replicate];exact ho,by simpa using hl,fun i hi=>?_⟩;have hi':i<l:=by simpa using hi
 refine⟨_,_,_,_,zqc l i 0 hi' zO,zqc l i 1 hi' zO,zqc l i 2 hi' zO,zqc l i 3 hi' zO,?_⟩;rw[List.getElem_replicate];exact zeroT_nv _ _
def exch(k:Int):Int :=
 if k=40 then 41 else if k=41 then 40 else if k=44 then 45 else if k=45 then 44 else if k=46 then 47 else if k=47 then 46
 else if k=48 then 49 else if k=49 then 48 else if k=50 then 51 else if k=51 then 50 else k
def zp5(l:List T):List T:=match l with
 | []=>[]
 | a::r=>((a::r).set 0 ((a::r).getLast zS)).set r.length a
mutual
/-- inverter.invert. -/
def inv(keep:Bool):T->T
 | .nd k n s ks =>
  if k=57 then .nd k n s (invs keep true ks).reverse
  else if k=52\/k=53\/k=54 then .nd k n s (zp5 (invs keep false ks))
  else if k=50\/k=51 then .nd (if keep then k else exch k) n s (invs keep false ks)
  else .nd (exch k) n s (invs keep false ks)
def invs(keep all:Bool):List T->List T
 | []=>[]
 | t::ts=>(if all||t.k==57 then inv keep t else t)::invs keep all ts
end
def invK(keep all:Bool)(t:T):T:=if all||t.k==57 then inv keep t else t
theorem znz(keep all:Bool):∀ks:List T,invs keep all ks=ks.map (invK keep all)
 | []=>by simp[invs]
 | t::ts=>by simp[invs,znz keep all ts,invK]
theorem zsj(k:Int)(h:0<=k/\k<256):0<=exch k/\exch k<256:=by unfold exch;repeat' split<;>omega
theorem ztT(t:T)(h:isE t=true):t.k<=23:=by
 cases t with
 | nd k n s ks =>
  rw[isE]at h;simp only[T.k_nd]
  repeat' split at h
  all_goals first|omega|(simp at h)
theorem zvw(t:T)(h:isP t=true):t.k≠57:=by
 have:isE t=true:=by simp only[isP,Bool.and_eq_true]at h;exact h.2
 have:=ztT t this;omega
theorem zK8(t:T)(h:isV t=true):t.k≠57:=by
 have:isE t=true:=by simp only[isV,Bool.and_eq_true]at h;exact h.2
 have:=ztT t this;omega
theorem zxK(k n:Int)(s:ByteArray)(ks:List T)(h:isS (.nd k n s ks)=true):∀t∈ks,t.k=57->isB t=true:=by
 have key:∀(p:Nat->T->Bool) (i:Nat),(∀j t,p j t=true->t.k=57->isB t=true)->zkw p i ks=true->∀t∈ks,t.k=57->isB t=true:=by
  intro p i hp hk t ht hk57;obtain⟨q,hq,rfl⟩:=List.getElem_of_mem ht;exact hp _ _ ((zkI p i ks).1 hk q hq) hk57
 have kP:∀t,isP t=true->t.k=57->isB t=true:=fun t h1 h2=>absurd h2 (zvw t h1);have kE:∀t,isE t=true->t.k=57->isB t=true:=fun t h1 h2=>by have:=ztT t h1;omega
 have kV:∀t,isV t=true->t.k=57->isB t=true:=fun t h1 h2=>absurd h2 (zK8 t h1);have Aj:∀d j t,pEB d j t=true->t.k=57->isB t=true:=by
  intro d j t h1 h2;unfold pEB at h1
  split at h1
  ·exact kE t h1 h2
  ·exact h1
 rw[isS]at h
 repeat' split at h
 ·simp only[zkE,Bool.and_eq_true]at h;exact key _ 0 (fun j t hj=>by split at hj;exact kP t hj;exact kE t hj) h.2.2
 ·simp only[zkE,Bool.and_eq_true]at h;exact key _ 0 (fun j t=>kP t) h.2.2
 ·simp only[zkE,Bool.and_eq_true]at h;exact key _ 0 (fun j t=>kP t) h.2.2
 ·simp only[zkE,Bool.and_eq_true]at h;exact key _ 0 (fun j t=>kP t) h.2.2
 ·simp only[Bool.and_eq_true]at h;exact key _ 0 (fun j t=>kV t) h.2
 ·simp only[Bool.and_eq_true]at h;exact key (pEB 0) 0 (Aj 0) (by rw[<-zmy];exact h.2.2)
 ·simp only[Bool.and_eq_true]at h;exact key (pEB 4) 0 (Aj 4) (by rw[<-zmy];exact h.2.2)
 ·simp only[Bool.and_eq_true]at h;exact key (pEB 7) 0 (Aj 7) (by rw[<-zmy];exact h.2.2)
 ·cases h
theorem zny(k n:Int)(s:ByteArray)(ks:List T)(h:isB (.nd k n s ks)=true):k=57/\∀t∈ks,isS t=true:=by
 rw[isB]at h;simp only[Bool.and_eq_true,decide_eq_true_eq]at h;refine⟨h.1.1,fun t ht=>?_⟩;obtain⟨q,hq,rfl⟩:=List.getElem_of_mem ht;exact(zkI _ 0 ks).1 (by rw[<-zqg];exact h.2) q hq
theorem zvu(k n:Int)(s:ByteArray)(ks:List T)(h:isS (.nd k n s ks)=true):k≠57:=by
 rintro rfl;rw[isS]at h;simp at h
def okT(t:T):Prop:=isS t=true\/isB t=true
theorem zzH(k n:Int)(s:ByteArray)(ks:List T)(h:okT (.nd k n s ks))(t:T)(ht:t∈ks)(hb:k=57\/t.k=57):okT t:=by
 rcases h with h|h
 ·rcases hb with hb|hb
  ·exact absurd hb (zvu k n s ks h)
  ·exact .inr (zxK k n s ks h t ht hb)
 ·exact .inl ((zny k n s ks h).2 t ht)
theorem zxv(k n:Int)(s:ByteArray)(ks:List T)(h:okT (.nd k n s ks))(hk:k=52\/k=53\/k=54):1<ks.length:=by
 rcases h with h|h
 ·rw[isS]at h;rcases hk with rfl|rfl|rfl<;>simp at h<;>omega
 ·have:=(zny k n s ks h).1;omega
theorem zrN(l:List T)(h:0<l.length):zp5 l=(l.set 0 l[l.length-1]).set (l.length-1) l[0]:=by
 cases l with
 | nil=>simp at h
 | cons a r=>simp[zp5,List.getLast_eq_getElem]
theorem zxN(keep:Bool)(k n:Int)(s:ByteArray)(ks:List T)(nZ:¬ k=57)(qD:k=52\/k=53\/k=54)(h0:0<(ks.map (invK keep (k==57))).length)(hm:ks.length-1<(ks.map (invK keep (k==57))).length) :
  inv keep (.nd k n s ks)=.nd k n s (((ks.map (invK keep (k==57))).set 0 (ks.map (invK keep (k==57)))[ks.length-1]).set (ks.length-1) (ks.map (invK keep (k==57)))[0]):=by
 have e:(k==57)=false:=by simpa using nZ
 have e1:invs keep false ks=ks.map (invK keep (k==57)):=by rw[znz,e]
 rw[inv,if_neg nZ,if_pos qD,e1,zrN _ h0];simp
abbrev ZC:Array Value := #[zj 0,zi 0,.string ⟨#[]⟩,zn]
structure zll(w wx:World)(E:TypeId)(k n:Int)(s:ByteArray)(A:Option Addr)(l c:Nat)(k':Int)(gm gr:Nat)(L:List T):Prop where
 box:wx.heap[gm]?=some (.cells #[.int .u8 k',.int .i64 n,.string s,.slice (some ⟨gr,0,none⟩) l l] E (0,0))
 own:OwnN wx (w.heap.size+2) E (fun b=>w.heap.size+2<=b/\b≠gm) (.slice (some ⟨gr,0,none⟩) l l) L
 lo:w.heap.size+2<=gm
 ne:gm≠gr
 low:Below (w.heap.size+2) ((w.alloc (.cells #[.int .u8 k,.int .i64 n,.string s,.slice A l c] E)).alloc (.cells ZC E)) wx
section
variable {w wx w':World} {E:TypeId} {k n:Int} {s:ByteArray} {A:Option Addr} {l c:Nat} {k':Int} {gm gr:Nat} {L:List T}
theorem zc{b i:Nat}{cs:Array Value}{e:TypeId}{f:Nat×Nat}{u:Value}(h:wx.heap[b]?=some (.cells cs e f))(hu:cs[i]?=some u):wx.cell? ⟨b,i,none⟩=some u:=by
 simp only[World.cell?,h];simpa using hu
theorem zf{b i:Nat}{cs:Array Value}{e:TypeId}(h:wx.heap[b]?=some (.cells cs e (0,0))):wx.frozen? ⟨b,i,none⟩=false:=by
 simp[World.frozen?,h]
theorem zkf{b:Nat}{o:Obj}(h:wx.heap[b]?=some o):b<wx.heap.size:=(Array.getElem?_eq_some_iff.1 h).1
theorem zlH{w1:World}{g b o p0 p1 p2 p3:Nat}{u u0 u1 u2 u3:Value}(hne:b≠g)(h:w1.cell? ⟨b,o,none⟩=some u) :
  ((((w1.setCell ⟨g,p0,none⟩ u0).setCell ⟨g,p1,none⟩ u1).setCell ⟨g,p2,none⟩ u2).setCell ⟨g,p3,none⟩ u3).cell? ⟨b,o,none⟩=some u:=by
 have e:∀(W:World) (p:Nat) (x:Value),(W.setCell ⟨g,p,none⟩ x).cell? ⟨b,o,none⟩=W.cell? ⟨b,o,none⟩:=fun W p x=>World.cell?_setCell_other W _ _ x (fun h=>hne (by injection h with h;exact h.symm));rw[e,e,e,e];exact h
theorem zll.later(h:zll w wx E k n s A l c k' gm gr L)(hb:zw wx w'):zll w w' E k n s A l c k' gm gr L :=
 ⟨(hb.block gm (zkf h.box)).trans h.box,h.own.later hb,h.lo,h.ne,h.low.trans (hb.mono (by have:=h.low.size;simpa using this))⟩
theorem zll.arg(h:zll w wx E k n s A l c k' gm gr L):wx.heap[w.heap.size]?=some (.cells #[zj k,zi n,.string s,.slice A l c] E (0,0)):=by
 rw[h.low.block _ zO,Below.heap_alloc _ _ _ zS];exact heap_alloc_new w _
theorem zll.res(h:zll w wx E k n s A l c k' gm gr L):wx.heap[w.heap.size+1]?=some (.cells ZC E (0,0)):=by
 rw[h.low.block _ zO];have:=heap_alloc_new (w.alloc (.cells #[zj k,zi n,.string s,.slice A l c] E)) (.cells ZC E);simpa using this
theorem zll.below(h:zll w wx E k n s A l c k' gm gr L):zw w wx:=((zr.alloc zl _).alloc zS _).trans (h.low.mono zO)
theorem zll.size(h:zll w wx E k n s A l c k' gm gr L):w.heap.size+2<=wx.heap.size:=by have:=h.low.size;simpa using this
theorem zll.grlo(h:zll w wx E k n s A l c k' gm gr L):w.heap.size+2<=gr/\gr<wx.heap.size:=⟨h.own.len.2.2.1,h.own.len.2.2.2⟩
theorem zll.start1(w:World)(E:TypeId)(k n:Int)(s:ByteArray)(A:Option Addr)(l c:Nat)(hl:l<=LK) :
  zll w (((((w.alloc (.cells #[zj k,zi n,.string s,.slice A l c] E)).alloc (.cells ZC E)).alloc (.cells (madeCells ZC (l*4)) E)).alloc (.cells #[zj k,zi n,.string s,.slice (some ⟨w.heap.size+1+1,0,none⟩) l l] E)).drew) E k n s A l c k (w.heap.size+1+1+1) (w.heap.size+1+1) (List.replicate l zeroT):=by
 have hm:=zsS ((w.alloc (.cells #[zj k,zi n,.string s,.slice A l c] E)).alloc (.cells ZC E)) (w.heap.size+2) E (fun b=>w.heap.size+2<=b/\b≠w.heap.size+1+1+1) l zS hl;refine⟨?_,?_,zO,zO,?_⟩
 ·have:=heap_alloc_new (((w.alloc (.cells #[zj k,zi n,.string s,.slice A l c] E)).alloc (.cells ZC E)).alloc (.cells (madeCells ZC (l*4)) E)) (.cells #[zj k,zi n,.string s,.slice (some ⟨w.heap.size+1+1,0,none⟩) l l] E);simp only[World.size_alloc]at this;exact this
 ·have:=(hm.later (zr.alloc zl (.cells #[zj k,zi n,.string s,.slice (some ⟨w.heap.size+1+1,0,none⟩) l l] E))).drew;simp only[World.size_alloc]at this;exact this
 ·exact((zr.alloc zS _).alloc zS _).drew
theorem zll.start2(w:World)(E:TypeId)(k n:Int)(s:ByteArray)(A:Option Addr)(l c:Nat)(hl:l<=LK) :
  zll w (((((w.alloc (.cells #[zj k,zi n,.string s,.slice A l c] E)).alloc (.cells ZC E)).alloc (.cells #[zj k,zi n,.string s,.slice (some ⟨w.heap.size+1+1+1,0,none⟩) l l] E)).alloc (.cells (madeCells ZC (l*4)) E)).drew) E k n s A l c k (w.heap.size+1+1) (w.heap.size+1+1+1) (List.replicate l zeroT):=by
 have hm:=zsS (((w.alloc (.cells #[zj k,zi n,.string s,.slice A l c] E)).alloc (.cells ZC E)).alloc (.cells #[zj k,zi n,.string s,.slice (some ⟨w.heap.size+1+1+1,0,none⟩) l l] E)) (w.heap.size+2) E (fun b=>w.heap.size+2<=b/\b≠w.heap.size+1+1) l zS hl;refine⟨?_,?_,zO,zO,?_⟩
 ·have:=heap_alloc_new ((w.alloc (.cells #[zj k,zi n,.string s,.slice A l c] E)).alloc (.cells ZC E)) (.cells #[zj k,zi n,.string s,.slice (some ⟨w.heap.size+1+1+1,0,none⟩) l l] E);have h2:=Below.heap_alloc (((w.alloc (.cells #[zj k,zi n,.string s,.slice A l c] E)).alloc (.cells ZC E)).alloc (.cells #[zj k,zi n,.string s,.slice (some ⟨w.heap.size+1+1+1,0,none⟩) l l] E)) (.cells (madeCells ZC (l*4)) E) (w.heap.size+1+1) zS;exact h2.trans (by simpa using this)
 ·have:=hm.drew;simp only[World.size_alloc]at this;exact this
 ·exact((zr.alloc zS _).alloc zS _).drew
theorem zll.store(h:zll w wx E k n s A l c k' gm gr L){i:Nat}(hi:i<L.length){t:T}{k1 n1:Int}{s1:ByteArray}{A1:Option Addr}{l1 c1:Nat}
  (ht:NV wx (fun b=>(w.heap.size+2<=b/\b≠gm)/\some b≠some gr) t (nv k1 n1 s1 A1 l1 c1)) :
  zll w ((((wx.setCell ⟨gr,i*4,none⟩ (zj k1)).setCell ⟨gr,i*4+1,none⟩ (zi n1)).setCell ⟨gr,i*4+2,none⟩ (.string s1)).setCell ⟨gr,i*4+3,none⟩ (.slice A1 l1 c1)) E k n s A l c k' gm gr (L.set i t):=by
 have hg:=h.grlo;refine⟨?_,h.own.set4 hi ht,h.lo,h.ne,(((h.low.setCell hg.1 _).setCell hg.1 _).setCell hg.1 _).setCell hg.1 _⟩;rw[Below.heap_setCell _ _ _ _ h.ne,Below.heap_setCell _ _ _ _ h.ne,Below.heap_setCell _ _ _ _ h.ne,Below.heap_setCell _ _ _ _ h.ne];exact h.box
theorem zll.rowed(h:zll w wx E k n s A l c k' gm gr L){L':List T}(ho:OwnN w' (w.heap.size+2) E (fun b=>w.heap.size+2<=b/\b≠gm) (.slice (some ⟨gr,0,none⟩) l l) L')(hg:wx.grownBy w' (some gr)):zll w w' E k n s A l c k' gm gr L' :=
 ⟨(hg.block gm (zkf h.box) (fun e=>h.ne (by injection e))).trans h.box,ho,h.lo,h.ne,h.low.grown hg h.size (fun g e=>by injection e with e;rw[<-e];exact h.grlo.1)⟩
theorem zll.kind(h:zll w wx E k n s A l c k' gm gr L)(k2:Int):zll w (wx.setCell ⟨gm,0,none⟩ (zj k2)) E k n s A l c k2 gm gr L:=by
 refine⟨?_,h.own.grown (row:=some gm) (zlw (zlZ _ _) rfl _) (fun g e=>?_),h.lo,h.ne,h.low.setCell h.lo _⟩
 ·have:=heap_setCell_same wx gm 0 _ E (zj k2) h.box;simpa using this
 ·injection e with e;subst e;exact⟨fun hh=>hh.2 rfl,by simp[Value.ownBlock];exact fun e=>h.ne e.symm⟩
theorem zll.result(h:zll w wx E k n s A l c k' gm gr L)(hf:Fld k' n s) :
  NV ((((wx.setCell ⟨w.heap.size+1,0,none⟩ (zj k')).setCell ⟨w.heap.size+1,1,none⟩ (zi n)).setCell ⟨w.heap.size+1,2,none⟩ (.string s)).setCell ⟨w.heap.size+1,3,none⟩ (.slice (some ⟨gr,0,none⟩) l l)) (From w.heap.size) (.nd k' n s L) (nv k' n s (some ⟨gr,0,none⟩) l l) /\
  zw w ((((wx.setCell ⟨w.heap.size+1,0,none⟩ (zj k')).setCell ⟨w.heap.size+1,1,none⟩ (zi n)).setCell ⟨w.heap.size+1,2,none⟩ (.string s)).setCell ⟨w.heap.size+1,3,none⟩ (.slice (some ⟨gr,0,none⟩) l l)):=by
 obtain⟨A2,c2,e,hc,hr,_⟩:=h.own.row;injection e with e1 e2 e3;subst e1 e3;have hlo:=h.lo;refine⟨?_,(((h.below.setCell zS _).setCell zS _).setCell zS _).setCell zS _⟩;rw[e2];refine NV.shut hf h.own.lk zO (hr.keep (fun b hb _=>?_) fun b hb _=>?_)
 ·rcases hb with hb|hb
  ·exact Nat.le_trans zO hb.1
  ·have:=(h.own.block b hb).1;exact Nat.le_trans zO this
 ·have hb':w.heap.size+2<=b:=by
   rcases hb with hb|hb
   ·exact hb.1
   ·exact(h.own.block b hb).1
  rw[Below.heap_setCell _ _ _ _ (by simp;omega),Below.heap_setCell _ _ _ _ (by simp;omega),Below.heap_setCell _ _ _ _ (by simp;omega),Below.heap_setCell _ _ _ _ (by simp;omega)]
end
def zmR(f:T->T)(ks:List T)(j:Nat):List T:=(ks.take j).map f++List.replicate (ks.length-j) zeroT
theorem zsh(f:T->T)(ks:List T):zmR f ks 0=List.replicate ks.length zeroT:=by simp[zmR]
theorem zt4(f:T->T)(ks:List T):zmR f ks ks.length=ks.map f:=by simp[zmR]
theorem zt3(f:T->T)(ks:List T)(j:Nat)(h:j<=ks.length):(zmR f ks j).length=ks.length:=by simp[zmR];omega
theorem zpS(f:T->T)(ks:List T)(j:Nat)(h:j<ks.length):(zmR f ks j).set j (f ks[j])=zmR f ks (j+1):=by
 unfold zmR;have hl:((ks.take j).map f).length=j:=by simp;omega
 rw[List.set_append_right _ _ zO,hl,Nat.sub_self,List.take_succ_eq_append_getElem h,List.map_append,List.append_assoc];congr 1;obtain⟨d,hd⟩:∃d,ks.length-j=d+1:=⟨ks.length-j-1,zO⟩
 rw[hd,show ks.length-(j+1)=d by omega];simp[List.replicate_succ]
theorem zp9:(prog.info? 28).map (fun i=>(i.zero,i.size,i.bytes))=some (some (.agg #[zj 0,zi 0,.string ⟨#[]⟩,zn]),4,56):=zK
theorem zwk(u0 u1 u2 u3:Value)(w:World):(Instr.buildSlice 26 1 #[(0,.agg #[u0,u1,u2,u3])]).run prog w=.ok (.slice (some ⟨w.heap.size,0,none⟩) 1 1) (w.alloc (.cells #[u0,u1,u2,u3] 28)):=zK
def zqw(w:World)(t:T)(e:Ending)(w':World):Prop:=∃k n s A l c,e=.returned (nv k n s A l c)/\NV w' (From w.heap.size) t (nv k n s A l c)/\zw w w'
structure VD where
 s:ByteArray
 k:Int
 n:Int
structure PR where
 s:ByteArray
 ps:List VD
 b:T
structure PG where
 vs:List VD
 prs:List PR
 m:T
def FldV(v:VD):Prop:=v.s.size<=maxLen/\(0<=v.k/\v.k<256)/\(-9223372036854775808<=v.n/\v.n<=9223372036854775807)
abbrev Vd3(w:World)(p:Addr)(v:VD):Prop:=w.cell? p=some (.string v.s)/\w.cell? ⟨p.block,p.off+1,none⟩=some (zj v.k)/\w.cell? ⟨p.block,p.off+2,none⟩=some (zi v.n)
def LV:Nat:=4398046511104
theorem zk1{n:Nat}(h:n<=LV):n<=4398046511104:=h
def RowV(w:World)(S:Nat->Prop)(A:Option Addr)(vs:List VD):Prop :=
 ∀i (hi:i<vs.length),∃a:Addr,A=some a/\S a.block/\Vd3 w (a.add (i*3)) vs[i]/\FldV vs[i]
abbrev Pr6(w:World)(p:Addr)(r:PR)(A1:Option Addr)(c1:Nat)(A2:Option Addr)(c2:Nat):Prop :=
 w.cell? p=some (.string r.s)/\w.cell? ⟨p.block,p.off+1,none⟩=some (.slice A1 r.ps.length c1)/\w.cell? ⟨p.block,p.off+2,none⟩=some (zj r.b.k)/\w.cell? ⟨p.block,p.off+3,none⟩=some (zi r.b.n) /\
  w.cell? ⟨p.block,p.off+4,none⟩=some (.string r.b.s)/\w.cell? ⟨p.block,p.off+5,none⟩=some (.slice A2 r.b.ks.length c2)
structure PrR(w:World)(S:Nat->Prop)(r:PR)(A1:Option Addr)(c1:Nat)(A2:Option Addr)(c2:Nat):Prop where
 name:r.s.size<=maxLen
 row:RowV w S A1 r.ps
 lp:r.ps.length<=LV
 lc:r.ps.length<=c1
 body:NV w S r.b (nv r.b.k r.b.n r.b.s A2 r.b.ks.length c2)
def RowP(w:World)(S:Nat->Prop)(A:Option Addr)(ps:List PR):Prop :=
 ∀i (hi:i<ps.length),∃(a:Addr) (A1:Option Addr) (c1:Nat) (A2:Option Addr) (c2:Nat),A=some a/\S a.block/\Pr6 w (a.add (i*6)) ps[i] A1 c1 A2 c2/\PrR w S ps[i] A1 c1 A2 c2
abbrev pv(A1:Option Addr)(l1 c1:Nat)(A2:Option Addr)(l2 c2:Nat)(k n:Int)(s:ByteArray)(A3:Option Addr)(l3 c3:Nat):Value :=
 .agg #[.slice A1 l1 c1,.slice A2 l2 c2,zj k,zi n,.string s,.slice A3 l3 c3]
structure PgR(w:World)(S:Nat->Prop)(p:PG)(A1:Option Addr)(c1:Nat)(A2:Option Addr)(c2:Nat)(A3:Option Addr)(c3:Nat):Prop where
 vars:RowV w S A1 p.vs
 lv:p.vs.length<=LV
 lvc:p.vs.length<=c1
 procs:RowP w S A2 p.prs
 lp:p.prs.length<=LV
 lpc:p.prs.length<=c2
 main:NV w S p.m (nv p.m.k p.m.n p.m.s A3 p.m.ks.length c3)
def PV(w:World)(S:Nat->Prop)(p:PG)(v:Value):Prop :=
 ∃A1 c1 A2 c2 A3 c3,v=pv A1 p.vs.length c1 A2 p.prs.length c2 p.m.k p.m.n p.m.s A3 p.m.ks.length c3/\PgR w S p A1 c1 A2 c2 A3 c3
section
variable {w w':World} {S S':Nat->Prop} {A:Option Addr}
theorem zkN{p:Addr}{u:Value}(h:w.cell? p=some u)(hk:w'.heap[p.block]?=w.heap[p.block]?):w'.cell? p=some u:=(World.cell?_of_block (a:=p) hk).trans h
theorem RowV.keep{vs:List VD}(h:RowV w S A vs)(hS:∀b,S b->b<w.heap.size->S' b)(hk:∀b,S b->b<w.heap.size->w'.heap[b]?=w.heap[b]?):RowV w' S' A vs:=fun i hi=>by
 obtain⟨a,hA,iF,⟨h0,h1,h2⟩,hf⟩:=h i hi;have hlt:a.block<w.heap.size:=by have:=World.block_lt_of_cell? w _ h0;rwa[zkF]at this
 have hb:=hk _ iF hlt;refine⟨a,hA,hS _ iF hlt,⟨zkN h0 ?_,zkN h1 ?_,zkN h2 ?_⟩,hf⟩<;>simp only[zkF]<;>exact hb
theorem PrR.keep{r:PR}{A1 A2:Option Addr}{c1 c2:Nat}(h:PrR w S r A1 c1 A2 c2)(hS:∀b,S b->b<w.heap.size->S' b)(hk:∀b,S b->b<w.heap.size->w'.heap[b]?=w.heap[b]?):PrR w' S' r A1 c1 A2 c2 :=
 ⟨h.name,h.row.keep hS hk,h.lp,h.lc,h.body.keep hS hk⟩
theorem RowP.keep{ps:List PR}(h:RowP w S A ps)(hS:∀b,S b->b<w.heap.size->S' b)(hk:∀b,S b->b<w.heap.size->w'.heap[b]?=w.heap[b]?):RowP w' S' A ps:=fun i hi=>by
 obtain⟨a,A1,c1,A2,c2,hA,iF,⟨h0,h1,h2,h3,h4,h5⟩,hr⟩:=h i hi;have hlt:a.block<w.heap.size:=by have:=World.block_lt_of_cell? w _ h0;rwa[zkF]at this
 have hb:=hk _ iF hlt;refine⟨a,A1,c1,A2,c2,hA,hS _ iF hlt,⟨zkN h0 ?_,zkN h1 ?_,zkN h2 ?_,zkN h3 ?_,zkN h4 ?_,zkN h5 ?_⟩,hr.keep hS hk⟩<;>simp only[zkF]<;>exact hb
theorem PgR.keep{p:PG}{A1 A2 A3:Option Addr}{c1 c2 c3:Nat}(h:PgR w S p A1 c1 A2 c2 A3 c3)(hS:∀b,S b->b<w.heap.size->S' b)(hk:∀b,S b->b<w.heap.size->w'.heap[b]?=w.heap[b]?):PgR w' S' p A1 c1 A2 c2 A3 c3 :=
 ⟨h.vars.keep hS hk,h.lv,h.lvc,h.procs.keep hS hk,h.lp,h.lpc,h.main.keep hS hk⟩
theorem RowV.later{vs:List VD}(h:RowV w S A vs)(hb:zw w w'):RowV w' S A vs:=h.keep (fun _ hb _=>hb) fun b _ hlt=>hb.block b hlt
theorem RowV.mono{vs:List VD}(h:RowV w S A vs)(hS:∀b,S b->S' b):RowV w S' A vs:=h.keep (fun b hb _=>hS b hb) fun _ _ _=>rfl
theorem RowP.later{ps:List PR}(h:RowP w S A ps)(hb:zw w w'):RowP w' S A ps:=h.keep (fun _ hb _=>hb) fun b _ hlt=>hb.block b hlt
theorem PrR.later{r:PR}{A1 A2:Option Addr}{c1 c2:Nat}(h:PrR w S r A1 c1 A2 c2)(hb:zw w w'):PrR w' S r A1 c1 A2 c2:=h.keep (fun _ hb _=>hb) fun b _ hlt=>hb.block b hlt
theorem PgR.later{p:PG}{A1 A2 A3:Option Addr}{c1 c2 c3:Nat}(h:PgR w S p A1 c1 A2 c2 A3 c3)(hb:zw w w'):PgR w' S p A1 c1 A2 c2 A3 c3:=h.keep (fun _ hb _=>hb) fun b _ hlt=>hb.block b hlt
theorem PV.later{p:PG}{v:Value}(h:PV w S p v)(hb:zw w w'):PV w' S p v:=let ⟨A1,c1,A2,c2,A3,c3,e,h⟩:=h;⟨A1,c1,A2,c2,A3,c3,e,h.later hb⟩
theorem RowV.nd{vs:List VD}(h:RowV w S A vs){i:Nat}(hi:i<vs.length):∃(a:Addr) (v:VD),A=some a/\S a.block/\Hid (vs[i]=v)/\Vd3 w (a.add (i*3)) v/\FldV v :=
 let ⟨a,h1,h2,h3,h4⟩:=h i hi;⟨a,vs[i],h1,h2,rfl,h3,h4⟩
theorem RowP.nd{ps:List PR}(h:RowP w S A ps){i:Nat}(hi:i<ps.length):∃(a:Addr) (r:PR) (A1:Option Addr) (c1:Nat) (A2:Option Addr) (c2:Nat),A=some a/\S a.block/\Hid (ps[i]=r)/\Pr6 w (a.add (i*6)) r A1 c1 A2 c2/\PrR w S r A1 c1 A2 c2 :=
 let ⟨a,A1,c1,A2,c2,h1,h2,h3,h4⟩:=h i hi;⟨a,ps[i],A1,c1,A2,c2,h1,h2,rfl,h3,h4⟩
end
def OwnP(w:World)(base:Nat)(E:TypeId)(S:Nat->Prop)(v:Value)(ps:List PR):Prop :=
 ∃xs,w.ownsRow base E 6 v ps.length xs/\ps.length<=1000/\∀i (hi:i<ps.length),∃A1 c1 A2 c2,xs[i*6]?=some (.string ps[i].s)/\xs[i*6+1]?=some (.slice A1 ps[i].ps.length c1)/\xs[i*6+2]?=some (zj ps[i].b.k) /\
  xs[i*6+3]?=some (zi ps[i].b.n)/\xs[i*6+4]?=some (.string ps[i].b.s)/\xs[i*6+5]?=some (.slice A2 ps[i].b.ks.length c2)/\PrR w (fun b=>S b/\some b≠v.ownBlock) ps[i] A1 c1 A2 c2
section
variable {w w':World} {base:Nat} {E:TypeId} {S S':Nat->Prop} {v:Value} {ps:List PR}
theorem OwnP.nil(w:World)(base:Nat)(E:TypeId)(S:Nat->Prop):OwnP w base E S zn []:=⟨[],World.ownsRow_nil w base E 6,Nat.zero_le _,fun i hi=>absurd hi zS⟩
theorem OwnP.later(h:OwnP w base E S v ps)(hb:zw w w'):OwnP w' base E S v ps:=by
 obtain⟨xs,ho,hl,hn⟩:=h;refine⟨xs,ho.kept (row:=none) ⟨hb.os,hb.tape,hb.output,hb.size,fun k hk _=>hb.block k hk⟩ (by cases v.ownBlock<;>simp),hl,fun i hi=>?_⟩;obtain⟨A1,c1,A2,c2,h0,h1,h2,h3,h4,h5,hr⟩:=hn i hi;exact⟨A1,c1,A2,c2,h0,h1,h2,h3,h4,h5,hr.later hb⟩
theorem OwnP.grown(h:OwnP w base E S v ps){row:Option Nat}(hg:w.grownBy w' row)(hr:∀g,row=some g->¬ S g/\v.ownBlock≠some g):OwnP w' base E S v ps:=by
 obtain⟨xs,ho,hl,hn⟩:=h;have hne:v.ownBlock=none\/v.ownBlock≠row:=by
  cases row with
  | none=>cases v.ownBlock<;>simp
  | some g=>exact .inr (hr g rfl).2
 refine⟨xs,ho.kept hg hne,hl,fun i hi=>?_⟩;obtain⟨A1,c1,A2,c2,h0,h1,h2,h3,h4,h5,hv⟩:=hn i hi;refine⟨A1,c1,A2,c2,h0,h1,h2,h3,h4,h5,hv.keep (fun b hb _=>hb) (fun b hb hlt=>hg.block b hlt ?_)⟩;intro e;exact(hr b e.symm).1 hb.1
theorem OwnP.block(h:OwnP w base E S v ps):∀k,v.ownBlock=some k->base<=k/\k<w.heap.size:=let ⟨_,ho,_,_⟩:=h;ho.lt
theorem OwnP.len(h:OwnP w base E S v ps):ps.length<=1000:=let ⟨_,_,hl,_⟩:=h;hl
theorem OwnP.row(h:OwnP w base E S v ps):∃A c,v=.slice A ps.length c/\ps.length<=c/\RowP w (fun b=>S b\/v.ownBlock=some b) A ps:=by
 obtain⟨xs,ho,hl,hn⟩:=h;rcases ho.2 with⟨rfl,h0⟩|⟨g,cap,cur,rfl,hb,hg,hc,hm,hz,hx⟩
 ·exact⟨none,0,by rw[h0],zO,fun i hi=>absurd hi zO⟩
 ·refine⟨some ⟨g,0,none⟩,cap,rfl,hc,fun i hi=>?_⟩;obtain⟨A1,c1,A2,c2,h0,h1,h2,h3,h4,h5,hv⟩:=hn i hi;have hcell:∀j u,j<6->xs[i*6+j]?=some u->w.cell? ⟨g,i*6+j,none⟩=some u:=by
   intro j u hj hu;rw[ho.cellAt (i*6+j) zO];exact hu
  have ha:(⟨g,0,none⟩:Addr).add (i*6)=⟨g,i*6,none⟩:=by unfold Addr.add;split<;>simp_all
  refine⟨⟨g,0,none⟩,A1,c1,A2,c2,rfl,.inr rfl,?_,hv.keep (fun b hb _=>.inl hb.1) fun _ _ _=>rfl⟩;rw[ha];exact⟨hcell 0 _ zO h0,hcell 1 _ zO h1,hcell 2 _ zO h2,hcell 3 _ zO h3,hcell 4 _ zO h4,hcell 5 _ zO h5⟩
end
theorem zu4{W w':World}{base:Nat}{E:TypeId}{S:Nat->Prop}{v v':Value}{ps:List PR}{r:PR}{A1 A2:Option Addr}{c1 c2:Nat}{o:Obj}{xs:List Value}
  (ho:W.ownsRow base E 6 v ps.length xs)
  (hn:∀i (hi:i<ps.length),∃A1 c1 A2 c2,xs[i*6]?=some (.string ps[i].s)/\xs[i*6+1]?=some (.slice A1 ps[i].ps.length c1)/\xs[i*6+2]?=some (zj ps[i].b.k) /\
   xs[i*6+3]?=some (zi ps[i].b.n)/\xs[i*6+4]?=some (.string ps[i].b.s)/\xs[i*6+5]?=some (.slice A2 ps[i].b.ks.length c2)/\PrR W (fun b=>S b/\some b≠v.ownBlock) ps[i] A1 c1 A2 c2)
  (hr:PrR W (fun b=>S b/\some b≠v.ownBlock) r A1 c1 A2 c2)(hlen:ps.length+1<=1000)
  (h2:w'.ownsRow base E 6 v' (ps.length+1) (xs++[.string r.s,.slice A1 r.ps.length c1,zj r.b.k,zi r.b.n,.string r.b.s,.slice A2 r.b.ks.length c2]))(h3:(W.alloc o).grownBy w' v.ownBlock)(h5:v'.ownBlock=v.ownBlock\/v'.ownBlock=some (W.alloc o).heap.size):OwnP w' base E S v' (ps++[r]):=by
 have hk:∀ {r:PR} {A1 A2:Option Addr} {c1 c2:Nat},PrR W (fun b=>S b/\some b≠v.ownBlock) r A1 c1 A2 c2->PrR w' (fun b=>S b/\some b≠v'.ownBlock) r A1 c1 A2 c2:=by
  intro r A1 A2 c1 c2 h;refine h.keep (fun b hb hlt=>⟨hb.1,?_⟩) (fun b hb hlt=>?_)
  ·rcases h5 with h5|h5<;>rw[h5]
   ·exact hb.2
   ·intro e;injection e with e;simp at e;omega
  ·rw[h3.block b (by simp;omega) hb.2];exact Below.heap_alloc W o b hlt
 refine⟨_,by simpa using h2,by simpa using hlen,fun i hi=>?_⟩;have hxl:=ho.1;by_cases h:i<ps.length
 ·obtain⟨B1,d1,B2,d2,e0,e1,e2,e3,e4,e5,hv⟩:=hn i h;refine⟨B1,d1,B2,d2,?_,?_,?_,?_,?_,?_,?_⟩
  ·rw[List.getElem_append_left h,List.getElem?_append_left zO];exact e0
  ·rw[List.getElem_append_left h,List.getElem?_append_left zO];exact e1
  ·rw[List.getElem_append_left h,List.getElem?_append_left zO];exact e2
  ·rw[List.getElem_append_left h,List.getElem?_append_left zO];exact e3
  ·rw[List.getElem_append_left h,List.getElem?_append_left zO];exact e4
  ·rw[List.getElem_append_left h,List.getElem?_append_left zO];exact e5
  ·rw[List.getElem_append_left h];exact hk hv
 ·have e:i=ps.length:=by simp at hi;omega
  subst e;refine⟨A1,c1,A2,c2,?_,?_,?_,?_,?_,?_,?_⟩
  ·rw[List.getElem?_append_right zO];simp[hxl]
  ·rw[List.getElem?_append_right zO];simp[hxl]
  ·rw[List.getElem?_append_right zO];simp[hxl]
  ·rw[List.getElem?_append_right zO];simp[hxl]
  ·rw[List.getElem?_append_right zO];simp[hxl]
  ·rw[List.getElem?_append_right zO];simp[hxl]
  ·simpa using hk hr
abbrev ZP:Array Value := #[zn,zn,zj 0,zi 0,.string ⟨#[]⟩,zn]
theorem zpY{B:Nat}{a w:World}{g:Nat}(h:Below B a w)(hg:B<=g)(u0 u1 u2 u3 u4 u5:Value):Below B a ((((((w.setCell ⟨g,0,none⟩ u0).setCell ⟨g,1,none⟩ u1).setCell ⟨g,2,none⟩ u2).setCell ⟨g,3,none⟩ u3).setCell ⟨g,4,none⟩ u4).setCell ⟨g,5,none⟩ u5) :=
 (((((h.setCell (by simpa using hg) _).setCell (by simpa using hg) _).setCell (by simpa using hg) _).setCell (by simpa using hg) _).setCell (by simpa using hg) _).setCell (by simpa using hg) _
structure PI(w wx:World)(EG ER:TypeId)(ob:Obj)(S:Nat->Prop)(g:Nat)(A1:Option Addr)(l1 c1:Nat)(k n:Int)(s:ByteArray)(A3:Option Addr)(l3 c3:Nat)(v:Value)(vs:List VD)(m:T)(ps:List PR):Prop where
 low:Below (w.heap.size+2) ((w.alloc ob).alloc (.cells ZP EG)) wx
 ge:w.heap.size+2<=g
 box:wx.heap[g]?=some (.cells #[.slice A1 l1 c1,v,.int .u8 k,.int .i64 n,.string s,.slice A3 l3 c3] EG (0,0))
 own:OwnP wx (w.heap.size+2) ER S v ps
 ne:v.ownBlock≠some g
 vars:RowV wx (fun b=>S b/\some b≠v.ownBlock) A1 vs
 main:NV wx (fun b=>S b/\some b≠v.ownBlock) m (nv k n s A3 l3 c3)
 far:∀b,S b->b<w.heap.size\/(w.heap.size+2<=b/\b≠g)
section
variable {w wx w':World} {EG ER:TypeId} {ob:Obj} {S:Nat->Prop} {g:Nat} {A1:Option Addr} {l1 c1:Nat} {k n:Int} {s:ByteArray} {A3:Option Addr} {l3 c3:Nat} {v v':Value} {vs:List VD} {m:T} {ps ps':List PR}
theorem PI.size(h:PI w wx EG ER ob S g A1 l1 c1 k n s A3 l3 c3 v vs m ps):w.heap.size+2<=wx.heap.size:=by have:=h.low.size;simpa using this
theorem PI.below(h:PI w wx EG ER ob S g A1 l1 c1 k n s A3 l3 c3 v vs m ps):zw w wx:=((zr.alloc zl _).alloc zS _).trans (h.low.mono zO)
theorem PI.later(h:PI w wx EG ER ob S g A1 l1 c1 k n s A3 l3 c3 v vs m ps)(hb:zw wx w'):PI w w' EG ER ob S g A1 l1 c1 k n s A3 l3 c3 v vs m ps :=
 ⟨h.low.trans (hb.mono (by simpa using h.size)),h.ge,(hb.block _ (zkf h.box)).trans h.box,h.own.later hb,h.ne,h.vars.later hb,h.main.later hb,h.far⟩
theorem PI.res(h:PI w wx EG ER ob S g A1 l1 c1 k n s A3 l3 c3 v vs m ps):wx.heap[w.heap.size+1]?=some (.cells ZP EG (0,0)):=by
 rw[h.low.block _ zO];have:=heap_alloc_new (w.alloc ob) (.cells ZP EG);simpa using this
theorem PI.arg{cs:Array Value}(h:PI w wx EG ER (.cells cs EG) S g A1 l1 c1 k n s A3 l3 c3 v vs m ps):wx.heap[w.heap.size]?=some (.cells cs EG (0,0)):=by
 rw[h.low.block _ zO,Below.heap_alloc _ _ _ zS];exact heap_alloc_new w _
theorem PI.put(h:PI w wx EG ER ob S g A1 l1 c1 k n s A3 l3 c3 v vs m ps)(ho:OwnP w' (w.heap.size+2) ER S v' ps')(hg:wx.grownBy w' v.ownBlock)(hne:v'.ownBlock≠some g)(aY:v'.ownBlock=v.ownBlock\/∃b,v'.ownBlock=some b/\wx.heap.size<=b) :
  PI w (w'.setCell ⟨g,1,none⟩ v') EG ER ob S g A1 l1 c1 k n s A3 l3 c3 v' vs m ps':=by
 have hrow:∀b,v.ownBlock=some b->w.heap.size+2<=b:=fun b e=>(h.own.block b e).1;have hbx:w'.heap[g]?=some (.cells #[.slice A1 l1 c1,v,zj k,zi n,.string s,.slice A3 l3 c3] EG (0,0)):=(hg.block _ (zkf h.box) (fun e=>h.ne e.symm)).trans h.box;have hS:∀b,S b/\some b≠v.ownBlock->b<wx.heap.size->S b/\some b≠v'.ownBlock:=fun b hb hlt=>⟨hb.1,fun e=>by
  rcases aY with h1|⟨b',h1,h2⟩
  ·rw[h1]at e;exact hb.2 e
  ·rw[h1]at e;injection e with e;omega⟩
 have hK:∀b,S b/\some b≠v.ownBlock->b<wx.heap.size->(w'.setCell ⟨g,1,none⟩ v').heap[b]?=wx.heap[b]?:=fun b hb hlt=>by
  have hbg:b≠g:=by have h1:=h.far b hb.1;have h2:=h.ge;omega
  rw[Below.heap_setCell _ _ _ _ (by simpa using hbg)];exact hg.block b hlt hb.2
 refine⟨(h.low.grown hg (by have:=h.size;omega) (fun b e=>by have:=hrow b e;omega)).setCell (by simpa using h.ge) _,h.ge,?_,ho.grown (row:=some g) (zlw (zlZ _ _) rfl _) (fun b e=>?_),hne,h.vars.keep hS hK,h.main.keep hS hK,h.far⟩
 ·have:=heap_setCell_same w' g 1 _ EG v' hbx;simpa using this
 ·injection e with e;subst e;refine⟨fun hh=>?_,hne⟩;have h1:=h.far _ hh;have h2:=h.ge;omega
theorem PI.result(h:PI w wx EG ER ob S g A1 l1 c1 k n s A3 l3 c3 v vs m ps){A2:Option Addr}{l2 c2:Nat}(hv:v=.slice A2 l2 c2)(hl1:l1=vs.length)(hlv:vs.length<=LV)(hlc:vs.length<=c1)(S':Nat->Prop)(hS:∀b,S b->S' b)(hS2:∀b,w.heap.size+2<=b->S' b) :
  PV ((((((wx.setCell ⟨w.heap.size+1,0,none⟩ (.slice A1 l1 c1)).setCell ⟨w.heap.size+1,1,none⟩ (.slice A2 l2 c2)).setCell ⟨w.heap.size+1,2,none⟩ (zj k)).setCell ⟨w.heap.size+1,3,none⟩ (zi n)).setCell ⟨w.heap.size+1,4,none⟩ (.string s)).setCell ⟨w.heap.size+1,5,none⟩ (.slice A3 l3 c3)) S' ⟨vs,ps,m⟩ (pv A1 l1 c1 A2 l2 c2 k n s A3 l3 c3)/\zw w ((((((wx.setCell ⟨w.heap.size+1,0,none⟩ (.slice A1 l1 c1)).setCell ⟨w.heap.size+1,1,none⟩ (.slice A2 l2 c2)).setCell ⟨w.heap.size+1,2,none⟩ (zj k)).setCell ⟨w.heap.size+1,3,none⟩ (zi n)).setCell ⟨w.heap.size+1,4,none⟩ (.string s)).setCell ⟨w.heap.size+1,5,none⟩ (.slice A3 l3 c3)):=by
 obtain⟨A2',c2',e,hc,hr⟩:=h.own.row;rw[hv]at e;injection e with e1 e2 e3;subst e1 e3;have hkb:∀b,b<w.heap.size\/w.heap.size+2<=b->((((((wx.setCell ⟨w.heap.size+1,0,none⟩ (.slice A1 l1 c1)).setCell ⟨w.heap.size+1,1,none⟩ (.slice A2 l2 c2)).setCell ⟨w.heap.size+1,2,none⟩ (zj k)).setCell ⟨w.heap.size+1,3,none⟩ (zi n)).setCell ⟨w.heap.size+1,4,none⟩ (.string s)).setCell ⟨w.heap.size+1,5,none⟩ (.slice A3 l3 c3)).heap[b]?=wx.heap[b]?:=fun b hb=>by
  rw[Below.heap_setCell _ _ _ _ (by simp;omega),Below.heap_setCell _ _ _ _ (by simp;omega),Below.heap_setCell _ _ _ _ (by simp;omega),Below.heap_setCell _ _ _ _ (by simp;omega),Below.heap_setCell _ _ _ _ (by simp;omega),Below.heap_setCell _ _ _ _ (by simp;omega)]
 have eX:∀b,S b->b<w.heap.size\/w.heap.size+2<=b:=fun b hb=>by have:=h.far b hb;omega
 refine⟨?_,(((((h.below.setCell zS _).setCell zS _).setCell zS _).setCell zS _).setCell zS _).setCell zS _⟩;have hm:=h.main.keep (S':=S') (fun b hb _=>hS b hb.1) (fun b hb _=>hkb b (eX b hb.1));obtain⟨A4,c4,e4,_⟩:=hm.open_;simp only[nv,Value.agg.injEq,Array.mk.injEq,List.cons.injEq,Value.int.injEq,Value.string.injEq,Value.slice.injEq,true_and,and_true]at e4;obtain⟨rfl,rfl,rfl,rfl,rfl,rfl⟩:=e4;subst hl1;refine⟨A1,c1,A2,c2,A3,c3,by rw[e2],h.vars.keep (fun b hb _=>hS b hb.1) (fun b hb _=>hkb b (eX b hb.1)),hlv,hlc,hr.keep (fun b hb _=>?_) (fun b hb _=>hkb b ?_),by have:=h.own.len;unfold LV;simp only;omega,hc,hm⟩
 ·rcases hb with hb|hb
  ·exact hS b hb
  ·exact hS2 b (h.own.block b hb).1
 ·rcases hb with hb|hb
  ·exact eX b hb
  ·exact .inr (h.own.block b hb).1
end
section
variable {w w':World} {b:Nat} {E:TypeId} {u0 u1 u2 u3 u4 u5:Value}
theorem box4(h:w.heap[b]?=some (.cells #[u0,u1,u2,u3] E (0,0))):w.cell? ⟨b,0,none⟩=some u0/\w.cell? ⟨b,1,none⟩=some u1/\w.cell? ⟨b,2,none⟩=some u2/\w.cell? ⟨b,3,none⟩=some u3 :=
 ⟨zc h rfl,zc h rfl,zc h rfl,zc h rfl⟩
theorem box6(h:w.heap[b]?=some (.cells #[u0,u1,u2,u3,u4,u5] E (0,0))):w.cell? ⟨b,0,none⟩=some u0/\w.cell? ⟨b,1,none⟩=some u1/\w.cell? ⟨b,2,none⟩=some u2/\w.cell? ⟨b,3,none⟩=some u3/\w.cell? ⟨b,4,none⟩=some u4/\w.cell? ⟨b,5,none⟩=some u5 :=
 ⟨zc h rfl,zc h rfl,zc h rfl,zc h rfl,zc h rfl,zc h rfl⟩
theorem zkc{o:Obj}(h:w.heap[b]?=some o)(hb:zw w w'):w'.heap[b]?=some o:=(hb.block _ (zkf h)).trans h
theorem zkd{o:Obj}(h:w.heap[b]?=some o)(o':Obj):(w.alloc o').heap[b]?=some o:=(Below.heap_alloc w o' b (zkf h)).trans h
theorem zkb{w0:World}(h:zw w0 w)(o:Obj):zw w0 (w.alloc o):=h.alloc h.size o
theorem zka{w0:World}(h:zw w0 w)(hb:zw w w'):zw w0 w':=h.trans (hb.mono h.size)
end
section
variable {w wx w':World} {E:TypeId} {k n:Int} {s:ByteArray} {A:Option Addr} {l c:Nat} {k' n':Int} {s':ByteArray} {S:Nat->Prop} {v v':Value} {L L':List T}
end
theorem zmj{P:Program}{ops:Array Oper}{o:Oper}{a:Act}{w:World}{K:Act->World->Prop}{Q:Exit->Act->World->Prop}{F:Prop}(hgd:o.guard=none)(x x1:Operand)(ats:Array TypeId)
  (ho:o.op=.call { callee:=.value x,args := #[x1],argTypes:=ats })(f:FuncId)(fn:Func)(hf:IsFn P f fn)(hv:a.eval x=.func (.func f) #[] #[])(v1:Value)(h1:a.eval x1=v1)(R:Value->World->Prop)
  (hc:Calls P f #[v1] w fun e w'=>∃v,e=.returned v/\R v w')(h:∀v w',R v w'->K (a.put o.dst v) w') :
  if Region.wanted o (yielded ops a.tmps)=true then Oper.wp P o a w K Q else F:=by
 have hw:Region.wanted o (yielded ops a.tmps)=true:=by simp[Region.wanted,hgd]
 rw[if_pos hw];subst h1;have e:(execOp a.eval o).run P w=.ok (.enter f #[a.eval x1]) w:=by
  unfold execOp;simp only[ho,resolve,hv,Deferred.ofValue,Sem.run_bind,Sem.run_pure,Result.andThen_ok,invoke,zkH hf,Array.empty_append,Array.append_empty,List.map_toArray,List.map_cons,List.map_nil]
 unfold Oper.wp;rw[e,Oper.upon_enter];refine hc.mono ?_;rintro e w' ⟨v,rfl,hR⟩;exact h v w' hR
def NewV(w:World)(t:T)(v:Value)(w':World):Prop:=∃k n s A l c,v=nv k n s A l c/\NV w' (From w.heap.size) t (nv k n s A l c)/\zw w w'
theorem zzL{P:Program}{f:FuncId}{args:Array Value}{w:World}{t:T}(h:Calls P f args w (zqw w t)):Calls P f args w fun e w'=>∃v,e=.returned v/\NewV w t v w' :=
 h.mono fun _ _ ⟨k,n,s,A,l,c,he,hn,hb⟩=>⟨_,he,k,n,s,A,l,c,rfl,hn,hb⟩
theorem zKo(a0 a1 a2 a3 b0 b1 b2 b3:Value)(w:World):(Instr.buildSlice 26 2 #[(0,.agg #[a0,a1,a2,a3]),(1,.agg #[b0,b1,b2,b3])]).run prog w=.ok (.slice (some ⟨w.heap.size,0,none⟩) 2 2) (w.alloc (.cells #[a0,a1,a2,a3,b0,b1,b2,b3] 28)):=zK
theorem zKr(k:Int)(A:Option Addr)(l c:Nat)(w:World):(Instr.build 28 #[(0,zj k),(3,.slice A l c)]).run prog w=.ok (nv k 0 ⟨#[]⟩ A l c) w:=zK
theorem zkY{P:Program}{W:World}{ops:Array Oper}{o:Oper}{a:Act}{K:Act->World->Prop}{Q:Exit->Act->World->Prop}{F:Prop}(hgd:o.guard=none)(s x:Operand)(ty:TypeId)
  (ho:o.op=.call { callee:=.builtin .append,args := #[s,x],argTypes := #[ty,ty] })(base:Nat)(E:TypeId)(i:TypeInfo)(z:Value)(size bytes:Nat)(ht:P.underlying ty=some (.slice E))(hi:P.info? E=some i)(hz:i.zero=some z)
  (hsize:i.size=size)(hby:i.bytes=bytes)(hzs:z.cells.size=size)(hsz:0<size)(v:Value)(n:Nat)(xs:List Value)(hs:a.eval s=v)(hrow:W.ownsRow base E size v n xs)
  (ad:Addr)(m c:Nat)(news:List Value)(hx:a.eval x=.slice (some ad) m c)(hl:news.length=m*size)(hc:∀j u,news[j]?=some u->W.cell? (ad.add j)=some u)(h1c:∀u∈news,u.oneCell'=true)
  (b1:n+m<=maxLen)(b2:(n+m)*bytes<=140737488355328)(hb:base<=W.heap.size)
  (h:∀v' w',w'.ownsRow base E size v' (n+m) (xs++news)->W.grownBy w' v.ownBlock->(v'.ownBlock=v.ownBlock\/v'.ownBlock=some W.heap.size)->K (a.put o.dst v') w') :
  if Region.wanted o (yielded ops a.tmps)=true then Oper.wp P o a W K Q else F:=by
 have hw:Region.wanted o (yielded ops a.tmps)=true:=by simp[Region.wanted,hgd]
 rw[if_pos hw];obtain⟨v',w',hr,h2,h3,_,h5⟩:=run_append_own_at (P:=P) W base ty o.type E i z size bytes ht hi hz hsize hby hzs hsz v n xs hrow ad m c news hl hc h1c b1 b2 hb;unfold Oper.wp execOp;simp only[ho,resolve,invoke,builtin,Sem.run_bind,Sem.run_pure,Result.andThen_ok,List.map_toArray,List.map_cons,List.map_nil,hs,hx,hr];exact h v' w' h2 h3 h5
theorem zkK{w w':World}{base:Nat}{E:TypeId}{size:Nat}{v:Value}{n:Nat}{xs:List Value}(h:w.ownsRow base E size v n xs)(hb:zw w w'):w'.ownsRow base E size v n xs:=by
 obtain⟨e1,h2⟩:=h;refine⟨e1,?_⟩;rcases h2 with h2|⟨g,cap,cur,rfl,h3,hg,h4⟩
 ·exact .inl h2
 ·exact .inr ⟨g,cap,cur,rfl,h3,(hb.block _ (zkf hg)).trans hg,h4⟩
theorem zoF{P:Program}(W:World)(base base':Nat)(ty rty:TypeId)(E:TypeId)(i:TypeInfo)(z:Value)(size bytes:Nat)(ht:P.underlying ty=some (.slice E))(hi:P.info? E=some i)(hz:i.zero=some z)
  (hsize:i.size=size)(hby:i.bytes=bytes)(hzs:z.cells.size=size)(hsz:0<size)(v:Value)(n:Nat)(xs:List Value)(hown:W.ownsRow base E size v n xs)
  (u:Value)(m:Nat)(ys:List Value)(hother:W.ownsRow base' E size u m ys)(h1:∀y∈ys,y.oneCell'=true)(h63:n+m<=maxLen)(hbytes:(n+m)*bytes<=140737488355328)(hbase:base<=W.heap.size) :
  ∃v' w',(Builtin.append_ #[ty,ty] rty #[v,u]).run P W=.ok v' w'/\w'.ownsRow base E size v' (n+m) (xs++ys)/\W.grownBy w' v.ownBlock/\(v'.ownBlock=v.ownBlock\/v'.ownBlock=some W.heap.size):=by
 rcases hother.2 with⟨rfl,rfl⟩|⟨g,cap,cur,rfl,_⟩
 ·have hy:ys=[]:=by have:=hother.1;simp at this;exact this
  subst hy;refine⟨v,W,?_,by simpa using hown,zlZ _ _,.inl rfl⟩;rcases hown.2 with⟨rfl,h0⟩|⟨g,cap,cur,rfl,_,_,hnc,_⟩
  ·simp[Builtin.append_,run_underlying ht,sizeOf,typeInfo,hi,Builtin.lenOf,Builtin.firstCells]
  ·simp[Builtin.append_,run_underlying ht,sizeOf,typeInfo,hi,Builtin.lenOf,Builtin.firstCells,hnc,storeCells]
 ·obtain⟨v',w',hrun,h2,h3,_,h5⟩:=run_append_own_at (P:=P) W base ty rty E i z size bytes ht hi hz hsize hby hzs hsz v n xs hown ⟨g,0,none⟩ m cap ys hother.1 (hother.cells rfl) h1 h63 hbytes hbase;exact⟨v',w',hrun,h2,h3,h5⟩
theorem zl8{P:Program}{w:World}{ops:Array Oper}{rest:List Oper}{o:Oper}{a:Act}{Q:Exit->Act->World->Prop}(hgd:o.guard=none)(s x:Operand)(t:TypeId)
  (ho:o.op=.call { callee:=.builtin .append,args := #[s,x],argTypes := #[t,t] })(base base':Nat)(E:TypeId)(i:TypeInfo)(z:Value)(size bytes:Nat)(ht:P.underlying t=some (.slice E))(hi:P.info? E=some i)(hz:i.zero=some z)
  (hsize:i.size=size)(hby:i.bytes=bytes)(hzs:z.cells.size=size)(hsz:0<size)(v:Value)(n:Nat)(xs:List Value)(hs:a.eval s=v)(hown:w.ownsRow base E size v n xs)
  (u:Value)(m:Nat)(ys:List Value)(hx:a.eval x=u)(hother:w.ownsRow base' E size u m ys)(h1:∀y∈ys,y.oneCell'=true)(h63:n+m<=maxLen)(hbytes:(n+m)*bytes<=140737488355328)(hbase:base<=w.heap.size)
  (h:∀v' w',w'.ownsRow base E size v' (n+m) (xs++ys)->w.grownBy w' v.ownBlock->(v'.ownBlock=v.ownBlock\/v'.ownBlock=some w.heap.size)->wpList P ops Q rest (a.put o.dst v') w') :
  wpList P ops Q (o::rest) a w:=by
 refine wpList_plain hgd fun K hK=>?_;obtain⟨v',w',hr,h2,h3,h5⟩:=zoF (P:=P) w base base' t o.type E i z size bytes ht hi hz hsize hby hzs hsz v n xs hown u m ys hother h1 h63 hbytes hbase;unfold Oper.wp execOp;simp only[ho,resolve,invoke,builtin,Sem.run_bind,Sem.run_pure,Result.andThen_ok,List.map_toArray,List.map_cons,List.map_nil,hs,hx,hr];exact hK _ _ (h v' w' h2 h3 h5)
theorem zKv(A:Option Addr)(l c:Nat)(k n:Int)(s:ByteArray)(A':Option Addr)(l' c':Nat)(w:World):(Instr.build 30 #[(0,.slice A l c),(2,nv k n s A' l' c')]).run prog w=.ok (pv A l c none 0 0 k n s A' l' c') w:=zK
theorem zK2:(prog.info? 100).map (fun i=>(i.zero,i.size,i.bytes))=some (some (.agg #[.string ⟨#[]⟩,zn,zj 0,zi 0,.string ⟨#[]⟩,zn]),6,96):=zK
theorem zKq(a0 a1 a2 a3 a4 a5:Value)(w:World):(Instr.buildSlice 25 1 #[(0,.agg #[a0,a1,a2,a3,a4,a5])]).run prog w=.ok (.slice (some ⟨w.heap.size,0,none⟩) 1 1) (w.alloc (.cells #[a0,a1,a2,a3,a4,a5] 100)):=zK
theorem zKu(s0:ByteArray)(A:Option Addr)(l c:Nat)(k n:Int)(s:ByteArray)(A':Option Addr)(l' c':Nat)(w:World):(Instr.build 100 #[(0,.string s0),(1,.slice A l c),(2,nv k n s A' l' c')]).run prog w=.ok (.agg #[.string s0,.slice A l c,zj k,zi n,.string s,.slice A' l' c']) w:=zK
structure Pq(w wx:World)(E:TypeId)(vo:Option (Option Addr×List VD))(mo:Option (Value×T))(b:Option Nat):Prop where
 low:Below w.heap.size w wx
 vars:∀A vs,vo=some (A,vs)->RowV wx (fun b'=>w.heap.size<=b'/\b≠some b') A vs
 main:∀v t,mo=some (v,t)->NV wx (fun b'=>w.heap.size<=b'/\b≠some b') t v
 box:∀g,b=some g->w.heap.size<=g/\wx.heap[g]?=some (.cells ZP E (0,0))
section
variable {w wx w':World} {E:TypeId} {vo:Option (Option Addr×List VD)} {mo:Option (Value×T)} {b:Option Nat}
theorem Pq.start(w:World)(E:TypeId):Pq w w E none none none :=
 ⟨zr,(by intro _ _ h;cases h),(by intro _ _ h;cases h),(by intro _ h;cases h)⟩
theorem Pq.later(h:Pq w wx E vo mo b)(hb:zw wx w'):Pq w w' E vo mo b where
 low:=h.low.trans (hb.mono h.low.size)
 vars A vs e:=(h.vars A vs e).later hb
 main v t e:=(h.main v t e).later hb
 box g e:=let ⟨h1,h2⟩:=h.box g e;⟨h1,(hb.block _ (zkf h2)).trans h2⟩
theorem Pq.drew(h:Pq w wx E vo mo b):Pq w wx.drew E vo mo b:=h.later zr.drew
theorem Pq.alloc(h:Pq w wx E vo mo b)(ob:Obj):Pq w (wx.alloc ob) E vo mo b:=h.later (zr.alloc zl _)
theorem Pq.lay(h:Pq w wx E vo mo none):Pq w (wx.alloc (.cells ZP E)) E vo mo (some wx.heap.size) :=
 { h.alloc (.cells ZP E)with
  vars:=fun A vs e=>(h.vars A vs e).keep (fun b hb hlt=>⟨hb.1,by simp;omega⟩) fun b _ hlt=>Below.heap_alloc wx _ b hlt
  main:=fun v t e=>(h.main v t e).keep (fun b hb hlt=>⟨hb.1,by simp;omega⟩) fun b _ hlt=>Below.heap_alloc wx _ b hlt
  box:=fun g e=>by injection e with e;subst e;exact⟨h.low.size,heap_alloc_new wx _⟩ }
theorem Pq.putV{A:Option Addr}{vs:List VD}(h:Pq w wx E none mo b)(hr:RowV w' (From wx.heap.size) A vs)(hb:zw wx w'):Pq w w' E (some (A,vs)) mo b :=
 { h.later hb with
  vars:=fun A' vs' e=>by
   injection e with e;injection e with e1 e2;subst e1 e2;refine hr.mono fun b' hb'=>⟨Nat.le_trans h.low.size hb',fun e=>?_⟩
   have:=zkf (h.box b' e).2;have:wx.heap.size<=b':=hb';omega }
theorem Pq.putM{v:Value}{t:T}(h:Pq w wx E vo none b)(hr:NV w' (From wx.heap.size) t v)(hb:zw wx w'):Pq w w' E vo (some (v,t)) b :=
 { h.later hb with
  main:=fun v' t' e=>by
   injection e with e;injection e with e1 e2;subst e1 e2;refine hr.mono fun b' hb'=>⟨Nat.le_trans h.low.size hb',fun e=>?_⟩
   have:=zkf (h.box b' e).2;have:wx.heap.size<=b':=hb';omega }
theorem Pq.set6{g:Nat}(h:Pq w wx E vo mo (some g))(u0 u1 u2 u3 u4 u5:Value):zw w ((((((wx.setCell ⟨g,0,none⟩ u0).setCell ⟨g,1,none⟩ u1).setCell ⟨g,2,none⟩ u2).setCell ⟨g,3,none⟩ u3).setCell ⟨g,4,none⟩ u4).setCell ⟨g,5,none⟩ u5) :=
 zpY h.low (h.box g rfl).1 _ _ _ _ _ _
theorem Pq.done{w0:World}{ob:Obj}{ER:TypeId}{g:Nat}{A1:Option Addr}{l1 c1:Nat}{k n:Int}{s:ByteArray}{A3:Option Addr}{l3 c3:Nat}{vs:List VD}{m:T}
  (h:Pq w wx E (some (A1,vs)) (some (nv k n s A3 l3 c3,m)) (some g))(h0:Below (w0.heap.size+2) ((w0.alloc ob).alloc (.cells ZP E)) w) :
  PI w0 ((((((wx.setCell ⟨g,0,none⟩ (.slice A1 l1 c1)).setCell ⟨g,1,none⟩ zn).setCell ⟨g,2,none⟩ (zj k)).setCell ⟨g,3,none⟩ (zi n)).setCell ⟨g,4,none⟩ (.string s)).setCell ⟨g,5,none⟩ (.slice A3 l3 c3)) E ER ob (fun b=>w0.heap.size+2<=b/\b≠g) g A1 l1 c1 k n s A3 l3 c3 zn vs m []:=by
 obtain⟨hg,hbx⟩:=h.box g rfl;have hz:w0.heap.size+2<=w.heap.size:=by have:=h0.size;simpa using this
 have hge:w0.heap.size+2<=g:=zO
 have hkb:∀b,b≠g->((((((wx.setCell ⟨g,0,none⟩ (.slice A1 l1 c1)).setCell ⟨g,1,none⟩ zn).setCell ⟨g,2,none⟩ (zj k)).setCell ⟨g,3,none⟩ (zi n)).setCell ⟨g,4,none⟩ (.string s)).setCell ⟨g,5,none⟩ (.slice A3 l3 c3)).heap[b]?=wx.heap[b]?:=fun b hb=>by
  rw[Below.heap_setCell _ _ _ _ (by simpa using hb),Below.heap_setCell _ _ _ _ (by simpa using hb),Below.heap_setCell _ _ _ _ (by simpa using hb),Below.heap_setCell _ _ _ _ (by simpa using hb),Below.heap_setCell _ _ _ _ (by simpa using hb),Below.heap_setCell _ _ _ _ (by simpa using hb)]
 refine⟨zpY (h0.trans (h.low.mono hz)) hge _ _ _ _ _ _,hge,?_,OwnP.nil _ _ _ _,by simp[Value.ownBlock],
  (h.vars _ _ rfl).keep (fun b hb _=>⟨⟨zO,fun e=>hb.2 (by rw[e])⟩,by simp[Value.ownBlock]⟩) (fun b hb _=>hkb b fun e=>hb.2 (by rw[e])),
  (h.main _ _ rfl).keep (fun b hb _=>⟨⟨zO,fun e=>hb.2 (by rw[e])⟩,by simp[Value.ownBlock]⟩) (fun b hb _=>hkb b fun e=>hb.2 (by rw[e])),fun b hb=>.inr hb⟩
 have h0:=heap_setCell_same wx g 0 _ E (.slice A1 l1 c1) hbx;have h1:=heap_setCell_same _ g 1 _ E zn h0;have h2:=heap_setCell_same _ g 2 _ E (zj k) h1;have h3:=heap_setCell_same _ g 3 _ E (zi n) h2;have h4:=heap_setCell_same _ g 4 _ E (.string s) h3;have h5:=heap_setCell_same _ g 5 _ E (.slice A3 l3 c3) h4;simpa using h5
theorem Pq.done2{w0:World}{ob:Obj}{ER:TypeId}{A1:Option Addr}{l1 c1:Nat}{k n:Int}{s:ByteArray}{A3:Option Addr}{l3 c3:Nat}{vs:List VD}{m:T}
  (h:Pq w wx E (some (A1,vs)) (some (nv k n s A3 l3 c3,m)) none)(h0:Below (w0.heap.size+2) ((w0.alloc ob).alloc (.cells ZP E)) w) :
  PI w0 (wx.alloc (.cells #[.slice A1 l1 c1,zn,zj k,zi n,.string s,.slice A3 l3 c3] E)) E ER ob (fun b=>w0.heap.size+2<=b/\b≠wx.heap.size) wx.heap.size A1 l1 c1 k n s A3 l3 c3 zn vs m []:=by
 have hz:w0.heap.size+2<=w.heap.size:=by have:=h0.size;simpa using this
 have hz2:=h.low.size;have ha:=(zs wx).alloc zl (.cells #[.slice A1 l1 c1,zn,zj k,zi n,.string s,.slice A3 l3 c3] E);exact⟨h0.trans ((h.low.mono hz).trans (ha.mono zO)),zO,heap_alloc_new wx _,OwnP.nil _ _ _ _,by simp[Value.ownBlock],
  (h.vars _ _ rfl).keep (fun b hb hlt=>⟨⟨zO,zO⟩,by simp[Value.ownBlock]⟩) (fun b _ hlt=>ha.block b hlt),
  (h.main _ _ rfl).keep (fun b hb hlt=>⟨⟨zO,zO⟩,by simp[Value.ownBlock]⟩) (fun b _ hlt=>ha.block b hlt),fun b hb=>.inr hb⟩
end
theorem zod{P:Program}{W:World}{ops:Array Oper}{o:Oper}{a:Act}{K:Act->World->Prop}{Q:Exit->Act->World->Prop}{F:Prop}(hgd:o.guard=none)(s x:Operand)(ty:TypeId)
  (ho:o.op=.call { callee:=.builtin .append,args := #[s,x],argTypes := #[ty,ty] })(E:TypeId)(i:TypeInfo)(z:Value)(ht:P.underlying ty=some (.slice E))(hi:P.info? E=some i)(hz:i.zero=some z)
  (hsize:i.size=6)(hby:i.bytes=96)(hzs:z.cells.size=6)(base:Nat)(S:Nat->Prop)(v:Value)(ps:List PR)(hs:a.eval s=v)(hown:OwnP W base E S v ps)
  (r:PR)(A1:Option Addr)(c1:Nat)(A2:Option Addr)(c2:Nat)(hx:a.eval x=.slice (some ⟨W.heap.size,0,none⟩) 1 1)(hr:PrR W (fun b=>S b/\some b≠v.ownBlock) r A1 c1 A2 c2)(hlen:ps.length+1<=1000)(hbase:base<=W.heap.size)
  (h:∀v' w',OwnP w' base E S v' (ps++[r])->W.grownBy w' v.ownBlock->(v'.ownBlock=v.ownBlock\/∃g,v'.ownBlock=some g/\W.heap.size<=g)->K (a.put o.dst v') w') :
  if Region.wanted o (yielded ops a.tmps)=true then Oper.wp P o a (W.alloc (.cells #[.string r.s,.slice A1 r.ps.length c1,zj r.b.k,zi r.b.n,.string r.b.s,.slice A2 r.b.ks.length c2] E)) K Q else F:=by
 have hw:Region.wanted o (yielded ops a.tmps)=true:=by simp[Region.wanted,hgd]
 rw[if_pos hw];obtain⟨xs,hrow,_,hns⟩:=hown;obtain⟨v',w',hrn,h2,h3,_,h5⟩:=run_append_own_at (P:=P) (W.alloc (.cells #[.string r.s,.slice A1 r.ps.length c1,zj r.b.k,zi r.b.n,.string r.b.s,.slice A2 r.b.ks.length c2] E)) base ty o.type E i z 6 96 ht hi hz hsize hby hzs zY v ps.length xs (hrow.alloc _) ⟨W.heap.size,0,none⟩ 1 1 [.string r.s,.slice A1 r.ps.length c1,zj r.b.k,zi r.b.n,.string r.b.s,.slice A2 r.b.ks.length c2] zS
  (zkU W E _) (by intro u hu;simp at hu;rcases hu with rfl|rfl|rfl|rfl|rfl|rfl<;>rfl) (by unfold maxLen;omega) zO (by simp;omega)
 unfold Oper.wp execOp;simp only[ho,resolve,invoke,builtin,Sem.run_bind,Sem.run_pure,Result.andThen_ok,List.map_toArray,List.map_cons,List.map_nil,hs,hx,hrn];refine h v' w' (zu4 hrow hns hr hlen h2 h3 h5) ⟨h3.os,h3.tape,h3.output,Nat.le_trans zS h3.size,fun b hb hne=>?_⟩ ?_
 ·rw[h3.block b (by simp;omega) hne];exact Below.heap_alloc W _ b hb
 ·rcases h5 with h5|h5
  ·exact .inl h5
  ·exact .inr ⟨_,h5,zS⟩
theorem znR{P:Program}{W:World}{ops:Array Oper}{o:Oper}{a:Act}{K:Act->World->Prop}{Q:Exit->Act->World->Prop}{F:Prop}(hgd:o.guard=none)(s x:Operand)(ty:TypeId)
  (ho:o.op=.call { callee:=.builtin .append,args := #[s,x],argTypes := #[ty,ty] })(E:TypeId)(i:TypeInfo)(z:Value)(ht:P.underlying ty=some (.slice E))(hi:P.info? E=some i)(hz:i.zero=some z)
  (hsize:i.size=6)(hby:i.bytes=96)(hzs:z.cells.size=6)(base:Nat)(S:Nat->Prop)(v:Value)(ps:List PR)(hs:a.eval s=v)(hown:OwnP W base E S v ps)
  (r:PR)(L:Nat)(hL:r.ps.length=L)(A1:Option Addr)(c1:Nat)(A2:Option Addr)(c2:Nat)(hx:a.eval x=.slice (some ⟨W.heap.size,0,none⟩) 1 1)(hr:PrR W (fun b=>S b/\some b≠v.ownBlock) r A1 c1 A2 c2)(hlen:ps.length+1<=1000)(hbase:base<=W.heap.size)
  (h:∀v' w',OwnP w' base E S v' (ps++[r])->W.grownBy w' v.ownBlock->(v'.ownBlock=v.ownBlock\/∃g,v'.ownBlock=some g/\W.heap.size<=g)->K (a.put o.dst v') w') :
  if Region.wanted o (yielded ops a.tmps)=true then Oper.wp P o a (W.alloc (.cells #[.string r.s,.slice A1 L c1,zj r.b.k,zi r.b.n,.string r.b.s,.slice A2 r.b.ks.length c2] E)) K Q else F:=by
 subst hL;exact zod hgd s x ty ho E i z ht hi hz hsize hby hzs base S v ps hs hown r A1 c1 A2 c2 hx hr hlen hbase h
def Src(w:World)(S:Nat->Prop)(A:Option Addr)(us:List T):Prop :=
 ∀i (hi:i<us.length),∃a u0 u1 u2 u3,A=some a/\zsx w (a.add (i*4)) u0 u1 u2 u3/\NV w S us[i] (.agg #[u0,u1,u2,u3])
theorem zqu(a:Addr)(i j:Nat):(a.add i).add j=a.add (i+j):=by
 by_cases hi:i=0
 ·subst hi;simp[Addr.add]
 by_cases hj:j=0
 ·subst hj;simp[Addr.add]
 simp[Addr.add,hi,hj,Nat.add_assoc]
theorem zkS.src{w:World}{S:Nat->Prop}{A:Option Addr}{us:List T}(h:zkS w S A us):Src w S A us:=fun i hi =>
 let ⟨a,u0,u1,u2,u3,h1,_,h2,h3⟩:=h i hi;⟨a,u0,u1,u2,u3,h1,h2,h3⟩
theorem Src.news{w:World}{S:Nat->Prop}{a:Addr}:∀ {us:List T},Src w S (some a) us->∃news:List Value,news.length=us.length*4/\(∀j u,news[j]?=some u->w.cell? (a.add j)=some u)/\(∀u∈news,u.oneCell'=true) /\
  ∀i (hi:i<us.length),∃u0 u1 u2 u3,news[i*4]?=some u0/\news[i*4+1]?=some u1/\news[i*4+2]?=some u2/\news[i*4+3]?=some u3/\NV w S us[i] (.agg #[u0,u1,u2,u3]):=by
 intro us
 induction us generalizing a with
 | nil=>exact fun _=>⟨[],rfl,fun j u h=>by simp at h,fun u h=>by simp at h,fun i hi=>absurd hi zS⟩
 | cons t us ih =>
  intro h;obtain⟨a',u0,u1,u2,u3,e,hc,hn⟩:=h 0 zS;injection e with e;subst e;have ho:u0.oneCell'=true/\u1.oneCell'=true/\u2.oneCell'=true/\u3.oneCell'=true:=by
   obtain⟨A',c',e,_⟩:=hn.open_;simp only[nv,Value.agg.injEq,Array.mk.injEq,List.cons.injEq,and_true]at e;obtain⟨rfl,rfl,rfl,rfl⟩:=e;exact⟨rfl,rfl,rfl,rfl⟩
  obtain⟨news,hl,hcell,h1,hns⟩:=ih (a:=a.add 4) (fun i hi=>by
   obtain⟨a'',y0,y1,y2,y3,e,hc,hn⟩:=h (i+1) (by simpa using hi);injection e with e;subst e;refine⟨_,y0,y1,y2,y3,rfl,?_,by simpa using hn⟩;rw[zqu];rw[show 4+i*4=(i+1)*4 by omega];exact hc)
  obtain⟨c0,c1,c2,c3⟩:=hc;simp only[Nat.zero_mul]at c0 c1 c2 c3;refine⟨u0::u1::u2::u3::news,by simp[hl];omega,fun j u hj=>?_,fun u hu=>?_,fun i hi=>?_⟩
  ·rcases j with _|_|_|_|j
   ·simp at hj;subst hj;exact c0
   ·simp at hj;subst hj;exact c1
   ·simp at hj;subst hj;exact c2
   ·simp at hj;subst hj;exact c3
   ·have:=hcell j u (by simpa using hj);rw[zqu]at this;rw[show j+1+1+1+1=4+j by omega];exact this
  ·simp only[List.mem_cons]at hu;rcases hu with rfl|rfl|rfl|rfl|hu
   ·exact ho.1
   ·exact ho.2.1
   ·exact ho.2.2.1
   ·exact ho.2.2.2
   ·exact h1 u hu
  ·rcases i with _|i
   ·exact⟨_,_,_,_,rfl,rfl,rfl,rfl,by simpa using hn⟩
   ·obtain⟨y0,y1,y2,y3,e0,e1,e2,e3,hv⟩:=hns i (by simpa using hi);refine⟨y0,y1,y2,y3,?_,?_,?_,?_,by simpa using hv⟩
    ·rw[show(i+1)*4=i*4+1+1+1+1 by omega];simpa using e0
    ·rw[show(i+1)*4+1=i*4+1+1+1+1+1 by omega];simpa using e1
    ·rw[show(i+1)*4+2=i*4+2+1+1+1+1 by omega];simpa using e2
    ·rw[show(i+1)*4+3=i*4+3+1+1+1+1 by omega];simpa using e3
theorem zoe{P:Program}{W:World}(ty rty:TypeId)(E:TypeId)(i:TypeInfo)(z:Value)(ht:P.underlying ty=some (.slice E))(hi:P.info? E=some i)(hz:i.zero=some z)
  (hsize:i.size=4)(hby:i.bytes=56)(hzs:z.cells.size=4)(base:Nat)(S:Nat->Prop)(v:Value)(ts:List T)(hown:OwnN W base E S v ts)
  (us:List T)(A:Option Addr)(c:Nat)(hr:Src W (fun b=>S b/\some b≠v.ownBlock) A us)(hlen:ts.length+us.length<=LK)(hbase:base<=W.heap.size) :
  ∃v' w',(Builtin.append_ #[ty,ty] rty #[v,.slice A us.length c]).run P W=.ok v' w'/\OwnN w' base E S v' (ts++us)/\W.grownBy w' v.ownBlock/\(v'.ownBlock=v.ownBlock\/v'.ownBlock=some W.heap.size):=by
 obtain⟨xs,hrow,hlk,hns⟩:=hown;rcases A with _|a
 ·have hu:us=[]:=by
   cases us with
   | nil=>rfl
   | cons t us=>obtain⟨_,_,_,_,_,h,_⟩:=hr 0 zS;cases h
  subst hu;refine⟨v,W,?_,by simpa using⟨xs,hrow,hlk,hns⟩,zlZ _ _,.inl rfl⟩;rcases hrow.2 with⟨rfl,h0⟩|⟨g,cap,cur,rfl,_,_,hnc,_⟩
  ·simp[Builtin.append_,run_underlying ht,sizeOf,typeInfo,hi,Builtin.lenOf,Builtin.firstCells]
  ·simp[Builtin.append_,run_underlying ht,sizeOf,typeInfo,hi,Builtin.lenOf,Builtin.firstCells,hnc,storeCells]
 ·obtain⟨news,hl,hcell,h1,hnn⟩:=hr.news;have hl56:(ts.length+us.length)*56<=140737488355328:=by unfold LK at hlen;omega
  have hl63:ts.length+us.length<=maxLen:=by unfold LK at hlen;unfold maxLen;omega
  obtain⟨v',w',hrun,h2,h3,_,h5⟩:=run_append_own_at (P:=P) W base ty rty E i z 4 56 ht hi hz hsize hby hzs zY v ts.length xs hrow a us.length c news hl hcell h1 hl63 hl56 hbase;refine⟨v',w',hrun,?_,h3,h5⟩;have hk:∀ {t:T} {u:Value},NV W (fun b=>S b/\some b≠v.ownBlock) t u->NV w' (fun b=>S b/\some b≠v'.ownBlock) t u:=by
   intro t u h;refine h.keep (fun b hb hlt=>⟨hb.1,?_⟩) (fun b hb hlt=>h3.block b hlt hb.2);rcases h5 with h5|h5<;>rw[h5]
   ·exact hb.2
   ·intro e;injection e with e;omega
  refine⟨xs++news,by simpa using h2,by simpa using hlen,fun q hq=>?_⟩;have hxl:=hrow.1;by_cases h:q<ts.length
  ·obtain⟨y0,y1,y2,y3,e0,e1,e2,e3,hv⟩:=hns q h;refine⟨y0,y1,y2,y3,?_,?_,?_,?_,by rw[List.getElem_append_left h];exact hk hv⟩<;>rw[List.getElem?_append_left zO]<;>assumption
  ·have hq':q-ts.length<us.length:=by simp at hq;omega
   obtain⟨y0,y1,y2,y3,e0,e1,e2,e3,hv⟩:=hnn (q-ts.length) hq';refine⟨y0,y1,y2,y3,?_,?_,?_,?_,by rw[List.getElem_append_right zO];exact hk hv⟩
   ·rw[List.getElem?_append_right zO,hxl,show q*4-ts.length*4=(q-ts.length)*4 by omega];exact e0
   ·rw[List.getElem?_append_right zO,hxl,show q*4+1-ts.length*4=(q-ts.length)*4+1 by omega];exact e1
   ·rw[List.getElem?_append_right zO,hxl,show q*4+2-ts.length*4=(q-ts.length)*4+2 by omega];exact e2
   ·rw[List.getElem?_append_right zO,hxl,show q*4+3-ts.length*4=(q-ts.length)*4+3 by omega];exact e3
theorem zmk{P:Program}{W:World}{ops:Array Oper}{o:Oper}{a:Act}{K:Act->World->Prop}{Q:Exit->Act->World->Prop}{F:Prop}(hgd:o.guard=none)(s x:Operand)(ty:TypeId)
  (ho:o.op=.call { callee:=.builtin .append,args := #[s,x],argTypes := #[ty,ty] })(E:TypeId)(i:TypeInfo)(z:Value)(ht:P.underlying ty=some (.slice E))(hi:P.info? E=some i)(hz:i.zero=some z)
  (hsize:i.size=4)(hby:i.bytes=56)(hzs:z.cells.size=4)(base:Nat)(S:Nat->Prop)(v:Value)(ts:List T)(hs:a.eval s=v)(hown:OwnN W base E S v ts)
  (us:List T)(A:Option Addr)(m c:Nat)(hm:us.length=m)(hx:a.eval x=.slice A m c)(hr:Src W (fun b=>S b/\some b≠v.ownBlock) A us)(hlen:ts.length+us.length<=LK)(hbase:base<=W.heap.size)
  (h:∀v' w',OwnN w' base E S v' (ts++us)->W.grownBy w' v.ownBlock->(v'.ownBlock=v.ownBlock\/v'.ownBlock=some W.heap.size)->K (a.put o.dst v') w') :
  if Region.wanted o (yielded ops a.tmps)=true then Oper.wp P o a W K Q else F:=by
 have hw:Region.wanted o (yielded ops a.tmps)=true:=by simp[Region.wanted,hgd]
 rw[if_pos hw];subst hm;obtain⟨v',w',hrun,h2,h3,h5⟩:=zoe (P:=P) (W:=W) ty o.type E i z ht hi hz hsize hby hzs base S v ts hown us A c hr hlen hbase;unfold Oper.wp execOp;simp only[ho,resolve,invoke,builtin,Sem.run_bind,Sem.run_pure,Result.andThen_ok,List.map_toArray,List.map_cons,List.map_nil,hs,hx,hrun];exact h v' w' h2 h3 h5
theorem zuu:(prog.info? 38).map (fun i=>(i.zero,i.size,i.bytes))=some (some (.agg #[.string ⟨#[]⟩,zj 0,zi 0]),3,32):=zK
theorem zKj(w:World):(Instr.buildSlice 24 0 #[]).run prog w=.ok (.slice (some ⟨w.heap.size,0,none⟩) 0 0) (w.alloc (.cells #[] 38)):=zK
theorem zLm(a:Addr)(l c:Nat)(w:World):(binOp BinOp.eql 24 (.slice (some a) l c) zn).run prog w=.ok (.bool false) w:=zK
theorem zz9(l c:Nat)(w:World):(binOp BinOp.eql 24 (.slice none l c) zn).run prog w=.ok (.bool true) w:=zK
theorem RowV.news{w:World}{S:Nat->Prop}{a:Addr}:∀ {vs:List VD},RowV w S (some a) vs->∃news:List Value,news.length=vs.length*3/\(∀j u,news[j]?=some u->w.cell? (a.add j)=some u)/\(∀u∈news,u.oneCell'=true) /\
  ∀i (hi:i<vs.length),news[i*3]?=some (.string vs[i].s)/\news[i*3+1]?=some (zj vs[i].k)/\news[i*3+2]?=some (zi vs[i].n):=by
 intro vs
 induction vs generalizing a with
 | nil=>exact fun _=>⟨[],rfl,fun j u h=>by simp at h,fun u h=>by simp at h,fun i hi=>absurd hi zS⟩
 | cons t us ih =>
  intro h;obtain⟨a',e,hS,hc,_⟩:=h 0 zS;injection e with e;subst e;obtain⟨news,hl,hcell,h1,hns⟩:=ih (a:=a.add 3) (fun i hi=>by
   obtain⟨a'',e,hS',hc,hf⟩:=h (i+1) (by simpa using hi);injection e with e;subst e;refine⟨_,rfl,by rw[zkF];exact hS',?_,by simpa using hf⟩;rw[zqu,show 3+i*3=(i+1)*3 by omega];simpa using hc)
  obtain⟨c0,c1,c2⟩:=hc;simp only[Nat.zero_mul]at c0 c1 c2;refine⟨.string t.s :: zj t.k :: zi t.n::news,by simp[hl];omega,fun j u hj=>?_,fun u hu=>?_,fun i hi=>?_⟩
  ·rcases j with _|_|_|j
   ·simp at hj;subst hj;exact c0
   ·simp at hj;subst hj;exact c1
   ·simp at hj;subst hj;exact c2
   ·have:=hcell j u (by simpa using hj);rw[zqu]at this;rw[show j+1+1+1=3+j by omega];exact this
  ·simp only[List.mem_cons]at hu;rcases hu with rfl|rfl|rfl|hu
   ·rfl
   ·rfl
   ·rfl
   ·exact h1 u hu
  ·rcases i with _|i
   ·exact⟨rfl,rfl,rfl⟩
   ·obtain⟨e0,e1,e2⟩:=hns i (by simpa using hi);refine⟨?_,?_,?_⟩
    ·rw[show(i+1)*3=i*3+1+1+1 by omega];simpa using e0
    ·rw[show(i+1)*3+1=i*3+1+1+1+1 by omega];simpa using e1
    ·rw[show(i+1)*3+2=i*3+2+1+1+1 by omega];simpa using e2
def zLD(w:World)(vs:List VD)(e:Ending)(w':World):Prop:=∃A' c',e=.returned (.slice A' vs.length c')/\RowV w' (From w.heap.size) A' vs/\vs.length<=c'/\zw w w'
theorem zp1(vs:List VD)(A:Option Addr)(c:Nat)(S:Nat->Prop)(w:World)(hrow:RowV w S A vs)(hl:vs.length<=LV):Calls prog 101 #[.slice A vs.length c] w (zLD w vs):=by
 obtain⟨i0,hi0,hz0,hz1,hz2⟩:=info_parts zuu;have hl':=zk1 hl;rcases A with _|a
 ·have h0:vs=[]:=by
   cases vs with
   | nil=>rfl
   | cons v vs=>obtain⟨_,h,_⟩:=hrow 0 zS;cases h
  subst h0;have he:=zz9;clear hrow hl;go_enter func101,ntmps101;go_wp2_with fail;go_ret;exact⟨none,0,rfl,fun i hi=>absurd hi zS,zl,zr⟩
 ·obtain⟨news,hnl,hnc,hn1,kI⟩:=(hrow.later ((zs w).alloc zl (.cells #[] 38))).news;have HF:=zh (show ∀i (hi:i<vs.length),FldV vs[i]from fun i hi=>(hrow i hi).choose_spec.2.2.2);have jc:=zh kI;have hown:(w.alloc (.cells #[] 38)).ownsRow w.heap.size 38 3 (.slice (some ⟨w.heap.size,0,none⟩) 0 0) 0 [] :=
   ⟨rfl,.inr ⟨w.heap.size,0,#[],rfl,zl,heap_alloc_new w _,zl,Nat.zero_le _,rfl,rfl⟩⟩
  have hm1:0+vs.length<=maxLen:=by unfold maxLen;omega
  have hm2:(0+vs.length)*32<=140737488355328:=zO
  have hb0:=zKj;have he:=zLm;clear hrow hl kI;go_enter func101,ntmps101;go_wp2_with (at_builtin;refine wpList_append_own_at (P:=prog) _ rfl (.tmp 5) (.tmp 6) 24 rfl w.heap.size 38 i0 _ 3 32 underlying24 hi0 hz0 hz1 hz2 rfl zY (.slice (some ⟨w.heap.size,0,none⟩) 0 0) 0 [] rfl hown a vs.length c news rfl hnl hnc hn1 hm1 hm2 zS ?_;intro v' w' h2 h3 h4 h5)
  have hbl:zw w w':=((zs w).alloc zl _).grown h3 zS (fun g e=>by simp[Value.ownBlock]at e;omega);rcases h2.2 with⟨hnil,_⟩|⟨g,cap,cur,rfl,hbg,hg,hc,hm,hz,hx⟩
  ·exact absurd (h4.1 hnil).1 zS
  ·have HR:=zh (show RowV w' (From w.heap.size) (some ⟨g,0,none⟩) vs from fun i hi=>by
    have ha:(⟨g,0,none⟩:Addr).add (i*3)=⟨g,i*3,none⟩:=by unfold Addr.add;split<;>simp_all
    obtain⟨e0,e1,e2⟩:=jc.out i hi;refine⟨⟨g,0,none⟩,rfl,hbg,?_,HF.out i hi⟩;rw[ha];refine⟨?_,?_,?_⟩
    ·rw[h2.cellAt (i*3) zO];simpa using e0
    ·rw[h2.cellAt (i*3+1) zO];simpa using e1
    ·rw[h2.cellAt (i*3+2) zO];simpa using e2)
   have HB:=zh hbl;have HC:=zh (show vs.length<=cap by omega);clear h2 h3 h4 h5 hx hz hg hbl hnc hn1 hown;go_wp2_with fail;go_ret;exact⟨some ⟨g,0,none⟩,cap,zS,HR.out,HC.out,HB.out⟩
theorem zlC{W w1:World}(hb:zw W w1):(∀b o,b<W.heap.size->w1.cell? ⟨b,o,none⟩=W.cell? ⟨b,o,none⟩)/\(∀b o,b<W.heap.size->w1.frozen? ⟨b,o,none⟩=W.frozen? ⟨b,o,none⟩) :=
 ⟨fun b o h=>hb.cell (p:=⟨b,o,none⟩) h,fun b o h=>hb.frozen (p:=⟨b,o,none⟩) h⟩
theorem zkn(k n:Int)(s:ByteArray)(A:Option Addr)(l c:Nat)(w:World) :
  Calls prog 111 #[nv k n s A l c] w (zu (.bool (zko n s)) w):=by
 go_enter func111,ntmps111;go_wp2
 all_goals (go_ret;exact⟨by simp[zko, *],zr.alloc zl _⟩)
theorem zku(k n:Int)(s:ByteArray)(A:Option Addr)(l c:Nat)(w:World) :
  Calls prog 145 #[nv k n s A l c] w (zu (.bool (zkB n s)) w):=by
 go_enter func145,ntmps145;by_cases hn:(n==0)=true
 ·go_wp2_with (go_at_call 34;refine(zou _ _).mono ?_;rintro e w' ⟨rfl,hb⟩)
  go_ret;exact⟨by simp[zkB,hn],(zr.alloc zl _).trans (hb.mono zS)⟩
 ·have hn':(n==0)=false:=by simpa using hn
  clear hn;go_wp2_with fail;go_ret;exact⟨by simp[zkB,hn'],zr.alloc zl _⟩
theorem zkR(t:T)(v:Value)(w:World)(hv:NV w Any t v)(b m:Nat)(F:Nat->FuncId)(G:Nat->Func)(p:Nat->T->Bool)(hm:m<=8)(hbl:b<w.heap.size)
  (hcell:∀i,i<m->w.cell? ⟨b,i,none⟩=some (.func (.func (F i)) #[] #[]))(hfn:∀i,i<m->IsFn prog (F i) (G i))
  (hc:t.ks.length=m->∀i (hi:i<t.ks.length) v1 w1,NV w1 Any t.ks[i] v1->Calls prog (F i) #[v1] w1 (zu (.bool (p i t.ks[i])) w1)) :
  Calls prog 142 #[v,.slice (some ⟨b,0,none⟩) m m] w (zu (.bool (zkE m p t.ks)) w):=by
 obtain⟨A,c,rfl,hf,hlk,hlc,hrow⟩:=hv.open_;have av:=zkz hlk;have HC:=zh hc;have HCell:=zh hcell;have HFn:=zh hfn;clear hc hcell hfn hf hv hlk;generalize t.k=k,t.n=n,t.s=s,t.ks=ks at *
 by_cases hl:ks.length=m
 ·subst hl;have lW:=zh (HC.out rfl);clear HC;have hneq:((ks.length:Int) != (ks.length:Int))=false:=zS
  go_enter func142,ntmps142;go_wp2
  go_loopw [4,5,6,15] (fun r _ _ i wr=>∃j:Nat,j<=ks.length/\i=zi j/\r=.bool false/\Hid (∀q (hq:q<ks.length),q<j->p q ks[q]=true)/\Below (w.heap.size+1) (w.alloc (.cells #[zj k,zi n,.string s,.slice A ks.length c] 28)) wr) (fun _ _ _ i _=>ks.length-(intOf i).toNat)
  case atStart=>exact⟨0,Nat.zero_le _,rfl,rfl,fun q hq h=>zO,zr⟩
  case round =>
   obtain⟨j,hj,rfl,rfl,HP,hb⟩:=hrel;have hb0:zw w wr:=(zr.alloc zl _).trans (hb.mono zO);by_cases hlt:j<ks.length
   ·obtain⟨a,t',A',c',rfl,_,Ht,c0,c1,c2,c3,hn⟩:=(hrow.later hb0).get hlt;have hcall:=zkH (HFn.out j hlt);have hfc:wr.cell? ⟨b,j,none⟩=some (.func (.func (F j)) #[] #[]):=(hb0.cell (p:=⟨b,j,none⟩) hbl).trans (HCell.out j hlt);have hbox:wr.cell? ⟨w.heap.size,3,none⟩=some (.slice (some a) ks.length c):=(hb.cell (p:=⟨w.heap.size,3,none⟩) (Nat.lt_succ_self _)).trans zS;have hlt':j<8:=zO
    have h0:=lW.out j hlt;rw[Ht.out]at h0;have H0:=zh h0;clear h0 hrow;go_wp2_with fail;refine(H0.out _ _ hn).mono ?_;rintro e w1 ⟨rfl,hb1⟩
    cases hp:p j t'
    ·go_wp2_with fail;go_ret;exact⟨by rw[zoQ hlt (by rw[Ht.out];exact hp)];rfl,hb0.trans (hb1.mono hb0.size)⟩
    ·have lT:=zh hp;clear hp;go_wp2_with fail
     go_roundw
     case rel =>
      refine⟨j+1,zO,by go_num,rfl,?_,hb.trans (hb1.mono (by have:=hb.size;simpa using this))⟩;intro q hq hqj;by_cases e:q=j
      ·subst e;rw[Ht.out];exact lT.out
      ·exact HP.out q hq zO
     case measure=>simp[intOf];omega
   ·have hlt':ks.length<=j:=zO
    go_wp2_with fail;go_ret;exact⟨by rw[ztS rfl (fun q hq=>HP.out q hq zO)];rfl,hb0⟩
 ·have hneq:((ks.length:Int) != (m:Int))=true:=by simp;omega
  have hneq':(ks.length != m)=true:=by simpa using hl
  have HX:=zh (zvr (p:=p) hl);clear hl HC hrow;generalize ks.length=l at *
  go_enter func142,ntmps142;go_wp2;go_ret;exact⟨by rw[HX.out];rfl,zr.alloc zl _⟩
theorem zo4(ts:List T)(Ad:Option Addr)(c:Nat)(w:World)(hrow:zkS w Any Ad ts)(hlk:ts.length<=LK)(f:FuncId)(fn:Func)(hfn:IsFn prog f fn)(p:T->Bool)
  (hc:∀i (hi:i<ts.length) v1 w1,NV w1 Any ts[i] v1->Calls prog f #[v1] w1 (zu (.bool (p ts[i])) w1)) :
  Calls prog 112 #[.slice Ad ts.length c,.func (.func f) #[] #[]] w (zu (.bool (zkw (fun _=>p) 0 ts)) w):=by
 have av:=zkz hlk;have HC:=zh hc;have hcall:=zkH hfn;clear hc hfn hlk;go_enter func112,ntmps112;go_wp2
 go_loopw [4,9] (fun r i wr=>∃j:Nat,j<=ts.length/\i=zi j/\r=.bool false/\Hid (∀q (hq:q<ts.length),q<j->p ts[q]=true)/\zw w wr) (fun _ i _=>ts.length-(intOf i).toNat)
 case atStart=>exact⟨0,Nat.zero_le _,rfl,rfl,fun q hq h=>zO,zr⟩
 case round =>
  obtain⟨j,hj,rfl,rfl,HP,hb⟩:=hrel;by_cases hlt:j<ts.length
  ·obtain⟨a,t',A',c',rfl,_,Ht,c0,c1,c2,c3,hn⟩:=(hrow.later hb).get hlt;have h0:=HC.out j hlt;rw[Ht.out]at h0;have H0:=zh h0;clear h0 hrow;go_wp2_with fail;refine(H0.out _ _ (hn.later (zr.alloc zl _))).mono ?_;rintro e w1 ⟨rfl,hb1⟩;have hb2:=zAC hb hb1
   cases hp:p t'
   ·go_wp2_with fail;go_ret;have hx:zkw (fun _=>p) 0 ts=false:=by
     have:=zoQ (m:=ts.length) (p:=fun _=>p) hlt (by rw[Ht.out];exact hp);simpa[zkE]using this
    exact⟨by rw[hx];rfl,hb2⟩
   ·have lT:=zh hp;clear hp;go_wp2_with fail
    go_roundw
    case rel =>
     refine⟨j+1,zO,by go_num,rfl,?_,hb2⟩;intro q hq hqj;by_cases e:q=j
     ·subst e;rw[Ht.out];exact lT.out
     ·exact HP.out q hq zO
    case measure=>simp[intOf];omega
  ·have hlt':ts.length<=j:=zO
   go_wp2_with fail;go_ret;have hx:zkw (fun _=>p) 0 ts=true:=by
    rw[zkI];exact fun q hq=>HP.out q hq zO
   exact⟨by rw[hx];rfl,hb⟩
theorem zmB{w:World}{cs:Array Value}{ty:TypeId}{i:Nat}{u:Value}(h:cs[i]?=some u):(w.alloc (.cells cs ty)).cell? ⟨w.heap.size,i,none⟩=some u:=by
 have hh:(w.alloc (.cells cs ty)).heap[w.heap.size]?=some (.cells cs ty (0,0)):=heap_alloc_new w _;simp only[World.cell?,hh];simpa using h
theorem zk8:IsFn prog 144 f144:=⟨func144,zK,zK⟩
theorem zlb:IsFn prog 143 f143:=⟨func143,zK,zK⟩
theorem zvM:IsFn prog 146 f146:=⟨func146,zK,zK⟩
theorem zxY:IsFn prog 113 f113:=⟨func113,zK,zK⟩
theorem zmp:IsFn prog 84 f84:=⟨func84,zK,zK⟩
theorem zND : (∀ k n s ks, (T.nd k n s ks).k = k) ∧ (∀ k n s ks, (T.nd k n s ks).n = n) ∧ (∀ k n s ks, (T.nd k n s ks).s = s) ∧ ∀ k n s ks, (T.nd k n s ks).ks = ks := ⟨fun _ _ _ _ => rfl, fun _ _ _ _ => rfl, fun _ _ _ _ => rfl, fun _ _ _ _ => rfl⟩
theorem zyN(n:Int)(s:ByteArray)(ks:List T)(v:Value)(w:World)(hv:NV w Any (.nd 1 n s ks) v) :
  Calls prog 144 #[v] w (zu (.bool (isE (.nd 1 n s ks))) w):=by
 obtain⟨Ad,c,rfl,hf,hlk,hlc,hrow⟩:=hv.open_;simp only[zND]at *
 have av:=zkz hlk;clear hf hv hlk hrow hlc;have HX:=zh (show isE (.nd 1 n s ks)=(decide (0<=n)&&s.toList.isEmpty&&decide (ks.length=0)) by simp[isE]);have hz:((ks.length:Int)==0)=decide (ks.length=0):=by rw[Bool.eq_iff_iff];simp
 generalize ks.length=l at *
 have HZ:=zh hz;clear hz;by_cases hn:0<=n
 all_goals
  by_cases hs:s.toList.isEmpty=true
  all_goals
   go_enter func144,ntmps144;go_wp2
   all_goals (go_ret;exact⟨by rw[HX.out,<-HZ.out];simp[*]<;>omega,zr.alloc zl _⟩)
theorem zyM(n:Int)(s:ByteArray)(ks:List T)(v:Value)(w:World)(hv:NV w Any (.nd 2 n s ks) v) :
  Calls prog 144 #[v] w (zu (.bool (isE (.nd 2 n s ks))) w):=by
 obtain⟨Ad,c,rfl,hf,hlk,hlc,hrow⟩:=hv.open_;simp only[zND]at *
 have av:=zkz hlk;clear hf hv hlk hrow hlc;have HX:=zh (show isE (.nd 2 n s ks)=(zkB n s&&decide (ks.length=0)) by simp[isE]);have hz:((ks.length:Int)==0)=decide (ks.length=0):=by rw[Bool.eq_iff_iff];simp
 generalize ks.length=l at *
 have HZ:=zh hz;clear hz;by_cases hnb:zkB n s=true
 ·go_enter func144,ntmps144;go_wp2_with fail;refine(zku _ _ _ _ _ _ _).mono ?_;rintro e w1 ⟨rfl,hb1⟩;obtain⟨hc1,hf1⟩:=zlC hb1;have hbb:=zAB hb1;go_wp2_with fail;go_ret;exact⟨by rw[HX.out,<-HZ.out];simp[*],hbb⟩
 ·have hnb':zkB n s=false:=by simpa using hnb
  clear hnb;go_enter func144,ntmps144;go_wp2_with fail;refine(zku _ _ _ _ _ _ _).mono ?_;rintro e w1 ⟨rfl,hb1⟩;have hbb:=zAB hb1;go_wp2_with fail;go_ret;exact⟨by rw[HX.out];simp[*],hbb⟩
theorem zyK(n:Int)(s:ByteArray)(ks:List T)(v:Value)(w:World)(hv:NV w Any (.nd 4 n s ks) v) :
  Calls prog 144 #[v] w (zu (.bool (isE (.nd 4 n s ks))) w):=by
 obtain⟨Ad,c,rfl,hf,hlk,hlc,hrow⟩:=hv.open_;simp only[zND]at *
 have av:=zkz hlk;clear hf hv hlk hrow hlc;have HX:=zh (show isE (.nd 4 n s ks)=(zkB n s&&decide (ks.length=0)) by simp[isE]);have hz:((ks.length:Int)==0)=decide (ks.length=0):=by rw[Bool.eq_iff_iff];simp
 generalize ks.length=l at *
 have HZ:=zh hz;clear hz;by_cases hnb:zkB n s=true
 ·go_enter func144,ntmps144;go_wp2_with fail;refine(zku _ _ _ _ _ _ _).mono ?_;rintro e w1 ⟨rfl,hb1⟩;obtain⟨hc1,hf1⟩:=zlC hb1;have hbb:=zAB hb1;go_wp2_with fail;go_ret;exact⟨by rw[HX.out,<-HZ.out];simp[*],hbb⟩
 ·have hnb':zkB n s=false:=by simpa using hnb
  clear hnb;go_enter func144,ntmps144;go_wp2_with fail;refine(zku _ _ _ _ _ _ _).mono ?_;rintro e w1 ⟨rfl,hb1⟩;have hbb:=zAB hb1;go_wp2_with fail;go_ret;exact⟨by rw[HX.out];simp[*],hbb⟩
theorem zyJ(n:Int)(s:ByteArray)(ks:List T)(v:Value)(w:World)(hv:NV w Any (.nd 5 n s ks) v) :
  Calls prog 144 #[v] w (zu (.bool (isE (.nd 5 n s ks))) w):=by
 obtain⟨Ad,c,rfl,hf,hlk,hlc,hrow⟩:=hv.open_;simp only[zND]at *
 have av:=zkz hlk;clear hf hv hlk hrow hlc;have HX:=zh (show isE (.nd 5 n s ks)=(zkB n s&&decide (ks.length=0)) by simp[isE]);have hz:((ks.length:Int)==0)=decide (ks.length=0):=by rw[Bool.eq_iff_iff];simp
 generalize ks.length=l at *
 have HZ:=zh hz;clear hz;by_cases hnb:zkB n s=true
 ·go_enter func144,ntmps144;go_wp2_with fail;refine(zku _ _ _ _ _ _ _).mono ?_;rintro e w1 ⟨rfl,hb1⟩;obtain⟨hc1,hf1⟩:=zlC hb1;have hbb:=zAB hb1;go_wp2_with fail;go_ret;exact⟨by rw[HX.out,<-HZ.out];simp[*],hbb⟩
 ·have hnb':zkB n s=false:=by simpa using hnb
  clear hnb;go_enter func144,ntmps144;go_wp2_with fail;refine(zku _ _ _ _ _ _ _).mono ?_;rintro e w1 ⟨rfl,hb1⟩;have hbb:=zAB hb1;go_wp2_with fail;go_ret;exact⟨by rw[HX.out];simp[*],hbb⟩
theorem zyL(n:Int)(s:ByteArray)(ks:List T)(v:Value)(w:World)(hv:NV w Any (.nd 3 n s ks) v)
  (ih:∀i (hi:i<ks.length) v1 w1,NV w1 Any ks[i] v1->Calls prog 144 #[v1] w1 (zu (.bool (isE ks[i])) w1)) :
  Calls prog 144 #[v] w (zu (.bool (isE (.nd 3 n s ks))) w):=by
 have HX:=zh (show isE (.nd 3 n s ks)=(zkB n s&&zkE 1 (fun _=>isE) ks) by simp[isE,zkE,znZ 0]);have IH:=zh ih;have HV:=zh hv;obtain⟨Ad,c,rfl,hf,hlk,hlc,hrow⟩:=hv.open_;simp only[zND]at *
 have av:=zkz hlk;clear hf hv hlk hrow hlc ih;by_cases hnb:zkB n s=true
 ·go_enter func144,ntmps144;go_wp2_with fail;refine(zku _ _ _ _ _ _ _).mono ?_;rintro e w1 ⟨rfl,hb1⟩;obtain⟨hc1,hf1⟩:=zlC hb1;have hbb:=zAB hb1;go_wp2_with fail;refine(zkR (.nd 3 n s ks) _ _ (HV.out.later (hbb.alloc hbb.size _)) _ 1 (fun _=>144) (fun _=>f144) (fun _=>isE) zY zS (fun i hi=>zmB (by rcases i with _|_|i<;>first|omega|rfl)) (fun _ _=>zk8) (fun _=>IH.out)).mono ?_;rintro e w2 ⟨rfl,hb2⟩;have hbc:=zAC hbb hb2;go_wp2_with fail;go_ret;exact⟨by rw[HX.out];simp[*],hbc⟩
 ·have hnb':zkB n s=false:=by simpa using hnb
  clear hnb;go_enter func144,ntmps144;go_wp2_with fail;refine(zku _ _ _ _ _ _ _).mono ?_;rintro e w1 ⟨rfl,hb1⟩;have hbb:=zAB hb1;go_wp2_with fail;go_ret;exact⟨by rw[HX.out];simp[*],hbb⟩
theorem zyI(n:Int)(s:ByteArray)(ks:List T)(v:Value)(w:World)(hv:NV w Any (.nd 6 n s ks) v)
  (ih:∀i (hi:i<ks.length) v1 w1,NV w1 Any ks[i] v1->Calls prog 144 #[v1] w1 (zu (.bool (isE ks[i])) w1)) :
  Calls prog 144 #[v] w (zu (.bool (isE (.nd 6 n s ks))) w):=by
 have HX:=zh (show isE (.nd 6 n s ks)=(zko n s&&zkE 1 (fun _=>isE) ks) by simp[isE,zkE,znZ 0]);have IH:=zh ih;have HV:=zh hv;obtain⟨Ad,c,rfl,hf,hlk,hlc,hrow⟩:=hv.open_;simp only[zND]at *
 have av:=zkz hlk;clear hf hv hlk hrow hlc ih;by_cases hnb:zko n s=true
 ·go_enter func144,ntmps144;go_wp2_with fail;refine(zkn _ _ _ _ _ _ _).mono ?_;rintro e w1 ⟨rfl,hb1⟩;obtain⟨hc1,hf1⟩:=zlC hb1;have hbb:=zAB hb1;go_wp2_with fail;refine(zkR (.nd 6 n s ks) _ _ (HV.out.later (hbb.alloc hbb.size _)) _ 1 (fun _=>144) (fun _=>f144) (fun _=>isE) zY zS (fun i hi=>zmB (by rcases i with _|_|i<;>first|omega|rfl)) (fun _ _=>zk8) (fun _=>IH.out)).mono ?_;rintro e w2 ⟨rfl,hb2⟩;have hbc:=zAC hbb hb2;go_wp2_with fail;go_ret;exact⟨by rw[HX.out];simp[*],hbc⟩
 ·have hnb':zko n s=false:=by simpa using hnb
  clear hnb;go_enter func144,ntmps144;go_wp2_with fail;refine(zkn _ _ _ _ _ _ _).mono ?_;rintro e w1 ⟨rfl,hb1⟩;have hbb:=zAB hb1;go_wp2_with fail;go_ret;exact⟨by rw[HX.out];simp[*],hbb⟩
theorem zyH(n:Int)(s:ByteArray)(ks:List T)(v:Value)(w:World)(hv:NV w Any (.nd 7 n s ks) v)
  (ih:∀i (hi:i<ks.length) v1 w1,NV w1 Any ks[i] v1->Calls prog 144 #[v1] w1 (zu (.bool (isE ks[i])) w1)) :
  Calls prog 144 #[v] w (zu (.bool (isE (.nd 7 n s ks))) w):=by
 have HX:=zh (show isE (.nd 7 n s ks)=(zko n s&&zkE 1 (fun _=>isE) ks) by simp[isE,zkE,znZ 0]);have IH:=zh ih;have HV:=zh hv;obtain⟨Ad,c,rfl,hf,hlk,hlc,hrow⟩:=hv.open_;simp only[zND]at *
 have av:=zkz hlk;clear hf hv hlk hrow hlc ih;by_cases hnb:zko n s=true
 ·go_enter func144,ntmps144;go_wp2_with fail;refine(zkn _ _ _ _ _ _ _).mono ?_;rintro e w1 ⟨rfl,hb1⟩;obtain⟨hc1,hf1⟩:=zlC hb1;have hbb:=zAB hb1;go_wp2_with fail;refine(zkR (.nd 7 n s ks) _ _ (HV.out.later (hbb.alloc hbb.size _)) _ 1 (fun _=>144) (fun _=>f144) (fun _=>isE) zY zS (fun i hi=>zmB (by rcases i with _|_|i<;>first|omega|rfl)) (fun _ _=>zk8) (fun _=>IH.out)).mono ?_;rintro e w2 ⟨rfl,hb2⟩;have hbc:=zAC hbb hb2;go_wp2_with fail;go_ret;exact⟨by rw[HX.out];simp[*],hbc⟩
 ·have hnb':zko n s=false:=by simpa using hnb
  clear hnb;go_enter func144,ntmps144;go_wp2_with fail;refine(zkn _ _ _ _ _ _ _).mono ?_;rintro e w1 ⟨rfl,hb1⟩;have hbb:=zAB hb1;go_wp2_with fail;go_ret;exact⟨by rw[HX.out];simp[*],hbb⟩
theorem zui(k n:Int)(s:ByteArray)(ks:List T)(v:Value)(w:World)(h8:8<=k)(h23:k<=23)(hv:NV w Any (.nd k n s ks) v)
  (ih:∀i (hi:i<ks.length) v1 w1,NV w1 Any ks[i] v1->Calls prog 144 #[v1] w1 (zu (.bool (isE ks[i])) w1)) :
  Calls prog 144 #[v] w (zu (.bool (isE (.nd k n s ks))) w):=by
 have HX:=zh (show isE (.nd k n s ks)=(zko n s&&zkE 2 (fun _=>isE) ks) by rw[isE,if_neg zO,if_neg zO,if_neg zO,if_neg zO,if_pos ⟨h8,h23⟩,zkE,znZ 0]);have IH:=zh ih;have HV:=zh hv;obtain⟨Ad,c,rfl,hf,hlk,hlc,hrow⟩:=hv.open_;simp only[zND]at *
 have av:=zkz hlk;clear hf hv hlk hrow hlc ih;by_cases hnb:zko n s=true
 ·go_enter func144,ntmps144;go_wp2_with fail;refine(zkn _ _ _ _ _ _ _).mono ?_;rintro e w1 ⟨rfl,hb1⟩;obtain⟨hc1,hf1⟩:=zlC hb1;have hbb:=zAB hb1;go_wp2_with fail;refine(zkR (.nd k n s ks) _ _ (HV.out.later (hbb.alloc hbb.size _)) _ 2 (fun _=>144) (fun _=>f144) (fun _=>isE) zY zS (fun i hi=>zmB (by rcases i with _|_|i<;>first|omega|rfl)) (fun _ _=>zk8) (fun _=>IH.out)).mono ?_;rintro e w2 ⟨rfl,hb2⟩;have hbc:=zAC hbb hb2;go_wp2_with fail;go_ret;exact⟨by rw[HX.out];simp[*],hbc⟩
 ·have hnb':zko n s=false:=by simpa using hnb
  clear hnb;go_enter func144,ntmps144;go_wp2_with fail;refine(zkn _ _ _ _ _ _ _).mono ?_;rintro e w1 ⟨rfl,hb1⟩;have hbb:=zAB hb1;go_wp2_with fail;go_ret;exact⟨by rw[HX.out];simp[*],hbb⟩
theorem zuh(k n:Int)(s:ByteArray)(ks:List T)(v:Value)(w:World)(n1:(k==1)=false)(n2:(k==2)=false)(n3:(k==3)=false)(n4:(k==4)=false)(n5:(k==5)=false)(n6:(k==6)=false)(n7:(k==7)=false)(h8:k<8\/23<k)(hv:NV w Any (.nd k n s ks) v) :
  Calls prog 144 #[v] w (zu (.bool (isE (.nd k n s ks))) w):=by
 obtain⟨Ad,c,rfl,hf,hlk,hlc,hrow⟩:=hv.open_;simp only[zND]at *
 have av:=zkz hlk;have HX:=zh (show isE (.nd k n s ks)=false by
  simp only[beq_eq_false_iff_ne,ne_eq]at n1 n2 n3 n4 n5 n6 n7;rw[isE,if_neg zO,if_neg zO,if_neg zO,if_neg zO,if_neg zO])
 clear hf hv hlk hrow hlc;rcases h8 with h8|h8
 all_goals
  go_enter func144,ntmps144;go_wp2;go_ret;exact⟨by rw[HX.out];rfl,zr.alloc zl _⟩
theorem zkG(t:T):∀(v:Value) (w:World),NV w Any t v ->
  Calls prog 144 #[v] w (zu (.bool (isE t)) w):=by
 induction t using T.ind with
 | _ k n s ks ih =>
 intro v w hv;have ih':∀i (hi:i<ks.length) v1 w1,NV w1 Any ks[i] v1->Calls prog 144 #[v1] w1 (zu (.bool (isE ks[i])) w1):=fun i hi=>ih _ (List.getElem_mem hi);by_cases h1:k=1
 ·subst h1;exact zyN n s ks v w hv
 by_cases h2:k=2
 ·subst h2;exact zyM n s ks v w hv
 by_cases h4:k=4
 ·subst h4;exact zyK n s ks v w hv
 by_cases h5:k=5
 ·subst h5;exact zyJ n s ks v w hv
 by_cases h3:k=3
 ·subst h3;exact zyL n s ks v w hv ih'
 by_cases h6:k=6
 ·subst h6;exact zyI n s ks v w hv ih'
 by_cases h7:k=7
 ·subst h7;exact zyH n s ks v w hv ih'
 by_cases h8:8<=k/\k<=23
 ·exact zui k n s ks v w h8.1 h8.2 hv ih'
 ·exact zuh k n s ks v w (by simpa using h1) (by simpa using h2) (by simpa using h3) (by simpa using h4) (by simpa using h5) (by simpa using h6) (by simpa using h7) zO hv
theorem zkO(t:T)(v:Value)(w:World)(hv:NV w Any t v) :
  Calls prog 143 #[v] w (zu (.bool (isP t)) w):=by
 have HV:=zh hv;obtain⟨Ad,c,rfl,hf,hlk,hlc,hrow⟩:=hv.open_;clear hf hlk hrow hv;have HX:=zh (show isP t=((t.k==2||t.k==3)&&isE t)from rfl);generalize t.k=k,t.n=n,t.s=s,t.ks.length=l at *
 by_cases h2:(k==2)=true
 ·go_enter func143,ntmps143;go_wp2_with (go_at_call 144;refine(zkG t _ _ (HV.out.later (zr.alloc zl _))).mono ?_;rintro e w1 ⟨rfl,hb1⟩)
  go_ret;exact⟨by rw[HX.out];simp[h2],(zr.alloc zl _).trans (hb1.mono zS)⟩
 ·have h2':(k==2)=false:=by simpa using h2
  clear h2;by_cases h3:(k==3)=true
  ·go_enter func143,ntmps143;go_wp2_with (go_at_call 144;refine(zkG t _ _ (HV.out.later (zr.alloc zl _))).mono ?_;rintro e w1 ⟨rfl,hb1⟩)
   go_ret;exact⟨by rw[HX.out];simp[h3],(zr.alloc zl _).trans (hb1.mono zS)⟩
  ·have h3':(k==3)=false:=by simpa using h3
   clear h3;go_enter func143,ntmps143;go_wp2_with fail;go_ret;exact⟨by rw[HX.out];simp[h2',h3'],(zr.alloc zl _)⟩
theorem zq6(t:T)(v:Value)(w:World)(hv:NV w Any t v) :
  Calls prog 146 #[v] w (zu (.bool (isV t)) w):=by
 have HV:=zh hv;obtain⟨Ad,c,rfl,hf,hlk,hlc,hrow⟩:=hv.open_;clear hf hlk hrow hv;have HX:=zh (show isV t=(t.k==2&&isE t)from rfl);generalize t.k=k,t.n=n,t.s=s,t.ks.length=l at *
 by_cases h2:(k==2)=true
 ·go_enter func146,ntmps146;go_wp2_with (go_at_call 144;refine(zkG t _ _ (HV.out.later (zr.alloc zl _))).mono ?_;rintro e w1 ⟨rfl,hb1⟩)
  go_ret;exact⟨by rw[HX.out];simp[h2],(zr.alloc zl _).trans (hb1.mono zS)⟩
 ·have h2':(k==2)=false:=by simpa using h2
  clear h2;go_enter func146,ntmps146;go_wp2_with fail;go_ret;exact⟨by rw[HX.out];simp[h2'],(zr.alloc zl _)⟩
def zl7(t:T):Prop:=∀(v:Value) (w:World),NV w Any t v->Calls prog 113 #[v] w (zu (.bool (isS t)) w)
def zlx(t:T):Prop:=∀(v:Value) (w:World),NV w Any t v->Calls prog 84 #[v] w (zu (.bool (isB t)) w)
theorem zwQ(n:Int)(s:ByteArray)(ks:List T)(aL:∀t∈ks,zlx t):zl7 (.nd 40 n s ks):=by
 intro v w hv;have HX:=zh (show isS (.nd 40 n s ks)=(zko n s&&zkE 2 (fun i=>if i=0 then isP else isE) ks) by simp[isS]);have IH:=zh aL;have HV:=zh hv;obtain⟨Ad,c,rfl,hf,hlk,hlc,hrow⟩:=hv.open_;simp only[zND]at *
 have av:=zkz hlk;clear hf hv hlk hrow hlc aL;by_cases hnb:zko n s=true
 ·go_enter func113,ntmps113;go_wp2_with fail;refine(zkn _ _ _ _ _ _ _).mono ?_;rintro e w1 ⟨rfl,hb1⟩;obtain⟨hc1,hf1⟩:=zlC hb1;have hbb:=zAB hb1;go_wp2_with fail;refine(zkR (.nd 40 n s ks) _ _ (HV.out.later (hbb.alloc hbb.size _)) _ 2 (fun i=>if i=0 then 143 else 144) (fun i=>if i=0 then f143 else f144) (fun i=>if i=0 then isP else isE) zY zS (fun i hi=>zmB (by rcases i with _|_|_|_|i<;>first|omega|rfl)) (fun i hi=>by rcases i with _|i;exact zlb;exact zk8) (fun hl i hi=>by rcases i with _|i;exact zkO _;exact zkG _)).mono ?_;rintro e w2 ⟨rfl,hb2⟩;have hbc:=zAC hbb hb2;go_wp2_with fail;go_ret;exact⟨by rw[HX.out];simp[*],hbc⟩
 ·have hnb':zko n s=false:=by simpa using hnb
  clear hnb;go_enter func113,ntmps113;go_wp2_with fail;refine(zkn _ _ _ _ _ _ _).mono ?_;rintro e w1 ⟨rfl,hb1⟩;have hbb:=zAB hb1;go_wp2_with fail;go_ret;exact⟨by rw[HX.out];simp[*],hbb⟩
theorem zwP(n:Int)(s:ByteArray)(ks:List T)(aL:∀t∈ks,zlx t):zl7 (.nd 41 n s ks):=by
 intro v w hv;have HX:=zh (show isS (.nd 41 n s ks)=(zko n s&&zkE 2 (fun i=>if i=0 then isP else isE) ks) by simp[isS]);have IH:=zh aL;have HV:=zh hv;obtain⟨Ad,c,rfl,hf,hlk,hlc,hrow⟩:=hv.open_;simp only[zND]at *
 have av:=zkz hlk;clear hf hv hlk hrow hlc aL;by_cases hnb:zko n s=true
 ·go_enter func113,ntmps113;go_wp2_with fail;refine(zkn _ _ _ _ _ _ _).mono ?_;rintro e w1 ⟨rfl,hb1⟩;obtain⟨hc1,hf1⟩:=zlC hb1;have hbb:=zAB hb1;go_wp2_with fail;refine(zkR (.nd 41 n s ks) _ _ (HV.out.later (hbb.alloc hbb.size _)) _ 2 (fun i=>if i=0 then 143 else 144) (fun i=>if i=0 then f143 else f144) (fun i=>if i=0 then isP else isE) zY zS (fun i hi=>zmB (by rcases i with _|_|_|_|i<;>first|omega|rfl)) (fun i hi=>by rcases i with _|i;exact zlb;exact zk8) (fun hl i hi=>by rcases i with _|i;exact zkO _;exact zkG _)).mono ?_;rintro e w2 ⟨rfl,hb2⟩;have hbc:=zAC hbb hb2;go_wp2_with fail;go_ret;exact⟨by rw[HX.out];simp[*],hbc⟩
 ·have hnb':zko n s=false:=by simpa using hnb
  clear hnb;go_enter func113,ntmps113;go_wp2_with fail;refine(zkn _ _ _ _ _ _ _).mono ?_;rintro e w1 ⟨rfl,hb1⟩;have hbb:=zAB hb1;go_wp2_with fail;go_ret;exact⟨by rw[HX.out];simp[*],hbb⟩
theorem zwO(n:Int)(s:ByteArray)(ks:List T)(aL:∀t∈ks,zlx t):zl7 (.nd 42 n s ks):=by
 intro v w hv;have HX:=zh (show isS (.nd 42 n s ks)=(zko n s&&zkE 2 (fun i=>if i=0 then isP else isE) ks) by simp[isS]);have IH:=zh aL;have HV:=zh hv;obtain⟨Ad,c,rfl,hf,hlk,hlc,hrow⟩:=hv.open_;simp only[zND]at *
 have av:=zkz hlk;clear hf hv hlk hrow hlc aL;by_cases hnb:zko n s=true
 ·go_enter func113,ntmps113;go_wp2_with fail;refine(zkn _ _ _ _ _ _ _).mono ?_;rintro e w1 ⟨rfl,hb1⟩;obtain⟨hc1,hf1⟩:=zlC hb1;have hbb:=zAB hb1;go_wp2_with fail;refine(zkR (.nd 42 n s ks) _ _ (HV.out.later (hbb.alloc hbb.size _)) _ 2 (fun i=>if i=0 then 143 else 144) (fun i=>if i=0 then f143 else f144) (fun i=>if i=0 then isP else isE) zY zS (fun i hi=>zmB (by rcases i with _|_|_|_|i<;>first|omega|rfl)) (fun i hi=>by rcases i with _|i;exact zlb;exact zk8) (fun hl i hi=>by rcases i with _|i;exact zkO _;exact zkG _)).mono ?_;rintro e w2 ⟨rfl,hb2⟩;have hbc:=zAC hbb hb2;go_wp2_with fail;go_ret;exact⟨by rw[HX.out];simp[*],hbc⟩
 ·have hnb':zko n s=false:=by simpa using hnb
  clear hnb;go_enter func113,ntmps113;go_wp2_with fail;refine(zkn _ _ _ _ _ _ _).mono ?_;rintro e w1 ⟨rfl,hb1⟩;have hbb:=zAB hb1;go_wp2_with fail;go_ret;exact⟨by rw[HX.out];simp[*],hbb⟩
theorem zwA(n:Int)(s:ByteArray)(ks:List T)(aL:∀t∈ks,zlx t):zl7 (.nd 56 n s ks):=by
 intro v w hv;have HX:=zh (show isS (.nd 56 n s ks)=(zko n s&&zkE 2 (fun i=>if i=0 then isP else isE) ks) by simp[isS]);have IH:=zh aL;have HV:=zh hv;obtain⟨Ad,c,rfl,hf,hlk,hlc,hrow⟩:=hv.open_;simp only[zND]at *
 have av:=zkz hlk;clear hf hv hlk hrow hlc aL;by_cases hnb:zko n s=true
 ·go_enter func113,ntmps113;go_wp2_with fail;refine(zkn _ _ _ _ _ _ _).mono ?_;rintro e w1 ⟨rfl,hb1⟩;obtain⟨hc1,hf1⟩:=zlC hb1;have hbb:=zAB hb1;go_wp2_with fail;refine(zkR (.nd 56 n s ks) _ _ (HV.out.later (hbb.alloc hbb.size _)) _ 2 (fun i=>if i=0 then 143 else 144) (fun i=>if i=0 then f143 else f144) (fun i=>if i=0 then isP else isE) zY zS (fun i hi=>zmB (by rcases i with _|_|_|_|i<;>first|omega|rfl)) (fun i hi=>by rcases i with _|i;exact zlb;exact zk8) (fun hl i hi=>by rcases i with _|i;exact zkO _;exact zkG _)).mono ?_;rintro e w2 ⟨rfl,hb2⟩;have hbc:=zAC hbb hb2;go_wp2_with fail;go_ret;exact⟨by rw[HX.out];simp[*],hbc⟩
 ·have hnb':zko n s=false:=by simpa using hnb
  clear hnb;go_enter func113,ntmps113;go_wp2_with fail;refine(zkn _ _ _ _ _ _ _).mono ?_;rintro e w1 ⟨rfl,hb1⟩;have hbb:=zAB hb1;go_wp2_with fail;go_ret;exact⟨by rw[HX.out];simp[*],hbb⟩
theorem zwN(n:Int)(s:ByteArray)(ks:List T)(aL:∀t∈ks,zlx t):zl7 (.nd 43 n s ks):=by
 intro v w hv;have HX:=zh (show isS (.nd 43 n s ks)=(zko n s&&zkE 2 (fun _=>isP) ks) by simp[isS]);have IH:=zh aL;have HV:=zh hv;obtain⟨Ad,c,rfl,hf,hlk,hlc,hrow⟩:=hv.open_;simp only[zND]at *
 have av:=zkz hlk;clear hf hv hlk hrow hlc aL;by_cases hnb:zko n s=true
 ·go_enter func113,ntmps113;go_wp2_with fail;refine(zkn _ _ _ _ _ _ _).mono ?_;rintro e w1 ⟨rfl,hb1⟩;obtain⟨hc1,hf1⟩:=zlC hb1;have hbb:=zAB hb1;go_wp2_with fail;refine(zkR (.nd 43 n s ks) _ _ (HV.out.later (hbb.alloc hbb.size _)) _ 2 (fun _=>143) (fun _=>f143) (fun _=>isP) zY zS (fun i hi=>zmB (by rcases i with _|_|_|_|i<;>first|omega|rfl)) (fun _ _=>zlb) (fun hl i hi=>zkO _)).mono ?_;rintro e w2 ⟨rfl,hb2⟩;have hbc:=zAC hbb hb2;go_wp2_with fail;go_ret;exact⟨by rw[HX.out];simp[*],hbc⟩
 ·have hnb':zko n s=false:=by simpa using hnb
  clear hnb;go_enter func113,ntmps113;go_wp2_with fail;refine(zkn _ _ _ _ _ _ _).mono ?_;rintro e w1 ⟨rfl,hb1⟩;have hbb:=zAB hb1;go_wp2_with fail;go_ret;exact⟨by rw[HX.out];simp[*],hbb⟩
theorem zwM(n:Int)(s:ByteArray)(ks:List T)(aL:∀t∈ks,zlx t):zl7 (.nd 44 n s ks):=by
 intro v w hv;have HX:=zh (show isS (.nd 44 n s ks)=(zkB n s&&zkE 1 (fun _=>isP) ks) by simp[isS]);have IH:=zh aL;have HV:=zh hv;obtain⟨Ad,c,rfl,hf,hlk,hlc,hrow⟩:=hv.open_;simp only[zND]at *
 have av:=zkz hlk;clear hf hv hlk hrow hlc aL;by_cases hnb:zkB n s=true
 ·go_enter func113,ntmps113;go_wp2_with fail;refine(zku _ _ _ _ _ _ _).mono ?_;rintro e w1 ⟨rfl,hb1⟩;obtain⟨hc1,hf1⟩:=zlC hb1;have hbb:=zAB hb1;go_wp2_with fail;refine(zkR (.nd 44 n s ks) _ _ (HV.out.later (hbb.alloc hbb.size _)) _ 1 (fun _=>143) (fun _=>f143) (fun _=>isP) zY zS (fun i hi=>zmB (by rcases i with _|_|_|_|i<;>first|omega|rfl)) (fun _ _=>zlb) (fun hl i hi=>zkO _)).mono ?_;rintro e w2 ⟨rfl,hb2⟩;have hbc:=zAC hbb hb2;go_wp2_with fail;go_ret;exact⟨by rw[HX.out];simp[*],hbc⟩
 ·have hnb':zkB n s=false:=by simpa using hnb
  clear hnb;go_enter func113,ntmps113;go_wp2_with fail;refine(zku _ _ _ _ _ _ _).mono ?_;rintro e w1 ⟨rfl,hb1⟩;have hbb:=zAB hb1;go_wp2_with fail;go_ret;exact⟨by rw[HX.out];simp[*],hbb⟩
theorem zwL(n:Int)(s:ByteArray)(ks:List T)(aL:∀t∈ks,zlx t):zl7 (.nd 45 n s ks):=by
 intro v w hv;have HX:=zh (show isS (.nd 45 n s ks)=(zkB n s&&zkE 1 (fun _=>isP) ks) by simp[isS]);have IH:=zh aL;have HV:=zh hv;obtain⟨Ad,c,rfl,hf,hlk,hlc,hrow⟩:=hv.open_;simp only[zND]at *
 have av:=zkz hlk;clear hf hv hlk hrow hlc aL;by_cases hnb:zkB n s=true
 ·go_enter func113,ntmps113;go_wp2_with fail;refine(zku _ _ _ _ _ _ _).mono ?_;rintro e w1 ⟨rfl,hb1⟩;obtain⟨hc1,hf1⟩:=zlC hb1;have hbb:=zAB hb1;go_wp2_with fail;refine(zkR (.nd 45 n s ks) _ _ (HV.out.later (hbb.alloc hbb.size _)) _ 1 (fun _=>143) (fun _=>f143) (fun _=>isP) zY zS (fun i hi=>zmB (by rcases i with _|_|_|_|i<;>first|omega|rfl)) (fun _ _=>zlb) (fun hl i hi=>zkO _)).mono ?_;rintro e w2 ⟨rfl,hb2⟩;have hbc:=zAC hbb hb2;go_wp2_with fail;go_ret;exact⟨by rw[HX.out];simp[*],hbc⟩
 ·have hnb':zkB n s=false:=by simpa using hnb
  clear hnb;go_enter func113,ntmps113;go_wp2_with fail;refine(zku _ _ _ _ _ _ _).mono ?_;rintro e w1 ⟨rfl,hb1⟩;have hbb:=zAB hb1;go_wp2_with fail;go_ret;exact⟨by rw[HX.out];simp[*],hbb⟩
theorem zwK(n:Int)(s:ByteArray)(ks:List T)(aL:∀t∈ks,zlx t):zl7 (.nd 46 n s ks):=by
 intro v w hv;have HX:=zh (show isS (.nd 46 n s ks)=(zko n s&&zkE 1 (fun _=>isP) ks) by simp[isS]);have IH:=zh aL;have HV:=zh hv;obtain⟨Ad,c,rfl,hf,hlk,hlc,hrow⟩:=hv.open_;simp only[zND]at *
 have av:=zkz hlk;clear hf hv hlk hrow hlc aL;by_cases hnb:zko n s=true
 ·go_enter func113,ntmps113;go_wp2_with fail;refine(zkn _ _ _ _ _ _ _).mono ?_;rintro e w1 ⟨rfl,hb1⟩;obtain⟨hc1,hf1⟩:=zlC hb1;have hbb:=zAB hb1;go_wp2_with fail;refine(zkR (.nd 46 n s ks) _ _ (HV.out.later (hbb.alloc hbb.size _)) _ 1 (fun _=>143) (fun _=>f143) (fun _=>isP) zY zS (fun i hi=>zmB (by rcases i with _|_|_|_|i<;>first|omega|rfl)) (fun _ _=>zlb) (fun hl i hi=>zkO _)).mono ?_;rintro e w2 ⟨rfl,hb2⟩;have hbc:=zAC hbb hb2;go_wp2_with fail;go_ret;exact⟨by rw[HX.out];simp[*],hbc⟩
 ·have hnb':zko n s=false:=by simpa using hnb
  clear hnb;go_enter func113,ntmps113;go_wp2_with fail;refine(zkn _ _ _ _ _ _ _).mono ?_;rintro e w1 ⟨rfl,hb1⟩;have hbb:=zAB hb1;go_wp2_with fail;go_ret;exact⟨by rw[HX.out];simp[*],hbb⟩
theorem zwJ(n:Int)(s:ByteArray)(ks:List T)(aL:∀t∈ks,zlx t):zl7 (.nd 47 n s ks):=by
 intro v w hv;have HX:=zh (show isS (.nd 47 n s ks)=(zko n s&&zkE 1 (fun _=>isP) ks) by simp[isS]);have IH:=zh aL;have HV:=zh hv;obtain⟨Ad,c,rfl,hf,hlk,hlc,hrow⟩:=hv.open_;simp only[zND]at *
 have av:=zkz hlk;clear hf hv hlk hrow hlc aL;by_cases hnb:zko n s=true
 ·go_enter func113,ntmps113;go_wp2_with fail;refine(zkn _ _ _ _ _ _ _).mono ?_;rintro e w1 ⟨rfl,hb1⟩;obtain⟨hc1,hf1⟩:=zlC hb1;have hbb:=zAB hb1;go_wp2_with fail;refine(zkR (.nd 47 n s ks) _ _ (HV.out.later (hbb.alloc hbb.size _)) _ 1 (fun _=>143) (fun _=>f143) (fun _=>isP) zY zS (fun i hi=>zmB (by rcases i with _|_|_|_|i<;>first|omega|rfl)) (fun _ _=>zlb) (fun hl i hi=>zkO _)).mono ?_;rintro e w2 ⟨rfl,hb2⟩;have hbc:=zAC hbb hb2;go_wp2_with fail;go_ret;exact⟨by rw[HX.out];simp[*],hbc⟩
 ·have hnb':zko n s=false:=by simpa using hnb
  clear hnb;go_enter func113,ntmps113;go_wp2_with fail;refine(zkn _ _ _ _ _ _ _).mono ?_;rintro e w1 ⟨rfl,hb1⟩;have hbb:=zAB hb1;go_wp2_with fail;go_ret;exact⟨by rw[HX.out];simp[*],hbb⟩
theorem zwI(n:Int)(s:ByteArray)(ks:List T)(aL:∀t∈ks,zlx t):zl7 (.nd 48 n s ks):=by
 intro v w hv;have HX:=zh (show isS (.nd 48 n s ks)=(zko n s&&zkE 1 (fun _=>isP) ks) by simp[isS]);have IH:=zh aL;have HV:=zh hv;obtain⟨Ad,c,rfl,hf,hlk,hlc,hrow⟩:=hv.open_;simp only[zND]at *
 have av:=zkz hlk;clear hf hv hlk hrow hlc aL;by_cases hnb:zko n s=true
 ·go_enter func113,ntmps113;go_wp2_with fail;refine(zkn _ _ _ _ _ _ _).mono ?_;rintro e w1 ⟨rfl,hb1⟩;obtain⟨hc1,hf1⟩:=zlC hb1;have hbb:=zAB hb1;go_wp2_with fail;refine(zkR (.nd 48 n s ks) _ _ (HV.out.later (hbb.alloc hbb.size _)) _ 1 (fun _=>143) (fun _=>f143) (fun _=>isP) zY zS (fun i hi=>zmB (by rcases i with _|_|_|_|i<;>first|omega|rfl)) (fun _ _=>zlb) (fun hl i hi=>zkO _)).mono ?_;rintro e w2 ⟨rfl,hb2⟩;have hbc:=zAC hbb hb2;go_wp2_with fail;go_ret;exact⟨by rw[HX.out];simp[*],hbc⟩
 ·have hnb':zko n s=false:=by simpa using hnb
  clear hnb;go_enter func113,ntmps113;go_wp2_with fail;refine(zkn _ _ _ _ _ _ _).mono ?_;rintro e w1 ⟨rfl,hb1⟩;have hbb:=zAB hb1;go_wp2_with fail;go_ret;exact⟨by rw[HX.out];simp[*],hbb⟩
theorem zwH(n:Int)(s:ByteArray)(ks:List T)(aL:∀t∈ks,zlx t):zl7 (.nd 49 n s ks):=by
 intro v w hv;have HX:=zh (show isS (.nd 49 n s ks)=(zko n s&&zkE 1 (fun _=>isP) ks) by simp[isS]);have IH:=zh aL;have HV:=zh hv;obtain⟨Ad,c,rfl,hf,hlk,hlc,hrow⟩:=hv.open_;simp only[zND]at *
 have av:=zkz hlk;clear hf hv hlk hrow hlc aL;by_cases hnb:zko n s=true
 ·go_enter func113,ntmps113;go_wp2_with fail;refine(zkn _ _ _ _ _ _ _).mono ?_;rintro e w1 ⟨rfl,hb1⟩;obtain⟨hc1,hf1⟩:=zlC hb1;have hbb:=zAB hb1;go_wp2_with fail;refine(zkR (.nd 49 n s ks) _ _ (HV.out.later (hbb.alloc hbb.size _)) _ 1 (fun _=>143) (fun _=>f143) (fun _=>isP) zY zS (fun i hi=>zmB (by rcases i with _|_|_|_|i<;>first|omega|rfl)) (fun _ _=>zlb) (fun hl i hi=>zkO _)).mono ?_;rintro e w2 ⟨rfl,hb2⟩;have hbc:=zAC hbb hb2;go_wp2_with fail;go_ret;exact⟨by rw[HX.out];simp[*],hbc⟩
 ·have hnb':zko n s=false:=by simpa using hnb
  clear hnb;go_enter func113,ntmps113;go_wp2_with fail;refine(zkn _ _ _ _ _ _ _).mono ?_;rintro e w1 ⟨rfl,hb1⟩;have hbb:=zAB hb1;go_wp2_with fail;go_ret;exact⟨by rw[HX.out];simp[*],hbb⟩
theorem zwE(n:Int)(s:ByteArray)(ks:List T)(aL:∀t∈ks,zlx t):zl7 (.nd 52 n s ks):=by
 intro v w hv;have HX:=zh (show isS (.nd 52 n s ks)=(zko n s&&zkE 4 (pEB 0) ks) by simp[isS,zkE,<-zmy]);have IH:=zh aL;have HV:=zh hv;obtain⟨Ad,c,rfl,hf,hlk,hlc,hrow⟩:=hv.open_;simp only[zND]at *
 have av:=zkz hlk;clear hf hv hlk hrow hlc aL;by_cases hnb:zko n s=true
 ·go_enter func113,ntmps113;go_wp2_with fail;refine(zkn _ _ _ _ _ _ _).mono ?_;rintro e w1 ⟨rfl,hb1⟩;obtain⟨hc1,hf1⟩:=zlC hb1;have hbb:=zAB hb1;go_wp2_with fail;refine(zkR (.nd 52 n s ks) _ _ (HV.out.later (hbb.alloc hbb.size _)) _ 4 (fun i=>if i=0\/i=3 then 144 else 84) (fun i=>if i=0\/i=3 then f144 else f84) (pEB 0) zY zS (fun i hi=>zmB (by rcases i with _|_|_|_|i<;>first|omega|rfl)) (fun i hi=>by rcases i with _|_|_|_|i;exact zk8;exact zmp;exact zmp;exact zk8;omega) (fun hl i hi=>by rcases i with _|_|_|_|i;exact zkG _;exact IH.out _ (List.getElem_mem hi);exact IH.out _ (List.getElem_mem hi);exact zkG _;exact absurd hi (by simp only[T.ks_nd]at hl ⊢;omega))).mono ?_;rintro e w2 ⟨rfl,hb2⟩;have hbc:=zAC hbb hb2;go_wp2_with fail;go_ret
  exact⟨by rw[HX.out];simp[*],hbc⟩
 ·have hnb':zko n s=false:=by simpa using hnb
  clear hnb;go_enter func113,ntmps113;go_wp2_with fail;refine(zkn _ _ _ _ _ _ _).mono ?_;rintro e w1 ⟨rfl,hb1⟩;have hbb:=zAB hb1;go_wp2_with fail;go_ret;exact⟨by rw[HX.out];simp[*],hbb⟩
theorem zwD(n:Int)(s:ByteArray)(ks:List T)(aL:∀t∈ks,zlx t):zl7 (.nd 53 n s ks):=by
 intro v w hv;have HX:=zh (show isS (.nd 53 n s ks)=(zko n s&&zkE 4 (pEB 0) ks) by simp[isS,zkE,<-zmy]);have IH:=zh aL;have HV:=zh hv;obtain⟨Ad,c,rfl,hf,hlk,hlc,hrow⟩:=hv.open_;simp only[zND]at *
 have av:=zkz hlk;clear hf hv hlk hrow hlc aL;by_cases hnb:zko n s=true
 ·go_enter func113,ntmps113;go_wp2_with fail;refine(zkn _ _ _ _ _ _ _).mono ?_;rintro e w1 ⟨rfl,hb1⟩;obtain⟨hc1,hf1⟩:=zlC hb1;have hbb:=zAB hb1;go_wp2_with fail;refine(zkR (.nd 53 n s ks) _ _ (HV.out.later (hbb.alloc hbb.size _)) _ 4 (fun i=>if i=0\/i=3 then 144 else 84) (fun i=>if i=0\/i=3 then f144 else f84) (pEB 0) zY zS (fun i hi=>zmB (by rcases i with _|_|_|_|i<;>first|omega|rfl)) (fun i hi=>by rcases i with _|_|_|_|i;exact zk8;exact zmp;exact zmp;exact zk8;omega) (fun hl i hi=>by rcases i with _|_|_|_|i;exact zkG _;exact IH.out _ (List.getElem_mem hi);exact IH.out _ (List.getElem_mem hi);exact zkG _;exact absurd hi (by simp only[T.ks_nd]at hl ⊢;omega))).mono ?_;rintro e w2 ⟨rfl,hb2⟩;have hbc:=zAC hbb hb2;go_wp2_with fail;go_ret
  exact⟨by rw[HX.out];simp[*],hbc⟩
 ·have hnb':zko n s=false:=by simpa using hnb
  clear hnb;go_enter func113,ntmps113;go_wp2_with fail;refine(zkn _ _ _ _ _ _ _).mono ?_;rintro e w1 ⟨rfl,hb1⟩;have hbb:=zAB hb1;go_wp2_with fail;go_ret;exact⟨by rw[HX.out];simp[*],hbb⟩
theorem zwC(n:Int)(s:ByteArray)(ks:List T)(aL:∀t∈ks,zlx t):zl7 (.nd 54 n s ks):=by
 intro v w hv;have HX:=zh (show isS (.nd 54 n s ks)=(zkB n s&&zkE 3 (pEB 4) ks) by simp[isS,zkE,<-zmy]);have IH:=zh aL;have HV:=zh hv;obtain⟨Ad,c,rfl,hf,hlk,hlc,hrow⟩:=hv.open_;simp only[zND]at *
 have av:=zkz hlk;clear hf hv hlk hrow hlc aL;by_cases hnb:zkB n s=true
 ·go_enter func113,ntmps113;go_wp2_with fail;refine(zku _ _ _ _ _ _ _).mono ?_;rintro e w1 ⟨rfl,hb1⟩;obtain⟨hc1,hf1⟩:=zlC hb1;have hbb:=zAB hb1;go_wp2_with fail;refine(zkR (.nd 54 n s ks) _ _ (HV.out.later (hbb.alloc hbb.size _)) _ 3 (fun i=>if i=1 then 84 else 144) (fun i=>if i=1 then f84 else f144) (pEB 4) zY zS (fun i hi=>zmB (by rcases i with _|_|_|_|i<;>first|omega|rfl)) (fun i hi=>by rcases i with _|_|_|i;exact zk8;exact zmp;exact zk8;omega) (fun hl i hi=>by rcases i with _|_|_|i;exact zkG _;exact IH.out _ (List.getElem_mem hi);exact zkG _;exact absurd hi (by simp only[T.ks_nd]at hl ⊢;omega))).mono ?_;rintro e w2 ⟨rfl,hb2⟩;have hbc:=zAC hbb hb2;go_wp2_with fail;go_ret;exact⟨by rw[HX.out];simp[*],hbc⟩
 ·have hnb':zkB n s=false:=by simpa using hnb
  clear hnb;go_enter func113,ntmps113;go_wp2_with fail;refine(zku _ _ _ _ _ _ _).mono ?_;rintro e w1 ⟨rfl,hb1⟩;have hbb:=zAB hb1;go_wp2_with fail;go_ret;exact⟨by rw[HX.out];simp[*],hbb⟩
theorem zwB(n:Int)(s:ByteArray)(ks:List T)(aL:∀t∈ks,zlx t):zl7 (.nd 55 n s ks):=by
 intro v w hv;have HX:=zh (show isS (.nd 55 n s ks)=(zkB n s&&zkE 1 (pEB 7) ks) by simp[isS,zkE,<-zmy]);have IH:=zh aL;have HV:=zh hv;obtain⟨Ad,c,rfl,hf,hlk,hlc,hrow⟩:=hv.open_;simp only[zND]at *
 have av:=zkz hlk;clear hf hv hlk hrow hlc aL;by_cases hnb:zkB n s=true
 ·go_enter func113,ntmps113;go_wp2_with fail;refine(zku _ _ _ _ _ _ _).mono ?_;rintro e w1 ⟨rfl,hb1⟩;obtain⟨hc1,hf1⟩:=zlC hb1;have hbb:=zAB hb1;go_wp2_with fail;refine(zkR (.nd 55 n s ks) _ _ (HV.out.later (hbb.alloc hbb.size _)) _ 1 (fun _=>84) (fun _=>f84) (pEB 7) zY zS (fun i hi=>zmB (by rcases i with _|_|_|_|i<;>first|omega|rfl)) (fun _ _=>zmp) (fun hl i hi=>by rcases i with _|i;exact IH.out _ (List.getElem_mem hi);exact absurd hi (by simp only[T.ks_nd]at hl ⊢;omega))).mono ?_;rintro e w2 ⟨rfl,hb2⟩;have hbc:=zAC hbb hb2;go_wp2_with fail;go_ret;exact⟨by rw[HX.out];simp[*],hbc⟩
 ·have hnb':zkB n s=false:=by simpa using hnb
  clear hnb;go_enter func113,ntmps113;go_wp2_with fail;refine(zku _ _ _ _ _ _ _).mono ?_;rintro e w1 ⟨rfl,hb1⟩;have hbb:=zAB hb1;go_wp2_with fail;go_ret;exact⟨by rw[HX.out];simp[*],hbb⟩
theorem zwG(n:Int)(s:ByteArray)(ks:List T):zl7 (.nd 50 n s ks):=by
 intro v w hv;have HX:=zh (show isS (.nd 50 n s ks)=(zkB n s&&decide (ks.length<=8)&&zkw (fun _=>isV) 0 ks) by simp[isS]);have HV:=zh hv;obtain⟨Ad,c,rfl,hf,hlk,hlc,hrow⟩:=hv.open_;simp only[zND]at *
 have av:=zkz hlk;clear hf hv hlc;by_cases hnb:zkB n s=true
 ·by_cases Bh:ks.length<=8
  ·go_enter func113,ntmps113;go_wp2_with fail;refine(zku _ _ _ _ _ _ _).mono ?_;rintro e w1 ⟨rfl,hb1⟩;obtain⟨hc1,hf1⟩:=zlC hb1;have hbb:=zAB hb1;go_wp2_with fail;refine(zo4 ks _ _ _ (hrow.later hbb) hlk _ _ zvM isV (fun i hi=>zq6 _)).mono ?_;rintro e w2 ⟨rfl,hb2⟩;have hbc:zw w w2:=hbb.trans (hb2.mono hbb.size);go_wp2_with fail;go_ret;exact⟨by rw[HX.out];simp[*],hbc⟩
  ·have hl9:8<ks.length:=zO
   clear Bh;go_enter func113,ntmps113;go_wp2_with fail;refine(zku _ _ _ _ _ _ _).mono ?_;rintro e w1 ⟨rfl,hb1⟩;obtain⟨hc1,hf1⟩:=zlC hb1;have hbb:=zAB hb1;go_wp2_with fail;go_ret;exact⟨by rw[HX.out];simp[show ¬ ks.length<=8 by omega],hbb⟩
 ·have hnb':zkB n s=false:=by simpa using hnb
  clear hnb;go_enter func113,ntmps113;go_wp2_with fail;refine(zku _ _ _ _ _ _ _).mono ?_;rintro e w1 ⟨rfl,hb1⟩;have hbb:=zAB hb1;go_wp2_with fail;go_ret;exact⟨by rw[HX.out];simp[*],hbb⟩
theorem zwF(n:Int)(s:ByteArray)(ks:List T):zl7 (.nd 51 n s ks):=by
 intro v w hv;have HX:=zh (show isS (.nd 51 n s ks)=(zkB n s&&decide (ks.length<=8)&&zkw (fun _=>isV) 0 ks) by simp[isS]);have HV:=zh hv;obtain⟨Ad,c,rfl,hf,hlk,hlc,hrow⟩:=hv.open_;simp only[zND]at *
 have av:=zkz hlk;clear hf hv hlc;by_cases hnb:zkB n s=true
 ·by_cases Bh:ks.length<=8
  ·go_enter func113,ntmps113;go_wp2_with fail;refine(zku _ _ _ _ _ _ _).mono ?_;rintro e w1 ⟨rfl,hb1⟩;obtain⟨hc1,hf1⟩:=zlC hb1;have hbb:=zAB hb1;go_wp2_with fail;refine(zo4 ks _ _ _ (hrow.later hbb) hlk _ _ zvM isV (fun i hi=>zq6 _)).mono ?_;rintro e w2 ⟨rfl,hb2⟩;have hbc:zw w w2:=hbb.trans (hb2.mono hbb.size);go_wp2_with fail;go_ret;exact⟨by rw[HX.out];simp[*],hbc⟩
  ·have hl9:8<ks.length:=zO
   clear Bh;go_enter func113,ntmps113;go_wp2_with fail;refine(zku _ _ _ _ _ _ _).mono ?_;rintro e w1 ⟨rfl,hb1⟩;obtain⟨hc1,hf1⟩:=zlC hb1;have hbb:=zAB hb1;go_wp2_with fail;go_ret;exact⟨by rw[HX.out];simp[show ¬ ks.length<=8 by omega],hbb⟩
 ·have hnb':zkB n s=false:=by simpa using hnb
  clear hnb;go_enter func113,ntmps113;go_wp2_with fail;refine(zku _ _ _ _ _ _ _).mono ?_;rintro e w1 ⟨rfl,hb1⟩;have hbb:=zAB hb1;go_wp2_with fail;go_ret;exact⟨by rw[HX.out];simp[*],hbb⟩
theorem zuf(k n:Int)(s:ByteArray)(ks:List T)(n40:(k==40)=false)(n41:(k==41)=false)(n42:(k==42)=false)(n43:(k==43)=false)(n44:(k==44)=false)(n45:(k==45)=false)(n46:(k==46)=false)(n47:(k==47)=false)(n48:(k==48)=false)(n49:(k==49)=false)(n50:(k==50)=false)(n51:(k==51)=false)(n52:(k==52)=false)(n53:(k==53)=false)(n54:(k==54)=false)(n55:(k==55)=false)(n56:(k==56)=false):zl7 (.nd k n s ks):=by
 intro v w hv;obtain⟨Ad,c,rfl,hf,hlk,hlc,hrow⟩:=hv.open_;simp only[zND]at *
 have av:=zkz hlk;have HX:=zh (show isS (.nd k n s ks)=false by
  simp only[beq_eq_false_iff_ne,ne_eq]at n40 n41 n42 n43 n44 n45 n46 n47 n48 n49 n50 n51 n52 n53 n54 n55 n56;rw[isS,if_neg zO,if_neg zO,if_neg zO,if_neg zO,if_neg zO,if_neg zO,if_neg zO,if_neg zO])
 clear hf hv hlk hrow hlc;go_enter func113,ntmps113;go_wp2;go_ret;exact⟨by rw[HX.out];rfl,zr.alloc zl _⟩
theorem zuj(k n:Int)(s:ByteArray)(ks:List T)(ih:∀t∈ks,zl7 t):zlx (.nd k n s ks):=by
 intro v w hv;have HX:=zh (show isB (.nd k n s ks)=((k==57)&&zko n s&&zkw (fun _=>isS) 0 ks) by rw[isB,zqg 0];rfl);have IH:=zh ih;obtain⟨Ad,c,rfl,hf,hlk,hlc,hrow⟩:=hv.open_;simp only[zND]at *
 have av:=zkz hlk;clear hf hv hlc ih;by_cases hk:(k==57)=true
 ·by_cases hnb:zko n s=true
  ·go_enter func84,ntmps84;go_wp2_with fail;refine(zkn _ _ _ _ _ _ _).mono ?_;rintro e w1 ⟨rfl,hb1⟩;obtain⟨hc1,hf1⟩:=zlC hb1;have hbb:=zAB hb1;go_wp2_with fail;refine(zo4 ks _ _ _ (hrow.later hbb) hlk _ _ zxY isS (fun i hi=>IH.out _ (List.getElem_mem hi))).mono ?_;rintro e w2 ⟨rfl,hb2⟩;have hbc:zw w w2:=hbb.trans (hb2.mono hbb.size);go_wp2_with fail;go_ret;exact⟨by rw[HX.out];simp[*],hbc⟩
  ·have hnb':zko n s=false:=by simpa using hnb
   clear hnb;go_enter func84,ntmps84;go_wp2_with fail;refine(zkn _ _ _ _ _ _ _).mono ?_;rintro e w1 ⟨rfl,hb1⟩;have hbb:=zAB hb1;go_wp2_with fail;go_ret;exact⟨by rw[HX.out];simp[*],hbb⟩
 ·have hk':(k==57)=false:=by simpa using hk
  clear hk;go_enter func84,ntmps84;go_wp2_with fail;go_ret;exact⟨by rw[HX.out];simp[*],zr.alloc zl _⟩
theorem ztp(t:T):zl7 t/\zlx t:=by
 induction t using T.ind with
 | _ k n s ks ih =>
 have ihS:∀t∈ks,zl7 t:=fun t ht=>(ih t ht).1;have aL:∀t∈ks,zlx t:=fun t ht=>(ih t ht).2;refine⟨?_,zuj k n s ks ihS⟩;by_cases h40:k=40
 ·subst h40;exact zwQ n s ks aL
 by_cases h41:k=41
 ·subst h41;exact zwP n s ks aL
 by_cases h42:k=42
 ·subst h42;exact zwO n s ks aL
 by_cases h43:k=43
 ·subst h43;exact zwN n s ks aL
 by_cases uj:k=44
 ·subst uj;exact zwM n s ks aL
 by_cases h45:k=45
 ·subst h45;exact zwL n s ks aL
 by_cases h46:k=46
 ·subst h46;exact zwK n s ks aL
 by_cases h47:k=47
 ·subst h47;exact zwJ n s ks aL
 by_cases h48:k=48
 ·subst h48;exact zwI n s ks aL
 by_cases yV:k=49
 ·subst yV;exact zwH n s ks aL
 by_cases h50:k=50
 ·subst h50;exact zwG n s ks
 by_cases lN:k=51
 ·subst lN;exact zwF n s ks
 by_cases lM:k=52
 ·subst lM;exact zwE n s ks aL
 by_cases mU:k=53
 ·subst mU;exact zwD n s ks aL
 by_cases eG:k=54
 ·subst eG;exact zwC n s ks aL
 by_cases eZ:k=55
 ·subst eZ;exact zwB n s ks aL
 by_cases iX:k=56
 ·subst iX;exact zwA n s ks aL
 exact zuf k n s ks (by simpa using h40) (by simpa using h41) (by simpa using h42) (by simpa using h43) (by simpa using uj) (by simpa using h45) (by simpa using h46) (by simpa using h47) (by simpa using h48) (by simpa using yV) (by simpa using h50) (by simpa using lN) (by simpa using lM) (by simpa using mU) (by simpa using eG) (by simpa using eZ) (by simpa using iX)
theorem zug(t:T):zl7 t:=(ztp t).1
theorem zsu(t:T):zlx t:=(ztp t).2
mutual
/-- ast.limited: what is left of the count,or none. -/
def lim:T->Nat->Nat->Option Nat
 | .nd _ _ _ ks,d,l=>if d=0\/l=0 then none else lims ks (d-1) (l-1)
def lims:List T->Nat->Nat->Option Nat
 | [],_,l=>some l
 | t::ts,d,l=>match lim t d l with
  | none=>none
  | some l'=>lims ts d l'
end
theorem zoO(ts us:List T)(d:Nat):∀l,lims (ts++us) d l=(lims ts d l).bind fun r=>lims us d r:=by
 induction ts with
 | nil=>intro l;simp[lims]
 | cons t ts ih =>
  intro l;simp only[List.cons_append,lims]
  cases lim t d l with
  | none=>rfl
  | some r=>exact ih r
theorem zxH(t:T)(d l:Nat):lims [t] d l=lim t d l:=by
 simp only[lims]
 cases lim t d l<;>rfl
theorem zvk{ks:List T}{d l r j:Nat}(hj:j<ks.length)(h:lims (ks.take j) d l=some r):lims (ks.take (j+1)) d l=lim ks[j] d r:=by
 rw[List.take_succ_eq_append_getElem hj,zoO,h];exact zxH _ _ _
theorem zvl{ks:List T}{d l j:Nat}(h:lims (ks.take j) d l=none):lims ks d l=none:=by
 rw[<-List.take_append_drop j ks,zoO,h];rfl
theorem zK6(t:T):∀d l r,lim t d l=some r->r<=l:=by
 induction t using T.ind with
 | _ k n s ks ih =>
 intro d l r h;rw[lim]at h
 split at h
 ·cases h
 ·have key:∀(us:List T),(∀t∈us,∀d l r,lim t d l=some r->r<=l)->∀l r d,lims us d l=some r->r<=l:=by
   intro us
   induction us with
   | nil=>intro _ l r d h;simp[lims]at h;omega
   | cons t us ih2 =>
    intro hu l r d h;simp only[lims]at h
    cases h1:lim t d l with
    | none=>rw[h1]at h;cases h
    | some r1 =>
     rw[h1]at h;have:=hu t zS d l r1 h1;have:=ih2 (fun t ht=>hu t (by simp[ht])) r1 r d h;omega
  have:=key ks ih _ _ _ h;omega
def LimE(w:World)(b:Nat)(o:Option Nat)(e:Ending)(w':World):Prop :=
 e=.returned (.bool o.isSome)/\∃l':Nat,w'.heap[b]?=some (.cells #[zi (l':Int)] 3 (0,0))/\(∀r,o=some r->l'=r)/\w.grownBy w' (some b)
theorem znj{a b c:World}{row:Option Nat}(h1:a.grownBy b row)(h2:b.grownBy c row):a.grownBy c row :=
 ⟨h2.os.trans h1.os,h2.tape.trans h1.tape,h2.output.trans h1.output,Nat.le_trans h1.size h2.size,fun i hi hne=>(h2.block i (Nat.lt_of_lt_of_le hi h1.size) hne).trans (h1.block i hi hne)⟩
theorem zmz{w:World}(o:Obj)(row:Option Nat):w.grownBy (w.alloc o) row :=
 let h:=(zs w).alloc zl o
 ⟨h.os,h.tape,h.output,h.size,fun b hb _=>h.block b hb⟩
theorem zkS.grown{w w':World}{S:Nat->Prop}{A:Option Addr}{ts:List T}{b:Nat}(h:zkS w S A ts)(hg:w.grownBy w' (some b))(hb:¬ S b):zkS w' S A ts :=
 h.keep (fun _ h _=>h) fun i hi hlt=>hg.block i hlt fun e=>by injection e with e;subst e;exact hb hi
theorem zr9(t:T):∀(d l:Nat) (S:Nat->Prop) (v:Value) (w:World) (b:Nat),NV w S t v->¬ S b->d<=80->l<=2000->w.heap[b]?=some (.cells #[zi (l:Int)] 3 (0,0)) ->
  Calls prog 83 #[v,zi (d:Int),.pointer (some ⟨b,0,none⟩)] w (LimE w b (lim t d l)):=by
 induction t using T.ind with
 | _ k n s ks ih =>
 intro d l S v w b hv hSb hd hl hbx;obtain⟨A,c,rfl,hf,hlk,hlc,hrow⟩:=hv.open_;simp only[zND]at *
 have av:=zkz hlk;have IH:=zh ih;have ae:=zh hrow;have ko:=zh hSb;have aR:=zh hbx;have hbl:=zkf hbx;have c0:=zkj (zc (i:=0) (u:=zi (l:Int)) hbx rfl);have f0:∀o:Obj,(w.alloc o).frozen? ⟨b,0,none⟩=false:=fun o=>by
  have:(w.alloc o).heap[b]?=some (.cells #[zi (l:Int)] 3 (0,0)):=(Below.heap_alloc w o b hbl).trans hbx;exact zf this
 clear hv ih hrow hSb hf hlk hbx;have hne:¬ b=w.heap.size:=zO
 have hne':¬ w.heap.size=b:=zO
 by_cases hd0:d=0
 ·subst hd0;have HX:=zh (show lim (.nd k n s ks) 0 l=none by rw[lim];simp);go_enter func83,ntmps83;go_wp2_with fail;go_ret;rw[HX.out];exact⟨rfl,l,(Below.heap_alloc w _ b hbl).trans aR.out,(fun r h=>by cases h),zmz _ _⟩
 by_cases hl0:l=0
 ·subst hl0;have HX:=zh (show lim (.nd k n s ks) d 0=none by rw[lim];simp);have fd:((d:Int)==0)=false:=by simpa using hd0
  go_enter func83,ntmps83;go_wp2_with fail;go_ret;rw[HX.out];exact⟨rfl,0,(Below.heap_alloc w _ b hbl).trans aR.out,(fun r h=>by cases h),zmz _ _⟩
 obtain⟨d',rfl⟩:∃d',d=d'+1:=⟨d-1,zO⟩
 obtain⟨l',rfl⟩:∃l',l=l'+1:=⟨l-1,zO⟩
 have HX:=zh (show lim (.nd k n s ks) (d'+1) (l'+1)=lims ks d' l' by rw[lim,if_neg zO];simp);rw[show((d'+1:Nat):Int)=(d':Int)+1 from rfl];have fd:((d':Int)+1==0)=false:=by simp;omega
 have fl:((l':Int)+1==0)=false:=by simp;omega
 clear hd0 hl0;have hb1:(w.setCell ⟨b,0,none⟩ (zi (l':Int))).heap[b]?=some (.cells #[zi (l':Int)] 3 (0,0)):=by
  have h1:=heap_setCell_same w b 0 _ 3 (zi (l':Int)) aR.out;simpa using h1
 have hz1:(w.setCell ⟨b,0,none⟩ (zi (l':Int))).heap.size=w.heap.size:=by simp[World.setCell]
 obtain⟨W0,hW0⟩:=zX ((w.setCell ⟨b,0,none⟩ (zi (l':Int))).alloc (.cells #[zj k,zi n,.string s,.slice A ks.length c] 28));have H0:W0.heap[b]?=some (.cells #[zi (l':Int)] 3 (0,0)):=by
  rw[<-hW0,Below.heap_alloc _ _ b (by rw[hz1];exact hbl)];exact hb1
 have A0:W0.heap[w.heap.size]?=some (.cells #[zj k,zi n,.string s,.slice A ks.length c] 28 (0,0)):=by
  rw[<-hW0,<-hz1];exact heap_alloc_new _ _
 have G0:w.grownBy W0 (some b):=by
  rw[<-hW0];refine znj (zlw (zlZ w (some b)) (p:=⟨b,0,none⟩) rfl _) (zmz _ _)
 have HH:=zh (And.intro H0 (And.intro A0 G0));have HW0:=zh hW0;clear H0 G0 A0 hb1 hz1 hW0;go_enter func83,ntmps83;go_wp2_with fail;rw[HW0.out];clear c0 f0
 go_loopw [25] (fun i wr=>∃(j lc:Nat),j<=ks.length/\i=zi j/\lc<=2000/\Hid (lims (ks.take j) d' l'=some lc)/\wr.heap[b]?=some (.cells #[zi (lc:Int)] 3 (0,0))/\wr.heap[w.heap.size]?=some (.cells #[zj k,zi n,.string s,.slice A ks.length c] 28 (0,0))/\w.grownBy wr (some b)) (fun i _=>ks.length-(intOf i).toNat)
 case atStart=>exact⟨0,l',Nat.zero_le _,rfl,zO,zh (by simp[lims]),HH.out.1,HH.out.2.1,HH.out.2.2⟩
 case round =>
  obtain⟨j,lc,hj,rfl,oZ,HLI,hbx,hax,hg⟩:=hrel;clear HH HW0;by_cases hlt:j<ks.length
  ·obtain⟨a,t,A1,c1,rfl,_,Ht,⟨q0,q1,q2,q3⟩,hn⟩:=(ae.out.grown hg ko.out).nd hlt;have hI:=IH.out ks[j] (List.getElem_mem hlt);rw[Ht.out]at hI;have pM:=zkf hbx;have hal:∀o:Obj,(wr.alloc o).heap[b]?=some (.cells #[zi (lc:Int)] 3 (0,0)):=fun o=>(Below.heap_alloc wr o b pM).trans hbx;have HI1:=zh (hI d' lc S _ (wr.alloc (.cells #[zj t.k,zi t.n,.string t.s,.slice A1 t.ks.length c1] 28)) b (hn.later (zr.alloc zl _)) ko.out zO oZ (hal _));have HT:=zh (show lims (ks.take (j+1)) d' l'=lim t d' lc by rw[zvk hlt HLI.out,Ht.out]);have HG:=zh (znj hg (zmz (.cells #[zj t.k,zi t.n,.string t.s,.slice A1 t.ks.length c1] 28) _));have HAX:=zh (show ∀o:Obj,(wr.alloc o).heap[w.heap.size]?=some (.cells #[zj k,zi n,.string s,.slice (some a) ks.length c] 28 (0,0))from fun o=>(Below.heap_alloc wr o _ (zkf hax)).trans hax)
   clear hI hn hbx hax hal;go_wp2_with fail;refine HI1.out.mono ?_;rintro e w1 ⟨rfl,l1,hb1,hl1,hg1⟩;have vH:=zh (znj HG.out hg1);have HA1:=zh ((hg1.block _ (zkf (HAX.out _)) (fun e=>hne' (by injection e))).trans (HAX.out _));have HB1:=zh hb1;clear hb1 hg1
   cases ho:lim t d' lc with
   | none =>
    have dP:=zh (show lims ks d' l'=none from zvl (j:=j+1) (by rw[HT.out,ho]));go_wp2_with fail;go_ret;rw[HX.out,dP.out];exact⟨rfl,l1,HB1.out,(fun r h=>by cases h),vH.out⟩
   | some r =>
    have hr1:=hl1 r ho;subst hr1;have hle:l1<=2000:=by have:=zK6 t d' lc l1 ho;omega
    have HT2:=zh (show lims (ks.take (j+1)) d' l'=some l1 by rw[HT.out,ho]);clear hl1 ho;go_wp2_with fail
    go_roundw
    case rel=>exact⟨j+1,l1,zO,by go_num,hle,HT2,HB1.out,HA1.out,vH.out⟩
    case measure=>simp[intOf];omega
  ·obtain rfl:j=ks.length:=zO
   have HL2:=zh (show lims ks d' l'=some lc by have:=HLI.out;rw[List.take_of_length_le zO]at this;exact this);go_wp2_with fail;go_ret;rw[HX.out,HL2.out];exact⟨rfl,lc,hbx,(fun r h=>by cases h;rfl),hg⟩
def zk4(t:T):Bool:=(lim t 80 2000).isSome&&isB t
theorem zpG(t:T)(v:Value)(w:World)(hv:NV w Any t v):Calls prog 53 #[v] w (zu (.bool (zk4 t)) w):=by
 have HV:=zh hv;have HX:=zh (show zk4 t=((lim t 80 2000).isSome&&isB t)from rfl);obtain⟨A,c,rfl,hf,hlk,hlc,hrow⟩:=hv.open_;clear hf hlk hrow hv hlc;generalize t.k=k,t.n=n,t.s=s,t.ks.length=l at *
 have yZ:=zh (show NV w (fun b=>b<w.heap.size) t (nv k n s A l c)from HV.out.keep (fun _ _ h=>h) fun _ _ _=>rfl);have hb2:∀o o',zw w ((w.alloc o).alloc o'):=fun o o'=>(zr.alloc zl _).alloc zS _;have HB2:=zh hb2;have aR:=zh (show ∀o:Obj,((w.alloc o).alloc (.cells #[zi 2000] 3)).heap[w.heap.size+1]?=some (.cells #[zi ((2000:Nat):Int)] 3 (0,0))from fun o=>by
  have:=heap_alloc_new (w.alloc o) (.cells #[zi 2000] 3);simpa using this)
 clear hb2;go_enter func53,ntmps53;go_wp2_with fail;refine(zr9 t 80 2000 (fun b=>b<w.heap.size) _ _ (w.heap.size+1) (yZ.out.later (HB2.out _ _)) (fun h=>by have h':w.heap.size+1<w.heap.size:=h;omega) zO zO (aR.out _)).mono ?_;rintro e w1 ⟨rfl,l1,hb1,_,hg1⟩;have q1:zw w w1:=by
  refine(HB2.out (.cells #[zj k,zi n,.string s,.slice A l c] 28) (.cells #[zi 2000] 3)).grown hg1 (by simp;omega) ?_;intro g e;injection e with e;omega
 have hc:∀i,w1.cell? ⟨w.heap.size,i,none⟩=((w.alloc (.cells #[zj k,zi n,.string s,.slice A l c] 28)).alloc (.cells #[zi 2000] 3)).cell? ⟨w.heap.size,i,none⟩:=fun i =>
  World.cell?_of_block (a:=⟨w.heap.size,i,none⟩) (hg1.block _ (by simp;omega) (fun e=>by simp at e))
 have x0:w1.cell? ⟨w.heap.size,0,none⟩=some (zj k):=(hc 0).trans zS;have x1:w1.cell? ⟨w.heap.size,1,none⟩=some (zi n):=(hc 1).trans zS;have x2:w1.cell? ⟨w.heap.size,2,none⟩=some (.string s):=(hc 2).trans zS;have x3:w1.cell? ⟨w.heap.size,3,none⟩=some (.slice A l c):=(hc 3).trans zS;have qa:=HX.out;clear hc hg1 hb1
 cases ho:(lim t 80 2000).isSome
 ·rw[ho]at qa;go_wp2_with fail;go_ret;exact⟨by rw[qa];rfl,q1⟩
 ·rw[ho]at qa;have dP:=zh qa;clear qa;go_wp2_with fail;refine(zsu t _ _ (HV.out.later q1)).mono ?_;rintro e w2 ⟨rfl,aj⟩;go_wp2_with fail;go_ret;exact⟨by rw[dP.out];simp,q1.trans (aj.mono q1.size)⟩
def zmG(v:VD):Bool:=zmo v.s&&(if v.k=1\/v.k=3 then v.n==0 else if v.k=2 then decide (1<=v.n/\v.n<=16)else false)
theorem zyu{vs:List VD}{f:VD->Bool}{j:Nat}(hj:j<vs.length)(h:(vs.take j).all f=true):(vs.take (j+1)).all f=f vs[j]:=by
 rw[List.take_succ_eq_append_getElem hj,List.all_append,h];simp
theorem zyv{vs:List VD}{f:VD->Bool}{j:Nat}(hj:j<vs.length)(h:f vs[j]=false):vs.all f=false:=by
 simp only[List.all_eq_false];exact⟨vs[j],List.getElem_mem hj,by simp[h]⟩
theorem zoa(vs:List VD)(A:Option Addr)(c:Nat)(S:Nat->Prop)(w:World)(hrow:RowV w S A vs)(hl:vs.length<=LV)(_hlc:vs.length<=c) :
  Calls prog 52 #[.slice A vs.length c] w (zu (.bool (vs.all zmG)) w):=by
 have hl':=zk1 hl;have ae:=zh hrow;clear hrow hl;go_enter func52,ntmps52;go_wp2_with fail
 go_loopw [7] (fun i wr=>∃j:Nat,j<=vs.length/\i=zi j/\zw w wr/\Hid ((vs.take j).all zmG=true)) (fun i _=>vs.length-(intOf i).toNat)
 case atStart=>exact⟨0,Nat.zero_le _,rfl,zr,zh zS⟩
 case round =>
  obtain⟨j,hj,rfl,hb,HA⟩:=hrel;by_cases hlt:j<vs.length
  ·obtain⟨a,v,rfl,_,Hv,⟨q0,q1,q2⟩,hf⟩:=(ae.out.later hb).nd hlt;have HT:=zh (show(vs.take (j+1)).all zmG=zmG v by rw[zyu hlt HA.out,Hv.out]);have HN:=zh (show zmG v=false->vs.all zmG=false from fun h=>zyv hlt (by rw[Hv.out];exact h));have HD:=zh (show zmG v=(zmo v.s&&(if v.k=1\/v.k=3 then v.n==0 else if v.k=2 then decide (1<=v.n/\v.n<=16)else false))from rfl);obtain⟨s,hs⟩:=zX (v.s);obtain⟨k,hk⟩:=zX (v.k);obtain⟨n,hn⟩:=zX (v.n);have dR:=HD.out;rw[hs,hk,hn]at dR;rw[hs]at q0;rw[hk]at q1;rw[hn]at q2;clear HD hf hs hk hn;have HD:=zh dR;clear dR;go_wp2_with fail;refine(zou s _).mono ?_;rintro e w1 ⟨rfl,aa⟩;have q1':zw w w1:=(hb.alloc hb.size _).trans (aa.mono (by have:=hb.size;simp;omega));have x1:w1.cell? ⟨wr.heap.size,1,none⟩=some (zj k):=zb aa zS;have x2:w1.cell? ⟨wr.heap.size,2,none⟩=some (zi n):=zb aa zS
   have dR:=HD.out;clear aa
   cases hnm:zmo s
   ·rw[hnm]at dR;have HR:=zh (HN.out (by rw[dR];rfl));clear dR;go_wp2_with fail;go_ret;exact⟨by rw[HR.out];rfl,q1'⟩
   rw[hnm,Bool.true_and]at dR;by_cases mV:k=1\/k=3
   ·rw[if_pos mV]at dR;by_cases hn0:n=0
    ·subst hn0;have HG:=zh (show(vs.take (j+1)).all zmG=true by rw[HT.out,dR];rfl);clear dR;rcases mV with rfl|rfl
     ·go_wp2_with fail
      go_roundw
      case rel=>exact⟨j+1,zO,by go_num,q1',HG⟩
      case measure=>simp[intOf];omega
     ·go_wp2_with fail
      go_roundw
      case rel=>exact⟨j+1,zO,by go_num,q1',HG⟩
      case measure=>simp[intOf];omega
    ·have fn:(n != 0)=true:=by simpa using hn0
     have HR:=zh (HN.out (by rw[dR];simpa using hn0));clear dR;rcases mV with rfl|rfl
     ·go_wp2_with fail;go_ret;exact⟨by rw[HR.out];rfl,q1'⟩
     ·go_wp2_with fail;go_ret;exact⟨by rw[HR.out];rfl,q1'⟩
   ·rw[if_neg mV]at dR;have f1:(k==1)=false:=by simp;omega
    have f3:(k==3)=false:=by simp;omega
    by_cases h2:k=2
    ·subst h2;rw[if_pos rfl]at dR;by_cases hl1:n<1
     ·have HR:=zh (HN.out (by rw[dR];simp;omega));clear dR;go_wp2_with fail;go_ret;exact⟨by rw[HR.out];rfl,q1'⟩
     ·by_cases hg16:16<n
      ·have HR:=zh (HN.out (by rw[dR];simp;omega));have sK:1<=n:=zO
       clear dR hl1;go_wp2_with fail;go_ret;exact⟨by rw[HR.out];rfl,q1'⟩
      ·have HG:=zh (show(vs.take (j+1)).all zmG=true by rw[HT.out,dR];simp;omega);have sK:1<=n:=zO
       have hg16':n<=16:=zO
       clear dR hl1 hg16;go_wp2_with fail
       go_roundw
       case rel=>exact⟨j+1,zO,by go_num,q1',HG⟩
       case measure=>simp[intOf];omega
    ·rw[if_neg h2]at dR;have f2:(k==2)=false:=by simpa using h2
     have HR:=zh (HN.out dR);clear dR;go_wp2_with fail;go_ret;exact⟨by rw[HR.out];rfl,q1'⟩
  ·obtain rfl:j=vs.length:=zO
   have HR:=zh (show vs.all zmG=true by have:=HA.out;rw[List.take_of_length_le zO]at this;exact this);go_wp2_with fail;go_ret;exact⟨by rw[HR.out];rfl,hb⟩
def zoJ(r:PR):Bool:=zmo r.s&&decide (r.ps.length<=8)&&r.ps.all zmG&&zk4 r.b
def zkx(p:PG):Bool:=decide (p.vs.length<=32)&&decide (p.prs.length<=64)&&p.vs.all zmG&&p.prs.all zoJ&&zk4 p.m
theorem zu2{vs:List PR}{f:PR->Bool}{j:Nat}(hj:j<vs.length)(h:(vs.take j).all f=true):(vs.take (j+1)).all f=f vs[j]:=by
 rw[List.take_succ_eq_append_getElem hj,List.all_append,h];simp
theorem zu3{vs:List PR}{f:PR->Bool}{j:Nat}(hj:j<vs.length)(h:f vs[j]=false):vs.all f=false:=by
 simp only[List.all_eq_false];exact⟨vs[j],List.getElem_mem hj,by simp[h]⟩
theorem zlN(p:PG)(S:Nat->Prop)(v:Value)(w:World)(hv:PV w S p v):Calls prog 25 #[v] w (zu (.bool (zkx p)) w):=by
 obtain⟨A1,c1,A2,c2,A3,c3,rfl,hr⟩:=hv;have HR:=zh hr;have hv1:=zk1 hr.lv;have hv2:=zk1 hr.lp;have HX:=zh (show zkx p=(decide (p.vs.length<=32)&&decide (p.prs.length<=64)&&p.vs.all zmG&&p.prs.all zoJ&&zk4 p.m)from rfl);have oZ:=hr.lpc;obtain⟨L1,hL1⟩:=zX (p.vs.length);obtain⟨L2,hL2⟩:=zX (p.prs.length);obtain⟨k,hk⟩:=zX (p.m.k);obtain⟨n,hn⟩:=zX (p.m.n);obtain⟨s,hs⟩:=zX (p.m.s);obtain⟨l3,hl3⟩:=zX (p.m.ks.length);have lg:=zh hL1;have HL2:=zh hL2;have hm:=hr.main;rw[hk,hn,hs,hl3]at hm;have HM:=zh hm;have hx:=HX.out;rw[hL1,hL2]at hx;rw[hL1]at hv1;rw[hL2]at hv2 oZ;rw[hL1,hL2,hk,hn,hs,hl3];clear hr hm HX hL1 hL2 hk hn hs hl3;have HX:=zh hx;clear hx;have hb0:∀o,zw w (w.alloc o):=fun o=>zr.alloc zl _;have HB0:=zh hb0;clear hb0
 have vN:=zh (show ∀w',zw w w'->Calls prog 52 #[.slice A1 L1 c1] w' fun e w''=>e=.returned (.bool (p.vs.all zmG))/\zw w' w'' from fun w' h=>by
  have:=zoa p.vs A1 c1 S w' (HR.out.vars.later h) HR.out.lv HR.out.lvc;rw[lg.out]at this;exact this)
 by_cases h32:32<L1
 ·have HF:=zh (show zkx p=false by rw[HX.out];simp;intro h;omega);have h32':(32:Int)<(L1:Int):=zO
  go_enter func25,ntmps25;go_wp2_with fail;go_ret;exact⟨by rw[HF.out];rfl,HB0.out _⟩
 by_cases h64:64<L2
 ·have HF:=zh (show zkx p=false by rw[HX.out];simp;intro _ h;omega);have h32':(L1:Int)<=32:=zO
  have h64':(64:Int)<(L2:Int):=zO
  clear h32;go_enter func25,ntmps25;go_wp2_with fail;go_ret;exact⟨by rw[HF.out];rfl,HB0.out _⟩
 have h32':(L1:Int)<=32:=zO
 have h64':(L2:Int)<=64:=zO
 have hx:=HX.out;have e1:L1<=32:=zO
 have e2:L2<=64:=zO
 rw[decide_eq_true e1,decide_eq_true e2]at hx;simp only[Bool.true_and]at hx;clear HX h32 h64 e1 e2;have HX:=zh hx;clear hx;go_enter func25,ntmps25;go_wp2_with fail;refine(vN.out _ (HB0.out _)).mono ?_;rintro e w1 ⟨rfl,aa⟩;have q1:zw w w1:=(HB0.out _).trans (aa.mono zS);have hbx:w1.heap[w.heap.size]?=some (.cells #[.slice A1 L1 c1,.slice A2 L2 c2,zj k,zi n,.string s,.slice A3 l3 c3] 30 (0,0)):=(aa.block _ zS).trans (heap_alloc_new w _);have x1:w1.cell? ⟨w.heap.size,1,none⟩=some (.slice A2 L2 c2):=zc hbx rfl;have hx:=HX.out;clear aa vN
 cases hd:p.vs.all zmG
 ·rw[hd]at hx;have HF:=zh (show zkx p=false by rw[hx];rfl);clear hx;go_wp2_with fail;go_ret;exact⟨by rw[HF.out];rfl,q1⟩
 rw[hd,Bool.true_and]at hx;have dP:=zh hx;have aR:=zh hbx;clear hx HX hd hbx;go_wp2_with fail
 go_loopw [24] (fun i wr=>∃j:Nat,j<=L2/\i=zi j/\zw w1 wr/\Hid ((p.prs.take j).all zoJ=true)) (fun i _=>L2-(intOf i).toNat)
 case atStart=>exact⟨0,Nat.zero_le _,rfl,zr,zh zS⟩
 case round =>
  obtain⟨j,hj,rfl,hb,HA⟩:=hrel;have hq:zw w wr:=q1.trans (hb.mono q1.size);by_cases hlt:j<L2
  ·have hlt':j<p.prs.length:=by rw[HL2.out];exact hlt
   obtain⟨a,r,B1,d1,B2,d2,rfl,_,Hr,⟨z0,z1,z2,z3,z4,z5⟩,hrr⟩:=(HR.out.procs.later hq).nd hlt';have HRR:=zh hrr;have HT:=zh (show(p.prs.take (j+1)).all zoJ=zoJ r by rw[zu2 hlt' HA.out,Hr.out]);have HN:=zh (show zoJ r=false->zkx p=false from fun h=>by rw[dP.out,zu3 hlt' (by rw[Hr.out];exact h)];rfl);have uP:=zh (show zoJ r=(zmo r.s&&decide (r.ps.length<=8)&&r.ps.all zmG&&zk4 r.b)from rfl);have hd1:=zk1 hrr.lp;clear hrr;have vN:=zh (show ∀w',zw wr w'->Calls prog 52 #[.slice B1 r.ps.length d1] w' fun e w''=>e=.returned (.bool (r.ps.all zmG))/\zw w' w'' from fun w' h=>zoa r.ps B1 d1 S w' (HRR.out.row.later h) HRR.out.lp HRR.out.lc);have bW:=zh (show ∀w',zw wr w'->NV w' Any r.b (nv r.b.k r.b.n r.b.s B2 r.b.ks.length d2)from fun w' h=>(HRR.out.body.later h).any);obtain⟨rs,hrs⟩:=zX (r.s)
   obtain⟨rl,hrl⟩:=zX (r.ps.length);obtain⟨bk,hbk⟩:=zX (r.b.k);obtain⟨bn,hbn⟩:=zX (r.b.n);obtain⟨bs,hbs⟩:=zX (r.b.s);obtain⟨bl,hbl⟩:=zX (r.b.ks.length);have hpb:=uP.out;have Bq:=vN.out;have hbd:=bW.out;rw[hrs]at z0 hpb;rw[hrl]at z1 hpb Bq hd1;rw[hbk]at z2 hbd;rw[hbn]at z3 hbd;rw[hbs]at z4 hbd;rw[hbl]at z5 hbd;clear uP vN bW HRR hrs hrl hbk hbn hbs hbl;have uP:=zh hpb;have vN:=zh Bq;have bW:=zh hbd;clear hpb Bq hbd;go_wp2_with fail;refine(zou rs _).mono ?_;rintro e w2 ⟨rfl,aj⟩;have b2:=zAB aj;have hbx:w2.heap[wr.heap.size]?=some (.cells #[.string rs,.slice B1 rl d1,zj bk,zi bn,.string bs,.slice B2 bl d2] 100 (0,0)):=(aj.block _ zS).trans (heap_alloc_new wr _);have u1:w2.cell? ⟨wr.heap.size,1,none⟩=some (.slice B1 rl d1):=zc hbx rfl;have hpb:=uP.out;clear aj
   cases hnm:zmo rs
   ·rw[hnm]at hpb;have HF:=zh (HN.out (by rw[hpb];rfl));clear hpb;go_wp2_with fail;go_ret;exact⟨by rw[HF.out];rfl,hq.trans (b2.mono hq.size)⟩
   rw[hnm,Bool.true_and]at hpb;by_cases h8:8<rl
   ·have HF:=zh (HN.out (by rw[hpb];simp;intro h;omega));have h8':(8:Int)<(rl:Int):=zO
    clear hpb;go_wp2_with fail;go_ret;exact⟨by rw[HF.out];rfl,hq.trans (b2.mono hq.size)⟩
   rw[decide_eq_true (show rl<=8 by omega),Bool.true_and]at hpb;have h8':(rl:Int)<=8:=zO
   have oF:=zh hpb;have HBX2:=zh hbx;clear hpb uP h8 hbx;go_wp2_with fail;refine(vN.out _ b2).mono ?_;rintro e w3 ⟨rfl,aO⟩;have b3:=b2.trans (aO.mono b2.size);have hbx:w3.heap[wr.heap.size]?=some (.cells #[.string rs,.slice B1 rl d1,zj bk,zi bn,.string bs,.slice B2 bl d2] 100 (0,0)):=(aO.block _ (zkf HBX2.out)).trans HBX2.out;have u2:w3.cell? ⟨wr.heap.size,2,none⟩=some (zj bk):=zc hbx rfl;have u3:w3.cell? ⟨wr.heap.size,3,none⟩=some (zi bn):=zc hbx rfl;have u4:w3.cell? ⟨wr.heap.size,4,none⟩=some (.string bs):=zc hbx rfl;have u5:w3.cell? ⟨wr.heap.size,5,none⟩=some (.slice B2 bl d2):=zc hbx rfl;have hpb:=oF.out;clear aO u1 hbx
   cases hdd:r.ps.all zmG
   ·rw[hdd]at hpb;have HF:=zh (HN.out (by rw[hpb];rfl));clear hpb;go_wp2_with fail;go_ret;exact⟨by rw[HF.out];rfl,hq.trans (b3.mono hq.size)⟩
   rw[hdd,Bool.true_and]at hpb;have HPD:=zh hpb;clear hpb oF hdd;go_wp2_with fail;refine(zpG r.b _ _ (bW.out _ b3)).mono ?_;rintro e w4 ⟨rfl,iY⟩;have b4:=b3.trans (iY.mono b3.size);have hpb:=HPD.out;clear iY u2 u3 u4 u5
   cases hbb:zk4 r.b
   ·rw[hbb]at hpb;have HF:=zh (HN.out hpb);clear hpb;go_wp2_with fail;go_ret;exact⟨by rw[HF.out];rfl,hq.trans (b4.mono hq.size)⟩
   ·rw[hbb]at hpb;have HG:=zh (show(p.prs.take (j+1)).all zoJ=true by rw[HT.out];exact hpb);have HQ4:=zh (hb.trans (b4.mono hb.size));clear hpb;go_wp2_with fail
    go_roundw
    case rel=>exact⟨j+1,zO,by go_num,HQ4.out,HG⟩
    case measure=>simp[intOf];omega
  ·obtain rfl:j=L2:=zO
   have HF:=zh (show zkx p=zk4 p.m by rw[dP.out];have:=HA.out;rw[List.take_of_length_le (by rw[HL2.out];omega)]at this;rw[this];rfl);have hbx:wr.heap[w.heap.size]?=some (.cells #[.slice A1 L1 c1,.slice A2 j c2,zj k,zi n,.string s,.slice A3 l3 c3] 30 (0,0)):=(hb.block _ (zkf aR.out)).trans aR.out;have y2:wr.cell? ⟨w.heap.size,2,none⟩=some (zj k):=zc hbx rfl;have y3:wr.cell? ⟨w.heap.size,3,none⟩=some (zi n):=zc hbx rfl;have y4:wr.cell? ⟨w.heap.size,4,none⟩=some (.string s):=zc hbx rfl;have y5:wr.cell? ⟨w.heap.size,5,none⟩=some (.slice A3 l3 c3):=zc hbx rfl;go_wp2_with fail;refine(zpG p.m _ _ (HM.out.later hq).any).mono ?_;rintro e w2 ⟨rfl,aj⟩;go_wp2_with fail;go_ret;exact⟨by rw[HF.out];rfl,hq.trans (aj.mono hq.size)⟩
theorem zru{p:PG}{S:Nat->Prop}{v:Value}{w:World}(h:zkx p=true)(hv:PV w S p v):Calls prog 25 #[v] w fun e w'=>e=.returned (.bool true)/\zw w w' :=
 (zlN p S v w hv).mono fun e w' ⟨he,hb⟩=>⟨by rw[he,h],hb⟩
theorem znL(t:T):∀(v:Value) (w:World),NV w Any t v->Calls prog 66 #[v] w (zqw w t):=by
 obtain⟨i0,hi0,hz0,hz1,hz2⟩:=info_parts zp9
 induction t using T.ind with
 | _ k n s ks ih =>
 intro v w hv;obtain⟨A,c,rfl,hf,hlk,hlc,hrow⟩:=hv.open_;simp only[zND]at *
 have av:=zkz hlk;generalize hlen:ks.length=l at *
 have HL:=zh hlen;clear hlen hv;have hbs:=zwk;go_enter func66,ntmps66;go_wp2
 go_loopw [3,9] (fun x i wr=>∃j:Nat,j<=l/\i=zi j/\OwnN wr (w.heap.size+2) 28 (From (w.heap.size+2)) x (ks.take j) /\
   Below (w.heap.size+2) ((w.alloc (.cells #[zj k,zi n,.string s,.slice A l c] 28)).alloc (.cells #[zj 0,zi 0,.string ⟨#[]⟩,zn] 28)) wr) (fun _ i _=>l-(intOf i).toNat)
 case atStart=>exact⟨0,Nat.zero_le _,rfl,OwnN.nil _ _ _ _,zr⟩
 case round =>
  obtain⟨j,hj,rfl,hown,hb⟩:=hrel;have hb0:zw w wr:=((zr.alloc zl _).alloc zS _).trans (hb.mono zO);have hsz:w.heap.size+2<=wr.heap.size:=by have:=hb.size;simpa using this
  by_cases hlt:j<l
  ·have hi:j<ks.length:=by rw[HL.out];exact hlt
   obtain⟨a,t,A',c',rfl,_,Ht,c0,c1,c2,c3,hn⟩:=(hrow.later hb0).get hi;have ih1:=zh (ih ks[j] (List.getElem_mem hi));rw[Ht.out]at ih1;clear ih hrow;go_wp2_with fail;refine(ih1.out _ _ ?_).mono ?_
   ·exact hn.later (zr.alloc zl _)
   rintro e w1 ⟨k1,n1,s1,A1,l1,c1',rfl,hn1,hb1⟩;have hb2:=zAB hb1;have hb3:=hb.trans (hb2.mono hsz);have hown1:=hown.later hb2;have hA:NV w1 (fun b=>From (w.heap.size+2) b/\some b≠u3.ownBlock) t (nv k1 n1 s1 A1 l1 c1'):=hn1.mono fun b hb=>by
    have hb':wr.heap.size+1<=b:=by simpa using hb
    refine⟨by show w.heap.size+2<=b;omega,fun e=>?_⟩;have:=(hown.block b e.symm).2;omega
   have hlen1:(ks.take j).length+1<=LK:=by rw[List.length_take];exact Nat.le_trans zO hlk
   have hbase:w.heap.size+2<=w1.heap.size:=Nat.le_trans hsz hb2.size;have htk:ks.take (j+1)=ks.take j++[t]:=by rw[List.take_succ_eq_append_getElem hi,Ht.out]
   have HT:=zh htk;have hblk:=hown.block;have HB:=zh hblk;clear htk hown hb1 hblk;go_wp2_with (at_builtin;refine znm rfl (.tmp 13) (.tmp 16) 26 rfl 28 i0 _ underlying26 hi0 hz0 hz1 hz2 rfl (w.heap.size+2) (From (w.heap.size+2)) u3 _ rfl hown1 t k1 n1 s1 A1 l1 c1' rfl hA hlen1 hbase ?_;intro v' w' hown' hg' rZ)
   go_roundw
   case rel=>exact⟨j+1,zO,by go_num,by rw[HT.out];exact hown',hb3.grown hg' hbase (fun g hg=>(HB.out g hg).1)⟩
   case measure=>simp[intOf];omega
  ·have hj':j=l:=zO
   subst hj';have hl:ks.length=j:=HL.out;rw[List.take_of_length_le zO]at hown;obtain⟨A2,c2,hv2,hc2,hr2,ha2⟩:=hown.row;rw[hl]at hv2;have HR:=zh (hr2.mono (S':=From (w.heap.size+2)) fun b hb=>by
    rcases hb with hb|hb
    ·exact hb
    ·exact(hown.block b hb).1)
   have HC:=zh hc2;have HF:=zh hf;subst hv2;clear ha2 hr2 hown hc2 hl ih hrow hf;have g0:wr.cell? ⟨w.heap.size,0,none⟩=some (zj k):=(hb.cell (p:=⟨w.heap.size,0,none⟩) zS).trans zS;have g1:wr.cell? ⟨w.heap.size,1,none⟩=some (zi n):=(hb.cell (p:=⟨w.heap.size,1,none⟩) zS).trans zS;have g2:wr.cell? ⟨w.heap.size,2,none⟩=some (.string s):=(hb.cell (p:=⟨w.heap.size,2,none⟩) zS).trans zS;have g3:wr.cell? ⟨w.heap.size,3,none⟩=some (.slice A j c):=(hb.cell (p:=⟨w.heap.size,3,none⟩) zS).trans zS;have f3:wr.frozen? ⟨w.heap.size,3,none⟩=false:=(hb.frozen (p:=⟨w.heap.size,3,none⟩) zS).trans zS;have r0:wr.cell? ⟨w.heap.size+1,0,none⟩=some (zj 0):=(hb.cell (p:=⟨w.heap.size+1,0,none⟩) zS).trans zS
   have r1:wr.cell? ⟨w.heap.size+1,1,none⟩=some (zi 0):=(hb.cell (p:=⟨w.heap.size+1,1,none⟩) zS).trans zS;have r2:wr.cell? ⟨w.heap.size+1,2,none⟩=some (.string ⟨#[]⟩):=(hb.cell (p:=⟨w.heap.size+1,2,none⟩) zS).trans zS;have r3:wr.cell? ⟨w.heap.size+1,3,none⟩=some zn:=(hb.cell (p:=⟨w.heap.size+1,3,none⟩) zS).trans zS;have q0:wr.frozen? ⟨w.heap.size+1,0,none⟩=false:=(hb.frozen (p:=⟨w.heap.size+1,0,none⟩) zS).trans zS;have q1:wr.frozen? ⟨w.heap.size+1,1,none⟩=false:=(hb.frozen (p:=⟨w.heap.size+1,1,none⟩) zS).trans zS;have q2:wr.frozen? ⟨w.heap.size+1,2,none⟩=false:=(hb.frozen (p:=⟨w.heap.size+1,2,none⟩) zS).trans zS;have q3:wr.frozen? ⟨w.heap.size+1,3,none⟩=false:=(hb.frozen (p:=⟨w.heap.size+1,3,none⟩) zS).trans zS;go_wp2_with fail
   refine bodyPost_ret (v:=nv k n s A2 j c2) (by simp[results,results66,go_sem,r0,r1,r2,r3]) rfl ⟨k,n,s,A2,j,c2,rfl,?_,?_⟩
   ·rw[<-HL.out];refine NV.shut HF.out (by rw[HL.out];exact hlk) HC.out (HR.out.keep (fun b hb _=>Nat.le_trans (Nat.le_add_right _ 2) hb) fun b hb _=>?_);have hb':w.heap.size+2<=b:=hb;rw[Below.heap_setCell _ _ _ _ (by simp;omega),Below.heap_setCell _ _ _ _ (by simp;omega),Below.heap_setCell _ _ _ _ (by simp;omega),Below.heap_setCell _ _ _ _ (by simp;omega),Below.heap_setCell _ _ _ _ (by simp;omega)]
   ·exact((((hb0.setCell zS _).setCell zS _).setCell zS _).setCell zS _).setCell zS _
def zqv(ts L:List T)(j:Nat):Prop:=L.length=ts.length/\∀q (h:q<L.length) (h1:q<ts.length) (h2:ts.length-1-q<ts.length),L[q]=if q<j\/ts.length-j<=q then ts[ts.length-1-q]else ts[q]
theorem zqv.zero(ts:List T):zqv ts ts 0:=⟨rfl,fun q h h1 h2=>by rw[if_neg zO]⟩
theorem zqv.done{ts L:List T}{j:Nat}(h:zqv ts L j)(hj:ts.length<=j+j+1):L=ts.reverse:=by
 refine List.ext_getElem (by simp[h.1]) fun q hq hq'=>?_;have h1:q<ts.length:=by simpa using hq'
 rw[h.2 q hq h1 zO,List.getElem_reverse]
 split
 ·rfl
 ·have e:ts.length-1-q=q:=zO
  simp only[e]
theorem zqv.swap{ts L:List T}{j m:Nat}(h:zqv ts L j)(hm:m+j+1=ts.length)(hjm:j<m)(hj:j<L.length)(sG:m<L.length):zqv ts ((L.set j L[m]).set m L[j]) (j+1):=by
 refine⟨by simp[h.1],fun q hq h1 h2=>?_⟩;have hl:=h.1;rw[List.getElem_set]
 split
 ·rename_i e;subst e;rw[h.2 j hj zO zO,if_neg zO,if_pos zO];have e:ts.length-1-m=j:=zO
  simp only[e]
 ·rw[List.getElem_set]
  split
  ·rename_i e;subst e;rw[h.2 m sG zO zO,if_neg zO,if_pos zO];have e:ts.length-1-j=m:=zO
   simp only[e]
  ·rw[h.2 q zO h1 h2]
   split
   ·rw[if_pos zO]
   ·rw[if_neg zO]
theorem zsr(w:World)(base:Nat)(S:Nat->Prop)(g l cap:Nat)(ts:List T)(hown:OwnN w base 28 S (.slice (some ⟨g,0,none⟩) l cap) ts) :
  Calls prog 127 #[.slice (some ⟨g,0,none⟩) l cap] w fun e w'=>e=.returned (.tuple #[])/\OwnN w' base 28 S (.slice (some ⟨g,0,none⟩) l cap) ts.reverse/\w.grownBy w' (some g):=by
 have hlk:=zkz hown.lk;obtain⟨hl,hcap,_,_⟩:=hown.len;have HL:=zh hl;have hl':l<=2513169434916:=zO
 clear hl hlk;go_enter func127,ntmps127;go_wp2
 go_loopw [2,3] (fun i k wr=>∃(j:Nat) (L:List T),j<=l/\i=zi j/\k=zi ((l:Int)-1-j)/\Hid (zqv ts L j)/\OwnN wr base 28 S (.slice (some ⟨g,0,none⟩) l cap) L/\w.grownBy wr (some g)) (fun i _ _=>l-(intOf i).toNat)
 case atStart=>exact⟨0,ts,Nat.zero_le _,rfl,zS,zqv.zero ts,hown,zlZ _ _⟩
 case round =>
  obtain⟨j,L,hjl,rfl,rfl,HR,ho,hg⟩:=hrel;clear hown;by_cases hlt:(j:Int)<(l:Int)-1-j
  ·obtain⟨m,hm⟩:∃m:Nat,m+j+1=l:=⟨l-1-j,zO⟩
   have hp:(l:Int)-1-j=(m:Int):=zO
   have hm1:m<l:=zO
   have hj1:j<m:=zO
   have hj:j<l:=zO
   have i1:(0:Int)<=(j:Int):=zO
   have i2:(j:Int)<(l:Int):=zO
   have i3:(m:Int)<(l:Int):=zO
   have i4:(0:Int)<=(m:Int):=zO
   have sH:m<L.length:=by rw[ho.len.1];exact hm1
   have pq:j<L.length:=by rw[ho.len.1];exact hj
   obtain⟨t1,A1,c1,H1,a0,a1,a2,a3,hn1⟩:=ho.nd sH;obtain⟨t2,A2,c2,H2,b0,b1,b2,b3,hn2⟩:=ho.nd pq;have fz:=ho.frozen;rw[hp]at *
   have HM:=zh hm;clear hm hlt hp;go_wp2_with fail
   go_region
   go_wp2_with fail;have hw1:=ho.set4 pq hn1;have hk:∀b,S b/\some b≠some g->b<wr.heap.size->((((wr.setCell ⟨g,j*4,none⟩ (zj t1.k)).setCell ⟨g,j*4+1,none⟩ (zi t1.n)).setCell ⟨g,j*4+2,none⟩ (.string t1.s)).setCell ⟨g,j*4+3,none⟩ (.slice A1 t1.ks.length c1)).heap[b]?=wr.heap[b]?:=by
    intro b hb _;have hne:b≠g:=fun e=>hb.2 (by rw[e]);rw[Below.heap_setCell _ _ _ _ hne,Below.heap_setCell _ _ _ _ hne,Below.heap_setCell _ _ _ _ hne,Below.heap_setCell _ _ _ _ hne]
   have hw2:=hw1.set4 (i:=m) (by simpa using sH) (hn2.keep (fun _ h _=>h) hk);have hsw:=HR.out.swap (m:=m) (by rw[HL.out];exact HM.out) hj1 pq sH;rw[H1.out,H2.out]at hsw
   go_roundw
   case rel=>exact⟨j+1,_,zO,by go_num,by have:=HM.out;congr 1;omega,hsw,hw2.drew,zu9 (zlw (zlw (zlw (zlw (zlw (zlw (zlw (zlw hg rfl _) rfl _) rfl _) rfl _) rfl _) rfl _) rfl _) rfl _)⟩
   case measure=>simp[intOf];omega
  ·go_wp2_with fail;go_end0;have e:L=ts.reverse:=HR.out.done (by rw[HL.out];omega);exact⟨rfl,by rw[<-e];exact ho,hg⟩
end
end Go.Proofs.YthjinpodhacleaaGreat
