/-
  Texts of the proof, put together without their remarks: Ip, Ig, Eqv, Ir, Ie, Is, Ic, Iu.
-/
import Derived.Test.YtckhofdinldhpaaGreatR5
import Derived.Recover
set_option linter.unusedSimpArgs false
set_option linter.unusedVariables false
set_option maxHeartbeats 8000000
set_option maxRecDepth 100000
namespace Go.Proofs.YtckhofdinldhpaaGreat
open Go Go.RowKit
structure RS where
 S:ST
 n:Nat
 ent:List Nat
inductive Out where
 | gas
 | err (e:Int)
 | ok (r:RS)
def Out.bind:Out->(RS->Out)->Out
 | .ok r,f=>f r
 | .err e,_=>.err e
 | .gas,_=>.gas
def zkw (F:Int) (r:RS):Out:=if F<=r.n then .err 18 else .ok { r with n:=r.n+1 }
def zkf (r:RS) (R:Int×ST):Out:=if R.1≠0 then .err R.1 else .ok { r with S:=R.2 }
def valO (t:T) (r:RS) (f:Int->RS->Out):Out:=if (zkH r.S.look t).2≠0 then .err (zkH r.S.look t).2 else f (zkH r.S.look t).1 r
def zk0 (F:Int) (t:T) (r:RS) (f:Bool->RS->Out):Out:=(zkw F r).bind fun r=>valO t r fun x r=>f (decide (x≠0)) r
def zkn (F:Int) (t:T) (b:Bool) (r:RS):Out:=zk0 F t r fun b' r=>if b'=b then .ok r else .err 15
def zkp (f:T->RS->Out):List T->RS->Out
 | [],r=>.ok r
 | t::ts,r=>(f t r).bind (zkp f ts)
def blkL (back:Bool) (b:T):List T:=if back=true then b.ks.reverse else b.ks
def zk9 (F:Int) (f:T->RS->Out) (entry test:T) (l1 l2:List T):Nat->RS->Out
 | 0,_=>.gas
 | m+1,r=>(zkp f l1 r).bind fun r=>zk0 F test r fun b r=>if b=true then .ok r else (zkp f l2 r).bind fun r=>(zkn F entry false r).bind (zk9 F f entry test l1 l2 m)
def prcI:List PR->ByteArray->Option Nat
 | [],_=>none
 | q::qs,s=>if (q.s.toList==s.toList)=true then some 0 else (prcI qs s).map (· + 1)
def kid (t:T) (i:Nat):T:=t.ks.getD i nil0
def fstT (back:Bool) (t:T):T:=if back=true then kid t (t.ks.length-1) else kid t 0
def lstT (back:Bool) (t:T):T:=if back=true then kid t 0 else kid t (t.ks.length-1)
def zkk (prs:List PR) (F:Int):Nat->Bool->T->RS->Out
 | 0,_,_,_=>.gas
 | g+1,back,t,r =>
  if t.k=52 then
   zk0 F (fstT back t) r fun yes r=>(zkp (zkk prs F g back) (blkL back (if yes=true then kid t 1 else kid t 2)) r).bind (zkn F (lstT back t) yes)
  else if t.k=53 then
   (zkn F (fstT back t) true r).bind (zk9 F (zkk prs F g back) (fstT back t) (lstT back t) (blkL back (kid t 1)) (blkL back (kid t 2)) g)
  else if t.k=54 then
   (zkw F r).bind fun r=>valO (fstT back t) r fun x r=>(zkf r (zkv r.S ⟨t.s,1,0⟩ x)).bind fun r=>(zkp (zkk prs F g back) (blkL back (kid t 1)) r).bind fun r =>
    (zkw F r).bind fun r=>valO (lstT back t) r fun x r=>zkf r (zku r.S t.s x)
  else if t.k=55 then
   (zkw F r).bind fun r=>(zkf r (zkv r.S ⟨t.s,3,0⟩ 0)).bind fun r=>(zkp (zkk prs F g back) (blkL back (kid t 0)) r).bind fun r =>
    (zkw F r).bind fun r=>zkf r (zku r.S t.s 0)
  else if t.k=50\/t.k=51 then
   match prcI prs t.s with
   | none=>.err 0
   | some i=>(zkw F r).bind fun r=>(zkf r (zkT r.S (prs.getD i ⟨⟨#[]⟩,[],nil0⟩).ps (t.ks.map (·.s)))).bind fun r =>
     (zkp (zkk prs F g (back != decide (t.k=51))) (blkL (back != decide (t.k=51)) (prs.getD i ⟨⟨#[]⟩,[],nil0⟩).b) { r with ent:=r.ent.set i (r.ent.getD i 0+1) }).bind fun r =>
      (zkw F r).bind fun r=>zkf r (zla r.S)
  else (zkw F r).bind fun r=>zkf r (if back=true then zlp r.S t else doE r.S t)
def runO (prs:List PR) (F:Int) (g:Nat) (back:Bool) (b:T) (r:RS):Out:=zkp (zkk prs F g back) (blkL back b) r
def Good (n:Nat) (o:Out):Prop:=o ≠ .gas/\∀ r,o=.ok r->n<=r.n
theorem Good.err (n:Nat) (e:Int):Good n (.err e):=⟨by simp,by simp⟩
theorem Good.ok {n:Nat} {r:RS} (h:n<=r.n):Good n (.ok r):=⟨by simp,fun r' e=>by injection e with e;subst e;exact h⟩
theorem Good.mono {m n:Nat} {o:Out} (h:Good n o) (hm:m<=n):Good m o:=⟨h.1,fun r e=>Nat.le_trans hm (h.2 r e)⟩
theorem Good.bind {m n:Nat} {o:Out} {f:RS->Out} (h:Good n o) (uN:m<=n) (hf:∀ r,n<=r.n->o=.ok r->Good m (f r)):Good m (o.bind f):=by
 cases o with
 | gas=>exact absurd rfl h.1
 | err e=>exact Good.err _ _
 | ok r=>exact hf r (h.2 r rfl) rfl
theorem zky {F:Int} {r r':RS} (h:zkw F r=.ok r'):r'={ r with n:=r.n+1 }/\(r.n:Int)<F:=by
 unfold zkw at h
 split at h
 ·cases h
 ·injection h with h;exact⟨h.symm,by omega⟩
theorem zkz (F:Int) (r:RS):Good (r.n+1) (zkw F r):=by
 unfold zkw
 split
 ·exact Good.err _ _
 ·exact Good.ok (Nat.le_refl _)
theorem zkM (r:RS) (R:Int×ST):Good r.n (zkf r R):=by
 unfold zkf
 split
 ·exact Good.err _ _
 ·exact Good.ok (Nat.le_refl _)
theorem zpa {m:Nat} {t:T} {r:RS} {f:Int->RS->Out} (hf:∀ x,Good m (f x r)):Good m (valO t r f):=by
 unfold valO
 split
 ·exact Good.err _ _
 ·exact hf _
theorem znP {m:Nat} {F:Int} {t:T} {r:RS} {f:Bool->RS->Out} (hm:m<=r.n+1) (hf:∀ b,(r.n:Int)<F->Good m (f b { r with n:=r.n+1 })):Good m (zk0 F t r f):=by
 unfold zk0;refine(zkz F r).bind hm fun r' _ e=>?_;obtain⟨rfl,h⟩:=zky e;exact zpa fun x=>hf _ h
theorem zlD (F:Int) (t:T) (b:Bool) (r:RS):Good (r.n+1) (zkn F t b r):=by
 unfold zkn;refine znP (Nat.le_refl _) fun b' _=>?_
 split
 ·exact Good.ok (Nat.le_refl _)
 ·exact Good.err _ _
theorem zoC {F:Int} {t:T} {b:Bool} {r r':RS} (h:zkn F t b r=.ok r'):r'={ r with n:=r.n+1 }/\(r.n:Int)<F:=by
 unfold zkn zk0 at h
 cases hs:zkw F r with
 | gas=>rw[hs] at h;cases h
 | err e=>rw[hs] at h;cases h
 | ok r1 =>
  rw[hs] at h;obtain⟨rfl,hl⟩:=zky hs;simp only[Out.bind,valO] at h
  split at h
  ·cases h
  ·split at h
   ·injection h with h;exact⟨h.symm,hl⟩
   ·cases h
theorem zmb {f:T->RS->Out}:∀ (l:List T) (r:RS),(∀ t∈l,∀ r',r.n<=r'.n->Good r'.n (f t r'))->Good r.n (zkp f l r)
 | [],r,_=>Good.ok (Nat.le_refl _)
 | t::ts,r,h=>by
  rw[zkp];refine(h t (List.mem_cons_self ..) r (Nat.le_refl _)).bind (Nat.le_refl _) fun r1 h1 _=>?_;exact(zmb ts r1 fun u hu r' hr'=>h u (List.mem_cons_of_mem _ hu) r' (Nat.le_trans h1 hr')).mono h1
theorem zqf {F:Int} {f:T->RS->Out} {entry test:T} {l1 l2:List T}:∀ (m:Nat) (r:RS),F.toNat-r.n<m->(∀ t∈l1,∀ r',r.n<=r'.n->Good r'.n (f t r'))->(∀ t∈l2,∀ r',r.n<=r'.n->Good r'.n (f t r'))->Good r.n (zk9 F f entry test l1 l2 m r)
 | 0,_,h,_,_=>by omega
 | m+1,r,h,h1,h2=>by
  rw[zk9];refine(zmb l1 r h1).bind (Nat.le_refl _) fun r1 hr1 _=>?_;refine znP (by omega) fun b hF=>?_
  split
  ·exact Good.ok (by simp only;omega)
  ·refine(zmb l2 { r1 with n:=r1.n+1 } fun t ht r' hr'=>h2 t ht r' (by simp only at hr';omega)).bind (by simp only;omega) fun r2 hr2 _=>?_;refine(zlD F entry false r2).bind (by simp only at hr2;omega) fun r3 hr3 e=>?_;obtain⟨rfl,hF2⟩:=zoC e;refine(zqf m _ ?_ (fun t ht r' hr'=>h1 t ht r' ?_) (fun t ht r' hr'=>h2 t ht r' ?_)).mono ?_
   all_goals (simp only at *;omega)
theorem zmF:∀ {ts:List T} {u:T},u∈ts->size u<=zkK ts
 | t::ts,u,h=>by
  rw[zkK];rcases List.mem_cons.1 h with rfl|h
  ·omega
  ·have:=zmF h;omega
theorem zxT {t:T} {i:Nat} (h:i<t.ks.length):size (kid t i)<size t:=by
 obtain⟨k,n,s,ks⟩:=t;have h':i<ks.length:=h;have:kid (.nd k n s ks) i=ks[i]:=by simp[kid,h']
 rw[this,size];have:=zmF (List.getElem_mem h');omega
theorem zqS {t u:T} (h:u∈t.ks):size u<size t:=by
 obtain⟨k,n,s,ks⟩:=t;rw[size];have:=zmF (ts:=ks) h;omega
theorem zkR {back:Bool} {b u:T} (h:u∈blkL back b):u∈b.ks:=by
 unfold blkL at h
 split at h
 ·simpa using h
 ·exact h
theorem zvL (t:T) (i:Nat):∀ u∈(kid t i).ks,size u+1<size t:=by
 intro u hu;by_cases h:i<t.ks.length
 ·have:=zxT h;have:=zqS hu;omega
 ·have:kid t i=nil0:=by
   unfold kid;rw[List.getD_eq_getElem?_getD,List.getElem?_eq_none (by omega)];rfl
  rw[this] at hu;simp[nil0] at hu
theorem zmB {prs:List PR} {F:Int} {M:Nat} (hM:∀ q∈prs,size q.b<=M) (hM1:1<=M):∀ (g:Nat) (back:Bool) (t:T) (r:RS),(F.toNat-r.n)*M+size t<=g->Good r.n (zkk prs F g back t r)
 | 0,_,t,r,h=>by
  have:0<size t:=by obtain⟨k,n,s,ks⟩:=t;rw[size];omega
  omega
 | g+1,back,t,r,h=>by
  have hmul:∀ a b:Nat,a<=b->a*M<=b*M:=fun a b h=>Nat.mul_le_mul_right _ h;have hone:F.toNat-r.n<=(F.toNat-r.n)*M:=Nat.le_mul_of_pos_right _ hM1;have hb:∀ (back:Bool) i r1,r.n<=r1.n->Good r1.n (zkp (zkk prs F g back) (blkL back (kid t i)) r1):=fun back i r1 h1 =>
   zmb _ _ fun u hu r2 h2=>zmB hM hM1 g back u r2 (by
    have:=zvL t i u (zkR hu);have:=hmul (F.toNat-r2.n) (F.toNat-r.n) (by omega);omega)
  rw[zkk]
  split
  ·refine znP (by omega) fun yes hF=>?_;have:Good (r.n+1) (zkp (zkk prs F g back) (blkL back (if yes=true then kid t 1 else kid t 2)) { r with n:=r.n+1 }):=by
    split
    ·exact hb back 1 _ (by simp only;omega)
    ·exact hb back 2 _ (by simp only;omega)
   exact this.bind (by omega) fun r1 h1 _=>(zlD _ _ _ _).mono (by omega)
  ·split
   ·refine(zlD _ _ _ _).bind (by omega) fun r1 h1 e=>?_;obtain⟨rfl,hF⟩:=zoC e;have hs:0<size t:=by obtain⟨k,n,s,ks⟩:=t;rw[size];omega
    refine(zqf g _ (by simp only;omega) (fun u hu r' hr'=>?_) (fun u hu r' hr'=>?_)).mono (by simp only;omega)
    ·have:=zvL t 1 u (zkR hu);have:=hmul (F.toNat-r'.n) (F.toNat-r.n) (by simp only at hr';omega);exact zmB hM hM1 g back u r' (by omega)
    ·have:=zvL t 2 u (zkR hu);have:=hmul (F.toNat-r'.n) (F.toNat-r.n) (by simp only at hr';omega);exact zmB hM hM1 g back u r' (by omega)
   ·split
    ·refine(zkz F r).bind (by omega) fun r1 h1 _=>zpa fun x=>?_;refine(zkM r1 _).bind (by omega) fun r2 h2 _=>?_;refine(hb back 1 r2 (by omega)).bind (by omega) fun r3 h3 _=>?_;refine(zkz F r3).bind (by omega) fun r4 h4 _=>zpa fun x=>?_;exact(zkM r4 _).mono (by omega)
    ·split
     ·refine(zkz F r).bind (by omega) fun r1 h1 _=>?_;refine(zkM r1 _).bind (by omega) fun r2 h2 _=>?_;refine(hb back 0 r2 (by omega)).bind (by omega) fun r3 h3 _=>?_;refine(zkz F r3).bind (by omega) fun r4 h4 _=>?_;exact(zkM r4 _).mono (by omega)
     ·split
      ·split
       ·exact Good.err _ _
       ·rename_i i hi;refine(zkz F r).bind (by omega) fun r1 h1 e1=>?_;obtain⟨rfl,hF⟩:=zky e1;refine(zkM _ _).bind (by simp only;omega) fun r2 h2 _=>?_;have hbody:Good r2.n (zkp (zkk prs F g (back != decide (t.k=51))) (blkL (back != decide (t.k=51)) (prs.getD i ⟨⟨#[]⟩,[],nil0⟩).b) { r2 with ent:=r2.ent.set i (r2.ent.getD i 0+1) }):=by
         refine zmb _ _ fun u hu r3 h3=>zmB hM hM1 g _ u r3 ?_;have hu':=zkR hu;by_cases hi:i<prs.length
         ·have hq:prs.getD i ⟨⟨#[]⟩,[],nil0⟩=prs[i]:=by simp[hi]
          rw[hq] at hu';have hl:=zqS hu';have hMq:=hM _ (List.getElem_mem hi);have hsub:F.toNat-r3.n+1<=F.toNat-r.n:=by simp only at h2 h3;omega
          have:=hmul _ _ hsub;rw[Nat.add_mul,Nat.one_mul] at this;omega
         ·have hq:prs.getD i ⟨⟨#[]⟩,[],nil0⟩=⟨⟨#[]⟩,[],nil0⟩:=by
           rw[List.getD_eq_getElem?_getD,List.getElem?_eq_none (by omega)];rfl
          rw[hq] at hu';simp[nil0] at hu'
        refine hbody.bind (by simp only at h2;omega) fun r3 h3 _=>?_;refine(zkz F r3).bind (by simp only at h2;omega) fun r4 h4 _=>?_;exact(zkM r4 _).mono (by simp only at h2;omega)
      ·refine(zkz F r).bind (by omega) fun r1 h1 _=>?_;exact(zkM r1 _).mono (by omega)
def OpS (E:Prop) (Q:ST->ST->Prop) (R R':Int×ST):Prop:=(R.1=0->R'.1=0/\Q R.2 R'.2)/\(E->R.1≠0->R'.1=R.1)
structure SimR (E:Prop) (F:Int) (Rl:Nat->ST->ST->Prop):Prop where
 look:∀ (n:Nat) S S',Rl n S S'->S'.look=S.look
 tick:∀ (n:Nat) S S',Rl n S S'->Rl (n+1) S S'
 do_:∀ (n:Nat) S S' t,(n:Int)<F->Rl n S S'->OpS E (Rl (n+1)) (doE S t) (doE S' t)
 undo:∀ (n:Nat) S S' t,(n:Int)<F->Rl n S S'->OpS E (Rl (n+1)) (zlp S t) (zlp S' t)
 open_:∀ (n:Nat) S S' v x,(n:Int)<F->Rl n S S'->OpS E (Rl (n+1)) (zkv S v x) (zkv S' v x)
 close:∀ (n:Nat) S S' s x,(n:Int)<F->Rl n S S'->OpS E (Rl (n+1)) (zku S s x) (zku S' s x)
 enter:∀ (n:Nat) S S' ps ss,(n:Int)<F->Rl n S S'->OpS E (Rl (n+1)) (zkT S ps ss) (zkT S' ps ss)
 leave:∀ (n:Nat) S S',(n:Int)<F->Rl n S S'->OpS E (Rl (n+1)) (zla S) (zla S')
section
variable {E:Prop} {Rl:Nat->ST->ST->Prop} {F F' k:Int} {o o':Out}
end
theorem ztQ {f:FR}:∀ (l:List (VD×ByteArray)) (acc:FR) (e:Int),entL f acc l=.error e->e≠0
 | [],acc,e,h=>by rw[entL] at h;cases h
 | (v,a)::r,acc,e,h=>by
  rw[entL] at h
  split at h
  ·injection h with h;omega
  ·split at h
   ·exact ztQ r _ _ h
   ·injection h with h;omega
section
variable {S:ST} {l:List Int}
end
structure FrR (ρ:Nat->Nat->Prop) (f g:FR):Prop where
 vs:f.vs=g.vs
 loc:f.loc=g.loc
 len:f.cs.length=g.cs.length
 full:f.cs.length=f.vs.length/\f.loc<=f.vs.length
 cs:∀ (i a b:Nat),f.cs[i]?=some a->g.cs[i]?=some b->ρ a b
structure EqR (ρ:Nat->Nat->Prop) (S S':ST):Prop where
 fn:∀ a b b',ρ a b->ρ a b'->b=b'
 inj:∀ a a' b,ρ a b->ρ a' b->a=a'
 lt:∀ a b,ρ a b->a<S.nc/\b<S'.nc
 cell:∀ a b,ρ a b->S'.cell b=S.cell a
 base:FrR ρ S.base S'.base
 ncalls:S.calls.length=S'.calls.length
 calls:∀ (i:Nat) (f g:FR),S.calls[i]?=some f->S'.calls[i]?=some g->FrR ρ f g
 tin:S'.tin=S.tin
 tout:S'.tout=S.tout
def Eqv (S S':ST):Prop:=∃ ρ,EqR ρ S S'
def OpE (ρ:Nat->Nat->Prop) (R R':Int×ST):Prop:=R'.1=R.1/\(R.1=0->EqR ρ R.2 R'.2)
section
variable {ρ ρ':Nat->Nat->Prop} {f g:FR} {S S' S'':ST} {a b:Nat}
theorem FrR.mono (h:FrR ρ f g) (hr:∀ a b,ρ a b->ρ' a b):FrR ρ' f g:=⟨h.vs,h.loc,h.len,h.full,fun i a b x y=>hr a b (h.cs i a b x y)⟩
theorem FrR.getD (h:FrR ρ f g) {i:Nat} (hi:i<f.vs.length):ρ (f.cs.getD i 0) (g.cs.getD i 0):=by
 have h1:i<f.cs.length:=by rw[h.full.1];exact hi
 have h2:i<g.cs.length:=by rw[<-h.len];exact h1
 refine h.cs i _ _ ?_ ?_
 ·rw[List.getD_eq_getElem?_getD,List.getElem?_eq_getElem h1];rfl
 ·rw[List.getD_eq_getElem?_getD,List.getElem?_eq_getElem h2];rfl
theorem FrR.snoc (h:FrR ρ f g) (v:VD) (hab:ρ a b) (l:Nat) (hl:l<=f.vs.length+1):FrR ρ ⟨f.vs++[v],f.cs++[a],l⟩ ⟨g.vs++[v],g.cs++[b],l⟩:=by
 refine⟨by rw[h.vs],rfl,by simp[h.len],⟨by simp[h.full.1],by simpa using hl⟩,fun i x y hx hy=>?_⟩;simp only at hx hy;rcases Nat.lt_or_ge i f.cs.length with h1|h1
 ·rw[List.getElem?_append_left h1] at hx;rw[List.getElem?_append_left (by rw[<-h.len];exact h1)] at hy;exact h.cs i x y hx hy
 ·rw[List.getElem?_append_right h1] at hx;rw[List.getElem?_append_right (by rw[<-h.len];exact h1)] at hy;rw[<-h.len] at hy
  cases hi:i-f.cs.length with
  | zero =>
   rw[hi] at hx hy;simp only[List.getElem?_cons_zero,Option.some.injEq] at hx hy;subst hx hy;exact hab
  | succ j =>
   rw[hi] at hx;simp at hx
theorem FrR.pop (h:FrR ρ f g):FrR ρ f.pop g.pop:=by
 have h1:=h.full;refine⟨by simp only[FR.pop,h.vs],by simp only[FR.pop,h.loc],by simp only[FR.pop,List.length_take,h.len,h.vs],⟨by simp only[FR.pop,List.length_take,h1.1],by simp only[FR.pop,List.length_take];omega⟩,fun i x y hx hy=>?_⟩;simp only[FR.pop] at hx hy;rw[List.getElem?_take] at hx hy
 split at hx
 ·split at hy
  ·exact h.cs i x y hx hy
  ·cases hy
 ·cases hx
theorem EqR.cur (h:EqR ρ S S'):FrR ρ S.cur S'.cur:=by
 rcases Nat.eq_zero_or_pos S.calls.length with h0|h0
 ·rw[zmj h0,zmj (by rw[<-h.ncalls];exact h0)];exact h.base
 ·have h1:0<S'.calls.length:=by rw[<-h.ncalls];exact h0
  rw[zmC h0,zmC h1];refine h.calls (S.calls.length-1) _ _ (List.getElem?_eq_getElem (by omega)) ?_;rw[List.getElem?_eq_getElem (by have:=h.ncalls;omega)];congr 1;congr 1;rw[h.ncalls]
theorem EqR.num (h:EqR ρ S S') (s:ByteArray):(S.num s=none/\S'.num s=none)\/∃ a b,S.num s=some a/\S'.num s=some b/\ρ a b:=by
 have hc:=h.cur;unfold ST.num FR.at
 rw[<-hc.vs]
 cases hl:zlv S.cur.vs s S.cur.vs.length with
 | none=>exact .inl ⟨rfl,rfl⟩
 | some i =>
  simp only[Option.bind_some];have h1:i<S.cur.cs.length:=by rw[hc.full.1];exact zn9 hl
  have h2:i<S'.cur.cs.length:=by rw[<-hc.len];exact h1
  exact .inr ⟨_,_,List.getElem?_eq_getElem h1,List.getElem?_eq_getElem h2,hc.cs i _ _ (List.getElem?_eq_getElem h1) (List.getElem?_eq_getElem h2)⟩
theorem EqR.look (h:EqR ρ S S'):S'.look=S.look:=by
 funext s;unfold ST.look;rcases h.num s with⟨h1,h2⟩|⟨a,b,h1,h2,h3⟩
 ·rw[h1,h2];rfl
 ·rw[h1,h2];simp[h.cell a b h3]
theorem EqR.el (h:EqR ρ S S') (hab:ρ a b) (i:Nat):S'.el b i=S.el a i:=by unfold ST.el;rw[h.cell a b hab]
theorem EqR.setL (h:EqR ρ S S') (hab:ρ a b) (l:List Int):EqR ρ (S.setL a l) (S'.setL b l) :=
 ⟨h.fn,h.inj,h.lt,fun c d hcd=>by
  simp only[ST.setL];by_cases e:c=a
  ·subst e;rw[if_pos rfl,if_pos (h.fn _ _ _ hcd hab)]
  ·rw[if_neg e,if_neg (fun e'=>e (h.inj _ _ _ hcd (by rw[e'];exact hab)))];exact h.cell c d hcd,h.base,h.ncalls,h.calls,h.tin,h.tout⟩
theorem EqR.put (h:EqR ρ S S') (hab:ρ a b) (i:Nat) (x:Int):EqR ρ (S.put a i x) (S'.put b i x):=by
 unfold ST.put;rw[h.cell a b hab];exact h.setL hab _
theorem EqR.tapes (h:EqR ρ S S') (l m:List Int):EqR ρ { S with tin:=l,tout:=m } { S' with tin:=l,tout:=m } :=
 ⟨h.fn,h.inj,h.lt,h.cell,h.base,h.ncalls,h.calls,rfl,rfl⟩
theorem OpE.bad {e:Int} (h:e≠0):OpE ρ (e,S) (e,S'):=⟨rfl,fun h0=>absurd h0 h⟩
theorem OpE.good (h:EqR ρ S S'):OpE ρ (0,S) (0,S'):=⟨rfl,fun _=>h⟩
theorem zvB (h:EqR ρ S S') (k:Int) (hab:ρ a b) (i:Nat) {s t:Nat} (hst:ρ s t):OpE ρ (zlH S k a i s) (zlH S' k b i t):=by
 unfold zlH;rw[h.cell s t hst,h.el hab]
 split
 ·split
  ·exact OpE.bad (by decide)
  ·exact OpE.good ((h.setL hst _).put hab _ _)
 ·split
  ·exact OpE.bad (by decide)
  ·split
   ·exact OpE.bad (by decide)
   ·rw[h.el hst];exact OpE.good ((h.put hab _ _).setL hst _)
theorem zud (h:EqR ρ S S') (k:Int) (hab:ρ a b) (i:Nat):OpE ρ (zkt S k a i) (zkt S' k b i):=by
 unfold zkt;rw[h.tin,h.tout,h.el hab]
 split
 ·cases S.tin with
  | nil=>exact OpE.bad (by decide)
  | cons y r =>
   dsimp only
   split
   ·exact OpE.bad (by decide)
   ·have:=(h.tapes r S.tout).put hab i y;exact OpE.good this
 ·split
  ·split
   ·exact OpE.bad (by decide)
   ·split
    ·exact OpE.bad (by decide)
    ·have:=(h.tapes S.tin S.tout.dropLast).put hab i (S.tout.getLast?.getD 0);exact OpE.good this
  ·split
   ·split
    ·exact OpE.bad (by decide)
    ·have:=(h.tapes (S.el a i::S.tin) S.tout).put hab i 0;exact OpE.good this
   ·split
    ·exact OpE.bad (by decide)
    ·have:=(h.tapes S.tin (S.tout++[S.el a i])).put hab i 0;exact OpE.good this
theorem zwc (h:EqR ρ S S') (k:Int) (s qs:ByteArray) (r2:Int) (hab:ρ a b) (i:Nat):OpE ρ (zkC S k s qs r2 a i) (zkC S' k s qs r2 b i):=by
 unfold zkC
 split
 ·rw[h.el hab];exact OpE.good (h.put hab _ _)
 ·split
  ·rcases h.num qs with⟨h1,h2⟩|⟨c,d,h1,h2,h3⟩
   ·rw[h1,h2];exact OpE.good h
   ·rw[h1,h2];dsimp only;rw[h.cell c d h3]
    split
    ·refine OpE.good ?_;unfold znF;rw[h.el hab,h.el h3];exact(h.put hab _ _).put h3 _ _
    ·exact OpE.bad (by decide)
  ·split
   ·rcases h.num s with⟨h1,h2⟩|⟨c,d,h1,h2,h3⟩
    ·rw[h1,h2];exact OpE.good h
    ·rw[h1,h2];exact zvB h k hab i h3
   ·exact zud h k hab i
theorem zsS (h:EqR ρ S S') (t:T):OpE ρ (doE S t) (doE S' t):=by
 unfold doE;rw[<-h.cur.vs]
 split
 ·exact OpE.bad (by decide)
 split
 ·exact OpE.bad (by decide)
 split
 ·exact OpE.bad (by decide)
 split
 ·rename_i hf;exact OpE.bad hf
 obtain⟨k,n,s,ks⟩:=t
 show OpE ρ (zlk S k s (ks.getD 0 nil0) (ks.getD 1 nil0) (indE S.look (ks.getD 0 nil0)) (zk6 S k (ks.getD 1 nil0))) (zlk S' k s (ks.getD 0 nil0) (ks.getD 1 nil0) (indE S'.look (ks.getD 0 nil0)) (zk6 S' k (ks.getD 1 nil0)))
 have er:zk6 S' k (ks.getD 1 nil0)=zk6 S k (ks.getD 1 nil0):=by unfold zk6;rw[h.look]
 rw[er,h.look];unfold zlk
 split
 ·rename_i h1;exact OpE.bad h1
 ·unfold zmO
  split
  ·rename_i h1;exact OpE.bad h1
  ·rcases h.num (ks.getD 0 nil0).s with⟨h1,h2⟩|⟨c,d,h1,h2,h3⟩
   ·rw[h1,h2];exact OpE.good h
   ·rw[h1,h2];dsimp only;rw[h.cell c d h3]
    split
    ·exact zwc h _ _ _ _ h3 _
    ·exact OpE.bad (by decide)
theorem zrn (h:EqR ρ S S') (t:T):OpE ρ (zlp S t) (zlp S' t):=by
 obtain⟨k,n,s,ks⟩:=t;exact zsS h _
theorem EqR.setCur (h:EqR ρ S S') {f g:FR} (hf:FrR ρ f g):EqR ρ (S.setCur f) (S'.setCur g):=by
 unfold ST.setCur;by_cases h0:S.calls.length=0
 ·rw[if_pos h0,if_pos (by rw[<-h.ncalls];exact h0)];exact⟨h.fn,h.inj,h.lt,h.cell,hf,h.ncalls,h.calls,h.tin,h.tout⟩
 ·rw[if_neg h0,if_neg (by rw[<-h.ncalls];exact h0)];refine⟨h.fn,h.inj,h.lt,h.cell,h.base,by simpa using h.ncalls,fun i x y hx hy=>?_,h.tin,h.tout⟩;simp only at hx hy;rw[<-h.ncalls] at hy;by_cases e:S.calls.length-1=i
  ·subst e;rw[List.getElem?_set_self (by omega)] at hx;rw[List.getElem?_set_self (by have:=h.ncalls;omega)] at hy;injection hx with hx;injection hy with hy;subst hx hy;exact hf
  ·rw[List.getElem?_set_ne e] at hx hy;exact h.calls i x y hx hy
theorem EqR.newCell (h:EqR ρ S S') (l:List Int):EqR (fun a b=>ρ a b\/(a=S.nc/\b=S'.nc)) (S.newCell l) (S'.newCell l):=by
 have hm:∀ a b,ρ a b->ρ a b\/(a=S.nc/\b=S'.nc):=fun _ _=>.inl;refine⟨fun a b b' h1 h2=>?_,fun a a' b h1 h2=>?_,fun a b h1=>?_,fun a b h1=>?_,h.base.mono hm,h.ncalls,fun i x y hx hy=>(h.calls i x y hx hy).mono hm,h.tin,h.tout⟩
 ·rcases h1 with h1|⟨h1,h1'⟩<;>rcases h2 with h2|⟨h2,h2'⟩
  ·exact h.fn _ _ _ h1 h2
  ·have:=(h.lt _ _ h1).1;omega
  ·have:=(h.lt _ _ h2).1;omega
  ·omega
 ·rcases h1 with h1|⟨h1,h1'⟩<;>rcases h2 with h2|⟨h2,h2'⟩
  ·exact h.inj _ _ _ h1 h2
  ·have:=(h.lt _ _ h1).2;omega
  ·have:=(h.lt _ _ h2).2;omega
  ·omega
 ·simp only[ST.newCell];rcases h1 with h1|⟨h1,h1'⟩
  ·have:=h.lt _ _ h1;omega
  ·omega
 ·simp only[ST.newCell];rcases h1 with h1|⟨rfl,rfl⟩
  ·have:=h.lt _ _ h1;rw[if_neg (by omega),if_neg (by omega)];exact h.cell _ _ h1
  ·simp
theorem zpp (h:EqR ρ S S') (v:VD) (x:Int):∃ ρ',OpE ρ' (zkv S v x) (zkv S' v x):=by
 unfold zkv FR.at
 rw[<-h.cur.vs]
 split
 ·exact⟨ρ,OpE.bad (by decide)⟩
 ·split
  ·exact⟨ρ,OpE.bad (by decide)⟩
  ·refine⟨_,OpE.good ((h.newCell (if v.k=1 then [x] else [])).setCur ?_)⟩;unfold FR.push;rw[<-h.cur.loc];exact(h.cur.mono fun _ _=>.inl).snoc v (.inr ⟨rfl,rfl⟩) _ (by have:=h.cur.full;omega)
theorem zoB (h:EqR ρ S S') (s:ByteArray) (x:Int):OpE ρ (zku S s x) (zku S' s x):=by
 have hc:=h.cur;have e1:znO S'.cur=znO S.cur:=by unfold znO;rw[hc.vs]
 unfold zku;rw[e1,<-hc.loc]
 split
 ·exact OpE.bad (by decide)
 ·rename_i h1;have h2:S'.cell (zpv S'.cur)=S.cell (zpv S.cur):=by
   refine h.cell _ _ ?_;unfold zpv;rw[<-hc.vs];exact hc.getD (by have:=hc.full;omega)
  rw[h2]
  split
  ·exact OpE.bad (by decide)
  ·exact OpE.good (h.setCur hc.pop)
theorem ztR {f g:FR} (h:FrR ρ f g):∀ (l:List (VD×ByteArray)) (x y:FR),FrR ρ x y->x.loc=0->(∃ e,e≠0/\entL f x l=.error e/\entL g y l=.error e)\/∃ x' y',entL f x l=.ok x'/\entL g y l=.ok y'/\FrR ρ x' y'
 | [],x,y,hxy,h0=>.inr ⟨x,y,rfl,rfl,hxy⟩
 | (v,a)::r,x,y,hxy,h0=>by
  rw[entL,entL];unfold FR.at
  rw[<-h.vs]
  cases hl:zlv f.vs a f.vs.length with
  | none=>exact .inl ⟨6,by decide,rfl,rfl⟩
  | some i =>
   dsimp only
   split
   ·exact ztR h r _ _ (hxy.snoc v (h.getD (zn9 hl)) 0 (Nat.zero_le _)) rfl
   ·exact .inl ⟨7,by decide,rfl,rfl⟩
theorem zqA (h:EqR ρ S S') (ps:List VD) (ss:List ByteArray):OpE ρ (zkT S ps ss) (zkT S' ps ss):=by
 unfold zkT
 split
 ·exact OpE.bad (by decide)
 ·rcases ztR h.cur (ps.zip ss) ⟨[],[],0⟩ ⟨[],[],0⟩ ⟨rfl,rfl,rfl,⟨rfl,Nat.le_refl _⟩,fun i a b hx=>by simp at hx⟩ rfl with⟨e,h0,h1,h2⟩|⟨x,y,h1,h2,h3⟩
  ·rw[h1,h2];exact OpE.bad h0
  ·rw[h1,h2];unfold entR;dsimp only;rw[<-h.ncalls]
   split
   ·exact OpE.bad (by decide)
   ·refine OpE.good ⟨h.fn,h.inj,h.lt,h.cell,h.base,by simp[h.ncalls],fun i p q hp hq=>?_,h.tin,h.tout⟩;simp only at hp hq;rcases Nat.lt_or_ge i S.calls.length with hi|hi
    ·rw[List.getElem?_append_left hi] at hp;rw[List.getElem?_append_left (by rw[<-h.ncalls];exact hi)] at hq;exact h.calls i p q hp hq
    ·rw[List.getElem?_append_right hi] at hp;rw[List.getElem?_append_right (by rw[<-h.ncalls];exact hi),<-h.ncalls] at hq
     cases hj:i-S.calls.length with
     | zero =>
      rw[hj] at hp hq;simp only[List.getElem?_cons_zero,Option.some.injEq] at hp hq;subst hp hq;exact h3
     | succ j =>
      rw[hj] at hp;simp at hp
theorem zqi (h:EqR ρ S S'):OpE ρ (zla S) (zla S'):=by
 unfold zla;rw[<-h.cur.loc,<-h.ncalls]
 split
 ·exact OpE.bad (by decide)
 ·refine OpE.good ⟨h.fn,h.inj,h.lt,h.cell,h.base,by simp[h.ncalls],fun i p q hp hq=>?_,h.tin,h.tout⟩;simp only at hp hq;rw[List.getElem?_take] at hp hq
  split at hp
  ·rename_i h1;rw[if_pos h1] at hq;exact h.calls i p q hp hq
  ·cases hp
theorem OpE.op {R R':Int×ST} (h:OpE ρ R R'):OpS True Eqv R R':=⟨fun h0=>⟨by rw[h.1];exact h0,ρ,h.2 h0⟩,fun _ _=>h.1⟩
end
theorem znR (F:Int):SimR True F (fun _=>Eqv) where
 look:=fun n S S' ⟨ρ,h⟩=>h.look
 tick:=fun n S S' h=>h
 do_:=fun n S S' t _ ⟨ρ,h⟩=>(zsS h t).op
 undo:=fun n S S' t _ ⟨ρ,h⟩=>(zrn h t).op
 open_:=fun n S S' v x _ ⟨ρ,h⟩=>by obtain⟨ρ',h'⟩:=zpp h v x;exact h'.op
 close:=fun n S S' s x _ ⟨ρ,h⟩=>(zoB h s x).op
 enter:=fun n S S' ps ss _ ⟨ρ,h⟩=>(zqA h ps ss).op
 leave:=fun n S S' _ ⟨ρ,h⟩=>(zqi h).op
theorem Eqv.refl {S:ST} (h:S.WF):Eqv S S:=by
 obtain⟨kd,h1,h2,-⟩:=h.ex;have key:∀ f:FR,f.WF kd S.nc->FrR (fun a b=>a=b/\a<S.nc) f f:=fun f hf=>⟨rfl,rfl,rfl,⟨hf.len,hf.loc⟩,fun i a b ha hb=>by
  rw[ha] at hb;injection hb with hb;exact⟨hb,hf.num a (List.mem_of_getElem? ha)⟩⟩
 exact⟨fun a b=>a=b/\a<S.nc,by rintro a b b' ⟨rfl,_⟩ ⟨rfl,_⟩;rfl,by rintro a a' b ⟨rfl,_⟩ ⟨rfl,_⟩;rfl,by rintro a b ⟨rfl,h⟩;exact⟨h,h⟩,by rintro a b ⟨rfl,_⟩;rfl,key _ h1,rfl,fun i f g hf hg=>by
  rw[hf] at hg;injection hg with hg;subst hg;exact key f (h2 f (List.mem_of_getElem? hf)),rfl,rfl⟩
theorem FrR.symm {ρ:Nat->Nat->Prop} {f g:FR} (h:FrR ρ f g):FrR (fun a b=>ρ b a) g f:=⟨h.vs.symm,h.loc.symm,h.len.symm,by rw[<-h.vs,<-h.len,<-h.loc];exact h.full,fun i a b ha hb=>h.cs i b a hb ha⟩
theorem Eqv.symm {S S':ST} (h:Eqv S S'):Eqv S' S:=by
 obtain⟨ρ,h⟩:=h;exact⟨fun a b=>ρ b a,fun a b b' h1 h2=>h.inj _ _ _ h1 h2,fun a a' b h1 h2=>h.fn _ _ _ h1 h2,fun a b h1=>(h.lt _ _ h1).symm,fun a b h1=>(h.cell _ _ h1).symm,h.base.symm,h.ncalls.symm,fun i f g hf hg=>(h.calls i g f hg hf).symm,h.tin.symm,h.tout.symm⟩
theorem FrR.trans {ρ ρ':Nat->Nat->Prop} {f g k:FR} (h:FrR ρ f g) (h':FrR ρ' g k):FrR (fun a c=>∃ b,ρ a b/\ρ' b c) f k :=
 ⟨h.vs.trans h'.vs,h.loc.trans h'.loc,h.len.trans h'.len,h.full,fun i a c ha hc=>by
  have hi:i<g.cs.length:=by rw[<-h.len];exact(List.getElem?_eq_some_iff.1 ha).1
  exact⟨_,h.cs i a _ ha (List.getElem?_eq_getElem hi),h'.cs i _ c (List.getElem?_eq_getElem hi) hc⟩⟩
theorem Eqv.trans {S S' S'':ST} (h:Eqv S S') (h':Eqv S' S''):Eqv S S'':=by
 obtain⟨ρ,h⟩:=h;obtain⟨ρ',h'⟩:=h';refine⟨fun a c=>∃ b,ρ a b/\ρ' b c,?_,?_,?_,?_,h.base.trans h'.base,h.ncalls.trans h'.ncalls,fun i f k hf hk=>?_,h'.tin.trans h.tin,h'.tout.trans h.tout⟩
 ·rintro a c c' ⟨b,h1,h2⟩ ⟨b',h3,h4⟩;have:=h.fn _ _ _ h1 h3;subst this;exact h'.fn _ _ _ h2 h4
 ·rintro a a' c ⟨b,h1,h2⟩ ⟨b',h3,h4⟩;have:=h'.inj _ _ _ h2 h4;subst this;exact h.inj _ _ _ h1 h3
 ·rintro a c ⟨b,h1,h2⟩;exact⟨(h.lt _ _ h1).1,(h'.lt _ _ h2).2⟩
 ·rintro a c ⟨b,h1,h2⟩;exact(h'.cell _ _ h2).trans (h.cell _ _ h1)
 ·have hi:i<S'.calls.length:=by rw[<-h.ncalls];exact(List.getElem?_eq_some_iff.1 hf).1
  exact(h.calls i f _ hf (List.getElem?_eq_getElem hi)).trans (h'.calls i _ k (List.getElem?_eq_getElem hi) hk)
theorem FrR.map {ρ:Nat->Nat->Prop} {S S':ST} (h:EqR ρ S S') (n:Nat):(S'.base.cs.take n).map S'.cell=(S.base.cs.take n).map S.cell:=by
 refine List.ext_getElem? fun i=>?_;rw[List.getElem?_map,List.getElem?_map,List.getElem?_take,List.getElem?_take]
 split
 ·rcases Nat.lt_or_ge i S.base.cs.length with hi|hi
  ·have hi':i<S'.base.cs.length:=by rw[<-h.base.len];exact hi
   rw[List.getElem?_eq_getElem hi,List.getElem?_eq_getElem hi'];simp only[Option.map_some,Option.some.injEq];exact h.cell _ _ (h.base.cs i _ _ (List.getElem?_eq_getElem hi) (List.getElem?_eq_getElem hi'))
  ·rw[List.getElem?_eq_none hi,List.getElem?_eq_none (by rw[<-h.base.len];exact hi)];rfl
 ·rfl
theorem Eqv.state {S S':ST} (h:Eqv S S'):S'.state=S.state:=by
 obtain⟨ρ,h⟩:=h;unfold ST.state;rw[h.tin,h.tout,<-h.base.len,<-h.base.loc,FrR.map h]
abbrev zl2 (x:Int):Ending:=.panicked [{ v:=.iface 210 (.agg #[.int .i64 x]),recovered:=false }]
theorem zrf (x:Int) (hx:x≠0) (w:World):Calls Tryz.prog 212 #[.int .i64 x] w fun e w'=>e=zl2 x/\w'=w:=by
 have e1:(x==0)=false:=by simpa using hx
 have hb:∀ w,(Instr.build 210 #[(0,.int .i64 x)]).run Tryz.prog w=.ok (.agg #[.int .i64 x]) w:=fun w=>by kernel_rfl
 go_enter Tryz.func212,Tryz.ntmps212;go_wp2_with fail;exact⟨rfl,rfl,rfl⟩
theorem zqQ {W W':World} {base:Nat} {E:TypeId} {size:Nat} {v:Value} {n:Nat} {xs:List Value} (h:W.ownsRow base E size v n xs) (hk:∀ b,v.ownBlock=some b->W'.heap[b]?=W.heap[b]?):W'.ownsRow base E size v n xs:=by
 obtain⟨e1,h2⟩:=h;refine⟨e1,?_⟩;rcases h2 with h2|⟨g,cap,cur,rfl,hb,hg,rest⟩
 ·exact .inl h2
 ·exact .inr ⟨g,cap,cur,rfl,hb,(hk g rfl).trans hg,rest⟩
structure RC where
 w:World
 n0:Nat
 sb:Nat
 rb:Nat
 p:PG
 A1:Option Addr
 c1:Nat
 A2:Option Addr
 c2:Nat
 A3:Option Addr
 c3:Nat
 F:Int
 ev:Value
 kb:Nat->Prop
structure RC.Ok (C:RC):Prop where
 pg:PgR C.w Any C.p C.A1 C.c1 C.A2 C.c2 C.A3 C.c3
 F:I64 C.F
 F6:C.F<=1000000
 rb:C.n0<=C.rb/\¬ C.kb C.rb
 ev:C.ev.ownBlock≠some C.rb/\∀ b,C.ev.ownBlock=some b->¬ C.kb b
 ps:∀ q∈C.p.prs,q.ps.length<=1000
def RC.cells (C:RC) (n:Nat):Array Value := #[.slice C.A1 C.p.vs.length C.c1,.slice C.A2 C.p.prs.length C.c2,.int .u8 C.p.m.k,.int .i64 C.p.m.n,.string C.p.m.s,.slice C.A3 C.p.m.ks.length C.c3,.pointer (some ⟨C.sb,0,none⟩),.int .i64 n,.int .i64 C.F,C.ev]
def FB (j:Nat) (S:ST):Prop:=S.base.vs.length<=1000+j/\∀ f∈S.calls,f.vs.length<=1000+j
structure RI (C:RC) (W:World) (r:RS):Prop where
 ks:KS C.w C.n0 C.sb (fun b=>C.kb b\/b=C.rb\/C.ev.ownBlock=some b) W r.S
 box:W.heap[C.rb]?=some (.cells (C.cells r.n) 174 (0,0))
 ent:W.ownsRow C.n0 3 1 C.ev r.ent.length (zkj (r.ent.map Int.ofNat))
 el:r.ent.length=C.p.prs.length
 en:∀ c∈r.ent,c<=r.n
 n:(r.n:Int)<=1000000
 fb:FB r.n r.S
section
variable {C:RC} {W W' W'':World} {r r':RS}
theorem RI.below (h:RI C W r):Below C.w.heap.size C.w W:=h.ks.bl
theorem RI.later (h:RI C W r) (hb:Below W.heap.size W W'):RI C W' r:=⟨h.ks.later hb,zkd h.box hb,zk7 h.ent hb,h.el,h.en,h.n,h.fb⟩
def RunP (C:RC) (W:World) (o:Out) (e:Ending) (W':World):Prop :=
 Kpt C.n0 C.kb W W'/\Below C.w.heap.size C.w W'/\match o with
 | .gas=>True
 | .err x=>e=zl2 x
 | .ok r=>(∃ u,e=.returned u)/\RI C W' r
theorem RI.cells (h:RI C W r):W.cell? ⟨C.rb,6,none⟩=some (.pointer (some ⟨C.sb,0,none⟩))/\W.cell? ⟨C.rb,7,none⟩=some (.int .i64 r.n)/\W.cell? ⟨C.rb,8,none⟩=some (.int .i64 C.F)/\W.cell? ⟨C.rb,9,none⟩=some C.ev/\∀ o,W.frozen? ⟨C.rb,o,none⟩=false :=
 ⟨zc h.box rfl,zc h.box rfl,zc h.box rfl,zc h.box rfl,fun _=>zf h.box⟩
theorem FB.mono {j k:Nat} {S:ST} (h:FB j S) (hk:j<=k):FB k S:=⟨by have:=h.1;omega,fun f hf=>by have:=h.2 f hf;omega⟩
theorem Kpt.chg {n0:Nat} {kb Cc:Nat->Prop} (h:Chg Cc W W') (hC:∀ b,Cc b->n0<=b/\¬ kb b):Kpt n0 kb W W' :=
 ⟨h.size,fun b hb hk=>h.block b hb fun hc=>by rcases hk with hk|hk;have:=(hC b hc).1;omega;exact(hC b hc).2 hk⟩
theorem RI.tick (hC:C.Ok) (h:RI C W r) (hF:(r.n:Int)<C.F):RI C (W.setCell ⟨C.rb,7,none⟩ (.int .i64 ((r.n:Int)+1))) { r with n:=r.n+1 }/\Kpt C.n0 C.kb W (W.setCell ⟨C.rb,7,none⟩ (.int .i64 ((r.n:Int)+1))):=by
 have hch:Chg (fun b=>b=C.rb) W (W.setCell ⟨C.rb,7,none⟩ (.int .i64 ((r.n:Int)+1))):=(Chg.refl (fun b=>b=C.rb) W).setCell (p:=⟨C.rb,7,none⟩) (.inl rfl) _;have hn:=h.ks.hn;refine⟨⟨h.ks.chg hch fun b _ e=>⟨by have:=hC.rb.1;omega,.inr (.inr (.inl e))⟩,?_,zqQ h.ent fun b hb=>?_,h.el,fun c hc=>by have:=h.en c hc;simp only;omega,by have:=hC.F6;simp only;omega,h.fb.mono (Nat.le_succ _)⟩,Kpt.chg hch fun b e=>⟨by have:=hC.rb.1;omega,by rw[e];exact hC.rb.2⟩⟩
 ·have:=heap_setCell_same W C.rb 7 _ _ (.int .i64 ((r.n:Int)+1)) h.box;rw[this];simp[RC.cells]
 ·have hne:b≠C.rb:=fun e=>hC.ev.1 (by rw[hb,e]);have hlt:=(h.ent.lt b hb).2;exact hch.block b hlt hne
end
theorem zmn {C:RC} (hC:C.Ok) {W:World} {r:RS} (h:RI C W r):Calls Tryz.prog 196 #[.pointer (some ⟨C.rb,0,none⟩)] W (RunP C W (zkw C.F r)):=by
 obtain⟨-,y7,y8,-,yf⟩:=h.cells;have kr:=h.n;obtain⟨rb,hrb⟩:∃ b,C.rb=b:=⟨_,rfl⟩
 obtain⟨F,hF⟩:∃ b,C.F=b:=⟨_,rfl⟩
 obtain⟨n,hn⟩:∃ b,r.n=b:=⟨_,rfl⟩
 have HS:=zh (show(fun w':World=>w'.cell? ⟨rb,7,none⟩=some (.int .i64 n)/\w'.cell? ⟨rb,8,none⟩=some (.int .i64 F)) W.drew from ⟨by rw[<-hrb,<-hn];exact y7,by rw[<-hrb,<-hF];exact y8⟩);have hd:Below W.heap.size W W.drew:=(Below.refl _ _).drew;have HK:=zh (show Kpt C.n0 C.kb W W.drew/\Below C.w.heap.size C.w W.drew from ⟨Kpt.of_below hd,zka h.below hd⟩);have HT:=zh (fun hlt=>RI.tick hC h hlt);have iV:=zh h.below;have yf':∀ o,W.drew.frozen? ⟨rb,o,none⟩=false:=by rw[<-hrb];exact yf
 rw[hrb] at HT;rw[hn] at HT kr;rw[hF] at HT;by_cases hlt:F<=(n:Int)
 ·have HO:=zh (show zkw C.F r=.err 18 by unfold zkw;rw[if_pos (by rw[hF,hn];exact hlt)]);rw[hrb];clear h y7 y8 yf hrb hF hn HT;go_enter Tryz.func196,Tryz.ntmps196;go_upto_region 0 with fail
  go_region_held3 (fun w':World=>w'.cell? ⟨rb,7,none⟩=some (.int .i64 n)/\w'.cell? ⟨rb,8,none⟩=some (.int .i64 F))
   (with_reducible exact HS.out)
   (first|fail)
  go_wp2_with fail;refine(zrf 18 (by decide) _).mono ?_;rintro e w1 ⟨rfl,rfl⟩;refine⟨rfl,?_⟩;rw[HO.out];exact⟨HK.out.1,HK.out.2,rfl⟩
 ·have hw1:IntKind.i64.wrap ((n:Int)+1)=(n:Int)+1:=IntWalk.i64_in _ (by omega);have HO:=zh (show zkw C.F r=.ok { r with n:=n+1 } by unfold zkw;rw[if_neg (by rw[hF,hn];exact hlt),hn]);have HT2:=zh (HT.out (by omega));rw[hrb];have hlt':¬ F<=(n:Int):=hlt;clear h y7 y8 yf hrb hF hn HT;go_enter Tryz.func196,Tryz.ntmps196;go_upto_region 0 with fail
  go_region_held3 (fun w':World=>w'.cell? ⟨rb,7,none⟩=some (.int .i64 n)/\w'.cell? ⟨rb,8,none⟩=some (.int .i64 F))
   (with_reducible exact HS.out)
   (first|fail)
  obtain⟨z7,z8⟩:=HS.out;go_wp2_with fail;go_end0;rw[HO.out];have hd2:∀ W:World,Below W.heap.size W W.drew:=fun W=>(Below.refl _ _).drew;exact⟨HT2.out.2.trans (Kpt.of_below (hd2 _)),(HT2.out.1.later (hd2 _)).below,⟨_,rfl⟩,HT2.out.1.later (hd2 _)⟩
theorem zlr (p:Addr) (x:Int) (w:World):Calls Tryz.prog 197 #[.pointer (some p),.int .i64 x] w fun e w'=>w'=w/\((x=0/\∃ u,e=.returned u)\/(x≠0/\e=zl2 x)):=by
 by_cases hx:x=0
 ·subst hx;go_enter Tryz.func197,Tryz.ntmps197;go_wp2_with fail;go_end0;exact⟨rfl,.inl ⟨trivial,_,rfl⟩⟩
 ·have e1:(x != 0)=true:=by simpa using hx
  go_enter Tryz.func197,Tryz.ntmps197;go_wp2_with fail;refine(zrf x hx _).mono ?_;rintro e w1 ⟨rfl,rfl⟩;exact⟨rfl,rfl,.inr ⟨hx,rfl⟩⟩
theorem zx6:IsFn Tryz.prog 184 Tryz.f184:=⟨Tryz.func184,by kernel_rfl,by kernel_rfl⟩
theorem zK5 (w:World) (n0 sb:Nat) (kb:Nat->Prop) (S:ST) (hw:S.WF):zs6 184 Tryz.f184 (.pointer (some ⟨sb,0,none⟩)) (fun W=>KS w n0 sb kb W S) S.look where
 isFn:=zx6
 later:=fun _ _ h hb=>h.later hb
 fits:=(zvD 0 ⟨0,0,undef,undef,undef,undef,undef,fun _=>undef,fun _=>undef,fun _=>0,fun _=>undef⟩ S hw).fits
 call:=fun s W h=>by
  refine(h.cell s).mono ?_;rintro e W' ⟨v,l,b,rfl,hlk,hl0,ho,hf,hb⟩;refine⟨hb,?_⟩
  cases b
  ·obtain rfl:=hl0 rfl;obtain⟨A,c,rfl,-⟩:=zkm ho;exact .inl ⟨by simpa using hlk,A,c,rfl⟩
  ·obtain⟨A,c,rfl,-,hr⟩:=zsv ho hf;exact .inr ⟨l,A,c,by simpa using hlk,rfl,hr⟩
theorem zyM {f:FuncId} {fn:Func} {rv:Value} {Rd:World->Prop} {look:ByteArray->Option (List Int)} (hL:zs6 f fn rv Rd look) (t:T) (v:Value) (w:World) (hv:NV w Any t v) (hR:Rd w) :
  Calls Tryz.prog 207 #[v,.func (.func f) #[rv] #[]] w fun e w'=>e=.returned (.tuple #[.bool (decide ((zkH look t).1≠0)),.int .i64 (zkH look t).2])/\Below w.heap.size w w':=by
 have HV:=zh hv;obtain⟨A,c,rfl,-⟩:=hv.open_;have oJ:=zh (fun w' (hb:Below w.heap.size w w')=>zrg hL t _ w' (hv.later hb) (hL.later _ _ hR hb));obtain⟨⟨x,y⟩,hx⟩:∃ x,zkH look t=x:=⟨_,rfl⟩
 rw[hx] at oJ ⊢;dsimp only[NumE] at oJ ⊢;clear hv hR hx;go_enter Tryz.func207,Tryz.ntmps207;have hb0:=zkb (Below.refl w.heap.size w) (.cells #[.int .u8 t.k,.int .i64 t.n,.string t.s,.slice A t.ks.length c] 29);have HB0:=zh hb0;obtain⟨x0,x1,x2,x3⟩:=box4 (heap_alloc_new w (.cells #[.int .u8 t.k,.int .i64 t.n,.string t.s,.slice A t.ks.length c] 29));clear hb0;go_wp2_with fail;refine(oJ.out _ HB0.out).mono ?_;rintro e w1 ⟨rfl,aa⟩;have HB1:=zh (zka HB0.out aa);clear aa x0 x1 x2 x3;by_cases h0:x=0
 ·subst h0;go_wp2_with fail;go_ret2;exact⟨by simp,HB1.out⟩
 ·have e1:(x != 0)=true:=by simpa using h0
  go_wp2_with fail;go_ret2;exact⟨by simp[h0],HB1.out⟩
def RC.plus (C:RC) (lo hi:Nat):RC:={ C with kb:=fun b=>C.kb b\/(lo<=b/\b<hi) }
section
variable {C:RC} {W W' W'':World} {r r':RS} {lo hi:Nat}
theorem RI.rlt (h:RI C W r):C.rb<W.heap.size:=zki h.box
theorem RI.plus (hC:C.Ok) (h:RI C W r) (hb:Below W.heap.size W W'):(C.plus W.heap.size W'.heap.size).Ok/\RI (C.plus W.heap.size W'.heap.size) W' r:=by
 have h1:=h.rlt;refine⟨⟨hC.pg,hC.F,hC.F6,⟨hC.rb.1,fun hk=>?_⟩,⟨hC.ev.1,fun b hb' hk=>?_⟩,hC.ps⟩,⟨h.ks.also hb fun b hk=>?_,zkd h.box hb,zk7 h.ent hb,h.el,h.en,h.n,h.fb⟩⟩
 ·rcases hk with hk|hk
  ·exact hC.rb.2 hk
  ·have:W.heap.size<=C.rb:=hk.1;omega
 ·rcases hk with hk|hk
  ·exact hC.ev.2 b hb' hk
  ·have:=(h.ent.lt b hb').2;have:=hk.1;omega
 ·rcases hk with(hk|hk)|hk|hk
  ·exact .inl (.inl hk)
  ·exact .inr hk
  ·exact .inl (.inr (.inl hk))
  ·exact .inl (.inr (.inr hk))
theorem RI.less (h:RI (C.plus lo hi) W r):RI C W r :=
 ⟨h.ks.less fun b hk=>hk.elim (fun hk=>.inl (.inl hk)) .inr,h.box,h.ent,h.el,h.en,h.n,h.fb⟩
theorem Kpt.less (h:Kpt C.n0 (C.plus lo hi).kb W W'):Kpt C.n0 C.kb W W':=⟨h.size,fun b hb hk=>h.kept b hb (hk.imp id .inl)⟩
theorem Kpt.plus {b o:Nat} {u:Value} (h:Kpt C.n0 (C.plus lo hi).kb W W') (hb:lo<=b/\b<hi) (hc:W.cell? ⟨b,o,none⟩=some u):W'.cell? ⟨b,o,none⟩=some u:=h.cell (.inr (.inr hb)) hc
end
def zLK (C:RC) (W:World) (t:T) (r:RS) (e:Ending) (W':World):Prop :=
 Kpt C.n0 C.kb W W'/\Below C.w.heap.size C.w W'/\((∃ x,e=zl2 x/\∀ f,zk0 C.F t r f=.err x)\/∃ b r',e=.returned (.bool b)/\RI C W' r'/\∀ f,zk0 C.F t r f=f b r')
theorem zpA {C:RC} (hC:C.Ok) {W:World} {r:RS} (h:RI C W r) (t:T) (v:Value) (hv:NV C.w Any t v):Calls Tryz.prog 209 #[.pointer (some ⟨C.rb,0,none⟩),v] W (zLK C W t r):=by
 have HV:=zh hv;obtain⟨A,c,rfl,-⟩:=hv.open_;have uO:∀ (fn:Fn) (first cap:Array Value) (w:World),(Instr.makeFunc fn first cap).run Tryz.prog w=.ok (.func fn first cap) w:=fun _ _ _ _=>rfl;have hb0:=zkb (Below.refl W.heap.size W) (.cells #[.int .u8 t.k,.int .i64 t.n,.string t.s,.slice A t.ks.length c] 29);obtain⟨bC,h1⟩:=h.plus hC hb0;have hz1:(W.alloc (.cells #[.int .u8 t.k,.int .i64 t.n,.string t.s,.slice A t.ks.length c] 29)).heap.size=W.heap.size+1:=by simp
 have hbx:=box4 (heap_alloc_new W (.cells #[.int .u8 t.k,.int .i64 t.n,.string t.s,.slice A t.ks.length c] 29));have aM:=zh (Kpt.of_below (n0:=C.n0) (kb:=C.kb) hb0);obtain⟨W1,hW1⟩:∃ x,W.alloc (.cells #[.int .u8 t.k,.int .i64 t.n,.string t.s,.slice A t.ks.length c] 29)=x:=⟨_,rfl⟩
 rw[hW1] at bC h1 hz1 hbx aM;have nO:=zh bC;have H1:=zh h1;have HST:=zh (zmn bC h1);obtain⟨hi,hhi⟩:∃ x,W1.heap.size=x:=⟨_,rfl⟩
 rw[hhi] at nO H1 HST hz1;have aO:=zh hbx;have HZ1:=zh (show W.heap.size<hi by omega);clear hv bC h1 hbx hb0 h hhi hz1;go_enter Tryz.func209,Tryz.ntmps209;go_wp2_with fail;refine HST.out.mono ?_;rintro e w1 ⟨hk1,hbl1,ho1⟩;have aD:=zh (aM.out.trans (Kpt.less (C:=C) hk1));have HB1:=zh hbl1
 cases hs:zkw C.F r with
 | gas=>exact absurd hs (zkz _ _).1
 | err x =>
  rw[show zkw (C.plus W.heap.size hi).F r=zkw C.F r from rfl,hs] at ho1;subst ho1;exact⟨rfl,aD.out,HB1.out,.inl ⟨x,rfl,fun f=>by unfold zk0;rw[hs];rfl⟩⟩
 | ok r1 =>
  rw[show zkw (C.plus W.heap.size hi).F r=zkw C.F r from rfl,hs] at ho1;obtain⟨⟨u,rfl⟩,hr1⟩:=ho1;have x0:=Kpt.plus (C:=C) hk1 (b:=W.heap.size) ⟨Nat.le_refl _,HZ1.out⟩ aO.out.1;have x1:=Kpt.plus (C:=C) hk1 (b:=W.heap.size) ⟨Nat.le_refl _,HZ1.out⟩ aO.out.2.1;have x2:=Kpt.plus (C:=C) hk1 (b:=W.heap.size) ⟨Nat.le_refl _,HZ1.out⟩ aO.out.2.2.1;have x3:=Kpt.plus (C:=C) hk1 (b:=W.heap.size) ⟨Nat.le_refl _,HZ1.out⟩ aO.out.2.2.2;have HS:=zh hs;have HR1:=zh hr1.less;obtain⟨y6,-⟩:=hr1.cells;have y6':w1.cell? ⟨C.rb,6,none⟩=some (.pointer (some ⟨C.sb,0,none⟩)):=y6;have qz:=zh (fun w' (hb:Below w1.heap.size w1 w')=>zyM (zK5 C.w C.n0 C.sb _ r1.S HR1.out.ks.wf) t _ w' (HV.out.later (zka HR1.out.below hb)) (HR1.out.ks.later hb));obtain⟨⟨x,y⟩,hx⟩:∃ x,zkH r1.S.look t=x:=⟨_,rfl⟩
  rw[hx] at qz;dsimp only at qz;obtain⟨bb,hbb⟩:∃ b,decide (x≠0)=b:=⟨_,rfl⟩
  rw[hbb] at qz;have jR:=zh hx;have HBBB:=zh hbb;clear hbb hk1 hbl1 hs hr1 y6 hx HST aO;have aP:=zh (show ∀ w',Below w1.heap.size w1 w'->(fun w':World=>w'.cell? ⟨W.heap.size,0,none⟩=some (.int .u8 t.k)/\w'.cell? ⟨W.heap.size,1,none⟩=some (.int .i64 t.n)/\w'.cell? ⟨W.heap.size,2,none⟩=some (.string t.s)/\w'.cell? ⟨W.heap.size,3,none⟩=some (.slice A t.ks.length c)/\w'.cell? ⟨C.rb,6,none⟩=some (.pointer (some ⟨C.sb,0,none⟩))) w' from fun w' hb=>⟨zb hb x0,zb hb x1,zb hb x2,zb hb x3,zb hb y6'⟩);have gD:=zh (aP.out _ (Below.refl _ _).drew);clear x0 x1 x2 x3 y6';go_upto_region 2 with fail
  go_region_held3 (fun w':World=>w'.cell? ⟨W.heap.size,0,none⟩=some (.int .u8 t.k)/\w'.cell? ⟨W.heap.size,1,none⟩=some (.int .i64 t.n)/\w'.cell? ⟨W.heap.size,2,none⟩=some (.string t.s)/\w'.cell? ⟨W.heap.size,3,none⟩=some (.slice A t.ks.length c)/\w'.cell? ⟨C.rb,6,none⟩=some (.pointer (some ⟨C.sb,0,none⟩)))
   (first|with_reducible exact bN.out|with_reducible exact gD.out)
   (first
    | (go_at_call 207;refine(qz.out _ (Below.refl _ _).drew).mono ?_;rintro e y1 ⟨rfl,bq⟩;have b1:=zka (Below.refl w1.heap.size w1).drew bq;have bN:=zh (aP.out _ b1))
    | fail)
  have HB2:=zh b1;clear b1 bq bN;go_wp2_with fail;refine(zlr _ y _).mono ?_;rintro e w3 ⟨rfl,hcs⟩;rcases hcs with⟨rfl,u2,rfl⟩|⟨hy,rfl⟩
  ·go_wp2_with fail;go_ret;refine⟨aD.out.trans (Kpt.of_below HB2.out),zka HB1.out HB2.out,.inr ⟨bb,r1,rfl,HR1.out.later HB2.out,fun f=>?_⟩⟩;unfold zk0;rw[HS.out];simp only[Out.bind,valO,jR.out];simp[<-HBBB.out]
  ·refine⟨rfl,aD.out.trans (Kpt.of_below HB2.out),zka HB1.out HB2.out,.inl ⟨y,rfl,fun f=>?_⟩⟩;unfold zk0;rw[HS.out];simp only[Out.bind,valO,jR.out];rw[if_pos hy]
theorem znh (x:Int):I64 (wrap64 x):=by
 unfold wrap64 I64
 constructor<;>omega
theorem ztw (b:Bool):I64 (numI b):=by
 cases b
 ·exact⟨by decide,by decide⟩
 ·exact⟨by decide,by decide⟩
theorem zero_I64:I64 0:=⟨by decide,by decide⟩
theorem zte {x y:Int} (h:I64 x):I64 (x.tmod y):=by
 obtain⟨h1,h2⟩:=h;rcases Int.le_total 0 x with h0|h0
 ·have a1:=Int.tmod_nonneg y h0;have a2:(x.tmod y).natAbs<=x.natAbs:=by rw[Int.natAbs_tmod];exact Nat.mod_le _ _
  exact⟨by omega,by omega⟩
 ·have a1:=Int.tmod_nonneg y (show 0 <= -x by omega);rw[Int.neg_tmod] at a1;have a2:(x.tmod y).natAbs<=x.natAbs:=by rw[Int.natAbs_tmod];exact Nat.mod_le _ _
  exact⟨by omega,by omega⟩
theorem zyp {k x y:Int} (hx:I64 x):I64 (divE k x y).1:=by
 unfold divE
 repeat' split
 all_goals first|exact zero_I64|exact znh _|exact zte hx
theorem zzv (k x:Int):I64 (unE k x).1:=by
 unfold unE
 split
 ·exact znh _
 ·exact ztw _
theorem zzS {c:Prop} [Decidable c] {a b:Int×Int} (ha:I64 a.1) (hb:I64 b.1):I64 (if c then a else b).1:=by
 split
 ·exact ha
 ·exact hb
theorem zKu {k x y:Int} (hx:I64 x):I64 (apE k x y).1:=by
 unfold apE
 repeat' apply zzS
 all_goals first|exact znh _|exact zyp hx|exact zte hx|exact zsg _|exact ztw _|exact zero_I64
theorem zx0 {l:List Int} (h:∀ x∈l,I64 x) (i:Nat):I64 (l.getD i 0):=by
 rw[List.getD_eq_getElem?_getD];rcases hx:l[i]? with _|x
 ·exact zero_I64
 ·exact h x (List.mem_of_getElem? hx)
theorem zwe {look:ByteArray->Option (List Int)} (hl:∀ s l,look s=some l->l.length<=100000/\∀ x∈l,I64 x) {k n:Int} {s:ByteArray} {rs:List (Int×Int)} (hn:I64 n) (h0:I64 (rs.getD 0 (0,0)).1):I64 (evK look k n s rs).1:=by
 unfold evK
 split
 ·exact hn
 ·split
  ·unfold varE
   split
   ·exact zero_I64
   ·rename_i l hlk;obtain⟨h1,h2⟩:=hl s l hlk
    repeat' split
    all_goals first|exact zx0 h2 _|exact zero_I64|exact⟨by simp only;omega,by simp only;omega⟩
  ·repeat' split
   all_goals first|exact zzv _ _|exact zKu h0|exact zero_I64
theorem zwf {look:ByteArray->Option (List Int)} (hl:∀ s l,look s=some l->l.length<=100000/\∀ x∈l,I64 x) {w:World}:∀ (m:Nat) (t:T) (v:Value),size t<=m->NV w Any t v->I64 (evE look t).1
 | 0,t,_,h,_=>by obtain⟨k,n,s,ks⟩:=t;rw[size] at h;omega
 | m+1,.nd k n s ks,v,h,hv=>by
  obtain⟨A,c,-,hf,-,-,hrow⟩:=hv.open_;rw[evE];refine zwe hl hf.2.1 ?_;rw[znu,List.getD_eq_getElem?_getD,List.getElem?_map];rcases hk:ks[0]? with _|u
  ·exact zero_I64
  ·obtain⟨h1,h2⟩:=List.getElem?_eq_some_iff.1 hk;obtain⟨a,u0,u1,u2,u3,-,-,-,hn⟩:=hrow 0 h1;have hs:=zmF (List.getElem_mem h1);rw[size] at h;have:=zwf hl m ks[0] _ (by omega) hn;rw[h2] at this;exact this
theorem ztB {S:ST} (h:S.WF):∀ s l,S.look s=some l->l.length<=100000/\∀ x∈l,I64 x:=fun s l hl=>by
 obtain⟨i,id,h1,h2,rfl⟩:=ST.look_num hl;obtain⟨kd,hc⟩:=h.cur;have:=h.cells id (hc.num id (List.mem_of_getElem? h2));exact⟨by omega,this.2⟩
theorem zyg {S:ST} (h:S.WF) {w:World} {t:T} {v:Value} (hv:NV w Any t v):I64 (zkH S.look t).1:=by
 unfold zkH
 split
 ·exact zwf (ztB h) _ _ _ (Nat.le_refl _) hv
 ·exact zero_I64
def ValP (C:RC) (W:World) (t:T) (r:RS) (e:Ending) (W':World):Prop :=
 Below W.heap.size W W'/\((∃ x,e=zl2 x/\∀ f,valO t r f=.err x)\/∃ x,e=.returned (.int .i64 x)/\I64 x/\∀ f,valO t r f=f x r)
theorem zrl {C:RC} {W:World} {r:RS} (h:RI C W r) (t:T) (v:Value) (hv:NV C.w Any t v):Calls Tryz.prog 211 #[.pointer (some ⟨C.rb,0,none⟩),v] W (ValP C W t r):=by
 have HV:=zh hv;obtain⟨A,c,rfl,-⟩:=hv.open_;have uO:∀ (fn:Fn) (first cap:Array Value) (w:World),(Instr.makeFunc fn first cap).run Tryz.prog w=.ok (.func fn first cap) w:=fun _ _ _ _=>rfl;have hb0:=zkb (Below.refl W.heap.size W) (.cells #[.int .u8 t.k,.int .i64 t.n,.string t.s,.slice A t.ks.length c] 29);have hbx:=box4 (heap_alloc_new W (.cells #[.int .u8 t.k,.int .i64 t.n,.string t.s,.slice A t.ks.length c] 29));obtain⟨y6,-⟩:=(h.later hb0).cells;have HR:=zh (h.later hb0);have HB0:=zh hb0;obtain⟨w1,hW1⟩:∃ x,W.alloc (.cells #[.int .u8 t.k,.int .i64 t.n,.string t.s,.slice A t.ks.length c] 29)=x:=⟨_,rfl⟩
 rw[hW1] at hbx HR HB0 y6;obtain⟨x0,x1,x2,x3⟩:=hbx;have qz:=zh (fun w' (hb:Below w1.heap.size w1 w')=>zrg (zK5 C.w C.n0 C.sb _ r.S HR.out.ks.wf) t _ w' (HV.out.later (zka HR.out.below hb)) (HR.out.ks.later hb));obtain⟨⟨x,y⟩,hx⟩:∃ x,zkH r.S.look t=x:=⟨_,rfl⟩
 rw[hx] at qz;have jR:=zh hx;have aP:=zh (show ∀ w',Below w1.heap.size w1 w'->(fun w':World=>w'.cell? ⟨W.heap.size,0,none⟩=some (.int .u8 t.k)/\w'.cell? ⟨W.heap.size,1,none⟩=some (.int .i64 t.n)/\w'.cell? ⟨W.heap.size,2,none⟩=some (.string t.s)/\w'.cell? ⟨W.heap.size,3,none⟩=some (.slice A t.ks.length c)/\w'.cell? ⟨C.rb,6,none⟩=some (.pointer (some ⟨C.sb,0,none⟩))) w' from fun w' hb=>⟨zb hb x0,zb hb x1,zb hb x2,zb hb x3,zb hb y6⟩);have gD:=zh (aP.out _ (Below.refl _ _).drew);clear hv hb0 hx x0 x1 x2 x3 y6 h;go_enter Tryz.func211,Tryz.ntmps211;go_upto_region 1 with fail;clear hW1
 go_region_held3 (fun w':World=>w'.cell? ⟨W.heap.size,0,none⟩=some (.int .u8 t.k)/\w'.cell? ⟨W.heap.size,1,none⟩=some (.int .i64 t.n)/\w'.cell? ⟨W.heap.size,2,none⟩=some (.string t.s)/\w'.cell? ⟨W.heap.size,3,none⟩=some (.slice A t.ks.length c)/\w'.cell? ⟨C.rb,6,none⟩=some (.pointer (some ⟨C.sb,0,none⟩)))
  (first|with_reducible exact bN.out|with_reducible exact gD.out)
  (first
   | (go_at_call 110;refine(qz.out _ (Below.refl _ _).drew).mono ?_;rintro e y1 ⟨rfl,bq⟩;have b1:=zka (Below.refl w1.heap.size w1).drew bq;have bN:=zh (aP.out _ b1))
   | fail)
 have HB2:=zh (zka HB0.out b1);clear b1 bq bN;go_wp2_with fail;refine(zlr _ y _).mono ?_;rintro e w3 ⟨rfl,hcs⟩;rcases hcs with⟨rfl,u2,rfl⟩|⟨hy,rfl⟩
 ·go_wp2_with fail;go_ret;refine⟨HB2.out,.inr ⟨x,rfl,?_,fun f=>?_⟩⟩
  ·have:=zyg HR.out.ks.wf HV.out;rw[jR.out] at this;exact this
  ·unfold valO;rw[jR.out];simp
 ·refine⟨rfl,HB2.out,.inl ⟨y,rfl,fun f=>?_⟩⟩;unfold valO;rw[jR.out,if_pos hy]
theorem zny {C:RC} (hC:C.Ok) {W:World} {r:RS} (h:RI C W r) (t:T) (v:Value) (hv:NV C.w Any t v) (b:Bool):Calls Tryz.prog 210 #[.pointer (some ⟨C.rb,0,none⟩),v,.bool b] W (RunP C W (zkn C.F t b r)):=by
 have HV:=zh hv;obtain⟨A,c,rfl,-⟩:=hv.open_;have hb0:=zkb (Below.refl W.heap.size W) (.cells #[.int .u8 t.k,.int .i64 t.n,.string t.s,.slice A t.ks.length c] 29);obtain⟨x0,x1,x2,x3⟩:=box4 (heap_alloc_new W (.cells #[.int .u8 t.k,.int .i64 t.n,.string t.s,.slice A t.ks.length c] 29));have aM:=zh (Kpt.of_below (n0:=C.n0) (kb:=C.kb) hb0);have gX:=zh (zpA hC (h.later hb0) t _ hv);clear hv hb0 h;go_enter Tryz.func210,Tryz.ntmps210;go_wp2_with fail;refine gX.out.mono ?_;rintro e w1 ⟨hk1,hb1,ho⟩;have aD:=zh (aM.out.trans hk1);have HB1:=zh hb1;clear hk1 hb1 gX x0 x1 x2 x3 aM;rcases ho with⟨x,rfl,hx⟩|⟨b1,r1,rfl,hr1,hx⟩
 ·refine⟨rfl,aD.out,HB1.out,?_⟩;rw[show zkn C.F t b r=.err x from hx _]
 ·have HX:=zh (show zkn C.F t b r=if b1=b then .ok r1 else .err 15 from hx _);have HR:=zh hr1;clear hr1 hx;by_cases hbb:b1=b
  ·subst hbb;have bf:=zh (show zkn C.F t b1 r=.ok r1 by rw[HX.out,if_pos rfl]);clear HX;go_wp2_with fail;go_end0;refine⟨aD.out,HB1.out,?_⟩;rw[bf.out];exact⟨⟨_,rfl⟩,HR.out⟩
  ·have e1:(b1 != b)=true:=by simpa using hbb
   have e2:(b1==b)=false:=by simpa using hbb
   go_wp2_with fail;refine(zrf 15 (by decide) _).mono ?_;rintro e w2 ⟨rfl,rfl⟩;refine⟨rfl,aD.out,HB1.out,?_⟩;rw[HX.out,if_neg hbb]
section
variable {P:Program} {ops:Array Oper} {Q:Exit->Act->World->Prop} {md:Region.Mode} {S1 S2:World->Prop} {k:Nat}
theorem zxk {i j:Nat} {o o':Oper} {fuel:Nat} {listed:Array Bool} {a:Act} {w:World} (hr:Region.ready md ops listed=[i,j]) (ho:ops[i]?=some o) (ho':ops[j]?=some o')
  (h:∀ K':Act->World->Prop,Shut (∀ a w,S1 w/\S2 w->wpG P md ops Q S1 S2 k fuel (listed.setIfInBounds i true) a w->K' a w)->if Region.wanted o (yielded ops a.tmps)=true then Oper.wp P o a w K' Q else K' (a.put o.dst undef) w)
  (h':∀ K':Act->World->Prop,Shut (∀ a w,S1 w/\S2 w->wpG P md ops Q S1 S2 k fuel (listed.setIfInBounds j true) a w->K' a w)->if Region.wanted o' (yielded ops a.tmps)=true then Oper.wp P o' a w K' Q else K' (a.put o'.dst undef) w) :
  wpG P md ops Q S1 S2 k (fuel+1) listed a w:=by
 refine⟨(fun h0=>by rw[hr] at h0;cases h0),fun x hx=>?_⟩;rw[hr] at hx;simp only[List.mem_cons,List.not_mem_nil,or_false] at hx;rcases hx with rfl|rfl
 ·exact wpOp_step ho fun K' hK=>h K' fun a w hS hW=>hK a w ⟨⟨hS.1,fun _=>hS.2⟩,hW⟩
 ·exact wpOp_step ho' fun K' hK=>h' K' fun a w hS hW=>hK a w ⟨⟨hS.1,fun _=>hS.2⟩,hW⟩
end
theorem set4 {W:World} {b:Nat} {x0 x1 x2 x3 u0 u1 u2 u3:Value} {E:TypeId} (h:W.heap[b]?=some (.cells #[x0,x1,x2,x3] E (0,0))) :
  ((((W.setCell ⟨b,0,none⟩ u0).setCell ⟨b,1,none⟩ u1).setCell ⟨b,2,none⟩ u2).setCell ⟨b,3,none⟩ u3).heap[b]?=some (.cells #[u0,u1,u2,u3] E (0,0)) /\
   Chg (fun q=>q=b) W ((((W.setCell ⟨b,0,none⟩ u0).setCell ⟨b,1,none⟩ u1).setCell ⟨b,2,none⟩ u2).setCell ⟨b,3,none⟩ u3):=by
 refine⟨?_,((((Chg.refl (fun q=>q=b) W).setCell (p:=⟨b,0,none⟩) (.inl rfl) _).setCell (p:=⟨b,1,none⟩) (.inl rfl) _).setCell (p:=⟨b,2,none⟩) (.inl rfl) _).setCell (p:=⟨b,3,none⟩) (.inl rfl) _⟩;rw[heap_setCell_same _ b 3 _ _ u3 (heap_setCell_same _ b 2 _ _ u2 (heap_setCell_same _ b 1 _ _ u1 (heap_setCell_same W b 0 _ _ u0 h)))];simp
theorem zq8 (t:T) (v:Value) (back:Bool) (w0 w:World) (hB0:Below w0.heap.size w0 w) (hv:NV w0 Any t v) (hk:0<t.ks.length):Calls Tryz.prog 208 #[v,.bool back] w fun e W'=>∃ v1 v2,e=.returned (.tuple #[v1,v2])/\NV w0 Any (fstT back t) v1/\NV w0 Any (lstT back t) v2/\Below w.heap.size w W':=by
 have HV:=zh hv;obtain⟨A,c,rfl,hf,hlk,hlc,hrow⟩:=hv.open_;obtain⟨m,hm⟩:∃ m,t.ks.length=m+1:=⟨t.ks.length-1,by omega⟩
 obtain⟨a,a0,a1,a2,a3,rfl,-,ha,hna⟩:=hrow 0 (by omega);obtain⟨a',b0,b1,b2,b3,e',-,hb,hnb⟩:=hrow m (by omega);injection e' with e';subst e';obtain⟨t6,oW⟩:∃ x,t.ks[0]'(by omega)=x:=⟨_,rfl⟩
 obtain⟨t7,wF⟩:∃ x,t.ks[m]'(by omega)=x:=⟨_,rfl⟩
 rw[oW] at hna;rw[wF] at hnb;have oD:=zh hna;have vB:=zh hnb;have oq:=zh (show kid t 0=t6 by simp[kid,show 0<t.ks.length by omega,oW]);have oo:=zh (show kid t (t.ks.length-1)=t7 by simp[kid,hm,show m<t.ks.length by omega,wF]);obtain⟨A6,c6,e6,-⟩:=hna.open_;obtain⟨A7,c7,e7,-⟩:=hnb.open_;simp only[nv,Value.agg.injEq,Array.mk.injEq,List.cons.injEq,and_true] at e6 e7;obtain⟨rfl,rfl,rfl,rfl⟩:=e6;obtain⟨rfl,rfl,rfl,rfl⟩:=e7;clear hna hnb oW wF;obtain⟨ha0,ha1,ha2,p8⟩:=ha;obtain⟨hb0,hb1,hb2,hb3⟩:=hb;simp only[Nat.zero_mul,Addr.add_zero'] at ha0 ha1 ha2 p8
 replace ha0:=zb hB0 ha0
 replace ha1:=zb hB0 ha1
 replace ha2:=zb hB0 ha2
 replace p8:=zb hB0 p8
 replace hb0:=zb hB0 hb0
 replace hb1:=zb hB0 hb1
 replace hb2:=zb hB0 hb2
 replace hb3:=zb hB0 hb3
 clear hB0;have hwm:IntKind.i64.wrap (m:Int)=(m:Int):=IntWalk.i64_in _ (by unfold LK at hlk;omega);have hm0:(0:Int)<=(m:Int):=by omega
 have hm1:(m:Int)<((m:Int)+1):=by omega
 have hbl:Below w.heap.size w (((w.alloc (.cells #[.int .u8 t.k,.int .i64 t.n,.string t.s,.slice (some a) (m+1) c] 29)).alloc (.cells #[.int .u8 0,.int .i64 0,.string ⟨#[]⟩,.slice none 0 0] 29)).alloc (.cells #[.int .u8 0,.int .i64 0,.string ⟨#[]⟩,.slice none 0 0] 29)):=zkb (zkb (zkb (Below.refl _ _) _) _) _;have hk0:=zkl (zkl (heap_alloc_new w (.cells #[.int .u8 t.k,.int .i64 t.n,.string t.s,.slice (some a) (m+1) c] 29)) (.cells #[.int .u8 0,.int .i64 0,.string ⟨#[]⟩,.slice none 0 0] 29)) (.cells #[.int .u8 0,.int .i64 0,.string ⟨#[]⟩,.slice none 0 0] 29);have hk4:=zkl (heap_alloc_new (w.alloc (.cells #[.int .u8 t.k,.int .i64 t.n,.string t.s,.slice (some a) (m+1) c] 29)) (.cells #[.int .u8 0,.int .i64 0,.string ⟨#[]⟩,.slice none 0 0] 29)) (.cells #[.int .u8 0,.int .i64 0,.string ⟨#[]⟩,.slice none 0 0] 29)
 have hk5:=heap_alloc_new ((w.alloc (.cells #[.int .u8 t.k,.int .i64 t.n,.string t.s,.slice (some a) (m+1) c] 29)).alloc (.cells #[.int .u8 0,.int .i64 0,.string ⟨#[]⟩,.slice none 0 0] 29)) (.cells #[.int .u8 0,.int .i64 0,.string ⟨#[]⟩,.slice none 0 0] 29);simp only[World.size_alloc] at hk4 hk5;go_enter Tryz.func208,Tryz.ntmps208;go_upto_region 1 with fail;obtain⟨w1,hw1⟩:∃ x,((w.alloc (.cells #[.int .u8 t.k,.int .i64 t.n,.string t.s,.slice (some a) (m+1) c] 29)).alloc (.cells #[.int .u8 0,.int .i64 0,.string ⟨#[]⟩,.slice none 0 0] 29)).alloc (.cells #[.int .u8 0,.int .i64 0,.string ⟨#[]⟩,.slice none 0 0] 29)=x:=⟨_,rfl⟩
 rw[hw1] at hbl hk0 hk4 hk5 ⊢;have hSS:(fun w':World=>w'.cell? ⟨w.heap.size,3,none⟩=some (.slice (some a) (m+1) c)/\(w'.cell? a=some (.int .u8 t6.k)/\w'.cell? ⟨a.block,a.off+1,none⟩=some (.int .i64 t6.n)/\w'.cell? ⟨a.block,a.off+2,none⟩=some (.string t6.s)/\w'.cell? ⟨a.block,a.off+3,none⟩=some (.slice A6 t6.ks.length c6))/\(w'.cell? (a.add (m*4))=some (.int .u8 t7.k)/\w'.cell? ⟨(a.add (m*4)).block,(a.add (m*4)).off+1,none⟩=some (.int .i64 t7.n)/\w'.cell? ⟨(a.add (m*4)).block,(a.add (m*4)).off+2,none⟩=some (.string t7.s)/\w'.cell? ⟨(a.add (m*4)).block,(a.add (m*4)).off+3,none⟩=some (.slice A7 t7.ks.length c7))) w1.drew/\(fun _:World=>True) w1.drew:=⟨⟨zc hk0 rfl,⟨zb hbl.drew ha0,zb hbl.drew ha1,zb hbl.drew ha2,zb hbl.drew p8⟩,⟨zb hbl.drew hb0,zb hbl.drew hb1,zb hbl.drew hb2,zb hbl.drew hb3⟩⟩,trivial⟩
 have eZ:=zh (show w1.heap[w.heap.size+1]?=some (.cells #[.int .u8 0,.int .i64 0,.string ⟨#[]⟩,.slice none 0 0] 29 (0,0)) from hk4);have eP:=zh (show w1.heap[w.heap.size+1+1]?=some (.cells #[.int .u8 0,.int .i64 0,.string ⟨#[]⟩,.slice none 0 0] 29 (0,0)) from hk5);have aj:=zh hbl;clear hw1 hbl hk0 hk4 hk5 ha0 ha1 ha2 p8 hb0 hb1 hb2 hb3 hrow HV;refine wp_region_noPanic ?_
 refine zkc (fun w':World=>w'.cell? ⟨w.heap.size,3,none⟩=some (.slice (some a) (m+1) c)/\(w'.cell? a=some (.int .u8 t6.k)/\w'.cell? ⟨a.block,a.off+1,none⟩=some (.int .i64 t6.n)/\w'.cell? ⟨a.block,a.off+2,none⟩=some (.string t6.s)/\w'.cell? ⟨a.block,a.off+3,none⟩=some (.slice A6 t6.ks.length c6))/\(w'.cell? (a.add (m*4))=some (.int .u8 t7.k)/\w'.cell? ⟨(a.add (m*4)).block,(a.add (m*4)).off+1,none⟩=some (.int .i64 t7.n)/\w'.cell? ⟨(a.add (m*4)).block,(a.add (m*4)).off+2,none⟩=some (.string t7.s)/\w'.cell? ⟨(a.add (m*4)).block,(a.add (m*4)).off+3,none⟩=some (.slice A7 t7.ks.length c7))) (fun _:World=>True) 15 (by kernel_rfl) ?_;refine zT 0 hSS ?_;(try simp only[zQ]);refine zT 1 hSS ?_;(try simp only[zQ]);refine zT 2 hSS ?_;(try simp only[zQ]);refine zT 3 hSS ?_;(try simp only[zQ]);refine zT 4 hSS ?_;(try simp only[zQ]);refine zT 5 hSS ?_;(try simp only[zQ]);refine zT 6 hSS ?_
 (try simp only[zQ]);refine zT 7 hSS ?_;(try simp only[zQ]);refine zT 8 hSS ?_;(try simp only[zQ]);refine zT 9 hSS ?_;(try simp only[zQ]);refine zT 10 hSS ?_;(try simp only[zQ]);refine zT 11 hSS ?_;(try simp only[zQ]);have lV:=zh (show ∀ w',Below w1.heap.size w1 w'->(fun w':World=>w'.cell? ⟨w.heap.size,3,none⟩=some (.slice (some a) (m+1) c)/\(w'.cell? a=some (.int .u8 t6.k)/\w'.cell? ⟨a.block,a.off+1,none⟩=some (.int .i64 t6.n)/\w'.cell? ⟨a.block,a.off+2,none⟩=some (.string t6.s)/\w'.cell? ⟨a.block,a.off+3,none⟩=some (.slice A6 t6.ks.length c6))/\(w'.cell? (a.add (m*4))=some (.int .u8 t7.k)/\w'.cell? ⟨(a.add (m*4)).block,(a.add (m*4)).off+1,none⟩=some (.int .i64 t7.n)/\w'.cell? ⟨(a.add (m*4)).block,(a.add (m*4)).off+2,none⟩=some (.string t7.s)/\w'.cell? ⟨(a.add (m*4)).block,(a.add (m*4)).off+3,none⟩=some (.slice A7 t7.ks.length c7))) w' from fun w' hb=>by
  obtain⟨⟨q0,⟨q1,q2,q3,q4⟩,q5,q6,q7,q8⟩,-⟩:=hSS;exact⟨zb hb q0,⟨zb hb q1,zb hb q2,zb hb q3,zb hb q4⟩,zb hb q5,zb hb q6,zb hb q7,zb hb q8⟩)
 clear hSS;refine zxk (i:=12) (j:=13) (by kernel_rfl) rfl rfl (fun K hK=>?_) (fun K hK=>?_)
 ·skip
  (try simp only[zA,zB,zC]);go_simp;have hb2:=zkb (Below.refl w1.heap.size w1) (.cells #[.int .u8 0,.int .i64 0,.string ⟨#[]⟩,.slice none 0 0] 29);refine hK.out _ _ ⟨lV.out _ hb2.drew,trivial⟩ ?_;clear hK K;(try simp only[zQ]);refine zo 13 fun K hK=>?_;(try simp only[zA,zB,zC]);go_simp;have hb3:Below w1.heap.size w1 ((w1.alloc (.cells #[.int .u8 0,.int .i64 0,.string ⟨#[]⟩,.slice none 0 0] 29)).alloc (.cells #[.int .u8 0,.int .i64 0,.string ⟨#[]⟩,.slice none 0 0] 29)):=zkb hb2 (.cells #[.int .u8 0,.int .i64 0,.string ⟨#[]⟩,.slice none 0 0] 29);have eT:=zkl (heap_alloc_new w1 (.cells #[.int .u8 0,.int .i64 0,.string ⟨#[]⟩,.slice none 0 0] 29)) (.cells #[.int .u8 0,.int .i64 0,.string ⟨#[]⟩,.slice none 0 0] 29);have fZ:=heap_alloc_new (w1.alloc (.cells #[.int .u8 0,.int .i64 0,.string ⟨#[]⟩,.slice none 0 0] 29)) (.cells #[.int .u8 0,.int .i64 0,.string ⟨#[]⟩,.slice none 0 0] 29)
  rw[World.size_alloc] at fZ;refine hK.out _ _ ⟨lV.out _ hb3.drew,trivial⟩ ?_;clear hK K;(try simp only[zQ]);obtain⟨w3,hw3⟩:∃ x,(w1.alloc (.cells #[.int .u8 0,.int .i64 0,.string ⟨#[]⟩,.slice none 0 0] 29)).alloc (.cells #[.int .u8 0,.int .i64 0,.string ⟨#[]⟩,.slice none 0 0] 29)=x:=⟨_,rfl⟩
  rw[hw3] at hb3 eT fZ ⊢;clear hw3 hb2;have HB3:=zh hb3;have c0:w3.cell? ⟨w1.heap.size,0,none⟩=some (.int .u8 0):=zc eT rfl;have c1:w3.cell? ⟨w1.heap.size,1,none⟩=some (.int .i64 0):=zc eT rfl;have c2:w3.cell? ⟨w1.heap.size,2,none⟩=some (.string ⟨#[]⟩):=zc eT rfl;have c3:w3.cell? ⟨w1.heap.size,3,none⟩=some (.slice none 0 0):=zc eT rfl;have cf:∀ o,w3.frozen? ⟨w1.heap.size,o,none⟩=false:=fun _=>zf eT;refine zo 14 fun K hK=>?_;(try simp only[zA,zB,zC]);go_simp;obtain⟨hh,hch⟩:=set4 (u0:=(.int .u8 t6.k)) (u1:=(.int .i64 t6.n)) (u2:=(.string t6.s)) (u3:=(.slice A6 t6.ks.length c6)) eT;obtain⟨w4,hwn⟩:∃ x,(((w3.setCell ⟨w1.heap.size,0,none⟩ (.int .u8 t6.k)).setCell ⟨w1.heap.size,1,none⟩ (.int .i64 t6.n)).setCell ⟨w1.heap.size,2,none⟩ (.string t6.s)).setCell ⟨w1.heap.size,3,none⟩ (.slice A6 t6.ks.length c6)=x:=⟨_,rfl⟩
  rw[hwn] at hh hch ⊢;have hb4:Below w1.heap.size w1 w4:=HB3.out.trans (hch.below HB3.out.size fun b e=>by omega);refine hK.out _ _ ⟨lV.out _ hb4.drew,trivial⟩ ?_;clear hK K c0 c1 c2 c3 cf hwn;(try simp only[zQ]);have aC:=zh hb4;have bI:=hch.keep fZ (by omega);have c0:w4.cell? ⟨(w1.heap.size+1),0,none⟩=some (.int .u8 0):=zc bI rfl;have c1:w4.cell? ⟨(w1.heap.size+1),1,none⟩=some (.int .i64 0):=zc bI rfl;have c2:w4.cell? ⟨(w1.heap.size+1),2,none⟩=some (.string ⟨#[]⟩):=zc bI rfl;have c3:w4.cell? ⟨(w1.heap.size+1),3,none⟩=some (.slice none 0 0):=zc bI rfl;have cf:∀ o,w4.frozen? ⟨(w1.heap.size+1),o,none⟩=false:=fun _=>zf bI;refine zp 15 fun K hK=>?_;(try simp only[zA,zB,zC]);go_simp;obtain⟨lT,aV⟩:=set4 (u0:=(.int .u8 t7.k)) (u1:=(.int .i64 t7.n)) (u2:=(.string t7.s)) (u3:=(.slice A7 t7.ks.length c7)) bI
  obtain⟨w5,hwn⟩:∃ x,(((w4.setCell ⟨(w1.heap.size+1),0,none⟩ (.int .u8 t7.k)).setCell ⟨(w1.heap.size+1),1,none⟩ (.int .i64 t7.n)).setCell ⟨(w1.heap.size+1),2,none⟩ (.string t7.s)).setCell ⟨(w1.heap.size+1),3,none⟩ (.slice A7 t7.ks.length c7)=x:=⟨_,rfl⟩
  rw[hwn] at lT aV ⊢;have hb5:Below w1.heap.size w1 w5:=aC.out.trans (aV.below aC.out.size fun b e=>by omega);refine hK.out _ _ (lV.out _ hb5.drew) ?_;clear hK K c0 c1 c2 c3 cf hwn;(try simp only[zQ]);have aY:=zh (aV.keep hh (by omega));have aX:=zh lT;have bB:=zh (show Below w1.heap.size w1 w5 from hb5);clear hb3 eT fZ bI hh lT hch aV hb4 hb5 aC HB3 lV;refine zd ?_;refine NoPanic.normal ?_;have iL:=zh (zkd eZ.out bB.out);have qx:=zh (zkd eP.out bB.out)
  cases back
  ·go_upto_region 4 with fail;have hS5:(fun w':World=>(w'.cell? ⟨w1.heap.size,0,none⟩=some (.int .u8 t6.k)/\w'.cell? ⟨w1.heap.size,1,none⟩=some (.int .i64 t6.n)/\w'.cell? ⟨w1.heap.size,2,none⟩=some (.string t6.s)/\w'.cell? ⟨w1.heap.size,3,none⟩=some (.slice A6 t6.ks.length c6))/\(w'.cell? ⟨(w1.heap.size+1),0,none⟩=some (.int .u8 t7.k)/\w'.cell? ⟨(w1.heap.size+1),1,none⟩=some (.int .i64 t7.n)/\w'.cell? ⟨(w1.heap.size+1),2,none⟩=some (.string t7.s)/\w'.cell? ⟨(w1.heap.size+1),3,none⟩=some (.slice A7 t7.ks.length c7))) w5.drew:=⟨⟨zc aY.out rfl,zc aY.out rfl,zc aY.out rfl,zc aY.out rfl⟩,⟨zc aX.out rfl,zc aX.out rfl,zc aX.out rfl,zc aX.out rfl⟩⟩
   refine wp_region_noPanic ?_;refine zkc (fun w':World=>(w'.cell? ⟨w1.heap.size,0,none⟩=some (.int .u8 t6.k)/\w'.cell? ⟨w1.heap.size,1,none⟩=some (.int .i64 t6.n)/\w'.cell? ⟨w1.heap.size,2,none⟩=some (.string t6.s)/\w'.cell? ⟨w1.heap.size,3,none⟩=some (.slice A6 t6.ks.length c6))/\(w'.cell? ⟨(w1.heap.size+1),0,none⟩=some (.int .u8 t7.k)/\w'.cell? ⟨(w1.heap.size+1),1,none⟩=some (.int .i64 t7.n)/\w'.cell? ⟨(w1.heap.size+1),2,none⟩=some (.string t7.s)/\w'.cell? ⟨(w1.heap.size+1),3,none⟩=some (.slice A7 t7.ks.length c7))) (fun _:World=>True) 3 (by kernel_rfl) ?_;refine zkJ (i:=0) (v:=?_) rfl (by kernel_rfl) (by kernel_rfl) (by kernel_rfl) (by decide) (fun _ _ _ h=>h) (Or.inl ⟨by rfl,?_⟩) ⟨hS5,trivial⟩ ?_;rotate_left 1
   ·(intro w hSw;(try dsimp only at hSw);(try simp only[zA,zC]);go_simp;(try with_reducible rfl))
   (try simp only[zQ]);refine zkJ (i:=1) (v:=?_) rfl (by kernel_rfl) (by kernel_rfl) (by kernel_rfl) (by decide) (fun _ _ _ h=>h) (Or.inl ⟨by rfl,?_⟩) ⟨hS5,trivial⟩ ?_;rotate_left 1
   ·(intro w hSw;(try dsimp only at hSw);(try simp only[zA,zB,zC]);go_simp;(try with_reducible rfl))
   (try simp only[zQ]);have hsz:w.heap.size+1+1<w1.heap.size:=(Array.getElem?_eq_some_iff.mp eP.out).1;have aN:=zh (aj.out.trans (bB.out.mono (by omega)))
   have HC:=zh (show ∀ W':World,W'.heap[w1.heap.size]?=w5.heap[w1.heap.size]?->W'.heap[(w1.heap.size+1)]?=w5.heap[(w1.heap.size+1)]?->(fun w':World=>((w'.cell? ⟨w1.heap.size,0,none⟩=some (.int .u8 t6.k)/\w'.cell? ⟨w1.heap.size,1,none⟩=some (.int .i64 t6.n)/\w'.cell? ⟨w1.heap.size,2,none⟩=some (.string t6.s)/\w'.cell? ⟨w1.heap.size,3,none⟩=some (.slice A6 t6.ks.length c6))/\(w'.cell? ⟨(w1.heap.size+1),0,none⟩=some (.int .u8 t7.k)/\w'.cell? ⟨(w1.heap.size+1),1,none⟩=some (.int .i64 t7.n)/\w'.cell? ⟨(w1.heap.size+1),2,none⟩=some (.string t7.s)/\w'.cell? ⟨(w1.heap.size+1),3,none⟩=some (.slice A7 t7.ks.length c7)))) W'.drew from fun W' h6 h7=>⟨⟨zc (h6.trans aY.out) rfl,zc (h6.trans aY.out) rfl,zc (h6.trans aY.out) rfl,zc (h6.trans aY.out) rfl⟩,⟨zc (h7.trans aX.out) rfl,zc (h7.trans aX.out) rfl,zc (h7.trans aX.out) rfl,zc (h7.trans aX.out) rfl⟩⟩);have xq:=zh iL.out;have aL:=iL.out
   have iK:=qx.out;have c0:w5.cell? ⟨(w.heap.size+1),0,none⟩=some (.int .u8 0):=zc aL rfl;have c1:w5.cell? ⟨(w.heap.size+1),1,none⟩=some (.int .i64 0):=zc aL rfl;have c2:w5.cell? ⟨(w.heap.size+1),2,none⟩=some (.string ⟨#[]⟩):=zc aL rfl;have c3:w5.cell? ⟨(w.heap.size+1),3,none⟩=some (.slice none 0 0):=zc aL rfl;have cf:∀ o,w5.frozen? ⟨(w.heap.size+1),o,none⟩=false:=fun _=>zf aL;refine zo 2 fun K hK=>?_;(try simp only[zA,zB,zC]);go_simp;obtain⟨hh,hch⟩:=set4 (u0:=(.int .u8 t6.k)) (u1:=(.int .i64 t6.n)) (u2:=(.string t6.s)) (u3:=(.slice A6 t6.ks.length c6)) aL;obtain⟨w6,hwn⟩:∃ x,(((w5.setCell ⟨(w.heap.size+1),0,none⟩ (.int .u8 t6.k)).setCell ⟨(w.heap.size+1),1,none⟩ (.int .i64 t6.n)).setCell ⟨(w.heap.size+1),2,none⟩ (.string t6.s)).setCell ⟨(w.heap.size+1),3,none⟩ (.slice A6 t6.ks.length c6)=x:=⟨_,rfl⟩
   rw[hwn] at hh hch ⊢;clear c0 c1 c2 c3 cf hwn;have dP:=zh (aN.out.trans (hch.below aN.out.size fun b e=>by omega));have k6:=hch.block (w1.heap.size) (Array.getElem?_eq_some_iff.mp aY.out).1 (by omega);have k7:=hch.block ((w1.heap.size+1)) (Array.getElem?_eq_some_iff.mp aX.out).1 (by omega);have aK:=hch.keep iK (by omega);refine hK.out _ _ ⟨HC.out _ k6 k7,trivial⟩ ?_;have rC:=zh hh;have K6:=zh k6;have K7:=zh k7;have fO:=zh hch;clear hK K k6 k7 hh hch;(try simp only[zQ]);have c0:w6.cell? ⟨(w.heap.size+1+1),0,none⟩=some (.int .u8 0):=zc aK rfl;have c1:w6.cell? ⟨(w.heap.size+1+1),1,none⟩=some (.int .i64 0):=zc aK rfl;have c2:w6.cell? ⟨(w.heap.size+1+1),2,none⟩=some (.string ⟨#[]⟩):=zc aK rfl;have c3:w6.cell? ⟨(w.heap.size+1+1),3,none⟩=some (.slice none 0 0):=zc aK rfl;have cf:∀ o,w6.frozen? ⟨(w.heap.size+1+1),o,none⟩=false:=fun _=>zf aK;refine zp 3 fun K hK=>?_
   (try simp only[zA,zB,zC]);go_simp;obtain⟨hh,hch⟩:=set4 (u0:=(.int .u8 t7.k)) (u1:=(.int .i64 t7.n)) (u2:=(.string t7.s)) (u3:=(.slice A7 t7.ks.length c7)) aK;obtain⟨w7,hwn⟩:∃ x,(((w6.setCell ⟨(w.heap.size+1+1),0,none⟩ (.int .u8 t7.k)).setCell ⟨(w.heap.size+1+1),1,none⟩ (.int .i64 t7.n)).setCell ⟨(w.heap.size+1+1),2,none⟩ (.string t7.s)).setCell ⟨(w.heap.size+1+1),3,none⟩ (.slice A7 t7.ks.length c7)=x:=⟨_,rfl⟩
   rw[hwn] at hh hch ⊢;clear c0 c1 c2 c3 cf hwn;have iT:=zh (dP.out.trans (hch.below dP.out.size fun b e=>by omega));have k6:=hch.block (w1.heap.size) (by have:=(Array.getElem?_eq_some_iff.mp aY.out).1;have:=fO.out.size;omega) (by omega);have k7:=hch.block ((w1.heap.size+1)) (by have:=(Array.getElem?_eq_some_iff.mp aX.out).1;have:=fO.out.size;omega) (by omega);have iR:=zh (hch.keep rC.out (by omega));refine hK.out _ _ (HC.out _ (k6.trans K6.out) (k7.trans K7.out)) ?_;have rA:=zh hh;clear hK K k6 k7 hh hch;(try simp only[zQ]);refine zd ?_;refine NoPanic.normal ?_;have d4:=iR.out;have d5:=rA.out;have g0:w7.drew.cell? ⟨w.heap.size+1,0,none⟩=some (.int .u8 t6.k):=zc d4 rfl;have g1:w7.drew.cell? ⟨w.heap.size+1,1,none⟩=some (.int .i64 t6.n):=zc d4 rfl;have g2:w7.drew.cell? ⟨w.heap.size+1,2,none⟩=some (.string t6.s):=zc d4 rfl
   have g3:w7.drew.cell? ⟨w.heap.size+1,3,none⟩=some (.slice A6 t6.ks.length c6):=zc d4 rfl;have g4:w7.drew.cell? ⟨w.heap.size+1+1,0,none⟩=some (.int .u8 t7.k):=zc d5 rfl;have g5:w7.drew.cell? ⟨w.heap.size+1+1,1,none⟩=some (.int .i64 t7.n):=zc d5 rfl;have g6:w7.drew.cell? ⟨w.heap.size+1+1,2,none⟩=some (.string t7.s):=zc d5 rfl;have g7:w7.drew.cell? ⟨w.heap.size+1+1,3,none⟩=some (.slice A7 t7.ks.length c7):=zc d5 rfl;go_wp2_with fail;refine bodyPost_ret (v:=.tuple #[.agg #[.int .u8 t6.k,.int .i64 t6.n,.string t6.s,.slice A6 t6.ks.length c6],.agg #[.int .u8 t7.k,.int .i64 t7.n,.string t7.s,.slice A7 t7.ks.length c7]]) (by simp[results,Tryz.results208,go_sem,g0,g1,g2,g3,g4,g5,g6,g7]) rfl ⟨_,_,rfl,?_,?_,iT.out.drew.drew⟩
   ·simp only[fstT,lstT,if_true,if_false,Bool.false_eq_true,oq.out,oo.out];exact oD.out
   ·simp only[fstT,lstT,if_true,if_false,Bool.false_eq_true,oq.out,oo.out];exact vB.out
  ·go_upto_region 3 with fail;have hS5:(fun w':World=>(w'.cell? ⟨w1.heap.size,0,none⟩=some (.int .u8 t6.k)/\w'.cell? ⟨w1.heap.size,1,none⟩=some (.int .i64 t6.n)/\w'.cell? ⟨w1.heap.size,2,none⟩=some (.string t6.s)/\w'.cell? ⟨w1.heap.size,3,none⟩=some (.slice A6 t6.ks.length c6))/\(w'.cell? ⟨(w1.heap.size+1),0,none⟩=some (.int .u8 t7.k)/\w'.cell? ⟨(w1.heap.size+1),1,none⟩=some (.int .i64 t7.n)/\w'.cell? ⟨(w1.heap.size+1),2,none⟩=some (.string t7.s)/\w'.cell? ⟨(w1.heap.size+1),3,none⟩=some (.slice A7 t7.ks.length c7))) w5.drew:=⟨⟨zc aY.out rfl,zc aY.out rfl,zc aY.out rfl,zc aY.out rfl⟩,⟨zc aX.out rfl,zc aX.out rfl,zc aX.out rfl,zc aX.out rfl⟩⟩
   refine wp_region_noPanic ?_;refine zkc (fun w':World=>(w'.cell? ⟨w1.heap.size,0,none⟩=some (.int .u8 t6.k)/\w'.cell? ⟨w1.heap.size,1,none⟩=some (.int .i64 t6.n)/\w'.cell? ⟨w1.heap.size,2,none⟩=some (.string t6.s)/\w'.cell? ⟨w1.heap.size,3,none⟩=some (.slice A6 t6.ks.length c6))/\(w'.cell? ⟨(w1.heap.size+1),0,none⟩=some (.int .u8 t7.k)/\w'.cell? ⟨(w1.heap.size+1),1,none⟩=some (.int .i64 t7.n)/\w'.cell? ⟨(w1.heap.size+1),2,none⟩=some (.string t7.s)/\w'.cell? ⟨(w1.heap.size+1),3,none⟩=some (.slice A7 t7.ks.length c7))) (fun _:World=>True) 3 (by kernel_rfl) ?_;refine zkJ (i:=0) (v:=?_) rfl (by kernel_rfl) (by kernel_rfl) (by kernel_rfl) (by decide) (fun _ _ _ h=>h) (Or.inl ⟨by rfl,?_⟩) ⟨hS5,trivial⟩ ?_;rotate_left 1
   ·(intro w hSw;(try dsimp only at hSw);(try simp only[zA,zC]);go_simp;(try with_reducible rfl))
   (try simp only[zQ]);refine zkJ (i:=1) (v:=?_) rfl (by kernel_rfl) (by kernel_rfl) (by kernel_rfl) (by decide) (fun _ _ _ h=>h) (Or.inl ⟨by rfl,?_⟩) ⟨hS5,trivial⟩ ?_;rotate_left 1
   ·(intro w hSw;(try dsimp only at hSw);(try simp only[zA,zB,zC]);go_simp;(try with_reducible rfl))
   (try simp only[zQ]);have hsz:w.heap.size+1+1<w1.heap.size:=(Array.getElem?_eq_some_iff.mp eP.out).1;have aN:=zh (aj.out.trans (bB.out.mono (by omega)))
   have HC:=zh (show ∀ W':World,W'.heap[w1.heap.size]?=w5.heap[w1.heap.size]?->W'.heap[(w1.heap.size+1)]?=w5.heap[(w1.heap.size+1)]?->(fun w':World=>((w'.cell? ⟨w1.heap.size,0,none⟩=some (.int .u8 t6.k)/\w'.cell? ⟨w1.heap.size,1,none⟩=some (.int .i64 t6.n)/\w'.cell? ⟨w1.heap.size,2,none⟩=some (.string t6.s)/\w'.cell? ⟨w1.heap.size,3,none⟩=some (.slice A6 t6.ks.length c6))/\(w'.cell? ⟨(w1.heap.size+1),0,none⟩=some (.int .u8 t7.k)/\w'.cell? ⟨(w1.heap.size+1),1,none⟩=some (.int .i64 t7.n)/\w'.cell? ⟨(w1.heap.size+1),2,none⟩=some (.string t7.s)/\w'.cell? ⟨(w1.heap.size+1),3,none⟩=some (.slice A7 t7.ks.length c7)))) W'.drew from fun W' h6 h7=>⟨⟨zc (h6.trans aY.out) rfl,zc (h6.trans aY.out) rfl,zc (h6.trans aY.out) rfl,zc (h6.trans aY.out) rfl⟩,⟨zc (h7.trans aX.out) rfl,zc (h7.trans aX.out) rfl,zc (h7.trans aX.out) rfl,zc (h7.trans aX.out) rfl⟩⟩);have xq:=zh iL.out;have aL:=iL.out
   have iK:=qx.out;have c0:w5.cell? ⟨(w.heap.size+1),0,none⟩=some (.int .u8 0):=zc aL rfl;have c1:w5.cell? ⟨(w.heap.size+1),1,none⟩=some (.int .i64 0):=zc aL rfl;have c2:w5.cell? ⟨(w.heap.size+1),2,none⟩=some (.string ⟨#[]⟩):=zc aL rfl;have c3:w5.cell? ⟨(w.heap.size+1),3,none⟩=some (.slice none 0 0):=zc aL rfl;have cf:∀ o,w5.frozen? ⟨(w.heap.size+1),o,none⟩=false:=fun _=>zf aL;refine zo 2 fun K hK=>?_;(try simp only[zA,zB,zC]);go_simp;obtain⟨hh,hch⟩:=set4 (u0:=(.int .u8 t7.k)) (u1:=(.int .i64 t7.n)) (u2:=(.string t7.s)) (u3:=(.slice A7 t7.ks.length c7)) aL;obtain⟨w6,hwn⟩:∃ x,(((w5.setCell ⟨(w.heap.size+1),0,none⟩ (.int .u8 t7.k)).setCell ⟨(w.heap.size+1),1,none⟩ (.int .i64 t7.n)).setCell ⟨(w.heap.size+1),2,none⟩ (.string t7.s)).setCell ⟨(w.heap.size+1),3,none⟩ (.slice A7 t7.ks.length c7)=x:=⟨_,rfl⟩
   rw[hwn] at hh hch ⊢;clear c0 c1 c2 c3 cf hwn;have dP:=zh (aN.out.trans (hch.below aN.out.size fun b e=>by omega));have k6:=hch.block (w1.heap.size) (Array.getElem?_eq_some_iff.mp aY.out).1 (by omega);have k7:=hch.block ((w1.heap.size+1)) (Array.getElem?_eq_some_iff.mp aX.out).1 (by omega);have aK:=hch.keep iK (by omega);refine hK.out _ _ ⟨HC.out _ k6 k7,trivial⟩ ?_;have rC:=zh hh;have K6:=zh k6;have K7:=zh k7;have fO:=zh hch;clear hK K k6 k7 hh hch;(try simp only[zQ]);have c0:w6.cell? ⟨(w.heap.size+1+1),0,none⟩=some (.int .u8 0):=zc aK rfl;have c1:w6.cell? ⟨(w.heap.size+1+1),1,none⟩=some (.int .i64 0):=zc aK rfl;have c2:w6.cell? ⟨(w.heap.size+1+1),2,none⟩=some (.string ⟨#[]⟩):=zc aK rfl;have c3:w6.cell? ⟨(w.heap.size+1+1),3,none⟩=some (.slice none 0 0):=zc aK rfl;have cf:∀ o,w6.frozen? ⟨(w.heap.size+1+1),o,none⟩=false:=fun _=>zf aK;refine zp 3 fun K hK=>?_
   (try simp only[zA,zB,zC]);go_simp;obtain⟨hh,hch⟩:=set4 (u0:=(.int .u8 t6.k)) (u1:=(.int .i64 t6.n)) (u2:=(.string t6.s)) (u3:=(.slice A6 t6.ks.length c6)) aK;obtain⟨w7,hwn⟩:∃ x,(((w6.setCell ⟨(w.heap.size+1+1),0,none⟩ (.int .u8 t6.k)).setCell ⟨(w.heap.size+1+1),1,none⟩ (.int .i64 t6.n)).setCell ⟨(w.heap.size+1+1),2,none⟩ (.string t6.s)).setCell ⟨(w.heap.size+1+1),3,none⟩ (.slice A6 t6.ks.length c6)=x:=⟨_,rfl⟩
   rw[hwn] at hh hch ⊢;clear c0 c1 c2 c3 cf hwn;have iT:=zh (dP.out.trans (hch.below dP.out.size fun b e=>by omega));have k6:=hch.block (w1.heap.size) (by have:=(Array.getElem?_eq_some_iff.mp aY.out).1;have:=fO.out.size;omega) (by omega);have k7:=hch.block ((w1.heap.size+1)) (by have:=(Array.getElem?_eq_some_iff.mp aX.out).1;have:=fO.out.size;omega) (by omega);have iR:=zh (hch.keep rC.out (by omega));refine hK.out _ _ (HC.out _ (k6.trans K6.out) (k7.trans K7.out)) ?_;have rA:=zh hh;clear hK K k6 k7 hh hch;(try simp only[zQ]);refine zd ?_;refine NoPanic.normal ?_;have d4:=iR.out;have d5:=rA.out;have g0:w7.drew.cell? ⟨w.heap.size+1,0,none⟩=some (.int .u8 t7.k):=zc d4 rfl;have g1:w7.drew.cell? ⟨w.heap.size+1,1,none⟩=some (.int .i64 t7.n):=zc d4 rfl;have g2:w7.drew.cell? ⟨w.heap.size+1,2,none⟩=some (.string t7.s):=zc d4 rfl
   have g3:w7.drew.cell? ⟨w.heap.size+1,3,none⟩=some (.slice A7 t7.ks.length c7):=zc d4 rfl;have g4:w7.drew.cell? ⟨w.heap.size+1+1,0,none⟩=some (.int .u8 t6.k):=zc d5 rfl;have g5:w7.drew.cell? ⟨w.heap.size+1+1,1,none⟩=some (.int .i64 t6.n):=zc d5 rfl;have g6:w7.drew.cell? ⟨w.heap.size+1+1,2,none⟩=some (.string t6.s):=zc d5 rfl;have g7:w7.drew.cell? ⟨w.heap.size+1+1,3,none⟩=some (.slice A6 t6.ks.length c6):=zc d5 rfl;go_wp2_with fail;refine bodyPost_ret (v:=.tuple #[.agg #[.int .u8 t7.k,.int .i64 t7.n,.string t7.s,.slice A7 t7.ks.length c7],.agg #[.int .u8 t6.k,.int .i64 t6.n,.string t6.s,.slice A6 t6.ks.length c6]]) (by simp[results,Tryz.results208,go_sem,g0,g1,g2,g3,g4,g5,g6,g7]) rfl ⟨_,_,rfl,?_,?_,iT.out.drew.drew⟩
   ·simp only[fstT,lstT,if_true,if_false,Bool.false_eq_true,oo.out,oq.out];exact vB.out
   ·simp only[fstT,lstT,if_true,if_false,Bool.false_eq_true,oo.out,oq.out];exact oD.out
 ·skip
  (try simp only[zA,zB,zC]);go_simp;have hb2:=zkb (Below.refl w1.heap.size w1) (.cells #[.int .u8 0,.int .i64 0,.string ⟨#[]⟩,.slice none 0 0] 29);refine hK.out _ _ ⟨lV.out _ hb2.drew,trivial⟩ ?_;clear hK K;(try simp only[zQ]);refine zo 12 fun K hK=>?_;(try simp only[zA,zB,zC]);go_simp;have hb3:Below w1.heap.size w1 ((w1.alloc (.cells #[.int .u8 0,.int .i64 0,.string ⟨#[]⟩,.slice none 0 0] 29)).alloc (.cells #[.int .u8 0,.int .i64 0,.string ⟨#[]⟩,.slice none 0 0] 29)):=zkb hb2 (.cells #[.int .u8 0,.int .i64 0,.string ⟨#[]⟩,.slice none 0 0] 29);have eT:=zkl (heap_alloc_new w1 (.cells #[.int .u8 0,.int .i64 0,.string ⟨#[]⟩,.slice none 0 0] 29)) (.cells #[.int .u8 0,.int .i64 0,.string ⟨#[]⟩,.slice none 0 0] 29);have fZ:=heap_alloc_new (w1.alloc (.cells #[.int .u8 0,.int .i64 0,.string ⟨#[]⟩,.slice none 0 0] 29)) (.cells #[.int .u8 0,.int .i64 0,.string ⟨#[]⟩,.slice none 0 0] 29)
  rw[World.size_alloc] at fZ;refine hK.out _ _ ⟨lV.out _ hb3.drew,trivial⟩ ?_;clear hK K;(try simp only[zQ]);obtain⟨w3,hw3⟩:∃ x,(w1.alloc (.cells #[.int .u8 0,.int .i64 0,.string ⟨#[]⟩,.slice none 0 0] 29)).alloc (.cells #[.int .u8 0,.int .i64 0,.string ⟨#[]⟩,.slice none 0 0] 29)=x:=⟨_,rfl⟩
  rw[hw3] at hb3 eT fZ ⊢;clear hw3 hb2;have HB3:=zh hb3;have c0:w3.cell? ⟨(w1.heap.size+1),0,none⟩=some (.int .u8 0):=zc fZ rfl;have c1:w3.cell? ⟨(w1.heap.size+1),1,none⟩=some (.int .i64 0):=zc fZ rfl;have c2:w3.cell? ⟨(w1.heap.size+1),2,none⟩=some (.string ⟨#[]⟩):=zc fZ rfl;have c3:w3.cell? ⟨(w1.heap.size+1),3,none⟩=some (.slice none 0 0):=zc fZ rfl;have cf:∀ o,w3.frozen? ⟨(w1.heap.size+1),o,none⟩=false:=fun _=>zf fZ;refine zo 14 fun K hK=>?_;(try simp only[zA,zB,zC]);go_simp;obtain⟨hh,hch⟩:=set4 (u0:=(.int .u8 t6.k)) (u1:=(.int .i64 t6.n)) (u2:=(.string t6.s)) (u3:=(.slice A6 t6.ks.length c6)) fZ;obtain⟨w4,hwn⟩:∃ x,(((w3.setCell ⟨(w1.heap.size+1),0,none⟩ (.int .u8 t6.k)).setCell ⟨(w1.heap.size+1),1,none⟩ (.int .i64 t6.n)).setCell ⟨(w1.heap.size+1),2,none⟩ (.string t6.s)).setCell ⟨(w1.heap.size+1),3,none⟩ (.slice A6 t6.ks.length c6)=x:=⟨_,rfl⟩
  rw[hwn] at hh hch ⊢;have hb4:Below w1.heap.size w1 w4:=HB3.out.trans (hch.below HB3.out.size fun b e=>by omega);refine hK.out _ _ ⟨lV.out _ hb4.drew,trivial⟩ ?_;clear hK K c0 c1 c2 c3 cf hwn;(try simp only[zQ]);have aC:=zh hb4;have bI:=hch.keep eT (by omega);have c0:w4.cell? ⟨w1.heap.size,0,none⟩=some (.int .u8 0):=zc bI rfl;have c1:w4.cell? ⟨w1.heap.size,1,none⟩=some (.int .i64 0):=zc bI rfl;have c2:w4.cell? ⟨w1.heap.size,2,none⟩=some (.string ⟨#[]⟩):=zc bI rfl;have c3:w4.cell? ⟨w1.heap.size,3,none⟩=some (.slice none 0 0):=zc bI rfl;have cf:∀ o,w4.frozen? ⟨w1.heap.size,o,none⟩=false:=fun _=>zf bI;refine zp 15 fun K hK=>?_;(try simp only[zA,zB,zC]);go_simp;obtain⟨lT,aV⟩:=set4 (u0:=(.int .u8 t7.k)) (u1:=(.int .i64 t7.n)) (u2:=(.string t7.s)) (u3:=(.slice A7 t7.ks.length c7)) bI
  obtain⟨w5,hwn⟩:∃ x,(((w4.setCell ⟨w1.heap.size,0,none⟩ (.int .u8 t7.k)).setCell ⟨w1.heap.size,1,none⟩ (.int .i64 t7.n)).setCell ⟨w1.heap.size,2,none⟩ (.string t7.s)).setCell ⟨w1.heap.size,3,none⟩ (.slice A7 t7.ks.length c7)=x:=⟨_,rfl⟩
  rw[hwn] at lT aV ⊢;have hb5:Below w1.heap.size w1 w5:=aC.out.trans (aV.below aC.out.size fun b e=>by omega);refine hK.out _ _ (lV.out _ hb5.drew) ?_;clear hK K c0 c1 c2 c3 cf hwn;(try simp only[zQ]);have aY:=zh (aV.keep hh (by omega));have aX:=zh lT;have bB:=zh (show Below w1.heap.size w1 w5 from hb5);clear hb3 eT fZ bI hh lT hch aV hb4 hb5 aC HB3 lV;refine zd ?_;refine NoPanic.normal ?_;have iL:=zh (zkd eZ.out bB.out);have qx:=zh (zkd eP.out bB.out)
  cases back
  ·go_upto_region 4 with fail;have hS5:(fun w':World=>(w'.cell? ⟨(w1.heap.size+1),0,none⟩=some (.int .u8 t6.k)/\w'.cell? ⟨(w1.heap.size+1),1,none⟩=some (.int .i64 t6.n)/\w'.cell? ⟨(w1.heap.size+1),2,none⟩=some (.string t6.s)/\w'.cell? ⟨(w1.heap.size+1),3,none⟩=some (.slice A6 t6.ks.length c6))/\(w'.cell? ⟨w1.heap.size,0,none⟩=some (.int .u8 t7.k)/\w'.cell? ⟨w1.heap.size,1,none⟩=some (.int .i64 t7.n)/\w'.cell? ⟨w1.heap.size,2,none⟩=some (.string t7.s)/\w'.cell? ⟨w1.heap.size,3,none⟩=some (.slice A7 t7.ks.length c7))) w5.drew:=⟨⟨zc aY.out rfl,zc aY.out rfl,zc aY.out rfl,zc aY.out rfl⟩,⟨zc aX.out rfl,zc aX.out rfl,zc aX.out rfl,zc aX.out rfl⟩⟩
   refine wp_region_noPanic ?_;refine zkc (fun w':World=>(w'.cell? ⟨(w1.heap.size+1),0,none⟩=some (.int .u8 t6.k)/\w'.cell? ⟨(w1.heap.size+1),1,none⟩=some (.int .i64 t6.n)/\w'.cell? ⟨(w1.heap.size+1),2,none⟩=some (.string t6.s)/\w'.cell? ⟨(w1.heap.size+1),3,none⟩=some (.slice A6 t6.ks.length c6))/\(w'.cell? ⟨w1.heap.size,0,none⟩=some (.int .u8 t7.k)/\w'.cell? ⟨w1.heap.size,1,none⟩=some (.int .i64 t7.n)/\w'.cell? ⟨w1.heap.size,2,none⟩=some (.string t7.s)/\w'.cell? ⟨w1.heap.size,3,none⟩=some (.slice A7 t7.ks.length c7))) (fun _:World=>True) 3 (by kernel_rfl) ?_;refine zkJ (i:=0) (v:=?_) rfl (by kernel_rfl) (by kernel_rfl) (by kernel_rfl) (by decide) (fun _ _ _ h=>h) (Or.inl ⟨by rfl,?_⟩) ⟨hS5,trivial⟩ ?_;rotate_left 1
   ·(intro w hSw;(try dsimp only at hSw);(try simp only[zA,zC]);go_simp;(try with_reducible rfl))
   (try simp only[zQ]);refine zkJ (i:=1) (v:=?_) rfl (by kernel_rfl) (by kernel_rfl) (by kernel_rfl) (by decide) (fun _ _ _ h=>h) (Or.inl ⟨by rfl,?_⟩) ⟨hS5,trivial⟩ ?_;rotate_left 1
   ·(intro w hSw;(try dsimp only at hSw);(try simp only[zA,zB,zC]);go_simp;(try with_reducible rfl))
   (try simp only[zQ]);have hsz:w.heap.size+1+1<w1.heap.size:=(Array.getElem?_eq_some_iff.mp eP.out).1;have aN:=zh (aj.out.trans (bB.out.mono (by omega)))
   have HC:=zh (show ∀ W':World,W'.heap[(w1.heap.size+1)]?=w5.heap[(w1.heap.size+1)]?->W'.heap[w1.heap.size]?=w5.heap[w1.heap.size]?->(fun w':World=>((w'.cell? ⟨(w1.heap.size+1),0,none⟩=some (.int .u8 t6.k)/\w'.cell? ⟨(w1.heap.size+1),1,none⟩=some (.int .i64 t6.n)/\w'.cell? ⟨(w1.heap.size+1),2,none⟩=some (.string t6.s)/\w'.cell? ⟨(w1.heap.size+1),3,none⟩=some (.slice A6 t6.ks.length c6))/\(w'.cell? ⟨w1.heap.size,0,none⟩=some (.int .u8 t7.k)/\w'.cell? ⟨w1.heap.size,1,none⟩=some (.int .i64 t7.n)/\w'.cell? ⟨w1.heap.size,2,none⟩=some (.string t7.s)/\w'.cell? ⟨w1.heap.size,3,none⟩=some (.slice A7 t7.ks.length c7)))) W'.drew from fun W' h6 h7=>⟨⟨zc (h6.trans aY.out) rfl,zc (h6.trans aY.out) rfl,zc (h6.trans aY.out) rfl,zc (h6.trans aY.out) rfl⟩,⟨zc (h7.trans aX.out) rfl,zc (h7.trans aX.out) rfl,zc (h7.trans aX.out) rfl,zc (h7.trans aX.out) rfl⟩⟩);have xq:=zh iL.out;have aL:=iL.out
   have iK:=qx.out;have c0:w5.cell? ⟨(w.heap.size+1),0,none⟩=some (.int .u8 0):=zc aL rfl;have c1:w5.cell? ⟨(w.heap.size+1),1,none⟩=some (.int .i64 0):=zc aL rfl;have c2:w5.cell? ⟨(w.heap.size+1),2,none⟩=some (.string ⟨#[]⟩):=zc aL rfl;have c3:w5.cell? ⟨(w.heap.size+1),3,none⟩=some (.slice none 0 0):=zc aL rfl;have cf:∀ o,w5.frozen? ⟨(w.heap.size+1),o,none⟩=false:=fun _=>zf aL;refine zo 2 fun K hK=>?_;(try simp only[zA,zB,zC]);go_simp;obtain⟨hh,hch⟩:=set4 (u0:=(.int .u8 t6.k)) (u1:=(.int .i64 t6.n)) (u2:=(.string t6.s)) (u3:=(.slice A6 t6.ks.length c6)) aL;obtain⟨w6,hwn⟩:∃ x,(((w5.setCell ⟨(w.heap.size+1),0,none⟩ (.int .u8 t6.k)).setCell ⟨(w.heap.size+1),1,none⟩ (.int .i64 t6.n)).setCell ⟨(w.heap.size+1),2,none⟩ (.string t6.s)).setCell ⟨(w.heap.size+1),3,none⟩ (.slice A6 t6.ks.length c6)=x:=⟨_,rfl⟩
   rw[hwn] at hh hch ⊢;clear c0 c1 c2 c3 cf hwn;have dP:=zh (aN.out.trans (hch.below aN.out.size fun b e=>by omega));have k6:=hch.block ((w1.heap.size+1)) (Array.getElem?_eq_some_iff.mp aY.out).1 (by omega);have k7:=hch.block (w1.heap.size) (Array.getElem?_eq_some_iff.mp aX.out).1 (by omega);have aK:=hch.keep iK (by omega);refine hK.out _ _ ⟨HC.out _ k6 k7,trivial⟩ ?_;have rC:=zh hh;have K6:=zh k6;have K7:=zh k7;have fO:=zh hch;clear hK K k6 k7 hh hch;(try simp only[zQ]);have c0:w6.cell? ⟨(w.heap.size+1+1),0,none⟩=some (.int .u8 0):=zc aK rfl;have c1:w6.cell? ⟨(w.heap.size+1+1),1,none⟩=some (.int .i64 0):=zc aK rfl;have c2:w6.cell? ⟨(w.heap.size+1+1),2,none⟩=some (.string ⟨#[]⟩):=zc aK rfl;have c3:w6.cell? ⟨(w.heap.size+1+1),3,none⟩=some (.slice none 0 0):=zc aK rfl;have cf:∀ o,w6.frozen? ⟨(w.heap.size+1+1),o,none⟩=false:=fun _=>zf aK;refine zp 3 fun K hK=>?_
   (try simp only[zA,zB,zC]);go_simp;obtain⟨hh,hch⟩:=set4 (u0:=(.int .u8 t7.k)) (u1:=(.int .i64 t7.n)) (u2:=(.string t7.s)) (u3:=(.slice A7 t7.ks.length c7)) aK;obtain⟨w7,hwn⟩:∃ x,(((w6.setCell ⟨(w.heap.size+1+1),0,none⟩ (.int .u8 t7.k)).setCell ⟨(w.heap.size+1+1),1,none⟩ (.int .i64 t7.n)).setCell ⟨(w.heap.size+1+1),2,none⟩ (.string t7.s)).setCell ⟨(w.heap.size+1+1),3,none⟩ (.slice A7 t7.ks.length c7)=x:=⟨_,rfl⟩
   rw[hwn] at hh hch ⊢;clear c0 c1 c2 c3 cf hwn;have iT:=zh (dP.out.trans (hch.below dP.out.size fun b e=>by omega));have k6:=hch.block ((w1.heap.size+1)) (by have:=(Array.getElem?_eq_some_iff.mp aY.out).1;have:=fO.out.size;omega) (by omega);have k7:=hch.block (w1.heap.size) (by have:=(Array.getElem?_eq_some_iff.mp aX.out).1;have:=fO.out.size;omega) (by omega);have iR:=zh (hch.keep rC.out (by omega));refine hK.out _ _ (HC.out _ (k6.trans K6.out) (k7.trans K7.out)) ?_;have rA:=zh hh;clear hK K k6 k7 hh hch;(try simp only[zQ]);refine zd ?_;refine NoPanic.normal ?_;have d4:=iR.out;have d5:=rA.out;have g0:w7.drew.cell? ⟨w.heap.size+1,0,none⟩=some (.int .u8 t6.k):=zc d4 rfl;have g1:w7.drew.cell? ⟨w.heap.size+1,1,none⟩=some (.int .i64 t6.n):=zc d4 rfl;have g2:w7.drew.cell? ⟨w.heap.size+1,2,none⟩=some (.string t6.s):=zc d4 rfl
   have g3:w7.drew.cell? ⟨w.heap.size+1,3,none⟩=some (.slice A6 t6.ks.length c6):=zc d4 rfl;have g4:w7.drew.cell? ⟨w.heap.size+1+1,0,none⟩=some (.int .u8 t7.k):=zc d5 rfl;have g5:w7.drew.cell? ⟨w.heap.size+1+1,1,none⟩=some (.int .i64 t7.n):=zc d5 rfl;have g6:w7.drew.cell? ⟨w.heap.size+1+1,2,none⟩=some (.string t7.s):=zc d5 rfl;have g7:w7.drew.cell? ⟨w.heap.size+1+1,3,none⟩=some (.slice A7 t7.ks.length c7):=zc d5 rfl;go_wp2_with fail;refine bodyPost_ret (v:=.tuple #[.agg #[.int .u8 t6.k,.int .i64 t6.n,.string t6.s,.slice A6 t6.ks.length c6],.agg #[.int .u8 t7.k,.int .i64 t7.n,.string t7.s,.slice A7 t7.ks.length c7]]) (by simp[results,Tryz.results208,go_sem,g0,g1,g2,g3,g4,g5,g6,g7]) rfl ⟨_,_,rfl,?_,?_,iT.out.drew.drew⟩
   ·simp only[fstT,lstT,if_true,if_false,Bool.false_eq_true,oq.out,oo.out];exact oD.out
   ·simp only[fstT,lstT,if_true,if_false,Bool.false_eq_true,oq.out,oo.out];exact vB.out
  ·go_upto_region 3 with fail;have hS5:(fun w':World=>(w'.cell? ⟨(w1.heap.size+1),0,none⟩=some (.int .u8 t6.k)/\w'.cell? ⟨(w1.heap.size+1),1,none⟩=some (.int .i64 t6.n)/\w'.cell? ⟨(w1.heap.size+1),2,none⟩=some (.string t6.s)/\w'.cell? ⟨(w1.heap.size+1),3,none⟩=some (.slice A6 t6.ks.length c6))/\(w'.cell? ⟨w1.heap.size,0,none⟩=some (.int .u8 t7.k)/\w'.cell? ⟨w1.heap.size,1,none⟩=some (.int .i64 t7.n)/\w'.cell? ⟨w1.heap.size,2,none⟩=some (.string t7.s)/\w'.cell? ⟨w1.heap.size,3,none⟩=some (.slice A7 t7.ks.length c7))) w5.drew:=⟨⟨zc aY.out rfl,zc aY.out rfl,zc aY.out rfl,zc aY.out rfl⟩,⟨zc aX.out rfl,zc aX.out rfl,zc aX.out rfl,zc aX.out rfl⟩⟩
   refine wp_region_noPanic ?_;refine zkc (fun w':World=>(w'.cell? ⟨(w1.heap.size+1),0,none⟩=some (.int .u8 t6.k)/\w'.cell? ⟨(w1.heap.size+1),1,none⟩=some (.int .i64 t6.n)/\w'.cell? ⟨(w1.heap.size+1),2,none⟩=some (.string t6.s)/\w'.cell? ⟨(w1.heap.size+1),3,none⟩=some (.slice A6 t6.ks.length c6))/\(w'.cell? ⟨w1.heap.size,0,none⟩=some (.int .u8 t7.k)/\w'.cell? ⟨w1.heap.size,1,none⟩=some (.int .i64 t7.n)/\w'.cell? ⟨w1.heap.size,2,none⟩=some (.string t7.s)/\w'.cell? ⟨w1.heap.size,3,none⟩=some (.slice A7 t7.ks.length c7))) (fun _:World=>True) 3 (by kernel_rfl) ?_;refine zkJ (i:=0) (v:=?_) rfl (by kernel_rfl) (by kernel_rfl) (by kernel_rfl) (by decide) (fun _ _ _ h=>h) (Or.inl ⟨by rfl,?_⟩) ⟨hS5,trivial⟩ ?_;rotate_left 1
   ·(intro w hSw;(try dsimp only at hSw);(try simp only[zA,zC]);go_simp;(try with_reducible rfl))
   (try simp only[zQ]);refine zkJ (i:=1) (v:=?_) rfl (by kernel_rfl) (by kernel_rfl) (by kernel_rfl) (by decide) (fun _ _ _ h=>h) (Or.inl ⟨by rfl,?_⟩) ⟨hS5,trivial⟩ ?_;rotate_left 1
   ·(intro w hSw;(try dsimp only at hSw);(try simp only[zA,zB,zC]);go_simp;(try with_reducible rfl))
   (try simp only[zQ]);have hsz:w.heap.size+1+1<w1.heap.size:=(Array.getElem?_eq_some_iff.mp eP.out).1;have aN:=zh (aj.out.trans (bB.out.mono (by omega)))
   have HC:=zh (show ∀ W':World,W'.heap[(w1.heap.size+1)]?=w5.heap[(w1.heap.size+1)]?->W'.heap[w1.heap.size]?=w5.heap[w1.heap.size]?->(fun w':World=>((w'.cell? ⟨(w1.heap.size+1),0,none⟩=some (.int .u8 t6.k)/\w'.cell? ⟨(w1.heap.size+1),1,none⟩=some (.int .i64 t6.n)/\w'.cell? ⟨(w1.heap.size+1),2,none⟩=some (.string t6.s)/\w'.cell? ⟨(w1.heap.size+1),3,none⟩=some (.slice A6 t6.ks.length c6))/\(w'.cell? ⟨w1.heap.size,0,none⟩=some (.int .u8 t7.k)/\w'.cell? ⟨w1.heap.size,1,none⟩=some (.int .i64 t7.n)/\w'.cell? ⟨w1.heap.size,2,none⟩=some (.string t7.s)/\w'.cell? ⟨w1.heap.size,3,none⟩=some (.slice A7 t7.ks.length c7)))) W'.drew from fun W' h6 h7=>⟨⟨zc (h6.trans aY.out) rfl,zc (h6.trans aY.out) rfl,zc (h6.trans aY.out) rfl,zc (h6.trans aY.out) rfl⟩,⟨zc (h7.trans aX.out) rfl,zc (h7.trans aX.out) rfl,zc (h7.trans aX.out) rfl,zc (h7.trans aX.out) rfl⟩⟩);have xq:=zh iL.out;have aL:=iL.out
   have iK:=qx.out;have c0:w5.cell? ⟨(w.heap.size+1),0,none⟩=some (.int .u8 0):=zc aL rfl;have c1:w5.cell? ⟨(w.heap.size+1),1,none⟩=some (.int .i64 0):=zc aL rfl;have c2:w5.cell? ⟨(w.heap.size+1),2,none⟩=some (.string ⟨#[]⟩):=zc aL rfl;have c3:w5.cell? ⟨(w.heap.size+1),3,none⟩=some (.slice none 0 0):=zc aL rfl;have cf:∀ o,w5.frozen? ⟨(w.heap.size+1),o,none⟩=false:=fun _=>zf aL;refine zo 2 fun K hK=>?_;(try simp only[zA,zB,zC]);go_simp;obtain⟨hh,hch⟩:=set4 (u0:=(.int .u8 t7.k)) (u1:=(.int .i64 t7.n)) (u2:=(.string t7.s)) (u3:=(.slice A7 t7.ks.length c7)) aL;obtain⟨w6,hwn⟩:∃ x,(((w5.setCell ⟨(w.heap.size+1),0,none⟩ (.int .u8 t7.k)).setCell ⟨(w.heap.size+1),1,none⟩ (.int .i64 t7.n)).setCell ⟨(w.heap.size+1),2,none⟩ (.string t7.s)).setCell ⟨(w.heap.size+1),3,none⟩ (.slice A7 t7.ks.length c7)=x:=⟨_,rfl⟩
   rw[hwn] at hh hch ⊢;clear c0 c1 c2 c3 cf hwn;have dP:=zh (aN.out.trans (hch.below aN.out.size fun b e=>by omega));have k6:=hch.block ((w1.heap.size+1)) (Array.getElem?_eq_some_iff.mp aY.out).1 (by omega);have k7:=hch.block (w1.heap.size) (Array.getElem?_eq_some_iff.mp aX.out).1 (by omega);have aK:=hch.keep iK (by omega);refine hK.out _ _ ⟨HC.out _ k6 k7,trivial⟩ ?_;have rC:=zh hh;have K6:=zh k6;have K7:=zh k7;have fO:=zh hch;clear hK K k6 k7 hh hch;(try simp only[zQ]);have c0:w6.cell? ⟨(w.heap.size+1+1),0,none⟩=some (.int .u8 0):=zc aK rfl;have c1:w6.cell? ⟨(w.heap.size+1+1),1,none⟩=some (.int .i64 0):=zc aK rfl;have c2:w6.cell? ⟨(w.heap.size+1+1),2,none⟩=some (.string ⟨#[]⟩):=zc aK rfl;have c3:w6.cell? ⟨(w.heap.size+1+1),3,none⟩=some (.slice none 0 0):=zc aK rfl;have cf:∀ o,w6.frozen? ⟨(w.heap.size+1+1),o,none⟩=false:=fun _=>zf aK;refine zp 3 fun K hK=>?_
   (try simp only[zA,zB,zC]);go_simp;obtain⟨hh,hch⟩:=set4 (u0:=(.int .u8 t6.k)) (u1:=(.int .i64 t6.n)) (u2:=(.string t6.s)) (u3:=(.slice A6 t6.ks.length c6)) aK;obtain⟨w7,hwn⟩:∃ x,(((w6.setCell ⟨(w.heap.size+1+1),0,none⟩ (.int .u8 t6.k)).setCell ⟨(w.heap.size+1+1),1,none⟩ (.int .i64 t6.n)).setCell ⟨(w.heap.size+1+1),2,none⟩ (.string t6.s)).setCell ⟨(w.heap.size+1+1),3,none⟩ (.slice A6 t6.ks.length c6)=x:=⟨_,rfl⟩
   rw[hwn] at hh hch ⊢;clear c0 c1 c2 c3 cf hwn;have iT:=zh (dP.out.trans (hch.below dP.out.size fun b e=>by omega));have k6:=hch.block ((w1.heap.size+1)) (by have:=(Array.getElem?_eq_some_iff.mp aY.out).1;have:=fO.out.size;omega) (by omega);have k7:=hch.block (w1.heap.size) (by have:=(Array.getElem?_eq_some_iff.mp aX.out).1;have:=fO.out.size;omega) (by omega);have iR:=zh (hch.keep rC.out (by omega));refine hK.out _ _ (HC.out _ (k6.trans K6.out) (k7.trans K7.out)) ?_;have rA:=zh hh;clear hK K k6 k7 hh hch;(try simp only[zQ]);refine zd ?_;refine NoPanic.normal ?_;have d4:=iR.out;have d5:=rA.out;have g0:w7.drew.cell? ⟨w.heap.size+1,0,none⟩=some (.int .u8 t7.k):=zc d4 rfl;have g1:w7.drew.cell? ⟨w.heap.size+1,1,none⟩=some (.int .i64 t7.n):=zc d4 rfl;have g2:w7.drew.cell? ⟨w.heap.size+1,2,none⟩=some (.string t7.s):=zc d4 rfl
   have g3:w7.drew.cell? ⟨w.heap.size+1,3,none⟩=some (.slice A7 t7.ks.length c7):=zc d4 rfl;have g4:w7.drew.cell? ⟨w.heap.size+1+1,0,none⟩=some (.int .u8 t6.k):=zc d5 rfl;have g5:w7.drew.cell? ⟨w.heap.size+1+1,1,none⟩=some (.int .i64 t6.n):=zc d5 rfl;have g6:w7.drew.cell? ⟨w.heap.size+1+1,2,none⟩=some (.string t6.s):=zc d5 rfl;have g7:w7.drew.cell? ⟨w.heap.size+1+1,3,none⟩=some (.slice A6 t6.ks.length c6):=zc d5 rfl;go_wp2_with fail;refine bodyPost_ret (v:=.tuple #[.agg #[.int .u8 t7.k,.int .i64 t7.n,.string t7.s,.slice A7 t7.ks.length c7],.agg #[.int .u8 t6.k,.int .i64 t6.n,.string t6.s,.slice A6 t6.ks.length c6]]) (by simp[results,Tryz.results208,go_sem,g0,g1,g2,g3,g4,g5,g6,g7]) rfl ⟨_,_,rfl,?_,?_,iT.out.drew.drew⟩
   ·simp only[fstT,lstT,if_true,if_false,Bool.false_eq_true,oo.out,oq.out];exact vB.out
   ·simp only[fstT,lstT,if_true,if_false,Bool.false_eq_true,oo.out,oq.out];exact oD.out
def IStC (G:List PR->T->Prop) (g:Nat):Prop:=∀ C:RC,C.Ok->∀ (W:World) (r:RS),RI C W r->∀ (t:T) (v:Value) (back:Bool),NV C.w Any t v->G C.p.prs t->zkk C.p.prs C.F g back t r ≠ .gas ->
 Calls Tryz.prog 157 #[.pointer (some ⟨C.rb,0,none⟩),v,.bool back] W (RunP C W (zkk C.p.prs C.F g back t r))
theorem zlA {G:List PR->T->Prop} {g:Nat} (hS:IStC G g) {C:RC} (hC:C.Ok) {W:World} {r:RS} (h:RI C W r) (t:T) (v:Value) (back:Bool) (hv:NV C.w Any t v) (hG:∀ u∈t.ks,G C.p.prs u) (aA:runO C.p.prs C.F g back t r ≠ .gas) :
  Calls Tryz.prog 118 #[.pointer (some ⟨C.rb,0,none⟩),v,.bool back] W (RunP C W (runO C.p.prs C.F g back t r)):=by
 obtain⟨A,c,rfl,-,hlk,hlc,hrow⟩:=hv.open_;have ae:=zh hrow;have HS:=zh hS;have HG:=zh hG;have hb0:=zkb (Below.refl W.heap.size W) (.cells #[.int .u8 t.k,.int .i64 t.n,.string t.s,.slice A t.ks.length c] 29);obtain⟨bC,h1⟩:=h.plus hC hb0;have hz1:(W.alloc (.cells #[.int .u8 t.k,.int .i64 t.n,.string t.s,.slice A t.ks.length c] 29)).heap.size=W.heap.size+1:=by simp
 have hbx:=box4 (heap_alloc_new W (.cells #[.int .u8 t.k,.int .i64 t.n,.string t.s,.slice A t.ks.length c] 29));have aM:=zh (Kpt.of_below (n0:=C.n0) (kb:=C.kb) hb0);obtain⟨W1,hW1⟩:∃ x,W.alloc (.cells #[.int .u8 t.k,.int .i64 t.n,.string t.s,.slice A t.ks.length c] 29)=x:=⟨_,rfl⟩
 rw[hW1] at bC h1 hz1 hbx aM;obtain⟨hi,hhi⟩:∃ x,W1.heap.size=x:=⟨_,rfl⟩
 rw[hhi] at bC h1 hz1;have nO:=zh bC;have H1:=zh h1;have aO:=zh hbx;have hz2:W.heap.size<hi:=by omega
 have hwn:IntKind.i64.wrap ((t.ks.length:Int)-1)=(t.ks.length:Int)-1:=IntWalk.i64_in _ (by unfold LK at hlk;omega);have hwq:∀ j:Nat,j<t.ks.length->IntKind.i64.wrap ((t.ks.length:Int)-1-(j:Int))=((t.ks.length-1-j:Nat):Int):=fun j hj=>by rw[IntWalk.i64_in _ (by unfold LK at hlk;omega)];omega
 obtain⟨o,ho⟩:∃ o,runO C.p.prs C.F g back t r=o:=⟨_,rfl⟩
 have HO:=zh (show zkp (zkk C.p.prs C.F g back) ((blkL back t).drop 0) r=o by rw[List.drop_zero];exact ho);have nL:=zh (show o ≠ .gas from ho▸aA);have rY:(blkL back t).length=t.ks.length:=by unfold blkL;split<;>simp
 rw[ho];have gV:=zh rY;have hlk2:t.ks.length<=17592186044416:=by unfold LK at hlk;omega
 clear rY hlk;clear hv bC h1 hbx hb0 h hz1 hS hG hrow ho aA;obtain⟨x0,x1,x2,x3⟩:=aO.out;go_enter Tryz.func118,Tryz.ntmps118;go_wp2_with fail;clear x0 x1 x2 x3 hW1
 go_loopw [15] (fun i wr=>∃ (j:Nat) (r1:RS),j<=t.ks.length/\i=.int .i64 j/\Hid (RI (C.plus W.heap.size hi) wr r1)/\Hid (Kpt C.n0 (C.plus W.heap.size hi).kb W1 wr)/\Hid (zkp (zkk C.p.prs C.F g back) ((blkL back t).drop j) r1=o)) (fun i _=>t.ks.length-(intOf i).toNat)
 case atStart=>exact⟨0,r,Nat.zero_le _,rfl,H1,zh (Kpt.refl _ _ _),HO⟩
 case round =>
  obtain⟨j,r1,hj,rfl,HR,HK,HB⟩:=hrel;by_cases hlt:j<t.ks.length
  ·cases back
   ·skip
    have hj1:(j:Int)<(t.ks.length:Int):=by omega
    have hj0:(0:Int)<=(j:Int):=by omega
    have wI:j<t.ks.length:=by omega
    have hqs1:(j:Int)<(t.ks.length:Int):=by omega
    have hqs0:(0:Int)<=(j:Int):=by omega
    have dI:=HR.out.below;obtain⟨a,u,A1,c1,rfl,-,hu,⟨p0,p1,p2,p3⟩,hnu⟩:=ae.out.nd wI;have hgu:=HG.out u (by rw[<-hu.out];exact List.getElem_mem _);have hbs:zkp (zkk C.p.prs C.F g false) ((blkL false t).drop j) r1=(zkk C.p.prs C.F g false u r1).bind (zkp (zkk C.p.prs C.F g false) ((blkL false t).drop (j+1))):=by
     rw[show(blkL false t).drop j=u::(blkL false t).drop (j+1) by rw[List.drop_eq_getElem_cons (by rw[gV.out];exact hlt),<-hu.out];congr 1;all_goals simp[blkL,hlt]];rfl
    rw[HB.out] at hbs;have nQ:=zh hbs;have uj:=zh (HS.out (C.plus W.heap.size hi) nO.out wr r1 HR.out u _ false hnu hgu (fun e=>nL.out (by rw[hbs,show zkk C.p.prs C.F g false u r1=.gas from e];rfl)));have q0:=zb dI p0;have q1:=zb dI p1;have q2:=zb dI p2;have q3:=zb dI p3;have x3:wr.cell? ⟨W.heap.size,3,none⟩=some (.slice (some a) t.ks.length c):=HK.out.cell (.inr (.inr ⟨Nat.le_refl _,hz2⟩)) aO.out.2.2.2;clear hbs dI hnu hgu p0 p1 p2 p3 hu;go_wp2_with fail;refine uj.out.mono ?_;rintro e w2 ⟨hk2,hb2,ho2⟩;have fB:match zkk C.p.prs C.F g false u r1 with
     | .gas=>True
     | .err x=>e=zl2 x
     | .ok r=>(∃ u,e=.returned u)/\RI (C.plus W.heap.size hi) w2 r:=ho2
    have bg:=zh (HK.out.trans hk2);clear ho2 hk2 uj q0 q1 q2 q3 x3
    cases hx:zkk C.p.prs C.F g false u r1 with
    | gas=>exact absurd (by rw[nQ.out,hx];rfl) nL.out
    | err x =>
     rw[hx] at fB;subst fB;have ho3:o=.err x:=by rw[nQ.out,hx];rfl
     dsimp only;refine⟨rfl,aM.out.trans (Kpt.less bg.out),hb2,?_⟩;rw[ho3]
    | ok r2 =>
     rw[hx] at fB;obtain⟨⟨u2,rfl⟩,hr2⟩:=fB;have HR2:=zh hr2;have HB2:=zh (show zkp (zkk C.p.prs C.F g false) ((blkL false t).drop (j+1)) r2=o by rw[nQ.out,hx];rfl);clear hr2 hx;go_wp2_with fail
     go_roundw
     case rel=>exact⟨j+1,r2,by omega,by go_num,HR2,bg,HB2⟩
     case measure=>simp[intOf];omega
   ·skip
    have hwq1:=hwq j hlt;obtain⟨q,hq⟩:∃ q,t.ks.length-1-j=q:=⟨_,rfl⟩
    rw[hq] at hwq1;have hj1:(j:Int)<(t.ks.length:Int):=by omega
    have hj0:(0:Int)<=(j:Int):=by omega
    have wI:q<t.ks.length:=by omega
    have hqs1:(q:Int)<(t.ks.length:Int):=by omega
    have hqs0:(0:Int)<=(q:Int):=by omega
    have dI:=HR.out.below;obtain⟨a,u,A1,c1,rfl,-,hu,⟨p0,p1,p2,p3⟩,hnu⟩:=ae.out.nd wI;have hgu:=HG.out u (by rw[<-hu.out];exact List.getElem_mem _);have hbs:zkp (zkk C.p.prs C.F g true) ((blkL true t).drop j) r1=(zkk C.p.prs C.F g true u r1).bind (zkp (zkk C.p.prs C.F g true) ((blkL true t).drop (j+1))):=by
     rw[show(blkL true t).drop j=u::(blkL true t).drop (j+1) by rw[List.drop_eq_getElem_cons (by rw[gV.out];exact hlt),<-hu.out];congr 1;all_goals simp[blkL,hq]];rfl
    rw[HB.out] at hbs;have nQ:=zh hbs;have uj:=zh (HS.out (C.plus W.heap.size hi) nO.out wr r1 HR.out u _ true hnu hgu (fun e=>nL.out (by rw[hbs,show zkk C.p.prs C.F g true u r1=.gas from e];rfl)));have q0:=zb dI p0;have q1:=zb dI p1;have q2:=zb dI p2;have q3:=zb dI p3;have x3:wr.cell? ⟨W.heap.size,3,none⟩=some (.slice (some a) t.ks.length c):=HK.out.cell (.inr (.inr ⟨Nat.le_refl _,hz2⟩)) aO.out.2.2.2;clear hbs dI hnu hgu p0 p1 p2 p3 hu;go_wp2_with fail;refine uj.out.mono ?_;rintro e w2 ⟨hk2,hb2,ho2⟩;have fB:match zkk C.p.prs C.F g true u r1 with
     | .gas=>True
     | .err x=>e=zl2 x
     | .ok r=>(∃ u,e=.returned u)/\RI (C.plus W.heap.size hi) w2 r:=ho2
    have bg:=zh (HK.out.trans hk2);clear ho2 hk2 uj q0 q1 q2 q3 x3
    cases hx:zkk C.p.prs C.F g true u r1 with
    | gas=>exact absurd (by rw[nQ.out,hx];rfl) nL.out
    | err x =>
     rw[hx] at fB;subst fB;have ho3:o=.err x:=by rw[nQ.out,hx];rfl
     dsimp only;refine⟨rfl,aM.out.trans (Kpt.less bg.out),hb2,?_⟩;rw[ho3]
    | ok r2 =>
     rw[hx] at fB;obtain⟨⟨u2,rfl⟩,hr2⟩:=fB;have HR2:=zh hr2;have HB2:=zh (show zkp (zkk C.p.prs C.F g true) ((blkL true t).drop (j+1)) r2=o by rw[nQ.out,hx];rfl);clear hr2 hx;go_wp2_with fail
     go_roundw
     case rel=>exact⟨j+1,r2,by omega,by go_num,HR2,bg,HB2⟩
     case measure=>simp[intOf];omega
  ·have ho3:o=.ok r1:=by
    rw[<-HB.out,show(blkL back t).drop j=[] by rw[List.drop_eq_nil_iff,gV.out];omega];rfl
   have hbr:=HR.out.below;have hj1:¬ (j:Int)<(t.ks.length:Int):=by omega
   go_wp2_with fail;go_end0;refine⟨aM.out.trans (Kpt.less HK.out),hbr,?_⟩
   try rw[ho3]
   exact⟨⟨_,rfl⟩,HR.out.less⟩
def brO (prs:List PR) (F:Int) (g:Nat) (back:Bool) (t:T) (r:RS):Out :=
 zk0 F (fstT back t) r fun yes r=>(zkp (zkk prs F g back) (blkL back (if yes=true then kid t 1 else kid t 2)) r).bind (zkn F (lstT back t) yes)
theorem zuG {G:List PR->T->Prop} {g:Nat} (hS:IStC G g) {C:RC} (hC:C.Ok) {W:World} {r:RS} (h:RI C W r) (t:T) (v:Value) (back:Bool) (hv:NV C.w Any t v) (hk:t.ks.length=4) (hG1:∀ u∈(kid t 1).ks,G C.p.prs u) (hG2:∀ u∈(kid t 2).ks,G C.p.prs u)
  (aA:brO C.p.prs C.F g back t r ≠ .gas) :
  Calls Tryz.prog 193 #[.pointer (some ⟨C.rb,0,none⟩),v,.bool back] W (RunP C W (brO C.p.prs C.F g back t r)):=by
 obtain⟨A,c,rfl,-,hlk,hlc,hrow⟩:=hv.open_;have ae:=zh hrow;have HS:=zh hS;have HV:=zh hv;have hb0:=zkb (Below.refl W.heap.size W) (.cells #[.int .u8 t.k,.int .i64 t.n,.string t.s,.slice A t.ks.length c] 29);obtain⟨x0,x1,x2,x3⟩:=box4 (heap_alloc_new W (.cells #[.int .u8 t.k,.int .i64 t.n,.string t.s,.slice A t.ks.length c] 29));have HB0:=zh hb0;have H:=zh h;have HC:=zh hC;have HX:=zh (heap_alloc_new W (.cells #[.int .u8 t.k,.int .i64 t.n,.string t.s,.slice A t.ks.length c] 29));have lG:=zh (fun w' (hb:Below W.heap.size W w')=>zq8 t _ back C.w w' (zka h.below hb) hv (by omega));have nI:=zh hk;clear hrow hS hb0 h hv hk hC hlk;go_enter Tryz.func193,Tryz.ntmps193;go_wp2_with fail;refine(lG.out _ HB0.out).mono ?_;rintro e w2 ⟨v1,v2,rfl,n1,n2,b2⟩;obtain⟨t1,ht1⟩:∃ x,fstT back t=x:=⟨_,rfl⟩
 obtain⟨t2,ht2⟩:∃ x,lstT back t=x:=⟨_,rfl⟩
 have HT1:=zh ht1;have HT2:=zh ht2;rw[ht1] at n1;rw[ht2] at n2;obtain⟨A1,c1,rfl,-⟩:=n1.open_;obtain⟨A2,c2,rfl,-⟩:=n2.open_;have eG:=zh n1;have aF:=zh n2;have b3:=zkb (zkb (zka HB0.out b2) (.cells #[.int .u8 t1.k,.int .i64 t1.n,.string t1.s,.slice A1 t1.ks.length c1] 29)) (.cells #[.int .u8 t2.k,.int .i64 t2.n,.string t2.s,.slice A2 t2.ks.length c2] 29);have k0:=zkl (zkl (zkd HX.out b2) (.cells #[.int .u8 t1.k,.int .i64 t1.n,.string t1.s,.slice A1 t1.ks.length c1] 29)) (.cells #[.int .u8 t2.k,.int .i64 t2.n,.string t2.s,.slice A2 t2.ks.length c2] 29);have k1:=zkl (heap_alloc_new w2 (.cells #[.int .u8 t1.k,.int .i64 t1.n,.string t1.s,.slice A1 t1.ks.length c1] 29)) (.cells #[.int .u8 t2.k,.int .i64 t2.n,.string t2.s,.slice A2 t2.ks.length c2] 29)
 have k2:=heap_alloc_new (w2.alloc (.cells #[.int .u8 t1.k,.int .i64 t1.n,.string t1.s,.slice A1 t1.ks.length c1] 29)) (.cells #[.int .u8 t2.k,.int .i64 t2.n,.string t2.s,.slice A2 t2.ks.length c2] 29);simp only[World.size_alloc] at k2;obtain⟨w3,hw3⟩:∃ x,(w2.alloc (.cells #[.int .u8 t1.k,.int .i64 t1.n,.string t1.s,.slice A1 t1.ks.length c1] 29)).alloc (.cells #[.int .u8 t2.k,.int .i64 t2.n,.string t2.s,.slice A2 t2.ks.length c2] 29)=x:=⟨_,rfl⟩
 rw[hw3] at b3 k0 k1 k2;have hz2:=zka HB0.out b2;have hzz:=hz2.size;obtain⟨eB,h3⟩:=H.out.plus HC.out b3;have bL:=zh (Kpt.of_below (n0:=C.n0) (kb:=C.kb) b3);have l0:=zki k0;have l1:=zki k1;have l2:=zki k2;obtain⟨hi,hhi⟩:∃ x,w3.heap.size=x:=⟨_,rfl⟩
 rw[hhi] at eB h3 l0 l1 l2;have gH:=zh eB;have H3:=zh h3;have K0:=zh k0;have K1:=zh k1;have K2:=zh k2;have gX:=zh (zpA eB h3 t1 _ n1);obtain⟨p1,⟨y0,y1,y2,y3⟩⟩:True/\(w3.cell? ⟨w2.heap.size,0,none⟩=some (.int .u8 t1.k)/\w3.cell? ⟨w2.heap.size,1,none⟩=some (.int .i64 t1.n)/\w3.cell? ⟨w2.heap.size,2,none⟩=some (.string t1.s)/\w3.cell? ⟨w2.heap.size,3,none⟩=some (.slice A1 t1.ks.length c1)):=⟨trivial,zc k1 rfl,zc k1 rfl,zc k1 rfl,zc k1 rfl⟩
 clear n1 n2 b2 b3 k0 k1 k2 hz2 eB h3 x0 x1 x2 x3 HX HB0 lG p1 ht1 ht2;go_upto_region 2 with fail;clear hw3;go_wp2_with fail;refine gX.out.mono ?_;rintro e w4 ⟨hk4,hb4,ed⟩;have eZ:=zh (bL.out.trans (Kpt.less (C:=C) hk4));have aC:=zh (show Below C.w.heap.size C.w w4 from hb4);clear y0 y1 y2 y3 gX;rcases ed with⟨x,rfl,hx⟩|⟨b,r1,rfl,hr1,hx⟩
 ·refine⟨rfl,eZ.out,aC.out,?_⟩;rw[show brO C.p.prs C.F g back t r=.err x by unfold brO;rw[HT1.out];exact hx _]
 ·have k0:=hk4.blk (.inr (.inr ⟨by omega,l0⟩)) K0.out;have k2:=hk4.blk (.inr (.inr ⟨by omega,l2⟩)) K2.out;have HR4:=zh hr1;have vN:=zh (show brO C.p.prs C.F g back t r=(runO C.p.prs C.F g back (if b=true then kid t 1 else kid t 2) r1).bind (zkn C.F t2 b) by unfold brO;rw[HT1.out,HT2.out];exact hx _);have K4:=zh k0;have K5:=zh k2;have z3:w4.cell? ⟨W.heap.size,3,none⟩=some (.slice A t.ks.length c):=zc k0 rfl;have cz:=zh aA;clear hk4 hb4 hr1 hx k0 k2 aA
  cases b
  ·skip
   have hI:2<t.ks.length:=by have:=nI.out;omega
   have hI1:(2:Int)<(t.ks.length:Int):=by omega
   obtain⟨a,u,Au,cu,rfl,-,hu,⟨p0,p1,p2,p3⟩,hnu⟩:=ae.out.nd hI;have fD:kid t 2=u:=by unfold kid;rw[List.getD_eq_getElem?_getD,List.getElem?_eq_getElem hI];exact hu.out
   have qZ:=zh (show ∀ x∈u.ks,G C.p.prs x by rw[<-fD];exact hG2);have fP:=zh (show brO C.p.prs C.F g back t r=(runO C.p.prs C.F g back u r1).bind (zkn C.F t2 false) by rw[vN.out];simp only[Bool.false_eq_true,if_false,if_true,fD]);have hgu:runO C.p.prs C.F g back u r1 ≠ .gas:=fun e=>cz.out (by rw[fP.out,e];rfl);have ax:=zh (zlA HS.out gH.out HR4.out u _ back hnu qZ.out hgu);have ha:a.add (2*4)=⟨a.block,a.off+8,none⟩:=by unfold Addr.add;split<;>simp_all
   rw[ha] at p0 p1 p2 p3;have q0:w4.cell? ⟨a.block,a.off+8,none⟩=some (.int .u8 u.k):=zb aC.out p0;have q1:w4.cell? ⟨a.block,a.off+8+1,none⟩=some (.int .i64 u.n):=zb aC.out p1;have q2:w4.cell? ⟨a.block,a.off+8+2,none⟩=some (.string u.s):=zb aC.out p2;have q3:w4.cell? ⟨a.block,a.off+8+3,none⟩=some (.slice Au u.ks.length cu):=zb aC.out p3;clear fD hnu hu p0 p1 p2 p3 hgu;go_wp2_with fail;refine ax.out.mono ?_;rintro e w5 ⟨hk5,hb5,jN⟩;have eP:=zh (eZ.out.trans (Kpt.less (C:=C) hk5));have bB:=zh (show Below C.w.heap.size C.w w5 from hb5);have bS:match runO C.p.prs C.F g back u r1 with
    | .gas=>True
    | .err x=>e=zl2 x
    | .ok r=>(∃ u,e=.returned u)/\RI (C.plus W.heap.size hi) w5 r:=jN
   have k5:=hk5.blk (.inr (.inr ⟨by omega,l2⟩)) K5.out;have K6:=zh k5;clear q0 q1 q2 q3 z3 hk5 hb5 jN k5
   cases hx:runO C.p.prs C.F g back u r1 with
   | gas=>exact absurd (by rw[fP.out,hx];rfl) cz.out
   | err x =>
    rw[hx] at bS;subst bS;refine⟨rfl,eP.out,bB.out,?_⟩;rw[fP.out,hx];rfl
   | ok r2 =>
    rw[hx] at bS;obtain⟨⟨u2,rfl⟩,hr2⟩:=bS;have HAS:=zh (zny gH.out hr2 t2 _ aF.out false);have iU:=zh (show brO C.p.prs C.F g back t r=zkn C.F t2 false r2 by rw[fP.out,hx];rfl);have q0:w5.cell? ⟨w2.heap.size+1,0,none⟩=some (.int .u8 t2.k):=zc K6.out rfl;have q1:w5.cell? ⟨w2.heap.size+1,1,none⟩=some (.int .i64 t2.n):=zc K6.out rfl;have q2:w5.cell? ⟨w2.heap.size+1,2,none⟩=some (.string t2.s):=zc K6.out rfl;have q3:w5.cell? ⟨w2.heap.size+1,3,none⟩=some (.slice A2 t2.ks.length c2):=zc K6.out rfl;clear hx hr2;go_wp2_with fail;refine HAS.out.mono ?_;rintro e w6 ⟨bW,hb6,lS⟩;have dV:=zh (eP.out.trans (Kpt.less (C:=C) bW));have bH:=zh (show Below C.w.heap.size C.w w6 from hb6);have bR:match zkn C.F t2 false r2 with
     | .gas=>True
     | .err x=>e=zl2 x
     | .ok r=>(∃ u,e=.returned u)/\RI (C.plus W.heap.size hi) w6 r:=lS
    clear q0 q1 q2 q3 bW hb6 lS
    cases hy:zkn C.F t2 false r2 with
    | gas=>exact absurd (by rw[iU.out,hy]) cz.out
    | err x =>
     rw[hy] at bR;subst bR;refine⟨rfl,dV.out,bH.out,?_⟩;rw[iU.out,hy]
    | ok r3 =>
     rw[hy] at bR;obtain⟨⟨u3,rfl⟩,hr3⟩:=bR;have fI:=zh hr3.less;have rH:=zh (show brO C.p.prs C.F g back t r=.ok r3 by rw[iU.out,hy]);clear hr3 hy;go_wp2_with fail;go_end0;refine⟨dV.out,bH.out,?_⟩;rw[rH.out];exact⟨⟨_,rfl⟩,fI.out⟩
  ·skip
   have hI:1<t.ks.length:=by have:=nI.out;omega
   have hI1:(1:Int)<(t.ks.length:Int):=by omega
   obtain⟨a,u,Au,cu,rfl,-,hu,⟨p0,p1,p2,p3⟩,hnu⟩:=ae.out.nd hI;have fD:kid t 1=u:=by unfold kid;rw[List.getD_eq_getElem?_getD,List.getElem?_eq_getElem hI];exact hu.out
   have qZ:=zh (show ∀ x∈u.ks,G C.p.prs x by rw[<-fD];exact hG1);have fP:=zh (show brO C.p.prs C.F g back t r=(runO C.p.prs C.F g back u r1).bind (zkn C.F t2 true) by rw[vN.out];simp only[Bool.false_eq_true,if_false,if_true,fD]);have hgu:runO C.p.prs C.F g back u r1 ≠ .gas:=fun e=>cz.out (by rw[fP.out,e];rfl);have ax:=zh (zlA HS.out gH.out HR4.out u _ back hnu qZ.out hgu);have ha:a.add (1*4)=⟨a.block,a.off+4,none⟩:=by unfold Addr.add;split<;>simp_all
   rw[ha] at p0 p1 p2 p3;have q0:w4.cell? ⟨a.block,a.off+4,none⟩=some (.int .u8 u.k):=zb aC.out p0;have q1:w4.cell? ⟨a.block,a.off+4+1,none⟩=some (.int .i64 u.n):=zb aC.out p1;have q2:w4.cell? ⟨a.block,a.off+4+2,none⟩=some (.string u.s):=zb aC.out p2;have q3:w4.cell? ⟨a.block,a.off+4+3,none⟩=some (.slice Au u.ks.length cu):=zb aC.out p3;clear fD hnu hu p0 p1 p2 p3 hgu;go_wp2_with fail;refine ax.out.mono ?_;rintro e w5 ⟨hk5,hb5,jN⟩;have eP:=zh (eZ.out.trans (Kpt.less (C:=C) hk5));have bB:=zh (show Below C.w.heap.size C.w w5 from hb5);have bS:match runO C.p.prs C.F g back u r1 with
    | .gas=>True
    | .err x=>e=zl2 x
    | .ok r=>(∃ u,e=.returned u)/\RI (C.plus W.heap.size hi) w5 r:=jN
   have k5:=hk5.blk (.inr (.inr ⟨by omega,l2⟩)) K5.out;have K6:=zh k5;clear q0 q1 q2 q3 z3 hk5 hb5 jN k5
   cases hx:runO C.p.prs C.F g back u r1 with
   | gas=>exact absurd (by rw[fP.out,hx];rfl) cz.out
   | err x =>
    rw[hx] at bS;subst bS;refine⟨rfl,eP.out,bB.out,?_⟩;rw[fP.out,hx];rfl
   | ok r2 =>
    rw[hx] at bS;obtain⟨⟨u2,rfl⟩,hr2⟩:=bS;have HAS:=zh (zny gH.out hr2 t2 _ aF.out true);have iU:=zh (show brO C.p.prs C.F g back t r=zkn C.F t2 true r2 by rw[fP.out,hx];rfl);have q0:w5.cell? ⟨w2.heap.size+1,0,none⟩=some (.int .u8 t2.k):=zc K6.out rfl;have q1:w5.cell? ⟨w2.heap.size+1,1,none⟩=some (.int .i64 t2.n):=zc K6.out rfl;have q2:w5.cell? ⟨w2.heap.size+1,2,none⟩=some (.string t2.s):=zc K6.out rfl;have q3:w5.cell? ⟨w2.heap.size+1,3,none⟩=some (.slice A2 t2.ks.length c2):=zc K6.out rfl;clear hx hr2;go_wp2_with fail;refine HAS.out.mono ?_;rintro e w6 ⟨bW,hb6,lS⟩;have dV:=zh (eP.out.trans (Kpt.less (C:=C) bW));have bH:=zh (show Below C.w.heap.size C.w w6 from hb6);have bR:match zkn C.F t2 true r2 with
     | .gas=>True
     | .err x=>e=zl2 x
     | .ok r=>(∃ u,e=.returned u)/\RI (C.plus W.heap.size hi) w6 r:=lS
    clear q0 q1 q2 q3 bW hb6 lS
    cases hy:zkn C.F t2 true r2 with
    | gas=>exact absurd (by rw[iU.out,hy]) cz.out
    | err x =>
     rw[hy] at bR;subst bR;refine⟨rfl,dV.out,bH.out,?_⟩;rw[iU.out,hy]
    | ok r3 =>
     rw[hy] at bR;obtain⟨⟨u3,rfl⟩,hr3⟩:=bR;have fI:=zh hr3.less;have rH:=zh (show brO C.p.prs C.F g back t r=.ok r3 by rw[iU.out,hy]);clear hr3 hy;go_wp2_with fail;go_end0;refine⟨dV.out,bH.out,?_⟩;rw[rH.out];exact⟨⟨_,rfl⟩,fI.out⟩
def Up (n:Nat) (o:Out):Prop:=∀ r,o=.ok r->n<=r.n
section
variable {m n:Nat} {o:Out} {F:Int} {t:T} {r:RS}
theorem Up.of (h:Good n o):Up n o:=h.2
theorem Up.mono (h:Up n o) (hm:m<=n):Up m o:=fun r e=>Nat.le_trans hm (h r e)
theorem Up.bind {f:RS->Out} (h:Up n o) (hf:∀ r,n<=r.n->Up m (f r)):Up m (o.bind f):=by
 cases o with
 | gas=>intro r e;cases e
 | err x=>intro r e;cases e
 | ok r=>exact hf r (h r rfl)
theorem zsi {f:Int->RS->Out} (hf:∀ x,Up m (f x r)):Up m (valO t r f):=by
 unfold valO
 split
 ·intro r e;cases e
 ·exact hf _
theorem zpB {f:Bool->RS->Out} (hf:∀ b r',r.n+1<=r'.n->Up m (f b r')):Up m (zk0 F t r f):=by
 unfold zk0;exact(Up.of (zkz F r)).bind fun r' h=>zsi fun x=>hf _ _ h
theorem znx {f:T->RS->Out} (hf:∀ t r,Up r.n (f t r)):∀ (l:List T) (r:RS),Up r.n (zkp f l r)
 | [],r=>fun r' e=>by injection e with e;subst e;exact Nat.le_refl _
 | t::ts,r=>by
  rw[zkp];exact(hf t r).bind fun r1 h1=>(znx hf ts r1).mono h1
theorem ztA {f:T->RS->Out} (hf:∀ t r,Up r.n (f t r)) {entry test:T} {l1 l2:List T}:∀ (m:Nat) (r:RS),Up r.n (zk9 F f entry test l1 l2 m r)
 | 0,_=>fun r' e=>by cases e
 | m+1,r=>by
  rw[zk9];refine(znx hf l1 r).bind fun r1 h1=>zpB fun b r2 h2=>?_
  split
  ·intro r' e;injection e with e;subst e;omega
  ·refine(znx hf l2 r2).bind fun r3 h3=>(Up.of (zlD F entry false r3)).bind fun r4 h4=>?_;exact(ztA hf m r4).mono (by omega)
end
theorem zo3 {prs:List PR} {F:Int}:∀ (g:Nat) (back:Bool) (t:T) (r:RS),Up r.n (zkk prs F g back t r)
 | 0,_,_,_=>fun r' e=>by cases e
 | g+1,back,t,r=>by
  have hb:∀ (back:Bool) l r1,Up r1.n (zkp (zkk prs F g back) l r1):=fun back l r1=>znx (fun u r2=>zo3 g back u r2) l r1;rw[zkk]
  split
  ·exact zpB fun b r1 h1=>(hb _ _ r1).bind fun r2 h2=>(Up.of (zlD _ _ _ _)).mono (by omega)
  ·split
   ·refine(Up.of (zlD _ _ _ _)).bind fun r1 h1=>?_;exact(ztA (fun u r2=>zo3 g back u r2) g r1).mono (by omega)
   ·split
    ·refine(Up.of (zkz F r)).bind fun r1 h1=>zsi fun x=>?_;refine(Up.of (zkM r1 _)).bind fun r2 h2=>(hb _ _ r2).bind fun r3 h3=>(Up.of (zkz F r3)).bind fun r4 h4=>zsi fun x=>?_;exact(Up.of (zkM r4 _)).mono (by omega)
    ·split
     ·refine(Up.of (zkz F r)).bind fun r1 h1=>?_;refine(Up.of (zkM r1 _)).bind fun r2 h2=>(hb _ _ r2).bind fun r3 h3=>(Up.of (zkz F r3)).bind fun r4 h4=>?_;exact(Up.of (zkM r4 _)).mono (by omega)
     ·split
      ·split
       ·intro r' e;cases e
       ·refine(Up.of (zkz F r)).bind fun r1 h1=>?_;refine(Up.of (zkM r1 _)).bind fun r2 h2=>(hb _ _ _).bind fun r3 h3=>(Up.of (zkz F r3)).bind fun r4 h4=>?_;exact(Up.of (zkM r4 _)).mono (by simp only at h3;omega)
      ·refine(Up.of (zkz F r)).bind fun r1 h1=>?_;exact(Up.of (zkM r1 _)).mono (by omega)
end Go.Proofs.YtckhofdinldhpaaGreat
