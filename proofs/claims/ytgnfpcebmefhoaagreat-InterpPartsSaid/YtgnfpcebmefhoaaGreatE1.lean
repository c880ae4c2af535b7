/-
  Texts of the proof, put together without their remarks: If, Lfp, Ig, Inp, Altb, Lno, Lip, Lift, LiftV, LiftS, LiftI, LiftP, Eqv, Wfp, Cz, Ce, Ck, Cm, Cp, Rev2, Rpl.
-/
import Derived.Test.YtgnfpcebmefhoaaGreatA10
import Derived.Test.YtgnfpcebmefhoaaGreatRows
import Derived.ProofKit
import Derived.SizedLaws
import Derived.Deep.Slices
import Derived.Deep.Fields
import Derived.Lib.SmallJoins
import Derived.ChangeSlices
import Derived.Laws.Closers25b
import Derived.Deep.Cut
import Derived.Deep.RegionHeld3
import Derived.Deep.RegionLaw
import Derived.Sort.CutIn
import Derived.IntWalk
set_option linter.unusedSimpArgs false
set_option linter.unusedVariables false
set_option maxHeartbeats 8000000
set_option maxRecDepth 100000
namespace Go.Proofs.YtgnfpcebmefhoaaGreat
open Go Go.RowKit
def Fl (F':Int) (n:Nat) (o o':Out):Prop:=∀ r',o=.ok r'->n<=r'.n/\((r'.n:Int)<=F'\/r'.n=n->o'=.ok r')/\(F'<(r'.n:Int)->n<r'.n->o'=.err 18)
theorem Fl.bind {F':Int} {n:Nat} {o o':Out} {f f':RS->Out} (h:Fl F' n o o') (hf:∀ r,n<=r.n->Fl F' r.n (f r) (f' r)):Fl F' n (o.bind f) (o'.bind f'):=by
 intro r2 e
 cases o with
 | gas=>cases e
 | err x=>cases e
 | ok r1 =>
  obtain ⟨h1,h2,h3⟩:=h r1 rfl
  obtain ⟨g1,g2,g3⟩:=hf r1 h1 r2 e
  refine ⟨by omega,fun hc=>?_,fun a b=>?_⟩
  ·rw [h2 (by omega)]; exact g2 (by omega)
  ·by_cases hc:(r1.n:Int)<=F'\/r1.n=n
   ·rw [h2 hc]; exact g3 a (by omega)
   ·rw [h3 (by omega) (by omega)]; rfl
theorem Fl.err {F':Int} {n:Nat} {x:Int} {o':Out}:Fl F' n (.err x) o':=fun _ e=>by cases e
theorem Fl.gas {F':Int} {n:Nat} {o':Out}:Fl F' n .gas o':=fun _ e=>by cases e
theorem Fl.same {F':Int} {r:RS}:Fl F' r.n (.ok r) (.ok r):=fun r' e=>by
 injection e with e
 subst e
 exact ⟨Nat.le_refl _,fun _=>rfl,fun _ h=>absurd h (Nat.lt_irrefl _)⟩
theorem Fl.step (F F':Int) (r:RS):Fl F' r.n (stepO F r) (stepO F' r):=fun r' e=>by
 obtain ⟨rfl,-⟩:=stepO_ok e
 refine ⟨by simp only; omega,fun h=>?_,fun h _=>?_⟩
 ·unfold stepO; rw [if_neg (by simp only at h; omega)]
 ·unfold stepO; rw [if_pos (by simp only at h; omega)]
theorem Fl.store {F':Int} {r:RS} (R:Int×ST):Fl F' r.n (storeO r R) (storeO r R):=by
 unfold storeO
 split
 ·exact Fl.err
 ·intro r' e
  injection e with e
  subst e
  exact ⟨Nat.le_refl _,fun _=>rfl,fun _ h=>absurd h (Nat.lt_irrefl _)⟩
theorem Fl.val {F':Int} {n:Nat} {t:T} {r:RS} {f f':Int->RS->Out} (h:∀ x,Fl F' n (f x r) (f' x r)):Fl F' n (valO t r f) (valO t r f'):=by
 unfold valO
 split
 ·exact Fl.err
 ·exact h _
theorem Fl.holds {F F':Int} {t:T} {r:RS} {f f':Bool->RS->Out} (h:∀ b r1,r.n<=r1.n->Fl F' r1.n (f b r1) (f' b r1)):Fl F' r.n (holdsO F t r f) (holdsO F' t r f'):=by
 unfold holdsO
 exact (Fl.step F F' r).bind fun r1 h1=>Fl.val fun x=>h _ _ h1
theorem Fl.assert {F F':Int} {t:T} {b:Bool} {r:RS}:Fl F' r.n (assertO F t b r) (assertO F' t b r):=by
 unfold assertO
 refine Fl.holds fun b1 r1 _=>?_
 split
 ·exact Fl.same
 ·exact Fl.err
theorem Fl.body {F':Int} {f f':T->RS->Out}:∀ (l:List T) (r:RS),(∀ t∈l,∀ r',Fl F' r'.n (f t r') (f' t r'))->Fl F' r.n (bodyO f l r) (bodyO f' l r)
 | [],r,_=>Fl.same
 | t::ts,r,h=>by
  rw [bodyO,bodyO]
  exact (h t (List.mem_cons_self ..) r).bind fun r1 _=>Fl.body ts r1 fun u hu r'=>h u (List.mem_cons_of_mem _ hu) r'
theorem Fl.loop {F F':Int} {f f':T->RS->Out} {entry test:T} {l1 l2:List T} (h1:∀ t∈l1,∀ r',Fl F' r'.n (f t r') (f' t r')) (h2:∀ t∈l2,∀ r',Fl F' r'.n (f t r') (f' t r')):∀ (m:Nat) (r:RS),Fl F' r.n (loopO F f entry test l1 l2 m r) (loopO F' f' entry test l1 l2 m r)
 | 0,r=>Fl.gas
 | m+1,r=>by
  rw [loopO,loopO]
  refine (Fl.body l1 r h1).bind fun r1 _=>Fl.holds fun b r2 _=>?_
  split
  ·exact Fl.same
  ·exact (Fl.body l2 r2 h2).bind fun r3 _=>Fl.assert.bind fun r4 _=>Fl.loop h1 h2 m r4
theorem execO_fuel {prs:List PR} {F F':Int}:∀ (g:Nat) (back:Bool) (t:T) (r:RS),Fl F' r.n (execO prs F g back t r) (execO prs F' g back t r)
 | 0,_,_,_=>Fl.gas
 | g+1,back,t,r=>by
  have hb:∀ back (l:List T) r1,Fl F' r1.n (bodyO (execO prs F g back) l r1) (bodyO (execO prs F' g back) l r1):=fun back l r1=>Fl.body l r1 fun u _ r'=>execO_fuel g back u r'
  rw [execO,execO]
  split
  ·exact Fl.holds fun yes r1 _=>(hb _ _ r1).bind fun r2 _=>Fl.assert
  ·split
   ·exact Fl.assert.bind fun r1 _=>Fl.loop (fun u _ r'=>execO_fuel g back u r') (fun u _ r'=>execO_fuel g back u r') g r1
   ·split
    ·refine (Fl.step F F' r).bind fun r1 _=>Fl.val fun x=>(Fl.store _).bind fun r2 _=>(hb _ _ r2).bind fun r3 _=>(Fl.step F F' r3).bind fun r4 _=>Fl.val fun x=>Fl.store _
    ·split
     ·exact (Fl.step F F' r).bind fun r1 _=>(Fl.store _).bind fun r2 _=>(hb _ _ r2).bind fun r3 _=>(Fl.step F F' r3).bind fun r4 _=>Fl.store _
     ·split
      ·split
       ·exact Fl.err
       ·exact (Fl.step F F' r).bind fun r1 _=>(Fl.store _).bind fun r2 _=>Fl.bind (hb _ _ { r2 with ent:=_ }) fun r3 _=>(Fl.step F F' r3).bind fun r4 _=>Fl.store _
      ·exact (Fl.step F F' r).bind fun r1 _=>Fl.store _
theorem runO_fuel {prs:List PR} {F F':Int} (g:Nat) (back:Bool) (b:T) (r:RS):Fl F' r.n (runO prs F g back b r) (runO prs F' g back b r):=Fl.body _ _ fun u _ r'=>execO_fuel g back u r'
theorem resO_ok {p:PG} {s:SS} {F:Int} {g:Nat} {back:Bool} (hg:F.toNat*2000+2000<=g) (h:(resO p s F g back).2.2.1=0) :
  validB p=true/\chkN p=0/\fitB p.vs s=true/\∃ r,runO p.prs F g back p.m ⟨newS p.vs s,0,List.replicate p.prs.length 0⟩=.ok r/\resO p s F g back=(r.S.state,r.n,0,r.ent):=by
 unfold resO at h ⊢
 split at h
 ·simp at h
 ·rename_i h1
  rw [if_neg h1]
  simp only [not_or,Bool.not_eq_false,Decidable.not_not] at h1
  split at h
  ·simp at h
  ·rename_i h2
   rw [if_neg h2]
   simp only [Bool.not_eq_false] at h2
   refine ⟨h1.1,by simpa using h1.2,h2,?_⟩
   have hz:Nz (runO p.prs F g back p.m ⟨newS p.vs s,0,List.replicate p.prs.length 0⟩):=runO_nz GP_GC (GP_main h1.1 (by simpa using h1.2))
   have hg0:=(run_good (F:=F) (g:=g) h1.1 hg back (newS p.vs s) (List.replicate p.prs.length 0)).1
   cases ho:runO p.prs F g back p.m ⟨newS p.vs s,0,List.replicate p.prs.length 0⟩ with
   | gas=>exact absurd ho hg0
   | err e =>
    rw [ho] at h hz
    simp only [outR] at h
    rw [h] at hz
    exact absurd rfl hz
   | ok r=>exact ⟨r,rfl,rfl⟩
theorem resO_run {p:PG} {s:SS} {F:Int} {g:Nat} {back:Bool} (h1:validB p=true) (h2:chkN p=0) (h3:fitB p.vs s=true) :
  resO p s F g back=outR s (runO p.prs F g back p.m ⟨newS p.vs s,0,List.replicate p.prs.length 0⟩):=by
 unfold resO
 rw [if_neg (by rw [h1,h2]; simp),if_neg (by rw [h3]; simp)]
theorem fuel_law {p:PG} {s:SS} {F:Int} {g:Nat} {back:Bool} (hg:F.toNat*2000+2000<=g) (h:(resO p s F g back).2.2.1=0) :
  ((resO p s F g back).2.1:Int)<=max F 0/\(∀ F':Int,((resO p s F g back).2.1:Int)<=F'->resO p s F' g back=resO p s F g back) /\
   ∀ F':Int,F'<((resO p s F g back).2.1:Int)->0<(resO p s F g back).2.1->(resO p s F' g back).2.2.1=18:=by
 obtain ⟨h1,h2,h3,r,hr,he⟩:=resO_ok hg h
 rw [he]
 simp only
 have key:=fun F'=>runO_fuel (prs:=p.prs) (F:=F) (F':=F') g back p.m ⟨newS p.vs s,0,List.replicate p.prs.length 0⟩ r hr
 refine ⟨?_,fun F' hF=>?_,fun F' hF h0=>?_⟩
 ·rcases Int.lt_or_le (max F 0) (r.n:Int) with hlt|hle
  ·have:=(key F).2.2 (by omega) (by simp only; omega)
   rw [hr] at this
   cases this
  ·exact hle
 ·rw [resO_run h1 h2 h3,(key F').2.1 (.inl hF)]; rfl
 ·rw [resO_run h1 h2 h3,(key F').2.2 hF h0]; rfl
def OpS (E:Prop) (Q:ST->ST->Prop) (R R':Int×ST):Prop:=(R.1=0->R'.1=0/\Q R.2 R'.2)/\(E->R.1≠0->R'.1=R.1)
structure SimR (E:Prop) (F:Int) (Rl:Nat->ST->ST->Prop):Prop where
 look:∀ (n:Nat) S S',Rl n S S'->S'.look=S.look
 tick:∀ (n:Nat) S S',Rl n S S'->Rl (n+1) S S'
 do_:∀ (n:Nat) S S' t,(n:Int)<F->Rl n S S'->OpS E (Rl (n+1)) (doE S t) (doE S' t)
 undo:∀ (n:Nat) S S' t,(n:Int)<F->Rl n S S'->OpS E (Rl (n+1)) (undoE S t) (undoE S' t)
 open_:∀ (n:Nat) S S' v x,(n:Int)<F->Rl n S S'->OpS E (Rl (n+1)) (openE S v x) (openE S' v x)
 close:∀ (n:Nat) S S' s x,(n:Int)<F->Rl n S S'->OpS E (Rl (n+1)) (closeE S s x) (closeE S' s x)
 enter:∀ (n:Nat) S S' ps ss,(n:Int)<F->Rl n S S'->OpS E (Rl (n+1)) (enterE S ps ss) (enterE S' ps ss)
 leave:∀ (n:Nat) S S',(n:Int)<F->Rl n S S'->OpS E (Rl (n+1)) (leaveE S) (leaveE S')
structure SimS (Rl:Nat->ST->ST->Prop) (k:Int) (r r':RS):Prop where
 rl:Rl r.n r.S r'.S
 n:(r'.n:Int)=r.n+k
def SimO (E:Prop) (Rl:Nat->ST->ST->Prop) (F F' k:Int) (o o':Out):Prop:=(o'=.err 18/\F'<F+k)\/match o with
 | .gas=>True
 | .err e=>E->o'=.err e
 | .ok r=>∃ r',o'=.ok r'/\SimS Rl k r r'
section
variable {E:Prop} {Rl:Nat->ST->ST->Prop} {F F' k:Int} {o o':Out}
theorem SimO.bind {f f':RS->Out} (h:SimO E Rl F F' k o o') (hf:∀ r r',SimS Rl k r r'->SimO E Rl F F' k (f r) (f' r')):SimO E Rl F F' k (o.bind f) (o'.bind f'):=by
 rcases h with ⟨rfl,h⟩|h
 ·exact .inl ⟨rfl,h⟩
 ·cases o with
  | gas=>exact .inr trivial
  | err e=>exact .inr fun he=>by rw [h he]; rfl
  | ok r =>
   obtain ⟨r',rfl,hs⟩:=h
   exact hf r r' hs
theorem SimO.same {r r':RS} (h:SimS Rl k r r'):SimO E Rl F F' k (.ok r) (.ok r'):=.inr ⟨r',rfl,h⟩
theorem SimO.err {e:Int}:SimO E Rl F F' k (.err e) (.err e):=.inr fun _=>rfl
theorem SimO.step {r r':RS} {f f':RS->Out} (hF:F'<=F+k) (h:SimS Rl k r r') (hf:(r.n:Int)<F->SimO E Rl F F' k (f { r with n:=r.n+1 }) (f' { r' with n:=r'.n+1 })):SimO E Rl F F' k ((stepO F r).bind f) ((stepO F' r').bind f'):=by
 have hn:=h.n
 unfold stepO
 by_cases h1:F<=r.n
 ·rw [if_pos h1,if_pos (by omega)]; exact SimO.err
 ·rw [if_neg h1]
  by_cases h2:F'<=r'.n
  ·rw [if_pos h2]; exact .inl ⟨rfl,by omega⟩
  ·rw [if_neg h2]; exact hf (by omega)
theorem SimO.store {r r':RS} {R R':Int×ST} (hn:(r'.n:Int)=r.n+k) (h:OpS E (Rl r.n) R R'):SimO E Rl F F' k (storeO r R) (storeO r' R'):=by
 unfold storeO
 by_cases h0:R.1=0
 ·obtain ⟨h1,h2⟩:=h.1 h0
  rw [if_neg (by simp [h0]),if_neg (by simp [h1])]
  exact SimO.same ⟨h2,hn⟩
 ·rw [if_pos h0]
  refine .inr fun he=>?_
  have:=h.2 he h0
  rw [if_pos (by rw [this]; exact h0),this]
theorem SimO.val {r r':RS} {t:T} {f f':Int->RS->Out} (hl:r'.S.look=r.S.look) (h:∀ x,SimO E Rl F F' k (f x r) (f' x r')):SimO E Rl F F' k (valO t r f) (valO t r' f'):=by
 unfold valO
 rw [hl]
 split
 ·exact SimO.err
 ·exact h _
theorem SimO.holds (hR:SimR E F Rl) (hF:F'<=F+k) {r r':RS} {t:T} {f f':Bool->RS->Out} (h:SimS Rl k r r') (hf:∀ b r1 r1',SimS Rl k r1 r1'->SimO E Rl F F' k (f b r1) (f' b r1')):SimO E Rl F F' k (holdsO F t r f) (holdsO F' t r' f'):=by
 unfold holdsO
 refine SimO.step hF h fun _=>?_
 refine SimO.val (by exact hR.look _ _ _ h.rl) fun x=>?_
 exact hf _ _ _ ⟨hR.tick _ _ _ h.rl,by have:=h.n; simp only; omega⟩
theorem SimO.assert (hR:SimR E F Rl) (hF:F'<=F+k) {r r':RS} {t:T} {b:Bool} (h:SimS Rl k r r'):SimO E Rl F F' k (assertO F t b r) (assertO F' t b r'):=by
 unfold assertO
 refine SimO.holds hR hF h fun b1 r1 r1' h1=>?_
 split
 ·exact SimO.same h1
 ·exact SimO.err
theorem SimO.body {f f':T->RS->Out}:∀ (l:List T) (r r':RS),SimS Rl k r r'->(∀ t∈l,∀ r r',SimS Rl k r r'->SimO E Rl F F' k (f t r) (f' t r'))->SimO E Rl F F' k (bodyO f l r) (bodyO f' l r')
 | [],_,_,h,_=>SimO.same h
 | t::ts,r,r',h,hf=>by
  rw [bodyO,bodyO]
  exact (hf t (List.mem_cons_self ..) r r' h).bind fun r1 r1' h1=>SimO.body ts r1 r1' h1 fun u hu=>hf u (List.mem_cons_of_mem _ hu)
theorem SimO.loop (hR:SimR E F Rl) (hF:F'<=F+k) {f f':T->RS->Out} {entry test:T} {l1 l2:List T} (h1:∀ t∈l1,∀ r r',SimS Rl k r r'->SimO E Rl F F' k (f t r) (f' t r')) (h2:∀ t∈l2,∀ r r',SimS Rl k r r'->SimO E Rl F F' k (f t r) (f' t r')) :
  ∀ (m:Nat) (r r':RS),SimS Rl k r r'->SimO E Rl F F' k (loopO F f entry test l1 l2 m r) (loopO F' f' entry test l1 l2 m r')
 | 0,_,_,_=>.inr trivial
 | m+1,r,r',h=>by
  rw [loopO,loopO]
  refine (SimO.body l1 r r' h h1).bind fun r1 r1' g1=>SimO.holds hR hF g1 fun b r2 r2' g2=>?_
  split
  ·exact SimO.same g2
  ·exact (SimO.body l2 r2 r2' g2 h2).bind fun r3 r3' g3=>(SimO.assert hR hF g3).bind fun r4 r4' g4=>SimO.loop hR hF h1 h2 m r4 r4' g4
theorem execO_sim (hR:SimR E F Rl) (hF:F'<=F+k) {prs:List PR}:∀ (g:Nat) (back:Bool) (t:T) (r r':RS),SimS Rl k r r'->SimO E Rl F F' k (execO prs F g back t r) (execO prs F' g back t r')
 | 0,_,_,_,_,_=>.inr trivial
 | g+1,back,t,r,r',h=>by
  have hb:∀ back (l:List T) r r',SimS Rl k r r'->SimO E Rl F F' k (bodyO (execO prs F g back) l r) (bodyO (execO prs F' g back) l r'):=fun back l r r' h=>SimO.body l r r' h fun u _ r r' h=>execO_sim hR hF g back u r r' h
  have hn:=h.n
  rw [execO,execO]
  split
  ·exact SimO.holds hR hF h fun yes r1 r1' h1=>(hb _ _ r1 r1' h1).bind fun r2 r2' h2=>SimO.assert hR hF h2
  ·split
   ·exact (SimO.assert hR hF h).bind fun r1 r1' h1=>SimO.loop hR hF (fun u _ r r' h=>execO_sim hR hF g back u r r' h) (fun u _ r r' h=>execO_sim hR hF g back u r r' h) g r1 r1' h1
   ·split
    ·refine SimO.step hF h fun hlt=>SimO.val (hR.look _ _ _ h.rl) fun x=>(SimO.store (by simp only; omega) (hR.open_ _ _ _ _ _ hlt h.rl)).bind fun r2 r2' h2=>(hb _ _ r2 r2' h2).bind fun r3 r3' h3=>?_
     have hn3:=h3.n
     exact SimO.step hF h3 fun hlt=>SimO.val (hR.look _ _ _ h3.rl) fun x=>SimO.store (by simp only; omega) (hR.close _ _ _ _ _ hlt h3.rl)
    ·split
     ·refine SimO.step hF h fun hlt=>(SimO.store (by simp only; omega) (hR.open_ _ _ _ _ _ hlt h.rl)).bind fun r2 r2' h2=>(hb _ _ r2 r2' h2).bind fun r3 r3' h3=>?_
      have hn3:=h3.n
      exact SimO.step hF h3 fun hlt=>SimO.store (by simp only; omega) (hR.close _ _ _ _ _ hlt h3.rl)
     ·split
      ·split
       ·exact SimO.err
       ·refine SimO.step hF h fun hlt=>(SimO.store (by simp only; omega) (hR.enter _ _ _ _ _ hlt h.rl)).bind fun r2 r2' h2=>SimO.bind (hb _ _ { r2 with ent:=r2.ent.set _ (r2.ent.getD _ 0+1) } { r2' with ent:=r2'.ent.set _ (r2'.ent.getD _ 0+1) } ⟨h2.rl,h2.n⟩) fun r3 r3' h3=>?_
        have hn3:=h3.n
        exact SimO.step hF h3 fun hlt=>SimO.store (by simp only; omega) (hR.leave _ _ _ hlt h3.rl)
      ·refine SimO.step hF h fun hlt=>SimO.store (by simp only; omega) ?_
       cases back
       ·exact hR.do_ _ _ _ _ hlt h.rl
       ·exact hR.undo _ _ _ _ hlt h.rl
theorem runO_sim (hR:SimR E F Rl) (hF:F'<=F+k) {prs:List PR} (g:Nat) (back:Bool) (b:T) (r r':RS) (h:SimS Rl k r r'):SimO E Rl F F' k (runO prs F g back b r) (runO prs F' g back b r') :=
 SimO.body _ r r' h fun u _ r r' h=>execO_sim hR hF g back u r r' h
end
theorem entL_err {f:FR}:∀ (l:List (VD×ByteArray)) (acc:FR) (e:Int),entL f acc l=.error e->e≠0
 | [],acc,e,h=>by rw [entL] at h; cases h
 | (v,a)::r,acc,e,h=>by
  rw [entL] at h
  split at h
  ·injection h with h; omega
  ·split at h
   ·exact entL_err r _ _ h
   ·injection h with h; omega
def ST.more (S:ST) (l:List Int):ST:={ S with tin:=S.tin++l }
section
variable {S:ST} {l:List Int}
def MoR (l:List Int) (m:Nat) (R R':Int×ST):Prop:=R.1=0->R'=(0,R.2.more l)/\R.2.tin.length<=m
theorem MoR.bad {m:Nat} {e:Int} {S:ST} {R':Int×ST} (h:e≠0):MoR l m (e,S) R':=fun h0=>absurd h0 h
theorem MoR.good {m:Nat} {S:ST} (h:S.tin.length<=m):MoR l m (0,S) (0,S.more l):=fun _=>⟨rfl,h⟩
theorem moveE_more (k:Int) (id i sid:Nat):MoR l (S.tin.length+1) (moveE S k id i sid) (moveE (S.more l) k id i sid):=by
 unfold moveE
 show MoR l _ _ (if k=44 then (if 1000<=(S.cell sid).length then _ else _) else if (S.cell sid).length=0 then _ else if S.el id i≠0 then _ else _)
 repeat' split
 all_goals first|exact MoR.bad (by decide)|exact MoR.good (Nat.le_succ _)
theorem transE_more (hl:S.tin.length+l.length<4096) (k:Int) (id i:Nat):MoR l (S.tin.length+1) (transE S k id i) (transE (S.more l) k id i):=by
 obtain ⟨base,calls,cell,nc,tin,tout⟩:=S
 simp only at hl
 obtain ⟨x,hx⟩:∃ x,(cell id).getD i 0=x:=⟨_,rfl⟩
 unfold transE
 by_cases h46:k=46
 ·rw [if_pos h46,if_pos h46]
  cases tin with
  | nil=>exact MoR.bad (by decide)
  | cons y r =>
   show MoR l _ (if (cell id).getD i 0≠0 then _ else _) (if (cell id).getD i 0≠0 then _ else _)
   rw [hx]
   by_cases h0:x≠0
   ·rw [if_pos h0,if_pos h0]; exact MoR.bad (by decide)
   ·rw [if_neg h0,if_neg h0]
    exact fun _=>⟨rfl,by simp only [ST.put,ST.setL,List.length_cons]; omega⟩
 ·rw [if_neg h46,if_neg h46]
  by_cases h49:k=49
  ·rw [if_pos h49,if_pos h49]
   show MoR l _ (if tout=[] then _ else if (cell id).getD i 0≠0 then _ else _) (if tout=[] then _ else if (cell id).getD i 0≠0 then _ else _)
   rw [hx]
   by_cases h1:tout=[]
   ·rw [if_pos h1,if_pos h1]; exact MoR.bad (by decide)
   ·rw [if_neg h1,if_neg h1]
    by_cases h0:x≠0
    ·rw [if_pos h0,if_pos h0]; exact MoR.bad (by decide)
    ·rw [if_neg h0,if_neg h0]; exact fun _=>⟨rfl,Nat.le_succ _⟩
  ·rw [if_neg h49,if_neg h49]
   by_cases h47:k=47
   ·rw [if_pos h47,if_pos h47]
    show MoR l _ (if 4096<=tin.length then _ else _) (if 4096<=(tin++l).length then _ else _)
    rw [if_neg (by omega),if_neg (by simp; omega)]
    exact fun _=>⟨rfl,by simp [ST.put,ST.setL]⟩
   ·rw [if_neg h47,if_neg h47]
    show MoR l _ (if 4096<=tout.length then _ else _) (if 4096<=tout.length then _ else _)
    by_cases h1:4096<=tout.length
    ·rw [if_pos h1,if_pos h1]; exact MoR.bad (by decide)
    ·rw [if_neg h1,if_neg h1]; exact fun _=>⟨rfl,Nat.le_succ _⟩
theorem exec3_more (hl:S.tin.length+l.length<4096) (k:Int) (s qs:ByteArray) (r2:Int) (id i:Nat):MoR l (S.tin.length+1) (exec3 S k s qs r2 id i) (exec3 (S.more l) k s qs r2 id i):=by
 unfold exec3
 show MoR l _ _ (if k=40\/k=41\/k=42 then _ else if k=43 then (match S.num qs with|none=>_|some jd=>if 0<=r2/\r2<(S.cell jd).length then _ else _) else if k=44\/k=45 then (match S.num s with|none=>_|some sid=>_) else _)
 split
 ·exact fun _=>⟨rfl,Nat.le_succ _⟩
 ·split
  ·cases S.num qs with
   | none=>exact MoR.good (Nat.le_succ _)
   | some jd =>
    dsimp only
    split
    ·exact fun _=>⟨rfl,Nat.le_succ _⟩
    ·exact MoR.bad (by decide)
  ·split
   ·cases S.num s with
    | none=>exact MoR.good (Nat.le_succ _)
    | some sid=>exact moveE_more _ _ _ _
   ·exact transE_more hl _ _ _
theorem doE_more (hl:S.tin.length+l.length<4096) (t:T):MoR l (S.tin.length+1) (doE S t) (doE (S.more l) t):=by
 unfold doE
 show MoR l _ _ (if isS t=false then _ else if t.k=56 then _ else if basB t.k=false then _ else if fltE S.cur.vs t≠0 then _ else _)
 split
 ·exact MoR.bad (by decide)
 split
 ·exact MoR.bad (by decide)
 split
 ·exact MoR.bad (by decide)
 split
 ·rename_i h; exact MoR.bad h
 obtain ⟨k,n,s,ks⟩:=t
 show MoR l _ (exec1 S k s (ks.getD 0 nil0) (ks.getD 1 nil0) (indE S.look (ks.getD 0 nil0)) (rightE S k (ks.getD 1 nil0))) (exec1 (S.more l) k s (ks.getD 0 nil0) (ks.getD 1 nil0) (indE S.look (ks.getD 0 nil0)) (rightE S k (ks.getD 1 nil0)))
 unfold exec1
 split
 ·rename_i h; exact MoR.bad h
 ·unfold exec2
  split
  ·rename_i h; exact MoR.bad h
  ·rw [show (S.more l).num (ks.getD 0 nil0).s=S.num (ks.getD 0 nil0).s from rfl]
   cases S.num (ks.getD 0 nil0).s with
   | none=>exact MoR.good (Nat.le_succ _)
   | some id =>
    dsimp only
    by_cases h:0<=(indE S.look (ks.getD 0 nil0)).1/\(indE S.look (ks.getD 0 nil0)).1<((S.cell id).length:Int)
    ·rw [if_pos h,if_pos (show 0<=(indE S.look (ks.getD 0 nil0)).1/\(indE S.look (ks.getD 0 nil0)).1<(((S.more l).cell id).length:Int) from h)]
     exact exec3_more hl _ _ _ _ _ _
    ·rw [if_neg h]
     exact MoR.bad (by decide)
theorem openE_more (v:VD) (x:Int):MoR l (S.tin.length+1) (openE S v x) (openE (S.more l) v x):=by
 unfold openE
 show MoR l _ _ (if ¬ ((v.k=1\/v.k=3)/\v.n=0) then _ else if (S.cur.at v.s).isSome=true then _ else _)
 repeat' split
 all_goals first|exact MoR.bad (by decide)|skip
 all_goals
  intro _
  unfold ST.setCur
  show (0,if S.calls.length=0 then _ else _)=(0,ST.more (if S.calls.length=0 then _ else _) l)/\(if S.calls.length=0 then _ else _:ST).tin.length<=_
  split
  ·exact ⟨rfl,Nat.le_succ _⟩
  ·exact ⟨rfl,Nat.le_succ _⟩
theorem closeE_more (s:ByteArray) (x:Int):MoR l (S.tin.length+1) (closeE S s x) (closeE (S.more l) s x):=by
 unfold closeE
 show MoR l _ _ (if S.cur.loc=0\/((lastV S.cur).s.toList==s.toList)=false then _ else if ((lastV S.cur).k=1/\(S.cell (lastC S.cur)).getD 0 0≠x)\/((lastV S.cur).k=3/\0<(S.cell (lastC S.cur)).length) then _ else _)
 repeat' split
 all_goals first|exact MoR.bad (by decide)|skip
 intro _
 unfold ST.setCur
 show (0,if S.calls.length=0 then _ else _)=(0,ST.more (if S.calls.length=0 then _ else _) l)/\(if S.calls.length=0 then _ else _:ST).tin.length<=_
 split
 ·exact ⟨rfl,Nat.le_succ _⟩
 ·exact ⟨rfl,Nat.le_succ _⟩
theorem enterE_more (ps:List VD) (ss:List ByteArray):MoR l (S.tin.length+1) (enterE S ps ss) (enterE (S.more l) ps ss):=by
 unfold enterE
 split
 ·exact MoR.bad (by decide)
 ·show MoR l _ _ (entR (S.more l) (entL S.cur ⟨[],[],0⟩ (ps.zip ss)))
  cases he:entL S.cur ⟨[],[],0⟩ (ps.zip ss) with
  | error e=>exact MoR.bad (entL_err _ _ _ he)
  | ok f =>
   unfold entR
   dsimp only
   show MoR l _ (if 100<=S.calls.length then _ else _) (if 100<=S.calls.length then _ else _)
   split
   ·exact MoR.bad (by decide)
   ·exact fun _=>⟨rfl,Nat.le_succ _⟩
theorem leaveE_more:MoR l (S.tin.length+1) (leaveE S) (leaveE (S.more l)):=by
 unfold leaveE
 show MoR l _ _ (if S.calls.length=0\/0<S.cur.loc then _ else _)
 split
 ·exact MoR.bad (by decide)
 ·exact fun _=>⟨rfl,Nat.le_succ _⟩
end
def MoreR (m:Nat) (l:List Int) (n:Nat) (S S':ST):Prop:=S'=S.more l/\S.tin.length<=m+n
theorem MoR.op {l:List Int} {m n:Nat} {R R':Int×ST} {S:ST} (h:MoR l (S.tin.length+1) R R') (hm:S.tin.length<=m+n):OpS False (MoreR m l (n+1)) R R':=by
 refine ⟨fun h0=>?_,fun hf=>hf.elim⟩
 obtain ⟨h1,h2⟩:=h h0
 rw [h1]
 exact ⟨rfl,rfl,by omega⟩
theorem more_sim (m:Nat) (l:List Int) (F:Int) (hF:(m:Int)+F+l.length<4096):SimR False F (MoreR m l) where
 look:=fun n S S' h=>by rw [h.1]; rfl
 tick:=fun n S S' h=>⟨h.1,by have:=h.2; omega⟩
 do_:=fun n S S' t hn h=>by obtain ⟨rfl,h2⟩:=h; exact (doE_more (by omega) t).op h2
 undo:=fun n S S' t hn h=>by obtain ⟨rfl,h2⟩:=h; obtain ⟨k,x,s,ks⟩:=t; exact (doE_more (by omega) _).op h2
 open_:=fun n S S' v x hn h=>by obtain ⟨rfl,h2⟩:=h; exact (openE_more _ _).op h2
 close:=fun n S S' s x hn h=>by obtain ⟨rfl,h2⟩:=h; exact (closeE_more _ _).op h2
 enter:=fun n S S' ps ss hn h=>by obtain ⟨rfl,h2⟩:=h; exact (enterE_more _ _).op h2
 leave:=fun n S S' hn h=>by obtain ⟨rfl,h2⟩:=h; exact leaveE_more.op h2
def SS.more (s:SS) (l:List Int):SS:={ s with tin:=s.tin++l }
theorem fitB_more {vs:List VD} {s:SS} {l:List Int} (h:fitB vs s=true) (hl:s.tin.length+l.length<=4096):fitB vs (s.more l)=true:=by
 obtain ⟨cs,ti,tu⟩:=s
 change fitB vs ⟨cs,ti++l,tu⟩=true
 change ti.length+l.length<=4096 at hl
 unfold fitB at h ⊢
 simp only [Bool.and_eq_true,decide_eq_true_eq] at h ⊢
 refine ⟨⟨⟨⟨h.1.1.1.1,h.1.1.1.2⟩,?_⟩,h.1.2⟩,h.2⟩
 simp only [List.length_append]
 omega
theorem more_law {p:PG} {s:SS} {F:Int} {g:Nat} {back:Bool} {l:List Int} (hg:F.toNat*2000+2000<=g) (hF0:0<=F) (hl:(s.tin.length:Int)+F+l.length<4096) (h:(resO p s F g back).2.2.1=0) :
  (resO p (s.more l) F g back).1=(resO p s F g back).1.more l/\(resO p (s.more l) F g back).2.1=(resO p s F g back).2.1/\(resO p (s.more l) F g back).2.2.1=0:=by
 obtain ⟨h1,h2,h3,r,hr,he⟩:=resO_ok hg h
 have hsim:=runO_sim (k:=0) (F':=F) (more_sim s.tin.length l F hl) (by omega) (prs:=p.prs) g back p.m ⟨newS p.vs s,0,List.replicate p.prs.length 0⟩ ⟨newS p.vs (s.more l),0,List.replicate p.prs.length 0⟩ ⟨⟨rfl,Nat.le_add_right _ _⟩,rfl⟩
 rw [hr] at hsim
 rcases hsim with ⟨-,hf⟩|⟨r',hr',⟨⟨hs,-⟩,hn⟩⟩
 ·omega
 ·rw [he,resO_run h1 h2 (fitB_more h3 (by omega)),hr']
  simp only [outR]
  exact ⟨by rw [hs]; rfl,by omega,trivial⟩
section
variable {P:Program} {md:Region.Mode} {ops:Array Oper} {Q:Exit->Act->World->Prop} {S1 S2:World->Prop} {k:Nat}
theorem wpG_alt2 {i j1 j2:Nat} {oi o1 o2:Oper} (si s1 s2:Option Nat) (n:Nat) (L:Bool->Bool->Bool->Array Bool) (a0:Act) (Inv:World->Prop) (J:Bool->Bool->Value->Value->World->Prop) (Fact:Value->World->Prop)
  (hoi:ops[i]?=some oi) (ho1:ops[j1]?=some o1) (ho2:ops[j2]?=some o2) (hdi:oi.dst=si) (hd1:o1.dst=s1) (hd2:o2.dst=s2)
  (h00:Region.ready md ops (L false false false)=[i,j1,j2]) (h01:Region.ready md ops (L false false true)=[i,j1]) (h10:Region.ready md ops (L false true false)=[i,j2]) (h11:Region.ready md ops (L false true true)=[i])
  (hLi:∀ la lb,(L false la lb).setIfInBounds i true=L true la lb) (hL1:∀ lb,(L false false lb).setIfInBounds j1 true=L false true lb) (hL2:∀ la,(L false la false).setIfInBounds j2 true=L false la true)
  (hS:∀ w,Inv w->S1 w/\S2 w) (hInv:∀ w w',Inv w->Below w.heap.size w w'->Inv w') (hJ:∀ la lb u v w w',J la lb u v w->Below w.heap.size w w'->J la lb u v w')
  (hi:∀ (u v:Value) (K:Act->World->Prop) (w:World),Inv w->Shut (∀ x w',Below w.heap.size w w'->Fact x w'->K (((a0.put s1 u).put s2 v).put si x) w')->if Region.wanted oi (yielded ops ((a0.put s1 u).put s2 v).tmps)=true then Oper.wp P oi ((a0.put s1 u).put s2 v) w K Q else K (((a0.put s1 u).put s2 v).put si undef) w)
  (h1:∀ (lb:Bool) (u v:Value) (K:Act->World->Prop) (w:World),Inv w->J false lb u v w->Shut (∀ x w',Below w.heap.size w w'->J true lb x v w'->K (((a0.put s1 u).put s2 v).put s1 x) w')->if Region.wanted o1 (yielded ops ((a0.put s1 u).put s2 v).tmps)=true then Oper.wp P o1 ((a0.put s1 u).put s2 v) w K Q else K (((a0.put s1 u).put s2 v).put s1 undef) w)
  (h2:∀ (la:Bool) (u v:Value) (K:Act->World->Prop) (w:World),Inv w->J la false u v w->Shut (∀ x w',Below w.heap.size w w'->J la true u x w'->K (((a0.put s1 u).put s2 v).put s2 x) w')->if Region.wanted o2 (yielded ops ((a0.put s1 u).put s2 v).tmps)=true then Oper.wp P o2 ((a0.put s1 u).put s2 v) w K Q else K (((a0.put s1 u).put s2 v).put s2 undef) w)
  (hp1:∀ u v x,((a0.put s1 u).put s2 v).put s1 x=(a0.put s1 x).put s2 v) (hp2:∀ u v x,((a0.put s1 u).put s2 v).put s2 x=(a0.put s1 u).put s2 x)
  (hc:∀ (la lb:Bool) (u v x:Value) (w:World),Inv w->Fact x w->J la lb u v w->wpG P md ops Q S1 S2 k (n+(!la).toNat+(!lb).toNat) (L true la lb) (((a0.put s1 u).put s2 v).put si x) w) :
  ∀ (la lb:Bool) (u v:Value) (w:World),Inv w->J la lb u v w->(a0.put s1 u).put s2 v=a0->wpG P md ops Q S1 S2 k (n+1+(!la).toNat+(!lb).toNat) (L false la lb) a0 w:=by
 subst hdi hd1 hd2
 have hmem:∀ la lb q,q∈Region.ready md ops (L false la lb)->q=i\/(q=j1/\la=false)\/(q=j2/\lb=false):=by
  intro la lb q hq
  cases la<;>cases lb
  ·rw [h00] at hq; simp at hq; rcases hq with h|h|h<;>simp [h]
  ·rw [h01] at hq; simp at hq; rcases hq with h|h<;>simp [h]
  ·rw [h10] at hq; simp at hq; rcases hq with h|h<;>simp [h]
  ·rw [h11] at hq; simp at hq; simp [hq]
 have hne:∀ la lb,Region.ready md ops (L false la lb)≠[]:=by
  intro la lb
  cases la<;>cases lb
  ·rw [h00]; simp
  ·rw [h01]; simp
  ·rw [h10]; simp
  ·rw [h11]; simp
 let Pp:Bool->Bool->Prop:=fun la lb=>∀ (u v:Value) (w:World),Inv w->J la lb u v w->wpG P md ops Q S1 S2 k (n+1+(!la).toNat+(!lb).toNat) (L false la lb) ((a0.put o1.dst u).put o2.dst v) w
 have step:∀ la lb,(la=false->Pp true lb)->(lb=false->Pp la true)->Pp la lb:=by
  intro la lb ia ib u v w hI hj
  rw [show n+1+(!la).toNat+(!lb).toNat=(n+(!la).toNat+(!lb).toNat)+1 by omega]
  refine ⟨(fun h0=>absurd h0 (hne la lb)),fun q hq=>?_⟩
  rcases hmem la lb q hq with rfl|⟨rfl,rfl⟩|⟨rfl,rfl⟩
  ·refine wpOp_step hoi fun K' hK=>hi u v K' w hI ?_
   intro x w' hbl hF
   have hI':=hInv _ _ hI hbl
   refine hK _ _ ⟨⟨(hS _ hI').1,fun _=>(hS _ hI').2⟩,?_⟩
   rw [hLi]
   exact hc la lb u v x w' hI' hF (hJ _ _ _ _ _ _ hj hbl)
  ·refine wpOp_step ho1 fun K' hK=>h1 lb u v K' w hI hj ?_
   intro x w' hbl hF
   have hI':=hInv _ _ hI hbl
   refine hK _ _ ⟨⟨(hS _ hI').1,fun _=>(hS _ hI').2⟩,?_⟩
   rw [hL1,hp1]
   have:=ia rfl x v w' hI' hF
   simpa using this
  ·refine wpOp_step ho2 fun K' hK=>h2 la u v K' w hI hj ?_
   intro x w' hbl hF
   have hI':=hInv _ _ hI hbl
   refine hK _ _ ⟨⟨(hS _ hI').1,fun _=>(hS _ hI').2⟩,?_⟩
   rw [hL2,hp2]
   have:=ib rfl u x w' hI' hF
   have e:n+1+(!la).toNat+(!true).toNat=n+(!la).toNat+(!false).toNat:=by simp; omega
   rw [e] at this
   exact this
 have ptt:Pp true true:=step _ _ (fun h=>by cases h) (fun h=>by cases h)
 have ptf:Pp true false:=step _ _ (fun h=>by cases h) (fun _=>ptt)
 have pft:Pp false true:=step _ _ (fun _=>ptt) (fun h=>by cases h)
 have pff:Pp false false:=step _ _ (fun _=>ptf) (fun _=>pft)
 intro la lb u v w hI hj he
 have:Pp la lb:=by cases la<;>cases lb<;>assumption
 rw [<-he]
 exact this u v w hI hj
theorem wpG_free2 {j1 j2:Nat} {o1 o2:Oper} (s1 s2:Option Nat) (n:Nat) (L:Bool->Bool->Array Bool) (a0:Act) (Inv:World->Prop) (J:Bool->Bool->Value->Value->World->Prop)
  (ho1:ops[j1]?=some o1) (ho2:ops[j2]?=some o2) (hd1:o1.dst=s1) (hd2:o2.dst=s2)
  (h00:Region.ready md ops (L false false)=[j1,j2]) (h01:Region.ready md ops (L false true)=[j1]) (h10:Region.ready md ops (L true false)=[j2])
  (hL1:∀ lb,(L false lb).setIfInBounds j1 true=L true lb) (hL2:∀ la,(L la false).setIfInBounds j2 true=L la true)
  (hS:∀ w,Inv w->S1 w/\S2 w) (hInv:∀ w w',Inv w->Below w.heap.size w w'->Inv w')
  (h1:∀ (lb:Bool) (u v:Value) (K:Act->World->Prop) (w:World),Inv w->J false lb u v w->Shut (∀ x w',Below w.heap.size w w'->J true lb x v w'->K (((a0.put s1 u).put s2 v).put s1 x) w')->if Region.wanted o1 (yielded ops ((a0.put s1 u).put s2 v).tmps)=true then Oper.wp P o1 ((a0.put s1 u).put s2 v) w K Q else K (((a0.put s1 u).put s2 v).put s1 undef) w)
  (h2:∀ (la:Bool) (u v:Value) (K:Act->World->Prop) (w:World),Inv w->J la false u v w->Shut (∀ x w',Below w.heap.size w w'->J la true u x w'->K (((a0.put s1 u).put s2 v).put s2 x) w')->if Region.wanted o2 (yielded ops ((a0.put s1 u).put s2 v).tmps)=true then Oper.wp P o2 ((a0.put s1 u).put s2 v) w K Q else K (((a0.put s1 u).put s2 v).put s2 undef) w)
  (hp1:∀ u v x,((a0.put s1 u).put s2 v).put s1 x=(a0.put s1 x).put s2 v) (hp2:∀ u v x,((a0.put s1 u).put s2 v).put s2 x=(a0.put s1 u).put s2 x)
  (hc:∀ (u v:Value) (w:World),Inv w->J true true u v w->wpG P md ops Q S1 S2 k n (L true true) ((a0.put s1 u).put s2 v) w) :
  ∀ (la lb:Bool) (u v:Value) (w:World),Inv w->J la lb u v w->(a0.put s1 u).put s2 v=a0->wpG P md ops Q S1 S2 k (n+(!la).toNat+(!lb).toNat) (L la lb) a0 w:=by
 subst hd1 hd2
 let Pp:Bool->Bool->Prop:=fun la lb=>∀ (u v:Value) (w:World),Inv w->J la lb u v w->wpG P md ops Q S1 S2 k (n+(!la).toNat+(!lb).toNat) (L la lb) ((a0.put o1.dst u).put o2.dst v) w
 have ptt:Pp true true:=fun u v w hI hj=>hc u v w hI hj
 have s1:∀ lb (u v:Value) (w:World),Inv w->J false lb u v w->Pp true lb->wpOp P ops Q j1 (fun a' w'=>(S1 w'/\(((L false lb).setIfInBounds j1 true).getD k true=false->S2 w'))/\wpG P md ops Q S1 S2 k (n+(!lb).toNat) ((L false lb).setIfInBounds j1 true) a' w') ((a0.put o1.dst u).put o2.dst v) w:=by
  intro lb u v w hI hj hP
  refine wpOp_step ho1 fun K' hK=>h1 lb u v K' w hI hj ?_
  intro x w' hbl hF
  have hI':=hInv _ _ hI hbl
  refine hK _ _ ⟨⟨(hS _ hI').1,fun _=>(hS _ hI').2⟩,?_⟩
  rw [hL1,hp1]
  have:=hP x v w' hI' hF
  simpa using this
 have s2:∀ la (u v:Value) (w:World),Inv w->J la false u v w->Pp la true->wpOp P ops Q j2 (fun a' w'=>(S1 w'/\(((L la false).setIfInBounds j2 true).getD k true=false->S2 w'))/\wpG P md ops Q S1 S2 k (n+(!la).toNat) ((L la false).setIfInBounds j2 true) a' w') ((a0.put o1.dst u).put o2.dst v) w:=by
  intro la u v w hI hj hP
  refine wpOp_step ho2 fun K' hK=>h2 la u v K' w hI hj ?_
  intro x w' hbl hF
  have hI':=hInv _ _ hI hbl
  refine hK _ _ ⟨⟨(hS _ hI').1,fun _=>(hS _ hI').2⟩,?_⟩
  rw [hL2,hp2]
  have:=hP u x w' hI' hF
  simpa using this
 have pft:Pp false true:=fun u v w hI hj=>by
  show wpG P md ops Q S1 S2 k (n+1+0) _ _ w
  refine ⟨(fun h0=>by rw [h01] at h0; cases h0),fun q hq=>?_⟩
  rw [h01] at hq
  simp only [List.mem_singleton] at hq
  subst hq
  exact s1 true u v w hI hj ptt
 have ptf:Pp true false:=fun u v w hI hj=>by
  show wpG P md ops Q S1 S2 k (n+0+1) _ _ w
  refine ⟨(fun h0=>by rw [h10] at h0; cases h0),fun q hq=>?_⟩
  rw [h10] at hq
  simp only [List.mem_singleton] at hq
  subst hq
  exact s2 true u v w hI hj ptt
 have pff:Pp false false:=fun u v w hI hj=>by
  show wpG P md ops Q S1 S2 k (n+1+1) _ _ w
  refine ⟨(fun h0=>by rw [h00] at h0; cases h0),fun q hq=>?_⟩
  rw [h00] at hq
  simp only [List.mem_cons,List.not_mem_nil,or_false] at hq
  rcases hq with rfl|rfl
  ·exact s1 false u v w hI hj ptf
  ·exact s2 false u v w hI hj pft
 intro la lb u v w hI hj he
 have:Pp la lb:=by cases la<;>cases lb<;>assumption
 rw [<-he]
 exact this u v w hI hj
end
def J2 (o:Obj) (n:Nat) (la lb:Bool) (u v:Value) (w:World):Prop :=
 (la=true->∃ b,u=.pointer (some ⟨b,0,none⟩)/\n<=b/\w.heap[b]?=some o)/\(lb=true->∃ b,v=.pointer (some ⟨b,0,none⟩)/\n<=b/\w.heap[b]?=some o)/\(la=true->lb=true->u≠v)
theorem J2.later {o:Obj} {n:Nat} {la lb:Bool} {u v:Value} {w w':World} (h:J2 o n la lb u v w) (hb:Below w.heap.size w w'):J2 o n la lb u v w':=by
 obtain ⟨h1,h2,h3⟩:=h
 refine ⟨fun e=>?_,fun e=>?_,h3⟩
 ·obtain ⟨b,e1,e2,e3⟩:=h1 e
  exact ⟨b,e1,e2,blk_bl e3 hb⟩
 ·obtain ⟨b,e1,e2,e3⟩:=h2 e
  exact ⟨b,e1,e2,blk_bl e3 hb⟩
theorem J2.one {o:Obj} {n:Nat} {lb:Bool} {u v:Value} {w:World} (h:J2 o n false lb u v w) (hn:n<=w.heap.size):J2 o n true lb (.pointer (some ⟨w.heap.size,0,none⟩)) v (w.alloc o):=by
 have hl:=h.later (bl_al (Below.refl _ _) o)
 refine ⟨fun _=>⟨_,rfl,hn,heap_alloc_new w o⟩,hl.2.1,fun _ e=>?_⟩
 obtain ⟨b,rfl,-,e3⟩:=h.2.1 e
 intro hh
 injection hh with hh
 injection hh with hh
 injection hh with hh
 have:=blk_lt e3
 omega
theorem J2.two {o:Obj} {n:Nat} {la:Bool} {u v:Value} {w:World} (h:J2 o n la false u v w) (hn:n<=w.heap.size):J2 o n la true u (.pointer (some ⟨w.heap.size,0,none⟩)) (w.alloc o):=by
 have hl:=h.later (bl_al (Below.refl _ _) o)
 refine ⟨hl.1,fun _=>⟨_,rfl,hn,heap_alloc_new w o⟩,fun e _=>?_⟩
 obtain ⟨b,rfl,-,e3⟩:=h.1 e
 intro hh
 injection hh with hh
 injection hh with hh
 injection hh with hh
 have:=blk_lt e3
 omega
theorem J2.boxes {o:Obj} {n:Nat} {u v:Value} {w:World} (h:J2 o n true true u v w):∃ b c,u=.pointer (some ⟨b,0,none⟩)/\v=.pointer (some ⟨c,0,none⟩)/\n<=b/\n<=c/\b≠c/\w.heap[b]?=some o/\w.heap[c]?=some o:=by
 obtain ⟨b,rfl,e2,e3⟩:=h.1 rfl
 obtain ⟨c,rfl,f2,f3⟩:=h.2.1 rfl
 exact ⟨b,c,rfl,rfl,e2,f2,fun e=>h.2.2 rfl rfl (by rw [e]),e3,f3⟩
theorem OwnS.chgT {W W':World} {n0 ba:Nat} {s:SS} {v:Value} {xs:Array Value} (h:OwnS W n0 s v) (hc:Chg (fun b=>b=ba) W W') (hz:W.heap[ba]?=some (.cells xs 37 (0,0))):OwnS W' n0 s v:=by
 obtain ⟨vc,vi,vo,fc,rfl,hr,hi⟩:=h
 refine ⟨vc,vi,vo,fc,rfl,hr.chg hc fun i b hb hcb=>?_,hi⟩
 have hcb:b=ba:=hcb
 subst hcb
 obtain ⟨-,⟨hv,-⟩|⟨g,cap,cur,hv,-,hg,-⟩⟩:=hr.row i
 ·rw [hv] at hb
  cases hb
 ·rw [hv] at hb
  injection hb with hb
  have hb:g=b:=hb
  subst hb
  rw [hz] at hg
  injection hg with hg
  injection hg with _ hE
  cases i with
  | all=>simp [rowsS] at hE
  | inp=>simp [rowsS] at hE
  | out=>simp [rowsS] at hE
  | el i =>
   simp only [rowsS] at hE
   split at hE
   ·simp at hE
   ·exact absurd hE (by decide)
theorem fnFwdI:IsFn Tryz.prog 15 Tryz.f15:=⟨Tryz.func15,by kernel_rfl,by kernel_rfl⟩
theorem wpList_append_I {ops:Array Oper} {rest:List Oper} {o:Oper} {a:Act} {W:World} {Q:Exit->Act->World->Prop} (hgd:o.guard=none) (s x:Operand)
  (ho:o.op=.call { callee:=.builtin .append,args := #[s,x],argTypes := #[30,30] }) (base:Nat) (v:Value) (n:Nat) (xs:List Value) (hs:a.eval s=v) (hrow:W.ownsRow base 3 1 v n xs)
  (A:Option Addr) (l:List Int) (c:Nat) (hx:a.eval x=.slice A l.length c) (hr:RowI W Any A l) (hl:n+l.length<=1000000) (hb:base<=W.heap.size)
  (h:∀ v' w',w'.ownsRow base 3 1 v' (n+l.length) (xs++flatI l)->W.grownBy w' v.ownBlock->(v'.ownBlock=v.ownBlock\/v'.ownBlock=some W.heap.size)->wpList Tryz.prog ops Q rest (a.put o.dst v') w') :
  wpList Tryz.prog ops Q (o::rest) a W:=by
 obtain ⟨i,hi,hz0,hz1,hz2⟩:=info_parts intInfo
 rcases A with _|ad
 ·have hl0:l=[]:=by
   rcases l with _|⟨y,l⟩
   ·rfl
   ·obtain ⟨_,h0,_⟩:=hr 0 (by simp); cases h0
  subst hl0
  refine wpList_plain hgd fun K hK=>?_
  have hrun:(Builtin.append_ #[30,30] o.type #[v,.slice none 0 c]).run Tryz.prog W=.ok v W:=by
   rcases hrow.2 with ⟨rfl,h0⟩|⟨g,cap,cur,rfl,_,_,hnc,_⟩
   ·simp [Builtin.append_,run_underlying Tryz.underlying30,sizeOf,typeInfo,hi,Builtin.lenOf,Builtin.firstCells]
   ·simp [Builtin.append_,run_underlying Tryz.underlying30,sizeOf,typeInfo,hi,Builtin.lenOf,Builtin.firstCells,hnc,storeCells]
  unfold Oper.wp execOp
  simp only [ho,resolve,invoke,builtin,Sem.run_bind,Sem.run_pure,Result.andThen_ok,List.map_toArray,List.map_cons,List.map_nil,hs,hx,List.length_nil,hrun]
  exact hK _ _ (h v W (by simpa [flatI] using hrow) (only_refl _ _) (.inl rfl))
 ·refine wpList_append_own_at (P:=Tryz.prog) _ hgd s x 30 ho base 3 i _ 1 8 Tryz.underlying30 hi hz0 hz1 hz2 rfl (by decide) v n xs hs hrow ad l.length c (flatI l) hx (by simp [flatI]) (fun j u hj=>?_) (fun u hu=>?_) (by unfold maxLen; omega) (by omega) hb (fun v' w' h1 h2 _ h4=>h v' w' h1 h2 h4)
  ·have hjl:j<l.length:=by have:=(List.getElem?_eq_some_iff.1 hj).1; simpa [flatI] using this
   obtain ⟨a',h0,_,h2,_⟩:=hr j hjl
   injection h0 with h0
   subst h0
   rw [h2]
   simp [flatI,hjl] at hj ⊢
   exact hj
  ·simp only [flatI,List.mem_map] at hu
   obtain ⟨y,_,rfl⟩:=hu
   rfl
theorem OwnS.moreI {W W':World} {n0:Nat} {s:SS} {l:List Int} {vc vi vo v':Value} (h:OwnS W n0 s (.agg #[vc,vi,vo])) (hx:∀ x∈l,I64 x)
  (ho:W'.ownsRow n0 3 1 v' (s.tin.length+l.length) (flatI s.tin++flatI l)) (hg:W.grownBy W' vi.ownBlock) (hob:v'.ownBlock=vi.ownBlock\/v'.ownBlock=some W.heap.size) :
  OwnS W' n0 (s.more l) (.agg #[vc,v',vo]):=by
 obtain ⟨vc',vi',vo',fc,e,hr,h1,h2,h3⟩:=h
 injection e with e
 simp only [Array.mk.injEq,List.cons.injEq,and_true] at e
 obtain ⟨rfl,rfl,rfl⟩:=e
 have hup:=hr.upd .inp (r:=⟨v',3,1,s.tin.length+l.length,flatI s.tin++flatI l⟩) (Chg.row hg) ho (fun b hb=>by
  have hb:v'.ownBlock=some b:=hb
  rcases hob with e|e
  ·left; show vi.ownBlock=some b; rw [<-e]; exact hb
  ·right; rw [e] at hb; injection hb with hb; exact Nat.le_of_eq hb)
 have he:updR (rowsS vc vi vo fc s) .inp ⟨v',3,1,s.tin.length+l.length,flatI s.tin++flatI l⟩=rowsS vc v' vo fc (s.more l):=by
  funext q
  cases q<;>simp [updR,rowsS,SS.more,flatI]
 rw [he] at hup
 exact ⟨vc,v',vo,fc,rfl,hup,h1,fun x hm=>by
  simp only [SS.more,List.mem_append] at hm
  rcases hm with hm|hm
  ·exact h2 x hm
  ·exact hx x hm,h3⟩
theorem OwnS.chgS {W W':World} {n0 ba:Nat} {s:SS} {v:Value} {xs:Array Value} (h:OwnS W n0 s v) (hc:Chg (fun b=>b=ba) W W') (hz:W.heap[ba]?=some (.cells xs 32 (0,0))):OwnS W' n0 s v:=by
 obtain ⟨vc,vi,vo,fc,rfl,hr,hi⟩:=h
 refine ⟨vc,vi,vo,fc,rfl,hr.chg hc fun i b hb hcb=>?_,hi⟩
 have hcb:b=ba:=hcb
 subst hcb
 obtain ⟨-,⟨hv,-⟩|⟨g,cap,cur,hv,-,hg,-⟩⟩:=hr.row i
 ·rw [hv] at hb
  cases hb
 ·rw [hv] at hb
  injection hb with hb
  have hb:g=b:=hb
  subst hb
  rw [hz] at hg
  injection hg with hg
  injection hg with _ hE
  cases i with
  | all=>simp [rowsS] at hE
  | inp=>simp [rowsS] at hE
  | out=>simp [rowsS] at hE
  | el i =>
   simp only [rowsS] at hE hv
   split at hE
   ·simp at hE
   ·rename_i hn
    rw [if_neg hn] at hv
    simp [nilR] at hv
def FwO (n:Nat) (S1:SS) (n1:Nat) (e1:Int) (x:Value) (w:World):Prop:=∃ A c B d D g,x=.agg #[.slice A S1.cells.length c,.slice B S1.tin.length d,.slice D S1.tout.length g,.int .i64 (n1:Int),.int .i64 e1]/\OwnS w n S1 (.agg #[.slice A S1.cells.length c,.slice B S1.tin.length d,.slice D S1.tout.length g])
theorem FwP.own {W W':World} {S1:SS} {n1:Nat} {e1:Int} {l1:List Nat} {e:Ending} {n:Nat} (hn:n<=W.heap.size) (h:FwP W (S1,n1,e1,l1) e W'):∃ x,e=.returned x/\(FwO n S1 n1 e1 x W'/\LimR (S1,n1,e1,l1))/\Below W.heap.size W W':=by
 obtain ⟨v1,v2,v3,rfl,ho,hb,hl⟩:=h
 have hsv:=ho.lower hn
 obtain ⟨A,c,B,d,D,g,hv⟩:=ho.slices
 rw [hv] at hsv
 injection hv with hv
 simp only [Array.mk.injEq,List.cons.injEq,and_true] at hv
 obtain ⟨rfl,rfl,rfl⟩:=hv
 exact ⟨_,rfl,⟨⟨A,c,B,d,D,g,rfl,hsv⟩,hl⟩,hb⟩
theorem SV.tinI {w:World} {s:SS} {A B D:Option Addr} {c d e:Nat} (h:SV w Any s (.agg #[.slice A s.cells.length c,.slice B s.tin.length d,.slice D s.tout.length e])) {l:List Int} {B':Option Addr} {d':Nat} (hr:RowI w Any B' l) (hd:l.length<=d') (hl:l.length<=LI) :
  SV w Any { s with tin:=l } (.agg #[.slice A s.cells.length c,.slice B' l.length d',.slice D s.tout.length e]):=by
 obtain ⟨A2,c2,B2,d2,D2,e2,he,h1,h2,h3,h4,h5,h6,h7,h8,h9,h10⟩:=h
 injection he with he
 simp only [Array.mk.injEq,List.cons.injEq,Value.slice.injEq,and_true,true_and] at he
 obtain ⟨⟨rfl,rfl⟩,⟨rfl,rfl⟩,⟨rfl,rfl⟩⟩:=he
 exact ⟨A,c,B',d',D,e,rfl,h1,hr,h3,h4,hd,h6,h7,h8,hl,h10⟩
theorem Input_walk (p:PG) (s:SS) (l:List Int) (Am:Option Addr) (cm:Nat) (v sv:Value) (W:World) (hp:PV W Any p v) (hs:SV W Any s sv) (hm:RowI W Any Am l) (hlm:l.length<=cm) :
  Calls Tryz.prog 8 #[v,sv,.slice Am l.length cm] W fun e W'=>e=.returned (.bool true)/\Below W.heap.size W W':=by
 have HMR:=zh hm
 clear hm
 have HPV:=zh hp
 have HSV:=zh hs
 obtain ⟨A1,c1,A2,c2,A3,c3,rfl,hpg⟩:=hp
 obtain ⟨A,c,B,d,D,e,rfl,hr1,hr2,hr3,hc1,hc2,hc3,hl1,hl2,hl3,hl4⟩:=hs
 have hb2:=bl_al (bl_al (Below.refl W.heap.size W) (.cells #[.slice A1 p.vs.length c1,.slice A2 p.prs.length c2,.int .u8 p.m.k,.int .i64 p.m.n,.string p.m.s,.slice A3 p.m.ks.length c3] 28)) (.cells #[.slice A s.cells.length c,.slice B s.tin.length d,.slice D s.tout.length e] 32)
 have k0:=blk_al (heap_alloc_new W (.cells #[.slice A1 p.vs.length c1,.slice A2 p.prs.length c2,.int .u8 p.m.k,.int .i64 p.m.n,.string p.m.s,.slice A3 p.m.ks.length c3] 28)) (.cells #[.slice A s.cells.length c,.slice B s.tin.length d,.slice D s.tout.length e] 32)
 have k1:=heap_alloc_new (W.alloc (.cells #[.slice A1 p.vs.length c1,.slice A2 p.prs.length c2,.int .u8 p.m.k,.int .i64 p.m.n,.string p.m.s,.slice A3 p.m.ks.length c3] 28)) (.cells #[.slice A s.cells.length c,.slice B s.tin.length d,.slice D s.tout.length e] 32)
 rw [World.size_alloc] at k1
 obtain ⟨w2,hw2⟩:∃ x,(W.alloc (.cells #[.slice A1 p.vs.length c1,.slice A2 p.prs.length c2,.int .u8 p.m.k,.int .i64 p.m.n,.string p.m.s,.slice A3 p.m.ks.length c3] 28)).alloc (.cells #[.slice A s.cells.length c,.slice B s.tin.length d,.slice D s.tout.length e] 32)=x:=⟨_,rfl⟩
 rw [hw2] at hb2 k0 k1
 have HB2:=zh hb2
 have HK0:=zh k0
 have HK1:=zh k1
 clear hpg hr1 hr2 hr3 hb2 k0 k1 hc1 hc2 hc3 hl1 hl2 hl3 hl4
 have HAW:=zh (awake_any w2)
 have HGR:=zh (fun w' (hb:Below w2.heap.size w2 w')=>great_any p s 0 _ _ w' (HPV.out.later (bl_tt HB2.out hb)) (HSV.out.later (bl_tt HB2.out hb)) ⟨by decide,by decide⟩)
 go_enter Tryz.func8,Tryz.ntmps8
 go_wp2_with fail
 refine HAW.out.mono ?_
 rintro e3 w3 ⟨rfl,b3⟩
 clear hw2 HAW
 have hPq:=blk_bl HK0.out b3
 have hSq:=blk_bl HK1.out b3
 have p0:w3.cell? ⟨W.heap.size,0,none⟩=some (.slice A1 p.vs.length c1):=zc hPq rfl
 have p1:w3.cell? ⟨W.heap.size,1,none⟩=some (.slice A2 p.prs.length c2):=zc hPq rfl
 have p2:w3.cell? ⟨W.heap.size,2,none⟩=some (.int .u8 p.m.k):=zc hPq rfl
 have p3:w3.cell? ⟨W.heap.size,3,none⟩=some (.int .i64 p.m.n):=zc hPq rfl
 have p4:w3.cell? ⟨W.heap.size,4,none⟩=some (.string p.m.s):=zc hPq rfl
 have p5:w3.cell? ⟨W.heap.size,5,none⟩=some (.slice A3 p.m.ks.length c3):=zc hPq rfl
 have s0:w3.cell? ⟨W.heap.size+1,0,none⟩=some (.slice A s.cells.length c):=zc hSq rfl
 have s1:w3.cell? ⟨W.heap.size+1,1,none⟩=some (.slice B s.tin.length d):=zc hSq rfl
 have s2:w3.cell? ⟨W.heap.size+1,2,none⟩=some (.slice D s.tout.length e):=zc hSq rfl
 clear hPq hSq
 go_wp2_with fail
 refine (HGR.out _ b3).mono ?_
 rintro e4 w4 ⟨gb,rfl,hgb,b4⟩
 have b24:=bl_tt b3 b4
 clear p0 p1 p2 p3 p4 p5 s0 s1 s2 b3 b4 HGR
 cases gb
 ·by_cases hl20:l.length<=20
  ·have HSM:=zh (hgb rfl)
   have HCL:=zh (show s.cells.length<=1000000 by have:=HSM.out.cells; omega)
   have hlz:¬ (20:Int)<(l.length:Int):=by omega
   clear hgb
   have HCN:=zh (Clone_st s _ w4 (HSV.out.later (bl_tt HB2.out b24)) HCL.out)
   have hPq:=blk_bl HK0.out b24
   have hSq:=blk_bl HK1.out b24
   have p0:w4.cell? ⟨W.heap.size,0,none⟩=some (.slice A1 p.vs.length c1):=zc hPq rfl
   have p1:w4.cell? ⟨W.heap.size,1,none⟩=some (.slice A2 p.prs.length c2):=zc hPq rfl
   have p2:w4.cell? ⟨W.heap.size,2,none⟩=some (.int .u8 p.m.k):=zc hPq rfl
   have p3:w4.cell? ⟨W.heap.size,3,none⟩=some (.int .i64 p.m.n):=zc hPq rfl
   have p4:w4.cell? ⟨W.heap.size,4,none⟩=some (.string p.m.s):=zc hPq rfl
   have p5:w4.cell? ⟨W.heap.size,5,none⟩=some (.slice A3 p.m.ks.length c3):=zc hPq rfl
   have s0:w4.cell? ⟨W.heap.size+1,0,none⟩=some (.slice A s.cells.length c):=zc hSq rfl
   have s1:w4.cell? ⟨W.heap.size+1,1,none⟩=some (.slice B s.tin.length d):=zc hSq rfl
   have s2:w4.cell? ⟨W.heap.size+1,2,none⟩=some (.slice D s.tout.length e):=zc hSq rfl
   clear hPq hSq
   go_upto_region 3 with fail
   clear hlz
   go_wp2_with fail
   refine HCN.out.mono ?_
   rintro e5 w5 ⟨vb,rfl,hob,b5⟩
   have b25:=bl_tt b24 b5
   clear HCN p0 p1 p2 p3 p4 p5 s0 s1 s2
   obtain ⟨A9,c9,B9,d9,D9,g9,rfl⟩:=hob.slices
   go_upto_region 4 with fail
   have ka:=heap_alloc_new w5 (.cells #[.slice A9 s.cells.length c9,.slice B9 s.tin.length d9,.slice D9 s.tout.length g9] 32)
   have hba:=bl_al (Below.refl w5.heap.size w5) (.cells #[.slice A9 s.cells.length c9,.slice B9 s.tin.length d9,.slice D9 s.tout.length g9] 32)
   obtain ⟨w6,hqx⟩:∃ x,w5.alloc (.cells #[.slice A9 s.cells.length c9,.slice B9 s.tin.length d9,.slice D9 s.tout.length g9] 32)=x:=⟨_,rfl⟩
   obtain ⟨cb,hqy⟩:∃ x,w5.heap.size=x:=⟨_,rfl⟩
   rw [hqx] at ka hba ⊢
   rw [hqy] at ka ⊢
   have b26:=bl_tt b25 hba
   have hi9:∀ b,(Value.slice B9 s.tin.length d9).ownBlock=some b->w4.heap.size<=b/\b<cb:=by
    obtain ⟨vc,vi,vo,fc,he,hr,-⟩:=hob
    injection he with he
    simp only [Array.mk.injEq,List.cons.injEq,and_true] at he
    obtain ⟨rfl,rfl,rfl⟩:=he
    intro b hb
    have:=hr.lt .inp b hb
    omega
   have ho6:=hob.later hba
   have hrow:w6.ownsRow w4.heap.size 3 1 (.slice B9 s.tin.length d9) s.tin.length (flatI s.tin):=by
    obtain ⟨vc,vi,vo,fc,he,hr,-⟩:=ho6
    injection he with he
    simp only [Array.mk.injEq,List.cons.injEq,and_true] at he
    obtain ⟨rfl,rfl,rfl⟩:=he
    exact hr.row .inp
   have z1:w6.cell? ⟨cb,1,none⟩=some (.slice B9 s.tin.length d9):=zc ka rfl
   have hmr6:=HMR.out.later (bl_tt HB2.out b26)
   have hsz6:w4.heap.size<=w6.heap.size:=Nat.le_trans b5.size hba.size
   have hlt6:s.tin.length+l.length<=1000000:=by have:=HSM.out.tin; omega
   go_upto_region 5 with (at_builtin; (refine wpList_append_I rfl (.tmp 26) (.tmp 27) rfl w4.heap.size (.slice B9 s.tin.length d9) s.tin.length (flatI s.tin) rfl hrow Am l cm rfl hmr6 hlt6 hsz6 ?_; intro v7 w7 ho7 hg7 hob7; have kb7:=(Chg.row hg7).keep ka (fun e=>by have:=(hi9 _ e).2; omega); have HO7:=zh (ho6.moreI HMR.out.fits ho7 hg7 hob7); have h67:=(Chg.row hg7).below (B:=w4.heap.size) hsz6 (fun b e=>(hi9 _ e).1); have hw47:=((bl_tt (Below.refl w4.heap.size w4) b5).trans (hba.mono b5.size)).trans h67; obtain ⟨B8,d8,rfl,-⟩:=row_slice ho7; have z1:w7.cell? ⟨cb,1,none⟩=some (.slice B9 s.tin.length d9):=zc kb7 rfl; have zf:∀ o,w7.frozen? ⟨cb,o,none⟩=false:=fun _=>zf kb7; have HK7:=zh kb7; have HW7:=zh (bl_tt b24 hw47); have hcb4:w4.heap.size<=cb:=Nat.le_trans b5.size (Nat.le_of_eq hqy); clear hrow hmr6 hlt6 ka hba hi9 ho6 hob ho7 hg7 hob7 kb7 h67 hw47 hqx hqy b5 b25 b26 hsz6))
   have kb8:=heap_setCell_same w7 cb 1 _ _ (.slice B8 (s.tin.length+l.length) d8) HK7.out
   have hch:=(Chg.refl (fun q=>q=cb) w7).setCell (p:=⟨cb,1,none⟩) (.inl rfl) (.slice B8 (s.tin.length+l.length) d8)
   have ho8:=HO7.out.chgS hch HK7.out
   have hw8:Below w2.heap.size w2 (w7.setCell ⟨cb,1,none⟩ (.slice B8 (s.tin.length+l.length) d8)):=HW7.out.trans (hch.below HW7.out.size fun b e=>by have:=b24.size; have e:b=cb:=e; omega)
   clear zf z1
   obtain ⟨w8,hw8x⟩:∃ x,w7.setCell ⟨cb,1,none⟩ (.slice B8 (s.tin.length+l.length) d8)=x:=⟨_,rfl⟩
   rw [hw8x] at kb8 hch ho8 hw8 ⊢
   simp only [List.setIfInBounds_toArray,List.set_cons_zero,List.set_cons_succ] at kb8
   have HKT:=zh kb8
   have HO8:=zh ho8
   have HW8:=zh hw8
   clear kb8 hch ho8 hw8 hw8x HK7 HW7 HO7 b24 hcb4
   have HKP:=zh (blk_bl HK0.out HW8.out)
   have HKS:=zh (blk_bl HK1.out HW8.out)
   have HP8:=zh (HPV.out.later (bl_tt HB2.out HW8.out))
   have HS8:=zh (HSV.out.later (bl_tt HB2.out HW8.out))
   have hLM:(s.more l).Sm:=⟨by have:=HSM.out.cells; simp only [SS.more]; omega,fun q hq=>by have:=HSM.out.row q hq; omega,by have:=HSM.out.tin; simp only [SS.more,List.length_append]; omega,by have:=HSM.out.tout; simp only [SS.more]; omega⟩
   have HLM:=zh hLM
   have HT8:=zh (HO8.out.sv HLM.out.lim)
   clear hLM
   have hF:I64 (2000:Int):=⟨by decide,by decide⟩
   have hF6:(2000:Int)<=1000000:=by decide
   have hFG:(2000:Int).toNat*2000+2000<=5000000:=by decide
   obtain ⟨⟨S1,n1,e1,l1⟩,hR1⟩:∃ R,resO p s 2000 5000000 false=R:=⟨_,rfl⟩
   obtain ⟨⟨S2,n2,e2,l2⟩,hR2⟩:∃ R,resO p (s.more l) 2000 5000000 false=R:=⟨_,rfl⟩
   have hml:=more_law (p:=p) (s:=s) (F:=2000) (g:=5000000) (back:=false) (l:=l) hFG (by decide) (by have:=HSM.out.tin; omega)
   rw [hR1,hR2] at hml
   simp only at hml
   have HML:=zh hml
   clear hml
   obtain ⟨SSV,hSSV⟩:∃ S:World->Prop,S=fun w':World=>w'.cell? ⟨W.heap.size,0,none⟩=some (.slice A1 p.vs.length c1)/\w'.cell? ⟨W.heap.size,1,none⟩=some (.slice A2 p.prs.length c2)/\w'.cell? ⟨W.heap.size,2,none⟩=some (.int .u8 p.m.k)/\w'.cell? ⟨W.heap.size,3,none⟩=some (.int .i64 p.m.n)/\w'.cell? ⟨W.heap.size,4,none⟩=some (.string p.m.s)/\w'.cell? ⟨W.heap.size,5,none⟩=some (.slice A3 p.m.ks.length c3)/\w'.cell? ⟨W.heap.size+1,0,none⟩=some (.slice A s.cells.length c)/\w'.cell? ⟨W.heap.size+1,1,none⟩=some (.slice B s.tin.length d)/\w'.cell? ⟨W.heap.size+1,2,none⟩=some (.slice D s.tout.length e)/\w'.cell? ⟨cb,0,none⟩=some (.slice A9 s.cells.length c9)/\w'.cell? ⟨cb,1,none⟩=some (.slice B8 (s.tin.length+l.length) d8)/\w'.cell? ⟨cb,2,none⟩=some (.slice D9 s.tout.length g9):=⟨_,rfl⟩
   have HSS:=zh (show ∀ w',Below w8.heap.size w8 w'->SSV w' from fun w' hb=>by
    rw [hSSV]
    exact ⟨zb hb (zc HKP.out rfl),zb hb (zc HKP.out rfl),zb hb (zc HKP.out rfl),zb hb (zc HKP.out rfl),zb hb (zc HKP.out rfl),zb hb (zc HKP.out rfl),zb hb (zc HKS.out rfl),zb hb (zc HKS.out rfl),zb hb (zc HKS.out rfl),zb hb (zc HKT.out rfl),zb hb (zc HKT.out rfl),zb hb (zc HKT.out rfl)⟩)
   have hSS:SSV w8.drew/\(fun _:World=>True) w8.drew:=⟨HSS.out _ (Below.refl _ _).drew,trivial⟩
   refine wp_region_noPanic ?_
   refine wp_region_G SSV (fun _:World=>True) 8 (by kernel_rfl) ?_
   subst hSSV
   refine zT 0 hSS ?_
   (try simp only [Act.put,zP])
   refine zT 1 hSS ?_
   (try simp only [Act.put,zP])
   refine zT 3 hSS ?_
   (try simp only [Act.put,zP])
   refine zT 4 hSS ?_
   (try simp only [Act.put,zP])
   have hI:(fun w=>Below w8.heap.size w8 w) w8.drew:=(Below.refl _ _).drew
   clear hSS
   refine wpG_alt2 (i:=2) (j1:=6) (j2:=7) (some 32) (some 8) (some 9) 3 (fun li la lb => #[true,true,li,true,true,false,la,lb,false,false]) _ (fun w=>Below w8.heap.size w8 w) (J2 (.cells #[.slice none 0 0,.slice none 0 0,.slice none 0 0,.int .i64 0,.int .i64 0] 37 (0,0)) w8.heap.size) (fun x w=>FwO w8.heap.size S1 n1 e1 x w/\LimR (S1,n1,e1,l1)) rfl rfl rfl rfl rfl rfl (by kernel_rfl) (by kernel_rfl) (by kernel_rfl) (by kernel_rfl) (fun la lb=>by cases la<;>cases lb<;>rfl) (fun lb=>by cases lb<;>rfl) (fun la=>by cases la<;>rfl) (fun w h=>⟨HSS.out _ h,trivial⟩) (fun w w' h hb=>?_) (fun la lb u v w w' h hb=>h.later hb) (fun u v K w h hK0=>?_) (fun lb u v K w h hj hK0=>?_) (fun la u v K w h hj hK0=>?_) (fun u v x=>?_) (fun u v x=>?_) (fun la lb u v x wc h hF hj=>?_) false false undef undef w8.drew hI ⟨nofun,nofun,nofun⟩ ?_
   ·have hb0:=h
    exact bl_tt hb0 hb
   ·have hb0:=h
    have hK:=zh hK0
    clear hK0
    have hcon:=Forward_any p s 2000 5000000 _ _ w (HP8.out.later hb0) (HS8.out.later hb0) HCL.out hF hF6 hFG
    rw [hR1] at hcon
    refine step_callL (by rfl) (.func 15) [.tmp 30,.tmp 31,.const (.int .i64 2000)] _ (by rfl) 15 _ fnFwdI (by rfl) [.agg #[.slice A1 p.vs.length c1,.slice A2 p.prs.length c2,.int .u8 p.m.k,.int .i64 p.m.n,.string p.m.s,.slice A3 p.m.ks.length c3],.agg #[.slice A s.cells.length c,.slice B s.tin.length d,.slice D s.tout.length e],.int .i64 2000] (by rfl) (fun x w'=>(FwO w8.heap.size S1 n1 e1 x w'/\LimR (S1,n1,e1,l1))/\Below w.heap.size w w') (hcon.mono fun e w' h=>FwP.own hb0.size h) ?_
    rintro x w' ⟨hx,hb⟩
    exact hK.out _ _ hb hx
   ·have hb0:=h
    have hK:=zh hK0
    clear hK0
    (try simp only [Act.put,zP])
    (try simp only [zA,zB,zC])
    go_simp
    exact hK.out _ _ (bl_al (Below.refl _ _) _) (hj.one hb0.size)
   ·have hb0:=h
    have hK:=zh hK0
    clear hK0
    (try simp only [Act.put,zP])
    (try simp only [zA,zB,zC])
    go_simp
    exact hK.out _ _ (bl_al (Below.refl _ _) _) (hj.two hb0.size)
   ·simp only [Act.put,zD,zE,zF]
   ·simp only [Act.put,zD,zE,zF]
   rotate_left 1
   ·simp only [Act.put,zD,zE,zF]
   (try simp only [Act.put,zP])
   obtain ⟨⟨fA,fc,fB,fd,fD,fg,rfl,hsa⟩,hla⟩:=hF
   clear hI
   have HLA:=zh hla
   have hI:(fun w=>Below w8.heap.size w8 w/\OwnS w w8.heap.size S1 (.agg #[.slice fA S1.cells.length fc,.slice fB S1.tin.length fd,.slice fD S1.tout.length fg])) wc:=⟨h,hsa⟩
   clear hsa h hla
   refine wpG_alt2 (i:=5) (j1:=6) (j2:=7) (some 35) (some 8) (some 9) 2 (fun li la lb => #[true,true,true,true,true,li,la,lb,false,false]) _ (fun w=>Below w8.heap.size w8 w/\OwnS w w8.heap.size S1 (.agg #[.slice fA S1.cells.length fc,.slice fB S1.tin.length fd,.slice fD S1.tout.length fg])) (J2 (.cells #[.slice none 0 0,.slice none 0 0,.slice none 0 0,.int .i64 0,.int .i64 0] 37 (0,0)) w8.heap.size) (fun x w=>FwO w8.heap.size S2 n2 e2 x w/\LimR (S2,n2,e2,l2)) rfl rfl rfl rfl rfl rfl (by kernel_rfl) (by kernel_rfl) (by kernel_rfl) (by kernel_rfl) (fun la lb=>by cases la<;>cases lb<;>rfl) (fun lb=>by cases lb<;>rfl) (fun la=>by cases la<;>rfl) (fun w h=>⟨HSS.out _ h.1,trivial⟩) (fun w w' h hb=>⟨bl_tt h.1 hb,h.2.later hb⟩) (fun la lb u v w w' h hb=>h.later hb) (fun u v K w h hK0=>?_) (fun lb u v K w h hj hK0=>?_) (fun la u v K w h hj hK0=>?_) (fun u v x=>?_) (fun u v x=>?_) (fun la lb u v x wc h hF hj=>?_) la lb u v wc hI hj ?_
   ·have hb0:=h.1
    have hK:=zh hK0
    clear hK0
    have hcon:=Forward_any p (s.more l) 2000 5000000 _ _ w (HP8.out.later hb0) (HT8.out.later hb0) HCL.out ⟨by decide,by decide⟩ hF6 hFG
    rw [hR2] at hcon
    refine step_callL (by rfl) (.func 15) [.tmp 33,.tmp 34,.const (.int .i64 2000)] _ (by rfl) 15 _ fnFwdI (by rfl) [.agg #[.slice A1 p.vs.length c1,.slice A2 p.prs.length c2,.int .u8 p.m.k,.int .i64 p.m.n,.string p.m.s,.slice A3 p.m.ks.length c3],.agg #[.slice A9 s.cells.length c9,.slice B8 (s.tin.length+l.length) d8,.slice D9 s.tout.length g9],.int .i64 2000] (by rfl) (fun x w'=>(FwO w8.heap.size S2 n2 e2 x w'/\LimR (S2,n2,e2,l2))/\Below w.heap.size w w') (hcon.mono fun e w' h=>FwP.own hb0.size h) ?_
    rintro x w' ⟨hx,hb⟩
    exact hK.out _ _ hb hx
   ·have hb0:=h.1
    have hK:=zh hK0
    clear hK0
    (try simp only [Act.put,zP])
    (try simp only [zA,zB,zC])
    go_simp
    exact hK.out _ _ (bl_al (Below.refl _ _) _) (hj.one hb0.size)
   ·have hb0:=h.1
    have hK:=zh hK0
    clear hK0
    (try simp only [Act.put,zP])
    (try simp only [zA,zB,zC])
    go_simp
    exact hK.out _ _ (bl_al (Below.refl _ _) _) (hj.two hb0.size)
   ·simp only [Act.put,zD,zE,zF]
   ·simp only [Act.put,zD,zE,zF]
   rotate_left 1
   ·simp only [Act.put,zD,zE,zF]
   (try simp only [Act.put,zP])
   obtain ⟨⟨gA,gc,gB,gd,gD,gg,rfl,hsb⟩,hlb⟩:=hF
   clear hI
   have HLB:=zh hlb
   have hI:(fun w=>Below w8.heap.size w8 w/\OwnS w w8.heap.size S1 (.agg #[.slice fA S1.cells.length fc,.slice fB S1.tin.length fd,.slice fD S1.tout.length fg])/\OwnS w w8.heap.size S2 (.agg #[.slice gA S2.cells.length gc,.slice gB S2.tin.length gd,.slice gD S2.tout.length gg])) wc:=⟨h.1,h.2,hsb⟩
   clear hsb h hlb
   refine wpG_free2 (j1:=6) (j2:=7) (some 8) (some 9) 2 (fun la lb => #[true,true,true,true,true,true,la,lb,false,false]) _ (fun w=>Below w8.heap.size w8 w/\OwnS w w8.heap.size S1 (.agg #[.slice fA S1.cells.length fc,.slice fB S1.tin.length fd,.slice fD S1.tout.length fg])/\OwnS w w8.heap.size S2 (.agg #[.slice gA S2.cells.length gc,.slice gB S2.tin.length gd,.slice gD S2.tout.length gg])) (J2 (.cells #[.slice none 0 0,.slice none 0 0,.slice none 0 0,.int .i64 0,.int .i64 0] 37 (0,0)) w8.heap.size) rfl rfl rfl rfl (by kernel_rfl) (by kernel_rfl) (by kernel_rfl) (fun lb=>by cases lb<;>rfl) (fun la=>by cases la<;>rfl) (fun w h=>⟨HSS.out _ h.1,trivial⟩) (fun w w' h hb=>⟨bl_tt h.1 hb,h.2.1.later hb,h.2.2.later hb⟩) (fun lb u v K w h hj hK0=>?_) (fun la u v K w h hj hK0=>?_) (fun u v x=>?_) (fun u v x=>?_) (fun u v wd h hj=>?_) la lb u v wc hI hj ?_
   ·have hb0:=h.1
    have hK:=zh hK0
    clear hK0
    (try simp only [Act.put,zP])
    (try simp only [zA,zB,zC])
    go_simp
    exact hK.out _ _ (bl_al (Below.refl _ _) _) (hj.one hb0.size)
   ·have hb0:=h.1
    have hK:=zh hK0
    clear hK0
    (try simp only [Act.put,zP])
    (try simp only [zA,zB,zC])
    go_simp
    exact hK.out _ _ (bl_al (Below.refl _ _) _) (hj.two hb0.size)
   ·simp only [Act.put,zD,zE,zF]
   ·simp only [Act.put,zD,zE,zF]
   rotate_left 1
   ·simp only [Act.put,zD,zE,zF]
   (try simp only [Act.put,zP])
   obtain ⟨ba,bb,rfl,rfl,hla,hlb,hne,hza,hzb⟩:=hj.boxes
   obtain ⟨hb0,hsa,hsb⟩:=h
   clear hI hj
   have x0:wd.cell? ⟨ba,0,none⟩=some (.slice none 0 0):=zc hza rfl
   have x1:wd.cell? ⟨ba,1,none⟩=some (.slice none 0 0):=zc hza rfl
   have x2:wd.cell? ⟨ba,2,none⟩=some (.slice none 0 0):=zc hza rfl
   have x3:wd.cell? ⟨ba,3,none⟩=some (.int .i64 0):=zc hza rfl
   have x4:wd.cell? ⟨ba,4,none⟩=some (.int .i64 0):=zc hza rfl
   have xf:∀ o,wd.frozen? ⟨ba,o,none⟩=false:=fun _=>zf hza
   have HZA:=zh hza
   have HZB:=zh hzb
   have HB0:=zh hb0
   have HSA:=zh hsa
   have HSB:=zh hsb
   clear hza hzb hb0 hsa hsb
   refine wpG_past (i:=8) (by kernel_rfl) rfl (by kernel_rfl) (fun K hK=>?_)
   (try simp only [zA,zB,zC])
   go_simp
   obtain ⟨hh,hch⟩:=set5 (u0:=.slice fA S1.cells.length fc) (u1:=.slice fB S1.tin.length fd) (u2:=.slice fD S1.tout.length fg) (u3:=.int .i64 (n1:Int)) (u4:=.int .i64 e1) HZA.out
   have hb1:=HB0.out.trans (hch.below HB0.out.size fun b e=>by omega)
   have hsa:=HSA.out.chgT hch HZA.out
   have hsb:=HSB.out.chgT hch HZA.out
   have hzb:=hch.keep HZB.out (by show ¬ (bb=ba); omega)
   obtain ⟨we,hwe⟩:∃ x,(((((wd.setCell ⟨ba,0,none⟩ (.slice fA S1.cells.length fc)).setCell ⟨ba,1,none⟩ (.slice fB S1.tin.length fd)).setCell ⟨ba,2,none⟩ (.slice fD S1.tout.length fg)).setCell ⟨ba,3,none⟩ (.int .i64 (n1:Int))).setCell ⟨ba,4,none⟩ (.int .i64 e1))=x:=⟨_,rfl⟩
   rw [hwe] at hh hch hb1 hsa hsb hzb ⊢
   refine hK.out _ _ (HSS.out _ hb1) ?_
   clear hK K x0 x1 x2 x3 x4 xf hwe hch HZA HZB HB0 HSA HSB
   (try simp only [Act.put,zP])
   have x0:we.cell? ⟨bb,0,none⟩=some (.slice none 0 0):=zc hzb rfl
   have x1:we.cell? ⟨bb,1,none⟩=some (.slice none 0 0):=zc hzb rfl
   have x2:we.cell? ⟨bb,2,none⟩=some (.slice none 0 0):=zc hzb rfl
   have x3:we.cell? ⟨bb,3,none⟩=some (.int .i64 0):=zc hzb rfl
   have x4:we.cell? ⟨bb,4,none⟩=some (.int .i64 0):=zc hzb rfl
   have xf:∀ o,we.frozen? ⟨bb,o,none⟩=false:=fun _=>zf hzb
   have HZA:=zh hh
   have HZB:=zh hzb
   have HB0:=zh hb1
   have HSA:=zh hsa
   have HSB:=zh hsb
   clear hh hzb hb1 hsa hsb
   refine wpG_past (i:=9) (by kernel_rfl) rfl (by kernel_rfl) (fun K hK=>?_)
   (try simp only [zA,zB,zC])
   go_simp
   obtain ⟨hh,hch⟩:=set5 (u0:=.slice gA S2.cells.length gc) (u1:=.slice gB S2.tin.length gd) (u2:=.slice gD S2.tout.length gg) (u3:=.int .i64 (n2:Int)) (u4:=.int .i64 e2) HZB.out
   have hb1:=HB0.out.trans (hch.below HB0.out.size fun b e=>by omega)
   have hsa:=HSA.out.chgT hch HZB.out
   have hsb:=HSB.out.chgT hch HZB.out
   have hza:=hch.keep HZA.out (by show ¬ (ba=bb); omega)
   obtain ⟨wf,hwf⟩:∃ x,(((((we.setCell ⟨bb,0,none⟩ (.slice gA S2.cells.length gc)).setCell ⟨bb,1,none⟩ (.slice gB S2.tin.length gd)).setCell ⟨bb,2,none⟩ (.slice gD S2.tout.length gg)).setCell ⟨bb,3,none⟩ (.int .i64 (n2:Int))).setCell ⟨bb,4,none⟩ (.int .i64 e2))=x:=⟨_,rfl⟩
   rw [hwf] at hh hch hb1 hsa hsb hza ⊢
   refine hK.out _ _ (HSS.out _ hb1) ?_
   clear hK K x0 x1 x2 x3 x4 xf hwf hch HZA HZB HB0 HSA HSB
   (try simp only [Act.put,zP])
   refine wpG_done (by kernel_rfl) ?_
   refine NoPanic.normal ?_
   have HZA:=zh hza
   have HZB:=zh hh
   have HB0:=zh hb1
   have HSA:=zh hsa
   have HSB:=zh hsb
   clear hza hh hb1 hsa hsb
   by_cases h1:e1=0
   ·obtain ⟨rfl,rfl,rfl⟩:=HML.out h1
    subst h1
    have x4:wf.cell? ⟨ba,4,none⟩=some (.int .i64 0):=zc HZA.out rfl
    go_upto_region 8 with fail
    clear x4
    have ht1:S1.tin.length<=4096:=(HLA.out.2 rfl).2.2.1
    have hsva:=HSA.out.sv HLA.out.1
    have hbA:RowI wf Any fB S1.tin:=by
     obtain ⟨A2,c2,B2,d2,D2,e2,he,-,hr,-⟩:=hsva
     injection he with he
     simp only [Array.mk.injEq,List.cons.injEq,Value.slice.injEq,and_true,true_and] at he
     obtain ⟨-,⟨rfl,-⟩,-⟩:=he
     exact hr
    have hbI:=buildI0
    have hbz:=bl_al (Below.refl wf.heap.size wf) (.cells #[] 3)
    have x1:(wf.alloc (.cells #[] 3)).cell? ⟨ba,1,none⟩=some (.slice fB S1.tin.length fd):=zb hbz (zc HZA.out rfl)
    have hrow0:(wf.alloc (.cells #[] 3)).ownsRow wf.heap.size 3 1 (.slice (some ⟨wf.heap.size,0,none⟩) 0 0) 0 [] :=
     ⟨rfl,.inr ⟨wf.heap.size,0,#[],rfl,Nat.le_refl _,heap_alloc_new wf _,Nat.le_refl _,Nat.zero_le _,rfl,rfl⟩⟩
    have hbA1:=hbA.later hbz
    have hn0:0+S1.tin.length<=1000000:=by omega
    have hsz0:wf.heap.size<=(wf.alloc (.cells #[] 3)).heap.size:=hbz.size
    obtain ⟨wg,hwg⟩:∃ x,wf.alloc (.cells #[] 3)=x:=⟨_,rfl⟩
    obtain ⟨nf,hnf⟩:∃ x,wf.heap.size=x:=⟨_,rfl⟩
    simp only [hwg,hnf] at hbz x1 hrow0 hbA1 hsz0
    clear hbI
    have HX1:∀ vh wh,wh.ownsRow nf 3 1 vh (0+S1.tin.length) ([]++flatI S1.tin)->wg.grownBy wh (Value.slice (some ⟨nf,0,none⟩) 0 0).ownBlock->∃ Bh dh,vh=.slice Bh S1.tin.length dh/\wh.ownsRow nf 3 1 (.slice Bh S1.tin.length dh) S1.tin.length (flatI S1.tin)/\Below wf.heap.size wf wh/\RowI wh Any Am l/\nf<=wh.heap.size:=fun vh wh hoh hgh=>by
     rw [Nat.zero_add,List.nil_append] at hoh
     obtain ⟨Bh,dh,rfl,-⟩:=row_slice hoh
     have hhx:=(Chg.row hgh).below (B:=nf) hsz0 (fun b e=>Nat.le_of_eq (Option.some.inj (show some nf=some b from e)))
     have hch:Below wf.heap.size wf wh:=by rw [hnf]; exact hbz.trans hhx
     exact ⟨Bh,dh,rfl,hoh,hch,HMR.out.later (bl_tt HB2.out (bl_tt (HW8.out.trans (HB0.out.mono HW8.out.size)) hch)),Nat.le_trans hsz0 hhx.size⟩
    have HX2:∀ Bh dh wh,wh.ownsRow nf 3 1 (.slice Bh S1.tin.length dh) S1.tin.length (flatI S1.tin)->Below wf.heap.size wf wh->nf<=wh.heap.size->∀ vk wk,wk.ownsRow nf 3 1 vk (S1.tin.length+l.length) (flatI S1.tin++flatI l)->wh.grownBy wk (Value.slice Bh S1.tin.length dh).ownBlock->∃ Bk dk,vk=.slice Bk (S1.tin.length+l.length) dk/\wk.ownsRow nf 3 1 (.slice Bk (S1.tin.length+l.length) dk) (S1.tin.length+l.length) (flatI S1.tin++flatI l)/\Below wf.heap.size wf wk/\wk.cell? ⟨ba,1,none⟩=some (.slice fB S1.tin.length fd)/\∀ o,wk.frozen? ⟨ba,o,none⟩=false:=fun Bh dh wh hoh hch hszh vk wk hok hgk=>by
     obtain ⟨Bk,dk,rfl,-⟩:=row_slice hok
     have hkx:=(Chg.row hgk).below (B:=nf) hszh (fun b e=>(hoh.lt b e).1)
     have hck:Below wf.heap.size wf wk:=hch.trans (by rw [hnf]; exact hkx)
     have kk:=blk_bl HZA.out hck
     exact ⟨Bk,dk,rfl,hok,hck,zc kk rfl,fun _=>zf kk⟩
    have hnh:S1.tin.length+l.length<=1000000:=by omega
    go_upto_region 9 with (at_builtin; first|(refine wpList_append_I rfl (.tmp 39) (.tmp 42) rfl nf (.slice (some ⟨nf,0,none⟩) 0 0) 0 [] rfl hrow0 fB S1.tin fd rfl hbA1 hn0 hsz0 ?_; intro vh wh hoh hgh hobh; obtain ⟨Bh,dh,rfl,hoh1,hch,hmrh,hszh⟩:=HX1 _ _ hoh hgh; clear hoh hgh hobh)|(refine wpList_append_I rfl (.tmp 43) (.tmp 44) rfl nf (.slice Bh S1.tin.length dh) S1.tin.length (flatI S1.tin) rfl hoh1 Am l cm rfl hmrh hnh hszh ?_; intro vk wk hok hgk hobk; obtain ⟨Bk,dk,rfl,hok1,hck,y1,yf⟩:=HX2 _ _ _ hoh1 hch hszh _ _ hok hgk; clear hok hgk hobk))
    have kk:=blk_bl HZA.out hck
    have kb:=blk_bl HZB.out hck
    have hnum:∀ x∈S1.tin++l,I64 x:=fun x hx=>by
     rcases List.mem_append.1 hx with h|h
     ·exact hbA.fits x h
     ·exact HMR.out.fits x h
    rw [<-flatI_app,<-List.length_append] at hok1
    obtain ⟨Bk',dk',e9,hd9,hr9⟩:=row_IR hok1 hnum
    injection e9 with e9 _ e9d
    subst e9 e9d
    have hnb:(S1.tin++l).length<=4116:=by rw [List.length_append]; omega
    have kz:=heap_setCell_same wk ba 1 _ _ (.slice Bk (S1.tin++l).length dk) kk
    simp only [List.setIfInBounds_toArray,List.set_cons_zero,List.set_cons_succ] at kz
    have hcz:=(Chg.refl (fun q=>q=ba) wk).setCell (p:=⟨ba,1,none⟩) (.inl rfl) (.slice Bk (S1.tin++l).length dk)
    have kbz:=hcz.keep kb (by show ¬ (bb=ba); omega)
    have hwz:Below w8.heap.size w8 (wk.setCell ⟨ba,1,none⟩ (.slice Bk (S1.tin++l).length dk)):=(bl_tt HB0.out hck).trans (hcz.below (bl_tt HB0.out hck).size fun b e=>by have e:b=ba:=e; omega)
    have hlba:ba<nf:=by rw [<-hnf]; exact blk_lt HZA.out
    have hsa1:=((HSA.out.later hck).chgT hcz kk).sv HLA.out.1
    have hsb1:=((HSB.out.later hck).chgT hcz kk).sv HLB.out.1
    have hrz:RowI (wk.setCell ⟨ba,1,none⟩ (.slice Bk (S1.tin++l).length dk)) Any Bk (S1.tin++l):=hr9.keep (fun _ _ _=>trivial) fun b hb hlt=>hcz.block b hlt (by show ¬ (b=ba); omega)
    have hsa2:=hsa1.tinI hrz hd9 (by unfold LI; omega)
    have hn2:n2<=2000:=by
     have h2:=(fuel_law (p:=p) (s:=s) (F:=2000) (g:=5000000) (back:=false) hFG (by rw [hR1])).1
     rw [hR1] at h2
     simp only at h2
     omega
    have hsm:(S1.more l).Sm:=⟨by have:=(HLA.out.2 rfl).1; simp only [SS.more] at this ⊢; omega,fun q hq=>by have:=(HLA.out.2 rfl).2.1 q hq; omega,by show (S1.tin++l).length<=_; omega,by have:=(HLA.out.2 rfl).2.2.2; simp only [SS.more] at this ⊢; omega⟩
    have HQE:=zh (StEqual_any (S1.more l) (S1.more l) _ _ _ hsa2 hsb1 hsm hsm)
    rw [show eqS (S1.more l) (S1.more l)=true by simp [eqS]] at HQE
    rw [List.length_append] at kz hcz kbz hwz HQE
    obtain ⟨wz,hwx⟩:∃ x,wk.setCell ⟨ba,1,none⟩ (.slice Bk (S1.tin.length+l.length) dk)=x:=⟨_,rfl⟩
    rw [hwx] at kz hcz kbz hwz HQE ⊢
    have HWZ:=zh hwz
    have x0:wz.cell? ⟨ba,0,none⟩=some (.slice fA S1.cells.length fc):=zc kz rfl
    have x1:wz.cell? ⟨ba,1,none⟩=some (.slice Bk (S1.tin.length+l.length) dk):=zc kz rfl
    have x2:wz.cell? ⟨ba,2,none⟩=some (.slice fD S1.tout.length fg):=zc kz rfl
    have x3:wz.cell? ⟨ba,3,none⟩=some (.int .i64 (n2:Int)):=zc kz rfl
    have y0:wz.cell? ⟨bb,0,none⟩=some (.slice gA (S1.more l).cells.length gc):=zc kbz rfl
    have y1:wz.cell? ⟨bb,1,none⟩=some (.slice gB (S1.more l).tin.length gd):=zc kbz rfl
    have y2:wz.cell? ⟨bb,2,none⟩=some (.slice gD (S1.more l).tout.length gg):=zc kbz rfl
    have y3:wz.cell? ⟨bb,3,none⟩=some (.int .i64 (n2:Int)):=zc kbz rfl
    have y4:wz.cell? ⟨bb,4,none⟩=some (.int .i64 0):=zc kbz rfl
    clear kz hcz kbz hwz hsa1 hsb1 hrz hsa2 hsm yf kk kb hok1 hck hwx hnum HX1 HX2 hr9 hmrh hoh1 hch hszh hbz hrow0 hbA1 hbA hsva
    go_wp2_with fail
    refine HQE.out.mono ?_
    rintro e10 w10 ⟨rfl,b10⟩
    clear x0 x1 x2 x3 y0 y1 y2 y3 y4
    go_wp2_with fail
    go_ret
    exact ⟨rfl,bl_tt HB2.out (bl_tt (HW8.out.trans (HWZ.out.mono HW8.out.size)) b10)⟩
   ·have x4:wf.cell? ⟨ba,4,none⟩=some (.int .i64 e1):=zc HZA.out rfl
    have hbb:=HW8.out.trans (HB0.out.mono HW8.out.size)
    go_wp2_with fail
    go_ret
    exact ⟨rfl,bl_tt HB2.out hbb⟩
  ·have hlz:(20:Int)<(l.length:Int):=by omega
   have hPq:=blk_bl HK0.out b24
   have hSq:=blk_bl HK1.out b24
   have p0:w4.cell? ⟨W.heap.size,0,none⟩=some (.slice A1 p.vs.length c1):=zc hPq rfl
   have p1:w4.cell? ⟨W.heap.size,1,none⟩=some (.slice A2 p.prs.length c2):=zc hPq rfl
   have p2:w4.cell? ⟨W.heap.size,2,none⟩=some (.int .u8 p.m.k):=zc hPq rfl
   have p3:w4.cell? ⟨W.heap.size,3,none⟩=some (.int .i64 p.m.n):=zc hPq rfl
   have p4:w4.cell? ⟨W.heap.size,4,none⟩=some (.string p.m.s):=zc hPq rfl
   have p5:w4.cell? ⟨W.heap.size,5,none⟩=some (.slice A3 p.m.ks.length c3):=zc hPq rfl
   have s0:w4.cell? ⟨W.heap.size+1,0,none⟩=some (.slice A s.cells.length c):=zc hSq rfl
   have s1:w4.cell? ⟨W.heap.size+1,1,none⟩=some (.slice B s.tin.length d):=zc hSq rfl
   have s2:w4.cell? ⟨W.heap.size+1,2,none⟩=some (.slice D s.tout.length e):=zc hSq rfl
   clear hPq hSq
   go_wp2_with fail
   refine (awake_any w4).mono ?_
   rintro e5 w5 ⟨rfl,b5⟩
   clear hgb
   go_wp2_with fail
   go_ret
   exact ⟨rfl,bl_tt HB2.out (bl_tt b24 b5)⟩
 ·go_wp2_with fail
  refine (awake_any w4).mono ?_
  rintro e5 w5 ⟨rfl,b5⟩
  clear hgb
  go_wp2_with fail
  go_ret
  exact ⟨rfl,bl_tt HB2.out (bl_tt b24 b5)⟩
end Go.Proofs.YtgnfpcebmefhoaaGreat
namespace Go.Proofs.YtgnfpcebmefhoaaGreat
open Go.RowKit Go.ChangeShapes Go.WideShapes Go.ChangeAt Go.Deep
theorem cellsNode:Tryz.prog.cellsOf 26=4:=by kernel_rfl
theorem bytesNode:Tryz.prog.bytesOf 26=56:=by kernel_rfl
theorem cellsU8:Tryz.prog.cellsOf 5=1:=by kernel_rfl
theorem cellsI64:Tryz.prog.cellsOf 3=1:=by kernel_rfl
theorem cellsStr:Tryz.prog.cellsOf 9=1:=by kernel_rfl
theorem cellsKids:Tryz.prog.cellsOf 24=1:=by kernel_rfl
theorem weightsAll_mem {H:Type} {P:Program} {e:TypeId}:∀ {l:List (DataW H)} {d:DataW H},d∈l->∀ n∈d.weights P e,n∈DataW.weightsAll P e l
 | d0::l,d,hd,n,hn=>by
  simp only [DataW.weightsAll,List.mem_append]
  rcases List.mem_cons.1 hd with rfl|hd
  ·exact .inl hn
  ·exact .inr (weightsAll_mem hd n hn)
theorem sizes_le_bulk {H:Type}:∀ (ks:List T) (ds:List (DataW H)),ks.length=ds.length->(∀ i (h:i<ks.length) (h':i<ds.length),size ks[i]<=Rows.uptoBulk ds[i])->sizes ks<=Rows.uptoBulkAll ds
 | [],[],_,_=>by simp [sizes]
 | t::ts,d::ds,hl,h=>by
  have h0:=h 0 (Nat.zero_lt_succ _) (Nat.zero_lt_succ _)
  have h1:=sizes_le_bulk ts ds (by simpa using hl) (fun i hi hi'=>h (i+1) (Nat.succ_lt_succ hi) (Nat.succ_lt_succ hi'))
  simp only [List.getElem_cons_zero] at h0
  simp only [sizes,Rows.uptoBulkAll]
  omega
 | [],_::_,hl,_=>by simp at hl
 | _::_,[],hl,_=>by simp at hl
section
variable {H:Type} {enc:TypeId×Value->H} {w:World} {held:Bool}
def zeroT':T:=.nd 0 0 ⟨#[]⟩ []
theorem open_node:∀ (fuel:Nat) (cs:List Value) (x:DataW H×List MemPlace),DataW.trod enc Tryz.prog w 0 (fun _=>true) held fuel 26 cs=some x ->
  (∀ n∈x.1.weights Tryz.prog 26,n<=reachBytes) ->
  ∃ t u0 u1 u2 u3,cs=[u0,u1,u2,u3]/\NV w Any t (.agg #[u0,u1,u2,u3])/\t.ks.length*56<=reachBytes/\size t<=Rows.uptoBulk x.1:=by
 intro fuel
 induction fuel using Nat.strongRecOn with
 | _ fuel ih =>
 intro cs x h hw
 have hts:=DataW.trod_struct Tryz.underlying26 h
 obtain ⟨xs,n,hfu,hx,hcl,hxl,hg⟩:=hts
 subst hx
 rw [cellsNode] at hcl
 match cs,hcl with
 | [c0,c1,c2,c3],_ =>
 match xs,hxl with
 | [y0,y1,y2,y3],_ =>
 have g0:=hg 0 _ rfl
 have g1:=hg 1 _ rfl
 have g2:=hg 2 _ rfl
 have g3:=hg 3 _ rfl
 simp only [cellsU8,cellsI64,cellsStr,cellsKids,List.drop_zero,List.take_succ_cons,List.take_zero,List.drop_succ_cons,List.getElem?_cons_zero,List.getElem?_cons_succ] at g0 g1 g2 g3
 obtain ⟨k,e0,e0',wk⟩:=DataW.trod_int Tryz.underlying5 g0
 obtain ⟨m,e1,e1',wm⟩:=DataW.trod_int Tryz.underlying3 g1
 obtain ⟨s,e2,e2',ws⟩:=DataW.trod_string Tryz.underlying9 g2
 injection e0 with e0
 injection e1 with e1
 injection e2 with e2
 subst e0 e1 e2 e0' e1' e2'
 have hf:Fld k m s:=by
  refine ⟨?_,?_,ws⟩
  ·have:=wk; simp [Lit.wf,IntKind.min,IntKind.max,IntKind.signed,IntKind.bits] at this; omega
  ·have:=wm; simp [Lit.wf,IntKind.min,IntKind.max,IntKind.signed,IntKind.bits] at this; omega
 have hsl:=DataW.trod_slice Tryz.underlying24 g3
 rcases hsl with ⟨e3,e3'⟩|⟨a,len,cap,elems,rest,n',hn',e3,e3',_,hl,hm,hel,hat,hsp,_⟩
 ·injection e3 with e3
  subst e3 e3'
  refine ⟨.nd k m s [],_,_,_,_,rfl,NV.shut (ks:=[]) hf (Nat.zero_le _) (Nat.zero_le _) RowAt.nil,by simp,?_⟩
  simp only [size,sizes,List.map_cons,List.map_nil,Rows.uptoBulk]
  omega
 ·injection e3 with e3
  subst e3 e3'
  obtain ⟨hrl,_⟩:=hsp rfl
  rw [cellsNode] at hat
  -- what the reach says of this slice,and of its elements
  have hws:∀ q∈DataW.weights Tryz.prog 24 (.slice (elems.map (·.1)) (rest.map (·.1)):DataW H),q<=reachBytes:=by
   intro q hq
   refine hw q ?_
   simp only [List.map_cons,List.map_nil,DataW.weights,Tryz.underlying26]
   simp only [DataW.weightsEach,List.map_cons,List.map_nil,List.mem_append]
   exact .inr (.inr (.inr (.inl hq)))
  simp only [DataW.weights,Tryz.underlying24,bytesNode] at hws
  have hcap:cap*56<=reachBytes:=by
   have:=hws _ (List.mem_cons_self ..)
   simp only [List.length_map] at this
   rw [hel,hrl] at this
   rw [show cap=len+(cap-len) by omega]
   exact this
  have hwe:∀ y∈elems,∀ q∈y.1.weights Tryz.prog 26,q<=reachBytes:=fun y hy q hq =>
   hws q (List.mem_cons_of_mem _ (List.mem_append_left _ (weightsAll_mem (List.mem_map_of_mem hy) q hq)))
  have key:∀ i (hi:i<elems.length),∃ t u0 u1 u2 u3,w.cells? 0 (a.add (i*4)) 4=some [u0,u1,u2,u3]/\NV w Any t (.agg #[u0,u1,u2,u3])/\size t<=Rows.uptoBulk elems[i].1:=by
   intro i hi
   have h1:=hat i (by omega)
   rw [List.getElem?_eq_getElem hi] at h1
   obtain ⟨cs',hcs,ht⟩:=Option.bind_eq_some_iff.1 h1
   obtain ⟨t,u0,u1,u2,u3,rfl,hn,_,hb⟩:=ih n' (by omega) cs' elems[i] ht (hwe _ (List.getElem_mem hi))
   exact ⟨t,u0,u1,u2,u3,hcs,hn,hb⟩
  have hex:∃ ks:List T,ks.length=elems.length/\∀ i (h:i<ks.length) (h':i<elems.length),(∃ u0 u1 u2 u3,w.cells? 0 (a.add (i*4)) 4=some [u0,u1,u2,u3]/\NV w Any ks[i] (.agg #[u0,u1,u2,u3]))/\size ks[i]<=Rows.uptoBulk elems[i].1:=by
   classical
   refine ⟨(List.range elems.length).map fun i=>if h:i<elems.length then (key i h).choose else zeroT',by simp,fun i h h'=>?_⟩
   simp only [List.getElem_map,List.getElem_range,h',dif_pos]
   obtain ⟨u0,u1,u2,u3,h1,h2,h3⟩:=(key i h').choose_spec
   exact ⟨⟨u0,u1,u2,u3,h1,h2⟩,h3⟩
  obtain ⟨ks,hkl,hks⟩:=hex
  have hlen:ks.length=len:=by omega
  have hLK:ks.length<=LK:=by unfold LK; unfold reachBytes at hcap; omega
  refine ⟨.nd k m s ks,_,_,_,_,rfl,?_,?_,?_⟩
  ·rw [<-hlen]
   refine NV.shut hf hLK (by omega) fun i hi=>?_
   obtain ⟨⟨u0,u1,u2,u3,hc,hn⟩,_⟩:=hks i hi (by omega)
   obtain ⟨_,_,hcell⟩:=World.cells?_some hc
   refine ⟨a,u0,u1,u2,u3,rfl,trivial,⟨?_,?_,?_,?_⟩,hn⟩
   ·have:=hcell 0 (by omega); simpa [Addr.add] using this
   ·have:=hcell 1 (by omega); simpa [Addr.add] using this
   ·have:=hcell 2 (by omega); simpa [Addr.add] using this
   ·have:=hcell 3 (by omega); simpa [Addr.add] using this
  ·simp only [T.ks_nd]; omega
  ·have hb:=sizes_le_bulk ks (elems.map (·.1)) (by simp [hkl]) (fun i h h'=>by
    have:=(hks i h (by simpa using h')).2
    simpa using this)
   simp only [size,List.map_cons,List.map_nil,Rows.uptoBulk,Rows.uptoBulkAll]
   omega
end
theorem Tryz.own:ownKnob Tryz.prog.godebug=none:=by kernel_rfl
theorem Tryz.laidOut:laidOutB Tryz.prog=true:=by kernel_rfl
theorem cellsVd:Tryz.prog.cellsOf 58=3:=by kernel_rfl
theorem bytesVd:Tryz.prog.bytesOf 58=32:=by kernel_rfl
section
variable {H:Type} {enc:TypeId×Value->H} {w:World} {held:Bool}
theorem open_row {ty E:TypeId} {n b:Nat} (ht:Tryz.prog.underlying ty=some (.slice E)) (hc:Tryz.prog.cellsOf E=n) (hb:Tryz.prog.bytesOf E=b) {fuel:Nat} {cs:List Value} {x:DataW H×List MemPlace}
  (h:DataW.trod enc Tryz.prog w 0 (fun _=>true) held fuel ty cs=some x) (hw:∀ q∈x.1.weights Tryz.prog ty,q<=reachBytes) :
  cs=[.slice none 0 0]\/∃ a len cap,cs=[.slice (some a) len cap]/\len<=cap/\cap*b<=reachBytes/\∀ i,i<len->∃ cs' y n',w.cells? 0 (a.add (i*n)) n=some cs'/\DataW.trod enc Tryz.prog w 0 (fun _=>true) held n' E cs'=some y/\∀ q∈y.1.weights Tryz.prog E,q<=reachBytes:=by
 have hsl:=DataW.trod_slice ht h
 rcases hsl with ⟨e3,e3'⟩|⟨a,len,cap,elems,rest,n',hn',e3,e3',_,hl,hm,hel,hat,hsp,_⟩
 ·exact .inl e3
 ·refine .inr ⟨a,len,cap,e3,hl,?_,?_⟩
  ·obtain ⟨hrl,_⟩:=hsp rfl
   subst e3'
   simp only [DataW.weights,ht,hb] at hw
   have:=hw _ (List.mem_cons_self ..)
   simp only [List.length_map] at this
   rw [hel,hrl] at this
   rw [show cap=len+(cap-len) by omega]
   exact this
  ·intro i hi
   subst e3'
   simp only [DataW.weights,ht,hb] at hw
   have hi':i<elems.length:=by omega
   have h1:=hat i (by omega)
   rw [List.getElem?_eq_getElem hi',hc] at h1
   obtain ⟨cs',hcs,ht'⟩:=Option.bind_eq_some_iff.1 h1
   exact ⟨cs',elems[i],n',hcs,ht',fun q hq=>hw q (List.mem_cons_of_mem _ (List.mem_append_left _ (weightsAll_mem (List.mem_map_of_mem (List.getElem_mem hi')) q hq)))⟩
theorem open_vd {fuel:Nat} {cs:List Value} {x:DataW H×List MemPlace} (h:DataW.trod enc Tryz.prog w 0 (fun _=>true) held fuel 58 cs=some x) :
  ∃ v:VD,cs=[.string v.s,.int .u8 v.k,.int .i64 v.n]/\FldV v:=by
 have hts:=DataW.trod_struct Tryz.underlying58 h
 obtain ⟨xs,n,hfu,hx,hcl,hxl,hg⟩:=hts
 rw [cellsVd] at hcl
 match cs,hcl with
 | [c0,c1,c2],_ =>
 match xs,hxl with
 | [y0,y1,y2],_ =>
 have g0:=hg 0 _ rfl
 have g1:=hg 1 _ rfl
 have g2:=hg 2 _ rfl
 obtain ⟨s,e2,e2',ws⟩:=DataW.trod_string Tryz.underlying9 g0
 obtain ⟨k,e0,e0',wk⟩:=DataW.trod_int Tryz.underlying5 g1
 obtain ⟨m,e1,e1',wm⟩:=DataW.trod_int Tryz.underlying3 g2
 injection e0 with e0
 injection e1 with e1
 injection e2 with e2
 subst e0 e1 e2
 refine ⟨⟨s,k,m⟩,rfl,ws,?_,?_⟩
 ·have:=wk; simp [Lit.wf,IntKind.min,IntKind.max,IntKind.signed,IntKind.bits] at this; constructor<;>simp only<;>omega
 ·have:=wm; simp [Lit.wf,IntKind.min,IntKind.max,IntKind.signed,IntKind.bits] at this; constructor<;>simp only<;>omega
theorem choose_list {α:Type} [Inhabited α] {n:Nat} {P:Nat->α->Prop} (h:∀ i,i<n->∃ x,P i x):∃ l:List α,l.length=n/\∀ i (hi:i<l.length),P i l[i]:=by
 obtain ⟨f,hf⟩:=choose_lt h
 exact ⟨(List.range n).map f,by simp,fun i hi=>by simp only [List.getElem_map,List.getElem_range]; exact hf i (by simpa using hi)⟩
instance:Inhabited VD:=⟨⟨⟨#[]⟩,0,0⟩⟩
theorem open_varsW {fuel:Nat} {cs:List Value} {x:DataW H×List MemPlace} (h:DataW.trod enc Tryz.prog w 0 (fun _=>true) held fuel 22 cs=some x) (hw:∀ q∈x.1.weights Tryz.prog 22,q<=reachBytes) :
  ∃ (A:Option Addr) (vs:List VD) (c:Nat),cs=[.slice A vs.length c]/\RowV w Any A vs/\vs.length<=4398046510976/\vs.length<=c:=by
 rcases open_row Tryz.underlying22 cellsVd bytesVd h hw with rfl|⟨a,len,cap,rfl,hl,hcap,hat⟩
 ·exact ⟨none,[],0,rfl,fun i hi=>absurd hi (by simp),Nat.zero_le _,Nat.zero_le _⟩
 ·obtain ⟨vs,hvl,hvs⟩:=choose_list (n:=len) (P:=fun i (v:VD)=>w.cells? 0 (a.add (i*3)) 3=some [.string v.s,.int .u8 v.k,.int .i64 v.n]/\FldV v) fun i hi=>by
   obtain ⟨cs',y,n',hcs,ht,_⟩:=hat i hi
   obtain ⟨v,rfl,hf⟩:=open_vd ht
   exact ⟨v,hcs,hf⟩
  refine ⟨some a,vs,cap,by rw [hvl],fun i hi=>?_,by unfold reachBytes at hcap; omega,by omega⟩
  obtain ⟨hc,hf⟩:=hvs i hi
  obtain ⟨_,_,hcell⟩:=World.cells?_some hc
  refine ⟨a,rfl,trivial,⟨?_,?_,?_⟩,hf⟩
  ·have:=hcell 0 (by omega); simpa [Addr.add] using this
  ·have:=hcell 1 (by omega); simpa [Addr.add] using this
  ·have:=hcell 2 (by omega); simpa [Addr.add] using this
theorem open_vars {fuel:Nat} {cs:List Value} {x:DataW H×List MemPlace} (h:DataW.trod enc Tryz.prog w 0 (fun _=>true) held fuel 22 cs=some x) (hw:∀ q∈x.1.weights Tryz.prog 22,q<=reachBytes) :
  ∃ (A:Option Addr) (vs:List VD) (c:Nat),cs=[.slice A vs.length c]/\RowV w Any A vs/\vs.length<=LV/\vs.length<=c:=by
 obtain ⟨A,vs,c,h1,h2,h3,h4⟩:=open_varsW h hw
 exact ⟨A,vs,c,h1,h2,by unfold LV; omega,h4⟩
instance:Inhabited T:=⟨zeroT'⟩
theorem nv_parts {t:T} {u0 u1 u2 u3:Value} (h:NV w Any t (.agg #[u0,u1,u2,u3])):∃ A c,u0=.int .u8 t.k/\u1=.int .i64 t.n/\u2=.string t.s/\u3=.slice A t.ks.length c/\NV w Any t (nv t.k t.n t.s A t.ks.length c):=by
 obtain ⟨A,c,e,_⟩:=h.open_
 have e':=e
 simp only [nv,Value.agg.injEq,Array.mk.injEq,List.cons.injEq,and_true] at e
 exact ⟨A,c,e.1,e.2.1,e.2.2.1,e.2.2.2,e'▸h⟩
end
theorem cellsI:Tryz.prog.cellsOf 30=1:=by kernel_rfl
theorem bytesI64:Tryz.prog.bytesOf 3=8:=by kernel_rfl
theorem bytesI:Tryz.prog.bytesOf 30=24:=by kernel_rfl
theorem cellsState:Tryz.prog.cellsOf 32=3:=by kernel_rfl
section
variable {H:Type} {enc:TypeId×Value->H} {w:World} {held:Bool}
theorem cell0 {a:Addr} {u:Value} (h:w.cells? 0 a 1=some [u]):w.cell? a=some u:=by
 obtain ⟨_,_,hcell⟩:=World.cells?_some h
 have:=hcell 0 (by omega)
 have e:a.add 0=a:=by
  obtain ⟨b,o,l⟩:=a
  rcases l with _|⟨l1,l2⟩<;>simp [Addr.add]
 rw [e] at this
 simpa using this
theorem open_rowI {fuel:Nat} {cs:List Value} {x:DataW H×List MemPlace} (h:DataW.trod enc Tryz.prog w 0 (fun _=>true) held fuel 30 cs=some x) (hw:∀ q∈x.1.weights Tryz.prog 30,q<=reachBytes) :
  ∃ (A:Option Addr) (l:List Int) (c:Nat),cs=[.slice A l.length c]/\RowI w Any A l/\l.length<=LI/\l.length<=c:=by
 rcases open_row Tryz.underlying30 cellsI64 bytesI64 h hw with rfl|⟨a,len,cap,rfl,hl,hcap,hat⟩
 ·exact ⟨none,[],0,rfl,fun i hi=>absurd hi (by simp),Nat.zero_le _,Nat.zero_le _⟩
 ·obtain ⟨l,hvl,hvs⟩:=choose_list (n:=len) (P:=fun i (x:Int)=>w.cells? 0 (a.add (i*1)) 1=some [.int .i64 x]/\I64 x) fun i hi=>by
   obtain ⟨cs',y,n',hcs,ht,_⟩:=hat i hi
   obtain ⟨m,e1,e1',wm⟩:=DataW.trod_int Tryz.underlying3 ht
   refine ⟨m,by rw [hcs,e1],?_⟩
   have:=wm
   simp [Lit.wf,IntKind.min,IntKind.max,IntKind.signed,IntKind.bits] at this
   constructor<;>omega
  refine ⟨some a,l,cap,by rw [hvl],fun i hi=>?_,by unfold LI; unfold reachBytes at hcap; omega,by omega⟩
  obtain ⟨hc,hf⟩:=hvs i hi
  rw [Nat.mul_one] at hc
  exact ⟨a,rfl,trivial,cell0 hc,hf⟩
instance:Inhabited (List Int):=⟨[]⟩
theorem open_rowII {fuel:Nat} {cs:List Value} {x:DataW H×List MemPlace} (h:DataW.trod enc Tryz.prog w 0 (fun _=>true) held fuel 29 cs=some x) (hw:∀ q∈x.1.weights Tryz.prog 29,q<=reachBytes) :
  ∃ (A:Option Addr) (ls:List (List Int)) (c:Nat),cs=[.slice A ls.length c]/\RowII w Any A ls/\ls.length<=LI/\(∀ l∈ls,l.length<=LI)/\ls.length<=c:=by
 rcases open_row Tryz.underlying29 cellsI bytesI h hw with rfl|⟨a,len,cap,rfl,hl,hcap,hat⟩
 ·exact ⟨none,[],0,rfl,fun i hi=>absurd hi (by simp),Nat.zero_le _,by simp,Nat.zero_le _⟩
 ·obtain ⟨ls,hvl,hvs⟩:=choose_list (n:=len) (P:=fun i (l:List Int)=>∃ A' c',w.cells? 0 (a.add (i*1)) 1=some [.slice A' l.length c']/\RowI w Any A' l/\l.length<=LI/\l.length<=c') fun i hi=>by
   obtain ⟨cs',y,n',hcs,ht,hwy⟩:=hat i hi
   obtain ⟨A',l,c',e,hr,h1,h2⟩:=open_rowI ht hwy
   exact ⟨l,A',c',by rw [hcs,e],hr,h1,h2⟩
  refine ⟨some a,ls,cap,by rw [hvl],fun i hi=>?_,by unfold LI; unfold reachBytes at hcap; omega,fun l hl=>?_,by omega⟩
  ·obtain ⟨A',c',hc,hr,h1,h2⟩:=hvs i hi
   rw [Nat.mul_one] at hc
   exact ⟨a,A',c',rfl,trivial,cell0 hc,h2,hr⟩
  ·obtain ⟨i,hi,rfl⟩:=List.mem_iff_getElem.1 hl
   obtain ⟨A',c',hc,hr,h1,h2⟩:=hvs i hi
   exact h1
theorem open_state {fuel:Nat} {cs:List Value} {x:DataW H×List MemPlace} (h:DataW.trod enc Tryz.prog w 0 (fun _=>true) held fuel 32 cs=some x) (hw:∀ q∈x.1.weights Tryz.prog 32,q<=reachBytes) :
  ∃ (s:SS) (u0 u1 u2:Value),cs=[u0,u1,u2]/\SV w Any s (.agg #[u0,u1,u2]):=by
 have hts:=DataW.trod_struct Tryz.underlying32 h
 obtain ⟨xs,n,hfu,hx,hcl,hxl,hg⟩:=hts
 subst hx
 rw [cellsState] at hcl
 match cs,hcl with
 | [c0,c1,c2],_ =>
 match xs,hxl with
 | [y0,y1,y2],_ =>
 have g0:=hg 0 _ rfl
 have g1:=hg 1 _ rfl
 have g2:=hg 2 _ rfl
 have hw0:∀ q∈y0.1.weights Tryz.prog 29,q<=reachBytes:=fun q hq=>by
  refine hw q ?_
  simp only [List.map_cons,List.map_nil,DataW.weights,Tryz.underlying32]
  simp only [DataW.weightsEach,List.mem_append]
  exact .inl hq
 have hw1:∀ q∈y1.1.weights Tryz.prog 30,q<=reachBytes:=fun q hq=>by
  refine hw q ?_
  simp only [List.map_cons,List.map_nil,DataW.weights,Tryz.underlying32]
  simp only [DataW.weightsEach,List.mem_append]
  exact .inr (.inl hq)
 have hw2:∀ q∈y2.1.weights Tryz.prog 30,q<=reachBytes:=fun q hq=>by
  refine hw q ?_
  simp only [List.map_cons,List.map_nil,DataW.weights,Tryz.underlying32]
  simp only [DataW.weightsEach,List.mem_append]
  exact .inr (.inr (.inl hq))
 obtain ⟨A0,ls,k0,e0,hr0,hl0,hl0',hc0⟩:=open_rowII g0 hw0
 obtain ⟨A1,l1,k1,e1,hr1,hl1,hc1⟩:=open_rowI g1 hw1
 obtain ⟨A2,l2,k2,e2,hr2,hl2,hc2⟩:=open_rowI g2 hw2
 injection e0 with e0
 injection e1 with e1
 injection e2 with e2
 subst e0 e1 e2
 exact ⟨⟨ls,l1,l2⟩,_,_,_,rfl,A0,k0,A1,k1,A2,k2,rfl,hr0,hr1,hr2,hc0,hc1,hc2,hl0,hl0',hl1,hl2⟩
theorem state_in {W:World} {base:Nat} {v:Value} {d:DataW H} {p:List MemPlace} (hok:Value.okWide Tryz.prog W .any base 32 v)
  (h:DataW.Trod enc Tryz.prog W 0 (fun _=>true) true 32 v d p) (hw:∀ n∈d.weights Tryz.prog 32,n<=reachBytes):∃ s,SV W Any s v:=by
 obtain ⟨cs,rfl,hcs⟩:=okWide_struct Tryz.underlying32 hok
 obtain ⟨fuel,hf⟩:=h
 obtain ⟨s,u0,u1,u2,e,hs⟩:=open_state hf hw
 refine ⟨s,?_⟩
 have:cs = #[u0,u1,u2]:=by
  apply Array.ext'
  simpa [Value.cells] using e
 rw [this]
 exact hs
end
theorem ints_in {H:Type} {enc:TypeId×Value->H} {W:World} {base:Nat} {v:Value} {d:DataW H} {p:List MemPlace} (hok:Value.okWide Tryz.prog W .any base 30 v)
  (h:DataW.Trod enc Tryz.prog W 0 (fun _=>true) true 30 v d p) (hw:∀ n∈d.weights Tryz.prog 30,n<=reachBytes):∃ (A:Option Addr) (xs:List Int) (c:Nat),v=.slice A xs.length c/\RowI W Any A xs/\xs.length<=c:=by
 obtain ⟨a,len,cap,rfl⟩:=okWide_slice Tryz.underlying30 hok
 obtain ⟨fuel,hf⟩:=h
 obtain ⟨A,xs,c,e,hr,h1,h2⟩:=open_rowI hf hw
 refine ⟨A,xs,c,?_,hr,h2⟩
 simpa [Value.cells] using e
theorem cellsPr:Tryz.prog.cellsOf 61=6:=by kernel_rfl
theorem bytesPr:Tryz.prog.bytesOf 61=96:=by kernel_rfl
theorem cellsPg:Tryz.prog.cellsOf 28=6:=by kernel_rfl
section
variable {H:Type} {enc:TypeId×Value->H} {w:World} {held:Bool}
instance:Inhabited PR:=⟨⟨⟨#[]⟩,[],zeroT'⟩⟩
theorem open_proc {fuel:Nat} {cs:List Value} {x:DataW H×List MemPlace} (h:DataW.trod enc Tryz.prog w 0 (fun _=>true) held fuel 61 cs=some x) (hw:∀ q∈x.1.weights Tryz.prog 61,q<=reachBytes) :
  ∃ (r:PR) (A1:Option Addr) (c1:Nat) (A2:Option Addr) (c2:Nat),cs=[.string r.s,.slice A1 r.ps.length c1,.int .u8 r.b.k,.int .i64 r.b.n,.string r.b.s,.slice A2 r.b.ks.length c2]/\PrR w Any r A1 c1 A2 c2:=by
 have hts:=DataW.trod_struct Tryz.underlying61 h
 obtain ⟨xs,n,hfu,hx,hcl,hxl,hg⟩:=hts
 subst hx
 rw [cellsPr] at hcl
 match cs,hcl with
 | [c0,c1,c2,c3,c4,c5],_ =>
 match xs,hxl with
 | [y0,y1,y2],_ =>
 have g0:=hg 0 _ rfl
 have g1:=hg 1 _ rfl
 have g2:=hg 2 _ rfl
 have hw1:∀ q∈y1.1.weights Tryz.prog 22,q<=reachBytes:=fun q hq=>by
  refine hw q ?_
  simp only [List.map_cons,List.map_nil,DataW.weights,Tryz.underlying61]
  simp only [DataW.weightsEach,List.map_cons,List.map_nil,List.mem_append]
  exact .inr (.inl hq)
 have hw2:∀ q∈y2.1.weights Tryz.prog 26,q<=reachBytes:=fun q hq=>by
  refine hw q ?_
  simp only [List.map_cons,List.map_nil,DataW.weights,Tryz.underlying61]
  simp only [DataW.weightsEach,List.map_cons,List.map_nil,List.mem_append]
  exact .inr (.inr (.inl hq))
 obtain ⟨s,e0,_,ws⟩:=DataW.trod_string Tryz.underlying9 g0
 obtain ⟨A1,ps,k1,e1,hrow,hlp,hlc⟩:=open_vars g1 hw1
 obtain ⟨t,u0,u1,u2,u3,e2,hn,_,_⟩:=open_node _ _ _ g2 hw2
 obtain ⟨A2,k2,rfl,rfl,rfl,rfl,hn'⟩:=nv_parts hn
 injection e0 with e0
 injection e1 with e1
 change List.take (Tryz.prog.cellsOf 26) [c2,c3,c4,c5]=_ at e2
 rw [cellsNode] at e2
 simp only [List.take_succ_cons,List.take_zero,List.cons.injEq,and_true] at e2
 obtain ⟨rfl,rfl,rfl,rfl⟩:=e2
 subst e0 e1
 exact ⟨⟨s,ps,t⟩,A1,k1,A2,k2,rfl,ws,hrow,hlp,hlc,hn'⟩
theorem open_procs {fuel:Nat} {cs:List Value} {x:DataW H×List MemPlace} (h:DataW.trod enc Tryz.prog w 0 (fun _=>true) held fuel 23 cs=some x) (hw:∀ q∈x.1.weights Tryz.prog 23,q<=reachBytes) :
  ∃ (A:Option Addr) (ps:List PR) (c:Nat),cs=[.slice A ps.length c]/\RowP w Any A ps/\ps.length<=LV/\ps.length<=c:=by
 rcases open_row Tryz.underlying23 cellsPr bytesPr h hw with rfl|⟨a,len,cap,rfl,hl,hcap,hat⟩
 ·exact ⟨none,[],0,rfl,fun i hi=>absurd hi (by simp),Nat.zero_le _,Nat.zero_le _⟩
 ·obtain ⟨ps,hvl,hvs⟩:=choose_list (n:=len) (P:=fun i (r:PR)=>∃ A1 c1 A2 c2,w.cells? 0 (a.add (i*6)) 6=some [.string r.s,.slice A1 r.ps.length c1,.int .u8 r.b.k,.int .i64 r.b.n,.string r.b.s,.slice A2 r.b.ks.length c2]/\PrR w Any r A1 c1 A2 c2) fun i hi=>by
   obtain ⟨cs',y,n',hcs,ht,hwy⟩:=hat i hi
   obtain ⟨r,A1,c1,A2,c2,rfl,hr⟩:=open_proc ht hwy
   exact ⟨r,A1,c1,A2,c2,hcs,hr⟩
  refine ⟨some a,ps,cap,by rw [hvl],fun i hi=>?_,by unfold LV; unfold reachBytes at hcap; omega,by omega⟩
  obtain ⟨A1,c1,A2,c2,hc,hr⟩:=hvs i hi
  obtain ⟨_,_,hcell⟩:=World.cells?_some hc
  refine ⟨a,A1,c1,A2,c2,rfl,trivial,⟨?_,?_,?_,?_,?_,?_⟩,hr⟩
  ·have:=hcell 0 (by omega); simpa [Addr.add] using this
  ·have:=hcell 1 (by omega); simpa [Addr.add] using this
  ·have:=hcell 2 (by omega); simpa [Addr.add] using this
  ·have:=hcell 3 (by omega); simpa [Addr.add] using this
  ·have:=hcell 4 (by omega); simpa [Addr.add] using this
  ·have:=hcell 5 (by omega); simpa [Addr.add] using this
theorem open_prog {fuel:Nat} {cs:List Value} {x:DataW H×List MemPlace} (h:DataW.trod enc Tryz.prog w 0 (fun _=>true) held fuel 28 cs=some x) (hw:∀ q∈x.1.weights Tryz.prog 28,q<=reachBytes) :
  ∃ (p:PG) (A1:Option Addr) (c1:Nat) (A2:Option Addr) (c2:Nat) (A3:Option Addr) (c3:Nat),cs=[.slice A1 p.vs.length c1,.slice A2 p.prs.length c2,.int .u8 p.m.k,.int .i64 p.m.n,.string p.m.s,.slice A3 p.m.ks.length c3]/\PgR w Any p A1 c1 A2 c2 A3 c3:=by
 have hts:=DataW.trod_struct Tryz.underlying28 h
 obtain ⟨xs,n,hfu,hx,hcl,hxl,hg⟩:=hts
 subst hx
 rw [cellsPg] at hcl
 match cs,hcl with
 | [c0,c1,c2,c3,c4,c5],_ =>
 match xs,hxl with
 | [y0,y1,y2],_ =>
 have g0:=hg 0 _ rfl
 have g1:=hg 1 _ rfl
 have g2:=hg 2 _ rfl
 have hw0:∀ q∈y0.1.weights Tryz.prog 22,q<=reachBytes:=fun q hq=>by
  refine hw q ?_
  simp only [List.map_cons,List.map_nil,DataW.weights,Tryz.underlying28]
  simp only [DataW.weightsEach,List.map_cons,List.map_nil,List.mem_append]
  exact .inl hq
 have hw1:∀ q∈y1.1.weights Tryz.prog 23,q<=reachBytes:=fun q hq=>by
  refine hw q ?_
  simp only [List.map_cons,List.map_nil,DataW.weights,Tryz.underlying28]
  simp only [DataW.weightsEach,List.map_cons,List.map_nil,List.mem_append]
  exact .inr (.inl hq)
 have hw2:∀ q∈y2.1.weights Tryz.prog 26,q<=reachBytes:=fun q hq=>by
  refine hw q ?_
  simp only [List.map_cons,List.map_nil,DataW.weights,Tryz.underlying28]
  simp only [DataW.weightsEach,List.map_cons,List.map_nil,List.mem_append]
  exact .inr (.inr (.inl hq))
 obtain ⟨A1,vs,k1,e0,hrow,hlv,hlvc⟩:=open_vars g0 hw0
 obtain ⟨A2,ps,k2,e1,hrp,hlp,hlpc⟩:=open_procs g1 hw1
 obtain ⟨t,u0,u1,u2,u3,e2,hn,_,_⟩:=open_node _ _ _ g2 hw2
 obtain ⟨A3,k3,rfl,rfl,rfl,rfl,hn'⟩:=nv_parts hn
 injection e0 with e0
 injection e1 with e1
 change List.take (Tryz.prog.cellsOf 26) [c2,c3,c4,c5]=_ at e2
 rw [cellsNode] at e2
 simp only [List.take_succ_cons,List.take_zero,List.cons.injEq,and_true] at e2
 obtain ⟨rfl,rfl,rfl,rfl⟩:=e2
 subst e0 e1
 exact ⟨⟨vs,ps,t⟩,A1,k1,A2,k2,A3,k3,rfl,hrow,hlv,hlvc,hrp,hlp,hlpc,hn'⟩
end
theorem prog_in {H:Type} {enc:TypeId×Value->H} {W:World} {base:Nat} {v:Value} {d:DataW H} {p:List MemPlace} (hok:Value.okWide Tryz.prog W .any base 28 v)
  (h:DataW.Trod enc Tryz.prog W 0 (fun _=>true) true 28 v d p) (hw:∀ n∈d.weights Tryz.prog 28,n<=reachBytes):∃ g,PV W Any g v:=by
 obtain ⟨cs,rfl,hcs⟩:=okWide_struct Tryz.underlying28 hok
 obtain ⟨fuel,hf⟩:=h
 obtain ⟨g,A1,c1,A2,c2,A3,c3,e,hr⟩:=open_prog hf hw
 refine ⟨g,A1,c1,A2,c2,A3,c3,?_,hr⟩
 have:cs = #[.slice A1 g.vs.length c1,.slice A2 g.prs.length c2,.int .u8 g.m.k,.int .i64 g.m.n,.string g.m.s,.slice A3 g.m.ks.length c3]:=by
  apply Array.ext'
  simpa [Value.cells] using e
 rw [this]
end Go.Proofs.YtgnfpcebmefhoaaGreat
namespace Go.Proofs.YtgnfpcebmefhoaaGreat
open Go Go.RowKit
structure FrR (ρ:Nat->Nat->Prop) (f g:FR):Prop where
 vs:f.vs=g.vs
 loc:f.loc=g.loc
 len:f.cs.length=g.cs.length
 full:f.cs.length=f.vs.length/\f.loc<=f.vs.length
 cs:∀ (i a b:Nat),f.cs[i]?=some a->g.cs[i]?=some b->ρ a b
structure EqR (ρ:Nat->Nat->Prop) (S S':ST):Prop where
 fn:∀ a b b',ρ a b->ρ a b'->b=b'
 inj:∀ a a' b,ρ a b->ρ a' b->a=a'
 lt:∀ a b,ρ a b->a<S.nc/\b<S'.nc
 cell:∀ a b,ρ a b->S'.cell b=S.cell a
 base:FrR ρ S.base S'.base
 ncalls:S.calls.length=S'.calls.length
 calls:∀ (i:Nat) (f g:FR),S.calls[i]?=some f->S'.calls[i]?=some g->FrR ρ f g
 tin:S'.tin=S.tin
 tout:S'.tout=S.tout
def Eqv (S S':ST):Prop:=∃ ρ,EqR ρ S S'
def OpE (ρ:Nat->Nat->Prop) (R R':Int×ST):Prop:=R'.1=R.1/\(R.1=0->EqR ρ R.2 R'.2)
section
variable {ρ ρ':Nat->Nat->Prop} {f g:FR} {S S' S'':ST} {a b:Nat}
theorem FrR.mono (h:FrR ρ f g) (hr:∀ a b,ρ a b->ρ' a b):FrR ρ' f g:=⟨h.vs,h.loc,h.len,h.full,fun i a b x y=>hr a b (h.cs i a b x y)⟩
theorem FrR.getD (h:FrR ρ f g) {i:Nat} (hi:i<f.vs.length):ρ (f.cs.getD i 0) (g.cs.getD i 0):=by
 have h1:i<f.cs.length:=by rw [h.full.1]; exact hi
 have h2:i<g.cs.length:=by rw [<-h.len]; exact h1
 refine h.cs i _ _ ?_ ?_
 ·rw [List.getD_eq_getElem?_getD,List.getElem?_eq_getElem h1]; rfl
 ·rw [List.getD_eq_getElem?_getD,List.getElem?_eq_getElem h2]; rfl
theorem FrR.snoc (h:FrR ρ f g) (v:VD) (hab:ρ a b) (l:Nat) (hl:l<=f.vs.length+1):FrR ρ ⟨f.vs++[v],f.cs++[a],l⟩ ⟨g.vs++[v],g.cs++[b],l⟩:=by
 refine ⟨by rw [h.vs],rfl,by simp [h.len],⟨by simp [h.full.1],by simpa using hl⟩,fun i x y hx hy=>?_⟩
 simp only at hx hy
 rcases Nat.lt_or_ge i f.cs.length with h1|h1
 ·rw [List.getElem?_append_left h1] at hx
  rw [List.getElem?_append_left (by rw [<-h.len]; exact h1)] at hy
  exact h.cs i x y hx hy
 ·rw [List.getElem?_append_right h1] at hx
  rw [List.getElem?_append_right (by rw [<-h.len]; exact h1)] at hy
  rw [<-h.len] at hy
  cases hi:i-f.cs.length with
  | zero =>
   rw [hi] at hx hy
   simp only [List.getElem?_cons_zero,Option.some.injEq] at hx hy
   subst hx hy
   exact hab
  | succ j =>
   rw [hi] at hx
   simp at hx
theorem FrR.pop (h:FrR ρ f g):FrR ρ f.pop g.pop:=by
 have h1:=h.full
 refine ⟨by simp only [FR.pop,h.vs],by simp only [FR.pop,h.loc],by simp only [FR.pop,List.length_take,h.len,h.vs],⟨by simp only [FR.pop,List.length_take,h1.1],by simp only [FR.pop,List.length_take]; omega⟩,fun i x y hx hy=>?_⟩
 simp only [FR.pop] at hx hy
 rw [List.getElem?_take] at hx hy
 split at hx
 ·split at hy
  ·exact h.cs i x y hx hy
  ·cases hy
 ·cases hx
theorem EqR.cur (h:EqR ρ S S'):FrR ρ S.cur S'.cur:=by
 rcases Nat.eq_zero_or_pos S.calls.length with h0|h0
 ·rw [cur_0 h0,cur_0 (by rw [<-h.ncalls]; exact h0)]; exact h.base
 ·have h1:0<S'.calls.length:=by rw [<-h.ncalls]; exact h0
  rw [cur_1 h0,cur_1 h1]
  refine h.calls (S.calls.length-1) _ _ (List.getElem?_eq_getElem (by omega)) ?_
  rw [List.getElem?_eq_getElem (by have:=h.ncalls; omega)]
  congr 1
  congr 1
  rw [h.ncalls]
theorem EqR.num (h:EqR ρ S S') (s:ByteArray):(S.num s=none/\S'.num s=none)\/∃ a b,S.num s=some a/\S'.num s=some b/\ρ a b:=by
 have hc:=h.cur
 unfold ST.num FR.at
 rw [<-hc.vs]
 cases hl:lastI S.cur.vs s S.cur.vs.length with
 | none=>exact .inl ⟨rfl,rfl⟩
 | some i =>
  simp only [Option.bind_some]
  have h1:i<S.cur.cs.length:=by rw [hc.full.1]; exact lastI_lt hl
  have h2:i<S'.cur.cs.length:=by rw [<-hc.len]; exact h1
  exact .inr ⟨_,_,List.getElem?_eq_getElem h1,List.getElem?_eq_getElem h2,hc.cs i _ _ (List.getElem?_eq_getElem h1) (List.getElem?_eq_getElem h2)⟩
theorem EqR.look (h:EqR ρ S S'):S'.look=S.look:=by
 funext s
 unfold ST.look
 rcases h.num s with ⟨h1,h2⟩|⟨a,b,h1,h2,h3⟩
 ·rw [h1,h2]; rfl
 ·rw [h1,h2]; simp [h.cell a b h3]
theorem EqR.el (h:EqR ρ S S') (hab:ρ a b) (i:Nat):S'.el b i=S.el a i:=by unfold ST.el; rw [h.cell a b hab]
theorem EqR.setL (h:EqR ρ S S') (hab:ρ a b) (l:List Int):EqR ρ (S.setL a l) (S'.setL b l) :=
 ⟨h.fn,h.inj,h.lt,fun c d hcd=>by
  simp only [ST.setL]
  by_cases e:c=a
  ·subst e
   rw [if_pos rfl,if_pos (h.fn _ _ _ hcd hab)]
  ·rw [if_neg e,if_neg (fun e'=>e (h.inj _ _ _ hcd (by rw [e']; exact hab)))]
   exact h.cell c d hcd,h.base,h.ncalls,h.calls,h.tin,h.tout⟩
theorem EqR.put (h:EqR ρ S S') (hab:ρ a b) (i:Nat) (x:Int):EqR ρ (S.put a i x) (S'.put b i x):=by
 unfold ST.put
 rw [h.cell a b hab]
 exact h.setL hab _
theorem EqR.tapes (h:EqR ρ S S') (l m:List Int):EqR ρ { S with tin:=l,tout:=m } { S' with tin:=l,tout:=m } :=
 ⟨h.fn,h.inj,h.lt,h.cell,h.base,h.ncalls,h.calls,rfl,rfl⟩
theorem OpE.bad {e:Int} (h:e≠0):OpE ρ (e,S) (e,S'):=⟨rfl,fun h0=>absurd h0 h⟩
theorem OpE.good (h:EqR ρ S S'):OpE ρ (0,S) (0,S'):=⟨rfl,fun _=>h⟩
theorem moveE_eqv (h:EqR ρ S S') (k:Int) (hab:ρ a b) (i:Nat) {s t:Nat} (hst:ρ s t):OpE ρ (moveE S k a i s) (moveE S' k b i t):=by
 unfold moveE
 rw [h.cell s t hst,h.el hab]
 split
 ·split
  ·exact OpE.bad (by decide)
  ·exact OpE.good ((h.setL hst _).put hab _ _)
 ·split
  ·exact OpE.bad (by decide)
  ·split
   ·exact OpE.bad (by decide)
   ·rw [h.el hst]
    exact OpE.good ((h.put hab _ _).setL hst _)
theorem transE_eqv (h:EqR ρ S S') (k:Int) (hab:ρ a b) (i:Nat):OpE ρ (transE S k a i) (transE S' k b i):=by
 unfold transE
 rw [h.tin,h.tout,h.el hab]
 split
 ·cases S.tin with
  | nil=>exact OpE.bad (by decide)
  | cons y r =>
   dsimp only
   split
   ·exact OpE.bad (by decide)
   ·have:=(h.tapes r S.tout).put hab i y
    exact OpE.good this
 ·split
  ·split
   ·exact OpE.bad (by decide)
   ·split
    ·exact OpE.bad (by decide)
    ·have:=(h.tapes S.tin S.tout.dropLast).put hab i (S.tout.getLast?.getD 0)
     exact OpE.good this
  ·split
   ·split
    ·exact OpE.bad (by decide)
    ·have:=(h.tapes (S.el a i::S.tin) S.tout).put hab i 0
     exact OpE.good this
   ·split
    ·exact OpE.bad (by decide)
    ·have:=(h.tapes S.tin (S.tout++[S.el a i])).put hab i 0
     exact OpE.good this
theorem exec3_eqv (h:EqR ρ S S') (k:Int) (s qs:ByteArray) (r2:Int) (hab:ρ a b) (i:Nat):OpE ρ (exec3 S k s qs r2 a i) (exec3 S' k s qs r2 b i):=by
 unfold exec3
 split
 ·rw [h.el hab]
  exact OpE.good (h.put hab _ _)
 ·split
  ·rcases h.num qs with ⟨h1,h2⟩|⟨c,d,h1,h2,h3⟩
   ·rw [h1,h2]; exact OpE.good h
   ·rw [h1,h2]
    dsimp only
    rw [h.cell c d h3]
    split
    ·refine OpE.good ?_
     unfold swapS
     rw [h.el hab,h.el h3]
     exact (h.put hab _ _).put h3 _ _
    ·exact OpE.bad (by decide)
  ·split
   ·rcases h.num s with ⟨h1,h2⟩|⟨c,d,h1,h2,h3⟩
    ·rw [h1,h2]; exact OpE.good h
    ·rw [h1,h2]
     exact moveE_eqv h k hab i h3
   ·exact transE_eqv h k hab i
theorem doE_eqv (h:EqR ρ S S') (t:T):OpE ρ (doE S t) (doE S' t):=by
 unfold doE
 rw [<-h.cur.vs]
 split
 ·exact OpE.bad (by decide)
 split
 ·exact OpE.bad (by decide)
 split
 ·exact OpE.bad (by decide)
 split
 ·rename_i hf; exact OpE.bad hf
 obtain ⟨k,n,s,ks⟩:=t
 show OpE ρ (exec1 S k s (ks.getD 0 nil0) (ks.getD 1 nil0) (indE S.look (ks.getD 0 nil0)) (rightE S k (ks.getD 1 nil0))) (exec1 S' k s (ks.getD 0 nil0) (ks.getD 1 nil0) (indE S'.look (ks.getD 0 nil0)) (rightE S' k (ks.getD 1 nil0)))
 have er:rightE S' k (ks.getD 1 nil0)=rightE S k (ks.getD 1 nil0):=by unfold rightE; rw [h.look]
 rw [er,h.look]
 unfold exec1
 split
 ·rename_i h1; exact OpE.bad h1
 ·unfold exec2
  split
  ·rename_i h1; exact OpE.bad h1
  ·rcases h.num (ks.getD 0 nil0).s with ⟨h1,h2⟩|⟨c,d,h1,h2,h3⟩
   ·rw [h1,h2]; exact OpE.good h
   ·rw [h1,h2]
    dsimp only
    rw [h.cell c d h3]
    split
    ·exact exec3_eqv h _ _ _ _ h3 _
    ·exact OpE.bad (by decide)
theorem undoE_eqv (h:EqR ρ S S') (t:T):OpE ρ (undoE S t) (undoE S' t):=by
 obtain ⟨k,n,s,ks⟩:=t
 exact doE_eqv h _
theorem EqR.setCur (h:EqR ρ S S') {f g:FR} (hf:FrR ρ f g):EqR ρ (S.setCur f) (S'.setCur g):=by
 unfold ST.setCur
 by_cases h0:S.calls.length=0
 ·rw [if_pos h0,if_pos (by rw [<-h.ncalls]; exact h0)]
  exact ⟨h.fn,h.inj,h.lt,h.cell,hf,h.ncalls,h.calls,h.tin,h.tout⟩
 ·rw [if_neg h0,if_neg (by rw [<-h.ncalls]; exact h0)]
  refine ⟨h.fn,h.inj,h.lt,h.cell,h.base,by simpa using h.ncalls,fun i x y hx hy=>?_,h.tin,h.tout⟩
  simp only at hx hy
  rw [<-h.ncalls] at hy
  by_cases e:S.calls.length-1=i
  ·subst e
   rw [List.getElem?_set_self (by omega)] at hx
   rw [List.getElem?_set_self (by have:=h.ncalls; omega)] at hy
   injection hx with hx
   injection hy with hy
   subst hx hy
   exact hf
  ·rw [List.getElem?_set_ne e] at hx hy
   exact h.calls i x y hx hy
theorem EqR.newCell (h:EqR ρ S S') (l:List Int):EqR (fun a b=>ρ a b\/(a=S.nc/\b=S'.nc)) (S.newCell l) (S'.newCell l):=by
 have hm:∀ a b,ρ a b->ρ a b\/(a=S.nc/\b=S'.nc):=fun _ _=>.inl
 refine ⟨fun a b b' h1 h2=>?_,fun a a' b h1 h2=>?_,fun a b h1=>?_,fun a b h1=>?_,h.base.mono hm,h.ncalls,fun i x y hx hy=>(h.calls i x y hx hy).mono hm,h.tin,h.tout⟩
 ·rcases h1 with h1|⟨h1,h1'⟩<;>rcases h2 with h2|⟨h2,h2'⟩
  ·exact h.fn _ _ _ h1 h2
  ·have:=(h.lt _ _ h1).1; omega
  ·have:=(h.lt _ _ h2).1; omega
  ·omega
 ·rcases h1 with h1|⟨h1,h1'⟩<;>rcases h2 with h2|⟨h2,h2'⟩
  ·exact h.inj _ _ _ h1 h2
  ·have:=(h.lt _ _ h1).2; omega
  ·have:=(h.lt _ _ h2).2; omega
  ·omega
 ·simp only [ST.newCell]
  rcases h1 with h1|⟨h1,h1'⟩
  ·have:=h.lt _ _ h1; omega
  ·omega
 ·simp only [ST.newCell]
  rcases h1 with h1|⟨rfl,rfl⟩
  ·have:=h.lt _ _ h1
   rw [if_neg (by omega),if_neg (by omega)]
   exact h.cell _ _ h1
  ·simp
theorem openE_eqv (h:EqR ρ S S') (v:VD) (x:Int):∃ ρ',OpE ρ' (openE S v x) (openE S' v x):=by
 unfold openE FR.at
 rw [<-h.cur.vs]
 split
 ·exact ⟨ρ,OpE.bad (by decide)⟩
 ·split
  ·exact ⟨ρ,OpE.bad (by decide)⟩
  ·refine ⟨_,OpE.good ((h.newCell (if v.k=1 then [x] else [])).setCur ?_)⟩
   unfold FR.push
   rw [<-h.cur.loc]
   exact (h.cur.mono fun _ _=>.inl).snoc v (.inr ⟨rfl,rfl⟩) _ (by have:=h.cur.full; omega)
theorem closeE_eqv (h:EqR ρ S S') (s:ByteArray) (x:Int):OpE ρ (closeE S s x) (closeE S' s x):=by
 have hc:=h.cur
 have e1:lastV S'.cur=lastV S.cur:=by unfold lastV; rw [hc.vs]
 unfold closeE
 rw [e1,<-hc.loc]
 split
 ·exact OpE.bad (by decide)
 ·rename_i h1
  have h2:S'.cell (lastC S'.cur)=S.cell (lastC S.cur):=by
   refine h.cell _ _ ?_
   unfold lastC
   rw [<-hc.vs]
   exact hc.getD (by have:=hc.full; omega)
  rw [h2]
  split
  ·exact OpE.bad (by decide)
  ·exact OpE.good (h.setCur hc.pop)
theorem entL_eqv {f g:FR} (h:FrR ρ f g):∀ (l:List (VD×ByteArray)) (x y:FR),FrR ρ x y->x.loc=0->(∃ e,e≠0/\entL f x l=.error e/\entL g y l=.error e)\/∃ x' y',entL f x l=.ok x'/\entL g y l=.ok y'/\FrR ρ x' y'
 | [],x,y,hxy,h0=>.inr ⟨x,y,rfl,rfl,hxy⟩
 | (v,a)::r,x,y,hxy,h0=>by
  rw [entL,entL]
  unfold FR.at
  rw [<-h.vs]
  cases hl:lastI f.vs a f.vs.length with
  | none=>exact .inl ⟨6,by decide,rfl,rfl⟩
  | some i =>
   dsimp only
   split
   ·exact entL_eqv h r _ _ (hxy.snoc v (h.getD (lastI_lt hl)) 0 (Nat.zero_le _)) rfl
   ·exact .inl ⟨7,by decide,rfl,rfl⟩
theorem enterE_eqv (h:EqR ρ S S') (ps:List VD) (ss:List ByteArray):OpE ρ (enterE S ps ss) (enterE S' ps ss):=by
 unfold enterE
 split
 ·exact OpE.bad (by decide)
 ·rcases entL_eqv h.cur (ps.zip ss) ⟨[],[],0⟩ ⟨[],[],0⟩ ⟨rfl,rfl,rfl,⟨rfl,Nat.le_refl _⟩,fun i a b hx=>by simp at hx⟩ rfl with ⟨e,h0,h1,h2⟩|⟨x,y,h1,h2,h3⟩
  ·rw [h1,h2]
   exact OpE.bad h0
  ·rw [h1,h2]
   unfold entR
   dsimp only
   rw [<-h.ncalls]
   split
   ·exact OpE.bad (by decide)
   ·refine OpE.good ⟨h.fn,h.inj,h.lt,h.cell,h.base,by simp [h.ncalls],fun i p q hp hq=>?_,h.tin,h.tout⟩
    simp only at hp hq
    rcases Nat.lt_or_ge i S.calls.length with hi|hi
    ·rw [List.getElem?_append_left hi] at hp
     rw [List.getElem?_append_left (by rw [<-h.ncalls]; exact hi)] at hq
     exact h.calls i p q hp hq
    ·rw [List.getElem?_append_right hi] at hp
     rw [List.getElem?_append_right (by rw [<-h.ncalls]; exact hi),<-h.ncalls] at hq
     cases hj:i-S.calls.length with
     | zero =>
      rw [hj] at hp hq
      simp only [List.getElem?_cons_zero,Option.some.injEq] at hp hq
      subst hp hq
      exact h3
     | succ j =>
      rw [hj] at hp
      simp at hp
theorem leaveE_eqv (h:EqR ρ S S'):OpE ρ (leaveE S) (leaveE S'):=by
 unfold leaveE
 rw [<-h.cur.loc,<-h.ncalls]
 split
 ·exact OpE.bad (by decide)
 ·refine OpE.good ⟨h.fn,h.inj,h.lt,h.cell,h.base,by simp [h.ncalls],fun i p q hp hq=>?_,h.tin,h.tout⟩
  simp only at hp hq
  rw [List.getElem?_take] at hp hq
  split at hp
  ·rename_i h1
   rw [if_pos h1] at hq
   exact h.calls i p q hp hq
  ·cases hp
theorem OpE.op {R R':Int×ST} (h:OpE ρ R R'):OpS True Eqv R R':=⟨fun h0=>⟨by rw [h.1]; exact h0,ρ,h.2 h0⟩,fun _ _=>h.1⟩
end
theorem eqv_sim (F:Int):SimR True F (fun _=>Eqv) where
 look:=fun n S S' ⟨ρ,h⟩=>h.look
 tick:=fun n S S' h=>h
 do_:=fun n S S' t _ ⟨ρ,h⟩=>(doE_eqv h t).op
 undo:=fun n S S' t _ ⟨ρ,h⟩=>(undoE_eqv h t).op
 open_:=fun n S S' v x _ ⟨ρ,h⟩=>by obtain ⟨ρ',h'⟩:=openE_eqv h v x; exact h'.op
 close:=fun n S S' s x _ ⟨ρ,h⟩=>(closeE_eqv h s x).op
 enter:=fun n S S' ps ss _ ⟨ρ,h⟩=>(enterE_eqv h ps ss).op
 leave:=fun n S S' _ ⟨ρ,h⟩=>(leaveE_eqv h).op
theorem Eqv.refl {S:ST} (h:S.WF):Eqv S S:=by
 obtain ⟨kd,h1,h2,-⟩:=h.ex
 have key:∀ f:FR,f.WF kd S.nc->FrR (fun a b=>a=b/\a<S.nc) f f:=fun f hf=>⟨rfl,rfl,rfl,⟨hf.len,hf.loc⟩,fun i a b ha hb=>by
  rw [ha] at hb
  injection hb with hb
  exact ⟨hb,hf.num a (List.mem_of_getElem? ha)⟩⟩
 exact ⟨fun a b=>a=b/\a<S.nc,by rintro a b b' ⟨rfl,_⟩ ⟨rfl,_⟩; rfl,by rintro a a' b ⟨rfl,_⟩ ⟨rfl,_⟩; rfl,by rintro a b ⟨rfl,h⟩; exact ⟨h,h⟩,by rintro a b ⟨rfl,_⟩; rfl,key _ h1,rfl,fun i f g hf hg=>by
  rw [hf] at hg
  injection hg with hg
  subst hg
  exact key f (h2 f (List.mem_of_getElem? hf)),rfl,rfl⟩
theorem FrR.symm {ρ:Nat->Nat->Prop} {f g:FR} (h:FrR ρ f g):FrR (fun a b=>ρ b a) g f:=⟨h.vs.symm,h.loc.symm,h.len.symm,by rw [<-h.vs,<-h.len,<-h.loc]; exact h.full,fun i a b ha hb=>h.cs i b a hb ha⟩
theorem Eqv.symm {S S':ST} (h:Eqv S S'):Eqv S' S:=by
 obtain ⟨ρ,h⟩:=h
 exact ⟨fun a b=>ρ b a,fun a b b' h1 h2=>h.inj _ _ _ h1 h2,fun a a' b h1 h2=>h.fn _ _ _ h1 h2,fun a b h1=>(h.lt _ _ h1).symm,fun a b h1=>(h.cell _ _ h1).symm,h.base.symm,h.ncalls.symm,fun i f g hf hg=>(h.calls i g f hg hf).symm,h.tin.symm,h.tout.symm⟩
theorem FrR.trans {ρ ρ':Nat->Nat->Prop} {f g k:FR} (h:FrR ρ f g) (h':FrR ρ' g k):FrR (fun a c=>∃ b,ρ a b/\ρ' b c) f k :=
 ⟨h.vs.trans h'.vs,h.loc.trans h'.loc,h.len.trans h'.len,h.full,fun i a c ha hc=>by
  have hi:i<g.cs.length:=by rw [<-h.len]; exact (List.getElem?_eq_some_iff.1 ha).1
  exact ⟨_,h.cs i a _ ha (List.getElem?_eq_getElem hi),h'.cs i _ c (List.getElem?_eq_getElem hi) hc⟩⟩
theorem Eqv.trans {S S' S'':ST} (h:Eqv S S') (h':Eqv S' S''):Eqv S S'':=by
 obtain ⟨ρ,h⟩:=h
 obtain ⟨ρ',h'⟩:=h'
 refine ⟨fun a c=>∃ b,ρ a b/\ρ' b c,?_,?_,?_,?_,h.base.trans h'.base,h.ncalls.trans h'.ncalls,fun i f k hf hk=>?_,h'.tin.trans h.tin,h'.tout.trans h.tout⟩
 ·rintro a c c' ⟨b,h1,h2⟩ ⟨b',h3,h4⟩
  have:=h.fn _ _ _ h1 h3
  subst this
  exact h'.fn _ _ _ h2 h4
 ·rintro a a' c ⟨b,h1,h2⟩ ⟨b',h3,h4⟩
  have:=h'.inj _ _ _ h2 h4
  subst this
  exact h.inj _ _ _ h1 h3
 ·rintro a c ⟨b,h1,h2⟩
  exact ⟨(h.lt _ _ h1).1,(h'.lt _ _ h2).2⟩
 ·rintro a c ⟨b,h1,h2⟩
  exact (h'.cell _ _ h2).trans (h.cell _ _ h1)
 ·have hi:i<S'.calls.length:=by rw [<-h.ncalls]; exact (List.getElem?_eq_some_iff.1 hf).1
  exact (h.calls i f _ hf (List.getElem?_eq_getElem hi)).trans (h'.calls i _ k (List.getElem?_eq_getElem hi) hk)
theorem FrR.map {ρ:Nat->Nat->Prop} {S S':ST} (h:EqR ρ S S') (n:Nat):(S'.base.cs.take n).map S'.cell=(S.base.cs.take n).map S.cell:=by
 refine List.ext_getElem? fun i=>?_
 rw [List.getElem?_map,List.getElem?_map,List.getElem?_take,List.getElem?_take]
 split
 ·rcases Nat.lt_or_ge i S.base.cs.length with hi|hi
  ·have hi':i<S'.base.cs.length:=by rw [<-h.base.len]; exact hi
   rw [List.getElem?_eq_getElem hi,List.getElem?_eq_getElem hi']
   simp only [Option.map_some,Option.some.injEq]
   exact h.cell _ _ (h.base.cs i _ _ (List.getElem?_eq_getElem hi) (List.getElem?_eq_getElem hi'))
  ·rw [List.getElem?_eq_none hi,List.getElem?_eq_none (by rw [<-h.base.len]; exact hi)]
   rfl
 ·rfl
theorem Eqv.state {S S':ST} (h:Eqv S S'):S'.state=S.state:=by
 obtain ⟨ρ,h⟩:=h
 unfold ST.state
 rw [h.tin,h.tout,<-h.base.len,<-h.base.loc,FrR.map h]
def LitB (t:T):Prop:=∀ u∈po t,Fld u.k u.n u.s
theorem NV.lit {w:World} {S:Nat->Prop}:∀ (t:T) (v:Value),NV w S t v->LitB t:=by
 intro t
 induction t using T.ind with
 | _ k n s ks ih =>
  intro v hv u hu
  obtain ⟨A,c,-,hf,-,-,hrow⟩:=hv.open_
  simp only [po,List.mem_cons] at hu
  rcases hu with rfl|hu
  ·exact hf
  ·obtain ⟨t,ht,hx⟩:=mem_pos.1 hu
   obtain ⟨i,hi,rfl⟩:=List.getElem_of_mem ht
   obtain ⟨a,u0,u1,u2,u3,-,-,-,hn⟩:=hrow i hi
   exact ih _ ht _ hn u hx
theorem LitB.kid {k n:Int} {s:ByteArray} {ks:List T} (h:LitB (.nd k n s ks)) {t:T} (ht:t∈ks):LitB t:=fun u hu=>h u (by simp only [po,List.mem_cons]; exact .inr (mem_pos.2 ⟨t,ht,hu⟩))
theorem LitB.own {t:T} (h:LitB t):Fld t.k t.n t.s:=h t (by obtain ⟨k,n,s,ks⟩:=t; simp [po])
theorem LitB.ev {look:ByteArray->Option (List Int)} (hl:∀ s l,look s=some l->l.length<=100000/\∀ x∈l,I64 x):∀ t,LitB t->I64 (evE look t).1:=by
 intro t
 induction t using T.ind with
 | _ k n s ks ih =>
  intro h
  rw [evE]
  refine evK_I64 hl h.own.2.1 ?_
  rw [evEs_map,List.getD_eq_getElem?_getD,List.getElem?_map]
  rcases hk:ks[0]? with _|u
  ·exact zero_I64
  ·exact ih u (List.mem_of_getElem? hk) (h.kid (List.mem_of_getElem? hk))
theorem LitB.expr {S:ST} (h:S.WF) {t:T} (ht:LitB t):I64 (exprE S.look t).1:=by
 unfold exprE
 split
 ·exact LitB.ev (look_I64 h) _ ht
 ·exact zero_I64
theorem LitB.kidD {t:T} (h:LitB t) (i:Nat):LitB (Go.Proofs.YtgnfpcebmefhoaaGreat.kid t i):=by
 obtain ⟨k,n,s,ks⟩:=t
 unfold Go.Proofs.YtgnfpcebmefhoaaGreat.kid
 rw [List.getD_eq_getElem?_getD]
 rcases hk:(T.nd k n s ks).ks[i]? with _|u
 ·intro v hv
  have:v=nil0:=by simpa [nil0,po,pos] using hv
  subst this
  exact ⟨⟨by decide,by decide⟩,⟨by decide,by decide⟩,Nat.zero_le _⟩
 ·exact h.kid (List.mem_of_getElem? hk)
theorem LitB.block {t:T} (h:LitB t) {u:T} (hu:u∈t.ks):LitB u:=by
 obtain ⟨k,n,s,ks⟩:=t
 exact h.kid hu
section
variable {S:ST}
theorem num_lt (h:S.WF) {s:ByteArray} {id:Nat} (hn:S.num s=some id):id<S.nc:=by
 obtain ⟨kd,hw⟩:=h.cur
 unfold ST.num at hn
 obtain ⟨i,-,h2⟩:=Option.bind_eq_some_iff.1 hn
 exact hw.num id (List.mem_of_getElem? h2)
theorem updE_I64 (k x y:Int):I64 (updE k x y):=by
 unfold updE
 repeat' split
 all_goals first|exact wrap64_I64 _|exact wrapI64 _
theorem moveE_WF (h:S.WF) (k:Int) {id:Nat} (i:Nat) {sid:Nat} (hid:id<S.nc) (hs:CurK S sid 3):(moveE S k id i sid).2.WF:=by
 have hsid:=hs.lt h
 have hc:=h.cells sid hsid
 unfold moveE
 split
 ·split
  ·exact h
  ·refine WF_put (WF_stk h sid hs _ (by simp; omega) fun x hx=>?_) hid i 0 zero_I64
   rcases List.mem_append.1 hx with hx|hx
   ·exact hc.2 x hx
   ·obtain rfl:=List.mem_singleton.1 hx
    exact el_I64 h hid i
 ·split
  ·exact h
  ·split
   ·exact h
   ·refine WF_stk (S:=S.put id i _) (WF_put h hid i _ (el_I64 h hsid _)) sid hs _ (by rw [List.length_take]; omega) fun x hx=>hc.2 x (List.mem_of_mem_take hx)
theorem WF_tapes (h:S.WF) (l m:List Int) (h1:l.length<=4096/\∀ x∈l,I64 x) (h2:m.length<=4096/\∀ x∈m,I64 x):({ S with tin:=l,tout:=m }:ST).WF:=⟨h.ex,h.ncalls,h.cells,h1,h2⟩
theorem transE_WF (h:S.WF) (k:Int) {id:Nat} (i:Nat) (hid:id<S.nc):(transE S k id i).2.WF:=by
 unfold transE
 have h1:=h.tin
 have h2:=h.tout
 split
 ·split
  ·exact h
  ·rename_i y r he
   split
   ·exact h
   ·rw [he] at h1
    exact WF_put (S:={ S with tin:=r }) (WF_tapes h r S.tout ⟨by have:=h1.1; simp at this; omega,fun x hx=>h1.2 x (List.mem_cons_of_mem _ hx)⟩ h2) hid i y (h1.2 y (List.mem_cons_self ..))
 ·split
  ·split
   ·exact h
   ·split
    ·exact h
    ·refine WF_put (S:={ S with tout:=S.tout.dropLast }) (WF_tapes h S.tin S.tout.dropLast h1 ⟨by have:=h2.1; simp; omega,fun x hx=>h2.2 x (List.dropLast_subset _ hx)⟩) hid i _ ?_
     cases hl:S.tout.getLast? with
     | none=>exact zero_I64
     | some x=>exact h2.2 x (List.mem_of_getLast? hl)
  ·split
   ·split
    ·exact h
    ·refine WF_put (S:={ S with tin:=S.el id i::S.tin }) (WF_tapes h _ S.tout ⟨by simp; omega,fun x hx=>?_⟩ h2) hid i 0 zero_I64
     rcases List.mem_cons.1 hx with rfl|hx
     ·exact el_I64 h hid i
     ·exact h1.2 x hx
   ·split
    ·exact h
    ·refine WF_put (S:={ S with tout:=S.tout++[S.el id i] }) (WF_tapes h S.tin _ h1 ⟨by simp; omega,fun x hx=>?_⟩) hid i 0 zero_I64
     rcases List.mem_append.1 hx with hx|hx
     ·exact h2.2 x hx
     ·obtain rfl:=List.mem_singleton.1 hx
      exact el_I64 h hid i
theorem stk_num (h:S.WF) {k n:Int} {s:ByteArray} {ks:List T} (hf:fltE S.cur.vs (.nd k n s ks)=0) (hk:k=44\/k=45):∃ sid,S.num s=some sid/\CurK S sid 3:=by
 have hn:needE k=3:=by rcases hk with rfl|rfl<;>rfl
 obtain ⟨u,h4,h5⟩:=own_find (flt_own hf).1 (by rw [hn]; decide)
 obtain ⟨sid,h6,h7⟩:=num_of h h4
 exact ⟨sid,h6,by rw [h5,hn] at h7; exact h7⟩
theorem doE_WF (h:S.WF) (t:T):(doE S t).2.WF:=by
 unfold doE
 split
 ·exact h
 split
 ·exact h
 split
 ·exact h
 split
 ·exact h
 rename_i h1 h2 h3 h4
 have hf:fltE S.cur.vs t=0:=by simpa using h4
 obtain ⟨k,n,s,ks⟩:=t
 show (exec1 S k s (ks.getD 0 nil0) (ks.getD 1 nil0) (indE S.look (ks.getD 0 nil0)) (rightE S k (ks.getD 1 nil0))).2.WF
 unfold exec1
 split
 ·exact h
 unfold exec2
 split
 ·exact h
 cases h5:S.num (ks.getD 0 nil0).s with
 | none=>exact h
 | some id =>
  have hid:=num_lt h h5
  dsimp only
  split
  ·unfold exec3
   split
   ·exact WF_put h hid _ _ (updE_I64 _ _ _)
   ·split
    ·cases h6:S.num (ks.getD 1 nil0).s with
     | none=>exact h
     | some jd =>
      have hjd:=num_lt h h6
      dsimp only
      split
      ·exact WF_put (WF_put h hid _ _ (el_I64 h hjd _)) hjd _ _ (el_I64 h hid _)
      ·exact h
    ·split
     ·rename_i hk
      obtain ⟨sid,h6,h7⟩:=stk_num h hf hk
      rw [h6]
      exact moveE_WF h _ _ hid h7
     ·exact transE_WF h _ _ hid
  ·exact h
theorem undoE_WF (h:S.WF) (t:T):(undoE S t).2.WF:=by
 obtain ⟨k,n,s,ks⟩:=t
 exact doE_WF h _
theorem openE_WF (h:S.WF) (v:VD) (hv:FldV v) (x:Int) (hx:I64 x) (hl:S.cur.vs.length+1<=4398046511000):(openE S v x).2.WF:=by
 unfold openE
 split
 ·exact h
 ·rename_i hk
  have hk:=Decidable.not_not.1 hk
  split
  ·exact h
  ·refine WF_open h v hv _ ?_ ?_ ⟨fun e=>by rw [if_pos e]; rfl,fun e=>by omega,by omega⟩ hl
   ·split<;>simp
   ·split
    ·intro y hy; obtain rfl:=List.mem_singleton.1 hy; exact hx
    ·intro y hy; cases hy
theorem closeE_WF (h:S.WF) (s:ByteArray) (x:Int):(closeE S s x).2.WF:=by
 unfold closeE
 split
 ·exact h
 ·split
  ·exact h
  ·exact WF_setCur h _ fun kd hw=>WF_pop hw
theorem enterE_WF (h:S.WF) (ps:List VD) (ss:List ByteArray) (hf:∀ v∈ps,FldV v) (hl:ps.length<=4398046511000):(enterE S ps ss).2.WF:=by
 unfold enterE
 split
 ·exact h
 ·cases he:entL S.cur ⟨[],[],0⟩ (ps.zip ss) with
  | error e=>exact h
  | ok f =>
   unfold entR
   dsimp only
   split
   ·exact h
   ·exact (WF_enter h ps ss f hf hl he (by omega)).1
theorem leaveE_WF (h:S.WF):(leaveE S).2.WF:=by
 unfold leaveE
 split
 ·exact h
 ·exact WF_leave h
end
section
variable {o:Out} {f:RS->Out} {r r':RS} {F:Int} {t:T}
theorem bind_ok (h:o.bind f=.ok r'):∃ r1,o=.ok r1/\f r1=.ok r':=by
 cases o with
 | gas=>cases h
 | err e=>cases h
 | ok r1=>exact ⟨r1,rfl,h⟩
theorem storeO_ok {R:Int×ST} (h:storeO r R=.ok r'):R.1=0/\r'={ r with S:=R.2 }:=by
 unfold storeO at h
 split at h
 ·cases h
 ·rename_i h0
  injection h with h
  exact ⟨by simpa using h0,h.symm⟩
theorem valO_ok {f:Int->RS->Out} (h:valO t r f=.ok r'):(exprE r.S.look t).2=0/\f (exprE r.S.look t).1 r=.ok r':=by
 unfold valO at h
 split at h
 ·cases h
 ·rename_i h0
  exact ⟨by simpa using h0,h⟩
theorem holdsO_ok {f:Bool->RS->Out} (h:holdsO F t r f=.ok r'):(r.n:Int)<F/\(exprE r.S.look t).2=0/\f (decide ((exprE r.S.look t).1≠0)) { r with n:=r.n+1 }=.ok r':=by
 unfold holdsO at h
 obtain ⟨r1,h1,h2⟩:=bind_ok h
 obtain ⟨rfl,h3⟩:=stepO_ok h1
 obtain ⟨h4,h5⟩:=valO_ok h2
 exact ⟨h3,h4,h5⟩
theorem assertO_ok2 {b:Bool} (h:assertO F t b r=.ok r'):(r.n:Int)<F/\(exprE r.S.look t).2=0/\decide ((exprE r.S.look t).1≠0)=b/\r'={ r with n:=r.n+1 }:=by
 unfold assertO at h
 obtain ⟨h1,h2,h3⟩:=holdsO_ok h
 split at h3
 ·rename_i hb
  injection h3 with h3
  exact ⟨h1,h2,hb,h3.symm⟩
 ·cases h3
end
structure RInv (r:RS):Prop where
 wf:r.S.WF
 fb:FB r.n r.S
 n:r.n<=1000000
structure Keep (r r':RS):Prop where
 base:r'.S.base=r.S.base
 calls:r'.S.calls=r.S.calls
 nc:r.S.nc<=r'.S.nc
section
variable {r r1 r':RS} {F:Int}
theorem Keep.refl (r:RS):Keep r r:=⟨rfl,rfl,Nat.le_refl _⟩
theorem Keep.trans (h:Keep r r1) (h':Keep r1 r'):Keep r r':=⟨h'.base.trans h.base,h'.calls.trans h.calls,Nat.le_trans h.nc h'.nc⟩
theorem Keep.cur (h:Keep r r'):r'.S.cur=r.S.cur:=by unfold ST.cur; rw [h.base,h.calls]
theorem RInv.tick (h:RInv r) (hF:F<=1000000) (hn:(r.n:Int)<F):RInv { r with n:=r.n+1 }:=⟨h.wf,h.fb.mono (Nat.le_succ _),by simp only; omega⟩
theorem doE_frames {S:ST} (t:T):(doE S t).2.base=S.base/\(doE S t).2.calls=S.calls/\(doE S t).2.nc=S.nc:=by
 obtain ⟨h1,h2,h3⟩:=doE_fr S t
 exact ⟨h1,h2,h3⟩
theorem undoE_frames {S:ST} (t:T):(undoE S t).2.base=S.base/\(undoE S t).2.calls=S.calls/\(undoE S t).2.nc=S.nc:=by
 obtain ⟨k,n,s,ks⟩:=t
 exact doE_frames _
theorem push_pop {f:FR} (hf:f.cs.length=f.vs.length) (v:VD) (id:Nat):(f.push v id).pop=f:=by
 obtain ⟨vs,cs,loc⟩:=f
 simp only at hf
 simp [FR.push,FR.pop,hf]
theorem setCur_cur (S:ST) (f:FR):(S.setCur f).cur=f:=by
 unfold ST.setCur
 by_cases h0:S.calls.length=0
 ·rw [if_pos h0]
  exact cur_0 (S:={ S with base:=f }) h0
 ·rw [if_neg h0,cur_1 (by simp; omega)]
  simp
theorem setCur_same (S:ST):S.setCur S.cur=S:=by
 unfold ST.setCur
 by_cases h0:S.calls.length=0
 ·rw [if_pos h0,cur_0 h0]
 ·rw [if_neg h0,cur_1 (by omega)]
  simp
theorem bodyO_keep {f:T->RS->Out}:∀ (l:List T) (r r':RS),(∀ t∈l,∀ r r',RInv r->f t r=.ok r'->RInv r'/\Keep r r')->RInv r->bodyO f l r=.ok r'->RInv r'/\Keep r r'
 | [],r,r',_,hr,h=>by
  injection h with h
  subst h
  exact ⟨hr,Keep.refl _⟩
 | t::ts,r,r',hf,hr,h=>by
  rw [bodyO] at h
  obtain ⟨r1,h1,h2⟩:=bind_ok h
  obtain ⟨a1,a2⟩:=hf t (List.mem_cons_self ..) r r1 hr h1
  obtain ⟨b1,b2⟩:=bodyO_keep ts r1 r' (fun u hu=>hf u (List.mem_cons_of_mem _ hu)) a1 h2
  exact ⟨b1,a2.trans b2⟩
theorem loopO_keep (hF:F<=1000000) {f:T->RS->Out} {entry test:T} {l1 l2:List T} (h1:∀ t∈l1,∀ r r',RInv r->f t r=.ok r'->RInv r'/\Keep r r') (h2:∀ t∈l2,∀ r r',RInv r->f t r=.ok r'->RInv r'/\Keep r r') :
  ∀ (m:Nat) (r r':RS),RInv r->loopO F f entry test l1 l2 m r=.ok r'->RInv r'/\Keep r r'
 | 0,_,_,_,h=>by cases h
 | m+1,r,r',hr,h=>by
  rw [loopO] at h
  obtain ⟨ra,ha,h⟩:=bind_ok h
  obtain ⟨a1,a2⟩:=bodyO_keep l1 r ra h1 hr ha
  obtain ⟨hn,-,h⟩:=holdsO_ok h
  have t1:=a1.tick hF hn
  have k1:Keep r { ra with n:=ra.n+1 }:=⟨a2.base,a2.calls,a2.nc⟩
  split at h
  ·injection h with h
   subst h
   exact ⟨t1,k1⟩
  ·obtain ⟨rb,hb,h⟩:=bind_ok h
   obtain ⟨b1,b2⟩:=bodyO_keep l2 _ rb h2 t1 hb
   obtain ⟨rc,hc,h⟩:=bind_ok h
   obtain ⟨hn2,-,-,rfl⟩:=assertO_ok2 hc
   have t2:=b1.tick hF hn2
   obtain ⟨c1,c2⟩:=loopO_keep hF h1 h2 m _ r' t2 h
   exact ⟨c1,(k1.trans b2).trans ⟨c2.base,c2.calls,c2.nc⟩⟩
def PrB (prs:List PR):Prop:=∀ q∈prs,LitB q.b/\(∀ v∈q.ps,FldV v)/\q.ps.length<=1000
theorem PrB.getD {prs:List PR} (h:PrB prs) (i:Nat):LitB (prs.getD i ⟨⟨#[]⟩,[],nil0⟩).b/\(∀ v∈(prs.getD i ⟨⟨#[]⟩,[],nil0⟩).ps,FldV v)/\(prs.getD i ⟨⟨#[]⟩,[],nil0⟩).ps.length<=1000:=by
 rw [List.getD_eq_getElem?_getD]
 rcases hk:prs[i]? with _|q
 ·refine ⟨fun v hv=>?_,by simp,by simp⟩
  have:v=nil0:=by simpa [nil0,po,pos] using hv
  subst this
  exact ⟨⟨by decide,by decide⟩,⟨by decide,by decide⟩,Nat.zero_le _⟩
 ·exact h q (List.mem_of_getElem? hk)
theorem fldV_of {t:T} (h:LitB t) (k:Int) (hk:k=1\/k=3):FldV ⟨t.s,k,0⟩:=⟨h.own.2.2,by simp only; omega,by simp only; omega⟩
theorem openE_ok {S:ST} {v:VD} {x:Int} (h:(openE S v x).1=0):S.cur.at v.s=none/\(v.k=1\/v.k=3)/\(openE S v x).2=(S.newCell (if v.k=1 then [x] else [])).setCur (S.cur.push v S.nc):=by
 unfold openE at h ⊢
 split at h
 ·cases h
 ·rename_i h1
  split at h
  ·cases h
  ·rename_i h2
   rw [if_neg h1,if_neg h2]
   exact ⟨by simpa using h2,(Decidable.not_not.1 h1).1,rfl⟩
theorem closeE_ok {S:ST} {s:ByteArray} {x:Int} (h:(closeE S s x).1=0):0<S.cur.loc/\((lastV S.cur).s.toList==s.toList)=true/\((lastV S.cur).k=1->(S.cell (lastC S.cur)).getD 0 0=x)/\((lastV S.cur).k=3->S.cell (lastC S.cur)=[])/\(closeE S s x).2=S.setCur S.cur.pop:=by
 unfold closeE at h ⊢
 split at h
 ·cases h
 ·rename_i h1
  split at h
  ·cases h
  ·rename_i h2
   rw [if_neg h1,if_neg h2]
   simp only [not_or,not_and,Decidable.not_not,Bool.not_eq_false] at h1 h2
   refine ⟨by omega,h1.2,h2.1,fun e=>?_,rfl⟩
   exact List.length_eq_zero_iff.1 (by have:=h2.2 e; omega)
theorem enterE_ok {S:ST} {ps:List VD} {ss:List ByteArray} (h:(enterE S ps ss).1=0):∃ f,ps.length=ss.length/\entL S.cur ⟨[],[],0⟩ (ps.zip ss)=.ok f/\S.calls.length<100/\(enterE S ps ss).2={ S with calls:=S.calls++[f] }:=by
 unfold enterE at h ⊢
 split at h
 ·cases h
 ·rename_i h1
  rw [if_neg h1]
  cases he:entL S.cur ⟨[],[],0⟩ (ps.zip ss) with
  | error e=>rw [he] at h; exact absurd h (entL_err _ _ _ he)
  | ok f =>
   rw [he] at h
   unfold entR at h ⊢
   dsimp only at h ⊢
   split at h
   ·cases h
   ·rename_i h2
    rw [if_neg h2]
    exact ⟨f,Decidable.not_not.1 h1,rfl,by omega,rfl⟩
theorem leaveE_ok {S:ST} (h:(leaveE S).1=0):0<S.calls.length/\(leaveE S).2={ S with calls:=S.calls.take (S.calls.length-1) }:=by
 unfold leaveE at h ⊢
 split at h
 ·cases h
 ·rename_i h1
  rw [if_neg h1]
  exact ⟨by omega,rfl⟩
theorem RInv.store {R:Int×ST} (h:RInv r) (hF:F<=1000000) (hn:(r.n:Int)<F) (hw:R.2.WF) (hf:FB (r.n+1) R.2):RInv { r with n:=r.n+1,S:=R.2 }:=⟨hw,hf,by simp only; omega⟩
theorem local_keep {S S2:ST} {v:VD} {x y:Int} {s:ByteArray} (hc:S.cur.cs.length=S.cur.vs.length) (h1:(openE S v x).1=0) (hb:S2.base=(openE S v x).2.base) (hcl:S2.calls=(openE S v x).2.calls) (hn:(openE S v x).2.nc<=S2.nc) (h2:(closeE S2 s y).1=0) :
  (closeE S2 s y).2.base=S.base/\(closeE S2 s y).2.calls=S.calls/\S.nc<=(closeE S2 s y).2.nc:=by
 obtain ⟨-,-,e1⟩:=openE_ok h1
 obtain ⟨-,-,-,-,e2⟩:=closeE_ok h2
 rw [e1] at hb hcl hn
 rw [e2]
 have hcur:S2.cur=S.cur.push v S.nc:=by
  obtain ⟨S3,hS3⟩:∃ S3,(S.newCell (if v.k=1 then [x] else [])).setCur (S.cur.push v S.nc)=S3:=⟨_,rfl⟩
  rw [hS3] at hb hcl
  have:S2.cur=S3.cur:=by unfold ST.cur; rw [hb,hcl]
  rw [this,<-hS3,setCur_cur]
 rw [hcur,push_pop hc]
 have hs:=setCur_same S
 unfold ST.setCur at hb hcl hn hs ⊢
 by_cases h0:S.calls.length=0
 ·rw [if_pos (show (S.newCell _).calls.length=0 from h0)] at hb hcl hn
  rw [if_pos h0] at hs
  rw [if_pos (by rw [hcl]; exact h0)]
  exact ⟨by rw [cur_0 h0],hcl,by simp only [ST.newCell] at hn; simp only; omega⟩
 ·rw [if_neg (show ¬ (S.newCell _).calls.length=0 from h0)] at hb hcl hn
  rw [if_neg h0] at hs
  have hl:S2.calls.length=S.calls.length:=by rw [hcl]; simp [ST.newCell]
  rw [if_neg (by omega)]
  refine ⟨hb,?_,by simp only [ST.newCell] at hn; simp only; omega⟩
  simp only [hl]
  rw [hcl]
  simp only [ST.newCell,List.set_set]
  have:=congrArg ST.calls hs
  exact this
end
theorem execO_keep {prs:List PR} {F:Int} (hF:F<=1000000) (hp:PrB prs):∀ (g:Nat) (back:Bool) (t:T) (r r':RS),LitB t->RInv r->execO prs F g back t r=.ok r'->RInv r'/\Keep r r'
 | 0,_,_,_,_,_,_,h=>by cases h
 | g+1,back,t,r,r',ht,hr,h=>by
  have hb:∀ back (b:T),LitB b->∀ r r',RInv r->bodyO (execO prs F g back) (blkL back b) r=.ok r'->RInv r'/\Keep r r':=fun back b hb r r' hr h =>
   bodyO_keep _ r r' (fun u hu r r' hr h=>execO_keep hF hp g back u r r' (hb.block (blkL_mem hu)) hr h) hr h
  have hfst:LitB (fstT back t):=by unfold fstT; split<;>exact ht.kidD _
  rw [execO] at h
  split at h
  ·obtain ⟨hn,-,h⟩:=holdsO_ok h
   obtain ⟨r1,h1,h⟩:=bind_ok h
   obtain ⟨a1,a2⟩:=hb back _ (by split<;>exact ht.kidD _) _ r1 (hr.tick hF hn) h1
   obtain ⟨hn2,-,-,rfl⟩:=assertO_ok2 h
   exact ⟨a1.tick hF hn2,⟨a2.base,a2.calls,a2.nc⟩⟩
  split at h
  ·obtain ⟨r1,h1,h⟩:=bind_ok h
   obtain ⟨hn,-,-,rfl⟩:=assertO_ok2 h1
   obtain ⟨a1,a2⟩:=loopO_keep hF (fun u hu r r' hr h=>execO_keep hF hp g back u r r' ((ht.kidD 1).block (blkL_mem hu)) hr h) (fun u hu r r' hr h=>execO_keep hF hp g back u r r' ((ht.kidD 2).block (blkL_mem hu)) hr h) g _ r' (hr.tick hF hn) h
   exact ⟨a1,⟨a2.base,a2.calls,a2.nc⟩⟩
  split at h
  ·obtain ⟨r1,h1,h⟩:=bind_ok h
   obtain ⟨rfl,hn⟩:=stepO_ok h1
   obtain ⟨-,h⟩:=valO_ok h
   obtain ⟨r2,h2,h⟩:=bind_ok h
   obtain ⟨e0,rfl⟩:=storeO_ok h2
   obtain ⟨r3,h3,h⟩:=bind_ok h
   obtain ⟨a1,a2⟩:=hb back _ (ht.kidD 1) _ r3 (RInv.store hr hF hn (openE_WF hr.wf _ (fldV_of ht 1 (.inl rfl)) _ (LitB.expr hr.wf hfst) (by have:=hr.fb.cur; have:=hr.n; omega)) (hr.fb.open_ _ _)) h3
   obtain ⟨r4,h4,h⟩:=bind_ok h
   obtain ⟨rfl,hn2⟩:=stepO_ok h4
   obtain ⟨-,h⟩:=valO_ok h
   obtain ⟨e1,rfl⟩:=storeO_ok h
   obtain ⟨kd,hw⟩:=hr.wf.cur
   obtain ⟨k1,k2,k3⟩:=local_keep hw.len e0 a2.base a2.calls a2.nc e1
   exact ⟨RInv.store a1 hF hn2 (closeE_WF a1.wf _ _) (a1.fb.close_ _ _),⟨k1,k2,k3⟩⟩
  split at h
  ·obtain ⟨r1,h1,h⟩:=bind_ok h
   obtain ⟨rfl,hn⟩:=stepO_ok h1
   obtain ⟨r2,h2,h⟩:=bind_ok h
   obtain ⟨e0,rfl⟩:=storeO_ok h2
   obtain ⟨r3,h3,h⟩:=bind_ok h
   obtain ⟨a1,a2⟩:=hb back _ (ht.kidD 0) _ r3 (RInv.store hr hF hn (openE_WF hr.wf _ (fldV_of ht 3 (.inr rfl)) _ zero_I64 (by have:=hr.fb.cur; have:=hr.n; omega)) (hr.fb.open_ _ _)) h3
   obtain ⟨r4,h4,h⟩:=bind_ok h
   obtain ⟨rfl,hn2⟩:=stepO_ok h4
   obtain ⟨e1,rfl⟩:=storeO_ok h
   obtain ⟨kd,hw⟩:=hr.wf.cur
   obtain ⟨k1,k2,k3⟩:=local_keep hw.len e0 a2.base a2.calls a2.nc e1
   exact ⟨RInv.store a1 hF hn2 (closeE_WF a1.wf _ _) (a1.fb.close_ _ _),⟨k1,k2,k3⟩⟩
  split at h
  ·split at h
   ·cases h
   ·rename_i i hi
    obtain ⟨q1,q2,q3⟩:=hp.getD i
    obtain ⟨r1,h1,h⟩:=bind_ok h
    obtain ⟨rfl,hn⟩:=stepO_ok h1
    obtain ⟨r2,h2,h⟩:=bind_ok h
    obtain ⟨e0,rfl⟩:=storeO_ok h2
    obtain ⟨r3,h3,h⟩:=bind_ok h
    have i1:=RInv.store hr hF hn (enterE_WF hr.wf _ (t.ks.map (·.s)) q2 (by omega)) (hr.fb.enter _ _ q3)
    have h12:=fun hI=>hb _ _ q1 _ r3 hI h3
    obtain ⟨a1,a2⟩:=h12 ⟨i1.wf,i1.fb,i1.n⟩
    obtain ⟨r4,h4,h⟩:=bind_ok h
    obtain ⟨rfl,hn2⟩:=stepO_ok h4
    obtain ⟨e1,rfl⟩:=storeO_ok h
    obtain ⟨f,-,-,-,ef⟩:=enterE_ok e0
    obtain ⟨-,el⟩:=leaveE_ok e1
    have hbs:=a2.base
    have hcs:=a2.calls
    have hnc:=a2.nc
    simp only at hbs hcs hnc
    rw [ef] at hbs hcs hnc
    refine ⟨RInv.store a1 hF hn2 (leaveE_WF a1.wf) a1.fb.leave,⟨?_,?_,?_⟩⟩
    ·simp only; rw [el]; exact hbs
    ·simp only; rw [el]; simp only; rw [hcs]; simp
    ·simp only; rw [el]; exact hnc
  ·obtain ⟨r1,h1,h⟩:=bind_ok h
   obtain ⟨rfl,hn⟩:=stepO_ok h1
   obtain ⟨e0,rfl⟩:=storeO_ok h
   cases back
   ·obtain ⟨k1,k2,k3⟩:=doE_frames (S:=r.S) t
    exact ⟨RInv.store hr hF hn (doE_WF hr.wf t) (hr.fb.do_ t),⟨k1,k2,Nat.le_of_eq k3.symm⟩⟩
   ·obtain ⟨k1,k2,k3⟩:=undoE_frames (S:=r.S) t
    exact ⟨RInv.store hr hF hn (undoE_WF hr.wf t) (hr.fb.undo t),⟨k1,k2,Nat.le_of_eq k3.symm⟩⟩
theorem runO_keep {prs:List PR} {F:Int} (hF:F<=1000000) (hp:PrB prs) (g:Nat) (back:Bool) (b:T) (r r':RS) (hb:LitB b) (hr:RInv r) (h:runO prs F g back b r=.ok r'):RInv r'/\Keep r r' :=
 bodyO_keep _ r r' (fun u hu r r' hr h=>execO_keep hF hp g back u r r' (hb.block (blkL_mem hu)) hr h) hr h
structure FO where
 v:Int
 c:Bool
def Fo6 (w:World) (p:Addr) (f:FO):Prop:=∃ k n s A l c,w.cell? p=some (.int .u8 k)/\w.cell? ⟨p.block,p.off+1,none⟩=some (.int .i64 n)/\w.cell? ⟨p.block,p.off+2,none⟩=some (.string s)/\w.cell? ⟨p.block,p.off+3,none⟩=some (.slice A l c)/\w.cell? ⟨p.block,p.off+4,none⟩=some (.int .i64 f.v)/\w.cell? ⟨p.block,p.off+5,none⟩=some (.bool f.c)
def RowF (w:World) (S:Nat->Prop) (A:Option Addr) (fs:List FO):Prop :=
 ∀ i (hi:i<fs.length),∃ a:Addr,A=some a/\S a.block/\Fo6 w (a.add (i*6)) fs[i]/\I64 fs[i].v
def valE (k n:Int) (fs:List FO):FO :=
 if fs.all (·.c) then
  if k=1 then ⟨n,true⟩ else if 2<=k/\k<=5 then ⟨0,false⟩ else
  if k=6\/k=7 then ⟨(unE k (fs[0]?.elim 0 (·.v))).1,(unE k (fs[0]?.elim 0 (·.v))).2==0⟩ else
  ⟨(apE k (fs[0]?.elim 0 (·.v)) (fs[1]?.elim 0 (·.v))).1,(apE k (fs[0]?.elim 0 (·.v)) (fs[1]?.elim 0 (·.v))).2==0⟩
 else ⟨0,false⟩
def nrm (f:FO):FO:=if f.c=true then f else ⟨0,false⟩
mutual
/-- Value and constancy of a folded tree. -/
def foldE:T->FO
 | .nd k n _ ks=>nrm (valE k n (foldEs ks))
def foldEs:List T->List FO
 | []=>[]
 | t::ts=>foldE t::foldEs ts
end
theorem RowF.later {w w':World} {S:Nat->Prop} {A:Option Addr} {fs:List FO} (h:RowF w S A fs) (hb:Below w.heap.size w w'):RowF w' S A fs:=fun i hi=>by
 obtain ⟨a,h1,h2,⟨k,n,s,A',l,c,q0,q1,q2,q3,q4,q5⟩,h4⟩:=h i hi
 have kp:∀ {p:Addr} {v:Value},w.cell? p=some v->w'.cell? p=some v:=fun {p v} hq=>cell_kp hq (hb.block _ (World.block_lt_of_cell? w _ hq))
 exact ⟨a,h1,h2,⟨k,n,s,A',l,c,kp q0,kp q1,kp q2,kp q3,kp q4,kp q5⟩,h4⟩
theorem RowF.nd {w:World} {S:Nat->Prop} {A:Option Addr} {fs:List FO} (h:RowF w S A fs) {i:Nat} (hi:i<fs.length):∃ (a:Addr) (f:FO),A=some a/\Hid (fs[i]=f)/\Fo6 w (a.add (i*6)) f/\I64 f.v :=
 let ⟨a,h1,_,h3,h4⟩:=h i hi; ⟨a,fs[i],h1,rfl,h3,h4⟩
def Chunk (f:FO) (us:List Value):Prop:=∃ k n s A l c,us=[.int .u8 k,.int .i64 n,.string s,.slice A l c,.int .i64 f.v,.bool f.c]
inductive FlatF:List FO->List Value->Prop
 | nil:FlatF [] []
 | snoc {fs:List FO} {xs:List Value} {f:FO} {us:List Value}:FlatF fs xs->Chunk f us->FlatF (fs++[f]) (xs++us)
theorem FlatF.len {fs:List FO} {xs:List Value} (h:FlatF fs xs):xs.length=fs.length*6:=by
 induction h with
 | nil=>rfl
 | snoc _ hc ih=>obtain ⟨_,_,_,_,_,_,rfl⟩:=hc; simp [ih]; omega
theorem FlatF.get {fs:List FO} {xs:List Value} (h:FlatF fs xs):∀ i (hi:i<fs.length),∃ us,Chunk fs[i] us/\∀ j,j<6->xs[i*6+j]?=us[j]?:=by
 induction h with
 | nil=>intro i hi; simp at hi
 | @snoc fs xs f us h hc ih =>
  intro i hi
  have hl:=h.len
  by_cases hlt:i<fs.length
  ·obtain ⟨us',h1,h2⟩:=ih i hlt
   rw [List.getElem_append_left hlt]
   refine ⟨us',h1,fun j hj=>?_⟩
   rw [List.getElem?_append_left (by omega)]
   exact h2 j hj
  ·obtain rfl:i=fs.length:=by simp at hi; omega
   refine ⟨us,by simpa using hc,fun j hj=>?_⟩
   rw [List.getElem?_append_right (by omega),show fs.length*6+j-xs.length=j by omega]
abbrev fv (k n:Int) (s:ByteArray) (A:Option Addr) (l c:Nat) (f:FO):Value:=.agg #[.int .u8 k,.int .i64 n,.string s,.slice A l c,.int .i64 f.v,.bool f.c]
theorem RowF.fits {w:World} {S:Nat->Prop} {A:Option Addr} {fs:List FO} (h:RowF w S A fs):∀ f∈fs,I64 f.v:=fun f hf=>by
 obtain ⟨i,hi,rfl⟩:=List.getElem_of_mem hf
 obtain ⟨_,_,_,_,h⟩:=h i hi
 exact h
attribute [local go_sem] Oper.semAt_some
def conB (t:T):Bool:=isE t&&(foldE t).c
def naming (s:ByteArray) (x:T):Bool:=(x.k==2||x.k==3||x.k==4||x.k==5)&&x.s.toList==s.toList
def menB (t:T) (s:ByteArray):Bool:=(po t).any (naming s)
def kidC (t:T) (i:Nat):T:=t.ks.getD i (.nd 0 0 ⟨#[]⟩ [])
def idxB (t:T) (s:ByteArray):Bool:=t.k==3&&menB (kidC t 0) s
def aliB (ts:List T) (ss:List ByteArray):Bool:=ts.any fun t=>ss.any (idxB t)
def hasN (ks:List T) (s:ByteArray):Bool:=ks.any fun t=>t.s.toList==s.toList
def dupB (ks:List T):Bool:=(List.range ks.length).any fun i=>hasN (ks.take i) (ks.getD i (.nd 0 0 ⟨#[]⟩ [])).s
def rejE (t:T):Int :=
 if t.k=56 then 9
 else if t.k=40\/t.k=41\/t.k=42 then if idxB (kidC t 0) (kidC t 0).s||menB (kidC t 1) (kidC t 0).s then 8 else 0
 else if t.k=43 then if aliB t.ks [(kidC t 0).s,(kidC t 1).s] then 8 else 0
 else if t.k=44\/t.k=45 then if aliB t.ks [(kidC t 0).s,t.s] then 8 else 0
 else if 46<=t.k/\t.k<=49 then if aliB t.ks [(kidC t 0).s] then 8 else 0
 else if t.k=50\/t.k=51 then if dupB t.ks then 8 else 0
 else if t.k=52 then if conB (kidC t 3) && !conB (kidC t 0) then 10 else 0
 else if t.k=53 then if conB (kidC t 0) then 10 else 0
 else 0
attribute [local go_sem] Oper.semAt_some
structure RjS (W:World) (n0 fb N:Nat) (pv:Value):Prop where
 box:W.heap[fb]?=some (.cells #[pv] 79 (0,0))
 row:∃ xs,W.ownsRow n0 152 4 pv N xs/\∀ u∈xs,u.oneCell'=true
 ge:n0<=fb
 ne:pv.ownBlock≠some fb
section
variable {W W':World} {n0 fb N N':Nat} {pv pv':Value}
theorem RjS.lt (h:RjS W n0 fb N pv):fb<W.heap.size/\∀ b,pv.ownBlock=some b->n0<=b/\b<W.heap.size:=⟨blk_lt h.box,let ⟨_,hr,_⟩:=h.row; hr.lt⟩
theorem RjS.chg {C:Nat->Prop} (h:RjS W n0 fb N pv) (hc:Chg C W W') (hC:∀ b,b=fb\/pv.ownBlock=some b->¬ C b):RjS W' n0 fb N pv:=by
 refine ⟨hc.keep h.box (hC _ (.inl rfl)),?_,h.ge,h.ne⟩
 obtain ⟨xs,⟨e1,h2⟩,h9⟩:=h.row
 refine ⟨xs,⟨e1,?_⟩,h9⟩
 rcases h2 with h2|⟨g,cap,cur,rfl,hb,hg,h3⟩
 ·exact .inl h2
 ·exact .inr ⟨g,cap,cur,rfl,hb,hc.keep hg (hC _ (.inr rfl)),h3⟩
theorem RjS.later (h:RjS W n0 fb N pv) (hb:Below W.heap.size W W'):RjS W' n0 fb N pv:=h.chg (C:=fun _=>False) (Chg.of_below hb) (fun _ _ h=>h)
theorem RjS.put (h:RjS W n0 fb N pv) (ho:∃ xs,W'.ownsRow n0 152 4 pv' N' xs/\∀ u∈xs,u.oneCell'=true) (hg:W.grownBy W' pv.ownBlock) (hob:∀ b,pv'.ownBlock=some b->pv.ownBlock=some b\/W.heap.size<=b) :
  RjS (W'.setCell ⟨fb,0,none⟩ pv') n0 fb N' pv':=by
 have hp':W'.heap[fb]?=some (.cells #[pv] 79 (0,0)):=(hg.block _ (blk_lt h.box) (fun e=>h.ne e.symm)).trans h.box
 have hnp:pv'.ownBlock≠some fb:=fun e=>by
  rcases hob _ e with e|e
  ·exact h.ne e
  ·have:=blk_lt h.box; omega
 refine ⟨by have:=heap_setCell_same W' fb 0 _ _ pv' hp'; simpa using this,?_,h.ge,hnp⟩
 obtain ⟨xs,⟨e1,h2⟩,h9⟩:=ho
 refine ⟨xs,⟨e1,?_⟩,h9⟩
 rcases h2 with h2|⟨g,cap,cur,rfl,hb,hg',h3⟩
 ·exact .inl h2
 ·refine .inr ⟨g,cap,cur,rfl,hb,?_,h3⟩
  rw [Below.heap_setCell _ _ _ _ (fun e=>hnp (by subst e; rfl))]
  exact hg'
theorem RjS.slice (h:RjS W n0 fb N pv):∃ A c,pv=.slice A N c:=by
 obtain ⟨xs,⟨e1,h2⟩,_⟩:=h.row
 rcases h2 with ⟨rfl,rfl⟩|⟨g,cap,cur,rfl,_⟩
 ·exact ⟨_,_,rfl⟩
 ·exact ⟨_,_,rfl⟩
end
end Go.Proofs.YtgnfpcebmefhoaaGreat
namespace Go.Proofs.YtgnfpcebmefhoaaGreat
open Go Go.RowKit
def OkN (u:T):Prop:=rejE u=0/\(u.k=54->menB (kid u 0) u.s=false/\menB (kid u 2) u.s=false)
structure RvT (prs:List PR) (t:T):Prop where
 gp:GP prs t
 ok:∀ u∈po t,OkN u
 pr:∀ q∈prs,∀ u∈po q.b,OkN u
theorem po_self (t:T):t∈po t:=by obtain ⟨k,n,s,ks⟩:=t; simp [po]
theorem po_of {t u:T} (h:u∈t.ks):∀ w∈po u,w∈po t:=by
 obtain ⟨k,n,s,ks⟩:=t
 exact fun w hw=>by simp only [po,List.mem_cons]; exact .inr (mem_pos.2 ⟨u,h,hw⟩)
theorem po_kid {t u:T} {i:Nat} (h:u∈(kid t i).ks):∀ w∈po u,w∈po t:=by
 unfold kid at h
 rw [List.getD_eq_getElem?_getD] at h
 rcases hk:t.ks[i]? with _|v
 ·rw [hk] at h; simp [nil0] at h
 ·rw [hk] at h
  exact fun w hw=>po_of (List.mem_of_getElem? hk) w (po_of h w hw)
theorem RvT.own {prs:List PR} {t:T} (h:RvT prs t):OkN t:=h.ok t (po_self t)
theorem RvT.two {prs:List PR} {t:T} (h:RvT prs t) (hk:t.k=52\/t.k=53):(∀ u∈(kid t 1).ks,RvT prs u)/\∀ u∈(kid t 2).ks,RvT prs u:=by
 obtain ⟨-,h1,h2⟩:=GP_GC.two prs t h.gp hk
 exact ⟨fun u hu=>⟨h1 u hu,fun w hw=>h.ok w (po_kid hu w hw),h.pr⟩,fun u hu=>⟨h2 u hu,fun w hw=>h.ok w (po_kid hu w hw),h.pr⟩⟩
theorem RvT.loc {prs:List PR} {t:T} (h:RvT prs t) (hk:t.k=54):t.ks.length=3/\∀ u∈(kid t 1).ks,RvT prs u:=by
 obtain ⟨h0,h1⟩:=GP_GC.loc prs t h.gp hk
 exact ⟨h0,fun u hu=>⟨h1 u hu,fun w hw=>h.ok w (po_kid hu w hw),h.pr⟩⟩
theorem RvT.stk {prs:List PR} {t:T} (h:RvT prs t) (hk:t.k=55):∀ u∈(kid t 0).ks,RvT prs u:=by
 obtain ⟨-,h1⟩:=GP_GC.stk prs t h.gp hk
 exact fun u hu=>⟨h1 u hu,fun w hw=>h.ok w (po_kid hu w hw),h.pr⟩
theorem RvT.cal {prs:List PR} {t:T} (h:RvT prs t) (hk:t.k=50\/t.k=51):∀ i,prcI prs t.s=some i->∀ u∈(prs.getD i ⟨⟨#[]⟩,[],nil0⟩).b.ks,RvT prs u:=by
 intro i hi
 obtain ⟨j,q,hj,hq,h1⟩:=GP_GC.cal prs t h.gp hk
 rw [hi] at hj
 injection hj with hj
 subst hj
 rw [getD_some hq]
 exact fun u hu=>⟨h1 u hu,fun w hw=>h.pr q (List.mem_of_getElem? hq) w (po_of hu w hw),h.pr⟩
def NdS (S:ST):Prop:=S.base.cs.Nodup/\∀ f∈S.calls,f.cs.Nodup
theorem NdS.cur {S:ST} (h:NdS S):S.cur.cs.Nodup:=by
 rcases Nat.eq_zero_or_pos S.calls.length with h0|h0
 ·rw [cur_0 h0]; exact h.1
 ·rw [cur_1 h0]; exact h.2 _ (List.getElem_mem _)
theorem NdS.of {S S':ST} (h:NdS S) (h1:S'.base=S.base) (h2:S'.calls=S.calls):NdS S':=by unfold NdS; rw [h1,h2]; exact h
theorem NdS.keep {r r':RS} (h:NdS r.S) (hk:Keep r r'):NdS r'.S:=h.of hk.base hk.calls
theorem NdS.setCur {S:ST} (h:NdS S) {f:FR} (hf:f.cs.Nodup):NdS (S.setCur f):=by
 unfold ST.setCur
 split
 ·exact ⟨hf,h.2⟩
 ·refine ⟨h.1,fun g hg=>?_⟩
  rcases List.mem_or_eq_of_mem_set hg with hg|rfl
  ·exact h.2 g hg
  ·exact hf
theorem NdS.open_ {S:ST} (h:NdS S) (hw:S.WF) (l:List Int) (v:VD):NdS ((S.newCell l).setCur (S.cur.push v S.nc)):=by
 obtain ⟨kd,hc⟩:=hw.cur
 refine NdS.setCur (S:=S.newCell l) h ?_
 show (S.cur.cs++[S.nc]).Nodup
 rw [List.nodup_append]
 refine ⟨h.cur,by simp,fun a ha b hb=>?_⟩
 obtain rfl:=List.mem_singleton.1 hb
 have:=hc.num a ha
 omega
def RevR (F:Int) (f:RS->Out) (r r':RS):Prop:=r.n<=r'.n/\∀ x:RS,Eqv r'.S x.S->(x.n:Int)+(r'.n-r.n:Nat)<=F->∃ x',f x=.ok x'/\Eqv r.S x'.S/\x'.n=x.n+(r'.n-r.n)
section
variable {F:Int} {f f':RS->Out} {r r1 r':RS} {t:T}
theorem RevR.trans (h:RevR F f r r1) (h':RevR F f' r1 r'):RevR F (fun x=>(f' x).bind f) r r':=by
 obtain ⟨a1,a2⟩:=h
 obtain ⟨b1,b2⟩:=h'
 refine ⟨by omega,fun x hx hF=>?_⟩
 obtain ⟨x1,c1,c2,c3⟩:=b2 x hx (by omega)
 obtain ⟨x2,d1,d2,d3⟩:=a2 x1 c2 (by omega)
 exact ⟨x2,by show (f' x).bind f=_; rw [c1]; exact d1,d2,by omega⟩
theorem Eqv.look {S S':ST} (h:Eqv S S'):S'.look=S.look:=by
 obtain ⟨ρ,h⟩:=h
 exact h.look
end
theorem fitsL_of:∀ (vs:List VD) (ls:List (List Int)),(∀ i (h:i<vs.length) (h':i<ls.length),fit1 vs[i] ls[i]=true)->fitsL vs ls=true
 | [],_,_=>by simp [fitsL]
 | _::_,[],_=>by simp [fitsL]
 | v::vs,l::ls,h=>by
  rw [fitsL,Bool.and_eq_true]
  exact ⟨h 0 (by simp) (by simp),fitsL_of vs ls fun i hi hi'=>h (i+1) (by simpa using hi) (by simpa using hi')⟩
section
variable {vs:List VD} {s:SS} {r':RS} {e:List Nat}
theorem end_state (hk:Keep ⟨newS vs s,0,e⟩ r'):r'.S.state.cells=(List.range vs.length).map r'.S.cell:=by
 unfold ST.state
 rw [hk.base]
 simp [newS]
theorem end_eqv (hk:Keep ⟨newS vs s,0,e⟩ r'):Eqv r'.S (newS vs r'.S.state):=by
 have hn:=hk.nc
 have hs:=end_state hk
 refine ⟨fun a b=>a=b/\a<vs.length,⟨by rintro a b b' ⟨rfl,_⟩ ⟨rfl,_⟩; rfl,by rintro a a' b ⟨rfl,_⟩ ⟨rfl,_⟩; rfl,?_,?_,?_,?_,?_,rfl,rfl⟩⟩
 ·rintro a b ⟨rfl,h⟩
  exact ⟨Nat.lt_of_lt_of_le h hn,h⟩
 ·rintro a b ⟨rfl,h⟩
  show (r'.S.state.cells).getD a []=_
  rw [hs,List.getD_eq_getElem?_getD,List.getElem?_map,List.getElem?_range h]
  rfl
 ·rw [hk.base]
  refine ⟨rfl,rfl,rfl,⟨by simp [newS],by simp [newS]⟩,fun i a b ha hb=>?_⟩
  have ha':(List.range vs.length)[i]?=some a:=ha
  have hb':(List.range vs.length)[i]?=some b:=hb
  rw [ha'] at hb'
  injection hb' with hb'
  exact ⟨hb',List.mem_range.1 (List.mem_of_getElem? ha')⟩
 ·rw [hk.calls]; rfl
 ·intro i f g hf
  rw [hk.calls] at hf
  simp [newS] at hf
theorem end_fit (h0:fitB vs s=true) (hw:r'.S.WF) (hk:Keep ⟨newS vs s,0,e⟩ r'):fitB vs r'.S.state=true:=by
 have hs:=end_state hk
 obtain ⟨kd,hb,-,hc⟩:=hw.ex
 have hsv:svB vs=true:=by
  unfold fitB at h0
  simp only [Bool.and_eq_true] at h0
  exact h0.1.1.1.1
 unfold fitB
 simp only [Bool.and_eq_true,decide_eq_true_eq]
 refine ⟨⟨⟨⟨hsv,by rw [hs]; simp⟩,hw.tin.1⟩,hw.tout.1⟩,fitsL_of _ _ fun i hi hi'=>?_⟩
 have hbase:r'.S.base=⟨vs,List.range vs.length,0⟩:=hk.base
 rw [hbase] at hb
 have hki:=hb.kind i hi (by simpa using hi)
 simp only [List.getElem_range] at hki
 have hii:=hb.num i (List.mem_range.2 hi)
 have hci:=hc i hii
 have hli:=(hw.cells i hii).1
 have e1:r'.S.state.cells[i]=r'.S.cell i:=by
  have:r'.S.state.cells[i]?=some (r'.S.cell i):=by rw [hs,List.getElem?_map,List.getElem?_range hi]; rfl
  exact (List.getElem?_eq_some_iff.1 this).2
 rw [e1]
 rw [hki] at hci
 simp only at hci
 unfold fit1 fixE
 by_cases h3:vs[i].k=3
 ·rw [if_pos h3]; simpa using hli
 ·rw [if_neg h3]
  by_cases h1:vs[i].k=1
  ·rw [if_pos h1]; have:=hci.1 h1; simp [this]
  ·rw [if_neg h1]
   have h2:vs[i].k=2:=by omega
   have:=hci.2.1 h2
   simpa using this
theorem start_inv (hv:vs.length<=1000) (h0:fitB vs s=true) (hf:∀ v∈vs,FldV v) (hI:s.I):RInv ⟨newS vs s,0,e⟩/\NdS (newS vs s):=by
 have hw:=newS_WF h0 hf hI.1 hI.2.1 hI.2.2 vs.length (Nat.le_refl _)
 rw [List.take_of_length_le (Nat.le_refl _)] at hw
 refine ⟨⟨hw,⟨by show vs.length<=1000+0; omega,fun f hf=>by cases hf⟩,Nat.zero_le _⟩,⟨List.nodup_range,fun f hf=>by cases hf⟩⟩
end
theorem PV.lit {p:PG} {w:World} {S:Nat->Prop} {v:Value} (h:PV w S p v) (hv:validB p=true):LitB p.m/\PrB p.prs/\∀ u∈p.vs,FldV u:=by
 obtain ⟨A1,c1,A2,c2,A3,c3,-,hpg⟩:=h
 obtain ⟨-,-,h3,-⟩:=valid_bounds hv
 refine ⟨NV.lit _ _ hpg.main,fun q hq=>?_,fun u hu=>?_⟩
 ·have hb:=(h3 q hq).1
  obtain ⟨i,hi,rfl⟩:=List.getElem_of_mem hq
  obtain ⟨a,B1,d1,B2,d2,-,-,-,hr⟩:=hpg.procs i hi
  refine ⟨NV.lit _ _ hr.body,fun v hv=>?_,by omega⟩
  obtain ⟨j,hj,rfl⟩:=List.getElem_of_mem hv
  obtain ⟨-,-,-,-,hf⟩:=hr.row j hj
  exact hf
 ·obtain ⟨j,hj,rfl⟩:=List.getElem_of_mem hu
  obtain ⟨-,-,-,-,hf⟩:=hpg.vars j hj
  exact hf
theorem SV.nums {s:SS} {w:World} {S:Nat->Prop} {v:Value} (h:SV w S s v):s.I:=by
 obtain ⟨A,c,B,d,D,e,-,hr,hi,ho,-⟩:=h
 have key:∀ {A:Option Addr} {xs:List Int},RowI w S A xs->∀ x∈xs,I64 x:=fun hr x hx=>by
  obtain ⟨i,hi,rfl⟩:=List.getElem_of_mem hx
  obtain ⟨_,_,_,_,h⟩:=hr i hi
  exact h
 refine ⟨fun l hl=>?_,key hi,key ho⟩
 obtain ⟨i,hi,rfl⟩:=List.getElem_of_mem hl
 obtain ⟨_,_,_,_,_,_,_,h⟩:=hr i hi
 exact key h
end Go.Proofs.YtgnfpcebmefhoaaGreat
