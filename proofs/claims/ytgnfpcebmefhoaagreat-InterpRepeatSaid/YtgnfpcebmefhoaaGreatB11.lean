/-
  Texts of the proof, put together without their remarks: Rev2, Cq, Ia, Rcp, Scl, Nz.
-/
import Derived.Test.YtgnfpcebmefhoaaGreatB10
import Derived.Tactics
import Derived.Tactics2
import Derived.Defers
set_option linter.unusedSimpArgs false
set_option linter.unusedVariables false
set_option maxHeartbeats 8000000
set_option maxRecDepth 100000
namespace Go.Proofs.YtgnfpcebmefhoaaGreat
open Go Go.RowKit
def OkN (u:T):Prop:=rejE u=0/\(u.k=54->menB (kid u 0) u.s=false/\menB (kid u 2) u.s=false)
structure RvT (prs:List PR) (t:T):Prop where
 gp:GP prs t
 ok:∀ u∈po t,OkN u
 pr:∀ q∈prs,∀ u∈po q.b,OkN u
theorem po_self (t:T):t∈po t:=by obtain ⟨k,n,s,ks⟩:=t; simp [po]
theorem po_of {t u:T} (h:u∈t.ks):∀ w∈po u,w∈po t:=by
 obtain ⟨k,n,s,ks⟩:=t
 exact fun w hw=>by simp only [po,List.mem_cons]; exact .inr (mem_pos.2 ⟨u,h,hw⟩)
theorem po_kid {t u:T} {i:Nat} (h:u∈(kid t i).ks):∀ w∈po u,w∈po t:=by
 unfold kid at h
 rw [List.getD_eq_getElem?_getD] at h
 rcases hk:t.ks[i]? with _|v
 ·rw [hk] at h; simp [nil0] at h
 ·rw [hk] at h
  exact fun w hw=>po_of (List.mem_of_getElem? hk) w (po_of h w hw)
theorem RvT.own {prs:List PR} {t:T} (h:RvT prs t):OkN t:=h.ok t (po_self t)
theorem RvT.two {prs:List PR} {t:T} (h:RvT prs t) (hk:t.k=52\/t.k=53):(∀ u∈(kid t 1).ks,RvT prs u)/\∀ u∈(kid t 2).ks,RvT prs u:=by
 obtain ⟨-,h1,h2⟩:=GP_GC.two prs t h.gp hk
 exact ⟨fun u hu=>⟨h1 u hu,fun w hw=>h.ok w (po_kid hu w hw),h.pr⟩,fun u hu=>⟨h2 u hu,fun w hw=>h.ok w (po_kid hu w hw),h.pr⟩⟩
theorem RvT.loc {prs:List PR} {t:T} (h:RvT prs t) (hk:t.k=54):t.ks.length=3/\∀ u∈(kid t 1).ks,RvT prs u:=by
 obtain ⟨h0,h1⟩:=GP_GC.loc prs t h.gp hk
 exact ⟨h0,fun u hu=>⟨h1 u hu,fun w hw=>h.ok w (po_kid hu w hw),h.pr⟩⟩
theorem RvT.stk {prs:List PR} {t:T} (h:RvT prs t) (hk:t.k=55):∀ u∈(kid t 0).ks,RvT prs u:=by
 obtain ⟨-,h1⟩:=GP_GC.stk prs t h.gp hk
 exact fun u hu=>⟨h1 u hu,fun w hw=>h.ok w (po_kid hu w hw),h.pr⟩
theorem RvT.cal {prs:List PR} {t:T} (h:RvT prs t) (hk:t.k=50\/t.k=51):∀ i,prcI prs t.s=some i->∀ u∈(prs.getD i ⟨⟨#[]⟩,[],nil0⟩).b.ks,RvT prs u:=by
 intro i hi
 obtain ⟨j,q,hj,hq,h1⟩:=GP_GC.cal prs t h.gp hk
 rw [hi] at hj
 injection hj with hj
 subst hj
 rw [getD_some hq]
 exact fun u hu=>⟨h1 u hu,fun w hw=>h.pr q (List.mem_of_getElem? hq) w (po_of hu w hw),h.pr⟩
def NdS (S:ST):Prop:=S.base.cs.Nodup/\∀ f∈S.calls,f.cs.Nodup
theorem NdS.cur {S:ST} (h:NdS S):S.cur.cs.Nodup:=by
 rcases Nat.eq_zero_or_pos S.calls.length with h0|h0
 ·rw [cur_0 h0]; exact h.1
 ·rw [cur_1 h0]; exact h.2 _ (List.getElem_mem _)
theorem NdS.of {S S':ST} (h:NdS S) (h1:S'.base=S.base) (h2:S'.calls=S.calls):NdS S':=by unfold NdS; rw [h1,h2]; exact h
theorem NdS.keep {r r':RS} (h:NdS r.S) (hk:Keep r r'):NdS r'.S:=h.of hk.base hk.calls
theorem NdS.setCur {S:ST} (h:NdS S) {f:FR} (hf:f.cs.Nodup):NdS (S.setCur f):=by
 unfold ST.setCur
 split
 ·exact ⟨hf,h.2⟩
 ·refine ⟨h.1,fun g hg=>?_⟩
  rcases List.mem_or_eq_of_mem_set hg with hg|rfl
  ·exact h.2 g hg
  ·exact hf
theorem NdS.open_ {S:ST} (h:NdS S) (hw:S.WF) (l:List Int) (v:VD):NdS ((S.newCell l).setCur (S.cur.push v S.nc)):=by
 obtain ⟨kd,hc⟩:=hw.cur
 refine NdS.setCur (S:=S.newCell l) h ?_
 show (S.cur.cs++[S.nc]).Nodup
 rw [List.nodup_append]
 refine ⟨h.cur,by simp,fun a ha b hb=>?_⟩
 obtain rfl:=List.mem_singleton.1 hb
 have:=hc.num a ha
 omega
theorem hasN_mem {ks:List T} {s:ByteArray} (h:hasN ks s=false):∀ t∈ks,(t.s.toList==s.toList)=false:=by
 unfold hasN at h
 rw [List.any_eq_false] at h
 exact fun t ht=>by simpa using h t ht
theorem dup_cons {t:T} {ks:List T} (h:dupB (t::ks)=false):(∀ u∈ks,(t.s.toList==u.s.toList)=false)/\dupB ks=false:=by
 unfold dupB at h ⊢
 rw [List.any_eq_false] at h ⊢
 refine ⟨fun u hu=>?_,fun j hj=>?_⟩
 ·obtain ⟨j,hj,rfl⟩:=List.getElem_of_mem hu
  have:=h (j+1) (by simp; omega)
  simp only [List.take_succ_cons,List.getD_cons_succ,Bool.not_eq_true] at this
  rw [List.getD_eq_getElem?_getD,List.getElem?_eq_getElem hj] at this
  exact hasN_mem this t (List.mem_cons_self ..)
 ·have:=h (j+1) (by simp at hj ⊢; omega)
  simp only [List.take_succ_cons,List.getD_cons_succ,Bool.not_eq_true] at this
  simp only [Bool.not_eq_true]
  unfold hasN at this ⊢
  simp only [List.any_cons,Bool.or_eq_false_iff] at this
  exact this.2
theorem at_name {f:FR} {s:ByteArray} {i:Nat} (h:f.at s=some i):∃ v,f.vs[i]?=some v/\(v.s.toList==s.toList)=true:=lastI_name h
theorem entL_nd {f:FR} (hf:f.cs.Nodup) (hl:f.cs.length=f.vs.length):∀ (ps:List VD) (ts:List T) (acc g:FR),dupB ts=false->acc.cs.Nodup->(∀ c∈acc.cs,∀ t∈ts,∀ i,f.at t.s=some i->f.cs[i]?≠some c)->entL f acc (ps.zip (ts.map (·.s)))=.ok g->g.cs.Nodup/\g.loc=acc.loc\/g.cs.Nodup/\g.loc=0
 | [],ts,acc,g,_,ha,_,h=>by
  simp only [List.zip_nil_left,entL,Except.ok.injEq] at h
  subst h
  exact .inl ⟨ha,rfl⟩
 | p::ps,[],acc,g,_,ha,_,h=>by
  simp only [List.map_nil,List.zip_nil_right,entL,Except.ok.injEq] at h
  subst h
  exact .inl ⟨ha,rfl⟩
 | p::ps,t::ts,acc,g,hd,ha,hx,h=>by
  simp only [List.map_cons,List.zip_cons_cons] at h
  rw [entL] at h
  obtain ⟨hd1,hd2⟩:=dup_cons hd
  cases hat:f.at t.s with
  | none=>rw [hat] at h; cases h
  | some i =>
   rw [hat] at h
   dsimp only at h
   have hi:i<f.cs.length:=by rw [hl]; exact FR.at_lt hat
   have hci:f.cs[i]?=some (f.cs.getD i 0):=by rw [List.getD_eq_getElem?_getD,List.getElem?_eq_getElem hi]; rfl
   split at h
   ·have:=entL_nd hf hl ps ts ⟨acc.vs++[p],acc.cs++[f.cs.getD i 0],0⟩ g hd2 (by
     rw [List.nodup_append]
     refine ⟨ha,by simp,fun a ha' b hb e=>?_⟩
     obtain rfl:=List.mem_singleton.1 hb
     exact hx a ha' t (List.mem_cons_self ..) i hat (by rw [e]; exact hci)) (fun c hc u hu j hj=>?_) h
    ·rcases this with h1|h1
     ·exact .inr h1
     ·exact .inr h1
    ·simp only at hc
     rcases List.mem_append.1 hc with hc|hc
     ·exact hx c hc u (List.mem_cons_of_mem _ hu) j hj
     ·obtain rfl:=List.mem_singleton.1 hc
      intro e
      have hj':j<f.cs.length:=by rw [hl]; exact FR.at_lt hj
      rw [<-hci] at e
      rw [List.getElem?_eq_getElem hj',List.getElem?_eq_getElem hi] at e
      injection e with e
      have hij:j=i:=(List.getElem_inj hf).1 e
      subst hij
      obtain ⟨v,a1,a2⟩:=at_name hat
      obtain ⟨v',b1,b2⟩:=at_name hj
      rw [a1] at b1
      injection b1 with b1
      subst b1
      rw [beq_iff_eq] at a2 b2
      have:=hd1 u hu
      rw [<-a2,<-b2] at this
      simp at this
   ·cases h
def RevR (F:Int) (f:RS->Out) (r r':RS):Prop:=r.n<=r'.n/\∀ x:RS,Eqv r'.S x.S->(x.n:Int)+(r'.n-r.n:Nat)<=F->∃ x',f x=.ok x'/\Eqv r.S x'.S/\x'.n=x.n+(r'.n-r.n)
section
variable {F:Int} {f f':RS->Out} {r r1 r':RS} {t:T}
theorem RevR.trans (h:RevR F f r r1) (h':RevR F f' r1 r'):RevR F (fun x=>(f' x).bind f) r r':=by
 obtain ⟨a1,a2⟩:=h
 obtain ⟨b1,b2⟩:=h'
 refine ⟨by omega,fun x hx hF=>?_⟩
 obtain ⟨x1,c1,c2,c3⟩:=b2 x hx (by omega)
 obtain ⟨x2,d1,d2,d3⟩:=a2 x1 c2 (by omega)
 exact ⟨x2,by show (f' x).bind f=_; rw [c1]; exact d1,d2,by omega⟩
theorem stepO_run {x:RS} (h:(x.n:Int)<F):stepO F x=.ok { x with n:=x.n+1 }:=by
 unfold stepO
 rw [if_neg (by omega)]
theorem valO_run {x:RS} {S:ST} {g:Int->RS->Out} (hl:exprE x.S.look t=exprE S.look t) (h0:(exprE S.look t).2=0):valO t x g=g (exprE S.look t).1 x:=by
 unfold valO
 rw [hl,if_neg (by rw [h0]; decide)]
theorem holdsO_run {x:RS} {S:ST} {g:Bool->RS->Out} (hn:(x.n:Int)<F) (hl:exprE x.S.look t=exprE S.look t) (h0:(exprE S.look t).2=0):holdsO F t x g=g (decide ((exprE S.look t).1≠0)) { x with n:=x.n+1 }:=by
 unfold holdsO
 rw [stepO_run hn]
 show valO t { x with n:=x.n+1 } (fun v r=>g (decide (v≠0)) r)=_
 exact valO_run (S:=S) hl h0
theorem assertO_run {x:RS} {S:ST} {b:Bool} (hn:(x.n:Int)<F) (hl:exprE x.S.look t=exprE S.look t) (h0:(exprE S.look t).2=0) (hb:decide ((exprE S.look t).1≠0)=b):assertO F t b x=.ok { x with n:=x.n+1 }:=by
 unfold assertO
 rw [holdsO_run (S:=S) hn hl h0,if_pos hb]
theorem Eqv.look {S S':ST} (h:Eqv S S'):S'.look=S.look:=by
 obtain ⟨ρ,h⟩:=h
 exact h.look
theorem storeO_run {x:RS} {R:Int×ST} (h:R.1=0):storeO x R=.ok { x with S:=R.2 }:=by
 unfold storeO
 rw [if_neg (by rw [h]; decide)]
theorem bodyO_app (g:T->RS->Out):∀ (a b:List T) (r:RS),bodyO g (a++b) r=(bodyO g a r).bind (bodyO g b)
 | [],b,r=>rfl
 | t::a,b,r=>by
  rw [List.cons_append,bodyO,bodyO]
  cases h:g t r with
  | gas=>rfl
  | err e=>rfl
  | ok r1=>exact bodyO_app g a b r1
def UnS (F:Int) (g gr:T->RS->Out) (t:T):Prop:=∀ r r',RInv r->NdS r.S->g t r=.ok r'->RevR F (gr t) r r'/\RInv r'/\NdS r'.S
theorem bodyO_rev {g gr:T->RS->Out}:∀ (l:List T),(∀ t∈l,UnS F g gr t)->∀ (r r':RS),RInv r->NdS r.S->bodyO g l r=.ok r'->RevR F (bodyO gr l.reverse) r r'/\RInv r'/\NdS r'.S
 | [],_,r,r',hr,hn,h=>by
  injection h with h
  subst h
  exact ⟨⟨Nat.le_refl _,fun x hx _=>⟨x,rfl,hx,by omega⟩⟩,hr,hn⟩
 | t::l,hu,r,r',hr,hn,h=>by
  rw [bodyO] at h
  obtain ⟨r1,h1,h2⟩:=bind_ok h
  obtain ⟨a1,a2,a3⟩:=hu t (List.mem_cons_self ..) r r1 hr hn h1
  obtain ⟨b1,b2,b3⟩:=bodyO_rev l (fun u hu'=>hu u (List.mem_cons_of_mem _ hu')) r1 r' a2 a3 h2
  refine ⟨?_,b2,b3⟩
  have e:bodyO gr (t::l).reverse=fun x=>(bodyO gr l.reverse x).bind (gr t):=by
   funext x
   rw [List.reverse_cons,bodyO_app]
   cases bodyO gr l.reverse x with
   | gas=>rfl
   | err e=>rfl
   | ok y =>
    show (gr t y).bind (bodyO gr [])=gr t y
    cases gr t y<;>rfl
  rw [e]
  exact a1.trans b1
def contR (F:Int) (gr:T->RS->Out) (entry test:T) (l1 l2:List T) (mm:Nat) (y:RS):Out :=
 holdsO F entry y fun b y=>if b=true then .ok y else (bodyO gr l2.reverse y).bind fun y=>(assertO F test false y).bind (loopO F gr test entry l1.reverse l2.reverse mm)
theorem loopO_cont (gr:T->RS->Out) (entry test:T) (l1 l2:List T) (mm:Nat) (x:RS):loopO F gr test entry l1.reverse l2.reverse (mm+1) x=(bodyO gr l1.reverse x).bind (contR F gr entry test l1 l2 mm):=rfl
theorem loopO_rev (hF:F<=1000000) {g gr:T->RS->Out} {entry test:T} {l1 l2:List T} (h1:∀ t∈l1,UnS F g gr t) (h2:∀ t∈l2,UnS F g gr t) :
  ∀ (m:Nat) (r r':RS),RInv r->NdS r.S->loopO F g entry test l1 l2 m r=.ok r'->RInv r'/\NdS r'.S/\r.n<=r'.n/\∃ k,1<=k/\k<=m /\
   ∀ (mm:Nat) (x:RS),Eqv r'.S x.S->(x.n:Int)+(r'.n-r.n:Nat)<=F->∃ y:RS,Eqv r.S y.S/\y.n=x.n+(r'.n-r.n)/\(assertO F test true x).bind (loopO F gr test entry l1.reverse l2.reverse (mm+k))=contR F gr entry test l1 l2 mm y
 | 0,_,_,_,_,h=>by cases h
 | m+1,r,r',hr,hn,h=>by
  rw [loopO] at h
  obtain ⟨ra,ha,h⟩:=bind_ok h
  obtain ⟨⟨a0,a1⟩,a2,a3⟩:=bodyO_rev l1 h1 r ra hr hn ha
  obtain ⟨hn1,hv1,h⟩:=holdsO_ok h
  have t1:=a2.tick hF hn1
  split at h
  ·rename_i hb
   injection h with h
   subst h
   refine ⟨t1,a3,by simp only; omega,1,Nat.le_refl _,by omega,fun mm x hx hxF=>?_⟩
   simp only at hx hxF ⊢
   have hl:exprE x.S.look test=exprE ra.S.look test:=by rw [hx.look]
   rw [assertO_run (S:=ra.S) (by omega) hl hv1 hb]
   obtain ⟨y,c1,c2,c3⟩:=a1 { x with n:=x.n+1 } hx (by simp only; omega)
   refine ⟨y,c2,by simp only at c3; omega,?_⟩
   show loopO F gr test entry l1.reverse l2.reverse (mm+1) { x with n:=x.n+1 }=_
   rw [loopO_cont,c1]
   rfl
  ·rename_i hb
   obtain ⟨rb,hbb,h⟩:=bind_ok h
   obtain ⟨⟨b0,b1⟩,b2,b3⟩:=bodyO_rev l2 h2 _ rb t1 a3 hbb
   simp only at b0
   obtain ⟨rc,hc,h⟩:=bind_ok h
   obtain ⟨hn2,hv2,hb2,rfl⟩:=assertO_ok2 hc
   have t2:=b2.tick hF hn2
   obtain ⟨i1,i2,i0,k,k1,k2,i3⟩:=loopO_rev hF h1 h2 m _ r' t2 b3 h
   simp only at i0
   refine ⟨i1,i2,by omega,k+1,by omega,by omega,fun mm x hx hxF=>?_⟩
   obtain ⟨y0,y1,y2,y3⟩:=i3 (mm+1) x hx (by simp only; omega)
   simp only at y1 y2
   have hl0:exprE y0.S.look entry=exprE rb.S.look entry:=by rw [y1.look]
   have e1:contR F gr entry test l1 l2 (mm+1) y0=(bodyO gr l2.reverse { y0 with n:=y0.n+1 }).bind fun y=>(assertO F test false y).bind (loopO F gr test entry l1.reverse l2.reverse (mm+1)):=by
    unfold contR
    rw [holdsO_run (S:=rb.S) (by omega) hl0 hv2,hb2]
    simp
   obtain ⟨z1,z2,z3,z4⟩:=b1 { y0 with n:=y0.n+1 } y1 (by simp only; omega)
   simp only at z3 z4
   have hl1:exprE z1.S.look test=exprE ra.S.look test:=by rw [z3.look]
   have hbf:decide ((exprE ra.S.look test).1≠0)=false:=by simpa using hb
   obtain ⟨w,w1,w2,w3⟩:=a1 { z1 with n:=z1.n+1 } z3 (by simp only; omega)
   simp only at w3
   refine ⟨w,w2,by omega,?_⟩
   rw [show mm+(k+1)=mm+1+k by omega,y3,e1,z2]
   show (assertO F test false z1).bind _=_
   rw [assertO_run (S:=ra.S) (by omega) hl1 hv1 hbf]
   show loopO F gr test entry l1.reverse l2.reverse (mm+1) { z1 with n:=z1.n+1 }=_
   rw [loopO_cont,w1]
   rfl
end
theorem look_push {S S':ST} {f:FR} {v:VD} {id:Nat} (hf:f.cs.length=f.vs.length) (h1:S.cur=f) (h2:S'.cur=f.push v id) (hc:∀ c∈f.cs,S'.cell c=S.cell c) (s:ByteArray) (hs:(s.toList==v.s.toList)=false):S'.look s=S.look s:=by
 have e:S'.num s=S.num s:=by
  unfold ST.num FR.at
  rw [h1,h2]
  show (lastI (f.vs++[v]) s (f.vs++[v]).length).bind _=_
  have e1:lastI (f.vs++[v]) s (f.vs++[v]).length=lastI f.vs s f.vs.length:=by
   rw [show (f.vs++[v]).length=f.vs.length+1 by simp,lastI_succ (by simp)]
   have:(f.vs++[v])[f.vs.length]=v:=by simp
   rw [this,if_neg (by
    intro h
    rw [beq_iff_eq] at h
    rw [<-h] at hs
    simp at hs)]
   have key:∀ j,j<=f.vs.length->lastI (f.vs++[v]) s j=lastI f.vs s j:=by
    intro j
    induction j with
    | zero=>intro _; rfl
    | succ j ih =>
     intro hj
     rw [lastI,lastI,List.getElem?_append_left (by omega),ih (by omega)]
   exact key _ (Nat.le_refl _)
  rw [e1]
  cases hl:lastI f.vs s f.vs.length with
  | none=>rfl
  | some i =>
   have hi:i<f.cs.length:=by rw [hf]; exact lastI_lt hl
   show (f.cs++[id])[i]?=f.cs[i]?
   rw [List.getElem?_append_left hi]
 unfold ST.look
 rw [e]
 cases hn:S.num s with
 | none=>rfl
 | some c =>
  simp only [Option.map_some,Option.some.injEq]
  refine hc c ?_
  unfold ST.num at hn
  obtain ⟨i,-,h4⟩:=Option.bind_eq_some_iff.1 hn
  rw [h1] at h4
  exact List.mem_of_getElem? h4
theorem setCur_flds (S:ST) (f:FR):(S.setCur f).cell=S.cell/\(S.setCur f).nc=S.nc/\(S.setCur f).tin=S.tin/\(S.setCur f).tout=S.tout:=by
 unfold ST.setCur
 split<;>exact ⟨rfl,rfl,rfl,rfl⟩
theorem close_open {S:ST} (h:S.WF) {v:VD} {x:Int} (h0:(openE S v x).1=0):(closeE (openE S v x).2 v.s x).1=0/\Eqv S (closeE (openE S v x).2 v.s x).2:=by
 obtain ⟨kd,hc⟩:=h.cur
 obtain ⟨h1,h2,h3⟩:=openE_ok h0
 obtain ⟨kd2,hb,hcl,-⟩:=h.ex
 have hcur:(openE S v x).2.cur=S.cur.push v S.nc:=by rw [h3,setCur_cur]
 have hcell:∀ j,(openE S v x).2.cell j=if j=S.nc then (if v.k=1 then [x] else []) else S.cell j:=fun j=>by
  rw [h3,(setCur_flds _ _).1]
  rfl
 have hlv:lastV (S.cur.push v S.nc)=v:=by simp [lastV,FR.push]
 have hlc:lastC (S.cur.push v S.nc)=S.nc:=by
  have:(S.cur.vs++[v]).length-1=S.cur.cs.length:=by simp [hc.len]
  show (S.cur.cs++[S.nc]).getD ((S.cur.vs++[v]).length-1) 0=S.nc
  rw [this]
  simp
 have e:closeE (openE S v x).2 v.s x=(0,(openE S v x).2.setCur S.cur):=by
  unfold closeE
  rw [hcur,hlv,hlc,hcell,if_pos rfl,push_pop hc.len,if_neg (by simp [FR.push]),if_neg]
  rintro (⟨e1,e2⟩|⟨e1,e2⟩)
  ·rw [if_pos e1] at e2
   exact e2 rfl
  ·rw [if_neg (by omega)] at e2
   simp at e2
 rw [e]
 refine ⟨rfl,?_⟩
 obtain ⟨hbs,hcs⟩:((openE S v x).2.setCur S.cur).base=S.base/\((openE S v x).2.setCur S.cur).calls=S.calls:=by
  rw [h3]
  have hs:=setCur_same S
  unfold ST.setCur at hs ⊢
  by_cases h9:S.calls.length=0
  ·rw [if_pos (show (S.newCell _).calls.length=0 from h9)]
   dsimp only
   rw [if_pos (show (S.newCell _).calls.length=0 from h9)]
   exact ⟨by rw [cur_0 h9],rfl⟩
  ·rw [if_neg (show ¬ (S.newCell _).calls.length=0 from h9)]
   rw [if_neg h9] at hs
   have hl:((S.newCell (if v.k=1 then [x] else [])).calls.set ((S.newCell (if v.k=1 then [x] else [])).calls.length-1) (S.cur.push v S.nc)).length=S.calls.length:=by simp [ST.newCell]
   dsimp only
   rw [if_neg (by rw [hl]; exact h9)]
   refine ⟨rfl,?_⟩
   dsimp only
   rw [hl]
   show (S.calls.set (S.calls.length-1) _).set (S.calls.length-1) S.cur=S.calls
   rw [List.set_set]
   exact congrArg ST.calls hs
 have hnc:((openE S v x).2.setCur S.cur).nc=S.nc+1:=by
  rw [(setCur_flds _ _).2.1,h3,(setCur_flds _ _).2.1]
  rfl
 have hce:∀ j,((openE S v x).2.setCur S.cur).cell j=(openE S v x).2.cell j:=fun j=>by
  rw [(setCur_flds _ _).1]
 have htp:((openE S v x).2.setCur S.cur).tin=S.tin/\((openE S v x).2.setCur S.cur).tout=S.tout:=by
  rw [(setCur_flds _ _).2.2.1,(setCur_flds _ _).2.2.2,h3,(setCur_flds _ _).2.2.1,(setCur_flds _ _).2.2.2]
  exact ⟨rfl,rfl⟩
 have key:∀ f:FR,f.WF kd2 S.nc->FrR (fun a b=>a=b/\a<S.nc) f f:=fun f hf=>⟨rfl,rfl,rfl,⟨hf.len,hf.loc⟩,fun i a b ha hb=>by
  rw [ha] at hb
  injection hb with hb
  exact ⟨hb,hf.num a (List.mem_of_getElem? ha)⟩⟩
 refine ⟨fun a b=>a=b/\a<S.nc,⟨by rintro a b b' ⟨rfl,_⟩ ⟨rfl,_⟩; rfl,by rintro a a' b ⟨rfl,_⟩ ⟨rfl,_⟩; rfl,by rintro a b ⟨rfl,h⟩; exact ⟨h,by rw [hnc]; omega⟩,?_,by rw [hbs]; exact key _ hb,by rw [hcs],fun i f g hf hg=>?_,htp.1,htp.2⟩⟩
 ·rintro a b ⟨rfl,h9⟩
  rw [hce,hcell,if_neg (by omega)]
 ·rw [hcs,hf] at hg
  injection hg with hg
  subst hg
  exact key f (hcl f (List.mem_of_getElem? hf))
theorem open_close {S S3:ST} (h:S.WF) (h3w:S3.WF) {v:VD} {x y:Int} (h0:(openE S v x).1=0) (hb:S3.base=(openE S v x).2.base) (hcl:S3.calls=(openE S v x).2.calls) (hn:(openE S v x).2.nc<=S3.nc) (h1:(closeE S3 v.s y).1=0) :
  (openE (closeE S3 v.s y).2 v y).1=0/\Eqv S3 (openE (closeE S3 v.s y).2 v y).2:=by
 obtain ⟨kd,hc⟩:=h.cur
 obtain ⟨o1,o2,o3⟩:=openE_ok h0
 obtain ⟨c1,c2,c3,c4,c5⟩:=closeE_ok h1
 obtain ⟨k1,k2,k3⟩:=local_keep hc.len h0 hb hcl hn h1
 obtain ⟨kd0,hwb,hwc,-⟩:=h.ex
 have hcur3:S3.cur=S.cur.push v S.nc:=by
  obtain ⟨Sx,hSx⟩:∃ Sx,openE S v x=Sx:=⟨_,rfl⟩
  have hx:Sx.2.cur=S.cur.push v S.nc:=by rw [<-hSx,o3,setCur_cur]
  rw [hSx] at hb hcl
  have:S3.cur=Sx.2.cur:=by unfold ST.cur; rw [hb,hcl]
  rw [this,hx]
 have hlv:lastV (S.cur.push v S.nc)=v:=by simp [lastV,FR.push]
 have hlc:lastC (S.cur.push v S.nc)=S.nc:=by
  have:(S.cur.vs++[v]).length-1=S.cur.cs.length:=by simp [hc.len]
  show (S.cur.cs++[S.nc]).getD ((S.cur.vs++[v]).length-1) 0=S.nc
  rw [this]
  simp
 rw [hcur3,hlv,hlc] at c3 c4
 -- the cell of the local
 have hnc3:S.nc<S3.nc:=by
  rw [o3] at hn
  have:((S.newCell (if v.k=1 then [x] else [])).setCur (S.cur.push v S.nc)).nc=S.nc+1:=(setCur_flds _ _).2.1
  omega
 have hcell:S3.cell S.nc=if v.k=1 then [y] else []:=by
  obtain ⟨kd3,hw3,hk3⟩:=h3w.cur2
  rcases o2 with e|e
  ·rw [if_pos e]
   have hlen:(S3.cell S.nc).length=1:=by
    have hm:S.cur.vs.length<S3.cur.vs.length:=by rw [hcur3]; simp [FR.push]
    have hm2:S.cur.vs.length<S3.cur.cs.length:=by rw [hw3.len]; exact hm
    have hkk:S3.cur.vs[S.cur.vs.length].k=1:=by
     have:S3.cur.vs[S.cur.vs.length]?=some v:=by rw [hcur3]; simp [FR.push]
     rw [List.getElem?_eq_getElem hm] at this
     injection this with this
     rw [this]; exact e
    have:=last_kind h3w hm hm2 hkk
    have hcc:S3.cur.cs[S.cur.vs.length]=S.nc:=by
     have:S3.cur.cs[S.cur.vs.length]?=some S.nc:=by rw [hcur3]; show (S.cur.cs++[S.nc])[S.cur.vs.length]?=_; rw [<-hc.len]; simp
     rw [List.getElem?_eq_getElem hm2] at this
     injection this
    rw [hcc] at this
    exact this
   obtain ⟨z,hz⟩:=List.length_eq_one_iff.1 hlen
   have:=c3 e
   rw [hz] at this ⊢
   simp at this
   rw [this]
  ·rw [if_neg (by omega)]
   exact c4 e
 have hcurc:(closeE S3 v.s y).2.cur=S.cur:=by unfold ST.cur; rw [k1,k2]
 have hcel:∀ j,(closeE S3 v.s y).2.cell j=S3.cell j:=fun j=>by
  rw [c5,(setCur_flds _ _).1]
 have hcnc:(closeE S3 v.s y).2.nc=S3.nc:=by
  rw [c5,(setCur_flds _ _).2.1]
 have hctp:(closeE S3 v.s y).2.tin=S3.tin/\(closeE S3 v.s y).2.tout=S3.tout:=by
  rw [c5]
  exact ⟨(setCur_flds _ _).2.2.1,(setCur_flds _ _).2.2.2⟩
 obtain ⟨Q,hQ⟩:∃ Q,(closeE S3 v.s y).2=Q:=⟨_,rfl⟩
 rw [hQ] at k1 k2 hcurc hcel hcnc hctp ⊢
 have hvn:v.n=0:=by
  have:¬ ¬ ((v.k=1\/v.k=3)/\v.n=0):=fun hx=>by
   unfold openE at h0
   rw [if_pos hx] at h0
   cases h0
  exact (Decidable.not_not.1 this).2
 have eo:openE Q v y=(0,(Q.newCell (if v.k=1 then [y] else [])).setCur (S.cur.push v S3.nc)):=by
  unfold openE
  rw [if_neg (by simp [o2,hvn]),hcurc,o1,hcnc]
  rfl
 rw [eo]
 refine ⟨rfl,?_⟩
 -- the correspondence: the local's cell,all others as they are
 have hold:∀ f:FR,f.WF kd0 S.nc->FrR (fun a b=>(a=b/\a<S3.nc/\a≠S.nc)\/(a=S.nc/\b=S3.nc)) f f:=fun f hf=>⟨rfl,rfl,rfl,⟨hf.len,hf.loc⟩,fun i a b ha hb=>by
  rw [ha] at hb
  injection hb with hb
  have:=hf.num a (List.mem_of_getElem? ha)
  exact .inl ⟨hb,by omega,by omega⟩⟩
 have hwcur:S.cur.WF kd0 S.nc:=by
  rcases Nat.eq_zero_or_pos S.calls.length with h9|h9
  ·rw [cur_0 h9]; exact hwb
  ·rw [cur_1 h9]; exact hwc _ (List.getElem_mem _)
 have hpush:FrR (fun a b=>(a=b/\a<S3.nc/\a≠S.nc)\/(a=S.nc/\b=S3.nc)) (S.cur.push v S.nc) (S.cur.push v S3.nc):=(hold _ hwcur).snoc v (.inr ⟨rfl,rfl⟩) _ (by have:=hwcur.loc; omega)
 have hsame:S3=S3.setCur (S.cur.push v S.nc):=by rw [<-hcur3,setCur_same]
 have hR:EqR (fun a b=>(a=b/\a<S3.nc/\a≠S.nc)\/(a=S.nc/\b=S3.nc)) { S3 with base:=S.base,calls:=S.calls } (Q.newCell (if v.k=1 then [y] else [])):=by
  refine ⟨fun a b b' h1 h2=>by omega,fun a a' b h1 h2=>by omega,fun a b h1=>?_,fun a b h1=>?_,?_,?_,fun i f g hf hg=>?_,?_,?_⟩
  ·show a<S3.nc/\b<Q.nc+1
   rw [hcnc]
   omega
  ·show (if b=Q.nc then _ else Q.cell b)=S3.cell a
   rw [hcnc]
   rcases h1 with ⟨rfl,h8,h9⟩|⟨rfl,rfl⟩
   ·rw [if_neg (by omega),hcel]
   ·rw [if_pos rfl,hcell]
  ·show FrR _ S.base Q.base
   rw [k1]; exact hold _ hwb
  ·show S.calls.length=Q.calls.length
   rw [k2]
  ·have hg':Q.calls[i]?=some g:=hg
   have hf':S.calls[i]?=some f:=hf
   rw [k2,hf'] at hg'
   injection hg' with hg'
   subst hg'
   exact hold f (hwc f (List.mem_of_getElem? hf'))
  ·exact hctp.1
  ·exact hctp.2
 have:=hR.setCur hpush
 have e9:({ S3 with base:=S.base,calls:=S.calls }:ST).setCur (S.cur.push v S.nc)=S3:=by
  rw [o3] at hb hcl
  unfold ST.setCur at hb hcl ⊢
  by_cases h9:S.calls.length=0
  ·rw [if_pos (show (S.newCell _).calls.length=0 from h9)] at hb hcl
   rw [if_pos h9]
   dsimp only at hb hcl ⊢
   rw [<-hb,show S.calls=S3.calls from hcl.symm]
  ·rw [if_neg (show ¬ (S.newCell _).calls.length=0 from h9)] at hb hcl
   rw [if_neg h9]
   dsimp only at hb hcl ⊢
   rw [show S.base=S3.base from hb.symm]
   have:S.calls.set (S.calls.length-1) (S.cur.push v S.nc)=S3.calls:=hcl.symm
   rw [this]
 rw [e9] at this
 exact ⟨_,this⟩
theorem ok_bind (r:RS) (f:RS->Out):(Out.ok r).bind f=f r:=rfl
theorem fst_not (back:Bool) (t:T):fstT (!back) t=lstT back t:=by unfold fstT lstT; cases back<;>rfl
theorem lst_not (back:Bool) (t:T):lstT (!back) t=fstT back t:=by unfold fstT lstT; cases back<;>rfl
theorem blkL_not (back:Bool) (b:T):blkL (!back) b=(blkL back b).reverse:=by unfold blkL; cases back<;>simp
theorem execO_rev {prs:List PR} {F:Int} (hF:F<=1000000) (hp:PrB prs):∀ (g:Nat) (back:Bool) (t:T),RvT prs t->LitB t->UnS F (execO prs F g back) (execO prs F g (!back)) t
 | 0,_,_,_,_=>fun r r' _ _ h=>by cases h
 | g+1,back,t,ht,hl=>fun r r' hr hn h=>by
  obtain ⟨hk1,hk2⟩:=execO_keep hF hp (g+1) back t r r' hl hr h
  refine ⟨?_,hk1,hn.keep hk2⟩
  have hb:∀ back (b:T),(∀ u∈b.ks,RvT prs u)->LitB b->∀ r r',RInv r->NdS r.S->bodyO (execO prs F g back) (blkL back b) r=.ok r'->RevR F (bodyO (execO prs F g (!back)) (blkL (!back) b)) r r'/\RInv r'/\NdS r'.S:=fun back b hb hlb r r' hr hn h=>by
   rw [blkL_not]
   exact bodyO_rev (blkL back b) (fun u hu=>execO_rev hF hp g back u (hb u (blkL_mem hu)) (hlb.block (blkL_mem hu))) r r' hr hn h
  have hfst:LitB (fstT back t):=by unfold fstT; split<;>exact hl.kidD _
  unfold RevR
  rw [execO] at h
  simp only [execO]
  rw [fst_not,lst_not]
  split at h
  ·rename_i h52
   simp only [if_pos h52]
   obtain ⟨hn1,hv1,h⟩:=holdsO_ok h
   obtain ⟨r1,h1,h2⟩:=bind_ok h
   obtain ⟨⟨b0,b1⟩,b2,b3⟩:=hb back _ (by split; exact (ht.two (.inl h52)).1; exact (ht.two (.inl h52)).2) (by split<;>exact hl.kidD _) _ r1 (hr.tick hF hn1) hn h1
   (try simp only at b0 b1)
   obtain ⟨hn2,hv2,hb2,rfl⟩:=assertO_ok2 h2
   refine ⟨by simp only; omega,fun x hx hxF=>?_⟩
   simp only at hx hxF ⊢
   rw [holdsO_run (S:=r1.S) (by omega) (by rw [hx.look]) hv2,hb2]
   obtain ⟨y,c1,c2,c3⟩:=b1 { x with n:=x.n+1 } hx (by simp only; omega)
   (try simp only at c3)
   rw [c1]
   refine ⟨{ y with n:=y.n+1 },?_,c2,by simp only; omega⟩
   show assertO F (fstT back t) _ y=_
   rw [assertO_run (S:=r.S) (by omega) (by rw [c2.look]) hv1 rfl]
  rename_i h52
  split at h
  ·rename_i h53
   simp only [if_neg h52,if_pos h53]
   obtain ⟨ra,ha,h⟩:=bind_ok h
   obtain ⟨hn1,hv1,hb1,rfl⟩:=assertO_ok2 ha
   obtain ⟨i1,i2,i0,k,k1,k2,i3⟩:=loopO_rev hF (gr:=execO prs F g (!back)) (fun u hu=>execO_rev hF hp g back u ((ht.two (.inr h53)).1 u (blkL_mem hu)) ((hl.kidD 1).block (blkL_mem hu))) (fun u hu=>execO_rev hF hp g back u ((ht.two (.inr h53)).2 u (blkL_mem hu)) ((hl.kidD 2).block (blkL_mem hu))) g _ r' (hr.tick hF hn1) hn h
   (try simp only at i0)
   refine ⟨by omega,fun x hx hxF=>?_⟩
   obtain ⟨y,y1,y2,y3⟩:=i3 (g-k) x hx (by simp only; omega)
   (try simp only at y1 y2)
   rw [show g-k+k=g by omega] at y3
   rw [blkL_not,blkL_not,y3]
   unfold contR
   rw [holdsO_run (S:=r.S) (by omega) (by rw [y1.look]) hv1,hb1,if_pos rfl]
   exact ⟨_,rfl,y1,by simp only; omega⟩
  rename_i h53
  split at h
  ·rename_i h54
   simp only [if_neg h52,if_neg h53,if_pos h54]
   obtain ⟨m1,m2⟩:=ht.own.2 h54
   have hlen:=(ht.loc h54).1
   have hm1:menB (fstT back t) t.s=false:=by unfold fstT; rw [hlen]; split; exact m2; exact m1
   have hm2:menB (lstT back t) t.s=false:=by unfold lstT; rw [hlen]; split; exact m1; exact m2
   obtain ⟨r1,h1,h⟩:=bind_ok h
   obtain ⟨rfl,hn1⟩:=stepO_ok h1
   obtain ⟨hv1,h⟩:=valO_ok h
   (try simp only at hv1 h)
   obtain ⟨r2,h2,h⟩:=bind_ok h
   obtain ⟨e0,rfl⟩:=storeO_ok h2
   (try simp only at e0 h)
   obtain ⟨r3,h3,h⟩:=bind_ok h
   have hi2:RInv { S:=(openE r.S ⟨t.s,1,0⟩ (exprE r.S.look (fstT back t)).1).2,n:=r.n+1,ent:=r.ent }:=RInv.store hr hF hn1 (openE_WF hr.wf _ (fldV_of hl 1 (by simp)) _ (LitB.expr hr.wf hfst) (by have:=hr.fb.cur; have:=hr.n; omega)) (hr.fb.open_ _ _)
   have hnd2:NdS (openE r.S ⟨t.s,1,0⟩ (exprE r.S.look (fstT back t)).1).2:=by
    rw [(openE_ok e0).2.2]
    exact hn.open_ hr.wf _ _
   obtain ⟨⟨b0,b1⟩,b2,b3⟩:=hb back (kid t 1) ((ht.loc h54).2) (hl.kidD 1) _ r3 hi2 hnd2 h3
   (try simp only at b0 b1)
   have hkp:=(bodyO_keep _ _ r3 (fun u hu r r' hr h=>execO_keep hF hp g back u r r' ((hl.kidD 1).block (blkL_mem hu)) hr h) hi2 h3).2
   obtain ⟨r4,h4,h⟩:=bind_ok h
   obtain ⟨rfl,hn2⟩:=stepO_ok h4
   obtain ⟨hv2,h⟩:=valO_ok h
   (try simp only at hv2 h)
   obtain ⟨e1,rfl⟩:=storeO_ok h
   (try simp only at e1)
   obtain ⟨g1,g2⟩:=open_close hr.wf b2.wf e0 hkp.base hkp.calls hkp.nc e1
   obtain ⟨g3,g4⟩:=close_open hr.wf e0
   refine ⟨by simp only; omega,fun x hx hxF=>?_⟩
   simp only at hx hxF ⊢
   obtain ⟨ρ,hρ⟩:=hx
   obtain ⟨kd,hc⟩:=hr.wf.cur
   obtain ⟨o1,o2,o3⟩:=openE_ok e0
   obtain ⟨l1,l2,l3,l4,l5⟩:=closeE_ok e1
   obtain ⟨k1,k2,k3⟩:=local_keep hc.len e0 hkp.base hkp.calls hkp.nc e1
   have hcur2:(openE r.S ⟨t.s,1,0⟩ (exprE r.S.look (fstT back t)).1).2.cur=r.S.cur.push ⟨t.s,1,0⟩ r.S.nc:=by rw [o3,setCur_cur]
   have hcur3:r3.S.cur=r.S.cur.push ⟨t.s,1,0⟩ r.S.nc:=hkp.cur.trans hcur2
   have hlx:exprE x.S.look (lstT back t)=exprE r3.S.look (lstT back t):=by
    rw [hρ.look]
    refine expr_other (nms:=[t.s]) (fun s hs=>?_) _ fun nm hnm=>by obtain rfl:=List.mem_singleton.1 hnm; exact hm2
    refine (look_push hc.len ?_ hcur3 (fun c _=>?_) s (hs t.s (by simp))).symm
    ·unfold ST.cur; rw [k1,k2]
    ·rw [l5,(setCur_flds _ _).1]
   obtain ⟨ρ2,p1,p2⟩:=openE_eqv hρ ⟨t.s,1,0⟩ (exprE r3.S.look (lstT back t)).1
   have q1:(openE x.S ⟨t.s,1,0⟩ (exprE r3.S.look (lstT back t)).1).1=0:=p1.trans g1
   obtain ⟨y,c1,c2,c3⟩:=b1 { x with n:=x.n+1,S:=(openE x.S ⟨t.s,1,0⟩ (exprE r3.S.look (lstT back t)).1).2 } (g2.trans ⟨ρ2,p2 g1⟩) (by simp only; omega)
   (try simp only at c3)
   have hly:exprE y.S.look (fstT back t)=exprE r.S.look (fstT back t):=by
    rw [c2.look]
    refine expr_other (nms:=[t.s]) (fun s hs=>?_) _ fun nm hnm=>by obtain rfl:=List.mem_singleton.1 hnm; exact hm1
    refine look_push hc.len rfl hcur2 (fun c hcc=>?_) s (hs t.s (by simp))
    rw [o3,(setCur_flds _ _).1]
    have:=hc.num c hcc
    show (if c=r.S.nc then _ else _)=_
    rw [if_neg (by omega)]
   obtain ⟨ρ3,hρ3⟩:=c2
   obtain ⟨p3,p4⟩:=closeE_eqv hρ3 t.s (exprE r.S.look (fstT back t)).1
   refine ⟨{ S:=(closeE y.S t.s (exprE r.S.look (fstT back t)).1).2,n:=y.n+1,ent:=y.ent },?_,g4.trans ⟨ρ3,p4 g3⟩,by simp only; omega⟩
   rw [stepO_run (by omega)]
   simp only [ok_bind]
   rw [valO_run (x:={ x with n:=x.n+1 }) (S:=r3.S) hlx hv2,storeO_run (by exact q1)]
   simp only [ok_bind]
   rw [c1]
   simp only [ok_bind]
   rw [stepO_run (by omega)]
   simp only [ok_bind]
   rw [valO_run (x:={ y with n:=y.n+1 }) (S:=r.S) hly hv1,storeO_run (by exact p3.trans g3)]
  rename_i h54
  split at h
  ·rename_i h55
   simp only [if_neg h52,if_neg h53,if_neg h54,if_pos h55]
   obtain ⟨r1,h1,h⟩:=bind_ok h
   obtain ⟨rfl,hn1⟩:=stepO_ok h1
   (try simp only at h)
   obtain ⟨r2,h2,h⟩:=bind_ok h
   obtain ⟨e0,rfl⟩:=storeO_ok h2
   (try simp only at e0 h)
   obtain ⟨r3,h3,h⟩:=bind_ok h
   have hi2:RInv { S:=(openE r.S ⟨t.s,3,0⟩ 0).2,n:=r.n+1,ent:=r.ent }:=RInv.store hr hF hn1 (openE_WF hr.wf _ (fldV_of hl 3 (by simp)) _ zero_I64 (by have:=hr.fb.cur; have:=hr.n; omega)) (hr.fb.open_ _ _)
   have hnd2:NdS (openE r.S ⟨t.s,3,0⟩ 0).2:=by
    rw [(openE_ok e0).2.2]
    exact hn.open_ hr.wf _ _
   obtain ⟨⟨b0,b1⟩,b2,b3⟩:=hb back (kid t 0) (ht.stk h55) (hl.kidD 0) _ r3 hi2 hnd2 h3
   (try simp only at b0 b1)
   have hkp:=(bodyO_keep _ _ r3 (fun u hu r r' hr h=>execO_keep hF hp g back u r r' ((hl.kidD 0).block (blkL_mem hu)) hr h) hi2 h3).2
   obtain ⟨r4,h4,h⟩:=bind_ok h
   obtain ⟨rfl,hn2⟩:=stepO_ok h4
   (try simp only at h)
   obtain ⟨e1,rfl⟩:=storeO_ok h
   (try simp only at e1)
   obtain ⟨g1,g2⟩:=open_close hr.wf b2.wf e0 hkp.base hkp.calls hkp.nc e1
   obtain ⟨g3,g4⟩:=close_open hr.wf e0
   refine ⟨by simp only; omega,fun x hx hxF=>?_⟩
   simp only at hx hxF ⊢
   obtain ⟨ρ,hρ⟩:=hx
   obtain ⟨ρ2,p1,p2⟩:=openE_eqv hρ ⟨t.s,3,0⟩ 0
   have q1:(openE x.S ⟨t.s,3,0⟩ 0).1=0:=p1.trans g1
   obtain ⟨y,c1,c2,c3⟩:=b1 { x with n:=x.n+1,S:=(openE x.S ⟨t.s,3,0⟩ 0).2 } (g2.trans ⟨ρ2,p2 g1⟩) (by simp only; omega)
   (try simp only at c3)
   obtain ⟨ρ3,hρ3⟩:=c2
   obtain ⟨p3,p4⟩:=closeE_eqv hρ3 t.s 0
   refine ⟨{ S:=(closeE y.S t.s 0).2,n:=y.n+1,ent:=y.ent },?_,g4.trans ⟨ρ3,p4 g3⟩,by simp only; omega⟩
   rw [stepO_run (by omega)]
   show (storeO { x with n:=x.n+1 } _).bind _=_
   rw [storeO_run (by exact q1)]
   show (bodyO _ _ { x with n:=x.n+1,S:=_ }).bind _=_
   rw [c1]
   show (stepO F y).bind _=_
   rw [stepO_run (by omega)]
   show storeO { y with n:=y.n+1 } _=_
   rw [storeO_run (by exact p3.trans g3)]
  rename_i h55
  split at h
  ·rename_i h50
   simp only [if_neg h52,if_neg h53,if_neg h54,if_neg h55,if_pos h50]
   split at h
   ·cases h
   ·rename_i i hi
    (try rw [hi])
    (try dsimp only)
    obtain ⟨q1,q2,q3⟩:=hp.getD i
    have hdup:dupB t.ks=false:=by
     have:=ht.own.1
     obtain ⟨k,n,s,ks⟩:=t
     rw [rejE_nd] at this
     simp only [T.k_nd] at h50 h52 h53
     rw [if_neg (by omega),if_neg (by omega),if_neg (by omega),if_neg (by omega),if_neg (by omega),if_pos h50] at this
     cases hd:dupB ks with
     | true=>rw [hd] at this; cases this
     | false=>exact hd
    obtain ⟨q,hq⟩:∃ q,prs.getD i ⟨⟨#[]⟩,[],nil0⟩=q:=⟨_,rfl⟩
    have hRq:=ht.cal h50 i hi
    rw [hq] at h q1 q2 q3 hRq ⊢
    obtain ⟨r1,h1,h⟩:=bind_ok h
    obtain ⟨rfl,hn1⟩:=stepO_ok h1
    obtain ⟨r2,h2,h⟩:=bind_ok h
    obtain ⟨e0,rfl⟩:=storeO_ok h2
    (try simp only at e0 h)
    obtain ⟨r3,h3,h⟩:=bind_ok h
    obtain ⟨f,f1,f2,f3,f4⟩:=enterE_ok e0
    obtain ⟨kd,hc⟩:=hr.wf.cur
    have hnd2:NdS (enterE r.S q.ps (t.ks.map (·.s))).2:=by
     rw [f4]
     refine ⟨hn.1,fun g hg=>?_⟩
     rcases List.mem_append.1 hg with hg|hg
     ·exact hn.2 g hg
     ·obtain rfl:=List.mem_singleton.1 hg
      rcases entL_nd hn.cur hc.len q.ps t.ks ⟨[],[],0⟩ g hdup (by simp) (by simp) f2 with h8|h8<;>exact h8.1
    have hloc:f.loc=0:=by
     rcases entL_nd hn.cur hc.len q.ps t.ks ⟨[],[],0⟩ f hdup (by simp) (by simp) f2 with h8|h8<;>exact h8.2
    have i1:=RInv.store hr hF hn1 (enterE_WF hr.wf _ (t.ks.map (·.s)) q2 (by omega)) (hr.fb.enter _ _ q3)
    have hbd:=fun hI hN=>hb (back != decide (t.k=51)) q.b hRq q1 _ r3 hI hN h3
    obtain ⟨⟨b0,b1⟩,b2,b3⟩:=hbd ⟨i1.wf,i1.fb,i1.n⟩ hnd2
    have hkp:=fun hI=>(bodyO_keep _ _ r3 (fun u hu r r' hr h=>execO_keep hF hp g _ u r r' (q1.block (blkL_mem hu)) hr h) hI h3).2
    have hkp:=hkp ⟨i1.wf,i1.fb,i1.n⟩
    (try simp only at b0 b1)
    obtain ⟨r4,h4,h⟩:=bind_ok h
    obtain ⟨rfl,hn2⟩:=stepO_ok h4
    obtain ⟨e1,rfl⟩:=storeO_ok h
    (try simp only at e1)
    obtain ⟨v1,v2⟩:=leaveE_ok e1
    have c3:r3.S.calls=r.S.calls++[f]:=by rw [hkp.calls]; simp only; rw [f4]
    have c3b:r3.S.base=r.S.base:=by rw [hkp.base]; simp only; rw [f4]
    refine ⟨by simp only; omega,fun x hx hxF=>?_⟩
    simp only at hx hxF ⊢
    -- Leave,then Enter
    have hS3:enterE (leaveE r3.S).2 q.ps (t.ks.map (·.s))=(0,r3.S):=by
     rw [v2,c3]
     have ht1:(r.S.calls++[f]).take ((r.S.calls++[f]).length-1)=r.S.calls:=by simp
     rw [ht1]
     have hcur:({ r3.S with calls:=r.S.calls }:ST).cur=r.S.cur:=by unfold ST.cur; dsimp only; rw [c3b]
     unfold enterE
     rw [if_neg (by simpa using f1),hcur,f2]
     unfold entR
     dsimp only
     rw [if_neg (by omega),<-c3]
    have hS1:leaveE (enterE r.S q.ps (t.ks.map (·.s))).2=(0,r.S):=by
     rw [f4]
     have hcur:({ r.S with calls:=r.S.calls++[f] }:ST).cur=f:=by unfold ST.cur; simp
     unfold leaveE
     rw [hcur,hloc,if_neg (by simp)]
     simp
    obtain ⟨ρ,hρ⟩:=hx
    obtain ⟨p1,p2⟩:=enterE_eqv hρ q.ps (t.ks.map (·.s))
    rw [hS3] at p1 p2
    have hbk:((!back) != decide (t.k=51)) = !(back != decide (t.k=51)):=by cases back<;>cases decide (t.k=51)<;>rfl
    rw [hbk]
    obtain ⟨y,c1,c2,c4⟩:=b1 { S:=(enterE x.S q.ps (t.ks.map (·.s))).2,n:=x.n+1,ent:=x.ent.set i (x.ent.getD i 0+1) } ⟨ρ,p2 rfl⟩ (by simp only; omega)
    (try simp only at c4)
    obtain ⟨ρ3,hρ3⟩:=c2
    obtain ⟨p3,p4⟩:=leaveE_eqv hρ3
    rw [hS1] at p3 p4
    refine ⟨{ S:=(leaveE y.S).2,n:=y.n+1,ent:=y.ent },?_,⟨ρ3,p4 rfl⟩,by simp only; omega⟩
    rw [stepO_run (by omega)]
    show (storeO { x with n:=x.n+1 } _).bind _=_
    rw [storeO_run (by exact p1)]
    show (bodyO _ _ { S:=(enterE x.S q.ps (t.ks.map (·.s))).2,n:=x.n+1,ent:=x.ent.set i (x.ent.getD i 0+1) }).bind _=_
    rw [c1]
    show (stepO F y).bind _=_
    rw [stepO_run (by omega)]
    show storeO { y with n:=y.n+1 } _=_
    rw [storeO_run (by exact p3)]
  ·rename_i h50
   simp only [if_neg h52,if_neg h53,if_neg h54,if_neg h55,if_neg h50]
   obtain ⟨r1,h1,h⟩:=bind_ok h
   obtain ⟨rfl,hn1⟩:=stepO_ok h1
   obtain ⟨e0,rfl⟩:=storeO_ok h
   (try simp only at e0)
   refine ⟨by simp only; omega,fun x hx hxF=>?_⟩
   simp only at hx hxF ⊢
   rw [stepO_run (by omega)]
   obtain ⟨ρ,hρ⟩:=hx
   cases back
   ·simp only [Bool.false_eq_true,if_false] at e0 hρ
    obtain ⟨p1,p2⟩:=undoE_eqv hρ t
    have hu:=doE_undo hr.wf hn.cur ht.own.1 e0
    rw [hu] at p1 p2
    refine ⟨{ S:=(undoE x.S t).2,n:=x.n+1,ent:=x.ent },?_,⟨ρ,p2 rfl⟩,by simp only; omega⟩
    show storeO { x with n:=x.n+1 } (undoE x.S t)=_
    rw [storeO_run p1]
   ·simp only [if_true] at e0 hρ
    obtain ⟨p1,p2⟩:=doE_eqv hρ t
    have hu:=undoE_do hr.wf hn.cur ht.own.1 e0
    rw [hu] at p1 p2
    refine ⟨{ S:=(doE x.S t).2,n:=x.n+1,ent:=x.ent },?_,⟨ρ,p2 rfl⟩,by simp only; omega⟩
    show storeO { x with n:=x.n+1 } (doE x.S t)=_
    rw [storeO_run p1]
theorem runO_rev {prs:List PR} {F:Int} (hF:F<=1000000) (hp:PrB prs) (g:Nat) (back:Bool) (b:T) (hb:∀ u∈b.ks,RvT prs u) (hl:LitB b) (r r':RS) (hr:RInv r) (hn:NdS r.S) (h:runO prs F g back b r=.ok r'):RevR F (runO prs F g (!back) b) r r'/\RInv r'/\NdS r'.S:=by
 unfold runO at h ⊢
 have:=bodyO_rev (gr:=execO prs F g (!back)) (blkL back b) (fun u hu=>execO_rev hF hp g back u (hb u (blkL_mem hu)) (hl.block (blkL_mem hu))) r r' hr hn h
 rw [<-blkL_not] at this
 exact this
mutual
theorem po_len:∀ t:T,(po t).length=size t
 | .nd k n s ks=>by rw [po,size,List.length_cons,pos_len ks]; omega
theorem pos_len:∀ ks:List T,(pos ks).length=sizes ks
 | []=>by simp [pos,sizes]
 | t::ts=>by rw [pos,sizes,List.length_append,po_len t,pos_len ts]
end
def rjP (ps:List PR):Nat:=(ps.map fun r=>rejN (po r.b)).sum
def rjT (p:PG):Nat:=rjP p.prs+rejN (po p.m)
theorem body_ok {t:T} (h:isBodyB t=true):dep t<=1000/\(po t).length<=2000/\∀ x∈po t,RejOK x:=by
 obtain ⟨⟨h1,h2⟩,h3⟩:=(isBodyB_iff t).1 h
 exact ⟨by omega,by rw [po_len]; exact h2,rejOK_po (.inr (.inr h3)) (by omega)⟩
theorem rjP_take {ps:List PR} {j:Nat} (h:j<ps.length):rjP (ps.take (j+1))=rjP (ps.take j)+rejN (po ps[j].b):=by
 unfold rjP
 rw [List.take_succ_eq_append_getElem h,List.map_append,List.sum_append]
 simp
theorem rjP_le {ps:List PR} (h:∀ r∈ps,isBodyB r.b=true):rjP ps<=ps.length*2000:=by
 induction ps with
 | nil=>simp [rjP]
 | cons r rs ih =>
  have h1:=ih fun r hr=>h r (List.mem_cons_of_mem _ hr)
  have h2:=(body_ok (h r List.mem_cons_self)).2.1
  have h3:=rejN_le (po r.b)
  simp only [rjP,List.map_cons,List.sum_cons,List.length_cons] at *
  omega
theorem valid_bodies {p:PG} (h:validB p=true):(∀ r∈p.prs,isBodyB r.b=true)/\isBodyB p.m=true/\p.prs.length<=64:=by
 unfold validB at h
 simp only [Bool.and_eq_true,List.all_eq_true,decide_eq_true_eq] at h
 refine ⟨fun r hr=>?_,h.2,h.1.1.1.2⟩
 have:=h.1.2 r hr
 unfold procB at this
 simp only [Bool.and_eq_true] at this
 exact this.2
theorem Check_yes (p:PG) (v:Value) (w:World) (hv:PV w Any p v) (hval:validB p=true) (hch:chkN p=0):Calls Tryz.prog 46 #[v] w fun e w'=>∃ A c,e=.returned (.slice A (rjT p) c)/\Below w.heap.size w w':=by
 have HV:=zh hv
 obtain ⟨A1,c1,A2,c2,A3,c3,rfl,hr⟩:=hv
 have HR:=zh hr
 have HVAL:=zh (Valid_yes hval (HV.out.later (bl_al (Below.refl _ _) (.cells #[.slice A1 p.vs.length c1,.slice A2 p.prs.length c2,.int .u8 p.m.k,.int .i64 p.m.n,.string p.m.s,.slice A3 p.m.ks.length c3] 28))))
 have HSC:=zh (show ∀ w,PV w Any p (pv A1 p.vs.length c1 A2 p.prs.length c2 p.m.k p.m.n p.m.s A3 p.m.ks.length c3)->Calls Tryz.prog 21 #[pv A1 p.vs.length c1 A2 p.prs.length c2 p.m.k p.m.n p.m.s A3 p.m.ks.length c3] w fun e w'=>∃ A c,e=.returned (.slice A 0 c)/\Below w.heap.size w w' from fun w h=>by
  have:=SCheck_any p Any _ w h
  rwa [if_pos hval,hch] at this)
 have HBD:=zh (valid_bodies hval)
 obtain ⟨L1,hL1⟩:∃ L,p.vs.length=L:=⟨_,rfl⟩
 obtain ⟨k,hk⟩:∃ k,p.m.k=k:=⟨_,rfl⟩
 obtain ⟨n,hn⟩:∃ n,p.m.n=n:=⟨_,rfl⟩
 obtain ⟨s,hs⟩:∃ s,p.m.s=s:=⟨_,rfl⟩
 obtain ⟨l3,hl3⟩:∃ l,p.m.ks.length=l:=⟨_,rfl⟩
 rw [hL1,hk,hn,hs,hl3] at HV HVAL HSC ⊢
 have HM:=zh hr.main
 rw [hk,hn,hs,hl3] at HM
 have hlp:=LV_int hr.lp
 clear hr hL1 hk hn hs hl3 hval hch
 go_enter Tryz.func46,Tryz.ntmps46
 go_wp2_with fail
 refine HVAL.out.mono ?_
 rintro e w1 ⟨rfl,bw1⟩
 have q1:=bl_tt (bl_al (Below.refl w.heap.size w) _) bw1
 have hP:=blk_bl (heap_alloc_new w (.cells #[.slice A1 L1 c1,.slice A2 p.prs.length c2,.int .u8 k,.int .i64 n,.string s,.slice A3 l3 c3] 28)) bw1
 obtain ⟨a0,a1,a2,a3,a4,a5⟩:=box6 hP
 have HP:=zh hP
 clear bw1 hP
 go_wp2_with fail
 refine (HSC.out _ (HV.out.later q1)).mono ?_
 rintro e w2 ⟨B0,d0,rfl,bw2⟩
 have q2:=bl_tt q1 bw2
 have hP:=blk_bl HP.out bw2
 clear a0 a1 a2 a3 a4 a5 HP bw2 q1
 obtain ⟨a0,a1,a2,a3,a4,a5⟩:=box6 hP
 have HP:=zh hP
 have HQ2:=zh q2
 clear hP q2
 go_wp2_with fail
 obtain ⟨i0,hi0,hz0,hz1,hz2⟩:=info_parts rejInfo
 clear a0 a1 a2 a3 a4 a5
 go_loopw [3,18] (fun x i wr=>∃ (j:Nat) (xs:List Value),j<=p.prs.length/\i=.int .i64 j/\wr.ownsRow (w.heap.size+1) 152 4 x (rjP (p.prs.take j)) xs/\(∀ u∈xs,u.oneCell'=true)/\Below w.heap.size w wr/\wr.heap[w.heap.size]?=some (.cells #[.slice A1 L1 c1,.slice A2 p.prs.length c2,.int .u8 k,.int .i64 n,.string s,.slice A3 l3 c3] 28 (0,0))) (fun _ i _=>p.prs.length-(intOf i).toNat)
 case atStart=>exact ⟨0,[],Nat.zero_le _,rfl,by simpa [rjP] using World.ownsRow_nil _ _ _ _,by simp,HQ2.out,HP.out⟩
 case round =>
  obtain ⟨j,xs,hj,rfl,hown,h1c,hbw,hbx⟩:=hrel
  have hxsl:∃ B3 d3,u3=.slice B3 (rjP (p.prs.take j)) d3:=by
   rcases hown.2 with ⟨rfl,h0⟩|⟨g,cap,cur,rfl,_⟩
   ·exact ⟨_,_,by rw [h0]⟩
   ·exact ⟨_,_,rfl⟩
  obtain ⟨B3,d3,rfl⟩:=hxsl
  have HOWN:=zh hown
  have H1C:=zh h1c
  have HBW:=zh hbw
  have HBX:=zh hbx
  have hwr:=blk_lt hbx
  have hrj:rjP (p.prs.take j)<=128000:=by
   have h1:=rjP_le (ps:=p.prs.take j) (fun r hr=>HBD.out.1 r (List.mem_of_mem_take hr))
   have h2:=HBD.out.2.2
   simp at h1
   omega
  clear hown h1c hbx
  by_cases hlt:j<p.prs.length
  ·obtain ⟨a,r,D1,e1,D2,e2,rfl,_,Hr,⟨y0,y1,y2,y3,y4,y5⟩,hpr⟩:=(HR.out.procs.later hbw).nd hlt
   have hbd:=body_ok (HBD.out.1 p.prs[j] (List.getElem_mem hlt))
   rw [Hr.out] at hbd
   have HBO:=zh hbd
   have HPR:=zh hpr.body
   have hrl:rejN (po r.b)<=2000:=Nat.le_trans (rejN_le _) hbd.2.1
   have HTK:=zh (show rjP (p.prs.take (j+1))=rjP (p.prs.take j)+rejN (po r.b) by rw [rjP_take hlt,Hr.out])
   obtain ⟨NN,hNN⟩:∃ NN,rejN (po r.b)=NN:=⟨_,rfl⟩
   rw [hNN] at hrl HTK
   have HNN:=zh hNN
   clear hbd hpr hbw hNN
   go_wp2_with fail
   refine (ccheck_any r.b _ _ _ (HPR.out.later (bl_al (Below.refl _ _) _)) HBO.out.1 (by have:=HBO.out.2.1; omega) HBO.out.2.2).mono ?_
   rintro e w4 ⟨pv4,ys,rfl,hown4,h4c,bw4⟩
   rw [HNN.out] at hown4
   have hb4:=bl_tt (bl_al (Below.refl wr.heap.size wr) _) bw4
   have hs4:=hb4.size
   have hown5:=own_later HOWN.out hb4
   have HB4:=zh hb4
   have HX4:=zh (blk_bl HBX.out hb4)
   clear bw4 hb4 y0 y1 y2 y3 y4 y5
   go_wp2_with (at_builtin; refine wpList_append_rows (P:=Tryz.prog) rfl (.tmp 23) (.tmp 27) 79 rfl (w.heap.size+1) _ 152 i0 _ 4 56 Tryz.underlying79 hi0 hz0 hz1 hz2 rfl (by decide) (.slice B3 (rjP (p.prs.take j)) d3) (rjP (p.prs.take j)) xs rfl hown5 pv4 NN ys rfl hown4 h4c (by unfold maxLen; omega) (by omega) (by omega) ?_; intro v' w' h2 h3 h5)
   refine ⟨⟨j+1,_,by omega,rfl,by rw [HTK.out]; exact h2,fun u hu=>?_,(bl_tt HBW.out HB4.out).grown h3 (by have:=HBW.out.size; omega) (fun g e=>by have:=(hown5.lt g e).1; omega),?_⟩,by simp [intOf]; omega⟩
   ·rw [List.mem_append] at hu
    rcases hu with hu|hu
    ·exact H1C.out u hu
    ·exact h4c u hu
   ·exact (h3.block _ (by omega) (fun e=>by have:=(hown5.lt _ e.symm).1; omega)).trans HX4.out
  ·obtain rfl:j=p.prs.length:=by omega
   have hmb:=body_ok HBD.out.2.1
   have HMB:=zh hmb
   have hrl:rejN (po p.m)<=2000:=Nat.le_trans (rejN_le _) hmb.2.1
   have hTT:rjT p=rjP p.prs+rejN (po p.m):=rfl
   have e3:p.prs.take p.prs.length=p.prs:=List.take_of_length_le (Nat.le_refl _)
   rw [e3] at HOWN hrj ⊢
   clear e3
   obtain ⟨NN,hNN⟩:∃ NN,rejN (po p.m)=NN:=⟨_,rfl⟩
   rw [hNN] at hrl hTT
   have HNN:=zh hNN
   have HTT:=zh hTT
   obtain ⟨a0,a1,a2,a3,a4,a5⟩:=box6 HBX.out
   clear hmb hNN hTT hbw
   go_wp2_with fail
   refine (ccheck_any p.m _ _ _ ((HM.out.later HBW.out).any) HMB.out.1 (by have:=HMB.out.2.1; omega) HMB.out.2.2).mono ?_
   rintro e w4 ⟨pv4,ys,rfl,hown4,h4c,bw4⟩
   rw [HNN.out] at hown4
   have hs4:=bw4.size
   have hown5:=own_later HOWN.out bw4
   have HB4:=zh bw4
   clear bw4 a0 a1 a2 a3 a4 a5
   go_wp2_with (at_builtin; refine wpList_append_rows (P:=Tryz.prog) rfl (.tmp 30) (.tmp 33) 79 rfl (w.heap.size+1) _ 152 i0 _ 4 56 Tryz.underlying79 hi0 hz0 hz1 hz2 rfl (by decide) (.slice B3 (rjP p.prs) d3) (rjP p.prs) xs rfl hown5 pv4 NN ys rfl hown4 h4c (by unfold maxLen; omega) (by omega) (by omega) ?_; intro v' w' h2 h3 h5)
   have hvs:∃ B d,v'=.slice B (rjP p.prs+NN) d:=by
    rcases h2.2 with ⟨rfl,h0⟩|⟨g,cap,cur,rfl,_⟩
    ·exact ⟨_,_,by rw [h0]⟩
    ·exact ⟨_,_,rfl⟩
   obtain ⟨B,d,rfl⟩:=hvs
   have HBF:=zh (show Below w.heap.size w w' from (bl_tt HBW.out HB4.out).grown h3 (by have:=HBW.out.size; omega) (fun g e=>by have:=(hown5.lt g e).1; omega))
   clear h2 h3 h5 hown5 hown4
   go_wp2_with fail
   go_ret
   exact ⟨B,d,by rw [HTT.out]; rfl,HBF.out⟩
def okB (p:PG):Bool:=validB p&&decide (chkN p=0)&&decide (rjT p=0)
theorem OK_any (p:PG) (v:Value) (w:World) (hv:PV w Any p v):Calls Tryz.prog 24 #[v] w fun e w'=>e=.returned (.bool (okB p))/\Below w.heap.size w w':=by
 have HV:=zh hv
 obtain ⟨A1,c1,A2,c2,A3,c3,rfl,hr⟩:=hv
 obtain ⟨b,hb⟩:∃ b,okB p=b:=⟨_,rfl⟩
 obtain ⟨vb,hvb⟩:∃ b,validB p=b:=⟨_,rfl⟩
 obtain ⟨N1,hN1⟩:∃ N,chkN p=N:=⟨_,rfl⟩
 obtain ⟨N2,hN2⟩:∃ N,rjT p=N:=⟨_,rfl⟩
 have hbb:b=(vb&&decide (N1=0)&&decide (N2=0)):=by rw [<-hb,<-hvb,<-hN1,<-hN2]; rfl
 rw [hb]
 have HVA:=zh (show ∀ w,PV w Any p (pv A1 p.vs.length c1 A2 p.prs.length c2 p.m.k p.m.n p.m.s A3 p.m.ks.length c3)->Calls Tryz.prog 20 #[pv A1 p.vs.length c1 A2 p.prs.length c2 p.m.k p.m.n p.m.s A3 p.m.ks.length c3] w fun e w'=>e=.returned (.bool vb)/\Below w.heap.size w w' from fun w h=>hvb▸Valid_any p Any _ w h)
 have HSC:=zh (show vb=true->∀ w,PV w Any p (pv A1 p.vs.length c1 A2 p.prs.length c2 p.m.k p.m.n p.m.s A3 p.m.ks.length c3)->Calls Tryz.prog 21 #[pv A1 p.vs.length c1 A2 p.prs.length c2 p.m.k p.m.n p.m.s A3 p.m.ks.length c3] w fun e w'=>∃ A c,e=.returned (.slice A N1 c)/\Below w.heap.size w w' from fun h0 w h=>by
  have:=SCheck_any p Any _ w h
  rwa [if_pos (hvb.trans h0),hN1] at this)
 have HCK:=zh (show vb=true->N1=0->∀ w,PV w Any p (pv A1 p.vs.length c1 A2 p.prs.length c2 p.m.k p.m.n p.m.s A3 p.m.ks.length c3)->Calls Tryz.prog 46 #[pv A1 p.vs.length c1 A2 p.prs.length c2 p.m.k p.m.n p.m.s A3 p.m.ks.length c3] w fun e w'=>∃ A c,e=.returned (.slice A N2 c)/\Below w.heap.size w w' from fun h0 h1 w h=>hN2▸Check_yes p _ w h (hvb.trans h0) (hN1.trans h1))
 have HBB:=zh hbb
 obtain ⟨L1,hL1⟩:∃ L,p.vs.length=L:=⟨_,rfl⟩
 obtain ⟨L2,hL2⟩:∃ L,p.prs.length=L:=⟨_,rfl⟩
 obtain ⟨k,hk⟩:∃ k,p.m.k=k:=⟨_,rfl⟩
 obtain ⟨n,hn⟩:∃ n,p.m.n=n:=⟨_,rfl⟩
 obtain ⟨s,hs⟩:∃ s,p.m.s=s:=⟨_,rfl⟩
 obtain ⟨l3,hl3⟩:∃ l,p.m.ks.length=l:=⟨_,rfl⟩
 rw [hL1,hL2,hk,hn,hs,hl3] at HV HVA HSC HCK ⊢
 clear hr hL1 hL2 hk hn hs hl3 hb hvb hN1 hN2 hbb
 go_enter Tryz.func24,Tryz.ntmps24
 go_wp2_with fail
 refine (HVA.out _ (HV.out.later (bl_al (Below.refl _ _) _))).mono ?_
 rintro e w1 ⟨rfl,bw1⟩
 have q1:=bl_tt (bl_al (Below.refl w.heap.size w) _) bw1
 have hP:=blk_bl (heap_alloc_new w (.cells #[.slice A1 L1 c1,.slice A2 L2 c2,.int .u8 k,.int .i64 n,.string s,.slice A3 l3 c3] 28)) bw1
 obtain ⟨a0,a1,a2,a3,a4,a5⟩:=box6 hP
 have HP:=zh hP
 clear bw1 hP
 cases vb
 ·have HX:=zh (show b=false by rw [HBB.out]; rfl)
  go_wp2_with fail
  go_ret
  exact ⟨by rw [HX.out]; rfl,q1⟩
 ·have HSC1:=zh (HSC.out rfl)
  have HCK1:=zh (HCK.out rfl)
  clear HSC HCK
  go_wp2_with fail
  refine (HSC1.out _ (HV.out.later q1)).mono ?_
  rintro e w2 ⟨B0,d0,rfl,bw2⟩
  have q2:=bl_tt q1 bw2
  have hP:=blk_bl HP.out bw2
  clear a0 a1 a2 a3 a4 a5 HP bw2 q1
  obtain ⟨a0,a1,a2,a3,a4,a5⟩:=box6 hP
  clear hP
  by_cases hN:N1=0
  ·have HCK2:=zh (HCK1.out hN)
   clear HCK1 HSC1
   subst hN
   go_wp2_with fail
   refine (HCK2.out _ (HV.out.later q2)).mono ?_
   rintro e w3 ⟨B1,d1,rfl,bw3⟩
   have q3:=bl_tt q2 bw3
   clear a0 a1 a2 a3 a4 a5 bw3
   by_cases hM:N2=0
   ·subst hM
    have HX:=zh (show b=true by rw [HBB.out]; rfl)
    go_wp2_with fail
    go_ret
    exact ⟨by rw [HX.out]; rfl,q3⟩
   ·have hM1:((N2:Int)==0)=false:=by simpa using hM
    have HX:=zh (show b=false by rw [HBB.out]; simp [hM])
    clear hM
    go_wp2_with fail
    go_ret
    exact ⟨by rw [HX.out]; rfl,q3⟩
  ·have hM1:((N1:Int)==0)=false:=by simpa using hN
   have HX:=zh (show b=false by rw [HBB.out]; simp [hN])
   clear hN
   go_wp2_with fail
   go_ret
   exact ⟨by rw [HX.out]; rfl,q2⟩
theorem jLen_any (jb:Nat) (w:World) (h:w.cell? ⟨jb,0,none⟩=some (.slice none 0 0)):Calls Tryz.prog 69 #[.pointer (some ⟨jb,0,none⟩)] w fun e w'=>e=.returned (.int .i64 0)/\w'=w:=by
 go_enter Tryz.func69,Tryz.ntmps69
 go_wp2_with fail
 go_ret
 exact ⟨rfl,rfl⟩
theorem fnJLen:IsFn Tryz.prog 69 Tryz.f69:=⟨Tryz.func69,by kernel_rfl,by kernel_rfl⟩
theorem wp_weak {P:Program} {c:Code} {Q Q':Exit->Act->World->Prop} {a:Act} {w:World} (h:c.wp P Q a w) (hQ:∀ e a' w',Q e a' w'->Q' e a' w'):c.wp P Q' a w :=
 fun b k cs=>let ⟨e,a',w',q,r⟩:=h b k cs; ⟨e,a',w',hQ _ _ _ q,r⟩
theorem opaqueQ (C:World->Prop):∃ Q:Exit->Act->World->Prop,(∀ a' w',a'.defers=[]->C w'->Q .normal a' w')/\∀ e a' w',Q e a' w'->e=.normal/\a'.defers=[]/\C w' :=
 ⟨fun e a' w'=>e=.normal/\a'.defers=[]/\C w',fun _ _ h1 h2=>⟨rfl,h1,h2⟩,fun _ _ _ h=>h⟩
theorem tAss (x:Int) (w:World):(Instr.typeAssert (.iface 132 (.agg #[.int .i64 x])) 20 132 true).run Tryz.prog w=.ok (.tuple #[.agg #[.int .i64 x],.bool true]) w:=by kernel_rfl
theorem att_idle (a b c:Value) (w:World) :
  CallsD Tryz.prog 70 #[a,b,c] .returning w fun e u' w'=>e=.returned (.tuple #[])/\u'=.returning/\w'=w:=by
 refine callsD_of_wpS Tryz.func70 rfl fun c₀ cs hu=>?_
 apply wpS_seq
 apply wpS_region
 simp [wpOpsS,go_sem,recoverD,hu,Tryz.ntmps70,Exit.thenS]
 apply wpS_seq
 apply wpS_seq
 apply wpS_region
 simp [wpOpsS,go_sem,Exit.thenS]
 refine wpS_cond (t:=true) (by simp [Act.eval,Array.replicate]) ?_
 simp only [if_true]
 refine wpS_of_wp (wp_ret ?_)
 cases c₀
 simp_all [bodyPostS,results,Tryz.results70,Exit.thenS]
theorem att_panic (a2 a5 a4 jb:Nat) (x y:Int) (w:World) (h2:w.cell? ⟨a2,0,none⟩=some (.pointer (some ⟨jb,0,none⟩))) (h5:w.cell? ⟨a5,0,none⟩=some (.int .i64 0)) (hj:w.cell? ⟨jb,0,none⟩=some (.slice none 0 0)) (h4:w.cell? ⟨a4,0,none⟩=some (.int .i64 y)) (hf:w.frozen? ⟨a4,0,none⟩=false) :
  CallsD Tryz.prog 70 #[.pointer (some ⟨a2,0,none⟩),.pointer (some ⟨a5,0,none⟩),.pointer (some ⟨a4,0,none⟩)] (.panicking [{ v:=.iface 132 (.agg #[.int .i64 x]),recovered:=false }]) w fun e u' w' =>
   e=.returned (.tuple #[])/\u'=.panicking [{ v:=.iface 132 (.agg #[.int .i64 x]),recovered:=true }]/\w'.cell? ⟨a4,0,none⟩=some (.int .i64 x)/\Chg (fun b=>b=a4) w w':=by
 refine callsD_of_wpS Tryz.func70 rfl fun c₀ cs hu=>?_
 apply wpS_seq
 apply wpS_region
 simp [wpOpsS,go_sem,recoverD,hu,Tryz.ntmps70,Exit.thenS]
 apply wpS_seq
 apply wpS_seq
 apply wpS_region
 simp [wpOpsS,go_sem,Exit.thenS]
 refine wpS_cond (t:=false) (by simp [Act.eval,Array.replicate]) ?_
 simp only [Bool.false_eq_true,if_false]
 refine wpS_of_wp (wp_skip ?_)
 refine wpS_of_wp ?_
 obtain ⟨Q,hQ1,hQ2⟩:=opaqueQ (fun w'=>w'.cell? ⟨a4,0,none⟩=some (.int .i64 x)/\Chg (fun b=>b=a4) w w')
 refine wp_weak (Q:=Q) ?_ ?_
 rotate_left 1
 ·intro e a' w' hq
  obtain ⟨rfl,h1,h2⟩:=hQ2 _ _ _ hq
  cases c₀
  simp_all [bodyPostS,results,Tryz.results70,Exit.thenS]
 have HQ:=zh hQ1
 clear hQ1 hQ2 hu
 refine Eq.mp (congrArg (fun t=>Code.wp Tryz.prog _ Q ⟨t,[]⟩ w) (?e:(#[.pointer (some ⟨a2,0,none⟩),.pointer (some ⟨a5,0,none⟩),.pointer (some ⟨a4,0,none⟩),.iface 132 (.agg #[.int .i64 x]),undef,undef,.iface 132 (.agg #[.int .i64 x]),.iface 132 (.agg #[.int .i64 x]),.bool false,undef,undef,undef,undef,undef,undef,undef,undef,undef,undef,undef,undef,undef,undef,undef,undef,undef]:Array Value)=_)) ?_
 case e=>kernel_rfl
 go_upto_region 2 with fail
 have HS:=zh (show ∀ w',Below w.heap.size w w'->(fun w':World=>w'.cell? ⟨a2,0,none⟩=some (.pointer (some ⟨jb,0,none⟩))/\w'.cell? ⟨a5,0,none⟩=some (.int .i64 0)) w' from fun w' hb=>⟨zb hb h2,zb hb h5⟩)
 have HLE:=zh (fun w' (hb:Below w.heap.size w w')=>jLen_any jb w' (zb hb hj))
 have hSS:(fun w':World=>w'.cell? ⟨a2,0,none⟩=some (.pointer (some ⟨jb,0,none⟩))/\w'.cell? ⟨a5,0,none⟩=some (.int .i64 0)) w.drew/\(fun _:World=>True) w.drew:=⟨HS.out _ (Below.refl _ _).drew,trivial⟩
 refine wp_region_noPanic ?_
 refine wp_region_G (fun w':World=>w'.cell? ⟨a2,0,none⟩=some (.pointer (some ⟨jb,0,none⟩))/\w'.cell? ⟨a5,0,none⟩=some (.int .i64 0)) (fun _:World=>True) 3 (by kernel_rfl) ?_
 refine zT 0 hSS ?_
 (try simp only [Act.put,zP])
 refine zT 2 hSS ?_
 (try simp only [Act.put,zP])
 have had:Calls Tryz.prog 69 [.pointer (some ⟨jb,0,none⟩)].toArray w.drew fun e w'=>∃ v,e=.returned v/\(v=.int .i64 0/\w'=w.drew):=(HLE.out _ (Below.refl _ _).drew).mono fun e w' ⟨h1,h2⟩=>⟨_,h1,rfl,h2⟩
 refine wpG_one (i:=1) (by kernel_rfl) rfl (fun K hK=>?_)
 refine step_callL (by rfl) (.func 69) [.tmp 9] _ (by rfl) 69 _ fnJLen (by rfl) _ (by rfl) _ had ?_
 rintro v1 w1 ⟨rfl,rfl⟩
 refine hK.out _ _ hSS ?_
 clear hK K had
 (try simp only [Act.put,zP])
 refine wpG_past (i:=3) (by kernel_rfl) rfl (by kernel_rfl) (fun K hK=>?_)
 (try simp only [zA,zB,zC])
 go_simp
 refine hK.out _ _ hSS.1 ?_
 clear hK K
 (try simp only [Act.put,zP])
 refine wpG_done (by kernel_rfl) ?_
 refine NoPanic.normal ?_
 clear hSS HS HLE
 have ht:=fun w=>tAss x w
 obtain ⟨w1,hw1⟩:∃ w1,w.drew=w1:=⟨_,rfl⟩
 have hb1:Below w.heap.size w w1:=hw1▸(Below.refl _ _).drew
 have g4:=zb hb1 h4
 have gf:w1.frozen? ⟨a4,0,none⟩=false:=hw1▸hf
 have hlt:a4<w1.heap.size:=World.block_lt_of_cell? w1 _ g4
 have z4:=cell_al g4 (.cells #[.int .i64 x] 132)
 have HB1:=zh hb1
 rw [hw1]
 clear h2 h5 hj h4 hf hw1 hb1
 go_wp2_with fail
 have hch:=(Chg.refl (fun b=>b=a4) w1).setCell (p:=⟨a4,0,none⟩) (.inl rfl) (.int .i64 x)
 exact HQ.out _ _ rfl ⟨cell_al (by simp [go_sem,g4]) _,(Chg.of_below HB1.out).trans (hch.alloc _)⟩
def AttP (W:World) (R:World->Prop) (X:Int->World->Prop) (e:Ending) (w':World):Prop :=
 (e=.returned (.int .i64 0)/\∃ w1,R w1/\Chg (fun b=>W.heap.size<=b/\b<W.heap.size+3) w1 w')\/∃ x,e=.returned (.int .i64 x)/\∃ w1,X x w1/\Chg (fun b=>W.heap.size<=b/\b<W.heap.size+3) w1 w'
theorem Attempt_any (jb:Nat) (f:FuncId) (fn:Func) (hf:IsFn Tryz.prog f fn) (caps:Array Value) (W:World) (hj:W.heap[jb]?=some (.cells #[.slice none 0 0,.bool false] 91 (0,0))) (R:World->Prop) (X:Int->World->Prop)
  (hact:∀ W1,Below W.heap.size W W1->W1.heap.size=W.heap.size+3->Calls Tryz.prog f caps W1 fun e w'=>(∀ b,(W.heap.size<=b\/b=jb)->b<W1.heap.size->w'.heap[b]?=W1.heap[b]?)/\(((∃ u,e=.returned u)/\R w')\/∃ x,e=failE x/\X x w')) :
  Calls Tryz.prog 48 #[.pointer (some ⟨jb,0,none⟩),.func (.func f) #[] caps] W (AttP W R X):=by
 have hmf:∀ (fn:Fn) (first cap:Array Value) (w:World),(Instr.makeFunc fn first cap).run Tryz.prog w=.ok (.func fn first cap) w:=fun _ _ _ _=>rfl
 have hnf:∀ w:World,(binOp BinOp.eql 1 (.func (.func f) #[] caps) .nilFunc).run Tryz.prog w=.ok (.bool false) w:=fun _=>by kernel_rfl
 have HJ:=zh hj
 have hjl:=blk_lt hj
 have HA:=zh hact
 have hLE:=fun w' (hb:Below W.heap.size W w')=>jLen_any jb w' (zb hb (zc hj rfl))
 have HLE:=zh hLE
 clear hj hact hLE
 go_enter_defers Tryz.func48,Tryz.ntmps48
 go_wp2_with fail
 refine (HLE.out _ (bl_al (bl_al (Below.refl _ _) _) _)).mono ?_
 rintro e w1 ⟨rfl,rfl⟩
 go_wp2_with fail
 rw [run_callFunc hf,Oper.upon_enter]
 have k0:=blk_al (blk_al (heap_alloc_new W (.cells #[.pointer (some ⟨jb,0,none⟩)] 88)) (.cells #[.int .i64 0] 35)) (.cells #[.int .i64 0] 3)
 have k1:=blk_al (heap_alloc_new (W.alloc (.cells #[.pointer (some ⟨jb,0,none⟩)] 88)) (.cells #[.int .i64 0] 35)) (.cells #[.int .i64 0] 3)
 have k2:=heap_alloc_new ((W.alloc (.cells #[.pointer (some ⟨jb,0,none⟩)] 88)).alloc (.cells #[.int .i64 0] 35)) (.cells #[.int .i64 0] 3)
 have kj:=blk_al (blk_al (blk_al HJ.out (.cells #[.pointer (some ⟨jb,0,none⟩)] 88)) (.cells #[.int .i64 0] 35)) (.cells #[.int .i64 0] 3)
 have hb3:=bl_al (bl_al (bl_al (Below.refl W.heap.size W) (.cells #[.pointer (some ⟨jb,0,none⟩)] 88)) (.cells #[.int .i64 0] 35)) (.cells #[.int .i64 0] 3)
 simp only [World.size_alloc] at k1 k2
 obtain ⟨w3,hw3⟩:∃ x,((W.alloc (.cells #[.pointer (some ⟨jb,0,none⟩)] 88)).alloc (.cells #[.int .i64 0] 35)).alloc (.cells #[.int .i64 0] 3)=x:=⟨_,rfl⟩
 have hz3:w3.heap.size=W.heap.size+3:=by rw [<-hw3]; simp
 rw [hw3] at k0 k1 k2 kj hb3 ⊢
 clear hw3
 refine (HA.out w3 hb3 hz3).mono ?_
 rintro e w2 ⟨hk,h⟩
 have q0:=(hk _ (.inl (Nat.le_refl _)) (by omega)).trans k0
 have q1:=(hk _ (.inl (Nat.le_succ _)) (by omega)).trans k1
 have q2:=(hk _ (.inl (by omega)) (by omega)).trans k2
 have qj:=(hk _ (.inr rfl) (by omega)).trans kj
 clear k0 k1 k2 kj hk hb3
 rcases h with ⟨⟨u,rfl⟩,hR⟩|⟨x,rfl,hX⟩
 ·have c1:w2.cell? ⟨W.heap.size+1,0,none⟩=some (.int .i64 0):=zc q1 rfl
  have f1:∀ o,w2.frozen? ⟨W.heap.size+1,o,none⟩=false:=fun _=>zf q1
  have HRR:=zh hR
  clear q0 q2 qj HLE HA hR
  go_wp2_with fail
  refine leaves_cons (f:=70) (args := #[.pointer (some ⟨W.heap.size,0,none⟩),.pointer (some ⟨W.heap.size+1+1,0,none⟩),.pointer (some ⟨W.heap.size+1,0,none⟩)]) (by simp) (by simp [go_sem]) ?_
  refine (att_idle _ _ _ _).mono ?_
  rintro e u' w'' ⟨rfl,rfl,rfl⟩
  have hch:=(Chg.refl (fun b=>W.heap.size<=b/\b<W.heap.size+3) w2).setCell (p:=⟨W.heap.size+1,0,none⟩) (.inl ⟨Nat.le_succ _,by simp⟩) (.int .i64 0)
  have hc2:(w2.setCell ⟨W.heap.size+1,0,none⟩ (.int .i64 0)).cell? ⟨W.heap.size+1,0,none⟩=some (.int .i64 0):=by simp [go_sem,c1]
  have HP:AttP W R X (.returned (.int .i64 0)) (w2.setCell ⟨W.heap.size+1,0,none⟩ (.int .i64 0)):=.inl ⟨rfl,w2,HRR.out,hch⟩
  simp [Leaves,settle,results,Tryz.results48,go_sem,hc2,HP]
 ·have p0:w2.cell? ⟨W.heap.size,0,none⟩=some (.pointer (some ⟨jb,0,none⟩)):=zc q0 rfl
  have p1:w2.cell? ⟨W.heap.size+1,0,none⟩=some (.int .i64 0):=zc q1 rfl
  have p2:w2.cell? ⟨W.heap.size+1+1,0,none⟩=some (.int .i64 0):=zc q2 rfl
  have pj:w2.cell? ⟨jb,0,none⟩=some (.slice none 0 0):=zc qj rfl
  have f1:w2.frozen? ⟨W.heap.size+1,0,none⟩=false:=zf q1
  refine leaves_cons (f:=70) (args := #[.pointer (some ⟨W.heap.size,0,none⟩),.pointer (some ⟨W.heap.size+1+1,0,none⟩),.pointer (some ⟨W.heap.size+1,0,none⟩)]) (by simp) (by simp [go_sem]) ?_
  refine (att_panic _ _ _ jb x 0 _ p0 p2 pj p1 f1).mono ?_
  rintro e u' w'' ⟨rfl,rfl,hc2,hch⟩
  have HP:AttP W R X (.returned (.int .i64 x)) w'':=.inr ⟨x,rfl,w2,hX,hch.mono fun b _ e=>by omega⟩
  simp [Leaves,settle,results,Tryz.results48,go_sem,hc2,HP]
theorem bII1' (A:Option Addr) (l c:Nat) (w:World):(Instr.buildSlice 29 1 #[(0,.slice A l c)]).run Tryz.prog w=.ok (.slice (some ⟨w.heap.size,0,none⟩) 1 1) (w.alloc (.cells #[.slice A l c] 30)):=by kernel_rfl
theorem bS12 (B C:Option Addr) (m d n e:Nat) (w:World):(Instr.build 32 #[(1,.slice B m d),(2,.slice C n e)]).run Tryz.prog w=.ok (.agg #[.slice none 0 0,.slice B m d,.slice C n e]) w:=by kernel_rfl
section
variable {P:Program} {ops:Array Oper} {Q:Exit->Act->World->Prop} {md:Region.Mode} {S1 S2:World->Prop} {k:Nat}
theorem wpG_invS' (I:Nat->Array Bool->Act->World->Prop) (hS:∀ f l a w,I f l a w->S1 w/\S2 w)
  (h:∀ f l a w,I f l a w->wpG P md ops Q S1 S2 k f l a w\/∃ f',f=f'+1/\Region.ready md ops l≠[]/\∀ i∈Region.ready md ops l,wpOp P ops Q i (fun a' w'=>I f' (l.setIfInBounds i true) a' w') a w) :
  ∀ f l a w,I f l a w->wpG P md ops Q S1 S2 k f l a w
 | 0,l,a,w,hi=>by
  rcases h 0 l a w hi with h1|⟨f',h1,_⟩
  ·exact h1
  ·omega
 | f+1,l,a,w,hi=>by
  rcases h (f+1) l a w hi with h1|⟨f',h1,h2,h3⟩
  ·exact h1
  ·obtain rfl:f=f':=by omega
   exact ⟨fun h0=>absurd h0 h2,fun i hm=>wpOp_mono (fun a' w' h'=>⟨⟨(hS _ _ _ _ h').1,fun _=>(hS _ _ _ _ h').2⟩,wpG_invS' I hS h f _ a' w' h'⟩) (h3 i hm)⟩
theorem wpG_invS {a0:Act} {f0:Nat} {l0:Array Bool} {w0:World} (I:Act->Nat->Array Bool->Act->World->Prop) (hS:∀ A f l a w,I A f l a w->S1 w/\S2 w)
  (h:∀ A,A=a0->∀ f l a w,I A f l a w->wpG P md ops Q S1 S2 k f l a w\/∃ f',f=f'+1/\Region.ready md ops l≠[]/\∀ i∈Region.ready md ops l,wpOp P ops Q i (fun a' w'=>I A f' (l.setIfInBounds i true) a' w') a w)
  (h0:I a0 f0 l0 a0 w0):wpG P md ops Q S1 S2 k f0 l0 a0 w0:=wpG_invS' (I a0) (hS a0) (h a0 rfl) _ _ _ _ h0
end
def rows1 (l0 l3 l4 l7 l9:Bool) (v5 v8 v9 v12:Value) (b3:Nat) (s:SS):Option SI->RowD
 | none=>if l9=true then ⟨boxV b3,32,3,1,[.slice none 0 0,.slice none 0 0,.slice none 0 0]⟩ else nilR
 | some .inp=>if l3=true then ⟨v8,3,1,s.tin.length,flatI s.tin⟩ else if l0=true then ⟨v5,3,1,0,[]⟩ else nilR
 | some .out=>if l7=true then ⟨v12,3,1,s.tout.length,flatI s.tout⟩ else if l4=true then ⟨v9,3,1,0,[]⟩ else nilR
 | some _=>nilR
def rowsC (vc vi vo:Value) (fc:Nat->Value) (b3:Nat) (s:SS) (j:Nat):Option SI->RowD
 | none=>⟨boxV b3,32,3,1,[vc,vi,vo]⟩
 | some .all=>⟨vc,30,1,j,(List.range j).map fc⟩
 | some (.el i)=>if i<j then ⟨fc i,3,1,(s.cells.getD i []).length,flatI (s.cells.getD i [])⟩ else nilR
 | some .inp=>⟨vi,3,1,s.tin.length,flatI s.tin⟩
 | some .out=>⟨vo,3,1,s.tout.length,flatI s.tout⟩
theorem nil_rws (w:World) (n0:Nat) (v5 v8 v9 v12:Value) (b3:Nat) (s:SS):Rws w n0 (rows1 false false false false false v5 v8 v9 v12 b3 s):=by
 have e:∀ i,rows1 false false false false false v5 v8 v9 v12 b3 s i=nilR:=by
  intro i
  rcases i with _|i
  ·rfl
  ·cases i<;>rfl
 refine ⟨fun i=>by rw [e]; exact ownsRow_nilR w n0,fun i j b _ hi _=>?_⟩
 rw [e] at hi
 simp [nilR,Value.ownBlock] at hi
theorem own_box3 (w:World) (n0:Nat) (h:n0<=w.heap.size) (a b c:Value) (E:TypeId):(w.alloc (.cells #[a,b,c] E)).ownsRow n0 E 3 (boxV w.heap.size) 1 [a,b,c] :=
 ⟨rfl,.inr ⟨w.heap.size,1,#[a,b,c],rfl,h,heap_alloc_new w _,Nat.le_refl _,by unfold maxLen; omega,rfl,rfl⟩⟩
theorem rowsC_step (vc vc' vi vo:Value) (fc:Nat->Value) (b3:Nat) (s:SS) (j:Nat) (l:List Int) (v8 r5:Value) (hl:s.cells.getD j []=l) :
  updR (updR (updR (updR (rowsC vc vi vo fc b3 s j) (some (.el j)) ⟨r5,3,1,0,[]⟩) (some (.el j)) ⟨v8,3,1,l.length,flatI l⟩) (some .all) ⟨vc',30,1,j+1,(List.range j).map fc++[v8]⟩) none ⟨boxV b3,32,3,1,[vc',vi,vo]⟩=rowsC vc' vi vo (fun i=>if i=j then v8 else fc i) b3 s (j+1):=by
 funext i
 rcases i with _|i
 ·rfl
 ·cases i with
  | all =>
   simp only [updR,rowsC,reduceCtorEq,if_false,if_true,RowD.mk.injEq,true_and]
   rw [List.range_succ,List.map_append]
   congr 1
   ·refine List.map_congr_left fun i hi=>?_
    have:i≠j:=by have:=List.mem_range.1 hi; omega
    simp [this]
   ·simp
  | inp=>rfl
  | out=>rfl
  | el i =>
   by_cases e:i=j
   ·subst e
    simp [updR,rowsC,<-hl]
   ·have e2:(i<j+1)↔(i<j):=by omega
    simp [updR,rowsC,e,e2]
theorem rowsC_end {W:World} {n0:Nat} {vc vi vo:Value} {fc:Nat->Value} {b3:Nat} {s:SS} (h:Rws W n0 (rowsC vc vi vo fc b3 s s.cells.length)):Rws W n0 (rowsS vc vi vo fc s):=by
 have e:∀ i,rowsS vc vi vo fc s i=rowsC vc vi vo fc b3 s s.cells.length (some i):=fun i=>by cases i<;>rfl
 refine ⟨fun i=>by rw [e]; exact h.row (some i),fun i j b hij hi hj=>?_⟩
 rw [e] at hi hj
 exact h.sep (some i) (some j) b (fun e'=>hij (by injection e')) hi hj
theorem own_of3 {w:World} {n0 b:Nat} {x y z:Value} {E:TypeId} (hn:n0<=b) (h:w.heap[b]?=some (.cells #[x,y,z] E (0,0))):w.ownsRow n0 E 3 (boxV b) 1 [x,y,z] :=
 ⟨rfl,.inr ⟨b,1,#[x,y,z],rfl,hn,h,Nat.le_refl _,by unfold maxLen; omega,rfl,rfl⟩⟩
theorem own_nil (w:World) (n0:Nat) (E:TypeId):w.ownsRow n0 E 1 (.slice none 0 0) 0 []:=⟨rfl,.inl ⟨rfl,rfl⟩⟩
end Go.Proofs.YtgnfpcebmefhoaaGreat
namespace Go.Proofs.YtgnfpcebmefhoaaGreat
open Go Go.RowKit
theorem k_2 (l5 l9:Bool) (v5 v8 v8' v9 v12:Value) (b3:Nat) (s:SS):updR (rows1 false false false l5 l9 v5 v8' v9 v12 b3 s) (some .inp) ⟨v8,3,1,s.tin.length,flatI s.tin⟩=rows1 false true false l5 l9 v5 v8 v9 v12 b3 s:=by
 funext i
 rcases i with _|i
 ·rfl
 ·cases i<;>rfl
theorem k_5 (l2 l9:Bool) (v5 v8 v9 v12 v12':Value) (b3:Nat) (s:SS):updR (rows1 false l2 false false l9 v5 v8 v9 v12' b3 s) (some .out) ⟨v12,3,1,s.tout.length,flatI s.tout⟩=rows1 false l2 false true l9 v5 v8 v9 v12 b3 s:=by
 funext i
 rcases i with _|i
 ·rfl
 ·cases i<;>rfl
theorem k_7 (l2 l5:Bool) (v5 v8 v9 v12:Value) (b3 b3':Nat) (s:SS):updR (rows1 false l2 false l5 false v5 v8 v9 v12 b3' s) none ⟨boxV b3,32,3,1,[.slice none 0 0,.slice none 0 0,.slice none 0 0]⟩=rows1 false l2 false l5 true v5 v8 v9 v12 b3 s:=by
 funext i
 rcases i with _|i
 ·rfl
 ·cases i<;>rfl
theorem k_end (vi vo v5 v9:Value) (fc:Nat->Value) (b3:Nat) (s:SS):updR (updR (rows1 false true false true true v5 vi v9 vo b3 s) none ⟨boxV b3,32,3,1,[.slice none 0 0,vi,vo]⟩) (some .all) ⟨.slice none 0 0,30,1,0,[]⟩=rowsC (.slice none 0 0) vi vo fc b3 s 0:=by
 funext i
 rcases i with _|i
 ·rfl
 ·cases i<;>rfl
theorem k_step (vc vc' vi vo:Value) (fc:Nat->Value) (b3:Nat) (s:SS) (j:Nat) (l:List Int) (v8:Value) (hl:s.cells.getD j []=l) :
  updR (updR (updR (rowsC vc vi vo fc b3 s j) (some (.el j)) ⟨v8,3,1,l.length,flatI l⟩) (some .all) ⟨vc',30,1,j+1,(List.range j).map fc++[v8]⟩) none ⟨boxV b3,32,3,1,[vc',vi,vo]⟩=rowsC vc' vi vo (fun i=>if i=j then v8 else fc i) b3 s (j+1):=by
 rw [<-rowsC_step vc vc' vi vo fc b3 s j l v8 v8 hl]
 congr 2
 funext i
 by_cases e:i=some (.el j)
 ·subst e; simp [updR]
 ·simp [updR,e]
theorem Clone_st (s:SS) (v:Value) (w:World) (hv:SV w Any s v) (hcl:s.cells.length<=1000000):Calls Tryz.prog 19 #[v] w fun e W'=>∃ v',e=.returned v'/\OwnS W' w.heap.size s v'/\Below w.heap.size w W':=by
 have h1:=bS12
 have HV:=zh hv
 obtain ⟨A,c,B,d,D,e,rfl,hr1,hr2,hr3,hc1,hc2,hc3,hl1,hl2,hl3,hl4⟩:=hv
 have hk:=heap_alloc_new w (.cells #[.slice A s.cells.length c,.slice B s.tin.length d,.slice D s.tout.length e] 32)
 have hbw:Below w.heap.size w ((w.alloc (.cells #[.slice A s.cells.length c,.slice B s.tin.length d,.slice D s.tout.length e] 32)).alloc (.cells #[.slice none 0 0,.slice none 0 0,.slice none 0 0] 32)):=bl_al (bl_al (Below.refl _ _) _) _
 have hk2:=blk_al hk (.cells #[.slice none 0 0,.slice none 0 0,.slice none 0 0] 32)
 have hz1:((w.alloc (.cells #[.slice A s.cells.length c,.slice B s.tin.length d,.slice D s.tout.length e] 32)).alloc (.cells #[.slice none 0 0,.slice none 0 0,.slice none 0 0] 32)).heap.size=w.heap.size+1+1:=by simp
 have hk3:=heap_alloc_new (w.alloc (.cells #[.slice A s.cells.length c,.slice B s.tin.length d,.slice D s.tout.length e] 32)) (.cells #[.slice none 0 0,.slice none 0 0,.slice none 0 0] 32)
 rw [World.size_alloc] at hk3
 have HI:=zh (show s.I from ⟨fun l hl=>by
  obtain ⟨i,hi,rfl⟩:=List.mem_iff_getElem.1 hl
  obtain ⟨_,_,_,_,_,_,_,hr⟩:=hr1 i hi
  exact hr.fits,hr2.fits,hr3.fits⟩)
 go_enter Tryz.func19,Tryz.ntmps19
 go_upto_region 1 with fail
 obtain ⟨w1,hw1⟩:∃ x,(w.alloc (.cells #[.slice A s.cells.length c,.slice B s.tin.length d,.slice D s.tout.length e] 32)).alloc (.cells #[.slice none 0 0,.slice none 0 0,.slice none 0 0] 32)=x:=⟨_,rfl⟩
 rw [hw1] at hbw hk2 hk3 hz1 ⊢
 have HB1:=zh hbw
 have HK1:=zh hk2
 have HK3:=zh hk3
 have HR1:=zh (hr1.later hbw)
 have HR2:=zh (hr2.later hbw)
 have HR3:=zh (hr3.later hbw)
 have HL:=zh (show s.Lim from ⟨hl1,hl2,hl3,hl4⟩)
 clear hk hbw hk2 hk3 hw1 hr1 hr2 hr3 hl1 hl2 hl3 hl4 HV
 obtain ⟨z0,z1,z2⟩:=box3o HK1.out
 have hSS:(fun w':World=>w'.cell? ⟨w.heap.size,1,none⟩=some (.slice B s.tin.length d)/\w'.cell? ⟨w.heap.size,2,none⟩=some (.slice D s.tout.length e)) w1.drew/\(fun _:World=>True) w1.drew:=⟨⟨z1,z2⟩,trivial⟩
 refine wp_region_noPanic ?_
 refine wp_region_G (fun w':World=>w'.cell? ⟨w.heap.size,1,none⟩=some (.slice B s.tin.length d)/\w'.cell? ⟨w.heap.size,2,none⟩=some (.slice D s.tout.length e)) (fun _:World=>True) 8 (by kernel_rfl) ?_
 refine zT 0 hSS ?_
 (try simp only [Act.put,zP])
 refine zT 1 hSS ?_
 (try simp only [Act.put,zP])
 refine zT 3 hSS ?_
 (try simp only [Act.put,zP])
 refine zT 4 hSS ?_
 (try simp only [Act.put,zP])
 refine wpG_invS (fun A f l a wr=>∃ (l2 l5 l6 l7:Bool) (v8 v12 v13 v3:Value) (b3:Nat),f=(!l2).toNat+(!l5).toNat+(!l6).toNat+(!l7).toNat+1/\l = #[true,true,l2,true,true,l5,l6,l7,false] /\
  a=(((A.put (some 8) v8).put (some 11) v12).put (some 12) v13).put (some 3) v3/\Hid (Below w1.heap.size w1 wr)/\Hid (Rws wr w1.heap.size (rows1 false l2 false l5 l7 undef v8 undef v12 b3 s))/\Hid ((l5=true->l2=true)/\(l6=true->v13=.agg #[.slice none 0 0,v8,v12]/\l2=true/\l5=true)/\(l7=true->v3=.pointer (some ⟨b3,0,none⟩)))/\Hid (l7=false->v3=undef)) (fun A f l a wr h=>?_) ?_ ⟨false,false,false,false,undef,undef,undef,undef,0,rfl,rfl,(by simp only [Act.put,zD,zE,zF]),zh (Below.refl _ _).drew,zh (nil_rws _ _ _ _ _ _ _ _),zh ⟨fun h=>(by cases h),fun h=>(by cases h),fun h=>(by cases h)⟩,zh (fun _=>rfl)⟩
 ·obtain ⟨_,_,_,_,_,_,_,_,_,_,_,_,hb,_⟩:=h
  exact ⟨⟨zb hb.out z1,zb hb.out z2⟩,trivial⟩
 rintro A' hA f l a wr ⟨l2,l5,l6,l7,v8,v12,v13,v3,b3,hf,rfl,ha,HBL,HRW,HC,HU⟩
 by_cases hall:(l2&&l5&&l6&&l7)=true
 ·left
  simp only [Bool.and_eq_true] at hall
  obtain ⟨⟨⟨rfl,rfl⟩,rfl⟩,rfl⟩:=hall
  obtain ⟨-,h13,h3⟩:=HC.out
  obtain ⟨rfl,-,-⟩:=h13 rfl
  obtain rfl:=h3 rfl
  subst hf ha hA
  have hrow:=HRW.out.row none
  obtain ⟨B8,c8,e8,-,-⟩:=row_slice (HRW.out.row (some .inp))
  change v8=.slice B8 s.tin.length c8 at e8
  obtain ⟨B12,c12,e12,-,-⟩:=row_slice (HRW.out.row (some .out))
  change v12=.slice B12 s.tout.length c12 at e12
  subst e8 e12
  have hbx:=box_row hrow
  have c0:wr.cell? ⟨b3,0,none⟩=some (.slice none 0 0):=zc hbx rfl
  have c1:wr.cell? ⟨b3,1,none⟩=some (.slice none 0 0):=zc hbx rfl
  have c2:wr.cell? ⟨b3,2,none⟩=some (.slice none 0 0):=zc hbx rfl
  have cf:∀ j,wr.frozen? ⟨b3,j,none⟩=false:=fun j=>zf hbx
  refine wpG_past (i:=8) (by kernel_rfl) rfl (by kernel_rfl) (fun K hK=>?_)
  (try simp only [Act.put,zP])
  go_simp
  have hb3:w1.heap.size<=b3/\b3<wr.heap.size:=hrow.lt b3 rfl
  have hch:Chg (fun b=>b=b3) wr (((wr.setCell ⟨b3,0,none⟩ (.slice none 0 0)).setCell ⟨b3,1,none⟩ (.slice B8 s.tin.length c8)).setCell ⟨b3,2,none⟩ (.slice B12 s.tout.length c12)) :=
   (((Chg.refl (fun b=>b=b3) wr).setCell (p:=⟨b3,0,none⟩) (.inl rfl) _).setCell (p:=⟨b3,1,none⟩) (.inl rfl) _).setCell (p:=⟨b3,2,none⟩) (.inl rfl) _
  have hh:=heap_setCell_same _ b3 2 _ _ (.slice B12 s.tout.length c12) (heap_setCell_same _ b3 1 _ _ (.slice B8 s.tin.length c8) (heap_setCell_same wr b3 0 _ _ (.slice none 0 0) hbx))
  have HBX:=zh (HBL.out.trans (hch.below HBL.out.size fun b e=>by omega))
  have hrw:=(HRW.out.upd none (r:=⟨boxV b3,32,3,1,[.slice none 0 0,.slice B8 s.tin.length c8,.slice B12 s.tout.length c12]⟩) (hch.mono fun b _ e=>by subst e; rfl) (own_of3 hb3.1 hh) (fun b hb=>.inl hb)).upd (some .all) (r:=⟨.slice none 0 0,30,1,0,[]⟩) (Chg.refl _ _) (own_nil _ _ _) (fun b hb=>by simp [Value.ownBlock] at hb)
  rw [k_end (fc:=fun _=>.slice none 0 0)] at hrw
  have HRC:=zh hrw
  obtain ⟨w2,hw2⟩:∃ x,((wr.setCell ⟨b3,0,none⟩ (.slice none 0 0)).setCell ⟨b3,1,none⟩ (.slice B8 s.tin.length c8)).setCell ⟨b3,2,none⟩ (.slice B12 s.tout.length c12)=x:=⟨_,rfl⟩
  rw [hw2] at HBX HRC ⊢
  have hSS2:(fun w':World=>w'.cell? ⟨w.heap.size,1,none⟩=some (.slice B s.tin.length d)/\w'.cell? ⟨w.heap.size,2,none⟩=some (.slice D s.tout.length e)) w2:=⟨zb HBX.out z1,zb HBX.out z2⟩
  refine hK.out _ _ hSS2 ?_
  clear hK K hSS hSS2 hch hh hrw hw2 hbx c0 c1 c2 cf hrow HRW HBL HU HC h13 h3 h1
  refine wpG_done (by kernel_rfl) ?_
  refine NoPanic.normal ?_
  obtain ⟨vi,hvi⟩:∃ x,Value.slice B8 s.tin.length c8=x:=⟨_,rfl⟩
  obtain ⟨vo,hvo⟩:∃ x,Value.slice B12 s.tout.length c12=x:=⟨_,rfl⟩
  rw [hvi,hvo] at HRC
  have HVI:=zh hvi
  have HVO:=zh hvo
  clear hvi hvo
  have q0:=zb HBX.out z0
  go_wp2_with fail
  clear q0
  go_loopw [16] (fun i wr=>∃ j:Nat,j<=s.cells.length/\i=.int .i64 j/\Hid (Below w1.heap.size w1 wr)/\∃ vc fc,Hid (Rws wr w1.heap.size (rowsC vc vi vo fc b3 s j))) (fun i _=>s.cells.length-(intOf i).toNat)
  case atStart=>exact ⟨0,Nat.zero_le _,rfl,HBX,_,_,HRC⟩
  case round =>
   clear HBX HRC
   obtain ⟨j,hj,rfl,HBL,vc,fc,HRW⟩:=hrel
   have y0:=zb HBL.out z0
   by_cases hlt:j<s.cells.length
   ·have hj1:(j:Int)<(s.cells.length:Int):=by omega
    have hj0:(0:Int)<=(j:Int):=by omega
    obtain ⟨a,l,Al,cl,rfl,Hl,hcl0,hlc,hrl⟩:=(HR1.out.later HBL.out).nd hlt
    have HRL:=zh hrl
    have HLL:=zh (show l.length<=LI by rw [<-Hl.out]; exact HL.out.2.1 _ (List.getElem_mem hlt))
    have hbx:=box_row (HRW.out.row none)
    have x0:wr.cell? ⟨b3,0,none⟩=some vc:=zc hbx rfl
    have hz0:wr.frozen? ⟨b3,0,none⟩=false:=zf hbx
    obtain ⟨Av,cv,hvc,-⟩:=row_slice (HRW.out.row (some .all))
    change vc=.slice Av j cv at hvc
    subst hvc
    have hS0:(fun _:World=>True) wr.drew/\(fun w':World=>w'.cell? ⟨b3,0,none⟩=some (.slice Av j cv)) wr.drew:=⟨trivial,x0⟩
    obtain ⟨i0,hi0,hq0,hq1,hq2⟩:=info_parts sIInfo
    have HCL:=zh (CloneI_own l Al cl Any wr.drew (HRL.out.later (Below.refl _ _).drew) HLL.out)
    go_upto_region 5 with fail
    refine wp_region_noPanic ?_
    refine wp_region_G (fun _:World=>True) (fun w':World=>w'.cell? ⟨b3,0,none⟩=some (.slice Av j cv)) 7 (by kernel_rfl) ?_
    refine zT 0 hS0 ?_
    (try simp only [Act.put,zP])
    refine wpG_take2 (i:=1) (v:=?_) rfl (by kernel_rfl) (by kernel_rfl) (by kernel_rfl) (by decide) rfl (by kernel_rfl) (by kernel_rfl) (fun _ _ _ h=>h) (Or.inl ⟨by rfl,?_⟩) hS0 ?_
    rotate_left 1
    ·(intro w hSw; (try dsimp only at hSw); (try simp only [zA,zB,zC]); go_simp; (try with_reducible rfl))
    (try simp only [Act.put,zP])
    refine zT 2 hS0 ?_
    (try simp only [Act.put,zP])
    have hsz:=HBL.out.size
    have had:Calls Tryz.prog 34 [.slice Al l.length cl].toArray wr.drew fun e w'=>∃ v,e=.returned v/\(w'.ownsRow wr.heap.size 3 1 v l.length (flatI l)/\Below wr.heap.size wr w') :=
     HCL.out.mono fun e w' ⟨v,h1,h2,_,h4⟩=>⟨v,h1,h2,bl_tt (Below.refl wr.heap.size wr).drew h4⟩
    refine wpG_one (i:=3) (by kernel_rfl) rfl (fun K hK=>?_)
    refine step_callL (by rfl) (.func 34) [.tmp 22] _ (by rfl) 34 _ fnCloneI (by rfl) _ (by rfl) _ had ?_
    rintro v8 wb ⟨ho,hbb⟩
    have hd1:=HRW.out.upd (some (.el j)) (r:=⟨v8,3,1,l.length,flatI l⟩) (Chg.of_below hbb) (own_mono ho hsz) (fun b hb=>.inr (ho.lt b hb).1)
    have HD1:=zh hd1
    have HBB:=zh hbb
    have hS2:(fun _:World=>True) wb/\(fun w':World=>w'.cell? ⟨b3,0,none⟩=some (.slice Av j cv)) wb:=⟨trivial,zb HBB.out x0⟩
    obtain ⟨A8,c8',rfl,-⟩:=row_slice ho
    refine hK.out _ _ hS2 ?_
    clear hK K hd1 ho hS0 hbb had
    (try simp only [Act.put,zP])
    have h1:=bII1'
    refine wpG_one (i:=4) (by kernel_rfl) rfl (fun K hK=>?_)
    (try simp only [zA,zB,zC])
    go_simp
    have HBC:=zh (show Below wr.heap.size wr (wb.alloc (.cells #[.slice A8 l.length c8'] 30)) from bl_al HBB.out _)
    have HD2:=zh (HD1.out.later (show Below wb.heap.size wb (wb.alloc (.cells #[.slice A8 l.length c8'] 30)) from bl_al (Below.refl _ _) _))
    have HN2:=zh (show (wb.alloc (.cells #[.slice A8 l.length c8'] 30)).heap[wb.heap.size]?=some (.cells #[.slice A8 l.length c8'] 30 (0,0)) from heap_alloc_new wb _)
    have hS3:(fun _:World=>True) (wb.alloc (.cells #[.slice A8 l.length c8'] 30))/\(fun w':World=>w'.cell? ⟨b3,0,none⟩=some (.slice Av j cv)) (wb.alloc (.cells #[.slice A8 l.length c8'] 30)):=⟨trivial,zb HBC.out x0⟩
    obtain ⟨wc,hwc⟩:∃ x,(wb.alloc (.cells #[.slice A8 l.length c8'] 30))=x:=⟨_,rfl⟩
    rw [hwc] at HBC HD2 HN2 hS3 ⊢
    refine hK.out _ _ hS3 ?_
    clear hK K hwc hS2 HD1
    (try simp only [Act.put,zP])
    have hszC:=(bl_tt HBL.out HBC.out).size
    have hrow:=HD2.out.row (some .all)
    rw [updR_other (by simp)] at hrow
    change wc.ownsRow w1.heap.size 30 1 (.slice Av j cv) j ((List.range j).map fc) at hrow
    refine wpG_one (i:=5) (by kernel_rfl) rfl (fun K hK=>?_)
    refine step_append_own (by rfl) (.tmp 21) (.tmp 24) 29 (by rfl) w1.heap.size 30 i0 _ 1 24 Tryz.underlying29 hi0 hq0 hq1 hq2 rfl (by decide) (.slice Av j cv) j ((List.range j).map fc) (by rfl) hrow ⟨wb.heap.size,0,none⟩ 1 1 [.slice A8 l.length c8'] (by rfl) rfl (fun q u hq=>by
     match q,hq with
     | 0,hq=>injection hq with hq; subst hq; exact zc HN2.out rfl) (fun u hu=>by simp at hu; subst hu; rfl) (by unfold maxLen; omega) (by omega) hszC (fun vd wd ho hg hob=>?_)
    have hd3:=HD2.out.upd (some .all) (r:=⟨vd,30,1,j+1,(List.range j).map fc++[.slice A8 l.length c8']⟩) ((Chg.row hg).mono fun b _ hb=>hb) ho (fun b hb=>by
     rcases hob with h5|h5
     ·exact .inl (h5▸hb)
     ·exact .inr (by rw [h5] at hb; injection hb with hb; omega))
    have HD3:=zh hd3
    have hav:∀ g,(Value.slice Av j cv).ownBlock=some g->(rowsC (.slice Av j cv) vi vo fc b3 s j (some .all)).v.ownBlock=some g:=fun g e=>e
    have hsep:∀ g,(Value.slice Av j cv).ownBlock=some g->g≠b3:=fun g e h=>HRW.out.sep (some .all) none g (by simp) e (by rw [h]; rfl)
    have hlo:∀ g,(Value.slice Av j cv).ownBlock=some g->w1.heap.size<=g:=fun g e=>(HRW.out.lt (some .all) g e).1
    have hchg:Chg (fun b=>(Value.slice Av j cv).ownBlock=some b) wc wd:=Chg.row hg
    have HBD:=zh (show Below w1.heap.size w1 wd from (bl_tt HBL.out HBC.out).grown hg hszC (fun g e=>hlo g e))
    have hbx3:=box_row (HD3.out.row none)
    have e0:wd.cell? ⟨b3,0,none⟩=some (.slice Av j cv):=zc hbx3 rfl
    have ez:wd.frozen? ⟨b3,0,none⟩=false:=zf hbx3
    have hab:a.block<w1.heap.size:=by
     obtain ⟨a',_,_,e',_,hc',_⟩:=HR1.out j hlt
     injection e' with e'
     subst e'
     have:=World.block_lt_of_cell? w1 _ hc'
     rwa [block_add] at this
    have hS4:(fun _:World=>True) wd/\(fun w':World=>w'.cell? ⟨b3,0,none⟩=some (.slice Av j cv)) wd:=⟨trivial,e0⟩
    have hd4:=HD3.out.set none (g:=b3) (o:=0) (by rfl) (by show 0<3; decide) vd
    have hd5:Rws (wd.setCell ⟨b3,0,none⟩ vd) w1.heap.size (rowsC vd vi vo (fun i=>if i=j then .slice A8 l.length c8' else fc i) b3 s (j+1)):=by
     rw [<-k_step (.slice Av j cv) vd vi vo fc b3 s j l (.slice A8 l.length c8') (by rw [List.getD_eq_getElem?_getD,List.getElem?_eq_getElem hlt]; exact Hl.out)]
     exact hd4
    have HD5:=zh hd5
    have hb3lt:=(HD3.out.lt none b3 rfl)
    have HBE:=zh (show Below w1.heap.size w1 (wd.setCell ⟨b3,0,none⟩ vd) from HBD.out.trans ((((Chg.refl (fun b=>b=b3) wd).setCell (p:=⟨b3,0,none⟩) (.inl rfl) vd)).below HBD.out.size fun b e=>by omega))
    obtain ⟨Ad,cd',rfl,-⟩:=row_slice ho
    refine hK.out _ _ hS4 ?_
    clear hK K hd3 hd4 hd5 ho hg hob hrow hS3 hchg hav hsep hlo hbx3
    (try simp only [Act.put,zP])
    refine wpG_one (i:=6) (by kernel_rfl) rfl (fun K hK=>?_)
    (try simp only [zA,zB,zC])
    go_simp
    refine hK.out _ _ hS4 ?_
    clear hK K
    (try simp only [Act.put,zP])
    refine wpG_past (i:=7) (by kernel_rfl) rfl (by kernel_rfl) (fun K hK=>?_)
    (try simp only [zA,zB,zC])
    go_simp
    refine hK.out _ _ trivial ?_
    clear hK K
    (try simp only [Act.put,zP])
    refine wpG_done (by kernel_rfl) ?_
    refine NoPanic.normal ?_
    go_wp2_with fail
    go_roundw
    case rel=>exact ⟨j+1,by omega,by go_num,HBE,_,_,HD5⟩
    case measure=>simp [intOf]; omega
   ·obtain rfl:j=s.cells.length:=by omega
    have hj1:¬ (s.cells.length:Int)<(s.cells.length:Int):=by omega
    have hbx:=box_row (HRW.out.row none)
    have x0:wr.cell? ⟨b3,0,none⟩=some vc:=zc hbx rfl
    have x1:wr.cell? ⟨b3,1,none⟩=some vi:=zc hbx rfl
    have x2:wr.cell? ⟨b3,2,none⟩=some vo:=zc hbx rfl
    obtain ⟨Av,cv,hvc,-⟩:=row_slice (HRW.out.row (some .all))
    change vc=.slice Av s.cells.length cv at hvc
    subst hvc
    rw [<-HVI.out] at x1
    rw [<-HVO.out] at x2
    have hk3:=blk_bl HK3.out HBL.out
    have q0:wr.cell? ⟨w.heap.size+1,0,none⟩=some (.slice none 0 0):=zc hk3 rfl
    have q1:wr.cell? ⟨w.heap.size+1,1,none⟩=some (.slice none 0 0):=zc hk3 rfl
    have q2:wr.cell? ⟨w.heap.size+1,2,none⟩=some (.slice none 0 0):=zc hk3 rfl
    have cf:∀ j,wr.frozen? ⟨w.heap.size+1,j,none⟩=false:=fun j=>zf hk3
    have HRE:=zh (rowsC_end HRW.out)
    have HK3E:=zh hk3
    clear hbx hk3 HRW
    go_wp2_with fail
    have hch:Chg (fun b=>b=w.heap.size+1) wr (((wr.setCell ⟨w.heap.size+1,0,none⟩ (.slice Av s.cells.length cv)).setCell ⟨w.heap.size+1,1,none⟩ (.slice B8 s.tin.length c8)).setCell ⟨w.heap.size+1,2,none⟩ (.slice B12 s.tout.length c12)) :=
     (((Chg.refl (fun b=>b=w.heap.size+1) wr).setCell (p:=⟨w.heap.size+1,0,none⟩) (.inl rfl) _).setCell (p:=⟨w.heap.size+1,1,none⟩) (.inl rfl) _).setCell (p:=⟨w.heap.size+1,2,none⟩) (.inl rfl) _
    have hh:=heap_setCell_same _ (w.heap.size+1) 2 _ _ (.slice B12 s.tout.length c12) (heap_setCell_same _ (w.heap.size+1) 1 _ _ (.slice B8 s.tin.length c8) (heap_setCell_same wr (w.heap.size+1) 0 _ _ (.slice Av s.cells.length cv) HK3E.out))
    obtain ⟨w9,hw9⟩:∃ x,((wr.setCell ⟨w.heap.size+1,0,none⟩ (.slice Av s.cells.length cv)).setCell ⟨w.heap.size+1,1,none⟩ (.slice B8 s.tin.length c8)).setCell ⟨w.heap.size+1,2,none⟩ (.slice B12 s.tout.length c12)=x:=⟨_,rfl⟩
    rw [hw9] at hch hh ⊢
    have t0:w9.cell? ⟨w.heap.size+1,0,none⟩=some (.slice Av s.cells.length cv):=zc hh (by simp)
    have t1:w9.cell? ⟨w.heap.size+1,1,none⟩=some (.slice B8 s.tin.length c8):=zc hh (by simp)
    have t2:w9.cell? ⟨w.heap.size+1,2,none⟩=some (.slice B12 s.tout.length c12):=zc hh (by simp)
    refine bodyPost_ret (v:=.agg #[.slice Av s.cells.length cv,.slice B8 s.tin.length c8,.slice B12 s.tout.length c12]) (by simp [results,Tryz.results19,go_sem,t0,t1,t2]) rfl ⟨_,rfl,?_,(bl_tt HB1.out HBL.out).trans (hch.below (bl_tt HB1.out HBL.out).size fun b e=>by omega)⟩
    have hrw:=HRE.out.chg hch (fun i b hb e=>by have:=(HRE.out.lt i b hb).1; omega)
    rw [<-HVI.out,<-HVO.out] at hrw
    exact ⟨_,_,_,_,rfl,hrw.mono (by omega),HI.out⟩
 ·right
  have HC0:=HC.out
  have hcc:(l5=true->l2=true)/\(l6=true->l2=true/\l5=true):=⟨HC0.1,fun h=>(HC0.2.1 h).2⟩
  refine ⟨f-1,?_,?_,?_⟩
  ·clear HC HC0 HRW HU ha HBL hcc
   subst hf
   revert hall
   revert l2 l5 l6 l7
   decide
  ·clear HC HC0 HRW HU ha HBL hf
   revert hall hcc
   revert l2 l5 l6 l7
   decide +kernel
  intro i hi
  have hcase:(i=2/\l2=false)\/(i=5/\l5=false/\l2=true)\/(i=6/\l6=false/\l2=true/\l5=true)\/(i=7/\l7=false):=by
   refine of_decide_eq_true ((List.all_eq_true (p:=fun i=>decide ((i=2/\l2=false)\/(i=5/\l5=false/\l2=true)\/(i=6/\l6=false/\l2=true/\l5=true)\/(i=7/\l7=false)))).1 ?_ i hi)
   clear HC HC0 HRW HU ha HBL hf hi
   revert hall hcc
   revert l2 l5 l6 l7
   decide +kernel
  clear hi hall
  subst ha hA
  rcases hcase with ⟨rfl,rfl⟩|⟨rfl,rfl,rfl⟩|⟨rfl,rfl,rfl,rfl⟩|⟨rfl,rfl⟩
  ·refine wpOp_step rfl (fun K' hK0=>?_)
   have hK:=zh hK0
   clear hK0
   have hsz:=HBL.out.size
   have had:Calls Tryz.prog 34 [.slice B s.tin.length d].toArray wr fun e w'=>∃ v,e=.returned v/\(w'.ownsRow wr.heap.size 3 1 v s.tin.length (flatI s.tin)/\Below wr.heap.size wr w') :=
    (CloneI_own s.tin B d Any wr (HR2.out.later HBL.out) HL.out.2.2.1).mono fun e w' ⟨v,h1,h2,_,h4⟩=>⟨v,h1,h2,h4⟩
   refine step_callL (by rfl) (.func 34) [.tmp 7] _ (by rfl) 34 _ fnCloneI (by rfl) _ (by rfl) _ had ?_
   rintro v' w' ⟨ho,hb⟩
   obtain rfl:l6=false:=by
    rcases l6 with _|_
    ·rfl
    ·exact absurd (hcc.2 rfl).1 (by decide)
   obtain rfl:l5=false:=by
    rcases l5 with _|_
    ·rfl
    ·exact absurd (hcc.1 rfl) (by decide)
   have hrw:=HRW.out.upd (some .inp) (r:=⟨v',3,1,s.tin.length,flatI s.tin⟩) (Chg.of_below hb) (own_mono ho hsz) (fun b hb=>.inr (ho.lt b hb).1)
   rw [k_2] at hrw
   exact hK.out _ _ ⟨true,false,false,l7,_,v12,v13,v3,b3,(by subst hf; simp<;>omega),rfl,(by simp only [Act.put,zP]),zh (bl_tt HBL.out hb),zh hrw,zh ⟨fun h=>(by cases h),fun h=>(by cases h),HC0.2.2⟩,HU⟩
  ·refine wpOp_step rfl (fun K' hK0=>?_)
   have hK:=zh hK0
   clear hK0
   have hsz:=HBL.out.size
   have had:Calls Tryz.prog 34 [.slice D s.tout.length e].toArray wr fun e w'=>∃ v,e=.returned v/\(w'.ownsRow wr.heap.size 3 1 v s.tout.length (flatI s.tout)/\Below wr.heap.size wr w') :=
    (CloneI_own s.tout D e Any wr (HR3.out.later HBL.out) HL.out.2.2.2).mono fun e w' ⟨v,h1,h2,_,h4⟩=>⟨v,h1,h2,h4⟩
   refine step_callL (by rfl) (.func 34) [.tmp 10] _ (by rfl) 34 _ fnCloneI (by rfl) _ (by rfl) _ had ?_
   rintro v' w' ⟨ho,hb⟩
   obtain rfl:l6=false:=by
    rcases l6 with _|_
    ·rfl
    ·exact absurd (hcc.2 rfl).2 (by decide)
   have hrw:=HRW.out.upd (some .out) (r:=⟨v',3,1,s.tout.length,flatI s.tout⟩) (Chg.of_below hb) (own_mono ho hsz) (fun b hb=>.inr (ho.lt b hb).1)
   rw [k_5] at hrw
   exact hK.out _ _ ⟨true,true,false,l7,v8,_,v13,v3,b3,(by subst hf; simp<;>omega),rfl,(by simp only [Act.put,zP]),zh (bl_tt HBL.out hb),zh hrw,zh ⟨fun _=>rfl,fun h=>(by cases h),HC0.2.2⟩,HU⟩
  ·refine wpOp_step rfl (fun K' hK0=>?_)
   have hK:=zh hK0
   clear hK0
   obtain ⟨B8,c8,e8,-,-⟩:=row_slice (HRW.out.row (some .inp))
   change v8=.slice B8 s.tin.length c8 at e8
   obtain ⟨B12,c12,e12,-,-⟩:=row_slice (HRW.out.row (some .out))
   change v12=.slice B12 s.tout.length c12 at e12
   subst e8 e12
   (try simp only [Act.put,zP])
   go_simp
   exact hK.out _ _ ⟨true,true,true,l7,_,_,_,v3,b3,(by subst hf; simp<;>omega),rfl,(by simp only [Act.put,zD,zE,zF]),HBL,HRW,zh ⟨fun _=>rfl,fun _=>⟨rfl,rfl,rfl⟩,HC0.2.2⟩,HU⟩
  ·refine wpOp_step rfl (fun K' hK0=>?_)
   have hK:=zh hK0
   clear hK0
   obtain rfl:=HU.out rfl
   (try simp only [Act.put,zP])
   go_simp
   have hsz:=HBL.out.size
   have hrw:=HRW.out.upd none (r:=⟨boxV wr.heap.size,32,3,1,[.slice none 0 0,.slice none 0 0,.slice none 0 0]⟩) (W':=wr.alloc (.cells #[.slice none 0 0,.slice none 0 0,.slice none 0 0] 32)) (Chg.of_below (bl_al (Below.refl _ _) _)) (own_box3 wr _ hsz _ _ _ _) (fun b hb=>.inr (by simp [Value.ownBlock] at hb; omega))
   rw [k_7] at hrw
   exact hK.out _ _ ⟨l2,l5,l6,true,v8,v12,v13,_,wr.heap.size,(by subst hf; simp<;>omega),rfl,(by simp only [Act.put,zD,zE,zF]),zh (bl_al HBL.out _),zh hrw,zh ⟨HC0.1,HC0.2.1,fun _=>rfl⟩,zh (fun h=>(by cases h))⟩
def Nz (o:Out):Prop:=o ≠ .err 0
theorem Nz.bind {o:Out} {f:RS->Out} (h:Nz o) (hf:∀ r,Nz (f r)):Nz (o.bind f):=by
 cases o with
 | gas=>exact fun e=>by cases e
 | err x=>exact h
 | ok r=>exact hf r
theorem Nz.ok (r:RS):Nz (.ok r):=fun e=>by cases e
theorem Nz.gas:Nz .gas:=fun e=>by cases e
theorem Nz.step (F:Int) (r:RS):Nz (stepO F r):=by
 unfold stepO
 split
 ·intro e; injection e with e; omega
 ·exact Nz.ok _
theorem Nz.store (r:RS) (R:Int×ST):Nz (storeO r R):=by
 unfold storeO
 split
 ·rename_i h; intro e; injection e with e; exact h e
 ·exact Nz.ok _
theorem Nz.val {t:T} {r:RS} {f:Int->RS->Out} (hf:∀ x,Nz (f x r)):Nz (valO t r f):=by
 unfold valO
 split
 ·rename_i h; intro e; injection e with e; exact h e
 ·exact hf _
theorem Nz.holds {F:Int} {t:T} {r:RS} {f:Bool->RS->Out} (hf:∀ b r,Nz (f b r)):Nz (holdsO F t r f):=(Nz.step F r).bind fun r=>Nz.val fun x=>hf _ _
theorem Nz.assert (F:Int) (t:T) (b:Bool) (r:RS):Nz (assertO F t b r):=Nz.holds fun b' r=>by
 split
 ·exact Nz.ok _
 ·intro e; injection e with e; omega
theorem Nz.body {f:T->RS->Out}:∀ (l:List T) (r:RS),(∀ t∈l,∀ r,Nz (f t r))->Nz (bodyO f l r)
 | [],r,_=>Nz.ok r
 | t::ts,r,h=>(h t (List.mem_cons_self ..) r).bind fun r=>Nz.body ts r fun u hu=>h u (List.mem_cons_of_mem _ hu)
theorem Nz.loop {F:Int} {f:T->RS->Out} {entry test:T} {l1 l2:List T} (h1:∀ t∈l1,∀ r,Nz (f t r)) (h2:∀ t∈l2,∀ r,Nz (f t r)):∀ (m:Nat) (r:RS),Nz (loopO F f entry test l1 l2 m r)
 | 0,_=>Nz.gas
 | m+1,r=>by
  rw [loopO]
  refine (Nz.body l1 r h1).bind fun r=>Nz.holds fun b r=>?_
  split
  ·exact Nz.ok _
  ·exact (Nz.body l2 r h2).bind fun r=>(Nz.assert F entry false r).bind fun r=>Nz.loop h1 h2 m r
theorem execO_nz {G:List PR->T->Prop} (hG:GC G) {prs:List PR} {F:Int}:∀ (g:Nat) (back:Bool) (t:T) (r:RS),G prs t->Nz (execO prs F g back t r)
 | 0,_,_,_,_=>Nz.gas
 | g+1,back,t,r,h=>by
  have hb:∀ back (b:T) r,(∀ u∈b.ks,G prs u)->Nz (bodyO (execO prs F g back) (blkL back b) r):=fun back b r hu=>Nz.body _ r fun u hm r=>execO_nz hG g back u r (hu u (blkL_mem hm))
  rw [execO]
  split
  ·rename_i hk
   obtain ⟨-,h1,h2⟩:=hG.two _ _ h (.inl hk)
   refine Nz.holds fun yes r=>Nz.bind ?_ fun r=>Nz.assert _ _ _ _
   split
   ·exact hb _ _ _ h1
   ·exact hb _ _ _ h2
  ·split
   ·rename_i hk
    obtain ⟨-,h1,h2⟩:=hG.two _ _ h (.inr hk)
    exact (Nz.assert _ _ _ _).bind fun r=>Nz.loop (fun u hm r=>execO_nz hG g back u r (h1 u (blkL_mem hm))) (fun u hm r=>execO_nz hG g back u r (h2 u (blkL_mem hm))) g r
   ·split
    ·rename_i hk
     obtain ⟨-,h1⟩:=hG.loc _ _ h hk
     exact (Nz.step _ _).bind fun r=>Nz.val fun x=>(Nz.store _ _).bind fun r=>(hb _ _ _ h1).bind fun r=>(Nz.step _ _).bind fun r=>Nz.val fun x=>Nz.store _ _
    ·split
     ·rename_i hk
      obtain ⟨-,h1⟩:=hG.stk _ _ h hk
      exact (Nz.step _ _).bind fun r=>(Nz.store _ _).bind fun r=>(hb _ _ _ h1).bind fun r=>(Nz.step _ _).bind fun r=>Nz.store _ _
     ·split
      ·rename_i hk
       obtain ⟨i,q,hi,hq,h1⟩:=hG.cal _ _ h hk
       rw [hi]
       dsimp only
       rw [getD_some hq]
       exact (Nz.step _ _).bind fun r=>(Nz.store _ _).bind fun r=>(hb _ _ _ h1).bind fun r=>(Nz.step _ _).bind fun r=>Nz.store _ _
      ·exact (Nz.step _ _).bind fun r=>Nz.store _ _
theorem runO_nz {G:List PR->T->Prop} (hG:GC G) {prs:List PR} {F:Int} {g:Nat} {back:Bool} {b:T} {r:RS} (h:∀ u∈b.ks,G prs u):Nz (runO prs F g back b r):=Nz.body _ r fun u hm r=>execO_nz hG g back u r (h u (blkL_mem hm))
theorem RI.chgK {C:RC} {lo hi:Nat} {W W':World} {r:RS} (hC:(C.plus lo hi).Ok) (h:RI (C.plus lo hi) W r) (hc:Chg (fun b=>lo<=b/\b<hi) W W') (hlo:C.w.heap.size<=lo):RI (C.plus lo hi) W' r:=by
 have hkb:∀ b,lo<=b/\b<hi->(C.plus lo hi).kb b:=fun b hb=>.inr hb
 refine ⟨h.ks.chg hc fun b _ hb=>⟨Nat.le_trans hlo hb.1,.inr (.inl (hkb b hb))⟩,hc.keep h.box fun hb=>hC.rb.2 (hkb _ hb),own_chg h.ent fun b hb=>?_,h.el,h.en,h.n,h.fb⟩
 exact hc.block b (h.ent.lt b hb).2 fun hb'=>hC.ev.2 b hb (hkb _ hb')
end Go.Proofs.YtgnfpcebmefhoaaGreat
