/-
  Texts of the proof, put together without their remarks: If, Lfp, Rpl, Lrv, Lift, LiftV, LiftS, LiftP.
-/
import Derived.Test.YtgnfpcebmefhoaaGreatB12
import Derived.Test.YtgnfpcebmefhoaaGreatRows
import Derived.ProofKit
import Derived.SizedLaws
import Derived.Deep.Slices
import Derived.Deep.Fields
import Derived.Lib.SmallJoins
import Derived.ChangeSlices
set_option linter.unusedSimpArgs false
set_option linter.unusedVariables false
set_option maxHeartbeats 8000000
set_option maxRecDepth 100000
namespace Go.Proofs.YtgnfpcebmefhoaaGreat
open Go Go.RowKit
def Fl (F':Int) (n:Nat) (o o':Out):Prop:=∀ r',o=.ok r'->n<=r'.n/\((r'.n:Int)<=F'\/r'.n=n->o'=.ok r')/\(F'<(r'.n:Int)->n<r'.n->o'=.err 18)
theorem Fl.bind {F':Int} {n:Nat} {o o':Out} {f f':RS->Out} (h:Fl F' n o o') (hf:∀ r,n<=r.n->Fl F' r.n (f r) (f' r)):Fl F' n (o.bind f) (o'.bind f'):=by
 intro r2 e
 cases o with
 | gas=>cases e
 | err x=>cases e
 | ok r1 =>
  obtain ⟨h1,h2,h3⟩:=h r1 rfl
  obtain ⟨g1,g2,g3⟩:=hf r1 h1 r2 e
  refine ⟨by omega,fun hc=>?_,fun a b=>?_⟩
  ·rw [h2 (by omega)]; exact g2 (by omega)
  ·by_cases hc:(r1.n:Int)<=F'\/r1.n=n
   ·rw [h2 hc]; exact g3 a (by omega)
   ·rw [h3 (by omega) (by omega)]; rfl
theorem Fl.err {F':Int} {n:Nat} {x:Int} {o':Out}:Fl F' n (.err x) o':=fun _ e=>by cases e
theorem Fl.gas {F':Int} {n:Nat} {o':Out}:Fl F' n .gas o':=fun _ e=>by cases e
theorem Fl.same {F':Int} {r:RS}:Fl F' r.n (.ok r) (.ok r):=fun r' e=>by
 injection e with e
 subst e
 exact ⟨Nat.le_refl _,fun _=>rfl,fun _ h=>absurd h (Nat.lt_irrefl _)⟩
theorem Fl.step (F F':Int) (r:RS):Fl F' r.n (stepO F r) (stepO F' r):=fun r' e=>by
 obtain ⟨rfl,-⟩:=stepO_ok e
 refine ⟨by simp only; omega,fun h=>?_,fun h _=>?_⟩
 ·unfold stepO; rw [if_neg (by simp only at h; omega)]
 ·unfold stepO; rw [if_pos (by simp only at h; omega)]
theorem Fl.store {F':Int} {r:RS} (R:Int×ST):Fl F' r.n (storeO r R) (storeO r R):=by
 unfold storeO
 split
 ·exact Fl.err
 ·intro r' e
  injection e with e
  subst e
  exact ⟨Nat.le_refl _,fun _=>rfl,fun _ h=>absurd h (Nat.lt_irrefl _)⟩
theorem Fl.val {F':Int} {n:Nat} {t:T} {r:RS} {f f':Int->RS->Out} (h:∀ x,Fl F' n (f x r) (f' x r)):Fl F' n (valO t r f) (valO t r f'):=by
 unfold valO
 split
 ·exact Fl.err
 ·exact h _
theorem Fl.holds {F F':Int} {t:T} {r:RS} {f f':Bool->RS->Out} (h:∀ b r1,r.n<=r1.n->Fl F' r1.n (f b r1) (f' b r1)):Fl F' r.n (holdsO F t r f) (holdsO F' t r f'):=by
 unfold holdsO
 exact (Fl.step F F' r).bind fun r1 h1=>Fl.val fun x=>h _ _ h1
theorem Fl.assert {F F':Int} {t:T} {b:Bool} {r:RS}:Fl F' r.n (assertO F t b r) (assertO F' t b r):=by
 unfold assertO
 refine Fl.holds fun b1 r1 _=>?_
 split
 ·exact Fl.same
 ·exact Fl.err
theorem Fl.body {F':Int} {f f':T->RS->Out}:∀ (l:List T) (r:RS),(∀ t∈l,∀ r',Fl F' r'.n (f t r') (f' t r'))->Fl F' r.n (bodyO f l r) (bodyO f' l r)
 | [],r,_=>Fl.same
 | t::ts,r,h=>by
  rw [bodyO,bodyO]
  exact (h t (List.mem_cons_self ..) r).bind fun r1 _=>Fl.body ts r1 fun u hu r'=>h u (List.mem_cons_of_mem _ hu) r'
theorem Fl.loop {F F':Int} {f f':T->RS->Out} {entry test:T} {l1 l2:List T} (h1:∀ t∈l1,∀ r',Fl F' r'.n (f t r') (f' t r')) (h2:∀ t∈l2,∀ r',Fl F' r'.n (f t r') (f' t r')):∀ (m:Nat) (r:RS),Fl F' r.n (loopO F f entry test l1 l2 m r) (loopO F' f' entry test l1 l2 m r)
 | 0,r=>Fl.gas
 | m+1,r=>by
  rw [loopO,loopO]
  refine (Fl.body l1 r h1).bind fun r1 _=>Fl.holds fun b r2 _=>?_
  split
  ·exact Fl.same
  ·exact (Fl.body l2 r2 h2).bind fun r3 _=>Fl.assert.bind fun r4 _=>Fl.loop h1 h2 m r4
theorem execO_fuel {prs:List PR} {F F':Int}:∀ (g:Nat) (back:Bool) (t:T) (r:RS),Fl F' r.n (execO prs F g back t r) (execO prs F' g back t r)
 | 0,_,_,_=>Fl.gas
 | g+1,back,t,r=>by
  have hb:∀ back (l:List T) r1,Fl F' r1.n (bodyO (execO prs F g back) l r1) (bodyO (execO prs F' g back) l r1):=fun back l r1=>Fl.body l r1 fun u _ r'=>execO_fuel g back u r'
  rw [execO,execO]
  split
  ·exact Fl.holds fun yes r1 _=>(hb _ _ r1).bind fun r2 _=>Fl.assert
  ·split
   ·exact Fl.assert.bind fun r1 _=>Fl.loop (fun u _ r'=>execO_fuel g back u r') (fun u _ r'=>execO_fuel g back u r') g r1
   ·split
    ·refine (Fl.step F F' r).bind fun r1 _=>Fl.val fun x=>(Fl.store _).bind fun r2 _=>(hb _ _ r2).bind fun r3 _=>(Fl.step F F' r3).bind fun r4 _=>Fl.val fun x=>Fl.store _
    ·split
     ·exact (Fl.step F F' r).bind fun r1 _=>(Fl.store _).bind fun r2 _=>(hb _ _ r2).bind fun r3 _=>(Fl.step F F' r3).bind fun r4 _=>Fl.store _
     ·split
      ·split
       ·exact Fl.err
       ·exact (Fl.step F F' r).bind fun r1 _=>(Fl.store _).bind fun r2 _=>Fl.bind (hb _ _ { r2 with ent:=_ }) fun r3 _=>(Fl.step F F' r3).bind fun r4 _=>Fl.store _
      ·exact (Fl.step F F' r).bind fun r1 _=>Fl.store _
theorem runO_fuel {prs:List PR} {F F':Int} (g:Nat) (back:Bool) (b:T) (r:RS):Fl F' r.n (runO prs F g back b r) (runO prs F' g back b r):=Fl.body _ _ fun u _ r'=>execO_fuel g back u r'
theorem resO_ok {p:PG} {s:SS} {F:Int} {g:Nat} {back:Bool} (hg:F.toNat*2000+2000<=g) (h:(resO p s F g back).2.2.1=0) :
  validB p=true/\chkN p=0/\fitB p.vs s=true/\∃ r,runO p.prs F g back p.m ⟨newS p.vs s,0,List.replicate p.prs.length 0⟩=.ok r/\resO p s F g back=(r.S.state,r.n,0,r.ent):=by
 unfold resO at h ⊢
 split at h
 ·simp at h
 ·rename_i h1
  rw [if_neg h1]
  simp only [not_or,Bool.not_eq_false,Decidable.not_not] at h1
  split at h
  ·simp at h
  ·rename_i h2
   rw [if_neg h2]
   simp only [Bool.not_eq_false] at h2
   refine ⟨h1.1,by simpa using h1.2,h2,?_⟩
   have hz:Nz (runO p.prs F g back p.m ⟨newS p.vs s,0,List.replicate p.prs.length 0⟩):=runO_nz GP_GC (GP_main h1.1 (by simpa using h1.2))
   have hg0:=(run_good (F:=F) (g:=g) h1.1 hg back (newS p.vs s) (List.replicate p.prs.length 0)).1
   cases ho:runO p.prs F g back p.m ⟨newS p.vs s,0,List.replicate p.prs.length 0⟩ with
   | gas=>exact absurd ho hg0
   | err e =>
    rw [ho] at h hz
    simp only [outR] at h
    rw [h] at hz
    exact absurd rfl hz
   | ok r=>exact ⟨r,rfl,rfl⟩
theorem resO_run {p:PG} {s:SS} {F:Int} {g:Nat} {back:Bool} (h1:validB p=true) (h2:chkN p=0) (h3:fitB p.vs s=true) :
  resO p s F g back=outR s (runO p.prs F g back p.m ⟨newS p.vs s,0,List.replicate p.prs.length 0⟩):=by
 unfold resO
 rw [if_neg (by rw [h1,h2]; simp),if_neg (by rw [h3]; simp)]
theorem fuel_law {p:PG} {s:SS} {F:Int} {g:Nat} {back:Bool} (hg:F.toNat*2000+2000<=g) (h:(resO p s F g back).2.2.1=0) :
  ((resO p s F g back).2.1:Int)<=max F 0/\(∀ F':Int,((resO p s F g back).2.1:Int)<=F'->resO p s F' g back=resO p s F g back) /\
   ∀ F':Int,F'<((resO p s F g back).2.1:Int)->0<(resO p s F g back).2.1->(resO p s F' g back).2.2.1=18:=by
 obtain ⟨h1,h2,h3,r,hr,he⟩:=resO_ok hg h
 rw [he]
 simp only
 have key:=fun F'=>runO_fuel (prs:=p.prs) (F:=F) (F':=F') g back p.m ⟨newS p.vs s,0,List.replicate p.prs.length 0⟩ r hr
 refine ⟨?_,fun F' hF=>?_,fun F' hF h0=>?_⟩
 ·rcases Int.lt_or_le (max F 0) (r.n:Int) with hlt|hle
  ·have:=(key F).2.2 (by omega) (by simp only; omega)
   rw [hr] at this
   cases this
  ·exact hle
 ·rw [resO_run h1 h2 h3,(key F').2.1 (.inl hF)]; rfl
 ·rw [resO_run h1 h2 h3,(key F').2.2 hF h0]; rfl
theorem cntK_all {prs:List PR} {k:Int} {s:ByteArray} {vs:List VD} (hi:∀ i,innerV k s i vs=vs):∀ {ks:List T} {i:Nat},cntK prs k s i ks vs=0->∀ t∈ks,cntV prs t vs=0
 | [],_,_,t,ht=>by cases ht
 | u::us,i,h,t,ht=>by
  rw [cntK] at h
  obtain ⟨h1,h2⟩:=Nat.add_eq_zero_iff.1 h
  rcases List.mem_cons.1 ht with rfl|ht
  ·rw [hi] at h1; exact h1
  ·exact cntK_all hi h2 t ht
theorem findV_name {s s':ByteArray} (h:s.toList=s'.toList):∀ vs:List VD,findV vs s=findV vs s'
 | []=>rfl
 | v::vs=>by
  simp only [findV]
  rw [findV_name h vs,h]
theorem useE_none {vs:List VD} {s:ByteArray} {k:Int} (h:findV vs s=none):useE vs s k≠0:=by
 unfold useE
 rw [h]
 show (6:Int)≠0
 decide
theorem sum_zero:∀ {l:List Nat},l.sum=0->∀ x∈l,x=0
 | a::l,h,x,hx=>by
  rw [List.sum_cons] at h
  obtain ⟨h1,h2⟩:=Nat.add_eq_zero_iff.1 h
  rcases List.mem_cons.1 hx with rfl|hx
  ·exact h1
  ·exact sum_zero h2 x hx
theorem men_of {prs:List PR} {vs:List VD} {nm:ByteArray} (hn:findV vs nm=none):∀ t,isE t=true->cntV prs t vs=0->menB t nm=false:=by
 intro t
 induction t using T.ind with
 | _ k n s ks ih =>
  intro he h
  have hk:=isE_k _ he
  simp only [T.k_nd] at hk
  rw [cntV] at h
  have h50:¬ (k=50\/k=51):=by omega
  rw [if_neg h50] at h
  obtain ⟨h1,h2⟩:=Nat.add_eq_zero_iff.1 h
  have hkids:=cntK_all (fun i=>by unfold innerV; rw [if_neg (by omega),if_neg (by omega)]) h2
  rw [menB,po,List.any_cons,Bool.or_eq_false_iff]
  refine ⟨?_,?_⟩
  ·unfold naming
   simp only [T.k_nd,T.s_nd,Bool.and_eq_false_iff]
   by_cases hs:s.toList=nm.toList
   ·left
    have hf:findV vs s=none:=(findV_name hs vs).trans hn
    have h0:=one1_zero h1
    unfold faultE at h0
    by_cases e2:k=2
    ·rw [if_pos e2] at h0; exact absurd h0 (useE_none hf)
    by_cases e3:k=3
    ·rw [if_neg e2,if_pos e3] at h0; exact absurd h0 (useE_none hf)
    by_cases e4:k=4\/k=5
    ·rw [if_neg e2,if_neg e3,if_pos (by omega)] at h0; exact absurd h0 (useE_none hf)
    simp only [Bool.or_eq_false_iff,beq_eq_false_iff_ne]
    omega
   ·right
    simpa using hs
  ·rw [List.any_eq_false]
   intro u hu
   obtain ⟨t,ht,hx⟩:=mem_pos.1 hu
   have:=ih t ht (isE_kids he t ht) (hkids t ht)
   rw [menB,List.any_eq_false] at this
   exact this u hx
def LocN (u:T):Prop:=u.k=54->menB (kid u 0) u.s=false/\menB (kid u 2) u.s=false
theorem loc_expr {t:T} (h:isE t=true):∀ u∈po t,LocN u:=fun u hu hk=>by
 have:=isE_k u (isE_poE t h u hu)
 omega
theorem loc_of:∀ (t:T) (prs:List PR) (vs:List VD),(isS t=true\/isB t=true\/isE t=true)->cntV prs t vs=0->∀ u∈po t,LocN u:=by
 intro t
 induction t using T.ind with
 | _ k n s ks ih =>
  intro prs vs ht h u hu
  rcases ht with hs|hb|he
  ·rw [cntV] at h
   obtain ⟨h1,h2⟩:=Nat.add_eq_zero_iff.1 h
   simp only [po,List.mem_cons] at hu
   rcases hu with rfl|hu
   ·intro h54
    simp only [T.k_nd] at h54
    rcases isS_cases hs with ⟨h9,_⟩|⟨h9,_⟩|⟨_,_,a,b,c,rfl,ha,hb,hc⟩|⟨h9,_⟩
    ·omega
    ·omega
    ·have hf:findV vs s=none:=by
      have h0:=one1_zero h1
      unfold faultE at h0
      rw [if_neg (by omega),if_neg (by omega),if_neg (by omega),if_pos (by omega)] at h0
      unfold freshE at h0
      cases hv:findV vs s with
      | none=>rfl
      | some v=>rw [hv] at h0; simp at h0
     rw [if_neg (by omega)] at h2
     simp only [cntK] at h2
     have e0:innerV k s 0 vs=vs:=by unfold innerV; rw [if_neg (by omega),if_neg (by omega)]
     have e2:innerV k s (0+1+1) vs=vs:=by unfold innerV; rw [if_neg (by omega),if_neg (by omega)]
     rw [e0,e2] at h2
     exact ⟨men_of (prs:=prs) hf a ha (by omega),men_of (prs:=prs) hf c hc (by omega)⟩
    ·omega
   ·obtain ⟨t,ht,hx⟩:=mem_pos.1 hu
    by_cases hc:k=50\/k=51
    ·have h57:t.k≠57:=by
      rcases isS_cases hs with ⟨_,h1⟩|⟨h1,_⟩|⟨h1,_⟩|⟨h1,_⟩
      ·exact h1 t ht
      all_goals omega
     rcases (isS_EB hs).2 t ht with h1|h1
     ·exact loc_expr h1 u hx
     ·exact absurd (isB_k h1) h57
    ·rw [if_neg hc] at h2
     obtain ⟨vs',hv⟩:=cntK_zero h2 t ht
     rcases (isS_EB hs).2 t ht with h1|h1
     ·exact loc_expr h1 u hx
     ·exact ih t ht prs vs' (.inr (.inl h1)) hv u hx
  ·obtain ⟨h57,hks⟩:=isB_kids _ _ _ _ hb
   rw [cntV,if_neg (by omega)] at h
   simp only [po,List.mem_cons] at hu
   rcases hu with rfl|hu
   ·intro h54
    simp only [T.k_nd] at h54
    omega
   ·obtain ⟨t,ht,hx⟩:=mem_pos.1 hu
    obtain ⟨vs',hv⟩:=cntK_zero (Nat.add_eq_zero_iff.1 h).2 t ht
    exact ih t ht prs vs' (.inl (hks t ht)) hv u hx
  ·exact loc_expr he u hu
theorem rejN_zero {l:List T} (h:rejN l=0):∀ x∈l,rejE x=0:=by
 intro x hx
 unfold rejN at h
 have:=List.filter_eq_nil_iff.1 (List.length_eq_zero_iff.1 h) x hx
 simpa using this
theorem okB_parts {p:PG} (h:okB p=true):validB p=true/\chkN p=0/\rjT p=0:=by
 unfold okB at h
 simp only [Bool.and_eq_true,decide_eq_true_eq] at h
 exact ⟨h.1.1,h.1.2,h.2⟩
theorem RvT_main {p:PG} (h:okB p=true):∀ u∈p.m.ks,RvT p.prs u:=by
 obtain ⟨hv,hc,hr⟩:=okB_parts h
 obtain ⟨hb,hbs⟩:=valid_isB hv
 unfold rjT at hr
 have hm:∀ u∈po p.m,OkN u:=fun u hu=>⟨rejN_zero (by omega) u hu,loc_of p.m p.prs p.vs (.inr (.inl hb)) (by unfold chkN at hc; omega) u hu⟩
 have hq:∀ q∈p.prs,∀ u∈po q.b,OkN u:=fun q hq u hu=>by
  refine ⟨?_,?_⟩
  ·have h0:rjP p.prs=0:=by omega
   unfold rjP at h0
   have:=sum_zero h0 (rejN (po q.b)) (List.mem_map.2 ⟨q,hq,rfl⟩)
   exact rejN_zero this u hu
  ·obtain ⟨i,hi,rfl⟩:=List.getElem_of_mem hq
   have:=prcN_zero (Nat.le_refl _) (show prcN p.prs p.prs.length=0 by unfold chkN at hc; omega) i hi hi
   unfold prcE at this
   exact loc_of p.prs[i].b p.prs p.prs[i].ps (.inr (.inl (hbs _ hq))) (by omega) u hu
 exact fun u hu=>⟨GP_main hv hc u hu,fun w hw=>hm w (po_of hu w hw),hq⟩
theorem fitsL_of:∀ (vs:List VD) (ls:List (List Int)),(∀ i (h:i<vs.length) (h':i<ls.length),fit1 vs[i] ls[i]=true)->fitsL vs ls=true
 | [],_,_=>by simp [fitsL]
 | _::_,[],_=>by simp [fitsL]
 | v::vs,l::ls,h=>by
  rw [fitsL,Bool.and_eq_true]
  exact ⟨h 0 (by simp) (by simp),fitsL_of vs ls fun i hi hi'=>h (i+1) (by simpa using hi) (by simpa using hi')⟩
section
variable {vs:List VD} {s:SS} {r':RS} {e:List Nat}
theorem end_state (hk:Keep ⟨newS vs s,0,e⟩ r'):r'.S.state.cells=(List.range vs.length).map r'.S.cell:=by
 unfold ST.state
 rw [hk.base]
 simp [newS]
theorem end_eqv (hk:Keep ⟨newS vs s,0,e⟩ r'):Eqv r'.S (newS vs r'.S.state):=by
 have hn:=hk.nc
 have hs:=end_state hk
 refine ⟨fun a b=>a=b/\a<vs.length,⟨by rintro a b b' ⟨rfl,_⟩ ⟨rfl,_⟩; rfl,by rintro a a' b ⟨rfl,_⟩ ⟨rfl,_⟩; rfl,?_,?_,?_,?_,?_,rfl,rfl⟩⟩
 ·rintro a b ⟨rfl,h⟩
  exact ⟨Nat.lt_of_lt_of_le h hn,h⟩
 ·rintro a b ⟨rfl,h⟩
  show (r'.S.state.cells).getD a []=_
  rw [hs,List.getD_eq_getElem?_getD,List.getElem?_map,List.getElem?_range h]
  rfl
 ·rw [hk.base]
  refine ⟨rfl,rfl,rfl,⟨by simp [newS],by simp [newS]⟩,fun i a b ha hb=>?_⟩
  have ha':(List.range vs.length)[i]?=some a:=ha
  have hb':(List.range vs.length)[i]?=some b:=hb
  rw [ha'] at hb'
  injection hb' with hb'
  exact ⟨hb',List.mem_range.1 (List.mem_of_getElem? ha')⟩
 ·rw [hk.calls]; rfl
 ·intro i f g hf
  rw [hk.calls] at hf
  simp [newS] at hf
theorem end_fit (h0:fitB vs s=true) (hw:r'.S.WF) (hk:Keep ⟨newS vs s,0,e⟩ r'):fitB vs r'.S.state=true:=by
 have hs:=end_state hk
 obtain ⟨kd,hb,-,hc⟩:=hw.ex
 have hsv:svB vs=true:=by
  unfold fitB at h0
  simp only [Bool.and_eq_true] at h0
  exact h0.1.1.1.1
 unfold fitB
 simp only [Bool.and_eq_true,decide_eq_true_eq]
 refine ⟨⟨⟨⟨hsv,by rw [hs]; simp⟩,hw.tin.1⟩,hw.tout.1⟩,fitsL_of _ _ fun i hi hi'=>?_⟩
 have hbase:r'.S.base=⟨vs,List.range vs.length,0⟩:=hk.base
 rw [hbase] at hb
 have hki:=hb.kind i hi (by simpa using hi)
 simp only [List.getElem_range] at hki
 have hii:=hb.num i (List.mem_range.2 hi)
 have hci:=hc i hii
 have hli:=(hw.cells i hii).1
 have e1:r'.S.state.cells[i]=r'.S.cell i:=by
  have:r'.S.state.cells[i]?=some (r'.S.cell i):=by rw [hs,List.getElem?_map,List.getElem?_range hi]; rfl
  exact (List.getElem?_eq_some_iff.1 this).2
 rw [e1]
 rw [hki] at hci
 simp only at hci
 unfold fit1 fixE
 by_cases h3:vs[i].k=3
 ·rw [if_pos h3]; simpa using hli
 ·rw [if_neg h3]
  by_cases h1:vs[i].k=1
  ·rw [if_pos h1]; have:=hci.1 h1; simp [this]
  ·rw [if_neg h1]
   have h2:vs[i].k=2:=by omega
   have:=hci.2.1 h2
   simpa using this
theorem start_inv (hv:vs.length<=1000) (h0:fitB vs s=true) (hf:∀ v∈vs,FldV v) (hI:s.I):RInv ⟨newS vs s,0,e⟩/\NdS (newS vs s):=by
 have hw:=newS_WF h0 hf hI.1 hI.2.1 hI.2.2 vs.length (Nat.le_refl _)
 rw [List.take_of_length_le (Nat.le_refl _)] at hw
 refine ⟨⟨hw,⟨by show vs.length<=1000+0; omega,fun f hf=>by cases hf⟩,Nat.zero_le _⟩,⟨List.nodup_range,fun f hf=>by cases hf⟩⟩
end
theorem PV.lit {p:PG} {w:World} {S:Nat->Prop} {v:Value} (h:PV w S p v) (hv:validB p=true):LitB p.m/\PrB p.prs/\∀ u∈p.vs,FldV u:=by
 obtain ⟨A1,c1,A2,c2,A3,c3,-,hpg⟩:=h
 obtain ⟨-,-,h3,-⟩:=valid_bounds hv
 refine ⟨NV.lit _ _ hpg.main,fun q hq=>?_,fun u hu=>?_⟩
 ·have hb:=(h3 q hq).1
  obtain ⟨i,hi,rfl⟩:=List.getElem_of_mem hq
  obtain ⟨a,B1,d1,B2,d2,-,-,-,hr⟩:=hpg.procs i hi
  refine ⟨NV.lit _ _ hr.body,fun v hv=>?_,by omega⟩
  obtain ⟨j,hj,rfl⟩:=List.getElem_of_mem hv
  obtain ⟨-,-,-,-,hf⟩:=hr.row j hj
  exact hf
 ·obtain ⟨j,hj,rfl⟩:=List.getElem_of_mem hu
  obtain ⟨-,-,-,-,hf⟩:=hpg.vars j hj
  exact hf
theorem SV.nums {s:SS} {w:World} {S:Nat->Prop} {v:Value} (h:SV w S s v):s.I:=by
 obtain ⟨A,c,B,d,D,e,-,hr,hi,ho,-⟩:=h
 have key:∀ {A:Option Addr} {xs:List Int},RowI w S A xs->∀ x∈xs,I64 x:=fun hr x hx=>by
  obtain ⟨i,hi,rfl⟩:=List.getElem_of_mem hx
  obtain ⟨_,_,_,_,h⟩:=hr i hi
  exact h
 refine ⟨fun l hl=>?_,key hi,key ho⟩
 obtain ⟨i,hi,rfl⟩:=List.getElem_of_mem hl
 obtain ⟨_,_,_,_,_,_,_,h⟩:=hr i hi
 exact key h
theorem rev_law {p:PG} {s:SS} {F:Int} {g:Nat} {back:Bool} (hF:F<=1000000) (hF0:0<=F) (hg:F.toNat*2000+2000<=g) (hok:okB p=true) (hl:LitB p.m) (hp:PrB p.prs) (hf:∀ u∈p.vs,FldV u) (hI:s.I) (h:(resO p s F g back).2.2.1=0) :
  (resO p (resO p s F g back).1 F g (!back)).1=s/\(resO p (resO p s F g back).1 F g (!back)).2.1=(resO p s F g back).2.1/\(resO p (resO p s F g back).1 F g (!back)).2.2.1=0:=by
 have hfl:=(fuel_law hg h).1
 obtain ⟨h1,h2,h3,r',hr',he⟩:=resO_ok hg h
 obtain ⟨hi,hn⟩:=start_inv (e:=List.replicate p.prs.length 0) (by have:=(valid_bounds h1).1; omega) h3 hf hI
 obtain ⟨⟨a1,a2⟩,b1,b2⟩:=runO_rev hF hp g back p.m (RvT_main hok) hl _ r' hi hn hr'
 have hk:=(runO_keep hF hp g back p.m _ r' hl hi hr').2
 rw [he] at hfl ⊢
 simp only at hfl ⊢
 obtain ⟨x',c1,c2,c3⟩:=a2 ⟨newS p.vs r'.S.state,0,List.replicate p.prs.length 0⟩ (end_eqv hk) (by simp only; omega)
 simp only at c2 c3
 rw [resO_run h1 h2 (end_fit h3 b1.wf hk),c1]
 simp only [outR]
 exact ⟨by rw [c2.state,newS_state h3],by omega,trivial⟩
theorem Repeat_walk (p:PG) (s:SS) (v sv:Value) (W:World) (hp:PV W Any p v) (hs:SV W Any s sv) :
  Calls Tryz.prog 12 #[v,sv] W fun e W'=>e=.returned (.bool true)/\Below W.heap.size W W':=by
 have HPV:=zh hp
 have HSV:=zh hs
 obtain ⟨A1,c1,A2,c2,A3,c3,rfl,hpg⟩:=hp
 obtain ⟨A,c,B,d,D,e,rfl,hr1,hr2,hr3,hc1,hc2,hc3,hl1,hl2,hl3,hl4⟩:=hs
 have hb2:=bl_al (bl_al (Below.refl W.heap.size W) (.cells #[.slice A1 p.vs.length c1,.slice A2 p.prs.length c2,.int .u8 p.m.k,.int .i64 p.m.n,.string p.m.s,.slice A3 p.m.ks.length c3] 28)) (.cells #[.slice A s.cells.length c,.slice B s.tin.length d,.slice D s.tout.length e] 32)
 have k0:=blk_al (heap_alloc_new W (.cells #[.slice A1 p.vs.length c1,.slice A2 p.prs.length c2,.int .u8 p.m.k,.int .i64 p.m.n,.string p.m.s,.slice A3 p.m.ks.length c3] 28)) (.cells #[.slice A s.cells.length c,.slice B s.tin.length d,.slice D s.tout.length e] 32)
 have k1:=heap_alloc_new (W.alloc (.cells #[.slice A1 p.vs.length c1,.slice A2 p.prs.length c2,.int .u8 p.m.k,.int .i64 p.m.n,.string p.m.s,.slice A3 p.m.ks.length c3] 28)) (.cells #[.slice A s.cells.length c,.slice B s.tin.length d,.slice D s.tout.length e] 32)
 rw [World.size_alloc] at k1
 obtain ⟨w2,hw2⟩:∃ x,(W.alloc (.cells #[.slice A1 p.vs.length c1,.slice A2 p.prs.length c2,.int .u8 p.m.k,.int .i64 p.m.n,.string p.m.s,.slice A3 p.m.ks.length c3] 28)).alloc (.cells #[.slice A s.cells.length c,.slice B s.tin.length d,.slice D s.tout.length e] 32)=x:=⟨_,rfl⟩
 rw [hw2] at hb2 k0 k1
 have HB2:=zh hb2
 have HK0:=zh k0
 have HK1:=zh k1
 clear hpg hr1 hr2 hr3 hb2 k0 k1 hc1 hc2 hc3 hl1 hl2 hl3 hl4
 have HAW:=zh (awake_any w2)
 have HGR:=zh (fun w' (hb:Below w2.heap.size w2 w')=>great_any p s 0 _ _ w' (HPV.out.later (bl_tt HB2.out hb)) (HSV.out.later (bl_tt HB2.out hb)) ⟨by decide,by decide⟩)
 go_enter Tryz.func12,Tryz.ntmps12
 go_wp2_with fail
 refine HAW.out.mono ?_
 rintro e3 w3 ⟨rfl,b3⟩
 clear hw2 HAW
 have hPq:=blk_bl HK0.out b3
 have hSq:=blk_bl HK1.out b3
 have p0:w3.cell? ⟨W.heap.size,0,none⟩=some (.slice A1 p.vs.length c1):=zc hPq rfl
 have p1:w3.cell? ⟨W.heap.size,1,none⟩=some (.slice A2 p.prs.length c2):=zc hPq rfl
 have p2:w3.cell? ⟨W.heap.size,2,none⟩=some (.int .u8 p.m.k):=zc hPq rfl
 have p3:w3.cell? ⟨W.heap.size,3,none⟩=some (.int .i64 p.m.n):=zc hPq rfl
 have p4:w3.cell? ⟨W.heap.size,4,none⟩=some (.string p.m.s):=zc hPq rfl
 have p5:w3.cell? ⟨W.heap.size,5,none⟩=some (.slice A3 p.m.ks.length c3):=zc hPq rfl
 have s0:w3.cell? ⟨W.heap.size+1,0,none⟩=some (.slice A s.cells.length c):=zc hSq rfl
 have s1:w3.cell? ⟨W.heap.size+1,1,none⟩=some (.slice B s.tin.length d):=zc hSq rfl
 have s2:w3.cell? ⟨W.heap.size+1,2,none⟩=some (.slice D s.tout.length e):=zc hSq rfl
 clear hPq hSq
 go_wp2_with fail
 refine (HGR.out _ b3).mono ?_
 rintro e4 w4 ⟨gb,rfl,hgb,b4⟩
 have b24:=bl_tt b3 b4
 clear p0 p1 p2 p3 p4 p5 s0 s1 s2 b3 b4 HGR
 cases gb
 ·have HSM:=zh (hgb rfl)
  have HCL:=zh (show s.cells.length<=1000000 by have:=HSM.out.cells; omega)
  clear hgb
  obtain ⟨ob,hob⟩:∃ b,okB p=b:=⟨_,rfl⟩
  have HOB:=zh hob
  have HOK:=zh (OK_any p _ w4 (HPV.out.later (bl_tt HB2.out b24)))
  rw [hob] at HOK
  clear hob
  have hPq:=blk_bl HK0.out b24
  have hSq:=blk_bl HK1.out b24
  have p0:w4.cell? ⟨W.heap.size,0,none⟩=some (.slice A1 p.vs.length c1):=zc hPq rfl
  have p1:w4.cell? ⟨W.heap.size,1,none⟩=some (.slice A2 p.prs.length c2):=zc hPq rfl
  have p2:w4.cell? ⟨W.heap.size,2,none⟩=some (.int .u8 p.m.k):=zc hPq rfl
  have p3:w4.cell? ⟨W.heap.size,3,none⟩=some (.int .i64 p.m.n):=zc hPq rfl
  have p4:w4.cell? ⟨W.heap.size,4,none⟩=some (.string p.m.s):=zc hPq rfl
  have p5:w4.cell? ⟨W.heap.size,5,none⟩=some (.slice A3 p.m.ks.length c3):=zc hPq rfl
  have s0:w4.cell? ⟨W.heap.size+1,0,none⟩=some (.slice A s.cells.length c):=zc hSq rfl
  have s1:w4.cell? ⟨W.heap.size+1,1,none⟩=some (.slice B s.tin.length d):=zc hSq rfl
  have s2:w4.cell? ⟨W.heap.size+1,2,none⟩=some (.slice D s.tout.length e):=zc hSq rfl
  clear hPq hSq
  go_wp2_with fail
  refine HOK.out.mono ?_
  rintro e5 w5 ⟨rfl,b5⟩
  have b25:=bl_tt b24 b5
  clear p0 p1 p2 p3 p4 p5 s0 s1 s2 HOK
  cases ob
  ·go_wp2_with fail
   refine (awake_any w5).mono ?_
   rintro e6 w6 ⟨rfl,b6⟩
   go_wp2_with fail
   go_ret
   exact ⟨rfl,bl_tt HB2.out (bl_tt b25 b6)⟩
  ·have hF2:I64 (2000:Int):=⟨by decide,by decide⟩
   have hF6:(2000:Int)<=1000000:=by decide
   have hFG:(2000:Int).toNat*2000+2000<=5000000:=by decide
   obtain ⟨R0,hR0⟩:∃ R,resO p s 2000 5000000 true=R:=⟨_,rfl⟩
   have HR0:=zh hR0
   go_upto_region 3 with fail
   have hPq:=blk_bl HK0.out b25
   have hSq:=blk_bl HK1.out b25
   have p0:w5.cell? ⟨W.heap.size,0,none⟩=some (.slice A1 p.vs.length c1):=zc hPq rfl
   have p1:w5.cell? ⟨W.heap.size,1,none⟩=some (.slice A2 p.prs.length c2):=zc hPq rfl
   have p2:w5.cell? ⟨W.heap.size,2,none⟩=some (.int .u8 p.m.k):=zc hPq rfl
   have p3:w5.cell? ⟨W.heap.size,3,none⟩=some (.int .i64 p.m.n):=zc hPq rfl
   have p4:w5.cell? ⟨W.heap.size,4,none⟩=some (.string p.m.s):=zc hPq rfl
   have p5:w5.cell? ⟨W.heap.size,5,none⟩=some (.slice A3 p.m.ks.length c3):=zc hPq rfl
   have s0:w5.cell? ⟨W.heap.size+1,0,none⟩=some (.slice A s.cells.length c):=zc hSq rfl
   have s1:w5.cell? ⟨W.heap.size+1,1,none⟩=some (.slice B s.tin.length d):=zc hSq rfl
   have s2:w5.cell? ⟨W.heap.size+1,2,none⟩=some (.slice D s.tout.length e):=zc hSq rfl
   clear hPq hSq
   have hcon:=Backward_any p s 2000 5000000 _ _ _ (HPV.out.later (bl_tt HB2.out b25)) (HSV.out.later (bl_tt HB2.out b25)) HCL.out hF2 hF6 hFG
   rw [hR0] at hcon
   have HCON:=zh hcon
   clear hcon
   go_wp2_with fail
   refine HCON.out.mono ?_
   rintro e6 w6 ⟨v1,v2,v3,rfl,ho6,hbQ6,hl6⟩
   obtain ⟨A6,c6,B6,d6,D6,g6,hv⟩:=ho6.slices
   injection hv with hv
   simp only [Array.mk.injEq,List.cons.injEq,and_true] at hv
   obtain ⟨rfl,rfl,rfl⟩:=hv
   have HO6:=zh ho6
   have HL6:=zh hl6
   have hq6:=bl_tt b25 hbQ6
   clear p0 p1 p2 p3 p4 p5 s0 s1 s2 ho6 hl6 HCON
   obtain ⟨S0,n0,e0,l0⟩:=R0
   dsimp only at HO6 HL6 HR0 ⊢
   clear hR0
   go_upto_region 4 with fail
   have ka:=heap_alloc_new w6 (.cells #[.slice A6 S0.cells.length c6,.slice B6 S0.tin.length d6,.slice D6 S0.tout.length g6,.int .i64 (n0:Int),.int .i64 e0] 37)
   have hba:=bl_al (Below.refl w6.heap.size w6) (.cells #[.slice A6 S0.cells.length c6,.slice B6 S0.tin.length d6,.slice D6 S0.tout.length g6,.int .i64 (n0:Int),.int .i64 e0] 37)
   obtain ⟨w7,hqx⟩:∃ x,w6.alloc (.cells #[.slice A6 S0.cells.length c6,.slice B6 S0.tin.length d6,.slice D6 S0.tout.length g6,.int .i64 (n0:Int),.int .i64 e0] 37)=x:=⟨_,rfl⟩
   obtain ⟨rb6,hqy⟩:∃ x,w6.heap.size=x:=⟨_,rfl⟩
   rw [hqx] at ka hba
   rw [hqy] at ka
   rw [hqx,hqy]
   clear hqx hqy
   have hq7:=bl_tt hq6 hba
   have HO7:=zh (HO6.out.later hba)
   have HK6:=zh ka
   clear ka hba HO6
   by_cases he0:e0=0
   ·subst he0
    have x4:w7.cell? ⟨rb6,4,none⟩=some (.int .i64 0):=zc HK6.out rfl
    go_upto_region 6 with fail
    clear x4
    have hvv:=(okB_parts HOB.out).1
    obtain ⟨t1,t2,t3⟩:=HPV.out.lit hvv
    have hrl:=rev_law (F:=2000) (g:=5000000) (back:=true) hF6 (by decide) hFG HOB.out t1 t2 t3 HSV.out.nums (by rw [HR0.out])
    have hfl:=(fuel_law (p:=p) (s:=s) (F:=2000) (g:=5000000) (back:=true) hFG (by rw [HR0.out])).1
    rw [HR0.out] at hrl hfl
    simp only [Bool.not_false,Bool.not_true] at hrl hfl
    have hcs:S0.cells.length<=1000000:=by have:=(HL6.out.2 rfl).1; simp only at this; omega
    have HSV7:=zh (HO7.out.sv HL6.out.1)
    obtain ⟨R2,hR2⟩:∃ R,resO p S0 2000 5000000 (!true)=R:=⟨_,rfl⟩
    simp only [Bool.not_false,Bool.not_true] at hR2
    have hcon:=Forward_any p S0 2000 5000000 _ _ w7 (HPV.out.later (bl_tt HB2.out hq7)) HSV7.out hcs hF2 hF6 hFG
    rw [hR2] at hrl hcon
    obtain ⟨S2,n2,e2,l2⟩:=R2
    simp only at hrl
    obtain ⟨u1,u2,u3⟩:=hrl
    obtain rfl:=u1.symm
    obtain rfl:=u2.symm
    obtain rfl:=u3.symm
    have HCON:=zh hcon
    clear hcon hR2 hfl hvv t1 t2 t3
    have hPq:=blk_bl HK0.out hq7
    have hSq:=blk_bl HK1.out hq7
    have p0:w7.cell? ⟨W.heap.size,0,none⟩=some (.slice A1 p.vs.length c1):=zc hPq rfl
    have p1:w7.cell? ⟨W.heap.size,1,none⟩=some (.slice A2 p.prs.length c2):=zc hPq rfl
    have p2:w7.cell? ⟨W.heap.size,2,none⟩=some (.int .u8 p.m.k):=zc hPq rfl
    have p3:w7.cell? ⟨W.heap.size,3,none⟩=some (.int .i64 p.m.n):=zc hPq rfl
    have p4:w7.cell? ⟨W.heap.size,4,none⟩=some (.string p.m.s):=zc hPq rfl
    have p5:w7.cell? ⟨W.heap.size,5,none⟩=some (.slice A3 p.m.ks.length c3):=zc hPq rfl
    have s0:w7.cell? ⟨W.heap.size+1,0,none⟩=some (.slice A s.cells.length c):=zc hSq rfl
    have s1:w7.cell? ⟨W.heap.size+1,1,none⟩=some (.slice B s.tin.length d):=zc hSq rfl
    have s2:w7.cell? ⟨W.heap.size+1,2,none⟩=some (.slice D s.tout.length e):=zc hSq rfl
    clear hPq hSq
    have y0:w7.cell? ⟨rb6,0,none⟩=some (.slice A6 S0.cells.length c6):=zc HK6.out rfl
    have y1:w7.cell? ⟨rb6,1,none⟩=some (.slice B6 S0.tin.length d6):=zc HK6.out rfl
    have y2:w7.cell? ⟨rb6,2,none⟩=some (.slice D6 S0.tout.length g6):=zc HK6.out rfl
    go_wp2_with fail
    refine HCON.out.mono ?_
    rintro e8 w8 ⟨v1,v2,v3,rfl,ho8,hb8,hl8⟩
    obtain ⟨A8,c8,B8,d8,D8,g8,hv⟩:=ho8.slices
    injection hv with hv
    simp only [Array.mk.injEq,List.cons.injEq,and_true] at hv
    obtain ⟨rfl,rfl,rfl⟩:=hv
    have HO8:=zh ho8
    have hq8:=bl_tt hq7 hb8
    clear p0 p1 p2 p3 p4 p5 s0 s1 s2 y0 y1 y2 ho8 hl8 HCON
    dsimp only at HO8 ⊢
    go_upto_region 7 with fail
    have ka:=heap_alloc_new w8 (.cells #[.slice A8 s.cells.length c8,.slice B8 s.tin.length d8,.slice D8 s.tout.length g8,.int .i64 (n0:Int),.int .i64 0] 37)
    have hba:=bl_al (Below.refl w8.heap.size w8) (.cells #[.slice A8 s.cells.length c8,.slice B8 s.tin.length d8,.slice D8 s.tout.length g8,.int .i64 (n0:Int),.int .i64 0] 37)
    obtain ⟨w9,hqx⟩:∃ x,w8.alloc (.cells #[.slice A8 s.cells.length c8,.slice B8 s.tin.length d8,.slice D8 s.tout.length g8,.int .i64 (n0:Int),.int .i64 0] 37)=x:=⟨_,rfl⟩
    obtain ⟨rb8,hqy⟩:∃ x,w8.heap.size=x:=⟨_,rfl⟩
    rw [hqx] at ka hba
    rw [hqy] at ka
    rw [hqx,hqy]
    clear hqx hqy
    have hq9:=bl_tt hq8 hba
    have h79:=bl_tt hb8 hba
    have k6:=blk_bl HK6.out h79
    have x1:w9.cell? ⟨rb6,3,none⟩=some (.int .i64 (n0:Int)):=zc k6 rfl
    have y0:w9.cell? ⟨rb8,0,none⟩=some (.slice A8 s.cells.length c8):=zc ka rfl
    have y1:w9.cell? ⟨rb8,1,none⟩=some (.slice B8 s.tin.length d8):=zc ka rfl
    have y2:w9.cell? ⟨rb8,2,none⟩=some (.slice D8 s.tout.length g8):=zc ka rfl
    have y3:w9.cell? ⟨rb8,3,none⟩=some (.int .i64 (n0:Int)):=zc ka rfl
    have y4:w9.cell? ⟨rb8,4,none⟩=some (.int .i64 0):=zc ka rfl
    have hSq:=blk_bl HK1.out hq9
    have s0:w9.cell? ⟨W.heap.size+1,0,none⟩=some (.slice A s.cells.length c):=zc hSq rfl
    have s1:w9.cell? ⟨W.heap.size+1,1,none⟩=some (.slice B s.tin.length d):=zc hSq rfl
    have s2:w9.cell? ⟨W.heap.size+1,2,none⟩=some (.slice D s.tout.length e):=zc hSq rfl
    have hsx:s.Sm:=⟨by have:=HSM.out.cells; omega,fun l hl=>by have:=HSM.out.row l hl; omega,by have:=HSM.out.tin; omega,by have:=HSM.out.tout; omega⟩
    have HQE:=zh (StEqual_any s s _ _ w9 ((HO8.out.later hba).sv hsx.lim) (HSV.out.later (bl_tt HB2.out hq9)) hsx hsx)
    rw [show eqS s s=true by simp [eqS]] at HQE
    have HB9:=zh hq9
    clear ka hba k6 hSq hsx hq9 h79
    go_wp2_with fail
    refine HQE.out.mono ?_
    rintro e10 w10 ⟨rfl,b10⟩
    clear x1 y0 y1 y2 y3 y4 s0 s1 s2
    go_wp2_with fail
    go_ret
    exact ⟨rfl,bl_tt HB2.out (bl_tt HB9.out b10)⟩
   ·have x4:w7.cell? ⟨rb6,4,none⟩=some (.int .i64 e0):=zc HK6.out rfl
    have hq9:=bl_tt HB2.out hq7
    go_wp2_with fail
    go_ret
    exact ⟨rfl,hq9⟩
 ·go_wp2_with fail
  refine (awake_any w4).mono ?_
  rintro e5 w5 ⟨rfl,b5⟩
  clear hgb
  go_wp2_with fail
  go_ret
  exact ⟨rfl,bl_tt HB2.out (bl_tt b24 b5)⟩
end Go.Proofs.YtgnfpcebmefhoaaGreat
namespace Go.Proofs.YtgnfpcebmefhoaaGreat
open Go.RowKit Go.ChangeShapes Go.WideShapes Go.ChangeAt Go.Deep
theorem cellsNode:Tryz.prog.cellsOf 26=4:=by kernel_rfl
theorem bytesNode:Tryz.prog.bytesOf 26=56:=by kernel_rfl
theorem cellsU8:Tryz.prog.cellsOf 5=1:=by kernel_rfl
theorem cellsI64:Tryz.prog.cellsOf 3=1:=by kernel_rfl
theorem cellsStr:Tryz.prog.cellsOf 9=1:=by kernel_rfl
theorem cellsKids:Tryz.prog.cellsOf 24=1:=by kernel_rfl
theorem weightsAll_mem {H:Type} {P:Program} {e:TypeId}:∀ {l:List (DataW H)} {d:DataW H},d∈l->∀ n∈d.weights P e,n∈DataW.weightsAll P e l
 | d0::l,d,hd,n,hn=>by
  simp only [DataW.weightsAll,List.mem_append]
  rcases List.mem_cons.1 hd with rfl|hd
  ·exact .inl hn
  ·exact .inr (weightsAll_mem hd n hn)
theorem sizes_le_bulk {H:Type}:∀ (ks:List T) (ds:List (DataW H)),ks.length=ds.length->(∀ i (h:i<ks.length) (h':i<ds.length),size ks[i]<=Rows.uptoBulk ds[i])->sizes ks<=Rows.uptoBulkAll ds
 | [],[],_,_=>by simp [sizes]
 | t::ts,d::ds,hl,h=>by
  have h0:=h 0 (Nat.zero_lt_succ _) (Nat.zero_lt_succ _)
  have h1:=sizes_le_bulk ts ds (by simpa using hl) (fun i hi hi'=>h (i+1) (Nat.succ_lt_succ hi) (Nat.succ_lt_succ hi'))
  simp only [List.getElem_cons_zero] at h0
  simp only [sizes,Rows.uptoBulkAll]
  omega
 | [],_::_,hl,_=>by simp at hl
 | _::_,[],hl,_=>by simp at hl
section
variable {H:Type} {enc:TypeId×Value->H} {w:World} {held:Bool}
def zeroT':T:=.nd 0 0 ⟨#[]⟩ []
theorem open_node:∀ (fuel:Nat) (cs:List Value) (x:DataW H×List MemPlace),DataW.trod enc Tryz.prog w 0 (fun _=>true) held fuel 26 cs=some x ->
  (∀ n∈x.1.weights Tryz.prog 26,n<=reachBytes) ->
  ∃ t u0 u1 u2 u3,cs=[u0,u1,u2,u3]/\NV w Any t (.agg #[u0,u1,u2,u3])/\t.ks.length*56<=reachBytes/\size t<=Rows.uptoBulk x.1:=by
 intro fuel
 induction fuel using Nat.strongRecOn with
 | _ fuel ih =>
 intro cs x h hw
 have hts:=DataW.trod_struct Tryz.underlying26 h
 obtain ⟨xs,n,hfu,hx,hcl,hxl,hg⟩:=hts
 subst hx
 rw [cellsNode] at hcl
 match cs,hcl with
 | [c0,c1,c2,c3],_ =>
 match xs,hxl with
 | [y0,y1,y2,y3],_ =>
 have g0:=hg 0 _ rfl
 have g1:=hg 1 _ rfl
 have g2:=hg 2 _ rfl
 have g3:=hg 3 _ rfl
 simp only [cellsU8,cellsI64,cellsStr,cellsKids,List.drop_zero,List.take_succ_cons,List.take_zero,List.drop_succ_cons,List.getElem?_cons_zero,List.getElem?_cons_succ] at g0 g1 g2 g3
 obtain ⟨k,e0,e0',wk⟩:=DataW.trod_int Tryz.underlying5 g0
 obtain ⟨m,e1,e1',wm⟩:=DataW.trod_int Tryz.underlying3 g1
 obtain ⟨s,e2,e2',ws⟩:=DataW.trod_string Tryz.underlying9 g2
 injection e0 with e0
 injection e1 with e1
 injection e2 with e2
 subst e0 e1 e2 e0' e1' e2'
 have hf:Fld k m s:=by
  refine ⟨?_,?_,ws⟩
  ·have:=wk; simp [Lit.wf,IntKind.min,IntKind.max,IntKind.signed,IntKind.bits] at this; omega
  ·have:=wm; simp [Lit.wf,IntKind.min,IntKind.max,IntKind.signed,IntKind.bits] at this; omega
 have hsl:=DataW.trod_slice Tryz.underlying24 g3
 rcases hsl with ⟨e3,e3'⟩|⟨a,len,cap,elems,rest,n',hn',e3,e3',_,hl,hm,hel,hat,hsp,_⟩
 ·injection e3 with e3
  subst e3 e3'
  refine ⟨.nd k m s [],_,_,_,_,rfl,NV.shut (ks:=[]) hf (Nat.zero_le _) (Nat.zero_le _) RowAt.nil,by simp,?_⟩
  simp only [size,sizes,List.map_cons,List.map_nil,Rows.uptoBulk]
  omega
 ·injection e3 with e3
  subst e3 e3'
  obtain ⟨hrl,_⟩:=hsp rfl
  rw [cellsNode] at hat
  -- what the reach says of this slice,and of its elements
  have hws:∀ q∈DataW.weights Tryz.prog 24 (.slice (elems.map (·.1)) (rest.map (·.1)):DataW H),q<=reachBytes:=by
   intro q hq
   refine hw q ?_
   simp only [List.map_cons,List.map_nil,DataW.weights,Tryz.underlying26]
   simp only [DataW.weightsEach,List.map_cons,List.map_nil,List.mem_append]
   exact .inr (.inr (.inr (.inl hq)))
  simp only [DataW.weights,Tryz.underlying24,bytesNode] at hws
  have hcap:cap*56<=reachBytes:=by
   have:=hws _ (List.mem_cons_self ..)
   simp only [List.length_map] at this
   rw [hel,hrl] at this
   rw [show cap=len+(cap-len) by omega]
   exact this
  have hwe:∀ y∈elems,∀ q∈y.1.weights Tryz.prog 26,q<=reachBytes:=fun y hy q hq =>
   hws q (List.mem_cons_of_mem _ (List.mem_append_left _ (weightsAll_mem (List.mem_map_of_mem hy) q hq)))
  have key:∀ i (hi:i<elems.length),∃ t u0 u1 u2 u3,w.cells? 0 (a.add (i*4)) 4=some [u0,u1,u2,u3]/\NV w Any t (.agg #[u0,u1,u2,u3])/\size t<=Rows.uptoBulk elems[i].1:=by
   intro i hi
   have h1:=hat i (by omega)
   rw [List.getElem?_eq_getElem hi] at h1
   obtain ⟨cs',hcs,ht⟩:=Option.bind_eq_some_iff.1 h1
   obtain ⟨t,u0,u1,u2,u3,rfl,hn,_,hb⟩:=ih n' (by omega) cs' elems[i] ht (hwe _ (List.getElem_mem hi))
   exact ⟨t,u0,u1,u2,u3,hcs,hn,hb⟩
  have hex:∃ ks:List T,ks.length=elems.length/\∀ i (h:i<ks.length) (h':i<elems.length),(∃ u0 u1 u2 u3,w.cells? 0 (a.add (i*4)) 4=some [u0,u1,u2,u3]/\NV w Any ks[i] (.agg #[u0,u1,u2,u3]))/\size ks[i]<=Rows.uptoBulk elems[i].1:=by
   classical
   refine ⟨(List.range elems.length).map fun i=>if h:i<elems.length then (key i h).choose else zeroT',by simp,fun i h h'=>?_⟩
   simp only [List.getElem_map,List.getElem_range,h',dif_pos]
   obtain ⟨u0,u1,u2,u3,h1,h2,h3⟩:=(key i h').choose_spec
   exact ⟨⟨u0,u1,u2,u3,h1,h2⟩,h3⟩
  obtain ⟨ks,hkl,hks⟩:=hex
  have hlen:ks.length=len:=by omega
  have hLK:ks.length<=LK:=by unfold LK; unfold reachBytes at hcap; omega
  refine ⟨.nd k m s ks,_,_,_,_,rfl,?_,?_,?_⟩
  ·rw [<-hlen]
   refine NV.shut hf hLK (by omega) fun i hi=>?_
   obtain ⟨⟨u0,u1,u2,u3,hc,hn⟩,_⟩:=hks i hi (by omega)
   obtain ⟨_,_,hcell⟩:=World.cells?_some hc
   refine ⟨a,u0,u1,u2,u3,rfl,trivial,⟨?_,?_,?_,?_⟩,hn⟩
   ·have:=hcell 0 (by omega); simpa [Addr.add] using this
   ·have:=hcell 1 (by omega); simpa [Addr.add] using this
   ·have:=hcell 2 (by omega); simpa [Addr.add] using this
   ·have:=hcell 3 (by omega); simpa [Addr.add] using this
  ·simp only [T.ks_nd]; omega
  ·have hb:=sizes_le_bulk ks (elems.map (·.1)) (by simp [hkl]) (fun i h h'=>by
    have:=(hks i h (by simpa using h')).2
    simpa using this)
   simp only [size,List.map_cons,List.map_nil,Rows.uptoBulk,Rows.uptoBulkAll]
   omega
end
theorem Tryz.own:ownKnob Tryz.prog.godebug=none:=by kernel_rfl
theorem Tryz.laidOut:laidOutB Tryz.prog=true:=by kernel_rfl
theorem cellsVd:Tryz.prog.cellsOf 58=3:=by kernel_rfl
theorem bytesVd:Tryz.prog.bytesOf 58=32:=by kernel_rfl
section
variable {H:Type} {enc:TypeId×Value->H} {w:World} {held:Bool}
theorem open_row {ty E:TypeId} {n b:Nat} (ht:Tryz.prog.underlying ty=some (.slice E)) (hc:Tryz.prog.cellsOf E=n) (hb:Tryz.prog.bytesOf E=b) {fuel:Nat} {cs:List Value} {x:DataW H×List MemPlace}
  (h:DataW.trod enc Tryz.prog w 0 (fun _=>true) held fuel ty cs=some x) (hw:∀ q∈x.1.weights Tryz.prog ty,q<=reachBytes) :
  cs=[.slice none 0 0]\/∃ a len cap,cs=[.slice (some a) len cap]/\len<=cap/\cap*b<=reachBytes/\∀ i,i<len->∃ cs' y n',w.cells? 0 (a.add (i*n)) n=some cs'/\DataW.trod enc Tryz.prog w 0 (fun _=>true) held n' E cs'=some y/\∀ q∈y.1.weights Tryz.prog E,q<=reachBytes:=by
 have hsl:=DataW.trod_slice ht h
 rcases hsl with ⟨e3,e3'⟩|⟨a,len,cap,elems,rest,n',hn',e3,e3',_,hl,hm,hel,hat,hsp,_⟩
 ·exact .inl e3
 ·refine .inr ⟨a,len,cap,e3,hl,?_,?_⟩
  ·obtain ⟨hrl,_⟩:=hsp rfl
   subst e3'
   simp only [DataW.weights,ht,hb] at hw
   have:=hw _ (List.mem_cons_self ..)
   simp only [List.length_map] at this
   rw [hel,hrl] at this
   rw [show cap=len+(cap-len) by omega]
   exact this
  ·intro i hi
   subst e3'
   simp only [DataW.weights,ht,hb] at hw
   have hi':i<elems.length:=by omega
   have h1:=hat i (by omega)
   rw [List.getElem?_eq_getElem hi',hc] at h1
   obtain ⟨cs',hcs,ht'⟩:=Option.bind_eq_some_iff.1 h1
   exact ⟨cs',elems[i],n',hcs,ht',fun q hq=>hw q (List.mem_cons_of_mem _ (List.mem_append_left _ (weightsAll_mem (List.mem_map_of_mem (List.getElem_mem hi')) q hq)))⟩
theorem open_vd {fuel:Nat} {cs:List Value} {x:DataW H×List MemPlace} (h:DataW.trod enc Tryz.prog w 0 (fun _=>true) held fuel 58 cs=some x) :
  ∃ v:VD,cs=[.string v.s,.int .u8 v.k,.int .i64 v.n]/\FldV v:=by
 have hts:=DataW.trod_struct Tryz.underlying58 h
 obtain ⟨xs,n,hfu,hx,hcl,hxl,hg⟩:=hts
 rw [cellsVd] at hcl
 match cs,hcl with
 | [c0,c1,c2],_ =>
 match xs,hxl with
 | [y0,y1,y2],_ =>
 have g0:=hg 0 _ rfl
 have g1:=hg 1 _ rfl
 have g2:=hg 2 _ rfl
 obtain ⟨s,e2,e2',ws⟩:=DataW.trod_string Tryz.underlying9 g0
 obtain ⟨k,e0,e0',wk⟩:=DataW.trod_int Tryz.underlying5 g1
 obtain ⟨m,e1,e1',wm⟩:=DataW.trod_int Tryz.underlying3 g2
 injection e0 with e0
 injection e1 with e1
 injection e2 with e2
 subst e0 e1 e2
 refine ⟨⟨s,k,m⟩,rfl,ws,?_,?_⟩
 ·have:=wk; simp [Lit.wf,IntKind.min,IntKind.max,IntKind.signed,IntKind.bits] at this; constructor<;>simp only<;>omega
 ·have:=wm; simp [Lit.wf,IntKind.min,IntKind.max,IntKind.signed,IntKind.bits] at this; constructor<;>simp only<;>omega
theorem choose_list {α:Type} [Inhabited α] {n:Nat} {P:Nat->α->Prop} (h:∀ i,i<n->∃ x,P i x):∃ l:List α,l.length=n/\∀ i (hi:i<l.length),P i l[i]:=by
 obtain ⟨f,hf⟩:=choose_lt h
 exact ⟨(List.range n).map f,by simp,fun i hi=>by simp only [List.getElem_map,List.getElem_range]; exact hf i (by simpa using hi)⟩
instance:Inhabited VD:=⟨⟨⟨#[]⟩,0,0⟩⟩
theorem open_varsW {fuel:Nat} {cs:List Value} {x:DataW H×List MemPlace} (h:DataW.trod enc Tryz.prog w 0 (fun _=>true) held fuel 22 cs=some x) (hw:∀ q∈x.1.weights Tryz.prog 22,q<=reachBytes) :
  ∃ (A:Option Addr) (vs:List VD) (c:Nat),cs=[.slice A vs.length c]/\RowV w Any A vs/\vs.length<=4398046510976/\vs.length<=c:=by
 rcases open_row Tryz.underlying22 cellsVd bytesVd h hw with rfl|⟨a,len,cap,rfl,hl,hcap,hat⟩
 ·exact ⟨none,[],0,rfl,fun i hi=>absurd hi (by simp),Nat.zero_le _,Nat.zero_le _⟩
 ·obtain ⟨vs,hvl,hvs⟩:=choose_list (n:=len) (P:=fun i (v:VD)=>w.cells? 0 (a.add (i*3)) 3=some [.string v.s,.int .u8 v.k,.int .i64 v.n]/\FldV v) fun i hi=>by
   obtain ⟨cs',y,n',hcs,ht,_⟩:=hat i hi
   obtain ⟨v,rfl,hf⟩:=open_vd ht
   exact ⟨v,hcs,hf⟩
  refine ⟨some a,vs,cap,by rw [hvl],fun i hi=>?_,by unfold reachBytes at hcap; omega,by omega⟩
  obtain ⟨hc,hf⟩:=hvs i hi
  obtain ⟨_,_,hcell⟩:=World.cells?_some hc
  refine ⟨a,rfl,trivial,⟨?_,?_,?_⟩,hf⟩
  ·have:=hcell 0 (by omega); simpa [Addr.add] using this
  ·have:=hcell 1 (by omega); simpa [Addr.add] using this
  ·have:=hcell 2 (by omega); simpa [Addr.add] using this
theorem open_vars {fuel:Nat} {cs:List Value} {x:DataW H×List MemPlace} (h:DataW.trod enc Tryz.prog w 0 (fun _=>true) held fuel 22 cs=some x) (hw:∀ q∈x.1.weights Tryz.prog 22,q<=reachBytes) :
  ∃ (A:Option Addr) (vs:List VD) (c:Nat),cs=[.slice A vs.length c]/\RowV w Any A vs/\vs.length<=LV/\vs.length<=c:=by
 obtain ⟨A,vs,c,h1,h2,h3,h4⟩:=open_varsW h hw
 exact ⟨A,vs,c,h1,h2,by unfold LV; omega,h4⟩
instance:Inhabited T:=⟨zeroT'⟩
theorem nv_parts {t:T} {u0 u1 u2 u3:Value} (h:NV w Any t (.agg #[u0,u1,u2,u3])):∃ A c,u0=.int .u8 t.k/\u1=.int .i64 t.n/\u2=.string t.s/\u3=.slice A t.ks.length c/\NV w Any t (nv t.k t.n t.s A t.ks.length c):=by
 obtain ⟨A,c,e,_⟩:=h.open_
 have e':=e
 simp only [nv,Value.agg.injEq,Array.mk.injEq,List.cons.injEq,and_true] at e
 exact ⟨A,c,e.1,e.2.1,e.2.2.1,e.2.2.2,e'▸h⟩
end
theorem cellsI:Tryz.prog.cellsOf 30=1:=by kernel_rfl
theorem bytesI64:Tryz.prog.bytesOf 3=8:=by kernel_rfl
theorem bytesI:Tryz.prog.bytesOf 30=24:=by kernel_rfl
theorem cellsState:Tryz.prog.cellsOf 32=3:=by kernel_rfl
section
variable {H:Type} {enc:TypeId×Value->H} {w:World} {held:Bool}
theorem cell0 {a:Addr} {u:Value} (h:w.cells? 0 a 1=some [u]):w.cell? a=some u:=by
 obtain ⟨_,_,hcell⟩:=World.cells?_some h
 have:=hcell 0 (by omega)
 have e:a.add 0=a:=by
  obtain ⟨b,o,l⟩:=a
  rcases l with _|⟨l1,l2⟩<;>simp [Addr.add]
 rw [e] at this
 simpa using this
theorem open_rowI {fuel:Nat} {cs:List Value} {x:DataW H×List MemPlace} (h:DataW.trod enc Tryz.prog w 0 (fun _=>true) held fuel 30 cs=some x) (hw:∀ q∈x.1.weights Tryz.prog 30,q<=reachBytes) :
  ∃ (A:Option Addr) (l:List Int) (c:Nat),cs=[.slice A l.length c]/\RowI w Any A l/\l.length<=LI/\l.length<=c:=by
 rcases open_row Tryz.underlying30 cellsI64 bytesI64 h hw with rfl|⟨a,len,cap,rfl,hl,hcap,hat⟩
 ·exact ⟨none,[],0,rfl,fun i hi=>absurd hi (by simp),Nat.zero_le _,Nat.zero_le _⟩
 ·obtain ⟨l,hvl,hvs⟩:=choose_list (n:=len) (P:=fun i (x:Int)=>w.cells? 0 (a.add (i*1)) 1=some [.int .i64 x]/\I64 x) fun i hi=>by
   obtain ⟨cs',y,n',hcs,ht,_⟩:=hat i hi
   obtain ⟨m,e1,e1',wm⟩:=DataW.trod_int Tryz.underlying3 ht
   refine ⟨m,by rw [hcs,e1],?_⟩
   have:=wm
   simp [Lit.wf,IntKind.min,IntKind.max,IntKind.signed,IntKind.bits] at this
   constructor<;>omega
  refine ⟨some a,l,cap,by rw [hvl],fun i hi=>?_,by unfold LI; unfold reachBytes at hcap; omega,by omega⟩
  obtain ⟨hc,hf⟩:=hvs i hi
  rw [Nat.mul_one] at hc
  exact ⟨a,rfl,trivial,cell0 hc,hf⟩
instance:Inhabited (List Int):=⟨[]⟩
theorem open_rowII {fuel:Nat} {cs:List Value} {x:DataW H×List MemPlace} (h:DataW.trod enc Tryz.prog w 0 (fun _=>true) held fuel 29 cs=some x) (hw:∀ q∈x.1.weights Tryz.prog 29,q<=reachBytes) :
  ∃ (A:Option Addr) (ls:List (List Int)) (c:Nat),cs=[.slice A ls.length c]/\RowII w Any A ls/\ls.length<=LI/\(∀ l∈ls,l.length<=LI)/\ls.length<=c:=by
 rcases open_row Tryz.underlying29 cellsI bytesI h hw with rfl|⟨a,len,cap,rfl,hl,hcap,hat⟩
 ·exact ⟨none,[],0,rfl,fun i hi=>absurd hi (by simp),Nat.zero_le _,by simp,Nat.zero_le _⟩
 ·obtain ⟨ls,hvl,hvs⟩:=choose_list (n:=len) (P:=fun i (l:List Int)=>∃ A' c',w.cells? 0 (a.add (i*1)) 1=some [.slice A' l.length c']/\RowI w Any A' l/\l.length<=LI/\l.length<=c') fun i hi=>by
   obtain ⟨cs',y,n',hcs,ht,hwy⟩:=hat i hi
   obtain ⟨A',l,c',e,hr,h1,h2⟩:=open_rowI ht hwy
   exact ⟨l,A',c',by rw [hcs,e],hr,h1,h2⟩
  refine ⟨some a,ls,cap,by rw [hvl],fun i hi=>?_,by unfold LI; unfold reachBytes at hcap; omega,fun l hl=>?_,by omega⟩
  ·obtain ⟨A',c',hc,hr,h1,h2⟩:=hvs i hi
   rw [Nat.mul_one] at hc
   exact ⟨a,A',c',rfl,trivial,cell0 hc,h2,hr⟩
  ·obtain ⟨i,hi,rfl⟩:=List.mem_iff_getElem.1 hl
   obtain ⟨A',c',hc,hr,h1,h2⟩:=hvs i hi
   exact h1
theorem open_state {fuel:Nat} {cs:List Value} {x:DataW H×List MemPlace} (h:DataW.trod enc Tryz.prog w 0 (fun _=>true) held fuel 32 cs=some x) (hw:∀ q∈x.1.weights Tryz.prog 32,q<=reachBytes) :
  ∃ (s:SS) (u0 u1 u2:Value),cs=[u0,u1,u2]/\SV w Any s (.agg #[u0,u1,u2]):=by
 have hts:=DataW.trod_struct Tryz.underlying32 h
 obtain ⟨xs,n,hfu,hx,hcl,hxl,hg⟩:=hts
 subst hx
 rw [cellsState] at hcl
 match cs,hcl with
 | [c0,c1,c2],_ =>
 match xs,hxl with
 | [y0,y1,y2],_ =>
 have g0:=hg 0 _ rfl
 have g1:=hg 1 _ rfl
 have g2:=hg 2 _ rfl
 have hw0:∀ q∈y0.1.weights Tryz.prog 29,q<=reachBytes:=fun q hq=>by
  refine hw q ?_
  simp only [List.map_cons,List.map_nil,DataW.weights,Tryz.underlying32]
  simp only [DataW.weightsEach,List.mem_append]
  exact .inl hq
 have hw1:∀ q∈y1.1.weights Tryz.prog 30,q<=reachBytes:=fun q hq=>by
  refine hw q ?_
  simp only [List.map_cons,List.map_nil,DataW.weights,Tryz.underlying32]
  simp only [DataW.weightsEach,List.mem_append]
  exact .inr (.inl hq)
 have hw2:∀ q∈y2.1.weights Tryz.prog 30,q<=reachBytes:=fun q hq=>by
  refine hw q ?_
  simp only [List.map_cons,List.map_nil,DataW.weights,Tryz.underlying32]
  simp only [DataW.weightsEach,List.mem_append]
  exact .inr (.inr (.inl hq))
 obtain ⟨A0,ls,k0,e0,hr0,hl0,hl0',hc0⟩:=open_rowII g0 hw0
 obtain ⟨A1,l1,k1,e1,hr1,hl1,hc1⟩:=open_rowI g1 hw1
 obtain ⟨A2,l2,k2,e2,hr2,hl2,hc2⟩:=open_rowI g2 hw2
 injection e0 with e0
 injection e1 with e1
 injection e2 with e2
 subst e0 e1 e2
 exact ⟨⟨ls,l1,l2⟩,_,_,_,rfl,A0,k0,A1,k1,A2,k2,rfl,hr0,hr1,hr2,hc0,hc1,hc2,hl0,hl0',hl1,hl2⟩
theorem state_in {W:World} {base:Nat} {v:Value} {d:DataW H} {p:List MemPlace} (hok:Value.okWide Tryz.prog W .any base 32 v)
  (h:DataW.Trod enc Tryz.prog W 0 (fun _=>true) true 32 v d p) (hw:∀ n∈d.weights Tryz.prog 32,n<=reachBytes):∃ s,SV W Any s v:=by
 obtain ⟨cs,rfl,hcs⟩:=okWide_struct Tryz.underlying32 hok
 obtain ⟨fuel,hf⟩:=h
 obtain ⟨s,u0,u1,u2,e,hs⟩:=open_state hf hw
 refine ⟨s,?_⟩
 have:cs = #[u0,u1,u2]:=by
  apply Array.ext'
  simpa [Value.cells] using e
 rw [this]
 exact hs
end
theorem cellsPr:Tryz.prog.cellsOf 61=6:=by kernel_rfl
theorem bytesPr:Tryz.prog.bytesOf 61=96:=by kernel_rfl
theorem cellsPg:Tryz.prog.cellsOf 28=6:=by kernel_rfl
section
variable {H:Type} {enc:TypeId×Value->H} {w:World} {held:Bool}
instance:Inhabited PR:=⟨⟨⟨#[]⟩,[],zeroT'⟩⟩
theorem open_proc {fuel:Nat} {cs:List Value} {x:DataW H×List MemPlace} (h:DataW.trod enc Tryz.prog w 0 (fun _=>true) held fuel 61 cs=some x) (hw:∀ q∈x.1.weights Tryz.prog 61,q<=reachBytes) :
  ∃ (r:PR) (A1:Option Addr) (c1:Nat) (A2:Option Addr) (c2:Nat),cs=[.string r.s,.slice A1 r.ps.length c1,.int .u8 r.b.k,.int .i64 r.b.n,.string r.b.s,.slice A2 r.b.ks.length c2]/\PrR w Any r A1 c1 A2 c2:=by
 have hts:=DataW.trod_struct Tryz.underlying61 h
 obtain ⟨xs,n,hfu,hx,hcl,hxl,hg⟩:=hts
 subst hx
 rw [cellsPr] at hcl
 match cs,hcl with
 | [c0,c1,c2,c3,c4,c5],_ =>
 match xs,hxl with
 | [y0,y1,y2],_ =>
 have g0:=hg 0 _ rfl
 have g1:=hg 1 _ rfl
 have g2:=hg 2 _ rfl
 have hw1:∀ q∈y1.1.weights Tryz.prog 22,q<=reachBytes:=fun q hq=>by
  refine hw q ?_
  simp only [List.map_cons,List.map_nil,DataW.weights,Tryz.underlying61]
  simp only [DataW.weightsEach,List.map_cons,List.map_nil,List.mem_append]
  exact .inr (.inl hq)
 have hw2:∀ q∈y2.1.weights Tryz.prog 26,q<=reachBytes:=fun q hq=>by
  refine hw q ?_
  simp only [List.map_cons,List.map_nil,DataW.weights,Tryz.underlying61]
  simp only [DataW.weightsEach,List.map_cons,List.map_nil,List.mem_append]
  exact .inr (.inr (.inl hq))
 obtain ⟨s,e0,_,ws⟩:=DataW.trod_string Tryz.underlying9 g0
 obtain ⟨A1,ps,k1,e1,hrow,hlp,hlc⟩:=open_vars g1 hw1
 obtain ⟨t,u0,u1,u2,u3,e2,hn,_,_⟩:=open_node _ _ _ g2 hw2
 obtain ⟨A2,k2,rfl,rfl,rfl,rfl,hn'⟩:=nv_parts hn
 injection e0 with e0
 injection e1 with e1
 change List.take (Tryz.prog.cellsOf 26) [c2,c3,c4,c5]=_ at e2
 rw [cellsNode] at e2
 simp only [List.take_succ_cons,List.take_zero,List.cons.injEq,and_true] at e2
 obtain ⟨rfl,rfl,rfl,rfl⟩:=e2
 subst e0 e1
 exact ⟨⟨s,ps,t⟩,A1,k1,A2,k2,rfl,ws,hrow,hlp,hlc,hn'⟩
theorem open_procs {fuel:Nat} {cs:List Value} {x:DataW H×List MemPlace} (h:DataW.trod enc Tryz.prog w 0 (fun _=>true) held fuel 23 cs=some x) (hw:∀ q∈x.1.weights Tryz.prog 23,q<=reachBytes) :
  ∃ (A:Option Addr) (ps:List PR) (c:Nat),cs=[.slice A ps.length c]/\RowP w Any A ps/\ps.length<=LV/\ps.length<=c:=by
 rcases open_row Tryz.underlying23 cellsPr bytesPr h hw with rfl|⟨a,len,cap,rfl,hl,hcap,hat⟩
 ·exact ⟨none,[],0,rfl,fun i hi=>absurd hi (by simp),Nat.zero_le _,Nat.zero_le _⟩
 ·obtain ⟨ps,hvl,hvs⟩:=choose_list (n:=len) (P:=fun i (r:PR)=>∃ A1 c1 A2 c2,w.cells? 0 (a.add (i*6)) 6=some [.string r.s,.slice A1 r.ps.length c1,.int .u8 r.b.k,.int .i64 r.b.n,.string r.b.s,.slice A2 r.b.ks.length c2]/\PrR w Any r A1 c1 A2 c2) fun i hi=>by
   obtain ⟨cs',y,n',hcs,ht,hwy⟩:=hat i hi
   obtain ⟨r,A1,c1,A2,c2,rfl,hr⟩:=open_proc ht hwy
   exact ⟨r,A1,c1,A2,c2,hcs,hr⟩
  refine ⟨some a,ps,cap,by rw [hvl],fun i hi=>?_,by unfold LV; unfold reachBytes at hcap; omega,by omega⟩
  obtain ⟨A1,c1,A2,c2,hc,hr⟩:=hvs i hi
  obtain ⟨_,_,hcell⟩:=World.cells?_some hc
  refine ⟨a,A1,c1,A2,c2,rfl,trivial,⟨?_,?_,?_,?_,?_,?_⟩,hr⟩
  ·have:=hcell 0 (by omega); simpa [Addr.add] using this
  ·have:=hcell 1 (by omega); simpa [Addr.add] using this
  ·have:=hcell 2 (by omega); simpa [Addr.add] using this
  ·have:=hcell 3 (by omega); simpa [Addr.add] using this
  ·have:=hcell 4 (by omega); simpa [Addr.add] using this
  ·have:=hcell 5 (by omega); simpa [Addr.add] using this
theorem open_prog {fuel:Nat} {cs:List Value} {x:DataW H×List MemPlace} (h:DataW.trod enc Tryz.prog w 0 (fun _=>true) held fuel 28 cs=some x) (hw:∀ q∈x.1.weights Tryz.prog 28,q<=reachBytes) :
  ∃ (p:PG) (A1:Option Addr) (c1:Nat) (A2:Option Addr) (c2:Nat) (A3:Option Addr) (c3:Nat),cs=[.slice A1 p.vs.length c1,.slice A2 p.prs.length c2,.int .u8 p.m.k,.int .i64 p.m.n,.string p.m.s,.slice A3 p.m.ks.length c3]/\PgR w Any p A1 c1 A2 c2 A3 c3:=by
 have hts:=DataW.trod_struct Tryz.underlying28 h
 obtain ⟨xs,n,hfu,hx,hcl,hxl,hg⟩:=hts
 subst hx
 rw [cellsPg] at hcl
 match cs,hcl with
 | [c0,c1,c2,c3,c4,c5],_ =>
 match xs,hxl with
 | [y0,y1,y2],_ =>
 have g0:=hg 0 _ rfl
 have g1:=hg 1 _ rfl
 have g2:=hg 2 _ rfl
 have hw0:∀ q∈y0.1.weights Tryz.prog 22,q<=reachBytes:=fun q hq=>by
  refine hw q ?_
  simp only [List.map_cons,List.map_nil,DataW.weights,Tryz.underlying28]
  simp only [DataW.weightsEach,List.map_cons,List.map_nil,List.mem_append]
  exact .inl hq
 have hw1:∀ q∈y1.1.weights Tryz.prog 23,q<=reachBytes:=fun q hq=>by
  refine hw q ?_
  simp only [List.map_cons,List.map_nil,DataW.weights,Tryz.underlying28]
  simp only [DataW.weightsEach,List.map_cons,List.map_nil,List.mem_append]
  exact .inr (.inl hq)
 have hw2:∀ q∈y2.1.weights Tryz.prog 26,q<=reachBytes:=fun q hq=>by
  refine hw q ?_
  simp only [List.map_cons,List.map_nil,DataW.weights,Tryz.underlying28]
  simp only [DataW.weightsEach,List.map_cons,List.map_nil,List.mem_append]
  exact .inr (.inr (.inl hq))
 obtain ⟨A1,vs,k1,e0,hrow,hlv,hlvc⟩:=open_vars g0 hw0
 obtain ⟨A2,ps,k2,e1,hrp,hlp,hlpc⟩:=open_procs g1 hw1
 obtain ⟨t,u0,u1,u2,u3,e2,hn,_,_⟩:=open_node _ _ _ g2 hw2
 obtain ⟨A3,k3,rfl,rfl,rfl,rfl,hn'⟩:=nv_parts hn
 injection e0 with e0
 injection e1 with e1
 change List.take (Tryz.prog.cellsOf 26) [c2,c3,c4,c5]=_ at e2
 rw [cellsNode] at e2
 simp only [List.take_succ_cons,List.take_zero,List.cons.injEq,and_true] at e2
 obtain ⟨rfl,rfl,rfl,rfl⟩:=e2
 subst e0 e1
 exact ⟨⟨vs,ps,t⟩,A1,k1,A2,k2,A3,k3,rfl,hrow,hlv,hlvc,hrp,hlp,hlpc,hn'⟩
end
theorem prog_in {H:Type} {enc:TypeId×Value->H} {W:World} {base:Nat} {v:Value} {d:DataW H} {p:List MemPlace} (hok:Value.okWide Tryz.prog W .any base 28 v)
  (h:DataW.Trod enc Tryz.prog W 0 (fun _=>true) true 28 v d p) (hw:∀ n∈d.weights Tryz.prog 28,n<=reachBytes):∃ g,PV W Any g v:=by
 obtain ⟨cs,rfl,hcs⟩:=okWide_struct Tryz.underlying28 hok
 obtain ⟨fuel,hf⟩:=h
 obtain ⟨g,A1,c1,A2,c2,A3,c3,e,hr⟩:=open_prog hf hw
 refine ⟨g,A1,c1,A2,c2,A3,c3,?_,hr⟩
 have:cs = #[.slice A1 g.vs.length c1,.slice A2 g.prs.length c2,.int .u8 g.m.k,.int .i64 g.m.n,.string g.m.s,.slice A3 g.m.ks.length c3]:=by
  apply Array.ext'
  simpa [Value.cells] using e
 rw [this]
end Go.Proofs.YtgnfpcebmefhoaaGreat
