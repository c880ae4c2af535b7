/-
  Texts of the proof, put together without their remarks: Rev2, Cq, Ia, Rcp, Scl, Nz.
-/
import Derived.Test.YtckhofdinldhpaaGreatR10
import Derived.Tactics
import Derived.Tactics2
import Derived.Defers
set_option linter.unusedSimpArgs false
set_option linter.unusedVariables false
set_option maxHeartbeats 8000000
set_option maxRecDepth 100000
namespace Go.Proofs.YtckhofdinldhpaaGreat
open Go Go.RowKit
def OkN (u:T):Prop:=rejE u=0/\(u.k=54->menB (kid u 0) u.s=false/\menB (kid u 2) u.s=false)
structure RvT (prs:List PR) (t:T):Prop where
 gp:GP prs t
 ok:∀ u∈po t,OkN u
 pr:∀ q∈prs,∀ u∈po q.b,OkN u
theorem zzH (t:T):t∈po t:=by obtain⟨k,n,s,ks⟩:=t;simp[po]
theorem zxG {t u:T} (h:u∈t.ks):∀ w∈po u,w∈po t:=by
 obtain⟨k,n,s,ks⟩:=t;exact fun w hw=>by simp only[po,List.mem_cons];exact .inr (zk8.2 ⟨u,h,hw⟩)
theorem ztr {t u:T} {i:Nat} (h:u∈(kid t i).ks):∀ w∈po u,w∈po t:=by
 unfold kid at h;rw[List.getD_eq_getElem?_getD] at h;rcases hk:t.ks[i]? with _|v
 ·rw[hk] at h;simp[nil0] at h
 ·rw[hk] at h;exact fun w hw=>zxG (List.mem_of_getElem? hk) w (zxG h w hw)
theorem RvT.own {prs:List PR} {t:T} (h:RvT prs t):OkN t:=h.ok t (zzH t)
theorem RvT.two {prs:List PR} {t:T} (h:RvT prs t) (hk:t.k=52\/t.k=53):(∀ u∈(kid t 1).ks,RvT prs u)/\∀ u∈(kid t 2).ks,RvT prs u:=by
 obtain⟨-,h1,h2⟩:=zs9.two prs t h.gp hk;exact⟨fun u hu=>⟨h1 u hu,fun w hw=>h.ok w (ztr hu w hw),h.pr⟩,fun u hu=>⟨h2 u hu,fun w hw=>h.ok w (ztr hu w hw),h.pr⟩⟩
theorem RvT.loc {prs:List PR} {t:T} (h:RvT prs t) (hk:t.k=54):t.ks.length=3/\∀ u∈(kid t 1).ks,RvT prs u:=by
 obtain⟨h0,h1⟩:=zs9.loc prs t h.gp hk;exact⟨h0,fun u hu=>⟨h1 u hu,fun w hw=>h.ok w (ztr hu w hw),h.pr⟩⟩
theorem RvT.stk {prs:List PR} {t:T} (h:RvT prs t) (hk:t.k=55):∀ u∈(kid t 0).ks,RvT prs u:=by
 obtain⟨-,h1⟩:=zs9.stk prs t h.gp hk;exact fun u hu=>⟨h1 u hu,fun w hw=>h.ok w (ztr hu w hw),h.pr⟩
theorem RvT.cal {prs:List PR} {t:T} (h:RvT prs t) (hk:t.k=50\/t.k=51):∀ i,prcI prs t.s=some i->∀ u∈(prs.getD i ⟨⟨#[]⟩,[],nil0⟩).b.ks,RvT prs u:=by
 intro i hi;obtain⟨j,q,hj,hq,h1⟩:=zs9.cal prs t h.gp hk;rw[hi] at hj;injection hj with hj;subst hj;rw[getD_some hq];exact fun u hu=>⟨h1 u hu,fun w hw=>h.pr q (List.mem_of_getElem? hq) w (zxG hu w hw),h.pr⟩
def NdS (S:ST):Prop:=S.base.cs.Nodup/\∀ f∈S.calls,f.cs.Nodup
theorem NdS.cur {S:ST} (h:NdS S):S.cur.cs.Nodup:=by
 rcases Nat.eq_zero_or_pos S.calls.length with h0|h0
 ·rw[zmj h0];exact h.1
 ·rw[zmC h0];exact h.2 _ (List.getElem_mem _)
theorem NdS.of {S S':ST} (h:NdS S) (h1:S'.base=S.base) (h2:S'.calls=S.calls):NdS S':=by unfold NdS;rw[h1,h2];exact h
theorem NdS.keep {r r':RS} (h:NdS r.S) (hk:Keep r r'):NdS r'.S:=h.of hk.base hk.calls
theorem NdS.setCur {S:ST} (h:NdS S) {f:FR} (hf:f.cs.Nodup):NdS (S.setCur f):=by
 unfold ST.setCur
 split
 ·exact⟨hf,h.2⟩
 ·refine⟨h.1,fun g hg=>?_⟩;rcases List.mem_or_eq_of_mem_set hg with hg|rfl
  ·exact h.2 g hg
  ·exact hf
theorem NdS.open_ {S:ST} (h:NdS S) (hw:S.WF) (l:List Int) (v:VD):NdS ((S.newCell l).setCur (S.cur.push v S.nc)):=by
 obtain⟨kd,hc⟩:=hw.cur;refine NdS.setCur (S:=S.newCell l) h ?_
 show(S.cur.cs++[S.nc]).Nodup
 rw[List.nodup_append];refine⟨h.cur,by simp,fun a ha b hb=>?_⟩;obtain rfl:=List.mem_singleton.1 hb;have:=hc.num a ha;omega
theorem zxZ {ks:List T} {s:ByteArray} (h:hasN ks s=false):∀ t∈ks,(t.s.toList==s.toList)=false:=by
 unfold hasN at h;rw[List.any_eq_false] at h;exact fun t ht=>by simpa using h t ht
theorem zyn {t:T} {ks:List T} (h:dupB (t::ks)=false):(∀ u∈ks,(t.s.toList==u.s.toList)=false)/\dupB ks=false:=by
 unfold dupB at h ⊢;rw[List.any_eq_false] at h ⊢;refine⟨fun u hu=>?_,fun j hj=>?_⟩
 ·obtain⟨j,hj,rfl⟩:=List.getElem_of_mem hu;have:=h (j+1) (by simp;omega);simp only[List.take_succ_cons,List.getD_cons_succ,Bool.not_eq_true] at this;rw[List.getD_eq_getElem?_getD,List.getElem?_eq_getElem hj] at this;exact zxZ this t (List.mem_cons_self ..)
 ·have:=h (j+1) (by simp at hj ⊢;omega);simp only[List.take_succ_cons,List.getD_cons_succ,Bool.not_eq_true] at this;simp only[Bool.not_eq_true];unfold hasN at this ⊢;simp only[List.any_cons,Bool.or_eq_false_iff] at this;exact this.2
theorem zwG {f:FR} {s:ByteArray} {i:Nat} (h:f.at s=some i):∃ v,f.vs[i]?=some v/\(v.s.toList==s.toList)=true:=znn h
theorem zq7 {f:FR} (hf:f.cs.Nodup) (hl:f.cs.length=f.vs.length):∀ (ps:List VD) (ts:List T) (acc g:FR),dupB ts=false->acc.cs.Nodup->(∀ c∈acc.cs,∀ t∈ts,∀ i,f.at t.s=some i->f.cs[i]?≠some c)->entL f acc (ps.zip (ts.map (·.s)))=.ok g->g.cs.Nodup/\g.loc=acc.loc\/g.cs.Nodup/\g.loc=0
 | [],ts,acc,g,_,ha,_,h=>by
  simp only[List.zip_nil_left,entL,Except.ok.injEq] at h;subst h;exact .inl ⟨ha,rfl⟩
 | p::ps,[],acc,g,_,ha,_,h=>by
  simp only[List.map_nil,List.zip_nil_right,entL,Except.ok.injEq] at h;subst h;exact .inl ⟨ha,rfl⟩
 | p::ps,t::ts,acc,g,hd,ha,hx,h=>by
  simp only[List.map_cons,List.zip_cons_cons] at h;rw[entL] at h;obtain⟨hd1,hd2⟩:=zyn hd
  cases hat:f.at t.s with
  | none=>rw[hat] at h;cases h
  | some i =>
   rw[hat] at h;dsimp only at h;have hi:i<f.cs.length:=by rw[hl];exact FR.at_lt hat
   have hci:f.cs[i]?=some (f.cs.getD i 0):=by rw[List.getD_eq_getElem?_getD,List.getElem?_eq_getElem hi];rfl
   split at h
   ·have:=zq7 hf hl ps ts ⟨acc.vs++[p],acc.cs++[f.cs.getD i 0],0⟩ g hd2 (by
     rw[List.nodup_append];refine⟨ha,by simp,fun a ha' b hb e=>?_⟩;obtain rfl:=List.mem_singleton.1 hb;exact hx a ha' t (List.mem_cons_self ..) i hat (by rw[e];exact hci)) (fun c hc u hu j hj=>?_) h
    ·rcases this with h1|h1
     ·exact .inr h1
     ·exact .inr h1
    ·simp only at hc;rcases List.mem_append.1 hc with hc|hc
     ·exact hx c hc u (List.mem_cons_of_mem _ hu) j hj
     ·obtain rfl:=List.mem_singleton.1 hc;intro e;have hj':j<f.cs.length:=by rw[hl];exact FR.at_lt hj
      rw[<-hci] at e;rw[List.getElem?_eq_getElem hj',List.getElem?_eq_getElem hi] at e;injection e with e;have hij:j=i:=(List.getElem_inj hf).1 e;subst hij;obtain⟨v,a1,a2⟩:=zwG hat;obtain⟨v',b1,b2⟩:=zwG hj;rw[a1] at b1;injection b1 with b1;subst b1;rw[beq_iff_eq] at a2 b2;have:=hd1 u hu;rw[<-a2,<-b2] at this;simp at this
   ·cases h
def RevR (F:Int) (f:RS->Out) (r r':RS):Prop:=r.n<=r'.n/\∀ x:RS,Eqv r'.S x.S->(x.n:Int)+(r'.n-r.n:Nat)<=F->∃ x',f x=.ok x'/\Eqv r.S x'.S/\x'.n=x.n+(r'.n-r.n)
section
variable {F:Int} {f f':RS->Out} {r r1 r':RS} {t:T}
theorem RevR.trans (h:RevR F f r r1) (h':RevR F f' r1 r'):RevR F (fun x=>(f' x).bind f) r r':=by
 obtain⟨a1,a2⟩:=h;obtain⟨b1,b2⟩:=h';refine⟨by omega,fun x hx hF=>?_⟩;obtain⟨x1,c1,c2,c3⟩:=b2 x hx (by omega);obtain⟨x2,d1,d2,d3⟩:=a2 x1 c2 (by omega);exact⟨x2,by show(f' x).bind f=_;rw[c1];exact d1,d2,by omega⟩
theorem zlF {x:RS} (h:(x.n:Int)<F):zkw F x=.ok { x with n:=x.n+1 }:=by
 unfold zkw;rw[if_neg (by omega)]
theorem zqK {x:RS} {S:ST} {g:Int->RS->Out} (hl:zkH x.S.look t=zkH S.look t) (h0:(zkH S.look t).2=0):valO t x g=g (zkH S.look t).1 x:=by
 unfold valO;rw[hl,if_neg (by rw[h0];decide)]
theorem zno {x:RS} {S:ST} {g:Bool->RS->Out} (hn:(x.n:Int)<F) (hl:zkH x.S.look t=zkH S.look t) (h0:(zkH S.look t).2=0):zk0 F t x g=g (decide ((zkH S.look t).1≠0)) { x with n:=x.n+1 }:=by
 unfold zk0;rw[zlF hn]
 show valO t { x with n:=x.n+1 } (fun v r=>g (decide (v≠0)) r)=_
 exact zqK (S:=S) hl h0
theorem znU {x:RS} {S:ST} {b:Bool} (hn:(x.n:Int)<F) (hl:zkH x.S.look t=zkH S.look t) (h0:(zkH S.look t).2=0) (hb:decide ((zkH S.look t).1≠0)=b):zkn F t b x=.ok { x with n:=x.n+1 }:=by
 unfold zkn;rw[zno (S:=S) hn hl h0,if_pos hb]
theorem Eqv.look {S S':ST} (h:Eqv S S'):S'.look=S.look:=by
 obtain⟨ρ,h⟩:=h;exact h.look
theorem zln {x:RS} {R:Int×ST} (h:R.1=0):zkf x R=.ok { x with S:=R.2 }:=by
 unfold zkf;rw[if_neg (by rw[h];decide)]
theorem zng (g:T->RS->Out):∀ (a b:List T) (r:RS),zkp g (a++b) r=(zkp g a r).bind (zkp g b)
 | [],b,r=>rfl
 | t::a,b,r=>by
  rw[List.cons_append,zkp,zkp]
  cases h:g t r with
  | gas=>rfl
  | err e=>rfl
  | ok r1=>exact zng g a b r1
def UnS (F:Int) (g gr:T->RS->Out) (t:T):Prop:=∀ r r',RInv r->NdS r.S->g t r=.ok r'->RevR F (gr t) r r'/\RInv r'/\NdS r'.S
theorem zoi {g gr:T->RS->Out}:∀ (l:List T),(∀ t∈l,UnS F g gr t)->∀ (r r':RS),RInv r->NdS r.S->zkp g l r=.ok r'->RevR F (zkp gr l.reverse) r r'/\RInv r'/\NdS r'.S
 | [],_,r,r',hr,hn,h=>by
  injection h with h;subst h;exact⟨⟨Nat.le_refl _,fun x hx _=>⟨x,rfl,hx,by omega⟩⟩,hr,hn⟩
 | t::l,hu,r,r',hr,hn,h=>by
  rw[zkp] at h;obtain⟨r1,h1,h2⟩:=zkq h;obtain⟨a1,a2,a3⟩:=hu t (List.mem_cons_self ..) r r1 hr hn h1;obtain⟨b1,b2,b3⟩:=zoi l (fun u hu'=>hu u (List.mem_cons_of_mem _ hu')) r1 r' a2 a3 h2;refine⟨?_,b2,b3⟩;have e:zkp gr (t::l).reverse=fun x=>(zkp gr l.reverse x).bind (gr t):=by
   funext x;rw[List.reverse_cons,zng]
   cases zkp gr l.reverse x with
   | gas=>rfl
   | err e=>rfl
   | ok y =>
    show(gr t y).bind (zkp gr [])=gr t y
    cases gr t y<;>rfl
  rw[e];exact a1.trans b1
def zwr (F:Int) (gr:T->RS->Out) (entry test:T) (l1 l2:List T) (mm:Nat) (y:RS):Out :=
 zk0 F entry y fun b y=>if b=true then .ok y else (zkp gr l2.reverse y).bind fun y=>(zkn F test false y).bind (zk9 F gr test entry l1.reverse l2.reverse mm)
theorem zqg (gr:T->RS->Out) (entry test:T) (l1 l2:List T) (mm:Nat) (x:RS):zk9 F gr test entry l1.reverse l2.reverse (mm+1) x=(zkp gr l1.reverse x).bind (zwr F gr entry test l1 l2 mm):=rfl
theorem zrE (hF:F<=1000000) {g gr:T->RS->Out} {entry test:T} {l1 l2:List T} (h1:∀ t∈l1,UnS F g gr t) (h2:∀ t∈l2,UnS F g gr t) :
  ∀ (m:Nat) (r r':RS),RInv r->NdS r.S->zk9 F g entry test l1 l2 m r=.ok r'->RInv r'/\NdS r'.S/\r.n<=r'.n/\∃ k,1<=k/\k<=m /\
   ∀ (mm:Nat) (x:RS),Eqv r'.S x.S->(x.n:Int)+(r'.n-r.n:Nat)<=F->∃ y:RS,Eqv r.S y.S/\y.n=x.n+(r'.n-r.n)/\(zkn F test true x).bind (zk9 F gr test entry l1.reverse l2.reverse (mm+k))=zwr F gr entry test l1 l2 mm y
 | 0,_,_,_,_,h=>by cases h
 | m+1,r,r',hr,hn,h=>by
  rw[zk9] at h;obtain⟨ra,ha,h⟩:=zkq h;obtain⟨⟨a0,a1⟩,a2,a3⟩:=zoi l1 h1 r ra hr hn ha;obtain⟨hn1,hv1,h⟩:=zm9 h;have t1:=a2.tick hF hn1
  split at h
  ·rename_i hb;injection h with h;subst h;refine⟨t1,a3,by simp only;omega,1,Nat.le_refl _,by omega,fun mm x hx jo=>?_⟩;simp only at hx jo ⊢;have hl:zkH x.S.look test=zkH ra.S.look test:=by rw[hx.look]
   rw[znU (S:=ra.S) (by omega) hl hv1 hb];obtain⟨y,c1,c2,c3⟩:=a1 { x with n:=x.n+1 } hx (by simp only;omega);refine⟨y,c2,by simp only at c3;omega,?_⟩
   show zk9 F gr test entry l1.reverse l2.reverse (mm+1) { x with n:=x.n+1 }=_
   rw[zqg,c1];rfl
  ·rename_i hb;obtain⟨rb,hbb,h⟩:=zkq h;obtain⟨⟨b0,b1⟩,b2,b3⟩:=zoi l2 h2 _ rb t1 a3 hbb;simp only at b0;obtain⟨rc,hc,h⟩:=zkq h;obtain⟨hn2,hv2,hb2,rfl⟩:=zlR hc;have t2:=b2.tick hF hn2;obtain⟨i1,i2,i0,k,k1,k2,i3⟩:=zrE hF h1 h2 m _ r' t2 b3 h;simp only at i0;refine⟨i1,i2,by omega,k+1,by omega,by omega,fun mm x hx jo=>?_⟩;obtain⟨y0,y1,y2,y3⟩:=i3 (mm+1) x hx (by simp only;omega);simp only at y1 y2;have hl0:zkH y0.S.look entry=zkH rb.S.look entry:=by rw[y1.look]
   have e1:zwr F gr entry test l1 l2 (mm+1) y0=(zkp gr l2.reverse { y0 with n:=y0.n+1 }).bind fun y=>(zkn F test false y).bind (zk9 F gr test entry l1.reverse l2.reverse (mm+1)):=by
    unfold zwr;rw[zno (S:=rb.S) (by omega) hl0 hv2,hb2];simp
   obtain⟨z1,z2,z3,z4⟩:=b1 { y0 with n:=y0.n+1 } y1 (by simp only;omega);simp only at z3 z4;have hl1:zkH z1.S.look test=zkH ra.S.look test:=by rw[z3.look]
   have hbf:decide ((zkH ra.S.look test).1≠0)=false:=by simpa using hb
   obtain⟨w,w1,w2,w3⟩:=a1 { z1 with n:=z1.n+1 } z3 (by simp only;omega);simp only at w3;refine⟨w,w2,by omega,?_⟩;rw[show mm+(k+1)=mm+1+k by omega,y3,e1,z2]
   show(zkn F test false z1).bind _=_
   rw[znU (S:=ra.S) (by omega) hl1 hv1 hbf]
   show zk9 F gr test entry l1.reverse l2.reverse (mm+1) { z1 with n:=z1.n+1 }=_
   rw[zqg,w1];rfl
end
theorem zrF {S S':ST} {f:FR} {v:VD} {id:Nat} (hf:f.cs.length=f.vs.length) (h1:S.cur=f) (h2:S'.cur=f.push v id) (hc:∀ c∈f.cs,S'.cell c=S.cell c) (s:ByteArray) (hs:(s.toList==v.s.toList)=false):S'.look s=S.look s:=by
 have e:S'.num s=S.num s:=by
  unfold ST.num FR.at
  rw[h1,h2]
  show(zlv (f.vs++[v]) s (f.vs++[v]).length).bind _=_
  have e1:zlv (f.vs++[v]) s (f.vs++[v]).length=zlv f.vs s f.vs.length:=by
   rw[show(f.vs++[v]).length=f.vs.length+1 by simp,zov (by simp)];have:(f.vs++[v])[f.vs.length]=v:=by simp
   rw[this,if_neg (by
    intro h;rw[beq_iff_eq] at h;rw[<-h] at hs;simp at hs)]
   have key:∀ j,j<=f.vs.length->zlv (f.vs++[v]) s j=zlv f.vs s j:=by
    intro j
    induction j with
    | zero=>intro _;rfl
    | succ j ih =>
     intro hj;rw[zlv,zlv,List.getElem?_append_left (by omega),ih (by omega)]
   exact key _ (Nat.le_refl _)
  rw[e1]
  cases hl:zlv f.vs s f.vs.length with
  | none=>rfl
  | some i =>
   have hi:i<f.cs.length:=by rw[hf];exact zn9 hl
   show(f.cs++[id])[i]?=f.cs[i]?
   rw[List.getElem?_append_left hi]
 unfold ST.look;rw[e]
 cases hn:S.num s with
 | none=>rfl
 | some c =>
  simp only[Option.map_some,Option.some.injEq];refine hc c ?_;unfold ST.num at hn;obtain⟨i,-,h4⟩:=Option.bind_eq_some_iff.1 hn;rw[h1] at h4;exact List.mem_of_getElem? h4
theorem zkI (S:ST) (f:FR):(S.setCur f).cell=S.cell/\(S.setCur f).nc=S.nc/\(S.setCur f).tin=S.tin/\(S.setCur f).tout=S.tout:=by
 unfold ST.setCur
 split<;>exact⟨rfl,rfl,rfl,rfl⟩
theorem zqC {S:ST} (h:S.WF) {v:VD} {x:Int} (h0:(zkv S v x).1=0):(zku (zkv S v x).2 v.s x).1=0/\Eqv S (zku (zkv S v x).2 v.s x).2:=by
 obtain⟨kd,hc⟩:=h.cur;obtain⟨h1,h2,h3⟩:=zmJ h0;obtain⟨kd2,hb,hcl,-⟩:=h.ex;have bT:(zkv S v x).2.cur=S.cur.push v S.nc:=by rw[h3,zni]
 have hcell:∀ j,(zkv S v x).2.cell j=if j=S.nc then (if v.k=1 then [x] else []) else S.cell j:=fun j=>by
  rw[h3,(zkI _ _).1];rfl
 have hlv:znO (S.cur.push v S.nc)=v:=by simp[znO,FR.push]
 have hlc:zpv (S.cur.push v S.nc)=S.nc:=by
  have:(S.cur.vs++[v]).length-1=S.cur.cs.length:=by simp[hc.len]
  show(S.cur.cs++[S.nc]).getD ((S.cur.vs++[v]).length-1) 0=S.nc
  rw[this];simp
 have e:zku (zkv S v x).2 v.s x=(0,(zkv S v x).2.setCur S.cur):=by
  unfold zku;rw[bT,hlv,hlc,hcell,if_pos rfl,ztn hc.len,if_neg (by simp[FR.push]),if_neg];rintro(⟨e1,e2⟩|⟨e1,e2⟩)
  ·rw[if_pos e1] at e2;exact e2 rfl
  ·rw[if_neg (by omega)] at e2;simp at e2
 rw[e];refine⟨rfl,?_⟩;obtain⟨hbs,hcs⟩:((zkv S v x).2.setCur S.cur).base=S.base/\((zkv S v x).2.setCur S.cur).calls=S.calls:=by
  rw[h3];have hs:=znK S;unfold ST.setCur at hs ⊢;by_cases h9:S.calls.length=0
  ·rw[if_pos (show(S.newCell _).calls.length=0 from h9)];dsimp only;rw[if_pos (show(S.newCell _).calls.length=0 from h9)];exact⟨by rw[zmj h9],rfl⟩
  ·rw[if_neg (show ¬ (S.newCell _).calls.length=0 from h9)];rw[if_neg h9] at hs;have hl:((S.newCell (if v.k=1 then [x] else [])).calls.set ((S.newCell (if v.k=1 then [x] else [])).calls.length-1) (S.cur.push v S.nc)).length=S.calls.length:=by simp[ST.newCell]
   dsimp only;rw[if_neg (by rw[hl];exact h9)];refine⟨rfl,?_⟩;dsimp only;rw[hl]
   show(S.calls.set (S.calls.length-1) _).set (S.calls.length-1) S.cur=S.calls
   rw[List.set_set];exact congrArg ST.calls hs
 have hnc:((zkv S v x).2.setCur S.cur).nc=S.nc+1:=by
  rw[(zkI _ _).2.1,h3,(zkI _ _).2.1];rfl
 have hce:∀ j,((zkv S v x).2.setCur S.cur).cell j=(zkv S v x).2.cell j:=fun j=>by
  rw[(zkI _ _).1]
 have htp:((zkv S v x).2.setCur S.cur).tin=S.tin/\((zkv S v x).2.setCur S.cur).tout=S.tout:=by
  rw[(zkI _ _).2.2.1,(zkI _ _).2.2.2,h3,(zkI _ _).2.2.1,(zkI _ _).2.2.2];exact⟨rfl,rfl⟩
 have key:∀ f:FR,f.WF kd2 S.nc->FrR (fun a b=>a=b/\a<S.nc) f f:=fun f hf=>⟨rfl,rfl,rfl,⟨hf.len,hf.loc⟩,fun i a b ha hb=>by
  rw[ha] at hb;injection hb with hb;exact⟨hb,hf.num a (List.mem_of_getElem? ha)⟩⟩
 refine⟨fun a b=>a=b/\a<S.nc,⟨by rintro a b b' ⟨rfl,_⟩ ⟨rfl,_⟩;rfl,by rintro a a' b ⟨rfl,_⟩ ⟨rfl,_⟩;rfl,by rintro a b ⟨rfl,h⟩;exact⟨h,by rw[hnc];omega⟩,?_,by rw[hbs];exact key _ hb,by rw[hcs],fun i f g hf hg=>?_,htp.1,htp.2⟩⟩
 ·rintro a b ⟨rfl,h9⟩;rw[hce,hcell,if_neg (by omega)]
 ·rw[hcs,hf] at hg;injection hg with hg;subst hg;exact key f (hcl f (List.mem_of_getElem? hf))
theorem zqc {S S3:ST} (h:S.WF) (h3w:S3.WF) {v:VD} {x y:Int} (h0:(zkv S v x).1=0) (hb:S3.base=(zkv S v x).2.base) (hcl:S3.calls=(zkv S v x).2.calls) (hn:(zkv S v x).2.nc<=S3.nc) (h1:(zku S3 v.s y).1=0) :
  (zkv (zku S3 v.s y).2 v y).1=0/\Eqv S3 (zkv (zku S3 v.s y).2 v y).2:=by
 obtain⟨kd,hc⟩:=h.cur;obtain⟨o1,o2,o3⟩:=zmJ h0;obtain⟨c1,c2,c3,c4,c5⟩:=zpO h1;obtain⟨k1,k2,k3⟩:=znl hc.len h0 hb hcl hn h1;obtain⟨kd0,hwb,hwc,-⟩:=h.ex;have dH:S3.cur=S.cur.push v S.nc:=by
  obtain⟨Sx,hSx⟩:∃ Sx,zkv S v x=Sx:=⟨_,rfl⟩
  have hx:Sx.2.cur=S.cur.push v S.nc:=by rw[<-hSx,o3,zni]
  rw[hSx] at hb hcl;have:S3.cur=Sx.2.cur:=by unfold ST.cur;rw[hb,hcl]
  rw[this,hx]
 have hlv:znO (S.cur.push v S.nc)=v:=by simp[znO,FR.push]
 have hlc:zpv (S.cur.push v S.nc)=S.nc:=by
  have:(S.cur.vs++[v]).length-1=S.cur.cs.length:=by simp[hc.len]
  show(S.cur.cs++[S.nc]).getD ((S.cur.vs++[v]).length-1) 0=S.nc
  rw[this];simp
 rw[dH,hlv,hlc] at c3 c4
 -- the cell of the local
 have hnc3:S.nc<S3.nc:=by
  rw[o3] at hn;have:((S.newCell (if v.k=1 then [x] else [])).setCur (S.cur.push v S.nc)).nc=S.nc+1:=(zkI _ _).2.1;omega
 have hcell:S3.cell S.nc=if v.k=1 then [y] else []:=by
  obtain⟨kd3,hw3,hk3⟩:=h3w.cur2;rcases o2 with e|e
  ·rw[if_pos e];have hlen:(S3.cell S.nc).length=1:=by
    have hm:S.cur.vs.length<S3.cur.vs.length:=by rw[dH];simp[FR.push]
    have hm2:S.cur.vs.length<S3.cur.cs.length:=by rw[hw3.len];exact hm
    have hkk:S3.cur.vs[S.cur.vs.length].k=1:=by
     have:S3.cur.vs[S.cur.vs.length]?=some v:=by rw[dH];simp[FR.push]
     rw[List.getElem?_eq_getElem hm] at this;injection this with this;rw[this];exact e
    have:=zrH h3w hm hm2 hkk;have hcc:S3.cur.cs[S.cur.vs.length]=S.nc:=by
     have:S3.cur.cs[S.cur.vs.length]?=some S.nc:=by rw[dH];show(S.cur.cs++[S.nc])[S.cur.vs.length]?=_;rw[<-hc.len];simp
     rw[List.getElem?_eq_getElem hm2] at this;injection this
    rw[hcc] at this;exact this
   obtain⟨z,hz⟩:=List.length_eq_one_iff.1 hlen;have:=c3 e;rw[hz] at this ⊢;simp at this;rw[this]
  ·rw[if_neg (by omega)];exact c4 e
 have hcurc:(zku S3 v.s y).2.cur=S.cur:=by unfold ST.cur;rw[k1,k2]
 have hcel:∀ j,(zku S3 v.s y).2.cell j=S3.cell j:=fun j=>by
  rw[c5,(zkI _ _).1]
 have mM:(zku S3 v.s y).2.nc=S3.nc:=by
  rw[c5,(zkI _ _).2.1]
 have pR:(zku S3 v.s y).2.tin=S3.tin/\(zku S3 v.s y).2.tout=S3.tout:=by
  rw[c5];exact⟨(zkI _ _).2.2.1,(zkI _ _).2.2.2⟩
 obtain⟨Q,hQ⟩:∃ Q,(zku S3 v.s y).2=Q:=⟨_,rfl⟩
 rw[hQ] at k1 k2 hcurc hcel mM pR ⊢;have rR:v.n=0:=by
  have:¬ ¬ ((v.k=1\/v.k=3)/\v.n=0):=fun hx=>by
   unfold zkv at h0;rw[if_pos hx] at h0
   cases h0
  exact(Decidable.not_not.1 this).2
 have eo:zkv Q v y=(0,(Q.newCell (if v.k=1 then [y] else [])).setCur (S.cur.push v S3.nc)):=by
  unfold zkv;rw[if_neg (by simp[o2,rR]),hcurc,o1,mM];rfl
 rw[eo];refine⟨rfl,?_⟩
 -- the correspondence: the local's cell,all others as they are
 have hold:∀ f:FR,f.WF kd0 S.nc->FrR (fun a b=>(a=b/\a<S3.nc/\a≠S.nc)\/(a=S.nc/\b=S3.nc)) f f:=fun f hf=>⟨rfl,rfl,rfl,⟨hf.len,hf.loc⟩,fun i a b ha hb=>by
  rw[ha] at hb;injection hb with hb;have:=hf.num a (List.mem_of_getElem? ha);exact .inl ⟨hb,by omega,by omega⟩⟩
 have hwcur:S.cur.WF kd0 S.nc:=by
  rcases Nat.eq_zero_or_pos S.calls.length with h9|h9
  ·rw[zmj h9];exact hwb
  ·rw[zmC h9];exact hwc _ (List.getElem_mem _)
 have hpush:FrR (fun a b=>(a=b/\a<S3.nc/\a≠S.nc)\/(a=S.nc/\b=S3.nc)) (S.cur.push v S.nc) (S.cur.push v S3.nc):=(hold _ hwcur).snoc v (.inr ⟨rfl,rfl⟩) _ (by have:=hwcur.loc;omega);have hsame:S3=S3.setCur (S.cur.push v S.nc):=by rw[<-dH,znK]
 have hR:EqR (fun a b=>(a=b/\a<S3.nc/\a≠S.nc)\/(a=S.nc/\b=S3.nc)) { S3 with base:=S.base,calls:=S.calls } (Q.newCell (if v.k=1 then [y] else [])):=by
  refine⟨fun a b b' h1 h2=>by omega,fun a a' b h1 h2=>by omega,fun a b h1=>?_,fun a b h1=>?_,?_,?_,fun i f g hf hg=>?_,?_,?_⟩
  ·show a<S3.nc/\b<Q.nc+1
   rw[mM];omega
  ·show(if b=Q.nc then _ else Q.cell b)=S3.cell a
   rw[mM];rcases h1 with⟨rfl,h8,h9⟩|⟨rfl,rfl⟩
   ·rw[if_neg (by omega),hcel]
   ·rw[if_pos rfl,hcell]
  ·show FrR _ S.base Q.base
   rw[k1];exact hold _ hwb
  ·show S.calls.length=Q.calls.length
   rw[k2]
  ·have hg':Q.calls[i]?=some g:=hg;have hf':S.calls[i]?=some f:=hf;rw[k2,hf'] at hg';injection hg' with hg';subst hg';exact hold f (hwc f (List.mem_of_getElem? hf'))
  ·exact pR.1
  ·exact pR.2
 have:=hR.setCur hpush;have e9:({ S3 with base:=S.base,calls:=S.calls }:ST).setCur (S.cur.push v S.nc)=S3:=by
  rw[o3] at hb hcl;unfold ST.setCur at hb hcl ⊢;by_cases h9:S.calls.length=0
  ·rw[if_pos (show(S.newCell _).calls.length=0 from h9)] at hb hcl;rw[if_pos h9];dsimp only at hb hcl ⊢;rw[<-hb,show S.calls=S3.calls from hcl.symm]
  ·rw[if_neg (show ¬ (S.newCell _).calls.length=0 from h9)] at hb hcl;rw[if_neg h9];dsimp only at hb hcl ⊢;rw[show S.base=S3.base from hb.symm];have:S.calls.set (S.calls.length-1) (S.cur.push v S.nc)=S3.calls:=hcl.symm;rw[this]
 rw[e9] at this;exact⟨_,this⟩
theorem zm5 (r:RS) (f:RS->Out):(Out.ok r).bind f=f r:=rfl
theorem zzV (back:Bool) (t:T):fstT (!back) t=lstT back t:=by unfold fstT lstT;cases back<;>rfl
theorem zzQ (back:Bool) (t:T):lstT (!back) t=fstT back t:=by unfold fstT lstT;cases back<;>rfl
theorem zra (back:Bool) (b:T):blkL (!back) b=(blkL back b).reverse:=by unfold blkL;cases back<;>simp
theorem zof {prs:List PR} {F:Int} (hF:F<=1000000) (hp:PrB prs):∀ (g:Nat) (back:Bool) (t:T),RvT prs t->LitB t->UnS F (zkk prs F g back) (zkk prs F g (!back)) t
 | 0,_,_,_,_=>fun r r' _ _ h=>by cases h
 | g+1,back,t,ht,hl=>fun r r' hr hn h=>by
  obtain⟨hk1,hk2⟩:=zlC hF hp (g+1) back t r r' hl hr h;refine⟨?_,hk1,hn.keep hk2⟩;have hb:∀ back (b:T),(∀ u∈b.ks,RvT prs u)->LitB b->∀ r r',RInv r->NdS r.S->zkp (zkk prs F g back) (blkL back b) r=.ok r'->RevR F (zkp (zkk prs F g (!back)) (blkL (!back) b)) r r'/\RInv r'/\NdS r'.S:=fun back b hb hlb r r' hr hn h=>by
   rw[zra];exact zoi (blkL back b) (fun u hu=>zof hF hp g back u (hb u (zkR hu)) (hlb.block (zkR hu))) r r' hr hn h
  have kC:LitB (fstT back t):=by unfold fstT;split<;>exact hl.kidD _
  unfold RevR;rw[zkk] at h;simp only[zkk];rw[zzV,zzQ]
  split at h
  ·rename_i dL;simp only[if_pos dL];obtain⟨hn1,hv1,h⟩:=zm9 h;obtain⟨r1,h1,h2⟩:=zkq h;obtain⟨⟨b0,b1⟩,b2,b3⟩:=hb back _ (by split;exact(ht.two (.inl dL)).1;exact(ht.two (.inl dL)).2) (by split<;>exact hl.kidD _) _ r1 (hr.tick hF hn1) hn h1;(try simp only at b0 b1);obtain⟨hn2,hv2,hb2,rfl⟩:=zlR h2;refine⟨by simp only;omega,fun x hx jo=>?_⟩;simp only at hx jo ⊢;rw[zno (S:=r1.S) (by omega) (by rw[hx.look]) hv2,hb2];obtain⟨y,c1,c2,c3⟩:=b1 { x with n:=x.n+1 } hx (by simp only;omega);(try simp only at c3);rw[c1];refine⟨{ y with n:=y.n+1 },?_,c2,by simp only;omega⟩
   show zkn F (fstT back t) _ y=_
   rw[znU (S:=r.S) (by omega) (by rw[c2.look]) hv1 rfl]
  rename_i dL
  split at h
  ·rename_i eD;simp only[if_neg dL,if_pos eD];obtain⟨ra,ha,h⟩:=zkq h;obtain⟨hn1,hv1,hb1,rfl⟩:=zlR ha;obtain⟨i1,i2,i0,k,k1,k2,i3⟩:=zrE hF (gr:=zkk prs F g (!back)) (fun u hu=>zof hF hp g back u ((ht.two (.inr eD)).1 u (zkR hu)) ((hl.kidD 1).block (zkR hu))) (fun u hu=>zof hF hp g back u ((ht.two (.inr eD)).2 u (zkR hu)) ((hl.kidD 2).block (zkR hu))) g _ r' (hr.tick hF hn1) hn h;(try simp only at i0);refine⟨by omega,fun x hx jo=>?_⟩;obtain⟨y,y1,y2,y3⟩:=i3 (g-k) x hx (by simp only;omega);(try simp only at y1 y2);rw[show g-k+k=g by omega] at y3;rw[zra,zra,y3];unfold zwr;rw[zno (S:=r.S) (by omega) (by rw[y1.look]) hv1,hb1,if_pos rfl];exact⟨_,rfl,y1,by simp only;omega⟩
  rename_i eD
  split at h
  ·rename_i bu;simp only[if_neg dL,if_neg eD,if_pos bu];obtain⟨m1,m2⟩:=ht.own.2 bu;have hlen:=(ht.loc bu).1;have hm1:menB (fstT back t) t.s=false:=by unfold fstT;rw[hlen];split;exact m2;exact m1
   have hm2:menB (lstT back t) t.s=false:=by unfold lstT;rw[hlen];split;exact m1;exact m2
   obtain⟨r1,h1,h⟩:=zkq h;obtain⟨rfl,hn1⟩:=zky h1;obtain⟨hv1,h⟩:=zo9 h;(try simp only at hv1 h);obtain⟨r2,h2,h⟩:=zkq h;obtain⟨e0,rfl⟩:=zkZ h2;(try simp only at e0 h);obtain⟨r3,h3,h⟩:=zkq h;have hi2:RInv { S:=(zkv r.S ⟨t.s,1,0⟩ (zkH r.S.look (fstT back t)).1).2,n:=r.n+1,ent:=r.ent }:=RInv.store hr hF hn1 (zn6 hr.wf _ (zoy hl 1 (by simp)) _ (LitB.expr hr.wf kC) (by have:=hr.fb.cur;have:=hr.n;omega)) (hr.fb.open_ _ _);have ko:NdS (zkv r.S ⟨t.s,1,0⟩ (zkH r.S.look (fstT back t)).1).2:=by
    rw[(zmJ e0).2.2];exact hn.open_ hr.wf _ _
   obtain⟨⟨b0,b1⟩,b2,b3⟩:=hb back (kid t 1) ((ht.loc bu).2) (hl.kidD 1) _ r3 hi2 ko h3;(try simp only at b0 b1);have hkp:=(zlQ _ _ r3 (fun u hu r r' hr h=>zlC hF hp g back u r r' ((hl.kidD 1).block (zkR hu)) hr h) hi2 h3).2;obtain⟨r4,h4,h⟩:=zkq h;obtain⟨rfl,hn2⟩:=zky h4;obtain⟨hv2,h⟩:=zo9 h;(try simp only at hv2 h);obtain⟨e1,rfl⟩:=zkZ h;(try simp only at e1);obtain⟨g1,g2⟩:=zqc hr.wf b2.wf e0 hkp.base hkp.calls hkp.nc e1;obtain⟨g3,g4⟩:=zqC hr.wf e0;refine⟨by simp only;omega,fun x hx jo=>?_⟩;simp only at hx jo ⊢;obtain⟨ρ,hρ⟩:=hx;obtain⟨kd,hc⟩:=hr.wf.cur;obtain⟨o1,o2,o3⟩:=zmJ e0;obtain⟨l1,l2,l3,l4,l5⟩:=zpO e1;obtain⟨k1,k2,k3⟩:=znl hc.len e0 hkp.base hkp.calls hkp.nc e1;have hcur2:(zkv r.S ⟨t.s,1,0⟩ (zkH r.S.look (fstT back t)).1).2.cur=r.S.cur.push ⟨t.s,1,0⟩ r.S.nc:=by rw[o3,zni]
   have dH:r3.S.cur=r.S.cur.push ⟨t.s,1,0⟩ r.S.nc:=hkp.cur.trans hcur2;have hlx:zkH x.S.look (lstT back t)=zkH r3.S.look (lstT back t):=by
    rw[hρ.look];refine zoz (nms:=[t.s]) (fun s hs=>?_) _ fun nm hnm=>by obtain rfl:=List.mem_singleton.1 hnm;exact hm2
    refine(zrF hc.len ?_ dH (fun c _=>?_) s (hs t.s (by simp))).symm
    ·unfold ST.cur;rw[k1,k2]
    ·rw[l5,(zkI _ _).1]
   obtain⟨ρ2,p1,p2⟩:=zpp hρ ⟨t.s,1,0⟩ (zkH r3.S.look (lstT back t)).1;have q1:(zkv x.S ⟨t.s,1,0⟩ (zkH r3.S.look (lstT back t)).1).1=0:=p1.trans g1;obtain⟨y,c1,c2,c3⟩:=b1 { x with n:=x.n+1,S:=(zkv x.S ⟨t.s,1,0⟩ (zkH r3.S.look (lstT back t)).1).2 } (g2.trans ⟨ρ2,p2 g1⟩) (by simp only;omega);(try simp only at c3);have uP:zkH y.S.look (fstT back t)=zkH r.S.look (fstT back t):=by
    rw[c2.look];refine zoz (nms:=[t.s]) (fun s hs=>?_) _ fun nm hnm=>by obtain rfl:=List.mem_singleton.1 hnm;exact hm1
    refine zrF hc.len rfl hcur2 (fun c hcc=>?_) s (hs t.s (by simp));rw[o3,(zkI _ _).1];have:=hc.num c hcc
    show(if c=r.S.nc then _ else _)=_
    rw[if_neg (by omega)]
   obtain⟨ρ3,sS⟩:=c2;obtain⟨p3,p4⟩:=zoB sS t.s (zkH r.S.look (fstT back t)).1;refine⟨{ S:=(zku y.S t.s (zkH r.S.look (fstT back t)).1).2,n:=y.n+1,ent:=y.ent },?_,g4.trans ⟨ρ3,p4 g3⟩,by simp only;omega⟩;rw[zlF (by omega)];simp only[zm5];rw[zqK (x:={ x with n:=x.n+1 }) (S:=r3.S) hlx hv2,zln (by exact q1)];simp only[zm5];rw[c1];simp only[zm5];rw[zlF (by omega)];simp only[zm5];rw[zqK (x:={ y with n:=y.n+1 }) (S:=r.S) uP hv1,zln (by exact p3.trans g3)]
  rename_i bu
  split at h
  ·rename_i cK;simp only[if_neg dL,if_neg eD,if_neg bu,if_pos cK];obtain⟨r1,h1,h⟩:=zkq h;obtain⟨rfl,hn1⟩:=zky h1;(try simp only at h);obtain⟨r2,h2,h⟩:=zkq h;obtain⟨e0,rfl⟩:=zkZ h2;(try simp only at e0 h);obtain⟨r3,h3,h⟩:=zkq h;have hi2:RInv { S:=(zkv r.S ⟨t.s,3,0⟩ 0).2,n:=r.n+1,ent:=r.ent }:=RInv.store hr hF hn1 (zn6 hr.wf _ (zoy hl 3 (by simp)) _ zero_I64 (by have:=hr.fb.cur;have:=hr.n;omega)) (hr.fb.open_ _ _);have ko:NdS (zkv r.S ⟨t.s,3,0⟩ 0).2:=by
    rw[(zmJ e0).2.2];exact hn.open_ hr.wf _ _
   obtain⟨⟨b0,b1⟩,b2,b3⟩:=hb back (kid t 0) (ht.stk cK) (hl.kidD 0) _ r3 hi2 ko h3;(try simp only at b0 b1);have hkp:=(zlQ _ _ r3 (fun u hu r r' hr h=>zlC hF hp g back u r r' ((hl.kidD 0).block (zkR hu)) hr h) hi2 h3).2;obtain⟨r4,h4,h⟩:=zkq h;obtain⟨rfl,hn2⟩:=zky h4;(try simp only at h);obtain⟨e1,rfl⟩:=zkZ h;(try simp only at e1);obtain⟨g1,g2⟩:=zqc hr.wf b2.wf e0 hkp.base hkp.calls hkp.nc e1;obtain⟨g3,g4⟩:=zqC hr.wf e0;refine⟨by simp only;omega,fun x hx jo=>?_⟩;simp only at hx jo ⊢;obtain⟨ρ,hρ⟩:=hx;obtain⟨ρ2,p1,p2⟩:=zpp hρ ⟨t.s,3,0⟩ 0;have q1:(zkv x.S ⟨t.s,3,0⟩ 0).1=0:=p1.trans g1;obtain⟨y,c1,c2,c3⟩:=b1 { x with n:=x.n+1,S:=(zkv x.S ⟨t.s,3,0⟩ 0).2 } (g2.trans ⟨ρ2,p2 g1⟩) (by simp only;omega);(try simp only at c3);obtain⟨ρ3,sS⟩:=c2;obtain⟨p3,p4⟩:=zoB sS t.s 0
   refine⟨{ S:=(zku y.S t.s 0).2,n:=y.n+1,ent:=y.ent },?_,g4.trans ⟨ρ3,p4 g3⟩,by simp only;omega⟩;rw[zlF (by omega)]
   show(zkf { x with n:=x.n+1 } _).bind _=_
   rw[zln (by exact q1)]
   show(zkp _ _ { x with n:=x.n+1,S:=_ }).bind _=_
   rw[c1]
   show(zkw F y).bind _=_
   rw[zlF (by omega)]
   show zkf { y with n:=y.n+1 } _=_
   rw[zln (by exact p3.trans g3)]
  rename_i cK
  split at h
  ·rename_i h50;simp only[if_neg dL,if_neg eD,if_neg bu,if_neg cK,if_pos h50]
   split at h
   ·cases h
   ·rename_i i hi;(try rw[hi]);(try dsimp only);obtain⟨q1,q2,q3⟩:=hp.getD i;have hdup:dupB t.ks=false:=by
     have:=ht.own.1;obtain⟨k,n,s,ks⟩:=t;rw[zl4] at this;simp only[T.k_nd] at h50 dL eD;rw[if_neg (by omega),if_neg (by omega),if_neg (by omega),if_neg (by omega),if_neg (by omega),if_pos h50] at this
     cases hd:dupB ks with
     | true=>rw[hd] at this;cases this
     | false=>exact hd
    obtain⟨q,hq⟩:∃ q,prs.getD i ⟨⟨#[]⟩,[],nil0⟩=q:=⟨_,rfl⟩
    have hRq:=ht.cal h50 i hi;rw[hq] at h q1 q2 q3 hRq ⊢;obtain⟨r1,h1,h⟩:=zkq h;obtain⟨rfl,hn1⟩:=zky h1;obtain⟨r2,h2,h⟩:=zkq h;obtain⟨e0,rfl⟩:=zkZ h2;(try simp only at e0 h);obtain⟨r3,h3,h⟩:=zkq h;obtain⟨f,f1,f2,f3,f4⟩:=zpJ e0;obtain⟨kd,hc⟩:=hr.wf.cur;have ko:NdS (zkT r.S q.ps (t.ks.map (·.s))).2:=by
     rw[f4];refine⟨hn.1,fun g hg=>?_⟩;rcases List.mem_append.1 hg with hg|hg
     ·exact hn.2 g hg
     ·obtain rfl:=List.mem_singleton.1 hg;rcases zq7 hn.cur hc.len q.ps t.ks ⟨[],[],0⟩ g hdup (by simp) (by simp) f2 with h8|h8<;>exact h8.1
    have hloc:f.loc=0:=by
     rcases zq7 hn.cur hc.len q.ps t.ks ⟨[],[],0⟩ f hdup (by simp) (by simp) f2 with h8|h8<;>exact h8.2
    have i1:=RInv.store hr hF hn1 (zpK hr.wf _ (t.ks.map (·.s)) q2 (by omega)) (hr.fb.enter _ _ q3);have hbd:=fun hI hN=>hb (back != decide (t.k=51)) q.b hRq q1 _ r3 hI hN h3;obtain⟨⟨b0,b1⟩,b2,b3⟩:=hbd ⟨i1.wf,i1.fb,i1.n⟩ ko;have hkp:=fun hI=>(zlQ _ _ r3 (fun u hu r r' hr h=>zlC hF hp g _ u r r' (q1.block (zkR hu)) hr h) hI h3).2;have hkp:=hkp ⟨i1.wf,i1.fb,i1.n⟩;(try simp only at b0 b1);obtain⟨r4,h4,h⟩:=zkq h;obtain⟨rfl,hn2⟩:=zky h4;obtain⟨e1,rfl⟩:=zkZ h;(try simp only at e1);obtain⟨v1,v2⟩:=zrG e1;have c3:r3.S.calls=r.S.calls++[f]:=by rw[hkp.calls];simp only;rw[f4]
    have c3b:r3.S.base=r.S.base:=by rw[hkp.base];simp only;rw[f4]
    refine⟨by simp only;omega,fun x hx jo=>?_⟩;simp only at hx jo ⊢
    -- Leave,then Enter
    have nU:zkT (zla r3.S).2 q.ps (t.ks.map (·.s))=(0,r3.S):=by
     rw[v2,c3];have ht1:(r.S.calls++[f]).take ((r.S.calls++[f]).length-1)=r.S.calls:=by simp
     rw[ht1];have bT:({ r3.S with calls:=r.S.calls }:ST).cur=r.S.cur:=by unfold ST.cur;dsimp only;rw[c3b]
     unfold zkT;rw[if_neg (by simpa using f1),bT,f2];unfold entR;dsimp only;rw[if_neg (by omega),<-c3]
    have hS1:zla (zkT r.S q.ps (t.ks.map (·.s))).2=(0,r.S):=by
     rw[f4];have bT:({ r.S with calls:=r.S.calls++[f] }:ST).cur=f:=by unfold ST.cur;simp
     unfold zla;rw[bT,hloc,if_neg (by simp)];simp
    obtain⟨ρ,hρ⟩:=hx;obtain⟨p1,p2⟩:=zqA hρ q.ps (t.ks.map (·.s));rw[nU] at p1 p2;have hbk:((!back) != decide (t.k=51)) = !(back != decide (t.k=51)):=by cases back<;>cases decide (t.k=51)<;>rfl
    rw[hbk];obtain⟨y,c1,c2,c4⟩:=b1 { S:=(zkT x.S q.ps (t.ks.map (·.s))).2,n:=x.n+1,ent:=x.ent.set i (x.ent.getD i 0+1) } ⟨ρ,p2 rfl⟩ (by simp only;omega);(try simp only at c4);obtain⟨ρ3,sS⟩:=c2;obtain⟨p3,p4⟩:=zqi sS;rw[hS1] at p3 p4;refine⟨{ S:=(zla y.S).2,n:=y.n+1,ent:=y.ent },?_,⟨ρ3,p4 rfl⟩,by simp only;omega⟩;rw[zlF (by omega)]
    show(zkf { x with n:=x.n+1 } _).bind _=_
    rw[zln (by exact p1)]
    show(zkp _ _ { S:=(zkT x.S q.ps (t.ks.map (·.s))).2,n:=x.n+1,ent:=x.ent.set i (x.ent.getD i 0+1) }).bind _=_
    rw[c1]
    show(zkw F y).bind _=_
    rw[zlF (by omega)]
    show zkf { y with n:=y.n+1 } _=_
    rw[zln (by exact p3)]
  ·rename_i h50;simp only[if_neg dL,if_neg eD,if_neg bu,if_neg cK,if_neg h50];obtain⟨r1,h1,h⟩:=zkq h;obtain⟨rfl,hn1⟩:=zky h1;obtain⟨e0,rfl⟩:=zkZ h;(try simp only at e0);refine⟨by simp only;omega,fun x hx jo=>?_⟩;simp only at hx jo ⊢;rw[zlF (by omega)];obtain⟨ρ,hρ⟩:=hx
   cases back
   ·simp only[Bool.false_eq_true,if_false] at e0 hρ;obtain⟨p1,p2⟩:=zrn hρ t;have hu:=ztT hr.wf hn.cur ht.own.1 e0;rw[hu] at p1 p2;refine⟨{ S:=(zlp x.S t).2,n:=x.n+1,ent:=x.ent },?_,⟨ρ,p2 rfl⟩,by simp only;omega⟩
    show zkf { x with n:=x.n+1 } (zlp x.S t)=_
    rw[zln p1]
   ·simp only[if_true] at e0 hρ;obtain⟨p1,p2⟩:=zsS hρ t;have hu:=zxn hr.wf hn.cur ht.own.1 e0;rw[hu] at p1 p2;refine⟨{ S:=(doE x.S t).2,n:=x.n+1,ent:=x.ent },?_,⟨ρ,p2 rfl⟩,by simp only;omega⟩
    show zkf { x with n:=x.n+1 } (doE x.S t)=_
    rw[zln p1]
mutual
theorem zy5:∀ t:T,(po t).length=size t
 | .nd k n s ks=>by rw[po,size,List.length_cons,zvq ks];omega
theorem zvq:∀ ks:List T,(pos ks).length=zkK ks
 | []=>by simp[pos,zkK]
 | t::ts=>by rw[pos,zkK,List.length_append,zy5 t,zvq ts]
end
def rjP (ps:List PR):Nat:=(ps.map fun r=>rejN (po r.b)).sum
def rjT (p:PG):Nat:=rjP p.prs+rejN (po p.m)
theorem zsX {t:T} (h:zk1 t=true):dep t<=1000/\(po t).length<=2000/\∀ x∈po t,zwP x:=by
 obtain⟨⟨h1,h2⟩,h3⟩:=(zmf t).1 h;exact⟨by omega,by rw[zy5];exact h2,zxB (.inr (.inr h3)) (by omega)⟩
theorem zxz {ps:List PR} {j:Nat} (h:j<ps.length):rjP (ps.take (j+1))=rjP (ps.take j)+rejN (po ps[j].b):=by
 unfold rjP;rw[List.take_succ_eq_append_getElem h,List.map_append,List.sum_append];simp
theorem zKL {ps:List PR} (h:∀ r∈ps,zk1 r.b=true):rjP ps<=ps.length*2000:=by
 induction ps with
 | nil=>simp[rjP]
 | cons r rs ih =>
  have h1:=ih fun r hr=>h r (List.mem_cons_of_mem _ hr);have h2:=(zsX (h r List.mem_cons_self)).2.1;have h3:=zqO (po r.b);simp only[rjP,List.map_cons,List.sum_cons,List.length_cons] at *
  omega
theorem zmX {p:PG} (h:zkE p=true):(∀ r∈p.prs,zk1 r.b=true)/\zk1 p.m=true/\p.prs.length<=64:=by
 unfold zkE at h;simp only[Bool.and_eq_true,List.all_eq_true,decide_eq_true_eq] at h;refine⟨fun r hr=>?_,h.2,h.1.1.1.2⟩;have:=h.1.2 r hr;unfold zoQ at this;simp only[Bool.and_eq_true] at this;exact this.2
theorem zxf (p:PG) (v:Value) (w:World) (hv:PV w Any p v) (hval:zkE p=true) (hch:chkN p=0):Calls Tryz.prog 54 #[v] w fun e w'=>∃ A c,e=.returned (.slice A (rjT p) c)/\Below w.heap.size w w':=by
 have HV:=zh hv;obtain⟨A1,c1,A2,c2,A3,c3,rfl,hr⟩:=hv;have HR:=zh hr;have HVAL:=zh (zwL hval (HV.out.later (zkb (Below.refl _ _) (.cells #[.slice A1 p.vs.length c1,.slice A2 p.prs.length c2,.int .u8 p.m.k,.int .i64 p.m.n,.string p.m.s,.slice A3 p.m.ks.length c3] 35))));have nA:=zh (show ∀ w,PV w Any p (pv A1 p.vs.length c1 A2 p.prs.length c2 p.m.k p.m.n p.m.s A3 p.m.ks.length c3)->Calls Tryz.prog 53 #[pv A1 p.vs.length c1 A2 p.prs.length c2 p.m.k p.m.n p.m.s A3 p.m.ks.length c3] w fun e w'=>∃ A c,e=.returned (.slice A 0 c)/\Below w.heap.size w w' from fun w h=>by
  have:=zoF p Any _ w h;rwa[if_pos hval,hch] at this)
 have iw:=zh (zmX hval);obtain⟨L1,hL1⟩:∃ L,p.vs.length=L:=⟨_,rfl⟩
 obtain⟨k,hk⟩:∃ k,p.m.k=k:=⟨_,rfl⟩
 obtain⟨n,hn⟩:∃ n,p.m.n=n:=⟨_,rfl⟩
 obtain⟨s,hs⟩:∃ s,p.m.s=s:=⟨_,rfl⟩
 obtain⟨l3,hl3⟩:∃ l,p.m.ks.length=l:=⟨_,rfl⟩
 rw[hL1,hk,hn,hs,hl3] at HV HVAL nA ⊢;have HM:=zh hr.main;rw[hk,hn,hs,hl3] at HM;have hlp:=zlE hr.lp;clear hr hL1 hk hn hs hl3 hval hch;go_enter Tryz.func54,Tryz.ntmps54;go_wp2_with fail;refine HVAL.out.mono ?_;rintro e w1 ⟨rfl,aa⟩;have q1:=zka (zkb (Below.refl w.heap.size w) _) aa;have hP:=zkd (heap_alloc_new w (.cells #[.slice A1 L1 c1,.slice A2 p.prs.length c2,.int .u8 k,.int .i64 n,.string s,.slice A3 l3 c3] 35)) aa;obtain⟨a0,a1,a2,a3,a4,a5⟩:=box6 hP;have HP:=zh hP;clear aa hP;go_wp2_with fail;refine(nA.out _ (HV.out.later q1)).mono ?_;rintro e w2 ⟨B0,d0,rfl,ag⟩;have q2:=zka q1 ag;have hP:=zkd HP.out ag;clear a0 a1 a2 a3 a4 a5 HP ag q1;obtain⟨a0,a1,a2,a3,a4,a5⟩:=box6 hP;have HP:=zh hP;have qH:=zh q2;clear hP q2;go_wp2_with fail;obtain⟨i0,hi0,hz0,hz1,hz2⟩:=info_parts zvm;clear a0 a1 a2 a3 a4 a5
 go_loopw [3,18] (fun x i wr=>∃ (j:Nat) (xs:List Value),j<=p.prs.length/\i=.int .i64 j/\wr.ownsRow (w.heap.size+1) 204 4 x (rjP (p.prs.take j)) xs/\(∀ u∈xs,u.oneCell'=true)/\Below w.heap.size w wr/\wr.heap[w.heap.size]?=some (.cells #[.slice A1 L1 c1,.slice A2 p.prs.length c2,.int .u8 k,.int .i64 n,.string s,.slice A3 l3 c3] 35 (0,0))) (fun _ i _=>p.prs.length-(intOf i).toNat)
 case atStart=>exact⟨0,[],Nat.zero_le _,rfl,by simpa[rjP] using World.ownsRow_nil _ _ _ _,by simp,qH.out,HP.out⟩
 case round =>
  obtain⟨j,xs,hj,rfl,hown,h1c,hbw,hbx⟩:=hrel;have kg:∃ B3 d3,u3=.slice B3 (rjP (p.prs.take j)) d3:=by
   rcases hown.2 with⟨rfl,h0⟩|⟨g,cap,cur,rfl,_⟩
   ·exact⟨_,_,by rw[h0]⟩
   ·exact⟨_,_,rfl⟩
  obtain⟨B3,d3,rfl⟩:=kg;have HOWN:=zh hown;have H1C:=zh h1c;have aN:=zh hbw;have aO:=zh hbx;have hwr:=zki hbx;have gM:rjP (p.prs.take j)<=128000:=by
   have h1:=zKL (ps:=p.prs.take j) (fun r hr=>iw.out.1 r (List.mem_of_mem_take hr));have h2:=iw.out.2.2;simp at h1;omega
  clear hown h1c hbx;by_cases hlt:j<p.prs.length
  ·obtain⟨a,r,D1,e1,D2,e2,rfl,_,Hr,⟨y0,y1,y2,y3,y4,y5⟩,hpr⟩:=(HR.out.procs.later hbw).nd hlt;have hbd:=zsX (iw.out.1 p.prs[j] (List.getElem_mem hlt));rw[Hr.out] at hbd;have xU:=zh hbd;have bX:=zh hpr.body;have hrl:rejN (po r.b)<=2000:=Nat.le_trans (zqO _) hbd.2.1;have HTK:=zh (show rjP (p.prs.take (j+1))=rjP (p.prs.take j)+rejN (po r.b) by rw[zxz hlt,Hr.out]);obtain⟨NN,kN⟩:∃ NN,rejN (po r.b)=NN:=⟨_,rfl⟩
   rw[kN] at hrl HTK;have qM:=zh kN;clear hbd hpr hbw kN;go_wp2_with fail;refine(zqD r.b _ _ _ (bX.out.later (zkb (Below.refl _ _) _)) xU.out.1 (by have:=xU.out.2.1;omega) xU.out.2.2).mono ?_;rintro e w4 ⟨vT,ys,rfl,eU,uV,dn⟩;rw[qM.out] at eU;have hb4:=zka (zkb (Below.refl wr.heap.size wr) _) dn;have hs4:=hb4.size;have hown5:=zk7 HOWN.out hb4;have aC:=zh hb4;have HX4:=zh (zkd aO.out hb4);clear dn hb4 y0 y1 y2 y3 y4 y5;go_wp2_with (at_builtin;refine zml (P:=Tryz.prog) rfl (.tmp 23) (.tmp 27) 108 rfl (w.heap.size+1) _ 204 i0 _ 4 56 Tryz.underlying108 hi0 hz0 hz1 hz2 rfl (by decide) (.slice B3 (rjP (p.prs.take j)) d3) (rjP (p.prs.take j)) xs rfl hown5 vT NN ys rfl eU uV (by unfold maxLen;omega) (by omega) (by omega) ?_;intro v' w' h2 h3 h5)
   refine⟨⟨j+1,_,by omega,rfl,by rw[HTK.out];exact h2,fun u hu=>?_,(zka aN.out aC.out).grown h3 (by have:=aN.out.size;omega) (fun g e=>by have:=(hown5.lt g e).1;omega),?_⟩,by simp[intOf];omega⟩
   ·rw[List.mem_append] at hu;rcases hu with hu|hu
    ·exact H1C.out u hu
    ·exact uV u hu
   ·exact(h3.block _ (by omega) (fun e=>by have:=(hown5.lt _ e.symm).1;omega)).trans HX4.out
  ·obtain rfl:j=p.prs.length:=by omega
   have hmb:=zsX iw.out.2.1;have xI:=zh hmb;have hrl:rejN (po p.m)<=2000:=Nat.le_trans (zqO _) hmb.2.1;have wU:rjT p=rjP p.prs+rejN (po p.m):=rfl;have e3:p.prs.take p.prs.length=p.prs:=List.take_of_length_le (Nat.le_refl _);rw[e3] at HOWN gM ⊢;clear e3;obtain⟨NN,kN⟩:∃ NN,rejN (po p.m)=NN:=⟨_,rfl⟩
   rw[kN] at hrl wU;have qM:=zh kN;have u6:=zh wU;obtain⟨a0,a1,a2,a3,a4,a5⟩:=box6 aO.out;clear hmb kN wU hbw;go_wp2_with fail;refine(zqD p.m _ _ _ ((HM.out.later aN.out).any) xI.out.1 (by have:=xI.out.2.1;omega) xI.out.2.2).mono ?_;rintro e w4 ⟨vT,ys,rfl,eU,uV,dn⟩;rw[qM.out] at eU;have hs4:=dn.size;have hown5:=zk7 HOWN.out dn;have aC:=zh dn;clear dn a0 a1 a2 a3 a4 a5;go_wp2_with (at_builtin;refine zml (P:=Tryz.prog) rfl (.tmp 30) (.tmp 33) 108 rfl (w.heap.size+1) _ 204 i0 _ 4 56 Tryz.underlying108 hi0 hz0 hz1 hz2 rfl (by decide) (.slice B3 (rjP p.prs) d3) (rjP p.prs) xs rfl hown5 vT NN ys rfl eU uV (by unfold maxLen;omega) (by omega) (by omega) ?_;intro v' w' h2 h3 h5)
   have hvs:∃ B d,v'=.slice B (rjP p.prs+NN) d:=by
    rcases h2.2 with⟨rfl,h0⟩|⟨g,cap,cur,rfl,_⟩
    ·exact⟨_,_,by rw[h0]⟩
    ·exact⟨_,_,rfl⟩
   obtain⟨B,d,rfl⟩:=hvs;have uA:=zh (show Below w.heap.size w w' from (zka aN.out aC.out).grown h3 (by have:=aN.out.size;omega) (fun g e=>by have:=(hown5.lt g e).1;omega));clear h2 h3 h5 hown5 eU;go_wp2_with fail;go_ret;exact⟨B,d,by rw[u6.out];rfl,uA.out⟩
def okB (p:PG):Bool:=zkE p&&decide (chkN p=0)&&decide (rjT p=0)
theorem zLj (p:PG) (v:Value) (w:World) (hv:PV w Any p v):Calls Tryz.prog 18 #[v] w fun e w'=>e=.returned (.bool (okB p))/\Below w.heap.size w w':=by
 have HV:=zh hv;obtain⟨A1,c1,A2,c2,A3,c3,rfl,hr⟩:=hv;obtain⟨b,hb⟩:∃ b,okB p=b:=⟨_,rfl⟩
 obtain⟨vb,hvb⟩:∃ b,zkE p=b:=⟨_,rfl⟩
 obtain⟨N1,hN1⟩:∃ N,chkN p=N:=⟨_,rfl⟩
 obtain⟨N2,qa⟩:∃ N,rjT p=N:=⟨_,rfl⟩
 have hbb:b=(vb&&decide (N1=0)&&decide (N2=0)):=by rw[<-hb,<-hvb,<-hN1,<-qa];rfl
 rw[hb];have kX:=zh (show ∀ w,PV w Any p (pv A1 p.vs.length c1 A2 p.prs.length c2 p.m.k p.m.n p.m.s A3 p.m.ks.length c3)->Calls Tryz.prog 17 #[pv A1 p.vs.length c1 A2 p.prs.length c2 p.m.k p.m.n p.m.s A3 p.m.ks.length c3] w fun e w'=>e=.returned (.bool vb)/\Below w.heap.size w w' from fun w h=>hvb▸zmD p Any _ w h);have nA:=zh (show vb=true->∀ w,PV w Any p (pv A1 p.vs.length c1 A2 p.prs.length c2 p.m.k p.m.n p.m.s A3 p.m.ks.length c3)->Calls Tryz.prog 53 #[pv A1 p.vs.length c1 A2 p.prs.length c2 p.m.k p.m.n p.m.s A3 p.m.ks.length c3] w fun e w'=>∃ A c,e=.returned (.slice A N1 c)/\Below w.heap.size w w' from fun h0 w h=>by
  have:=zoF p Any _ w h;rwa[if_pos (hvb.trans h0),hN1] at this)
 have bO:=zh (show vb=true->N1=0->∀ w,PV w Any p (pv A1 p.vs.length c1 A2 p.prs.length c2 p.m.k p.m.n p.m.s A3 p.m.ks.length c3)->Calls Tryz.prog 54 #[pv A1 p.vs.length c1 A2 p.prs.length c2 p.m.k p.m.n p.m.s A3 p.m.ks.length c3] w fun e w'=>∃ A c,e=.returned (.slice A N2 c)/\Below w.heap.size w w' from fun h0 h1 w h=>qa▸zxf p _ w h (hvb.trans h0) (hN1.trans h1));have iV:=zh hbb;obtain⟨L1,hL1⟩:∃ L,p.vs.length=L:=⟨_,rfl⟩
 obtain⟨L2,hL2⟩:∃ L,p.prs.length=L:=⟨_,rfl⟩
 obtain⟨k,hk⟩:∃ k,p.m.k=k:=⟨_,rfl⟩
 obtain⟨n,hn⟩:∃ n,p.m.n=n:=⟨_,rfl⟩
 obtain⟨s,hs⟩:∃ s,p.m.s=s:=⟨_,rfl⟩
 obtain⟨l3,hl3⟩:∃ l,p.m.ks.length=l:=⟨_,rfl⟩
 rw[hL1,hL2,hk,hn,hs,hl3] at HV kX nA bO ⊢;clear hr hL1 hL2 hk hn hs hl3 hb hvb hN1 qa hbb;go_enter Tryz.func18,Tryz.ntmps18;go_wp2_with fail;refine(kX.out _ (HV.out.later (zkb (Below.refl _ _) _))).mono ?_;rintro e w1 ⟨rfl,aa⟩;have q1:=zka (zkb (Below.refl w.heap.size w) _) aa;have hP:=zkd (heap_alloc_new w (.cells #[.slice A1 L1 c1,.slice A2 L2 c2,.int .u8 k,.int .i64 n,.string s,.slice A3 l3 c3] 35)) aa;obtain⟨a0,a1,a2,a3,a4,a5⟩:=box6 hP;have HP:=zh hP;clear aa hP
 cases vb
 ·have HX:=zh (show b=false by rw[iV.out];rfl);go_wp2_with fail;go_ret;exact⟨by rw[HX.out];rfl,q1⟩
 ·have HSC1:=zh (nA.out rfl);have HCK1:=zh (bO.out rfl);clear nA bO;go_wp2_with fail;refine(HSC1.out _ (HV.out.later q1)).mono ?_;rintro e w2 ⟨B0,d0,rfl,ag⟩;have q2:=zka q1 ag;have hP:=zkd HP.out ag;clear a0 a1 a2 a3 a4 a5 HP ag q1;obtain⟨a0,a1,a2,a3,a4,a5⟩:=box6 hP;clear hP;by_cases hN:N1=0
  ·have HCK2:=zh (HCK1.out hN);clear HCK1 HSC1;subst hN;go_wp2_with fail;refine(HCK2.out _ (HV.out.later q2)).mono ?_;rintro e w3 ⟨B1,d1,rfl,az⟩;have q3:=zka q2 az;clear a0 a1 a2 a3 a4 a5 az;by_cases hM:N2=0
   ·subst hM;have HX:=zh (show b=true by rw[iV.out];rfl);go_wp2_with fail;go_ret;exact⟨by rw[HX.out];rfl,q3⟩
   ·have hM1:((N2:Int)==0)=false:=by simpa using hM
    have HX:=zh (show b=false by rw[iV.out];simp[hM]);clear hM;go_wp2_with fail;go_ret;exact⟨by rw[HX.out];rfl,q3⟩
  ·have hM1:((N1:Int)==0)=false:=by simpa using hN
   have HX:=zh (show b=false by rw[iV.out];simp[hN]);clear hN;go_wp2_with fail;go_ret;exact⟨by rw[HX.out];rfl,q2⟩
theorem ztD (jb:Nat) (w:World) (h:w.cell? ⟨jb,0,none⟩=some (.slice none 0 0)):Calls Tryz.prog 154 #[.pointer (some ⟨jb,0,none⟩)] w fun e w'=>e=.returned (.int .i64 0)/\w'=w:=by
 go_enter Tryz.func154,Tryz.ntmps154;go_wp2_with fail;go_ret;exact⟨rfl,rfl⟩
theorem zKY:IsFn Tryz.prog 154 Tryz.f154:=⟨Tryz.func154,by kernel_rfl,by kernel_rfl⟩
theorem zzq {P:Program} {c:Code} {Q Q':Exit->Act->World->Prop} {a:Act} {w:World} (h:c.wp P Q a w) (hQ:∀ e a' w',Q e a' w'->Q' e a' w'):c.wp P Q' a w :=
 fun b k cs=>let ⟨e,a',w',q,r⟩:=h b k cs;⟨e,a',w',hQ _ _ _ q,r⟩
theorem zzL (C:World->Prop):∃ Q:Exit->Act->World->Prop,(∀ a' w',a'.defers=[]->C w'->Q .normal a' w')/\∀ e a' w',Q e a' w'->e=.normal/\a'.defers=[]/\C w' :=
 ⟨fun e a' w'=>e=.normal/\a'.defers=[]/\C w',fun _ _ h1 h2=>⟨rfl,h1,h2⟩,fun _ _ _ h=>h⟩
theorem tAss (x:Int) (w:World):(Instr.typeAssert (.iface 210 (.agg #[.int .i64 x])) 20 210 true).run Tryz.prog w=.ok (.tuple #[.agg #[.int .i64 x],.bool true]) w:=by kernel_rfl
theorem zyE (a b c:Value) (w:World) :
  CallsD Tryz.prog 155 #[a,b,c] .returning w fun e u' w'=>e=.returned (.tuple #[])/\u'=.returning/\w'=w:=by
 refine callsD_of_wpS Tryz.func155 rfl fun c₀ cs hu=>?_;apply wpS_seq;apply wpS_region;simp[wpOpsS,go_sem,recoverD,hu,Tryz.ntmps155,Exit.thenS];apply wpS_seq;apply wpS_seq;apply wpS_region;simp[wpOpsS,go_sem,Exit.thenS];refine wpS_cond (t:=true) (by simp[Act.eval,Array.replicate]) ?_;simp only[if_true];refine wpS_of_wp (wp_ret ?_)
 cases c₀
 simp_all [bodyPostS,results,Tryz.results155,Exit.thenS]
theorem zwF (a2 a5 a4 jb:Nat) (x y:Int) (w:World) (h2:w.cell? ⟨a2,0,none⟩=some (.pointer (some ⟨jb,0,none⟩))) (h5:w.cell? ⟨a5,0,none⟩=some (.int .i64 0)) (hj:w.cell? ⟨jb,0,none⟩=some (.slice none 0 0)) (h4:w.cell? ⟨a4,0,none⟩=some (.int .i64 y)) (hf:w.frozen? ⟨a4,0,none⟩=false) :
  CallsD Tryz.prog 155 #[.pointer (some ⟨a2,0,none⟩),.pointer (some ⟨a5,0,none⟩),.pointer (some ⟨a4,0,none⟩)] (.panicking [{ v:=.iface 210 (.agg #[.int .i64 x]),recovered:=false }]) w fun e u' w' =>
   e=.returned (.tuple #[])/\u'=.panicking [{ v:=.iface 210 (.agg #[.int .i64 x]),recovered:=true }]/\w'.cell? ⟨a4,0,none⟩=some (.int .i64 x)/\Chg (fun b=>b=a4) w w':=by
 refine callsD_of_wpS Tryz.func155 rfl fun c₀ cs hu=>?_;apply wpS_seq;apply wpS_region;simp[wpOpsS,go_sem,recoverD,hu,Tryz.ntmps155,Exit.thenS];apply wpS_seq;apply wpS_seq;apply wpS_region;simp[wpOpsS,go_sem,Exit.thenS];refine wpS_cond (t:=false) (by simp[Act.eval,Array.replicate]) ?_;simp only[Bool.false_eq_true,if_false];refine wpS_of_wp (wp_skip ?_);refine wpS_of_wp ?_;obtain⟨Q,rX,hQ2⟩:=zzL (fun w'=>w'.cell? ⟨a4,0,none⟩=some (.int .i64 x)/\Chg (fun b=>b=a4) w w');refine zzq (Q:=Q) ?_ ?_;rotate_left 1
 ·intro e a' w' hq;obtain⟨rfl,h1,h2⟩:=hQ2 _ _ _ hq
  cases c₀
  simp_all [bodyPostS,results,Tryz.results155,Exit.thenS]
 have HQ:=zh rX;clear rX hQ2 hu;refine Eq.mp (congrArg (fun t=>Code.wp Tryz.prog _ Q ⟨t,[]⟩ w) (?e:(#[.pointer (some ⟨a2,0,none⟩),.pointer (some ⟨a5,0,none⟩),.pointer (some ⟨a4,0,none⟩),.iface 210 (.agg #[.int .i64 x]),undef,undef,.iface 210 (.agg #[.int .i64 x]),.iface 210 (.agg #[.int .i64 x]),.bool false,undef,undef,undef,undef,undef,undef,undef,undef,undef,undef,undef,undef,undef,undef,undef,undef,undef]:Array Value)=_)) ?_
 case e=>kernel_rfl
 go_upto_region 2 with fail;have HS:=zh (show ∀ w',Below w.heap.size w w'->(fun w':World=>w'.cell? ⟨a2,0,none⟩=some (.pointer (some ⟨jb,0,none⟩))/\w'.cell? ⟨a5,0,none⟩=some (.int .i64 0)) w' from fun w' hb=>⟨zb hb h2,zb hb h5⟩);have lZ:=zh (fun w' (hb:Below w.heap.size w w')=>ztD jb w' (zb hb hj));have hSS:(fun w':World=>w'.cell? ⟨a2,0,none⟩=some (.pointer (some ⟨jb,0,none⟩))/\w'.cell? ⟨a5,0,none⟩=some (.int .i64 0)) w.drew/\(fun _:World=>True) w.drew:=⟨HS.out _ (Below.refl _ _).drew,trivial⟩
 refine wp_region_noPanic ?_;refine zkc (fun w':World=>w'.cell? ⟨a2,0,none⟩=some (.pointer (some ⟨jb,0,none⟩))/\w'.cell? ⟨a5,0,none⟩=some (.int .i64 0)) (fun _:World=>True) 3 (by kernel_rfl) ?_;refine zT 0 hSS ?_;(try simp only[zQ]);refine zT 2 hSS ?_;(try simp only[zQ]);have had:Calls Tryz.prog 154 [.pointer (some ⟨jb,0,none⟩)].toArray w.drew fun e w'=>∃ v,e=.returned v/\(v=.int .i64 0/\w'=w.drew):=(lZ.out _ (Below.refl _ _).drew).mono fun e w' ⟨h1,h2⟩=>⟨_,h1,rfl,h2⟩
 refine zo 1 fun K hK=>?_;refine zkh (by rfl) (.func 154) [.tmp 9] _ (by rfl) 154 _ zKY (by rfl) _ (by rfl) _ had ?_;rintro v1 w1 ⟨rfl,rfl⟩;refine hK.out _ _ hSS ?_;clear hK K had;(try simp only[zQ]);refine zp 3 fun K hK=>?_;(try simp only[zA,zB,zC]);go_simp;refine hK.out _ _ hSS.1 ?_;clear hK K;(try simp only[zQ]);refine zd ?_;refine NoPanic.normal ?_;clear hSS HS lZ;have ht:=fun w=>tAss x w;obtain⟨w1,hw1⟩:∃ w1,w.drew=w1:=⟨_,rfl⟩
 have hb1:Below w.heap.size w w1:=hw1▸(Below.refl _ _).drew;have g4:=zb hb1 h4;have gf:w1.frozen? ⟨a4,0,none⟩=false:=hw1▸hf;have hlt:a4<w1.heap.size:=World.block_lt_of_cell? w1 _ g4;have z4:=zke g4 (.cells #[.int .i64 x] 210);have HB1:=zh hb1;rw[hw1];clear h2 h5 hj h4 hf hw1 hb1;go_wp2_with fail;have hch:=(Chg.refl (fun b=>b=a4) w1).setCell (p:=⟨a4,0,none⟩) (.inl rfl) (.int .i64 x);exact HQ.out _ _ rfl ⟨zke (by simp[go_sem,g4]) _,(Chg.of_below HB1.out).trans (hch.alloc _)⟩
def AttP (W:World) (R:World->Prop) (X:Int->World->Prop) (e:Ending) (w':World):Prop :=
 (e=.returned (.int .i64 0)/\∃ w1,R w1/\Chg (fun b=>W.heap.size<=b/\b<W.heap.size+3) w1 w')\/∃ x,e=.returned (.int .i64 x)/\∃ w1,X x w1/\Chg (fun b=>W.heap.size<=b/\b<W.heap.size+3) w1 w'
theorem zta (jb:Nat) (f:FuncId) (fn:Func) (hf:IsFn Tryz.prog f fn) (caps:Array Value) (W:World) (hj:W.heap[jb]?=some (.cells #[.slice none 0 0,.bool false] 179 (0,0))) (R:World->Prop) (X:Int->World->Prop)
  (hact:∀ W1,Below W.heap.size W W1->W1.heap.size=W.heap.size+3->Calls Tryz.prog f caps W1 fun e w'=>(∀ b,(W.heap.size<=b\/b=jb)->b<W1.heap.size->w'.heap[b]?=W1.heap[b]?)/\(((∃ u,e=.returned u)/\R w')\/∃ x,e=zl2 x/\X x w')) :
  Calls Tryz.prog 116 #[.pointer (some ⟨jb,0,none⟩),.func (.func f) #[] caps] W (AttP W R X):=by
 have uO:∀ (fn:Fn) (first cap:Array Value) (w:World),(Instr.makeFunc fn first cap).run Tryz.prog w=.ok (.func fn first cap) w:=fun _ _ _ _=>rfl;have hnf:∀ w:World,(binOp BinOp.eql 1 (.func (.func f) #[] caps) .nilFunc).run Tryz.prog w=.ok (.bool false) w:=fun _=>by kernel_rfl
 have HJ:=zh hj;have hjl:=zki hj;have HA:=zh hact;have hLE:=fun w' (hb:Below W.heap.size W w')=>ztD jb w' (zb hb (zc hj rfl));have lZ:=zh hLE;clear hj hact hLE
 go_enter_defers Tryz.func116,Tryz.ntmps116
 go_wp2_with fail;refine(lZ.out _ (zkb (zkb (Below.refl _ _) _) _)).mono ?_;rintro e w1 ⟨rfl,rfl⟩;go_wp2_with fail;rw[zkP hf,Oper.upon_enter];have k0:=zkl (zkl (heap_alloc_new W (.cells #[.pointer (some ⟨jb,0,none⟩)] 176)) (.cells #[.int .i64 0] 37)) (.cells #[.int .i64 0] 3);have k1:=zkl (heap_alloc_new (W.alloc (.cells #[.pointer (some ⟨jb,0,none⟩)] 176)) (.cells #[.int .i64 0] 37)) (.cells #[.int .i64 0] 3);have k2:=heap_alloc_new ((W.alloc (.cells #[.pointer (some ⟨jb,0,none⟩)] 176)).alloc (.cells #[.int .i64 0] 37)) (.cells #[.int .i64 0] 3);have kj:=zkl (zkl (zkl HJ.out (.cells #[.pointer (some ⟨jb,0,none⟩)] 176)) (.cells #[.int .i64 0] 37)) (.cells #[.int .i64 0] 3);have hb3:=zkb (zkb (zkb (Below.refl W.heap.size W) (.cells #[.pointer (some ⟨jb,0,none⟩)] 176)) (.cells #[.int .i64 0] 37)) (.cells #[.int .i64 0] 3)
 simp only[World.size_alloc] at k1 k2;obtain⟨w3,hw3⟩:∃ x,((W.alloc (.cells #[.pointer (some ⟨jb,0,none⟩)] 176)).alloc (.cells #[.int .i64 0] 37)).alloc (.cells #[.int .i64 0] 3)=x:=⟨_,rfl⟩
 have hz3:w3.heap.size=W.heap.size+3:=by rw[<-hw3];simp
 rw[hw3] at k0 k1 k2 kj hb3 ⊢;clear hw3;refine(HA.out w3 hb3 hz3).mono ?_;rintro e w2 ⟨hk,h⟩;have q0:=(hk _ (.inl (Nat.le_refl _)) (by omega)).trans k0;have q1:=(hk _ (.inl (Nat.le_succ _)) (by omega)).trans k1;have q2:=(hk _ (.inl (by omega)) (by omega)).trans k2;have qj:=(hk _ (.inr rfl) (by omega)).trans kj;clear k0 k1 k2 kj hk hb3;rcases h with⟨⟨u,rfl⟩,hR⟩|⟨x,rfl,hX⟩
 ·have c1:w2.cell? ⟨W.heap.size+1,0,none⟩=some (.int .i64 0):=zc q1 rfl;have f1:∀ o,w2.frozen? ⟨W.heap.size+1,o,none⟩=false:=fun _=>zf q1;have HRR:=zh hR;clear q0 q2 qj lZ HA hR;go_wp2_with fail;refine leaves_cons (f:=155) (args := #[.pointer (some ⟨W.heap.size,0,none⟩),.pointer (some ⟨W.heap.size+1+1,0,none⟩),.pointer (some ⟨W.heap.size+1,0,none⟩)]) (by simp) (by simp[go_sem]) ?_;refine(zyE _ _ _ _).mono ?_;rintro e u' w'' ⟨rfl,rfl,rfl⟩;have hch:=(Chg.refl (fun b=>W.heap.size<=b/\b<W.heap.size+3) w2).setCell (p:=⟨W.heap.size+1,0,none⟩) (.inl ⟨Nat.le_succ _,by simp⟩) (.int .i64 0);have hc2:(w2.setCell ⟨W.heap.size+1,0,none⟩ (.int .i64 0)).cell? ⟨W.heap.size+1,0,none⟩=some (.int .i64 0):=by simp[go_sem,c1]
  have HP:AttP W R X (.returned (.int .i64 0)) (w2.setCell ⟨W.heap.size+1,0,none⟩ (.int .i64 0)):=.inl ⟨rfl,w2,HRR.out,hch⟩;simp[Leaves,settle,results,Tryz.results116,go_sem,hc2,HP]
 ·have p0:w2.cell? ⟨W.heap.size,0,none⟩=some (.pointer (some ⟨jb,0,none⟩)):=zc q0 rfl;have p1:w2.cell? ⟨W.heap.size+1,0,none⟩=some (.int .i64 0):=zc q1 rfl;have p2:w2.cell? ⟨W.heap.size+1+1,0,none⟩=some (.int .i64 0):=zc q2 rfl;have pj:w2.cell? ⟨jb,0,none⟩=some (.slice none 0 0):=zc qj rfl;have f1:w2.frozen? ⟨W.heap.size+1,0,none⟩=false:=zf q1;refine leaves_cons (f:=155) (args := #[.pointer (some ⟨W.heap.size,0,none⟩),.pointer (some ⟨W.heap.size+1+1,0,none⟩),.pointer (some ⟨W.heap.size+1,0,none⟩)]) (by simp) (by simp[go_sem]) ?_;refine(zwF _ _ _ jb x 0 _ p0 p2 pj p1 f1).mono ?_;rintro e u' w'' ⟨rfl,rfl,hc2,hch⟩;have HP:AttP W R X (.returned (.int .i64 x)) w'':=.inr ⟨x,rfl,w2,hX,hch.mono fun b _ e=>by omega⟩;simp[Leaves,settle,results,Tryz.results116,go_sem,hc2,HP]
theorem zLG (A:Option Addr) (l c:Nat) (w:World):(Instr.buildSlice 23 1 #[(0,.slice A l c)]).run Tryz.prog w=.ok (.slice (some ⟨w.heap.size,0,none⟩) 1 1) (w.alloc (.cells #[.slice A l c] 24)):=by kernel_rfl
theorem bS12 (B C:Option Addr) (m d n e:Nat) (w:World):(Instr.build 26 #[(1,.slice B m d),(2,.slice C n e)]).run Tryz.prog w=.ok (.agg #[.slice none 0 0,.slice B m d,.slice C n e]) w:=by kernel_rfl
section
variable {P:Program} {ops:Array Oper} {Q:Exit->Act->World->Prop} {md:Region.Mode} {S1 S2:World->Prop} {k:Nat}
theorem zrk (I:Nat->Array Bool->Act->World->Prop) (hS:∀ f l a w,I f l a w->S1 w/\S2 w)
  (h:∀ f l a w,I f l a w->wpG P md ops Q S1 S2 k f l a w\/∃ f',f=f'+1/\Region.ready md ops l≠[]/\∀ i∈Region.ready md ops l,wpOp P ops Q i (fun a' w'=>I f' (l.setIfInBounds i true) a' w') a w) :
  ∀ f l a w,I f l a w->wpG P md ops Q S1 S2 k f l a w
 | 0,l,a,w,hi=>by
  rcases h 0 l a w hi with h1|⟨f',h1,_⟩
  ·exact h1
  ·omega
 | f+1,l,a,w,hi=>by
  rcases h (f+1) l a w hi with h1|⟨f',h1,h2,h3⟩
  ·exact h1
  ·obtain rfl:f=f':=by omega
   exact⟨fun h0=>absurd h0 h2,fun i hm=>wpOp_mono (fun a' w' h'=>⟨⟨(hS _ _ _ _ h').1,fun _=>(hS _ _ _ _ h').2⟩,zrk I hS h f _ a' w' h'⟩) (h3 i hm)⟩
theorem ztc {a0:Act} {f0:Nat} {l0:Array Bool} {w0:World} (I:Act->Nat->Array Bool->Act->World->Prop) (hS:∀ A f l a w,I A f l a w->S1 w/\S2 w)
  (h:∀ A,A=a0->∀ f l a w,I A f l a w->wpG P md ops Q S1 S2 k f l a w\/∃ f',f=f'+1/\Region.ready md ops l≠[]/\∀ i∈Region.ready md ops l,wpOp P ops Q i (fun a' w'=>I A f' (l.setIfInBounds i true) a' w') a w)
  (h0:I a0 f0 l0 a0 w0):wpG P md ops Q S1 S2 k f0 l0 a0 w0:=zrk (I a0) (hS a0) (h a0 rfl) _ _ _ _ h0
end
def zp0 (l0 l3 l4 l7 l9:Bool) (v5 v8 v9 v12:Value) (b3:Nat) (s:SS):Option SI->RowD
 | none=>if l9=true then ⟨boxV b3,26,3,1,[.slice none 0 0,.slice none 0 0,.slice none 0 0]⟩ else nilR
 | some .inp=>if l3=true then ⟨v8,3,1,s.tin.length,zkj s.tin⟩ else if l0=true then ⟨v5,3,1,0,[]⟩ else nilR
 | some .out=>if l7=true then ⟨v12,3,1,s.tout.length,zkj s.tout⟩ else if l4=true then ⟨v9,3,1,0,[]⟩ else nilR
 | some _=>nilR
def zos (vc vi vo:Value) (fc:Nat->Value) (b3:Nat) (s:SS) (j:Nat):Option SI->RowD
 | none=>⟨boxV b3,26,3,1,[vc,vi,vo]⟩
 | some .all=>⟨vc,24,1,j,(List.range j).map fc⟩
 | some (.el i)=>if i<j then ⟨fc i,3,1,(s.cells.getD i []).length,zkj (s.cells.getD i [])⟩ else nilR
 | some .inp=>⟨vi,3,1,s.tin.length,zkj s.tin⟩
 | some .out=>⟨vo,3,1,s.tout.length,zkj s.tout⟩
theorem zzP (w:World) (n0:Nat) (v5 v8 v9 v12:Value) (b3:Nat) (s:SS):Rws w n0 (zp0 false false false false false v5 v8 v9 v12 b3 s):=by
 have e:∀ i,zp0 false false false false false v5 v8 v9 v12 b3 s i=nilR:=by
  intro i;rcases i with _|i
  ·rfl
  ·cases i<;>rfl
 refine⟨fun i=>by rw[e];exact zm4 w n0,fun i j b _ hi _=>?_⟩;rw[e] at hi;simp[nilR,Value.ownBlock] at hi
theorem zxI (w:World) (n0:Nat) (h:n0<=w.heap.size) (a b c:Value) (E:TypeId):(w.alloc (.cells #[a,b,c] E)).ownsRow n0 E 3 (boxV w.heap.size) 1 [a,b,c] :=
 ⟨rfl,.inr ⟨w.heap.size,1,#[a,b,c],rfl,h,heap_alloc_new w _,Nat.le_refl _,by unfold maxLen;omega,rfl,rfl⟩⟩
theorem zuj (vc ig vi vo:Value) (fc:Nat->Value) (b3:Nat) (s:SS) (j:Nat) (l:List Int) (v8 r5:Value) (hl:s.cells.getD j []=l) :
  updR (updR (updR (updR (zos vc vi vo fc b3 s j) (some (.el j)) ⟨r5,3,1,0,[]⟩) (some (.el j)) ⟨v8,3,1,l.length,zkj l⟩) (some .all) ⟨ig,24,1,j+1,(List.range j).map fc++[v8]⟩) none ⟨boxV b3,26,3,1,[ig,vi,vo]⟩=zos ig vi vo (fun i=>if i=j then v8 else fc i) b3 s (j+1):=by
 funext i;rcases i with _|i
 ·rfl
 ·cases i with
  | all =>
   simp only[updR,zos,reduceCtorEq,if_false,if_true,RowD.mk.injEq,true_and];rw[List.range_succ,List.map_append];congr 1
   ·refine List.map_congr_left fun i hi=>?_;have:i≠j:=by have:=List.mem_range.1 hi;omega
    simp[this]
   ·simp
  | inp=>rfl
  | out=>rfl
  | el i =>
   by_cases e:i=j
   ·subst e;simp[updR,zos,<-hl]
   ·have e2:(i<j+1)↔(i<j):=by omega
    simp[updR,zos,e,e2]
theorem zvh {W:World} {n0:Nat} {vc vi vo:Value} {fc:Nat->Value} {b3:Nat} {s:SS} (h:Rws W n0 (zos vc vi vo fc b3 s s.cells.length)):Rws W n0 (zpZ vc vi vo fc s):=by
 have e:∀ i,zpZ vc vi vo fc s i=zos vc vi vo fc b3 s s.cells.length (some i):=fun i=>by cases i<;>rfl
 refine⟨fun i=>by rw[e];exact h.row (some i),fun i j b hij hi hj=>?_⟩;rw[e] at hi hj;exact h.sep (some i) (some j) b (fun e'=>hij (by injection e')) hi hj
theorem zzI {w:World} {n0 b:Nat} {x y z:Value} {E:TypeId} (hn:n0<=b) (h:w.heap[b]?=some (.cells #[x,y,z] E (0,0))):w.ownsRow n0 E 3 (boxV b) 1 [x,y,z] :=
 ⟨rfl,.inr ⟨b,1,#[x,y,z],rfl,hn,h,Nat.le_refl _,by unfold maxLen;omega,rfl,rfl⟩⟩
theorem zzJ (w:World) (n0:Nat) (E:TypeId):w.ownsRow n0 E 1 (.slice none 0 0) 0 []:=⟨rfl,.inl ⟨rfl,rfl⟩⟩
end Go.Proofs.YtckhofdinldhpaaGreat
namespace Go.Proofs.YtckhofdinldhpaaGreat
open Go Go.RowKit
theorem k_2 (l5 l9:Bool) (v5 v8 v8' v9 v12:Value) (b3:Nat) (s:SS):updR (zp0 false false false l5 l9 v5 v8' v9 v12 b3 s) (some .inp) ⟨v8,3,1,s.tin.length,zkj s.tin⟩=zp0 false true false l5 l9 v5 v8 v9 v12 b3 s:=by
 funext i;rcases i with _|i
 ·rfl
 ·cases i<;>rfl
theorem k_5 (l2 l9:Bool) (v5 v8 v9 v12 v12':Value) (b3:Nat) (s:SS):updR (zp0 false l2 false false l9 v5 v8 v9 v12' b3 s) (some .out) ⟨v12,3,1,s.tout.length,zkj s.tout⟩=zp0 false l2 false true l9 v5 v8 v9 v12 b3 s:=by
 funext i;rcases i with _|i
 ·rfl
 ·cases i<;>rfl
theorem k_7 (l2 l5:Bool) (v5 v8 v9 v12:Value) (b3 b3':Nat) (s:SS):updR (zp0 false l2 false l5 false v5 v8 v9 v12 b3' s) none ⟨boxV b3,26,3,1,[.slice none 0 0,.slice none 0 0,.slice none 0 0]⟩=zp0 false l2 false l5 true v5 v8 v9 v12 b3 s:=by
 funext i;rcases i with _|i
 ·rfl
 ·cases i<;>rfl
theorem zLA (vi vo v5 v9:Value) (fc:Nat->Value) (b3:Nat) (s:SS):updR (updR (zp0 false true false true true v5 vi v9 vo b3 s) none ⟨boxV b3,26,3,1,[.slice none 0 0,vi,vo]⟩) (some .all) ⟨.slice none 0 0,24,1,0,[]⟩=zos (.slice none 0 0) vi vo fc b3 s 0:=by
 funext i;rcases i with _|i
 ·rfl
 ·cases i<;>rfl
theorem zKS (vc ig vi vo:Value) (fc:Nat->Value) (b3:Nat) (s:SS) (j:Nat) (l:List Int) (v8:Value) (hl:s.cells.getD j []=l) :
  updR (updR (updR (zos vc vi vo fc b3 s j) (some (.el j)) ⟨v8,3,1,l.length,zkj l⟩) (some .all) ⟨ig,24,1,j+1,(List.range j).map fc++[v8]⟩) none ⟨boxV b3,26,3,1,[ig,vi,vo]⟩=zos ig vi vo (fun i=>if i=j then v8 else fc i) b3 s (j+1):=by
 rw[<-zuj vc ig vi vo fc b3 s j l v8 v8 hl];congr 2;funext i;by_cases e:i=some (.el j)
 ·subst e;simp[updR]
 ·simp[updR,e]
theorem zy1 (s:SS) (v:Value) (w:World) (hv:SV w Any s v) (hcl:s.cells.length<=5864062014800):Calls Tryz.prog 79 #[v] w fun e W'=>∃ v',e=.returned v'/\OwnS W' w.heap.size s v'/\Below w.heap.size w W':=by
 have h1:=bS12;have HV:=zh hv;obtain⟨A,c,B,d,D,e,rfl,hr1,hr2,hr3,hc1,hc2,hc3,hl1,hl2,hl3,hl4⟩:=hv;have hk:=heap_alloc_new w (.cells #[.slice A s.cells.length c,.slice B s.tin.length d,.slice D s.tout.length e] 26);have hbw:Below w.heap.size w ((w.alloc (.cells #[.slice A s.cells.length c,.slice B s.tin.length d,.slice D s.tout.length e] 26)).alloc (.cells #[.slice none 0 0,.slice none 0 0,.slice none 0 0] 26)):=zkb (zkb (Below.refl _ _) _) _;have hk2:=zkl hk (.cells #[.slice none 0 0,.slice none 0 0,.slice none 0 0] 26);have hz1:((w.alloc (.cells #[.slice A s.cells.length c,.slice B s.tin.length d,.slice D s.tout.length e] 26)).alloc (.cells #[.slice none 0 0,.slice none 0 0,.slice none 0 0] 26)).heap.size=w.heap.size+1+1:=by simp
 have hk3:=heap_alloc_new (w.alloc (.cells #[.slice A s.cells.length c,.slice B s.tin.length d,.slice D s.tout.length e] 26)) (.cells #[.slice none 0 0,.slice none 0 0,.slice none 0 0] 26);rw[World.size_alloc] at hk3;have HI:=zh (show s.I from ⟨fun l hl=>by
  obtain⟨i,hi,rfl⟩:=List.mem_iff_getElem.1 hl;obtain⟨_,_,_,_,_,_,_,hr⟩:=hr1 i hi;exact hr.fits,hr2.fits,hr3.fits⟩)
 go_enter Tryz.func79,Tryz.ntmps79;go_upto_region 1 with fail;obtain⟨w1,hw1⟩:∃ x,(w.alloc (.cells #[.slice A s.cells.length c,.slice B s.tin.length d,.slice D s.tout.length e] 26)).alloc (.cells #[.slice none 0 0,.slice none 0 0,.slice none 0 0] 26)=x:=⟨_,rfl⟩
 rw[hw1] at hbw hk2 hk3 hz1 ⊢;have HB1:=zh hbw;have aD:=zh hk2;have ji:=zh hk3;have HR1:=zh (hr1.later hbw);have HR2:=zh (hr2.later hbw);have HR3:=zh (hr3.later hbw);have HL:=zh (show s.Lim from ⟨hl1,hl2,hl3,hl4⟩);clear hk hbw hk2 hk3 hw1 hr1 hr2 hr3 hl1 hl2 hl3 hl4 HV;obtain⟨z0,z1,z2⟩:=zLE aD.out;have hSS:(fun w':World=>w'.cell? ⟨w.heap.size,1,none⟩=some (.slice B s.tin.length d)/\w'.cell? ⟨w.heap.size,2,none⟩=some (.slice D s.tout.length e)) w1.drew/\(fun _:World=>True) w1.drew:=⟨⟨z1,z2⟩,trivial⟩
 refine wp_region_noPanic ?_;refine zkc (fun w':World=>w'.cell? ⟨w.heap.size,1,none⟩=some (.slice B s.tin.length d)/\w'.cell? ⟨w.heap.size,2,none⟩=some (.slice D s.tout.length e)) (fun _:World=>True) 8 (by kernel_rfl) ?_;refine zT 0 hSS ?_;(try simp only[zQ]);refine zT 1 hSS ?_;(try simp only[zQ]);refine zT 3 hSS ?_;(try simp only[zQ]);refine zT 4 hSS ?_;(try simp only[zQ]);refine ztc (fun A f l a wr=>∃ (l2 l5 l6 l7:Bool) (v8 v12 v13 v3:Value) (b3:Nat),f=(!l2).toNat+(!l5).toNat+(!l6).toNat+(!l7).toNat+1/\l = #[true,true,l2,true,true,l5,l6,l7,false] /\
  a=(((A.put (some 8) v8).put (some 11) v12).put (some 12) v13).put (some 3) v3/\Hid (Below w1.heap.size w1 wr)/\Hid (Rws wr w1.heap.size (zp0 false l2 false l5 l7 undef v8 undef v12 b3 s))/\Hid ((l5=true->l2=true)/\(l6=true->v13=.agg #[.slice none 0 0,v8,v12]/\l2=true/\l5=true)/\(l7=true->v3=.pointer (some ⟨b3,0,none⟩)))/\Hid (l7=false->v3=undef)) (fun A f l a wr h=>?_) ?_ ⟨false,false,false,false,undef,undef,undef,undef,0,rfl,rfl,(by simp only[Act.put,zD,zE,zF]),zh (Below.refl _ _).drew,zh (zzP _ _ _ _ _ _ _ _),zh ⟨fun h=>(by cases h),fun h=>(by cases h),fun h=>(by cases h)⟩,zh (fun _=>rfl)⟩
 ·obtain⟨_,_,_,_,_,_,_,_,_,_,_,_,hb,_⟩:=h;exact⟨⟨zb hb.out z1,zb hb.out z2⟩,trivial⟩
 rintro A' hA f l a wr ⟨l2,l5,l6,l7,v8,v12,v13,v3,b3,hf,rfl,ha,aj,HRW,HC,HU⟩;by_cases hall:(l2&&l5&&l6&&l7)=true
 ·left
  simp only[Bool.and_eq_true] at hall;obtain⟨⟨⟨rfl,rfl⟩,rfl⟩,rfl⟩:=hall;obtain⟨-,qg,h3⟩:=HC.out;obtain⟨rfl,-,-⟩:=qg rfl;obtain rfl:=h3 rfl;subst hf ha hA;have hrow:=HRW.out.row none;obtain⟨B8,c8,e8,-,-⟩:=zkm (HRW.out.row (some .inp));change v8=.slice B8 s.tin.length c8 at e8;obtain⟨jK,c12,e12,-,-⟩:=zkm (HRW.out.row (some .out));change v12=.slice jK s.tout.length c12 at e12;subst e8 e12;have hbx:=znS hrow;have c0:wr.cell? ⟨b3,0,none⟩=some (.slice none 0 0):=zc hbx rfl;have c1:wr.cell? ⟨b3,1,none⟩=some (.slice none 0 0):=zc hbx rfl;have c2:wr.cell? ⟨b3,2,none⟩=some (.slice none 0 0):=zc hbx rfl;have cf:∀ j,wr.frozen? ⟨b3,j,none⟩=false:=fun j=>zf hbx;refine zp 8 fun K hK=>?_;(try simp only[zQ]);go_simp;have hb3:w1.heap.size<=b3/\b3<wr.heap.size:=hrow.lt b3 rfl
  have hch:Chg (fun b=>b=b3) wr (((wr.setCell ⟨b3,0,none⟩ (.slice none 0 0)).setCell ⟨b3,1,none⟩ (.slice B8 s.tin.length c8)).setCell ⟨b3,2,none⟩ (.slice jK s.tout.length c12)) :=
   (((Chg.refl (fun b=>b=b3) wr).setCell (p:=⟨b3,0,none⟩) (.inl rfl) _).setCell (p:=⟨b3,1,none⟩) (.inl rfl) _).setCell (p:=⟨b3,2,none⟩) (.inl rfl) _
  have hh:=heap_setCell_same _ b3 2 _ _ (.slice jK s.tout.length c12) (heap_setCell_same _ b3 1 _ _ (.slice B8 s.tin.length c8) (heap_setCell_same wr b3 0 _ _ (.slice none 0 0) hbx));have aO:=zh (aj.out.trans (hch.below aj.out.size fun b e=>by omega));have hrw:=(HRW.out.upd none (r:=⟨boxV b3,26,3,1,[.slice none 0 0,.slice B8 s.tin.length c8,.slice jK s.tout.length c12]⟩) (hch.mono fun b _ e=>by subst e;rfl) (zzI hb3.1 hh) (fun b hb=>.inl hb)).upd (some .all) (r:=⟨.slice none 0 0,24,1,0,[]⟩) (Chg.refl _ _) (zzJ _ _ _) (fun b hb=>by simp[Value.ownBlock] at hb);rw[zLA (fc:=fun _=>.slice none 0 0)] at hrw;have vw:=zh hrw;obtain⟨w2,hw2⟩:∃ x,((wr.setCell ⟨b3,0,none⟩ (.slice none 0 0)).setCell ⟨b3,1,none⟩ (.slice B8 s.tin.length c8)).setCell ⟨b3,2,none⟩ (.slice jK s.tout.length c12)=x:=⟨_,rfl⟩
  rw[hw2] at aO vw ⊢;have aB:(fun w':World=>w'.cell? ⟨w.heap.size,1,none⟩=some (.slice B s.tin.length d)/\w'.cell? ⟨w.heap.size,2,none⟩=some (.slice D s.tout.length e)) w2:=⟨zb aO.out z1,zb aO.out z2⟩
  refine hK.out _ _ aB ?_;clear hK K hSS aB hch hh hrw hw2 hbx c0 c1 c2 cf hrow HRW aj HU HC qg h3 h1;refine zd ?_;refine NoPanic.normal ?_;obtain⟨vi,wC⟩:∃ x,Value.slice B8 s.tin.length c8=x:=⟨_,rfl⟩
  obtain⟨vo,wz⟩:∃ x,Value.slice jK s.tout.length c12=x:=⟨_,rfl⟩
  rw[wC,wz] at vw;have HVI:=zh wC;have HVO:=zh wz;clear wC wz;have q0:=zb aO.out z0;go_wp2_with fail;clear q0
  go_loopw [16] (fun i wr=>∃ j:Nat,j<=s.cells.length/\i=.int .i64 j/\Hid (Below w1.heap.size w1 wr)/\∃ vc fc,Hid (Rws wr w1.heap.size (zos vc vi vo fc b3 s j))) (fun i _=>s.cells.length-(intOf i).toNat)
  case atStart=>exact⟨0,Nat.zero_le _,rfl,aO,_,_,vw⟩
  case round =>
   clear aO vw;obtain⟨j,hj,rfl,aj,vc,fc,HRW⟩:=hrel;have y0:=zb aj.out z0;by_cases hlt:j<s.cells.length
   ·have hj1:(j:Int)<(s.cells.length:Int):=by omega
    have hj0:(0:Int)<=(j:Int):=by omega
    obtain⟨a,l,Al,cl,rfl,Hl,hcl0,hlc,hrl⟩:=(HR1.out.later aj.out).nd hlt;have qE:=zh hrl;have gV:=zh (show l.length<=LI by rw[<-Hl.out];exact HL.out.2.1 _ (List.getElem_mem hlt));have hbx:=znS (HRW.out.row none);have x0:wr.cell? ⟨b3,0,none⟩=some vc:=zc hbx rfl;have hz0:wr.frozen? ⟨b3,0,none⟩=false:=zf hbx;obtain⟨Av,cv,dQ,-⟩:=zkm (HRW.out.row (some .all));change vc=.slice Av j cv at dQ;subst dQ;have hS0:(fun _:World=>True) wr.drew/\(fun w':World=>w'.cell? ⟨b3,0,none⟩=some (.slice Av j cv)) wr.drew:=⟨trivial,x0⟩
    obtain⟨i0,hi0,hq0,hq1,hq2⟩:=info_parts zy4;have dO:=zh (zk2 l Al cl Any wr.drew (qE.out.later (Below.refl _ _).drew) gV.out);go_upto_region 5 with fail;refine wp_region_noPanic ?_;refine zkc (fun _:World=>True) (fun w':World=>w'.cell? ⟨b3,0,none⟩=some (.slice Av j cv)) 7 (by kernel_rfl) ?_;refine zT 0 hS0 ?_;(try simp only[zQ]);refine zkV (i:=1) (v:=?_) rfl (by kernel_rfl) (by kernel_rfl) (by kernel_rfl) (by decide) rfl (by kernel_rfl) (by kernel_rfl) (fun _ _ _ h=>h) (Or.inl ⟨by rfl,?_⟩) hS0 ?_;rotate_left 1
    ·(intro w hSw;(try dsimp only at hSw);(try simp only[zA,zB,zC]);go_simp;(try with_reducible rfl))
    (try simp only[zQ]);refine zT 2 hS0 ?_;(try simp only[zQ]);have hsz:=aj.out.size;have had:Calls Tryz.prog 49 [.slice Al l.length cl].toArray wr.drew fun e w'=>∃ v,e=.returned v/\(w'.ownsRow wr.heap.size 3 1 v l.length (zkj l)/\Below wr.heap.size wr w') :=
     dO.out.mono fun e w' ⟨v,h1,h2,_,h4⟩=>⟨v,h1,h2,zka (Below.refl wr.heap.size wr).drew h4⟩
    refine zo 3 fun K hK=>?_;refine zkh (by rfl) (.func 49) [.tmp 22] _ (by rfl) 49 _ znq (by rfl) _ (by rfl) _ had ?_;rintro v8 wb ⟨ho,hbb⟩;have hd1:=HRW.out.upd (some (.el j)) (r:=⟨v8,3,1,l.length,zkj l⟩) (Chg.of_below hbb) (zlT ho hsz) (fun b hb=>.inr (ho.lt b hb).1);have HD1:=zh hd1;have iV:=zh hbb;have hS2:(fun _:World=>True) wb/\(fun w':World=>w'.cell? ⟨b3,0,none⟩=some (.slice Av j cv)) wb:=⟨trivial,zb iV.out x0⟩
    obtain⟨A8,kS,rfl,-⟩:=zkm ho;refine hK.out _ _ hS2 ?_;clear hK K hd1 ho hS0 hbb had;(try simp only[zQ]);have h1:=zLG;refine zo 4 fun K hK=>?_;(try simp only[zA,zB,zC]);go_simp;have rJ:=zh (show Below wr.heap.size wr (wb.alloc (.cells #[.slice A8 l.length kS] 24)) from zkb iV.out _);have HD2:=zh (HD1.out.later (show Below wb.heap.size wb (wb.alloc (.cells #[.slice A8 l.length kS] 24)) from zkb (Below.refl _ _) _));have aF:=zh (show(wb.alloc (.cells #[.slice A8 l.length kS] 24)).heap[wb.heap.size]?=some (.cells #[.slice A8 l.length kS] 24 (0,0)) from heap_alloc_new wb _);have nU:(fun _:World=>True) (wb.alloc (.cells #[.slice A8 l.length kS] 24))/\(fun w':World=>w'.cell? ⟨b3,0,none⟩=some (.slice Av j cv)) (wb.alloc (.cells #[.slice A8 l.length kS] 24)):=⟨trivial,zb rJ.out x0⟩
    obtain⟨wc,hwc⟩:∃ x,(wb.alloc (.cells #[.slice A8 l.length kS] 24))=x:=⟨_,rfl⟩
    rw[hwc] at rJ HD2 aF nU ⊢;refine hK.out _ _ nU ?_;clear hK K hwc hS2 HD1;(try simp only[zQ]);have hszC:=(zka aj.out rJ.out).size;have hrow:=HD2.out.row (some .all);rw[zko (by simp)] at hrow;change wc.ownsRow w1.heap.size 24 1 (.slice Av j cv) j ((List.range j).map fc) at hrow;refine zo 5 fun K hK=>?_;refine zlh (by rfl) (.tmp 21) (.tmp 24) 23 (by rfl) w1.heap.size 24 i0 _ 1 24 Tryz.underlying23 hi0 hq0 hq1 hq2 rfl (by decide) (.slice Av j cv) j ((List.range j).map fc) (by rfl) hrow ⟨wb.heap.size,0,none⟩ 1 1 [.slice A8 l.length kS] (by rfl) rfl (fun q u hq=>by
     match q,hq with
     | 0,hq=>injection hq with hq;subst hq;exact zc aF.out rfl) (fun u hu=>by simp at hu;subst hu;rfl) (by unfold maxLen;omega) (by omega) hszC (fun vd wd ho hg aR=>?_)
    have hd3:=HD2.out.upd (some .all) (r:=⟨vd,24,1,j+1,(List.range j).map fc++[.slice A8 l.length kS]⟩) ((Chg.row hg).mono fun b _ hb=>hb) ho (fun b hb=>by
     rcases aR with h5|h5
     ·exact .inl (h5▸hb)
     ·exact .inr (by rw[h5] at hb;injection hb with hb;omega))
    have HD3:=zh hd3;have hav:∀ g,(Value.slice Av j cv).ownBlock=some g->(zos (.slice Av j cv) vi vo fc b3 s j (some .all)).v.ownBlock=some g:=fun g e=>e;have hsep:∀ g,(Value.slice Av j cv).ownBlock=some g->g≠b3:=fun g e h=>HRW.out.sep (some .all) none g (by simp) e (by rw[h];rfl);have hlo:∀ g,(Value.slice Av j cv).ownBlock=some g->w1.heap.size<=g:=fun g e=>(HRW.out.lt (some .all) g e).1;have kD:Chg (fun b=>(Value.slice Av j cv).ownBlock=some b) wc wd:=Chg.row hg;have iw:=zh (show Below w1.heap.size w1 wd from (zka aj.out rJ.out).grown hg hszC (fun g e=>hlo g e));have pW:=znS (HD3.out.row none);have e0:wd.cell? ⟨b3,0,none⟩=some (.slice Av j cv):=zc pW rfl;have ez:wd.frozen? ⟨b3,0,none⟩=false:=zf pW;have hab:a.block<w1.heap.size:=by
     obtain⟨a',_,_,e',_,hc',_⟩:=HR1.out j hlt;injection e' with e';subst e';have:=World.block_lt_of_cell? w1 _ hc';rwa[zkW] at this
    have rW:(fun _:World=>True) wd/\(fun w':World=>w'.cell? ⟨b3,0,none⟩=some (.slice Av j cv)) wd:=⟨trivial,e0⟩
    have hd4:=HD3.out.set none (g:=b3) (o:=0) (by rfl) (by show 0<3;decide) vd;have hd5:Rws (wd.setCell ⟨b3,0,none⟩ vd) w1.heap.size (zos vd vi vo (fun i=>if i=j then .slice A8 l.length kS else fc i) b3 s (j+1)):=by
     rw[<-zKS (.slice Av j cv) vd vi vo fc b3 s j l (.slice A8 l.length kS) (by rw[List.getD_eq_getElem?_getD,List.getElem?_eq_getElem hlt];exact Hl.out)];exact hd4
    have HD5:=zh hd5;have hb3lt:=(HD3.out.lt none b3 rfl)
    have xW:=zh (show Below w1.heap.size w1 (wd.setCell ⟨b3,0,none⟩ vd) from iw.out.trans ((((Chg.refl (fun b=>b=b3) wd).setCell (p:=⟨b3,0,none⟩) (.inl rfl) vd)).below iw.out.size fun b e=>by omega));obtain⟨Ad,cd',rfl,-⟩:=zkm ho;refine hK.out _ _ rW ?_;clear hK K hd3 hd4 hd5 ho hg aR hrow nU kD hav hsep hlo pW;(try simp only[zQ]);refine zo 6 fun K hK=>?_;(try simp only[zA,zB,zC]);go_simp;refine hK.out _ _ rW ?_;clear hK K;(try simp only[zQ]);refine zp 7 fun K hK=>?_;(try simp only[zA,zB,zC]);go_simp;refine hK.out _ _ trivial ?_;clear hK K;(try simp only[zQ]);refine zd ?_;refine NoPanic.normal ?_;go_wp2_with fail
    go_roundw
    case rel=>exact⟨j+1,by omega,by go_num,xW,_,_,HD5⟩
    case measure=>simp[intOf];omega
   ·obtain rfl:j=s.cells.length:=by omega
    have hj1:¬ (s.cells.length:Int)<(s.cells.length:Int):=by omega
    have hbx:=znS (HRW.out.row none);have x0:wr.cell? ⟨b3,0,none⟩=some vc:=zc hbx rfl;have x1:wr.cell? ⟨b3,1,none⟩=some vi:=zc hbx rfl;have x2:wr.cell? ⟨b3,2,none⟩=some vo:=zc hbx rfl;obtain⟨Av,cv,dQ,-⟩:=zkm (HRW.out.row (some .all));change vc=.slice Av s.cells.length cv at dQ;subst dQ;rw[<-HVI.out] at x1;rw[<-HVO.out] at x2;have hk3:=zkd ji.out aj.out;have q0:wr.cell? ⟨w.heap.size+1,0,none⟩=some (.slice none 0 0):=zc hk3 rfl;have q1:wr.cell? ⟨w.heap.size+1,1,none⟩=some (.slice none 0 0):=zc hk3 rfl;have q2:wr.cell? ⟨w.heap.size+1,2,none⟩=some (.slice none 0 0):=zc hk3 rfl;have cf:∀ j,wr.frozen? ⟨w.heap.size+1,j,none⟩=false:=fun j=>zf hk3;have fH:=zh (zvh HRW.out);have HK3E:=zh hk3;clear hbx hk3 HRW;go_wp2_with fail
    have hch:Chg (fun b=>b=w.heap.size+1) wr (((wr.setCell ⟨w.heap.size+1,0,none⟩ (.slice Av s.cells.length cv)).setCell ⟨w.heap.size+1,1,none⟩ (.slice B8 s.tin.length c8)).setCell ⟨w.heap.size+1,2,none⟩ (.slice jK s.tout.length c12)) :=
     (((Chg.refl (fun b=>b=w.heap.size+1) wr).setCell (p:=⟨w.heap.size+1,0,none⟩) (.inl rfl) _).setCell (p:=⟨w.heap.size+1,1,none⟩) (.inl rfl) _).setCell (p:=⟨w.heap.size+1,2,none⟩) (.inl rfl) _
    have hh:=heap_setCell_same _ (w.heap.size+1) 2 _ _ (.slice jK s.tout.length c12) (heap_setCell_same _ (w.heap.size+1) 1 _ _ (.slice B8 s.tin.length c8) (heap_setCell_same wr (w.heap.size+1) 0 _ _ (.slice Av s.cells.length cv) HK3E.out));obtain⟨w9,jq⟩:∃ x,((wr.setCell ⟨w.heap.size+1,0,none⟩ (.slice Av s.cells.length cv)).setCell ⟨w.heap.size+1,1,none⟩ (.slice B8 s.tin.length c8)).setCell ⟨w.heap.size+1,2,none⟩ (.slice jK s.tout.length c12)=x:=⟨_,rfl⟩
    rw[jq] at hch hh ⊢;have t0:w9.cell? ⟨w.heap.size+1,0,none⟩=some (.slice Av s.cells.length cv):=zc hh (by simp);have t1:w9.cell? ⟨w.heap.size+1,1,none⟩=some (.slice B8 s.tin.length c8):=zc hh (by simp);have t2:w9.cell? ⟨w.heap.size+1,2,none⟩=some (.slice jK s.tout.length c12):=zc hh (by simp);refine bodyPost_ret (v:=.agg #[.slice Av s.cells.length cv,.slice B8 s.tin.length c8,.slice jK s.tout.length c12]) (by simp[results,Tryz.results79,go_sem,t0,t1,t2]) rfl ⟨_,rfl,?_,(zka HB1.out aj.out).trans (hch.below (zka HB1.out aj.out).size fun b e=>by omega)⟩;have hrw:=fH.out.chg hch (fun i b hb e=>by have:=(fH.out.lt i b hb).1;omega);rw[<-HVI.out,<-HVO.out] at hrw;exact⟨_,_,_,_,rfl,hrw.mono (by omega),HI.out⟩
 ·right
  have bA:=HC.out;have hcc:(l5=true->l2=true)/\(l6=true->l2=true/\l5=true):=⟨bA.1,fun h=>(bA.2.1 h).2⟩
  refine⟨f-1,?_,?_,?_⟩
  ·clear HC bA HRW HU ha aj hcc;subst hf;revert hall;revert l2 l5 l6 l7
   decide
  ·clear HC bA HRW HU ha aj hf;revert hall hcc;revert l2 l5 l6 l7
   decide +kernel
  intro i hi;have hcase:(i=2/\l2=false)\/(i=5/\l5=false/\l2=true)\/(i=6/\l6=false/\l2=true/\l5=true)\/(i=7/\l7=false):=by
   refine of_decide_eq_true ((List.all_eq_true (p:=fun i=>decide ((i=2/\l2=false)\/(i=5/\l5=false/\l2=true)\/(i=6/\l6=false/\l2=true/\l5=true)\/(i=7/\l7=false)))).1 ?_ i hi);clear HC bA HRW HU ha aj hf hi;revert hall hcc;revert l2 l5 l6 l7
   decide +kernel
  clear hi hall;subst ha hA;rcases hcase with⟨rfl,rfl⟩|⟨rfl,rfl,rfl⟩|⟨rfl,rfl,rfl,rfl⟩|⟨rfl,rfl⟩
  ·refine wpOp_step rfl (fun K' dK=>?_);have hK:=zh dK;clear dK;have hsz:=aj.out.size;have had:Calls Tryz.prog 49 [.slice B s.tin.length d].toArray wr fun e w'=>∃ v,e=.returned v/\(w'.ownsRow wr.heap.size 3 1 v s.tin.length (zkj s.tin)/\Below wr.heap.size wr w') :=
    (zk2 s.tin B d Any wr (HR2.out.later aj.out) HL.out.2.2.1).mono fun e w' ⟨v,h1,h2,_,h4⟩=>⟨v,h1,h2,h4⟩
   refine zkh (by rfl) (.func 49) [.tmp 7] _ (by rfl) 49 _ znq (by rfl) _ (by rfl) _ had ?_;rintro v' w' ⟨ho,hb⟩;obtain rfl:l6=false:=by
    rcases l6 with _|_
    ·rfl
    ·exact absurd (hcc.2 rfl).1 (by decide)
   obtain rfl:l5=false:=by
    rcases l5 with _|_
    ·rfl
    ·exact absurd (hcc.1 rfl) (by decide)
   have hrw:=HRW.out.upd (some .inp) (r:=⟨v',3,1,s.tin.length,zkj s.tin⟩) (Chg.of_below hb) (zlT ho hsz) (fun b hb=>.inr (ho.lt b hb).1);rw[k_2] at hrw;exact hK.out _ _ ⟨true,false,false,l7,_,v12,v13,v3,b3,(by subst hf;simp<;>omega),rfl,(by simp only[zQ]),zh (zka aj.out hb),zh hrw,zh ⟨fun h=>(by cases h),fun h=>(by cases h),bA.2.2⟩,HU⟩
  ·refine wpOp_step rfl (fun K' dK=>?_);have hK:=zh dK;clear dK;have hsz:=aj.out.size;have had:Calls Tryz.prog 49 [.slice D s.tout.length e].toArray wr fun e w'=>∃ v,e=.returned v/\(w'.ownsRow wr.heap.size 3 1 v s.tout.length (zkj s.tout)/\Below wr.heap.size wr w') :=
    (zk2 s.tout D e Any wr (HR3.out.later aj.out) HL.out.2.2.2).mono fun e w' ⟨v,h1,h2,_,h4⟩=>⟨v,h1,h2,h4⟩
   refine zkh (by rfl) (.func 49) [.tmp 10] _ (by rfl) 49 _ znq (by rfl) _ (by rfl) _ had ?_;rintro v' w' ⟨ho,hb⟩;obtain rfl:l6=false:=by
    rcases l6 with _|_
    ·rfl
    ·exact absurd (hcc.2 rfl).2 (by decide)
   have hrw:=HRW.out.upd (some .out) (r:=⟨v',3,1,s.tout.length,zkj s.tout⟩) (Chg.of_below hb) (zlT ho hsz) (fun b hb=>.inr (ho.lt b hb).1);rw[k_5] at hrw;exact hK.out _ _ ⟨true,true,false,l7,v8,_,v13,v3,b3,(by subst hf;simp<;>omega),rfl,(by simp only[zQ]),zh (zka aj.out hb),zh hrw,zh ⟨fun _=>rfl,fun h=>(by cases h),bA.2.2⟩,HU⟩
  ·refine wpOp_step rfl (fun K' dK=>?_);have hK:=zh dK;clear dK;obtain⟨B8,c8,e8,-,-⟩:=zkm (HRW.out.row (some .inp));change v8=.slice B8 s.tin.length c8 at e8;obtain⟨jK,c12,e12,-,-⟩:=zkm (HRW.out.row (some .out));change v12=.slice jK s.tout.length c12 at e12;subst e8 e12;(try simp only[zQ]);go_simp;exact hK.out _ _ ⟨true,true,true,l7,_,_,_,v3,b3,(by subst hf;simp<;>omega),rfl,(by simp only[Act.put,zD,zE,zF]),aj,HRW,zh ⟨fun _=>rfl,fun _=>⟨rfl,rfl,rfl⟩,bA.2.2⟩,HU⟩
  ·refine wpOp_step rfl (fun K' dK=>?_);have hK:=zh dK;clear dK;obtain rfl:=HU.out rfl;(try simp only[zQ]);go_simp;have hsz:=aj.out.size;have hrw:=HRW.out.upd none (r:=⟨boxV wr.heap.size,26,3,1,[.slice none 0 0,.slice none 0 0,.slice none 0 0]⟩) (W':=wr.alloc (.cells #[.slice none 0 0,.slice none 0 0,.slice none 0 0] 26)) (Chg.of_below (zkb (Below.refl _ _) _)) (zxI wr _ hsz _ _ _ _) (fun b hb=>.inr (by simp[Value.ownBlock] at hb;omega));rw[k_7] at hrw;exact hK.out _ _ ⟨l2,l5,l6,true,v8,v12,v13,_,wr.heap.size,(by subst hf;simp<;>omega),rfl,(by simp only[Act.put,zD,zE,zF]),zh (zkb aj.out _),zh hrw,zh ⟨bA.1,bA.2.1,fun _=>rfl⟩,zh (fun h=>(by cases h))⟩
def Nz (o:Out):Prop:=o ≠ .err 0
theorem Nz.bind {o:Out} {f:RS->Out} (h:Nz o) (hf:∀ r,Nz (f r)):Nz (o.bind f):=by
 cases o with
 | gas=>exact fun e=>by cases e
 | err x=>exact h
 | ok r=>exact hf r
theorem Nz.ok (r:RS):Nz (.ok r):=fun e=>by cases e
theorem Nz.gas:Nz .gas:=fun e=>by cases e
theorem Nz.step (F:Int) (r:RS):Nz (zkw F r):=by
 unfold zkw
 split
 ·intro e;injection e with e;omega
 ·exact Nz.ok _
theorem Nz.store (r:RS) (R:Int×ST):Nz (zkf r R):=by
 unfold zkf
 split
 ·rename_i h;intro e;injection e with e;exact h e
 ·exact Nz.ok _
theorem Nz.val {t:T} {r:RS} {f:Int->RS->Out} (hf:∀ x,Nz (f x r)):Nz (valO t r f):=by
 unfold valO
 split
 ·rename_i h;intro e;injection e with e;exact h e
 ·exact hf _
theorem Nz.holds {F:Int} {t:T} {r:RS} {f:Bool->RS->Out} (hf:∀ b r,Nz (f b r)):Nz (zk0 F t r f):=(Nz.step F r).bind fun r=>Nz.val fun x=>hf _ _
theorem Nz.assert (F:Int) (t:T) (b:Bool) (r:RS):Nz (zkn F t b r):=Nz.holds fun b' r=>by
 split
 ·exact Nz.ok _
 ·intro e;injection e with e;omega
theorem Nz.body {f:T->RS->Out}:∀ (l:List T) (r:RS),(∀ t∈l,∀ r,Nz (f t r))->Nz (zkp f l r)
 | [],r,_=>Nz.ok r
 | t::ts,r,h=>(h t (List.mem_cons_self ..) r).bind fun r=>Nz.body ts r fun u hu=>h u (List.mem_cons_of_mem _ hu)
theorem Nz.loop {F:Int} {f:T->RS->Out} {entry test:T} {l1 l2:List T} (h1:∀ t∈l1,∀ r,Nz (f t r)) (h2:∀ t∈l2,∀ r,Nz (f t r)):∀ (m:Nat) (r:RS),Nz (zk9 F f entry test l1 l2 m r)
 | 0,_=>Nz.gas
 | m+1,r=>by
  rw[zk9];refine(Nz.body l1 r h1).bind fun r=>Nz.holds fun b r=>?_
  split
  ·exact Nz.ok _
  ·exact(Nz.body l2 r h2).bind fun r=>(Nz.assert F entry false r).bind fun r=>Nz.loop h1 h2 m r
theorem zo4 {G:List PR->T->Prop} (hG:GC G) {prs:List PR} {F:Int}:∀ (g:Nat) (back:Bool) (t:T) (r:RS),G prs t->Nz (zkk prs F g back t r)
 | 0,_,_,_,_=>Nz.gas
 | g+1,back,t,r,h=>by
  have hb:∀ back (b:T) r,(∀ u∈b.ks,G prs u)->Nz (zkp (zkk prs F g back) (blkL back b) r):=fun back b r hu=>Nz.body _ r fun u hm r=>zo4 hG g back u r (hu u (zkR hm));rw[zkk]
  split
  ·rename_i hk;obtain⟨-,h1,h2⟩:=hG.two _ _ h (.inl hk);refine Nz.holds fun yes r=>Nz.bind ?_ fun r=>Nz.assert _ _ _ _
   split
   ·exact hb _ _ _ h1
   ·exact hb _ _ _ h2
  ·split
   ·rename_i hk;obtain⟨-,h1,h2⟩:=hG.two _ _ h (.inr hk);exact(Nz.assert _ _ _ _).bind fun r=>Nz.loop (fun u hm r=>zo4 hG g back u r (h1 u (zkR hm))) (fun u hm r=>zo4 hG g back u r (h2 u (zkR hm))) g r
   ·split
    ·rename_i hk;obtain⟨-,h1⟩:=hG.loc _ _ h hk;exact(Nz.step _ _).bind fun r=>Nz.val fun x=>(Nz.store _ _).bind fun r=>(hb _ _ _ h1).bind fun r=>(Nz.step _ _).bind fun r=>Nz.val fun x=>Nz.store _ _
    ·split
     ·rename_i hk;obtain⟨-,h1⟩:=hG.stk _ _ h hk;exact(Nz.step _ _).bind fun r=>(Nz.store _ _).bind fun r=>(hb _ _ _ h1).bind fun r=>(Nz.step _ _).bind fun r=>Nz.store _ _
     ·split
      ·rename_i hk;obtain⟨i,q,hi,hq,h1⟩:=hG.cal _ _ h hk;rw[hi];dsimp only;rw[getD_some hq];exact(Nz.step _ _).bind fun r=>(Nz.store _ _).bind fun r=>(hb _ _ _ h1).bind fun r=>(Nz.step _ _).bind fun r=>Nz.store _ _
      ·exact(Nz.step _ _).bind fun r=>Nz.store _ _
theorem zvd {G:List PR->T->Prop} (hG:GC G) {prs:List PR} {F:Int} {g:Nat} {back:Bool} {b:T} {r:RS} (h:∀ u∈b.ks,G prs u):Nz (runO prs F g back b r):=Nz.body _ r fun u hm r=>zo4 hG g back u r (h u (zkR hm))
theorem RI.chgK {C:RC} {lo hi:Nat} {W W':World} {r:RS} (hC:(C.plus lo hi).Ok) (h:RI (C.plus lo hi) W r) (hc:Chg (fun b=>lo<=b/\b<hi) W W') (hlo:C.w.heap.size<=lo):RI (C.plus lo hi) W' r:=by
 have hkb:∀ b,lo<=b/\b<hi->(C.plus lo hi).kb b:=fun b hb=>.inr hb;refine⟨h.ks.chg hc fun b _ hb=>⟨Nat.le_trans hlo hb.1,.inr (.inl (hkb b hb))⟩,hc.keep h.box fun hb=>hC.rb.2 (hkb _ hb),zqQ h.ent fun b hb=>?_,h.el,h.en,h.n,h.fb⟩;exact hc.block b (h.ent.lt b hb).2 fun hb'=>hC.ev.2 b hb (hkb _ hb')
end Go.Proofs.YtckhofdinldhpaaGreat
