
/-
  Texts of the proof, put together without their remarks: Rev2, Rpl, Piv, Exi, Gin, Gsv, Lgs, Lift, LiftV, LiftP, LiftX.
-/
import Derived.Test.YthjinpodhacleaaGreatS8
import Derived.Test.YthjinpodhacleaaGreatRows
import Derived.ProofKit
import Derived.SizedLaws
import Derived.Deep.Slices
import Derived.Deep.Fields
import Derived.Lib.SmallJoins
set_option linter.unusedSimpArgs false
set_option linter.unusedVariables false
set_option maxHeartbeats 8000000
set_option maxRecDepth 100000
namespace Go.Proofs.YthjinpodhacleaaGreat
open Go.Proofs.Tryz
section
open Go Go.RowKit
def OkN(u:T):Prop:=rejE u=0/\(u.k=54->menB (kid u 0) u.s=false/\menB (kid u 2) u.s=false)
structure RvT(prs:List PR)(t:T):Prop where
 gp:GP prs t
 ok:∀u∈po t,OkN u
 pr:∀q∈prs,∀u∈po q.b,OkN u
theorem zKa(t:T):t∈po t:=by obtain⟨k,n,s,ks⟩:=t;simp[po]
theorem zxY{t u:T}(h:u∈t.ks):∀w∈po u,w∈po t:=by
 obtain⟨k,n,s,ks⟩:=t;exact fun w hw=>by simp only[po,List.mem_cons];exact .inr (zlH.2 ⟨u,h,hw⟩)
theorem ztl{t u:T}{i:Nat}(h:u∈(kid t i).ks):∀w∈po u,w∈po t:=by
 unfold kid at h;rw[yI]at h;rcases hk:t.ks[i]? with _|v
 ·rw[hk]at h;simp[nil0]at h
 ·rw[hk]at h;exact fun w hw=>zxY (yD1 hk) w (zxY h w hw)
theorem RvT.own{prs:List PR}{t:T}(h:RvT prs t):OkN t:=h.ok t (zKa t)
theorem RvT.two{prs:List PR}{t:T}(h:RvT prs t)(hk:t.k=52\/t.k=53):(∀u∈(kid t 1).ks,RvT prs u)/\∀u∈(kid t 2).ks,RvT prs u:=by
 obtain⟨-,h1,h2⟩:=zsZ.two prs t h.gp hk;exact⟨fun u hu=>⟨h1 u hu,fun w hw=>h.ok w (ztl hu w hw),h.pr⟩,fun u hu=>⟨h2 u hu,fun w hw=>h.ok w (ztl hu w hw),h.pr⟩⟩
theorem RvT.loc{prs:List PR}{t:T}(h:RvT prs t)(hk:t.k=54):t.ks.length=3/\∀u∈(kid t 1).ks,RvT prs u:=by
 obtain⟨h0,h1⟩:=zsZ.loc prs t h.gp hk;exact⟨h0,fun u hu=>⟨h1 u hu,fun w hw=>h.ok w (ztl hu w hw),h.pr⟩⟩
theorem RvT.stk{prs:List PR}{t:T}(h:RvT prs t)(hk:t.k=55):∀u∈(kid t 0).ks,RvT prs u:=by
 obtain⟨-,h1⟩:=zsZ.stk prs t h.gp hk;exact fun u hu=>⟨h1 u hu,fun w hw=>h.ok w (ztl hu w hw),h.pr⟩
theorem RvT.cal{prs:List PR}{t:T}(h:RvT prs t)(hk:t.k=50\/t.k=51):∀i,prcI prs t.s=some i->∀u∈(prs.getD i ⟨⟨#[]⟩,[],nil0⟩).b.ks,RvT prs u:=by
 intro i hi;obtain⟨j,q,hj,hq,h1⟩:=zsZ.cal prs t h.gp hk;rw[hi]at hj;injection hj with hj;subst hj;rw[getD_some hq];exact fun u hu=>⟨h1 u hu,fun w hw=>h.pr q (yD1 hq) w (zxY hu w hw),h.pr⟩
def NdS(S:ST):Prop:=S.base.cs.Nodup/\∀f∈S.calls,f.cs.Nodup
theorem NdS.cur{S:ST}(h:NdS S):S.cur.cs.Nodup:=by
 rcases Nat.eq_zero_or_pos S.calls.length with h0|h0
 ·rw[zmg h0];exact h.1
 ·rw[zmA h0];exact h.2 _ (yE _)
theorem NdS.of{S S':ST}(h:NdS S)(h1:S'.base=S.base)(h2:S'.calls=S.calls):NdS S':=by unfold NdS;rw[h1,h2];exact h
theorem NdS.keep{r r':RS}(h:NdS r.S)(hk:Keep r r'):NdS r'.S:=h.of hk.base hk.calls
theorem NdS.setCur{S:ST}(h:NdS S){f:FR}(hf:f.cs.Nodup):NdS (S.setCur f):=by
 unfold ST.setCur
 split
 ·exact⟨hf,h.2⟩
 ·refine⟨h.1,fun g hg=>?_⟩;rcases List.mem_or_eq_of_mem_set hg with hg|rfl
  ·exact h.2 g hg
  ·exact hf
theorem NdS.open_{S:ST}(h:NdS S)(hw:S.WF)(l:List Int)(v:VD):NdS ((S.newCell l).setCur (S.cur.push v S.nc)):=by
 obtain⟨kd,hc⟩:=hw.cur;refine NdS.setCur (S:=S.newCell l) h ?_
 show(S.cur.cs++[S.nc]).Nodup
 rw[List.nodup_append];refine⟨h.cur,zS,fun a ha b hb=>?_⟩;obtain rfl:=yE1.1 hb;have:=hc.num a ha;omega
theorem zyl{ks:List T}{s:ByteArray}(h:hasN ks s=false):∀t∈ks,(t.s.toList==s.toList)=false:=by
 unfold hasN at h;rw[List.any_eq_false]at h;exact fun t ht=>by simpa using h t ht
theorem zyJ{t:T}{ks:List T}(h:dupB (t::ks)=false):(∀u∈ks,(t.s.toList==u.s.toList)=false)/\dupB ks=false:=by
 unfold dupB at h ⊢;rw[List.any_eq_false]at h ⊢;refine⟨fun u hu=>?_,fun j hj=>?_⟩
 ·obtain⟨j,hj,rfl⟩:=yN1 hu;have:=h (j+1) (by simp;omega);simp only[List.take_succ_cons,List.getD_cons_succ,Bool.not_eq_true]at this;rw[yI,yC hj]at this;exact zyl this t (yY ..)
 ·have:=h (j+1) (by simp at hj ⊢;omega);simp only[List.take_succ_cons,List.getD_cons_succ,Bool.not_eq_true]at this;simp only[Bool.not_eq_true];unfold hasN at this ⊢;simp only[List.any_cons,Bool.or_eq_false_iff]at this;exact this.2
theorem zwS{f:FR}{s:ByteArray}{i:Nat}(h:f.at s=some i):∃v,f.vs[i]?=some v/\(v.s.toList==s.toList)=true:=znd h
theorem zsN{f:FR}(hf:f.cs.Nodup)(hl:f.cs.length=f.vs.length):∀(ps:List VD) (ts:List T) (acc g:FR),dupB ts=false->acc.cs.Nodup->(∀c∈acc.cs,∀t∈ts,∀i,f.at t.s=some i->f.cs[i]?≠some c)->entL f acc (ps.zip (ts.map (·.s)))=.ok g->g.cs.Nodup/\g.loc=acc.loc\/g.cs.Nodup/\g.loc=0
 | [],ts,acc,g,_,ha,_,h=>by
  simp only[List.zip_nil_left,entL,Except.ok.injEq]at h;subst h;exact .inl ⟨ha,rfl⟩
 | p::ps,[],acc,g,_,ha,_,h=>by
  simp only[List.map_nil,List.zip_nil_right,entL,Except.ok.injEq]at h;subst h;exact .inl ⟨ha,rfl⟩
 | p::ps,t::ts,acc,g,hd,ha,hx,h=>by
  simp only[List.map_cons,List.zip_cons_cons]at h;rw[entL]at h;obtain⟨hd1,hd2⟩:=zyJ hd
  cases hat:f.at t.s with
  | none=>rw[hat]at h;cases h
  | some i =>
   rw[hat]at h;dsimp only at h;have hi:i<f.cs.length:=by rw[hl];exact FR.at_lt hat
   have hci:f.cs[i]?=some (f.cs.getD i 0):=by rw[yI,yC hi];rfl
   split at h
   ·have:=zsN hf hl ps ts ⟨acc.vs++[p],acc.cs++[f.cs.getD i 0],0⟩ g hd2 (by
     rw[List.nodup_append];refine⟨ha,zS,fun a ha' b hb e=>?_⟩;obtain rfl:=yE1.1 hb;exact hx a ha' t (yY ..) i hat (by rw[e];exact hci)) (fun c hc u hu j hj=>?_) h
    ·rcases this with h1|h1
     ·exact .inr h1
     ·exact .inr h1
    ·simp only at hc;rcases yW.1 hc with hc|hc
     ·exact hx c hc u (yA1 _ hu) j hj
     ·obtain rfl:=yE1.1 hc;intro e;have hj':j<f.cs.length:=by rw[hl];exact FR.at_lt hj
      rw[<-hci]at e;rw[yC hj',yC hi]at e;injection e with e;have hij:j=i:=(List.getElem_inj hf).1 e;subst hij;obtain⟨v,a1,a2⟩:=zwS hat;obtain⟨v',b1,b2⟩:=zwS hj;rw[a1]at b1;injection b1 with b1;subst b1;rw[beq_iff_eq]at a2 b2;have:=hd1 u hu;rw[<-a2,<-b2]at this;simp at this
   ·cases h
def RevR(F:Int)(f:RS->Out)(r r':RS):Prop:=r.n<=r'.n/\∀x:RS,Eqv r'.S x.S->(x.n:Int)+(r'.n-r.n:Nat)<=F->∃x',f x=.ok x'/\Eqv r.S x'.S/\x'.n=x.n+(r'.n-r.n)
section
variable {F:Int} {f f':RS->Out} {r r1 r':RS} {t:T}
theorem RevR.trans(h:RevR F f r r1)(h':RevR F f' r1 r'):RevR F (fun x=>(f' x).bind f) r r':=by
 obtain⟨a1,a2⟩:=h;obtain⟨b1,b2⟩:=h';refine⟨zO,fun x hx hF=>?_⟩;obtain⟨x1,c1,c2,c3⟩:=b2 x hx zO;obtain⟨x2,d1,d2,d3⟩:=a2 x1 c2 zO;exact⟨x2,by show(f' x).bind f=_;rw[c1];exact d1,d2,zO⟩
theorem zlS{x:RS}(h:(x.n:Int)<F):zkw F x=.ok { x with n:=x.n+1 }:=by
 unfold zkw;rw[if_neg zO]
theorem zqs{x:RS}{S:ST}{g:Int->RS->Out}(hl:zkI x.S.look t=zkI S.look t)(h0:(zkI S.look t).2=0):valO t x g=g (zkI S.look t).1 x:=by
 unfold valO;rw[hl,if_neg (by rw[h0];decide)]
theorem zne{x:RS}{S:ST}{g:Bool->RS->Out}(hn:(x.n:Int)<F)(hl:zkI x.S.look t=zkI S.look t)(h0:(zkI S.look t).2=0):zk6 F t x g=g (decide ((zkI S.look t).1≠0)) { x with n:=x.n+1 }:=by
 unfold zk6;rw[zlS hn]
 show valO t { x with n:=x.n+1 } (fun v r=>g (decide (v≠0)) r)=_
 exact zqs (S:=S) hl h0
theorem znE{x:RS}{S:ST}{b:Bool}(hn:(x.n:Int)<F)(hl:zkI x.S.look t=zkI S.look t)(h0:(zkI S.look t).2=0)(hb:decide ((zkI S.look t).1≠0)=b):zko F t b x=.ok { x with n:=x.n+1 }:=by
 unfold zko;rw[zne (S:=S) hn hl h0,if_pos hb]
theorem Eqv.look{S S':ST}(h:Eqv S S'):S'.look=S.look:=by
 obtain⟨ρ,h⟩:=h;exact h.look
theorem zlv{x:RS}{R:Int×ST}(h:R.1=0):zkh x R=.ok { x with S:=R.2 }:=by
 unfold zkh;rw[if_neg (by rw[h];decide)]
theorem zrV(g:T->RS->Out):∀(a b:List T) (r:RS),zkt g (a++b) r=(zkt g a r).bind (zkt g b)
 | [],b,r=>rfl
 | t::a,b,r=>by
  rw[List.cons_append,zkt,zkt]
  cases h:g t r with
  | gas=>rfl
  | err e=>rfl
  | ok r1=>exact zrV g a b r1
def UnS(F:Int)(g gr:T->RS->Out)(t:T):Prop:=∀r r',RInv r->NdS r.S->g t r=.ok r'->RevR F (gr t) r r'/\RInv r'/\NdS r'.S
theorem zm4{g gr:T->RS->Out}:∀(l:List T),(∀t∈l,UnS F g gr t)->∀(r r':RS),RInv r->NdS r.S->zkt g l r=.ok r'->RevR F (zkt gr l.reverse) r r'/\RInv r'/\NdS r'.S
 | [],_,r,r',hr,hn,h=>by
  injection h with h;subst h;exact⟨⟨zl,fun x hx _=>⟨x,rfl,hx,zO⟩⟩,hr,hn⟩
 | t::l,hu,r,r',hr,hn,h=>by
  rw[zkt]at h;obtain⟨r1,h1,h2⟩:=zkr h;obtain⟨a1,a2,a3⟩:=hu t (yY ..) r r1 hr hn h1;obtain⟨b1,b2,b3⟩:=zm4 l (fun u hu'=>hu u (yA1 _ hu')) r1 r' a2 a3 h2;refine⟨?_,b2,b3⟩;have e:zkt gr (t::l).reverse=fun x=>(zkt gr l.reverse x).bind (gr t):=by
   funext x;rw[List.reverse_cons,zrV]
   cases zkt gr l.reverse x with
   | gas=>rfl
   | err e=>rfl
   | ok y =>
    show(gr t y).bind (zkt gr [])=gr t y
    cases gr t y<;>rfl
  rw[e];exact a1.trans b1
def zwC(F:Int)(gr:T->RS->Out)(entry test:T)(l1 l2:List T)(mm:Nat)(y:RS):Out :=
 zk6 F entry y fun b y=>if b=true then .ok y else(zkt gr l2.reverse y).bind fun y=>(zko F test false y).bind (zle F gr test entry l1.reverse l2.reverse mm)
theorem zpY(gr:T->RS->Out)(entry test:T)(l1 l2:List T)(mm:Nat)(x:RS):zle F gr test entry l1.reverse l2.reverse (mm+1) x=(zkt gr l1.reverse x).bind (zwC F gr entry test l1 l2 mm):=rfl
theorem zrr(hF:F<=1000000){g gr:T->RS->Out}{entry test:T}{l1 l2:List T}(h1:∀t∈l1,UnS F g gr t)(h2:∀t∈l2,UnS F g gr t) :
  ∀(m:Nat) (r r':RS),RInv r->NdS r.S->zle F g entry test l1 l2 m r=.ok r'->RInv r'/\NdS r'.S/\r.n<=r'.n/\∃k,1<=k/\k<=m /\
   ∀(mm:Nat) (x:RS),Eqv r'.S x.S->(x.n:Int)+(r'.n-r.n:Nat)<=F->∃y:RS,Eqv r.S y.S/\y.n=x.n+(r'.n-r.n)/\(zko F test true x).bind (zle F gr test entry l1.reverse l2.reverse (mm+k))=zwC F gr entry test l1 l2 mm y
 | 0,_,_,_,_,h=>by cases h
 | m+1,r,r',hr,hn,h=>by
  rw[zle]at h;obtain⟨ra,ha,h⟩:=zkr h;obtain⟨⟨a0,a1⟩,a2,a3⟩:=zm4 l1 h1 r ra hr hn ha;obtain⟨hn1,hv1,h⟩:=zmY h;have t1:=a2.tick hF hn1
  split at h
  ·rename_i hb;injection h with h;subst h;refine⟨t1,a3,by simp only;omega,1,zl,zO,fun mm x hx ky=>?_⟩;simp only at hx ky ⊢;have hl:zkI x.S.look test=zkI ra.S.look test:=by rw[hx.look]
   rw[znE (S:=ra.S) zO hl hv1 hb];obtain⟨y,c1,c2,c3⟩:=a1 { x with n:=x.n+1 } hx (by simp only;omega);refine⟨y,c2,by simp only at c3;omega,?_⟩
   show zle F gr test entry l1.reverse l2.reverse (mm+1) { x with n:=x.n+1 }=_
   rw[zpY,c1];rfl
  ·rename_i hb;obtain⟨rb,hbb,h⟩:=zkr h;obtain⟨⟨b0,b1⟩,b2,b3⟩:=zm4 l2 h2 _ rb t1 a3 hbb;simp only at b0;obtain⟨rc,hc,h⟩:=zkr h;obtain⟨hn2,hv2,hb2,rfl⟩:=zlN hc;have t2:=b2.tick hF hn2;obtain⟨i1,i2,i0,k,k1,k2,i3⟩:=zrr hF h1 h2 m _ r' t2 b3 h;simp only at i0;refine⟨i1,i2,zO,k+1,zO,zO,fun mm x hx ky=>?_⟩;obtain⟨y0,y1,y2,y3⟩:=i3 (mm+1) x hx (by simp only;omega);simp only at y1 y2;have hl0:zkI y0.S.look entry=zkI rb.S.look entry:=by rw[y1.look]
   have e1:zwC F gr entry test l1 l2 (mm+1) y0=(zkt gr l2.reverse { y0 with n:=y0.n+1 }).bind fun y=>(zko F test false y).bind (zle F gr test entry l1.reverse l2.reverse (mm+1)):=by
    unfold zwC;rw[zne (S:=rb.S) zO hl0 hv2,hb2];simp
   obtain⟨z1,z2,z3,z4⟩:=b1 { y0 with n:=y0.n+1 } y1 (by simp only;omega);simp only at z3 z4;have hl1:zkI z1.S.look test=zkI ra.S.look test:=by rw[z3.look]
   have hbf:decide ((zkI ra.S.look test).1≠0)=false:=by simpa using hb
   obtain⟨w,w1,w2,w3⟩:=a1 { z1 with n:=z1.n+1 } z3 (by simp only;omega);simp only at w3;refine⟨w,w2,zO,?_⟩;rw[show mm+(k+1)=mm+1+k by omega,y3,e1,z2]
   show(zko F test false z1).bind _=_
   rw[znE (S:=ra.S) zO hl1 hv1 hbf]
   show zle F gr test entry l1.reverse l2.reverse (mm+1) { z1 with n:=z1.n+1 }=_
   rw[zpY,w1];rfl
end
theorem zp0{S S':ST}{f:FR}{v:VD}{id:Nat}(hf:f.cs.length=f.vs.length)(h1:S.cur=f)(h2:S'.cur=f.push v id)(hc:∀c∈f.cs,S'.cell c=S.cell c)(s:ByteArray)(hs:(s.toList==v.s.toList)=false):S'.look s=S.look s:=by
 have e:S'.num s=S.num s:=by
  unfold ST.num FR.at
  rw[h1,h2]
  show(zlt (f.vs++[v]) s (f.vs++[v]).length).bind _=_
  have e1:zlt (f.vs++[v]) s (f.vs++[v]).length=zlt f.vs s f.vs.length:=by
   rw[show(f.vs++[v]).length=f.vs.length+1 by simp,zof zS];have:(f.vs++[v])[f.vs.length]=v:=zS
   rw[this,if_neg (by
    intro h;rw[beq_iff_eq]at h;rw[<-h]at hs;simp at hs)]
   have key:∀j,j<=f.vs.length->zlt (f.vs++[v]) s j=zlt f.vs s j:=by
    intro j
    induction j with
    | zero=>intro _;rfl
    | succ j ih =>
     intro hj;rw[zlt,zlt,yJ1 zO,ih zO]
   exact key _ zl
  rw[e1]
  cases hl:zlt f.vs s f.vs.length with
  | none=>rfl
  | some i =>
   have hi:i<f.cs.length:=by rw[hf];exact znQ hl
   show(f.cs++[id])[i]?=f.cs[i]?
   rw[yJ1 hi]
 unfold ST.look;rw[e]
 cases hn:S.num s with
 | none=>rfl
 | some c =>
  simp only[Option.map_some,Option.some.injEq];refine hc c ?_;unfold ST.num at hn;obtain⟨i,-,h4⟩:=yI1.1 hn;rw[h1]at h4;exact yD1 h4
theorem zkH(S:ST)(f:FR):(S.setCur f).cell=S.cell/\(S.setCur f).nc=S.nc/\(S.setCur f).tin=S.tin/\(S.setCur f).tout=S.tout:=by
 unfold ST.setCur
 split<;>exact⟨rfl,rfl,rfl,rfl⟩
theorem zqi{S:ST}(h:S.WF){v:VD}{x:Int}(h0:(zkA S v x).1=0):(zkv (zkA S v x).2 v.s x).1=0/\Eqv S (zkv (zkA S v x).2 v.s x).2:=by
 obtain⟨kd,hc⟩:=h.cur;obtain⟨h1,h2,h3⟩:=zna h0;obtain⟨kd2,hb,hcl,-⟩:=h.ex;have bY:(zkA S v x).2.cur=S.cur.push v S.nc:=by rw[h3,zm7]
 have hcell:∀j,(zkA S v x).2.cell j=if j=S.nc then(if v.k=1 then [x]else [])else S.cell j:=fun j=>by
  rw[h3,(zkH _ _).1];rfl
 have hlv:znx (S.cur.push v S.nc)=v:=by simp[znx,FR.push]
 have hlc:zpc (S.cur.push v S.nc)=S.nc:=by
  have:(S.cur.vs++[v]).length-1=S.cur.cs.length:=by simp[hc.len]
  show(S.cur.cs++[S.nc]).getD ((S.cur.vs++[v]).length-1) 0=S.nc
  rw[this];simp
 have e:zkv (zkA S v x).2 v.s x=(0,(zkA S v x).2.setCur S.cur):=by
  unfold zkv;rw[bY,hlv,hlc,hcell,if_pos rfl,zti hc.len,if_neg (by simp[FR.push]),if_neg];rintro(⟨e1,e2⟩|⟨e1,e2⟩)
  ·rw[if_pos e1]at e2;exact e2 rfl
  ·rw[if_neg zO]at e2;simp at e2
 rw[e];refine⟨rfl,?_⟩;obtain⟨hbs,hcs⟩:((zkA S v x).2.setCur S.cur).base=S.base/\((zkA S v x).2.setCur S.cur).calls=S.calls:=by
  rw[h3];have hs:=znt S;unfold ST.setCur at hs ⊢;by_cases h9:S.calls.length=0
  ·rw[if_pos (show(S.newCell _).calls.length=0 from h9)];dsimp only;rw[if_pos (show(S.newCell _).calls.length=0 from h9)];exact⟨by rw[zmg h9],rfl⟩
  ·rw[if_neg (show ¬ (S.newCell _).calls.length=0 from h9)];rw[if_neg h9]at hs;have hl:((S.newCell (if v.k=1 then [x]else [])).calls.set ((S.newCell (if v.k=1 then [x]else [])).calls.length-1) (S.cur.push v S.nc)).length=S.calls.length:=by simp[ST.newCell]
   dsimp only;rw[if_neg (by rw[hl];exact h9)];refine⟨rfl,?_⟩;dsimp only;rw[hl]
   show(S.calls.set (S.calls.length-1) _).set (S.calls.length-1) S.cur=S.calls
   rw[List.set_set];exact congrArg ST.calls hs
 have hnc:((zkA S v x).2.setCur S.cur).nc=S.nc+1:=by
  rw[(zkH _ _).2.1,h3,(zkH _ _).2.1];rfl
 have hce:∀j,((zkA S v x).2.setCur S.cur).cell j=(zkA S v x).2.cell j:=fun j=>by
  rw[(zkH _ _).1]
 have htp:((zkA S v x).2.setCur S.cur).tin=S.tin/\((zkA S v x).2.setCur S.cur).tout=S.tout:=by
  rw[(zkH _ _).2.2.1,(zkH _ _).2.2.2,h3,(zkH _ _).2.2.1,(zkH _ _).2.2.2];exact⟨rfl,rfl⟩
 have key:∀f:FR,f.WF kd2 S.nc->FrR (fun a b=>a=b/\a<S.nc) f f:=fun f hf=>⟨rfl,rfl,rfl,⟨hf.len,hf.loc⟩,fun i a b ha hb=>by
  rw[ha]at hb;injection hb with hb;exact⟨hb,hf.num a (yD1 ha)⟩⟩
 refine⟨fun a b=>a=b/\a<S.nc,⟨by rintro a b b' ⟨rfl,_⟩ ⟨rfl,_⟩;rfl,by rintro a a' b ⟨rfl,_⟩ ⟨rfl,_⟩;rfl,by rintro a b ⟨rfl,h⟩;exact⟨h,by rw[hnc];omega⟩,?_,by rw[hbs];exact key _ hb,by rw[hcs],fun i f g hf hg=>?_,htp.1,htp.2⟩⟩
 ·rintro a b ⟨rfl,h9⟩;rw[hce,hcell,if_neg zO]
 ·rw[hcs,hf]at hg;injection hg with hg;subst hg;exact key f (hcl f (yD1 hf))
theorem zpU{S S3:ST}(h:S.WF)(h3w:S3.WF){v:VD}{x y:Int}(h0:(zkA S v x).1=0)(hb:S3.base=(zkA S v x).2.base)(hcl:S3.calls=(zkA S v x).2.calls)(hn:(zkA S v x).2.nc<=S3.nc)(h1:(zkv S3 v.s y).1=0) :
  (zkA (zkv S3 v.s y).2 v y).1=0/\Eqv S3 (zkA (zkv S3 v.s y).2 v y).2:=by
 obtain⟨kd,hc⟩:=h.cur;obtain⟨o1,o2,o3⟩:=zna h0;obtain⟨c1,c2,c3,c4,c5⟩:=zpt h1;obtain⟨k1,k2,k3⟩:=znb hc.len h0 hb hcl hn h1;obtain⟨kd0,hwb,hwc,-⟩:=h.ex;have dQ:S3.cur=S.cur.push v S.nc:=by
  obtain⟨Sx,hSx⟩:=zX (zkA S v x);have hx:Sx.2.cur=S.cur.push v S.nc:=by rw[<-hSx,o3,zm7]
  rw[hSx]at hb hcl;have:S3.cur=Sx.2.cur:=by unfold ST.cur;rw[hb,hcl]
  rw[this,hx]
 have hlv:znx (S.cur.push v S.nc)=v:=by simp[znx,FR.push]
 have hlc:zpc (S.cur.push v S.nc)=S.nc:=by
  have:(S.cur.vs++[v]).length-1=S.cur.cs.length:=by simp[hc.len]
  show(S.cur.cs++[S.nc]).getD ((S.cur.vs++[v]).length-1) 0=S.nc
  rw[this];simp
 rw[dQ,hlv,hlc]at c3 c4
 -- the cell of the local
 have hnc3:S.nc<S3.nc:=by
  rw[o3]at hn;have:((S.newCell (if v.k=1 then [x]else [])).setCur (S.cur.push v S.nc)).nc=S.nc+1:=(zkH _ _).2.1;omega
 have hcell:S3.cell S.nc=if v.k=1 then [y]else []:=by
  obtain⟨kd3,hw3,hk3⟩:=h3w.cur2;rcases o2 with e|e
  ·rw[if_pos e];have hlen:(S3.cell S.nc).length=1:=by
    have hm:S.cur.vs.length<S3.cur.vs.length:=by rw[dQ];simp[FR.push]
    have hm2:S.cur.vs.length<S3.cur.cs.length:=by rw[hw3.len];exact hm
    have hkk:S3.cur.vs[S.cur.vs.length].k=1:=by
     have:S3.cur.vs[S.cur.vs.length]?=some v:=by rw[dQ];simp[FR.push]
     rw[yC hm]at this;injection this with this;rw[this];exact e
    have:=zrt h3w hm hm2 hkk;have hcc:S3.cur.cs[S.cur.vs.length]=S.nc:=by
     have:S3.cur.cs[S.cur.vs.length]?=some S.nc:=by rw[dQ];show(S.cur.cs++[S.nc])[S.cur.vs.length]?=_;rw[<-hc.len];simp
     rw[yC hm2]at this;injection this
    rw[hcc]at this;exact this
   obtain⟨z,hz⟩:=List.length_eq_one_iff.1 hlen;have:=c3 e;rw[hz]at this ⊢;simp at this;rw[this]
  ·rw[if_neg zO];exact c4 e
 have hcurc:(zkv S3 v.s y).2.cur=S.cur:=by unfold ST.cur;rw[k1,k2]
 have hcel:∀j,(zkv S3 v.s y).2.cell j=S3.cell j:=fun j=>by
  rw[c5,(zkH _ _).1]
 have pR:(zkv S3 v.s y).2.nc=S3.nc:=by
  rw[c5,(zkH _ _).2.1]
 have sP:(zkv S3 v.s y).2.tin=S3.tin/\(zkv S3 v.s y).2.tout=S3.tout:=by
  rw[c5];exact⟨(zkH _ _).2.2.1,(zkH _ _).2.2.2⟩
 obtain⟨Q,hQ⟩:=zX ((zkv S3 v.s y).2);rw[hQ]at k1 k2 hcurc hcel pR sP ⊢;have vG:v.n=0:=by
  have:¬ ¬ ((v.k=1\/v.k=3)/\v.n=0):=fun hx=>by
   unfold zkA at h0;rw[if_pos hx]at h0
   cases h0
  exact(yF1.1 this).2
 have eo:zkA Q v y=(0,(Q.newCell (if v.k=1 then [y]else [])).setCur (S.cur.push v S3.nc)):=by
  unfold zkA;rw[if_neg (by simp[o2,vG]),hcurc,o1,pR];rfl
 rw[eo];refine⟨rfl,?_⟩
 -- the correspondence: the local's cell,all others as they are
 have hold:∀f:FR,f.WF kd0 S.nc->FrR (fun a b=>(a=b/\a<S3.nc/\a≠S.nc)\/(a=S.nc/\b=S3.nc)) f f:=fun f hf=>⟨rfl,rfl,rfl,⟨hf.len,hf.loc⟩,fun i a b ha hb=>by
  rw[ha]at hb;injection hb with hb;have:=hf.num a (yD1 ha);exact .inl ⟨hb,zO,zO⟩⟩
 have hwcur:S.cur.WF kd0 S.nc:=by
  rcases Nat.eq_zero_or_pos S.calls.length with h9|h9
  ·rw[zmg h9];exact hwb
  ·rw[zmA h9];exact hwc _ (yE _)
 have hpush:FrR (fun a b=>(a=b/\a<S3.nc/\a≠S.nc)\/(a=S.nc/\b=S3.nc)) (S.cur.push v S.nc) (S.cur.push v S3.nc):=(hold _ hwcur).snoc v (.inr ⟨rfl,rfl⟩) _ (by have:=hwcur.loc;omega);have hsame:S3=S3.setCur (S.cur.push v S.nc):=by rw[<-dQ,znt]
 have hR:EqR (fun a b=>(a=b/\a<S3.nc/\a≠S.nc)\/(a=S.nc/\b=S3.nc)) { S3 with base:=S.base,calls:=S.calls } (Q.newCell (if v.k=1 then [y]else [])):=by
  refine⟨fun a b b' h1 h2=>zO,fun a a' b h1 h2=>zO,fun a b h1=>?_,fun a b h1=>?_,?_,?_,fun i f g hf hg=>?_,?_,?_⟩
  ·show a<S3.nc/\b<Q.nc+1
   rw[pR];omega
  ·show(if b=Q.nc then _ else Q.cell b)=S3.cell a
   rw[pR];rcases h1 with⟨rfl,h8,h9⟩|⟨rfl,rfl⟩
   ·rw[if_neg zO,hcel]
   ·rw[if_pos rfl,hcell]
  ·show FrR _ S.base Q.base
   rw[k1];exact hold _ hwb
  ·show S.calls.length=Q.calls.length
   rw[k2]
  ·have hg':Q.calls[i]?=some g:=hg;have hf':S.calls[i]?=some f:=hf;rw[k2,hf']at hg';injection hg' with hg';subst hg';exact hold f (hwc f (yD1 hf'))
  ·exact sP.1
  ·exact sP.2
 have:=hR.setCur hpush;have e9:({ S3 with base:=S.base,calls:=S.calls }:ST).setCur (S.cur.push v S.nc)=S3:=by
  rw[o3]at hb hcl;unfold ST.setCur at hb hcl ⊢;by_cases h9:S.calls.length=0
  ·rw[if_pos (show(S.newCell _).calls.length=0 from h9)]at hb hcl;rw[if_pos h9];dsimp only at hb hcl ⊢;rw[<-hb,show S.calls=S3.calls from hcl.symm]
  ·rw[if_neg (show ¬ (S.newCell _).calls.length=0 from h9)]at hb hcl;rw[if_neg h9];dsimp only at hb hcl ⊢;rw[show S.base=S3.base from hb.symm];have:S.calls.set (S.calls.length-1) (S.cur.push v S.nc)=S3.calls:=hcl.symm;rw[this]
 rw[e9]at this;exact⟨_,this⟩
theorem zqy(r:RS)(f:RS->Out):(Out.ok r).bind f=f r:=rfl
theorem zKs(back:Bool)(t:T):fstT (!back) t=lstT back t:=by unfold fstT lstT;cases back<;>rfl
theorem zKj(back:Bool)(t:T):lstT (!back) t=fstT back t:=by unfold fstT lstT;cases back<;>rfl
theorem zoM(back:Bool)(b:T):blkL (!back) b=(blkL back b).reverse:=by unfold blkL;cases back<;>simp
theorem znU{prs:List PR}{F:Int}(hF:F<=1000000)(hp:PrB prs):∀(g:Nat) (back:Bool) (t:T),RvT prs t->LitB t->UnS F (zkn prs F g back) (zkn prs F g (!back)) t
 | 0,_,_,_,_=>fun r r' _ _ h=>by cases h
 | g+1,back,t,ht,hl=>fun r r' hr hn h=>by
  obtain⟨hk1,hk2⟩:=zlA hF hp (g+1) back t r r' hl hr h;refine⟨?_,hk1,hn.keep hk2⟩;have hb:∀back (b:T),(∀u∈b.ks,RvT prs u)->LitB b->∀r r',RInv r->NdS r.S->zkt (zkn prs F g back) (blkL back b) r=.ok r'->RevR F (zkt (zkn prs F g (!back)) (blkL (!back) b)) r r'/\RInv r'/\NdS r'.S:=fun back b hb hlb r r' hr hn h=>by
   rw[zoM];exact zm4 (blkL back b) (fun u hu=>znU hF hp g back u (hb u (zkD hu)) (hlb.block (zkD hu))) r r' hr hn h
  have sI:LitB (fstT back t):=by unfold fstT;split<;>exact hl.kidD _
  unfold RevR;rw[zkn]at h;simp only[zkn];rw[zKs,zKj]
  split at h
  ·rename_i dV;simp only[if_pos dV];obtain⟨hn1,hv1,h⟩:=zmY h;obtain⟨r1,h1,h2⟩:=zkr h;obtain⟨⟨b0,b1⟩,b2,b3⟩:=hb back _ (by split;exact(ht.two (.inl dV)).1;exact(ht.two (.inl dV)).2) (by split<;>exact hl.kidD _) _ r1 (hr.tick hF hn1) hn h1;(try simp only at b0 b1);obtain⟨hn2,hv2,hb2,rfl⟩:=zlN h2;refine⟨by simp only;omega,fun x hx ky=>?_⟩;simp only at hx ky ⊢;rw[zne (S:=r1.S) zO (by rw[hx.look]) hv2,hb2];obtain⟨y,c1,c2,c3⟩:=b1 { x with n:=x.n+1 } hx (by simp only;omega);(try simp only at c3);rw[c1];refine⟨{ y with n:=y.n+1 },?_,c2,by simp only;omega⟩
   show zko F (fstT back t) _ y=_
   rw[znE (S:=r.S) zO (by rw[c2.look]) hv1 rfl]
  rename_i dV
  split at h
  ·rename_i eT;simp only[if_neg dV,if_pos eT];obtain⟨ra,ha,h⟩:=zkr h;obtain⟨hn1,hv1,hb1,rfl⟩:=zlN ha;obtain⟨i1,i2,i0,k,k1,k2,i3⟩:=zrr hF (gr:=zkn prs F g (!back)) (fun u hu=>znU hF hp g back u ((ht.two (.inr eT)).1 u (zkD hu)) ((hl.kidD 1).block (zkD hu))) (fun u hu=>znU hF hp g back u ((ht.two (.inr eT)).2 u (zkD hu)) ((hl.kidD 2).block (zkD hu))) g _ r' (hr.tick hF hn1) hn h;(try simp only at i0);refine⟨zO,fun x hx ky=>?_⟩;obtain⟨y,y1,y2,y3⟩:=i3 (g-k) x hx (by simp only;omega);(try simp only at y1 y2);rw[show g-k+k=g by omega]at y3;rw[zoM,zoM,y3];unfold zwC;rw[zne (S:=r.S) zO (by rw[y1.look]) hv1,hb1,if_pos rfl];exact⟨_,rfl,y1,by simp only;omega⟩
  rename_i eT
  split at h
  ·rename_i bG;simp only[if_neg dV,if_neg eT,if_pos bG];obtain⟨m1,m2⟩:=ht.own.2 bG;have hlen:=(ht.loc bG).1;have hm1:menB (fstT back t) t.s=false:=by unfold fstT;rw[hlen];split;exact m2;exact m1
   have hm2:menB (lstT back t) t.s=false:=by unfold lstT;rw[hlen];split;exact m1;exact m2
   obtain⟨r1,h1,h⟩:=zkr h;obtain⟨rfl,hn1⟩:=zkB h1;obtain⟨hv1,h⟩:=zoS h;(try simp only at hv1 h);obtain⟨r2,h2,h⟩:=zkr h;obtain⟨e0,rfl⟩:=zk0 h2;(try simp only at e0 h);obtain⟨r3,h3,h⟩:=zkr h;have hi2:RInv { S:=(zkA r.S ⟨t.s,1,0⟩ (zkI r.S.look (fstT back t)).1).2,n:=r.n+1,ent:=r.ent }:=RInv.store hr hF hn1 (zoD hr.wf _ (zqM hl 1 zS) _ (LitB.expr hr.wf sI) (by have:=hr.fb.cur;have:=hr.n;omega)) (hr.fb.open_ _ _);have mE:NdS (zkA r.S ⟨t.s,1,0⟩ (zkI r.S.look (fstT back t)).1).2:=by
    rw[(zna e0).2.2];exact hn.open_ hr.wf _ _
   obtain⟨⟨b0,b1⟩,b2,b3⟩:=hb back (kid t 1) ((ht.loc bG).2) (hl.kidD 1) _ r3 hi2 mE h3;(try simp only at b0 b1);have hkp:=(zlB _ _ r3 (fun u hu r r' hr h=>zlA hF hp g back u r r' ((hl.kidD 1).block (zkD hu)) hr h) hi2 h3).2;obtain⟨r4,h4,h⟩:=zkr h;obtain⟨rfl,hn2⟩:=zkB h4;obtain⟨hv2,h⟩:=zoS h;(try simp only at hv2 h);obtain⟨e1,rfl⟩:=zk0 h;(try simp only at e1);obtain⟨g1,g2⟩:=zpU hr.wf b2.wf e0 hkp.base hkp.calls hkp.nc e1;obtain⟨g3,g4⟩:=zqi hr.wf e0;refine⟨by simp only;omega,fun x hx ky=>?_⟩;simp only at hx ky ⊢;obtain⟨ρ,hρ⟩:=hx;obtain⟨kd,hc⟩:=hr.wf.cur;obtain⟨o1,o2,o3⟩:=zna e0;obtain⟨l1,l2,l3,l4,l5⟩:=zpt e1;obtain⟨k1,k2,k3⟩:=znb hc.len e0 hkp.base hkp.calls hkp.nc e1;have hcur2:(zkA r.S ⟨t.s,1,0⟩ (zkI r.S.look (fstT back t)).1).2.cur=r.S.cur.push ⟨t.s,1,0⟩ r.S.nc:=by rw[o3,zm7]
   have dQ:r3.S.cur=r.S.cur.push ⟨t.s,1,0⟩ r.S.nc:=hkp.cur.trans hcur2;have hlx:zkI x.S.look (lstT back t)=zkI r3.S.look (lstT back t):=by
    rw[hρ.look];refine zoi (nms:=[t.s]) (fun s hs=>?_) _ fun nm hnm=>by obtain rfl:=yE1.1 hnm;exact hm2
    refine(zp0 hc.len ?_ dQ (fun c _=>?_) s (hs t.s zS)).symm
    ·unfold ST.cur;rw[k1,k2]
    ·rw[l5,(zkH _ _).1]
   obtain⟨ρ2,p1,p2⟩:=zrq hρ ⟨t.s,1,0⟩ (zkI r3.S.look (lstT back t)).1;have q1:(zkA x.S ⟨t.s,1,0⟩ (zkI r3.S.look (lstT back t)).1).1=0:=p1.trans g1;obtain⟨y,c1,c2,c3⟩:=b1 { x with n:=x.n+1,S:=(zkA x.S ⟨t.s,1,0⟩ (zkI r3.S.look (lstT back t)).1).2 } (g2.trans ⟨ρ2,p2 g1⟩) (by simp only;omega);(try simp only at c3);have yu:zkI y.S.look (fstT back t)=zkI r.S.look (fstT back t):=by
    rw[c2.look];refine zoi (nms:=[t.s]) (fun s hs=>?_) _ fun nm hnm=>by obtain rfl:=yE1.1 hnm;exact hm1
    refine zp0 hc.len rfl hcur2 (fun c hcc=>?_) s (hs t.s zS);rw[o3,(zkH _ _).1];have:=hc.num c hcc
    show(if c=r.S.nc then _ else _)=_
    rw[if_neg zO]
   obtain⟨ρ3,wD⟩:=c2;obtain⟨p3,p4⟩:=zqj wD t.s (zkI r.S.look (fstT back t)).1;refine⟨{ S:=(zkv y.S t.s (zkI r.S.look (fstT back t)).1).2,n:=y.n+1,ent:=y.ent },?_,g4.trans ⟨ρ3,p4 g3⟩,by simp only;omega⟩;rw[zlS zO];simp only[zqy];rw[zqs (x:={ x with n:=x.n+1 }) (S:=r3.S) hlx hv2,zlv (by exact q1)];simp only[zqy];rw[c1];simp only[zqy];rw[zlS zO];simp only[zqy];rw[zqs (x:={ y with n:=y.n+1 }) (S:=r.S) yu hv1,zlv (by exact p3.trans g3)]
  rename_i bG
  split at h
  ·rename_i dm;simp only[if_neg dV,if_neg eT,if_neg bG,if_pos dm];obtain⟨r1,h1,h⟩:=zkr h;obtain⟨rfl,hn1⟩:=zkB h1;(try simp only at h);obtain⟨r2,h2,h⟩:=zkr h;obtain⟨e0,rfl⟩:=zk0 h2;(try simp only at e0 h);obtain⟨r3,h3,h⟩:=zkr h;have hi2:RInv { S:=(zkA r.S ⟨t.s,3,0⟩ 0).2,n:=r.n+1,ent:=r.ent }:=RInv.store hr hF hn1 (zoD hr.wf _ (zqM hl 3 zS) _ zero_I64 (by have:=hr.fb.cur;have:=hr.n;omega)) (hr.fb.open_ _ _);have mE:NdS (zkA r.S ⟨t.s,3,0⟩ 0).2:=by
    rw[(zna e0).2.2];exact hn.open_ hr.wf _ _
   obtain⟨⟨b0,b1⟩,b2,b3⟩:=hb back (kid t 0) (ht.stk dm) (hl.kidD 0) _ r3 hi2 mE h3;(try simp only at b0 b1);have hkp:=(zlB _ _ r3 (fun u hu r r' hr h=>zlA hF hp g back u r r' ((hl.kidD 0).block (zkD hu)) hr h) hi2 h3).2;obtain⟨r4,h4,h⟩:=zkr h;obtain⟨rfl,hn2⟩:=zkB h4;(try simp only at h);obtain⟨e1,rfl⟩:=zk0 h;(try simp only at e1);obtain⟨g1,g2⟩:=zpU hr.wf b2.wf e0 hkp.base hkp.calls hkp.nc e1;obtain⟨g3,g4⟩:=zqi hr.wf e0;refine⟨by simp only;omega,fun x hx ky=>?_⟩;simp only at hx ky ⊢;obtain⟨ρ,hρ⟩:=hx;obtain⟨ρ2,p1,p2⟩:=zrq hρ ⟨t.s,3,0⟩ 0;have q1:(zkA x.S ⟨t.s,3,0⟩ 0).1=0:=p1.trans g1;obtain⟨y,c1,c2,c3⟩:=b1 { x with n:=x.n+1,S:=(zkA x.S ⟨t.s,3,0⟩ 0).2 } (g2.trans ⟨ρ2,p2 g1⟩) (by simp only;omega);(try simp only at c3);obtain⟨ρ3,wD⟩:=c2;obtain⟨p3,p4⟩:=zqj wD t.s 0
   refine⟨{ S:=(zkv y.S t.s 0).2,n:=y.n+1,ent:=y.ent },?_,g4.trans ⟨ρ3,p4 g3⟩,by simp only;omega⟩;rw[zlS zO]
   show(zkh { x with n:=x.n+1 } _).bind _=_
   rw[zlv (by exact q1)]
   show(zkt _ _ { x with n:=x.n+1,S:=_ }).bind _=_
   rw[c1]
   show(zkw F y).bind _=_
   rw[zlS zO]
   show zkh { y with n:=y.n+1 } _=_
   rw[zlv (by exact p3.trans g3)]
  rename_i dm
  split at h
  ·rename_i h50;simp only[if_neg dV,if_neg eT,if_neg bG,if_neg dm,if_pos h50]
   split at h
   ·cases h
   ·rename_i i hi;(try rw[hi]);(try dsimp only);obtain⟨q1,q2,q3⟩:=hp.getD i;have hdup:dupB t.ks=false:=by
     have:=ht.own.1;obtain⟨k,n,s,ks⟩:=t;rw[zqw]at this;simp only[T.k_nd]at h50 dV eT;rw[if_neg zO,if_neg zO,if_neg zO,if_neg zO,if_neg zO,if_pos h50]at this
     cases hd:dupB ks with
     | true=>rw[hd]at this;cases this
     | false=>exact hd
    obtain⟨q,hq⟩:=zX (prs.getD i ⟨⟨#[]⟩,[],nil0⟩);have hRq:=ht.cal h50 i hi;rw[hq]at h q1 q2 q3 hRq ⊢;obtain⟨r1,h1,h⟩:=zkr h;obtain⟨rfl,hn1⟩:=zkB h1;obtain⟨r2,h2,h⟩:=zkr h;obtain⟨e0,rfl⟩:=zk0 h2;(try simp only at e0 h);obtain⟨r3,h3,h⟩:=zkr h;obtain⟨f,f1,f2,f3,f4⟩:=zrO e0;obtain⟨kd,hc⟩:=hr.wf.cur;have mE:NdS (zk7 r.S q.ps (t.ks.map (·.s))).2:=by
     rw[f4];refine⟨hn.1,fun g hg=>?_⟩;rcases yW.1 hg with hg|hg
     ·exact hn.2 g hg
     ·obtain rfl:=yE1.1 hg;rcases zsN hn.cur hc.len q.ps t.ks ⟨[],[],0⟩ g hdup zS zS f2 with h8|h8<;>exact h8.1
    have hloc:f.loc=0:=by
     rcases zsN hn.cur hc.len q.ps t.ks ⟨[],[],0⟩ f hdup zS zS f2 with h8|h8<;>exact h8.2
    have i1:=RInv.store hr hF hn1 (zrP hr.wf _ (t.ks.map (·.s)) q2 zO) (hr.fb.enter _ _ q3);have hbd:=fun hI hN=>hb (back != decide (t.k=51)) q.b hRq q1 _ r3 hI hN h3;obtain⟨⟨b0,b1⟩,b2,b3⟩:=hbd ⟨i1.wf,i1.fb,i1.n⟩ mE;have hkp:=fun hI=>(zlB _ _ r3 (fun u hu r r' hr h=>zlA hF hp g _ u r r' (q1.block (zkD hu)) hr h) hI h3).2;have hkp:=hkp ⟨i1.wf,i1.fb,i1.n⟩;(try simp only at b0 b1);obtain⟨r4,h4,h⟩:=zkr h;obtain⟨rfl,hn2⟩:=zkB h4;obtain⟨e1,rfl⟩:=zk0 h;(try simp only at e1);obtain⟨v1,v2⟩:=zrs e1;have c3:r3.S.calls=r.S.calls++[f]:=by rw[hkp.calls];simp only;rw[f4]
    have c3b:r3.S.base=r.S.base:=by rw[hkp.base];simp only;rw[f4]
    refine⟨by simp only;omega,fun x hx ky=>?_⟩;simp only at hx ky ⊢
    -- Leave,then Enter
    have qL:zk7 (zld r3.S).2 q.ps (t.ks.map (·.s))=(0,r3.S):=by
     rw[v2,c3];have ht1:(r.S.calls++[f]).take ((r.S.calls++[f]).length-1)=r.S.calls:=zS
     rw[ht1];have bY:({ r3.S with calls:=r.S.calls }:ST).cur=r.S.cur:=by unfold ST.cur;dsimp only;rw[c3b]
     unfold zk7;rw[if_neg (by simpa using f1),bY,f2];unfold entR;dsimp only;rw[if_neg zO,<-c3]
    have hS1:zld (zk7 r.S q.ps (t.ks.map (·.s))).2=(0,r.S):=by
     rw[f4];have bY:({ r.S with calls:=r.S.calls++[f] }:ST).cur=f:=by unfold ST.cur;simp
     unfold zld;rw[bY,hloc,if_neg zS];simp
    obtain⟨ρ,hρ⟩:=hx;obtain⟨p1,p2⟩:=zuC hρ q.ps (t.ks.map (·.s));rw[qL]at p1 p2;have hbk:((!back) != decide (t.k=51)) = !(back != decide (t.k=51)):=by cases back<;>cases decide (t.k=51)<;>rfl
    rw[hbk];obtain⟨y,c1,c2,c4⟩:=b1 { S:=(zk7 x.S q.ps (t.ks.map (·.s))).2,n:=x.n+1,ent:=x.ent.set i (x.ent.getD i 0+1) } ⟨ρ,p2 rfl⟩ (by simp only;omega);(try simp only at c4);obtain⟨ρ3,wD⟩:=c2;obtain⟨p3,p4⟩:=zun wD;rw[hS1]at p3 p4;refine⟨{ S:=(zld y.S).2,n:=y.n+1,ent:=y.ent },?_,⟨ρ3,p4 rfl⟩,by simp only;omega⟩;rw[zlS zO]
    show(zkh { x with n:=x.n+1 } _).bind _=_
    rw[zlv (by exact p1)]
    show(zkt _ _ { S:=(zk7 x.S q.ps (t.ks.map (·.s))).2,n:=x.n+1,ent:=x.ent.set i (x.ent.getD i 0+1) }).bind _=_
    rw[c1]
    show(zkw F y).bind _=_
    rw[zlS zO]
    show zkh { y with n:=y.n+1 } _=_
    rw[zlv (by exact p3)]
  ·rename_i h50;simp only[if_neg dV,if_neg eT,if_neg bG,if_neg dm,if_neg h50];obtain⟨r1,h1,h⟩:=zkr h;obtain⟨rfl,hn1⟩:=zkB h1;obtain⟨e0,rfl⟩:=zk0 h;(try simp only at e0);refine⟨by simp only;omega,fun x hx ky=>?_⟩;simp only at hx ky ⊢;rw[zlS zO];obtain⟨ρ,hρ⟩:=hx
   cases back
   ·simp only[Bool.false_eq_true,if_false]at e0 hρ;obtain⟨p1,p2⟩:=zu4 hρ t;have hu:=ztQ hr.wf hn.cur ht.own.1 e0;rw[hu]at p1 p2;refine⟨{ S:=(zlD x.S t).2,n:=x.n+1,ent:=x.ent },?_,⟨ρ,p2 rfl⟩,by simp only;omega⟩
    show zkh { x with n:=x.n+1 } (zlD x.S t)=_
    rw[zlv p1]
   ·simp only[if_true]at e0 hρ;obtain⟨p1,p2⟩:=zwA hρ t;have hu:=zxF hr.wf hn.cur ht.own.1 e0;rw[hu]at p1 p2;refine⟨{ S:=(doE x.S t).2,n:=x.n+1,ent:=x.ent },?_,⟨ρ,p2 rfl⟩,by simp only;omega⟩
    show zkh { x with n:=x.n+1 } (doE x.S t)=_
    rw[zlv p1]
theorem zxO{prs:List PR}{F:Int}(hF:F<=1000000)(hp:PrB prs)(g:Nat)(back:Bool)(b:T)(hb:∀u∈b.ks,RvT prs u)(hl:LitB b)(r r':RS)(hr:RInv r)(hn:NdS r.S)(h:runO prs F g back b r=.ok r'):RevR F (runO prs F g (!back) b) r r'/\RInv r'/\NdS r'.S:=by
 unfold runO at h ⊢;have:=zm4 (gr:=zkn prs F g (!back)) (blkL back b) (fun u hu=>znU hF hp g back u (hb u (zkD hu)) (hl.block (zkD hu))) r r' hr hn h;rw[<-zoM]at this;exact this
theorem ztS{prs:List PR}{k:Int}{s:ByteArray}{vs:List VD}(hi:∀i,zlV k s i vs=vs):∀ {ks:List T} {i:Nat},cntK prs k s i ks vs=0->∀t∈ks,cntV prs t vs=0
 | [],_,_,t,ht=>by cases ht
 | u::us,i,h,t,ht=>by
  rw[cntK]at h;obtain⟨h1,h2⟩:=yG1.1 h;rcases List.mem_cons.1 ht with rfl|ht
  ·rw[hi]at h1;exact h1
  ·exact ztS hi h2 t ht
theorem zqc{s s':ByteArray}(h:s.toList=s'.toList):∀vs:List VD,zlk vs s=zlk vs s'
 | []=>rfl
 | v::vs=>by
  simp only[zlk];rw[zqc h vs,h]
theorem zoU{vs:List VD}{s:ByteArray}{k:Int}(h:zlk vs s=none):useE vs s k≠0:=by
 unfold useE;rw[h]
 show(6:Int)≠0
 decide
theorem zs9:∀ {l:List Nat},l.sum=0->∀x∈l,x=0
 | a::l,h,x,hx=>by
  rw[List.sum_cons]at h;obtain⟨h1,h2⟩:=yG1.1 h;rcases List.mem_cons.1 hx with rfl|hx
  ·exact h1
  ·exact zs9 h2 x hx
theorem zzr{prs:List PR}{vs:List VD}{nm:ByteArray}(hn:zlk vs nm=none):∀t,isE t=true->cntV prs t vs=0->menB t nm=false:=by
 intro t
 induction t using T.ind with
 | _ k n s ks ih =>
  intro he h;have hk:=zry _ he;simp only[T.k_nd]at hk;rw[cntV]at h;have h50:¬ (k=50\/k=51):=zO
  rw[if_neg h50]at h;obtain⟨h1,h2⟩:=yG1.1 h;have hkids:=ztS (fun i=>by unfold zlV;rw[if_neg zO,if_neg zO]) h2;rw[menB,po,List.any_cons,Bool.or_eq_false_iff];refine⟨?_,?_⟩
  ·unfold zmw;simp only[T.k_nd,T.s_nd,Bool.and_eq_false_iff];by_cases hs:s.toList=nm.toList
   ·left
    have hf:zlk vs s=none:=(zqc hs vs).trans hn;have h0:=zo8 h1;unfold zlz at h0;by_cases e2:k=2
    ·rw[if_pos e2]at h0;exact absurd h0 (zoU hf)
    by_cases e3:k=3
    ·rw[if_neg e2,if_pos e3]at h0;exact absurd h0 (zoU hf)
    by_cases e4:k=4\/k=5
    ·rw[if_neg e2,if_neg e3,if_pos zO]at h0;exact absurd h0 (zoU hf)
    simp only[Bool.or_eq_false_iff,beq_eq_false_iff_ne];omega
   ·right
    simpa using hs
  ·rw[List.any_eq_false];intro u hu;obtain⟨t,ht,hx⟩:=zlH.1 hu;have:=ih t ht (zoF he t ht) (hkids t ht);rw[menB,List.any_eq_false]at this;exact this u hx
def LocN(u:T):Prop:=u.k=54->menB (kid u 0) u.s=false/\menB (kid u 2) u.s=false
theorem zqD{t:T}(h:isE t=true):∀u∈po t,LocN u:=fun u hu hk=>by
 have:=zry u (zv1 t h u hu);omega
theorem zzs:∀(t:T) (prs:List PR) (vs:List VD),(isS t=true\/isB t=true\/isE t=true)->cntV prs t vs=0->∀u∈po t,LocN u:=by
 intro t
 induction t using T.ind with
 | _ k n s ks ih =>
  intro prs vs ht h u hu;rcases ht with hs|hb|he
  ·rw[cntV]at h;obtain⟨h1,h2⟩:=yG1.1 h;simp only[po,List.mem_cons]at hu;rcases hu with rfl|hu
   ·intro bG;simp only[T.k_nd]at bG;rcases zl8 hs with⟨h9,_⟩|⟨h9,_⟩|⟨_,_,a,b,c,rfl,ha,hb,hc⟩|⟨h9,_⟩
    ·omega
    ·omega
    ·have hf:zlk vs s=none:=by
      have h0:=zo8 h1;unfold zlz at h0;rw[if_neg zO,if_neg zO,if_neg zO,if_pos zO]at h0;unfold zmN at h0
      cases hv:zlk vs s with
      | none=>rfl
      | some v=>rw[hv]at h0;simp at h0
     rw[if_neg zO]at h2;simp only[cntK]at h2;have e0:zlV k s 0 vs=vs:=by unfold zlV;rw[if_neg zO,if_neg zO]
     have e2:zlV k s (0+1+1) vs=vs:=by unfold zlV;rw[if_neg zO,if_neg zO]
     rw[e0,e2]at h2;exact⟨zzr (prs:=prs) hf a ha zO,zzr (prs:=prs) hf c hc zO⟩
    ·omega
   ·obtain⟨t,ht,hx⟩:=zlH.1 hu;by_cases hc:k=50\/k=51
    ·have h57:t.k≠57:=by
      rcases zl8 hs with⟨_,h1⟩|⟨h1,_⟩|⟨h1,_⟩|⟨h1,_⟩
      ·exact h1 t ht
      all_goals omega
     rcases(zrw hs).2 t ht with h1|h1
     ·exact zqD h1 u hx
     ·exact absurd (zv2 h1) h57
    ·rw[if_neg hc]at h2;obtain⟨vs',hv⟩:=zm3 h2 t ht;rcases(zrw hs).2 t ht with h1|h1
     ·exact zqD h1 u hx
     ·exact ih t ht prs vs' (.inr (.inl h1)) hv u hx
  ·obtain⟨h57,hks⟩:=znS _ _ _ _ hb;rw[cntV,if_neg zO]at h;simp only[po,List.mem_cons]at hu;rcases hu with rfl|hu
   ·intro bG;simp only[T.k_nd]at bG;omega
   ·obtain⟨t,ht,hx⟩:=zlH.1 hu;obtain⟨vs',hv⟩:=zm3 (yG1.1 h).2 t ht;exact ih t ht prs vs' (.inl (hks t ht)) hv u hx
  ·exact zqD he u hu
theorem zri{l:List T}(h:rejN l=0):∀x∈l,rejE x=0:=by
 intro x hx;unfold rejN at h;have:=List.filter_eq_nil_iff.1 (List.length_eq_zero_iff.1 h) x hx;simpa using this
theorem zvE{p:PG}(h:okB p=true):zkR p=true/\chkN p=0/\rjT p=0:=by
 unfold okB at h;simp only[Bool.and_eq_true,yK1]at h;exact⟨h.1.1,h.1.2,h.2⟩
theorem zy9{p:PG}(h:okB p=true):∀u∈p.m.ks,RvT p.prs u:=by
 obtain⟨hv,hc,hr⟩:=zvE h;obtain⟨hb,hbs⟩:=zoR hv;unfold rjT at hr;have hm:∀u∈po p.m,OkN u:=fun u hu=>⟨zri zO u hu,zzs p.m p.prs p.vs (.inr (.inl hb)) (by unfold chkN at hc;omega) u hu⟩
 have hq:∀q∈p.prs,∀u∈po q.b,OkN u:=fun q hq u hu=>by
  refine⟨?_,?_⟩
  ·have h0:rjP p.prs=0:=zO
   unfold rjP at h0;have:=zs9 h0 (rejN (po q.b)) (List.mem_map.2 ⟨q,hq,rfl⟩);exact zri this u hu
  ·obtain⟨i,hi,rfl⟩:=yN1 hq;have:=zo4 zl (show prcN p.prs p.prs.length=0 by unfold chkN at hc;omega) i hi hi;unfold prcE at this;exact zzs p.prs[i].b p.prs p.prs[i].ps (.inr (.inl (hbs _ hq))) zO u hu
 exact fun u hu=>⟨zqY hv hc u hu,fun w hw=>hm w (zxY hu w hw),hq⟩
section
variable {vs:List VD} {s:SS} {r':RS} {e:List Nat}
theorem zrc(hv:vs.length<=1000)(h0:fitB vs s=true)(hf:∀v∈vs,FldV v)(hI:s.I):RInv ⟨newS vs s,0,e⟩/\NdS (newS vs s):=by
 have hw:=zsy h0 hf hI.1 hI.2.1 hI.2.2 vs.length zl;rw[List.take_of_length_le zl]at hw;refine⟨⟨hw,⟨by show vs.length<=1000+0;omega,fun f hf=>by cases hf⟩,yK _⟩,⟨List.nodup_range,fun f hf=>by cases hf⟩⟩
end
theorem zz6{p:PG}{s:SS}{F:Int}{g:Nat}{back:Bool}(hF:F<=1000000)(gX:0<=F)(hg:F.toNat*2000+2000<=g)(hok:okB p=true)(hl:LitB p.m)(hp:PrB p.prs)(hf:∀u∈p.vs,FldV u)(hI:s.I)(h:(resO p s F g back).2.2.1=0) :
  (resO p (resO p s F g back).1 F g (!back)).1=s/\(resO p (resO p s F g back).1 F g (!back)).2.1=(resO p s F g back).2.1/\(resO p (resO p s F g back).1 F g (!back)).2.2.1=0:=by
 have hfl:=(ztD hg h).1;obtain⟨h1,h2,h3,r',hr',he⟩:=zsq hg h;obtain⟨hi,hn⟩:=zrc (e:=List.replicate p.prs.length 0) (by have:=(zli h1).1;omega) h3 hf hI;obtain⟨⟨a1,a2⟩,b1,b2⟩:=zxO hF hp g back p.m (zy9 hok) hl _ r' hi hn hr';have hk:=(zrd hF hp g back p.m _ r' hl hi hr').2;rw[he]at hfl ⊢;simp only at hfl ⊢;obtain⟨x',c1,c2,c3⟩:=a2 ⟨newS p.vs r'.S.state,0,List.replicate p.prs.length 0⟩ (zKI hk) (by simp only;omega);simp only at c2 c3;rw[znL h1 h2 (zws h3 b1.wf hk),c1];simp only[outR];exact⟨by rw[c2.state,zui h3],zO,trivial⟩
end
section
open Go.RowKit
theorem ztA{all:Bool}{t:T}(h:isE t=true):invK false false t=t:=by simp[invK,zLz h]
theorem ztB{t:T}(h:isB t=true):invK false false t=inv false t:=by simp[invK,zv2 h]
theorem zyb{ks:List T}(h:∀t∈ks,t.k≠57):ks.map (invK false false)=ks:=by
 conv=>rhs;rw[<-List.map_id ks]
 refine yX1 fun t ht=>?_;have:(t.k==57)=false:=by simpa using h t ht
 simp[invK,this]
theorem zuq{k n:Int}{s:ByteArray}{ks:List T}(hk:k≠52/\k≠53/\k≠54/\k≠55/\k≠57)(h:∀t∈ks,t.k≠57):inv false (.nd k n s ks)=.nd (exch k) n s ks:=by
 rw[inv,if_neg zO,if_neg zO,zlQ,zyb h]
 split<;>rfl
theorem zLA{k n:Int}{s:ByteArray}{a b c d:T}(hk:k=52\/k=53)(ha:isE a=true)(hb:isB b=true)(hc:isB c=true)(hd:isE d=true):inv false (.nd k n s [a,b,c,d])=.nd k n s [d,inv false b,inv false c,a]:=by
 rw[inv,if_neg zO,if_pos zO,zlQ];simp[ztA (all:=false) ha,ztB hb,ztB hc,ztA (all:=false) hd,znI]
theorem zv3{n:Int}{s:ByteArray}{a b c:T}(ha:isE a=true)(hb:isB b=true)(hc:isE c=true):inv false (.nd 54 n s [a,b,c])=.nd 54 n s [c,inv false b,a]:=by
 rw[inv,if_neg zO,if_pos zO,zlQ];simp[ztA (all:=false) ha,ztB hb,ztA (all:=false) hc,znI]
theorem zur{n:Int}{s:ByteArray}{b:T}(hb:isB b=true):inv false (.nd 55 n s [b])=.nd 55 n s [inv false b]:=by
 rw[inv,if_neg zO,if_neg zO,if_neg zO,zlQ];simp[ztB hb,exch]
theorem zrA(n:Int)(s:ByteArray)(ks:List T):inv false (.nd 57 n s ks)=.nd 57 n s (ks.map (inv false)).reverse:=by
 rw[inv,if_pos rfl,zlQ];congr 2
end
section
open Go Go.RowKit
theorem zpx(f:T->RS->Out)(σ:T->T):∀(l:List T) (r:RS),zkt f (l.map σ) r=zkt (fun t=>f (σ t)) l r
 | [],_=>rfl
 | t::l,r=>by
  rw[List.map_cons,zkt,zkt];congr 1;funext r1;exact zpx f σ l r1
theorem znC{f f':T->RS->Out}:∀(l:List T) (r:RS),(∀t∈l,∀r,f t r=f' t r)->zkt f l r=zkt f' l r
 | [],_,_=>rfl
 | t::l,r,h=>by
  rw[zkt,zkt,h t (yY ..)];congr 1;funext r1;exact znC l r1 fun u hu=>h u (yA1 _ hu)
theorem zo9{F:Int}{f f':T->RS->Out}{en te:T}{l1 l2 m1 m2:List T}(h1:∀r,zkt f l1 r=zkt f' m1 r)(h2:∀r,zkt f l2 r=zkt f' m2 r):∀(m:Nat) (r:RS),zle F f en te l1 l2 m r=zle F f' en te m1 m2 m r
 | 0,_=>rfl
 | m+1,r=>by
  rw[zle,zle,h1];congr 1;funext r1;congr 1;funext b r2
  split
  ·rfl
  ·rw[h2];congr 1;funext r3;congr 1;funext r4;exact zo9 h1 h2 m r4
section
variable {prs:List PR} {F:Int} {g:Nat} {back:Bool} {t:T} {r:RS}
theorem ztK(h2:t.k≠52)(h3:t.k≠53)(h4:t.k≠54)(h5:t.k≠55)(h0:¬ (t.k=50\/t.k=51)):zkn prs F (g+1) back t r=(zkw F r).bind fun r=>zkh r (if back=true then zlD r.S t else doE r.S t):=by
 rw[zkn,if_neg h2,if_neg h3,if_neg h4,if_neg h5,if_neg h0]
theorem zwl(h2:t.k=52):zkn prs F (g+1) back t r=zk6 F (fstT back t) r fun yes r=>(zkt (zkn prs F g back) (blkL back (if yes=true then kid t 1 else kid t 2)) r).bind (zko F (lstT back t) yes):=by
 rw[zkn,if_pos h2]
theorem zrM(h3:t.k=53):zkn prs F (g+1) back t r=(zko F (fstT back t) true r).bind (zle F (zkn prs F g back) (fstT back t) (lstT back t) (blkL back (kid t 1)) (blkL back (kid t 2)) g):=by
 rw[zkn,if_neg zO,if_pos h3]
theorem ztI(h4:t.k=54):zkn prs F (g+1) back t r=(zkw F r).bind fun r=>valO (fstT back t) r fun x r=>(zkh r (zkA r.S ⟨t.s,1,0⟩ x)).bind fun r=>(zkt (zkn prs F g back) (blkL back (kid t 1)) r).bind fun r=>(zkw F r).bind fun r=>valO (lstT back t) r fun x r=>zkh r (zkv r.S t.s x):=by
 rw[zkn,if_neg zO,if_neg zO,if_pos h4]
theorem ztH(h5:t.k=55):zkn prs F (g+1) back t r=(zkw F r).bind fun r=>(zkh r (zkA r.S ⟨t.s,3,0⟩ 0)).bind fun r=>(zkt (zkn prs F g back) (blkL back (kid t 0)) r).bind fun r=>(zkw F r).bind fun r=>zkh r (zkv r.S t.s 0):=by
 rw[zkn,if_neg zO,if_neg zO,if_neg zO,if_pos h5]
theorem zrN{i:Nat}{q:PR}(h0:t.k=50\/t.k=51)(hi:prcI prs t.s=some i)(hq:prs.getD i ⟨⟨#[]⟩,[],nil0⟩=q){bk:Bool}(hb:(back != decide (t.k=51))=bk):zkn prs F (g+1) back t r=(zkw F r).bind fun r=>(zkh r (zk7 r.S q.ps (t.ks.map (·.s)))).bind fun r=>(zkt (zkn prs F g bk) (blkL bk q.b) { r with ent:=r.ent.set i (r.ent.getD i 0+1) }).bind fun r=>(zkw F r).bind fun r=>zkh r (zld r.S):=by
 subst hq hb;rw[zkn,if_neg zO,if_neg zO,if_neg zO,if_neg zO,if_pos h0,hi]
theorem zrL(h0:t.k=50\/t.k=51)(hi:prcI prs t.s=none):zkn prs F (g+1) back t r=.err 0:=by
 rw[zkn,if_neg zO,if_neg zO,if_neg zO,if_neg zO,if_pos h0,hi]
end
theorem ztJ{prs:List PR}{F:Int}:∀(g:Nat) (back:Bool) (u:T),isS u=true->∀r,zkn prs F g back (inv false u) r=zkn prs F g (!back) u r
 | 0,_,_,_,_=>rfl
 | g+1,back,u,hu,r=>by
  have hb:∀(b:T),isB b=true->∀r,zkt (zkn prs F g back) (blkL back (inv false b)) r=zkt (zkn prs F g (!back)) (blkL (!back) b) r:=fun b hb r=>by
   obtain⟨k,n,s,ks⟩:=b;obtain⟨rfl,-,h1⟩:=(zqI _ _ _ _).1 hb;have e:blkL back (inv false (.nd 57 n s ks))=(blkL (!back) (.nd 57 n s ks)).map (inv false):=by
    rw[zrA];unfold blkL
    cases back<;>simp
   rw[e,zpx];exact znC _ _ fun t ht r=>ztJ g back t (h1 t (zkD ht)) r
  obtain⟨k,n,s,ks⟩:=u;rcases zl8 hu with⟨hk,hks⟩|⟨hk,_,a,b,c,d,rfl,ha,hb1,hb2,hd⟩|⟨rfl,_,a,b,c,rfl,ha,hb1,hc⟩|⟨rfl,_,b,rfl,hb1⟩
  ·rw[zuq hk hks];by_cases h50:k=50\/k=51
   ·have he:exch k=50\/exch k=51:=by rcases h50 with rfl|rfl<;>decide
    have hd:(back != decide (exch k=51))=((!back) != decide (k=51)):=by rcases h50 with rfl|rfl<;>cases back<;>decide
    cases hi:prcI prs s with
    | none=>rw[zrL (t:=.nd (exch k) n s ks) he hi,zrL (t:=.nd k n s ks) h50 hi]
    | some i=>rw[zrN (t:=.nd (exch k) n s ks) he hi rfl hd,zrN (t:=.nd k n s ks) h50 hi rfl rfl];rfl
   ·obtain⟨h2,h3,h4,h5,-⟩:=hk;obtain⟨h6,h7⟩:=not_or.1 h50;have hx:exch k=zkL k:=by
     unfold exch zkL
     (repeat' split)<;>first|rfl|omega
    have hv:zkL k≠52/\zkL k≠53/\zkL k≠54/\zkL k≠55/\¬ (zkL k=50\/zkL k=51):=by
     unfold zkL
     (repeat' split)<;>omega
    rw[hx,ztK (t:=.nd (zkL k) n s ks) hv.1 hv.2.1 hv.2.2.1 hv.2.2.2.1 hv.2.2.2.2,ztK (t:=.nd k n s ks) h2 h3 h4 h5 h50];congr 1;funext r1
    cases back
    ·simp only[Bool.not_false,if_true,Bool.false_eq_true,if_false,zlD]
    ·simp only[Bool.not_true,if_true,Bool.false_eq_true,if_false,zlD,ztz]
  ·rw[zLA hk ha hb1 hb2 hd];have e1:fstT back (.nd k n s [d,inv false b,inv false c,a])=fstT (!back) (.nd k n s [a,b,c,d]):=by cases back<;>rfl
   have e2:lstT back (.nd k n s [d,inv false b,inv false c,a])=lstT (!back) (.nd k n s [a,b,c,d]):=by cases back<;>rfl
   rcases hk with rfl|rfl
   ·rw[zwl (t:=.nd 52 n s [d,inv false b,inv false c,a]) rfl,zwl (t:=.nd 52 n s [a,b,c,d]) rfl,e1,e2];congr 1;funext yes r1;congr 1
    cases yes
    ·exact hb c hb2 r1
    ·exact hb b hb1 r1
   ·rw[zrM (t:=.nd 53 n s [d,inv false b,inv false c,a]) rfl,zrM (t:=.nd 53 n s [a,b,c,d]) rfl,e1,e2];congr 1;funext r1;exact zo9 (hb b hb1) (hb c hb2) g r1
  ·rw[zv3 ha hb1 hc];have e1:fstT back (.nd 54 n s [c,inv false b,a])=fstT (!back) (.nd 54 n s [a,b,c]):=by cases back<;>rfl
   have e2:lstT back (.nd 54 n s [c,inv false b,a])=lstT (!back) (.nd 54 n s [a,b,c]):=by cases back<;>rfl
   have k1:kid (.nd 54 n s [c,inv false b,a]) 1=inv false b:=rfl;have j1:kid (.nd 54 n s [a,b,c]) 1=b:=rfl;rw[ztI (t:=.nd 54 n s [c,inv false b,a]) rfl,ztI (t:=.nd 54 n s [a,b,c]) rfl,e1,e2,k1,j1];simp only[hb b hb1];rfl
  ·rw[zur hb1];have k1:kid (.nd 55 n s [inv false b]) 0=inv false b:=rfl;have j1:kid (.nd 55 n s [b]) 0=b:=rfl;rw[ztH (t:=.nd 55 n s [inv false b]) rfl,ztH (t:=.nd 55 n s [b]) rfl,k1,j1];simp only[hb b hb1];rfl
attribute [local go_sem] Oper.semAt_some
theorem zl5{e:EX}(h:zlc e=true):0<=e.fu/\e.fu<=1000000/\okB e.gv=true/\okB (zkO e.gv)=true:=by
 simp only[zlc,Bool.and_eq_true,yK1]at h;exact⟨h.1.1.1.2.1,h.1.1.1.2.2,h.1.1.2,h.1.2⟩
end
section
open Go Go.RowKit
theorem zKF{s t:SS}:eqS s t=true↔s=t:=by
 obtain⟨a,b,c⟩:=s;obtain⟨a',b',c'⟩:=t;simp[eqS,and_assoc]
theorem zLs(p:PG):(zkO p).prs=p.prs:=by
 show p.prs.map (mapR id)=p.prs
 conv=>rhs;rw[<-List.map_id p.prs]
 exact yX1 fun r _=>rfl
theorem zxP{prs:List PR}{F:Int}{g:Nat}{m:T}{r:RS}(hB:isB m=true):runO prs F g false (inv false m) r=runO prs F g true m r:=by
 obtain⟨k,n,s,ks⟩:=m;obtain⟨rfl,-,h1⟩:=(zqI _ _ _ _).1 hB;have e:blkL false (inv false (.nd 57 n s ks))=(blkL true (.nd 57 n s ks)).map (inv false):=by
  rw[zrA];unfold blkL;simp
 unfold runO;rw[e,zpx];exact znC _ _ fun t ht r=>ztJ g false t (h1 t (zkD ht)) r
theorem zz3{p:PG}{s:SS}{F:Int}(hF:F<=1000000)(gX:0<=F)(hok:okB p=true)(hoi:okB (zkO p)=true)(hl:LitB p.m)(hp:PrB p.prs)(hf:∀u∈p.vs,FldV u)(hI:s.I)(hr:relG p F s=true):rigG p (zkO p) F s=true:=by
 have h0:gerE p F s=0:=by simpa[relG]using hr
 obtain⟨h1,h2,h3⟩:=zz6 (back:=false) hF gX zl hok hl hp hf hI h0;obtain⟨hv,hc,hfi,r',hr',he⟩:=zsq (back:=false) zl h0;obtain⟨hi,hn⟩:=zrc (e:=List.replicate p.prs.length 0) (by have:=(zli hv).1;omega) hfi hf hI;obtain⟨aU,hk⟩:=zrd hF hp _ false p.m _ r' hl hi hr';have hg:gstE p F s=r'.S.state:=by unfold gstE;rw[he]
 have hfe:fitB p.vs (gstE p F s)=true:=by rw[hg];exact zws hfi aU.wf hk
 have hB:isB p.m=true:=by
  simp only[zkR,zla,Bool.and_eq_true]at hv;exact hv.2.2
 obtain⟨oU,hci,-⟩:=zmX hoi;have e:resO (zkO p) (gstE p F s) F (F.toNat*2000+2000) false=resO p (gstE p F s) F (F.toNat*2000+2000) true:=by
  rw[znL oU hci hfe,znL hv hc hfe,zLs]
  show outR _ (runO p.prs F _ false (inv false p.m) _)=_
  rw[zxP hB];rfl
 unfold rigG gerE;rw[Bool.and_eq_true]
 constructor
 ·rw[e];exact beq_iff_eq.2 h3
 ·rw[zKF];unfold gstE at e ⊢;rw[e];exact h1
attribute [local go_sem] Oper.semAt_some
theorem zr3{W:World}{e:EX}{ev:Value}(he:EV W Any e ev)(hv:zlc e=true):Calls prog 16 #[ev] W fun en w'=>∃v',en=.returned (.tuple #[v',zi 0])/\PV w' Any (zkO e.gv) v'/\zw W w':=by
 have lu:=zh (fun w' (hb:zw W w')=>he.later hb);have bA:=zh (zmX (zl5 hv).2.2.1).1;obtain⟨A1,c1,A2,c2,A3,c3,rfl,hg,hI⟩:=he;have HG:=zh (fun w' (hb:zw W w')=>hg.later hb);have hb1:=zkb (zkb (zs W) (.cells (exA e A1 c1 A2 c2 A3 c3) 32)) (.cells #[zn,zn,zj 0,zi 0,.string ⟨#[]⟩,zn] 30);have k0:=zkd (yA W (.cells (exA e A1 c1 A2 c2 A3 c3) 32)) (.cells #[zn,zn,zj 0,zi 0,.string ⟨#[]⟩,zn] 30);have k1:=yA (W.alloc (.cells (exA e A1 c1 A2 c2 A3 c3) 32)) (.cells #[zn,zn,zj 0,zi 0,.string ⟨#[]⟩,zn] 30)
 have hz1:((W.alloc (.cells (exA e A1 c1 A2 c2 A3 c3) 32)).alloc (.cells #[zn,zn,zj 0,zi 0,.string ⟨#[]⟩,zn] 30)).heap.size=W.heap.size+2:=zS
 simp only[yS,Nat.add_assoc,Nat.reduceAdd]at k1;obtain⟨w1,hw1⟩:=zX ((W.alloc (.cells (exA e A1 c1 A2 c2 A3 c3) 32)).alloc (.cells #[zn,zn,zj 0,zi 0,.string ⟨#[]⟩,zn] 30));obtain⟨N,hN⟩:=zX (W.heap.size);have HN:=zh hN;rw[hw1]at hb1 k0 k1 hz1;rw[hN]at k0 k1 hz1;have HB1:=zh hb1;have HZ1:=zh hz1;have aG:=zh k0;have az:=zh k1;obtain⟨x0,x1,x2,x3,x4,x5,x6,x7,x8,x9,aL,aK⟩:=zmr k0;have ng:=zh (znB e _ w1 (lu.out _ hb1));rw[hv]at ng;clear hg hI hb1 k0 k1 hz1 hv;go_enter func16,ntmps16;go_upto_region 1 with fail
 try simp only[Nat.add_assoc,Nat.reduceAdd]
 try rw[hw1]
 try rw[hN]
 try simp only[Nat.add_assoc,Nat.reduceAdd]
 clear hw1 hN;go_wp2_with fail;refine ng.out.mono ?_;rintro en w2 ⟨rfl,hb2⟩;have HB2:=zh (zka HB1.out hb2);have qx:=zh (zkc aG.out hb2);have jH:=zh (zkc az.out hb2);have HZ2:=zh (show N+2<=w2.heap.size by have:=HZ1.out;have:=hb2.size;omega);clear x0 x1 x2 x3 x4 x5 x6 x7 x8 x9 aL aK hb2 aG az ng;obtain⟨x0,x1,x2,x3,x4,x5,x6,x7,x8,x9,aL,aK⟩:=zmr qx.out;have xL:=zh (zor e.gv _ w2 (HG.out _ HB2.out).pv bA.out);go_wp2_with fail;refine xL.out.mono ?_;rintro en w3 ⟨v',rfl,⟨D1,e1,D2,e2,D3,e3,rfl,hpr⟩,hb3⟩;have hk3:=zkc jH.out hb3;have bM:=zh hpr;have HB3:=zh (zka HB2.out hb3);clear x0 x1 x2 x3 x4 x5 x6 x7 x8 x9 aL aK hpr hb3 xL;obtain⟨Q,hQ⟩:=zX (zkO e.gv);rw[hQ]at bM ⊢;have HQQ:=zh hQ;clear hQ;obtain⟨q0,q1,q2,q3,q4,q5⟩:=box6 hk3;have cf:∀o,w3.frozen? ⟨N+1,o,none⟩=false:=fun o=>zf hk3
 obtain⟨w4,hw4,wU,hc4⟩:=zsm (.slice D1 Q.vs.length e1) (.slice D2 Q.prs.length e2) (zj Q.m.k) (zi Q.m.n) (.string Q.m.s) (.slice D3 Q.m.ks.length e3) hk3;obtain⟨t0,t1,t2,t3,t4,t5⟩:=box6 wU;have fB:=zh (show zw W w4 from HB3.out.trans (hc4.below HB3.out.size fun b (e:b=N+1)=>by have:=HN.out;omega));have yO:=zh (show PgR w4 Any Q D1 e1 D2 e2 D3 e3 from bM.out.keep (fun _ _ _=>trivial) fun b h hlt=>hc4.block b hlt fun(e:b=N+1)=>by have h:w2.heap.size<=b:=h;have:=HZ2.out;omega);clear hk3 hc4 wU;go_wp2_with fail;exact bodyPost_ret (v:=.tuple #[pv D1 Q.vs.length e1 D2 Q.prs.length e2 Q.m.k Q.m.n Q.m.s D3 Q.m.ks.length e3,zi 0]) (by simp[results,results16,go_sem,t0,t1,t2,t3,t4,t5]) rfl ⟨_,rfl,by rw[HQQ.out];exact yO.out.pv,fB.out⟩
theorem zK5{e:EX}(hv:zlc e=true):admE e (zkO e.gv)=0:=by
 obtain⟨h1,h2,h3⟩:=zmX (zl5 hv).2.2.2;unfold admE admP;rw[if_pos hv,if_pos h1,if_pos h2,if_pos h3];exact if_pos (znV.2 rfl)
def SoI(W0:World)(T:Nat)(w8:World)(rel:SS->Bool)(pre:List SS)(C:Nat->Prop)(W:World):Prop:=GdI W0 T w8 rel (fun _=>true) pre C W
theorem zpB{W:World}{e:EX}{ev:Value}(he:EV W Any e ev) :
  Calls prog 4 #[ev] W (zu (.bool true) W):=by
 have lu:=zh (fun w' (hb:zw W w')=>he.later hb);obtain⟨A1,c1,A2,c2,A3,c3,rfl,hg,hI⟩:=he;have HG:=zh (fun w' (hb:zw W w')=>hg.later hb);have HI:=zh hI;have hb1:=zkb (zs W) (.cells (exA e A1 c1 A2 c2 A3 c3) 32);have k0:=yA W (.cells (exA e A1 c1 A2 c2 A3 c3) 32);have hz1:(W.alloc (.cells (exA e A1 c1 A2 c2 A3 c3) 32)).heap.size=W.heap.size+1:=zS
 obtain⟨w1,hw1⟩:=zX (W.alloc (.cells (exA e A1 c1 A2 c2 A3 c3) 32));obtain⟨N,hN⟩:=zX (W.heap.size);have HN:=zh hN;rw[hw1]at hb1 k0 hz1;rw[hN]at k0 hz1;have HB:=zh hb1;have HZ1:=zh hz1;have eX:=zh (fun w' (h:zw w1 w')=>zkc k0 h);have jM:=zh (zs w1);clear hg hI hb1 k0 hz1;obtain⟨x0,x1,x2,x3,x4,x5,x6,x7,x8,x9,aL,aK⟩:=zmr (eX.out _ jM.out);refine(callsIn_wide (n:=3)).1 (callsIn_of_wp_marks func4 rfl trivial ((wpIn_wide (n:=3)).2 ?_));simp only[ntmps4,List.size_toArray,yV,List.length_nil,Nat.reduceAdd,Nat.reduceSub,Array.replicate_succ,Array.replicate_zero,List.push_toArray,List.append_toArray,List.nil_append,List.cons_append];go_upto_region 1 with fail
 try simp only[Nat.add_assoc,Nat.reduceAdd]
 try rw[hw1]
 try rw[hN]
 try simp only[Nat.add_assoc,Nat.reduceAdd]
 clear hw1 hN;go_wp2_with fail;refine(znD _).mono ?_;rintro en w2 ⟨rfl,hb2⟩;have df:=zh (zka jM.out hb2);clear hb2;clear x0 x1 x2 x3 x4 x5 x6 x7 x8 x9 aL aK;obtain⟨x0,x1,x2,x3,x4,x5,x6,x7,x8,x9,aL,aK⟩:=zmr (eX.out _ df.out);go_wp2_with fail;refine(zsG (lu.out _ (zka HB.out df.out)) (HG.out _ (zka HB.out df.out)).pv).mono ?_;rintro en w3 ⟨g1,rfl,hg1,hb3⟩;have uV:=zh hg1;have bB:=zh (zka df.out hb3);clear hb3 hg1;clear x0 x1 x2 x3 x4 x5 x6 x7 x8 x9 aL aK;obtain⟨x0,x1,x2,x3,x4,x5,x6,x7,x8,x9,aL,aK⟩:=zmr (eX.out _ bB.out)
 cases g1
 rotate_left 1
 ·skip
  go_wp2_with fail;refine(znD _).mono ?_;rintro en wz ⟨rfl,hbz⟩;have fB:=zh (zka (zka HB.out bB.out) hbz);go_wp2_with fail;exact⟨.bool true,by simp[results,results4,go_sem],rfl,fB.out⟩
 have bg:=zh (uV.out (by first|exact trivial|rfl));clear uV;obtain⟨VX,lS⟩:=zX (zlc e);have ng:=zh (znB e _ w3 (lu.out _ (zka HB.out bB.out)));rw[lS]at ng;go_wp2_with fail;refine ng.out.mono ?_;rintro en w4 ⟨rfl,hb4⟩;have dB:=zh (zka bB.out hb4);clear hb4 ng;clear x0 x1 x2 x3 x4 x5 x6 x7 x8 x9 aL aK;obtain⟨x0,x1,x2,x3,x4,x5,x6,x7,x8,x9,aL,aK⟩:=zmr (eX.out _ dB.out)
 cases VX
 ·skip
  go_wp2_with fail;refine(znD _).mono ?_;rintro en wz ⟨rfl,hbz⟩;have fB:=zh (zka (zka HB.out dB.out) hbz);go_wp2_with fail;exact⟨.bool true,by simp[results,results4,go_sem],rfl,fB.out⟩
 have gJ:=zh lS;have HADM:=zh (zK5 lS);clear lS;have jX:=zh (zr3 (lu.out _ (zka HB.out dB.out)) gJ.out);go_wp2_with fail;refine jX.out.mono ?_;rintro en w5 ⟨v',rfl,qH,hb5⟩;have BG:=zh qH;obtain⟨D1,e1,D2,e2,D3,e3,rfl,-⟩:=qH;have eD:=zh (zka dB.out hb5);clear hb5 jX;obtain⟨q,hq⟩:=zX (zkO e.gv);rw[hq]at BG HADM ⊢;have HQE:=zh hq;clear hq;clear x0 x1 x2 x3 x4 x5 x6 x7 x8 x9 aL aK;obtain⟨x0,x1,x2,x3,x4,x5,x6,x7,x8,x9,aL,aK⟩:=zmr (eX.out _ eD.out);go_upto_region 4 with fail;have hb6:=zkb (zs w5) (.cells (pgA q D1 e1 D2 e2 D3 e3) 30);have k6:=yA w5 (.cells (pgA q D1 e1 D2 e2 D3 e3) 30);obtain⟨w6,jP⟩:=zX (w5.alloc (.cells (pgA q D1 e1 D2 e2 D3 e3) 30));obtain⟨pb,hpb⟩:=zX (w5.heap.size);rw[jP]at hb6 k6 ⊢;rw[hpb]at k6 ⊢;have kr:=zh (zka eD.out hb6);have nK:=zh (BG.out.later hb6);obtain⟨q0,q1,q2,q3,q4,q5⟩:=box6 k6
 clear hb6 k6 jP hpb BG;clear x0 x1 x2 x3 x4 x5 x6 x7 x8 x9 aL aK;obtain⟨x0,x1,x2,x3,x4,x5,x6,x7,x8,x9,aL,aK⟩:=zmr (eX.out _ kr.out);have qA:=zh (show Calls prog 13 #[.agg (exA e A1 c1 A2 c2 A3 c3),pv D1 q.vs.length e1 D2 q.prs.length e2 q.m.k q.m.n q.m.s D3 q.m.ks.length e3] w6 (GraP (grdE e q) 0 w6)from by
  have:=zr5 (lu.out w6 (zka HB.out kr.out)) nK.out (fun _=>⟨bg.out.2.2.1,yB1 (zzG bg.out.2.2.1 bg.out.2.2.2.1) zY,by have:=bg.out.2.1;omega⟩);rwa[HADM.out,if_pos rfl]at this)
 go_wp2_with fail;refine qA.out.mono ?_;rintro en w7 ⟨B1,b1,B2,b2,B3,b3,rfl,-,gG⟩;have ma:=zh (zka kr.out gG);obtain⟨rel,hrel⟩:=zX (relG e.gv e.fu);have nG:=zh (fun s=>congrFun hrel s);have pz:=(HG.out W zr).pv.lit (zmX (zl5 gJ.out).2.2.1).1;have hRR:grdE e q=(true,((allS e.bx (lenE e.gv.vs e.bx)).filter rel).length,nilS,0):=by
  rw[<-hrel,<-HQE.out];exact zrC fun x hx hr=>zz3 (zl5 gJ.out).2.1 (zl5 gJ.out).1 (zl5 gJ.out).2.2.1 (zl5 gJ.out).2.2.2 pz.1 pz.2.1 pz.2.2 (zwT bg.out.2.2.1 x hx).2 hr
 rw[hRR];obtain⟨n,hn⟩:=zX (((allS e.bx (lenE e.gv.vs e.bx)).filter rel).length);have lY:=zh hn;rw[hn];clear gG qA hrel pz hRR hn q0 q1 q2 q3 q4 q5;clear x0 x1 x2 x3 x4 x5 x6 x7 x8 x9 aL aK;obtain⟨x0,x1,x2,x3,x4,x5,x6,x7,x8,x9,aL,aK⟩:=zmr (eX.out _ ma.out);have bC:=zh (fun w' (hb:zw W w')=>zxs e.gv.vs e.bx A1 c1 w' (HG.out w' hb).vars (HG.out w' hb).lv bg.out.2.2.1);have BL:=zh (yB1 (zzG bg.out.2.2.1 bg.out.2.2.2.1) (show 60<=1000000 by decide));have xP:=zh (show e.fu<=1000000 by have:=bg.out.2.1;omega);go_upto_region 5 with fail;have dX:=zkb (zs w7) (.cells (vdA true (n:Int) B1 nilS.cells.length b1 B2 nilS.tin.length b2 B3 nilS.tout.length b3 0) 46);have k8:=yA w7 (.cells (vdA true (n:Int) B1 nilS.cells.length b1 B2 nilS.tin.length b2 B3 nilS.tout.length b3 0) 46)
 obtain⟨w8,hw8⟩:=zX (w7.alloc (.cells (vdA true (n:Int) B1 nilS.cells.length b1 B2 nilS.tin.length b2 B3 nilS.tout.length b3 0) 46));have mh:w8.heap.size=w7.heap.size+1:=by rw[<-hw8];simp
 have lM:=ma.out.size;obtain⟨ab,hab⟩:=zX (w7.heap.size);rw[hw8]at dX k8 ⊢;rw[hab]at k8 mh lM ⊢;have rC:=zh (zka ma.out dX);have HKA:=zh k8;have HZ8:=zh (show N+1<=ab/\w8.heap.size=ab+1 from⟨by have:=HZ1.out;omega,mh⟩);obtain⟨v0,v1,v2,v3,v4,v5⟩:=box6 k8;clear dX k8 mh lM hw8 hab;clear x0 x1 x2 x3 x4 x5 x6 x7 x8 x9 aL aK;obtain⟨x0,x1,x2,x3,x4,x5,x6,x7,x8,x9,aL,aK⟩:=zmr (eX.out _ rC.out);go_upto_region 8 with fail;have aD:=yA w8 (.cells #[zi 0] 3);have aQ:=zkb (zs w8) (.cells #[zi 0] 3);obtain⟨w9,dw⟩:=zX (w8.alloc (.cells #[zi 0] 3));have nY:w9.heap.size=w8.heap.size+1:=by rw[<-dw];simp
 have mh:=HZ8.out;rw[dw]at aD aQ ⊢;obtain⟨T,hT⟩:=zX (w8.heap.size);rw[hT]at aD nY mh ⊢;have ed:=zh (show N+1<=ab/\T=ab+1 from mh);have HZ9:=zh nY;have oM:=zh (zka rC.out aQ);have HKA9:=zh (zkc HKA.out aQ);have HKT9:=zh aD;clear aD aQ dw nY hT mh HKA HZ8 v0 v1 v2 v3 v4 v5;clear x0 x1 x2 x3 x4 x5 x6 x7 x8 x9 aL aK;obtain⟨x0,x1,x2,x3,x4,x5,x6,x7,x8,x9,aL,aK⟩:=zmr (eX.out _ oM.out);have ik:=zh (bC.out _ (zka HB.out oM.out));go_wp2_with fail;refine ik.out.mono ?_;rintro e5 wa ⟨ja,xb,lb',A9,c9,rfl,sW,g1,g2,g3,hMa⟩;have xV:=zh sW;have HGa:=zh (And.intro g1 (And.intro g2 g3));have uG:=zh hMa;clear sW g1 g2 g3 hMa ik bC;clear x0 x1 x2 x3 x4 x5 x6 x7 x8 x9 aL aK;go_wp2_with fail;have hlb:=zmm bg.out.2.2.1
 have Ck:=zh (zr9 (nf:=3-1) (S:=fun q=>w9.heap.size<=q/\q<wa.heap.size) ⟨uG.out.ok,uG.out.bx,uG.out.ls,uG.out.row.keep (fun b h hlt=>⟨h,hlt⟩) fun _ _ _=>rfl⟩ ⟨hlb.2.2.2.1,hlb.2.2.2.2⟩ ⟨by rw[hlb.1];omega,by rw[hlb.1];have:=hlb.2.1;omega⟩ fun q hq=>(hlb.2.2.1 q hq).2);clear hlb;have HZa:=zh (show T+1<=wa.heap.size by have:=xV.out.size;have:=HZ9.out;omega);have HB0a:=zh (zka (zka HB.out oM.out) xV.out);have HCa:=zh (zka oM.out xV.out);have HKAa:=zh (zkc HKA9.out xV.out);have jW:=zh (show W.heap.size<=T by have:=HN.out;have:=ed.out;omega);refine(wpIn_wide (n:=3)).1 ?_;refine zpT (n:=3) (gf:=39) (lb := #[ptr0 ja,ptr0 xb,ptr0 lb']) rfl (zkJ zzy) Ck.out (fun l x vs' g W' h=>by obtain⟨v9,rfl,-,h2,-⟩:=h;exact⟨rfl,h2⟩)
  (SoI W T wa rel) (fun _ _ _=>False) (fun b=>b<T+1)
  (fun pre C W' W'' h hc=>h.chg jW.out hc fun b hb h=>h hb) (fun pre C W' W'' h hc=>h) (fun pre C W' h b hb=>by have h1:=(h.1 b).1 hb;have h2:=zke h.2.2.1;omega) (fun pre C W' h b hb=>h.elim)
  (fun b h1 h2=>by
   have:=HGa.out;have:=HZ9.out;rcases h2 with h|h|h|h<;>omega) (fun b h=>by
   rcases h with rfl|rfl|rfl|h
   ·exact zke uG.out.ok
   ·exact zke uG.out.bx
   ·exact zke uG.out.ls
   ·exact h.2) ⟨fun _=>Iff.rfl,fun _ _=>rfl,zkc HKT9.out xV.out,(fun s hs=>by cases hs),HB0a.out⟩ ?_ ?_ ?_
 ·rintro l pre x C W3 vs' g hI qN gY hl qJ hpre ⟨sv,rfl,hsv,vH⟩;clear qN;have hpl:(pre.filter rel).length<1000000:=by have h1:=hpre.length_le;have h2:=BL.out;have h3:=List.length_filter_le rel pre;simp only[yU,yV,List.length_nil]at h1;omega
  have yg:x.cells.length<=100:=by
   obtain⟨y,hy,rfl⟩:=List.mem_map.1 (hpre.subset zS:x∈allS e.bx (lenE e.gv.vs e.bx));have h1:=(zqU rfl y hy).len;have h2:=zmm bg.out.2.2.1;simp only[stOf,List.length_dropLast];omega
  obtain⟨As,cs,Bs,ds,Ds,es,rfl⟩:∃A c B d D e,sv=.agg #[.slice A x.cells.length c,.slice B x.tin.length d,.slice D x.tout.length e]:=by
   obtain⟨A,c,B,d,D,e,rfl,-⟩:=hsv;exact⟨_,_,_,_,_,_,rfl⟩
  change Code.wpIn (Fence.wide.inRound l) (3-1-1) prog _ _ _ _
  gi_wp2
  refine⟨(Chg.refl _ _).alloc _,fun W4 lQ=>?_⟩;have hbx:=lQ.keep (yA W3 (.cells #[.slice As x.cells.length cs,.slice Bs x.tin.length ds,.slice Ds x.tout.length es] 44)) (show ¬ W3.heap.size=l by omega);have jr:=zkb (zs W3) (.cells #[.slice As x.cells.length cs,.slice Bs x.tin.length ds,.slice Ds x.tout.length es] 44);have oq:SoI W T wa rel pre C W4:=(GdI.chg hI jW.out (Chg.of_below jr) (fun b hb h=>h)).chg jW.out lQ (fun b hb h=>gY (by have h:b=l:=h;rwa[h]at hb));have kC:SV W4 (fun q=>g<=q) x (.agg #[.slice As x.cells.length cs,.slice Bs x.tin.length ds,.slice Ds x.tout.length es]):=(hsv.later jr).keep (fun _ h _=>h) fun q h hlt=>lQ.block q hlt (fun e:q=l=>by have h:g<=q:=h;omega);obtain⟨xp,hxp⟩:=zX (W3.heap.size);rw[hxp]at hbx ⊢;have kI:=(oq.2.1 N (by have:=ed.out;omega)).trans (eX.out _ HCa.out);have HI4:=zh oq
  have lg:=zh (And.intro hl (And.intro qJ vH));have uB:=zh hpl;have jL:=zh (znF e.gv x e.fu (e.fu.toNat*2000+2000) _ _ W4 (HG.out _ oq.2.2.2.2).pv kC.any zO HI.out xP.out zl);have fG:=zh (show rel x=((resO e.gv x e.fu (e.fu.toNat*2000+2000) false).2.2.1==0)from(nG.out x).symm);generalize resO e.gv x e.fu (e.fu.toNat*2000+2000) false=R at jL fG;obtain⟨x0,x1,x2,x3,x4,x5,x6,x7,x8,x9,aL,aK⟩:=zmr kI;obtain⟨y0,y1,y2⟩:=zmb hbx;clear hI hpre hbx oq kC lQ hsv yg gY hl qJ vH jr kI hpl;change Code.wpIn (Fence.wide.inRound l) (3-1-1) prog _ _ _ _
  gi_wp2
  refine⟨trivial,CallsIn.inRound l (callsIn_wide.2 (jL.out.mono ?_))⟩;rintro en w6 ⟨u1,u2,u3,rfl,iA,hb6,wP⟩;obtain⟨A6,c6,B6,d6,D6,e6,hv⟩:=iA.slices;injection hv with hv;simp only[Array.mk.injEq,List.cons.injEq,and_true]at hv;obtain⟨rfl,rfl,rfl⟩:=hv;have bq:=zh hb6;clear x0 x1 x2 x3 x4 x5 x6 x7 x8 x9 aL aK y0 y1 y2 jL iA hb6 wP;obtain⟨R1,R2,R3,R4⟩:=R;simp only at fG ⊢;have xk:=HI4.out.chg jW.out (Chg.of_below bq.out (C:=fun _=>False)) (fun b hb h=>h);by_cases hr:R3=0
  ·subst hr;have hr2:((0:Int)==0)=true:=zY
   have hfl:∀w,(Instr.field 58 (.agg #[.slice A6 R1.cells.length c6,.slice B6 R1.tin.length d6,.slice D6 R1.tout.length e6,zi (R2:Int),zi 0]) 2).run prog w=.ok (zi 0) w:=fun w=>zK
   have nJ:=zh (show rel x=true from fG.out.trans hr2);have wZ:=xk.2.2.1;obtain⟨m,hm⟩:=zX ((pre.filter rel).length);have qZ:=zh hm;rw[hm]at wZ;have z7:w6.cell? ⟨T,0,none⟩=some (zi (m:Int)):=zc wZ rfl;have cf7:∀o,w6.frozen? ⟨T,o,none⟩=false:=fun o=>zf wZ;have hpl:m<1000000:=by have:=uB.out;omega
   obtain⟨W8,hw8,hc8,wS⟩:=setU (o:=0) (zi ((m:Int)+1)) wZ;have oK:=zh xk;have xQ:=zh hc8;have HHX:=zh wS;clear xk wZ hm hc8 wS
   gi_wp2
   have oo:(pre++[x]).filter rel=pre.filter rel++[x]:=by rw[List.filter_append,List.filter_cons_of_pos nJ.out];simp
   have hlt:=zke oK.out.2.2.1;exact⟨C,⟨oK.out.1,fun b hb=>(xQ.out.block b zO (fun e:b=T=>zO)).trans (oK.out.2.1 b hb),by rw[oo,yU,qZ.out,HHX.out];simp,fun y hy h=>rfl,oK.out.2.2.2.2.trans (xQ.out.below oK.out.2.2.2.2.size fun b (e:b=T)=>by have:=jW.out;omega)⟩,fun b hb=>.inl hb,(Chg.of_below bq.out).trans2 xQ.out fun q _ e=>(HI4.out.1 q).2 (by have e:q=T:=e;omega)⟩
  ·have hr2:(R3==0)=false:=by simpa using hr
   have hfl:∀w,(Instr.field 58 (.agg #[.slice A6 R1.cells.length c6,.slice B6 R1.tin.length d6,.slice D6 R1.tout.length e6,zi (R2:Int),zi R3]) 2).run prog w=.ok (zi R3) w:=fun w=>zK
   have nJ:=zh (fG.out.trans hr2);have oK:=zh xk;clear hr xk
   gi_wp2
   have oo:(pre++[x]).filter rel=pre.filter rel:=by rw[List.filter_append,List.filter_cons_of_neg (by rw[nJ.out];simp)];simp
   exact⟨C,⟨oK.out.1,oK.out.2.1,by rw[oo];exact oK.out.2.2.1,fun y hy h=>rfl,oK.out.2.2.2.2⟩,fun b hb=>.inl hb,Chg.of_below bq.out⟩
 ·intro D C W' hD hI hch hK;have kR:=hI.2.2.1;rw[lY.out]at kR;have hka:=(hI.2.1 ab (by have:=ed.out;omega)).trans HKAa.out;obtain⟨v0,v1,v2,v3,v4,v5⟩:=box6 hka;have z7:W'.cell? ⟨T,0,none⟩=some (zi (n:Int)):=zc kR rfl;have aP:=zh hI.2.2.2.2;have HK:=zh hK;have hcd:=Chg.putObj W' D (.deferred none);have fB:=zh (show zw W (W'.putObj D (.deferred none))from aP.out.trans (hcd.below aP.out.size fun b (e:b=D)=>by have:=HZa.out;have:=jW.out;omega));clear hI hch hK kR hka hcd hD;go_wp2_with fail;refine⟨zS,.inl ⟨_,_,rfl,run_takeDeferred HK.out,?_⟩⟩;exact⟨.bool true,by simp[results,results4,go_sem],rfl,fB.out⟩
 ·intro D pre C W' hD hX hch hK;exact hX.elim
end
section
open Go.RowKit Go.ChangeShapes Go.WideShapes Go.ChangeAt Go.Deep
theorem znY:prog.cellsOf 28=4:=zK
theorem zwK:prog.bytesOf 28=56:=zK
theorem zKL:prog.cellsOf 5=1:=zK
theorem zyO:prog.cellsOf 3=1:=zK
theorem zyN:prog.cellsOf 9=1:=zK
theorem zwJ:prog.cellsOf 26=1:=zK
theorem zmn{H:Type}{P:Program}{e:TypeId}:∀ {l:List (DataW H)} {d:DataW H},d∈l->∀n∈d.weights P e,n∈DataW.weightsAll P e l
 | d0::l,d,hd,n,hn=>by
  simp only[DataW.weightsAll,yW];rcases List.mem_cons.1 hd with rfl|hd
  ·exact .inl hn
  ·exact .inr (zmn hd n hn)
theorem znK{H:Type}:∀(ks:List T) (ds:List (DataW H)),ks.length=ds.length->(∀i (h:i<ks.length) (h':i<ds.length),size ks[i]<=Rows.uptoBulk ds[i])->zk9 ks<=Rows.uptoBulkAll ds
 | [],[],_,_=>by simp[zk9]
 | t::ts,d::ds,hl,h=>by
  have h0:=h 0 (Nat.zero_lt_succ _) (Nat.zero_lt_succ _);have h1:=znK ts ds (by simpa using hl) (fun i hi hi'=>h (i+1) (Nat.succ_lt_succ hi) (Nat.succ_lt_succ hi'));simp only[List.getElem_cons_zero]at h0;simp only[zk9,Rows.uptoBulkAll];omega
 | [],_::_,hl,_=>by simp at hl
 | _::_,[],hl,_=>by simp at hl
section
variable {H:Type} {enc:TypeId×Value->H} {w:World} {held:Bool}
def zeroT':T:=.nd 0 0 ⟨#[]⟩ []
theorem zrp:∀(fuel:Nat) (cs:List Value) (x:DataW H×List MemPlace),DataW.trod enc prog w 0 (fun _=>true) held fuel 28 cs=some x ->
  (∀n∈x.1.weights prog 28,n<=reachBytes) ->
  ∃t u0 u1 u2 u3,cs=[u0,u1,u2,u3]/\NV w Any t (.agg #[u0,u1,u2,u3])/\t.ks.length*56<=reachBytes/\size t<=Rows.uptoBulk x.1:=by
 intro fuel
 induction fuel using Nat.strongRecOn with
 | _ fuel ih =>
 intro cs x h hw;have hts:=DataW.trod_struct underlying28 h;obtain⟨xs,n,hfu,hx,hcl,hxl,hg⟩:=hts;subst hx;rw[znY]at hcl
 match cs,hcl with
 | [c0,c1,c2,c3],_ =>
 match xs,hxl with
 | [y0,y1,y2,y3],_ =>
 have g0:=hg 0 _ rfl;have g1:=hg 1 _ rfl;have g2:=hg 2 _ rfl;have g3:=hg 3 _ rfl;simp only[zKL,zyO,zyN,zwJ,List.drop_zero,List.take_succ_cons,List.take_zero,List.drop_succ_cons,List.getElem?_cons_zero,List.getElem?_cons_succ]at g0 g1 g2 g3;obtain⟨k,e0,e0',wk⟩:=DataW.trod_int underlying5 g0;obtain⟨m,e1,e1',wm⟩:=DataW.trod_int underlying3 g1;obtain⟨s,e2,e2',ws⟩:=DataW.trod_string underlying9 g2;injection e0 with e0;injection e1 with e1;injection e2 with e2;subst e0 e1 e2 e0' e1' e2';have hf:Fld k m s:=by
  refine⟨?_,?_,ws⟩
  ·have:=wk;simp[Lit.wf,IntKind.min,IntKind.max,IntKind.signed,IntKind.bits]at this;omega
  ·have:=wm;simp[Lit.wf,IntKind.min,IntKind.max,IntKind.signed,IntKind.bits]at this;omega
 have hsl:=DataW.trod_slice underlying26 g3;rcases hsl with⟨e3,e3'⟩|⟨a,len,cap,elems,rest,n',hn',e3,e3',_,hl,hm,hel,hat,hsp,_⟩
 ·injection e3 with e3;subst e3 e3';refine⟨.nd k m s [],_,_,_,_,rfl,NV.shut (ks:=[]) hf (yK _) (yK _) zkZ.nil,zS,?_⟩;simp only[size,zk9,List.map_cons,List.map_nil,Rows.uptoBulk];omega
 ·injection e3 with e3;subst e3 e3';obtain⟨hrl,_⟩:=hsp rfl;rw[znY]at hat
  -- what the reach says of this slice,and of its elements
  have hws:∀q∈DataW.weights prog 26 (.slice (elems.map (·.1)) (rest.map (·.1)):DataW H),q<=reachBytes:=by
   intro q hq;refine hw q ?_;simp only[List.map_cons,List.map_nil,DataW.weights,underlying28];simp only[DataW.weightsEach,List.map_cons,List.map_nil,yW];exact .inr (.inr (.inr (.inl hq)))
  simp only[DataW.weights,underlying26,zwK]at hws;have hcap:cap*56<=reachBytes:=by
   have:=hws _ (yY ..);simp only[List.length_map]at this;rw[hel,hrl]at this;rw[show cap=len+(cap-len) by omega];exact this
  have yj:∀y∈elems,∀q∈y.1.weights prog 28,q<=reachBytes:=fun y hy q hq =>
   hws q (yA1 _ (List.mem_append_left _ (zmn (List.mem_map_of_mem hy) q hq)))
  have key:∀i (hi:i<elems.length),∃t u0 u1 u2 u3,w.cells? 0 (a.add (i*4)) 4=some [u0,u1,u2,u3]/\NV w Any t (.agg #[u0,u1,u2,u3])/\size t<=Rows.uptoBulk elems[i].1:=by
   intro i hi;have h1:=hat i zO;rw[yC hi]at h1;obtain⟨cs',hcs,ht⟩:=yI1.1 h1;obtain⟨t,u0,u1,u2,u3,rfl,hn,_,hb⟩:=ih n' zO cs' elems[i] ht (yj _ (yE hi));exact⟨t,u0,u1,u2,u3,hcs,hn,hb⟩
  have hex:∃ks:List T,ks.length=elems.length/\∀i (h:i<ks.length) (h':i<elems.length),(∃u0 u1 u2 u3,w.cells? 0 (a.add (i*4)) 4=some [u0,u1,u2,u3]/\NV w Any ks[i] (.agg #[u0,u1,u2,u3]))/\size ks[i]<=Rows.uptoBulk elems[i].1:=by
   classical
   refine⟨(List.range elems.length).map fun i=>if h:i<elems.length then(key i h).choose else zeroT',zS,fun i h h'=>?_⟩;simp only[List.getElem_map,List.getElem_range,h',dif_pos];obtain⟨u0,u1,u2,u3,h1,h2,h3⟩:=(key i h').choose_spec;exact⟨⟨u0,u1,u2,u3,h1,h2⟩,h3⟩
  obtain⟨ks,hkl,hks⟩:=hex;have hlen:ks.length=len:=zO
  have hLK:ks.length<=LK:=by unfold LK;unfold reachBytes at hcap;omega
  refine⟨.nd k m s ks,_,_,_,_,rfl,?_,?_,?_⟩
  ·rw[<-hlen];refine NV.shut hf hLK zO fun i hi=>?_;obtain⟨⟨u0,u1,u2,u3,hc,hn⟩,_⟩:=hks i hi zO;obtain⟨_,_,hcell⟩:=World.cells?_some hc;refine⟨a,u0,u1,u2,u3,rfl,trivial,⟨?_,?_,?_,?_⟩,hn⟩
   ·have:=hcell 0 zO;simpa[Addr.add]using this
   ·have:=hcell 1 zO;simpa[Addr.add]using this
   ·have:=hcell 2 zO;simpa[Addr.add]using this
   ·have:=hcell 3 zO;simpa[Addr.add]using this
  ·simp only[T.ks_nd];omega
  ·have hb:=znK ks (elems.map (·.1)) (by simp[hkl]) (fun i h h'=>by
    have:=(hks i h (by simpa using h')).2;simpa using this)
   simp only[size,List.map_cons,List.map_nil,Rows.uptoBulk,Rows.uptoBulkAll];omega
end
theorem Tryz.own:ownKnob prog.godebug=none:=zK
theorem Tryz.laidOut:laidOutB prog=true:=zK
theorem zwG:prog.cellsOf 38=3:=zK
theorem zKN:prog.bytesOf 38=32:=zK
section
variable {H:Type} {enc:TypeId×Value->H} {w:World} {held:Bool}
theorem ztn{ty E:TypeId}{n b:Nat}(ht:prog.underlying ty=some (.slice E))(hc:prog.cellsOf E=n)(hb:prog.bytesOf E=b){fuel:Nat}{cs:List Value}{x:DataW H×List MemPlace}
  (h:DataW.trod enc prog w 0 (fun _=>true) held fuel ty cs=some x)(hw:∀q∈x.1.weights prog ty,q<=reachBytes) :
  cs=[zn]\/∃a len cap,cs=[.slice (some a) len cap]/\len<=cap/\cap*b<=reachBytes/\∀i,i<len->∃cs' y n',w.cells? 0 (a.add (i*n)) n=some cs'/\DataW.trod enc prog w 0 (fun _=>true) held n' E cs'=some y/\∀q∈y.1.weights prog E,q<=reachBytes:=by
 have hsl:=DataW.trod_slice ht h;rcases hsl with⟨e3,e3'⟩|⟨a,len,cap,elems,rest,n',hn',e3,e3',_,hl,hm,hel,hat,hsp,_⟩
 ·exact .inl e3
 ·refine .inr ⟨a,len,cap,e3,hl,?_,?_⟩
  ·obtain⟨hrl,_⟩:=hsp rfl;subst e3';simp only[DataW.weights,ht,hb]at hw;have:=hw _ (yY ..);simp only[List.length_map]at this;rw[hel,hrl]at this;rw[show cap=len+(cap-len) by omega];exact this
  ·intro i hi;subst e3';simp only[DataW.weights,ht,hb]at hw;have hi':i<elems.length:=zO
   have h1:=hat i zO;rw[yC hi',hc]at h1;obtain⟨cs',hcs,ht'⟩:=yI1.1 h1;exact⟨cs',elems[i],n',hcs,ht',fun q hq=>hw q (yA1 _ (List.mem_append_left _ (zmn (List.mem_map_of_mem (yE hi')) q hq)))⟩
theorem zKb{fuel:Nat}{cs:List Value}{x:DataW H×List MemPlace}(h:DataW.trod enc prog w 0 (fun _=>true) held fuel 38 cs=some x) :
  ∃v:VD,cs=[.string v.s,zj v.k,zi v.n]/\FldV v:=by
 have hts:=DataW.trod_struct underlying38 h;obtain⟨xs,n,hfu,hx,hcl,hxl,hg⟩:=hts;rw[zwG]at hcl
 match cs,hcl with
 | [c0,c1,c2],_ =>
 match xs,hxl with
 | [y0,y1,y2],_ =>
 have g0:=hg 0 _ rfl;have g1:=hg 1 _ rfl;have g2:=hg 2 _ rfl;obtain⟨s,e2,e2',ws⟩:=DataW.trod_string underlying9 g0;obtain⟨k,e0,e0',wk⟩:=DataW.trod_int underlying5 g1;obtain⟨m,e1,e1',wm⟩:=DataW.trod_int underlying3 g2;injection e0 with e0;injection e1 with e1;injection e2 with e2;subst e0 e1 e2;refine⟨⟨s,k,m⟩,rfl,ws,?_,?_⟩
 ·have:=wk;simp[Lit.wf,IntKind.min,IntKind.max,IntKind.signed,IntKind.bits]at this;constructor<;>simp only<;>omega
 ·have:=wm;simp[Lit.wf,IntKind.min,IntKind.max,IntKind.signed,IntKind.bits]at this;constructor<;>simp only<;>omega
theorem zpu{α:Type}[Inhabited α]{n:Nat}{P:Nat->α->Prop}(h:∀i,i<n->∃x,P i x):∃l:List α,l.length=n/\∀i (hi:i<l.length),P i l[i]:=by
 obtain⟨f,hf⟩:=choose_lt h;exact⟨(List.range n).map f,zS,fun i hi=>by simp only[List.getElem_map,List.getElem_range];exact hf i (by simpa using hi)⟩
instance:Inhabited VD:=⟨⟨⟨#[]⟩,0,0⟩⟩
theorem zug{fuel:Nat}{cs:List Value}{x:DataW H×List MemPlace}(h:DataW.trod enc prog w 0 (fun _=>true) held fuel 24 cs=some x)(hw:∀q∈x.1.weights prog 24,q<=reachBytes) :
  ∃(A:Option Addr) (vs:List VD) (c:Nat),cs=[.slice A vs.length c]/\RowV w Any A vs/\vs.length<=4398046510976/\vs.length<=c:=by
 rcases ztn underlying24 zwG zKN h hw with rfl|⟨a,len,cap,rfl,hl,hcap,hat⟩
 ·exact⟨none,[],0,rfl,fun i hi=>absurd hi zS,yK _,yK _⟩
 ·obtain⟨vs,hvl,hvs⟩:=zpu (n:=len) (P:=fun i (v:VD)=>w.cells? 0 (a.add (i*3)) 3=some [.string v.s,zj v.k,zi v.n]/\FldV v) fun i hi=>by
   obtain⟨cs',y,n',hcs,ht,_⟩:=hat i hi;obtain⟨v,rfl,hf⟩:=zKb ht;exact⟨v,hcs,hf⟩
  refine⟨some a,vs,cap,by rw[hvl],fun i hi=>?_,by unfold reachBytes at hcap;omega,zO⟩;obtain⟨hc,hf⟩:=hvs i hi;obtain⟨_,_,hcell⟩:=World.cells?_some hc;refine⟨a,rfl,trivial,⟨?_,?_,?_⟩,hf⟩
  ·have:=hcell 0 zO;simpa[Addr.add]using this
  ·have:=hcell 1 zO;simpa[Addr.add]using this
  ·have:=hcell 2 zO;simpa[Addr.add]using this
theorem zro{fuel:Nat}{cs:List Value}{x:DataW H×List MemPlace}(h:DataW.trod enc prog w 0 (fun _=>true) held fuel 24 cs=some x)(hw:∀q∈x.1.weights prog 24,q<=reachBytes) :
  ∃(A:Option Addr) (vs:List VD) (c:Nat),cs=[.slice A vs.length c]/\RowV w Any A vs/\vs.length<=LV/\vs.length<=c:=by
 obtain⟨A,vs,c,h1,h2,h3,h4⟩:=zug h hw;exact⟨A,vs,c,h1,h2,by unfold LV;omega,h4⟩
instance:Inhabited T:=⟨zeroT'⟩
theorem zto{t:T}{u0 u1 u2 u3:Value}(h:NV w Any t (.agg #[u0,u1,u2,u3])):∃A c,u0=zj t.k/\u1=zi t.n/\u2=.string t.s/\u3=.slice A t.ks.length c/\NV w Any t (nv t.k t.n t.s A t.ks.length c):=by
 obtain⟨A,c,e,_⟩:=h.open_;have e':=e;simp only[nv,Value.agg.injEq,Array.mk.injEq,List.cons.injEq,and_true]at e;exact⟨A,c,e.1,e.2.1,e.2.2.1,e.2.2.2,e'▸h⟩
end
theorem zwH:prog.cellsOf 100=6:=zK
theorem zKO:prog.bytesOf 100=96:=zK
theorem zwI:prog.cellsOf 30=6:=zK
section
variable {H:Type} {enc:TypeId×Value->H} {w:World} {held:Bool}
instance:Inhabited PR:=⟨⟨⟨#[]⟩,[],zeroT'⟩⟩
theorem zvB{fuel:Nat}{cs:List Value}{x:DataW H×List MemPlace}(h:DataW.trod enc prog w 0 (fun _=>true) held fuel 100 cs=some x)(hw:∀q∈x.1.weights prog 100,q<=reachBytes) :
  ∃(r:PR) (A1:Option Addr) (c1:Nat) (A2:Option Addr) (c2:Nat),cs=[.string r.s,.slice A1 r.ps.length c1,zj r.b.k,zi r.b.n,.string r.b.s,.slice A2 r.b.ks.length c2]/\PrR w Any r A1 c1 A2 c2:=by
 have hts:=DataW.trod_struct underlying100 h;obtain⟨xs,n,hfu,hx,hcl,hxl,hg⟩:=hts;subst hx;rw[zwH]at hcl
 match cs,hcl with
 | [c0,c1,c2,c3,c4,c5],_ =>
 match xs,hxl with
 | [y0,y1,y2],_ =>
 have g0:=hg 0 _ rfl;have g1:=hg 1 _ rfl;have g2:=hg 2 _ rfl;have hw1:∀q∈y1.1.weights prog 24,q<=reachBytes:=fun q hq=>by
  refine hw q ?_;simp only[List.map_cons,List.map_nil,DataW.weights,underlying100];simp only[DataW.weightsEach,List.map_cons,List.map_nil,yW];exact .inr (.inl hq)
 have hw2:∀q∈y2.1.weights prog 28,q<=reachBytes:=fun q hq=>by
  refine hw q ?_;simp only[List.map_cons,List.map_nil,DataW.weights,underlying100];simp only[DataW.weightsEach,List.map_cons,List.map_nil,yW];exact .inr (.inr (.inl hq))
 obtain⟨s,e0,_,ws⟩:=DataW.trod_string underlying9 g0;obtain⟨A1,ps,k1,e1,hrow,hlp,hlc⟩:=zro g1 hw1;obtain⟨t,u0,u1,u2,u3,e2,hn,_,_⟩:=zrp _ _ _ g2 hw2;obtain⟨A2,k2,rfl,rfl,rfl,rfl,hn'⟩:=zto hn;injection e0 with e0;injection e1 with e1;change List.take (prog.cellsOf 28) [c2,c3,c4,c5]=_ at e2;rw[znY]at e2;simp only[List.take_succ_cons,List.take_zero,List.cons.injEq,and_true]at e2;obtain⟨rfl,rfl,rfl,rfl⟩:=e2;subst e0 e1;exact⟨⟨s,ps,t⟩,A1,k1,A2,k2,rfl,ws,hrow,hlp,hlc,hn'⟩
theorem zuh{fuel:Nat}{cs:List Value}{x:DataW H×List MemPlace}(h:DataW.trod enc prog w 0 (fun _=>true) held fuel 25 cs=some x)(hw:∀q∈x.1.weights prog 25,q<=reachBytes) :
  ∃(A:Option Addr) (ps:List PR) (c:Nat),cs=[.slice A ps.length c]/\RowP w Any A ps/\ps.length<=LV/\ps.length<=c:=by
 rcases ztn underlying25 zwH zKO h hw with rfl|⟨a,len,cap,rfl,hl,hcap,hat⟩
 ·exact⟨none,[],0,rfl,fun i hi=>absurd hi zS,yK _,yK _⟩
 ·obtain⟨ps,hvl,hvs⟩:=zpu (n:=len) (P:=fun i (r:PR)=>∃A1 c1 A2 c2,w.cells? 0 (a.add (i*6)) 6=some [.string r.s,.slice A1 r.ps.length c1,zj r.b.k,zi r.b.n,.string r.b.s,.slice A2 r.b.ks.length c2]/\PrR w Any r A1 c1 A2 c2) fun i hi=>by
   obtain⟨cs',y,n',hcs,ht,wF⟩:=hat i hi;obtain⟨r,A1,c1,A2,c2,rfl,hr⟩:=zvB ht wF;exact⟨r,A1,c1,A2,c2,hcs,hr⟩
  refine⟨some a,ps,cap,by rw[hvl],fun i hi=>?_,by unfold LV;unfold reachBytes at hcap;omega,zO⟩;obtain⟨A1,c1,A2,c2,hc,hr⟩:=hvs i hi;obtain⟨_,_,hcell⟩:=World.cells?_some hc;refine⟨a,A1,c1,A2,c2,rfl,trivial,⟨?_,?_,?_,?_,?_,?_⟩,hr⟩
  ·have:=hcell 0 zO;simpa[Addr.add]using this
  ·have:=hcell 1 zO;simpa[Addr.add]using this
  ·have:=hcell 2 zO;simpa[Addr.add]using this
  ·have:=hcell 3 zO;simpa[Addr.add]using this
  ·have:=hcell 4 zO;simpa[Addr.add]using this
  ·have:=hcell 5 zO;simpa[Addr.add]using this
theorem zvA{fuel:Nat}{cs:List Value}{x:DataW H×List MemPlace}(h:DataW.trod enc prog w 0 (fun _=>true) held fuel 30 cs=some x)(hw:∀q∈x.1.weights prog 30,q<=reachBytes) :
  ∃(p:PG) (A1:Option Addr) (c1:Nat) (A2:Option Addr) (c2:Nat) (A3:Option Addr) (c3:Nat),cs=[.slice A1 p.vs.length c1,.slice A2 p.prs.length c2,zj p.m.k,zi p.m.n,.string p.m.s,.slice A3 p.m.ks.length c3]/\PgR w Any p A1 c1 A2 c2 A3 c3:=by
 have hts:=DataW.trod_struct underlying30 h;obtain⟨xs,n,hfu,hx,hcl,hxl,hg⟩:=hts;subst hx;rw[zwI]at hcl
 match cs,hcl with
 | [c0,c1,c2,c3,c4,c5],_ =>
 match xs,hxl with
 | [y0,y1,y2],_ =>
 have g0:=hg 0 _ rfl;have g1:=hg 1 _ rfl;have g2:=hg 2 _ rfl;have hw0:∀q∈y0.1.weights prog 24,q<=reachBytes:=fun q hq=>by
  refine hw q ?_;simp only[List.map_cons,List.map_nil,DataW.weights,underlying30];simp only[DataW.weightsEach,List.map_cons,List.map_nil,yW];exact .inl hq
 have hw1:∀q∈y1.1.weights prog 25,q<=reachBytes:=fun q hq=>by
  refine hw q ?_;simp only[List.map_cons,List.map_nil,DataW.weights,underlying30];simp only[DataW.weightsEach,List.map_cons,List.map_nil,yW];exact .inr (.inl hq)
 have hw2:∀q∈y2.1.weights prog 28,q<=reachBytes:=fun q hq=>by
  refine hw q ?_;simp only[List.map_cons,List.map_nil,DataW.weights,underlying30];simp only[DataW.weightsEach,List.map_cons,List.map_nil,yW];exact .inr (.inr (.inl hq))
 obtain⟨A1,vs,k1,e0,hrow,hlv,hlvc⟩:=zro g0 hw0;obtain⟨A2,ps,k2,e1,wK,hlp,hlpc⟩:=zuh g1 hw1;obtain⟨t,u0,u1,u2,u3,e2,hn,_,_⟩:=zrp _ _ _ g2 hw2;obtain⟨A3,k3,rfl,rfl,rfl,rfl,hn'⟩:=zto hn;injection e0 with e0;injection e1 with e1;change List.take (prog.cellsOf 28) [c2,c3,c4,c5]=_ at e2;rw[znY]at e2;simp only[List.take_succ_cons,List.take_zero,List.cons.injEq,and_true]at e2;obtain⟨rfl,rfl,rfl,rfl⟩:=e2;subst e0 e1;exact⟨⟨vs,ps,t⟩,A1,k1,A2,k2,A3,k3,rfl,hrow,hlv,hlvc,wK,hlp,hlpc,hn'⟩
end
theorem ztT:prog.cellsOf 23=3:=zK
theorem zKM:prog.cellsOf 32=12:=zK
section
variable {H:Type} {enc:TypeId×Value->H} {w:World} {held:Bool}
theorem zvC{fuel:Nat}{cs:List Value}{x:DataW H×List MemPlace}(h:DataW.trod enc prog w 0 (fun _=>true) held fuel 23 cs=some x) :
  ∃b:BX,cs=[zi b.v,zi b.l,zi b.i]:=by
 have hts:=DataW.trod_struct underlying23 h;obtain⟨xs,n,hfu,hx,hcl,hxl,hg⟩:=hts;rw[ztT]at hcl
 match cs,hcl with
 | [c0,c1,c2],_ =>
 match xs,hxl with
 | [y0,y1,y2],_ =>
 obtain⟨m0,e0,_,w0⟩:=DataW.trod_int underlying3 (hg 0 _ rfl);obtain⟨m1,e1,_,w1⟩:=DataW.trod_int underlying3 (hg 1 _ rfl);obtain⟨m2,e2,_,w2⟩:=DataW.trod_int underlying3 (hg 2 _ rfl);injection e0 with e0;injection e1 with e1;injection e2 with e2;subst e0 e1 e2;exact⟨⟨m0,m1,m2⟩,rfl⟩
theorem zKc{fuel:Nat}{cs:List Value}{x:DataW H×List MemPlace}(h:DataW.trod enc prog w 0 (fun _=>true) held fuel 32 cs=some x)(hw:∀q∈x.1.weights prog 32,q<=reachBytes) :
  ∃(e:EX) (A1:Option Addr) (c1:Nat) (A2:Option Addr) (c2:Nat) (A3:Option Addr) (c3:Nat),cs=(exA e A1 c1 A2 c2 A3 c3).toList/\PgR w Any e.gv A1 c1 A2 c2 A3 c3/\I64 e.fu:=by
 have hts:=DataW.trod_struct underlying32 h;obtain⟨xs,n,hfu,hx,hcl,hxl,hg⟩:=hts;subst hx;rw[zKM]at hcl
 match cs,hcl with
 | [c0,c1,c2,c3,c4,c5,c6,c7,c8,c9,c10,c11],_ =>
 match xs,hxl with
 | [y0,y1,y2,y3,y4],_ =>
 have g0:=hg 0 _ rfl;have g1:=hg 1 _ rfl;have g2:=hg 2 _ rfl;have g3:=hg 3 _ rfl;have g4:=hg 4 _ rfl;have hw4:∀q∈y4.1.weights prog 30,q<=reachBytes:=fun q hq=>by
  refine hw q ?_;simp only[List.map_cons,List.map_nil,DataW.weights,underlying32];simp only[DataW.weightsEach,List.map_cons,List.map_nil,yW];exact .inr (.inr (.inr (.inr (.inl hq))))
 obtain⟨s,e0,_,ws⟩:=DataW.trod_string underlying9 g0;obtain⟨m1,e1,_,w1⟩:=DataW.trod_int underlying3 g1;obtain⟨m2,e2,_,w2⟩:=DataW.trod_int underlying3 g2;obtain⟨b,e3⟩:=zvC g3;obtain⟨p,A1,k1,A2,k2,A3,k3,e4,hr⟩:=zvA g4 hw4;injection e0 with e0;injection e1 with e1;injection e2 with e2;change List.take (prog.cellsOf 23) [c3,c4,c5,c6,c7,c8,c9,c10,c11]=_ at e3;rw[ztT]at e3;change List.take (prog.cellsOf 30) [c6,c7,c8,c9,c10,c11]=_ at e4;rw[zwI]at e4;simp only[List.take_succ_cons,List.take_zero,List.cons.injEq,and_true]at e3 e4;obtain⟨rfl,rfl,rfl⟩:=e3;obtain⟨rfl,rfl,rfl,rfl,rfl,rfl⟩:=e4;subst e0 e1 e2;simp[Lit.wf,IntKind.min,IntKind.max,IntKind.signed,IntKind.bits]at w1 w2;exact⟨⟨s,m1,m2,b,p⟩,A1,k1,A2,k2,A3,k3,rfl,hr,⟨by simp only;omega,by simp only;omega⟩⟩
end
theorem zMt{H:Type}{enc:TypeId×Value->H}{W:World}{base:Nat}{v:Value}{d:DataW H}{p:List MemPlace}(hok:Value.okWide prog W .any base 32 v)
  (h:DataW.Trod enc prog W 0 (fun _=>true) true 32 v d p)(hw:∀n∈d.weights prog 32,n<=reachBytes):∃e,EV W Any e v:=by
 obtain⟨cs,rfl,hcs⟩:=okWide_struct underlying32 hok;obtain⟨fuel,hf⟩:=h;obtain⟨g,A1,c1,A2,c2,A3,c3,e,hr,hI⟩:=zKc hf hw;refine⟨g,A1,c1,A2,c2,A3,c3,?_,hr,hI⟩;have:cs=exA g A1 c1 A2 c2 A3 c3:=by
  apply Array.ext';simpa[Value.cells]using e
 rw[this]
end
end Go.Proofs.YthjinpodhacleaaGreat
