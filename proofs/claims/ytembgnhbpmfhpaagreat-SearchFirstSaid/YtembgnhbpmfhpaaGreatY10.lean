/-
  Texts of the proof, put together without their remarks: Gf, Nz, Ib, If, Lfp, Lap, Spg, Lau, Wgo, Ssp, Sfi, Fw, Ig, Eqv, Wfp, Rxp, Pvl, Sfa, Sff, Sfn.
-/
import Derived.Test.YtembgnhbpmfhpaaGreatY9
set_option linter.unusedSimpArgs false
set_option linter.unusedVariables false
set_option maxHeartbeats 8000000
set_option maxRecDepth 100000
namespace Go.Proofs.YtembgnhbpmfhpaaGreat
open Tryz
section
open Go Go.RowKit
theorem ztU:∀(prs:List PR) (s:ByteArray),prcI prs s=idxP prs s
 | [],_=>rfl
 | q::qs,s=>by
  unfold prcI;rw[ztU qs s];unfold idxP;rw[List.findIdx?_cons]
def CalB(prs:List PR)(t:T):Prop:=∀u∈po t,(u.k=50\/u.k=51)->∃i,prcI prs u.s=some i
theorem zyy:∀(t:T),isE t=true->∀x∈po t,isE x=true:=by
 intro t
 induction t using T.ind with
 | _ k n s ks ih =>
  intro h x hx;simp only[po,List.mem_cons]at hx;rcases hx with rfl|hx
  ·exact h
  ·obtain⟨t,ht,hx⟩:=zmZ.1 hx;exact ih t ht (zwy h t ht) x hx
theorem CalB.expr{prs:List PR}{t:T}(h:isE t=true):CalB prs t:=fun u hu hk=>by
 have:=zwz u (zyy t h u hu);omega
theorem CalB.kid{prs:List PR}{k n:Int}{s:ByteArray}{ks:List T}(h:CalB prs (.nd k n s ks)){t:T}(ht:t∈ks):CalB prs t:=fun u hu=>h u (by simp only[po,List.mem_cons];exact .inr (zmZ.2 ⟨t,ht,hu⟩))
theorem zoC{prs:List PR}{k:Int}{s:ByteArray}{vs:List VD}:∀ {ks:List T} {i:Nat},cntK prs k s i ks vs=0->∀t∈ks,∃vs',cntV prs t vs'=0
 | [],_,_,t,ht=>by cases ht
 | u::us,i,h,t,ht=>by
  rw[cntK]at h;obtain⟨h1,h2⟩:=Nat.add_eq_zero_iff.1 h;rcases List.mem_cons.1 ht with rfl|ht
  ·exact⟨_,h1⟩
  ·exact zoC h2 t ht
theorem zt2{e:Int}(h:one1 e=0):e=0:=by
 unfold one1 at h
 split at h
 ·assumption
 ·omega
theorem zxT:∀(t:T) (prs:List PR) (vs:List VD),(isS t=true\/isB t=true\/isE t=true)->cntV prs t vs=0->CalB prs t:=by
 intro t
 induction t using T.ind with
 | _ k n s ks ih =>
  intro prs vs ht h;rcases ht with hs|hb|he
  ·rw[cntV]at h;intro u hu hk;simp only[po,List.mem_cons]at hu;by_cases hc:k=50\/k=51
   ·rcases hu with rfl|hu
    ·have h0:=zt2 (e:=zlt prs k s ks.length vs) (by omega);unfold zlt at h0;rw[if_neg (by omega),if_neg (by omega),if_neg (by omega),if_neg (by omega),if_pos hc]at h0;rw[ztU]
     cases hi:idxP prs s with
     | none=>rw[hi]at h0;simp at h0
     | some i=>exact⟨i,hi⟩
    ·obtain⟨t,ht,hx⟩:=zmZ.1 hu;have h57:t.k≠57:=by
      rcases znb hs with⟨_,h1⟩|⟨h1,_⟩|⟨h1,_⟩|⟨h1,_⟩
      ·exact h1 t ht
      all_goals omega
     rcases(zxK hs).2 t ht with h1|h1
     ·exact CalB.expr h1 u hx hk
     ·exact absurd (zKD h1) h57
   ·rw[if_neg hc]at h;rcases hu with rfl|hu
    ·exact absurd hk hc
    ·obtain⟨t,ht,hx⟩:=zmZ.1 hu;obtain⟨vs',hv⟩:=zoC (Nat.add_eq_zero_iff.1 h).2 t ht;rcases(zxK hs).2 t ht with h1|h1
     ·exact CalB.expr h1 u hx hk
     ·exact ih t ht prs vs' (.inr (.inl h1)) hv u hx hk
  ·obtain⟨h57,hks⟩:=zsl _ _ _ _ hb;rw[cntV,if_neg (by omega)]at h;intro u hu hk;simp only[po,List.mem_cons]at hu;rcases hu with rfl|hu
   ·simp only[T.k_nd]at hk;omega
   ·obtain⟨t,ht,hx⟩:=zmZ.1 hu;obtain⟨vs',hv⟩:=zoC (Nat.add_eq_zero_iff.1 h).2 t ht;exact ih t ht prs vs' (.inl (hks t ht)) hv u hx hk
  ·exact CalB.expr he
def GP(prs:List PR)(t:T):Prop:=isS t=true/\CalB prs t/\∀q∈prs,isB q.b=true/\CalB prs q.b
theorem GP.block{prs:List PR}{b:T}(hb:isB b=true)(hc:CalB prs b)(hq:∀q∈prs,isB q.b=true/\CalB prs q.b):∀u∈b.ks,GP prs u:=by
 obtain⟨k,n,s,ks⟩:=b;exact fun u hu=>⟨(zsl _ _ _ _ hb).2 u hu,hc.kid hu,hq⟩
theorem zKe:GC GP where
 two:=fun prs t h hk=>by
  obtain⟨k,n,s,ks⟩:=t;obtain⟨hs,hc,hq⟩:=h;simp only[T.k_nd]at hk;rcases znb hs with⟨h1,_⟩|⟨_,_,a,b,c,d,rfl,_,hb1,hb2,_⟩|⟨h1,_⟩|⟨h1,_⟩
  ·omega
  ·exact⟨rfl,GP.block hb1 (hc.kid (t:=b) (by simp)) hq,GP.block hb2 (hc.kid (t:=c) (by simp)) hq⟩
  ·omega
  ·omega
 loc:=fun prs t h hk=>by
  obtain⟨k,n,s,ks⟩:=t;obtain⟨hs,hc,hq⟩:=h;simp only[T.k_nd]at hk;rcases znb hs with⟨h1,_⟩|⟨h1,_⟩|⟨_,_,a,b,c,rfl,_,hb1,_⟩|⟨h1,_⟩
  ·omega
  ·omega
  ·exact⟨rfl,GP.block hb1 (hc.kid (t:=b) (by simp)) hq⟩
  ·omega
 stk:=fun prs t h hk=>by
  obtain⟨k,n,s,ks⟩:=t;obtain⟨hs,hc,hq⟩:=h;simp only[T.k_nd]at hk;rcases znb hs with⟨h1,_⟩|⟨h1,_⟩|⟨h1,_⟩|⟨_,_,b,rfl,hb1⟩
  ·omega
  ·omega
  ·omega
  ·exact⟨rfl,GP.block hb1 (hc.kid (t:=b) (by simp)) hq⟩
 cal:=fun prs t h hk=>by
  obtain⟨hs,hc,hq⟩:=h;have hm:t∈po t:=by obtain⟨k,n,s,ks⟩:=t;simp[po]
  obtain⟨i,hi⟩:=hc t hm hk;obtain⟨-,hl⟩:=zpD _ _ _ hi;exact⟨i,prs[i],hi,List.getElem?_eq_getElem hl,GP.block (hq _ (List.getElem_mem hl)).1 (hq _ (List.getElem_mem hl)).2 hq⟩
theorem zqs{ps:List PR}:∀ {j:Nat},j<=ps.length->prcN ps j=0->∀i (h:i<ps.length),i<j->prcE ps i ps[i]=0
 | 0,_,_,i,_,hi=>by omega
 | j+1,hj,h,i,hl,hi=>by
  rw[zoj (by omega)]at h;by_cases e:i=j
  ·subst e;omega
  ·exact zqs (j:=j) (by omega) (by omega) i hl (by omega)
theorem ztx{p:PG}(h:zlk p=true):isB p.m=true/\∀r∈p.prs,isB r.b=true:=by
 simp only[zlk,Bool.and_eq_true,decide_eq_true_eq,List.all_eq_true]at h;refine⟨?_,fun r hr=>?_⟩
 ·have:=h.2;simp only[zlG,Bool.and_eq_true]at this;exact this.2
 ·have:=h.1.2 r hr;simp only[zoK,zlG,Bool.and_eq_true]at this;exact this.2.2
theorem zvD{p:PG}(hv:zlk p=true)(hc:chkN p=0):∀u∈p.m.ks,GP p.prs u:=by
 obtain⟨h1,h2⟩:=ztx hv;unfold chkN at hc;refine GP.block h1 (zxT _ _ p.vs (.inr (.inl h1)) (by omega)) fun q hq=>⟨h2 q hq,?_⟩
 obtain⟨i,hi,rfl⟩:=List.getElem_of_mem hq;have:=zqs zl (show prcN p.prs p.prs.length=0 by omega) i hi hi;unfold prcE at this;exact zxT _ _ _ (.inr (.inl (h2 _ hq))) (show cntV p.prs p.prs[i].b p.prs[i].ps=0 by omega)
theorem zzG(M a b r s g:Nat)(h1:a<=b)(h2:s<=r)(hg:b*M+r<=g):a*M+s<=g:=by have:=Nat.mul_le_mul_right M h1;omega
theorem zv6{p:PG}{F:Int}{g:Nat}(hv:zlk p=true)(hg:F.toNat*2000+2000<=g)(back:Bool)(S:ST)(e:List Nat):Good 0 (runO p.prs F g back p.m ⟨S,0,e⟩):=by
 obtain⟨_,_,h3,_,h5⟩:=zmo hv;refine zlL _ _ fun u hu r hr=>zl9 (M:=2000) (fun q hq=>(h3 q hq).2.2) (by omega) g back u r ?_;have h6:=zpK (zlK hu);exact zzG 2000 (F.toNat-r.n) F.toNat 2000 _ g (by omega) (by omega) hg
def Nz(o:Out):Prop:=o ≠ .err 0
theorem Nz.bind{o:Out}{f:RS->Out}(h:Nz o)(hf:∀r,Nz (f r)):Nz (o.bind f):=by
 cases o with
 | gas=>exact fun e=>by cases e
 | err x=>exact h
 | ok r=>exact hf r
theorem Nz.ok(r:RS):Nz (.ok r):=fun e=>by cases e
theorem Nz.gas:Nz .gas:=fun e=>by cases e
theorem Nz.step(F:Int)(r:RS):Nz (zkE F r):=by
 unfold zkE
 split
 ·intro e;injection e with e;omega
 ·exact Nz.ok _
theorem Nz.store(r:RS)(R:Int×ST):Nz (zkl r R):=by
 unfold zkl
 split
 ·rename_i h;intro e;injection e with e;exact h e
 ·exact Nz.ok _
theorem Nz.val{t:T}{r:RS}{f:Int->RS->Out}(hf:∀x,Nz (f x r)):Nz (valO t r f):=by
 unfold valO
 split
 ·rename_i h;intro e;injection e with e;exact h e
 ·exact hf _
theorem Nz.holds{F:Int}{t:T}{r:RS}{f:Bool->RS->Out}(hf:∀b r,Nz (f b r)):Nz (zli F t r f):=(Nz.step F r).bind fun r=>Nz.val fun x=>hf _ _
theorem Nz.assert(F:Int)(t:T)(b:Bool)(r:RS):Nz (zkv F t b r):=Nz.holds fun b' r=>by
 split
 ·exact Nz.ok _
 ·intro e;injection e with e;omega
theorem Nz.body{f:T->RS->Out}:∀(l:List T) (r:RS),(∀t∈l,∀r,Nz (f t r))->Nz (zlb f l r)
 | [],r,_=>Nz.ok r
 | t::ts,r,h=>(h t (List.mem_cons_self ..) r).bind fun r=>Nz.body ts r fun u hu=>h u (List.mem_cons_of_mem _ hu)
theorem Nz.loop{F:Int}{f:T->RS->Out}{entry test:T}{l1 l2:List T}(h1:∀t∈l1,∀r,Nz (f t r))(h2:∀t∈l2,∀r,Nz (f t r)):∀(m:Nat) (r:RS),Nz (zl7 F f entry test l1 l2 m r)
 | 0,_=>Nz.gas
 | m+1,r=>by
  rw[zl7];refine(Nz.body l1 r h1).bind fun r=>Nz.holds fun b r=>?_
  split
  ·exact Nz.ok _
  ·exact(Nz.body l2 r h2).bind fun r=>(Nz.assert F entry false r).bind fun r=>Nz.loop h1 h2 m r
theorem zn2{G:List PR->T->Prop}(hG:GC G){prs:List PR}{F:Int}:∀(g:Nat) (back:Bool) (t:T) (r:RS),G prs t->Nz (zkB prs F g back t r)
 | 0,_,_,_,_=>Nz.gas
 | g+1,back,t,r,h=>by
  have hb:∀back (b:T) r,(∀u∈b.ks,G prs u)->Nz (zlb (zkB prs F g back) (blkL back b) r):=fun back b r hu=>Nz.body _ r fun u hm r=>zn2 hG g back u r (hu u (zlK hm));rw[zkB]
  split
  ·rename_i hk;obtain⟨-,h1,h2⟩:=hG.two _ _ h (.inl hk);refine Nz.holds fun yes r=>Nz.bind ?_ fun r=>Nz.assert _ _ _ _
   split
   ·exact hb _ _ _ h1
   ·exact hb _ _ _ h2
  ·split
   ·rename_i hk;obtain⟨-,h1,h2⟩:=hG.two _ _ h (.inr hk);exact(Nz.assert _ _ _ _).bind fun r=>Nz.loop (fun u hm r=>zn2 hG g back u r (h1 u (zlK hm))) (fun u hm r=>zn2 hG g back u r (h2 u (zlK hm))) g r
   ·split
    ·rename_i hk;obtain⟨-,h1⟩:=hG.loc _ _ h hk;exact(Nz.step _ _).bind fun r=>Nz.val fun x=>(Nz.store _ _).bind fun r=>(hb _ _ _ h1).bind fun r=>(Nz.step _ _).bind fun r=>Nz.val fun x=>Nz.store _ _
    ·split
     ·rename_i hk;obtain⟨-,h1⟩:=hG.stk _ _ h hk;exact(Nz.step _ _).bind fun r=>(Nz.store _ _).bind fun r=>(hb _ _ _ h1).bind fun r=>(Nz.step _ _).bind fun r=>Nz.store _ _
     ·split
      ·rename_i hk;obtain⟨i,q,hi,hq,h1⟩:=hG.cal _ _ h hk;rw[hi];dsimp only;rw[getD_some hq];exact(Nz.step _ _).bind fun r=>(Nz.store _ _).bind fun r=>(hb _ _ _ h1).bind fun r=>(Nz.step _ _).bind fun r=>Nz.store _ _
      ·exact(Nz.step _ _).bind fun r=>Nz.store _ _
theorem zyi{G:List PR->T->Prop}(hG:GC G){prs:List PR}{F:Int}{g:Nat}{back:Bool}{b:T}{r:RS}(h:∀u∈b.ks,G prs u):Nz (runO prs F g back b r):=Nz.body _ r fun u hm r=>zn2 hG g back u r (h u (zlK hm))
theorem RI.chgK{C:RC}{lo hi:Nat}{W W':World}{r:RS}(hC:(C.plus lo hi).Ok)(h:RI (C.plus lo hi) W r)(hc:Chg (fun b=>lo<=b/\b<hi) W W')(hlo:C.w.heap.size<=lo):RI (C.plus lo hi) W' r:=by
 have hkb:∀b,lo<=b/\b<hi->(C.plus lo hi).kb b:=fun b hb=>.inr hb;refine⟨h.ks.chg hc fun b _ hb=>⟨Nat.le_trans hlo hb.1,.inr (.inl (hkb b hb))⟩,hc.keep h.box fun hb=>hC.rb.2 (hkb _ hb),zme h.ent fun b hb=>?_,h.el,h.en,h.n,h.fb⟩;exact hc.block b (h.ent.lt b hb).2 fun hb'=>hC.ev.2 b hb (hkb _ hb')
def Fam(p:PG):Prop:=∃G:List PR->T->Prop,(∀g,IStC G g)/\(zlk p=true->chkN p=0->(∀u∈p.m.ks,G p.prs u)/\∀(F:Int) (g:Nat) (back:Bool) (r:RS),Nz (runO p.prs F g back p.m r))
theorem zyR(p:PG):Fam p:=⟨GP,zrP zKe,fun hv hc=>⟨zvD hv hc,fun _ _ _ _=>zyi zKe (zvD hv hc)⟩⟩
theorem zsI{G:List PR->T->Prop}(hS:∀g,IStC G g){C:RC}(hC:C.Ok){W:World}{r:RS}(h:RI C W r)(hG:∀u∈C.p.m.ks,G C.p.prs u)(g:Nat)(back:Bool)(hg:runO C.p.prs C.F g back C.p.m r ≠ .gas)(pb qb bb:Nat)
  (h0:W.cell? ⟨pb,0,none⟩=some (.pointer (some ⟨C.rb,0,none⟩)))(hq:W.heap[qb]?=some (.cells #[.slice C.A1 C.p.vs.length C.c1,.slice C.A2 C.p.prs.length C.c2,.int .u8 C.p.m.k,.int .i64 C.p.m.n,.string C.p.m.s,.slice C.A3 C.p.m.ks.length C.c3] 43 (0,0)))(hb:W.cell? ⟨bb,0,none⟩=some (.bool back)) :
  Calls prog 100 #[.pointer (some ⟨pb,0,none⟩),.pointer (some ⟨qb,0,none⟩),.pointer (some ⟨bb,0,none⟩)] W (RunP C W (runO C.p.prs C.F g back C.p.m r)):=by
 have aC:=zh (zlh (hS g) hC h C.p.m _ back hC.pg.main hG hg);have q2:W.cell? ⟨qb,2,none⟩=some (.int .u8 C.p.m.k):=zc hq rfl;have q3:W.cell? ⟨qb,3,none⟩=some (.int .i64 C.p.m.n):=zc hq rfl;have q4:W.cell? ⟨qb,4,none⟩=some (.string C.p.m.s):=zc hq rfl;have q5:W.cell? ⟨qb,5,none⟩=some (.slice C.A3 C.p.m.ks.length C.c3):=zc hq rfl;obtain⟨o,ho⟩:=zX (runO C.p.prs C.F g back C.p.m r);rw[ho]at aC hg ⊢;clear hC h hG hq ho;go_enter func100,ntmps100;go_wp2_with fail;refine aC.out.mono ?_;rintro e w1 ⟨hk1,hb1,ho1⟩
 cases o with
 | gas=>exact absurd rfl hg
 | err x =>
  subst ho1;exact⟨rfl,hk1,hb1,rfl⟩
 | ok r1 =>
  obtain⟨⟨u,rfl⟩,hr1⟩:=ho1;have HR:=zh hr1;have aB:=zh hk1;have HB1:=zh hb1;clear h0 q2 q3 q4 q5 hb hr1 hk1 hb1;go_wp2_with fail;go_end0;exact⟨aB.out,HB1.out,⟨_,rfl⟩,HR.out⟩
def outR(s:SS):Out->SS×Nat×Int×List Nat
 | .ok r=>(r.S.state,r.n,0,r.ent)
 | .err e=>(s,0,e,[])
 | .gas=>(s,0,0,[])
def resO(p:PG)(s:SS)(F:Int)(g:Nat)(back:Bool):SS×Nat×Int×List Nat :=
 if zlk p=false\/chkN p≠0 then(s,0,3,[])else if fitB p.vs s=false then(s,0,20,[])else outR s (runO p.prs F g back p.m ⟨newS p.vs s,0,List.replicate p.prs.length 0⟩)
def LimR(R:SS×Nat×Int×List Nat):Prop:=R.1.Lim/\(R.2.2.1=0->R.1.cells.length<=1000+R.2.1/\(∀l∈R.1.cells,l.length<=1000)/\R.1.tin.length<=4096/\R.1.tout.length<=4096)
theorem LimR.run{r:RS}(h:r.S.WF)(hf:FB r.n r.S)(e:List Nat):LimR (r.S.state,r.n,0,e):=by
 obtain⟨-,h1,h2⟩:=ztF h;obtain⟨kd,hb,-⟩:=h.ex;refine⟨h1,fun _=>⟨?_,h2,h.tin.1,h.tout.1⟩⟩;have:=hb.len;have:=hf.1;simp only[ST.state,List.length_map,List.length_take];omega
def ResP(W:World)(R:SS×Nat×Int×List Nat)(e:Ending)(W':World):Prop:=∃A c v1 v2 v3,e=.returned (.tuple #[.slice A R.2.2.2.length c,.agg #[v1,v2,v3,.int .i64 (R.2.1:Int),.int .i64 R.2.2.1]]) /\
 OwnS W' W.heap.size R.1 (.agg #[v1,v2,v3])/\RowI W' (fun b=>W.heap.size<=b) A (R.2.2.2.map Int.ofNat)/\R.2.2.2.length<=c/\Below W.heap.size W W'/\LimR R
theorem OwnS.slices{W:World}{n0:Nat}{s:SS}{v:Value}(h:OwnS W n0 s v):∃A c B d D e,v=.agg #[.slice A s.cells.length c,.slice B s.tin.length d,.slice D s.tout.length e]:=by
 obtain⟨vc,vi,vo,fc,rfl,hr,-⟩:=h;obtain⟨A,c,e1,-⟩:=zkd (hr.row .all);obtain⟨B,d,e2,-⟩:=zkd (hr.row .inp);obtain⟨D,e,e3,-⟩:=zkd (hr.row .out);change vc=.slice A s.cells.length c at e1;change vi=.slice B s.tin.length d at e2;change vo=.slice D s.tout.length e at e3;exact⟨A,c,B,d,D,e,by rw[e1,e2,e3]⟩
theorem OwnS.chg{W W':World}{n0:Nat}{s:SS}{v:Value}{Cc:Nat->Prop}(h:OwnS W n0 s v)(hc:Chg Cc W W')(hC:∀b,Cc b->b<n0):OwnS W' n0 s v:=by
 obtain⟨vc,vi,vo,fc,rfl,hr,hi⟩:=h;exact⟨vc,vi,vo,fc,rfl,hr.chg hc fun i b hb hcb=>by have:=(hr.lt i b hb).1;have:=hC b hcb;omega,hi⟩
theorem OwnS.lower{W:World}{n0 n1:Nat}{s:SS}{v:Value}(h:OwnS W n1 s v)(hn:n0<=n1):OwnS W n0 s v:=by
 obtain⟨vc,vi,vo,fc,rfl,hr,hi⟩:=h;exact⟨vc,vi,vo,fc,rfl,hr.mono hn,hi⟩
theorem set5{W:World}{b:Nat}{x0 x1 x2 x3 x4 u0 u1 u2 u3 u4:Value}{E:TypeId}(h:W.heap[b]?=some (.cells #[x0,x1,x2,x3,x4] E (0,0))) :
  (((((W.setCell ⟨b,0,none⟩ u0).setCell ⟨b,1,none⟩ u1).setCell ⟨b,2,none⟩ u2).setCell ⟨b,3,none⟩ u3).setCell ⟨b,4,none⟩ u4).heap[b]?=some (.cells #[u0,u1,u2,u3,u4] E (0,0)) /\
   Chg (fun q=>q=b) W (((((W.setCell ⟨b,0,none⟩ u0).setCell ⟨b,1,none⟩ u1).setCell ⟨b,2,none⟩ u2).setCell ⟨b,3,none⟩ u3).setCell ⟨b,4,none⟩ u4):=by
 refine⟨?_,(((((Chg.refl (fun q=>q=b) W).setCell (p:=⟨b,0,none⟩) (.inl rfl) _).setCell (p:=⟨b,1,none⟩) (.inl rfl) _).setCell (p:=⟨b,2,none⟩) (.inl rfl) _).setCell (p:=⟨b,3,none⟩) (.inl rfl) _).setCell (p:=⟨b,4,none⟩) (.inl rfl) _⟩;rw[heap_setCell_same _ b 4 _ _ u4 (heap_setCell_same _ b 3 _ _ u3 (heap_setCell_same _ b 2 _ _ u2 (heap_setCell_same _ b 1 _ _ u1 (heap_setCell_same W b 0 _ _ u0 h))))];simp
theorem bRes(A B D:Option Addr)(l c m d n e:Nat)(x:Int)(w:World):(Instr.build 59 #[(0,.agg #[.slice A l c,.slice B m d,.slice D n e]),(2,.int .i64 x)]).run prog w=.ok (.agg #[.slice A l c,.slice B m d,.slice D n e,.int .i64 0,.int .i64 x]) w:=by kernel_rfl
theorem zKK(A B D:Option Addr)(l c m d n e:Nat)(x:Int)(w:World):(Instr.build 59 #[(0,.agg #[.slice A l c,.slice B m d,.slice D n e]),(1,.int .i64 x)]).run prog w=.ok (.agg #[.slice A l c,.slice B m d,.slice D n e,.int .i64 x,.int .i64 0]) w:=by kernel_rfl
theorem zt7(n:Nat):madeCells (Value.int .i64 0).cells (n*1)=(zkg (List.replicate n 0)).toArray:=by
 apply Array.ext';apply List.ext_getElem
 ·rw[Array.length_toList,size_madeCells];simp[zkg]
 ·intro i h1 h2;have e:i % 1=0:=by omega
  simp[madeCells,zkg,Value.cells,e]
theorem zKL(n:Nat)(hn:n<=4096)(w:World):(Instr.makeSlice 30 (.int .i64 (n:Int)) (.int .i64 (n:Int))).run prog w=.ok (.slice (some ⟨w.heap.size,0,none⟩) n n) (w.alloc (.cells (zkg (List.replicate n 0)).toArray 3)):=by
 have h:=zlO;obtain⟨i,hi,hz⟩:=Option.map_eq_some_iff.1 h;injection hz with h1 h2;injection h2 with h2 h3;have hsc:(4096:Nat)<=9223372036854775807:=by decide
 have:=zll (P:=prog) 30 3 i (.int .i64 0) underlying30 hi h1 .i64 .i64 n n zl (by rw[h3];omega) (Nat.le_trans hn hsc) w;rw[h2,zt7]at this;exact this
theorem bRun(A1 A2 A3 E:Option Addr)(l1 c1 l2 c2 l3 c3 m d:Nat)(k n F:Int)(s:ByteArray)(sb:Nat)(w:World):(Instr.build 147 #[(0,pv A1 l1 c1 A2 l2 c2 k n s A3 l3 c3),(1,.pointer (some ⟨sb,0,none⟩)),(3,.int .i64 F),(4,.slice E m d)]).run prog w =
  .ok (.agg #[.slice A1 l1 c1,.slice A2 l2 c2,.int .u8 k,.int .i64 n,.string s,.slice A3 l3 c3,.pointer (some ⟨sb,0,none⟩),.int .i64 0,.int .i64 F,.slice E m d]) w:=by kernel_rfl
theorem zu4{W:World}{a b:Nat}{x y:Array Value}{E F:TypeId}(ha:W.heap[a]?=some (.cells x E (0,0)))(hb:W.heap[b]?=some (.cells y F (0,0)))(hne:E≠F):a≠b:=by
 rintro rfl;rw[ha]at hb;injection hb with hb;injection hb with h1 h2;exact hne h2
theorem zqO{W w4 w8 aO:World}{n0:Nat}{kb:Nat->Prop}(h4:Below W.heap.size W w4)(h11:Below W.heap.size W aO)(h48:Below w4.heap.size w4 w8)(hk:Kpt n0 kb w8 aO)(hn:w4.heap.size<=n0):Below w4.heap.size w4 aO :=
 ⟨h11.os.trans h4.os.symm,h11.tape.trans h4.tape.symm,h11.output.trans h4.output.symm,Nat.le_trans h48.size hk.size,fun b hb=>(hk.kept b (Nat.lt_of_lt_of_le hb h48.size) (.inl (Nat.lt_of_lt_of_le hb hn))).trans (h48.block b hb)⟩
theorem zwE:IsFn prog 100 f100:=⟨func100,by kernel_rfl,by kernel_rfl⟩
theorem zwD:IsFn prog 102 f102:=⟨func102,by kernel_rfl,by kernel_rfl⟩
def OkR(C:RC)(lo hi:Nat)(o:Out)(w9 w':World):Prop:=∃r,o=.ok r/\(C.plus lo hi).Ok/\RI (C.plus lo hi) w' r/\Kpt C.n0 C.kb w9 w'
def ErX(C:RC)(o:Out)(w9:World)(x:Int)(w':World):Prop:=o=.err x/\Kpt C.n0 C.kb w9 w'/\Below C.w.heap.size C.w w'
theorem zrr{G:List PR->T->Prop}(hS:∀g,IStC G g){C:RC}{w8 w9:World}{r:RS}{jb:Nat}(hC8:C.Ok)(h8:RI C w8 r)(dw:w8.alloc (.cells #[.slice none 0 0,.bool false] 152)=w9)(hjb:w8.heap.size=jb)(hG:∀u∈C.p.m.ks,G C.p.prs u)(g:Nat)(back:Bool)(o:Out)(ho:runO C.p.prs C.F g back C.p.m r=o)(hg:o ≠ .gas)(pb qb bb:Nat)
  (h0:w8.cell? ⟨pb,0,none⟩=some (.pointer (some ⟨C.rb,0,none⟩)))(hq:w8.heap[qb]?=some (.cells #[.slice C.A1 C.p.vs.length C.c1,.slice C.A2 C.p.prs.length C.c2,.int .u8 C.p.m.k,.int .i64 C.p.m.n,.string C.p.m.s,.slice C.A3 C.p.m.ks.length C.c3] 43 (0,0)))(hb:w8.cell? ⟨bb,0,none⟩=some (.bool back)) :
  Calls prog 99 #[.pointer (some ⟨jb,0,none⟩),.func (.func 100) #[] #[.pointer (some ⟨pb,0,none⟩),.pointer (some ⟨qb,0,none⟩),.pointer (some ⟨bb,0,none⟩)]] w9 (AttP w9 (OkR (C.plus jb w9.heap.size) w9.heap.size (w9.heap.size+3) o w9) (ErX (C.plus jb w9.heap.size) o w9)):=by
 have hbj:=zka (zs w8) (.cells #[.slice none 0 0,.bool false] 152);have kj:=heap_alloc_new w8 (.cells #[.slice none 0 0,.bool false] 152);obtain⟨hC9,h9⟩:=h8.plus hC8 hbj;rw[dw,hjb]at kj hC9 h9;rw[dw]at hbj;have hjl:=zkp kj;refine zrE jb _ _ zwE _ w9 kj _ _ fun W1 hb1 hz1=>?_;obtain⟨cZ,h1⟩:=h9.plus hC9 hb1;have hbt:=zkb hbj hb1;have hrun:=zsI hS cZ h1 hG g back (show runO C.p.prs C.F g back C.p.m r ≠ .gas by rw[ho];exact hg) pb qb bb (zb hbt h0) (zkc hq hbt) (zb hbt hb);refine hrun.mono ?_;rintro e w' ⟨hk,hbl,hout⟩;rw[show runO ((C.plus jb w9.heap.size).plus w9.heap.size W1.heap.size).p.prs ((C.plus jb w9.heap.size).plus w9.heap.size W1.heap.size).F g back ((C.plus jb w9.heap.size).plus w9.heap.size W1.heap.size).p.m r=o from ho]at hout;refine⟨fun b hb hlt=>hk.kept b hlt (.inr ?_),?_⟩
 ·rcases hb with hb|rfl
  ·exact .inr ⟨hb,hlt⟩
  ·exact .inl (.inr ⟨zl,hjl⟩)
 ·have hkk:Kpt C.n0 (C.plus jb w9.heap.size).kb w9 w':=(Kpt.of_below hb1).trans (Kpt.less (C:=C.plus jb w9.heap.size) hk)
  cases o with
  | gas=>exact absurd rfl hg
  | err x=>exact .inr ⟨x,hout,rfl,hkk,hbl⟩
  | ok r1 =>
   rw[hz1]at cZ hout;exact .inl ⟨hout.1,r1,rfl,cZ,hout.2,hkk⟩
theorem ztG(p:PG)(s:SS)(F:Int)(g:Nat)(back:Bool)(v sv:Value)(W:World)(hp:PV W Any p v)(hs:SV W Any s sv)(hcl:s.cells.length<=5864062014800)(hF:I64 F)(eu:F<=1000000)(hg:F.toNat*2000+2000<=g)(hfam:Fam p) :
  Calls prog 57 #[v,sv,.int .i64 F,.bool back] W (ResP W (resO p s F g back)):=by
 have HFAM:=zh hfam;clear hfam;have HP:=zh hp;have HS:=zh hs;obtain⟨A1,c1,A2,c2,A3,c3,rfl,oV⟩:=hp;obtain⟨A,c,B,d,D,e,rfl,hr1,hr2,hr3,hc1,hc2,hc3,hl1,hl2,hl3,hl4⟩:=hs;have HPG:=zh oV;have nD:=zh (show s.Lim from⟨hl1,hl2,hl3,hl4⟩);have HV:=zh (fun w' (hb:Below W.heap.size W w')=>zqR p Any _ w' (HP.out.later hb));have dJ:=zh (fun w' (hb:Below W.heap.size W w')=>zs8 p Any _ w' (HP.out.later hb));have dQ:=zh (fun w' (hb:Below W.heap.size W w')=>zp7 s _ w' (HS.out.later hb) hcl);have vJ:=zh (fun w' (hb:Below W.heap.size W w')=>zzh p.vs s A1 c1 _ w' (oV.vars.later hb) oV.lv (HS.out.later hb));obtain⟨Re,hRe⟩:=zX (resO p s F g back);have dD:=zh hRe;rw[hRe]
 have hb4:=zka (zka (zka (zka (zs W) (.cells #[.slice A1 p.vs.length c1,.slice A2 p.prs.length c2,.int .u8 p.m.k,.int .i64 p.m.n,.string p.m.s,.slice A3 p.m.ks.length c3] 43)) (.cells #[.slice A s.cells.length c,.slice B s.tin.length d,.slice D s.tout.length e] 32)) (.cells #[.bool back] 4)) (.cells #[.slice none 0 0,.slice none 0 0,.slice none 0 0,.int .i64 0,.int .i64 0] 59);have k0:=zkf (zkf (zkf (heap_alloc_new W (.cells #[.slice A1 p.vs.length c1,.slice A2 p.prs.length c2,.int .u8 p.m.k,.int .i64 p.m.n,.string p.m.s,.slice A3 p.m.ks.length c3] 43)) (.cells #[.slice A s.cells.length c,.slice B s.tin.length d,.slice D s.tout.length e] 32)) (.cells #[.bool back] 4)) (.cells #[.slice none 0 0,.slice none 0 0,.slice none 0 0,.int .i64 0,.int .i64 0] 59)
 have k1:=zkf (zkf (heap_alloc_new (W.alloc (.cells #[.slice A1 p.vs.length c1,.slice A2 p.prs.length c2,.int .u8 p.m.k,.int .i64 p.m.n,.string p.m.s,.slice A3 p.m.ks.length c3] 43)) (.cells #[.slice A s.cells.length c,.slice B s.tin.length d,.slice D s.tout.length e] 32)) (.cells #[.bool back] 4)) (.cells #[.slice none 0 0,.slice none 0 0,.slice none 0 0,.int .i64 0,.int .i64 0] 59);have k2:=zkf (heap_alloc_new ((W.alloc (.cells #[.slice A1 p.vs.length c1,.slice A2 p.prs.length c2,.int .u8 p.m.k,.int .i64 p.m.n,.string p.m.s,.slice A3 p.m.ks.length c3] 43)).alloc (.cells #[.slice A s.cells.length c,.slice B s.tin.length d,.slice D s.tout.length e] 32)) (.cells #[.bool back] 4)) (.cells #[.slice none 0 0,.slice none 0 0,.slice none 0 0,.int .i64 0,.int .i64 0] 59)
 have k3:=heap_alloc_new (((W.alloc (.cells #[.slice A1 p.vs.length c1,.slice A2 p.prs.length c2,.int .u8 p.m.k,.int .i64 p.m.n,.string p.m.s,.slice A3 p.m.ks.length c3] 43)).alloc (.cells #[.slice A s.cells.length c,.slice B s.tin.length d,.slice D s.tout.length e] 32)).alloc (.cells #[.bool back] 4)) (.cells #[.slice none 0 0,.slice none 0 0,.slice none 0 0,.int .i64 0,.int .i64 0] 59);simp only[World.size_alloc]at k1 k2 k3;have xQ:((((W.alloc (.cells #[.slice A1 p.vs.length c1,.slice A2 p.prs.length c2,.int .u8 p.m.k,.int .i64 p.m.n,.string p.m.s,.slice A3 p.m.ks.length c3] 43)).alloc (.cells #[.slice A s.cells.length c,.slice B s.tin.length d,.slice D s.tout.length e] 32)).alloc (.cells #[.bool back] 4)).alloc (.cells #[.slice none 0 0,.slice none 0 0,.slice none 0 0,.int .i64 0,.int .i64 0] 59)).heap.size=W.heap.size+4:=by simp
 obtain⟨w4,hw4⟩:=zX (((((W.alloc (.cells #[.slice A1 p.vs.length c1,.slice A2 p.prs.length c2,.int .u8 p.m.k,.int .i64 p.m.n,.string p.m.s,.slice A3 p.m.ks.length c3] 43)).alloc (.cells #[.slice A s.cells.length c,.slice B s.tin.length d,.slice D s.tout.length e] 32)).alloc (.cells #[.bool back] 4)).alloc (.cells #[.slice none 0 0,.slice none 0 0,.slice none 0 0,.int .i64 0,.int .i64 0] 59)));rw[hw4]at hb4 k0 k1 k2 k3 xQ;have aG:=zh hb4;have aJ:=zh k0;have aB:=zh k1;have aR:=zh k2;have gK:=zh k3;have qX:=zh xQ;have p0:w4.cell? ⟨W.heap.size,0,none⟩=some (.slice A1 p.vs.length c1):=zc k0 rfl;have p1:w4.cell? ⟨W.heap.size,1,none⟩=some (.slice A2 p.prs.length c2):=zc k0 rfl;have p2:w4.cell? ⟨W.heap.size,2,none⟩=some (.int .u8 p.m.k):=zc k0 rfl;have p3:w4.cell? ⟨W.heap.size,3,none⟩=some (.int .i64 p.m.n):=zc k0 rfl;have p4:w4.cell? ⟨W.heap.size,4,none⟩=some (.string p.m.s):=zc k0 rfl
 have p5:w4.cell? ⟨W.heap.size,5,none⟩=some (.slice A3 p.m.ks.length c3):=zc k0 rfl;obtain⟨vb,hvb⟩:=zX (zlk p);have eZ:=zh hvb;rw[hvb]at HV dJ;clear oV hr1 hr2 hr3 hRe hvb hb4 k0 k1 k2 k3 xQ hl1 hl2 hl3 hl4 hc1 hc2 hc3;go_enter func57,ntmps57;go_wp2_with fail;refine(HV.out w4 aG.out).mono ?_;rintro e5 w5 ⟨rfl,b5⟩;clear hw4
 cases vb
 ·have HX:=zh (show Re=(s,0,3,[]) by rw[<-dD.out,resO,if_pos (.inl eZ.out)]);clear p0 p1 p2 p3 p4 p5;have dA:=zkc aB.out b5;have mI:=zkc gK.out b5;have s0:w5.cell? ⟨W.heap.size+1,0,none⟩=some (.slice A s.cells.length c):=zc dA rfl;have s1:w5.cell? ⟨W.heap.size+1,1,none⟩=some (.slice B s.tin.length d):=zc dA rfl;have s2:w5.cell? ⟨W.heap.size+1,2,none⟩=some (.slice D s.tout.length e):=zc dA rfl;have bg:=zh (dQ.out w5 (zkb aG.out b5));have dm:=zh mI;have hbq:=b5;clear dA mI;go_wp2_with fail;refine bg.out.mono ?_;rintro e9 w9 ⟨v9,rfl,bY,aU⟩;obtain⟨A9,c9,B9,d9,D9,e9,rfl⟩:=bY.slices;have fI:=zh bY;have aF:=zh (zkb hbq aU);have aK:=zkc dm.out aU;have x0:w9.cell? ⟨W.heap.size+3,0,none⟩=some (.slice none 0 0):=zc aK rfl;have x1:w9.cell? ⟨W.heap.size+3,1,none⟩=some (.slice none 0 0):=zc aK rfl
  have x2:w9.cell? ⟨W.heap.size+3,2,none⟩=some (.slice none 0 0):=zc aK rfl;have x3:w9.cell? ⟨W.heap.size+3,3,none⟩=some (.int .i64 0):=zc aK rfl;have x4:w9.cell? ⟨W.heap.size+3,4,none⟩=some (.int .i64 0):=zc aK rfl;have xf:∀o,w9.frozen? ⟨W.heap.size+3,o,none⟩=false:=fun _=>zf aK;have gX:=zh aK;have hbr:=bRes;have ji:W.heap.size+4<=w5.heap.size:=by have:=hbq.size;rw[qX.out]at this;exact this
  clear s0 s1 s2 aK bY aU hbq bg;go_wp2_with fail;obtain⟨hh,hch⟩:=set5 (u0:=.slice A9 s.cells.length c9) (u1:=.slice B9 s.tin.length d9) (u2:=.slice D9 s.tout.length e9) (u3:=.int .i64 0) (u4:=.int .i64 3) gX.out;obtain⟨aT,bX⟩:=zX ((((((w9.setCell ⟨W.heap.size+3,0,none⟩ (.slice A9 s.cells.length c9)).setCell ⟨W.heap.size+3,1,none⟩ (.slice B9 s.tin.length d9)).setCell ⟨W.heap.size+3,2,none⟩ (.slice D9 s.tout.length e9)).setCell ⟨W.heap.size+3,3,none⟩ (.int .i64 0)).setCell ⟨W.heap.size+3,4,none⟩ (.int .i64 3)));rw[bX]at hh hch ⊢;have t0:aT.cell? ⟨W.heap.size+3,0,none⟩=some (.slice A9 s.cells.length c9):=zc hh rfl;have t1:aT.cell? ⟨W.heap.size+3,1,none⟩=some (.slice B9 s.tin.length d9):=zc hh rfl;have t2:aT.cell? ⟨W.heap.size+3,2,none⟩=some (.slice D9 s.tout.length e9):=zc hh rfl;have t3:aT.cell? ⟨W.heap.size+3,3,none⟩=some (.int .i64 0):=zc hh rfl
  have t4:aT.cell? ⟨W.heap.size+3,4,none⟩=some (.int .i64 3):=zc hh rfl;refine bodyPost_ret (v:=.tuple #[.slice none 0 0,.agg #[.slice A9 s.cells.length c9,.slice B9 s.tin.length d9,.slice D9 s.tout.length e9,.int .i64 0,.int .i64 3]]) (by simp[results,results57,go_sem,t0,t1,t2,t3,t4]) rfl ?_;rw[HX.out];exact⟨none,0,_,_,_,rfl,(fI.out.chg hch fun b hb=>by omega).lower (by omega),fun i hi=>absurd hi (by simp),zl,(zkb aG.out aF.out).trans (hch.below (zkb aG.out aF.out).size fun b hb=>by omega),nD.out,fun h=>by first|(simp at h;done)|exact absurd h yn.out⟩
 ·have q0:=zb b5 p0;have q1:=zb b5 p1;have q2:=zb b5 p2;have q3:=zb b5 p3;have q4:=zb b5 p4;have q5:=zb b5 p5;have gY:=zh (show Calls prog 26 #[pv A1 p.vs.length c1 A2 p.prs.length c2 p.m.k p.m.n p.m.s A3 p.m.ks.length c3] w5 (fun e w'=>∃A c,e=Ending.returned (.slice A (chkN p) c)/\Below w5.heap.size w5 w')from(dJ.out w5 (zkb aG.out b5)).mono (fun e w' ⟨A,c,h1,h2⟩=>⟨A,c,by rw[h1,if_pos rfl],h2⟩));clear p0 p1 p2 p3 p4 p5 dJ HV;go_wp2_with fail;refine gY.out.mono ?_;rintro e6 w6 ⟨AA,cc,rfl,b6⟩;have mO:=zkb b5 b6;clear q0 q1 q2 q3 q4 q5;by_cases hn:chkN p=0
  ·obtain⟨n,hnn⟩:=zX (chkN p);rw[hnn];obtain rfl:n=0:=by omega
   have hng:¬ (0:Int)<((0:Nat):Int):=by omega
   have nZ:=zkc aJ.out mO;have dA:=zkc aB.out mO;have p0:w6.cell? ⟨W.heap.size,0,none⟩=some (.slice A1 p.vs.length c1):=zc nZ rfl;have s0:w6.cell? ⟨W.heap.size+1,0,none⟩=some (.slice A s.cells.length c):=zc dA rfl;have s1:w6.cell? ⟨W.heap.size+1,1,none⟩=some (.slice B s.tin.length d):=zc dA rfl;have s2:w6.cell? ⟨W.heap.size+1,2,none⟩=some (.slice D s.tout.length e):=zc dA rfl;have jD:=zh hnn;clear nZ dA hn hnn;go_wp2_with fail;refine(vJ.out w6 (zkb aG.out mO)).mono ?_;rintro e7 w7 ⟨b7,⟨hfit,rfl⟩|⟨hfit,P,rfl,zq⟩⟩
   ·have HX:=zh (show Re=(s,0,20,[]) by rw[<-dD.out,resO,if_neg (by rw[eZ.out,jD.out];simp),if_pos hfit]);have qW:=zkb mO b7;clear p0 s0 s1 s2 hfit;have dA:=zkc aB.out qW;have mI:=zkc gK.out qW;have s0:w7.cell? ⟨W.heap.size+1,0,none⟩=some (.slice A s.cells.length c):=zc dA rfl;have s1:w7.cell? ⟨W.heap.size+1,1,none⟩=some (.slice B s.tin.length d):=zc dA rfl;have s2:w7.cell? ⟨W.heap.size+1,2,none⟩=some (.slice D s.tout.length e):=zc dA rfl;have bg:=zh (dQ.out w7 (zkb aG.out qW));have dm:=zh mI;have hbq:=qW;clear dA mI;go_wp2_with fail;refine bg.out.mono ?_;rintro e9 w9 ⟨v9,rfl,bY,aU⟩;obtain⟨A9,c9,B9,d9,D9,e9,rfl⟩:=bY.slices;have fI:=zh bY;have aF:=zh (zkb hbq aU);have aK:=zkc dm.out aU;have x0:w9.cell? ⟨W.heap.size+3,0,none⟩=some (.slice none 0 0):=zc aK rfl;have x1:w9.cell? ⟨W.heap.size+3,1,none⟩=some (.slice none 0 0):=zc aK rfl
    have x2:w9.cell? ⟨W.heap.size+3,2,none⟩=some (.slice none 0 0):=zc aK rfl;have x3:w9.cell? ⟨W.heap.size+3,3,none⟩=some (.int .i64 0):=zc aK rfl;have x4:w9.cell? ⟨W.heap.size+3,4,none⟩=some (.int .i64 0):=zc aK rfl;have xf:∀o,w9.frozen? ⟨W.heap.size+3,o,none⟩=false:=fun _=>zf aK;have gX:=zh aK;have hbr:=bRes;have ji:W.heap.size+4<=w7.heap.size:=by have:=hbq.size;rw[qX.out]at this;exact this
    clear s0 s1 s2 aK bY aU hbq bg;go_wp2_with fail;obtain⟨hh,hch⟩:=set5 (u0:=.slice A9 s.cells.length c9) (u1:=.slice B9 s.tin.length d9) (u2:=.slice D9 s.tout.length e9) (u3:=.int .i64 0) (u4:=.int .i64 20) gX.out;obtain⟨aT,bX⟩:=zX ((((((w9.setCell ⟨W.heap.size+3,0,none⟩ (.slice A9 s.cells.length c9)).setCell ⟨W.heap.size+3,1,none⟩ (.slice B9 s.tin.length d9)).setCell ⟨W.heap.size+3,2,none⟩ (.slice D9 s.tout.length e9)).setCell ⟨W.heap.size+3,3,none⟩ (.int .i64 0)).setCell ⟨W.heap.size+3,4,none⟩ (.int .i64 20)));rw[bX]at hh hch ⊢;have t0:aT.cell? ⟨W.heap.size+3,0,none⟩=some (.slice A9 s.cells.length c9):=zc hh rfl;have t1:aT.cell? ⟨W.heap.size+3,1,none⟩=some (.slice B9 s.tin.length d9):=zc hh rfl;have t2:aT.cell? ⟨W.heap.size+3,2,none⟩=some (.slice D9 s.tout.length e9):=zc hh rfl;have t3:aT.cell? ⟨W.heap.size+3,3,none⟩=some (.int .i64 0):=zc hh rfl
    have t4:aT.cell? ⟨W.heap.size+3,4,none⟩=some (.int .i64 20):=zc hh rfl;refine bodyPost_ret (v:=.tuple #[.slice none 0 0,.agg #[.slice A9 s.cells.length c9,.slice B9 s.tin.length d9,.slice D9 s.tout.length e9,.int .i64 0,.int .i64 20]]) (by simp[results,results57,go_sem,t0,t1,t2,t3,t4]) rfl ?_;rw[HX.out];exact⟨none,0,_,_,_,rfl,(fI.out.chg hch fun b hb=>by omega).lower (by omega),fun i hi=>absurd hi (by simp),zl,(zkb aG.out aF.out).trans (hch.below (zkb aG.out aF.out).size fun b hb=>by omega),nD.out,fun h=>by first|(simp at h;done)|exact absurd h yn.out⟩
   ·have qW:=zkb mO b7;have lQ:=zh hfit;have Bu:=zh zq;clear p0 s0 s1 s2 hfit zq;have nZ:=zkc aJ.out qW;have p0:w7.cell? ⟨W.heap.size,0,none⟩=some (.slice A1 p.vs.length c1):=zc nZ rfl;have p1:w7.cell? ⟨W.heap.size,1,none⟩=some (.slice A2 p.prs.length c2):=zc nZ rfl;have p2:w7.cell? ⟨W.heap.size,2,none⟩=some (.int .u8 p.m.k):=zc nZ rfl;have p3:w7.cell? ⟨W.heap.size,3,none⟩=some (.int .i64 p.m.n):=zc nZ rfl;have p4:w7.cell? ⟨W.heap.size,4,none⟩=some (.string p.m.s):=zc nZ rfl;have p5:w7.cell? ⟨W.heap.size,5,none⟩=some (.slice A3 p.m.ks.length c3):=zc nZ rfl;obtain⟨hvl,hpl,hpp,-,hpm⟩:=zmo eZ.out;have hmk:=zKL p.prs.length (by omega);obtain⟨np,sH⟩:=zX (p.prs.length);rw[sH]at p1 hmk;have rD:=zh sH
    obtain⟨HH,hHH⟩:∃H:World->Prop,H=fun w':World=>w'.cell? ⟨W.heap.size,0,none⟩=some (.slice A1 p.vs.length c1)/\w'.cell? ⟨W.heap.size,1,none⟩=some (.slice A2 np c2)/\w'.cell? ⟨W.heap.size,2,none⟩=some (.int .u8 p.m.k)/\w'.cell? ⟨W.heap.size,3,none⟩=some (.int .i64 p.m.n)/\w'.cell? ⟨W.heap.size,4,none⟩=some (.string p.m.s)/\w'.cell? ⟨W.heap.size,5,none⟩=some (.slice A3 p.m.ks.length c3):=⟨_,rfl⟩
    have az:=zh (show ∀w',Below w7.heap.size w7 w'->HH w' by
     rw[hHH];exact fun w' hb=>⟨zb hb p0,zb hb p1,zb hb p2,zb hb p3,zb hb p4,zb hb p5⟩)
    rw[sH];go_upto_region 6 with fail;have hSS:zW HH zU w7.drew:=⟨az.out _ zr.drew,trivial⟩
    refine wp_region_noPanic ?_;refine zG hSS 10 ?_;subst hHH;refine zT 0 hSS ?_;refine zT 1 hSS ?_;refine zT 2 hSS ?_;refine zT 3 hSS ?_;refine zT 4 hSS ?_;refine zT 5 hSS ?_;clear p0 p1 p2 p3 p4 p5 nZ sH;refine zrF (fun A f l a wr=>∃(l6 l7 l8 l9:Bool) (v43 v44 v45 v12:Value) (eb rb pb:Nat),f=(!l6).toNat+(!l7).toNat+(!l8).toNat+(!l9).toNat+1/\l = #[true,true,true,true,true,true,l6,l7,l8,l9,false] /\
     a=(((A.put (some 43) v43).put (some 44) v44).put (some 45) v45).put (some 12) v12/\Hid (Below w7.heap.size w7 wr) /\
     Hid ((l7=true->l6=true)/\(l8=true->l7=true)/\(l6=true->v43=.slice (some ⟨eb,0,none⟩) np np/\wr.heap[eb]?=some (.cells (zkg (List.replicate np 0)).toArray 3 (0,0))/\w7.heap.size<=eb) /\
      (l7=true->v44=.agg #[.slice A1 p.vs.length c1,.slice A2 np c2,.int .u8 p.m.k,.int .i64 p.m.n,.string p.m.s,.slice A3 p.m.ks.length c3,.pointer (some ⟨P.sb,0,none⟩),.int .i64 0,.int .i64 F,.slice (some ⟨eb,0,none⟩) np np]) /\
      (l8=true->v45=.pointer (some ⟨rb,0,none⟩)/\wr.heap[rb]?=some (.cells #[.slice A1 p.vs.length c1,.slice A2 np c2,.int .u8 p.m.k,.int .i64 p.m.n,.string p.m.s,.slice A3 p.m.ks.length c3,.pointer (some ⟨P.sb,0,none⟩),.int .i64 0,.int .i64 F,.slice (some ⟨eb,0,none⟩) np np] 147 (0,0))/\w7.heap.size<=rb) /\
      (l9=true->v12=.pointer (some ⟨pb,0,none⟩)/\wr.heap[pb]?=some (.cells #[.pointer none] 145 (0,0))/\w7.heap.size<=pb)) /\
     Hid ((l6=false->v43=undef)/\(l7=false->v44=undef)/\(l8=false->v45=undef)/\(l9=false->v12=undef))) (fun A f l a wr h=>?_) ?_ ⟨false,false,false,false,undef,undef,undef,undef,0,0,0,rfl,rfl,(by simp only[Act.put,zD,zE,zF]),zh zr.drew,zh ⟨fun h=>(by cases h),fun h=>(by cases h),fun h=>(by cases h),fun h=>(by cases h),fun h=>(by cases h),fun h=>(by cases h)⟩,zh ⟨fun _=>rfl,fun _=>rfl,fun _=>rfl,fun _=>rfl⟩⟩
    ·obtain⟨_,_,_,_,_,_,_,_,_,_,_,_,_,_,hb,_⟩:=h;exact⟨az.out _ hb.out,trivial⟩
    rintro A' hA f l a wr ⟨l6,l7,l8,l9,v43,v44,v45,v12,eb,rb,pb,hf,rfl,ha,ah,HC,HU⟩;by_cases hall:(l6&&l7&&l8&&l9)=true
    ·left
     simp only[Bool.and_eq_true]at hall;obtain⟨⟨⟨rfl,rfl⟩,rfl⟩,rfl⟩:=hall;obtain⟨-,-,h6,h7,h8,h9⟩:=HC.out;obtain⟨rfl,he,hel⟩:=h6 rfl;obtain rfl:=h7 rfl;obtain⟨rfl,hr,hrl⟩:=h8 rfl;obtain⟨rfl,hq,j3⟩:=h9 rfl;subst hf ha hA;have hner:eb≠rb:=zu4 he hr (by decide);have hneq:eb≠pb:=zu4 he hq (by decide);have hnrq:rb≠pb:=zu4 hr hq (by decide);have c0:wr.cell? ⟨pb,0,none⟩=some (.pointer none):=zc hq rfl;have cf:∀j,wr.frozen? ⟨pb,j,none⟩=false:=fun j=>zf hq;refine zp 10 fun K hK=>?_;(try simp only[zQ]);go_simp;have hch:Chg (fun b=>b=pb) wr (wr.setCell ⟨pb,0,none⟩ (.pointer (some ⟨rb,0,none⟩))):=(Chg.refl (fun b=>b=pb) wr).setCell (p:=⟨pb,0,none⟩) (.inl rfl) _;have hh:(wr.setCell ⟨pb,0,none⟩ (.pointer (some ⟨rb,0,none⟩))).heap[pb]?=some (.cells #[.pointer (some ⟨rb,0,none⟩)] 145 (0,0)):=by
      rw[heap_setCell_same wr pb 0 _ _ (.pointer (some ⟨rb,0,none⟩)) hq];rfl
     have eH:=zh (show Below w7.heap.size w7 (wr.setCell ⟨pb,0,none⟩ (.pointer (some ⟨rb,0,none⟩)))from ah.out.trans (hch.below ah.out.size fun b e=>by omega));have Ce:=zh (hch.keep he hneq);have gU:=zh (hch.keep hr hnrq);have yD:=zh hh;obtain⟨w8,hw8⟩:=zX (wr.setCell ⟨pb,0,none⟩ (.pointer (some ⟨rb,0,none⟩)));rw[hw8]at eH Ce gU yD ⊢;refine hK.out _ _ (az.out _ eH.out) ?_;clear hK K hSS hch hh hw8 c0 cf he hr hq h6 h7 h8 h9 HC HU ah hmk az;refine zd ?_;refine NoPanic.normal ?_;(try simp only[zQ]);have hlt_e:=zkp Ce.out;have hlt_r:=zkp gU.out;have hlt_q:=zkp yD.out;obtain⟨C,hC⟩:∃C:RC,C=⟨W,w6.heap.size,P.sb,rb,p,A1,c1,A2,c2,A3,c3,F,.slice (some ⟨eb,0,none⟩) np np,fun b=>b=pb⟩:=⟨_,rfl⟩
     have hs67:=b7.size;have hs46:=mO.size;have xQ:=qX.out;have hbWw6:=zkb aG.out mO;have HCO:=zh (show C.Ok by
      rw[hC];exact⟨HPG.out,hF,eu,⟨by simp only;omega,by simp only;exact hnrq⟩,⟨by simp[Value.ownBlock];exact hner,fun b hb hk=>by simp only[Value.ownBlock,Option.some.injEq]at hb;simp only at hk;omega⟩,fun q hq=>by have:=(hpp q hq).1;omega⟩)
     have dC:=zh (show RI C w8 ⟨newS p.vs s,0,List.replicate np 0⟩ by
      rw[hC];have hks:=(KS.new hbWw6 b7 Bu.out).also eH.out (kb':=fun b=>b=pb\/b=rb\/(Value.slice (some ⟨eb,0,none⟩) np np).ownBlock=some b) (fun b hb=>.inr (by
       rcases hb with rfl|rfl|hb
       ·exact⟨j3,hlt_q⟩
       ·exact⟨hrl,hlt_r⟩
       ·simp[Value.ownBlock]at hb;subst hb;exact⟨hel,hlt_e⟩))
      refine⟨hks,by rw[<-rD.out]at gU;simpa[RC.cells,rD.out]using gU.out,?_,by simp[rD.out],fun c hc=>by simp at hc;omega,by simp,?_⟩
      ·refine⟨by simp[zkg],.inr ⟨eb,np,_,by simp,Nat.le_trans hs67 hel,Ce.out,by simp,by unfold maxLen;have:=rD.out;omega,by simp[zkg],by simp[zkg]⟩⟩
      ·exact⟨by simp only[newS];omega,fun f hf=>by simp[newS]at hf⟩)
     obtain⟨GX,hGX,hGM⟩:=HFAM.out;have vQ:=zh (hGM eZ.out jD.out);clear hGM;obtain⟨o,ho⟩:=zX (runO p.prs F g back p.m ⟨newS p.vs s,0,List.replicate np 0⟩);have hog:o ≠ .gas:=ho▸(zv6 eZ.out hg back (newS p.vs s) (List.replicate np 0)).1;have hon:Nz o:=ho▸vQ.out.2 _ _ _ _;have HRR:=zh (show Re=outR s o by rw[<-dD.out,resO,if_neg (by rw[eZ.out,jD.out];simp),if_neg (by rw[lQ.out];simp),<-ho,<-rD.out]);have jT:=zkb qW eH.out;obtain⟨jb,hjb⟩:=zX (w8.heap.size);obtain⟨w9,dw⟩:=zX (w8.alloc (.cells #[.slice none 0 0,.bool false] 152));have HAT:=zh (zrr hGX HCO.out dC.out dw hjb (by rw[hC];exact vQ.out.1) g back o (by rw[hC];exact ho) hog pb W.heap.size (W.heap.size+1+1) (by rw[hC];exact zc yD.out rfl) (by rw[hC];simp only;rw[rD.out];have:=zkc aJ.out jT;rw[rD.out]at this;exact this) (zc (zkc aR.out jT) rfl))
     have xP:w9.heap.size=jb+1:=by rw[<-dw];simp[hjb]
     have HK89:=zh (show Kpt C.n0 C.kb w8 w9 from Kpt.of_below (dw▸zka (zs w8) _));have ma:∀(fn:Fn) (first cap:Array Value) (w:World),(Instr.makeFunc fn first cap).run prog w=.ok (.func fn first cap) w:=fun _ _ _ _=>rfl;have HN0C:=zh (show C.n0=w6.heap.size/\C.w=W/\C.rb=rb/\C.ev=.slice (some ⟨eb,0,none⟩) np np/\(C.kb=fun b=>b=pb)/\C.sb=P.sb/\C.p=p by rw[hC];exact⟨rfl,rfl,rfl,rfl,rfl,rfl,rfl⟩);have HHB48:=zh jT;have jS:=aG.out;have hb4s:W.heap.size<=w6.heap.size:=hbWw6.size;clear hC jT ho hlt_e hlt_r;go_wp2_with fail;refine HAT.out.mono ?_;rintro e10 aO hat;clear HAT dw ma;rcases hat with⟨rfl,aT,⟨r,rfl,hok,bA,hkp⟩,hch⟩|⟨x,rfl,aT,⟨rfl,hkp,hbl⟩,hch⟩
     ·obtain⟨hn0,hcw,pI,mr,kC,pG,hcp⟩:=HN0C.out;have hri1:=RI.chgK (C:=C.plus jb w9.heap.size) hok bA hch (by show C.w.heap.size<=_;rw[hcw];have:=eH.out.size;omega);have jk:RI C aO r:=hri1.less.less;have hkk:Kpt C.n0 C.kb w8 aO:=HK89.out.trans ((Kpt.less (C:=C) hkp).trans (Kpt.chg hch fun b hb=>⟨by rw[hn0];omega,by rw[kC];intro e;subst e;omega⟩));have dG:=zqO jS (by have:=jk.below;rw[hcw]at this;exact this) HHB48.out hkk (by rw[hn0];exact hs46);have gz:=zh jk;have HX:=zh (show Re=(r.S.state,r.n,0,r.ent)from HRR.out);obtain⟨-,x7,-,x9,-⟩:=jk.cells;rw[pI]at x7 x9;rw[mr]at x9;have xp:aO.cell? ⟨pb,0,none⟩=some (.pointer (some ⟨rb,0,none⟩)):=zc (hkk.blk (.inr (by rw[kC])) yD.out) rfl;have HKR:=zh (zkc gK.out dG);have nR:=zh dG;have hls:=jk.ks;have HST:=zh (fun w' (hb:Below aO.heap.size aO w')=>(hls.later hb).state);rw[pG]at HST
      have oz:=zh (show r.ent.length=np by rw[jk.el,hcp,rD.out]);have nK:=zh jk.ent;rw[hn0,mr]at nK;have hne0:(0:Int)=0:=rfl;have az:=zh (show ∀w',Below aO.heap.size aO w'->(fun w':World=>zv w' pb 0 (.pointer (some ⟨rb,0,none⟩))/\zv w' rb 7 (.int .i64 r.n)/\zv w' rb 9 (.slice (some ⟨eb,0,none⟩) np np)) w' from fun w' hb=>⟨zb hb xp,zb hb x7,zb hb x9⟩);clear bA hri1 jk hkk hkp hls hn0 hcw pI mr kC pG hch x7 x9 xp dG hok;go_upto_region 10 with fail;have hSS:zW (fun w':World=>zv w' pb 0 (.pointer (some ⟨rb,0,none⟩))/\zv w' rb 7 (.int .i64 r.n)/\zv w' rb 9 (.slice (some ⟨eb,0,none⟩) np np)) zU aO.drew:=⟨az.out _ zr.drew,trivial⟩
      refine wp_region_noPanic ?_;refine zG hSS 12 ?_;refine zT 0 hSS ?_;refine zT 1 hSS ?_;refine zT 2 hSS ?_;refine zT 3 hSS ?_;refine zT 4 hSS ?_;refine zT 6 hSS ?_;refine zT 7 hSS ?_;refine zT 8 hSS ?_;refine zT 9 hSS ?_;have had:Calls prog 102 [.pointer (some ⟨P.sb,0,none⟩)].toArray aO.drew fun e W'=>∃v,e=.returned v/\(OwnS W' aO.heap.size r.S.state v/\Below aO.heap.size aO W') :=
       (HST.out _ zr.drew).mono fun e w' ⟨v,h1,h2,h3⟩=>⟨v,h1,h2,zkb (zs aO).drew h3⟩
      refine zo 5 fun K hK=>?_;refine zke (by rfl) (.func 102) [.tmp 59] _ (by rfl) 102 _ zwD (by rfl) _ (by rfl) _ had ?_;rintro v12 iO ⟨sF,pQ⟩;obtain⟨A9,c9,B9,d9,D9,e9,rfl⟩:=sF.slices;have HO12:=zh sF;have gP:=zh pQ;refine hK.out _ _ ⟨az.out _ pQ,trivial⟩ ?_;have aM:=zV hSS (az.out _ pQ) trivial;clear hK K hSS had sF pQ;(try simp only[zQ]);have hbr:=zKK;refine zT 10 aM ?_;refine zo 11 fun K hK=>?_;(try simp only[zA,zB,zC]);go_simp;refine hK.out _ _ ⟨az.out _ gP.out,trivial⟩ ?_;clear hK K;(try simp only[zQ]);have aK:=zkc HKR.out gP.out;have x0:iO.cell? ⟨W.heap.size+3,0,none⟩=some (.slice none 0 0):=zc aK rfl;have x1:iO.cell? ⟨W.heap.size+3,1,none⟩=some (.slice none 0 0):=zc aK rfl;have x2:iO.cell? ⟨W.heap.size+3,2,none⟩=some (.slice none 0 0):=zc aK rfl;have x3:iO.cell? ⟨W.heap.size+3,3,none⟩=some (.int .i64 0):=zc aK rfl
      have x4:iO.cell? ⟨W.heap.size+3,4,none⟩=some (.int .i64 0):=zc aK rfl;have xf:∀o,iO.frozen? ⟨W.heap.size+3,o,none⟩=false:=fun _=>zf aK;refine zp 12 fun K hK=>?_;(try simp only[zQ]);go_simp;obtain⟨hh,hch⟩:=set5 (u0:=.slice A9 r.S.state.cells.length c9) (u1:=.slice B9 r.S.state.tin.length d9) (u2:=.slice D9 r.S.state.tout.length e9) (u3:=.int .i64 r.n) (u4:=.int .i64 0) aK;obtain⟨kY,hw13⟩:=zX ((((((iO.setCell ⟨W.heap.size+3,0,none⟩ (.slice A9 r.S.state.cells.length c9)).setCell ⟨W.heap.size+3,1,none⟩ (.slice B9 r.S.state.tin.length d9)).setCell ⟨W.heap.size+3,2,none⟩ (.slice D9 r.S.state.tout.length e9)).setCell ⟨W.heap.size+3,3,none⟩ (.int .i64 r.n)).setCell ⟨W.heap.size+3,4,none⟩ (.int .i64 0)));rw[hw13]at hh hch ⊢;have bS:=zh hch;have t0:kY.cell? ⟨W.heap.size+3,0,none⟩=some (.slice A9 r.S.state.cells.length c9):=zc hh rfl
      have t1:kY.cell? ⟨W.heap.size+3,1,none⟩=some (.slice B9 r.S.state.tin.length d9):=zc hh rfl;have t2:kY.cell? ⟨W.heap.size+3,2,none⟩=some (.slice D9 r.S.state.tout.length e9):=zc hh rfl;have t3:kY.cell? ⟨W.heap.size+3,3,none⟩=some (.int .i64 r.n):=zc hh rfl;have t4:kY.cell? ⟨W.heap.size+3,4,none⟩=some (.int .i64 0):=zc hh rfl;have hszs:W.heap.size+4<=aO.heap.size:=by have:=nR.out.size;omega
      have hplt:W.heap.size+3<w7.heap.size:=by have:=qW.size;omega
      refine hK.out _ _ ?_ ?_
      ·obtain⟨q1,q2,q3⟩:=az.out _ gP.out;exact⟨zkU hch q1 (by simp only;omega),zkU hch q2 (by simp only;omega),zkU hch q3 (by simp only;omega)⟩
      clear hK K hch hh hw13 x0 x1 x2 x3 x4 xf aK aM az;(try simp only[zQ]);refine zd ?_;refine NoPanic.normal ?_;go_wp2_with fail;have hrow:=zko nK.out gP.out;have hrow2:=zme hrow (fun b hb=>bS.out.block b (hrow.lt b hb).2 (by have:=(hrow.lt b hb).1;omega));have hI:∀z∈r.ent.map Int.ofNat,I64 z:=fun z hz=>by
       obtain⟨q,hq,rfl⟩:=List.mem_map.1 hz;have h1:=gz.out.en q hq;have h2:=gz.out.n;exact⟨by simp only[Int.ofNat_eq_natCast];omega,by simp only[Int.ofNat_eq_natCast];omega⟩
      obtain⟨Ae,ce,he1,he2,he3⟩:=zrV (l:=r.ent.map Int.ofNat) (by simpa using hrow2) hI;injection he1 with he1 _ he4;subst he1 he4;refine bodyPost_ret (v:=.tuple #[.slice (some ⟨eb,0,none⟩) np np,.agg #[.slice A9 r.S.state.cells.length c9,.slice B9 r.S.state.tin.length d9,.slice D9 r.S.state.tout.length e9,.int .i64 r.n,.int .i64 0]]) (by simp[results,results57,go_sem,t0,t1,t2,t3,t4]) rfl ?_;rw[HX.out];refine⟨_,_,_,_,_,by rw[oz.out],(HO12.out.chg bS.out fun b hb=>by omega).lower (by omega),he3.keep (fun b hb _=>by have:=hb4s;omega) (fun _ _ _=>rfl),by simpa using he2,?_⟩;exact⟨(zkb jS (zkb nR.out gP.out)).trans (bS.out.below (zkb jS (zkb nR.out gP.out)).size fun b hb=>by omega),LimR.run gz.out.ks.wf gz.out.fb _⟩
     ·have hx:x≠0:=fun e=>hon (by rw[e]);obtain⟨hn0,hcw,pI,mr,kC,pG,-⟩:=HN0C.out;have hkk:Kpt C.n0 C.kb w8 aO:=HK89.out.trans ((Kpt.less (C:=C) hkp).trans (Kpt.chg hch fun b hb=>⟨by rw[hn0];omega,by rw[kC];intro e;subst e;omega⟩));have pK:Below C.w.heap.size C.w aT:=hbl;rw[hcw]at pK;have xW:=eH.out.size;have pM:Below W.heap.size W aO:=pK.trans (hch.below pK.size fun b hb=>by omega);have dG:=zqO jS pM HHB48.out hkk (by rw[hn0];exact hs46);have HX:=zh (show Re=(s,0,x,[])from HRR.out);have e1:(x != 0)=true:=by simpa using hx
      have yn:=zh hx;clear hn0 hcw pI mr kC pG hkk pM hkp hbl pK hch hon;have dA:=zkc aB.out dG;have mI:=zkc gK.out dG;have s0:aO.cell? ⟨W.heap.size+1,0,none⟩=some (.slice A s.cells.length c):=zc dA rfl;have s1:aO.cell? ⟨W.heap.size+1,1,none⟩=some (.slice B s.tin.length d):=zc dA rfl;have s2:aO.cell? ⟨W.heap.size+1,2,none⟩=some (.slice D s.tout.length e):=zc dA rfl;have bg:=zh (dQ.out aO (zkb aG.out dG));have dm:=zh mI;have hbq:=dG;clear dA mI;go_wp2_with fail;refine bg.out.mono ?_;rintro e9 w9 ⟨v9,rfl,bY,aU⟩;obtain⟨A9,c9,B9,d9,D9,e9,rfl⟩:=bY.slices;have fI:=zh bY;have aF:=zh (zkb hbq aU);have aK:=zkc dm.out aU;have x0:w9.cell? ⟨W.heap.size+3,0,none⟩=some (.slice none 0 0):=zc aK rfl;have x1:w9.cell? ⟨W.heap.size+3,1,none⟩=some (.slice none 0 0):=zc aK rfl
      have x2:w9.cell? ⟨W.heap.size+3,2,none⟩=some (.slice none 0 0):=zc aK rfl;have x3:w9.cell? ⟨W.heap.size+3,3,none⟩=some (.int .i64 0):=zc aK rfl;have x4:w9.cell? ⟨W.heap.size+3,4,none⟩=some (.int .i64 0):=zc aK rfl;have xf:∀o,w9.frozen? ⟨W.heap.size+3,o,none⟩=false:=fun _=>zf aK;have gX:=zh aK;have hbr:=bRes;have ji:W.heap.size+4<=aO.heap.size:=by have:=hbq.size;rw[qX.out]at this;exact this
      clear s0 s1 s2 aK bY aU hbq bg;go_wp2_with fail;obtain⟨hh,hch⟩:=set5 (u0:=.slice A9 s.cells.length c9) (u1:=.slice B9 s.tin.length d9) (u2:=.slice D9 s.tout.length e9) (u3:=.int .i64 0) (u4:=.int .i64 x) gX.out;obtain⟨aT,bX⟩:=zX ((((((w9.setCell ⟨W.heap.size+3,0,none⟩ (.slice A9 s.cells.length c9)).setCell ⟨W.heap.size+3,1,none⟩ (.slice B9 s.tin.length d9)).setCell ⟨W.heap.size+3,2,none⟩ (.slice D9 s.tout.length e9)).setCell ⟨W.heap.size+3,3,none⟩ (.int .i64 0)).setCell ⟨W.heap.size+3,4,none⟩ (.int .i64 x)));rw[bX]at hh hch ⊢;have t0:aT.cell? ⟨W.heap.size+3,0,none⟩=some (.slice A9 s.cells.length c9):=zc hh rfl;have t1:aT.cell? ⟨W.heap.size+3,1,none⟩=some (.slice B9 s.tin.length d9):=zc hh rfl;have t2:aT.cell? ⟨W.heap.size+3,2,none⟩=some (.slice D9 s.tout.length e9):=zc hh rfl;have t3:aT.cell? ⟨W.heap.size+3,3,none⟩=some (.int .i64 0):=zc hh rfl
      have t4:aT.cell? ⟨W.heap.size+3,4,none⟩=some (.int .i64 x):=zc hh rfl;refine bodyPost_ret (v:=.tuple #[.slice none 0 0,.agg #[.slice A9 s.cells.length c9,.slice B9 s.tin.length d9,.slice D9 s.tout.length e9,.int .i64 0,.int .i64 x]]) (by simp[results,results57,go_sem,t0,t1,t2,t3,t4]) rfl ?_;rw[HX.out];exact⟨none,0,_,_,_,rfl,(fI.out.chg hch fun b hb=>by omega).lower (by omega),fun i hi=>absurd hi (by simp),zl,(zkb aG.out aF.out).trans (hch.below (zkb aG.out aF.out).size fun b hb=>by omega),nD.out,fun h=>by first|(simp at h;done)|exact absurd h yn.out⟩
    ·right
     have bC:=HC.out;have iT:=HU.out;have hcc:(l7=true->l6=true)/\(l8=true->l7=true):=⟨bC.1,bC.2.1⟩
     refine⟨f-1,?_,?_,?_⟩
     ·clear HC bC HU iT ha ah hcc;subst hf;revert hall;revert l6 l7 l8 l9
      decide
     ·clear HC bC HU iT ha ah hf;revert hall hcc;revert l6 l7 l8 l9
      decide +kernel
     intro i hi;have hcase:(i=6/\l6=false/\l7=false/\l8=false)\/(i=7/\l7=false/\l6=true/\l8=false)\/(i=8/\l8=false/\l6=true/\l7=true)\/(i=9/\l9=false):=by
      refine of_decide_eq_true ((List.all_eq_true (p:=fun i=>decide ((i=6/\l6=false/\l7=false/\l8=false)\/(i=7/\l7=false/\l6=true/\l8=false)\/(i=8/\l8=false/\l6=true/\l7=true)\/(i=9/\l9=false)))).1 ?_ i hi);clear HC bC HU iT ha ah hf hi;revert hall hcc;revert l6 l7 l8 l9
      decide +kernel
     clear hi hall;subst ha hA;rcases hcase with⟨rfl,rfl,rfl,rfl⟩|⟨rfl,rfl,rfl,rfl⟩|⟨rfl,rfl,rfl,rfl⟩|⟨rfl,rfl⟩
     ·refine wpOp_step rfl (fun K' aa=>?_);have hK:=zh aa;clear aa;have hU1:=iT.1 rfl;have Ai:=iT.2.1 rfl;have wI:=iT.2.2.1 rfl;subst hU1 Ai wI;(try simp only[zQ]);go_simp;have hsz:=ah.out.size;exact hK.out _ _ ⟨true,false,false,l9,_,undef,undef,v12,wr.heap.size,0,pb,(by subst hf;simp<;>omega),rfl,(by simp only[zQ]),zh (zka ah.out _),zh ⟨fun h=>(by cases h),fun h=>(by cases h),fun _=>⟨rfl,heap_alloc_new wr _,hsz⟩,fun h=>(by cases h),fun h=>(by cases h),fun h=>⟨(bC.2.2.2.2.2 h).1,zkf (bC.2.2.2.2.2 h).2.1 _,(bC.2.2.2.2.2 h).2.2⟩⟩,zh ⟨fun h=>(by cases h),fun _=>rfl,fun _=>rfl,iT.2.2.2⟩⟩
     ·refine wpOp_step rfl (fun K' aa=>?_);have hK:=zh aa;clear aa;have Ai:=iT.2.1 rfl;have wI:=iT.2.2.1 rfl;obtain⟨hv6,he,hel⟩:=bC.2.2.1 rfl;subst Ai wI hv6;have hbn:=bRun;(try simp only[zQ]);go_simp;exact hK.out _ _ ⟨true,true,false,l9,_,_,undef,v12,eb,0,pb,(by subst hf;simp<;>omega),rfl,(by simp only[zQ]),ah,zh ⟨fun _=>rfl,fun h=>(by cases h),fun _=>⟨rfl,he,hel⟩,fun _=>rfl,fun h=>(by cases h),bC.2.2.2.2.2⟩,zh ⟨fun h=>(by cases h),fun h=>(by cases h),fun _=>rfl,iT.2.2.2⟩⟩
     ·refine wpOp_step rfl (fun K' aa=>?_);have hK:=zh aa;clear aa;have wI:=iT.2.2.1 rfl;obtain⟨hv6,he,hel⟩:=bC.2.2.1 rfl;have hv7:=bC.2.2.2.1 rfl;subst wI hv6 hv7;(try simp only[zQ]);go_simp;have hsz:=ah.out.size;exact hK.out _ _ ⟨true,true,true,l9,_,_,_,v12,eb,wr.heap.size,pb,(by subst hf;simp<;>omega),rfl,(by simp only[zQ]),zh (zka ah.out _),zh ⟨fun _=>rfl,fun _=>rfl,fun _=>⟨rfl,zkf he _,hel⟩,fun _=>rfl,fun _=>⟨rfl,heap_alloc_new wr _,hsz⟩,fun h=>⟨(bC.2.2.2.2.2 h).1,zkf (bC.2.2.2.2.2 h).2.1 _,(bC.2.2.2.2.2 h).2.2⟩⟩,zh ⟨fun h=>(by cases h),fun h=>(by cases h),fun h=>(by cases h),iT.2.2.2⟩⟩
     ·refine wpOp_step rfl (fun K' aa=>?_);have hK:=zh aa;clear aa;have hU4:=iT.2.2.2 rfl;subst hU4;(try simp only[zQ]);go_simp;have hsz:=ah.out.size;exact hK.out _ _ ⟨l6,l7,l8,true,v43,v44,v45,_,eb,rb,wr.heap.size,(by subst hf;simp<;>omega),rfl,(by simp only[zQ]),zh (zka ah.out _),zh ⟨bC.1,bC.2.1,fun h=>⟨(bC.2.2.1 h).1,zkf (bC.2.2.1 h).2.1 _,(bC.2.2.1 h).2.2⟩,bC.2.2.2.1,fun h=>⟨(bC.2.2.2.2.1 h).1,zkf (bC.2.2.2.2.1 h).2.1 _,(bC.2.2.2.2.1 h).2.2⟩,fun _=>⟨rfl,heap_alloc_new wr _,hsz⟩⟩,zh ⟨iT.1,iT.2.1,iT.2.2.1,fun h=>(by cases h)⟩⟩
  ·have HX:=zh (show Re=(s,0,3,[]) by rw[<-dD.out,resO,if_pos (.inr hn)]);obtain⟨n,hnn⟩:=zX (chkN p);rw[hnn];have hng:(0:Int)<(n:Int):=by omega
   clear hn hnn;have dA:=zkc aB.out mO;have mI:=zkc gK.out mO;have s0:w6.cell? ⟨W.heap.size+1,0,none⟩=some (.slice A s.cells.length c):=zc dA rfl;have s1:w6.cell? ⟨W.heap.size+1,1,none⟩=some (.slice B s.tin.length d):=zc dA rfl;have s2:w6.cell? ⟨W.heap.size+1,2,none⟩=some (.slice D s.tout.length e):=zc dA rfl;have bg:=zh (dQ.out w6 (zkb aG.out mO));have dm:=zh mI;have hbq:=mO;clear dA mI;go_wp2_with fail;refine bg.out.mono ?_;rintro e9 w9 ⟨v9,rfl,bY,aU⟩;obtain⟨A9,c9,B9,d9,D9,e9,rfl⟩:=bY.slices;have fI:=zh bY;have aF:=zh (zkb hbq aU);have aK:=zkc dm.out aU;have x0:w9.cell? ⟨W.heap.size+3,0,none⟩=some (.slice none 0 0):=zc aK rfl;have x1:w9.cell? ⟨W.heap.size+3,1,none⟩=some (.slice none 0 0):=zc aK rfl;have x2:w9.cell? ⟨W.heap.size+3,2,none⟩=some (.slice none 0 0):=zc aK rfl;have x3:w9.cell? ⟨W.heap.size+3,3,none⟩=some (.int .i64 0):=zc aK rfl
   have x4:w9.cell? ⟨W.heap.size+3,4,none⟩=some (.int .i64 0):=zc aK rfl;have xf:∀o,w9.frozen? ⟨W.heap.size+3,o,none⟩=false:=fun _=>zf aK;have gX:=zh aK;have hbr:=bRes;have ji:W.heap.size+4<=w6.heap.size:=by have:=hbq.size;rw[qX.out]at this;exact this
   clear s0 s1 s2 aK bY aU hbq bg;go_wp2_with fail;obtain⟨hh,hch⟩:=set5 (u0:=.slice A9 s.cells.length c9) (u1:=.slice B9 s.tin.length d9) (u2:=.slice D9 s.tout.length e9) (u3:=.int .i64 0) (u4:=.int .i64 3) gX.out;obtain⟨aT,bX⟩:=zX ((((((w9.setCell ⟨W.heap.size+3,0,none⟩ (.slice A9 s.cells.length c9)).setCell ⟨W.heap.size+3,1,none⟩ (.slice B9 s.tin.length d9)).setCell ⟨W.heap.size+3,2,none⟩ (.slice D9 s.tout.length e9)).setCell ⟨W.heap.size+3,3,none⟩ (.int .i64 0)).setCell ⟨W.heap.size+3,4,none⟩ (.int .i64 3)));rw[bX]at hh hch ⊢;have t0:aT.cell? ⟨W.heap.size+3,0,none⟩=some (.slice A9 s.cells.length c9):=zc hh rfl;have t1:aT.cell? ⟨W.heap.size+3,1,none⟩=some (.slice B9 s.tin.length d9):=zc hh rfl;have t2:aT.cell? ⟨W.heap.size+3,2,none⟩=some (.slice D9 s.tout.length e9):=zc hh rfl;have t3:aT.cell? ⟨W.heap.size+3,3,none⟩=some (.int .i64 0):=zc hh rfl
   have t4:aT.cell? ⟨W.heap.size+3,4,none⟩=some (.int .i64 3):=zc hh rfl;refine bodyPost_ret (v:=.tuple #[.slice none 0 0,.agg #[.slice A9 s.cells.length c9,.slice B9 s.tin.length d9,.slice D9 s.tout.length e9,.int .i64 0,.int .i64 3]]) (by simp[results,results57,go_sem,t0,t1,t2,t3,t4]) rfl ?_;rw[HX.out];exact⟨none,0,_,_,_,rfl,(fI.out.chg hch fun b hb=>by omega).lower (by omega),fun i hi=>absurd hi (by simp),zl,(zkb aG.out aF.out).trans (hch.below (zkb aG.out aF.out).size fun b hb=>by omega),nD.out,fun h=>by first|(simp at h;done)|exact absurd h yn.out⟩
structure SpG{I:Type}(P:I->Prop)(n0:Nat)(d0:I->RowD)(W0 W:World):Prop where
 ex:∃d,Rws W n0 d/\(∀q,(d q).v=(d0 q).v/\(d q).n=(d0 q).n/\(d q).xs.length=(d0 q).xs.length)/\(∀q,¬ P q->d q=d0 q)/\∀q,P q->∀u∈(d q).xs,∃n:Int,u=.int .i64 n
 chg:Chg (OwnB d0) W0 W
section
variable {I:Type} {P:I->Prop} {n0:Nat} {d0:I->RowD} {W0 W:World}
theorem SpG.new(h:Rws W n0 d0)(hi:∀q,P q->∀u∈(d0 q).xs,∃n:Int,u=.int .i64 n):SpG P n0 d0 W W:=⟨⟨d0,h,fun _=>⟨rfl,rfl,rfl⟩,fun _ _=>rfl,hi⟩,Chg.refl _ _⟩
theorem SpG.read(h:SpG P n0 d0 W0 W){q:I}(hq:P q){g o:Nat}(hg:(d0 q).v.ownBlock=some g)(ho:o<(d0 q).xs.length):(∃n:Int,W.cell? ⟨g,o,none⟩=some (.int .i64 n))/\W.frozen? ⟨g,o,none⟩=false:=by
 obtain⟨d,h1,h2,-,h4⟩:=h.ex;have hl:o<(d q).xs.length:=by rw[(h2 q).2.2];exact ho
 obtain⟨n,hn⟩:=h4 q hq _ (List.getElem_mem hl);refine⟨⟨n,h1.cell q (by rw[(h2 q).1];exact hg) (by rw[List.getElem?_eq_getElem hl,hn])⟩,h1.frozen q (by rw[(h2 q).1];exact hg) o⟩
theorem SpG.set[DecidableEq I](h:SpG P n0 d0 W0 W){q:I}(hq:P q){g o:Nat}(hg:(d0 q).v.ownBlock=some g)(ho:o<(d0 q).xs.length)(y:Int):SpG P n0 d0 W0 (W.setCell ⟨g,o,none⟩ (.int .i64 y)):=by
 obtain⟨d,h1,h2,h3,h4⟩:=h.ex;have hg':(d q).v.ownBlock=some g:=by rw[(h2 q).1];exact hg
 have hl:o<(d q).xs.length:=by rw[(h2 q).2.2];exact ho
 refine⟨⟨_,h1.set q hg' hl (.int .i64 y),fun r=>?_,fun r hr=>?_,fun r hr u hu=>?_⟩,h.chg.setCell (.inl ⟨q,hg⟩) _⟩
 ·by_cases e:r=q
  ·subst e;rw[zkt];exact⟨(h2 r).1,(h2 r).2.1,by simp[(h2 r).2.2]⟩
  ·rw[zkj e];exact h2 r
 ·rw[zkj (fun e=>hr (by rw[e];exact hq))];exact h3 r hr
 ·by_cases e:r=q
  ·subst e;rw[zkt]at hu;rcases List.mem_or_eq_of_mem_set hu with hu|rfl
   ·exact h4 r hr u hu
   ·exact⟨y,rfl⟩
  ·rw[zkj e]at hu;exact h4 r hr u hu
end
def two{I:Type}(d e:I->RowD):Bool×I->RowD
 | (false,i)=>d i
 | (true,i)=>e i
section
variable {I:Type} {P:I->Prop} {C:Nat->Prop} {n0:Nat} {d0:I->RowD} {W0 W W':World}
theorem SpG.row(h:SpG P n0 d0 W0 W)(q:I):∃E sz xs,W.ownsRow n0 E sz (d0 q).v (d0 q).n xs:=by
 obtain⟨d,h1,h2,h3⟩:=h.ex;exact⟨_,_,_,by rw[<-(h2 q).1,<-(h2 q).2.1];exact h1.row q⟩
end
theorem zzs{W:World}{n0 n sz b:Nat}{E:TypeId}{v:Value}{xs:List Value}(h:W.ownsRow n0 E sz v n xs)(hb:v.ownBlock=some b):n0<=b:=by
 rcases h.2 with⟨rfl,-⟩|⟨g,cap,cur,rfl,hg,-⟩
 ·cases hb
 ·injection hb with hb;have hb:g=b:=hb;omega
theorem zsO(vc vi vo:Value)(fc:Nat->Value)(s:SS):∀q,q ≠ .all->∀u∈(zlm vc vi vo fc s q).xs,∃n:Int,u=.int .i64 n:=by
 intro q hq u hu
 cases q with
 | all=>exact absurd rfl hq
 | el i =>
  simp only[zlm]at hu
  split at hu
  ·simp only[zkg,List.mem_map]at hu;obtain⟨n,_,rfl⟩:=hu;exact⟨n,rfl⟩
  ·simp[nilR]at hu
 | inp=>simp only[zlm,zkg,List.mem_map]at hu;obtain⟨n,_,rfl⟩:=hu;exact⟨n,rfl⟩
 | out=>simp only[zlm,zkg,List.mem_map]at hu;obtain⟨n,_,rfl⟩:=hu;exact⟨n,rfl⟩
section
variable {P:Program} {md:Region.Mode} {ops:Array Oper} {Q:Exit->Act->World->Prop} {S1 S2:World->Prop} {k:Nat}
end
theorem zzk(a b:List (List Int)):wt (a++b)=wt a+wt b:=by simp[wt]
theorem zsh{x:List (List Int)}(hx:x≠[]):x=(stOf x).cells++[(stOf x).tin]:=by
 show x=x.dropLast++[x.getLastD []]
 rw[List.getLastD_eq_getLast?,List.getLast?_eq_some_getLast hx];simp[List.dropLast_concat_getLast hx]
def RSt(n:Nat)(s t:SS):Prop:=∃x y,s=stOf x/\t=stOf y/\x.length=n+1/\y.length=n+1/\ltB x y
theorem zo2{α:Type}{x:List α}{n:Nat}(h:x.length=n+1):x≠[]:=by rintro rfl;simp at h
structure InB(vs:List VD)(x:SS):Prop where
 st:∃y,x=stOf y/\y.length=vs.length+1
 sm:SmS x
 n:x.cells.length=vs.length
theorem zrs{vs:List VD}{b:BX}(h:(b.ok&&svB vs)=true):(allS b (lenE vs b)).Pairwise (RSt vs.length):=by
 have h2:=zlJ h;unfold allS;rw[List.pairwise_map];refine List.Pairwise.imp_of_mem (fun {x y} hx hy hxy=>⟨x,y,rfl,rfl,?_,?_,hxy⟩) (zru (h:=2*b.v+1) (by omega) (lenE vs b))
 ·rw[(zn8 rfl x hx).len,h2.1]
 ·rw[(zn8 rfl y hy).len,h2.1]
theorem zrt{vs:List VD}{b:BX}(h:(b.ok&&svB vs)=true):∀x∈allS b (lenE vs b),InB vs x:=by
 intro x hx;obtain⟨y,hy,rfl⟩:=List.mem_map.1 hx;have h1:=zn8 rfl y hy;have h2:=zlJ h;have h3:=h1.len;rw[h2.1]at h3;have hc:(stOf y).cells.length=vs.length:=by simp[stOf,h3]
 have h4:∀i (hi:i<y.length),SmI y[i]:=fun i hi=>by
  have h5:=h1.get i (by rw[h2.1];omega) hi;have h6:=(h2.2.2.1 _ (List.getElem_mem (show i<(lenE vs b).length by rw[h2.1];omega))).2.2;have h7:=h2.2.2.2;exact⟨by omega,fun e he=>by have:=h5.2.2 e he;omega⟩
 have h7:∀l∈y,SmI l:=fun l hl=>by obtain⟨i,hi,rfl⟩:=List.mem_iff_getElem.1 hl;exact h4 i hi
 refine⟨⟨y,rfl,h3⟩,⟨by omega,fun l hl=>h7 l ((List.dropLast_sublist y).subset hl),?_,⟨Nat.zero_le _,fun e he=>by cases he⟩⟩,hc⟩
 show SmI (y.getLastD [])
 rw[znP (n:=y.length) rfl (by omega)];exact h4 _ (by omega)
theorem ztR{v e:Int}:(-v<=e/\e<=v)->rnk e<2*v+1:=fun h=>by unfold rnk;split<;>omega
def firE(f:Nat->SS->Bool):Nat->List SS->SS×Nat×Bool
 | n,[]=>(nilS,n,false)
 | n,s::l=>if f n s=true then(s,n+1,true)else firE f (n+1) l
theorem zoz(f:Nat->SS->Bool):∀(l:List SS) (n:Nat),
  (∃a s b,l=a++s::b/\(∀i (h:i<a.length),f (n+i) a[i]=false)/\f (n+a.length) s=true/\firE f n l=(s,n+a.length+1,true)) \/
  ((∀i (h:i<l.length),f (n+i) l[i]=false)/\firE f n l=(nilS,n+l.length,false))
 | [],n=>.inr ⟨fun i h=>by simp at h,rfl⟩
 | s::l,n=>by
  by_cases h:f n s=true
  ·exact .inl ⟨[],s,l,rfl,fun i h=>by simp at h,h,by rw[firE,if_pos h];rfl⟩
  ·have h':f n s=false:=by simpa using h
   rw[firE,if_neg h];rcases zoz f l (n+1)with⟨a,t,b,h1,h2,h3,h4⟩|⟨h2,h4⟩
   ·refine .inl ⟨s::a,t,b,by rw[h1];rfl,fun i hi=>?_,?_,?_⟩
    ·cases i with
     | zero=>exact h'
     | succ i=>have:=h2 i (by simpa using hi);rw[show n+(i+1)=n+1+i by omega];exact this
    ·rw[List.length_cons,show n+(a.length+1)=n+1+a.length by omega];exact h3
    ·rw[h4,List.length_cons,show n+(a.length+1)+1=n+1+a.length+1 by omega]
   ·refine .inr ⟨fun i hi=>?_,?_⟩
    ·cases i with
     | zero=>exact h'
     | succ i=>have:=h2 i (by simpa using hi);rw[show n+(i+1)=n+1+i by omega];exact this
    ·rw[h4,List.length_cons,show n+(l.length+1)=n+1+l.length by omega]
theorem zwN(l:List SS)(m:Nat)(h:m<l.length):firE (fun n _=>n==m) 0 l=(l[m],m+1,true):=by
 rcases zoz (fun n _=>n==m) l 0 with⟨a,s,b,h1,h2,h3,h4⟩|⟨h2,h4⟩
 ·have e:a.length=m:=by simpa using h3
  subst e;rw[h4];simp[h1]
 ·have:=h2 m h;simp at this
theorem zuG(l:List SS)(m:Nat)(h:¬ m<l.length):firE (fun n _=>n==m) 0 l=(nilS,l.length,false):=by
 rcases zoz (fun n _=>n==m) l 0 with⟨a,s,b,h1,h2,h3,h4⟩|⟨h2,h4⟩
 ·have e:a.length=m:=by simpa using h3
  rw[h1]at h;simp at h;omega
 ·rw[h4];simp
def fndE(f:SS->Bool)(l:List SS):SS×Nat×Bool:=firE (fun _=>f) 0 l
def cntS(e:SS->Int)(l:List SS)(k:Int):Nat:=(l.filter fun s=>e s==k).length
attribute [local go_sem] Oper.semAt_some
theorem al5F(W:World)(o0 o1 o2 o3 o4:Obj):Below W.heap.size W (((((W.alloc o0).alloc o1).alloc o2).alloc o3).alloc o4)/\(((((W.alloc o0).alloc o1).alloc o2).alloc o3).alloc o4).heap.size=W.heap.size+5/\(((((W.alloc o0).alloc o1).alloc o2).alloc o3).alloc o4).heap[W.heap.size]?=some o0/\(((((W.alloc o0).alloc o1).alloc o2).alloc o3).alloc o4).heap[W.heap.size+1]?=some o1/\(((((W.alloc o0).alloc o1).alloc o2).alloc o3).alloc o4).heap[W.heap.size+2]?=some o2/\(((((W.alloc o0).alloc o1).alloc o2).alloc o3).alloc o4).heap[W.heap.size+3]?=some o3/\(((((W.alloc o0).alloc o1).alloc o2).alloc o3).alloc o4).heap[W.heap.size+4]?=some o4 :=
 ⟨zka (zka (zka (zka (zka zr _) _) _) _) _,by simp,zkf (zkf (zkf (zkf (zl2 _ rfl _) _) _) _) _,zkf (zkf (zkf (zl2 _ (by simp) _) _) _) _,zkf (zkf (zl2 _ (by simp) _) _) _,zkf (zl2 _ (by simp) _) _,zl2 _ (by simp) _⟩
structure zrx(fid:FuncId)(lb:Array Value)(f:Nat->SS->Bool)(xs:List SS)(B0:Nat)(Inv:Nat->World->Prop):Prop where
 keep:∀n W W',Inv n W->W.heap.size<=W'.heap.size->(∀b,b<B0->W'.heap[b]?=W.heap[b]?)->Inv n W'
 size:∀n W,Inv n W->B0<=W.heap.size
 call:∀n s v W g,Inv n W->B0<=g->g<=W.heap.size->OwnS W g s v->xs[n]?=some s->Calls prog fid (#[v]++lb) W fun e W'=>e=.returned (.bool (f n s))/\Inv (n+1) W'/\Chg (fun b=>b<B0\/g<=b) W W'
theorem zpT{f:Nat->SS->Bool}:∀ {a b:List SS} {n:Nat},(∀i (h:i<a.length),f (n+i) a[i]=false)->firE f n (a++b)=firE f (n+a.length) b
 | [],_,_,_=>rfl
 | x::a,b,n,h=>by
  have h0:f n x=false:=h 0 (by simp);rw[List.cons_append,firE,if_neg (by rw[h0];simp),zpT (a:=a) (n:=n+1) fun i hi=>by have:=h (i+1) (by simpa using hi);simpa[Nat.add_assoc,Nat.add_comm 1 i]using this];congr 1;simp;omega
theorem zqH{f:Nat->SS->Bool}{l:List SS}(h:∀i (h:i<l.length),f i l[i]=false):firE f 0 l=(nilS,l.length,false):=by
 have:=zpT (f:=f) (a:=l) (b:=[]) (n:=0) fun i hi=>by simpa using h i hi
 rw[List.append_nil]at this;rw[this,Nat.zero_add];rfl
theorem zuF{f:Nat->SS->Bool}{l bF:List SS}{s:SS}(hp:(bF++[s]) <+: l)(h:∀i (h:i<bF.length),f i bF[i]=false)(hs:f bF.length s=true):firE f 0 l=(s,bF.length+1,true):=by
 obtain⟨t,rfl⟩:=hp;rw[List.append_assoc,zpT (n:=0) fun i hi=>by simpa using h i hi,Nat.zero_add]
 show firE f bF.length (s::t)=_
 rw[firE,if_pos hs]
theorem SV.nilF(w:World)(S:Nat->Prop):SV w S nilS (.agg #[.slice none 0 0,.slice none 0 0,.slice none 0 0]) :=
 ⟨none,0,none,0,none,0,rfl,fun i hi=>by simp[nilS]at hi,fun i hi=>by simp[nilS]at hi,fun i hi=>by simp[nilS]at hi,by simp[nilS],by simp[nilS],by simp[nilS],by simp[nilS,LI],by intro l hl;simp[nilS]at hl,by simp[nilS,LI],by simp[nilS,LI]⟩
theorem zzS:IsFn prog 93 f93:=⟨func93,by kernel_rfl,by kernel_rfl⟩
theorem zsZ:IsFn prog 47 f47:=⟨func47,by kernel_rfl,by kernel_rfl⟩
abbrev stC(w':World)(b:Nat)(A:Option Addr)(l c:Nat)(B:Option Addr)(m d:Nat)(D:Option Addr)(n e:Nat):Prop:=w'.cell? ⟨b,0,none⟩=some (.slice A l c)/\w'.cell? ⟨b,1,none⟩=some (.slice B m d)/\w'.cell? ⟨b,2,none⟩=some (.slice D n e)
def FstP(r:SS×Nat×Bool)(Inv:Nat->World->Prop)(W:World)(e:Ending)(W':World):Prop :=
 ∃v,e=.returned (.tuple #[v,.int .i64 (r.2.1:Int),.bool r.2.2])/\SV W' (fun q=>W.heap.size<=q) r.1 v/\Inv r.2.1 W'/\Chg (fun b=>b<W.heap.size) W W'
def FiI(N:Nat)(w5:World)(f:Nat->SS->Bool)(Inv:Nat->World->Prop)(pre:List SS)(C:Nat->Prop)(W:World):Prop :=
 (∀b,C b↔b<N+6)/\(∀b,N<=b->b<N+5->W.heap[b]?=w5.heap[b]?)/\W.heap[N+5]?=some (.cells #[.int .i64 (pre.length:Int)] 3 (0,0))/\Inv pre.length W/\(∀i (h:i<pre.length),f i pre[i]=false)/\N+6<=W.heap.size
def FiX(N:Nat)(w5:World)(f:Nat->SS->Bool)(Inv:Nat->World->Prop)(xs pre:List SS)(C:Nat->Prop)(W:World):Prop:=∃bF s g X A l c B1 m d D k e,pre=bF++[s]/\pre <+: xs/\(∀i (h:i<bF.length),f i bF[i]=false)/\f bF.length s=true/\(∀b,C b↔b<N+6\/(g<=b/\b<X))/\w5.heap.size<g/\X<=W.heap.size/\N+6<=W.heap.size /\
 Inv pre.length W/\W.heap[N+2]?=some (.cells #[.slice A l c,.slice B1 m d,.slice D k e] 32 (0,0))/\W.heap[N+3]?=some (.cells #[.int .i64 (pre.length:Int)] 3 (0,0))/\W.heap[N+4]?=some (.cells #[.bool true] 4 (0,0)) /\
 SV W (fun q=>g<=q/\q<X) s (.agg #[.slice A l c,.slice B1 m d,.slice D k e])
theorem FiI.chg{N:Nat}{w5 W W':World}{fid:FuncId}{lb:Array Value}{xs:List SS}{f:Nat->SS->Bool}{Inv:Nat->World->Prop}{pre:List SS}{C D:Nat->Prop}(h:FiI N w5 f Inv pre C W)(hT:zrx fid lb f xs N Inv)(hc:Chg D W W')(hD:∀b,C b->¬ D b):FiI N w5 f Inv pre C W':=by
 obtain⟨h1,h2,h3,h4,h5,h6⟩:=h;have hk:∀b,b<N+6->W'.heap[b]?=W.heap[b]?:=fun b hb=>hc.block b (Nat.lt_of_lt_of_le hb h6) (hD b ((h1 b).2 hb));exact⟨h1,fun b hb hb5=>(hk b (by omega)).trans (h2 b hb hb5),(hk _ (by omega)).trans h3,hT.keep _ _ _ h4 hc.size fun b hb=>hk b (by omega),h5,Nat.le_trans h6 hc.size⟩
theorem FiX.chg{N:Nat}{w5 W W':World}{fid:FuncId}{lb:Array Value}{xs:List SS}{f:Nat->SS->Bool}{Inv:Nat->World->Prop}{pre:List SS}{C D:Nat->Prop}(h:FiX N w5 f Inv xs pre C W)(hT:zrx fid lb f xs N Inv)(hc:Chg D W W')(hD:∀b,C b->¬ D b):FiX N w5 f Inv xs pre C W':=by
 obtain⟨bF,s,g,X,A,l,c,B1,m,d,E,k,e,h1,h2,h3,h4,h5,h6,h7,h8,h9,h10,h11,h12,lJ⟩:=h;have hk:∀b,b<N+6->W'.heap[b]?=W.heap[b]?:=fun b hb=>hc.block b (Nat.lt_of_lt_of_le hb h8) (hD b ((h5 b).2 (.inl hb)));exact⟨bF,s,g,X,A,l,c,B1,m,d,E,k,e,h1,h2,h3,h4,h5,h6,Nat.le_trans h7 hc.size,Nat.le_trans h8 hc.size,hT.keep _ _ _ h9 hc.size fun b hb=>hk b (by omega),(hk _ (by omega)).trans h10,(hk _ (by omega)).trans h11,(hk _ (by omega)).trans h12,lJ.keep (fun _ h _=>h) fun b hb _=>hc.block b (by omega) (hD b ((h5 b).2 (.inr hb)))⟩
theorem znr{W:World}{vs:List VD}{b:BX}{A1:Option Addr}{c1:Nat}{fid:FuncId}{lb:Array Value}{f:Nat->SS->Bool}{Inv:Nat->World->Prop}(hr:RowV W Any A1 vs)(hl:vs.length<=LV)(hok:(b.ok&&svB vs)=true)
  (hm:(allS b (lenE vs b)).length<=1000000){ftn:Func}(hfn:IsFn prog fid ftn)(hT:zrx fid lb f (allS b (lenE vs b)) W.heap.size Inv)(h0:Inv 0 W) :
  Calls prog 12 #[.slice A1 vs.length c1,.agg #[.int .i64 b.v,.int .i64 b.l,.int .i64 b.i],.func (.func fid) #[] lb] W (FstP (firE f 0 (allS b (lenE vs b))) Inv W):=by
 have kW:=zh (fun w' (hb:Below W.heap.size W w')=>zzi vs b A1 c1 w' (hr.later hb) hl hok);have fu:=zh hok;have HT:=zh hT;have H0:=zh h0;have HMX:=zh hm;have iL:=zh hfn;obtain⟨bv,bl,bi⟩:=b;obtain⟨N,hN⟩:=zX (W.heap.size);have HN:=zh hN;obtain⟨hb1,hz1,k0,k1,k2,k3,k4⟩:=al5F W (.cells #[.int .i64 bv,.int .i64 bl,.int .i64 bi] 24) (.cells #[.func (.func fid) #[] lb] 35) (.cells #[.slice none 0 0,.slice none 0 0,.slice none 0 0] 32) (.cells #[.int .i64 0] 3) (.cells #[.bool false] 4);obtain⟨w1,hw1⟩:=zX (((((W.alloc (.cells #[.int .i64 bv,.int .i64 bl,.int .i64 bi] 24)).alloc (.cells #[.func (.func fid) #[] lb] 35)).alloc (.cells #[.slice none 0 0,.slice none 0 0,.slice none 0 0] 32)).alloc (.cells #[.int .i64 0] 3)).alloc (.cells #[.bool false] 4));rw[hw1]at hb1 hz1 k0 k1 k2 k3 k4;rw[hN]at hz1 k0 k1 k2 k3 k4;have HB1:=zh hb1;have HZ1:=zh hz1;have aJ:=zh k0;have aB:=zh k1
 have aR:=zh k2;have gK:=zh k3;have dI:=zh k4;obtain⟨y0,y1,y2⟩:=zky k0;have t0:w1.cell? ⟨N+1,0,none⟩=some (.func (.func fid) #[] lb):=zc k1 rfl;clear hr hl hok hT h0 hm hfn hb1 hz1 k0 k1 k2 k3 k4
 show Calls prog 12 #[.slice A1 vs.length c1,.agg #[.int .i64 bv,.int .i64 bl,.int .i64 bi],.func (.func fid) #[] lb] W _
 refine(callsIn_wide (n:=3)).1 (callsIn_of_wp_marks func12 rfl trivial ((wpIn_wide (n:=3)).2 ?_));simp only[ntmps12,List.size_toArray,List.length_cons,List.length_nil,Nat.reduceAdd,Nat.reduceSub,Array.replicate_succ,Array.replicate_zero,List.push_toArray,List.append_toArray,List.nil_append,List.cons_append];have hbf:∀w,(binOp BinOp.eql 35 (.func (.func fid) #[] lb) .nilFunc).run prog w=.ok (.bool false) w:=fun w=>by first|rfl|simp[go_sem]
 clear y0 y1 y2;go_upto_region 4 with fail;simp only[Nat.add_assoc,Nat.reduceAdd];have hk5:=heap_alloc_new w1 (.cells #[.int .i64 0] 3);have hb2:=zka (zs w1) (.cells #[.int .i64 0] 3);obtain⟨w2,hw2⟩:=zX (w1.alloc (.cells #[.int .i64 0] 3));have hz2:w2.heap.size=N+6:=by rw[<-hw2];simp[HZ1.out]
 rw[hw2]at hk5 hb2 ⊢;rw[HZ1.out]at hk5 ⊢;have qD:=zh (zkc aJ.out hb2);have jG:=zh (zkc aB.out hb2);have qC:=zh (zkc aR.out hb2);have qB:=zh (zkc gK.out hb2);have jF:=zh (zkc dI.out hb2);have HK52:=zh hk5;have HB2:=zh (zkb HB1.out hb2);have HZ2:=zh hz2;clear hk5 hb2 hz2 hw2 t0;obtain⟨y0,y1,y2⟩:=zky qD.out;have iY:=zh (kW.out _ HB2.out);go_wp2_with fail;refine iY.out.mono ?_;rintro e5 w5 ⟨jY,xb,lb',A9,c9,rfl,hb5,g1,g2,g3,hM5⟩;have aQ:=zh hb5;have HG5:=zh (And.intro g1 (And.intro g2 g3));have uD:=zh hM5;clear hb5 g1 g2 g3 hM5 y0 y1 y2 iY;go_wp2_with fail;have hlb:=zlJ fu.out
 have yT:=zh (zvJ (nf:=3-1) (S:=fun q=>w2.heap.size<=q/\q<w5.heap.size) ⟨uD.out.ok,uD.out.bx,uD.out.ls,uD.out.row.keep (fun b h hlt=>⟨h,hlt⟩) fun _ _ _=>rfl⟩ ⟨hlb.2.2.2.1,hlb.2.2.2.2⟩ ⟨by rw[hlb.1];omega,by rw[hlb.1];have:=hlb.2.1;omega⟩ fun q hq=>(hlb.2.2.1 q hq).2);clear hlb;have pV:=zh (show N+6<=w5.heap.size by have:=aQ.out.size;have:=HZ2.out;omega);have HI0:=zh (HT.out.keep _ _ _ H0.out (zkb HB2.out aQ.out).size fun b hb=>(zkb HB2.out aQ.out).block b hb);rw[HN.out]at HT;refine(wpIn_wide (n:=3)).1 ?_;refine zsS (n:=3) (gf:=93) (lb := #[ptr0 jY,ptr0 xb,ptr0 lb']) rfl (zkN zzS) yT.out (fun l x vs' g W' h=>by obtain⟨v9,rfl,-,h2,-⟩:=h;exact⟨rfl,h2⟩)
  (FiI N w5 f Inv) (FiX N w5 f Inv (allS ⟨bv,bl,bi⟩ (lenE vs ⟨bv,bl,bi⟩))) (fun b=>b<N+6)
  (fun pre C W' W'' h hc=>h.chg HT.out hc fun b hb h=>h hb) (fun pre C W' W'' h hc=>h.chg HT.out hc fun b hb h=>h hb) (fun pre C W' h b hb=>Nat.lt_of_lt_of_le ((h.1 b).1 hb) h.2.2.2.2.2) (fun pre C W' h b hb=>by obtain⟨_,_,g,X,_,_,_,_,_,_,_,_,_,_,_,_,_,h5,h6,h7,h8,_⟩:=h;rcases(h5 b).1 hb with h|h<;>omega)
  (fun b h1 h2=>by
   have:=HG5.out;have:=HZ2.out;rcases h2 with h|h|h|h<;>omega) (fun b h=>by
   rcases h with rfl|rfl|rfl|h
   ·exact zkp uD.out.ok
   ·exact zkp uD.out.bx
   ·exact zkp uD.out.ls
   ·exact h.2) ⟨fun _=>Iff.rfl,fun _ _ _=>rfl,zkc HK52.out aQ.out,HI0.out,fun i h=>by simp at h,pV.out⟩ ?_ ?_ ?_
 ·rintro l pre x C W3 vs' g hI vz AL hl hlW hpre ⟨sv,rfl,hsv,zK⟩;clear vz;have hxm:x∈allS ⟨bv,bl,bi⟩ (lenE vs ⟨bv,bl,bi⟩):=hpre.subset (by simp);have hpl:pre.length<1000000:=by have h1:=hpre.length_le;have h2:=HMX.out;simp only[List.length_append,List.length_cons,List.length_nil]at h1;omega
  have hxc:x.cells.length<=100:=by
   obtain⟨y,hy,rfl⟩:=List.mem_map.1 hxm;have h1:=(zn8 rfl y hy).len;have h2:=zlJ fu.out;simp only[stOf,List.length_dropLast];omega
  obtain⟨As,cs,Bs,ds,Ds,es,rfl⟩:∃A c B d D e,sv=.agg #[.slice A x.cells.length c,.slice B x.tin.length d,.slice D x.tout.length e]:=by
   obtain⟨A,c,B,d,D,e,rfl,-⟩:=hsv;exact⟨_,_,_,_,_,_,rfl⟩
  change Code.wpIn (Fence.wide.inRound l) (3-1-1) prog _ _ _ _
  gi_wp2
  refine⟨(Chg.refl _ _).alloc _,fun W4 tL=>?_⟩;have hbx:=tL.keep (heap_alloc_new W3 (.cells #[.slice As x.cells.length cs,.slice Bs x.tin.length ds,.slice Ds x.tout.length es] 32)) (show ¬ W3.heap.size=l by omega);have tH:=zka (zs W3) (.cells #[.slice As x.cells.length cs,.slice Bs x.tin.length ds,.slice Ds x.tout.length es] 32);have vg:=(hI.chg HT.out (Chg.of_below tH) (fun b hb h=>h)).chg HT.out tL (fun b hb h=>AL (by have h:b=l:=h;rwa[h]at hb));have hsv4:SV W4 (fun q=>g<=q) x (.agg #[.slice As x.cells.length cs,.slice Bs x.tin.length ds,.slice Ds x.tout.length es]):=(hsv.later tH).keep (fun _ h _=>h) fun q h hlt=>tL.block q hlt (fun e:q=l=>by have h:g<=q:=h;omega);obtain⟨xp,hxp⟩:=zX (W3.heap.size);rw[hxp]at hbx ⊢;have hg6:N+6<=g:=by have:=pV.out;omega
  have hxp6:g<=xp:=by omega
  have z5:W4.cell? ⟨N+5,0,none⟩=some (.int .i64 (pre.length:Int)):=zc vg.2.2.1 rfl;have cf5:∀o,W4.frozen? ⟨N+5,o,none⟩=false:=fun o=>zf vg.2.2.1;obtain⟨W5,ig,bQ,jm⟩:=setU (o:=0) (.int .i64 ((pre.length:Int)+1)) vg.2.2.1;have HI4:=zh vg;have HSV4:=zh hsv4;have aX:=zh hbx;have HXC:=zh hxc;have HCLL:=zh AL;have HXM:=zh (show(allS ⟨bv,bl,bi⟩ (lenE vs ⟨bv,bl,bi⟩))[pre.length]?=some x by obtain⟨t,ht⟩:=hpre;rw[<-ht];simp);have oD:=zh (And.intro hl (And.intro hlW (And.intro zK (And.intro hg6 hxp6))));have gH:=zh hpre;have gY:=zh bQ;have yK:=zh jm;clear hI hpre hbx vg hsv4 tL hsv hxc AL hl hlW zK tH hxm bQ jm hg6 hxp6;change Code.wpIn (Fence.wide.inRound l) (3-1-1) prog _ _ _ _
  gi_upto_region 7 with fail
  have hk15:=gY.out.keep ((HI4.out.2.1 (N+1) (by omega) (by omega)).trans (zkc jG.out aQ.out)) (fun e:N+1=N+5=>by omega);have hx5:=gY.out.keep aX.out (fun e:xp=N+5=>by have:=oD.out;omega);have HSV5:=zh (HSV4.out.keep (S':=Any) (fun _ _ _=>trivial) fun q h hlt=>gY.out.block q hlt (fun e:q=N+5=>by have h:g<=q:=h;have:=oD.out;omega));have og:=zh hx5;have hSS:(fun w':World=>zv w' (N+1) 0 (.func (.func fid) #[] lb)/\stC w' xp As x.cells.length cs Bs x.tin.length ds Ds x.tout.length es) W5.drew:=⟨zc hk15 rfl,zky hx5⟩
  refine zma (ro:=some l) (fun w':World=>zv w' (N+1) 0 (.func (.func fid) #[] lb)/\stC w' xp As x.cells.length cs Bs x.tin.length ds Ds x.tout.length es) (by kernel_rfl) ?_;clear hk15 hx5 z5 cf5 ig;refine zI 0 hSS ?_;refine zI 1 hSS ?_;have hcl:=zp7 x _ W5.drew (HSV5.out.later zr.drew) (by have:=HXC.out;omega);have had:Calls prog 47 [.agg #[.slice As x.cells.length cs,.slice Bs x.tin.length ds,.slice Ds x.tout.length es]].toArray W5.drew fun e w'=>∃u,e=.returned u/\(OwnS w' W5.heap.size x u/\Below W5.heap.size W5 w') :=
   hcl.mono fun e w' ⟨v,h1,h2,h3⟩=>⟨v,h1,h2,zkb (zs W5).drew h3⟩
  refine znt (i:=2) (by kernel_rfl) rfl (by kernel_rfl) (by rfl) (fun K hK=>?_);refine zke (by rfl) (.func 47) [.tmp 21] _ (by rfl) 47 _ zsZ (by rfl) _ (by rfl) _ had ?_;rintro u w6 ⟨ko,hb6⟩;have wK:(fun w':World=>zv w' (N+1) 0 (.func (.func fid) #[] lb)/\stC w' xp As x.cells.length cs Bs x.tin.length ds Ds x.tout.length es) w6:=⟨zb hb6 hSS.1,zb hb6 hSS.2.1,zb hb6 hSS.2.2.1,zb hb6 hSS.2.2.2⟩
  refine hK.out _ _ wK ?_;clear hK K had hcl hSS;(try simp only[zQ]);have oL:W4.heap.size<=W5.heap.size:=gY.out.size;have hN4:N+6<=W4.heap.size:=HI4.out.2.2.2.2.2;have iy:Chg (fun q=>q=N+5) W4 w6:=gY.out.trans2 (Chg.of_below (C:=fun _=>False) hb6) fun b _ h=>h.elim;have bJ:Inv pre.length w6:=HT.out.keep _ _ _ HI4.out.2.2.2.1 iy.size fun b hb=>iy.block b (by omega) (fun e=>by have e:b=N+5:=e;omega);have had2:Calls prog fid ([u].toArray++lb) w6 fun e w'=>∃z,e=.returned z/\(z=.bool (f pre.length x)/\Inv (pre.length+1) w'/\Chg (fun b=>b<N\/W5.heap.size<=b) w6 w') :=
   (HT.out.call pre.length x u w6 W5.heap.size bJ (by omega) hb6.size ko HXM.out).mono fun e w' ⟨h1,h2,h3⟩=>⟨_,h1,rfl,h2,h3⟩
  refine znt (i:=3) (by kernel_rfl) rfl (by kernel_rfl) (by rfl) (fun K hK=>?_);refine zk5 (by rfl) (.tmp 20) [.tmp 22] _ (by rfl) fid _ iL.out lb (by rfl) _ (by rfl) _ had2 ?_;rintro z w7 ⟨rfl,bu,qQ⟩;have tu:=qQ.keep (zkc og.out hb6) (fun e=>by have:=oD.out;have:=zkp og.out;rcases e with e|e<;>omega);have hk17:=qQ.keep (zkc (gY.out.keep ((HI4.out.2.1 (N+1) (by omega) (by omega)).trans (zkc jG.out aQ.out)) (fun e:N+1=N+5=>by omega)) hb6) (fun e=>by rcases e with e|e<;>omega);refine hK.out _ _ ⟨zc hk17 rfl,zky tu⟩ ?_;clear hK K had2 wK bJ;(try simp only[zQ]);refine zpt (by kernel_rfl) ?_;have hch:Chg C W4 w7:=(iy.mono fun q _ (e:q=N+5)=>(HI4.out.1 q).2 (by omega)).trans2 qQ fun q hlt e=>(HI4.out.1 q).2 (by rcases e with e|e<;>omega)
  have hlow:∀b,N<=b->b<N+5->w7.heap[b]?=w5.heap[b]?:=fun b h1 h2=>((qQ.block b (by have:=iy.size;omega) (fun e=>by rcases e with e|e<;>omega)).trans (iy.block b (by omega) (fun e=>by have e:b=N+5:=e;omega))).trans (HI4.out.2.1 b h1 h2);have nX:w7.heap[N+5]?=some (.cells #[.int .i64 ((pre.length:Int)+1)] 3 (0,0)):=by
   refine qQ.keep (zkc ?_ hb6) (fun e=>by rcases e with e|e<;>omega);have:=yK.out;simpa using this
  have hsv7:SV w7 (fun q=>g<=q/\q<w7.heap.size) x (.agg #[.slice As x.cells.length cs,.slice Bs x.tin.length ds,.slice Ds x.tout.length es]) :=
   HSV4.out.keep (fun q h hlt=>⟨h,Nat.lt_of_lt_of_le hlt hch.size⟩) fun q h hlt=>(qQ.block q (by have:=iy.size;omega) (fun e=>by have h:g<=q:=h;have:=oD.out;rcases e with e|e<;>omega)).trans (iy.block q hlt (fun e=>by have h:g<=q:=h;have e:q=N+5:=e;have:=oD.out;omega))
  have bS:=zh hch;have qy:=zh hlow;have oC:=zh nX;have HSV7:=zh hsv7;have iW:=zh bu;have wU:=zh tu;have jf:N+6<=w7.heap.size:=by have:=hch.size;omega
  have Bd:=zh jf;clear hch hlow nX hsv7 bu tu hk17 qQ hb6 ko iy oL hN4 jf;obtain⟨ft,hft⟩:=zX (f pre.length x);rw[hft];have lQ:=zh hft;clear hft
  cases ft
  ·gi_wp2
   refine⟨C,⟨HI4.out.1,qy.out,by rw[oC.out];simp,by simpa using iW.out,fun i hi=>?_,Bd.out⟩,fun b hb=>.inl hb,bS.out⟩;by_cases h9:i<pre.length
   ·rw[List.getElem_append_left h9];exact HI4.out.2.2.2.2.1 i h9
   ·obtain rfl:i=pre.length:=by simp at hi;omega
    rw[List.getElem_append_right zl];simp only[Nat.sub_self,List.getElem_cons_zero];exact lQ.out
  ·gi_upto_region 8 with fail
   have hk2:=(qy.out (N+2) (by omega) (by omega)).trans (zkc qC.out aQ.out);have hk3:=(qy.out (N+3) (by omega) (by omega)).trans (zkc qB.out aQ.out);have hk4:=(qy.out (N+4) (by omega) (by omega)).trans (zkc jF.out aQ.out);have nY:(fun w':World=>zv w' (N+5) 0 (.int .i64 ((pre.length:Int)+1))/\stC w' xp As x.cells.length cs Bs x.tin.length ds Ds x.tout.length es) w7.drew:=⟨zc oC.out rfl,zky wU.out⟩
   refine zma (ro:=some l) (fun w':World=>zv w' (N+5) 0 (.int .i64 ((pre.length:Int)+1))/\stC w' xp As x.cells.length cs Bs x.tin.length ds Ds x.tout.length es) (by kernel_rfl) ?_;refine zI 0 nY ?_;refine zI 1 nY ?_;have hdw:Below w7.heap.size w7 w7.drew:=zr.drew;obtain⟨w8,hw8⟩:=zX (w7.drew);rw[hw8]at hdw nY ⊢;have hxb:=zkc wU.out hdw;have hnb:=zkc oC.out hdw
   replace hk2:=zkc hk2 hdw
   replace hk3:=zkc hk3 hdw
   replace hk4:=zkc hk4 hdw
   obtain⟨q0,q1,q2⟩:=zky hk2;have cf:∀o,w8.frozen? ⟨N+2,o,none⟩=false:=fun o=>zf hk2;obtain⟨w9,dw,bG,fF⟩:=st3 (.slice As x.cells.length cs) (.slice Bs x.tin.length ds) (.slice Ds x.tout.length es) hk2;refine znt (i:=2) (by kernel_rfl) rfl (by kernel_rfl) (by rfl) (fun K hK=>?_);(try simp only[zA,zB,zC]);go_simp;refine hK.out _ _ ⟨zc (bG.keep hnb (fun(e:N+5=N+2)=>by omega)) rfl,zky (bG.keep hxb (fun e:xp=N+2=>by have:=oD.out;omega))⟩ ?_;clear hK K q0 q1 q2 cf;(try simp only[zQ]);have gq:=bG.keep hk3 (fun e:N+3=N+2=>by omega);have q0:w9.cell? ⟨N+3,0,none⟩=some (.int .i64 0):=zc gq rfl;have cf:∀o,w9.frozen? ⟨N+3,o,none⟩=false:=fun o=>zf gq;obtain⟨aT,bX,jo,mo⟩:=setU (o:=0) (.int .i64 ((pre.length:Int)+1)) gq;refine znt (i:=3) (by kernel_rfl) rfl (by kernel_rfl) (by rfl) (fun K hK=>?_);(try simp only[zA,zB,zC]);go_simp
   have hc:Chg (fun q=>q=N+2\/q=N+3) w8 aT:=(bG.mono fun q _ e=>.inl e).trans2 jo fun q _ e=>.inr e;refine hK.out _ _ ⟨zc (hc.keep hnb (fun e=>by rcases e with e|e<;>omega)) rfl,zky (hc.keep hxb (fun e=>by have:=oD.out;rcases e with e|e<;>omega))⟩ ?_;clear hK K q0 cf;(try simp only[zQ]);have cK:=hc.keep hk4 (fun e=>by rcases e with e|e<;>omega);have q0:aT.cell? ⟨N+4,0,none⟩=some (.bool false):=zc cK rfl;have cf:∀o,aT.frozen? ⟨N+4,o,none⟩=false:=fun o=>zf cK;obtain⟨aO,fP,dM,mi⟩:=setU (o:=0) (.bool true) cK;refine znt (i:=4) (by kernel_rfl) rfl (by kernel_rfl) (by rfl) (fun K hK=>?_);(try simp only[zA,zB,zC]);go_simp;have hcx:Chg (fun q=>q=N+2\/q=N+3\/q=N+4) w7 aO:=(Chg.of_below hdw).trans2 ((hc.mono fun q _ e=>e.elim .inl fun e=>.inr (.inl e)).trans2 dM fun q _ e=>.inr (.inr e)) fun q _ e=>e
   have hx11:=hcx.keep wU.out (fun e=>by have:=oD.out;rcases e with e|e|e<;>omega);have lZ:=hcx.keep oC.out (fun e=>by rcases e with e|e|e<;>omega);have hk2':=dM.keep (jo.keep fF (fun e:N+2=N+3=>by omega)) (fun e:N+2=N+4=>by omega);have hk3':=dM.keep mo (fun e:N+3=N+4=>by omega);have jI:=zh (show FiX N w5 f Inv (allS ⟨bv,bl,bi⟩ (lenE vs ⟨bv,bl,bi⟩)) (pre++[x]) (fun b=>b<N+6\/(g<=b/\b<aO.heap.size)) aO from
    ⟨pre,x,g,aO.heap.size,As,_,cs,Bs,_,ds,Ds,_,es,rfl,gH.out,HI4.out.2.2.2.2.1,lQ.out,fun b=>Iff.rfl,(by have:=oD.out;omega),zl,Nat.le_trans Bd.out hcx.size,
     by simpa using HT.out.keep _ _ _ iW.out hcx.size fun b hb=>hcx.block b (by have:=Bd.out;omega) (fun e=>by rcases e with e|e|e<;>omega),hk2',by rw[hk3'];simp,mi,
     HSV7.out.keep (fun q h hlt=>⟨h.1,Nat.lt_of_lt_of_le hlt hcx.size⟩) fun q h hlt=>hcx.block q hlt fun e=>by have h:g<=q:=h.1;have:=oD.out;rcases e with e|e|e<;>omega⟩)
   have nL:=zh (bS.out.trans2 hcx fun q _ e=>(HI4.out.1 q).2 (by rcases e with e|e|e<;>omega));refine hK.out _ _ ⟨zc lZ rfl,zky hx11⟩ ?_;clear hK K q0 cf hcx hx11 lZ hk2' hk3' dM mi jo mo bG fF hc cK gq hk2 hk3 hk4 hxb hnb hdw nY;(try simp only[zQ]);refine zpt (by kernel_rfl) ?_
   gi_wp2
   exact⟨_,jI.out,(fun b hb=>by rcases hb with h|h;exact .inl ((HI4.out.1 b).2 h);exact .inr h.1),nL.out⟩
 ·intro D C W' hD hI hch hK;have mq:Chg (fun b=>b<N+6) w5 W':=hch;have hk2:=(hI.2.1 (N+2) (by omega) (by omega)).trans (zkc qC.out aQ.out);have hk3:=(hI.2.1 (N+3) (by omega) (by omega)).trans (zkc qB.out aQ.out);have hk4:=(hI.2.1 (N+4) (by omega) (by omega)).trans (zkc jF.out aQ.out);have zH:=hI.2.2.1;have BR:=zh hI;have bS:=zh mq;have HK:=zh hK;have HD:=zh (show w5.heap.size=D from hD.symm);have aR:=zh hk2;have gK:=zh hk3;have dI:=zh hk4;have xn:=zh zH;clear hI hch mq hK hD hk2 hk3 hk4 zH;go_upto_region 9 with fail;have nY:zW (fun w':World=>zv w' (N+5) 0 (.int .i64 ((allS ⟨bv,bl,bi⟩ (lenE vs ⟨bv,bl,bi⟩)).length:Int))) zU W'.drew:=⟨zc xn.out rfl,trivial⟩
  refine wp_region_noPanic ?_;refine zG nY 4 ?_;refine zT 0 nY ?_;refine zT 1 nY ?_;have hdw:Below W'.heap.size W' W'.drew:=zr.drew;obtain⟨w8,hw8⟩:=zX (W'.drew);rw[hw8]at hdw nY ⊢;have hnb:=zkc xn.out hdw;have hk2:=zkc aR.out hdw;have hk3:=zkc gK.out hdw;have hk4:=zkc dI.out hdw;obtain⟨q0,q1,q2⟩:=zky hk2;have cf:∀o,w8.frozen? ⟨N+2,o,none⟩=false:=fun o=>zf hk2;obtain⟨w9,dw,bG,fF⟩:=st3 (.slice none 0 0) (.slice none 0 0) (.slice none 0 0) hk2;refine zo 2 fun K hK=>?_;(try simp only[zA,zB,zC]);go_simp;refine hK.out _ _ ⟨zc (bG.keep hnb (fun(e:N+5=N+2)=>by omega)) rfl,trivial⟩ ?_;clear hK K q0 q1 q2 cf;(try simp only[zQ]);have gq:=bG.keep hk3 (fun e:N+3=N+2=>by omega);have q0:w9.cell? ⟨N+3,0,none⟩=some (.int .i64 0):=zc gq rfl;have cf:∀o,w9.frozen? ⟨N+3,o,none⟩=false:=fun o=>zf gq
  obtain⟨aT,bX,jo,mo⟩:=setU (o:=0) (.int .i64 ((allS ⟨bv,bl,bi⟩ (lenE vs ⟨bv,bl,bi⟩)).length:Int)) gq;refine zo 3 fun K hK=>?_;(try simp only[zA,zB,zC]);go_simp;have hc:Chg (fun q=>q=N+2\/q=N+3) w8 aT:=(bG.mono fun q _ e=>.inl e).trans2 jo fun q _ e=>.inr e;refine hK.out _ _ ⟨zc (hc.keep hnb (fun e=>by rcases e with e|e<;>omega)) rfl,trivial⟩ ?_;clear hK K q0 cf;(try simp only[zQ]);have cK:=hc.keep hk4 (fun e=>by rcases e with e|e<;>omega);have q0:aT.cell? ⟨N+4,0,none⟩=some (.bool false):=zc cK rfl;have cf:∀o,aT.frozen? ⟨N+4,o,none⟩=false:=fun o=>zf cK;obtain⟨aO,fP,dM,mi⟩:=setU (o:=0) (.bool false) cK;refine zp 4 fun K hK=>?_;(try simp only[zA,zB,zC]);go_simp;have hcx:Chg (fun q=>q=N+2\/q=N+3\/q=N+4) W' aO:=(Chg.of_below hdw).trans2 ((hc.mono fun q _ e=>e.elim .inl fun e=>.inr (.inl e)).trans2 dM fun q _ e=>.inr (.inr e)) fun q _ e=>e
  have aI:=zh (dM.keep (jo.keep fF (fun e:N+2=N+3=>by omega)) (fun e:N+2=N+4=>by omega));have bR:=zh (dM.keep mo (fun e:N+3=N+4=>by omega));have BD:=zh mi;have rG:=zh (hcx.keep HK.out (fun e=>by have:=pV.out;have:=HD.out;rcases e with e|e|e<;>omega));have nL:=zh hcx;have lZ:=hcx.keep xn.out (fun e=>by rcases e with e|e|e<;>omega);refine hK.out _ _ (zc lZ rfl) ?_;clear hK K q0 cf hcx lZ dM mi jo mo bG fF hc cK gq hk2 hk3 hk4 hnb hdw nY;(try simp only[zQ]);refine zd ?_;refine NoPanic.normal ?_;go_wp2_with fail;refine⟨by simp,.inl ⟨_,_,rfl,run_takeDeferred rG.out,?_⟩⟩;have hcd:=Chg.putObj aO D (.deferred none);have hND:N+5<D:=by have:=pV.out;have:=HD.out;omega
  have hn2:=hcd.keep aI.out (fun(e:N+2=D)=>by omega);have dx:=hcd.keep bR.out (fun(e:N+3=D)=>by omega);have qO:=hcd.keep BD.out (fun(e:N+4=D)=>by omega);obtain⟨t0,t1,t2⟩:=zky hn2;have t3:(aO.putObj D (.deferred none)).cell? ⟨N+3,0,none⟩=some (.int .i64 ((allS ⟨bv,bl,bi⟩ (lenE vs ⟨bv,bl,bi⟩)).length:Int)):=zc dx rfl;have t4:(aO.putObj D (.deferred none)).cell? ⟨N+4,0,none⟩=some (.bool false):=zc qO rfl;have hbb:=zkb HB2.out aQ.out;have sZ:Chg (fun q=>q=N+2\/q=N+3\/q=N+4\/q=D) W' (aO.putObj D (.deferred none)):=(nL.out.mono fun q _ e=>by rcases e with e|e|e;exact .inl e;exact .inr (.inl e);exact .inr (.inr (.inl e))).trans2 hcd fun q _ e=>.inr (.inr (.inr e))
  have hcw:Chg (fun b=>b<N+6\/b=D) w5 (aO.putObj D (.deferred none)):=(bS.out.mono fun b _ h=>.inl h).trans2 sZ fun q _ e=>by rcases e with e|e|e|e;exact .inl (by omega);exact .inl (by omega);exact .inl (by omega);exact .inr e
  rw[zqH BR.out.2.2.2.2.1];refine⟨.tuple #[.agg #[.slice none 0 0,.slice none 0 0,.slice none 0 0],.int .i64 ((allS ⟨bv,bl,bi⟩ (lenE vs ⟨bv,bl,bi⟩)).length:Int),.bool false],by simp[results,results12,go_sem,t0,t1,t2,t3,t4],_,rfl,SV.nilF _ _,HT.out.keep _ _ _ BR.out.2.2.2.1 sZ.size fun b hb=>sZ.block b (by have:=BR.out.2.2.2.2.2;omega) (fun e=>by rcases e with e|e|e|e<;>omega),?_⟩;exact(Chg.of_below hbb).trans2 hcw fun b hlt e=>hlt
 ·intro D pre C W' hD hX hch hK;obtain⟨bF,s,g,X,As,ls,cs,Bs,ms,ds,Ds,ks',es,rfl,h2,h3,h4,h5,h6,h7,h8,h9,h10,h11,h12,lJ⟩:=hX;have mq:Chg (fun b=>b<N+6) w5 W':=hch;have HF:=zh (zuF h2 h3 h4);have bS:=zh mq;have HK:=zh hK;have HD:=zh (show w5.heap.size=D from hD.symm);have HS:=zh lJ;have aI:=zh h10;have bR:=zh h11;have BD:=zh h12;have HG:=zh (And.intro h6 (And.intro h7 h8));have xy:=zh h9;clear h2 h3 h4 h5 h6 h7 h8 h9 h10 h11 h12 lJ hch mq hK hD;refine wpIn_ret ?_;simp only[Exit.inBlock,Exit.then];refine⟨by simp,.inl ⟨_,_,rfl,run_takeDeferred HK.out,?_⟩⟩;have hcd:=Chg.putObj W' D (.deferred none);have hND:N+5<D:=by have:=pV.out;have:=HD.out;omega
  have hn2:=hcd.keep aI.out (fun(e:N+2=D)=>by omega);have dx:=hcd.keep bR.out (fun(e:N+3=D)=>by omega);have qO:=hcd.keep BD.out (fun(e:N+4=D)=>by omega);obtain⟨t0,t1,t2⟩:=zky hn2;have t3:(W'.putObj D (.deferred none)).cell? ⟨N+3,0,none⟩=some (.int .i64 ((bF++[s]).length:Int)):=zc dx rfl;have t4:(W'.putObj D (.deferred none)).cell? ⟨N+4,0,none⟩=some (.bool true):=zc qO rfl;have hbb:=zkb HB2.out aQ.out;have hcw:Chg (fun b=>b<N+6\/b=D) w5 (W'.putObj D (.deferred none)):=(bS.out.mono fun b _ h=>.inl h).trans2 hcd fun q _ e=>.inr e;rw[HF.out];have hpl:(((bF++[s]).length:Nat):Int)=((bF.length+1:Nat):Int):=by simp
  refine⟨.tuple #[.agg #[.slice As ls cs,.slice Bs ms ds,.slice Ds ks' es],.int .i64 ((bF.length+1:Nat):Int),.bool true],by simp[results,results12,go_sem,t0,t1,t2,t3,t4],_,rfl,HS.out.keep (fun q h _=>by have:=HG.out;have:=hbb.size;show W.heap.size<=q;omega) fun q h hlt=>hcd.block q hlt fun e=>by have h:g<=q:=h.1;have e:q=D:=e;have:=HG.out;have:=HD.out;omega,by simpa using HT.out.keep _ _ _ xy.out hcd.size fun b hb=>hcd.block b (by have:=HG.out;omega) (fun(e:b=D)=>by omega),?_⟩;exact(Chg.of_below hbb).trans2 hcw fun b hlt e=>hlt
end
section
open Go Go.RowKit
def FwP(W:World)(R:SS×Nat×Int×List Nat)(e:Ending)(W':World):Prop:=∃v1 v2 v3,e=.returned (.agg #[v1,v2,v3,.int .i64 (R.2.1:Int),.int .i64 R.2.2.1]) /\
 OwnS W' W.heap.size R.1 (.agg #[v1,v2,v3])/\Below W.heap.size W W'/\LimR R
theorem zrB(p:PG)(s:SS)(F:Int)(g:Nat)(v sv:Value)(W:World)(hp:PV W Any p v)(hs:SV W Any s sv)(hcl:s.cells.length<=5864062014800)(hF:I64 F)(eu:F<=1000000)(hg:F.toNat*2000+2000<=g)(hfam:Fam p) :
  Calls prog 21 #[v,sv,.int .i64 F] W (FwP W (resO p s F g false)):=by
 have mX:=zh hp;have HSX:=zh hs;obtain⟨A1,c1,A2,c2,A3,c3,rfl,oV⟩:=hp;obtain⟨A,c,B,d,D,e,rfl,hr1,hr2,hr3,hc1,hc2,hc3,hl1,hl2,hl3,hl4⟩:=hs;have HST:=zh (fun w' (hb:Below W.heap.size W w')=>ztG p s F g false _ _ w' (mX.out.later hb) (HSX.out.later hb) hcl hF eu hg hfam);have hb3:=zka (zka (zka (zs W) (.cells #[.slice A1 p.vs.length c1,.slice A2 p.prs.length c2,.int .u8 p.m.k,.int .i64 p.m.n,.string p.m.s,.slice A3 p.m.ks.length c3] 43)) (.cells #[.slice A s.cells.length c,.slice B s.tin.length d,.slice D s.tout.length e] 32)) (.cells #[.slice none 0 0,.slice none 0 0,.slice none 0 0,.int .i64 0,.int .i64 0] 59)
 have k2:=heap_alloc_new ((W.alloc (.cells #[.slice A1 p.vs.length c1,.slice A2 p.prs.length c2,.int .u8 p.m.k,.int .i64 p.m.n,.string p.m.s,.slice A3 p.m.ks.length c3] 43)).alloc (.cells #[.slice A s.cells.length c,.slice B s.tin.length d,.slice D s.tout.length e] 32)) (.cells #[.slice none 0 0,.slice none 0 0,.slice none 0 0,.int .i64 0,.int .i64 0] 59);simp only[World.size_alloc]at k2;obtain⟨Re,hRe⟩:=zX (resO p s F g false);rw[hRe]at HST;have HR:=zh hRe;have HB3:=zh hb3;have aR:=zh k2;have hz3:W.heap.size+3<=(((W.alloc (.cells #[.slice A1 p.vs.length c1,.slice A2 p.prs.length c2,.int .u8 p.m.k,.int .i64 p.m.n,.string p.m.s,.slice A3 p.m.ks.length c3] 43)).alloc (.cells #[.slice A s.cells.length c,.slice B s.tin.length d,.slice D s.tout.length e] 32)).alloc (.cells #[.slice none 0 0,.slice none 0 0,.slice none 0 0,.int .i64 0,.int .i64 0] 59)).heap.size:=by simp
 rw[hRe];clear oV hr1 hr2 hr3 hRe hb3 k2 hl1 hl2 hl3 hl4 hc1 hc2 hc3;clear hfam;go_enter func21,ntmps21;go_wp2_with fail;refine(HST.out _ HB3.out).mono ?_;rintro e9 w9 ⟨A9,c9,v1,v2,v3,rfl,bY,-,-,aU,hlm9⟩;have nD:=zh hlm9;clear hlm9;obtain⟨A4,c4,B5,d5,D6,e6,h6⟩:=bY.slices;injection h6 with h6;injection h6 with h6;injection h6 with h6 h7;injection h7 with h7 h8;injection h8 with h8 _;subst h6 h7 h8;have fI:=zh bY;have aF:=zh aU;have aK:=zkc aR.out aU;have x0:w9.cell? ⟨W.heap.size+1+1,0,none⟩=some (.slice none 0 0):=zc aK rfl;have x1:w9.cell? ⟨W.heap.size+1+1,1,none⟩=some (.slice none 0 0):=zc aK rfl;have x2:w9.cell? ⟨W.heap.size+1+1,2,none⟩=some (.slice none 0 0):=zc aK rfl;have x3:w9.cell? ⟨W.heap.size+1+1,3,none⟩=some (.int .i64 0):=zc aK rfl;have x4:w9.cell? ⟨W.heap.size+1+1,4,none⟩=some (.int .i64 0):=zc aK rfl
 have xf:∀o,w9.frozen? ⟨W.heap.size+1+1,o,none⟩=false:=fun _=>zf aK;have y0:=fun o=>zks x0 o;have y1:=fun o=>zks x1 o;have y2:=fun o=>zks x2 o;have y3:=fun o=>zks x3 o;have y4:=fun o=>zks x4 o;have hlt9:W.heap.size+1+1<w9.heap.size:=zkp aK;have gX:=zh aK;clear bY aU aK;go_wp2_with fail;obtain⟨hh,hch⟩:=set5 (u0:=.slice A4 Re.1.cells.length c4) (u1:=.slice B5 Re.1.tin.length d5) (u2:=.slice D6 Re.1.tout.length e6) (u3:=.int .i64 (Re.2.1:Int)) (u4:=.int .i64 Re.2.2.1) gX.out;obtain⟨aT,bX⟩:=zX ((((((w9.setCell ⟨W.heap.size+1+1,0,none⟩ (.slice A4 Re.1.cells.length c4)).setCell ⟨W.heap.size+1+1,1,none⟩ (.slice B5 Re.1.tin.length d5)).setCell ⟨W.heap.size+1+1,2,none⟩ (.slice D6 Re.1.tout.length e6)).setCell ⟨W.heap.size+1+1,3,none⟩ (.int .i64 (Re.2.1:Int))).setCell ⟨W.heap.size+1+1,4,none⟩ (.int .i64 Re.2.2.1)));rw[bX]at hh hch ⊢
 obtain⟨aO,fP⟩:=zX (aT.alloc (.cells #[.slice A4 Re.1.cells.length c4,.slice B5 Re.1.tin.length d5,.slice D6 Re.1.tout.length e6,.int .i64 (Re.2.1:Int),.int .i64 Re.2.2.1] 59));rw[fP];have t0:aO.cell? ⟨W.heap.size+1+1,0,none⟩=some (.slice A4 Re.1.cells.length c4):=fP▸zks (zc hh rfl) _;have t1:aO.cell? ⟨W.heap.size+1+1,1,none⟩=some (.slice B5 Re.1.tin.length d5):=fP▸zks (zc hh rfl) _;have t2:aO.cell? ⟨W.heap.size+1+1,2,none⟩=some (.slice D6 Re.1.tout.length e6):=fP▸zks (zc hh rfl) _;have t3:aO.cell? ⟨W.heap.size+1+1,3,none⟩=some (.int .i64 (Re.2.1:Int)):=fP▸zks (zc hh rfl) _;have t4:aO.cell? ⟨W.heap.size+1+1,4,none⟩=some (.int .i64 Re.2.2.1):=fP▸zks (zc hh rfl) _
 refine bodyPost_ret (v:=.agg #[.slice A4 Re.1.cells.length c4,.slice B5 Re.1.tin.length d5,.slice D6 Re.1.tout.length e6,.int .i64 (Re.2.1:Int),.int .i64 Re.2.2.1]) (by simp[results,results21,go_sem,t0,t1,t2,t3,t4]) rfl ?_;have hz33:=hz3;have hb39:Below W.heap.size W w9:=zkb HB3.out aF.out;have dM:Chg (fun b=>b=W.heap.size+1+1) w9 aO:=fP▸hch.alloc _;have o8:=fI.out.chg dM fun b hb=>by omega
 have pR:=hb39.trans (dM.below hb39.size fun b hb=>by omega);exact⟨_,_,_,rfl,o8.lower (by omega),pR,nD.out⟩
theorem zmk(p:PG)(s:SS)(F:Int)(g:Nat)(v sv:Value)(W:World)(hp:PV W Any p v)(hs:SV W Any s sv)(hcl:s.cells.length<=5864062014800)(hF:I64 F)(eu:F<=1000000)(hg:F.toNat*2000+2000<=g) :
  Calls prog 21 #[v,sv,.int .i64 F] W (FwP W (resO p s F g false)):=zrB p s F g v sv W hp hs hcl hF eu hg (zyR p)
section
variable {E:Prop} {Rl:Nat->ST->ST->Prop} {F F' k:Int} {o o':Out}
end
section
variable {S:ST} {l:List Int}
end
section
variable {ρ ρ':Nat->Nat->Prop} {f g:FR} {S S' S'':ST} {a b:Nat}
end
section
variable {S:ST}
end
section
variable {o:Out} {f:RS->Out} {r r':RS} {F:Int} {t:T}
end
section
variable {r r1 r':RS} {F:Int}
end
attribute [local go_sem] Oper.semAt_some
structure FrI(B:Nat)(w1 w:World):Prop where
 size:B<=w.heap.size
 same:∀b,b<B->w.heap[b]?=w1.heap[b]?
theorem FrI.keep{B:Nat}{w1 w w':World}(h:FrI B w1 w)(hs:w.heap.size<=w'.heap.size)(hk:∀b,b<B->w'.heap[b]?=w.heap[b]?):FrI B w1 w':=⟨Nat.le_trans h.size hs,fun b hb=>(hk b hb).trans (h.same b hb)⟩
theorem FrI.below{w1 w:World}{C:Nat->Prop}(h:FrI w1.heap.size w1 w)(hc:Chg C w1 w):Below w1.heap.size w1 w:=⟨hc.os,hc.tape,hc.output,hc.size,h.same⟩
def errE(p:PG)(F:Int)(s:SS):Int:=(resO p s F (F.toNat*2000+2000) false).2.2.1
theorem znl{vs:List VD}{b:BX}(h:(b.ok&&svB vs)=true):∀x∈allS b (lenE vs b),x.Lim/\x.cells.length<=100:=by
 intro x hx;have h1:=(zrt h x hx).sm;have h2:=zlJ h;have hn:=(zrt h x hx).n;refine⟨⟨by have:=h1.n;unfold LI;omega,fun l hl=>by have:=(h1.c l hl).1;unfold LI;omega,by have:=h1.i.1;unfold LI;omega,by have:=h1.o.1;unfold LI;omega⟩,by have:=h2.2.1;omega⟩
theorem zsn:IsFn prog 21 Tryz.f21:=⟨func21,by kernel_rfl,by kernel_rfl⟩
theorem zyK:IsFn prog 54 Tryz.f54:=⟨func54,by kernel_rfl,by kernel_rfl⟩
abbrev pgA(p:PG)(A1:Option Addr)(c1:Nat)(A2:Option Addr)(c2:Nat)(A3:Option Addr)(c3:Nat):Array Value := #[.slice A1 p.vs.length c1,.slice A2 p.prs.length c2,.int .u8 p.m.k,.int .i64 p.m.n,.string p.m.s,.slice A3 p.m.ks.length c3]
theorem beqI(a b:Int):(a==b)=decide (a=b):=by by_cases h:a=b<;>simp[h]
abbrev pgS(w':World)(b:Nat)(p:PG)(A1:Option Addr)(c1:Nat)(A2:Option Addr)(c2:Nat)(A3:Option Addr)(c3:Nat):Prop:=w'.cell? ⟨b,0,none⟩=some (.slice A1 p.vs.length c1)/\w'.cell? ⟨b,1,none⟩=some (.slice A2 p.prs.length c2)/\w'.cell? ⟨b,2,none⟩=some (.int .u8 p.m.k)/\w'.cell? ⟨b,3,none⟩=some (.int .i64 p.m.n)/\w'.cell? ⟨b,4,none⟩=some (.string p.m.s)/\w'.cell? ⟨b,5,none⟩=some (.slice A3 p.m.ks.length c3)
theorem zuI{W:World}{p:PG}{s:SS}{F e:Int}{bp bf be c1 c2 c3:Nat}{A1 A2 A3:Option Addr}{sv:Value}(hk:W.heap[bp]?=some (.cells (pgA p A1 c1 A2 c2 A3 c3) 43 (0,0)))(hp:PV W Any p (pv A1 p.vs.length c1 A2 p.prs.length c2 p.m.k p.m.n p.m.s A3 p.m.ks.length c3))(hf:W.heap[bf]?=some (.cells #[.int .i64 F] 3 (0,0)))
  (he:W.heap[be]?=some (.cells #[.int .i64 e] 48 (0,0)))(hs:SV W Any s sv)(hcl:s.cells.length<=100)(hF:I64 F)(eu:F<=1000000) :
  Calls prog 54 #[sv,.pointer (some ⟨bp,0,none⟩),.pointer (some ⟨bf,0,none⟩),.pointer (some ⟨be,0,none⟩)] W fun e' W'=>e'=.returned (.bool (decide (errE p F s=e)))/\Below W.heap.size W W':=by
 obtain⟨A,c,B,d,D,k,rfl⟩:∃A c B d D k,sv=.agg #[.slice A s.cells.length c,.slice B s.tin.length d,.slice D s.tout.length k]:=by
  obtain⟨A,c,B,d,D,k,rfl,-⟩:=hs;exact⟨_,_,_,_,_,_,rfl⟩
 have hkb:=heap_alloc_new W (.cells #[.slice A s.cells.length c,.slice B s.tin.length d,.slice D s.tout.length k] 32);have hb:=zka (zs W) (.cells #[.slice A s.cells.length c,.slice B s.tin.length d,.slice D s.tout.length k] 32);obtain⟨w1,hw1⟩:=zX (W.alloc (.cells #[.slice A s.cells.length c,.slice B s.tin.length d,.slice D s.tout.length k] 32));obtain⟨N,hN⟩:=zX (W.heap.size);rw[hw1]at hkb hb;rw[hN]at hkb;have HB:=zh hb;have uE:=zh (zkc hk hb);have jE:=zh (zkc hf hb);have oF:=zh (zkc he hb);have nG:=zh hkb;have HP:=zh (hp.later hb);have HS:=zh (hs.later hb);have HL:=zh (And.intro hcl (And.intro hF eu));clear hk hp hf he hs hcl hF eu hb hkb;go_enter func54,ntmps54;go_upto_region 1 with fail
 try rw[hw1]
 try rw[hN]
 clear hw1 hN;have az:=zh (show ∀w',Below w1.heap.size w1 w'->(fun w':World=>pgS w' bp p A1 c1 A2 c2 A3 c3/\stC w' N A s.cells.length c B s.tin.length d D s.tout.length k/\zv w' bf 0 (.int .i64 F)/\zv w' be 0 (.int .i64 e)) w' from fun w' hb=>⟨box6 (zkc uE.out hb),zky (zkc nG.out hb),zc (zkc jE.out hb) rfl,zc (zkc oF.out hb) rfl⟩);have hSS:zW (fun w':World=>pgS w' bp p A1 c1 A2 c2 A3 c3/\stC w' N A s.cells.length c B s.tin.length d D s.tout.length k/\zv w' bf 0 (.int .i64 F)/\zv w' be 0 (.int .i64 e)) zU w1.drew:=⟨az.out _ zr.drew,trivial⟩
 refine wp_region_noPanic ?_;refine zG hSS 8 ?_;refine zT 0 hSS ?_;refine zT 1 hSS ?_;refine zT 2 hSS ?_;refine zT 5 hSS ?_;refine zo 3 fun K hK=>?_;have hcon:=zmk p s F (F.toNat*2000+2000) _ _ w1.drew (HP.out.later zr.drew) (HS.out.later zr.drew) (by have:=HL.out.1;omega) HL.out.2.1 HL.out.2.2 zl;have xH:=zh (show errE p F s=(resO p s F (F.toNat*2000+2000) false).2.2.1 from rfl);generalize resO p s F (F.toNat*2000+2000) false=R at hcon xH;have had:Calls prog 21 [pv A1 p.vs.length c1 A2 p.prs.length c2 p.m.k p.m.n p.m.s A3 p.m.ks.length c3,.agg #[.slice A s.cells.length c,.slice B s.tin.length d,.slice D s.tout.length k],.int .i64 F].toArray w1.drew fun e' W'=>∃z,e'=.returned z/\(∃v1 v2 v3,z=.agg #[v1,v2,v3,.int .i64 (R.2.1:Int),.int .i64 R.2.2.1])/\Below w1.heap.size w1 W' :=
  hcon.mono fun e' W' ⟨v1,v2,v3,h1,h2,h3,h4⟩=>⟨_,h1,⟨v1,v2,v3,rfl⟩,zkb (zs w1).drew h3⟩
 refine zke (by rfl) (.func 21) [.tmp 6,.tmp 7,.tmp 8] _ (by rfl) 21 _ zsn (by rfl) [pv A1 p.vs.length c1 A2 p.prs.length c2 p.m.k p.m.n p.m.s A3 p.m.ks.length c3,.agg #[.slice A s.cells.length c,.slice B s.tin.length d,.slice D s.tout.length k],.int .i64 F] (by rfl) _ had ?_;rintro z w2 ⟨⟨v1,v2,v3,rfl⟩,hb2⟩;have hS2:=zV hSS (az.out _ hb2) trivial;refine hK.out _ _ hS2 ?_;clear hK K had hcon hSS;(try simp only[zQ]);have hfl:∀w,(Instr.field 59 (.agg #[v1,v2,v3,.int .i64 (R.2.1:Int),.int .i64 R.2.2.1]) 2).run prog w=.ok (.int .i64 R.2.2.1) w:=fun w=>by kernel_rfl
 refine zT 4 hS2 ?_;refine zT 6 hS2 ?_;refine zT 7 hS2 ?_;refine zd ?_;refine NoPanic.normal ?_;have oJ:=zh (zkb HB.out hb2);clear hS2 hb2;go_wp2_with fail;go_ret;exact⟨by rw[xH.out];rw[beqI];rfl,oJ.out⟩
theorem PV.pg{w:World}{S:Nat->Prop}{p:PG}{A1 A2 A3:Option Addr}{l1 c1 l2 c2 l3 c3:Nat}{k n:Int}{s:ByteArray}(h:PV w S p (pv A1 l1 c1 A2 l2 c2 k n s A3 l3 c3)):PgR w S p A1 c1 A2 c2 A3 c3:=by
 obtain⟨B1,d1,B2,d2,B3,d3,e,h⟩:=h;unfold pv at e;injection e with e;simp only[Array.mk.injEq,List.cons.injEq,and_true,Value.slice.injEq]at e;obtain⟨⟨rfl,-,rfl⟩,⟨rfl,-,rfl⟩,-,-,-,rfl,-,rfl⟩:=e;exact h
def FalP(r:SS×Nat×Bool)(W:World)(e:Ending)(W':World):Prop:=Below W.heap.size W W'/\∃v,e=.returned (.tuple #[v,.bool r.2.2])/\SV W' (fun q=>W.heap.size<=q) r.1 v
theorem zrC{W:World}{p:PG}{b:BX}{e F:Int}{v:Value}(hp:PV W Any p v)(hok:(b.ok&&svB p.vs)=true)(hm:(allS b (lenE p.vs b)).length<=1000000)(hF:I64 F)(eu:F<=1000000) :
  Calls prog 18 #[v,.int .i64 e,.agg #[.int .i64 b.v,.int .i64 b.l,.int .i64 b.i],.int .i64 F] W (FalP (fndE (fun s=>decide (errE p F s=e)) (allS b (lenE p.vs b))) W):=by
 obtain⟨A1,c1,A2,c2,A3,c3,rfl,-⟩:=id hp;obtain⟨bv,bl,bi⟩:=b;obtain⟨N,hN⟩:=zX (W.heap.size);have HN:=zh hN;obtain⟨hb1,hz1,k0,k1,k2,k3,k4⟩:=al5F W (.cells (pgA p A1 c1 A2 c2 A3 c3) 43) (.cells #[.int .i64 e] 48) (.cells #[.int .i64 bv,.int .i64 bl,.int .i64 bi] 24) (.cells #[.int .i64 F] 3) (.cells #[.slice none 0 0,.slice none 0 0,.slice none 0 0] 32);obtain⟨w1,hw1⟩:=zX (((((W.alloc (.cells (pgA p A1 c1 A2 c2 A3 c3) 43)).alloc (.cells #[.int .i64 e] 48)).alloc (.cells #[.int .i64 bv,.int .i64 bl,.int .i64 bi] 24)).alloc (.cells #[.int .i64 F] 3)).alloc (.cells #[.slice none 0 0,.slice none 0 0,.slice none 0 0] 32));rw[hw1]at hb1 hz1 k0 k1 k2 k3 k4;rw[hN]at hz1 k0 k1 k2 k3 k4;have HB1:=zh hb1;have HZ1:=zh hz1;have dI:=zh k4;have lL:=zh ((hp.keep (S':=fun q=>q<N+5) (fun q _ h=>by omega) fun _ _ _=>rfl).keep (w':=w1) (S':=fun q=>q<N+5) (fun _ h _=>h) fun q _ hlt=>hb1.block q hlt)
 have HT:=zh (show zrx 54 #[.pointer (some ⟨N,0,none⟩),.pointer (some ⟨N+3,0,none⟩),.pointer (some ⟨N+1,0,none⟩)] (fun _ s=>decide (errE p F s=e)) (allS ⟨bv,bl,bi⟩ (lenE p.vs ⟨bv,bl,bi⟩)) w1.heap.size (fun _=>FrI w1.heap.size w1)from by
  refine⟨fun n W W' h h1 h2=>h.keep h1 h2,fun n W h=>h.size,fun n s v W g hI hg hgs ho hx=>?_⟩;have hx2:=znl hok s (List.mem_of_getElem? hx);have hlt:∀q,q<N+5->W.heap[q]?=w1.heap[q]?:=fun q hq=>hI.same q (by omega);refine(zuI (e:=e) (F:=F) (p:=p) (s:=s) ((hlt N (by omega)).trans k0) (lL.out.keep (fun _ _ _=>trivial) fun q h _=>hlt q h) ((hlt (N+3) (by omega)).trans k3) ((hlt (N+1) (by omega)).trans k1) (ho.sv hx2.1) hx2.2 hF eu).mono ?_;rintro e' W' ⟨rfl,hb⟩;exact⟨rfl,hI.keep hb.size fun q hq=>hb.block q (Nat.lt_of_lt_of_le hq hI.size),Chg.of_below hb⟩)
 have aZ:=zh (show Calls _ _ _ _ (FstP (fndE (fun s=>decide (errE p F s=e)) (allS ⟨bv,bl,bi⟩ (lenE p.vs ⟨bv,bl,bi⟩))) (fun _=>FrI w1.heap.size w1) w1)from znr (W:=w1) (A1:=A1) (c1:=c1) (vs:=p.vs) (b:=⟨bv,bl,bi⟩) (lL.out.keep (S':=Any) (fun _ _ _=>trivial) fun _ _ _=>rfl).pg.vars hp.pg.lv hok hm zyK HT.out ⟨zl,fun _ _=>rfl⟩);clear hp hb1 hz1 k1 k3 k4 hok hm HT;obtain⟨⟨s1,n1,ok1⟩,hr⟩:=zX (fndE (fun s=>decide (errE p F s=e)) (allS ⟨bv,bl,bi⟩ (lenE p.vs ⟨bv,bl,bi⟩)));rw[hr]at aZ ⊢;clear hr;obtain⟨p0,p1,p2,p3,p4,p5⟩:=box6 k0;obtain⟨y0,y1,y2⟩:=zky k2;have ma:∀(fn:Fn) (first cap:Array Value) (w:World),(Instr.makeFunc fn first cap).run prog w=.ok (.func fn first cap) w:=fun _ _ _ _=>rfl
 show Calls prog 18 #[pv A1 p.vs.length c1 A2 p.prs.length c2 p.m.k p.m.n p.m.s A3 p.m.ks.length c3,.int .i64 e,.agg #[.int .i64 bv,.int .i64 bl,.int .i64 bi],.int .i64 F] W _
 go_enter func18,ntmps18;go_wp2_with fail;simp only[Nat.add_assoc,Nat.reduceAdd];refine aZ.out.mono ?_;rintro e' w2 ⟨v2,rfl,hs2,hi2,hc2⟩;have zt:=hs2;obtain⟨B1,d1,B2,d2,B3,d3,rfl,-⟩:=zt;have hb2:=hi2.below hc2;have hb3:=zka hb2 (.cells #[.slice B1 s1.cells.length d1,.slice B2 s1.tin.length d2,.slice B3 s1.tout.length d3] 32);have k10:=heap_alloc_new w2 (.cells #[.slice B1 s1.cells.length d1,.slice B2 s1.tin.length d2,.slice B3 s1.tout.length d3] 32);have k8:=zkc (dI.out) hb3;have hs3:=hs2.later (zka (zs w2) (.cells #[.slice B1 s1.cells.length d1,.slice B2 s1.tin.length d2,.slice B3 s1.tout.length d3] 32));obtain⟨w3,hw3⟩:=zX (w2.alloc (.cells #[.slice B1 s1.cells.length d1,.slice B2 s1.tin.length d2,.slice B3 s1.tout.length d3] 32));rw[hw3]at hb3 k10 k8 hs3;obtain⟨x0,x1,x2⟩:=zky k10;obtain⟨q0,q1,q2⟩:=zky k8;have cf:∀o,w3.frozen? ⟨N+4,o,none⟩=false:=fun o=>zf k8
 obtain⟨w9,dw,bG,fF⟩:=st3 (.slice B1 s1.cells.length d1) (.slice B2 s1.tin.length d2) (.slice B3 s1.tout.length d3) k8;have Bv:=zh (hs3.keep (S':=fun q=>W.heap.size<=q) (fun q h _=>by have:=HZ1.out;have:=HN.out;omega) fun q h _=>bG.block q ‹_› (fun e=>by have e:q=N+4:=e;have:=HZ1.out;omega));have xA:=zh fF;have aF:=zh (((HB1.out).trans (hb3.mono HB1.out.size)).trans (bG.below (by have:=HB1.out.size;have:=hb3.size;omega) fun q e=>by have e:q=N+4:=e;have:=HN.out;omega));clear hs2 hi2 hc2 hb2 hb3 k10 k8 hs3 bG fF y0 y1 y2 p0 p1 p2 p3 p4 p5;go_wp2_with fail;obtain⟨t0,t1,t2⟩:=zky xA.out;exact bodyPost_ret (v:=.tuple #[.agg #[.slice B1 s1.cells.length d1,.slice B2 s1.tin.length d2,.slice B3 s1.tout.length d3],.bool ok1]) (by simp[results,results18,go_sem,t0,t1,t2]) rfl ⟨aF.out,_,rfl,Bv.out⟩
end
section
open Go Go.RowKit
attribute [local go_sem] Oper.semAt_some
theorem zqk{ops:Array Oper}{o:Oper}{i:Nat}{a:Act}{W:World}{K:Act->World->Prop}{Q:Exit->Act->World->Prop}{F:Prop}{N0:Nat}(hoi:ops[i]?=some o)(s x:Operand)(hgd:(ops[i]?).map (fun o=>o.guard)=some none)
  (ho:(ops[i]?).map (fun o=>o.op)=some (.call { callee:=.builtin .append,args := #[s,x],argTypes := #[29,29] }))(hN:N0<=W.heap.size){v:Value}{vs us:List Value}{n m c:Nat}{A:Option Addr}(hs:a.eval s=v)(h1:W.ownsRow N0 30 1 v n vs)(hx:a.eval x=.slice A m c)
  (u1:us.length=m)(u2:A=none->m=0)(u3:∀ad,A=some ad->∀j z,us[j]?=some z->W.cell? (ad.add j)=some z)(u4:∀z∈us,z.oneCell'=true)(hm:n+m<=1000000)
  (h:∀v' w',Chg (fun b=>v.ownBlock=some b) W w'->(∀b,v'.ownBlock=some b->(W.heap.size<=b\/v.ownBlock=some b)/\b<w'.heap.size)->w'.ownsRow N0 30 1 v' (n+m) (vs++us)->K (a.put o.dst v') w') :
  if Region.wanted o (yielded ops a.tmps)=true then Oper.wp prog o a W K Q else F:=by
 have hgd:=opF hoi (fun o=>o.guard) hgd;have ho:=opF hoi (fun o=>o.op) ho;have hfin:∀v' w',w'.ownsRow N0 30 1 v' (n+m) (vs++us)->W.grownBy w' v.ownBlock->(v'.ownBlock=v.ownBlock\/v'.ownBlock=some W.heap.size)->K (a.put o.dst v') w':=fun v' w' g1 g2 g3=>by
  refine h v' w' (Chg.row g2) (fun b hb=>⟨?_,(g1.lt b hb).2⟩) g1;rcases g3 with e|e
  ·exact .inr (e▸hb)
  ·rw[e]at hb;injection hb with hb;exact .inl (by omega)
 rcases A with _|ad
 ·have h0:=u2 rfl;subst h0;have hnil:us=[]:=List.eq_nil_of_length_eq_zero u1;have hw:Region.wanted o (yielded ops a.tmps)=true:=by simp[Region.wanted,hgd]
  rw[if_pos hw];obtain⟨j,hj,hz0,hz1,hz2⟩:=info_parts zpA;have hrun:(Builtin.append_ #[29,29] o.type #[v,.slice none 0 c]).run prog W=.ok v W:=by
   rcases h1.2 with⟨rfl,h0⟩|⟨g,cap,cur,rfl,_,_,hnc,_⟩
   ·simp[Builtin.append_,run_underlying underlying29,sizeOf,typeInfo,hj,Builtin.lenOf,Builtin.firstCells]
   ·simp[Builtin.append_,run_underlying underlying29,sizeOf,typeInfo,hj,Builtin.lenOf,Builtin.firstCells,hnc,storeCells]
  unfold Oper.wp execOp;simp only[ho,resolve,invoke,builtin,Sem.run_bind,Sem.run_pure,Result.andThen_ok,List.map_toArray,List.map_cons,List.map_nil,hs,hx,hrun];exact hfin v W (by rw[hnil];simpa using h1) (zm7 _ _) (.inl rfl)
 ·exact zmb hgd s x ho underlying29 zpA rfl (by decide) (by decide) N0 v n vs hs h1 ad m c us hx (by omega) (u3 ad rfl) u4 hm hN hfin
def rwL(vi:Value)(fc:Nat->Value)(s:SS):List Value:=(List.range s.cells.length).map fc++[vi]
theorem zqn{W:World}{n0:Nat}{st:SS}{vc vi vo:Value}{fq:Nat->Value}(h:Rws W n0 (zlm vc vi vo fq st)):∀j,j<st.cells.length+1->∃(q:SI) (Aj:Option Addr) (nj cj:Nat),q ≠ .all/\(rwL vi fq st)[j]?=some (.slice Aj nj cj)/\(zlm vc vi vo fq st q).v=.slice Aj nj cj/\(zlm vc vi vo fq st q).n=nj/\(zlm vc vi vo fq st q).xs.length=nj:=by
 intro j hj;unfold rwL;rcases(show j<st.cells.length\/j=st.cells.length by omega)with h1|rfl
 ·have ho:=h.row (.el j);have e:zlm vc vi vo fq st (.el j)=⟨fq j,3,1,(st.cells.getD j []).length,zkg (st.cells.getD j [])⟩:=by simp only[zlm,if_pos h1]
  rw[e]at ho;obtain⟨A,c,hv,-⟩:=zkd ho;dsimp only at hv;refine⟨.el j,A,(st.cells.getD j []).length,c,by simp,?_,by rw[e];exact hv,by rw[e],by rw[e];simp[zkg]⟩;rw[List.getElem?_append_left (by simpa using h1),List.getElem?_map,List.getElem?_range h1,<-hv];rfl
 ·have ho:=h.row .inp;obtain⟨A,c,hv,-⟩:=zkd ho;have hv:vi=.slice A st.tin.length c:=hv;refine⟨.inp,A,st.tin.length,c,by simp,?_,hv,rfl,by simp[zlm,zkg]⟩;rw[List.getElem?_append_right (by simp),hv];simp
theorem zyg{W:World}{n0:Nat}{st:SS}{vc vi vo:Value}{fq:Nat->Value}(h:Rws W n0 (zlm vc vi vo fq st)):∀u∈rwL vi fq st,u.oneCell'=true:=by
 intro u hu;obtain⟨j,hj,rfl⟩:=List.mem_iff_getElem.1 hu;obtain⟨q,A,n,c,-,h1,-⟩:=zqn h j (by simpa[rwL]using hj);rw[List.getElem?_eq_getElem hj]at h1;injection h1 with h1;rw[h1];rfl
def f1F(N0:Nat)(vi:Value)(fO:List Value):Nat->Value->List Value->World->Prop
 | 3,v,_,w=>w.ownsRow N0 30 1 v fO.length fO
 | 6,v,_,w=>w.ownsRow N0 30 1 v 1 [vi]
 | 7,v,_,w=>w.ownsRow N0 30 1 v (fO.length+1) (fO++[vi])
 | 8,v,_,_=>v=.int .i64 ((fO.length+1:Nat):Int)
 | _,v,_,w=>w.ownsRow N0 30 1 v 0 []
def f1D:Nat->List Nat
 | 3=>[0]|7=>[3,6]|8=>[7]|_=>[]
def f1C:Nat->List Nat
 | 3=>[0]|7=>[3]|_=>[]
def f1O:Nat->Value->Option Nat
 | 8,_=>none
 | _,v=>v.ownBlock
theorem zt0{w w':World}{N0 sz n:Nat}{E:TypeId}{C:Nat->Prop}{v:Value}{xs:List Value}(h:w.ownsRow N0 E sz v n xs)(hc:Chg C w w')(ho:∀b,v.ownBlock=some b->¬ C b):w'.ownsRow N0 E sz v n xs:=zme h fun b hb=>hc.block b (h.lt b hb).2 (ho b hb)
theorem zyS{N0:Nat}{vi:Value}{fO:List Value}(i:Nat)(v:Value)(ds:List Value)(w w':World)(C:Nat->Prop)(h:f1F N0 vi fO i v ds w)(hc:Chg C w w')(hC:∀b,C b->N0<=b/\∃i,f1C i≠[])(ho:∀b,f1O i v=some b->¬ C b):f1F N0 vi fO i v ds w':=by
 unfold f1F at h ⊢;unfold f1O at ho
 split at h<;>first|exact zt0 h hc ho|exact h|skip
 rename_i h1 h2 h3 h4
 split at ho
 ·exact absurd rfl h4
 ·exact zt0 h hc ho
theorem zr4{w:World}{N0 n:Nat}{E:TypeId}{us:List Value}(hN:N0<=w.heap.size)(hl:us.length=n)(hm:n<=1000000):(w.alloc (.cells us.toArray E)).ownsRow N0 E 1 (.slice (some ⟨w.heap.size,0,none⟩) n n) n us:=by
 subst hl;exact⟨by omega,.inr ⟨w.heap.size,us.length,us.toArray,rfl,hN,heap_alloc_new w _,zl,by unfold maxLen;omega,by simp,by simp⟩⟩
theorem alB0{w:World}{P:Nat->Prop}{o:Obj}{n c:Nat}:∀b,(Value.slice (some ⟨w.heap.size,0,none⟩) n c).ownBlock=some b->(w.heap.size<=b\/P b)/\b<(w.alloc o).heap.size:=fun b hb=>by
 injection hb with hb;have hb:w.heap.size=b:=hb;rw[World.size_alloc];exact⟨.inl (by omega),by omega⟩
theorem zut{W:World}{s:SS}{v:Value}{g bn bk n:Nat}{k:Int}(hs:OwnS W g s v)(hg:g<=W.heap.size)(hbn:bn<g)(hbk:bk<g)(hn:W.heap[bn]?=some (.cells #[.int .i64 (n:Int)] 3 (0,0)))(hk:W.heap[bk]?=some (.cells #[.int .u8 k] 5 (0,0)))(hk2:0<=k/\k<=255)(hn2:n<=1000000)(hl:s.cells.length<=1000) :
  Calls prog 13 #[v,.pointer (some ⟨bn,0,none⟩),.pointer (some ⟨bk,0,none⟩)] W fun e W'=>e=.returned (.bool (decide ((n:Int)=k.tmod 70)))/\W'.heap[bn]?=some (.cells #[.int .i64 ((n+1:Nat):Int)] 3 (0,0))/\Chg (fun b=>b=bn\/g<=b) W W':=by
 obtain⟨vc,vi,vo,fc,rfl,hr,-⟩:=hs;obtain⟨A,c,B,d,D,e,bN,kZ,qL⟩:∃A c B d D e,vc=.slice A s.cells.length c/\vi=.slice B s.tin.length d/\vo=.slice D s.tout.length e:=by
  obtain⟨A,c,bN,-⟩:=zkd (hr.row .all);obtain⟨B,d,kZ,-⟩:=zkd (hr.row .inp);obtain⟨D,e,qL,-⟩:=zkd (hr.row .out);exact⟨A,c,B,d,D,e,bN,kZ,qL⟩
 obtain⟨l1,hl1⟩:=zX (s.cells.length);obtain⟨l2,hl2⟩:=zX (s.tin.length);obtain⟨l3,hl3⟩:=zX (s.tout.length);obtain⟨d0,hd0⟩:=zX (zlm vc vi vo fc s);have HD0:=zh hd0;have nA:=zh (zqn hr);have jC:=zh (zyg hr);have nu:=zh (zsO vc vi vo fc s);have hall:W.ownsRow g 30 1 vc s.cells.length ((List.range s.cells.length).map fc):=hr.row .all;have vD:=zh (show((List.range s.cells.length).map fc).length=l1 by simp[hl1]);unfold rwL at nA jC;obtain⟨fO,hucs⟩:=zX ((List.range s.cells.length).map fc);rw[hucs]at hall vD nA jC;rw[hd0]at hr nA nu;rw[hl1]at bN hall nA hl;rw[hl2]at kZ;rw[hl3]at qL;subst bN kZ qL;have hb1:=zka (zs W) (.cells #[.slice A l1 c,.slice B l2 d,.slice D l3 e] 32);have k0:=heap_alloc_new W (.cells #[.slice A l1 c,.slice B l2 d,.slice D l3 e] 32);obtain⟨w1,hw1⟩:=zX (W.alloc (.cells #[.slice A l1 c,.slice B l2 d,.slice D l3 e] 32))
 obtain⟨N,hN⟩:=zX (W.heap.size);have hz1:w1.heap.size=N+1:=by rw[<-hw1,<-hN];simp
 rw[hw1]at hb1 k0;rw[hN]at k0 hg;have qw:=zh hN;have HZ1:=zh hz1;have HB1:=zh hb1;have yF:=zh (show ∀b,OwnB d0 b->g<=b/\b<N from fun b ⟨q,hq⟩=>by have:=hr.lt q b hq;omega);have yL:=zh (And.intro hg (And.intro hbn hbk));have iR:∀w,Below (N+1) w1 w->Below w1.heap.size w1 w:=fun w h=>by rw[HZ1.out];exact h
 have hsz:∀w,Below (N+1) w1 w->N+1<=w.heap.size:=fun w h=>by have:=h.size;have:=HZ1.out;omega
 have HRW:=zh (fun w (h:Below (N+1) w1 w)=>(hr.later hb1).later (iR w h));have iY:=zh (fun w (h:Below (N+1) w1 w)=>znx (zko (zko hall hb1) (iR w h)));have HKN:=zh (fun w (h:Below (N+1) w1 w)=>zkc (zkc hn hb1) (iR w h));have HKK:=zh (fun w (h:Below (N+1) w1 w)=>zkc (zkc hk hb1) (iR w h));have HST:=zh (fun w (h:Below (N+1) w1 w)=>(zky (zkc k0 (iR w h)):stC w N A l1 c B l2 d D l3 e));have HL:=zh (And.intro hl (And.intro hn2 hk2));clear hr hall hb1 k0 hz1 hg hbn hbk hn hk hn2 hl hucs hd0 hl1 hl2 hl3 hk2;go_enter func13,ntmps13;go_upto_region 1 with fail
 try rw[hw1]
 try rw[hN]
 clear hw1 hN;have hSS:zW (fun w':World=>stC w' N A l1 c B l2 d D l3 e) zU w1.drew:=⟨HST.out _ zr.drew,trivial⟩
 refine wp_region_noPanic ?_;refine zG hSS 15 ?_;refine zT 1 hSS ?_;refine zT 2 hSS ?_;refine zT 4 hSS ?_;refine zT 5 hSS ?_;refine zT 9 hSS ?_;have hI:(fun w=>Below (N+1) w1 w) w1.drew:=zr.drew;clear hSS;refine zoa (T:=[(0,8),(3,11),(6,14),(7,15),(8,16)]) (z:=10) (n:=10) (N+1) f1O f1D f1C 0 (fun w=>Below (N+1) w1 w) (f1F (N+1) (.slice B l2 d) fO) (by kernel_rfl) (by kernel_rfl) (by simp only[putP,Act.put,zD,zE,zF]) (by decide) (by kernel_rfl) (by kernel_rfl) (by decide) hsz (fun w h=>⟨HST.out _ h,trivial⟩) (fun w w' C h hc hC=>h.trans (hc.below (hsz w h) fun b hb=>(hC b hb).1)) zyS (fun q hq=>?_) (fun vs w9 aU hF _=>?_) w1.drew hI
 ·simp only[List.mem_cons,List.not_mem_nil,or_false]at hq;rcases hq with rfl|rfl|rfl|rfl|rfl
  ·intro oi hoi vs K w2 hb2 hd aa;obtain rfl:=Option.some.inj hoi;simp only[putP,Act.put,zA,zB,zC,zD,zE,zF]at aa ⊢;have hK:=zh aa;clear aa hoi;have hbr:=bRA0;go_simp;exact hK.out _ _ (Chg.of_below (zka zr _)) (alB0 (n:=0) (c:=0)) (zr4 (us:=[]) (hsz _ hb2) rfl (by simp))
  ·intro oi hoi vs K w2 hb2 hd aa;generalize bz:putP vs [(0,8),(3,11),(6,14),(7,15),(8,16)] _=AC at aa ⊢;have hK:=zh aa;clear aa;have hd1:w2.ownsRow (N+1) 30 1 (vs 0) 0 []:=hd 0 (by decide);obtain⟨r1,r2⟩:=iY.out _ hb2;refine zqk (K:=K) (c:=c) hoi (.tmp 8) (.tmp 10) (by kernel_rfl) (by kernel_rfl) (hsz _ hb2) (by rw[<-bz];kernel_rfl) hd1 (by rw[<-bz];kernel_rfl) vD.out r1 r2 (fun z hz=>jC.out z (List.mem_append_left _ hz)) (by have:=HL.out.1;omega) ?_;intro v' w3 g1 g2 g3;refine hK.out _ _ (g1.mono fun b _ hb=>⟨0,by decide,hb⟩) (fun b hb=>⟨(g2 b hb).1.imp id fun h=>⟨0,by decide,h⟩,(g2 b hb).2⟩) ?_;rw[List.nil_append,Nat.zero_add,<-vD.out]at g3;exact g3
  ·intro oi hoi vs K w2 hb2 hd aa;obtain rfl:=Option.some.inj hoi;simp only[putP,Act.put,zA,zB,zC,zD,zE,zF]at aa ⊢;have hK:=zh aa;clear aa hoi;have hbr:=bRA1 B l2 d;go_simp;exact hK.out _ _ (Chg.of_below (zka zr _)) (alB0 (n:=1) (c:=1)) (zr4 (us:=[.slice B l2 d]) (hsz _ hb2) rfl (by simp))
  ·intro oi hoi vs K w2 hb2 hd aa;generalize bz:putP vs [(0,8),(3,11),(6,14),(7,15),(8,16)] _=AC at aa ⊢;have hK:=zh aa;clear aa;have hd1:w2.ownsRow (N+1) 30 1 (vs 3) fO.length fO:=hd 3 (by decide);have hd2:w2.ownsRow (N+1) 30 1 (vs 6) 1 [.slice B l2 d]:=hd 6 (by decide);obtain⟨A6,c6,e6,-⟩:=zkd hd2;rw[e6]at hd2;obtain⟨r1,r2⟩:=znx hd2;refine zqk (K:=K) (m:=1) (c:=c6) hoi (.tmp 11) (.tmp 14) (by kernel_rfl) (by kernel_rfl) (hsz _ hb2) (by rw[<-bz];kernel_rfl) hd1 (by rw[<-bz,<-e6];kernel_rfl) rfl r1 r2 (fun z hz=>jC.out z (List.mem_append_right _ hz)) (by have:=HL.out.1;have:=vD.out;omega) ?_;intro v' w3 g1 g2 g3;exact hK.out _ _ (g1.mono fun b _ hb=>⟨3,by decide,hb⟩) (fun b hb=>⟨(g2 b hb).1.imp id fun h=>⟨3,by decide,h⟩,(g2 b hb).2⟩) g3
  ·intro oi hoi vs K w2 hb2 hd aa;obtain rfl:=Option.some.inj hoi;simp only[putP,Act.put,zA,zB,zC,zD,zE,zF]at aa ⊢;have hd1:w2.ownsRow (N+1) 30 1 (vs 7) (fO.length+1) (fO++[.slice B l2 d]):=hd 7 (by decide);obtain⟨A7,c7,e7,-⟩:=zkd hd1;obtain⟨n7,nX⟩:=zX (fO.length+1);rw[nX]at e7;have oC:=zh nX;rw[e7]at aa ⊢;have hK:=zh aa;clear aa hoi nX hd1 hd;go_simp;exact hK.out _ _ (Chg.refl _ _) (fun b hb=>by cases hb) (by rw[<-oC.out];rfl)
 ·have f1:w9.ownsRow (N+1) 30 1 (vs 7) (fO.length+1) (fO++[.slice B l2 d]):=hF (7,15) (by decide) (by decide);have e8:vs 8=.int .i64 ((fO.length+1:Nat):Int):=hF (8,16) (by decide) (by decide);clear hF;rw[vD.out]at f1 e8;obtain⟨gx,cx,q1,hle1,hle2,-⟩:=zkV f1 (by omega);have uK:=zh (show N+1<=gx from zzs f1 (by rw[q1];rfl));have nL:=zh (show ∀wr,Chg (OwnB d0) w9 wr->∀j u,(fO++[.slice B l2 d])[j]?=some u->wr.cell? ⟨gx,j,none⟩=some u from fun wr hc j u hj=>by
   have hjl:=(List.getElem?_eq_some_iff.1 hj).1;rw[q1]at f1;refine zkU hc (by rw[f1.cellAt j (by simp at hjl;have:=vD.out;omega)];exact hj) fun aj=>?_;have h1:gx<N:=(yF.out _ aj).2;have h2:=uK.out;omega)
  have BP:=zh (show ∀wr,Chg (OwnB d0) w9 wr->wr.heap[bn]?=some (.cells #[.int .i64 (n:Int)] 3 (0,0))/\wr.heap[bk]?=some (.cells #[.int .u8 k] 5 (0,0))from fun wr hc=>⟨hc.keep (HKN.out _ aU) fun h=>by have:=(yF.out _ h).1;have:=yL.out;omega,hc.keep (HKK.out _ aU) fun h=>by have:=(yF.out _ h).1;have:=yL.out;omega⟩);have HSP:=zh (SpG.new (P:=fun q=>q ≠ .all) (HRW.out _ aU) nu.out);have HC9:=zh (show Chg (fun b=>b=bn\/g<=b) W w9 from Chg.of_below (HB1.out.trans (aU.mono (by have:=qw.out;omega))));simp only[putP,Act.put,zD,zE,zF];rw[q1,e8];generalize vs 0=v0;generalize vs 3=v3;generalize vs 6=v6;clear q1 e8 f1 hI hsz iR HST aU hle1 hle2 HKN HKK HRW iY jC nu;have hl9:l1<=1000:=HL.out.1;refine zd ?_;refine NoPanic.normal ?_;go_wp2_with fail
  go_loopw [17] (fun i wr=>∃j:Nat,j<=l1+1/\i=.int .i64 j/\Hid (SpG (fun q=>q ≠ .all) g d0 w9 wr)) (fun i _=>l1+1-(intOf i).toNat)
  case atStart=>exact⟨0,by omega,rfl,HSP⟩
  case round =>
   obtain⟨j,hj,rfl,yz⟩:=hrel;by_cases hlt:j<l1+1
   ·obtain⟨q,Aj,nj,cj,hq,hv,hV,hn,hx⟩:=nA.out j hlt;have z0:=nL.out _ yz.out.chg j _ hv;have hj1:(j:Int)<((l1+1:Nat):Int):=by omega
    have hj2:(j:Int)<(l1:Int)+1:=by omega
    have hj0:(0:Int)<=(j:Int):=by omega
    have HV:=zh hV;have HN:=zh hn;have HX:=zh hx;clear hv hV hn hx;go_wp2_with fail;clear z0 hj1 hj2
    go_loopw [23] (fun i wr'=>∃x:Nat,x<=nj/\i=.int .i64 x/\Hid (SpG (fun q=>q ≠ .all) g d0 w9 wr')) (fun i _=>nj-(intOf i).toNat)
    case atStart=>exact⟨0,Nat.zero_le _,rfl,yz⟩
    case round =>
     clear yz;obtain⟨x,hx,rfl,pY⟩:=hrel;by_cases hlt3:x<nj
     ·have hk3:(x:Int)<(nj:Int):=by omega
      have hk4:(0:Int)<=(x:Int):=by omega
      obtain⟨E9,sz9,xN,bY⟩:=pY.out.row q;rw[HN.out]at bY;obtain⟨gg9,c9',xV,hle1,hle2,-⟩:=zkV bY (by omega);unfold maxLen at hle2;have hk5:(x:Int)+1<=9223372036854775807:=by omega
      clear hle1 hle2;rw[HV.out]at xV;injection xV with xV;subst xV;have hgb:(d0 q).v.ownBlock=some gg9:=by rw[HV.out];rfl
      obtain⟨⟨n9,hn9⟩,hfz⟩:=pY.out.read hq hgb (o:=x) (by rw[HX.out];exact hlt3);have yx:=zh (fun y=>pY.out.set hq hgb (o:=x) (by rw[HX.out];exact hlt3) y);clear hgb bY;go_wp2_with fail;exact⟨⟨x+1,by omega,by go_num,zh (yx.out _)⟩,by simp[intOf];omega⟩
     ·obtain rfl:x=nj:=by omega
      have hk3:¬ (x:Int)<(x:Int):=by omega
      go_wp2_with fail;exact⟨⟨j+1,by omega,by go_num,pY⟩,by simp[intOf];omega⟩
   ·obtain rfl:j=l1+1:=by omega
    have hj1:¬ ((l1+1:Nat):Int)<((l1+1:Nat):Int):=by omega
    have hj2:¬ (l1:Int)+1<(l1:Int)+1:=by omega
    have hc:=yz.out.chg;obtain⟨kn,kk⟩:=BP.out _ hc;have q0:wr.cell? ⟨bn,0,none⟩=some (.int .i64 (n:Int)):=zc kn rfl;have qf:∀o,wr.frozen? ⟨bn,o,none⟩=false:=fun _=>zf kn;obtain⟨M,hM⟩:=zX (n+1);have hwn:wrap64 ((n:Int)+1)=(M:Int):=by have:=HL.out.2.1;rw[IntWalk.wrap64_in _ (by omega)];omega
    have iG:=zh hM;obtain⟨wz,hwz,hcz,hkz⟩:=setU (o:=0) (.int .i64 (M:Int)) kn;have hkz:wz.heap[bn]?=some (.cells #[.int .i64 (M:Int)] 3 (0,0)):=hkz;have hkk:=hcz.keep kk fun h=>by have h:bk=bn:=h;rw[h]at kk;have:=kn.symm.trans kk;injection this with this;injection this with this;simp at this
    have BK:=zh hkz;have HKK:=zh hkk;have HCZ:=zh (show Chg (fun b=>b=bn\/g<=b) W wz from(HC9.out.trans (hc.mono fun b _ hb=>.inr (yF.out b hb).1)).trans (hcz.mono fun b _ hb=>.inl hb));go_upto_region 11 with fail;have HZS:=zh hwz;clear hc kn kk q0 qf hcz hkz hkk hwz hM hwn;have q0:wz.cell? ⟨bn,0,none⟩=some (.int .i64 (M:Int)):=zc BK.out rfl;have q1:wz.cell? ⟨bk,0,none⟩=some (.int .u8 k):=zc HKK.out rfl;go_wp2_with fail;go_ret;have hk:=HL.out.2.2;have e1:wrap64 k=k:=IntWalk.wrap64_in _ (by omega);have e2:0<=k.tmod 70/\k.tmod 70<70:=⟨Int.tmod_nonneg 70 hk.1,Int.tmod_lt_of_pos k (by decide)⟩
    have e3:wrap64 (k.tmod 70+1)=k.tmod 70+1:=IntWalk.wrap64_in _ (by omega);have e4:((M:Int)==wrap64 ((wrap64 k).tmod 70+1))=decide ((n:Int)=k.tmod 70):=by rw[e1,e3,beqI];exact decide_eq_decide.2 (by have:=iG.out;omega)
    have e5:(n:Int)+1=(M:Int):=by have:=iG.out;omega
    exact⟨congrArg (fun b=>Ending.returned (.bool b)) e4,by rw[e5];exact BK.out,HCZ.out⟩
end
section
open Go Go.RowKit
attribute [local go_sem] Oper.semAt_some
theorem zvE{W:World}{A1:Option Addr}{n1 c1:Nat}{b:BX} :
  Calls prog 12 #[.slice A1 n1 c1,.agg #[.int .i64 b.v,.int .i64 b.l,.int .i64 b.i],.nilFunc] W fun e w'=>e=.returned (.tuple #[.agg #[.slice none 0 0,.slice none 0 0,.slice none 0 0],.int .i64 0,.bool false])/\Below W.heap.size W w':=by
 obtain⟨bv,bl,bi⟩:=b;obtain⟨N,hN⟩:=zX (W.heap.size);have HN:=zh hN;obtain⟨hb1,hz1,k0,k1,k2,k3,k4⟩:=al5F W (.cells #[.int .i64 bv,.int .i64 bl,.int .i64 bi] 24) (.cells #[.nilFunc] 35) (.cells #[.slice none 0 0,.slice none 0 0,.slice none 0 0] 32) (.cells #[.int .i64 0] 3) (.cells #[.bool false] 4);obtain⟨w1,hw1⟩:=zX (((((W.alloc (.cells #[.int .i64 bv,.int .i64 bl,.int .i64 bi] 24)).alloc (.cells #[.nilFunc] 35)).alloc (.cells #[.slice none 0 0,.slice none 0 0,.slice none 0 0] 32)).alloc (.cells #[.int .i64 0] 3)).alloc (.cells #[.bool false] 4));rw[hw1]at hb1 hz1 k0 k1 k2 k3 k4;rw[hN]at hz1 k0 k1 k2 k3 k4;have t0:w1.cell? ⟨N+1,0,none⟩=some .nilFunc:=zc k1 rfl;have HB1:=zh hb1
 have hch:Chg (fun q=>q=N+2\/q=N+3\/q=N+4) w1 (((((w1.setCell ⟨N+2,0,none⟩ (.slice none 0 0)).setCell ⟨N+2,1,none⟩ (.slice none 0 0)).setCell ⟨N+2,2,none⟩ (.slice none 0 0)).setCell ⟨N+3,0,none⟩ (.int .i64 0)).setCell ⟨N+4,0,none⟩ (.bool false)) :=
  (((((Chg.refl _ w1).setCell (p:=⟨N+2,0,none⟩) (.inl (.inl rfl)) _).setCell (p:=⟨N+2,1,none⟩) (.inl (.inl rfl)) _).setCell (p:=⟨N+2,2,none⟩) (.inl (.inl rfl)) _).setCell (p:=⟨N+3,0,none⟩) (.inl (.inr (.inl rfl))) _).setCell (p:=⟨N+4,0,none⟩) (.inl (.inr (.inr rfl))) _
 have bS:=zh hch;have f2:∀o,w1.frozen? ⟨N+2,o,none⟩=false:=fun o=>zf k2;have f3:∀o,w1.frozen? ⟨N+3,o,none⟩=false:=fun o=>zf k3;have f4:∀o,w1.frozen? ⟨N+4,o,none⟩=false:=fun o=>zf k4;obtain⟨z0,z1,z2⟩:=zky k2;have z3:w1.cell? ⟨N+3,0,none⟩=some (.int .i64 0):=zc k3 rfl;have z4:w1.cell? ⟨N+4,0,none⟩=some (.bool false):=zc k4 rfl;clear hb1 hch;go_enter func12,ntmps12;have hbf:∀w,(binOp BinOp.eql 35 .nilFunc .nilFunc).run prog w=.ok (.bool true) w:=fun w=>by first|rfl|simp[go_sem]
 go_upto_region 2 with fail;go_wp2_with fail;simp only[Nat.add_assoc,Nat.reduceAdd];clear z0 z1 z2 z3 z4 f2 f3 f4 t0;obtain⟨w2,hw2,hc2,e2⟩:=st3 (.slice none 0 0) (.slice none 0 0) (.slice none 0 0) k2;rw[hw2]at bS ⊢;have e3:=hc2.keep k3 (by omega);have e4:=hc2.keep k4 (by omega);have g3:=heap_setCell_same w2 (N+3) 0 _ _ (.int .i64 0) e3;have d3:Chg (fun q=>q=N+3) w2 (w2.setCell ⟨N+3,0,none⟩ (.int .i64 0)):=(Chg.refl (fun q=>q=N+3) w2).setCell (p:=⟨N+3,0,none⟩) (.inl rfl) _;have g2:=d3.keep e2 (by omega);have g4:=d3.keep e4 (by omega);obtain⟨w3,hw3⟩:=zX (w2.setCell ⟨N+3,0,none⟩ (.int .i64 0));rw[hw3]at bS g2 g3 g4 ⊢;have q4:=heap_setCell_same w3 (N+4) 0 _ _ (.bool false) g4;have d4:Chg (fun q=>q=N+4) w3 (w3.setCell ⟨N+4,0,none⟩ (.bool false)):=(Chg.refl (fun q=>q=N+4) w3).setCell (p:=⟨N+4,0,none⟩) (.inl rfl) _;have q2:=d4.keep g2 (by omega);have q3:=d4.keep g3 (by omega)
 obtain⟨w4,hw4⟩:=zX (w3.setCell ⟨N+4,0,none⟩ (.bool false));rw[hw4]at bS q2 q3 q4 ⊢;obtain⟨t0,t1,t2⟩:=zky q2;have t3:w4.cell? ⟨N+3,0,none⟩=some (.int .i64 0):=zc q3 rfl;have t4:w4.cell? ⟨N+4,0,none⟩=some (.bool false):=zc q4 rfl;have hb:=HB1.out.trans (bS.out.below (B:=W.heap.size) HB1.out.size fun q h=>by omega);refine bodyPost_ret (v:=.tuple #[.agg #[.slice none 0 0,.slice none 0 0,.slice none 0 0],.int .i64 0,.bool false]) (by simp[results,results12,go_sem,t0,t1,t2,t3,t4]) rfl ⟨rfl,hb⟩
end
end Go.Proofs.YtembgnhbpmfhpaaGreat
