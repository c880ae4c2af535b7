
/-
  Texts of the proof, put together without their remarks: Wfp, Pfi, Rxp, Pvl, Gpl, Alt, Alf, Gex, Gcm, Sve, Gad, If, Lfp, Gra, Gup, Grf, Gaw, Rpa, Rpb, Grs, Srp, Gin, Vap.
-/
import Derived.Test.YthjinpodhacleaaGreatM7
import Derived.Laws.StructEq
import Derived.Laws.OwnMore
set_option linter.unusedSimpArgs false
set_option linter.unusedVariables false
set_option maxHeartbeats 8000000
set_option maxRecDepth 100000
namespace Go.Proofs.YthjinpodhacleaaGreat
open Tryz
section
open Go Go.RowKit
def LitB(t:T):Prop:=∀u∈po t,Fld u.k u.n u.s
theorem NV.lit{w:World}{S:Nat->Prop}:∀(t:T) (v:Value),NV w S t v->LitB t:=by
 intro t
 induction t using T.ind with
 | _ k n s ks ih =>
  intro v hv u hu;obtain⟨A,c,-,hf,-,-,hrow⟩:=hv.open_;simp only[po,List.mem_cons]at hu;rcases hu with rfl|hu
  ·exact hf
  ·obtain⟨t,ht,hx⟩:=zlP.1 hu;obtain⟨i,hi,rfl⟩:=List.getElem_of_mem ht;obtain⟨a,u0,u1,u2,u3,-,-,-,hn⟩:=hrow i hi;exact ih _ ht _ hn u hx
theorem LitB.kid{k n:Int}{s:ByteArray}{ks:List T}(h:LitB (.nd k n s ks)){t:T}(ht:t∈ks):LitB t:=fun u hu=>h u (by simp only[po,List.mem_cons];exact .inr (zlP.2 ⟨t,ht,hu⟩))
theorem LitB.own{t:T}(h:LitB t):Fld t.k t.n t.s:=h t (by obtain⟨k,n,s,ks⟩:=t;simp[po])
theorem LitB.ev{look:ByteArray->Option (List Int)}(hl:∀s l,look s=some l->l.length<=100000/\∀x∈l,I64 x):∀t,LitB t->I64 (evE look t).1:=by
 intro t
 induction t using T.ind with
 | _ k n s ks ih =>
  intro h;rw[evE];refine zvU hl h.own.2.1 ?_;rw[zm6,List.getD_eq_getElem?_getD,List.getElem?_map];rcases hk:ks[0]? with _|u
  ·exact zero_I64
  ·exact ih u (List.mem_of_getElem? hk) (h.kid (List.mem_of_getElem? hk))
theorem LitB.expr{S:ST}(h:S.WF){t:T}(ht:LitB t):I64 (zli S.look t).1:=by
 unfold zli
 split
 ·exact LitB.ev (zs4 h) _ ht
 ·exact zero_I64
theorem LitB.kidD{t:T}(h:LitB t)(i:Nat):LitB (Go.Proofs.YthjinpodhacleaaGreat.kid t i):=by
 obtain⟨k,n,s,ks⟩:=t;unfold Go.Proofs.YthjinpodhacleaaGreat.kid;rw[List.getD_eq_getElem?_getD];rcases hk:(T.nd k n s ks).ks[i]? with _|u
 ·intro v hv;have:v=nil0:=by simpa[nil0,po,pos]using hv
  subst this;exact⟨⟨zY,zY⟩,⟨zY,zY⟩,Nat.zero_le _⟩
 ·exact h.kid (List.mem_of_getElem? hk)
theorem LitB.block{t:T}(h:LitB t){u:T}(hu:u∈t.ks):LitB u:=by
 obtain⟨k,n,s,ks⟩:=t;exact h.kid hu
section
variable {S:ST}
theorem zyU(h:S.WF){s:ByteArray}{id:Nat}(hn:S.num s=some id):id<S.nc:=by
 obtain⟨kd,hw⟩:=h.cur;unfold ST.num at hn;obtain⟨i,-,h2⟩:=Option.bind_eq_some_iff.1 hn;exact hw.num id (List.mem_of_getElem? h2)
theorem zw5(k x y:Int):I64 (updE k x y):=by
 unfold updE
 repeat' split
 all_goals first|exact zmU _|exact zrE _
theorem zxD(h:S.WF)(k:Int){id:Nat}(i:Nat){af:Nat}(hid:id<S.nc)(hs:CurK S af 3):(zlK S k id i af).2.WF:=by
 have bX:=hs.lt h;have hc:=h.cells af bX;unfold zlK
 split
 ·split
  ·exact h
  ·refine znd (zwt h af hs _ (by simp;omega) fun x hx=>?_) hid i 0 zero_I64;rcases List.mem_append.1 hx with hx|hx
   ·exact hc.2 x hx
   ·obtain rfl:=List.mem_singleton.1 hx;exact zmE h hid i
 ·split
  ·exact h
  ·split
   ·exact h
   ·refine zwt (S:=S.put id i _) (znd h hid i _ (zmE h bX _)) af hs _ (by rw[List.length_take];omega) fun x hx=>hc.2 x (List.mem_of_mem_take hx)
theorem zot(h:S.WF)(l m:List Int)(h1:l.length<=4096/\∀x∈l,I64 x)(h2:m.length<=4096/\∀x∈m,I64 x):({ S with tin:=l,tout:=m }:ST).WF:=⟨h.ex,h.ncalls,h.cells,h1,h2⟩
theorem zuB(h:S.WF)(k:Int){id:Nat}(i:Nat)(hid:id<S.nc):(zks S k id i).2.WF:=by
 unfold zks;have h1:=h.tin;have h2:=h.tout
 split
 ·split
  ·exact h
  ·rename_i y r he
   split
   ·exact h
   ·rw[he]at h1;exact znd (S:={ S with tin:=r }) (zot h r S.tout ⟨by have:=h1.1;simp at this;omega,fun x hx=>h1.2 x (List.mem_cons_of_mem _ hx)⟩ h2) hid i y (h1.2 y (List.mem_cons_self ..))
 ·split
  ·split
   ·exact h
   ·split
    ·exact h
    ·refine znd (S:={ S with tout:=S.tout.dropLast }) (zot h S.tin S.tout.dropLast h1 ⟨by have:=h2.1;simp;omega,fun x hx=>h2.2 x (List.dropLast_subset _ hx)⟩) hid i _ ?_
     cases hl:S.tout.getLast? with
     | none=>exact zero_I64
     | some x=>exact h2.2 x (List.mem_of_getLast? hl)
  ·split
   ·split
    ·exact h
    ·refine znd (S:={ S with tin:=S.el id i::S.tin }) (zot h _ S.tout ⟨by simp;omega,fun x hx=>?_⟩ h2) hid i 0 zero_I64;rcases List.mem_cons.1 hx with rfl|hx
     ·exact zmE h hid i
     ·exact h1.2 x hx
   ·split
    ·exact h
    ·refine znd (S:={ S with tout:=S.tout++[S.el id i] }) (zot h S.tin _ h1 ⟨by simp;omega,fun x hx=>?_⟩) hid i 0 zero_I64;rcases List.mem_append.1 hx with hx|hx
     ·exact h2.2 x hx
     ·obtain rfl:=List.mem_singleton.1 hx;exact zmE h hid i
theorem zy2{t:T}(h:(doE S t).1=0):isS t=true/\t.k≠56/\basB t.k=true/\fltE S.cur.vs t=0/\doE S t=zqn S t:=by
 unfold doE at h ⊢
 split at h
 ·cases h
 rename_i h1
 split at h
 ·cases h
 rename_i h2
 split at h
 ·cases h
 rename_i h3
 split at h
 ·rename_i h4;exact absurd h h4
 rename_i h4;rw[if_neg h1,if_neg h2,if_neg h3,if_neg h4];exact⟨by simpa using h1,h2,by simpa using h3,by simpa using h4,rfl⟩
theorem zuG(h:S.WF){k n:Int}{s:ByteArray}{ks:List T}(hf:fltE S.cur.vs (.nd k n s ks)=0)(hk:k=44\/k=45):∃af,S.num s=some af/\CurK S af 3:=by
 have hn:znX k=3:=by rcases hk with rfl|rfl<;>rfl
 obtain⟨u,h4,h5⟩:=znt (znk hf).1 (by rw[hn];decide);obtain⟨af,h6,h7⟩:=zq3 h h4;exact⟨af,h6,by rw[h5,hn]at h7;exact h7⟩
theorem zy3(h:S.WF)(t:T):(doE S t).2.WF:=by
 unfold doE
 split
 ·exact h
 split
 ·exact h
 split
 ·exact h
 split
 ·exact h
 rename_i h1 h2 h3 h4;have hf:fltE S.cur.vs t=0:=by simpa using h4
 obtain⟨k,n,s,ks⟩:=t
 show(zlj S k s (ks.getD 0 nil0) (ks.getD 1 nil0) (indE S.look (ks.getD 0 nil0)) (zk6 S k (ks.getD 1 nil0))).2.WF
 unfold zlj
 split
 ·exact h
 unfold znB
 split
 ·exact h
 cases h5:S.num (ks.getD 0 nil0).s with
 | none=>exact h
 | some id =>
  have hid:=zyU h h5;dsimp only
  split
  ·unfold zkC
   split
   ·exact znd h hid _ _ (zw5 _ _ _)
   ·split
    ·cases h6:S.num (ks.getD 1 nil0).s with
     | none=>exact h
     | some jd =>
      have hjd:=zyU h h6;dsimp only
      split
      ·exact znd (znd h hid _ _ (zmE h hjd _)) hjd _ _ (zmE h hid _)
      ·exact h
    ·split
     ·rename_i hk;obtain⟨af,h6,h7⟩:=zuG h hf hk;rw[h6];exact zxD h _ _ hid h7
     ·exact zuB h _ _ hid
  ·exact h
theorem zw9(h:S.WF)(t:T):(zmi S t).2.WF:=by
 obtain⟨k,n,s,ks⟩:=t;exact zy3 h _
theorem zsU(h:S.WF)(v:VD)(hv:FldV v)(x:Int)(hx:I64 x)(hl:S.cur.vs.length+1<=4398046511000):(zlv S v x).2.WF:=by
 unfold zlv
 split
 ·exact h
 ·rename_i hk;have hk:=Decidable.not_not.1 hk
  split
  ·exact h
  ·refine zsp h v hv _ ?_ ?_ ⟨fun e=>by rw[if_pos e];rfl,fun e=>zO,zO⟩ hl
   ·split<;>simp
   ·split
    ·intro y hy;obtain rfl:=List.mem_singleton.1 hy;exact hx
    ·intro y hy;cases hy
theorem zrn(h:S.WF)(s:ByteArray)(x:Int):(zkW S s x).2.WF:=by
 unfold zkW
 split
 ·exact h
 ·split
  ·exact h
  ·exact zrt h _ fun kd hw=>zy8 hw
theorem zv0(h:S.WF)(ps:List VD)(ss:List ByteArray)(hf:∀v∈ps,FldV v)(hl:ps.length<=4398046511000):(zly S ps ss).2.WF:=by
 unfold zly
 split
 ·exact h
 ·cases he:entL S.cur ⟨[],[],0⟩ (ps.zip ss)with
  | error e=>exact h
  | ok f =>
   unfold entR;dsimp only
   split
   ·exact h
   ·exact(ztu h ps ss f hf hl he zO).1
theorem zvo(h:S.WF):(zlL S).2.WF:=by
 unfold zlL
 split
 ·exact h
 ·exact ztt h
end
section
variable {o:Out} {f:RS->Out} {r r':RS} {F:Int} {t:T}
theorem zkZ(h:o.bind f=.ok r'):∃r1,o=.ok r1/\f r1=.ok r':=by
 cases o with
 | gas=>cases h
 | err e=>cases h
 | ok r1=>exact⟨r1,rfl,h⟩
theorem zlX{R:Int×ST}(h:zkk r R=.ok r'):R.1=0/\r'={ r with S:=R.2 }:=by
 unfold zkk at h
 split at h
 ·cases h
 ·rename_i h0;injection h with h;exact⟨by simpa using h0,h.symm⟩
theorem zrJ{f:Int->RS->Out}(h:valO t r f=.ok r'):(zli r.S.look t).2=0/\f (zli r.S.look t).1 r=.ok r':=by
 unfold valO at h
 split at h
 ·cases h
 ·rename_i h0;exact⟨by simpa using h0,h⟩
theorem zoV{f:Bool->RS->Out}(h:zk7 F t r f=.ok r'):(r.n:Int)<F/\(zli r.S.look t).2=0/\f (decide ((zli r.S.look t).1≠0)) { r with n:=r.n+1 }=.ok r':=by
 unfold zk7 at h;obtain⟨r1,h1,h2⟩:=zkZ h;obtain⟨rfl,h3⟩:=zkQ h1;obtain⟨h4,h5⟩:=zrJ h2;exact⟨h3,h4,h5⟩
theorem znl{b:Bool}(h:zkp F t b r=.ok r'):(r.n:Int)<F/\(zli r.S.look t).2=0/\decide ((zli r.S.look t).1≠0)=b/\r'={ r with n:=r.n+1 }:=by
 unfold zkp at h;obtain⟨h1,h2,h3⟩:=zoV h
 split at h3
 ·rename_i hb;injection h3 with h3;exact⟨h1,h2,hb,h3.symm⟩
 ·cases h3
end
structure RInv(r:RS):Prop where
 wf:r.S.WF
 fb:FB r.n r.S
 n:r.n<=1000000
structure Keep(r r':RS):Prop where
 base:r'.S.base=r.S.base
 calls:r'.S.calls=r.S.calls
 nc:r.S.nc<=r'.S.nc
section
variable {r r1 r':RS} {F:Int}
theorem Keep.refl(r:RS):Keep r r:=⟨rfl,rfl,zl⟩
theorem Keep.trans(h:Keep r r1)(h':Keep r1 r'):Keep r r':=⟨h'.base.trans h.base,h'.calls.trans h.calls,Nat.le_trans h.nc h'.nc⟩
theorem Keep.cur(h:Keep r r'):r'.S.cur=r.S.cur:=by unfold ST.cur;rw[h.base,h.calls]
theorem RInv.tick(h:RInv r)(hF:F<=1000000)(hn:(r.n:Int)<F):RInv { r with n:=r.n+1 }:=⟨h.wf,h.fb.mono (Nat.le_succ _),by simp only;omega⟩
theorem zn1{S:ST}(t:T):(doE S t).2.base=S.base/\(doE S t).2.calls=S.calls/\(doE S t).2.nc=S.nc:=by
 obtain⟨h1,h2,h3⟩:=zv8 S t;exact⟨h1,h2,h3⟩
theorem zqI{S:ST}(t:T):(zmi S t).2.base=S.base/\(zmi S t).2.calls=S.calls/\(zmi S t).2.nc=S.nc:=by
 obtain⟨k,n,s,ks⟩:=t;exact zn1 _
theorem zxo{f:FR}(hf:f.cs.length=f.vs.length)(v:VD)(id:Nat):(f.push v id).pop=f:=by
 obtain⟨vs,cs,loc⟩:=f;simp only at hf;simp[FR.push,FR.pop,hf]
theorem ztC(S:ST)(f:FR):(S.setCur f).cur=f:=by
 unfold ST.setCur;by_cases h0:S.calls.length=0
 ·rw[if_pos h0];exact zmS (S:={ S with base:=f }) h0
 ·rw[if_neg h0,zna (by simp;omega)];simp
theorem zrU(S:ST):S.setCur S.cur=S:=by
 unfold ST.setCur;by_cases h0:S.calls.length=0
 ·rw[if_pos h0,zmS h0]
 ·rw[if_neg h0,zna zO];simp
theorem zmr{f:T->RS->Out}:∀(l:List T) (r r':RS),(∀t∈l,∀r r',RInv r->f t r=.ok r'->RInv r'/\Keep r r')->RInv r->zkP f l r=.ok r'->RInv r'/\Keep r r'
 | [],r,r',_,hr,h=>by
  injection h with h;subst h;exact⟨hr,Keep.refl _⟩
 | t::ts,r,r',hf,hr,h=>by
  rw[zkP]at h;obtain⟨r1,h1,h2⟩:=zkZ h;obtain⟨a1,a2⟩:=hf t (List.mem_cons_self ..) r r1 hr h1;obtain⟨b1,b2⟩:=zmr ts r1 r' (fun u hu=>hf u (List.mem_cons_of_mem _ hu)) a1 h2;exact⟨b1,a2.trans b2⟩
theorem zpA(hF:F<=1000000){f:T->RS->Out}{entry test:T}{l1 l2:List T}(h1:∀t∈l1,∀r r',RInv r->f t r=.ok r'->RInv r'/\Keep r r')(h2:∀t∈l2,∀r r',RInv r->f t r=.ok r'->RInv r'/\Keep r r') :
  ∀(m:Nat) (r r':RS),RInv r->zlS F f entry test l1 l2 m r=.ok r'->RInv r'/\Keep r r'
 | 0,_,_,_,h=>by cases h
 | m+1,r,r',hr,h=>by
  rw[zlS]at h;obtain⟨ra,ha,h⟩:=zkZ h;obtain⟨a1,a2⟩:=zmr l1 r ra h1 hr ha;obtain⟨hn,-,h⟩:=zoV h;have t1:=a1.tick hF hn;have k1:Keep r { ra with n:=ra.n+1 }:=⟨a2.base,a2.calls,a2.nc⟩
  split at h
  ·injection h with h;subst h;exact⟨t1,k1⟩
  ·obtain⟨rb,hb,h⟩:=zkZ h;obtain⟨b1,b2⟩:=zmr l2 _ rb h2 t1 hb;obtain⟨rc,hc,h⟩:=zkZ h;obtain⟨hn2,-,-,rfl⟩:=znl hc;have t2:=b1.tick hF hn2;obtain⟨c1,c2⟩:=zpA hF h1 h2 m _ r' t2 h;exact⟨c1,(k1.trans b2).trans ⟨c2.base,c2.calls,c2.nc⟩⟩
def PrB(prs:List PR):Prop:=∀q∈prs,LitB q.b/\(∀v∈q.ps,FldV v)/\q.ps.length<=1000
theorem PrB.getD{prs:List PR}(h:PrB prs)(i:Nat):LitB (prs.getD i ⟨⟨#[]⟩,[],nil0⟩).b/\(∀v∈(prs.getD i ⟨⟨#[]⟩,[],nil0⟩).ps,FldV v)/\(prs.getD i ⟨⟨#[]⟩,[],nil0⟩).ps.length<=1000:=by
 rw[List.getD_eq_getElem?_getD];rcases hk:prs[i]? with _|q
 ·refine⟨fun v hv=>?_,zS,zS⟩;have:v=nil0:=by simpa[nil0,po,pos]using hv
  subst this;exact⟨⟨zY,zY⟩,⟨zY,zY⟩,Nat.zero_le _⟩
 ·exact h q (List.mem_of_getElem? hk)
theorem zvO{t:T}(h:LitB t)(k:Int)(hk:k=1\/k=3):FldV ⟨t.s,k,0⟩:=⟨h.own.2.2,by simp only;omega,by simp only;omega⟩
theorem zxt{S:ST}{v:VD}{x:Int}(h:(zlv S v x).1=0):S.cur.at v.s=none/\(v.k=1\/v.k=3)/\(zlv S v x).2=(S.newCell (if v.k=1 then [x]else [])).setCur (S.cur.push v S.nc):=by
 unfold zlv at h ⊢
 split at h
 ·cases h
 ·rename_i h1
  split at h
  ·cases h
  ·rename_i h2;rw[if_neg h1,if_neg h2];exact⟨by simpa using h2,(Decidable.not_not.1 h1).1,rfl⟩
theorem zwd{S:ST}{s:ByteArray}{x:Int}(h:(zkW S s x).1=0):0<S.cur.loc/\((zq5 S.cur).s.toList==s.toList)=true/\((zq5 S.cur).k=1->(S.cell (ztR S.cur)).getD 0 0=x)/\((zq5 S.cur).k=3->S.cell (ztR S.cur)=[])/\(zkW S s x).2=S.setCur S.cur.pop:=by
 unfold zkW at h ⊢
 split at h
 ·cases h
 ·rename_i h1
  split at h
  ·cases h
  ·rename_i h2;rw[if_neg h1,if_neg h2];simp only[not_or,not_and,Decidable.not_not,Bool.not_eq_false]at h1 h2;refine⟨zO,h1.2,h2.1,fun e=>?_,rfl⟩;exact List.length_eq_zero_iff.1 (by have:=h2.2 e;omega)
theorem zvZ{S:ST}{ps:List VD}{ss:List ByteArray}(h:(zly S ps ss).1=0):∃f,ps.length=ss.length/\entL S.cur ⟨[],[],0⟩ (ps.zip ss)=.ok f/\S.calls.length<100/\(zly S ps ss).2={ S with calls:=S.calls++[f] }:=by
 unfold zly at h ⊢
 split at h
 ·cases h
 ·rename_i h1;rw[if_neg h1]
  cases he:entL S.cur ⟨[],[],0⟩ (ps.zip ss)with
  | error e=>rw[he]at h;exact absurd h (zti _ _ _ he)
  | ok f =>
   rw[he]at h;unfold entR at h ⊢;dsimp only at h ⊢
   split at h
   ·cases h
   ·rename_i h2;rw[if_neg h2];exact⟨f,Decidable.not_not.1 h1,rfl,zO,rfl⟩
theorem zvn{S:ST}(h:(zlL S).1=0):0<S.calls.length/\(zlL S).2={ S with calls:=S.calls.take (S.calls.length-1) }:=by
 unfold zlL at h ⊢
 split at h
 ·cases h
 ·rename_i h1;rw[if_neg h1];exact⟨zO,rfl⟩
theorem RInv.store{R:Int×ST}(h:RInv r)(hF:F<=1000000)(hn:(r.n:Int)<F)(hw:R.2.WF)(hf:FB (r.n+1) R.2):RInv { r with n:=r.n+1,S:=R.2 }:=⟨hw,hf,by simp only;omega⟩
theorem zpD{S S2:ST}{v:VD}{x y:Int}{s:ByteArray}(hc:S.cur.cs.length=S.cur.vs.length)(h1:(zlv S v x).1=0)(hb:S2.base=(zlv S v x).2.base)(hcl:S2.calls=(zlv S v x).2.calls)(hn:(zlv S v x).2.nc<=S2.nc)(h2:(zkW S2 s y).1=0) :
  (zkW S2 s y).2.base=S.base/\(zkW S2 s y).2.calls=S.calls/\S.nc<=(zkW S2 s y).2.nc:=by
 obtain⟨-,-,e1⟩:=zxt h1;obtain⟨-,-,-,-,e2⟩:=zwd h2;rw[e1]at hb hcl hn;rw[e2];have dV:S2.cur=S.cur.push v S.nc:=by
  obtain⟨S3,wE⟩:=zX ((S.newCell (if v.k=1 then [x]else [])).setCur (S.cur.push v S.nc));rw[wE]at hb hcl;have:S2.cur=S3.cur:=by unfold ST.cur;rw[hb,hcl]
  rw[this,<-wE,ztC]
 rw[dV,zxo hc];have hs:=zrU S;unfold ST.setCur at hb hcl hn hs ⊢;by_cases h0:S.calls.length=0
 ·rw[if_pos (show(S.newCell _).calls.length=0 from h0)]at hb hcl hn;rw[if_pos h0]at hs;rw[if_pos (by rw[hcl];exact h0)];exact⟨by rw[zmS h0],hcl,by simp only[ST.newCell]at hn;simp only;omega⟩
 ·rw[if_neg (show ¬ (S.newCell _).calls.length=0 from h0)]at hb hcl hn;rw[if_neg h0]at hs;have hl:S2.calls.length=S.calls.length:=by rw[hcl];simp[ST.newCell]
  rw[if_neg zO];refine⟨hb,?_,by simp only[ST.newCell]at hn;simp only;omega⟩;simp only[hl];rw[hcl];simp only[ST.newCell,List.set_set];have:=congrArg ST.calls hs;exact this
end
theorem zm4{prs:List PR}{F:Int}(hF:F<=1000000)(hp:PrB prs):∀(g:Nat) (back:Bool) (t:T) (r r':RS),LitB t->RInv r->zkq prs F g back t r=.ok r'->RInv r'/\Keep r r'
 | 0,_,_,_,_,_,_,h=>by cases h
 | g+1,back,t,r,r',ht,hr,h=>by
  have hb:∀back (b:T),LitB b->∀r r',RInv r->zkP (zkq prs F g back) (blkL back b) r=.ok r'->RInv r'/\Keep r r':=fun back b hb r r' hr h =>
   zmr _ r r' (fun u hu r r' hr h=>zm4 hF hp g back u r r' (hb.block (zlh hu)) hr h) hr h
  have hfst:LitB (fstT back t):=by unfold fstT;split<;>exact ht.kidD _
  rw[zkq]at h
  split at h
  ·obtain⟨hn,-,h⟩:=zoV h;obtain⟨r1,h1,h⟩:=zkZ h;obtain⟨a1,a2⟩:=hb back _ (by split<;>exact ht.kidD _) _ r1 (hr.tick hF hn) h1;obtain⟨hn2,-,-,rfl⟩:=znl h;exact⟨a1.tick hF hn2,⟨a2.base,a2.calls,a2.nc⟩⟩
  split at h
  ·obtain⟨r1,h1,h⟩:=zkZ h;obtain⟨hn,-,-,rfl⟩:=znl h1;obtain⟨a1,a2⟩:=zpA hF (fun u hu r r' hr h=>zm4 hF hp g back u r r' ((ht.kidD 1).block (zlh hu)) hr h) (fun u hu r r' hr h=>zm4 hF hp g back u r r' ((ht.kidD 2).block (zlh hu)) hr h) g _ r' (hr.tick hF hn) h;exact⟨a1,⟨a2.base,a2.calls,a2.nc⟩⟩
  split at h
  ·obtain⟨r1,h1,h⟩:=zkZ h;obtain⟨rfl,hn⟩:=zkQ h1;obtain⟨-,h⟩:=zrJ h;obtain⟨r2,h2,h⟩:=zkZ h;obtain⟨e0,rfl⟩:=zlX h2;obtain⟨r3,h3,h⟩:=zkZ h;obtain⟨a1,a2⟩:=hb back _ (ht.kidD 1) _ r3 (RInv.store hr hF hn (zsU hr.wf _ (zvO ht 1 (.inl rfl)) _ (LitB.expr hr.wf hfst) (by have:=hr.fb.cur;have:=hr.n;omega)) (hr.fb.open_ _ _)) h3;obtain⟨r4,h4,h⟩:=zkZ h;obtain⟨rfl,hn2⟩:=zkQ h4;obtain⟨-,h⟩:=zrJ h;obtain⟨e1,rfl⟩:=zlX h;obtain⟨kd,hw⟩:=hr.wf.cur;obtain⟨k1,k2,k3⟩:=zpD hw.len e0 a2.base a2.calls a2.nc e1;exact⟨RInv.store a1 hF hn2 (zrn a1.wf _ _) (a1.fb.close_ _ _),⟨k1,k2,k3⟩⟩
  split at h
  ·obtain⟨r1,h1,h⟩:=zkZ h;obtain⟨rfl,hn⟩:=zkQ h1;obtain⟨r2,h2,h⟩:=zkZ h;obtain⟨e0,rfl⟩:=zlX h2;obtain⟨r3,h3,h⟩:=zkZ h;obtain⟨a1,a2⟩:=hb back _ (ht.kidD 0) _ r3 (RInv.store hr hF hn (zsU hr.wf _ (zvO ht 3 (.inr rfl)) _ zero_I64 (by have:=hr.fb.cur;have:=hr.n;omega)) (hr.fb.open_ _ _)) h3;obtain⟨r4,h4,h⟩:=zkZ h;obtain⟨rfl,hn2⟩:=zkQ h4;obtain⟨e1,rfl⟩:=zlX h;obtain⟨kd,hw⟩:=hr.wf.cur;obtain⟨k1,k2,k3⟩:=zpD hw.len e0 a2.base a2.calls a2.nc e1;exact⟨RInv.store a1 hF hn2 (zrn a1.wf _ _) (a1.fb.close_ _ _),⟨k1,k2,k3⟩⟩
  split at h
  ·split at h
   ·cases h
   ·rename_i i hi;obtain⟨q1,q2,q3⟩:=hp.getD i;obtain⟨r1,h1,h⟩:=zkZ h;obtain⟨rfl,hn⟩:=zkQ h1;obtain⟨r2,h2,h⟩:=zkZ h;obtain⟨e0,rfl⟩:=zlX h2;obtain⟨r3,h3,h⟩:=zkZ h;have i1:=RInv.store hr hF hn (zv0 hr.wf _ (t.ks.map (·.s)) q2 zO) (hr.fb.enter _ _ q3);have h12:=fun hI=>hb _ _ q1 _ r3 hI h3;obtain⟨a1,a2⟩:=h12 ⟨i1.wf,i1.fb,i1.n⟩;obtain⟨r4,h4,h⟩:=zkZ h;obtain⟨rfl,hn2⟩:=zkQ h4;obtain⟨e1,rfl⟩:=zlX h;obtain⟨f,-,-,-,ef⟩:=zvZ e0;obtain⟨-,el⟩:=zvn e1;have hbs:=a2.base;have hcs:=a2.calls;have hnc:=a2.nc;simp only at hbs hcs hnc;rw[ef]at hbs hcs hnc;refine⟨RInv.store a1 hF hn2 (zvo a1.wf) a1.fb.leave,⟨?_,?_,?_⟩⟩
    ·simp only;rw[el];exact hbs
    ·simp only;rw[el];simp only;rw[hcs];simp
    ·simp only;rw[el];exact hnc
  ·obtain⟨r1,h1,h⟩:=zkZ h;obtain⟨rfl,hn⟩:=zkQ h1;obtain⟨e0,rfl⟩:=zlX h
   cases back
   ·obtain⟨k1,k2,k3⟩:=zn1 (S:=r.S) t;exact⟨RInv.store hr hF hn (zy3 hr.wf t) (hr.fb.do_ t),⟨k1,k2,Nat.le_of_eq k3.symm⟩⟩
   ·obtain⟨k1,k2,k3⟩:=zqI (S:=r.S) t;exact⟨RInv.store hr hF hn (zw9 hr.wf t) (hr.fb.undo t),⟨k1,k2,Nat.le_of_eq k3.symm⟩⟩
theorem zqN{prs:List PR}{F:Int}(hF:F<=1000000)(hp:PrB prs)(g:Nat)(back:Bool)(b:T)(r r':RS)(hb:LitB b)(hr:RInv r)(h:runO prs F g back b r=.ok r'):RInv r'/\Keep r r' :=
 zmr _ r r' (fun u hu r r' hr h=>zm4 hF hp g back u r r' (hb.block (zlh hu)) hr h) hr h
theorem zqm:∀(vs:List VD) (ls:List (List Int)),(∀i (h:i<vs.length) (h':i<ls.length),fit1 vs[i] ls[i]=true)->zmh vs ls=true
 | [],_,_=>by simp[zmh]
 | _::_,[],_=>by simp[zmh]
 | v::vs,l::ls,h=>by
  rw[zmh,Bool.and_eq_true];exact⟨h 0 zS zS,zqm vs ls fun i hi hi'=>h (i+1) (by simpa using hi) (by simpa using hi')⟩
section
variable {vs:List VD} {s:SS} {r':RS} {e:List Nat}
theorem zv2(hk:Keep ⟨newS vs s,0,e⟩ r'):r'.S.state.cells=(List.range vs.length).map r'.S.cell:=by
 unfold ST.state;rw[hk.base];simp[newS]
theorem zKb(h0:fitB vs s=true)(hw:r'.S.WF)(hk:Keep ⟨newS vs s,0,e⟩ r'):fitB vs r'.S.state=true:=by
 have hs:=zv2 hk;obtain⟨kd,hb,-,hc⟩:=hw.ex;have hsv:svB vs=true:=by
  unfold fitB at h0;simp only[Bool.and_eq_true]at h0;exact h0.1.1.1.1
 unfold fitB;simp only[Bool.and_eq_true,decide_eq_true_eq];refine⟨⟨⟨⟨hsv,by rw[hs];simp⟩,hw.tin.1⟩,hw.tout.1⟩,zqm _ _ fun i hi hi'=>?_⟩;have hbase:r'.S.base=⟨vs,List.range vs.length,0⟩:=hk.base;rw[hbase]at hb;have hki:=hb.kind i hi (by simpa using hi);simp only[List.getElem_range]at hki;have hii:=hb.num i (List.mem_range.2 hi);have hci:=hc i hii;have sJ:=(hw.cells i hii).1;have e1:r'.S.state.cells[i]=r'.S.cell i:=by
  have:r'.S.state.cells[i]?=some (r'.S.cell i):=by rw[hs,List.getElem?_map,List.getElem?_range hi];rfl
  exact(List.getElem?_eq_some_iff.1 this).2
 rw[e1];rw[hki]at hci;simp only at hci;unfold fit1 fixE;by_cases h3:vs[i].k=3
 ·rw[if_pos h3];simpa using sJ
 ·rw[if_neg h3];by_cases h1:vs[i].k=1
  ·rw[if_pos h1];have:=hci.1 h1;simp[this]
  ·rw[if_neg h1];have h2:vs[i].k=2:=zO
   have:=hci.2.1 h2;simpa using this
end
def Flat(t:T):Prop:=∀u∈po t,¬ (50<=u.k/\u.k<=55)
theorem Flat.kid{k n:Int}{s:ByteArray}{ks:List T}(h:Flat (.nd k n s ks)){t:T}(ht:t∈ks):Flat t:=fun u hu=>h u (by simp only[po,List.mem_cons];exact .inr (zlP.2 ⟨t,ht,hu⟩))
theorem Flat.expr{t:T}(h:isE t=true):Flat t:=fun u hu hk=>by
 have:=ztT u (zvy t h u hu);omega
theorem zzC{prs:List PR}{k:Int}{s:ByteArray}{l:Nat}{vs:List VD}(hk:¬ (50<=k/\k<=55)):zlr prs k s l vs=ownE vs k s:=by
 unfold zlr ownE znX useE;by_cases h2:k=2
 ·simp[h2];cases zlt vs s<;>rfl
 by_cases h3:k=3
 ·simp[h3];cases zlt vs s<;>rfl
 by_cases h4:k=4\/k=5\/k=44\/k=45
 ·simp[h2,h3,h4];cases zlt vs s<;>rfl
 ·rw[if_neg h2,if_neg h3,if_neg h4,if_neg zO,if_neg zO,if_neg h2,if_neg h3,if_neg h4];rfl
theorem zpH{k:Int}(hk:¬ (50<=k/\k<=55))(s:ByteArray)(i:Nat)(vs:List VD):zmc k s i vs=vs:=by
 unfold zmc;rw[if_neg zO,if_neg zO]
theorem zre{vs:List VD}:∀ {ks:List T},(∀t∈ks,fltE vs t=0)->zlz vs ks=0
 | [],_=>rfl
 | t::ts,h=>by
  rw[zlz,if_neg (by simpa using h t (List.mem_cons_self ..))];exact zre fun u hu=>h u (List.mem_cons_of_mem _ hu)
theorem zqq{prs:List PR}{k:Int}{s:ByteArray}{vs:List VD}:∀ {ks:List T} {i:Nat},cntK prs k s i ks vs=0->∀j (h:j<ks.length),cntV prs ks[j] (zmc k s (i+j) vs)=0
 | u::us,i,h,0,_=>by
  rw[cntK]at h;exact(Nat.add_eq_zero_iff.1 h).1
 | u::us,i,h,j+1,hj=>by
  rw[cntK]at h;have:=zqq (Nat.add_eq_zero_iff.1 h).2 j (by simpa using hj);rw[show i+1+j=i+(j+1) by omega]at this;exact this
theorem ztY:∀(t:T) (prs:List PR) (vs:List VD),Flat t->cntV prs t vs=0->fltE vs t=0:=by
 intro t
 induction t using T.ind with
 | _ k n s ks ih =>
  intro prs vs hf h;have hk:¬ (50<=k/\k<=55):=hf (.nd k n s ks) (by simp[po]);rw[cntV,if_neg zO]at h;obtain⟨h1,h2⟩:=Nat.add_eq_zero_iff.1 h;have h1:=zq1 h1;rw[zzC hk]at h1;rw[fltE,if_neg (by simpa using h1)];refine zre fun u hu=>?_;obtain⟨j,hj,rfl⟩:=List.getElem_of_mem hu;have h3:=zqq h2 j hj;rw[zpH hk]at h3;exact ih _ (List.getElem_mem hj) prs vs (hf.kid (List.getElem_mem hj)) h3
def QP(prs:List PR):Prop:=∀q∈prs,isB q.b=true/\cntV prs q.b q.ps=0/\frsN q.ps q.ps.length=0
structure SP(prs:List PR)(vs:List VD)(t:T):Prop where
 s:isS t=true
 c:cntV prs t vs=0
 q:QP prs
theorem zyo{prs:List PR}{vs:List VD}{b:T}(hb:isB b=true)(hc:cntV prs b vs=0)(hq:QP prs):∀u∈b.ks,SP prs vs u:=by
 obtain⟨k,n,s,ks⟩:=b;intro u hu;obtain⟨h57,hks⟩:=zny _ _ _ _ hb;have h57:k=57:=h57;rw[cntV,if_neg zO]at hc;obtain⟨j,hj,rfl⟩:=List.getElem_of_mem hu;have hj':j<ks.length:=hj;have h3:=zqq (Nat.add_eq_zero_iff.1 hc).2 j hj';rw[zpH zO]at h3;exact⟨hks _ hu,h3,hq⟩
theorem SP.bas{prs:List PR}{vs:List VD}{t:T}(h:SP prs vs t)(hk:¬ (50<=t.k/\t.k<=55)):fltE vs t=0:=by
 obtain⟨k,n,s,ks⟩:=t;obtain⟨hs,hc,hq⟩:=h;simp only[T.k_nd]at hk;refine ztY _ prs vs (fun u hu=>?_) hc;simp only[po,List.mem_cons]at hu;rcases hu with rfl|hu
 ·exact hk
 ·obtain⟨t,ht,hx⟩:=zlP.1 hu;rcases zmN hs with⟨_,h1⟩|⟨h1,_⟩|⟨h1,_⟩|⟨h1,_⟩
  ·rcases(zs9 hs).2 t ht with h2|h2
   ·exact Flat.expr h2 u hx
   ·exact absurd (zxM h2) (h1 t ht)
  all_goals omega
theorem PV.lit{p:PG}{w:World}{S:Nat->Prop}{v:Value}(h:PV w S p v)(hv:zkx p=true):LitB p.m/\PrB p.prs/\∀u∈p.vs,FldV u:=by
 obtain⟨A1,c1,A2,c2,A3,c3,-,gu⟩:=h;obtain⟨-,-,h3,-⟩:=zla hv;refine⟨NV.lit _ _ gu.main,fun q hq=>?_,fun u hu=>?_⟩
 ·have hb:=(h3 q hq).1;obtain⟨i,hi,rfl⟩:=List.getElem_of_mem hq;obtain⟨a,B1,d1,B2,d2,-,-,-,hr⟩:=gu.procs i hi;refine⟨NV.lit _ _ hr.body,fun v hv=>?_,zO⟩;obtain⟨j,hj,rfl⟩:=List.getElem_of_mem hv;obtain⟨-,-,-,-,hf⟩:=hr.row j hj;exact hf
 ·obtain⟨j,hj,rfl⟩:=List.getElem_of_mem hu;obtain⟨-,-,-,-,hf⟩:=gu.vars j hj;exact hf
theorem zLI{p:PG}(hv:zkx p=true)(hc:chkN p=0):QP p.prs/\isB p.m=true/\cntV p.prs p.m p.vs=0:=by
 obtain⟨h1,h2⟩:=znn hv;unfold chkN at hc;refine⟨fun q hq=>?_,h1,zO⟩;obtain⟨i,hi,rfl⟩:=List.getElem_of_mem hq;have:=zoK zl (show prcN p.prs p.prs.length=0 by omega) i hi hi;unfold prcE at this;exact⟨h2 _ hq,zO,zO⟩
structure EX where
 nm:ByteArray
 pt:Int
 fu:Int
 bx:BX
 gv:PG
abbrev exA(e:EX)(A1:Option Addr)(c1:Nat)(A2:Option Addr)(c2:Nat)(A3:Option Addr)(c3:Nat):Array Value := #[.string e.nm,zi e.pt,zi e.fu,zi e.bx.v,zi e.bx.l,zi e.bx.i,.slice A1 e.gv.vs.length c1,.slice A2 e.gv.prs.length c2,zj e.gv.m.k,zi e.gv.m.n,.string e.gv.m.s,.slice A3 e.gv.m.ks.length c3]
def EV(w:World)(S:Nat->Prop)(e:EX)(v:Value):Prop:=∃A1 c1 A2 c2 A3 c3,v=.agg (exA e A1 c1 A2 c2 A3 c3)/\PgR w S e.gv A1 c1 A2 c2 A3 c3/\I64 e.fu
theorem PgR.pv{w:World}{S:Nat->Prop}{p:PG}{A1:Option Addr}{c1:Nat}{A2:Option Addr}{c2:Nat}{A3:Option Addr}{c3:Nat}(h:PgR w S p A1 c1 A2 c2 A3 c3):PV w S p (pv A1 p.vs.length c1 A2 p.prs.length c2 p.m.k p.m.n p.m.s A3 p.m.ks.length c3):=⟨A1,c1,A2,c2,A3,c3,rfl,h⟩
theorem EV.later{w w':World}{S:Nat->Prop}{e:EX}{v:Value}(h:EV w S e v)(hb:zw w w'):EV w' S e v:=by
 obtain⟨A1,c1,A2,c2,A3,c3,h1,h2,h3⟩:=h;exact⟨A1,c1,A2,c2,A3,c3,h1,h2.later hb,h3⟩
def zk3(e:EX):Bool:=zmo e.nm&&decide (1<=e.pt/\e.pt<=1000)&&decide (0<=e.fu/\e.fu<=1000000)&&okB e.gv&&okB (zkL e.gv)&&decide ((cntR e.gv.vs e.bx).2=0/\(cntR e.gv.vs e.bx).1<=65536)
def gerE(p:PG)(F:Int)(s:SS):Int:=(resO p s F (F.toNat*2000+2000) false).2.2.1
def gstE(p:PG)(F:Int)(s:SS):SS:=(resO p s F (F.toNat*2000+2000) false).1
def relG(p:PG)(F:Int)(s:SS):Bool:=gerE p F s==0
def rigG(p q:PG)(F:Int)(s:SS):Bool:=gerE q F (gstE p F s)==0&&eqS (gstE q F (gstE p F s)) s
def erG(p q:PG)(F:Int)(s:SS):Int:=gerE q F (gstE p F s)
def grdE(e:EX)(q:PG):Bool×Nat×SS×Int:=grE (relG e.gv e.fu) (rigG e.gv q e.fu) (erG e.gv q e.fu) 0 (allS e.bx (lenE e.gv.vs e.bx))
section
variable {P:Program} {md:Region.Mode} {ops:Array Oper} {Q:Exit->Act->World->Prop} {S1 S2:World->Prop} {k:Nat}
theorem zp3{i j:Nat}{oi oj:Oper}(si sj:Option Nat)(n:Nat)(L:Bool->Bool->Array Bool)(a0:Act)(Inv:World->Prop)(Al Fact:Value->World->Prop)
  (hoi:ops[i]?=some oi)(hoj:ops[j]?=some oj)(hdi:oi.dst=si)(hdj:oj.dst=sj)(hr0:Region.ready md ops (L false false)=[i,j])(hr1:Region.ready md ops (L false true)=[i])
  (hLi:∀l4,(L false l4).setIfInBounds i true=L true l4)(hLj:(L false false).setIfInBounds j true=L false true)
  (hS:∀w,Inv w->S1 w/\S2 w)(hInv:∀w w',Inv w->zw w w'->Inv w')(hAl:∀u w w',Al u w->zw w w'->Al u w')
  (hi:∀(v4:Value) (K:Act->World->Prop) (w:World),Inv w->Shut (∀v w',zw w w'->Fact v w'->K ((a0.put sj v4).put si v) w')->if Region.wanted oi (yielded ops (a0.put sj v4).tmps)=true then Oper.wp P oi (a0.put sj v4) w K Q else K ((a0.put sj v4).put si undef) w)
  (hj:∀(v4:Value) (K:Act->World->Prop) (w:World),Inv w->Shut (∀v w',zw w w'->Al v w'->K ((a0.put sj v4).put sj v) w')->if Region.wanted oj (yielded ops (a0.put sj v4).tmps)=true then Oper.wp P oj (a0.put sj v4) w K Q else K ((a0.put sj v4).put sj undef) w)
  (xn:∀u v,(a0.put sj u).put sj v=a0.put sj v)
  (hc:∀(l4:Bool) (v4 v:Value) (w:World),Inv w->Fact v w->(l4=true->Al v4 w)->(l4=false->v4=undef)->wpG P md ops Q S1 S2 k (n+(!l4).toNat) (L true l4) ((a0.put sj v4).put si v) w) :
  ∀(l4:Bool) (v4:Value) (w:World),Inv w->(l4=true->Al v4 w)->(l4=false->v4=undef)->a0.put sj v4=a0->wpG P md ops Q S1 S2 k (n+1+(!l4).toNat) (L false l4) a0 w:=by
 subst hdi hdj;have h1:∀(v4:Value) (w:World),Inv w->Al v4 w->wpG P md ops Q S1 S2 k (n+1) (L false true) (a0.put oj.dst v4) w:=by
  intro v4 w hI hA;refine⟨(fun h0=>by rw[hr1]at h0;cases h0),fun q hq=>?_⟩;rw[hr1]at hq;simp only[List.mem_singleton]at hq;subst hq;refine wpOp_step hoi fun K' hK=>hi v4 K' w hI ?_;intro v w' hb hF;have hI':=hInv _ _ hI hb;refine hK _ _ ⟨⟨(hS _ hI').1,fun _=>(hS _ hI').2⟩,?_⟩;rw[hLi];exact hc true v4 v w' hI' hF (fun _=>hAl _ _ _ hA hb) (fun h=>by cases h)
 intro l4 v4 w hI hA hU ha
 cases l4
 ·have hv:=hU rfl;refine⟨(fun h0=>by rw[hr0]at h0;cases h0),fun q hq=>?_⟩;rw[hr0]at hq;simp only[List.mem_cons,List.not_mem_nil,or_false]at hq;rcases hq with rfl|rfl
  ·refine wpOp_step hoi fun K' hK=>?_;rw[<-ha];refine hi v4 K' w hI ?_;intro v w' hb hF;have hI':=hInv _ _ hI hb;refine hK _ _ ⟨⟨(hS _ hI').1,fun _=>(hS _ hI').2⟩,?_⟩;rw[hLi];exact hc false v4 v w' hI' hF (fun h=>by cases h) (fun _=>hv)
  ·refine wpOp_step hoj fun K' hK=>?_;rw[<-ha];refine hj v4 K' w hI ?_;intro v w' hb hF;have hI':=hInv _ _ hI hb;refine hK _ _ ⟨⟨(hS _ hI').1,fun _=>(hS _ hI').2⟩,?_⟩;rw[hLj,xn];exact h1 v w' hI' hF
 ·rw[<-ha];exact h1 v4 w hI (hA rfl)
theorem zsA{j:Nat}{oj:Oper}(sj:Option Nat)(n:Nat)(L:Bool->Array Bool)(a0:Act)(Inv:World->Prop)(Al:Value->World->Prop)
  (hoj:ops[j]?=some oj)(hdj:oj.dst=sj)(hr0:Region.ready md ops (L false)=[j])(hLj:(L false).setIfInBounds j true=L true)
  (hS:∀w,Inv w->S1 w/\S2 w)(hInv:∀w w',Inv w->zw w w'->Inv w')
  (hj:∀(v4:Value) (K:Act->World->Prop) (w:World),Inv w->Shut (∀v w',zw w w'->Al v w'->K ((a0.put sj v4).put sj v) w')->if Region.wanted oj (yielded ops (a0.put sj v4).tmps)=true then Oper.wp P oj (a0.put sj v4) w K Q else K ((a0.put sj v4).put sj undef) w)
  (xn:∀u v,(a0.put sj u).put sj v=a0.put sj v)
  (hc:∀(v4:Value) (w:World),Inv w->Al v4 w->wpG P md ops Q S1 S2 k n (L true) (a0.put sj v4) w) :
  ∀(l4:Bool) (v4:Value) (w:World),Inv w->(l4=true->Al v4 w)->a0.put sj v4=a0->wpG P md ops Q S1 S2 k (n+(!l4).toNat) (L l4) a0 w:=by
 subst hdj;intro l4 v4 w hI hA ha
 cases l4
 ·refine⟨(fun h0=>by rw[hr0]at h0;cases h0),fun q hq=>?_⟩;rw[hr0]at hq;simp only[List.mem_singleton]at hq;subst hq;refine wpOp_step hoj fun K' hK=>?_;rw[<-ha];refine hj v4 K' w hI ?_;intro v w' hb hF;have hI':=hInv _ _ hI hb;refine hK _ _ ⟨⟨(hS _ hI').1,fun _=>(hS _ hI').2⟩,?_⟩;rw[hLj,xn];exact hc v w' hI' hF
 ·rw[<-ha];exact hc v4 w hI (hA rfl)
end
def lsF(n:Nat)(l0:Array Bool)(d:Nat->Bool):Array Bool:=((List.range n).map fun i=>l0.getD i true||d i).toArray
theorem zqd{n:Nat}{l0:Array Bool}{d:Nat->Bool}{i:Nat}(h:i<n)(b:Bool):(lsF n l0 d).getD i b=(l0.getD i true||d i):=by simp[lsF,Array.getD,h]
theorem zzO{n:Nat}{l0:Array Bool}{d:Nat->Bool}{i:Nat}(h:¬ i<n)(b:Bool):(lsF n l0 d).getD i b=b:=by simp[lsF,Array.getD,h]
theorem zzN{n:Nat}{l0:Array Bool}{d:Nat->Bool}{i:Nat}:(lsF n l0 d).setIfInBounds i true=lsF n l0 (fun j=>j==i||d j):=by
 unfold lsF;apply Array.ext
 ·simp
 ·intro j h1 h2;have hj:j<n:=by simpa using h2
  rw[Array.getElem_setIfInBounds (by simpa using hj)];by_cases e:i=j
  ·subst e;simp
  ·have e':(j==i)=false:=by simpa using fun h:j=i=>e h.symm
   simp[e,e']
def dsF(ops:Array Oper)(i:Nat):Option Tmp:=(ops[i]?).bind fun o=>o.dst
def putF(ops:Array Oper)(vs:Nat->Value):List Nat->Act->Act
 | [],a=>a
 | i::T,a=>putF ops vs T (a.put (dsF ops i) (vs i))
theorem zxn(a:Act)(s:Option Tmp)(v x:Value):(a.put s v).put s x=a.put s x:=by
 cases s with
 | none=>rfl
 | some d=>simp[Act.put]
theorem zqU{ops:Array Oper}{vs:Nat->Value}{s:Option Tmp}{x:Value}:∀ {T:List Nat} {a:Act},s ∉ T.map (dsF ops)->(putF ops vs T a).put s x=putF ops vs T (a.put s x)
 | [],_,_=>rfl
 | i::T,a,h=>by
  rw[putF,putF,zqU (T:=T) fun hm=>h (List.mem_cons_of_mem _ hm),Act.put_comm a (vs i) x fun d e1 e2=>h (by rw[List.map_cons,e1,e2];exact List.mem_cons_self ..)]
theorem zpy{ops:Array Oper}{vs vs':Nat->Value}:∀ {T:List Nat} {a:Act},(∀i∈T,vs i=vs' i)->putF ops vs T a=putF ops vs' T a
 | [],_,_=>rfl
 | i::T,a,h=>by rw[putF,putF,h i (List.mem_cons_self ..),zpy fun j hj=>h j (List.mem_cons_of_mem _ hj)]
theorem zsO{ops:Array Oper}{vs:Nat->Value}{i:Nat}{x:Value}:∀ {T:List Nat} {a:Act},(T.map (dsF ops)).Nodup->i∈T->(putF ops vs T a).put (dsF ops i) x=putF ops (fun j=>if j=i then x else vs j) T a
 | k::T,a,hn,hi=>by
  rw[List.map_cons,List.nodup_cons]at hn;rw[putF,putF];by_cases e:i=k
  ·subst e;rw[zqU hn.1,zxn,if_pos rfl];refine zpy fun j hj=>?_;rw[if_neg fun e=>hn.1 (by rw[<-e];exact List.mem_map_of_mem hj)]
  ·have hi2:i∈T:=by
    rcases List.mem_cons.1 hi with h|h
    ·exact absurd h e
    ·exact h
   rw[zsO hn.2 hi2,if_neg fun h=>e h.symm]
theorem zsY{f:Nat->Option Tmp}:∀ {T:List Nat},(T.map f).Nodup->T.Nodup
 | [],_=>List.nodup_nil
 | i::T,h=>by
  rw[List.map_cons,List.nodup_cons]at h;exact List.nodup_cons.2 ⟨fun hm=>h.1 (List.mem_map_of_mem hm),zsY h.2⟩
theorem zs6{p:Nat->Prop}:∀N,(∃i,i<N/\p i)->∃i,p i/\∀j,j<i->¬ p j
 | 0,⟨i,h,_⟩=>absurd h (Nat.not_lt_zero i)
 | N+1,⟨i,hi,hp⟩=>by
  by_cases h:∃i,i<N/\p i
  ·exact zs6 N h
  ·exact⟨i,hp,fun j hj hpj=>h ⟨j,zO,hpj⟩⟩
section
variable {P:Program} {md:Region.Mode} {ops:Array Oper} {Q:Exit->Act->World->Prop} {S1 S2:World->Prop} {k:Nat}
def tskF(md:Region.Mode)(ops:Array Oper)(T:List Nat)(z n:Nat)(dep:Nat->List Nat)(l0:Array Bool):Bool :=
 decide (ops.size=n)&&(T.all fun i=>decide (i<n) && !(l0.getD i true)&&((dep i).all fun d=>zoy md ops i d&&T.contains d)&&match ops[i]? with
  | some o=>o.after.all fun e => !(Region.binds md e)||(l0.getD e.on false||T.contains e.on)&&decide (e.on<i)
  | none=>false)&&(List.range n).all fun i=>l0.getD i true||T.contains i||decide (z<=i)&&T.all fun j=>(T.any fun k=>(dep k).contains j)||zoy md ops i j
def conF(T:List Nat)(dep con:Nat->List Nat):Bool:=T.all fun i=>(con i).all fun d=>(dep i).contains d&&T.all fun j=>j==i || !((dep j).contains d)
theorem zun{T:List Nat}{z n:Nat}(N0:Nat)(ob:Nat->Value->Option Nat)(dep con:Nat->List Nat)(fz:Nat)(l0:Array Bool)(a0:Act)(Inv:World->Prop)(Fact:Nat->Value->List Value->World->Prop)
  (hds:(T.map (dsF ops)).Nodup)(htk:tskF md ops T z n dep l0=true)(hcn:conF T dep con=true)
  (hN:∀w,Inv w->N0<=w.heap.size)(hS:∀w,Inv w->S1 w/\S2 w)
  (hInv:∀w w' C,Inv w->Chg C w w'->(∀b,C b->N0<=b/\∃i,con i≠[])->Inv w')
  (hF:∀i v ds w w' C,Fact i v ds w->Chg C w w'->(∀b,C b->N0<=b/\∃i,con i≠[])->(∀b,ob i v=some b->¬ C b)->Fact i v ds w')
  (hstep:∀i∈T,∀(oi:Oper),ops[i]?=some oi->∀(vs:Nat->Value) (K:Act->World->Prop) (w:World),Inv w->(∀d∈dep i,Fact d (vs d) ((dep d).map vs) w)->Shut (∀x w',Chg (fun b=>∃d∈con i,ob d (vs d)=some b) w w'->(∀b,ob i x=some b->(w.heap.size<=b\/∃d∈con i,ob d (vs d)=some b)/\b<w'.heap.size)->Fact i x ((dep i).map vs) w'->K ((putF ops vs T a0).put oi.dst x) w') ->
   if Region.wanted oi (yielded ops (putF ops vs T a0).tmps)=true then Oper.wp P oi (putF ops vs T a0) w K Q else K ((putF ops vs T a0).put oi.dst undef) w)
  (hfin:∀(vs:Nat->Value) (w:World),Inv w->(∀i∈T,(∀j∈T,i ∉ con j)->Fact i (vs i) ((dep i).map vs) w)->(∀i j,i∈T->j∈T->i≠j->(∀q∈T,i ∉ con q/\j ∉ con q)->∀b,ob i (vs i)=some b->ob j (vs j)=some b->False)->wpG P md ops Q S1 S2 k fz (lsF n l0 fun i=>T.contains i) (putF ops vs T a0) w) :
  ∀w vs,Inv w->wpG P md ops Q S1 S2 k (T.length+fz) (lsF n l0 fun _=>false) (putF ops vs T a0) w:=by
 unfold tskF at htk;simp only[Bool.and_eq_true,List.all_eq_true,List.any_eq_true,decide_eq_true_eq,Bool.not_eq_true',beq_eq_false_iff_ne,ne_eq,Bool.or_eq_true,List.contains_iff_mem,beq_iff_eq,List.mem_range]at htk;obtain⟨⟨hn,hT⟩,hcov⟩:=htk;have sW:∀i∈T,∀d∈con i,d∈dep i/\∀j∈T,j≠i->d ∉ dep j:=by
  intro i hi d hd;unfold conF at hcn;simp only[List.all_eq_true,Bool.and_eq_true,Bool.or_eq_true,beq_iff_eq,Bool.not_eq_true',List.contains_iff_mem]at hcn;obtain⟨h1,h2⟩:=hcn i hi d hd;refine⟨h1,fun j hj hji hdj=>?_⟩;rcases h2 j hj with h|h
  ·exact hji h
  ·rw[<-Bool.not_eq_true,List.contains_iff_mem]at h;exact h hdj
 have key:∀(m:Nat) (done:Nat->Bool) (vs:Nat->Value) (w:World),Inv w->(∀i,done i=true->i∈T)->(∀i∈T,done i=true->(∀j,done j=true->i ∉ con j)->Fact i (vs i) ((dep i).map vs) w)->(∀i∈T,done i=true->∀d∈dep i,done d=true)->(∀i,done i=true->∀b,ob i (vs i)=some b->N0<=b/\b<w.heap.size)->(∀i j,done i=true->done j=true->i≠j->(∀q,done q=true->i ∉ con q/\j ∉ con q)->∀b,ob i (vs i)=some b->ob j (vs j)=some b->False)->(T.filter fun i => !done i).length=m ->
   wpG P md ops Q S1 S2 k (m+fz) (lsF n l0 done) (putF ops vs T a0) w:=by
  intro m
  induction m with
  | zero =>
   intro done vs w hI h1 h2 h3 h4 h5 hm;have hall:∀i∈T,done i=true:=fun i hi=>by
    have:=List.filter_eq_nil_iff.1 (List.eq_nil_of_length_eq_zero hm) i hi;simpa using this
   have he:done=fun i=>T.contains i:=by
    funext i
    cases hd:done i with
    | true=>simp[h1 i hd]
    | false =>
     cases hc:T.contains i with
     | false=>rfl
     | true=>rw[hall i (by simpa using hc)]at hd;cases hd
   rw[he,Nat.zero_add];exact hfin vs w hI (fun i hi hu=>h2 i hi (hall i hi) fun j hj=>hu j (h1 j hj)) fun i j hi hj hij hu=>h5 i j (hall i hi) (hall j hj) hij fun q hq=>hu q (h1 q hq)
  | succ m ih =>
   intro done vs w hI h1 h2 h3 h4 h5 hm;have hex:∃i,i<n/\(i∈T/\done i=false):=by
    cases hl:T.filter fun i => !done i with
    | nil=>rw[hl]at hm;simp at hm
    | cons i r =>
     have hi:i∈T.filter fun i => !done i:=by rw[hl];exact List.mem_cons_self ..
     have:=List.mem_filter.1 hi;exact⟨i,(hT i this.1).1.1.1,this.1,by simpa using this.2⟩
   obtain⟨i0,⟨hi0,hd0⟩,hmin⟩:=zs6 n hex;have hr0:i0∈Region.ready md ops (lsF n l0 done):=by
    obtain⟨⟨⟨q1,q2⟩,q3⟩,q6⟩:=hT i0 hi0;refine mem_ready.2 ⟨by rw[zqd q1,q2,hd0];rfl,?_⟩
    cases ho:ops[i0]? with
    | none=>rw[ho]at q6;cases q6
    | some o =>
     rw[ho]at q6;refine⟨o,rfl,fun e he hb=>?_⟩;have:=Array.all_eq_true_iff_forall_mem.1 q6 e he;simp only[Bool.or_eq_true,Bool.and_eq_true,Bool.not_eq_true',List.contains_iff_mem,decide_eq_true_eq]at this;rcases this with h|⟨h,hlt⟩
     ·rw[hb]at h;cases h
     ·have hon:e.on<n:=zO
      rw[zqd hon];rcases h with h|h
      ·have:l0.getD e.on true=true:=by
        unfold Array.getD at h ⊢
        split at h
        ·rename_i hh;rw[dif_pos hh];exact h
        ·cases h
       rw[this];rfl
      ·have hde:done e.on=true:=by
        cases hd:done e.on with
        | true=>rfl
        | false=>exact absurd ⟨h,hd⟩ (hmin e.on hlt)
       rw[hde];simp
   rw[show m+1+fz=(m+fz)+1 by omega];refine⟨fun h0=>(by rw[h0]at hr0;cases hr0),fun q hq=>?_⟩;obtain⟨hun,oq,hoq,hall⟩:=mem_ready.1 hq;have hqn:q<n:=by
    by_cases h:q<n
    ·exact h
    ·rw[zzO h]at hun;cases hun
   rw[zqd hqn]at hun;simp only[Bool.or_eq_false_iff]at hun;have hlst:∀d∈T,zoy md ops q d=true->done d=true:=fun d hd hw=>by
    obtain⟨o,ho,e,he,hb,rfl⟩:=zox hw;rw[hoq]at ho;injection ho with ho;subst ho;have:=hall e he hb;obtain⟨⟨⟨q1,q2⟩,-⟩,-⟩:=hT _ hd;rw[zqd q1,q2]at this;simpa using this
   have qF:q∈T:=by
    rcases hcov q hqn with(h|h)|h
    ·rw[hun.1]at h;cases h
    ·exact h
    ·exfalso
     have hall:∀m i,i∈T->n-i<=m->done i=true:=fun m=>by
      induction m with
      | zero=>exact fun i hi hm=>absurd (hT i hi).1.1.1 zO
      | succ m ihm =>
       intro i hi hm;rcases h.2 i hi with⟨k,hk,hd⟩|hw
       ·have hw:=((hT k hk).1.2 i hd).1;have hik:i<k:=by
         obtain⟨o,ho,e,he,hb,rfl⟩:=zox hw;have q6:=(hT k hk).2;rw[ho]at q6;have:=Array.all_eq_true_iff_forall_mem.1 q6 e he;simp only[Bool.or_eq_true,Bool.and_eq_true,Bool.not_eq_true',List.contains_iff_mem,decide_eq_true_eq]at this;rcases this with h|⟨-,hlt⟩
         ·rw[hb]at h;cases h
         ·exact hlt
        have:=(hT k hk).1.1.1;exact h3 k hk (ihm k hk zO) i hd
       ·exact hlst i hi hw
     have:=hall n i0 hi0 (Nat.sub_le _ _);rw[hd0]at this;cases this
   have qJ:∀d∈dep q,done d=true:=fun d hd=>by
    have:=(hT q qF).1.2 d hd;exact hlst d this.2 this.1
   have hne:∀j,done j=true->j≠q:=fun j hj e=>by rw[e,hun.2]at hj;cases hj
   have hfree:∀d∈dep q,∀j,done j=true->d ∉ con j:=fun d hd j hj hc=>(sW j (h1 j hj) d hc).2 q qF (fun e=>hne j hj e.symm) hd;refine wpOp_step hoq fun K' hK=>hstep q qF oq hoq vs K' w hI (fun d hd=>h2 d (h1 d (qJ d hd)) (qJ d hd) (hfree d hd)) ?_;intro x w' hb ou hFx;have BH:∀b,(∃d∈con q,ob d (vs d)=some b)->N0<=b/\∃i,con i≠[]:=fun b ⟨d,hd,wC⟩=>⟨(h4 d (qJ d (sW q qF d hd).1) b wC).1,q,fun e=>by rw[e]at hd;cases hd⟩
   have hI':=hInv _ _ _ hI hb BH;refine hK _ _ ⟨⟨(hS _ hI').1,fun _=>(hS _ hI').2⟩,?_⟩;have hdst:oq.dst=dsF ops q:=by unfold dsF;rw[hoq];rfl
   have hmap:∀j,(∀d∈dep j,done d=true)->(dep j).map (fun i=>if i=q then x else vs i)=(dep j).map vs:=fun j hj=>List.map_congr_left fun d hd=>if_neg fun e=>by rw[e]at hd;have:=hj q hd;rw[hun.2]at this;cases this
   have hapart:∀j,done j=true->(∀p,(p==q||done p)=true->j ∉ con p)->∀b,ob j (vs j)=some b->¬ ∃d∈con q,ob d (vs d)=some b:=fun j hj hu b hjb ⟨d,hd,wC⟩=>by
    have hdd:=(sW q qF d hd).1;refine h5 d j (qJ d hdd) hj (fun e=>hu q zS (by rw[<-e];exact hd)) (fun p hp=>⟨hfree d hdd p hp,hu p (by simp[hp])⟩) b wC hjb
   rw[zzN,hdst,zsO hds qF];refine ih (fun j=>j==q||done j) _ w' hI' (fun j hj=>?_) (fun j hj hd hu=>?_) (fun j hj hd d hdd=>?_) (fun j hd b hb2=>?_) (fun i j hdi hdj hij hu b hbi hbj=>?_) ?_
   ·simp only[Bool.or_eq_true,beq_iff_eq]at hj;rcases hj with rfl|hj
    ·exact qF
    ·exact h1 j hj
   ·simp only[Bool.or_eq_true,beq_iff_eq]at hd;by_cases e:j=q
    ·subst e;rw[if_pos rfl,hmap j qJ];exact hFx
    ·have hd:done j=true:=hd.resolve_left e;rw[if_neg e,hmap j (h3 j hj hd)];exact hF _ _ _ _ _ _ (h2 j hj hd fun p hp=>hu p (by simp[hp])) hb BH (hapart j hd hu)
   ·simp only[Bool.or_eq_true,beq_iff_eq]at hd ⊢;by_cases e:j=q
    ·subst e;exact .inr (qJ d hdd)
    ·exact .inr (h3 j hj (hd.resolve_left e) d hdd)
   ·simp only[Bool.or_eq_true,beq_iff_eq]at hd;by_cases e:j=q
    ·rw[if_pos e]at hb2;rw[e]at hb2;refine⟨?_,(ou b hb2).2⟩;rcases(ou b hb2).1 with h|h
     ·exact Nat.le_trans (hN _ hI) h
     ·exact(BH b h).1
    ·rw[if_neg e]at hb2;have:=h4 j (hd.resolve_left e) b hb2;exact⟨this.1,Nat.lt_of_lt_of_le this.2 hb.size⟩
   ·simp only[Bool.or_eq_true,beq_iff_eq]at hdi hdj;have go:∀j,j≠q->done j=true->(∀p,(p==q||done p)=true->j ∉ con p)->ob q x=some b->ob j (vs j)=some b->False:=fun j hjq hdj hu hbq hbj=>by
     rcases(ou b hbq).1 with h|h
     ·have:=(h4 j hdj b hbj).2;omega
     ·exact hapart j hdj hu b hbj h
    by_cases ei:i=q
    ·have ej:¬ j=q:=fun h=>hij (ei.trans h.symm);rw[if_pos ei,ei]at hbi;rw[if_neg ej]at hbj;exact go j ej (hdj.resolve_left ej) (fun p hp=>(hu p hp).2) hbi hbj
    ·by_cases ej:j=q
     ·rw[if_neg ei]at hbi;rw[if_pos ej,ej]at hbj;exact go i ei (hdi.resolve_left ei) (fun p hp=>(hu p hp).1) hbj hbi
     ·rw[if_neg ei]at hbi;rw[if_neg ej]at hbj;exact h5 i j (hdi.resolve_left ei) (hdj.resolve_left ej) hij (fun p hp=>hu p (by simp[hp])) b hbi hbj
   ·have hnd:T.Nodup:=zsY hds;have hcnt:∀L:List Nat,L.Nodup->q∈L->(L.filter fun j => !(j==q||done j)).length+1=(L.filter fun j => !done j).length:=by
     intro L
     induction L with
     | nil=>intro _ h;cases h
     | cons y L ihL =>
      intro hn hq;rw[List.nodup_cons]at hn;rw[List.filter_cons,List.filter_cons];by_cases e:y=q
      ·subst e;have hsame:(L.filter fun j => !(j==y||done j))=L.filter fun j => !done j:=List.filter_congr fun j hj=>by
        have:¬ j=y:=fun e=>hn.1 (e▸hj);simp[this]
       rw[if_neg zS,if_pos (by simp[hun.2]),hsame,List.length_cons]
      ·have hq2:q∈L:=by
        rcases List.mem_cons.1 hq with h|h
        ·exact absurd h.symm e
        ·exact h
       have:=ihL hn.2 hq2;have e2:(y==q)=false:=by simpa using e
       cases hy:done y
       ·rw[if_pos (by simp[e2,hy]),if_pos (by simp[hy]),List.length_cons,List.length_cons,this]
       ·rw[if_neg (by simp[e2,hy]),if_neg (by simp[hy]),this]
    have:=hcnt T hnd qF;omega
 intro w vs hI;have h0:=key T.length (fun _=>false) vs w hI (fun i h=>by cases h) (fun i _ h=>by cases h) (fun i _ h=>by cases h) (fun i h=>by cases h) (fun i j h=>by cases h) zS;exact h0
def putP(vs:Nat->Value):List (Nat×Nat)->Act->Act
 | [],a=>a
 | (i,d)::T,a=>putP vs T (a.put (some d) (vs i))
def dstP(ops:Array Oper):List (Nat×Nat)->Bool
 | []=>true
 | (i,d)::T=>(match ops[i]? with|some o=>o.dst==some d|none=>false)&&dstP ops T
theorem zsP{vs:Nat->Value}:∀ {T:List (Nat×Nat)} {a:Act},dstP ops T=true->putF ops vs (T.map (·.1)) a=putP vs T a
 | [],_,_=>rfl
 | (i,d)::T,a,h=>by
  simp only[dstP,Bool.and_eq_true]at h;have e:dsF ops i=some d:=by
   unfold dsF
   cases ho:ops[i]? with
   | none=>rw[ho]at h;cases h.1
   | some o=>rw[ho]at h;simpa using h.1
  rw[List.map_cons,putF,putP,e,zsP h.2]
theorem zuo{T:List (Nat×Nat)}{z n f:Nat}{L:Array Bool}{a0:Act}(N0:Nat)(ob:Nat->Value->Option Nat)(dep con:Nat->List Nat)(fz:Nat)(Inv:World->Prop)(Fact:Nat->Value->List Value->World->Prop)
  (hf:f=T.length+fz)(hL:lsF n L (fun _=>false)=L)(hA:putP (fun _=>undef) T a0=a0)
  (hds:(T.map (·.2)).Nodup)(hdp:dstP ops T=true)(htk:tskF md ops (T.map (·.1)) z n dep L=true)(hcn:conF (T.map (·.1)) dep con=true)
  (hN:∀w,Inv w->N0<=w.heap.size)(hS:∀w,Inv w->S1 w/\S2 w)
  (hInv:∀w w' C,Inv w->Chg C w w'->(∀b,C b->N0<=b/\∃i,con i≠[])->Inv w')
  (hF:∀i v ds w w' C,Fact i v ds w->Chg C w w'->(∀b,C b->N0<=b/\∃i,con i≠[])->(∀b,ob i v=some b->¬ C b)->Fact i v ds w')
  (hstep:∀q∈T,∀(oi:Oper),ops[q.1]?=some oi->∀(vs:Nat->Value) (K:Act->World->Prop) (w:World),Inv w->(∀d∈dep q.1,Fact d (vs d) ((dep d).map vs) w)->Shut (∀x w',Chg (fun b=>∃d∈con q.1,ob d (vs d)=some b) w w'->(∀b,ob q.1 x=some b->(w.heap.size<=b\/∃d∈con q.1,ob d (vs d)=some b)/\b<w'.heap.size)->Fact q.1 x ((dep q.1).map vs) w'->K ((putP vs T a0).put oi.dst x) w') ->
   if Region.wanted oi (yielded ops (putP vs T a0).tmps)=true then Oper.wp P oi (putP vs T a0) w K Q else K ((putP vs T a0).put oi.dst undef) w)
  (hfin:∀(vs:Nat->Value) (w:World),Inv w->(∀q∈T,(∀j∈T,q.1 ∉ con j.1)->Fact q.1 (vs q.1) ((dep q.1).map vs) w)->(∀i j,i∈T.map (·.1)->j∈T.map (·.1)->i≠j->(∀q∈T.map (·.1),i ∉ con q/\j ∉ con q)->∀b,ob i (vs i)=some b->ob j (vs j)=some b->False)->wpG P md ops Q S1 S2 k fz (lsF n L fun i=>(T.map (·.1)).contains i) (putP vs T a0) w) :
  ∀w,Inv w->wpG P md ops Q S1 S2 k f L a0 w:=by
 have hdn:((T.map (·.1)).map (dsF ops)).Nodup:=by
  have:∀L:List (Nat×Nat),dstP ops L=true->(L.map (·.1)).map (dsF ops)=(L.map (·.2)).map some:=by
   intro L
   induction L with
   | nil=>intro _;rfl
   | cons q L ih =>
    intro h;obtain⟨i,d⟩:=q;simp only[dstP,Bool.and_eq_true]at h;have e:dsF ops i=some d:=by
     unfold dsF
     cases ho:ops[i]? with
     | none=>rw[ho]at h;cases h.1
     | some o=>rw[ho]at h;simpa using h.1
    simp only[List.map_cons,e,ih h.2]
  rw[this T hdp];exact List.Pairwise.map some (fun a b h e=>h (by injection e)) hds
 intro w hI;have h:=zun (P:=P) (md:=md) (Q:=Q) (S1:=S1) (S2:=S2) (k:=k) N0 ob dep con fz L a0 Inv Fact hdn htk hcn hN hS hInv hF (fun i hi oi hoi vs K w hI hd hK=>by
  obtain⟨q,hq,rfl⟩:=List.mem_map.1 hi;rw[zsP hdp]at hK ⊢;exact hstep q hq oi hoi vs K w hI hd hK) (fun vs w hI hF hO=>by
  rw[zsP hdp];exact hfin vs w hI (fun q hq hu=>hF q.1 (List.mem_map_of_mem hq) fun j hj=>by
   obtain⟨j2,hj2,rfl⟩:=List.mem_map.1 hj;exact hu j2 hj2) hO) w (fun _=>undef) hI
 rw[zsP hdp,List.length_map,hL,hA]at h;rw[hf];exact h
theorem opF{oi:Oper}{i:Nat}(h:ops[i]?=some oi){α:Type}(f:Oper->α){x:α}(hx:(ops[i]?).map f=some x):f oi=x:=by rw[h]at hx;exact Option.some.inj hx
theorem zpv{oi:Oper}{i:Nat}{a:Act}{w:World}{K:Act->World->Prop}{F:Prop}(hoi:ops[i]?=some oi)(x:Operand)(xs:List Operand)(ats:Array TypeId)(hg:(ops[i]?).map (fun o=>o.guard)=some none)
  (ho:(ops[i]?).map (fun o=>o.op)=some (.call { callee:=.value x,args:=xs.toArray,argTypes:=ats }))(f:FuncId)(fn:Func)(hf:IsFn P f fn)(cap:Array Value)(hv:a.eval x=.func (.func f) #[] cap)(l:List Value)(hargs:xs.map a.eval=l)(R:Value->World->Prop)
  (hc:Calls P f (l.toArray++cap) w fun e w'=>∃v,e=.returned v/\R v w')(h:∀v w',R v w'->K (a.put oi.dst v) w') :
  if Region.wanted oi (yielded ops a.tmps)=true then Oper.wp P oi a w K Q else F :=
 zlo (opF hoi (fun o=>o.guard) hg) x xs ats (opF hoi (fun o=>o.op) ho) f fn hf cap hv l hargs R hc h
end
attribute [local go_sem] Oper.semAt_some
theorem zKU{W:World}{b:Nat}{x0 x1 x2 x3 x4 x5 u0 u1 u2 u3 u4 u5:Value}{E:TypeId}(h:W.heap[b]?=some (.cells #[x0,x1,x2,x3,x4,x5] E (0,0))) :
  ∃W',((((((W.setCell ⟨b,0,none⟩ u0).setCell ⟨b,1,none⟩ u1).setCell ⟨b,2,none⟩ u2).setCell ⟨b,3,none⟩ u3).setCell ⟨b,4,none⟩ u4).setCell ⟨b,5,none⟩ u5)=W'/\W'.heap[b]?=some (.cells #[u0,u1,u2,u3,u4,u5] E (0,0))/\Chg (fun q=>q=b) W W':=by
 refine⟨_,rfl,?_,((((((Chg.refl (fun q=>q=b) W).setCell (p:=⟨b,0,none⟩) (.inl rfl) _).setCell (p:=⟨b,1,none⟩) (.inl rfl) _).setCell (p:=⟨b,2,none⟩) (.inl rfl) _).setCell (p:=⟨b,3,none⟩) (.inl rfl) _).setCell (p:=⟨b,4,none⟩) (.inl rfl) _).setCell (p:=⟨b,5,none⟩) (.inl rfl) _⟩;simp only[World.setCell,Array.getElem?_modify,if_true,h,Option.map_some];rfl
theorem zrb(p:PG)(v:Value)(w:World)(hv:PV w Any p v)(hval:zkx p=true) :
  Calls prog 36 #[v] w fun e w'=>∃v',e=.returned (.tuple #[v',zi 0])/\PV w' (From w.heap.size) (zkL p) v'/\zw w w':=by
 have Cj:=zh (fun w' (h:zw w w')=>hv.later h);have fw:=zh (And.intro hval (And.intro (znn hval).1 (zla hval).2.1));obtain⟨A1,c1,A2,c2,A3,c3,rfl,-⟩:=hv;have hb2:=zkb (zkb (zs w) (.cells #[.slice A1 p.vs.length c1,.slice A2 p.prs.length c2,zj p.m.k,zi p.m.n,.string p.m.s,.slice A3 p.m.ks.length c3] 30)) (.cells ZP 30);have k0:=zkd (heap_alloc_new w (.cells #[.slice A1 p.vs.length c1,.slice A2 p.prs.length c2,zj p.m.k,zi p.m.n,.string p.m.s,.slice A3 p.m.ks.length c3] 30)) (.cells ZP 30);have k1:=heap_alloc_new (w.alloc (.cells #[.slice A1 p.vs.length c1,.slice A2 p.prs.length c2,zj p.m.k,zi p.m.n,.string p.m.s,.slice A3 p.m.ks.length c3] 30)) (.cells ZP 30);rw[World.size_alloc]at k1
 obtain⟨w2,hw2⟩:=zX ((w.alloc (.cells #[.slice A1 p.vs.length c1,.slice A2 p.prs.length c2,zj p.m.k,zi p.m.n,.string p.m.s,.slice A3 p.m.ks.length c3] 30)).alloc (.cells ZP 30));obtain⟨N,hN⟩:=zX (w.heap.size);rw[hw2]at hb2 k0 k1;have HZ2:=zh (show w2.heap.size=N+2 by rw[<-hw2,<-hN];simp);have HN:=zh hN;rw[hN]at k0 k1;have HC:=zh (zq9 p Any _ w2 (Cj.out _ hb2) fw.out.1 (.inr fw.out.2.1) fw.out.2.2);have HB2:=zh hb2;have aC:=zh k1;obtain⟨p0,p1,p2,p3,p4,p5⟩:=box6 k0;clear hb2 k0 k1 hval;go_enter func36,ntmps36;go_upto_region 1 with fail
 try rw[hw2]
 try rw[hN]
 clear hw2 hN;go_wp2_with fail;refine HC.out.mono ?_;rintro e w3 ⟨v3,rfl,hv3,hb3⟩;have HV3:=zh hv3;have HB3:=zh hb3;obtain⟨B1,d1,B2,d2,B3,d3,rfl,-⟩:=hv3;have hk3:=zkc aC.out hb3;obtain⟨q0,q1,q2,q3,q4,q5⟩:=box6 hk3;have cf:∀o,w3.frozen? ⟨N+1,o,none⟩=false:=fun o=>zf hk3;obtain⟨w4,hw4,hk4,hc4⟩:=zKU (u0:=.slice B1 (zkL p).vs.length d1) (u1:=.slice B2 (zkL p).prs.length d2) (u2:=zj (zkL p).m.k) (u3:=zi (zkL p).m.n) (u4:=.string (zkL p).m.s) (u5:=.slice B3 (zkL p).m.ks.length d3) hk3;have ay:=zh (show zw w w4 from(zka HB2.out hb3).trans (hc4.below (zka HB2.out hb3).size fun b h=>by have h:b=N+1:=h;have:=HN.out;omega))
 have HV4:=zh (show PV w4 (From w.heap.size) (zkL p) (pv B1 (zkL p).vs.length d1 B2 (zkL p).prs.length d2 (zkL p).m.k (zkL p).m.n (zkL p).m.s B3 (zkL p).m.ks.length d3)from HV3.out.keep (fun q h _=>by have h:w2.heap.size<=q:=h;have:=HZ2.out;have:=HN.out;show w.heap.size<=q;omega) fun q h hlt=>hc4.block q hlt fun e=>by have h:w2.heap.size<=q:=h;have e:q=N+1:=e;have:=HZ2.out;omega);have r:=box6 hk4;clear hb3 hk3 hc4 hk4 p0 p1 p2 p3 p4 p5;obtain⟨r0,r1,r2,r3,r4,r5⟩:=r;go_wp2_with fail;exact bodyPost_ret (v:=.tuple #[pv B1 (zkL p).vs.length d1 B2 (zkL p).prs.length d2 (zkL p).m.k (zkL p).m.n (zkL p).m.s B3 (zkL p).m.ks.length d3,zi 0]) (by simp[results,results36,go_sem,r0,r1,r2,r3,r4,r5]) rfl ⟨_,rfl,HV4.out,ay.out⟩
abbrev exS(w:World)(b:Nat)(e:EX)(A1:Option Addr)(c1:Nat)(A2:Option Addr)(c2:Nat)(A3:Option Addr)(c3:Nat):Prop:=w.cell? ⟨b,0,none⟩=some (.string e.nm)/\w.cell? ⟨b,1,none⟩=some (zi e.pt)/\w.cell? ⟨b,2,none⟩=some (zi e.fu)/\w.cell? ⟨b,3,none⟩=some (zi e.bx.v)/\w.cell? ⟨b,4,none⟩=some (zi e.bx.l)/\w.cell? ⟨b,5,none⟩=some (zi e.bx.i) /\
 w.cell? ⟨b,6,none⟩=some (.slice A1 e.gv.vs.length c1)/\w.cell? ⟨b,7,none⟩=some (.slice A2 e.gv.prs.length c2)/\w.cell? ⟨b,8,none⟩=some (zj e.gv.m.k)/\w.cell? ⟨b,9,none⟩=some (zi e.gv.m.n)/\w.cell? ⟨b,10,none⟩=some (.string e.gv.m.s)/\w.cell? ⟨b,11,none⟩=some (.slice A3 e.gv.m.ks.length c3)
theorem zo3{w:World}{b:Nat}{e:EX}{A1:Option Addr}{c1:Nat}{A2:Option Addr}{c2:Nat}{A3:Option Addr}{c3:Nat}(h:w.heap[b]?=some (.cells (exA e A1 c1 A2 c2 A3 c3) 32 (0,0))):exS w b e A1 c1 A2 c2 A3 c3 :=
 ⟨zc h rfl,zc h rfl,zc h rfl,zc h rfl,zc h rfl,zc h rfl,zc h rfl,zc h rfl,zc h rfl,zc h rfl,zc h rfl,zc h rfl⟩
theorem zq2{p:PG}(h:okB p=true):zkx p=true/\chkN p=0/\rjT p=0:=by
 simp only[okB,Bool.and_eq_true,decide_eq_true_eq]at h;exact⟨h.1.1,h.1.2,h.2⟩
theorem zo2(e:EX)(v:Value)(w:World)(hv:EV w Any e v):Calls prog 15 #[v] w (zu (.bool (zk3 e)) w):=by
 obtain⟨A1,c1,A2,c2,A3,c3,rfl,hg,-⟩:=hv;have hb2:=zkb (zs w) (.cells (exA e A1 c1 A2 c2 A3 c3) 32);have k0:=heap_alloc_new w (.cells (exA e A1 c1 A2 c2 A3 c3) 32);obtain⟨w2,hw2⟩:=zX (w.alloc (.cells (exA e A1 c1 A2 c2 A3 c3) 32));obtain⟨N,hN⟩:=zX (w.heap.size);rw[hw2]at hb2 k0;rw[hN]at k0;have HB:=zh hb2;have HK:=zh (fun w' (h:zw w2 w')=>zo3 (zkc k0 h));have HG:=zh (fun w' (h:zw w2 w')=>(hg.later hb2).later h);have bT:=zh (zs w2);have yh:=zh (zou e.nm w2);obtain⟨NB,tZ⟩:=zX (zmo e.nm);have qo:=zh tZ;rw[tZ]at yh;obtain⟨OB,BB⟩:=zX (okB e.gv);have qh:=zh BB;have fw:=zh (fun w' (h:zw w2 w')=>zy9 e.gv _ w' (HG.out _ h).pv);simp only[BB]at fw;obtain⟨IB,hIB⟩:=zX (okB (zkL e.gv));have Cx:=zh hIB;obtain⟨VX,mO⟩:=zX (zk3 e);have jJ:=zh mO;rw[mO];clear hb2 k0 hg tZ BB hIB mO
 obtain⟨x0,x1,x2,x3,x4,x5,x6,x7,x8,x9,aK,aJ⟩:=HK.out _ bT.out;go_enter func15,ntmps15;go_upto_region 1 with fail
 try rw[hw2]
 try rw[hN]
 clear hw2 hN;go_wp2_with fail;refine yh.out.mono ?_;rintro en w3 ⟨rfl,hb3⟩;have aZ:=zh (zka bT.out hb3);clear x0 x1 x2 x3 x4 x5 x6 x7 x8 x9 aK aJ hb3 yh;obtain⟨x0,x1,x2,x3,x4,x5,x6,x7,x8,x9,aK,aJ⟩:=HK.out _ aZ.out
 cases NB
 ·have HF:=zh (show zk3 e=false by unfold zk3;rw[qo.out];rfl);go_wp2_with fail;go_ret;exact⟨by rw[<-jJ.out,HF.out];rfl,zka HB.out aZ.out⟩
 by_cases h1:e.pt<1
 ·have HF:=zh (show zk3 e=false by unfold zk3;rw[decide_eq_false (show ¬ (1<=e.pt/\e.pt<=1000) by omega)];simp);go_wp2_with fail;go_ret;exact⟨by rw[<-jJ.out,HF.out];rfl,zka HB.out aZ.out⟩
 by_cases h2:(1000:Int)<e.pt
 ·have HF:=zh (show zk3 e=false by unfold zk3;rw[decide_eq_false (show ¬ (1<=e.pt/\e.pt<=1000) by omega)];simp);go_wp2_with fail;go_ret;exact⟨by rw[<-jJ.out,HF.out];rfl,zka HB.out aZ.out⟩
 by_cases h3:e.fu<0
 ·have HF:=zh (show zk3 e=false by unfold zk3;rw[decide_eq_false (show ¬ (0<=e.fu/\e.fu<=1000000) by omega)];simp);go_wp2_with fail;go_ret;exact⟨by rw[<-jJ.out,HF.out];rfl,zka HB.out aZ.out⟩
 by_cases h4:(1000000:Int)<e.fu
 ·have HF:=zh (show zk3 e=false by unfold zk3;rw[decide_eq_false (show ¬ (0<=e.fu/\e.fu<=1000000) by omega)];simp);go_wp2_with fail;go_ret;exact⟨by rw[<-jJ.out,HF.out];rfl,zka HB.out aZ.out⟩
 have HPF:=zh (show(1<=e.pt/\e.pt<=1000)/\(0<=e.fu/\e.fu<=1000000) by omega);go_wp2_with fail;refine(fw.out _ aZ.out).mono ?_;rintro en w4 ⟨rfl,hb4⟩;have bL:=zh (zka aZ.out hb4);clear x0 x1 x2 x3 x4 x5 x6 x7 x8 x9 aK aJ hb4 h1 h2 h3 h4;obtain⟨x0,x1,x2,x3,x4,x5,x6,x7,x8,x9,aK,aJ⟩:=HK.out _ bL.out
 cases OB
 ·have HF:=zh (show zk3 e=false by unfold zk3;rw[qh.out];simp);go_wp2_with fail;go_ret;exact⟨by rw[<-jJ.out,HF.out];rfl,zka HB.out bL.out⟩
 have HIP:=zh (zrb e.gv _ w4 (HG.out _ bL.out).pv (zq2 qh.out).1);go_wp2_with fail;refine HIP.out.mono ?_;rintro en w5 ⟨v5,rfl,hv5,hb5⟩;have HV5:=zh hv5;obtain⟨B1,d1,B2,d2,B3,d3,rfl,-⟩:=hv5;have hb6:=zkb hb5 (.cells #[.slice B1 (zkL e.gv).vs.length d1,.slice B2 (zkL e.gv).prs.length d2,zj (zkL e.gv).m.k,zi (zkL e.gv).m.n,.string (zkL e.gv).m.s,.slice B3 (zkL e.gv).m.ks.length d3] 30);have k6:=heap_alloc_new w5 (.cells #[.slice B1 (zkL e.gv).vs.length d1,.slice B2 (zkL e.gv).prs.length d2,zj (zkL e.gv).m.k,zi (zkL e.gv).m.n,.string (zkL e.gv).m.s,.slice B3 (zkL e.gv).m.ks.length d3] 30)
 have hv6:=HV5.out.later (zkb (zs w5) (.cells #[.slice B1 (zkL e.gv).vs.length d1,.slice B2 (zkL e.gv).prs.length d2,zj (zkL e.gv).m.k,zi (zkL e.gv).m.n,.string (zkL e.gv).m.s,.slice B3 (zkL e.gv).m.ks.length d3] 30));go_upto_region 6 with fail;obtain⟨w6,mh⟩:=zX (w5.alloc (.cells #[.slice B1 (zkL e.gv).vs.length d1,.slice B2 (zkL e.gv).prs.length d2,zj (zkL e.gv).m.k,zi (zkL e.gv).m.n,.string (zkL e.gv).m.s,.slice B3 (zkL e.gv).m.ks.length d3] 30));obtain⟨N6,BC⟩:=zX (w5.heap.size);rw[mh]at hb6 k6 hv6
 try rw[mh]
 rw[BC]at k6
 try rw[BC]
 have fG:=zh (zka bL.out hb6);have Ck:=zh (zy9 (zkL e.gv) _ w6 (hv6.keep (S':=Any) (fun _ _ _=>trivial) fun _ _ _=>rfl));rw[Cx.out]at Ck;obtain⟨p0,p1,p2,p3,p4,p5⟩:=box6 k6;clear x0 x1 x2 x3 x4 x5 x6 x7 x8 x9 aK aJ hb5 hb6 k6 hv6 mh BC HIP HV5;go_wp2_with fail;refine Ck.out.mono ?_;rintro en w7 ⟨rfl,eF⟩;have il:=zh (zka fG.out eF);clear p0 p1 p2 p3 p4 p5 eF Ck;obtain⟨x0,x1,x2,x3,x4,x5,x6,x7,x8,x9,aK,aJ⟩:=HK.out _ il.out
 cases IB
 ·have HF:=zh (show zk3 e=false by unfold zk3;rw[Cx.out];simp);go_wp2_with fail;go_ret;exact⟨by rw[<-jJ.out,HF.out];rfl,zka HB.out il.out⟩
 have lC:=zh (zwS e.gv.vs e.bx A1 c1 w7 (HG.out _ il.out).vars (HG.out _ il.out).lv);obtain⟨R,hR⟩:=zX (cntR e.gv.vs e.bx);have HR:=zh hR;rw[hR]at lC;clear hR;have HVE:=zh (show zk3 e=decide (R.2=0/\R.1<=65536) by
  unfold zk3;rw[qo.out,qh.out,Cx.out,decide_eq_true HPF.out.1,decide_eq_true HPF.out.2,HR.out];simp)
 go_wp2_with fail;refine lC.out.mono ?_;rintro en w8 ⟨rfl,dM⟩;have vR:=zh (zka il.out dM);clear x0 x1 x2 x3 x4 x5 x6 x7 x8 x9 aK aJ dM lC;by_cases hr:R.2=0
 ·have hr1:(R.2==0)=true:=by simp[hr]
  go_wp2_with fail;go_ret;have e1:decide (R.1<=65536)=VX:=by rw[<-jJ.out,HVE.out];exact decide_eq_decide.2 ⟨fun h=>⟨hr,h⟩,fun h=>h.2⟩
  exact⟨congrArg (fun b=>Ending.returned (.bool b)) e1,zka HB.out vR.out⟩
 ·have hr1:(R.2==0)=false:=by simp[hr]
  go_wp2_with fail;go_ret;have e1:VX=false:=by rw[<-jJ.out,HVE.out];exact decide_eq_false fun h=>hr h.1
  exact⟨congrArg (fun b=>Ending.returned (.bool b)) e1.symm,zka HB.out vR.out⟩
end
section
open Go Go.RowKit
attribute [local go_sem] Oper.semAt_some
theorem zLf:IsFn prog 14 Tryz.f14:=⟨func14,zK,zK⟩
theorem al4G(W:World)(o0 o1 o2 o3:Obj):zw W ((((W.alloc o0).alloc o1).alloc o2).alloc o3)/\((((W.alloc o0).alloc o1).alloc o2).alloc o3).heap.size=W.heap.size+4/\((((W.alloc o0).alloc o1).alloc o2).alloc o3).heap[W.heap.size]?=some o0/\((((W.alloc o0).alloc o1).alloc o2).alloc o3).heap[W.heap.size+1]?=some o1/\((((W.alloc o0).alloc o1).alloc o2).alloc o3).heap[W.heap.size+2]?=some o2/\((((W.alloc o0).alloc o1).alloc o2).alloc o3).heap[W.heap.size+3]?=some o3 :=
 ⟨zkb (zkb (zkb (zkb zr _) _) _) _,zS,zkd (zkd (zkd (zpc _ rfl _) _) _) _,zkd (zkd (zpc _ zS _) _) _,zkd (zpc _ zS _) _,zpc _ zS _⟩
abbrev pgA(p:PG)(A1:Option Addr)(c1:Nat)(A2:Option Addr)(c2:Nat)(A3:Option Addr)(c3:Nat):Array Value := #[.slice A1 p.vs.length c1,.slice A2 p.prs.length c2,zj p.m.k,zi p.m.n,.string p.m.s,.slice A3 p.m.ks.length c3]
abbrev stC(w':World)(b:Nat)(A:Option Addr)(l c:Nat)(B:Option Addr)(m d:Nat)(D:Option Addr)(n e:Nat):Prop:=w'.cell? ⟨b,0,none⟩=some (.slice A l c)/\w'.cell? ⟨b,1,none⟩=some (.slice B m d)/\w'.cell? ⟨b,2,none⟩=some (.slice D n e)
abbrev reS(w:World)(b:Nat)(A:Option Addr)(l c:Nat)(B:Option Addr)(l2 c2:Nat)(D:Option Addr)(l3 c3:Nat)(n e:Int):Prop:=w.cell? ⟨b,0,none⟩=some (.slice A l c)/\w.cell? ⟨b,1,none⟩=some (.slice B l2 c2)/\w.cell? ⟨b,2,none⟩=some (.slice D l3 c3)/\w.cell? ⟨b,3,none⟩=some (zi n)/\w.cell? ⟨b,4,none⟩=some (zi e)
theorem zLH{w:World}{b l c l2 c2 l3 c3:Nat}{A B D:Option Addr}{n e:Int}(h:w.heap[b]?=some (.cells #[.slice A l c,.slice B l2 c2,.slice D l3 c3,zi n,zi e] 58 (0,0))):reS w b A l c B l2 c2 D l3 c3 n e :=
 ⟨zc h rfl,zc h rfl,zc h rfl,zc h rfl,zc h rfl⟩
theorem zrc{W:World}{e:EX}{q:PG}{s1 s:SS}{ev qv v1 v:Value}(he:EV W Any e ev)(hq:PV W Any q qv)(h1:SV W Any s1 v1)(h:SV W Any s v)(hc:s1.cells.length<=2000000)(hF:e.fu<=1000000) :
  Calls prog 30 #[ev,qv,v1,v] W (zu (.tuple #[.bool (gerE q e.fu s1==0&&eqS (gstE q e.fu s1) s),zi (gerE q e.fu s1)]) W):=by
 have HQ:=zh (fun w' (hb:zw W w')=>hq.later hb);have bH:=zh (fun w' (hb:zw W w')=>h1.later hb);have HS:=zh (fun w' (hb:zw W w')=>h.later hb);obtain⟨A1,c1,A2,c2,A3,c3,rfl,-,hI⟩:=he;obtain⟨D1,e1,D2,e2,D3,e3,rfl,-⟩:=hq;obtain⟨Aa,ca,Ba,da,Da,ea,rfl⟩:∃A c B d D e,v1=.agg #[.slice A s1.cells.length c,.slice B s1.tin.length d,.slice D s1.tout.length e]:=by
  obtain⟨A,c,B,d,D,e,h,-⟩:=h1;exact⟨_,_,_,_,_,_,h⟩
 obtain⟨Ab,cb,Bb,db,Db,eb,rfl⟩:∃A c B d D e,v=.agg #[.slice A s.cells.length c,.slice B s.tin.length d,.slice D s.tout.length e]:=by
  obtain⟨A,c,B,d,D,e,h,-⟩:=h;exact⟨_,_,_,_,_,_,h⟩
 obtain⟨hb2,hz2,k0,k1,k2,k3⟩:=al4G W (.cells (exA e A1 c1 A2 c2 A3 c3) 32) (.cells (pgA q D1 e1 D2 e2 D3 e3) 30) (.cells #[.slice Aa s1.cells.length ca,.slice Ba s1.tin.length da,.slice Da s1.tout.length ea] 44) (.cells #[.slice Ab s.cells.length cb,.slice Bb s.tin.length db,.slice Db s.tout.length eb] 44);obtain⟨w2,hw2⟩:=zX ((((W.alloc (.cells (exA e A1 c1 A2 c2 A3 c3) 32)).alloc (.cells (pgA q D1 e1 D2 e2 D3 e3) 30)).alloc (.cells #[.slice Aa s1.cells.length ca,.slice Ba s1.tin.length da,.slice Da s1.tout.length ea] 44)).alloc (.cells #[.slice Ab s.cells.length cb,.slice Bb s.tin.length db,.slice Db s.tout.length eb] 44));obtain⟨N,hN⟩:=zX (W.heap.size);rw[hw2]at hb2 hz2 k0 k1 k2 k3;rw[hN]at hz2 k0 k1 k2 k3;have HB2:=zh hb2;have fF:=zh k3;have CB:=zh (zpf q s1 e.fu (e.fu.toNat*2000+2000) _ _ w2 (HQ.out _ hb2) (bH.out _ hb2) zO hI hF zl)
 have zt:=zh (show gerE q e.fu s1=(resO q s1 e.fu (e.fu.toNat*2000+2000) false).2.2.1/\gstE q e.fu s1=(resO q s1 e.fu (e.fu.toNat*2000+2000) false).1 from⟨rfl,rfl⟩);obtain⟨GE,hGE⟩:=zX (gerE q e.fu s1);obtain⟨GS,hGS⟩:=zX (gstE q e.fu s1);rw[hGE,hGS]at zt ⊢;generalize resO q s1 e.fu (e.fu.toNat*2000+2000) false=R at CB zt;have x2:w2.cell? ⟨N,2,none⟩=some (zi e.fu):=zc k0 rfl;obtain⟨q0,q1,q2,q3,q4,q5⟩:=box6 k1;obtain⟨y0,y1,y2⟩:=zl6 k2;clear hb2 hz2 k0 k1 k2 k3 h1 h hI hc hF hGE hGS;go_enter func30,ntmps30;go_upto_region 1 with fail
 try rw[hw2]
 try rw[hN]
 try simp only[Nat.add_assoc,Nat.reduceAdd]
 clear hw2 hN;go_wp2_with fail;refine CB.out.mono ?_;rintro en w3 ⟨u1,u2,u3,rfl,ho,hb3,hl⟩;obtain⟨Ac,cc,Bc,dc,Dc,ec,hu⟩:=ho.slices;injection hu with hu;simp only[Array.mk.injEq,List.cons.injEq,and_true]at hu;obtain⟨rfl,rfl,rfl⟩:=hu;have hsv:=ho.sv hl.1;have HB3:=zh (zka HB2.out hb3);have hb4:=zkb hb3 (.cells #[.slice Ac R.1.cells.length cc,.slice Bc R.1.tin.length dc,.slice Dc R.1.tout.length ec,zi (R.2.1:Int),zi R.2.2.1] 58);have k4:=heap_alloc_new w3 (.cells #[.slice Ac R.1.cells.length cc,.slice Bc R.1.tin.length dc,.slice Dc R.1.tout.length ec,zi (R.2.1:Int),zi R.2.2.1] 58);have hs4:=hsv.later (zkb (zs w3) (.cells #[.slice Ac R.1.cells.length cc,.slice Bc R.1.tin.length dc,.slice Dc R.1.tout.length ec,zi (R.2.1:Int),zi R.2.2.1] 58));clear x2 q0 q1 q2 q3 q4 q5 y0 y1 y2 hsv hl ho hb3 CB;go_upto_region 2 with fail
 obtain⟨w4,hw4⟩:=zX (w3.alloc (.cells #[.slice Ac R.1.cells.length cc,.slice Bc R.1.tin.length dc,.slice Dc R.1.tout.length ec,zi (R.2.1:Int),zi R.2.2.1] 58));obtain⟨N4,BD⟩:=zX (w3.heap.size);rw[hw4]at hb4 k4 hs4
 try rw[hw4]
 rw[BD]at k4
 try rw[BD]
 have ay:=zh (zka HB2.out hb4);have jK:=zh (fun w' (h:zw w4 w')=>hs4.later h);have HST:=zh (fun w' (h:zw w4 w')=>(⟨zLH (zkc k4 h),zl6 (zkc (zkc fF.out hb4) h)⟩:reS w' N4 Ac R.1.cells.length cc Bc R.1.tin.length dc Dc R.1.tout.length ec (R.2.1:Int) R.2.2.1/\stC w' (N+3) Ab s.cells.length cb Bb s.tin.length db Db s.tout.length eb));have hSS:zW (fun w':World=>reS w' N4 Ac R.1.cells.length cc Bc R.1.tin.length dc Dc R.1.tout.length ec (R.2.1:Int) R.2.2.1/\stC w' (N+3) Ab s.cells.length cb Bb s.tin.length db Db s.tout.length eb) zU w4.drew:=⟨HST.out _ zr.drew,trivial⟩
 clear hb4 k4 hs4 hw4 BD;obtain⟨BL,h0b⟩:=zt.out;obtain⟨n0,hn0⟩:=zX (R.2.1);obtain⟨r0,hr0⟩:=zX (R.2.2.1);rw[hr0]at BL;rw[hn0,hr0]at HST hSS ⊢;have bA:=zh BL;have vG:=zh h0b;clear BL h0b hn0 hr0 zt;refine wp_region_noPanic ?_;refine zkl (fun w':World=>reS w' N4 Ac R.1.cells.length cc Bc R.1.tin.length dc Dc R.1.tout.length ec (n0:Int) r0/\stC w' (N+3) Ab s.cells.length cb Bb s.tin.length db Db s.tout.length eb) zU 20 zK ?_;by_cases hr:r0=0
 ·subst hr;have hr1:((0:Int)==0)=true:=zY
  refine zT 0 hSS ?_;refine zT 1 hSS ?_;refine zT 2 hSS ?_;refine zT 3 hSS ?_;refine zT 4 hSS ?_;refine zT 5 hSS ?_;refine zT 6 hSS ?_;refine zT 9 hSS ?_;refine zT 10 hSS ?_;have hcon:=zrw R.1 s _ _ w4.drew (jK.out _ zr.drew |>.keep (S':=Any) (fun _ _ _=>trivial) fun _ _ _=>rfl) (HS.out _ (ay.out.trans (zr.drew.mono ay.out.size)));have had:Calls prog 14 [.agg #[.slice Ac R.1.cells.length cc,.slice Bc R.1.tin.length dc,.slice Dc R.1.tout.length ec],.agg #[.slice Ab s.cells.length cb,.slice Bb s.tin.length db,.slice Db s.tout.length eb]].toArray w4.drew fun e' W'=>∃z,e'=.returned z/\(z=.bool (eqS R.1 s)/\zw w4 W'):=hcon.mono fun e' W' ⟨h1,h2⟩=>⟨_,h1,rfl,(zs w4).drew.trans (h2.mono (zs w4).drew.size)⟩
  refine zo 7 fun K hK=>?_;refine zln zR (.func 14) [.tmp 21,.tmp 22] _ zR 14 _ zLf zR [.agg #[.slice Ac R.1.cells.length cc,.slice Bc R.1.tin.length dc,.slice Dc R.1.tout.length ec],.agg #[.slice Ab s.cells.length cb,.slice Bb s.tin.length db,.slice Db s.tout.length eb]] zR _ had ?_;rintro z w5 ⟨rfl,hb5⟩;have hS2:zW (fun w':World=>reS w' N4 Ac R.1.cells.length cc Bc R.1.tin.length dc Dc R.1.tout.length ec (n0:Int) 0/\stC w' (N+3) Ab s.cells.length cb Bb s.tin.length db Db s.tout.length eb) zU w5:=⟨HST.out _ hb5,trivial⟩
  refine hK.out _ _ hS2 ?_;clear hK K had hcon hSS;(try simp only[zQ]);refine zT 8 hS2 ?_;refine zT 11 hS2 ?_;refine zT 12 hS2 ?_;refine zd ?_;refine NoPanic.normal ?_;have jg:=zh (zka ay.out hb5);clear hS2 hb5;go_wp2_with fail;exact bodyPost_ret (v:=.tuple #[.bool (eqS R.1 s),zi 0]) (by simp[results,results30,go_sem]) rfl ⟨by rw[bA.out,vG.out,hr1];rfl,jg.out⟩
 ·have hr1:(r0==0)=false:=by simp[hr]
  refine zT 0 hSS ?_;refine zT 1 hSS ?_;refine zT 2 hSS ?_;refine zT 3 hSS ?_;refine zkr (i:=4) (v:=undef) rfl zK zK zK zY (fun _ _ _ h=>h) (Or.inr ⟨zR,rfl⟩) hSS ?_;(try simp only[zQ]);refine zkr (i:=5) (v:=undef) rfl zK zK zK zY (fun _ _ _ h=>h) (Or.inr ⟨zR,rfl⟩) hSS ?_;(try simp only[zQ]);refine zkr (i:=6) (v:=undef) rfl zK zK zK zY (fun _ _ _ h=>h) (Or.inr ⟨zR,rfl⟩) hSS ?_;(try simp only[zQ]);refine zkr (i:=7) (v:=undef) rfl zK zK zK zY (fun _ _ _ h=>h) (Or.inr ⟨zR,rfl⟩) hSS ?_;(try simp only[zQ]);refine zT 8 hSS ?_;refine zT 9 hSS ?_;refine zT 10 hSS ?_;refine zT 11 hSS ?_;refine zT 12 hSS ?_;refine zd ?_;refine NoPanic.normal ?_;go_wp2_with fail
  exact bodyPost_ret (v:=.tuple #[.bool false,zi r0]) (by simp[results,results30,go_sem]) rfl ⟨by rw[bA.out,hr1];rfl,ay.out.trans (zr.drew.mono ay.out.size)⟩
end
section
open Go Go.RowKit
theorem zLG(s1 s2:ByteArray)(k1 k2 n1 n2:Int)(w:World):(Op.equalIn 10000 38 (.agg #[.string s1,zj k1,zi n1]) (.agg #[.string s2,zj k2,zi n2])).run prog w=.ok (s1.toList==s2.toList&&k1==k2&&n1==n2) w:=by
 have hS:prog.underlying 38=some (.struct (prog.fieldsOf 38)):=zK
 have hp:prog.stoodInHeld 38=false:=zK
 rw[show(10000:Nat)=9999+1 from rfl,run_equalIn_agg w 9999 38 _ _ hS hp];simp only[Program.fieldsOf,underlying38];go_simp;by_cases h1:s1.toList=s2.toList<;>by_cases h2:k1=k2<;>by_cases h3:n1=n2<;>simp[h1,h2,h3]
def eqV(u v:VD):Bool:=decide (u.s=v.s)&&decide (u.k=v.k)&&decide (u.n=v.n)
def eqVs:List VD->List VD->Bool
 | [],[]=>true
 | u::us,v::vs=>eqV u v&&eqVs us vs
 | _,_=>false
theorem zqo{u v:VD}:eqV u v=true↔u=v:=by
 obtain⟨a,b,c⟩:=u;obtain⟨d,e,f⟩:=v;simp[eqV,and_assoc]
theorem zmD:∀ {us vs:List VD},eqVs us vs=true↔us=vs
 | [],[]=>by simp[eqVs]
 | u::us,v::vs=>by simp[eqVs,zqo,zmD (us:=us) (vs:=vs)]
 | [],_::_=>by simp[eqVs]
 | _::_,[]=>by simp[eqVs]
theorem zty(s1 s2:ByteArray):(s1.toList==s2.toList)=decide (s1=s2):=by
 rw[ByteArray.toList_eq,ByteArray.toList_eq];obtain⟨⟨x⟩⟩:=s1;obtain⟨⟨y⟩⟩:=s2;by_cases h:x=y
 ·subst h;simp
 ·simp[h]
theorem zKR(s1 s2:ByteArray)(k1 k2 n1 n2:Int)(w:World):(binOp BinOp.neq 38 (.agg #[.string s1,zj k1,zi n1]) (.agg #[.string s2,zj k2,zi n2])).run prog w=.ok (.bool (!eqV ⟨s1,k1,n1⟩ ⟨s2,k2,n2⟩)) w:=by
 rw[run_neq_struct,zLG];simp only[Result.andThen_ok,zty,eqV];congr 3
theorem zuv(x y:Operand)(xs ys:Array Value)(w:World):(eqGuard BinOp.neq 38 x y (.agg xs) (.agg ys)).run prog w=.ok () w:=run_eqGuard_agg w _ _ x y xs ys zK
theorem zKP{vs us:List VD}{j:Nat}(h1:j<vs.length)(h2:j<us.length)(h:eqV vs[j] us[j]=false):eqVs vs us=false:=by
 cases e:eqVs vs us with
 | false=>rfl
 | true =>
  have e:=zmD.1 e;subst e;rw[zqo.2 rfl]at h
  cases h
theorem zyQ{vs us:List VD}(h:vs.length≠us.length):eqVs vs us=false:=by
 cases e:eqVs vs us with
 | false=>rfl
 | true=>exact absurd (by rw[zmD.1 e]) h
theorem zKQ{vs us:List VD}(hl:vs.length=us.length)(h:∀k (h1:k<vs.length) (h2:k<us.length),vs[k]=us[k]):eqVs vs us=true:=zmD.2 (List.ext_getElem hl fun i h1 h2=>h i h1 h2)
theorem zKE{W:World}{vs us:List VD}{A B:Option Addr}{c d:Nat}(h1:RowV W Any A vs)(h2:RowV W Any B us)(hl:vs.length<=LV)(hk:us.length<=LV) :
  Calls prog 62 #[.slice A vs.length c,.slice B us.length d] W (zu (.bool (eqVs vs us)) W):=by
 have H1:=zh h1;have H2:=zh h2;have hl1:=zk1 hl;have hl2:=zk1 hk;clear h1 h2 hl hk;have hneq:=zKR;have hgd:=zuv;obtain⟨n,hn⟩:=zX (vs.length);obtain⟨m,hm⟩:=zX (us.length);have HN:=zh (And.intro hn hm);rw[hn]at hl1 ⊢;rw[hm]at hl2 ⊢;clear hn hm;obtain⟨R,hR⟩:=zX (eqVs vs us);have HR:=zh hR;rw[hR];clear hR;go_enter func62,ntmps62;by_cases hnm:n=m;rotate_left 1
 ·have e0:((n:Int) != (m:Int))=true:=by simp;omega
  go_wp2_with fail;go_ret;exact⟨by rw[<-HR.out,zyQ (by have:=HN.out;omega)];rfl,zr⟩
 subst hnm;go_wp2_with fail
 go_loopw [13] (fun i wr=>∃j:Nat,j<=n/\i=zi j/\Hid (zw W wr)/\Hid (∀k (h1:k<vs.length) (h2:k<us.length),k<j->vs[k]=us[k])) (fun i _=>n-(intOf i).toNat)
 case atStart=>exact⟨0,zO,rfl,zh zr,zh fun k _ _ h=>zO⟩
 case round =>
  obtain⟨j,hj,rfl,HB,HE⟩:=hrel;by_cases hlt:j<n
  ·have hj1:(j:Int)<(n:Int):=zO
   have hj0:(0:Int)<=(j:Int):=zO
   have dA:j<vs.length:=by rw[HN.out.1];exact hlt
   have xw:j<us.length:=by rw[HN.out.2];exact hlt
   obtain⟨a,v,rfl,-,hv,⟨x0,x1,x2⟩,-⟩:=(H1.out.later HB.out).nd dA;obtain⟨b,u,rfl,-,hu,⟨y0,y1,y2⟩,-⟩:=(H2.out.later HB.out).nd xw;obtain⟨v0,v1,v2⟩:=v;obtain⟨u0,u1,u2⟩:=u;simp only at x0 x1 x2 y0 y1 y2;have hvv:=hv.out;have jl:=hu.out;obtain⟨t,ht⟩:=zX (eqV ⟨v0,v1,v2⟩ ⟨u0,u1,u2⟩);have hnn:=fun w=>(hneq v0 u0 v1 u1 v2 u2 w).trans (by rw[ht]);have HT:=zh (show eqV vs[j] us[j]=t by rw[hvv,jl];exact ht);have HJ:=zh (And.intro dA xw);clear ht hneq hv hu hvv jl
   cases t
   ·go_upto_region 6 with fail
    go_quiet (fail)
    have bW:=zh (zkM HB.out nq);go_wp2_with fail;go_ret;exact⟨by rw[<-HR.out,zKP HJ.out.1 HJ.out.2 HT.out];rfl,bW.out⟩
   ·go_upto_region 6 with fail
    go_quiet (fail)
    have bW:=zh (zkM HB.out nq);go_wp2_with fail
    go_roundw
    case rel =>
     refine⟨j+1,zO,by go_num,bW,zh fun k h1 h2 hk=>?_⟩;by_cases e:k<j
     ·exact HE.out k h1 h2 e
     ·obtain rfl:k=j:=zO
      exact zqo.1 HT.out
    case measure=>simp[intOf];omega
  ·obtain rfl:j=n:=zO
   have hj1:¬ (j:Int)<(j:Int):=zO
   go_wp2_with fail;go_ret;exact⟨by rw[<-HR.out,zKQ (by have:=HN.out;omega) fun k h1 h2=>HE.out k h1 h2 (by have:=HN.out;omega)];rfl,HB.out⟩
theorem zyw{W:World}{vs us:List VD}{A B:Option Addr}{c d:Nat}(h1:RowV W Any A vs)(h2:RowV W Any B us)(hl:vs.length<=LV)(hk:us.length<=LV) :
  Calls prog 28 #[.slice A vs.length c,.slice B us.length d] W (zu (.bool (eqVs vs us)) W):=by
 have H1:=zh h1;have H2:=zh h2;have hl1:=zk1 hl;have hl2:=zk1 hk;clear h1 h2 hl hk;have hneq:=zKR;have hgd:=zuv;obtain⟨n,hn⟩:=zX (vs.length);obtain⟨m,hm⟩:=zX (us.length);have HN:=zh (And.intro hn hm);rw[hn]at hl1 ⊢;rw[hm]at hl2 ⊢;clear hn hm;obtain⟨R,hR⟩:=zX (eqVs vs us);have HR:=zh hR;rw[hR];clear hR;go_enter func28,ntmps28;by_cases hnm:n=m;rotate_left 1
 ·have e0:((n:Int) != (m:Int))=true:=by simp;omega
  go_wp2_with fail;go_ret;exact⟨by rw[<-HR.out,zyQ (by have:=HN.out;omega)];rfl,zr⟩
 subst hnm;go_wp2_with fail
 go_loopw [5] (fun i wr=>∃j:Nat,j<=n/\i=zi j/\Hid (zw W wr)/\Hid (∀k (h1:k<vs.length) (h2:k<us.length),k<j->vs[k]=us[k])) (fun i _=>n-(intOf i).toNat)
 case atStart=>exact⟨0,zO,rfl,zh zr,zh fun k _ _ h=>zO⟩
 case round =>
  obtain⟨j,hj,rfl,HB,HE⟩:=hrel;by_cases hlt:j<n
  ·have hj1:(j:Int)<(n:Int):=zO
   have hj0:(0:Int)<=(j:Int):=zO
   have dA:j<vs.length:=by rw[HN.out.1];exact hlt
   have xw:j<us.length:=by rw[HN.out.2];exact hlt
   obtain⟨a,v,rfl,-,hv,⟨x0,x1,x2⟩,-⟩:=(H1.out.later HB.out).nd dA;obtain⟨b,u,rfl,-,hu,⟨y0,y1,y2⟩,-⟩:=(H2.out.later HB.out).nd xw;obtain⟨v0,v1,v2⟩:=v;obtain⟨u0,u1,u2⟩:=u;simp only at x0 x1 x2 y0 y1 y2;have hvv:=hv.out;have jl:=hu.out;obtain⟨t,ht⟩:=zX (eqV ⟨v0,v1,v2⟩ ⟨u0,u1,u2⟩);have hnn:=fun w=>(hneq v0 u0 v1 u1 v2 u2 w).trans (by rw[ht]);have HT:=zh (show eqV vs[j] us[j]=t by rw[hvv,jl];exact ht);have HJ:=zh (And.intro dA xw);clear ht hneq hv hu hvv jl
   cases t
   ·go_upto_region 6 with fail
    go_quiet (fail)
    have bW:=zh (zkM HB.out nq);go_wp2_with fail;go_ret;exact⟨by rw[<-HR.out,zKP HJ.out.1 HJ.out.2 HT.out];rfl,bW.out⟩
   ·go_upto_region 6 with fail
    go_quiet (fail)
    have bW:=zh (zkM HB.out nq);go_wp2_with fail
    go_roundw
    case rel =>
     refine⟨j+1,zO,by go_num,bW,zh fun k h1 h2 hk=>?_⟩;by_cases e:k<j
     ·exact HE.out k h1 h2 e
     ·obtain rfl:k=j:=zO
      exact zqo.1 HT.out
    case measure=>simp[intOf];omega
  ·obtain rfl:j=n:=zO
   have hj1:¬ (j:Int)<(j:Int):=zO
   go_wp2_with fail;go_ret;exact⟨by rw[<-HR.out,zKQ (by have:=HN.out;omega) fun k h1 h2=>HE.out k h1 h2 (by have:=HN.out;omega)];rfl,HB.out⟩
attribute [local go_sem] Oper.semAt_some
theorem zvR{W:World}{base n c:Nat}{A:Option Addr}{xs:List Value}{es:List Int}(h:W.ownsRow base 73 4 (.slice A n c) n xs)(hr:RjO es xs)(hn:n≠0) :
  ∃g,A=some ⟨g,0,none⟩/\W.cell? ⟨g,2,none⟩=some (zi (es.headD 0)):=by
 have h0:=h;obtain⟨hl,h1|⟨g,cap,cur,he,-⟩⟩:=h
 ·exact absurd h1.2 hn
 injection he with he1 _ he2;subst he1 he2;refine⟨g,rfl,?_⟩;rw[h0.cellAt 2 zO]
 match xs,hl with
 | a::b::c::d::r,hl =>
  have h2:=hr.2
  match es,h2 with
  | [],h2=>simp[er4]at h2
  | x::es,h2 =>
   simp only[er4,List.map_cons,List.cons.injEq]at h2;rw[h2.1];rfl
 | [],hl=>simp at hl;omega
 | [_],hl=>simp at hl;omega
 | [_,_],hl=>simp at hl;omega
 | [_,_,_],hl=>simp at hl;omega
theorem zzv(p:PG):(rjA p).length=rjT p:=by
 unfold rjA rjT rjQ rjP;rw[List.length_append,zsN,List.length_flatten,List.map_map];congr 2;exact List.map_congr_left fun r _=>zsN _
def admP(vs:List VD)(q:PG):Int:=if zkx q=true then(if chkN q=0 then(if rjT q=0 then(if eqVs q.vs vs=true then 0 else 7)else(rjA q).headD 0)else 3)else 3
def admE(e:EX)(q:PG):Int:=if zk3 e=true then admP e.gv.vs q else 1
def ChkO(W:World)(q:PG)(en:Ending)(w':World):Prop:=∃A n c,en=.returned (.slice A n c)/\((zkx q=true/\chkN q=0)->n=rjT q/\(n≠0->∃g,A=some ⟨g,0,none⟩/\w'.cell? ⟨g,2,none⟩=some (zi ((rjA q).headD 0))))/\zw W w'
theorem zrC{W:World}{q:PG}{v:Value}(hq:PV W Any q v):Calls prog 27 #[v] W (ChkO W q):=by
 by_cases hval:zkx q=true
 ·by_cases hch:chkN q=0
  ·refine(zrB q v W hq hval hch).mono ?_;rintro en w' ⟨A,c,rfl,⟨xs,h1,h2⟩,h3⟩;exact⟨A,_,c,rfl,fun _=>⟨rfl,zvR h1 h2⟩,h3⟩
  ·have jc:=zh (show ∀A n c w',zw W w'->ChkO W q (.returned (.slice A n c)) w' from fun A n c w' h=>⟨A,n,c,rfl,fun h=>absurd h.2 hch,h⟩);have HQ:=zh (fun w' (hb:zw W w')=>hq.later hb);obtain⟨A1,c1,A2,c2,A3,c3,rfl,-⟩:=hq;have kX:=zh (fun w' (hb:zw W w')=>zru hval (HQ.out w' hb));have gZ:=zh (fun w' (hb:zw W w')=>by
    have:=zlV q Any _ w' (HQ.out w' hb);rwa[if_pos hval]at this)
   obtain⟨CN,iH⟩:=zX (chkN q);rw[iH]at hch gZ;have hc1:((CN:Int)==0)=false:=by simpa using hch
   have hc2:decide ((CN:Int)>0)=true:=by simp;omega
   have hc3:decide ((0:Int)<CN)=true:=by simp;omega
   clear iH hval;have bI:=zh (zs W);go_enter func27,ntmps27;go_wp2_with fail;have hb1:=zkb bI.out (.cells (pgA q A1 c1 A2 c2 A3 c3) 30);refine(kX.out _ hb1).mono ?_;rintro e w1 ⟨rfl,aa⟩;have hb2:=zka hb1 aa;obtain⟨a0,a1,a2,a3,a4,a5⟩:=box6 (zkc (heap_alloc_new W (.cells (pgA q A1 c1 A2 c2 A3 c3) 30)) aa);go_wp2_with fail;refine(gZ.out _ hb2).mono ?_;rintro e w2 ⟨B0,d0,rfl,aj⟩;have hb3:=zka hb2 aj;clear a0 a1 a2 a3 a4 a5;go_wp2_with fail;go_ret;exact jc.out _ _ _ _ hb3
 ·have jc:=zh (show ∀A n c w',zw W w'->ChkO W q (.returned (.slice A n c)) w' from fun A n c w' h=>⟨A,n,c,rfl,fun h=>absurd h.1 hval,h⟩);have HQ:=zh (fun w' (hb:zw W w')=>hq.later hb);obtain⟨A1,c1,A2,c2,A3,c3,rfl,-⟩:=hq;have hv0:zkx q=false:=by simpa using hval
  have kX:=zh (fun w' (hb:zw W w')=>by
   have:=zlN q Any _ w' (HQ.out w' hb);rwa[hv0]at this)
  clear hval hv0;have bI:=zh (zs W);go_enter func27,ntmps27;go_wp2_with fail;have hb1:=zkb bI.out (.cells (pgA q A1 c1 A2 c2 A3 c3) 30);refine(kX.out _ hb1).mono ?_;rintro e w1 ⟨rfl,aa⟩;have hb2:=zka hb1 aa;go_wp2_with fail;go_ret;exact jc.out _ _ _ _ hb2
theorem zwq{W:World}{e:EX}{q:PG}{ev qv:Value}(he:EV W Any e ev)(hq:PV W Any q qv) :
  Calls prog 29 #[ev,qv] W (zu (zi (admE e q)) W):=by
 have lq:=zh (fun w' (hb:zw W w')=>he.later hb);have HQ:=zh (fun w' (hb:zw W w')=>hq.later hb);obtain⟨A1,c1,A2,c2,A3,c3,rfl,hg,hI⟩:=he;obtain⟨D1,e1,D2,e2,D3,e3,rfl,jr⟩:=hq;have hb2:=zkb (zkb (zs W) (.cells (exA e A1 c1 A2 c2 A3 c3) 32)) (.cells (pgA q D1 e1 D2 e2 D3 e3) 30);have k0:=zkd (heap_alloc_new W (.cells (exA e A1 c1 A2 c2 A3 c3) 32)) (.cells (pgA q D1 e1 D2 e2 D3 e3) 30);have k1:=heap_alloc_new (W.alloc (.cells (exA e A1 c1 A2 c2 A3 c3) 32)) (.cells (pgA q D1 e1 D2 e2 D3 e3) 30);rw[World.size_alloc]at k1;obtain⟨w2,hw2⟩:=zX ((W.alloc (.cells (exA e A1 c1 A2 c2 A3 c3) 32)).alloc (.cells (pgA q D1 e1 D2 e2 D3 e3) 30));obtain⟨N,hN⟩:=zX (W.heap.size);rw[hw2]at hb2 k0 k1;rw[hN]at k0 k1;have HB:=zh hb2;have dD:=zh (fun w' (h:zw w2 w')=>zo3 (zkc k0 h));have dx:=zh (fun w' (h:zw w2 w')=>box6 (zkc k1 h))
 have bT:=zh (zs w2);have uy:=zh (zo2 e _ w2 (lq.out _ hb2));have bJ:=zh (fun w' (h:zw w2 w')=>zrC (HQ.out _ (zka hb2 h)));have dG:=zh (fun w' (h:zw w2 w')=>zlN q Any _ w' (HQ.out _ (zka hb2 h)));have gZ:=zh (fun w' (h:zw w2 w')=>zlV q Any _ w' (HQ.out _ (zka hb2 h)));have ik:=zh (fun w' (h:zw w2 w')=>zKE (W:=w') (c:=e1) (d:=c1) ((jr.vars.later hb2).later h) ((hg.vars.later hb2).later h) jr.lv hg.lv);obtain⟨VX,mO⟩:=zX (zk3 e);obtain⟨AD,iW⟩:=zX (admE e q);have HAD:=zh iW;have jJ:=zh mO;rw[iW];rw[mO]at uy;clear hb2 k0 k1 hg jr mO iW hI;obtain⟨x0,x1,x2,x3,x4,x5,x6,x7,x8,x9,aK,aJ⟩:=dD.out _ bT.out;obtain⟨q0,q1,q2,q3,q4,q5⟩:=dx.out _ bT.out;go_enter func29,ntmps29;go_upto_region 1 with fail
 try rw[hw2]
 try rw[hN]
 clear hw2 hN;go_wp2_with fail;refine uy.out.mono ?_;rintro en w3 ⟨rfl,hb3⟩;have aZ:=zh (zka bT.out hb3);clear x0 x1 x2 x3 x4 x5 x6 x7 x8 x9 aK aJ q0 q1 q2 q3 q4 q5 hb3 uy;obtain⟨x0,x1,x2,x3,x4,x5,x6,x7,x8,x9,aK,aJ⟩:=dD.out _ aZ.out;obtain⟨q0,q1,q2,q3,q4,q5⟩:=dx.out _ aZ.out
 cases VX
 ·have HF:=zh (show admE e q=1 by unfold admE;rw[jJ.out];rfl);go_wp2_with fail;go_ret;exact⟨by rw[<-HAD.out,HF.out];rfl,zka HB.out aZ.out⟩
 have nX:=zh (show admE e q=admP e.gv.vs q by unfold admE;rw[jJ.out];rfl);go_wp2_with fail;refine(bJ.out _ aZ.out).mono ?_;rintro en w4 ⟨R,n,c,rfl,hR,hb4⟩;have HR:=zh hR;have bL:=zh (zka aZ.out hb4);have ay:=zh hb4;clear x0 x1 x2 x3 x4 x5 x6 x7 x8 x9 aK aJ q0 q1 q2 q3 q4 q5 hb4 hR;obtain⟨x0,x1,x2,x3,x4,x5,x6,x7,x8,x9,aK,aJ⟩:=dD.out _ bL.out;obtain⟨q0,q1,q2,q3,q4,q5⟩:=dx.out _ bL.out;go_wp2_with fail;refine(dG.out _ bL.out).mono ?_;rintro en w5 ⟨rfl,hb5⟩;have bK:=zh (zka bL.out hb5);have aS:=zh hb5;clear x0 x1 x2 x3 x4 x5 x6 x7 x8 x9 aK aJ q0 q1 q2 q3 q4 q5 hb5 dG;obtain⟨x0,x1,x2,x3,x4,x5,x6,x7,x8,x9,aK,aJ⟩:=dD.out _ bK.out;obtain⟨q0,q1,q2,q3,q4,q5⟩:=dx.out _ bK.out;obtain⟨VB,tQ⟩:=zX (zkx q);have bg:=zh tQ;rw[tQ];clear tQ
 cases VB
 ·have HF:=zh (show admE e q=3 by rw[nX.out];unfold admP;rw[bg.out];rfl);go_wp2_with fail;go_ret;exact⟨by rw[<-HAD.out,HF.out];rfl,zka HB.out bK.out⟩
 have tY:=gZ.out _ bK.out;rw[if_pos bg.out]at tY;have nD:=zh tY;clear tY gZ;go_wp2_with fail;refine nD.out.mono ?_;rintro en w6 ⟨B0,d0,rfl,hb6⟩;have fG:=zh (zka bK.out hb6);have bB:=zh (zka aS.out hb6);clear x0 x1 x2 x3 x4 x5 x6 x7 x8 x9 aK aJ q0 q1 q2 q3 q4 q5 hb6 nD;obtain⟨x0,x1,x2,x3,x4,x5,x6,x7,x8,x9,aK,aJ⟩:=dD.out _ fG.out;obtain⟨q0,q1,q2,q3,q4,q5⟩:=dx.out _ fG.out;obtain⟨CN,iH⟩:=zX (chkN q);have lC:=zh iH;rw[iH];clear iH;by_cases hc:CN=0
 ·have hz1:decide ((CN:Int)>0)=false:=by simp;omega
  have hz2:decide (0<CN)=false:=by simp;omega
  obtain⟨hn,hcell⟩:=HR.out ⟨bg.out,lC.out.trans hc⟩;have ru:=zh (lC.out.trans hc);clear hc;have yg:=zh hn;clear hn;by_cases hz:n=0
  ·have xE:=zh (yg.out.symm.trans hz);have hz3:decide ((n:Int)>0)=false:=by simp;omega
   have lZ:decide (0<n)=false:=by simp;omega
   clear hz hcell;go_wp2_with fail;refine(ik.out _ fG.out).mono ?_;rintro en w7 ⟨rfl,eF⟩;have il:=zh (zka fG.out eF);obtain⟨EQ,uh⟩:=zX (eqVs q.vs e.gv.vs);have HE:=zh uh;rw[uh];clear uh
   cases EQ
   ·have HF:=zh (show admE e q=7 by rw[nX.out];unfold admP;rw[bg.out,ru.out,xE.out,HE.out];rfl);go_wp2_with fail;go_ret;exact⟨by rw[<-HAD.out,HF.out];rfl,zka HB.out il.out⟩
   ·have HF:=zh (show admE e q=0 by rw[nX.out];unfold admP;rw[bg.out,ru.out,xE.out,HE.out];rfl);go_wp2_with fail;go_ret;exact⟨by rw[<-HAD.out,HF.out];rfl,zka HB.out il.out⟩
  ·obtain⟨g,rfl,hcl⟩:=hcell hz;have sZ:=zb bB.out hcl;have hz3:decide ((n:Int)>0)=true:=by simp;omega
   have lZ:decide (0<n)=true:=by simp;omega
   have HF:=zh (show admE e q=(rjA q).headD 0 by rw[nX.out];unfold admP;rw[bg.out,ru.out,if_pos rfl,if_pos rfl,if_neg (fun h=>hz (yg.out.trans h))]);obtain⟨HD,xL⟩:=zX ((rjA q).headD 0);rw[xL]at HF sZ;clear hcl xL;go_wp2_with fail;go_ret;exact⟨by rw[<-HAD.out,HF.out];rfl,zka HB.out fG.out⟩
 ·have hz1:decide ((CN:Int)>0)=true:=by simp;omega
  have hz2:decide (0<CN)=true:=by simp;omega
  have HF:=zh (show admE e q=3 by rw[nX.out];unfold admP;rw[bg.out,lC.out,if_pos rfl,if_neg hc]);go_wp2_with fail;go_ret;exact⟨by rw[<-HAD.out,HF.out];rfl,zka HB.out fG.out⟩
end
section
open Go Go.RowKit
def Fl(F':Int)(n:Nat)(o o':Out):Prop:=∀r',o=.ok r'->n<=r'.n/\((r'.n:Int)<=F'\/r'.n=n->o'=.ok r')/\(F'<(r'.n:Int)->n<r'.n->o'=.err 18)
theorem Fl.bind{F':Int}{n:Nat}{o o':Out}{f f':RS->Out}(h:Fl F' n o o')(hf:∀r,n<=r.n->Fl F' r.n (f r) (f' r)):Fl F' n (o.bind f) (o'.bind f'):=by
 intro r2 e
 cases o with
 | gas=>cases e
 | err x=>cases e
 | ok r1 =>
  obtain⟨h1,h2,h3⟩:=h r1 rfl;obtain⟨g1,g2,g3⟩:=hf r1 h1 r2 e;refine⟨zO,fun hc=>?_,fun a b=>?_⟩
  ·rw[h2 zO];exact g2 zO
  ·by_cases hc:(r1.n:Int)<=F'\/r1.n=n
   ·rw[h2 hc];exact g3 a zO
   ·rw[h3 zO zO];rfl
theorem Fl.err{F':Int}{n:Nat}{x:Int}{o':Out}:Fl F' n (.err x) o':=fun _ e=>by cases e
theorem Fl.gas{F':Int}{n:Nat}{o':Out}:Fl F' n .gas o':=fun _ e=>by cases e
theorem Fl.same{F':Int}{r:RS}:Fl F' r.n (.ok r) (.ok r):=fun r' e=>by
 injection e with e;subst e;exact⟨zl,fun _=>rfl,fun _ h=>absurd h (Nat.lt_irrefl _)⟩
theorem Fl.step(F F':Int)(r:RS):Fl F' r.n (zkA F r) (zkA F' r):=fun r' e=>by
 obtain⟨rfl,-⟩:=zkQ e;refine⟨by simp only;omega,fun h=>?_,fun h _=>?_⟩
 ·unfold zkA;rw[if_neg (by simp only at h;omega)]
 ·unfold zkA;rw[if_pos (by simp only at h;omega)]
theorem Fl.store{F':Int}{r:RS}(R:Int×ST):Fl F' r.n (zkk r R) (zkk r R):=by
 unfold zkk
 split
 ·exact Fl.err
 ·intro r' e;injection e with e;subst e;exact⟨zl,fun _=>rfl,fun _ h=>absurd h (Nat.lt_irrefl _)⟩
theorem Fl.val{F':Int}{n:Nat}{t:T}{r:RS}{f f':Int->RS->Out}(h:∀x,Fl F' n (f x r) (f' x r)):Fl F' n (valO t r f) (valO t r f'):=by
 unfold valO
 split
 ·exact Fl.err
 ·exact h _
theorem Fl.holds{F F':Int}{t:T}{r:RS}{f f':Bool->RS->Out}(h:∀b r1,r.n<=r1.n->Fl F' r1.n (f b r1) (f' b r1)):Fl F' r.n (zk7 F t r f) (zk7 F' t r f'):=by
 unfold zk7;exact(Fl.step F F' r).bind fun r1 h1=>Fl.val fun x=>h _ _ h1
theorem Fl.assert{F F':Int}{t:T}{b:Bool}{r:RS}:Fl F' r.n (zkp F t b r) (zkp F' t b r):=by
 unfold zkp;refine Fl.holds fun b1 r1 _=>?_
 split
 ·exact Fl.same
 ·exact Fl.err
theorem Fl.body{F':Int}{f f':T->RS->Out}:∀(l:List T) (r:RS),(∀t∈l,∀r',Fl F' r'.n (f t r') (f' t r'))->Fl F' r.n (zkP f l r) (zkP f' l r)
 | [],r,_=>Fl.same
 | t::ts,r,h=>by
  rw[zkP,zkP];exact(h t (List.mem_cons_self ..) r).bind fun r1 _=>Fl.body ts r1 fun u hu r'=>h u (List.mem_cons_of_mem _ hu) r'
theorem Fl.loop{F F':Int}{f f':T->RS->Out}{entry test:T}{l1 l2:List T}(h1:∀t∈l1,∀r',Fl F' r'.n (f t r') (f' t r'))(h2:∀t∈l2,∀r',Fl F' r'.n (f t r') (f' t r')):∀(m:Nat) (r:RS),Fl F' r.n (zlS F f entry test l1 l2 m r) (zlS F' f' entry test l1 l2 m r)
 | 0,r=>Fl.gas
 | m+1,r=>by
  rw[zlS,zlS];refine(Fl.body l1 r h1).bind fun r1 _=>Fl.holds fun b r2 _=>?_
  split
  ·exact Fl.same
  ·exact(Fl.body l2 r2 h2).bind fun r3 _=>Fl.assert.bind fun r4 _=>Fl.loop h1 h2 m r4
theorem zm5{prs:List PR}{F F':Int}:∀(g:Nat) (back:Bool) (t:T) (r:RS),Fl F' r.n (zkq prs F g back t r) (zkq prs F' g back t r)
 | 0,_,_,_=>Fl.gas
 | g+1,back,t,r=>by
  have hb:∀back (l:List T) r1,Fl F' r1.n (zkP (zkq prs F g back) l r1) (zkP (zkq prs F' g back) l r1):=fun back l r1=>Fl.body l r1 fun u _ r'=>zm5 g back u r';rw[zkq,zkq]
  split
  ·exact Fl.holds fun yes r1 _=>(hb _ _ r1).bind fun r2 _=>Fl.assert
  ·split
   ·exact Fl.assert.bind fun r1 _=>Fl.loop (fun u _ r'=>zm5 g back u r') (fun u _ r'=>zm5 g back u r') g r1
   ·split
    ·refine(Fl.step F F' r).bind fun r1 _=>Fl.val fun x=>(Fl.store _).bind fun r2 _=>(hb _ _ r2).bind fun r3 _=>(Fl.step F F' r3).bind fun r4 _=>Fl.val fun x=>Fl.store _
    ·split
     ·exact(Fl.step F F' r).bind fun r1 _=>(Fl.store _).bind fun r2 _=>(hb _ _ r2).bind fun r3 _=>(Fl.step F F' r3).bind fun r4 _=>Fl.store _
     ·split
      ·split
       ·exact Fl.err
       ·exact(Fl.step F F' r).bind fun r1 _=>(Fl.store _).bind fun r2 _=>Fl.bind (hb _ _ { r2 with ent:=_ }) fun r3 _=>(Fl.step F F' r3).bind fun r4 _=>Fl.store _
      ·exact(Fl.step F F' r).bind fun r1 _=>Fl.store _
theorem zuN{prs:List PR}{F F':Int}(g:Nat)(back:Bool)(b:T)(r:RS):Fl F' r.n (runO prs F g back b r) (runO prs F' g back b r):=Fl.body _ _ fun u _ r'=>zm5 g back u r'
theorem zuR{p:PG}{s:SS}{F:Int}{g:Nat}{back:Bool}(hg:F.toNat*2000+2000<=g)(h:(resO p s F g back).2.2.1=0) :
  zkx p=true/\chkN p=0/\fitB p.vs s=true/\∃r,runO p.prs F g back p.m ⟨newS p.vs s,0,List.replicate p.prs.length 0⟩=.ok r/\resO p s F g back=(r.S.state,r.n,0,r.ent):=by
 unfold resO at h ⊢
 split at h
 ·simp at h
 ·rename_i h1;rw[if_neg h1];simp only[not_or,Bool.not_eq_false,Decidable.not_not]at h1
  split at h
  ·simp at h
  ·rename_i h2;rw[if_neg h2];simp only[Bool.not_eq_false]at h2;refine⟨h1.1,by simpa using h1.2,h2,?_⟩;have hz:Nz (runO p.prs F g back p.m ⟨newS p.vs s,0,List.replicate p.prs.length 0⟩):=zuM zKK (zsv h1.1 (by simpa using h1.2));have hg0:=(zsJ (F:=F) (g:=g) h1.1 hg back (newS p.vs s) (List.replicate p.prs.length 0)).1
   cases ho:runO p.prs F g back p.m ⟨newS p.vs s,0,List.replicate p.prs.length 0⟩with
   | gas=>exact absurd ho hg0
   | err e =>
    rw[ho]at h hz;simp only[outR]at h;rw[h]at hz;exact absurd rfl hz
   | ok r=>exact⟨r,rfl,rfl⟩
theorem zok{p:PG}{s:SS}{F:Int}{g:Nat}{back:Bool}(h1:zkx p=true)(h2:chkN p=0)(h3:fitB p.vs s=true) :
  resO p s F g back=outR s (runO p.prs F g back p.m ⟨newS p.vs s,0,List.replicate p.prs.length 0⟩):=by
 unfold resO;rw[if_neg (by rw[h1,h2];simp),if_neg (by rw[h3];simp)]
theorem zxP{p:PG}{s:SS}{F:Int}{g:Nat}{back:Bool}(hg:F.toNat*2000+2000<=g)(h:(resO p s F g back).2.2.1=0) :
  ((resO p s F g back).2.1:Int)<=max F 0/\(∀F':Int,((resO p s F g back).2.1:Int)<=F'->resO p s F' g back=resO p s F g back) /\
   ∀F':Int,F'<((resO p s F g back).2.1:Int)->0<(resO p s F g back).2.1->(resO p s F' g back).2.2.1=18:=by
 obtain⟨h1,h2,h3,r,hr,he⟩:=zuR hg h;rw[he];simp only;have key:=fun F'=>zuN (prs:=p.prs) (F:=F) (F':=F') g back p.m ⟨newS p.vs s,0,List.replicate p.prs.length 0⟩ r hr;refine⟨?_,fun F' hF=>?_,fun F' hF h0=>?_⟩
 ·rcases Int.lt_or_le (max F 0) (r.n:Int)with hlt|hle
  ·have:=(key F).2.2 zO (by simp only;omega);rw[hr]at this
   cases this
  ·exact hle
 ·rw[zok h1 h2 h3,(key F').2.1 (.inl hF)];rfl
 ·rw[zok h1 h2 h3,(key F').2.2 hF h0];rfl
attribute [local go_sem] Oper.semAt_some
theorem SV.nilG(w:World)(S:Nat->Prop):SV w S nilS (.agg #[zn,zn,zn]) :=
 ⟨none,0,none,0,none,0,rfl,fun i hi=>by simp[nilS]at hi,fun i hi=>by simp[nilS]at hi,fun i hi=>by simp[nilS]at hi,by simp[nilS],by simp[nilS],by simp[nilS],by simp[nilS,LI],by intro l hl;simp[nilS]at hl,by simp[nilS,LI],by simp[nilS,LI]⟩
theorem zLk:IsFn prog 39 Tryz.f39:=⟨func39,zK,zK⟩
theorem ztW:IsFn prog 31 f31:=⟨func31,zK,zK⟩
abbrev vdA(ok:Bool)(n:Int)(A:Option Addr)(l c:Nat)(B:Option Addr)(m d:Nat)(D:Option Addr)(k e:Nat)(er:Int):Array Value := #[.bool ok,zi n,.slice A l c,.slice B m d,.slice D k e,zi er]
theorem ztD{W:World}{b:Nat}{x0 x1 x2 x3 x4 x5:Value}{E:TypeId}(u0 u1 u2 u3 u4 u5:Value)(h:W.heap[b]?=some (.cells #[x0,x1,x2,x3,x4,x5] E (0,0))) :
  ∃W',((((((W.setCell ⟨b,0,none⟩ u0).setCell ⟨b,1,none⟩ u1).setCell ⟨b,2,none⟩ u2).setCell ⟨b,3,none⟩ u3).setCell ⟨b,4,none⟩ u4).setCell ⟨b,5,none⟩ u5)=W'/\W'.heap[b]?=some (.cells #[u0,u1,u2,u3,u4,u5] E (0,0))/\Chg (fun q=>q=b) W W':=zKU h
def GraP(r:Bool×Nat×SS×Int)(a:Int)(W:World)(en:Ending)(W':World):Prop :=
 ∃A c B d D e,en=.returned (.tuple #[.agg (vdA r.1 (r.2.1:Int) A r.2.2.1.cells.length c B r.2.2.1.tin.length d D r.2.2.1.tout.length e r.2.2.2),zi a]) /\
  SV W' Any r.2.2.1 (.agg #[.slice A r.2.2.1.cells.length c,.slice B r.2.2.1.tin.length d,.slice D r.2.2.1.tout.length e])/\zw W W'
def GdI(W0:World)(T:Nat)(w5:World)(rel right:SS->Bool)(pre:List SS)(C:Nat->Prop)(W:World):Prop :=
 (∀b,C b↔b<T+1)/\(∀b,b<T->W.heap[b]?=w5.heap[b]?)/\W.heap[T]?=some (.cells #[zi ((pre.filter rel).length:Int)] 3 (0,0))/\(∀x∈pre,rel x=true->right x=true)/\zw W0 W
def GdX(W0:World)(N T:Nat)(w5:World)(rel right:SS->Bool)(err:SS->Int)(xs pre:List SS)(C:Nat->Prop)(W:World):Prop:=∃fQ s g X A c B1 d D e,pre=fQ++[s]/\pre <+: xs/\(∀x∈fQ,rel x=true->right x=true)/\rel s=true/\right s=false/\(∀b,C b↔b<T+1\/(g<=b/\b<X))/\w5.heap.size<g/\X<=W.heap.size/\T+1<=W.heap.size /\
 zw W0 W/\W.heap[N+2]?=some (.cells (vdA false ((((fQ.filter rel).length+1:Nat):Int)) A s.cells.length c B1 s.tin.length d D s.tout.length e (err s)) 46 (0,0))/\W.heap[N+3]?=some (.cells #[zi 0] 35 (0,0)) /\
 SV W (fun q=>g<=q/\q<X) s (.agg #[.slice A s.cells.length c,.slice B1 s.tin.length d,.slice D s.tout.length e])
theorem GdI.chg{W0:World}{T:Nat}{w5 W W':World}{rel right:SS->Bool}{pre:List SS}{C D:Nat->Prop}(h:GdI W0 T w5 rel right pre C W)(hT:W0.heap.size<=T)(hc:Chg D W W')(hD:∀b,C b->¬ D b):GdI W0 T w5 rel right pre C W':=by
 obtain⟨h1,h2,h3,h4,h5⟩:=h;have hlt:T<W.heap.size:=zkf h3;have hk:∀b,b<T+1->W'.heap[b]?=W.heap[b]?:=fun b hb=>hc.block b zO (hD b ((h1 b).2 hb));exact⟨h1,fun b hb=>(hk b zO).trans (h2 b hb),(hk T zO).trans h3,h4,h5.trans ⟨hc.os,hc.tape,hc.output,hc.size,fun b hb=>hk b zO⟩⟩
theorem GdX.chg{W0:World}{N T:Nat}{w5 W W':World}{rel right:SS->Bool}{err:SS->Int}{xs pre:List SS}{C D:Nat->Prop}(h:GdX W0 N T w5 rel right err xs pre C W)(hT:W0.heap.size<=T)(hN:N+3<T)(hc:Chg D W W')(hD:∀b,C b->¬ D b):GdX W0 N T w5 rel right err xs pre C W':=by
 obtain⟨fQ,s,g,X,A,c,B1,d,E,e,h1,h2,h3,h4,BK,h5,h6,h7,h8,h9,h10,h11,mV⟩:=h;have hk:∀b,b<T+1->W'.heap[b]?=W.heap[b]?:=fun b hb=>hc.block b zO (hD b ((h5 b).2 (.inl hb)));exact⟨fQ,s,g,X,A,c,B1,d,E,e,h1,h2,h3,h4,BK,h5,h6,Nat.le_trans h7 hc.size,Nat.le_trans h8 hc.size,h9.trans ⟨hc.os,hc.tape,hc.output,hc.size,fun b hb=>hk b zO⟩,(hk _ zO).trans h10,(hk _ zO).trans h11,mV.keep (fun _ h _=>h) fun b hb _=>hc.block b zO (hD b ((h5 b).2 (.inr hb)))⟩
theorem zoW{rel right:SS->Bool}{err:SS->Int}{s:SS}{t:List SS}:∀(a:List SS) (n:Nat),(∀x∈a,rel x=true->right x=true)->rel s=true->right s=false->grE rel right err n (a++s::t)=(false,n+(a.filter rel).length+1,s,err s)
 | [],n,_,h1,h2=>by rw[List.nil_append,grE,if_pos h1,if_neg (by rw[h2];simp)];rfl
 | x::a,n,h,h1,h2=>by
  rw[List.cons_append,grE];by_cases hx:rel x=true
  ·rw[if_pos hx,if_pos (h x List.mem_cons_self hx),zoW a (n+1) (fun y hy=>h y (List.mem_cons_of_mem _ hy)) h1 h2,List.filter_cons_of_pos hx,List.length_cons,show n+((a.filter rel).length+1)+1=n+1+(a.filter rel).length+1 by omega]
  ·rw[if_neg hx,zoW a n (fun y hy=>h y (List.mem_cons_of_mem _ hy)) h1 h2,List.filter_cons_of_neg hx]
theorem zrz{W:World}{e:EX}{q:PG}{ev qv:Value}(he:EV W Any e ev)(hq:PV W Any q qv)(hok:admE e q=0->(e.bx.ok&&svB e.gv.vs)=true/\(allS e.bx (lenE e.gv.vs e.bx)).length<=1000000/\e.fu<=1000000) :
  Calls prog 13 #[ev,qv] W (GraP (if admE e q=0 then grdE e q else(false,0,nilS,0)) (admE e q) W):=by
 have HAD:=zh (fun w' (hb:zw W w')=>zwq (he.later hb) (hq.later hb));have lq:=zh (fun w' (hb:zw W w')=>he.later hb);have HQ:=zh (fun w' (hb:zw W w')=>hq.later hb);have fw:=zh hok;obtain⟨A1,c1,A2,c2,A3,c3,rfl,hg,hI⟩:=he;obtain⟨D1,e1,D2,e2,D3,e3,rfl,jr⟩:=hq;have HG:=zh (fun w' (hb:zw W w')=>hg.later hb);have HI:=zh hI;obtain⟨hb1,hz1,k0,k1,k2,k3⟩:=al4G W (.cells (exA e A1 c1 A2 c2 A3 c3) 32) (.cells (pgA q D1 e1 D2 e2 D3 e3) 30) (.cells (vdA false 0 none 0 0 none 0 0 none 0 0 0) 46) (.cells #[zi 0] 35);obtain⟨w1,hw1⟩:=zX ((((W.alloc (.cells (exA e A1 c1 A2 c2 A3 c3) 32)).alloc (.cells (pgA q D1 e1 D2 e2 D3 e3) 30)).alloc (.cells (vdA false 0 none 0 0 none 0 0 none 0 0 0) 46)).alloc (.cells #[zi 0] 35));obtain⟨N,hN⟩:=zX (W.heap.size);have HN:=zh hN;rw[hw1]at hb1 hz1 k0 k1 k2 k3;rw[hN]at hz1 k0 k1 k2 k3
 have HB1:=zh hb1;have HZ1:=zh hz1;have aG:=zh k0;have aC:=zh k1;have aQ:=zh k2;have fF:=zh k3;obtain⟨x0,x1,x2,x3,x4,x5,x6,x7,x8,x9,aK,aJ⟩:=zo3 k0;obtain⟨q0,q1,q2,q3,q4,q5⟩:=box6 k1;obtain⟨AD,iW⟩:=zX (admE e q);have HADE:=zh iW;rw[iW]at fw ⊢;rw[iW]at HAD;obtain⟨RR,hRR⟩:=zX ((if AD=0 then grdE e q else(false,0,nilS,0)));have HRR:=zh hRR;rw[hRR];clear hRR;clear hok hg hI jr hb1 hz1 k0 k1 k2 k3 iW;refine(callsIn_wide (n:=3)).1 (callsIn_of_wp_marks func13 rfl trivial ((wpIn_wide (n:=3)).2 ?_));simp only[ntmps13,List.size_toArray,List.length_cons,List.length_nil,Nat.reduceAdd,Nat.reduceSub,Array.replicate_succ,Array.replicate_zero,List.push_toArray,List.append_toArray,List.nil_append,List.cons_append];go_upto_region 1 with fail
 try simp only[Nat.add_assoc,Nat.reduceAdd]
 try rw[hw1]
 try rw[hN]
 try simp only[Nat.add_assoc,Nat.reduceAdd]
 clear hw1;go_wp2_with fail;refine(HAD.out _ HB1.out).mono ?_;rintro en w2 ⟨rfl,hb2⟩;have HB2:=zh (zka HB1.out hb2);have HK02:=zh (zkc aG.out hb2);have nO:=zh (zkc aC.out hb2);have nN:=zh (zkc aQ.out hb2);have vg:=zh (zkc fF.out hb2);have HZ2:=zh (show N+4<=w2.heap.size by have:=HZ1.out;have:=hb2.size;omega);clear hb2 x0 x1 x2 x3 x4 x5 x6 x7 x8 x9 aK aJ q0 q1 q2 q3 q4 q5 aG aC aQ fF;by_cases ha:AD=0
 ·subst ha;have ha1:((0:Int) != 0)=false:=zY
  have ha2:((0:Int)==0)=true:=zY
  have hRR:=HRR.out;rw[if_pos rfl]at hRR;have HRR2:=zh hRR;clear hRR HRR;obtain⟨hok,hm,qK⟩:=fw.out rfl;have bP:=zh (fun w' (hb:zw W w')=>zKM e.gv.vs e.bx A1 c1 w' (HG.out w' hb).vars (HG.out w' hb).lv hok);have HOK2:=zh hok;have HMX:=zh hm;have CJ:=zh qK;clear hok hm qK fw;go_upto_region 5 with fail;have hk3:=heap_alloc_new w2 (.cells #[zi 0] 3);have hb3:=zkb (zs w2) (.cells #[zi 0] 3);obtain⟨w3,hw3⟩:=zX (w2.alloc (.cells #[zi 0] 3));have hz3:w3.heap.size=w2.heap.size+1:=by rw[<-hw3];simp
  rw[hw3]at hk3 hb3 ⊢;obtain⟨T,hT⟩:=zX (w2.heap.size);rw[hT]at hk3 hz3 ⊢;have HT:=zh hT;have gY:=zh (show N+4<=T by rw[<-hT];exact HZ2.out);have HZ3:=zh hz3;have HB3:=zh (zka HB2.out hb3);have HK03:=zh (zkc HK02.out hb3);have HK13:=zh (zkc nO.out hb3);have HK23:=zh (zkc nN.out hb3);have HK33:=zh (zkc vg.out hb3);have HKT3:=zh hk3;clear hk3 hb3 hw3 hz3 hT HK02 nO nN vg;obtain⟨x0,x1,x2,x3,x4,x5,x6,x7,x8,x9,aK,aJ⟩:=zo3 HK03.out;have jU:=zh (bP.out _ HB3.out);go_wp2_with fail;refine jU.out.mono ?_;rintro e5 w5 ⟨kF,xb,lb',A9,c9,rfl,hb5,g1,g2,g3,hM5⟩;have aS:=zh hb5;have HG5:=zh (And.intro g1 (And.intro g2 g3));have uT:=zh hM5;clear hb5 g1 g2 g3 hM5 x0 x1 x2 x3 x4 x5 x6 x7 x8 x9 aK aJ jU bP;go_wp2_with fail;have hlb:=zmZ HOK2.out
  have HAW:=zh (zwW (nf:=3-1) (S:=fun q=>w3.heap.size<=q/\q<w5.heap.size) ⟨uT.out.ok,uT.out.bx,uT.out.ls,uT.out.row.keep (fun b h hlt=>⟨h,hlt⟩) fun _ _ _=>rfl⟩ ⟨hlb.2.2.2.1,hlb.2.2.2.2⟩ ⟨by rw[hlb.1];omega,by rw[hlb.1];have:=hlb.2.1;omega⟩ fun q hq=>(hlb.2.2.1 q hq).2);clear hlb;have uw:=zh (show T+1<=w5.heap.size by have:=aS.out.size;have:=HZ3.out;omega);have HB05:=zh (zka HB3.out aS.out);have hWT:W.heap.size<=T:=by have:=HN.out;have:=gY.out;omega
  have uA:=zh hWT;clear hWT;obtain⟨rel,hrel⟩:=zX (relG e.gv e.fu);obtain⟨vX,rX⟩:=zX (rigG e.gv q e.fu);obtain⟨err,sU⟩:=zX (erG e.gv q e.fu);have qf:=zh (fun s=>congrFun hrel s);have HRG:=zh (fun s=>congrFun rX s);have zx:=zh (fun s=>congrFun sU s);have uK:=zh (show grE rel vX err 0 (allS e.bx (lenE e.gv.vs e.bx))=RR by rw[<-HRR2.out,<-hrel,<-rX,<-sU];rfl);clear hrel rX sU HRR2;refine(wpIn_wide (n:=3)).1 ?_;refine ztK (n:=3) (gf:=39) (lb := #[ptr0 kF,ptr0 xb,ptr0 lb']) rfl (zkH zLk) HAW.out (fun l x vs' g W' h=>by obtain⟨v9,rfl,-,h2,-⟩:=h;exact⟨rfl,h2⟩)
   (GdI W T w5 rel vX) (GdX W N T w5 rel vX err (allS e.bx (lenE e.gv.vs e.bx))) (fun b=>b<T+1)
   (fun pre C W' W'' h hc=>h.chg uA.out hc fun b hb h=>h hb) (fun pre C W' W'' h hc=>h.chg uA.out (by have:=gY.out;omega) hc fun b hb h=>h hb) (fun pre C W' h b hb=>by have h1:=(h.1 b).1 hb;have h2:=zkf h.2.2.1;omega) (fun pre C W' h b hb=>by obtain⟨_,_,g,X,_,_,_,_,_,_,_,_,_,_,_,h5,h6,h7,h8,_⟩:=h;rcases(h5 b).1 hb with h|h<;>omega)
   (fun b h1 h2=>by
    have:=HG5.out;have:=HZ3.out;rcases h2 with h|h|h|h<;>omega) (fun b h=>by
    rcases h with rfl|rfl|rfl|h
    ·exact zkf uT.out.ok
    ·exact zkf uT.out.bx
    ·exact zkf uT.out.ls
    ·exact h.2) ⟨fun _=>Iff.rfl,fun _ _=>rfl,zkc HKT3.out aS.out,(fun s hs=>by cases hs),HB05.out⟩ ?_ ?_ ?_
  ·rintro l pre x C W3 vs' g hI wJ jE hl xu hpre ⟨sv,rfl,hsv,Bf⟩;clear wJ;have hxm:x∈allS e.bx (lenE e.gv.vs e.bx):=hpre.subset zS;have hpl:(pre.filter rel).length<1000000:=by have h1:=hpre.length_le;have h2:=HMX.out;have h3:=List.length_filter_le rel pre;simp only[List.length_append,List.length_cons,List.length_nil]at h1;omega
   have hxc:x.cells.length<=100:=by
    obtain⟨y,hy,rfl⟩:=List.mem_map.1 hxm;have h1:=(ztr rfl y hy).len;have h2:=zmZ HOK2.out;simp only[stOf,List.length_dropLast];omega
   have oH:=zh (show x.Lim by obtain⟨A,c,B,d,D,e,-,-,-,-,-,-,-,h1,h2,h3,h4⟩:=hsv;exact⟨h1,h2,h3,h4⟩);obtain⟨As,cs,Bs,ds,Ds,es,rfl⟩:∃A c B d D e,sv=.agg #[.slice A x.cells.length c,.slice B x.tin.length d,.slice D x.tout.length e]:=by
    obtain⟨A,c,B,d,D,e,rfl,-⟩:=hsv;exact⟨_,_,_,_,_,_,rfl⟩
   change Code.wpIn (Fence.wide.inRound l) (3-1-1) prog _ _ _ _
   gi_wp2
   refine⟨(Chg.refl _ _).alloc _,fun W4 tO=>?_⟩;have hbx:=tO.keep (heap_alloc_new W3 (.cells #[.slice As x.cells.length cs,.slice Bs x.tin.length ds,.slice Ds x.tout.length es] 44)) (show ¬ W3.heap.size=l by omega);have tK:=zkb (zs W3) (.cells #[.slice As x.cells.length cs,.slice Bs x.tin.length ds,.slice Ds x.tout.length es] 44);have xK:=(hI.chg uA.out (Chg.of_below tK) (fun b hb h=>h)).chg uA.out tO (fun b hb h=>jE (by have h:b=l:=h;rwa[h]at hb));have rT:SV W4 (fun q=>g<=q) x (.agg #[.slice As x.cells.length cs,.slice Bs x.tin.length ds,.slice Ds x.tout.length es]):=(hsv.later tK).keep (fun _ h _=>h) fun q h hlt=>tO.block q hlt (fun e:q=l=>by have h:g<=q:=h;omega);obtain⟨xp,hxp⟩:=zX (W3.heap.size);rw[hxp]at hbx ⊢;have hg6:T+1<=g:=by have:=uw.out;omega
   have hxp6:g<=xp:=zO
   have sO:=(xK.2.1 N (by have:=gY.out;omega)).trans (zkc HK03.out aS.out);have hk14:=(xK.2.1 (N+1) (by have:=gY.out;omega)).trans (zkc HK13.out aS.out);have HK04:=zh sO;have HK14:=zh hk14;have HI4:=zh xK;have HSV4:=zh rT;have aR:=zh hbx;have HXC:=zh hxc;have lU:=zh (And.intro hl (And.intro xu (And.intro Bf (And.intro hg6 hxp6))));have dH:=zh hpre;have vQ:=zh (zpf e.gv x e.fu (e.fu.toNat*2000+2000) _ _ W4 (HG.out _ xK.2.2.2.2).pv rT.any zO HI.out CJ.out zl);have lV:=zh (show(resO e.gv x e.fu (e.fu.toNat*2000+2000) false).2.2.1=0->((resO e.gv x e.fu (e.fu.toNat*2000+2000) false).2.1:Int)<=max e.fu 0 from fun h=>(zxP zl h).1)
   have jL:=zh (show rel x=((resO e.gv x e.fu (e.fu.toNat*2000+2000) false).2.2.1==0)/\vX x=(gerE q e.fu (resO e.gv x e.fu (e.fu.toNat*2000+2000) false).1==0&&eqS (gstE q e.fu (resO e.gv x e.fu (e.fu.toNat*2000+2000) false).1) x)/\err x=gerE q e.fu (resO e.gv x e.fu (e.fu.toNat*2000+2000) false).1 from⟨(qf.out x).symm,(HRG.out x).symm,(zx.out x).symm⟩);generalize resO e.gv x e.fu (e.fu.toNat*2000+2000) false=R at vQ jL lV;obtain⟨x0,x1,x2,x3,x4,x5,x6,x7,x8,x9,aK,aJ⟩:=zo3 sO;obtain⟨y0,y1,y2⟩:=zl6 hbx;clear hI hpre hbx xK rT tO hsv hxc jE hl xu Bf tK hxm hg6 hxp6 sO hk14;change Code.wpIn (Fence.wide.inRound l) (3-1-1) prog _ _ _ _
   gi_wp2
   refine⟨trivial,CallsIn.inRound l (callsIn_wide.2 (vQ.out.mono ?_))⟩;rintro en w6 ⟨u1,u2,u3,rfl,jV,hb6,Bi⟩;obtain⟨A6,c6,B6,d6,D6,e6,hv⟩:=jV.slices;injection hv with hv;simp only[Array.mk.injEq,List.cons.injEq,and_true]at hv;obtain⟨rfl,rfl,rfl⟩:=hv;have Cr:=zh (show R.2.2.1=0->R.1.cells.length<=2000000 from fun h=>by have h1:=(Bi.2 h).1;have h2:=lV.out h;have h3:=CJ.out;omega);have uF:=zh (jV.svR Bi.1);have bB:=zh hb6;clear x0 x1 x2 x3 x4 x5 x6 x7 x8 x9 aK aJ y0 y1 y2 vQ jV hb6 Bi;obtain⟨R1,R2,R3,R4⟩:=R;simp only at jL Cr lV uF ⊢;by_cases hr:R3=0
   ·subst hr;have hr1:((0:Int) != 0)=false:=zY
    have hr2:((0:Int)==0)=true:=zY
    have uM:=zh (show rel x=true from jL.out.1.trans zY);have HR1:=zh jL.out.2
    gi_upto_region 8 with fail
    have eF:=zkb bB.out (.cells #[.slice A6 R1.cells.length c6,.slice B6 R1.tin.length d6,.slice D6 R1.tout.length e6,zi (R2:Int),zi 0] 58);have tJ:=zkb (zs w6) (.cells #[.slice A6 R1.cells.length c6,.slice B6 R1.tin.length d6,.slice D6 R1.tout.length e6,zi (R2:Int),zi 0] 58);have mr:=heap_alloc_new w6 (.cells #[.slice A6 R1.cells.length c6,.slice B6 R1.tin.length d6,.slice D6 R1.tout.length e6,zi (R2:Int),zi 0] 58);obtain⟨w7,hw7⟩:=zX (w6.alloc (.cells #[.slice A6 R1.cells.length c6,.slice B6 R1.tin.length d6,.slice D6 R1.tout.length e6,zi (R2:Int),zi 0] 58));obtain⟨gp,Bl⟩:=zX (w6.heap.size);rw[hw7]at eF tJ mr ⊢;rw[Bl]at mr ⊢;have hgp2:W4.heap.size<=gp:=by rw[<-Bl];exact bB.out.size
    have hx4:=zkf aR.out;have hgpT:T<gp:=by have:=zkf HI4.out.2.2.1;omega
    have hgpx:xp<gp:=zO
    have nP:=zh (And.intro hgp2 (And.intro hgpT hgpx));have pW:=zkc HI4.out.2.2.1 eF;obtain⟨n,hn⟩:=zX ((pre.filter rel).length);have oG:=zh hn;rw[hn]at pW hpl;have z7:w7.cell? ⟨T,0,none⟩=some (zi (n:Int)):=zc pW rfl;have cf7:∀o,w7.frozen? ⟨T,o,none⟩=false:=fun o=>zf pW;have z8:w7.cell? ⟨gp,4,none⟩=some (zi 0):=zc mr rfl;obtain⟨W8,hw8,hc8,hh8⟩:=setU (o:=0) (zi ((n:Int)+1)) pW;have hk08:=hc8.keep (zkc HK04.out eF) (fun e:N=T=>by have:=gY.out;omega);have hk18:=hc8.keep (zkc HK14.out eF) (fun e:N+1=T=>by have:=gY.out;omega);have Ar:=hc8.keep (zkc aR.out eF) (fun e:xp=T=>by have:=lU.out;omega);have yN:=hc8.keep mr (fun e:gp=T=>zO);have BU:=zh Ar;have p8:=HI4.out.chg uA.out (Chg.of_below eF (C:=fun _=>False)) (fun b hb h=>h)
    have iQ:=zh (show zw W W8 from p8.2.2.2.2.trans (hc8.below p8.2.2.2.2.size fun b (e:b=T)=>by have:=uA.out;omega));have vR:=zh (show Chg (fun q=>q=T) W4 W8 from(Chg.of_below eF).trans2 hc8 fun q _ e=>e);have HH8:=zh hh8;have AR:SV W8 Any R1 (.agg #[.slice A6 R1.cells.length c6,.slice B6 R1.tin.length d6,.slice D6 R1.tout.length e6]):=(uF.out.later tJ).keep (fun _ _ _=>trivial) fun q h hlt=>hc8.block q hlt fun e:q=T=>by have h:W4.heap.size<=q:=h;have:=zkf HI4.out.2.2.1;omega
    have hx8v:SV W8 Any x (.agg #[.slice As x.cells.length cs,.slice Bs x.tin.length ds,.slice Ds x.tout.length es]):=HSV4.out.keep (fun _ _ _=>trivial) fun q h hlt=>vR.out.block q hlt fun e:q=T=>by have h:g<=q:=h;have:=lU.out;omega
    have HCM:=zh (zrc (lq.out _ iQ.out) (HQ.out _ iQ.out) AR hx8v (Cr.out rfl) CJ.out);obtain⟨bb,hbb⟩:=zX ((gerE q e.fu R1==0&&eqS (gstE q e.fu R1) x));obtain⟨ge,hge⟩:=zX (gerE q e.fu R1);rw[hbb,hge]at HCM;have HR2:=zh (show vX x=bb/\err x=ge from⟨HR1.out.1.trans hbb,HR1.out.2.trans hge⟩);obtain⟨x0,x1,x2,x3,x4,x5,x6,x7,x8,x9,aK,aJ⟩:=zo3 hk08;obtain⟨q0,q1,q2,q3,q4,q5⟩:=box6 hk18;obtain⟨y0,y1,y2⟩:=zl6 Ar;have r0:W8.cell? ⟨gp,0,none⟩=some (.slice A6 R1.cells.length c6):=zc yN rfl;have r1:W8.cell? ⟨gp,1,none⟩=some (.slice B6 R1.tin.length d6):=zc yN rfl;have r2:W8.cell? ⟨gp,2,none⟩=some (.slice D6 R1.tout.length e6):=zc yN rfl;clear eF tJ mr hw7 Bl hgp2 hx4 hgpT hgpx pW hn hc8 hh8 hk08 hk18 Ar yN p8 AR hx8v hbb hge HR1 jL HK04 HK14 lV Cr uF bB;change Code.wpIn (Fence.wide.inRound l) (3-1-1) prog _ _ _ _
    gi_wp2
    refine⟨trivial,CallsIn.inRound l (callsIn_wide.2 (HCM.out.mono ?_))⟩;rintro en w9 ⟨rfl,aP⟩;have bD:=zh aP;have yA:=zh (vR.out.trans2 (Chg.of_below (C:=fun _=>False) aP) fun q _ e=>e.elim);have hlow:∀b,b<T->w9.heap[b]?=w5.heap[b]?:=fun b hb=>(yA.out.block b (by have:=zkf HI4.out.2.2.1;omega) (fun e:b=T=>zO)).trans (HI4.out.2.1 b hb);have uV:=zh hlow;have HT9:=zh (zkc HH8.out aP);have vS:=zh (iQ.out.trans (aP.mono iQ.out.size));have HX9:=zh (zkc BU.out aP);have HSV9:=zh (show SV w9 Any x (.agg #[.slice As x.cells.length cs,.slice Bs x.tin.length ds,.slice Ds x.tout.length es])from HSV4.out.keep (fun _ _ _=>trivial) fun q h hlt=>yA.out.block q hlt fun e:q=T=>by have h:g<=q:=h;have:=lU.out;omega);clear aP hlow x0 x1 x2 x3 x4 x5 x6 x7 x8 x9 aK aJ q0 q1 q2 q3 q4 q5 y0 y1 y2 r0 r1 r2 z7 cf7 z8 hw8 HCM
    cases bb
    ·gi_upto_region 12 with fail
     have Bw:w9.heap[T]?=some (.cells #[zi ((n:Int)+1)] 3 (0,0)):=by have:=HT9.out;simpa using this
     have yS:(fun w':World=>zv w' T 0 (zi ((n:Int)+1))/\stC w' xp As x.cells.length cs Bs x.tin.length ds Ds x.tout.length es) w9.drew:=⟨zc Bw rfl,zl6 HX9.out⟩
     refine zms (ro:=some l) (fun w':World=>zv w' T 0 (zi ((n:Int)+1))/\stC w' xp As x.cells.length cs Bs x.tin.length ds Ds x.tout.length es) zK ?_;refine zI 0 yS ?_;refine zI 1 yS ?_;refine zI 3 yS ?_;have hcl:=zqB x _ w9.drew (HSV9.out.later zr.drew) (by have:=HXC.out;omega);have had:Calls prog 31 [.agg #[.slice As x.cells.length cs,.slice Bs x.tin.length ds,.slice Ds x.tout.length es]].toArray w9.drew fun e w'=>∃u,e=.returned u/\(OwnS w' w9.heap.size x u/\zw w9 w') :=
      hcl.mono fun e w' ⟨v,h1,h2,h3⟩=>⟨v,h1,h2,zka (zs w9).drew h3⟩
     refine znM (i:=2) zK rfl zK zR (fun K hK=>?_);refine zke zR (.func 31) [.tmp 49] _ zR 31 _ ztW zR _ zR _ had ?_;rintro u aW ⟨kH,eY⟩;have hsv10:=kH.svR oH.out;obtain⟨Au,cu,Bu,du,Du,eu,rfl⟩:=kH.slices;have pX:=zkc Bw eY;have oN:=zkc HX9.out eY;have gJ:(fun w':World=>zv w' T 0 (zi ((n:Int)+1))/\stC w' xp As x.cells.length cs Bs x.tin.length ds Ds x.tout.length es) aW:=⟨zc pX rfl,zl6 oN⟩
     refine hK.out _ _ gJ ?_;clear hK K had hcl yS Bw kH;(try simp only[zQ]);refine zI 4 gJ ?_;have hk2:=zkc ((uV.out (N+2) (by have:=gY.out;omega)).trans (zkc HK23.out aS.out)) eY;have hk3:=zkc ((uV.out (N+3) (by have:=gY.out;omega)).trans (zkc HK33.out aS.out)) eY;obtain⟨q0,q1,q2,q3,q4,q5⟩:=box6 hk2;have cf:∀o,aW.frozen? ⟨N+2,o,none⟩=false:=fun o=>zf hk2;obtain⟨aN,dS,mI,iE⟩:=ztD (.bool false) (zi ((n:Int)+1)) (.slice Au x.cells.length cu) (.slice Bu x.tin.length du) (.slice Du x.tout.length eu) (zi ge) hk2;refine znM (i:=5) zK rfl zK zR (fun K hK=>?_);(try simp only[zA,zB,zC]);go_simp;have hT11:=iE.keep pX (fun e:T=N+2=>by have:=gY.out;omega);have hx11:=iE.keep oN (fun e:xp=N+2=>by have:=gY.out;have:=nP.out;have:=lU.out;omega);refine hK.out _ _ ⟨zc hT11 rfl,zl6 hx11⟩ ?_
     clear hK K q0 q1 q2 q3 q4 q5 cf;(try simp only[zQ]);have jY:=iE.keep hk3 (fun e:N+3=N+2=>zO);have q0:aN.cell? ⟨N+3,0,none⟩=some (zi 0):=zc jY rfl;have cf:∀o,aN.frozen? ⟨N+3,o,none⟩=false:=fun o=>zf jY;obtain⟨ek,hw12,tC,hh12⟩:=setU (o:=0) (zi 0) jY;refine znM (i:=6) zK rfl zK zR (fun K hK=>?_);(try simp only[zA,zB,zC]);go_simp;have hc:Chg (fun q=>q=N+2\/q=N+3) aW ek:=(iE.mono fun q _ e=>.inl e).trans2 tC fun q _ e=>.inr e;have hT12:=hc.keep pX (fun e=>by have:=gY.out;rcases e with e|e<;>omega);have hx12:=hc.keep oN (fun e=>by have:=gY.out;have:=nP.out;have:=lU.out;rcases e with e|e<;>omega);have hcx:Chg (fun q=>q=N+2\/q=N+3) w9 ek:=(Chg.of_below eY).trans2 hc fun q _ e=>e;have vZ:W4.heap.size<=w9.heap.size:=yA.out.size;have mf:w9.heap.size<=aW.heap.size:=eY.size;have hx4:=zkf aR.out
     have hT94:T<W4.heap.size:=zkf HI4.out.2.2.1;have vJ:=zh (show GdX W N T w5 rel vX err (allS e.bx (lenE e.gv.vs e.bx)) (pre++[x]) (fun b=>b<T+1\/(w9.heap.size<=b/\b<ek.heap.size)) ek from
      ⟨pre,x,w9.heap.size,ek.heap.size,Au,cu,Bu,du,Du,eu,rfl,dH.out,HI4.out.2.2.2.1,uM.out,HR2.out.1,fun b=>Iff.rfl,(by have:=lU.out;omega),zl,(by have:=hc.size;omega),
       vS.out.trans (hcx.below vS.out.size fun b h=>by have:=HN.out;rcases h with h|h<;>omega),by rw[tC.keep mI (fun e:N+2=N+3=>zO),oG.out,HR2.out.2];simp,hh12,
       hsv10.keep (fun q h hlt=>⟨h,Nat.lt_of_lt_of_le hlt hc.size⟩) fun q h hlt=>hc.block q hlt fun e=>by have h:w9.heap.size<=q:=h;have:=gY.out;rcases e with e|e<;>omega⟩)
     have HCX:=zh (show Chg C W4 ek from(yA.out.mono fun q _ e=>(HI4.out.1 q).2 (by have e:q=T:=e;omega)).trans2 hcx fun q _ e=>(HI4.out.1 q).2 (by have:=gY.out;rcases e with e|e<;>omega));have HGL:=zh (show g<=w9.heap.size by have:=lU.out;omega);refine hK.out _ _ ⟨zc hT12 rfl,zl6 hx12⟩ ?_;clear hK K q0 cf hcx hc hT12 hx12 hh12 tC jY mI iE hT11 hx11 hk2 hk3 hsv10 pX oN eY gJ vZ mf;(try simp only[zQ]);refine zoh zK ?_
     gi_wp2
     exact⟨_,vJ.out,(fun b hb=>by rcases hb with h|h;exact .inl ((HI4.out.1 b).2 h);exact .inr (Nat.le_trans HGL.out h.1)),HCX.out⟩
    ·gi_wp2
     have wy:(pre++[x]).filter rel=pre.filter rel++[x]:=by rw[List.filter_append,List.filter_cons_of_pos uM.out];simp
     exact⟨C,⟨HI4.out.1,uV.out,by rw[wy,List.length_append,oG.out,HT9.out];simp,fun y hy h=>by
      rcases List.mem_append.1 hy with hy|hy
      ·exact HI4.out.2.2.2.1 y hy h
      ·rw[List.mem_singleton.1 hy];exact HR2.out.1,vS.out⟩,fun b hb=>.inl hb,yA.out.mono fun q _ e=>(HI4.out.1 q).2 (by have e:q=T:=e;omega)⟩
   ·have hr1:(R3 != 0)=true:=by simpa using hr
    have hr2:(R3==0)=false:=by simpa using hr
    have uM:=zh (jL.out.1.trans hr2);clear hr
    gi_upto_region 8 with fail
    have kD:=zh (zkb bB.out (.cells #[.slice A6 R1.cells.length c6,.slice B6 R1.tin.length d6,.slice D6 R1.tout.length e6,zi (R2:Int),zi R3] 58))
    gi_wp2
    have p8:=HI4.out.chg uA.out (Chg.of_below kD.out (C:=fun _=>False)) (fun b hb h=>h);have wy:(pre++[x]).filter rel=pre.filter rel:=by rw[List.filter_append,List.filter_cons_of_neg (by rw[uM.out];simp)];simp
    exact⟨C,⟨p8.1,p8.2.1,by rw[wy];exact p8.2.2.1,fun y hy h=>by
     rcases List.mem_append.1 hy with hy|hy
     ·exact p8.2.2.2.1 y hy h
     ·rw[List.mem_singleton.1 hy,uM.out]at h;exact absurd h Bool.false_ne_true,p8.2.2.2.2⟩,fun b hb=>.inl hb,Chg.of_below kD.out⟩
  ·intro D C W' hD hI hch hK;have hchL:Chg (fun b=>b<T+1) w5 W':=hch;have hk2:=(hI.2.1 (N+2) (by have:=gY.out;omega)).trans (zkc HK23.out aS.out);have hk3:=(hI.2.1 (N+3) (by have:=gY.out;omega)).trans (zkc HK33.out aS.out);have hRR:(true,((allS e.bx (lenE e.gv.vs e.bx)).filter rel).length,nilS,0)=RR:=(zvB hI.2.2.2.1).symm.trans uK.out;obtain⟨n,hn⟩:=zX (((allS e.bx (lenE e.gv.vs e.bx)).filter rel).length);have pW:=hI.2.2.1;rw[hn]at pW hRR;subst hRR;have aU:=zh hI.2.2.2.2;have HK:=zh hK;have HD:=zh (show w5.heap.size=D from hD.symm);have z7:W'.cell? ⟨T,0,none⟩=some (zi (n:Int)):=zc pW rfl;obtain⟨q0,q1,q2,q3,q4,q5⟩:=box6 hk2;have cf:∀o,W'.frozen? ⟨N+2,o,none⟩=false:=fun o=>zf hk2;obtain⟨w6,mh,oo,hc6⟩:=ztD (.bool true) (zi (n:Int)) zn zn zn (zi 0) hk2;have o8:=hc6.keep hk3 (fun e:N+3=N+2=>zO)
   have q6:w6.cell? ⟨N+3,0,none⟩=some (zi 0):=zc o8 rfl;have cf6:∀o,w6.frozen? ⟨N+3,o,none⟩=false:=fun o=>zf o8;obtain⟨w7,hw7,pJ,xz⟩:=setU (o:=0) (zi 0) o8;have hcx:Chg (fun q=>q=N+2\/q=N+3) W' w7:=(hc6.mono fun q _ e=>.inl e).trans2 pJ fun q _ e=>.inr e;have hND:N+3<D:=by have:=uw.out;have:=HD.out;have:=gY.out;omega
   have HKD:=zh (hcx.keep hK (fun e=>by rcases e with e|e<;>omega));have hcd:=Chg.putObj w7 D (.deferred none);obtain⟨t0,t1,t2,t3,t4,t5⟩:=box6 (hcd.keep (pJ.keep oo (fun e:N+2=N+3=>zO)) (fun(e:N+2=D)=>zO));have t6:(w7.putObj D (.deferred none)).cell? ⟨N+3,0,none⟩=some (zi 0):=zc (hcd.keep xz (fun(e:N+3=D)=>zO)) rfl;have jg:=zh (show zw W (w7.putObj D (.deferred none))from(aU.out.trans (hcx.below aU.out.size fun b h=>by have:=HN.out;rcases h with h|h<;>omega)).trans (hcd.below (Nat.le_trans aU.out.size hcx.size) fun b (e:b=D)=>by have:=HN.out;omega));have HT0:=zh (And.intro t0 (And.intro t1 (And.intro t2 (And.intro t3 (And.intro t4 (And.intro t5 t6))))));clear hI hch hchL hK hD hk2 hk3 hn pW hc6 oo o8 pJ xz hcx hcd t0 t1 t2 t3 t4 t5 t6 uK;go_wp2_with fail;refine⟨zS,.inl ⟨_,_,rfl,run_takeDeferred HKD.out,?_⟩⟩
   obtain⟨t0,t1,t2,t3,t4,t5,t6⟩:=HT0.out;exact⟨.tuple #[.agg (vdA true (n:Int) none 0 0 none 0 0 none 0 0 0),zi 0],by simp[results,results13,go_sem,t0,t1,t2,t3,t4,t5,t6],none,0,none,0,none,0,rfl,SV.nilG _ _,jg.out⟩
  ·intro D pre C W' hD hX hch hK;obtain⟨fQ,s,g,X,As,cs,Bs,ds,Ds,es,rfl,h2,h3,h4,BK,h5,h6,h7,h8,h9,h10,h11,mV⟩:=hX;have hRR:(false,0+(fQ.filter rel).length+1,s,err s)=RR:=by
    obtain⟨t,ht⟩:=h2;rw[<-uK.out,<-ht,List.append_assoc];exact(zoW fQ 0 h3 h4 BK).symm
   subst hRR;have HK:=zh hK;have HD:=zh (show w5.heap.size=D from hD.symm);have hND:N+3<D:=by have:=uw.out;have:=HD.out;have:=gY.out;omega
   have hcd:=Chg.putObj W' D (.deferred none);refine wpIn_ret ?_;simp only[Exit.inBlock,Exit.then];refine⟨zS,.inl ⟨_,_,rfl,run_takeDeferred HK.out,?_⟩⟩;obtain⟨t0,t1,t2,t3,t4,t5⟩:=box6 (hcd.keep h10 (fun(e:N+2=D)=>zO));have t6:(W'.putObj D (.deferred none)).cell? ⟨N+3,0,none⟩=some (zi 0):=zc (hcd.keep h11 (fun(e:N+3=D)=>zO)) rfl;have hBF:zw W (W'.putObj D (.deferred none)):=h9.trans (hcd.below h9.size fun b (e:b=D)=>by have:=HN.out;omega);simp only[Nat.zero_add];exact⟨.tuple #[.agg (vdA false (((fQ.filter rel).length+1:Nat):Int) As s.cells.length cs Bs s.tin.length ds Ds s.tout.length es (err s)),zi 0],by simp[results,results13,go_sem,t0,t1,t2,t3,t4,t5,t6],As,cs,Bs,ds,Ds,es,rfl,mV.keep (fun _ _ _=>trivial) fun q h hlt=>hcd.block q hlt fun e=>by have h:g<=q:=h.1;have e:q=D:=e;have:=HD.out;omega,hBF⟩
 ·have ha1:(AD != 0)=true:=by simpa using ha
  have ha2:(AD==0)=false:=by simpa using ha
  have hRR:=HRR.out;rw[if_neg ha]at hRR;subst hRR;clear ha HRR;obtain⟨q0,q1,q2,q3,q4,q5⟩:=box6 nN.out;have cf:∀o,w2.frozen? ⟨N+2,o,none⟩=false:=fun o=>zf nN.out;obtain⟨w3,hw3,hh3,hc3⟩:=ztD (.bool false) (zi 0) zn zn zn (zi 0) nN.out;have hk3:=hc3.keep vg.out (fun e:N+3=N+2=>zO);have q6:w3.cell? ⟨N+3,0,none⟩=some (zi 0):=zc hk3 rfl;have cf3:∀o,w3.frozen? ⟨N+3,o,none⟩=false:=fun o=>zf hk3;obtain⟨w4,hw4,hc4,hh4⟩:=setU (o:=0) (zi AD) hk3;obtain⟨t0,t1,t2,t3,t4,t5⟩:=box6 (hc4.keep hh3 (fun e:N+2=N+3=>zO));have t6:w4.cell? ⟨N+3,0,none⟩=some (zi AD):=zc hh4 rfl;have jg:=zh (show zw W w4 from HB2.out.trans ((hc3.below HB2.out.size fun b (e:b=N+2)=>by have:=HN.out;omega).trans (hc4.below (Nat.le_trans HB2.out.size hc3.size) fun b (e:b=N+3)=>by have:=HN.out;omega)))
  clear hc3 hh3 hk3 hc4 hh4;go_wp2_with fail;exact⟨.tuple #[.agg (vdA false 0 none 0 0 none 0 0 none 0 0 0),zi AD],by simp[results,results13,go_sem,t0,t1,t2,t3,t4,t5,t6],none,0,none,0,none,0,rfl,SV.nilG _ _,jg.out⟩
end
section
open Go Go.RowKit
attribute [local go_sem] Oper.semAt_some
theorem zov(w:World)(S:Nat->Prop){k n:Int}{s:ByteArray}(hf:Fld k n s):NV w S (.nd k n s []) (nv k n s none 0 0):=NV.shut (ks:=[]) hf (by simp[LK]) zS fun i hi=>by simp at hi
theorem zMd{w:World}{S:Nat->Prop}{b:Nat}{E:TypeId}{t1:T}{k n k1 n1:Int}{s s1:ByteArray}{A1:Option Addr}{l1 c1:Nat}(hf:Fld k n s)(hS:S b)(hk:w.heap[b]?=some (.cells #[zj k1,zi n1,.string s1,.slice A1 l1 c1] E (0,0)))(h1:NV w S t1 (nv k1 n1 s1 A1 l1 c1)) :
  NV w S (.nd k n s [t1]) (nv k n s (some ⟨b,0,none⟩) 1 1):=by
 refine NV.shut (ks:=[t1]) hf (by simp[LK]) zS fun i hi=>?_
 match i,hi with
 | 0,_=>exact⟨⟨b,0,none⟩,_,_,_,_,rfl,hS,⟨zc hk rfl,zc hk rfl,zc hk rfl,zc hk rfl⟩,h1⟩
theorem zKJ{w:World}{S:Nat->Prop}{b:Nat}{E:TypeId}{t1 t2:T}{k n k1 n1 k2 n2:Int}{s s1 s2:ByteArray}{A1 A2:Option Addr}{l1 c1 l2 c2:Nat}(hf:Fld k n s)(hS:S b)(hk:w.heap[b]?=some (.cells #[zj k1,zi n1,.string s1,.slice A1 l1 c1,zj k2,zi n2,.string s2,.slice A2 l2 c2] E (0,0)))(h1:NV w S t1 (nv k1 n1 s1 A1 l1 c1))(h2:NV w S t2 (nv k2 n2 s2 A2 l2 c2)) :
  NV w S (.nd k n s [t1,t2]) (nv k n s (some ⟨b,0,none⟩) 2 2):=by
 refine NV.shut (ks:=[t1,t2]) hf (by simp[LK]) zS fun i hi=>?_
 match i,hi with
 | 0,_=>exact⟨⟨b,0,none⟩,_,_,_,_,rfl,hS,⟨zc hk rfl,zc hk rfl,zc hk rfl,zc hk rfl⟩,h1⟩
 | 1,_=>exact⟨⟨b,0,none⟩,_,_,_,_,rfl,hS,⟨zc hk rfl,zc hk rfl,zc hk rfl,zc hk rfl⟩,h2⟩
theorem fldG(k n:Int)(hk:0<=k/\k<256)(hn:I64 n):Fld k n ⟨#[]⟩:=⟨hk,hn,zY⟩
theorem zL4(a0 a1 a2 a3:Value)(w:World):(Instr.buildSlice 26 1 #[(0,.agg #[a0,a1,a2,a3])]).run prog w=.ok (.slice (some ⟨w.heap.size,0,none⟩) 1 1) (w.alloc (.cells #[a0,a1,a2,a3] 28)):=zK
theorem zLt(a0 a1 a2 a3 b0 b1 b2 b3:Value)(w:World):(Instr.buildSlice 26 2 #[(0,.agg #[a0,a1,a2,a3]),(1,.agg #[b0,b1,b2,b3])]).run prog w=.ok (.slice (some ⟨w.heap.size,0,none⟩) 2 2) (w.alloc (.cells #[a0,a1,a2,a3,b0,b1,b2,b3] 28)):=zK
theorem bNkG(k:Int)(A:Option Addr)(l c:Nat)(w:World):(Instr.build 28 #[(0,zj k),(3,.slice A l c)]).run prog w=.ok (nv k 0 ⟨#[]⟩ A l c) w:=zK
theorem bSVG(a0 a1 a2:Value)(w:World):(Instr.buildSlice 24 1 #[(0,.agg #[a0,a1,a2])]).run prog w=.ok (.slice (some ⟨w.heap.size,0,none⟩) 1 1) (w.alloc (.cells #[a0,a1,a2] 38)):=zK
theorem bVdG(s:ByteArray)(k:Int)(w:World):(Instr.build 38 #[(0,.string s),(1,zj k)]).run prog w=.ok (.agg #[.string s,zj k,zi 0]) w:=zK
theorem bPgG(A B:Option Addr)(l c m d:Nat)(k n:Int)(s:ByteArray)(w:World):(Instr.build 30 #[(0,.slice A l c),(2,nv k n s B m d)]).run prog w=.ok (pv A l c none 0 0 k n s B m d) w:=zK
abbrev xX:ByteArray:=⟨#[120]⟩
abbrev xO:ByteArray:=⟨#[]⟩
abbrev updT(k n:Int):T:=.nd k 0 xO [.nd 2 0 xX [],.nd 1 n xO []]
def updP(k n:Int):PG:=⟨[⟨xX,1,0⟩],[],.nd 57 0 xO [updT k n]⟩
theorem zux(s:ByteArray)(w:World):Calls prog 11 #[.string s] w (zu (nv 2 0 s none 0 0) w):=by
 have hb:∀w,(Instr.build 28 #[(0,zj 2),(2,.string s)]).run prog w=.ok (nv 2 0 s none 0 0) w:=fun w=>zK
 go_enter func11,ntmps11;go_wp2_with fail;exact bodyPost_ret (v:=nv 2 0 s none 0 0) (by simp[results,results11,go_sem]) rfl ⟨rfl,zkb zr _⟩
theorem zoN(n:Int)(w:World):Calls prog 12 #[zi n] w (zu (nv 1 n xO none 0 0) w):=by
 have hb:∀w,(Instr.build 28 #[(0,zj 1),(1,zi n)]).run prog w=.ok (nv 1 n xO none 0 0) w:=fun w=>zK
 go_enter func12,ntmps12;go_wp2_with fail;exact bodyPost_ret (v:=nv 1 n xO none 0 0) (by simp[results,results12,go_sem]) rfl ⟨rfl,zkb zr _⟩
theorem znO(k n:Int)(hk:0<=k/\k<256)(hn:I64 n)(w:World):Calls prog 21 #[zj k,zi n] w fun e w'=>∃v,e=.returned v/\PV w' Any (updP k n) v/\zw w w':=by
 have h1:=zL4;have h2:=zLt;have h3:=bNkG;have h4:=bSVG;have h5:=bVdG;have h6:=bPgG;have HKN:=zh (And.intro hk hn);obtain⟨N,hN⟩:=zX (w.heap.size);have HN:=zh hN;clear hk hn;have k0:=heap_alloc_new w (.cells #[zn,zn,zj 0,zi 0,.string xO,zn] 30);have hb0:=zkb (zs w) (.cells #[zn,zn,zj 0,zi 0,.string xO,zn] 30);rw[hN]at k0;have HB0:=zh hb0;have aG:=zh k0;clear k0 hb0;go_enter func21,ntmps21;go_upto_region 1 with fail;obtain⟨w1,hw1⟩:=zX (w.alloc (.cells #[zn,zn,zj 0,zi 0,.string xO,zn] 30));rw[hw1]at HB0 aG
 try rw[hw1]
 try rw[hN]
 clear hw1 hN;go_wp2_with fail;refine(zux _ _).mono ?_;rintro e w2 ⟨rfl,hb2⟩;have HB2:=zh hb2;clear hb2;go_wp2_with fail;refine(zoN _ _).mono ?_;rintro e w3 ⟨rfl,hb3⟩;have HB3:=zh (zka HB2.out hb3);clear hb3;go_upto_region 2 with fail;obtain⟨M,hM⟩:=zX (w3.heap.size);obtain⟨w4,hw4⟩:=zX ((w3.alloc (.cells #[zj 2,zi 0,.string xX,zn,zj 1,zi n,.string xO,zn] 28)).alloc (.cells #[zj k,zi 0,.string xO,.slice (some ⟨M,0,none⟩) 2 2] 28));have hb4:zw w3 w4:=by rw[<-hw4];exact zkb (zkb zr _) _
 have lZ:w4.heap.size=M+2:=by rw[<-hw4];simp[hM]
 have hm4:w4.heap[M]?=some (.cells #[zj 2,zi 0,.string xX,zn,zj 1,zi n,.string xO,zn] 28 (0,0)):=by rw[<-hw4,<-hM];exact zkd (heap_alloc_new w3 _) _
 have sF:w4.heap[M+1]?=some (.cells #[zj k,zi 0,.string xO,.slice (some ⟨M,0,none⟩) 2 2] 28 (0,0)):=by rw[<-hw4];exact zpc _ (by simp[hM]) _
 have hk4:=zkc (zkc aG.out HB3.out) hb4;have hNM:N<M:=by rw[<-hM];exact zkf (zkc aG.out HB3.out)
 rw[hM];rw[hw4];have hb5:=zkb (zs w4) (.cells #[.string xX,zj 1,zi 0] 38);have hb6:=zkb hb5 (.cells #[zj k,zi 0,.string xO,.slice (some ⟨M,0,none⟩) 2 2] 28);have hv6:=zkd (heap_alloc_new w4 (.cells #[.string xX,zj 1,zi 0] 38)) (.cells #[zj k,zi 0,.string xO,.slice (some ⟨M,0,none⟩) 2 2] 28);have iB:=heap_alloc_new (w4.alloc (.cells #[.string xX,zj 1,zi 0] 38)) (.cells #[zj k,zi 0,.string xO,.slice (some ⟨M,0,none⟩) 2 2] 28);rw[World.size_alloc]at iB;have Be:=zkc hm4 hb6;have bG:=zkc hk4 hb6;obtain⟨x0,x1,x2,x3⟩:=box4 (zkc sF hb5);obtain⟨w6,mh⟩:=zX ((w4.alloc (.cells #[.string xX,zj 1,zi 0] 38)).alloc (.cells #[zj k,zi 0,.string xO,.slice (some ⟨M,0,none⟩) 2 2] 28));obtain⟨z0,z1,z2,z3⟩:=box4 sF;rw[lZ]at hv6 iB
 have qE:(w4.alloc (.cells #[.string xX,zj 1,zi 0] 38)).heap.size=M+3:=by simp[lZ]
 rw[mh]at hb6 hv6 iB Be bG;obtain⟨w7,hw7,xz,pJ⟩:=ztD (.slice (some ⟨M+2,0,none⟩) 1 1) zn (zj 57) (zi 0) (.string xO) (.slice (some ⟨M+2+1,0,none⟩) 1 1) bG;obtain⟨q0,q1,q2,q3,q4,q5⟩:=box6 bG;have cf:∀o,w6.frozen? ⟨N,o,none⟩=false:=fun o=>zf bG;have hv7:=pJ.keep hv6 (fun e:M+2=N=>zO);have qH:=pJ.keep iB (fun e:M+2+1=N=>zO);have hm7:=pJ.keep Be (fun e:M=N=>zO);have yh:=zh (show NV w7 Any (updP k n).m (nv 57 0 xO (some ⟨M+2+1,0,none⟩) 1 1)from zMd (fldG 57 0 zY ⟨zY,zY⟩) trivial qH (zKJ (fldG k 0 HKN.out.1 ⟨zY,zY⟩) trivial hm7 (zov _ Any ⟨zY,zY,zY⟩) (zov _ Any (fldG 1 n zY HKN.out.2))));have Ct:=zh hv7
 have Cj:=zh (show PV w7 Any (updP k n) (pv (some ⟨M+2,0,none⟩) 1 1 none 0 0 57 0 xO (some ⟨M+2+1,0,none⟩) 1 1)from⟨some ⟨M+2,0,none⟩,1,none,0,some ⟨M+2+1,0,none⟩,1,rfl,⟨fun i hi=>by
   obtain rfl:i=0:=by simp[updP]at hi;omega
   exact⟨⟨M+2,0,none⟩,rfl,trivial,⟨zc Ct.out rfl,zc Ct.out rfl,zc Ct.out rfl⟩,show FldV ⟨xX,1,0⟩from⟨zY,zY,zY⟩⟩,show(1:Nat)<=LV by decide,show(1:Nat)<=1 by decide,fun i hi=>by simp[updP]at hi,show(0:Nat)<=LV by decide,show(0:Nat)<=0 by decide,yh.out⟩⟩)
 have jg:=zh (show zw w w7 from(zka HB0.out (zka HB3.out (zka hb4 hb6))).trans (pJ.below (zka HB0.out (zka HB3.out (zka hb4 hb6))).size fun b (e:b=N)=>by have:=HN.out;omega));obtain⟨t0,t1,t2,t3,t4,t5⟩:=box6 xz;clear hb5 hb6 hv6 iB Be bG xz pJ hv7 qH hm7 hm4 sF hk4 hb4;go_wp2_with fail;exact bodyPost_ret (v:=pv (some ⟨M+2,0,none⟩) 1 1 none 0 0 57 0 xO (some ⟨M+2+1,0,none⟩) 1 1) (by simp[results,results21,go_sem,t0,t1,t2,t3,t4,t5]) rfl ⟨_,rfl,Cj.out,jg.out⟩
end
section
open Go Go.RowKit
attribute [local go_sem] Oper.semAt_some
theorem zvX(a b:List VD):eqVs a b=eqVs b a:=by
 rw[Bool.eq_iff_iff,zmD,zmD];exact eq_comm
theorem zoG{W:World}{e:EX}{q:PG}{ev qv:Value}(he:EV W Any e ev)(hq:PV W Any q qv) :
  Calls prog 10 #[ev,qv] W (zu (zi (admE e q)) W):=by
 have lq:=zh (fun w' (hb:zw W w')=>he.later hb);have HQ:=zh (fun w' (hb:zw W w')=>hq.later hb);obtain⟨A1,c1,A2,c2,A3,c3,rfl,hg,hI⟩:=he;obtain⟨D1,e1,D2,e2,D3,e3,rfl,jr⟩:=hq;have hb2:=zkb (zkb (zs W) (.cells (exA e A1 c1 A2 c2 A3 c3) 32)) (.cells (pgA q D1 e1 D2 e2 D3 e3) 30);have k0:=zkd (heap_alloc_new W (.cells (exA e A1 c1 A2 c2 A3 c3) 32)) (.cells (pgA q D1 e1 D2 e2 D3 e3) 30);have k1:=heap_alloc_new (W.alloc (.cells (exA e A1 c1 A2 c2 A3 c3) 32)) (.cells (pgA q D1 e1 D2 e2 D3 e3) 30);rw[World.size_alloc]at k1;obtain⟨w2,hw2⟩:=zX ((W.alloc (.cells (exA e A1 c1 A2 c2 A3 c3) 32)).alloc (.cells (pgA q D1 e1 D2 e2 D3 e3) 30));obtain⟨N,hN⟩:=zX (W.heap.size);rw[hw2]at hb2 k0 k1;rw[hN]at k0 k1;have HB:=zh hb2;have dD:=zh (fun w' (h:zw w2 w')=>zo3 (zkc k0 h));have dx:=zh (fun w' (h:zw w2 w')=>box6 (zkc k1 h))
 have bT:=zh (zs w2);have uy:=zh (zo2 e _ w2 (lq.out _ hb2));have bJ:=zh (fun w' (h:zw w2 w')=>zrC (HQ.out _ (zka hb2 h)));have dG:=zh (fun w' (h:zw w2 w')=>zlN q Any _ w' (HQ.out _ (zka hb2 h)));have gZ:=zh (fun w' (h:zw w2 w')=>zlV q Any _ w' (HQ.out _ (zka hb2 h)));have ik:=zh (fun w' (h:zw w2 w')=>zyw (W:=w') (c:=c1) (d:=e1) ((hg.vars.later hb2).later h) ((jr.vars.later hb2).later h) hg.lv jr.lv);obtain⟨VX,mO⟩:=zX (zk3 e);obtain⟨AD,iW⟩:=zX (admE e q);have HAD:=zh iW;have jJ:=zh mO;rw[iW];rw[mO]at uy;clear hb2 k0 k1 hg jr mO iW hI;obtain⟨x0,x1,x2,x3,x4,x5,x6,x7,x8,x9,aK,aJ⟩:=dD.out _ bT.out;obtain⟨q0,q1,q2,q3,q4,q5⟩:=dx.out _ bT.out;go_enter func10,ntmps10;go_upto_region 1 with fail
 try rw[hw2]
 try rw[hN]
 clear hw2 hN;go_wp2_with fail;refine uy.out.mono ?_;rintro en w3 ⟨rfl,hb3⟩;have aZ:=zh (zka bT.out hb3);clear x0 x1 x2 x3 x4 x5 x6 x7 x8 x9 aK aJ q0 q1 q2 q3 q4 q5 hb3 uy;obtain⟨x0,x1,x2,x3,x4,x5,x6,x7,x8,x9,aK,aJ⟩:=dD.out _ aZ.out;obtain⟨q0,q1,q2,q3,q4,q5⟩:=dx.out _ aZ.out
 cases VX
 ·have HF:=zh (show admE e q=1 by unfold admE;rw[jJ.out];rfl);go_wp2_with fail;go_ret;exact⟨by rw[<-HAD.out,HF.out];rfl,zka HB.out aZ.out⟩
 have nX:=zh (show admE e q=admP e.gv.vs q by unfold admE;rw[jJ.out];rfl);go_wp2_with fail;refine(dG.out _ aZ.out).mono ?_;rintro en w5 ⟨rfl,hb5⟩;have bK:=zh (zka aZ.out hb5);clear x0 x1 x2 x3 x4 x5 x6 x7 x8 x9 aK aJ q0 q1 q2 q3 q4 q5 hb5 dG;obtain⟨x0,x1,x2,x3,x4,x5,x6,x7,x8,x9,aK,aJ⟩:=dD.out _ bK.out;obtain⟨q0,q1,q2,q3,q4,q5⟩:=dx.out _ bK.out;obtain⟨VB,tQ⟩:=zX (zkx q);have bg:=zh tQ;rw[tQ];clear tQ
 cases VB
 ·have HF:=zh (show admE e q=3 by rw[nX.out];unfold admP;rw[bg.out];rfl);go_wp2_with fail;go_ret;exact⟨by rw[<-HAD.out,HF.out];rfl,zka HB.out bK.out⟩
 have tY:=gZ.out _ bK.out;rw[if_pos bg.out]at tY;have nD:=zh tY;clear tY gZ;go_wp2_with fail;refine nD.out.mono ?_;rintro en w6 ⟨B0,d0,rfl,hb6⟩;have fG:=zh (zka bK.out hb6);clear x0 x1 x2 x3 x4 x5 x6 x7 x8 x9 aK aJ q0 q1 q2 q3 q4 q5 hb6 nD;obtain⟨x0,x1,x2,x3,x4,x5,x6,x7,x8,x9,aK,aJ⟩:=dD.out _ fG.out;obtain⟨q0,q1,q2,q3,q4,q5⟩:=dx.out _ fG.out;obtain⟨CN,iH⟩:=zX (chkN q);have lC:=zh iH;rw[iH];clear iH;by_cases hc:CN=0
 ·have hz1:decide ((CN:Int)>0)=false:=by simp;omega
  have hz2:decide (0<CN)=false:=by simp;omega
  have ru:=zh (lC.out.trans hc);clear hc;go_wp2_with fail;refine(bJ.out _ fG.out).mono ?_;rintro en w4 ⟨R,n,c,rfl,hR,hb4⟩;have bL:=zh (zka fG.out hb4);clear x0 x1 x2 x3 x4 x5 x6 x7 x8 x9 aK aJ q0 q1 q2 q3 q4 q5 hb4;obtain⟨x0,x1,x2,x3,x4,x5,x6,x7,x8,x9,aK,aJ⟩:=dD.out _ bL.out;obtain⟨q0,q1,q2,q3,q4,q5⟩:=dx.out _ bL.out;obtain⟨hn,hcell⟩:=hR ⟨bg.out,ru.out⟩;have yg:=zh hn;clear hn hR;by_cases hz:n=0
  ·have xE:=zh (yg.out.symm.trans hz);have hz3:decide ((n:Int)>0)=false:=by simp;omega
   have lZ:decide (0<n)=false:=by simp;omega
   clear hz hcell;go_wp2_with fail;refine(ik.out _ bL.out).mono ?_;rintro en w7 ⟨rfl,eF⟩;have il:=zh (zka bL.out eF);obtain⟨EQ,uh⟩:=zX (eqVs e.gv.vs q.vs);have HE:=zh (show eqVs q.vs e.gv.vs=EQ by rw[zvX,uh]);rw[uh];clear uh
   cases EQ
   ·have HF:=zh (show admE e q=7 by rw[nX.out];unfold admP;rw[bg.out,ru.out,xE.out,HE.out];rfl);go_wp2_with fail;go_ret;exact⟨by rw[<-HAD.out,HF.out];rfl,zka HB.out il.out⟩
   ·have HF:=zh (show admE e q=0 by rw[nX.out];unfold admP;rw[bg.out,ru.out,xE.out,HE.out];rfl);go_wp2_with fail;go_ret;exact⟨by rw[<-HAD.out,HF.out];rfl,zka HB.out il.out⟩
  ·obtain⟨g,rfl,sZ⟩:=hcell hz;have hz3:decide ((n:Int)>0)=true:=by simp;omega
   have lZ:decide (0<n)=true:=by simp;omega
   have HF:=zh (show admE e q=(rjA q).headD 0 by rw[nX.out];unfold admP;rw[bg.out,ru.out,if_pos rfl,if_pos rfl,if_neg (fun h=>hz (yg.out.trans h))]);obtain⟨HD,xL⟩:=zX ((rjA q).headD 0);rw[xL]at HF sZ;clear xL;go_wp2_with fail;go_ret;exact⟨by rw[<-HAD.out,HF.out];rfl,zka HB.out bL.out⟩
 ·have hz1:decide ((CN:Int)>0)=true:=by simp;omega
  have hz2:decide (0<CN)=true:=by simp;omega
  have HF:=zh (show admE e q=3 by rw[nX.out];unfold admP;rw[bg.out,lC.out,if_pos rfl,if_neg hc]);go_wp2_with fail;go_ret;exact⟨by rw[<-HAD.out,HF.out];rfl,zka HB.out fG.out⟩
end
section
open Go Go.RowKit
attribute [local go_sem] Oper.semAt_some
abbrev xInc:ByteArray:=⟨#[105,110,99]⟩
def gxE:EX:=⟨xInc,5,9,⟨2,0,0⟩,updP 40 1⟩
theorem zvA:allS gxE.bx (lenE gxE.gv.vs gxE.bx)=[⟨[[0]],[],[]⟩,⟨[[1]],[],[]⟩,⟨[[-1]],[],[]⟩,⟨[[2]],[],[]⟩,⟨[[-2]],[],[]⟩]:=zK
theorem gx_a:admE gxE (updP 41 1)=0:=zK
theorem gx_b:admE gxE (updP 41 2)=0:=zK
theorem zLZ:grdE gxE (updP 41 1)=(true,5,nilS,0):=by unfold grdE;rw[zvA];kernel_rfl
def gxS:SS:=⟨[[0]],[],[]⟩
theorem zLY:grdE gxE (updP 41 2)=(false,1,gxS,0):=by unfold grdE;rw[zvA];kernel_rfl
theorem zL0(q:PG)(h:admE gxE q=0):(gxE.bx.ok&&svB gxE.gv.vs)=true/\(allS gxE.bx (lenE gxE.gv.vs gxE.bx)).length<=1000000/\gxE.fu<=1000000:=⟨zK,by rw[zvA];decide,zY⟩
theorem zL9(n:Int)(w:World):(Instr.build 23 #[(0,zi n)]).run prog w=.ok (.agg #[zi n,zi 0,zi 0]) w:=zK
theorem bExK(s t:ByteArray)(a b x y z:Int)(A B D:Option Addr)(l c m d j e:Nat)(k n:Int)(w:World):(Instr.build 32 #[(0,.string s),(1,zi a),(2,zi b),(3,.agg #[zi x,zi y,zi z]),(4,pv A l c B m d k n t D j e)]).run prog w=.ok (.agg #[.string s,zi a,zi b,zi x,zi y,zi z,.slice A l c,.slice B m d,zj k,zi n,.string t,.slice D j e]) w:=zK
theorem zLd:IsFn prog 21 Tryz.f21:=⟨func21,zK,zK⟩
theorem zLh:IsFn prog 13 f13:=⟨func13,zK,zK⟩
abbrev AlK(w0:World)(Z:Array Value)(E:TypeId)(u:Value)(w:World):Prop:=∃b,u=.pointer (some ⟨b,0,none⟩)/\w0.heap.size<=b/\w.heap[b]?=some (.cells Z E (0,0))
abbrev nzVd:Array Value := #[.bool false,zi 0,zn,zn,zn,zi 0]
def VdF(r:Bool×Nat×SS×Int)(v:Value):Prop:=∃A c B d D e,v=.tuple #[.agg (vdA r.1 (r.2.1:Int) A r.2.2.1.cells.length c B r.2.2.1.tin.length d D r.2.2.1.tout.length e r.2.2.2),zi 0]
theorem zta{w:World}{q:PG}{ev qv:Value}(he:EV w Any gxE ev)(hq:PV w Any q qv)(h:admE gxE q=0){r:Bool×Nat×SS×Int}(hr:grdE gxE q=r) :
  Calls prog 13 #[ev,qv] w fun e w'=>∃v,e=.returned v/\(VdF r v/\zw w w'):=by
 have:=zrz he hq (zL0 q);rw[if_pos h,hr,h]at this;exact this.mono fun e w' ⟨A,c,B,d,D,e',h1,_,h3⟩=>⟨_,h1,⟨A,c,B,d,D,e',rfl⟩,h3⟩
theorem zlD(w:World):Calls prog 8 #[] w (zu (.bool true) w):=by
 have h1:=zL9;have h2:=bExK;go_enter func8,ntmps8;go_wp2_with fail;refine(znO 40 1 zY ⟨zY,zY⟩ _).mono ?_;rintro en w1 ⟨v,rfl,hpv,hb1⟩;obtain⟨A1,c1,A2,c2,A3,c3,rfl,gu⟩:=hpv;have HB1:=zh hb1;have yc:=zh gu;clear gu hb1;go_upto_region 2 with fail;have hb2:zw w1 (w1.alloc (.cells (exA gxE A1 c1 A2 c2 A3 c3) 32)):=zkb (zs w1) _;have k2:=heap_alloc_new w1 (.cells (exA gxE A1 c1 A2 c2 A3 c3) 32);obtain⟨w2,hw2⟩:=zX (w1.alloc (.cells #[.string xInc,zi 5,zi 9,zi 2,zi 0,zi 0,.slice A1 (updP 40 1).vs.length c1,.slice A2 (updP 40 1).prs.length c2,zj (updP 40 1).m.k,zi (updP 40 1).m.n,.string (updP 40 1).m.s,.slice A3 (updP 40 1).m.ks.length c3] 32));have hw2':w1.alloc (.cells (exA gxE A1 c1 A2 c2 A3 c3) 32)=w2:=hw2;obtain⟨E0,hE0⟩:=zX (w1.heap.size);rw[hw2']at hb2 k2;rw[hw2,hE0];rw[hE0]at k2
 have HB2:=zh (zka HB1.out hb2);have lq:=zh (fun w' (h:zw w2 w')=>(show EV w' Any gxE (.agg (exA gxE A1 c1 A2 c2 A3 c3))from⟨A1,c1,A2,c2,A3,c3,rfl,(yc.out.later hb2).later h,show I64 9 from⟨zY,zY⟩⟩));have HEC:=zh (fun w' (h:zw w2 w')=>zo3 (zkc k2 h));have HR2:=zh (zs w2);clear hb2 k2 hw2 hw2' hE0 h1 h2;have az:=zh (show ∀w',zw w2 w'->(fun w':World=>exS w' E0 gxE A1 c1 A2 c2 A3 c3) w' from fun w' hb=>HEC.out _ (zka HR2.out hb));have hSS:zW (fun w':World=>exS w' E0 gxE A1 c1 A2 c2 A3 c3) zU w2.drew:=⟨az.out _ zr.drew,trivial⟩
 refine wp_region_noPanic ?_;refine zG hSS 20 ?_;refine zT 0 hSS ?_;have hI:(fun w=>zw w2 w) w2.drew:=zr.drew;clear hSS;refine zp3 (i:=1) (j:=6) (some 11) (some 2) 6 (fun li l4 => #[true,li,false,false,false,false,l4,false,false]) _ (fun w=>zw w2 w) (AlK w2 (nzVd) 46) (fun v w=>PV w Any (updP 41 1) v) rfl rfl rfl rfl zK zK (fun l4=>by cases l4<;>rfl) rfl (fun w h=>⟨az.out _ h,trivial⟩) (fun w w' h hb=>?_) (fun u w w' h hb=>?_) (fun v4 K w h ak=>?_) (fun v4 K w h ak=>?_) (fun u v=>?_) (fun l4 v4 v wc h hF hA hU=>?_) false undef w2.drew hI (fun h=>by cases h) (fun _=>rfl) ?_
 ·exact zka h hb
 ·obtain⟨b,e1,e2,e3⟩:=h;exact⟨b,e1,e2,zkc e3 hb⟩
 ·have hK:=zh ak;clear ak;have had:Calls prog 21 [zj 41,zi 1].toArray w fun e w'=>∃v,e=.returned v/\(PV w' Any (updP 41 1) v/\zw w w'):=znO 41 1 zY ⟨zY,zY⟩ w;refine zke zR (.func 21) [.const (zj 41),.const (zi 1)] _ zR 21 _ zLd zR _ zR _ had ?_;rintro v w' ⟨hv,hb⟩;exact hK.out _ _ hb hv
 ·have hK:=zh ak;clear ak;(try simp only[zQ]);(try simp only[zA,zB,zC]);go_simp;exact hK.out _ _ (zkb zr _) ⟨_,rfl,h.size,heap_alloc_new w _⟩
 ·simp only[Act.put,zD,zE,zF]
 rotate_left 1
 ·simp only[Act.put,zD,zE,zF]
 (try simp only[zQ]);clear hI;have hI:(fun w=>zw w2 w/\PV w Any (updP 41 1) v) wc:=⟨h,hF⟩
 have xM:=hA;have tT:=hU;clear hA hU;refine zp3 (i:=2) (j:=6) (some 12) (some 2) 5 (fun li l4 => #[true,true,li,false,false,false,l4,false,false]) _ (fun w=>zw w2 w/\PV w Any (updP 41 1) v) (AlK w2 (nzVd) 46) (fun v w=>VdF (true,5,nilS,0) v) rfl rfl rfl rfl zK zK (fun l4=>by cases l4<;>rfl) rfl (fun w h=>⟨az.out _ h.1,trivial⟩) (fun w w' h hb=>?_) (fun u w w' h hb=>?_) (fun v4 K w h ak=>?_) (fun v4 K w h ak=>?_) (fun u v=>?_) (fun l4 v4 vv wc h hF hA hU=>?_) l4 v4 wc hI xM tT ?_
 ·exact⟨zka h.1 hb,h.2.later hb⟩
 ·obtain⟨b,e1,e2,e3⟩:=h;exact⟨b,e1,e2,zkc e3 hb⟩
 ·have hK:=zh ak;clear ak;have had:=zta (lq.out _ (zka HR2.out h.1)) h.2 gx_a zLZ;refine zke zR (.func 13) [.tmp 10,.tmp 11] _ zR 13 _ zLh zR [.agg (exA gxE A1 c1 A2 c2 A3 c3),v] zR _ had ?_;rintro v w' ⟨hv,hb⟩;exact hK.out _ _ hb hv
 ·have hK:=zh ak;clear ak;(try simp only[zQ]);(try simp only[zA,zB,zC]);go_simp;exact hK.out _ _ (zkb zr _) ⟨_,rfl,h.1.size,heap_alloc_new w _⟩
 ·simp only[Act.put,zD,zE,zF]
 rotate_left 1
 ·simp only[Act.put,zD,zE,zF]
 (try simp only[zQ]);obtain⟨Ag,cg,Bg,dg,Dg,eg,rfl⟩:=hF;clear hI;have hSS:zW (fun w':World=>exS w' E0 gxE A1 c1 A2 c2 A3 c3) zU wc:=⟨az.out _ h.1,trivial⟩
 have hI:(fun w=>zw w2 w) wc:=h.1;clear h xM tT;rw[Nat.add_comm 5];refine zkr (i:=3) (v:=?_) rfl zK (by cases l4<;>kernel_rfl) (by cases l4<;>kernel_rfl) zY (fun _ _ _ h=>h) (Or.inl ⟨zR,?_⟩) hSS ?_;rotate_left 1
 ·(intro w hSw;(try dsimp only at hSw);(try simp only[zA,zB,zC]);go_simp;(try with_reducible rfl))
 (try simp only[zQ]);refine zkr (i:=4) (v:=?_) rfl zK (by cases l4<;>kernel_rfl) (by cases l4<;>kernel_rfl) zY (fun _ _ _ h=>h) (Or.inl ⟨zR,?_⟩) hSS ?_;rotate_left 1
 ·(intro w hSw;(try dsimp only at hSw);(try simp only[zA,zB,zC]);go_simp;(try with_reducible rfl))
 (try simp only[zQ]);refine zkr (i:=5) (v:=?_) rfl zK (by cases l4<;>kernel_rfl) (by cases l4<;>kernel_rfl) zY (fun _ _ _ h=>h) (Or.inl ⟨zR,?_⟩) hSS ?_;rotate_left 1
 ·(intro w hSw;(try dsimp only at hSw);(try simp only[zA,zB,zC]);go_simp;(try with_reducible rfl))
 (try simp only[zQ]);rw[Nat.add_comm (Bool.toNat _) 2];clear hSS;refine zsA (j:=6) (some 2) 2 (fun l4 => #[true,true,true,true,true,true,l4,false,false]) _ (fun w=>zw w2 w) (AlK w2 (nzVd) 46) rfl rfl zK rfl (fun w h=>⟨az.out _ h,trivial⟩) (fun w w' h hb=>zka h hb) (fun v4 K w h ak=>?_) (fun u v=>?_) (fun v5 w5 h5 BJ=>?_) l4 v4 wc hI hA ?_
 ·have hb0:=h;have hK:=zh ak;clear ak;(try simp only[zQ]);(try simp only[zA,zB,zC]);go_simp;exact hK.out _ _ (zkb zr _) ⟨_,rfl,hb0.size,heap_alloc_new w _⟩
 ·simp only[Act.put,zD,zE,zF]
 rotate_left 1
 ·simp only[Act.put,zD,zE,zF]
 (try simp only[zQ]);clear hI hA hU;obtain⟨ab,rfl,hbl,hbz⟩:=BJ;obtain⟨q0,q1,q2,q3,q4,q5⟩:=box6 hbz;have cf:∀o,w5.frozen? ⟨ab,o,none⟩=false:=fun _=>zf hbz;obtain⟨w6,wY,xx,hcy⟩:=ztD (.bool (true,5,nilS,0).1) (zi ((true,5,nilS,0).2.1:Int)) (.slice Ag (true,5,nilS,0).2.2.1.cells.length cg) (.slice Bg (true,5,nilS,0).2.2.1.tin.length dg) (.slice Dg (true,5,nilS,0).2.2.1.tout.length eg) (zi (true,5,nilS,0).2.2.2) hbz;have hby:zw w2 w6:=h5.trans (hcy.below h5.size fun b (e:b=ab)=>zO);have tV:zW (fun w':World=>exS w' E0 gxE A1 c1 A2 c2 A3 c3) zU w6:=⟨az.out _ hby,trivial⟩
 have dG:=zh xx;have dZ:=zh (zka HR2.out hby);have HB26:=zh hby;refine zo 7 fun K hK=>?_;(try simp only[zA,zB,zC]);go_simp;refine hK.out _ _ tV ?_;clear hK K q0 q1 q2 q3 q4 q5 cf wY xx hcy hby h5 hbz;(try simp only[zQ]);refine zT 8 tV ?_;refine zd ?_;refine NoPanic.normal ?_;clear tV az;go_upto_region 3 with fail;have uB:=zh (show w6.heap[ab]?=some (.cells #[.bool true,zi 5,.slice Ag 0 cg,.slice Bg 0 dg,.slice Dg 0 eg,zi 0] 46 (0,0))from dG.out);clear dG;have az:=zh (show ∀w',zw w6 w'->(fun w':World=>exS w' E0 gxE A1 c1 A2 c2 A3 c3) w' from fun w' hb=>HEC.out _ (zka dZ.out hb));have hSS:zW (fun w':World=>exS w' E0 gxE A1 c1 A2 c2 A3 c3) zU w6.drew:=⟨az.out _ zr.drew,trivial⟩
 refine wp_region_noPanic ?_;refine zG hSS 20 ?_;refine zT 0 hSS ?_;have hI:(fun w=>zw w6 w) w6.drew:=zr.drew;clear hSS;refine zp3 (i:=1) (j:=6) (some 17) (some 4) 6 (fun li l4 => #[true,li,false,false,false,false,l4,false,false]) _ (fun w=>zw w6 w) (AlK w6 (nzVd) 46) (fun v w=>PV w Any (updP 41 2) v) rfl rfl rfl rfl zK zK (fun l4=>by cases l4<;>rfl) rfl (fun w h=>⟨az.out _ h,trivial⟩) (fun w w' h hb=>?_) (fun u w w' h hb=>?_) (fun v4 K w h ak=>?_) (fun v4 K w h ak=>?_) (fun u v=>?_) (fun l4 v4 v wc h hF hA hU=>?_) false undef w6.drew hI (fun h=>by cases h) (fun _=>rfl) ?_
 ·exact zka h hb
 ·obtain⟨b,e1,e2,e3⟩:=h;exact⟨b,e1,e2,zkc e3 hb⟩
 ·have hK:=zh ak;clear ak;have had:Calls prog 21 [zj 41,zi 2].toArray w fun e w'=>∃v,e=.returned v/\(PV w' Any (updP 41 2) v/\zw w w'):=znO 41 2 zY ⟨zY,zY⟩ w;refine zke zR (.func 21) [.const (zj 41),.const (zi 2)] _ zR 21 _ zLd zR _ zR _ had ?_;rintro v w' ⟨hv,hb⟩;exact hK.out _ _ hb hv
 ·have hK:=zh ak;clear ak;(try simp only[zQ]);(try simp only[zA,zB,zC]);go_simp;exact hK.out _ _ (zkb zr _) ⟨_,rfl,h.size,heap_alloc_new w _⟩
 ·simp only[Act.put,zD,zE,zF]
 rotate_left 1
 ·simp only[Act.put,zD,zE,zF]
 (try simp only[zQ]);clear hI;have hI:(fun w=>zw w6 w/\PV w Any (updP 41 2) v) wc:=⟨h,hF⟩
 have xM:=hA;have tT:=hU;clear hA hU;refine zp3 (i:=2) (j:=6) (some 18) (some 4) 5 (fun li l4 => #[true,true,li,false,false,false,l4,false,false]) _ (fun w=>zw w6 w/\PV w Any (updP 41 2) v) (AlK w6 (nzVd) 46) (fun v w=>VdF (false,1,gxS,0) v) rfl rfl rfl rfl zK zK (fun l4=>by cases l4<;>rfl) rfl (fun w h=>⟨az.out _ h.1,trivial⟩) (fun w w' h hb=>?_) (fun u w w' h hb=>?_) (fun v4 K w h ak=>?_) (fun v4 K w h ak=>?_) (fun u v=>?_) (fun l4 v4 vv wc h hF hA hU=>?_) l4 v4 wc hI xM tT ?_
 ·exact⟨zka h.1 hb,h.2.later hb⟩
 ·obtain⟨b,e1,e2,e3⟩:=h;exact⟨b,e1,e2,zkc e3 hb⟩
 ·have hK:=zh ak;clear ak;have had:=zta (lq.out _ (zka dZ.out h.1)) h.2 gx_b zLY;refine zke zR (.func 13) [.tmp 16,.tmp 17] _ zR 13 _ zLh zR [.agg (exA gxE A1 c1 A2 c2 A3 c3),v] zR _ had ?_;rintro v w' ⟨hv,hb⟩;exact hK.out _ _ hb hv
 ·have hK:=zh ak;clear ak;(try simp only[zQ]);(try simp only[zA,zB,zC]);go_simp;exact hK.out _ _ (zkb zr _) ⟨_,rfl,h.1.size,heap_alloc_new w _⟩
 ·simp only[Act.put,zD,zE,zF]
 rotate_left 1
 ·simp only[Act.put,zD,zE,zF]
 (try simp only[zQ]);obtain⟨Ag,cg,Bg,dg,Dg,eg,rfl⟩:=hF;clear hI;have hSS:zW (fun w':World=>exS w' E0 gxE A1 c1 A2 c2 A3 c3) zU wc:=⟨az.out _ h.1,trivial⟩
 have hI:(fun w=>zw w6 w) wc:=h.1;clear h xM tT;rw[Nat.add_comm 5];refine zkr (i:=3) (v:=?_) rfl zK (by cases l4<;>kernel_rfl) (by cases l4<;>kernel_rfl) zY (fun _ _ _ h=>h) (Or.inl ⟨zR,?_⟩) hSS ?_;rotate_left 1
 ·(intro w hSw;(try dsimp only at hSw);(try simp only[zA,zB,zC]);go_simp;(try with_reducible rfl))
 (try simp only[zQ]);refine zkr (i:=4) (v:=?_) rfl zK (by cases l4<;>kernel_rfl) (by cases l4<;>kernel_rfl) zY (fun _ _ _ h=>h) (Or.inl ⟨zR,?_⟩) hSS ?_;rotate_left 1
 ·(intro w hSw;(try dsimp only at hSw);(try simp only[zA,zB,zC]);go_simp;(try with_reducible rfl))
 (try simp only[zQ]);refine zkr (i:=5) (v:=?_) rfl zK (by cases l4<;>kernel_rfl) (by cases l4<;>kernel_rfl) zY (fun _ _ _ h=>h) (Or.inl ⟨zR,?_⟩) hSS ?_;rotate_left 1
 ·(intro w hSw;(try dsimp only at hSw);(try simp only[zA,zB,zC]);go_simp;(try with_reducible rfl))
 (try simp only[zQ]);rw[Nat.add_comm (Bool.toNat _) 2];clear hSS;refine zsA (j:=6) (some 4) 2 (fun l4 => #[true,true,true,true,true,true,l4,false,false]) _ (fun w=>zw w6 w) (AlK w6 (nzVd) 46) rfl rfl zK rfl (fun w h=>⟨az.out _ h,trivial⟩) (fun w w' h hb=>zka h hb) (fun v4 K w h ak=>?_) (fun u v=>?_) (fun v5 w5 h5 BJ=>?_) l4 v4 wc hI hA ?_
 ·have hb0:=h;have hK:=zh ak;clear ak;(try simp only[zQ]);(try simp only[zA,zB,zC]);go_simp;exact hK.out _ _ (zkb zr _) ⟨_,rfl,hb0.size,heap_alloc_new w _⟩
 ·simp only[Act.put,zD,zE,zF]
 rotate_left 1
 ·simp only[Act.put,zD,zE,zF]
 (try simp only[zQ]);clear hI hA hU;obtain⟨bb,rfl,hbl,hbz⟩:=BJ;obtain⟨q0,q1,q2,q3,q4,q5⟩:=box6 hbz;have cf:∀o,w5.frozen? ⟨bb,o,none⟩=false:=fun _=>zf hbz;obtain⟨aW,wY,xx,hcy⟩:=ztD (.bool (false,1,gxS,0).1) (zi ((false,1,gxS,0).2.1:Int)) (.slice Ag (false,1,gxS,0).2.2.1.cells.length cg) (.slice Bg (false,1,gxS,0).2.2.1.tin.length dg) (.slice Dg (false,1,gxS,0).2.2.1.tout.length eg) (zi (false,1,gxS,0).2.2.2) hbz;have hby:zw w6 aW:=h5.trans (hcy.below h5.size fun b (e:b=bb)=>zO);have tV:zW (fun w':World=>exS w' E0 gxE A1 c1 A2 c2 A3 c3) zU aW:=⟨az.out _ hby,trivial⟩
 have bg:=zh xx;have uL:=zh (zka dZ.out hby);have HB610:=zh hby;refine zo 7 fun K hK=>?_;(try simp only[zA,zB,zC]);go_simp;refine hK.out _ _ tV ?_;clear hK K q0 q1 q2 q3 q4 q5 cf wY xx hcy hby h5 hbz;(try simp only[zQ]);refine zT 8 tV ?_;refine zd ?_;refine NoPanic.normal ?_;clear tV az;have HVB2:=zh (show aW.heap[bb]?=some (.cells #[.bool false,zi 1,.slice Ag 1 cg,.slice Bg 0 dg,.slice Dg 0 eg,zi 0] 46 (0,0))from bg.out);obtain⟨a0,a1,a2,a3,a4,a5⟩:=box6 (zkc uB.out HB610.out);obtain⟨b0,b1,b2,b3,b4,b5⟩:=box6 HVB2.out;clear bg;go_wp2_with fail;go_ret;exact⟨rfl,zka HB2.out uL.out⟩
end
section
open Go Go.RowKit
def timR(a b:Int):Int:=if a≠0/\(1099511627776:Int).tdiv a<b then 1099511627777 else a*b
def powR(b:Int):Nat->Int
 | 0=>1
 | n+1=>timR (powR b n) b
def upA(b:Int):Int->List Nat->Int
 | s,[]=>s
 | s,i::l=>if 1099511627776<s+powR b i then 1099511627777 else upA b (s+powR b i) l
def upR(b:Int)(n:Nat):Int:=upA b 0 (List.range (n+1))
def cnt1(b:BX)(v:VD):Int:=if v.k=1 then 2*b.v+1 else if v.k=2 then powR (2*b.v+1) v.n.toNat else upR (2*b.v+1) b.l.toNat
def cntF(vs:List VD)(b:BX):Int:=vs.foldl (fun n v=>timR n (cnt1 b v)) (upR (2*b.v+1) b.i.toNat)
def rngZ(v:Int):List Int:=(List.range (2*v+1).toNat).map fun i:Nat=>(i:Int)-v
def tupE(v:Int):Nat->List (List Int)
 | 0=>[[]]
 | n+1=>(tupE v n).flatMap fun t=>(rngZ v).map fun x=>t++[x]
def betE(v:Int)(a m:Nat):List (List Int):=(List.range (m+1-a)).flatMap fun i=>tupE v (a+i)
def lstE(b:BX)(v:VD):List (List Int):=if v.k=1 then betE b.v 1 1 else if v.k=2 then betE b.v v.n.toNat v.n.toNat else betE b.v 0 b.l.toNat
def stg(st:List SS)(l:List (List Int)):List SS:=st.flatMap fun s=>l.map fun x=>⟨s.cells++[x],[],[]⟩
def stgF(b:BX)(vs:List VD):List SS:=vs.foldl (fun st v=>stg st (lstE b v)) [nilS]
def allU(vs:List VD)(b:BX):List SS:=(stgF b vs).flatMap fun s=>(betE b.v 0 b.i.toNat).map fun x=>⟨s.cells,x,[]⟩
theorem zp4{a b:Int}(ha:1<=a/\a<=1099511627777)(hb:1<=b/\b<=1099511627777):1<=timR a b/\timR a b<=1099511627777:=by
 unfold timR
 split
 ·omega
 ·rename_i h;have h1:b<=(1099511627776:Int).tdiv a:=by
   by_cases h2:b<=(1099511627776:Int).tdiv a
   ·exact h2
   ·exact absurd ⟨zO,zO⟩ h
  rw[Int.tdiv_eq_ediv_of_nonneg zY]at h1;have h2:b*a<=1099511627776:=(Int.le_ediv_iff_mul_le zO).1 h1;have h3:1*1<=a*b:=Int.mul_le_mul ha.1 hb.1 zY zO;rw[Int.mul_comm]at h2;omega
theorem znP{a b:Int}(ha:1<=a)(hb:1<=b)(h:timR a b<=60):timR a b=a*b/\a<=60/\b<=60:=by
 unfold timR at h ⊢
 split at h
 ·omega
 ·rename_i h0;rw[if_neg h0];have h1:a*1<=a*b:=Int.mul_le_mul_of_nonneg_left hb zO;have h2:1*b<=a*b:=Int.mul_le_mul_of_nonneg_right ha zO;exact⟨rfl,zO,zO⟩
theorem zmw{b:Int}(hb:1<=b/\b<=2001):∀n,1<=powR b n/\powR b n<=1099511627777
 | 0=>by unfold powR;omega
 | n+1=>zp4 (zmw hb n) zO
theorem znS{b:Int}(hb:1<=b/\b<=2001):∀n,powR b n<=60->powR b n=b ^ n
 | 0,_=>by rw[Int.pow_zero];rfl
 | n+1,h=>by
  have h1:=znP (zmw hb n).1 hb.1 h;rw[powR,h1.1,znS hb n h1.2.1,Int.pow_succ]
theorem zrL{b:Int}(hb:1<=b/\b<=2001):∀(l:List Nat) (s:Int),0<=s/\s<=1099511627776->s<=upA b s l/\upA b s l<=1099511627777
 | [],s,h=>by unfold upA;omega
 | i::l,s,h=>by
  have h1:=zmw hb i;unfold upA
  split
  ·omega
  ·have:=zrL hb l (s+powR b i) zO;omega
theorem zrK{b:Int}(hb:1<=b/\b<=2001)(n:Nat):1<=upR b n/\upR b n<=1099511627777:=by
 unfold upR;rw[List.range_succ_eq_map];unfold upA;rw[if_neg (by unfold powR;decide)];have:=zrL hb (List.map Nat.succ (List.range n)) (0+powR b 0) (by unfold powR;decide);unfold powR at this ⊢;omega
theorem zqH{b:Int}(hb:1<=b/\b<=2001):∀(l:List Nat) (s:Int),0<=s->upA b s l<=60->upA b s l=s+(l.map fun i=>b ^ i).sum/\∀i∈l,powR b i<=60
 | [],s,_,h=>by unfold upA;simp
 | i::l,s,h0,h=>by
  have h1:=zmw hb i;unfold upA at h ⊢
  split at h
  ·omega
  ·rename_i h2;rw[if_neg h2];have h3:=zqH hb l (s+powR b i) zO h;have h4:=(zrL hb l (s+powR b i) zO).1;have h5:powR b i<=60:=zO
   rw[h3.1,znS hb i h5];refine⟨by simp;omega,fun j hj=>?_⟩;rcases List.mem_cons.1 hj with rfl|hj
   ·exact h5
   ·exact h3.2 j hj
theorem zxi(v:Int):(rngZ v).length=(2*v+1).toNat:=by simp[rngZ]
theorem zsB{v:Int}(hv:0<=v):∀n,((tupE v n).length:Int)=(2*v+1) ^ n
 | 0=>by rw[Int.pow_zero];rfl
 | n+1=>by
  have h:∀l:List (List Int),((l.flatMap fun t=>(rngZ v).map fun x=>t++[x]).length:Int)=l.length*(2*v+1):=by
   intro l
   induction l with
   | nil=>simp
   | cons t l ih =>
    rw[List.flatMap_cons,List.length_append,List.length_map,zxi,List.length_cons];have e:((2*v+1).toNat:Int)=2*v+1:=Int.toNat_of_nonneg zO
    push_cast
    rw[ih,e,Int.add_mul];omega
  rw[tupE,h,zsB hv n,Int.pow_succ]
theorem zos{v:Int}(hv:0<=v)(a m:Nat):((betE v a m).length:Int)=((List.range (m+1-a)).map fun i=>(2*v+1) ^ (a+i)).sum:=by
 unfold betE
 induction List.range (m+1-a)with
 | nil=>rfl
 | cons i l ih=>rw[List.flatMap_cons,List.length_append,List.map_cons,List.sum_cons,<-ih,<-zsB hv (a+i)];push_cast;rfl
theorem zmx{b:BX}(h:b.ok=true):(0<=b.v/\b.v<=1000)/\(0<=b.l/\b.l<=1000)/\0<=b.i/\b.i<=1000:=by
 simp only[BX.ok,okI,Bool.and_eq_true,decide_eq_true_eq]at h;omega
theorem zoq{b:BX}(hb:0<=b.v/\b.v<=1000)(v:VD):1<=cnt1 b v/\cnt1 b v<=1099511627777:=by
 unfold cnt1
 split
 ·omega
 ·split
  ·exact zmw zO _
  ·exact zrK zO _
theorem zyR{v:Int}(hv:0<=v/\v<=1000){n:Nat}(h:upR (2*v+1) n<=60):((betE v 0 n).length:Int)=upR (2*v+1) n:=by
 have h1:=(zqH (b:=2*v+1) zO (List.range (n+1)) 0 zY h).1;rw[zos hv.1,show upR (2*v+1) n=upA (2*v+1) 0 (List.range (n+1))from rfl,h1];simp
theorem zvf{b:BX}{v:VD}(hb:0<=b.v/\b.v<=1000)(h:cnt1 b v<=60):((lstE b v).length:Int)=cnt1 b v:=by
 unfold lstE;unfold cnt1 at h ⊢;by_cases h1:v.k=1
 ·rw[if_pos h1]at h ⊢;rw[if_pos h1,zos hb.1];simp[Int.pow_succ]
 ·rw[if_neg h1]at h ⊢;rw[if_neg h1];by_cases h2:v.k=2
  ·rw[if_pos h2]at h ⊢;rw[if_pos h2,zos hb.1,znS zO _ h];simp
  ·rw[if_neg h2]at h ⊢;rw[if_neg h2,zyR hb h]
theorem znD{vs:List VD}{b:BX}{i:Nat}(hi:i<vs.length):cntF (vs.take (i+1)) b=timR (cntF (vs.take i) b) (cnt1 b vs[i]):=by
 unfold cntF;rw[List.take_succ_eq_append_getElem hi,List.foldl_append];rfl
theorem zuI{vs:List VD}{b:BX}{i:Nat}(hi:i<vs.length):stgF b (vs.take (i+1))=stg (stgF b (vs.take i)) (lstE b vs[i]):=by
 unfold stgF;rw[List.take_succ_eq_append_getElem hi,List.foldl_append];rfl
theorem zop{b:BX}(hb:b.ok=true)(vs:List VD):1<=cntF vs b/\cntF vs b<=1099511627777:=by
 have hk:=zmx hb;unfold cntF;have:∀(l:List VD) (n:Int),1<=n/\n<=1099511627777->1<=l.foldl (fun n v=>timR n (cnt1 b v)) n/\l.foldl (fun n v=>timR n (cnt1 b v)) n<=1099511627777:=by
  intro l
  induction l with
  | nil=>intro n h;exact h
  | cons v l ih=>intro n h;exact ih _ (zp4 h (zoq hk.1 v))
 exact this vs _ (zrK zO _)
theorem ztl{vs:List VD}{b:BX}(hb:b.ok=true)(h:cntF vs b<=60):∀k,k<=vs.length->cntF (vs.take (vs.length-k)) b<=60
 | 0,_=>by simpa using h
 | k+1,hk=>by
  have h1:=ztl hb h k zO;rw[show vs.length-k=vs.length-(k+1)+1 by omega,znD zO]at h1;exact(znP (zop hb _).1 (zoq (zmx hb).1 _).1 h1).2.1
theorem zuH(st:List SS)(l:List (List Int)):(stg st l).length=st.length*l.length:=by
 unfold stg
 induction st with
 | nil=>simp
 | cons s st ih=>rw[List.flatMap_cons,List.length_append,ih,List.length_map,List.length_cons,Nat.add_mul];omega
structure RefB(vs:List VD)(b:BX):Prop where
 one:∀i (hi:i<vs.length),cnt1 b vs[i]<=60/\(lstE b vs[i]).length<=60
 st:∀i,i<=vs.length->((stgF b (vs.take i)).length:Int)*upR (2*b.v+1) b.i.toNat=cntF (vs.take i) b/\(stgF b (vs.take i)).length<=60
 inp:((betE b.v 0 b.i.toNat).length:Int)=upR (2*b.v+1) b.i.toNat/\(betE b.v 0 b.i.toNat).length<=60
 all:((allU vs b).length:Int)=cntF vs b/\(allU vs b).length<=60
theorem zzx{vs:List VD}{b:BX}(hb:b.ok=true)(h:cntF vs b<=60):RefB vs b:=by
 have hk:=zmx hb;have h1:∀i (hi:i<vs.length),cnt1 b vs[i]<=60/\cntF (vs.take i) b<=60/\cntF (vs.take (i+1)) b=cntF (vs.take i) b*cnt1 b vs[i]:=fun i hi=>by
  have h2:=ztl hb h (vs.length-(i+1)) zO;rw[show vs.length-(vs.length-(i+1))=i+1 by omega,znD hi]at h2;have h3:=znP (zop hb _).1 (zoq hk.1 _).1 h2;exact⟨h3.2.2,h3.2.1,by rw[znD hi];exact h3.1⟩
 have hup:=zrK (b:=2*b.v+1) zO b.i.toNat
 have hu:upR (2*b.v+1) b.i.toNat<=60:=by
  have:=ztl hb h vs.length zl;simpa[cntF]using this
 have hst:∀i,i<=vs.length->((stgF b (vs.take i)).length:Int)*upR (2*b.v+1) b.i.toNat=cntF (vs.take i) b:=by
  intro i
  induction i with
  | zero=>intro _;simp[stgF,cntF]
  | succ i ih =>
   intro hi;rw[zuI zO,zuH,(h1 i zO).2.2,<-ih zO]
   push_cast
   rw[zvf hk.1 (h1 i zO).1,Int.mul_assoc,Int.mul_assoc,Int.mul_comm (cnt1 b vs[i])]
 have hle:∀i,i<=vs.length->(stgF b (vs.take i)).length<=60:=fun i hi=>by
  have h2:=ztl hb h (vs.length-i) zO;rw[show vs.length-(vs.length-i)=i by omega,<-hst i hi]at h2;have h3:((stgF b (vs.take i)).length:Int)*1<=((stgF b (vs.take i)).length:Int)*upR (2*b.v+1) b.i.toNat:=Int.mul_le_mul_of_nonneg_left hup.1 zO;omega
 have hin:=zyR hk.1 hu;have hall:((allU vs b).length:Int)=cntF vs b:=by
  have h3:=hst vs.length zl;rw[List.take_length]at h3;rw[<-h3,<-hin];unfold allU
  induction stgF b vs with
  | nil=>simp
  | cons s st ih=>rw[List.flatMap_cons,List.length_append,List.length_map,List.length_cons];push_cast;rw[ih,Int.add_mul];omega
 exact⟨fun i hi=>⟨(h1 i hi).1,by have:=zvf hk.1 (h1 i hi).1;have:=(h1 i hi).1;omega⟩,fun i hi=>⟨hst i hi,hle i hi⟩,⟨hin,zO⟩,⟨hall,zO⟩⟩
theorem zqK(a b:Int)(w:World)(ha:1<=a/\a<=1099511627777)(hb:1<=b/\b<=1099511627777):Calls prog 50 #[zi a,zi b] w fun e w'=>e=.returned (zi (timR a b))/\w'=w:=by
 have e0:(a != 0)=true:=by simp;omega
 have e1:(a==0)=false:=by simp;omega
 have hq:=Int.tdiv_eq_ediv_of_nonneg (a:=1099511627776) (b:=a) zY;have hq2:0<=(1099511627776:Int) / a/\(1099511627776:Int) / a<=1099511627776:=⟨Int.ediv_nonneg zY zO,Int.ediv_le_self _ zY⟩
 have hw:IntKind.i64.wrap ((1099511627776:Int).tdiv a)=(1099511627776:Int).tdiv a:=IntWalk.i64_in _ (by rw[hq];omega);by_cases h:(1099511627776:Int).tdiv a<b
 ·have HT:=zh (show timR a b=1099511627777 by unfold timR;rw[if_pos ⟨zO,h⟩]);clear hq hq2;go_enter func50,ntmps50;go_wp2_with fail;go_ret;exact⟨by rw[HT.out];rfl,rfl⟩
 ·have HT:=zh (show timR a b=a*b by unfold timR;rw[if_neg fun h2=>h h2.2]);have hm:IntKind.i64.wrap (a*b)=a*b:=IntWalk.i64_in _ (by have:=zp4 ha hb;rw[HT.out]at this;omega);clear hq hq2;go_enter func50,ntmps50;go_wp2_with fail;go_ret;exact⟨by rw[HT.out];rfl,rfl⟩
theorem zqV(b:Int)(n:Nat)(w:World)(hb:1<=b/\b<=2001)(hn:n<=1000):Calls prog 51 #[zi b,zi (n:Int)] w fun e w'=>e=.returned (zi (powR b n))/\w'=w:=by
 have HT:=zh (fun i w'=>zqK (powR b i) b w' (zmw hb i) zO);have HB:=zh hb;clear hb;go_enter func51,ntmps51;go_wp2_with fail
 go_loopw [6,5] (fun i s wr=>∃j:Nat,j<=n/\i=zi j/\s=zi (powR b j)/\wr=w) (fun i _ _=>n-(intOf i).toNat)
 case atStart=>exact⟨0,zO,rfl,rfl,rfl⟩
 case round =>
  obtain⟨j,hj,rfl,rfl,rfl⟩:=hrel;by_cases hlt:j<n
  ·have hj1:(j:Int)<(n:Int):=zO
   have hj0:(0:Int)<=(j:Int):=zO
   go_wp2_with fail;refine(HT.out j _).mono ?_;rintro e w1 ⟨rfl,rfl⟩;go_wp2_with fail
   go_roundw
   case rel=>exact⟨j+1,zO,by go_num,rfl,trivial⟩
   case measure=>simp[intOf];omega
  ·obtain rfl:j=n:=zO
   have hj1:¬ (j:Int)<(j:Int):=zO
   go_wp2_with fail;go_ret;simp
theorem zw6(b:Int)(n:Nat)(w:World)(hb:1<=b/\b<=2001)(hn:n<=1000):Calls prog 49 #[zi b,zi (n:Int)] w fun e w'=>e=.returned (zi (upR b n))/\w'=w:=by
 have HT:=zh (fun i w' (hi:i<=1000)=>zqV b i w' hb hi);have HB:=zh hb;clear hb;go_enter func49,ntmps49;go_wp2_with fail
 go_loopw [6,5] (fun i s wr=>∃(j:Nat) (x:Int),j<=n+1/\i=zi j/\s=zi x/\(0<=x/\x<=1099511627776)/\wr=w/\Hid (upR b n=upA b x ((List.range (n+1)).drop j))) (fun i _ _=>n+1-(intOf i).toNat)
 case atStart=>exact⟨0,0,zO,rfl,rfl,zO,rfl,zh rfl⟩
 case round =>
  obtain⟨j,x,hj,rfl,rfl,hx,rfl,HU⟩:=hrel;by_cases hlt:j<=n
  ·have hj1:(j:Int)<=(n:Int):=zO
   have hj0:(0:Int)<=(j:Int):=zO
   go_wp2_with fail;refine(HT.out j _ zO).mono ?_;rintro e w1 ⟨rfl,rfl⟩;have hp:=zmw HB.out j;obtain⟨y,hy⟩:=zX (powR b j);have HU2:=zh (show upR b n=if 1099511627776<x+y then 1099511627777 else upA b (x+y) ((List.range (n+1)).drop (j+1)) by
    rw[HU.out,List.drop_eq_getElem_cons (by simp;omega),List.getElem_range,upA,hy])
   rw[hy]at hp ⊢;have hw:IntKind.i64.wrap (x+y)=x+y:=IntWalk.i64_in _ zO;by_cases hg:1099511627776<x+y
   ·go_wp2_with fail;go_ret;exact⟨by rw[HU2.out,if_pos hg];rfl,rfl⟩
   ·go_wp2_with fail
    go_roundw
    case rel=>exact⟨j+1,x+y,zO,by go_num,rfl,zO,trivial,zh (by rw[HU2.out,if_neg zO])⟩
    case measure=>simp[intOf];omega
  ·obtain rfl:j=n+1:=zO
   have hj1:¬ ((n+1:Nat):Int)<=(n:Int):=zO
   go_wp2_with fail;go_ret;exact⟨by rw[HU.out,List.drop_eq_nil_of_le zS];rfl,rfl⟩
theorem zzf{v:VD}(h:vdB v=true):(v.k=1/\v.n=0)\/(v.k=2/\1<=v.n/\v.n<=16)\/(v.k=3/\v.n=0):=by
 unfold vdB at h;by_cases h1:v.k=1\/v.k=3
 ·rw[if_pos h1]at h;have h:=eq_of_beq h;rcases h1 with h1|h1
  ·exact .inl ⟨h1,h⟩
  ·exact .inr (.inr ⟨h1,h⟩)
 ·rw[if_neg h1]at h;by_cases h2:v.k=2
  ·rw[if_pos h2]at h;exact .inr (.inl ⟨h2,of_decide_eq_true h⟩)
  ·rw[if_neg h2]at h;cases h
theorem zxa{vs:List VD}(h:svB vs=true):vs.length<=32/\∀v∈vs,vdB v=true:=by
 unfold svB at h;simp only[Bool.and_eq_true,decide_eq_true_eq,List.all_eq_true]at h;exact h
theorem zuc(vs:List VD)(b:BX)(A:Option Addr)(c:Nat)(w:World)(hr:RowV w Any A vs)(hok:(b.ok&&svB vs)=true) :
  Calls prog 24 #[.slice A vs.length c,.int .i64 b.v,.int .i64 b.l,.int .i64 b.i] w fun e w'=>e=.returned (.int .i64 (cntF vs b))/\w'=w:=by
 simp only[Bool.and_eq_true]at hok;have hb:=zmx hok.1;obtain⟨hn,hvd⟩:=zxa hok.2;have HB:=zh hb;have HV:=zh hvd;have HC:=zh (fun i (hi:i<=vs.length)=>zop hok.1 (vs.take i));obtain⟨V,hV⟩:=zX (b.v);obtain⟨nl,hnl⟩:∃nl:Nat,b.l=(nl:Int):=⟨b.l.toNat,zO⟩
 obtain⟨ni,hni⟩:∃ni:Nat,b.i=(ni:Int):=⟨b.i.toNat,zO⟩
 have dK:=zh (And.intro hV (And.intro hnl hni));have wK:=zh (fun n w' (h:n<=1000)=>zw6 (2*V+1) n w' zO h);have zi:=zh (fun n w' (h:n<=1000)=>zqV (2*V+1) n w' zO h);have Cb:=zh (fun i v w' (hi:i<=vs.length)=>zqK (cntF (vs.take i) b) (cnt1 b v) w' (zop hok.1 (vs.take i)) (zoq hb.1 v));have wL:=zh (fun i (hi:i<vs.length)=>znD (b:=b) hi);have lW:=zh (fun v=>show cnt1 b v=if v.k=1 then 2*V+1 else if v.k=2 then powR (2*V+1) v.n.toNat else upR (2*V+1) nl by unfold cnt1;rw[hV,hnl];rfl);have bC:=zh (show cntF (vs.take 0) b=upR (2*V+1) ni by unfold cntF;rw[hV,hni];rfl);have e1:IntKind.i64.wrap (2*V)=2*V:=IntWalk.i64_in _ zO;have e2:IntKind.i64.wrap (2*V+1)=2*V+1:=IntWalk.i64_in _ zO;have hnl3:nl<=1000:=zO
 have hni3:ni<=1000:=zO
 have HR:=zh hr;have HT:=zh (show cntF (vs.take vs.length) b=cntF vs b by rw[List.take_length]);obtain⟨CF,hCF⟩:∃CF:Nat->Int,∀i,cntF (vs.take i) b=CF i:=⟨fun i=>cntF (vs.take i) b,fun _=>rfl⟩
 simp only[hCF]at HC Cb wL bC HT;rw[<-HT.out,hV,hnl,hni];obtain⟨C1,bz⟩:∃C1:VD->Int,∀v,cnt1 b v=C1 v:=⟨fun v=>cnt1 b v,fun _=>rfl⟩
 simp only[bz]at Cb wL lW;clear hok hb hvd hr hV hnl hni hCF bz;obtain⟨n,hn'⟩:=zX (vs.length);have HN:=zh hn';rw[hn']at hn ⊢;clear hn';go_enter func24,ntmps24;go_wp2_with fail;refine(wK.out ni w hni3).mono ?_;rintro e w1 ⟨rfl,rfl⟩;rw[<-bC.out];go_wp2_with fail
 go_loopw [10,9] (fun i s wr=>∃j:Nat,j<=n/\i=.int .i64 j/\s=.int .i64 (CF j)/\wr=w1) (fun i _ _=>n-(intOf i).toNat)
 case atStart=>exact⟨0,zO,rfl,rfl,rfl⟩
 case round =>
  obtain⟨j,hj,rfl,rfl,rfl⟩:=hrel;by_cases hlt:j<n
  ·have hj1:(j:Int)<(n:Int):=zO
   have hj0:(0:Int)<=(j:Int):=zO
   have dA:j<vs.length:=by rw[HN.out];exact hlt
   obtain⟨a,v,rfl,-,hv,⟨x0,x1,x2⟩,-⟩:=HR.out.nd dA;have hvb:=zzf (HV.out _ (List.getElem_mem dA));have oh:=Cb.out j v wr zO;have htk:=wL.out j dA;have hc1:=lW.out v;rw[hv.out]at hvb htk;rw[<-htk]at oh;clear htk hv dA;obtain⟨v0,v1,v2⟩:=v;simp only at x0 x1 x2 hvb hc1;rcases hvb with⟨rfl,rfl⟩|⟨rfl,hn1,hn2⟩|⟨rfl,rfl⟩
   ·rw[if_pos rfl]at hc1;rw[hc1]at oh;have nu:=zh oh;clear oh hc1;go_wp2_with fail;refine nu.out.mono ?_;rintro e w2 ⟨rfl,rfl⟩;go_wp2_with fail
    go_roundw
    case rel=>exact⟨j+1,zO,by go_num,rfl,trivial⟩
    case measure=>simp[intOf];omega
   ·rw[if_neg zY,if_pos rfl]at hc1;obtain⟨m,rfl⟩:∃m:Nat,v2=(m:Int):=⟨v2.toNat,zO⟩
    rw[show((m:Int)).toNat=m from rfl]at hc1;have hm:m<=1000:=zO
    rw[hc1]at oh;have nu:=zh oh;clear oh hc1;go_wp2_with fail;refine(zi.out m wr hm).mono ?_;rintro e w2 ⟨rfl,rfl⟩;go_wp2_with fail;refine nu.out.mono ?_;rintro e w2 ⟨rfl,rfl⟩;go_wp2_with fail
    go_roundw
    case rel=>exact⟨j+1,zO,by go_num,rfl,trivial⟩
    case measure=>simp[intOf];omega
   ·rw[if_neg zY,if_neg zY]at hc1;rw[hc1]at oh;have nu:=zh oh;clear oh hc1;go_wp2_with fail;refine(wK.out nl wr hnl3).mono ?_;rintro e w2 ⟨rfl,rfl⟩;go_wp2_with fail;refine nu.out.mono ?_;rintro e w2 ⟨rfl,rfl⟩;go_wp2_with fail
    go_roundw
    case rel=>exact⟨j+1,zO,by go_num,rfl,trivial⟩
    case measure=>simp[intOf];omega
  ·obtain rfl:j=n:=zO
   have hj1:¬ (j:Int)<(j:Int):=zO
   go_wp2_with fail;go_ret;exact⟨rfl,rfl⟩
theorem zw4{v:VD}(h:(v.k=1/\v.n=0)\/(v.k=2/\1<=v.n/\v.n<=16)\/(v.k=3/\v.n=0)):vdB v=true:=by
 unfold vdB;rcases h with⟨h1,h2⟩|⟨h1,h2⟩|⟨h1,h2⟩
 ·rw[if_pos (.inl h1),h2];rfl
 ·rw[if_neg zO,if_pos h1];exact decide_eq_true h2
 ·rw[if_pos (.inr h1),h2];rfl
theorem zuw{v:VD}(h:¬ ((v.k=1/\v.n=0)\/(v.k=2/\1<=v.n/\v.n<=16)\/(v.k=3/\v.n=0))):vdB v=false:=by
 cases e:vdB v with
 | false=>rfl
 | true=>exact absurd (zzf e) h
theorem zzo{vs:List VD}{i:Nat}(hi:i<vs.length)(h:vdB vs[i]=false):svB vs=false:=by
 cases e:svB vs with
 | false=>rfl
 | true=>rw[(zxa e).2 _ (List.getElem_mem hi)]at h;cases h
theorem zzp{vs:List VD}{n:Nat}(hn:vs.length=n)(h32:n<=32)(h:∀i (hi:i<vs.length),vdB vs[i]=true):svB vs=true:=by
 unfold svB;simp only[Bool.and_eq_true,decide_eq_true_eq,List.all_eq_true];exact⟨zO,fun v hv=>by obtain⟨i,hi,rfl⟩:=List.mem_iff_getElem.1 hv;exact h i hi⟩
theorem zzG{b:BX}(h:((0<=b.v/\b.v<=1000)/\(0<=b.l/\b.l<=1000)/\0<=b.i/\b.i<=1000)):b.ok=true:=by
 simp only[BX.ok,okI,Bool.and_eq_true,decide_eq_true_eq];omega
theorem zxu{b:BX}(h:¬ ((0<=b.v/\b.v<=1000)/\(0<=b.l/\b.l<=1000)/\0<=b.i/\b.i<=1000)):b.ok=false:=by
 cases e:b.ok with
 | false=>rfl
 | true=>exact absurd (zmx e) h
theorem zub(vs:List VD)(b:BX)(A:Option Addr)(c:Nat)(w:World)(hr:RowV w Any A vs)(hl:vs.length<=LV) :
  Calls prog 23 #[.slice A vs.length c,zi b.v,zi b.l,zi b.i] w (zu (.bool (b.ok&&svB vs)) w):=by
 have hl1:=zk1 hl;have HR:=zh hr;obtain⟨RR,hRR⟩:=zX ((b.ok&&svB vs));have HRR:=zh hRR;rw[hRR];obtain⟨V,hV⟩:=zX (b.v);obtain⟨L,hL⟩:=zX (b.l);obtain⟨I,hI⟩:=zX (b.i);have zn:=zh (fun h=>zzG (b:=b) h);have uY:=zh (fun h=>zxu (b:=b) h);have nz:=zh (fun(n:Nat)=>zzp (vs:=vs) (n:=n));rw[hV,hL,hI]at zn uY ⊢;clear hr hl hRR hV hL hI;obtain⟨n,hn⟩:=zX (vs.length);have HN:=zh hn;rw[hn]at hl1 ⊢;clear hn;go_enter func23,ntmps23;by_cases h32:32<n
 ·have h32i:(32:Int)<(n:Int):=zO
  go_wp2_with fail;go_ret;exact⟨by rw[<-HRR.out,show svB vs=false by { cases e:svB vs with|false=>rfl|true=>have:=(zxa e).1;have:=HN.out;omega },Bool.and_false];rfl,zr⟩
 have h32i:¬ (32:Int)<(n:Int):=zO
 go_wp2_with fail
 go_loopw [9] (fun i wr=>∃j:Nat,j<=n/\i=zi j/\Hid (zw w wr)/\Hid (∀i (hi:i<vs.length),i<j->vdB vs[i]=true)) (fun i _=>n-(intOf i).toNat)
 case atStart=>exact⟨0,zO,rfl,zh zr,zh fun i _ h=>zO⟩
 case round =>
  obtain⟨j,hj,rfl,ag,HE⟩:=hrel;by_cases hlt:j<n
  ·have hj1:(j:Int)<(n:Int):=zO
   have hj0:(0:Int)<=(j:Int):=zO
   have dA:j<vs.length:=by rw[HN.out];exact hlt
   obtain⟨a,v,rfl,-,hv,⟨x0,x1,x2⟩,hfl⟩:=(HR.out.later ag.out).nd dA;have BV:=zh (fun h=>(congrArg vdB hv.out).trans (zw4 (v:=v) h));have ng:=zh (fun h=>zzo dA ((congrArg vdB hv.out).trans (zuw (v:=v) h)));have HJ:=zh dA;obtain⟨v0,v1,v2⟩:=v;have hk:=hfl.2.1;simp only at x0 x1 x2 BV ng hk;have hk1:=heap_alloc_new wr (.cells #[.string v0,zj v1,zi v2] 38);have rC:=zh (zkb ag.out (.cells #[.string v0,zj v1,zi v2] 38));obtain⟨wm,wh⟩:=zX (wr.alloc (.cells #[.string v0,zj v1,zi v2] 38));rw[wh]at hk1 rC;obtain⟨y0,y1,y2⟩:=zl6 hk1;clear hv hfl hk1;by_cases c1:v1<1
   ·go_wp2_with fail;go_ret;exact⟨by rw[<-HRR.out,ng.out zO,Bool.and_false];rfl,rC.out⟩
   by_cases c2:3<v1
   ·go_wp2_with fail;go_ret;exact⟨by rw[<-HRR.out,ng.out zO,Bool.and_false];rfl,rC.out⟩
   by_cases c3:v1=2
   ·subst c3;by_cases c4:v2<1
    ·go_wp2_with fail;go_ret;exact⟨by rw[<-HRR.out,ng.out zO,Bool.and_false];rfl,rC.out⟩
    by_cases c5:16<v2
    ·go_wp2_with fail;go_ret;exact⟨by rw[<-HRR.out,ng.out zO,Bool.and_false];rfl,rC.out⟩
    go_wp2_with fail
    go_roundw
    case rel =>
     refine⟨j+1,zO,by go_num,rC,zh fun i hi hij=>?_⟩;by_cases e:i<j
     ·exact HE.out i hi e
     ·obtain rfl:i=j:=zO
      exact BV.out zO
    case measure=>simp[intOf];omega
   ·have c3b:(v1==2)=false:=by simpa using c3
    have c3c:(v1 != 2)=true:=by simpa using c3
    by_cases c4:v2=0;rotate_left 1
    ·have c4b:(v2 != 0)=true:=by simpa using c4
     go_wp2_with fail;go_ret;exact⟨by rw[<-HRR.out,ng.out zO,Bool.and_false];rfl,rC.out⟩
    ·have c4b:(v2 != 0)=false:=by simpa using c4
     have bL:=zh c4;clear c4;go_wp2_with fail
     go_roundw
     case rel =>
      refine⟨j+1,zO,by go_num,rC,zh fun i hi hij=>?_⟩;by_cases e:i<j
      ·exact HE.out i hi e
      ·obtain rfl:i=j:=zO
       exact BV.out (by have:=bL.out;omega)
     case measure=>simp[intOf];omega
  ·obtain rfl:j=n:=zO
   have hj1:¬ (j:Int)<(j:Int):=zO
   by_cases g1:0<=V;rotate_left 1
   ·go_wp2_with fail;go_ret;exact⟨by rw[<-HRR.out,show b.ok=false from uY.out zO];rfl,ag.out⟩
   by_cases g2:V<=1000;rotate_left 1
   ·go_wp2_with fail;go_ret;exact⟨by rw[<-HRR.out,show b.ok=false from uY.out zO];rfl,ag.out⟩
   by_cases g3:0<=L;rotate_left 1
   ·go_wp2_with fail;go_ret;exact⟨by rw[<-HRR.out,show b.ok=false from uY.out zO];rfl,ag.out⟩
   by_cases g4:L<=1000;rotate_left 1
   ·go_wp2_with fail;go_ret;exact⟨by rw[<-HRR.out,show b.ok=false from uY.out zO];rfl,ag.out⟩
   by_cases g5:0<=I;rotate_left 1
   ·go_wp2_with fail;go_ret;exact⟨by rw[<-HRR.out,show b.ok=false from uY.out zO];rfl,ag.out⟩
   by_cases g6:I<=1000;rotate_left 1
   ·go_wp2_with fail;go_ret;exact⟨by rw[<-HRR.out,show b.ok=false from uY.out zO];rfl,ag.out⟩
   go_wp2_with fail;go_ret;exact⟨by rw[<-HRR.out,show b.ok=true from zn.out zO,nz.out _ HN.out zO fun i hi=>HE.out i hi (by have:=HN.out;omega)];rfl,ag.out⟩
attribute [local go_sem] Oper.semAt_some
mutual
/-- How many nodes are left of a budget. -/
def szR:T->Int->Int
 | .nd _ _ _ ks,l=>szRs ks (l-1)
def szRs:List T->Int->Int
 | [],l=>l
 | t::ts,l=>if l<0 then l else szRs ts (szR t l)
end
theorem zsE:∀(m:Nat) (t:T) (l:Int),size t<=m->0<=l -> -1<=szR t l/\szR t l<=l
 | 0,.nd k n s ks,l,h,_=>by rw[size]at h;omega
 | m+1,.nd k n s ks,l,h,h0=>by
  rw[szR];rw[size]at h;have key:∀(us:List T) (l:Int),zk0 us<=m -> -1<=l -> -1<=szRs us l/\szRs us l<=l:=by
   intro us
   induction us with
   | nil=>intro l _ h1;rw[szRs];exact⟨h1,Int.le_refl _⟩
   | cons u us ih =>
    intro l hs h1;rw[zk0]at hs;rw[szRs]
    split
    ·exact⟨h1,Int.le_refl _⟩
    ·have h2:=zsE m u l zO zO;have h3:=ih (szR u l) zO h2.1;exact⟨h3.1,zO⟩
  have:=key ks (l-1) zO zO;exact⟨this.1,zO⟩
theorem zsD:∀(ts:List T) (l:Int),-1<=l->0<=szRs ts l->(ts.length:Int)<=l
 | [],l,_,h=>by rw[szRs]at h;simpa using h
 | t::ts,l,h0,h=>by
  rw[szRs]at h
  split at h
  ·omega
  ·rename_i hl;obtain⟨k,n,s,ks⟩:=t;have h1 : -1<=szR (.nd k n s ks) l/\szR (.nd k n s ks) l<=l-1:=by
    rw[szR];have h2:=zsE _ (.nd k n s ks) l zl zO;rw[szR]at h2;refine⟨h2.1,?_⟩;rcases Int.lt_or_le (l-1) 0 with h3|h3
    ·cases ks with
     | nil=>rw[szRs];exact Int.le_refl _
     | cons u us=>rw[szRs,if_pos h3];exact Int.le_refl _
    ·have key:∀(us:List T) (l:Int),-1<=l -> -1<=szRs us l/\szRs us l<=l:=by
      intro us
      induction us with
      | nil=>intro l h1;rw[szRs];exact⟨h1,Int.le_refl _⟩
      | cons u us ih =>
       intro l h1;rw[szRs]
       split
       ·exact⟨h1,Int.le_refl _⟩
       ·have h2:=zsE _ u l zl zO;have h3:=ih (szR u l) h2.1;exact⟨h3.1,zO⟩
     exact(key ks (l-1) zO).2
   have:=zsD ts _ h1.1 h;simp only[List.length_cons];omega
theorem zzn{t:T}(h:0<=szR t 100):t.ks.length<=100:=by
 obtain⟨k,n,s,ks⟩:=t;rw[szR]at h;have:=zsD ks 99 zY h
 show ks.length<=100
 omega
theorem zpw:∀(t:T) (v:Value) (l:Int) (w:World),NV w Any t v->0<=l->l<=1000->Calls prog 48 #[v,zi l] w (zu (zi (szR t l)) w):=by
 intro t
 induction t using T.ind with
 | _ k n s ks ih =>
  intro v l w hv h0 h1;obtain⟨A,c,rfl,hf,hlk,hlc,hrow⟩:=hv.open_;have IH:=zh ih;have ae:=zh hrow;have hw1:IntKind.i64.wrap (l-1)=l-1:=IntWalk.i64_in _ zO;have hb1:=zkb (zs w) (.cells #[zj k,zi n,.string s,.slice A ks.length c] 28);have k1:=heap_alloc_new w (.cells #[zj k,zi n,.string s,.slice A ks.length c] 28);obtain⟨w1,hw⟩:=zX (w.alloc (.cells #[zj k,zi n,.string s,.slice A ks.length c] 28));obtain⟨r,hr⟩:=zX (szR (.nd k n s ks) l);have HR:=zh (show szRs (ks.drop 0) (l-1)=r by rw[<-hr,szR,List.drop_zero]);rw[hr];rw[hw]at hb1 k1;have HB1:=zh hb1;have aC:=zh k1;simp only[zND]at hlk hlc ⊢;have hlk2:ks.length<=17592186044416:=by unfold LK at hlk;omega
  clear hv hf hlk hrow ih hr hb1 k1;go_enter func48,ntmps48;go_wp2_with fail;clear hw
  go_loopw [5,1] (fun i q wr=>∃(j:Nat) (x:Int),j<=ks.length/\i=zi j/\q=zi x /\ -1<=x/\x<=1000/\Hid (zw w1 wr)/\Hid (szRs (ks.drop j) x=r)) (fun i _ _=>ks.length-(intOf i).toNat)
  case atStart=>exact⟨0,l-1,Nat.zero_le _,rfl,rfl,zO,zO,zh zr,HR⟩
  case round =>
   obtain⟨j,x,hj,rfl,rfl,hx1,hx2,ag,HJ⟩:=hrel;have hk:=zkc aC.out ag.out;have z3:wr.cell? ⟨w.heap.size,3,none⟩=some (.slice A ks.length c):=zc hk rfl;by_cases hlt:j<ks.length
   ·have hj1:(j:Int)<(ks.length:Int):=zO
    have hj0:(0:Int)<=(j:Int):=zO
    by_cases hx:0<=x
    ·have hbb:=zka HB1.out ag.out;obtain⟨a,u,Au,cu,rfl,-,Hu,⟨p0,p1,p2,p3⟩,hn⟩:=ae.out.nd hlt;have q0:=zb hbb p0;have q1:=zb hbb p1;have q2:=zb hbb p2;have q3:=zb hbb p3;have HS:=zh (IH.out u (by rw[<-Hu.out];exact List.getElem_mem hlt) _ x wr (hn.later hbb) hx hx2);have HJ2:=zh (show szRs (ks.drop (j+1)) (szR u x)=r by
      have h5:=HJ.out;rw[List.drop_eq_getElem_cons hlt]at h5;rw[szRs,if_neg zO]at h5;rw[<-h5];have:=Hu.out;simp only[T.ks_nd]at this;rw[this])
     have HL:=zh (zsE _ u x zl hx);clear p0 p1 p2 p3 hn hbb HJ hk;go_wp2_with fail;refine HS.out.mono ?_;rintro e w2 ⟨rfl,hb2⟩;have HB2:=zh (zka ag.out hb2);obtain⟨y,hy⟩:=zX (szR u x);rw[hy]at HJ2 HL ⊢;clear hb2 HS q0 q1 q2 q3 z3 hy;go_wp2_with fail
     go_roundw
     case rel=>exact⟨j+1,y,zO,by go_num,rfl,HL.out.1,by have:=HL.out.2;omega,HB2,HJ2⟩
     case measure=>simp[intOf];omega
    ·have hx':¬ (0:Int)<=x:=hx;have HJ2:=zh (show x=r by
      have h5:=HJ.out;rw[List.drop_eq_getElem_cons hlt,szRs,if_pos zO]at h5;exact h5)
     clear HJ hk;go_wp2_with fail;go_ret;exact⟨by rw[HJ2.out];rfl,zka HB1.out ag.out⟩
   ·have hj1:¬ (j:Int)<(ks.length:Int):=zO
    have HJ2:=zh (show x=r by
     have h5:=HJ.out;rw[List.drop_eq_nil_of_le zO,szRs]at h5;exact h5)
    clear HJ hk;go_wp2_with fail;go_ret;exact⟨by rw[HJ2.out];rfl,zka HB1.out ag.out⟩
def SmlP(p:PG)(W:World)(e:Ending)(w':World):Prop:=∃b:Bool,e=.returned (.bool b)/\(b=true->p.vs.length<=6/\p.m.ks.length<=100)/\zw W w'
theorem zoC(p:PG)(v:Value)(W:World)(hp:PV W Any p v):Calls prog 22 #[v] W (SmlP p W):=by
 obtain⟨A1,c1,A2,c2,A3,c3,rfl,gu⟩:=hp;have yc:=zh gu;have hb2:=zkb (zs W) (.cells #[.slice A1 p.vs.length c1,.slice A2 p.prs.length c2,zj p.m.k,zi p.m.n,.string p.m.s,.slice A3 p.m.ks.length c3] 30);have k0:=heap_alloc_new W (.cells #[.slice A1 p.vs.length c1,.slice A2 p.prs.length c2,zj p.m.k,zi p.m.n,.string p.m.s,.slice A3 p.m.ks.length c3] 30);obtain⟨w2,hw2⟩:=zX (W.alloc (.cells #[.slice A1 p.vs.length c1,.slice A2 p.prs.length c2,zj p.m.k,zi p.m.n,.string p.m.s,.slice A3 p.m.ks.length c3] 30));rw[hw2]at hb2 k0;have HB2:=zh hb2;have aG:=zh k0;obtain⟨p0,p1,p2,p3,p4,p5⟩:=box6 k0;have hlp:=zk1 gu.lp;have ny:=zh (zpw p.m _ 100 w2 (gu.main.later hb2) zO zO);obtain⟨x,hx⟩:=zX (szR p.m 100);rw[hx]at ny;have HX:=zh (show 0<=x->p.m.ks.length<=100 from fun h=>zzn (hx▸h));have hpgl:=gu.lv;clear gu hb2 k0 hx
 go_enter func22,ntmps22;by_cases h1:(4:Int)<(p.prs.length:Int)
 ·go_wp2_with fail;go_ret;exact⟨_,rfl,nofun,HB2.out⟩
 have hlv:=zk1 hpgl;by_cases h1v:(6:Int)<(p.vs.length:Int)
 ·go_wp2_with fail;go_ret;exact⟨_,rfl,nofun,HB2.out⟩
 go_wp2_with fail;refine ny.out.mono ?_;rintro e3 w3 ⟨rfl,hb3⟩;have HB3:=zh (zka HB2.out hb3);have kp:=zkc aG.out hb3;obtain⟨-,q1,-⟩:=box6 kp;clear hb3 ny kp p0 p1 p2 p3 p4 p5 hw2;by_cases h3:x<0
 ·go_wp2_with fail;go_ret;exact⟨_,rfl,nofun,HB3.out⟩
 go_wp2_with fail
 go_loopw [24,4] (fun i _ wr=>∃j:Nat,j<=p.prs.length/\i=zi j/\Hid (zw w3 wr)) (fun i _ _=>p.prs.length-(intOf i).toNat)
 case atStart=>exact⟨0,Nat.zero_le _,rfl,zh zr⟩
 case round =>
  obtain⟨j,hj,rfl,ag⟩:=hrel;by_cases hlt:j<p.prs.length
  ·have hj1:(j:Int)<(p.prs.length:Int):=zO
   have hj0:(0:Int)<=(j:Int):=zO
   have hbb:=zka HB3.out ag.out;obtain⟨pa,q,B1,d1,B2,d2,rfl,-,Hq,⟨y0,y1,y2,y3,y4,y5⟩,hpr⟩:=(yc.out.procs.later hbb).nd hlt;have hbz:=zkb ag.out (.cells #[.string q.s,.slice B1 q.ps.length d1,zj q.b.k,zi q.b.n,.string q.b.s,.slice B2 q.b.ks.length d2] 100);have hbw:=zkb (zs wr) (.cells #[.string q.s,.slice B1 q.ps.length d1,zj q.b.k,zi q.b.n,.string q.b.s,.slice B2 q.b.ks.length d2] 100);have ny:=zh (zpw q.b _ 100 _ (hpr.body.later hbw) zO zO);obtain⟨z,hz⟩:=zX (szR q.b 100);rw[hz]at ny;have zH:=zh hbz;clear hbb hpr hbz hbw hz;go_wp2_with fail;refine ny.out.mono ?_;rintro e4 w4 ⟨rfl,hb4⟩;have ay:=zh (zka zH.out hb4);clear hb4 ny y0 y1 y2 y3 y4 y5;by_cases hz:z<0
   ·go_wp2_with fail;go_ret;exact⟨_,rfl,nofun,zka HB3.out ay.out⟩
   ·go_wp2_with fail
    go_roundw
    case rel=>exact⟨j+1,zO,by go_num,ay⟩
    case measure=>simp[intOf];omega
  ·have hj1:¬ (j:Int)<(p.prs.length:Int):=zO
   go_wp2_with fail;go_ret;exact⟨_,rfl,fun _=>⟨zO,HX.out zO⟩,zka HB3.out ag.out⟩
def GrtP(e:EX)(q:PG)(W:World)(en:Ending)(w':World):Prop:=∃g:Bool,en=.returned (.bool g)/\(g=false->e.gv.vs.length<=6/\e.fu<=300/\(e.bx.ok&&svB e.gv.vs)=true/\cntF e.gv.vs e.bx<=60/\q.m.ks.length<=100/\q.vs.length<=6)/\zw W w'
theorem zse{W:World}{e:EX}{q:PG}{ev qv:Value}(he:EV W Any e ev)(hq:PV W Any q qv):Calls prog 9 #[ev,qv] W (GrtP e q W):=by
 obtain⟨A1,c1,A2,c2,A3,c3,rfl,hg,hI⟩:=he;have HSE:=zh (fun w' (h:zw W w')=>zoC e.gv _ w' (hg.later h).pv);have HSQ:=zh (fun w' (h:zw W w')=>zoC q _ w' (hq.later h));have dG:=zh (fun w' (h:zw W w')=>zub e.gv.vs e.bx A1 c1 w' (hg.vars.later h) hg.lv);have lC:=zh (fun w' (h:zw W w') (hok:(e.bx.ok&&svB e.gv.vs)=true)=>zuc e.gv.vs e.bx A1 c1 w' (hg.vars.later h) hok);obtain⟨D1,e1,D2,e2,D3,e3,rfl,-⟩:=hq;obtain⟨ok,hok⟩:=zX ((e.bx.ok&&svB e.gv.vs));obtain⟨CN,iH⟩:=zX (cntF e.gv.vs e.bx);have nP:=zh (show ∀(g:Bool) w',zw W w'->(g=false->e.gv.vs.length<=6/\e.fu<=300/\ok=true/\CN<=60/\q.m.ks.length<=100/\q.vs.length<=6)->GrtP e q W (.returned (.bool g)) w' from fun g w' h1 h2=>⟨g,rfl,by rw[hok,iH];exact h2,h1⟩);rw[hok]at dG;simp only[hok,iH]at lC
 have hb2:=zkb (zkb (zkb (zs W) (.cells (exA e A1 c1 A2 c2 A3 c3) 32)) (.cells (pgA q D1 e1 D2 e2 D3 e3) 30)) (.cells #[zi e.bx.v,zi e.bx.l,zi e.bx.i] 23);have k0:=zkd (zkd (heap_alloc_new W (.cells (exA e A1 c1 A2 c2 A3 c3) 32)) (.cells (pgA q D1 e1 D2 e2 D3 e3) 30)) (.cells #[zi e.bx.v,zi e.bx.l,zi e.bx.i] 23);have k1:=zkd (heap_alloc_new (W.alloc (.cells (exA e A1 c1 A2 c2 A3 c3) 32)) (.cells (pgA q D1 e1 D2 e2 D3 e3) 30)) (.cells #[zi e.bx.v,zi e.bx.l,zi e.bx.i] 23);have k2:=heap_alloc_new ((W.alloc (.cells (exA e A1 c1 A2 c2 A3 c3) 32)).alloc (.cells (pgA q D1 e1 D2 e2 D3 e3) 30)) (.cells #[zi e.bx.v,zi e.bx.l,zi e.bx.i] 23);have kx:=heap_alloc_new W (.cells (exA e A1 c1 A2 c2 A3 c3) 32)
 obtain⟨x0,x1,x2,x3,x4,x5,x6,x7,x8,x9,aK,aJ⟩:=zo3 (zkd kx (.cells (pgA q D1 e1 D2 e2 D3 e3) 30));clear kx hg;go_enter func9,ntmps9;go_upto_region 2 with fail;obtain⟨w2,hw2⟩:=zX (((W.alloc (.cells (exA e A1 c1 A2 c2 A3 c3) 32)).alloc (.cells (pgA q D1 e1 D2 e2 D3 e3) 30)).alloc (.cells #[zi e.bx.v,zi e.bx.l,zi e.bx.i] 23));rw[hw2]at hb2 k0 k1 k2
 try rw[hw2]
 simp only[World.size_alloc,Nat.add_assoc,Nat.reduceAdd]at k1 k2;obtain⟨N,hN⟩:=zX (W.heap.size);rw[hN]at k0 k1 k2
 try rw[hN]
 try simp only[Nat.add_assoc,Nat.reduceAdd]
 clear x0 x1 x2 x3 x4 x5 x6 x7 x8 x9 aK aJ hw2 hN hok iH;have HB:=zh hb2;have dD:=zh (fun w' (h:zw w2 w')=>zo3 (zkc k0 h));have dx:=zh (fun w' (h:zw w2 w')=>box6 (zkc k1 h));have ax:=zh (fun w' (h:zw w2 w')=>zl6 (zkc k2 h));have bT:=zh (zs w2);clear hb2 k0 k1 k2;obtain⟨x0,x1,x2,x3,x4,x5,x6,x7,x8,x9,aK,aJ⟩:=dD.out _ bT.out;obtain⟨q0,q1,q2,q3,q4,q5⟩:=dx.out _ bT.out;obtain⟨y0,y1,y2⟩:=ax.out _ bT.out;go_wp2_with fail;refine(HSE.out _ HB.out).mono ?_;rintro en w3 ⟨sb,rfl,hsb,hb3⟩;have bH:=zh hsb;have aZ:=zh (zka bT.out hb3);clear hsb hb3;clear x0 x1 x2 x3 x4 x5 x6 x7 x8 x9 aK aJ q0 q1 q2 q3 q4 q5 y0 y1 y2;obtain⟨x0,x1,x2,x3,x4,x5,x6,x7,x8,x9,aK,aJ⟩:=dD.out _ aZ.out;obtain⟨q0,q1,q2,q3,q4,q5⟩:=dx.out _ aZ.out;obtain⟨y0,y1,y2⟩:=ax.out _ aZ.out
 cases sb
 ·go_wp2_with fail;go_ret;exact nP.out true _ (zka HB.out aZ.out) nofun
 go_wp2_with fail;refine(HSQ.out _ (zka HB.out aZ.out)).mono ?_;rintro en w4 ⟨sb,rfl,hsb,hb4⟩;have HS2:=zh hsb;have bL:=zh (zka aZ.out hb4);clear hsb hb4;clear x0 x1 x2 x3 x4 x5 x6 x7 x8 x9 aK aJ q0 q1 q2 q3 q4 q5 y0 y1 y2;obtain⟨x0,x1,x2,x3,x4,x5,x6,x7,x8,x9,aK,aJ⟩:=dD.out _ bL.out;obtain⟨q0,q1,q2,q3,q4,q5⟩:=dx.out _ bL.out;obtain⟨y0,y1,y2⟩:=ax.out _ bL.out
 cases sb
 ·go_wp2_with fail;go_ret;exact nP.out true _ (zka HB.out bL.out) nofun
 by_cases h300:(300:Int)<e.fu
 ·go_wp2_with fail;go_ret;exact nP.out true _ (zka HB.out bL.out) nofun
 go_wp2_with fail;refine(dG.out _ (zka HB.out bL.out)).mono ?_;rintro en w5 ⟨rfl,hb5⟩;have bK:=zh (zka bL.out hb5);clear hb5;clear x0 x1 x2 x3 x4 x5 x6 x7 x8 x9 aK aJ q0 q1 q2 q3 q4 q5 y0 y1 y2;obtain⟨x0,x1,x2,x3,x4,x5,x6,x7,x8,x9,aK,aJ⟩:=dD.out _ bK.out;obtain⟨q0,q1,q2,q3,q4,q5⟩:=dx.out _ bK.out;obtain⟨y0,y1,y2⟩:=ax.out _ bK.out
 cases ok
 ·go_wp2_with fail;go_ret;exact nP.out true _ (zka HB.out bK.out) nofun
 go_wp2_with fail;refine(lC.out _ (zka HB.out bK.out) trivial).mono ?_;rintro en w6 ⟨rfl,rfl⟩;go_wp2_with fail;go_ret;refine nP.out _ _ (zka HB.out bK.out) fun h=>⟨(bH.out trivial).1,zO,trivial,?_,(HS2.out trivial).2,(HS2.out trivial).1⟩
 have:e.fu<=300/\CN<=60:=by simpa using h
 exact this.2
end
section
open Go Go.RowKit
theorem zqs{v:Int}(hv:0<=v)(a m:Nat):(betE v a m).length=nLst (2*v+1).toNat (a,m):=by
 have h1:=zos hv a m;have h2:∀l:List Nat,(((l.map fun i=>(2*v+1).toNat ^ (a+i)).sum:Nat):Int)=(l.map fun i=>(2*v+1) ^ (a+i)).sum:=by
  intro l
  induction l with
  | nil=>rfl
  | cons i l ih =>
   rw[List.map_cons,List.sum_cons,List.map_cons,List.sum_cons,<-ih]
   push_cast
   rw[Int.toNat_of_nonneg zO]
 unfold nLst;have h3:=h2 (List.range (m+1-a));simp only;omega
theorem zzM{b:BX}{v:VD}(hb:b.ok=true)(hv:vdB v=true):(lstE b v).length=nLst (2*b.v+1).toNat (len1 b v):=by
 have hk:=zmx hb;unfold lstE len1;rcases zzf hv with⟨h1,h2⟩|⟨h1,h2,h3⟩|⟨h1,h2⟩
 ·rw[if_pos h1,if_neg zO,zqs hk.1.1];unfold fixE;rw[if_pos h1];rfl
 ·rw[if_neg zO,if_pos h1,if_neg zO,zqs hk.1.1];unfold fixE;rw[if_neg zO]
 ·rw[if_neg zO,if_neg zO,if_pos h1,zqs hk.1.1]
theorem zsH{b:BX}(hb:b.ok=true):∀(vs:List VD) (st:List SS),(∀v∈vs,vdB v=true)->(vs.foldl (fun st v=>stg st (lstE b v)) st).length=st.length*nAll (2*b.v+1).toNat (vs.map (len1 b))
 | [],st,_=>by simp[nAll]
 | v::vs,st,h=>by
  rw[List.foldl_cons,zsH hb vs _ fun u hu=>h u (by simp[hu]),zuH,zzM hb (h v zS),List.map_cons,nAll,Nat.mul_assoc]
theorem zs0(h:Nat):∀(a b:List Bn),nAll h (a++b)=nAll h a*nAll h b
 | [],b=>by simp[nAll]
 | x::a,b=>by rw[List.cons_append,nAll,nAll,zs0 h a b,Nat.mul_assoc]
theorem ztZ{α β:Type}(l:List α)(f:α->List β)(n:Nat)(h:∀x,(f x).length=n):(l.flatMap f).length=l.length*n:=by
 induction l with
 | nil=>simp
 | cons x l ih=>rw[List.flatMap_cons,List.length_append,ih,h,List.length_cons,Nat.add_mul];omega
theorem zLx{vs:List VD}{b:BX}(hok:(b.ok&&svB vs)=true)(h60:cntF vs b<=60):(allS b (lenE vs b)).length<=60:=by
 have h:=hok;simp only[Bool.and_eq_true]at h;have hk:=zmx h.1;have hr:=(zzx h.1 h60).all.2;have h1:(allU vs b).length=nAll (2*b.v+1).toNat (lenE vs b):=by
  unfold allU stgF lenE;rw[ztZ _ _ (betE b.v 0 b.i.toNat).length fun s=>zS,zsH h.1 vs _ fun v hv=>(zxa h.2).2 v hv,zs0,zqs hk.1.1];simp[nAll]
 have h2:=zKy (h:=(2*b.v+1).toNat) zO (bs:=lenE vs b) fun q hq=>((zmZ hok).2.2.1 q hq).1;rw[Int.toNat_of_nonneg zO]at h2;unfold allS;rw[List.length_map];omega
attribute [local go_sem] Oper.semAt_some
theorem zuV{l:List T}{e:Int}(h:e∈rejL l):e≠0:=by
 have:=(List.mem_filter.1 h).2;simpa using this
theorem zKY{q:PG}{e:Int}(h:e∈rjA q):e≠0:=by
 rcases List.mem_append.1 h with h|h
 ·obtain⟨l,hl,he⟩:=List.mem_flatten.1 h;obtain⟨r,-,rfl⟩:=List.mem_map.1 hl;exact zuV he
 ·exact zuV h
theorem zwr{vs:List VD}{q:PG}(h:admP vs q=0):zkx q=true/\chkN q=0/\rjT q=0/\q.vs=vs:=by
 unfold admP at h;by_cases h1:zkx q=true
 ·rw[if_pos h1]at h;by_cases h2:chkN q=0
  ·rw[if_pos h2]at h;by_cases h3:rjT q=0
   ·rw[if_pos h3]at h;by_cases h4:eqVs q.vs vs=true
    ·exact⟨h1,h2,h3,zmD.1 h4⟩
    ·rw[if_neg h4]at h;omega
   ·rw[if_neg h3]at h
    cases hr:rjA q with
    | nil=>rw[<-zzv,hr]at h3;exact absurd rfl h3
    | cons a l=>rw[hr]at h;exact absurd h (zKY (by rw[hr];simp))
  ·rw[if_neg h2]at h;omega
 ·rw[if_neg h1]at h;omega
theorem znG{e:EX}{q:PG}(h:admE e q=0):zk3 e=true/\zkx q=true/\chkN q=0/\rjT q=0/\q.vs=e.gv.vs:=by
 unfold admE at h;by_cases h1:zk3 e=true
 ·rw[if_pos h1]at h;exact⟨h1,zwr h⟩
 ·rw[if_neg h1]at h;omega
theorem zqG{e:EX}(h:zk3 e=true):0<=e.fu/\e.fu<=1000000/\okB e.gv=true/\okB (zkL e.gv)=true:=by
 simp only[zk3,Bool.and_eq_true,decide_eq_true_eq]at h;exact⟨h.1.1.1.2.1,h.1.1.1.2.2,h.1.1.2,h.1.2⟩
end
section
open Go Go.RowKit
end
end Go.Proofs.YthjinpodhacleaaGreat
