
/-
  Texts of the proof, put together without their remarks: Wfp, Pfi, Rxp, Pvl, Gpl, Alt, Alf, Gex, Gcm, Sve, Gad, If, Lfp, Gra, Gup, Grf, Gaw, Rpa, Rpb, Grs, Srp, Ipt, Sap, Sal, Und.
-/
import Derived.Test.YthjinpodhacleaaGreatS7
import Derived.Laws.StructEq
import Derived.Laws.OwnMore
set_option linter.unusedSimpArgs false
set_option linter.unusedVariables false
set_option maxHeartbeats 8000000
set_option maxRecDepth 100000
namespace Go.Proofs.YthjinpodhacleaaGreat
open Tryz
section
open Go Go.RowKit
def LitB(t:T):Prop:=∀u∈po t,Fld u.k u.n u.s
theorem NV.lit{w:World}{S:Nat->Prop}:∀(t:T) (v:Value),NV w S t v->LitB t:=by
 intro t
 induction t using T.ind with
 | _ k n s ks ih =>
  intro v hv u hu;obtain⟨A,c,-,hf,-,-,hrow⟩:=hv.open_;simp only[po,List.mem_cons]at hu;rcases hu with rfl|hu
  ·exact hf
  ·obtain⟨t,ht,hx⟩:=zlH.1 hu;obtain⟨i,hi,rfl⟩:=yN1 ht;obtain⟨a,u0,u1,u2,u3,-,-,-,hn⟩:=hrow i hi;exact ih _ ht _ hn u hx
theorem LitB.kid{k n:Int}{s:ByteArray}{ks:List T}(h:LitB (.nd k n s ks)){t:T}(ht:t∈ks):LitB t:=fun u hu=>h u (by simp only[po,List.mem_cons];exact .inr (zlH.2 ⟨t,ht,hu⟩))
theorem LitB.own{t:T}(h:LitB t):Fld t.k t.n t.s:=h t (by obtain⟨k,n,s,ks⟩:=t;simp[po])
theorem LitB.ev{look:ByteArray->Option (List Int)}(hl:∀s l,look s=some l->l.length<=100000/\∀x∈l,I64 x):∀t,LitB t->I64 (evE look t).1:=by
 intro t
 induction t using T.ind with
 | _ k n s ks ih =>
  intro h;rw[evE];refine zwn hl h.own.2.1 ?_;rw[znk,yI,List.getElem?_map];rcases hk:ks[0]? with _|u
  ·exact zero_I64
  ·exact ih u (yD1 hk) (h.kid (yD1 hk))
theorem LitB.expr{S:ST}(h:S.WF){t:T}(ht:LitB t):I64 (zkI S.look t).1:=by
 unfold zkI
 split
 ·exact LitB.ev (ztw h) _ ht
 ·exact zero_I64
theorem LitB.kidD{t:T}(h:LitB t)(i:Nat):LitB (Go.Proofs.YthjinpodhacleaaGreat.kid t i):=by
 obtain⟨k,n,s,ks⟩:=t;unfold Go.Proofs.YthjinpodhacleaaGreat.kid;rw[yI];rcases hk:(T.nd k n s ks).ks[i]? with _|u
 ·intro v hv;have:v=nil0:=by simpa[nil0,po,pos]using hv
  subst this;exact⟨⟨zY,zY⟩,⟨zY,zY⟩,yK _⟩
 ·exact h.kid (yD1 hk)
theorem LitB.block{t:T}(h:LitB t){u:T}(hu:u∈t.ks):LitB u:=by
 obtain⟨k,n,s,ks⟩:=t;exact h.kid hu
section
variable {S:ST}
theorem zzq(h:S.WF){s:ByteArray}{id:Nat}(hn:S.num s=some id):id<S.nc:=by
 obtain⟨kd,hw⟩:=h.cur;unfold ST.num at hn;obtain⟨i,-,h2⟩:=yI1.1 hn;exact hw.num id (yD1 h2)
theorem zxB(k x y:Int):I64 (updE k x y):=by
 unfold updE
 repeat' split
 all_goals first|exact zm5 _|exact zsa _
theorem zya(h:S.WF)(k:Int){id:Nat}(i:Nat){af:Nat}(hid:id<S.nc)(hs:CurK S af 3):(zlG S k id i af).2.WF:=by
 have bU:=hs.lt h;have hc:=h.cells af bU;unfold zlG
 split
 ·split
  ·exact h
  ·refine znq (zwX h af hs _ (by simp;omega) fun x hx=>?_) hid i 0 zero_I64;rcases yW.1 hx with hx|hx
   ·exact hc.2 x hx
   ·obtain rfl:=yE1.1 hx;exact zmO h hid i
 ·split
  ·exact h
  ·split
   ·exact h
   ·refine zwX (S:=S.put id i _) (znq h hid i _ (zmO h bU _)) af hs _ (by rw[List.length_take];omega) fun x hx=>hc.2 x (List.mem_of_mem_take hx)
theorem zoO(h:S.WF)(l m:List Int)(h1:l.length<=4096/\∀x∈l,I64 x)(h2:m.length<=4096/\∀x∈m,I64 x):({ S with tin:=l,tout:=m }:ST).WF:=⟨h.ex,h.ncalls,h.cells,h1,h2⟩
theorem zu6(h:S.WF)(k:Int){id:Nat}(i:Nat)(hid:id<S.nc):(zks S k id i).2.WF:=by
 unfold zks;have h1:=h.tin;have h2:=h.tout
 split
 ·split
  ·exact h
  ·rename_i y r he
   split
   ·exact h
   ·rw[he]at h1;exact znq (S:={ S with tin:=r }) (zoO h r S.tout ⟨by have:=h1.1;simp at this;omega,fun x hx=>h1.2 x (yA1 _ hx)⟩ h2) hid i y (h1.2 y (yY ..))
 ·split
  ·split
   ·exact h
   ·split
    ·exact h
    ·refine znq (S:={ S with tout:=S.tout.dropLast }) (zoO h S.tin S.tout.dropLast h1 ⟨by have:=h2.1;simp;omega,fun x hx=>h2.2 x (List.dropLast_subset _ hx)⟩) hid i _ ?_
     cases hl:S.tout.getLast? with
     | none=>exact zero_I64
     | some x=>exact h2.2 x (List.mem_of_getLast? hl)
  ·split
   ·split
    ·exact h
    ·refine znq (S:={ S with tin:=S.el id i::S.tin }) (zoO h _ S.tout ⟨by simp;omega,fun x hx=>?_⟩ h2) hid i 0 zero_I64;rcases List.mem_cons.1 hx with rfl|hx
     ·exact zmO h hid i
     ·exact h1.2 x hx
   ·split
    ·exact h
    ·refine znq (S:={ S with tout:=S.tout++[S.el id i] }) (zoO h S.tin _ h1 ⟨by simp;omega,fun x hx=>?_⟩) hid i 0 zero_I64;rcases yW.1 hx with hx|hx
     ·exact h2.2 x hx
     ·obtain rfl:=yE1.1 hx;exact zmO h hid i
theorem zwy{t:T}(h:(doE S t).1=0):isS t=true/\t.k≠56/\basB t.k=true/\fltE S.cur.vs t=0/\doE S t=zqP S t:=by
 unfold doE at h ⊢
 split at h
 ·cases h
 rename_i h1
 split at h
 ·cases h
 rename_i h2
 split at h
 ·cases h
 rename_i h3
 split at h
 ·rename_i h4;exact absurd h h4
 rename_i h4;rw[if_neg h1,if_neg h2,if_neg h3,if_neg h4];exact⟨by simpa using h1,h2,by simpa using h3,by simpa using h4,rfl⟩
theorem zvb(h:S.WF){k n:Int}{s:ByteArray}{ks:List T}(hf:fltE S.cur.vs (.nd k n s ks)=0)(hk:k=44\/k=45):∃af,S.num s=some af/\CurK S af 3:=by
 have hn:zox k=3:=by rcases hk with rfl|rfl<;>rfl
 obtain⟨u,h4,h5⟩:=zoC (zpk hf).1 (by rw[hn];decide);obtain⟨af,h6,h7⟩:=ztp h h4;exact⟨af,h6,by rw[h5,hn]at h7;exact h7⟩
theorem zzC(h:S.WF)(t:T):(doE S t).2.WF:=by
 unfold doE
 split
 ·exact h
 split
 ·exact h
 split
 ·exact h
 split
 ·exact h
 rename_i h1 h2 h3 h4;have hf:fltE S.cur.vs t=0:=by simpa using h4
 obtain⟨k,n,s,ks⟩:=t
 show(zll S k s (ks.getD 0 nil0) (ks.getD 1 nil0) (indE S.look (ks.getD 0 nil0)) (zk5 S k (ks.getD 1 nil0))).2.WF
 unfold zll
 split
 ·exact h
 unfold znA
 split
 ·exact h
 cases h5:S.num (ks.getD 0 nil0).s with
 | none=>exact h
 | some id =>
  have hid:=zzq h h5;dsimp only
  split
  ·unfold zkF
   split
   ·exact znq h hid _ _ (zxB _ _ _)
   ·split
    ·cases h6:S.num (ks.getD 1 nil0).s with
     | none=>exact h
     | some jd =>
      have hjd:=zzq h h6;dsimp only
      split
      ·exact znq (znq h hid _ _ (zmO h hjd _)) hjd _ _ (zmO h hid _)
      ·exact h
    ·split
     ·rename_i hk;obtain⟨af,h6,h7⟩:=zvb h hf hk;rw[h6];exact zya h _ _ hid h7
     ·exact zu6 h _ _ hid
  ·exact h
theorem zxG(h:S.WF)(t:T):(zlD S t).2.WF:=by
 obtain⟨k,n,s,ks⟩:=t;exact zzC h _
theorem zoD(h:S.WF)(v:VD)(hv:FldV v)(x:Int)(hx:I64 x)(hl:S.cur.vs.length+1<=4398046511000):(zkA S v x).2.WF:=by
 unfold zkA
 split
 ·exact h
 ·rename_i hk;have hk:=yF1.1 hk
  split
  ·exact h
  ·refine zsT h v hv _ ?_ ?_ ⟨fun e=>by rw[if_pos e];rfl,fun e=>zO,zO⟩ hl
   ·split<;>simp
   ·split
    ·intro y hy;obtain rfl:=yE1.1 hy;exact hx
    ·intro y hy;cases hy
theorem zrT(h:S.WF)(s:ByteArray)(x:Int):(zkv S s x).2.WF:=by
 unfold zkv
 split
 ·exact h
 ·split
  ·exact h
  ·exact zr0 h _ fun kd hw=>zzI hw
theorem zrP(h:S.WF)(ps:List VD)(ss:List ByteArray)(hf:∀v∈ps,FldV v)(hl:ps.length<=4398046511000):(zk7 S ps ss).2.WF:=by
 unfold zk7
 split
 ·exact h
 ·cases he:entL S.cur ⟨[],[],0⟩ (ps.zip ss)with
  | error e=>exact h
  | ok f =>
   unfold entR;dsimp only
   split
   ·exact h
   ·exact(zt0 h ps ss f hf hl he zO).1
theorem zvT(h:S.WF):(zld S).2.WF:=by
 unfold zld
 split
 ·exact h
 ·exact ztZ h
end
section
variable {o:Out} {f:RS->Out} {r r':RS} {F:Int} {t:T}
theorem zkr(h:o.bind f=.ok r'):∃r1,o=.ok r1/\f r1=.ok r':=by
 cases o with
 | gas=>cases h
 | err e=>cases h
 | ok r1=>exact⟨r1,rfl,h⟩
theorem zk0{R:Int×ST}(h:zkh r R=.ok r'):R.1=0/\r'={ r with S:=R.2 }:=by
 unfold zkh at h
 split at h
 ·cases h
 ·rename_i h0;injection h with h;exact⟨by simpa using h0,h.symm⟩
theorem zoS{f:Int->RS->Out}(h:valO t r f=.ok r'):(zkI r.S.look t).2=0/\f (zkI r.S.look t).1 r=.ok r':=by
 unfold valO at h
 split at h
 ·cases h
 ·rename_i h0;exact⟨by simpa using h0,h⟩
theorem zmY{f:Bool->RS->Out}(h:zk6 F t r f=.ok r'):(r.n:Int)<F/\(zkI r.S.look t).2=0/\f (decide ((zkI r.S.look t).1≠0)) { r with n:=r.n+1 }=.ok r':=by
 unfold zk6 at h;obtain⟨r1,h1,h2⟩:=zkr h;obtain⟨rfl,h3⟩:=zkB h1;obtain⟨h4,h5⟩:=zoS h2;exact⟨h3,h4,h5⟩
theorem zlN{b:Bool}(h:zko F t b r=.ok r'):(r.n:Int)<F/\(zkI r.S.look t).2=0/\decide ((zkI r.S.look t).1≠0)=b/\r'={ r with n:=r.n+1 }:=by
 unfold zko at h;obtain⟨h1,h2,h3⟩:=zmY h
 split at h3
 ·rename_i hb;injection h3 with h3;exact⟨h1,h2,hb,h3.symm⟩
 ·cases h3
end
structure RInv(r:RS):Prop where
 wf:r.S.WF
 fb:FB r.n r.S
 n:r.n<=1000000
structure Keep(r r':RS):Prop where
 base:r'.S.base=r.S.base
 calls:r'.S.calls=r.S.calls
 nc:r.S.nc<=r'.S.nc
section
variable {r r1 r':RS} {F:Int}
theorem Keep.refl(r:RS):Keep r r:=⟨rfl,rfl,zl⟩
theorem Keep.trans(h:Keep r r1)(h':Keep r1 r'):Keep r r':=⟨h'.base.trans h.base,h'.calls.trans h.calls,yB1 h.nc h'.nc⟩
theorem Keep.cur(h:Keep r r'):r'.S.cur=r.S.cur:=by unfold ST.cur;rw[h.base,h.calls]
theorem RInv.tick(h:RInv r)(hF:F<=1000000)(hn:(r.n:Int)<F):RInv { r with n:=r.n+1 }:=⟨h.wf,h.fb.mono (Nat.le_succ _),by simp only;omega⟩
theorem zoj{S:ST}(t:T):(doE S t).2.base=S.base/\(doE S t).2.calls=S.calls/\(doE S t).2.nc=S.nc:=by
 obtain⟨h1,h2,h3⟩:=zwz S t;exact⟨h1,h2,h3⟩
theorem zq8{S:ST}(t:T):(zlD S t).2.base=S.base/\(zlD S t).2.calls=S.calls/\(zlD S t).2.nc=S.nc:=by
 obtain⟨k,n,s,ks⟩:=t;exact zoj _
theorem zti{f:FR}(hf:f.cs.length=f.vs.length)(v:VD)(id:Nat):(f.push v id).pop=f:=by
 obtain⟨vs,cs,loc⟩:=f;simp only at hf;simp[FR.push,FR.pop,hf]
theorem zm7(S:ST)(f:FR):(S.setCur f).cur=f:=by
 unfold ST.setCur;by_cases h0:S.calls.length=0
 ·rw[if_pos h0];exact zmg (S:={ S with base:=f }) h0
 ·rw[if_neg h0,zmA (by simp;omega)];simp
theorem znt(S:ST):S.setCur S.cur=S:=by
 unfold ST.setCur;by_cases h0:S.calls.length=0
 ·rw[if_pos h0,zmg h0]
 ·rw[if_neg h0,zmA zO];simp
theorem zlB{f:T->RS->Out}:∀(l:List T) (r r':RS),(∀t∈l,∀r r',RInv r->f t r=.ok r'->RInv r'/\Keep r r')->RInv r->zkt f l r=.ok r'->RInv r'/\Keep r r'
 | [],r,r',_,hr,h=>by
  injection h with h;subst h;exact⟨hr,Keep.refl _⟩
 | t::ts,r,r',hf,hr,h=>by
  rw[zkt]at h;obtain⟨r1,h1,h2⟩:=zkr h;obtain⟨a1,a2⟩:=hf t (yY ..) r r1 hr h1;obtain⟨b1,b2⟩:=zlB ts r1 r' (fun u hu=>hf u (yA1 _ hu)) a1 h2;exact⟨b1,a2.trans b2⟩
theorem zpW(hF:F<=1000000){f:T->RS->Out}{entry test:T}{l1 l2:List T}(h1:∀t∈l1,∀r r',RInv r->f t r=.ok r'->RInv r'/\Keep r r')(h2:∀t∈l2,∀r r',RInv r->f t r=.ok r'->RInv r'/\Keep r r') :
  ∀(m:Nat) (r r':RS),RInv r->zle F f entry test l1 l2 m r=.ok r'->RInv r'/\Keep r r'
 | 0,_,_,_,h=>by cases h
 | m+1,r,r',hr,h=>by
  rw[zle]at h;obtain⟨ra,ha,h⟩:=zkr h;obtain⟨a1,a2⟩:=zlB l1 r ra h1 hr ha;obtain⟨hn,-,h⟩:=zmY h;have t1:=a1.tick hF hn;have k1:Keep r { ra with n:=ra.n+1 }:=⟨a2.base,a2.calls,a2.nc⟩
  split at h
  ·injection h with h;subst h;exact⟨t1,k1⟩
  ·obtain⟨rb,hb,h⟩:=zkr h;obtain⟨b1,b2⟩:=zlB l2 _ rb h2 t1 hb;obtain⟨rc,hc,h⟩:=zkr h;obtain⟨hn2,-,-,rfl⟩:=zlN hc;have t2:=b1.tick hF hn2;obtain⟨c1,c2⟩:=zpW hF h1 h2 m _ r' t2 h;exact⟨c1,(k1.trans b2).trans ⟨c2.base,c2.calls,c2.nc⟩⟩
def PrB(prs:List PR):Prop:=∀q∈prs,LitB q.b/\(∀v∈q.ps,FldV v)/\q.ps.length<=1000
theorem PrB.getD{prs:List PR}(h:PrB prs)(i:Nat):LitB (prs.getD i ⟨⟨#[]⟩,[],nil0⟩).b/\(∀v∈(prs.getD i ⟨⟨#[]⟩,[],nil0⟩).ps,FldV v)/\(prs.getD i ⟨⟨#[]⟩,[],nil0⟩).ps.length<=1000:=by
 rw[yI];rcases hk:prs[i]? with _|q
 ·refine⟨fun v hv=>?_,zS,zS⟩;have:v=nil0:=by simpa[nil0,po,pos]using hv
  subst this;exact⟨⟨zY,zY⟩,⟨zY,zY⟩,yK _⟩
 ·exact h q (yD1 hk)
theorem zqM{t:T}(h:LitB t)(k:Int)(hk:k=1\/k=3):FldV ⟨t.s,k,0⟩:=⟨h.own.2.2,by simp only;omega,by simp only;omega⟩
theorem zna{S:ST}{v:VD}{x:Int}(h:(zkA S v x).1=0):S.cur.at v.s=none/\(v.k=1\/v.k=3)/\(zkA S v x).2=(S.newCell (if v.k=1 then [x]else [])).setCur (S.cur.push v S.nc):=by
 unfold zkA at h ⊢
 split at h
 ·cases h
 ·rename_i h1
  split at h
  ·cases h
  ·rename_i h2;rw[if_neg h1,if_neg h2];exact⟨by simpa using h2,(yF1.1 h1).1,rfl⟩
theorem zpt{S:ST}{s:ByteArray}{x:Int}(h:(zkv S s x).1=0):0<S.cur.loc/\((znx S.cur).s.toList==s.toList)=true/\((znx S.cur).k=1->(S.cell (zpc S.cur)).getD 0 0=x)/\((znx S.cur).k=3->S.cell (zpc S.cur)=[])/\(zkv S s x).2=S.setCur S.cur.pop:=by
 unfold zkv at h ⊢
 split at h
 ·cases h
 ·rename_i h1
  split at h
  ·cases h
  ·rename_i h2;rw[if_neg h1,if_neg h2];simp only[not_or,not_and,yF1,Bool.not_eq_false]at h1 h2;refine⟨zO,h1.2,h2.1,fun e=>?_,rfl⟩;exact List.length_eq_zero_iff.1 (by have:=h2.2 e;omega)
theorem zrO{S:ST}{ps:List VD}{ss:List ByteArray}(h:(zk7 S ps ss).1=0):∃f,ps.length=ss.length/\entL S.cur ⟨[],[],0⟩ (ps.zip ss)=.ok f/\S.calls.length<100/\(zk7 S ps ss).2={ S with calls:=S.calls++[f] }:=by
 unfold zk7 at h ⊢
 split at h
 ·cases h
 ·rename_i h1;rw[if_neg h1]
  cases he:entL S.cur ⟨[],[],0⟩ (ps.zip ss)with
  | error e=>rw[he]at h;exact absurd h (ztN _ _ _ he)
  | ok f =>
   rw[he]at h;unfold entR at h ⊢;dsimp only at h ⊢
   split at h
   ·cases h
   ·rename_i h2;rw[if_neg h2];exact⟨f,yF1.1 h1,rfl,zO,rfl⟩
theorem zrs{S:ST}(h:(zld S).1=0):0<S.calls.length/\(zld S).2={ S with calls:=S.calls.take (S.calls.length-1) }:=by
 unfold zld at h ⊢
 split at h
 ·cases h
 ·rename_i h1;rw[if_neg h1];exact⟨zO,rfl⟩
theorem RInv.store{R:Int×ST}(h:RInv r)(hF:F<=1000000)(hn:(r.n:Int)<F)(hw:R.2.WF)(hf:FB (r.n+1) R.2):RInv { r with n:=r.n+1,S:=R.2 }:=⟨hw,hf,by simp only;omega⟩
theorem znb{S S2:ST}{v:VD}{x y:Int}{s:ByteArray}(hc:S.cur.cs.length=S.cur.vs.length)(h1:(zkA S v x).1=0)(hb:S2.base=(zkA S v x).2.base)(hcl:S2.calls=(zkA S v x).2.calls)(hn:(zkA S v x).2.nc<=S2.nc)(h2:(zkv S2 s y).1=0) :
  (zkv S2 s y).2.base=S.base/\(zkv S2 s y).2.calls=S.calls/\S.nc<=(zkv S2 s y).2.nc:=by
 obtain⟨-,-,e1⟩:=zna h1;obtain⟨-,-,-,-,e2⟩:=zpt h2;rw[e1]at hb hcl hn;rw[e2];have bY:S2.cur=S.cur.push v S.nc:=by
  obtain⟨S3,qL⟩:=zX ((S.newCell (if v.k=1 then [x]else [])).setCur (S.cur.push v S.nc));rw[qL]at hb hcl;have:S2.cur=S3.cur:=by unfold ST.cur;rw[hb,hcl]
  rw[this,<-qL,zm7]
 rw[bY,zti hc];have hs:=znt S;unfold ST.setCur at hb hcl hn hs ⊢;by_cases h0:S.calls.length=0
 ·rw[if_pos (show(S.newCell _).calls.length=0 from h0)]at hb hcl hn;rw[if_pos h0]at hs;rw[if_pos (by rw[hcl];exact h0)];exact⟨by rw[zmg h0],hcl,by simp only[ST.newCell]at hn;simp only;omega⟩
 ·rw[if_neg (show ¬ (S.newCell _).calls.length=0 from h0)]at hb hcl hn;rw[if_neg h0]at hs;have hl:S2.calls.length=S.calls.length:=by rw[hcl];simp[ST.newCell]
  rw[if_neg zO];refine⟨hb,?_,by simp only[ST.newCell]at hn;simp only;omega⟩;simp only[hl];rw[hcl];simp only[ST.newCell,List.set_set];have:=congrArg ST.calls hs;exact this
end
theorem zlA{prs:List PR}{F:Int}(hF:F<=1000000)(hp:PrB prs):∀(g:Nat) (back:Bool) (t:T) (r r':RS),LitB t->RInv r->zkn prs F g back t r=.ok r'->RInv r'/\Keep r r'
 | 0,_,_,_,_,_,_,h=>by cases h
 | g+1,back,t,r,r',ht,hr,h=>by
  have hb:∀back (b:T),LitB b->∀r r',RInv r->zkt (zkn prs F g back) (blkL back b) r=.ok r'->RInv r'/\Keep r r':=fun back b hb r r' hr h =>
   zlB _ r r' (fun u hu r r' hr h=>zlA hF hp g back u r r' (hb.block (zkD hu)) hr h) hr h
  have sI:LitB (fstT back t):=by unfold fstT;split<;>exact ht.kidD _
  rw[zkn]at h
  split at h
  ·obtain⟨hn,-,h⟩:=zmY h;obtain⟨r1,h1,h⟩:=zkr h;obtain⟨a1,a2⟩:=hb back _ (by split<;>exact ht.kidD _) _ r1 (hr.tick hF hn) h1;obtain⟨hn2,-,-,rfl⟩:=zlN h;exact⟨a1.tick hF hn2,⟨a2.base,a2.calls,a2.nc⟩⟩
  split at h
  ·obtain⟨r1,h1,h⟩:=zkr h;obtain⟨hn,-,-,rfl⟩:=zlN h1;obtain⟨a1,a2⟩:=zpW hF (fun u hu r r' hr h=>zlA hF hp g back u r r' ((ht.kidD 1).block (zkD hu)) hr h) (fun u hu r r' hr h=>zlA hF hp g back u r r' ((ht.kidD 2).block (zkD hu)) hr h) g _ r' (hr.tick hF hn) h;exact⟨a1,⟨a2.base,a2.calls,a2.nc⟩⟩
  split at h
  ·obtain⟨r1,h1,h⟩:=zkr h;obtain⟨rfl,hn⟩:=zkB h1;obtain⟨-,h⟩:=zoS h;obtain⟨r2,h2,h⟩:=zkr h;obtain⟨e0,rfl⟩:=zk0 h2;obtain⟨r3,h3,h⟩:=zkr h;obtain⟨a1,a2⟩:=hb back _ (ht.kidD 1) _ r3 (RInv.store hr hF hn (zoD hr.wf _ (zqM ht 1 (.inl rfl)) _ (LitB.expr hr.wf sI) (by have:=hr.fb.cur;have:=hr.n;omega)) (hr.fb.open_ _ _)) h3;obtain⟨r4,h4,h⟩:=zkr h;obtain⟨rfl,hn2⟩:=zkB h4;obtain⟨-,h⟩:=zoS h;obtain⟨e1,rfl⟩:=zk0 h;obtain⟨kd,hw⟩:=hr.wf.cur;obtain⟨k1,k2,k3⟩:=znb hw.len e0 a2.base a2.calls a2.nc e1;exact⟨RInv.store a1 hF hn2 (zrT a1.wf _ _) (a1.fb.close_ _ _),⟨k1,k2,k3⟩⟩
  split at h
  ·obtain⟨r1,h1,h⟩:=zkr h;obtain⟨rfl,hn⟩:=zkB h1;obtain⟨r2,h2,h⟩:=zkr h;obtain⟨e0,rfl⟩:=zk0 h2;obtain⟨r3,h3,h⟩:=zkr h;obtain⟨a1,a2⟩:=hb back _ (ht.kidD 0) _ r3 (RInv.store hr hF hn (zoD hr.wf _ (zqM ht 3 (.inr rfl)) _ zero_I64 (by have:=hr.fb.cur;have:=hr.n;omega)) (hr.fb.open_ _ _)) h3;obtain⟨r4,h4,h⟩:=zkr h;obtain⟨rfl,hn2⟩:=zkB h4;obtain⟨e1,rfl⟩:=zk0 h;obtain⟨kd,hw⟩:=hr.wf.cur;obtain⟨k1,k2,k3⟩:=znb hw.len e0 a2.base a2.calls a2.nc e1;exact⟨RInv.store a1 hF hn2 (zrT a1.wf _ _) (a1.fb.close_ _ _),⟨k1,k2,k3⟩⟩
  split at h
  ·split at h
   ·cases h
   ·rename_i i hi;obtain⟨q1,q2,q3⟩:=hp.getD i;obtain⟨r1,h1,h⟩:=zkr h;obtain⟨rfl,hn⟩:=zkB h1;obtain⟨r2,h2,h⟩:=zkr h;obtain⟨e0,rfl⟩:=zk0 h2;obtain⟨r3,h3,h⟩:=zkr h;have i1:=RInv.store hr hF hn (zrP hr.wf _ (t.ks.map (·.s)) q2 zO) (hr.fb.enter _ _ q3);have h12:=fun hI=>hb _ _ q1 _ r3 hI h3;obtain⟨a1,a2⟩:=h12 ⟨i1.wf,i1.fb,i1.n⟩;obtain⟨r4,h4,h⟩:=zkr h;obtain⟨rfl,hn2⟩:=zkB h4;obtain⟨e1,rfl⟩:=zk0 h;obtain⟨f,-,-,-,ef⟩:=zrO e0;obtain⟨-,el⟩:=zrs e1;have hbs:=a2.base;have hcs:=a2.calls;have hnc:=a2.nc;simp only at hbs hcs hnc;rw[ef]at hbs hcs hnc;refine⟨RInv.store a1 hF hn2 (zvT a1.wf) a1.fb.leave,⟨?_,?_,?_⟩⟩
    ·simp only;rw[el];exact hbs
    ·simp only;rw[el];simp only;rw[hcs];simp
    ·simp only;rw[el];exact hnc
  ·obtain⟨r1,h1,h⟩:=zkr h;obtain⟨rfl,hn⟩:=zkB h1;obtain⟨e0,rfl⟩:=zk0 h
   cases back
   ·obtain⟨k1,k2,k3⟩:=zoj (S:=r.S) t;exact⟨RInv.store hr hF hn (zzC hr.wf t) (hr.fb.do_ t),⟨k1,k2,Nat.le_of_eq k3.symm⟩⟩
   ·obtain⟨k1,k2,k3⟩:=zq8 (S:=r.S) t;exact⟨RInv.store hr hF hn (zxG hr.wf t) (hr.fb.undo t),⟨k1,k2,Nat.le_of_eq k3.symm⟩⟩
theorem zrd{prs:List PR}{F:Int}(hF:F<=1000000)(hp:PrB prs)(g:Nat)(back:Bool)(b:T)(r r':RS)(hb:LitB b)(hr:RInv r)(h:runO prs F g back b r=.ok r'):RInv r'/\Keep r r' :=
 zlB _ r r' (fun u hu r r' hr h=>zlA hF hp g back u r r' (hb.block (zkD hu)) hr h) hr h
theorem zqN:∀(vs:List VD) (ls:List (List Int)),(∀i (h:i<vs.length) (h':i<ls.length),fit1 vs[i] ls[i]=true)->zmq vs ls=true
 | [],_,_=>by simp[zmq]
 | _::_,[],_=>by simp[zmq]
 | v::vs,l::ls,h=>by
  rw[zmq,Bool.and_eq_true];exact⟨h 0 zS zS,zqN vs ls fun i hi hi'=>h (i+1) (by simpa using hi) (by simpa using hi')⟩
section
variable {vs:List VD} {s:SS} {r':RS} {e:List Nat}
theorem zrQ(hk:Keep ⟨newS vs s,0,e⟩ r'):r'.S.state.cells=(List.range vs.length).map r'.S.cell:=by
 unfold ST.state;rw[hk.base];simp[newS]
theorem zKI(hk:Keep ⟨newS vs s,0,e⟩ r'):Eqv r'.S (newS vs r'.S.state):=by
 have hn:=hk.nc;have hs:=zrQ hk;refine⟨fun a b=>a=b/\a<vs.length,⟨by rintro a b b' ⟨rfl,_⟩ ⟨rfl,_⟩;rfl,by rintro a a' b ⟨rfl,_⟩ ⟨rfl,_⟩;rfl,?_,?_,?_,?_,?_,rfl,rfl⟩⟩
 ·rintro a b ⟨rfl,h⟩;exact⟨yU1 h hn,h⟩
 ·rintro a b ⟨rfl,h⟩
  show(r'.S.state.cells).getD a []=_
  rw[hs,yI,List.getElem?_map,List.getElem?_range h];rfl
 ·rw[hk.base];refine⟨rfl,rfl,rfl,⟨by simp[newS],by simp[newS]⟩,fun i a b ha hb=>?_⟩;have ha':(List.range vs.length)[i]?=some a:=ha;have hb':(List.range vs.length)[i]?=some b:=hb;rw[ha']at hb';injection hb' with hb';exact⟨hb',List.mem_range.1 (yD1 ha')⟩
 ·rw[hk.calls];rfl
 ·intro i f g hf;rw[hk.calls]at hf;simp[newS]at hf
theorem zws(h0:fitB vs s=true)(hw:r'.S.WF)(hk:Keep ⟨newS vs s,0,e⟩ r'):fitB vs r'.S.state=true:=by
 have hs:=zrQ hk;obtain⟨kd,hb,-,hc⟩:=hw.ex;have hsv:svB vs=true:=by
  unfold fitB at h0;simp only[Bool.and_eq_true]at h0;exact h0.1.1.1.1
 unfold fitB;simp only[Bool.and_eq_true,yK1];refine⟨⟨⟨⟨hsv,by rw[hs];simp⟩,hw.tin.1⟩,hw.tout.1⟩,zqN _ _ fun i hi hi'=>?_⟩;have hbase:r'.S.base=⟨vs,List.range vs.length,0⟩:=hk.base;rw[hbase]at hb;have hki:=hb.kind i hi (by simpa using hi);simp only[List.getElem_range]at hki;have hii:=hb.num i (List.mem_range.2 hi);have hci:=hc i hii;have sD:=(hw.cells i hii).1;have e1:r'.S.state.cells[i]=r'.S.cell i:=by
  have:r'.S.state.cells[i]?=some (r'.S.cell i):=by rw[hs,List.getElem?_map,List.getElem?_range hi];rfl
  exact(yQ.1 this).2
 rw[e1];rw[hki]at hci;simp only at hci;unfold fit1 fixE;by_cases h3:vs[i].k=3
 ·rw[if_pos h3];simpa using sD
 ·rw[if_neg h3];by_cases h1:vs[i].k=1
  ·rw[if_pos h1];have:=hci.1 h1;simp[this]
  ·rw[if_neg h1];have h2:vs[i].k=2:=zO
   have:=hci.2.1 h2;simpa using this
end
theorem PV.lit{p:PG}{w:World}{S:Nat->Prop}{v:Value}(h:PV w S p v)(hv:zkR p=true):LitB p.m/\PrB p.prs/\∀u∈p.vs,FldV u:=by
 obtain⟨A1,c1,A2,c2,A3,c3,-,fZ⟩:=h;obtain⟨-,-,h3,-⟩:=zli hv;refine⟨NV.lit _ _ fZ.main,fun q hq=>?_,fun u hu=>?_⟩
 ·have hb:=(h3 q hq).1;obtain⟨i,hi,rfl⟩:=yN1 hq;obtain⟨a,B1,d1,B2,d2,-,-,-,hr⟩:=fZ.procs i hi;refine⟨NV.lit _ _ hr.body,fun v hv=>?_,zO⟩;obtain⟨j,hj,rfl⟩:=yN1 hv;obtain⟨-,-,-,-,hf⟩:=hr.row j hj;exact hf
 ·obtain⟨j,hj,rfl⟩:=yN1 hu;obtain⟨-,-,-,-,hf⟩:=fZ.vars j hj;exact hf
structure EX where
 nm:ByteArray
 pt:Int
 fu:Int
 bx:BX
 gv:PG
abbrev exA(e:EX)(A1:Option Addr)(c1:Nat)(A2:Option Addr)(c2:Nat)(A3:Option Addr)(c3:Nat):Array Value := #[.string e.nm,zi e.pt,zi e.fu,zi e.bx.v,zi e.bx.l,zi e.bx.i,.slice A1 e.gv.vs.length c1,.slice A2 e.gv.prs.length c2,zj e.gv.m.k,zi e.gv.m.n,.string e.gv.m.s,.slice A3 e.gv.m.ks.length c3]
def EV(w:World)(S:Nat->Prop)(e:EX)(v:Value):Prop:=∃A1 c1 A2 c2 A3 c3,v=.agg (exA e A1 c1 A2 c2 A3 c3)/\PgR w S e.gv A1 c1 A2 c2 A3 c3/\I64 e.fu
theorem PgR.pv{w:World}{S:Nat->Prop}{p:PG}{A1:Option Addr}{c1:Nat}{A2:Option Addr}{c2:Nat}{A3:Option Addr}{c3:Nat}(h:PgR w S p A1 c1 A2 c2 A3 c3):PV w S p (pv A1 p.vs.length c1 A2 p.prs.length c2 p.m.k p.m.n p.m.s A3 p.m.ks.length c3):=⟨A1,c1,A2,c2,A3,c3,rfl,h⟩
theorem EV.later{w w':World}{S:Nat->Prop}{e:EX}{v:Value}(h:EV w S e v)(hb:zw w w'):EV w' S e v:=by
 obtain⟨A1,c1,A2,c2,A3,c3,h1,h2,h3⟩:=h;exact⟨A1,c1,A2,c2,A3,c3,h1,h2.later hb,h3⟩
def zlc(e:EX):Bool:=zmx e.nm&&decide (1<=e.pt/\e.pt<=1000)&&decide (0<=e.fu/\e.fu<=1000000)&&okB e.gv&&okB (zkO e.gv)&&decide ((cntR e.gv.vs e.bx).2=0/\(cntR e.gv.vs e.bx).1<=65536)
def gerE(p:PG)(F:Int)(s:SS):Int:=(resO p s F (F.toNat*2000+2000) false).2.2.1
def gstE(p:PG)(F:Int)(s:SS):SS:=(resO p s F (F.toNat*2000+2000) false).1
def relG(p:PG)(F:Int)(s:SS):Bool:=gerE p F s==0
def rigG(p q:PG)(F:Int)(s:SS):Bool:=gerE q F (gstE p F s)==0&&eqS (gstE q F (gstE p F s)) s
def erG(p q:PG)(F:Int)(s:SS):Int:=gerE q F (gstE p F s)
def grdE(e:EX)(q:PG):Bool×Nat×SS×Int:=grE (relG e.gv e.fu) (rigG e.gv q e.fu) (erG e.gv q e.fu) 0 (allS e.bx (lenE e.gv.vs e.bx))
section
variable {P:Program} {md:Region.Mode} {ops:Array Oper} {Q:Exit->Act->World->Prop} {S1 S2:World->Prop} {k:Nat}
theorem zqr{i j:Nat}{oi oj:Oper}(si sj:Option Nat)(n:Nat)(L:Bool->Bool->Array Bool)(a0:Act)(Inv:World->Prop)(Al Fact:Value->World->Prop)
  (hoi:ops[i]?=some oi)(hoj:ops[j]?=some oj)(hdi:oi.dst=si)(hdj:oj.dst=sj)(hr0:Region.ready md ops (L false false)=[i,j])(hr1:Region.ready md ops (L false true)=[i])
  (hLi:∀l4,(L false l4).setIfInBounds i true=L true l4)(hLj:(L false false).setIfInBounds j true=L false true)
  (hS:∀w,Inv w->S1 w/\S2 w)(hInv:∀w w',Inv w->zw w w'->Inv w')(hAl:∀u w w',Al u w->zw w w'->Al u w')
  (hi:∀(v4:Value) (K:Act->World->Prop) (w:World),Inv w->Shut (∀v w',zw w w'->Fact v w'->K ((a0.put sj v4).put si v) w')->if Region.wanted oi (yielded ops (a0.put sj v4).tmps)=true then Oper.wp P oi (a0.put sj v4) w K Q else K ((a0.put sj v4).put si undef) w)
  (hj:∀(v4:Value) (K:Act->World->Prop) (w:World),Inv w->Shut (∀v w',zw w w'->Al v w'->K ((a0.put sj v4).put sj v) w')->if Region.wanted oj (yielded ops (a0.put sj v4).tmps)=true then Oper.wp P oj (a0.put sj v4) w K Q else K ((a0.put sj v4).put sj undef) w)
  (wN:∀u v,(a0.put sj u).put sj v=a0.put sj v)
  (hc:∀(l4:Bool) (v4 v:Value) (w:World),Inv w->Fact v w->(l4=true->Al v4 w)->(l4=false->v4=undef)->wpG P md ops Q S1 S2 k (n+(!l4).toNat) (L true l4) ((a0.put sj v4).put si v) w) :
  ∀(l4:Bool) (v4:Value) (w:World),Inv w->(l4=true->Al v4 w)->(l4=false->v4=undef)->a0.put sj v4=a0->wpG P md ops Q S1 S2 k (n+1+(!l4).toNat) (L false l4) a0 w:=by
 subst hdi hdj;have h1:∀(v4:Value) (w:World),Inv w->Al v4 w->wpG P md ops Q S1 S2 k (n+1) (L false true) (a0.put oj.dst v4) w:=by
  intro v4 w hI hA;refine⟨(fun h0=>by rw[hr1]at h0;cases h0),fun q hq=>?_⟩;rw[hr1]at hq;simp only[yE1]at hq;subst hq;refine wpOp_step hoi fun K' hK=>hi v4 K' w hI ?_;intro v w' hb hF;have hI':=hInv _ _ hI hb;refine hK _ _ ⟨⟨(hS _ hI').1,fun _=>(hS _ hI').2⟩,?_⟩;rw[hLi];exact hc true v4 v w' hI' hF (fun _=>hAl _ _ _ hA hb) (fun h=>by cases h)
 intro l4 v4 w hI hA hU ha
 cases l4
 ·have hv:=hU rfl;refine⟨(fun h0=>by rw[hr0]at h0;cases h0),fun q hq=>?_⟩;rw[hr0]at hq;simp only[List.mem_cons,List.not_mem_nil,or_false]at hq;rcases hq with rfl|rfl
  ·refine wpOp_step hoi fun K' hK=>?_;rw[<-ha];refine hi v4 K' w hI ?_;intro v w' hb hF;have hI':=hInv _ _ hI hb;refine hK _ _ ⟨⟨(hS _ hI').1,fun _=>(hS _ hI').2⟩,?_⟩;rw[hLi];exact hc false v4 v w' hI' hF (fun h=>by cases h) (fun _=>hv)
  ·refine wpOp_step hoj fun K' hK=>?_;rw[<-ha];refine hj v4 K' w hI ?_;intro v w' hb hF;have hI':=hInv _ _ hI hb;refine hK _ _ ⟨⟨(hS _ hI').1,fun _=>(hS _ hI').2⟩,?_⟩;rw[hLj,wN];exact h1 v w' hI' hF
 ·rw[<-ha];exact h1 v4 w hI (hA rfl)
theorem zs3{j:Nat}{oj:Oper}(sj:Option Nat)(n:Nat)(L:Bool->Array Bool)(a0:Act)(Inv:World->Prop)(Al:Value->World->Prop)
  (hoj:ops[j]?=some oj)(hdj:oj.dst=sj)(hr0:Region.ready md ops (L false)=[j])(hLj:(L false).setIfInBounds j true=L true)
  (hS:∀w,Inv w->S1 w/\S2 w)(hInv:∀w w',Inv w->zw w w'->Inv w')
  (hj:∀(v4:Value) (K:Act->World->Prop) (w:World),Inv w->Shut (∀v w',zw w w'->Al v w'->K ((a0.put sj v4).put sj v) w')->if Region.wanted oj (yielded ops (a0.put sj v4).tmps)=true then Oper.wp P oj (a0.put sj v4) w K Q else K ((a0.put sj v4).put sj undef) w)
  (wN:∀u v,(a0.put sj u).put sj v=a0.put sj v)
  (hc:∀(v4:Value) (w:World),Inv w->Al v4 w->wpG P md ops Q S1 S2 k n (L true) (a0.put sj v4) w) :
  ∀(l4:Bool) (v4:Value) (w:World),Inv w->(l4=true->Al v4 w)->a0.put sj v4=a0->wpG P md ops Q S1 S2 k (n+(!l4).toNat) (L l4) a0 w:=by
 subst hdj;intro l4 v4 w hI hA ha
 cases l4
 ·refine⟨(fun h0=>by rw[hr0]at h0;cases h0),fun q hq=>?_⟩;rw[hr0]at hq;simp only[yE1]at hq;subst hq;refine wpOp_step hoj fun K' hK=>?_;rw[<-ha];refine hj v4 K' w hI ?_;intro v w' hb hF;have hI':=hInv _ _ hI hb;refine hK _ _ ⟨⟨(hS _ hI').1,fun _=>(hS _ hI').2⟩,?_⟩;rw[hLj,wN];exact hc v w' hI' hF
 ·rw[<-ha];exact hc v4 w hI (hA rfl)
end
section
variable {P:Program} {md:Region.Mode} {ops:Array Oper} {Q:Exit->Act->World->Prop} {S1 S2:World->Prop} {k:Nat}
end
attribute [local go_sem] Oper.semAt_some
theorem zLl{W:World}{b:Nat}{x0 x1 x2 x3 x4 x5 u0 u1 u2 u3 u4 u5:Value}{E:TypeId}(h:W.heap[b]?=some (.cells #[x0,x1,x2,x3,x4,x5] E (0,0))) :
  ∃W',((((((W.setCell ⟨b,0,none⟩ u0).setCell ⟨b,1,none⟩ u1).setCell ⟨b,2,none⟩ u2).setCell ⟨b,3,none⟩ u3).setCell ⟨b,4,none⟩ u4).setCell ⟨b,5,none⟩ u5)=W'/\W'.heap[b]?=some (.cells #[u0,u1,u2,u3,u4,u5] E (0,0))/\Chg (fun q=>q=b) W W':=by
 refine⟨_,rfl,?_,((((((Chg.refl (fun q=>q=b) W).setCell (p:=⟨b,0,none⟩) (.inl rfl) _).setCell (p:=⟨b,1,none⟩) (.inl rfl) _).setCell (p:=⟨b,2,none⟩) (.inl rfl) _).setCell (p:=⟨b,3,none⟩) (.inl rfl) _).setCell (p:=⟨b,4,none⟩) (.inl rfl) _).setCell (p:=⟨b,5,none⟩) (.inl rfl) _⟩;simp only[World.setCell,Array.getElem?_modify,if_true,h,Option.map_some];rfl
theorem zor(p:PG)(v:Value)(w:World)(hv:PV w Any p v)(hval:zkR p=true) :
  Calls prog 36 #[v] w fun e w'=>∃v',e=.returned (.tuple #[v',zi 0])/\PV w' (From w.heap.size) (zkO p) v'/\zw w w':=by
 have BH:=zh (fun w' (h:zw w w')=>hv.later h);have eY:=zh (And.intro hval (And.intro (zoR hval).1 (zli hval).2.1));obtain⟨A1,c1,A2,c2,A3,c3,rfl,-⟩:=hv;have hb2:=zkb (zkb (zs w) (.cells #[.slice A1 p.vs.length c1,.slice A2 p.prs.length c2,zj p.m.k,zi p.m.n,.string p.m.s,.slice A3 p.m.ks.length c3] 30)) (.cells ZP 30);have k0:=zkd (yA w (.cells #[.slice A1 p.vs.length c1,.slice A2 p.prs.length c2,zj p.m.k,zi p.m.n,.string p.m.s,.slice A3 p.m.ks.length c3] 30)) (.cells ZP 30);have k1:=yA (w.alloc (.cells #[.slice A1 p.vs.length c1,.slice A2 p.prs.length c2,zj p.m.k,zi p.m.n,.string p.m.s,.slice A3 p.m.ks.length c3] 30)) (.cells ZP 30);rw[yS]at k1
 obtain⟨w2,hw2⟩:=zX ((w.alloc (.cells #[.slice A1 p.vs.length c1,.slice A2 p.prs.length c2,zj p.m.k,zi p.m.n,.string p.m.s,.slice A3 p.m.ks.length c3] 30)).alloc (.cells ZP 30));obtain⟨N,hN⟩:=zX (w.heap.size);rw[hw2]at hb2 k0 k1;have HZ2:=zh (show w2.heap.size=N+2 by rw[<-hw2,<-hN];simp);have HN:=zh hN;rw[hN]at k0 k1;have HC:=zh (zrz p Any _ w2 (BH.out _ hb2) eY.out.1 (.inr eY.out.2.1) eY.out.2.2);have HB2:=zh hb2;have az:=zh k1;obtain⟨p0,p1,p2,p3,p4,p5⟩:=box6 k0;clear hb2 k0 k1 hval;go_enter func36,ntmps36;go_upto_region 1 with fail
 try rw[hw2]
 try rw[hN]
 clear hw2 hN;go_wp2_with fail;refine HC.out.mono ?_;rintro e w3 ⟨v3,rfl,hv3,hb3⟩;have HV3:=zh hv3;have HB3:=zh hb3;obtain⟨B1,d1,B2,d2,B3,d3,rfl,-⟩:=hv3;have hk3:=zkc az.out hb3;obtain⟨q0,q1,q2,q3,q4,q5⟩:=box6 hk3;have cf:∀o,w3.frozen? ⟨N+1,o,none⟩=false:=fun o=>zf hk3;obtain⟨w4,hw4,hk4,hc4⟩:=zLl (u0:=.slice B1 (zkO p).vs.length d1) (u1:=.slice B2 (zkO p).prs.length d2) (u2:=zj (zkO p).m.k) (u3:=zi (zkO p).m.n) (u4:=.string (zkO p).m.s) (u5:=.slice B3 (zkO p).m.ks.length d3) hk3;have ax:=zh (show zw w w4 from(zka HB2.out hb3).trans (hc4.below (zka HB2.out hb3).size fun b h=>by have h:b=N+1:=h;have:=HN.out;omega))
 have HV4:=zh (show PV w4 (From w.heap.size) (zkO p) (pv B1 (zkO p).vs.length d1 B2 (zkO p).prs.length d2 (zkO p).m.k (zkO p).m.n (zkO p).m.s B3 (zkO p).m.ks.length d3)from HV3.out.keep (fun q h _=>by have h:w2.heap.size<=q:=h;have:=HZ2.out;have:=HN.out;show w.heap.size<=q;omega) fun q h hlt=>hc4.block q hlt fun e=>by have h:w2.heap.size<=q:=h;have e:q=N+1:=e;have:=HZ2.out;omega);have r:=box6 hk4;clear hb3 hk3 hc4 hk4 p0 p1 p2 p3 p4 p5;obtain⟨r0,r1,r2,r3,r4,r5⟩:=r;go_wp2_with fail;exact bodyPost_ret (v:=.tuple #[pv B1 (zkO p).vs.length d1 B2 (zkO p).prs.length d2 (zkO p).m.k (zkO p).m.n (zkO p).m.s B3 (zkO p).m.ks.length d3,zi 0]) (by simp[results,results36,go_sem,r0,r1,r2,r3,r4,r5]) rfl ⟨_,rfl,HV4.out,ax.out⟩
abbrev exS(w:World)(b:Nat)(e:EX)(A1:Option Addr)(c1:Nat)(A2:Option Addr)(c2:Nat)(A3:Option Addr)(c3:Nat):Prop:=w.cell? ⟨b,0,none⟩=some (.string e.nm)/\w.cell? ⟨b,1,none⟩=some (zi e.pt)/\w.cell? ⟨b,2,none⟩=some (zi e.fu)/\w.cell? ⟨b,3,none⟩=some (zi e.bx.v)/\w.cell? ⟨b,4,none⟩=some (zi e.bx.l)/\w.cell? ⟨b,5,none⟩=some (zi e.bx.i) /\
 w.cell? ⟨b,6,none⟩=some (.slice A1 e.gv.vs.length c1)/\w.cell? ⟨b,7,none⟩=some (.slice A2 e.gv.prs.length c2)/\w.cell? ⟨b,8,none⟩=some (zj e.gv.m.k)/\w.cell? ⟨b,9,none⟩=some (zi e.gv.m.n)/\w.cell? ⟨b,10,none⟩=some (.string e.gv.m.s)/\w.cell? ⟨b,11,none⟩=some (.slice A3 e.gv.m.ks.length c3)
theorem zmr{w:World}{b:Nat}{e:EX}{A1:Option Addr}{c1:Nat}{A2:Option Addr}{c2:Nat}{A3:Option Addr}{c3:Nat}(h:w.heap[b]?=some (.cells (exA e A1 c1 A2 c2 A3 c3) 32 (0,0))):exS w b e A1 c1 A2 c2 A3 c3 :=
 ⟨zc h rfl,zc h rfl,zc h rfl,zc h rfl,zc h rfl,zc h rfl,zc h rfl,zc h rfl,zc h rfl,zc h rfl,zc h rfl,zc h rfl⟩
theorem zmX{p:PG}(h:okB p=true):zkR p=true/\chkN p=0/\rjT p=0:=by
 simp only[okB,Bool.and_eq_true,yK1]at h;exact⟨h.1.1,h.1.2,h.2⟩
theorem znB(e:EX)(v:Value)(w:World)(hv:EV w Any e v):Calls prog 15 #[v] w (zu (.bool (zlc e)) w):=by
 obtain⟨A1,c1,A2,c2,A3,c3,rfl,hg,-⟩:=hv;have hb2:=zkb (zs w) (.cells (exA e A1 c1 A2 c2 A3 c3) 32);have k0:=yA w (.cells (exA e A1 c1 A2 c2 A3 c3) 32);obtain⟨w2,hw2⟩:=zX (w.alloc (.cells (exA e A1 c1 A2 c2 A3 c3) 32));obtain⟨N,hN⟩:=zX (w.heap.size);rw[hw2]at hb2 k0;rw[hN]at k0;have HB:=zh hb2;have HK:=zh (fun w' (h:zw w2 w')=>zmr (zkc k0 h));have HG:=zh (fun w' (h:zw w2 w')=>(hg.later hb2).later h);have df:=zh (zs w2);have xD:=zh (zoP e.nm w2);obtain⟨NB,tL⟩:=zX (zmx e.nm);have qp:=zh tL;rw[tL]at xD;obtain⟨OB,AV⟩:=zX (okB e.gv);have qi:=zh AV;have eY:=zh (fun w' (h:zw w2 w')=>zzJ e.gv _ w' (HG.out _ h).pv);simp only[AV]at eY;obtain⟨IB,hIB⟩:=zX (okB (zkO e.gv));have BU:=zh hIB;obtain⟨VX,lS⟩:=zX (zlc e);have gJ:=zh lS;rw[lS];clear hb2 k0 hg tL AV hIB lS
 obtain⟨x0,x1,x2,x3,x4,x5,x6,x7,x8,x9,aL,aK⟩:=HK.out _ df.out;go_enter func15,ntmps15;go_upto_region 1 with fail
 try rw[hw2]
 try rw[hN]
 clear hw2 hN;go_wp2_with fail;refine xD.out.mono ?_;rintro en w3 ⟨rfl,hb3⟩;have bB:=zh (zka df.out hb3);clear x0 x1 x2 x3 x4 x5 x6 x7 x8 x9 aL aK hb3 xD;obtain⟨x0,x1,x2,x3,x4,x5,x6,x7,x8,x9,aL,aK⟩:=HK.out _ bB.out
 cases NB
 ·have HF:=zh (show zlc e=false by unfold zlc;rw[qp.out];rfl);go_wp2_with fail;go_ret;exact⟨by rw[<-gJ.out,HF.out];rfl,zka HB.out bB.out⟩
 by_cases h1:e.pt<1
 ·have HF:=zh (show zlc e=false by unfold zlc;rw[yM1 (show ¬ (1<=e.pt/\e.pt<=1000) by omega)];simp);go_wp2_with fail;go_ret;exact⟨by rw[<-gJ.out,HF.out];rfl,zka HB.out bB.out⟩
 by_cases h2:(1000:Int)<e.pt
 ·have HF:=zh (show zlc e=false by unfold zlc;rw[yM1 (show ¬ (1<=e.pt/\e.pt<=1000) by omega)];simp);go_wp2_with fail;go_ret;exact⟨by rw[<-gJ.out,HF.out];rfl,zka HB.out bB.out⟩
 by_cases h3:e.fu<0
 ·have HF:=zh (show zlc e=false by unfold zlc;rw[yM1 (show ¬ (0<=e.fu/\e.fu<=1000000) by omega)];simp);go_wp2_with fail;go_ret;exact⟨by rw[<-gJ.out,HF.out];rfl,zka HB.out bB.out⟩
 by_cases h4:(1000000:Int)<e.fu
 ·have HF:=zh (show zlc e=false by unfold zlc;rw[yM1 (show ¬ (0<=e.fu/\e.fu<=1000000) by omega)];simp);go_wp2_with fail;go_ret;exact⟨by rw[<-gJ.out,HF.out];rfl,zka HB.out bB.out⟩
 have yO:=zh (show(1<=e.pt/\e.pt<=1000)/\(0<=e.fu/\e.fu<=1000000) by omega);go_wp2_with fail;refine(eY.out _ bB.out).mono ?_;rintro en w4 ⟨rfl,hb4⟩;have dB:=zh (zka bB.out hb4);clear x0 x1 x2 x3 x4 x5 x6 x7 x8 x9 aL aK hb4 h1 h2 h3 h4;obtain⟨x0,x1,x2,x3,x4,x5,x6,x7,x8,x9,aL,aK⟩:=HK.out _ dB.out
 cases OB
 ·have HF:=zh (show zlc e=false by unfold zlc;rw[qi.out];simp);go_wp2_with fail;go_ret;exact⟨by rw[<-gJ.out,HF.out];rfl,zka HB.out dB.out⟩
 have xL:=zh (zor e.gv _ w4 (HG.out _ dB.out).pv (zmX qi.out).1);go_wp2_with fail;refine xL.out.mono ?_;rintro en w5 ⟨v5,rfl,hv5,hb5⟩;have HV5:=zh hv5;obtain⟨B1,d1,B2,d2,B3,d3,rfl,-⟩:=hv5;have hb6:=zkb hb5 (.cells #[.slice B1 (zkO e.gv).vs.length d1,.slice B2 (zkO e.gv).prs.length d2,zj (zkO e.gv).m.k,zi (zkO e.gv).m.n,.string (zkO e.gv).m.s,.slice B3 (zkO e.gv).m.ks.length d3] 30);have k6:=yA w5 (.cells #[.slice B1 (zkO e.gv).vs.length d1,.slice B2 (zkO e.gv).prs.length d2,zj (zkO e.gv).m.k,zi (zkO e.gv).m.n,.string (zkO e.gv).m.s,.slice B3 (zkO e.gv).m.ks.length d3] 30)
 have hv6:=HV5.out.later (zkb (zs w5) (.cells #[.slice B1 (zkO e.gv).vs.length d1,.slice B2 (zkO e.gv).prs.length d2,zj (zkO e.gv).m.k,zi (zkO e.gv).m.n,.string (zkO e.gv).m.s,.slice B3 (zkO e.gv).m.ks.length d3] 30));go_upto_region 6 with fail;obtain⟨w6,jP⟩:=zX (w5.alloc (.cells #[.slice B1 (zkO e.gv).vs.length d1,.slice B2 (zkO e.gv).prs.length d2,zj (zkO e.gv).m.k,zi (zkO e.gv).m.n,.string (zkO e.gv).m.s,.slice B3 (zkO e.gv).m.ks.length d3] 30));obtain⟨N6,AZ⟩:=zX (w5.heap.size);rw[jP]at hb6 k6 hv6
 try rw[jP]
 rw[AZ]at k6
 try rw[AZ]
 have kr:=zh (zka dB.out hb6);have BI:=zh (zzJ (zkO e.gv) _ w6 (hv6.keep (S':=Any) (fun _ _ _=>trivial) fun _ _ _=>rfl));rw[BU.out]at BI;obtain⟨p0,p1,p2,p3,p4,p5⟩:=box6 k6;clear x0 x1 x2 x3 x4 x5 x6 x7 x8 x9 aL aK hb5 hb6 k6 hv6 jP AZ xL HV5;go_wp2_with fail;refine BI.out.mono ?_;rintro en w7 ⟨rfl,gG⟩;have ma:=zh (zka kr.out gG);clear p0 p1 p2 p3 p4 p5 gG BI;obtain⟨x0,x1,x2,x3,x4,x5,x6,x7,x8,x9,aL,aK⟩:=HK.out _ ma.out
 cases IB
 ·have HF:=zh (show zlc e=false by unfold zlc;rw[BU.out];simp);go_wp2_with fail;go_ret;exact⟨by rw[<-gJ.out,HF.out];rfl,zka HB.out ma.out⟩
 have oL:=zh (zxn e.gv.vs e.bx A1 c1 w7 (HG.out _ ma.out).vars (HG.out _ ma.out).lv);obtain⟨R,hR⟩:=zX (cntR e.gv.vs e.bx);have HR:=zh hR;rw[hR]at oL;clear hR;have HVE:=zh (show zlc e=decide (R.2=0/\R.1<=65536) by
  unfold zlc;rw[qp.out,qi.out,BU.out,yL1 yO.out.1,yL1 yO.out.2,HR.out];simp)
 go_wp2_with fail;refine oL.out.mono ?_;rintro en w8 ⟨rfl,dX⟩;have rC:=zh (zka ma.out dX);clear x0 x1 x2 x3 x4 x5 x6 x7 x8 x9 aL aK dX oL;by_cases hr:R.2=0
 ·have hr1:(R.2==0)=true:=by simp[hr]
  go_wp2_with fail;go_ret;have e1:decide (R.1<=65536)=VX:=by rw[<-gJ.out,HVE.out];exact decide_eq_decide.2 ⟨fun h=>⟨hr,h⟩,fun h=>h.2⟩
  exact⟨congrArg (fun b=>Ending.returned (.bool b)) e1,zka HB.out rC.out⟩
 ·have hr1:(R.2==0)=false:=by simp[hr]
  go_wp2_with fail;go_ret;have e1:VX=false:=by rw[<-gJ.out,HVE.out];exact yM1 fun h=>hr h.1
  exact⟨congrArg (fun b=>Ending.returned (.bool b)) e1.symm,zka HB.out rC.out⟩
end
section
open Go Go.RowKit
attribute [local go_sem] Oper.semAt_some
theorem zLG:IsFn prog 14 f14:=⟨func14,zK,zK⟩
theorem al4G(W:World)(o0 o1 o2 o3:Obj):zw W ((((W.alloc o0).alloc o1).alloc o2).alloc o3)/\((((W.alloc o0).alloc o1).alloc o2).alloc o3).heap.size=W.heap.size+4/\((((W.alloc o0).alloc o1).alloc o2).alloc o3).heap[W.heap.size]?=some o0/\((((W.alloc o0).alloc o1).alloc o2).alloc o3).heap[W.heap.size+1]?=some o1/\((((W.alloc o0).alloc o1).alloc o2).alloc o3).heap[W.heap.size+2]?=some o2/\((((W.alloc o0).alloc o1).alloc o2).alloc o3).heap[W.heap.size+3]?=some o3 :=
 ⟨zkb (zkb (zkb (zkb zr _) _) _) _,zS,zkd (zkd (zkd (zpy _ rfl _) _) _) _,zkd (zkd (zpy _ zS _) _) _,zkd (zpy _ zS _) _,zpy _ zS _⟩
abbrev pgA(p:PG)(A1:Option Addr)(c1:Nat)(A2:Option Addr)(c2:Nat)(A3:Option Addr)(c3:Nat):Array Value := #[.slice A1 p.vs.length c1,.slice A2 p.prs.length c2,zj p.m.k,zi p.m.n,.string p.m.s,.slice A3 p.m.ks.length c3]
abbrev stC(w':World)(b:Nat)(A:Option Addr)(l c:Nat)(B:Option Addr)(m d:Nat)(D:Option Addr)(n e:Nat):Prop:=w'.cell? ⟨b,0,none⟩=some (.slice A l c)/\w'.cell? ⟨b,1,none⟩=some (.slice B m d)/\w'.cell? ⟨b,2,none⟩=some (.slice D n e)
abbrev reS(w:World)(b:Nat)(A:Option Addr)(l c:Nat)(B:Option Addr)(l2 c2:Nat)(D:Option Addr)(l3 c3:Nat)(n e:Int):Prop:=w.cell? ⟨b,0,none⟩=some (.slice A l c)/\w.cell? ⟨b,1,none⟩=some (.slice B l2 c2)/\w.cell? ⟨b,2,none⟩=some (.slice D l3 c3)/\w.cell? ⟨b,3,none⟩=some (zi n)/\w.cell? ⟨b,4,none⟩=some (zi e)
theorem zL8{w:World}{b l c l2 c2 l3 c3:Nat}{A B D:Option Addr}{n e:Int}(h:w.heap[b]?=some (.cells #[.slice A l c,.slice B l2 c2,.slice D l3 c3,zi n,zi e] 58 (0,0))):reS w b A l c B l2 c2 D l3 c3 n e :=
 ⟨zc h rfl,zc h rfl,zc h rfl,zc h rfl,zc h rfl⟩
theorem zrD{W:World}{e:EX}{q:PG}{s1 s:SS}{ev qv v1 v:Value}(he:EV W Any e ev)(hq:PV W Any q qv)(h1:SV W Any s1 v1)(h:SV W Any s v)(hc:s1.cells.length<=2000000)(hF:e.fu<=1000000) :
  Calls prog 30 #[ev,qv,v1,v] W (zu (.tuple #[.bool (gerE q e.fu s1==0&&eqS (gstE q e.fu s1) s),zi (gerE q e.fu s1)]) W):=by
 have HQ:=zh (fun w' (hb:zw W w')=>hq.later hb);have bP:=zh (fun w' (hb:zw W w')=>h1.later hb);have HS:=zh (fun w' (hb:zw W w')=>h.later hb);obtain⟨A1,c1,A2,c2,A3,c3,rfl,-,hI⟩:=he;obtain⟨D1,e1,D2,e2,D3,e3,rfl,-⟩:=hq;obtain⟨Aa,ca,Ba,da,Da,ea,rfl⟩:∃A c B d D e,v1=.agg #[.slice A s1.cells.length c,.slice B s1.tin.length d,.slice D s1.tout.length e]:=by
  obtain⟨A,c,B,d,D,e,h,-⟩:=h1;exact⟨_,_,_,_,_,_,h⟩
 obtain⟨Ab,cb,Bb,db,Db,eb,rfl⟩:∃A c B d D e,v=.agg #[.slice A s.cells.length c,.slice B s.tin.length d,.slice D s.tout.length e]:=by
  obtain⟨A,c,B,d,D,e,h,-⟩:=h;exact⟨_,_,_,_,_,_,h⟩
 obtain⟨hb2,hz2,k0,k1,k2,k3⟩:=al4G W (.cells (exA e A1 c1 A2 c2 A3 c3) 32) (.cells (pgA q D1 e1 D2 e2 D3 e3) 30) (.cells #[.slice Aa s1.cells.length ca,.slice Ba s1.tin.length da,.slice Da s1.tout.length ea] 44) (.cells #[.slice Ab s.cells.length cb,.slice Bb s.tin.length db,.slice Db s.tout.length eb] 44);obtain⟨w2,hw2⟩:=zX ((((W.alloc (.cells (exA e A1 c1 A2 c2 A3 c3) 32)).alloc (.cells (pgA q D1 e1 D2 e2 D3 e3) 30)).alloc (.cells #[.slice Aa s1.cells.length ca,.slice Ba s1.tin.length da,.slice Da s1.tout.length ea] 44)).alloc (.cells #[.slice Ab s.cells.length cb,.slice Bb s.tin.length db,.slice Db s.tout.length eb] 44));obtain⟨N,hN⟩:=zX (W.heap.size);rw[hw2]at hb2 hz2 k0 k1 k2 k3;rw[hN]at hz2 k0 k1 k2 k3;have HB2:=zh hb2;have fA:=zh k3;have Ca:=zh (znF q s1 e.fu (e.fu.toNat*2000+2000) _ _ w2 (HQ.out _ hb2) (bP.out _ hb2) zO hI hF zl)
 have yT:=zh (show gerE q e.fu s1=(resO q s1 e.fu (e.fu.toNat*2000+2000) false).2.2.1/\gstE q e.fu s1=(resO q s1 e.fu (e.fu.toNat*2000+2000) false).1 from⟨rfl,rfl⟩);obtain⟨GE,hGE⟩:=zX (gerE q e.fu s1);obtain⟨GS,hGS⟩:=zX (gstE q e.fu s1);rw[hGE,hGS]at yT ⊢;generalize resO q s1 e.fu (e.fu.toNat*2000+2000) false=R at Ca yT;have x2:w2.cell? ⟨N,2,none⟩=some (zi e.fu):=zc k0 rfl;obtain⟨q0,q1,q2,q3,q4,q5⟩:=box6 k1;obtain⟨y0,y1,y2⟩:=zmb k2;clear hb2 hz2 k0 k1 k2 k3 h1 h hI hc hF hGE hGS;go_enter func30,ntmps30;go_upto_region 1 with fail
 try rw[hw2]
 try rw[hN]
 try simp only[Nat.add_assoc,Nat.reduceAdd]
 clear hw2 hN;go_wp2_with fail;refine Ca.out.mono ?_;rintro en w3 ⟨u1,u2,u3,rfl,ho,hb3,hl⟩;obtain⟨Ac,cc,Bc,dc,Dc,ec,hu⟩:=ho.slices;injection hu with hu;simp only[Array.mk.injEq,List.cons.injEq,and_true]at hu;obtain⟨rfl,rfl,rfl⟩:=hu;have hsv:=ho.sv hl.1;have HB3:=zh (zka HB2.out hb3);have hb4:=zkb hb3 (.cells #[.slice Ac R.1.cells.length cc,.slice Bc R.1.tin.length dc,.slice Dc R.1.tout.length ec,zi (R.2.1:Int),zi R.2.2.1] 58);have k4:=yA w3 (.cells #[.slice Ac R.1.cells.length cc,.slice Bc R.1.tin.length dc,.slice Dc R.1.tout.length ec,zi (R.2.1:Int),zi R.2.2.1] 58);have hs4:=hsv.later (zkb (zs w3) (.cells #[.slice Ac R.1.cells.length cc,.slice Bc R.1.tin.length dc,.slice Dc R.1.tout.length ec,zi (R.2.1:Int),zi R.2.2.1] 58));clear x2 q0 q1 q2 q3 q4 q5 y0 y1 y2 hsv hl ho hb3 Ca;go_upto_region 2 with fail
 obtain⟨w4,hw4⟩:=zX (w3.alloc (.cells #[.slice Ac R.1.cells.length cc,.slice Bc R.1.tin.length dc,.slice Dc R.1.tout.length ec,zi (R.2.1:Int),zi R.2.2.1] 58));obtain⟨N4,Bd⟩:=zX (w3.heap.size);rw[hw4]at hb4 k4 hs4
 try rw[hw4]
 rw[Bd]at k4
 try rw[Bd]
 have ax:=zh (zka HB2.out hb4);have jE:=zh (fun w' (h:zw w4 w')=>hs4.later h);have HST:=zh (fun w' (h:zw w4 w')=>(⟨zL8 (zkc k4 h),zmb (zkc (zkc fA.out hb4) h)⟩:reS w' N4 Ac R.1.cells.length cc Bc R.1.tin.length dc Dc R.1.tout.length ec (R.2.1:Int) R.2.2.1/\stC w' (N+3) Ab s.cells.length cb Bb s.tin.length db Db s.tout.length eb));have hSS:zW (fun w':World=>reS w' N4 Ac R.1.cells.length cc Bc R.1.tin.length dc Dc R.1.tout.length ec (R.2.1:Int) R.2.2.1/\stC w' (N+3) Ab s.cells.length cb Bb s.tin.length db Db s.tout.length eb) zU w4.drew:=⟨HST.out _ zr.drew,trivial⟩
 clear hb4 k4 hs4 hw4 Bd;obtain⟨Bj,h0b⟩:=yT.out;obtain⟨n0,hn0⟩:=zX (R.2.1);obtain⟨r0,hr0⟩:=zX (R.2.2.1);rw[hr0]at Bj;rw[hn0,hr0]at HST hSS ⊢;have bg:=zh Bj;have uU:=zh h0b;clear Bj h0b hn0 hr0 yT;refine wp_region_noPanic ?_;refine zkl (fun w':World=>reS w' N4 Ac R.1.cells.length cc Bc R.1.tin.length dc Dc R.1.tout.length ec (n0:Int) r0/\stC w' (N+3) Ab s.cells.length cb Bb s.tin.length db Db s.tout.length eb) zU 20 zK ?_;by_cases hr:r0=0
 ·subst hr;have hr1:((0:Int)==0)=true:=zY
  refine zT 0 hSS ?_;refine zT 1 hSS ?_;refine zT 2 hSS ?_;refine zT 3 hSS ?_;refine zT 4 hSS ?_;refine zT 5 hSS ?_;refine zT 6 hSS ?_;refine zT 9 hSS ?_;refine zT 10 hSS ?_;have hcon:=zw0 R.1 s _ _ w4.drew (jE.out _ zr.drew |>.keep (S':=Any) (fun _ _ _=>trivial) fun _ _ _=>rfl) (HS.out _ (ax.out.trans (zr.drew.mono ax.out.size)));have had:Calls prog 14 [.agg #[.slice Ac R.1.cells.length cc,.slice Bc R.1.tin.length dc,.slice Dc R.1.tout.length ec],.agg #[.slice Ab s.cells.length cb,.slice Bb s.tin.length db,.slice Db s.tout.length eb]].toArray w4.drew fun e' W'=>∃z,e'=.returned z/\(z=.bool (eqS R.1 s)/\zw w4 W'):=hcon.mono fun e' W' ⟨h1,h2⟩=>⟨_,h1,rfl,(zs w4).drew.trans (h2.mono (zs w4).drew.size)⟩
  refine zo 7 fun K hK=>?_;refine zlw zR (.func 14) [.tmp 21,.tmp 22] _ zR 14 _ zLG zR [.agg #[.slice Ac R.1.cells.length cc,.slice Bc R.1.tin.length dc,.slice Dc R.1.tout.length ec],.agg #[.slice Ab s.cells.length cb,.slice Bb s.tin.length db,.slice Db s.tout.length eb]] zR _ had ?_;rintro z w5 ⟨rfl,hb5⟩;have hS2:zW (fun w':World=>reS w' N4 Ac R.1.cells.length cc Bc R.1.tin.length dc Dc R.1.tout.length ec (n0:Int) 0/\stC w' (N+3) Ab s.cells.length cb Bb s.tin.length db Db s.tout.length eb) zU w5:=⟨HST.out _ hb5,trivial⟩
  refine hK.out _ _ hS2 ?_;clear hK K had hcon hSS;(try simp only[zQ]);refine zT 8 hS2 ?_;refine zT 11 hS2 ?_;refine zT 12 hS2 ?_;refine zd ?_;refine NoPanic.normal ?_;have fB:=zh (zka ax.out hb5);clear hS2 hb5;go_wp2_with fail;exact bodyPost_ret (v:=.tuple #[.bool (eqS R.1 s),zi 0]) (by simp[results,results30,go_sem]) rfl ⟨by rw[bg.out,uU.out,hr1];rfl,fB.out⟩
 ·have hr1:(r0==0)=false:=by simp[hr]
  refine zT 0 hSS ?_;refine zT 1 hSS ?_;refine zT 2 hSS ?_;refine zT 3 hSS ?_;refine zku (i:=4) (v:=undef) rfl zK zK zK zY (fun _ _ _ h=>h) (Or.inr ⟨zR,rfl⟩) hSS ?_;(try simp only[zQ]);refine zku (i:=5) (v:=undef) rfl zK zK zK zY (fun _ _ _ h=>h) (Or.inr ⟨zR,rfl⟩) hSS ?_;(try simp only[zQ]);refine zku (i:=6) (v:=undef) rfl zK zK zK zY (fun _ _ _ h=>h) (Or.inr ⟨zR,rfl⟩) hSS ?_;(try simp only[zQ]);refine zku (i:=7) (v:=undef) rfl zK zK zK zY (fun _ _ _ h=>h) (Or.inr ⟨zR,rfl⟩) hSS ?_;(try simp only[zQ]);refine zT 8 hSS ?_;refine zT 9 hSS ?_;refine zT 10 hSS ?_;refine zT 11 hSS ?_;refine zT 12 hSS ?_;refine zd ?_;refine NoPanic.normal ?_;go_wp2_with fail
  exact bodyPost_ret (v:=.tuple #[.bool false,zi r0]) (by simp[results,results30,go_sem]) rfl ⟨by rw[bg.out,hr1];rfl,ax.out.trans (zr.drew.mono ax.out.size)⟩
end
section
open Go Go.RowKit
theorem zL7(s1 s2:ByteArray)(k1 k2 n1 n2:Int)(w:World):(Op.equalIn 10000 38 (.agg #[.string s1,zj k1,zi n1]) (.agg #[.string s2,zj k2,zi n2])).run prog w=.ok (s1.toList==s2.toList&&k1==k2&&n1==n2) w:=by
 have hS:prog.underlying 38=some (.struct (prog.fieldsOf 38)):=zK
 have hp:prog.stoodInHeld 38=false:=zK
 rw[show(10000:Nat)=9999+1 from rfl,run_equalIn_agg w 9999 38 _ _ hS hp];simp only[Program.fieldsOf,underlying38];go_simp;by_cases h1:s1.toList=s2.toList<;>by_cases h2:k1=k2<;>by_cases h3:n1=n2<;>simp[h1,h2,h3]
def eqV(u v:VD):Bool:=decide (u.s=v.s)&&decide (u.k=v.k)&&decide (u.n=v.n)
def eqVs:List VD->List VD->Bool
 | [],[]=>true
 | u::us,v::vs=>eqV u v&&eqVs us vs
 | _,_=>false
theorem zsM{u v:VD}:eqV u v=true↔u=v:=by
 obtain⟨a,b,c⟩:=u;obtain⟨d,e,f⟩:=v;simp[eqV,and_assoc]
theorem znV:∀ {us vs:List VD},eqVs us vs=true↔us=vs
 | [],[]=>by simp[eqVs]
 | u::us,v::vs=>by simp[eqVs,zsM,znV (us:=us) (vs:=vs)]
 | [],_::_=>by simp[eqVs]
 | _::_,[]=>by simp[eqVs]
theorem zt6(s1 s2:ByteArray):(s1.toList==s2.toList)=decide (s1=s2):=by
 rw[ByteArray.toList_eq,ByteArray.toList_eq];obtain⟨⟨x⟩⟩:=s1;obtain⟨⟨y⟩⟩:=s2;by_cases h:x=y
 ·subst h;simp
 ·simp[h]
theorem zL6(s1 s2:ByteArray)(k1 k2 n1 n2:Int)(w:World):(binOp BinOp.neq 38 (.agg #[.string s1,zj k1,zi n1]) (.agg #[.string s2,zj k2,zi n2])).run prog w=.ok (.bool (!eqV ⟨s1,k1,n1⟩ ⟨s2,k2,n2⟩)) w:=by
 rw[run_neq_struct,zL7];simp only[Result.andThen_ok,zt6,eqV];congr 3
theorem zzP(x y:Operand)(xs ys:Array Value)(w:World):(eqGuard BinOp.neq 38 x y (.agg xs) (.agg ys)).run prog w=.ok () w:=run_eqGuard_agg w _ _ x y xs ys zK
theorem zL4{vs us:List VD}{j:Nat}(h1:j<vs.length)(h2:j<us.length)(h:eqV vs[j] us[j]=false):eqVs vs us=false:=by
 cases e:eqVs vs us with
 | false=>rfl
 | true =>
  have e:=znV.1 e;subst e;rw[zsM.2 rfl]at h
  cases h
theorem zLi{vs us:List VD}(h:vs.length≠us.length):eqVs vs us=false:=by
 cases e:eqVs vs us with
 | false=>rfl
 | true=>exact absurd (by rw[znV.1 e]) h
theorem zL5{vs us:List VD}(hl:vs.length=us.length)(h:∀k (h1:k<vs.length) (h2:k<us.length),vs[k]=us[k]):eqVs vs us=true:=znV.2 (List.ext_getElem hl fun i h1 h2=>h i h1 h2)
theorem zLa{W:World}{vs us:List VD}{A B:Option Addr}{c d:Nat}(h1:RowV W Any A vs)(h2:RowV W Any B us)(hl:vs.length<=LV)(hk:us.length<=LV) :
  Calls prog 62 #[.slice A vs.length c,.slice B us.length d] W (zu (.bool (eqVs vs us)) W):=by
 have H1:=zh h1;have H2:=zh h2;have hl1:=zlg hl;have hl2:=zlg hk;clear h1 h2 hl hk;have hneq:=zL6;have hgd:=zzP;obtain⟨n,hn⟩:=zX (vs.length);obtain⟨m,hm⟩:=zX (us.length);have HN:=zh (And.intro hn hm);rw[hn]at hl1 ⊢;rw[hm]at hl2 ⊢;clear hn hm;obtain⟨R,hR⟩:=zX (eqVs vs us);have HR:=zh hR;rw[hR];clear hR;go_enter func62,ntmps62;by_cases hnm:n=m;rotate_left 1
 ·have e0:((n:Int) != (m:Int))=true:=by simp;omega
  go_wp2_with fail;go_ret;exact⟨by rw[<-HR.out,zLi (by have:=HN.out;omega)];rfl,zr⟩
 subst hnm;go_wp2_with fail
 go_loopw [13] (fun i wr=>∃j:Nat,j<=n/\i=zi j/\Hid (zw W wr)/\Hid (∀k (h1:k<vs.length) (h2:k<us.length),k<j->vs[k]=us[k])) (fun i _=>n-(intOf i).toNat)
 case atStart=>exact⟨0,zO,rfl,zh zr,zh fun k _ _ h=>zO⟩
 case round =>
  obtain⟨j,hj,rfl,HB,HE⟩:=hrel;by_cases hlt:j<n
  ·have hj1:(j:Int)<(n:Int):=zO
   have hj0:(0:Int)<=(j:Int):=zO
   have dP:j<vs.length:=by rw[HN.out.1];exact hlt
   have hju:j<us.length:=by rw[HN.out.2];exact hlt
   obtain⟨a,v,rfl,-,hv,⟨x0,x1,x2⟩,-⟩:=(H1.out.later HB.out).nd dP;obtain⟨b,u,rfl,-,hu,⟨y0,y1,y2⟩,-⟩:=(H2.out.later HB.out).nd hju;obtain⟨v0,v1,v2⟩:=v;obtain⟨u0,u1,u2⟩:=u;simp only at x0 x1 x2 y0 y1 y2;have hvv:=hv.out;have lH:=hu.out;obtain⟨t,ht⟩:=zX (eqV ⟨v0,v1,v2⟩ ⟨u0,u1,u2⟩);have hnn:=fun w=>(hneq v0 u0 v1 u1 v2 u2 w).trans (by rw[ht]);have HT:=zh (show eqV vs[j] us[j]=t by rw[hvv,lH];exact ht);have HJ:=zh (And.intro dP hju);clear ht hneq hv hu hvv lH
   cases t
   ·go_upto_region 6 with fail
    go_quiet (fail)
    have dC:=zh (zk4 HB.out nq);go_wp2_with fail;go_ret;exact⟨by rw[<-HR.out,zL4 HJ.out.1 HJ.out.2 HT.out];rfl,dC.out⟩
   ·go_upto_region 6 with fail
    go_quiet (fail)
    have dC:=zh (zk4 HB.out nq);go_wp2_with fail
    go_roundw
    case rel =>
     refine⟨j+1,zO,by go_num,dC,zh fun k h1 h2 hk=>?_⟩;by_cases e:k<j
     ·exact HE.out k h1 h2 e
     ·obtain rfl:k=j:=zO
      exact zsM.1 HT.out
    case measure=>simp[intOf];omega
  ·obtain rfl:j=n:=zO
   have hj1:¬ (j:Int)<(j:Int):=zO
   go_wp2_with fail;go_ret;exact⟨by rw[<-HR.out,zL5 (by have:=HN.out;omega) fun k h1 h2=>HE.out k h1 h2 (by have:=HN.out;omega)];rfl,HB.out⟩
attribute [local go_sem] Oper.semAt_some
theorem zwi{W:World}{base n c:Nat}{A:Option Addr}{xs:List Value}{es:List Int}(h:W.ownsRow base 73 4 (.slice A n c) n xs)(hr:RjO es xs)(hn:n≠0) :
  ∃g,A=some ⟨g,0,none⟩/\W.cell? ⟨g,2,none⟩=some (zi (es.headD 0)):=by
 have h0:=h;obtain⟨hl,h1|⟨g,cap,cur,he,-⟩⟩:=h
 ·exact absurd h1.2 hn
 injection he with he1 _ he2;subst he1 he2;refine⟨g,rfl,?_⟩;rw[h0.cellAt 2 zO]
 match xs,hl with
 | a::b::c::d::r,hl =>
  have h2:=hr.2
  match es,h2 with
  | [],h2=>simp[er4]at h2
  | x::es,h2 =>
   simp only[er4,List.map_cons,List.cons.injEq]at h2;rw[h2.1];rfl
 | [],hl=>simp at hl;omega
 | [_],hl=>simp at hl;omega
 | [_,_],hl=>simp at hl;omega
 | [_,_,_],hl=>simp at hl;omega
def admP(vs:List VD)(q:PG):Int:=if zkR q=true then(if chkN q=0 then(if rjT q=0 then(if eqVs q.vs vs=true then 0 else 7)else(rjA q).headD 0)else 3)else 3
def admE(e:EX)(q:PG):Int:=if zlc e=true then admP e.gv.vs q else 1
def ChkO(W:World)(q:PG)(en:Ending)(w':World):Prop:=∃A n c,en=.returned (.slice A n c)/\((zkR q=true/\chkN q=0)->n=rjT q/\(n≠0->∃g,A=some ⟨g,0,none⟩/\w'.cell? ⟨g,2,none⟩=some (zi ((rjA q).headD 0))))/\zw W w'
theorem zxr{W:World}{q:PG}{v:Value}(hq:PV W Any q v):Calls prog 27 #[v] W (ChkO W q):=by
 by_cases hval:zkR q=true
 ·by_cases hch:chkN q=0
  ·refine(zr7 q v W hq hval hch).mono ?_;rintro en w' ⟨A,c,rfl,⟨xs,h1,h2⟩,h3⟩;exact⟨A,_,c,rfl,fun _=>⟨rfl,zwi h1 h2⟩,h3⟩
  ·have iX:=zh (show ∀A n c w',zw W w'->ChkO W q (.returned (.slice A n c)) w' from fun A n c w' h=>⟨A,n,c,rfl,fun h=>absurd h.2 hch,h⟩);have HQ:=zh (fun w' (hb:zw W w')=>hq.later hb);obtain⟨A1,c1,A2,c2,A3,c3,rfl,-⟩:=hq;have kX:=zh (fun w' (hb:zw W w')=>zr1 hval (HQ.out w' hb));have jD:=zh (fun w' (hb:zw W w')=>by
    have:=zmB q Any _ w' (HQ.out w' hb);rwa[if_pos hval]at this)
   obtain⟨CN,kS⟩:=zX (chkN q);rw[kS]at hch jD;have hc1:((CN:Int)==0)=false:=by simpa using hch
   have hc2:decide ((CN:Int)>0)=true:=by simp;omega
   have hc3:decide ((0:Int)<CN)=true:=by simp;omega
   clear kS hval;have bJ:=zh (zs W);go_enter func27,ntmps27;go_wp2_with fail;have hb1:=zkb bJ.out (.cells (pgA q A1 c1 A2 c2 A3 c3) 30);refine(kX.out _ hb1).mono ?_;rintro e w1 ⟨rfl,aa⟩;have hb2:=zka hb1 aa;obtain⟨a0,a1,a2,a3,a4,a5⟩:=box6 (zkc (yA W (.cells (pgA q A1 c1 A2 c2 A3 c3) 30)) aa);go_wp2_with fail;refine(jD.out _ hb2).mono ?_;rintro e w2 ⟨B0,d0,rfl,aj⟩;have hb3:=zka hb2 aj;clear a0 a1 a2 a3 a4 a5;go_wp2_with fail;go_ret;exact iX.out _ _ _ _ hb3
 ·have iX:=zh (show ∀A n c w',zw W w'->ChkO W q (.returned (.slice A n c)) w' from fun A n c w' h=>⟨A,n,c,rfl,fun h=>absurd h.1 hval,h⟩);have HQ:=zh (fun w' (hb:zw W w')=>hq.later hb);obtain⟨A1,c1,A2,c2,A3,c3,rfl,-⟩:=hq;have hv0:zkR q=false:=by simpa using hval
  have kX:=zh (fun w' (hb:zw W w')=>by
   have:=zmd q Any _ w' (HQ.out w' hb);rwa[hv0]at this)
  clear hval hv0;have bJ:=zh (zs W);go_enter func27,ntmps27;go_wp2_with fail;have hb1:=zkb bJ.out (.cells (pgA q A1 c1 A2 c2 A3 c3) 30);refine(kX.out _ hb1).mono ?_;rintro e w1 ⟨rfl,aa⟩;have hb2:=zka hb1 aa;go_wp2_with fail;go_ret;exact iX.out _ _ _ _ hb2
theorem zwU{W:World}{e:EX}{q:PG}{ev qv:Value}(he:EV W Any e ev)(hq:PV W Any q qv) :
  Calls prog 29 #[ev,qv] W (zu (zi (admE e q)) W):=by
 have lu:=zh (fun w' (hb:zw W w')=>he.later hb);have HQ:=zh (fun w' (hb:zw W w')=>hq.later hb);obtain⟨A1,c1,A2,c2,A3,c3,rfl,hg,hI⟩:=he;obtain⟨D1,e1,D2,e2,D3,e3,rfl,qG⟩:=hq;have hb2:=zkb (zkb (zs W) (.cells (exA e A1 c1 A2 c2 A3 c3) 32)) (.cells (pgA q D1 e1 D2 e2 D3 e3) 30);have k0:=zkd (yA W (.cells (exA e A1 c1 A2 c2 A3 c3) 32)) (.cells (pgA q D1 e1 D2 e2 D3 e3) 30);have k1:=yA (W.alloc (.cells (exA e A1 c1 A2 c2 A3 c3) 32)) (.cells (pgA q D1 e1 D2 e2 D3 e3) 30);rw[yS]at k1;obtain⟨w2,hw2⟩:=zX ((W.alloc (.cells (exA e A1 c1 A2 c2 A3 c3) 32)).alloc (.cells (pgA q D1 e1 D2 e2 D3 e3) 30));obtain⟨N,hN⟩:=zX (W.heap.size);rw[hw2]at hb2 k0 k1;rw[hN]at k0 k1;have HB:=zh hb2;have eX:=zh (fun w' (h:zw w2 w')=>zmr (zkc k0 h));have oD:=zh (fun w' (h:zw w2 w')=>box6 (zkc k1 h))
 have df:=zh (zs w2);have ng:=zh (znB e _ w2 (lu.out _ hb2));have bQ:=zh (fun w' (h:zw w2 w')=>zxr (HQ.out _ (zka hb2 h)));have dZ:=zh (fun w' (h:zw w2 w')=>zmd q Any _ w' (HQ.out _ (zka hb2 h)));have jD:=zh (fun w' (h:zw w2 w')=>zmB q Any _ w' (HQ.out _ (zka hb2 h)));have lC:=zh (fun w' (h:zw w2 w')=>zLa (W:=w') (c:=e1) (d:=c1) ((qG.vars.later hb2).later h) ((hg.vars.later hb2).later h) qG.lv hg.lv);obtain⟨VX,lS⟩:=zX (zlc e);obtain⟨AD,qP⟩:=zX (admE e q);have HAD:=zh qP;have gJ:=zh lS;rw[qP];rw[lS]at ng;clear hb2 k0 k1 hg qG lS qP hI;obtain⟨x0,x1,x2,x3,x4,x5,x6,x7,x8,x9,aL,aK⟩:=eX.out _ df.out;obtain⟨q0,q1,q2,q3,q4,q5⟩:=oD.out _ df.out;go_enter func29,ntmps29;go_upto_region 1 with fail
 try rw[hw2]
 try rw[hN]
 clear hw2 hN;go_wp2_with fail;refine ng.out.mono ?_;rintro en w3 ⟨rfl,hb3⟩;have bB:=zh (zka df.out hb3);clear x0 x1 x2 x3 x4 x5 x6 x7 x8 x9 aL aK q0 q1 q2 q3 q4 q5 hb3 ng;obtain⟨x0,x1,x2,x3,x4,x5,x6,x7,x8,x9,aL,aK⟩:=eX.out _ bB.out;obtain⟨q0,q1,q2,q3,q4,q5⟩:=oD.out _ bB.out
 cases VX
 ·have HF:=zh (show admE e q=1 by unfold admE;rw[gJ.out];rfl);go_wp2_with fail;go_ret;exact⟨by rw[<-HAD.out,HF.out];rfl,zka HB.out bB.out⟩
 have xY:=zh (show admE e q=admP e.gv.vs q by unfold admE;rw[gJ.out];rfl);go_wp2_with fail;refine(bQ.out _ bB.out).mono ?_;rintro en w4 ⟨R,n,c,rfl,hR,hb4⟩;have HR:=zh hR;have dB:=zh (zka bB.out hb4);have ax:=zh hb4;clear x0 x1 x2 x3 x4 x5 x6 x7 x8 x9 aL aK q0 q1 q2 q3 q4 q5 hb4 hR;obtain⟨x0,x1,x2,x3,x4,x5,x6,x7,x8,x9,aL,aK⟩:=eX.out _ dB.out;obtain⟨q0,q1,q2,q3,q4,q5⟩:=oD.out _ dB.out;go_wp2_with fail;refine(dZ.out _ dB.out).mono ?_;rintro en w5 ⟨rfl,hb5⟩;have eD:=zh (zka dB.out hb5);have aS:=zh hb5;clear x0 x1 x2 x3 x4 x5 x6 x7 x8 x9 aL aK q0 q1 q2 q3 q4 q5 hb5 dZ;obtain⟨x0,x1,x2,x3,x4,x5,x6,x7,x8,x9,aL,aK⟩:=eX.out _ eD.out;obtain⟨q0,q1,q2,q3,q4,q5⟩:=oD.out _ eD.out;obtain⟨VB,AJ⟩:=zX (zkR q);have bA:=zh AJ;rw[AJ];clear AJ
 cases VB
 ·have HF:=zh (show admE e q=3 by rw[xY.out];unfold admP;rw[bA.out];rfl);go_wp2_with fail;go_ret;exact⟨by rw[<-HAD.out,HF.out];rfl,zka HB.out eD.out⟩
 have AR:=jD.out _ eD.out;rw[if_pos bA.out]at AR;have HSC5:=zh AR;clear AR jD;go_wp2_with fail;refine HSC5.out.mono ?_;rintro en w6 ⟨B0,d0,rfl,hb6⟩;have kr:=zh (zka eD.out hb6);have bq:=zh (zka aS.out hb6);clear x0 x1 x2 x3 x4 x5 x6 x7 x8 x9 aL aK q0 q1 q2 q3 q4 q5 hb6 HSC5;obtain⟨x0,x1,x2,x3,x4,x5,x6,x7,x8,x9,aL,aK⟩:=eX.out _ kr.out;obtain⟨q0,q1,q2,q3,q4,q5⟩:=oD.out _ kr.out;obtain⟨CN,kS⟩:=zX (chkN q);have oL:=zh kS;rw[kS];clear kS;by_cases hc:CN=0
 ·have hz1:decide ((CN:Int)>0)=false:=by simp;omega
  have hz2:decide (0<CN)=false:=by simp;omega
  obtain⟨hn,hcell⟩:=HR.out ⟨bA.out,oL.out.trans hc⟩;have Ch:=zh (oL.out.trans hc);clear hc;have HNR:=zh hn;clear hn;by_cases hz:n=0
  ·have hRJ:=zh (HNR.out.symm.trans hz);have hz3:decide ((n:Int)>0)=false:=by simp;omega
   have oO:decide (0<n)=false:=by simp;omega
   clear hz hcell;go_wp2_with fail;refine(lC.out _ kr.out).mono ?_;rintro en w7 ⟨rfl,gG⟩;have ma:=zh (zka kr.out gG);obtain⟨EQ,Bf⟩:=zX (eqVs q.vs e.gv.vs);have HE:=zh Bf;rw[Bf];clear Bf
   cases EQ
   ·have HF:=zh (show admE e q=7 by rw[xY.out];unfold admP;rw[bA.out,Ch.out,hRJ.out,HE.out];rfl);go_wp2_with fail;go_ret;exact⟨by rw[<-HAD.out,HF.out];rfl,zka HB.out ma.out⟩
   ·have HF:=zh (show admE e q=0 by rw[xY.out];unfold admP;rw[bA.out,Ch.out,hRJ.out,HE.out];rfl);go_wp2_with fail;go_ret;exact⟨by rw[<-HAD.out,HF.out];rfl,zka HB.out ma.out⟩
  ·obtain⟨g,rfl,hcl⟩:=hcell hz;have hcl6:=zb bq.out hcl;have hz3:decide ((n:Int)>0)=true:=by simp;omega
   have oO:decide (0<n)=true:=by simp;omega
   have HF:=zh (show admE e q=(rjA q).headD 0 by rw[xY.out];unfold admP;rw[bA.out,Ch.out,if_pos rfl,if_pos rfl,if_neg (fun h=>hz (HNR.out.trans h))]);obtain⟨HD,hHD⟩:=zX ((rjA q).headD 0);rw[hHD]at HF hcl6;clear hcl hHD;go_wp2_with fail;go_ret;exact⟨by rw[<-HAD.out,HF.out];rfl,zka HB.out kr.out⟩
 ·have hz1:decide ((CN:Int)>0)=true:=by simp;omega
  have hz2:decide (0<CN)=true:=by simp;omega
  have HF:=zh (show admE e q=3 by rw[xY.out];unfold admP;rw[bA.out,oL.out,if_pos rfl,if_neg hc]);go_wp2_with fail;go_ret;exact⟨by rw[<-HAD.out,HF.out];rfl,zka HB.out kr.out⟩
end
section
open Go Go.RowKit
def Fl(F':Int)(n:Nat)(o o':Out):Prop:=∀r',o=.ok r'->n<=r'.n/\((r'.n:Int)<=F'\/r'.n=n->o'=.ok r')/\(F'<(r'.n:Int)->n<r'.n->o'=.err 18)
theorem Fl.bind{F':Int}{n:Nat}{o o':Out}{f f':RS->Out}(h:Fl F' n o o')(hf:∀r,n<=r.n->Fl F' r.n (f r) (f' r)):Fl F' n (o.bind f) (o'.bind f'):=by
 intro r2 e
 cases o with
 | gas=>cases e
 | err x=>cases e
 | ok r1 =>
  obtain⟨h1,h2,h3⟩:=h r1 rfl;obtain⟨g1,g2,g3⟩:=hf r1 h1 r2 e;refine⟨zO,fun hc=>?_,fun a b=>?_⟩
  ·rw[h2 zO];exact g2 zO
  ·by_cases hc:(r1.n:Int)<=F'\/r1.n=n
   ·rw[h2 hc];exact g3 a zO
   ·rw[h3 zO zO];rfl
theorem Fl.err{F':Int}{n:Nat}{x:Int}{o':Out}:Fl F' n (.err x) o':=fun _ e=>by cases e
theorem Fl.gas{F':Int}{n:Nat}{o':Out}:Fl F' n .gas o':=fun _ e=>by cases e
theorem Fl.same{F':Int}{r:RS}:Fl F' r.n (.ok r) (.ok r):=fun r' e=>by
 injection e with e;subst e;exact⟨zl,fun _=>rfl,fun _ h=>absurd h (Nat.lt_irrefl _)⟩
theorem Fl.step(F F':Int)(r:RS):Fl F' r.n (zkw F r) (zkw F' r):=fun r' e=>by
 obtain⟨rfl,-⟩:=zkB e;refine⟨by simp only;omega,fun h=>?_,fun h _=>?_⟩
 ·unfold zkw;rw[if_neg (by simp only at h;omega)]
 ·unfold zkw;rw[if_pos (by simp only at h;omega)]
theorem Fl.store{F':Int}{r:RS}(R:Int×ST):Fl F' r.n (zkh r R) (zkh r R):=by
 unfold zkh
 split
 ·exact Fl.err
 ·intro r' e;injection e with e;subst e;exact⟨zl,fun _=>rfl,fun _ h=>absurd h (Nat.lt_irrefl _)⟩
theorem Fl.val{F':Int}{n:Nat}{t:T}{r:RS}{f f':Int->RS->Out}(h:∀x,Fl F' n (f x r) (f' x r)):Fl F' n (valO t r f) (valO t r f'):=by
 unfold valO
 split
 ·exact Fl.err
 ·exact h _
theorem Fl.holds{F F':Int}{t:T}{r:RS}{f f':Bool->RS->Out}(h:∀b r1,r.n<=r1.n->Fl F' r1.n (f b r1) (f' b r1)):Fl F' r.n (zk6 F t r f) (zk6 F' t r f'):=by
 unfold zk6;exact(Fl.step F F' r).bind fun r1 h1=>Fl.val fun x=>h _ _ h1
theorem Fl.assert{F F':Int}{t:T}{b:Bool}{r:RS}:Fl F' r.n (zko F t b r) (zko F' t b r):=by
 unfold zko;refine Fl.holds fun b1 r1 _=>?_
 split
 ·exact Fl.same
 ·exact Fl.err
theorem Fl.body{F':Int}{f f':T->RS->Out}:∀(l:List T) (r:RS),(∀t∈l,∀r',Fl F' r'.n (f t r') (f' t r'))->Fl F' r.n (zkt f l r) (zkt f' l r)
 | [],r,_=>Fl.same
 | t::ts,r,h=>by
  rw[zkt,zkt];exact(h t (yY ..) r).bind fun r1 _=>Fl.body ts r1 fun u hu r'=>h u (yA1 _ hu) r'
theorem Fl.loop{F F':Int}{f f':T->RS->Out}{entry test:T}{l1 l2:List T}(h1:∀t∈l1,∀r',Fl F' r'.n (f t r') (f' t r'))(h2:∀t∈l2,∀r',Fl F' r'.n (f t r') (f' t r')):∀(m:Nat) (r:RS),Fl F' r.n (zle F f entry test l1 l2 m r) (zle F' f' entry test l1 l2 m r)
 | 0,r=>Fl.gas
 | m+1,r=>by
  rw[zle,zle];refine(Fl.body l1 r h1).bind fun r1 _=>Fl.holds fun b r2 _=>?_
  split
  ·exact Fl.same
  ·exact(Fl.body l2 r2 h2).bind fun r3 _=>Fl.assert.bind fun r4 _=>Fl.loop h1 h2 m r4
theorem znj{prs:List PR}{F F':Int}:∀(g:Nat) (back:Bool) (t:T) (r:RS),Fl F' r.n (zkn prs F g back t r) (zkn prs F' g back t r)
 | 0,_,_,_=>Fl.gas
 | g+1,back,t,r=>by
  have hb:∀back (l:List T) r1,Fl F' r1.n (zkt (zkn prs F g back) l r1) (zkt (zkn prs F' g back) l r1):=fun back l r1=>Fl.body l r1 fun u _ r'=>znj g back u r';rw[zkn,zkn]
  split
  ·exact Fl.holds fun yes r1 _=>(hb _ _ r1).bind fun r2 _=>Fl.assert
  ·split
   ·exact Fl.assert.bind fun r1 _=>Fl.loop (fun u _ r'=>znj g back u r') (fun u _ r'=>znj g back u r') g r1
   ·split
    ·refine(Fl.step F F' r).bind fun r1 _=>Fl.val fun x=>(Fl.store _).bind fun r2 _=>(hb _ _ r2).bind fun r3 _=>(Fl.step F F' r3).bind fun r4 _=>Fl.val fun x=>Fl.store _
    ·split
     ·exact(Fl.step F F' r).bind fun r1 _=>(Fl.store _).bind fun r2 _=>(hb _ _ r2).bind fun r3 _=>(Fl.step F F' r3).bind fun r4 _=>Fl.store _
     ·split
      ·split
       ·exact Fl.err
       ·exact(Fl.step F F' r).bind fun r1 _=>(Fl.store _).bind fun r2 _=>Fl.bind (hb _ _ { r2 with ent:=_ }) fun r3 _=>(Fl.step F F' r3).bind fun r4 _=>Fl.store _
      ·exact(Fl.step F F' r).bind fun r1 _=>Fl.store _
theorem zvj{prs:List PR}{F F':Int}(g:Nat)(back:Bool)(b:T)(r:RS):Fl F' r.n (runO prs F g back b r) (runO prs F' g back b r):=Fl.body _ _ fun u _ r'=>znj g back u r'
theorem zsq{p:PG}{s:SS}{F:Int}{g:Nat}{back:Bool}(hg:F.toNat*2000+2000<=g)(h:(resO p s F g back).2.2.1=0) :
  zkR p=true/\chkN p=0/\fitB p.vs s=true/\∃r,runO p.prs F g back p.m ⟨newS p.vs s,0,List.replicate p.prs.length 0⟩=.ok r/\resO p s F g back=(r.S.state,r.n,0,r.ent):=by
 unfold resO at h ⊢
 split at h
 ·simp at h
 ·rename_i h1;rw[if_neg h1];simp only[not_or,Bool.not_eq_false,yF1]at h1
  split at h
  ·simp at h
  ·rename_i h2;rw[if_neg h2];simp only[Bool.not_eq_false]at h2;refine⟨h1.1,by simpa using h1.2,h2,?_⟩;have hz:Nz (runO p.prs F g back p.m ⟨newS p.vs s,0,List.replicate p.prs.length 0⟩):=zvi zsZ (zqY h1.1 (by simpa using h1.2));have hg0:=(zte (F:=F) (g:=g) h1.1 hg back (newS p.vs s) (List.replicate p.prs.length 0)).1
   cases ho:runO p.prs F g back p.m ⟨newS p.vs s,0,List.replicate p.prs.length 0⟩with
   | gas=>exact absurd ho hg0
   | err e =>
    rw[ho]at h hz;simp only[outR]at h;rw[h]at hz;exact absurd rfl hz
   | ok r=>exact⟨r,rfl,rfl⟩
theorem znL{p:PG}{s:SS}{F:Int}{g:Nat}{back:Bool}(h1:zkR p=true)(h2:chkN p=0)(h3:fitB p.vs s=true) :
  resO p s F g back=outR s (runO p.prs F g back p.m ⟨newS p.vs s,0,List.replicate p.prs.length 0⟩):=by
 unfold resO;rw[if_neg (by rw[h1,h2];simp),if_neg (by rw[h3];simp)]
theorem ztD{p:PG}{s:SS}{F:Int}{g:Nat}{back:Bool}(hg:F.toNat*2000+2000<=g)(h:(resO p s F g back).2.2.1=0) :
  ((resO p s F g back).2.1:Int)<=max F 0/\(∀F':Int,((resO p s F g back).2.1:Int)<=F'->resO p s F' g back=resO p s F g back) /\
   ∀F':Int,F'<((resO p s F g back).2.1:Int)->0<(resO p s F g back).2.1->(resO p s F' g back).2.2.1=18:=by
 obtain⟨h1,h2,h3,r,hr,he⟩:=zsq hg h;rw[he];simp only;have key:=fun F'=>zvj (prs:=p.prs) (F:=F) (F':=F') g back p.m ⟨newS p.vs s,0,List.replicate p.prs.length 0⟩ r hr;refine⟨?_,fun F' hF=>?_,fun F' hF h0=>?_⟩
 ·rcases Int.lt_or_le (max F 0) (r.n:Int)with hlt|hle
  ·have:=(key F).2.2 zO (by simp only;omega);rw[hr]at this
   cases this
  ·exact hle
 ·rw[znL h1 h2 h3,(key F').2.1 (.inl hF)];rfl
 ·rw[znL h1 h2 h3,(key F').2.2 hF h0];rfl
attribute [local go_sem] Oper.semAt_some
theorem SV.nilG(w:World)(S:Nat->Prop):SV w S nilS (.agg #[zn,zn,zn]) :=
 ⟨none,0,none,0,none,0,rfl,fun i hi=>by simp[nilS]at hi,fun i hi=>by simp[nilS]at hi,fun i hi=>by simp[nilS]at hi,by simp[nilS],by simp[nilS],by simp[nilS],by simp[nilS,LI],by intro l hl;simp[nilS]at hl,by simp[nilS,LI],by simp[nilS,LI]⟩
theorem zzy:IsFn prog 39 Tryz.f39:=⟨func39,zK,zK⟩
theorem zut:IsFn prog 31 f31:=⟨func31,zK,zK⟩
abbrev vdA(ok:Bool)(n:Int)(A:Option Addr)(l c:Nat)(B:Option Addr)(m d:Nat)(D:Option Addr)(k e:Nat)(er:Int):Array Value := #[.bool ok,zi n,.slice A l c,.slice B m d,.slice D k e,zi er]
theorem zsm{W:World}{b:Nat}{x0 x1 x2 x3 x4 x5:Value}{E:TypeId}(u0 u1 u2 u3 u4 u5:Value)(h:W.heap[b]?=some (.cells #[x0,x1,x2,x3,x4,x5] E (0,0))) :
  ∃W',((((((W.setCell ⟨b,0,none⟩ u0).setCell ⟨b,1,none⟩ u1).setCell ⟨b,2,none⟩ u2).setCell ⟨b,3,none⟩ u3).setCell ⟨b,4,none⟩ u4).setCell ⟨b,5,none⟩ u5)=W'/\W'.heap[b]?=some (.cells #[u0,u1,u2,u3,u4,u5] E (0,0))/\Chg (fun q=>q=b) W W':=zLl h
def GraP(r:Bool×Nat×SS×Int)(a:Int)(W:World)(en:Ending)(W':World):Prop :=
 ∃A c B d D e,en=.returned (.tuple #[.agg (vdA r.1 (r.2.1:Int) A r.2.2.1.cells.length c B r.2.2.1.tin.length d D r.2.2.1.tout.length e r.2.2.2),zi a]) /\
  SV W' Any r.2.2.1 (.agg #[.slice A r.2.2.1.cells.length c,.slice B r.2.2.1.tin.length d,.slice D r.2.2.1.tout.length e])/\zw W W'
def GdI(W0:World)(T:Nat)(w5:World)(rel right:SS->Bool)(pre:List SS)(C:Nat->Prop)(W:World):Prop :=
 (∀b,C b↔b<T+1)/\(∀b,b<T->W.heap[b]?=w5.heap[b]?)/\W.heap[T]?=some (.cells #[zi ((pre.filter rel).length:Int)] 3 (0,0))/\(∀x∈pre,rel x=true->right x=true)/\zw W0 W
def GdX(W0:World)(N T:Nat)(w5:World)(rel right:SS->Bool)(err:SS->Int)(xs pre:List SS)(C:Nat->Prop)(W:World):Prop:=∃fO s g X A c B1 d D e,pre=fO++[s]/\pre <+: xs/\(∀x∈fO,rel x=true->right x=true)/\rel s=true/\right s=false/\(∀b,C b↔b<T+1\/(g<=b/\b<X))/\w5.heap.size<g/\X<=W.heap.size/\T+1<=W.heap.size /\
 zw W0 W/\W.heap[N+2]?=some (.cells (vdA false ((((fO.filter rel).length+1:Nat):Int)) A s.cells.length c B1 s.tin.length d D s.tout.length e (err s)) 46 (0,0))/\W.heap[N+3]?=some (.cells #[zi 0] 35 (0,0)) /\
 SV W (fun q=>g<=q/\q<X) s (.agg #[.slice A s.cells.length c,.slice B1 s.tin.length d,.slice D s.tout.length e])
theorem GdI.chg{W0:World}{T:Nat}{w5 W W':World}{rel right:SS->Bool}{pre:List SS}{C D:Nat->Prop}(h:GdI W0 T w5 rel right pre C W)(hT:W0.heap.size<=T)(hc:Chg D W W')(hD:∀b,C b->¬ D b):GdI W0 T w5 rel right pre C W':=by
 obtain⟨h1,h2,h3,h4,h5⟩:=h;have hlt:T<W.heap.size:=zke h3;have hk:∀b,b<T+1->W'.heap[b]?=W.heap[b]?:=fun b hb=>hc.block b zO (hD b ((h1 b).2 hb));exact⟨h1,fun b hb=>(hk b zO).trans (h2 b hb),(hk T zO).trans h3,h4,h5.trans ⟨hc.os,hc.tape,hc.output,hc.size,fun b hb=>hk b zO⟩⟩
theorem GdX.chg{W0:World}{N T:Nat}{w5 W W':World}{rel right:SS->Bool}{err:SS->Int}{xs pre:List SS}{C D:Nat->Prop}(h:GdX W0 N T w5 rel right err xs pre C W)(hT:W0.heap.size<=T)(hN:N+3<T)(hc:Chg D W W')(hD:∀b,C b->¬ D b):GdX W0 N T w5 rel right err xs pre C W':=by
 obtain⟨fO,s,g,X,A,c,B1,d,E,e,h1,h2,h3,h4,Bi,h5,h6,h7,h8,h9,h10,h11,mV⟩:=h;have hk:∀b,b<T+1->W'.heap[b]?=W.heap[b]?:=fun b hb=>hc.block b zO (hD b ((h5 b).2 (.inl hb)));exact⟨fO,s,g,X,A,c,B1,d,E,e,h1,h2,h3,h4,Bi,h5,h6,yB1 h7 hc.size,yB1 h8 hc.size,h9.trans ⟨hc.os,hc.tape,hc.output,hc.size,fun b hb=>hk b zO⟩,(hk _ zO).trans h10,(hk _ zO).trans h11,mV.keep (fun _ h _=>h) fun b hb _=>hc.block b zO (hD b ((h5 b).2 (.inr hb)))⟩
theorem zpi{rel right:SS->Bool}{err:SS->Int}{s:SS}{t:List SS}:∀(a:List SS) (n:Nat),(∀x∈a,rel x=true->right x=true)->rel s=true->right s=false->grE rel right err n (a++s::t)=(false,n+(a.filter rel).length+1,s,err s)
 | [],n,_,h1,h2=>by rw[List.nil_append,grE,if_pos h1,if_neg (by rw[h2];simp)];rfl
 | x::a,n,h,h1,h2=>by
  rw[List.cons_append,grE];by_cases hx:rel x=true
  ·rw[if_pos hx,if_pos (h x yY hx),zpi a (n+1) (fun y hy=>h y (yA1 _ hy)) h1 h2,List.filter_cons_of_pos hx,yV,show n+((a.filter rel).length+1)+1=n+1+(a.filter rel).length+1 by omega]
  ·rw[if_neg hx,zpi a n (fun y hy=>h y (yA1 _ hy)) h1 h2,List.filter_cons_of_neg hx]
theorem zr5{W:World}{e:EX}{q:PG}{ev qv:Value}(he:EV W Any e ev)(hq:PV W Any q qv)(hok:admE e q=0->(e.bx.ok&&svB e.gv.vs)=true/\(allS e.bx (lenE e.gv.vs e.bx)).length<=1000000/\e.fu<=1000000) :
  Calls prog 13 #[ev,qv] W (GraP (if admE e q=0 then grdE e q else(false,0,nilS,0)) (admE e q) W):=by
 have HAD:=zh (fun w' (hb:zw W w')=>zwU (he.later hb) (hq.later hb));have lu:=zh (fun w' (hb:zw W w')=>he.later hb);have HQ:=zh (fun w' (hb:zw W w')=>hq.later hb);have eY:=zh hok;obtain⟨A1,c1,A2,c2,A3,c3,rfl,hg,hI⟩:=he;obtain⟨D1,e1,D2,e2,D3,e3,rfl,qG⟩:=hq;have HG:=zh (fun w' (hb:zw W w')=>hg.later hb);have HI:=zh hI;obtain⟨hb1,hz1,k0,k1,k2,k3⟩:=al4G W (.cells (exA e A1 c1 A2 c2 A3 c3) 32) (.cells (pgA q D1 e1 D2 e2 D3 e3) 30) (.cells (vdA false 0 none 0 0 none 0 0 none 0 0 0) 46) (.cells #[zi 0] 35);obtain⟨w1,hw1⟩:=zX ((((W.alloc (.cells (exA e A1 c1 A2 c2 A3 c3) 32)).alloc (.cells (pgA q D1 e1 D2 e2 D3 e3) 30)).alloc (.cells (vdA false 0 none 0 0 none 0 0 none 0 0 0) 46)).alloc (.cells #[zi 0] 35));obtain⟨N,hN⟩:=zX (W.heap.size);have HN:=zh hN;rw[hw1]at hb1 hz1 k0 k1 k2 k3;rw[hN]at hz1 k0 k1 k2 k3
 have HB1:=zh hb1;have HZ1:=zh hz1;have aG:=zh k0;have az:=zh k1;have aO:=zh k2;have fA:=zh k3;obtain⟨x0,x1,x2,x3,x4,x5,x6,x7,x8,x9,aL,aK⟩:=zmr k0;obtain⟨q0,q1,q2,q3,q4,q5⟩:=box6 k1;obtain⟨AD,qP⟩:=zX (admE e q);have HADE:=zh qP;rw[qP]at eY ⊢;rw[qP]at HAD;obtain⟨RR,hRR⟩:=zX ((if AD=0 then grdE e q else(false,0,nilS,0)));have HRR:=zh hRR;rw[hRR];clear hRR;clear hok hg hI qG hb1 hz1 k0 k1 k2 k3 qP;refine(callsIn_wide (n:=3)).1 (callsIn_of_wp_marks func13 rfl trivial ((wpIn_wide (n:=3)).2 ?_));simp only[ntmps13,List.size_toArray,yV,List.length_nil,Nat.reduceAdd,Nat.reduceSub,Array.replicate_succ,Array.replicate_zero,List.push_toArray,List.append_toArray,List.nil_append,List.cons_append];go_upto_region 1 with fail
 try simp only[Nat.add_assoc,Nat.reduceAdd]
 try rw[hw1]
 try rw[hN]
 try simp only[Nat.add_assoc,Nat.reduceAdd]
 clear hw1;go_wp2_with fail;refine(HAD.out _ HB1.out).mono ?_;rintro en w2 ⟨rfl,hb2⟩;have HB2:=zh (zka HB1.out hb2);have qx:=zh (zkc aG.out hb2);have jH:=zh (zkc az.out hb2);have nO:=zh (zkc aO.out hb2);have uP:=zh (zkc fA.out hb2);have HZ2:=zh (show N+4<=w2.heap.size by have:=HZ1.out;have:=hb2.size;omega);clear hb2 x0 x1 x2 x3 x4 x5 x6 x7 x8 x9 aL aK q0 q1 q2 q3 q4 q5 aG az aO fA;by_cases ha:AD=0
 ·subst ha;have ha1:((0:Int) != 0)=false:=zY
  have ha2:((0:Int)==0)=true:=zY
  have hRR:=HRR.out;rw[if_pos rfl]at hRR;have HRR2:=zh hRR;clear hRR HRR;obtain⟨hok,hm,qM⟩:=eY.out rfl;have bC:=zh (fun w' (hb:zw W w')=>zxs e.gv.vs e.bx A1 c1 w' (HG.out w' hb).vars (HG.out w' hb).lv hok);have HOK2:=zh hok;have BL:=zh hm;have xP:=zh qM;clear hok hm qM eY;go_upto_region 5 with fail;have hk3:=yA w2 (.cells #[zi 0] 3);have hb3:=zkb (zs w2) (.cells #[zi 0] 3);obtain⟨w3,hw3⟩:=zX (w2.alloc (.cells #[zi 0] 3));have hz3:w3.heap.size=w2.heap.size+1:=by rw[<-hw3];simp
  rw[hw3]at hk3 hb3 ⊢;obtain⟨T,hT⟩:=zX (w2.heap.size);rw[hT]at hk3 hz3 ⊢;have HT:=zh hT;have ed:=zh (show N+4<=T by rw[<-hT];exact HZ2.out);have HZ3:=zh hz3;have HB3:=zh (zka HB2.out hb3);have HK03:=zh (zkc qx.out hb3);have HK13:=zh (zkc jH.out hb3);have HK23:=zh (zkc nO.out hb3);have HK33:=zh (zkc uP.out hb3);have HKT3:=zh hk3;clear hk3 hb3 hw3 hz3 hT qx jH nO uP;obtain⟨x0,x1,x2,x3,x4,x5,x6,x7,x8,x9,aL,aK⟩:=zmr HK03.out;have ik:=zh (bC.out _ HB3.out);go_wp2_with fail;refine ik.out.mono ?_;rintro e5 w5 ⟨ja,xb,lb',A9,c9,rfl,hb5,g1,g2,g3,hM5⟩;have aS:=zh hb5;have HG5:=zh (And.intro g1 (And.intro g2 g3));have uH:=zh hM5;clear hb5 g1 g2 g3 hM5 x0 x1 x2 x3 x4 x5 x6 x7 x8 x9 aL aK ik bC;go_wp2_with fail;have hlb:=zmm HOK2.out
  have Ck:=zh (zr9 (nf:=3-1) (S:=fun q=>w3.heap.size<=q/\q<w5.heap.size) ⟨uH.out.ok,uH.out.bx,uH.out.ls,uH.out.row.keep (fun b h hlt=>⟨h,hlt⟩) fun _ _ _=>rfl⟩ ⟨hlb.2.2.2.1,hlb.2.2.2.2⟩ ⟨by rw[hlb.1];omega,by rw[hlb.1];have:=hlb.2.1;omega⟩ fun q hq=>(hlb.2.2.1 q hq).2);clear hlb;have tY:=zh (show T+1<=w5.heap.size by have:=aS.out.size;have:=HZ3.out;omega);have HB05:=zh (zka HB3.out aS.out);have hWT:W.heap.size<=T:=by have:=HN.out;have:=ed.out;omega
  have jW:=zh hWT;clear hWT;obtain⟨rel,hrel⟩:=zX (relG e.gv e.fu);obtain⟨vB,rT⟩:=zX (rigG e.gv q e.fu);obtain⟨err,sN⟩:=zX (erG e.gv q e.fu);have nG:=zh (fun s=>congrFun hrel s);have HRG:=zh (fun s=>congrFun rT s);have yX:=zh (fun s=>congrFun sN s);have uy:=zh (show grE rel vB err 0 (allS e.bx (lenE e.gv.vs e.bx))=RR by rw[<-HRR2.out,<-hrel,<-rT,<-sN];rfl);clear hrel rT sN HRR2;refine(wpIn_wide (n:=3)).1 ?_;refine zpT (n:=3) (gf:=39) (lb := #[ptr0 ja,ptr0 xb,ptr0 lb']) rfl (zkJ zzy) Ck.out (fun l x vs' g W' h=>by obtain⟨v9,rfl,-,h2,-⟩:=h;exact⟨rfl,h2⟩)
   (GdI W T w5 rel vB) (GdX W N T w5 rel vB err (allS e.bx (lenE e.gv.vs e.bx))) (fun b=>b<T+1)
   (fun pre C W' W'' h hc=>h.chg jW.out hc fun b hb h=>h hb) (fun pre C W' W'' h hc=>h.chg jW.out (by have:=ed.out;omega) hc fun b hb h=>h hb) (fun pre C W' h b hb=>by have h1:=(h.1 b).1 hb;have h2:=zke h.2.2.1;omega) (fun pre C W' h b hb=>by obtain⟨_,_,g,X,_,_,_,_,_,_,_,_,_,_,_,h5,h6,h7,h8,_⟩:=h;rcases(h5 b).1 hb with h|h<;>omega)
   (fun b h1 h2=>by
    have:=HG5.out;have:=HZ3.out;rcases h2 with h|h|h|h<;>omega) (fun b h=>by
    rcases h with rfl|rfl|rfl|h
    ·exact zke uH.out.ok
    ·exact zke uH.out.bx
    ·exact zke uH.out.ls
    ·exact h.2) ⟨fun _=>Iff.rfl,fun _ _=>rfl,zkc HKT3.out aS.out,(fun s hs=>by cases hs),HB05.out⟩ ?_ ?_ ?_
  ·rintro l pre x C W3 vs' g hI qN gY hl qJ hpre ⟨sv,rfl,hsv,vH⟩;clear qN;have hxm:x∈allS e.bx (lenE e.gv.vs e.bx):=hpre.subset zS;have hpl:(pre.filter rel).length<1000000:=by have h1:=hpre.length_le;have h2:=BL.out;have h3:=List.length_filter_le rel pre;simp only[yU,yV,List.length_nil]at h1;omega
   have yg:x.cells.length<=100:=by
    obtain⟨y,hy,rfl⟩:=List.mem_map.1 hxm;have h1:=(zqU rfl y hy).len;have h2:=zmm HOK2.out;simp only[stOf,List.length_dropLast];omega
   have oG:=zh (show x.Lim by obtain⟨A,c,B,d,D,e,-,-,-,-,-,-,-,h1,h2,h3,h4⟩:=hsv;exact⟨h1,h2,h3,h4⟩);obtain⟨As,cs,Bs,ds,Ds,es,rfl⟩:∃A c B d D e,sv=.agg #[.slice A x.cells.length c,.slice B x.tin.length d,.slice D x.tout.length e]:=by
    obtain⟨A,c,B,d,D,e,rfl,-⟩:=hsv;exact⟨_,_,_,_,_,_,rfl⟩
   change Code.wpIn (Fence.wide.inRound l) (3-1-1) prog _ _ _ _
   gi_wp2
   refine⟨(Chg.refl _ _).alloc _,fun W4 lQ=>?_⟩;have hbx:=lQ.keep (yA W3 (.cells #[.slice As x.cells.length cs,.slice Bs x.tin.length ds,.slice Ds x.tout.length es] 44)) (show ¬ W3.heap.size=l by omega);have jr:=zkb (zs W3) (.cells #[.slice As x.cells.length cs,.slice Bs x.tin.length ds,.slice Ds x.tout.length es] 44);have oq:=(hI.chg jW.out (Chg.of_below jr) (fun b hb h=>h)).chg jW.out lQ (fun b hb h=>gY (by have h:b=l:=h;rwa[h]at hb));have kC:SV W4 (fun q=>g<=q) x (.agg #[.slice As x.cells.length cs,.slice Bs x.tin.length ds,.slice Ds x.tout.length es]):=(hsv.later jr).keep (fun _ h _=>h) fun q h hlt=>lQ.block q hlt (fun e:q=l=>by have h:g<=q:=h;omega);obtain⟨xp,hxp⟩:=zX (W3.heap.size);rw[hxp]at hbx ⊢;have hg6:T+1<=g:=by have:=tY.out;omega
   have hxp6:g<=xp:=zO
   have kI:=(oq.2.1 N (by have:=ed.out;omega)).trans (zkc HK03.out aS.out);have hk14:=(oq.2.1 (N+1) (by have:=ed.out;omega)).trans (zkc HK13.out aS.out);have HK04:=zh kI;have HK14:=zh hk14;have HI4:=zh oq;have HSV4:=zh kC;have aR:=zh hbx;have HXC:=zh yg;have lg:=zh (And.intro hl (And.intro qJ (And.intro vH (And.intro hg6 hxp6))));have dF:=zh hpre;have jL:=zh (znF e.gv x e.fu (e.fu.toNat*2000+2000) _ _ W4 (HG.out _ oq.2.2.2.2).pv kC.any zO HI.out xP.out zl);have lZ:=zh (show(resO e.gv x e.fu (e.fu.toNat*2000+2000) false).2.2.1=0->((resO e.gv x e.fu (e.fu.toNat*2000+2000) false).2.1:Int)<=max e.fu 0 from fun h=>(ztD zl h).1)
   have fG:=zh (show rel x=((resO e.gv x e.fu (e.fu.toNat*2000+2000) false).2.2.1==0)/\vB x=(gerE q e.fu (resO e.gv x e.fu (e.fu.toNat*2000+2000) false).1==0&&eqS (gstE q e.fu (resO e.gv x e.fu (e.fu.toNat*2000+2000) false).1) x)/\err x=gerE q e.fu (resO e.gv x e.fu (e.fu.toNat*2000+2000) false).1 from⟨(nG.out x).symm,(HRG.out x).symm,(yX.out x).symm⟩);generalize resO e.gv x e.fu (e.fu.toNat*2000+2000) false=R at jL fG lZ;obtain⟨x0,x1,x2,x3,x4,x5,x6,x7,x8,x9,aL,aK⟩:=zmr kI;obtain⟨y0,y1,y2⟩:=zmb hbx;clear hI hpre hbx oq kC lQ hsv yg gY hl qJ vH jr hxm hg6 hxp6 kI hk14;change Code.wpIn (Fence.wide.inRound l) (3-1-1) prog _ _ _ _
   gi_wp2
   refine⟨trivial,CallsIn.inRound l (callsIn_wide.2 (jL.out.mono ?_))⟩;rintro en w6 ⟨u1,u2,u3,rfl,iA,hb6,wP⟩;obtain⟨A6,c6,B6,d6,D6,e6,hv⟩:=iA.slices;injection hv with hv;simp only[Array.mk.injEq,List.cons.injEq,and_true]at hv;obtain⟨rfl,rfl,rfl⟩:=hv;have BO:=zh (show R.2.2.1=0->R.1.cells.length<=2000000 from fun h=>by have h1:=(wP.2 h).1;have h2:=lZ.out h;have h3:=xP.out;omega);have uj:=zh (iA.svR wP.1);have bq:=zh hb6;clear x0 x1 x2 x3 x4 x5 x6 x7 x8 x9 aL aK y0 y1 y2 jL iA hb6 wP;obtain⟨R1,R2,R3,R4⟩:=R;simp only at fG BO lZ uj ⊢;by_cases hr:R3=0
   ·subst hr;have hr1:((0:Int) != 0)=false:=zY
    have hr2:((0:Int)==0)=true:=zY
    have nJ:=zh (show rel x=true from fG.out.1.trans zY);have HR1:=zh fG.out.2
    gi_upto_region 8 with fail
    have gG:=zkb bq.out (.cells #[.slice A6 R1.cells.length c6,.slice B6 R1.tin.length d6,.slice D6 R1.tout.length e6,zi (R2:Int),zi 0] 58);have tq:=zkb (zs w6) (.cells #[.slice A6 R1.cells.length c6,.slice B6 R1.tin.length d6,.slice D6 R1.tout.length e6,zi (R2:Int),zi 0] 58);have mF:=yA w6 (.cells #[.slice A6 R1.cells.length c6,.slice B6 R1.tin.length d6,.slice D6 R1.tout.length e6,zi (R2:Int),zi 0] 58);obtain⟨w7,hw7⟩:=zX (w6.alloc (.cells #[.slice A6 R1.cells.length c6,.slice B6 R1.tin.length d6,.slice D6 R1.tout.length e6,zi (R2:Int),zi 0] 58));obtain⟨gp,Ar⟩:=zX (w6.heap.size);rw[hw7]at gG tq mF ⊢;rw[Ar]at mF ⊢;have hgp2:W4.heap.size<=gp:=by rw[<-Ar];exact bq.out.size
    have hx4:=zke aR.out;have hgpT:T<gp:=by have:=zke HI4.out.2.2.1;omega
    have hgpx:xp<gp:=zO
    have nP:=zh (And.intro hgp2 (And.intro hgpT hgpx));have kR:=zkc HI4.out.2.2.1 gG;obtain⟨n,hn⟩:=zX ((pre.filter rel).length);have lY:=zh hn;rw[hn]at kR hpl;have z7:w7.cell? ⟨T,0,none⟩=some (zi (n:Int)):=zc kR rfl;have cf7:∀o,w7.frozen? ⟨T,o,none⟩=false:=fun o=>zf kR;have z8:w7.cell? ⟨gp,4,none⟩=some (zi 0):=zc mF rfl;obtain⟨W8,hw8,hc8,wS⟩:=setU (o:=0) (zi ((n:Int)+1)) kR;have hk08:=hc8.keep (zkc HK04.out gG) (fun e:N=T=>by have:=ed.out;omega);have hk18:=hc8.keep (zkc HK14.out gG) (fun e:N+1=T=>by have:=ed.out;omega);have zz:=hc8.keep (zkc aR.out gG) (fun e:xp=T=>by have:=lg.out;omega);have yw:=hc8.keep mF (fun e:gp=T=>zO);have HX8:=zh zz;have qc:=HI4.out.chg jW.out (Chg.of_below gG (C:=fun _=>False)) (fun b hb h=>h)
    have iQ:=zh (show zw W W8 from qc.2.2.2.2.trans (hc8.below qc.2.2.2.2.size fun b (e:b=T)=>by have:=jW.out;omega));have rC:=zh (show Chg (fun q=>q=T) W4 W8 from(Chg.of_below gG).trans2 hc8 fun q _ e=>e);have HH8:=zh wS;have Af:SV W8 Any R1 (.agg #[.slice A6 R1.cells.length c6,.slice B6 R1.tin.length d6,.slice D6 R1.tout.length e6]):=(uj.out.later tq).keep (fun _ _ _=>trivial) fun q h hlt=>hc8.block q hlt fun e:q=T=>by have h:W4.heap.size<=q:=h;have:=zke HI4.out.2.2.1;omega
    have hx8v:SV W8 Any x (.agg #[.slice As x.cells.length cs,.slice Bs x.tin.length ds,.slice Ds x.tout.length es]):=HSV4.out.keep (fun _ _ _=>trivial) fun q h hlt=>rC.out.block q hlt fun e:q=T=>by have h:g<=q:=h;have:=lg.out;omega
    have HCM:=zh (zrD (lu.out _ iQ.out) (HQ.out _ iQ.out) Af hx8v (BO.out rfl) xP.out);obtain⟨bb,hbb⟩:=zX ((gerE q e.fu R1==0&&eqS (gstE q e.fu R1) x));obtain⟨ge,hge⟩:=zX (gerE q e.fu R1);rw[hbb,hge]at HCM;have HR2:=zh (show vB x=bb/\err x=ge from⟨HR1.out.1.trans hbb,HR1.out.2.trans hge⟩);obtain⟨x0,x1,x2,x3,x4,x5,x6,x7,x8,x9,aL,aK⟩:=zmr hk08;obtain⟨q0,q1,q2,q3,q4,q5⟩:=box6 hk18;obtain⟨y0,y1,y2⟩:=zmb zz;have r0:W8.cell? ⟨gp,0,none⟩=some (.slice A6 R1.cells.length c6):=zc yw rfl;have r1:W8.cell? ⟨gp,1,none⟩=some (.slice B6 R1.tin.length d6):=zc yw rfl;have r2:W8.cell? ⟨gp,2,none⟩=some (.slice D6 R1.tout.length e6):=zc yw rfl;clear gG tq mF hw7 Ar hgp2 hx4 hgpT hgpx kR hn hc8 wS hk08 hk18 zz yw qc Af hx8v hbb hge HR1 fG HK04 HK14 lZ BO uj bq;change Code.wpIn (Fence.wide.inRound l) (3-1-1) prog _ _ _ _
    gi_wp2
    refine⟨trivial,CallsIn.inRound l (callsIn_wide.2 (HCM.out.mono ?_))⟩;rintro en w9 ⟨rfl,aQ⟩;have bE:=zh aQ;have oM:=zh (rC.out.trans2 (Chg.of_below (C:=fun _=>False) aQ) fun q _ e=>e.elim);have hlow:∀b,b<T->w9.heap[b]?=w5.heap[b]?:=fun b hb=>(oM.out.block b (by have:=zke HI4.out.2.2.1;omega) (fun e:b=T=>zO)).trans (HI4.out.2.1 b hb);have uJ:=zh hlow;have HT9:=zh (zkc HH8.out aQ);have ve:=zh (iQ.out.trans (aQ.mono iQ.out.size));have HX9:=zh (zkc HX8.out aQ);have HSV9:=zh (show SV w9 Any x (.agg #[.slice As x.cells.length cs,.slice Bs x.tin.length ds,.slice Ds x.tout.length es])from HSV4.out.keep (fun _ _ _=>trivial) fun q h hlt=>oM.out.block q hlt fun e:q=T=>by have h:g<=q:=h;have:=lg.out;omega);clear aQ hlow x0 x1 x2 x3 x4 x5 x6 x7 x8 x9 aL aK q0 q1 q2 q3 q4 q5 y0 y1 y2 r0 r1 r2 z7 cf7 z8 hw8 HCM
    cases bb
    ·gi_upto_region 12 with fail
     have AQ:w9.heap[T]?=some (.cells #[zi ((n:Int)+1)] 3 (0,0)):=by have:=HT9.out;simpa using this
     have yB:(fun w':World=>zv w' T 0 (zi ((n:Int)+1))/\stC w' xp As x.cells.length cs Bs x.tin.length ds Ds x.tout.length es) w9.drew:=⟨zc AQ rfl,zmb HX9.out⟩
     refine zmC (ro:=some l) (fun w':World=>zv w' T 0 (zi ((n:Int)+1))/\stC w' xp As x.cells.length cs Bs x.tin.length ds Ds x.tout.length es) zK ?_;refine zI 0 yB ?_;refine zI 1 yB ?_;refine zI 3 yB ?_;have hcl:=zq2 x _ w9.drew (HSV9.out.later zr.drew) (by have:=HXC.out;omega);have had:Calls prog 31 [.agg #[.slice As x.cells.length cs,.slice Bs x.tin.length ds,.slice Ds x.tout.length es]].toArray w9.drew fun e w'=>∃u,e=.returned u/\(OwnS w' w9.heap.size x u/\zw w9 w') :=
      hcl.mono fun e w' ⟨v,h1,h2,h3⟩=>⟨v,h1,h2,zka (zs w9).drew h3⟩
     refine zn5 (i:=2) zK rfl zK zR (fun K hK=>?_);refine zkf zR (.func 31) [.tmp 49] _ zR 31 _ zut zR _ zR _ had ?_;rintro u aZ ⟨kF,eQ⟩;have hsv10:=kF.svR oG.out;obtain⟨Au,cu,Bu,du,Du,eu,rfl⟩:=kF.slices;have p9:=zkc AQ eQ;have oQ:=zkc HX9.out eQ;have tK:(fun w':World=>zv w' T 0 (zi ((n:Int)+1))/\stC w' xp As x.cells.length cs Bs x.tin.length ds Ds x.tout.length es) aZ:=⟨zc p9 rfl,zmb oQ⟩
     refine hK.out _ _ tK ?_;clear hK K had hcl yB AQ kF;(try simp only[zQ]);refine zI 4 tK ?_;have hk2:=zkc ((uJ.out (N+2) (by have:=ed.out;omega)).trans (zkc HK23.out aS.out)) eQ;have hk3:=zkc ((uJ.out (N+3) (by have:=ed.out;omega)).trans (zkc HK33.out aS.out)) eQ;obtain⟨q0,q1,q2,q3,q4,q5⟩:=box6 hk2;have cf:∀o,aZ.frozen? ⟨N+2,o,none⟩=false:=fun o=>zf hk2;obtain⟨aV,il,hh11,iE⟩:=zsm (.bool false) (zi ((n:Int)+1)) (.slice Au x.cells.length cu) (.slice Bu x.tin.length du) (.slice Du x.tout.length eu) (zi ge) hk2;refine zn5 (i:=5) zK rfl zK zR (fun K hK=>?_);(try simp only[zA,zB,zC]);go_simp;have hT11:=iE.keep p9 (fun e:T=N+2=>by have:=ed.out;omega);have hx11:=iE.keep oQ (fun e:xp=N+2=>by have:=ed.out;have:=nP.out;have:=lg.out;omega);refine hK.out _ _ ⟨zc hT11 rfl,zmb hx11⟩ ?_
     clear hK K q0 q1 q2 q3 q4 q5 cf;(try simp only[zQ]);have jS:=iE.keep hk3 (fun e:N+3=N+2=>zO);have q0:aV.cell? ⟨N+3,0,none⟩=some (zi 0):=zc jS rfl;have cf:∀o,aV.frozen? ⟨N+3,o,none⟩=false:=fun o=>zf jS;obtain⟨fE,hw12,sU,hh12⟩:=setU (o:=0) (zi 0) jS;refine zn5 (i:=6) zK rfl zK zR (fun K hK=>?_);(try simp only[zA,zB,zC]);go_simp;have hc:Chg (fun q=>q=N+2\/q=N+3) aZ fE:=(iE.mono fun q _ e=>.inl e).trans2 sU fun q _ e=>.inr e;have hT12:=hc.keep p9 (fun e=>by have:=ed.out;rcases e with e|e<;>omega);have hx12:=hc.keep oQ (fun e=>by have:=ed.out;have:=nP.out;have:=lg.out;rcases e with e|e<;>omega);have hcx:Chg (fun q=>q=N+2\/q=N+3) w9 fE:=(Chg.of_below eQ).trans2 hc fun q _ e=>e;have nY:W4.heap.size<=w9.heap.size:=oM.out.size;have mi:w9.heap.size<=aZ.heap.size:=eQ.size;have hx4:=zke aR.out
     have hT94:T<W4.heap.size:=zke HI4.out.2.2.1;have uW:=zh (show GdX W N T w5 rel vB err (allS e.bx (lenE e.gv.vs e.bx)) (pre++[x]) (fun b=>b<T+1\/(w9.heap.size<=b/\b<fE.heap.size)) fE from
      ⟨pre,x,w9.heap.size,fE.heap.size,Au,cu,Bu,du,Du,eu,rfl,dF.out,HI4.out.2.2.2.1,nJ.out,HR2.out.1,fun b=>Iff.rfl,(by have:=lg.out;omega),zl,(by have:=hc.size;omega),
       ve.out.trans (hcx.below ve.out.size fun b h=>by have:=HN.out;rcases h with h|h<;>omega),by rw[sU.keep hh11 (fun e:N+2=N+3=>zO),lY.out,HR2.out.2];simp,hh12,
       hsv10.keep (fun q h hlt=>⟨h,yU1 hlt hc.size⟩) fun q h hlt=>hc.block q hlt fun e=>by have h:w9.heap.size<=q:=h;have:=ed.out;rcases e with e|e<;>omega⟩)
     have xQ:=zh (show Chg C W4 fE from(oM.out.mono fun q _ e=>(HI4.out.1 q).2 (by have e:q=T:=e;omega)).trans2 hcx fun q _ e=>(HI4.out.1 q).2 (by have:=ed.out;rcases e with e|e<;>omega));have HGL:=zh (show g<=w9.heap.size by have:=lg.out;omega);refine hK.out _ _ ⟨zc hT12 rfl,zmb hx12⟩ ?_;clear hK K q0 cf hcx hc hT12 hx12 hh12 sU jS hh11 iE hT11 hx11 hk2 hk3 hsv10 p9 oQ eQ tK nY mi;(try simp only[zQ]);refine zoz zK ?_
     gi_wp2
     exact⟨_,uW.out,(fun b hb=>by rcases hb with h|h;exact .inl ((HI4.out.1 b).2 h);exact .inr (yB1 HGL.out h.1)),xQ.out⟩
    ·gi_wp2
     have oo:(pre++[x]).filter rel=pre.filter rel++[x]:=by rw[List.filter_append,List.filter_cons_of_pos nJ.out];simp
     exact⟨C,⟨HI4.out.1,uJ.out,by rw[oo,yU,lY.out,HT9.out];simp,fun y hy h=>by
      rcases yW.1 hy with hy|hy
      ·exact HI4.out.2.2.2.1 y hy h
      ·rw[yE1.1 hy];exact HR2.out.1,ve.out⟩,fun b hb=>.inl hb,oM.out.mono fun q _ e=>(HI4.out.1 q).2 (by have e:q=T:=e;omega)⟩
   ·have hr1:(R3 != 0)=true:=by simpa using hr
    have hr2:(R3==0)=false:=by simpa using hr
    have nJ:=zh (fG.out.1.trans hr2);clear hr
    gi_upto_region 8 with fail
    have kv:=zh (zkb bq.out (.cells #[.slice A6 R1.cells.length c6,.slice B6 R1.tin.length d6,.slice D6 R1.tout.length e6,zi (R2:Int),zi R3] 58))
    gi_wp2
    have qc:=HI4.out.chg jW.out (Chg.of_below kv.out (C:=fun _=>False)) (fun b hb h=>h);have oo:(pre++[x]).filter rel=pre.filter rel:=by rw[List.filter_append,List.filter_cons_of_neg (by rw[nJ.out];simp)];simp
    exact⟨C,⟨qc.1,qc.2.1,by rw[oo];exact qc.2.2.1,fun y hy h=>by
     rcases yW.1 hy with hy|hy
     ·exact qc.2.2.2.1 y hy h
     ·rw[yE1.1 hy,nJ.out]at h;exact absurd h Bool.false_ne_true,qc.2.2.2.2⟩,fun b hb=>.inl hb,Chg.of_below kv.out⟩
  ·intro D C W' hD hI hch hK;have hchL:Chg (fun b=>b<T+1) w5 W':=hch;have hk2:=(hI.2.1 (N+2) (by have:=ed.out;omega)).trans (zkc HK23.out aS.out);have hk3:=(hI.2.1 (N+3) (by have:=ed.out;omega)).trans (zkc HK33.out aS.out);have hRR:(true,((allS e.bx (lenE e.gv.vs e.bx)).filter rel).length,nilS,0)=RR:=(zrC hI.2.2.2.1).symm.trans uy.out;obtain⟨n,hn⟩:=zX (((allS e.bx (lenE e.gv.vs e.bx)).filter rel).length);have kR:=hI.2.2.1;rw[hn]at kR hRR;subst hRR;have aP:=zh hI.2.2.2.2;have HK:=zh hK;have HD:=zh (show w5.heap.size=D from hD.symm);have z7:W'.cell? ⟨T,0,none⟩=some (zi (n:Int)):=zc kR rfl;obtain⟨q0,q1,q2,q3,q4,q5⟩:=box6 hk2;have cf:∀o,W'.frozen? ⟨N+2,o,none⟩=false:=fun o=>zf hk2;obtain⟨w6,jP,oh,hc6⟩:=zsm (.bool true) (zi (n:Int)) zn zn zn (zi 0) hk2;have pF:=hc6.keep hk3 (fun e:N+3=N+2=>zO)
   have q6:w6.cell? ⟨N+3,0,none⟩=some (zi 0):=zc pF rfl;have cf6:∀o,w6.frozen? ⟨N+3,o,none⟩=false:=fun o=>zf pF;obtain⟨w7,hw7,lM,wT⟩:=setU (o:=0) (zi 0) pF;have hcx:Chg (fun q=>q=N+2\/q=N+3) W' w7:=(hc6.mono fun q _ e=>.inl e).trans2 lM fun q _ e=>.inr e;have hND:N+3<D:=by have:=tY.out;have:=HD.out;have:=ed.out;omega
   have HKD:=zh (hcx.keep hK (fun e=>by rcases e with e|e<;>omega));have hcd:=Chg.putObj w7 D (.deferred none);obtain⟨t0,t1,t2,t3,t4,t5⟩:=box6 (hcd.keep (lM.keep oh (fun e:N+2=N+3=>zO)) (fun(e:N+2=D)=>zO));have t6:(w7.putObj D (.deferred none)).cell? ⟨N+3,0,none⟩=some (zi 0):=zc (hcd.keep wT (fun(e:N+3=D)=>zO)) rfl;have fB:=zh (show zw W (w7.putObj D (.deferred none))from(aP.out.trans (hcx.below aP.out.size fun b h=>by have:=HN.out;rcases h with h|h<;>omega)).trans (hcd.below (yB1 aP.out.size hcx.size) fun b (e:b=D)=>by have:=HN.out;omega));have HT0:=zh (And.intro t0 (And.intro t1 (And.intro t2 (And.intro t3 (And.intro t4 (And.intro t5 t6))))));clear hI hch hchL hK hD hk2 hk3 hn kR hc6 oh pF lM wT hcx hcd t0 t1 t2 t3 t4 t5 t6 uy;go_wp2_with fail;refine⟨zS,.inl ⟨_,_,rfl,run_takeDeferred HKD.out,?_⟩⟩
   obtain⟨t0,t1,t2,t3,t4,t5,t6⟩:=HT0.out;exact⟨.tuple #[.agg (vdA true (n:Int) none 0 0 none 0 0 none 0 0 0),zi 0],by simp[results,results13,go_sem,t0,t1,t2,t3,t4,t5,t6],none,0,none,0,none,0,rfl,SV.nilG _ _,fB.out⟩
  ·intro D pre C W' hD hX hch hK;obtain⟨fO,s,g,X,As,cs,Bs,ds,Ds,es,rfl,h2,h3,h4,Bi,h5,h6,h7,h8,h9,h10,h11,mV⟩:=hX;have hRR:(false,0+(fO.filter rel).length+1,s,err s)=RR:=by
    obtain⟨t,ht⟩:=h2;rw[<-uy.out,<-ht,List.append_assoc];exact(zpi fO 0 h3 h4 Bi).symm
   subst hRR;have HK:=zh hK;have HD:=zh (show w5.heap.size=D from hD.symm);have hND:N+3<D:=by have:=tY.out;have:=HD.out;have:=ed.out;omega
   have hcd:=Chg.putObj W' D (.deferred none);refine wpIn_ret ?_;simp only[Exit.inBlock,Exit.then];refine⟨zS,.inl ⟨_,_,rfl,run_takeDeferred HK.out,?_⟩⟩;obtain⟨t0,t1,t2,t3,t4,t5⟩:=box6 (hcd.keep h10 (fun(e:N+2=D)=>zO));have t6:(W'.putObj D (.deferred none)).cell? ⟨N+3,0,none⟩=some (zi 0):=zc (hcd.keep h11 (fun(e:N+3=D)=>zO)) rfl;have hBF:zw W (W'.putObj D (.deferred none)):=h9.trans (hcd.below h9.size fun b (e:b=D)=>by have:=HN.out;omega);simp only[Nat.zero_add];exact⟨.tuple #[.agg (vdA false (((fO.filter rel).length+1:Nat):Int) As s.cells.length cs Bs s.tin.length ds Ds s.tout.length es (err s)),zi 0],by simp[results,results13,go_sem,t0,t1,t2,t3,t4,t5,t6],As,cs,Bs,ds,Ds,es,rfl,mV.keep (fun _ _ _=>trivial) fun q h hlt=>hcd.block q hlt fun e=>by have h:g<=q:=h.1;have e:q=D:=e;have:=HD.out;omega,hBF⟩
 ·have ha1:(AD != 0)=true:=by simpa using ha
  have ha2:(AD==0)=false:=by simpa using ha
  have hRR:=HRR.out;rw[if_neg ha]at hRR;subst hRR;clear ha HRR;obtain⟨q0,q1,q2,q3,q4,q5⟩:=box6 nO.out;have cf:∀o,w2.frozen? ⟨N+2,o,none⟩=false:=fun o=>zf nO.out;obtain⟨w3,hw3,hh3,hc3⟩:=zsm (.bool false) (zi 0) zn zn zn (zi 0) nO.out;have hk3:=hc3.keep uP.out (fun e:N+3=N+2=>zO);have q6:w3.cell? ⟨N+3,0,none⟩=some (zi 0):=zc hk3 rfl;have cf3:∀o,w3.frozen? ⟨N+3,o,none⟩=false:=fun o=>zf hk3;obtain⟨w4,hw4,hc4,wU⟩:=setU (o:=0) (zi AD) hk3;obtain⟨t0,t1,t2,t3,t4,t5⟩:=box6 (hc4.keep hh3 (fun e:N+2=N+3=>zO));have t6:w4.cell? ⟨N+3,0,none⟩=some (zi AD):=zc wU rfl;have fB:=zh (show zw W w4 from HB2.out.trans ((hc3.below HB2.out.size fun b (e:b=N+2)=>by have:=HN.out;omega).trans (hc4.below (yB1 HB2.out.size hc3.size) fun b (e:b=N+3)=>by have:=HN.out;omega)))
  clear hc3 hh3 hk3 hc4 wU;go_wp2_with fail;exact⟨.tuple #[.agg (vdA false 0 none 0 0 none 0 0 none 0 0 0),zi AD],by simp[results,results13,go_sem,t0,t1,t2,t3,t4,t5,t6],none,0,none,0,none,0,rfl,SV.nilG _ _,fB.out⟩
end
section
open Go Go.RowKit
attribute [local go_sem] Oper.semAt_some
theorem zt1(w:World)(S:Nat->Prop){k n:Int}{s:ByteArray}(hf:Fld k n s):NV w S (.nd k n s []) (nv k n s none 0 0):=NV.shut (ks:=[]) hf (by simp[LK]) zS fun i hi=>by simp at hi
theorem zME{w:World}{S:Nat->Prop}{b:Nat}{E:TypeId}{t1:T}{k n k1 n1:Int}{s s1:ByteArray}{A1:Option Addr}{l1 c1:Nat}(hf:Fld k n s)(hS:S b)(hk:w.heap[b]?=some (.cells #[zj k1,zi n1,.string s1,.slice A1 l1 c1] E (0,0)))(h1:NV w S t1 (nv k1 n1 s1 A1 l1 c1)) :
  NV w S (.nd k n s [t1]) (nv k n s (some ⟨b,0,none⟩) 1 1):=by
 refine NV.shut (ks:=[t1]) hf (by simp[LK]) zS fun i hi=>?_
 match i,hi with
 | 0,_=>exact⟨⟨b,0,none⟩,_,_,_,_,rfl,hS,⟨zc hk rfl,zc hk rfl,zc hk rfl,zc hk rfl⟩,h1⟩
theorem zMD{w:World}{S:Nat->Prop}{b:Nat}{E:TypeId}{t1 t2:T}{k n k1 n1 k2 n2:Int}{s s1 s2:ByteArray}{A1 A2:Option Addr}{l1 c1 l2 c2:Nat}(hf:Fld k n s)(hS:S b)(hk:w.heap[b]?=some (.cells #[zj k1,zi n1,.string s1,.slice A1 l1 c1,zj k2,zi n2,.string s2,.slice A2 l2 c2] E (0,0)))(h1:NV w S t1 (nv k1 n1 s1 A1 l1 c1))(h2:NV w S t2 (nv k2 n2 s2 A2 l2 c2)) :
  NV w S (.nd k n s [t1,t2]) (nv k n s (some ⟨b,0,none⟩) 2 2):=by
 refine NV.shut (ks:=[t1,t2]) hf (by simp[LK]) zS fun i hi=>?_
 match i,hi with
 | 0,_=>exact⟨⟨b,0,none⟩,_,_,_,_,rfl,hS,⟨zc hk rfl,zc hk rfl,zc hk rfl,zc hk rfl⟩,h1⟩
 | 1,_=>exact⟨⟨b,0,none⟩,_,_,_,_,rfl,hS,⟨zc hk rfl,zc hk rfl,zc hk rfl,zc hk rfl⟩,h2⟩
theorem fldG(k n:Int)(hk:0<=k/\k<256)(hn:I64 n):Fld k n ⟨#[]⟩:=⟨hk,hn,zY⟩
theorem zMv(a0 a1 a2 a3:Value)(w:World):(Instr.buildSlice 26 1 #[(0,.agg #[a0,a1,a2,a3])]).run prog w=.ok (.slice (some ⟨w.heap.size,0,none⟩) 1 1) (w.alloc (.cells #[a0,a1,a2,a3] 28)):=zK
theorem zMu(a0 a1 a2 a3 b0 b1 b2 b3:Value)(w:World):(Instr.buildSlice 26 2 #[(0,.agg #[a0,a1,a2,a3]),(1,.agg #[b0,b1,b2,b3])]).run prog w=.ok (.slice (some ⟨w.heap.size,0,none⟩) 2 2) (w.alloc (.cells #[a0,a1,a2,a3,b0,b1,b2,b3] 28)):=zK
theorem bNkG(k:Int)(A:Option Addr)(l c:Nat)(w:World):(Instr.build 28 #[(0,zj k),(3,.slice A l c)]).run prog w=.ok (nv k 0 ⟨#[]⟩ A l c) w:=zK
theorem bSVG(a0 a1 a2:Value)(w:World):(Instr.buildSlice 24 1 #[(0,.agg #[a0,a1,a2])]).run prog w=.ok (.slice (some ⟨w.heap.size,0,none⟩) 1 1) (w.alloc (.cells #[a0,a1,a2] 38)):=zK
theorem bVdG(s:ByteArray)(k:Int)(w:World):(Instr.build 38 #[(0,.string s),(1,zj k)]).run prog w=.ok (.agg #[.string s,zj k,zi 0]) w:=zK
theorem bPgG(A B:Option Addr)(l c m d:Nat)(k n:Int)(s:ByteArray)(w:World):(Instr.build 30 #[(0,.slice A l c),(2,nv k n s B m d)]).run prog w=.ok (pv A l c none 0 0 k n s B m d) w:=zK
abbrev xX:ByteArray:=⟨#[120]⟩
abbrev xO:ByteArray:=⟨#[]⟩
abbrev updT(k n:Int):T:=.nd k 0 xO [.nd 2 0 xX [],.nd 1 n xO []]
def updP(k n:Int):PG:=⟨[⟨xX,1,0⟩],[],.nd 57 0 xO [updT k n]⟩
theorem zzT(s:ByteArray)(w:World):Calls prog 11 #[.string s] w (zu (nv 2 0 s none 0 0) w):=by
 have hb:∀w,(Instr.build 28 #[(0,zj 2),(2,.string s)]).run prog w=.ok (nv 2 0 s none 0 0) w:=fun w=>zK
 go_enter func11,ntmps11;go_wp2_with fail;exact bodyPost_ret (v:=nv 2 0 s none 0 0) (by simp[results,results11,go_sem]) rfl ⟨rfl,zkb zr _⟩
theorem zvF(n:Int)(w:World):Calls prog 12 #[zi n] w (zu (nv 1 n xO none 0 0) w):=by
 have hb:∀w,(Instr.build 28 #[(0,zj 1),(1,zi n)]).run prog w=.ok (nv 1 n xO none 0 0) w:=fun w=>zK
 go_enter func12,ntmps12;go_wp2_with fail;exact bodyPost_ret (v:=nv 1 n xO none 0 0) (by simp[results,results12,go_sem]) rfl ⟨rfl,zkb zr _⟩
theorem zn7(k n:Int)(hk:0<=k/\k<256)(hn:I64 n)(w:World):Calls prog 21 #[zj k,zi n] w fun e w'=>∃v,e=.returned v/\PV w' Any (updP k n) v/\zw w w':=by
 have h1:=zMv;have h2:=zMu;have h3:=bNkG;have h4:=bSVG;have h5:=bVdG;have h6:=bPgG;have HKN:=zh (And.intro hk hn);obtain⟨N,hN⟩:=zX (w.heap.size);have HN:=zh hN;clear hk hn;have k0:=yA w (.cells #[zn,zn,zj 0,zi 0,.string xO,zn] 30);have hb0:=zkb (zs w) (.cells #[zn,zn,zj 0,zi 0,.string xO,zn] 30);rw[hN]at k0;have HB0:=zh hb0;have aG:=zh k0;clear k0 hb0;go_enter func21,ntmps21;go_upto_region 1 with fail;obtain⟨w1,hw1⟩:=zX (w.alloc (.cells #[zn,zn,zj 0,zi 0,.string xO,zn] 30));rw[hw1]at HB0 aG
 try rw[hw1]
 try rw[hN]
 clear hw1 hN;go_wp2_with fail;refine(zzT _ _).mono ?_;rintro e w2 ⟨rfl,hb2⟩;have HB2:=zh hb2;clear hb2;go_wp2_with fail;refine(zvF _ _).mono ?_;rintro e w3 ⟨rfl,hb3⟩;have HB3:=zh (zka HB2.out hb3);clear hb3;go_upto_region 2 with fail;obtain⟨M,hM⟩:=zX (w3.heap.size);obtain⟨w4,hw4⟩:=zX ((w3.alloc (.cells #[zj 2,zi 0,.string xX,zn,zj 1,zi n,.string xO,zn] 28)).alloc (.cells #[zj k,zi 0,.string xO,.slice (some ⟨M,0,none⟩) 2 2] 28));have hb4:zw w3 w4:=by rw[<-hw4];exact zkb (zkb zr _) _
 have oO:w4.heap.size=M+2:=by rw[<-hw4];simp[hM]
 have hm4:w4.heap[M]?=some (.cells #[zj 2,zi 0,.string xX,zn,zj 1,zi n,.string xO,zn] 28 (0,0)):=by rw[<-hw4,<-hM];exact zkd (yA w3 _) _
 have rY:w4.heap[M+1]?=some (.cells #[zj k,zi 0,.string xO,.slice (some ⟨M,0,none⟩) 2 2] 28 (0,0)):=by rw[<-hw4];exact zpy _ (by simp[hM]) _
 have hk4:=zkc (zkc aG.out HB3.out) hb4;have hNM:N<M:=by rw[<-hM];exact zke (zkc aG.out HB3.out)
 rw[hM];rw[hw4];have hb5:=zkb (zs w4) (.cells #[.string xX,zj 1,zi 0] 38);have hb6:=zkb hb5 (.cells #[zj k,zi 0,.string xO,.slice (some ⟨M,0,none⟩) 2 2] 28);have hv6:=zkd (yA w4 (.cells #[.string xX,zj 1,zi 0] 38)) (.cells #[zj k,zi 0,.string xO,.slice (some ⟨M,0,none⟩) 2 2] 28);have iB:=yA (w4.alloc (.cells #[.string xX,zj 1,zi 0] 38)) (.cells #[zj k,zi 0,.string xO,.slice (some ⟨M,0,none⟩) 2 2] 28);rw[yS]at iB;have Am:=zkc hm4 hb6;have bI:=zkc hk4 hb6;obtain⟨x0,x1,x2,x3⟩:=box4 (zkc rY hb5);obtain⟨w6,jP⟩:=zX ((w4.alloc (.cells #[.string xX,zj 1,zi 0] 38)).alloc (.cells #[zj k,zi 0,.string xO,.slice (some ⟨M,0,none⟩) 2 2] 28));obtain⟨z0,z1,z2,z3⟩:=box4 rY;rw[oO]at hv6 iB
 have qF:(w4.alloc (.cells #[.string xX,zj 1,zi 0] 38)).heap.size=M+3:=by simp[oO]
 rw[jP]at hb6 hv6 iB Am bI;obtain⟨w7,hw7,wT,lM⟩:=zsm (.slice (some ⟨M+2,0,none⟩) 1 1) zn (zj 57) (zi 0) (.string xO) (.slice (some ⟨M+2+1,0,none⟩) 1 1) bI;obtain⟨q0,q1,q2,q3,q4,q5⟩:=box6 bI;have cf:∀o,w6.frozen? ⟨N,o,none⟩=false:=fun o=>zf bI;have hv7:=lM.keep hv6 (fun e:M+2=N=>zO);have wO:=lM.keep iB (fun e:M+2+1=N=>zO);have hm7:=lM.keep Am (fun e:M=N=>zO);have xD:=zh (show NV w7 Any (updP k n).m (nv 57 0 xO (some ⟨M+2+1,0,none⟩) 1 1)from zME (fldG 57 0 zY ⟨zY,zY⟩) trivial wO (zMD (fldG k 0 HKN.out.1 ⟨zY,zY⟩) trivial hm7 (zt1 _ Any ⟨zY,zY,zY⟩) (zt1 _ Any (fldG 1 n zY HKN.out.2))));have BQ:=zh hv7
 have BH:=zh (show PV w7 Any (updP k n) (pv (some ⟨M+2,0,none⟩) 1 1 none 0 0 57 0 xO (some ⟨M+2+1,0,none⟩) 1 1)from⟨some ⟨M+2,0,none⟩,1,none,0,some ⟨M+2+1,0,none⟩,1,rfl,⟨fun i hi=>by
   obtain rfl:i=0:=by simp[updP]at hi;omega
   exact⟨⟨M+2,0,none⟩,rfl,trivial,⟨zc BQ.out rfl,zc BQ.out rfl,zc BQ.out rfl⟩,show FldV ⟨xX,1,0⟩from⟨zY,zY,zY⟩⟩,show(1:Nat)<=LV by decide,show(1:Nat)<=1 by decide,fun i hi=>by simp[updP]at hi,show(0:Nat)<=LV by decide,show(0:Nat)<=0 by decide,xD.out⟩⟩)
 have fB:=zh (show zw w w7 from(zka HB0.out (zka HB3.out (zka hb4 hb6))).trans (lM.below (zka HB0.out (zka HB3.out (zka hb4 hb6))).size fun b (e:b=N)=>by have:=HN.out;omega));obtain⟨t0,t1,t2,t3,t4,t5⟩:=box6 wT;clear hb5 hb6 hv6 iB Am bI wT lM hv7 wO hm7 hm4 rY hk4 hb4;go_wp2_with fail;exact bodyPost_ret (v:=pv (some ⟨M+2,0,none⟩) 1 1 none 0 0 57 0 xO (some ⟨M+2+1,0,none⟩) 1 1) (by simp[results,results21,go_sem,t0,t1,t2,t3,t4,t5]) rfl ⟨_,rfl,BH.out,fB.out⟩
end
section
open Go Go.RowKit
attribute [local go_sem] Oper.semAt_some
end
section
open Go Go.RowKit
attribute [local go_sem] Oper.semAt_some
abbrev xInc:ByteArray:=⟨#[105,110,99]⟩
def gxE:EX:=⟨xInc,5,9,⟨2,0,0⟩,updP 40 1⟩
theorem zv5:allS gxE.bx (lenE gxE.gv.vs gxE.bx)=[⟨[[0]],[],[]⟩,⟨[[1]],[],[]⟩,⟨[[-1]],[],[]⟩,⟨[[2]],[],[]⟩,⟨[[-2]],[],[]⟩]:=zK
theorem gx_a:admE gxE (updP 41 1)=0:=zK
theorem gx_b:admE gxE (updP 41 2)=0:=zK
theorem zMp:grdE gxE (updP 41 1)=(true,5,nilS,0):=by unfold grdE;rw[zv5];kernel_rfl
def gxS:SS:=⟨[[0]],[],[]⟩
theorem zMo:grdE gxE (updP 41 2)=(false,1,gxS,0):=by unfold grdE;rw[zv5];kernel_rfl
theorem zMq(q:PG)(h:admE gxE q=0):(gxE.bx.ok&&svB gxE.gv.vs)=true/\(allS gxE.bx (lenE gxE.gv.vs gxE.bx)).length<=1000000/\gxE.fu<=1000000:=⟨zK,by rw[zv5];decide,zY⟩
theorem zMz(n:Int)(w:World):(Instr.build 23 #[(0,zi n)]).run prog w=.ok (.agg #[zi n,zi 0,zi 0]) w:=zK
theorem bExK(s t:ByteArray)(a b x y z:Int)(A B D:Option Addr)(l c m d j e:Nat)(k n:Int)(w:World):(Instr.build 32 #[(0,.string s),(1,zi a),(2,zi b),(3,.agg #[zi x,zi y,zi z]),(4,pv A l c B m d k n t D j e)]).run prog w=.ok (.agg #[.string s,zi a,zi b,zi x,zi y,zi z,.slice A l c,.slice B m d,zj k,zi n,.string t,.slice D j e]) w:=zK
theorem zLE:IsFn prog 21 Tryz.f21:=⟨func21,zK,zK⟩
theorem zLI:IsFn prog 13 f13:=⟨func13,zK,zK⟩
abbrev AlK(w0:World)(Z:Array Value)(E:TypeId)(u:Value)(w:World):Prop:=∃b,u=.pointer (some ⟨b,0,none⟩)/\w0.heap.size<=b/\w.heap[b]?=some (.cells Z E (0,0))
abbrev nzVd:Array Value := #[.bool false,zi 0,zn,zn,zn,zi 0]
def VdF(r:Bool×Nat×SS×Int)(v:Value):Prop:=∃A c B d D e,v=.tuple #[.agg (vdA r.1 (r.2.1:Int) A r.2.2.1.cells.length c B r.2.2.1.tin.length d D r.2.2.1.tout.length e r.2.2.2),zi 0]
theorem ztC{w:World}{q:PG}{ev qv:Value}(he:EV w Any gxE ev)(hq:PV w Any q qv)(h:admE gxE q=0){r:Bool×Nat×SS×Int}(hr:grdE gxE q=r) :
  Calls prog 13 #[ev,qv] w fun e w'=>∃v,e=.returned v/\(VdF r v/\zw w w'):=by
 have:=zr5 he hq (zMq q);rw[if_pos h,hr,h]at this;exact this.mono fun e w' ⟨A,c,B,d,D,e',h1,_,h3⟩=>⟨_,h1,⟨A,c,B,d,D,e',rfl⟩,h3⟩
theorem znD(w:World):Calls prog 8 #[] w (zu (.bool true) w):=by
 have h1:=zMz;have h2:=bExK;go_enter func8,ntmps8;go_wp2_with fail;refine(zn7 40 1 zY ⟨zY,zY⟩ _).mono ?_;rintro en w1 ⟨v,rfl,hpv,hb1⟩;obtain⟨A1,c1,A2,c2,A3,c3,rfl,fZ⟩:=hpv;have HB1:=zh hb1;have xC:=zh fZ;clear fZ hb1;go_upto_region 2 with fail;have hb2:zw w1 (w1.alloc (.cells (exA gxE A1 c1 A2 c2 A3 c3) 32)):=zkb (zs w1) _;have k2:=yA w1 (.cells (exA gxE A1 c1 A2 c2 A3 c3) 32);obtain⟨w2,hw2⟩:=zX (w1.alloc (.cells #[.string xInc,zi 5,zi 9,zi 2,zi 0,zi 0,.slice A1 (updP 40 1).vs.length c1,.slice A2 (updP 40 1).prs.length c2,zj (updP 40 1).m.k,zi (updP 40 1).m.n,.string (updP 40 1).m.s,.slice A3 (updP 40 1).m.ks.length c3] 32));have hw2':w1.alloc (.cells (exA gxE A1 c1 A2 c2 A3 c3) 32)=w2:=hw2;obtain⟨E0,hE0⟩:=zX (w1.heap.size);rw[hw2']at hb2 k2;rw[hw2,hE0];rw[hE0]at k2
 have HB2:=zh (zka HB1.out hb2);have lu:=zh (fun w' (h:zw w2 w')=>(show EV w' Any gxE (.agg (exA gxE A1 c1 A2 c2 A3 c3))from⟨A1,c1,A2,c2,A3,c3,rfl,(xC.out.later hb2).later h,show I64 9 from⟨zY,zY⟩⟩));have HEC:=zh (fun w' (h:zw w2 w')=>zmr (zkc k2 h));have HR2:=zh (zs w2);clear hb2 k2 hw2 hw2' hE0 h1 h2;have aA:=zh (show ∀w',zw w2 w'->(fun w':World=>exS w' E0 gxE A1 c1 A2 c2 A3 c3) w' from fun w' hb=>HEC.out _ (zka HR2.out hb));have hSS:zW (fun w':World=>exS w' E0 gxE A1 c1 A2 c2 A3 c3) zU w2.drew:=⟨aA.out _ zr.drew,trivial⟩
 refine wp_region_noPanic ?_;refine zG hSS 20 ?_;refine zT 0 hSS ?_;have hI:(fun w=>zw w2 w) w2.drew:=zr.drew;clear hSS;refine zqr (i:=1) (j:=6) (some 11) (some 2) 6 (fun li l4 => #[true,li,false,false,false,false,l4,false,false]) _ (fun w=>zw w2 w) (AlK w2 (nzVd) 46) (fun v w=>PV w Any (updP 41 1) v) rfl rfl rfl rfl zK zK (fun l4=>by cases l4<;>rfl) rfl (fun w h=>⟨aA.out _ h,trivial⟩) (fun w w' h hb=>?_) (fun u w w' h hb=>?_) (fun v4 K w h aN=>?_) (fun v4 K w h aN=>?_) (fun u v=>?_) (fun l4 v4 v wc h hF hA hU=>?_) false undef w2.drew hI (fun h=>by cases h) (fun _=>rfl) ?_
 ·exact zka h hb
 ·obtain⟨b,e1,e2,e3⟩:=h;exact⟨b,e1,e2,zkc e3 hb⟩
 ·have hK:=zh aN;clear aN;have had:Calls prog 21 [zj 41,zi 1].toArray w fun e w'=>∃v,e=.returned v/\(PV w' Any (updP 41 1) v/\zw w w'):=zn7 41 1 zY ⟨zY,zY⟩ w;refine zkf zR (.func 21) [.const (zj 41),.const (zi 1)] _ zR 21 _ zLE zR _ zR _ had ?_;rintro v w' ⟨hv,hb⟩;exact hK.out _ _ hb hv
 ·have hK:=zh aN;clear aN;(try simp only[zQ]);(try simp only[zA,zB,zC]);go_simp;exact hK.out _ _ (zkb zr _) ⟨_,rfl,h.size,yA w _⟩
 ·simp only[Act.put,zD,zE,zF]
 rotate_left 1
 ·simp only[Act.put,zD,zE,zF]
 (try simp only[zQ]);clear hI;have hI:(fun w=>zw w2 w/\PV w Any (updP 41 1) v) wc:=⟨h,hF⟩
 have xm:=hA;have tF:=hU;clear hA hU;refine zqr (i:=2) (j:=6) (some 12) (some 2) 5 (fun li l4 => #[true,true,li,false,false,false,l4,false,false]) _ (fun w=>zw w2 w/\PV w Any (updP 41 1) v) (AlK w2 (nzVd) 46) (fun v w=>VdF (true,5,nilS,0) v) rfl rfl rfl rfl zK zK (fun l4=>by cases l4<;>rfl) rfl (fun w h=>⟨aA.out _ h.1,trivial⟩) (fun w w' h hb=>?_) (fun u w w' h hb=>?_) (fun v4 K w h aN=>?_) (fun v4 K w h aN=>?_) (fun u v=>?_) (fun l4 v4 vv wc h hF hA hU=>?_) l4 v4 wc hI xm tF ?_
 ·exact⟨zka h.1 hb,h.2.later hb⟩
 ·obtain⟨b,e1,e2,e3⟩:=h;exact⟨b,e1,e2,zkc e3 hb⟩
 ·have hK:=zh aN;clear aN;have had:=ztC (lu.out _ (zka HR2.out h.1)) h.2 gx_a zMp;refine zkf zR (.func 13) [.tmp 10,.tmp 11] _ zR 13 _ zLI zR [.agg (exA gxE A1 c1 A2 c2 A3 c3),v] zR _ had ?_;rintro v w' ⟨hv,hb⟩;exact hK.out _ _ hb hv
 ·have hK:=zh aN;clear aN;(try simp only[zQ]);(try simp only[zA,zB,zC]);go_simp;exact hK.out _ _ (zkb zr _) ⟨_,rfl,h.1.size,yA w _⟩
 ·simp only[Act.put,zD,zE,zF]
 rotate_left 1
 ·simp only[Act.put,zD,zE,zF]
 (try simp only[zQ]);obtain⟨Ag,cg,Bg,dg,Dg,eg,rfl⟩:=hF;clear hI;have hSS:zW (fun w':World=>exS w' E0 gxE A1 c1 A2 c2 A3 c3) zU wc:=⟨aA.out _ h.1,trivial⟩
 have hI:(fun w=>zw w2 w) wc:=h.1;clear h xm tF;rw[Nat.add_comm 5];refine zku (i:=3) (v:=?_) rfl zK (by cases l4<;>kernel_rfl) (by cases l4<;>kernel_rfl) zY (fun _ _ _ h=>h) (Or.inl ⟨zR,?_⟩) hSS ?_;rotate_left 1
 ·(intro w hSw;(try dsimp only at hSw);(try simp only[zA,zB,zC]);go_simp;(try with_reducible rfl))
 (try simp only[zQ]);refine zku (i:=4) (v:=?_) rfl zK (by cases l4<;>kernel_rfl) (by cases l4<;>kernel_rfl) zY (fun _ _ _ h=>h) (Or.inl ⟨zR,?_⟩) hSS ?_;rotate_left 1
 ·(intro w hSw;(try dsimp only at hSw);(try simp only[zA,zB,zC]);go_simp;(try with_reducible rfl))
 (try simp only[zQ]);refine zku (i:=5) (v:=?_) rfl zK (by cases l4<;>kernel_rfl) (by cases l4<;>kernel_rfl) zY (fun _ _ _ h=>h) (Or.inl ⟨zR,?_⟩) hSS ?_;rotate_left 1
 ·(intro w hSw;(try dsimp only at hSw);(try simp only[zA,zB,zC]);go_simp;(try with_reducible rfl))
 (try simp only[zQ]);rw[Nat.add_comm (Bool.toNat _) 2];clear hSS;refine zs3 (j:=6) (some 2) 2 (fun l4 => #[true,true,true,true,true,true,l4,false,false]) _ (fun w=>zw w2 w) (AlK w2 (nzVd) 46) rfl rfl zK rfl (fun w h=>⟨aA.out _ h,trivial⟩) (fun w w' h hb=>zka h hb) (fun v4 K w h aN=>?_) (fun u v=>?_) (fun v5 w5 h5 Bh=>?_) l4 v4 wc hI hA ?_
 ·have hb0:=h;have hK:=zh aN;clear aN;(try simp only[zQ]);(try simp only[zA,zB,zC]);go_simp;exact hK.out _ _ (zkb zr _) ⟨_,rfl,hb0.size,yA w _⟩
 ·simp only[Act.put,zD,zE,zF]
 rotate_left 1
 ·simp only[Act.put,zD,zE,zF]
 (try simp only[zQ]);clear hI hA hU;obtain⟨ab,rfl,hbl,hbz⟩:=Bh;obtain⟨q0,q1,q2,q3,q4,q5⟩:=box6 hbz;have cf:∀o,w5.frozen? ⟨ab,o,none⟩=false:=fun _=>zf hbz;obtain⟨w6,wF,wQ,hcy⟩:=zsm (.bool (true,5,nilS,0).1) (zi ((true,5,nilS,0).2.1:Int)) (.slice Ag (true,5,nilS,0).2.2.1.cells.length cg) (.slice Bg (true,5,nilS,0).2.2.1.tin.length dg) (.slice Dg (true,5,nilS,0).2.2.1.tout.length eg) (zi (true,5,nilS,0).2.2.2) hbz;have hby:zw w2 w6:=h5.trans (hcy.below h5.size fun b (e:b=ab)=>zO);have tH:zW (fun w':World=>exS w' E0 gxE A1 c1 A2 c2 A3 c3) zU w6:=⟨aA.out _ hby,trivial⟩
 have dZ:=zh wQ;have dW:=zh (zka HR2.out hby);have HB26:=zh hby;refine zo 7 fun K hK=>?_;(try simp only[zA,zB,zC]);go_simp;refine hK.out _ _ tH ?_;clear hK K q0 q1 q2 q3 q4 q5 cf wF wQ hcy hby h5 hbz;(try simp only[zQ]);refine zT 8 tH ?_;refine zd ?_;refine NoPanic.normal ?_;clear tH aA;go_upto_region 3 with fail;have uf:=zh (show w6.heap[ab]?=some (.cells #[.bool true,zi 5,.slice Ag 0 cg,.slice Bg 0 dg,.slice Dg 0 eg,zi 0] 46 (0,0))from dZ.out);clear dZ;have aA:=zh (show ∀w',zw w6 w'->(fun w':World=>exS w' E0 gxE A1 c1 A2 c2 A3 c3) w' from fun w' hb=>HEC.out _ (zka dW.out hb));have hSS:zW (fun w':World=>exS w' E0 gxE A1 c1 A2 c2 A3 c3) zU w6.drew:=⟨aA.out _ zr.drew,trivial⟩
 refine wp_region_noPanic ?_;refine zG hSS 20 ?_;refine zT 0 hSS ?_;have hI:(fun w=>zw w6 w) w6.drew:=zr.drew;clear hSS;refine zqr (i:=1) (j:=6) (some 17) (some 4) 6 (fun li l4 => #[true,li,false,false,false,false,l4,false,false]) _ (fun w=>zw w6 w) (AlK w6 (nzVd) 46) (fun v w=>PV w Any (updP 41 2) v) rfl rfl rfl rfl zK zK (fun l4=>by cases l4<;>rfl) rfl (fun w h=>⟨aA.out _ h,trivial⟩) (fun w w' h hb=>?_) (fun u w w' h hb=>?_) (fun v4 K w h aN=>?_) (fun v4 K w h aN=>?_) (fun u v=>?_) (fun l4 v4 v wc h hF hA hU=>?_) false undef w6.drew hI (fun h=>by cases h) (fun _=>rfl) ?_
 ·exact zka h hb
 ·obtain⟨b,e1,e2,e3⟩:=h;exact⟨b,e1,e2,zkc e3 hb⟩
 ·have hK:=zh aN;clear aN;have had:Calls prog 21 [zj 41,zi 2].toArray w fun e w'=>∃v,e=.returned v/\(PV w' Any (updP 41 2) v/\zw w w'):=zn7 41 2 zY ⟨zY,zY⟩ w;refine zkf zR (.func 21) [.const (zj 41),.const (zi 2)] _ zR 21 _ zLE zR _ zR _ had ?_;rintro v w' ⟨hv,hb⟩;exact hK.out _ _ hb hv
 ·have hK:=zh aN;clear aN;(try simp only[zQ]);(try simp only[zA,zB,zC]);go_simp;exact hK.out _ _ (zkb zr _) ⟨_,rfl,h.size,yA w _⟩
 ·simp only[Act.put,zD,zE,zF]
 rotate_left 1
 ·simp only[Act.put,zD,zE,zF]
 (try simp only[zQ]);clear hI;have hI:(fun w=>zw w6 w/\PV w Any (updP 41 2) v) wc:=⟨h,hF⟩
 have xm:=hA;have tF:=hU;clear hA hU;refine zqr (i:=2) (j:=6) (some 18) (some 4) 5 (fun li l4 => #[true,true,li,false,false,false,l4,false,false]) _ (fun w=>zw w6 w/\PV w Any (updP 41 2) v) (AlK w6 (nzVd) 46) (fun v w=>VdF (false,1,gxS,0) v) rfl rfl rfl rfl zK zK (fun l4=>by cases l4<;>rfl) rfl (fun w h=>⟨aA.out _ h.1,trivial⟩) (fun w w' h hb=>?_) (fun u w w' h hb=>?_) (fun v4 K w h aN=>?_) (fun v4 K w h aN=>?_) (fun u v=>?_) (fun l4 v4 vv wc h hF hA hU=>?_) l4 v4 wc hI xm tF ?_
 ·exact⟨zka h.1 hb,h.2.later hb⟩
 ·obtain⟨b,e1,e2,e3⟩:=h;exact⟨b,e1,e2,zkc e3 hb⟩
 ·have hK:=zh aN;clear aN;have had:=ztC (lu.out _ (zka dW.out h.1)) h.2 gx_b zMo;refine zkf zR (.func 13) [.tmp 16,.tmp 17] _ zR 13 _ zLI zR [.agg (exA gxE A1 c1 A2 c2 A3 c3),v] zR _ had ?_;rintro v w' ⟨hv,hb⟩;exact hK.out _ _ hb hv
 ·have hK:=zh aN;clear aN;(try simp only[zQ]);(try simp only[zA,zB,zC]);go_simp;exact hK.out _ _ (zkb zr _) ⟨_,rfl,h.1.size,yA w _⟩
 ·simp only[Act.put,zD,zE,zF]
 rotate_left 1
 ·simp only[Act.put,zD,zE,zF]
 (try simp only[zQ]);obtain⟨Ag,cg,Bg,dg,Dg,eg,rfl⟩:=hF;clear hI;have hSS:zW (fun w':World=>exS w' E0 gxE A1 c1 A2 c2 A3 c3) zU wc:=⟨aA.out _ h.1,trivial⟩
 have hI:(fun w=>zw w6 w) wc:=h.1;clear h xm tF;rw[Nat.add_comm 5];refine zku (i:=3) (v:=?_) rfl zK (by cases l4<;>kernel_rfl) (by cases l4<;>kernel_rfl) zY (fun _ _ _ h=>h) (Or.inl ⟨zR,?_⟩) hSS ?_;rotate_left 1
 ·(intro w hSw;(try dsimp only at hSw);(try simp only[zA,zB,zC]);go_simp;(try with_reducible rfl))
 (try simp only[zQ]);refine zku (i:=4) (v:=?_) rfl zK (by cases l4<;>kernel_rfl) (by cases l4<;>kernel_rfl) zY (fun _ _ _ h=>h) (Or.inl ⟨zR,?_⟩) hSS ?_;rotate_left 1
 ·(intro w hSw;(try dsimp only at hSw);(try simp only[zA,zB,zC]);go_simp;(try with_reducible rfl))
 (try simp only[zQ]);refine zku (i:=5) (v:=?_) rfl zK (by cases l4<;>kernel_rfl) (by cases l4<;>kernel_rfl) zY (fun _ _ _ h=>h) (Or.inl ⟨zR,?_⟩) hSS ?_;rotate_left 1
 ·(intro w hSw;(try dsimp only at hSw);(try simp only[zA,zB,zC]);go_simp;(try with_reducible rfl))
 (try simp only[zQ]);rw[Nat.add_comm (Bool.toNat _) 2];clear hSS;refine zs3 (j:=6) (some 4) 2 (fun l4 => #[true,true,true,true,true,true,l4,false,false]) _ (fun w=>zw w6 w) (AlK w6 (nzVd) 46) rfl rfl zK rfl (fun w h=>⟨aA.out _ h,trivial⟩) (fun w w' h hb=>zka h hb) (fun v4 K w h aN=>?_) (fun u v=>?_) (fun v5 w5 h5 Bh=>?_) l4 v4 wc hI hA ?_
 ·have hb0:=h;have hK:=zh aN;clear aN;(try simp only[zQ]);(try simp only[zA,zB,zC]);go_simp;exact hK.out _ _ (zkb zr _) ⟨_,rfl,hb0.size,yA w _⟩
 ·simp only[Act.put,zD,zE,zF]
 rotate_left 1
 ·simp only[Act.put,zD,zE,zF]
 (try simp only[zQ]);clear hI hA hU;obtain⟨bb,rfl,hbl,hbz⟩:=Bh;obtain⟨q0,q1,q2,q3,q4,q5⟩:=box6 hbz;have cf:∀o,w5.frozen? ⟨bb,o,none⟩=false:=fun _=>zf hbz;obtain⟨aZ,wF,wQ,hcy⟩:=zsm (.bool (false,1,gxS,0).1) (zi ((false,1,gxS,0).2.1:Int)) (.slice Ag (false,1,gxS,0).2.2.1.cells.length cg) (.slice Bg (false,1,gxS,0).2.2.1.tin.length dg) (.slice Dg (false,1,gxS,0).2.2.1.tout.length eg) (zi (false,1,gxS,0).2.2.2) hbz;have hby:zw w6 aZ:=h5.trans (hcy.below h5.size fun b (e:b=bb)=>zO);have tH:zW (fun w':World=>exS w' E0 gxE A1 c1 A2 c2 A3 c3) zU aZ:=⟨aA.out _ hby,trivial⟩
 have bA:=zh wQ;have uz:=zh (zka dW.out hby);have HB610:=zh hby;refine zo 7 fun K hK=>?_;(try simp only[zA,zB,zC]);go_simp;refine hK.out _ _ tH ?_;clear hK K q0 q1 q2 q3 q4 q5 cf wF wQ hcy hby h5 hbz;(try simp only[zQ]);refine zT 8 tH ?_;refine zd ?_;refine NoPanic.normal ?_;clear tH aA;have HVB2:=zh (show aZ.heap[bb]?=some (.cells #[.bool false,zi 1,.slice Ag 1 cg,.slice Bg 0 dg,.slice Dg 0 eg,zi 0] 46 (0,0))from bA.out);obtain⟨a0,a1,a2,a3,a4,a5⟩:=box6 (zkc uf.out HB610.out);obtain⟨b0,b1,b2,b3,b4,b5⟩:=box6 HVB2.out;clear bA;go_wp2_with fail;go_ret;exact⟨rfl,zka HB2.out uz.out⟩
end
section
open Go Go.RowKit
def timR(a b:Int):Int:=if a≠0/\(1099511627776:Int).tdiv a<b then 1099511627777 else a*b
def powR(b:Int):Nat->Int
 | 0=>1
 | n+1=>timR (powR b n) b
def upA(b:Int):Int->List Nat->Int
 | s,[]=>s
 | s,i::l=>if 1099511627776<s+powR b i then 1099511627777 else upA b (s+powR b i) l
def upR(b:Int)(n:Nat):Int:=upA b 0 (List.range (n+1))
def cnt1(b:BX)(v:VD):Int:=if v.k=1 then 2*b.v+1 else if v.k=2 then powR (2*b.v+1) v.n.toNat else upR (2*b.v+1) b.l.toNat
def cntF(vs:List VD)(b:BX):Int:=vs.foldl (fun n v=>timR n (cnt1 b v)) (upR (2*b.v+1) b.i.toNat)
def rngZ(v:Int):List Int:=(List.range (2*v+1).toNat).map fun i:Nat=>(i:Int)-v
def tupE(v:Int):Nat->List (List Int)
 | 0=>[[]]
 | n+1=>(tupE v n).flatMap fun t=>(rngZ v).map fun x=>t++[x]
def betE(v:Int)(a m:Nat):List (List Int):=(List.range (m+1-a)).flatMap fun i=>tupE v (a+i)
def lstE(b:BX)(v:VD):List (List Int):=if v.k=1 then betE b.v 1 1 else if v.k=2 then betE b.v v.n.toNat v.n.toNat else betE b.v 0 b.l.toNat
def stg(st:List SS)(l:List (List Int)):List SS:=st.flatMap fun s=>l.map fun x=>⟨s.cells++[x],[],[]⟩
def stgF(b:BX)(vs:List VD):List SS:=vs.foldl (fun st v=>stg st (lstE b v)) [nilS]
def allU(vs:List VD)(b:BX):List SS:=(stgF b vs).flatMap fun s=>(betE b.v 0 b.i.toNat).map fun x=>⟨s.cells,x,[]⟩
theorem zqt{a b:Int}(ha:1<=a/\a<=1099511627777)(hb:1<=b/\b<=1099511627777):1<=timR a b/\timR a b<=1099511627777:=by
 unfold timR
 split
 ·omega
 ·rename_i h;have h1:b<=(1099511627776:Int).tdiv a:=by
   by_cases h2:b<=(1099511627776:Int).tdiv a
   ·exact h2
   ·exact absurd ⟨zO,zO⟩ h
  rw[Int.tdiv_eq_ediv_of_nonneg zY]at h1;have h2:b*a<=1099511627776:=(Int.le_ediv_iff_mul_le zO).1 h1;have h3:1*1<=a*b:=Int.mul_le_mul ha.1 hb.1 zY zO;rw[Int.mul_comm]at h2;omega
theorem zn8{a b:Int}(ha:1<=a)(hb:1<=b)(h:timR a b<=60):timR a b=a*b/\a<=60/\b<=60:=by
 unfold timR at h ⊢
 split at h
 ·omega
 ·rename_i h0;rw[if_neg h0];have h1:a*1<=a*b:=Int.mul_le_mul_of_nonneg_left hb zO;have h2:1*b<=a*b:=Int.mul_le_mul_of_nonneg_right ha zO;exact⟨rfl,zO,zO⟩
theorem zmG{b:Int}(hb:1<=b/\b<=2001):∀n,1<=powR b n/\powR b n<=1099511627777
 | 0=>by unfold powR;omega
 | n+1=>zqt (zmG hb n) zO
theorem zob{b:Int}(hb:1<=b/\b<=2001):∀n,powR b n<=60->powR b n=b ^ n
 | 0,_=>by rw[Int.pow_zero];rfl
 | n+1,h=>by
  have h1:=zn8 (zmG hb n).1 hb.1 h;rw[powR,h1.1,zob hb n h1.2.1,Int.pow_succ]
theorem zsg{b:Int}(hb:1<=b/\b<=2001):∀(l:List Nat) (s:Int),0<=s/\s<=1099511627776->s<=upA b s l/\upA b s l<=1099511627777
 | [],s,h=>by unfold upA;omega
 | i::l,s,h=>by
  have h1:=zmG hb i;unfold upA
  split
  ·omega
  ·have:=zsg hb l (s+powR b i) zO;omega
theorem zsf{b:Int}(hb:1<=b/\b<=2001)(n:Nat):1<=upR b n/\upR b n<=1099511627777:=by
 unfold upR;rw[List.range_succ_eq_map];unfold upA;rw[if_neg (by unfold powR;decide)];have:=zsg hb (List.map Nat.succ (List.range n)) (0+powR b 0) (by unfold powR;decide);unfold powR at this ⊢;omega
theorem zq7{b:Int}(hb:1<=b/\b<=2001):∀(l:List Nat) (s:Int),0<=s->upA b s l<=60->upA b s l=s+(l.map fun i=>b ^ i).sum/\∀i∈l,powR b i<=60
 | [],s,_,h=>by unfold upA;simp
 | i::l,s,h0,h=>by
  have h1:=zmG hb i;unfold upA at h ⊢
  split at h
  ·omega
  ·rename_i h2;rw[if_neg h2];have h3:=zq7 hb l (s+powR b i) zO h;have h4:=(zsg hb l (s+powR b i) zO).1;have h5:powR b i<=60:=zO
   rw[h3.1,zob hb i h5];refine⟨by simp;omega,fun j hj=>?_⟩;rcases List.mem_cons.1 hj with rfl|hj
   ·exact h5
   ·exact h3.2 j hj
theorem zxR(v:Int):(rngZ v).length=(2*v+1).toNat:=by simp[rngZ]
theorem zs5{v:Int}(hv:0<=v):∀n,((tupE v n).length:Int)=(2*v+1) ^ n
 | 0=>by rw[Int.pow_zero];rfl
 | n+1=>by
  have h:∀l:List (List Int),((l.flatMap fun t=>(rngZ v).map fun x=>t++[x]).length:Int)=l.length*(2*v+1):=by
   intro l
   induction l with
   | nil=>simp
   | cons t l ih =>
    rw[List.flatMap_cons,yU,List.length_map,zxR,yV];have e:((2*v+1).toNat:Int)=2*v+1:=Int.toNat_of_nonneg zO
    push_cast
    rw[ih,e,Int.add_mul];omega
  rw[tupE,h,zs5 hv n,Int.pow_succ]
theorem zoN{v:Int}(hv:0<=v)(a m:Nat):((betE v a m).length:Int)=((List.range (m+1-a)).map fun i=>(2*v+1) ^ (a+i)).sum:=by
 unfold betE
 induction List.range (m+1-a)with
 | nil=>rfl
 | cons i l ih=>rw[List.flatMap_cons,yU,List.map_cons,List.sum_cons,<-ih,<-zs5 hv (a+i)];push_cast;rfl
theorem zmH{b:BX}(h:b.ok=true):(0<=b.v/\b.v<=1000)/\(0<=b.l/\b.l<=1000)/\0<=b.i/\b.i<=1000:=by
 simp only[BX.ok,okI,Bool.and_eq_true,yK1]at h;omega
theorem zoK{b:BX}(hb:0<=b.v/\b.v<=1000)(v:VD):1<=cnt1 b v/\cnt1 b v<=1099511627777:=by
 unfold cnt1
 split
 ·omega
 ·split
  ·exact zmG zO _
  ·exact zsf zO _
theorem zzn{v:Int}(hv:0<=v/\v<=1000){n:Nat}(h:upR (2*v+1) n<=60):((betE v 0 n).length:Int)=upR (2*v+1) n:=by
 have h1:=(zq7 (b:=2*v+1) zO (List.range (n+1)) 0 zY h).1;rw[zoN hv.1,show upR (2*v+1) n=upA (2*v+1) 0 (List.range (n+1))from rfl,h1];simp
theorem zvL{b:BX}{v:VD}(hb:0<=b.v/\b.v<=1000)(h:cnt1 b v<=60):((lstE b v).length:Int)=cnt1 b v:=by
 unfold lstE;unfold cnt1 at h ⊢;by_cases h1:v.k=1
 ·rw[if_pos h1]at h ⊢;rw[if_pos h1,zoN hb.1];simp[Int.pow_succ]
 ·rw[if_neg h1]at h ⊢;rw[if_neg h1];by_cases h2:v.k=2
  ·rw[if_pos h2]at h ⊢;rw[if_pos h2,zoN hb.1,zob zO _ h];simp
  ·rw[if_neg h2]at h ⊢;rw[if_neg h2,zzn hb h]
theorem znX{vs:List VD}{b:BX}{i:Nat}(hi:i<vs.length):cntF (vs.take (i+1)) b=timR (cntF (vs.take i) b) (cnt1 b vs[i]):=by
 unfold cntF;rw[yH hi,List.foldl_append];rfl
theorem zvd{vs:List VD}{b:BX}{i:Nat}(hi:i<vs.length):stgF b (vs.take (i+1))=stg (stgF b (vs.take i)) (lstE b vs[i]):=by
 unfold stgF;rw[yH hi,List.foldl_append];rfl
theorem zoJ{b:BX}(hb:b.ok=true)(vs:List VD):1<=cntF vs b/\cntF vs b<=1099511627777:=by
 have hk:=zmH hb;unfold cntF;have:∀(l:List VD) (n:Int),1<=n/\n<=1099511627777->1<=l.foldl (fun n v=>timR n (cnt1 b v)) n/\l.foldl (fun n v=>timR n (cnt1 b v)) n<=1099511627777:=by
  intro l
  induction l with
  | nil=>intro n h;exact h
  | cons v l ih=>intro n h;exact ih _ (zqt h (zoK hk.1 v))
 exact this vs _ (zsf zO _)
theorem ztR{vs:List VD}{b:BX}(hb:b.ok=true)(h:cntF vs b<=60):∀k,k<=vs.length->cntF (vs.take (vs.length-k)) b<=60
 | 0,_=>by simpa using h
 | k+1,hk=>by
  have h1:=ztR hb h k zO;rw[show vs.length-k=vs.length-(k+1)+1 by omega,znX zO]at h1;exact(zn8 (zoJ hb _).1 (zoK (zmH hb).1 _).1 h1).2.1
theorem zvc(st:List SS)(l:List (List Int)):(stg st l).length=st.length*l.length:=by
 unfold stg
 induction st with
 | nil=>simp
 | cons s st ih=>rw[List.flatMap_cons,yU,ih,List.length_map,yV,Nat.add_mul];omega
structure RefB(vs:List VD)(b:BX):Prop where
 one:∀i (hi:i<vs.length),cnt1 b vs[i]<=60/\(lstE b vs[i]).length<=60
 st:∀i,i<=vs.length->((stgF b (vs.take i)).length:Int)*upR (2*b.v+1) b.i.toNat=cntF (vs.take i) b/\(stgF b (vs.take i)).length<=60
 inp:((betE b.v 0 b.i.toNat).length:Int)=upR (2*b.v+1) b.i.toNat/\(betE b.v 0 b.i.toNat).length<=60
 all:((allU vs b).length:Int)=cntF vs b/\(allU vs b).length<=60
theorem zz7{vs:List VD}{b:BX}(hb:b.ok=true)(h:cntF vs b<=60):RefB vs b:=by
 have hk:=zmH hb;have h1:∀i (hi:i<vs.length),cnt1 b vs[i]<=60/\cntF (vs.take i) b<=60/\cntF (vs.take (i+1)) b=cntF (vs.take i) b*cnt1 b vs[i]:=fun i hi=>by
  have h2:=ztR hb h (vs.length-(i+1)) zO;rw[show vs.length-(vs.length-(i+1))=i+1 by omega,znX hi]at h2;have h3:=zn8 (zoJ hb _).1 (zoK hk.1 _).1 h2;exact⟨h3.2.2,h3.2.1,by rw[znX hi];exact h3.1⟩
 have hup:=zsf (b:=2*b.v+1) zO b.i.toNat
 have hu:upR (2*b.v+1) b.i.toNat<=60:=by
  have:=ztR hb h vs.length zl;simpa[cntF]using this
 have hst:∀i,i<=vs.length->((stgF b (vs.take i)).length:Int)*upR (2*b.v+1) b.i.toNat=cntF (vs.take i) b:=by
  intro i
  induction i with
  | zero=>intro _;simp[stgF,cntF]
  | succ i ih =>
   intro hi;rw[zvd zO,zvc,(h1 i zO).2.2,<-ih zO]
   push_cast
   rw[zvL hk.1 (h1 i zO).1,Int.mul_assoc,Int.mul_assoc,Int.mul_comm (cnt1 b vs[i])]
 have hle:∀i,i<=vs.length->(stgF b (vs.take i)).length<=60:=fun i hi=>by
  have h2:=ztR hb h (vs.length-i) zO;rw[show vs.length-(vs.length-i)=i by omega,<-hst i hi]at h2;have h3:((stgF b (vs.take i)).length:Int)*1<=((stgF b (vs.take i)).length:Int)*upR (2*b.v+1) b.i.toNat:=Int.mul_le_mul_of_nonneg_left hup.1 zO;omega
 have hin:=zzn hk.1 hu;have hall:((allU vs b).length:Int)=cntF vs b:=by
  have h3:=hst vs.length zl;rw[List.take_length]at h3;rw[<-h3,<-hin];unfold allU
  induction stgF b vs with
  | nil=>simp
  | cons s st ih=>rw[List.flatMap_cons,yU,List.length_map,yV];push_cast;rw[ih,Int.add_mul];omega
 exact⟨fun i hi=>⟨(h1 i hi).1,by have:=zvL hk.1 (h1 i hi).1;have:=(h1 i hi).1;omega⟩,fun i hi=>⟨hst i hi,hle i hi⟩,⟨hin,zO⟩,⟨hall,zO⟩⟩
theorem zra(a b:Int)(w:World)(ha:1<=a/\a<=1099511627777)(hb:1<=b/\b<=1099511627777):Calls prog 50 #[zi a,zi b] w fun e w'=>e=.returned (zi (timR a b))/\w'=w:=by
 have e0:(a != 0)=true:=by simp;omega
 have e1:(a==0)=false:=by simp;omega
 have hq:=Int.tdiv_eq_ediv_of_nonneg (a:=1099511627776) (b:=a) zY;have hq2:0<=(1099511627776:Int) / a/\(1099511627776:Int) / a<=1099511627776:=⟨Int.ediv_nonneg zY zO,Int.ediv_le_self _ zY⟩
 have hw:IntKind.i64.wrap ((1099511627776:Int).tdiv a)=(1099511627776:Int).tdiv a:=yF _ (by rw[hq];omega);by_cases h:(1099511627776:Int).tdiv a<b
 ·have HT:=zh (show timR a b=1099511627777 by unfold timR;rw[if_pos ⟨zO,h⟩]);clear hq hq2;go_enter func50,ntmps50;go_wp2_with fail;go_ret;exact⟨by rw[HT.out];rfl,rfl⟩
 ·have HT:=zh (show timR a b=a*b by unfold timR;rw[if_neg fun h2=>h h2.2]);have hm:IntKind.i64.wrap (a*b)=a*b:=yF _ (by have:=zqt ha hb;rw[HT.out]at this;omega);clear hq hq2;go_enter func50,ntmps50;go_wp2_with fail;go_ret;exact⟨by rw[HT.out];rfl,rfl⟩
theorem zrl(b:Int)(n:Nat)(w:World)(hb:1<=b/\b<=2001)(hn:n<=1000):Calls prog 51 #[zi b,zi (n:Int)] w fun e w'=>e=.returned (zi (powR b n))/\w'=w:=by
 have HT:=zh (fun i w'=>zra (powR b i) b w' (zmG hb i) zO);have HB:=zh hb;clear hb;go_enter func51,ntmps51;go_wp2_with fail
 go_loopw [6,5] (fun i s wr=>∃j:Nat,j<=n/\i=zi j/\s=zi (powR b j)/\wr=w) (fun i _ _=>n-(intOf i).toNat)
 case atStart=>exact⟨0,zO,rfl,rfl,rfl⟩
 case round =>
  obtain⟨j,hj,rfl,rfl,rfl⟩:=hrel;by_cases hlt:j<n
  ·have hj1:(j:Int)<(n:Int):=zO
   have hj0:(0:Int)<=(j:Int):=zO
   go_wp2_with fail;refine(HT.out j _).mono ?_;rintro e w1 ⟨rfl,rfl⟩;go_wp2_with fail
   go_roundw
   case rel=>exact⟨j+1,zO,by go_num,rfl,trivial⟩
   case measure=>simp[intOf];omega
  ·obtain rfl:j=n:=zO
   have hj1:¬ (j:Int)<(j:Int):=zO
   go_wp2_with fail;go_ret;simp
theorem zxC(b:Int)(n:Nat)(w:World)(hb:1<=b/\b<=2001)(hn:n<=1000):Calls prog 49 #[zi b,zi (n:Int)] w fun e w'=>e=.returned (zi (upR b n))/\w'=w:=by
 have HT:=zh (fun i w' (hi:i<=1000)=>zrl b i w' hb hi);have HB:=zh hb;clear hb;go_enter func49,ntmps49;go_wp2_with fail
 go_loopw [6,5] (fun i s wr=>∃(j:Nat) (x:Int),j<=n+1/\i=zi j/\s=zi x/\(0<=x/\x<=1099511627776)/\wr=w/\Hid (upR b n=upA b x ((List.range (n+1)).drop j))) (fun i _ _=>n+1-(intOf i).toNat)
 case atStart=>exact⟨0,0,zO,rfl,rfl,zO,rfl,zh rfl⟩
 case round =>
  obtain⟨j,x,hj,rfl,rfl,hx,rfl,HU⟩:=hrel;by_cases hlt:j<=n
  ·have hj1:(j:Int)<=(n:Int):=zO
   have hj0:(0:Int)<=(j:Int):=zO
   go_wp2_with fail;refine(HT.out j _ zO).mono ?_;rintro e w1 ⟨rfl,rfl⟩;have hp:=zmG HB.out j;obtain⟨y,hy⟩:=zX (powR b j);have HU2:=zh (show upR b n=if 1099511627776<x+y then 1099511627777 else upA b (x+y) ((List.range (n+1)).drop (j+1)) by
    rw[HU.out,yP1 (by simp;omega),List.getElem_range,upA,hy])
   rw[hy]at hp ⊢;have hw:IntKind.i64.wrap (x+y)=x+y:=yF _ zO;by_cases hg:1099511627776<x+y
   ·go_wp2_with fail;go_ret;exact⟨by rw[HU2.out,if_pos hg];rfl,rfl⟩
   ·go_wp2_with fail
    go_roundw
    case rel=>exact⟨j+1,x+y,zO,by go_num,rfl,zO,trivial,zh (by rw[HU2.out,if_neg zO])⟩
    case measure=>simp[intOf];omega
  ·obtain rfl:j=n+1:=zO
   have hj1:¬ ((n+1:Nat):Int)<=(n:Int):=zO
   go_wp2_with fail;go_ret;exact⟨by rw[HU.out,List.drop_eq_nil_of_le zS];rfl,rfl⟩
theorem zzQ{v:VD}(h:vdB v=true):(v.k=1/\v.n=0)\/(v.k=2/\1<=v.n/\v.n<=16)\/(v.k=3/\v.n=0):=by
 unfold vdB at h;by_cases h1:v.k=1\/v.k=3
 ·rw[if_pos h1]at h;have h:=eq_of_beq h;rcases h1 with h1|h1
  ·exact .inl ⟨h1,h⟩
  ·exact .inr (.inr ⟨h1,h⟩)
 ·rw[if_neg h1]at h;by_cases h2:v.k=2
  ·rw[if_pos h2]at h;exact .inr (.inl ⟨h2,of_decide_eq_true h⟩)
  ·rw[if_neg h2]at h;cases h
theorem zxH{vs:List VD}(h:svB vs=true):vs.length<=32/\∀v∈vs,vdB v=true:=by
 unfold svB at h;simp only[Bool.and_eq_true,yK1,List.all_eq_true]at h;exact h
theorem zuI(vs:List VD)(b:BX)(A:Option Addr)(c:Nat)(w:World)(hr:RowV w Any A vs)(hok:(b.ok&&svB vs)=true) :
  Calls prog 24 #[.slice A vs.length c,zi b.v,zi b.l,zi b.i] w fun e w'=>e=.returned (zi (cntF vs b))/\w'=w:=by
 simp only[Bool.and_eq_true]at hok;have hb:=zmH hok.1;obtain⟨hn,hvd⟩:=zxH hok.2;have HB:=zh hb;have HV:=zh hvd;have HC:=zh (fun i (hi:i<=vs.length)=>zoJ hok.1 (vs.take i));obtain⟨V,hV⟩:=zX (b.v);obtain⟨nl,hnl⟩:∃nl:Nat,b.l=(nl:Int):=⟨b.l.toNat,zO⟩
 obtain⟨ni,hni⟩:∃ni:Nat,b.i=(ni:Int):=⟨b.i.toNat,zO⟩
 have dI:=zh (And.intro hV (And.intro hnl hni));have vS:=zh (fun n w' (h:n<=1000)=>zxC (2*V+1) n w' zO h);have yN:=zh (fun n w' (h:n<=1000)=>zrl (2*V+1) n w' zO h);have Bz:=zh (fun i v w' (hi:i<=vs.length)=>zra (cntF (vs.take i) b) (cnt1 b v) w' (zoJ hok.1 (vs.take i)) (zoK hb.1 v));have vT:=zh (fun i (hi:i<vs.length)=>znX (b:=b) hi);have jM:=zh (fun v=>show cnt1 b v=if v.k=1 then 2*V+1 else if v.k=2 then powR (2*V+1) v.n.toNat else upR (2*V+1) nl by unfold cnt1;rw[hV,hnl];rfl);have bD:=zh (show cntF (vs.take 0) b=upR (2*V+1) ni by unfold cntF;rw[hV,hni];rfl);have e1:IntKind.i64.wrap (2*V)=2*V:=yF _ zO;have e2:IntKind.i64.wrap (2*V+1)=2*V+1:=yF _ zO;have hnl3:nl<=1000:=zO
 have hni3:ni<=1000:=zO
 have HR:=zh hr;have HT:=zh (show cntF (vs.take vs.length) b=cntF vs b by rw[List.take_length]);obtain⟨CF,hCF⟩:∃CF:Nat->Int,∀i,cntF (vs.take i) b=CF i:=⟨fun i=>cntF (vs.take i) b,fun _=>rfl⟩
 simp only[hCF]at HC Bz vT bD HT;rw[<-HT.out,hV,hnl,hni];obtain⟨C1,bz⟩:∃C1:VD->Int,∀v,cnt1 b v=C1 v:=⟨fun v=>cnt1 b v,fun _=>rfl⟩
 simp only[bz]at Bz vT jM;clear hok hb hvd hr hV hnl hni hCF bz;obtain⟨n,hn'⟩:=zX (vs.length);have HN:=zh hn';rw[hn']at hn ⊢;clear hn';go_enter func24,ntmps24;go_wp2_with fail;refine(vS.out ni w hni3).mono ?_;rintro e w1 ⟨rfl,rfl⟩;rw[<-bD.out];go_wp2_with fail
 go_loopw [10,9] (fun i s wr=>∃j:Nat,j<=n/\i=zi j/\s=zi (CF j)/\wr=w1) (fun i _ _=>n-(intOf i).toNat)
 case atStart=>exact⟨0,zO,rfl,rfl,rfl⟩
 case round =>
  obtain⟨j,hj,rfl,rfl,rfl⟩:=hrel;by_cases hlt:j<n
  ·have hj1:(j:Int)<(n:Int):=zO
   have hj0:(0:Int)<=(j:Int):=zO
   have dP:j<vs.length:=by rw[HN.out];exact hlt
   obtain⟨a,v,rfl,-,hv,⟨x0,x1,x2⟩,-⟩:=HR.out.nd dP;have hvb:=zzQ (HV.out _ (yE dP));have og:=Bz.out j v wr zO;have htk:=vT.out j dP;have hc1:=jM.out v;rw[hv.out]at hvb htk;rw[<-htk]at og;clear htk hv dP;obtain⟨v0,v1,v2⟩:=v;simp only at x0 x1 x2 hvb hc1;rcases hvb with⟨rfl,rfl⟩|⟨rfl,hn1,hn2⟩|⟨rfl,rfl⟩
   ·rw[if_pos rfl]at hc1;rw[hc1]at og;have ny:=zh og;clear og hc1;go_wp2_with fail;refine ny.out.mono ?_;rintro e w2 ⟨rfl,rfl⟩;go_wp2_with fail
    go_roundw
    case rel=>exact⟨j+1,zO,by go_num,rfl,trivial⟩
    case measure=>simp[intOf];omega
   ·rw[if_neg zY,if_pos rfl]at hc1;obtain⟨m,rfl⟩:∃m:Nat,v2=(m:Int):=⟨v2.toNat,zO⟩
    rw[show((m:Int)).toNat=m from rfl]at hc1;have hm:m<=1000:=zO
    rw[hc1]at og;have ny:=zh og;clear og hc1;go_wp2_with fail;refine(yN.out m wr hm).mono ?_;rintro e w2 ⟨rfl,rfl⟩;go_wp2_with fail;refine ny.out.mono ?_;rintro e w2 ⟨rfl,rfl⟩;go_wp2_with fail
    go_roundw
    case rel=>exact⟨j+1,zO,by go_num,rfl,trivial⟩
    case measure=>simp[intOf];omega
   ·rw[if_neg zY,if_neg zY]at hc1;rw[hc1]at og;have ny:=zh og;clear og hc1;go_wp2_with fail;refine(vS.out nl wr hnl3).mono ?_;rintro e w2 ⟨rfl,rfl⟩;go_wp2_with fail;refine ny.out.mono ?_;rintro e w2 ⟨rfl,rfl⟩;go_wp2_with fail
    go_roundw
    case rel=>exact⟨j+1,zO,by go_num,rfl,trivial⟩
    case measure=>simp[intOf];omega
  ·obtain rfl:j=n:=zO
   have hj1:¬ (j:Int)<(j:Int):=zO
   go_wp2_with fail;go_ret;exact⟨rfl,rfl⟩
theorem zxA{v:VD}(h:(v.k=1/\v.n=0)\/(v.k=2/\1<=v.n/\v.n<=16)\/(v.k=3/\v.n=0)):vdB v=true:=by
 unfold vdB;rcases h with⟨h1,h2⟩|⟨h1,h2⟩|⟨h1,h2⟩
 ·rw[if_pos (.inl h1),h2];rfl
 ·rw[if_neg zO,if_pos h1];exact yL1 h2
 ·rw[if_pos (.inr h1),h2];rfl
theorem zu1{v:VD}(h:¬ ((v.k=1/\v.n=0)\/(v.k=2/\1<=v.n/\v.n<=16)\/(v.k=3/\v.n=0))):vdB v=false:=by
 cases e:vdB v with
 | false=>rfl
 | true=>exact absurd (zzQ e) h
theorem zzY{vs:List VD}{i:Nat}(hi:i<vs.length)(h:vdB vs[i]=false):svB vs=false:=by
 cases e:svB vs with
 | false=>rfl
 | true=>rw[(zxH e).2 _ (yE hi)]at h;cases h
theorem zzZ{vs:List VD}{n:Nat}(hn:vs.length=n)(h32:n<=32)(h:∀i (hi:i<vs.length),vdB vs[i]=true):svB vs=true:=by
 unfold svB;simp only[Bool.and_eq_true,yK1,List.all_eq_true];exact⟨zO,fun v hv=>by obtain⟨i,hi,rfl⟩:=List.mem_iff_getElem.1 hv;exact h i hi⟩
theorem zKe{b:BX}(h:((0<=b.v/\b.v<=1000)/\(0<=b.l/\b.l<=1000)/\0<=b.i/\b.i<=1000)):b.ok=true:=by
 simp only[BX.ok,okI,Bool.and_eq_true,yK1];omega
theorem zx1{b:BX}(h:¬ ((0<=b.v/\b.v<=1000)/\(0<=b.l/\b.l<=1000)/\0<=b.i/\b.i<=1000)):b.ok=false:=by
 cases e:b.ok with
 | false=>rfl
 | true=>exact absurd (zmH e) h
theorem zuH(vs:List VD)(b:BX)(A:Option Addr)(c:Nat)(w:World)(hr:RowV w Any A vs)(hl:vs.length<=LV) :
  Calls prog 23 #[.slice A vs.length c,zi b.v,zi b.l,zi b.i] w (zu (.bool (b.ok&&svB vs)) w):=by
 have hl1:=zlg hl;have HR:=zh hr;obtain⟨RR,hRR⟩:=zX ((b.ok&&svB vs));have HRR:=zh hRR;rw[hRR];obtain⟨V,hV⟩:=zX (b.v);obtain⟨L,hL⟩:=zX (b.l);obtain⟨I,hI⟩:=zX (b.i);have yR:=zh (fun h=>zKe (b:=b) h);have uL:=zh (fun h=>zx1 (b:=b) h);have nA:=zh (fun(n:Nat)=>zzZ (vs:=vs) (n:=n));rw[hV,hL,hI]at yR uL ⊢;clear hr hl hRR hV hL hI;obtain⟨n,hn⟩:=zX (vs.length);have HN:=zh hn;rw[hn]at hl1 ⊢;clear hn;go_enter func23,ntmps23;by_cases h32:32<n
 ·have h32i:(32:Int)<(n:Int):=zO
  go_wp2_with fail;go_ret;exact⟨by rw[<-HRR.out,show svB vs=false by { cases e:svB vs with|false=>rfl|true=>have:=(zxH e).1;have:=HN.out;omega },Bool.and_false];rfl,zr⟩
 have h32i:¬ (32:Int)<(n:Int):=zO
 go_wp2_with fail
 go_loopw [9] (fun i wr=>∃j:Nat,j<=n/\i=zi j/\Hid (zw w wr)/\Hid (∀i (hi:i<vs.length),i<j->vdB vs[i]=true)) (fun i _=>n-(intOf i).toNat)
 case atStart=>exact⟨0,zO,rfl,zh zr,zh fun i _ h=>zO⟩
 case round =>
  obtain⟨j,hj,rfl,ag,HE⟩:=hrel;by_cases hlt:j<n
  ·have hj1:(j:Int)<(n:Int):=zO
   have hj0:(0:Int)<=(j:Int):=zO
   have dP:j<vs.length:=by rw[HN.out];exact hlt
   obtain⟨a,v,rfl,-,hv,⟨x0,x1,x2⟩,hfl⟩:=(HR.out.later ag.out).nd dP;have Bt:=zh (fun h=>(congrArg vdB hv.out).trans (zxA (v:=v) h));have nu:=zh (fun h=>zzY dP ((congrArg vdB hv.out).trans (zu1 (v:=v) h)));have HJ:=zh dP;obtain⟨v0,v1,v2⟩:=v;have hk:=hfl.2.1;simp only at x0 x1 x2 Bt nu hk;have hk1:=yA wr (.cells #[.string v0,zj v1,zi v2] 38);have rD:=zh (zkb ag.out (.cells #[.string v0,zj v1,zi v2] 38));obtain⟨wm,vE⟩:=zX (wr.alloc (.cells #[.string v0,zj v1,zi v2] 38));rw[vE]at hk1 rD;obtain⟨y0,y1,y2⟩:=zmb hk1;clear hv hfl hk1;by_cases c1:v1<1
   ·go_wp2_with fail;go_ret;exact⟨by rw[<-HRR.out,nu.out zO,Bool.and_false];rfl,rD.out⟩
   by_cases c2:3<v1
   ·go_wp2_with fail;go_ret;exact⟨by rw[<-HRR.out,nu.out zO,Bool.and_false];rfl,rD.out⟩
   by_cases c3:v1=2
   ·subst c3;by_cases c4:v2<1
    ·go_wp2_with fail;go_ret;exact⟨by rw[<-HRR.out,nu.out zO,Bool.and_false];rfl,rD.out⟩
    by_cases c5:16<v2
    ·go_wp2_with fail;go_ret;exact⟨by rw[<-HRR.out,nu.out zO,Bool.and_false];rfl,rD.out⟩
    go_wp2_with fail
    go_roundw
    case rel =>
     refine⟨j+1,zO,by go_num,rD,zh fun i hi hij=>?_⟩;by_cases e:i<j
     ·exact HE.out i hi e
     ·obtain rfl:i=j:=zO
      exact Bt.out zO
    case measure=>simp[intOf];omega
   ·have c3b:(v1==2)=false:=by simpa using c3
    have c3c:(v1 != 2)=true:=by simpa using c3
    by_cases c4:v2=0;rotate_left 1
    ·have c4b:(v2 != 0)=true:=by simpa using c4
     go_wp2_with fail;go_ret;exact⟨by rw[<-HRR.out,nu.out zO,Bool.and_false];rfl,rD.out⟩
    ·have c4b:(v2 != 0)=false:=by simpa using c4
     have dB:=zh c4;clear c4;go_wp2_with fail
     go_roundw
     case rel =>
      refine⟨j+1,zO,by go_num,rD,zh fun i hi hij=>?_⟩;by_cases e:i<j
      ·exact HE.out i hi e
      ·obtain rfl:i=j:=zO
       exact Bt.out (by have:=dB.out;omega)
     case measure=>simp[intOf];omega
  ·obtain rfl:j=n:=zO
   have hj1:¬ (j:Int)<(j:Int):=zO
   by_cases g1:0<=V;rotate_left 1
   ·go_wp2_with fail;go_ret;exact⟨by rw[<-HRR.out,show b.ok=false from uL.out zO];rfl,ag.out⟩
   by_cases g2:V<=1000;rotate_left 1
   ·go_wp2_with fail;go_ret;exact⟨by rw[<-HRR.out,show b.ok=false from uL.out zO];rfl,ag.out⟩
   by_cases g3:0<=L;rotate_left 1
   ·go_wp2_with fail;go_ret;exact⟨by rw[<-HRR.out,show b.ok=false from uL.out zO];rfl,ag.out⟩
   by_cases g4:L<=1000;rotate_left 1
   ·go_wp2_with fail;go_ret;exact⟨by rw[<-HRR.out,show b.ok=false from uL.out zO];rfl,ag.out⟩
   by_cases g5:0<=I;rotate_left 1
   ·go_wp2_with fail;go_ret;exact⟨by rw[<-HRR.out,show b.ok=false from uL.out zO];rfl,ag.out⟩
   by_cases g6:I<=1000;rotate_left 1
   ·go_wp2_with fail;go_ret;exact⟨by rw[<-HRR.out,show b.ok=false from uL.out zO];rfl,ag.out⟩
   go_wp2_with fail;go_ret;exact⟨by rw[<-HRR.out,show b.ok=true from yR.out zO,nA.out _ HN.out zO fun i hi=>HE.out i hi (by have:=HN.out;omega)];rfl,ag.out⟩
attribute [local go_sem] Oper.semAt_some
mutual
/-- How many nodes are left of a budget. -/
def szR:T->Int->Int
 | .nd _ _ _ ks,l=>szRs ks (l-1)
def szRs:List T->Int->Int
 | [],l=>l
 | t::ts,l=>if l<0 then l else szRs ts (szR t l)
end
theorem zs8:∀(m:Nat) (t:T) (l:Int),size t<=m->0<=l -> -1<=szR t l/\szR t l<=l
 | 0,.nd k n s ks,l,h,_=>by rw[size]at h;omega
 | m+1,.nd k n s ks,l,h,h0=>by
  rw[szR];rw[size]at h;have key:∀(us:List T) (l:Int),zk9 us<=m -> -1<=l -> -1<=szRs us l/\szRs us l<=l:=by
   intro us
   induction us with
   | nil=>intro l _ h1;rw[szRs];exact⟨h1,Int.le_refl _⟩
   | cons u us ih =>
    intro l hs h1;rw[zk9]at hs;rw[szRs]
    split
    ·exact⟨h1,Int.le_refl _⟩
    ·have h2:=zs8 m u l zO zO;have h3:=ih (szR u l) zO h2.1;exact⟨h3.1,zO⟩
  have:=key ks (l-1) zO zO;exact⟨this.1,zO⟩
theorem zs7:∀(ts:List T) (l:Int),-1<=l->0<=szRs ts l->(ts.length:Int)<=l
 | [],l,_,h=>by rw[szRs]at h;simpa using h
 | t::ts,l,h0,h=>by
  rw[szRs]at h
  split at h
  ·omega
  ·rename_i hl;obtain⟨k,n,s,ks⟩:=t;have h1 : -1<=szR (.nd k n s ks) l/\szR (.nd k n s ks) l<=l-1:=by
    rw[szR];have h2:=zs8 _ (.nd k n s ks) l zl zO;rw[szR]at h2;refine⟨h2.1,?_⟩;rcases Int.lt_or_le (l-1) 0 with h3|h3
    ·cases ks with
     | nil=>rw[szRs];exact Int.le_refl _
     | cons u us=>rw[szRs,if_pos h3];exact Int.le_refl _
    ·have key:∀(us:List T) (l:Int),-1<=l -> -1<=szRs us l/\szRs us l<=l:=by
      intro us
      induction us with
      | nil=>intro l h1;rw[szRs];exact⟨h1,Int.le_refl _⟩
      | cons u us ih =>
       intro l h1;rw[szRs]
       split
       ·exact⟨h1,Int.le_refl _⟩
       ·have h2:=zs8 _ u l zl zO;have h3:=ih (szR u l) h2.1;exact⟨h3.1,zO⟩
     exact(key ks (l-1) zO).2
   have:=zs7 ts _ h1.1 h;simp only[yV];omega
theorem zzX{t:T}(h:0<=szR t 100):t.ks.length<=100:=by
 obtain⟨k,n,s,ks⟩:=t;rw[szR]at h;have:=zs7 ks 99 zY h
 show ks.length<=100
 omega
theorem zpR:∀(t:T) (v:Value) (l:Int) (w:World),NV w Any t v->0<=l->l<=1000->Calls prog 48 #[v,zi l] w (zu (zi (szR t l)) w):=by
 intro t
 induction t using T.ind with
 | _ k n s ks ih =>
  intro v l w hv h0 h1;obtain⟨A,c,rfl,hf,hlk,hlc,hrow⟩:=hv.open_;have IH:=zh ih;have ae:=zh hrow;have hw1:IntKind.i64.wrap (l-1)=l-1:=yF _ zO;have hb1:=zkb (zs w) (.cells #[zj k,zi n,.string s,.slice A ks.length c] 28);have k1:=yA w (.cells #[zj k,zi n,.string s,.slice A ks.length c] 28);obtain⟨w1,hw⟩:=zX (w.alloc (.cells #[zj k,zi n,.string s,.slice A ks.length c] 28));obtain⟨r,hr⟩:=zX (szR (.nd k n s ks) l);have HR:=zh (show szRs (ks.drop 0) (l-1)=r by rw[<-hr,szR,List.drop_zero]);rw[hr];rw[hw]at hb1 k1;have HB1:=zh hb1;have az:=zh k1;simp only[zND]at hlk hlc ⊢;have hlk2:ks.length<=17592186044416:=by unfold LK at hlk;omega
  clear hv hf hlk hrow ih hr hb1 k1;go_enter func48,ntmps48;go_wp2_with fail;clear hw
  go_loopw [5,1] (fun i q wr=>∃(j:Nat) (x:Int),j<=ks.length/\i=zi j/\q=zi x /\ -1<=x/\x<=1000/\Hid (zw w1 wr)/\Hid (szRs (ks.drop j) x=r)) (fun i _ _=>ks.length-(intOf i).toNat)
  case atStart=>exact⟨0,l-1,yK _,rfl,rfl,zO,zO,zh zr,HR⟩
  case round =>
   obtain⟨j,x,hj,rfl,rfl,hx1,hx2,ag,HJ⟩:=hrel;have hk:=zkc az.out ag.out;have z3:wr.cell? ⟨w.heap.size,3,none⟩=some (.slice A ks.length c):=zc hk rfl;by_cases hlt:j<ks.length
   ·have hj1:(j:Int)<(ks.length:Int):=zO
    have hj0:(0:Int)<=(j:Int):=zO
    by_cases hx:0<=x
    ·have hbb:=zka HB1.out ag.out;obtain⟨a,u,Au,cu,rfl,-,Hu,⟨p0,p1,p2,p3⟩,hn⟩:=ae.out.nd hlt;have q0:=zb hbb p0;have q1:=zb hbb p1;have q2:=zb hbb p2;have q3:=zb hbb p3;have HS:=zh (IH.out u (by rw[<-Hu.out];exact yE hlt) _ x wr (hn.later hbb) hx hx2);have HJ2:=zh (show szRs (ks.drop (j+1)) (szR u x)=r by
      have h5:=HJ.out;rw[yP1 hlt]at h5;rw[szRs,if_neg zO]at h5;rw[<-h5];have:=Hu.out;simp only[T.ks_nd]at this;rw[this])
     have HL:=zh (zs8 _ u x zl hx);clear p0 p1 p2 p3 hn hbb HJ hk;go_wp2_with fail;refine HS.out.mono ?_;rintro e w2 ⟨rfl,hb2⟩;have HB2:=zh (zka ag.out hb2);obtain⟨y,hy⟩:=zX (szR u x);rw[hy]at HJ2 HL ⊢;clear hb2 HS q0 q1 q2 q3 z3 hy;go_wp2_with fail
     go_roundw
     case rel=>exact⟨j+1,y,zO,by go_num,rfl,HL.out.1,by have:=HL.out.2;omega,HB2,HJ2⟩
     case measure=>simp[intOf];omega
    ·have hx':¬ (0:Int)<=x:=hx;have HJ2:=zh (show x=r by
      have h5:=HJ.out;rw[yP1 hlt,szRs,if_pos zO]at h5;exact h5)
     clear HJ hk;go_wp2_with fail;go_ret;exact⟨by rw[HJ2.out];rfl,zka HB1.out ag.out⟩
   ·have hj1:¬ (j:Int)<(ks.length:Int):=zO
    have HJ2:=zh (show x=r by
     have h5:=HJ.out;rw[List.drop_eq_nil_of_le zO,szRs]at h5;exact h5)
    clear HJ hk;go_wp2_with fail;go_ret;exact⟨by rw[HJ2.out];rfl,zka HB1.out ag.out⟩
def SmlP(p:PG)(W:World)(e:Ending)(w':World):Prop:=∃b:Bool,e=.returned (.bool b)/\(b=true->p.vs.length<=6/\p.m.ks.length<=100)/\zw W w'
theorem zoX(p:PG)(v:Value)(W:World)(hp:PV W Any p v):Calls prog 22 #[v] W (SmlP p W):=by
 obtain⟨A1,c1,A2,c2,A3,c3,rfl,fZ⟩:=hp;have xC:=zh fZ;have hb2:=zkb (zs W) (.cells #[.slice A1 p.vs.length c1,.slice A2 p.prs.length c2,zj p.m.k,zi p.m.n,.string p.m.s,.slice A3 p.m.ks.length c3] 30);have k0:=yA W (.cells #[.slice A1 p.vs.length c1,.slice A2 p.prs.length c2,zj p.m.k,zi p.m.n,.string p.m.s,.slice A3 p.m.ks.length c3] 30);obtain⟨w2,hw2⟩:=zX (W.alloc (.cells #[.slice A1 p.vs.length c1,.slice A2 p.prs.length c2,zj p.m.k,zi p.m.n,.string p.m.s,.slice A3 p.m.ks.length c3] 30));rw[hw2]at hb2 k0;have HB2:=zh hb2;have aG:=zh k0;obtain⟨p0,p1,p2,p3,p4,p5⟩:=box6 k0;have hlp:=zlg fZ.lp;have nz:=zh (zpR p.m _ 100 w2 (fZ.main.later hb2) zO zO);obtain⟨x,hx⟩:=zX (szR p.m 100);rw[hx]at nz;have HX:=zh (show 0<=x->p.m.ks.length<=100 from fun h=>zzX (hx▸h));have hpgl:=fZ.lv;clear fZ hb2 k0 hx
 go_enter func22,ntmps22;by_cases h1:(4:Int)<(p.prs.length:Int)
 ·go_wp2_with fail;go_ret;exact⟨_,rfl,nofun,HB2.out⟩
 have hlv:=zlg hpgl;by_cases h1v:(6:Int)<(p.vs.length:Int)
 ·go_wp2_with fail;go_ret;exact⟨_,rfl,nofun,HB2.out⟩
 go_wp2_with fail;refine nz.out.mono ?_;rintro e3 w3 ⟨rfl,hb3⟩;have HB3:=zh (zka HB2.out hb3);have kp:=zkc aG.out hb3;obtain⟨-,q1,-⟩:=box6 kp;clear hb3 nz kp p0 p1 p2 p3 p4 p5 hw2;by_cases h3:x<0
 ·go_wp2_with fail;go_ret;exact⟨_,rfl,nofun,HB3.out⟩
 go_wp2_with fail
 go_loopw [24,4] (fun i _ wr=>∃j:Nat,j<=p.prs.length/\i=zi j/\Hid (zw w3 wr)) (fun i _ _=>p.prs.length-(intOf i).toNat)
 case atStart=>exact⟨0,yK _,rfl,zh zr⟩
 case round =>
  obtain⟨j,hj,rfl,ag⟩:=hrel;by_cases hlt:j<p.prs.length
  ·have hj1:(j:Int)<(p.prs.length:Int):=zO
   have hj0:(0:Int)<=(j:Int):=zO
   have hbb:=zka HB3.out ag.out;obtain⟨pa,q,B1,d1,B2,d2,rfl,-,Hq,⟨y0,y1,y2,y3,y4,y5⟩,hpr⟩:=(xC.out.procs.later hbb).nd hlt;have hbz:=zkb ag.out (.cells #[.string q.s,.slice B1 q.ps.length d1,zj q.b.k,zi q.b.n,.string q.b.s,.slice B2 q.b.ks.length d2] 100);have hbw:=zkb (zs wr) (.cells #[.string q.s,.slice B1 q.ps.length d1,zj q.b.k,zi q.b.n,.string q.b.s,.slice B2 q.b.ks.length d2] 100);have nz:=zh (zpR q.b _ 100 _ (hpr.body.later hbw) zO zO);obtain⟨z,hz⟩:=zX (szR q.b 100);rw[hz]at nz;have yZ:=zh hbz;clear hbb hpr hbz hbw hz;go_wp2_with fail;refine nz.out.mono ?_;rintro e4 w4 ⟨rfl,hb4⟩;have ax:=zh (zka yZ.out hb4);clear hb4 nz y0 y1 y2 y3 y4 y5;by_cases hz:z<0
   ·go_wp2_with fail;go_ret;exact⟨_,rfl,nofun,zka HB3.out ax.out⟩
   ·go_wp2_with fail
    go_roundw
    case rel=>exact⟨j+1,zO,by go_num,ax⟩
    case measure=>simp[intOf];omega
  ·have hj1:¬ (j:Int)<(p.prs.length:Int):=zO
   go_wp2_with fail;go_ret;exact⟨_,rfl,fun _=>⟨zO,HX.out zO⟩,zka HB3.out ag.out⟩
def GrtP(e:EX)(q:PG)(W:World)(en:Ending)(w':World):Prop:=∃g:Bool,en=.returned (.bool g)/\(g=false->e.gv.vs.length<=6/\e.fu<=300/\(e.bx.ok&&svB e.gv.vs)=true/\cntF e.gv.vs e.bx<=60/\q.m.ks.length<=100/\q.vs.length<=6)/\zw W w'
theorem zsG{W:World}{e:EX}{q:PG}{ev qv:Value}(he:EV W Any e ev)(hq:PV W Any q qv):Calls prog 9 #[ev,qv] W (GrtP e q W):=by
 obtain⟨A1,c1,A2,c2,A3,c3,rfl,hg,hI⟩:=he;have HSE:=zh (fun w' (h:zw W w')=>zoX e.gv _ w' (hg.later h).pv);have HSQ:=zh (fun w' (h:zw W w')=>zoX q _ w' (hq.later h));have dZ:=zh (fun w' (h:zw W w')=>zuH e.gv.vs e.bx A1 c1 w' (hg.vars.later h) hg.lv);have oL:=zh (fun w' (h:zw W w') (hok:(e.bx.ok&&svB e.gv.vs)=true)=>zuI e.gv.vs e.bx A1 c1 w' (hg.vars.later h) hok);obtain⟨D1,e1,D2,e2,D3,e3,rfl,-⟩:=hq;obtain⟨ok,hok⟩:=zX ((e.bx.ok&&svB e.gv.vs));obtain⟨CN,kS⟩:=zX (cntF e.gv.vs e.bx);have nP:=zh (show ∀(g:Bool) w',zw W w'->(g=false->e.gv.vs.length<=6/\e.fu<=300/\ok=true/\CN<=60/\q.m.ks.length<=100/\q.vs.length<=6)->GrtP e q W (.returned (.bool g)) w' from fun g w' h1 h2=>⟨g,rfl,by rw[hok,kS];exact h2,h1⟩);rw[hok]at dZ;simp only[hok,kS]at oL
 have hb2:=zkb (zkb (zkb (zs W) (.cells (exA e A1 c1 A2 c2 A3 c3) 32)) (.cells (pgA q D1 e1 D2 e2 D3 e3) 30)) (.cells #[zi e.bx.v,zi e.bx.l,zi e.bx.i] 23);have k0:=zkd (zkd (yA W (.cells (exA e A1 c1 A2 c2 A3 c3) 32)) (.cells (pgA q D1 e1 D2 e2 D3 e3) 30)) (.cells #[zi e.bx.v,zi e.bx.l,zi e.bx.i] 23);have k1:=zkd (yA (W.alloc (.cells (exA e A1 c1 A2 c2 A3 c3) 32)) (.cells (pgA q D1 e1 D2 e2 D3 e3) 30)) (.cells #[zi e.bx.v,zi e.bx.l,zi e.bx.i] 23);have k2:=yA ((W.alloc (.cells (exA e A1 c1 A2 c2 A3 c3) 32)).alloc (.cells (pgA q D1 e1 D2 e2 D3 e3) 30)) (.cells #[zi e.bx.v,zi e.bx.l,zi e.bx.i] 23);have kx:=yA W (.cells (exA e A1 c1 A2 c2 A3 c3) 32)
 obtain⟨x0,x1,x2,x3,x4,x5,x6,x7,x8,x9,aL,aK⟩:=zmr (zkd kx (.cells (pgA q D1 e1 D2 e2 D3 e3) 30));clear kx hg;go_enter func9,ntmps9;go_upto_region 2 with fail;obtain⟨w2,hw2⟩:=zX (((W.alloc (.cells (exA e A1 c1 A2 c2 A3 c3) 32)).alloc (.cells (pgA q D1 e1 D2 e2 D3 e3) 30)).alloc (.cells #[zi e.bx.v,zi e.bx.l,zi e.bx.i] 23));rw[hw2]at hb2 k0 k1 k2
 try rw[hw2]
 simp only[yS,Nat.add_assoc,Nat.reduceAdd]at k1 k2;obtain⟨N,hN⟩:=zX (W.heap.size);rw[hN]at k0 k1 k2
 try rw[hN]
 try simp only[Nat.add_assoc,Nat.reduceAdd]
 clear x0 x1 x2 x3 x4 x5 x6 x7 x8 x9 aL aK hw2 hN hok kS;have HB:=zh hb2;have eX:=zh (fun w' (h:zw w2 w')=>zmr (zkc k0 h));have oD:=zh (fun w' (h:zw w2 w')=>box6 (zkc k1 h));have av:=zh (fun w' (h:zw w2 w')=>zmb (zkc k2 h));have df:=zh (zs w2);clear hb2 k0 k1 k2;obtain⟨x0,x1,x2,x3,x4,x5,x6,x7,x8,x9,aL,aK⟩:=eX.out _ df.out;obtain⟨q0,q1,q2,q3,q4,q5⟩:=oD.out _ df.out;obtain⟨y0,y1,y2⟩:=av.out _ df.out;go_wp2_with fail;refine(HSE.out _ HB.out).mono ?_;rintro en w3 ⟨sb,rfl,hsb,hb3⟩;have bP:=zh hsb;have bB:=zh (zka df.out hb3);clear hsb hb3;clear x0 x1 x2 x3 x4 x5 x6 x7 x8 x9 aL aK q0 q1 q2 q3 q4 q5 y0 y1 y2;obtain⟨x0,x1,x2,x3,x4,x5,x6,x7,x8,x9,aL,aK⟩:=eX.out _ bB.out;obtain⟨q0,q1,q2,q3,q4,q5⟩:=oD.out _ bB.out;obtain⟨y0,y1,y2⟩:=av.out _ bB.out
 cases sb
 ·go_wp2_with fail;go_ret;exact nP.out true _ (zka HB.out bB.out) nofun
 go_wp2_with fail;refine(HSQ.out _ (zka HB.out bB.out)).mono ?_;rintro en w4 ⟨sb,rfl,hsb,hb4⟩;have HS2:=zh hsb;have dB:=zh (zka bB.out hb4);clear hsb hb4;clear x0 x1 x2 x3 x4 x5 x6 x7 x8 x9 aL aK q0 q1 q2 q3 q4 q5 y0 y1 y2;obtain⟨x0,x1,x2,x3,x4,x5,x6,x7,x8,x9,aL,aK⟩:=eX.out _ dB.out;obtain⟨q0,q1,q2,q3,q4,q5⟩:=oD.out _ dB.out;obtain⟨y0,y1,y2⟩:=av.out _ dB.out
 cases sb
 ·go_wp2_with fail;go_ret;exact nP.out true _ (zka HB.out dB.out) nofun
 by_cases h300:(300:Int)<e.fu
 ·go_wp2_with fail;go_ret;exact nP.out true _ (zka HB.out dB.out) nofun
 go_wp2_with fail;refine(dZ.out _ (zka HB.out dB.out)).mono ?_;rintro en w5 ⟨rfl,hb5⟩;have eD:=zh (zka dB.out hb5);clear hb5;clear x0 x1 x2 x3 x4 x5 x6 x7 x8 x9 aL aK q0 q1 q2 q3 q4 q5 y0 y1 y2;obtain⟨x0,x1,x2,x3,x4,x5,x6,x7,x8,x9,aL,aK⟩:=eX.out _ eD.out;obtain⟨q0,q1,q2,q3,q4,q5⟩:=oD.out _ eD.out;obtain⟨y0,y1,y2⟩:=av.out _ eD.out
 cases ok
 ·go_wp2_with fail;go_ret;exact nP.out true _ (zka HB.out eD.out) nofun
 go_wp2_with fail;refine(oL.out _ (zka HB.out eD.out) trivial).mono ?_;rintro en w6 ⟨rfl,rfl⟩;go_wp2_with fail;go_ret;refine nP.out _ _ (zka HB.out eD.out) fun h=>⟨(bP.out trivial).1,zO,trivial,?_,(HS2.out trivial).2,(HS2.out trivial).1⟩
 have:e.fu<=300/\CN<=60:=by simpa using h
 exact this.2
end
section
open Go Go.RowKit
theorem zqS{v:Int}(hv:0<=v)(a m:Nat):(betE v a m).length=nLst (2*v+1).toNat (a,m):=by
 have h1:=zoN hv a m;have h2:∀l:List Nat,(((l.map fun i=>(2*v+1).toNat ^ (a+i)).sum:Nat):Int)=(l.map fun i=>(2*v+1) ^ (a+i)).sum:=by
  intro l
  induction l with
  | nil=>rfl
  | cons i l ih =>
   rw[List.map_cons,List.sum_cons,List.map_cons,List.sum_cons,<-ih]
   push_cast
   rw[Int.toNat_of_nonneg zO]
 unfold nLst;have h3:=h2 (List.range (m+1-a));simp only;omega
theorem zKk{b:BX}{v:VD}(hb:b.ok=true)(hv:vdB v=true):(lstE b v).length=nLst (2*b.v+1).toNat (len1 b v):=by
 have hk:=zmH hb;unfold lstE len1;rcases zzQ hv with⟨h1,h2⟩|⟨h1,h2,h3⟩|⟨h1,h2⟩
 ·rw[if_pos h1,if_neg zO,zqS hk.1.1];unfold fixE;rw[if_pos h1];rfl
 ·rw[if_neg zO,if_pos h1,if_neg zO,zqS hk.1.1];unfold fixE;rw[if_neg zO]
 ·rw[if_neg zO,if_neg zO,if_pos h1,zqS hk.1.1]
theorem ztc{b:BX}(hb:b.ok=true):∀(vs:List VD) (st:List SS),(∀v∈vs,vdB v=true)->(vs.foldl (fun st v=>stg st (lstE b v)) st).length=st.length*nAll (2*b.v+1).toNat (vs.map (len1 b))
 | [],st,_=>by simp[nAll]
 | v::vs,st,h=>by
  rw[List.foldl_cons,ztc hb vs _ fun u hu=>h u (by simp[hu]),zvc,zKk hb (h v zS),List.map_cons,nAll,Nat.mul_assoc]
theorem zts(h:Nat):∀(a b:List Bn),nAll h (a++b)=nAll h a*nAll h b
 | [],b=>by simp[nAll]
 | x::a,b=>by rw[List.cons_append,nAll,nAll,zts h a b,Nat.mul_assoc]
theorem zuv{α β:Type}(l:List α)(f:α->List β)(n:Nat)(h:∀x,(f x).length=n):(l.flatMap f).length=l.length*n:=by
 induction l with
 | nil=>simp
 | cons x l ih=>rw[List.flatMap_cons,yU,ih,h,yV,Nat.add_mul];omega
theorem zzG{vs:List VD}{b:BX}(hok:(b.ok&&svB vs)=true)(h60:cntF vs b<=60):(allS b (lenE vs b)).length<=60:=by
 have h:=hok;simp only[Bool.and_eq_true]at h;have hk:=zmH h.1;have hr:=(zz7 h.1 h60).all.2;have h1:(allU vs b).length=nAll (2*b.v+1).toNat (lenE vs b):=by
  unfold allU stgF lenE;rw[zuv _ _ (betE b.v 0 b.i.toNat).length fun s=>zS,ztc h.1 vs _ fun v hv=>(zxH h.2).2 v hv,zts,zqS hk.1.1];simp[nAll]
 have h2:=zK4 (h:=(2*b.v+1).toNat) zO (bs:=lenE vs b) fun q hq=>((zmm hok).2.2.1 q hq).1;rw[Int.toNat_of_nonneg zO]at h2;unfold allS;rw[List.length_map];omega
section
variable {p:PG} {a b:List T}
end
theorem zwT{vs:List VD}{b:BX}(h:(b.ok&&svB vs)=true):∀x∈allS b (lenE vs b),fitB vs x=true/\x.I:=by
 intro x hx;obtain⟨y,hy,rfl⟩:=List.mem_map.1 hx;have h1:=zqU rfl y hy;have h2:=zmm h;have h3:=h1.len;have hl:y.length=vs.length+1:=by rw[h3,h2.1]
 have hv:∀i (hi:i<y.length),∀e∈y[i],I64 e:=fun i hi e he=>by
  have h5:=(h1.get i zO hi).2.2 e he;have h6:=h2.2.2.2;exact⟨zO,zO⟩
 have hv':∀l∈y,∀e∈l,I64 e:=fun l hl=>by obtain⟨i,hi,rfl⟩:=List.mem_iff_getElem.1 hl;exact hv i hi
 have hlast:(stOf y).tin=y[vs.length]'zO:=by
  show y.getLastD []=_
  rw[zos (n:=y.length) rfl zO];simp only[hl,Nat.add_sub_cancel]
 have hcl:(stOf y).cells.length=vs.length:=by simp[stOf,hl]
 have hcg:∀i (hi:i<vs.length),(stOf y).cells[i]'zO=y[i]'zO:=fun i hi=>by simp[stOf]
 have hbn:∀i (hi:i<vs.length),(len1 b vs[i]).1<=(y[i]'zO).length/\(y[i]'zO).length<=(len1 b vs[i]).2:=fun i hi=>by
  have h5:=h1.get i (by rw[h2.1];omega) zO;simp only[lenE]at h5;rw[yC1 (by simpa using hi),List.getElem_map]at h5;exact⟨h5.1,h5.2.1⟩
 have hsv:svB vs=true:=by simp only[Bool.and_eq_true]at h;exact h.2
 have hok:b.ok=true:=by simp only[Bool.and_eq_true]at h;exact h.1
 refine⟨?_,fun l hl=>hv' l ((List.dropLast_sublist y).subset hl),by rw[hlast];exact hv _ _,fun e he=>by cases he⟩;unfold fitB;simp only[Bool.and_eq_true,yK1];refine⟨⟨⟨⟨hsv,hcl⟩,?_⟩,yK _⟩,zqN _ _ fun i hi hi'=>?_⟩
 ·rw[hlast];have h5:=(h1.get vs.length (by rw[h2.1];omega) zO).2.1;have h6:=(h2.2.2.1 _ (yE (show vs.length<(lenE vs b).length by rw[h2.1];omega))).2.2;omega
 ·rw[hcg i hi];have hb:=hbn i hi;have hd:vdB vs[i]=true:=by
   unfold svB at hsv;simp only[Bool.and_eq_true,List.all_eq_true]at hsv;exact hsv.2 _ (yE _)
  have h6:=h2.2.2.1 (len1 b vs[i]) (by unfold lenE;exact List.mem_append_left _ (List.mem_map.2 ⟨vs[i],yE _,rfl⟩));unfold len1 at hb h6;unfold fit1;unfold vdB at hd;by_cases hk:vs[i].k=3
  ·rw[if_pos hk]at hb h6 ⊢;simp only at hb h6;exact yL1 zO
  ·rw[if_neg hk]at hb h6 ⊢;simp only at hb h6;refine yL1 ?_;have hp:0<=fixE vs[i]:=by
    unfold fixE
    split
    ·omega
    ·rename_i h7;rw[if_neg (by rintro(e|e);exact h7 e;exact hk e)]at hd
     split at hd
     ·have:=of_decide_eq_true hd;omega
     ·cases hd
   omega
theorem ztu{k n:Int}{s:ByteArray}{ks:List T}{nm:ByteArray}(h:menB (.nd k n s ks) nm=false):(2<=k/\k<=5->(s.toList==nm.toList)=false)/\∀t∈ks,menB t nm=false:=by
 simp only[menB,po,List.any_cons,Bool.or_eq_false_iff]at h;refine⟨fun hk=>?_,fun t ht=>?_⟩
 ·have h1:=h.1;simp only[zmw,T.k_nd,T.s_nd,Bool.and_eq_false_iff]at h1;rcases h1 with h1|h1
  ·simp only[Bool.or_eq_false_iff,beq_eq_false_iff_ne]at h1;omega
  ·exact h1
 ·have h2:=h.2;rw[List.any_eq_false]at h2;rw[menB,List.any_eq_false];exact fun u hu=>h2 u (zlH.2 ⟨t,ht,hu⟩)
theorem ztL{look look':ByteArray->Option (List Int)}{nms:List ByteArray}(h:∀s:ByteArray,(∀nm∈nms,(s.toList==nm.toList)=false)->look' s=look s):∀t,(∀nm∈nms,menB t nm=false)->evE look' t=evE look t:=by
 intro t
 induction t using T.ind with
 | _ k n s ks ih =>
  intro hm;rw[evE,evE,znk,znk];have e:ks.map (evE look')=ks.map (evE look):=yX1 fun t ht=>ih t ht fun nm hn=>(ztu (hm nm hn)).2 t ht;rw[e];unfold evK
  split
  ·rfl
  ·split
   ·rename_i hk;unfold varE;rw[h s fun nm hn=>(ztu (hm nm hn)).1 hk]
   ·rfl
theorem zoi{look look':ByteArray->Option (List Int)}{nms:List ByteArray}(h:∀s:ByteArray,(∀nm∈nms,(s.toList==nm.toList)=false)->look' s=look s)(t:T)(hm:∀nm∈nms,menB t nm=false):zkI look' t=zkI look t:=by
 unfold zkI;rw[ztL h t hm]
theorem zrB{look look':ByteArray->Option (List Int)}{nms:List ByteArray}(h:∀s:ByteArray,(∀nm∈nms,(s.toList==nm.toList)=false)->look' s=look s)(t:T)(hm:∀nm∈nms,idxB t nm=false):indE look' t=indE look t:=by
 unfold indE
 split
 ·rename_i hp
  split
  ·rfl
  ·rename_i h2;have h3:t.k=3:=by
    simp only[isP,Bool.and_eq_true,Bool.or_eq_true,beq_iff_eq]at hp;omega
   refine ztL h _ fun nm hn=>?_;have:=hm nm hn;simpa[idxB,h3,kidC]using this
 ·rfl
theorem zxt{x:Int}(hx:I64 x)(y:Int):bits BinOp.xor IntKind.i64 (bits BinOp.xor IntKind.i64 x y) y=x:=by
 show IntKind.i64.wrap (((BitVec.ofInt 64 (IntKind.i64.wrap ((BitVec.ofInt 64 x ^^^ BitVec.ofInt 64 y).toNat:Int)) ^^^ BitVec.ofInt 64 y).toNat:Nat):Int)=x
 have e:BitVec.ofInt 64 (IntKind.i64.wrap ((BitVec.ofInt 64 x ^^^ BitVec.ofInt 64 y).toNat:Int))=BitVec.ofInt 64 x ^^^ BitVec.ofInt 64 y:=by
  generalize BitVec.ofInt 64 x ^^^ BitVec.ofInt 64 y=c;apply BitVec.eq_of_toNat_eq;rw[BitVec.toNat_ofInt,IntKind.wrap_i64];have:=c.isLt;omega
 rw[e,BitVec.xor_assoc,BitVec.xor_self,BitVec.xor_zero,BitVec.toNat_ofInt,IntKind.wrap_i64];obtain⟨h1,h2⟩:=hx;omega
theorem zu2{k x:Int}(hk:k=40\/k=41\/k=42)(hx:I64 x)(y:Int):updE (zkL k) (updE k x y) y=x:=by
 obtain⟨h1,h2⟩:=hx;rcases hk with rfl|rfl|rfl
 ·show wrap64 (wrap64 (x+y)-y)=x
  unfold wrap64;omega
 ·show wrap64 (wrap64 (x-y)+y)=x
  unfold wrap64;omega
 ·exact zxt ⟨h1,h2⟩ y
section
variable {S:ST}
theorem zz2{S:ST}{f:Nat->List Int}(h:f=S.cell):({ S with cell:=f }:ST)=S:=by subst h;rfl
theorem zoY(S:ST)(id:Nat):S.setL id (S.cell id)=S:=zz2 (by funext j;split<;>simp_all)
theorem zmS(S:ST)(id:Nat)(l m:List Int):(S.setL id l).setL id m=S.setL id m:=by
 unfold ST.setL;congr 1;funext j;simp only
 split<;>rfl
theorem zoZ(S:ST){a b:Nat}(h:a≠b)(l m:List Int):(S.setL a l).setL b m=(S.setL b m).setL a l:=by
 unfold ST.setL;congr 1;funext j;simp only;by_cases e:j=b
 ·subst e;rw[if_pos rfl,if_neg (Ne.symm h),if_pos rfl]
 ·rw[if_neg e,if_neg e]
theorem zns(S:ST)(id:Nat)(l:List Int):(S.setL id l).cell id=l:=by simp[ST.setL]
theorem zlO(S:ST){id j:Nat}(h:j≠id)(l:List Int):(S.setL id l).cell j=S.cell j:=by simp[ST.setL,h]
theorem zmE(S:ST)(id i:Nat)(x y:Int):(S.put id i x).put id i y=S.put id i y:=by
 unfold ST.put;rw[zns,zmS,List.set_set]
theorem zxM(l:List Int)(i:Nat):l.set i (l.getD i 0)=l:=by
 rcases Nat.lt_or_ge i l.length with h|h
 ·rw[yI,yC h,Option.getD_some,List.set_getElem_self]
 ·rw[List.set_eq_of_length_le h]
theorem zmu(S:ST)(id i:Nat):S.put id i (S.el id i)=S:=by
 unfold ST.put ST.el;rw[zxM,zoY]
theorem zmF(S:ST)(id i:Nat)(x:Int)(j:Nat):((S.put id i x).cell j).length=(S.cell j).length:=by
 by_cases e:j=id
 ·subst e;unfold ST.put;rw[zns,List.length_set]
 ·unfold ST.put;rw[zlO _ e]
theorem znM(S:ST){id i:Nat}(h:i<(S.cell id).length)(x:Int):(S.put id i x).el id i=x:=by
 unfold ST.el ST.put;rw[zns,yI,List.getElem?_set_self h,Option.getD_some]
theorem zmo(S:ST){id j:Nat}(h:j≠id)(i:Nat)(x:Int):(S.put id i x).cell j=S.cell j:=zlO S h _
theorem put_comm(S:ST){id jd i j:Nat}(h:id≠jd\/i≠j)(x y:Int):(S.put id i x).put jd j y=(S.put jd j y).put id i x:=by
 by_cases e:id=jd
 ·subst e;have hij:=h.resolve_left (fun h=>h rfl);unfold ST.put;rw[zns,zns,zmS,zmS,List.set_comm _ _ hij]
 ·have e1:(S.put id i x).cell jd=S.cell jd:=zmo S (Ne.symm e) i x;have e2:(S.put jd j y).cell id=S.cell id:=zmo S e j y
  show(S.put id i x).setL jd (((S.put id i x).cell jd).set j y)=(S.put jd j y).setL id (((S.put jd j y).cell id).set i x)
  rw[e1,e2];exact zoZ S e _ _
theorem zu8(S:ST){id i jd j:Nat}(hi:i<(S.cell id).length)(hj:j<(S.cell jd).length):znr (znr S id i jd j) id i jd j=S:=by
 unfold znr;by_cases e:id=jd/\i=j
 ·obtain⟨rfl,rfl⟩:=e;rw[zmu,zmu,zmu,zmu]
 ·have hne:id≠jd\/i≠j:=by
   rcases Decidable.em (id=jd)with h|h
   ·exact .inr fun h'=>e ⟨h,h'⟩
   ·exact .inl h
  obtain⟨x,hx⟩:=zX (S.el id i);obtain⟨y,hy⟩:=zX (S.el jd j);rw[hx,hy];have e1:((S.put id i y).put jd j x).el jd j=x:=znM _ (by rw[zmF];exact hj) x;have e2:((S.put id i y).put jd j x).el id i=y:=by
   rw[put_comm S hne];exact znM _ (by rw[zmF];exact hi) y
  rw[e1,e2,put_comm S hne,zmE,<-put_comm S hne,zmE,<-hx,zmu,<-hy,zmu]
theorem znd{vs:List VD}{s:ByteArray}:∀ {j i:Nat},zlt vs s j=some i->∃v,vs[i]?=some v/\(v.s.toList==s.toList)=true
 | 0,_,h=>by simp[zlt]at h
 | j+1,i,h=>by
  rw[zlt]at h
  split at h
  ·rename_i hb;injection h with h;subst h
   cases hv:vs[j]? with
   | none=>rw[hv]at hb;simp at hb
   | some v=>rw[hv]at hb;exact⟨v,rfl,hb⟩
  ·exact znd h
theorem zKg(hnd:S.cur.cs.Nodup){s s':ByteArray}{id:Nat}(h:S.num s=some id)(h':S.num s'=some id):(s.toList==s'.toList)=true:=by
 unfold ST.num at h h';obtain⟨i,h1,h2⟩:=yI1.1 h;obtain⟨j,h3,h4⟩:=yI1.1 h';obtain⟨a1,a2⟩:=yQ.1 h2;obtain⟨b1,b2⟩:=yQ.1 h4;have hij:i=j:=(List.getElem_inj hnd).1 (a2.trans b2.symm);subst hij;obtain⟨v,c1,c2⟩:=znd h1;obtain⟨v',d1,d2⟩:=znd h3;rw[c1]at d1;injection d1 with d1;subst d1;rw[beq_iff_eq]at c2 d2 ⊢;rw[<-c2,<-d2]
theorem zul{S1:ST}(hnd:S.cur.cs.Nodup)(hf:S1.base=S.base/\S1.calls=S.calls)(nms:List ByteArray)(hc:∀id,(∀nm∈nms,S.num nm≠some id)->S1.cell id=S.cell id)(s:ByteArray)(hs:∀nm∈nms,(s.toList==nm.toList)=false):S1.look s=S.look s:=by
 have e:S1.num s=S.num s:=by unfold ST.num ST.cur;rw[hf.1,hf.2]
 unfold ST.look;rw[e]
 cases hn:S.num s with
 | none=>rfl
 | some id =>
  simp only[Option.map_some,Option.some.injEq];refine hc id fun nm hm h2=>?_;have:=zKg hnd hn h2;rw[hs nm hm]at this
  cases this
theorem zKo{k n:Int}{s:ByteArray}{ks:List T}(h:isS (.nd k n s ks)=true)(hb:basB k=true):isS (.nd (zkL k) n s ks)=true:=by
 have hr:=of_decide_eq_true hb;have:k=40\/k=41\/k=42\/k=43\/k=44\/k=45\/k=46\/k=47\/k=48\/k=49:=zO
 rcases this with rfl|rfl|rfl|rfl|rfl|rfl|rfl|rfl|rfl|rfl<;>simpa[isS,zkL]using h
theorem zx8(k:Int):zox (zkL k)=zox k:=by
 unfold zkL
 repeat' split
 all_goals first|rfl|(subst_vars;rfl)
theorem zKC(vs:List VD)(k n:Int)(s:ByteArray)(ks:List T):fltE vs (.nd (zkL k) n s ks)=fltE vs (.nd k n s ks):=by
 rw[fltE,fltE];unfold ownE;rw[zx8]
theorem zwQ{k:Int}(hb:basB k=true):basB (zkL k)=true/\zkL k≠56/\zkL (zkL k)=k:=by
 have hr:=of_decide_eq_true hb;have:k=40\/k=41\/k=42\/k=43\/k=44\/k=45\/k=46\/k=47\/k=48\/k=49:=zO
 rcases this with rfl|rfl|rfl|rfl|rfl|rfl|rfl|rfl|rfl|rfl<;>exact⟨rfl,zY,rfl⟩
theorem zww{k n:Int}{s:ByteArray}{ks:List T}(hs:isS (.nd k n s ks)=true)(hk:k≠56)(hb:basB k=true)(hf:fltE S.cur.vs (.nd k n s ks)=0):doE S (.nd k n s ks)=zll S k s (ks.getD 0 nil0) (ks.getD 1 nil0) (indE S.look (ks.getD 0 nil0)) (zk5 S k (ks.getD 1 nil0)):=by
 unfold doE;rw[if_neg (by rw[hs];decide),if_neg (by exact hk),if_neg (by show ¬ basB k=false;rw[hb];decide),if_neg (by rw[hf];decide)];rfl
theorem znZ{ks:List T}{nms:List ByteArray}(h:aliB ks nms=false){t:T}(ht:t∈ks):∀nm∈nms,idxB t nm=false:=by
 intro nm hn;unfold aliB at h;rw[List.any_eq_false]at h;have:=h t ht;rw[List.any_eq_true]at this;simp only[not_exists,not_and,Bool.not_eq_true]at this;exact this nm hn
theorem zuk{k:Int}(hk:k=44\/k=45){id i af:Nat}(hne:id≠af)(hi:i<(S.cell id).length)(hl:(S.cell af).length<=1000)(h0:(zlG S k id i af).1=0):zlG (zlG S k id i af).2 (zkL k) id i af=(0,S):=by
 rcases hk with rfl|rfl
 ·unfold zlG at h0 ⊢;rw[if_pos rfl]at h0 ⊢
  split at h0
  ·cases h0
  rename_i hf;rw[if_neg hf]
  show(if (zkL 44)=44 then _ else _)=_
  rw[if_neg zY];dsimp only;obtain⟨x,hx⟩:=zX (S.el id i);rw[hx];have e1:(((S.setL af (S.cell af++[x])).put id i 0).cell af)=S.cell af++[x]:=by rw[zmo _ (Ne.symm hne),zns]
  have e2:((S.setL af (S.cell af++[x])).put id i 0).el id i=0:=znM _ (by rw[zlO _ hne];exact hi) 0;have e3:((S.setL af (S.cell af++[x])).put id i 0).el af ((S.cell af++[x]).length-1)=x:=by unfold ST.el;rw[e1];simp
  rw[e1,e2,e3,if_neg zS,if_neg zS,zmE];have e4:(S.cell af++[x]).take ((S.cell af++[x]).length-1)=S.cell af:=zS
  rw[e4];have e5:(S.setL af (S.cell af++[x])).put id i x=(S.put id i x).setL af (S.cell af++[x]):=by
   unfold ST.put;rw[zlO _ hne,zoZ _ (Ne.symm hne)]
  have e6:(S.put id i x)=S:=by rw[<-hx];exact zmu S id i
  rw[e5,zmS,e6,zoY]
 ·unfold zlG at h0 ⊢;rw[if_neg (show ¬ ((45:Int)=44) by decide)]at h0 ⊢
  split at h0
  ·cases h0
  rename_i hf;rw[if_neg hf]
  split at h0
  ·cases h0
  rename_i hz;rw[if_neg hz];have hz:=yF1.1 hz
  show(if (zkL 45)=44 then _ else _)=_
  rw[if_pos zY];dsimp only;obtain⟨x,hx⟩:=zX (S.el af ((S.cell af).length-1));rw[hx];have hsd:(S.cell af).take ((S.cell af).length-1)++[x]=S.cell af:=by
   have hl:S.cell af≠[]:=fun e=>hf (by rw[e];rfl);have:x=(S.cell af).getLast hl:=by
    rw[<-hx];unfold ST.el;rw[yI,yC zO,Option.getD_some,List.getLast_eq_getElem]
   rw[this,<-List.dropLast_eq_take];exact List.dropLast_concat_getLast hl
  have e1:(((S.put id i x).setL af ((S.cell af).take ((S.cell af).length-1))).cell af)=(S.cell af).take ((S.cell af).length-1):=zns _ _ _;have e2:((S.put id i x).setL af ((S.cell af).take ((S.cell af).length-1))).el id i=x:=by
   unfold ST.el;rw[zlO _ hne];exact znM S hi x
  rw[e1,e2,if_neg (by rw[List.length_take];omega),zmS,hsd];have e5:((S.put id i x).setL af (S.cell af)).put id i 0=((S.put id i x).put id i 0).setL af (S.cell af):=by
   show _=((S.put id i x).setL id (((S.put id i x).cell id).set i 0)).setL af (S.cell af)
   rw[zoZ _ hne];unfold ST.put;rw[zlO _ hne]
  have e6:S.put id i 0=S:=by rw[<-hz];exact zmu S id i
  rw[e5,zmE,e6,zoY]
theorem zz8(S:ST)(l:List Int)(id i:Nat)(x:Int):({ S with tin:=l }:ST).put id i x={ S.put id i x with tin:=l }:=rfl
theorem zsh(h:S.WF){k:Int}(hk:k=46\/k=47\/k=48\/k=49){id i:Nat}(hi:i<(S.cell id).length)(h0:(zks S k id i).1=0):zks (zks S k id i).2 (zkL k) id i=(0,S):=by
 have ht:=h.tin.1;have ho:=h.tout.1;have key:∀(l m:List Int) (y:Int),({ S with tin:=l,tout:=m }:ST).put id i y={ S.put id i y with tin:=l,tout:=m }:=fun _ _ _=>rfl;rcases hk with rfl|rfl|rfl|rfl
 ·unfold zks at h0;rw[if_pos rfl]at h0;obtain⟨y,r,hl⟩:∃y r,S.tin=y::r:=by
   cases hl:S.tin with
   | nil=>rw[hl]at h0;cases h0
   | cons y r=>exact⟨y,r,rfl⟩
  rw[hl]at h0 ht;dsimp only at h0
  split at h0
  ·cases h0
  rename_i hz;have hz:=yF1.1 hz;have e:zks S 46 id i=(0,({ S with tin:=r }:ST).put id i y):=by
   unfold zks;rw[if_pos rfl,hl];dsimp only;rw[if_neg (by rw[hz];decide)]
  rw[e]
  show zks (({ S with tin:=r }:ST).put id i y) 47 id i=(0,S)
  unfold zks;rw[if_neg zY,if_neg zY,if_pos rfl];have e2:(({ S with tin:=r }:ST).put id i y).el id i=y:=znM (S:={ S with tin:=r }) hi y;rw[e2,if_neg (by show ¬ 4096<=r.length;simp at ht;omega)];congr 1;have e3:(({ S with tin:=y::r }:ST).put id i y).put id i 0=S:=by
   rw[zmE,zz8,<-hz,zmu,<-hl]
  exact e3
 ·unfold zks at h0;rw[if_neg zY,if_neg zY,if_pos rfl]at h0
  split at h0
  ·cases h0
  rename_i hz;obtain⟨x,hx⟩:=zX (S.el id i);have e:zks S 47 id i=(0,({ S with tin:=x::S.tin }:ST).put id i 0):=by
   unfold zks;rw[if_neg zY,if_neg zY,if_pos rfl,if_neg hz,hx]
  rw[e]
  show zks (({ S with tin:=x::S.tin }:ST).put id i 0) 46 id i=(0,S)
  unfold zks;rw[if_pos rfl];have e2:(({ S with tin:=x::S.tin }:ST).put id i 0).el id i=0:=znM (S:={ S with tin:=x::S.tin }) hi 0
  show(if (({ S with tin:=x::S.tin }:ST).put id i 0).el id i≠0 then _ else _)=_
  rw[e2,if_neg zS];congr 1;have e3:(S.put id i 0).put id i x=S:=by rw[zmE,<-hx,zmu]
  exact e3
 ·unfold zks at h0;rw[if_neg zY,if_neg zY,if_neg zY]at h0
  split at h0
  ·cases h0
  rename_i hz;obtain⟨x,hx⟩:=zX (S.el id i);have e:zks S 48 id i=(0,({ S with tout:=S.tout++[x] }:ST).put id i 0):=by
   unfold zks;rw[if_neg zY,if_neg zY,if_neg zY,if_neg hz,hx]
  rw[e]
  show zks (({ S with tout:=S.tout++[x] }:ST).put id i 0) 49 id i=(0,S)
  unfold zks;rw[if_neg zY,if_pos rfl];have e2:(({ S with tout:=S.tout++[x] }:ST).put id i 0).el id i=0:=znM (S:={ S with tout:=S.tout++[x] }) hi 0;have et:(({ S with tout:=S.tout++[x] }:ST).put id i 0).tout=S.tout++[x]:=rfl;rw[e2,et,if_neg zS,if_neg zS];congr 1;have e3:(S.put id i 0).put id i x=S:=by rw[zmE,<-hx,zmu]
  have e4:(S.tout++[x]).dropLast=S.tout:=zS
  have e5:(S.tout++[x]).getLast?.getD 0=x:=zS
  rw[e4,e5];exact e3
 ·unfold zks at h0;rw[if_neg zY,if_pos rfl]at h0
  split at h0
  ·cases h0
  rename_i hn
  split at h0
  ·cases h0
  rename_i hz;have hz:=yF1.1 hz;obtain⟨y,hy⟩:=zX (S.tout.getLast?.getD 0);have e:zks S 49 id i=(0,({ S with tout:=S.tout.dropLast }:ST).put id i y):=by
   unfold zks;rw[if_neg zY,if_pos rfl,if_neg hn,if_neg (by rw[hz];decide),hy]
  rw[e]
  show zks (({ S with tout:=S.tout.dropLast }:ST).put id i y) 48 id i=(0,S)
  unfold zks;rw[if_neg zY,if_neg zY,if_neg zY];have e2:(({ S with tout:=S.tout.dropLast }:ST).put id i y).el id i=y:=znM (S:={ S with tout:=S.tout.dropLast }) hi y;have et:(({ S with tout:=S.tout.dropLast }:ST).put id i y).tout=S.tout.dropLast:=rfl;have hpos:0<S.tout.length:=List.length_pos_iff.2 hn;rw[e2,et,if_neg (by simp;omega)];congr 1;have e4:S.tout.dropLast++[y]=S.tout:=by
   have:y=S.tout.getLast hn:=by rw[<-hy,List.getLast?_eq_some_getLast hn];rfl
   rw[this];exact List.dropLast_concat_getLast hn
  have e3:(S.put id i y).put id i 0=S:=by rw[zmE,<-hz,zmu]
  rw[e4];exact e3
theorem zwx(h:S.WF){k n:Int}{s:ByteArray}{ks:List T}(h0:(doE S (.nd k n s ks)).1=0) :
  ∃id kp,S.num (ks.getD 0 nil0).s=some id/\CurK S id kp/\kp≠3/\(indE S.look (ks.getD 0 nil0)).2=0/\(zk5 S k (ks.getD 1 nil0)).2=0/\0<=(indE S.look (ks.getD 0 nil0)).1/\(indE S.look (ks.getD 0 nil0)).1.toNat<(S.cell id).length /\
   doE S (.nd k n s ks)=zkF S k s (ks.getD 1 nil0).s (zk5 S k (ks.getD 1 nil0)).1 id (indE S.look (ks.getD 0 nil0)).1.toNat:=by
 obtain⟨hs,iI,hb,hf,-⟩:=zwy h0;simp only[T.k_nd]at iI hb;have hp:∃id kp,S.num (ks.getD 0 nil0).s=some id/\CurK S id kp/\kp≠3:=by
  obtain⟨-,fk⟩:=zpk hf;rcases zpe hs hb with⟨_,p,q,rfl,hp,_⟩|⟨_,p,q,rfl,hp,_⟩|⟨_,p,rfl,hp⟩
  ·exact zmW h hp (zl2 fk p zS)
  ·exact zmW h hp (zl2 fk p zS)
  ·exact zmW h hp (zl2 fk p zS)
 obtain⟨id,kp,h1,h2,h3⟩:=hp;rw[zww hs iI hb hf]at h0 ⊢;unfold zll at h0 ⊢
 split at h0
 ·rename_i e;exact absurd h0 e
 rename_i e1;rw[if_neg e1];unfold znA at h0 ⊢
 split at h0
 ·rename_i e;exact absurd h0 e
 rename_i e2;rw[if_neg e2];rw[h1]at h0 ⊢;dsimp only at h0 ⊢
 split at h0
 ·rename_i e3;rw[if_pos e3];exact⟨id,kp,rfl,h2,h3,yF1.1 e1,yF1.1 e2,e3.1,zO,rfl⟩
 ·cases h0
theorem zyK{k n:Int}{s:ByteArray}{ks:List T}(hs:isS (.nd k n s ks)=true)(iI:k≠56)(hb:basB k=true)(hf:fltE S.cur.vs (.nd k n s ks)=0){id i:Nat}{y:Int}(h1:S.num (ks.getD 0 nil0).s=some id)(h2:indE S.look (ks.getD 0 nil0)=((i:Int),0))(h3:zk5 S k (ks.getD 1 nil0)=(y,0))(h4:i<(S.cell id).length) :
  doE S (.nd k n s ks)=zkF S k s (ks.getD 1 nil0).s y id i:=by
 rw[zww hs iI hb hf];unfold zll;rw[h2,h3,if_neg zS];unfold znA;rw[if_neg zS,h1];dsimp only;rw[if_pos zO];simp
theorem ztQ(h:S.WF)(hnd:S.cur.cs.Nodup){t:T}(hr:rejE t=0)(h0:(doE S t).1=0):zlD (doE S t).2 t=(0,S):=by
 obtain⟨k,n,s,ks⟩:=t;obtain⟨hs,iI,hb,hf,-⟩:=zwy h0;simp only[T.k_nd]at iI hb;obtain⟨f1,f2,f3⟩:=zoj (S:=S) (.nd k n s ks);obtain⟨id,kp,a1,a2,a3,a4,a5,a6,a7,a8⟩:=zwx h h0;obtain⟨i,hi⟩:=zX ((indE S.look (ks.getD 0 nil0)).1.toNat);obtain⟨y,hy⟩:=zX ((zk5 S k (ks.getD 1 nil0)).1);rw[hi,hy]at a8;rw[hi]at a7;have b1:indE S.look (ks.getD 0 nil0)=((i:Int),0):=Prod.ext (by simp only;omega) a4;have b2:zk5 S k (ks.getD 1 nil0)=(y,0):=Prod.ext hy a5;have hid:=a2.lt h;rw[a8]at h0 f1 f2 f3 ⊢;obtain⟨c1,c2,c3⟩:=zwQ hb
 -- what the second one comes to,once the places are the same
 have key:∀nms:List ByteArray,(∀j,(∀nm∈nms,S.num nm≠some j)->(zkF S k s (ks.getD 1 nil0).s y id i).2.cell j=S.cell j)->(∀nm∈nms,idxB (ks.getD 0 nil0) nm=false) ->
   ((∀s',(∀nm∈nms,(s'.toList==nm.toList)=false)->(zkF S k s (ks.getD 1 nil0).s y id i).2.look s'=S.look s')->zk5 (zkF S k s (ks.getD 1 nil0).s y id i).2 (zkL k) (ks.getD 1 nil0)=(y,0)) ->
   i<((zkF S k s (ks.getD 1 nil0).s y id i).2.cell id).length ->
   zlD (zkF S k s (ks.getD 1 nil0).s y id i).2 (.nd k n s ks)=zkF (zkF S k s (ks.getD 1 nil0).s y id i).2 (zkL k) s (ks.getD 1 nil0).s y id i:=by
  intro nms hc hp hr2 hl;have hlk:=zul hnd ⟨f1,f2⟩ nms hc;have hnum:∀s',(zkF S k s (ks.getD 1 nil0).s y id i).2.num s'=S.num s':=fun s'=>by unfold ST.num ST.cur;rw[f1,f2]
  show doE _ (.nd (zkL k) n s ks)=_
  refine zyK (zKo hs hb) c2 c1 ?_ ((hnum _).trans a1) ((zrB hlk _ hp).trans b1) (hr2 hlk) hl;rw[zKC];have:(zkF S k s (ks.getD 1 nil0).s y id i).2.cur=S.cur:=by unfold ST.cur;rw[f1,f2]
  rw[this];exact hf
 rw[zqw,if_neg iI]at hr;rcases zpe hs hb with⟨hk,p,q,rfl,hp,hq⟩|⟨rfl,p,q,rfl,hp,hq⟩|⟨hk,p,rfl,hp⟩
 ·rw[if_pos hk]at hr
  split at hr
  ·cases hr
  rename_i iy;simp only[Bool.or_eq_true,not_or,Bool.not_eq_true]at iy;have e3:∀S':ST,∀k',(k'=40\/k'=41\/k'=42)->zkF S' k' s q.s y id i=(0,S'.put id i (updE k' (S'.el id i) y)):=fun S' k' hk'=>by unfold zkF;rw[if_pos hk']
  have hk':zkL k=40\/zkL k=41\/zkL k=42:=by rcases hk with rfl|rfl|rfl<;>decide
  have e4:zkF S k s q.s y id i=(0,S.put id i (updE k (S.el id i) y)):=e3 S k hk;have hkk:=key [p.s] (fun j hj=>by
   show(zkF S k s q.s y id i).2.cell j=_
   rw[e4];exact zmo S (fun e=>hj p.s zS (by rw[e];exact a1)) _ _) (fun nm hn=>by obtain rfl:=yE1.1 hn;exact iy.1) (fun hlk=>by
   show zk5 (zkF S k s q.s y id i).2 (zkL k) q=(y,0)
   rw[<-b2]
   show zk5 (zkF S k s q.s y id i).2 (zkL k) q=zk5 S k q
   unfold zk5;rw[if_neg zO,if_pos hk',if_neg zO,if_pos hk];exact zoi hlk _ fun nm hn=>by obtain rfl:=yE1.1 hn;exact iy.2) (by
   show i<((zkF S k s q.s y id i).2.cell id).length
   rw[e4]
   show i<((S.put id i _).cell id).length
   rw[zmF];exact a7)
  show zlD (zkF S k s q.s y id i).2 _=_
  refine hkk.trans ?_
  show zkF (zkF S k s q.s y id i).2 (zkL k) s q.s y id i=(0,S)
  rw[e4,e3 _ _ hk'];dsimp only;rw[znM S a7,zu2 hk (zmO h hid i),zmE,zmu]
 ·rw[if_neg zY,if_pos rfl]at hr
  split at hr
  ·cases hr
  rename_i iy;simp only[Bool.not_eq_true]at iy;obtain⟨jd,kq,d1,d2,d3⟩:=zmW h hq (zl2 (zpk hf).2 q zS);have hjd:=d2.lt h;have b2':indE S.look q=(y,0):=b2;have e4:zkF S 43 s q.s y id i=if 0<=y/\y<(S.cell jd).length then(0,znr S id i jd y.toNat)else(12,S):=by
   unfold zkF;rw[if_neg zY,if_pos rfl,d1]
  have h0':(zkF S 43 s q.s y id i).1=0:=h0;rw[e4]at h0'
  split at h0'
  ·rename_i hy2;rw[if_pos hy2]at e4;have hlen:∀j,((znr S id i jd y.toNat).cell j).length=(S.cell j).length:=fun j=>by unfold znr;rw[zmF,zmF]
   have hkk:=key [p.s,q.s] (fun j hj=>by
    show(zkF S 43 s q.s y id i).2.cell j=_
    rw[e4]
    show(znr S id i jd y.toNat).cell j=_
    unfold znr;rw[zmo _ (fun e=>hj q.s zS (by rw[e];exact d1)),zmo _ (fun e=>hj p.s zS (by rw[e];exact a1))]) (znZ iy (t:=p) zS) (fun hlk=>by
    show zk5 (zkF S 43 s q.s y id i).2 43 q=(y,0)
    rw[<-b2'];exact zrB hlk q (znZ iy (t:=q) zS)) (by
    show i<((zkF S 43 s q.s y id i).2.cell id).length
    rw[e4]
    show i<((znr S id i jd y.toNat).cell id).length
    rw[hlen];exact a7)
   show zlD (zkF S 43 s q.s y id i).2 _=_
   refine hkk.trans ?_
   show zkF (zkF S 43 s q.s y id i).2 43 s q.s y id i=(0,S)
   rw[e4];dsimp only;have hnq:(znr S id i jd y.toNat).num q.s=some jd:=d1;unfold zkF;rw[if_neg zY,if_pos rfl,hnq];dsimp only;rw[hlen,if_pos hy2,zu8 S a7 zO]
  ·cases h0'
 ·have hk40:¬ (k=40\/k=41\/k=42):=zO
  have hk43:k≠43:=zO
  rw[if_neg hk40,if_neg hk43]at hr;have Br:∀(S':ST) k',44<=k'/\k'<=49->zk5 S' k' nil0=(0,0):=fun S' k' hk'=>by unfold zk5;rw[if_neg zO,if_neg zO]
  have hinv:44<=zkL k/\zkL k<=49:=by
   have:k=44\/k=45\/k=46\/k=47\/k=48\/k=49:=zO
   rcases this with rfl|rfl|rfl|rfl|rfl|rfl<;>decide
  have hy0:y=0:=by
   have:zk5 S k nil0=(y,0):=b2;rw[Br S k hk]at this;injection this with this;exact this.symm
  by_cases hk2:k=44\/k=45
  ·rw[if_pos hk2]at hr
   split at hr
   ·cases hr
   rename_i iy;simp only[Bool.not_eq_true]at iy;obtain⟨af,d1,d2⟩:=zvb h hf hk2;have hne:id≠af:=a2.ne d2 h a3;have mI:zkL k=44\/zkL k=45:=by rcases hk2 with rfl|rfl<;>decide
   have e3:∀(S':ST) k',(k'=44\/k'=45)->S'.num s=some af->zkF S' k' s nil0.s y id i=zlG S' k' id i af:=fun S' k' hk' hn=>by
    unfold zkF;rw[if_neg zO,if_neg zO,if_pos hk',hn]
   have e4:zkF S k s nil0.s y id i=zlG S k id i af:=e3 S k hk2 d1;have h0':(zkF S k s nil0.s y id i).1=0:=h0;rw[e4]at h0';have eP:∀j,j≠id->j≠af->(zlG S k id i af).2.cell j=S.cell j:=fun j h1 h2=>by
    unfold zlG
    repeat' split
    all_goals first|rfl|(show((S.setL af _).put id i _).cell j=_;rw[zmo _ h1,zlO _ h2])|(show((S.put id i _).setL af _).cell j=_;rw[zlO _ h2,zmo _ h1])
   have hlen:((zlG S k id i af).2.cell id).length=(S.cell id).length:=by
    unfold zlG
    repeat' split
    all_goals first|rfl|(show(((S.setL af _).put id i _).cell id).length=_;rw[zmF,zlO _ hne])|(show(((S.put id i _).setL af _).cell id).length=_;rw[zlO _ hne,zmF])
   have hkk:=key [p.s,s] (fun j hj=>by
    show(zkF S k s nil0.s y id i).2.cell j=_
    rw[e4];exact eP j (fun e=>hj p.s zS (by rw[e];exact a1)) (fun e=>hj s zS (by rw[e];exact d1))) (znZ iy (t:=p) zS) (fun _=>by rw[hy0];exact Br _ _ hinv) (by
    show i<((zkF S k s nil0.s y id i).2.cell id).length
    rw[e4,hlen];exact a7)
   show zlD (zkF S k s nil0.s y id i).2 _=_
   refine hkk.trans ?_
   show zkF (zkF S k s nil0.s y id i).2 (zkL k) s nil0.s y id i=(0,S)
   have hfr:=(ztt S k id i af)
   have hn2:(zlG S k id i af).2.num s=some af:=by
    unfold ST.num ST.cur;rw[hfr.1,hfr.2.1];exact d1
   rw[e4,e3 _ _ mI hn2];exact zuk hk2 hne a7 (h.cells af (d2.lt h)).1 h0'
  ·have hk3:46<=k/\k<=49:=zO
   rw[if_neg hk2,if_pos hk3]at hr
   split at hr
   ·cases hr
   rename_i iy;simp only[Bool.not_eq_true]at iy;have hk4:k=46\/k=47\/k=48\/k=49:=zO
   have mI:46<=zkL k/\zkL k<=49:=by rcases hk4 with rfl|rfl|rfl|rfl<;>decide
   have e3:∀(S':ST) k',(46<=k'/\k'<=49)->zkF S' k' s nil0.s y id i=zks S' k' id i:=fun S' k' hk'=>by
    unfold zkF;rw[if_neg zO,if_neg zO,if_neg zO]
   have e4:zkF S k s nil0.s y id i=zks S k id i:=e3 S k hk3;have h0':(zkF S k s nil0.s y id i).1=0:=h0;rw[e4]at h0';have eP:∀j,j≠id->(zks S k id i).2.cell j=S.cell j:=fun j h1=>by
    unfold zks
    repeat' split
    all_goals first|rfl|exact zmo (S:={ S with tin:=_ }) h1 _ _|exact zmo (S:={ S with tout:=_ }) h1 _ _
   have hlen:((zks S k id i).2.cell id).length=(S.cell id).length:=by
    unfold zks
    repeat' split
    all_goals first|rfl|exact zmF (S:={ S with tin:=_ }) _ _ _ _|exact zmF (S:={ S with tout:=_ }) _ _ _ _
   have hkk:=key [p.s] (fun j hj=>by
    show(zkF S k s nil0.s y id i).2.cell j=_
    rw[e4];exact eP j (fun e=>hj p.s zS (by rw[e];exact a1))) (znZ iy (t:=p) zS) (fun _=>by rw[hy0];exact Br _ _ hinv) (by
    show i<((zkF S k s nil0.s y id i).2.cell id).length
    rw[e4,hlen];exact a7)
   show zlD (zkF S k s nil0.s y id i).2 _=_
   refine hkk.trans ?_
   show zkF (zkF S k s nil0.s y id i).2 (zkL k) s nil0.s y id i=(0,S)
   rw[e4,e3 _ _ mI];exact zsh h hk4 a7 h0'
theorem ztz(k:Int):zkL (zkL k)=k:=by
 by_cases h:k=40\/k=41\/k=44\/k=45\/k=46\/k=47\/k=48\/k=49
 ·rcases h with rfl|rfl|rfl|rfl|rfl|rfl|rfl|rfl<;>rfl
 ·have e:zkL k=k:=by
   unfold zkL;rw[if_neg zO,if_neg zO,if_neg zO,if_neg zO,if_neg zO,if_neg zO,if_neg zO,if_neg zO]
  rw[e,e]
theorem zxF(h:S.WF)(hnd:S.cur.cs.Nodup){t:T}(hr:rejE t=0)(h0:(zlD S t).1=0):doE (zlD S t).2 t=(0,S):=by
 obtain⟨k,n,s,ks⟩:=t;have h0':(doE S (.nd (zkL k) n s ks)).1=0:=h0;obtain⟨hs,iI,hb,-,-⟩:=zwy h0';have hb:basB (zkL k)=true:=hb;have hkk:=ztz k;have hr':rejE (.nd (zkL k) n s ks)=0:=by
  have hbk:basB k=true:=by
   have:=(zwQ hb).1;rw[hkk]at this;exact this
  have hrange:=of_decide_eq_true hbk;rw[zqw]at hr ⊢;have:k=40\/k=41\/k=42\/k=43\/k=44\/k=45\/k=46\/k=47\/k=48\/k=49:=zO
  rcases this with rfl|rfl|rfl|rfl|rfl|rfl|rfl|rfl|rfl|rfl<;>exact hr
 have:=ztQ h hnd hr' h0'
 show doE (doE S (.nd (zkL k) n s ks)).2 (.nd k n s ks)=(0,S)
 have e:zlD (doE S (.nd (zkL k) n s ks)).2 (.nd (zkL k) n s ks)=doE (doE S (.nd (zkL k) n s ks)).2 (.nd k n s ks):=by
  show doE _ (.nd (zkL (zkL k)) n s ks)=_
  rw[hkk]
 rw[<-e];exact this
end
end
end Go.Proofs.YthjinpodhacleaaGreat
