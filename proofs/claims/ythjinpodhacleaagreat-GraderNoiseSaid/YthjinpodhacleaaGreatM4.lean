
/-
  Texts of the proof, put together without their remarks: Ev, Sq, Stk, Ss, Sp, Sn, Sv, Nw.
-/
import Derived.Test.YthjinpodhacleaaGreatM3
set_option linter.unusedSimpArgs false
set_option linter.unusedVariables false
set_option maxHeartbeats 8000000
set_option maxRecDepth 100000
namespace Go.Proofs.YthjinpodhacleaaGreat
open Tryz
section
open Go Go.RowKit
def varE(look:ByteArray->Option (List Int))(k:Int)(s:ByteArray)(i:Int×Int):Int×Int :=
 match look s with
 | none=>(0,6)
 | some l =>
  if k=2 then(if l.length=1 then(l.getD 0 0,0)else(0,7))
  else if k=3 then(if i.2≠0 then(0,i.2)else if 0<=i.1/\i.1<l.length then(l.getD i.1.toNat 0,0)else(0,12))
  else if k=4 then(if l.length=0 then(0,13)else(l.getD (l.length-1) 0,0))
  else(l.length,0)
def evK(look:ByteArray->Option (List Int))(k n:Int)(s:ByteArray)(rs:List (Int×Int)):Int×Int :=
 if k=1 then(n,0)
 else if 2<=k/\k<=5 then varE look k s (rs.getD 0 (0,0))
 else if (rs.getD 0 (0,0)).2≠0 then(0,(rs.getD 0 (0,0)).2)
 else if rs.length=1 then unE k (rs.getD 0 (0,0)).1
 else if (rs.getD 1 (0,0)).2≠0 then(0,(rs.getD 1 (0,0)).2)
 else apE k (rs.getD 0 (0,0)).1 (rs.getD 1 (0,0)).1
mutual
def evE(look:ByteArray->Option (List Int)):T->Int×Int
 | .nd k n s ks=>evK look k n s (evEs look ks)
def evEs(look:ByteArray->Option (List Int)):List T->List (Int×Int)
 | []=>[]
 | t::ts=>evE look t::evEs look ts
end
theorem zm6(look:ByteArray->Option (List Int)):∀ks:List T,evEs look ks=ks.map (evE look)
 | []=>by simp[evEs]
 | t::ts=>by simp[evEs,zm6 look ts]
structure zss(f:FuncId)(fn:Func)(rv:Value)(Rd:World->Prop)(look:ByteArray->Option (List Int)):Prop where
 isFn:IsFn prog f fn
 later:∀W W',Rd W->Below W.heap.size W W'->Rd W'
 fits:∀s l,look s=some l->l.length<=100000
 call:∀(s:ByteArray) (W:World),Rd W->Calls prog f #[rv,.string s] W fun e W'=>Below W.heap.size W W' /\
  ((look s=none/\∃A c,e=.returned (.tuple #[.slice A 0 c,.bool false]))\/∃l A c,look s=some l/\e=.returned (.tuple #[.slice A l.length c,.bool true])/\RowI W' Any A l)
def NumE(r:Int×Int)(w:World)(e:Ending)(w':World):Prop:=e=.returned (.tuple #[zi r.1,zi r.2])/\zw w w'
def ValC(f:FuncId)(rv:Value)(Rd:World->Prop)(look:ByteArray->Option (List Int))(t:T):Prop :=
 ∀(v:Value) (W:World),NV W Any t v->Rd W->Calls prog 181 #[v,.func (.func f) #[rv] #[]] W (NumE (evE look t) W)
theorem RowI.nd{w:World}{S:Nat->Prop}{A:Option Addr}{xs:List Int}(h:RowI w S A xs){i:Nat}(hi:i<xs.length):∃a:Addr,A=some a/\w.cell? (a.add i)=some (zi (xs.getD i 0)) :=
 let ⟨a,h1,_,h3,_⟩:=h i hi;⟨a,h1,by simpa[hi]using h3⟩
theorem zn6{f:FuncId}{fn:Func}{rv:Value}{Rd:World->Prop}{look:ByteArray->Option (List Int)}(hL:zss f fn rv Rd look)(k n:Int)(s:ByteArray)(ks:List T)(v:Value)(w:World)(hv:NV w Any (.nd k n s ks) v)(hR:Rd w)
  (hk:2<=k/\k<=5)(h3:k=3->∃t,ks=[t]/\ValC f rv Rd look t) :
  Calls prog 188 #[v,.func (.func f) #[rv] #[]] w (NumE (varE look k s ((ks.map (evE look)).getD 0 (0,0))) w):=by
 obtain⟨A,c,rfl,hf,hlk,hlc,hrow⟩:=hv.open_;simp only[zND]at *
 have hcall:=zkH hL.isFn;have HL:=zh hL;have uI:=zh hR;have ae:=zh hrow;have H3:=zh h3;obtain⟨L,wH⟩:=zX (ks.length);rw[wH];obtain⟨R,hRR⟩:=zX (varE look k s ((ks.map (evE look)).getD 0 (0,0)));rw[hRR];have HRR:=zh hRR;have gQ:=zh wH;clear hv hrow h3 hL hR hRR wH hf hlk hlc;go_enter func188,ntmps188;go_wp2_with fail;refine(HL.out.call s _ (HL.out.later _ _ uI.out (zkb zr _))).mono ?_;rintro e w1 ⟨aa,h1⟩;have q1:=zka (zkb zr _) aa;have hN:=zkc (heap_alloc_new w (.cells #[zj k,zi n,.string s,.slice A L c] 28)) aa;obtain⟨a0,a1,a2,a3⟩:=box4 hN;have HN:=zh hN;clear aa hN;rcases h1 with⟨hno,A1,c1,rfl⟩|⟨l,A1,c1,hso,rfl,aT⟩
 ·have hRR:R=(0,6):=by rw[<-HRR.out,varE,hno]
  subst hRR;clear a0 a1 a2 a3;go_wp2_with fail;go_ret2;exact⟨rfl,q1⟩
 ·have hlen:=HL.out.fits s l hso;have bU:=zh aT;have nA:=zh hso;clear aT hso;by_cases k2:k=2
  ·subst k2;have hRR:R=if l.length=1 then(l.getD 0 0,0)else(0,7):=by rw[<-HRR.out,varE,nA.out];rfl
   by_cases hl1:l.length=1
   ·rw[if_pos hl1]at hRR;obtain⟨a,rfl,hc⟩:=bU.out.nd (i:=0) zO;simp only[Addr.add_zero']at hc;obtain⟨x0,hx0⟩:=zX (l.getD 0 0);rw[hx0]at hc hRR;have HX:=zh hRR;rw[hl1];clear hx0 hl1 bU HRR nA hRR;go_wp2_with fail;go_ret2;exact⟨by rw[HX.out];rfl,q1⟩
   ·rw[if_neg hl1]at hRR;have HX:=zh hRR;have e1:((l.length:Int)==1)=false:=by simp;omega
    have e2:((l.length:Int) != 1)=true:=by simp;omega
    clear hl1 hRR;go_wp2_with fail;go_ret2;exact⟨by rw[HX.out];rfl,q1⟩
  by_cases k4:k=4
  ·subst k4;have hRR:R=if l.length=0 then(0,13)else(l.getD (l.length-1) 0,0):=by rw[<-HRR.out,varE,nA.out];rfl
   by_cases hl1:l.length=0
   ·rw[if_pos hl1]at hRR;have HX:=zh hRR;rw[hl1];clear hl1 bU HRR nA hRR;go_wp2_with fail;go_ret2;exact⟨by rw[HX.out];rfl,q1⟩
   ·rw[if_neg hl1]at hRR;obtain⟨a,rfl,hc⟩:=bU.out.nd (i:=l.length-1) zO;obtain⟨x0,hx0⟩:=zX (l.getD (l.length-1) 0);rw[hx0]at hc hRR;have HX:=zh hRR;obtain⟨m,hm⟩:∃m,l.length=m+1:=⟨l.length-1,zO⟩
    rw[hm]at hc hlen ⊢;simp only[Nat.add_sub_cancel]at hc;clear hx0 hl1 bU HRR nA hm hRR;go_wp2_with fail;go_ret2;exact⟨by rw[HX.out];rfl,q1⟩
  by_cases k5:k=5
  ·subst k5;have hRR:R=((l.length:Int),0):=by rw[<-HRR.out,varE,nA.out];rfl
   have HX:=zh hRR;clear bU HRR nA hRR;go_wp2_with fail;go_ret2;exact⟨by rw[HX.out];rfl,q1⟩
  ·obtain rfl:k=3:=zO
   obtain⟨t,rfl,hval⟩:=H3.out rfl;obtain⟨a,t0,A2,c2,rfl,_,Ht,⟨y0,y1,y2,y3⟩,hn0⟩:=(ae.out.later q1).nd (i:=0) zS;simp only[Nat.zero_mul,Addr.add_zero']at y0 y1 y2 y3;have ht0:t0=t:=Ht.out.symm;subst ht0;have hL1:L=1:=gQ.out.symm;subst hL1;obtain⟨⟨iv,ie⟩,hiv⟩:=zX (evE look t0);have hRR:R=if ie≠0 then(0,ie)else if 0<=iv/\iv<l.length then(l.getD iv.toNat 0,0)else(0,12):=by rw[<-HRR.out,varE,nA.out];simp[hiv]
   have qQ:=zh (show ∀(v:Value) (W:World),NV W Any t0 v->Rd W->Calls prog 181 #[v,.func (.func f) #[rv] #[]] W (NumE (iv,ie) W)from hiv▸hval);have fB:=zh hn0;have HR2:=zh hRR;clear hval hn0 Ht hiv hRR;go_wp2_with fail;refine(qQ.out _ _ fB.out (HL.out.later _ _ uI.out q1)).mono ?_;rintro e w2 ⟨rfl,aj⟩;have q2:=zka q1 aj;have gM:=zh (bU.out.later aj);have hRR:=HR2.out;clear aj a0 a1 a2 a3 y0 y1 y2 y3 HRR nA bU HR2;by_cases he:ie=0
   ·subst he;rw[if_neg zS]at hRR;by_cases hb:0<=iv/\iv<l.length
    ·rw[if_pos hb]at hRR;obtain⟨j,hj⟩:∃j:Nat,iv=j:=⟨iv.toNat,zO⟩
     subst hj;have hjl:j<l.length:=zO
     obtain⟨a',rfl,hc⟩:=gM.out.nd hjl;simp only[Int.toNat_natCast]at hRR;obtain⟨x0,hx0⟩:=zX (l.getD j 0);rw[hx0]at hc hRR;have HX:=zh hRR;clear hx0 gM hRR hb;go_wp2_with fail;go_ret2;exact⟨by rw[HX.out];rfl,q2⟩
    ·rw[if_neg hb]at hRR;have HX:=zh hRR;clear hRR gM;by_cases h0:0<=iv
     ·have h1:(l.length:Int)<=iv:=zO
      have h2:¬ iv<0:=zO
      clear hb;go_wp2_with fail;go_ret2;exact⟨by rw[HX.out];rfl,q2⟩
     ·have h1:iv<0:=zO
      clear hb;go_wp2_with fail;go_ret2;exact⟨by rw[HX.out];rfl,q2⟩
   ·rw[if_pos he]at hRR;have HX:=zh hRR;have e1:(ie==0)=false:=by simpa using he
    have e2:(ie != 0)=true:=by simpa using he
    clear hRR gM he;go_wp2_with fail;go_ret2;exact⟨by rw[HX.out];rfl,q2⟩
theorem zpF{k n:Int}{s:ByteArray}{ks:List T}(h:isE (.nd k n s ks)=true) :
  (k=1/\ks=[])\/((k=2\/k=4\/k=5)/\ks=[])\/(k=3/\∃t,ks=[t]/\isE t=true)\/((k=6\/k=7)/\∃t,ks=[t]/\isE t=true)\/((8<=k/\k<=23)/\∃t u,ks=[t,u]/\isE t=true/\isE u=true):=by
 have l0:decide (ks.length=0)=true->ks=[]:=fun h=>by simpa using h
 have l1:(decide (ks.length=1)&&isEs ks)=true->∃t,ks=[t]/\isE t=true:=fun h=>by
  match ks with
  | [t]=>simp[isEs]at h;exact⟨t,rfl,h⟩
  | []=>simp at h
  | a::b::l=>simp at h
 have l2:(decide (ks.length=2)&&isEs ks)=true->∃t u,ks=[t,u]/\isE t=true/\isE u=true:=fun h=>by
  match ks with
  | [t,u]=>simp[isEs]at h;exact⟨t,u,rfl,h⟩
  | []=>simp at h
  | [a]=>simp at h
  | a::b::c::l=>simp at h
 rw[isE]at h
 split at h
 ·rename_i h1;simp only[Bool.and_eq_true]at h;exact .inl ⟨h1,l0 h.2⟩
 ·split at h
  ·rename_i h1;simp only[Bool.and_eq_true]at h;exact .inr (.inl ⟨h1,l0 h.2⟩)
  ·split at h
   ·rename_i h1;rw[Bool.and_eq_true]at h;exact .inr (.inr (.inl ⟨h1,l1 h.2⟩))
   ·split at h
    ·rename_i h1;rw[Bool.and_eq_true]at h;exact .inr (.inr (.inr (.inl ⟨h1,l1 h.2⟩)))
    ·split at h
     ·rename_i h1;rw[Bool.and_eq_true]at h;exact .inr (.inr (.inr (.inr ⟨h1,l2 h.2⟩)))
     ·cases h
theorem zpT{f:FuncId}{fn:Func}{rv:Value}{Rd:World->Prop}{look:ByteArray->Option (List Int)}(hL:zss f fn rv Rd look)(t:T):isE t=true->ValC f rv Rd look t:=by
 refine T.ind (p:=fun t=>isE t=true->ValC f rv Rd look t) ?_ t;intro k n s ks ih hE v w hv hR;have HV:=zh hv;have HL:=zh hL;have uI:=zh hR;obtain⟨A,c,rfl,hf,hlk,hlc,hrow⟩:=hv.open_;simp only[zND]at *
 have ae:=zh hrow;obtain⟨R,hRR⟩:=zX (evE look (.nd k n s ks));rw[hRR];rw[evE,zm6]at hRR;rcases zpF hE with⟨rfl,rfl⟩|⟨hk,rfl⟩|⟨rfl,t,rfl,ht⟩|⟨hk,t,rfl,ht⟩|⟨hk,t,u,rfl,ht,hu⟩
 ·have HX:=zh (show R=(n,0) by rw[<-hRR,evK];rfl);clear hv hrow ih hE hR hL hRR hf hlk hlc;go_enter func181,ntmps181;go_wp2_with fail;go_ret2;exact⟨by rw[HX.out];rfl,zkb zr _⟩
 ·have HX:=zh (show varE look k s (([].map (evE look)).getD 0 (0,0))=R by rw[<-hRR,evK,if_neg zO,if_pos zO]);have HC:=zh (fun w' (h:zw w w')=>zn6 hL k n s [] _ w' (hv.later h) (hL.later _ _ hR h) zO (fun h=>zO));clear hv hrow ih hE hR hL hRR hf hlk hlc;rcases hk with rfl|rfl|rfl
  all_goals
   go_enter func181,ntmps181;go_wp2_with fail;refine(HC.out _ (zkb zr _)).mono ?_;rintro e w1 ⟨rfl,aa⟩;rw[HX.out];have q1:=zka (zkb zr _) aa;clear aa;go_wp2_with fail;go_ret2;exact⟨rfl,q1⟩
 ·have HX:=zh (show varE look 3 s (([t].map (evE look)).getD 0 (0,0))=R by rw[<-hRR,evK,if_neg zO,if_pos zO]);have HC:=zh (fun w' (h:zw w w')=>zn6 hL 3 n s [t] _ w' (hv.later h) (hL.later _ _ hR h) zO (fun _=>⟨t,rfl,ih t List.mem_cons_self ht⟩));clear hv hrow ih hE hR hL hRR hf hlk hlc;simp only[List.length_cons,List.length_nil,Nat.zero_add]at *
  go_enter func181,ntmps181;go_wp2_with fail;refine(HC.out _ (zkb zr _)).mono ?_;rintro e w1 ⟨rfl,aa⟩;rw[HX.out];have q1:=zka (zkb zr _) aa;clear aa;go_wp2_with fail;go_ret2;exact⟨rfl,q1⟩
 ·obtain⟨⟨iv,ie⟩,hiv⟩:=zX (evE look t);obtain⟨⟨uv,ue⟩,hu⟩:=zX (unE k iv);have HX:=zh (show R=if ie≠0 then(0,ie)else(uv,ue) by rw[<-hRR,<-hu,evK,if_neg zO,if_neg zO];simp[hiv]);have qQ:=zh (show ∀(v:Value) (W:World),NV W Any t v->Rd W->Calls prog 181 #[v,.func (.func f) #[rv] #[]] W (NumE (iv,ie) W)from hiv▸ih t List.mem_cons_self ht);obtain⟨a,t0,A2,c2,rfl,_,Ht,⟨y0,y1,y2,y3⟩,hn0⟩:=(hrow.later (zkb zr (.cells #[zj k,zi n,.string s,.slice A [t].length c] 28))).nd (i:=0) zS;simp only[Nat.zero_mul,Addr.add_zero',List.length_cons,List.length_nil,Nat.zero_add]at *
  have ht0:t0=t:=Ht.out.symm;subst ht0;have fB:=zh hn0;have hbx:=box4 (heap_alloc_new w (.cells #[zj k,zi n,.string s,.slice (some a) 1 c] 28));obtain⟨W0,hW0⟩:=zX (w.alloc (.cells #[zj k,zi n,.string s,.slice (some a) 1 c] 28));have q0:zw w W0:=hW0▸zkb zr _;rw[hW0]at y0 y1 y2 y3 fB hbx;have qc:=zh (hL.later _ _ hR q0);have lS:=zh (show ∀w,Calls prog 186 #[zj k,zi iv] w fun e w'=>e=.returned (.tuple #[zi uv,zi ue])/\w'=w from fun w=>by have:=zrv k iv hk w;rwa[hu]at this);have aR:=zh hbx;obtain⟨x0,x1,x2,x3⟩:=hbx;clear hv hrow ih hE hR hL hRR hf hlk hlc hn0 Ht hiv hu;rcases hk with rfl|rfl
  all_goals
   go_enter func181,ntmps181;go_wp2_with fail;refine(qQ.out _ _ fB.out qc.out).mono ?_;rintro e w1 ⟨rfl,aa⟩;have q1:=zka q0 aa;have hx0:=zb aa x0;have hx3:=zb aa x3;clear aa y0 y1 y2 y3 x0 x1 x2 x3;have hX:=HX.out;by_cases he:ie=0
   ·subst he;rw[if_neg zS]at hX;have dP:=zh hX;clear hX HX;go_wp2_with fail;refine(lS.out _).mono ?_;rintro e w2 ⟨rfl,rfl⟩;go_wp2_with fail;go_ret2;exact⟨by rw[dP.out];rfl,q1⟩
   ·rw[if_pos he]at hX;have dP:=zh hX;have e1:(ie==0)=false:=by simpa using he
    have e2:(ie != 0)=true:=by simpa using he
    clear hX HX he;go_wp2_with fail;go_ret2;exact⟨by rw[dP.out];rfl,q1⟩
 ·obtain⟨⟨iv,ie⟩,hiv⟩:=zX (evE look t);obtain⟨⟨jv,je⟩,dA⟩:=zX (evE look u);obtain⟨⟨uv,ue⟩,hu'⟩:=zX (apE k iv jv);have HX:=zh (show R=if ie≠0 then(0,ie)else if je≠0 then(0,je)else(uv,ue) by rw[<-hRR,<-hu',evK,if_neg zO,if_neg zO];simp[hiv,dA]);have qQ:=zh (show ∀(v:Value) (W:World),NV W Any t v->Rd W->Calls prog 181 #[v,.func (.func f) #[rv] #[]] W (NumE (iv,ie) W)from hiv▸ih t zS ht);have HVD:=zh (show ∀(v:Value) (W:World),NV W Any u v->Rd W->Calls prog 181 #[v,.func (.func f) #[rv] #[]] W (NumE (jv,je) W)from dA▸ih u zS hu);have lS:=zh (show ∀w,Calls prog 187 #[zj k,zi iv,zi jv] w fun e w'=>e=.returned (.tuple #[zi uv,zi ue])/\w'=w from fun w=>by have:=zrD k iv jv hk w;rwa[hu']at this);have hrow':=hrow.later (zkb zr (.cells #[zj k,zi n,.string s,.slice A [t,u].length c] 28))
  obtain⟨a,t0,A2,c2,rfl,_,Ht,h4,hn0⟩:=hrow'.nd (i:=0) zS;obtain⟨a',t1,A3,c3,ea,_,Hu,h5,hn1⟩:=hrow'.nd (i:=1) zS;injection ea with ea;subst ea;have ha:a.add (1*4)=⟨a.block,a.off+4,none⟩:=by unfold Addr.add;split<;>simp_all
  rw[ha]at h5;simp only[Nat.zero_mul,Addr.add_zero',List.length_cons,List.length_nil,Nat.zero_add]at *
  have ht0:t0=t:=Ht.out.symm;have hu0:t1=u:=Hu.out.symm;subst ht0 hu0;have hbx:=box4 (heap_alloc_new w (.cells #[zj k,zi n,.string s,.slice (some a) 2 c] 28));obtain⟨W0,hW0⟩:=zX (w.alloc (.cells #[zj k,zi n,.string s,.slice (some a) 2 c] 28));have q0:zw w W0:=hW0▸zkb zr _;rw[hW0]at h4 h5 hn0 hn1 hbx;have fB:=zh hn0;have fA:=zh hn1;have qc:=zh (hL.later _ _ hR q0);have bP:=zh (show ∀w',zw W0 w'->(Nd4 w' a t0 A2 c2/\Nd4 w' ⟨a.block,a.off+4,none⟩ t1 A3 c3)/\w'.cell? ⟨w.heap.size,0,none⟩=some (zj k)/\w'.cell? ⟨w.heap.size,3,none⟩=some (.slice (some a) 2 c)from fun w' h=>⟨⟨zl4 h h4,zl4 h h5⟩,zb h hbx.1,zb h hbx.2.2.2⟩);have z1:(k==1)=false:=by simp;omega
  have z2:(k==2)=false:=by simp;omega
  have z3:(k==3)=false:=by simp;omega
  have z4:(k==4)=false:=by simp;omega
  have z5:(k==5)=false:=by simp;omega
  obtain⟨⟨⟨y0,y1,y2,y3⟩,⟨v0,v1,v2,v3⟩⟩,x0,x3⟩:=bP.out _ zr;clear hv hrow hrow' ih hE hR hL hRR hf hlk hlc hn0 hn1 Ht Hu hiv dA hu' h4 h5 hbx ha hk;go_enter func181,ntmps181;go_wp2_with fail;refine(qQ.out _ _ fB.out qc.out).mono ?_;rintro e w1 ⟨rfl,aa⟩;have r1:=aa;obtain⟨⟨⟨y0,y1,y2,y3⟩,⟨v0,v1,v2,v3⟩⟩,x0,x3⟩:=bP.out _ r1;have aF:=zh (fA.out.later r1);have HRd2:=zh (HL.out.later _ _ qc.out r1);clear aa;have hX:=HX.out;by_cases he:ie=0
  ·subst he;rw[if_neg zS]at hX;have dP:=zh hX;clear hX HX;go_wp2_with fail;refine(HVD.out _ _ aF.out HRd2.out).mono ?_;rintro e w2 ⟨rfl,aj⟩;have r2:=zka r1 aj;obtain⟨⟨⟨y0,y1,y2,y3⟩,⟨v0,v1,v2,v3⟩⟩,x0,x3⟩:=bP.out _ r2;clear aj;have hX:=dP.out;by_cases hj:je=0
   ·subst hj;rw[if_neg zS]at hX;have xS:=zh hX;clear hX dP;go_wp2_with fail;refine(lS.out _).mono ?_;rintro e w3 ⟨rfl,rfl⟩;go_wp2_with fail;go_ret2;exact⟨by rw[xS.out];rfl,zka q0 r2⟩
   ·rw[if_pos hj]at hX;have xS:=zh hX;have e1:(je==0)=false:=by simpa using hj
    have e2:(je != 0)=true:=by simpa using hj
    clear hX dP hj;go_wp2_with fail;go_ret2;exact⟨by rw[xS.out];rfl,zka q0 r2⟩
  ·rw[if_pos he]at hX;have dP:=zh hX;have e1:(ie==0)=false:=by simpa using he
   have e2:(ie != 0)=true:=by simpa using he
   clear hX HX he;go_wp2_with fail;go_ret2;exact⟨by rw[dP.out];rfl,zka q0 r1⟩
theorem zy1(f:FuncId)(rv:Value)(w:World):(binOp BinOp.eql 222 (.func (.func f) #[rv] #[]) .nilFunc).run prog w=.ok (.bool false) w:=zK
def zli(look:ByteArray->Option (List Int))(t:T):Int×Int:=if isE t=true then evE look t else(0,3)
def indE(look:ByteArray->Option (List Int))(t:T):Int×Int:=if isP t=true then(if t.k=2 then(0,0)else evE look (t.ks.getD 0 (.nd 0 0 ⟨#[]⟩ [])))else(0,3)
theorem zqA{f:FuncId}{fn:Func}{rv:Value}{Rd:World->Prop}{look:ByteArray->Option (List Int)}(hL:zss f fn rv Rd look)(t:T)(v:Value)(w:World)(hv:NV w Any t v)(hR:Rd w) :
  Calls prog 168 #[v,.func (.func f) #[rv] #[]] w (NumE (zli look t) w):=by
 have HV:=zh hv;have HL:=zh hL;have uI:=zh hR;obtain⟨A,c,rfl,-⟩:=hv.open_;obtain⟨⟨R1,R2⟩,hRR⟩:=zX (zli look t);rw[hRR];obtain⟨b,hb⟩:=zX (isE t);have Cw:=zh (show ∀(v:Value) (w:World),NV w Any t v->Calls prog 144 #[v] w (zu (.bool b) w) from fun v w h=>hb▸zkG t v w h);have dG:=zh (show b=true->∀(v:Value) (W:World),NV W Any t v->Rd W->Calls prog 181 #[v,.func (.func f) #[rv] #[]] W (NumE (R1,R2) W)from fun h=>by
  have h1:zli look t=evE look t:=by rw[zli,if_pos (hb.trans h)]
  rw[<-hRR,h1];exact zpT hL t (hb.trans h))
 have bS:=zh (show b=false->R1=0/\R2=3 from fun h=>by
  rw[zli,hb,h]at hRR;simp at hRR;exact⟨hRR.1.symm,hRR.2.symm⟩)
 clear hv hR hL hRR hb;generalize t.k=k,t.n=n,t.s=s,t.ks.length=m at *
 have hen:=zy1;go_enter func168,ntmps168;go_wp2_with fail;refine(Cw.out _ _ (HV.out.later (zkb zr _))).mono ?_;rintro e w1 ⟨rfl,aa⟩;have q1:=zka (zkb zr _) aa;obtain⟨a0,a1,a2,a3⟩:=box4 (zkc (heap_alloc_new w (.cells #[zj k,zi n,.string s,.slice A m c] 28)) aa);clear aa
 cases b
 ·obtain⟨rfl,rfl⟩:=bS.out rfl;go_wp2_with fail;go_ret2;exact⟨rfl,q1⟩
 ·have uB:=zh (dG.out rfl);clear dG bS;go_wp2_with fail;refine(uB.out _ _ (HV.out.later q1) (HL.out.later _ _ uI.out q1)).mono ?_;rintro e w2 ⟨rfl,aj⟩;have q2:=zka q1 aj;clear aj;go_wp2_with fail;go_ret2;exact⟨rfl,q2⟩
theorem znI{f:FuncId}{fn:Func}{rv:Value}{Rd:World->Prop}{look:ByteArray->Option (List Int)}(hL:zss f fn rv Rd look)(t:T)(v:Value)(w:World)(hv:NV w Any t v)(hR:Rd w) :
  Calls prog 170 #[v,.func (.func f) #[rv] #[]] w (NumE (indE look t) w):=by
 have HV:=zh hv;have HL:=zh hL;have uI:=zh hR;obtain⟨A,c,rfl,hf,hlk,hlc,hrow⟩:=hv.open_;obtain⟨⟨R1,R2⟩,hRR⟩:=zX (indE look t);rw[hRR];obtain⟨b,hb⟩:=zX (isP t);have Cw:=zh (show ∀(v:Value) (w:World),NV w Any t v->Calls prog 143 #[v] w (zu (.bool b) w) from fun v w h=>hb▸zkO t v w h);have ae:=zh hrow;have HK:=zh (show ∀k n s m,t.k=k->t.n=n->t.s=s->t.ks.length=m->b=true->(k=2/\R1=0/\R2=0)\/(k=3/\m=1/\∃u,t.ks=[u]/\∀(v:Value) (W:World),NV W Any u v->Rd W->Calls prog 181 #[v,.func (.func f) #[rv] #[]] W (NumE (R1,R2) W))from by
  rintro k n s m rfl rfl rfl rfl h;have hp:=hb.trans h;rw[indE,if_pos hp]at hRR;unfold isP at hp;simp only[Bool.and_eq_true,Bool.or_eq_true,beq_iff_eq]at hp;rcases hp.1 with h2|h3
  ·rw[if_pos h2]at hRR;injection hRR with r1 r2;exact .inl ⟨h2,r1.symm,r2.symm⟩
  ·rw[if_neg zO]at hRR;obtain⟨k,n,s,ks⟩:=t;simp only[T.k_nd,T.ks_nd]at *
   subst h3;rcases zpF hp.2 with h|h|⟨_,u,rfl,hu⟩|h|h
   ·omega
   ·omega
   ·refine .inr ⟨rfl,rfl,u,rfl,?_⟩;simp at hRR;rw[<-hRR];exact zpT hL u hu
   ·omega
   ·omega)
 have bS:=zh (show b=false->R1=0/\R2=3 from fun h=>by
  rw[indE,hb,h]at hRR;simp at hRR;exact⟨hRR.1.symm,hRR.2.symm⟩)
 obtain⟨k,hk⟩:=zX (t.k);obtain⟨n,hn⟩:=zX (t.n);obtain⟨s,hs⟩:=zX (t.s);obtain⟨m,hm⟩:=zX (t.ks.length);have HKK:=zh (HK.out k n s m hk hn hs hm);rw[hk,hn,hs,hm]at HV ⊢;clear hv hR hL hRR hb hrow hf hlk hlc HK hk hn hs hm;have hen:=zy1;go_enter func170,ntmps170;go_wp2_with fail;refine(Cw.out _ _ (HV.out.later (zkb zr _))).mono ?_;rintro e w1 ⟨rfl,aa⟩;have q1:=zka (zkb zr _) aa;obtain⟨a0,a1,a2,a3⟩:=box4 (zkc (heap_alloc_new w (.cells #[zj k,zi n,.string s,.slice A m c] 28)) aa);clear aa
 cases b
 ·obtain⟨rfl,rfl⟩:=bS.out rfl;clear HKK;go_wp2_with fail;go_ret2;exact⟨rfl,q1⟩
 ·rcases HKK.out rfl with⟨rfl,rfl,rfl⟩|⟨rfl,rfl,u,hu,cZ⟩
  ·clear HKK bS;go_wp2_with fail;go_ret2;exact⟨rfl,q1⟩
  ·have hrow:=ae.out;rw[hu]at hrow;obtain⟨a,t0,A2,c2,rfl,_,Ht,⟨y0,y1,y2,y3⟩,hn0⟩:=(hrow.later q1).nd (i:=0) zS;simp only[Nat.zero_mul,Addr.add_zero']at y0 y1 y2 y3;have ht0:t0=u:=Ht.out.symm;subst ht0;have fB:=zh hn0;have qQ:=zh cZ;clear HKK bS cZ hu hrow hn0 Ht;go_wp2_with fail;refine(qQ.out _ _ fB.out (HL.out.later _ _ uI.out q1)).mono ?_;rintro e w2 ⟨rfl,aj⟩;have q2:=zka q1 aj;clear aj;go_wp2_with fail;go_ret2;exact⟨rfl,q2⟩
theorem zl2{W:World}{n0 b k:Nat}{E:TypeId}{xs:List Value}(h:W.ownsRow n0 E k (boxV b) 1 xs):W.heap[b]?=some (.cells xs.toArray E (0,0)):=by
 rcases h.2 with⟨h1,_⟩|⟨g,cap,cur,hv,_,hg,hn,_,hz,hx⟩
 ·cases h1
 ·injection hv with e1 e2 e3;injection e1 with e1;injection e1 with e1;subst e1 e3;have:cur=xs.toArray:=by
   rw[List.take_of_length_le (by simp;omega)]at hx;rw[<-hx]
  rw[this]at hg;exact hg
theorem zkh{W:World}{n0 sz n:Nat}{E:TypeId}{v:Value}{xs:List Value}(h:W.ownsRow n0 E sz v n xs):∃A c,v=.slice A n c/\n<=c/\c<=maxLen:=by
 rcases h.2 with⟨rfl,rfl⟩|⟨g,cap,cur,rfl,_,_,hn,hm,_⟩
 ·exact⟨none,0,rfl,zl,Nat.zero_le _⟩
 ·exact⟨_,_,rfl,hn,hm⟩
theorem zlg{W:World}{n0 sz n:Nat}{E:TypeId}{v:Value}{xs:List Value}(h:W.ownsRow n0 E sz v n xs)(hn:0<n):∃g c,v=.slice (some ⟨g,0,none⟩) n c/\n<=c/\c<=maxLen/\∀j,j<n*sz->W.cell? ⟨g,j,none⟩=xs[j]?:=by
 rcases h.2 with⟨rfl,rfl⟩|⟨g,cap,cur,rfl,_,_,hc,hm,_⟩
 ·omega
 ·exact⟨g,cap,rfl,hc,hm,fun j hj=>h.cellAt j hj⟩
theorem zKW{W:World}{n0:Nat}{E:TypeId}{v:Value}{vs:List VD}(h:W.ownsRow n0 E 3 v vs.length (zkX vs))(hf:∀v∈vs,FldV v):∃A c,v=.slice A vs.length c/\vs.length<=c/\RowV W Any A vs:=by
 rcases Nat.eq_zero_or_pos vs.length with h0|h0
 ·obtain⟨A,c,rfl,hc,_⟩:=zkh h;exact⟨A,c,rfl,hc,fun i hi=>zO⟩
 ·obtain⟨g,c,rfl,hc,_,hcell⟩:=zlg h h0;refine⟨_,c,rfl,hc,fun i hi=>⟨_,rfl,trivial,?_,hf _ (List.getElem_mem hi)⟩⟩;have ha:(⟨g,0,none⟩:Addr).add (i*3)=⟨g,i*3,none⟩:=by unfold Addr.add;split<;>simp_all
  obtain⟨h1,h2,h3⟩:=zrf vs i hi;rw[ha];exact⟨(hcell (i*3) zO).trans h1,(hcell (i*3+1) zO).trans h2,(hcell (i*3+2) zO).trans h3⟩
theorem zrX{W:World}{n0:Nat}{E:TypeId}{v:Value}{l:List Int}(h:W.ownsRow n0 E 1 v l.length (zki l))(hf:∀x∈l,I64 x):∃A c,v=.slice A l.length c/\l.length<=c/\RowI W Any A l:=by
 obtain⟨A,c,e,hc,hr⟩:=zlp (xs:=l) h hf;exact⟨A,c,e,hc,hr.any⟩
def Ph.gF(P:Ph):Nat:=P.vF.ownBlock.getD 0
def curP(P:Ph)(S:ST):Addr:=if S.calls.length=0 then⟨P.sb,0,none⟩else⟨P.gF,(S.calls.length-1)*3,none⟩
def curV(P:Ph)(S:ST):Value:=if S.calls.length=0 then P.vV else P.fV (S.calls.length-1)
def curC(P:Ph)(S:ST):Value:=if S.calls.length=0 then P.vC else P.fC (S.calls.length-1)
theorem zmS{S:ST}(h:S.calls.length=0):S.cur=S.base:=by
 have:S.calls=[]:=List.length_eq_zero_iff.1 h;simp[ST.cur,this]
theorem zna{S:ST}(h:0<S.calls.length):S.cur=S.calls[S.calls.length-1]:=by
 unfold ST.cur;rw[List.getLast?_eq_getElem?,List.getElem?_eq_getElem zO];rfl
section
variable {W W':World} {n0:Nat} {P:Ph} {S:ST}
theorem SR.later(h:SR W n0 P S)(hb:zw W W'):SR W' n0 P S:=⟨h.rws.later hb,h.wf⟩
theorem SR.box(h:SR W n0 P S):W.heap[P.sb]?=some (.cells #[P.vV,P.vC,zi S.base.loc,P.vF,.pointer (some ⟨P.tb,0,none⟩)] 167 (0,0)):=zl2 (h.rws.row .sb)
theorem SR.tbox(h:SR W n0 P S):W.heap[P.tb]?=some (.cells #[P.vI,P.vO] 188 (0,0)):=zl2 (h.rws.row .tb)
theorem SR.cbox(h:SR W n0 P S){i:Nat}(hi:i<S.nc):W.heap[P.cb i]?=some (.cells #[P.ci i] 171 (0,0)):=by
 have:=h.rws.row (.cb i);simp only[rows,hi,if_true]at this;exact zl2 this
theorem SR.items(h:SR W n0 P S){i:Nat}(hi:i<S.nc):∃A c,P.ci i=.slice A (S.cell i).length c/\(S.cell i).length<=c/\RowI W Any A (S.cell i):=by
 have:=h.rws.row (.ci i);simp only[rows,hi,if_true]at this;exact zrX this (h.wf.cells i hi).2
theorem SR.calls(h:SR W n0 P S):∃A c,P.vF=.slice A S.calls.length c/\S.calls.length<=c/\(0<S.calls.length->A=some ⟨P.gF,0,none⟩/\∀j,j<S.calls.length*3->W.cell? ⟨P.gF,j,none⟩=(zkV P 0 S.calls)[j]?):=by
 have hr:W.ownsRow n0 164 3 P.vF S.calls.length (zkV P 0 S.calls):=h.rws.row .calls;rcases Nat.eq_zero_or_pos S.calls.length with h0|h0
 ·obtain⟨A,c,e,hc,_⟩:=zkh hr;exact⟨A,c,e,hc,fun h=>zO⟩
 ·obtain⟨g,c,e,hc,_,hcell⟩:=zlg hr h0;have hg:P.gF=g:=by simp[Ph.gF,e,Value.ownBlock]
  exact⟨_,c,e,hc,fun _=>⟨by rw[hg],by rw[hg];exact hcell⟩⟩
theorem SR.curWF(h:SR W n0 P S):∃kd,S.cur.WF kd S.nc:=by
 obtain⟨kd,h1,h2,_⟩:=h.wf.ex;refine⟨kd,?_⟩;rcases Nat.eq_zero_or_pos S.calls.length with h0|h0
 ·rw[zmS h0];exact h1
 ·rw[zna h0];exact h2 _ (List.getElem_mem _)
theorem SR.cur3(h:SR W n0 P S):W.cell? (curP P S)=some (curV P S)/\W.cell? ⟨(curP P S).block,(curP P S).off+1,none⟩=some (curC P S)/\W.cell? ⟨(curP P S).block,(curP P S).off+2,none⟩=some (zi S.cur.loc):=by
 rcases Nat.eq_zero_or_pos S.calls.length with h0|h0
 ·rw[zmS h0];simp only[curP,curV,curC,h0,if_true];exact⟨zc h.box rfl,zc h.box rfl,zc h.box rfl⟩
 ·rw[zna h0];have hne:S.calls.length≠0:=zO
  simp only[curP,curV,curC,hne,if_false];obtain⟨A,c,_,_,h2⟩:=h.calls;obtain⟨_,hcell⟩:=h2 h0;obtain⟨g1,g2,g3⟩:=zo0 P S.calls 0 (S.calls.length-1) zO;simp only[Nat.zero_add]at g1 g2;exact⟨(hcell _ zO).trans g1,(hcell _ zO).trans g2,(hcell _ zO).trans g3⟩
theorem SR.curVs(h:SR W n0 P S):∃A c,curV P S=.slice A S.cur.vs.length c/\S.cur.vs.length<=c/\RowV W Any A S.cur.vs:=by
 obtain⟨kd,hw⟩:=h.curWF;rcases Nat.eq_zero_or_pos S.calls.length with h0|h0
 ·rw[zmS h0]at hw ⊢;simp only[curV,h0,if_true];exact zKW (h.rws.row .bv) hw.fld
 ·rw[zna h0]at hw ⊢;have hne:S.calls.length≠0:=zO
  simp only[curV,hne,if_false];have:=h.rws.row (.fv (S.calls.length-1));simp only[rows,List.getElem?_eq_getElem (show S.calls.length-1<S.calls.length by omega)]at this;exact zKW this hw.fld
theorem SR.curCs(h:SR W n0 P S):W.ownsRow n0 169 1 (curC P S) S.cur.cs.length (ptrs P.cb S.cur.cs):=by
 rcases Nat.eq_zero_or_pos S.calls.length with h0|h0
 ·rw[zmS h0];simp only[curC,h0,if_true];exact h.rws.row .bc
 ·rw[zna h0];have hne:S.calls.length≠0:=zO
  simp only[curC,hne,if_false];have:=h.rws.row (.fc (S.calls.length-1));simp only[rows,List.getElem?_eq_getElem (show S.calls.length-1<S.calls.length by omega)]at this;exact this
end
def idxZ:Option Nat->Int
 | none => -1
 | some i=>i
theorem zlm{W:World}{n0:Nat}{P:Ph}{S:ST}(h:SR W n0 P S):Calls prog 156 #[.pointer (some ⟨P.sb,0,none⟩)] W fun e w'=>e=.returned (.pointer (some (curP P S)))/\w'=W:=by
 obtain⟨A,c,og,hc,h2⟩:=h.calls;have hx:W.cell? ⟨P.sb,3,none⟩=some (.slice A S.calls.length c):=by rw[<-og];exact zc h.box rfl
 have tq:=h.wf.ncalls;obtain⟨cp,hcp⟩:=zX (curP P S);rw[hcp];have vP:=zh hcp;have H2:=zh h2;obtain⟨L,hL⟩:=zX (S.calls.length);rw[hL]at hx tq;have HL:=zh hL;clear h og hc h2 hcp hL;rcases Nat.eq_zero_or_pos L with h0|h0
 ·subst h0;have HX:=zh (show cp=⟨P.sb,0,none⟩ by rw[<-vP.out,curP,if_pos HL.out]);clear HL vP H2;go_enter func156,ntmps156;go_wp2_with fail;go_ret;exact⟨by rw[HX.out];rfl,rfl⟩
 ·obtain⟨rfl,-⟩:=H2.out (by rw[HL.out];exact h0);obtain⟨m,hm⟩:∃m,L=m+1:=⟨L-1,zO⟩
  subst hm;have HX:=zh (show cp=⟨P.gF,m*3,none⟩ by rw[<-vP.out,curP,if_neg (by have:=HL.out;omega),HL.out];rfl);clear HL vP H2 h0;go_enter func156,ntmps156;go_wp2_with fail;go_ret;exact⟨by rw[HX.out];simp,rfl⟩
theorem zom(vs:List VD)(A:Option Addr)(c:Nat)(s:ByteArray)(fp:Addr)(w:World)(hc:w.cell? fp=some (.slice A vs.length c))(hrow:RowV w Any A vs)(hl:vs.length<=4398046511000) :
  Calls prog 157 #[.pointer (some fp),.string s] w (zu (zi (idxZ (zmg vs s vs.length))) w):=by
 obtain⟨R,hR⟩:=zX (zmg vs s vs.length);rw[hR];have HR:=zh hR;have ae:=zh hrow;have HC:=zh hc;clear hR hrow;go_enter func157,ntmps157;go_wp2_with fail
 go_loopw [5] (fun i wr=>∃j:Nat,j<=vs.length/\i=zi ((j:Int)-1)/\wr=w/\Hid (zmg vs s j=R)) (fun i _=>(intOf i+1).toNat)
 case atStart=>exact⟨vs.length,zl,by go_num,rfl,HR⟩
 case round =>
  obtain⟨j,hj,rfl,rfl,HJ⟩:=hrel;by_cases h0:j=0
  ·subst h0;have HX:=zh (show R=none by rw[<-HJ.out];rfl);go_wp2_with fail;go_ret;exact⟨by rw[HX.out];rfl,zr⟩
  ·obtain⟨m,rfl⟩:∃m,j=m+1:=⟨j-1,zO⟩
   have hm:m<vs.length:=zO
   obtain⟨a,rfl,-,⟨y0,y1,y2⟩,-⟩:=ae.out m hm;have hjm:((m+1:Nat):Int)-1=(m:Int):=zO
   rw[hjm];obtain⟨vm,Az⟩:=zX (vs[m]);rw[Az]at y0 y1 y2;have HL:=zh (show(if vm.s.toList==s.toList then some m else zmg vs s m)=R by rw[<-HJ.out,zpE hm,Az]);obtain⟨b,hb⟩:=zX ((vm.s.toList==s.toList));rw[hb]at HL;clear HJ Az hjm
   cases b
   ·go_wp2_with fail
    go_roundw
    case rel=>exact⟨m,zO,by go_num,trivial,zh (by have:=HL.out;simpa using this)⟩
    case measure=>simp[intOf]
   ·have HX:=zh (show R=some m by rw[<-HL.out];rfl);go_wp2_with fail;go_ret;exact⟨by rw[HX.out];rfl,zr⟩
theorem zpC{W:World}{n0:Nat}{P:Ph}{S:ST}(h:SR W n0 P S)(s:ByteArray):Calls prog 171 #[.pointer (some ⟨P.sb,0,none⟩),.string s] W fun e W'=>zw W W' /\
  ((S.look s=none/\∃A c,e=.returned (.tuple #[.slice A 0 c,.bool false]))\/∃l A c,S.look s=some l/\e=.returned (.tuple #[.slice A l.length c,.bool true])/\RowI W' Any A l):=by
 have HS:=zh h;obtain⟨kd,hw⟩:=h.curWF;obtain⟨A,c,hcv,hc,hrow⟩:=h.curVs;obtain⟨h1,h2,h3⟩:=h.cur3;rw[hcv]at h1;have cK:=zh (zlm h);have dQ:=zh (fun W' (hb:zw W W')=>zom S.cur.vs A c s (curP P S) W' (zb hb h1) (hrow.later hb) hw.lim);have CO:=zh h.curCs;have eH:=zh hw;obtain⟨cp,hcp⟩:=zX (curP P S);rw[hcp]at h1 h2 h3 cK dQ;obtain⟨r,hr⟩:=zX (S.cur.at s);have hr':zmg S.cur.vs s S.cur.vs.length=r:=hr;rw[hr']at dQ;have HRR:=zh hr;have H2:=zh h2;clear h hw hcv hrow h1 h2 h3 hcp hr hr';go_enter func171,ntmps171;go_wp2_with fail;refine cK.out.mono ?_;rintro e w1 ⟨rfl,rfl⟩;go_wp2_with fail;refine(dQ.out _ zr).mono ?_;rintro e w2 ⟨rfl,aj⟩;have hy:=zb aj H2.out;have HS2:=zh (HS.out.later aj);have HB2:=zh aj;clear aj;rcases r with _|i
 ·have HX:=zh (show S.look s=none by unfold ST.look ST.num;rw[HRR.out];rfl);simp only[idxZ];go_wp2_with fail;go_ret2;exact⟨HB2.out,.inl ⟨HX.out,none,0,rfl⟩⟩
 ·have hil:i<S.cur.vs.length:=FR.at_lt HRR.out;have hic:i<S.cur.cs.length:=by rw[eH.out.len];exact hil
  obtain⟨id,hid⟩:=zX (S.cur.cs[i]);have aH:id<S.nc:=by rw[<-hid];exact eH.out.num _ (List.getElem_mem hic)
  have HX:=zh (show S.look s=some (S.cell id) by unfold ST.look ST.num;rw[HRR.out];simp[hic,hid]);obtain⟨g,c2,hcc,hc2,hm2,hcell⟩:=zlg HS2.out.curCs zO;rw[hcc]at hy;have hz:w2.cell? ⟨g,i,none⟩=some (.pointer (some ⟨P.cb id,0,none⟩)):=by rw[hcell i zO];simp[ptrs,hic,hid]
  obtain⟨A3,c3,hci,hc3,aT⟩:=HS2.out.items aH;have hz2:w2.cell? ⟨P.cb id,0,none⟩=some (.slice A3 (S.cell id).length c3):=by rw[<-hci];exact zc (HS2.out.cbox aH) rfl
  have bU:=zh aT;have hi1:(i:Int)<(S.cur.cs.length:Int):=zO
  have hi2:¬ (i:Int)<0:=zO
  simp only[idxZ];clear hcell hcc aT hci hid hil;go_wp2_with fail;go_ret2;exact⟨HB2.out,.inr ⟨_,HX.out,A3,⟨c3,rfl⟩,bU.out⟩⟩
theorem zxX:IsFn prog 171 f171:=⟨func171,zK,zK⟩
theorem ST.look_num{S:ST}{s:ByteArray}{l:List Int}(h:S.look s=some l):∃i id,S.cur.at s=some i/\S.cur.cs[i]?=some id/\l=S.cell id:=by
 unfold ST.look ST.num at h;simp only[Option.map_eq_some_iff,Option.bind_eq_some_iff]at h;obtain⟨id,⟨i,h1,h2⟩,rfl⟩:=h;exact⟨i,id,h1,h2,rfl⟩
theorem ST.WF.cur{S:ST}(h:S.WF):∃kd,S.cur.WF kd S.nc:=by
 obtain⟨kd,h1,h2,_⟩:=h.ex;refine⟨kd,?_⟩;rcases Nat.eq_zero_or_pos S.calls.length with h0|h0
 ·rw[zmS h0];exact h1
 ·rw[zna h0];exact h2 _ (List.getElem_mem _)
theorem zvg(n0:Nat)(P:Ph)(S:ST)(hw:S.WF):zss 171 f171 (.pointer (some ⟨P.sb,0,none⟩)) (fun W=>SR W n0 P S) S.look where
 isFn:=zxX
 later:=fun _ _ h hb=>h.later hb
 fits:=fun s l hl=>by
  obtain⟨i,id,h1,h2,rfl⟩:=ST.look_num hl;obtain⟨kd,hc⟩:=hw.cur;have:=(hw.cells id (hc.num id (List.mem_of_getElem? h2))).1;omega
 call:=fun s W h=>zpC h s
theorem zmJ{W:World}{n0:Nat}{P:Ph}{S:ST}(h:SR W n0 P S)(s:ByteArray)(id:Nat)(hid:S.num s=some id):Calls prog 172 #[.pointer (some ⟨P.sb,0,none⟩),.string s] W (zu (.pointer (some ⟨P.cb id,0,none⟩)) W):=by
 have HS:=zh h;obtain⟨kd,hw⟩:=h.curWF;obtain⟨A,c,hcv,hc,hrow⟩:=h.curVs;obtain⟨h1,h2,h3⟩:=h.cur3;rw[hcv]at h1;unfold ST.num at hid;rw[Option.bind_eq_some_iff]at hid;obtain⟨i,hr,hci⟩:=hid;have hr':zmg S.cur.vs s S.cur.vs.length=some i:=hr;have cK:=zh (zlm h);have hfi:=fun W' (hb:zw W W')=>zom S.cur.vs A c s (curP P S) W' (zb hb h1) (hrow.later hb) hw.lim;rw[hr']at hfi;simp only[idxZ]at hfi;have dQ:=zh hfi;have hic:i<S.cur.cs.length:=(List.getElem?_eq_some_iff.1 hci).1;have hidd:S.cur.cs[i]=id:=(List.getElem?_eq_some_iff.1 hci).2;obtain⟨cp,hcp⟩:=zX (curP P S);rw[hcp]at h1 h2 h3 cK dQ;have H2:=zh h2;clear hw hcv hrow h1 h2 h3 hcp hr hr' hfi h hci;go_enter func172,ntmps172;go_wp2_with fail;refine cK.out.mono ?_;rintro e w1 ⟨rfl,rfl⟩;have hy0:=H2.out;obtain⟨g,c2,hcc,hc2,hm2,hcell⟩:=zlg HS.out.curCs zO;rw[hcc]at hy0
 have hz:w1.cell? ⟨g,i,none⟩=some (.pointer (some ⟨P.cb id,0,none⟩)):=by rw[hcell i zO];simp[ptrs,hic,hidd]
 have az:=zh (show ∀w',zw w1 w'->w'.cell? ⟨cp.block,cp.off+1,none⟩=some (.slice (some ⟨g,0,none⟩) S.cur.cs.length c2)/\w'.cell? ⟨g,i,none⟩=some (.pointer (some ⟨P.cb id,0,none⟩))from fun w' hb=>⟨zb hb hy0,zb hb hz⟩);have aG:=zh (az.out _ zr.drew);obtain⟨L,hL⟩:=zX (S.cur.cs.length);have hi1:(i:Int)<(L:Int):=zO
 have hi0:(0:Int)<=(i:Int):=zO
 have hi2:i<L:=zO
 rw[hL]at az aG;clear hcell hcc hy0 hz hL;go_upto_region 2 with fail
 go_region_held3 (fun w':World=>zv w' cp.block (cp.off+1) (.slice (some ⟨g,0,none⟩) L c2)/\zv w' g i (.pointer (some ⟨P.cb id,0,none⟩)))
  (first|with_reducible exact aC.out|with_reducible exact aG.out)
  (first
   | (go_at_call 157;refine(dQ.out _ zr.drew).mono ?_;rintro e y1 ⟨rfl,bE⟩;have b1:=zka (zs w1).drew bE;have aC:=zh (az.out _ b1))
   | fail)
 have HB1:=zh b1;clear b1 bE aC;go_wp2_with fail;go_ret;exact⟨rfl,HB1.out⟩
def znX(k:Int):Int:=if k=2 then 1 else if k=3 then 2 else if k=4\/k=5\/k=44\/k=45 then 3 else 0
def basB(k:Int):Bool:=decide (40<=k/\k<=49)
def zk5(k:Int):Int:=if k=40 then 41 else if k=41 then 40 else if k=44 then 45 else if k=45 then 44 else if k=46 then 47 else if k=47 then 46 else if k=48 then 49 else if k=49 then 48 else k
theorem zvd(k:Int)(w:World):Calls prog 169 #[zj k] w fun e w'=>e=.returned (zj (znX k))/\w'=w:=by
 by_cases e2:k=2
 ·subst e2;go_enter func169,ntmps169;go_wp2_with fail;go_ret;exact⟨rfl,rfl⟩
 by_cases e3:k=3
 ·subst e3;go_enter func169,ntmps169;go_wp2_with fail;go_ret;exact⟨rfl,rfl⟩
 by_cases e4:k=4
 ·subst e4;go_enter func169,ntmps169;go_wp2_with fail;go_ret;exact⟨rfl,rfl⟩
 by_cases e5:k=5
 ·subst e5;go_enter func169,ntmps169;go_wp2_with fail;go_ret;exact⟨rfl,rfl⟩
 by_cases e44:k=44
 ·subst e44;go_enter func169,ntmps169;go_wp2_with fail;go_ret;exact⟨rfl,rfl⟩
 by_cases e45:k=45
 ·subst e45;go_enter func169,ntmps169;go_wp2_with fail;go_ret;exact⟨rfl,rfl⟩
 have x2:(k==2)=false:=by simpa using e2
 have x3:(k==3)=false:=by simpa using e3
 have x4:(k==4)=false:=by simpa using e4
 have x5:(k==5)=false:=by simpa using e5
 have x44:(k==44)=false:=by simpa using e44
 have x45:(k==45)=false:=by simpa using e45
 obtain⟨R,hR⟩:=zX (znX k);rw[hR];have HR:=zh (show R=0 by rw[<-hR,znX];rw[if_neg e2,if_neg e3,if_neg zO]);clear hR e2 e3 e4 e5 e44 e45;go_enter func169,ntmps169;go_wp2_with fail;go_ret;exact⟨by rw[HR.out];rfl,rfl⟩
theorem zwn(k:Int)(w:World):Calls prog 161 #[zj k] w fun e w'=>e=.returned (.bool (basB k))/\w'=w:=by
 by_cases e40:k=40
 ·subst e40;go_enter func161,ntmps161;go_wp2_with fail;go_ret;exact⟨rfl,rfl⟩
 by_cases e41:k=41
 ·subst e41;go_enter func161,ntmps161;go_wp2_with fail;go_ret;exact⟨rfl,rfl⟩
 by_cases e42:k=42
 ·subst e42;go_enter func161,ntmps161;go_wp2_with fail;go_ret;exact⟨rfl,rfl⟩
 by_cases e43:k=43
 ·subst e43;go_enter func161,ntmps161;go_wp2_with fail;go_ret;exact⟨rfl,rfl⟩
 by_cases e44:k=44
 ·subst e44;go_enter func161,ntmps161;go_wp2_with fail;go_ret;exact⟨rfl,rfl⟩
 by_cases e45:k=45
 ·subst e45;go_enter func161,ntmps161;go_wp2_with fail;go_ret;exact⟨rfl,rfl⟩
 by_cases e46:k=46
 ·subst e46;go_enter func161,ntmps161;go_wp2_with fail;go_ret;exact⟨rfl,rfl⟩
 by_cases e47:k=47
 ·subst e47;go_enter func161,ntmps161;go_wp2_with fail;go_ret;exact⟨rfl,rfl⟩
 by_cases e48:k=48
 ·subst e48;go_enter func161,ntmps161;go_wp2_with fail;go_ret;exact⟨rfl,rfl⟩
 by_cases e49:k=49
 ·subst e49;go_enter func161,ntmps161;go_wp2_with fail;go_ret;exact⟨rfl,rfl⟩
 have x40:(k==40)=false:=by simpa using e40
 have x41:(k==41)=false:=by simpa using e41
 have x42:(k==42)=false:=by simpa using e42
 have x43:(k==43)=false:=by simpa using e43
 have x44:(k==44)=false:=by simpa using e44
 have x45:(k==45)=false:=by simpa using e45
 have x46:(k==46)=false:=by simpa using e46
 have x47:(k==47)=false:=by simpa using e47
 have x48:(k==48)=false:=by simpa using e48
 have x49:(k==49)=false:=by simpa using e49
 obtain⟨R,hR⟩:=zX (basB k);rw[hR];have HR:=zh (show R=false by rw[<-hR,basB];simp;omega);clear hR e40 e41 e42 e43 e44 e45 e46 e47 e48 e49;go_enter func161,ntmps161;go_wp2_with fail;go_ret;exact⟨by rw[HR.out];rfl,rfl⟩
theorem zsd(k:Int)(w:World):Calls prog 160 #[zj k] w fun e w'=>e=.returned (zj (zk5 k))/\w'=w:=by
 by_cases e40:k=40
 ·subst e40;go_enter func160,ntmps160;go_wp2_with fail;go_ret;exact⟨rfl,rfl⟩
 by_cases e41:k=41
 ·subst e41;go_enter func160,ntmps160;go_wp2_with fail;go_ret;exact⟨rfl,rfl⟩
 by_cases e44:k=44
 ·subst e44;go_enter func160,ntmps160;go_wp2_with fail;go_ret;exact⟨rfl,rfl⟩
 by_cases e45:k=45
 ·subst e45;go_enter func160,ntmps160;go_wp2_with fail;go_ret;exact⟨rfl,rfl⟩
 by_cases e46:k=46
 ·subst e46;go_enter func160,ntmps160;go_wp2_with fail;go_ret;exact⟨rfl,rfl⟩
 by_cases e47:k=47
 ·subst e47;go_enter func160,ntmps160;go_wp2_with fail;go_ret;exact⟨rfl,rfl⟩
 by_cases e48:k=48
 ·subst e48;go_enter func160,ntmps160;go_wp2_with fail;go_ret;exact⟨rfl,rfl⟩
 by_cases e49:k=49
 ·subst e49;go_enter func160,ntmps160;go_wp2_with fail;go_ret;exact⟨rfl,rfl⟩
 have x40:(k==40)=false:=by simpa using e40
 have x41:(k==41)=false:=by simpa using e41
 have x44:(k==44)=false:=by simpa using e44
 have x45:(k==45)=false:=by simpa using e45
 have x46:(k==46)=false:=by simpa using e46
 have x47:(k==47)=false:=by simpa using e47
 have x48:(k==48)=false:=by simpa using e48
 have x49:(k==49)=false:=by simpa using e49
 obtain⟨R,hR⟩:=zX (zk5 k);rw[hR];have HR:=zh (show R=k by rw[<-hR,zk5];rw[if_neg e40,if_neg e41,if_neg e44,if_neg e45,if_neg e46,if_neg e47,if_neg e48,if_neg e49]);clear hR e40 e41 e44 e45 e46 e47 e48 e49;go_enter func160,ntmps160;go_wp2_with fail;go_ret;exact⟨by rw[HR.out];rfl,rfl⟩
def OwnB{I:Type}(d:I->RowD)(b:Nat):Prop:=∃i,(d i).v.ownBlock=some b
structure Stp{I:Type}(n0:Nat)(d:I->RowD)(W:World)(d':I->RowD)(W':World):Prop where
 rws:Rws W' n0 d'
 chg:Chg (OwnB d) W W'
 own:∀b,OwnB d' b->OwnB d b\/W.heap.size<=b
section
variable {I:Type} {n0:Nat} {d d' d'':I->RowD} {W W' W'':World}
theorem Stp.refl(h:Rws W n0 d):Stp n0 d W d W:=⟨h,Chg.refl _ _,fun _ h=>.inl h⟩
theorem Stp.trans(h:Stp n0 d W d' W')(h':Stp n0 d' W' d'' W''):Stp n0 d W d'' W'' :=
 ⟨h'.rws,h.chg.trans2 h'.chg fun b hb hc=>(h.own b hc).elim id fun h=>zO,fun b hb=>(h'.own b hb).elim (h.own b) fun h2=>.inr (Nat.le_trans h.chg.size h2)⟩
theorem Stp.cast(h:Stp n0 d W d' W')(e:d'=d''):Stp n0 d W d'' W':=e▸h
theorem Stp.below(h:Stp n0 d W d' W')(hb:zw W' W''):Stp n0 d W d' W'' :=
 ⟨h.rws.later hb,h.chg.trans (Chg.of_below hb),h.own⟩
theorem Stp.after(h:Stp n0 d W' d' W'')(hb:zw W W')(hd:Rws W n0 d):Stp n0 d W d' W'' :=
 (Stp.below (Stp.refl hd) hb).trans h
variable [DecidableEq I]
theorem Stp.upd{i:I}{r:RowD}(h:Rws W n0 d)(hc:Chg (fun b=>(d i).v.ownBlock=some b) W W')(ho:W'.ownsRow n0 r.E r.sz r.v r.n r.xs)(aY:∀b,r.v.ownBlock=some b->(d i).v.ownBlock=some b\/W.heap.size<=b):Stp n0 d W (updR d i r) W' :=
 ⟨h.upd i hc ho aY,hc.mono fun b _ hb=>⟨i,hb⟩,fun b ⟨j,hj⟩=>by
  by_cases e:j=i
  ·subst e;rw[zky]at hj;exact(aY b hj).imp (fun h=>⟨j,h⟩) id
  ·rw[zkm e]at hj;exact .inl ⟨j,hj⟩⟩
theorem Stp.set{i:I}(h:Rws W n0 d){g:Nat}(hg:(d i).v.ownBlock=some g){o:Nat}(ho:o<(d i).xs.length)(u:Value):Stp n0 d W (updR d i { d i with xs:=(d i).xs.set o u }) (W.setCell ⟨g,o,none⟩ u) :=
 ⟨h.set i hg ho u,((Chg.refl _ _).setCell (.inl hg) u).mono fun b _ hb=>⟨i,hb⟩,fun b ⟨j,hj⟩=>by
  by_cases e:j=i
  ·subst e;rw[zky]at hj;exact .inl ⟨j,hj⟩
  ·rw[zkm e]at hj;exact .inl ⟨j,hj⟩⟩
end
theorem zK3:(prog.info? 169).map (fun i=>(i.zero,i.size,i.bytes))=some (some (.pointer none),1,8):=zK
theorem zwj(a0 a1 a2:Value)(w:World):(Instr.buildSlice 24 1 #[(0,.agg #[a0,a1,a2])]).run prog w=.ok (.slice (some ⟨w.heap.size,0,none⟩) 1 1) (w.alloc (.cells #[a0,a1,a2] 38)):=zK
theorem zyl(p:Option Addr)(w:World):(Instr.buildSlice 162 1 #[(0,.pointer p)]).run prog w=.ok (.slice (some ⟨w.heap.size,0,none⟩) 1 1) (w.alloc (.cells #[.pointer p] 169)):=zK
theorem zso{I:Type}[DecidableEq I]{n0:Nat}{d:I->RowD}{W:World}(h:Rws W n0 d)(i0 iv ic:I)(h01:i0≠iv)(h02:i0≠ic)(h12:iv≠ic)(b o:Nat)(hb:(d i0).v.ownBlock=some b)
  (hov:(d i0).xs[o]?=some (d iv).v)(hoc:(d i0).xs[o+1]?=some (d ic).v)(xs ys:List Value)(m:Nat)(hiv:d iv=⟨(d iv).v,38,3,m,xs⟩)(hic:d ic=⟨(d ic).v,169,1,m,ys⟩)(hm:m<=4398046511000)
  (v:VD)(q:Option Addr) :
  Calls prog 104 #[.pointer (some ⟨b,o,none⟩),.agg #[.string v.s,zj v.k,zi v.n],.pointer q] W fun e W'=>(∃u,e=.returned u)/\∃vv vc,
   Stp n0 d W (updR (updR (updR d iv ⟨vv,38,3,m+1,xs++[.string v.s,zj v.k,zi v.n]⟩) ic ⟨vc,169,1,m+1,ys++[.pointer q]⟩) i0 { d i0 with xs:=((d i0).xs.set o vv).set (o+1) vc }) W':=by
 obtain⟨i1,hi1,hz0,hz1,hz2⟩:=info_parts zuu;obtain⟨i2,hi2,hy0,hy1,hy2⟩:=info_parts zK3;have fU:=h.row iv;rw[hiv]at fU;have hrc:=h.row ic;rw[hic]at hrc;obtain⟨A1,c1,e1,-⟩:=zkh fU;obtain⟨A2,c2,e2,-⟩:=zkh hrc;dsimp only at e1 e2 fU hrc;have x0:W.cell? ⟨b,o,none⟩=some (.slice A1 m c1):=by rw[<-e1];exact h.cell i0 hb hov
 have x1:W.cell? ⟨b,o+1,none⟩=some (.slice A2 m c2):=by rw[<-e2];exact h.cell i0 hb hoc
 have hbf:=h.frozen i0 hb;have HR:=zh h;have hb1:=zwj;have hb2:=zyl;clear h;go_enter func104,ntmps104;go_upto_region 1 with fail;have hvb:=heap_alloc_new W (.cells #[.string v.s,zj v.k,zi v.n] 38);obtain⟨W1,hW1⟩:=zX (W.alloc (.cells #[.string v.s,zj v.k,zi v.n] 38));have q1:zw W W1:=hW1▸zkb zr _;have hzW:W1.heap.size=W.heap.size+1:=by rw[<-hW1];simp
 rw[hW1]at hvb ⊢;have HR1:=zh (HR.out.later q1);have bI:=zh q1;have g0:W1.cell? ⟨b,o,none⟩=some (.slice A1 m c1):=zb q1 x0;have g1:W1.cell? ⟨b,o+1,none⟩=some (.slice A2 m c2):=zb q1 x1;have v0:W1.cell? ⟨W.heap.size,0,none⟩=some (.string v.s):=zc hvb rfl;have v1:W1.cell? ⟨W.heap.size,1,none⟩=some (zj v.k):=zc hvb rfl;have v2:W1.cell? ⟨W.heap.size,2,none⟩=some (zi v.n):=zc hvb rfl;clear hW1 q1 x0 x1 hbf;have hSS:(fun w':World=>zN3 w' W.heap.size (.string v.s) (zj v.k) (zi v.n)) W1.drew/\(fun w':World=>zv w' b o (.slice A1 m c1)) W1.drew:=⟨⟨v0,v1,v2⟩,g0⟩
 refine wp_region_noPanic ?_;refine zkl (fun w':World=>zN3 w' W.heap.size (.string v.s) (zj v.k) (zi v.n)) (fun w':World=>zv w' b o (.slice A1 m c1)) 7 zK ?_;refine zT 0 hSS ?_;refine zT 1 hSS ?_;refine zT 2 hSS ?_;refine zT 3 hSS ?_;refine zJ 4 hSS ?_;refine zT 5 hSS ?_;refine zo 6 fun K hK=>?_;(try simp only[zA,zB,zC]);go_simp;refine hK.out _ _ ⟨⟨zkj v0 _,zkj v1 _,zkj v2 _⟩,zkj g0 _⟩ ?_;clear hK K hSS;(try simp only[zQ]);obtain⟨W2,hW2⟩:=zX ((W1.alloc (.cells #[.string v.s,zj v.k,zi v.n] 38)).drew);have q2:zw W1 W2:=hW2▸(zkb zr _).drew;have hzW2:W2.heap.size=W1.heap.size+1:=by rw[<-hW2];simp
 have aF:=zh (show ∀j u,[Value.string v.s,zj v.k,zi v.n][j]?=some u->W2.cell? ((⟨W.heap.size+1,0,none⟩:Addr).add j)=some u from hzW▸hW2▸zkU W1 38 [.string v.s,zj v.k,zi v.n]);have HR2:=HR1.out.later q2;have hrv2:W2.ownsRow n0 38 3 (.slice A1 m c1) m xs:=by have:=HR2.row iv;rw[hiv]at this;rw[<-e1];exact this
 have w0:W2.cell? ⟨W.heap.size,0,none⟩=some (.string v.s):=zb q2 v0;have w1:W2.cell? ⟨W.heap.size,1,none⟩=some (zj v.k):=zb q2 v1;have w2:W2.cell? ⟨W.heap.size,2,none⟩=some (zi v.n):=zb q2 v2;have hn0:=(HR.out.lt i0 b hb)
 rw[hW2];clear hW2 v0 v1 v2 g0 g1 hvb;refine zp 7 fun K hK=>?_;refine zkY zR (.tmp 10) (.tmp 12) 24 zR n0 38 i1 _ 3 32 underlying24 hi1 hz0 hz1 hz2 rfl zY (.slice A1 m c1) m xs zR hrv2 ⟨W.heap.size+1,0,none⟩ 1 1 [.string v.s,zj v.k,zi v.n] zR rfl aF.out (by intro u hu;simp at hu;rcases hu with rfl|rfl|rfl<;>rfl) (by unfold maxLen;omega) zO zO ?_;intro vv w3 h2 h3 h5;obtain⟨g8,aA,rfl⟩:=ownsRow_succ h2;have st1:Stp n0 d W2 (updR d iv ⟨.slice (some ⟨g8,0,none⟩) (m+1) aA,38,3,m+1,xs++[.string v.s,zj v.k,zi v.n]⟩) w3:=by
  refine Stp.upd (i:=iv) HR2 ((Chg.row h3).mono fun b' _ hb'=>by rw[e1];exact hb') h2 (fun b' hb'=>?_);rw[e1];rcases h5 with h5|h5
  ·exact .inl (h5▸hb')
  ·exact .inr (by rw[h5]at hb';injection hb' with hb';omega)
 have hd0:updR d iv ⟨.slice (some ⟨g8,0,none⟩) (m+1) aA,38,3,m+1,xs++[.string v.s,zj v.k,zi v.n]⟩ i0=d i0:=zkm h01;have z0:w3.cell? ⟨b,o,none⟩=some (.slice A1 m c1):=by rw[<-e1];exact st1.rws.cell i0 (by rw[hd0];exact hb) (by rw[hd0];exact hov)
 have zf:w3.frozen? ⟨b,o,none⟩=false:=st1.rws.frozen i0 (by rw[hd0];exact hb) o;have hol:o<(d i0).xs.length:=(List.getElem?_eq_some_iff.1 hov).1;have hol1:o+1<(d i0).xs.length:=(List.getElem?_eq_some_iff.1 hoc).1;have st2:=Stp.set (i:=i0) st1.rws (g:=b) (by rw[hd0];exact hb) (o:=o) (by rw[hd0];exact hol) (.slice (some ⟨g8,0,none⟩) (m+1) aA);rw[hd0]at st2;have yI:∀b',(Value.slice A1 m c1).ownBlock=some b'->b'≠W.heap.size:=fun b' hb' e=>by
  have:=(HR.out.lt iv b' (by rw[e1];exact hb')).2;omega
 have y0:w3.cell? ⟨W.heap.size,0,none⟩=some (.string v.s):=(World.cell?_of_block (a:=⟨W.heap.size,0,none⟩) (h3.block _ (by show W.heap.size<_;omega) (fun e=>yI _ e.symm rfl))).trans w0;have y1:w3.cell? ⟨W.heap.size,1,none⟩=some (zj v.k):=(World.cell?_of_block (a:=⟨W.heap.size,1,none⟩) (h3.block _ (by show W.heap.size<_;omega) (fun e=>yI _ e.symm rfl))).trans w1;have y2:w3.cell? ⟨W.heap.size,2,none⟩=some (zi v.n):=(World.cell?_of_block (a:=⟨W.heap.size,2,none⟩) (h3.block _ (by show W.heap.size<_;omega) (fun e=>yI _ e.symm rfl))).trans w2;have HST:=zh ((st1.trans st2).after (zka bI.out q2) HR.out);have HY:=zh (show(fun w':World=>zN3 w' W.heap.size (.string v.s) (zj v.k) (zi v.n)) w3 from⟨y0,y1,y2⟩);have hbW:b≠W.heap.size:=zO
 have xQ:=zh (show(fun w':World=>zN3 w' W.heap.size (.string v.s) (zj v.k) (zi v.n)) (w3.setCell ⟨b,o,none⟩ (.slice (some ⟨g8,0,none⟩) (m+1) aA))from by
  have key:∀i u,w3.cell? ⟨W.heap.size,i,none⟩=some u->(w3.setCell ⟨b,o,none⟩ (.slice (some ⟨g8,0,none⟩) (m+1) aA)).cell? ⟨W.heap.size,i,none⟩=some u:=fun i u hu=>(World.cell?_of_block (a:=⟨W.heap.size,i,none⟩) (Below.heap_setCell _ _ _ _ (Ne.symm hbW))).trans hu;exact⟨key _ _ y0,key _ _ y1,key _ _ y2⟩)
 refine hK.out _ _ HY.out ?_;clear hK K h2 h3 h5 st1 st2 w0 w1 w2 hrv2 HR2 q2 aF bI HR1 y0 y1 y2;(try simp only[zQ]);refine zp 8 fun K hK=>?_;(try simp only[zA,zB,zC]);go_simp;refine hK.out _ _ HY.out ?_;clear hK K;(try simp only[zQ]);refine zp 9 fun K hK=>?_;(try simp only[zA,zB,zC]);go_simp;refine hK.out _ _ HY.out ?_;clear hK K;(try simp only[zQ]);refine zp 10 fun K hK=>?_;(try simp only[zA,zB,zC]);go_simp;refine hK.out _ _ xQ.out ?_;clear hK K;(try simp only[zQ]);refine zd ?_;refine NoPanic.normal ?_;clear HY xQ z0 zf;obtain⟨W4,tO⟩:=zX (w3.setCell ⟨b,o,none⟩ (.slice (some ⟨g8,0,none⟩) (m+1) aA));rw[tO]at HST ⊢;obtain⟨d2,hd2⟩:=zX (updR (updR d iv ⟨.slice (some ⟨g8,0,none⟩) (m+1) aA,38,3,m+1,xs++[.string v.s,zj v.k,zi v.n]⟩) i0 { d i0 with xs:=(d i0).xs.set o (.slice (some ⟨g8,0,none⟩) (m+1) aA) });rw[hd2]at HST
 have sV:d2 ic=d ic:=by rw[<-hd2,zkm (Ne.symm h02),zkm (Ne.symm h12)]
 have pF:d2 i0={ d i0 with xs:=(d i0).xs.set o (.slice (some ⟨g8,0,none⟩) (m+1) aA) }:=by rw[<-hd2,zky]
 have g1:W4.cell? ⟨b,o+1,none⟩=some (.slice A2 m c2):=by
  rw[<-e2];exact HST.out.rws.cell i0 (by rw[pF];exact hb) (by rw[pF];show((d i0).xs.set o _)[o+1]?=_;rw[List.getElem?_set_ne zO];exact hoc)
 have HD2:=zh hd2;clear tO hd0 hd2;obtain⟨W5,hW5⟩:=zX (W4.alloc (.cells #[.pointer q] 169));have q5:zw W4 W5:=hW5▸zkb zr _;have HN5:=zh (show ∀j u,[Value.pointer q][j]?=some u->W5.cell? ((⟨W4.heap.size,0,none⟩:Addr).add j)=some u from hW5▸zkU W4 169 [.pointer q]);have nH:=HST.out.rws.later q5;have hrc5:W5.ownsRow n0 169 1 (.slice A2 m c2) m ys:=by have:=nH.row ic;rw[sV,hic]at this;rw[<-e2];exact this
 have hs5:=q5.size;have hs4:=HST.out.chg.size;have e2':(d2 ic).v=.slice A2 m c2:=by rw[sV];exact e2
 have HKEY:=zh (show ∀(g9 dw:Nat) (w6:World),w6.ownsRow n0 169 1 (.slice (some ⟨g9,0,none⟩) (m+1) dw) (m+1) (ys++[.pointer q])->W5.grownBy w6 (Value.slice A2 m c2).ownBlock->((Value.slice (some ⟨g9,0,none⟩) (m+1) dw).ownBlock=(Value.slice A2 m c2).ownBlock\/(Value.slice (some ⟨g9,0,none⟩) (m+1) dw).ownBlock=some W5.heap.size) ->
   w6.cell? ⟨b,o+1,none⟩=some (.slice A2 m c2)/\w6.frozen? ⟨b,o+1,none⟩=false/\Stp n0 d W (updR (updR d2 ic ⟨.slice (some ⟨g9,0,none⟩) (m+1) dw,169,1,m+1,ys++[.pointer q]⟩) i0 { d i0 with xs:=((d i0).xs.set o (.slice (some ⟨g8,0,none⟩) (m+1) aA)).set (o+1) (.slice (some ⟨g9,0,none⟩) (m+1) dw) }) (w6.setCell ⟨b,o+1,none⟩ (.slice (some ⟨g9,0,none⟩) (m+1) dw))from fun g9 dw w6 h2 h3 h5=>by
  have st1:Stp n0 d2 W5 (updR d2 ic ⟨.slice (some ⟨g9,0,none⟩) (m+1) dw,169,1,m+1,ys++[.pointer q]⟩) w6:=by
   refine Stp.upd (i:=ic) nH ((Chg.row h3).mono fun b' _ hb'=>by rw[e2'];exact hb') h2 (fun b' hb'=>?_);rw[e2'];rcases h5 with h5|h5
   ·exact .inl (h5▸hb')
   ·exact .inr (by rw[h5]at hb';injection hb' with hb';omega)
  have hd0:updR d2 ic ⟨.slice (some ⟨g9,0,none⟩) (m+1) dw,169,1,m+1,ys++[.pointer q]⟩ i0={ d i0 with xs:=(d i0).xs.set o (.slice (some ⟨g8,0,none⟩) (m+1) aA) }:=(zkm h02).trans pF;have z0:w6.cell? ⟨b,o+1,none⟩=some (.slice A2 m c2):=by
   rw[<-e2];exact st1.rws.cell i0 (by rw[hd0];exact hb) (by rw[hd0];show((d i0).xs.set o _)[o+1]?=_;rw[List.getElem?_set_ne zO];exact hoc)
  have zf:w6.frozen? ⟨b,o+1,none⟩=false:=st1.rws.frozen i0 (by rw[hd0];exact hb) (o+1);have st2:=Stp.set (i:=i0) st1.rws (g:=b) (by rw[hd0];exact hb) (o:=o+1) (by rw[hd0];simpa using hol1) (.slice (some ⟨g9,0,none⟩) (m+1) dw);rw[hd0]at st2;exact⟨z0,zf,HST.out.trans ((st1.trans st2).after q5 HST.out.rws)⟩)
 clear nH q5 sV pF e2' yI;go_wp2_with (at_builtin;refine wpList_append_own_at (P:=prog) _ rfl (.tmp 20) (.tmp 22) 162 rfl n0 169 i2 _ 1 8 underlying162 hi2 hy0 hy1 hy2 rfl zY (.slice A2 m c2) m ys rfl hrc5 ⟨W4.heap.size,0,none⟩ 1 1 [.pointer q] rfl rfl HN5.out (by intro u hu;simp at hu;rw[hu];rfl) (by unfold maxLen;omega) zO zO ?_;intro vc w6 h2 h3 h4 h5;obtain⟨g9,dw,rfl⟩:=ownsRow_succ h2;obtain⟨z0,zf,hfin⟩:=HKEY.out g9 dw w6 h2 h3 h5;have aX:=zh hfin;clear h2 h3 h4 h5 hfin)
 go_end0;refine⟨⟨_,rfl⟩,.slice (some ⟨g8,0,none⟩) (m+1) aA,.slice (some ⟨g9,0,none⟩) (m+1) dw,?_⟩;have:=aX.out;rw[<-HD2.out]at this;refine this.cast ?_;funext j;by_cases j0:j=i0
 ·subst j0;simp
 ·simp only[updR,j0,if_false]
theorem zKk(a0 a1:Value)(w:World)(h0:∃A l c,a0=.slice A l c)(h1:∃A l c,a1=.slice A l c):(Instr.build 188 #[(0,a0),(1,a1)]).run prog w=.ok (.agg #[a0,a1]) w:=by
 obtain⟨A,l,c,rfl⟩:=h0;obtain⟨A',l',c',rfl⟩:=h1
 kernel_rfl
theorem zyA(xs ys:List Int)(A B:Option Addr)(c d:Nat)(w:World)(hx:RowI w Any A xs)(hy:RowI w Any B ys)(hl:xs.length<=4096)(hm:ys.length<=4096) :
  Calls prog 103 #[.slice A xs.length c,.slice B ys.length d] w fun e w'=>∃tb vI vO,e=.returned (.tuple #[.pointer (some ⟨tb,0,none⟩),zi 0])/\w.heap.size<=tb/\w'.heap[tb]?=some (.cells #[vI,vO] 188 (0,0)) /\
   w'.ownsRow w.heap.size 3 1 vI xs.length (zki xs)/\w'.ownsRow w.heap.size 3 1 vO ys.length (zki ys)/\vI.ownBlock≠some tb/\vO.ownBlock≠some tb/\(∀b,vI.ownBlock=some b->vO.ownBlock≠some b)/\zw w w':=by
 have hxl:¬ (4096:Int)<(xs.length:Int):=zO
 have hyl:¬ (4096:Int)<(ys.length:Int):=zO
 have HX:=zh (fun w' (hb:zw w w')=>zkT xs A c Any w' (hx.later hb) (by unfold LI;omega));have HY:=zh (fun w' (hb:zw w w')=>zkT ys B d Any w' (hy.later hb) (by unfold LI;omega));obtain⟨n,hn⟩:=zX (xs.length);obtain⟨m,hm'⟩:=zX (ys.length);rw[hn,hm'];rw[hn]at hxl HX;rw[hm']at hyl HY;have HN:=zh hn;have HM:=zh hm';clear hx hy hn hm' hl hm;go_enter func103,ntmps103;go_wp2_with fail;refine(HX.out _ zr).mono ?_;rintro e w1 ⟨v1,rfl,ho1,hf1,aa⟩;rw[HN.out]at ho1;obtain⟨A1,c1,rfl,-⟩:=zkh ho1;have HO1:=zh ho1;have HB1:=zh aa;clear ho1 aa;go_wp2_with fail;refine(HY.out _ HB1.out).mono ?_;rintro e w2 ⟨v2,rfl,ho2,hf2,aj⟩;rw[HM.out]at ho2;obtain⟨A2,c2,rfl,-⟩:=zkh ho2;have Cm:=zh ho2;have HB2:=zh aj;have hbt:=fun w=>zKk (.slice A1 n c1) (.slice A2 m c2) w ⟨_,_,_,rfl⟩ ⟨_,_,_,rfl⟩;clear ho2 aj;go_wp2_with fail;go_ret2
 have h1:=zkK HO1.out HB2.out;have hs1:=HB1.out.size;have hs2:=HB2.out.size;refine⟨w2.heap.size,.slice A1 n c1,.slice A2 m c2,rfl,zO,heap_alloc_new w2 _,?_,?_,fun e=>?_,fun e=>?_,fun b e1 e2=>?_,zkb (zka HB1.out HB2.out) _⟩
 ·exact h1.alloc _
 ·obtain⟨x1,x2⟩:=Cm.out.alloc (.cells #[.slice A1 n c1,.slice A2 m c2] 188);refine⟨x1,?_⟩;rcases x2 with x2|⟨g,cap,cur,y1,y2,y3⟩
  ·exact .inl x2
  ·exact .inr ⟨g,cap,cur,y1,zO,y3⟩
 ·have:=(h1.lt _ e).2;omega
 ·have:=(Cm.out.lt _ e).2;omega
 ·have:=(HO1.out.lt _ e1).2;have:=(Cm.out.lt _ e2).1;omega
theorem zKF{W:World}{n0:Nat}{P:Ph}{S:ST}(h:SR W n0 P S):Calls prog 109 #[.pointer (some ⟨P.tb,0,none⟩)] W (OwnI W S.tin):=by
 obtain⟨A,c,hv,hc,hr⟩:=zrX (h.rws.row .tin) h.wf.tin.2;have hv':P.vI=.slice A S.tin.length c:=hv;have x0:W.cell? ⟨P.tb,0,none⟩=some (.slice A S.tin.length c):=by rw[<-hv'];exact zc h.tbox rfl
 have HC:=zh (zkT S.tin A c Any W hr (by have:=h.wf.tin.1;unfold LI;omega));obtain⟨n,hn⟩:=zX (S.tin.length);rw[hn]at x0 HC;clear h hv hv' hr hn hc;go_enter func109,ntmps109;go_wp2_with fail;refine HC.out.mono ?_;rintro e w1 ⟨v1,rfl,h1⟩;have H1:=zh h1;obtain⟨A1,c1,rfl,-⟩:=zkh h1.1;clear h1;go_wp2_with fail;go_ret;exact⟨_,rfl,H1.out⟩
theorem zyz{W:World}{n0:Nat}{P:Ph}{S:ST}(h:SR W n0 P S):Calls prog 110 #[.pointer (some ⟨P.tb,0,none⟩)] W (OwnI W S.tout):=by
 obtain⟨A,c,hv,hc,hr⟩:=zrX (h.rws.row .tout) h.wf.tout.2;have hv':P.vO=.slice A S.tout.length c:=hv;have x0:W.cell? ⟨P.tb,1,none⟩=some (.slice A S.tout.length c):=by rw[<-hv'];exact zc h.tbox rfl
 have HC:=zh (zkT S.tout A c Any W hr (by have:=h.wf.tout.1;unfold LI;omega));obtain⟨n,hn⟩:=zX (S.tout.length);rw[hn]at x0 HC;clear h hv hv' hr hn hc;go_enter func110,ntmps110;go_wp2_with fail;refine HC.out.mono ?_;rintro e w1 ⟨v1,rfl,h1⟩;have H1:=zh h1;obtain⟨A1,c1,rfl,-⟩:=zkh h1.1;clear h1;go_wp2_with fail;go_ret;exact⟨_,rfl,H1.out⟩
def zLF(W:World)(S:ST)(s:ByteArray)(e:Ending)(W':World):Prop:=∃v l b,e=.returned (.tuple #[v,.bool b])/\S.look s=(if b=true then some l else none)/\(b=false->l=[])/\W'.ownsRow W.heap.size 3 1 v l.length (zki l)/\(∀x∈l,I64 x)/\zw W W'
theorem zww{W:World}{n0:Nat}{P:Ph}{S:ST}(h:SR W n0 P S)(s:ByteArray):Calls prog 167 #[.pointer (some ⟨P.sb,0,none⟩),.string s] W (zLF W S s):=by
 have zm:=zh (zpC h s);have qB:=zh ((zvg n0 P S h.wf).fits s);clear h;go_enter func167,ntmps167;go_wp2_with fail;refine zm.out.mono ?_;rintro e w1 ⟨aa,hr⟩;have HB1:=zh aa;clear aa;rcases hr with⟨hno,A,c,rfl⟩|⟨l,A,c,hso,rfl,aT⟩
 ·have bS:=zh hno;have dJ:=zh (zkT [] A c Any w1 (fun i hi=>by simp at hi) (by simp[LI]));clear hno;simp only[List.length_nil]at dJ;go_wp2_with fail;refine dJ.out.mono ?_;rintro e w2 ⟨v2,rfl,ho2,hf2,aj⟩;obtain⟨A2,c2,rfl,-⟩:=zkh ho2;have HO:=zh ho2;have HB2:=zh aj;clear ho2 aj;go_wp2_with fail;go_ret2;refine⟨.slice A2 0 c2,[],false,rfl,bS.out,fun _=>rfl,?_,zS,zka HB1.out HB2.out⟩;obtain⟨x1,x2⟩:=HO.out;refine⟨x1,?_⟩;rcases x2 with x2|⟨g,cap,cur,y1,y2,y3⟩
  ·exact .inl x2
  ·exact .inr ⟨g,cap,cur,y1,by have:=HB1.out.size;omega,y3⟩
 ·have hll:=qB.out l hso;have nA:=zh hso;have dJ:=zh (zkT l A c Any w1 aT (by unfold LI;omega));clear hso aT;go_wp2_with fail;refine dJ.out.mono ?_;rintro e w2 ⟨v2,rfl,ho2,hf2,aj⟩;obtain⟨A2,c2,rfl,-⟩:=zkh ho2;have HO:=zh ho2;have vL:=zh hf2;have HB2:=zh aj;clear ho2 aj hf2;go_wp2_with fail;go_ret2;refine⟨.slice A2 l.length c2,l,true,rfl,nA.out,(fun h=>by cases h),?_,vL.out,zka HB1.out HB2.out⟩;obtain⟨x1,x2⟩:=HO.out;refine⟨x1,?_⟩;rcases x2 with x2|⟨g,cap,cur,y1,y2,y3⟩
  ·exact .inl x2
  ·exact .inr ⟨g,cap,cur,y1,by have:=HB1.out.size;omega,y3⟩
structure SStp(n0:Nat)(P:Ph)(S:ST)(W:World)(P':Ph)(S':ST)(W':World):Prop where
 st:Stp n0 (rows P S) W (rows P' S') W'
 wf:S'.WF
theorem SStp.sr{n0:Nat}{P P':Ph}{S S':ST}{W W':World}(h:SStp n0 P S W P' S' W'):SR W' n0 P' S':=⟨h.st.rws,h.wf⟩
theorem SStp.trans{n0:Nat}{P P' P'':Ph}{S S' S'':ST}{W W' W'':World}(h:SStp n0 P S W P' S' W')(h':SStp n0 P' S' W' P'' S'' W''):SStp n0 P S W P'' S'' W'':=⟨h.st.trans h'.st,h'.wf⟩
theorem SStp.refl{n0:Nat}{P:Ph}{S:ST}{W W':World}(h:SR W n0 P S)(hb:zw W W'):SStp n0 P S W P S W':=⟨(Stp.refl h.rws).below hb,h.wf⟩
theorem zmb(w:World)(n0:Nat):w.ownsRow n0 nilR.E nilR.sz nilR.v nilR.n nilR.xs:=⟨rfl,.inl ⟨rfl,rfl⟩⟩
theorem Stp.drop{I:Type}[DecidableEq I]{n0:Nat}{d:I->RowD}{W:World}(h:Rws W n0 d)(i:I):Stp n0 d W (updR d i nilR) W :=
 Stp.upd h (Chg.refl _ _) (zmb W n0) (fun b hb=>by simp[nilR,Value.ownBlock]at hb)
theorem zlA{P P':Ph}(h1:P'.fV=P.fV)(h2:P'.fC=P.fC):∀(fs:List FR) (i:Nat),zkV P' i fs=zkV P i fs
 | [],_=>rfl
 | f::fs,i=>by simp[zkV,h1,h2,zlA h1 h2 fs]
theorem zpM(P:Ph):∀(fs:List FR) (i m:Nat),(zkV P i fs).take (m*3)=zkV P i (fs.take m)
 | [],i,m=>by simp[zkV]
 | f::fs,i,0=>by simp[zkV]
 | f::fs,i,m+1=>by
  rw[show(m+1)*3=m*3+1+1+1 by omega];simp only[zkV,List.take_succ_cons,zpM P fs (i+1) m]
def zlL(S:ST):Int×ST:=if S.calls.length=0\/0<S.cur.loc then(20,S)else(0,{ S with calls:=S.calls.take (S.calls.length-1) })
theorem ztt{S:ST}(h:S.WF):({ S with calls:=S.calls.take (S.calls.length-1) }:ST).WF:=by
 obtain⟨kd,h1,h2,h3⟩:=h.ex;exact⟨⟨kd,h1,fun f hf=>h2 f (List.mem_of_mem_take hf),h3⟩,by have:=h.ncalls;simp;omega,h.cells,h.tin,h.tout⟩
theorem ztQ{W:World}{n0:Nat}{P:Ph}{S:ST}(h:SR W n0 P S)(m c:Nat)(hm:S.calls.length=m+1)(hv:P.vF=.slice (some ⟨P.gF,0,none⟩) (m+1) c) :
  SStp n0 P S W { P with vF:=.slice (some ⟨P.gF,0,none⟩) m c } { S with calls:=S.calls.take (S.calls.length-1) } (W.setCell ⟨P.sb,3,none⟩ (.slice (some ⟨P.gF,0,none⟩) m c)):=by
 refine⟨?_,ztt h.wf⟩;have hrow:W.ownsRow n0 164 3 P.vF S.calls.length (zkV P 0 S.calls):=h.rws.row .calls;have oU:W.ownsRow n0 164 3 (.slice (some ⟨P.gF,0,none⟩) m c) m (zkV P 0 (S.calls.take m)):=by
  rw[hv,hm]at hrow;have e1:zkV P 0 S.calls=zkV P 0 (S.calls.take m)++(zkV P 0 S.calls).drop (m*3):=by rw[<-zpM,List.take_append_drop]
  rw[e1]at hrow;exact ownsRow_pop (by rw[zoZ];simp[hm]) hrow
 have st1:Stp n0 (rows P S) W (updR (rows P S) .calls ⟨.slice (some ⟨P.gF,0,none⟩) m c,164,3,m,zkV P 0 (S.calls.take m)⟩) W :=
  Stp.upd h.rws (Chg.refl _ _) oU (fun b hb=>.inl (by show P.vF.ownBlock=some b;rw[hv];exact hb))
 have st2:=Stp.set (i:=Res.sb) st1.rws (g:=P.sb) (by rw[zkm zS];rfl) (o:=3) (by rw[zkm zS];simp[rows]) (.slice (some ⟨P.gF,0,none⟩) m c);have st3:=Stp.drop st2.rws (Res.fv m);have st4:=Stp.drop st3.rws (Res.fc m);refine(((st1.trans st2).trans st3).trans st4).cast ?_;have hm1:S.calls.length-1=m:=zO
 funext r
 cases r with
 | fv i =>
  by_cases e:i=m
  ·subst e;have h2:(S.calls.take (S.calls.length-1))[i]?=none:=List.getElem?_eq_none (by rw[List.length_take];omega);simp[updR,rows,nilR,h2]
  ·simp only[updR,Res.fv.injEq,e,reduceCtorEq,if_false,rows,hm1];by_cases hi:i<m
   ·simp[hi]
   ·have h1:S.calls[i]?=none:=List.getElem?_eq_none zO;have h2:(S.calls.take m)[i]?=none:=List.getElem?_eq_none (by rw[List.length_take];omega);rw[h1,h2]
 | fc i =>
  by_cases e:i=m
  ·subst e;have h2:(S.calls.take (S.calls.length-1))[i]?=none:=List.getElem?_eq_none (by rw[List.length_take];omega);simp[updR,rows,nilR,h2]
  ·simp only[updR,Res.fc.injEq,e,reduceCtorEq,if_false,rows,hm1];by_cases hi:i<m
   ·simp[hi]
   ·have h1:S.calls[i]?=none:=List.getElem?_eq_none zO;have h2:(S.calls.take m)[i]?=none:=List.getElem?_eq_none (by rw[List.length_take];omega);rw[h1,h2]
 | calls =>
  simp only[updR,reduceCtorEq,if_false,if_true,rows,hm1];simp only[List.length_take,hm];rw[zlA (P:=P) (P':={ P with vF:=.slice (some ⟨P.gF,0,none⟩) m c }) rfl rfl];simp
 | sb=>simp[updR,rows]
 | tb=>simp[updR,rows]
 | tin=>simp[updR,rows]
 | tout=>simp[updR,rows]
 | bv=>simp[updR,rows]
 | bc=>simp[updR,rows]
 | cb i=>simp[updR,rows]
 | ci i=>simp[updR,rows]
 | x i=>simp[updR,rows]
theorem zwz{W:World}{n0:Nat}{P:Ph}{S:ST}(h:SR W n0 P S):Calls prog 159 #[.pointer (some ⟨P.sb,0,none⟩)] W fun e W'=>e=.returned (zi (zlL S).1)/\∃P',SStp n0 P S W P' (zlL S).2 W'/\P'.sb=P.sb:=by
 obtain⟨A,c,og,hc,h2⟩:=h.calls;have hx:W.cell? ⟨P.sb,3,none⟩=some (.slice A S.calls.length c):=by rw[<-og];exact zc h.box rfl
 have hfz:W.frozen? ⟨P.sb,3,none⟩=false:=zf h.box;have tq:=h.wf.ncalls;have HS:=zh h;have cK:=zh (zlm h);obtain⟨h3,h4,h5⟩:=h.cur3;obtain⟨L,hL⟩:=zX (S.calls.length);obtain⟨lc,hlc⟩:=zX (S.cur.loc);obtain⟨cp,hcp⟩:=zX (curP P S);rw[hcp]at h5 cK;rw[hlc]at h5;obtain⟨R,hR⟩:=zX (zlL S);rw[hR];have HR:=zh (show R=if L=0\/0<lc then(20,S)else(0,{ S with calls:=S.calls.take (S.calls.length-1) }) by rw[<-hR,zlL,hL,hlc]);have ng:=zh og;have HL:=zh hL;have H2:=zh h2;rw[hL]at hx tq;rw[hL]at hc;clear h og h2 h3 h4 hL hlc hcp hR;rcases Nat.eq_zero_or_pos L with h0|h0
 ·subst h0;have HX:=zh (show R=(20,S) by rw[HR.out,if_pos (.inl rfl)]);clear HR;go_enter func159,ntmps159;go_wp2_with fail;go_ret;exact⟨by rw[HX.out];rfl,P,by rw[HX.out];exact SStp.refl HS.out zr,rfl⟩
 ·obtain⟨m,rfl⟩:∃m,L=m+1:=⟨L-1,zO⟩
  obtain⟨rfl,-⟩:=H2.out (by rw[HL.out];exact h0);by_cases hl:0<lc
  ·have HX:=zh (show R=(20,S) by rw[HR.out,if_pos (.inr hl)]);have hl':(0:Int)<(lc:Int):=zO
   clear HR;go_enter func159,ntmps159;go_wp2_with fail;refine cK.out.mono ?_;rintro e w1 ⟨rfl,rfl⟩;go_wp2_with fail;go_ret;exact⟨by rw[HX.out];rfl,P,by rw[HX.out];exact SStp.refl HS.out zr,rfl⟩
  ·obtain rfl:lc=0:=zO
   have HX:=zh (show R=(0,{ S with calls:=S.calls.take (S.calls.length-1) }) by rw[HR.out,if_neg zO]);have qZ:=zh (ztQ (HS.out.later zr.drew) m c HL.out (by rw[ng.out,HL.out]));clear HR;go_enter func159,ntmps159;go_wp2_with fail;refine cK.out.mono ?_;rintro e w1 ⟨rfl,rfl⟩;go_upto_region 5 with fail;have hSS:zU w1.drew/\(fun w':World=>zv w' P.sb 3 (.slice (some ⟨P.gF,0,none⟩) (m+1) c)) w1.drew:=⟨trivial,hx⟩
   have hm1:(m:Int)<=(c:Int):=zO
   have hm0:(0:Int)<=(m:Int):=zO
   have hw1:IntKind.i64.wrap (m:Int)=(m:Int):=IntWalk.i64_in _ zO;refine wp_region_noPanic ?_;refine zkl zU (fun w':World=>zv w' P.sb 3 (.slice (some ⟨P.gF,0,none⟩) (m+1) c)) 14 zK ?_;refine zT 0 hSS ?_;refine zT 1 hSS ?_;refine zT 2 hSS ?_;refine zT 3 hSS ?_;refine zJ 4 hSS ?_;refine zT 5 hSS ?_;refine zT 6 hSS ?_;refine zT 7 hSS ?_;refine zJ 8 hSS ?_;refine zT 9 hSS ?_;refine zT 10 hSS ?_;refine zT 11 hSS ?_;refine zT 12 hSS ?_;refine zT 13 hSS ?_;refine zp 14 fun K hK=>?_;(try simp only[zA,zB,zC]);have hx1:w1.drew.cell? ⟨P.sb,3,none⟩=some (.slice (some ⟨P.gF,0,none⟩) (m+1) c):=hx;have hfz1:w1.drew.frozen? ⟨P.sb,3,none⟩=false:=hfz;go_simp;refine hK.out _ _ trivial ?_;clear hK K hSS hx1 hfz1;(try simp only[zQ]);refine zd ?_;refine NoPanic.normal ?_;clear hx hfz;go_wp2_with fail;go_ret
   refine⟨by rw[HX.out];rfl,{ P with vF:=.slice (some ⟨P.gF,0,none⟩) m c },?_,rfl⟩;rw[HX.out];exact⟨qZ.out.st.after zr.drew HS.out.rws,qZ.out.wf⟩
def ST.setCur(S:ST)(f:FR):ST:=if S.calls.length=0 then { S with base:=f } else { S with calls:=S.calls.set (S.calls.length-1) f }
def hI(S:ST):Res:=if S.calls.length=0 then .sb else .calls
def oI(S:ST):Nat:=if S.calls.length=0 then 0 else(S.calls.length-1)*3
def vI(S:ST):Res:=if S.calls.length=0 then .bv else .fv (S.calls.length-1)
def cI(S:ST):Res:=if S.calls.length=0 then .bc else .fc (S.calls.length-1)
def Ph.setCur(P:Ph)(S:ST)(vv vc:Value):Ph:=if S.calls.length=0 then { P with vV:=vv,vC:=vc } else { P with fV:=fun i=>if i=S.calls.length-1 then vv else P.fV i,fC:=fun i=>if i=S.calls.length-1 then vc else P.fC i }
theorem zrh{P P':Ph}{vv vc:Value}{f:FR}:∀(fs:List FR) (i j:Nat),j<fs.length->(∀q,q≠i+j->P'.fV q=P.fV q/\P'.fC q=P.fC q)->P'.fV (i+j)=vv->P'.fC (i+j)=vc ->
  zkV P' i (fs.set j f)=(((zkV P i fs).set (j*3) vv).set (j*3+1) vc).set (j*3+2) (zi f.loc)
 | g::fs,i,0,_,h,h1,h2=>by
  have hr:zkV P' (i+1) fs=zkV P (i+1) fs:=by
   have key:∀(l:List FR) (q:Nat),i<q->zkV P' q l=zkV P q l:=by
    intro l
    induction l with
    | nil=>intro q _;rfl
    | cons a l ih=>intro q hq;simp[zkV,(h q zO).1,(h q zO).2,ih (q+1) zO]
   exact key fs (i+1) zO
  simp only[Nat.add_zero]at h1 h2;simp[zkV,h1,h2,hr]
 | g::fs,i,j+1,hj,h,h1,h2=>by
  have ih:=zrh (P:=P) (P':=P') (vv:=vv) (vc:=vc) (f:=f) fs (i+1) j (by simpa using hj) (fun q hq=>h q zO) (by rw[show i+1+j=i+(j+1) by omega];exact h1) (by rw[show i+1+j=i+(j+1) by omega];exact h2);rw[show(j+1)*3=j*3+1+1+1 by omega];simp only[List.set_cons_succ,zkV,(h i zO).1,(h i zO).2,ih]
theorem znf(P:Ph)(S:ST)(f:FR)(vv vc:Value):rows (P.setCur S vv vc) (S.setCur f) =
  updR (updR (updR (rows P S) (vI S) ⟨vv,38,3,f.vs.length,zkX f.vs⟩) (cI S) ⟨vc,169,1,f.cs.length,ptrs P.cb f.cs⟩) (hI S)
   { rows P S (hI S)with xs:=(((rows P S (hI S)).xs.set (oI S) vv).set (oI S+1) vc).set (oI S+2) (zi f.loc) }:=by
 by_cases h0:S.calls.length=0
 ·simp only[Ph.setCur,ST.setCur,hI,vI,cI,oI,h0,if_true];have hc:S.calls=[]:=List.length_eq_zero_iff.1 h0;funext r
  cases r<;>simp[updR,rows,hc,zkV]
 ·obtain⟨m,hm⟩:∃m,S.calls.length=m+1:=⟨S.calls.length-1,zO⟩
  have hm1:S.calls.length-1=m:=zO
  simp only[Ph.setCur,ST.setCur,hI,vI,cI,oI,h0,if_false,hm1];funext r
  cases r with
  | calls =>
   have hq:∀q,q≠0+m->({ P with fV:=fun i=>if i=m then vv else P.fV i,fC:=fun i=>if i=m then vc else P.fC i }:Ph).fV q=P.fV q/\({ P with fV:=fun i=>if i=m then vv else P.fV i,fC:=fun i=>if i=m then vc else P.fC i }:Ph).fC q=P.fC q:=fun q h=>by
    have h':q≠m:=zO
    simp[h']
   have:=zrh (P:=P) (P':={ P with fV:=fun i=>if i=m then vv else P.fV i,fC:=fun i=>if i=m then vc else P.fC i }) (vv:=vv) (vc:=vc) (f:=f) S.calls 0 m zO hq zS zS;simp only[updR,if_true,rows,List.length_set,this]
  | fv i =>
   by_cases e:i=m
   ·subst e;simp[updR,rows,hm]
   ·have e':m≠i:=Ne.symm e;simp[updR,rows,e,e']
  | fc i =>
   by_cases e:i=m
   ·subst e;simp[updR,rows,hm]
   ·have e':m≠i:=Ne.symm e;simp[updR,rows,e,e']
  | sb=>simp[updR,rows]
  | tb=>simp[updR,rows]
  | tin=>simp[updR,rows]
  | tout=>simp[updR,rows]
  | bv=>simp[updR,rows]
  | bc=>simp[updR,rows]
  | cb i=>simp[updR,rows]
  | ci i=>simp[updR,rows]
  | x i=>simp[updR,rows]
def zq5(f:FR):VD:=f.vs.getD (f.vs.length-1) ⟨⟨#[]⟩,0,0⟩
def ztR(f:FR):Nat:=f.cs.getD (f.vs.length-1) 0
def FR.pop(f:FR):FR:=⟨f.vs.take (f.vs.length-1),f.cs.take (f.vs.length-1),f.loc-1⟩
def zkW(S:ST)(name:ByteArray)(x:Int):Int×ST :=
 if S.cur.loc=0\/((zq5 S.cur).s.toList==name.toList)=false then(6,S)
 else if ((zq5 S.cur).k=1/\(S.cell (ztR S.cur)).getD 0 0≠x)\/((zq5 S.cur).k=3/\0<(S.cell (ztR S.cur)).length)then(16,S)
 else(0,S.setCur S.cur.pop)
theorem ST.WF.cur2{S:ST}(h:S.WF):∃kd:Nat->Int×Int,S.cur.WF kd S.nc/\∀i,i<S.nc->((kd i).1=1->(S.cell i).length=1)/\((kd i).1=2->((S.cell i).length:Int)=(kd i).2)/\((kd i).1=1\/(kd i).1=2\/(kd i).1=3):=by
 obtain⟨kd,h1,h2,h3⟩:=h.ex;refine⟨kd,?_,h3⟩;rcases Nat.eq_zero_or_pos S.calls.length with h0|h0
 ·rw[zmS h0];exact h1
 ·rw[zna h0];exact h2 _ (List.getElem_mem _)
theorem zvq{S:ST}(h:S.WF){m:Nat}(hm:m<S.cur.vs.length)(hc:m<S.cur.cs.length)(hk:S.cur.vs[m].k=1):(S.cell S.cur.cs[m]).length=1:=by
 obtain⟨kd,h1,h2⟩:=h.cur2;refine(h2 _ (h1.num _ (List.getElem_mem hc))).1 ?_;rw[h1.kind m hm hc];exact hk
theorem zlB{W:World}{n0:Nat}{P:Ph}{S:ST}(h:SR W n0 P S):curP P S=⟨(curP P S).block,oI S,none⟩/\(rows P S (hI S)).v.ownBlock=some (curP P S).block/\oI S+2<(rows P S (hI S)).xs.length:=by
 by_cases h0:S.calls.length=0
 ·simp[curP,oI,hI,h0,rows,Value.ownBlock]
 ·obtain⟨A,c,hv,_,h2⟩:=h.calls;obtain⟨rfl,-⟩:=h2 zO;simp only[curP,oI,hI,h0,if_false,rows];refine⟨by first|rfl|trivial,by rw[hv];rfl,?_⟩;rw[zoZ];omega
theorem zuY(cb:Nat->Nat)(cs:List Nat)(m:Nat):ptrs cb (cs.take m)=(ptrs cb cs).take m:=by simp[ptrs]
theorem zpK:∀(vs:List VD) (m:Nat),zkX (vs.take m)=(zkX vs).take (m*3)
 | [],m=>by simp[zkX]
 | v::vs,0=>by simp[zkX]
 | v::vs,m+1=>by
  have:=zpK vs m;rw[show(m+1)*3=m*3+1+1+1 by omega];simp only[zkX,List.take_succ_cons,List.flatMap_cons,List.cons_append,List.nil_append]at *
  rw[this]
theorem zrV(P:Ph)(S:ST):rows P S (vI S)=⟨curV P S,38,3,S.cur.vs.length,zkX S.cur.vs⟩/\rows P S (cI S)=⟨curC P S,169,1,S.cur.cs.length,ptrs P.cb S.cur.cs⟩:=by
 by_cases h0:S.calls.length=0
 ·simp[vI,cI,curV,curC,h0,rows,zmS h0]
 ·have hl:S.calls.length-1<S.calls.length:=zO
  simp[vI,cI,curV,curC,h0,rows,zna (show 0<S.calls.length by omega),List.getElem?_eq_getElem hl]
theorem zzV(S:ST):hI S≠vI S/\hI S≠cI S/\vI S≠cI S:=by
 unfold hI vI cI
 split<;>simp
theorem zye{W:World}{n0:Nat}{P:Ph}{S:ST}(h:SR W n0 P S)(f:FR)(hwf:(S.setCur f).WF)(W2:World)(vv vc:Value)
  (hst:Stp n0 (rows P S) W (updR (updR (rows P S) (vI S) ⟨vv,38,3,f.vs.length,zkX f.vs⟩) (cI S) ⟨vc,169,1,f.cs.length,ptrs P.cb f.cs⟩) W2) :
  SStp n0 P S W (P.setCur S vv vc) (S.setCur f) (((W2.setCell ⟨(curP P S).block,oI S,none⟩ vv).setCell ⟨(curP P S).block,oI S+1,none⟩ vc).setCell ⟨(curP P S).block,oI S+2,none⟩ (zi f.loc)):=by
 refine⟨?_,hwf⟩;obtain⟨_,hb,ho⟩:=zlB h;obtain⟨n1,n2,_⟩:=zzV S;have hd:updR (updR (rows P S) (vI S) ⟨vv,38,3,f.vs.length,zkX f.vs⟩) (cI S) ⟨vc,169,1,f.cs.length,ptrs P.cb f.cs⟩ (hI S)=rows P S (hI S):=by rw[zkm n2,zkm n1]
 have s1:=Stp.set (i:=hI S) hst.rws (g:=(curP P S).block) (by rw[hd];exact hb) (o:=oI S) (by rw[hd];omega) vv;rw[hd]at s1;have s2:=Stp.set (i:=hI S) s1.rws (g:=(curP P S).block) (by rw[zky];exact hb) (o:=oI S+1) (by rw[zky];simp;omega) vc;rw[zky]at s2;have s3:=Stp.set (i:=hI S) s2.rws (g:=(curP P S).block) (by rw[zky];exact hb) (o:=oI S+2) (by rw[zky];simp;omega) (zi f.loc);rw[zky]at s3;refine((((hst.trans s1).trans s2).trans s3)).cast ?_;rw[znf];funext r;by_cases e:r=hI S
 ·subst e;simp
 ·simp only[updR,e,if_false]
theorem zrt{S:ST}(h:S.WF)(f:FR)(hf:∀kd,S.cur.WF kd S.nc->f.WF kd S.nc):(S.setCur f).WF:=by
 obtain⟨kd,h1,h2,h3⟩:=h.ex;by_cases h0:S.calls.length=0
 ·have hc:S.calls=[]:=List.length_eq_zero_iff.1 h0;simp only[ST.setCur,h0,if_true];refine⟨⟨kd,hf kd (by rw[zmS h0];exact h1),fun g hg=>?_,h3⟩,h.ncalls,h.cells,h.tin,h.tout⟩;rw[hc]at hg
  cases hg
 ·simp only[ST.setCur,h0,if_false];refine⟨⟨kd,h1,fun g hg=>?_,h3⟩,by simpa using h.ncalls,h.cells,h.tin,h.tout⟩;rcases List.mem_or_eq_of_mem_set hg with hg|rfl
  ·exact h2 g hg
  ·exact hf kd (by rw[zna zO];exact h2 _ (List.getElem_mem _))
theorem zy8{f:FR}{kd:Nat->Int×Int}{nc:Nat}(h:f.WF kd nc):f.pop.WF kd nc:=by
 refine⟨?_,?_,?_,fun v hv=>h.fld v (List.mem_of_mem_take hv),fun c hc=>h.num c (List.mem_of_mem_take hc),fun i hi hi'=>?_⟩
 ·have:=h.len;simp[FR.pop,this]
 ·have:=h.loc;simp[FR.pop];omega
 ·have:=h.lim;simp[FR.pop];omega
 ·have h1:i<f.vs.length:=by simp[FR.pop]at hi;omega
  have h2:i<f.cs.length:=by rw[h.len];exact h1
  have:=h.kind i h1 h2;simpa[FR.pop]using this
theorem zxq{W:World}{n0:Nat}{P:Ph}{S:ST}(h:SR W n0 P S)(m:Nat)(hm:S.cur.vs.length=m+1)(ga c g c2:Nat)(hv:curV P S=.slice (some ⟨ga,0,none⟩) (m+1) c)(hc:curC P S=.slice (some ⟨g,0,none⟩) (m+1) c2) :
  Stp n0 (rows P S) W (updR (updR (rows P S) (vI S) ⟨.slice (some ⟨ga,0,none⟩) m c,38,3,S.cur.pop.vs.length,zkX S.cur.pop.vs⟩) (cI S) ⟨.slice (some ⟨g,0,none⟩) m c2,169,1,S.cur.pop.cs.length,ptrs P.cb S.cur.pop.cs⟩) W:=by
 obtain⟨kd,hw⟩:=h.curWF;have hcl:S.cur.cs.length=m+1:=by rw[hw.len];exact hm
 obtain⟨r1,r2⟩:=zrV P S;obtain⟨n1,n2,n3⟩:=zzV S;have e1:S.cur.pop.vs.length=m:=by simp[FR.pop,hm]
 have e2:S.cur.pop.cs.length=m:=by simp[FR.pop,hm,hcl]
 have o1:W.ownsRow n0 38 3 (.slice (some ⟨ga,0,none⟩) m c) m (zkX S.cur.pop.vs):=by
  have:=h.rws.row (vI S);rw[r1,hv,hm]at this;have e:zkX S.cur.vs=zkX S.cur.pop.vs++(zkX S.cur.vs).drop (m*3):=by
   simp only[FR.pop,hm,Nat.add_sub_cancel];rw[zpK,List.take_append_drop]
  dsimp only at this;rw[e]at this;exact ownsRow_pop (by rw[zvP,e1]) this
 have o2:W.ownsRow n0 169 1 (.slice (some ⟨g,0,none⟩) m c2) m (ptrs P.cb S.cur.pop.cs):=by
  have:=h.rws.row (cI S);rw[r2,hc,hcl]at this;have e:ptrs P.cb S.cur.cs=ptrs P.cb S.cur.pop.cs++(ptrs P.cb S.cur.cs).drop m:=by
   simp only[FR.pop,hm,Nat.add_sub_cancel];rw[zuY,List.take_append_drop]
  dsimp only at this;rw[e]at this;exact ownsRow_pop (by simp[ptrs,e2]) this
 rw[e1,e2];have s1:=Stp.upd (i:=vI S) (r:=⟨.slice (some ⟨ga,0,none⟩) m c,38,3,m,zkX S.cur.pop.vs⟩) h.rws (Chg.refl _ _) o1 (fun b hb=>.inl (by rw[r1];show(curV P S).ownBlock=some b;rw[hv];exact hb));refine s1.trans (Stp.upd (i:=cI S) s1.rws (Chg.refl _ _) o2 (fun b hb=>.inl ?_));rw[zkm (Ne.symm n3),r2]
 show(curC P S).ownBlock=some b
 rw[hc];exact hb
theorem zo8{W:World}{n0:Nat}{P:Ph}{S:ST}(h:SR W n0 P S)(m c g c2 lc B O:Nat)(a:Addr)(hm:S.cur.vs.length=m+1)(hv:curV P S=.slice (some a) (m+1) c)(hc:curC P S=.slice (some ⟨g,0,none⟩) (m+1) c2)(hB:(curP P S).block=B)(hO:oI S=O)(hlc:S.cur.loc=lc)(h0:lc≠0) :
  ∃P',SStp n0 P S W P' (S.setCur S.cur.pop) (((W.setCell ⟨B,O,none⟩ (.slice (some a) m c)).setCell ⟨B,O+1,none⟩ (.slice (some ⟨g,0,none⟩) m c2)).setCell ⟨B,O+2,none⟩ (zi ((lc:Int)-1))).drew/\P'.sb=P.sb:=by
 have hr:=h.rws.row (vI S);rw[(zrV P S).1]at hr;obtain⟨ga,ca,hga,_⟩:=zlg hr (by dsimp only;omega);dsimp only at hga;have ha:a=⟨ga,0,none⟩:=by
  have:=hv.symm.trans hga;injection this with e1;injection e1
 subst ha;have key:=zye h S.cur.pop (zrt h.wf _ fun kd hk=>zy8 hk) W _ _ (zxq h m hm ga c g c2 hv hc);have el:((S.cur.pop.loc:Nat):Int)=(lc:Int)-1:=by simp only[FR.pop,hlc];omega
 rw[hB,hO,el]at key;exact⟨_,⟨key.st.below zr.drew,key.wf⟩,by unfold Ph.setCur;split<;>rfl⟩
theorem zwU{W:World}{n0:Nat}{P:Ph}{S:ST}(h:SR W n0 P S)(name:ByteArray)(x:Int):Calls prog 138 #[.pointer (some ⟨P.sb,0,none⟩),.string name,zi x] W fun e W'=>e=.returned (zi (zkW S name x).1)/\∃P',SStp n0 P S W P' (zkW S name x).2 W'/\P'.sb=P.sb:=by
 have HS:=zh h;have cK:=zh (zlm h);obtain⟨kd,hw⟩:=h.curWF;obtain⟨A,c,hcv,hc,hrow⟩:=h.curVs;obtain⟨h3,h4,h5⟩:=h.cur3;obtain⟨A2,c2,hcc,hc2,_⟩:=zkh h.curCs;rw[hcv]at h3;rw[hcc,hw.len]at h4;obtain⟨hh1,wu,hh3⟩:=zlB h;obtain⟨B,hB⟩:=zX ((curP P S).block);obtain⟨O,hO⟩:=zX (oI S);have hcp:curP P S=⟨B,O,none⟩:=by rw[hh1,hB,hO]
 have bD:=zh hB;have fK:=zh hO;rw[hcp]at h3 h4 h5 cK;dsimp only at h3 h4 h5;obtain⟨R,hR⟩:=zX (zkW S name x);rw[hR];obtain⟨lc,hlc⟩:=zX (S.cur.loc);obtain⟨L,hL⟩:=zX (S.cur.vs.length);have hlim:=hw.lim;have hloc:=hw.loc;rw[hlc]at h5 hloc;rw[hL]at h3 h4 hlim hloc;have ae:=zh hrow;have eH:=zh hw;have jf:=zh hlc;have HL:=zh hL;have HRR:=zh hR;have aI:=zh hcc;have ky:=zh hcv;have bT:=zh hc2;have hfz:∀i,W.frozen? ⟨B,i,none⟩=false:=fun i=>h.rws.frozen (hI S) (by rw[<-hB];exact wu) i;clear h hw hcv hrow hcp hR hlc hL hcc hc2 hh1 wu hh3 hB hO;by_cases hl0:lc=0
 ·subst hl0;have HX:=zh (show R=(6,S) by rw[<-HRR.out,zkW,if_pos (.inl jf.out)]);go_enter func138,ntmps138;go_wp2_with fail;refine cK.out.mono ?_;rintro e w1 ⟨rfl,rfl⟩;go_wp2_with fail;go_ret;exact⟨by rw[HX.out];rfl,P,by rw[HX.out];exact SStp.refl HS.out zr,rfl⟩
 ·obtain⟨m,rfl⟩:∃m,L=m+1:=⟨L-1,zO⟩
  have sG:m<S.cur.vs.length:=by rw[HL.out];omega
  obtain⟨a,rfl,-,⟨y0,y1,y2⟩,-⟩:=ae.out m sG;obtain⟨v,hv⟩:=zX (S.cur.vs[m]);rw[hv]at y0 y1 y2;have hlv:zq5 S.cur=v:=by rw[<-hv,zq5,HL.out];simp[sG]
  have uU:=zh hlv;obtain⟨b,hb⟩:=zX ((v.s.toList==name.toList));have e1:((lc:Int)==0)=false:=by simp;omega
  have HB:=zh hb;have hml2:(m:Int)<((m+1:Nat):Int):=zO
  clear hlv hb
  cases b
  ·have HX:=zh (show R=(6,S) by rw[<-HRR.out,zkW,if_pos (.inr (by rw[uU.out];exact HB.out))]);have hbn:=HB.out;clear hv;go_enter func138,ntmps138;go_wp2_with fail;refine cK.out.mono ?_;rintro e w1 ⟨rfl,rfl⟩;go_wp2_with fail;go_ret;exact⟨by rw[HX.out];rfl,P,by rw[HX.out];exact SStp.refl HS.out zr,rfl⟩
  ·have hbn:=HB.out;have hmc:m<S.cur.cs.length:=by rw[eH.out.len];exact sG
   obtain⟨id,hid⟩:=zX (S.cur.cs[m]);have aH:id<S.nc:=by rw[<-hid];exact eH.out.num _ (List.getElem_mem hmc)
   have hlcc:ztR S.cur=id:=by rw[<-hid,ztR,HL.out];simp[hmc]
   obtain⟨g,c2',hcc',_,_,hcell⟩:=zlg HS.out.curCs zO;obtain⟨rfl,rfl⟩:A2=some ⟨g,0,none⟩/\c2=c2':=by
    have:=aI.out.symm.trans hcc';injection this with e1 _ e3;exact⟨e1,e3⟩
   have z0:W.cell? ⟨g,m,none⟩=some (.pointer (some ⟨P.cb id,0,none⟩)):=by rw[hcell m zO];simp[ptrs,hmc,hid]
   obtain⟨A3,c3,hci,hc3,aT⟩:=HS.out.items aH;have z1:W.cell? ⟨P.cb id,0,none⟩=some (.slice A3 (S.cell id).length c3):=by rw[<-hci];exact zc (HS.out.cbox aH) rfl
   obtain⟨l,hl⟩:=zX (S.cell id);have hll:=(HS.out.wf.cells id aH).1;have hk1:v.k=1->l.length=1:=fun hk=>by
    have:=zvq HS.out.wf sG hmc (by rw[hv];exact hk);rw[hid,hl]at this;exact this
   rw[hl]at z1 aT hll;have dJ:=zh hl;have HR2:=zh (show R=if (v.k=1/\l.getD 0 0≠x)\/(v.k=3/\0<l.length)then(16,S)else(0,S.setCur S.cur.pop) by
    rw[<-HRR.out,zkW,if_neg (by rw[uU.out,HB.out,jf.out];simp;omega),uU.out,hlcc,hl])
   have bU:=zh aT;clear hcell hcc' hci aT hl hlcc hid HRR hv;by_cases k1:v.k=1
   ·have hl1:=hk1 k1;obtain⟨a3,rfl,hx0⟩:=bU.out.nd (i:=0) zO;simp only[Addr.add_zero']at hx0;obtain⟨x0,hx0'⟩:=zX (l.getD 0 0);rw[hx0']at hx0 HR2;rw[k1]at y1 HR2;rw[hl1]at z1;by_cases oM:x0=x
    ·subst oM;have HX:=zh (show R=(0,S.setCur S.cur.pop) by rw[HR2.out,if_neg zS]);have aX:=zh (zo8 HS.out m c g c2 lc B O a HL.out (by rw[ky.out,HL.out]) (by rw[aI.out,eH.out.len,HL.out]) bD.out fK.out jf.out hl0);clear HR2 hx0' hk1 k1 hl1;go_enter func138,ntmps138;go_wp2_with fail;refine cK.out.mono ?_;rintro e w1 ⟨rfl,rfl⟩;go_upto_region 10 with fail;have hSS:zU w1.drew/\(fun w':World=>zv w' B O (.slice (some a) (m+1) c)/\zv w' B (O+1) (.slice (some ⟨g,0,none⟩) (m+1) c2)) w1.drew:=⟨trivial,h3,h4⟩
     have hm1:(m:Int)<=(c:Int):=zO
     have hm2:(m:Int)<=(c2:Int):=zO
     have hm0:(0:Int)<=(m:Int):=zO
     refine wp_region_noPanic ?_;refine zkl zU (fun w':World=>zv w' B O (.slice (some a) (m+1) c)/\zv w' B (O+1) (.slice (some ⟨g,0,none⟩) (m+1) c2)) 16 zK ?_;refine zT 0 hSS ?_;refine zT 1 hSS ?_;refine zT 2 hSS ?_;refine zT 3 hSS ?_;refine zT 4 hSS ?_;refine zJ 5 hSS ?_;refine zT 6 hSS ?_;refine zT 7 hSS ?_;refine zT 8 hSS ?_;refine zT 9 hSS ?_;refine zT 10 hSS ?_;refine zJ 11 hSS ?_;refine zT 12 hSS ?_;refine zT 13 hSS ?_;refine zT 14 hSS ?_;refine zT 15 hSS ?_;refine zp 16 fun K hK=>?_;(try simp only[zA,zB,zC]);have g3:w1.drew.cell? ⟨B,O,none⟩=some (.slice (some a) (m+1) c):=h3;have gf:w1.drew.frozen? ⟨B,O,none⟩=false:=hfz O;go_simp;refine hK.out _ _ trivial ?_;clear hK K hSS;try simp only[zQ]
     have j4:(w1.setCell ⟨B,O,none⟩ (.slice (some a) m c)).drew.cell? ⟨B,O+1,none⟩=some (.slice (some ⟨g,0,none⟩) (m+1) c2):=(World.cell?_setCell_other w1 ⟨B,O,none⟩ ⟨B,O+1,none⟩ _ zS).trans h4;have j5:((w1.setCell ⟨B,O,none⟩ (.slice (some a) m c)).setCell ⟨B,O+1,none⟩ (.slice (some ⟨g,0,none⟩) m c2)).cell? ⟨B,O+2,none⟩=some (zi lc):=(World.cell?_setCell_other _ ⟨B,O+1,none⟩ ⟨B,O+2,none⟩ _ zS).trans ((World.cell?_setCell_other w1 ⟨B,O,none⟩ ⟨B,O+2,none⟩ _ zS).trans h5);refine zp 17 fun K hK=>?_;(try simp only[zA,zB,zC]);go_simp;refine hK.out _ _ trivial ?_;clear hK K;(try simp only[zQ]);refine zp 18 fun K hK=>?_;(try simp only[zA,zB,zC]);go_simp;refine hK.out _ _ trivial ?_;clear hK K;(try simp only[zQ]);refine zp 19 fun K hK=>?_;(try simp only[zA,zB,zC]);go_simp;refine hK.out _ _ trivial ?_;clear hK K;(try simp only[zQ]);refine zd ?_;refine NoPanic.normal ?_
     clear g3 gf h3 h4 h5;go_wp2_with fail;go_ret;refine⟨by rw[HX.out];rfl,?_⟩;rw[HX.out];exact aX.out
    ·have HX:=zh (show R=(16,S) by rw[HR2.out,if_pos (.inl ⟨rfl,oM⟩)]);have e5:(x0==x)=false:=by simpa using oM
     have e6:(x0 != x)=true:=by simpa using oM
     clear HR2 oM hx0' hk1 k1 hl1;go_enter func138,ntmps138;go_wp2_with fail;refine cK.out.mono ?_;rintro e w1 ⟨rfl,rfl⟩;go_wp2_with fail;go_ret;exact⟨by rw[HX.out];rfl,P,by rw[HX.out];exact SStp.refl HS.out zr,rfl⟩
   ·have x1:(v.k==1)=false:=by simpa using k1
    have sN:=k1;by_cases k3:v.k=3
    ·rw[k3]at y1 HR2 x1;have hk3:True:=trivial;by_cases hl0':l.length=0
     ·have HX:=zh (show R=(0,S.setCur S.cur.pop) by rw[HR2.out,if_neg (by simp[hl0'])]);rw[hl0']at z1;have aX:=zh (zo8 HS.out m c g c2 lc B O a HL.out (by rw[ky.out,HL.out]) (by rw[aI.out,eH.out.len,HL.out]) bD.out fK.out jf.out hl0);clear HR2 hk1 k1 sN k3 hl0' x1;go_enter func138,ntmps138;go_wp2_with fail;refine cK.out.mono ?_;rintro e w1 ⟨rfl,rfl⟩;go_upto_region 10 with fail;have hSS:zU w1.drew/\(fun w':World=>zv w' B O (.slice (some a) (m+1) c)/\zv w' B (O+1) (.slice (some ⟨g,0,none⟩) (m+1) c2)) w1.drew:=⟨trivial,h3,h4⟩
      have hm1:(m:Int)<=(c:Int):=zO
      have hm2:(m:Int)<=(c2:Int):=zO
      have hm0:(0:Int)<=(m:Int):=zO
      refine wp_region_noPanic ?_;refine zkl zU (fun w':World=>zv w' B O (.slice (some a) (m+1) c)/\zv w' B (O+1) (.slice (some ⟨g,0,none⟩) (m+1) c2)) 16 zK ?_;refine zT 0 hSS ?_;refine zT 1 hSS ?_;refine zT 2 hSS ?_;refine zT 3 hSS ?_;refine zT 4 hSS ?_;refine zJ 5 hSS ?_;refine zT 6 hSS ?_;refine zT 7 hSS ?_;refine zT 8 hSS ?_;refine zT 9 hSS ?_;refine zT 10 hSS ?_;refine zJ 11 hSS ?_;refine zT 12 hSS ?_;refine zT 13 hSS ?_;refine zT 14 hSS ?_;refine zT 15 hSS ?_;refine zp 16 fun K hK=>?_;(try simp only[zA,zB,zC]);have g3:w1.drew.cell? ⟨B,O,none⟩=some (.slice (some a) (m+1) c):=h3;have gf:w1.drew.frozen? ⟨B,O,none⟩=false:=hfz O;go_simp;refine hK.out _ _ trivial ?_;clear hK K hSS;try simp only[zQ]
      have j4:(w1.setCell ⟨B,O,none⟩ (.slice (some a) m c)).drew.cell? ⟨B,O+1,none⟩=some (.slice (some ⟨g,0,none⟩) (m+1) c2):=(World.cell?_setCell_other w1 ⟨B,O,none⟩ ⟨B,O+1,none⟩ _ zS).trans h4;have j5:((w1.setCell ⟨B,O,none⟩ (.slice (some a) m c)).setCell ⟨B,O+1,none⟩ (.slice (some ⟨g,0,none⟩) m c2)).cell? ⟨B,O+2,none⟩=some (zi lc):=(World.cell?_setCell_other _ ⟨B,O+1,none⟩ ⟨B,O+2,none⟩ _ zS).trans ((World.cell?_setCell_other w1 ⟨B,O,none⟩ ⟨B,O+2,none⟩ _ zS).trans h5);refine zp 17 fun K hK=>?_;(try simp only[zA,zB,zC]);go_simp;refine hK.out _ _ trivial ?_;clear hK K;(try simp only[zQ]);refine zp 18 fun K hK=>?_;(try simp only[zA,zB,zC]);go_simp;refine hK.out _ _ trivial ?_;clear hK K;(try simp only[zQ]);refine zp 19 fun K hK=>?_;(try simp only[zA,zB,zC]);go_simp;refine hK.out _ _ trivial ?_;clear hK K;(try simp only[zQ]);refine zd ?_;refine NoPanic.normal ?_
      clear g3 gf h3 h4 h5;go_wp2_with fail;go_ret;refine⟨by rw[HX.out];rfl,?_⟩;rw[HX.out];exact aX.out
     ·have HX:=zh (show R=(16,S) by rw[HR2.out,if_pos (.inr ⟨rfl,zO⟩)]);have e5:(0:Int)<(l.length:Int):=zO
      clear HR2 hk1 k1 sN k3 hl0' x1;go_enter func138,ntmps138;go_wp2_with fail;refine cK.out.mono ?_;rintro e w1 ⟨rfl,rfl⟩;go_wp2_with fail;go_ret;exact⟨by rw[HX.out];rfl,P,by rw[HX.out];exact SStp.refl HS.out zr,rfl⟩
    ·have x3:(v.k==3)=false:=by simpa using k3
     have HX:=zh (show R=(0,S.setCur S.cur.pop) by rw[HR2.out,if_neg (by simp[k1,k3])]);have aX:=zh (zo8 HS.out m c g c2 lc B O a HL.out (by rw[ky.out,HL.out]) (by rw[aI.out,eH.out.len,HL.out]) bD.out fK.out jf.out hl0);clear HR2 hk1 k1 sN k3;go_enter func138,ntmps138;go_wp2_with fail;refine cK.out.mono ?_;rintro e w1 ⟨rfl,rfl⟩;go_upto_region 10 with fail;have hSS:zU w1.drew/\(fun w':World=>zv w' B O (.slice (some a) (m+1) c)/\zv w' B (O+1) (.slice (some ⟨g,0,none⟩) (m+1) c2)) w1.drew:=⟨trivial,h3,h4⟩
     have hm1:(m:Int)<=(c:Int):=zO
     have hm2:(m:Int)<=(c2:Int):=zO
     have hm0:(0:Int)<=(m:Int):=zO
     refine wp_region_noPanic ?_;refine zkl zU (fun w':World=>zv w' B O (.slice (some a) (m+1) c)/\zv w' B (O+1) (.slice (some ⟨g,0,none⟩) (m+1) c2)) 16 zK ?_;refine zT 0 hSS ?_;refine zT 1 hSS ?_;refine zT 2 hSS ?_;refine zT 3 hSS ?_;refine zT 4 hSS ?_;refine zJ 5 hSS ?_;refine zT 6 hSS ?_;refine zT 7 hSS ?_;refine zT 8 hSS ?_;refine zT 9 hSS ?_;refine zT 10 hSS ?_;refine zJ 11 hSS ?_;refine zT 12 hSS ?_;refine zT 13 hSS ?_;refine zT 14 hSS ?_;refine zT 15 hSS ?_;refine zp 16 fun K hK=>?_;(try simp only[zA,zB,zC]);have g3:w1.drew.cell? ⟨B,O,none⟩=some (.slice (some a) (m+1) c):=h3;have gf:w1.drew.frozen? ⟨B,O,none⟩=false:=hfz O;go_simp;refine hK.out _ _ trivial ?_;clear hK K hSS;try simp only[zQ]
     have j4:(w1.setCell ⟨B,O,none⟩ (.slice (some a) m c)).drew.cell? ⟨B,O+1,none⟩=some (.slice (some ⟨g,0,none⟩) (m+1) c2):=(World.cell?_setCell_other w1 ⟨B,O,none⟩ ⟨B,O+1,none⟩ _ zS).trans h4;have j5:((w1.setCell ⟨B,O,none⟩ (.slice (some a) m c)).setCell ⟨B,O+1,none⟩ (.slice (some ⟨g,0,none⟩) m c2)).cell? ⟨B,O+2,none⟩=some (zi lc):=(World.cell?_setCell_other _ ⟨B,O+1,none⟩ ⟨B,O+2,none⟩ _ zS).trans ((World.cell?_setCell_other w1 ⟨B,O,none⟩ ⟨B,O+2,none⟩ _ zS).trans h5);refine zp 17 fun K hK=>?_;(try simp only[zA,zB,zC]);go_simp;refine hK.out _ _ trivial ?_;clear hK K;(try simp only[zQ]);refine zp 18 fun K hK=>?_;(try simp only[zA,zB,zC]);go_simp;refine hK.out _ _ trivial ?_;clear hK K;(try simp only[zQ]);refine zp 19 fun K hK=>?_;(try simp only[zA,zB,zC]);go_simp;refine hK.out _ _ trivial ?_;clear hK K;(try simp only[zQ]);refine zd ?_;refine NoPanic.normal ?_
     clear g3 gf h3 h4 h5;go_wp2_with fail;go_ret;refine⟨by rw[HX.out];rfl,?_⟩;rw[HX.out];exact aX.out
def ST.newCell(S:ST)(l:List Int):ST:={ S with cell:=fun i=>if i=S.nc then l else S.cell i,nc:=S.nc+1 }
def Ph.newCell(P:Ph)(S:ST)(b:Nat)(v:Value):Ph:={ P with cb:=fun i=>if i=S.nc then b else P.cb i,ci:=fun i=>if i=S.nc then v else P.ci i }
theorem zsQ{cb:Nat->Nat}{nc b:Nat}{cs:List Nat}(h:∀c∈cs,c<nc):ptrs (fun i=>if i=nc then b else cb i) cs=ptrs cb cs:=by
 unfold ptrs;refine List.map_congr_left fun c hc=>?_;have:=h c hc;have e:c≠nc:=zO
 simp[e]
theorem zmK{S:ST}(hw:S.WF)(P:Ph)(b:Nat)(v:Value)(l:List Int):rows (P.newCell S b v) (S.newCell l) =
  updR (updR (rows P S) (.cb S.nc) ⟨boxV b,171,1,1,[v]⟩) (.ci S.nc) ⟨v,3,1,l.length,zki l⟩:=by
 obtain⟨kd,h1,h2,_⟩:=hw.ex;funext r
 cases r with
 | cb i =>
  by_cases e:i=S.nc
  ·subst e;simp[updR,rows,Ph.newCell,ST.newCell]
  ·have:(i<S.nc+1)=(i<S.nc):=by simp;omega
   simp[updR,rows,Ph.newCell,ST.newCell,e,this]
 | ci i =>
  by_cases e:i=S.nc
  ·subst e;simp[updR,rows,Ph.newCell,ST.newCell]
  ·have:(i<S.nc+1)=(i<S.nc):=by simp;omega
   simp[updR,rows,Ph.newCell,ST.newCell,e,this]
 | bc=>simp[updR,rows,Ph.newCell,ST.newCell,zsQ h1.num]
 | fc i =>
  simp only[updR,reduceCtorEq,if_false,rows,ST.newCell,Ph.newCell]
  cases hi:S.calls[i]? with
  | none=>rfl
  | some f=>simp only[zsQ (h2 f (List.mem_of_getElem? hi)).num]
 | calls =>
  simp only[updR,reduceCtorEq,if_false,rows,ST.newCell];rw[zlA (P:=P) (P':=P.newCell S b v) rfl rfl];rfl
 | fv i=>simp[updR,rows,Ph.newCell,ST.newCell]
 | sb=>simp[updR,rows,Ph.newCell,ST.newCell]
 | tb=>simp[updR,rows,Ph.newCell,ST.newCell]
 | tin=>simp[updR,rows,Ph.newCell,ST.newCell]
 | tout=>simp[updR,rows,Ph.newCell,ST.newCell]
 | bv=>simp[updR,rows,Ph.newCell,ST.newCell]
 | x i=>simp[updR,rows]
theorem FR.WF.new{f:FR}{kd:Nat->Int×Int}{nc:Nat}(h:f.WF kd nc)(k:Int×Int):f.WF (fun i=>if i=nc then k else kd i) (nc+1):=by
 refine⟨h.len,h.loc,h.lim,h.fld,fun c hc=>by have:=h.num c hc;omega,fun i hi hi'=>?_⟩;have:=h.num _ (List.getElem_mem hi');rw[if_neg zO];exact h.kind i hi hi'
theorem znh(S:ST)(l:List Int):(S.newCell l).cur=S.cur:=rfl
theorem zn3{S:ST}(h:S.WF)(l:List Int)(k:Int×Int)(hl:l.length<=1000)(hf:∀x∈l,I64 x)(hk:(k.1=1->l.length=1)/\(k.1=2->(l.length:Int)=k.2)/\(k.1=1\/k.1=2\/k.1=3)):(S.newCell l).WF:=by
 obtain⟨kd,h1,h2,h3⟩:=h.ex;refine⟨⟨fun i=>if i=S.nc then k else kd i,h1.new k,fun f hf=>(h2 f hf).new k,fun i hi=>?_⟩,h.ncalls,fun i hi=>?_,h.tin,h.tout⟩
 ·simp only[ST.newCell]at hi ⊢;by_cases e:i=S.nc
  ·subst e;simpa using hk
  ·simp only[e,if_false];exact h3 i zO
 ·simp only[ST.newCell]at hi ⊢;by_cases e:i=S.nc
  ·subst e;simpa using⟨hl,hf⟩
  ·simp only[e,if_false];exact h.cells i zO
theorem zuP(P:Ph)(S:ST):rows P S (.cb S.nc)=nilR/\rows P S (.ci S.nc)=nilR:=by simp[rows]
theorem znU{k:Nat}(w:World)(n0:Nat)(E:TypeId)(xs:List Value)(hn:n0<=w.heap.size)(hx:xs.length=k):(w.alloc (.cells xs.toArray E)).ownsRow n0 E k (.slice (some ⟨w.heap.size,0,none⟩) 1 1) 1 xs :=
 ⟨zO,.inr ⟨w.heap.size,1,xs.toArray,rfl,hn,heap_alloc_new w _,zl,zY,by simp[hx],by rw[Nat.one_mul,<-hx];simp⟩⟩
theorem zr7{W w2:World}{n0:Nat}{P:Ph}{S:ST}(h:SR W n0 P S)(hb:zw W w2)(x:Int)(hx:I64 x) :
  SStp n0 P S W (P.newCell S w2.heap.size (.slice (some ⟨w2.heap.size+1,0,none⟩) 1 1)) (S.newCell [x]) ((w2.alloc (.cells #[.slice (some ⟨w2.heap.size+1,0,none⟩) 1 1] 171)).alloc (.cells #[zi x] 3)):=by
 have hn:n0<=w2.heap.size:=by
  have h1:=(h.rws.lt .sb P.sb rfl)
  have h2:=hb.size;omega
 obtain⟨r1,r2⟩:=zuP P S;have s0:=(Stp.refl h.rws).below hb;have s1:=Stp.upd (i:=Res.cb S.nc) (r:=⟨boxV w2.heap.size,171,1,1,[.slice (some ⟨w2.heap.size+1,0,none⟩) 1 1]⟩) s0.rws (Chg.of_below (zkb zr (.cells #[.slice (some ⟨w2.heap.size+1,0,none⟩) 1 1] 171))) (znU w2 n0 _ [_] hn rfl) (fun b hb=>.inr (by simp[Value.ownBlock]at hb;omega));have o2:=znU (k:=1) (w2.alloc (.cells #[.slice (some ⟨w2.heap.size+1,0,none⟩) 1 1] 171)) n0 3 [zi x] (by simp;omega) rfl;rw[World.size_alloc]at o2;have s2:=Stp.upd (i:=Res.ci S.nc) (r:=⟨.slice (some ⟨w2.heap.size+1,0,none⟩) 1 1,3,1,1,[zi x]⟩) s1.rws (Chg.of_below (zkb zr (.cells #[zi x] 3))) o2 (fun b hb=>.inr (by simp[Value.ownBlock]at hb;simp;omega));refine⟨((s0.trans s1).trans s2).cast ?_,zn3 h.wf [x] (1,0) zS (by simpa using hx) zS⟩;rw[zmK h.wf];rfl
theorem zqa{W w2:World}{n0:Nat}{P:Ph}{S:ST}(h:SR W n0 P S)(hb:zw W w2) :
  SStp n0 P S W (P.newCell S w2.heap.size zn) (S.newCell []) (w2.alloc (.cells #[zn] 171)):=by
 have hn:n0<=w2.heap.size:=by
  have h1:=(h.rws.lt .sb P.sb rfl)
  have h2:=hb.size;omega
 have s0:=(Stp.refl h.rws).below hb;have s1:=Stp.upd (i:=Res.cb S.nc) (r:=⟨boxV w2.heap.size,171,1,1,[zn]⟩) s0.rws (Chg.of_below (zkb zr (.cells #[zn] 171))) (znU w2 n0 _ [_] hn rfl) (fun b hb=>.inr (by simp[Value.ownBlock]at hb;omega));have s2:=Stp.upd (i:=Res.ci S.nc) (r:=⟨zn,3,1,0,[]⟩) s1.rws (Chg.refl _ _) (World.ownsRow_nil _ _ _ _) (fun b hb=>by simp[Value.ownBlock]at hb);refine⟨((s0.trans s1).trans s2).cast ?_,zn3 h.wf [] (3,0) zS zS zS⟩;rw[zmK h.wf];rfl
theorem zqj(P:Ph)(S:ST):(rows P S (hI S)).xs[oI S]?=some (curV P S)/\(rows P S (hI S)).xs[oI S+1]?=some (curC P S)/\(rows P S (hI S)).xs[oI S+2]?=some (zi S.cur.loc):=by
 by_cases h0:S.calls.length=0
 ·simp[hI,oI,curV,curC,h0,rows,zmS h0]
 ·obtain⟨g1,g2,g3⟩:=zo0 P S.calls 0 (S.calls.length-1) zO;simp only[Nat.zero_add]at g1 g2;simp only[hI,oI,curV,curC,h0,if_false,rows,zna (show 0<S.calls.length by omega)];exact⟨g1,g2,g3⟩
theorem zKA{W:World}{n0:Nat}{P:Ph}{S:ST}(h:SR W n0 P S)(v:VD)(q:Option Addr)(hlim:S.cur.vs.length<=4398046511000) :
  Calls prog 104 #[.pointer (some ⟨(curP P S).block,oI S,none⟩),.agg #[.string v.s,zj v.k,zi v.n],.pointer q] W fun e W'=>(∃u,e=.returned u)/\∃vv vc,
   Stp n0 (rows P S) W (updR (updR (updR (rows P S) (vI S) ⟨vv,38,3,S.cur.vs.length+1,zkX S.cur.vs++[.string v.s,zj v.k,zi v.n]⟩) (cI S) ⟨vc,169,1,S.cur.vs.length+1,ptrs P.cb S.cur.cs++[.pointer q]⟩) (hI S) { rows P S (hI S)with xs:=((rows P S (hI S)).xs.set (oI S) vv).set (oI S+1) vc }) W':=by
 obtain⟨n1,n2,n3⟩:=zzV S;obtain⟨r1,r2⟩:=zrV P S;obtain⟨g1,g2,_⟩:=zqj P S;obtain⟨_,hb,_⟩:=zlB h;obtain⟨kd,hw⟩:=h.curWF;refine zso h.rws (hI S) (vI S) (cI S) n1 n2 n3 _ _ hb (by rw[g1,r1]) (by rw[g2,r2]) (zkX S.cur.vs) (ptrs P.cb S.cur.cs) S.cur.vs.length (by rw[r1]) (by rw[r2,hw.len]) hlim v q
def FR.push(f:FR)(v:VD)(id:Nat):FR:=⟨f.vs++[v],f.cs++[id],f.loc+1⟩
theorem zpL(vs:List VD)(v:VD):zkX (vs++[v])=zkX vs++[.string v.s,zj v.k,zi v.n]:=by simp[zkX]
theorem zxp{W W':World}{n0:Nat}{P:Ph}{S:ST}(h:SR W n0 P S)(v:VD)(id:Nat)(vv vc:Value)(hwf:(S.setCur (S.cur.push v id)).WF)
  (hst:Stp n0 (rows P S) W (updR (updR (updR (rows P S) (vI S) ⟨vv,38,3,S.cur.vs.length+1,zkX S.cur.vs++[.string v.s,zj v.k,zi v.n]⟩) (cI S) ⟨vc,169,1,S.cur.vs.length+1,ptrs P.cb S.cur.cs++[.pointer (some ⟨P.cb id,0,none⟩)]⟩) (hI S) { rows P S (hI S)with xs:=((rows P S (hI S)).xs.set (oI S) vv).set (oI S+1) vc }) W') :
  SStp n0 P S W (P.setCur S vv vc) (S.setCur (S.cur.push v id)) (W'.setCell ⟨(curP P S).block,oI S+2,none⟩ (zi ((S.cur.loc:Int)+1))):=by
 refine⟨?_,hwf⟩;obtain⟨_,hb,ho⟩:=zlB h;obtain⟨kd,hw⟩:=h.curWF;have s3:=Stp.set (i:=hI S) hst.rws (g:=(curP P S).block) (by rw[zky];exact hb) (o:=oI S+2) (by rw[zky];simp;omega) (zi ((S.cur.loc:Int)+1));rw[zky]at s3;refine(hst.trans s3).cast ?_;rw[znf];have e1:(S.cur.push v id).vs.length=S.cur.vs.length+1:=by simp[FR.push]
 have e2:(S.cur.push v id).cs.length=S.cur.vs.length+1:=by simp[FR.push,hw.len]
 have e3:zkX (S.cur.push v id).vs=zkX S.cur.vs++[.string v.s,zj v.k,zi v.n]:=zpL _ _;have e4:ptrs P.cb (S.cur.push v id).cs=ptrs P.cb S.cur.cs++[.pointer (some ⟨P.cb id,0,none⟩)]:=by simp[FR.push,ptrs]
 have e5:(((S.cur.push v id).loc:Nat):Int)=(S.cur.loc:Int)+1:=by simp[FR.push]
 rw[e1,e2,e3,e4,e5];funext r;by_cases e:r=hI S
 ·subst e;simp
 ·simp only[updR,e,if_false]
theorem zwu{f:FR}{kd:Nat->Int×Int}{nc:Nat}(h:f.WF kd nc)(v:VD)(hv:FldV v)(hlim:f.vs.length+1<=4398046511000):(f.push v nc).WF (fun i=>if i=nc then(v.k,v.n)else kd i) (nc+1):=by
 have hl:=h.len;refine⟨by simp[FR.push,hl],by have:=h.loc;simp[FR.push];omega,by simpa[FR.push]using hlim,fun u hu=>?_,fun c hc=>?_,fun i hi hi'=>?_⟩
 ·simp only[FR.push,List.mem_append,List.mem_singleton]at hu;rcases hu with hu|rfl
  ·exact h.fld u hu
  ·exact hv
 ·simp only[FR.push,List.mem_append,List.mem_singleton]at hc;rcases hc with hc|rfl
  ·have:=h.num c hc;omega
  ·omega
 ·by_cases e:i<f.vs.length
  ·have e':i<f.cs.length:=zO
   have a1:(f.push v nc).vs[i]=f.vs[i]:=List.getElem_append_left e;have a2:(f.push v nc).cs[i]=f.cs[i]:=List.getElem_append_left e';rw[a1];generalize (f.push v nc).cs[i]=ci at a2 ⊢;subst a2;have:=h.num _ (List.getElem_mem e');rw[if_neg zO];exact h.kind i e e'
  ·have hi2:i=f.vs.length:=by simp[FR.push]at hi;omega
   have a1:(f.push v nc).vs[i]=v:=by simp[FR.push,hi2]
   have a2:(f.push v nc).cs[i]=nc:=by simp[FR.push,hi2,<-hl]
   rw[a1];generalize (f.push v nc).cs[i]=ci at a2 ⊢;subst a2;simp
theorem zsp{S:ST}(h:S.WF)(v:VD)(hv:FldV v)(l:List Int)(hl:l.length<=1000)(hf:∀x∈l,I64 x)(hk:(v.k=1->l.length=1)/\(v.k=2->(l.length:Int)=v.n)/\(v.k=1\/v.k=2\/v.k=3))(hlim:S.cur.vs.length+1<=4398046511000) :
  ((S.newCell l).setCur (S.cur.push v S.nc)).WF:=by
 obtain⟨kd,h1,h2,h3⟩:=h.ex;have hn:=zn3 h l (v.k,v.n) hl hf hk;have hkd:∀i,i<S.nc+1->(((fun i=>if i=S.nc then(v.k,v.n)else kd i) i).1=1->((S.newCell l).cell i).length=1)/\(((fun i=>if i=S.nc then(v.k,v.n)else kd i) i).1=2->(((S.newCell l).cell i).length:Int)=((fun i=>if i=S.nc then(v.k,v.n)else kd i) i).2)/\(((fun i=>if i=S.nc then(v.k,v.n)else kd i) i).1=1\/((fun i=>if i=S.nc then(v.k,v.n)else kd i) i).1=2\/((fun i=>if i=S.nc then(v.k,v.n)else kd i) i).1=3):=fun i hi=>by
  simp only[ST.newCell];by_cases e:i=S.nc
  ·subst e;simpa using hk
  ·simp only[e,if_false];exact h3 i zO
 by_cases h0:S.calls.length=0
 ·have hc:S.calls=[]:=List.length_eq_zero_iff.1 h0;have h0':(S.newCell l).calls.length=0:=h0;rw[zmS h0]at hlim ⊢;simp only[ST.setCur,h0',if_true];refine⟨⟨_,zwu h1 v hv hlim,fun g hg=>?_,hkd⟩,hn.ncalls,hn.cells,hn.tin,hn.tout⟩;have:g∈S.calls:=hg;rw[hc]at this
  cases this
 ·have h0':¬ (S.newCell l).calls.length=0:=h0;have hcu:S.cur.WF kd S.nc:=by rw[zna zO];exact h2 _ (List.getElem_mem _)
  simp only[ST.setCur,h0',if_false];refine⟨⟨_,h1.new (v.k,v.n),fun g hg=>?_,hkd⟩,by simpa using hn.ncalls,hn.cells,hn.tin,hn.tout⟩;rcases List.mem_or_eq_of_mem_set hg with hg|rfl
  ·exact(h2 g hg).new _
  ·exact zwu hcu v hv hlim
def zlv(S:ST)(v:VD)(x:Int):Int×ST :=
 if ¬ ((v.k=1\/v.k=3)/\v.n=0)then(7,S)
 else if (S.cur.at v.s).isSome=true then(22,S)
 else(0,(S.newCell (if v.k=1 then [x]else [])).setCur (S.cur.push v S.nc))
theorem zrr{W:World}{n0:Nat}{P:Ph}{S:ST}(h:SR W n0 P S)(v:VD)(id b B O:Nat)(hb:P.cb id=b)(hcp:curP P S=⟨B,O,none⟩)(hlim:S.cur.vs.length<=4398046511000)(hwf:(S.setCur (S.cur.push v id)).WF) :
  Calls prog 104 #[.pointer (some ⟨B,O,none⟩),.agg #[.string v.s,zj v.k,zi v.n],.pointer (some ⟨b,0,none⟩)] W fun e W'=>(∃u,e=.returned u) /\
   W'.cell? ⟨B,O+2,none⟩=some (zi S.cur.loc)/\W'.frozen? ⟨B,O+2,none⟩=false/\∃P',SStp n0 P S W P' (S.setCur (S.cur.push v id)) (W'.setCell ⟨B,O+2,none⟩ (zi ((S.cur.loc:Int)+1)))/\P'.sb=P.sb:=by
 obtain⟨e0,aY,ho⟩:=zlB h;obtain⟨g1,g2,g3⟩:=zqj P S;rw[hcp]at e0 aY;dsimp only at e0 aY;have eO:O=oI S:=by injection e0
 subst eO;have hadd:=zKA h v (some ⟨P.cb id,0,none⟩) hlim;rw[hcp,hb]at hadd;refine hadd.mono ?_;rintro e W' ⟨hu,vv,vc,hst⟩;have hr:=hst.rws;refine⟨hu,hr.cell (hI S) (by rw[zky];exact aY) ?_,hr.frozen (hI S) (by rw[zky];exact aY) _,P.setCur S vv vc,?_,?_⟩
 ·rw[zky]
  show(((rows P S (hI S)).xs.set (oI S) vv).set (oI S+1) vc)[oI S+2]?=_
  rw[List.getElem?_set_ne zO,List.getElem?_set_ne zO];exact g3
 ·have:=zxp h v id vv vc hwf (by rw[hb];exact hst);rw[hcp]at this;exact this
 ·unfold Ph.setCur;split<;>rfl
theorem zyE{W:World}{n0:Nat}{P:Ph}{S:ST}(h:SR W n0 P S)(v:VD)(hfv:FldV v)(x:Int)(hx:I64 x)(hlim:S.cur.vs.length+1<=4398046511000):Calls prog 137 #[.pointer (some ⟨P.sb,0,none⟩),.agg #[.string v.s,zj v.k,zi v.n],zi x] W fun e W'=>e=.returned (zi (zlv S v x).1)/\∃P',SStp n0 P S W P' (zlv S v x).2 W'/\P'.sb=P.sb:=by
 have HS:=zh h;obtain⟨kd,hw⟩:=h.curWF;obtain⟨A,c,hcv,hc,hrow⟩:=h.curVs;obtain⟨h3,h4,h5⟩:=h.cur3;rw[hcv]at h3;have HLOC:=zh (show S.cur.loc<=4398046511000 by have:=hw.loc;have:=hw.lim;omega);obtain⟨R,hR⟩:=zX (zlv S v x);rw[hR];have HRR:=zh hR;have cK:=zh (fun W' (hb:zw W W')=>zlm (h.later hb));have dQ:=zh (fun W' (hb:zw W W')=>zom S.cur.vs A c v.s (curP P S) W' (zb hb h3) (hrow.later hb) hw.lim);obtain⟨vm,vk,vn⟩:=v;dsimp only at dQ ⊢;clear h hw hcv hrow h3 h4 h5 hR;by_cases k13:vk=1\/vk=3
 ·by_cases hn:vn=0
  ·subst hn;obtain⟨r,hr⟩:=zX (S.cur.at vm);have hr':zmg S.cur.vs vm S.cur.vs.length=r:=hr;rw[hr']at dQ;have HR2:=zh (show R=if r.isSome=true then(22,S)else(0,(S.newCell (if vk=1 then [x]else [])).setCur (S.cur.push ⟨vm,vk,0⟩ S.nc)) by
    rw[<-HRR.out,zlv,if_neg (by simp[k13]),hr])
   obtain⟨B,O,hcp⟩:∃B O,curP P S=⟨B,O,none⟩:=⟨_,_,(zlB HS.out).1⟩
   rw[hcp]at dQ cK;have vP:=zh hcp;clear HRR hr hr' hcp;rcases r with _|i
   ·rcases k13 with rfl|rfl
    ·simp only[idxZ]at dQ;go_enter func137,ntmps137;go_wp2_with fail;refine(cK.out _ (zkb zr _)).mono ?_;rintro e w1 ⟨rfl,rfl⟩;go_wp2_with fail;refine(dQ.out _ (zkb zr _)).mono ?_;rintro e w2 ⟨rfl,aj⟩;have hvb:=zkc (heap_alloc_new W (.cells #[.string vm,zj 1,zi 0] 38)) aj;have hva:=fun o=>zkd hvb o;have u0:∀o,(w2.alloc o).cell? ⟨W.heap.size,0,none⟩=some (.string vm):=fun o=>zc (hva o) rfl;have u1:∀o,(w2.alloc o).cell? ⟨W.heap.size,1,none⟩=some (zj 1):=fun o=>zc (hva o) rfl;have u2:∀o,(w2.alloc o).cell? ⟨W.heap.size,2,none⟩=some (zi 0):=fun o=>zc (hva o) rfl;have cZ:=fun o o'=>zkd (hva o) o';have t0:∀o o',((w2.alloc o).alloc o').cell? ⟨W.heap.size,0,none⟩=some (.string vm):=fun o o'=>zc (cZ o o') rfl;have t1:∀o o',((w2.alloc o).alloc o').cell? ⟨W.heap.size,1,none⟩=some (zj 1):=fun o o'=>zc (cZ o o') rfl
     have t2:∀o o',((w2.alloc o).alloc o').cell? ⟨W.heap.size,2,none⟩=some (zi 0):=fun o o'=>zc (cZ o o') rfl;have s1:=zr7 HS.out (zka (zkb zr _) aj) x hx;have hwf:=zsp HS.out.wf ⟨vm,1,0⟩ hfv [x] zS (by simpa using hx) zS hlim;have HX:=zh (show R=(0,(S.newCell [x]).setCur (S.cur.push ⟨vm,1,0⟩ S.nc)) by rw[HR2.out];simp);have HAD:=zh (zrr s1.sr ⟨vm,1,0⟩ S.nc w2.heap.size B O (by simp[Ph.newCell]) vP.out (by show S.cur.vs.length<=_;omega) hwf);have bH:=zh s1;dsimp only[znh]at HAD;have hl1:=HLOC.out;clear hva cZ s1 hwf HR2;go_wp2_with fail;refine HAD.out.mono ?_;rintro e w4 ⟨⟨u,rfl⟩,y0,y1,P2,hs2,hp2⟩;have HS2:=zh hs2;have lT:=zh hp2;obtain⟨lc,hlc⟩:=zX (S.cur.loc);rw[hlc]at y0 HS2 hl1;clear hs2 hp2 hlc;go_wp2_with fail;go_ret;refine⟨by rw[HX.out];rfl,P2,?_,lT.out⟩;rw[HX.out];exact bH.out.trans HS2.out
    ·simp only[idxZ]at dQ;go_enter func137,ntmps137;go_wp2_with fail;refine(cK.out _ (zkb zr _)).mono ?_;rintro e w1 ⟨rfl,rfl⟩;go_wp2_with fail;refine(dQ.out _ (zkb zr _)).mono ?_;rintro e w2 ⟨rfl,aj⟩;have hvb:=zkc (heap_alloc_new W (.cells #[.string vm,zj 3,zi 0] 38)) aj;have hva:=fun o=>zkd hvb o;have u0:∀o,(w2.alloc o).cell? ⟨W.heap.size,0,none⟩=some (.string vm):=fun o=>zc (hva o) rfl;have u1:∀o,(w2.alloc o).cell? ⟨W.heap.size,1,none⟩=some (zj 3):=fun o=>zc (hva o) rfl;have u2:∀o,(w2.alloc o).cell? ⟨W.heap.size,2,none⟩=some (zi 0):=fun o=>zc (hva o) rfl;have cZ:=fun o o'=>zkd (hva o) o';have t0:∀o o',((w2.alloc o).alloc o').cell? ⟨W.heap.size,0,none⟩=some (.string vm):=fun o o'=>zc (cZ o o') rfl;have t1:∀o o',((w2.alloc o).alloc o').cell? ⟨W.heap.size,1,none⟩=some (zj 3):=fun o o'=>zc (cZ o o') rfl
     have t2:∀o o',((w2.alloc o).alloc o').cell? ⟨W.heap.size,2,none⟩=some (zi 0):=fun o o'=>zc (cZ o o') rfl;have s1:=zqa HS.out (zka (zkb zr _) aj);have hwf:=zsp HS.out.wf ⟨vm,3,0⟩ hfv [] zS zS zS hlim;have HX:=zh (show R=(0,(S.newCell []).setCur (S.cur.push ⟨vm,3,0⟩ S.nc)) by rw[HR2.out];simp);have HAD:=zh (zrr s1.sr ⟨vm,3,0⟩ S.nc w2.heap.size B O (by simp[Ph.newCell]) vP.out (by show S.cur.vs.length<=_;omega) hwf);have bH:=zh s1;dsimp only[znh]at HAD;have hl1:=HLOC.out;clear hva cZ s1 hwf HR2;go_wp2_with fail;refine HAD.out.mono ?_;rintro e w4 ⟨⟨u,rfl⟩,y0,y1,P2,hs2,hp2⟩;have HS2:=zh hs2;have lT:=zh hp2;obtain⟨lc,hlc⟩:=zX (S.cur.loc);rw[hlc]at y0 HS2 hl1;clear hs2 hp2 hlc;go_wp2_with fail;go_ret;refine⟨by rw[HX.out];rfl,P2,?_,lT.out⟩;rw[HX.out];exact bH.out.trans HS2.out
   ·have HX:=zh (show R=(22,S) by rw[HR2.out];rfl);simp only[idxZ]at dQ;have hi0:¬ (i:Int)<0:=zO
    clear HR2;rcases k13 with rfl|rfl
    all_goals
     go_enter func137,ntmps137;go_wp2_with fail;refine(cK.out _ (zkb zr _)).mono ?_;rintro e w1 ⟨rfl,rfl⟩;go_wp2_with fail;refine(dQ.out _ (zkb zr _)).mono ?_;rintro e w2 ⟨rfl,aj⟩;have q2:=zka (zkb zr _) aj;clear aj;go_wp2_with fail;go_ret;exact⟨by rw[HX.out];rfl,P,by rw[HX.out];exact SStp.refl HS.out q2,rfl⟩
  ·have HX:=zh (show R=(7,S) by rw[<-HRR.out,zlv,if_pos (by simp[hn])]);have e1:(vn==0)=false:=by simpa using hn
   have e2:(vn != 0)=true:=by simpa using hn
   clear hn HRR;rcases k13 with rfl|rfl
   all_goals
    go_enter func137,ntmps137;go_wp2_with fail;go_ret;exact⟨by rw[HX.out];rfl,P,by rw[HX.out];exact SStp.refl HS.out (zkb zr _),rfl⟩
 ·have HX:=zh (show R=(7,S) by rw[<-HRR.out,zlv,if_pos (by simp[k13])]);have x1:(vk==1)=false:=by simp;omega
  have x3:(vk==3)=false:=by simp;omega
  have y1:(vk != 1)=true:=by simp;omega
  have y3:(vk != 3)=true:=by simp;omega
  clear k13 HRR;go_enter func137,ntmps137;go_wp2_with fail;go_ret;exact⟨by rw[HX.out];rfl,P,by rw[HX.out];exact SStp.refl HS.out (zkb zr _),rfl⟩
def entL(f:FR)(acc:FR):List (VD×ByteArray)->Except Int FR
 | []=>.ok acc
 | (v,a)::r=>match f.at a with
  | none=>.error 6
  | some i=>if (f.vs.getD i ⟨⟨#[]⟩,0,0⟩).k=v.k/\(f.vs.getD i ⟨⟨#[]⟩,0,0⟩).n=v.n then entL f ⟨acc.vs++[v],acc.cs++[f.cs.getD i 0],0⟩ r else .error 7
def entR(S:ST):Except Int FR->Int×ST
 | .error e=>(e,S)
 | .ok f=>if 100<=S.calls.length then(19,S)else(0,{ S with calls:=S.calls++[f] })
def zly(S:ST)(ps:List VD)(ss:List ByteArray):Int×ST :=
 if ps.length≠ss.length then(7,S)else entR S (entL S.cur ⟨[],[],0⟩ (ps.zip ss))
def bldF(cb:Nat->Nat)(nb:Nat)(vv vc:Value)(f:FR):Fin 3->RowD
 | 0=>⟨boxV nb,164,3,1,[vv,vc,zi f.loc]⟩
 | 1=>⟨vv,38,3,f.vs.length,zkX f.vs⟩
 | 2=>⟨vc,169,1,f.vs.length,ptrs cb f.cs⟩
theorem zyp(cb:Nat->Nat)(w:World):Rws (w.alloc (.cells #[zn,zn,zi 0] 164)) w.heap.size (bldF cb w.heap.size zn zn ⟨[],[],0⟩):=by
 refine⟨fun i=>?_,fun i j b hij hi hj=>?_⟩
 ·match i with
  | 0=>exact znU (k:=3) w w.heap.size _ [_,_,_] zl rfl
  | 1=>exact World.ownsRow_nil _ _ _ _
  | 2=>exact World.ownsRow_nil _ _ _ _
 ·match i,j with
  | 0,0=>exact hij rfl
  | 0,1=>simp[bldF,Value.ownBlock]at hj
  | 0,2=>simp[bldF,Value.ownBlock]at hj
  | 1,_=>simp[bldF,Value.ownBlock]at hi
  | 2,_=>simp[bldF,Value.ownBlock]at hi
theorem zk2{C:Nat->Prop}{w w':World}(h:Chg C w w'){p:Addr}{u:Value}(hp:w.cell? p=some u)(hc:¬ C p.block):w'.cell? p=some u:=(World.cell?_of_block (a:=p) (h.block _ (World.block_lt_of_cell? w p hp) hc)).trans hp
theorem zKB{cb:Nat->Nat}{W:World}{n1 nb:Nat}{vv vc:Value}{f:FR}(h:Rws W n1 (bldF cb nb vv vc f))(hlim:f.vs.length<=4398046511000)(v:VD)(id:Nat) :
  Calls prog 104 #[.pointer (some ⟨nb,0,none⟩),.agg #[.string v.s,zj v.k,zi v.n],.pointer (some ⟨cb id,0,none⟩)] W fun e W'=>(∃u,e=.returned u)/\∃rF iR,Rws W' n1 (bldF cb nb rF iR ⟨f.vs++[v],f.cs++[id],f.loc⟩)/\Chg (OwnB (bldF cb nb vv vc f)) W W':=by
 have hadd:=zso h (0:Fin 3) 1 2 zY zY zY nb 0 rfl rfl rfl (zkX f.vs) (ptrs cb f.cs) f.vs.length rfl rfl hlim v (some ⟨cb id,0,none⟩);refine hadd.mono ?_;rintro e W' ⟨hu,rF,iR,hst⟩;refine⟨hu,rF,iR,?_,hst.chg⟩;have:=hst.rws;refine(Stp.refl this).cast ?_ |>.rws
 funext i
 match i with
 | 0=>simp[updR,bldF]
 | 1=>simp[updR,bldF,zkX]
 | 2=>simp[updR,bldF,ptrs]
theorem Stp.take2{I:Type}[DecidableEq I]{n0:Nat}{d:I->RowD}{W W':World}(h:Rws W n0 d)(hb:zw W W')(i j:I)(hij:i≠j)(r1 r2:RowD)(o1:W'.ownsRow n0 r1.E r1.sz r1.v r1.n r1.xs)(o2:W'.ownsRow n0 r2.E r2.sz r2.v r2.n r2.xs)
  (n1:∀b,r1.v.ownBlock=some b->W.heap.size<=b)(n2:∀b,r2.v.ownBlock=some b->W.heap.size<=b)(hs:∀b,r1.v.ownBlock=some b->r2.v.ownBlock≠some b):Stp n0 d W (updR (updR d i r1) j r2) W':=by
 have hl:=h.later hb;have key:∀q,(q=j/\updR (updR d i r1) j r2 q=r2)\/(q≠j/\q=i/\updR (updR d i r1) j r2 q=r1)\/(q≠j/\q≠i/\updR (updR d i r1) j r2 q=d q):=fun q=>by
  by_cases e:q=j
  ·subst e;exact .inl ⟨rfl,zky⟩
  ·by_cases e2:q=i
   ·subst e2;exact .inr (.inl ⟨e,rfl,by rw[zkm e,zky]⟩)
   ·exact .inr (.inr ⟨e,e2,by rw[zkm e,zkm e2]⟩)
 have hlt:∀q b,(d q).v.ownBlock=some b->b<W.heap.size:=fun q b hq=>(h.lt q b hq).2;refine⟨⟨fun q=>?_,fun p q b hpq h1 h2=>?_⟩,Chg.of_below hb,fun b ⟨q,hq⟩=>?_⟩
 ·rcases key q with⟨_,e⟩|⟨_,_,e⟩|⟨_,_,e⟩
  ·rw[e];exact o2
  ·rw[e];exact o1
  ·rw[e];exact hl.row q
 ·rcases key p with⟨ep,e⟩|⟨_,ep,e⟩|⟨_,_,e⟩<;>rcases key q with⟨eq,e'⟩|⟨_,eq,e'⟩|⟨_,_,e'⟩<;>rw[e]at h1<;>rw[e']at h2
  ·exact hpq (ep.trans eq.symm)
  ·exact hs b h2 h1
  ·have:=n2 b h1;have:=hlt _ b h2;omega
  ·exact hs b h1 h2
  ·exact hpq (ep.trans eq.symm)
  ·have:=n1 b h1;have:=hlt _ b h2;omega
  ·have:=n2 b h2;have:=hlt _ b h1;omega
  ·have:=n1 b h2;have:=hlt _ b h1;omega
  ·exact h.sep p q b hpq h1 h2
 ·rcases key q with⟨_,e⟩|⟨_,_,e⟩|⟨_,_,e⟩<;>rw[e]at hq
  ·exact .inr (n2 b hq)
  ·exact .inr (n1 b hq)
  ·exact .inl ⟨q,hq⟩
theorem zv1{f:FR}{kd:Nat->Int×Int}{nc:Nat}(h:f.WF kd nc):∀(l:List (VD×ByteArray)) (acc g:FR),acc.WF kd nc->acc.loc=0->(∀p∈l,FldV p.1)->acc.vs.length+l.length<=4398046511000->entL f acc l=.ok g->g.WF kd nc/\g.loc=0
 | [],acc,g,ha,h0,_,_,he=>by simp only[entL,Except.ok.injEq]at he;subst he;exact⟨ha,h0⟩
 | (v,a)::r,acc,g,ha,h0,hf,hl,he=>by
  rw[entL]at he
  split at he
  ·cases he
  ·next i hi =>
   have hil:=FR.at_lt hi;have hic:i<f.cs.length:=by rw[h.len];exact hil
   split at he
   ·next hk =>
    simp only[List.getD_eq_getElem?_getD,List.getElem?_eq_getElem hil,List.getElem?_eq_getElem hic,Option.getD_some]at hk he;refine zv1 h r _ g ?_ rfl (fun p hp=>hf p (List.mem_cons_of_mem _ hp)) (by simp at hl ⊢;omega) he;refine⟨by simp[ha.len],zS,by simp at hl ⊢;omega,fun u hu=>?_,fun c hc=>?_,fun q hq hq'=>?_⟩
    ·simp only[List.mem_append,List.mem_singleton]at hu;rcases hu with hu|rfl
     ·exact ha.fld u hu
     ·exact hf _ (List.mem_cons_self ..)
    ·simp only[List.mem_append,List.mem_singleton]at hc;rcases hc with hc|rfl
     ·exact ha.num c hc
     ·exact h.num _ (List.getElem_mem hic)
    ·have hal:=ha.len;dsimp only at hq hq' ⊢;by_cases e:q<acc.vs.length
     ·have e':q<acc.cs.length:=zO
      simp only[List.getElem_append_left e,List.getElem_append_left e'];exact ha.kind q e e'
     ·have e2:q=acc.vs.length:=by simp at hq;omega
      have e3:(acc.vs++[v])[q]=v:=by simp[e2]
      have e4:(acc.cs++[f.cs[i]])[q]=f.cs[i]:=by simp[e2,<-hal]
      rw[e3,e4,h.kind i hil hic,hk.1,hk.2]
   ·cases he
theorem ztu{S:ST}(h:S.WF)(ps:List VD)(ss:List ByteArray)(g:FR)(hf:∀v∈ps,FldV v)(hl:ps.length<=4398046511000)(he:entL S.cur ⟨[],[],0⟩ (ps.zip ss)=.ok g)(hn:S.calls.length<100):({ S with calls:=S.calls++[g] }:ST).WF/\g.loc=0/\g.cs.length=g.vs.length:=by
 obtain⟨kd,h1,h2,h3⟩:=h.ex;have hc:S.cur.WF kd S.nc:=by
  rcases Nat.eq_zero_or_pos S.calls.length with h0|h0
  ·rw[zmS h0];exact h1
  ·rw[zna h0];exact h2 _ (List.getElem_mem _)
 have:=zv1 hc (ps.zip ss) ⟨[],[],0⟩ g ⟨rfl,zl,zS,zS,zS,zS⟩ rfl (fun p hp=>hf _ (List.of_mem_zip hp).1) (by simp;omega) he;refine⟨⟨⟨kd,h1,fun f hf=>?_,h3⟩,by simp;omega,h.cells,h.tin,h.tout⟩,this.2,this.1.len⟩;simp only[List.mem_append,List.mem_singleton]at hf;rcases hf with hf|rfl
 ·exact h2 f hf
 ·exact this.1
theorem zpN{P P':Ph}{g:FR}:∀(fs:List FR) (i:Nat),(∀q,q<i+fs.length->P'.fV q=P.fV q/\P'.fC q=P.fC q)->zkV P' i (fs++[g])=zkV P i fs++[P'.fV (i+fs.length),P'.fC (i+fs.length),zi g.loc]
 | [],i,_=>by simp[zkV]
 | f::fs,i,h=>by
  have:=zpN (P:=P) (P':=P') (g:=g) fs (i+1) (fun q hq=>h q (by simp;omega));have h0:=h i zS;simp only[List.cons_append,zkV,this,h0.1,h0.2,List.length_cons];rw[show i+1+fs.length=i+(fs.length+1) by omega]
def Ph.enter(P:Ph)(m:Nat)(vf vv vc:Value):Ph:={ P with vF:=vf,fV:=fun i=>if i=m then vv else P.fV i,fC:=fun i=>if i=m then vc else P.fC i }
theorem ztE(P:Ph)(S:ST)(g:FR)(vf vv vc:Value)(hg:g.loc=0)(hgl:g.cs.length=g.vs.length):rows (P.enter S.calls.length vf vv vc) { S with calls:=S.calls++[g] } =
  updR (updR (updR (updR (rows P S) (.fv S.calls.length) ⟨vv,38,3,g.vs.length,zkX g.vs⟩) (.fc S.calls.length) ⟨vc,169,1,g.vs.length,ptrs P.cb g.cs⟩) .calls ⟨vf,164,3,S.calls.length+1,zkV P 0 S.calls++[vv,vc,zi 0]⟩) .sb
   { rows P S .sb with xs:=(rows P S .sb).xs.set 3 vf }:=by
 funext r
 cases r with
 | calls =>
  have:=zpN (P:=P) (P':=P.enter S.calls.length vf vv vc) (g:=g) S.calls 0 (fun q hq=>by
   have:q≠S.calls.length:=zO
   simp[Ph.enter,this])
  simp only[updR,reduceCtorEq,if_false,if_true,rows,this];simp[Ph.enter,hg]
 | fv i =>
  by_cases e:i=S.calls.length
  ·subst e;simp[updR,rows,Ph.enter]
  ·simp only[updR,Res.fv.injEq,e,reduceCtorEq,if_false,rows,Ph.enter];by_cases hi:i<S.calls.length
   ·rw[List.getElem?_append_left hi]
   ·rw[List.getElem?_eq_none (show(S.calls++[g]).length<=i by simp;omega),List.getElem?_eq_none zO]
 | fc i =>
  by_cases e:i=S.calls.length
  ·subst e;simp[updR,rows,Ph.enter,hgl]
  ·simp only[updR,Res.fc.injEq,e,reduceCtorEq,if_false,rows,Ph.enter];by_cases hi:i<S.calls.length
   ·rw[List.getElem?_append_left hi]
   ·rw[List.getElem?_eq_none (show(S.calls++[g]).length<=i by simp;omega),List.getElem?_eq_none zO]
 | sb=>simp[updR,rows,Ph.enter]
 | tb=>simp[updR,rows,Ph.enter]
 | tin=>simp[updR,rows,Ph.enter]
 | tout=>simp[updR,rows,Ph.enter]
 | bv=>simp[updR,rows,Ph.enter]
 | bc=>simp[updR,rows,Ph.enter]
 | cb i=>simp[updR,rows,Ph.enter]
 | ci i=>simp[updR,rows,Ph.enter]
 | x i=>simp[updR,rows]
theorem zlu{w:World}{n0 n1:Nat}{E:TypeId}{size:Nat}{v:Value}{n:Nat}{xs:List Value}(h:w.ownsRow n1 E size v n xs)(hn:n0<=n1):w.ownsRow n0 E size v n xs:=by
 obtain⟨x1,x2⟩:=h;refine⟨x1,?_⟩;rcases x2 with x2|⟨g,cap,cur,y1,y2,y3⟩
 ·exact .inl x2
 ·exact .inr ⟨g,cap,cur,y1,zO,y3⟩
theorem zvY{W W1 W2 w3:World}{n0:Nat}{P:Ph}{S:ST}(h:SR W n0 P S)(hb:zw W W1)(nb:Nat)(vv vc:Value)(g:FR)(hr:Rws W1 W.heap.size (bldF P.cb nb vv vc g))(hg:g.loc=0)(hgl:g.cs.length=g.vs.length)(hwf:({ S with calls:=S.calls++[g] }:ST).WF)
  (hb2:zw W1 W2)(v':Value)(h2:w3.ownsRow n0 164 3 v' (S.calls.length+1) (zkV P 0 S.calls++[vv,vc,zi 0]))(h3:W2.grownBy w3 P.vF.ownBlock)(h5:v'.ownBlock=P.vF.ownBlock\/v'.ownBlock=some W2.heap.size) :
  w3.cell? ⟨P.sb,3,none⟩=some P.vF/\w3.frozen? ⟨P.sb,3,none⟩=false/\SStp n0 P S W (P.enter S.calls.length v' vv vc) { S with calls:=S.calls++[g] } (w3.setCell ⟨P.sb,3,none⟩ v'):=by
 have hn:n0<=W.heap.size:=by have:=h.rws.lt .sb P.sb rfl;omega
 have s1:=Stp.take2 h.rws hb (.fv S.calls.length) (.fc S.calls.length) zS ⟨vv,38,3,g.vs.length,zkX g.vs⟩ ⟨vc,169,1,g.vs.length,ptrs P.cb g.cs⟩
  (zlu (hr.row 1) hn) (zlu (hr.row 2) hn) (fun b e=>(hr.lt 1 b e).1) (fun b e=>(hr.lt 2 b e).1) (fun b e=>hr.sep 1 2 b zY e)
 have s2:=s1.below hb2;have hc:updR (updR (rows P S) (.fv S.calls.length) ⟨vv,38,3,g.vs.length,zkX g.vs⟩) (.fc S.calls.length) ⟨vc,169,1,g.vs.length,ptrs P.cb g.cs⟩ .calls=rows P S .calls:=rfl;have s3:=Stp.upd (i:=Res.calls) (r:=⟨v',164,3,S.calls.length+1,zkV P 0 S.calls++[vv,vc,zi 0]⟩) s2.rws ((Chg.row h3).mono fun b _ hb=>hb) h2 (fun b hb=>by
  rcases h5 with h5|h5
  ·exact .inl (h5▸hb)
  ·exact .inr (by rw[h5]at hb;injection hb with hb;omega))
 have s4:=Stp.set (i:=Res.sb) s3.rws (g:=P.sb) rfl (o:=3) (by show 3<5;decide) v';refine⟨s3.rws.cell .sb (g:=P.sb) (o:=3) rfl rfl,s3.rws.frozen .sb (g:=P.sb) rfl 3,⟨?_,hwf⟩⟩;refine((s2.trans s3).trans s4).cast ?_;rw[ztE P S g v' vv vc hg hgl];rfl
theorem zLl:IsFn prog 104 f104:=⟨func104,zK,zK⟩
theorem zLc:(prog.info? 164).map (fun i=>(i.zero,i.size,i.bytes))=some (some (.agg #[zn,zn,zi 0]),3,56):=zK
theorem zyn(A0 A1:Option Addr)(l0 c0 l1 c1:Nat)(x:Int)(w:World):(Instr.buildSlice 165 1 #[(0,.agg #[.slice A0 l0 c0,.slice A1 l1 c1,zi x])]).run prog w=.ok (.slice (some ⟨w.heap.size,0,none⟩) 1 1) (w.alloc (.cells #[.slice A0 l0 c0,.slice A1 l1 c1,zi x] 164)):=zK
theorem zwR{W:World}{n0:Nat}{P:Ph}{S:ST}(h:SR W n0 P S)(ps:List VD)(ss:List ByteArray)(A D:Option Addr)(c d:Nat)(hp:RowV W Any A ps)(hs:RowS W D ss)(hlp:ps.length<=4398046511000)(_hls:ss.length<=17592186044416) :
  Calls prog 158 #[.pointer (some ⟨P.sb,0,none⟩),.slice A ps.length c,.slice D ss.length d] W fun e W'=>e=.returned (zi (zly S ps ss).1)/\∃P',SStp n0 P S W P' (zly S ps ss).2 W'/\P'.sb=P.sb:=by
 obtain⟨R,hR⟩:=zX (zly S ps ss);rw[hR];have HS:=zh h;have HP:=zh hp;have az:=zh hs;have HRR:=zh hR;clear hR hp hs;by_cases hlen:ps.length=ss.length
 ·rw[<-hlen];obtain⟨kd,hw⟩:=h.curWF;obtain⟨A0,c0,hcv,hc,hrow⟩:=h.curVs;obtain⟨h3,h4,h5⟩:=h.cur3;rw[hcv]at h3;obtain⟨B,O,hcp⟩:∃B O,curP P S=⟨B,O,none⟩:=⟨_,_,(zlB h).1⟩
  have cK:=zh (fun W' (hb:zw W W')=>zlm (h.later hb));have dQ:=zh (fun(s:ByteArray) W' (hb:zw W W')=>zom S.cur.vs A0 c0 s (curP P S) W' (zb hb h3) (hrow.later hb) hw.lim);rw[hcp]at h3 h4 cK dQ;dsimp only at h3 h4;have ae:=zh hrow;have CO:=zh h.curCs;have eH:=zh hw;have HL:=zh hlen;have H3:=zh h3;have H4:=zh h4;obtain⟨E,hE⟩:=zX (entL S.cur ⟨[],[],0⟩ (ps.zip ss));have HE:=zh (show R=entR S E by rw[<-HRR.out,zly,if_neg (by simp[hlen]),hE]);have vM:=zh hE;have hn0:=HS.out.wf.ncalls;clear h hw hcv hrow h3 h4 h5 HRR hlen hE;go_enter func158,ntmps158;go_wp2_with fail;refine(cK.out _ (zkb zr _)).mono ?_;rintro e w1 ⟨rfl,rfl⟩;go_wp2_with fail
  go_loopw [23] (fun i wr=>∃j:Nat,j<=ps.length/\i=zi j/\Hid (zw W wr)/\∃vv vc acc,Hid (Rws wr W.heap.size (bldF P.cb W.heap.size vv vc acc))/\Hid (acc.vs.length=j)/\Hid (acc.loc=0)/\Hid (entL S.cur acc ((ps.zip ss).drop j)=E)) (fun i _=>ps.length-(intOf i).toNat)
  case atStart=>exact⟨0,Nat.zero_le _,rfl,zh (zkb zr _),zn,zn,⟨[],[],0⟩,zh (zyp P.cb W),zh rfl,zh rfl,vM⟩
  case round =>
   obtain⟨j,hj,rfl,ag,vv,vc,acc,HRW,jU,HA0,zz⟩:=hrel;by_cases hlt:j<ps.length
   ·have hlt2:j<ss.length:=by rw[<-HL.out];exact hlt
    obtain⟨a,rfl,-,⟨y0,y1,y2⟩,hfv⟩:=(HP.out.later ag.out) j hlt;obtain⟨b,s,rfl,Hs,x0⟩:=(az.out.later ag.out).nd hlt2;obtain⟨v,hv⟩:=zX (ps[j]);rw[hv]at y0 y1 y2 hfv;obtain⟨vm,vk,vn⟩:=v;dsimp only at y0 y1 y2;have hd:(ps.zip ss).drop j=(⟨vm,vk,vn⟩,s)::(ps.zip ss).drop (j+1):=by
     have hz:j<(ps.zip ss).length:=by rw[List.length_zip];omega
     rw[List.drop_eq_getElem_cons hz,List.getElem_zip,hv,Hs.out]
    have HD:=zh (hd▸zz.out);have hj1:(j:Int)<(ps.length:Int):=zO
    obtain⟨r,hr⟩:=zX (S.cur.at s);have q9:=zh (dQ.out s);have hr':zmg S.cur.vs s S.cur.vs.length=r:=hr;rw[hr']at q9;have Hr:=zh hr;clear hr hr' hv hd zz;have z0:=fun o=>zkj x0 o;go_wp2_with fail;refine(q9.out _ (zkb ag.out _)).mono ?_;rintro e w2 ⟨rfl,aj⟩;have HB2:=zh (zka (zkb ag.out (.cells #[.string vm,zj vk,zi vn] 38)) aj);have lD:=zh (zka (zkb (zs wr) (.cells #[.string vm,zj vk,zi vn] 38)) aj);have hvb:=zkc (heap_alloc_new wr (.cells #[.string vm,zj vk,zi vn] 38)) aj;have q0:w2.cell? ⟨wr.heap.size,0,none⟩=some (.string vm):=zc hvb rfl;have q1:w2.cell? ⟨wr.heap.size,1,none⟩=some (zj vk):=zc hvb rfl;have q2:w2.cell? ⟨wr.heap.size,2,none⟩=some (zi vn):=zc hvb rfl;clear aj hvb;rcases r with _|i
    ·have HX:=zh (show R=(6,S) by
      have h1:=HD.out;rw[entL,Hr.out]at h1;rw[HE.out,<-h1];rfl)
     simp only[idxZ];go_wp2_with fail;go_ret;exact⟨by rw[HX.out];rfl,P,by rw[HX.out];exact SStp.refl HS.out HB2.out,rfl⟩
    ·have hil:i<S.cur.vs.length:=FR.at_lt Hr.out;have hic:i<S.cur.cs.length:=by rw[eH.out.len];exact hil
     obtain⟨a0,rfl,-,⟨f0,f1,f2⟩,-⟩:=(ae.out.later HB2.out) i hil;obtain⟨u,hu⟩:=zX (S.cur.vs[i]);rw[hu]at f0 f1 f2;obtain⟨um,uk,un⟩:=u;dsimp only at f0 f1 f2;obtain⟨id,hid⟩:=zX (S.cur.cs[i]);have g3:=zb HB2.out H3.out;have g4:=zb HB2.out H4.out;obtain⟨gc,c2,hcc,hc2,hm2,hcell⟩:=zlg (zkK CO.out HB2.out) zO;have HGC:=zh (show gc<W.heap.size from(CO.out.lt gc (by rw[hcc];rfl)).2);rw[hcc]at g4;have hz:w2.cell? ⟨gc,i,none⟩=some (.pointer (some ⟨P.cb id,0,none⟩)):=by rw[hcell i zO];simp[ptrs,hic,hid]
     have HD2:=zh (show(if uk=vk/\un=vn then entL S.cur ⟨acc.vs++[⟨vm,vk,vn⟩],acc.cs++[id],0⟩ ((ps.zip ss).drop (j+1))else .error 7)=E by
      have h1:=HD.out;rw[entL,Hr.out]at h1;simp only[List.getD_eq_getElem?_getD,List.getElem?_eq_getElem hil,List.getElem?_eq_getElem hic,Option.getD_some,hu,hid]at h1;exact h1)
     have hi1:(i:Int)<(S.cur.vs.length:Int):=zO
     have hi2:¬ (i:Int)<0:=zO
     have hi3:(i:Int)<(S.cur.cs.length:Int):=zO
     simp only[idxZ];clear hcell hcc hu hid HD y0 y1 y2 x0 z0;obtain⟨nV,hnV⟩:=zX (S.cur.vs.length);obtain⟨nC,hnC⟩:=zX (S.cur.cs.length);rw[hnV]at g3 hi1;rw[hnC]at g4 hi3;clear hnV hnC hil hic;by_cases hk:uk=vk
     ·subst hk;by_cases hn:un=vn
      ·subst hn;have HE2:=zh (show entL S.cur ⟨acc.vs++[⟨vm,uk,un⟩],acc.cs++[id],0⟩ ((ps.zip ss).drop (j+1))=E by have:=HD2.out;simpa using this);clear HD2;go_wp2_with fail
       go_quiet (fail)
       go_wp2_with fail;obtain⟨w3,hw3⟩:=zX (w2.drewN nq);have hb3:zw w2 w3:=hw3▸zkM zr nq;rw[hw3];have p0:=zb hb3 q0;have p1:=zb hb3 q1;have p2:=zb hb3 q2;have p4:=zb hb3 g4;have p5:=zb hb3 hz;have HB3:=zh (zka HB2.out hb3);have HW3:=zh (HRW.out.later (zka lD.out hb3));clear q0 q1 q2 g3 g4 hz hw3 hb3 f0 f1 f2 nq;have hSS:zW (fun w':World=>zv w' wr.heap.size 0 (.string vm)/\zv w' wr.heap.size 1 (zj uk)/\zv w' wr.heap.size 2 (zi un)/\zv w' B (O+1) (.slice (some ⟨gc,0,none⟩) nC c2)/\zv w' gc i (.pointer (some ⟨P.cb id,0,none⟩))) zU w3.drew:=⟨⟨p0,p1,p2,p4,p5⟩,trivial⟩
       refine wp_region_noPanic ?_;refine zG hSS 8 ?_;refine zT 0 hSS ?_;refine zT 1 hSS ?_;refine zT 2 hSS ?_;refine zT 3 hSS ?_;refine zT 4 hSS ?_;refine zT 5 hSS ?_;refine zT 6 hSS ?_;refine zT 7 hSS ?_;refine zp 8 fun K hK=>?_;have hne:∀b,OwnB (bldF P.cb W.heap.size vv vc acc) b->W.heap.size<=b/\b<wr.heap.size:=fun b ⟨q,hq⟩=>HRW.out.lt q b hq;have hBs:B<W.heap.size:=World.block_lt_of_cell? W _ H3.out;have hgs:gc<W.heap.size:=HGC.out;have had:Calls prog 104 [.pointer (some ⟨W.heap.size,0,none⟩),.agg #[.string vm,zj uk,zi un],.pointer (some ⟨P.cb id,0,none⟩)].toArray w3.drew fun e W'=>∃u,e=.returned u/\∃rF iR,Rws W' W.heap.size (bldF P.cb W.heap.size rF iR ⟨acc.vs++[⟨vm,uk,un⟩],acc.cs++[id],acc.loc⟩)/\Chg (OwnB (bldF P.cb W.heap.size vv vc acc)) w3.drew W' :=
        (zKB (HW3.out.later zr.drew) (by rw[jU.out];omega) ⟨vm,uk,un⟩ id).mono fun e W' hh=>hh.1.elim fun u hu=>⟨u,hu,hh.2⟩
       refine zke zR (.func 104) [.tmp 7,.tmp 60,.tmp 67] _ zR 104 _ zLl zR _ zR _ had ?_;rintro v4 w4 ⟨rF,iR,hr4,hc4⟩;have HR4:=zh hr4;have ay:=zh (HB3.out.drew.trans (hc4.below (B:=W.heap.size) (by have:=HB3.out.size;simp;omega) fun b hb=>(hne b hb).1));have n1:¬ OwnB (bldF P.cb W.heap.size vv vc acc) wr.heap.size:=fun hb=>by have:=hne _ hb;omega
       have n2:¬ OwnB (bldF P.cb W.heap.size vv vc acc) B:=fun hb=>by have:=hne _ hb;omega
       have n3:¬ OwnB (bldF P.cb W.heap.size vv vc acc) gc:=fun hb=>by have:=hne _ hb;omega
       refine hK.out _ _ ⟨zk2 hc4 p0 n1,zk2 hc4 p1 n1,zk2 hc4 p2 n1,zk2 hc4 p4 n2,zk2 hc4 p5 n3⟩ ?_;clear hK K hSS hr4 hc4 had;(try simp only[zQ]);refine zd ?_;refine NoPanic.normal ?_;clear p0 p1 p2 p4 p5;go_wp2_with fail
       go_roundw
       case rel=>exact⟨j+1,zO,by go_num,ay,rF,iR,_,HR4,zh (by simp[jU.out]),HA0,by have h0:=HA0.out;rw[h0]at HR4 ⊢;exact HE2⟩
       case measure=>simp[intOf];omega
      ·have HX:=zh (show R=(7,S) by
        have h1:=HD2.out;rw[if_neg (by simp[hn])]at h1;rw[HE.out,<-h1];rfl)
       have n1:(un != vn)=true:=by simpa using hn
       clear HD2;go_wp2_with fail
       go_quiet (fail)
       go_wp2_with fail;go_ret;exact⟨by rw[HX.out];rfl,P,by rw[HX.out];exact SStp.refl HS.out (zkM HB2.out nq),rfl⟩
     ·have HX:=zh (show R=(7,S) by
       have h1:=HD2.out;rw[if_neg (by simp[hk])]at h1;rw[HE.out,<-h1];rfl)
      have n1:(uk != vk)=true:=by simpa using hk
      clear HD2;go_wp2_with fail
      go_quiet (fail)
      go_wp2_with fail;go_ret;exact⟨by rw[HX.out];rfl,P,by rw[HX.out];exact SStp.refl HS.out (zkM HB2.out nq),rfl⟩
   ·obtain rfl:j=ps.length:=zO
    have CK:=zh (show E=.ok acc by
     have h1:=zz.out;rw[List.drop_eq_nil_of_le (by rw[List.length_zip];omega)]at h1;rw[<-h1];rfl)
    have bH:=zh (HS.out.later ag.out);obtain⟨AF,cF,og,hcF,-⟩:=bH.out.calls;have x3:wr.cell? ⟨P.sb,3,none⟩=some (.slice AF S.calls.length cF):=by rw[<-og];exact zc bH.out.box rfl
    have ng:=zh og;obtain⟨L,hL⟩:=zX (S.calls.length);rw[hL]at x3 hn0;have gQ:=zh hL;have hj2:¬ (ps.length:Int)<(ps.length:Int):=zO
    clear og hL hcF zz;by_cases h100:100<=L
    ·have HX:=zh (show R=(19,S) by rw[HE.out,CK.out,entR,if_pos (by rw[gQ.out];exact h100)]);obtain rfl:L=100:=zO
     go_wp2_with fail;go_ret;exact⟨by rw[HX.out];rfl,P,by rw[HX.out];exact SStp.refl HS.out ag.out,rfl⟩
    ·have HX:=zh (show R=(0,{ S with calls:=S.calls++[acc] }) by rw[HE.out,CK.out,entR,if_neg (by rw[gQ.out];exact h100)]);obtain⟨hwf,hg0,hgl⟩:=ztu HS.out.wf ps ss acc (fun v hv=>by
      obtain⟨q,hq,rfl⟩:=List.mem_iff_getElem.1 hv;obtain⟨_,_,_,_,xA⟩:=HP.out q hq;exact xA) hlp (vM.out.trans CK.out) (by rw[gQ.out];omega)
     have HW:=zh hwf;have HGL:=zh hgl;obtain⟨A1,c1,hvv,-,-⟩:=zkh (HRW.out.row 1);obtain⟨A2,c2,cZ,-,-⟩:=zkh (HRW.out.row 2);change vv=.slice A1 acc.vs.length c1 at hvv;change vc=.slice A2 acc.vs.length c2 at cZ;obtain⟨nv,kI⟩:=zX (acc.vs.length);rw[kI]at hvv cZ;subst hvv cZ;have b0:wr.cell? ⟨W.heap.size,0,none⟩=some (.slice A1 nv c1):=HRW.out.cell 0 rfl rfl;have b1:wr.cell? ⟨W.heap.size,1,none⟩=some (.slice A2 nv c2):=HRW.out.cell 0 rfl rfl;have b2:wr.cell? ⟨W.heap.size,2,none⟩=some (zi 0):=by
      have:=HRW.out.cell 0 (g:=W.heap.size) (o:=2) (u:=zi acc.loc) rfl rfl;rw[hg0]at this;exact this
     have hsbl:P.sb<W.heap.size:=(HS.out.rws.lt .sb P.sb rfl).2;have hn00:n0<=W.heap.size:=by have:=HS.out.rws.lt .sb P.sb rfl;omega
     have hL1:¬ (100:Int)<=(L:Int):=zO
     have aX:=zh (fun W2 w3 hb2 v' h2 h3 h5=>zvY (W2:=W2) (w3:=w3) HS.out ag.out W.heap.size _ _ acc HRW.out hg0 hgl hwf hb2 v' h2 h3 h5);obtain⟨i1,hi1,hz0,hz1,hz2⟩:=info_parts zLc;have hbs:=zyn;clear hwf hgl kI;go_upto_region 19 with fail;have hSS:(fun w':World=>zN3 w' W.heap.size (.slice A1 nv c1) (.slice A2 nv c2) (zi 0)) wr.drew/\(fun w':World=>zv w' P.sb 3 (.slice AF L cF)) wr.drew:=⟨⟨b0,b1,b2⟩,x3⟩
     refine wp_region_noPanic ?_;refine zkl (fun w':World=>zN3 w' W.heap.size (.slice A1 nv c1) (.slice A2 nv c2) (zi 0)) (fun w':World=>zv w' P.sb 3 (.slice AF L cF)) 7 zK ?_;refine zT 0 hSS ?_;refine zT 1 hSS ?_;refine zT 2 hSS ?_;refine zT 3 hSS ?_;refine zJ 4 hSS ?_;refine zT 5 hSS ?_;refine zo 6 fun K hK=>?_;(try simp only[zA,zB,zC]);go_simp;refine hK.out _ _ ⟨⟨zkj b0 _,zkj b1 _,zkj b2 _⟩,zkj x3 _⟩ ?_;clear hK K hSS;(try simp only[zQ]);obtain⟨W2,hW2⟩:=zX ((wr.alloc (.cells #[.slice A1 nv c1,.slice A2 nv c2,zi 0] 164)).drew);have hb2:zw wr W2:=hW2▸(zkb zr _).drew;have aF:=zh (show ∀j u,[Value.slice A1 nv c1,.slice A2 nv c2,zi 0][j]?=some u->W2.cell? ((⟨wr.heap.size,0,none⟩:Addr).add j)=some u from hW2▸zkU wr 164 [.slice A1 nv c1,.slice A2 nv c2,zi 0])
     have xk:W2.ownsRow n0 164 3 (.slice AF L cF) L (zkV P 0 S.calls):=by
      have:=zkK (bH.out.rws.row .calls) hb2;have e1:(rows P S .calls).v=.slice AF L cF:=by show P.vF=_;rw[ng.out,gQ.out]
      rw[e1]at this;rw[<-gQ.out]at this ⊢;exact this
     have hs2:=hb2.size;have AQ:=ag.out.size;have d0:=zb hb2 b0;have d1:=zb hb2 b1;have d2:=zb hb2 b2;have vL:=zh (fun w3 v'=>aX.out W2 w3 hb2 v');have rQ:P.vF=.slice AF L cF:=by rw[ng.out,gQ.out]
     have aR:=zh (show ∀b,(Value.slice AF L cF).ownBlock=some b->b≠W.heap.size from fun b hb e=>by
      have:=(HS.out.rws.lt .calls b (by show P.vF.ownBlock=_;rw[rQ];exact hb)).2;omega)
     rw[gQ.out,rQ]at vL;rw[hW2];clear hW2 b0 b1 b2 x3 hb2 aX rQ;refine zp 7 fun K hK=>?_;refine zkY zR (.tmp 80) (.tmp 82) 165 zR n0 164 i1 _ 3 56 underlying165 hi1 hz0 hz1 hz2 rfl zY (.slice AF L cF) L (zkV P 0 S.calls) zR xk ⟨wr.heap.size,0,none⟩ 1 1 [.slice A1 nv c1,.slice A2 nv c2,zi 0] zR rfl aF.out (by intro u hu;simp at hu;rcases hu with rfl|rfl|rfl<;>rfl) (by unfold maxLen;omega) zO zO ?_;intro v' w3 h2 h3 h5;obtain⟨g8,aA,rfl⟩:=ownsRow_succ h2;obtain⟨z0,zf,hfin⟩:=vL.out w3 _ h2 h3 h5;have ji:∀i u,W2.cell? ⟨W.heap.size,i,none⟩=some u->w3.cell? ⟨W.heap.size,i,none⟩=some u:=fun i u hu=>(World.cell?_of_block (a:=⟨W.heap.size,i,none⟩) (h3.block _ (World.block_lt_of_cell? W2 _ hu) (fun e=>aR.out _ e.symm rfl))).trans hu
     have HY:=zh (show(fun w':World=>zN3 w' W.heap.size (.slice A1 nv c1) (.slice A2 nv c2) (zi 0)) w3 from⟨ji _ _ d0,ji _ _ d1,ji _ _ d2⟩);have xQ:=zh (show(fun w':World=>zN3 w' W.heap.size (.slice A1 nv c1) (.slice A2 nv c2) (zi 0)) (w3.setCell ⟨P.sb,3,none⟩ (.slice (some ⟨g8,0,none⟩) (L+1) aA))from by
      have key:∀i u,w3.cell? ⟨W.heap.size,i,none⟩=some u->(w3.setCell ⟨P.sb,3,none⟩ (.slice (some ⟨g8,0,none⟩) (L+1) aA)).cell? ⟨W.heap.size,i,none⟩=some u:=fun i u hu=>(World.cell?_of_block (a:=⟨W.heap.size,i,none⟩) (Below.heap_setCell _ _ _ _ (show P.sb≠W.heap.size by omega).symm)).trans hu;exact⟨key _ _ (ji _ _ d0),key _ _ (ji _ _ d1),key _ _ (ji _ _ d2)⟩)
     have qZ:=zh hfin;refine hK.out _ _ HY.out ?_;clear hK K h2 h3 h5 hfin d0 d1 d2 xk aF vL ji;(try simp only[zQ]);refine zp 8 fun K hK=>?_;(try simp only[zA,zB,zC]);go_simp;refine hK.out _ _ HY.out ?_;clear hK K;(try simp only[zQ]);refine zp 9 fun K hK=>?_;(try simp only[zA,zB,zC]);go_simp;refine hK.out _ _ HY.out ?_;clear hK K;(try simp only[zQ]);refine zp 10 fun K hK=>?_;(try simp only[zA,zB,zC]);go_simp;refine hK.out _ _ xQ.out ?_;clear hK K;(try simp only[zQ]);refine zd ?_;refine NoPanic.normal ?_;clear HY xQ z0 zf;go_wp2_with fail;go_ret;refine⟨by rw[HX.out];rfl,P.enter L (.slice (some ⟨g8,0,none⟩) (L+1) aA) (.slice A1 nv c1) (.slice A2 nv c2),?_,rfl⟩;rw[HX.out];exact qZ.out
 ·have HX:=zh (show R=(7,S) by rw[<-HRR.out,zly,if_pos (by simpa using hlen)]);have e1:((ps.length:Int)==(ss.length:Int))=false:=by simp;omega
  have e2:((ps.length:Int) != (ss.length:Int))=true:=by simp;omega
  go_enter func158,ntmps158;go_wp2_with fail;go_ret;exact⟨by rw[HX.out];rfl,P,by rw[HX.out];exact SStp.refl HS.out zr,rfl⟩
theorem zn4(xs ys:List Int)(A B:Option Addr)(c d:Nat)(w:World)(hx:RowI w Any A xs)(hy:RowI w Any B ys)(hl:xs.length<=17592186044416)(hm:ys.length<=17592186044416) :
  Calls prog 33 #[.slice A xs.length c,.slice B ys.length d] w (zu (.bool (decide (xs=ys))) w):=by
 obtain⟨R,hR⟩:=zX (decide (xs=ys));rw[hR];have HR:=zh hR;have HX:=zh hx;have HY:=zh hy;clear hR hx hy;by_cases hlen:xs.length=ys.length
 ·have HL:=zh hlen;rw[<-hlen];clear hlen;go_enter func33,ntmps33;go_wp2_with fail
  go_loopw [5,13] (fun _ i wr=>∃j:Nat,j<=xs.length/\i=zi j/\zw w wr/\Hid (xs.take j=ys.take j)) (fun _ i _=>xs.length-(intOf i).toNat)
  case atStart=>exact⟨0,Nat.zero_le _,rfl,zr,zh rfl⟩
  case round =>
   obtain⟨j,hj,rfl,hbl,HJ⟩:=hrel;have ag:=zh hbl;by_cases hlt:j<xs.length
   ·have hlt2:j<ys.length:=by rw[<-HL.out];exact hlt
    obtain⟨a,rfl,h1⟩:=(HX.out.later hbl).nd hlt;obtain⟨b,rfl,h2⟩:=(HY.out.later hbl).nd hlt2;obtain⟨x,hx⟩:=zX (xs.getD j 0);obtain⟨y,hy⟩:=zX (ys.getD j 0);rw[hx]at h1;rw[hy]at h2;have hx':xs[j]=x:=by rw[<-hx];simp[hlt]
    have hy':ys[j]=y:=by rw[<-hy];simp[hlt2]
    have HS:=zh (show(fun w':World=>w'.cell? (a.add j)=some (zi x)/\w'.cell? (b.add j)=some (zi y)) wr.drew from⟨h1,h2⟩);have hj1:(j:Int)<(xs.length:Int):=zO
    have HXJ:=zh hx';have HYJ:=zh hy';clear hbl hx hy hx' hy' h1 h2;go_upto_region 6 with fail
    go_region_held3 (fun w':World=>w'.cell? (a.add j)=some (zi x)/\w'.cell? (b.add j)=some (zi y))
     (with_reducible exact HS.out)
     (first|fail)
    by_cases hxy:x=y
    ·subst hxy;have HJ2:Hid (xs.take (j+1)=ys.take (j+1)):=zh (by rw[List.take_succ_eq_append_getElem hlt,List.take_succ_eq_append_getElem hlt2,HJ.out,HXJ.out,HYJ.out]);go_wp2_with fail
     go_roundw
     case rel=>exact⟨j+1,zO,by go_num,ag.out.drew,HJ2⟩
     case measure=>simp[intOf];omega
    ·have e1:(x==y)=false:=by simpa using hxy
     have e2:(x != y)=true:=by simpa using hxy
     have HF:=zh (show R=false by rw[<-HR.out];exact decide_eq_false fun h=>hxy (by subst h;rw[<-HXJ.out,<-HYJ.out]));clear hxy;go_wp2_with fail;go_ret;exact⟨by rw[HF.out];rfl,ag.out.drew⟩
   ·obtain rfl:j=xs.length:=zO
    have HF:=zh (show R=true by
     have h1:=HJ.out;rw[List.take_of_length_le zl,List.take_of_length_le (by rw[HL.out];exact zl)]at h1;rw[<-HR.out];exact decide_eq_true h1)
    clear hbl;go_wp2_with fail;go_ret;exact⟨by rw[HF.out];rfl,ag.out⟩
 ·have HF:=zh (show R=false by rw[<-HR.out];exact decide_eq_false fun h=>hlen (by rw[h]));have e1:((xs.length:Int)==(ys.length:Int))=false:=by simp;omega
  have e2:((xs.length:Int) != (ys.length:Int))=true:=by simp;omega
  go_enter func33,ntmps33;go_wp2_with fail;go_ret;exact⟨by rw[HF.out];rfl,zr⟩
def zn5(w:World)(S:Nat->Prop)(A:Option Addr)(ls:List (List Int)):Prop :=
 ∀i (hi:i<ls.length),∃(a:Addr) (A':Option Addr) (c':Nat),A=some a/\S a.block/\w.cell? (a.add i)=some (.slice A' ls[i].length c')/\ls[i].length<=c'/\RowI w S A' ls[i]
structure SS where
 cells:List (List Int)
 tin:List Int
 tout:List Int
def SS.Lim(s:SS):Prop:=s.cells.length<=LI/\(∀l∈s.cells,l.length<=LI)/\s.tin.length<=LI/\s.tout.length<=LI
def SV(w:World)(S:Nat->Prop)(s:SS)(v:Value):Prop :=
 ∃A c B d D e,v=.agg #[.slice A s.cells.length c,.slice B s.tin.length d,.slice D s.tout.length e]/\zn5 w S A s.cells/\RowI w S B s.tin/\RowI w S D s.tout/\s.cells.length<=c/\s.tin.length<=d/\s.tout.length<=e/\s.Lim
section
variable {w w':World} {S S':Nat->Prop} {A:Option Addr} {ls:List (List Int)}
theorem zn5.keep(h:zn5 w S A ls)(hS:∀b,S b->b<w.heap.size->S' b)(hk:∀b,S b->b<w.heap.size->w'.heap[b]?=w.heap[b]?):zn5 w' S' A ls:=fun i hi=>by
 obtain⟨a,A',c',hA,iF,h0,hc,hr⟩:=h i hi;have hlt:a.block<w.heap.size:=by have:=World.block_lt_of_cell? w _ h0;rwa[zkF]at this
 refine⟨a,A',c',hA,hS _ iF hlt,zkN h0 ?_,hc,hr.keep hS hk⟩;simp only[zkF];exact hk _ iF hlt
theorem zn5.later(h:zn5 w S A ls)(hb:zw w w'):zn5 w' S A ls:=h.keep (fun _ h _=>h) fun b _ hlt=>hb.block b hlt
theorem SV.keep{s:SS}{v:Value}(h:SV w S s v)(hS:∀b,S b->b<w.heap.size->S' b)(hk:∀b,S b->b<w.heap.size->w'.heap[b]?=w.heap[b]?):SV w' S' s v:=by
 obtain⟨A,c,B,d,D,e,rfl,h1,h2,h3,h4⟩:=h;exact⟨A,c,B,d,D,e,rfl,h1.keep hS hk,h2.keep hS hk,h3.keep hS hk,h4⟩
theorem SV.later{s:SS}{v:Value}(h:SV w S s v)(hb:zw w w'):SV w' S s v:=h.keep (fun _ h _=>h) fun b _ hlt=>hb.block b hlt
theorem zn5.nd(h:zn5 w Any A ls){i:Nat}(hi:i<ls.length):∃(a:Addr) (l:List Int) (A':Option Addr) (c':Nat),A=some a/\Hid (ls[i]=l)/\w.cell? (a.add i)=some (.slice A' l.length c')/\l.length<=c'/\RowI w Any A' l :=
 let ⟨a,A',c',h1,_,h3,h4,h5⟩:=h i hi;⟨a,ls[i],A',c',h1,rfl,h3,h4,h5⟩
end
theorem zpm(xs ys:List (List Int))(A B:Option Addr)(c d:Nat)(w:World)(hx:zn5 w Any A xs)(hy:zn5 w Any B ys)(hl:xs.length<=17592186044416)(hm:ys.length<=17592186044416)(hbx:∀l∈xs,l.length<=17592186044416)(hby:∀l∈ys,l.length<=17592186044416) :
  Calls prog 32 #[.slice A xs.length c,.slice B ys.length d,.func (.func 33) #[] #[]] w (zu (.bool (decide (xs=ys))) w):=by
 obtain⟨R,hR⟩:=zX (decide (xs=ys));rw[hR];have HR:=zh hR;have HX:=zh hx;have HY:=zh hy;have aR:=zh hbx;have HBY:=zh hby;clear hR hx hy hbx hby;by_cases hlen:xs.length=ys.length
 ·have HL:=zh hlen;rw[<-hlen];clear hlen;go_enter func32,ntmps32;go_wp2_with fail
  go_loopw [17] (fun i wr=>∃j:Nat,j<=xs.length/\i=zi j/\zw w wr/\Hid (xs.take j=ys.take j)) (fun i _=>xs.length-(intOf i).toNat)
  case atStart=>exact⟨0,Nat.zero_le _,rfl,zr,zh rfl⟩
  case round =>
   obtain⟨j,hj,rfl,hbl,HJ⟩:=hrel;have ag:=zh hbl;by_cases hlt:j<xs.length
   ·have hlt2:j<ys.length:=by rw[<-HL.out];exact hlt
    obtain⟨a,x,A1,c1,rfl,Hx,h1,_,hr1⟩:=(HX.out.later hbl).nd hlt;obtain⟨b,y,B1,d1,rfl,Hy,h2,_,hr2⟩:=(HY.out.later hbl).nd hlt2;have hlx:x.length<=17592186044416:=by rw[<-Hx.out];exact aR.out _ (List.getElem_mem hlt)
    have hly:y.length<=17592186044416:=by rw[<-Hy.out];exact HBY.out _ (List.getElem_mem hlt2)
    obtain⟨b0,hb0⟩:=zX (decide (x=y));have HCA:=zh (hb0▸zn4 x y A1 B1 c1 d1 wr hr1 hr2 hlx hly);have HB0:=zh hb0;have hj1:(j:Int)<(xs.length:Int):=zO
    clear hbl hr1 hr2 hb0;go_wp2_with fail;refine HCA.out.mono ?_;rintro e w2 ⟨rfl,aj⟩;have HB2:=zh (zka ag.out aj);clear aj h1 h2
    cases b0
    ·have HF:=zh (show R=false by
      rw[<-HR.out];refine decide_eq_false fun h=>of_decide_eq_false HB0.out ?_;subst h;rw[<-Hx.out,<-Hy.out])
     go_wp2_with fail;go_ret;exact⟨by rw[HF.out];rfl,HB2.out⟩
    ·have HJ2:Hid (xs.take (j+1)=ys.take (j+1)):=zh (by rw[List.take_succ_eq_append_getElem hlt,List.take_succ_eq_append_getElem hlt2,HJ.out,Hx.out,Hy.out,of_decide_eq_true HB0.out]);go_wp2_with fail
     go_roundw
     case rel=>exact⟨j+1,zO,by go_num,HB2.out,HJ2⟩
     case measure=>simp[intOf];omega
   ·obtain rfl:j=xs.length:=zO
    have HF:=zh (show R=true by
     have h1:=HJ.out;rw[List.take_of_length_le zl,List.take_of_length_le (by rw[HL.out];exact zl)]at h1;rw[<-HR.out];exact decide_eq_true h1)
    clear hbl;go_wp2_with fail;go_ret;exact⟨by rw[HF.out];rfl,ag.out⟩
 ·have HF:=zh (show R=false by rw[<-HR.out];exact decide_eq_false fun h=>hlen (by rw[h]));have e1:((xs.length:Int)==(ys.length:Int))=false:=by simp;omega
  have e2:((xs.length:Int) != (ys.length:Int))=true:=by simp;omega
  go_enter func32,ntmps32;go_wp2_with fail;go_ret;exact⟨by rw[HF.out];rfl,zr⟩
def eqS(s t:SS):Bool:=decide (s.cells=t.cells)&&decide (s.tin=t.tin)&&decide (s.tout=t.tout)
theorem zrw(s t:SS)(v1 v2:Value)(w:World)(h1:SV w Any s v1)(h2:SV w Any t v2):Calls prog 14 #[v1,v2] w (zu (.bool (eqS s t)) w):=by
 obtain⟨A,c,B,d,D,e,rfl,hr1,hr2,hr3,-,-,-,hs⟩:=h1;obtain⟨A',c',B',d',D',e',rfl,hq1,hq2,hq3,-,-,-,ht⟩:=h2;obtain⟨b1,hb1⟩:=zX (decide (s.cells=t.cells));obtain⟨b2,hb2⟩:=zX (decide (s.tin=t.tin));obtain⟨b3,hb3⟩:=zX (decide (s.tout=t.tout));have hR:eqS s t=(b1&&b2&&b3):=by rw[<-hb1,<-hb2,<-hb3];rfl
 obtain⟨R,hRR⟩:=zX (eqS s t);have HRR:=zh (show R=(b1&&b2&&b3) by rw[<-hRR];exact hR);rw[hRR];have H1:=zh (show ∀w',zw w w'->Calls prog 32 #[.slice A s.cells.length c,.slice A' t.cells.length c',.func (.func 33) #[] #[]] w' fun e w''=>e=.returned (.bool b1)/\zw w' w'' from fun w' hb=>hb1▸zpm s.cells t.cells A A' c c' w' (hr1.later hb) (hq1.later hb) hs.1 ht.1 hs.2.1 ht.2.1);have H2:=zh (show ∀w',zw w w'->Calls prog 33 #[.slice B s.tin.length d,.slice B' t.tin.length d'] w' fun e w''=>e=.returned (.bool b2)/\zw w' w'' from fun w' hb=>hb2▸zn4 s.tin t.tin B B' d d' w' (hr2.later hb) (hq2.later hb) hs.2.2.1 ht.2.2.1)
 have H3:=zh (show ∀w',zw w w'->Calls prog 33 #[.slice D s.tout.length e,.slice D' t.tout.length e'] w' fun e w''=>e=.returned (.bool b3)/\zw w' w'' from fun w' hb=>hb3▸zn4 s.tout t.tout D D' e e' w' (hr3.later hb) (hq3.later hb) hs.2.2.2 ht.2.2.2);generalize s.cells.length=l1,s.tin.length=l2,s.tout.length=l3,t.cells.length=m1,t.tin.length=m2,t.tout.length=m3 at *
 clear hr1 hr2 hr3 hq1 hq2 hq3 hs ht hb1 hb2 hb3 hR hRR;go_enter func14,ntmps14;go_wp2_with fail;have q0:zw w ((w.alloc (.cells #[.slice A l1 c,.slice B l2 d,.slice D l3 e] 44)).alloc (.cells #[.slice A' m1 c',.slice B' m2 d',.slice D' m3 e'] 44)):=zkb (zkb zr _) _;have hP:=zkd (heap_alloc_new w (.cells #[.slice A l1 c,.slice B l2 d,.slice D l3 e] 44)) (.cells #[.slice A' m1 c',.slice B' m2 d',.slice D' m3 e'] 44);have hQ:=heap_alloc_new (w.alloc (.cells #[.slice A l1 c,.slice B l2 d,.slice D l3 e] 44)) (.cells #[.slice A' m1 c',.slice B' m2 d',.slice D' m3 e'] 44);simp only[World.size_alloc]at hQ;refine(H1.out _ q0).mono ?_;rintro e9 w1 ⟨rfl,aa⟩;have q1:=zka q0 aa;have hP1:=zkc hP aa;have wG:=zkc hQ aa;have x1:w1.cell? ⟨w.heap.size,1,none⟩=some (.slice B l2 d):=zc hP1 rfl;have x2:w1.cell? ⟨w.heap.size,2,none⟩=some (.slice D l3 e):=zc hP1 rfl
 have y1:w1.cell? ⟨w.heap.size+1,1,none⟩=some (.slice B' m2 d'):=zc wG rfl;have y2:w1.cell? ⟨w.heap.size+1,2,none⟩=some (.slice D' m3 e'):=zc wG rfl;clear hP hQ hP1 wG q0 aa
 cases b1
 ·have HX:=zh (show R=false by rw[HRR.out];rfl);go_wp2_with fail;go_ret;exact⟨by rw[HX.out];rfl,q1⟩
 ·go_wp2_with fail;refine(H2.out _ q1).mono ?_;rintro e9 w2 ⟨rfl,aj⟩;have q2:=zka q1 aj;have z2:=zb aj x2;have u2:=zb aj y2;clear aj x1 x2 y1 y2
  cases b2
  ·have HX:=zh (show R=false by rw[HRR.out];rfl);go_wp2_with fail;go_ret;exact⟨by rw[HX.out];rfl,q2⟩
  ·go_wp2_with fail;refine(H3.out _ q2).mono ?_;rintro e9 w3 ⟨rfl,aO⟩;have q3:=zka q2 aO;have HX:=zh (show R=b3 by rw[HRR.out];simp);clear aO z2 u2;go_wp2_with fail;go_ret;exact⟨by rw[HX.out];rfl,q3⟩
def vdB(v:VD):Bool:=if v.k=1\/v.k=3 then v.n==0 else if v.k=2 then decide (1<=v.n/\v.n<=16)else false
def svB(vs:List VD):Bool:=decide (vs.length<=32)&&vs.all vdB
def fixE(v:VD):Int:=if v.k=1 then 1 else v.n
theorem zrj(v:VD)(w:World):Calls prog 79 #[.agg #[.string v.s,zj v.k,zi v.n]] w (zu (zi (fixE v)) w):=by
 obtain⟨s,k,n⟩:=v;dsimp only;by_cases h:k=1
 ·subst h;go_enter func79,ntmps79;go_wp2_with fail;go_ret;exact⟨rfl,zkb zr _⟩
 ·have e1:(k==1)=false:=by simpa using h
  have HX:=zh (show fixE ⟨s,k,n⟩=n by simp[fixE,h]);obtain⟨R,hR⟩:=zX (fixE ⟨s,k,n⟩);rw[hR]at HX ⊢;clear h hR;go_enter func79,ntmps79;go_wp2_with fail;go_ret;exact⟨by rw[HX.out];rfl,zkb zr _⟩
theorem zps(vs:List VD)(A:Option Addr)(c:Nat)(w:World)(hrow:RowV w Any A vs)(hl:vs.length<=LV):Calls prog 78 #[.slice A vs.length c] w (zu (.bool (svB vs)) w):=by
 have hl':=zk1 hl;obtain⟨R,hR⟩:=zX (svB vs);rw[hR];have HR:=zh hR;have ae:=zh hrow;clear hR hrow hl;by_cases h32:vs.length<=32
 ·have HN:=zh (show R=vs.all vdB by rw[<-HR.out,svB,decide_eq_true h32];rfl);clear HR;go_enter func78,ntmps78;go_wp2_with fail
  go_loopw [10] (fun i wr=>∃j:Nat,j<=vs.length/\i=zi j/\zw w wr/\Hid ((vs.take j).all vdB=true)) (fun i _=>vs.length-(intOf i).toNat)
  case atStart=>exact⟨0,Nat.zero_le _,rfl,zr,zh rfl⟩
  case round =>
   obtain⟨j,hj,rfl,hbl,HJ⟩:=hrel;have ag:=zh hbl;by_cases hlt:j<vs.length
   ·obtain⟨a,rfl,-,⟨y0,y1,y2⟩,-⟩:=(ae.out.later hbl) j hlt;obtain⟨v,hv⟩:=zX (vs[j]);rw[hv]at y0 y1 y2;obtain⟨vm,vk,vn⟩:=v;have Hv:=zh hv;have eQ:=zh (show vdB ⟨vm,vk,vn⟩=true->(vs.take (j+1)).all vdB=true from fun h=>by rw[List.take_succ_eq_append_getElem hlt,List.all_append,HJ.out,hv];simp[h]);have bS:=zh (show vdB ⟨vm,vk,vn⟩=false->R=false from fun h=>by
     rw[HN.out];exact Bool.eq_false_iff.2 fun h'=>by
      have:=List.all_eq_true.1 h' _ (List.getElem_mem hlt);rw[hv,h]at this
      cases this)
    dsimp only at y0 y1 y2;clear hbl hv;have hb0:∀b,vdB ⟨vm,vk,vn⟩=b->True:=fun _ _=>trivial;by_cases k13:vk=1\/vk=3
    ·by_cases hn:vn=0
     ·have HJ2:=zh (eQ.out (by simp[vdB,k13,hn]));subst hn;clear eQ bS hb0;rcases k13 with rfl|rfl
      all_goals
       go_wp2_with fail
       go_roundw
       case rel=>exact⟨j+1,zO,by go_num,zkb ag.out _,HJ2⟩
       case measure=>simp[intOf];omega
     ·have HX:=zh (bS.out (by simp[vdB,k13,hn]));have e1:(vn==0)=false:=by simpa using hn
      have e2:(vn != 0)=true:=by simpa using hn
      clear eQ bS hb0 hn;rcases k13 with rfl|rfl
      all_goals
       go_wp2_with fail;go_ret;exact⟨by rw[HX.out];rfl,zkb ag.out _⟩
    ·by_cases k2:vk=2
     ·subst k2;by_cases h1:vn<1
      ·have HX:=zh (bS.out (by simp[vdB];omega));clear eQ bS hb0 k13;go_wp2_with fail;go_ret;exact⟨by rw[HX.out];rfl,zkb ag.out _⟩
      ·by_cases h16:16<vn
       ·have HX:=zh (bS.out (by simp[vdB];omega));clear eQ bS hb0 k13;go_wp2_with fail;go_ret;exact⟨by rw[HX.out];rfl,zkb ag.out _⟩
       ·have HJ2:=zh (eQ.out (by simp[vdB];omega));clear eQ bS hb0 k13;go_wp2_with fail
        go_roundw
        case rel=>exact⟨j+1,zO,by go_num,zkb ag.out _,HJ2⟩
        case measure=>simp[intOf];omega
     ·have HX:=zh (bS.out (by simp[vdB,k13,k2]));have x1:(vk==1)=false:=by simp;omega
      have x2:(vk==2)=false:=by simp;omega
      have x3:(vk==3)=false:=by simp;omega
      clear eQ bS hb0 k13 k2;go_wp2_with fail;go_ret;exact⟨by rw[HX.out];rfl,zkb ag.out _⟩
   ·obtain rfl:j=vs.length:=zO
    have HX:=zh (show R=true by
     have:=HJ.out;rw[List.take_of_length_le zl]at this;rw[HN.out];exact this)
    clear hbl;go_wp2_with fail;go_ret;exact⟨by rw[HX.out];rfl,ag.out⟩
 ·have HX:=zh (show R=false by rw[<-HR.out,svB,decide_eq_false h32];rfl);have h33:(32:Int)<(vs.length:Int):=zO
  clear h32;go_enter func78,ntmps78;go_wp2_with fail;go_ret;exact⟨by rw[HX.out];rfl,zr⟩
def fit1(v:VD)(l:List Int):Bool:=if v.k=3 then decide (l.length<=1000)else decide ((l.length:Int)=fixE v)
def zmh:List VD->List (List Int)->Bool
 | v::vs,l::ls=>fit1 v l&&zmh vs ls
 | _,_=>true
def fitB(vs:List VD)(s:SS):Bool:=svB vs&&decide (s.cells.length=vs.length)&&decide (s.tin.length<=4096)&&decide (s.tout.length<=4096)&&zmh vs s.cells
theorem zpO:∀ {vs:List VD} {ls:List (List Int)} {j:Nat} (h:j<vs.length) (h':j<ls.length),zmh (vs.take (j+1)) (ls.take (j+1))=(zmh (vs.take j) (ls.take j)&&fit1 vs[j] ls[j])
 | v::vs,l::ls,0,_,_=>by simp[zmh]
 | v::vs,l::ls,j+1,h,h'=>by
  have:=zpO (vs:=vs) (ls:=ls) (j:=j) (by simpa using h) (by simpa using h');simp only[List.take,zmh,List.getElem_cons_succ]at this ⊢;rw[this,Bool.and_assoc]
theorem ztd:∀ {vs:List VD} {ls:List (List Int)} {j:Nat} (h:j<vs.length) (h':j<ls.length),fit1 vs[j] ls[j]=false->zmh vs ls=false
 | v::vs,l::ls,0,_,_,h=>by simp only[zmh,List.getElem_cons_zero]at *;simp[h]
 | v::vs,l::ls,j+1,h,h',h0=>by
  have:=ztd (vs:=vs) (ls:=ls) (j:=j) (by simpa using h) (by simpa using h') (by simpa using h0);simp[zmh,this]
theorem zyO(vs:List VD)(s:SS)(A0:Option Addr)(c0:Nat)(v:Value)(w:World)(hrow:RowV w Any A0 vs)(hl:vs.length<=LV)(hv:SV w Any s v):Calls prog 43 #[.slice A0 vs.length c0,v] w (zu (.bool (fitB vs s)) w):=by
 obtain⟨A,c,B,d,D,e,rfl,hr1,hr2,hr3,hc1,hc2,hc3,hl1,hl2,hl3,hl4⟩:=hv;have hl':=zk1 hl;have sK:=zp0 hl1;have hl3':=zp0 hl3;have hl4':=zp0 hl4;obtain⟨R,hR⟩:=zX (fitB vs s);rw[hR];have HR:=zh hR;have ae:=zh hrow;have HR1:=zh hr1;have HL2:=zh hl2;obtain⟨b0,hb0⟩:=zX (svB vs);have HV:=zh (show ∀w',zw w w'->Calls prog 78 #[.slice A0 vs.length c0] w' fun e w''=>e=.returned (.bool b0)/\zw w' w'' from fun w' hb=>hb0▸zps vs A0 c0 w' (hrow.later hb) hl);have HB0:=zh hb0;obtain⟨n1,hn1⟩:=zX (s.cells.length);obtain⟨n2,hn2⟩:=zX (s.tin.length);obtain⟨n3,dm⟩:=zX (s.tout.length);have fA:=zh hn1;have HN:=zh (show R=(b0&&decide (n1=vs.length)&&decide (n2<=4096)&&decide (n3<=4096)&&zmh vs s.cells) by rw[<-hR,<-hb0,<-hn1,<-hn2,<-dm];rfl);rw[hn1,hn2,dm];rw[hn1]at sK;rw[hn2]at hl3';rw[dm]at hl4'
 clear hR hrow hr1 hr2 hr3 hc1 hc2 hc3 hl1 hl2 hl3 hl4 hl hb0 hn1 hn2 dm HR;go_enter func43,ntmps43;go_wp2_with fail;refine(HV.out _ (zkb zr _)).mono ?_;rintro e9 w1 ⟨rfl,aa⟩;have q1:=zka (zkb (zs w) _) aa;have hP:=zkc (heap_alloc_new w (.cells #[.slice A n1 c,.slice B n2 d,.slice D n3 e] 44)) aa;have x0:w1.cell? ⟨w.heap.size,0,none⟩=some (.slice A n1 c):=zc hP rfl;have x1:w1.cell? ⟨w.heap.size,1,none⟩=some (.slice B n2 d):=zc hP rfl;have x2:w1.cell? ⟨w.heap.size,2,none⟩=some (.slice D n3 e):=zc hP rfl;have HP:=zh hP;have bI:=zh q1;clear hP q1 aa
 cases b0
 ·have HX:=zh (show R=false by rw[HN.out];simp);clear HN;go_wp2_with fail;go_ret;exact⟨by rw[HX.out];rfl,bI.out⟩
 by_cases k1:n1=vs.length
 case neg =>
  have HX:=zh (show R=false by rw[HN.out];simp[k1]);have e1:((n1:Int)==(vs.length:Int))=false:=by simp;omega
  have e2:((n1:Int) != (vs.length:Int))=true:=by simp;omega
  clear HN k1;go_wp2_with fail;go_ret;exact⟨by rw[HX.out];rfl,bI.out⟩
 by_cases k2:n2<=4096
 case neg =>
  have HX:=zh (show R=false by rw[HN.out];simp[k2]);have e1:((n1:Int)==(vs.length:Int))=true:=by simp;omega
  have e2:((n1:Int) != (vs.length:Int))=false:=by simp;omega
  have e3:(4096:Int)<(n2:Int):=zO
  clear HN k1 k2;go_wp2_with fail;go_ret;exact⟨by rw[HX.out];rfl,bI.out⟩
 by_cases k3:n3<=4096
 case neg =>
  have HX:=zh (show R=false by rw[HN.out];simp[k3]);have e1:((n1:Int)==(vs.length:Int))=true:=by simp;omega
  have e2:((n1:Int) != (vs.length:Int))=false:=by simp;omega
  have e3:¬ (4096:Int)<(n2:Int):=zO
  have e4:(4096:Int)<(n3:Int):=zO
  clear HN k1 k2 k3;go_wp2_with fail;go_ret;exact⟨by rw[HX.out];rfl,bI.out⟩
 subst k1;have HX:=zh (show R=zmh vs s.cells by rw[HN.out];simp[k2,k3]);have e3:¬ (4096:Int)<(n2:Int):=zO
 have e4:¬ (4096:Int)<(n3:Int):=zO
 clear HN k2 k3 HV;go_wp2_with fail;clear x0 x1 x2
 go_loopw [32] (fun i wr=>∃j:Nat,j<=vs.length/\i=zi j/\zw w wr/\wr.heap[w.heap.size]?=some (.cells #[.slice A vs.length c,.slice B n2 d,.slice D n3 e] 44 (0,0))/\Hid (zmh (vs.take j) (s.cells.take j)=true)) (fun i _=>vs.length-(intOf i).toNat)
 case atStart=>exact⟨0,Nat.zero_le _,rfl,bI.out,HP.out,zh (by simp[zmh])⟩
 case round =>
  obtain⟨j,hj,rfl,hbl,hbx,HJ⟩:=hrel;have ag:=zh hbl;have aR:=zh hbx;by_cases hlt:j<vs.length
  ·have hlt2:j<s.cells.length:=by rw[fA.out];exact hlt
   obtain⟨a,rfl,-,⟨y0,y1,y2⟩,-⟩:=(ae.out.later hbl) j hlt;obtain⟨a',l,A',c',rfl,Hl,z0,_,-⟩:=(HR1.out.later hbl).nd hlt2;have hll:l.length<=LI:=by rw[<-Hl.out];exact HL2.out _ (List.getElem_mem hlt2)
   have hll':=zp0 hll;obtain⟨v,hv⟩:=zX (vs[j]);rw[hv]at y0 y1 y2;have x0:wr.cell? ⟨w.heap.size,0,none⟩=some (.slice (some a') vs.length c):=zc hbx rfl;have x0':=fun o=>zkj (o:=o) x0;have z0':=fun o=>zkj (o:=o) z0;have eQ:=zh (show fit1 v l=true->zmh (vs.take (j+1)) (s.cells.take (j+1))=true from fun h=>by rw[zpO hlt hlt2,HJ.out,hv,Hl.out,h];rfl);have bS:=zh (show fit1 v l=false->R=false from fun h=>by rw[HX.out];exact ztd hlt hlt2 (by rw[hv,Hl.out];exact h));have vJ:=zh (zrj v);have hj1:(j:Int)<(vs.length:Int):=zO
   obtain⟨vm,vk,vn⟩:=v;dsimp only at y0 y1 y2 vJ;clear hbl hbx hv hll;by_cases k3:vk=3
   ·subst k3;by_cases h1:l.length<=1000
    ·have HJ2:=zh (eQ.out (by simp[fit1,h1]));have e5:¬ (1000:Int)<(l.length:Int):=zO
     clear eQ bS h1;go_wp2_with fail
     go_roundw
     case rel=>exact⟨j+1,zO,by go_num,zkb ag.out _,zkd aR.out _,HJ2⟩
     case measure=>simp[intOf];omega
    ·have dP:=zh (bS.out (by simp[fit1];omega));have e5:(1000:Int)<(l.length:Int):=zO
     clear eQ bS h1;go_wp2_with fail;go_ret;exact⟨by rw[dP.out];rfl,zkb ag.out _⟩
   ·have x3:(vk==3)=false:=by simpa using k3
    obtain⟨fx,hfx⟩:=zX (fixE ⟨vm,vk,vn⟩);rw[hfx]at vJ;have fF:=zh k3;have zu:=zh hfx;clear k3 hfx;obtain⟨W6,Br⟩:=zX (wr.alloc (.cells #[.string vm,zj vk,zi vn] 38));have ou:=heap_alloc_new wr (.cells #[.string vm,zj vk,zi vn] 38);have hx6:=x0' (.cells #[.string vm,zj vk,zi vn] 38);have dL:=z0' (.cells #[.string vm,zj vk,zi vn] 38);have q6:zw wr W6:=Br▸zkb zr _;rw[Br]at ou hx6 dL;have az:=zh (show ∀w',zw W6 w'->(fun w':World=>zv w' w.heap.size 0 (.slice (some a') vs.length c)/\w'.cell? (a'.add j)=some (.slice A' l.length c')/\zN3 w' wr.heap.size (.string vm) (zj vk) (zi vn)) w' from fun w' hb=>⟨zb hb hx6,zb hb dL,zc (zkc ou hb) rfl,zc (zkc ou hb) rfl,zc (zkc ou hb) rfl⟩);have aG:=zh (az.out _ zr.drew);have qg:=zh (zka ag.out q6);have HX6:=zh (zkc aR.out q6)
    clear q6 hx6 dL x0 x0' z0 z0';have bG:W6.cell? ⟨wr.heap.size,1,none⟩=some (zj vk):=zc ou rfl;go_upto_region 9 with fail;clear bG
    go_region_held3 (fun w':World=>zv w' w.heap.size 0 (.slice (some a') vs.length c)/\w'.cell? (a'.add j)=some (.slice A' l.length c')/\zN3 w' wr.heap.size (.string vm) (zj vk) (zi vn))
     (first|with_reducible exact aC.out|with_reducible exact aG.out)
     (first
      | (go_at_call 79;refine(vJ.out _).mono ?_;rintro e7 y7 ⟨rfl,by7⟩;have b7:=zka (zs W6).drew by7;have aC:=zh (az.out _ b7))
      | fail)
    have HQ7:=zh (zka qg.out b7);have HX7:=zh (zkc HX6.out b7);clear b7 by7 aC aG ou y0 y1 y2 Br;by_cases hf:(l.length:Int)=fx
    ·have HJ2:=zh (eQ.out (by rw[fit1,if_neg fF.out,zu.out];exact decide_eq_true hf));have e5:((l.length:Int)==fx)=true:=by simpa using hf
     have e6:((l.length:Int) != fx)=false:=by simpa using hf
     clear eQ bS hf;go_wp2_with fail
     go_roundw
     case rel=>exact⟨j+1,zO,by go_num,HQ7.out,HX7.out,HJ2⟩
     case measure=>simp[intOf];omega
    ·have dP:=zh (bS.out (by rw[fit1,if_neg fF.out,zu.out];exact decide_eq_false hf));have e5:((l.length:Int)==fx)=false:=by simpa using hf
     have e6:((l.length:Int) != fx)=true:=by simpa using hf
     clear eQ bS hf;go_wp2_with fail;go_ret;exact⟨by rw[dP.out];rfl,HQ7.out⟩
  ·obtain rfl:j=vs.length:=zO
   have dP:=zh (show R=true by
    have:=HJ.out;rw[List.take_of_length_le zl,List.take_of_length_le (by rw[fA.out];exact zl)]at this;rw[HX.out];exact this)
   clear hbl hbx;go_wp2_with fail;go_ret;exact⟨by rw[dP.out];rfl,ag.out⟩
def newS(vs:List VD)(s:SS):ST:=⟨⟨vs,List.range vs.length,0⟩,[],fun i=>s.cells.getD i [],vs.length,s.tin,s.tout⟩
def FR.snoc(f:FR)(v:VD)(id:Nat):FR:=⟨f.vs++[v],f.cs++[id],f.loc⟩
theorem zvb(vs:List VD)(s:SS)(j:Nat)(hj:j<vs.length)(l:List Int)(hl:s.cells.getD j []=l) :
  ((newS (vs.take j) s).newCell l).setCur ((newS (vs.take j) s).base.snoc vs[j] j)=newS (vs.take (j+1)) s:=by
 have h0:((newS (vs.take j) s).newCell l).calls.length=0:=rfl;have e1:(vs.take j).length=j:=by rw[List.length_take];omega
 have e2:(vs.take (j+1)).length=j+1:=by rw[List.length_take];omega
 have e3:vs.take (j+1)=vs.take j++[vs[j]]:=List.take_succ_eq_append_getElem hj;simp only[ST.setCur,h0,if_true];simp only[newS,ST.newCell,FR.snoc,e1,e3];congr 1
 ·rw[<-e3,e2,List.range_succ]
 ·funext i;by_cases e:i=j
  ·subst e;simp[<-hl]
  ·simp[e]
 ·rw[<-e3,e2]
theorem zrk:∀ {vs:List VD} {ls:List (List Int)} (i:Nat) (h:i<vs.length) (h':i<ls.length),zmh vs ls=true->fit1 vs[i] ls[i]=true
 | v::vs,l::ls,0,_,_,h=>by simp only[zmh,Bool.and_eq_true]at h;exact h.1
 | v::vs,l::ls,i+1,h,h',h0=>by
  simp only[zmh,Bool.and_eq_true]at h0;exact zrk i (by simpa using h) (by simpa using h') h0.2
theorem zte{vs:List VD}{s:SS}(h:fitB vs s=true):vs.length<=32/\s.cells.length=vs.length/\s.tin.length<=4096/\s.tout.length<=4096/\∀i (hi:i<vs.length) (hi':i<s.cells.length),vdB vs[i]=true/\fit1 vs[i] s.cells[i]=true:=by
 simp only[fitB,svB,Bool.and_eq_true,decide_eq_true_eq]at h;obtain⟨⟨⟨⟨⟨h1,h2⟩,h3⟩,h4⟩,h5⟩,h6⟩:=h;exact⟨h1,h3,h4,h5,fun i hi hi'=>⟨List.all_eq_true.1 h2 _ (List.getElem_mem hi),zrk i hi hi' h6⟩⟩
theorem zr5{vs:List VD}{s:SS}(h:fitB vs s=true)(hf:∀v∈vs,FldV v)(hc:∀l∈s.cells,∀x∈l,I64 x)(hi:∀x∈s.tin,I64 x)(ho:∀x∈s.tout,I64 x)(j:Nat)(hj:j<=vs.length):(newS (vs.take j) s).WF:=by
 obtain⟨h32,hlen,h1,h2,hall⟩:=zte h;have e1:(vs.take j).length=j:=by rw[List.length_take];omega
 refine⟨⟨fun i=>((vs.getD i ⟨⟨#[]⟩,0,0⟩).k,(vs.getD i ⟨⟨#[]⟩,0,0⟩).n),⟨by simp[newS],by simp[newS],by simp only[newS,e1];omega,fun v hv=>hf v (List.mem_of_mem_take hv),fun c hc=>by simpa[newS]using hc,fun i hi hi'=>?_⟩,by simp[newS],fun i hi=>?_⟩,by simp[newS],fun i hi=>?_,⟨h1,hi⟩,⟨h2,ho⟩⟩
 ·simp only[newS,e1]at hi hi' ⊢;have:i<vs.length:=zO
  simp[this]
 ·simp only[newS,e1]at hi ⊢;have hv:i<vs.length:=zO
  have hv':i<s.cells.length:=zO
  obtain⟨a1,a2⟩:=hall i hv hv';simp only[List.getD_eq_getElem?_getD,List.getElem?_eq_getElem hv,List.getElem?_eq_getElem hv',Option.getD_some];unfold vdB at a1;unfold fit1 at a2;refine⟨fun hk=>?_,fun hk=>?_,?_⟩
  ·rw[if_neg zO]at a2;have:=of_decide_eq_true a2;simp only[fixE,hk,if_true]at this;omega
  ·rw[if_neg zO]at a2;have:=of_decide_eq_true a2;simp only[fixE,hk]at this;simpa using this
  ·split at a1
   ·next h=>rcases h with h|h<;>simp[h]
   ·split at a1
    ·next h=>simp[h]
    ·cases a1
 ·simp only[newS,e1]at hi ⊢;have hv:i<vs.length:=zO
  have hv':i<s.cells.length:=zO
  obtain⟨a1,a2⟩:=hall i hv hv';simp only[List.getD_eq_getElem?_getD,List.getElem?_eq_getElem hv',Option.getD_some];refine⟨?_,hc _ (List.getElem_mem hv')⟩;unfold vdB at a1;unfold fit1 at a2
  split at a2
  ·exact of_decide_eq_true a2
  ·have:=of_decide_eq_true a2;unfold fixE at this
   split at this
   ·omega
   ·next hk hk1 =>
    rw[if_neg zO]at a1
    split at a1
    ·have:=of_decide_eq_true a1;omega
    ·cases a1
theorem zr6{W w2:World}{n0:Nat}{P:Ph}{S:ST}(h:SR W n0 P S)(hb:zw W w2)(v:Value)(l:List Int)(ho:w2.ownsRow W.heap.size 3 1 v l.length (zki l)) :
  Stp n0 (rows P S) W (rows (P.newCell S w2.heap.size v) (S.newCell l)) (w2.alloc (.cells #[v] 171)):=by
 have hn:n0<=W.heap.size:=by have:=h.rws.lt .sb P.sb rfl;omega
 have hs:=hb.size;have s1:=Stp.take2 (W':=w2.alloc (.cells #[v] 171)) h.rws (zkb hb _) (.cb S.nc) (.ci S.nc) zS ⟨boxV w2.heap.size,171,1,1,[v]⟩ ⟨v,3,1,l.length,zki l⟩
  (znU w2 n0 _ [_] zO rfl) (zlu (ho.alloc _) hn) (fun b e=>by simp[Value.ownBlock]at e;omega) (fun b e=>(ho.lt b e).1) (fun b e e2=>by simp[Value.ownBlock]at e;have:=(ho.lt b e2).2;omega)
 exact s1.cast (zmK h.wf P w2.heap.size v l).symm
theorem zxd{W W':World}{n0:Nat}{P:Ph}{S:ST}(v:VD)(id:Nat)(vv vc:Value)(hlen:S.cur.cs.length=S.cur.vs.length)
  (hst:Stp n0 (rows P S) W (updR (updR (updR (rows P S) (vI S) ⟨vv,38,3,S.cur.vs.length+1,zkX S.cur.vs++[.string v.s,zj v.k,zi v.n]⟩) (cI S) ⟨vc,169,1,S.cur.vs.length+1,ptrs P.cb S.cur.cs++[.pointer (some ⟨P.cb id,0,none⟩)]⟩) (hI S) { rows P S (hI S)with xs:=((rows P S (hI S)).xs.set (oI S) vv).set (oI S+1) vc }) W') :
  Stp n0 (rows P S) W (rows (P.setCur S vv vc) (S.setCur (S.cur.snoc v id))) W':=by
 refine hst.cast ?_;rw[znf];obtain⟨_,_,g3⟩:=zqj P S;have e1:(S.cur.snoc v id).vs.length=S.cur.vs.length+1:=by simp[FR.snoc]
 have e2:(S.cur.snoc v id).cs.length=S.cur.vs.length+1:=by simp[FR.snoc,hlen]
 have e3:zkX (S.cur.snoc v id).vs=zkX S.cur.vs++[.string v.s,zj v.k,zi v.n]:=zpL _ _;have e4:ptrs P.cb (S.cur.snoc v id).cs=ptrs P.cb S.cur.cs++[.pointer (some ⟨P.cb id,0,none⟩)]:=by simp[FR.snoc,ptrs]
 rw[e1,e2,e3,e4];have e5:(((rows P S (hI S)).xs.set (oI S) vv).set (oI S+1) vc).set (oI S+2) (zi (S.cur.snoc v id).loc)=((rows P S (hI S)).xs.set (oI S) vv).set (oI S+1) vc:=by
  have hl:oI S+2<(rows P S (hI S)).xs.length:=(List.getElem?_eq_some_iff.1 g3).1;refine List.ext_getElem? fun q=>?_;by_cases e:q=oI S+2
  ·subst e;rw[List.getElem?_set_self (by simpa using hl),List.getElem?_set_ne zO,List.getElem?_set_ne zO,g3];rfl
  ·rw[List.getElem?_set_ne zO]
 rw[e5]
theorem ztN{W w2 w3:World}{vI vO:Value}{tb:Nat}{s:SS}(hwf:(newS [] s).WF)(hb:zw W w2)(h1:w2.heap[tb]?=some (.cells #[vI,vO] 188 (0,0)))(ht:W.heap.size<=tb)
  (o1:w2.ownsRow W.heap.size 3 1 vI s.tin.length (zki s.tin))(o2:w2.ownsRow W.heap.size 3 1 vO s.tout.length (zki s.tout))(n1:vI.ownBlock≠some tb)(n2:vO.ownBlock≠some tb)(n3:∀b,vI.ownBlock=some b->vO.ownBlock≠some b)
  (hw:w3=w2.alloc (.cells #[zn,zn,zi 0,zn,.pointer (some ⟨tb,0,none⟩)] 167)) :
  SR w3 W.heap.size ⟨w2.heap.size,tb,vI,vO,zn,zn,zn,fun _=>zn,fun _=>zn,fun _=>0,fun _=>zn⟩ (newS [] s):=by
 subst hw;have hs:=hb.size;have htb:=zkf h1;refine⟨⟨fun i=>?_,?_⟩,hwf⟩
 ·cases i with
  | sb=>exact znU w2 W.heap.size _ [_,_,_,_,_] hs rfl
  | tb=>exact⟨rfl,.inr ⟨tb,1,#[vI,vO],rfl,ht,zkd h1 _,zl,zY,rfl,rfl⟩⟩
  | tin=>exact o1.alloc _
  | tout=>exact o2.alloc _
  | bv=>exact World.ownsRow_nil _ _ _ _
  | bc=>exact World.ownsRow_nil _ _ _ _
  | calls=>exact World.ownsRow_nil _ _ _ _
  | fv i=>exact World.ownsRow_nil _ _ _ _
  | fc i=>exact World.ownsRow_nil _ _ _ _
  | cb i=>simp only[rows,newS,List.length_nil,Nat.not_lt_zero,if_false];exact World.ownsRow_nil _ _ _ _
  | ci i=>simp only[rows,newS,List.length_nil,Nat.not_lt_zero,if_false];exact World.ownsRow_nil _ _ _ _
  | x i=>exact World.ownsRow_nil _ _ _ _
 ·have key:∀(i:Res) b,(rows ⟨w2.heap.size,tb,vI,vO,zn,zn,zn,fun _=>zn,fun _=>zn,fun _=>0,fun _=>zn⟩ (newS [] s) i).v.ownBlock=some b->(i=.sb/\b=w2.heap.size)\/(i=.tb/\b=tb)\/(i=.tin/\vI.ownBlock=some b)\/(i=.tout/\vO.ownBlock=some b):=fun i b hb=>by
   cases i with
   | sb=>simp[rows,Value.ownBlock]at hb;exact .inl ⟨rfl,hb.symm⟩
   | tb=>simp[rows,Value.ownBlock]at hb;exact .inr (.inl ⟨rfl,hb.symm⟩)
   | tin=>exact .inr (.inr (.inl ⟨rfl,hb⟩))
   | tout=>exact .inr (.inr (.inr ⟨rfl,hb⟩))
   | bv=>simp[rows,Value.ownBlock]at hb
   | bc=>simp[rows,Value.ownBlock]at hb
   | calls=>simp[rows,Value.ownBlock]at hb
   | fv i=>simp[rows,newS,nilR,Value.ownBlock]at hb
   | fc i=>simp[rows,newS,nilR,Value.ownBlock]at hb
   | cb i=>simp[rows,newS,nilR,Value.ownBlock]at hb
   | ci i=>simp[rows,newS,nilR,Value.ownBlock]at hb
   | x i=>simp[rows,nilR,Value.ownBlock]at hb
  intro i j b hij h1 h2;have l1:=fun b (e:vI.ownBlock=some b)=>(o1.lt b e).2;have l2:=fun b (e:vO.ownBlock=some b)=>(o2.lt b e).2;rcases key i b h1 with⟨e1,a1⟩|⟨e1,a1⟩|⟨e1,a1⟩|⟨e1,a1⟩<;>rcases key j b h2 with⟨e2,a2⟩|⟨e2,a2⟩|⟨e2,a2⟩|⟨e2,a2⟩
  ·exact hij (e1.trans e2.symm)
  ·omega
  ·have:=l1 b a2;omega
  ·have:=l2 b a2;omega
  ·omega
  ·exact hij (e1.trans e2.symm)
  ·subst a1;exact n1 a2
  ·subst a1;exact n2 a2
  ·have:=l1 b a1;omega
  ·subst a2;exact n1 a1
  ·exact hij (e1.trans e2.symm)
  ·exact n3 b a1 a2
  ·have:=l2 b a1;omega
  ·subst a2;exact n2 a1
  ·exact n3 b a2 a1
  ·exact hij (e1.trans e2.symm)
theorem Rws.mono{I:Type}{W:World}{n0 n1:Nat}{d:I->RowD}(h:Rws W n1 d)(hn:n0<=n1):Rws W n0 d:=⟨fun i=>zlu (h.row i) hn,h.sep⟩
theorem SR.mono{W:World}{n0 n1:Nat}{P:Ph}{S:ST}(h:SR W n1 P S)(hn:n0<=n1):SR W n0 P S:=⟨h.rws.mono hn,h.wf⟩
theorem zKz{vs:List VD}{s:SS}{j:Nat}{hj:j<vs.length}{l:List Int}{hl:s.cells.getD j []=l}{W:World}{n1:Nat}{P:Ph}(h:Rws W n1 (rows P ((newS (vs.take j) s).newCell l)))(hm:j<=1000)(sb b:Nat)(hsb:P.sb=sb)(hb:P.cb j=b)(v:VD)(hv:vs[j]=v) :
  Calls prog 104 [.pointer (some ⟨sb,0,none⟩),.agg #[.string v.s,zj v.k,zi v.n],.pointer (some ⟨b,0,none⟩)].toArray W fun e W'=>∃u,e=.returned u/\∃P',Stp n1 (rows P ((newS (vs.take j) s).newCell l)) W (rows P' (newS (vs.take (j+1)) s)) W'/\P'.sb=sb:=by
 subst hsb hb hv;have e1:(vs.take j).length=j:=by rw[List.length_take];omega
 have hadd:=zso h .sb .bv .bc zS zS zS P.sb 0 rfl rfl rfl (zkX (vs.take j)) (ptrs P.cb (List.range j)) j (by simp[rows,newS,ST.newCell,e1]) (by simp[rows,newS,ST.newCell,e1]) zO vs[j] (some ⟨P.cb j,0,none⟩);refine hadd.mono ?_;rintro e W' ⟨⟨u,hu⟩,vv,vc,hst⟩;refine⟨u,hu,P.setCur ((newS (vs.take j) s).newCell l) vv vc,?_,?_⟩
 ·have:=zxd (P:=P) (S:=(newS (vs.take j) s).newCell l) (W:=W) (W':=W') (n0:=n1) vs[j] j vv vc (by simp[ST.cur,newS,ST.newCell]) (by
   have e2:((newS (vs.take j) s).newCell l).cur.vs.length=j:=e1;have e3:((newS (vs.take j) s).newCell l).cur.cs=List.range j:=by show List.range (vs.take j).length=_;rw[e1]
   rw[e2,e3];exact hst)
  rw[show((newS (vs.take j) s).newCell l).setCur (((newS (vs.take j) s).newCell l).cur.snoc vs[j] j)=newS (vs.take (j+1)) s from zvb vs s j hj l hl]at this;exact this
 ·unfold Ph.setCur;split<;>rfl
theorem zKl(p:Option Addr)(w:World):(Instr.build 167 #[(2,.pointer p)]).run prog w=.ok (.agg #[zn,zn,zi 0,zn,.pointer p]) w:=zK
theorem zKt(A:Option Addr)(l c:Nat)(w:World):(Instr.build 171 #[(0,.slice A l c)]).run prog w=.ok (.agg #[.slice A l c]) w:=zK
def NewP(vs:List VD)(s:SS)(w:World)(e:Ending)(w':World):Prop:=zw w w' /\
 ((fitB vs s=false/\e=.returned (.tuple #[.pointer none,zi 3]))\/(fitB vs s=true/\∃P:Ph,e=.returned (.tuple #[.pointer (some ⟨P.sb,0,none⟩),zi 0])/\SR w' w.heap.size P (newS vs s)))
theorem zKI(vs:List VD)(s:SS)(A:Option Addr)(c:Nat)(v:Value)(w:World)(hrow:RowV w Any A vs)(hl:vs.length<=LV)(hv:SV w Any s v):Calls prog 73 #[.slice A vs.length c,v] w (NewP vs s w):=by
 have qB:=zh (fun w' (hb:zw w w')=>zyO vs s A c v w' (hrow.later hb) hl (hv.later hb));obtain⟨AC,cC,AI,BQ,AO,cO,rfl,hr1,hr2,hr3,hc1,hc2,hc3,hl1,hl2,hl3,hl4⟩:=hv;have hl':=zk1 hl;have HF:=zh (show ∀u∈vs,FldV u from fun u hu=>by
  obtain⟨q,hq,rfl⟩:=List.mem_iff_getElem.1 hu;obtain⟨_,_,_,_,xA⟩:=hrow q hq;exact xA)
 have HCF:=zh (show ∀l∈s.cells,∀x∈l,I64 x from fun l hl=>by
  obtain⟨q,hq,rfl⟩:=List.mem_iff_getElem.1 hl;obtain⟨_,_,_,_,_,_,_,hr⟩:=hr1 q hq;exact hr.fits)
 have HIF:=zh hr2.fits;have HOF:=zh hr3.fits;have ae:=zh hrow;have HR1:=zh hr1;have HR2:=zh hr2;have HR3:=zh hr3;have HL2:=zh hl2;obtain⟨R,hR⟩:=zX (fitB vs s);have HR:=zh hR;rw[hR]at qB;obtain⟨n1,hn1⟩:=zX (s.cells.length);obtain⟨n2,hn2⟩:=zX (s.tin.length);obtain⟨n3,dm⟩:=zX (s.tout.length);have fA:=zh hn1;have aF:=zh hn2;have di:=zh dm;rw[hn1,hn2,dm]at qB;rw[hn1,hn2,dm];clear hrow hr1 hr2 hr3 hc1 hc2 hc3 hl1 hl2 hl3 hl4 hl hR hn1 hn2 dm;go_enter func73,ntmps73;go_wp2_with fail;refine(qB.out _ (zkb zr _)).mono ?_;rintro e9 w1 ⟨rfl,aa⟩;have HB1:=zh (zka (zkb (zs w) _) aa);have hP:=zkc (heap_alloc_new w (.cells #[.slice AC n1 cC,.slice AI n2 BQ,.slice AO n3 cO] 44)) aa;clear aa
 cases R
 ·go_wp2_with fail;go_ret2;exact⟨HB1.out,.inl ⟨HR.out,rfl⟩⟩
 ·obtain⟨h32,hlen,h4i,h4o,hall⟩:=zte HR.out;have bP:=zh hall;have HLEN:=zh hlen;have HTN:=zh (zyA s.tin s.tout AI AO BQ cO w1 (HR2.out.later HB1.out) (HR3.out.later HB1.out) h4i h4o);rw[aF.out,di.out]at HTN;have x1:w1.cell? ⟨w.heap.size,1,none⟩=some (.slice AI n2 BQ):=zc hP rfl;have x2:w1.cell? ⟨w.heap.size,2,none⟩=some (.slice AO n3 cO):=zc hP rfl;have HP0:=zh hP;have hbst:=zKl;clear hlen h4i h4o hall hP;go_wp2_with fail;refine HTN.out.mono ?_;rintro e9 w2 ⟨tb,vI,vO,rfl,ht,h1,o1,o2,t1,t2,t3,aj⟩;rw[<-aF.out]at o1;rw[<-di.out]at o2;have Cg:=zh (ztN (zr5 HR.out HF.out HCF.out HIF.out HOF.out 0 (Nat.zero_le _)) aj h1 ht o1 o2 t1 t2 t3 rfl);have HB2:=zh aj;clear ht h1 o1 o2 t1 t2 t3 aj x1 x2;go_wp2_with fail
  go_loopw [30] (fun i wr=>∃j:Nat,j<=vs.length/\i=zi j/\Hid (zw w1 wr)/\∃P:Ph,Hid (SR wr w1.heap.size P (newS (vs.take j) s))/\Hid (P.sb=w2.heap.size)) (fun i _=>vs.length-(intOf i).toNat)
  case atStart=>exact⟨0,Nat.zero_le _,rfl,zh (zkb HB2.out _),_,Cg,zh rfl⟩
  case round =>
   obtain⟨j,hj,rfl,ag,P,HS,ko⟩:=hrel;by_cases hlt:j<vs.length
   ·have hlc:j<s.cells.length:=by rw[HLEN.out];exact hlt
    obtain⟨a,rfl,-,⟨y0,y1,y2⟩,-⟩:=((ae.out.later HB1.out).later ag.out) j hlt;obtain⟨b,l,A',c',rfl,Hl,x0,-,aT⟩:=((HR1.out.later HB1.out).later ag.out).nd hlc;have dK:=zh (show b.block<w.heap.size by
     obtain⟨a',_,_,hA,_,hcw,_⟩:=HR1.out j hlc;injection hA with hA;have:=World.block_lt_of_cell? w _ hcw;rw[zkF,<-hA]at this;exact this)
    obtain⟨v,hv⟩:=zX (vs[j]);rw[hv]at y0 y1 y2;have Hv:=zh hv;have hll:l.length<=LI:=by rw[<-Hl.out];exact HL2.out _ (List.getElem_mem hlc)
    have Hgd:=zh (show s.cells.getD j []=l by rw[<-Hl.out];simp[hlc]);obtain⟨vm,vk,vn⟩:=v;dsimp only at y0 y1 y2;have hj1:(j:Int)<(vs.length:Int):=zO
    have hj2:(j:Int)<(n1:Int):=by have:=fA.out;have:=HLEN.out;omega
    have bU:=zh aT;have z0:wr.cell? ⟨w.heap.size,0,none⟩=some (.slice (some b) n1 cC):=zb ag.out (zc HP0.out rfl);have hbx:=zKt;clear aT hv;go_upto_region 10 with fail;obtain⟨wa,yH⟩:=zX (wr.alloc (.cells #[.string vm,zj vk,zi vn] 38));have yP:zw wr wa:=yH▸zkb zr _;have hvb:wa.heap[wr.heap.size]?=some (.cells #[.string vm,zj vk,zi vn] 38 (0,0)):=yH▸heap_alloc_new wr _;rw[yH];have q0:wa.cell? ⟨wr.heap.size,0,none⟩=some (.string vm):=zc hvb rfl;have q1:wa.cell? ⟨wr.heap.size,1,none⟩=some (zj vk):=zc hvb rfl;have q2:wa.cell? ⟨wr.heap.size,2,none⟩=some (zi vn):=zc hvb rfl;have q3:=zb yP z0;have q4:=zb yP x0;have rD:=zh yP;clear yH yP hvb y0 y1 y2 x0 z0
    obtain⟨S1,hS1⟩:∃S1:World->Prop,S1=fun w':World=>w'.cell? ⟨wr.heap.size,0,none⟩=some (.string vm)/\w'.cell? ⟨wr.heap.size,1,none⟩=some (zj vk)/\w'.cell? ⟨wr.heap.size,2,none⟩=some (zi vn)/\w'.cell? ⟨w.heap.size,0,none⟩=some (.slice (some b) n1 cC)/\w'.cell? (b.add j)=some (.slice A' l.length c'):=⟨_,rfl⟩
    have HSa:=zh (show S1 wa by rw[hS1];exact⟨q0,q1,q2,q3,q4⟩);have HSk:=zh (show ∀W W',S1 W->(∀p u,W.cell? p=some u->(p.block=wr.heap.size\/p.block=w.heap.size\/p.block=b.block)->W'.cell? p=some u)->S1 W' by
     rw[hS1];rintro W W' ⟨a0,a1,a2,a3,a4⟩ hk;exact⟨hk _ _ a0 (.inl rfl),hk _ _ a1 (.inl rfl),hk _ _ a2 (.inl rfl),hk _ _ a3 (.inr (.inl rfl)),hk _ _ a4 (.inr (.inr (zkF b j)))⟩)
    have wM:=zh (show ∀W W',S1 W->zw W W'->S1 W' from fun W W' h hb=>HSk.out W W' h fun p u hp _=>zb hb hp);have hSS:zW S1 zU wa.drew:=⟨wM.out _ _ HSa.out zr.drew,trivial⟩
    refine wp_region_noPanic ?_;refine zG hSS 12 ?_;subst hS1;refine zT 0 hSS ?_;refine zT 1 hSS ?_;refine zT 2 hSS ?_;refine zT 3 hSS ?_;refine zT 4 hSS ?_;refine zT 5 hSS ?_;refine zT 6 hSS ?_;refine zT 7 hSS ?_;refine zT 8 hSS ?_;have had:Calls prog 55 [.slice A' l.length c'].toArray wa.drew fun e w'=>∃u,e=.returned u/\w'.ownsRow wa.drew.heap.size 3 1 u l.length (zki l)/\Below wa.drew.heap.size wa.drew w' :=
     (zkT l A' c' Any wa.drew ((bU.out.later rD.out).later zr.drew) hll).mono fun e w' ⟨u,hu,h1,_,h2⟩=>⟨u,hu,h1,h2⟩
    refine zo 9 fun K hK=>?_;refine zke zR (.func 55) [.tmp 43] _ zR 55 _ zm1 zR _ zR _ had ?_;rintro v4 w4 ⟨eU,hb4⟩;obtain⟨A4,c4,rfl,-,-⟩:=zkh eU;have ja:=zh eU;have ay:=zh hb4;have jK:=zh (wM.out _ _ hSS.1 hb4);refine hK.out _ _ ⟨jK.out,trivial⟩ ?_;clear hK K hSS had eU hb4 q0 q1 q2 q3 q4;(try simp only[zQ]);refine zo 10 fun K hK=>?_;(try simp only[zA,zB,zC]);go_simp;refine hK.out _ _ ⟨jK.out,trivial⟩ ?_;clear hK K;(try simp only[zQ]);refine zo 11 fun K hK=>?_;(try simp only[zA,zB,zC]);go_simp;have wN:=zh (wM.out _ _ jK.out (zkb zr (.cells #[.slice A4 l.length c4] 171)));refine hK.out _ _ ⟨wN.out,trivial⟩ ?_;clear hK K;(try simp only[zQ]);have e1:(vs.take j).length=j:=by rw[List.length_take];omega
    have s1:=zr6 ((HS.out.later rD.out).later zr.drew) ay.out (.slice A4 l.length c4) l ja.out;have had:=zKz (hj:=hlt) (hl:=Hgd.out) s1.rws zO w2.heap.size w4.heap.size ko.out (by simp[Ph.newCell,newS,e1]) ⟨vm,vk,vn⟩ Hv.out;dsimp only at had;refine zp 12 fun K hK=>?_;refine zke zR (.func 104) [.tmp 37,.tmp 38,.tmp 46] _ zR 104 _ zLl zR _ zR _ had ?_;rintro v6 w6 ⟨P',hst,hsb'⟩;have hza:wr.heap.size<wa.drew.heap.size:=World.block_lt_of_cell? _ _ HSa.out.1;have yD:w.heap.size<w1.heap.size:=zkf HP0.out;have hBl:=ag.out.size;have hown:∀b',OwnB (rows (P.newCell (newS (vs.take j) s) w4.heap.size (.slice A4 l.length c4)) ((newS (vs.take j) s).newCell l)) b'->w1.heap.size<=b'/\b'≠wr.heap.size:=fun b' hb'=>by
     rcases s1.own b' hb' with⟨q,hq⟩|hq
     ·have:=HS.out.rws.lt q b' hq;omega
     ·omega
    have hS6:=HSk.out _ _ wN.out fun p u hp hpb=>zk2 hst.chg hp fun hb'=>by
     have h1:=hown _ hb';have h2:=dK.out;rcases hpb with e|e|e<;>rw[e]at h1<;>omega
    refine hK.out _ _ hS6 ?_;have HST:=zh (show SR w6 w1.heap.size P' (newS (vs.take (j+1)) s)from⟨hst.rws,zr5 HR.out HF.out HCF.out HIF.out HOF.out (j+1) hlt⟩);have bB:=zh (show zw w1 w6 by
     have b4:zw w1 w4:=zka (zka ag.out rD.out).drew ay.out;have b5:zw w1 (w4.alloc (.cells #[.slice A4 l.length c4] 171)):=zkb b4 _;exact b5.trans (hst.chg.below b5.size fun b' hb'=>(hown b' hb').1))
    have HSB':=zh hsb';clear hK K hst had s1 hown hsb' hS6;(try simp only[zQ]);refine zd ?_;refine NoPanic.normal ?_;go_wp2_with fail
    go_roundw
    case rel=>exact⟨j+1,zO,by go_num,bB,P',HST,HSB'⟩
    case measure=>simp[intOf];omega
   ·obtain rfl:j=vs.length:=zO
    have hj1:¬ (vs.length:Int)<(vs.length:Int):=zO
    go_wp2_with fail;go_ret2;refine⟨HB1.out.trans (ag.out.mono ?_),.inr ⟨HR.out,P,by rw[ko.out];rfl,?_⟩⟩
    ·have:=HB1.out.size;omega
    ·have h1:=HS.out;rw[List.take_of_length_le zl]at h1;exact h1.mono HB1.out.size
end
end Go.Proofs.YthjinpodhacleaaGreat
