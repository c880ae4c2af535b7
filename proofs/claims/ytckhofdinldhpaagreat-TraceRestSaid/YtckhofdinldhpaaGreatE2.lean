/-
  Texts of the proof, put together without their remarks: Ev, Sq, Stk, Ss, Sp, Cal, Sn, Sv, Nw.
-/
import Derived.Test.YtckhofdinldhpaaGreatE1
import Derived.Deep.DeepCutAuto
import Derived.IntWalk
import Derived.BigQuiet
set_option linter.unusedSimpArgs false
set_option linter.unusedVariables false
set_option maxHeartbeats 8000000
set_option maxRecDepth 100000
namespace Go.Proofs.YtckhofdinldhpaaGreat
open Go Go.RowKit
def varE (look:ByteArray->Option (List Int)) (k:Int) (s:ByteArray) (i:Int×Int):Int×Int :=
 match look s with
 | none=>(0,6)
 | some l =>
  if k=2 then (if l.length=1 then (l.getD 0 0,0) else (0,7))
  else if k=3 then (if i.2≠0 then (0,i.2) else if 0<=i.1/\i.1<l.length then (l.getD i.1.toNat 0,0) else (0,12))
  else if k=4 then (if l.length=0 then (0,13) else (l.getD (l.length-1) 0,0))
  else (l.length,0)
def evK (look:ByteArray->Option (List Int)) (k n:Int) (s:ByteArray) (rs:List (Int×Int)):Int×Int :=
 if k=1 then (n,0)
 else if 2<=k/\k<=5 then varE look k s (rs.getD 0 (0,0))
 else if (rs.getD 0 (0,0)).2≠0 then (0,(rs.getD 0 (0,0)).2)
 else if rs.length=1 then unE k (rs.getD 0 (0,0)).1
 else if (rs.getD 1 (0,0)).2≠0 then (0,(rs.getD 1 (0,0)).2)
 else apE k (rs.getD 0 (0,0)).1 (rs.getD 1 (0,0)).1
mutual
def evE (look:ByteArray->Option (List Int)):T->Int×Int
 | .nd k n s ks=>evK look k n s (evEs look ks)
def evEs (look:ByteArray->Option (List Int)):List T->List (Int×Int)
 | []=>[]
 | t::ts=>evE look t::evEs look ts
end
theorem zp6 (look:ByteArray->Option (List Int)):∀ ks:List T,evEs look ks=ks.map (evE look)
 | []=>by simp[evEs]
 | t::ts=>by simp[evEs,zp6 look ts]
structure zr4 (f:FuncId) (fn:Func) (rv:Value) (Rd:World->Prop) (look:ByteArray->Option (List Int)):Prop where
 isFn:IsFn Tryz.prog f fn
 later:∀ W W',Rd W->Below W.heap.size W W'->Rd W'
 fits:∀ s l,look s=some l->l.length<=100000
 call:∀ (s:ByteArray) (W:World),Rd W->Calls Tryz.prog f #[rv,.string s] W fun e W'=>Below W.heap.size W W' /\
  ((look s=none/\∃ A c,e=.returned (.tuple #[.slice A 0 c,.bool false]))\/∃ l A c,look s=some l/\e=.returned (.tuple #[.slice A l.length c,.bool true])/\RowI W' Any A l)
def NumE (r:Int×Int) (w:World) (e:Ending) (w':World):Prop:=e=.returned (.tuple #[.int .i64 r.1,.int .i64 r.2])/\Below w.heap.size w w'
def ValC (f:FuncId) (rv:Value) (Rd:World->Prop) (look:ByteArray->Option (List Int)) (t:T):Prop :=
 ∀ (v:Value) (W:World),NV W Any t v->Rd W->Calls Tryz.prog 143 #[v,.func (.func f) #[rv] #[]] W (NumE (evE look t) W)
theorem RowI.nd {w:World} {S:Nat->Prop} {A:Option Addr} {xs:List Int} (h:RowI w S A xs) {i:Nat} (hi:i<xs.length):∃ a:Addr,A=some a/\w.cell? (a.add i)=some (.int .i64 (xs.getD i 0)) :=
 let ⟨a,h1,_,h3,_⟩:=h i hi;⟨a,h1,by simpa[hi] using h3⟩
theorem zm0 {f:FuncId} {fn:Func} {rv:Value} {Rd:World->Prop} {look:ByteArray->Option (List Int)} (hL:zr4 f fn rv Rd look) (k n:Int) (s:ByteArray) (ks:List T) (v:Value) (w:World) (hv:NV w Any (.nd k n s ks) v) (hR:Rd w)
  (hk:2<=k/\k<=5) (h3:k=3->∃ t,ks=[t]/\ValC f rv Rd look t) :
  Calls Tryz.prog 175 #[v,.func (.func f) #[rv] #[]] w (NumE (varE look k s ((ks.map (evE look)).getD 0 (0,0))) w):=by
 obtain⟨A,c,rfl,hf,hlk,hlc,hrow⟩:=hv.open_;simp only[T.k_nd,T.n_nd,T.s_nd,T.ks_nd] at *
 have hcall:=zkH hL.isFn;have HL:=zh hL;have oM:=zh hR;have ag:=zh hrow;have H3:=zh h3;obtain⟨L,dA⟩:∃ L,ks.length=L:=⟨_,rfl⟩
 rw[dA];obtain⟨R,hRR⟩:∃ R,varE look k s ((ks.map (evE look)).getD 0 (0,0))=R:=⟨_,rfl⟩
 rw[hRR];have HRR:=zh hRR;have cB:=zh dA;clear hv hrow h3 hL hR hRR dA hf hlk hlc;go_enter Tryz.func175,Tryz.ntmps175;go_wp2_with fail;refine(HL.out.call s _ (HL.out.later _ _ oM.out (zkd (Below.refl _ _) _))).mono ?_;rintro e w1 ⟨aa,h1⟩;have q1:=zka (zkd (Below.refl _ _) _) aa;have hN:=zkc (heap_alloc_new w (.cells #[.int .u8 k,.int .i64 n,.string s,.slice A L c] 29)) aa;obtain⟨a0,a1,a2,a3⟩:=box4 hN;have HN:=zh hN;clear aa hN;rcases h1 with⟨hno,A1,c1,rfl⟩|⟨l,A1,c1,hso,rfl,aL⟩
 ·have hRR:R=(0,6):=by rw[<-HRR.out,varE,hno]
  subst hRR;clear a0 a1 a2 a3;go_wp2_with fail;go_ret2;exact⟨rfl,q1⟩
 ·have hlen:=HL.out.fits s l hso;have eH:=zh aL;have lQ:=zh hso;clear aL hso;by_cases k2:k=2
  ·subst k2;have hRR:R=if l.length=1 then (l.getD 0 0,0) else (0,7):=by rw[<-HRR.out,varE,lQ.out];rfl
   by_cases hl1:l.length=1
   ·rw[if_pos hl1] at hRR;obtain⟨a,rfl,hc⟩:=eH.out.nd (i:=0) (by omega);simp only[Addr.add_zero'] at hc;obtain⟨x0,hx0⟩:∃ x0,l.getD 0 0=x0:=⟨_,rfl⟩
    rw[hx0] at hc hRR;have HX:=zh hRR;rw[hl1];clear hx0 hl1 eH HRR lQ hRR;go_wp2_with fail;go_ret2;exact⟨by rw[HX.out];rfl,q1⟩
   ·rw[if_neg hl1] at hRR;have HX:=zh hRR;have e1:((l.length:Int)==1)=false:=by simp;omega
    have e2:((l.length:Int) != 1)=true:=by simp;omega
    clear hl1 hRR;go_wp2_with fail;go_ret2;exact⟨by rw[HX.out];rfl,q1⟩
  by_cases k4:k=4
  ·subst k4;have hRR:R=if l.length=0 then (0,13) else (l.getD (l.length-1) 0,0):=by rw[<-HRR.out,varE,lQ.out];rfl
   by_cases hl1:l.length=0
   ·rw[if_pos hl1] at hRR;have HX:=zh hRR;rw[hl1];clear hl1 eH HRR lQ hRR;go_wp2_with fail;go_ret2;exact⟨by rw[HX.out];rfl,q1⟩
   ·rw[if_neg hl1] at hRR;obtain⟨a,rfl,hc⟩:=eH.out.nd (i:=l.length-1) (by omega);obtain⟨x0,hx0⟩:∃ x0,l.getD (l.length-1) 0=x0:=⟨_,rfl⟩
    rw[hx0] at hc hRR;have HX:=zh hRR;obtain⟨m,hm⟩:∃ m,l.length=m+1:=⟨l.length-1,by omega⟩
    rw[hm] at hc hlen ⊢;simp only[Nat.add_sub_cancel] at hc;clear hx0 hl1 eH HRR lQ hm hRR;go_wp2_with fail;go_ret2;exact⟨by rw[HX.out];rfl,q1⟩
  by_cases k5:k=5
  ·subst k5;have hRR:R=((l.length:Int),0):=by rw[<-HRR.out,varE,lQ.out];rfl
   have HX:=zh hRR;clear eH HRR lQ hRR;go_wp2_with fail;go_ret2;exact⟨by rw[HX.out];rfl,q1⟩
  ·obtain rfl:k=3:=by omega
   obtain⟨t,rfl,hval⟩:=H3.out rfl;obtain⟨a,t0,A2,c2,rfl,_,Ht,⟨y0,y1,y2,y3⟩,hn0⟩:=(ag.out.later q1).nd (i:=0) (by simp);simp only[Nat.zero_mul,Addr.add_zero'] at y0 y1 y2 y3;have ht0:t0=t:=Ht.out.symm;subst ht0;have hL1:L=1:=cB.out.symm;subst hL1;obtain⟨⟨iv,ie⟩,hiv⟩:∃ r,evE look t0=r:=⟨_,rfl⟩
   have hRR:R=if ie≠0 then (0,ie) else if 0<=iv/\iv<l.length then (l.getD iv.toNat 0,0) else (0,12):=by rw[<-HRR.out,varE,lQ.out];simp[hiv]
   have il:=zh (show ∀ (v:Value) (W:World),NV W Any t0 v->Rd W->Calls Tryz.prog 143 #[v,.func (.func f) #[rv] #[]] W (NumE (iv,ie) W) from hiv▸hval);have gG:=zh hn0;have HR2:=zh hRR;clear hval hn0 Ht hiv hRR;go_wp2_with fail;refine(il.out _ _ gG.out (HL.out.later _ _ oM.out q1)).mono ?_;rintro e w2 ⟨rfl,aj⟩;have q2:=zka q1 aj;have dZ:=zh (eH.out.later aj);have hRR:=HR2.out;clear aj a0 a1 a2 a3 y0 y1 y2 y3 HRR lQ eH HR2;by_cases he:ie=0
   ·subst he;rw[if_neg (by simp)] at hRR;by_cases hb:0<=iv/\iv<l.length
    ·rw[if_pos hb] at hRR;obtain⟨j,hj⟩:∃ j:Nat,iv=j:=⟨iv.toNat,by omega⟩
     subst hj;have hjl:j<l.length:=by omega
     obtain⟨a',rfl,hc⟩:=dZ.out.nd hjl;simp only[Int.toNat_natCast] at hRR;obtain⟨x0,hx0⟩:∃ x0,l.getD j 0=x0:=⟨_,rfl⟩
     rw[hx0] at hc hRR;have HX:=zh hRR;clear hx0 dZ hRR hb;go_wp2_with fail;go_ret2;exact⟨by rw[HX.out];rfl,q2⟩
    ·rw[if_neg hb] at hRR;have HX:=zh hRR;clear hRR dZ;by_cases h0:0<=iv
     ·have h1:(l.length:Int)<=iv:=by omega
      have h2:¬ iv<0:=by omega
      clear hb;go_wp2_with fail;go_ret2;exact⟨by rw[HX.out];rfl,q2⟩
     ·have h1:iv<0:=by omega
      clear hb;go_wp2_with fail;go_ret2;exact⟨by rw[HX.out];rfl,q2⟩
   ·rw[if_pos he] at hRR;have HX:=zh hRR;have e1:(ie==0)=false:=by simpa using he
    have e2:(ie != 0)=true:=by simpa using he
    clear hRR dZ he;go_wp2_with fail;go_ret2;exact⟨by rw[HX.out];rfl,q2⟩
theorem zn5 {k n:Int} {s:ByteArray} {ks:List T} (h:isE (.nd k n s ks)=true) :
  (k=1/\ks=[])\/((k=2\/k=4\/k=5)/\ks=[])\/(k=3/\∃ t,ks=[t]/\isE t=true)\/((k=6\/k=7)/\∃ t,ks=[t]/\isE t=true)\/((8<=k/\k<=23)/\∃ t u,ks=[t,u]/\isE t=true/\isE u=true):=by
 have l0:decide (ks.length=0)=true->ks=[]:=fun h=>by simpa using h
 have l1:(decide (ks.length=1)&&isEs ks)=true->∃ t,ks=[t]/\isE t=true:=fun h=>by
  match ks with
  | [t]=>simp[isEs] at h;exact⟨t,rfl,h⟩
  | []=>simp at h
  | a::b::l=>simp at h
 have l2:(decide (ks.length=2)&&isEs ks)=true->∃ t u,ks=[t,u]/\isE t=true/\isE u=true:=fun h=>by
  match ks with
  | [t,u]=>simp[isEs] at h;exact⟨t,u,rfl,h⟩
  | []=>simp at h
  | [a]=>simp at h
  | a::b::c::l=>simp at h
 rw[isE] at h
 split at h
 ·rename_i h1;simp only[Bool.and_eq_true] at h;exact .inl ⟨h1,l0 h.2⟩
 ·split at h
  ·rename_i h1;simp only[Bool.and_eq_true] at h;exact .inr (.inl ⟨h1,l0 h.2⟩)
  ·split at h
   ·rename_i h1;rw[Bool.and_eq_true] at h;exact .inr (.inr (.inl ⟨h1,l1 h.2⟩))
   ·split at h
    ·rename_i h1;rw[Bool.and_eq_true] at h;exact .inr (.inr (.inr (.inl ⟨h1,l1 h.2⟩)))
    ·split at h
     ·rename_i h1;rw[Bool.and_eq_true] at h;exact .inr (.inr (.inr (.inr ⟨h1,l2 h.2⟩)))
     ·cases h
theorem zof {f:FuncId} {fn:Func} {rv:Value} {Rd:World->Prop} {look:ByteArray->Option (List Int)} (hL:zr4 f fn rv Rd look) (t:T):isE t=true->ValC f rv Rd look t:=by
 refine T.ind (p:=fun t=>isE t=true->ValC f rv Rd look t) ?_ t;intro k n s ks ih hE v w hv hR;have HV:=zh hv;have HL:=zh hL;have oM:=zh hR;obtain⟨A,c,rfl,hf,hlk,hlc,hrow⟩:=hv.open_;simp only[T.k_nd,T.n_nd,T.s_nd,T.ks_nd] at *
 have ag:=zh hrow;obtain⟨R,hRR⟩:∃ R,evE look (.nd k n s ks)=R:=⟨_,rfl⟩
 rw[hRR];rw[evE,zp6] at hRR;rcases zn5 hE with⟨rfl,rfl⟩|⟨hk,rfl⟩|⟨rfl,t,rfl,ht⟩|⟨hk,t,rfl,ht⟩|⟨hk,t,u,rfl,ht,hu⟩
 ·have HX:=zh (show R=(n,0) by rw[<-hRR,evK];rfl);clear hv hrow ih hE hR hL hRR hf hlk hlc;go_enter Tryz.func143,Tryz.ntmps143;go_wp2_with fail;go_ret2;exact⟨by rw[HX.out];rfl,zkd (Below.refl _ _) _⟩
 ·have HX:=zh (show varE look k s (([].map (evE look)).getD 0 (0,0))=R by rw[<-hRR,evK,if_neg (by omega),if_pos (by omega)]);have HC:=zh (fun w' (h:Below w.heap.size w w')=>zm0 hL k n s [] _ w' (hv.later h) (hL.later _ _ hR h) (by omega) (fun h=>by omega));clear hv hrow ih hE hR hL hRR hf hlk hlc;rcases hk with rfl|rfl|rfl
  all_goals
   go_enter Tryz.func143,Tryz.ntmps143;go_wp2_with fail;refine(HC.out _ (zkd (Below.refl _ _) _)).mono ?_;rintro e w1 ⟨rfl,aa⟩;rw[HX.out];have q1:=zka (zkd (Below.refl _ _) _) aa;clear aa;go_wp2_with fail;go_ret2;exact⟨rfl,q1⟩
 ·have HX:=zh (show varE look 3 s (([t].map (evE look)).getD 0 (0,0))=R by rw[<-hRR,evK,if_neg (by omega),if_pos (by omega)]);have HC:=zh (fun w' (h:Below w.heap.size w w')=>zm0 hL 3 n s [t] _ w' (hv.later h) (hL.later _ _ hR h) (by omega) (fun _=>⟨t,rfl,ih t List.mem_cons_self ht⟩));clear hv hrow ih hE hR hL hRR hf hlk hlc;simp only[List.length_cons,List.length_nil,Nat.zero_add] at *
  go_enter Tryz.func143,Tryz.ntmps143;go_wp2_with fail;refine(HC.out _ (zkd (Below.refl _ _) _)).mono ?_;rintro e w1 ⟨rfl,aa⟩;rw[HX.out];have q1:=zka (zkd (Below.refl _ _) _) aa;clear aa;go_wp2_with fail;go_ret2;exact⟨rfl,q1⟩
 ·obtain⟨⟨iv,ie⟩,hiv⟩:∃ r,evE look t=r:=⟨_,rfl⟩
  obtain⟨⟨uv,ue⟩,hu⟩:∃ r,unE k iv=r:=⟨_,rfl⟩
  have HX:=zh (show R=if ie≠0 then (0,ie) else (uv,ue) by rw[<-hRR,<-hu,evK,if_neg (by omega),if_neg (by omega)];simp[hiv]);have il:=zh (show ∀ (v:Value) (W:World),NV W Any t v->Rd W->Calls Tryz.prog 143 #[v,.func (.func f) #[rv] #[]] W (NumE (iv,ie) W) from hiv▸ih t List.mem_cons_self ht);obtain⟨a,t0,A2,c2,rfl,_,Ht,⟨y0,y1,y2,y3⟩,hn0⟩:=(hrow.later (zkd (Below.refl _ _) (.cells #[.int .u8 k,.int .i64 n,.string s,.slice A [t].length c] 29))).nd (i:=0) (by simp);simp only[Nat.zero_mul,Addr.add_zero',List.length_cons,List.length_nil,Nat.zero_add] at *
  have ht0:t0=t:=Ht.out.symm;subst ht0;have gG:=zh hn0;have hbx:=box4 (heap_alloc_new w (.cells #[.int .u8 k,.int .i64 n,.string s,.slice (some a) 1 c] 29));obtain⟨W0,hW0⟩:∃ W0,w.alloc (.cells #[.int .u8 k,.int .i64 n,.string s,.slice (some a) 1 c] 29)=W0:=⟨_,rfl⟩
  have q0:Below w.heap.size w W0:=hW0▸zkd (Below.refl _ _) _;rw[hW0] at y0 y1 y2 y3 gG hbx;have lT:=zh (hL.later _ _ hR q0);have vD:=zh (show ∀ w,Calls Tryz.prog 176 #[.int .u8 k,.int .i64 iv] w fun e w'=>e=.returned (.tuple #[.int .i64 uv,.int .i64 ue])/\w'=w from fun w=>by have:=zrY k iv hk w;rwa[hu] at this);have ax:=zh hbx;obtain⟨x0,x1,x2,x3⟩:=hbx;clear hv hrow ih hE hR hL hRR hf hlk hlc hn0 Ht hiv hu;rcases hk with rfl|rfl
  all_goals
   go_enter Tryz.func143,Tryz.ntmps143;go_wp2_with fail;refine(il.out _ _ gG.out lT.out).mono ?_;rintro e w1 ⟨rfl,aa⟩;have q1:=zka q0 aa;have hx0:=zb aa x0;have hx3:=zb aa x3;clear aa y0 y1 y2 y3 x0 x1 x2 x3;have hX:=HX.out;by_cases he:ie=0
   ·subst he;rw[if_neg (by simp)] at hX;have bN:=zh hX;clear hX HX;go_wp2_with fail;refine(vD.out _).mono ?_;rintro e w2 ⟨rfl,rfl⟩;go_wp2_with fail;go_ret2;exact⟨by rw[bN.out];rfl,q1⟩
   ·rw[if_pos he] at hX;have bN:=zh hX;have e1:(ie==0)=false:=by simpa using he
    have e2:(ie != 0)=true:=by simpa using he
    clear hX HX he;go_wp2_with fail;go_ret2;exact⟨by rw[bN.out];rfl,q1⟩
 ·obtain⟨⟨iv,ie⟩,hiv⟩:∃ r,evE look t=r:=⟨_,rfl⟩
  obtain⟨⟨jv,je⟩,hjv⟩:∃ r,evE look u=r:=⟨_,rfl⟩
  obtain⟨⟨uv,ue⟩,hu'⟩:∃ r,apE k iv jv=r:=⟨_,rfl⟩
  have HX:=zh (show R=if ie≠0 then (0,ie) else if je≠0 then (0,je) else (uv,ue) by rw[<-hRR,<-hu',evK,if_neg (by omega),if_neg (by omega)];simp[hiv,hjv]);have il:=zh (show ∀ (v:Value) (W:World),NV W Any t v->Rd W->Calls Tryz.prog 143 #[v,.func (.func f) #[rv] #[]] W (NumE (iv,ie) W) from hiv▸ih t (by simp) ht);have HVD:=zh (show ∀ (v:Value) (W:World),NV W Any u v->Rd W->Calls Tryz.prog 143 #[v,.func (.func f) #[rv] #[]] W (NumE (jv,je) W) from hjv▸ih u (by simp) hu);have vD:=zh (show ∀ w,Calls Tryz.prog 177 #[.int .u8 k,.int .i64 iv,.int .i64 jv] w fun e w'=>e=.returned (.tuple #[.int .i64 uv,.int .i64 ue])/\w'=w from fun w=>by have:=zsp k iv jv hk w;rwa[hu'] at this);have hrow':=hrow.later (zkd (Below.refl _ _) (.cells #[.int .u8 k,.int .i64 n,.string s,.slice A [t,u].length c] 29));obtain⟨a,t0,A2,c2,rfl,_,Ht,h4,hn0⟩:=hrow'.nd (i:=0) (by simp)
  obtain⟨a',t1,A3,c3,ea,_,Hu,h5,hn1⟩:=hrow'.nd (i:=1) (by simp);injection ea with ea;subst ea;have ha:a.add (1*4)=⟨a.block,a.off+4,none⟩:=by unfold Addr.add;split<;>simp_all
  rw[ha] at h5;simp only[Nat.zero_mul,Addr.add_zero',List.length_cons,List.length_nil,Nat.zero_add] at *
  have ht0:t0=t:=Ht.out.symm;have hu0:t1=u:=Hu.out.symm;subst ht0 hu0;have hbx:=box4 (heap_alloc_new w (.cells #[.int .u8 k,.int .i64 n,.string s,.slice (some a) 2 c] 29));obtain⟨W0,hW0⟩:∃ W0,w.alloc (.cells #[.int .u8 k,.int .i64 n,.string s,.slice (some a) 2 c] 29)=W0:=⟨_,rfl⟩
  have q0:Below w.heap.size w W0:=hW0▸zkd (Below.refl _ _) _;rw[hW0] at h4 h5 hn0 hn1 hbx;have gG:=zh hn0;have lX:=zh hn1;have lT:=zh (hL.later _ _ hR q0);have dN:=zh (show ∀ w',Below W0.heap.size W0 w'->(Nd4 w' a t0 A2 c2/\Nd4 w' ⟨a.block,a.off+4,none⟩ t1 A3 c3)/\w'.cell? ⟨w.heap.size,0,none⟩=some (.int .u8 k)/\w'.cell? ⟨w.heap.size,3,none⟩=some (.slice (some a) 2 c) from fun w' h=>⟨⟨zmd h h4,zmd h h5⟩,zb h hbx.1,zb h hbx.2.2.2⟩);have z1:(k==1)=false:=by simp;omega
  have z2:(k==2)=false:=by simp;omega
  have z3:(k==3)=false:=by simp;omega
  have z4:(k==4)=false:=by simp;omega
  have z5:(k==5)=false:=by simp;omega
  obtain⟨⟨⟨y0,y1,y2,y3⟩,⟨v0,v1,v2,v3⟩⟩,x0,x3⟩:=dN.out _ (Below.refl _ _);clear hv hrow hrow' ih hE hR hL hRR hf hlk hlc hn0 hn1 Ht Hu hiv hjv hu' h4 h5 hbx ha hk;go_enter Tryz.func143,Tryz.ntmps143;go_wp2_with fail;refine(il.out _ _ gG.out lT.out).mono ?_;rintro e w1 ⟨rfl,aa⟩;have r1:=aa;obtain⟨⟨⟨y0,y1,y2,y3⟩,⟨v0,v1,v2,v3⟩⟩,x0,x3⟩:=dN.out _ r1;have aK:=zh (lX.out.later r1);have HRd2:=zh (HL.out.later _ _ lT.out r1);clear aa;have hX:=HX.out;by_cases he:ie=0
  ·subst he;rw[if_neg (by simp)] at hX;have bN:=zh hX;clear hX HX;go_wp2_with fail;refine(HVD.out _ _ aK.out HRd2.out).mono ?_;rintro e w2 ⟨rfl,aj⟩;have r2:=zka r1 aj;obtain⟨⟨⟨y0,y1,y2,y3⟩,⟨v0,v1,v2,v3⟩⟩,x0,x3⟩:=dN.out _ r2;clear aj;have hX:=bN.out;by_cases hj:je=0
   ·subst hj;rw[if_neg (by simp)] at hX;have oH:=zh hX;clear hX bN;go_wp2_with fail;refine(vD.out _).mono ?_;rintro e w3 ⟨rfl,rfl⟩;go_wp2_with fail;go_ret2;exact⟨by rw[oH.out];rfl,zka q0 r2⟩
   ·rw[if_pos hj] at hX;have oH:=zh hX;have e1:(je==0)=false:=by simpa using hj
    have e2:(je != 0)=true:=by simpa using hj
    clear hX bN hj;go_wp2_with fail;go_ret2;exact⟨by rw[oH.out];rfl,zka q0 r2⟩
  ·rw[if_pos he] at hX;have bN:=zh hX;have e1:(ie==0)=false:=by simpa using he
   have e2:(ie != 0)=true:=by simpa using he
   clear hX HX he;go_wp2_with fail;go_ret2;exact⟨by rw[bN.out];rfl,zka q0 r1⟩
theorem ztP (f:FuncId) (rv:Value) (w:World):(binOp BinOp.eql 206 (.func (.func f) #[rv] #[]) .nilFunc).run Tryz.prog w=.ok (.bool false) w:=by kernel_rfl
def zkI (look:ByteArray->Option (List Int)) (t:T):Int×Int:=if isE t=true then evE look t else (0,3)
def indE (look:ByteArray->Option (List Int)) (t:T):Int×Int:=if isP t=true then (if t.k=2 then (0,0) else evE look (t.ks.getD 0 (.nd 0 0 ⟨#[]⟩ []))) else (0,3)
theorem zty {f:FuncId} {fn:Func} {rv:Value} {Rd:World->Prop} {look:ByteArray->Option (List Int)} (hL:zr4 f fn rv Rd look) (t:T) (v:Value) (w:World) (hv:NV w Any t v) (hR:Rd w) :
  Calls Tryz.prog 110 #[v,.func (.func f) #[rv] #[]] w (NumE (zkI look t) w):=by
 have HV:=zh hv;have HL:=zh hL;have oM:=zh hR;obtain⟨A,c,rfl,-⟩:=hv.open_;obtain⟨⟨R1,R2⟩,hRR⟩:∃ R,zkI look t=R:=⟨_,rfl⟩
 rw[hRR];obtain⟨b,hb⟩:∃ b,isE t=b:=⟨_,rfl⟩
 have vX:=zh (show ∀ (v:Value) (w:World),NV w Any t v->Calls Tryz.prog 102 #[v] w fun e w'=>e=.returned (.bool b)/\Below w.heap.size w w' from fun v w h=>hb▸zkB t v w h);have HVA:=zh (show b=true->∀ (v:Value) (W:World),NV W Any t v->Rd W->Calls Tryz.prog 143 #[v,.func (.func f) #[rv] #[]] W (NumE (R1,R2) W) from fun h=>by
  have h1:zkI look t=evE look t:=by rw[zkI,if_pos (hb.trans h)]
  rw[<-hRR,h1];exact zof hL t (hb.trans h))
 have cz:=zh (show b=false->R1=0/\R2=3 from fun h=>by
  rw[zkI,hb,h] at hRR;simp at hRR;exact⟨hRR.1.symm,hRR.2.symm⟩)
 clear hv hR hL hRR hb;generalize t.k=k,t.n=n,t.s=s,t.ks.length=m at *
 have hen:=ztP;go_enter Tryz.func110,Tryz.ntmps110;go_wp2_with fail;refine(vX.out _ _ (HV.out.later (zkd (Below.refl _ _) _))).mono ?_;rintro e w1 ⟨rfl,aa⟩;have q1:=zka (zkd (Below.refl _ _) _) aa;obtain⟨a0,a1,a2,a3⟩:=box4 (zkc (heap_alloc_new w (.cells #[.int .u8 k,.int .i64 n,.string s,.slice A m c] 29)) aa);clear aa
 cases b
 ·obtain⟨rfl,rfl⟩:=cz.out rfl;go_wp2_with fail;go_ret2;exact⟨rfl,q1⟩
 ·have HVA2:=zh (HVA.out rfl);clear HVA cz;go_wp2_with fail;refine(HVA2.out _ _ (HV.out.later q1) (HL.out.later _ _ oM.out q1)).mono ?_;rintro e w2 ⟨rfl,aj⟩;have q2:=zka q1 aj;clear aj;go_wp2_with fail;go_ret2;exact⟨rfl,q2⟩
theorem zmP {f:FuncId} {fn:Func} {rv:Value} {Rd:World->Prop} {look:ByteArray->Option (List Int)} (hL:zr4 f fn rv Rd look) (t:T) (v:Value) (w:World) (hv:NV w Any t v) (hR:Rd w) :
  Calls Tryz.prog 108 #[v,.func (.func f) #[rv] #[]] w (NumE (indE look t) w):=by
 have HV:=zh hv;have HL:=zh hL;have oM:=zh hR;obtain⟨A,c,rfl,hf,hlk,hlc,hrow⟩:=hv.open_;obtain⟨⟨R1,R2⟩,hRR⟩:∃ R,indE look t=R:=⟨_,rfl⟩
 rw[hRR];obtain⟨b,hb⟩:∃ b,isP t=b:=⟨_,rfl⟩
 have vX:=zh (show ∀ (v:Value) (w:World),NV w Any t v->Calls Tryz.prog 101 #[v] w fun e w'=>e=.returned (.bool b)/\Below w.heap.size w w' from fun v w h=>hb▸zkD t v w h);have ag:=zh hrow;have HK:=zh (show ∀ k n s m,t.k=k->t.n=n->t.s=s->t.ks.length=m->b=true->(k=2/\R1=0/\R2=0)\/(k=3/\m=1/\∃ u,t.ks=[u]/\∀ (v:Value) (W:World),NV W Any u v->Rd W->Calls Tryz.prog 143 #[v,.func (.func f) #[rv] #[]] W (NumE (R1,R2) W)) from by
  rintro k n s m rfl rfl rfl rfl h;have hp:=hb.trans h;rw[indE,if_pos hp] at hRR;unfold isP at hp;simp only[Bool.and_eq_true,Bool.or_eq_true,beq_iff_eq] at hp;rcases hp.1 with h2|h3
  ·rw[if_pos h2] at hRR;injection hRR with r1 r2;exact .inl ⟨h2,r1.symm,r2.symm⟩
  ·rw[if_neg (by omega)] at hRR;obtain⟨k,n,s,ks⟩:=t;simp only[T.k_nd,T.ks_nd] at *
   subst h3;rcases zn5 hp.2 with h|h|⟨_,u,rfl,hu⟩|h|h
   ·omega
   ·omega
   ·refine .inr ⟨rfl,rfl,u,rfl,?_⟩;simp at hRR;rw[<-hRR];exact zof hL u hu
   ·omega
   ·omega)
 have cz:=zh (show b=false->R1=0/\R2=3 from fun h=>by
  rw[indE,hb,h] at hRR;simp at hRR;exact⟨hRR.1.symm,hRR.2.symm⟩)
 obtain⟨k,hk⟩:∃ k,t.k=k:=⟨_,rfl⟩
 obtain⟨n,hn⟩:∃ n,t.n=n:=⟨_,rfl⟩
 obtain⟨s,hs⟩:∃ s,t.s=s:=⟨_,rfl⟩
 obtain⟨m,hm⟩:∃ m,t.ks.length=m:=⟨_,rfl⟩
 have HKK:=zh (HK.out k n s m hk hn hs hm);rw[hk,hn,hs,hm] at HV ⊢;clear hv hR hL hRR hb hrow hf hlk hlc HK hk hn hs hm;have hen:=ztP;go_enter Tryz.func108,Tryz.ntmps108;go_wp2_with fail;refine(vX.out _ _ (HV.out.later (zkd (Below.refl _ _) _))).mono ?_;rintro e w1 ⟨rfl,aa⟩;have q1:=zka (zkd (Below.refl _ _) _) aa;obtain⟨a0,a1,a2,a3⟩:=box4 (zkc (heap_alloc_new w (.cells #[.int .u8 k,.int .i64 n,.string s,.slice A m c] 29)) aa);clear aa
 cases b
 ·obtain⟨rfl,rfl⟩:=cz.out rfl;clear HKK;go_wp2_with fail;go_ret2;exact⟨rfl,q1⟩
 ·rcases HKK.out rfl with⟨rfl,rfl,rfl⟩|⟨rfl,rfl,u,hu,dO⟩
  ·clear HKK cz;go_wp2_with fail;go_ret2;exact⟨rfl,q1⟩
  ·have hrow:=ag.out;rw[hu] at hrow;obtain⟨a,t0,A2,c2,rfl,_,Ht,⟨y0,y1,y2,y3⟩,hn0⟩:=(hrow.later q1).nd (i:=0) (by simp);simp only[Nat.zero_mul,Addr.add_zero'] at y0 y1 y2 y3;have ht0:t0=u:=Ht.out.symm;subst ht0;have gG:=zh hn0;have il:=zh dO;clear HKK cz dO hu hrow hn0 Ht;go_wp2_with fail;refine(il.out _ _ gG.out (HL.out.later _ _ oM.out q1)).mono ?_;rintro e w2 ⟨rfl,aj⟩;have q2:=zka q1 aj;clear aj;go_wp2_with fail;go_ret2;exact⟨rfl,q2⟩
theorem zlB {W:World} {n0 b k:Nat} {E:TypeId} {xs:List Value} (h:W.ownsRow n0 E k (boxV b) 1 xs):W.heap[b]?=some (.cells xs.toArray E (0,0)):=by
 rcases h.2 with⟨h1,_⟩|⟨g,cap,cur,hv,_,hg,hn,_,hz,hx⟩
 ·cases h1
 ·injection hv with e1 e2 e3;injection e1 with e1;injection e1 with e1;subst e1 e3;have:cur=xs.toArray:=by
   rw[List.take_of_length_le (by simp;omega)] at hx;rw[<-hx]
  rw[this] at hg;exact hg
theorem zkb {W:World} {n0 sz n:Nat} {E:TypeId} {v:Value} {xs:List Value} (h:W.ownsRow n0 E sz v n xs):∃ A c,v=.slice A n c/\n<=c/\c<=maxLen:=by
 rcases h.2 with⟨rfl,rfl⟩|⟨g,cap,cur,rfl,_,_,hn,hm,_⟩
 ·exact⟨none,0,rfl,Nat.le_refl _,Nat.zero_le _⟩
 ·exact⟨_,_,rfl,hn,hm⟩
theorem zkZ {W:World} {n0 sz n:Nat} {E:TypeId} {v:Value} {xs:List Value} (h:W.ownsRow n0 E sz v n xs) (hn:0<n):∃ g c,v=.slice (some ⟨g,0,none⟩) n c/\n<=c/\c<=maxLen/\∀ j,j<n*sz->W.cell? ⟨g,j,none⟩=xs[j]?:=by
 rcases h.2 with⟨rfl,rfl⟩|⟨g,cap,cur,rfl,_,_,hc,hm,_⟩
 ·omega
 ·exact⟨g,cap,rfl,hc,hm,fun j hj=>h.cellAt j hj⟩
theorem zuI {W:World} {n0:Nat} {E:TypeId} {v:Value} {vs:List VD} (h:W.ownsRow n0 E 3 v vs.length (zl0 vs)) (hf:∀ v∈vs,FldV v):∃ A c,v=.slice A vs.length c/\vs.length<=c/\RowV W Any A vs:=by
 rcases Nat.eq_zero_or_pos vs.length with h0|h0
 ·obtain⟨A,c,rfl,hc,_⟩:=zkb h;exact⟨A,c,rfl,hc,fun i hi=>by omega⟩
 ·obtain⟨g,c,rfl,hc,_,hcell⟩:=zkZ h h0;refine⟨_,c,rfl,hc,fun i hi=>⟨_,rfl,trivial,?_,hf _ (List.getElem_mem hi)⟩⟩;have ha:(⟨g,0,none⟩:Addr).add (i*3)=⟨g,i*3,none⟩:=by unfold Addr.add;split<;>simp_all
  obtain⟨h1,h2,h3⟩:=znB vs i hi;rw[ha];exact⟨(hcell (i*3) (by omega)).trans h1,(hcell (i*3+1) (by omega)).trans h2,(hcell (i*3+2) (by omega)).trans h3⟩
theorem zqq {W:World} {n0:Nat} {E:TypeId} {v:Value} {l:List Int} (h:W.ownsRow n0 E 1 v l.length (zkf l)) (hf:∀ x∈l,I64 x):∃ A c,v=.slice A l.length c/\l.length<=c/\RowI W Any A l:=by
 obtain⟨A,c,e,hc,hr⟩:=zk2 (xs:=l) h hf;exact⟨A,c,e,hc,hr.any⟩
def Ph.gF (P:Ph):Nat:=P.vF.ownBlock.getD 0
def curP (P:Ph) (S:ST):Addr:=if S.calls.length=0 then ⟨P.sb,0,none⟩ else ⟨P.gF,(S.calls.length-1)*3,none⟩
def curV (P:Ph) (S:ST):Value:=if S.calls.length=0 then P.vV else P.fV (S.calls.length-1)
def curC (P:Ph) (S:ST):Value:=if S.calls.length=0 then P.vC else P.fC (S.calls.length-1)
theorem zpw {S:ST} (h:S.calls.length=0):S.cur=S.base:=by
 have:S.calls=[]:=List.length_eq_zero_iff.1 h;simp[ST.cur,this]
theorem zpv {S:ST} (h:0<S.calls.length):S.cur=S.calls[S.calls.length-1]:=by
 unfold ST.cur;rw[List.getLast?_eq_getElem?,List.getElem?_eq_getElem (by omega)];rfl
section
variable {W W':World} {n0:Nat} {P:Ph} {S:ST}
theorem SR.later (h:SR W n0 P S) (hb:Below W.heap.size W W'):SR W' n0 P S:=⟨h.rws.later hb,h.wf⟩
theorem SR.box (h:SR W n0 P S):W.heap[P.sb]?=some (.cells #[P.vV,P.vC,.int .i64 S.base.loc,P.vF,.pointer (some ⟨P.tb,0,none⟩)] 95 (0,0)):=zlB (h.rws.row .sb)
theorem SR.tbox (h:SR W n0 P S):W.heap[P.tb]?=some (.cells #[P.vI,P.vO] 148 (0,0)):=zlB (h.rws.row .tb)
theorem SR.cbox (h:SR W n0 P S) {i:Nat} (hi:i<S.nc):W.heap[P.cb i]?=some (.cells #[P.ci i] 100 (0,0)):=by
 have:=h.rws.row (.cb i);simp only[rows,hi,if_true] at this;exact zlB this
theorem SR.items (h:SR W n0 P S) {i:Nat} (hi:i<S.nc):∃ A c,P.ci i=.slice A (S.cell i).length c/\(S.cell i).length<=c/\RowI W Any A (S.cell i):=by
 have:=h.rws.row (.ci i);simp only[rows,hi,if_true] at this;exact zqq this (h.wf.cells i hi).2
theorem SR.calls (h:SR W n0 P S):∃ A c,P.vF=.slice A S.calls.length c/\S.calls.length<=c/\(0<S.calls.length->A=some ⟨P.gF,0,none⟩/\∀ j,j<S.calls.length*3->W.cell? ⟨P.gF,j,none⟩=(zlE P 0 S.calls)[j]?):=by
 have hr:W.ownsRow n0 92 3 P.vF S.calls.length (zlE P 0 S.calls):=h.rws.row .calls;rcases Nat.eq_zero_or_pos S.calls.length with h0|h0
 ·obtain⟨A,c,e,hc,_⟩:=zkb hr;exact⟨A,c,e,hc,fun h=>by omega⟩
 ·obtain⟨g,c,e,hc,_,hcell⟩:=zkZ hr h0;have hg:P.gF=g:=by simp[Ph.gF,e,Value.ownBlock]
  exact⟨_,c,e,hc,fun _=>⟨by rw[hg],by rw[hg];exact hcell⟩⟩
theorem SR.curWF (h:SR W n0 P S):∃ kd,S.cur.WF kd S.nc:=by
 obtain⟨kd,h1,h2,_⟩:=h.wf.ex;refine⟨kd,?_⟩;rcases Nat.eq_zero_or_pos S.calls.length with h0|h0
 ·rw[zpw h0];exact h1
 ·rw[zpv h0];exact h2 _ (List.getElem_mem _)
theorem SR.cur3 (h:SR W n0 P S):W.cell? (curP P S)=some (curV P S)/\W.cell? ⟨(curP P S).block,(curP P S).off+1,none⟩=some (curC P S)/\W.cell? ⟨(curP P S).block,(curP P S).off+2,none⟩=some (.int .i64 S.cur.loc):=by
 rcases Nat.eq_zero_or_pos S.calls.length with h0|h0
 ·rw[zpw h0];simp only[curP,curV,curC,h0,if_true];exact⟨zc h.box rfl,zc h.box rfl,zc h.box rfl⟩
 ·rw[zpv h0];have hne:S.calls.length≠0:=by omega
  simp only[curP,curV,curC,hne,if_false];obtain⟨A,c,_,_,h2⟩:=h.calls;obtain⟨_,hcell⟩:=h2 h0;obtain⟨g1,g2,g3⟩:=znC P S.calls 0 (S.calls.length-1) (by omega);simp only[Nat.zero_add] at g1 g2;exact⟨(hcell _ (by omega)).trans g1,(hcell _ (by omega)).trans g2,(hcell _ (by omega)).trans g3⟩
theorem SR.curVs (h:SR W n0 P S):∃ A c,curV P S=.slice A S.cur.vs.length c/\S.cur.vs.length<=c/\RowV W Any A S.cur.vs:=by
 obtain⟨kd,hw⟩:=h.curWF;rcases Nat.eq_zero_or_pos S.calls.length with h0|h0
 ·rw[zpw h0] at hw ⊢;simp only[curV,h0,if_true];exact zuI (h.rws.row .bv) hw.fld
 ·rw[zpv h0] at hw ⊢;have hne:S.calls.length≠0:=by omega
  simp only[curV,hne,if_false];have:=h.rws.row (.fv (S.calls.length-1));simp only[rows,List.getElem?_eq_getElem (show S.calls.length-1<S.calls.length by omega)] at this;exact zuI this hw.fld
theorem SR.curCs (h:SR W n0 P S):W.ownsRow n0 97 1 (curC P S) S.cur.cs.length (ptrs P.cb S.cur.cs):=by
 rcases Nat.eq_zero_or_pos S.calls.length with h0|h0
 ·rw[zpw h0];simp only[curC,h0,if_true];exact h.rws.row .bc
 ·rw[zpv h0];have hne:S.calls.length≠0:=by omega
  simp only[curC,hne,if_false];have:=h.rws.row (.fc (S.calls.length-1));simp only[rows,List.getElem?_eq_getElem (show S.calls.length-1<S.calls.length by omega)] at this;exact this
end
def idxZ:Option Nat->Int
 | none => -1
 | some i=>i
theorem zmA {W:World} {n0:Nat} {P:Ph} {S:ST} (h:SR W n0 P S):Calls Tryz.prog 58 #[.pointer (some ⟨P.sb,0,none⟩)] W fun e w'=>e=.returned (.pointer (some (curP P S)))/\w'=W:=by
 obtain⟨A,c,hvF,hc,h2⟩:=h.calls;have hx:W.cell? ⟨P.sb,3,none⟩=some (.slice A S.calls.length c):=by rw[<-hvF];exact zc h.box rfl
 have hcal:=h.wf.ncalls;obtain⟨cp,hcp⟩:∃ cp,curP P S=cp:=⟨_,rfl⟩
 rw[hcp];have uy:=zh hcp;have H2:=zh h2;obtain⟨L,hL⟩:∃ L,S.calls.length=L:=⟨_,rfl⟩
 rw[hL] at hx hcal;have HL:=zh hL;clear h hvF hc h2 hcp hL;rcases Nat.eq_zero_or_pos L with h0|h0
 ·subst h0;have HX:=zh (show cp=⟨P.sb,0,none⟩ by rw[<-uy.out,curP,if_pos HL.out]);clear HL uy H2;go_enter Tryz.func58,Tryz.ntmps58;go_wp2_with fail;go_ret;exact⟨by rw[HX.out];rfl,rfl⟩
 ·obtain⟨rfl,-⟩:=H2.out (by rw[HL.out];exact h0);obtain⟨m,hm⟩:∃ m,L=m+1:=⟨L-1,by omega⟩
  subst hm;have HX:=zh (show cp=⟨P.gF,m*3,none⟩ by rw[<-uy.out,curP,if_neg (by have:=HL.out;omega),HL.out];rfl);clear HL uy H2 h0;go_enter Tryz.func58,Tryz.ntmps58;go_wp2_with fail;go_ret;exact⟨by rw[HX.out];simp,rfl⟩
theorem zp4 (vs:List VD) (A:Option Addr) (c:Nat) (s:ByteArray) (fp:Addr) (w:World) (hc:w.cell? fp=some (.slice A vs.length c)) (hrow:RowV w Any A vs) (hl:vs.length<=4398046511000) :
  Calls Tryz.prog 144 #[.pointer (some fp),.string s] w fun e w'=>e=.returned (.int .i64 (idxZ (zmq vs s vs.length)))/\Below w.heap.size w w':=by
 obtain⟨R,hR⟩:∃ R,zmq vs s vs.length=R:=⟨_,rfl⟩
 rw[hR];have HR:=zh hR;have ag:=zh hrow;have HC:=zh hc;clear hR hrow;go_enter Tryz.func144,Tryz.ntmps144;go_wp2_with fail
 go_loopw [5] (fun i wr=>∃ j:Nat,j<=vs.length/\i=.int .i64 ((j:Int)-1)/\wr=w/\Hid (zmq vs s j=R)) (fun i _=>(intOf i+1).toNat)
 case atStart=>exact⟨vs.length,Nat.le_refl _,by go_num,rfl,HR⟩
 case round =>
  obtain⟨j,hj,rfl,rfl,HJ⟩:=hrel;by_cases h0:j=0
  ·subst h0;have HX:=zh (show R=none by rw[<-HJ.out];rfl);go_wp2_with fail;go_ret;exact⟨by rw[HX.out];rfl,Below.refl _ _⟩
  ·obtain⟨m,rfl⟩:∃ m,j=m+1:=⟨j-1,by omega⟩
   have hm:m<vs.length:=by omega
   obtain⟨a,rfl,-,⟨y0,y1,y2⟩,-⟩:=ag.out m hm;have hjm:((m+1:Nat):Int)-1=(m:Int):=by omega
   rw[hjm];obtain⟨vm,uJ⟩:∃ v,vs[m]=v:=⟨_,rfl⟩
   rw[uJ] at y0 y1 y2;have HL:=zh (show(if vm.s.toList==s.toList then some m else zmq vs s m)=R by rw[<-HJ.out,zn4 hm,uJ]);obtain⟨b,hb⟩:∃ b,(vm.s.toList==s.toList)=b:=⟨_,rfl⟩
   rw[hb] at HL;clear HJ uJ hjm
   cases b
   ·go_wp2_with fail
    go_roundw
    case rel=>exact⟨m,by omega,by go_num,trivial,zh (by have:=HL.out;simpa using this)⟩
    case measure=>simp[intOf]
   ·have HX:=zh (show R=some m by rw[<-HL.out];rfl);go_wp2_with fail;go_ret;exact⟨by rw[HX.out];rfl,Below.refl _ _⟩
theorem zqx {W:World} {n0:Nat} {P:Ph} {S:ST} (h:SR W n0 P S) (s:ByteArray):Calls Tryz.prog 109 #[.pointer (some ⟨P.sb,0,none⟩),.string s] W fun e W'=>Below W.heap.size W W' /\
  ((S.look s=none/\∃ A c,e=.returned (.tuple #[.slice A 0 c,.bool false]))\/∃ l A c,S.look s=some l/\e=.returned (.tuple #[.slice A l.length c,.bool true])/\RowI W' Any A l):=by
 have HS:=zh h;obtain⟨kd,hw⟩:=h.curWF;obtain⟨A,c,hcv,hc,hrow⟩:=h.curVs;obtain⟨h1,h2,h3⟩:=h.cur3;rw[hcv] at h1;have dQ:=zh (zmA h);have bW:=zh (fun W' (hb:Below W.heap.size W W')=>zp4 S.cur.vs A c s (curP P S) W' (zb hb h1) (hrow.later hb) hw.lim);have HCS:=zh h.curCs;have ik:=zh hw;obtain⟨cp,hcp⟩:∃ cp,curP P S=cp:=⟨_,rfl⟩
 rw[hcp] at h1 h2 h3 dQ bW;obtain⟨r,hr⟩:∃ r,S.cur.at s=r:=⟨_,rfl⟩
 have hr':zmq S.cur.vs s S.cur.vs.length=r:=hr;rw[hr'] at bW;have HRR:=zh hr;have H2:=zh h2;clear h hw hcv hrow h1 h2 h3 hcp hr hr';go_enter Tryz.func109,Tryz.ntmps109;go_wp2_with fail;refine dQ.out.mono ?_;rintro e w1 ⟨rfl,rfl⟩;go_wp2_with fail;refine(bW.out _ (Below.refl _ _)).mono ?_;rintro e w2 ⟨rfl,aj⟩;have hy:=zb aj H2.out;have HS2:=zh (HS.out.later aj);have HB2:=zh aj;clear aj;rcases r with _|i
 ·have HX:=zh (show S.look s=none by unfold ST.look ST.num;rw[HRR.out];rfl);simp only[idxZ];go_wp2_with fail;go_ret2;exact⟨HB2.out,.inl ⟨HX.out,none,0,rfl⟩⟩
 ·have hil:i<S.cur.vs.length:=FR.at_lt HRR.out;have hic:i<S.cur.cs.length:=by rw[ik.out.len];exact hil
  obtain⟨id,hid⟩:∃ id,S.cur.cs[i]=id:=⟨_,rfl⟩
  have ay:id<S.nc:=by rw[<-hid];exact ik.out.num _ (List.getElem_mem hic)
  have HX:=zh (show S.look s=some (S.cell id) by unfold ST.look ST.num;rw[HRR.out];simp[hic,hid]);obtain⟨g,c2,hcc,hc2,hm2,hcell⟩:=zkZ HS2.out.curCs (by omega);rw[hcc] at hy;have hz:w2.cell? ⟨g,i,none⟩=some (.pointer (some ⟨P.cb id,0,none⟩)):=by rw[hcell i (by omega)];simp[ptrs,hic,hid]
  obtain⟨A3,c3,hci,hc3,aL⟩:=HS2.out.items ay;have hz2:w2.cell? ⟨P.cb id,0,none⟩=some (.slice A3 (S.cell id).length c3):=by rw[<-hci];exact zc (HS2.out.cbox ay) rfl
  have eH:=zh aL;have hi1:(i:Int)<(S.cur.cs.length:Int):=by omega
  have hi2:¬ (i:Int)<0:=by omega
  simp only[idxZ];clear hcell hcc aL hci hid hil;go_wp2_with fail;go_ret2;exact⟨HB2.out,.inr ⟨_,HX.out,A3,⟨c3,rfl⟩,eH.out⟩⟩
theorem zsX:IsFn Tryz.prog 109 Tryz.f109:=⟨Tryz.func109,by kernel_rfl,by kernel_rfl⟩
theorem ST.look_num {S:ST} {s:ByteArray} {l:List Int} (h:S.look s=some l):∃ i id,S.cur.at s=some i/\S.cur.cs[i]?=some id/\l=S.cell id:=by
 unfold ST.look ST.num at h;simp only[Option.map_eq_some_iff,Option.bind_eq_some_iff] at h;obtain⟨id,⟨i,h1,h2⟩,rfl⟩:=h;exact⟨i,id,h1,h2,rfl⟩
theorem ST.WF.cur {S:ST} (h:S.WF):∃ kd,S.cur.WF kd S.nc:=by
 obtain⟨kd,h1,h2,_⟩:=h.ex;refine⟨kd,?_⟩;rcases Nat.eq_zero_or_pos S.calls.length with h0|h0
 ·rw[zpw h0];exact h1
 ·rw[zpv h0];exact h2 _ (List.getElem_mem _)
theorem zt7 (n0:Nat) (P:Ph) (S:ST) (hw:S.WF):zr4 109 Tryz.f109 (.pointer (some ⟨P.sb,0,none⟩)) (fun W=>SR W n0 P S) S.look where
 isFn:=zsX
 later:=fun _ _ h hb=>h.later hb
 fits:=fun s l hl=>by
  obtain⟨i,id,h1,h2,rfl⟩:=ST.look_num hl;obtain⟨kd,hc⟩:=hw.cur;have:=(hw.cells id (hc.num id (List.mem_of_getElem? h2))).1;omega
 call:=fun s W h=>zqx h s
theorem zl2 {W:World} {n0:Nat} {P:Ph} {S:ST} (h:SR W n0 P S) (s:ByteArray) (id:Nat) (hid:S.num s=some id):Calls Tryz.prog 111 #[.pointer (some ⟨P.sb,0,none⟩),.string s] W fun e W'=>e=.returned (.pointer (some ⟨P.cb id,0,none⟩))/\Below W.heap.size W W':=by
 have HS:=zh h;obtain⟨kd,hw⟩:=h.curWF;obtain⟨A,c,hcv,hc,hrow⟩:=h.curVs;obtain⟨h1,h2,h3⟩:=h.cur3;rw[hcv] at h1;unfold ST.num at hid;rw[Option.bind_eq_some_iff] at hid;obtain⟨i,hr,hci⟩:=hid;have hr':zmq S.cur.vs s S.cur.vs.length=some i:=hr;have dQ:=zh (zmA h);have hfi:=fun W' (hb:Below W.heap.size W W')=>zp4 S.cur.vs A c s (curP P S) W' (zb hb h1) (hrow.later hb) hw.lim;rw[hr'] at hfi;simp only[idxZ] at hfi;have bW:=zh hfi;have hic:i<S.cur.cs.length:=(List.getElem?_eq_some_iff.1 hci).1;have hidd:S.cur.cs[i]=id:=(List.getElem?_eq_some_iff.1 hci).2;obtain⟨cp,hcp⟩:∃ cp,curP P S=cp:=⟨_,rfl⟩
 rw[hcp] at h1 h2 h3 dQ bW;have H2:=zh h2;clear hw hcv hrow h1 h2 h3 hcp hr hr' hfi h hci;go_enter Tryz.func111,Tryz.ntmps111;go_wp2_with fail;refine dQ.out.mono ?_;rintro e w1 ⟨rfl,rfl⟩;have hy0:=H2.out;obtain⟨g,c2,hcc,hc2,hm2,hcell⟩:=zkZ HS.out.curCs (by omega);rw[hcc] at hy0;have hz:w1.cell? ⟨g,i,none⟩=some (.pointer (some ⟨P.cb id,0,none⟩)):=by rw[hcell i (by omega)];simp[ptrs,hic,hidd]
 have aB:=zh (show ∀ w',Below w1.heap.size w1 w'->w'.cell? ⟨cp.block,cp.off+1,none⟩=some (.slice (some ⟨g,0,none⟩) S.cur.cs.length c2)/\w'.cell? ⟨g,i,none⟩=some (.pointer (some ⟨P.cb id,0,none⟩)) from fun w' hb=>⟨zb hb hy0,zb hb hz⟩);have bP:=zh (aB.out _ (Below.refl _ _).drew);obtain⟨L,hL⟩:∃ L,S.cur.cs.length=L:=⟨_,rfl⟩
 have hi1:(i:Int)<(L:Int):=by omega
 have hi0:(0:Int)<=(i:Int):=by omega
 have hi2:i<L:=by omega
 rw[hL] at aB bP;clear hcell hcc hy0 hz hL;go_upto_region 2 with fail
 go_region_held3 (fun w':World=>w'.cell? ⟨cp.block,cp.off+1,none⟩=some (.slice (some ⟨g,0,none⟩) L c2)/\w'.cell? ⟨g,i,none⟩=some (.pointer (some ⟨P.cb id,0,none⟩)))
  (first|with_reducible exact aN.out|with_reducible exact bP.out)
  (first
   | (go_at_call 144;refine(bW.out _ (Below.refl _ _).drew).mono ?_;rintro e y1 ⟨rfl,jR⟩;have b1:=zka (Below.refl w1.heap.size w1).drew jR;have aN:=zh (aB.out _ b1))
   | fail)
 have HB1:=zh b1;clear b1 jR aN;go_wp2_with fail;go_ret;exact⟨rfl,HB1.out⟩
end Go.Proofs.YtckhofdinldhpaaGreat
namespace Go.Proofs.YtckhofdinldhpaaGreat
open Go Go.RowKit
def zos (k:Int):Int:=if k=2 then 1 else if k=3 then 2 else if k=4\/k=5\/k=44\/k=45 then 3 else 0
def basB (k:Int):Bool:=decide (40<=k/\k<=49)
def zqz (k:Int):Int:=if k=40 then 41 else if k=41 then 40 else if k=44 then 45 else if k=45 then 44 else if k=46 then 47 else if k=47 then 46 else if k=48 then 49 else if k=49 then 48 else k
theorem zrq (k:Int) (w:World):Calls Tryz.prog 106 #[.int .u8 k] w fun e w'=>e=.returned (.int .u8 (zos k))/\w'=w:=by
 by_cases e2:k=2
 ·subst e2;go_enter Tryz.func106,Tryz.ntmps106;go_wp2_with fail;go_ret;exact⟨rfl,rfl⟩
 by_cases e3:k=3
 ·subst e3;go_enter Tryz.func106,Tryz.ntmps106;go_wp2_with fail;go_ret;exact⟨rfl,rfl⟩
 by_cases e4:k=4
 ·subst e4;go_enter Tryz.func106,Tryz.ntmps106;go_wp2_with fail;go_ret;exact⟨rfl,rfl⟩
 by_cases e5:k=5
 ·subst e5;go_enter Tryz.func106,Tryz.ntmps106;go_wp2_with fail;go_ret;exact⟨rfl,rfl⟩
 by_cases e44:k=44
 ·subst e44;go_enter Tryz.func106,Tryz.ntmps106;go_wp2_with fail;go_ret;exact⟨rfl,rfl⟩
 by_cases e45:k=45
 ·subst e45;go_enter Tryz.func106,Tryz.ntmps106;go_wp2_with fail;go_ret;exact⟨rfl,rfl⟩
 have x2:(k==2)=false:=by simpa using e2
 have x3:(k==3)=false:=by simpa using e3
 have x4:(k==4)=false:=by simpa using e4
 have x5:(k==5)=false:=by simpa using e5
 have x44:(k==44)=false:=by simpa using e44
 have x45:(k==45)=false:=by simpa using e45
 obtain⟨R,hR⟩:∃ R,zos k=R:=⟨_,rfl⟩
 rw[hR];have HR:=zh (show R=0 by rw[<-hR,zos];rw[if_neg e2,if_neg e3,if_neg (by omega)]);clear hR e2 e3 e4 e5 e44 e45;go_enter Tryz.func106,Tryz.ntmps106;go_wp2_with fail;go_ret;exact⟨by rw[HR.out];rfl,rfl⟩
theorem zrV (k:Int) (w:World):Calls Tryz.prog 57 #[.int .u8 k] w fun e w'=>e=.returned (.bool (basB k))/\w'=w:=by
 by_cases e40:k=40
 ·subst e40;go_enter Tryz.func57,Tryz.ntmps57;go_wp2_with fail;go_ret;exact⟨rfl,rfl⟩
 by_cases e41:k=41
 ·subst e41;go_enter Tryz.func57,Tryz.ntmps57;go_wp2_with fail;go_ret;exact⟨rfl,rfl⟩
 by_cases e42:k=42
 ·subst e42;go_enter Tryz.func57,Tryz.ntmps57;go_wp2_with fail;go_ret;exact⟨rfl,rfl⟩
 by_cases e43:k=43
 ·subst e43;go_enter Tryz.func57,Tryz.ntmps57;go_wp2_with fail;go_ret;exact⟨rfl,rfl⟩
 by_cases e44:k=44
 ·subst e44;go_enter Tryz.func57,Tryz.ntmps57;go_wp2_with fail;go_ret;exact⟨rfl,rfl⟩
 by_cases e45:k=45
 ·subst e45;go_enter Tryz.func57,Tryz.ntmps57;go_wp2_with fail;go_ret;exact⟨rfl,rfl⟩
 by_cases e46:k=46
 ·subst e46;go_enter Tryz.func57,Tryz.ntmps57;go_wp2_with fail;go_ret;exact⟨rfl,rfl⟩
 by_cases e47:k=47
 ·subst e47;go_enter Tryz.func57,Tryz.ntmps57;go_wp2_with fail;go_ret;exact⟨rfl,rfl⟩
 by_cases e48:k=48
 ·subst e48;go_enter Tryz.func57,Tryz.ntmps57;go_wp2_with fail;go_ret;exact⟨rfl,rfl⟩
 by_cases e49:k=49
 ·subst e49;go_enter Tryz.func57,Tryz.ntmps57;go_wp2_with fail;go_ret;exact⟨rfl,rfl⟩
 have x40:(k==40)=false:=by simpa using e40
 have x41:(k==41)=false:=by simpa using e41
 have x42:(k==42)=false:=by simpa using e42
 have x43:(k==43)=false:=by simpa using e43
 have x44:(k==44)=false:=by simpa using e44
 have x45:(k==45)=false:=by simpa using e45
 have x46:(k==46)=false:=by simpa using e46
 have x47:(k==47)=false:=by simpa using e47
 have x48:(k==48)=false:=by simpa using e48
 have x49:(k==49)=false:=by simpa using e49
 obtain⟨R,hR⟩:∃ R,basB k=R:=⟨_,rfl⟩
 rw[hR];have HR:=zh (show R=false by rw[<-hR,basB];simp;omega);clear hR e40 e41 e42 e43 e44 e45 e46 e47 e48 e49;go_enter Tryz.func57,Tryz.ntmps57;go_wp2_with fail;go_ret;exact⟨by rw[HR.out];rfl,rfl⟩
theorem zpq (k:Int) (w:World):Calls Tryz.prog 55 #[.int .u8 k] w fun e w'=>e=.returned (.int .u8 (zqz k))/\w'=w:=by
 by_cases e40:k=40
 ·subst e40;go_enter Tryz.func55,Tryz.ntmps55;go_wp2_with fail;go_ret;exact⟨rfl,rfl⟩
 by_cases e41:k=41
 ·subst e41;go_enter Tryz.func55,Tryz.ntmps55;go_wp2_with fail;go_ret;exact⟨rfl,rfl⟩
 by_cases e44:k=44
 ·subst e44;go_enter Tryz.func55,Tryz.ntmps55;go_wp2_with fail;go_ret;exact⟨rfl,rfl⟩
 by_cases e45:k=45
 ·subst e45;go_enter Tryz.func55,Tryz.ntmps55;go_wp2_with fail;go_ret;exact⟨rfl,rfl⟩
 by_cases e46:k=46
 ·subst e46;go_enter Tryz.func55,Tryz.ntmps55;go_wp2_with fail;go_ret;exact⟨rfl,rfl⟩
 by_cases e47:k=47
 ·subst e47;go_enter Tryz.func55,Tryz.ntmps55;go_wp2_with fail;go_ret;exact⟨rfl,rfl⟩
 by_cases e48:k=48
 ·subst e48;go_enter Tryz.func55,Tryz.ntmps55;go_wp2_with fail;go_ret;exact⟨rfl,rfl⟩
 by_cases e49:k=49
 ·subst e49;go_enter Tryz.func55,Tryz.ntmps55;go_wp2_with fail;go_ret;exact⟨rfl,rfl⟩
 have x40:(k==40)=false:=by simpa using e40
 have x41:(k==41)=false:=by simpa using e41
 have x44:(k==44)=false:=by simpa using e44
 have x45:(k==45)=false:=by simpa using e45
 have x46:(k==46)=false:=by simpa using e46
 have x47:(k==47)=false:=by simpa using e47
 have x48:(k==48)=false:=by simpa using e48
 have x49:(k==49)=false:=by simpa using e49
 obtain⟨R,hR⟩:∃ R,zqz k=R:=⟨_,rfl⟩
 rw[hR];have HR:=zh (show R=k by rw[<-hR,zqz];rw[if_neg e40,if_neg e41,if_neg e44,if_neg e45,if_neg e46,if_neg e47,if_neg e48,if_neg e49]);clear hR e40 e41 e44 e45 e46 e47 e48 e49;go_enter Tryz.func55,Tryz.ntmps55;go_wp2_with fail;go_ret;exact⟨by rw[HR.out];rfl,rfl⟩
def OwnB {I:Type} (d:I->RowD) (b:Nat):Prop:=∃ i,(d i).v.ownBlock=some b
structure Stp {I:Type} (n0:Nat) (d:I->RowD) (W:World) (d':I->RowD) (W':World):Prop where
 rws:Rws W' n0 d'
 chg:Chg (OwnB d) W W'
 own:∀ b,OwnB d' b->OwnB d b\/W.heap.size<=b
section
variable {I:Type} {n0:Nat} {d d' d'':I->RowD} {W W' W'':World}
theorem Stp.refl (h:Rws W n0 d):Stp n0 d W d W:=⟨h,Chg.refl _ _,fun _ h=>.inl h⟩
theorem Stp.trans (h:Stp n0 d W d' W') (h':Stp n0 d' W' d'' W''):Stp n0 d W d'' W'' :=
 ⟨h'.rws,h.chg.trans2 h'.chg fun b hb hc=>(h.own b hc).elim id fun h=>by omega,fun b hb=>(h'.own b hb).elim (h.own b) fun h2=>.inr (Nat.le_trans h.chg.size h2)⟩
theorem Stp.cast (h:Stp n0 d W d' W') (e:d'=d''):Stp n0 d W d'' W':=e▸h
theorem Stp.below (h:Stp n0 d W d' W') (hb:Below W'.heap.size W' W''):Stp n0 d W d' W'' :=
 ⟨h.rws.later hb,h.chg.trans (Chg.of_below hb),h.own⟩
theorem Stp.after (h:Stp n0 d W' d' W'') (hb:Below W.heap.size W W') (hd:Rws W n0 d):Stp n0 d W d' W'' :=
 (Stp.below (Stp.refl hd) hb).trans h
variable [DecidableEq I]
theorem Stp.upd {i:I} {r:RowD} (h:Rws W n0 d) (hc:Chg (fun b=>(d i).v.ownBlock=some b) W W') (ho:W'.ownsRow n0 r.E r.sz r.v r.n r.xs) (ak:∀ b,r.v.ownBlock=some b->(d i).v.ownBlock=some b\/W.heap.size<=b):Stp n0 d W (updR d i r) W' :=
 ⟨h.upd i hc ho ak,hc.mono fun b _ hb=>⟨i,hb⟩,fun b ⟨j,hj⟩=>by
  by_cases e:j=i
  ·subst e;rw[zkE] at hj;exact(ak b hj).imp (fun h=>⟨j,h⟩) id
  ·rw[zki e] at hj;exact .inl ⟨j,hj⟩⟩
theorem Stp.set {i:I} (h:Rws W n0 d) {g:Nat} (hg:(d i).v.ownBlock=some g) {o:Nat} (ho:o<(d i).xs.length) (u:Value):Stp n0 d W (updR d i { d i with xs:=(d i).xs.set o u }) (W.setCell ⟨g,o,none⟩ u) :=
 ⟨h.set i hg ho u,((Chg.refl _ _).setCell (.inl hg) u).mono fun b _ hb=>⟨i,hb⟩,fun b ⟨j,hj⟩=>by
  by_cases e:j=i
  ·subst e;rw[zkE] at hj;exact .inl ⟨j,hj⟩
  ·rw[zki e] at hj;exact .inl ⟨j,hj⟩⟩
end
theorem ztC:(Tryz.prog.info? 83).map (fun i=>(i.zero,i.size,i.bytes))=some (some (.agg #[.string ⟨#[]⟩,.int .u8 0,.int .i64 0]),3,32):=by kernel_rfl
theorem zuL:(Tryz.prog.info? 97).map (fun i=>(i.zero,i.size,i.bytes))=some (some (.pointer none),1,8):=by kernel_rfl
theorem zrS (a0 a1 a2:Value) (w:World):(Instr.buildSlice 22 1 #[(0,.agg #[a0,a1,a2])]).run Tryz.prog w=.ok (.slice (some ⟨w.heap.size,0,none⟩) 1 1) (w.alloc (.cells #[a0,a1,a2] 83)):=by kernel_rfl
theorem zth (p:Option Addr) (w:World):(Instr.buildSlice 90 1 #[(0,.pointer p)]).run Tryz.prog w=.ok (.slice (some ⟨w.heap.size,0,none⟩) 1 1) (w.alloc (.cells #[.pointer p] 97)):=by kernel_rfl
theorem zuD {I:Type} [DecidableEq I] {n0:Nat} {d:I->RowD} {W:World} (h:Rws W n0 d) (i0 iv ic:I) (h01:i0≠iv) (h02:i0≠ic) (h12:iv≠ic) (b o:Nat) (hb:(d i0).v.ownBlock=some b)
  (hov:(d i0).xs[o]?=some (d iv).v) (hoc:(d i0).xs[o+1]?=some (d ic).v) (xs ys:List Value) (m:Nat) (hiv:d iv=⟨(d iv).v,83,3,m,xs⟩) (hic:d ic=⟨(d ic).v,97,1,m,ys⟩) (hm:m<=4398046511000)
  (v:VD) (q:Option Addr) :
  Calls Tryz.prog 48 #[.pointer (some ⟨b,o,none⟩),.agg #[.string v.s,.int .u8 v.k,.int .i64 v.n],.pointer q] W fun e W'=>(∃ u,e=.returned u)/\∃ vv vc,
   Stp n0 d W (updR (updR (updR d iv ⟨vv,83,3,m+1,xs++[.string v.s,.int .u8 v.k,.int .i64 v.n]⟩) ic ⟨vc,97,1,m+1,ys++[.pointer q]⟩) i0 { d i0 with xs:=((d i0).xs.set o vv).set (o+1) vc }) W':=by
 obtain⟨i1,hi1,hz0,hz1,hz2⟩:=info_parts ztC;obtain⟨i2,hi2,hy0,hy1,hy2⟩:=info_parts zuL;have dW:=h.row iv;rw[hiv] at dW;have hrc:=h.row ic;rw[hic] at hrc;obtain⟨A1,c1,e1,-⟩:=zkb dW;obtain⟨A2,c2,e2,-⟩:=zkb hrc;dsimp only at e1 e2 dW hrc;have x0:W.cell? ⟨b,o,none⟩=some (.slice A1 m c1):=by rw[<-e1];exact h.cell i0 hb hov
 have x1:W.cell? ⟨b,o+1,none⟩=some (.slice A2 m c2):=by rw[<-e2];exact h.cell i0 hb hoc
 have hbf:=h.frozen i0 hb;have HR:=zh h;have hb1:=zrS;have hb2:=zth;clear h;go_enter Tryz.func48,Tryz.ntmps48;go_upto_region 1 with fail;have hvb:=heap_alloc_new W (.cells #[.string v.s,.int .u8 v.k,.int .i64 v.n] 83);obtain⟨W1,hW1⟩:∃ W1,W.alloc (.cells #[.string v.s,.int .u8 v.k,.int .i64 v.n] 83)=W1:=⟨_,rfl⟩
 have q1:Below W.heap.size W W1:=hW1▸zkd (Below.refl _ _) _;have hzW:W1.heap.size=W.heap.size+1:=by rw[<-hW1];simp
 rw[hW1] at hvb ⊢;have HR1:=zh (HR.out.later q1);have fF:=zh q1;have g0:W1.cell? ⟨b,o,none⟩=some (.slice A1 m c1):=zb q1 x0;have g1:W1.cell? ⟨b,o+1,none⟩=some (.slice A2 m c2):=zb q1 x1;have v0:W1.cell? ⟨W.heap.size,0,none⟩=some (.string v.s):=zc hvb rfl;have v1:W1.cell? ⟨W.heap.size,1,none⟩=some (.int .u8 v.k):=zc hvb rfl;have v2:W1.cell? ⟨W.heap.size,2,none⟩=some (.int .i64 v.n):=zc hvb rfl;clear hW1 q1 x0 x1 hbf;have hSS:(fun w':World=>w'.cell? ⟨W.heap.size,0,none⟩=some (.string v.s)/\w'.cell? ⟨W.heap.size,1,none⟩=some (.int .u8 v.k)/\w'.cell? ⟨W.heap.size,2,none⟩=some (.int .i64 v.n)) W1.drew/\(fun w':World=>w'.cell? ⟨b,o,none⟩=some (.slice A1 m c1)) W1.drew:=⟨⟨v0,v1,v2⟩,g0⟩
 refine wp_region_noPanic ?_;refine zke (fun w':World=>w'.cell? ⟨W.heap.size,0,none⟩=some (.string v.s)/\w'.cell? ⟨W.heap.size,1,none⟩=some (.int .u8 v.k)/\w'.cell? ⟨W.heap.size,2,none⟩=some (.int .i64 v.n)) (fun w':World=>w'.cell? ⟨b,o,none⟩=some (.slice A1 m c1)) 7 (by kernel_rfl) ?_;refine zT 0 hSS ?_;(try simp only[zQ]);refine zT 1 hSS ?_;(try simp only[zQ]);refine zT 2 hSS ?_;(try simp only[zQ]);refine zT 3 hSS ?_;(try simp only[zQ]);refine zkO (i:=4) (v:=?_) rfl (by kernel_rfl) (by kernel_rfl) (by kernel_rfl) (by decide) rfl (by kernel_rfl) (by kernel_rfl) (fun _ _ _ h=>h) (Or.inl ⟨by rfl,?_⟩) hSS ?_;rotate_left 1
 ·(intro w hSw;(try dsimp only at hSw);(try simp only[zA,zB,zC]);go_simp;(try with_reducible rfl))
 (try simp only[zQ]);refine zT 5 hSS ?_;(try simp only[zQ]);refine zo 6 fun K hK=>?_;(try simp only[zA,zB,zC]);go_simp;refine hK.out _ _ ⟨⟨zkj v0 _,zkj v1 _,zkj v2 _⟩,zkj g0 _⟩ ?_;clear hK K hSS;(try simp only[zQ]);obtain⟨W2,hW2⟩:∃ W2,(W1.alloc (.cells #[.string v.s,.int .u8 v.k,.int .i64 v.n] 83)).drew=W2:=⟨_,rfl⟩
 have q2:Below W1.heap.size W1 W2:=hW2▸(zkd (Below.refl _ _) _).drew;have hzW2:W2.heap.size=W1.heap.size+1:=by rw[<-hW2];simp
 have aK:=zh (show ∀ j u,[Value.string v.s,.int .u8 v.k,.int .i64 v.n][j]?=some u->W2.cell? ((⟨W.heap.size+1,0,none⟩:Addr).add j)=some u from hzW▸hW2▸zlw W1 83 [.string v.s,.int .u8 v.k,.int .i64 v.n]);have HR2:=HR1.out.later q2;have hrv2:W2.ownsRow n0 83 3 (.slice A1 m c1) m xs:=by have:=HR2.row iv;rw[hiv] at this;rw[<-e1];exact this
 have w0:W2.cell? ⟨W.heap.size,0,none⟩=some (.string v.s):=zb q2 v0;have w1:W2.cell? ⟨W.heap.size,1,none⟩=some (.int .u8 v.k):=zb q2 v1;have w2:W2.cell? ⟨W.heap.size,2,none⟩=some (.int .i64 v.n):=zb q2 v2;have hn0:=(HR.out.lt i0 b hb)
 rw[hW2];clear hW2 v0 v1 v2 g0 g1 hvb;refine zp 7 fun K hK=>?_;refine zky (by rfl) (.tmp 10) (.tmp 12) 22 (by rfl) n0 83 i1 _ 3 32 Tryz.underlying22 hi1 hz0 hz1 hz2 rfl (by decide) (.slice A1 m c1) m xs (by rfl) hrv2 ⟨W.heap.size+1,0,none⟩ 1 1 [.string v.s,.int .u8 v.k,.int .i64 v.n] (by rfl) rfl aK.out (by intro u hu;simp at hu;rcases hu with rfl|rfl|rfl<;>rfl) (by unfold maxLen;omega) (by omega) (by omega) ?_;intro vv w3 h2 h3 h5;obtain⟨g8,aI,rfl⟩:=ownsRow_succ h2;have st1:Stp n0 d W2 (updR d iv ⟨.slice (some ⟨g8,0,none⟩) (m+1) aI,83,3,m+1,xs++[.string v.s,.int .u8 v.k,.int .i64 v.n]⟩) w3:=by
  refine Stp.upd (i:=iv) HR2 ((Chg.row h3).mono fun b' _ hb'=>by rw[e1];exact hb') h2 (fun b' hb'=>?_);rw[e1];rcases h5 with h5|h5
  ·exact .inl (h5▸hb')
  ·exact .inr (by rw[h5] at hb';injection hb' with hb';omega)
 have hd0:updR d iv ⟨.slice (some ⟨g8,0,none⟩) (m+1) aI,83,3,m+1,xs++[.string v.s,.int .u8 v.k,.int .i64 v.n]⟩ i0=d i0:=zki h01;have z0:w3.cell? ⟨b,o,none⟩=some (.slice A1 m c1):=by rw[<-e1];exact st1.rws.cell i0 (by rw[hd0];exact hb) (by rw[hd0];exact hov)
 have zf:w3.frozen? ⟨b,o,none⟩=false:=st1.rws.frozen i0 (by rw[hd0];exact hb) o;have hol:o<(d i0).xs.length:=(List.getElem?_eq_some_iff.1 hov).1;have hol1:o+1<(d i0).xs.length:=(List.getElem?_eq_some_iff.1 hoc).1;have st2:=Stp.set (i:=i0) st1.rws (g:=b) (by rw[hd0];exact hb) (o:=o) (by rw[hd0];exact hol) (.slice (some ⟨g8,0,none⟩) (m+1) aI);rw[hd0] at st2;have sS:∀ b',(Value.slice A1 m c1).ownBlock=some b'->b'≠W.heap.size:=fun b' hb' e=>by
  have:=(HR.out.lt iv b' (by rw[e1];exact hb')).2;omega
 have y0:w3.cell? ⟨W.heap.size,0,none⟩=some (.string v.s):=(World.cell?_of_block (a:=⟨W.heap.size,0,none⟩) (h3.block _ (by show W.heap.size<_;omega) (fun e=>sS _ e.symm rfl))).trans w0;have y1:w3.cell? ⟨W.heap.size,1,none⟩=some (.int .u8 v.k):=(World.cell?_of_block (a:=⟨W.heap.size,1,none⟩) (h3.block _ (by show W.heap.size<_;omega) (fun e=>sS _ e.symm rfl))).trans w1;have y2:w3.cell? ⟨W.heap.size,2,none⟩=some (.int .i64 v.n):=(World.cell?_of_block (a:=⟨W.heap.size,2,none⟩) (h3.block _ (by show W.heap.size<_;omega) (fun e=>sS _ e.symm rfl))).trans w2;have HST:=zh ((st1.trans st2).after (zka fF.out q2) HR.out);have HY:=zh (show(fun w':World=>w'.cell? ⟨W.heap.size,0,none⟩=some (.string v.s)/\w'.cell? ⟨W.heap.size,1,none⟩=some (.int .u8 v.k)/\w'.cell? ⟨W.heap.size,2,none⟩=some (.int .i64 v.n)) w3 from ⟨y0,y1,y2⟩);have hbW:b≠W.heap.size:=by omega
 have HY2:=zh (show(fun w':World=>w'.cell? ⟨W.heap.size,0,none⟩=some (.string v.s)/\w'.cell? ⟨W.heap.size,1,none⟩=some (.int .u8 v.k)/\w'.cell? ⟨W.heap.size,2,none⟩=some (.int .i64 v.n)) (w3.setCell ⟨b,o,none⟩ (.slice (some ⟨g8,0,none⟩) (m+1) aI)) from by
  have key:∀ i u,w3.cell? ⟨W.heap.size,i,none⟩=some u->(w3.setCell ⟨b,o,none⟩ (.slice (some ⟨g8,0,none⟩) (m+1) aI)).cell? ⟨W.heap.size,i,none⟩=some u:=fun i u hu=>(World.cell?_of_block (a:=⟨W.heap.size,i,none⟩) (Below.heap_setCell _ _ _ _ (Ne.symm hbW))).trans hu;exact⟨key _ _ y0,key _ _ y1,key _ _ y2⟩)
 refine hK.out _ _ HY.out ?_;clear hK K h2 h3 h5 st1 st2 w0 w1 w2 hrv2 HR2 q2 aK fF HR1 y0 y1 y2;(try simp only[zQ]);refine zp 8 fun K hK=>?_;(try simp only[zA,zB,zC]);go_simp;refine hK.out _ _ HY.out ?_;clear hK K;(try simp only[zQ]);refine zp 9 fun K hK=>?_;(try simp only[zA,zB,zC]);go_simp;refine hK.out _ _ HY.out ?_;clear hK K;(try simp only[zQ]);refine zp 10 fun K hK=>?_;(try simp only[zA,zB,zC]);go_simp;refine hK.out _ _ HY2.out ?_;clear hK K;(try simp only[zQ]);refine zd ?_;refine NoPanic.normal ?_;clear HY HY2 z0 zf;obtain⟨W4,hW4⟩:∃ W4,w3.setCell ⟨b,o,none⟩ (.slice (some ⟨g8,0,none⟩) (m+1) aI)=W4:=⟨_,rfl⟩
 rw[hW4] at HST ⊢;obtain⟨d2,hd2⟩:∃ d2,updR (updR d iv ⟨.slice (some ⟨g8,0,none⟩) (m+1) aI,83,3,m+1,xs++[.string v.s,.int .u8 v.k,.int .i64 v.n]⟩) i0 { d i0 with xs:=(d i0).xs.set o (.slice (some ⟨g8,0,none⟩) (m+1) aI) }=d2:=⟨_,rfl⟩
 rw[hd2] at HST;have nT:d2 ic=d ic:=by rw[<-hd2,zki (Ne.symm h02),zki (Ne.symm h12)]
 have lg:d2 i0={ d i0 with xs:=(d i0).xs.set o (.slice (some ⟨g8,0,none⟩) (m+1) aI) }:=by rw[<-hd2,zkE]
 have g1:W4.cell? ⟨b,o+1,none⟩=some (.slice A2 m c2):=by
  rw[<-e2];exact HST.out.rws.cell i0 (by rw[lg];exact hb) (by rw[lg];show((d i0).xs.set o _)[o+1]?=_;rw[List.getElem?_set_ne (by omega)];exact hoc)
 have HD2:=zh hd2;clear hW4 hd0 hd2;obtain⟨W5,hW5⟩:∃ W5,W4.alloc (.cells #[.pointer q] 97)=W5:=⟨_,rfl⟩
 have q5:Below W4.heap.size W4 W5:=hW5▸zkd (Below.refl _ _) _;have qK:=zh (show ∀ j u,[Value.pointer q][j]?=some u->W5.cell? ((⟨W4.heap.size,0,none⟩:Addr).add j)=some u from hW5▸zlw W4 97 [.pointer q]);have qH:=HST.out.rws.later q5;have hrc5:W5.ownsRow n0 97 1 (.slice A2 m c2) m ys:=by have:=qH.row ic;rw[nT,hic] at this;rw[<-e2];exact this
 have hs5:=q5.size;have hs4:=HST.out.chg.size;have e2':(d2 ic).v=.slice A2 m c2:=by rw[nT];exact e2
 have HKEY:=zh (show ∀ (g9 bM:Nat) (w6:World),w6.ownsRow n0 97 1 (.slice (some ⟨g9,0,none⟩) (m+1) bM) (m+1) (ys++[.pointer q])->W5.grownBy w6 (Value.slice A2 m c2).ownBlock->((Value.slice (some ⟨g9,0,none⟩) (m+1) bM).ownBlock=(Value.slice A2 m c2).ownBlock\/(Value.slice (some ⟨g9,0,none⟩) (m+1) bM).ownBlock=some W5.heap.size) ->
   w6.cell? ⟨b,o+1,none⟩=some (.slice A2 m c2)/\w6.frozen? ⟨b,o+1,none⟩=false/\Stp n0 d W (updR (updR d2 ic ⟨.slice (some ⟨g9,0,none⟩) (m+1) bM,97,1,m+1,ys++[.pointer q]⟩) i0 { d i0 with xs:=((d i0).xs.set o (.slice (some ⟨g8,0,none⟩) (m+1) aI)).set (o+1) (.slice (some ⟨g9,0,none⟩) (m+1) bM) }) (w6.setCell ⟨b,o+1,none⟩ (.slice (some ⟨g9,0,none⟩) (m+1) bM)) from fun g9 bM w6 h2 h3 h5=>by
  have st1:Stp n0 d2 W5 (updR d2 ic ⟨.slice (some ⟨g9,0,none⟩) (m+1) bM,97,1,m+1,ys++[.pointer q]⟩) w6:=by
   refine Stp.upd (i:=ic) qH ((Chg.row h3).mono fun b' _ hb'=>by rw[e2'];exact hb') h2 (fun b' hb'=>?_);rw[e2'];rcases h5 with h5|h5
   ·exact .inl (h5▸hb')
   ·exact .inr (by rw[h5] at hb';injection hb' with hb';omega)
  have hd0:updR d2 ic ⟨.slice (some ⟨g9,0,none⟩) (m+1) bM,97,1,m+1,ys++[.pointer q]⟩ i0={ d i0 with xs:=(d i0).xs.set o (.slice (some ⟨g8,0,none⟩) (m+1) aI) }:=(zki h02).trans lg;have z0:w6.cell? ⟨b,o+1,none⟩=some (.slice A2 m c2):=by
   rw[<-e2];exact st1.rws.cell i0 (by rw[hd0];exact hb) (by rw[hd0];show((d i0).xs.set o _)[o+1]?=_;rw[List.getElem?_set_ne (by omega)];exact hoc)
  have zf:w6.frozen? ⟨b,o+1,none⟩=false:=st1.rws.frozen i0 (by rw[hd0];exact hb) (o+1);have st2:=Stp.set (i:=i0) st1.rws (g:=b) (by rw[hd0];exact hb) (o:=o+1) (by rw[hd0];simpa using hol1) (.slice (some ⟨g9,0,none⟩) (m+1) bM);rw[hd0] at st2;exact⟨z0,zf,HST.out.trans ((st1.trans st2).after q5 HST.out.rws)⟩)
 clear qH q5 nT lg e2' sS;go_wp2_with (at_builtin;refine wpList_append_own_at (P:=Tryz.prog) _ rfl (.tmp 20) (.tmp 22) 90 rfl n0 97 i2 _ 1 8 Tryz.underlying90 hi2 hy0 hy1 hy2 rfl (by decide) (.slice A2 m c2) m ys rfl hrc5 ⟨W4.heap.size,0,none⟩ 1 1 [.pointer q] rfl rfl qK.out (by intro u hu;simp at hu;rw[hu];rfl) (by unfold maxLen;omega) (by omega) (by omega) ?_;intro vc w6 h2 h3 h4 h5;obtain⟨g9,bM,rfl⟩:=ownsRow_succ h2;obtain⟨z0,zf,hfin⟩:=HKEY.out g9 bM w6 h2 h3 h5;have aV:=zh hfin;clear h2 h3 h4 h5 hfin)
 go_end0;refine⟨⟨_,rfl⟩,.slice (some ⟨g8,0,none⟩) (m+1) aI,.slice (some ⟨g9,0,none⟩) (m+1) bM,?_⟩;have:=aV.out;rw[<-HD2.out] at this;refine this.cast ?_;funext j;by_cases j0:j=i0
 ·subst j0;simp
 ·simp only[updR,j0,if_false]
theorem zuv (a0 a1:Value) (w:World) (h0:∃ A l c,a0=.slice A l c) (h1:∃ A l c,a1=.slice A l c):(Instr.build 148 #[(0,a0),(1,a1)]).run Tryz.prog w=.ok (.agg #[a0,a1]) w:=by
 obtain⟨A,l,c,rfl⟩:=h0;obtain⟨A',l',c',rfl⟩:=h1
 kernel_rfl
theorem ztn (xs ys:List Int) (A B:Option Addr) (c d:Nat) (w:World) (hx:RowI w Any A xs) (hy:RowI w Any B ys) (hl:xs.length<=4096) (hm:ys.length<=4096) :
  Calls Tryz.prog 47 #[.slice A xs.length c,.slice B ys.length d] w fun e w'=>∃ tb vI vO,e=.returned (.tuple #[.pointer (some ⟨tb,0,none⟩),.int .i64 0])/\w.heap.size<=tb/\w'.heap[tb]?=some (.cells #[vI,vO] 148 (0,0)) /\
   w'.ownsRow w.heap.size 3 1 vI xs.length (zkf xs)/\w'.ownsRow w.heap.size 3 1 vO ys.length (zkf ys)/\vI.ownBlock≠some tb/\vO.ownBlock≠some tb/\(∀ b,vI.ownBlock=some b->vO.ownBlock≠some b)/\Below w.heap.size w w':=by
 have hxl:¬ (4096:Int)<(xs.length:Int):=by omega
 have hyl:¬ (4096:Int)<(ys.length:Int):=by omega
 have HX:=zh (fun w' (hb:Below w.heap.size w w')=>zkC xs A c Any w' (hx.later hb) (by unfold LI;omega));have HY:=zh (fun w' (hb:Below w.heap.size w w')=>zkC ys B d Any w' (hy.later hb) (by unfold LI;omega));obtain⟨n,hn⟩:∃ n,xs.length=n:=⟨_,rfl⟩
 obtain⟨m,hm'⟩:∃ m,ys.length=m:=⟨_,rfl⟩
 rw[hn,hm'];rw[hn] at hxl HX;rw[hm'] at hyl HY;have HN:=zh hn;have HM:=zh hm';clear hx hy hn hm' hl hm;go_enter Tryz.func47,Tryz.ntmps47;go_wp2_with fail;refine(HX.out _ (Below.refl _ _)).mono ?_;rintro e w1 ⟨v1,rfl,ho1,hf1,aa⟩;rw[HN.out] at ho1;obtain⟨A1,c1,rfl,-⟩:=zkb ho1;have mW:=zh ho1;have HB1:=zh aa;clear ho1 aa;go_wp2_with fail;refine(HY.out _ HB1.out).mono ?_;rintro e w2 ⟨v2,rfl,ho2,hf2,aj⟩;rw[HM.out] at ho2;obtain⟨A2,c2,rfl,-⟩:=zkb ho2;have rV:=zh ho2;have HB2:=zh aj;have hbt:=fun w=>zuv (.slice A1 n c1) (.slice A2 m c2) w ⟨_,_,_,rfl⟩ ⟨_,_,_,rfl⟩;clear ho2 aj;go_wp2_with fail;go_ret2;have h1:=zkt mW.out HB2.out;have hs1:=HB1.out.size;have hs2:=HB2.out.size;refine⟨w2.heap.size,.slice A1 n c1,.slice A2 m c2,rfl,by omega,heap_alloc_new w2 _,?_,?_,fun e=>?_,fun e=>?_,fun b e1 e2=>?_,zkd (zka HB1.out HB2.out) _⟩
 ·exact h1.alloc _
 ·obtain⟨x1,x2⟩:=rV.out.alloc (.cells #[.slice A1 n c1,.slice A2 m c2] 148);refine⟨x1,?_⟩;rcases x2 with x2|⟨g,cap,cur,y1,y2,y3⟩
  ·exact .inl x2
  ·exact .inr ⟨g,cap,cur,y1,by omega,y3⟩
 ·have:=(h1.lt _ e).2;omega
 ·have:=(rV.out.lt _ e).2;omega
 ·have:=(mW.out.lt _ e1).2;have:=(rV.out.lt _ e2).1;omega
theorem zuF {W:World} {n0:Nat} {P:Ph} {S:ST} (h:SR W n0 P S):Calls Tryz.prog 63 #[.pointer (some ⟨P.tb,0,none⟩)] W (OwnI W S.tin):=by
 obtain⟨A,c,hv,hc,hr⟩:=zqq (h.rws.row .tin) h.wf.tin.2;have hv':P.vI=.slice A S.tin.length c:=hv;have x0:W.cell? ⟨P.tb,0,none⟩=some (.slice A S.tin.length c):=by rw[<-hv'];exact zc h.tbox rfl
 have HC:=zh (zkC S.tin A c Any W hr (by have:=h.wf.tin.1;unfold LI;omega));obtain⟨n,hn⟩:∃ n,S.tin.length=n:=⟨_,rfl⟩
 rw[hn] at x0 HC;clear h hv hv' hr hn hc;go_enter Tryz.func63,Tryz.ntmps63;go_wp2_with fail;refine HC.out.mono ?_;rintro e w1 ⟨v1,rfl,h1⟩;have H1:=zh h1;obtain⟨A1,c1,rfl,-⟩:=zkb h1.1;clear h1;go_wp2_with fail;go_ret;exact⟨_,rfl,H1.out⟩
theorem ztm {W:World} {n0:Nat} {P:Ph} {S:ST} (h:SR W n0 P S):Calls Tryz.prog 64 #[.pointer (some ⟨P.tb,0,none⟩)] W (OwnI W S.tout):=by
 obtain⟨A,c,hv,hc,hr⟩:=zqq (h.rws.row .tout) h.wf.tout.2;have hv':P.vO=.slice A S.tout.length c:=hv;have x0:W.cell? ⟨P.tb,1,none⟩=some (.slice A S.tout.length c):=by rw[<-hv'];exact zc h.tbox rfl
 have HC:=zh (zkC S.tout A c Any W hr (by have:=h.wf.tout.1;unfold LI;omega));obtain⟨n,hn⟩:∃ n,S.tout.length=n:=⟨_,rfl⟩
 rw[hn] at x0 HC;clear h hv hv' hr hn hc;go_enter Tryz.func64,Tryz.ntmps64;go_wp2_with fail;refine HC.out.mono ?_;rintro e w1 ⟨v1,rfl,h1⟩;have H1:=zh h1;obtain⟨A1,c1,rfl,-⟩:=zkb h1.1;clear h1;go_wp2_with fail;go_ret;exact⟨_,rfl,H1.out⟩
structure SStp (n0:Nat) (P:Ph) (S:ST) (W:World) (P':Ph) (S':ST) (W':World):Prop where
 st:Stp n0 (rows P S) W (rows P' S') W'
 wf:S'.WF
theorem SStp.sr {n0:Nat} {P P':Ph} {S S':ST} {W W':World} (h:SStp n0 P S W P' S' W'):SR W' n0 P' S':=⟨h.st.rws,h.wf⟩
theorem SStp.trans {n0:Nat} {P P' P'':Ph} {S S' S'':ST} {W W' W'':World} (h:SStp n0 P S W P' S' W') (h':SStp n0 P' S' W' P'' S'' W''):SStp n0 P S W P'' S'' W'':=⟨h.st.trans h'.st,h'.wf⟩
theorem SStp.refl {n0:Nat} {P:Ph} {S:ST} {W W':World} (h:SR W n0 P S) (hb:Below W.heap.size W W'):SStp n0 P S W P S W':=⟨(Stp.refl h.rws).below hb,h.wf⟩
theorem zlJ (w:World) (n0:Nat):w.ownsRow n0 nilR.E nilR.sz nilR.v nilR.n nilR.xs:=⟨rfl,.inl ⟨rfl,rfl⟩⟩
theorem zly {P P':Ph} (h1:P'.fV=P.fV) (h2:P'.fC=P.fC):∀ (fs:List FR) (i:Nat),zlE P' i fs=zlE P i fs
 | [],_=>rfl
 | f::fs,i=>by simp[zlE,h1,h2,zly h1 h2 fs]
def zpW (S:ST):Int×ST:=if S.calls.length=0\/0<S.cur.loc then (20,S) else (0,{ S with calls:=S.calls.take (S.calls.length-1) })
def ST.setCur (S:ST) (f:FR):ST:=if S.calls.length=0 then { S with base:=f } else { S with calls:=S.calls.set (S.calls.length-1) f }
def hI (S:ST):Res:=if S.calls.length=0 then .sb else .calls
def oI (S:ST):Nat:=if S.calls.length=0 then 0 else (S.calls.length-1)*3
def vI (S:ST):Res:=if S.calls.length=0 then .bv else .fv (S.calls.length-1)
def cI (S:ST):Res:=if S.calls.length=0 then .bc else .fc (S.calls.length-1)
def Ph.setCur (P:Ph) (S:ST) (vv vc:Value):Ph:=if S.calls.length=0 then { P with vV:=vv,vC:=vc } else { P with fV:=fun i=>if i=S.calls.length-1 then vv else P.fV i,fC:=fun i=>if i=S.calls.length-1 then vc else P.fC i }
theorem zoX {P P':Ph} {vv vc:Value} {f:FR}:∀ (fs:List FR) (i j:Nat),j<fs.length->(∀ q,q≠i+j->P'.fV q=P.fV q/\P'.fC q=P.fC q)->P'.fV (i+j)=vv->P'.fC (i+j)=vc ->
  zlE P' i (fs.set j f)=(((zlE P i fs).set (j*3) vv).set (j*3+1) vc).set (j*3+2) (.int .i64 f.loc)
 | g::fs,i,0,_,h,h1,h2=>by
  have hr:zlE P' (i+1) fs=zlE P (i+1) fs:=by
   have key:∀ (l:List FR) (q:Nat),i<q->zlE P' q l=zlE P q l:=by
    intro l
    induction l with
    | nil=>intro q _;rfl
    | cons a l ih=>intro q hq;simp[zlE,(h q (by omega)).1,(h q (by omega)).2,ih (q+1) (by omega)]
   exact key fs (i+1) (by omega)
  simp only[Nat.add_zero] at h1 h2;simp[zlE,h1,h2,hr]
 | g::fs,i,j+1,hj,h,h1,h2=>by
  have ih:=zoX (P:=P) (P':=P') (vv:=vv) (vc:=vc) (f:=f) fs (i+1) j (by simpa using hj) (fun q hq=>h q (by omega)) (by rw[show i+1+j=i+(j+1) by omega];exact h1) (by rw[show i+1+j=i+(j+1) by omega];exact h2);rw[show(j+1)*3=j*3+1+1+1 by omega];simp only[List.set_cons_succ,zlE,(h i (by omega)).1,(h i (by omega)).2,ih]
theorem zpi (P:Ph) (S:ST) (f:FR) (vv vc:Value):rows (P.setCur S vv vc) (S.setCur f) =
  updR (updR (updR (rows P S) (vI S) ⟨vv,83,3,f.vs.length,zl0 f.vs⟩) (cI S) ⟨vc,97,1,f.cs.length,ptrs P.cb f.cs⟩) (hI S)
   { rows P S (hI S) with xs:=(((rows P S (hI S)).xs.set (oI S) vv).set (oI S+1) vc).set (oI S+2) (.int .i64 f.loc) }:=by
 by_cases h0:S.calls.length=0
 ·simp only[Ph.setCur,ST.setCur,hI,vI,cI,oI,h0,if_true];have hc:S.calls=[]:=List.length_eq_zero_iff.1 h0;funext r
  cases r<;>simp[updR,rows,hc,zlE]
 ·obtain⟨m,hm⟩:∃ m,S.calls.length=m+1:=⟨S.calls.length-1,by omega⟩
  have hm1:S.calls.length-1=m:=by omega
  simp only[Ph.setCur,ST.setCur,hI,vI,cI,oI,h0,if_false,hm1];funext r
  cases r with
  | calls =>
   have hq:∀ q,q≠0+m->({ P with fV:=fun i=>if i=m then vv else P.fV i,fC:=fun i=>if i=m then vc else P.fC i }:Ph).fV q=P.fV q/\({ P with fV:=fun i=>if i=m then vv else P.fV i,fC:=fun i=>if i=m then vc else P.fC i }:Ph).fC q=P.fC q:=fun q h=>by
    have h':q≠m:=by omega
    simp[h']
   have:=zoX (P:=P) (P':={ P with fV:=fun i=>if i=m then vv else P.fV i,fC:=fun i=>if i=m then vc else P.fC i }) (vv:=vv) (vc:=vc) (f:=f) S.calls 0 m (by omega) hq (by simp) (by simp);simp only[updR,if_true,rows,List.length_set,this]
  | fv i =>
   by_cases e:i=m
   ·subst e;simp[updR,rows,hm]
   ·have e':m≠i:=Ne.symm e;simp[updR,rows,e,e']
  | fc i =>
   by_cases e:i=m
   ·subst e;simp[updR,rows,hm]
   ·have e':m≠i:=Ne.symm e;simp[updR,rows,e,e']
  | sb=>simp[updR,rows]
  | tb=>simp[updR,rows]
  | tin=>simp[updR,rows]
  | tout=>simp[updR,rows]
  | bv=>simp[updR,rows]
  | bc=>simp[updR,rows]
  | cb i=>simp[updR,rows]
  | ci i=>simp[updR,rows]
  | x i=>simp[updR,rows]
def zt9 (f:FR):VD:=f.vs.getD (f.vs.length-1) ⟨⟨#[]⟩,0,0⟩
def zuO (f:FR):Nat:=f.cs.getD (f.vs.length-1) 0
def FR.pop (f:FR):FR:=⟨f.vs.take (f.vs.length-1),f.cs.take (f.vs.length-1),f.loc-1⟩
def zm3 (S:ST) (name:ByteArray) (x:Int):Int×ST :=
 if S.cur.loc=0\/((zt9 S.cur).s.toList==name.toList)=false then (6,S)
 else if ((zt9 S.cur).k=1/\(S.cell (zuO S.cur)).getD 0 0≠x)\/((zt9 S.cur).k=3/\0<(S.cell (zuO S.cur)).length) then (16,S)
 else (0,S.setCur S.cur.pop)
def ST.newCell (S:ST) (l:List Int):ST:={ S with cell:=fun i=>if i=S.nc then l else S.cell i,nc:=S.nc+1 }
def Ph.newCell (P:Ph) (S:ST) (b:Nat) (v:Value):Ph:={ P with cb:=fun i=>if i=S.nc then b else P.cb i,ci:=fun i=>if i=S.nc then v else P.ci i }
theorem zpR {cb:Nat->Nat} {nc b:Nat} {cs:List Nat} (h:∀ c∈cs,c<nc):ptrs (fun i=>if i=nc then b else cb i) cs=ptrs cb cs:=by
 unfold ptrs;refine List.map_congr_left fun c hc=>?_;have:=h c hc;have e:c≠nc:=by omega
 simp[e]
theorem zoO {S:ST} (hw:S.WF) (P:Ph) (b:Nat) (v:Value) (l:List Int):rows (P.newCell S b v) (S.newCell l) =
  updR (updR (rows P S) (.cb S.nc) ⟨boxV b,100,1,1,[v]⟩) (.ci S.nc) ⟨v,3,1,l.length,zkf l⟩:=by
 obtain⟨kd,h1,h2,_⟩:=hw.ex;funext r
 cases r with
 | cb i =>
  by_cases e:i=S.nc
  ·subst e;simp[updR,rows,Ph.newCell,ST.newCell]
  ·have:(i<S.nc+1)=(i<S.nc):=by simp;omega
   simp[updR,rows,Ph.newCell,ST.newCell,e,this]
 | ci i =>
  by_cases e:i=S.nc
  ·subst e;simp[updR,rows,Ph.newCell,ST.newCell]
  ·have:(i<S.nc+1)=(i<S.nc):=by simp;omega
   simp[updR,rows,Ph.newCell,ST.newCell,e,this]
 | bc=>simp[updR,rows,Ph.newCell,ST.newCell,zpR h1.num]
 | fc i =>
  simp only[updR,reduceCtorEq,if_false,rows,ST.newCell,Ph.newCell]
  cases hi:S.calls[i]? with
  | none=>rfl
  | some f=>simp only[zpR (h2 f (List.mem_of_getElem? hi)).num]
 | calls =>
  simp only[updR,reduceCtorEq,if_false,rows,ST.newCell];rw[zly (P:=P) (P':=P.newCell S b v) rfl rfl];rfl
 | fv i=>simp[updR,rows,Ph.newCell,ST.newCell]
 | sb=>simp[updR,rows,Ph.newCell,ST.newCell]
 | tb=>simp[updR,rows,Ph.newCell,ST.newCell]
 | tin=>simp[updR,rows,Ph.newCell,ST.newCell]
 | tout=>simp[updR,rows,Ph.newCell,ST.newCell]
 | bv=>simp[updR,rows,Ph.newCell,ST.newCell]
 | x i=>simp[updR,rows]
theorem zrk {k:Nat} (w:World) (n0:Nat) (E:TypeId) (xs:List Value) (hn:n0<=w.heap.size) (hx:xs.length=k):(w.alloc (.cells xs.toArray E)).ownsRow n0 E k (.slice (some ⟨w.heap.size,0,none⟩) 1 1) 1 xs :=
 ⟨by omega,.inr ⟨w.heap.size,1,xs.toArray,rfl,hn,heap_alloc_new w _,Nat.le_refl _,by decide,by simp[hx],by rw[Nat.one_mul,<-hx];simp⟩⟩
theorem zsT (P:Ph) (S:ST):(rows P S (hI S)).xs[oI S]?=some (curV P S)/\(rows P S (hI S)).xs[oI S+1]?=some (curC P S)/\(rows P S (hI S)).xs[oI S+2]?=some (.int .i64 S.cur.loc):=by
 by_cases h0:S.calls.length=0
 ·simp[hI,oI,curV,curC,h0,rows,zpw h0]
 ·obtain⟨g1,g2,g3⟩:=znC P S.calls 0 (S.calls.length-1) (by omega);simp only[Nat.zero_add] at g1 g2;simp only[hI,oI,curV,curC,h0,if_false,rows,zpv (show 0<S.calls.length by omega)];exact⟨g1,g2,g3⟩
def FR.push (f:FR) (v:VD) (id:Nat):FR:=⟨f.vs++[v],f.cs++[id],f.loc+1⟩
theorem zqC (vs:List VD) (v:VD):zl0 (vs++[v])=zl0 vs++[.string v.s,.int .u8 v.k,.int .i64 v.n]:=by simp[zl0]
def zoT (S:ST) (v:VD) (x:Int):Int×ST :=
 if ¬ ((v.k=1\/v.k=3)/\v.n=0) then (7,S)
 else if (S.cur.at v.s).isSome=true then (22,S)
 else (0,(S.newCell (if v.k=1 then [x] else [])).setCur (S.cur.push v S.nc))
theorem znX {P:Program} {ops:Array Oper} {o:Oper} {a:Act} {w:World} {K:Act->World->Prop} {Q:Exit->Act->World->Prop} {F:Prop} (hgd:o.guard=none) (x:Operand) (xs:Array Operand) (ats:Array TypeId)
  (ho:o.op=.call { callee:=.value x,args:=xs,argTypes:=ats }) (f:FuncId) (fn:Func) (hf:IsFn P f fn) (cap:Array Value) (hv:a.eval x=.func (.func f) #[] cap) (args:Array Value) (hargs:xs.map a.eval++cap=args) (R:Value->World->Prop)
  (hc:Calls P f args w fun e w'=>∃ v,e=.returned v/\R v w') (h:∀ v w',R v w'->K (a.put o.dst v) w') :
  if Region.wanted o (yielded ops a.tmps)=true then Oper.wp P o a w K Q else F:=by
 have hw:Region.wanted o (yielded ops a.tmps)=true:=by simp[Region.wanted,hgd]
 rw[if_pos hw];subst hargs;have e:(execOp a.eval o).run P w=.ok (.enter f (xs.map a.eval++cap)) w:=by
  unfold execOp;simp only[ho,resolve,hv,Deferred.ofValue,Sem.run_bind,Sem.run_pure,Result.andThen_ok,invoke,zkH hf,Array.empty_append]
 unfold Oper.wp;rw[e,Oper.upon_enter];refine hc.mono ?_;rintro e w' ⟨v,rfl,hR⟩;exact h v w' hR
theorem zkg {P:Program} {ops:Array Oper} {o:Oper} {a:Act} {w:World} {K:Act->World->Prop} {Q:Exit->Act->World->Prop} {F:Prop} (hgd:o.guard=none) (x:Operand) (xs:List Operand) (ats:Array TypeId)
  (ho:o.op=.call { callee:=.value x,args:=xs.toArray,argTypes:=ats }) (f:FuncId) (fn:Func) (hf:IsFn P f fn) (hv:a.eval x=.func (.func f) #[] #[]) (l:List Value) (hargs:xs.map a.eval=l) (R:Value->World->Prop)
  (hc:Calls P f l.toArray w fun e w'=>∃ v,e=.returned v/\R v w') (h:∀ v w',R v w'->K (a.put o.dst v) w') :
  if Region.wanted o (yielded ops a.tmps)=true then Oper.wp P o a w K Q else F :=
 znX hgd x xs.toArray ats ho f fn hf #[] hv l.toArray (by rw[List.map_toArray,hargs,Array.append_empty]) R hc h
theorem zk8 {P:Program} {ops:Array Oper} {o:Oper} {a:Act} {w:World} {K:Act->World->Prop} {Q:Exit->Act->World->Prop} {F:Prop} (hgd:o.guard=none) (x:Operand) (xs:List Operand) (ats:Array TypeId)
  (ho:o.op=.call { callee:=.value x,args:=xs.toArray,argTypes:=ats }) (f:FuncId) (fn:Func) (hf:IsFn P f fn) (cap:Array Value) (hv:a.eval x=.func (.func f) #[] cap) (l:List Value) (hargs:xs.map a.eval=l) (R:Value->World->Prop)
  (hc:Calls P f (l.toArray++cap) w fun e w'=>∃ v,e=.returned v/\R v w') (h:∀ v w',R v w'->K (a.put o.dst v) w') :
  if Region.wanted o (yielded ops a.tmps)=true then Oper.wp P o a w K Q else F :=
 znX hgd x xs.toArray ats ho f fn hf cap hv _ (by rw[List.map_toArray,hargs]) R hc h
theorem zkN {B:Nat} {w w':World} (h:Below B w w') (n:Nat):Below B w (w'.drewN n):=⟨h.os,h.tape,h.output,h.size,h.block⟩
def entL (f:FR) (acc:FR):List (VD×ByteArray)->Except Int FR
 | []=>.ok acc
 | (v,a)::r=>match f.at a with
  | none=>.error 6
  | some i=>if (f.vs.getD i ⟨⟨#[]⟩,0,0⟩).k=v.k/\(f.vs.getD i ⟨⟨#[]⟩,0,0⟩).n=v.n then entL f ⟨acc.vs++[v],acc.cs++[f.cs.getD i 0],0⟩ r else .error 7
def entR (S:ST):Except Int FR->Int×ST
 | .error e=>(e,S)
 | .ok f=>if 100<=S.calls.length then (19,S) else (0,{ S with calls:=S.calls++[f] })
def zp7 (S:ST) (ps:List VD) (ss:List ByteArray):Int×ST :=
 if ps.length≠ss.length then (7,S) else entR S (entL S.cur ⟨[],[],0⟩ (ps.zip ss))
theorem zld {C:Nat->Prop} {w w':World} (h:Chg C w w') {p:Addr} {u:Value} (hp:w.cell? p=some u) (hc:¬ C p.block):w'.cell? p=some u:=(World.cell?_of_block (a:=p) (h.block _ (World.block_lt_of_cell? w p hp) hc)).trans hp
theorem Stp.take2 {I:Type} [DecidableEq I] {n0:Nat} {d:I->RowD} {W W':World} (h:Rws W n0 d) (hb:Below W.heap.size W W') (i j:I) (hij:i≠j) (r1 r2:RowD) (o1:W'.ownsRow n0 r1.E r1.sz r1.v r1.n r1.xs) (o2:W'.ownsRow n0 r2.E r2.sz r2.v r2.n r2.xs)
  (n1:∀ b,r1.v.ownBlock=some b->W.heap.size<=b) (n2:∀ b,r2.v.ownBlock=some b->W.heap.size<=b) (hs:∀ b,r1.v.ownBlock=some b->r2.v.ownBlock≠some b):Stp n0 d W (updR (updR d i r1) j r2) W':=by
 have hl:=h.later hb;have key:∀ q,(q=j/\updR (updR d i r1) j r2 q=r2)\/(q≠j/\q=i/\updR (updR d i r1) j r2 q=r1)\/(q≠j/\q≠i/\updR (updR d i r1) j r2 q=d q):=fun q=>by
  by_cases e:q=j
  ·subst e;exact .inl ⟨rfl,zkE⟩
  ·by_cases e2:q=i
   ·subst e2;exact .inr (.inl ⟨e,rfl,by rw[zki e,zkE]⟩)
   ·exact .inr (.inr ⟨e,e2,by rw[zki e,zki e2]⟩)
 have hlt:∀ q b,(d q).v.ownBlock=some b->b<W.heap.size:=fun q b hq=>(h.lt q b hq).2;refine⟨⟨fun q=>?_,fun p q b hpq h1 h2=>?_⟩,Chg.of_below hb,fun b ⟨q,hq⟩=>?_⟩
 ·rcases key q with⟨_,e⟩|⟨_,_,e⟩|⟨_,_,e⟩
  ·rw[e];exact o2
  ·rw[e];exact o1
  ·rw[e];exact hl.row q
 ·rcases key p with⟨ep,e⟩|⟨_,ep,e⟩|⟨_,_,e⟩<;>rcases key q with⟨eq,e'⟩|⟨_,eq,e'⟩|⟨_,_,e'⟩<;>rw[e] at h1<;>rw[e'] at h2
  ·exact hpq (ep.trans eq.symm)
  ·exact hs b h2 h1
  ·have:=n2 b h1;have:=hlt _ b h2;omega
  ·exact hs b h1 h2
  ·exact hpq (ep.trans eq.symm)
  ·have:=n1 b h1;have:=hlt _ b h2;omega
  ·have:=n2 b h2;have:=hlt _ b h1;omega
  ·have:=n1 b h2;have:=hlt _ b h1;omega
  ·exact h.sep p q b hpq h1 h2
 ·rcases key q with⟨_,e⟩|⟨_,_,e⟩|⟨_,_,e⟩<;>rw[e] at hq
  ·exact .inr (n2 b hq)
  ·exact .inr (n1 b hq)
  ·exact .inl ⟨q,hq⟩
theorem zlK {w:World} {n0 n1:Nat} {E:TypeId} {size:Nat} {v:Value} {n:Nat} {xs:List Value} (h:w.ownsRow n1 E size v n xs) (hn:n0<=n1):w.ownsRow n0 E size v n xs:=by
 obtain⟨x1,x2⟩:=h;refine⟨x1,?_⟩;rcases x2 with x2|⟨g,cap,cur,y1,y2,y3⟩
 ·exact .inl x2
 ·exact .inr ⟨g,cap,cur,y1,by omega,y3⟩
theorem zvy:IsFn Tryz.prog 48 Tryz.f48:=⟨Tryz.func48,by kernel_rfl,by kernel_rfl⟩
theorem zmZ (xs ys:List Int) (A B:Option Addr) (c d:Nat) (w:World) (hx:RowI w Any A xs) (hy:RowI w Any B ys) (hl:xs.length<=1000000) (hm:ys.length<=1000000) :
  Calls Tryz.prog 62 #[.slice A xs.length c,.slice B ys.length d] w fun e w'=>e=.returned (.bool (decide (xs=ys)))/\Below w.heap.size w w':=by
 obtain⟨R,hR⟩:∃ R,decide (xs=ys)=R:=⟨_,rfl⟩
 rw[hR];have HR:=zh hR;have HX:=zh hx;have HY:=zh hy;clear hR hx hy;by_cases hlen:xs.length=ys.length
 ·have HL:=zh hlen;rw[<-hlen];clear hlen;go_enter Tryz.func62,Tryz.ntmps62;go_wp2_with fail
  go_loopw [5,13] (fun _ i wr=>∃ j:Nat,j<=xs.length/\i=.int .i64 j/\Below w.heap.size w wr/\Hid (xs.take j=ys.take j)) (fun _ i _=>xs.length-(intOf i).toNat)
  case atStart=>exact⟨0,Nat.zero_le _,rfl,Below.refl _ _,zh rfl⟩
  case round =>
   obtain⟨j,hj,rfl,hbl,HJ⟩:=hrel;have ae:=zh hbl;by_cases hlt:j<xs.length
   ·have hlt2:j<ys.length:=by rw[<-HL.out];exact hlt
    obtain⟨a,rfl,h1⟩:=(HX.out.later hbl).nd hlt;obtain⟨b,rfl,h2⟩:=(HY.out.later hbl).nd hlt2;obtain⟨x,hx⟩:∃ x,xs.getD j 0=x:=⟨_,rfl⟩
    obtain⟨y,hy⟩:∃ y,ys.getD j 0=y:=⟨_,rfl⟩
    rw[hx] at h1;rw[hy] at h2;have hx':xs[j]=x:=by rw[<-hx];simp[hlt]
    have hy':ys[j]=y:=by rw[<-hy];simp[hlt2]
    have HS:=zh (show(fun w':World=>w'.cell? (a.add j)=some (.int .i64 x)/\w'.cell? (b.add j)=some (.int .i64 y)) wr.drew from ⟨h1,h2⟩);have hj1:(j:Int)<(xs.length:Int):=by omega
    have HXJ:=zh hx';have HYJ:=zh hy';clear hbl hx hy hx' hy' h1 h2;go_upto_region 6 with fail
    go_region_held3 (fun w':World=>w'.cell? (a.add j)=some (.int .i64 x)/\w'.cell? (b.add j)=some (.int .i64 y))
     (with_reducible exact HS.out)
     (first|fail)
    by_cases hxy:x=y
    ·subst hxy;have HJ2:Hid (xs.take (j+1)=ys.take (j+1)):=zh (by rw[List.take_succ_eq_append_getElem hlt,List.take_succ_eq_append_getElem hlt2,HJ.out,HXJ.out,HYJ.out]);go_wp2_with fail
     go_roundw
     case rel=>exact⟨j+1,by omega,by go_num,ae.out.drew,HJ2⟩
     case measure=>simp[intOf];omega
    ·have e1:(x==y)=false:=by simpa using hxy
     have e2:(x != y)=true:=by simpa using hxy
     have HF:=zh (show R=false by rw[<-HR.out];exact decide_eq_false fun h=>hxy (by subst h;rw[<-HXJ.out,<-HYJ.out]));clear hxy;go_wp2_with fail;go_ret;exact⟨by rw[HF.out];rfl,ae.out.drew⟩
   ·obtain rfl:j=xs.length:=by omega
    have HF:=zh (show R=true by
     have h1:=HJ.out;rw[List.take_of_length_le (Nat.le_refl _),List.take_of_length_le (by rw[HL.out];exact Nat.le_refl _)] at h1;rw[<-HR.out];exact decide_eq_true h1)
    clear hbl;go_wp2_with fail;go_ret;exact⟨by rw[HF.out];rfl,ae.out⟩
 ·have HF:=zh (show R=false by rw[<-HR.out];exact decide_eq_false fun h=>hlen (by rw[h]));have e1:((xs.length:Int)==(ys.length:Int))=false:=by simp;omega
  have e2:((xs.length:Int) != (ys.length:Int))=true:=by simp;omega
  go_enter Tryz.func62,Tryz.ntmps62;go_wp2_with fail;go_ret;exact⟨by rw[HF.out];rfl,Below.refl _ _⟩
def zmN (w:World) (S:Nat->Prop) (A:Option Addr) (ls:List (List Int)):Prop :=
 ∀ i (hi:i<ls.length),∃ (a:Addr) (A':Option Addr) (c':Nat),A=some a/\S a.block/\w.cell? (a.add i)=some (.slice A' ls[i].length c')/\ls[i].length<=c'/\RowI w S A' ls[i]
structure SS where
 cells:List (List Int)
 tin:List Int
 tout:List Int
def SS.Lim (s:SS):Prop:=s.cells.length<=LI/\(∀ l∈s.cells,l.length<=LI)/\s.tin.length<=LI/\s.tout.length<=LI
def SV (w:World) (S:Nat->Prop) (s:SS) (v:Value):Prop :=
 ∃ A c B d D e,v=.agg #[.slice A s.cells.length c,.slice B s.tin.length d,.slice D s.tout.length e]/\zmN w S A s.cells/\RowI w S B s.tin/\RowI w S D s.tout/\s.cells.length<=c/\s.tin.length<=d/\s.tout.length<=e/\s.Lim
section
variable {w w':World} {S S':Nat->Prop} {A:Option Addr} {ls:List (List Int)}
theorem zmN.keep (h:zmN w S A ls) (hS:∀ b,S b->b<w.heap.size->S' b) (hk:∀ b,S b->b<w.heap.size->w'.heap[b]?=w.heap[b]?):zmN w' S' A ls:=fun i hi=>by
 obtain⟨a,A',c',hA,eY,h0,hc,hr⟩:=h i hi;have hlt:a.block<w.heap.size:=by have:=World.block_lt_of_cell? w _ h0;rwa[zkn] at this
 refine⟨a,A',c',hA,hS _ eY hlt,zkG h0 ?_,hc,hr.keep hS hk⟩;simp only[zkn];exact hk _ eY hlt
theorem zmN.later (h:zmN w S A ls) (hb:Below w.heap.size w w'):zmN w' S A ls:=h.keep (fun _ h _=>h) fun b _ hlt=>hb.block b hlt
theorem SV.keep {s:SS} {v:Value} (h:SV w S s v) (hS:∀ b,S b->b<w.heap.size->S' b) (hk:∀ b,S b->b<w.heap.size->w'.heap[b]?=w.heap[b]?):SV w' S' s v:=by
 obtain⟨A,c,B,d,D,e,rfl,h1,h2,h3,h4⟩:=h;exact⟨A,c,B,d,D,e,rfl,h1.keep hS hk,h2.keep hS hk,h3.keep hS hk,h4⟩
theorem SV.later {s:SS} {v:Value} (h:SV w S s v) (hb:Below w.heap.size w w'):SV w' S s v:=h.keep (fun _ h _=>h) fun b _ hlt=>hb.block b hlt
theorem zmN.nd (h:zmN w Any A ls) {i:Nat} (hi:i<ls.length):∃ (a:Addr) (l:List Int) (A':Option Addr) (c':Nat),A=some a/\Hid (ls[i]=l)/\w.cell? (a.add i)=some (.slice A' l.length c')/\l.length<=c'/\RowI w Any A' l :=
 let ⟨a,A',c',h1,_,h3,h4,h5⟩:=h i hi;⟨a,ls[i],A',c',h1,rfl,h3,h4,h5⟩
end
theorem znT (xs ys:List (List Int)) (A B:Option Addr) (c d:Nat) (w:World) (hx:zmN w Any A xs) (hy:zmN w Any B ys) (hl:xs.length<=1000000) (hm:ys.length<=1000000) (hbx:∀ l∈xs,l.length<=1000000) (hby:∀ l∈ys,l.length<=1000000) :
  Calls Tryz.prog 61 #[.slice A xs.length c,.slice B ys.length d,.func (.func 62) #[] #[]] w fun e w'=>e=.returned (.bool (decide (xs=ys)))/\Below w.heap.size w w':=by
 obtain⟨R,hR⟩:∃ R,decide (xs=ys)=R:=⟨_,rfl⟩
 rw[hR];have HR:=zh hR;have HX:=zh hx;have HY:=zh hy;have ax:=zh hbx;have HBY:=zh hby;clear hR hx hy hbx hby;by_cases hlen:xs.length=ys.length
 ·have HL:=zh hlen;rw[<-hlen];clear hlen;go_enter Tryz.func61,Tryz.ntmps61;go_wp2_with fail
  go_loopw [17] (fun i wr=>∃ j:Nat,j<=xs.length/\i=.int .i64 j/\Below w.heap.size w wr/\Hid (xs.take j=ys.take j)) (fun i _=>xs.length-(intOf i).toNat)
  case atStart=>exact⟨0,Nat.zero_le _,rfl,Below.refl _ _,zh rfl⟩
  case round =>
   obtain⟨j,hj,rfl,hbl,HJ⟩:=hrel;have ae:=zh hbl;by_cases hlt:j<xs.length
   ·have hlt2:j<ys.length:=by rw[<-HL.out];exact hlt
    obtain⟨a,x,A1,c1,rfl,Hx,h1,_,hr1⟩:=(HX.out.later hbl).nd hlt;obtain⟨b,y,B1,d1,rfl,Hy,h2,_,hr2⟩:=(HY.out.later hbl).nd hlt2;have hlx:x.length<=1000000:=by rw[<-Hx.out];exact ax.out _ (List.getElem_mem hlt)
    have qp:y.length<=1000000:=by rw[<-Hy.out];exact HBY.out _ (List.getElem_mem hlt2)
    obtain⟨b0,hb0⟩:∃ b0,decide (x=y)=b0:=⟨_,rfl⟩
    have HCA:=zh (hb0▸zmZ x y A1 B1 c1 d1 wr hr1 hr2 hlx qp);have HB0:=zh hb0;have hj1:(j:Int)<(xs.length:Int):=by omega
    clear hbl hr1 hr2 hb0;go_wp2_with fail;refine HCA.out.mono ?_;rintro e w2 ⟨rfl,aj⟩;have HB2:=zh (zka ae.out aj);clear aj h1 h2
    cases b0
    ·have HF:=zh (show R=false by
      rw[<-HR.out];refine decide_eq_false fun h=>of_decide_eq_false HB0.out ?_;subst h;rw[<-Hx.out,<-Hy.out])
     go_wp2_with fail;go_ret;exact⟨by rw[HF.out];rfl,HB2.out⟩
    ·have HJ2:Hid (xs.take (j+1)=ys.take (j+1)):=zh (by rw[List.take_succ_eq_append_getElem hlt,List.take_succ_eq_append_getElem hlt2,HJ.out,Hx.out,Hy.out,of_decide_eq_true HB0.out]);go_wp2_with fail
     go_roundw
     case rel=>exact⟨j+1,by omega,by go_num,HB2.out,HJ2⟩
     case measure=>simp[intOf];omega
   ·obtain rfl:j=xs.length:=by omega
    have HF:=zh (show R=true by
     have h1:=HJ.out;rw[List.take_of_length_le (Nat.le_refl _),List.take_of_length_le (by rw[HL.out];exact Nat.le_refl _)] at h1;rw[<-HR.out];exact decide_eq_true h1)
    clear hbl;go_wp2_with fail;go_ret;exact⟨by rw[HF.out];rfl,ae.out⟩
 ·have HF:=zh (show R=false by rw[<-HR.out];exact decide_eq_false fun h=>hlen (by rw[h]));have e1:((xs.length:Int)==(ys.length:Int))=false:=by simp;omega
  have e2:((xs.length:Int) != (ys.length:Int))=true:=by simp;omega
  go_enter Tryz.func61,Tryz.ntmps61;go_wp2_with fail;go_ret;exact⟨by rw[HF.out];rfl,Below.refl _ _⟩
def SS.Sm (s:SS):Prop:=s.cells.length<=1000000/\(∀ l∈s.cells,l.length<=1000000)/\s.tin.length<=1000000/\s.tout.length<=1000000
def eqS (s t:SS):Bool:=decide (s.cells=t.cells)&&decide (s.tin=t.tin)&&decide (s.tout=t.tout)
theorem zpE (s t:SS) (v1 v2:Value) (w:World) (h1:SV w Any s v1) (h2:SV w Any t v2) (hs:s.Sm) (ht:t.Sm):Calls Tryz.prog 21 #[v1,v2] w fun e w'=>e=.returned (.bool (eqS s t))/\Below w.heap.size w w':=by
 obtain⟨A,c,B,d,D,e,rfl,hr1,hr2,hr3,-⟩:=h1;obtain⟨A',c',B',d',D',e',rfl,hq1,hq2,hq3,-⟩:=h2;obtain⟨b1,hb1⟩:∃ b,decide (s.cells=t.cells)=b:=⟨_,rfl⟩
 obtain⟨b2,hb2⟩:∃ b,decide (s.tin=t.tin)=b:=⟨_,rfl⟩
 obtain⟨b3,hb3⟩:∃ b,decide (s.tout=t.tout)=b:=⟨_,rfl⟩
 have hR:eqS s t=(b1&&b2&&b3):=by rw[<-hb1,<-hb2,<-hb3];rfl
 obtain⟨R,hRR⟩:∃ R,eqS s t=R:=⟨_,rfl⟩
 have HRR:=zh (show R=(b1&&b2&&b3) by rw[<-hRR];exact hR);rw[hRR];have H1:=zh (show ∀ w',Below w.heap.size w w'->Calls Tryz.prog 61 #[.slice A s.cells.length c,.slice A' t.cells.length c',.func (.func 62) #[] #[]] w' fun e w''=>e=.returned (.bool b1)/\Below w'.heap.size w' w'' from fun w' hb=>hb1▸znT s.cells t.cells A A' c c' w' (hr1.later hb) (hq1.later hb) hs.1 ht.1 hs.2.1 ht.2.1);have H2:=zh (show ∀ w',Below w.heap.size w w'->Calls Tryz.prog 62 #[.slice B s.tin.length d,.slice B' t.tin.length d'] w' fun e w''=>e=.returned (.bool b2)/\Below w'.heap.size w' w'' from fun w' hb=>hb2▸zmZ s.tin t.tin B B' d d' w' (hr2.later hb) (hq2.later hb) hs.2.2.1 ht.2.2.1)
 have H3:=zh (show ∀ w',Below w.heap.size w w'->Calls Tryz.prog 62 #[.slice D s.tout.length e,.slice D' t.tout.length e'] w' fun e w''=>e=.returned (.bool b3)/\Below w'.heap.size w' w'' from fun w' hb=>hb3▸zmZ s.tout t.tout D D' e e' w' (hr3.later hb) (hq3.later hb) hs.2.2.2 ht.2.2.2);generalize s.cells.length=l1,s.tin.length=l2,s.tout.length=l3,t.cells.length=m1,t.tin.length=m2,t.tout.length=m3 at *
 clear hr1 hr2 hr3 hq1 hq2 hq3 hs ht hb1 hb2 hb3 hR hRR;go_enter Tryz.func21,Tryz.ntmps21;go_wp2_with fail;have q0:Below w.heap.size w ((w.alloc (.cells #[.slice A l1 c,.slice B l2 d,.slice D l3 e] 26)).alloc (.cells #[.slice A' m1 c',.slice B' m2 d',.slice D' m3 e'] 26)):=zkd (zkd (Below.refl _ _) _) _;have hP:=zkr (heap_alloc_new w (.cells #[.slice A l1 c,.slice B l2 d,.slice D l3 e] 26)) (.cells #[.slice A' m1 c',.slice B' m2 d',.slice D' m3 e'] 26);have hQ:=heap_alloc_new (w.alloc (.cells #[.slice A l1 c,.slice B l2 d,.slice D l3 e] 26)) (.cells #[.slice A' m1 c',.slice B' m2 d',.slice D' m3 e'] 26);simp only[World.size_alloc] at hQ;refine(H1.out _ q0).mono ?_;rintro e9 w1 ⟨rfl,aa⟩;have q1:=zka q0 aa;have hP1:=zkc hP aa;have qz:=zkc hQ aa;have x1:w1.cell? ⟨w.heap.size,1,none⟩=some (.slice B l2 d):=zc hP1 rfl
 have x2:w1.cell? ⟨w.heap.size,2,none⟩=some (.slice D l3 e):=zc hP1 rfl;have y1:w1.cell? ⟨w.heap.size+1,1,none⟩=some (.slice B' m2 d'):=zc qz rfl;have y2:w1.cell? ⟨w.heap.size+1,2,none⟩=some (.slice D' m3 e'):=zc qz rfl;clear hP hQ hP1 qz q0 aa
 cases b1
 ·have HX:=zh (show R=false by rw[HRR.out];rfl);go_wp2_with fail;go_ret;exact⟨by rw[HX.out];rfl,q1⟩
 ·go_wp2_with fail;refine(H2.out _ q1).mono ?_;rintro e9 w2 ⟨rfl,aj⟩;have q2:=zka q1 aj;have z2:=zb aj x2;have u2:=zb aj y2;clear aj x1 x2 y1 y2
  cases b2
  ·have HX:=zh (show R=false by rw[HRR.out];rfl);go_wp2_with fail;go_ret;exact⟨by rw[HX.out];rfl,q2⟩
  ·go_wp2_with fail;refine(H3.out _ q2).mono ?_;rintro e9 w3 ⟨rfl,aU⟩;have q3:=zka q2 aU;have HX:=zh (show R=b3 by rw[HRR.out];simp);clear aU z2 u2;go_wp2_with fail;go_ret;exact⟨by rw[HX.out];rfl,q3⟩
def vdB (v:VD):Bool:=if v.k=1\/v.k=3 then v.n==0 else if v.k=2 then decide (1<=v.n/\v.n<=16) else false
def svB (vs:List VD):Bool:=decide (vs.length<=32)&&vs.all vdB
def fixE (v:VD):Int:=if v.k=1 then 1 else v.n
theorem zrK (v:VD) (w:World):Calls Tryz.prog 87 #[.agg #[.string v.s,.int .u8 v.k,.int .i64 v.n]] w fun e w'=>e=.returned (.int .i64 (fixE v))/\Below w.heap.size w w':=by
 obtain⟨s,k,n⟩:=v;dsimp only;by_cases h:k=1
 ·subst h;go_enter Tryz.func87,Tryz.ntmps87;go_wp2_with fail;go_ret;exact⟨rfl,zkd (Below.refl _ _) _⟩
 ·have e1:(k==1)=false:=by simpa using h
  have HX:=zh (show fixE ⟨s,k,n⟩=n by simp[fixE,h]);obtain⟨R,hR⟩:∃ R,fixE ⟨s,k,n⟩=R:=⟨_,rfl⟩
  rw[hR] at HX ⊢;clear h hR;go_enter Tryz.func87,Tryz.ntmps87;go_wp2_with fail;go_ret;exact⟨by rw[HX.out];rfl,zkd (Below.refl _ _) _⟩
theorem zqj (vs:List VD) (A:Option Addr) (c:Nat) (w:World) (hrow:RowV w Any A vs) (hl:vs.length<=LV):Calls Tryz.prog 86 #[.slice A vs.length c] w fun e w'=>e=.returned (.bool (svB vs))/\Below w.heap.size w w':=by
 have hl':=zli hl;obtain⟨R,hR⟩:∃ R,svB vs=R:=⟨_,rfl⟩
 rw[hR];have HR:=zh hR;have ag:=zh hrow;clear hR hrow hl;by_cases h32:vs.length<=32
 ·have HN:=zh (show R=vs.all vdB by rw[<-HR.out,svB,decide_eq_true h32];rfl);clear HR;go_enter Tryz.func86,Tryz.ntmps86;go_wp2_with fail
  go_loopw [10] (fun i wr=>∃ j:Nat,j<=vs.length/\i=.int .i64 j/\Below w.heap.size w wr/\Hid ((vs.take j).all vdB=true)) (fun i _=>vs.length-(intOf i).toNat)
  case atStart=>exact⟨0,Nat.zero_le _,rfl,Below.refl _ _,zh rfl⟩
  case round =>
   obtain⟨j,hj,rfl,hbl,HJ⟩:=hrel;have ae:=zh hbl;by_cases hlt:j<vs.length
   ·obtain⟨a,rfl,-,⟨y0,y1,y2⟩,-⟩:=(ag.out.later hbl) j hlt;obtain⟨v,hv⟩:∃ v,vs[j]=v:=⟨_,rfl⟩
    rw[hv] at y0 y1 y2;obtain⟨vm,vk,vn⟩:=v;have Hv:=zh hv;have gJ:=zh (show vdB ⟨vm,vk,vn⟩=true->(vs.take (j+1)).all vdB=true from fun h=>by rw[List.take_succ_eq_append_getElem hlt,List.all_append,HJ.out,hv];simp[h]);have cz:=zh (show vdB ⟨vm,vk,vn⟩=false->R=false from fun h=>by
     rw[HN.out];exact Bool.eq_false_iff.2 fun h'=>by
      have:=List.all_eq_true.1 h' _ (List.getElem_mem hlt);rw[hv,h] at this
      cases this)
    dsimp only at y0 y1 y2;clear hbl hv;have hb0:∀ b,vdB ⟨vm,vk,vn⟩=b->True:=fun _ _=>trivial;by_cases k13:vk=1\/vk=3
    ·by_cases hn:vn=0
     ·have HJ2:=zh (gJ.out (by simp[vdB,k13,hn]));subst hn;clear gJ cz hb0;rcases k13 with rfl|rfl
      all_goals
       go_wp2_with fail
       go_roundw
       case rel=>exact⟨j+1,by omega,by go_num,zkd ae.out _,HJ2⟩
       case measure=>simp[intOf];omega
     ·have HX:=zh (cz.out (by simp[vdB,k13,hn]));have e1:(vn==0)=false:=by simpa using hn
      have e2:(vn != 0)=true:=by simpa using hn
      clear gJ cz hb0 hn;rcases k13 with rfl|rfl
      all_goals
       go_wp2_with fail;go_ret;exact⟨by rw[HX.out];rfl,zkd ae.out _⟩
    ·by_cases k2:vk=2
     ·subst k2;by_cases h1:vn<1
      ·have HX:=zh (cz.out (by simp[vdB];omega));clear gJ cz hb0 k13;go_wp2_with fail;go_ret;exact⟨by rw[HX.out];rfl,zkd ae.out _⟩
      ·by_cases h16:16<vn
       ·have HX:=zh (cz.out (by simp[vdB];omega));clear gJ cz hb0 k13;go_wp2_with fail;go_ret;exact⟨by rw[HX.out];rfl,zkd ae.out _⟩
       ·have HJ2:=zh (gJ.out (by simp[vdB];omega));clear gJ cz hb0 k13;go_wp2_with fail
        go_roundw
        case rel=>exact⟨j+1,by omega,by go_num,zkd ae.out _,HJ2⟩
        case measure=>simp[intOf];omega
     ·have HX:=zh (cz.out (by simp[vdB,k13,k2]));have x1:(vk==1)=false:=by simp;omega
      have x2:(vk==2)=false:=by simp;omega
      have x3:(vk==3)=false:=by simp;omega
      clear gJ cz hb0 k13 k2;go_wp2_with fail;go_ret;exact⟨by rw[HX.out];rfl,zkd ae.out _⟩
   ·obtain rfl:j=vs.length:=by omega
    have HX:=zh (show R=true by
     have:=HJ.out;rw[List.take_of_length_le (Nat.le_refl _)] at this;rw[HN.out];exact this)
    clear hbl;go_wp2_with fail;go_ret;exact⟨by rw[HX.out];rfl,ae.out⟩
 ·have HX:=zh (show R=false by rw[<-HR.out,svB,decide_eq_false h32];rfl);have h33:(32:Int)<(vs.length:Int):=by omega
  clear h32;go_enter Tryz.func86,Tryz.ntmps86;go_wp2_with fail;go_ret;exact⟨by rw[HX.out];rfl,Below.refl _ _⟩
def fit1 (v:VD) (l:List Int):Bool:=if v.k=3 then decide (l.length<=1000) else decide ((l.length:Int)=fixE v)
def zl9:List VD->List (List Int)->Bool
 | v::vs,l::ls=>fit1 v l&&zl9 vs ls
 | _,_=>true
def fitB (vs:List VD) (s:SS):Bool:=svB vs&&decide (s.cells.length=vs.length)&&decide (s.tin.length<=4096)&&decide (s.tout.length<=4096)&&zl9 vs s.cells
theorem zoa:∀ {vs:List VD} {ls:List (List Int)} {j:Nat} (h:j<vs.length) (h':j<ls.length),zl9 (vs.take (j+1)) (ls.take (j+1))=(zl9 (vs.take j) (ls.take j)&&fit1 vs[j] ls[j])
 | v::vs,l::ls,0,_,_=>by simp[zl9]
 | v::vs,l::ls,j+1,h,h'=>by
  have:=zoa (vs:=vs) (ls:=ls) (j:=j) (by simpa using h) (by simpa using h');simp only[List.take,zl9,List.getElem_cons_succ] at this ⊢;rw[this,Bool.and_assoc]
theorem zp3:∀ {vs:List VD} {ls:List (List Int)} {j:Nat} (h:j<vs.length) (h':j<ls.length),fit1 vs[j] ls[j]=false->zl9 vs ls=false
 | v::vs,l::ls,0,_,_,h=>by simp only[zl9,List.getElem_cons_zero] at *;simp[h]
 | v::vs,l::ls,j+1,h,h',h0=>by
  have:=zp3 (vs:=vs) (ls:=ls) (j:=j) (by simpa using h) (by simpa using h') (by simpa using h0);simp[zl9,this]
theorem ztx (vs:List VD) (s:SS) (A0:Option Addr) (c0:Nat) (v:Value) (w:World) (hrow:RowV w Any A0 vs) (hl:vs.length<=LV) (hv:SV w Any s v):Calls Tryz.prog 46 #[.slice A0 vs.length c0,v] w fun e w'=>e=.returned (.bool (fitB vs s))/\Below w.heap.size w w':=by
 obtain⟨A,c,B,d,D,e,rfl,hr1,hr2,hr3,hc1,hc2,hc3,hl1,hl2,hl3,hl4⟩:=hv;have hl':=zli hl;have nP:=zmO hl1;have hl3':=zmO hl3;have hl4':=zmO hl4;obtain⟨R,hR⟩:∃ R,fitB vs s=R:=⟨_,rfl⟩
 rw[hR];have HR:=zh hR;have ag:=zh hrow;have HR1:=zh hr1;have HL2:=zh hl2;obtain⟨b0,hb0⟩:∃ b,svB vs=b:=⟨_,rfl⟩
 have HV:=zh (show ∀ w',Below w.heap.size w w'->Calls Tryz.prog 86 #[.slice A0 vs.length c0] w' fun e w''=>e=.returned (.bool b0)/\Below w'.heap.size w' w'' from fun w' hb=>hb0▸zqj vs A0 c0 w' (hrow.later hb) hl);have HB0:=zh hb0;obtain⟨n1,hn1⟩:∃ n,s.cells.length=n:=⟨_,rfl⟩
 obtain⟨n2,hn2⟩:∃ n,s.tin.length=n:=⟨_,rfl⟩
 obtain⟨n3,kY⟩:∃ n,s.tout.length=n:=⟨_,rfl⟩
 have lX:=zh hn1;have HN:=zh (show R=(b0&&decide (n1=vs.length)&&decide (n2<=4096)&&decide (n3<=4096)&&zl9 vs s.cells) by rw[<-hR,<-hb0,<-hn1,<-hn2,<-kY];rfl);rw[hn1,hn2,kY];rw[hn1] at nP;rw[hn2] at hl3';rw[kY] at hl4';clear hR hrow hr1 hr2 hr3 hc1 hc2 hc3 hl1 hl2 hl3 hl4 hl hb0 hn1 hn2 kY HR;go_enter Tryz.func46,Tryz.ntmps46;go_wp2_with fail;refine(HV.out _ (zkd (Below.refl _ _) _)).mono ?_;rintro e9 w1 ⟨rfl,aa⟩;have q1:=zka (zkd (Below.refl w.heap.size w) _) aa;have hP:=zkc (heap_alloc_new w (.cells #[.slice A n1 c,.slice B n2 d,.slice D n3 e] 26)) aa;have x0:w1.cell? ⟨w.heap.size,0,none⟩=some (.slice A n1 c):=zc hP rfl;have x1:w1.cell? ⟨w.heap.size,1,none⟩=some (.slice B n2 d):=zc hP rfl;have x2:w1.cell? ⟨w.heap.size,2,none⟩=some (.slice D n3 e):=zc hP rfl;have HP:=zh hP;have fF:=zh q1;clear hP q1 aa
 cases b0
 ·have HX:=zh (show R=false by rw[HN.out];simp);clear HN;go_wp2_with fail;go_ret;exact⟨by rw[HX.out];rfl,fF.out⟩
 by_cases k1:n1=vs.length
 case neg =>
  have HX:=zh (show R=false by rw[HN.out];simp[k1]);have e1:((n1:Int)==(vs.length:Int))=false:=by simp;omega
  have e2:((n1:Int) != (vs.length:Int))=true:=by simp;omega
  clear HN k1;go_wp2_with fail;go_ret;exact⟨by rw[HX.out];rfl,fF.out⟩
 by_cases k2:n2<=4096
 case neg =>
  have HX:=zh (show R=false by rw[HN.out];simp[k2]);have e1:((n1:Int)==(vs.length:Int))=true:=by simp;omega
  have e2:((n1:Int) != (vs.length:Int))=false:=by simp;omega
  have e3:(4096:Int)<(n2:Int):=by omega
  clear HN k1 k2;go_wp2_with fail;go_ret;exact⟨by rw[HX.out];rfl,fF.out⟩
 by_cases k3:n3<=4096
 case neg =>
  have HX:=zh (show R=false by rw[HN.out];simp[k3]);have e1:((n1:Int)==(vs.length:Int))=true:=by simp;omega
  have e2:((n1:Int) != (vs.length:Int))=false:=by simp;omega
  have e3:¬ (4096:Int)<(n2:Int):=by omega
  have e4:(4096:Int)<(n3:Int):=by omega
  clear HN k1 k2 k3;go_wp2_with fail;go_ret;exact⟨by rw[HX.out];rfl,fF.out⟩
 subst k1;have HX:=zh (show R=zl9 vs s.cells by rw[HN.out];simp[k2,k3]);have e3:¬ (4096:Int)<(n2:Int):=by omega
 have e4:¬ (4096:Int)<(n3:Int):=by omega
 clear HN k2 k3 HV;go_wp2_with fail;clear x0 x1 x2
 go_loopw [32] (fun i wr=>∃ j:Nat,j<=vs.length/\i=.int .i64 j/\Below w.heap.size w wr/\wr.heap[w.heap.size]?=some (.cells #[.slice A vs.length c,.slice B n2 d,.slice D n3 e] 26 (0,0))/\Hid (zl9 (vs.take j) (s.cells.take j)=true)) (fun i _=>vs.length-(intOf i).toNat)
 case atStart=>exact⟨0,Nat.zero_le _,rfl,fF.out,HP.out,zh (by simp[zl9])⟩
 case round =>
  obtain⟨j,hj,rfl,hbl,hbx,HJ⟩:=hrel;have ae:=zh hbl;have ax:=zh hbx;by_cases hlt:j<vs.length
  ·have hlt2:j<s.cells.length:=by rw[lX.out];exact hlt
   obtain⟨a,rfl,-,⟨y0,y1,y2⟩,-⟩:=(ag.out.later hbl) j hlt;obtain⟨a',l,A',c',rfl,Hl,z0,_,-⟩:=(HR1.out.later hbl).nd hlt2;have hll:l.length<=LI:=by rw[<-Hl.out];exact HL2.out _ (List.getElem_mem hlt2)
   have hll':=zmO hll;obtain⟨v,hv⟩:∃ v,vs[j]=v:=⟨_,rfl⟩
   rw[hv] at y0 y1 y2;have x0:wr.cell? ⟨w.heap.size,0,none⟩=some (.slice (some a') vs.length c):=zc hbx rfl;have x0':=fun o=>zkj (o:=o) x0;have kI:=fun o=>zkj (o:=o) z0;have gJ:=zh (show fit1 v l=true->zl9 (vs.take (j+1)) (s.cells.take (j+1))=true from fun h=>by rw[zoa hlt hlt2,HJ.out,hv,Hl.out,h];rfl);have cz:=zh (show fit1 v l=false->R=false from fun h=>by rw[HX.out];exact zp3 hlt hlt2 (by rw[hv,Hl.out];exact h));have vZ:=zh (zrK v);have hj1:(j:Int)<(vs.length:Int):=by omega
   obtain⟨vm,vk,vn⟩:=v;dsimp only at y0 y1 y2 vZ;clear hbl hbx hv hll;by_cases k3:vk=3
   ·subst k3;by_cases h1:l.length<=1000
    ·have HJ2:=zh (gJ.out (by simp[fit1,h1]));have e5:¬ (1000:Int)<(l.length:Int):=by omega
     clear gJ cz h1;go_wp2_with fail
     go_roundw
     case rel=>exact⟨j+1,by omega,by go_num,zkd ae.out _,zkr ax.out _,HJ2⟩
     case measure=>simp[intOf];omega
    ·have bN:=zh (cz.out (by simp[fit1];omega));have e5:(1000:Int)<(l.length:Int):=by omega
     clear gJ cz h1;go_wp2_with fail;go_ret;exact⟨by rw[bN.out];rfl,zkd ae.out _⟩
   ·have x3:(vk==3)=false:=by simpa using k3
    obtain⟨fx,hfx⟩:∃ fx,fixE ⟨vm,vk,vn⟩=fx:=⟨_,rfl⟩
    rw[hfx] at vZ;have jh:=zh k3;have uj:=zh hfx;clear k3 hfx;obtain⟨W6,uT⟩:∃ W6,wr.alloc (.cells #[.string vm,.int .u8 vk,.int .i64 vn] 83)=W6:=⟨_,rfl⟩
    have qx:=heap_alloc_new wr (.cells #[.string vm,.int .u8 vk,.int .i64 vn] 83);have hx6:=x0' (.cells #[.string vm,.int .u8 vk,.int .i64 vn] 83);have uH:=kI (.cells #[.string vm,.int .u8 vk,.int .i64 vn] 83);have q6:Below wr.heap.size wr W6:=uT▸zkd (Below.refl _ _) _;rw[uT] at qx hx6 uH;have aB:=zh (show ∀ w',Below W6.heap.size W6 w'->(fun w':World=>w'.cell? ⟨w.heap.size,0,none⟩=some (.slice (some a') vs.length c)/\w'.cell? (a'.add j)=some (.slice A' l.length c')/\w'.cell? ⟨wr.heap.size,0,none⟩=some (.string vm)/\w'.cell? ⟨wr.heap.size,1,none⟩=some (.int .u8 vk)/\w'.cell? ⟨wr.heap.size,2,none⟩=some (.int .i64 vn)) w' from fun w' hb=>⟨zb hb hx6,zb hb uH,zc (zkc qx hb) rfl,zc (zkc qx hb) rfl,zc (zkc qx hb) rfl⟩);have bP:=zh (aB.out _ (Below.refl _ _).drew);have HQ6:=zh (zka ae.out q6);have lK:=zh (zkc ax.out q6);clear q6 hx6 uH x0 x0' z0 kI
    have bz:W6.cell? ⟨wr.heap.size,1,none⟩=some (.int .u8 vk):=zc qx rfl;go_upto_region 9 with fail;clear bz
    go_region_held3 (fun w':World=>w'.cell? ⟨w.heap.size,0,none⟩=some (.slice (some a') vs.length c)/\w'.cell? (a'.add j)=some (.slice A' l.length c')/\w'.cell? ⟨wr.heap.size,0,none⟩=some (.string vm)/\w'.cell? ⟨wr.heap.size,1,none⟩=some (.int .u8 vk)/\w'.cell? ⟨wr.heap.size,2,none⟩=some (.int .i64 vn))
     (first|with_reducible exact aN.out|with_reducible exact bP.out)
     (first
      | (go_at_call 87;refine(vZ.out _).mono ?_;rintro e7 y7 ⟨rfl,by7⟩;have b7:=zka (Below.refl W6.heap.size W6).drew by7;have aN:=zh (aB.out _ b7))
      | fail)
    have HQ7:=zh (zka HQ6.out b7);have HX7:=zh (zkc lK.out b7);clear b7 by7 aN bP qx y0 y1 y2 uT;by_cases hf:(l.length:Int)=fx
    ·have HJ2:=zh (gJ.out (by rw[fit1,if_neg jh.out,uj.out];exact decide_eq_true hf));have e5:((l.length:Int)==fx)=true:=by simpa using hf
     have e6:((l.length:Int) != fx)=false:=by simpa using hf
     clear gJ cz hf;go_wp2_with fail
     go_roundw
     case rel=>exact⟨j+1,by omega,by go_num,HQ7.out,HX7.out,HJ2⟩
     case measure=>simp[intOf];omega
    ·have bN:=zh (cz.out (by rw[fit1,if_neg jh.out,uj.out];exact decide_eq_false hf));have e5:((l.length:Int)==fx)=false:=by simpa using hf
     have e6:((l.length:Int) != fx)=true:=by simpa using hf
     clear gJ cz hf;go_wp2_with fail;go_ret;exact⟨by rw[bN.out];rfl,HQ7.out⟩
  ·obtain rfl:j=vs.length:=by omega
   have bN:=zh (show R=true by
    have:=HJ.out;rw[List.take_of_length_le (Nat.le_refl _),List.take_of_length_le (by rw[lX.out];exact Nat.le_refl _)] at this;rw[HX.out];exact this)
   clear hbl hbx;go_wp2_with fail;go_ret;exact⟨by rw[bN.out];rfl,ae.out⟩
def newS (vs:List VD) (s:SS):ST:=⟨⟨vs,List.range vs.length,0⟩,[],fun i=>s.cells.getD i [],vs.length,s.tin,s.tout⟩
def FR.snoc (f:FR) (v:VD) (id:Nat):FR:=⟨f.vs++[v],f.cs++[id],f.loc⟩
theorem zro (vs:List VD) (s:SS) (j:Nat) (hj:j<vs.length) (l:List Int) (hl:s.cells.getD j []=l) :
  ((newS (vs.take j) s).newCell l).setCur ((newS (vs.take j) s).base.snoc vs[j] j)=newS (vs.take (j+1)) s:=by
 have h0:((newS (vs.take j) s).newCell l).calls.length=0:=rfl;have e1:(vs.take j).length=j:=by rw[List.length_take];omega
 have e2:(vs.take (j+1)).length=j+1:=by rw[List.length_take];omega
 have e3:vs.take (j+1)=vs.take j++[vs[j]]:=List.take_succ_eq_append_getElem hj;simp only[ST.setCur,h0,if_true];simp only[newS,ST.newCell,FR.snoc,e1,e3];congr 1
 ·rw[<-e3,e2,List.range_succ]
 ·funext i;by_cases e:i=j
  ·subst e;simp[<-hl]
  ·simp[e]
 ·rw[<-e3,e2]
theorem zoY:∀ {vs:List VD} {ls:List (List Int)} (i:Nat) (h:i<vs.length) (h':i<ls.length),zl9 vs ls=true->fit1 vs[i] ls[i]=true
 | v::vs,l::ls,0,_,_,h=>by simp only[zl9,Bool.and_eq_true] at h;exact h.1
 | v::vs,l::ls,i+1,h,h',h0=>by
  simp only[zl9,Bool.and_eq_true] at h0;exact zoY i (by simpa using h) (by simpa using h') h0.2
theorem zoA {vs:List VD} {s:SS} (h:fitB vs s=true):vs.length<=32/\s.cells.length=vs.length/\s.tin.length<=4096/\s.tout.length<=4096/\∀ i (hi:i<vs.length) (hi':i<s.cells.length),vdB vs[i]=true/\fit1 vs[i] s.cells[i]=true:=by
 simp only[fitB,svB,Bool.and_eq_true,decide_eq_true_eq] at h;obtain⟨⟨⟨⟨⟨h1,h2⟩,h3⟩,h4⟩,h5⟩,h6⟩:=h;exact⟨h1,h3,h4,h5,fun i hi hi'=>⟨List.all_eq_true.1 h2 _ (List.getElem_mem hi),zoY i hi hi' h6⟩⟩
theorem zrp {vs:List VD} {s:SS} (h:fitB vs s=true) (hf:∀ v∈vs,FldV v) (hc:∀ l∈s.cells,∀ x∈l,I64 x) (hi:∀ x∈s.tin,I64 x) (ho:∀ x∈s.tout,I64 x) (j:Nat) (hj:j<=vs.length):(newS (vs.take j) s).WF:=by
 obtain⟨h32,hlen,h1,h2,hall⟩:=zoA h;have e1:(vs.take j).length=j:=by rw[List.length_take];omega
 refine⟨⟨fun i=>((vs.getD i ⟨⟨#[]⟩,0,0⟩).k,(vs.getD i ⟨⟨#[]⟩,0,0⟩).n),⟨by simp[newS],by simp[newS],by simp only[newS,e1];omega,fun v hv=>hf v (List.mem_of_mem_take hv),fun c hc=>by simpa[newS] using hc,fun i hi hi'=>?_⟩,by simp[newS],fun i hi=>?_⟩,by simp[newS],fun i hi=>?_,⟨h1,hi⟩,⟨h2,ho⟩⟩
 ·simp only[newS,e1] at hi hi' ⊢;have:i<vs.length:=by omega
  simp[this]
 ·simp only[newS,e1] at hi ⊢;have hv:i<vs.length:=by omega
  have hv':i<s.cells.length:=by omega
  obtain⟨a1,a2⟩:=hall i hv hv';simp only[List.getD_eq_getElem?_getD,List.getElem?_eq_getElem hv,List.getElem?_eq_getElem hv',Option.getD_some];unfold vdB at a1;unfold fit1 at a2;refine⟨fun hk=>?_,fun hk=>?_,?_⟩
  ·rw[if_neg (by omega)] at a2;have:=of_decide_eq_true a2;simp only[fixE,hk,if_true] at this;omega
  ·rw[if_neg (by omega)] at a2;have:=of_decide_eq_true a2;simp only[fixE,hk] at this;simpa using this
  ·split at a1
   ·next h=>rcases h with h|h<;>simp[h]
   ·split at a1
    ·next h=>simp[h]
    ·cases a1
 ·simp only[newS,e1] at hi ⊢;have hv:i<vs.length:=by omega
  have hv':i<s.cells.length:=by omega
  obtain⟨a1,a2⟩:=hall i hv hv';simp only[List.getD_eq_getElem?_getD,List.getElem?_eq_getElem hv',Option.getD_some];refine⟨?_,hc _ (List.getElem_mem hv')⟩;unfold vdB at a1;unfold fit1 at a2
  split at a2
  ·exact of_decide_eq_true a2
  ·have:=of_decide_eq_true a2;unfold fixE at this
   split at this
   ·omega
   ·next hk hk1 =>
    rw[if_neg (by omega)] at a1
    split at a1
    ·have:=of_decide_eq_true a1;omega
    ·cases a1
theorem zpo {W w2:World} {n0:Nat} {P:Ph} {S:ST} (h:SR W n0 P S) (hb:Below W.heap.size W w2) (v:Value) (l:List Int) (ho:w2.ownsRow W.heap.size 3 1 v l.length (zkf l)) :
  Stp n0 (rows P S) W (rows (P.newCell S w2.heap.size v) (S.newCell l)) (w2.alloc (.cells #[v] 100)):=by
 have hn:n0<=W.heap.size:=by have:=h.rws.lt .sb P.sb rfl;omega
 have hs:=hb.size;have s1:=Stp.take2 (W':=w2.alloc (.cells #[v] 100)) h.rws (zkd hb _) (.cb S.nc) (.ci S.nc) (by simp) ⟨boxV w2.heap.size,100,1,1,[v]⟩ ⟨v,3,1,l.length,zkf l⟩
  (zrk w2 n0 _ [_] (by omega) rfl) (zlK (ho.alloc _) hn) (fun b e=>by simp[Value.ownBlock] at e;omega) (fun b e=>(ho.lt b e).1) (fun b e e2=>by simp[Value.ownBlock] at e;have:=(ho.lt b e2).2;omega)
 exact s1.cast (zoO h.wf P w2.heap.size v l).symm
theorem zsA {W W':World} {n0:Nat} {P:Ph} {S:ST} (v:VD) (id:Nat) (vv vc:Value) (hlen:S.cur.cs.length=S.cur.vs.length)
  (hst:Stp n0 (rows P S) W (updR (updR (updR (rows P S) (vI S) ⟨vv,83,3,S.cur.vs.length+1,zl0 S.cur.vs++[.string v.s,.int .u8 v.k,.int .i64 v.n]⟩) (cI S) ⟨vc,97,1,S.cur.vs.length+1,ptrs P.cb S.cur.cs++[.pointer (some ⟨P.cb id,0,none⟩)]⟩) (hI S) { rows P S (hI S) with xs:=((rows P S (hI S)).xs.set (oI S) vv).set (oI S+1) vc }) W') :
  Stp n0 (rows P S) W (rows (P.setCur S vv vc) (S.setCur (S.cur.snoc v id))) W':=by
 refine hst.cast ?_;rw[zpi];obtain⟨_,_,g3⟩:=zsT P S;have e1:(S.cur.snoc v id).vs.length=S.cur.vs.length+1:=by simp[FR.snoc]
 have e2:(S.cur.snoc v id).cs.length=S.cur.vs.length+1:=by simp[FR.snoc,hlen]
 have e3:zl0 (S.cur.snoc v id).vs=zl0 S.cur.vs++[.string v.s,.int .u8 v.k,.int .i64 v.n]:=zqC _ _;have e4:ptrs P.cb (S.cur.snoc v id).cs=ptrs P.cb S.cur.cs++[.pointer (some ⟨P.cb id,0,none⟩)]:=by simp[FR.snoc,ptrs]
 rw[e1,e2,e3,e4];have e5:(((rows P S (hI S)).xs.set (oI S) vv).set (oI S+1) vc).set (oI S+2) (.int .i64 (S.cur.snoc v id).loc)=((rows P S (hI S)).xs.set (oI S) vv).set (oI S+1) vc:=by
  have hl:oI S+2<(rows P S (hI S)).xs.length:=(List.getElem?_eq_some_iff.1 g3).1;refine List.ext_getElem? fun q=>?_;by_cases e:q=oI S+2
  ·subst e;rw[List.getElem?_set_self (by simpa using hl),List.getElem?_set_ne (by omega),List.getElem?_set_ne (by omega),g3];rfl
  ·rw[List.getElem?_set_ne (by omega)]
 rw[e5]
theorem zqv {W w2 w3:World} {vI vO:Value} {tb:Nat} {s:SS} (hwf:(newS [] s).WF) (hb:Below W.heap.size W w2) (h1:w2.heap[tb]?=some (.cells #[vI,vO] 148 (0,0))) (ht:W.heap.size<=tb)
  (o1:w2.ownsRow W.heap.size 3 1 vI s.tin.length (zkf s.tin)) (o2:w2.ownsRow W.heap.size 3 1 vO s.tout.length (zkf s.tout)) (n1:vI.ownBlock≠some tb) (n2:vO.ownBlock≠some tb) (n3:∀ b,vI.ownBlock=some b->vO.ownBlock≠some b)
  (hw:w3=w2.alloc (.cells #[.slice none 0 0,.slice none 0 0,.int .i64 0,.slice none 0 0,.pointer (some ⟨tb,0,none⟩)] 95)) :
  SR w3 W.heap.size ⟨w2.heap.size,tb,vI,vO,.slice none 0 0,.slice none 0 0,.slice none 0 0,fun _=>.slice none 0 0,fun _=>.slice none 0 0,fun _=>0,fun _=>.slice none 0 0⟩ (newS [] s):=by
 subst hw;have hs:=hb.size;have htb:=zko h1;refine⟨⟨fun i=>?_,?_⟩,hwf⟩
 ·cases i with
  | sb=>exact zrk w2 W.heap.size _ [_,_,_,_,_] hs rfl
  | tb=>exact⟨rfl,.inr ⟨tb,1,#[vI,vO],rfl,ht,zkr h1 _,Nat.le_refl _,by decide,rfl,rfl⟩⟩
  | tin=>exact o1.alloc _
  | tout=>exact o2.alloc _
  | bv=>exact World.ownsRow_nil _ _ _ _
  | bc=>exact World.ownsRow_nil _ _ _ _
  | calls=>exact World.ownsRow_nil _ _ _ _
  | fv i=>exact World.ownsRow_nil _ _ _ _
  | fc i=>exact World.ownsRow_nil _ _ _ _
  | cb i=>simp only[rows,newS,List.length_nil,Nat.not_lt_zero,if_false];exact World.ownsRow_nil _ _ _ _
  | ci i=>simp only[rows,newS,List.length_nil,Nat.not_lt_zero,if_false];exact World.ownsRow_nil _ _ _ _
  | x i=>exact World.ownsRow_nil _ _ _ _
 ·have key:∀ (i:Res) b,(rows ⟨w2.heap.size,tb,vI,vO,.slice none 0 0,.slice none 0 0,.slice none 0 0,fun _=>.slice none 0 0,fun _=>.slice none 0 0,fun _=>0,fun _=>.slice none 0 0⟩ (newS [] s) i).v.ownBlock=some b->(i=.sb/\b=w2.heap.size)\/(i=.tb/\b=tb)\/(i=.tin/\vI.ownBlock=some b)\/(i=.tout/\vO.ownBlock=some b):=fun i b hb=>by
   cases i with
   | sb=>simp[rows,Value.ownBlock] at hb;exact .inl ⟨rfl,hb.symm⟩
   | tb=>simp[rows,Value.ownBlock] at hb;exact .inr (.inl ⟨rfl,hb.symm⟩)
   | tin=>exact .inr (.inr (.inl ⟨rfl,hb⟩))
   | tout=>exact .inr (.inr (.inr ⟨rfl,hb⟩))
   | bv=>simp[rows,Value.ownBlock] at hb
   | bc=>simp[rows,Value.ownBlock] at hb
   | calls=>simp[rows,Value.ownBlock] at hb
   | fv i=>simp[rows,newS,nilR,Value.ownBlock] at hb
   | fc i=>simp[rows,newS,nilR,Value.ownBlock] at hb
   | cb i=>simp[rows,newS,nilR,Value.ownBlock] at hb
   | ci i=>simp[rows,newS,nilR,Value.ownBlock] at hb
   | x i=>simp[rows,nilR,Value.ownBlock] at hb
  intro i j b hij h1 h2;have l1:=fun b (e:vI.ownBlock=some b)=>(o1.lt b e).2;have l2:=fun b (e:vO.ownBlock=some b)=>(o2.lt b e).2;rcases key i b h1 with⟨e1,a1⟩|⟨e1,a1⟩|⟨e1,a1⟩|⟨e1,a1⟩<;>rcases key j b h2 with⟨e2,a2⟩|⟨e2,a2⟩|⟨e2,a2⟩|⟨e2,a2⟩
  ·exact hij (e1.trans e2.symm)
  ·omega
  ·have:=l1 b a2;omega
  ·have:=l2 b a2;omega
  ·omega
  ·exact hij (e1.trans e2.symm)
  ·subst a1;exact n1 a2
  ·subst a1;exact n2 a2
  ·have:=l1 b a1;omega
  ·subst a2;exact n1 a1
  ·exact hij (e1.trans e2.symm)
  ·exact n3 b a1 a2
  ·have:=l2 b a1;omega
  ·subst a2;exact n2 a1
  ·exact n3 b a2 a1
  ·exact hij (e1.trans e2.symm)
theorem Rws.mono {I:Type} {W:World} {n0 n1:Nat} {d:I->RowD} (h:Rws W n1 d) (hn:n0<=n1):Rws W n0 d:=⟨fun i=>zlK (h.row i) hn,h.sep⟩
theorem SR.mono {W:World} {n0 n1:Nat} {P:Ph} {S:ST} (h:SR W n1 P S) (hn:n0<=n1):SR W n0 P S:=⟨h.rws.mono hn,h.wf⟩
theorem zuC {vs:List VD} {s:SS} {j:Nat} {hj:j<vs.length} {l:List Int} {hl:s.cells.getD j []=l} {W:World} {n1:Nat} {P:Ph} (h:Rws W n1 (rows P ((newS (vs.take j) s).newCell l))) (hm:j<=1000) (sb b:Nat) (hsb:P.sb=sb) (hb:P.cb j=b) (v:VD) (hv:vs[j]=v) :
  Calls Tryz.prog 48 [.pointer (some ⟨sb,0,none⟩),.agg #[.string v.s,.int .u8 v.k,.int .i64 v.n],.pointer (some ⟨b,0,none⟩)].toArray W fun e W'=>∃ u,e=.returned u/\∃ P',Stp n1 (rows P ((newS (vs.take j) s).newCell l)) W (rows P' (newS (vs.take (j+1)) s)) W'/\P'.sb=sb:=by
 subst hsb hb hv;have e1:(vs.take j).length=j:=by rw[List.length_take];omega
 have hadd:=zuD h .sb .bv .bc (by simp) (by simp) (by simp) P.sb 0 rfl rfl rfl (zl0 (vs.take j)) (ptrs P.cb (List.range j)) j (by simp[rows,newS,ST.newCell,e1]) (by simp[rows,newS,ST.newCell,e1]) (by omega) vs[j] (some ⟨P.cb j,0,none⟩);refine hadd.mono ?_;rintro e W' ⟨⟨u,hu⟩,vv,vc,hst⟩;refine⟨u,hu,P.setCur ((newS (vs.take j) s).newCell l) vv vc,?_,?_⟩
 ·have:=zsA (P:=P) (S:=(newS (vs.take j) s).newCell l) (W:=W) (W':=W') (n0:=n1) vs[j] j vv vc (by simp[ST.cur,newS,ST.newCell]) (by
   have e2:((newS (vs.take j) s).newCell l).cur.vs.length=j:=e1;have e3:((newS (vs.take j) s).newCell l).cur.cs=List.range j:=by show List.range (vs.take j).length=_;rw[e1]
   rw[e2,e3];exact hst)
  rw[show((newS (vs.take j) s).newCell l).setCur (((newS (vs.take j) s).newCell l).cur.snoc vs[j] j)=newS (vs.take (j+1)) s from zro vs s j hj l hl] at this;exact this
 ·unfold Ph.setCur;split<;>rfl
theorem zml:IsFn Tryz.prog 49 Tryz.f49:=⟨Tryz.func49,by kernel_rfl,by kernel_rfl⟩
theorem zuw (p:Option Addr) (w:World):(Instr.build 95 #[(2,.pointer p)]).run Tryz.prog w=.ok (.agg #[.slice none 0 0,.slice none 0 0,.int .i64 0,.slice none 0 0,.pointer p]) w:=by kernel_rfl
theorem zuA (A:Option Addr) (l c:Nat) (w:World):(Instr.build 100 #[(0,.slice A l c)]).run Tryz.prog w=.ok (.agg #[.slice A l c]) w:=by kernel_rfl
def NewP (vs:List VD) (s:SS) (w:World) (e:Ending) (w':World):Prop:=Below w.heap.size w w' /\
 ((fitB vs s=false/\e=.returned (.tuple #[.pointer none,.int .i64 3]))\/(fitB vs s=true/\∃ P:Ph,e=.returned (.tuple #[.pointer (some ⟨P.sb,0,none⟩),.int .i64 0])/\SR w' w.heap.size P (newS vs s)))
theorem zr2 (vs:List VD) (s:SS) (A:Option Addr) (c:Nat) (v:Value) (w:World) (hrow:RowV w Any A vs) (hl:vs.length<=LV) (hv:SV w Any s v):Calls Tryz.prog 16 #[.slice A vs.length c,v] w (NewP vs s w):=by
 have ji:=zh (fun w' (hb:Below w.heap.size w w')=>ztx vs s A c v w' (hrow.later hb) hl (hv.later hb));obtain⟨AC,cC,AI,vg,AO,cO,rfl,hr1,hr2,hr3,hc1,hc2,hc3,hl1,hl2,hl3,hl4⟩:=hv;have hl':=zli hl;have HF:=zh (show ∀ u∈vs,FldV u from fun u hu=>by
  obtain⟨q,hq,rfl⟩:=List.mem_iff_getElem.1 hu;obtain⟨_,_,_,_,uN⟩:=hrow q hq;exact uN)
 have HCF:=zh (show ∀ l∈s.cells,∀ x∈l,I64 x from fun l hl=>by
  obtain⟨q,hq,rfl⟩:=List.mem_iff_getElem.1 hl;obtain⟨_,_,_,_,_,_,_,hr⟩:=hr1 q hq;exact hr.fits)
 have HIF:=zh hr2.fits;have rU:=zh hr3.fits;have ag:=zh hrow;have HR1:=zh hr1;have HR2:=zh hr2;have HR3:=zh hr3;have HL2:=zh hl2;obtain⟨R,hR⟩:∃ R,fitB vs s=R:=⟨_,rfl⟩
 have HR:=zh hR;rw[hR] at ji;obtain⟨n1,hn1⟩:∃ n,s.cells.length=n:=⟨_,rfl⟩
 obtain⟨n2,hn2⟩:∃ n,s.tin.length=n:=⟨_,rfl⟩
 obtain⟨n3,kY⟩:∃ n,s.tout.length=n:=⟨_,rfl⟩
 have lX:=zh hn1;have aK:=zh hn2;have bK:=zh kY;rw[hn1,hn2,kY] at ji;rw[hn1,hn2,kY];clear hrow hr1 hr2 hr3 hc1 hc2 hc3 hl1 hl2 hl3 hl4 hl hR hn1 hn2 kY;go_enter Tryz.func16,Tryz.ntmps16;go_wp2_with fail;refine(ji.out _ (zkd (Below.refl _ _) _)).mono ?_;rintro e9 w1 ⟨rfl,aa⟩;have HB1:=zh (zka (zkd (Below.refl w.heap.size w) _) aa);have hP:=zkc (heap_alloc_new w (.cells #[.slice AC n1 cC,.slice AI n2 vg,.slice AO n3 cO] 26)) aa;clear aa
 cases R
 ·go_wp2_with fail;go_ret2;exact⟨HB1.out,.inl ⟨HR.out,rfl⟩⟩
 ·obtain⟨h32,hlen,h4i,h4o,hall⟩:=zoA HR.out;have dN:=zh hall;have HLEN:=zh hlen;have HTN:=zh (ztn s.tin s.tout AI AO vg cO w1 (HR2.out.later HB1.out) (HR3.out.later HB1.out) h4i h4o);rw[aK.out,bK.out] at HTN;have x1:w1.cell? ⟨w.heap.size,1,none⟩=some (.slice AI n2 vg):=zc hP rfl;have x2:w1.cell? ⟨w.heap.size,2,none⟩=some (.slice AO n3 cO):=zc hP rfl;have HP0:=zh hP;have hbst:=zuw;clear hlen h4i h4o hall hP;go_wp2_with fail;refine HTN.out.mono ?_;rintro e9 w2 ⟨tb,vI,vO,rfl,ht,h1,o1,o2,t1,t2,t3,aj⟩;rw[<-aK.out] at o1;rw[<-bK.out] at o2;have iq:=zh (zqv (zrp HR.out HF.out HCF.out HIF.out rU.out 0 (Nat.zero_le _)) aj h1 ht o1 o2 t1 t2 t3 rfl);have HB2:=zh aj;clear ht h1 o1 o2 t1 t2 t3 aj x1 x2;go_wp2_with fail
  go_loopw [30] (fun i wr=>∃ j:Nat,j<=vs.length/\i=.int .i64 j/\Hid (Below w1.heap.size w1 wr)/\∃ P:Ph,Hid (SR wr w1.heap.size P (newS (vs.take j) s))/\Hid (P.sb=w2.heap.size)) (fun i _=>vs.length-(intOf i).toNat)
  case atStart=>exact⟨0,Nat.zero_le _,rfl,zh (zkd HB2.out _),_,iq,zh rfl⟩
  case round =>
   obtain⟨j,hj,rfl,ae,P,HS,iK⟩:=hrel;by_cases hlt:j<vs.length
   ·have hlc:j<s.cells.length:=by rw[HLEN.out];exact hlt
    obtain⟨a,rfl,-,⟨y0,y1,y2⟩,-⟩:=((ag.out.later HB1.out).later ae.out) j hlt;obtain⟨b,l,A',c',rfl,Hl,x0,-,aL⟩:=((HR1.out.later HB1.out).later ae.out).nd hlc;have fI:=zh (show b.block<w.heap.size by
     obtain⟨a',_,_,hA,_,hcw,_⟩:=HR1.out j hlc;injection hA with hA;have:=World.block_lt_of_cell? w _ hcw;rw[zkn,<-hA] at this;exact this)
    obtain⟨v,hv⟩:∃ v,vs[j]=v:=⟨_,rfl⟩
    rw[hv] at y0 y1 y2;have Hv:=zh hv;have hll:l.length<=LI:=by rw[<-Hl.out];exact HL2.out _ (List.getElem_mem hlc)
    have Hgd:=zh (show s.cells.getD j []=l by rw[<-Hl.out];simp[hlc]);obtain⟨vm,vk,vn⟩:=v;dsimp only at y0 y1 y2;have hj1:(j:Int)<(vs.length:Int):=by omega
    have hj2:(j:Int)<(n1:Int):=by have:=lX.out;have:=HLEN.out;omega
    have eH:=zh aL;have z0:wr.cell? ⟨w.heap.size,0,none⟩=some (.slice (some b) n1 cC):=zb ae.out (zc HP0.out rfl);have hbx:=zuA;clear aL hv;go_upto_region 10 with fail;obtain⟨wa,nC⟩:∃ wa,wr.alloc (.cells #[.string vm,.int .u8 vk,.int .i64 vn] 83)=wa:=⟨_,rfl⟩
    have eF:Below wr.heap.size wr wa:=nC▸zkd (Below.refl _ _) _;have hvb:wa.heap[wr.heap.size]?=some (.cells #[.string vm,.int .u8 vk,.int .i64 vn] 83 (0,0)):=nC▸heap_alloc_new wr _;rw[nC];have q0:wa.cell? ⟨wr.heap.size,0,none⟩=some (.string vm):=zc hvb rfl;have q1:wa.cell? ⟨wr.heap.size,1,none⟩=some (.int .u8 vk):=zc hvb rfl;have q2:wa.cell? ⟨wr.heap.size,2,none⟩=some (.int .i64 vn):=zc hvb rfl;have q3:=zb eF z0;have q4:=zb eF x0;have jl:=zh eF;clear nC eF hvb y0 y1 y2 x0 z0;obtain⟨S1,hS1⟩:∃ S1:World->Prop,S1=fun w':World=>w'.cell? ⟨wr.heap.size,0,none⟩=some (.string vm)/\w'.cell? ⟨wr.heap.size,1,none⟩=some (.int .u8 vk)/\w'.cell? ⟨wr.heap.size,2,none⟩=some (.int .i64 vn)/\w'.cell? ⟨w.heap.size,0,none⟩=some (.slice (some b) n1 cC)/\w'.cell? (b.add j)=some (.slice A' l.length c'):=⟨_,rfl⟩
    have HSa:=zh (show S1 wa by rw[hS1];exact⟨q0,q1,q2,q3,q4⟩);have HSk:=zh (show ∀ W W',S1 W->(∀ p u,W.cell? p=some u->(p.block=wr.heap.size\/p.block=w.heap.size\/p.block=b.block)->W'.cell? p=some u)->S1 W' by
     rw[hS1];rintro W W' ⟨a0,a1,a2,a3,a4⟩ hk;exact⟨hk _ _ a0 (.inl rfl),hk _ _ a1 (.inl rfl),hk _ _ a2 (.inl rfl),hk _ _ a3 (.inr (.inl rfl)),hk _ _ a4 (.inr (.inr (zkn b j)))⟩)
    have qE:=zh (show ∀ W W',S1 W->Below W.heap.size W W'->S1 W' from fun W W' h hb=>HSk.out W W' h fun p u hp _=>zb hb hp);have hSS:S1 wa.drew/\(fun _:World=>True) wa.drew:=⟨qE.out _ _ HSa.out (Below.refl _ _).drew,trivial⟩
    refine wp_region_noPanic ?_;refine zke S1 (fun _:World=>True) 12 (by kernel_rfl) ?_;subst hS1;refine zT 0 hSS ?_;(try simp only[zQ]);refine zT 1 hSS ?_;(try simp only[zQ]);refine zT 2 hSS ?_;(try simp only[zQ]);refine zT 3 hSS ?_;(try simp only[zQ]);refine zT 4 hSS ?_;(try simp only[zQ]);refine zT 5 hSS ?_;(try simp only[zQ]);refine zT 6 hSS ?_;(try simp only[zQ]);refine zT 7 hSS ?_;(try simp only[zQ]);refine zT 8 hSS ?_;(try simp only[zQ]);have had:Calls Tryz.prog 49 [.slice A' l.length c'].toArray wa.drew fun e w'=>∃ u,e=.returned u/\w'.ownsRow wa.drew.heap.size 3 1 u l.length (zkf l)/\Below wa.drew.heap.size wa.drew w' :=
     (zkC l A' c' Any wa.drew ((eH.out.later jl.out).later (Below.refl _ _).drew) hll).mono fun e w' ⟨u,hu,h1,_,h2⟩=>⟨u,hu,h1,h2⟩
    refine zo 9 fun K hK=>?_;refine zkg (by rfl) (.func 49) [.tmp 43] _ (by rfl) 49 _ zml (by rfl) _ (by rfl) _ had ?_;rintro v4 w4 ⟨gP,hb4⟩;obtain⟨A4,c4,rfl,-,-⟩:=zkb gP;have lW:=zh gP;have az:=zh hb4;have iL:=zh (qE.out _ _ hSS.1 hb4);refine hK.out _ _ ⟨iL.out,trivial⟩ ?_;clear hK K hSS had gP hb4 q0 q1 q2 q3 q4;(try simp only[zQ]);refine zo 10 fun K hK=>?_;(try simp only[zA,zB,zC]);go_simp;refine hK.out _ _ ⟨iL.out,trivial⟩ ?_;clear hK K;(try simp only[zQ]);refine zo 11 fun K hK=>?_;(try simp only[zA,zB,zC]);go_simp;have qG:=zh (qE.out _ _ iL.out (zkd (Below.refl _ _) (.cells #[.slice A4 l.length c4] 100)));refine hK.out _ _ ⟨qG.out,trivial⟩ ?_;clear hK K;(try simp only[zQ]);have e1:(vs.take j).length=j:=by rw[List.length_take];omega
    have s1:=zpo ((HS.out.later jl.out).later (Below.refl _ _).drew) az.out (.slice A4 l.length c4) l lW.out;have had:=zuC (hj:=hlt) (hl:=Hgd.out) s1.rws (by omega) w2.heap.size w4.heap.size iK.out (by simp[Ph.newCell,newS,e1]) ⟨vm,vk,vn⟩ Hv.out;dsimp only at had;refine zp 12 fun K hK=>?_;refine zkg (by rfl) (.func 48) [.tmp 37,.tmp 38,.tmp 46] _ (by rfl) 48 _ zvy (by rfl) _ (by rfl) _ had ?_;rintro v6 w6 ⟨P',hst,hsb'⟩;have hza:wr.heap.size<wa.drew.heap.size:=World.block_lt_of_cell? _ _ HSa.out.1;have sM:w.heap.size<w1.heap.size:=zko HP0.out;have hBl:=ae.out.size;have hown:∀ b',OwnB (rows (P.newCell (newS (vs.take j) s) w4.heap.size (.slice A4 l.length c4)) ((newS (vs.take j) s).newCell l)) b'->w1.heap.size<=b'/\b'≠wr.heap.size:=fun b' hb'=>by
     rcases s1.own b' hb' with⟨q,hq⟩|hq
     ·have:=HS.out.rws.lt q b' hq;omega
     ·omega
    have mD:=HSk.out _ _ qG.out fun p u hp hpb=>zld hst.chg hp fun hb'=>by
     have h1:=hown _ hb';have h2:=fI.out;rcases hpb with e|e|e<;>rw[e] at h1<;>omega
    refine hK.out _ _ mD ?_;have HST:=zh (show SR w6 w1.heap.size P' (newS (vs.take (j+1)) s) from ⟨hst.rws,zrp HR.out HF.out HCF.out HIF.out rU.out (j+1) hlt⟩);have dD:=zh (show Below w1.heap.size w1 w6 by
     have b4:Below w1.heap.size w1 w4:=zka (zka ae.out jl.out).drew az.out;have b5:Below w1.heap.size w1 (w4.alloc (.cells #[.slice A4 l.length c4] 100)):=zkd b4 _;exact b5.trans (hst.chg.below b5.size fun b' hb'=>(hown b' hb').1))
    have HSB':=zh hsb';clear hK K hst had s1 hown hsb' mD;(try simp only[zQ]);refine zd ?_;refine NoPanic.normal ?_;go_wp2_with fail
    go_roundw
    case rel=>exact⟨j+1,by omega,by go_num,dD,P',HST,HSB'⟩
    case measure=>simp[intOf];omega
   ·obtain rfl:j=vs.length:=by omega
    have hj1:¬ (vs.length:Int)<(vs.length:Int):=by omega
    go_wp2_with fail;go_ret2;refine⟨HB1.out.trans (ae.out.mono ?_),.inr ⟨HR.out,P,by rw[iK.out];rfl,?_⟩⟩
    ·have:=HB1.out.size;omega
    ·have h1:=HS.out;rw[List.take_of_length_le (Nat.le_refl _)] at h1;exact h1.mono HB1.out.size
end Go.Proofs.YtckhofdinldhpaaGreat
