/-
  Texts of the proof, put together without their remarks: Rx2, Rx3, Rx4, Rx5, Rx6, Rx7, Rcp, Rx8.
-/
import Derived.Test.YtmbbaccjcekhkaaGreatF8
set_option linter.unusedSimpArgs false
set_option linter.unusedVariables false
set_option maxHeartbeats 8000000
set_option maxRecDepth 100000
namespace Go.Proofs.YtmbbaccjcekhkaaGreat
open Go Go.RowKit
section
variable {K:RK} {P:RP} {W W0 W1 W2:World} {r:RS} {er bD iR:Int}
theorem RF.celC (h:RF K P W r er) {id:Nat} (hid:id<r.S.nc):∃ A c,P.ci id=.slice A (r.S.cell id).length c/\(r.S.cell id).length<=c/\W.cell? ⟨P.cb id,0,none⟩=some (.slice A (r.S.cell id).length c) /\
  ∀ i,i<(r.S.cell id).length->∃ g,A=some ⟨g,0,none⟩/\W.cell? ⟨g,i,none⟩=some (.int .i64 (r.S.el id i)):=by
 have h1:=h.rws.row (.row id);have e1:zkg K P r er (.row id)=⟨P.ci id,3,1,(r.S.cell id).length,zke (r.S.cell id)⟩:=if_pos hid;have e2:zkg K P r er (.cel id)=⟨boxV (P.cb id),94,1,1,[P.ci id]⟩:=if_pos hid;rw[e1] at h1;obtain⟨A,c,hv,hc,-⟩:=zkh h1;have hv:P.ci id=.slice A (r.S.cell id).length c:=hv;refine⟨A,c,hv,hc,?_,fun i hi=>?_⟩
 ·have:=h.rws.cell (.cel id) (g:=P.cb id) (u:=P.ci id) (by rw[e2];rfl) (o:=0) (by rw[e2];rfl);rw[this,hv]
 ·rcases h1.2 with⟨_,h0⟩|⟨g,cap,cur,hv2,_⟩
  ·have h0:(r.S.cell id).length=0:=h0;omega
  ·have hv2:P.ci id=.slice (some ⟨g,0,none⟩) (r.S.cell id).length cap:=hv2;rw[hv] at hv2;injection hv2 with e3;refine⟨g,e3,?_⟩;refine h.rws.cell (.row id) (g:=g) (by rw[e1];show(P.ci id).ownBlock=some g;rw[hv,e3];rfl) (o:=i) ?_;rw[e1];simp[zke,ST.el,List.getD_eq_getElem?_getD,hi]
theorem zla.trans (h:zla K P W r er bD W1) (h':zla K P W1 r bD iR W2):zla K P W r er iR W2:=⟨h'.1,h.2.trans h'.2⟩
theorem zla.refl (h:RF K P W r er):zla K P W r er er W:=⟨h,Stp.refl h.rws⟩
theorem zla.first (h:RF K P W r er) (hb:Below W.heap.size W W0) (h':zla K P W0 r er bD W1):zla K P W r er bD W1:=⟨h'.1,(Stp.below (Stp.refl h.rws) hb).trans h'.2⟩
theorem zla.last (h:zla K P W r er bD W1) (hb:Below W1.heap.size W1 W2):zla K P W r er bD W2:=⟨h.1.later hb,h.2.below hb⟩
theorem zla.kp (h:RF K P W r er) (hb:Below W.heap.size W W0) (h':zla K P W0 r er bD W1) {b:Nat} {o:Obj} (hW:W0.heap[b]?=some o) (hlt:W.heap.size<=b):W1.heap[b]?=some o :=
 h'.2.chg.keep hW fun⟨i,hi⟩=>by have:=(h.rws.lt i b hi).2;omega
def RvP (K:RK) (P:RP) (W:World) (r:RS) (er:Int) (R:Int×Int) (en:Ending) (W':World):Prop :=
 ∃ x er',en=.returned (.int .i64 x)/\zla K P W r er er' W'/\(er≠0->er'=er)/\(er=0->er'=R.2/\(er'=0->x=R.1))
theorem RvP.ok {R:Int×Int} (h:zla K P W r 0 0 W1) (hR:R.2=0):RvP K P W r 0 R (.returned (.int .i64 R.1)) W1:=⟨_,0,rfl,h,fun h=>absurd rfl h,fun _=>⟨hR.symm,fun _=>rfl⟩⟩
theorem RvP.err {R:Int×Int} {e x:Int} (h:zla K P W r 0 e W1) (hR:R.2=e) (h0:e≠0):RvP K P W r 0 R (.returned (.int .i64 x)) W1:=⟨_,e,rfl,h,fun h=>absurd rfl h,fun _=>⟨hR.symm,fun h=>absurd h h0⟩⟩
end
theorem zxp (look:ByteArray->Option (List Int)) (k n:Int) (s:ByteArray) (ks:List T):evE look (.nd k n s ks)=evK look k n s (ks.map (evE look)):=by rw[evE,zmA]
theorem zve (k x y:Int) (hk:8<=k/\k<=23):(apE k x y).2=0\/(apE k x y).2=11:=by
 have hc:k=8\/k=9\/k=10\/k=11\/k=12\/k=13\/k=14\/k=15\/k=16\/k=17\/k=18\/k=19\/k=20\/k=21\/k=22\/k=23:=by omega
 clear hk;by_cases hy:y=0<;>rcases hc with rfl|rfl|rfl|rfl|rfl|rfl|rfl|rfl|rfl|rfl|rfl|rfl|rfl|rfl|rfl|rfl<;>simp[apE,divE,hy]
theorem znu {K:RK} (hK:K.Ok):∀ (t:T) (P:RP) (W:World) (r:RS) (er:Int) (v:Value),RF K P W r er->EP r.S.cur.vs t->NV K.w Any t v->Calls Tryz.prog 68 #[.pointer (some ⟨P.rb,0,none⟩),v] W (RvP K P W r er (evE r.S.look t)):=by
 intro t
 induction t using T.ind with
 | _ k n s ks ih =>
  intro P W r er v h ko hv;have HV:=zh hv;obtain⟨A,c,rfl,-⟩:=hv.open_;simp only[T.k_nd,T.n_nd,T.s_nd,T.ks_nd] at HV ⊢;have hrow:∀ W',Below K.w.heap.size K.w W'->zl3 W' Any A ks:=fun W' hb=>by
   obtain⟨A',c',e,-,-,-,hr⟩:=HV.out.open_;injection e with e;simp only[Array.mk.injEq,List.cons.injEq,and_true] at e;injection e.2.2.2 with e1;subst e1;exact hr.later hb
  have ah:=zh hrow;obtain⟨L,hL⟩:∃ L,ks.length=L:=⟨_,rfl⟩
  rw[hL];have HL:=zh hL;clear hL;have hbx:=heap_alloc_new W (.cells #[.int .u8 k,.int .i64 n,.string s,.slice A L c] 26);have hb0:=zkc (Below.refl W.heap.size W) (.cells #[.int .u8 k,.int .i64 n,.string s,.slice A L c] 26);obtain⟨W0,hW0⟩:∃ x,W.alloc (.cells #[.int .u8 k,.int .i64 n,.string s,.slice A L c] 26)=x:=⟨_,rfl⟩
  obtain⟨nb,hnb⟩:∃ x,W.heap.size=x:=⟨_,rfl⟩
  rw[hW0] at hbx hb0;have hh0:=h.later hb0;obtain⟨y14,-⟩:=hh0.errC;have HH:=zh h;have HH0:=zh hh0;have HB0:=zh hb0;have Bi:=zh ko;rw[hnb] at hbx;have ax:=zh hbx;have fG:=zh hnb;obtain⟨x0,x1,x2,x3⟩:=box4 hbx;obtain⟨rb,hrb⟩:∃ b,P.rb=b:=⟨_,rfl⟩
  have ag:=zh hrb;rw[hrb] at y14 ⊢;obtain⟨R,hR⟩:∃ R,evE r.S.look (.nd k n s ks)=R:=⟨_,rfl⟩
  rw[hR];rw[zxp] at hR;have HR:=zh hR;obtain⟨hown,hfs⟩:=zlk ko.f;have hsh:=zmW ko.e;have pV:=zla.first h hb0 (zla.refl hh0)
  have oD:=zh pV;clear h hh0 hb0 ko hbx hrb hR hv hrow pV;by_cases he0:er=0;rotate_left 1
  ·have e1:(er==0)=false:=by simpa using he0
   have e2:(er != 0)=true:=by simpa using he0
   have qI:=zh he0;clear he0 hsh hown hfs ih;go_enter Tryz.func68,Tryz.ntmps68;go_wp2_with fail;go_ret;exact⟨0,er,rfl,oD.out,fun _=>rfl,fun h=>absurd h qI.out⟩
  subst he0;have HOWN:=zh hown;have pG:=zh hfs;clear hown hfs;rcases hsh with⟨rfl,rfl⟩|⟨hk,rfl⟩|⟨rfl,t,rfl,ht⟩|⟨hk,t,rfl,ht⟩|⟨hk,t,u,rfl,ht,hu⟩
  ·obtain rfl:R=(n,0):=HR.out.symm;obtain rfl:L=0:=HL.out.symm;clear ih;go_enter Tryz.func68,Tryz.ntmps68;go_wp2_with fail;go_ret;exact RvP.ok oD.out rfl
  ·obtain rfl:L=0:=HL.out.symm;obtain⟨v0,hv0,hvk⟩:=zk6 HOWN.out (by rcases hk with rfl|rfl|rfl<;>decide);have qz:=zh hv0;have wO:=zh hvk;clear ih hv0 hvk;have hfind:=zmu HH0.out qz.out;rw[ag.out] at hfind;have iN:=zh hfind;clear hfind;rcases hk with rfl|rfl|rfl
   ·skip
    go_enter Tryz.func68,Tryz.ntmps68;go_wp2_with fail;refine iN.out.mono ?_;rintro kr w1 ⟨⟨id,hid,hck,rfl⟩,rfl⟩;have hlt:=zmg HH0.out.inv.wf hid;obtain⟨B,cb,-,-,hcc,hel⟩:=HH0.out.celC hlt;have hl1:(r.S.cell id).length=1:=by
     obtain⟨j,v1,h1,h2,h3⟩:=hck;obtain⟨kd,hw1,hw2⟩:=HH0.out.inv.wf.cur2;have hj:=(List.getElem?_eq_some_iff.1 h1)
     have hj2:=(List.getElem?_eq_some_iff.1 h2)
     refine(hw2 id hlt).1 ?_;have h4:=hw1.kind j hj.1 hj2.1;rw[hj2.2,hj.2] at h4;rw[h4];exact h3.trans wO.out
    obtain⟨g,rfl,hc0⟩:=hel 0 (by omega);obtain⟨y,hy⟩:∃ y,r.S.el id 0=y:=⟨_,rfl⟩
    have iI:=zh (show R=(y,0) by
     rw[<-HR.out]
     show evK r.S.look 2 n s []=(y,0)
     unfold evK varE;rw[if_neg (by decide),if_pos (by decide)];have:r.S.look s=some (r.S.cell id):=by unfold ST.look;rw[hid];rfl
     rw[this,<-hy];simp[hl1,ST.el])
    rw[hl1] at hcc;rw[hy] at hc0;clear hid hck hlt hel hl1 hy;go_wp2_with fail;go_ret;obtain rfl:=iI.out;exact RvP.ok oD.out rfl
   ·skip
    go_enter Tryz.func68,Tryz.ntmps68;go_wp2_with fail;refine iN.out.mono ?_;rintro kr w1 ⟨⟨id,hid,hck,rfl⟩,rfl⟩;have hlt:=zmg HH0.out.inv.wf hid;have hlm:=(HH0.out.inv.wf.cells id hlt).1;obtain⟨B,cb,-,-,hcc,hel⟩:=HH0.out.celC hlt;have bX:r.S.look s=some (r.S.cell id):=by unfold ST.look;rw[hid];rfl
    by_cases hl0:(r.S.cell id).length=0
    ·have iI:=zh (show R=(0,13) by
      rw[<-HR.out]
      show evK r.S.look 4 n s []=(0,13)
      unfold evK varE;rw[if_neg (by decide),if_pos (by decide),bX];simp[hl0])
     rw[hl0] at hcc;have hfl:=zkR hK HH0.out 13;rw[ag.out,if_pos rfl] at hfl;have aR:=zh hfl;clear hid hck hlt hel hl0 bX hfl hlm;go_wp2_with fail;refine aR.out.mono ?_;rintro mq w2 ⟨⟨u,rfl⟩,hf⟩;have HF:=zh (zla.first HH.out HB0.out hf);clear hf hcc;go_wp2_with fail;go_ret;obtain rfl:=iI.out;exact RvP.err HF.out rfl (by decide)
    ·obtain⟨m,hm⟩:∃ m,(r.S.cell id).length=m+1:=⟨(r.S.cell id).length-1,by omega⟩
     obtain⟨g,rfl,hc0⟩:=hel m (by omega);obtain⟨y,hy⟩:∃ y,r.S.el id m=y:=⟨_,rfl⟩
     have iI:=zh (show R=(y,0) by
      rw[<-HR.out]
      show evK r.S.look 4 n s []=(y,0)
      unfold evK varE;rw[if_neg (by decide),if_pos (by decide),bX,<-hy];simp[hm,ST.el])
     rw[hy] at hc0;obtain⟨l,hl⟩:∃ l,(r.S.cell id).length=l:=⟨_,rfl⟩
     rw[hl] at hcc hm hlm;have e1:((l:Int)==0)=false:=by simp;omega
     have hw:IntKind.i64.wrap ((l:Int)-1)=(m:Int):=by
      rw[show(l:Int)-1=(m:Int) by omega];exact IntWalk.i64_in _ (by omega)
     have hm0:(0:Int)<=(m:Int):=by omega
     have hm1:(m:Int)<(l:Int):=by omega
     have hm2:m<l:=by omega
     have HS:=zh (show(fun w':World=>w'.cell? ⟨P.cb id,0,none⟩=some (.slice (some ⟨g,0,none⟩) l cb)/\w'.cell? ⟨g,m,none⟩=some (.int .i64 y)) w1.drew from ⟨hcc,hc0⟩);have dR:=zh (oD.out.last (Below.refl _ _).drew);clear hid hck hlt hel hl0 hl bX hlm hm hy;go_upto_region 22 with fail
     go_region_held3 (fun w':World=>w'.cell? ⟨P.cb id,0,none⟩=some (.slice (some ⟨g,0,none⟩) l cb)/\w'.cell? ⟨g,m,none⟩=some (.int .i64 y))
      (with_reducible exact HS.out)
      (first|fail)
     go_wp2_with fail;go_ret;obtain rfl:=iI.out;exact RvP.ok dR.out rfl
   ·skip
    go_enter Tryz.func68,Tryz.ntmps68;go_wp2_with fail;refine iN.out.mono ?_;rintro kr w1 ⟨⟨id,hid,hck,rfl⟩,rfl⟩;have hlt:=zmg HH0.out.inv.wf hid;obtain⟨B,cb,-,-,hcc,hel⟩:=HH0.out.celC hlt;obtain⟨l,hl⟩:∃ l,(r.S.cell id).length=l:=⟨_,rfl⟩
    have iI:=zh (show R=((l:Int),0) by
     rw[<-HR.out]
     show evK r.S.look 5 n s []=((l:Int),0)
     unfold evK varE;have:r.S.look s=some (r.S.cell id):=by unfold ST.look;rw[hid];rfl
     rw[if_neg (by decide),if_pos (by decide),this,<-hl];simp)
    rw[hl] at hcc;clear hid hck hlt hel hl;go_wp2_with fail;go_ret;obtain rfl:=iI.out;exact RvP.ok oD.out rfl
  ·obtain rfl:L=1:=HL.out.symm;obtain⟨v0,hv0,hvk⟩:=zk6 HOWN.out (by decide);have qz:=zh hv0;have jf:EP r.S.cur.vs t:=⟨ht,zk4 pG.out t (by simp)⟩
   obtain⟨a,t0,A2,c2,rfl,_,Ht,hnd,hn0⟩:=(ah.out K.w (Below.refl _ _)).nd (i:=0) (by simp);obtain⟨y0,y1,y2,y3⟩:=zkE HH0.out.bl hnd;simp only[Nat.zero_mul,Addr.add_zero'] at y0 y1 y2 y3;have ht0:t0=t:=Ht.out.symm;subst ht0;have hih:=ih t0 (by simp) P W0 r 0 _ HH0.out jf hn0;rw[ag.out] at hih;have iM:=zh hih;obtain⟨R1,eG⟩:∃ R1,evE r.S.look t0=R1:=⟨_,rfl⟩
   have bZ:=zh (show R=varE r.S.look 3 s R1 by rw[<-HR.out,<-eG];rfl);rw[eG] at iM;clear ih hv0 hvk jf hnd hn0 Ht hih eG HR;go_enter Tryz.func68,Tryz.ntmps68;go_wp2_with fail;refine iM.out.mono ?_;rintro kr w1 ⟨xv,bD,rfl,hf1,-,hx⟩;obtain⟨hx1,hx2⟩:=hx rfl;have aO:=zla.kp HH.out HB0.out hf1 ax.out (by have:=fG.out;omega);obtain⟨x0,x1,x2,x3⟩:=box4 aO;obtain⟨y14,-⟩:=hf1.1.errC;rw[ag.out] at y14;have hfind:=zmu hf1.1 qz.out;rw[ag.out] at hfind;have iN:=zh hfind;have iO:=zh hf1;have aY:=zh hx1;have bF:=zh hx2;clear hx aO hfind hf1 hx1 hx2 iM y0 y1 y2 y3;go_wp2_with fail;refine iN.out.mono ?_;rintro mq w2 ⟨⟨id,hid,hck,rfl⟩,rfl⟩;have fB:=zh (zla.first HH.out HB0.out iO.out);by_cases he1:bD=0;rotate_left 1
   ·have e1:(bD==0)=false:=by simpa using he1
    have e2:(bD != 0)=true:=by simpa using he1
    have iI:=zh (show R=(0,bD) by
     rw[bZ.out];have bX:r.S.look s=some (r.S.cell id):=by unfold ST.look;rw[hid];rfl
     unfold varE;rw[bX];simp[<-aY.out,he1])
    have jT:=zh he1;clear hid hck he1;go_wp2_with fail;go_ret;obtain rfl:=iI.out;exact RvP.err fB.out rfl jT.out
   ·subst he1;have hlt:=zmg iO.out.1.inv.wf hid;obtain⟨B,cb,-,-,hcc,hel⟩:=iO.out.1.celC hlt;have bX:r.S.look s=some (r.S.cell id):=by unfold ST.look;rw[hid];rfl
    obtain rfl:=bF.out rfl;have hR2:R=if 0<=R1.1/\R1.1<(r.S.cell id).length then ((r.S.cell id).getD R1.1.toNat 0,0) else (0,12):=by
     rw[bZ.out];unfold varE;rw[bX];simp[<-aY.out]
    obtain⟨l,hl⟩:∃ l,(r.S.cell id).length=l:=⟨_,rfl⟩
    obtain⟨z,hz⟩:∃ z,R1.1=z:=⟨_,rfl⟩
    rw[hz] at hR2;rw[hl] at hR2 hcc hel;rw[hz];by_cases hin:0<=z/\z<(l:Int)
    ·obtain⟨m,rfl⟩:∃ m:Nat,z=(m:Int):=⟨z.toNat,by omega⟩
     have eB:m<l:=by omega
     obtain⟨g,rfl,hc0⟩:=hel m eB;obtain⟨y,hy⟩:∃ y,r.S.el id m=y:=⟨_,rfl⟩
     have iI:=zh (show R=(y,0) by rw[hR2,if_pos hin,<-hy];simp[ST.el]);rw[hy] at hc0;have h0:¬ (m:Int)<0:=by omega
     have h1:(m:Int)<(l:Int):=hin.2;have h2:¬ (l:Int)<=(m:Int):=by omega
     have h3:(0:Int)<=(m:Int):=by omega
     have h4:¬ l<=m:=by omega
     clear hid hck hlt hel hl hz bX hR2 hin hy;go_wp2_with fail;go_ret;obtain rfl:=iI.out;exact RvP.ok fB.out rfl
    ·have iI:=zh (show R=(0,12) by rw[hR2,if_neg hin]);have hfl:=zkR hK iO.out.1 12;rw[ag.out,if_pos rfl] at hfl;have aR:=zh hfl;by_cases h0:z<0
     ·clear hid hck hlt hel hl hz bX hR2 hin hfl;go_wp2_with fail;refine aR.out.mono ?_;rintro xV w3 ⟨⟨u,rfl⟩,hf⟩;have HF:=zh (fB.out.trans hf);clear hf hcc;go_wp2_with fail;go_ret;obtain rfl:=iI.out;exact RvP.err HF.out rfl (by decide)
     ·obtain⟨m,rfl⟩:∃ m:Nat,z=(m:Int):=⟨z.toNat,by omega⟩
      have h2:(l:Int)<=(m:Int):=by omega
      have h4:l<=m:=by omega
      have h1:¬ (m:Int)<0:=h0;clear hid hck hlt hel hl hz bX hR2 hin hfl h0;go_wp2_with fail;refine aR.out.mono ?_;rintro xV w3 ⟨⟨u,rfl⟩,hf⟩;have HF:=zh (fB.out.trans hf);clear hf hcc;go_wp2_with fail;go_ret;obtain rfl:=iI.out;exact RvP.err HF.out rfl (by decide)
  ·obtain rfl:L=1:=HL.out.symm;have jf:EP r.S.cur.vs t:=⟨ht,zk4 pG.out t (by simp)⟩
   obtain⟨a,t0,A2,c2,rfl,_,Ht,hnd,hn0⟩:=(ah.out K.w (Below.refl _ _)).nd (i:=0) (by simp);obtain⟨y0,y1,y2,y3⟩:=zkE HH0.out.bl hnd;simp only[Nat.zero_mul,Addr.add_zero'] at y0 y1 y2 y3;have ht0:t0=t:=Ht.out.symm;subst ht0;have hih:=ih t0 (by simp) P W0 r 0 _ HH0.out jf hn0;rw[ag.out] at hih;have iM:=zh hih;obtain⟨R1,eG⟩:∃ R1,evE r.S.look t0=R1:=⟨_,rfl⟩
   have bZ:=zh (show R=if R1.2≠0 then (0,R1.2) else unE k R1.1 by
    rw[<-HR.out,<-eG];unfold evK;rw[if_neg (by omega),if_neg (by omega)];rfl)
   rw[eG] at iM;clear ih jf hnd hn0 Ht hih eG HR;rcases hk with rfl|rfl
   ·skip
    go_enter Tryz.func68,Tryz.ntmps68;go_wp2_with fail;refine iM.out.mono ?_;rintro kr w1 ⟨xv,bD,rfl,hf1,-,hx⟩;obtain⟨hx1,hx2⟩:=hx rfl;have fB:=zh (zla.first HH.out HB0.out hf1);have aY:=zh hx1;have bF:=zh hx2;clear hx hf1 hx1 hx2 iM y0 y1 y2 y3;go_wp2_with fail;go_ret;refine⟨_,bD,rfl,fB.out,fun h=>absurd rfl h,fun _=>?_⟩;rw[bZ.out,<-aY.out];by_cases he1:bD=0
    ·obtain rfl:=bF.out he1;rw[if_neg (by simpa using he1)];refine⟨by rw[he1];rfl,fun _=>?_⟩
     show _=wrap64 (-R1.1)
     simp[Act.eval,Act.put]
    ·rw[if_pos he1];exact⟨rfl,fun h=>absurd h he1⟩
   ·skip
    go_enter Tryz.func68,Tryz.ntmps68;go_wp2_with fail;refine iM.out.mono ?_;rintro kr w1 ⟨xv,bD,rfl,hf1,-,hx⟩;obtain⟨hx1,hx2⟩:=hx rfl;have fB:=zh (zla.first HH.out HB0.out hf1);have aY:=zh hx1;have bF:=zh hx2;clear hx hf1 hx1 hx2 iM y0 y1 y2 y3;go_wp2_with fail;refine(zkN _ w1).mono ?_;rintro mq w2 ⟨rfl,rfl⟩;go_wp2_with fail;go_ret;refine⟨_,bD,rfl,fB.out,fun h=>absurd rfl h,fun _=>?_⟩;rw[bZ.out,<-aY.out];by_cases he1:bD=0
    ·obtain rfl:=bF.out he1;rw[if_neg (by simpa using he1)];exact⟨by rw[he1];rfl,fun _=>rfl⟩
    ·rw[if_pos he1];exact⟨rfl,fun h=>absurd h he1⟩
  ·obtain rfl:L=2:=HL.out.symm;have jf:EP r.S.cur.vs t:=⟨ht,zk4 pG.out t (by simp)⟩
   have hkid2:EP r.S.cur.vs u:=⟨hu,zk4 pG.out u (by simp)⟩
   obtain⟨a,t0,A2,c2,rfl,_,Ht,hnd,hn0⟩:=(ah.out K.w (Below.refl _ _)).nd (i:=0) (by simp);obtain⟨a',t1,A3,c3,ea,_,Hu,gp,hn1⟩:=(ah.out K.w (Below.refl _ _)).nd (i:=1) (by simp);injection ea with ea;subst ea;have ha:a.add (1*4)=⟨a.block,a.off+4,none⟩:=by unfold Addr.add;split<;>simp_all
   rw[ha] at gp;have ht0:t0=t:=Ht.out.symm;have hu0:t1=u:=Hu.out.symm;subst ht0 hu0;obtain⟨y0,y1,y2,y3⟩:=zkE HH0.out.bl hnd;simp only[Nat.zero_mul,Addr.add_zero'] at y0 y1 y2 y3;have hih:=ih t0 (by simp) P W0 r 0 _ HH0.out jf hn0;rw[ag.out] at hih;have iM:=zh hih;have HI2:=zh (fun w1 bD (h:RF K P w1 r bD)=>ih t1 (by simp) P w1 r bD _ h hkid2 hn1);have lS:=zh gp;obtain⟨R1,eG⟩:∃ R1,evE r.S.look t0=R1:=⟨_,rfl⟩
   obtain⟨R2,hR2⟩:∃ R2,evE r.S.look t1=R2:=⟨_,rfl⟩
   have bZ:=zh (show R=if R1.2≠0 then (0,R1.2) else if R2.2≠0 then (0,R2.2) else apE k R1.1 R2.1 by
    rw[<-HR.out,<-eG,<-hR2];unfold evK;rw[if_neg (by omega),if_neg (by omega)];rfl)
   rw[eG] at iM;rw[hR2] at HI2;have qE:=zh hk;have z1:(k==1)=false:=by simp;omega
   have z2:(k==2)=false:=by simp;omega
   have z3:(k==3)=false:=by simp;omega
   have z4:(k==4)=false:=by simp;omega
   have z5:(k==5)=false:=by simp;omega
   have z6:(k==6)=false:=by simp;omega
   have z7:(k==7)=false:=by simp;omega
   clear ih jf hkid2 hnd gp hn0 hn1 Ht Hu hih eG hR2 HR hk ha;go_enter Tryz.func68,Tryz.ntmps68;go_wp2_with fail;refine iM.out.mono ?_;rintro kr w1 ⟨xv,bD,rfl,hf1,-,hx⟩;obtain⟨hx1,hx2⟩:=hx rfl;have aO:=zla.kp HH.out HB0.out hf1 ax.out (by have:=fG.out;omega);obtain⟨x0,x1,x2,x3⟩:=box4 aO;obtain⟨y0,y1,y2,y3⟩:=zkE hf1.1.bl lS.out;dsimp only at y0 y1 y2 y3;have sQ:=HI2.out w1 bD hf1.1;rw[ag.out] at sQ;have HIH2:=zh sQ;have iO:=zh hf1;have aY:=zh hx1;have bF:=zh hx2;clear hx aO hf1 hx1 hx2 sQ iM;go_wp2_with fail;refine HIH2.out.mono ?_;rintro mq w2 ⟨yv,iR,rfl,hf2,hy0,hy⟩;have nD:=iO.out.trans hf2;have dP:=zla.kp HH.out HB0.out nD ax.out (by have:=fG.out;omega);obtain⟨x0,x1,x2,x3⟩:=box4 dP;obtain⟨y14,-⟩:=nD.1.errC;rw[ag.out] at y14;have fB:=zh (zla.first HH.out HB0.out nD);have dR:=zh nD;have qU:=zh hy0;have HY:=zh hy
   clear dP hf2 nD hy0 hy HIH2 y0 y1 y2 y3;by_cases he2:iR=0
   ·subst he2;have he1:bD=0:=Classical.byContradiction fun h=>h (qU.out h).symm;subst he1;obtain⟨g1,g2⟩:=HY.out rfl;obtain rfl:=g2 rfl;obtain rfl:=bF.out rfl;have hRv:R=apE k R1.1 R2.1:=by rw[bZ.out,if_neg (by rw[<-aY.out];simp),if_neg (by rw[<-g1];simp)]
    have xm:=zh (zr1 k R1.1 R2.1 qE.out w2);have hae:=zve k R1.1 R2.1 qE.out;obtain⟨Q,hQ⟩:∃ Q,apE k R1.1 R2.1=Q:=⟨_,rfl⟩
    rw[hQ] at xm hRv hae;have iI:=zh hRv;obtain⟨Qx,Qe⟩:=Q;simp only at xm hae;clear g1 g2 hRv hQ;go_wp2_with fail;refine xm.out.mono ?_;rintro xV w3 ⟨rfl,rfl⟩;rcases hae with rfl|rfl
    ·clear xm;go_wp2_with fail;go_ret;obtain rfl:=iI.out;exact RvP.ok fB.out rfl
    ·have hfl:=zkR hK fB.out.1 11;rw[ag.out,if_pos rfl] at hfl;have aR:=zh hfl;clear xm hfl;go_wp2_with fail;refine aR.out.mono ?_;rintro xU w4 ⟨⟨u,rfl⟩,hf⟩;have HF:=zh (fB.out.trans hf);clear hf;go_wp2_with fail;go_ret;obtain rfl:=iI.out;exact RvP.err HF.out rfl (by decide)
   ·have e1:(iR==0)=false:=by simpa using he2
    have e2:(iR != 0)=true:=by simpa using he2
    have iI:=zh (show R.2=iR by
     rw[bZ.out];by_cases he1:bD=0
     ·subst he1;rw[if_neg (by rw[<-aY.out];simp),if_pos (by rw[<-(HY.out rfl).1];exact he2)];exact(HY.out rfl).1.symm
     ·rw[if_pos (by rw[<-aY.out];exact he1),qU.out he1];exact aY.out.symm)
    have HE2:=zh he2;clear he2;go_wp2_with fail;go_ret;exact RvP.err fB.out iI.out HE2.out
theorem zmt {K:RK} (hK:K.Ok) {P:RP} {W:World} {r:RS} {er:Int} (h:RF K P W r er) {t:T} {v:Value} (hp:isP t=true) (hf:fltE r.S.cur.vs t=0) (hv:NV K.w Any t v):Calls Tryz.prog 102 #[.pointer (some ⟨P.rb,0,none⟩),v] W (RvP K P W r er (indE r.S.look t)):=by
 have hie:indE r.S.look t=if t.k=2 then (0,0) else evE r.S.look (t.ks.getD 0 (.nd 0 0 ⟨#[]⟩ [])):=by unfold indE;rw[if_pos hp]
 rw[hie];obtain⟨k,n,s,ks⟩:=t;obtain⟨A,c,rfl,-,-,-,hrow⟩:=hv.open_;simp only[T.k_nd,T.n_nd,T.s_nd,T.ks_nd] at hrow ⊢;simp only[isP,T.k_nd,Bool.and_eq_true,Bool.or_eq_true,beq_iff_eq] at hp;obtain⟨hk,he⟩:=hp;obtain⟨hown,hfs⟩:=zlk hf;have hsh:=zmW he;obtain⟨L,hL⟩:∃ L,ks.length=L:=⟨_,rfl⟩
 rw[hL];have hb0:=zkc (Below.refl W.heap.size W) (.cells #[.int .u8 k,.int .i64 n,.string s,.slice A L c] 26);have hh0:=h.later hb0;have oD:=zh (zla.first h hb0 (zla.refl hh0));rcases hk with rfl|rfl
 ·clear hrow he hown hfs hsh hie h hb0 hh0;go_enter Tryz.func102,Tryz.ntmps102;go_wp2_with fail;go_ret;exact⟨0,er,rfl,oD.out,fun _=>rfl,fun h=>⟨h,fun _=>rfl⟩⟩
 ·obtain⟨t,rfl,ht⟩:∃ t,ks=[t]/\isE t=true:=by
   rcases hsh with⟨h1,_⟩|⟨h1,_⟩|⟨_,t,h1,h2⟩|⟨h1,_⟩|⟨h1,_⟩
   ·omega
   ·omega
   ·exact⟨t,h1,h2⟩
   ·omega
   ·omega
  obtain rfl:L=1:=hL.symm;obtain⟨a,t0,A2,c2,rfl,_,Ht,hnd,hn0⟩:=hrow.nd (i:=0) (by simp);have ht0:t0=t:=Ht.out.symm;subst ht0;obtain⟨W0,hW0⟩:∃ x,W.alloc (.cells #[.int .u8 3,.int .i64 n,.string s,.slice (some a) 1 c] 26)=x:=⟨_,rfl⟩
  have hbx:=heap_alloc_new W (.cells #[.int .u8 3,.int .i64 n,.string s,.slice (some a) 1 c] 26);rw[hW0] at hh0 hb0 hbx;obtain⟨x0,x1,x2,x3⟩:=box4 hbx;have hx:=znu hK t0 P W0 r er _ hh0 ⟨ht,zk4 hfs t0 (by simp)⟩ hn0;have HX:=zh hx;obtain⟨y0,y1,y2,y3⟩:=zkE hh0.bl hnd;simp only[Nat.zero_mul,Addr.add_zero'] at y0 y1 y2 y3;obtain⟨R,hR⟩:∃ R,evE r.S.look t0=R:=⟨_,rfl⟩
  have HR:=zh hR;have HH:=zh h;have HB0:=zh hb0;clear hrow he hown hfs hsh hie hx hn0 hnd Ht h hb0 hh0 hL hR ht hf hv hbx;go_enter Tryz.func102,Tryz.ntmps102;go_wp2_with fail;refine HX.out.mono ?_;rintro kr w1 ⟨x,bD,rfl,hf1,h1,h2⟩;have iO:=zh (zla.first HH.out HB0.out hf1);have H1:=zh h1;have H2:=zh h2;clear hf1 h1 h2 HX;go_wp2_with fail;go_ret;exact⟨x,bD,rfl,iO.out,H1.out,H2.out⟩
theorem zmv {K:RK} (hK:K.Ok) {P:RP} {W:World} {r:RS} (h:RF K P W r 0) {t:T} {v:Value} {vd:VD} (hf:zkA r.S.cur.vs t.s=some vd) (hv:NV K.w Any t v) (i:Int):Calls Tryz.prog 103 #[.pointer (some ⟨P.rb,0,none⟩),v,.int .i64 i] W fun en W' =>
  ∃ id,r.S.num t.s=some id/\CurK r.S id vd.k/\en=.returned (.pointer (some ⟨P.cb id,0,none⟩))/\zla K P W r 0 (if 0<=i/\i<(r.S.cell id).length then 0 else 12) W':=by
 obtain⟨k,n,s,ks⟩:=t;obtain⟨A,c,rfl,-⟩:=hv.open_;simp only[T.k_nd,T.n_nd,T.s_nd,T.ks_nd] at hf ⊢;obtain⟨L,hL⟩:∃ L,ks.length=L:=⟨_,rfl⟩
 rw[hL];clear hL hv;have hb0:=zkc (Below.refl W.heap.size W) (.cells #[.int .u8 k,.int .i64 n,.string s,.slice A L c] 26);obtain⟨W0,hW0⟩:∃ x,W.alloc (.cells #[.int .u8 k,.int .i64 n,.string s,.slice A L c] 26)=x:=⟨_,rfl⟩
 have hbx:=heap_alloc_new W (.cells #[.int .u8 k,.int .i64 n,.string s,.slice A L c] 26);rw[hW0] at hb0 hbx;obtain⟨x0,x1,x2,x3⟩:=box4 hbx;have hh0:=h.later hb0;have oD:=zh (zla.first h hb0 (zla.refl hh0));have HH0:=zh hh0;obtain⟨rb,hrb⟩:∃ b,P.rb=b:=⟨_,rfl⟩
 have j6:=zmu hh0 hf;obtain⟨y14,-⟩:=hh0.errC;rw[hrb] at j6 y14;have iN:=zh j6;have ag:=zh hrb;rw[hrb];clear h hb0 hbx hh0 j6 hrb hf;go_enter Tryz.func103,Tryz.ntmps103;go_wp2_with fail;refine iN.out.mono ?_;rintro kr w1 ⟨⟨id,hid,hck,rfl⟩,rfl⟩;have hlt:=zmg HH0.out.inv.wf hid;obtain⟨B,cb,-,-,hcc,-⟩:=HH0.out.celC hlt;have bV:=zh (show r.S.num s=some id/\CurK r.S id vd.k from ⟨hid,hck⟩);obtain⟨l,hl⟩:∃ l,(r.S.cell id).length=l:=⟨_,rfl⟩
 rw[hl] at hcc;have bS:=zh hl;clear hid hck hlt hl;by_cases hin:0<=i/\i<(l:Int)
 ·obtain⟨m,rfl⟩:∃ m:Nat,i=(m:Int):=⟨i.toNat,by omega⟩
  have h0:¬ (m:Int)<0:=by omega
  have h2:¬ (l:Int)<=(m:Int):=by omega
  have h4:¬ l<=m:=by omega
  have jS:=zh hin;clear hin;go_wp2_with fail;go_ret;exact⟨id,bV.out.1,bV.out.2,rfl,by rw[bS.out,if_pos jS.out];exact oD.out⟩
 ·have jS:=zh hin;have hfl:=zkR hK HH0.out 12;rw[ag.out,if_pos rfl] at hfl;have aR:=zh hfl;by_cases h0:i<0
  ·clear hin hfl;go_wp2_with fail;refine aR.out.mono ?_;rintro mq w2 ⟨⟨u,rfl⟩,hf2⟩;have dR:=zh (oD.out.trans hf2);clear hf2 hcc;go_wp2_with fail;go_ret;exact⟨id,bV.out.1,bV.out.2,rfl,by rw[bS.out,if_neg jS.out];exact dR.out⟩
  ·obtain⟨m,rfl⟩:∃ m:Nat,i=(m:Int):=⟨i.toNat,by omega⟩
   have h2:(l:Int)<=(m:Int):=by omega
   have h4:l<=m:=by omega
   have h1:¬ (m:Int)<0:=h0;clear hin hfl h0;go_wp2_with fail;refine aR.out.mono ?_;rintro mq w2 ⟨⟨u,rfl⟩,hf2⟩;have dR:=zh (oD.out.trans hf2);clear hf2 hcc;go_wp2_with fail;go_ret;exact⟨id,bV.out.1,bV.out.2,rfl,by rw[bS.out,if_neg jS.out];exact dR.out⟩
section
variable {K:RK} {P P':RP} {W W0 W1 W2 W':World} {r r':RS} {er bD iR:Int} {d':RX->RowD}
theorem zkV (K:RK) (P:RP) {r:RS} (er:Int) {id:Nat} (hid:id<r.S.nc):zkg K P r er (.row id)=⟨P.ci id,3,1,(r.S.cell id).length,zke (r.S.cell id)⟩:=if_pos hid
theorem zkO (K:RK) (P:RP) {r:RS} (er:Int) {id:Nat} (hid:id<r.S.nc):zkg K P r er (.cel id)=⟨boxV (P.cb id),94,1,1,[P.ci id]⟩:=if_pos hid
theorem RF.rowC (h:RF K P W r er) {id:Nat} (hid:id<r.S.nc) (hp:0<(r.S.cell id).length):∃ g c,P.ci id=.slice (some ⟨g,0,none⟩) (r.S.cell id).length c/\(r.S.cell id).length<=c/\W.cell? ⟨P.cb id,0,none⟩=some (.slice (some ⟨g,0,none⟩) (r.S.cell id).length c)/\W.frozen? ⟨P.cb id,0,none⟩=false /\
  (∀ i,i<(r.S.cell id).length->W.cell? ⟨g,i,none⟩=some (.int .i64 (r.S.el id i)))/\(∀ o,W.frozen? ⟨g,o,none⟩=false)/\g≠P.cb id/\g≠P.rb:=by
 obtain⟨A,c,h1,h2,h3,h4⟩:=h.celC hid;obtain⟨g,rfl,-⟩:=h4 0 hp;have aL:(zkg K P r er (.row id)).v.ownBlock=some g:=by rw[zkV K P er hid];show(P.ci id).ownBlock=some g;rw[h1];rfl
 refine⟨g,c,h1,h2,h3,h.rws.frozen (.cel id) (by rw[zkO K P er hid];rfl) 0,fun i hi=>?_,fun o=>h.rws.frozen (.row id) aL o,fun e=>?_,fun e=>?_⟩
 ·obtain⟨g',e,h5⟩:=h4 i hi;injection e with e;injection e with e;subst e;exact h5
 ·exact h.rws.sep (.row id) (.cel id) g (by simp) aL (by rw[zkO K P er hid,e];rfl)
 ·exact h.rws.sep (.row id) .run g (by simp) aL (by rw[e];rfl)
theorem putS (hr:Rws W K.n0 (zkg K P r er)) {id i:Nat} (hid:id<r.S.nc) {g c:Nat} (hci:P.ci id=.slice (some ⟨g,0,none⟩) (r.S.cell id).length c) (hi:i<(r.S.cell id).length) (y:Int) :
  Stp K.n0 (zkg K P r er) W (zkg K P { r with S:=r.S.put id i y } er) (W.setCell ⟨g,i,none⟩ (.int .i64 y)):=by
 have aL:(zkg K P r er (.row id)).v.ownBlock=some g:=by rw[zkV K P er hid];show(P.ci id).ownBlock=some g;rw[hci];rfl
 refine(Stp.set (i:=RX.row id) hr aL (o:=i) (by rw[zkV K P er hid];simpa[zke] using hi) (.int .i64 y)).cast ?_;funext x
 cases x with
 | run=>rw[zkb (by simp)];rfl
 | cnt=>rw[zkb (by simp)];rfl
 | cel j=>rw[zkb (by simp)];rfl
 | row j =>
  by_cases e:j=id
  ·subst e;rw[zkk,zkV K P er hid];simp[zkg,ST.put,ST.setL,hid,zke,List.map_set]
  ·rw[zkb (by simpa using e)];simp[zkg,ST.put,ST.setL,e]
theorem Stp.kpn (h:RF K P W r er) (hb:Below W.heap.size W W0) (st:Stp K.n0 (zkg K P r er) W0 d' W1) {b:Nat} {o:Obj} (hW:W0.heap[b]?=some o) (hlt:W.heap.size<=b):W1.heap[b]?=some o :=
 st.chg.keep hW fun⟨i,hi⟩=>by have:=(h.rws.lt i b hi).2;omega
theorem RF.fin (h:RF K P W r 0) (hK:K.Ok) {S':ST} (st:Stp K.n0 (zkg K P r 0) W (zkg K P' { r with S:=S' } 0) W') (hs:SamP P P' r.S.nc) (hfr:S'.base=r.S.base/\S'.calls=r.S.calls/\S'.nc=r.S.nc) (hwf:S'.WF)
  (iv:Sl W' (fun b=>¬ OwnB (zkg K P' { r with S:=S' } 0) b) P'.iv (zke S'.tin)) (ov:Sl W' (fun b=>¬ OwnB (zkg K P' { r with S:=S' } 0) b) P'.ov (zke S'.tout)):RF K P' W' { r with S:=S' } 0:=by
 obtain⟨f1,f2,f3⟩:=hfr;have dO:S'.cur=r.S.cur:=by unfold ST.cur;rw[f1,f2]
 refine h.step hK st ?_ ?_ iv ov ⟨hwf,?_,h.inv.n⟩ rfl h.en
 ·show Sl W' _ P'.nm (zk7 S'.cur)
  rw[hs.nm,dO];exact h.nm.stp st
 ·show Sl W' _ P'.cl (ptrs P'.cb S'.cur.cs)
  obtain⟨kd,hw⟩:=h.inv.wf.cur;have hp:ptrs P'.cb S'.cur.cs=ptrs P.cb r.S.cur.cs:=by
   rw[dO];unfold ptrs;exact List.map_congr_left fun i hi=>by rw[hs.cb i (hw.num i hi)]
  rw[hs.cl,hp];exact h.cl.stp st
 ·have:=h.inv.fb;unfold FB at this ⊢;rw[f1,f2];exact this
theorem RunE.fail (h:RF K P W r 0) (st:Stp K.n0 (zkg K P r 0) W (zkg K P r' 0) W1) {e:Int} (hf:zla K P W1 r' 0 e W2) (he:e≠0) {o:Out} (ho:o=.err e) (u:Value):RunE K P W r o (.returned u) W2:=by
 subst ho;exact⟨⟨u,rfl⟩,⟨he,hf.1.errC.1⟩,(st.trans hf.2).chg⟩
theorem RunE.ok (h:RF K P W r 0) (st:Stp K.n0 (zkg K P r 0) W (zkg K P' r' 0) W1) (h':RF K P' W1 r' 0) (hs:SamP P P' r.S.nc) {o:Out} (ho:o=.ok r') (u:Value):RunE K P W r o (.returned u) W1:=by
 subst ho;exact⟨⟨u,rfl⟩,P',h',st,hs⟩
end
theorem zog {k n:Int} {s:ByteArray} {ks:List T} (h:isS (.nd k n s ks)=true):40<=k/\k<=56:=by
 rw[isS] at h
 repeat' split at h
 all_goals first|cases h|omega
theorem zte {S:ST} {k n:Int} {s:ByteArray} {ks:List T} (hs:isS (.nd k n s ks)=true) (hk:¬ (50<=k/\k<=55)) (oV:k≠56) (hf:fltE S.cur.vs (.nd k n s ks)=0):doE S (.nd k n s ks)=zkQ S k s (ks.getD 0 nil0) (ks.getD 1 nil0) (indE S.look (ks.getD 0 nil0)) (zlO S k (ks.getD 1 nil0)):=by
 have hb:=zog hs;unfold doE;rw[if_neg (by simp[hs]),if_neg (show ¬ (T.nd k n s ks).k=56 from oV),if_neg (show ¬ basB (T.nd k n s ks).k=false by rw[show basB (T.nd k n s ks).k=true from decide_eq_true (by simp only[T.k_nd];omega)];decide),if_neg (by simpa using hf)];rfl
theorem zxs {S:ST} {n:Int} {s:ByteArray} {ks:List T} (hs:isS (.nd 56 n s ks)=true):doE S (.nd 56 n s ks)=(9,S):=by
 unfold doE;rw[if_neg (by simp[hs]),if_pos (show(T.nd 56 n s ks).k=56 from rfl)]
theorem zoh {k n:Int} {s:ByteArray} {ks:List T} (hs:isS (.nd k n s ks)=true) :
  ((k=40\/k=41\/k=42\/k=56)->∃ p q,ks=[p,q]/\isP p=true/\isE q=true)/\(k=43->∃ p q,ks=[p,q]/\isP p=true/\isP q=true)/\((44<=k/\k<=49)->∃ p,ks=[p]/\isP p=true):=by
 have two:∀ f,zkK 2 f ks=true->∃ p q,ks=[p,q]/\f 0 p=true/\f 1 q=true:=fun f h=>by
  simp only[zkK,Bool.and_eq_true,decide_eq_true_eq] at h
  match ks,h with
  | [p,q],h=>exact⟨p,q,rfl,by have:=h.2;simp[zkz] at this;exact this⟩
 have one:∀ f,zkK 1 f ks=true->∃ p,ks=[p]/\f 0 p=true:=fun f h=>by
  simp only[zkK,Bool.and_eq_true,decide_eq_true_eq] at h
  match ks,h with
  | [p],h=>exact⟨p,rfl,by have:=h.2;simp[zkz] at this;exact this⟩
 rw[isS] at hs;refine⟨fun hk=>?_,fun hk=>?_,fun hk=>?_⟩
 ·rw[if_pos hk,Bool.and_eq_true] at hs;obtain⟨p,q,h1,h2,h3⟩:=two _ hs.2;exact⟨p,q,h1,by simpa using h2,by simpa using h3⟩
 ·rw[if_neg (by omega),if_pos hk,Bool.and_eq_true] at hs;exact two _ hs.2
 ·rw[if_neg (by omega),if_neg (by omega)] at hs
  split at hs
  ·rw[Bool.and_eq_true] at hs;exact one _ hs.2
  ·rw[if_pos (by omega),Bool.and_eq_true] at hs;exact one _ hs.2
theorem zsc {S:ST} {k n:Int} {s:ByteArray} {p q:T} (hs:isS (.nd k n s [p,q])=true) (hk:40<=k/\k<=43) (hf:fltE S.cur.vs (.nd k n s [p,q])=0):doE S (.nd k n s [p,q])=zkQ S k s p q (indE S.look p) (zlO S k q):=zte hs (by omega) (by omega) hf
theorem zkw {r:RS} {S:ST} {e:Int} (h:e≠0):zki r (e,S)=.err e:=if_pos h
theorem zlp {r:RS} {S:ST}:zki r (0,S)=.ok { r with S:=S }:=if_neg (by simp)
theorem zpy {K:RK} (hK:K.Ok) {P:RP} {W:World} {r:RS} (h:RF K P W r 0) {k k0 n:Int} {s:ByteArray} {p q:T} {v:Value} (hv:NV K.w Any (.nd k0 n s [p,q]) v) (hk:k=40\/k=41\/k=42) (hs:isS (.nd k n s [p,q])=true) (hf:fltE r.S.cur.vs (.nd k n s [p,q])=0) :
  Calls Tryz.prog 71 #[.pointer (some ⟨P.rb,0,none⟩),.int .u8 k,v] W (RunE K P W r ((zkq K.F r).bind fun r=>zki r (doE r.S (.nd k n s [p,q])))):=by
 have hd:=zsc hs (by omega) hf;have hwf:=zo6 h.inv.wf (.nd k n s [p,q]);obtain⟨p',q',he,hp,hq⟩:=(zoh hs).1 (by omega);injection he with he1 he2;injection he2 with he2;subst he1 he2;obtain⟨-,hfs⟩:=zlk hf;have hfp:=zk4 hfs p (by simp);have mf:=zk4 hfs q (by simp);have hvp:∃ vp,zkA r.S.cur.vs p.s=some vp:=by
  obtain⟨pk,pn,ps,xu⟩:=p;simp only[isP,T.k_nd,Bool.and_eq_true,Bool.or_eq_true,beq_iff_eq] at hp;obtain⟨h1,_⟩:=zlk hfp;obtain⟨w,h2,-⟩:=zk6 h1 (by rcases hp.1 with rfl|rfl<;>decide);exact⟨w,h2⟩
 obtain⟨vp,hvp⟩:=hvp;have hrt:zlO r.S k q=evE r.S.look q:=by
  unfold zlO zlb;rw[if_neg (by omega),if_pos hk,if_pos hq]
 rw[hrt] at hd;rw[hd] at hwf;obtain⟨R1,eG⟩:∃ R1,indE r.S.look p=R1:=⟨_,rfl⟩
 obtain⟨R2,hR2⟩:∃ R2,evE r.S.look q=R2:=⟨_,rfl⟩
 rw[eG,hR2] at hd hwf;obtain⟨kq,hkq⟩:∃ kq,k=kq:=⟨_,rfl⟩
 rw[hkq] at hwf;obtain⟨o,ho⟩:∃ o,((zkq K.F r).bind fun r=>zki r (doE r.S (.nd k n s [p,q])))=o:=⟨_,rfl⟩
 have jA:=zh (show K.F<=(r.n:Int)->o=.err 18 from fun h=>by rw[<-ho,zkq,if_pos h];rfl);have jQ:=zh (show(r.n:Int)<K.F->o=zki { r with n:=r.n+1 } (zkQ r.S kq s p q R1 R2) from fun h=>by
  rw[<-ho,zkq,if_neg (by omega)]
  show zki _ (doE r.S _)=_
  rw[hd,hkq])
 have yx:=zh hkq;rw[ho];obtain⟨A,c,rfl,-,-,-,hrow⟩:=hv.open_;simp only[T.k_nd,T.n_nd,T.s_nd,T.ks_nd,List.length_cons,List.length_nil,Nat.zero_add,Nat.reduceAdd] at hrow ⊢;obtain⟨a,p0,A2,c2,rfl,_,Hp,hnd,hn0⟩:=hrow.nd (i:=0) (by simp);obtain⟨a',q0,A3,c3,ea,_,Hq,gp,hn1⟩:=hrow.nd (i:=1) (by simp);injection ea with ea;subst ea;have ha:a.add (1*4)=⟨a.block,a.off+4,none⟩:=by unfold Addr.add;split<;>simp_all
 rw[ha] at gp;have hp0:p0=p:=Hp.out.symm;have hq0:q0=q:=Hq.out.symm;subst hp0 hq0;have hb0:=zkc (Below.refl W.heap.size W) (.cells #[.int .u8 k0,.int .i64 n,.string s,.slice (some a) 2 c] 26);have hbx:=heap_alloc_new W (.cells #[.int .u8 k0,.int .i64 n,.string s,.slice (some a) 2 c] 26);obtain⟨W0,hW0⟩:∃ x,W.alloc (.cells #[.int .u8 k0,.int .i64 n,.string s,.slice (some a) 2 c] 26)=x:=⟨_,rfl⟩
 obtain⟨nb,hnb⟩:∃ x,W.heap.size=x:=⟨_,rfl⟩
 rw[hW0] at hb0 hbx;rw[hnb] at hbx;have hh0:=h.later hb0;have HH:=zh h;have HB0:=zh hb0;have ax:=zh hbx;have fG:=zh hnb;obtain⟨x0,x1,x2,x3⟩:=box4 hbx;obtain⟨rb,hrb⟩:∃ b,P.rb=b:=⟨_,rfl⟩
 have ag:=zh hrb;have hst:=zmc hK hh0;rw[hrb] at hst;have HST:=zh hst;rw[hrb];obtain⟨y0,y1,y2,y3⟩:=zkE hh0.bl hnd;simp only[Nat.zero_mul,Addr.add_zero'] at y0 y1 y2 y3;have dQ:=zh hnd;have lS:=zh gp;have eQ:=zh hn0;have eP:=zh hn1;have HP:=zh hp;have HQ:=zh hq;have qH:=zh hfp;have Bg:=zh mf;have ui:=zh hvp;have dI:=zh hwf;have HR1:=zh eG;have HR2:=zh hR2;have HKK:=zh hk;have gD:=zh (Stp.below (Stp.refl h.rws) hb0);have yM:(k==56)=false:=by simp;omega
 have xx:(k==43)=false:=by simp;omega
 clear hv hs hf hd hwf hfs hrow Hp Hq hnd gp hn0 hn1 hp hq hfp mf hvp eG hR2 ho hst hrb hb0 hbx hrt ha h hkq;rcases hk with rfl|rfl|rfl
 all_goals
  go_enter Tryz.func71,Tryz.ntmps71;go_wp2_with fail;refine HST.out.mono ?_;rintro kr w1 (⟨hF,rfl,hf⟩|⟨hF,rfl,h1,st1⟩)
  ·have aa:=zh (RunE.fail HH.out gD.out hf (by decide) (jA.out hF) undef);clear hf y0 y1 y2 y3 x0 x1 x2 x3;go_wp2_with fail;refine bodyPost_ret (results_none rfl _ _ _) rfl ?_;exact⟨⟨_,rfl⟩,aa.out.2⟩
  obtain⟨r1,hr1⟩:∃ x:RS,{ r with n:=r.n+1 }=x:=⟨_,rfl⟩
  have fU:r1.S=r.S:=by rw[<-hr1]
  have ik:=zh (show o=zki r1 (zkQ r.S kq s p0 q0 R1 R2) by rw[<-hr1];exact jQ.out hF);rw[hr1] at h1 st1;have aM:=zh (gD.out.trans st1);have aO:=Stp.kpn HH.out HB0.out st1 ax.out (by have:=fG.out;omega);obtain⟨x0,x1,x2,x3⟩:=box4 aO;obtain⟨y0,y1,y2,y3⟩:=zkE h1.bl dQ.out;simp only[Nat.zero_mul,Addr.add_zero'] at y0 y1 y2 y3;have hix:=zmt hK h1 HP.out (by rw[fU];exact qH.out) eQ.out;rw[fU,HR1.out,ag.out] at hix;have iy:=zh hix;have bT:=zh st1;have ae:=zh fU;have bZ:=zh hr1;clear hix aO h1 st1 HST fU hr1;go_wp2_with fail;refine iy.out.mono ?_;rintro mq w2 ⟨xv,bD,rfl,hf2,-,hx⟩;obtain⟨hx1,hx2⟩:=hx rfl;have dP:=Stp.kpn HH.out HB0.out (bT.out.trans hf2.2) ax.out (by have:=fG.out;omega);obtain⟨x0,x1,x2,x3⟩:=box4 dP;obtain⟨y0,y1,y2,y3⟩:=zkE hf2.1.bl lS.out;dsimp only at y0 y1 y2 y3
  have hex:=znu hK q0 P w2 r1 bD _ hf2.1 ⟨HQ.out,by rw[ae.out];exact Bg.out⟩ eP.out;rw[ae.out,HR2.out,ag.out] at hex;have gT:=zh hex;have dR:=zh hf2;have aY:=zh hx1;have bF:=zh hx2;clear hex dP hf2 hx hx1 hx2 iy;go_wp2_with fail;refine gT.out.mono ?_;rintro xV w3 ⟨yv,iR,rfl,hf3,hy0,hy⟩;have gu:=dR.out.trans hf3;have eF:=Stp.kpn HH.out HB0.out (bT.out.trans gu.2) ax.out (by have:=fG.out;omega);obtain⟨x0,x1,x2,x3⟩:=box4 eF;obtain⟨y0,y1,y2,y3⟩:=zkE gu.1.bl dQ.out;simp only[Nat.zero_mul,Addr.add_zero'] at y0 y1 y2 y3;obtain⟨y14,-⟩:=gu.1.errC;rw[ag.out] at y14;have fB:=zh gu;have qU:=zh hy0;have HY:=zh hy;clear eF hf3 gu hy0 hy gT;by_cases he2:iR=0;rotate_left 1
  ·have e1:(iR==0)=false:=by simpa using he2
   have e2:(iR != 0)=true:=by simpa using he2
   have aa:=zh (RunE.fail HH.out aM.out fB.out he2 (show o=.err iR by
    rw[ik.out];unfold zkQ;by_cases he1:bD=0
    ·subst he1;rw[if_neg (by rw[<-aY.out];simp)];unfold zlU;rw[if_pos (by rw[<-(HY.out rfl).1];exact he2),<-(HY.out rfl).1];exact zkw he2
    ·rw[if_pos (by rw[<-aY.out];exact he1),<-aY.out,<-qU.out he1];exact zkw he2) undef)
   clear he2;go_wp2_with fail;refine bodyPost_ret (results_none rfl _ _ _) rfl ?_;exact⟨⟨_,rfl⟩,aa.out.2⟩
  subst he2;have he1:bD=0:=Classical.byContradiction fun h=>h (qU.out h).symm;subst he1;obtain⟨g1,g2⟩:=HY.out rfl;obtain rfl:=g2 rfl;obtain rfl:=bF.out rfl;have hck:=zmv hK fB.out.1 (show zkA r1.S.cur.vs p0.s=some vp by rw[ae.out];exact ui.out) eQ.out R1.1;rw[ae.out,ag.out] at hck;have cB:=zh hck;have jw:=zh (show o=zki r1 (zlU r.S kq s p0.s q0.s R1.1 R2) by rw[ik.out];unfold zkQ;rw[if_neg (by rw[<-aY.out];simp)]);have pF:=zh g1;clear hck g1 g2;go_wp2_with fail;refine cB.out.mono ?_;rintro xU w4 ⟨id,hid,hck,rfl,kg⟩;have ay:=fB.out.trans kg;have hO4:o=zki r1 (if 0<=R1.1/\R1.1<(r.S.cell id).length then zlC r.S kq s q0.s R2.1 id R1.1.toNat else (12,r.S)):=by
   rw[jw.out];unfold zlU;rw[if_neg (by rw[<-pF.out];simp),hid]
  by_cases hin:0<=R1.1/\R1.1<((r.S.cell id).length:Int)
  rotate_left 1
  ·rw[if_neg hin] at ay hO4;obtain⟨y14,-⟩:=ay.1.errC;rw[ag.out] at y14;have aa:=zh (RunE.fail HH.out aM.out ay (by decide) (hO4.trans (zkw (by decide))) undef);clear ay kg hO4 hin hid hck;go_wp2_with fail;refine bodyPost_ret (results_none rfl _ _ _) rfl ?_;exact⟨⟨_,rfl⟩,aa.out.2⟩
  rw[if_pos hin] at ay hO4;obtain⟨m,hm⟩:∃ m:Nat,R1.1=(m:Int):=⟨R1.1.toNat,by omega⟩
  rw[hm] at hin hO4 ⊢;have eB:m<(r.S.cell id).length:=by omega
  obtain⟨y14,-⟩:=ay.1.errC;rw[ag.out] at y14;have hlt:id<r1.S.nc:=by rw[ae.out];exact zmg HH.out.inv.wf hid
  obtain⟨g,cc,hci,hcl,u1,yJ,mR,u3,hne,-⟩:=ay.1.rowC hlt (by rw[ae.out];omega);have u2:=mR m (by rw[ae.out];exact eB);have iB:=fun y=>putS (y:=y) ay.1.rws hlt hci (by rw[ae.out];exact eB);rw[ae.out] at hci u1 u2 hcl iB;obtain⟨l,hl⟩:∃ l,(r.S.cell id).length=l:=⟨_,rfl⟩
  obtain⟨z,hz⟩:∃ z,r.S.el id m=z:=⟨_,rfl⟩
  rw[hl] at eB u1 hci;rw[hz] at u2;have h3:(0:Int)<=(m:Int):=by omega
  have h4:(m:Int)<(l:Int):=by omega
  have u4:∀ o,w4.drew.frozen? ⟨g,o,none⟩=false:=u3;have jB:=zh hne;have uP:=zh (show ∀ (y:Int) (w6:World),w4.setCell ⟨g,m,none⟩ (.int .i64 y)=w6->updE kq z R2.1=y->RunE K P W r o (.returned undef) w6.drew from fun y w6 hw hy=>by
   have hup:zlC r.S kq s q0.s R2.1 id m=(0,r.S.put id m y):=by unfold zlC;rw[if_pos (by rw[<-yx.out];decide),hz,hy]
   have jO:o=.ok { r1 with S:=r.S.put id m y }:=by rw[hO4,Int.toNat_natCast,hup];exact zlp
   have fP:(r.S.put id m y).WF:=by
    have h9:=dI.out;unfold zkQ zlU at h9;rw[if_neg (by rw[<-aY.out];simp),if_neg (by rw[<-pF.out];simp),hid] at h9;simp only[hm] at h9;rw[if_pos (by rw[hl];exact⟨h3,h4⟩),Int.toNat_natCast,hup] at h9;exact h9
   have bA:=iB y;have hdr:Below (w4.setCell ⟨g,m,none⟩ (.int .i64 y)).heap.size (w4.setCell ⟨g,m,none⟩ (.int .i64 y)) w6.drew:=by rw[hw];exact(Below.refl _ _).drew
   have aW:=bA.below hdr;have hS1:Stp K.n0 (zkg K P r1 0) w1 (zkg K P { r1 with S:=r.S.put id m y } 0) w6.drew:=ay.2.trans aW;have hrf:=ay.1.fin hK (P':=P) (S':=r.S.put id m y) aW (SamP.refl P _) (by rw[ae.out];exact⟨rfl,rfl,rfl⟩) fP (by have:=ay.1.iv.stp aW;rw[ae.out] at this;exact this) (by have:=ay.1.ov.stp aW;rw[ae.out] at this;exact this);exact RunE.ok HH.out (aM.out.trans hS1) hrf (SamP.refl P _) jO undef)
  clear ay kg hO4 hid hck hlt hci hcl yJ mR u3 hne iB hl hz hm hin
 ·skip
  go_upto_region 17 with fail;have hSS:(fun w':World=>w'.cell? ⟨P.cb id,0,none⟩=some (.slice (some ⟨g,0,none⟩) l cc)) w4.drew/\(fun w':World=>w'.cell? ⟨g,m,none⟩=some (.int .i64 z)) w4.drew:=⟨u1,u2⟩
  refine wp_region_noPanic ?_;refine zkd (fun w':World=>w'.cell? ⟨P.cb id,0,none⟩=some (.slice (some ⟨g,0,none⟩) l cc)) (fun w':World=>w'.cell? ⟨g,m,none⟩=some (.int .i64 z)) 15 (by kernel_rfl) ?_;refine zT 0 hSS ?_;(try simp only[zQ]);refine zT 1 hSS ?_;(try simp only[zQ]);refine zT 2 hSS ?_;(try simp only[zQ]);refine zT 3 hSS ?_;(try simp only[zQ]);refine zT 4 hSS ?_;(try simp only[zQ]);refine zT 5 hSS ?_;(try simp only[zQ]);refine zT 6 hSS ?_;(try simp only[zQ]);refine zT 7 hSS ?_;(try simp only[zQ]);refine zT 8 hSS ?_;(try simp only[zQ]);refine zT 9 hSS ?_;(try simp only[zQ]);refine zT 10 hSS ?_;(try simp only[zQ]);refine zko (i:=11) (v:=?_) rfl (by kernel_rfl) (by kernel_rfl) (by kernel_rfl) (by decide) rfl (by kernel_rfl) (by kernel_rfl) (fun _ _ _ h=>h) (Or.inl ⟨by rfl,?_⟩) hSS ?_;rotate_left 1
  ·(intro w hSw;(try dsimp only at hSw);(try simp only[zA,zB,zC]);go_simp;(try with_reducible rfl))
  (try simp only[zQ]);refine zT 12 hSS ?_;(try simp only[zQ]);refine zT 13 hSS ?_;(try simp only[zQ]);refine zT 14 hSS ?_;(try simp only[zQ]);obtain⟨w6,bz⟩:∃ x,w4.setCell ⟨g,m,none⟩ (.int .i64 (IntKind.i64.wrap (z+R2.1)))=x:=⟨_,rfl⟩
  have qW:=zh bz;have u5:w6.drew.cell? ⟨P.cb id,0,none⟩=some (.slice (some ⟨g,0,none⟩) l cc):=by
   show w6.cell? _=_
   rw[<-bz];exact zks u1 (Below.heap_setCell _ _ _ _ (fun e=>jB.out e.symm))
  refine zp 15 fun K hK=>?_;(try simp only[zA,zB,zC]);go_simp
  try rw[bz]
  refine hK.out _ _ u5 ?_;clear hK K hSS;(try simp only[zQ]);refine zd ?_;refine NoPanic.normal ?_;have aa:=zh (uP.out (IntKind.i64.wrap (z+R2.1)) w6 (by rw[<-qW.out]) (by rw[<-yx.out];first|rfl|(simp[updE];done)|(rw[IntWalk.i64_left];simp[updE])));clear u5 u1 u2 bz;go_wp2_with fail;go_end0;exact⟨⟨_,rfl⟩,aa.out.2⟩
 ·skip
  go_upto_region 19 with fail;have hSS:(fun w':World=>w'.cell? ⟨P.cb id,0,none⟩=some (.slice (some ⟨g,0,none⟩) l cc)) w4.drew/\(fun w':World=>w'.cell? ⟨g,m,none⟩=some (.int .i64 z)) w4.drew:=⟨u1,u2⟩
  refine wp_region_noPanic ?_;refine zkd (fun w':World=>w'.cell? ⟨P.cb id,0,none⟩=some (.slice (some ⟨g,0,none⟩) l cc)) (fun w':World=>w'.cell? ⟨g,m,none⟩=some (.int .i64 z)) 15 (by kernel_rfl) ?_;refine zT 0 hSS ?_;(try simp only[zQ]);refine zT 1 hSS ?_;(try simp only[zQ]);refine zT 2 hSS ?_;(try simp only[zQ]);refine zT 3 hSS ?_;(try simp only[zQ]);refine zT 4 hSS ?_;(try simp only[zQ]);refine zT 5 hSS ?_;(try simp only[zQ]);refine zT 6 hSS ?_;(try simp only[zQ]);refine zT 7 hSS ?_;(try simp only[zQ]);refine zT 8 hSS ?_;(try simp only[zQ]);refine zT 9 hSS ?_;(try simp only[zQ]);refine zT 10 hSS ?_;(try simp only[zQ]);refine zko (i:=11) (v:=?_) rfl (by kernel_rfl) (by kernel_rfl) (by kernel_rfl) (by decide) rfl (by kernel_rfl) (by kernel_rfl) (fun _ _ _ h=>h) (Or.inl ⟨by rfl,?_⟩) hSS ?_;rotate_left 1
  ·(intro w hSw;(try dsimp only at hSw);(try simp only[zA,zB,zC]);go_simp;(try with_reducible rfl))
  (try simp only[zQ]);refine zT 12 hSS ?_;(try simp only[zQ]);refine zT 13 hSS ?_;(try simp only[zQ]);refine zT 14 hSS ?_;(try simp only[zQ]);obtain⟨w6,bz⟩:∃ x,w4.setCell ⟨g,m,none⟩ (.int .i64 (IntKind.i64.wrap (z-R2.1)))=x:=⟨_,rfl⟩
  have qW:=zh bz;have u5:w6.drew.cell? ⟨P.cb id,0,none⟩=some (.slice (some ⟨g,0,none⟩) l cc):=by
   show w6.cell? _=_
   rw[<-bz];exact zks u1 (Below.heap_setCell _ _ _ _ (fun e=>jB.out e.symm))
  refine zp 15 fun K hK=>?_;(try simp only[zA,zB,zC]);go_simp
  try rw[bz]
  refine hK.out _ _ u5 ?_;clear hK K hSS;(try simp only[zQ]);refine zd ?_;refine NoPanic.normal ?_;have aa:=zh (uP.out (IntKind.i64.wrap (z-R2.1)) w6 (by rw[<-qW.out]) (by rw[<-yx.out];first|rfl|(simp[updE];done)|(rw[IntWalk.i64_left];simp[updE])));clear u5 u1 u2 bz;go_wp2_with fail;go_end0;exact⟨⟨_,rfl⟩,aa.out.2⟩
 ·skip
  go_upto_region 21 with fail;have hSS:(fun w':World=>w'.cell? ⟨P.cb id,0,none⟩=some (.slice (some ⟨g,0,none⟩) l cc)) w4.drew/\(fun w':World=>w'.cell? ⟨g,m,none⟩=some (.int .i64 z)) w4.drew:=⟨u1,u2⟩
  refine wp_region_noPanic ?_;refine zkd (fun w':World=>w'.cell? ⟨P.cb id,0,none⟩=some (.slice (some ⟨g,0,none⟩) l cc)) (fun w':World=>w'.cell? ⟨g,m,none⟩=some (.int .i64 z)) 15 (by kernel_rfl) ?_;refine zT 0 hSS ?_;(try simp only[zQ]);refine zT 1 hSS ?_;(try simp only[zQ]);refine zT 2 hSS ?_;(try simp only[zQ]);refine zT 3 hSS ?_;(try simp only[zQ]);refine zT 4 hSS ?_;(try simp only[zQ]);refine zT 5 hSS ?_;(try simp only[zQ]);refine zT 6 hSS ?_;(try simp only[zQ]);refine zT 7 hSS ?_;(try simp only[zQ]);refine zT 8 hSS ?_;(try simp only[zQ]);refine zT 9 hSS ?_;(try simp only[zQ]);refine zT 10 hSS ?_;(try simp only[zQ]);refine zko (i:=11) (v:=?_) rfl (by kernel_rfl) (by kernel_rfl) (by kernel_rfl) (by decide) rfl (by kernel_rfl) (by kernel_rfl) (fun _ _ _ h=>h) (Or.inl ⟨by rfl,?_⟩) hSS ?_;rotate_left 1
  ·(intro w hSw;(try dsimp only at hSw);(try simp only[zA,zB,zC]);go_simp;(try with_reducible rfl))
  (try simp only[zQ]);refine zT 12 hSS ?_;(try simp only[zQ]);refine zT 13 hSS ?_;(try simp only[zQ]);refine zT 14 hSS ?_;(try simp only[zQ]);obtain⟨w6,bz⟩:∃ x,w4.setCell ⟨g,m,none⟩ (.int .i64 (bits BinOp.xor IntKind.i64 z R2.1))=x:=⟨_,rfl⟩
  have qW:=zh bz;have u5:w6.drew.cell? ⟨P.cb id,0,none⟩=some (.slice (some ⟨g,0,none⟩) l cc):=by
   show w6.cell? _=_
   rw[<-bz];exact zks u1 (Below.heap_setCell _ _ _ _ (fun e=>jB.out e.symm))
  refine zp 15 fun K hK=>?_;(try simp only[zA,zB,zC]);go_simp
  try rw[bz]
  refine hK.out _ _ u5 ?_;clear hK K hSS;(try simp only[zQ]);refine zd ?_;refine NoPanic.normal ?_;have aa:=zh (uP.out (bits BinOp.xor IntKind.i64 z R2.1) w6 (by rw[<-qW.out]) (by rw[<-yx.out];first|rfl|(simp[updE];done)|(rw[IntWalk.i64_left];simp[updE])));clear u5 u1 u2 bz;go_wp2_with fail;go_end0;exact⟨⟨_,rfl⟩,aa.out.2⟩
theorem ztF {K:RK} (hK:K.Ok) {P:RP} {W:World} {r:RS} (h:RF K P W r 0) {k0 n:Int} {s:ByteArray} {p q:T} {v:Value} (hv:NV K.w Any (.nd k0 n s [p,q]) v) (hs:isS (.nd 43 n s [p,q])=true) (hf:fltE r.S.cur.vs (.nd 43 n s [p,q])=0) :
  Calls Tryz.prog 71 #[.pointer (some ⟨P.rb,0,none⟩),.int .u8 43,v] W (RunE K P W r ((zkq K.F r).bind fun r=>zki r (doE r.S (.nd 43 n s [p,q])))):=by
 have hd:=zsc hs (by omega) hf;have hwf:=zo6 h.inv.wf (.nd 43 n s [p,q]);obtain⟨p',q',he,hp,hq⟩:=(zoh hs).2.1 rfl;injection he with he1 he2;injection he2 with he2;subst he1 he2;obtain⟨-,hfs⟩:=zlk hf;have hfp:=zk4 hfs p (by simp);have mf:=zk4 hfs q (by simp);have hvp:∃ vp,zkA r.S.cur.vs p.s=some vp:=by
  obtain⟨pk,pn,ps,xu⟩:=p;simp only[isP,T.k_nd,Bool.and_eq_true,Bool.or_eq_true,beq_iff_eq] at hp;obtain⟨h1,_⟩:=zlk hfp;obtain⟨w,h2,-⟩:=zk6 h1 (by rcases hp.1 with rfl|rfl<;>decide);exact⟨w,h2⟩
 obtain⟨vp,hvp⟩:=hvp;have xD:∃ vq,zkA r.S.cur.vs q.s=some vq:=by
  obtain⟨pk,pn,ps,xu⟩:=q;simp only[isP,T.k_nd,Bool.and_eq_true,Bool.or_eq_true,beq_iff_eq] at hq;obtain⟨h1,_⟩:=zlk mf;obtain⟨w,h2,-⟩:=zk6 h1 (by rcases hq.1 with rfl|rfl<;>decide);exact⟨w,h2⟩
 obtain⟨vq,xD⟩:=xD;have hrt:zlO r.S 43 q=indE r.S.look q:=by
  unfold zlO;rw[if_pos rfl]
 rw[hrt] at hd;rw[hd] at hwf;obtain⟨R1,eG⟩:∃ R1,indE r.S.look p=R1:=⟨_,rfl⟩
 obtain⟨R2,hR2⟩:∃ R2,indE r.S.look q=R2:=⟨_,rfl⟩
 rw[eG,hR2] at hd hwf;obtain⟨o,ho⟩:∃ o,((zkq K.F r).bind fun r=>zki r (doE r.S (.nd 43 n s [p,q])))=o:=⟨_,rfl⟩
 have jA:=zh (show K.F<=(r.n:Int)->o=.err 18 from fun h=>by rw[<-ho,zkq,if_pos h];rfl);have jQ:=zh (show(r.n:Int)<K.F->o=zki { r with n:=r.n+1 } (zkQ r.S 43 s p q R1 R2) from fun h=>by
  rw[<-ho,zkq,if_neg (by omega)]
  show zki _ (doE r.S _)=_
  rw[hd])
 rw[ho];obtain⟨A,c,rfl,-,-,-,hrow⟩:=hv.open_;simp only[T.k_nd,T.n_nd,T.s_nd,T.ks_nd,List.length_cons,List.length_nil,Nat.zero_add,Nat.reduceAdd] at hrow ⊢;obtain⟨a,p0,A2,c2,rfl,_,Hp,hnd,hn0⟩:=hrow.nd (i:=0) (by simp);obtain⟨a',q0,A3,c3,ea,_,Hq,gp,hn1⟩:=hrow.nd (i:=1) (by simp);injection ea with ea;subst ea;have ha:a.add (1*4)=⟨a.block,a.off+4,none⟩:=by unfold Addr.add;split<;>simp_all
 rw[ha] at gp;have hp0:p0=p:=Hp.out.symm;have hq0:q0=q:=Hq.out.symm;subst hp0 hq0;have hb0:=zkc (Below.refl W.heap.size W) (.cells #[.int .u8 k0,.int .i64 n,.string s,.slice (some a) 2 c] 26);have hbx:=heap_alloc_new W (.cells #[.int .u8 k0,.int .i64 n,.string s,.slice (some a) 2 c] 26);obtain⟨W0,hW0⟩:∃ x,W.alloc (.cells #[.int .u8 k0,.int .i64 n,.string s,.slice (some a) 2 c] 26)=x:=⟨_,rfl⟩
 obtain⟨nb,hnb⟩:∃ x,W.heap.size=x:=⟨_,rfl⟩
 rw[hW0] at hb0 hbx;rw[hnb] at hbx;have hh0:=h.later hb0;have HH:=zh h;have HB0:=zh hb0;have ax:=zh hbx;have fG:=zh hnb;obtain⟨x0,x1,x2,x3⟩:=box4 hbx;obtain⟨rb,hrb⟩:∃ b,P.rb=b:=⟨_,rfl⟩
 have ag:=zh hrb;have hst:=zmc hK hh0;rw[hrb] at hst;have HST:=zh hst;rw[hrb];obtain⟨y0,y1,y2,y3⟩:=zkE hh0.bl hnd;simp only[Nat.zero_mul,Addr.add_zero'] at y0 y1 y2 y3;have dQ:=zh hnd;have lS:=zh gp;have eQ:=zh hn0;have eP:=zh hn1;have HP:=zh hp;have HQ:=zh hq;have qH:=zh hfp;have Bg:=zh mf;have ui:=zh hvp;have HVQ:=zh xD;have dI:=zh hwf;have HR1:=zh eG;have HR2:=zh hR2;have gD:=zh (Stp.below (Stp.refl h.rws) hb0);clear hv hs hf hd hwf hfs hrow Hp Hq hnd gp hn0 hn1 hp hq hfp mf hvp xD eG hR2 ho hst hrb hb0 hbx hrt ha h;go_enter Tryz.func71,Tryz.ntmps71;go_wp2_with fail;refine HST.out.mono ?_;rintro kr w1 (⟨hF,rfl,hf⟩|⟨hF,rfl,h1,st1⟩)
 ·have aa:=zh (RunE.fail HH.out gD.out hf (by decide) (jA.out hF) undef);clear hf y0 y1 y2 y3 x0 x1 x2 x3;go_wp2_with fail;refine bodyPost_ret (results_none rfl _ _ _) rfl ?_;exact⟨⟨_,rfl⟩,aa.out.2⟩
 obtain⟨r1,hr1⟩:∃ x:RS,{ r with n:=r.n+1 }=x:=⟨_,rfl⟩
 have fU:r1.S=r.S:=by rw[<-hr1]
 have ik:=zh (show o=zki r1 (zkQ r.S 43 s p0 q0 R1 R2) by rw[<-hr1];exact jQ.out hF);rw[hr1] at h1 st1;have aM:=zh (gD.out.trans st1);have aO:=Stp.kpn HH.out HB0.out st1 ax.out (by have:=fG.out;omega);obtain⟨x0,x1,x2,x3⟩:=box4 aO;obtain⟨y0,y1,y2,y3⟩:=zkE h1.bl dQ.out;simp only[Nat.zero_mul,Addr.add_zero'] at y0 y1 y2 y3;have hix:=zmt hK h1 HP.out (by rw[fU];exact qH.out) eQ.out;rw[fU,HR1.out,ag.out] at hix;have iy:=zh hix;have bT:=zh st1;have ae:=zh fU;have bZ:=zh hr1;clear hix aO h1 st1 HST fU hr1;go_wp2_with fail;refine iy.out.mono ?_;rintro mq w2 ⟨xv,bD,rfl,hf2,-,hx⟩;obtain⟨hx1,hx2⟩:=hx rfl;have dP:=Stp.kpn HH.out HB0.out (bT.out.trans hf2.2) ax.out (by have:=fG.out;omega);obtain⟨x0,x1,x2,x3⟩:=box4 dP;obtain⟨y0,y1,y2,y3⟩:=zkE hf2.1.bl lS.out;dsimp only at y0 y1 y2 y3
 have hex:=zmt hK hf2.1 HQ.out (by rw[ae.out];exact Bg.out) eP.out;rw[ae.out,HR2.out,ag.out] at hex;have gT:=zh hex;have dR:=zh hf2;have aY:=zh hx1;have bF:=zh hx2;clear hex dP hf2 hx hx1 hx2 iy;go_wp2_with fail;refine gT.out.mono ?_;rintro xV w3 ⟨yv,iR,rfl,hf3,hy0,hy⟩;have gu:=dR.out.trans hf3;have eF:=Stp.kpn HH.out HB0.out (bT.out.trans gu.2) ax.out (by have:=fG.out;omega);obtain⟨x0,x1,x2,x3⟩:=box4 eF;obtain⟨y0,y1,y2,y3⟩:=zkE gu.1.bl dQ.out;simp only[Nat.zero_mul,Addr.add_zero'] at y0 y1 y2 y3;obtain⟨y14,-⟩:=gu.1.errC;rw[ag.out] at y14;have fB:=zh gu;have qU:=zh hy0;have HY:=zh hy;clear eF hf3 gu hy0 hy gT;by_cases he2:iR=0;rotate_left 1
 ·have e1:(iR==0)=false:=by simpa using he2
  have e2:(iR != 0)=true:=by simpa using he2
  have aa:=zh (RunE.fail HH.out aM.out fB.out he2 (show o=.err iR by
   rw[ik.out];unfold zkQ;by_cases he1:bD=0
   ·subst he1;rw[if_neg (by rw[<-aY.out];simp)];unfold zlU;rw[if_pos (by rw[<-(HY.out rfl).1];exact he2),<-(HY.out rfl).1];exact zkw he2
   ·rw[if_pos (by rw[<-aY.out];exact he1),<-aY.out,<-qU.out he1];exact zkw he2) undef)
  clear he2;go_wp2_with fail;refine bodyPost_ret (results_none rfl _ _ _) rfl ?_;exact⟨⟨_,rfl⟩,aa.out.2⟩
 subst he2;have he1:bD=0:=Classical.byContradiction fun h=>h (qU.out h).symm;subst he1;obtain⟨g1,g2⟩:=HY.out rfl;obtain rfl:=g2 rfl;obtain rfl:=bF.out rfl;have hck:=zmv hK fB.out.1 (show zkA r1.S.cur.vs p0.s=some vp by rw[ae.out];exact ui.out) eQ.out R1.1;rw[ae.out,ag.out] at hck;have cB:=zh hck;have jw:=zh (show o=zki r1 (zlU r.S 43 s p0.s q0.s R1.1 R2) by rw[ik.out];unfold zkQ;rw[if_neg (by rw[<-aY.out];simp)]);have pF:=zh g1;clear hck g1 g2;go_wp2_with fail;refine cB.out.mono ?_;rintro xU w4 ⟨id,hid,hck,rfl,kg⟩;have ay:=fB.out.trans kg;have hO4:o=zki r1 (if 0<=R1.1/\R1.1<(r.S.cell id).length then zlC r.S 43 s q0.s R2.1 id R1.1.toNat else (12,r.S)):=by
  rw[jw.out];unfold zlU;rw[if_neg (by rw[<-pF.out];simp),hid]
 by_cases hin:0<=R1.1/\R1.1<((r.S.cell id).length:Int)
 rotate_left 1
 ·rw[if_neg hin] at ay hO4;obtain⟨y14,-⟩:=ay.1.errC;rw[ag.out] at y14;have aa:=zh (RunE.fail HH.out aM.out ay (by decide) (hO4.trans (zkw (by decide))) undef);clear ay kg hO4 hin hid hck;go_wp2_with fail;refine bodyPost_ret (results_none rfl _ _ _) rfl ?_;exact⟨⟨_,rfl⟩,aa.out.2⟩
 ·rw[if_pos hin] at ay hO4;obtain⟨y14,-⟩:=ay.1.errC;rw[ag.out] at y14;have jk:=Stp.kpn HH.out HB0.out (bT.out.trans ay.2) ax.out (by have:=fG.out;omega);obtain⟨x0,x1,x2,x3⟩:=box4 jk;obtain⟨y0,y1,y2,y3⟩:=zkE ay.1.bl lS.out;dsimp only at y0 y1 y2 y3;have tu:=zmv hK ay.1 (show zkA r1.S.cur.vs q0.s=some vq by rw[ae.out];exact HVQ.out) eP.out R2.1;rw[ae.out,ag.out] at tu;have HCK2:=zh tu;have HF14:=zh ay;have iW:=zh hO4;have jS:=zh hin;have bV:=zh hid;clear tu ay kg hO4 hin hid hck jk;go_wp2_with fail;refine HCK2.out.mono ?_;rintro en5 w5 ⟨jd,hjd,hck5,rfl,zm⟩;have dE:=HF14.out.trans zm;have jO:o=zki r1 (if 0<=R2.1/\R2.1<(r.S.cell jd).length then (0,zrD r.S id R1.1.toNat jd R2.1.toNat) else (12,r.S)):=by
   rw[iW.out];unfold zlC;rw[if_neg (by decide),if_pos rfl,hjd]
  by_cases hjn:0<=R2.1/\R2.1<((r.S.cell jd).length:Int)
  rotate_left 1
  ·rw[if_neg hjn] at dE jO;obtain⟨y14,-⟩:=dE.1.errC;rw[ag.out] at y14;have aa:=zh (RunE.fail HH.out aM.out dE (by decide) (jO.trans (zkw (by decide))) undef);clear dE zm jO hjn hjd hck5 y0 y1 y2 y3 x0 x1 x2 x3;go_wp2_with fail;refine bodyPost_ret (results_none rfl _ _ _) rfl ?_;exact⟨⟨_,rfl⟩,aa.out.2⟩
  ·rw[if_pos hjn] at dE jO;have hin:=jS.out;have hid:=bV.out;obtain⟨m,hm⟩:∃ m:Nat,R1.1=(m:Int):=⟨R1.1.toNat,by omega⟩
   obtain⟨j,hj⟩:∃ j:Nat,R2.1=(j:Int):=⟨R2.1.toNat,by omega⟩
   rw[hm] at hin jO ⊢;rw[hj] at hjn jO ⊢;have eB:m<(r.S.cell id).length:=by omega
   have hjl:j<(r.S.cell jd).length:=by omega
   obtain⟨y14,-⟩:=dE.1.errC;rw[ag.out] at y14;have hlt:id<r1.S.nc:=by rw[ae.out];exact zmg HH.out.inv.wf hid
   have hlj:jd<r1.S.nc:=by rw[ae.out];exact zmg HH.out.inv.wf hjd
   obtain⟨g,cc,hci,hcl,u1,-,mR,u3,hne,-⟩:=dE.1.rowC hlt (by rw[ae.out];omega);obtain⟨g2,xW,p9,hcl2,t1,-,t2',t3,hne2,-⟩:=dE.1.rowC hlj (by rw[ae.out];omega);have hgj:g≠P.cb jd:=fun e=>by
    refine dE.1.rws.sep (.row id) (.cel jd) g (by simp) ?_ ?_
    ·rw[zkV K P 0 hlt];show(P.ci id).ownBlock=some g;rw[hci];rfl
    ·rw[zkO K P 0 hlj,e];rfl
   have u2:=mR m (by rw[ae.out];exact eB);have t2:=t2' j (by rw[ae.out];exact hjl);obtain⟨z,hz⟩:∃ z,r.S.el id m=z:=⟨_,rfl⟩
   obtain⟨y,hy⟩:∃ y,r.S.el jd j=y:=⟨_,rfl⟩
   have bA:=putS (y:=y) dE.1.rws hlt hci (by rw[ae.out];exact eB);have hlen:∀ q,((r1.S.put id m y).cell q).length=(r1.S.cell q).length:=fun q=>by
    simp only[ST.put,ST.setL]
    split
    ·rename_i e;subst e;simp
    ·rfl
   have aW:=putS (y:=z) (r:={ r1 with S:=r1.S.put id m y }) (id:=jd) (i:=j) (g:=g2) (c:=xW) bA.rws hlj (by show P.ci jd=_;rw[hlen];exact p9) (by show j<((r1.S.put id m y).cell jd).length;rw[hlen,ae.out];exact hjl);obtain⟨w6,bz⟩:∃ x,w5.setCell ⟨g,m,none⟩ (.int .i64 y)=x:=⟨_,rfl⟩
   rw[bz] at bA aW;obtain⟨w7,hw7⟩:∃ x,w6.setCell ⟨g2,j,none⟩ (.int .i64 z)=x:=⟨_,rfl⟩
   rw[hw7] at aW;have v1:w6.cell? ⟨P.cb jd,0,none⟩=some (.slice (some ⟨g2,0,none⟩) (r.S.cell jd).length xW):=by
    rw[<-bz];rw[ae.out] at t1;exact zks t1 (Below.heap_setCell _ _ _ _ (fun e=>hgj e.symm))
   have v3:∀ o,w6.frozen? ⟨g2,o,none⟩=false:=fun o=>bA.rws.frozen (.row jd) (by
    show(if jd<r1.S.nc then _ else _:RowD).v.ownBlock=some g2
    rw[if_pos hlj]
    show(P.ci jd).ownBlock=some g2
    rw[p9];rfl) o
   obtain⟨zz,v2⟩:∃ q,w6.cell? ⟨g2,j,none⟩=some (.int .i64 q):=by
    refine⟨(r1.S.put id m y).el jd j,bA.rws.cell (.row jd) (g:=g2) ?_ (o:=j) ?_⟩
    ·show(if jd<r1.S.nc then _ else _:RowD).v.ownBlock=some g2
     rw[if_pos hlj]
     show(P.ci jd).ownBlock=some g2
     rw[p9];rfl
    ·show(if jd<r1.S.nc then _ else _:RowD).xs[j]?=_
     rw[if_pos hlj];have hj9:j<((r1.S.put id m y).cell jd).length:=by rw[hlen,ae.out];exact hjl
     simp[zke,ST.el,List.getD_eq_getElem?_getD,hj9]
   have hsw:zrD r.S id m jd j=(r1.S.put id m y).put jd j z:=by rw[ae.out,<-hz,<-hy];rfl
   have hO6:o=.ok { r1 with S:=(r1.S.put id m y).put jd j z }:=by rw[jO,Int.toNat_natCast,Int.toNat_natCast,hsw];exact zlp
   have fP:((r1.S.put id m y).put jd j z).WF:=by
    have h9:=dI.out;unfold zkQ zlU zlC at h9;rw[if_neg (by rw[<-aY.out];simp),if_neg (by rw[<-pF.out];simp),hid] at h9;simp only[hm] at h9;rw[if_pos hin,if_neg (by decide),if_pos trivial,hjd] at h9;simp only[hj] at h9;rw[if_pos hjn,Int.toNat_natCast,Int.toNat_natCast,hsw] at h9;exact h9
   have bu:=(bA.trans aW).below (show Below w7.heap.size w7 w7.drew from (Below.refl _ _).drew);have hrf:=dE.1.fin hK (P':=P) (S':=(r1.S.put id m y).put jd j z) bu (SamP.refl P _) ⟨rfl,rfl,rfl⟩ fP (dE.1.iv.stp bu) (dE.1.ov.stp bu);have aa:=zh (RunE.ok HH.out (aM.out.trans (dE.2.trans bu)) hrf (SamP.refl P _) hO6 undef);rw[ae.out] at u1 u2 t1 t2;obtain⟨l,hl⟩:∃ l,(r.S.cell id).length=l:=⟨_,rfl⟩
   obtain⟨l2,hl2⟩:∃ l,(r.S.cell jd).length=l:=⟨_,rfl⟩
   rw[hl] at eB u1;rw[hl2] at hjl t1 v1;rw[hz] at u2;rw[hy] at t2;have h3:(0:Int)<=(m:Int):=by omega
   have h4:(m:Int)<(l:Int):=by omega
   have h5:(0:Int)<=(j:Int):=by omega
   have h6:(j:Int)<(l2:Int):=by omega
   have u4:∀ o,w5.drew.frozen? ⟨g,o,none⟩=false:=u3;clear dE zm jO hjn hjd hck5 hin hid hlt hlj hci hcl mR hne p9 hcl2 t2' t3 hne2 hgj hlen bA aW hsw hO6 fP bu hrf hl hl2 hz hy hm hj y0 y1 y2 y3 x0 x1 x2 x3;go_upto_region 23 with fail;have aG:=zh (show(fun w':World=>w'.cell? ⟨P.cb id,0,none⟩=some (.slice (some ⟨g,0,none⟩) l cc)/\w'.cell? ⟨g,m,none⟩=some (.int .i64 z)/\w'.cell? ⟨P.cb jd,0,none⟩=some (.slice (some ⟨g2,0,none⟩) l2 xW)/\w'.cell? ⟨g2,j,none⟩=some (.int .i64 y)) w5.drew from ⟨u1,u2,t1,t2⟩)
   go_region_held3 (fun w':World=>w'.cell? ⟨P.cb id,0,none⟩=some (.slice (some ⟨g,0,none⟩) l cc)/\w'.cell? ⟨g,m,none⟩=some (.int .i64 z)/\w'.cell? ⟨P.cb jd,0,none⟩=some (.slice (some ⟨g2,0,none⟩) l2 xW)/\w'.cell? ⟨g2,j,none⟩=some (.int .i64 y))
    (with_reducible exact aG.out)
    (first|fail)
   go_wp2_with fail;go_end0;exact⟨⟨_,rfl⟩,aa.out.2⟩
theorem zvp {K:RK} (hK:K.Ok) {P:RP} {W:World} {r:RS} (h:RF K P W r 0) {k0 n:Int} {s:ByteArray} {ks:List T} {v:Value} (hv:NV K.w Any (.nd k0 n s ks) v) (hs:isS (.nd 56 n s ks)=true) :
  Calls Tryz.prog 71 #[.pointer (some ⟨P.rb,0,none⟩),.int .u8 56,v] W (RunE K P W r ((zkq K.F r).bind fun r=>zki r (doE r.S (.nd 56 n s ks)))):=by
 obtain⟨o,ho⟩:∃ o,((zkq K.F r).bind fun r=>zki r (doE r.S (.nd 56 n s ks)))=o:=⟨_,rfl⟩
 have jA:=zh (show K.F<=(r.n:Int)->o=.err 18 from fun h=>by rw[<-ho,zkq,if_pos h];rfl);have jQ:=zh (show(r.n:Int)<K.F->o=.err 9 from fun h=>by
  rw[<-ho,zkq,if_neg (by omega)]
  show zki _ (doE r.S _)=_
  rw[zxs hs];exact zkw (by decide))
 rw[ho];obtain⟨A,c,rfl,-⟩:=hv.open_;simp only[T.k_nd,T.n_nd,T.s_nd,T.ks_nd] at *
 obtain⟨L,hL⟩:∃ L,ks.length=L:=⟨_,rfl⟩
 rw[hL];have hb0:=zkc (Below.refl W.heap.size W) (.cells #[.int .u8 k0,.int .i64 n,.string s,.slice A L c] 26);obtain⟨W0,hW0⟩:∃ x,W.alloc (.cells #[.int .u8 k0,.int .i64 n,.string s,.slice A L c] 26)=x:=⟨_,rfl⟩
 rw[hW0] at hb0;have hh0:=h.later hb0;have HH:=zh h;have gD:=zh (Stp.below (Stp.refl h.rws) hb0);have hst:=zmc hK hh0;have HST:=zh hst;clear hv hs ho hst hb0 hh0 hL h;go_enter Tryz.func71,Tryz.ntmps71;go_wp2_with fail;refine HST.out.mono ?_;rintro kr w1 (⟨hF,rfl,hf⟩|⟨hF,rfl,h1,st1⟩)
 ·have aa:=zh (RunE.fail HH.out gD.out hf (by decide) (jA.out hF) undef);clear hf;go_wp2_with fail;refine bodyPost_ret (results_none rfl _ _ _) rfl ?_;exact⟨⟨_,rfl⟩,aa.out.2⟩
 ·have aR:=zh (zkR hK h1 9);have aM:=zh (gD.out.trans st1);have ik:=zh (jQ.out hF);clear h1 st1 HST;go_wp2_with fail;refine aR.out.mono ?_;rintro mq w2 ⟨⟨u,rfl⟩,hf2⟩;rw[if_pos trivial] at hf2;have aa:=zh (RunE.fail HH.out aM.out hf2 (by decide) ik.out undef);clear hf2 aR;go_wp2_with fail;refine bodyPost_ret (results_none rfl _ _ _) rfl ?_;exact⟨⟨_,rfl⟩,aa.out.2⟩
theorem zss {S:ST} {k n:Int} {s:ByteArray} {p:T} (hs:isS (.nd k n s [p])=true) (hk:44<=k/\k<=49) (hf:fltE S.cur.vs (.nd k n s [p])=0):doE S (.nd k n s [p])=zkQ S k s p nil0 (indE S.look p) (0,0):=by
 rw[zte hs (by omega) (by omega) hf]
 show zkQ S k s p nil0 (indE S.look p) (zlO S k nil0)=_
 rw[show zlO S k nil0=(0,0) by unfold zlO;rw[if_neg (by omega),if_neg (by omega)]]
theorem fldS {K:RK} {P P':RP} {W:World} {r r':RS} {er er':Int} (hr:Rws W K.n0 (zkg K P r er)) {o:Nat} (ho:o<15) (u:Value) (hx:(K.cells P r er).set o u=K.cells P' r' er') (hc:P'.cv=P.cv/\P'.cb=P.cb/\P'.ci=P.ci/\P'.rb=P.rb) (he:r'.ent=r.ent) (hn:r'.S.nc=r.S.nc) (hl:r'.S.cell=r.S.cell) :
  Stp K.n0 (zkg K P r er) W (zkg K P' r' er') (W.setCell ⟨P.rb,o,none⟩ u):=by
 refine(Stp.set (i:=RX.run) hr (g:=P.rb) rfl (o:=o) ho u).cast ?_;obtain⟨h1,h2,h3,h4⟩:=hc;funext x
 cases x with
 | run=>rw[zkk];simp only[zkg];rw[hx,h4]
 | cnt=>rw[zkb (by simp)];simp only[zkg];rw[h1,he]
 | cel i=>rw[zkb (by simp)];simp only[zkg];rw[h2,h3,hn]
 | row i=>rw[zkb (by simp)];simp only[zkg];rw[h3,hn,hl]
theorem Sl.tail {w:World} {S:Nat->Prop} {a:Addr} {n c:Nat} {u:Value} {us:List Value} (h:Sl w S (.slice (some a) n c) (u::us)):Sl w S (.slice (some (a.add 1)) us.length (c-1)) us:=by
 obtain⟨A',c',h1,h2,h3⟩:=h;injection h1 with e1 e2 e3;subst e1 e2 e3;refine⟨_,_,rfl,by simp at h2;omega,fun i hi=>?_⟩;obtain⟨a',g1,g2,g3⟩:=h3 (i+1) (by simpa using hi);injection g1 with g1;subst g1;refine⟨_,rfl,by rw[zkv];exact g2,?_⟩;rw[Addr.add_add,Nat.add_comm 1 i,g3];rfl
theorem popS {K:RK} {P:RP} {W:World} {r:RS} {er:Int} (hr:Rws W K.n0 (zkg K P r er)) {sid:Nat} (hid:sid<r.S.nc) {g c j:Nat} (hlen:(r.S.cell sid).length=j+1) (hci:P.ci sid=.slice (some ⟨g,0,none⟩) (j+1) c) :
  Stp K.n0 (zkg K P r er) W (zkg K { P with ci:=fun q=>if q=sid then .slice (some ⟨g,0,none⟩) j c else P.ci q } { r with S:=r.S.setL sid ((r.S.cell sid).take j) } er) (W.setCell ⟨P.cb sid,0,none⟩ (.slice (some ⟨g,0,none⟩) j c)):=by
 have h1:=hr.row (.row sid);rw[zkV K P er hid] at h1;have h1:W.ownsRow K.n0 3 1 (.slice (some ⟨g,0,none⟩) (j+1) c) (j+1) (zke (r.S.cell sid)):=by rw[<-hci,<-hlen];exact h1
 have e1:zke (r.S.cell sid)=zke ((r.S.cell sid).take j)++zke ((r.S.cell sid).drop j):=by simp only[zke];rw[<-List.map_append,List.take_append_drop]
 rw[e1] at h1;have su:W.ownsRow K.n0 3 1 (.slice (some ⟨g,0,none⟩) j c) j (zke ((r.S.cell sid).take j)):=ownsRow_pop (by simp[zke];omega) h1;have st1:Stp K.n0 (zkg K P r er) W (updR (zkg K P r er) (.row sid) ⟨.slice (some ⟨g,0,none⟩) j c,3,1,j,zke ((r.S.cell sid).take j)⟩) W :=
  Stp.upd hr (Chg.refl _ _) su (fun b hb=>.inl (by rw[zkV K P er hid];show(P.ci sid).ownBlock=some b;rw[hci];exact hb))
 have st2:=Stp.set (i:=RX.cel sid) st1.rws (g:=P.cb sid) (by rw[zkb (by simp),zkO K P er hid];rfl) (o:=0) (by rw[zkb (by simp),zkO K P er hid];simp) (.slice (some ⟨g,0,none⟩) j c);refine(st1.trans st2).cast ?_;funext x
 cases x with
 | run=>rw[zkb (by simp),zkb (by simp)];rfl
 | cnt=>rw[zkb (by simp),zkb (by simp)];rfl
 | cel i =>
  by_cases e:i=sid
  ·subst e;rw[zkk,zkb (by simp),zkO K P er hid];simp[zkg,ST.setL,hid]
  ·rw[zkb (by simpa using e),zkb (by simp)];simp[zkg,ST.setL,e]
 | row i =>
  by_cases e:i=sid
  ·subst e;rw[zkb (by simp),zkk];simp[zkg,ST.setL,hid,hlen]
  ·rw[zkb (by simp),zkb (by simpa using e)];simp[zkg,ST.setL,e]
theorem zri {S:ST} (h:S.WF) {a b:Nat} {k k':Int} (ha:CurK S a k) (hb:CurK S b k') (hk:k≠k'):a≠b:=fun e=>by
 subst e;obtain⟨kd,hw⟩:=h.cur;have key:∀ {k},CurK S a k->(kd a).1=k:=fun {k} ⟨i,v,h1,h2,h3⟩=>by
  have hi:=List.getElem?_eq_some_iff.1 h1;have hj:=List.getElem?_eq_some_iff.1 h2;have h4:=hw.kind i hi.1 hj.1;rw[hj.2,hi.2] at h4;rw[h4];exact h3
 exact hk ((key ha).symm.trans (key hb))
theorem znZ {S:ST} {k:Int} (hk:46<=k/\k<=49) (s qs:ByteArray) (x:Int) (id m:Nat):zlC S k s qs x id m=zlf S k id m:=by
 unfold zlC;rw[if_neg (by omega),if_neg (by omega),if_neg (by omega)]
theorem ztH {K:RK} (hK:K.Ok) {P:RP} {W:World} {r:RS} (h:RF K P W r 0) {k k0 n:Int} {s:ByteArray} {p:T} {v:Value} (hv:NV K.w Any (.nd k0 n s [p]) v) (hk0:k=45\/k=46\/k=49) (hs:isS (.nd k n s [p])=true) (hf:fltE r.S.cur.vs (.nd k n s [p])=0) :
  Calls Tryz.prog 71 #[.pointer (some ⟨P.rb,0,none⟩),.int .u8 k,v] W (RunE K P W r ((zkq K.F r).bind fun r=>zki r (doE r.S (.nd k n s [p])))):=by
 have hk:44<=k/\k<=49:=by omega
 have aQ:=zh hk0;clear hk0;have hd:=zss hs hk hf;have hwf:=zo6 h.inv.wf (.nd k n s [p]);have mW:=fun hk=>zqq h.inv.wf hf hk;obtain⟨p',he,hp⟩:=(zoh hs).2.2 hk;injection he with he1 _;subst he1;obtain⟨-,hfs⟩:=zlk hf;have hfp:=zk4 hfs p (by simp);have hvp:∃ vp,zkA r.S.cur.vs p.s=some vp/\vp.k≠3:=by
  obtain⟨pk,pn,ps,xu⟩:=p;simp only[isP,T.k_nd,Bool.and_eq_true,Bool.or_eq_true,beq_iff_eq] at hp;obtain⟨h1,_⟩:=zlk hfp;rcases hp.1 with rfl|rfl
  ·obtain⟨w,h2,h3⟩:=zk6 h1 (by decide);exact⟨w,h2,by rw[h3];decide⟩
  ·obtain⟨w,h2,h3⟩:=zk6 h1 (by decide);exact⟨w,h2,by rw[h3];decide⟩
 obtain⟨vp,hvp,hvk⟩:=hvp;have hvs:(k=44\/k=45)->∃ vs,zkA r.S.cur.vs s=some vs:=fun hk=>by
  obtain⟨h1,_⟩:=zlk hf;obtain⟨w,h2,-⟩:=zk6 h1 (by rcases hk with rfl|rfl<;>decide);exact⟨w,h2⟩
 rw[hd] at hwf;obtain⟨R1,eG⟩:∃ R1,indE r.S.look p=R1:=⟨_,rfl⟩
 rw[eG] at hd hwf;obtain⟨o,ho⟩:∃ o,((zkq K.F r).bind fun r=>zki r (doE r.S (.nd k n s [p])))=o:=⟨_,rfl⟩
 have jA:=zh (show K.F<=(r.n:Int)->o=.err 18 from fun h=>by rw[<-ho,zkq,if_pos h];rfl);have jQ:=zh (show(r.n:Int)<K.F->o=zki { r with n:=r.n+1 } (zkQ r.S k s p nil0 R1 (0,0)) from fun h=>by
  rw[<-ho,zkq,if_neg (by omega)]
  show zki _ (doE r.S _)=_
  rw[hd])
 rw[ho];obtain⟨A,c,rfl,-,-,-,hrow⟩:=hv.open_;simp only[T.k_nd,T.n_nd,T.s_nd,T.ks_nd,List.length_cons,List.length_nil,Nat.zero_add,Nat.reduceAdd] at hrow ⊢;obtain⟨a,p0,A2,c2,rfl,_,Hp,hnd,hn0⟩:=hrow.nd (i:=0) (by simp);have hp0:p0=p:=Hp.out.symm;subst hp0;have hb0:=zkc (Below.refl W.heap.size W) (.cells #[.int .u8 k0,.int .i64 n,.string s,.slice (some a) 1 c] 26);have hbx:=heap_alloc_new W (.cells #[.int .u8 k0,.int .i64 n,.string s,.slice (some a) 1 c] 26);obtain⟨W0,hW0⟩:∃ x,W.alloc (.cells #[.int .u8 k0,.int .i64 n,.string s,.slice (some a) 1 c] 26)=x:=⟨_,rfl⟩
 obtain⟨nb,hnb⟩:∃ x,W.heap.size=x:=⟨_,rfl⟩
 rw[hW0] at hb0 hbx;rw[hnb] at hbx;have hh0:=h.later hb0;have HH:=zh h;have HB0:=zh hb0;have ax:=zh hbx;have fG:=zh hnb;obtain⟨x0,x1,x2,x3⟩:=box4 hbx;obtain⟨rb,hrb⟩:∃ b,P.rb=b:=⟨_,rfl⟩
 have ag:=zh hrb;have hst:=zmc hK hh0;rw[hrb] at hst;have HST:=zh hst;rw[hrb];have dQ:=zh hnd;have eQ:=zh hn0;have HP:=zh hp;have qH:=zh hfp;have ui:=zh hvp;have wO:=zh hvk;have zY:=zh hvs;have nY:=zh mW;have dI:=zh hwf;have HR1:=zh eG;have HKK:=zh hk;have gD:=zh (Stp.below (Stp.refl h.rws) hb0);have yM:(k==56)=false:=by simp;omega
 have k40:(k==40)=false:=by simp;omega
 have k41:(k==41)=false:=by simp;omega
 have k42:(k==42)=false:=by simp;omega
 have xx:(k==43)=false:=by simp;omega
 clear hv hs hf hd hwf mW hfs hrow Hp hnd hn0 hp hfp hvp hvk hvs eG ho hst hrb hb0 hbx h hk;go_enter Tryz.func71,Tryz.ntmps71;go_wp2_with fail;refine HST.out.mono ?_;rintro kr w1 (⟨hF,rfl,hf⟩|⟨hF,rfl,h1,st1⟩)
 ·have aa:=zh (RunE.fail HH.out gD.out hf (by decide) (jA.out hF) undef);clear hf x0 x1 x2 x3;go_wp2_with fail;refine bodyPost_ret (results_none rfl _ _ _) rfl ?_;exact⟨⟨_,rfl⟩,aa.out.2⟩
 obtain⟨r1,hr1⟩:∃ x:RS,{ r with n:=r.n+1 }=x:=⟨_,rfl⟩
 have fU:r1.S=r.S:=by rw[<-hr1]
 have ik:=zh (show o=zki r1 (zkQ r.S k s p0 nil0 R1 (0,0)) by rw[<-hr1];exact jQ.out hF);rw[hr1] at h1 st1;have aM:=zh (gD.out.trans st1);have aO:=Stp.kpn HH.out HB0.out st1 ax.out (by have:=fG.out;omega);obtain⟨x0,x1,x2,x3⟩:=box4 aO;obtain⟨y0,y1,y2,y3⟩:=zkE h1.bl dQ.out;simp only[Nat.zero_mul,Addr.add_zero'] at y0 y1 y2 y3;have hix:=zmt hK h1 HP.out (by rw[fU];exact qH.out) eQ.out;rw[fU,HR1.out,ag.out] at hix;have iy:=zh hix;have bT:=zh st1;have ae:=zh fU;have bZ:=zh hr1;clear hix aO h1 st1 HST fU hr1;go_wp2_with fail;refine iy.out.mono ?_;rintro mq w2 ⟨xv,bD,rfl,hf2,-,hx⟩;obtain⟨hx1,hx2⟩:=hx rfl;have dP:=Stp.kpn HH.out HB0.out (bT.out.trans hf2.2) ax.out (by have:=fG.out;omega);obtain⟨x0,x1,x2,x3⟩:=box4 dP;obtain⟨y0,y1,y2,y3⟩:=zkE hf2.1.bl dQ.out;simp only[Nat.zero_mul,Addr.add_zero'] at y0 y1 y2 y3;obtain⟨y14,-⟩:=hf2.1.errC
 rw[ag.out] at y14;have dR:=zh hf2;have aY:=zh hx1;have bF:=zh hx2;clear dP hf2 hx hx1 hx2 iy;by_cases he1:bD=0;rotate_left 1
 ·have e1:(bD==0)=false:=by simpa using he1
  have e2:(bD != 0)=true:=by simpa using he1
  have aa:=zh (RunE.fail HH.out aM.out dR.out he1 (show o=.err bD by
   rw[ik.out];unfold zkQ;rw[if_pos (by rw[<-aY.out];exact he1),<-aY.out];exact zkw he1) undef)
  clear he1;go_wp2_with fail;refine bodyPost_ret (results_none rfl _ _ _) rfl ?_;exact⟨⟨_,rfl⟩,aa.out.2⟩
 subst he1;obtain rfl:=bF.out rfl;have hck:=zmv hK dR.out.1 (show zkA r1.S.cur.vs p0.s=some vp by rw[ae.out];exact ui.out) eQ.out R1.1;rw[ae.out,ag.out] at hck;have cB:=zh hck;have jw:=zh (show o=zki r1 (zlU r.S k s p0.s nil0.s R1.1 (0,0)) by rw[ik.out];unfold zkQ;rw[if_neg (by rw[<-aY.out];simp)]);clear hck;go_wp2_with fail;refine cB.out.mono ?_;rintro xU w4 ⟨id,hid,hck,rfl,kg⟩;have ay:=dR.out.trans kg;have hO4:o=zki r1 (if 0<=R1.1/\R1.1<(r.S.cell id).length then zlC r.S k s nil0.s 0 id R1.1.toNat else (12,r.S)):=by
  rw[jw.out];unfold zlU;rw[if_neg (by simp),hid]
 by_cases hin:0<=R1.1/\R1.1<((r.S.cell id).length:Int)
 rotate_left 1
 ·rw[if_neg hin] at ay hO4;obtain⟨y14,-⟩:=ay.1.errC;rw[ag.out] at y14;have aa:=zh (RunE.fail HH.out aM.out ay (by decide) (hO4.trans (zkw (by decide))) undef);clear ay kg hO4 hin hid hck;go_wp2_with fail;refine bodyPost_ret (results_none rfl _ _ _) rfl ?_;exact⟨⟨_,rfl⟩,aa.out.2⟩
 rw[if_pos hin] at ay hO4;obtain⟨m,hm⟩:∃ m:Nat,R1.1=(m:Int):=⟨R1.1.toNat,by omega⟩
 rw[hm] at hin hO4 ⊢;have eB:m<(r.S.cell id).length:=by omega
 obtain⟨⟨-,-,y8,y9,-,-,-,-,y14⟩,-,yf⟩:=ay.1.box;have jk:=Stp.kpn HH.out HB0.out (bT.out.trans ay.2) ax.out (by have:=fG.out;omega);obtain⟨x0,x1,x2,x3⟩:=box4 jk;rw[ag.out] at y8 y9 y14 yf;have hlt:id<r1.S.nc:=by rw[ae.out];exact zmg HH.out.inv.wf hid
 obtain⟨g,cc,hci,hcl,u1,yJ,mR,u3,hne,hnr⟩:=ay.1.rowC hlt (by rw[ae.out];omega);have u2:=mR m (by rw[ae.out];exact eB);have iB:=fun y=>putS (y:=y) ay.1.rws hlt hci (by rw[ae.out];exact eB);have jO:o=zki r1 (zlC r.S k s nil0.s 0 id m):=by rw[hO4,Int.toNat_natCast]
 have hw3:(zlC r.S k s nil0.s 0 id m).2.WF:=by
  have h9:=dI.out;unfold zkQ zlU at h9;rw[if_neg (by rw[<-aY.out];simp),if_neg (by simp),hid] at h9;simp only[hm] at h9;rw[if_pos hin,Int.toNat_natCast] at h9;exact h9
 obtain⟨l,hl⟩:∃ l,(r.S.cell id).length=l:=⟨_,rfl⟩
 obtain⟨z,hz⟩:∃ z,r.S.el id m=z:=⟨_,rfl⟩
 have bS:=zh hl;have HZ:=zh hz;have dZ:=zh jO;have HW3:=zh hw3;have bf:=zh ay;have gJ:=zh hci;have bV:=zh (show r.S.num p0.s=some id/\CurK r.S id vp.k/\id<r1.S.nc from ⟨hid,hck,hlt⟩);have nW:=zh iB;have jB:=zh (show g≠P.cb id/\g≠P.rb from ⟨hne,hnr⟩);have aV:=ay.1.iv;have hov:=ay.1.ov;have iX:=zh aV;have mG:=zh hov;rw[ae.out,hl] at u1;rw[ae.out,hz] at u2;rw[hl] at eB;have yw:=zh eB;have h3:(0:Int)<=(m:Int):=by omega
 have h4:(m:Int)<(l:Int):=by omega
 clear ay kg hO4 hid hck hlt hci hcl mR hne hnr iB jO hw3 hl hz hm hin eB jk aV hov y0 y1 y2 y3;rcases aQ.out with rfl|rfl|rfl
 ·skip
  obtain⟨sid,bI,hsk⟩:=nY.out (.inr rfl);obtain⟨vs,hvs⟩:=zY.out (.inr rfl);have hij:sid≠id:=zri HH.out.inv.wf hsk bV.out.2.1 (fun e=>wO.out e.symm);have hex:zlC r.S 45 s nil0.s 0 id m=zmE r.S 45 id m sid:=by
   unfold zlC;rw[if_neg (by decide),if_neg (by decide),if_pos (by decide),bI]
  have av:=dZ.out;have hw3:=HW3.out;rw[hex] at av hw3;unfold zmE at av hw3;rw[if_neg (by decide)] at av hw3;have j6:=zmu bf.out.1 (show zkA r1.S.cur.vs s=some vs by rw[ae.out];exact hvs);rw[ag.out,ae.out] at j6;have iN:=zh j6;have wR:=zh bI;have uL:=zh hij;have iV:=zh av;have jq:=zh hw3;clear j6 hex hsk hvs bI hij av hw3;go_wp2_with fail;refine iN.out.mono ?_;rintro en5 w5 ⟨⟨au,hsd,-,rfl⟩,rfl⟩;obtain rfl:au=sid:=by rw[wR.out] at hsd;injection hsd with hsd;exact hsd.symm
  have av:=iV.out;have hw3:=jq.out;have hls:au<r1.S.nc:=by rw[ae.out];exact zmg HH.out.inv.wf wR.out
  clear hsd iN;by_cases h0:(r.S.cell au).length=0
  ·have jr:=zh (show o=.err 13 by rw[if_pos h0] at av;exact av.trans (zkw (by decide)));obtain⟨Bs,cs,-,-,t1,-⟩:=bf.out.1.celC hls;rw[ae.out,h0] at t1;clear av hw3 h0 hls;have hfl:=zkR hK bf.out.1 13;rw[ag.out,if_pos rfl] at hfl;have aR:=zh hfl;clear hfl;go_wp2_with fail;refine aR.out.mono ?_;rintro qP w6 ⟨⟨u,rfl⟩,eD⟩;have aa:=zh (RunE.fail HH.out aM.out (bf.out.trans eD) (by decide) jr.out undef);clear eD aR;go_wp2_with fail;go_end0;exact⟨⟨_,rfl⟩,aa.out.2⟩
  obtain⟨j,hj⟩:∃ j,(r.S.cell au).length=j+1:=⟨(r.S.cell au).length-1,by omega⟩
  obtain⟨gs,cs,hcs,pX,t1,t1f,t2',t3,hnes,hnrs⟩:=bf.out.1.rowC hls (by rw[ae.out];omega);have t2:=t2' j (by rw[ae.out];omega);rw[ae.out] at hcs pX t1 t2;obtain⟨y,hy⟩:∃ y,r.S.el au j=y:=⟨_,rfl⟩
  rw[hy] at t2;rw[if_neg h0,show(r.S.cell au).length-1=j by omega,hy] at av hw3;obtain⟨ls,nu⟩:∃ q,(r.S.cell au).length=q:=⟨_,rfl⟩
  rw[nu] at t1 hj pX;have e0:((ls:Int)==0)=false:=by simp;omega
  simp only[HZ.out] at av hw3;by_cases hz0:z=0;rotate_left 1
  ·have jr:=zh (show o=.err 14 by rw[if_pos hz0] at av;exact av.trans (zkw (by decide)));have ez:(z==0)=false:=by simpa using hz0
   have ez2:(z != 0)=true:=by simpa using hz0
   clear av hw3 hls h0 hj hcs pX t1f t2' t3 hnes hnrs hy nu hz0;have hfl:=zkR hK bf.out.1 14;rw[ag.out,if_pos rfl] at hfl;have aR:=zh hfl;clear hfl;go_wp2_with fail;refine aR.out.mono ?_;rintro qP w6 ⟨⟨u,rfl⟩,eD⟩;have aa:=zh (RunE.fail HH.out aM.out (bf.out.trans eD) (by decide) jr.out undef);clear eD aR;go_wp2_with fail;go_end0;exact⟨⟨_,rfl⟩,aa.out.2⟩
  rw[if_neg (by simpa using hz0)] at av hw3;have hgg:gs≠g:=fun e=>by
   refine bf.out.1.rws.sep (.row au) (.row id) gs (by simpa using uL.out) ?_ ?_
   ·rw[zkV K P 0 hls];show(P.ci au).ownBlock=some gs;rw[hcs];rfl
   ·rw[zkV K P 0 bV.out.2.2];show(P.ci id).ownBlock=some gs;rw[gJ.out,e];rfl
  have hcg:P.cb au≠g:=fun e=>by
   refine bf.out.1.rws.sep (.cel au) (.row id) g (by simp) ?_ ?_
   ·rw[zkO K P 0 hls,e];rfl
   ·rw[zkV K P 0 bV.out.2.2];show(P.ci id).ownBlock=some g;rw[gJ.out];rfl
  have bA:=nW.out y;have hcell:(r1.S.put id m y).cell au=r.S.cell au:=by
   rw[ae.out];simp[ST.put,ST.setL,uL.out]
  have aW:=popS (r:={ r1 with S:=r1.S.put id m y }) (sid:=au) (g:=gs) (c:=cs) (j:=j) bA.rws hls (by show((r1.S.put id m y).cell au).length=j+1;rw[hcell,nu];exact hj) (by rw[hcs,nu,hj]);obtain⟨w6,bz⟩:∃ x,w5.setCell ⟨g,m,none⟩ (.int .i64 y)=x:=⟨_,rfl⟩
  rw[bz] at bA aW;obtain⟨w7,hw7⟩:∃ x,w6.setCell ⟨P.cb au,0,none⟩ (.slice (some ⟨gs,0,none⟩) j cs)=x:=⟨_,rfl⟩
  rw[hw7] at aW;have bu:=(bA.trans aW).below (show Below w7.heap.size w7 w7.drew.drew from zka (Below.refl _ _).drew (Below.refl _ _).drew);have hS':((r.S.put id m y).setL au ((r.S.cell au).take j))=((r1.S.put id m y).setL au (((r1.S.put id m y).cell au).take j)):=by rw[hcell,ae.out]
  rw[hS'] at av hw3;have hrf:=bf.out.1.fin hK (S':=(r1.S.put id m y).setL au (((r1.S.put id m y).cell au).take j)) bu ⟨rfl,rfl,rfl,rfl,fun _ _=>rfl⟩ ⟨rfl,rfl,rfl⟩ hw3 (iX.out.stp bu) (mG.out.stp bu);have aa:=zh (RunE.ok HH.out (aM.out.trans (bf.out.2.trans bu)) hrf ⟨rfl,rfl,rfl,rfl,fun _ _=>rfl⟩ (av.trans zlp) undef);have v1:w6.cell? ⟨P.cb id,0,none⟩=some (.slice (some ⟨g,0,none⟩) l cc):=by rw[<-bz];exact zks u1 (Below.heap_setCell _ _ _ _ (fun e=>jB.out.1 e.symm))
  have v2:w6.cell? ⟨P.cb au,0,none⟩=some (.slice (some ⟨gs,0,none⟩) ls cs):=by rw[<-bz];exact zks t1 (Below.heap_setCell _ _ _ _ hcg)
  have v3:w6.cell? ⟨gs,j,none⟩=some (.int .i64 y):=by rw[<-bz];exact zks t2 (Below.heap_setCell _ _ _ _ hgg)
  have vf:∀ o,w6.frozen? ⟨P.cb au,o,none⟩=false:=fun o=>bA.rws.frozen (.cel au) (by
   show(if au<r1.S.nc then _ else _:RowD).v.ownBlock=_
   rw[if_pos hls];rfl) o
  have hlm:j<=1000:=by have:=(HH.out.inv.wf.cells au (by rw[<-ae.out];exact hls)).1;omega
  have bH:IntKind.i64.wrap ((ls:Int)-1)=(j:Int):=by
   rw[show(ls:Int)-1=(j:Int) by omega];exact IntWalk.i64_in _ (by omega)
  have hl1:(0:Int)<=(j:Int):=by omega
  have hl2:(j:Int)<(ls:Int):=by omega
  have hl6:j<ls:=by omega
  have hl4:(j:Int)<=(cs:Int):=by omega
  have hl5:j<=cs:=by omega
  have ez:((0:Int)==0)=true:=rfl;subst hz0;clear av hw3 hls h0 hj hcs pX t1f t2' t3 hnes hnrs hy nu hgg hcg bA aW bu hcell hS' hrf hlm;go_upto_region 38 with fail;have hSS:(fun w':World=>w'.cell? ⟨P.cb id,0,none⟩=some (.slice (some ⟨g,0,none⟩) l cc)/\w'.cell? ⟨P.cb au,0,none⟩=some (.slice (some ⟨gs,0,none⟩) ls cs)/\w'.cell? ⟨gs,j,none⟩=some (.int .i64 y)) w5.drew/\(fun _:World=>True) w5.drew:=⟨⟨u1,t1,t2⟩,trivial⟩
  refine wp_region_noPanic ?_;refine zkd (fun w':World=>w'.cell? ⟨P.cb id,0,none⟩=some (.slice (some ⟨g,0,none⟩) l cc)/\w'.cell? ⟨P.cb au,0,none⟩=some (.slice (some ⟨gs,0,none⟩) ls cs)/\w'.cell? ⟨gs,j,none⟩=some (.int .i64 y)) (fun _:World=>True) 18 (by kernel_rfl) ?_;refine zT 0 hSS ?_;(try simp only[zQ]);refine zT 1 hSS ?_;(try simp only[zQ]);refine zT 2 hSS ?_;(try simp only[zQ]);refine zT 3 hSS ?_;(try simp only[zQ]);refine zT 4 hSS ?_;(try simp only[zQ]);refine zT 5 hSS ?_;(try simp only[zQ]);refine zT 6 hSS ?_;(try simp only[zQ]);refine zT 7 hSS ?_;(try simp only[zQ]);refine zT 8 hSS ?_;(try simp only[zQ]);refine zT 9 hSS ?_;(try simp only[zQ]);refine zT 10 hSS ?_;(try simp only[zQ]);refine zT 11 hSS ?_;(try simp only[zQ]);refine zT 12 hSS ?_;(try simp only[zQ]);refine zT 13 hSS ?_;(try simp only[zQ]);refine zT 14 hSS ?_;(try simp only[zQ]);refine zT 15 hSS ?_
  (try simp only[zQ]);refine zT 16 hSS ?_;(try simp only[zQ]);refine zT 17 hSS ?_;(try simp only[zQ]);have u5:(fun w':World=>w'.cell? ⟨P.cb id,0,none⟩=some (.slice (some ⟨g,0,none⟩) l cc)/\w'.cell? ⟨P.cb au,0,none⟩=some (.slice (some ⟨gs,0,none⟩) ls cs)/\w'.cell? ⟨gs,j,none⟩=some (.int .i64 y)) w6.drew:=⟨v1,v2,v3⟩
  refine zp 18 fun K hK=>?_;(try simp only[zA,zB,zC]);go_simp
  try rw[bz]
  refine hK.out _ _ u5 ?_;clear hK K hSS u5;(try simp only[zQ]);refine zd ?_;refine NoPanic.normal ?_;go_upto_region 39 with fail;have hSS:(fun _:World=>True) w6.drew.drew/\(fun w':World=>w'.cell? ⟨P.cb au,0,none⟩=some (.slice (some ⟨gs,0,none⟩) ls cs)) w6.drew.drew:=⟨trivial,v2⟩
  refine wp_region_noPanic ?_;refine zkd (fun _:World=>True) (fun w':World=>w'.cell? ⟨P.cb au,0,none⟩=some (.slice (some ⟨gs,0,none⟩) ls cs)) 14 (by kernel_rfl) ?_;refine zT 0 hSS ?_;(try simp only[zQ]);refine zT 1 hSS ?_;(try simp only[zQ]);refine zT 2 hSS ?_;(try simp only[zQ]);refine zT 3 hSS ?_;(try simp only[zQ]);refine zko (i:=4) (v:=?_) rfl (by kernel_rfl) (by kernel_rfl) (by kernel_rfl) (by decide) rfl (by kernel_rfl) (by kernel_rfl) (fun _ _ _ h=>h) (Or.inl ⟨by rfl,?_⟩) hSS ?_;rotate_left 1
  ·(intro w hSw;(try dsimp only at hSw);(try simp only[zA,zB,zC]);go_simp;(try with_reducible rfl))
  (try simp only[zQ]);refine zT 5 hSS ?_;(try simp only[zQ]);refine zT 6 hSS ?_;(try simp only[zQ]);refine zT 7 hSS ?_;(try simp only[zQ]);refine zko (i:=8) (v:=?_) rfl (by kernel_rfl) (by kernel_rfl) (by kernel_rfl) (by decide) rfl (by kernel_rfl) (by kernel_rfl) (fun _ _ _ h=>h) (Or.inl ⟨by rfl,?_⟩) hSS ?_;rotate_left 1
  ·(intro w hSw;(try dsimp only at hSw);(try simp only[zA,zB,zC]);go_simp;(try with_reducible rfl))
  (try simp only[zQ]);refine zT 9 hSS ?_;(try simp only[zQ]);refine zT 10 hSS ?_;(try simp only[zQ]);refine zT 11 hSS ?_;(try simp only[zQ]);refine zT 12 hSS ?_;(try simp only[zQ]);refine zT 13 hSS ?_;(try simp only[zQ]);refine zp 14 fun K hK=>?_;(try simp only[zA,zB,zC]);go_simp
  try rw[hw7]
  refine hK.out _ _ trivial ?_;clear hK K hSS;(try simp only[zQ]);refine zd ?_;refine NoPanic.normal ?_;go_wp2_with fail;go_end0;exact⟨⟨_,rfl⟩,aa.out.2⟩
 ·skip
  have hex:=znZ (S:=r.S) (k:=46) (by decide) s nil0.s 0 id m;have av:=dZ.out;have hw3:=HW3.out;rw[hex] at av hw3;unfold zlf at av hw3;rw[if_pos rfl] at av hw3;have aV:=iX.out;rw[ae.out] at aV;obtain⟨Ai,ci,hie,-,hir⟩:=aV;rw[hie] at y8;obtain⟨ti,hti⟩:∃ l,r.S.tin=l:=⟨_,rfl⟩
  rw[hti] at y8 hir av hw3 hie;have mE:=zh hti;rcases ti with _|⟨y,tl⟩
  ·have jr:=zh (show o=.err 17 from av.trans (zkw (by decide)));have y8:w4.cell? ⟨rb,8,none⟩=some (.slice Ai 0 ci):=y8;clear av hw3 hir hex hti hie;have hfl:=zkR hK bf.out.1 17;rw[ag.out,if_pos rfl] at hfl;have aR:=zh hfl;clear hfl;go_wp2_with fail;refine aR.out.mono ?_;rintro qP w6 ⟨⟨u,rfl⟩,eD⟩;have aa:=zh (RunE.fail HH.out aM.out (bf.out.trans eD) (by decide) jr.out undef);clear eD aR;go_wp2_with fail;go_end0;exact⟨⟨_,rfl⟩,aa.out.2⟩
  ·have y8:w4.cell? ⟨rb,8,none⟩=some (.slice Ai (zke (y::tl)).length ci):=y8;obtain⟨ln,hln⟩:∃ n,(zke (y::tl)).length=n:=⟨_,rfl⟩
   have hlp:ln=tl.length+1:=by rw[<-hln];simp[zke]
   have e0:((ln:Int)==0)=false:=by simp;omega
   obtain⟨ai,rfl,hfr,hi0⟩:=hir 0 (by simp[zke]);rw[Addr.add_zero'] at hi0;have hi0:w4.cell? ai=some (.int .i64 y):=hi0;simp only[HZ.out] at av hw3;by_cases hz0:z=0;rotate_left 1
   ·have jr:=zh (show o=.err 14 by rw[if_pos hz0] at av;exact av.trans (zkw (by decide)));rw[hln] at y8;have ez:(z==0)=false:=by simpa using hz0
    have ez2:(z != 0)=true:=by simpa using hz0
    clear av hw3 hir hex hti hie hln hlp hz0;have hfl:=zkR hK bf.out.1 14;rw[ag.out,if_pos rfl] at hfl;have aR:=zh hfl;clear hfl;go_wp2_with fail;refine aR.out.mono ?_;rintro qP w6 ⟨⟨u,rfl⟩,eD⟩;have aa:=zh (RunE.fail HH.out aM.out (bf.out.trans eD) (by decide) jr.out undef);clear eD aR;go_wp2_with fail;go_end0;exact⟨⟨_,rfl⟩,aa.out.2⟩
   ·rw[if_neg (by simpa using hz0)] at av hw3;have hlc:ln<=ci:=by
     have h1:=iX.out;rw[ae.out,mE.out,hie] at h1;obtain⟨A9,c9,e9,h9,-⟩:=h1;injection e9 with e1 e2 e3;rw[<-hln,e3];exact h9
    by_cases hc1:ci=1
    ·have htl:tl=[]:=List.length_eq_zero_iff.1 (by omega);have yj:=zh htl;have hag:ai.block≠g:=fun e=>hfr ⟨.row id,by rw[zkV K P 0 bV.out.2.2];show(P.ci id).ownBlock=some ai.block;rw[gJ.out,e];rfl⟩;have bA:=nW.out y;have aW:=fldS (P':={ P with iv:=.slice (some ai) 0 0 }) (r':={ r1 with S:=({ r1.S with tin:=tl }:ST).put id m y }) (er':=0) bA.rws (o:=8) (by decide) (.slice (some ai) 0 0) rfl ⟨rfl,rfl,rfl,rfl⟩ rfl rfl rfl;obtain⟨w6,bz⟩:∃ x,w4.setCell ⟨g,m,none⟩ (.int .i64 y)=x:=⟨_,rfl⟩
     rw[bz] at bA aW;obtain⟨w7,hw7⟩:∃ x,w6.setCell ⟨P.rb,8,none⟩ (.slice (some ai) 0 0)=x:=⟨_,rfl⟩
     rw[hw7] at aW;have bu:=(bA.trans aW).below (show Below w7.heap.size w7 w7.drew from (Below.refl _ _).drew);have hS':({ r.S with tin:=tl }:ST).put id m y=({ r1.S with tin:=tl }:ST).put id m y:=by rw[ae.out]
     rw[hS'] at av hw3;have jh:Sl w7.drew (fun b=>¬ OwnB (zkg K { P with iv:=.slice (some ai) 0 0 } { r1 with S:=({ r1.S with tin:=tl }:ST).put id m y } 0) b) (.slice (some ai) 0 0) (zke tl):=by
      have h1:=iX.out;rw[ae.out,mE.out,hie] at h1;refine Sl.stp ?_ bu;rw[yj.out];exact⟨_,_,rfl,Nat.le_refl _,fun i hi=>absurd hi (by simp[zke])⟩
     have hrf:=bf.out.1.fin hK (P':={ P with iv:=.slice (some ai) 0 0 }) (S':=({ r1.S with tin:=tl }:ST).put id m y) bu ⟨rfl,rfl,rfl,rfl,fun _ _=>rfl⟩ ⟨rfl,rfl,rfl⟩ hw3 jh (mG.out.stp bu);have aa:=zh (RunE.ok HH.out (aM.out.trans (bf.out.2.trans bu)) hrf ⟨rfl,rfl,rfl,rfl,fun _ _=>rfl⟩ (av.trans zlp) undef);rw[ag.out] at hw7;have hrg:rb≠g:=fun e=>jB.out.2 (by rw[ag.out,e]);have v1:w6.cell? ⟨P.cb id,0,none⟩=some (.slice (some ⟨g,0,none⟩) l cc):=by rw[<-bz];exact zks u1 (Below.heap_setCell _ _ _ _ (fun e=>jB.out.1 e.symm))
     have v8:w6.cell? ⟨rb,8,none⟩=some (.slice (some ai) ln ci):=by rw[<-bz,<-hln];exact zks y8 (Below.heap_setCell _ _ _ _ hrg)
     have v0:w6.cell? ai=some (.int .i64 y):=by rw[<-bz];exact zks hi0 (Below.heap_setCell _ _ _ _ hag)
     have vf:∀ o,w6.frozen? ⟨rb,o,none⟩=false:=fun o=>by have:=bA.rws.frozen .run (g:=P.rb) rfl o;rw[ag.out] at this;exact this
     have hl1:(1:Int)<=(ln:Int):=by omega
     have hl2:((ln:Int)-1)=(tl.length:Int):=by omega
     have hl0:(0:Int)<(ln:Int):=by omega
     rw[hln] at y8;have ez:((0:Int)==0)=true:=rfl;subst hz0;clear av hw3 hir hex hti hie hln hS' jh hrf bA aW bu;go_upto_region 45 with fail;have hSS:(fun w':World=>w'.cell? ⟨P.cb id,0,none⟩=some (.slice (some ⟨g,0,none⟩) l cc)/\w'.cell? ⟨rb,8,none⟩=some (.slice (some ai) ln ci)/\w'.cell? ai=some (.int .i64 y)) w4.drew/\(fun _:World=>True) w4.drew:=⟨⟨u1,y8,hi0⟩,trivial⟩
     refine wp_region_noPanic ?_;refine zkd (fun w':World=>w'.cell? ⟨P.cb id,0,none⟩=some (.slice (some ⟨g,0,none⟩) l cc)/\w'.cell? ⟨rb,8,none⟩=some (.slice (some ai) ln ci)/\w'.cell? ai=some (.int .i64 y)) (fun _:World=>True) 12 (by kernel_rfl) ?_;refine zT 0 hSS ?_;(try simp only[zQ]);refine zT 1 hSS ?_;(try simp only[zQ]);refine zT 2 hSS ?_;(try simp only[zQ]);refine zT 3 hSS ?_;(try simp only[zQ]);refine zT 4 hSS ?_;(try simp only[zQ]);refine zT 5 hSS ?_;(try simp only[zQ]);refine zT 6 hSS ?_;(try simp only[zQ]);refine zT 7 hSS ?_;(try simp only[zQ]);refine zT 8 hSS ?_;(try simp only[zQ]);refine zT 9 hSS ?_;(try simp only[zQ]);refine zT 10 hSS ?_;(try simp only[zQ]);refine zT 11 hSS ?_;(try simp only[zQ])
     have u5:(fun w':World=>w'.cell? ⟨P.cb id,0,none⟩=some (.slice (some ⟨g,0,none⟩) l cc)/\w'.cell? ⟨rb,8,none⟩=some (.slice (some ai) ln ci)/\w'.cell? ai=some (.int .i64 y)) w6.drew:=⟨v1,v8,v0⟩
     refine zp 12 fun K hK=>?_;(try simp only[zA,zB,zC]);go_simp
     try rw[bz]
     refine hK.out _ _ u5 ?_;clear hK K hSS;(try simp only[zQ]);refine zd ?_;refine NoPanic.normal ?_;go_wp2_with fail;go_end0;exact⟨⟨_,rfl⟩,aa.out.2⟩
    ·skip
     have hag:ai.block≠g:=fun e=>hfr ⟨.row id,by rw[zkV K P 0 bV.out.2.2];show(P.ci id).ownBlock=some ai.block;rw[gJ.out,e];rfl⟩;have bA:=nW.out y;have aW:=fldS (P':={ P with iv:=.slice (some ⟨ai.block,ai.off+1,none⟩) tl.length (ci-1) }) (r':={ r1 with S:=({ r1.S with tin:=tl }:ST).put id m y }) (er':=0) bA.rws (o:=8) (by decide) (.slice (some ⟨ai.block,ai.off+1,none⟩) tl.length (ci-1)) rfl ⟨rfl,rfl,rfl,rfl⟩ rfl rfl rfl;obtain⟨w6,bz⟩:∃ x,w4.setCell ⟨g,m,none⟩ (.int .i64 y)=x:=⟨_,rfl⟩
     rw[bz] at bA aW;obtain⟨w7,hw7⟩:∃ x,w6.setCell ⟨P.rb,8,none⟩ (.slice (some ⟨ai.block,ai.off+1,none⟩) tl.length (ci-1))=x:=⟨_,rfl⟩
     rw[hw7] at aW;have bu:=(bA.trans aW).below (show Below w7.heap.size w7 w7.drew from (Below.refl _ _).drew);have hS':({ r.S with tin:=tl }:ST).put id m y=({ r1.S with tin:=tl }:ST).put id m y:=by rw[ae.out]
     rw[hS'] at av hw3;have jh:Sl w7.drew (fun b=>¬ OwnB (zkg K { P with iv:=.slice (some ⟨ai.block,ai.off+1,none⟩) tl.length (ci-1) } { r1 with S:=({ r1.S with tin:=tl }:ST).put id m y } 0) b) (.slice (some ⟨ai.block,ai.off+1,none⟩) tl.length (ci-1)) (zke tl):=by
      have h1:=iX.out;rw[ae.out,mE.out,hie] at h1;refine Sl.stp ?_ bu;have h2:=Sl.tail h1;rw[show(List.map (Value.int IntKind.i64) tl).length=tl.length by simp] at h2;rw[show ai.add 1=⟨ai.block,ai.off+1,none⟩ from rfl] at h2;exact h2
     have hrf:=bf.out.1.fin hK (P':={ P with iv:=.slice (some ⟨ai.block,ai.off+1,none⟩) tl.length (ci-1) }) (S':=({ r1.S with tin:=tl }:ST).put id m y) bu ⟨rfl,rfl,rfl,rfl,fun _ _=>rfl⟩ ⟨rfl,rfl,rfl⟩ hw3 jh (mG.out.stp bu);have aa:=zh (RunE.ok HH.out (aM.out.trans (bf.out.2.trans bu)) hrf ⟨rfl,rfl,rfl,rfl,fun _ _=>rfl⟩ (av.trans zlp) undef);rw[ag.out] at hw7;have hrg:rb≠g:=fun e=>jB.out.2 (by rw[ag.out,e]);have v1:w6.cell? ⟨P.cb id,0,none⟩=some (.slice (some ⟨g,0,none⟩) l cc):=by rw[<-bz];exact zks u1 (Below.heap_setCell _ _ _ _ (fun e=>jB.out.1 e.symm))
     have v8:w6.cell? ⟨rb,8,none⟩=some (.slice (some ai) ln ci):=by rw[<-bz,<-hln];exact zks y8 (Below.heap_setCell _ _ _ _ hrg)
     have v0:w6.cell? ai=some (.int .i64 y):=by rw[<-bz];exact zks hi0 (Below.heap_setCell _ _ _ _ hag)
     have vf:∀ o,w6.frozen? ⟨rb,o,none⟩=false:=fun o=>by have:=bA.rws.frozen .run (g:=P.rb) rfl o;rw[ag.out] at this;exact this
     have hl1:(1:Int)<=(ln:Int):=by omega
     have hl2:((ln:Int)-1)=(tl.length:Int):=by omega
     have hl0:(0:Int)<(ln:Int):=by omega
     rw[hln] at y8;have ez:((0:Int)==0)=true:=rfl;subst hz0;clear av hw3 hir hex hti hie hln hS' jh hrf bA aW bu;go_upto_region 45 with fail;have hSS:(fun w':World=>w'.cell? ⟨P.cb id,0,none⟩=some (.slice (some ⟨g,0,none⟩) l cc)/\w'.cell? ⟨rb,8,none⟩=some (.slice (some ai) ln ci)/\w'.cell? ai=some (.int .i64 y)) w4.drew/\(fun _:World=>True) w4.drew:=⟨⟨u1,y8,hi0⟩,trivial⟩
     refine wp_region_noPanic ?_;refine zkd (fun w':World=>w'.cell? ⟨P.cb id,0,none⟩=some (.slice (some ⟨g,0,none⟩) l cc)/\w'.cell? ⟨rb,8,none⟩=some (.slice (some ai) ln ci)/\w'.cell? ai=some (.int .i64 y)) (fun _:World=>True) 12 (by kernel_rfl) ?_;refine zT 0 hSS ?_;(try simp only[zQ]);refine zT 1 hSS ?_;(try simp only[zQ]);refine zT 2 hSS ?_;(try simp only[zQ]);refine zT 3 hSS ?_;(try simp only[zQ]);refine zT 4 hSS ?_;(try simp only[zQ]);refine zT 5 hSS ?_;(try simp only[zQ]);refine zT 6 hSS ?_;(try simp only[zQ]);refine zT 7 hSS ?_;(try simp only[zQ]);refine zT 8 hSS ?_;(try simp only[zQ]);refine zT 9 hSS ?_;(try simp only[zQ]);refine zT 10 hSS ?_;(try simp only[zQ]);refine zT 11 hSS ?_;(try simp only[zQ])
     have u5:(fun w':World=>w'.cell? ⟨P.cb id,0,none⟩=some (.slice (some ⟨g,0,none⟩) l cc)/\w'.cell? ⟨rb,8,none⟩=some (.slice (some ai) ln ci)/\w'.cell? ai=some (.int .i64 y)) w6.drew:=⟨v1,v8,v0⟩
     refine zp 12 fun K hK=>?_;(try simp only[zA,zB,zC]);go_simp
     try rw[bz]
     refine hK.out _ _ u5 ?_;clear hK K hSS;(try simp only[zQ]);refine zd ?_;refine NoPanic.normal ?_;go_wp2_with fail;go_end0;exact⟨⟨_,rfl⟩,aa.out.2⟩
 ·skip
  have hex:=znZ (S:=r.S) (k:=49) (by decide) s nil0.s 0 id m;have av:=dZ.out;have hw3:=HW3.out;rw[hex] at av hw3;unfold zlf at av hw3;rw[if_neg (by decide),if_pos rfl] at av hw3;have aV:=mG.out;rw[ae.out] at aV;obtain⟨Ai,ci,hie,hlc,hir⟩:=aV;rw[hie] at y9;obtain⟨ti,hti⟩:∃ l,r.S.tout=l:=⟨_,rfl⟩
  rw[hti] at y9 hir av hw3 hie hlc;have mE:=zh hti;have hfl:(zke ti).length=ti.length:=by simp[zke]
  by_cases h0:ti=[]
  ·subst h0;have jr:=zh (show o=.err 17 by rw[if_pos rfl] at av;exact av.trans (zkw (by decide)));have y9:w4.cell? ⟨rb,9,none⟩=some (.slice Ai 0 ci):=y9;clear av hw3 hir hex hti hie hlc hfl;have hfl:=zkR hK bf.out.1 17;rw[ag.out,if_pos rfl] at hfl;have aR:=zh hfl;clear hfl;go_wp2_with fail;refine aR.out.mono ?_;rintro qP w6 ⟨⟨u,rfl⟩,eD⟩;have aa:=zh (RunE.fail HH.out aM.out (bf.out.trans eD) (by decide) jr.out undef);clear eD aR;go_wp2_with fail;go_end0;exact⟨⟨_,rfl⟩,aa.out.2⟩
  ·obtain⟨j,hj⟩:∃ j,ti.length=j+1:=⟨ti.length-1,by have:=List.length_pos_iff.2 h0;omega⟩
   obtain⟨ln,hln⟩:∃ n,(zke ti).length=n:=⟨_,rfl⟩
   have hlp:ln=j+1:=by rw[<-hln,hfl,hj]
   have e0:((ln:Int)==0)=false:=by simp;omega
   obtain⟨ai,rfl,hfr,hi00⟩:=hir j (by omega);have hgl:ti.getLast?.getD 0=ti[j]'(by omega):=by
    rw[List.getLast?_eq_getElem?,show ti.length-1=j by omega,List.getElem?_eq_getElem (by omega)];rfl
   obtain⟨y,hy⟩:∃ y,ti[j]'(by omega)=y:=⟨_,rfl⟩
   have hi0:w4.cell? (ai.add j)=some (.int .i64 y):=by rw[hi00,<-hy];simp[zke]
   clear hi00;have hdl:ti.dropLast=ti.take j:=by rw[List.dropLast_eq_take,show ti.length-1=j by omega]
   rw[if_neg h0,hgl,hy,hdl] at av hw3;simp only[HZ.out] at av hw3;by_cases hz0:z=0;rotate_left 1
   ·have jr:=zh (show o=.err 14 by rw[if_pos hz0] at av;exact av.trans (zkw (by decide)));rw[hln] at y9;have ez:(z==0)=false:=by simpa using hz0
    have ez2:(z != 0)=true:=by simpa using hz0
    clear av hw3 hir hex hti hie hln hlp hz0 hlc hfl hgl hdl h0 hy hj;have hfl:=zkR hK bf.out.1 14;rw[ag.out,if_pos rfl] at hfl;have aR:=zh hfl;clear hfl;go_wp2_with fail;refine aR.out.mono ?_;rintro qP w6 ⟨⟨u,rfl⟩,eD⟩;have aa:=zh (RunE.fail HH.out aM.out (bf.out.trans eD) (by decide) jr.out undef);clear eD aR;go_wp2_with fail;go_end0;exact⟨⟨_,rfl⟩,aa.out.2⟩
   ·rw[if_neg (by simpa using hz0)] at av hw3;have hag:ai.block≠g:=fun e=>hfr ⟨.row id,by rw[zkV K P 0 bV.out.2.2];show(P.ci id).ownBlock=some ai.block;rw[gJ.out,e];rfl⟩;have bA:=nW.out y;have aW:=fldS (P':={ P with ov:=.slice (some ai) j ci }) (r':={ r1 with S:=({ r1.S with tout:=ti.take j }:ST).put id m y }) (er':=0) bA.rws (o:=9) (by decide) (.slice (some ai) j ci) rfl ⟨rfl,rfl,rfl,rfl⟩ rfl rfl rfl;obtain⟨w6,bz⟩:∃ x,w4.setCell ⟨g,m,none⟩ (.int .i64 y)=x:=⟨_,rfl⟩
    rw[bz] at bA aW;obtain⟨w7,hw7⟩:∃ x,w6.setCell ⟨P.rb,9,none⟩ (.slice (some ai) j ci)=x:=⟨_,rfl⟩
    rw[hw7] at aW;have bu:=(bA.trans aW).below (show Below w7.heap.size w7 w7.drew.drew from zka (Below.refl _ _).drew (Below.refl _ _).drew);have hS':({ r.S with tout:=ti.take j }:ST).put id m y=({ r1.S with tout:=ti.take j }:ST).put id m y:=by rw[ae.out]
    rw[hS'] at av hw3;have jh:Sl w7.drew.drew (fun b=>¬ OwnB (zkg K { P with ov:=.slice (some ai) j ci } { r1 with S:=({ r1.S with tout:=ti.take j }:ST).put id m y } 0) b) (.slice (some ai) j ci) (zke (ti.take j)):=by
     have h1:=mG.out;rw[ae.out,mE.out,hie] at h1;have h2:=Sl.take h1 j (by omega);rw[show(zke ti).take j=zke (ti.take j) by simp[zke,List.map_take]] at h2;exact h2.stp bu
    have hrf:=bf.out.1.fin hK (P':={ P with ov:=.slice (some ai) j ci }) (S':=({ r1.S with tout:=ti.take j }:ST).put id m y) bu ⟨rfl,rfl,rfl,rfl,fun _ _=>rfl⟩ ⟨rfl,rfl,rfl⟩ hw3 (iX.out.stp bu) jh;have aa:=zh (RunE.ok HH.out (aM.out.trans (bf.out.2.trans bu)) hrf ⟨rfl,rfl,rfl,rfl,fun _ _=>rfl⟩ (av.trans zlp) undef);rw[ag.out] at hw7;have hrg:rb≠g:=fun e=>jB.out.2 (by rw[ag.out,e]);have v1:w6.cell? ⟨P.cb id,0,none⟩=some (.slice (some ⟨g,0,none⟩) l cc):=by rw[<-bz];exact zks u1 (Below.heap_setCell _ _ _ _ (fun e=>jB.out.1 e.symm))
    have v8:w6.cell? ⟨rb,9,none⟩=some (.slice (some ai) ln ci):=by rw[<-bz,<-hln];exact zks y9 (Below.heap_setCell _ _ _ _ hrg)
    have v0:w6.cell? (ai.add j)=some (.int .i64 y):=by rw[<-bz];exact zks hi0 (Below.heap_setCell _ _ _ _ (by rw[zkv];exact hag))
    have vf:∀ o,w6.frozen? ⟨rb,o,none⟩=false:=fun o=>by have:=bA.rws.frozen .run (g:=P.rb) rfl o;rw[ag.out] at this;exact this
    have hlm:j<=4096:=by have:=bf.out.1.inv.wf.tout.1;rw[ae.out,mE.out] at this;omega
    have bH:IntKind.i64.wrap ((ln:Int)-1)=(j:Int):=by
     rw[show(ln:Int)-1=(j:Int) by omega];exact IntWalk.i64_in _ (by omega)
    have hl1:(0:Int)<=(j:Int):=by omega
    have hl2:(j:Int)<(ln:Int):=by omega
    have hl4:(j:Int)<=(ci:Int):=by omega
    have hl5:j<=ci:=by omega
    have hl6:j<ln:=by omega
    rw[hln] at y9;have ez:((0:Int)==0)=true:=rfl;subst hz0;have wY:=zh (show ln=j+1/\ln<=ci from ⟨hlp,by rw[<-hln];exact hlc⟩);clear av hw3 hir hex hti hie hln hS' jh hrf bA aW bu hlc hfl hgl hdl h0 hy hj hlp hlm hfr;go_upto_region 62 with fail;have hSS:(fun w':World=>w'.cell? ⟨P.cb id,0,none⟩=some (.slice (some ⟨g,0,none⟩) l cc)/\w'.cell? ⟨rb,9,none⟩=some (.slice (some ai) ln ci)/\w'.cell? (ai.add j)=some (.int .i64 y)) w4.drew/\(fun _:World=>True) w4.drew:=⟨⟨u1,y9,hi0⟩,trivial⟩
    refine wp_region_noPanic ?_;refine zkd (fun w':World=>w'.cell? ⟨P.cb id,0,none⟩=some (.slice (some ⟨g,0,none⟩) l cc)/\w'.cell? ⟨rb,9,none⟩=some (.slice (some ai) ln ci)/\w'.cell? (ai.add j)=some (.int .i64 y)) (fun _:World=>True) 18 (by kernel_rfl) ?_;refine zT 0 hSS ?_;(try simp only[zQ]);refine zT 1 hSS ?_;(try simp only[zQ]);refine zT 2 hSS ?_;(try simp only[zQ]);refine zT 3 hSS ?_;(try simp only[zQ]);refine zT 4 hSS ?_;(try simp only[zQ]);refine zT 5 hSS ?_;(try simp only[zQ]);refine zT 6 hSS ?_;(try simp only[zQ]);refine zT 7 hSS ?_;(try simp only[zQ]);refine zT 8 hSS ?_;(try simp only[zQ]);refine zT 9 hSS ?_;(try simp only[zQ]);refine zT 10 hSS ?_;(try simp only[zQ]);refine zT 11 hSS ?_;(try simp only[zQ]);refine zT 12 hSS ?_;(try simp only[zQ]);refine zT 13 hSS ?_;(try simp only[zQ]);refine zT 14 hSS ?_;(try simp only[zQ]);refine zT 15 hSS ?_;(try simp only[zQ])
    refine zT 16 hSS ?_;(try simp only[zQ]);refine zT 17 hSS ?_;(try simp only[zQ]);have u5:(fun w':World=>w'.cell? ⟨P.cb id,0,none⟩=some (.slice (some ⟨g,0,none⟩) l cc)/\w'.cell? ⟨rb,9,none⟩=some (.slice (some ai) ln ci)/\w'.cell? (ai.add j)=some (.int .i64 y)) w6.drew:=⟨v1,v8,v0⟩
    refine zp 18 fun K hK=>?_;(try simp only[zA,zB,zC]);go_simp
    try rw[bz]
    refine hK.out _ _ u5 ?_;clear hK K hSS u5;(try simp only[zQ]);refine zd ?_;refine NoPanic.normal ?_;go_upto_region 63 with fail;have hSS:(fun _:World=>True) w6.drew.drew/\(fun w':World=>w'.cell? ⟨rb,9,none⟩=some (.slice (some ai) ln ci)) w6.drew.drew:=⟨trivial,v8⟩
    refine wp_region_noPanic ?_;refine zkd (fun _:World=>True) (fun w':World=>w'.cell? ⟨rb,9,none⟩=some (.slice (some ai) ln ci)) 14 (by kernel_rfl) ?_;refine zT 0 hSS ?_;(try simp only[zQ]);refine zT 1 hSS ?_;(try simp only[zQ]);refine zT 2 hSS ?_;(try simp only[zQ]);refine zT 3 hSS ?_;(try simp only[zQ]);refine zko (i:=4) (v:=?_) rfl (by kernel_rfl) (by kernel_rfl) (by kernel_rfl) (by decide) rfl (by kernel_rfl) (by kernel_rfl) (fun _ _ _ h=>h) (Or.inl ⟨by rfl,?_⟩) hSS ?_;rotate_left 1
    ·(intro w hSw;(try dsimp only at hSw);(try simp only[zA,zB,zC]);go_simp;(try with_reducible rfl))
    (try simp only[zQ]);refine zT 5 hSS ?_;(try simp only[zQ]);refine zT 6 hSS ?_;(try simp only[zQ]);refine zT 7 hSS ?_;(try simp only[zQ]);refine zko (i:=8) (v:=?_) rfl (by kernel_rfl) (by kernel_rfl) (by kernel_rfl) (by decide) rfl (by kernel_rfl) (by kernel_rfl) (fun _ _ _ h=>h) (Or.inl ⟨by rfl,?_⟩) hSS ?_;rotate_left 1
    ·(intro w hSw;(try dsimp only at hSw);(try simp only[zA,zB,zC]);go_simp;(try with_reducible rfl))
    (try simp only[zQ]);refine zT 9 hSS ?_;(try simp only[zQ]);refine zT 10 hSS ?_;(try simp only[zQ]);refine zT 11 hSS ?_;(try simp only[zQ]);refine zT 12 hSS ?_;(try simp only[zQ]);refine zT 13 hSS ?_;(try simp only[zQ]);refine zp 14 fun K hK=>?_;(try simp only[zA,zB,zC]);go_simp
    try rw[hw7]
    refine hK.out _ _ trivial ?_;clear hK K hSS;(try simp only[zQ]);refine zd ?_;refine NoPanic.normal ?_;go_wp2_with fail;go_end0;exact⟨⟨_,rfl⟩,aa.out.2⟩
theorem zlD {ops:Array Oper} {o:Oper} {a:Act} {W:World} {K:Act->World->Prop} {Q:Exit->Act->World->Prop} {F:Prop} (hgd:o.guard=none) (s x:Operand)
  (ho:o.op=.call { callee:=.builtin .append,args := #[s,x],argTypes := #[30,30] }) (base:Nat) (v:Value) (n:Nat) (xs:List Value) (hs:a.eval s=v) (hrow:W.ownsRow base 3 1 v n xs)
  (S:Nat->Prop) (xv:Value) (l:List Int) (hx:a.eval x=xv) (hr:Sl W S xv (zke l)) (hl:n+l.length<=1000000) (hb:base<=W.heap.size)
  (h:∀ v' w',w'.ownsRow base 3 1 v' (n+l.length) (xs++zke l)->W.grownBy w' v.ownBlock->(v'.ownBlock=v.ownBlock\/v'.ownBlock=some W.heap.size)->K (a.put o.dst v') w') :
  if Region.wanted o (yielded ops a.tmps)=true then Oper.wp Tryz.prog o a W K Q else F:=by
 obtain⟨i,hi,hz0,hz1,hz2⟩:=info_parts znb;obtain⟨A,c,rfl,-,hr⟩:=hr;have hfl:(zke l).length=l.length:=by simp[zke]
 rw[hfl] at hx;rcases A with _|ad
 ·have hl0:l=[]:=by
   rcases l with _|⟨y,l⟩
   ·rfl
   ·obtain⟨_,h0,_⟩:=hr 0 (by simp[zke]);cases h0
  subst hl0;have hw:Region.wanted o (yielded ops a.tmps)=true:=by simp[Region.wanted,hgd]
  rw[if_pos hw];have hrun:(Builtin.append_ #[30,30] o.type #[v,.slice none 0 c]).run Tryz.prog W=.ok v W:=by
   rcases hrow.2 with⟨rfl,h0⟩|⟨g,cap,cur,rfl,_,_,hnc,_⟩
   ·simp[Builtin.append_,run_underlying Tryz.underlying30,sizeOf,typeInfo,hi,Builtin.lenOf,Builtin.firstCells]
   ·simp[Builtin.append_,run_underlying Tryz.underlying30,sizeOf,typeInfo,hi,Builtin.lenOf,Builtin.firstCells,hnc,storeCells]
  unfold Oper.wp execOp;simp only[ho,resolve,invoke,builtin,Sem.run_bind,Sem.run_pure,Result.andThen_ok,List.map_toArray,List.map_cons,List.map_nil,hs,hx,List.length_nil,hrun];exact h v W (by simpa[zke] using hrow) (zmn _ _) (.inl rfl)
 ·refine zkI hgd s x 30 ho base 3 i _ 1 8 Tryz.underlying30 hi hz0 hz1 hz2 rfl (by decide) v n xs hs hrow ad l.length c (zke l) hx (by simp[zke]) (fun j u hj=>?_) (fun u hu=>?_) (by unfold maxLen;omega) (by omega) hb h
  ·obtain⟨hjl,wE⟩:=List.getElem?_eq_some_iff.1 hj;obtain⟨a',h0,_,h2⟩:=hr j hjl;injection h0 with h0;subst h0;rw[h2,wE]
  ·simp only[zke,List.mem_map] at hu;obtain⟨y,_,rfl⟩:=hu;rfl
theorem zvG {W:World} {base:Nat} {E:TypeId} {v:Value} {us:List Value} (h:W.ownsRow base E 1 v us.length us):Sl W (fun b=>base<=b) v us:=by
 rcases h.2 with⟨rfl,h0⟩|⟨g,cap,cur,rfl,hb,hg,hc,hm,hz,hx⟩
 ·exact⟨none,0,by rw[h0],by omega,fun i hi=>absurd hi (by omega)⟩
 ·refine⟨some ⟨g,0,none⟩,cap,rfl,hc,fun i hi=>⟨⟨g,0,none⟩,rfl,hb,?_⟩⟩;rw[Addr.add_lit,Nat.zero_add];have:=h.cellAt i (by omega);rw[this];simp[hi]
theorem bI0 (w:World):(Instr.buildSlice 30 0 #[]).run Tryz.prog w=.ok (.slice (some ⟨w.heap.size,0,none⟩) 0 0) (w.alloc (.cells #[] 3)):=by kernel_rfl
theorem zwJ (A:Option Addr) (l c:Nat) (w:World):(Instr.buildSlice 29 1 #[(0,.slice A l c)]).run Tryz.prog w=.ok (.slice (some ⟨w.heap.size,0,none⟩) 1 1) (w.alloc (.cells #[.slice A l c] 30)):=by kernel_rfl
theorem bS12 (B C:Option Addr) (m d n e:Nat) (w:World):(Instr.build 32 #[(1,.slice B m d),(2,.slice C n e)]).run Tryz.prog w=.ok (.agg #[.slice none 0 0,.slice B m d,.slice C n e]) w:=by kernel_rfl
section
variable {P:Program} {ops:Array Oper} {Q:Exit->Act->World->Prop} {md:Region.Mode} {S1 S2:World->Prop} {k:Nat}
theorem zpD (I:Nat->Array Bool->Act->World->Prop) (hS:∀ f l a w,I f l a w->S1 w/\S2 w)
  (h:∀ f l a w,I f l a w->wpG P md ops Q S1 S2 k f l a w\/∃ f',f=f'+1/\Region.ready md ops l≠[]/\∀ i∈Region.ready md ops l,wpOp P ops Q i (fun a' w'=>I f' (l.setIfInBounds i true) a' w') a w) :
  ∀ f l a w,I f l a w->wpG P md ops Q S1 S2 k f l a w
 | 0,l,a,w,hi=>by
  rcases h 0 l a w hi with h1|⟨f',h1,_⟩
  ·exact h1
  ·omega
 | f+1,l,a,w,hi=>by
  rcases h (f+1) l a w hi with h1|⟨f',h1,h2,h3⟩
  ·exact h1
  ·obtain rfl:f=f':=by omega
   exact⟨fun h0=>absurd h0 h2,fun i hm=>wpOp_mono (fun a' w' h'=>⟨⟨(hS _ _ _ _ h').1,fun _=>(hS _ _ _ _ h').2⟩,zpD I hS h f _ a' w' h'⟩) (h3 i hm)⟩
theorem znS {a0:Act} {f0:Nat} {l0:Array Bool} {w0:World} (I:Act->Nat->Array Bool->Act->World->Prop) (hS:∀ A f l a w,I A f l a w->S1 w/\S2 w)
  (h:∀ A,A=a0->∀ f l a w,I A f l a w->wpG P md ops Q S1 S2 k f l a w\/∃ f',f=f'+1/\Region.ready md ops l≠[]/\∀ i∈Region.ready md ops l,wpOp P ops Q i (fun a' w'=>I A f' (l.setIfInBounds i true) a' w') a w)
  (h0:I a0 f0 l0 a0 w0):wpG P md ops Q S1 S2 k f0 l0 a0 w0:=zpD (I a0) (hS a0) (h a0 rfl) _ _ _ _ h0
end
theorem zpc {ops:Array Oper} {o:Oper} {a:Act} {W:World} {K:Act->World->Prop} {Q:Exit->Act->World->Prop} {F:Prop} (hgd:o.guard=none) (s x:Operand)
  (ho:o.op=.call { callee:=.builtin .append,args := #[s,x],argTypes := #[30,30] }) (base:Nat) (v:Value) (n:Nat) (xs:List Value) (hs:a.eval s=v) (hrow:W.ownsRow base 3 1 v n xs)
  (A:Option Addr) (l:List Int) (c:Nat) (hx:a.eval x=.slice A l.length c) (hr:RowI W Any A l) (hl:l.length<=LI) (hn:n=0) (hb:base<=W.heap.size)
  (h:∀ v' w',w'.ownsRow base 3 1 v' (n+l.length) (xs++zke l)->W.grownBy w' v.ownBlock->(v'.ownBlock=v.ownBlock\/v'.ownBlock=some W.heap.size)->K (a.put o.dst v') w') :
  if Region.wanted o (yielded ops a.tmps)=true then Oper.wp Tryz.prog o a W K Q else F:=by
 obtain⟨i,hi,hz0,hz1,hz2⟩:=info_parts znb;unfold LI at hl;rcases A with _|ad
 ·have hl0:l=[]:=by
   rcases l with _|⟨y,l⟩
   ·rfl
   ·obtain⟨_,h0,_⟩:=hr 0 (by simp);cases h0
  subst hl0;have hw:Region.wanted o (yielded ops a.tmps)=true:=by simp[Region.wanted,hgd]
  rw[if_pos hw];have hrun:(Builtin.append_ #[30,30] o.type #[v,.slice none 0 c]).run Tryz.prog W=.ok v W:=by
   rcases hrow.2 with⟨rfl,h0⟩|⟨g,cap,cur,rfl,_,_,hnc,_⟩
   ·simp[Builtin.append_,run_underlying Tryz.underlying30,sizeOf,typeInfo,hi,Builtin.lenOf,Builtin.firstCells]
   ·simp[Builtin.append_,run_underlying Tryz.underlying30,sizeOf,typeInfo,hi,Builtin.lenOf,Builtin.firstCells,hnc,storeCells]
  unfold Oper.wp execOp;simp only[ho,resolve,invoke,builtin,Sem.run_bind,Sem.run_pure,Result.andThen_ok,List.map_toArray,List.map_cons,List.map_nil,hs,hx,List.length_nil,hrun];exact h v W (by simpa[zke] using hrow) (zmn _ _) (.inl rfl)
 ·refine zkI hgd s x 30 ho base 3 i _ 1 8 Tryz.underlying30 hi hz0 hz1 hz2 rfl (by decide) v n xs hs hrow ad l.length c (zke l) hx (by simp[zke]) (fun j u hj=>?_) (fun u hu=>?_) (by unfold maxLen;omega) (by omega) hb h
  ·have hjl:j<l.length:=by have:=(List.getElem?_eq_some_iff.1 hj).1;simpa[zke] using this
   obtain⟨a',h0,_,h2,_⟩:=hr j hjl;injection h0 with h0;subst h0;rw[h2];simp[zke,hjl] at hj ⊢;exact hj
  ·simp only[zke,List.mem_map] at hu;obtain⟨y,_,rfl⟩:=hu;rfl
def zoD (l0 l3 l4 l7 l9:Bool) (v5 v8 v9 v12:Value) (b3:Nat) (s:SS):Option SI->RowD
 | none=>if l9=true then ⟨boxV b3,32,3,1,[.slice none 0 0,.slice none 0 0,.slice none 0 0]⟩ else nilR
 | some .inp=>if l3=true then ⟨v8,3,1,s.tin.length,zke s.tin⟩ else if l0=true then ⟨v5,3,1,0,[]⟩ else nilR
 | some .out=>if l7=true then ⟨v12,3,1,s.tout.length,zke s.tout⟩ else if l4=true then ⟨v9,3,1,0,[]⟩ else nilR
 | some _=>nilR
def zl8 (vc vi vo:Value) (fc:Nat->Value) (b3:Nat) (s:SS) (j:Nat):Option SI->RowD
 | none=>⟨boxV b3,32,3,1,[vc,vi,vo]⟩
 | some .all=>⟨vc,30,1,j,(List.range j).map fc⟩
 | some (.el i)=>if i<j then ⟨fc i,3,1,(s.cells.getD i []).length,zke (s.cells.getD i [])⟩ else nilR
 | some .inp=>⟨vi,3,1,s.tin.length,zke s.tin⟩
 | some .out=>⟨vo,3,1,s.tout.length,zke s.tout⟩
theorem zst (w:World) (n0:Nat) (v5 v8 v9 v12:Value) (b3:Nat) (s:SS):Rws w n0 (zoD false false false false false v5 v8 v9 v12 b3 s):=by
 have e:∀ i,zoD false false false false false v5 v8 v9 v12 b3 s i=nilR:=by
  intro i;rcases i with _|i
  ·rfl
  ·cases i<;>rfl
 refine⟨fun i=>by rw[e];exact zlP w n0,fun i j b _ hi _=>?_⟩;rw[e] at hi;simp[nilR,Value.ownBlock] at hi
theorem zoc (w:World) (n0:Nat) (h:n0<=w.heap.size):(w.alloc (.cells #[] 3)).ownsRow n0 3 1 (.slice (some ⟨w.heap.size,0,none⟩) 0 0) 0 [] :=
 ⟨rfl,.inr ⟨w.heap.size,0,#[],rfl,h,heap_alloc_new w _,Nat.le_refl _,by unfold maxLen;omega,rfl,rfl⟩⟩
theorem zph (w:World) (n0:Nat) (h:n0<=w.heap.size) (a b c:Value) (E:TypeId):(w.alloc (.cells #[a,b,c] E)).ownsRow n0 E 3 (boxV w.heap.size) 1 [a,b,c] :=
 ⟨rfl,.inr ⟨w.heap.size,1,#[a,b,c],rfl,h,heap_alloc_new w _,Nat.le_refl _,by unfold maxLen;omega,rfl,rfl⟩⟩
theorem zoM (vc jL vi vo:Value) (fc:Nat->Value) (b3:Nat) (s:SS) (j:Nat) (l:List Int) (v8 r5:Value) (hl:s.cells.getD j []=l) :
  updR (updR (updR (updR (zl8 vc vi vo fc b3 s j) (some (.el j)) ⟨r5,3,1,0,[]⟩) (some (.el j)) ⟨v8,3,1,l.length,zke l⟩) (some .all) ⟨jL,30,1,j+1,(List.range j).map fc++[v8]⟩) none ⟨boxV b3,32,3,1,[jL,vi,vo]⟩=zl8 jL vi vo (fun i=>if i=j then v8 else fc i) b3 s (j+1):=by
 funext i;rcases i with _|i
 ·rfl
 ·cases i with
  | all =>
   simp only[updR,zl8,reduceCtorEq,if_false,if_true,RowD.mk.injEq,true_and];rw[List.range_succ,List.map_append];congr 1
   ·refine List.map_congr_left fun i hi=>?_;have:i≠j:=by have:=List.mem_range.1 hi;omega
    simp[this]
   ·simp
  | inp=>rfl
  | out=>rfl
  | el i =>
   by_cases e:i=j
   ·subst e;simp[updR,zl8,<-hl]
   ·have e2:(i<j+1)↔(i<j):=by omega
    simp[updR,zl8,e,e2]
theorem zpK {W:World} {n0:Nat} {vc vi vo:Value} {fc:Nat->Value} {b3:Nat} {s:SS} (h:Rws W n0 (zl8 vc vi vo fc b3 s s.cells.length)):Rws W n0 (zlX vc vi vo fc s):=by
 have e:∀ i,zlX vc vi vo fc s i=zl8 vc vi vo fc b3 s s.cells.length (some i):=fun i=>by cases i<;>rfl
 refine⟨fun i=>by rw[e];exact h.row (some i),fun i j b hij hi hj=>?_⟩;rw[e] at hi hj;exact h.sep (some i) (some j) b (fun e'=>hij (by injection e')) hi hj
theorem zwc {w:World} {n0 b:Nat} {x y z:Value} {E:TypeId} (hn:n0<=b) (h:w.heap[b]?=some (.cells #[x,y,z] E (0,0))):w.ownsRow n0 E 3 (boxV b) 1 [x,y,z] :=
 ⟨rfl,.inr ⟨b,1,#[x,y,z],rfl,hn,h,Nat.le_refl _,by unfold maxLen;omega,rfl,rfl⟩⟩
theorem zpg (w:World) (n0:Nat) (E:TypeId):w.ownsRow n0 E 1 (.slice none 0 0) 0 []:=⟨rfl,.inl ⟨rfl,rfl⟩⟩
end Go.Proofs.YtmbbaccjcekhkaaGreat
