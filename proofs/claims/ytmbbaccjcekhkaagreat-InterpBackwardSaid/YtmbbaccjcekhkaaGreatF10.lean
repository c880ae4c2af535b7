/-
  Texts of the proof, put together without their remarks: Rx9, Rxa, Rxb, Rxc, Rxd, Rxe, Rxf.
-/
import Derived.Test.YtmbbaccjcekhkaaGreatF9
set_option linter.unusedSimpArgs false
set_option linter.unusedVariables false
set_option maxHeartbeats 8000000
set_option maxRecDepth 100000
namespace Go.Proofs.YtmbbaccjcekhkaaGreat
open Go Go.RowKit
theorem zoN {W:World} {n0 n1:Nat} {E:TypeId} {sz n:Nat} {v:Value} {xs:List Value} (h:W.ownsRow n1 E sz v n xs) (hn:n0<=n1):W.ownsRow n0 E sz v n xs:=by
 obtain⟨e1,h2⟩:=h;refine⟨e1,?_⟩;rcases h2 with h2|⟨g,cap,cur,e2,h3,h4⟩
 ·exact .inl h2
 ·exact .inr ⟨g,cap,cur,e2,Nat.le_trans hn h3,h4⟩
theorem zxL {K:RK} {P:RP} {W W':World} {r:RS} {er:Int} (hr:Rws W K.n0 (zkg K P r er)) (hb:Below W.heap.size W W') {sid:Nat} (hid:sid<r.S.nc) {v':Value} {l':List Int} (ho:W'.ownsRow W.heap.size 3 1 v' l'.length (zke l')) (hn:K.n0<=W.heap.size) :
  Stp K.n0 (zkg K P r er) W (zkg K { P with ci:=fun q=>if q=sid then v' else P.ci q } { r with S:=r.S.setL sid l' } er) (W'.setCell ⟨P.cb sid,0,none⟩ v'):=by
 have st1:Stp K.n0 (zkg K P r er) W (updR (zkg K P r er) (.row sid) ⟨v',3,1,l'.length,zke l'⟩) W' :=
  Stp.upd hr (Chg.of_below hb) (zoN ho hn) (fun b hb=>.inr (ho.lt b hb).1)
 have st2:=Stp.set (i:=RX.cel sid) st1.rws (g:=P.cb sid) (by rw[zkb (by simp),zkO K P er hid];rfl) (o:=0) (by rw[zkb (by simp),zkO K P er hid];simp) v';refine(st1.trans st2).cast ?_;funext x
 cases x with
 | run=>rw[zkb (by simp),zkb (by simp)];rfl
 | cnt=>rw[zkb (by simp),zkb (by simp)];rfl
 | cel i =>
  by_cases e:i=sid
  ·subst e;rw[zkk,zkb (by simp),zkO K P er hid];simp[zkg,ST.setL,hid]
  ·rw[zkb (by simpa using e),zkb (by simp)];simp[zkg,ST.setL,e]
 | row i =>
  by_cases e:i=sid
  ·subst e;rw[zkb (by simp),zkk];simp[zkg,ST.setL,hid]
  ·rw[zkb (by simp),zkb (by simpa using e)];simp[zkg,ST.setL,e]
theorem ztG {K:RK} (hK:K.Ok) {P:RP} {W:World} {r:RS} (h:RF K P W r 0) {k k0 n:Int} {s:ByteArray} {p:T} {v:Value} (hv:NV K.w Any (.nd k0 n s [p]) v) (hk0:k=44\/k=47\/k=48) (hs:isS (.nd k n s [p])=true) (hf:fltE r.S.cur.vs (.nd k n s [p])=0) :
  Calls Tryz.prog 71 #[.pointer (some ⟨P.rb,0,none⟩),.int .u8 k,v] W (RunE K P W r ((zkq K.F r).bind fun r=>zki r (doE r.S (.nd k n s [p])))):=by
 have hk:44<=k/\k<=49:=by omega
 have aQ:=zh hk0;clear hk0;have hd:=zss hs hk hf;have hwf:=zo6 h.inv.wf (.nd k n s [p]);have mW:=fun hk=>zqq h.inv.wf hf hk;obtain⟨p',he,hp⟩:=(zoh hs).2.2 hk;injection he with he1 _;subst he1;obtain⟨-,hfs⟩:=zlk hf;have hfp:=zk4 hfs p (by simp);have hvp:∃ vp,zkA r.S.cur.vs p.s=some vp/\vp.k≠3:=by
  obtain⟨pk,pn,ps,xu⟩:=p;simp only[isP,T.k_nd,Bool.and_eq_true,Bool.or_eq_true,beq_iff_eq] at hp;obtain⟨h1,_⟩:=zlk hfp;rcases hp.1 with rfl|rfl
  ·obtain⟨w,h2,h3⟩:=zk6 h1 (by decide);exact⟨w,h2,by rw[h3];decide⟩
  ·obtain⟨w,h2,h3⟩:=zk6 h1 (by decide);exact⟨w,h2,by rw[h3];decide⟩
 obtain⟨vp,hvp,hvk⟩:=hvp;have hvs:(k=44\/k=45)->∃ vs,zkA r.S.cur.vs s=some vs:=fun hk=>by
  obtain⟨h1,_⟩:=zlk hf;obtain⟨w,h2,-⟩:=zk6 h1 (by rcases hk with rfl|rfl<;>decide);exact⟨w,h2⟩
 rw[hd] at hwf;obtain⟨R1,eG⟩:∃ R1,indE r.S.look p=R1:=⟨_,rfl⟩
 rw[eG] at hd hwf;obtain⟨o,ho⟩:∃ o,((zkq K.F r).bind fun r=>zki r (doE r.S (.nd k n s [p])))=o:=⟨_,rfl⟩
 have jA:=zh (show K.F<=(r.n:Int)->o=.err 18 from fun h=>by rw[<-ho,zkq,if_pos h];rfl);have jQ:=zh (show(r.n:Int)<K.F->o=zki { r with n:=r.n+1 } (zkQ r.S k s p nil0 R1 (0,0)) from fun h=>by
  rw[<-ho,zkq,if_neg (by omega)]
  show zki _ (doE r.S _)=_
  rw[hd])
 rw[ho];obtain⟨A,c,rfl,-,-,-,hrow⟩:=hv.open_;simp only[T.k_nd,T.n_nd,T.s_nd,T.ks_nd,List.length_cons,List.length_nil,Nat.zero_add,Nat.reduceAdd] at hrow ⊢;obtain⟨a,p0,A2,c2,rfl,_,Hp,hnd,hn0⟩:=hrow.nd (i:=0) (by simp);have hp0:p0=p:=Hp.out.symm;subst hp0;have hb0:=zkc (Below.refl W.heap.size W) (.cells #[.int .u8 k0,.int .i64 n,.string s,.slice (some a) 1 c] 26);have hbx:=heap_alloc_new W (.cells #[.int .u8 k0,.int .i64 n,.string s,.slice (some a) 1 c] 26);obtain⟨W0,hW0⟩:∃ x,W.alloc (.cells #[.int .u8 k0,.int .i64 n,.string s,.slice (some a) 1 c] 26)=x:=⟨_,rfl⟩
 obtain⟨nb,hnb⟩:∃ x,W.heap.size=x:=⟨_,rfl⟩
 rw[hW0] at hb0 hbx;rw[hnb] at hbx;have hh0:=h.later hb0;have HH:=zh h;have HB0:=zh hb0;have ax:=zh hbx;have fG:=zh hnb;obtain⟨x0,x1,x2,x3⟩:=box4 hbx;obtain⟨rb,hrb⟩:∃ b,P.rb=b:=⟨_,rfl⟩
 have ag:=zh hrb;have hst:=zmc hK hh0;rw[hrb] at hst;have HST:=zh hst;rw[hrb];have dQ:=zh hnd;have eQ:=zh hn0;have HP:=zh hp;have qH:=zh hfp;have ui:=zh hvp;have wO:=zh hvk;have zY:=zh hvs;have nY:=zh mW;have dI:=zh hwf;have HR1:=zh eG;have HKK:=zh hk;have gD:=zh (Stp.below (Stp.refl h.rws) hb0);have yM:(k==56)=false:=by simp;omega
 have k40:(k==40)=false:=by simp;omega
 have k41:(k==41)=false:=by simp;omega
 have k42:(k==42)=false:=by simp;omega
 have xx:(k==43)=false:=by simp;omega
 clear hv hs hf hd hwf mW hfs hrow Hp hnd hn0 hp hfp hvp hvk hvs eG ho hst hrb hb0 hbx h hk;go_enter Tryz.func71,Tryz.ntmps71;go_wp2_with fail;refine HST.out.mono ?_;rintro kr w1 (⟨hF,rfl,hf⟩|⟨hF,rfl,h1,st1⟩)
 ·have aa:=zh (RunE.fail HH.out gD.out hf (by decide) (jA.out hF) undef);clear hf x0 x1 x2 x3;go_wp2_with fail;refine bodyPost_ret (results_none rfl _ _ _) rfl ?_;exact⟨⟨_,rfl⟩,aa.out.2⟩
 obtain⟨r1,hr1⟩:∃ x:RS,{ r with n:=r.n+1 }=x:=⟨_,rfl⟩
 have fU:r1.S=r.S:=by rw[<-hr1]
 have ik:=zh (show o=zki r1 (zkQ r.S k s p0 nil0 R1 (0,0)) by rw[<-hr1];exact jQ.out hF);rw[hr1] at h1 st1;have aM:=zh (gD.out.trans st1);have aO:=Stp.kpn HH.out HB0.out st1 ax.out (by have:=fG.out;omega);obtain⟨x0,x1,x2,x3⟩:=box4 aO;obtain⟨y0,y1,y2,y3⟩:=zkE h1.bl dQ.out;simp only[Nat.zero_mul,Addr.add_zero'] at y0 y1 y2 y3;have hix:=zmt hK h1 HP.out (by rw[fU];exact qH.out) eQ.out;rw[fU,HR1.out,ag.out] at hix;have iy:=zh hix;have bT:=zh st1;have ae:=zh fU;have bZ:=zh hr1;clear hix aO h1 st1 HST fU hr1;go_wp2_with fail;refine iy.out.mono ?_;rintro mq w2 ⟨xv,bD,rfl,hf2,-,hx⟩;obtain⟨hx1,hx2⟩:=hx rfl;have dP:=Stp.kpn HH.out HB0.out (bT.out.trans hf2.2) ax.out (by have:=fG.out;omega);obtain⟨x0,x1,x2,x3⟩:=box4 dP;obtain⟨y0,y1,y2,y3⟩:=zkE hf2.1.bl dQ.out;simp only[Nat.zero_mul,Addr.add_zero'] at y0 y1 y2 y3;obtain⟨y14,-⟩:=hf2.1.errC
 rw[ag.out] at y14;have dR:=zh hf2;have aY:=zh hx1;have bF:=zh hx2;clear dP hf2 hx hx1 hx2 iy;by_cases he1:bD=0;rotate_left 1
 ·have e1:(bD==0)=false:=by simpa using he1
  have e2:(bD != 0)=true:=by simpa using he1
  have aa:=zh (RunE.fail HH.out aM.out dR.out he1 (show o=.err bD by
   rw[ik.out];unfold zkQ;rw[if_pos (by rw[<-aY.out];exact he1),<-aY.out];exact zkw he1) undef)
  clear he1;go_wp2_with fail;refine bodyPost_ret (results_none rfl _ _ _) rfl ?_;exact⟨⟨_,rfl⟩,aa.out.2⟩
 subst he1;obtain rfl:=bF.out rfl;have hck:=zmv hK dR.out.1 (show zkA r1.S.cur.vs p0.s=some vp by rw[ae.out];exact ui.out) eQ.out R1.1;rw[ae.out,ag.out] at hck;have cB:=zh hck;have jw:=zh (show o=zki r1 (zlU r.S k s p0.s nil0.s R1.1 (0,0)) by rw[ik.out];unfold zkQ;rw[if_neg (by rw[<-aY.out];simp)]);clear hck;go_wp2_with fail;refine cB.out.mono ?_;rintro xU w4 ⟨id,hid,hck,rfl,kg⟩;have ay:=dR.out.trans kg;have hO4:o=zki r1 (if 0<=R1.1/\R1.1<(r.S.cell id).length then zlC r.S k s nil0.s 0 id R1.1.toNat else (12,r.S)):=by
  rw[jw.out];unfold zlU;rw[if_neg (by simp),hid]
 by_cases hin:0<=R1.1/\R1.1<((r.S.cell id).length:Int)
 rotate_left 1
 ·rw[if_neg hin] at ay hO4;obtain⟨y14,-⟩:=ay.1.errC;rw[ag.out] at y14;have aa:=zh (RunE.fail HH.out aM.out ay (by decide) (hO4.trans (zkw (by decide))) undef);clear ay kg hO4 hin hid hck;go_wp2_with fail;refine bodyPost_ret (results_none rfl _ _ _) rfl ?_;exact⟨⟨_,rfl⟩,aa.out.2⟩
 rw[if_pos hin] at ay hO4;obtain⟨m,hm⟩:∃ m:Nat,R1.1=(m:Int):=⟨R1.1.toNat,by omega⟩
 rw[hm] at hin hO4 ⊢;have eB:m<(r.S.cell id).length:=by omega
 obtain⟨⟨-,-,y8,y9,-,-,-,-,y14⟩,-,yf⟩:=ay.1.box;have jk:=Stp.kpn HH.out HB0.out (bT.out.trans ay.2) ax.out (by have:=fG.out;omega);obtain⟨x0,x1,x2,x3⟩:=box4 jk;rw[ag.out] at y8 y9 y14 yf;have hlt:id<r1.S.nc:=by rw[ae.out];exact zmg HH.out.inv.wf hid
 obtain⟨g,cc,hci,hcl,u1,yJ,mR,u3,hne,hnr⟩:=ay.1.rowC hlt (by rw[ae.out];omega);have u2:=mR m (by rw[ae.out];exact eB);have iB:=fun y=>putS (y:=y) ay.1.rws hlt hci (by rw[ae.out];exact eB);have jO:o=zki r1 (zlC r.S k s nil0.s 0 id m):=by rw[hO4,Int.toNat_natCast]
 have hw3:(zlC r.S k s nil0.s 0 id m).2.WF:=by
  have h9:=dI.out;unfold zkQ zlU at h9;rw[if_neg (by rw[<-aY.out];simp),if_neg (by simp),hid] at h9;simp only[hm] at h9;rw[if_pos hin,Int.toNat_natCast] at h9;exact h9
 obtain⟨l,hl⟩:∃ l,(r.S.cell id).length=l:=⟨_,rfl⟩
 obtain⟨z,hz⟩:∃ z,r.S.el id m=z:=⟨_,rfl⟩
 have bS:=zh hl;have HZ:=zh hz;have dZ:=zh jO;have HW3:=zh hw3;have bf:=zh ay;have gJ:=zh hci;have bV:=zh (show r.S.num p0.s=some id/\CurK r.S id vp.k/\id<r1.S.nc from ⟨hid,hck,hlt⟩);have nW:=zh iB;have jB:=zh (show g≠P.cb id/\g≠P.rb from ⟨hne,hnr⟩);have aV:=ay.1.iv;have hov:=ay.1.ov;have iX:=zh aV;have mG:=zh hov;rw[ae.out,hl] at u1;rw[ae.out,hz] at u2;rw[hl] at eB;have yw:=zh eB;have h3:(0:Int)<=(m:Int):=by omega
 have h4:(m:Int)<(l:Int):=by omega
 clear ay kg hO4 hid hck hlt hci hcl mR hne hnr iB jO hw3 hl hz hm hin eB jk aV hov y0 y1 y2 y3;rcases aQ.out with rfl|rfl|rfl
 ·skip
  obtain⟨sid,bI,hsk⟩:=nY.out (.inl rfl);obtain⟨vs,hvs⟩:=zY.out (.inl rfl);have hij:sid≠id:=zri HH.out.inv.wf hsk bV.out.2.1 (fun e=>wO.out e.symm);have hex:zlC r.S 44 s nil0.s 0 id m=zmE r.S 44 id m sid:=by
   unfold zlC;rw[if_neg (by decide),if_neg (by decide),if_pos (by decide),bI]
  have av:=dZ.out;have hw3:=HW3.out;rw[hex] at av hw3;unfold zmE at av hw3;rw[if_pos rfl] at av hw3;have j6:=zmu bf.out.1 (show zkA r1.S.cur.vs s=some vs by rw[ae.out];exact hvs);rw[ag.out,ae.out] at j6;have iN:=zh j6;have wR:=zh bI;have uL:=zh hij;have iV:=zh av;have jq:=zh hw3;clear j6 hex hsk hvs bI hij av hw3;go_wp2_with fail;refine iN.out.mono ?_;rintro en5 w5 ⟨⟨au,hsd,-,rfl⟩,rfl⟩;obtain rfl:au=sid:=by rw[wR.out] at hsd;injection hsd with hsd;exact hsd.symm
  have av:=iV.out;have hw3:=jq.out;have hls:au<r1.S.nc:=by rw[ae.out];exact zmg HH.out.inv.wf wR.out
  obtain⟨Ai,ci,hie,hlc,yq,hel⟩:=bf.out.1.celC hls;rw[ae.out] at hie hlc yq hel;obtain⟨ti,hti⟩:∃ l,r.S.cell au=l:=⟨_,rfl⟩
  rw[hti] at hie hlc yq hel av hw3;have mE:=zh hti;simp only[HZ.out] at av hw3;clear hsd iN;by_cases h0:1000<=ti.length
  ·have jr:=zh (show o=.err 5 by rw[if_pos h0] at av;exact av.trans (zkw (by decide)));have e0:(1000:Int)<=(ti.length:Int):=by omega
   clear av hw3 hti hie hlc hel hls;have hfl:=zkR hK bf.out.1 5;rw[ag.out,if_pos rfl] at hfl;have aR:=zh hfl;clear hfl;go_wp2_with fail;refine aR.out.mono ?_;rintro qP w6 ⟨⟨u,rfl⟩,eD⟩;have aa:=zh (RunE.fail HH.out aM.out (bf.out.trans eD) (by decide) jr.out undef);clear eD aR;go_wp2_with fail;refine bodyPost_ret (results_none rfl _ _ _) rfl ?_;exact⟨⟨_,rfl⟩,aa.out.2⟩
  rw[if_neg h0] at av hw3;have e0:¬ (1000:Int)<=(ti.length:Int):=by omega
  have jC:=zh (show ti.length<=5000 by omega);have gH:=zh (av.trans zlp);have HW7':=zh hw3;have vL:=zh hls;have qY:=zh (show ∀ w',Below w5.heap.size w5 w'->Sl w' Any (.slice Ai ti.length ci) (zke ti) from fun w' hb=>by
   refine⟨Ai,ci,by simp[zke],by simpa[zke] using hlc,fun i hi=>?_⟩;have hi2:i<ti.length:=by simpa[zke] using hi
   obtain⟨gq,e,h⟩:=hel i hi2;refine⟨_,e,trivial,?_⟩;rw[Addr.add_lit,Nat.zero_add];have h9:=zb hb h;rw[h9];simp[zke,ST.el,mE.out,List.getD_eq_getElem?_getD,hi2])
  clear av hw3 hti hie hlc hel h0 iV jq hls;go_upto_region 30 with fail;have hSS:(fun w':World=>w'.cell? ⟨P.cb id,0,none⟩=some (.slice (some ⟨g,0,none⟩) l cc)/\w'.cell? ⟨g,m,none⟩=some (.int .i64 z)) w5.drew/\(fun w':World=>w'.cell? ⟨(P.cb au),0,none⟩=some (.slice Ai ti.length ci)) w5.drew:=⟨⟨u1,u2⟩,yq⟩
  have aG:=zh (show ∀ w',Below w5.heap.size w5 w'->(fun w':World=>w'.cell? ⟨P.cb id,0,none⟩=some (.slice (some ⟨g,0,none⟩) l cc)/\w'.cell? ⟨g,m,none⟩=some (.int .i64 z)) w'/\(fun w':World=>w'.cell? ⟨(P.cb au),0,none⟩=some (.slice Ai ti.length ci)) w' from fun w' h=>⟨⟨zb h u1,zb h u2⟩,zb h yq⟩);refine wp_region_noPanic ?_;refine zkd (fun w':World=>w'.cell? ⟨P.cb id,0,none⟩=some (.slice (some ⟨g,0,none⟩) l cc)/\w'.cell? ⟨g,m,none⟩=some (.int .i64 z)) (fun w':World=>w'.cell? ⟨(P.cb au),0,none⟩=some (.slice Ai ti.length ci)) 18 (by kernel_rfl) ?_;refine zT 0 hSS ?_;(try simp only[zQ]);refine zT 2 hSS ?_;(try simp only[zQ]);refine zT 3 hSS ?_;(try simp only[zQ]);refine zT 4 hSS ?_;(try simp only[zQ]);refine zko (i:=5) (v:=?_) rfl (by kernel_rfl) (by kernel_rfl) (by kernel_rfl) (by decide) rfl (by kernel_rfl) (by kernel_rfl) (fun _ _ _ h=>h) (Or.inl ⟨by rfl,?_⟩) hSS ?_
  rotate_left 1
  ·(intro w hSw;(try dsimp only at hSw);(try simp only[zA,zB,zC]);go_simp;(try with_reducible rfl))
  (try simp only[zQ]);refine zT 7 hSS ?_;(try simp only[zQ]);refine zT 8 hSS ?_;(try simp only[zQ]);refine zT 9 hSS ?_;(try simp only[zQ]);refine zT 10 hSS ?_;(try simp only[zQ]);refine zT 11 hSS ?_;(try simp only[zQ]);refine zT 12 hSS ?_;(try simp only[zQ]);refine zT 13 hSS ?_;(try simp only[zQ]);clear hSS;refine znS (fun A f vY a wx=>∃ (l1 l6 l4:Bool) (v1 v6 v4:Value),f=(!l1).toNat+(!l6).toNat+(!l4).toNat+4/\vY = #[true,l1,true,true,true,true,l6,true,true,true,true,true,true,true,l4,false,false,false,false] /\
   a=((A.put (some 183) v1).put (some 188) v6).put (some 196) v4/\Hid (Below w5.heap.size w5 wx)/\Hid (l6=true->l1=true) /\
   Hid ((l1=true->l6=false->wx.ownsRow w5.heap.size 3 1 v1 0 [])/\(l6=true->wx.ownsRow w5.heap.size 3 1 v6 ti.length (zke ti))/\(l4=true->∃ b4,v4=.slice (some ⟨b4,0,none⟩) 1 1/\wx.heap[b4]?=some (.cells #[.int .i64 z] 3 (0,0))/\(l1=true->l6=false->v1.ownBlock≠some b4)/\(l6=true->v6.ownBlock≠some b4)))) (fun A f l a wx h=>?_) ?_
   ⟨false,false,false,undef,undef,undef,rfl,rfl,(by simp only[Act.put,zD,zE,zF]),zh (Below.refl _ _).drew,zh fun h=>(by cases h),zh ⟨fun h=>(by cases h),fun h=>(by cases h),fun h=>(by cases h)⟩⟩
  ·obtain⟨_,_,_,_,_,_,_,_,_,hb,_⟩:=h;exact aG.out _ hb.out
  rintro A' hA f vY a wx ⟨l1,l6,l4,v1,v6,v4,hf,rfl,ha,af,HC,HV⟩;by_cases hall:(l1&&l6&&l4)=true;rotate_left 1
  ·right
   have bK:=HC.out;refine⟨f-1,?_,?_,?_⟩
   ·clear HC bK HV ha af;subst hf;revert hall;revert l1 l6 l4
    decide
   ·clear HC HV ha af hf;revert hall bK;revert l1 l6 l4
    decide +kernel
   intro i hi;have hcase:(i=1/\l1=false)\/(i=6/\l6=false/\l1=true)\/(i=14/\l4=false):=by
    refine of_decide_eq_true ((List.all_eq_true (p:=fun i=>decide ((i=1/\l1=false)\/(i=6/\l6=false/\l1=true)\/(i=14/\l4=false)))).1 ?_ i hi);clear HC HV ha af hf hi;revert hall bK;revert l1 l6 l4
    decide +kernel
   clear hi hall;subst ha hA;have hV:=HV.out;have dC:w5.heap.size<=wx.heap.size:=af.out.size;rcases hcase with⟨rfl,rfl⟩|⟨rfl,rfl,rfl⟩|⟨rfl,rfl⟩
   ·refine wpOp_step rfl (fun K' aA=>?_);have hK:=zh aA;clear aA;obtain rfl:l6=false:=by
     rcases l6 with _|_
     ·rfl
     ·exact absurd (bK rfl) (by decide)
    have hbi:=zqJ;(try simp only[zQ]);go_simp;exact hK.out _ _ ⟨true,false,l4,_,v6,v4,(by subst hf;simp only[Bool.not_false,Bool.not_true,Bool.toNat_true,Bool.toNat_false];omega),rfl,(by simp only[Act.put,zD,zE,zF]),zh (zkc af.out _),zh fun _=>rfl,zh ⟨fun _ _=>⟨rfl,.inr ⟨wx.heap.size,0,#[],rfl,dC,heap_alloc_new wx _,Nat.le_refl _,Nat.zero_le _,rfl,rfl⟩⟩,fun h=>(by cases h),fun h=>by
     obtain⟨b4,e1,e2,-,-⟩:=hV.2.2 h;exact⟨b4,e1,zkn e2 _,fun _ _ e=>by have:=zku e2;simp[Value.ownBlock] at e;omega,fun h=>(by cases h)⟩⟩⟩
   ·refine wpOp_step rfl (fun K' aA=>?_);have hK:=zh aA;clear aA;refine zlD (by rfl) (.tmp 183) (.tmp 187) (by rfl) w5.heap.size v1 0 [] (by rfl) (hV.1 rfl rfl) _ (.slice Ai ti.length ci) ti (by rfl) (qY.out _ af.out) (by have:=jC.out;omega) dC ?_;intro v' w' ho hg aL;rw[Nat.zero_add,List.nil_append] at ho;have kX:∀ q,v1.ownBlock=some q->w5.heap.size<=q:=fun q hq=>((hV.1 rfl rfl).lt q hq).1;have hbw:Below w5.heap.size w5 w':=af.out.trans ((Chg.row hg).below dC fun q e=>kX q e);exact hK.out _ _ ⟨true,true,l4,v1,_,v4,(by subst hf;simp only[Bool.not_false,Bool.not_true,Bool.toNat_true,Bool.toNat_false];omega),rfl,(by simp only[zQ]),zh hbw,zh fun _=>rfl,zh ⟨fun _ h=>(by cases h),fun _=>ho,fun h=>by
     obtain⟨b4,e1,e2,e3,-⟩:=hV.2.2 h;have e3:=e3 rfl rfl;refine⟨b4,e1,(hg.block b4 (zku e2) (fun e=>e3 e.symm)).trans e2,fun _ h=>(by cases h),fun _ e=>?_⟩;rcases aL with e4|e4
     ·exact e3 (e4▸e)
     ·rw[e4] at e;injection e with e;have:=zku e2;omega⟩⟩
   ·refine wpOp_step rfl (fun K' aA=>?_);have hK:=zh aA;clear aA;have hbi:=zmR;(try simp only[zQ]);go_simp;exact hK.out _ _ ⟨l1,l6,true,v1,v6,_,(by subst hf;simp only[Bool.not_false,Bool.not_true,Bool.toNat_true,Bool.toNat_false];omega),rfl,(by simp only[Act.put,zD,zE,zF]),zh (zkc af.out _),HC,zh ⟨fun h1 h2=>zkJ (hV.1 h1 h2) (zkc (Below.refl _ _) _),fun h=>zkJ (hV.2.1 h) (zkc (Below.refl _ _) _),fun _=>⟨wx.heap.size,rfl,heap_alloc_new wx _,fun h1 h2 e=>by have:=((hV.1 h1 h2).lt _ e).2;omega,fun h e=>by have:=((hV.2.1 h).lt _ e).2;omega⟩⟩⟩
  left
  simp only[Bool.and_eq_true] at hall;obtain⟨⟨rfl,rfl⟩,rfl⟩:=hall;subst hf ha hA;have hV:=HV.out;have fT:=hV.2.1 rfl;obtain⟨b4,rfl,hb4,-,jZ⟩:=hV.2.2 rfl;have jZ:=jZ rfl;have dC:w5.heap.size<=wx.heap.size:=af.out.size;have mZ:Sl wx Any (.slice (some ⟨b4,0,none⟩) 1 1) (zke [z]):=⟨_,_,rfl,Nat.le_refl _,fun i hi=>⟨_,rfl,trivial,by
   have hi0:i=0:=by simp[zke] at hi;omega
   subst hi0;rw[Addr.add_zero'];exact zc hb4 rfl⟩⟩
  refine zo 15 fun K hK=>?_;refine zlD (by rfl) (.tmp 188) (.tmp 196) (by rfl) w5.heap.size v6 ti.length (zke ti) (by rfl) fT _ (.slice (some ⟨b4,0,none⟩) 1 1) [z] (by rfl) mZ (by have:=jC.out;simp;omega) dC ?_;intro v' w6 dD qN ng;rw[show ti.length+[z].length=ti.length+1 from rfl] at dD;have hb6:Below w5.heap.size w5 w6:=af.out.trans ((Chg.row qN).below dC fun q e=>(fT.lt q e).1);have eU:=aG.out _ hb6;refine hK.out _ _ eU ?_;clear hK K qN ng fT hV HV HC af hb4 jZ mZ dC;(try simp only[zQ]);refine zT 16 eU ?_;(try simp only[zQ]);refine zT 17 eU ?_;(try simp only[zQ]);obtain⟨A',c',rfl,-⟩:=zkh dD;have gV:=bf.out.1.later hb6;have hcn:K.n0<=w5.heap.size:=by have:=bf.out.1.size hK;omega
  have aW:=zxL (l':=ti++[z]) (v':=.slice A' (ti.length+1) c') bf.out.1.rws hb6 vL.out (by
   rw[show(ti++[z]).length=ti.length+1 by simp,show zke (ti++[z])=zke ti++zke [z] by simp[zke]];exact dD) hcn
  obtain⟨w7,hw7⟩:∃ x,w6.setCell ⟨P.cb au,0,none⟩ (.slice A' (ti.length+1) c')=x:=⟨_,rfl⟩
  rw[hw7] at aW;have hcell:(r1.S.setL au (ti++[z])).cell id=r.S.cell id:=by
   rw[ae.out];simp[ST.setL,show id≠au from fun e=>uL.out e.symm]
  have kU:=putS (y:=0) (r:={ r1 with S:=r1.S.setL au (ti++[z]) }) (id:=id) (i:=m) (g:=g) (c:=cc) aW.rws bV.out.2.2 (by
   show(if id=au then _ else P.ci id)=Value.slice _ ((r1.S.setL au (ti++[z])).cell id).length _
   rw[if_neg (fun e=>uL.out e.symm),gJ.out,hcell,ae.out]) (by show m<((r1.S.setL au (ti++[z])).cell id).length;rw[hcell,bS.out];exact yw.out)
  obtain⟨w8,hw8⟩:∃ x,w7.setCell ⟨g,m,none⟩ (.int .i64 0)=x:=⟨_,rfl⟩
  rw[hw8] at kU;have bu:=aW.trans kU;have hS':(r.S.setL au (ti++[z])).put id m 0=(r1.S.setL au (ti++[z])).put id m 0:=by rw[ae.out]
  have bG:=gH.out;have bH:=HW7'.out;rw[hS'] at bG bH;have hrf:=bf.out.1.fin hK (S':=(r1.S.setL au (ti++[z])).put id m 0) bu ⟨rfl,rfl,rfl,rfl,fun _ _=>rfl⟩ ⟨rfl,rfl,rfl⟩ bH (iX.out.stp bu) (mG.out.stp bu);have aa:=zh (RunE.ok HH.out (aM.out.trans (bf.out.2.trans bu)) hrf ⟨rfl,rfl,rfl,rfl,fun _ _=>rfl⟩ bG undef);have vf6:∀ o,w6.frozen? ⟨P.cb au,o,none⟩=false:=fun o=>gV.rws.frozen (.cel au) (by rw[zkO K P 0 vL.out];rfl) o;have hrc:P.cb id≠P.cb au:=fun e=>bf.out.1.rws.sep (.cel id) (.cel au) (P.cb id) (by simpa using fun e=>uL.out e.symm) (by rw[zkO K P 0 bV.out.2.2];rfl) (by rw[zkO K P 0 vL.out,e];rfl);have hgr:g≠P.cb au:=fun e=>bf.out.1.rws.sep (.row id) (.cel au) g (by simp) (by rw[zkV K P 0 bV.out.2.2];show(P.ci id).ownBlock=some g;rw[gJ.out];rfl) (by rw[zkO K P 0 vL.out,e];rfl)
  have v1:w7.cell? ⟨P.cb id,0,none⟩=some (.slice (some ⟨g,0,none⟩) l cc):=by rw[<-hw7];exact zks eU.1.1 (Below.heap_setCell _ _ _ _ hrc)
  have v2:w7.cell? ⟨g,m,none⟩=some (.int .i64 z):=by rw[<-hw7];exact zks eU.1.2 (Below.heap_setCell _ _ _ _ hgr)
  have vf:∀ o,w7.frozen? ⟨g,o,none⟩=false:=fun o=>aW.rws.frozen (.row id) (by
   show(if id<r1.S.nc then _ else _:RowD).v.ownBlock=some g
   rw[if_pos bV.out.2.2]
   show(if id=au then _ else P.ci id:Value).ownBlock=some g
   rw[if_neg (fun e=>uL.out e.symm),gJ.out];rfl) o
  have vW:=eU.2;clear gV aW kU bu hS' bG bH hrf dD hrc hgr hcell hcn;refine zp 18 fun K hK=>?_;(try simp only[zA,zB,zC]);go_simp
  try rw[hw7]
  refine hK.out _ _ ⟨v1,v2⟩ ?_;clear hK K eU;(try simp only[zQ]);refine zd ?_;refine NoPanic.normal ?_;clear vW;go_wp2_with fail
  try rw[hw8]
  go_end0;exact⟨⟨_,rfl⟩,aa.out.2⟩
 ·skip
  have hex:=znZ (S:=r.S) (k:=47) (by decide) s nil0.s 0 id m;have av:=dZ.out;have hw3:=HW3.out;rw[hex] at av hw3;unfold zlf at av hw3;rw[if_neg (by decide),if_neg (by decide),if_pos rfl] at av hw3;have aV:=iX.out;rw[ae.out] at aV;obtain⟨ti,hti⟩:∃ l,r.S.tin=l:=⟨_,rfl⟩
  rw[hti] at aV av hw3;have mE:=zh hti;obtain⟨Ai,ci,hie,hlc,hir⟩:=aV;have hfl:(zke ti).length=ti.length:=by simp[zke]
  rw[hfl] at hie hlc;rw[hie] at y8;simp only[HZ.out] at av hw3;by_cases h0:4096<=ti.length
  ·have jr:=zh (show o=.err 5 by rw[if_pos h0] at av;exact av.trans (zkw (by decide)));have e0:(4096:Int)<=(ti.length:Int):=by omega
   clear av hw3 hir hex hti hie hlc hfl;have hfl:=zkR hK bf.out.1 5;rw[ag.out,if_pos rfl] at hfl;have aR:=zh hfl;clear hfl;go_wp2_with fail;refine aR.out.mono ?_;rintro qP w6 ⟨⟨u,rfl⟩,eD⟩;have aa:=zh (RunE.fail HH.out aM.out (bf.out.trans eD) (by decide) jr.out undef);clear eD aR;go_wp2_with fail;refine bodyPost_ret (results_none rfl _ _ _) rfl ?_;exact⟨⟨_,rfl⟩,aa.out.2⟩
  rw[if_neg h0] at av hw3;have e0:¬ (4096:Int)<=(ti.length:Int):=by omega
  have jC:=zh h0;have iV:=zh (av.trans zlp);have jq:=zh hw3;have yA:=zh hie;have hb1:=zmR;have qY:=zh (show ∀ w',Below w4.heap.size w4 w'->Sl w' (fun b=>¬ OwnB (zkg K P r1 0) b) (.slice Ai ti.length ci) (zke ti) from fun w' hb=>by
   have h1:=iX.out;rw[ae.out,mE.out,hie] at h1;exact h1.keep (fun _ h _=>h) fun b _ hlt=>hb.block b hlt)
  clear av hw3 hir hex hti hie hlc hfl h0;go_upto_region 50 with fail;have hSS:(fun w':World=>w'.cell? ⟨P.cb id,0,none⟩=some (.slice (some ⟨g,0,none⟩) l cc)/\w'.cell? ⟨g,m,none⟩=some (.int .i64 z)) w4.drew/\(fun w':World=>w'.cell? ⟨rb,8,none⟩=some (.slice Ai ti.length ci)) w4.drew:=⟨⟨u1,u2⟩,y8⟩
  have aG:=zh (show ∀ w',Below w4.heap.size w4 w'->(fun w':World=>w'.cell? ⟨P.cb id,0,none⟩=some (.slice (some ⟨g,0,none⟩) l cc)/\w'.cell? ⟨g,m,none⟩=some (.int .i64 z)) w'/\(fun w':World=>w'.cell? ⟨rb,8,none⟩=some (.slice Ai ti.length ci)) w' from fun w' h=>⟨⟨zb h u1,zb h u2⟩,zb h y8⟩);refine wp_region_noPanic ?_;refine zkd (fun w':World=>w'.cell? ⟨P.cb id,0,none⟩=some (.slice (some ⟨g,0,none⟩) l cc)/\w'.cell? ⟨g,m,none⟩=some (.int .i64 z)) (fun w':World=>w'.cell? ⟨rb,8,none⟩=some (.slice Ai ti.length ci)) 16 (by kernel_rfl) ?_;refine zT 0 hSS ?_;(try simp only[zQ]);refine zT 1 hSS ?_;(try simp only[zQ]);refine zT 2 hSS ?_;(try simp only[zQ]);refine zT 3 hSS ?_;(try simp only[zQ]);refine zT 4 hSS ?_;(try simp only[zQ]);refine zT 5 hSS ?_;(try simp only[zQ]);refine zT 6 hSS ?_;(try simp only[zQ]);refine zT 7 hSS ?_;(try simp only[zQ]);refine zT 9 hSS ?_;(try simp only[zQ])
  refine zT 10 hSS ?_;(try simp only[zQ]);refine zT 11 hSS ?_;(try simp only[zQ]);refine zko (i:=12) (v:=?_) rfl (by kernel_rfl) (by kernel_rfl) (by kernel_rfl) (by decide) rfl (by kernel_rfl) (by kernel_rfl) (fun _ _ _ h=>h) (Or.inl ⟨by rfl,?_⟩) hSS ?_;rotate_left 1
  ·(intro w hSw;(try dsimp only at hSw);(try simp only[zA,zB,zC]);go_simp;(try with_reducible rfl))
  (try simp only[zQ]);have k5:=heap_alloc_new w4 (.cells #[.int .i64 z] 3);obtain⟨w5,fP⟩:∃ x,(w4.alloc (.cells #[.int .i64 z] 3)).drew=x:=⟨_,rfl⟩
  have hb5:Below w4.heap.size w4 w5:=by rw[<-fP];exact zka (zkc (Below.refl _ _) _) (Below.refl _ _).drew
  have hrow5:w5.ownsRow w4.heap.size 3 1 (.slice (some ⟨w4.heap.size,0,none⟩) 1 1) 1 [.int .i64 z]:=by
   rw[<-fP];exact⟨rfl,.inr ⟨w4.heap.size,1,_,rfl,Nat.le_refl _,k5,Nat.le_refl _,by unfold maxLen;omega,rfl,rfl⟩⟩
  refine zo 8 fun K hK=>?_;(try simp only[zA,zB,zC]);(try simp only[zQ]);go_simp
  try rw[fP]
  refine hK.out _ _ (aG.out _ hb5) ?_;clear hK K hSS k5;(try simp only[zQ]);refine zo 13 fun K hK=>?_;refine zlD (by rfl) (.tmp 320) (.tmp 324) (by rfl) w4.heap.size (.slice (some ⟨w4.heap.size,0,none⟩) 1 1) 1 [.int .i64 z] (by rfl) hrow5 _ (.slice Ai ti.length ci) ti (by rfl) (qY.out _ hb5) (by have:=jC.out;omega) hb5.size ?_;intro v' w6 dD qN ng;have hb6:Below w4.heap.size w4 w6:=hb5.trans ((Chg.row qN).below hb5.size fun q e=>by simp[Value.ownBlock] at e;omega);have eU:=aG.out _ hb6;refine hK.out _ _ eU ?_;clear hK K qN ng hrow5 hb5 fP;(try simp only[zQ]);refine zT 14 eU ?_;(try simp only[zQ]);refine zT 15 eU ?_;(try simp only[zQ]);obtain⟨A',c',rfl,-⟩:=zkh dD;have gV:=bf.out.1.later hb6
  have aW:=fldS (P':={ P with iv:=.slice A' (1+ti.length) c' }) (r':={ r1 with S:={ r1.S with tin:=z::ti } }) (er':=0) gV.rws (o:=8) (by decide) (.slice A' (1+ti.length) c') rfl ⟨rfl,rfl,rfl,rfl⟩ rfl rfl rfl;obtain⟨w7,hw7⟩:∃ x,w6.setCell ⟨P.rb,8,none⟩ (.slice A' (1+ti.length) c')=x:=⟨_,rfl⟩
  rw[hw7] at aW;have kU:=putS (y:=0) (r:={ r1 with S:={ r1.S with tin:=z::ti } }) (id:=id) (i:=m) (g:=g) (c:=cc) aW.rws bV.out.2.2 (by show P.ci id=_;rw[gJ.out]) (by show m<(r1.S.cell id).length;rw[ae.out,bS.out];exact yw.out);obtain⟨w8,hw8⟩:∃ x,w7.setCell ⟨g,m,none⟩ (.int .i64 0)=x:=⟨_,rfl⟩
  rw[hw8] at kU;have bu:=((Stp.below (Stp.refl bf.out.1.rws) hb6).trans aW).trans kU;have hS':({ r.S with tin:=z::ti }:ST).put id m 0=({ r1.S with tin:=z::ti }:ST).put id m 0:=by rw[ae.out]
  have bG:=iV.out;have bH:=jq.out;rw[hS'] at bG bH;have mY:Sl w8 (fun b=>¬ OwnB (zkg K { P with iv:=.slice A' (1+ti.length) c' } { r1 with S:=({ r1.S with tin:=z::ti }:ST).put id m 0 } 0) b) (.slice A' (1+ti.length) c') (zke (z::ti)):=by
   have h1:=zvG (v:=.slice A' (1+ti.length) c') (us:=zke (z::ti)) (by
    have e1:(zke (z::ti)).length=1+ti.length:=by simp[zke,Nat.add_comm]
    rw[e1];exact dD)
   have h2:Sl w6 (fun b=>¬ OwnB (zkg K P r1 0) b) (.slice A' (1+ti.length) c') (zke (z::ti)):=h1.keep (fun b h _ ⟨i,hi⟩=>by have:=(bf.out.1.rws.lt i b hi).2;have h:w4.heap.size<=b:=h;omega) fun _ _ _=>rfl;exact(h2.stp aW).stp kU
  have hrf:=bf.out.1.fin hK (P':={ P with iv:=.slice A' (1+ti.length) c' }) (S':=({ r1.S with tin:=z::ti }:ST).put id m 0) bu ⟨rfl,rfl,rfl,rfl,fun _ _=>rfl⟩ ⟨rfl,rfl,rfl⟩ bH mY (mG.out.stp bu);have aa:=zh (RunE.ok HH.out (aM.out.trans (bf.out.2.trans bu)) hrf ⟨rfl,rfl,rfl,rfl,fun _ _=>rfl⟩ bG undef);rw[ag.out] at hw7;have vf6:∀ o,w6.frozen? ⟨rb,o,none⟩=false:=fun o=>by have:=gV.rws.frozen .run (g:=P.rb) rfl o;rw[ag.out] at this;exact this
  have hrc:P.cb id≠rb:=fun e=>bf.out.1.rws.sep (.cel id) .run (P.cb id) (by simp) (by rw[zkO K P 0 bV.out.2.2];rfl) (by rw[e,<-ag.out];rfl);have hgr:g≠rb:=fun e=>jB.out.2 (by rw[ag.out];exact e);have v1:w7.cell? ⟨P.cb id,0,none⟩=some (.slice (some ⟨g,0,none⟩) l cc):=by rw[<-hw7];exact zks eU.1.1 (Below.heap_setCell _ _ _ _ hrc)
  have v2:w7.cell? ⟨g,m,none⟩=some (.int .i64 z):=by rw[<-hw7];exact zks eU.1.2 (Below.heap_setCell _ _ _ _ hgr)
  have vf:∀ o,w7.frozen? ⟨g,o,none⟩=false:=fun o=>aW.rws.frozen (.row id) (by
   show(if id<r1.S.nc then _ else _:RowD).v.ownBlock=some g
   rw[if_pos bV.out.2.2]
   show(P.ci id).ownBlock=some g
   rw[gJ.out];rfl) o
  have vW:=eU.2;clear gV aW kU bu hS' bG bH mY hrf dD hrc hgr;refine zp 16 fun K hK=>?_;(try simp only[zA,zB,zC]);go_simp
  try rw[hw7]
  refine hK.out _ _ ⟨v1,v2⟩ ?_;clear hK K eU;(try simp only[zQ]);refine zd ?_;refine NoPanic.normal ?_;clear vW;go_wp2_with fail
  try rw[hw8]
  go_end0;exact⟨⟨_,rfl⟩,aa.out.2⟩
 ·skip
  have hex:=znZ (S:=r.S) (k:=48) (by decide) s nil0.s 0 id m;have av:=dZ.out;have hw3:=HW3.out;rw[hex] at av hw3;unfold zlf at av hw3;rw[if_neg (by decide),if_neg (by decide),if_neg (by decide)] at av hw3;have aV:=mG.out;rw[ae.out] at aV;obtain⟨ti,hti⟩:∃ l,r.S.tout=l:=⟨_,rfl⟩
  rw[hti] at aV av hw3;have mE:=zh hti;obtain⟨Ai,ci,hie,hlc,hir⟩:=aV;have hfl:(zke ti).length=ti.length:=by simp[zke]
  rw[hfl] at hie hlc;rw[hie] at y9;simp only[HZ.out] at av hw3;by_cases h0:4096<=ti.length
  ·have jr:=zh (show o=.err 5 by rw[if_pos h0] at av;exact av.trans (zkw (by decide)));have e0:(4096:Int)<=(ti.length:Int):=by omega
   clear av hw3 hir hex hti hie hlc hfl;have hfl:=zkR hK bf.out.1 5;rw[ag.out,if_pos rfl] at hfl;have aR:=zh hfl;clear hfl;go_wp2_with fail;refine aR.out.mono ?_;rintro qP w6 ⟨⟨u,rfl⟩,eD⟩;have aa:=zh (RunE.fail HH.out aM.out (bf.out.trans eD) (by decide) jr.out undef);clear eD aR;go_wp2_with fail;refine bodyPost_ret (results_none rfl _ _ _) rfl ?_;exact⟨⟨_,rfl⟩,aa.out.2⟩
  rw[if_neg h0] at av hw3;have e0:¬ (4096:Int)<=(ti.length:Int):=by omega
  have jC:=zh (show ti.length<=5000 by omega);have iV:=zh (av.trans zlp);have jq:=zh hw3;have qY:=zh (show ∀ w',Below w4.heap.size w4 w'->Sl w' Any (.slice Ai ti.length ci) (zke ti) from fun w' hb=>by
   have h1:=mG.out;rw[ae.out,mE.out,hie] at h1;exact h1.keep (fun _ _ _=>trivial) fun b _ hlt=>hb.block b hlt)
  have yq:=y9;clear av hw3 hir hex hti hie hlc hfl h0;go_upto_region 55 with fail;have hSS:(fun w':World=>w'.cell? ⟨P.cb id,0,none⟩=some (.slice (some ⟨g,0,none⟩) l cc)/\w'.cell? ⟨g,m,none⟩=some (.int .i64 z)) w4.drew/\(fun w':World=>w'.cell? ⟨rb,9,none⟩=some (.slice Ai ti.length ci)) w4.drew:=⟨⟨u1,u2⟩,yq⟩
  have aG:=zh (show ∀ w',Below w4.heap.size w4 w'->(fun w':World=>w'.cell? ⟨P.cb id,0,none⟩=some (.slice (some ⟨g,0,none⟩) l cc)/\w'.cell? ⟨g,m,none⟩=some (.int .i64 z)) w'/\(fun w':World=>w'.cell? ⟨rb,9,none⟩=some (.slice Ai ti.length ci)) w' from fun w' h=>⟨⟨zb h u1,zb h u2⟩,zb h yq⟩);refine wp_region_noPanic ?_;refine zkd (fun w':World=>w'.cell? ⟨P.cb id,0,none⟩=some (.slice (some ⟨g,0,none⟩) l cc)/\w'.cell? ⟨g,m,none⟩=some (.int .i64 z)) (fun w':World=>w'.cell? ⟨rb,9,none⟩=some (.slice Ai ti.length ci)) 18 (by kernel_rfl) ?_;refine zT 0 hSS ?_;(try simp only[zQ]);refine zT 2 hSS ?_;(try simp only[zQ]);refine zT 3 hSS ?_;(try simp only[zQ]);refine zT 4 hSS ?_;(try simp only[zQ]);refine zko (i:=5) (v:=?_) rfl (by kernel_rfl) (by kernel_rfl) (by kernel_rfl) (by decide) rfl (by kernel_rfl) (by kernel_rfl) (fun _ _ _ h=>h) (Or.inl ⟨by rfl,?_⟩) hSS ?_;rotate_left 1
  ·(intro w hSw;(try dsimp only at hSw);(try simp only[zA,zB,zC]);go_simp;(try with_reducible rfl))
  (try simp only[zQ]);refine zT 7 hSS ?_;(try simp only[zQ]);refine zT 8 hSS ?_;(try simp only[zQ]);refine zT 9 hSS ?_;(try simp only[zQ]);refine zT 10 hSS ?_;(try simp only[zQ]);refine zT 11 hSS ?_;(try simp only[zQ]);refine zT 12 hSS ?_;(try simp only[zQ]);refine zT 13 hSS ?_;(try simp only[zQ]);clear hSS;refine znS (fun A f vY a wx=>∃ (l1 l6 l4:Bool) (v1 v6 v4:Value),f=(!l1).toNat+(!l6).toNat+(!l4).toNat+4/\vY = #[true,l1,true,true,true,true,l6,true,true,true,true,true,true,true,l4,false,false,false,false] /\
   a=((A.put (some 345) v1).put (some 350) v6).put (some 358) v4/\Hid (Below w4.heap.size w4 wx)/\Hid (l6=true->l1=true) /\
   Hid ((l1=true->l6=false->wx.ownsRow w4.heap.size 3 1 v1 0 [])/\(l6=true->wx.ownsRow w4.heap.size 3 1 v6 ti.length (zke ti))/\(l4=true->∃ b4,v4=.slice (some ⟨b4,0,none⟩) 1 1/\wx.heap[b4]?=some (.cells #[.int .i64 z] 3 (0,0))/\(l1=true->l6=false->v1.ownBlock≠some b4)/\(l6=true->v6.ownBlock≠some b4)))) (fun A f l a wx h=>?_) ?_
   ⟨false,false,false,undef,undef,undef,rfl,rfl,(by simp only[Act.put,zD,zE,zF]),zh (Below.refl _ _).drew,zh fun h=>(by cases h),zh ⟨fun h=>(by cases h),fun h=>(by cases h),fun h=>(by cases h)⟩⟩
  ·obtain⟨_,_,_,_,_,_,_,_,_,hb,_⟩:=h;exact aG.out _ hb.out
  rintro A' hA f vY a wx ⟨l1,l6,l4,v1,v6,v4,hf,rfl,ha,af,HC,HV⟩;by_cases hall:(l1&&l6&&l4)=true;rotate_left 1
  ·right
   have bK:=HC.out;refine⟨f-1,?_,?_,?_⟩
   ·clear HC bK HV ha af;subst hf;revert hall;revert l1 l6 l4
    decide
   ·clear HC HV ha af hf;revert hall bK;revert l1 l6 l4
    decide +kernel
   intro i hi;have hcase:(i=1/\l1=false)\/(i=6/\l6=false/\l1=true)\/(i=14/\l4=false):=by
    refine of_decide_eq_true ((List.all_eq_true (p:=fun i=>decide ((i=1/\l1=false)\/(i=6/\l6=false/\l1=true)\/(i=14/\l4=false)))).1 ?_ i hi);clear HC HV ha af hf hi;revert hall bK;revert l1 l6 l4
    decide +kernel
   clear hi hall;subst ha hA;have hV:=HV.out;have dC:w4.heap.size<=wx.heap.size:=af.out.size;rcases hcase with⟨rfl,rfl⟩|⟨rfl,rfl,rfl⟩|⟨rfl,rfl⟩
   ·refine wpOp_step rfl (fun K' aA=>?_);have hK:=zh aA;clear aA;obtain rfl:l6=false:=by
     rcases l6 with _|_
     ·rfl
     ·exact absurd (bK rfl) (by decide)
    have hbi:=zqJ;(try simp only[zQ]);go_simp;exact hK.out _ _ ⟨true,false,l4,_,v6,v4,(by subst hf;simp only[Bool.not_false,Bool.not_true,Bool.toNat_true,Bool.toNat_false];omega),rfl,(by simp only[Act.put,zD,zE,zF]),zh (zkc af.out _),zh fun _=>rfl,zh ⟨fun _ _=>⟨rfl,.inr ⟨wx.heap.size,0,#[],rfl,dC,heap_alloc_new wx _,Nat.le_refl _,Nat.zero_le _,rfl,rfl⟩⟩,fun h=>(by cases h),fun h=>by
     obtain⟨b4,e1,e2,-,-⟩:=hV.2.2 h;exact⟨b4,e1,zkn e2 _,fun _ _ e=>by have:=zku e2;simp[Value.ownBlock] at e;omega,fun h=>(by cases h)⟩⟩⟩
   ·refine wpOp_step rfl (fun K' aA=>?_);have hK:=zh aA;clear aA;refine zlD (by rfl) (.tmp 345) (.tmp 349) (by rfl) w4.heap.size v1 0 [] (by rfl) (hV.1 rfl rfl) _ (.slice Ai ti.length ci) ti (by rfl) (qY.out _ af.out) (by have:=jC.out;omega) dC ?_;intro v' w' ho hg aL;rw[Nat.zero_add,List.nil_append] at ho;have kX:∀ q,v1.ownBlock=some q->w4.heap.size<=q:=fun q hq=>((hV.1 rfl rfl).lt q hq).1;have hbw:Below w4.heap.size w4 w':=af.out.trans ((Chg.row hg).below dC fun q e=>kX q e);exact hK.out _ _ ⟨true,true,l4,v1,_,v4,(by subst hf;simp only[Bool.not_false,Bool.not_true,Bool.toNat_true,Bool.toNat_false];omega),rfl,(by simp only[zQ]),zh hbw,zh fun _=>rfl,zh ⟨fun _ h=>(by cases h),fun _=>ho,fun h=>by
     obtain⟨b4,e1,e2,e3,-⟩:=hV.2.2 h;have e3:=e3 rfl rfl;refine⟨b4,e1,(hg.block b4 (zku e2) (fun e=>e3 e.symm)).trans e2,fun _ h=>(by cases h),fun _ e=>?_⟩;rcases aL with e4|e4
     ·exact e3 (e4▸e)
     ·rw[e4] at e;injection e with e;have:=zku e2;omega⟩⟩
   ·refine wpOp_step rfl (fun K' aA=>?_);have hK:=zh aA;clear aA;have hbi:=zmR;(try simp only[zQ]);go_simp;exact hK.out _ _ ⟨l1,l6,true,v1,v6,_,(by subst hf;simp only[Bool.not_false,Bool.not_true,Bool.toNat_true,Bool.toNat_false];omega),rfl,(by simp only[Act.put,zD,zE,zF]),zh (zkc af.out _),HC,zh ⟨fun h1 h2=>zkJ (hV.1 h1 h2) (zkc (Below.refl _ _) _),fun h=>zkJ (hV.2.1 h) (zkc (Below.refl _ _) _),fun _=>⟨wx.heap.size,rfl,heap_alloc_new wx _,fun h1 h2 e=>by have:=((hV.1 h1 h2).lt _ e).2;omega,fun h e=>by have:=((hV.2.1 h).lt _ e).2;omega⟩⟩⟩
  left
  simp only[Bool.and_eq_true] at hall;obtain⟨⟨rfl,rfl⟩,rfl⟩:=hall;subst hf ha hA;have hV:=HV.out;have fT:=hV.2.1 rfl;obtain⟨b4,rfl,hb4,-,jZ⟩:=hV.2.2 rfl;have jZ:=jZ rfl;have dC:w4.heap.size<=wx.heap.size:=af.out.size;have mZ:Sl wx Any (.slice (some ⟨b4,0,none⟩) 1 1) (zke [z]):=⟨_,_,rfl,Nat.le_refl _,fun i hi=>⟨_,rfl,trivial,by
   have hi0:i=0:=by simp[zke] at hi;omega
   subst hi0;rw[Addr.add_zero'];exact zc hb4 rfl⟩⟩
  refine zo 15 fun K hK=>?_;refine zlD (by rfl) (.tmp 350) (.tmp 358) (by rfl) w4.heap.size v6 ti.length (zke ti) (by rfl) fT _ (.slice (some ⟨b4,0,none⟩) 1 1) [z] (by rfl) mZ (by have:=jC.out;simp;omega) dC ?_;intro v' w6 dD qN ng;rw[show ti.length+[z].length=ti.length+1 from rfl] at dD;have hb6:Below w4.heap.size w4 w6:=af.out.trans ((Chg.row qN).below dC fun q e=>(fT.lt q e).1);have eU:=aG.out _ hb6;refine hK.out _ _ eU ?_;clear hK K qN ng fT hV HV HC af hb4 jZ mZ dC;(try simp only[zQ]);refine zT 16 eU ?_;(try simp only[zQ]);refine zT 17 eU ?_;(try simp only[zQ]);obtain⟨A',c',rfl,-⟩:=zkh dD;have gV:=bf.out.1.later hb6;have aW:=fldS (P':={ P with ov:=.slice A' (ti.length+1) c' }) (r':={ r1 with S:={ r1.S with tout:=ti++[z] } }) (er':=0) gV.rws (o:=9) (by decide) (.slice A' (ti.length+1) c') rfl ⟨rfl,rfl,rfl,rfl⟩ rfl rfl rfl
  obtain⟨w7,hw7⟩:∃ x,w6.setCell ⟨P.rb,9,none⟩ (.slice A' (ti.length+1) c')=x:=⟨_,rfl⟩
  rw[hw7] at aW;have kU:=putS (y:=0) (r:={ r1 with S:={ r1.S with tout:=ti++[z] } }) (id:=id) (i:=m) (g:=g) (c:=cc) aW.rws bV.out.2.2 (by show P.ci id=_;rw[gJ.out]) (by show m<(r1.S.cell id).length;rw[ae.out,bS.out];exact yw.out);obtain⟨w8,hw8⟩:∃ x,w7.setCell ⟨g,m,none⟩ (.int .i64 0)=x:=⟨_,rfl⟩
  rw[hw8] at kU;have bu:=((Stp.below (Stp.refl bf.out.1.rws) hb6).trans aW).trans kU;have hS':({ r.S with tout:=ti++[z] }:ST).put id m 0=({ r1.S with tout:=ti++[z] }:ST).put id m 0:=by rw[ae.out]
  have bG:=iV.out;have bH:=jq.out;rw[hS'] at bG bH;have mY:Sl w8 (fun b=>¬ OwnB (zkg K { P with ov:=.slice A' (ti.length+1) c' } { r1 with S:=({ r1.S with tout:=ti++[z] }:ST).put id m 0 } 0) b) (.slice A' (ti.length+1) c') (zke (ti++[z])):=by
   have h1:=zvG (v:=.slice A' (ti.length+1) c') (us:=zke (ti++[z])) (by
    have e1:(zke (ti++[z])).length=ti.length+1:=by simp[zke]
    rw[e1,show zke (ti++[z])=zke ti++zke [z] by simp[zke]];exact dD)
   have h2:Sl w6 (fun b=>¬ OwnB (zkg K P r1 0) b) (.slice A' (ti.length+1) c') (zke (ti++[z])):=h1.keep (fun b h _ ⟨i,hi⟩=>by have:=(bf.out.1.rws.lt i b hi).2;have h:w4.heap.size<=b:=h;omega) fun _ _ _=>rfl;exact(h2.stp aW).stp kU
  have hrf:=bf.out.1.fin hK (P':={ P with ov:=.slice A' (ti.length+1) c' }) (S':=({ r1.S with tout:=ti++[z] }:ST).put id m 0) bu ⟨rfl,rfl,rfl,rfl,fun _ _=>rfl⟩ ⟨rfl,rfl,rfl⟩ bH (iX.out.stp bu) mY;have aa:=zh (RunE.ok HH.out (aM.out.trans (bf.out.2.trans bu)) hrf ⟨rfl,rfl,rfl,rfl,fun _ _=>rfl⟩ bG undef);rw[ag.out] at hw7;have vf6:∀ o,w6.frozen? ⟨rb,o,none⟩=false:=fun o=>by have:=gV.rws.frozen .run (g:=P.rb) rfl o;rw[ag.out] at this;exact this
  have hrc:P.cb id≠rb:=fun e=>bf.out.1.rws.sep (.cel id) .run (P.cb id) (by simp) (by rw[zkO K P 0 bV.out.2.2];rfl) (by rw[e,<-ag.out];rfl);have hgr:g≠rb:=fun e=>jB.out.2 (by rw[ag.out];exact e);have v1:w7.cell? ⟨P.cb id,0,none⟩=some (.slice (some ⟨g,0,none⟩) l cc):=by rw[<-hw7];exact zks eU.1.1 (Below.heap_setCell _ _ _ _ hrc)
  have v2:w7.cell? ⟨g,m,none⟩=some (.int .i64 z):=by rw[<-hw7];exact zks eU.1.2 (Below.heap_setCell _ _ _ _ hgr)
  have vf:∀ o,w7.frozen? ⟨g,o,none⟩=false:=fun o=>aW.rws.frozen (.row id) (by
   show(if id<r1.S.nc then _ else _:RowD).v.ownBlock=some g
   rw[if_pos bV.out.2.2]
   show(P.ci id).ownBlock=some g
   rw[gJ.out];rfl) o
  have vW:=eU.2;clear gV aW kU bu hS' bG bH mY hrf dD hrc hgr;refine zp 18 fun K hK=>?_;(try simp only[zA,zB,zC]);go_simp
  try rw[hw7]
  refine hK.out _ _ ⟨v1,v2⟩ ?_;clear hK K eU;(try simp only[zQ]);refine zd ?_;refine NoPanic.normal ?_;clear vW;go_wp2_with fail
  try rw[hw8]
  go_end0;exact⟨⟨_,rfl⟩,aa.out.2⟩
theorem zqh (k:Int) (w:World):Calls Tryz.prog 72 #[.int .u8 k] w fun e w'=>e=.returned (.int .u8 (zmF k))/\w'=w:=by
 by_cases hk:k=40\/k=41\/k=44\/k=45\/k=46\/k=47\/k=48\/k=49
 ·rcases hk with e1|e1|e1|e1|e1|e1|e1|e1
  ·skip
   subst e1;go_enter Tryz.func72,Tryz.ntmps72;go_wp2_with fail;go_ret;exact⟨rfl,rfl⟩
  ·skip
   subst e1;go_enter Tryz.func72,Tryz.ntmps72;go_wp2_with fail;go_ret;exact⟨rfl,rfl⟩
  ·skip
   subst e1;go_enter Tryz.func72,Tryz.ntmps72;go_wp2_with fail;go_ret;exact⟨rfl,rfl⟩
  ·skip
   subst e1;go_enter Tryz.func72,Tryz.ntmps72;go_wp2_with fail;go_ret;exact⟨rfl,rfl⟩
  ·skip
   subst e1;go_enter Tryz.func72,Tryz.ntmps72;go_wp2_with fail;go_ret;exact⟨rfl,rfl⟩
  ·skip
   subst e1;go_enter Tryz.func72,Tryz.ntmps72;go_wp2_with fail;go_ret;exact⟨rfl,rfl⟩
  ·skip
   subst e1;go_enter Tryz.func72,Tryz.ntmps72;go_wp2_with fail;go_ret;exact⟨rfl,rfl⟩
  ·skip
   subst e1;go_enter Tryz.func72,Tryz.ntmps72;go_wp2_with fail;go_ret;exact⟨rfl,rfl⟩
 ·have x40:(k==40)=false:=by simp;omega
  have x41:(k==41)=false:=by simp;omega
  have yH:(k==44)=false:=by simp;omega
  have yG:(k==45)=false:=by simp;omega
  have x46:(k==46)=false:=by simp;omega
  have x47:(k==47)=false:=by simp;omega
  have x48:(k==48)=false:=by simp;omega
  have x49:(k==49)=false:=by simp;omega
  rw[show zmF k=k by unfold zmF;repeat rw[if_neg (by omega)]];clear hk;go_enter Tryz.func72,Tryz.ntmps72;go_wp2_with fail;go_ret;exact⟨rfl,rfl⟩
theorem zsw (k:Int):zna (zmF k)=zna k:=by
 unfold zmF
 repeat' split
 all_goals first|rfl|(subst_vars;rfl)
theorem zuS (vs:List VD) (k n:Int) (s:ByteArray) (ks:List T):fltE vs (.nd (zmF k) n s ks)=fltE vs (.nd k n s ks):=by
 rw[fltE,fltE];unfold ownE;rw[zsw]
theorem zrk {k n:Int} {s:ByteArray} {ks:List T} (h:isS (.nd k n s ks)=true) (hb:¬ (50<=k/\k<=55)):isS (.nd (zmF k) n s ks)=true:=by
 have hr:=zog h;have:k=40\/k=41\/k=42\/k=43\/k=44\/k=45\/k=46\/k=47\/k=48\/k=49\/k=56:=by omega
 rcases this with rfl|rfl|rfl|rfl|rfl|rfl|rfl|rfl|rfl|rfl|rfl<;>simpa[isS,zmF] using h
theorem zpa {K:RK} (hK:K.Ok) {P:RP} {W:World} {r:RS} (h:RF K P W r 0) {k k0 n:Int} {s:ByteArray} {ks:List T} {v:Value} (hv:NV K.w Any (.nd k0 n s ks) v) (hk:¬ (50<=k/\k<=55)) (hs:isS (.nd k n s ks)=true) (hf:fltE r.S.cur.vs (.nd k n s ks)=0) :
  Calls Tryz.prog 71 #[.pointer (some ⟨P.rb,0,none⟩),.int .u8 k,v] W (RunE K P W r ((zkq K.F r).bind fun r=>zki r (doE r.S (.nd k n s ks)))):=by
 have hr:=zog hs;obtain⟨h1,h2,h3⟩:=zoh hs;have:k=40\/k=41\/k=42\/k=43\/k=44\/k=45\/k=46\/k=47\/k=48\/k=49\/k=56:=by omega
 rcases this with e|e|e|e|e|e|e|e|e|e|e
 ·obtain⟨p,q,rfl,-⟩:=h1 (by omega);exact zpy hK h hv (by omega) hs hf
 ·obtain⟨p,q,rfl,-⟩:=h1 (by omega);exact zpy hK h hv (by omega) hs hf
 ·obtain⟨p,q,rfl,-⟩:=h1 (by omega);exact zpy hK h hv (by omega) hs hf
 ·obtain⟨p,q,rfl,-⟩:=h2 (by omega);subst e;exact ztF hK h hv hs hf
 ·obtain⟨p,rfl,-⟩:=h3 (by omega);exact ztG hK h hv (.inl e) hs hf
 ·obtain⟨p,rfl,-⟩:=h3 (by omega);exact ztH hK h hv (.inl e) hs hf
 ·obtain⟨p,rfl,-⟩:=h3 (by omega);exact ztH hK h hv (.inr (.inl e)) hs hf
 ·obtain⟨p,rfl,-⟩:=h3 (by omega);exact ztG hK h hv (.inr (.inl e)) hs hf
 ·obtain⟨p,rfl,-⟩:=h3 (by omega);exact ztG hK h hv (.inr (.inr e)) hs hf
 ·obtain⟨p,rfl,-⟩:=h3 (by omega);exact ztH hK h hv (.inr (.inr e)) hs hf
 ·subst e;exact zvp hK h hv hs
def zvj (K:RK) (P:RP) (W:World) (r:RS) (t:T) (b:Bool) (W':World):Prop :=
 (∃ x,(∀ f,zkG K.F t r f=.err x)/\b=false/\ErM P.rb W' x/\Chg (OwnB (zkg K P r 0)) W W') \/
 ((∀ f,zkG K.F t r f=f b { r with n:=r.n+1 })/\RF K P W' { r with n:=r.n+1 } 0/\Stp K.n0 (zkg K P r 0) W (zkg K P { r with n:=r.n+1 } 0) W')
theorem zty {rb:Nat} {W:World} {x:Int} (h:ErM rb W x) {w:World} {t:T} {v:Value} (hv:NV w Any t v):Calls Tryz.prog 65 #[.pointer (some ⟨rb,0,none⟩),v] W fun en W'=>en=.returned (.bool false)/\Below W.heap.size W W':=by
 obtain⟨A,c,rfl,-⟩:=hv.open_;obtain⟨L,hL⟩:∃ L,t.ks.length=L:=⟨_,rfl⟩
 obtain⟨k,hk⟩:∃ L,t.k=L:=⟨_,rfl⟩
 obtain⟨n,hn⟩:∃ L,t.n=L:=⟨_,rfl⟩
 obtain⟨s,hs⟩:∃ L,t.s=L:=⟨_,rfl⟩
 rw[hL,hk,hn,hs];have hb0:=zkc (Below.refl W.heap.size W) (.cells #[.int .u8 k,.int .i64 n,.string s,.slice A L c] 26);obtain⟨W0,hW0⟩:∃ x,W.alloc (.cells #[.int .u8 k,.int .i64 n,.string s,.slice A L c] 26)=x:=⟨_,rfl⟩
 rw[hW0] at hb0;have HST:=zh (zns (h.later hb0));have HB0:=zh hb0;clear hL hk hn hs hv hb0 h;go_enter Tryz.func65,Tryz.ntmps65;go_wp2_with fail;refine HST.out.mono ?_;rintro kr w1 ⟨rfl,rfl⟩;go_wp2_with fail;go_ret;exact⟨rfl,HB0.out⟩
theorem ztz {K:RK} (hK:K.Ok) {P:RP} {W:World} {r:RS} (h:RF K P W r 0) {t:T} {v:Value} (ko:EP r.S.cur.vs t) (hv:NV K.w Any t v):Calls Tryz.prog 65 #[.pointer (some ⟨P.rb,0,none⟩),v] W fun en W'=>∃ b,en=.returned (.bool b)/\zvj K P W r t b W':=by
 have HV:=zh hv;obtain⟨A,c,rfl,-⟩:=hv.open_;obtain⟨L,hL⟩:∃ L,t.ks.length=L:=⟨_,rfl⟩
 obtain⟨k,hk⟩:∃ L,t.k=L:=⟨_,rfl⟩
 obtain⟨n,hn⟩:∃ L,t.n=L:=⟨_,rfl⟩
 obtain⟨s,hs⟩:∃ L,t.s=L:=⟨_,rfl⟩
 rw[hL,hk,hn,hs] at HV ⊢;have hb0:=zkc (Below.refl W.heap.size W) (.cells #[.int .u8 k,.int .i64 n,.string s,.slice A L c] 26);have hbx:=heap_alloc_new W (.cells #[.int .u8 k,.int .i64 n,.string s,.slice A L c] 26);obtain⟨W0,hW0⟩:∃ x,W.alloc (.cells #[.int .u8 k,.int .i64 n,.string s,.slice A L c] 26)=x:=⟨_,rfl⟩
 obtain⟨nb,hnb⟩:∃ x,W.heap.size=x:=⟨_,rfl⟩
 rw[hW0] at hb0 hbx;rw[hnb] at hbx;have hh0:=h.later hb0;have HH:=zh h;have HB0:=zh hb0;have ax:=zh hbx;have fG:=zh hnb;have gD:=zh (Stp.below (Stp.refl h.rws) hb0);obtain⟨rb,hrb⟩:∃ b,P.rb=b:=⟨_,rfl⟩
 have ag:=zh hrb;have hst:=zmc hK hh0;rw[hrb] at hst;have HST:=zh hst;have Bi:=zh ko;have jA:=zh (show K.F<=(r.n:Int)->∀ f,zkG K.F t r f=.err 18 from fun h f=>by unfold zkG;rw[zkq,if_pos h];rfl);have jQ:=zh (show(r.n:Int)<K.F->∀ f,zkG K.F t r f=if (evE r.S.look t).2≠0 then .err (evE r.S.look t).2 else f (decide ((evE r.S.look t).1≠0)) { r with n:=r.n+1 } from fun h f=>by
  unfold zkG;rw[zkq,if_neg (by omega)]
  show valO t { r with n:=r.n+1 } (fun x r=>f (decide (x≠0)) r)=_
  unfold valO;have e:∀ look,zlb look t=evE look t:=fun look=>by unfold zlb;rw[if_pos Bi.out.e]
  rw[e])
 rw[hrb];clear hL hk hn hs hv hb0 hbx hh0 hst ko h hrb;go_enter Tryz.func65,Tryz.ntmps65;go_wp2_with fail;refine HST.out.mono ?_;rintro kr w1 (⟨hF,rfl,hf⟩|⟨hF,rfl,h1,st1⟩)
 ·have aa:=zh (show zvj K P W r t false w1 from .inl ⟨18,jA.out hF,rfl,⟨by decide,hf.1.errC.1⟩,(gD.out.trans hf.2).chg⟩);clear hf;go_wp2_with fail;go_ret;exact⟨false,rfl,aa.out⟩
 obtain⟨r1,hr1⟩:∃ x:RS,{ r with n:=r.n+1 }=x:=⟨_,rfl⟩
 have fU:r1.S=r.S:=by rw[<-hr1]
 rw[hr1] at h1 st1;have aM:=zh (gD.out.trans st1);have aO:=Stp.kpn HH.out HB0.out st1 ax.out (by have:=fG.out;omega);obtain⟨x0,x1,x2,x3⟩:=box4 aO;have hx:=znu hK t P w1 r1 0 _ h1 (by rw[fU];exact Bi.out) HV.out;rw[fU,ag.out] at hx;have HX:=zh hx;have jw:=zh (show ∀ f,zkG K.F t r f=if (evE r.S.look t).2≠0 then .err (evE r.S.look t).2 else f (decide ((evE r.S.look t).1≠0)) r1 by rw[<-hr1];exact jQ.out hF);obtain⟨R,hR⟩:∃ R,evE r.S.look t=R:=⟨_,rfl⟩
 rw[hR] at HX jw;have HR1:=zh hr1;clear hx aO h1 st1 HST hr1 fU hR jQ jA;go_wp2_with fail;refine HX.out.mono ?_;rintro mq w2 ⟨x,bD,rfl,hf2,-,hx⟩;obtain⟨hx1,hx2⟩:=hx rfl;obtain⟨y14,-⟩:=hf2.1.errC;rw[ag.out] at y14;have dR:=zh hf2;have bF:=zh hx2;have aY:=zh hx1;clear hf2 hx hx1 hx2 HX;by_cases he1:bD=0;rotate_left 1
 ·have e1:(bD==0)=false:=by simpa using he1
  have aa:=zh (show zvj K P W r t false w2 from .inl ⟨bD,fun f=>by rw[jw.out,<-aY.out,if_pos he1],rfl,⟨he1,dR.out.1.errC.1⟩,(aM.out.trans dR.out.2).chg⟩);clear he1;by_cases hx0:x=0
  ·subst hx0;go_wp2_with fail;go_ret;exact⟨false,rfl,aa.out⟩
  ·have e2:(x != 0)=true:=by simpa using hx0
   clear hx0;go_wp2_with fail;go_ret;exact⟨false,rfl,aa.out⟩
 subst he1;obtain rfl:=bF.out rfl;have aa:=zh (show zvj K P W r t (decide (R.1≠0)) w2 from .inr ⟨fun f=>by rw[jw.out,<-aY.out,if_neg (by simp),HR1.out],by rw[HR1.out];exact dR.out.1,by rw[HR1.out];exact aM.out.trans dR.out.2⟩);by_cases hx0:R.1=0
 ·have e2:(R.1 != 0)=false:=by simpa using hx0
  have HD:=zh (show decide (R.1≠0)=false by simpa using hx0);clear hx0;go_wp2_with fail;go_ret;exact⟨false,rfl,by rw[<-HD.out];exact aa.out⟩
 ·have e2:(R.1 != 0)=true:=by simpa using hx0
  have HD:=zh (show decide (R.1≠0)=true by simpa using hx0);clear hx0;go_wp2_with fail;go_ret;exact⟨true,rfl,by rw[<-HD.out];exact aa.out⟩
theorem bRS1 (s:ByteArray) (w:World):(Instr.buildSlice 88 1 #[(0,.string s)]).run Tryz.prog w=.ok (.slice (some ⟨w.heap.size,0,none⟩) 1 1) (w.alloc (.cells #[.string s] 9)):=by kernel_rfl
theorem bRP0 (w:World):(Instr.buildSlice 89 0 #[]).run Tryz.prog w=.ok (.slice (some ⟨w.heap.size,0,none⟩) 0 0) (w.alloc (.cells #[] 95)):=by kernel_rfl
theorem bRP1 (p:Option Addr) (w:World):(Instr.buildSlice 89 1 #[(0,.pointer p)]).run Tryz.prog w=.ok (.slice (some ⟨w.heap.size,0,none⟩) 1 1) (w.alloc (.cells #[.pointer p] 95)):=by kernel_rfl
theorem bRC (A:Option Addr) (l c:Nat) (w:World):(Instr.build 94 #[(0,.slice A l c)]).run Tryz.prog w=.ok (.agg #[.slice A l c]) w:=by kernel_rfl
theorem zw7:(Tryz.prog.info? 95).map (fun i=>(i.zero,i.size,i.bytes))=some (some (.pointer none),1,8):=by kernel_rfl
theorem zq9 (w:World) (n0:Nat) (h:n0<=w.heap.size) (a:Value) (E:TypeId):(w.alloc (.cells #[a] E)).ownsRow n0 E 1 (boxV w.heap.size) 1 [a] :=
 ⟨rfl,.inr ⟨w.heap.size,1,#[a],rfl,h,heap_alloc_new w _,Nat.le_refl _,by unfold maxLen;omega,rfl,rfl⟩⟩
theorem zra (w:World) (n0:Nat) (h:n0<=w.heap.size) (E:TypeId):(w.alloc (.cells #[] E)).ownsRow n0 E 1 (.slice (some ⟨w.heap.size,0,none⟩) 0 0) 0 [] :=
 ⟨rfl,.inr ⟨w.heap.size,0,#[],rfl,h,heap_alloc_new w _,Nat.le_refl _,by unfold maxLen;omega,rfl,rfl⟩⟩
theorem zlV
 {ops:Array Oper} {rest:List Oper} {o:Oper} {a:Act} {W:World} {Q:Exit->Act->World->Prop} (hgd:o.guard=none) (s x:Operand)
   (ho:o.op=.call { callee:=.builtin .append,args := #[s,x],argTypes := #[88,88] }) (base:Nat) (v:Value) (n:Nat) (xs:List Value) (hs:a.eval s=v) (hrow:W.ownsRow base 9 1 v n xs)
   (S:Nat->Prop) (xv:Value) (us:List Value) (hx:a.eval x=xv) (hr:Sl W S xv us) (h1:∀ u∈us,u.oneCell'=true) (hl:n+us.length<=4000000) (hb:base<=W.heap.size)
   (h:∀ v' w',w'.ownsRow base 9 1 v' (n+us.length) (xs++us)->W.grownBy w' v.ownBlock->(v'.ownBlock=v.ownBlock\/v'.ownBlock=some W.heap.size)->wpList Tryz.prog ops Q rest (a.put o.dst v') w') :
   wpList Tryz.prog ops Q (o::rest) a W:=by
  obtain⟨i,hi,hz0,hz1,hz2⟩:=info_parts zvE;obtain⟨A,c,rfl,-,hr⟩:=hr;rcases A with _|ad
  ·have hl0:us=[]:=by
    rcases us with _|⟨y,l⟩
    ·rfl
    ·obtain⟨_,h0,_⟩:=hr 0 (by simp);cases h0
   subst hl0;refine wpList_plain hgd fun K hK=>?_;have hrun:(Builtin.append_ #[88,88] o.type #[v,.slice none 0 c]).run Tryz.prog W=.ok v W:=by
    rcases hrow.2 with⟨rfl,h0⟩|⟨g,cap,cur,rfl,_,_,hnc,_⟩
    ·simp[Builtin.append_,run_underlying Tryz.underlying88,sizeOf,typeInfo,hi,Builtin.lenOf,Builtin.firstCells]
    ·simp[Builtin.append_,run_underlying Tryz.underlying88,sizeOf,typeInfo,hi,Builtin.lenOf,Builtin.firstCells,hnc,storeCells]
   unfold Oper.wp execOp;simp only[ho,resolve,invoke,builtin,Sem.run_bind,Sem.run_pure,Result.andThen_ok,List.map_toArray,List.map_cons,List.map_nil,hs,hx,List.length_nil,hrun];exact hK _ _ (h v W (by simpa using hrow) (zmn _ _) (.inl rfl))
  ·refine wpList_append_own_at (P:=Tryz.prog) _ hgd s x 88 ho base 9 i _ 1 16 Tryz.underlying88 hi hz0 hz1 hz2 rfl (by decide) v n xs hs hrow ad us.length c us hx (by simp) (fun j u hj=>?_) h1 (by unfold maxLen;omega) (by omega) hb (fun v' w' h1 h2 _ h4=>h v' w' h1 h2 h4);obtain⟨hjl,wE⟩:=List.getElem?_eq_some_iff.1 hj;obtain⟨a',h0,_,h2⟩:=hr j hjl;injection h0 with h0;subst h0;rw[h2,wE]
theorem zlW
 {ops:Array Oper} {rest:List Oper} {o:Oper} {a:Act} {W:World} {Q:Exit->Act->World->Prop} (hgd:o.guard=none) (s x:Operand)
   (ho:o.op=.call { callee:=.builtin .append,args := #[s,x],argTypes := #[89,89] }) (base:Nat) (v:Value) (n:Nat) (xs:List Value) (hs:a.eval s=v) (hrow:W.ownsRow base 95 1 v n xs)
   (S:Nat->Prop) (xv:Value) (us:List Value) (hx:a.eval x=xv) (hr:Sl W S xv us) (h1:∀ u∈us,u.oneCell'=true) (hl:n+us.length<=4000000) (hb:base<=W.heap.size)
   (h:∀ v' w',w'.ownsRow base 95 1 v' (n+us.length) (xs++us)->W.grownBy w' v.ownBlock->(v'.ownBlock=v.ownBlock\/v'.ownBlock=some W.heap.size)->wpList Tryz.prog ops Q rest (a.put o.dst v') w') :
   wpList Tryz.prog ops Q (o::rest) a W:=by
  obtain⟨i,hi,hz0,hz1,hz2⟩:=info_parts zw7;obtain⟨A,c,rfl,-,hr⟩:=hr;rcases A with _|ad
  ·have hl0:us=[]:=by
    rcases us with _|⟨y,l⟩
    ·rfl
    ·obtain⟨_,h0,_⟩:=hr 0 (by simp);cases h0
   subst hl0;refine wpList_plain hgd fun K hK=>?_;have hrun:(Builtin.append_ #[89,89] o.type #[v,.slice none 0 c]).run Tryz.prog W=.ok v W:=by
    rcases hrow.2 with⟨rfl,h0⟩|⟨g,cap,cur,rfl,_,_,hnc,_⟩
    ·simp[Builtin.append_,run_underlying Tryz.underlying89,sizeOf,typeInfo,hi,Builtin.lenOf,Builtin.firstCells]
    ·simp[Builtin.append_,run_underlying Tryz.underlying89,sizeOf,typeInfo,hi,Builtin.lenOf,Builtin.firstCells,hnc,storeCells]
   unfold Oper.wp execOp;simp only[ho,resolve,invoke,builtin,Sem.run_bind,Sem.run_pure,Result.andThen_ok,List.map_toArray,List.map_cons,List.map_nil,hs,hx,List.length_nil,hrun];exact hK _ _ (h v W (by simpa using hrow) (zmn _ _) (.inl rfl))
  ·refine wpList_append_own_at (P:=Tryz.prog) _ hgd s x 89 ho base 95 i _ 1 8 Tryz.underlying89 hi hz0 hz1 hz2 rfl (by decide) v n xs hs hrow ad us.length c us hx (by simp) (fun j u hj=>?_) h1 (by unfold maxLen;omega) (by omega) hb (fun v' w' h1 h2 _ h4=>h v' w' h1 h2 h4);obtain⟨hjl,wE⟩:=List.getElem?_eq_some_iff.1 hj;obtain⟨a',h0,_,h2⟩:=hr j hjl;injection h0 with h0;subst h0;rw[h2,wE]
theorem Rws.put {I:Type} [DecidableEq I] {W:World} {n0:Nat} {d:I->RowD} (h:Rws W n0 d) (i:I) {r:RowD} (ho:W.ownsRow n0 r.E r.sz r.v r.n r.xs) (aL:∀ b,r.v.ownBlock=some b->∀ j,j≠i->(d j).v.ownBlock≠some b):Rws W n0 (updR d i r):=by
 refine⟨fun j=>?_,fun j k b hjk hb=>?_⟩
 ·by_cases hj:j=i
  ·subst hj;simpa using ho
  ·rw[zkb hj];exact h.row j
 ·by_cases hj:j=i
  ·subst hj;rw[zkb (Ne.symm hjk)];rw[zkk] at hb;exact aL b hb k (Ne.symm hjk)
  ·rw[zkb hj] at hb;by_cases hk:k=i
   ·subst hk;rw[zkk];exact fun e=>aL b e j hj hb
   ·rw[zkb hk];exact h.sep j k b hjk hb
structure OpnP (K:RK) (P P':RP) (W:World) (r:RS) (v:Value) (S':ST) (W':World):Prop where
 rf:RF K P' W' { r with S:=S' } 0
 chg:Chg (OwnB (zkg K P r 0)) W W'
 own:∀ b,OwnB (zkg K P' { r with S:=S' } 0) b->OwnB (zkg K P r 0) b\/v.ownBlock=some b\/W.heap.size<=b
 rb:P'.rb=P.rb
 cv:P'.cv=P.cv
 iv:P'.iv=P.iv
 ov:P'.ov=P.ov
 cb:∀ i,i<r.S.nc->P'.cb i=P.cb i
 ci:P'.ci r.S.nc=v/\∀ i,i<r.S.nc->P'.ci i=P.ci i
 cl:∀ A L c,P.cl=.slice A L c->∃ A' c',P'.cl=.slice A' (L+1) c'
theorem zsi {K:RK} {P:RP} {W:World} {r:RS} (hr:Rws W K.n0 (zkg K P r 0)) {v:Value} {l:List Int} {S':ST} {vd:VD} (hS:S'=(r.S.newCell l).setCur (r.S.cur.push vd r.S.nc)) (ho:W.ownsRow K.n0 3 1 v l.length (zke l)) (aL:∀ b,v.ownBlock=some b->¬ OwnB (zkg K P r 0) b)
  {q:Nat} (hq:W.ownsRow K.n0 94 1 (boxV q) 1 [v]) (hqo:¬ OwnB (zkg K P r 0) q) (hqv:v.ownBlock≠some q) :
  Rws W K.n0 (zkg K { P with cb:=fun i=>if i=r.S.nc then q else P.cb i,ci:=fun i=>if i=r.S.nc then v else P.ci i } { r with S:=S' } 0):=by
 have e0:=zkD (r.S.newCell l) (r.S.cur.push vd r.S.nc);rw[<-hS] at e0;have ec:∀ i,S'.cell i=if i=r.S.nc then l else r.S.cell i:=fun i=>by rw[e0.1];rfl
 have en:S'.nc=r.S.nc+1:=by rw[e0.2.1];rfl
 have ek:S'.calls.length=r.S.calls.length:=by rw[e0.2.2.2.2];rfl
 have h1:=hr.put (.cel r.S.nc) (r:=⟨boxV q,94,1,1,[v]⟩) hq fun b hb j hj e=>hqo ⟨j,by
  have:q=b:=by simpa[boxV,Value.ownBlock] using hb
  rw[this];exact e⟩
 have h2:=h1.put (.row r.S.nc) (r:=⟨v,3,1,l.length,zke l⟩) ho fun b hb j hj e=>by
  by_cases hj2:j=.cel r.S.nc
  ·subst hj2;rw[zkk] at e;have:q=b:=by simpa[boxV,Value.ownBlock] using e
   exact hqv (this▸hb)
  ·rw[zkb hj2] at e;exact aL b hb ⟨j,e⟩
 have e:updR (updR (zkg K P r 0) (.cel r.S.nc) ⟨boxV q,94,1,1,[v]⟩) (.row r.S.nc) ⟨v,3,1,l.length,zke l⟩=zkg K { P with cb:=fun i=>if i=r.S.nc then q else P.cb i,ci:=fun i=>if i=r.S.nc then v else P.ci i } { r with S:=S' } 0:=by
  funext x
  cases x with
  | run=>rw[zkb (by simp),zkb (by simp)];simp only[zkg,RK.cells,ek]
  | cnt=>rw[zkb (by simp),zkb (by simp)];rfl
  | cel i =>
   rw[zkb (by simp)];by_cases hi:i=r.S.nc
   ·subst hi;rw[zkk];simp[zkg,en]
   ·rw[zkb (by simpa using hi)];simp only[zkg,en,if_neg hi];by_cases h3:i<r.S.nc
    ·rw[if_pos h3,if_pos (by omega)]
    ·rw[if_neg h3,if_neg (by omega)]
  | row i =>
   by_cases hi:i=r.S.nc
   ·subst hi;rw[zkk];simp[zkg,en,ec]
   ·rw[zkb (by simpa using hi),zkb (by simp)];simp only[zkg,en,ec,if_neg hi];by_cases h3:i<r.S.nc
    ·rw[if_pos h3,if_pos (by omega)]
    ·rw[if_neg h3,if_neg (by omega)]
 rw[<-e];exact h2
theorem zq1 (w:World) (x:Value) (E:TypeId):Sl (w.alloc (.cells #[x] E)) Any (.slice (some ⟨w.heap.size,0,none⟩) 1 1) [x]:=⟨_,_,rfl,Nat.le_refl _,fun i hi=>⟨_,rfl,trivial,by
 have hi0:i=0:=by simp at hi;omega
 subst hi0;rw[Addr.add_zero'];exact zc (heap_alloc_new w _) rfl⟩⟩
theorem znB {W:World} {base:Nat} {E:TypeId} {v:Value} {us:List Value} (h:W.ownsRow base E 1 v us.length us):Sl W (fun b=>v.ownBlock=some b) v us:=by
 rcases h.2 with⟨rfl,h0⟩|⟨g,cap,cur,rfl,hb,hg,hc,hm,hz,hx⟩
 ·exact⟨none,0,by rw[h0],by omega,fun i hi=>absurd hi (by omega)⟩
 ·refine⟨some ⟨g,0,none⟩,cap,rfl,hc,fun i hi=>⟨⟨g,0,none⟩,rfl,rfl,?_⟩⟩;rw[Addr.add_lit,Nat.zero_add];have:=h.cellAt i (by omega);rw[this];simp[hi]
theorem zqf {K:RK} (hK:K.Ok) {P:RP} {W:World} {r:RS} (h:RF K P W r 0) {A:Option Addr} {n c:Nat} {l:List Int} (ho:W.ownsRow K.n0 3 1 (.slice A n c) l.length (zke l)) (aL:∀ b,(Value.slice A n c).ownBlock=some b->¬ OwnB (zkg K P r 0) b)
  (aV:Sl W (fun b=>¬ OwnB (zkg K P r 0) b/\(Value.slice A n c).ownBlock≠some b) P.iv (zke r.S.tin)) (hov:Sl W (fun b=>¬ OwnB (zkg K P r 0) b/\(Value.slice A n c).ownBlock≠some b) P.ov (zke r.S.tout)) (vd:VD) (hl:r.S.cur.vs.length<=3000000) {S':ST} (hS:S'=(r.S.newCell l).setCur (r.S.cur.push vd r.S.nc)) (hi:RInv { r with S:=S' }) :
  Calls Tryz.prog 44 #[.pointer (some ⟨P.rb,0,none⟩),.string vd.s,.slice A n c] W fun en W'=>(∃ u,en=.returned u)/\∃ P',OpnP K P P' W r (.slice A n c) S' W':=by
 obtain⟨⟨y6,y7,-⟩,-,yf⟩:=h.box;have hsz:=h.size hK;obtain⟨A1,c1,hn1,hc1,hrn⟩:=h.nm;obtain⟨A2,c2,hn2,hc2,hrc⟩:=h.cl;obtain⟨ns,hns⟩:∃ l,zk7 r.S.cur=l:=⟨_,rfl⟩
 obtain⟨ps,hps⟩:∃ l,ptrs P.cb r.S.cur.cs=l:=⟨_,rfl⟩
 obtain⟨kd,hkd⟩:=h.inv.wf.cur;have hlc:r.S.cur.cs.length=r.S.cur.vs.length:=hkd.len;rw[hns] at hn1 hc1 hrn;rw[hps] at hn2 hc2 hrc;obtain⟨L,hL⟩:∃ n,ns.length=n:=⟨_,rfl⟩
 obtain⟨M,hM⟩:∃ n,ps.length=n:=⟨_,rfl⟩
 have hL2:L<=3000000:=by rw[<-hL,<-hns];simpa[zk7] using hl
 have hM2:M<=3000000:=by rw[<-hM,<-hps];simp[ptrs];omega
 rw[hL] at hn1;rw[hM] at hn2;rw[hn1] at y6;rw[hn2] at y7;have hN1:∀ u∈ns,u.oneCell'=true:=by rw[<-hns];intro u hu;simp only[zk7,List.mem_map] at hu;obtain⟨x,-,rfl⟩:=hu;rfl
 have hP1:∀ u∈ps,u.oneCell'=true:=by rw[<-hps];intro u hu;simp only[ptrs,List.mem_map] at hu;obtain⟨x,-,rfl⟩:=hu;rfl
 have sl1:∀ w',Below W.heap.size W w'->Sl w' Any (.slice A1 L c1) ns:=fun w' hb=>by
  have:Sl W Any (.slice A1 L c1) ns:=⟨A1,c1,by rw[hL],hc1,fun i hi=>by obtain⟨a,g1,_,g3⟩:=hrn i hi;exact⟨a,g1,trivial,g3⟩⟩
  exact this.keep (fun _ _ _=>trivial) fun b _ hlt=>hb.block b hlt
 have sl2:∀ w',Below W.heap.size W w'->Sl w' Any (.slice A2 M c2) ps:=fun w' hb=>by
  have:Sl W Any (.slice A2 M c2) ps:=⟨A2,c2,by rw[hM],hc2,fun i hi=>by obtain⟨a,g1,_,g3⟩:=hrc i hi;exact⟨a,g1,trivial,g3⟩⟩
  exact this.keep (fun _ _ _=>trivial) fun b _ hlt=>hb.block b hlt
 obtain⟨rb,hrb⟩:∃ b,P.rb=b:=⟨_,rfl⟩
 rw[hrb] at y6 y7 yf hsz ⊢;have HSL1:=zh sl1;have HSL2:=zh sl2
 -- region 0
 have b1:=zkc (Below.refl W.heap.size W) (.cells #[] 9);have o1:=zra W W.heap.size (Nat.le_refl _) 9;obtain⟨w1,hw1⟩:∃ x,W.alloc (.cells #[] 9)=x:=⟨_,rfl⟩
 rw[hw1] at b1 o1;have aY:=zh (show ∀ v' w',w'.ownsRow W.heap.size 9 1 v' (0+ns.length) ([]++ns)->w1.grownBy w' (Value.slice (some ⟨W.heap.size,0,none⟩) 0 0).ownBlock->(∃ A' c',v'=.slice A' L c')/\w'.ownsRow W.heap.size 9 1 v' L ns/\Below W.heap.size W w' from fun v' w' ho hg=>by
  rw[Nat.zero_add,hL,List.nil_append] at ho;obtain⟨A',c',e,-⟩:=zkh ho;have hq:∀ b,(Value.slice (some ⟨W.heap.size,0,none⟩) 0 0).ownBlock=some b->W.heap.size<=b:=fun b e=>by
   have:W.heap.size=b:=by simpa[Value.ownBlock] using e
   omega
  exact⟨⟨A',c',e⟩,ho,b1.trans ((Chg.row hg).below b1.size hq)⟩)
 have y61:=zb b1 y6;have bF:=zh (show ∀ v' w',w'.ownsRow W.heap.size 9 1 v' L ns->Below W.heap.size W w'->∀ v'' w'',w''.ownsRow W.heap.size 9 1 v'' (L+[Value.string vd.s].length) (ns++[.string vd.s])->(w'.alloc (.cells #[.string vd.s] 9)).grownBy w'' v'.ownBlock->(∃ Bp c'',v''=.slice Bp (L+1) c'')/\w''.ownsRow W.heap.size 9 1 v'' (L+1) (ns++[.string vd.s])/\Below W.heap.size W w''/\w''.cell? ⟨rb,6,none⟩=some (.slice A1 L c1)/\∀ o,w''.frozen? ⟨rb,o,none⟩=false from fun v' w' ho' hb' v'' w'' ho hg=>by
  obtain⟨A',c',e,-⟩:=zkh ho;have hb2:=zkc hb' (.cells #[.string vd.s] 9);have hb3:=hb2.trans ((Chg.row hg).below hb2.size fun b e=>(ho'.lt b e).1);have hbb:=(h.later hb3).box;rw[hrb,hn1] at hbb;exact⟨⟨A',c',e⟩,ho,hb3,hbb.1.1,hbb.2.2⟩)
 have HH:=zh h;have iX:=zh aV;have mG:=zh hov;have HO:=zh ho;have uD:=zh aL;have HS:=zh hS;have HI:=zh hi;have HP:=zh (show P.nm=.slice A1 L c1/\P.cl=.slice A2 M c2/\P.rb=rb/\zk7 r.S.cur=ns/\ptrs P.cb r.S.cur.cs=ps/\r.S.cur.cs.length=r.S.cur.vs.length/\ns.length=L/\ps.length=M from ⟨hn1,hn2,hrb,hns,hps,hlc,hL,hM⟩);have eP:=zh hN1;have yo:=zh hP1;have hl0:0+ns.length<=4000000:=by omega
 have hl1:L+[Value.string vd.s].length<=4000000:=by simp;omega
 have hS1:[Value.string vd.s].length=1:=rfl;have hq1:∀ u∈[Value.string vd.s],u.oneCell'=true:=by intro u hu;simp only[List.mem_singleton] at hu;subst hu;rfl
 have dY:=zh hq1;have qA:=zh hsz;clear aV hov h ho aL hS hi hn1 hn2 hns hps hlc hL hM hrb sl1 sl2 hc1 hc2 hrn hrc hN1 hP1 hq1 hsz hkd hl y7 hS1;go_enter Tryz.func44,Tryz.ntmps44;go_upto_region 1 with(at_builtin;first
  | (refine zlV rfl (.tmp 7) (.tmp 11) rfl W.heap.size (.slice (some ⟨W.heap.size,0,none⟩) 0 0) 0 [] rfl o1 Any (.slice A1 L c1) ns rfl (HSL1.out _ b1) eP.out hl0 b1.size ?_;intro va wa hoa hga fZ;obtain⟨⟨Aa,ca,rfl⟩,hoa1,dG⟩:=aY.out _ _ hoa hga;clear hoa hga fZ)
  | (refine zlV rfl (.tmp 12) (.tmp 14) rfl W.heap.size (.slice Aa L ca) L ns rfl (zkJ hoa1 (zkc (Below.refl _ _) _)) Any (.slice (some ⟨wa.heap.size,0,none⟩) 1 1) [.string vd.s] rfl (zq1 _ _ _) dY.out hl1 (zkc dG _).size ?_;intro vb wb kX hgb hobb;obtain⟨⟨Ab,cb,rfl⟩,hob2,hbb,z6,zf⟩:=bF.out _ _ hoa1 dG _ _ kX hgb;clear kX hgb hobb))
 have gX:=HH.out.later hbb;have bA:=fldS (P':={ P with nm:=.slice Ab (L+1) cb }) (r':=r) (er':=0) gX.rws (o:=6) (by decide) (.slice Ab (L+1) cb) rfl ⟨rfl,rfl,rfl,rfl⟩ rfl rfl rfl;rw[HP.out.2.2.1] at bA;have rT:(wb.setCell ⟨rb,6,none⟩ (.slice Ab (L+1) cb)).heap.size=wb.heap.size:=by simp[World.setCell]
 have zW:Chg (fun b=>b=rb) wb (wb.setCell ⟨rb,6,none⟩ (.slice Ab (L+1) cb)):=(Chg.refl (fun b=>b=rb) wb).setCell (p:=⟨rb,6,none⟩) (.inl rfl) _;obtain⟨w3,hw3⟩:∃ x,wb.setCell ⟨rb,6,none⟩ (.slice Ab (L+1) cb)=x:=⟨_,rfl⟩
 rw[hw3] at bA rT zW;have ho1b:∀ b,(Value.slice Ab (L+1) cb).ownBlock=some b->W.heap.size<=b/\b<wb.heap.size:=fun b hb=>hob2.lt b hb;have HOB2:=zh hob2;have uq:=zh bA;have HC63:=zh zW;have iA:=zh hbb;have HW3:=zh hw3;have HZ3:=zh rT;have HO1B:=zh ho1b;have tq:=gX.cl.stp bA;rw[HP.out.2.1,HP.out.2.2.2.2.1] at tq;have sl3:∀ w',Below w3.heap.size w3 w'->Sl w' Any (.slice A2 M c2) ps:=fun w' hb=>tq.keep (fun _ _ _=>trivial) fun b _ hlt=>hb.block b hlt;have HSL3:=zh sl3;have y7:w3.cell? ⟨rb,7,none⟩=some (.slice A2 M c2):=by rw[<-HP.out.2.1];exact bA.rws.cell .run (g:=rb) rfl (o:=7) rfl
 have yf3:∀ o,w3.frozen? ⟨rb,o,none⟩=false:=fun o=>bA.rws.frozen .run (g:=rb) rfl o;have b4:=zkc (Below.refl w3.heap.size w3) (.cells #[] 95);have o4:=zra w3 w3.heap.size (Nat.le_refl _) 95;have y74:=zb b4 y7;obtain⟨w4,hw4⟩:∃ x,w3.alloc (.cells #[] 95)=x:=⟨_,rfl⟩
 rw[hw4] at b4 o4 y74;have wM:=zh (show ∀ v' w',w'.ownsRow w3.heap.size 95 1 v' (0+ps.length) ([]++ps)->w4.grownBy w' (Value.slice (some ⟨w3.heap.size,0,none⟩) 0 0).ownBlock->(∃ A' c',v'=.slice A' M c')/\w'.ownsRow w3.heap.size 95 1 v' M ps/\Below w3.heap.size w3 w' from fun v' w' ho hg=>by
  rw[Nat.zero_add,HP.out.2.2.2.2.2.2.2,List.nil_append] at ho;obtain⟨A',c',e,-⟩:=zkh ho;have hq:∀ b,(Value.slice (some ⟨w3.heap.size,0,none⟩) 0 0).ownBlock=some b->w3.heap.size<=b:=fun b e=>by
   have:w3.heap.size=b:=by simpa[Value.ownBlock] using e
   omega
  exact⟨⟨A',c',e⟩,ho,b4.trans ((Chg.row hg).below b4.size hq)⟩)
 have HX4:=zh (show ∀ v' w',w'.ownsRow w3.heap.size 95 1 v' M ps->Below w3.heap.size w3 w'->∀ v'' w'',w''.ownsRow w3.heap.size 95 1 v'' (M+[Value.pointer (some ⟨w'.heap.size,0,none⟩)].length) (ps++[.pointer (some ⟨w'.heap.size,0,none⟩)]) ->
   ((w'.alloc (.cells #[.slice A n c] 94)).alloc (.cells #[.pointer (some ⟨w'.heap.size,0,none⟩)] 95)).grownBy w'' v'.ownBlock->(v''.ownBlock=v'.ownBlock\/v''.ownBlock=some ((w'.alloc (.cells #[.slice A n c] 94)).alloc (.cells #[.pointer (some ⟨w'.heap.size,0,none⟩)] 95)).heap.size) ->
   (∃ Bp c'',v''=.slice Bp (M+1) c'')/\w''.ownsRow w3.heap.size 95 1 v'' (M+1) (ps++[.pointer (some ⟨w'.heap.size,0,none⟩)])/\Below w3.heap.size w3 w''/\w''.cell? ⟨rb,7,none⟩=some (.slice A2 M c2)/\(∀ o,w''.frozen? ⟨rb,o,none⟩=false)/\w3.heap.size<=w'.heap.size/\v''.ownBlock≠some w'.heap.size/\w''.ownsRow w3.heap.size 94 1 (boxV w'.heap.size) 1 [.slice A n c] from fun v' w' ho' hb' v'' w'' ho hg aL=>by
  obtain⟨A',c',e,-⟩:=zkh ho;have hb2:=zkc (zkc hb' (.cells #[.slice A n c] 94)) (.cells #[.pointer (some ⟨w'.heap.size,0,none⟩)] 95);have hb3:=hb2.trans ((Chg.row hg).below hb2.size fun b e=>(ho'.lt b e).1);have hr3:=uq.out.rws.later hb3;have hbx0:=zkJ (zq9 w' w3.heap.size hb'.size (.slice A n c) 94) (zkc (Below.refl _ _) (.cells #[.pointer (some ⟨w'.heap.size,0,none⟩)] 95));have hbx:=zm7 hbx0 (fun b hb=>hg.block b (hbx0.lt b hb).2 (fun e=>by
   have h1:w'.heap.size=b:=by simpa[boxV,Value.ownBlock] using hb
   have:=(ho'.lt b e.symm).2;omega))
  refine⟨⟨A',c',e⟩,ho,hb3,zb hb3 y7,fun o=>hr3.frozen .run (g:=rb) rfl o,hb'.size,fun e=>?_,hbx⟩;rcases aL with h|h
  ·rw[h] at e;have:=(ho'.lt _ e).2;omega
  ·rw[h] at e;injection e with e;simp only[World.size_alloc] at e;omega)
 have hl3:0+ps.length<=4000000:=by have:=HP.out.2.2.2.2.2.2.2;omega
 have hl4:∀ q,M+[Value.pointer (some (⟨q,0,none⟩:Addr))].length<=4000000:=fun q=>by simp;omega
 have hq4:∀ q,∀ u∈[Value.pointer (some (⟨q,0,none⟩:Addr))],u.oneCell'=true:=fun q u hu=>by simp only[List.mem_singleton] at hu;subst hu;rfl
 have AP:=zh hq4;have hbi0:=bRP0;have hbi1:=bRP1;have hbi2:=bRC;clear gX bA zW hbb rT ho1b hob2 tq sl3 hq4 dG hoa1 z6 zf y7 y6 y61 yf o1 b1 hw1 hl0 hl1;rw[hw3];clear hw3;go_wp2_with (at_builtin;first
  | (refine zlW rfl (.tmp 19) (.tmp 23) rfl w3.heap.size (.slice (some ⟨w3.heap.size,0,none⟩) 0 0) 0 [] rfl o4 Any (.slice A2 M c2) ps rfl (HSL3.out _ b4) yo.out hl3 b4.size ?_;intro vd1 wd hod hgd hobd;obtain⟨⟨Ad,cd,rfl⟩,hod1,hbd⟩:=wM.out _ _ hod hgd;clear hod hgd hobd)
  | (refine zlW rfl (.tmp 24) (.tmp 28) rfl w3.heap.size (.slice Ad M cd) M ps rfl (zkJ hod1 (zkc (zkc (Below.refl _ _) _) _)) Any (.slice (some ⟨wd.heap.size+1,0,none⟩) 1 1) [.pointer (some ⟨wd.heap.size,0,none⟩)] rfl (by have:=zq1 (wd.alloc (.cells #[.slice A n c] 94)) (.pointer (some ⟨wd.heap.size,0,none⟩)) 95;simpa using this) (AP.out _) (hl4 _) (zkc (zkc hbd _) _).size ?_;intro ve we hoe hge hobe;obtain⟨⟨Ae,ce,rfl⟩,hoe2,hbe,z7,zf7,hqz,hqn,hqb⟩:=HX4.out _ _ hod1 hbd _ _ hoe hge hobe;clear hoe hge hobe))
 go_end0;refine⟨⟨_,rfl⟩,?_⟩;have hr3:=uq.out.rws.later hbe;have aW:=fldS (P':={ P with rb:=rb,nm:=.slice Ab (L+1) cb,cl:=.slice Ae (M+1) ce }) (r':=r) (er':=0) hr3 (o:=7) (by decide) (.slice Ae (M+1) ce) rfl ⟨rfl,rfl,rfl,rfl⟩ rfl rfl rfl;have xY:Chg (fun b=>b=rb) we (we.setCell ⟨rb,7,none⟩ (.slice Ae (M+1) ce)):=(Chg.refl (fun b=>b=rb) we).setCell (p:=⟨rb,7,none⟩) (.inl rfl) _;obtain⟨w9,bH⟩:∃ x,we.setCell ⟨rb,7,none⟩ (.slice Ae (M+1) ce)=x:=⟨_,rfl⟩
 have hrb:=HP.out.2.2.1;have hz3:=HZ3.out;have hzb:=iA.out.size;have hsz:=qA.out;have aW:Stp K.n0 _ we _ w9:=bH▸aW;rw[bH] at xY
 try rw[bH]
 have cb9:Chg (fun b=>b=rb) wb w9:=(HC63.out.trans (Chg.of_below hbe)).trans xY;have xX:Chg (OwnB (zkg K P r 0)) W w9:=(Chg.of_below (C:=OwnB (zkg K P r 0)) iA.out).trans (cb9.mono fun b _ hb=>⟨.run,by rw[hb,<-hrb];rfl⟩);have hqW:W.heap.size<=wd.heap.size:=by omega
 have hrw9:Rws w9 K.n0 (zkg K { P with rb:=rb,nm:=.slice Ab (L+1) cb,cl:=.slice Ae (M+1) ce } r 0):=aW.rws;have hown9:∀ b,OwnB (zkg K { P with rb:=rb,nm:=.slice Ab (L+1) cb,cl:=.slice Ae (M+1) ce } r 0) b↔OwnB (zkg K P r 0) b:=fun b=>by
  constructor
  ·rintro⟨i,hi⟩;refine⟨i,?_⟩
   cases i with
   | run=>rw[<-hi];show(boxV P.rb).ownBlock=(boxV rb).ownBlock;rw[hrb]
   | cnt=>exact hi
   | cel i=>exact hi
   | row i=>exact hi
  ·rintro⟨i,hi⟩;refine⟨i,?_⟩
   cases i with
   | run=>rw[<-hi];show(boxV rb).ownBlock=(boxV P.rb).ownBlock;rw[hrb]
   | cnt=>exact hi
   | cel i=>exact hi
   | row i=>exact hi
 have hltW:∀ b,OwnB (zkg K P r 0) b->b<W.heap.size:=fun b ⟨i,hi⟩=>(HH.out.rws.lt i b hi).2;have bG:w9.ownsRow K.n0 3 1 (.slice A n c) l.length (zke l):=zm7 HO.out fun b hb=>xX.block b (HO.out.lt b hb).2 (uD.out b hb);have hq9:w9.ownsRow K.n0 94 1 (boxV wd.heap.size) 1 [.slice A n c]:=zoN (zm7 hqb fun b hb=>by
  have e:wd.heap.size=b:=by simpa[boxV,Value.ownBlock] using hb
  exact xY.block b (hqb.lt b hb).2 (by omega)) (by omega)
 have hrf:=zsi hrw9 (S':=S') HS.out bG (fun b hb h=>uD.out b hb ((hown9 b).1 h)) hq9 (fun h=>by have:=hltW _ ((hown9 _).1 h);omega) (fun e=>by have:=(HO.out.lt _ e).2;omega);have hown:∀ b,OwnB (zkg K { rb:=rb,cv:=P.cv,nm:=.slice Ab (L+1) cb,cl:=.slice Ae (M+1) ce,iv:=P.iv,ov:=P.ov,cb:=fun i=>if i=r.S.nc then wd.heap.size else P.cb i,ci:=fun i=>if i=r.S.nc then .slice A n c else P.ci i } { r with S:=S' } 0) b->OwnB (zkg K P r 0) b\/(Value.slice A n c).ownBlock=some b\/b=wd.heap.size:=fun b ⟨i,hi⟩=>by
  have en:S'.nc=r.S.nc+1:=by rw[HS.out,(zkD _ _).2.1];rfl
  cases i with
  | run=>exact .inl ⟨.run,by rw[<-hi];show(boxV P.rb).ownBlock=(boxV rb).ownBlock;rw[hrb]⟩
  | cnt=>exact .inl ⟨.cnt,hi⟩
  | cel i =>
   by_cases h3:i=r.S.nc
   ·subst h3;simp only[zkg,en,if_pos (Nat.lt_succ_self r.S.nc),if_pos rfl] at hi;have e:wd.heap.size=b:=by simpa[boxV,Value.ownBlock] using hi
    exact .inr (.inr e.symm)
   ·by_cases h4:i<r.S.nc
    ·refine .inl ⟨.cel i,?_⟩;simp only[zkg,en,if_pos (show i<r.S.nc+1 by omega),if_neg h3] at hi;rw[zkO K P 0 h4];exact hi
    ·simp only[zkg,en,if_neg (show ¬ i<r.S.nc+1 by omega)] at hi;simp[nilR,Value.ownBlock] at hi
  | row i =>
   by_cases h3:i=r.S.nc
   ·subst h3;simp only[zkg,en,if_pos (Nat.lt_succ_self r.S.nc),if_pos rfl] at hi;exact .inr (.inl hi)
   ·by_cases h4:i<r.S.nc
    ·refine .inl ⟨.row i,?_⟩;simp only[zkg,en,if_pos (show i<r.S.nc+1 by omega),if_neg h3] at hi;rw[zkV K P 0 h4];exact hi
    ·simp only[zkg,en,if_neg (show ¬ i<r.S.nc+1 by omega)] at hi;simp[nilR,Value.ownBlock] at hi
 have hkeep:∀ (v:Value) (us:List Value),Sl W (fun b=>¬ OwnB (zkg K P r 0) b/\(Value.slice A n c).ownBlock≠some b) v us->Sl w9 (fun b=>¬ OwnB (zkg K { rb:=rb,cv:=P.cv,nm:=.slice Ab (L+1) cb,cl:=.slice Ae (M+1) ce,iv:=P.iv,ov:=P.ov,cb:=fun i=>if i=r.S.nc then wd.heap.size else P.cb i,ci:=fun i=>if i=r.S.nc then .slice A n c else P.ci i } { r with S:=S' } 0) b) v us:=fun v us h =>
  h.keep (fun b hb hlt h'=>by
   rcases hown b h' with h1|h1|h1
   ·exact hb.1 h1
   ·exact hb.2 h1
   ·omega) fun b hb hlt=>xX.block b hlt hb.1
 have dO:S'.cur=r.S.cur.push vd r.S.nc:=by rw[HS.out,zlc]
 have htp:S'.tin=r.S.tin/\S'.tout=r.S.tout:=by rw[HS.out];exact⟨(zkD _ _).2.2.1,(zkD _ _).2.2.2.1⟩
 have hnn:Sl w9 (fun b=>¬ OwnB (zkg K { rb:=rb,cv:=P.cv,nm:=.slice Ab (L+1) cb,cl:=.slice Ae (M+1) ce,iv:=P.iv,ov:=P.ov,cb:=fun i=>if i=r.S.nc then wd.heap.size else P.cb i,ci:=fun i=>if i=r.S.nc then .slice A n c else P.ci i } { r with S:=S' } 0) b) (.slice Ab (L+1) cb) (zk7 S'.cur):=by
  have e:zk7 S'.cur=ns++[.string vd.s]:=by rw[dO,<-HP.out.2.2.2.1];simp[zk7,FR.push]
  have el:(ns++[Value.string vd.s]).length=L+1:=by simp[HP.out.2.2.2.2.2.2.1]
  rw[e];have h1:=znB (us:=ns++[.string vd.s]) (by rw[el];exact HOB2.out);refine h1.keep (fun b hb hlt h'=>?_) fun b hb hlt=>cb9.block b hlt fun e=>?_
  ·have h2:=HO1B.out b hb;rcases hown b h' with h3|h3|h3
   ·have:=hltW b h3;omega
   ·have:=(HO.out.lt b h3).2;omega
   ·omega
  ·have h2:=HO1B.out b hb;omega
 have hcc:Sl w9 (fun b=>¬ OwnB (zkg K { rb:=rb,cv:=P.cv,nm:=.slice Ab (L+1) cb,cl:=.slice Ae (M+1) ce,iv:=P.iv,ov:=P.ov,cb:=fun i=>if i=r.S.nc then wd.heap.size else P.cb i,ci:=fun i=>if i=r.S.nc then .slice A n c else P.ci i } { r with S:=S' } 0) b) (.slice Ae (M+1) ce) (ptrs (fun i=>if i=r.S.nc then wd.heap.size else P.cb i) S'.cur.cs):=by
  have e:ptrs (fun i=>if i=r.S.nc then wd.heap.size else P.cb i) S'.cur.cs=ps++[.pointer (some ⟨wd.heap.size,0,none⟩)]:=by
   rw[dO,<-HP.out.2.2.2.2.1];obtain⟨kd,hkd⟩:=HH.out.inv.wf.cur;simp only[FR.push,ptrs,List.map_append,List.map_cons,List.map_nil,if_pos rfl];congr 1;exact List.map_congr_left fun i hi=>by rw[if_neg (by have:=hkd.num i hi;omega)]
  have el:(ps++[Value.pointer (some ⟨wd.heap.size,0,none⟩)]).length=M+1:=by simp[HP.out.2.2.2.2.2.2.2]
  rw[e];have h1:=znB (us:=ps++[.pointer (some ⟨wd.heap.size,0,none⟩)]) (by rw[el];exact hoe2);refine h1.keep (fun b hb hlt h'=>?_) fun b hb hlt=>xY.block b hlt fun e=>?_
  ·have h2:=hoe2.lt b hb;rcases hown b h' with h3|h3|h3
   ·have:=hltW b h3;omega
   ·have:=(HO.out.lt b h3).2;omega
   ·exact hqn (h3▸hb)
  ·have h2:=hoe2.lt b hb;omega
 refine⟨_,⟨⟨hrf,hnn,hcc,?_,?_,HI.out,HH.out.bl.trans (xX.below HH.out.bl.size fun b ⟨i,hb⟩=>by have:=(HH.out.rws.lt i b hb).1;have:=hK.n0;omega),HH.out.el,HH.out.en⟩,xX,fun b hb=>?_,hrb.symm,rfl,rfl,rfl,fun i hi=>?_,⟨?_,fun i hi=>?_⟩,fun A' L' c' e=>?_⟩⟩
 ·show Sl w9 _ P.iv (zke S'.tin);rw[htp.1];exact hkeep _ _ iX.out
 ·show Sl w9 _ P.ov (zke S'.tout);rw[htp.2];exact hkeep _ _ mG.out
 ·rcases hown b hb with h1|h1|h1
  ·exact .inl h1
  ·exact .inr (.inl h1)
  ·exact .inr (.inr (by omega))
 ·show(if i=r.S.nc then _ else _)=_;rw[if_neg (by omega)]
 ·show(if r.S.nc=r.S.nc then _ else _)=_;rw[if_pos rfl]
 ·show(if i=r.S.nc then _ else _)=_;rw[if_neg (by omega)]
 ·rw[HP.out.2.1] at e;injection e with e1 e2 e3;subst e2;exact⟨_,_,rfl⟩
structure zxC (K:RK) (P P':RP) (W:World) (r:RS) (f:FR) (W':World):Prop where
 rf:RF K P' W' { r with S:=r.S.setCur f } 0
 st:Stp K.n0 (zkg K P r 0) W (zkg K P' { r with S:=r.S.setCur f } 0) W'
 rb:P'.rb=P.rb
 cv:P'.cv=P.cv
 cb:P'.cb=P.cb
 ci:P'.ci=P.ci
theorem zx4 (w:World):Below w.heap.size w w.drew.drew.drew:=zka (Below.refl _ _).drew (zka (Below.refl _ _).drew (Below.refl _ _).drew)
theorem ztB {K:RK} (hK:K.Ok) {P:RP} {W:World} {r:RS} (h:RF K P W r 0) {f:FR} {vd:VD} {id:Nat} (hc:r.S.cur=f.push vd id) (hlf:f.cs.length=f.vs.length) (hl:f.vs.length<=3000000) (hi:RInv { r with S:=r.S.setCur f }) :
  Calls Tryz.prog 69 #[.pointer (some ⟨P.rb,0,none⟩)] W fun en W'=>en=.returned (.pointer (some ⟨P.cb id,0,none⟩))/\∃ P',zxC K P P' W r f W':=by
 obtain⟨⟨y6,y7,-⟩,-,yf⟩:=h.box;have hsz:=h.size hK;obtain⟨A1,c1,hn1,hc1,hrn⟩:=h.nm;obtain⟨A2,c2,hn2,hc2,hrc⟩:=h.cl;have hln:(zk7 r.S.cur).length=f.vs.length+1:=by rw[hc];simp[zk7,FR.push]
 have hlc:(ptrs P.cb r.S.cur.cs).length=f.vs.length+1:=by rw[hc];simp[ptrs,FR.push,hlf]
 obtain⟨j,hj⟩:∃ j,f.vs.length=j:=⟨_,rfl⟩
 rw[hj] at hln hlc;obtain⟨a1,rfl,-⟩:=hrn j (by omega);obtain⟨a2,rfl,-,hel⟩:=hrc j (by omega);have sU:W.cell? (a2.add j)=some (.pointer (some ⟨P.cb id,0,none⟩)):=by
  rw[hel];simp only[hc,FR.push,ptrs,List.map_append,List.map_cons,List.map_nil];rw[List.getElem_append_right (by simp[hlf,hj])];simp[hlf,hj]
 obtain⟨ln,sI⟩:∃ n,(zk7 r.S.cur).length=n:=⟨_,rfl⟩
 obtain⟨lm,sJ⟩:∃ n,(ptrs P.cb r.S.cur.cs).length=n:=⟨_,rfl⟩
 rw[sI] at hn1 hln hc1;rw[sJ] at hn2 hlc hc2;rw[hn1] at y6;rw[hn2] at y7;have hw1:IntKind.i64.wrap ((ln:Int)-1)=(j:Int):=by
  rw[show(ln:Int)-1=(j:Int) by omega];exact IntWalk.i64_in _ (by omega)
 have hw2:IntKind.i64.wrap ((lm:Int)-1)=(j:Int):=by
  rw[show(lm:Int)-1=(j:Int) by omega];exact IntWalk.i64_in _ (by omega)
 have g1:(0:Int)<=(j:Int):=by omega
 have g2:(j:Int)<(ln:Int):=by omega
 have g3:(j:Int)<(lm:Int):=by omega
 have g4:(j:Int)<=(c1:Int):=by omega
 have g5:(j:Int)<=(c2:Int):=by omega
 have g6:j<=c1:=by omega
 have g7:j<=c2:=by omega
 have g8:j<ln:=by omega
 have g9:j<lm:=by omega
 have st2:=fldS (P':={ P with nm:=.slice (some a1) j c1 }) (r':=r) (er':=0) h.rws (o:=6) (by decide) (.slice (some a1) j c1) rfl ⟨rfl,rfl,rfl,rfl⟩ rfl rfl rfl;obtain⟨w2,pK⟩:∃ x,W.setCell ⟨P.rb,6,none⟩ (.slice (some a1) j c1)=x:=⟨_,rfl⟩
 rw[pK] at st2;have e3:RK.cells K { P with nm:=.slice (some a1) j c1,cl:=.slice (some a2) j c2 } { r with S:=r.S.setCur f } 0=RK.cells K { P with nm:=.slice (some a1) j c1,cl:=.slice (some a2) j c2 } r 0:=by
  unfold RK.cells;simp only[(zkD r.S f).2.2.2.2]
 have jM:=fldS (P':={ P with nm:=.slice (some a1) j c1,cl:=.slice (some a2) j c2 }) (r':={ r with S:=r.S.setCur f }) (er':=0) st2.rws (o:=7) (by decide) (.slice (some a2) j c2) (by rw[e3];rfl) ⟨rfl,rfl,rfl,rfl⟩ rfl (zkD r.S f).2.1 (zkD r.S f).1;obtain⟨w3,kV⟩:∃ x,w2.setCell ⟨P.rb,7,none⟩ (.slice (some a2) j c2)=x:=⟨_,rfl⟩
 have hw3p:w2.setCell ⟨({ P with nm:=.slice (some a1) j c1 }:RP).rb,7,none⟩ (.slice (some a2) j c2)=w3:=kV;rw[hw3p] at jM;have bu:=(st2.trans jM).below (zx4 w3);have htk:∀ (A:Option Addr) (c:Nat) (us:List Value),Sl W (fun b=>¬ OwnB (zkg K P r 0) b) (.slice A (j+1) c) us->us.length=j+1->Sl w3.drew.drew.drew (fun b=>¬ OwnB (zkg K { P with nm:=.slice (some a1) j c1,cl:=.slice (some a2) j c2 } { r with S:=r.S.setCur f } 0) b) (.slice A j c) (us.take j):=fun A c us h1 h2=>(Sl.take h1 j (by omega)).stp bu;have hnm:=h.nm;have hcl:=h.cl;rw[hn1,hln] at hnm;rw[hn2,hlc] at hcl;have hnm9:=htk _ _ _ hnm (by rw[sI,hln]);have hcl9:=htk _ _ _ hcl (by rw[sJ,hlc]);have hrf:RF K { P with nm:=.slice (some a1) j c1,cl:=.slice (some a2) j c2 } w3.drew.drew.drew { r with S:=r.S.setCur f } 0:=by
  refine h.step hK bu ?_ ?_ ?_ ?_ hi rfl h.en
  ·show Sl _ _ _ (zk7 (r.S.setCur f).cur)
   rw[zlc,show zk7 f=(zk7 r.S.cur).take j by rw[hc];simp[zk7,FR.push,<-hj]];exact hnm9
  ·show Sl _ _ _ (ptrs P.cb (r.S.setCur f).cur.cs)
   rw[zlc,show ptrs P.cb f.cs=(ptrs P.cb r.S.cur.cs).take j by rw[hc];simp[ptrs,FR.push,<-hj,<-hlf]];exact hcl9
  ·show Sl _ _ _ (zke (r.S.setCur f).tin)
   rw[(zkD r.S f).2.2.1];exact h.iv.stp bu
  ·show Sl _ _ _ (zke (r.S.setCur f).tout)
   rw[(zkD r.S f).2.2.2.1];exact h.ov.stp bu
 have aa:=zh (show zxC K P _ W r f w3.drew.drew.drew from ⟨hrf,bu,rfl,rfl,rfl,rfl⟩);obtain⟨rb,hrb⟩:∃ b,P.rb=b:=⟨_,rfl⟩
 have v6:w2.cell? ⟨P.rb,7,none⟩=some (.slice (some a2) lm c2):=by rw[<-hn2];exact st2.rws.cell .run (g:=P.rb) rfl (o:=7) rfl
 have vf2:∀ o,w2.frozen? ⟨P.rb,o,none⟩=false:=fun o=>st2.rws.frozen .run (g:=P.rb) rfl o;rw[hrb] at y6 y7 yf hsz pK kV v6 vf2 ⊢;obtain⟨cbi,hcbi⟩:∃ b,P.cb id=b:=⟨_,rfl⟩
 rw[hcbi] at sU ⊢;have HW2:=zh pK;have HW3:=zh kV;have wY:=zh (show ln=j+1/\lm=j+1/\ln<=c1/\lm<=c2 from ⟨hln,hlc,hc1,hc2⟩);have HS:=zh (show(fun w':World=>w'.cell? ⟨rb,7,none⟩=some (.slice (some a2) lm c2)/\w'.cell? (a2.add j)=some (.pointer (some ⟨cbi,0,none⟩))) W.drew from ⟨y7,sU⟩);clear h hc hlf hl hi hsz hn1 hn2 hrn hrc hln hlc hj hel sI sJ st2 jM bu htk hnm hcl hnm9 hcl9 hrf hrb pK kV hw3p e3 hcbi hc1 hc2;go_enter Tryz.func69,Tryz.ntmps69;go_upto_region 1 with fail
 go_region_held3 (fun w':World=>w'.cell? ⟨rb,7,none⟩=some (.slice (some a2) lm c2)/\w'.cell? (a2.add j)=some (.pointer (some ⟨cbi,0,none⟩)))
  (with_reducible exact HS.out)
  (first|fail)
 go_upto_region 2 with fail;have hSS:(fun _:World=>True) W.drew.drew/\(fun w':World=>w'.cell? ⟨rb,6,none⟩=some (.slice (some a1) ln c1)) W.drew.drew:=⟨trivial,y6⟩
 refine wp_region_noPanic ?_;refine zkd (fun _:World=>True) (fun w':World=>w'.cell? ⟨rb,6,none⟩=some (.slice (some a1) ln c1)) 14 (by kernel_rfl) ?_;refine zT 0 hSS ?_;(try simp only[zQ]);refine zT 1 hSS ?_;(try simp only[zQ]);refine zT 2 hSS ?_;(try simp only[zQ]);refine zT 3 hSS ?_;(try simp only[zQ]);refine zko (i:=4) (v:=?_) rfl (by kernel_rfl) (by kernel_rfl) (by kernel_rfl) (by decide) rfl (by kernel_rfl) (by kernel_rfl) (fun _ _ _ h=>h) (Or.inl ⟨by rfl,?_⟩) hSS ?_;rotate_left 1
 ·(intro w hSw;(try dsimp only at hSw);(try simp only[zA,zB,zC]);go_simp;(try with_reducible rfl))
 (try simp only[zQ]);refine zT 5 hSS ?_;(try simp only[zQ]);refine zT 6 hSS ?_;(try simp only[zQ]);refine zT 7 hSS ?_;(try simp only[zQ]);refine zko (i:=8) (v:=?_) rfl (by kernel_rfl) (by kernel_rfl) (by kernel_rfl) (by decide) rfl (by kernel_rfl) (by kernel_rfl) (fun _ _ _ h=>h) (Or.inl ⟨by rfl,?_⟩) hSS ?_;rotate_left 1
 ·(intro w hSw;(try dsimp only at hSw);(try simp only[zA,zB,zC]);go_simp;(try with_reducible rfl))
 (try simp only[zQ]);refine zT 9 hSS ?_;(try simp only[zQ]);refine zT 10 hSS ?_;(try simp only[zQ]);refine zT 11 hSS ?_;(try simp only[zQ]);refine zT 12 hSS ?_;(try simp only[zQ]);refine zT 13 hSS ?_;(try simp only[zQ]);refine zp 14 fun K hK=>?_;(try simp only[zA,zB,zC]);go_simp
 try rw[HW2.out]
 refine hK.out _ _ trivial ?_;clear hK K hSS;(try simp only[zQ]);refine zd ?_;refine NoPanic.normal ?_;clear y6 y7 yf sU HS;go_upto_region 3 with fail;have hSS:(fun _:World=>True) w2.drew.drew.drew/\(fun w':World=>w'.cell? ⟨rb,7,none⟩=some (.slice (some a2) lm c2)) w2.drew.drew.drew:=⟨trivial,v6⟩
 refine wp_region_noPanic ?_;refine zkd (fun _:World=>True) (fun w':World=>w'.cell? ⟨rb,7,none⟩=some (.slice (some a2) lm c2)) 14 (by kernel_rfl) ?_;refine zT 0 hSS ?_;(try simp only[zQ]);refine zT 1 hSS ?_;(try simp only[zQ]);refine zT 2 hSS ?_;(try simp only[zQ]);refine zT 3 hSS ?_;(try simp only[zQ]);refine zko (i:=4) (v:=?_) rfl (by kernel_rfl) (by kernel_rfl) (by kernel_rfl) (by decide) rfl (by kernel_rfl) (by kernel_rfl) (fun _ _ _ h=>h) (Or.inl ⟨by rfl,?_⟩) hSS ?_;rotate_left 1
 ·(intro w hSw;(try dsimp only at hSw);(try simp only[zA,zB,zC]);go_simp;(try with_reducible rfl))
 (try simp only[zQ]);refine zT 5 hSS ?_;(try simp only[zQ]);refine zT 6 hSS ?_;(try simp only[zQ]);refine zT 7 hSS ?_;(try simp only[zQ]);refine zko (i:=8) (v:=?_) rfl (by kernel_rfl) (by kernel_rfl) (by kernel_rfl) (by decide) rfl (by kernel_rfl) (by kernel_rfl) (fun _ _ _ h=>h) (Or.inl ⟨by rfl,?_⟩) hSS ?_;rotate_left 1
 ·(intro w hSw;(try dsimp only at hSw);(try simp only[zA,zB,zC]);go_simp;(try with_reducible rfl))
 (try simp only[zQ]);refine zT 9 hSS ?_;(try simp only[zQ]);refine zT 10 hSS ?_;(try simp only[zQ]);refine zT 11 hSS ?_;(try simp only[zQ]);refine zT 12 hSS ?_;(try simp only[zQ]);refine zT 13 hSS ?_;(try simp only[zQ]);refine zp 14 fun K hK=>?_;(try simp only[zA,zB,zC]);go_simp
 try rw[HW3.out]
 refine hK.out _ _ trivial ?_;clear hK K hSS;(try simp only[zQ]);refine zd ?_;refine NoPanic.normal ?_;go_wp2_with fail;go_ret;exact⟨rfl,_,aa.out⟩
structure SamQ (P P':RP) (n:Nat):Prop where
 rb:P'.rb=P.rb
 cv:P'.cv=P.cv
 cb:∀ i,i<n->P'.cb i=P.cb i
def RunM (K:RK) (P:RP) (W:World) (r:RS) (o:Out) (W':World):Prop:=match o with
 | .gas=>True
 | .err x=>ErM P.rb W' x/\Chg (OwnB (zkg K P r 0)) W W'
 | .ok r'=>∃ P',RF K P' W' r' 0/\Stp K.n0 (zkg K P r 0) W (zkg K P' r' 0) W'/\SamQ P P' r.S.nc
theorem RunE.m {K:RK} {P:RP} {W W':World} {r:RS} {o:Out} {en:Ending} (h:RunE K P W r o en W'):(∃ u,en=.returned u)/\RunM K P W r o W':=by
 refine⟨h.1,?_⟩;have h2:=h.2
 cases o with
 | gas=>trivial
 | err x=>exact h2
 | ok r' =>
  obtain⟨P',h1,h3,h4⟩:=h2;exact⟨P',h1,h3,⟨h4.rb,h4.cv,h4.cb⟩⟩
structure zl0 (K:RK) (P:RP) (W:World) (r:RS) (P1:RP) (r1:RS) (w:World):Prop where
 rf:RF K P1 w r1 0
 st:Stp K.n0 (zkg K P r 0) W (zkg K P1 r1 0) w
 sq:SamQ P P1 r.S.nc
 kp:Keep r r1
structure zmH (K:RK) (P:RP) (W:World) (r:RS) (x:Int) (w:World):Prop where
 er:ErM P.rb w x
 chg:Chg (OwnB (zkg K P r 0)) W w
section
variable {K:RK} {P P1:RP} {W W0 w w1 w2:World} {r r1 r2:RS} {x:Int} {o:Out}
theorem zl0.refl (h:RF K P W r 0):zl0 K P W r P r W:=⟨h,Stp.refl h.rws,⟨rfl,rfl,fun _ _=>rfl⟩,Keep.refl r⟩
theorem zl0.next (h:zl0 K P W r P1 r1 w1) (h':RunM K P1 w1 r1 (.ok r2) w2) (hk:Keep r1 r2):∃ P2,zl0 K P W r P2 r2 w2:=by
 obtain⟨P2,g1,g2,g3⟩:=h';exact⟨P2,g1,h.st.trans g2,⟨g3.rb.trans h.sq.rb,g3.cv.trans h.sq.cv,fun i hi=>(g3.cb i (Nat.lt_of_lt_of_le hi h.kp.nc)).trans (h.sq.cb i hi)⟩,h.kp.trans hk⟩
theorem zl0.step (h:zl0 K P W r P1 r1 w1) (g1:RF K P1 w2 r2 0) (g2:Stp K.n0 (zkg K P1 r1 0) w1 (zkg K P1 r2 0) w2) (hk:Keep r1 r2):zl0 K P W r P1 r2 w2 :=
 ⟨g1,h.st.trans g2,h.sq,h.kp.trans hk⟩
theorem zl0.failc (h:zl0 K P W r P1 r1 w1) (h1:ErM P1.rb w2 x) (h2:Chg (OwnB (zkg K P1 r1 0)) w1 w2):zmH K P W r x w2 :=
 ⟨h.sq.rb▸h1,h.st.chg.trans2 h2 fun b hb hc=>(h.st.own b hc).elim id fun h=>by omega⟩
theorem zl0.fail (h:zl0 K P W r P1 r1 w1) (h':RunM K P1 w1 r1 (.err x) w2):zmH K P W r x w2:=h.failc h'.1 h'.2
theorem zmH.below (h:zmH K P W r x w1) (hb:Below w1.heap.size w1 w2):zmH K P W r x w2:=⟨h.er.later hb,h.chg.trans (Chg.of_below hb)⟩
theorem zl0.box (h:zl0 K P W r P1 r1 w1) {b:Nat} {ob:Obj} (hb:W.heap[b]?=some ob) (hn:¬ OwnB (zkg K P r 0) b):w1.heap[b]?=some ob:=h.st.chg.keep hb hn
theorem zmH.box (h:zmH K P W r x w1) {b:Nat} {ob:Obj} (hb:W.heap[b]?=some ob) (hn:¬ OwnB (zkg K P r 0) b):w1.heap[b]?=some ob:=h.chg.keep hb hn
theorem zl0.m (h:zl0 K P W r P1 r1 w1) (hb:Below W0.heap.size W0 W) (h0:RF K P W0 r 0) (ho:o=.ok r1):RunM K P W0 r o w1:=by
 subst ho;exact⟨P1,h.rf,(Stp.below (Stp.refl h0.rws) hb).trans h.st,h.sq⟩
theorem zmH.m (h:zmH K P W r x w1) (hb:Below W0.heap.size W0 W) (ho:o=.err x):RunM K P W0 r o w1:=by
 subst ho;exact⟨h.er,(Chg.of_below hb).trans h.chg⟩
theorem zl0.cur (h:zl0 K P W r P1 r1 w1):r1.S.cur=r.S.cur:=h.kp.cur
theorem znD (h:RF K P W r 0) {b:Nat} (hb:W.heap.size<=b):¬ OwnB (zkg K P r 0) b:=fun⟨i,hi⟩=>by have:=(h.rws.lt i b hi).2;omega
theorem zl0.y14 (h:zl0 K P W r P1 r1 w1):w1.cell? ⟨P.rb,14,none⟩=some (.int .i64 0):=by rw[<-h.sq.rb];exact h.rf.errC.1
end
def RexC (K:RK) (g:Nat):Prop:=∀ (P:RP) (W:World) (r:RS),RF K P W r 0->∀ (t:T) (v:Value) (back:Bool),NV K.w Any t v->SP K.p.prs r.S.cur.vs t->zkr K.p.prs K.F g back t r ≠ .gas ->
 Calls Tryz.prog 45 #[.pointer (some ⟨P.rb,0,none⟩),v,.bool back] W fun en W'=>(∃ u,en=.returned u)/\RunM K P W r (zkr K.p.prs K.F g back t r) W'
theorem zoz {rb:Nat} {W:World} {x:Int} (h:ErM rb W x) {w:World} {t:T} {v:Value} (hv:NV w Any t v) (back:Bool):Calls Tryz.prog 45 #[.pointer (some ⟨rb,0,none⟩),v,.bool back] W fun en W'=>(∃ u,en=.returned u)/\Below W.heap.size W W':=by
 obtain⟨A,c,rfl,-⟩:=hv.open_;obtain⟨L,hL⟩:∃ L,t.ks.length=L:=⟨_,rfl⟩
 obtain⟨k,hk⟩:∃ L,t.k=L:=⟨_,rfl⟩
 obtain⟨n,hn⟩:∃ L,t.n=L:=⟨_,rfl⟩
 obtain⟨s,hs⟩:∃ L,t.s=L:=⟨_,rfl⟩
 rw[hL,hk,hn,hs];have hb0:=zkc (Below.refl W.heap.size W) (.cells #[.int .u8 k,.int .i64 n,.string s,.slice A L c] 26);obtain⟨W0,hW0⟩:∃ x,W.alloc (.cells #[.int .u8 k,.int .i64 n,.string s,.slice A L c] 26)=x:=⟨_,rfl⟩
 rw[hW0] at hb0;obtain⟨h0,y14⟩:=h.later hb0;have e1:(x != 0)=true:=by simpa using h0
 have HB0:=zh hb0;clear hL hk hn hs hv hb0 h h0;go_enter Tryz.func45,Tryz.ntmps45;go_wp2_with fail;refine bodyPost_ret (results_none rfl _ _ _) rfl ?_;exact⟨⟨_,rfl⟩,HB0.out⟩
def BkI (K:RK) (P:RP) (W0:World) (r:RS) (g:Nat) (back:Bool) (l:List T) (o:Out) (wr:World):Prop :=
 (∃ P1 r1,zl0 K P W0 r P1 r1 wr/\zk9 (zkr K.p.prs K.F g back) l r1=o)\/(∃ x,zmH K P W0 r x wr/\o=.err x)
theorem znM {K:RK} (hK:K.Ok) {g:Nat} (hS:RexC K g) {P:RP} {W:World} {r:RS} (h:RF K P W r 0) (t:T) (v:Value) (back:Bool) (hv:NV K.w Any t v) (hb:isB t=true) (hc:cntV K.p.prs t r.S.cur.vs=0) (aC:runO K.p.prs K.F g back t r ≠ .gas) :
  Calls Tryz.prog 45 #[.pointer (some ⟨P.rb,0,none⟩),v,.bool back] W fun en W'=>(∃ u,en=.returned u)/\RunM K P W r (runO K.p.prs K.F g back t r) W':=by
 have hsp:=zu8 hb hc hK.q;have hk:t.k=57:=zwi hb;obtain⟨A,c,rfl,-,hlk,hlc,hrow⟩:=hv.open_;obtain⟨L,hL⟩:∃ L,t.ks.length=L:=⟨_,rfl⟩
 obtain⟨n,hn⟩:∃ L,t.n=L:=⟨_,rfl⟩
 obtain⟨s,hs⟩:∃ L,t.s=L:=⟨_,rfl⟩
 rw[hL,hk,hn,hs];rw[hL] at hlk;have hb0:=zkc (Below.refl W.heap.size W) (.cells #[.int .u8 57,.int .i64 n,.string s,.slice A L c] 26);have hbx:=heap_alloc_new W (.cells #[.int .u8 57,.int .i64 n,.string s,.slice A L c] 26);obtain⟨W0,hW0⟩:∃ x,W.alloc (.cells #[.int .u8 57,.int .i64 n,.string s,.slice A L c] 26)=x:=⟨_,rfl⟩
 obtain⟨nb,hnb⟩:∃ x,W.heap.size=x:=⟨_,rfl⟩
 rw[hW0] at hb0 hbx;rw[hnb] at hbx;obtain⟨x0,x1,x2,x3⟩:=box4 hbx;have hh0:=h.later hb0;obtain⟨rb,hrb⟩:∃ b,P.rb=b:=⟨_,rfl⟩
 obtain⟨y14,-⟩:=hh0.errC;rw[hrb] at y14 ⊢;have aZ:=zh (show ¬ OwnB (zkg K P r 0) nb from znD h (by omega));have HH:=zh h;have HH0:=zh hh0;have HB0:=zh hb0;have ax:=zh hbx;have ag:=zh hrb;have ah:=zh hrow;have HL:=zh hL;have HSP:=zh hsp;have HS:=zh hS;have HK:=zh hK;have hlk2:L<=17592186044416:=by unfold LK at hlk;omega
 have hwn:IntKind.i64.wrap ((L:Int)-1)=(L:Int)-1:=IntWalk.i64_in _ (by omega);have hwq:∀ j:Nat,j<L->IntKind.i64.wrap ((L:Int)-1-(j:Int))=((L-1-j:Nat):Int):=fun j hj=>by rw[IntWalk.i64_in _ (by omega)];omega
 obtain⟨o,ho⟩:∃ o,runO K.p.prs K.F g back t r=o:=⟨_,rfl⟩
 have HO:=zh (show zk9 (zkr K.p.prs K.F g back) ((blkL back t).drop 0) r=o by rw[List.drop_zero];exact ho);have bE:=zh (show o ≠ .gas from ho▸aC);have bS:=zh (show(blkL back t).length=L by unfold blkL;split<;>simp[hL]);have HI0:=zh (show BkI K P W0 r g back ((blkL back t).drop 0) o W0 from .inl ⟨P,r,zl0.refl hh0,HO.out⟩);rw[ho];clear hv hb0 hbx h hh0 hrb hrow hL hsp hS hK ho aC hlk hn hs hk hb hc
 cases back
 ·go_enter Tryz.func45,Tryz.ntmps45;go_wp2_with fail;clear x0 x1 x2 x3 hW0 y14 hnb
  go_loopw [8] (fun i wr=>∃ (j:Nat),j<=L/\i=.int .i64 j/\Hid (BkI K P W0 r g false ((blkL false t).drop j) o wr)) (fun i _=>L-(intOf i).toNat)
  case atStart=>exact⟨0,Nat.zero_le _,rfl,HI0⟩
  case round =>
   obtain⟨j,hj,rfl,HI⟩:=hrel;by_cases hlt:j<L
   ·skip
    have hj1:(j:Int)<(L:Int):=by omega
    have hj0:(0:Int)<=(j:Int):=by omega
    have wu:j<L:=by omega
    have rZ:(j:Int)<(L:Int):=by omega
    have r9:(0:Int)<=(j:Int):=by omega
    obtain⟨a,u,A1,c1,rfl,-,hu,hnd,hnu⟩:=ah.out.nd (i:=j) (by rw[HL.out];omega);have rV:u∈t.ks:=by rw[<-hu.out];exact List.getElem_mem _
    rcases HI.out with⟨P1,r1,aJ,bY⟩|⟨x,aJ,bY⟩
    ·have hbs:zk9 (zkr K.p.prs K.F g false) ((blkL false t).drop j) r1=(zkr K.p.prs K.F g false u r1).bind (zk9 (zkr K.p.prs K.F g false) ((blkL false t).drop (j+1))):=by
      rw[show(blkL false t).drop j=u::(blkL false t).drop (j+1) by rw[List.drop_eq_getElem_cons (by rw[bS.out];exact hlt),<-hu.out];congr 1;all_goals simp[blkL,HL.out,hlt]];rfl
     rw[bY] at hbs;have jJ:=zh hbs;have oL:=zh aJ;have hex:=HS.out P1 wr r1 aJ.rf u _ false hnu (by rw[aJ.cur];exact HSP.out u rV) (fun e=>bE.out (by rw[hbs,e];rfl));rw[show P1.rb=rb by rw[aJ.sq.rb,ag.out]] at hex;have gT:=zh hex;have ky:=zh hnu.lit;have aO:=aJ.box ax.out (aZ.out);have x3:wr.cell? ⟨nb,3,none⟩=some (.slice (some a) L c):=zc aO rfl;obtain⟨y0,y1,y2,y3⟩:=zkE aJ.rf.bl hnd;clear hbs hex bY aJ hnd hnu aO hu rV;go_wp2_with fail;refine gT.out.mono ?_;rintro e w2 ⟨⟨u1,rfl⟩,hm⟩;have HI2:=zh (show BkI K P W0 r g false ((blkL false t).drop (j+1)) o w2 by
      cases hx:zkr K.p.prs K.F g false u r1 with
      | gas=>exact absurd (by rw[jJ.out,hx];rfl) bE.out
      | err x =>
       rw[hx] at hm;exact .inr ⟨x,oL.out.fail hm,by rw[jJ.out,hx];rfl⟩
      | ok r2 =>
       rw[hx] at hm;obtain⟨P2,h2⟩:=oL.out.next hm (zl4 HK.out.F6 HK.out.lit g false u r1 r2 ky.out oL.out.rf.inv hx).2
       exact .inl ⟨P2,r2,h2,by rw[jJ.out,hx];rfl⟩)
     clear hm x3 y0 y1 y2 y3;go_wp2_with fail
     go_roundw
     case rel=>exact⟨j+1,by omega,by go_num,HI2⟩
     case measure=>simp[intOf];omega
    ·have oL:=zh aJ;have Bj:=zh bY;have hex:=zoz aJ.er hnu false;rw[ag.out] at hex;have gT:=zh hex;have aO:=aJ.box ax.out (aZ.out);have x3:wr.cell? ⟨nb,3,none⟩=some (.slice (some a) L c):=zc aO rfl;obtain⟨y0,y1,y2,y3⟩:=zkE (HH0.out.bl.trans (aJ.chg.below HH0.out.bl.size fun b ⟨i,hb⟩=>by have:=(HH0.out.rws.lt i b hb).1;have:=HK.out.n0;omega)) hnd;clear hex bY aJ hnd hnu aO hu rV;go_wp2_with fail;refine gT.out.mono ?_;rintro e w2 ⟨⟨u1,rfl⟩,hm⟩;have HI2:=zh (show BkI K P W0 r g false ((blkL false t).drop (j+1)) o w2 from .inr ⟨x,oL.out.below hm,Bj.out⟩);clear hm x3 y0 y1 y2 y3;go_wp2_with fail
     go_roundw
     case rel=>exact⟨j+1,by omega,by go_num,HI2⟩
     case measure=>simp[intOf];omega
   ·have aa:=zh (show RunM K P W r o wr by
     rcases HI.out with⟨P1,r1,aJ,bY⟩|⟨x,aJ,bY⟩
     ·exact aJ.m HB0.out HH.out (by rw[<-bY,show(blkL false t).drop j=[] by rw[List.drop_eq_nil_iff,bS.out];omega];rfl)
     ·exact aJ.m HB0.out bY)
    have hj1:¬ (j:Int)<(L:Int):=by omega
    have x3:wr.cell? ⟨nb,3,none⟩=some (.slice A L c):=by
     rcases HI.out with⟨P1,r1,aJ,bY⟩|⟨x,aJ,bY⟩
     ·exact zc (aJ.box ax.out aZ.out) rfl
     ·exact zc (aJ.box ax.out aZ.out) rfl
    go_wp2_with fail;go_end0;exact⟨⟨_,rfl⟩,aa.out⟩
 ·go_enter Tryz.func45,Tryz.ntmps45;go_wp2_with fail;clear x0 x1 x2 x3 hW0 y14 hnb
  go_loopw [8] (fun i wr=>∃ (j:Nat),j<=L/\i=.int .i64 j/\Hid (BkI K P W0 r g true ((blkL true t).drop j) o wr)) (fun i _=>L-(intOf i).toNat)
  case atStart=>exact⟨0,Nat.zero_le _,rfl,HI0⟩
  case round =>
   obtain⟨j,hj,rfl,HI⟩:=hrel;by_cases hlt:j<L
   ·have rR:=hwq j hlt;obtain⟨q,hq⟩:∃ q,L-1-j=q:=⟨_,rfl⟩
    rw[hq] at rR;have hj1:(j:Int)<(L:Int):=by omega
    have hj0:(0:Int)<=(j:Int):=by omega
    have wu:q<L:=by omega
    have rZ:(q:Int)<(L:Int):=by omega
    have r9:(0:Int)<=(q:Int):=by omega
    obtain⟨a,u,A1,c1,rfl,-,hu,hnd,hnu⟩:=ah.out.nd (i:=q) (by rw[HL.out];omega);have rV:u∈t.ks:=by rw[<-hu.out];exact List.getElem_mem _
    rcases HI.out with⟨P1,r1,aJ,bY⟩|⟨x,aJ,bY⟩
    ·have hbs:zk9 (zkr K.p.prs K.F g true) ((blkL true t).drop j) r1=(zkr K.p.prs K.F g true u r1).bind (zk9 (zkr K.p.prs K.F g true) ((blkL true t).drop (j+1))):=by
      rw[show(blkL true t).drop j=u::(blkL true t).drop (j+1) by rw[List.drop_eq_getElem_cons (by rw[bS.out];exact hlt),<-hu.out];congr 1;all_goals simp[blkL,HL.out,hq]];rfl
     rw[bY] at hbs;have jJ:=zh hbs;have oL:=zh aJ;have hex:=HS.out P1 wr r1 aJ.rf u _ true hnu (by rw[aJ.cur];exact HSP.out u rV) (fun e=>bE.out (by rw[hbs,e];rfl));rw[show P1.rb=rb by rw[aJ.sq.rb,ag.out]] at hex;have gT:=zh hex;have ky:=zh hnu.lit;have aO:=aJ.box ax.out (aZ.out);have x3:wr.cell? ⟨nb,3,none⟩=some (.slice (some a) L c):=zc aO rfl;obtain⟨y0,y1,y2,y3⟩:=zkE aJ.rf.bl hnd;clear hbs hex bY aJ hnd hnu aO hu rV;go_wp2_with fail;refine gT.out.mono ?_;rintro e w2 ⟨⟨u1,rfl⟩,hm⟩;have HI2:=zh (show BkI K P W0 r g true ((blkL true t).drop (j+1)) o w2 by
      cases hx:zkr K.p.prs K.F g true u r1 with
      | gas=>exact absurd (by rw[jJ.out,hx];rfl) bE.out
      | err x =>
       rw[hx] at hm;exact .inr ⟨x,oL.out.fail hm,by rw[jJ.out,hx];rfl⟩
      | ok r2 =>
       rw[hx] at hm;obtain⟨P2,h2⟩:=oL.out.next hm (zl4 HK.out.F6 HK.out.lit g true u r1 r2 ky.out oL.out.rf.inv hx).2
       exact .inl ⟨P2,r2,h2,by rw[jJ.out,hx];rfl⟩)
     clear hm x3 y0 y1 y2 y3;go_wp2_with fail
     go_roundw
     case rel=>exact⟨j+1,by omega,by go_num,HI2⟩
     case measure=>simp[intOf];omega
    ·have oL:=zh aJ;have Bj:=zh bY;have hex:=zoz aJ.er hnu true;rw[ag.out] at hex;have gT:=zh hex;have aO:=aJ.box ax.out (aZ.out);have x3:wr.cell? ⟨nb,3,none⟩=some (.slice (some a) L c):=zc aO rfl;obtain⟨y0,y1,y2,y3⟩:=zkE (HH0.out.bl.trans (aJ.chg.below HH0.out.bl.size fun b ⟨i,hb⟩=>by have:=(HH0.out.rws.lt i b hb).1;have:=HK.out.n0;omega)) hnd;clear hex bY aJ hnd hnu aO hu rV;go_wp2_with fail;refine gT.out.mono ?_;rintro e w2 ⟨⟨u1,rfl⟩,hm⟩;have HI2:=zh (show BkI K P W0 r g true ((blkL true t).drop (j+1)) o w2 from .inr ⟨x,oL.out.below hm,Bj.out⟩);clear hm x3 y0 y1 y2 y3;go_wp2_with fail
     go_roundw
     case rel=>exact⟨j+1,by omega,by go_num,HI2⟩
     case measure=>simp[intOf];omega
   ·have aa:=zh (show RunM K P W r o wr by
     rcases HI.out with⟨P1,r1,aJ,bY⟩|⟨x,aJ,bY⟩
     ·exact aJ.m HB0.out HH.out (by rw[<-bY,show(blkL true t).drop j=[] by rw[List.drop_eq_nil_iff,bS.out];omega];rfl)
     ·exact aJ.m HB0.out bY)
    have hj1:¬ (j:Int)<(L:Int):=by omega
    have x3:wr.cell? ⟨nb,3,none⟩=some (.slice A L c):=by
     rcases HI.out with⟨P1,r1,aJ,bY⟩|⟨x,aJ,bY⟩
     ·exact zc (aJ.box ax.out aZ.out) rfl
     ·exact zc (aJ.box ax.out aZ.out) rfl
    go_wp2_with fail;go_end0;exact⟨⟨_,rfl⟩,aa.out⟩
def Stt (K:RK) (P:RP) (W:World) (r:RS) (lo:Nat) (Cd:Prop) (Rm:RS->Out) (o:Out) (w:World):Prop :=
 (∃ P1 r1,zl0 K P W r P1 r1 w/\lo<=r1.n/\Cd/\Rm r1=o)\/(∃ x,zmH K P W r x w/\o=.err x)
section
variable {K:RK} {P:RP} {W W0 w w1:World} {r:RS} {lo:Nat} {Cd:Prop} {Rm:RS->Out} {o:Out}
theorem Stt.box (h:Stt K P W r lo Cd Rm o w) {b:Nat} {ob:Obj} (hb:W.heap[b]?=some ob) (hn:¬ OwnB (zkg K P r 0) b):w.heap[b]?=some ob:=by
 rcases h with⟨P1,r1,h,-⟩|⟨x,h,-⟩
 ·exact h.box hb hn
 ·exact h.box hb hn
theorem Stt.bl (hK:K.Ok) (h0:RF K P W r 0) (h:Stt K P W r lo Cd Rm o w):Below K.w.heap.size K.w w:=by
 rcases h with⟨P1,r1,h,-⟩|⟨x,h,-⟩
 ·exact h.rf.bl
 ·exact h0.bl.trans (h.chg.below h0.bl.size fun b ⟨i,hb⟩=>by have:=(h0.rws.lt i b hb).1;have:=hK.n0;omega)
theorem Stt.m (h:Stt K P W r lo Cd .ok o w) (hb:Below W0.heap.size W0 W) (h0:RF K P W0 r 0):RunM K P W0 r o w:=by
 rcases h with⟨P1,r1,h,-,-,ho⟩|⟨x,h,ho⟩
 ·exact h.m hb h0 ho.symm
 ·exact h.m hb ho
theorem Stt.err14 (h:Stt K P W r lo Cd Rm o w):∃ e,w.cell? ⟨P.rb,14,none⟩=some (.int .i64 e)/\((e=0/\∃ P1 r1,zl0 K P W r P1 r1 w/\lo<=r1.n/\Cd/\Rm r1=o)\/(e≠0/\∃ x,zmH K P W r x w/\o=.err x)):=by
 rcases h with⟨P1,r1,h,h2⟩|⟨x,h,h2⟩
 ·exact⟨0,h.y14,.inl ⟨rfl,P1,r1,h,h2⟩⟩
 ·exact⟨x,h.er.2,.inr ⟨h.er.1,x,h,h2⟩⟩
theorem Stt.of (h:RF K P W r 0) (ho:Rm r=o):Stt K P W r r.n True Rm o W:=.inl ⟨P,r,zl0.refl h,Nat.le_refl _,trivial,ho⟩
theorem Stt.mono {lo':Nat} {Cd':Prop} {Rm':RS->Out} (h:Stt K P W r lo Cd Rm o w) (hl:lo'<=lo) (hc:Cd->Cd') (hr:∀ r,Rm r=o->Rm' r=o):Stt K P W r lo' Cd' Rm' o w:=by
 rcases h with⟨P1,r1,h,h1,h2,h3⟩|h
 ·exact .inl ⟨P1,r1,h,by omega,hc h2,hr _ h3⟩
 ·exact .inr h
theorem zoy (hK:K.Ok) {t:T} {v:Value} {f:Bool->RS->Out} (hst:Stt K P W r lo Cd (fun r=>zkG K.F t r f) o w) (ko:EP r.S.cur.vs t) (hv:NV K.w Any t v) {rb:Nat} (hrb:P.rb=rb) :
  Calls Tryz.prog 65 #[.pointer (some ⟨rb,0,none⟩),v] w fun en w'=>∃ b,en=.returned (.bool b)/\Stt K P W r (lo+1) ((lo:Int)<K.F/\Cd) (f b) o w':=by
 subst hrb;rcases hst with⟨P1,r1,aJ,hlo,hcd,ho⟩|⟨x,aJ,ho⟩
 ·have ho:zkG K.F t r1 f=o:=ho;rw[<-aJ.sq.rb];refine(ztz hK aJ.rf (by rw[aJ.cur];exact ko) hv).mono ?_;rintro en w' ⟨b,rfl,⟨x,h1,rfl,h2,h3⟩|⟨h1,h2,h3⟩⟩
  ·exact⟨false,rfl,.inr ⟨x,aJ.failc h2 h3,by rw[<-ho,h1]⟩⟩
  ·refine⟨b,rfl,.inl ⟨P1,_,aJ.step h2 h3 ⟨rfl,rfl,Nat.le_refl _⟩,by simp only;omega,⟨?_,hcd⟩,by rw[<-ho,h1]⟩⟩;have h4:=h1 fun _ _=>.ok r1;by_cases hlt:(r1.n:Int)<K.F
   ·omega
   ·exfalso
    unfold zkG at h4;rw[zkq,if_pos (by omega)] at h4
    cases h4
 ·refine(zty aJ.er hv).mono ?_;rintro en w' ⟨rfl,hb⟩;exact⟨false,rfl,.inr ⟨x,aJ.below hb,ho⟩⟩
theorem zpw (hK:K.Ok) {g:Nat} (hS:RexC K g) {t:T} {v:Value} {back:Bool} {f:RS->Out} (hst:Stt K P W r lo Cd (fun r=>(runO K.p.prs K.F g back t r).bind f) o w) (aC:o ≠ .gas) (hv:NV K.w Any t v) (hb:isB t=true) (hc:cntV K.p.prs t r.S.cur.vs=0) {rb:Nat} (hrb:P.rb=rb) :
  Calls Tryz.prog 45 #[.pointer (some ⟨rb,0,none⟩),v,.bool back] w fun en w'=>(∃ u,en=.returned u)/\Stt K P W r lo Cd f o w':=by
 subst hrb;rcases hst with⟨P1,r1,aJ,hlo,hcd,ho⟩|⟨x,aJ,ho⟩
 ·rw[<-aJ.sq.rb];refine(znM hK hS aJ.rf t v back hv hb (by rw[aJ.cur];exact hc) (fun e=>aC (by rw[<-ho];simp only[e];rfl))).mono ?_;rintro en w' ⟨hu,hm⟩;refine⟨hu,?_⟩
  cases hx:runO K.p.prs K.F g back t r1 with
  | gas=>exact absurd (by rw[<-ho];simp only[hx];rfl) aC
  | err x =>
   rw[hx] at hm;exact .inr ⟨x,aJ.fail hm,by rw[<-ho];simp only[hx];rfl⟩
  | ok r2 =>
   rw[hx] at hm;obtain⟨P2,h2⟩:=aJ.next hm (zn8 hK.F6 hK.lit g back t r1 r2 hv.lit aJ.rf.inv hx).2
   have hup:=zmC (fun t r=>znp g back t r) (blkL back t) r1 r2 hx;exact .inl ⟨P2,r2,h2,by omega,hcd,by rw[<-ho];simp only[hx];rfl⟩
 ·refine(zoz aJ.er hv back).mono ?_;rintro en w' ⟨hu,hb⟩;exact⟨hu,.inr ⟨x,aJ.below hb,ho⟩⟩
theorem zqP (hK:K.Ok) {e:Int} (he:e≠0) (hst:Stt K P W r lo Cd (fun _=>.err e) o w) {rb:Nat} (hrb:P.rb=rb) :
  Calls Tryz.prog 66 #[.pointer (some ⟨rb,0,none⟩),.int .i64 e] w fun en w'=>(∃ u,en=.returned u)/\∃ x,zmH K P W r x w'/\o=.err x:=by
 subst hrb;rcases hst with⟨P1,r1,aJ,hlo,hcd,ho⟩|⟨x,aJ,ho⟩
 ·rw[<-aJ.sq.rb];refine(zkR hK aJ.rf e).mono ?_;rintro en w' ⟨hu,h1,h2⟩;rw[if_pos rfl] at h1;exact⟨hu,e,aJ.failc ⟨he,h1.errC.1⟩ h2.chg,ho.symm⟩
 ·refine(ztD aJ.er e).mono ?_;rintro en w' ⟨hu,rfl⟩;exact⟨hu,x,aJ,ho⟩
end
theorem znQ (F:Int) (t:T) (b:Bool) (r:RS) (f:RS->Out):(zkx F t b r).bind f=zkG F t r fun b' r=>if b'=b then f r else .err 15:=by
 unfold zkx zkG valO
 cases zkq F r with
 | gas=>rfl
 | err e=>rfl
 | ok r1 =>
  by_cases h0:(zlb r1.S.look t).2≠0
  ·simp only[Out.bind,if_pos h0]
  ·simp only[Out.bind,if_neg h0];by_cases hb:decide ((zlb r1.S.look t).1≠0)=b
   ·simp only[if_pos hb]
   ·simp only[if_neg hb]
theorem zvB {w:World} {A:Option Addr} {u0 u1 u2 u3:T} (h:zl3 w Any A [u0,u1,u2,u3]):∃ (a:Addr) (A0 A1 A2 A3:Option Addr) (c0 c1 c2 c3:Nat),A=some a /\
  (Nd4 w a u0 A0 c0/\Nd4 w ⟨a.block,a.off+4,none⟩ u1 A1 c1/\Nd4 w ⟨a.block,a.off+8,none⟩ u2 A2 c2/\Nd4 w ⟨a.block,a.off+12,none⟩ u3 A3 c3) /\
  (NV w Any u0 (nv u0.k u0.n u0.s A0 u0.ks.length c0)/\NV w Any u1 (nv u1.k u1.n u1.s A1 u1.ks.length c1)/\NV w Any u2 (nv u2.k u2.n u2.s A2 u2.ks.length c2)/\NV w Any u3 (nv u3.k u3.n u3.s A3 u3.ks.length c3)):=by
 obtain⟨a,t0,A0,c0,rfl,_,H0,n0,v0⟩:=h.nd (i:=0) (by simp);obtain⟨a',t1,A1,c1,e1,_,H1,n1,v1⟩:=h.nd (i:=1) (by simp);injection e1 with e1;subst e1;obtain⟨a',t2,A2,c2,e1,_,H2,n2,v2⟩:=h.nd (i:=2) (by simp);injection e1 with e1;subst e1;obtain⟨a',t3,A3,c3,e1,_,H3,n3,v3⟩:=h.nd (i:=3) (by simp);injection e1 with e1;subst e1;obtain rfl:u0=t0:=H0.out;obtain rfl:u1=t1:=H1.out;obtain rfl:u2=t2:=H2.out;obtain rfl:u3=t3:=H3.out;have ha1:a.add (1*4)=⟨a.block,a.off+4,none⟩:=by unfold Addr.add;split<;>simp_all
 have ha2:a.add (2*4)=⟨a.block,a.off+8,none⟩:=by unfold Addr.add;split<;>simp_all
 have tQ:a.add (3*4)=⟨a.block,a.off+12,none⟩:=by unfold Addr.add;split<;>simp_all
 rw[ha1] at n1;rw[ha2] at n2;rw[tQ] at n3;simp only[Nat.zero_mul,Addr.add_zero'] at n0;exact⟨a,A0,A1,A2,A3,c0,c1,c2,c3,rfl,⟨n0,n1,n2,n3⟩,⟨v0,v1,v2,v3⟩⟩
end Go.Proofs.YtmbbaccjcekhkaaGreat
