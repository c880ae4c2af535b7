/-
  Texts of the proof, put together without their remarks: Sk, Kg, Ip, Ir, Ie, Is, Ic, Iu, Iw, Ix, Iy.
-/
import Derived.Test.YtmbbaccjcekhkaaGreatF4
import Derived.Recover
set_option linter.unusedSimpArgs false
set_option linter.unusedVariables false
set_option maxHeartbeats 8000000
set_option maxRecDepth 100000
namespace Go.Proofs.YtmbbaccjcekhkaaGreat
open Go Go.RowKit
theorem zvL {f:Nat->T->Bool} {ks:List T} (h:zkK 1 f ks=true):∃ p,ks=[p]/\f 0 p=true:=by
 match ks with
 | [p]=>simp[zkK,zkz] at h;exact⟨p,rfl,h⟩
 | []=>simp[zkK] at h
 | a::b::l=>simp[zkK] at h
theorem zvK {f:Nat->T->Bool} {ks:List T} (h:zkK 2 f ks=true):∃ p q,ks=[p,q]/\f 0 p=true/\f 1 q=true:=by
 match ks with
 | [p,q]=>simp[zkK,zkz] at h;exact⟨p,q,rfl,h⟩
 | []=>simp[zkK] at h
 | [a]=>simp[zkK] at h
 | a::b::c::l=>simp[zkK] at h
theorem zsI {k n:Int} {s:ByteArray} {ks:List T} (h:isS (.nd k n s ks)=true) (hb:basB k=true) :
  ((k=40\/k=41\/k=42)/\∃ p q,ks=[p,q]/\isP p=true/\isE q=true)\/(k=43/\∃ p q,ks=[p,q]/\isP p=true/\isP q=true)\/((44<=k/\k<=49)/\∃ p,ks=[p]/\isP p=true):=by
 have hr:=of_decide_eq_true hb;rw[isS] at h;by_cases h1:k=40\/k=41\/k=42\/k=56
 ·rw[if_pos h1,Bool.and_eq_true] at h;obtain⟨p,q,e,a,b⟩:=zvK h.2;exact .inl ⟨by omega,p,q,e,by simpa using a,by simpa using b⟩
 ·rw[if_neg h1] at h;by_cases h2:k=43
  ·rw[if_pos h2,Bool.and_eq_true] at h;obtain⟨p,q,e,a,b⟩:=zvK h.2;exact .inr (.inl ⟨h2,p,q,e,a,b⟩)
  ·rw[if_neg h2] at h;by_cases h3:k=44\/k=45
   ·rw[if_pos h3,Bool.and_eq_true] at h;obtain⟨p,e,a⟩:=zvL h.2;exact .inr (.inr ⟨by omega,p,e,a⟩)
   ·rw[if_neg h3,if_pos (by omega),Bool.and_eq_true] at h;obtain⟨p,e,a⟩:=zvL h.2;exact .inr (.inr ⟨by omega,p,e,a⟩)
def DoP (n0:Nat) (P:Ph) (S:ST) (W:World) (R:Int×ST) (e:Ending) (W':World):Prop:=e=.returned (.int .i64 R.1)/\∃ P',SStp n0 P S W P' R.2 W'/\P'.sb=P.sb
theorem zqH {W:World} {n0:Nat} {P:Ph} {S:ST} (h:SR W n0 P S) (t:T) (v:Value) (hv:NV W Any t v) (hs:isS t=true) (hb:basB t.k=true) (hf:fltE S.cur.vs t=0) :
  Calls Tryz.prog 116 #[.pointer (some ⟨P.sb,0,none⟩),v] W (DoP n0 P S W (zp3 S t)):=by
 obtain⟨k,n,s,ks⟩:=t;obtain⟨fo,fk⟩:=zlk hf;rcases zsI hs hb with⟨hk,p,q,rfl,hp,hq⟩|⟨rfl,p,q,rfl,hp,hq⟩|⟨hk,p,rfl,hp⟩
 ·obtain⟨id,kp,h1,h2,h3⟩:=zpf h.wf hp (zk4 fk p (by simp));have:=zuU h k n s p q v hv hk id h1 kp h2;have e:zp3 S (.nd k n s [p,q])=zkQ S k s p q (indE S.look p) (zlb S.look q):=by
   show zkQ S k s p q (indE S.look p) (zlO S k q)=_
   rw[zlO,if_neg (by omega),if_pos hk]
  unfold DoP;rw[e];exact this
 ·obtain⟨id,kp,h1,h2,h3⟩:=zpf h.wf hp (zk4 fk p (by simp));obtain⟨jd,kq,h4,h5,h6⟩:=zpf h.wf hq (zk4 fk q (by simp));have:=zs5 h 43 n s p q v hv rfl id h1 kp h2 jd h4 kq h5;have e:zp3 S (.nd 43 n s [p,q])=zkQ S 43 s p q (indE S.look p) (indE S.look q):=by
   show zkQ S 43 s p q (indE S.look p) (zlO S 43 q)=_
   rw[zlO,if_pos rfl]
  unfold DoP;rw[e];exact this
 ·obtain⟨id,kp,h1,h2,h3⟩:=zpf h.wf hp (zk4 fk p (by simp));have hst:k=44\/k=45->∃ sid,S.num s=some sid/\CurK S sid 3:=fun h45=>by
   have hn:zna k=3:=by rcases h45 with rfl|rfl<;>rfl
   obtain⟨u,h4,h5⟩:=zk6 fo (by rw[hn];decide);obtain⟨sid,h6,h7⟩:=zpR h.wf h4;exact⟨sid,h6,by rw[h5,hn] at h7;exact h7⟩
  have:=zuV h k n s p v hv hk id h1 kp h2 h3 hst;have e:zp3 S (.nd k n s [p])=zkQ S k s p nil0 (indE S.look p) (0,0):=by
   show zkQ S k s p nil0 (indE S.look p) (zlO S k nil0)=_
   rw[zlO,if_neg (by omega),if_neg (by omega)]
  unfold DoP;rw[e];exact this
theorem zsW:IsFn Tryz.prog 109 Tryz.f109:=⟨Tryz.func109,by kernel_rfl,by kernel_rfl⟩
theorem zuQ:IsFn Tryz.prog 115 Tryz.f115:=⟨Tryz.func115,by kernel_rfl,by kernel_rfl⟩
theorem zvZ {W:World} {n0:Nat} {P:Ph} {S:ST} (h:SR W n0 P S) (t:T) (v:Value) (hv:NV W Any t v) :
  Calls Tryz.prog 85 #[.pointer (some ⟨P.sb,0,none⟩),v] W (DoP n0 P S W (doE S t)):=by
 obtain⟨R,hR⟩:∃ R,doE S t=R:=⟨_,rfl⟩
 rw[hR];have HRR:=zh hR;have HS:=zh h;have HV:=zh hv;obtain⟨A,c,rfl,-,-,-,-⟩:=hv.open_;obtain⟨b,hb⟩:∃ b,isS t=b:=⟨_,rfl⟩
 have HIS:=zh (show ∀ (v:Value) (w:World),NV w Any t v->Calls Tryz.prog 95 #[v] w fun e w'=>e=.returned (.bool b)/\Below w.heap.size w w' from fun v w h=>hb▸zr3 t v w h);have uU:=zh hb;have gT:=zh (show ∀ (v:Value) (W':World),NV W' Any t v->Below W.heap.size W W'->isS t=true->basB t.k=true->fltE S.cur.vs t=0->doE S t=zp3 S t->Calls Tryz.prog 116 #[.pointer (some ⟨P.sb,0,none⟩),v] W' (DoP n0 P S W R) from fun v W' hv' hbl h1 h2 h3 h4=>by
  refine(zqH (h.later hbl) t v hv' h1 h2 h3).mono ?_;rintro e W2 ⟨a1,P',a2,a3⟩;rw[<-h4,hR] at a1 a2;exact⟨a1,P',⟨a2.st.after hbl h.rws,a2.wf⟩,a3⟩)
 obtain⟨kd,hw⟩:=h.curWF;obtain⟨A0,c0,hcv,hc,hrow⟩:=h.curVs;obtain⟨h3,h4,h5⟩:=h.cur3;rw[hcv] at h3;have dS:=zh (fun W' (hb:Below W.heap.size W W')=>zlw (h.later hb));have uO:=zh (fun(v:Value) W' (hb:Below W.heap.size W W') (hv':NV W' Any t v)=>zrW S.cur.vs A0 c0 (curP P S) hw.lim t v W' hv' (zb hb h3) (hrow.later hb));obtain⟨cp,hcp⟩:∃ cp,curP P S=cp:=⟨_,rfl⟩
 rw[hcp] at dS uO;obtain⟨fe,hfe⟩:∃ fe,fltE S.cur.vs t=fe:=⟨_,rfl⟩
 rw[hfe] at uO gT;have dJ:=zh (fun w=>zto t.k w);obtain⟨bb,hbb⟩:∃ b,basB t.k=b:=⟨_,rfl⟩
 rw[hbb] at dJ gT;have HD:=zh (show R=if b=false then (3,S) else if t.k=56 then (9,S) else if bb=false then (7,S) else if fe≠0 then (fe,S) else zp3 S t by rw[<-hR,doE,hb,hbb,hfe]);have HDE:=zh (show doE S t=R from hR);obtain⟨k,hk⟩:∃ k,t.k=k:=⟨_,rfl⟩
 obtain⟨n,hn⟩:∃ n,t.n=n:=⟨_,rfl⟩
 obtain⟨s,hs⟩:∃ s,t.s=s:=⟨_,rfl⟩
 obtain⟨m,hm⟩:∃ m,t.ks.length=m:=⟨_,rfl⟩
 rw[hk,hn,hs,hm] at HV ⊢;rw[hk] at dJ HD;clear h hv hR hb hw hcv hc hrow h3 h4 h5 hcp hfe hbb hk hn hs hm;have hbx:=box4 (heap_alloc_new W (.cells #[.int .u8 k,.int .i64 n,.string s,.slice A m c] 26));have az:=zh (heap_alloc_new W (.cells #[.int .u8 k,.int .i64 n,.string s,.slice A m c] 26));obtain⟨W0,hW0⟩:∃ W0,W.alloc (.cells #[.int .u8 k,.int .i64 n,.string s,.slice A m c] 26)=W0:=⟨_,rfl⟩
 have q0:Below W.heap.size W W0:=hW0▸zkc (Below.refl _ _) _;rw[hW0] at hbx az;have iU:=zh q0;obtain⟨x0,x1,x2,x3⟩:=hbx;clear q0;go_enter Tryz.func85,Tryz.ntmps85;go_wp2_with fail;refine(HIS.out _ _ (HV.out.later iU.out)).mono ?_;rintro e w1 ⟨rfl,aj⟩;have HB1:=zh (zka iU.out aj);have aH:=zh (zkf az.out aj);obtain⟨y0,y1,y2,y3⟩:=box4 aH.out;clear aj x0 x1 x2 x3
 cases b
 ·have HN:=zh (show R=(3,S) by rw[HD.out,if_pos rfl]);go_wp2_with fail;go_ret;exact⟨by rw[HN.out];rfl,P,by rw[HN.out];exact SStp.refl HS.out HB1.out,rfl⟩
 ·by_cases oV:k=56
  ·have HN:=zh (show R=(9,S) by rw[HD.out,if_neg (by decide),if_pos oV]);subst oV;go_wp2_with fail;go_ret;exact⟨by rw[HN.out];rfl,P,by rw[HN.out];exact SStp.refl HS.out HB1.out,rfl⟩
  ·have yM:(k==56)=false:=by simpa using oV
   go_wp2_with fail;refine(dJ.out _).mono ?_;rintro e w2 ⟨rfl,rfl⟩
   cases bb
   ·have HN:=zh (show R=(7,S) by rw[HD.out,if_neg (by decide),if_neg oV,if_pos rfl]);go_wp2_with fail;go_ret;exact⟨by rw[HN.out];rfl,P,by rw[HN.out];exact SStp.refl HS.out HB1.out,rfl⟩
   ·have HD2:=zh (show R=if fe≠0 then (fe,S) else zp3 S t by rw[HD.out,if_neg (by decide),if_neg oV,if_neg (by decide)]);clear HD dJ;go_upto_region 9 with fail;have hSS:(fun w':World=>w'.cell? ⟨W.heap.size,0,none⟩=some (.int .u8 k)/\w'.cell? ⟨W.heap.size,1,none⟩=some (.int .i64 n)/\w'.cell? ⟨W.heap.size,2,none⟩=some (.string s)/\w'.cell? ⟨W.heap.size,3,none⟩=some (.slice A m c)) w2.drew/\(fun _:World=>True) w2.drew:=⟨⟨y0,y1,y2,y3⟩,trivial⟩
    refine wp_region_noPanic ?_;refine zkd (fun w':World=>w'.cell? ⟨W.heap.size,0,none⟩=some (.int .u8 k)/\w'.cell? ⟨W.heap.size,1,none⟩=some (.int .i64 n)/\w'.cell? ⟨W.heap.size,2,none⟩=some (.string s)/\w'.cell? ⟨W.heap.size,3,none⟩=some (.slice A m c)) (fun _:World=>True) 3 (by kernel_rfl) ?_;refine zT 0 hSS ?_;(try simp only[zQ]);refine zT 2 hSS ?_;(try simp only[zQ]);have had:Calls Tryz.prog 109 [.pointer (some ⟨P.sb,0,none⟩)].toArray w2.drew fun e W'=>∃ u,e=.returned u/\u=.pointer (some cp)/\W'=w2.drew :=
     (dS.out _ HB1.out.drew).mono fun e W' hh=>⟨_,hh.1,rfl,hh.2⟩
    refine zo 1 fun K hK=>?_;refine zkj (by rfl) (.func 109) [.tmp 22] _ (by rfl) 109 _ zsW (by rfl) _ (by rfl) _ had ?_;rintro v4 w4 ⟨rfl,rfl⟩;refine hK.out _ _ hSS ?_;clear hK K had;(try simp only[zQ]);have had:Calls Tryz.prog 115 [.pointer (some cp),nv k n s A m c].toArray w2.drew fun e W'=>∃ u,e=.returned u/\u=.int .i64 fe/\Below w2.drew.heap.size w2.drew W' :=
     (uO.out _ _ HB1.out.drew ((HV.out.later HB1.out).later (Below.refl _ _).drew)).mono fun e W' hh=>⟨_,hh.1,rfl,hh.2⟩
    refine zp 3 fun K hK=>?_;refine zkj (by rfl) (.func 115) [.tmp 23,.tmp 24] _ (by rfl) 115 _ zuQ (by rfl) _ (by rfl) _ had ?_;rintro v5 w5 ⟨rfl,hb5⟩;have bP:=zh (zka HB1.out.drew hb5);have jR:=zh (zkf (show w2.drew.heap[W.heap.size]?=_ from aH.out) hb5);obtain⟨u0,u1,u2,u3⟩:=box4 jR.out;refine hK.out _ _ ⟨u0,u1,u2,u3⟩ ?_;clear hK K had hb5 hSS y0 y1 y2 y3;(try simp only[zQ]);refine zp 4 fun K hK=>?_;(try simp only[zA,zB,zC]);go_simp;refine hK.out _ _ ⟨u0,u1,u2,u3⟩ ?_;clear hK K;(try simp only[zQ]);refine zd ?_;refine NoPanic.normal ?_;by_cases hfe:fe=0
    ·subst hfe;have mr:=zh (gT.out (nv k n s A m c) w5 (HV.out.later bP.out) bP.out uU.out (by first|rfl|trivial) (by first|rfl|trivial) (by rw[HDE.out,HD2.out];simp));clear HD2 gT;go_wp2_with fail;refine mr.out.mono ?_;rintro e w6 ⟨rfl,hh⟩;have HH:=zh hh;clear hh;go_wp2_with fail;go_ret;exact⟨rfl,HH.out⟩
    ·have HN:=zh (show R=(fe,S) by rw[HD2.out,if_pos hfe]);have e1:(fe==0)=false:=by simpa using hfe
     have e2:(fe != 0)=true:=by simpa using hfe
     clear HD2;go_wp2_with fail;go_ret;exact⟨by rw[HN.out];rfl,P,by rw[HN.out];exact SStp.refl HS.out bP.out,rfl⟩
theorem zvh {W:World} {n0:Nat} {P:Ph} {S:ST} (h:SR W n0 P S) (t:T) (v:Value) (hv:NV W Any t v) :
  Calls Tryz.prog 84 #[.pointer (some ⟨P.sb,0,none⟩),v] W (DoP n0 P S W (zng S t)):=by
 obtain⟨k,n,s,ks⟩:=t;obtain⟨A,c,rfl,hf,hlk,hlc,hrow⟩:=hv.open_;simp only[T.k_nd,T.n_nd,T.s_nd,T.ks_nd] at *
 obtain⟨k',hk'⟩:∃ k',zmF k=k':=⟨_,rfl⟩
 have hf':Fld k' n s:=by
  refine⟨?_,hf.2⟩;rw[<-hk'];unfold zmF;have:=hf.1
  split
  ·omega
  ·split
   ·omega
   ·split
    ·omega
    ·split
     ·omega
     ·split
      ·omega
      ·split
       ·omega
       ·split
        ·omega
        ·split
         ·omega
         ·exact this
 obtain⟨R,hR⟩:∃ R,zng S (.nd k n s ks)=R:=⟨_,rfl⟩
 rw[hR];have xg:=zh (show ∀ W',Below W.heap.size W W'->Calls Tryz.prog 85 #[.pointer (some ⟨P.sb,0,none⟩),nv k' n s A ks.length c] W' (DoP n0 P S W R) from fun W' hb=>by
  have e:doE S (.nd k' n s ks)=R:=by rw[<-hR,<-hk'];rfl
  have:=zvZ (h.later hb) (.nd k' n s ks) (nv k' n s A ks.length c) (NV.shut hf' hlk hlc (hrow.later hb));rw[e] at this;refine this.mono ?_;rintro e W2 ⟨a1,P',a2,a3⟩;exact⟨a1,P',⟨a2.st.after hb h.rws,a2.wf⟩,a3⟩)
 have jS:=zh (fun w=>hk'▸zqE k w);obtain⟨m,hm⟩:∃ m,ks.length=m:=⟨_,rfl⟩
 rw[hm] at xg ⊢;clear h hv hR hf hf' hrow hlk hlc hm hk';go_enter Tryz.func84,Tryz.ntmps84;go_wp2_with fail;refine(jS.out _).mono ?_;rintro e w1 ⟨rfl,rfl⟩;go_wp2_with fail;refine(xg.out _ (zkc (Below.refl _ _) _)).mono ?_;rintro e w6 ⟨rfl,hh⟩;have HH:=zh hh;clear hh;go_wp2_with fail;go_ret;exact⟨rfl,HH.out⟩
def FrK (S S':ST):Prop:=S'.base=S.base/\S'.calls=S.calls/\S'.nc=S.nc
theorem zuw (S:ST) (k:Int) (id i sid:Nat):FrK S (zmE S k id i sid).2:=by
 unfold zmE
 repeat' split
 all_goals exact⟨rfl,rfl,rfl⟩
theorem zsd (S:ST) (k:Int) (id i:Nat):FrK S (zlf S k id i).2:=by
 unfold zlf
 repeat' split
 all_goals exact⟨rfl,rfl,rfl⟩
theorem zuW (S:ST) (k:Int) (s qs:ByteArray) (r2:Int) (id i:Nat):FrK S (zlC S k s qs r2 id i).2:=by
 unfold zlC
 repeat' split
 all_goals first|exact zuw _ _ _ _ _|exact zsd _ _ _ _|exact⟨rfl,rfl,rfl⟩
theorem zuX (S:ST) (k:Int) (s ps qs:ByteArray) (r1:Int) (r2:Int×Int):FrK S (zlU S k s ps qs r1 r2).2:=by
 unfold zlU
 repeat' split
 all_goals first|exact zuW _ _ _ _ _ _ _|exact⟨rfl,rfl,rfl⟩
theorem zuY (S:ST) (k:Int) (s:ByteArray) (p q:T) (r1 r2:Int×Int):FrK S (zkQ S k s p q r1 r2).2:=by
 unfold zkQ;by_cases h:r1.2≠0
 ·rw[if_pos h];exact⟨rfl,rfl,rfl⟩
 ·rw[if_neg h];exact zuX _ _ _ _ _ _ _
theorem ztd (S:ST) (t:T):FrK S (doE S t).2:=by
 unfold doE
 repeat' split
 all_goals first|exact⟨rfl,rfl,rfl⟩|skip
 obtain⟨k,n,s,ks⟩:=t;exact zuY _ _ _ _ _ _ _
theorem zue (S:ST) (t:T):FrK S (zng S t).2:=by
 obtain⟨k,n,s,ks⟩:=t;exact ztd _ _
theorem zrq {f:FR}:∀ (l:List (VD×ByteArray)) (acc g:FR),entL f acc l=.ok g->g.vs.length=acc.vs.length+l.length
 | [],acc,g,h=>by rw[entL] at h;injection h with h;subst h;simp
 | (v,a)::r,acc,g,h=>by
  rw[entL] at h
  split at h
  ·cases h
  ·split at h
   ·have:=zrq r _ _ h;simp at this ⊢;omega
   ·cases h
theorem zoA (w:World) (S:Nat->Prop) {k n:Int} {s:ByteArray} (hf:Fld k n s):NV w S (.nd k n s []) (nv k n s none 0 0):=NV.shut (ks:=[]) hf (by simp) (Nat.le_refl _) (fun i hi=>by simp at hi)
theorem zvY (W:World) (E:TypeId) {S:Nat->Prop} (hS:S W.heap.size) {t1:T} {k n k1 n1:Int} {s s1:ByteArray} {A1:Option Addr} {l1 c1:Nat} (hf:Fld k n s) (h1:NV W S t1 (nv k1 n1 s1 A1 l1 c1)) :
  NV (W.alloc (.cells #[.int .u8 k1,.int .i64 n1,.string s1,.slice A1 l1 c1] E)) S (.nd k n s [t1]) (nv k n s (some ⟨W.heap.size,0,none⟩) 1 1):=by
 refine NV.shut (ks:=[t1]) hf (by simp[LK]) (by simp) fun i hi=>?_;have hi0:i=0:=by simp at hi;exact hi
 subst hi0;have hb:=zkc (Below.refl W.heap.size W) (.cells #[.int .u8 k1,.int .i64 n1,.string s1,.slice A1 l1 c1] E);have hx:=heap_alloc_new W (.cells #[.int .u8 k1,.int .i64 n1,.string s1,.slice A1 l1 c1] E);exact⟨⟨W.heap.size,0,none⟩,_,_,_,_,rfl,hS,⟨zc hx rfl,zc hx rfl,zc hx rfl,zc hx rfl⟩,h1.later hb⟩
theorem zvX (W:World) (E:TypeId) {S:Nat->Prop} (hS:S W.heap.size) {t1 t2:T} {k n k1 n1 k2 n2:Int} {s s1 s2:ByteArray} {A1 A2:Option Addr} {l1 c1 l2 c2:Nat} (hf:Fld k n s) (h1:NV W S t1 (nv k1 n1 s1 A1 l1 c1)) (h2:NV W S t2 (nv k2 n2 s2 A2 l2 c2)) :
  NV (W.alloc (.cells #[.int .u8 k1,.int .i64 n1,.string s1,.slice A1 l1 c1,.int .u8 k2,.int .i64 n2,.string s2,.slice A2 l2 c2] E)) S (.nd k n s [t1,t2]) (nv k n s (some ⟨W.heap.size,0,none⟩) 2 2):=by
 refine NV.shut (ks:=[t1,t2]) hf (by simp[LK]) (by simp) fun i hi=>?_;have hb:=zkc (Below.refl W.heap.size W) (.cells #[.int .u8 k1,.int .i64 n1,.string s1,.slice A1 l1 c1,.int .u8 k2,.int .i64 n2,.string s2,.slice A2 l2 c2] E);have hx:=heap_alloc_new W (.cells #[.int .u8 k1,.int .i64 n1,.string s1,.slice A1 l1 c1,.int .u8 k2,.int .i64 n2,.string s2,.slice A2 l2 c2] E)
 match i,hi with
 | 0,_=>exact⟨⟨W.heap.size,0,none⟩,_,_,_,_,rfl,hS,⟨zc hx rfl,zc hx rfl,zc hx rfl,zc hx rfl⟩,h1.later hb⟩
 | 1,_=>exact⟨⟨W.heap.size,0,none⟩,_,_,_,_,rfl,hS,⟨zc hx rfl,zc hx rfl,zc hx rfl,zc hx rfl⟩,h2.later hb⟩
theorem zuq {W:World} {b:Nat} {E:TypeId} {xs:List Int} (h:W.heap[b]?=some (.cells (zke xs).toArray E (0,0))) (hx:∀ x∈xs,I64 x):RowI W Any (some ⟨b,0,none⟩) xs:=fun i hi=>by
 have ha:(⟨b,0,none⟩:Addr).add i=⟨b,i,none⟩:=by rw[Addr.add_lit,Nat.zero_add]
 refine⟨⟨b,0,none⟩,rfl,trivial,?_,hx _ (List.getElem_mem hi)⟩;rw[ha];simp only[World.cell?,h];simp[zke,hi]
theorem zup {W:World} {b:Nat} {E:TypeId} {vs:List VD} (h:W.heap[b]?=some (.cells (zk0 vs).toArray E (0,0))) (hx:∀ v∈vs,FldV v):RowV W Any (some ⟨b,0,none⟩) vs:=fun i hi=>by
 have ha:(⟨b,0,none⟩:Addr).add (i*3)=⟨b,i*3,none⟩:=by rw[Addr.add_lit,Nat.zero_add]
 obtain⟨g1,g2,g3⟩:=zom vs i hi;refine⟨⟨b,0,none⟩,rfl,trivial,?_,hx _ (List.getElem_mem hi)⟩;rw[ha];have key:∀ o u,(zk0 vs)[o]?=some u->W.cell? ⟨b,o,none⟩=some u:=fun o u ho=>by
  simp only[World.cell?,h];simpa using ho
 exact⟨key _ _ g1,key _ _ g2,key _ _ g3⟩
theorem bV2 (s:ByteArray) (k:Int) (w:World):(Instr.build 48 #[(0,.string s),(1,.int .u8 k)]).run Tryz.prog w=.ok (.agg #[.string s,.int .u8 k,.int .i64 0]) w:=by kernel_rfl
theorem bS1 (A:Option Addr) (l c:Nat) (w:World):(Instr.build 32 #[(0,.slice A l c)]).run Tryz.prog w=.ok (.agg #[.slice A l c,.slice none 0 0,.slice none 0 0]) w:=by kernel_rfl
theorem bSN1 (a0 a1 a2 a3:Value) (w:World):(Instr.buildSlice 24 1 #[(0,.agg #[a0,a1,a2,a3])]).run Tryz.prog w=.ok (.slice (some ⟨w.heap.size,0,none⟩) 1 1) (w.alloc (.cells #[a0,a1,a2,a3] 26)):=by kernel_rfl
theorem zwI {w:World} {b:Nat} {E:TypeId} {u0 u1 u2:Value} (h:w.heap[b]?=some (.cells #[u0,u1,u2] E (0,0))):w.cell? ⟨b,0,none⟩=some u0/\w.cell? ⟨b,1,none⟩=some u1/\w.cell? ⟨b,2,none⟩=some u2 :=
 ⟨zc h rfl,zc h rfl,zc h rfl⟩
theorem zq7 {W:World} {n0:Nat} {E:TypeId} {v:Value} {l:List Int} (h:W.ownsRow n0 E 1 v l.length (zke l)) (hf:∀ x∈l,I64 x):∃ A c,v=.slice A l.length c/\l.length<=c/\RowI W (fun b=>n0<=b) A l:=by
 obtain⟨A,c,e,hc,hr⟩:=zlx (xs:=l) h hf;exact⟨A,c,e,hc,hr.keep (fun b hb _=>(h.lt b hb).1) (fun _ _ _=>rfl)⟩
theorem OwnS.svR {W:World} {n0:Nat} {s:SS} {v:Value} (h:OwnS W n0 s v) (hl:s.Lim):SV W (fun b=>n0<=b) s v:=by
 obtain⟨vc,vi,vo,fc,rfl,hr,h1,h2,h3⟩:=h;obtain⟨AI,cI,e2,k2,r2⟩:=zq7 (hr.row .inp) h2;obtain⟨AO,cO,e3,k3,r3⟩:=zq7 (hr.row .out) h3;change vi=_ at e2;change vo=_ at e3;have key:∃ A c,vc=.slice A s.cells.length c/\s.cells.length<=c/\znt W (fun b=>n0<=b) A s.cells:=by
  rcases Nat.eq_zero_or_pos s.cells.length with h0|h0
  ·obtain⟨A,c,e1,hc,_⟩:=zkh (hr.row .all);exact⟨A,c,e1,hc,fun i hi=>by omega⟩
  ·obtain⟨g,c,e1,hc,_,hcell⟩:=zkZ (hr.row .all) h0;change vc=_ at e1;have hg:n0<=g:=(hr.lt .all g (by show vc.ownBlock=some g;rw[e1];rfl)).1;refine⟨_,c,e1,hc,fun i hi=>?_⟩;have bM:=hr.row (.el i);simp only[zlX,hi,if_true,List.getD_eq_getElem?_getD,List.getElem?_eq_getElem hi,Option.getD_some] at bM;obtain⟨A',c',e4,k4,r4⟩:=zq7 bM (h1 _ (List.getElem_mem hi));have ha:(⟨g,0,none⟩:Addr).add i=⟨g,i,none⟩:=by rw[Addr.add_lit,Nat.zero_add]
   refine⟨⟨g,0,none⟩,A',c',rfl,hg,?_,k4,r4⟩;rw[ha,<-e4,hcell i (by show i<s.cells.length*1;omega)];simp[zlX,hi]
 obtain⟨A,c,e1,k1,r1⟩:=key;exact⟨A,c,AI,cI,AO,cO,by rw[e1,e2,e3],r1,r2,r3,k1,k2,k3,hl⟩
theorem SR.n0le {W:World} {n0:Nat} {P:Ph} {S:ST} (h:SR W n0 P S):n0<=W.heap.size:=by have:=h.rws.lt .sb _ rfl;omega
theorem SR.own_lt {W:World} {n0:Nat} {P:Ph} {S:ST} (h:SR W n0 P S) {b:Nat} (hb:OwnB (rows P S) b):n0<=b/\b<W.heap.size:=by
 obtain⟨q,hq⟩:=hb;exact h.rws.lt q b hq
theorem SStp.frame {w W W':World} {n0:Nat} {P P':Ph} {S S':ST} (hst:SStp n0 P S W P' S' W') (hs:SR W n0 P S) (hb:Below w.heap.size w W) (hn:w.heap.size<=n0):Below w.heap.size w W' :=
 hb.trans (hst.st.chg.below (Nat.le_trans hn hs.n0le) fun _ ho=>Nat.le_trans hn (hs.own_lt ho).1)
theorem SStp.no {W W':World} {n0:Nat} {P P':Ph} {S S':ST} {b:Nat} (hst:SStp n0 P S W P' S' W') (hlt:b<W.heap.size) (hno:¬ OwnB (rows P S) b):¬ OwnB (rows P' S') b:=fun ho=>by
 rcases hst.st.own _ ho with h|h
 ·exact hno h
 ·omega
theorem zlG {P:Program} {ops:Array Oper} {o:Oper} {a:Act} {w:World} {K:Act->World->Prop} {Q:Exit->Act->World->Prop} {F:Prop} (hw:Region.wanted o (yielded ops a.tmps)=true) (x:Operand) (xs:List Operand) (ats:Array TypeId)
  (ho:o.op=.call { callee:=.value x,args:=xs.toArray,argTypes:=ats }) (f:FuncId) (fn:Func) (hf:IsFn P f fn) (hv:a.eval x=.func (.func f) #[] #[]) (l:List Value) (hargs:xs.map a.eval=l) (R:Value->World->Prop)
  (hc:Calls P f l.toArray w fun e w'=>∃ v,e=.returned v/\R v w') (h:∀ v w',R v w'->K (a.put o.dst v) w') :
  if Region.wanted o (yielded ops a.tmps)=true then Oper.wp P o a w K Q else F:=by
 rw[if_pos hw];subst hargs;have e:(execOp a.eval o).run P w=.ok (.enter f (xs.map a.eval).toArray) w:=by
  unfold execOp;simp only[ho,resolve,hv,Deferred.ofValue,Sem.run_bind,Sem.run_pure,Result.andThen_ok,invoke,zk3 hf,Array.empty_append,List.map_toArray,Array.append_empty]
 unfold Oper.wp;rw[e,Oper.upon_enter];refine hc.mono ?_;rintro e w' ⟨v,rfl,hR⟩;exact h v w' hR
structure KS (w:World) (n0 sb:Nat) (kb:Nat->Prop) (W:World) (S:ST):Prop where
 bl:Below w.heap.size w W
 hn:w.heap.size<=n0
 sr:∃ P,SR W n0 P S/\P.sb=sb/\∀ b,kb b->b<W.heap.size/\¬ OwnB (rows P S) b
structure Kpt (n0:Nat) (kb:Nat->Prop) (W W':World):Prop where
 size:W.heap.size<=W'.heap.size
 kept:∀ b,b<W.heap.size->(b<n0\/kb b)->W'.heap[b]?=W.heap[b]?
section
variable {w W W' W'':World} {n0 sb:Nat} {kb kb':Nat->Prop} {S S':ST}
theorem Kpt.refl (n0:Nat) (kb:Nat->Prop) (W:World):Kpt n0 kb W W:=⟨Nat.le_refl _,fun _ _ _=>rfl⟩
theorem Kpt.trans (h:Kpt n0 kb W W') (h':Kpt n0 kb W' W''):Kpt n0 kb W W'':=⟨Nat.le_trans h.size h'.size,fun b hb hk=>(h'.kept b (Nat.lt_of_lt_of_le hb h.size) hk).trans (h.kept b hb hk)⟩
theorem Kpt.of_below (h:Below W.heap.size W W'):Kpt n0 kb W W':=⟨h.size,fun b hb _=>h.block b hb⟩
theorem Kpt.cell {b o:Nat} {u:Value} (h:Kpt n0 kb W W') (hk:b<n0\/kb b) (hc:W.cell? ⟨b,o,none⟩=some u):W'.cell? ⟨b,o,none⟩=some u :=
 zks hc (h.kept b (World.block_lt_of_cell? W _ hc) hk)
theorem Kpt.blk {b:Nat} {o:Obj} (h:Kpt n0 kb W W') (hk:b<n0\/kb b) (hc:W.heap[b]?=some o):W'.heap[b]?=some o:=(h.kept b (zku hc) hk).trans hc
theorem KS.wf (h:KS w n0 sb kb W S):S.WF:=by obtain⟨P,hs,_⟩:=h.sr;exact hs.wf
theorem KS.later (h:KS w n0 sb kb W S) (hb:Below W.heap.size W W'):KS w n0 sb kb W' S:=by
 obtain⟨P,hs,e,hk⟩:=h.sr;exact⟨zka h.bl hb,h.hn,P,hs.later hb,e,fun b hb'=>⟨Nat.lt_of_lt_of_le (hk b hb').1 hb.size,(hk b hb').2⟩⟩
theorem KS.also (h:KS w n0 sb kb W S) (hb:Below W.heap.size W W') (hkb:∀ b,kb' b->kb b\/(W.heap.size<=b/\b<W'.heap.size)):KS w n0 sb kb' W' S:=by
 obtain⟨P,hs,e,hk⟩:=h.sr;refine⟨zka h.bl hb,h.hn,P,hs.later hb,e,fun b hb'=>?_⟩;rcases hkb b hb' with h1|⟨h1,h2⟩
 ·exact⟨Nat.lt_of_lt_of_le (hk b h1).1 hb.size,(hk b h1).2⟩
 ·exact⟨h2,fun ho=>by have:=(hs.own_lt ho).2;omega⟩
theorem KS.less (h:KS w n0 sb kb W S) (hkb:∀ b,kb' b->kb b):KS w n0 sb kb' W S:=h.also (Below.refl _ _) fun b hb=>.inl (hkb b hb)
theorem KS.new {P:Ph} {vs:List VD} {s:SS} {W0:World} (h0:Below w.heap.size w W0) (hb:Below W0.heap.size W0 W) (hs:SR W W0.heap.size P (newS vs s)):KS w W0.heap.size P.sb (fun _=>False) W (newS vs s) :=
 ⟨zka h0 hb,h0.size,P,hs,rfl,fun _ h=>h.elim⟩
def KP (w:World) (n0 sb:Nat) (kb:Nat->Prop) (W:World) (R:Int×ST) (e:Ending) (W':World):Prop:=e=.returned (.int .i64 R.1)/\KS w n0 sb kb W' R.2/\Kpt n0 kb W W'
theorem KS.stp {P P':Ph} (hbl:Below w.heap.size w W) (hn0:w.heap.size<=n0) (hs:SR W n0 P S) (hk:∀ b,kb b->b<W.heap.size/\¬ OwnB (rows P S) b) (hst:SStp n0 P S W P' S' W') (hsb:P'.sb=sb):KS w n0 sb kb W' S'/\Kpt n0 kb W W':=by
 refine⟨⟨hst.frame hs hbl hn0,hn0,P',hst.sr,hsb,fun b hb=>⟨Nat.lt_of_lt_of_le (hk b hb).1 hst.st.chg.size,hst.no (hk b hb).1 (hk b hb).2⟩⟩,hst.st.chg.size,fun b hlt hb=>hst.st.chg.block b hlt fun ho=>?_⟩;rcases hb with hb|hb
 ·have:=(hs.own_lt ho).1;omega
 ·exact(hk b hb).2 ho
theorem KS.dop (h:KS w n0 sb kb W S) {f:FuncId} {args:Array Value} {R:Int×ST} (hc:∀ P,SR W n0 P S->P.sb=sb->Calls Tryz.prog f args W (DoP n0 P S W R)):Calls Tryz.prog f args W (KP w n0 sb kb W R):=by
 obtain⟨P,hs,e,hk⟩:=h.sr;refine(hc P hs e).mono ?_;rintro e' W2 ⟨a1,P',a2,a3⟩;exact⟨a1,KS.stp h.bl h.hn hs hk a2 (a3.trans e)⟩
theorem KS.do_ (h:KS w n0 sb kb W S) (t:T) (v:Value) (hv:NV W Any t v):Calls Tryz.prog 85 #[.pointer (some ⟨sb,0,none⟩),v] W (KP w n0 sb kb W (doE S t)) :=
 h.dop fun _ hs e=>e▸zvZ hs t v hv
theorem KS.undo (h:KS w n0 sb kb W S) (t:T) (v:Value) (hv:NV W Any t v):Calls Tryz.prog 84 #[.pointer (some ⟨sb,0,none⟩),v] W (KP w n0 sb kb W (zng S t)) :=
 h.dop fun _ hs e=>e▸zvh hs t v hv
theorem KS.open_ (h:KS w n0 sb kb W S) (v:VD) (oO:FldV v) (x:Int) (hx:I64 x) (hlim:S.cur.vs.length+1<=4398046511000):Calls Tryz.prog 81 #[.pointer (some ⟨sb,0,none⟩),.agg #[.string v.s,.int .u8 v.k,.int .i64 v.n],.int .i64 x] W (KP w n0 sb kb W (zli S v x)) :=
 h.dop fun _ hs e=>e▸zvq hs v oO x hx hlim
theorem KS.close (h:KS w n0 sb kb W S) (s:ByteArray) (x:Int):Calls Tryz.prog 82 #[.pointer (some ⟨sb,0,none⟩),.string s,.int .i64 x] W (KP w n0 sb kb W (zkL S s x)) :=
 h.dop fun _ hs e=>e▸zt5 hs s x
theorem KS.enter (h:KS w n0 sb kb W S) (ps:List VD) (ss:List ByteArray) (A D:Option Addr) (c d:Nat) (hp:RowV W Any A ps) (hs:RowS W D ss) (hlp:ps.length<=4398046511000) (hls:ss.length<=17592186044416):Calls Tryz.prog 111 #[.pointer (some ⟨sb,0,none⟩),.slice A ps.length c,.slice D ss.length d] W (KP w n0 sb kb W (zlh S ps ss)) :=
 h.dop fun _ hs' e=>e▸zt4 hs' ps ss A D c d hp hs hlp hls
theorem KS.leave (h:KS w n0 sb kb W S):Calls Tryz.prog 112 #[.pointer (some ⟨sb,0,none⟩)] W (KP w n0 sb kb W (zlt S)) :=
 h.dop fun _ hs e=>e▸ztK hs
theorem KS.cell (h:KS w n0 sb kb W S) (s:ByteArray):Calls Tryz.prog 125 #[.pointer (some ⟨sb,0,none⟩),.string s] W (zxH W S s):=by
 obtain⟨P,hs,rfl,-⟩:=h.sr;exact ztx hs s
theorem KS.state (h:KS w n0 sb kb W S):Calls Tryz.prog 30 #[.pointer (some ⟨sb,0,none⟩)] W fun e W'=>∃ v,e=.returned v/\OwnS W' W.heap.size S.state v/\Below W.heap.size W W':=by
 obtain⟨P,hs,rfl,-⟩:=h.sr;exact ztw hs
end
theorem KS.chg {w W W':World} {n0 sb:Nat} {kb C:Nat->Prop} {S:ST} (h:KS w n0 sb kb W S) (hc:Chg C W W') (hC:∀ b,b<W.heap.size->C b->w.heap.size<=b/\(b<n0\/kb b)):KS w n0 sb kb W' S:=by
 obtain⟨P,hs,e,hk⟩:=h.sr;have hno:∀ b,OwnB (rows P S) b->¬ C b:=fun b ho hcb=>by
  obtain⟨-,h2⟩:=hC b (hs.own_lt ho).2 hcb;rcases h2 with h2|h2
  ·have:=(hs.own_lt ho).1;omega
  ·exact(hk b h2).2 ho
 refine⟨?_,h.hn,P,⟨hs.rws.chg hc fun i b hb=>hno b ⟨i,hb⟩,hs.wf⟩,e,fun b hb=>⟨Nat.lt_of_lt_of_le (hk b hb).1 hc.size,(hk b hb).2⟩⟩;exact⟨hc.os.trans h.bl.os,hc.tape.trans h.bl.tape,hc.output.trans h.bl.output,Nat.le_trans h.bl.size hc.size,fun b hb=>by
  rw[hc.block b (Nat.lt_of_lt_of_le hb h.bl.size) fun hcb=>by have:=(hC b (Nat.lt_of_lt_of_le hb h.bl.size) hcb).1;omega];exact h.bl.block b hb⟩
theorem SS.Sm.lim {s:SS} (h:s.Sm):s.Lim:=by
 obtain⟨h1,h2,h3,h4⟩:=h;unfold SS.Lim LI;exact⟨by omega,fun l hl=>by have:=h2 l hl;omega,by omega,by omega⟩
structure RS where
 S:ST
 n:Nat
 ent:List Nat
inductive Out where
 | gas
 | err (e:Int)
 | ok (r:RS)
def Out.bind:Out->(RS->Out)->Out
 | .ok r,f=>f r
 | .err e,_=>.err e
 | .gas,_=>.gas
def zkq (F:Int) (r:RS):Out:=if F<=r.n then .err 18 else .ok { r with n:=r.n+1 }
def zki (r:RS) (R:Int×ST):Out:=if R.1≠0 then .err R.1 else .ok { r with S:=R.2 }
def valO (t:T) (r:RS) (f:Int->RS->Out):Out:=if (zlb r.S.look t).2≠0 then .err (zlb r.S.look t).2 else f (zlb r.S.look t).1 r
def zkG (F:Int) (t:T) (r:RS) (f:Bool->RS->Out):Out:=(zkq F r).bind fun r=>valO t r fun x r=>f (decide (x≠0)) r
def zkx (F:Int) (t:T) (b:Bool) (r:RS):Out:=zkG F t r fun b' r=>if b'=b then .ok r else .err 15
def zk9 (f:T->RS->Out):List T->RS->Out
 | [],r=>.ok r
 | t::ts,r=>(f t r).bind (zk9 f ts)
def blkL (back:Bool) (b:T):List T:=if back=true then b.ks.reverse else b.ks
def zml (F:Int) (f:T->RS->Out) (entry test:T) (l1 l2:List T):Nat->RS->Out
 | 0,_=>.gas
 | m+1,r=>(zk9 f l1 r).bind fun r=>zkG F test r fun b r=>if b=true then .ok r else (zk9 f l2 r).bind fun r=>(zkx F entry false r).bind (zml F f entry test l1 l2 m)
def prcI:List PR->ByteArray->Option Nat
 | [],_=>none
 | q::qs,s=>if (q.s.toList==s.toList)=true then some 0 else (prcI qs s).map (· + 1)
def kid (t:T) (i:Nat):T:=t.ks.getD i nil0
def fstT (back:Bool) (t:T):T:=if back=true then kid t (t.ks.length-1) else kid t 0
def lstT (back:Bool) (t:T):T:=if back=true then kid t 0 else kid t (t.ks.length-1)
def zkr (prs:List PR) (F:Int):Nat->Bool->T->RS->Out
 | 0,_,_,_=>.gas
 | g+1,back,t,r =>
  if t.k=52 then
   zkG F (fstT back t) r fun yes r=>(zk9 (zkr prs F g back) (blkL back (if yes=true then kid t 1 else kid t 2)) r).bind (zkx F (lstT back t) yes)
  else if t.k=53 then
   (zkx F (fstT back t) true r).bind (zml F (zkr prs F g back) (fstT back t) (lstT back t) (blkL back (kid t 1)) (blkL back (kid t 2)) g)
  else if t.k=54 then
   (zkq F r).bind fun r=>valO (fstT back t) r fun x r=>(zki r (zli r.S ⟨t.s,1,0⟩ x)).bind fun r=>(zk9 (zkr prs F g back) (blkL back (kid t 1)) r).bind fun r =>
    (zkq F r).bind fun r=>valO (lstT back t) r fun x r=>zki r (zkL r.S t.s x)
  else if t.k=55 then
   (zkq F r).bind fun r=>(zki r (zli r.S ⟨t.s,3,0⟩ 0)).bind fun r=>(zk9 (zkr prs F g back) (blkL back (kid t 0)) r).bind fun r =>
    (zkq F r).bind fun r=>zki r (zkL r.S t.s 0)
  else if t.k=50\/t.k=51 then
   match prcI prs t.s with
   | none=>.err 0
   | some i=>(zkq F r).bind fun r=>(zki r (zlh r.S (prs.getD i ⟨⟨#[]⟩,[],nil0⟩).ps (t.ks.map (·.s)))).bind fun r =>
     (zk9 (zkr prs F g (back != decide (t.k=51))) (blkL (back != decide (t.k=51)) (prs.getD i ⟨⟨#[]⟩,[],nil0⟩).b) { r with ent:=r.ent.set i (r.ent.getD i 0+1) }).bind fun r =>
      (zkq F r).bind fun r=>zki r (zlt r.S)
  else (zkq F r).bind fun r=>zki r (if back=true then zng r.S t else doE r.S t)
def runO (prs:List PR) (F:Int) (g:Nat) (back:Bool) (b:T) (r:RS):Out:=zk9 (zkr prs F g back) (blkL back b) r
def Good (n:Nat) (o:Out):Prop:=o ≠ .gas/\∀ r,o=.ok r->n<=r.n
theorem Good.err (n:Nat) (e:Int):Good n (.err e):=⟨by simp,by simp⟩
theorem Good.ok {n:Nat} {r:RS} (h:n<=r.n):Good n (.ok r):=⟨by simp,fun r' e=>by injection e with e;subst e;exact h⟩
theorem Good.mono {m n:Nat} {o:Out} (h:Good n o) (hm:m<=n):Good m o:=⟨h.1,fun r e=>Nat.le_trans hm (h.2 r e)⟩
theorem Good.bind {m n:Nat} {o:Out} {f:RS->Out} (h:Good n o) (xJ:m<=n) (hf:∀ r,n<=r.n->o=.ok r->Good m (f r)):Good m (o.bind f):=by
 cases o with
 | gas=>exact absurd rfl h.1
 | err e=>exact Good.err _ _
 | ok r=>exact hf r (h.2 r rfl) rfl
theorem zkY {F:Int} {r r':RS} (h:zkq F r=.ok r'):r'={ r with n:=r.n+1 }/\(r.n:Int)<F:=by
 unfold zkq at h
 split at h
 ·cases h
 ·injection h with h;exact⟨h.symm,by omega⟩
theorem zky (F:Int) (r:RS):Good (r.n+1) (zkq F r):=by
 unfold zkq
 split
 ·exact Good.err _ _
 ·exact Good.ok (Nat.le_refl _)
theorem zkH (r:RS) (R:Int×ST):Good r.n (zki r R):=by
 unfold zki
 split
 ·exact Good.err _ _
 ·exact Good.ok (Nat.le_refl _)
theorem zn5 {m:Nat} {t:T} {r:RS} {f:Int->RS->Out} (hf:∀ x,Good m (f x r)):Good m (valO t r f):=by
 unfold valO
 split
 ·exact Good.err _ _
 ·exact hf _
theorem znc {m:Nat} {F:Int} {t:T} {r:RS} {f:Bool->RS->Out} (hm:m<=r.n+1) (hf:∀ b,(r.n:Int)<F->Good m (f b { r with n:=r.n+1 })):Good m (zkG F t r f):=by
 unfold zkG;refine(zky F r).bind hm fun r' _ e=>?_;obtain⟨rfl,h⟩:=zkY e;exact zn5 fun x=>hf _ h
theorem zlA (F:Int) (t:T) (b:Bool) (r:RS):Good (r.n+1) (zkx F t b r):=by
 unfold zkx;refine znc (Nat.le_refl _) fun b' _=>?_
 split
 ·exact Good.ok (Nat.le_refl _)
 ·exact Good.err _ _
theorem znI {F:Int} {t:T} {b:Bool} {r r':RS} (h:zkx F t b r=.ok r'):r'={ r with n:=r.n+1 }/\(r.n:Int)<F:=by
 unfold zkx zkG at h
 cases hs:zkq F r with
 | gas=>rw[hs] at h;cases h
 | err e=>rw[hs] at h;cases h
 | ok r1 =>
  rw[hs] at h;obtain⟨rfl,hl⟩:=zkY hs;simp only[Out.bind,valO] at h
  split at h
  ·cases h
  ·split at h
   ·injection h with h;exact⟨h.symm,hl⟩
   ·cases h
theorem zl5 {f:T->RS->Out}:∀ (l:List T) (r:RS),(∀ t∈l,∀ r',r.n<=r'.n->Good r'.n (f t r'))->Good r.n (zk9 f l r)
 | [],r,_=>Good.ok (Nat.le_refl _)
 | t::ts,r,h=>by
  rw[zk9];refine(h t (List.mem_cons_self ..) r (Nat.le_refl _)).bind (Nat.le_refl _) fun r1 h1 _=>?_;exact(zl5 ts r1 fun u hu r' hr'=>h u (List.mem_cons_of_mem _ hu) r' (Nat.le_trans h1 hr')).mono h1
theorem zoP {F:Int} {f:T->RS->Out} {entry test:T} {l1 l2:List T}:∀ (m:Nat) (r:RS),F.toNat-r.n<m->(∀ t∈l1,∀ r',r.n<=r'.n->Good r'.n (f t r'))->(∀ t∈l2,∀ r',r.n<=r'.n->Good r'.n (f t r'))->Good r.n (zml F f entry test l1 l2 m r)
 | 0,_,h,_,_=>by omega
 | m+1,r,h,h1,h2=>by
  rw[zml];refine(zl5 l1 r h1).bind (Nat.le_refl _) fun r1 hr1 _=>?_;refine znc (by omega) fun b hF=>?_
  split
  ·exact Good.ok (by simp only;omega)
  ·refine(zl5 l2 { r1 with n:=r1.n+1 } fun t ht r' hr'=>h2 t ht r' (by simp only at hr';omega)).bind (by simp only;omega) fun r2 hr2 _=>?_;refine(zlA F entry false r2).bind (by simp only at hr2;omega) fun r3 hr3 e=>?_;obtain⟨rfl,hF2⟩:=znI e;refine(zoP m _ ?_ (fun t ht r' hr'=>h1 t ht r' ?_) (fun t ht r' hr'=>h2 t ht r' ?_)).mono ?_
   all_goals (simp only at *;omega)
theorem zmw:∀ {ts:List T} {u:T},u∈ts->size u<=zld ts
 | t::ts,u,h=>by
  rw[zld];rcases List.mem_cons.1 h with rfl|h
  ·omega
  ·have:=zmw h;omega
theorem zuC {t:T} {i:Nat} (h:i<t.ks.length):size (kid t i)<size t:=by
 obtain⟨k,n,s,ks⟩:=t;have h':i<ks.length:=h;have:kid (.nd k n s ks) i=ks[i]:=by simp[kid,h']
 rw[this,size];have:=zmw (List.getElem_mem h');omega
theorem zpk {t u:T} (h:u∈t.ks):size u<size t:=by
 obtain⟨k,n,s,ks⟩:=t;rw[size];have:=zmw (ts:=ks) h;omega
theorem zls {back:Bool} {b u:T} (h:u∈blkL back b):u∈b.ks:=by
 unfold blkL at h
 split at h
 ·simpa using h
 ·exact h
theorem zsH (t:T) (i:Nat):∀ u∈(kid t i).ks,size u+1<size t:=by
 intro u hu;by_cases h:i<t.ks.length
 ·have:=zuC h;have:=zpk hu;omega
 ·have:kid t i=nil0:=by
   unfold kid;rw[List.getD_eq_getElem?_getD,List.getElem?_eq_none (by omega)];rfl
  rw[this] at hu;simp[nil0] at hu
theorem zmr {prs:List PR} {F:Int} {M:Nat} (hM:∀ q∈prs,size q.b<=M) (hM1:1<=M):∀ (g:Nat) (back:Bool) (t:T) (r:RS),(F.toNat-r.n)*M+size t<=g->Good r.n (zkr prs F g back t r)
 | 0,_,t,r,h=>by
  have:0<size t:=by obtain⟨k,n,s,ks⟩:=t;rw[size];omega
  omega
 | g+1,back,t,r,h=>by
  have hmul:∀ a b:Nat,a<=b->a*M<=b*M:=fun a b h=>Nat.mul_le_mul_right _ h;have hone:F.toNat-r.n<=(F.toNat-r.n)*M:=Nat.le_mul_of_pos_right _ hM1;have hb:∀ (back:Bool) i r1,r.n<=r1.n->Good r1.n (zk9 (zkr prs F g back) (blkL back (kid t i)) r1):=fun back i r1 h1 =>
   zl5 _ _ fun u hu r2 h2=>zmr hM hM1 g back u r2 (by
    have:=zsH t i u (zls hu);have:=hmul (F.toNat-r2.n) (F.toNat-r.n) (by omega);omega)
  rw[zkr]
  split
  ·refine znc (by omega) fun yes hF=>?_;have:Good (r.n+1) (zk9 (zkr prs F g back) (blkL back (if yes=true then kid t 1 else kid t 2)) { r with n:=r.n+1 }):=by
    split
    ·exact hb back 1 _ (by simp only;omega)
    ·exact hb back 2 _ (by simp only;omega)
   exact this.bind (by omega) fun r1 h1 _=>(zlA _ _ _ _).mono (by omega)
  ·split
   ·refine(zlA _ _ _ _).bind (by omega) fun r1 h1 e=>?_;obtain⟨rfl,hF⟩:=znI e;have hs:0<size t:=by obtain⟨k,n,s,ks⟩:=t;rw[size];omega
    refine(zoP g _ (by simp only;omega) (fun u hu r' hr'=>?_) (fun u hu r' hr'=>?_)).mono (by simp only;omega)
    ·have:=zsH t 1 u (zls hu);have:=hmul (F.toNat-r'.n) (F.toNat-r.n) (by simp only at hr';omega);exact zmr hM hM1 g back u r' (by omega)
    ·have:=zsH t 2 u (zls hu);have:=hmul (F.toNat-r'.n) (F.toNat-r.n) (by simp only at hr';omega);exact zmr hM hM1 g back u r' (by omega)
   ·split
    ·refine(zky F r).bind (by omega) fun r1 h1 _=>zn5 fun x=>?_;refine(zkH r1 _).bind (by omega) fun r2 h2 _=>?_;refine(hb back 1 r2 (by omega)).bind (by omega) fun r3 h3 _=>?_;refine(zky F r3).bind (by omega) fun r4 h4 _=>zn5 fun x=>?_;exact(zkH r4 _).mono (by omega)
    ·split
     ·refine(zky F r).bind (by omega) fun r1 h1 _=>?_;refine(zkH r1 _).bind (by omega) fun r2 h2 _=>?_;refine(hb back 0 r2 (by omega)).bind (by omega) fun r3 h3 _=>?_;refine(zky F r3).bind (by omega) fun r4 h4 _=>?_;exact(zkH r4 _).mono (by omega)
     ·split
      ·split
       ·exact Good.err _ _
       ·rename_i i hi;refine(zky F r).bind (by omega) fun r1 h1 e1=>?_;obtain⟨rfl,hF⟩:=zkY e1;refine(zkH _ _).bind (by simp only;omega) fun r2 h2 _=>?_;have hbody:Good r2.n (zk9 (zkr prs F g (back != decide (t.k=51))) (blkL (back != decide (t.k=51)) (prs.getD i ⟨⟨#[]⟩,[],nil0⟩).b) { r2 with ent:=r2.ent.set i (r2.ent.getD i 0+1) }):=by
         refine zl5 _ _ fun u hu r3 h3=>zmr hM hM1 g _ u r3 ?_;have hu':=zls hu;by_cases hi:i<prs.length
         ·have hq:prs.getD i ⟨⟨#[]⟩,[],nil0⟩=prs[i]:=by simp[hi]
          rw[hq] at hu';have hl:=zpk hu';have hMq:=hM _ (List.getElem_mem hi);have hsub:F.toNat-r3.n+1<=F.toNat-r.n:=by simp only at h2 h3;omega
          have:=hmul _ _ hsub;rw[Nat.add_mul,Nat.one_mul] at this;omega
         ·have hq:prs.getD i ⟨⟨#[]⟩,[],nil0⟩=⟨⟨#[]⟩,[],nil0⟩:=by
           rw[List.getD_eq_getElem?_getD,List.getElem?_eq_none (by omega)];rfl
          rw[hq] at hu';simp[nil0] at hu'
        refine hbody.bind (by simp only at h2;omega) fun r3 h3 _=>?_;refine(zky F r3).bind (by simp only at h2;omega) fun r4 h4 _=>?_;exact(zkH r4 _).mono (by simp only at h2;omega)
      ·refine(zky F r).bind (by omega) fun r1 h1 _=>?_;exact(zkH r1 _).mono (by omega)
abbrev zlT (x:Int):Ending:=.panicked [{ v:=.iface 112 (.agg #[.int .i64 x]),recovered:=false }]
theorem zpB (x:Int) (hx:x≠0) (w:World):Calls Tryz.prog 108 #[.int .i64 x] w fun e w'=>e=zlT x/\w'=w:=by
 have e1:(x==0)=false:=by simpa using hx
 have hb:∀ w,(Instr.build 112 #[(0,.int .i64 x)]).run Tryz.prog w=.ok (.agg #[.int .i64 x]) w:=fun w=>by kernel_rfl
 go_enter Tryz.func108,Tryz.ntmps108;go_wp2_with fail;exact⟨rfl,rfl,rfl⟩
theorem zm7 {W W':World} {base:Nat} {E:TypeId} {size:Nat} {v:Value} {n:Nat} {xs:List Value} (h:W.ownsRow base E size v n xs) (hk:∀ b,v.ownBlock=some b->W'.heap[b]?=W.heap[b]?):W'.ownsRow base E size v n xs:=by
 obtain⟨e1,h2⟩:=h;refine⟨e1,?_⟩;rcases h2 with h2|⟨g,cap,cur,rfl,hb,hg,rest⟩
 ·exact .inl h2
 ·exact .inr ⟨g,cap,cur,rfl,hb,(hk g rfl).trans hg,rest⟩
structure RC where
 w:World
 n0:Nat
 sb:Nat
 rb:Nat
 p:PG
 A1:Option Addr
 c1:Nat
 A2:Option Addr
 c2:Nat
 A3:Option Addr
 c3:Nat
 F:Int
 ev:Value
 kb:Nat->Prop
structure RC.Ok (C:RC):Prop where
 pg:PgR C.w Any C.p C.A1 C.c1 C.A2 C.c2 C.A3 C.c3
 F:I64 C.F
 F6:C.F<=1000000
 rb:C.n0<=C.rb/\¬ C.kb C.rb
 ev:C.ev.ownBlock≠some C.rb/\∀ b,C.ev.ownBlock=some b->¬ C.kb b
 ps:∀ q∈C.p.prs,q.ps.length<=1000
def RC.cells (C:RC) (n:Nat):Array Value := #[.slice C.A1 C.p.vs.length C.c1,.slice C.A2 C.p.prs.length C.c2,.int .u8 C.p.m.k,.int .i64 C.p.m.n,.string C.p.m.s,.slice C.A3 C.p.m.ks.length C.c3,.pointer (some ⟨C.sb,0,none⟩),.int .i64 n,.int .i64 C.F,C.ev]
def FB (j:Nat) (S:ST):Prop:=S.base.vs.length<=1000+j/\∀ f∈S.calls,f.vs.length<=1000+j
structure RI (C:RC) (W:World) (r:RS):Prop where
 ks:KS C.w C.n0 C.sb (fun b=>C.kb b\/b=C.rb\/C.ev.ownBlock=some b) W r.S
 box:W.heap[C.rb]?=some (.cells (C.cells r.n) 67 (0,0))
 ent:W.ownsRow C.n0 3 1 C.ev r.ent.length (zke (r.ent.map Int.ofNat))
 el:r.ent.length=C.p.prs.length
 en:∀ c∈r.ent,c<=r.n
 n:(r.n:Int)<=1000000
 fb:FB r.n r.S
section
variable {C:RC} {W W' W'':World} {r r':RS}
theorem RI.below (h:RI C W r):Below C.w.heap.size C.w W:=h.ks.bl
theorem RI.later (h:RI C W r) (hb:Below W.heap.size W W'):RI C W' r:=⟨h.ks.later hb,zkf h.box hb,zkJ h.ent hb,h.el,h.en,h.n,h.fb⟩
def RunP (C:RC) (W:World) (o:Out) (e:Ending) (W':World):Prop :=
 Kpt C.n0 C.kb W W'/\Below C.w.heap.size C.w W'/\match o with
 | .gas=>True
 | .err x=>e=zlT x
 | .ok r=>(∃ u,e=.returned u)/\RI C W' r
theorem RI.cells (h:RI C W r):W.cell? ⟨C.rb,6,none⟩=some (.pointer (some ⟨C.sb,0,none⟩))/\W.cell? ⟨C.rb,7,none⟩=some (.int .i64 r.n)/\W.cell? ⟨C.rb,8,none⟩=some (.int .i64 C.F)/\W.cell? ⟨C.rb,9,none⟩=some C.ev/\∀ o,W.frozen? ⟨C.rb,o,none⟩=false :=
 ⟨zc h.box rfl,zc h.box rfl,zc h.box rfl,zc h.box rfl,fun _=>zf h.box⟩
theorem FB.mono {j k:Nat} {S:ST} (h:FB j S) (hk:j<=k):FB k S:=⟨by have:=h.1;omega,fun f hf=>by have:=h.2 f hf;omega⟩
theorem Kpt.chg {n0:Nat} {kb Cc:Nat->Prop} (h:Chg Cc W W') (hC:∀ b,Cc b->n0<=b/\¬ kb b):Kpt n0 kb W W' :=
 ⟨h.size,fun b hb hk=>h.block b hb fun hc=>by rcases hk with hk|hk;have:=(hC b hc).1;omega;exact(hC b hc).2 hk⟩
theorem RI.tick (hC:C.Ok) (h:RI C W r) (hF:(r.n:Int)<C.F):RI C (W.setCell ⟨C.rb,7,none⟩ (.int .i64 ((r.n:Int)+1))) { r with n:=r.n+1 }/\Kpt C.n0 C.kb W (W.setCell ⟨C.rb,7,none⟩ (.int .i64 ((r.n:Int)+1))):=by
 have hch:Chg (fun b=>b=C.rb) W (W.setCell ⟨C.rb,7,none⟩ (.int .i64 ((r.n:Int)+1))):=(Chg.refl (fun b=>b=C.rb) W).setCell (p:=⟨C.rb,7,none⟩) (.inl rfl) _;have hn:=h.ks.hn;refine⟨⟨h.ks.chg hch fun b _ e=>⟨by have:=hC.rb.1;omega,.inr (.inr (.inl e))⟩,?_,zm7 h.ent fun b hb=>?_,h.el,fun c hc=>by have:=h.en c hc;simp only;omega,by have:=hC.F6;simp only;omega,h.fb.mono (Nat.le_succ _)⟩,Kpt.chg hch fun b e=>⟨by have:=hC.rb.1;omega,by rw[e];exact hC.rb.2⟩⟩
 ·have:=heap_setCell_same W C.rb 7 _ _ (.int .i64 ((r.n:Int)+1)) h.box;rw[this];simp[RC.cells]
 ·have hne:b≠C.rb:=fun e=>hC.ev.1 (by rw[hb,e]);have hlt:=(h.ent.lt b hb).2;exact hch.block b hlt hne
end
theorem zme {C:RC} (hC:C.Ok) {W:World} {r:RS} (h:RI C W r):Calls Tryz.prog 79 #[.pointer (some ⟨C.rb,0,none⟩)] W (RunP C W (zkq C.F r)):=by
 obtain⟨-,y7,y8,-,yf⟩:=h.cells;have sF:=h.n;obtain⟨rb,hrb⟩:∃ b,C.rb=b:=⟨_,rfl⟩
 obtain⟨F,hF⟩:∃ b,C.F=b:=⟨_,rfl⟩
 obtain⟨n,hn⟩:∃ b,r.n=b:=⟨_,rfl⟩
 have HS:=zh (show(fun w':World=>w'.cell? ⟨rb,7,none⟩=some (.int .i64 n)/\w'.cell? ⟨rb,8,none⟩=some (.int .i64 F)) W.drew from ⟨by rw[<-hrb,<-hn];exact y7,by rw[<-hrb,<-hF];exact y8⟩);have hd:Below W.heap.size W W.drew:=(Below.refl _ _).drew;have HK:=zh (show Kpt C.n0 C.kb W W.drew/\Below C.w.heap.size C.w W.drew from ⟨Kpt.of_below hd,zka h.below hd⟩);have HT:=zh (fun hlt=>RI.tick hC h hlt);have iA:=zh h.below;have yf':∀ o,W.drew.frozen? ⟨rb,o,none⟩=false:=by rw[<-hrb];exact yf
 rw[hrb] at HT;rw[hn] at HT sF;rw[hF] at HT;by_cases hlt:F<=(n:Int)
 ·have HO:=zh (show zkq C.F r=.err 18 by unfold zkq;rw[if_pos (by rw[hF,hn];exact hlt)]);rw[hrb];clear h y7 y8 yf hrb hF hn HT;go_enter Tryz.func79,Tryz.ntmps79;go_upto_region 0 with fail
  go_region_held3 (fun w':World=>w'.cell? ⟨rb,7,none⟩=some (.int .i64 n)/\w'.cell? ⟨rb,8,none⟩=some (.int .i64 F))
   (with_reducible exact HS.out)
   (first|fail)
  go_wp2_with fail;refine(zpB 18 (by decide) _).mono ?_;rintro e w1 ⟨rfl,rfl⟩;refine⟨rfl,?_⟩;rw[HO.out];exact⟨HK.out.1,HK.out.2,rfl⟩
 ·have hw1:IntKind.i64.wrap ((n:Int)+1)=(n:Int)+1:=IntWalk.i64_in _ (by omega);have HO:=zh (show zkq C.F r=.ok { r with n:=n+1 } by unfold zkq;rw[if_neg (by rw[hF,hn];exact hlt),hn]);have HT2:=zh (HT.out (by omega));rw[hrb];have hlt':¬ F<=(n:Int):=hlt;clear h y7 y8 yf hrb hF hn HT;go_enter Tryz.func79,Tryz.ntmps79;go_upto_region 0 with fail
  go_region_held3 (fun w':World=>w'.cell? ⟨rb,7,none⟩=some (.int .i64 n)/\w'.cell? ⟨rb,8,none⟩=some (.int .i64 F))
   (with_reducible exact HS.out)
   (first|fail)
  obtain⟨z7,z8⟩:=HS.out;go_wp2_with fail;go_end0;rw[HO.out];have hd2:∀ W:World,Below W.heap.size W W.drew:=fun W=>(Below.refl _ _).drew;exact⟨HT2.out.2.trans (Kpt.of_below (hd2 _)),(HT2.out.1.later (hd2 _)).below,⟨_,rfl⟩,HT2.out.1.later (hd2 _)⟩
theorem zlu (p:Addr) (x:Int) (w:World):Calls Tryz.prog 80 #[.pointer (some p),.int .i64 x] w fun e w'=>w'=w/\((x=0/\∃ u,e=.returned u)\/(x≠0/\e=zlT x)):=by
 by_cases hx:x=0
 ·subst hx;go_enter Tryz.func80,Tryz.ntmps80;go_wp2_with fail;go_end0;exact⟨rfl,.inl ⟨trivial,_,rfl⟩⟩
 ·have e1:(x != 0)=true:=by simpa using hx
  go_enter Tryz.func80,Tryz.ntmps80;go_wp2_with fail;refine(zpB x hx _).mono ?_;rintro e w1 ⟨rfl,rfl⟩;exact⟨rfl,rfl,.inr ⟨hx,rfl⟩⟩
theorem zuK:IsFn Tryz.prog 125 Tryz.f125:=⟨Tryz.func125,by kernel_rfl,by kernel_rfl⟩
theorem zxu (w:World) (n0 sb:Nat) (kb:Nat->Prop) (S:ST) (hw:S.WF):zqS 125 Tryz.f125 (.pointer (some ⟨sb,0,none⟩)) (fun W=>KS w n0 sb kb W S) S.look where
 isFn:=zuK
 later:=fun _ _ h hb=>h.later hb
 fits:=(zsz 0 ⟨0,0,undef,undef,undef,undef,undef,fun _=>undef,fun _=>undef,fun _=>0,fun _=>undef⟩ S hw).fits
 call:=fun s W h=>by
  refine(h.cell s).mono ?_;rintro e W' ⟨v,l,b,rfl,hlk,hl0,ho,hf,hb⟩;refine⟨hb,?_⟩
  cases b
  ·obtain rfl:=hl0 rfl;obtain⟨A,c,rfl,-⟩:=zkh ho;exact .inl ⟨by simpa using hlk,A,c,rfl⟩
  ·obtain⟨A,c,rfl,-,hr⟩:=zqw ho hf;exact .inr ⟨l,A,c,by simpa using hlk,rfl,hr⟩
theorem zvi {f:FuncId} {fn:Func} {rv:Value} {Rd:World->Prop} {look:ByteArray->Option (List Int)} (hL:zqS f fn rv Rd look) (t:T) (v:Value) (w:World) (hv:NV w Any t v) (hR:Rd w) :
  Calls Tryz.prog 124 #[v,.func (.func f) #[rv] #[]] w fun e w'=>e=.returned (.tuple #[.bool (decide ((zlb look t).1≠0)),.int .i64 (zlb look t).2])/\Below w.heap.size w w':=by
 have HV:=zh hv;obtain⟨A,c,rfl,-⟩:=hv.open_;have gT:=zh (fun w' (hb:Below w.heap.size w w')=>zpC hL t _ w' (hv.later hb) (hL.later _ _ hR hb));obtain⟨⟨x,y⟩,hx⟩:∃ x,zlb look t=x:=⟨_,rfl⟩
 rw[hx] at gT ⊢;dsimp only[NumE] at gT ⊢;clear hv hR hx;go_enter Tryz.func124,Tryz.ntmps124;have hb0:=zkc (Below.refl w.heap.size w) (.cells #[.int .u8 t.k,.int .i64 t.n,.string t.s,.slice A t.ks.length c] 26);have HB0:=zh hb0;obtain⟨x0,x1,x2,x3⟩:=box4 (heap_alloc_new w (.cells #[.int .u8 t.k,.int .i64 t.n,.string t.s,.slice A t.ks.length c] 26));clear hb0;go_wp2_with fail;refine(gT.out _ HB0.out).mono ?_;rintro e w1 ⟨rfl,aj⟩;have HB1:=zh (zka HB0.out aj);clear aj x0 x1 x2 x3;by_cases h0:x=0
 ·subst h0;go_wp2_with fail;go_ret2;exact⟨by simp,HB1.out⟩
 ·have e1:(x != 0)=true:=by simpa using h0
  go_wp2_with fail;go_ret2;exact⟨by simp[h0],HB1.out⟩
def RC.plus (C:RC) (lo hi:Nat):RC:={ C with kb:=fun b=>C.kb b\/(lo<=b/\b<hi) }
section
variable {C:RC} {W W' W'':World} {r r':RS} {lo hi:Nat}
theorem RI.rlt (h:RI C W r):C.rb<W.heap.size:=zku h.box
theorem RI.plus (hC:C.Ok) (h:RI C W r) (hb:Below W.heap.size W W'):(C.plus W.heap.size W'.heap.size).Ok/\RI (C.plus W.heap.size W'.heap.size) W' r:=by
 have h1:=h.rlt;refine⟨⟨hC.pg,hC.F,hC.F6,⟨hC.rb.1,fun hk=>?_⟩,⟨hC.ev.1,fun b hb' hk=>?_⟩,hC.ps⟩,⟨h.ks.also hb fun b hk=>?_,zkf h.box hb,zkJ h.ent hb,h.el,h.en,h.n,h.fb⟩⟩
 ·rcases hk with hk|hk
  ·exact hC.rb.2 hk
  ·have:W.heap.size<=C.rb:=hk.1;omega
 ·rcases hk with hk|hk
  ·exact hC.ev.2 b hb' hk
  ·have:=(h.ent.lt b hb').2;have:=hk.1;omega
 ·rcases hk with(hk|hk)|hk|hk
  ·exact .inl (.inl hk)
  ·exact .inr hk
  ·exact .inl (.inr (.inl hk))
  ·exact .inl (.inr (.inr hk))
theorem RI.less (h:RI (C.plus lo hi) W r):RI C W r :=
 ⟨h.ks.less fun b hk=>hk.elim (fun hk=>.inl (.inl hk)) .inr,h.box,h.ent,h.el,h.en,h.n,h.fb⟩
theorem Kpt.less (h:Kpt C.n0 (C.plus lo hi).kb W W'):Kpt C.n0 C.kb W W':=⟨h.size,fun b hb hk=>h.kept b hb (hk.imp id .inl)⟩
theorem Kpt.plus {b o:Nat} {u:Value} (h:Kpt C.n0 (C.plus lo hi).kb W W') (hb:lo<=b/\b<hi) (hc:W.cell? ⟨b,o,none⟩=some u):W'.cell? ⟨b,o,none⟩=some u:=h.cell (.inr (.inr hb)) hc
end
def zya (C:RC) (W:World) (t:T) (r:RS) (e:Ending) (W':World):Prop :=
 Kpt C.n0 C.kb W W'/\Below C.w.heap.size C.w W'/\((∃ x,e=zlT x/\∀ f,zkG C.F t r f=.err x)\/∃ b r',e=.returned (.bool b)/\RI C W' r'/\∀ f,zkG C.F t r f=f b r')
theorem zoi {C:RC} (hC:C.Ok) {W:World} {r:RS} (h:RI C W r) (t:T) (v:Value) (hv:NV C.w Any t v):Calls Tryz.prog 105 #[.pointer (some ⟨C.rb,0,none⟩),v] W (zya C W t r):=by
 have HV:=zh hv;obtain⟨A,c,rfl,-⟩:=hv.open_;have wB:∀ (fn:Fn) (first cap:Array Value) (w:World),(Instr.makeFunc fn first cap).run Tryz.prog w=.ok (.func fn first cap) w:=fun _ _ _ _=>rfl;have hb0:=zkc (Below.refl W.heap.size W) (.cells #[.int .u8 t.k,.int .i64 t.n,.string t.s,.slice A t.ks.length c] 26);obtain⟨fE,h1⟩:=h.plus hC hb0;have hz1:(W.alloc (.cells #[.int .u8 t.k,.int .i64 t.n,.string t.s,.slice A t.ks.length c] 26)).heap.size=W.heap.size+1:=by simp
 have hbx:=box4 (heap_alloc_new W (.cells #[.int .u8 t.k,.int .i64 t.n,.string t.s,.slice A t.ks.length c] 26));have aQ:=zh (Kpt.of_below (n0:=C.n0) (kb:=C.kb) hb0);obtain⟨W1,hW1⟩:∃ x,W.alloc (.cells #[.int .u8 t.k,.int .i64 t.n,.string t.s,.slice A t.ks.length c] 26)=x:=⟨_,rfl⟩
 rw[hW1] at fE h1 hz1 hbx aQ;have oG:=zh fE;have H1:=zh h1;have HST:=zh (zme fE h1);obtain⟨hi,hhi⟩:∃ x,W1.heap.size=x:=⟨_,rfl⟩
 rw[hhi] at oG H1 HST hz1;have ax:=zh hbx;have HZ1:=zh (show W.heap.size<hi by omega);clear hv fE h1 hbx hb0 h hhi hz1;go_enter Tryz.func105,Tryz.ntmps105;go_wp2_with fail;refine HST.out.mono ?_;rintro e w1 ⟨hk1,hbl1,ho1⟩;have aH:=zh (aQ.out.trans (Kpt.less (C:=C) hk1));have HB1:=zh hbl1
 cases hs:zkq C.F r with
 | gas=>exact absurd hs (zky _ _).1
 | err x =>
  rw[show zkq (C.plus W.heap.size hi).F r=zkq C.F r from rfl,hs] at ho1;subst ho1;exact⟨rfl,aH.out,HB1.out,.inl ⟨x,rfl,fun f=>by unfold zkG;rw[hs];rfl⟩⟩
 | ok r1 =>
  rw[show zkq (C.plus W.heap.size hi).F r=zkq C.F r from rfl,hs] at ho1;obtain⟨⟨u,rfl⟩,hr1⟩:=ho1;have x0:=Kpt.plus (C:=C) hk1 (b:=W.heap.size) ⟨Nat.le_refl _,HZ1.out⟩ ax.out.1;have x1:=Kpt.plus (C:=C) hk1 (b:=W.heap.size) ⟨Nat.le_refl _,HZ1.out⟩ ax.out.2.1;have x2:=Kpt.plus (C:=C) hk1 (b:=W.heap.size) ⟨Nat.le_refl _,HZ1.out⟩ ax.out.2.2.1;have x3:=Kpt.plus (C:=C) hk1 (b:=W.heap.size) ⟨Nat.le_refl _,HZ1.out⟩ ax.out.2.2.2;have HS:=zh hs;have HR1:=zh hr1.less;obtain⟨y6,-⟩:=hr1.cells;have y6':w1.cell? ⟨C.rb,6,none⟩=some (.pointer (some ⟨C.sb,0,none⟩)):=y6;have uj:=zh (fun w' (hb:Below w1.heap.size w1 w')=>zvi (zxu C.w C.n0 C.sb _ r1.S HR1.out.ks.wf) t _ w' (HV.out.later (zka HR1.out.below hb)) (HR1.out.ks.later hb));obtain⟨⟨x,y⟩,hx⟩:∃ x,zlb r1.S.look t=x:=⟨_,rfl⟩
  rw[hx] at uj;dsimp only at uj;obtain⟨bb,hbb⟩:∃ b,decide (x≠0)=b:=⟨_,rfl⟩
  rw[hbb] at uj;have mr:=zh hx;have HBBB:=zh hbb;clear hbb hk1 hbl1 hs hr1 y6 hx HST ax;have aG:=zh (show ∀ w',Below w1.heap.size w1 w'->(fun w':World=>w'.cell? ⟨W.heap.size,0,none⟩=some (.int .u8 t.k)/\w'.cell? ⟨W.heap.size,1,none⟩=some (.int .i64 t.n)/\w'.cell? ⟨W.heap.size,2,none⟩=some (.string t.s)/\w'.cell? ⟨W.heap.size,3,none⟩=some (.slice A t.ks.length c)/\w'.cell? ⟨C.rb,6,none⟩=some (.pointer (some ⟨C.sb,0,none⟩))) w' from fun w' hb=>⟨zb hb x0,zb hb x1,zb hb x2,zb hb x3,zb hb y6'⟩);have iU:=zh (aG.out _ (Below.refl _ _).drew);clear x0 x1 x2 x3 y6';go_upto_region 2 with fail
  go_region_held3 (fun w':World=>w'.cell? ⟨W.heap.size,0,none⟩=some (.int .u8 t.k)/\w'.cell? ⟨W.heap.size,1,none⟩=some (.int .i64 t.n)/\w'.cell? ⟨W.heap.size,2,none⟩=some (.string t.s)/\w'.cell? ⟨W.heap.size,3,none⟩=some (.slice A t.ks.length c)/\w'.cell? ⟨C.rb,6,none⟩=some (.pointer (some ⟨C.sb,0,none⟩)))
   (first|with_reducible exact dY.out|with_reducible exact iU.out)
   (first
    | (go_at_call 124;refine(uj.out _ (Below.refl _ _).drew).mono ?_;rintro e y1 ⟨rfl,fF⟩;have b1:=zka (Below.refl w1.heap.size w1).drew fF;have dY:=zh (aG.out _ b1))
    | fail)
  have HB2:=zh b1;clear b1 fF dY;go_wp2_with fail;refine(zlu _ y _).mono ?_;rintro e w3 ⟨rfl,hcs⟩;rcases hcs with⟨rfl,u2,rfl⟩|⟨hy,rfl⟩
  ·go_wp2_with fail;go_ret;refine⟨aH.out.trans (Kpt.of_below HB2.out),zka HB1.out HB2.out,.inr ⟨bb,r1,rfl,HR1.out.later HB2.out,fun f=>?_⟩⟩;unfold zkG;rw[HS.out];simp only[Out.bind,valO,mr.out];simp[<-HBBB.out]
  ·refine⟨rfl,aH.out.trans (Kpt.of_below HB2.out),zka HB1.out HB2.out,.inl ⟨y,rfl,fun f=>?_⟩⟩;unfold zkG;rw[HS.out];simp only[Out.bind,valO,mr.out];rw[if_pos hy]
theorem zmS (x:Int):I64 (wrap64 x):=by
 unfold wrap64 I64
 constructor<;>omega
theorem zre (b:Bool):I64 (numI b):=by
 cases b
 ·exact⟨by decide,by decide⟩
 ·exact⟨by decide,by decide⟩
theorem zero_I64:I64 0:=⟨by decide,by decide⟩
theorem zqY {x y:Int} (h:I64 x):I64 (x.tmod y):=by
 obtain⟨h1,h2⟩:=h;rcases Int.le_total 0 x with h0|h0
 ·have a1:=Int.tmod_nonneg y h0;have a2:(x.tmod y).natAbs<=x.natAbs:=by rw[Int.natAbs_tmod];exact Nat.mod_le _ _
  exact⟨by omega,by omega⟩
 ·have a1:=Int.tmod_nonneg y (show 0 <= -x by omega);rw[Int.neg_tmod] at a1;have a2:(x.tmod y).natAbs<=x.natAbs:=by rw[Int.natAbs_tmod];exact Nat.mod_le _ _
  exact⟨by omega,by omega⟩
theorem zuZ {k x y:Int} (hx:I64 x):I64 (divE k x y).1:=by
 unfold divE
 repeat' split
 all_goals first|exact zero_I64|exact zmS _|exact zqY hx
theorem zv4 (k x:Int):I64 (unE k x).1:=by
 unfold unE
 split
 ·exact zmS _
 ·exact zre _
theorem zwh {c:Prop} [Decidable c] {a b:Int×Int} (ha:I64 a.1) (hb:I64 b.1):I64 (if c then a else b).1:=by
 split
 ·exact ha
 ·exact hb
theorem zwN {k x y:Int} (hx:I64 x):I64 (apE k x y).1:=by
 unfold apE
 repeat' apply zwh
 all_goals first|exact zmS _|exact zuZ hx|exact zqY hx|exact zql _|exact zre _|exact zero_I64
theorem zuF {l:List Int} (h:∀ x∈l,I64 x) (i:Nat):I64 (l.getD i 0):=by
 rw[List.getD_eq_getElem?_getD];rcases hx:l[i]? with _|x
 ·exact zero_I64
 ·exact h x (List.mem_of_getElem? hx)
theorem zs6 {look:ByteArray->Option (List Int)} (hl:∀ s l,look s=some l->l.length<=100000/\∀ x∈l,I64 x) {k n:Int} {s:ByteArray} {rs:List (Int×Int)} (hn:I64 n) (h0:I64 (rs.getD 0 (0,0)).1):I64 (evK look k n s rs).1:=by
 unfold evK
 split
 ·exact hn
 ·split
  ·unfold varE
   split
   ·exact zero_I64
   ·rename_i l hlk;obtain⟨h1,h2⟩:=hl s l hlk
    repeat' split
    all_goals first|exact zuF h2 _|exact zero_I64|exact⟨by simp only;omega,by simp only;omega⟩
  ·repeat' split
   all_goals first|exact zv4 _ _|exact zwN h0|exact zero_I64
theorem zs8 {look:ByteArray->Option (List Int)} (hl:∀ s l,look s=some l->l.length<=100000/\∀ x∈l,I64 x) {w:World}:∀ (m:Nat) (t:T) (v:Value),size t<=m->NV w Any t v->I64 (evE look t).1
 | 0,t,_,h,_=>by obtain⟨k,n,s,ks⟩:=t;rw[size] at h;omega
 | m+1,.nd k n s ks,v,h,hv=>by
  obtain⟨A,c,-,hf,-,-,hrow⟩:=hv.open_;rw[evE];refine zs6 hl hf.2.1 ?_;rw[zmA,List.getD_eq_getElem?_getD,List.getElem?_map];rcases hk:ks[0]? with _|u
  ·exact zero_I64
  ·obtain⟨h1,h2⟩:=List.getElem?_eq_some_iff.1 hk;obtain⟨a,u0,u1,u2,u3,-,-,-,hn⟩:=hrow 0 h1;have hs:=zmw (List.getElem_mem h1);rw[size] at h;have:=zs8 hl m ks[0] _ (by omega) hn;rw[h2] at this;exact this
theorem zrg {S:ST} (h:S.WF):∀ s l,S.look s=some l->l.length<=100000/\∀ x∈l,I64 x:=fun s l hl=>by
 obtain⟨i,id,h1,h2,rfl⟩:=ST.look_num hl;obtain⟨kd,hc⟩:=h.cur;have:=h.cells id (hc.num id (List.mem_of_getElem? h2));exact⟨by omega,this.2⟩
theorem zrp {S:ST} (h:S.WF) {w:World} {t:T} {v:Value} (hv:NV w Any t v):I64 (zlb S.look t).1:=by
 unfold zlb
 split
 ·exact zs8 (zrg h) _ _ _ (Nat.le_refl _) hv
 ·exact zero_I64
def ValP (C:RC) (W:World) (t:T) (r:RS) (e:Ending) (W':World):Prop :=
 Below W.heap.size W W'/\((∃ x,e=zlT x/\∀ f,valO t r f=.err x)\/∃ x,e=.returned (.int .i64 x)/\I64 x/\∀ f,valO t r f=f x r)
theorem zpE {C:RC} {W:World} {r:RS} (h:RI C W r) (t:T) (v:Value) (hv:NV C.w Any t v):Calls Tryz.prog 107 #[.pointer (some ⟨C.rb,0,none⟩),v] W (ValP C W t r):=by
 have HV:=zh hv;obtain⟨A,c,rfl,-⟩:=hv.open_;have wB:∀ (fn:Fn) (first cap:Array Value) (w:World),(Instr.makeFunc fn first cap).run Tryz.prog w=.ok (.func fn first cap) w:=fun _ _ _ _=>rfl;have hb0:=zkc (Below.refl W.heap.size W) (.cells #[.int .u8 t.k,.int .i64 t.n,.string t.s,.slice A t.ks.length c] 26);have hbx:=box4 (heap_alloc_new W (.cells #[.int .u8 t.k,.int .i64 t.n,.string t.s,.slice A t.ks.length c] 26));obtain⟨y6,-⟩:=(h.later hb0).cells;have HR:=zh (h.later hb0);have HB0:=zh hb0;obtain⟨w1,hW1⟩:∃ x,W.alloc (.cells #[.int .u8 t.k,.int .i64 t.n,.string t.s,.slice A t.ks.length c] 26)=x:=⟨_,rfl⟩
 rw[hW1] at hbx HR HB0 y6;obtain⟨x0,x1,x2,x3⟩:=hbx;have uj:=zh (fun w' (hb:Below w1.heap.size w1 w')=>zpC (zxu C.w C.n0 C.sb _ r.S HR.out.ks.wf) t _ w' (HV.out.later (zka HR.out.below hb)) (HR.out.ks.later hb));obtain⟨⟨x,y⟩,hx⟩:∃ x,zlb r.S.look t=x:=⟨_,rfl⟩
 rw[hx] at uj;have mr:=zh hx;have aG:=zh (show ∀ w',Below w1.heap.size w1 w'->(fun w':World=>w'.cell? ⟨W.heap.size,0,none⟩=some (.int .u8 t.k)/\w'.cell? ⟨W.heap.size,1,none⟩=some (.int .i64 t.n)/\w'.cell? ⟨W.heap.size,2,none⟩=some (.string t.s)/\w'.cell? ⟨W.heap.size,3,none⟩=some (.slice A t.ks.length c)/\w'.cell? ⟨C.rb,6,none⟩=some (.pointer (some ⟨C.sb,0,none⟩))) w' from fun w' hb=>⟨zb hb x0,zb hb x1,zb hb x2,zb hb x3,zb hb y6⟩);have iU:=zh (aG.out _ (Below.refl _ _).drew);clear hv hb0 hx x0 x1 x2 x3 y6 h;go_enter Tryz.func107,Tryz.ntmps107;go_upto_region 1 with fail;clear hW1
 go_region_held3 (fun w':World=>w'.cell? ⟨W.heap.size,0,none⟩=some (.int .u8 t.k)/\w'.cell? ⟨W.heap.size,1,none⟩=some (.int .i64 t.n)/\w'.cell? ⟨W.heap.size,2,none⟩=some (.string t.s)/\w'.cell? ⟨W.heap.size,3,none⟩=some (.slice A t.ks.length c)/\w'.cell? ⟨C.rb,6,none⟩=some (.pointer (some ⟨C.sb,0,none⟩)))
  (first|with_reducible exact dY.out|with_reducible exact iU.out)
  (first
   | (go_at_call 126;refine(uj.out _ (Below.refl _ _).drew).mono ?_;rintro e y1 ⟨rfl,fF⟩;have b1:=zka (Below.refl w1.heap.size w1).drew fF;have dY:=zh (aG.out _ b1))
   | fail)
 have HB2:=zh (zka HB0.out b1);clear b1 fF dY;go_wp2_with fail;refine(zlu _ y _).mono ?_;rintro e w3 ⟨rfl,hcs⟩;rcases hcs with⟨rfl,u2,rfl⟩|⟨hy,rfl⟩
 ·go_wp2_with fail;go_ret;refine⟨HB2.out,.inr ⟨x,rfl,?_,fun f=>?_⟩⟩
  ·have:=zrp HR.out.ks.wf HV.out;rw[mr.out] at this;exact this
  ·unfold valO;rw[mr.out];simp
 ·refine⟨rfl,HB2.out,.inl ⟨y,rfl,fun f=>?_⟩⟩;unfold valO;rw[mr.out,if_pos hy]
theorem zm2 {C:RC} (hC:C.Ok) {W:World} {r:RS} (h:RI C W r) (t:T) (v:Value) (hv:NV C.w Any t v) (b:Bool):Calls Tryz.prog 106 #[.pointer (some ⟨C.rb,0,none⟩),v,.bool b] W (RunP C W (zkx C.F t b r)):=by
 have HV:=zh hv;obtain⟨A,c,rfl,-⟩:=hv.open_;have hb0:=zkc (Below.refl W.heap.size W) (.cells #[.int .u8 t.k,.int .i64 t.n,.string t.s,.slice A t.ks.length c] 26);obtain⟨x0,x1,x2,x3⟩:=box4 (heap_alloc_new W (.cells #[.int .u8 t.k,.int .i64 t.n,.string t.s,.slice A t.ks.length c] 26));have aQ:=zh (Kpt.of_below (n0:=C.n0) (kb:=C.kb) hb0);have jF:=zh (zoi hC (h.later hb0) t _ hv);clear hv hb0 h;go_enter Tryz.func106,Tryz.ntmps106;go_wp2_with fail;refine jF.out.mono ?_;rintro e w1 ⟨hk1,hb1,ho⟩;have aH:=zh (aQ.out.trans hk1);have HB1:=zh hb1;clear hk1 hb1 jF x0 x1 x2 x3 aQ;rcases ho with⟨x,rfl,hx⟩|⟨b1,r1,rfl,hr1,hx⟩
 ·refine⟨rfl,aH.out,HB1.out,?_⟩;rw[show zkx C.F t b r=.err x from hx _]
 ·have HX:=zh (show zkx C.F t b r=if b1=b then .ok r1 else .err 15 from hx _);have HR:=zh hr1;clear hr1 hx;by_cases hbb:b1=b
  ·subst hbb;have bF:=zh (show zkx C.F t b1 r=.ok r1 by rw[HX.out,if_pos rfl]);clear HX;go_wp2_with fail;go_end0;refine⟨aH.out,HB1.out,?_⟩;rw[bF.out];exact⟨⟨_,rfl⟩,HR.out⟩
  ·have e1:(b1 != b)=true:=by simpa using hbb
   have e2:(b1==b)=false:=by simpa using hbb
   go_wp2_with fail;refine(zpB 15 (by decide) _).mono ?_;rintro e w2 ⟨rfl,rfl⟩;refine⟨rfl,aH.out,HB1.out,?_⟩;rw[HX.out,if_neg hbb]
section
variable {P:Program} {ops:Array Oper} {Q:Exit->Act->World->Prop} {md:Region.Mode} {S1 S2:World->Prop} {k:Nat}
theorem zub {i j:Nat} {o o':Oper} {fuel:Nat} {listed:Array Bool} {a:Act} {w:World} (hr:Region.ready md ops listed=[i,j]) (ho:ops[i]?=some o) (ho':ops[j]?=some o')
  (h:∀ K':Act->World->Prop,Shut (∀ a w,S1 w/\S2 w->wpG P md ops Q S1 S2 k fuel (listed.setIfInBounds i true) a w->K' a w)->if Region.wanted o (yielded ops a.tmps)=true then Oper.wp P o a w K' Q else K' (a.put o.dst undef) w)
  (h':∀ K':Act->World->Prop,Shut (∀ a w,S1 w/\S2 w->wpG P md ops Q S1 S2 k fuel (listed.setIfInBounds j true) a w->K' a w)->if Region.wanted o' (yielded ops a.tmps)=true then Oper.wp P o' a w K' Q else K' (a.put o'.dst undef) w) :
  wpG P md ops Q S1 S2 k (fuel+1) listed a w:=by
 refine⟨(fun h0=>by rw[hr] at h0;cases h0),fun x hx=>?_⟩;rw[hr] at hx;simp only[List.mem_cons,List.not_mem_nil,or_false] at hx;rcases hx with rfl|rfl
 ·exact wpOp_step ho fun K' hK=>h K' fun a w hS hW=>hK a w ⟨⟨hS.1,fun _=>hS.2⟩,hW⟩
 ·exact wpOp_step ho' fun K' hK=>h' K' fun a w hS hW=>hK a w ⟨⟨hS.1,fun _=>hS.2⟩,hW⟩
end
theorem set4 {W:World} {b:Nat} {x0 x1 x2 x3 u0 u1 u2 u3:Value} {E:TypeId} (h:W.heap[b]?=some (.cells #[x0,x1,x2,x3] E (0,0))) :
  ((((W.setCell ⟨b,0,none⟩ u0).setCell ⟨b,1,none⟩ u1).setCell ⟨b,2,none⟩ u2).setCell ⟨b,3,none⟩ u3).heap[b]?=some (.cells #[u0,u1,u2,u3] E (0,0)) /\
   Chg (fun q=>q=b) W ((((W.setCell ⟨b,0,none⟩ u0).setCell ⟨b,1,none⟩ u1).setCell ⟨b,2,none⟩ u2).setCell ⟨b,3,none⟩ u3):=by
 refine⟨?_,((((Chg.refl (fun q=>q=b) W).setCell (p:=⟨b,0,none⟩) (.inl rfl) _).setCell (p:=⟨b,1,none⟩) (.inl rfl) _).setCell (p:=⟨b,2,none⟩) (.inl rfl) _).setCell (p:=⟨b,3,none⟩) (.inl rfl) _⟩;rw[heap_setCell_same _ b 3 _ _ u3 (heap_setCell_same _ b 2 _ _ u2 (heap_setCell_same _ b 1 _ _ u1 (heap_setCell_same W b 0 _ _ u0 h)))];simp
theorem zpt (t:T) (v:Value) (back:Bool) (w0 w:World) (hB0:Below w0.heap.size w0 w) (hv:NV w0 Any t v) (hk:0<t.ks.length):Calls Tryz.prog 104 #[v,.bool back] w fun e W'=>∃ v1 v2,e=.returned (.tuple #[v1,v2])/\NV w0 Any (fstT back t) v1/\NV w0 Any (lstT back t) v2/\Below w.heap.size w W':=by
 have HV:=zh hv;obtain⟨A,c,rfl,hf,hlk,hlc,hrow⟩:=hv.open_;obtain⟨m,hm⟩:∃ m,t.ks.length=m+1:=⟨t.ks.length-1,by omega⟩
 obtain⟨a,a0,a1,a2,a3,rfl,-,ha,hna⟩:=hrow 0 (by omega);obtain⟨a',b0,b1,b2,b3,e',-,hb,hnb⟩:=hrow m (by omega);injection e' with e';subst e';obtain⟨t6,yY⟩:∃ x,t.ks[0]'(by omega)=x:=⟨_,rfl⟩
 obtain⟨t7,yX⟩:∃ x,t.ks[m]'(by omega)=x:=⟨_,rfl⟩
 rw[yY] at hna;rw[yX] at hnb;have AV:=zh hna;have AU:=zh hnb;have Ay:=zh (show kid t 0=t6 by simp[kid,show 0<t.ks.length by omega,yY]);have Aw:=zh (show kid t (t.ks.length-1)=t7 by simp[kid,hm,show m<t.ks.length by omega,yX]);obtain⟨A6,c6,e6,-⟩:=hna.open_;obtain⟨A7,c7,e7,-⟩:=hnb.open_;simp only[nv,Value.agg.injEq,Array.mk.injEq,List.cons.injEq,and_true] at e6 e7;obtain⟨rfl,rfl,rfl,rfl⟩:=e6;obtain⟨rfl,rfl,rfl,rfl⟩:=e7;clear hna hnb yY yX;obtain⟨ha0,ha1,ha2,tQ⟩:=ha;obtain⟨hb0,hb1,hb2,hb3⟩:=hb;simp only[Nat.zero_mul,Addr.add_zero'] at ha0 ha1 ha2 tQ
 replace ha0:=zb hB0 ha0
 replace ha1:=zb hB0 ha1
 replace ha2:=zb hB0 ha2
 replace tQ:=zb hB0 tQ
 replace hb0:=zb hB0 hb0
 replace hb1:=zb hB0 hb1
 replace hb2:=zb hB0 hb2
 replace hb3:=zb hB0 hb3
 clear hB0;have hwm:IntKind.i64.wrap (m:Int)=(m:Int):=IntWalk.i64_in _ (by unfold LK at hlk;omega);have hm0:(0:Int)<=(m:Int):=by omega
 have hm1:(m:Int)<((m:Int)+1):=by omega
 have hbl:Below w.heap.size w (((w.alloc (.cells #[.int .u8 t.k,.int .i64 t.n,.string t.s,.slice (some a) (m+1) c] 26)).alloc (.cells #[.int .u8 0,.int .i64 0,.string ⟨#[]⟩,.slice none 0 0] 26)).alloc (.cells #[.int .u8 0,.int .i64 0,.string ⟨#[]⟩,.slice none 0 0] 26)):=zkc (zkc (zkc (Below.refl _ _) _) _) _;have hk0:=zkn (zkn (heap_alloc_new w (.cells #[.int .u8 t.k,.int .i64 t.n,.string t.s,.slice (some a) (m+1) c] 26)) (.cells #[.int .u8 0,.int .i64 0,.string ⟨#[]⟩,.slice none 0 0] 26)) (.cells #[.int .u8 0,.int .i64 0,.string ⟨#[]⟩,.slice none 0 0] 26);have hk4:=zkn (heap_alloc_new (w.alloc (.cells #[.int .u8 t.k,.int .i64 t.n,.string t.s,.slice (some a) (m+1) c] 26)) (.cells #[.int .u8 0,.int .i64 0,.string ⟨#[]⟩,.slice none 0 0] 26)) (.cells #[.int .u8 0,.int .i64 0,.string ⟨#[]⟩,.slice none 0 0] 26)
 have hk5:=heap_alloc_new ((w.alloc (.cells #[.int .u8 t.k,.int .i64 t.n,.string t.s,.slice (some a) (m+1) c] 26)).alloc (.cells #[.int .u8 0,.int .i64 0,.string ⟨#[]⟩,.slice none 0 0] 26)) (.cells #[.int .u8 0,.int .i64 0,.string ⟨#[]⟩,.slice none 0 0] 26);simp only[World.size_alloc] at hk4 hk5;go_enter Tryz.func104,Tryz.ntmps104;go_upto_region 1 with fail;obtain⟨w1,hw1⟩:∃ x,((w.alloc (.cells #[.int .u8 t.k,.int .i64 t.n,.string t.s,.slice (some a) (m+1) c] 26)).alloc (.cells #[.int .u8 0,.int .i64 0,.string ⟨#[]⟩,.slice none 0 0] 26)).alloc (.cells #[.int .u8 0,.int .i64 0,.string ⟨#[]⟩,.slice none 0 0] 26)=x:=⟨_,rfl⟩
 rw[hw1] at hbl hk0 hk4 hk5 ⊢;have hSS:(fun w':World=>w'.cell? ⟨w.heap.size,3,none⟩=some (.slice (some a) (m+1) c)/\(w'.cell? a=some (.int .u8 t6.k)/\w'.cell? ⟨a.block,a.off+1,none⟩=some (.int .i64 t6.n)/\w'.cell? ⟨a.block,a.off+2,none⟩=some (.string t6.s)/\w'.cell? ⟨a.block,a.off+3,none⟩=some (.slice A6 t6.ks.length c6))/\(w'.cell? (a.add (m*4))=some (.int .u8 t7.k)/\w'.cell? ⟨(a.add (m*4)).block,(a.add (m*4)).off+1,none⟩=some (.int .i64 t7.n)/\w'.cell? ⟨(a.add (m*4)).block,(a.add (m*4)).off+2,none⟩=some (.string t7.s)/\w'.cell? ⟨(a.add (m*4)).block,(a.add (m*4)).off+3,none⟩=some (.slice A7 t7.ks.length c7))) w1.drew/\(fun _:World=>True) w1.drew:=⟨⟨zc hk0 rfl,⟨zb hbl.drew ha0,zb hbl.drew ha1,zb hbl.drew ha2,zb hbl.drew tQ⟩,⟨zb hbl.drew hb0,zb hbl.drew hb1,zb hbl.drew hb2,zb hbl.drew hb3⟩⟩,trivial⟩
 have fH:=zh (show w1.heap[w.heap.size+1]?=some (.cells #[.int .u8 0,.int .i64 0,.string ⟨#[]⟩,.slice none 0 0] 26 (0,0)) from hk4);have jR:=zh (show w1.heap[w.heap.size+1+1]?=some (.cells #[.int .u8 0,.int .i64 0,.string ⟨#[]⟩,.slice none 0 0] 26 (0,0)) from hk5);have af:=zh hbl;clear hw1 hbl hk0 hk4 hk5 ha0 ha1 ha2 tQ hb0 hb1 hb2 hb3 hrow HV;refine wp_region_noPanic ?_
 refine zkd (fun w':World=>w'.cell? ⟨w.heap.size,3,none⟩=some (.slice (some a) (m+1) c)/\(w'.cell? a=some (.int .u8 t6.k)/\w'.cell? ⟨a.block,a.off+1,none⟩=some (.int .i64 t6.n)/\w'.cell? ⟨a.block,a.off+2,none⟩=some (.string t6.s)/\w'.cell? ⟨a.block,a.off+3,none⟩=some (.slice A6 t6.ks.length c6))/\(w'.cell? (a.add (m*4))=some (.int .u8 t7.k)/\w'.cell? ⟨(a.add (m*4)).block,(a.add (m*4)).off+1,none⟩=some (.int .i64 t7.n)/\w'.cell? ⟨(a.add (m*4)).block,(a.add (m*4)).off+2,none⟩=some (.string t7.s)/\w'.cell? ⟨(a.add (m*4)).block,(a.add (m*4)).off+3,none⟩=some (.slice A7 t7.ks.length c7))) (fun _:World=>True) 15 (by kernel_rfl) ?_;refine zT 0 hSS ?_;(try simp only[zQ]);refine zT 1 hSS ?_;(try simp only[zQ]);refine zT 2 hSS ?_;(try simp only[zQ]);refine zT 3 hSS ?_;(try simp only[zQ]);refine zT 4 hSS ?_;(try simp only[zQ]);refine zT 5 hSS ?_;(try simp only[zQ]);refine zT 6 hSS ?_
 (try simp only[zQ]);refine zT 7 hSS ?_;(try simp only[zQ]);refine zT 8 hSS ?_;(try simp only[zQ]);refine zT 9 hSS ?_;(try simp only[zQ]);refine zT 10 hSS ?_;(try simp only[zQ]);refine zT 11 hSS ?_;(try simp only[zQ]);have nY:=zh (show ∀ w',Below w1.heap.size w1 w'->(fun w':World=>w'.cell? ⟨w.heap.size,3,none⟩=some (.slice (some a) (m+1) c)/\(w'.cell? a=some (.int .u8 t6.k)/\w'.cell? ⟨a.block,a.off+1,none⟩=some (.int .i64 t6.n)/\w'.cell? ⟨a.block,a.off+2,none⟩=some (.string t6.s)/\w'.cell? ⟨a.block,a.off+3,none⟩=some (.slice A6 t6.ks.length c6))/\(w'.cell? (a.add (m*4))=some (.int .u8 t7.k)/\w'.cell? ⟨(a.add (m*4)).block,(a.add (m*4)).off+1,none⟩=some (.int .i64 t7.n)/\w'.cell? ⟨(a.add (m*4)).block,(a.add (m*4)).off+2,none⟩=some (.string t7.s)/\w'.cell? ⟨(a.add (m*4)).block,(a.add (m*4)).off+3,none⟩=some (.slice A7 t7.ks.length c7))) w' from fun w' hb=>by
  obtain⟨⟨q0,⟨q1,q2,q3,q4⟩,q5,q6,q7,q8⟩,-⟩:=hSS;exact⟨zb hb q0,⟨zb hb q1,zb hb q2,zb hb q3,zb hb q4⟩,zb hb q5,zb hb q6,zb hb q7,zb hb q8⟩)
 clear hSS;refine zub (i:=12) (j:=13) (by kernel_rfl) rfl rfl (fun K hK=>?_) (fun K hK=>?_);(try simp only[zA,zB,zC]);go_simp;have hb2:=zkc (Below.refl w1.heap.size w1) (.cells #[.int .u8 0,.int .i64 0,.string ⟨#[]⟩,.slice none 0 0] 26);refine hK.out _ _ ⟨nY.out _ hb2.drew,trivial⟩ ?_;clear hK K;(try simp only[zQ]);refine zo 13 fun K hK=>?_;(try simp only[zA,zB,zC]);go_simp;have hb3:Below w1.heap.size w1 ((w1.alloc (.cells #[.int .u8 0,.int .i64 0,.string ⟨#[]⟩,.slice none 0 0] 26)).alloc (.cells #[.int .u8 0,.int .i64 0,.string ⟨#[]⟩,.slice none 0 0] 26)):=zkc hb2 (.cells #[.int .u8 0,.int .i64 0,.string ⟨#[]⟩,.slice none 0 0] 26);have gU:=zkn (heap_alloc_new w1 (.cells #[.int .u8 0,.int .i64 0,.string ⟨#[]⟩,.slice none 0 0] 26)) (.cells #[.int .u8 0,.int .i64 0,.string ⟨#[]⟩,.slice none 0 0] 26)
 have lY:=heap_alloc_new (w1.alloc (.cells #[.int .u8 0,.int .i64 0,.string ⟨#[]⟩,.slice none 0 0] 26)) (.cells #[.int .u8 0,.int .i64 0,.string ⟨#[]⟩,.slice none 0 0] 26);rw[World.size_alloc] at lY;refine hK.out _ _ ⟨nY.out _ hb3.drew,trivial⟩ ?_;clear hK K;(try simp only[zQ]);obtain⟨w3,hw3⟩:∃ x,(w1.alloc (.cells #[.int .u8 0,.int .i64 0,.string ⟨#[]⟩,.slice none 0 0] 26)).alloc (.cells #[.int .u8 0,.int .i64 0,.string ⟨#[]⟩,.slice none 0 0] 26)=x:=⟨_,rfl⟩
 rw[hw3] at hb3 gU lY ⊢;clear hw3 hb2;generalize GE7:w1.heap.size+1=b7 at lY ⊢;generalize GE6:w1.heap.size=b6 at gU ⊢;rotate_left 1;(try simp only[zA,zB,zC]);go_simp;have hb2:=zkc (Below.refl w1.heap.size w1) (.cells #[.int .u8 0,.int .i64 0,.string ⟨#[]⟩,.slice none 0 0] 26);refine hK.out _ _ ⟨nY.out _ hb2.drew,trivial⟩ ?_;clear hK K;(try simp only[zQ]);refine zo 12 fun K hK=>?_;(try simp only[zA,zB,zC]);go_simp;have hb3:Below w1.heap.size w1 ((w1.alloc (.cells #[.int .u8 0,.int .i64 0,.string ⟨#[]⟩,.slice none 0 0] 26)).alloc (.cells #[.int .u8 0,.int .i64 0,.string ⟨#[]⟩,.slice none 0 0] 26)):=zkc hb2 (.cells #[.int .u8 0,.int .i64 0,.string ⟨#[]⟩,.slice none 0 0] 26);have lY:=zkn (heap_alloc_new w1 (.cells #[.int .u8 0,.int .i64 0,.string ⟨#[]⟩,.slice none 0 0] 26)) (.cells #[.int .u8 0,.int .i64 0,.string ⟨#[]⟩,.slice none 0 0] 26)
 have gU:=heap_alloc_new (w1.alloc (.cells #[.int .u8 0,.int .i64 0,.string ⟨#[]⟩,.slice none 0 0] 26)) (.cells #[.int .u8 0,.int .i64 0,.string ⟨#[]⟩,.slice none 0 0] 26);rw[World.size_alloc] at gU;refine hK.out _ _ ⟨nY.out _ hb3.drew,trivial⟩ ?_;clear hK K;(try simp only[zQ]);obtain⟨w3,hw3⟩:∃ x,(w1.alloc (.cells #[.int .u8 0,.int .i64 0,.string ⟨#[]⟩,.slice none 0 0] 26)).alloc (.cells #[.int .u8 0,.int .i64 0,.string ⟨#[]⟩,.slice none 0 0] 26)=x:=⟨_,rfl⟩
 rw[hw3] at hb3 lY gU ⊢;clear hw3 hb2;generalize GE7:w1.heap.size+1=b6 at gU ⊢;generalize GE6:w1.heap.size=b7 at lY ⊢
 all_goals
  have gE:w1.heap.size<=b6/\w1.heap.size<=b7/\b6≠b7:=by omega
  obtain⟨g6,g7,gN⟩:=gE;clear GE6 GE7;have HB3:=zh hb3;have c0:w3.cell? ⟨b6,0,none⟩=some (.int .u8 0):=zc gU rfl;have c1:w3.cell? ⟨b6,1,none⟩=some (.int .i64 0):=zc gU rfl;have c2:w3.cell? ⟨b6,2,none⟩=some (.string ⟨#[]⟩):=zc gU rfl;have c3:w3.cell? ⟨b6,3,none⟩=some (.slice none 0 0):=zc gU rfl;have cf:∀ o,w3.frozen? ⟨b6,o,none⟩=false:=fun _=>zf gU;refine zo 14 fun K hK=>?_;(try simp only[zA,zB,zC]);go_simp;obtain⟨hh,hch⟩:=set4 (u0:=(.int .u8 t6.k)) (u1:=(.int .i64 t6.n)) (u2:=(.string t6.s)) (u3:=(.slice A6 t6.ks.length c6)) gU;obtain⟨w4,hwn⟩:∃ x,(((w3.setCell ⟨b6,0,none⟩ (.int .u8 t6.k)).setCell ⟨b6,1,none⟩ (.int .i64 t6.n)).setCell ⟨b6,2,none⟩ (.string t6.s)).setCell ⟨b6,3,none⟩ (.slice A6 t6.ks.length c6)=x:=⟨_,rfl⟩
  rw[hwn] at hh hch ⊢;have hb4:Below w1.heap.size w1 w4:=HB3.out.trans (hch.below HB3.out.size fun b e=>by omega);refine hK.out _ _ ⟨nY.out _ hb4.drew,trivial⟩ ?_;clear hK K c0 c1 c2 c3 cf hwn;(try simp only[zQ]);have aK:=zh hb4;have jX:=hch.keep lY (by omega);have c0:w4.cell? ⟨b7,0,none⟩=some (.int .u8 0):=zc jX rfl;have c1:w4.cell? ⟨b7,1,none⟩=some (.int .i64 0):=zc jX rfl;have c2:w4.cell? ⟨b7,2,none⟩=some (.string ⟨#[]⟩):=zc jX rfl;have c3:w4.cell? ⟨b7,3,none⟩=some (.slice none 0 0):=zc jX rfl;have cf:∀ o,w4.frozen? ⟨b7,o,none⟩=false:=fun _=>zf jX;refine zp 15 fun K hK=>?_;(try simp only[zA,zB,zC]);go_simp;obtain⟨u6,qa⟩:=set4 (u0:=(.int .u8 t7.k)) (u1:=(.int .i64 t7.n)) (u2:=(.string t7.s)) (u3:=(.slice A7 t7.ks.length c7)) jX
  obtain⟨w5,hwn⟩:∃ x,(((w4.setCell ⟨b7,0,none⟩ (.int .u8 t7.k)).setCell ⟨b7,1,none⟩ (.int .i64 t7.n)).setCell ⟨b7,2,none⟩ (.string t7.s)).setCell ⟨b7,3,none⟩ (.slice A7 t7.ks.length c7)=x:=⟨_,rfl⟩
  rw[hwn] at u6 qa ⊢;have hb5:Below w1.heap.size w1 w5:=aK.out.trans (qa.below aK.out.size fun b e=>by omega);refine hK.out _ _ (nY.out _ hb5.drew) ?_;clear hK K c0 c1 c2 c3 cf hwn;(try simp only[zQ]);have Be:=zh (qa.keep hh (by omega));have Bd:=zh u6;have bP:=zh (show Below w1.heap.size w1 w5 from hb5);clear hb3 gU lY jX hh u6 hch qa hb4 hb5 aK HB3 nY;refine zd ?_;refine NoPanic.normal ?_;have oZ:=zh (zkf fH.out bP.out);have zX:=zh (zkf jR.out bP.out);obtain⟨P,Q,X,Y,AX,AY,CX,CY,hE⟩:∃ P Q X Y AX AY CX CY,cond back (P=b7/\Q=b6/\X=t7/\Y=t6/\AX=A7/\AY=A6/\CX=c7/\CY=c6) (P=b6/\Q=b7/\X=t6/\Y=t7/\AX=A6/\AY=A7/\CX=c6/\CY=c7):=by cases back<;>exact⟨_,_,_,_,_,_,_,_,rfl,rfl,rfl,rfl,rfl,rfl,rfl,rfl⟩
  cases back
  obtain⟨rfl,rfl,rfl,rfl,rfl,rfl,rfl,rfl⟩:=hE;have HX:=Be;have HY:=Bd;have NX:=AV;have NY:=AU;have EX:=Ay;have EY:=Aw;go_upto_region 4 with fail;rotate_left 1;obtain⟨rfl,rfl,rfl,rfl,rfl,rfl,rfl,rfl⟩:=hE;have HX:=Bd;have HY:=Be;have NX:=AU;have NY:=AV;have EX:=Aw;have EY:=Ay;go_upto_region 3 with fail
  all_goals
   clear Be Bd AV AU Ay Aw;have hS5:(fun w':World=>(w'.cell? ⟨P,0,none⟩=some (.int .u8 X.k)/\w'.cell? ⟨P,1,none⟩=some (.int .i64 X.n)/\w'.cell? ⟨P,2,none⟩=some (.string X.s)/\w'.cell? ⟨P,3,none⟩=some (.slice AX X.ks.length CX))/\(w'.cell? ⟨Q,0,none⟩=some (.int .u8 Y.k)/\w'.cell? ⟨Q,1,none⟩=some (.int .i64 Y.n)/\w'.cell? ⟨Q,2,none⟩=some (.string Y.s)/\w'.cell? ⟨Q,3,none⟩=some (.slice AY Y.ks.length CY))) w5.drew:=⟨⟨zc HX.out rfl,zc HX.out rfl,zc HX.out rfl,zc HX.out rfl⟩,⟨zc HY.out rfl,zc HY.out rfl,zc HY.out rfl,zc HY.out rfl⟩⟩
   refine wp_region_noPanic ?_;refine zkd (fun w':World=>(w'.cell? ⟨P,0,none⟩=some (.int .u8 X.k)/\w'.cell? ⟨P,1,none⟩=some (.int .i64 X.n)/\w'.cell? ⟨P,2,none⟩=some (.string X.s)/\w'.cell? ⟨P,3,none⟩=some (.slice AX X.ks.length CX))/\(w'.cell? ⟨Q,0,none⟩=some (.int .u8 Y.k)/\w'.cell? ⟨Q,1,none⟩=some (.int .i64 Y.n)/\w'.cell? ⟨Q,2,none⟩=some (.string Y.s)/\w'.cell? ⟨Q,3,none⟩=some (.slice AY Y.ks.length CY))) (fun _:World=>True) 3 (by kernel_rfl) ?_;refine zk2 (i:=0) (v:=?_) rfl (by kernel_rfl) (by kernel_rfl) (by kernel_rfl) (by decide) (fun _ _ _ h=>h) (Or.inl ⟨by rfl,?_⟩) ⟨hS5,trivial⟩ ?_;rotate_left 1
   ·(intro w hSw;(try dsimp only at hSw);(try simp only[zA,zC]);go_simp;(try with_reducible rfl))
   (try simp only[zQ]);refine zk2 (i:=1) (v:=?_) rfl (by kernel_rfl) (by kernel_rfl) (by kernel_rfl) (by decide) (fun _ _ _ h=>h) (Or.inl ⟨by rfl,?_⟩) ⟨hS5,trivial⟩ ?_;rotate_left 1
   ·(intro w hSw;(try dsimp only at hSw);(try simp only[zA,zB,zC]);go_simp;(try with_reducible rfl))
   (try simp only[zQ]);have hsz:w.heap.size+1+1<w1.heap.size:=(Array.getElem?_eq_some_iff.mp jR.out).1;have jI:=zh (af.out.trans (bP.out.mono (by omega)));have HC:=zh (show ∀ W':World,W'.heap[P]?=w5.heap[P]?->W'.heap[Q]?=w5.heap[Q]?->(fun w':World=>((w'.cell? ⟨P,0,none⟩=some (.int .u8 X.k)/\w'.cell? ⟨P,1,none⟩=some (.int .i64 X.n)/\w'.cell? ⟨P,2,none⟩=some (.string X.s)/\w'.cell? ⟨P,3,none⟩=some (.slice AX X.ks.length CX))/\(w'.cell? ⟨Q,0,none⟩=some (.int .u8 Y.k)/\w'.cell? ⟨Q,1,none⟩=some (.int .i64 Y.n)/\w'.cell? ⟨Q,2,none⟩=some (.string Y.s)/\w'.cell? ⟨Q,3,none⟩=some (.slice AY Y.ks.length CY)))) W'.drew from fun W' h6 h7=>⟨⟨zc (h6.trans HX.out) rfl,zc (h6.trans HX.out) rfl,zc (h6.trans HX.out) rfl,zc (h6.trans HX.out) rfl⟩,⟨zc (h7.trans HY.out) rfl,zc (h7.trans HY.out) rfl,zc (h7.trans HY.out) rfl,zc (h7.trans HY.out) rfl⟩⟩);have HZQ:=zh oZ.out;have lK:=oZ.out
   have HZ5K:=zX.out;have c0:w5.cell? ⟨(w.heap.size+1),0,none⟩=some (.int .u8 0):=zc lK rfl;have c1:w5.cell? ⟨(w.heap.size+1),1,none⟩=some (.int .i64 0):=zc lK rfl;have c2:w5.cell? ⟨(w.heap.size+1),2,none⟩=some (.string ⟨#[]⟩):=zc lK rfl;have c3:w5.cell? ⟨(w.heap.size+1),3,none⟩=some (.slice none 0 0):=zc lK rfl;have cf:∀ o,w5.frozen? ⟨(w.heap.size+1),o,none⟩=false:=fun _=>zf lK;refine zo 2 fun K hK=>?_;(try simp only[zA,zB,zC]);go_simp;obtain⟨hh,hch⟩:=set4 (u0:=(.int .u8 X.k)) (u1:=(.int .i64 X.n)) (u2:=(.string X.s)) (u3:=(.slice AX X.ks.length CX)) lK;obtain⟨w6,hwn⟩:∃ x,(((w5.setCell ⟨(w.heap.size+1),0,none⟩ (.int .u8 X.k)).setCell ⟨(w.heap.size+1),1,none⟩ (.int .i64 X.n)).setCell ⟨(w.heap.size+1),2,none⟩ (.string X.s)).setCell ⟨(w.heap.size+1),3,none⟩ (.slice AX X.ks.length CX)=x:=⟨_,rfl⟩
   rw[hwn] at hh hch ⊢;clear c0 c1 c2 c3 cf hwn;have HBW6:=zh (jI.out.trans (hch.below jI.out.size fun b e=>by omega));have k6:=hch.block (P) (Array.getElem?_eq_some_iff.mp HX.out).1 (by omega);have k7:=hch.block (Q) (Array.getElem?_eq_some_iff.mp HY.out).1 (by omega);have lJ:=hch.keep HZ5K (by omega);refine hK.out _ _ ⟨HC.out _ k6 k7,trivial⟩ ?_;have bf:=zh hh;have K6:=zh k6;have K7:=zh k7;have dU:=zh hch;clear hK K k6 k7 hh hch;(try simp only[zQ]);have c0:w6.cell? ⟨(w.heap.size+1+1),0,none⟩=some (.int .u8 0):=zc lJ rfl;have c1:w6.cell? ⟨(w.heap.size+1+1),1,none⟩=some (.int .i64 0):=zc lJ rfl;have c2:w6.cell? ⟨(w.heap.size+1+1),2,none⟩=some (.string ⟨#[]⟩):=zc lJ rfl;have c3:w6.cell? ⟨(w.heap.size+1+1),3,none⟩=some (.slice none 0 0):=zc lJ rfl;have cf:∀ o,w6.frozen? ⟨(w.heap.size+1+1),o,none⟩=false:=fun _=>zf lJ;refine zp 3 fun K hK=>?_;(try simp only[zA,zB,zC]);go_simp
   obtain⟨hh,hch⟩:=set4 (u0:=(.int .u8 Y.k)) (u1:=(.int .i64 Y.n)) (u2:=(.string Y.s)) (u3:=(.slice AY Y.ks.length CY)) lJ;obtain⟨w7,hwn⟩:∃ x,(((w6.setCell ⟨(w.heap.size+1+1),0,none⟩ (.int .u8 Y.k)).setCell ⟨(w.heap.size+1+1),1,none⟩ (.int .i64 Y.n)).setCell ⟨(w.heap.size+1+1),2,none⟩ (.string Y.s)).setCell ⟨(w.heap.size+1+1),3,none⟩ (.slice AY Y.ks.length CY)=x:=⟨_,rfl⟩
   rw[hwn] at hh hch ⊢;clear c0 c1 c2 c3 cf hwn;have HBW7:=zh (HBW6.out.trans (hch.below HBW6.out.size fun b e=>by omega));have k6:=hch.block (P) (by have:=(Array.getElem?_eq_some_iff.mp HX.out).1;have:=dU.out.size;omega) (by omega);have k7:=hch.block (Q) (by have:=(Array.getElem?_eq_some_iff.mp HY.out).1;have:=dU.out.size;omega) (by omega);have HF4':=zh (hch.keep bf.out (by omega));refine hK.out _ _ (HC.out _ (k6.trans K6.out) (k7.trans K7.out)) ?_;have HF5:=zh hh;clear hK K k6 k7 hh hch;(try simp only[zQ]);refine zd ?_;refine NoPanic.normal ?_;have d4:=HF4'.out;have d5:=HF5.out;have g0:w7.drew.cell? ⟨w.heap.size+1,0,none⟩=some (.int .u8 X.k):=zc d4 rfl;have g1:w7.drew.cell? ⟨w.heap.size+1,1,none⟩=some (.int .i64 X.n):=zc d4 rfl;have g2:w7.drew.cell? ⟨w.heap.size+1,2,none⟩=some (.string X.s):=zc d4 rfl
   have g3:w7.drew.cell? ⟨w.heap.size+1,3,none⟩=some (.slice AX X.ks.length CX):=zc d4 rfl;have g4:w7.drew.cell? ⟨w.heap.size+1+1,0,none⟩=some (.int .u8 Y.k):=zc d5 rfl;have g5:w7.drew.cell? ⟨w.heap.size+1+1,1,none⟩=some (.int .i64 Y.n):=zc d5 rfl;have g6:w7.drew.cell? ⟨w.heap.size+1+1,2,none⟩=some (.string Y.s):=zc d5 rfl;have g7:w7.drew.cell? ⟨w.heap.size+1+1,3,none⟩=some (.slice AY Y.ks.length CY):=zc d5 rfl;go_wp2_with fail;refine bodyPost_ret (v:=.tuple #[.agg #[.int .u8 X.k,.int .i64 X.n,.string X.s,.slice AX X.ks.length CX],.agg #[.int .u8 Y.k,.int .i64 Y.n,.string Y.s,.slice AY Y.ks.length CY]]) (by simp[results,Tryz.results104,go_sem,g0,g1,g2,g3,g4,g5,g6,g7]) rfl ⟨_,_,rfl,?_,?_,HBW7.out.drew.drew⟩
   ·simp only[fstT,lstT,if_true,if_false,Bool.false_eq_true,EX.out,EY.out];exact NX.out
   ·simp only[fstT,lstT,if_true,if_false,Bool.false_eq_true,EX.out,EY.out];exact NY.out
def IStC (G:List PR->T->Prop) (g:Nat):Prop:=∀ C:RC,C.Ok->∀ (W:World) (r:RS),RI C W r->∀ (t:T) (v:Value) (back:Bool),NV C.w Any t v->G C.p.prs t->zkr C.p.prs C.F g back t r ≠ .gas ->
 Calls Tryz.prog 51 #[.pointer (some ⟨C.rb,0,none⟩),v,.bool back] W (RunP C W (zkr C.p.prs C.F g back t r))
theorem zlz {G:List PR->T->Prop} {g:Nat} (hS:IStC G g) {C:RC} (hC:C.Ok) {W:World} {r:RS} (h:RI C W r) (t:T) (v:Value) (back:Bool) (hv:NV C.w Any t v) (hG:∀ u∈t.ks,G C.p.prs u) (aC:runO C.p.prs C.F g back t r ≠ .gas) :
  Calls Tryz.prog 29 #[.pointer (some ⟨C.rb,0,none⟩),v,.bool back] W (RunP C W (runO C.p.prs C.F g back t r)):=by
 obtain⟨A,c,rfl,-,hlk,hlc,hrow⟩:=hv.open_;have ah:=zh hrow;have HS:=zh hS;have HG:=zh hG;have hb0:=zkc (Below.refl W.heap.size W) (.cells #[.int .u8 t.k,.int .i64 t.n,.string t.s,.slice A t.ks.length c] 26);obtain⟨fE,h1⟩:=h.plus hC hb0;have hz1:(W.alloc (.cells #[.int .u8 t.k,.int .i64 t.n,.string t.s,.slice A t.ks.length c] 26)).heap.size=W.heap.size+1:=by simp
 have hbx:=box4 (heap_alloc_new W (.cells #[.int .u8 t.k,.int .i64 t.n,.string t.s,.slice A t.ks.length c] 26));have aQ:=zh (Kpt.of_below (n0:=C.n0) (kb:=C.kb) hb0);obtain⟨W1,hW1⟩:∃ x,W.alloc (.cells #[.int .u8 t.k,.int .i64 t.n,.string t.s,.slice A t.ks.length c] 26)=x:=⟨_,rfl⟩
 rw[hW1] at fE h1 hz1 hbx aQ;obtain⟨hi,hhi⟩:∃ x,W1.heap.size=x:=⟨_,rfl⟩
 rw[hhi] at fE h1 hz1;have oG:=zh fE;have H1:=zh h1;have ax:=zh hbx;have hz2:W.heap.size<hi:=by omega
 have hwn:IntKind.i64.wrap ((t.ks.length:Int)-1)=(t.ks.length:Int)-1:=IntWalk.i64_in _ (by unfold LK at hlk;omega);have hwq:∀ j:Nat,j<t.ks.length->IntKind.i64.wrap ((t.ks.length:Int)-1-(j:Int))=((t.ks.length-1-j:Nat):Int):=fun j hj=>by rw[IntWalk.i64_in _ (by unfold LK at hlk;omega)];omega
 obtain⟨o,ho⟩:∃ o,runO C.p.prs C.F g back t r=o:=⟨_,rfl⟩
 have HO:=zh (show zk9 (zkr C.p.prs C.F g back) ((blkL back t).drop 0) r=o by rw[List.drop_zero];exact ho);have bE:=zh (show o ≠ .gas from ho▸aC);have u7:(blkL back t).length=t.ks.length:=by unfold blkL;split<;>simp
 rw[ho];have bS:=zh u7;have hlk2:t.ks.length<=17592186044416:=by unfold LK at hlk;omega
 clear u7 hlk;clear hv fE h1 hbx hb0 h hz1 hS hG hrow ho aC;obtain⟨x0,x1,x2,x3⟩:=ax.out;go_enter Tryz.func29,Tryz.ntmps29;go_wp2_with fail;clear x0 x1 x2 x3 hW1
 go_loopw [15] (fun i wr=>∃ (j:Nat) (r1:RS),j<=t.ks.length/\i=.int .i64 j/\Hid (RI (C.plus W.heap.size hi) wr r1)/\Hid (Kpt C.n0 (C.plus W.heap.size hi).kb W1 wr)/\Hid (zk9 (zkr C.p.prs C.F g back) ((blkL back t).drop j) r1=o)) (fun i _=>t.ks.length-(intOf i).toNat)
 case atStart=>exact⟨0,r,Nat.zero_le _,rfl,H1,zh (Kpt.refl _ _ _),HO⟩
 case round =>
  obtain⟨j,r1,hj,rfl,HR,HK,HB⟩:=hrel;by_cases hlt:j<t.ks.length
  ·cases back
   ·skip
    have hj1:(j:Int)<(t.ks.length:Int):=by omega
    have hj0:(0:Int)<=(j:Int):=by omega
    have wu:j<t.ks.length:=by omega
    have rZ:(j:Int)<(t.ks.length:Int):=by omega
    have r9:(0:Int)<=(j:Int):=by omega
    have gy:=HR.out.below;obtain⟨a,u,A1,c1,rfl,-,hu,⟨p0,p1,p2,p3⟩,hnu⟩:=ah.out.nd wu;have hgu:=HG.out u (by rw[<-hu.out];exact List.getElem_mem _);have hbs:zk9 (zkr C.p.prs C.F g false) ((blkL false t).drop j) r1=(zkr C.p.prs C.F g false u r1).bind (zk9 (zkr C.p.prs C.F g false) ((blkL false t).drop (j+1))):=by
     rw[show(blkL false t).drop j=u::(blkL false t).drop (j+1) by rw[List.drop_eq_getElem_cons (by rw[bS.out];exact hlt),<-hu.out];congr 1;all_goals simp[blkL,hlt]];rfl
    rw[HB.out] at hbs;have jJ:=zh hbs;have wQ:=zh (HS.out (C.plus W.heap.size hi) oG.out wr r1 HR.out u _ false hnu hgu (fun e=>bE.out (by rw[hbs,show zkr C.p.prs C.F g false u r1=.gas from e];rfl)));have q0:=zb gy p0;have q1:=zb gy p1;have q2:=zb gy p2;have q3:=zb gy p3;have x3:wr.cell? ⟨W.heap.size,3,none⟩=some (.slice (some a) t.ks.length c):=HK.out.cell (.inr (.inr ⟨Nat.le_refl _,hz2⟩)) ax.out.2.2.2;clear hbs gy hnu hgu p0 p1 p2 p3 hu;go_wp2_with fail;refine wQ.out.mono ?_;rintro e w2 ⟨hk2,hb2,ho2⟩;have iG:match zkr C.p.prs C.F g false u r1 with
     | .gas=>True
     | .err x=>e=zlT x
     | .ok r=>(∃ u,e=.returned u)/\RI (C.plus W.heap.size hi) w2 r:=ho2
    have df:=zh (HK.out.trans hk2);clear ho2 hk2 wQ q0 q1 q2 q3 x3
    cases hx:zkr C.p.prs C.F g false u r1 with
    | gas=>exact absurd (by rw[jJ.out,hx];rfl) bE.out
    | err x =>
     rw[hx] at iG;subst iG;have ho3:o=.err x:=by rw[jJ.out,hx];rfl
     dsimp only;refine⟨rfl,aQ.out.trans (Kpt.less df.out),hb2,?_⟩;rw[ho3]
    | ok r2 =>
     rw[hx] at iG;obtain⟨⟨u2,rfl⟩,hr2⟩:=iG;have HR2:=zh hr2;have HB2:=zh (show zk9 (zkr C.p.prs C.F g false) ((blkL false t).drop (j+1)) r2=o by rw[jJ.out,hx];rfl);clear hr2 hx;go_wp2_with fail
     go_roundw
     case rel=>exact⟨j+1,r2,by omega,by go_num,HR2,df,HB2⟩
     case measure=>simp[intOf];omega
   ·skip
    have rR:=hwq j hlt;obtain⟨q,hq⟩:∃ q,t.ks.length-1-j=q:=⟨_,rfl⟩
    rw[hq] at rR;have hj1:(j:Int)<(t.ks.length:Int):=by omega
    have hj0:(0:Int)<=(j:Int):=by omega
    have wu:q<t.ks.length:=by omega
    have rZ:(q:Int)<(t.ks.length:Int):=by omega
    have r9:(0:Int)<=(q:Int):=by omega
    have gy:=HR.out.below;obtain⟨a,u,A1,c1,rfl,-,hu,⟨p0,p1,p2,p3⟩,hnu⟩:=ah.out.nd wu;have hgu:=HG.out u (by rw[<-hu.out];exact List.getElem_mem _);have hbs:zk9 (zkr C.p.prs C.F g true) ((blkL true t).drop j) r1=(zkr C.p.prs C.F g true u r1).bind (zk9 (zkr C.p.prs C.F g true) ((blkL true t).drop (j+1))):=by
     rw[show(blkL true t).drop j=u::(blkL true t).drop (j+1) by rw[List.drop_eq_getElem_cons (by rw[bS.out];exact hlt),<-hu.out];congr 1;all_goals simp[blkL,hq]];rfl
    rw[HB.out] at hbs;have jJ:=zh hbs;have wQ:=zh (HS.out (C.plus W.heap.size hi) oG.out wr r1 HR.out u _ true hnu hgu (fun e=>bE.out (by rw[hbs,show zkr C.p.prs C.F g true u r1=.gas from e];rfl)));have q0:=zb gy p0;have q1:=zb gy p1;have q2:=zb gy p2;have q3:=zb gy p3;have x3:wr.cell? ⟨W.heap.size,3,none⟩=some (.slice (some a) t.ks.length c):=HK.out.cell (.inr (.inr ⟨Nat.le_refl _,hz2⟩)) ax.out.2.2.2;clear hbs gy hnu hgu p0 p1 p2 p3 hu;go_wp2_with fail;refine wQ.out.mono ?_;rintro e w2 ⟨hk2,hb2,ho2⟩;have iG:match zkr C.p.prs C.F g true u r1 with
     | .gas=>True
     | .err x=>e=zlT x
     | .ok r=>(∃ u,e=.returned u)/\RI (C.plus W.heap.size hi) w2 r:=ho2
    have df:=zh (HK.out.trans hk2);clear ho2 hk2 wQ q0 q1 q2 q3 x3
    cases hx:zkr C.p.prs C.F g true u r1 with
    | gas=>exact absurd (by rw[jJ.out,hx];rfl) bE.out
    | err x =>
     rw[hx] at iG;subst iG;have ho3:o=.err x:=by rw[jJ.out,hx];rfl
     dsimp only;refine⟨rfl,aQ.out.trans (Kpt.less df.out),hb2,?_⟩;rw[ho3]
    | ok r2 =>
     rw[hx] at iG;obtain⟨⟨u2,rfl⟩,hr2⟩:=iG;have HR2:=zh hr2;have HB2:=zh (show zk9 (zkr C.p.prs C.F g true) ((blkL true t).drop (j+1)) r2=o by rw[jJ.out,hx];rfl);clear hr2 hx;go_wp2_with fail
     go_roundw
     case rel=>exact⟨j+1,r2,by omega,by go_num,HR2,df,HB2⟩
     case measure=>simp[intOf];omega
  ·have ho3:o=.ok r1:=by
    rw[<-HB.out,show(blkL back t).drop j=[] by rw[List.drop_eq_nil_iff,bS.out];omega];rfl
   have hbr:=HR.out.below;have hj1:¬ (j:Int)<(t.ks.length:Int):=by omega
   go_wp2_with fail;go_end0;refine⟨aQ.out.trans (Kpt.less HK.out),hbr,?_⟩
   try rw[ho3]
   exact⟨⟨_,rfl⟩,HR.out.less⟩
def brO (prs:List PR) (F:Int) (g:Nat) (back:Bool) (t:T) (r:RS):Out :=
 zkG F (fstT back t) r fun yes r=>(zk9 (zkr prs F g back) (blkL back (if yes=true then kid t 1 else kid t 2)) r).bind (zkx F (lstT back t) yes)
theorem zrZ {G:List PR->T->Prop} {g:Nat} (hS:IStC G g) {C:RC} (hC:C.Ok) {W:World} {r:RS} (h:RI C W r) (t:T) (v:Value) (back:Bool) (hv:NV C.w Any t v) (hk:t.ks.length=4) (hG1:∀ u∈(kid t 1).ks,G C.p.prs u) (hG2:∀ u∈(kid t 2).ks,G C.p.prs u)
  (aC:brO C.p.prs C.F g back t r ≠ .gas) :
  Calls Tryz.prog 76 #[.pointer (some ⟨C.rb,0,none⟩),v,.bool back] W (RunP C W (brO C.p.prs C.F g back t r)):=by
 obtain⟨A,c,rfl,-,hlk,hlc,hrow⟩:=hv.open_;have ah:=zh hrow;have HS:=zh hS;have HV:=zh hv;have hb0:=zkc (Below.refl W.heap.size W) (.cells #[.int .u8 t.k,.int .i64 t.n,.string t.s,.slice A t.ks.length c] 26);obtain⟨x0,x1,x2,x3⟩:=box4 (heap_alloc_new W (.cells #[.int .u8 t.k,.int .i64 t.n,.string t.s,.slice A t.ks.length c] 26));have HB0:=zh hb0;have H:=zh h;have HC:=zh hC;have HX:=zh (heap_alloc_new W (.cells #[.int .u8 t.k,.int .i64 t.n,.string t.s,.slice A t.ks.length c] 26));have kS:=zh (fun w' (hb:Below W.heap.size W w')=>zpt t _ back C.w w' (zka h.below hb) hv (by omega));have qD:=zh hk;clear hrow hS hb0 h hv hk hC hlk;go_enter Tryz.func76,Tryz.ntmps76;go_wp2_with fail;refine(kS.out _ HB0.out).mono ?_;rintro e w2 ⟨v1,v2,rfl,n1,n2,b2⟩;obtain⟨t1,ht1⟩:∃ x,fstT back t=x:=⟨_,rfl⟩
 obtain⟨t2,ht2⟩:∃ x,lstT back t=x:=⟨_,rfl⟩
 have HT1:=zh ht1;have HT2:=zh ht2;rw[ht1] at n1;rw[ht2] at n2;obtain⟨A1,c1,rfl,-⟩:=n1.open_;obtain⟨A2,c2,rfl,-⟩:=n2.open_;have eP:=zh n1;have aT:=zh n2;have b3:=zkc (zkc (zka HB0.out b2) (.cells #[.int .u8 t1.k,.int .i64 t1.n,.string t1.s,.slice A1 t1.ks.length c1] 26)) (.cells #[.int .u8 t2.k,.int .i64 t2.n,.string t2.s,.slice A2 t2.ks.length c2] 26);have k0:=zkn (zkn (zkf HX.out b2) (.cells #[.int .u8 t1.k,.int .i64 t1.n,.string t1.s,.slice A1 t1.ks.length c1] 26)) (.cells #[.int .u8 t2.k,.int .i64 t2.n,.string t2.s,.slice A2 t2.ks.length c2] 26);have k1:=zkn (heap_alloc_new w2 (.cells #[.int .u8 t1.k,.int .i64 t1.n,.string t1.s,.slice A1 t1.ks.length c1] 26)) (.cells #[.int .u8 t2.k,.int .i64 t2.n,.string t2.s,.slice A2 t2.ks.length c2] 26)
 have k2:=heap_alloc_new (w2.alloc (.cells #[.int .u8 t1.k,.int .i64 t1.n,.string t1.s,.slice A1 t1.ks.length c1] 26)) (.cells #[.int .u8 t2.k,.int .i64 t2.n,.string t2.s,.slice A2 t2.ks.length c2] 26);simp only[World.size_alloc] at k2;obtain⟨w3,hw3⟩:∃ x,(w2.alloc (.cells #[.int .u8 t1.k,.int .i64 t1.n,.string t1.s,.slice A1 t1.ks.length c1] 26)).alloc (.cells #[.int .u8 t2.k,.int .i64 t2.n,.string t2.s,.slice A2 t2.ks.length c2] 26)=x:=⟨_,rfl⟩
 rw[hw3] at b3 k0 k1 k2;have hz2:=zka HB0.out b2;have hzz:=hz2.size;obtain⟨kP,h3⟩:=H.out.plus HC.out b3;have dF:=zh (Kpt.of_below (n0:=C.n0) (kb:=C.kb) b3);have l0:=zku k0;have l1:=zku k1;have l2:=zku k2;obtain⟨hi,hhi⟩:∃ x,w3.heap.size=x:=⟨_,rfl⟩
 rw[hhi] at kP h3 l0 l1 l2;have mM:=zh kP;have H3:=zh h3;have K0:=zh k0;have K1:=zh k1;have K2:=zh k2;have jF:=zh (zoi kP h3 t1 _ n1);obtain⟨p1,⟨y0,y1,y2,y3⟩⟩:True/\(w3.cell? ⟨w2.heap.size,0,none⟩=some (.int .u8 t1.k)/\w3.cell? ⟨w2.heap.size,1,none⟩=some (.int .i64 t1.n)/\w3.cell? ⟨w2.heap.size,2,none⟩=some (.string t1.s)/\w3.cell? ⟨w2.heap.size,3,none⟩=some (.slice A1 t1.ks.length c1)):=⟨trivial,zc k1 rfl,zc k1 rfl,zc k1 rfl,zc k1 rfl⟩
 clear n1 n2 b2 b3 k0 k1 k2 hz2 kP h3 x0 x1 x2 x3 HX HB0 kS p1 ht1 ht2;go_upto_region 2 with fail;clear hw3;go_wp2_with fail;refine jF.out.mono ?_;rintro e w4 ⟨hk4,hb4,eu⟩;have fH:=zh (dF.out.trans (Kpt.less (C:=C) hk4));have aK:=zh (show Below C.w.heap.size C.w w4 from hb4);clear y0 y1 y2 y3 jF;rcases eu with⟨x,rfl,hx⟩|⟨b,r1,rfl,hr1,hx⟩
 ·refine⟨rfl,fH.out,aK.out,?_⟩;rw[show brO C.p.prs C.F g back t r=.err x by unfold brO;rw[HT1.out];exact hx _]
 ·have k0:=hk4.blk (.inr (.inr ⟨by omega,l0⟩)) K0.out;have k2:=hk4.blk (.inr (.inr ⟨by omega,l2⟩)) K2.out;have HR4:=zh hr1;have yE:=zh (show brO C.p.prs C.F g back t r=(runO C.p.prs C.F g back (if b=true then kid t 1 else kid t 2) r1).bind (zkx C.F t2 b) by unfold brO;rw[HT1.out,HT2.out];exact hx _);have K4:=zh k0;have K5:=zh k2;have z3:w4.cell? ⟨W.heap.size,3,none⟩=some (.slice A t.ks.length c):=zc k0 rfl;have ed:=zh aC;clear hk4 hb4 hr1 hx k0 k2 aC
  cases b
  ·skip
   have hI:2<t.ks.length:=by have:=qD.out;omega
   have hI1:(2:Int)<(t.ks.length:Int):=by omega
   obtain⟨a,u,Au,cu,rfl,-,hu,⟨p0,p1,p2,p3⟩,hnu⟩:=ah.out.nd hI;have iH:kid t 2=u:=by unfold kid;rw[List.getD_eq_getElem?_getD,List.getElem?_eq_getElem hI];exact hu.out
   have uN:=zh (show ∀ x∈u.ks,G C.p.prs x by rw[<-iH];exact hG2);have iP:=zh (show brO C.p.prs C.F g back t r=(runO C.p.prs C.F g back u r1).bind (zkx C.F t2 false) by rw[yE.out];simp only[Bool.false_eq_true,if_false,if_true,iH]);have hgu:runO C.p.prs C.F g back u r1 ≠ .gas:=fun e=>ed.out (by rw[iP.out,e];rfl);have az:=zh (zlz HS.out mM.out HR4.out u _ back hnu uN.out hgu);have ha:a.add (2*4)=⟨a.block,a.off+8,none⟩:=by unfold Addr.add;split<;>simp_all
   rw[ha] at p0 p1 p2 p3;have q0:w4.cell? ⟨a.block,a.off+8,none⟩=some (.int .u8 u.k):=zb aK.out p0;have q1:w4.cell? ⟨a.block,a.off+8+1,none⟩=some (.int .i64 u.n):=zb aK.out p1;have q2:w4.cell? ⟨a.block,a.off+8+2,none⟩=some (.string u.s):=zb aK.out p2;have q3:w4.cell? ⟨a.block,a.off+8+3,none⟩=some (.slice Au u.ks.length cu):=zb aK.out p3;clear iH hnu hu p0 p1 p2 p3 hgu;go_wp2_with fail;refine az.out.mono ?_;rintro e w5 ⟨hk5,hb5,av⟩;have jR:=zh (fH.out.trans (Kpt.less (C:=C) hk5));have bP:=zh (show Below C.w.heap.size C.w w5 from hb5);have dN:match runO C.p.prs C.F g back u r1 with
    | .gas=>True
    | .err x=>e=zlT x
    | .ok r=>(∃ u,e=.returned u)/\RI (C.plus W.heap.size hi) w5 r:=av
   have k5:=hk5.blk (.inr (.inr ⟨by omega,l2⟩)) K5.out;have K6:=zh k5;clear q0 q1 q2 q3 z3 hk5 hb5 av k5
   cases hx:runO C.p.prs C.F g back u r1 with
   | gas=>exact absurd (by rw[iP.out,hx];rfl) ed.out
   | err x =>
    rw[hx] at dN;subst dN;refine⟨rfl,jR.out,bP.out,?_⟩;rw[iP.out,hx];rfl
   | ok r2 =>
    rw[hx] at dN;obtain⟨⟨u2,rfl⟩,hr2⟩:=dN;have HAS:=zh (zm2 mM.out hr2 t2 _ aT.out false);have kG:=zh (show brO C.p.prs C.F g back t r=zkx C.F t2 false r2 by rw[iP.out,hx];rfl);have q0:w5.cell? ⟨w2.heap.size+1,0,none⟩=some (.int .u8 t2.k):=zc K6.out rfl;have q1:w5.cell? ⟨w2.heap.size+1,1,none⟩=some (.int .i64 t2.n):=zc K6.out rfl;have q2:w5.cell? ⟨w2.heap.size+1,2,none⟩=some (.string t2.s):=zc K6.out rfl;have q3:w5.cell? ⟨w2.heap.size+1,3,none⟩=some (.slice A2 t2.ks.length c2):=zc K6.out rfl;clear hx hr2;go_wp2_with fail;refine HAS.out.mono ?_;rintro e w6 ⟨dW,hb6,dD⟩;have gQ:=zh (jR.out.trans (Kpt.less (C:=C) dW));have di:=zh (show Below C.w.heap.size C.w w6 from hb6);have dM:match zkx C.F t2 false r2 with
     | .gas=>True
     | .err x=>e=zlT x
     | .ok r=>(∃ u,e=.returned u)/\RI (C.plus W.heap.size hi) w6 r:=dD
    clear q0 q1 q2 q3 dW hb6 dD
    cases hy:zkx C.F t2 false r2 with
    | gas=>exact absurd (by rw[kG.out,hy]) ed.out
    | err x =>
     rw[hy] at dM;subst dM;refine⟨rfl,gQ.out,di.out,?_⟩;rw[kG.out,hy]
    | ok r3 =>
     rw[hy] at dM;obtain⟨⟨u3,rfl⟩,hr3⟩:=dM;have iK:=zh hr3.less;have uS:=zh (show brO C.p.prs C.F g back t r=.ok r3 by rw[kG.out,hy]);clear hr3 hy;go_wp2_with fail;go_end0;refine⟨gQ.out,di.out,?_⟩;rw[uS.out];exact⟨⟨_,rfl⟩,iK.out⟩
  ·skip
   have hI:1<t.ks.length:=by have:=qD.out;omega
   have hI1:(1:Int)<(t.ks.length:Int):=by omega
   obtain⟨a,u,Au,cu,rfl,-,hu,⟨p0,p1,p2,p3⟩,hnu⟩:=ah.out.nd hI;have iH:kid t 1=u:=by unfold kid;rw[List.getD_eq_getElem?_getD,List.getElem?_eq_getElem hI];exact hu.out
   have uN:=zh (show ∀ x∈u.ks,G C.p.prs x by rw[<-iH];exact hG1);have iP:=zh (show brO C.p.prs C.F g back t r=(runO C.p.prs C.F g back u r1).bind (zkx C.F t2 true) by rw[yE.out];simp only[Bool.false_eq_true,if_false,if_true,iH]);have hgu:runO C.p.prs C.F g back u r1 ≠ .gas:=fun e=>ed.out (by rw[iP.out,e];rfl);have az:=zh (zlz HS.out mM.out HR4.out u _ back hnu uN.out hgu);have ha:a.add (1*4)=⟨a.block,a.off+4,none⟩:=by unfold Addr.add;split<;>simp_all
   rw[ha] at p0 p1 p2 p3;have q0:w4.cell? ⟨a.block,a.off+4,none⟩=some (.int .u8 u.k):=zb aK.out p0;have q1:w4.cell? ⟨a.block,a.off+4+1,none⟩=some (.int .i64 u.n):=zb aK.out p1;have q2:w4.cell? ⟨a.block,a.off+4+2,none⟩=some (.string u.s):=zb aK.out p2;have q3:w4.cell? ⟨a.block,a.off+4+3,none⟩=some (.slice Au u.ks.length cu):=zb aK.out p3;clear iH hnu hu p0 p1 p2 p3 hgu;go_wp2_with fail;refine az.out.mono ?_;rintro e w5 ⟨hk5,hb5,av⟩;have jR:=zh (fH.out.trans (Kpt.less (C:=C) hk5));have bP:=zh (show Below C.w.heap.size C.w w5 from hb5);have dN:match runO C.p.prs C.F g back u r1 with
    | .gas=>True
    | .err x=>e=zlT x
    | .ok r=>(∃ u,e=.returned u)/\RI (C.plus W.heap.size hi) w5 r:=av
   have k5:=hk5.blk (.inr (.inr ⟨by omega,l2⟩)) K5.out;have K6:=zh k5;clear q0 q1 q2 q3 z3 hk5 hb5 av k5
   cases hx:runO C.p.prs C.F g back u r1 with
   | gas=>exact absurd (by rw[iP.out,hx];rfl) ed.out
   | err x =>
    rw[hx] at dN;subst dN;refine⟨rfl,jR.out,bP.out,?_⟩;rw[iP.out,hx];rfl
   | ok r2 =>
    rw[hx] at dN;obtain⟨⟨u2,rfl⟩,hr2⟩:=dN;have HAS:=zh (zm2 mM.out hr2 t2 _ aT.out true);have kG:=zh (show brO C.p.prs C.F g back t r=zkx C.F t2 true r2 by rw[iP.out,hx];rfl);have q0:w5.cell? ⟨w2.heap.size+1,0,none⟩=some (.int .u8 t2.k):=zc K6.out rfl;have q1:w5.cell? ⟨w2.heap.size+1,1,none⟩=some (.int .i64 t2.n):=zc K6.out rfl;have q2:w5.cell? ⟨w2.heap.size+1,2,none⟩=some (.string t2.s):=zc K6.out rfl;have q3:w5.cell? ⟨w2.heap.size+1,3,none⟩=some (.slice A2 t2.ks.length c2):=zc K6.out rfl;clear hx hr2;go_wp2_with fail;refine HAS.out.mono ?_;rintro e w6 ⟨dW,hb6,dD⟩;have gQ:=zh (jR.out.trans (Kpt.less (C:=C) dW));have di:=zh (show Below C.w.heap.size C.w w6 from hb6);have dM:match zkx C.F t2 true r2 with
     | .gas=>True
     | .err x=>e=zlT x
     | .ok r=>(∃ u,e=.returned u)/\RI (C.plus W.heap.size hi) w6 r:=dD
    clear q0 q1 q2 q3 dW hb6 dD
    cases hy:zkx C.F t2 true r2 with
    | gas=>exact absurd (by rw[kG.out,hy]) ed.out
    | err x =>
     rw[hy] at dM;subst dM;refine⟨rfl,gQ.out,di.out,?_⟩;rw[kG.out,hy]
    | ok r3 =>
     rw[hy] at dM;obtain⟨⟨u3,rfl⟩,hr3⟩:=dM;have iK:=zh hr3.less;have uS:=zh (show brO C.p.prs C.F g back t r=.ok r3 by rw[kG.out,hy]);clear hr3 hy;go_wp2_with fail;go_end0;refine⟨gQ.out,di.out,?_⟩;rw[uS.out];exact⟨⟨_,rfl⟩,iK.out⟩
def Up (n:Nat) (o:Out):Prop:=∀ r,o=.ok r->n<=r.n
section
variable {m n:Nat} {o:Out} {F:Int} {t:T} {r:RS}
theorem Up.of (h:Good n o):Up n o:=h.2
theorem Up.mono (h:Up n o) (hm:m<=n):Up m o:=fun r e=>Nat.le_trans hm (h r e)
theorem Up.bind {f:RS->Out} (h:Up n o) (hf:∀ r,n<=r.n->Up m (f r)):Up m (o.bind f):=by
 cases o with
 | gas=>intro r e;cases e
 | err x=>intro r e;cases e
 | ok r=>exact hf r (h r rfl)
theorem zqm {f:Int->RS->Out} (hf:∀ x,Up m (f x r)):Up m (valO t r f):=by
 unfold valO
 split
 ·intro r e;cases e
 ·exact hf _
theorem zoj {f:Bool->RS->Out} (hf:∀ b r',r.n+1<=r'.n->Up m (f b r')):Up m (zkG F t r f):=by
 unfold zkG;exact(Up.of (zky F r)).bind fun r' h=>zqm fun x=>hf _ _ h
theorem zmC {f:T->RS->Out} (hf:∀ t r,Up r.n (f t r)):∀ (l:List T) (r:RS),Up r.n (zk9 f l r)
 | [],r=>fun r' e=>by injection e with e;subst e;exact Nat.le_refl _
 | t::ts,r=>by
  rw[zk9];exact(hf t r).bind fun r1 h1=>(zmC hf ts r1).mono h1
theorem zrf {f:T->RS->Out} (hf:∀ t r,Up r.n (f t r)) {entry test:T} {l1 l2:List T}:∀ (m:Nat) (r:RS),Up r.n (zml F f entry test l1 l2 m r)
 | 0,_=>fun r' e=>by cases e
 | m+1,r=>by
  rw[zml];refine(zmC hf l1 r).bind fun r1 h1=>zoj fun b r2 h2=>?_
  split
  ·intro r' e;injection e with e;subst e;omega
  ·refine(zmC hf l2 r2).bind fun r3 h3=>(Up.of (zlA F entry false r3)).bind fun r4 h4=>?_;exact(zrf hf m r4).mono (by omega)
end
theorem znp {prs:List PR} {F:Int}:∀ (g:Nat) (back:Bool) (t:T) (r:RS),Up r.n (zkr prs F g back t r)
 | 0,_,_,_=>fun r' e=>by cases e
 | g+1,back,t,r=>by
  have hb:∀ (back:Bool) l r1,Up r1.n (zk9 (zkr prs F g back) l r1):=fun back l r1=>zmC (fun u r2=>znp g back u r2) l r1;rw[zkr]
  split
  ·exact zoj fun b r1 h1=>(hb _ _ r1).bind fun r2 h2=>(Up.of (zlA _ _ _ _)).mono (by omega)
  ·split
   ·refine(Up.of (zlA _ _ _ _)).bind fun r1 h1=>?_;exact(zrf (fun u r2=>znp g back u r2) g r1).mono (by omega)
   ·split
    ·refine(Up.of (zky F r)).bind fun r1 h1=>zqm fun x=>?_;refine(Up.of (zkH r1 _)).bind fun r2 h2=>(hb _ _ r2).bind fun r3 h3=>(Up.of (zky F r3)).bind fun r4 h4=>zqm fun x=>?_;exact(Up.of (zkH r4 _)).mono (by omega)
    ·split
     ·refine(Up.of (zky F r)).bind fun r1 h1=>?_;refine(Up.of (zkH r1 _)).bind fun r2 h2=>(hb _ _ r2).bind fun r3 h3=>(Up.of (zky F r3)).bind fun r4 h4=>?_;exact(Up.of (zkH r4 _)).mono (by omega)
     ·split
      ·split
       ·intro r' e;cases e
       ·refine(Up.of (zky F r)).bind fun r1 h1=>?_;refine(Up.of (zkH r1 _)).bind fun r2 h2=>(hb _ _ _).bind fun r3 h3=>(Up.of (zky F r3)).bind fun r4 h4=>?_;exact(Up.of (zkH r4 _)).mono (by simp only at h3;omega)
      ·refine(Up.of (zky F r)).bind fun r1 h1=>?_;exact(Up.of (zkH r1 _)).mono (by omega)
def lpO (prs:List PR) (F:Int) (g:Nat) (back:Bool) (t:T) (r:RS):Out :=
 (zkx F (fstT back t) true r).bind (zml F (zkr prs F g back) (fstT back t) (lstT back t) (blkL back (kid t 1)) (blkL back (kid t 2)) g)
def stp (rb:Nat) (W:World):Nat:=match W.cell? ⟨rb,7,none⟩ with
 | some (.int _ n)=>n.toNat
 | _=>0
theorem zvF {C:RC} {W:World} {r:RS} (h:RI C W r):stp C.rb W=r.n:=by
 unfold stp;rw[h.cells.2.1];simp
theorem zuz {G:List PR->T->Prop} {g:Nat} (hS:IStC G g) {C:RC} (hC:C.Ok) {W:World} {r:RS} (h:RI C W r) (t:T) (v:Value) (back:Bool) (hv:NV C.w Any t v) (hk:t.ks.length=4) (hG1:∀ u∈(kid t 1).ks,G C.p.prs u) (hG2:∀ u∈(kid t 2).ks,G C.p.prs u)
  (aC:lpO C.p.prs C.F g back t r ≠ .gas) :
  Calls Tryz.prog 77 #[.pointer (some ⟨C.rb,0,none⟩),v,.bool back] W (RunP C W (lpO C.p.prs C.F g back t r)):=by
 obtain⟨A,c,rfl,-,hlk,hlc,hrow⟩:=hv.open_;have ah:=zh hrow;have HS:=zh hS;have HV:=zh hv;have hb0:=zkc (Below.refl W.heap.size W) (.cells #[.int .u8 t.k,.int .i64 t.n,.string t.s,.slice A t.ks.length c] 26);obtain⟨x0,x1,x2,x3⟩:=box4 (heap_alloc_new W (.cells #[.int .u8 t.k,.int .i64 t.n,.string t.s,.slice A t.ks.length c] 26));have HB0:=zh hb0;have H:=zh h;have HC:=zh hC;have HX:=zh (heap_alloc_new W (.cells #[.int .u8 t.k,.int .i64 t.n,.string t.s,.slice A t.ks.length c] 26));have kS:=zh (fun w' (hb:Below W.heap.size W w')=>zpt t _ back C.w w' (zka h.below hb) hv (by omega));have qD:=zh hk;clear hrow hS hb0 h hv hk hC hlk;go_enter Tryz.func77,Tryz.ntmps77;go_wp2_with fail;refine(kS.out _ HB0.out).mono ?_;rintro e w2 ⟨v1,v2,rfl,n1,n2,b2⟩;obtain⟨t1,ht1⟩:∃ x,fstT back t=x:=⟨_,rfl⟩
 obtain⟨t2,ht2⟩:∃ x,lstT back t=x:=⟨_,rfl⟩
 have HT1:=zh ht1;have HT2:=zh ht2;rw[ht1] at n1;rw[ht2] at n2;obtain⟨A1,c1,rfl,-⟩:=n1.open_;obtain⟨A2,c2,rfl,-⟩:=n2.open_;have eP:=zh n1;have aT:=zh n2;have b3:=zkc (zkc (zka HB0.out b2) (.cells #[.int .u8 t1.k,.int .i64 t1.n,.string t1.s,.slice A1 t1.ks.length c1] 26)) (.cells #[.int .u8 t2.k,.int .i64 t2.n,.string t2.s,.slice A2 t2.ks.length c2] 26);have k0:=zkn (zkn (zkf HX.out b2) (.cells #[.int .u8 t1.k,.int .i64 t1.n,.string t1.s,.slice A1 t1.ks.length c1] 26)) (.cells #[.int .u8 t2.k,.int .i64 t2.n,.string t2.s,.slice A2 t2.ks.length c2] 26);have k1:=zkn (heap_alloc_new w2 (.cells #[.int .u8 t1.k,.int .i64 t1.n,.string t1.s,.slice A1 t1.ks.length c1] 26)) (.cells #[.int .u8 t2.k,.int .i64 t2.n,.string t2.s,.slice A2 t2.ks.length c2] 26)
 have k2:=heap_alloc_new (w2.alloc (.cells #[.int .u8 t1.k,.int .i64 t1.n,.string t1.s,.slice A1 t1.ks.length c1] 26)) (.cells #[.int .u8 t2.k,.int .i64 t2.n,.string t2.s,.slice A2 t2.ks.length c2] 26);simp only[World.size_alloc] at k2;obtain⟨w3,hw3⟩:∃ x,(w2.alloc (.cells #[.int .u8 t1.k,.int .i64 t1.n,.string t1.s,.slice A1 t1.ks.length c1] 26)).alloc (.cells #[.int .u8 t2.k,.int .i64 t2.n,.string t2.s,.slice A2 t2.ks.length c2] 26)=x:=⟨_,rfl⟩
 rw[hw3] at b3 k0 k1 k2;have hz2:=zka HB0.out b2;have hzz:=hz2.size;obtain⟨kP,h3⟩:=H.out.plus HC.out b3;have dF:=zh (Kpt.of_below (n0:=C.n0) (kb:=C.kb) b3);have l0:=zku k0;have l1:=zku k1;have l2:=zku k2;obtain⟨hi,hhi⟩:∃ x,w3.heap.size=x:=⟨_,rfl⟩
 rw[hhi] at kP h3 l0 l1 l2;have mM:=zh kP;have H3:=zh h3;have K0:=zh k0;have K1:=zh k1;have K2:=zh k2;have jF:=zh (zm2 kP h3 t1 _ n1 true);obtain⟨p1,⟨y0,y1,y2,y3⟩⟩:True/\(w3.cell? ⟨w2.heap.size,0,none⟩=some (.int .u8 t1.k)/\w3.cell? ⟨w2.heap.size,1,none⟩=some (.int .i64 t1.n)/\w3.cell? ⟨w2.heap.size,2,none⟩=some (.string t1.s)/\w3.cell? ⟨w2.heap.size,3,none⟩=some (.slice A1 t1.ks.length c1)):=⟨trivial,zc k1 rfl,zc k1 rfl,zc k1 rfl,zc k1 rfl⟩
 clear n1 n2 b2 b3 k0 k1 k2 hz2 kP h3 x0 x1 x2 x3 HX HB0 kS p1 ht1 ht2;go_upto_region 2 with fail;clear hw3;obtain⟨o,ho⟩:∃ o,lpO C.p.prs C.F g back t r=o:=⟨_,rfl⟩
 have HO:=zh (show(zkx C.F t1 true r).bind (zml C.F (zkr C.p.prs C.F g back) t1 t2 (blkL back (kid t 1)) (blkL back (kid t 2)) g)=o by rw[<-ho];unfold lpO;rw[HT1.out,HT2.out]);rw[ho] at aC ⊢;have ed:=zh aC;have bU:=zh ho;clear aC ho;go_wp2_with fail;refine jF.out.mono ?_;rintro e w4 ⟨hk4,hb4,eu⟩;have fH:=zh (dF.out.trans (Kpt.less (C:=C) hk4));have aK:=zh (show Below C.w.heap.size C.w w4 from hb4);have bQ:match zkx C.F t1 true r with
  | .gas=>True
  | .err x=>e=zlT x
  | .ok r=>(∃ u,e=.returned u)/\RI (C.plus W.heap.size hi) w4 r:=eu
 have fw:=zh hk4;clear y0 y1 y2 y3 jF hk4 hb4 eu
 cases hy:zkx C.F t1 true r with
 | gas=>exact absurd (by rw[<-HO.out,hy];rfl) ed.out
 | err x =>
  rw[hy] at bQ;subst bQ;refine⟨rfl,fH.out,aK.out,?_⟩;rw[<-HO.out,hy];rfl
 | ok r1 =>
  rw[hy] at bQ;obtain⟨⟨u3,rfl⟩,hr1⟩:=bQ;have HR4:=zh hr1;have iW:=zh (show zml C.F (zkr C.p.prs C.F g back) t1 t2 (blkL back (kid t 1)) (blkL back (kid t 2)) g r1=o by rw[<-HO.out,hy];rfl);clear hr1 hy;have hI1:(1:Int)<(t.ks.length:Int):=by have:=qD.out;omega
  have hI2:(2:Int)<(t.ks.length:Int):=by have:=qD.out;omega
  have hi1:1<t.ks.length:=by omega
  have hi2:2<t.ks.length:=by omega
  obtain⟨a,u,Au,cu,rfl,-,hu,⟨p0,p1,p2,p3⟩,hnu⟩:=ah.out.nd hi1;obtain⟨a',u',Au',cu',e',-,hu',⟨p4,p5,p6,p7⟩,hnu'⟩:=ah.out.nd hi2;injection e' with e';subst e';have iH:kid t 1=u:=by unfold kid;rw[List.getD_eq_getElem?_getD,List.getElem?_eq_getElem hi1];exact hu.out
  have sM:kid t 2=u':=by unfold kid;rw[List.getD_eq_getElem?_getD,List.getElem?_eq_getElem hi2];exact hu'.out
  rw[iH] at hG1;rw[sM] at hG2;rw[iH,sM] at iW;have pF:=zh hG1;have HG2:=zh hG2;have wX:=zh hnu;have HNU':=zh hnu';have ha:a.add (1*4)=⟨a.block,a.off+4,none⟩:=by unfold Addr.add;split<;>simp_all
  have ha':a.add (2*4)=⟨a.block,a.off+8,none⟩:=by unfold Addr.add;split<;>simp_all
  rw[ha] at p0 p1 p2 p3;rw[ha'] at p4 p5 p6 p7;have HPP:=zh (show ∀ w',Below C.w.heap.size C.w w'->(w'.cell? ⟨a.block,a.off+4,none⟩=some (.int .u8 u.k)/\w'.cell? ⟨a.block,a.off+4+1,none⟩=some (.int .i64 u.n)/\w'.cell? ⟨a.block,a.off+4+2,none⟩=some (.string u.s)/\w'.cell? ⟨a.block,a.off+4+3,none⟩=some (.slice Au u.ks.length cu))/\(w'.cell? ⟨a.block,a.off+8,none⟩=some (.int .u8 u'.k)/\w'.cell? ⟨a.block,a.off+8+1,none⟩=some (.int .i64 u'.n)/\w'.cell? ⟨a.block,a.off+8+2,none⟩=some (.string u'.s)/\w'.cell? ⟨a.block,a.off+8+3,none⟩=some (.slice Au' u'.ks.length cu')) from fun w' hb=>⟨⟨zb hb p0,zb hb p1,zb hb p2,zb hb p3⟩,⟨zb hb p4,zb hb p5,zb hb p6,zb hb p7⟩⟩);clear iH sM hnu hnu' hu hu' p0 p1 p2 p3 p4 p5 p6 p7 ha ha' hG1 hG2;have hz0:W.heap.size<hi:=l0;go_wp2_with fail
  go_loopw [] (fun wr=>∃ (m:Nat) (r1:RS),Hid (RI (C.plus W.heap.size hi) wr r1)/\Hid (Kpt C.n0 (C.plus W.heap.size hi).kb w3 wr)/\Hid (zml C.F (zkr C.p.prs C.F g back) t1 t2 (blkL back u) (blkL back u') m r1=o)) (fun wr=>C.F.toNat-stp C.rb wr)
  case atStart=>exact⟨g,r1,HR4,fw,iW⟩
  case round =>
   obtain⟨m,r3,HR,HK,HL⟩:=hrel;have j0:=HK.out.blk (.inr (.inr ⟨by omega,l0⟩)) K0.out;have j1:=HK.out.blk (.inr (.inr ⟨by omega,l1⟩)) K1.out;have j2:=HK.out.blk (.inr (.inr ⟨by omega,l2⟩)) K2.out;have z3:wr.cell? ⟨W.heap.size,3,none⟩=some (.slice (some a) t.ks.length c):=zc j0 rfl
   cases m with
   | zero=>exact absurd HL.out.symm ed.out
   | succ m =>
    have HL2:=zh (show(runO C.p.prs C.F g back u r3).bind (fun r=>zkG C.F t2 r fun b r=>if b=true then .ok r else (runO C.p.prs C.F g back u' r).bind fun r=>(zkx C.F t1 false r).bind (zml C.F (zkr C.p.prs C.F g back) t1 t2 (blkL back u) (blkL back u') m))=o from HL.out);have hgu:runO C.p.prs C.F g back u r3 ≠ .gas:=fun e=>ed.out (by rw[<-HL2.out,e];rfl);have az:=zh (zlz HS.out mM.out HR.out u _ back wX.out pF.out hgu);obtain⟨⟨q0,q1,q2,q3⟩,-⟩:=HPP.out wr HR.out.below;clear hgu j0 j1 j2;go_wp2_with fail;refine az.out.mono ?_;rintro e w5 ⟨hk5,hb5,av⟩;have jR:=zh (HK.out.trans hk5);have bP:=zh (show Below C.w.heap.size C.w w5 from hb5);have dN:match runO C.p.prs C.F g back u r3 with
     | .gas=>True
     | .err x=>e=zlT x
     | .ok r=>(∃ u,e=.returned u)/\RI (C.plus W.heap.size hi) w5 r:=av
    clear q0 q1 q2 q3 z3 hk5 hb5 av az
    cases hx:runO C.p.prs C.F g back u r3 with
    | gas=>exact absurd (by rw[<-HL2.out,hx];rfl) ed.out
    | err x =>
     rw[hx] at dN;subst dN;refine⟨rfl,dF.out.trans (Kpt.less (C:=C) jR.out),bP.out,?_⟩
     try rw[bU.out]
     rw[<-HL2.out,hx];rfl
    | ok r4 =>
     rw[hx] at dN;obtain⟨⟨u2,rfl⟩,hr4⟩:=dN;have Ak:=zh (zmC (fun t r=>znp g back t r) (blkL back u) r3 r4 hx);have HL3:=zh (show(zkG C.F t2 r4 fun b r=>if b=true then .ok r else (runO C.p.prs C.F g back u' r).bind fun r=>(zkx C.F t1 false r).bind (zml C.F (zkr C.p.prs C.F g back) t1 t2 (blkL back u) (blkL back u') m))=o by rw[<-HL2.out,hx];rfl);have HHO2:=zh (zoi mM.out hr4 t2 _ aT.out);have j2:=jR.out.blk (.inr (.inr ⟨by omega,l2⟩)) K2.out;have q0:w5.cell? ⟨w2.heap.size+1,0,none⟩=some (.int .u8 t2.k):=zc j2 rfl;have q1:w5.cell? ⟨w2.heap.size+1,1,none⟩=some (.int .i64 t2.n):=zc j2 rfl;have q2:w5.cell? ⟨w2.heap.size+1,2,none⟩=some (.string t2.s):=zc j2 rfl;have q3:w5.cell? ⟨w2.heap.size+1,3,none⟩=some (.slice A2 t2.ks.length c2):=zc j2 rfl;clear hx hr4 j2;go_wp2_with fail;refine HHO2.out.mono ?_;rintro e w6 ⟨dW,hb6,dD⟩;have gQ:=zh (jR.out.trans dW)
     have di:=zh (show Below C.w.heap.size C.w w6 from hb6);clear q0 q1 q2 q3 dW hb6 HHO2;rcases dD with⟨x,rfl,hx⟩|⟨b,r5,rfl,kW,hx⟩
     ·refine⟨rfl,dF.out.trans (Kpt.less (C:=C) gQ.out),di.out,?_⟩
      try rw[bU.out]
      rw[<-HL3.out,show ∀ f,zkG C.F t2 r4 f=.err x from hx]
     ·have iK:=zh kW;have HL4:=zh (show(if b=true then .ok r5 else (runO C.p.prs C.F g back u' r5).bind fun r=>(zkx C.F t1 false r).bind (zml C.F (zkr C.p.prs C.F g back) t1 t2 (blkL back u) (blkL back u') m))=o by rw[<-HL3.out,show ∀ f,zkG C.F t2 r4 f=f b r5 from hx]);have HUP2:=zh (zoj (t:=t2) (F:=C.F) (r:=r4) (m:=r4.n+1) (f:=fun _ r=>.ok r) (fun b r' h r'' e=>by injection e with e;subst e;exact h) r5 (hx _));clear hx kW
      cases b
      ·have qC:=zh (show(runO C.p.prs C.F g back u' r5).bind (fun r=>(zkx C.F t1 false r).bind (zml C.F (zkr C.p.prs C.F g back) t1 t2 (blkL back u) (blkL back u') m))=o from HL4.out);have hgu:runO C.p.prs C.F g back u' r5 ≠ .gas:=fun e=>ed.out (by rw[<-qC.out,e];rfl);have az:=zh (zlz HS.out mM.out iK.out u' _ back HNU'.out HG2.out hgu);have j0:=gQ.out.blk (.inr (.inr ⟨by omega,l0⟩)) K0.out;have z3:w6.cell? ⟨W.heap.size,3,none⟩=some (.slice (some a) t.ks.length c):=zc j0 rfl;obtain⟨-,q0,q1,q2,q3⟩:=HPP.out w6 di.out;clear hgu j0;go_wp2_with fail;refine az.out.mono ?_;rintro e w7 ⟨wD,oP,gW⟩;have qF:=zh (gQ.out.trans wD);have uV:=zh (show Below C.w.heap.size C.w w7 from oP);have pO:match runO C.p.prs C.F g back u' r5 with
        | .gas=>True
        | .err x=>e=zlT x
        | .ok r=>(∃ u,e=.returned u)/\RI (C.plus W.heap.size hi) w7 r:=gW
       clear q0 q1 q2 q3 z3 wD oP gW az
       cases hx:runO C.p.prs C.F g back u' r5 with
       | gas=>exact absurd (by rw[<-qC.out,hx];rfl) ed.out
       | err x =>
        rw[hx] at pO;subst pO;refine⟨rfl,dF.out.trans (Kpt.less (C:=C) qF.out),uV.out,?_⟩
        try rw[bU.out]
        rw[<-qC.out,hx];rfl
       | ok r6 =>
        rw[hx] at pO;obtain⟨⟨u2,rfl⟩,eZ⟩:=pO;have HUP3:=zh (zmC (fun t r=>znp g back t r) (blkL back u') r5 r6 hx);have Ba:=zh (show(zkx C.F t1 false r6).bind (zml C.F (zkr C.p.prs C.F g back) t1 t2 (blkL back u) (blkL back u') m)=o by rw[<-qC.out,hx];rfl);have HAS:=zh (zm2 mM.out eZ t1 _ eP.out false);have j1:=qF.out.blk (.inr (.inr ⟨by omega,l1⟩)) K1.out;have q0:w7.cell? ⟨w2.heap.size,0,none⟩=some (.int .u8 t1.k):=zc j1 rfl;have q1:w7.cell? ⟨w2.heap.size,1,none⟩=some (.int .i64 t1.n):=zc j1 rfl;have q2:w7.cell? ⟨w2.heap.size,2,none⟩=some (.string t1.s):=zc j1 rfl;have q3:w7.cell? ⟨w2.heap.size,3,none⟩=some (.slice A1 t1.ks.length c1):=zc j1 rfl;clear hx eZ j1;go_wp2_with fail;refine HAS.out.mono ?_;rintro e w8 ⟨qM,nL,kJ⟩;have qE:=zh (qF.out.trans qM);have mP:=zh (show Below C.w.heap.size C.w w8 from nL)
        have dL:match zkx C.F t1 false r6 with
         | .gas=>True
         | .err x=>e=zlT x
         | .ok r=>(∃ u,e=.returned u)/\RI (C.plus W.heap.size hi) w8 r:=kJ
        clear q0 q1 q2 q3 qM nL kJ HAS
        cases hy:zkx C.F t1 false r6 with
        | gas=>exact absurd (by rw[<-Ba.out,hy];rfl) ed.out
        | err x =>
         rw[hy] at dL;subst dL;refine⟨rfl,dF.out.trans (Kpt.less (C:=C) qE.out),mP.out,?_⟩
         try rw[bU.out]
         rw[<-Ba.out,hy];rfl
        | ok r7 =>
         rw[hy] at dL;obtain⟨⟨u3,rfl⟩,rY⟩:=dL;have rq:=zh rY;have HL7:=zh (show zml C.F (zkr C.p.prs C.F g back) t1 t2 (blkL back u) (blkL back u') m r7=o by rw[<-Ba.out,hy];rfl);have hmm:C.F.toNat-stp C.rb w8<C.F.toNat-stp C.rb wr:=by
          have e1:stp C.rb w8=r7.n:=zvF (C:=C.plus W.heap.size hi) rq.out;have e2:stp C.rb wr=r3.n:=zvF (C:=C.plus W.heap.size hi) HR.out;obtain⟨e3,e4⟩:=znI hy;have e5:=Ak.out;have e6:=HUP2.out;have e7:=HUP3.out;have e8:r7.n=r6.n+1:=by rw[e3]
          omega
         have pq:=zh hmm;clear rY hy hmm;go_wp2_with fail
         go_roundw
         case rel=>exact⟨m,r7,rq,qE,HL7⟩
         case measure=>exact pq.out
      ·have qC:=zh (show o=.ok r5 from HL4.out.symm);have o8:=zh iK.out.less;go_wp2_with fail;go_end0;refine⟨dF.out.trans (Kpt.less (C:=C) gQ.out),di.out,?_⟩
       try rw[bU.out]
       rw[qC.out];exact⟨⟨_,rfl⟩,o8.out⟩
section
variable {C:RC} {W W':World} {r:RS} {S':ST}
theorem RI.store (h:RI C W r) (hk:KS C.w C.n0 C.sb (fun b=>C.kb b\/b=C.rb\/C.ev.ownBlock=some b) W' S') (hp:Kpt C.n0 (fun b=>C.kb b\/b=C.rb\/C.ev.ownBlock=some b) W W') (hf:FB r.n S') :
  RI C W' { r with S:=S' }/\Kpt C.n0 C.kb W W' :=
 ⟨⟨hk,hp.blk (.inr (.inr (.inl rfl))) h.box,zm7 h.ent fun b hb=>hp.kept b (h.ent.lt b hb).2 (.inr (.inr (.inr hb))),h.el,h.en,h.n,hf⟩,⟨hp.size,fun b hb hk=>hp.kept b hb (hk.imp id .inl)⟩⟩
end
theorem FB.fr {j:Nat} {S S':ST} (h:FB j S) (hf:FrK S S'):FB (j+1) S':=by
 obtain⟨h1,h2,_⟩:=hf;unfold FB;rw[h1,h2];exact h.mono (Nat.le_succ _)
theorem FB.cur {j:Nat} {S:ST} (h:FB j S):S.cur.vs.length<=1000+j:=by
 rcases Nat.eq_zero_or_pos S.calls.length with h0|h0
 ·rw[zmQ h0];have:=h.1;omega
 ·rw[zm3 h0];exact h.2 _ (List.getElem_mem _)
theorem FB.setCur {j:Nat} {S:ST} (h:FB j S) (f:FR) (hf:f.vs.length<=S.cur.vs.length+1):FB (j+1) (S.setCur f):=by
 unfold ST.setCur;by_cases h0:S.calls.length=0
 ·rw[if_pos h0];rw[zmQ h0] at hf;exact⟨by have:=h.1;show f.vs.length<=_;omega,(h.mono (Nat.le_succ _)).2⟩
 ·rw[if_neg h0];refine⟨(h.mono (Nat.le_succ _)).1,fun g hg=>?_⟩;rw[zm3 (by omega)] at hf;rcases List.mem_or_eq_of_mem_set hg with hg|rfl
  ·exact(h.mono (Nat.le_succ _)).2 g hg
  ·have:=h.2 _ (List.getElem_mem (l:=S.calls) (n:=S.calls.length-1) (by omega));omega
theorem FB.open_ {j:Nat} {S:ST} (h:FB j S) (v:VD) (x:Int):FB (j+1) (zli S v x).2:=by
 unfold zli
 repeat' split
 all_goals first|exact h.mono (Nat.le_succ _)|exact FB.setCur (S:=S.newCell _) h _ (by rw[zm9];simp[FR.push])
theorem FB.close_ {j:Nat} {S:ST} (h:FB j S) (s:ByteArray) (x:Int):FB (j+1) (zkL S s x).2:=by
 unfold zkL
 repeat' split
 all_goals first|exact h.mono (Nat.le_succ _)|skip
 all_goals exact h.setCur _ (by simp[FR.pop];omega)
theorem FB.enter {j:Nat} {S:ST} (h:FB j S) (ps:List VD) (ss:List ByteArray) (hp:ps.length<=1000):FB (j+1) (zlh S ps ss).2:=by
 unfold zlh
 split
 ·exact h.mono (Nat.le_succ _)
 ·rcases he:entL S.cur ⟨[],[],0⟩ (ps.zip ss) with e|f
  ·exact h.mono (Nat.le_succ _)
  ·unfold entR;dsimp only
   split
   ·exact h.mono (Nat.le_succ _)
   ·refine⟨(h.mono (Nat.le_succ _)).1,fun g hg=>?_⟩;rcases List.mem_append.1 hg with hg|hg
    ·exact(h.mono (Nat.le_succ _)).2 g hg
    ·simp at hg;subst hg;have:=zrq _ _ _ he;simp at this;omega
theorem FB.leave {j:Nat} {S:ST} (h:FB j S):FB (j+1) (zlt S).2:=by
 unfold zlt
 split
 ·exact h.mono (Nat.le_succ _)
 ·exact⟨(h.mono (Nat.le_succ _)).1,fun g hg=>(h.mono (Nat.le_succ _)).2 g (List.mem_of_mem_take hg)⟩
theorem FB.do_ {j:Nat} {S:ST} (h:FB j S) (t:T):FB (j+1) (doE S t).2:=h.fr (ztd _ _)
theorem FB.undo {j:Nat} {S:ST} (h:FB j S) (t:T):FB (j+1) (zng S t).2:=h.fr (zue _ _)
theorem zlq {P:Program} {ops:Array Oper} {o:Oper} {a:Act} {w:World} {K:Act->World->Prop} {Q:Exit->Act->World->Prop} {F:Prop} (hw:Region.wanted o (yielded ops a.tmps)=true) (x:Operand) (xs:List Operand) (ats:Array TypeId)
  (ho:o.op=.call { callee:=.value x,args:=xs.toArray,argTypes:=ats }) (f:FuncId) (fn:Func) (hf:IsFn P f fn) (hv:a.eval x=.func (.func f) #[] #[]) (l:List Value) (hargs:xs.map a.eval=l) (R:Value->World->Prop)
  (hc:Calls P f l.toArray w fun e w'=>(∃ v,e=.returned v/\R v w')\/∃ ch,e=.panicked ch/\Q (.panic ch) a w') (h:∀ v w',R v w'->K (a.put o.dst v) w') :
  if Region.wanted o (yielded ops a.tmps)=true then Oper.wp P o a w K Q else F:=by
 rw[if_pos hw];subst hargs;have e:(execOp a.eval o).run P w=.ok (.enter f (xs.map a.eval).toArray) w:=by
  unfold execOp;simp only[ho,resolve,hv,Deferred.ofValue,Sem.run_bind,Sem.run_pure,Result.andThen_ok,invoke,zk3 hf,Array.empty_append,List.map_toArray,Array.append_empty]
 unfold Oper.wp;rw[e,Oper.upon_enter];refine hc.mono ?_;rintro e w' (⟨v,rfl,hR⟩|⟨ch,rfl,hq⟩)
 ·exact h v w' hR
 ·exact hq
end Go.Proofs.YtmbbaccjcekhkaaGreat
