/-
  Texts of the proof, put together without their remarks: Rph, Rpb, Rpi, Rpj, Lim, Val, Scp, ScA, ClW, ScC, Wp.
-/
import Derived.Test.YtembgnhbpmfhpaaGreatK7
import Derived.ArgAppend
set_option linter.unusedSimpArgs false
set_option linter.unusedVariables false
set_option maxHeartbeats 8000000
set_option maxRecDepth 100000
namespace Go.Proofs.YtembgnhbpmfhpaaGreat
section
open Go Go.RowKit
theorem one3{a b c:Value}(h:a.oneCell'=true/\b.oneCell'=true/\c.oneCell'=true):∀u∈[a,b,c],u.oneCell'=true:=by
 intro u hu;simp only[List.mem_cons,List.not_mem_nil,or_false]at hu;rcases hu with rfl|rfl|rfl
 ·exact h.1
 ·exact h.2.1
 ·exact h.2.2
attribute [local go_sem] Oper.semAt_some
theorem zsF:∀(n:Nat) (ss:List SS) (A:Option Addr) (c:Nat) (w:World),ss.length=n->n<=c->n<=1000->zk7 w A ss->(∀s∈ss,SmC s) ->
  Calls Tryz.prog 45 #[.slice A n c] w fun e w'=>∃v,e=.returned v/\(∃A' c',v=.slice A' n c'/\n<=c'/\zk7 w' A' (zli ss))/\Below w.heap.size w w':=by
 intro n
 induction n using Nat.strongRecOn with
 | _ n ih =>
 intro ss A c w hl hc hn xK hS;have HA:=zh xK;have lL:=zh hS;have HL:=zh hl;have IH:=zh ih;clear ih xK hS hl;go_enter Tryz.func45,Tryz.ntmps45;by_cases h2:n<2
 ·have h2i:(n:Int)<2:=by omega
  go_wp2_with fail;go_ret;exact⟨_,rfl,⟨A,c,rfl,hc,by rw[ztE (by rw[HL.out];exact h2)];exact HA.out⟩,zr⟩
 ·have h2i:¬ (n:Int)<2:=by omega
  go_upto_region 3 with fail;have hSS:zW zU zU w.drew:=⟨trivial,trivial⟩
  obtain⟨m,hm⟩:=zX (n / 2);have hq:IntKind.i64.wrap ((n:Int) / 2)=(m:Int):=by
   rw[IntWalk.i64_in _ (by omega)];omega
  have hmc:(m:Int)<=(c:Int):=by omega
  have uT:(m:Int)<=(n:Int):=by omega
  have hm0:(0:Int)<=(m:Int):=by omega
  have hT:=zx8 A n c m (by omega);have hD:=zq6 A n c m (by omega);have Bv:=zh (show(ss.take m).length=m by rw[List.length_take,HL.out];omega);have Bu:=zh (show(ss.drop m).length=n-m by rw[List.length_drop,HL.out]);have HR2:=zh (HA.out.drop m (by rw[HL.out];exact hc));have HST:=zh (show zli ss=zlb (zli (ss.take m)) (zli (ss.drop m)) by rw[ztD (by rw[HL.out];exact h2),HL.out,hm]);obtain⟨A2,hA2⟩:=zX ((if c=m then A else A.map (·.add (m*3))));rw[hA2]at HR2;simp only[hA2]at hD;have hm1:m<n:=by omega
  have hm2:n-m<n:=by omega
  clear hA2 hm h2;have HI1:=zh (fun w' (hb:Below w.heap.size w w')=>IH.out m hm1 (ss.take m) A c w' Bv.out (by omega) (by omega) ((HA.out.take m).later hb) fun s h=>lL.out s (List.mem_of_mem_take h));have HI2:=zh (fun w' (hb:Below w.heap.size w w')=>IH.out (n-m) hm2 (ss.drop m) A2 (c-m) w' Bu.out (by omega) (by omega) (HR2.out.later hb) fun s h=>lL.out s (List.mem_of_mem_drop h));have iM:=zh (show(zli (ss.take m)).length=m from zn9 m _ Bv.out);have HL2:=zh (show(zli (ss.drop m)).length=n-m from zn9 (n-m) _ Bu.out);have gT:=zh (show ∀s∈zli (ss.take m),SmC s from fun s h=>lL.out s (List.mem_of_mem_take (zqf _ _ rfl h)));have HS2:=zh (show ∀s∈zli (ss.drop m),SmC s from fun s h=>lL.out s (List.mem_of_mem_drop (zqf _ _ rfl h)));obtain⟨L,hLe⟩:=zX (zli (ss.take m));obtain⟨R,hRe⟩:=zX (zli (ss.drop m));rw[hLe]at HI1 iM gT HST
  rw[hRe]at HI2 HL2 HS2 HST;clear hLe hRe IH lL HA HR2 Bv Bu;refine wp_region_noPanic ?_;refine zG hSS 13 ?_;refine zT 0 hSS ?_;refine zT 1 hSS ?_;refine zT 2 hSS ?_;refine zT 3 hSS ?_;refine zT 4 hSS ?_;refine zT 6 hSS ?_;refine zT 7 hSS ?_;refine zT 8 hSS ?_;refine zT 9 hSS ?_;refine zT 10 hSS ?_;clear hT hD;have hb1:=Below.drew (zs w);have had:Calls Tryz.prog 45 [.slice A m c].toArray w.drew fun e w'=>∃v,e=.returned v/\((∃A' c',v=.slice A' m c'/\m<=c'/\zk7 w' A' L)/\Below w.drew.heap.size w.drew w'):=HI1.out _ hb1;refine zo 5 fun K hK=>?_;refine zkd (by rfl) (.func 45) [.tmp 14] _ (by rfl) 45 _ zzK (by rfl) _ (by rfl) _ had ?_;rintro v2 w2 ⟨⟨A3,c3,rfl,hc3,hr3⟩,hb2⟩;refine hK.out _ _ hSS ?_;clear hK K had;(try simp only[zQ]);have HB2:=zh (zka hb1 hb2);clear hb1 hb2
  have had:Calls Tryz.prog 45 [.slice A2 (n-m) (c-m)].toArray w2 fun e w'=>∃v,e=.returned v/\((∃A' c',v=.slice A' (n-m) c'/\n-m<=c'/\zk7 w' A' R)/\Below w2.heap.size w2 w'):=HI2.out _ HB2.out;refine zo 11 fun K hK=>?_;refine zkd (by rfl) (.func 45) [.tmp 20] _ (by rfl) 45 _ zzK (by rfl) _ (by rfl) _ had ?_;rintro v3 w3 ⟨⟨A4,c4,rfl,hc4,hr4⟩,hb3⟩;refine hK.out _ _ hSS ?_;clear hK K had;(try simp only[zQ]);refine zT 12 hSS ?_;refine zp 13 fun K hK=>?_;(try simp only[zA,zB,zC]);go_simp;refine hK.out _ _ trivial ?_;clear hK K;(try simp only[zQ]);refine zd ?_;refine NoPanic.normal ?_;have HB3:=zh (zka HB2.out hb3);have HR3:=zh (hr3.later hb3);have HR4:=zh hr4;clear hr3 hr4 hb3 hSS HI1 HI2 HB2 hq hmc uT hm0 h2i;obtain⟨n2,hn2⟩:=zX (n-m);rw[hn2]at HL2 hc4 ⊢;have qP:=zh (show n=m+n2 by omega);clear hn2 hm1 hm2;obtain⟨B3,hB3⟩:=zX (w3.heap.size)
  have HB0:=zh (show Below B3 w3 w3 from zr);have hI:=bSts;go_wp2_with fail
  go_loopw [5,3,4] (fun ov lv rv wr=>∃(Ao:Option Addr) (e co:Nat) (Al:Option Addr) (p cl:Nat) (Ar:Option Addr) (q cr:Nat) (acc ls rs:List SS),ov=.slice Ao e co/\lv=.slice Al p cl/\rv=.slice Ar q cr/\p<=cl/\q<=cr/\e+p+q=n/\Hid (acc.length=e/\ls.length=p/\rs.length=q)/\Hid (Below B3 w3 wr) /\
   Hid (zk6 wr B3 (fun b=>b<B3) (.slice Ao e co) acc)/\Hid (zk7 w3 Al ls)/\Hid (zk7 w3 Ar rs)/\Hid (acc++zlb ls rs=zli ss)/\Hid ((∀s∈ls,SmC s)/\∀s∈rs,SmC s)) (fun ov _ _ _=>n-slN ov)
  case atStart=>exact⟨_,0,_,_,m,_,_,n2,_,[],L,R,rfl,rfl,rfl,hc3,hc4,by have:=qP.out;omega,zh ⟨rfl,iM.out,HL2.out⟩,HB0,zh (zk6.nil _ _ _),HR3,HR4,zh (by rw[HST.out];rfl),zh ⟨gT.out,HS2.out⟩⟩
  case round =>
   clear HR3 HR4 HST gT HS2 iM HL2 hc3 hc4 HB0 qP;obtain⟨Ao,e,co,Al,p,cl,Ar,q,cr,acc,ls,rs,rfl,rfl,rfl,hpc,hqc,hsum,bD,HB,yw,gU,HRR,HM,fK⟩:=hrel;by_cases hpq:0<p/\0<q
   ·have hp0:(0:Int)<(p:Int):=by omega
    have hq0:(0:Int)<(q:Int):=by omega
    obtain⟨x,ls',rfl⟩:∃x l,ls=x::l:=by
     have:=bD.out.2.1
     cases ls with
     | nil=>simp at this;omega
     | cons x l=>exact⟨x,l,rfl⟩
    obtain⟨y,rs',rfl⟩:∃x l,rs=x::l:=by
     have:=bD.out.2.2
     cases rs with
     | nil=>simp at this;omega
     | cons x l=>exact⟨x,l,rfl⟩
    obtain⟨b1,o1,u1,v1,x1,rfl,h10,h11,h12,hs1⟩:=gU.out.head;obtain⟨b2,o2,u2,v2,x2,rfl,h20,h21,h22,hs2⟩:=HRR.out.head;have hsz:=HB.out.size;have HF:=zh (show ∀w',Below B3 w3 w'->c3R w' b2 o2 u2 v2 x2/\c3R w' b1 o1 u1 v1 x1 from fun w' h=>by
     rw[<-hB3]at h;exact⟨⟨zb h h20,zb h h21,zb h h22⟩,zb h h10,zb h h11,zb h h12⟩)
    have gT:=zh (show ∀w',Below B3 w3 w'->SV w' (fun b=>b<B3) x (.agg #[u1,v1,x1])from fun w' h=>by
     rw[<-hB3]at h ⊢;exact hs1.later h)
    have HS2:=zh (show ∀w',Below B3 w3 w'->SV w' (fun b=>b<B3) y (.agg #[u2,v2,x2])from fun w' h=>by
     rw[<-hB3]at h ⊢;exact hs2.later h)
    have HCM:=zh (fun w' (h:Below B3 w3 w')=>zrA y x (.agg #[u2,v2,x2]) (.agg #[u1,v1,x1]) w' (HS2.out _ h).any (gT.out _ h).any (fK.out.2 y (by simp)) (fK.out.1 x (by simp)));have pY:=zh (show acc++(if cmpE y x<0 then y::zlb (x::ls') rs' else x::zlb ls' (y::rs'))=zli ss by have h:=HM.out;rw[zlb]at h;exact h);obtain⟨r,hr⟩:=zX (cmpE y x);rw[hr]at pY;simp only[hr]at HCM;clear hr h10 h11 h12 h20 h21 h22 hs1 hs2;go_upto_region 6 with fail;have hb1:=(HB.out.trans ((zs wr).drew.mono (by omega)))
    have hSS:zW (fun w':World=>c3R w' b2 o2 u2 v2 x2/\c3R w' b1 o1 u1 v1 x1) zU wr.drew:=⟨HF.out _ hb1,trivial⟩
    have had:Calls Tryz.prog 92 [.agg #[u2,v2,x2],.agg #[u1,v1,x1]].toArray wr.drew fun e w'=>∃v,e=.returned v/\(v=.int .i64 r/\Below wr.drew.heap.size wr.drew w'):=(HCM.out _ hb1).mono fun e w' ⟨h1,h2⟩=>⟨_,h1,rfl,h2⟩
    refine wp_region_noPanic ?_;refine zG hSS 7 ?_;refine zT 0 hSS ?_;refine zT 1 hSS ?_;refine zT 2 hSS ?_;refine zT 3 hSS ?_;refine zT 4 hSS ?_;refine zT 5 hSS ?_;refine zo 6 fun K hK=>?_;refine zkd (by rfl) (.func 92) [.tmp 32,.tmp 35] _ (by rfl) 92 _ zKC (by rfl) _ (by rfl) _ had ?_;rintro v5 w5 ⟨rfl,hb5⟩;have hb6:=hb1.trans (hb5.mono (by have:=hb1.size;omega));refine hK.out _ _ ⟨HF.out _ hb6,trivial⟩ ?_;clear hK K had hSS;(try simp only[zQ]);refine zp 7 fun K hK=>?_;(try simp only[zA,zB,zC]);go_simp;refine hK.out _ _ (HF.out _ hb6) ?_;clear hK K;(try simp only[zQ]);refine zd ?_;refine NoPanic.normal ?_;have aV:=zh hb6;have HRT6:=zh (yw.out.later (((zs wr).drew).trans (hb5.mono (zs wr).drew.size)));clear hb1 hb5 hb6 yw HCM;obtain⟨⟨g20,g21,g22⟩,g10,g11,g12⟩:=HF.out _ aV.out;by_cases hr:r<0
    ·have xk:=zh (show(acc++[y])++zlb (x::ls') rs'=zli ss by have h:=pY.out;rw[if_pos hr]at h;simpa using h);have hD:∀w,(Instr.slice 27 (.slice (some ⟨b2,o2,none⟩) q cr) (some (.int .i64 1)) none none).run Tryz.prog w=.ok (.slice (if cr=1 then(some ⟨b2,o2,none⟩:Option Addr)else(some ⟨b2,o2,none⟩:Option Addr).map (·.add (1*3))) (q-1) (cr-1)) w:=zq6 (some ⟨b2,o2,none⟩) q cr 1 (by omega);have HRR2:=zh (HRR.out.tail (c:=cr) (by have:=bD.out.2.2;simp at this;omega));obtain⟨A7,tN⟩:=zX ((if cr=1 then(some ⟨b2,o2,none⟩:Option Addr)else(some ⟨b2,o2,none⟩:Option Addr).map (·.add (1*3))));simp only[tN]at hD;rw[tN]at HRR2;clear tN;have h1c:=(HS2.out _ aV.out).one;obtain⟨xs,hown,eY,hpush⟩:=HRT6.out.many (W0:=w3) (we:=w5.alloc (.cells #[u2,v2,x2] 32)) (ys:=[y]) (us:=[(u2,v2,x2)]) bD.out.1 (fun _ h=>h) aV.out (by omega) rfl (zkb zr _) (fun k hk hv=>by
      obtain rfl:k=0:=by simpa using hk
      exact(HS2.out _ aV.out).later (zkb zr _)) (m:=1) rfl
     have iY:=zh hpush;clear hpush;clear eY;go_wp2_with (at_builtin;refine zki rfl (.tmp 38) (.tmp 42) rfl Tryz.underlying27 zmm rfl (by decide) (by decide) B3 (.slice Ao e co) e xs rfl hown (some ⟨w5.heap.size,0,none⟩) 1 1 [u2,v2,x2] rfl rfl (fun e=>by cases e) (zmz w5 _ _ _ _) (one3 h1c) (by omega) (Nat.le_trans (by have:=aV.out.size;omega) (zkb (zs w5) _).size) ?_;intro v9 w9 ho hg aj;obtain⟨A9,c9,rfl,bF,aG,bI⟩:=iY.out _ _ ho hg aj;clear ho hg aj)
     go_roundw
     case rel=>exact⟨A9,e+1,c9,_,p,cl,_,q-1,cr-1,acc++[y],x::ls',rs',rfl,rfl,rfl,hpc,by omega,by omega,zh (by have:=bD.out;simp at this ⊢;omega),aG,bI,gU,HRR2,xk,zh ⟨fK.out.1,fun s h=>fK.out.2 s (by simp[h])⟩⟩
     case measure=>simp[slN];omega
    ·have xk:=zh (show(acc++[x])++zlb ls' (y::rs')=zli ss by have h:=pY.out;rw[if_neg hr]at h;simpa using h);have hD:∀w,(Instr.slice 27 (.slice (some ⟨b1,o1,none⟩) p cl) (some (.int .i64 1)) none none).run Tryz.prog w=.ok (.slice (if cl=1 then(some ⟨b1,o1,none⟩:Option Addr)else(some ⟨b1,o1,none⟩:Option Addr).map (·.add (1*3))) (p-1) (cl-1)) w:=zq6 (some ⟨b1,o1,none⟩) p cl 1 (by omega);have HRL2:=zh (gU.out.tail (c:=cl) (by have:=bD.out.2.1;simp at this;omega));obtain⟨A7,tN⟩:=zX ((if cl=1 then(some ⟨b1,o1,none⟩:Option Addr)else(some ⟨b1,o1,none⟩:Option Addr).map (·.add (1*3))));simp only[tN]at hD;rw[tN]at HRL2;clear tN;have h1c:=(gT.out _ aV.out).one;obtain⟨xs,hown,eY,hpush⟩:=HRT6.out.many (W0:=w3) (we:=w5.alloc (.cells #[u1,v1,x1] 32)) (ys:=[x]) (us:=[(u1,v1,x1)]) bD.out.1 (fun _ h=>h) aV.out (by omega) rfl (zkb zr _) (fun k hk hv=>by
      obtain rfl:k=0:=by simpa using hk
      exact(gT.out _ aV.out).later (zkb zr _)) (m:=1) rfl
     have iY:=zh hpush;clear hpush;clear eY;go_wp2_with (at_builtin;refine zki rfl (.tmp 46) (.tmp 50) rfl Tryz.underlying27 zmm rfl (by decide) (by decide) B3 (.slice Ao e co) e xs rfl hown (some ⟨w5.heap.size,0,none⟩) 1 1 [u1,v1,x1] rfl rfl (fun e=>by cases e) (zmz w5 _ _ _ _) (one3 h1c) (by omega) (Nat.le_trans (by have:=aV.out.size;omega) (zkb (zs w5) _).size) ?_;intro v9 w9 ho hg aj;obtain⟨A9,c9,rfl,bF,aG,bI⟩:=iY.out _ _ ho hg aj;clear ho hg aj)
     go_roundw
     case rel=>exact⟨A9,e+1,c9,_,p-1,cl-1,_,q,cr,acc++[x],ls',y::rs',rfl,rfl,rfl,by omega,hqc,by omega,zh (by have:=bD.out;simp at this ⊢;omega),aG,bI,HRL2,HRR,xk,zh ⟨fun s h=>fK.out.1 s (by simp[h]),fK.out.2⟩⟩
     case measure=>simp[slN];omega
   ·have xk:=zh (show acc++ls++rs=zli ss by
     have h:=HM.out;have hl:=bD.out;by_cases hp:p=0
     ·obtain rfl:ls=[]:=List.eq_nil_of_length_eq_zero (by omega);rw[zoX]at h;simpa using h
     ·obtain rfl:rs=[]:=List.eq_nil_of_length_eq_zero (by omega);rw[zof]at h;simpa using h)
    have HRT2:=yw;have hsz:=HB.out.size;obtain⟨us,lh,hun0,dS⟩:=gU.out.vals;have hun:∀ad,Al=some ad->∀j u,(zkZ us)[j]?=some u->wr.cell? (ad.add j)=some u:=fun ad h j u hj=>zb (hB3▸HB.out) (hun0 ad h j u hj);have rU:∀k (hk:k<ls.length) (hv:k<us.length),SV wr (fun b=>b<B3) ls[k] (.agg #[us[k].1,us[k].2.1,us[k].2.2]):=fun k hk hv=>by
     have h:=dS k hk hv;rw[hB3]at h;exact h.later (hB3▸HB.out)
    obtain⟨ut,htl,htn0,hts⟩:=HRR.out.vals;have wV:=zh (show ∀w',Below B3 w3 w'->∀ad,Ar=some ad->∀j u,(zkZ ut)[j]?=some u->w'.cell? (ad.add j)=some u from fun w' hw ad h j u hj=>zb (hB3▸hw) (htn0 ad h j u hj));have yu:=zh (show ∀w',Below B3 w3 w'->∀k (hk:k<rs.length) (hv:k<ut.length),SV w' (fun b=>b<B3) rs[k] (.agg #[ut[k].1,ut[k].2.1,ut[k].2.2])from fun w' hw k hk hv=>by
     have h:=hts k hk hv;rw[hB3]at h;exact h.later (hB3▸hw))
    obtain⟨xs,hown,eY,hpush⟩:=yw.out.many (W0:=w3) (we:=wr) (ys:=ls) (us:=us) bD.out.1 (fun _ h=>h) HB.out (by omega) lh zr rU (m:=p) bD.out.2.1;have iY:=zh hpush;have hun1:=zrG lh rU;have hut1:=zrG htl hts;have hul3:(zkZ us).length=p*3:=by rw[zqy,lh,bD.out.2.1]
    have hut3:(zkZ ut).length=q*3:=by rw[zqy,htl,bD.out.2.2]
    have hnL:Al=none->p=0:=fun h=>by rw[<-bD.out.2.1];exact gU.out.nilA h
    have hnR:Ar=none->q=0:=fun h=>by rw[<-bD.out.2.2];exact HRR.out.nilA h
    have HPQ:=zh (show ∀A9 c9 w9,Below B3 w3 w9->zk6 w9 B3 (fun b=>b<B3) (.slice A9 (e+p) c9) (acc++ls)->∃xs,w9.ownsRow B3 32 3 (.slice A9 (e+p) c9) (e+p) xs/\B3<=w9.heap.size/\∀v' w',w'.ownsRow B3 32 3 v' (e+p+q) (xs++zkZ ut)->w9.grownBy w' (Value.slice A9 (e+p) c9).ownBlock->(v'.ownBlock=(Value.slice A9 (e+p) c9).ownBlock\/v'.ownBlock=some w9.heap.size) ->
      ∃A' c',v'=.slice A' (e+p+q) c'/\e+p+q<=c'/\Hid (Below B3 w3 w')/\Hid (zk6 w' B3 (fun b=>b<B3) (.slice A' (e+p+q) c') (acc++ls++rs))from fun A9 c9 w9 aU lq =>
     lq.many (W0:=w3) (we:=w9) (ys:=rs) (us:=ut) (by have:=bD.out;simp;omega) (fun _ h=>h) aU (by omega) htl zr (yu.out _ aU) (m:=q) bD.out.2.2)
    clear hpush dS rU lh htl hts hun0 htn0 fK HM HRT2;have hpb:e+p<=1000000:=by omega
    have hqb:e+p+q<=1000000:=by omega
    have aS:=zh (show ∀A9 c9 w9,Hid (Below B3 w3 w9)->Hid (zk6 w9 B3 (fun b=>b<B3) (.slice A9 (e+p+q) c9) (acc++ls++rs))->e+p+q<=c9->(∃A' c',Value.slice A9 (e+p+q) c9=.slice A' n c'/\n<=c'/\zk7 w9 A' (zli ss))/\Below w.heap.size w w9 from fun A9 c9 w9 h1 h2 h3=>by
     rw[xk.out]at h2;obtain⟨A1,c1,e1,-,h4⟩:=h2.out.sa;injection e1 with e1 e2 e3;subst e1;refine⟨⟨A9,c9,by rw[hsum],by omega,h4⟩,zka HB3.out (hB3▸h1.out)⟩)
    by_cases hp0:0<p
    ·have hpi:(0:Int)<(p:Int):=by omega
     have hqi:¬ (0:Int)<(q:Int):=by omega
     go_wp2_with (at_builtin;first
      | (refine zki rfl (.tmp 54) (.tmp 55) rfl Tryz.underlying27 zmm rfl (by decide) (by decide) B3 (.slice Ao e co) e xs rfl hown Al p cl (zkZ us) rfl hul3 hnL hun hun1 hpb eY ?_;intro v9 w9 ho hg aj;obtain⟨A9,c9,rfl,bF,aG,bI⟩:=iY.out _ _ ho hg aj;clear ho hg aj;obtain⟨yO,ek,jo,ed⟩:=HPQ.out _ _ _ aG.out bI.out;have kS:=zh ed;clear ed;have rV:=wV.out _ aG.out)
      | (refine zki rfl (.tmp 56) (.tmp 57) rfl Tryz.underlying27 zmm rfl (by decide) (by decide) B3 (.slice A9 (e+p) c9) (e+p) yO rfl ek Ar q cr (zkZ ut) rfl hut3 hnR rV hut1 hqb jo ?_;intro v8 w8 ho hg aj;obtain⟨A8,c8,rfl,hc8,dQ,gV⟩:=kS.out _ _ ho hg aj;clear ho hg aj))
     go_ret;exact⟨_,rfl,by have h:=aS.out _ _ _ dQ gV hc8;rw[hsum]at h;exact h⟩
    ·have hpi:¬ (0:Int)<(p:Int):=by omega
     go_wp2_with (at_builtin;first
      | (refine zki rfl (.tmp 54) (.tmp 55) rfl Tryz.underlying27 zmm rfl (by decide) (by decide) B3 (.slice Ao e co) e xs rfl hown Al p cl (zkZ us) rfl hul3 hnL hun hun1 hpb eY ?_;intro v9 w9 ho hg aj;obtain⟨A9,c9,rfl,bF,aG,bI⟩:=iY.out _ _ ho hg aj;clear ho hg aj;obtain⟨yO,ek,jo,ed⟩:=HPQ.out _ _ _ aG.out bI.out;have kS:=zh ed;clear ed;have rV:=wV.out _ aG.out)
      | (refine zki rfl (.tmp 56) (.tmp 57) rfl Tryz.underlying27 zmm rfl (by decide) (by decide) B3 (.slice A9 (e+p) c9) (e+p) yO rfl ek Ar q cr (zkZ ut) rfl hut3 hnR rV hut1 hqb jo ?_;intro v8 w8 ho hg aj;obtain⟨A8,c8,rfl,hc8,dQ,gV⟩:=kS.out _ _ ho hg aj;clear ho hg aj))
     go_ret;exact⟨_,rfl,by have h:=aS.out _ _ _ dQ gV hc8;rw[hsum]at h;exact h⟩
end
section
open Go Go.RowKit
theorem zp9(a b:Int)(w:World)(ha:1<=a/\a<=1099511627777)(hb:1<=b/\b<=1099511627777):Calls Tryz.prog 89 #[.int .i64 a,.int .i64 b] w fun e w'=>e=.returned (.int .i64 (timR a b))/\w'=w:=by
 have e0:(a != 0)=true:=by simp;omega
 have e1:(a==0)=false:=by simp;omega
 have hq:=Int.tdiv_eq_ediv_of_nonneg (a:=1099511627776) (b:=a) (by decide);have hq2:0<=(1099511627776:Int) / a/\(1099511627776:Int) / a<=1099511627776:=⟨Int.ediv_nonneg (by decide) (by omega),Int.ediv_le_self _ (by decide)⟩
 have hw:IntKind.i64.wrap ((1099511627776:Int).tdiv a)=(1099511627776:Int).tdiv a:=IntWalk.i64_in _ (by rw[hq];omega);by_cases h:(1099511627776:Int).tdiv a<b
 ·have HT:=zh (show timR a b=1099511627777 by unfold timR;rw[if_pos ⟨by omega,h⟩]);clear hq hq2;go_enter Tryz.func89,Tryz.ntmps89;go_wp2_with fail;go_ret;exact⟨by rw[HT.out];rfl,rfl⟩
 ·have HT:=zh (show timR a b=a*b by unfold timR;rw[if_neg fun h2=>h h2.2]);have hm:IntKind.i64.wrap (a*b)=a*b:=IntWalk.i64_in _ (by have:=zps ha hb;rw[HT.out]at this;omega);clear hq hq2;go_enter Tryz.func89,Tryz.ntmps89;go_wp2_with fail;go_ret;exact⟨by rw[HT.out];rfl,rfl⟩
theorem zqm(b:Int)(n:Nat)(w:World)(hb:1<=b/\b<=2001)(hn:n<=1000):Calls Tryz.prog 90 #[.int .i64 b,.int .i64 (n:Int)] w fun e w'=>e=.returned (.int .i64 (powR b n))/\w'=w:=by
 have HT:=zh (fun i w'=>zp9 (powR b i) b w' (zmc hb i) (by omega));have HB:=zh hb;clear hb;go_enter Tryz.func90,Tryz.ntmps90;go_wp2_with fail
 go_loopw [6,5] (fun i s wr=>∃j:Nat,j<=n/\i=.int .i64 j/\s=.int .i64 (powR b j)/\wr=w) (fun i _ _=>n-(intOf i).toNat)
 case atStart=>exact⟨0,by omega,rfl,rfl,rfl⟩
 case round =>
  obtain⟨j,hj,rfl,rfl,rfl⟩:=hrel;by_cases hlt:j<n
  ·have hj1:(j:Int)<(n:Int):=by omega
   have hj0:(0:Int)<=(j:Int):=by omega
   go_wp2_with fail;refine(HT.out j _).mono ?_;rintro e w1 ⟨rfl,rfl⟩;go_wp2_with fail
   go_roundw
   case rel=>exact⟨j+1,by omega,by go_num,rfl,trivial⟩
   case measure=>simp[intOf];omega
  ·obtain rfl:j=n:=by omega
   have hj1:¬ (j:Int)<(j:Int):=by omega
   go_wp2_with fail;go_ret;simp
theorem zvK(b:Int)(n:Nat)(w:World)(hb:1<=b/\b<=2001)(hn:n<=1000):Calls Tryz.prog 88 #[.int .i64 b,.int .i64 (n:Int)] w fun e w'=>e=.returned (.int .i64 (upR b n))/\w'=w:=by
 have HT:=zh (fun i w' (hi:i<=1000)=>zqm b i w' hb hi);have HB:=zh hb;clear hb;go_enter Tryz.func88,Tryz.ntmps88;go_wp2_with fail
 go_loopw [6,5] (fun i s wr=>∃(j:Nat) (x:Int),j<=n+1/\i=.int .i64 j/\s=.int .i64 x/\(0<=x/\x<=1099511627776)/\wr=w/\Hid (upR b n=upA b x ((List.range (n+1)).drop j))) (fun i _ _=>n+1-(intOf i).toNat)
 case atStart=>exact⟨0,0,by omega,rfl,rfl,by omega,rfl,zh rfl⟩
 case round =>
  obtain⟨j,x,hj,rfl,rfl,hx,rfl,HU⟩:=hrel;by_cases hlt:j<=n
  ·have hj1:(j:Int)<=(n:Int):=by omega
   have hj0:(0:Int)<=(j:Int):=by omega
   go_wp2_with fail;refine(HT.out j _ (by omega)).mono ?_;rintro e w1 ⟨rfl,rfl⟩;have hp:=zmc HB.out j;obtain⟨y,hy⟩:=zX (powR b j);have HU2:=zh (show upR b n=if 1099511627776<x+y then 1099511627777 else upA b (x+y) ((List.range (n+1)).drop (j+1)) by
    rw[HU.out,List.drop_eq_getElem_cons (by simp;omega),List.getElem_range,upA,hy])
   rw[hy]at hp ⊢;have hw:IntKind.i64.wrap (x+y)=x+y:=IntWalk.i64_in _ (by omega);by_cases hg:1099511627776<x+y
   ·go_wp2_with fail;go_ret;exact⟨by rw[HU2.out,if_pos hg];rfl,rfl⟩
   ·go_wp2_with fail
    go_roundw
    case rel=>exact⟨j+1,x+y,by omega,by go_num,rfl,by omega,trivial,zh (by rw[HU2.out,if_neg (by omega)])⟩
    case measure=>simp[intOf];omega
  ·obtain rfl:j=n+1:=by omega
   have hj1:¬ ((n+1:Nat):Int)<=(n:Int):=by omega
   go_wp2_with fail;go_ret;exact⟨by rw[HU.out,List.drop_eq_nil_of_le (by simp)];rfl,rfl⟩
theorem ztr{v:VD}(h:vdB v=true):(v.k=1/\v.n=0)\/(v.k=2/\1<=v.n/\v.n<=16)\/(v.k=3/\v.n=0):=by
 unfold vdB at h;by_cases h1:v.k=1\/v.k=3
 ·rw[if_pos h1]at h;have h:=eq_of_beq h;rcases h1 with h1|h1
  ·exact .inl ⟨h1,h⟩
  ·exact .inr (.inr ⟨h1,h⟩)
 ·rw[if_neg h1]at h;by_cases h2:v.k=2
  ·rw[if_pos h2]at h;exact .inr (.inl ⟨h2,of_decide_eq_true h⟩)
  ·rw[if_neg h2]at h;cases h
theorem zsB{vs:List VD}(h:svB vs=true):vs.length<=32/\∀v∈vs,vdB v=true:=by
 unfold svB at h;simp only[Bool.and_eq_true,decide_eq_true_eq,List.all_eq_true]at h;exact h
theorem zs5(vs:List VD)(b:BX)(A:Option Addr)(c:Nat)(w:World)(hr:RowV w Any A vs)(hok:(b.ok&&svB vs)=true) :
  Calls Tryz.prog 43 #[.slice A vs.length c,.int .i64 b.v,.int .i64 b.l,.int .i64 b.i] w fun e w'=>e=.returned (.int .i64 (cntF vs b))/\w'=w:=by
 simp only[Bool.and_eq_true]at hok;have hb:=zll hok.1;obtain⟨hn,hvd⟩:=zsB hok.2;have HB:=zh hb;have HV:=zh hvd;have HC:=zh (fun i (hi:i<=vs.length)=>znX hok.1 (vs.take i));obtain⟨V,hV⟩:=zX (b.v);obtain⟨nl,hnl⟩:∃nl:Nat,b.l=(nl:Int):=⟨b.l.toNat,by omega⟩
 obtain⟨ni,hni⟩:∃ni:Nat,b.i=(ni:Int):=⟨b.i.toNat,by omega⟩
 have dw:=zh (And.intro hV (And.intro hnl hni));have vz:=zh (fun n w' (h:n<=1000)=>zvK (2*V+1) n w' (by omega) h);have yA:=zh (fun n w' (h:n<=1000)=>zqm (2*V+1) n w' (by omega) h);have Bd:=zh (fun i v w' (hi:i<=vs.length)=>zp9 (cntF (vs.take i) b) (cnt1 b v) w' (znX hok.1 (vs.take i)) (znY hb.1 v));have qJ:=zh (fun i (hi:i<vs.length)=>znb (b:=b) hi);have lT:=zh (fun v=>show cnt1 b v=if v.k=1 then 2*V+1 else if v.k=2 then powR (2*V+1) v.n.toNat else upR (2*V+1) nl by unfold cnt1;rw[hV,hnl];rfl);have bu:=zh (show cntF (vs.take 0) b=upR (2*V+1) ni by unfold cntF;rw[hV,hni];rfl);have e1:IntKind.i64.wrap (2*V)=2*V:=IntWalk.i64_in _ (by omega);have e2:IntKind.i64.wrap (2*V+1)=2*V+1:=IntWalk.i64_in _ (by omega);have sj:nl<=1000:=by omega
 have su:ni<=1000:=by omega
 have HR:=zh hr;have HT:=zh (show cntF (vs.take vs.length) b=cntF vs b by rw[List.take_length]);obtain⟨CF,hCF⟩:∃CF:Nat->Int,∀i,cntF (vs.take i) b=CF i:=⟨fun i=>cntF (vs.take i) b,fun _=>rfl⟩
 simp only[hCF]at HC Bd qJ bu HT;rw[<-HT.out,hV,hnl,hni];obtain⟨C1,cK⟩:∃C1:VD->Int,∀v,cnt1 b v=C1 v:=⟨fun v=>cnt1 b v,fun _=>rfl⟩
 simp only[cK]at Bd qJ lT;clear hok hb hvd hr hV hnl hni hCF cK;obtain⟨n,hn'⟩:=zX (vs.length);have HN:=zh hn';rw[hn']at hn ⊢;clear hn';go_enter Tryz.func43,Tryz.ntmps43;go_wp2_with fail;refine(vz.out ni w su).mono ?_;rintro e w1 ⟨rfl,rfl⟩;rw[<-bu.out];go_wp2_with fail
 go_loopw [10,9] (fun i s wr=>∃j:Nat,j<=n/\i=.int .i64 j/\s=.int .i64 (CF j)/\wr=w1) (fun i _ _=>n-(intOf i).toNat)
 case atStart=>exact⟨0,by omega,rfl,rfl,rfl⟩
 case round =>
  obtain⟨j,hj,rfl,rfl,rfl⟩:=hrel;by_cases hlt:j<n
  ·have hj1:(j:Int)<(n:Int):=by omega
   have hj0:(0:Int)<=(j:Int):=by omega
   have dh:j<vs.length:=by rw[HN.out];exact hlt
   obtain⟨a,v,rfl,-,hv,⟨x0,x1,x2⟩,-⟩:=HR.out.nd dh;have hvb:=ztr (HV.out _ (List.getElem_mem dh));have nO:=Bd.out j v wr (by omega);have htk:=qJ.out j dh;have hc1:=lT.out v;rw[hv.out]at hvb htk;rw[<-htk]at nO;clear htk hv dh;obtain⟨v0,v1,v2⟩:=v;simp only at x0 x1 x2 hvb hc1;rcases hvb with⟨rfl,rfl⟩|⟨rfl,hn1,hn2⟩|⟨rfl,rfl⟩
   ·rw[if_pos rfl]at hc1;rw[hc1]at nO;have mQ:=zh nO;clear nO hc1;go_wp2_with fail;refine mQ.out.mono ?_;rintro e w2 ⟨rfl,rfl⟩;go_wp2_with fail
    go_roundw
    case rel=>exact⟨j+1,by omega,by go_num,rfl,trivial⟩
    case measure=>simp[intOf];omega
   ·rw[if_neg (by decide),if_pos rfl]at hc1;obtain⟨m,rfl⟩:∃m:Nat,v2=(m:Int):=⟨v2.toNat,by omega⟩
    rw[show((m:Int)).toNat=m from rfl]at hc1;have hm:m<=1000:=by omega
    rw[hc1]at nO;have mQ:=zh nO;clear nO hc1;go_wp2_with fail;refine(yA.out m wr hm).mono ?_;rintro e w2 ⟨rfl,rfl⟩;go_wp2_with fail;refine mQ.out.mono ?_;rintro e w2 ⟨rfl,rfl⟩;go_wp2_with fail
    go_roundw
    case rel=>exact⟨j+1,by omega,by go_num,rfl,trivial⟩
    case measure=>simp[intOf];omega
   ·rw[if_neg (by decide),if_neg (by decide)]at hc1;rw[hc1]at nO;have mQ:=zh nO;clear nO hc1;go_wp2_with fail;refine(vz.out nl wr sj).mono ?_;rintro e w2 ⟨rfl,rfl⟩;go_wp2_with fail;refine mQ.out.mono ?_;rintro e w2 ⟨rfl,rfl⟩;go_wp2_with fail
    go_roundw
    case rel=>exact⟨j+1,by omega,by go_num,rfl,trivial⟩
    case measure=>simp[intOf];omega
  ·obtain rfl:j=n:=by omega
   have hj1:¬ (j:Int)<(j:Int):=by omega
   go_wp2_with fail;go_ret;exact⟨rfl,rfl⟩
theorem zvJ{v:VD}(h:(v.k=1/\v.n=0)\/(v.k=2/\1<=v.n/\v.n<=16)\/(v.k=3/\v.n=0)):vdB v=true:=by
 unfold vdB;rcases h with⟨h1,h2⟩|⟨h1,h2⟩|⟨h1,h2⟩
 ·rw[if_pos (.inl h1),h2];rfl
 ·rw[if_neg (by omega),if_pos h1];exact decide_eq_true h2
 ·rw[if_pos (.inr h1),h2];rfl
theorem zts{v:VD}(h:¬ ((v.k=1/\v.n=0)\/(v.k=2/\1<=v.n/\v.n<=16)\/(v.k=3/\v.n=0))):vdB v=false:=by
 cases e:vdB v with
 | false=>rfl
 | true=>exact absurd (ztr e) h
theorem zx3{vs:List VD}{i:Nat}(hi:i<vs.length)(h:vdB vs[i]=false):svB vs=false:=by
 cases e:svB vs with
 | false=>rfl
 | true=>rw[(zsB e).2 _ (List.getElem_mem hi)]at h;cases h
theorem zx4{vs:List VD}{n:Nat}(hn:vs.length=n)(h32:n<=32)(h:∀i (hi:i<vs.length),vdB vs[i]=true):svB vs=true:=by
 unfold svB;simp only[Bool.and_eq_true,decide_eq_true_eq,List.all_eq_true];exact⟨by omega,fun v hv=>by obtain⟨i,hi,rfl⟩:=List.mem_iff_getElem.1 hv;exact h i hi⟩
theorem zyi{b:BX}(h:((0<=b.v/\b.v<=1000)/\(0<=b.l/\b.l<=1000)/\0<=b.i/\b.i<=1000)):b.ok=true:=by
 simp only[BX.ok,okI,Bool.and_eq_true,decide_eq_true_eq];omega
theorem zv9{b:BX}(h:¬ ((0<=b.v/\b.v<=1000)/\(0<=b.l/\b.l<=1000)/\0<=b.i/\b.i<=1000)):b.ok=false:=by
 cases e:b.ok with
 | false=>rfl
 | true=>exact absurd (zll e) h
theorem zs4(vs:List VD)(b:BX)(A:Option Addr)(c:Nat)(w:World)(hr:RowV w Any A vs)(hl:vs.length<=LV) :
  Calls Tryz.prog 42 #[.slice A vs.length c,.int .i64 b.v,.int .i64 b.l,.int .i64 b.i] w fun e w'=>e=.returned (.bool (b.ok&&svB vs))/\Below w.heap.size w w':=by
 have hl1:=zk9 hl;have HR:=zh hr;obtain⟨RR,hRR⟩:=zX ((b.ok&&svB vs));have HRR:=zh hRR;rw[hRR];obtain⟨V,hV⟩:=zX (b.v);obtain⟨L,hL⟩:=zX (b.l);obtain⟨I,hI⟩:=zX (b.i);have HKT:=zh (fun h=>zyi (b:=b) h);have jG:=zh (fun h=>zv9 (b:=b) h);have mR:=zh (fun(n:Nat)=>zx4 (vs:=vs) (n:=n));rw[hV,hL,hI]at HKT jG ⊢;clear hr hl hRR hV hL hI;obtain⟨n,hn⟩:=zX (vs.length);have HN:=zh hn;rw[hn]at hl1 ⊢;clear hn;go_enter Tryz.func42,Tryz.ntmps42;by_cases h32:32<n
 ·have h32i:(32:Int)<(n:Int):=by omega
  go_wp2_with fail;go_ret;exact⟨by rw[<-HRR.out,show svB vs=false by { cases e:svB vs with|false=>rfl|true=>have:=(zsB e).1;have:=HN.out;omega },Bool.and_false];rfl,zr⟩
 have h32i:¬ (32:Int)<(n:Int):=by omega
 go_wp2_with fail
 go_loopw [9] (fun i wr=>∃j:Nat,j<=n/\i=.int .i64 j/\Hid (Below w.heap.size w wr)/\Hid (∀i (hi:i<vs.length),i<j->vdB vs[i]=true)) (fun i _=>n-(intOf i).toNat)
 case atStart=>exact⟨0,by omega,rfl,zh zr,zh fun i _ h=>by omega⟩
 case round =>
  obtain⟨j,hj,rfl,af,HE⟩:=hrel;by_cases hlt:j<n
  ·have hj1:(j:Int)<(n:Int):=by omega
   have hj0:(0:Int)<=(j:Int):=by omega
   have dh:j<vs.length:=by rw[HN.out];exact hlt
   obtain⟨a,v,rfl,-,hv,⟨x0,x1,x2⟩,hfl⟩:=(HR.out.later af.out).nd dh;have AQ:=zh (fun h=>(congrArg vdB hv.out).trans (zvJ (v:=v) h));have mP:=zh (fun h=>zx3 dh ((congrArg vdB hv.out).trans (zts (v:=v) h)));have HJ:=zh dh;obtain⟨v0,v1,v2⟩:=v;have hk:=hfl.2.1;simp only at x0 x1 x2 AQ mP hk;have hk1:=heap_alloc_new wr (.cells #[.string v0,.int .u8 v1,.int .i64 v2] 57);have ru:=zh (zkb af.out (.cells #[.string v0,.int .u8 v1,.int .i64 v2] 57));obtain⟨wm,xP⟩:=zX (wr.alloc (.cells #[.string v0,.int .u8 v1,.int .i64 v2] 57));rw[xP]at hk1 ru;obtain⟨y0,y1,y2⟩:=zkr hk1;clear hv hfl hk1;by_cases c1:v1<1
   ·go_wp2_with fail;go_ret;exact⟨by rw[<-HRR.out,mP.out (by omega),Bool.and_false];rfl,ru.out⟩
   by_cases c2:3<v1
   ·go_wp2_with fail;go_ret;exact⟨by rw[<-HRR.out,mP.out (by omega),Bool.and_false];rfl,ru.out⟩
   by_cases c3:v1=2
   ·subst c3;by_cases c4:v2<1
    ·go_wp2_with fail;go_ret;exact⟨by rw[<-HRR.out,mP.out (by omega),Bool.and_false];rfl,ru.out⟩
    by_cases c5:16<v2
    ·go_wp2_with fail;go_ret;exact⟨by rw[<-HRR.out,mP.out (by omega),Bool.and_false];rfl,ru.out⟩
    go_wp2_with fail
    go_roundw
    case rel =>
     refine⟨j+1,by omega,by go_num,ru,zh fun i hi hij=>?_⟩;by_cases e:i<j
     ·exact HE.out i hi e
     ·obtain rfl:i=j:=by omega
      exact AQ.out (by omega)
    case measure=>simp[intOf];omega
   ·have c3b:(v1==2)=false:=by simpa using c3
    have c3c:(v1 != 2)=true:=by simpa using c3
    by_cases c4:v2=0;rotate_left 1
    ·have c4b:(v2 != 0)=true:=by simpa using c4
     go_wp2_with fail;go_ret;exact⟨by rw[<-HRR.out,mP.out (by omega),Bool.and_false];rfl,ru.out⟩
    ·have c4b:(v2 != 0)=false:=by simpa using c4
     have lS:=zh c4;clear c4;go_wp2_with fail
     go_roundw
     case rel =>
      refine⟨j+1,by omega,by go_num,ru,zh fun i hi hij=>?_⟩;by_cases e:i<j
      ·exact HE.out i hi e
      ·obtain rfl:i=j:=by omega
       exact AQ.out (by have:=lS.out;omega)
     case measure=>simp[intOf];omega
  ·obtain rfl:j=n:=by omega
   have hj1:¬ (j:Int)<(j:Int):=by omega
   by_cases g1:0<=V;rotate_left 1
   ·go_wp2_with fail;go_ret;exact⟨by rw[<-HRR.out,show b.ok=false from jG.out (by omega)];rfl,af.out⟩
   by_cases g2:V<=1000;rotate_left 1
   ·go_wp2_with fail;go_ret;exact⟨by rw[<-HRR.out,show b.ok=false from jG.out (by omega)];rfl,af.out⟩
   by_cases g3:0<=L;rotate_left 1
   ·go_wp2_with fail;go_ret;exact⟨by rw[<-HRR.out,show b.ok=false from jG.out (by omega)];rfl,af.out⟩
   by_cases g4:L<=1000;rotate_left 1
   ·go_wp2_with fail;go_ret;exact⟨by rw[<-HRR.out,show b.ok=false from jG.out (by omega)];rfl,af.out⟩
   by_cases g5:0<=I;rotate_left 1
   ·go_wp2_with fail;go_ret;exact⟨by rw[<-HRR.out,show b.ok=false from jG.out (by omega)];rfl,af.out⟩
   by_cases g6:I<=1000;rotate_left 1
   ·go_wp2_with fail;go_ret;exact⟨by rw[<-HRR.out,show b.ok=false from jG.out (by omega)];rfl,af.out⟩
   go_wp2_with fail;go_ret;exact⟨by rw[<-HRR.out,show b.ok=true from HKT.out (by omega),mR.out _ HN.out (by omega) fun i hi=>HE.out i hi (by have:=HN.out;omega)];rfl,af.out⟩
def GdL(l:List Int):Prop:=l.length<=1000/\∀e∈l,-1000<=e/\e<=1000
def GdS(k:Nat)(s:SS):Prop:=s.cells.length<=k/\(∀l∈s.cells,GdL l)/\GdL s.tin/\s.tout=[]
theorem zv0{v x:Int}(h:x∈rngZ v) : -v<=x/\x<=v:=by
 unfold rngZ at h;obtain⟨i,hi,rfl⟩:=List.mem_map.1 h;rw[List.mem_range]at hi;omega
theorem zrH{v x:Int}:∀ {n:Nat} {l:List Int},l∈tupE v n->x∈l -> -v<=x/\x<=v
 | 0,l,h,hx=>by
  rw[tupE,List.mem_singleton]at h;subst h;simp at hx
 | n+1,l,h,hx=>by
  rw[tupE]at h;obtain⟨t,ht,h⟩:=List.mem_flatMap.1 h;obtain⟨y,hy,rfl⟩:=List.mem_map.1 h;rcases List.mem_append.1 hx with hx|hx
  ·exact zrH ht hx
  ·rw[List.mem_singleton]at hx;subst hx;exact zv0 hy
theorem zpU{v:Int}{a m:Nat}(hv:0<=v/\v<=1000)(hm:m<=1000){l:List Int}(h:l∈betE v a m):GdL l:=by
 unfold betE at h;obtain⟨i,hi,h⟩:=List.mem_flatMap.1 h;rw[List.mem_range]at hi;exact⟨by rw[zn6 h];omega,fun e he=>by have:=zrH h he;omega⟩
theorem zyl{b:BX}{v:VD}(hb:b.ok=true)(hv:vdB v=true){l:List Int}(h:l∈lstE b v):GdL l:=by
 have hk:=zll hb;unfold lstE at h
 split at h
 ·exact zpU hk.1 (by omega) h
 ·split at h
  ·have:=ztr hv;exact zpU hk.1 (by omega) h
  ·exact zpU hk.1 (by omega) h
def nwS(n j:Nat)(s:SS)(x:List Int):SS:=if j=n then⟨s.cells,x,[]⟩else⟨s.cells++[x],[],[]⟩
def lsJ(vs:List VD)(b:BX)(j:Nat):List (List Int):=if h:j<vs.length then lstE b vs[j]else betE b.v 0 b.i.toNat
def stJ(vs:List VD)(b:BX)(j:Nat):List SS:=if j<=vs.length then stgF b (vs.take j)else allU vs b
theorem zrQ{vs:List VD}{b:BX}{j:Nat}(h:j<=vs.length):stJ vs b (j+1)=(stJ vs b j).flatMap fun s=>(lsJ vs b j).map (nwS vs.length j s):=by
 unfold stJ lsJ;rw[if_pos h];by_cases hj:j<vs.length
 ·rw[if_pos (by omega),dif_pos hj,zqd hj];unfold stg nwS;simp only[show ¬ j=vs.length by omega,if_false]
 ·obtain rfl:j=vs.length:=by omega
  rw[if_neg (by omega),dif_neg hj,List.take_length];unfold allU nwS;simp only[if_true]
theorem zvU(vs:List VD)(b:BX):stJ vs b (vs.length+1)=allU vs b:=by
 unfold stJ;rw[if_neg (by omega)]
theorem zx7{vs:List VD}{b:BX}(h:RefB vs b)(j:Nat):(stJ vs b j).length<=60:=by
 unfold stJ
 split
 ·exact(h.st j ‹_›).2
 ·exact h.all.2
theorem zym{vs:List VD}{b:BX}(h:RefB vs b)(j:Nat):(lsJ vs b j).length<=60:=by
 unfold lsJ
 split
 ·exact(h.one j ‹_›).2
 ·exact h.inp.2
theorem zxx{vs:List VD}{b:BX}(hb:b.ok=true)(hv:svB vs=true){j:Nat}{l:List Int}(h:l∈lsJ vs b j):GdL l:=by
 unfold lsJ at h
 split at h
 ·exact zyl hb ((zsB hv).2 _ (List.getElem_mem _)) h
 ·have hk:=zll hb;exact zpU hk.1 (by omega) h
theorem zxw{n j k:Nat}{s:SS}{x:List Int}(hs:GdS k s)(hx:GdL x):GdS (k+1) (nwS n j s x):=by
 unfold nwS
 split
 ·exact⟨Nat.le_succ_of_le hs.1,hs.2.1,hx,rfl⟩
 ·refine⟨by simp;exact hs.1,fun l hl=>?_,⟨by simp,fun e he=>by simp at he⟩,rfl⟩;rcases List.mem_append.1 hl with hl|hl
  ·exact hs.2.1 l hl
  ·rw[List.mem_singleton]at hl;subst hl;exact hx
theorem zxv{vs:List VD}{b:BX}(hb:b.ok=true)(hv:svB vs=true):∀ {j:Nat},j<=vs.length+1->∀s∈stJ vs b j,GdS j s
 | 0,_,s,h=>by
  unfold stJ at h;rw[if_pos (Nat.zero_le _)]at h;simp[stgF]at h;subst h;exact⟨by simp[nilS],by simp[nilS],⟨by simp[nilS],by simp[nilS]⟩,rfl⟩
 | j+1,hj,s,h=>by
  rw[zrQ (by omega)]at h;obtain⟨t,ht,h⟩:=List.mem_flatMap.1 h;obtain⟨x,hx,rfl⟩:=List.mem_map.1 h;exact zxw (zxv hb hv (by omega) t ht) (zxx hb hv hx)
theorem GdS.sm{k:Nat}{s:SS}(h:GdS k s)(hk:k<=98):SmC s :=
 ⟨by have:=h.1;omega,fun l hl=>by
  simp only[lisS,List.mem_append,List.mem_cons,List.not_mem_nil,or_false]at hl;have hg:GdL l:=by
   rcases hl with hl|rfl|rfl
   ·exact h.2.1 l hl
   ·exact h.2.2.1
   ·rw[h.2.2.2];exact⟨by simp,fun e he=>by simp at he⟩
  exact⟨hg.1,fun e he=>by have:=hg.2 e he;omega⟩⟩
theorem GdS.lim{k:Nat}{s:SS}(h:GdS k s)(hk:k<=98):s.Lim :=
 ⟨by have:=h.1;unfold LI;omega,fun l hl=>by have:=(h.2.1 l hl).1;unfold LI;omega,by have:=h.2.2.1.1;unfold LI;omega,by rw[h.2.2.2];unfold LI;simp⟩
theorem zlF.vals{w:World}{S:Nat->Prop}{A:Option Addr}{ls:List (List Int)}(h:zlF w S A ls):∃us:List Value,us.length=ls.length/\(A=none->ls.length=0)/\(∀ad,A=some ad->∀j u,us[j]?=some u->w.cell? (ad.add j)=some u)/\(∀u∈us,u.oneCell'=true) /\
  ∀k (hk:k<ls.length) (hv:k<us.length),∃A c,us[k]=.slice A ls[k].length c/\ls[k].length<=c/\RowI w S A ls[k]:=by
 have h0:∀i:Nat,∃u:Value,i<ls.length->∃(hi:i<ls.length) (a:Addr) (A':Option Addr) (c':Nat),A=some a/\u=.slice A' ls[i].length c'/\w.cell? (a.add i)=some u/\ls[i].length<=c'/\RowI w S A' ls[i]:=fun i=>by
  by_cases hi:i<ls.length
  ·obtain⟨a,A',c',h1,h2,h3,h4,h5⟩:=h i hi;exact⟨_,fun _=>⟨hi,a,A',c',h1,rfl,h3,h4,h5⟩⟩
  ·exact⟨undef,fun h=>absurd h hi⟩
 obtain⟨f,hf⟩:=Classical.skolem.1 h0;refine⟨(List.range ls.length).map f,by simp,fun e=>?_,fun ad e j u hj=>?_,fun u hu=>?_,fun k hk hv=>?_⟩
 ·rcases Nat.eq_zero_or_pos ls.length with h0|h0
  ·exact h0
  ·obtain⟨a,A',c',h1,-⟩:=h 0 h0;rw[e]at h1
   cases h1
 ·have hj2:j<ls.length:=by
   obtain⟨h1,-⟩:=List.getElem?_eq_some_iff.1 hj;simpa using h1
  obtain⟨_,a,A',c',h1,h2,h3,-⟩:=hf j hj2;simp[hj2]at hj;rw[e]at h1;injection h1 with h1;subst h1 hj;exact h3
 ·obtain⟨i,hi,rfl⟩:=List.mem_map.1 hu;rw[List.mem_range]at hi;obtain⟨_,a,A',c',h1,h2,-⟩:=hf i hi;rw[h2];rfl
 ·obtain⟨_,a,A',c',h1,h2,h3,h4,h5⟩:=hf k hk;refine⟨A',c',?_,h4,h5⟩;simp only[List.getElem_map,List.getElem_range];exact h2
theorem zk6.manyA{W0 wr we:World}{n0 e co:Nat}{Ao:Option Addr}{acc ys:List SS}{us:List (Value×Value×Value)}(h:zk6 wr n0 Any (.slice Ao e co) acc)(he:acc.length=e)(hb:Below n0 W0 wr)(hn:n0<=W0.heap.size)
  (kG:us.length=ys.length)(hw:Below wr.heap.size wr we)(hy:∀k (hk:k<ys.length) (hv:k<us.length),SV we (fun q=>q<n0\/wr.heap.size<=q) ys[k] (.agg #[us[k].1,us[k].2.1,us[k].2.2])){m:Nat}(hm:ys.length=m) :
  ∃xs,we.ownsRow n0 32 3 (.slice Ao e co) e xs/\n0<=we.heap.size/\∀v' w',w'.ownsRow n0 32 3 v' (e+m) (xs++zkZ us)->we.grownBy w' (Value.slice Ao e co).ownBlock->(v'.ownBlock=(Value.slice Ao e co).ownBlock\/v'.ownBlock=some we.heap.size) ->
   ∃A' c',v'=.slice A' (e+m) c'/\e+m<=c'/\Hid (Below n0 W0 w')/\Hid (zk6 w' n0 Any (.slice A' (e+m) c') (acc++ys)):=by
 subst he hm;obtain⟨vs,h1,hl,h2⟩:=h;refine⟨zkZ vs,zkp h1 hw,Nat.le_trans (Nat.le_trans hn hb.size) hw.size,fun v' w' g1 g2 g3=>?_⟩;obtain⟨A',c',rfl,hc,-⟩:=zke g1;have hs:=hb.size;have hbe:Below n0 W0 we:=hb.trans (hw.mono (by omega));refine⟨A',c',rfl,hc,zh (hbe.grown g2 (Nat.le_trans hn hbe.size) fun k hk=>(h1.lt k hk).1),zh ?_⟩;exact zk6.app (W:=we) (S:=Any) (S':=Any) hl kG (fun k hk hv=>(h2 k hk hv).later hw) (fun q h _=>h)
  (fun k hk hv=>(hy k hk hv).keep (fun q h _=>⟨trivial,fun e=>by have:=h1.lt q e;omega⟩) fun _ _ _=>rfl) g1 g2 g3
theorem zpu{ops:Array Oper}{o:Oper}{a:Act}{W:World}{K:Act->World->Prop}{Q:Exit->Act->World->Prop}{F:Prop}{tS E:TypeId}{z:Value}{sz fI:Nat}(hgd:o.guard=none)(s x:Operand)
  (ho:o.op=.call { callee:=.builtin .append,args := #[s,x],argTypes := #[tS,tS] })(hu:Tryz.prog.underlying tS=some (.slice E))(hin:(Tryz.prog.info? E).map (fun i=>(i.zero,i.size,i.bytes))=some (some z,sz,fI))(hzc:z.cells.size=sz)(hsz:0<sz)(hby:fI<=100)
  (base:Nat)(v:Value)(n:Nat)(xs:List Value)(hs:a.eval s=v)(hrow:W.ownsRow base E sz v n xs)
  (ad:Addr)(m c:Nat)(news:List Value)(hx:a.eval x=.slice (some ad) m c)(hl:news.length=m*sz)(hc:∀j u,news[j]?=some u->W.cell? (ad.add j)=some u)(h1c:∀u∈news,u.oneCell'=true)(hm:n+m<=1000000)(hb:base<=W.heap.size)
  (h:∀v' w',w'.ownsRow base E sz v' (n+m) (xs++news)->W.grownBy w' v.ownBlock->(v'.ownBlock=v.ownBlock\/v'.ownBlock=some W.heap.size)->K (a.put o.dst v') w') :
  if Region.wanted o (yielded ops a.tmps)=true then Oper.wp Tryz.prog o a W K Q else F:=by
 obtain⟨i,hi,hz0,hz1,hz2⟩:=info_parts hin;have h9:(n+m)*fI<=1000000*100:=Nat.mul_le_mul hm hby;exact zkP hgd s x tS ho base E i z sz fI hu hi hz0 hz1 hz2 hzc hsz v n xs hs hrow ad m c news hx hl hc h1c (by unfold maxLen;omega) (by omega) hb h
theorem zkC.copy{wr w2:World}{B2:Nat}{v':Value}{ls:List (List Int)}{us:List Value}(hl:us.length=ls.length)(hB:B2<=wr.heap.size)
  (hs:∀k (hk:k<ls.length) (hv:k<us.length),∃A c,us[k]=.slice A ls[k].length c/\ls[k].length<=c/\RowI wr (fun q=>q<B2) A ls[k])
  (ho:w2.ownsRow wr.heap.size 30 1 v' (0+ls.length) ([]++us))(hg:(wr.alloc (.cells #[] 30)).grownBy w2 (some wr.heap.size))(aj:v'.ownBlock=some wr.heap.size\/v'.ownBlock=some (wr.alloc (.cells #[] 30)).heap.size) :
  Below wr.heap.size wr w2/\zkC w2 wr.heap.size (fun q=>q<B2) v' ls:=by
 have aW:=zkb (zs wr) (.cells #[] 30);refine⟨aW.grown hg aW.size fun k hk=>by injection hk with hk;omega,?_⟩;have:=zkC.app (W:=wr.alloc (.cells #[] 30)) (W5:=w2) (n0:=wr.heap.size) (S:=fun q=>q<B2) (S':=fun q=>q<B2) (v:=.slice (some ⟨wr.heap.size,0,none⟩) 0 0) (v':=v') (ls:=[]) (ys:=ls) (vs:=[]) (us:=us) rfl hl
  (fun k hk=>by simp at hk) (fun _ h _=>h) (fun k hk hv=>by
   obtain⟨A,c,e1,e2,e3⟩:=hs k hk hv;exact⟨A,c,e1,e2,(e3.later aW).keep (fun q h _=>⟨h,fun e=>by injection e with e;have e:wr.heap.size=q:=e;omega⟩) fun _ _ _=>rfl⟩) ho hg aj
 simpa using this
theorem zkC.copy2{wr:World}{B2 l5:Nat}{ls:List (List Int)}{us:List Value}(hl:us.length=ls.length)(hl5:ls.length=l5)(hB:B2<=wr.heap.size)
  (hs:∀k (hk:k<ls.length) (hv:k<us.length),∃A c,us[k]=.slice A ls[k].length c/\ls[k].length<=c/\RowI wr (fun q=>q<B2) A ls[k])(v':Value)(w2:World)
  (ho:w2.ownsRow wr.heap.size 30 1 v' (0+l5) ([]++us))(hg:(wr.alloc (.cells #[] 30)).grownBy w2 (Value.slice (some ⟨wr.heap.size,0,none⟩) 0 0).ownBlock)(aj:v'.ownBlock=(Value.slice (some ⟨wr.heap.size,0,none⟩) 0 0).ownBlock\/v'.ownBlock=some (wr.alloc (.cells #[] 30)).heap.size) :
  ∃A' c',v'=.slice A' l5 c'/\Hid (Below wr.heap.size wr w2)/\Hid (zkC w2 wr.heap.size (fun q=>q<B2) (.slice A' l5 c') ls):=by
 obtain⟨A',c',rfl,-⟩:=zke ho;subst hl5;obtain⟨h1,h2⟩:=zkC.copy hl hB hs ho hg aj;rw[Nat.zero_add]at h2;exact⟨A',c',by rw[Nat.zero_add],zh h1,zh h2⟩
theorem zkC.more{W:World}{n0 B2 l c Nb lx cx:Nat}{A Ax:Option Addr}{ls:List (List Int)}{x:List Int}(h:zkC W n0 (fun q=>q<B2) (.slice A l c) ls)(hl:ls.length=l)(hB:B2<=n0)(hx:RowI W (fun q=>q<B2) Ax x)(hlx:x.length=lx)(hcx:lx<=cx)(hN:Nb<W.heap.size)(hne:(Value.slice A l c).ownBlock≠some Nb)(hn0:n0<=W.heap.size) :
  ∃vs,W.ownsRow n0 30 1 (.slice A l c) l vs/\∀v' w',w'.ownsRow n0 30 1 v' (l+1) (vs++[.slice Ax lx cx])->W.grownBy w' (Value.slice A l c).ownBlock->(v'.ownBlock=(Value.slice A l c).ownBlock\/v'.ownBlock=some W.heap.size) ->
   ∃A' c',v'=.slice A' (l+1) c'/\Hid (Below n0 W w')/\Hid (zkC w' n0 (fun q=>q<B2) (.slice A' (l+1) c') (ls++[x]))/\Hid (w'.heap[Nb]?=W.heap[Nb]?)/\Hid ((Value.slice A' (l+1) c').ownBlock≠some Nb):=by
 subst hl hlx;obtain⟨vs,h1,h2,h3⟩:=h;refine⟨vs,h1,fun v' w' g1 g2 g3=>?_⟩;obtain⟨A',c',rfl,-⟩:=zke g1;refine⟨A',c',rfl,zh ((Below.refl n0 W).grown g2 hn0 fun k hk=>(h1.lt k hk).1),zh ?_,zh (g2.block Nb hN fun e=>hne e.symm),zh fun e=>?_⟩
 ·exact zkC.app (W:=W) (W5:=w') (S:=fun q=>q<B2) (S':=fun q=>q<B2) (ys:=[x]) (us:=[.slice Ax x.length cx]) h2 rfl h3 (fun _ h _=>h) (fun k hk hv=>by
   obtain rfl:k=0:=by simpa using hk
   exact⟨Ax,cx,rfl,hcx,hx.keep (fun q h _=>⟨h,fun e=>by have:=(h1.lt q e).1;omega⟩) fun _ _ _=>rfl⟩) g1 g2 g3
 ·rcases g3 with g3|g3
  ·exact hne (g3▸e)
  ·rw[g3]at e;injection e with e;omega
theorem zzw{w':World}{n0 B2 n j l5 c9 lx cx:Nat}{A9 Ax:Option Addr}{s:SS}{x:List Int}(hj:j=n)(h:zkC w' n0 (fun q=>q<B2) (.slice A9 l5 c9) s.cells)(hl:s.cells.length=l5)(hx:RowI w' (fun q=>q<B2) Ax x)(hlx:x.length=lx)(hcx:lx<=cx)(hlim:(nwS n j s x).Lim) :
  SV w' (fun q=>q<B2\/n0<=q) (nwS n j s x) (.agg #[.slice A9 l5 c9,.slice Ax lx cx,.slice none 0 0]):=by
 subst hl hlx;have e:nwS n j s x=⟨s.cells,x,[]⟩:=by unfold nwS;rw[if_pos hj]
 rw[e]at hlim ⊢;obtain⟨A,c,e1,hc,h2⟩:=(h.keep (S':=fun q=>q<B2\/n0<=q) (fun q h _=>.inl h) fun _ _ _=>rfl).ii fun q h _=>.inr h;injection e1 with e1 e2 e3;subst e1 e3;exact⟨A9,c9,Ax,cx,none,0,rfl,h2,hx.keep (fun q h _=>.inl h) fun _ _ _=>rfl,fun i hi=>by simp at hi,hc,hcx,Nat.zero_le _,hlim⟩
theorem zzv{w':World}{n0 B2 n j l5 c9:Nat}{A9:Option Addr}{s:SS}{x:List Int}(hj:¬ j=n)(h:zkC w' n0 (fun q=>q<B2) (.slice A9 (l5+1) c9) (s.cells++[x]))(hl:s.cells.length=l5)(hlim:(nwS n j s x).Lim) :
  SV w' (fun q=>q<B2\/n0<=q) (nwS n j s x) (.agg #[.slice A9 (l5+1) c9,.slice none 0 0,.slice none 0 0]):=by
 subst hl;have e:nwS n j s x=⟨s.cells++[x],[],[]⟩:=by unfold nwS;rw[if_neg hj]
 rw[e]at hlim ⊢;obtain⟨A,c,e1,hc,h2⟩:=(h.keep (S':=fun q=>q<B2\/n0<=q) (fun q h _=>.inl h) fun _ _ _=>rfl).ii fun q h _=>.inr h;have hll:(s.cells++[x]).length=s.cells.length+1:=by simp
 rw[hll]at e1 hc;injection e1 with e1 e2 e3;subst e1 e3;exact⟨A9,c9,none,0,none,0,by simp,h2,fun i hi=>by simp at hi,fun i hi=>by simp at hi,by simpa using hc,Nat.zero_le _,Nat.zero_le _,hlim⟩
attribute [local go_sem] Oper.semAt_some
theorem zKD:IsFn Tryz.prog 44 Tryz.f44:=⟨Tryz.func44,by kernel_rfl,by kernel_rfl⟩
theorem bStZ(w:World):(Instr.build 32 #[]).run Tryz.prog w=.ok (.agg #[.slice none 0 0,.slice none 0 0,.slice none 0 0]) w:=by kernel_rfl
theorem bSt1(A:Option Addr)(l c:Nat)(w:World):(Instr.build 32 #[(0,.slice A l c)]).run Tryz.prog w=.ok (.agg #[.slice A l c,.slice none 0 0,.slice none 0 0]) w:=by kernel_rfl
theorem SV.nilR(w:World)(S:Nat->Prop):SV w S nilS (.agg #[.slice none 0 0,.slice none 0 0,.slice none 0 0]) :=
 ⟨none,0,none,0,none,0,rfl,fun i hi=>by simp[nilS]at hi,fun i hi=>by simp[nilS]at hi,fun i hi=>by simp[nilS]at hi,by simp[nilS],by simp[nilS],by simp[nilS],by simp[nilS,LI],by intro l hl;simp[nilS]at hl,by simp[nilS,LI],by simp[nilS,LI]⟩
theorem zxe(vs:List VD)(b:BX)(A:Option Addr)(c:Nat)(w:World)(hr:RowV w Any A vs)(hok:(b.ok&&svB vs)=true)(hc60:cntF vs b<=60) :
  Calls Tryz.prog 11 #[.slice A vs.length c,.int .i64 b.v,.int .i64 b.l,.int .i64 b.i] w fun e w'=>∃v,e=.returned v/\(∃A' c',v=.slice A' (allR vs b).length c'/\(allR vs b).length<=c'/\zk7 w' A' (allR vs b))/\Below w.heap.size w w':=by
 have hok2:=hok;simp only[Bool.and_eq_true]at hok2;have hb:=zll hok2.1;obtain⟨hn,hvd⟩:=zsB hok2.2;have di:=zh (ztN hok2.1 hc60);have HV:=zh hvd;have HR:=zh hr;have vP:=zh (fun j (hj:j<=vs.length+1)=>zxv hok2.1 hok2.2 hj);have yH:=zh (fun j l (h:l∈lsJ vs b j)=>zxx hok2.1 hok2.2 h);have qK:=zh (fun j=>zx7 di.out j);have bV:=zh (fun j=>zym di.out j);have kU:=zh (fun j (h:j<=vs.length)=>zrQ (vs:=vs) (b:=b) h);have jQ:=zh (show stJ vs b (vs.length+1)=allU vs b from zvU vs b);have tY:=zh (show stJ vs b 0=[nilS] by simp[stJ,stgF]);obtain⟨V,hV⟩:=zX (b.v);obtain⟨nl,hnl⟩:∃nl:Nat,b.l=(nl:Int):=⟨b.l.toNat,by omega⟩
 obtain⟨ni,hni⟩:∃ni:Nat,b.i=(ni:Int):=⟨b.i.toNat,by omega⟩
 have qV:=zh (fun j (h:j<vs.length)=>show lsJ vs b j=if vs[j].k=1 then betE V 1 1 else if vs[j].k=2 then betE V vs[j].n.toNat vs[j].n.toNat else betE V 0 nl by unfold lsJ;rw[dif_pos h];unfold lstE;rw[hV,hnl];rfl);have bD:=zh (show lsJ vs b vs.length=betE V 0 ni by unfold lsJ;rw[dif_neg (by omega),hV,hni];rfl);have hv3:0<=V/\V<=1000:=by omega
 have sj:nl<=1000:=by omega
 have su:ni<=1000:=by omega
 have xI:=zh (fun a m w' (h1:a<=m) (h2:m<=1000) (h3:(betE V a m).length<=1000)=>zrp V a m w' hv3 (by omega) h2 h1 h3);rw[hV,hnl,hni];have dW:=zh (show allR vs b=zli (allU vs b)from rfl);obtain⟨R9,wI⟩:=zX (allR vs b);rw[wI]at dW ⊢;obtain⟨U9,hU9⟩:=zX (allU vs b);rw[hU9]at jQ dW;obtain⟨ST,hST⟩:∃ST:Nat->List SS,∀j,stJ vs b j=ST j:=⟨fun j=>stJ vs b j,fun _=>rfl⟩
 obtain⟨LJ,jC⟩:∃LJ:Nat->List (List Int),∀j,lsJ vs b j=LJ j:=⟨fun j=>lsJ vs b j,fun _=>rfl⟩
 simp only[hST]at vP qK kU jQ tY;simp only[jC]at yH bV kU qV bD;clear hr hok hok2 hc60 hb hvd hV hnl hni wI hU9 hST jC di;obtain⟨n,hn'⟩:=zX (vs.length);have HN:=zh hn';rw[hn']at hn kU jQ vP bD ⊢;clear hn';have hI0:=bStZ;have hI1:=bSt1;have hI2:=bSts;go_enter Tryz.func11,Tryz.ntmps11;go_upto_region 2 with fail;have hb1:=zkb (zs w) (.cells #[.slice none 0 0,.slice none 0 0,.slice none 0 0] 32);have hk1:=heap_alloc_new w (.cells #[.slice none 0 0,.slice none 0 0,.slice none 0 0] 32);have HB1:=zh hb1;have gT:=zh (show zk7 (w.alloc (.cells #[.slice none 0 0,.slice none 0 0,.slice none 0 0] 32)) (some ⟨w.heap.size,0,none⟩) (ST 0) by
  rw[tY.out];intro k hk;obtain rfl:k=0:=by simpa using hk
  exact⟨w.heap.size,0,_,_,_,rfl,zc hk1 rfl,zc hk1 rfl,zc hk1 rfl,SV.nilR _ _⟩)
 have iM:=zh (show(ST 0).length=1 by rw[tY.out];rfl);clear hb1 hk1;go_wp2_with fail
 go_loopw [10,9,11,12,13,14,15] (fun iv sv _ _ _ _ _ wr=>∃(j:Nat) (A:Option Addr) (m c:Nat),j<=n+1/\iv=.int .i64 j/\sv=.slice A m c/\m<=c/\m<=60/\Hid ((ST j).length=m)/\Hid (Below w.heap.size w wr)/\Hid (zk7 wr A (ST j))) (fun iv _ _ _ _ _ _ _=>n+1-(intOf iv).toNat)
 case atStart=>exact⟨0,_,1,1,by omega,rfl,rfl,by omega,by omega,iM,HB1,gT⟩
 case round =>
  clear gT iM HB1;obtain⟨j,As,m,cs,hj,rfl,rfl,hmc,hm60,fK,HB,iI⟩:=hrel;by_cases hlt:j<=n
  ·have hj1:(j:Int)<=(n:Int):=by omega
   have hj0:(0:Int)<=(j:Int):=by omega
   have lG:=bV.out j;obtain⟨ll,hll⟩:=zX ((LJ j).length);have dH:=zh hll;rw[hll]at lG;clear hll
   go_upto_if 27 with(fail)
   go_cut [11]from 24 to 59 (fun lv wx=>∃(Al:Option Addr) (cl:Nat),lv=.slice Al ll cl/\ll<=cl/\Hid (Below wr.heap.size wr wx)/\Hid (zlF wx (fun q=>q<wx.heap.size) Al (LJ j)))
   case first =>
    have bA:=zh (show ∀(a m:Nat) u (wx:World),LJ j=betE V a m->Below wr.heap.size wr wx->zkC wx wr.heap.size (fun q=>wr.heap.size<=q) u (betE V a m)->(∃(Al:Option Addr) (cl:Nat),u=.slice Al ll cl/\ll<=cl/\Hid (Below wr.heap.size wr wx)/\Hid (zlF wx (fun q=>q<wx.heap.size) Al (LJ j)))from fun a m u wx h1 h2 h3=>by
     rw[<-h1]at h3;obtain⟨Al,cl,e1,e2,e3⟩:=h3.ii fun q h _=>h;rw[dH.out]at e1 e2;exact⟨Al,cl,e1,e2,zh h2,zh (e3.keep (fun q _ h=>h) fun _ _ _=>rfl)⟩)
    by_cases hjn:j=n
    ·subst hjn;have HL2:=zh bD.out;have uL:=zh (xI.out 0 ni wr (by omega) su (by rw[<-bD.out];rw[dH.out];omega));go_wp2_with fail;refine(uL.out).mono ?_;rintro e wx ⟨hb2,u,rfl,hr2⟩;have HX:=zh (bA.out 0 ni u wx HL2.out hb2 hr2);clear hb2 hr2;go_wp2_with fail
     go_meet
     exact HX.out
    ·have dh:j<vs.length:=by rw[HN.out];omega
     have hjb:¬ (j:Int)=(n:Int):=by omega
     obtain⟨ab,v,rfl,-,hv,⟨x0,x1,x2⟩,-⟩:=(HR.out.later HB.out).nd dh;have hvb:=ztr (HV.out _ (List.getElem_mem dh));have jC:=qV.out j dh;have hjn2:(j:Int)<(n:Int):=by omega
     rw[hv.out]at hvb jC;clear hv dh;obtain⟨v0,v1,v2⟩:=v;simp only at x0 x1 x2 hvb jC;have hjnb:((j:Int)==(n:Int))=false:=by simp;omega
     rcases hvb with⟨rfl,rfl⟩|⟨rfl,hn1,hn2⟩|⟨rfl,rfl⟩
     ·rw[if_pos rfl]at jC;have HL2:=zh jC;have uL:=zh (fun w' (hb:Below wr.heap.size wr w')=>xI.out 1 1 w' (by omega) (by omega) (by rw[<-HL2.out];rw[dH.out];omega));clear jC;go_wp2_with fail;refine(uL.out _ zr).mono ?_;rintro e wx ⟨hb2,u,rfl,hr2⟩;have HX:=zh (bA.out 1 1 u wx HL2.out hb2 hr2);clear hb2 hr2;go_wp2_with fail
      go_meet
      exact HX.out
     ·rw[if_neg (by decide),if_pos rfl]at jC;obtain⟨nv,rfl⟩:∃nv:Nat,v2=(nv:Int):=⟨v2.toNat,by omega⟩
      rw[Int.toNat_natCast]at jC;have HL2:=zh jC;have uL:=zh (fun w' (hb:Below wr.heap.size wr w')=>xI.out nv nv w' (by omega) (by omega) (by rw[<-HL2.out];rw[dH.out];omega));clear jC;have bz:=zh (show ∀w',Below wr.heap.size wr w'->w'.cell? ⟨(ab.add (j*3)).block,(ab.add (j*3)).off+2,none⟩=some (.int .i64 (nv:Int))from fun w' h=>by have h9:=zb h x2;exact h9);have hd:=(zs wr).drew;go_upto_region 11 with fail;have hSS:zW (fun w':World=>zv w' ((ab.add (j*3)).block) ((ab.add (j*3)).off+2) (.int .i64 (nv:Int))) zU wr.drew:=⟨bz.out _ hd,trivial⟩
      have had:Calls Tryz.prog 44 [.int .i64 V,.int .i64 (nv:Int),.int .i64 (nv:Int)].toArray wr.drew fun e w'=>∃v,e=.returned v/\(zkC w' wr.drew.heap.size (fun q=>wr.drew.heap.size<=q) v (betE V nv nv)/\Below wr.drew.heap.size wr.drew w'):=(uL.out _ hd).mono fun e w' ⟨h1,u,h2,h3⟩=>⟨u,h2,h3,h1⟩
      refine wp_region_noPanic ?_;refine zG hSS 12 ?_;refine zT 0 hSS ?_;refine zT 1 hSS ?_;refine zT 2 hSS ?_;refine zT 3 hSS ?_;refine zT 4 hSS ?_;refine zT 5 hSS ?_;refine zT 6 hSS ?_;refine zT 7 hSS ?_;refine zT 8 hSS ?_;refine zT 9 hSS ?_;refine zT 10 hSS ?_;refine zo 11 fun K hK=>?_;refine zkd (by rfl) (.func 44) [.tmp 45,.tmp 50,.tmp 55] _ (by rfl) 44 _ zKD (by rfl) _ (by rfl) _ had ?_;rintro v5 w5 ⟨hr2,hb5⟩;have hb6:=hd.trans (hb5.mono hd.size);refine hK.out _ _ ⟨bz.out _ hb6,trivial⟩ ?_;clear hK K had hSS;(try simp only[zQ]);refine zp 12 fun K hK=>?_;(try simp only[zA,zB,zC]);go_simp;refine hK.out _ _ (bz.out _ hb6) ?_;clear hK K;(try simp only[zQ]);refine zd ?_;refine NoPanic.normal ?_;have HX:=zh (bA.out nv nv v5 w5 HL2.out hb6 hr2);clear hb5 hb6 hd;go_wp2_with fail
      go_meet
      exact HX.out
     ·rw[if_neg (by decide),if_neg (by decide)]at jC;have HL2:=zh jC;have uL:=zh (fun w' (hb:Below wr.heap.size wr w')=>xI.out 0 nl w' (by omega) (by omega) (by rw[<-HL2.out];rw[dH.out];omega));clear jC;go_wp2_with fail;refine(uL.out _ zr).mono ?_;rintro e wx ⟨hb2,u,rfl,hr2⟩;have HX:=zh (bA.out 0 nl u wx HL2.out hb2 hr2);clear hb2 hr2;go_wp2_with fail
      go_meet
      exact HX.out
   case rest =>
    obtain⟨Al,cl,rfl,hlc,aX,Bw⟩:=hcut;have ng:=zh (kU.out j hlt);have HGS2:=zh (vP.out j (by omega));have HGL2:=zh (yH.out j);have tZ:=zh (qK.out (j+1));have HGN:=zh (vP.out (j+1) (by omega));have HRS2:=zh (iI.out.later aX.out);have HB2:=zh (zka HB.out aX.out);obtain⟨st,hst⟩:=zX (ST j);obtain⟨lj,hlj⟩:=zX (LJ j);obtain⟨s2,hs2⟩:=zX (ST (j+1));have HS2:=zh hs2;rw[hst]at ng HGS2 HRS2 fK;rw[hlj]at ng HGL2 dH Bw;rw[hs2]at ng tZ HGN;clear hst hlj hs2 aX iI HB qV bD yH xI kU vP;have AP:=zh (show Below wc.heap.size wc wc from zr);obtain⟨B2,hB2⟩:=zX (wc.heap.size);rw[hB2]at AP Bw;go_wp2_with fail
    go_loopw [13,12,14,15] (fun pv nv _ _ wr=>∃(p:Nat) (An:Option Addr) (e cn:Nat) (acc:List SS),p<=m/\pv=.int .i64 p/\nv=.slice An e cn/\Hid (acc.length=e/\acc=(st.take p).flatMap fun s=>lj.map (nwS n j s))/\Hid (Below B2 wc wr)/\Hid (zk6 wr B2 Any (.slice An e cn) acc)) (fun pv _ _ _ _=>m-(intOf pv).toNat)
    case atStart=>exact⟨0,none,0,0,[],by omega,rfl,rfl,zh ⟨rfl,by simp⟩,AP,zh (zk6.nil _ _ _)⟩
    case round =>
     clear AP;obtain⟨p,An,e,cn,acc,hp,rfl,rfl,vS,j3,ui⟩:=hrel;obtain⟨W8,rfl⟩:∃x,x=wr:=⟨_,rfl⟩
     by_cases hpm:p<m
     ·have hp1:(p:Int)<(m:Int):=by omega
      have hp0:(0:Int)<=(p:Int):=by omega
      have hps:p<st.length:=by rw[fK.out];exact hpm
      obtain⟨s,hs⟩:=zX (st[p]);obtain⟨b1,o1,u1,v1,x1,rfl,h10,h11,h12,hs1⟩:=HRS2.out p hps;have HTP:=zh (show(st.take (p+1)).flatMap (fun s=>lj.map (nwS n j s))=(st.take p).flatMap (fun s=>lj.map (nwS n j s))++lj.map (nwS n j s) by
       rw[List.take_succ_eq_append_getElem hps,List.flatMap_append,hs];simp)
      have vQ:=zh (HGS2.out st[p] (List.getElem_mem hps));have HPF:=zh (show ∀k,((st.take p).flatMap (fun s=>lj.map (nwS n j s))++(lj.take k).map (nwS n j s)).length<=60 from fun k=>by
       have h1:=tZ.out;have h2:(st.take (p+1)).flatMap (fun s=>lj.map (nwS n j s))++(st.drop (p+1)).flatMap (fun s=>lj.map (nwS n j s))=s2:=by rw[<-List.flatMap_append,List.take_append_drop];exact ng.out.symm
       rw[<-h2,HTP.out]at h1;simp only[List.length_append,List.length_map,List.length_take]at h1 ⊢;omega)
      have HGM:=zh (show ∀x∈lj,GdS (j+1) (nwS n j s x)from fun x hx=>zxw (hs▸vQ.out) (HGL2.out x hx));rw[hs]at hs1 vQ;obtain⟨A5,c5,l5,e5,r5,bP⟩:∃A5 c5 l5,u1=.slice A5 l5 c5/\zlF wc (fun q=>q<B2) A5 s.cells/\s.cells.length=l5:=by
       obtain⟨A5,c5,B5,d5,D5,e5,e1,r1,-⟩:=hs1;injection e1 with e1;simp only[Array.mk.injEq,List.cons.injEq,and_true]at e1;exact⟨A5,c5,_,e1.1,hB2▸r1,rfl⟩
      subst e5;have HX:=zh (show ∀w',Below B2 wc w'->w'.cell? ⟨b1,o1+p*3,none⟩=some (.slice A5 l5 c5)from fun w' h=>zb (hB2▸h) h10);have kQ:=zh r5;have kW:=zh bP;have hl5:l5<=32:=by have:=vQ.out.1;omega
      clear hs hps h10 h11 h12 hs1 r5 bP;go_wp2_with fail
      go_loopw [14,12,15] (fun kv nv _ wr=>∃(k:Nat) (An:Option Addr) (e cn:Nat) (jD:List SS),k<=ll/\kv=.int .i64 k/\nv=.slice An e cn/\Hid (jD.length=e/\jD=acc++(lj.take k).map (nwS n j s))/\Hid (Below B2 wc wr)/\Hid (zk6 wr B2 Any (.slice An e cn) jD)) (fun kv _ _ _=>ll-(intOf kv).toNat)
      case atStart=>exact⟨0,An,e,cn,acc,by omega,rfl,rfl,zh ⟨vS.out.1,by simp⟩,j3,ui⟩
      case round =>
       clear j3 ui;obtain⟨k,BU,e2,Aw,jD,hk,rfl,rfl,dR,j3,ui⟩:=hrel;by_cases hkl:k<ll
       ·have hk1:(k:Int)<(ll:Int):=by omega
        have hk0:(0:Int)<=(k:Int):=by omega
        have hkx:k<lj.length:=by rw[dH.out];exact hkl
        obtain⟨x,hx⟩:=zX (lj[k]);obtain⟨ax,Ax,cx,rfl,-,hcx,hlx,hrx⟩:=Bw.out k hkx;have qJ:=zh (show(lj.take (k+1)).map (nwS n j s)=(lj.take k).map (nwS n j s)++[nwS n j s x] by rw[List.take_succ_eq_append_getElem hkx,List.map_append,hx];rfl);have xz:=zh (HGM.out _ (List.getElem_mem hkx));rw[hx]at hcx hlx hrx xz;obtain⟨lx,sD⟩:=zX (x.length);have eT:=zh sD;rw[sD]at hcx hlx;have qi:=zh (show ∀w',Below B2 wc w'->w'.cell? (ax.add k)=some (.slice Ax lx cx)from fun w' h=>zb (hB2▸h) hcx);have kP:=zh hrx;have hsz:B2<=wr.heap.size:=by have:=j3.out.size;omega
        obtain⟨us,lh,hnn,hcl,h1c,hes⟩:=(kQ.out.later (hB2▸j3.out)).vals;have qp:=zh (zkC.copy2 (wr:=wr) (B2:=B2) lh kW.out hsz hes);have hul1:us.length=l5*1:=by rw[lh,kW.out];omega
        have hnn1:A5=none->l5=0:=fun h=>by rw[<-kW.out];exact hnn h
        have aW:=zkb (zs wr) (.cells #[] 30);have hcl1:∀ad,A5=some ad->∀j u,us[j]?=some u->(wr.alloc (.cells #[] 30)).cell? (ad.add j)=some u:=fun ad h j u hj=>zb aW (hcl ad h j u hj);have hx7:=HX.out _ (j3.out.trans (aW.mono hsz));have hsz1:wr.heap.size<=(wr.alloc (.cells #[] 30)).heap.size:=aW.size;have hown1:=zoW wr 30 1 wr.heap.size zl;have hI3:=bL0R;clear hkx hx sD hcx hrx lh hnn hcl hes aW;go_upto_region 21 with(at_builtin;refine zki rfl (.tmp 72) (.tmp 77) rfl Tryz.underlying29 zmZ rfl (by decide) (by decide) wr.heap.size (.slice (some ⟨wr.heap.size,0,none⟩) 0 0) 0 [] rfl hown1 A5 l5 c5 us rfl hul1 hnn1 hcl1 h1c (by omega) hsz1 ?_;intro v9 w9 ho hg aj;obtain⟨A9,c9,rfl,aG,bI⟩:=qp.out _ _ ho hg aj;clear ho hg aj)
        have HK:=zh (heap_alloc_new w9 (.cells #[.slice A9 l5 c9,.slice none 0 0,.slice none 0 0] 32));have aW:=zkb (zs w9) (.cells #[.slice A9 l5 c9,.slice none 0 0,.slice none 0 0] 32);have hsa:w9.heap.size<(w9.alloc (.cells #[.slice A9 l5 c9,.slice none 0 0,.slice none 0 0] 32)).heap.size:=by simp
        obtain⟨aT,bW⟩:=zX (w9.alloc (.cells #[.slice A9 l5 c9,.slice none 0 0,.slice none 0 0] 32));have hon:∀q,(Value.slice A9 l5 c9).ownBlock=some q->q<w9.heap.size:=fun q h=>by
         obtain⟨_,h1,-⟩:=bI.out;exact(h1.lt q h).2
        obtain⟨Nb,hNb⟩:=zX (w9.heap.size);rw[bW]at HK aW hsa ⊢;rw[hNb]at HK hsa hon ⊢;have hne0:(Value.slice A9 l5 c9).ownBlock≠some Nb:=fun e=>by have:=hon _ e;omega
        have dE:=zh (aG.out.trans (aW.mono aG.out.size));have pU:=zh (bI.out.keep (W':=aT) (S':=fun q=>q<B2) (fun _ h _=>h) fun q _ h=>aW.block q h);have vH:=zh hne0;have hNw:wr.heap.size<=Nb:=by rw[<-hNb];exact aG.out.size
        have jK:=zh (show ∀w',Below wr.heap.size wr w'->Below B2 wc w' from fun w' h=>j3.out.trans (h.mono hsz));clear aW bW hNb hon hne0 hown1 hcl1 hx7 hsz1 hul1 hnn1 h1c;by_cases hjn:j=n
        ·have hjb:((j:Int)==(n:Int))=true:=by simp[hjn]
         have vL:=zh hjn;clear hjn;have hx8:=qi.out _ (jK.out _ dE.out);have jU:=zkr HK.out;have dB:=zh (heap_setCell_same aT Nb 1 _ _ (.slice Ax lx cx) HK.out);have jO:=zh ((Chg.refl (fun q=>q=Nb) aT).setCell (p:=⟨Nb,1,none⟩) (.inl rfl) (.slice Ax lx cx));have cf:∀o,aT.frozen? ⟨Nb,o,none⟩=false:=fun o=>zf HK.out;have bM:=zh (dE.out.trans (jO.out.below (B:=wr.heap.size) dE.out.size fun q e=>by rw[e];exact hNw));have iH:=zh (zzw (w':=aT.setCell ⟨Nb,1,none⟩ (.slice Ax lx cx)) vL.out (pU.out.keep (S':=fun q=>q<B2) (fun _ h _=>h) fun q h hq=>jO.out.block q hq fun e=>by
          rcases h with h|h
          ·omega
          ·exact vH.out (e▸h)) kW.out (kP.out.keep (S':=fun q=>q<B2) (fun q h _=>h) fun q h hq=>(jK.out _ bM.out).block q h) eT.out hlx (xz.out.lim (by omega)))
         go_upto_region 24 with fail;obtain⟨mO,mE⟩:=zX (aT.setCell ⟨Nb,1,none⟩ (.slice Ax lx cx));rw[mE]at dB jO bM iH ⊢;clear mE hx8 jU cf;have HL11:=xz.out.lim (by omega);have ma:e2+1<=1000000:=by
          have h:=HPF.out k;rw[<-vS.out.2,<-dR.out.2,dR.out.1]at h;omega
         obtain⟨xs,hown,eY,hpush⟩:=ui.out.manyA (W0:=wc) (we:=mO.alloc (.cells #[(.slice A9 l5 c9),(.slice Ax lx cx),.slice none 0 0] 32)) (ys:=[nwS n j s x]) (us:=[((.slice A9 l5 c9),(.slice Ax lx cx),.slice none 0 0)]) dR.out.1 j3.out (by omega) rfl (bM.out.trans ((zkb (zs mO) _).mono bM.out.size)) (fun k hk hv=>by
          obtain rfl:k=0:=by simpa using hk
          exact(iH.out).keep (fun q h _=>h) fun q _ h=>(zkb (zs mO) _).block q h) (m:=1) rfl
         obtain⟨k0,k1,k2⟩:=zkr dB.out;have iY:=zh hpush;clear hpush;go_wp2_with (at_builtin;refine zki rfl (.tmp 98) (.tmp 100) rfl Tryz.underlying27 zmm rfl (by decide) (by decide) B2 (.slice BU e2 Aw) e2 xs rfl hown (some ⟨mO.heap.size,0,none⟩) 1 1 [.slice A9 l5 c9,.slice Ax lx cx,.slice none 0 0] rfl rfl (fun e=>by cases e) (zmz mO _ _ _ _) (one3 ⟨rfl,rfl,rfl⟩) ma eY ?_;intro v8 w8 ho hg aj;obtain⟨A8,c8,rfl,hc8,dQ,gV⟩:=iY.out _ _ ho hg aj;clear ho hg aj)
         go_roundw
         case rel=>exact⟨k+1,A8,e2+1,c8,jD++[nwS n j s x],by omega,by go_num,rfl,zh ⟨by rw[List.length_append,dR.out.1];rfl,by rw[qJ.out,dR.out.2,List.append_assoc]⟩,dQ,gV⟩
         case measure=>simp[intOf];omega
        ·have hjb:((j:Int)==(n:Int))=false:=by simp;omega
         have vL:=zh hjn;clear hjn;go_upto_region 23 with fail;have hd:=(zs aT).drew;obtain⟨W0,hW0⟩:=zX (aT.drew);rw[hW0]at hd;have hSS:(fun w':World=>w'.cell? (ax.add k)=some (.slice Ax lx cx)) W0/\(fun w':World=>zv w' Nb 0 (.slice A9 l5 c9)) W0:=⟨qi.out _ (jK.out _ (dE.out.trans (hd.mono dE.out.size))),zb hd (zkr HK.out).1⟩
         have hd2:=zka hd (zkb (zs W0) (.cells #[.slice Ax lx cx] 30));have tF:=zkn HK.out;have hBW:=dE.out.trans (hd2.mono dE.out.size);obtain⟨vs9,ek,hpu9⟩:=(pU.out.keep (W':=W0.alloc (.cells #[.slice Ax lx cx] 30)) (S':=fun q=>q<B2) (fun _ h _=>h) fun q _ h=>hd2.block q h).more kW.out hsz (kP.out.keep (S':=fun q=>q<B2) (fun q h _=>h) fun q h hq=>(jK.out _ hBW).block q h) eT.out hlx (Nb:=Nb) (Nat.lt_of_lt_of_le tF hd2.size) vH.out hBW.size;have kS:=zh hpu9;have hkb:=(hd2.block Nb tF).trans HK.out;have hszW:=hBW.size;have ve:=bL1R;refine wp_region_noPanic ?_;refine zkk (fun w':World=>w'.cell? (ax.add k)=some (.slice Ax lx cx)) (fun w':World=>zv w' Nb 0 (.slice A9 l5 c9)) 9 (by kernel_rfl) ?_;rw[hW0];clear hW0 hpu9;refine zT 0 hSS ?_;refine zJ 1 hSS ?_;refine zT 2 hSS ?_;refine zT 3 hSS ?_;refine zT 4 hSS ?_;refine zT 5 hSS ?_;refine zo 6 fun K hK=>?_
         go_simp;refine hK.out _ _ ⟨qi.out _ (jK.out _ hBW),zb hd2 (zkr HK.out).1⟩ ?_;clear hK K hSS;(try simp only[zQ]);have hnw:=zl0 W0 (.slice Ax lx cx) 30;have rX:=hnw ⟨W0.heap.size,0,none⟩ rfl;obtain⟨W1,hW1⟩:=zX (W0.alloc (.cells #[.slice Ax lx cx] 30));rw[hW1]at ek kS hkb hszW hBW rX ⊢;clear hnw hW1 hd2 hd tF;refine zo 7 fun K hK=>?_;refine zpu (by rfl) (.tmp 90) (.tmp 95) (by rfl) Tryz.underlying29 zmZ (by rfl) (by decide) (by decide) wr.heap.size (.slice A9 l5 c9) l5 vs9 (by rfl) ek ⟨W0.heap.size,0,none⟩ 1 1 [.slice Ax lx cx] (by rfl) (by rfl) rX (zpB _ _ _) (by omega) hszW ?_;intro v13 kZ ho hg aj;obtain⟨uO,c13,rfl,HB13,uj,HN13,HNE13⟩:=kS.out _ _ ho hg aj;clear ho hg aj;have nG:=zh (HN13.out.trans hkb);have ig:=zh (hBW.trans HB13.out);have hc1:=qi.out _ (jK.out _ ig.out);refine hK.out _ _ ⟨hc1,(zkr nG.out).1⟩ ?_
         clear hK K ek rX hkb hBW;(try simp only[zQ]);refine zo 8 fun K hK=>?_;go_simp;refine hK.out _ _ ⟨hc1,(zkr nG.out).1⟩ ?_;clear hK K;(try simp only[zQ]);have cf:∀o,kZ.frozen? ⟨Nb,o,none⟩=false:=fun o=>zf nG.out;have hk13:=zkr nG.out;have dB:=zh (heap_setCell_same kZ Nb 0 _ _ (.slice uO (l5+1) c13) nG.out);have jO:=zh ((Chg.refl (fun q=>q=Nb) kZ).setCell (p:=⟨Nb,0,none⟩) (.inl rfl) (.slice uO (l5+1) c13));have bM:=zh (ig.out.trans (jO.out.below (B:=wr.heap.size) ig.out.size fun q e=>by rw[e];exact hNw));have iH:=zh (zzv (w':=kZ.setCell ⟨Nb,0,none⟩ (.slice uO (l5+1) c13)) vL.out (uj.out.keep (S':=fun q=>q<B2) (fun _ h _=>h) fun q h hq=>jO.out.block q hq fun e=>by
          rcases h with h|h
          ·omega
          ·exact HNE13.out (e▸h)) kW.out (xz.out.lim (by omega)))
         refine zp 9 fun K hK=>?_;(try simp only[zA,zB,zC]);go_simp;obtain⟨mO,mE⟩:=zX (kZ.setCell ⟨Nb,0,none⟩ (.slice uO (l5+1) c13));rw[mE]at dB jO bM iH ⊢;clear mE hk13 cf hc1;refine hK.out _ _ (qi.out _ (jK.out _ bM.out)) ?_;clear hK K;(try simp only[zQ]);refine zd ?_;refine NoPanic.normal ?_;have HL11:=xz.out.lim (by omega);have ma:e2+1<=1000000:=by
          have h:=HPF.out k;rw[<-vS.out.2,<-dR.out.2,dR.out.1]at h;omega
         obtain⟨xs,hown,eY,hpush⟩:=ui.out.manyA (W0:=wc) (we:=mO.alloc (.cells #[(.slice uO (l5+1) c13),(.slice none 0 0),.slice none 0 0] 32)) (ys:=[nwS n j s x]) (us:=[((.slice uO (l5+1) c13),(.slice none 0 0),.slice none 0 0)]) dR.out.1 j3.out (by omega) rfl (bM.out.trans ((zkb (zs mO) _).mono bM.out.size)) (fun k hk hv=>by
          obtain rfl:k=0:=by simpa using hk
          exact(iH.out).keep (fun q h _=>h) fun q _ h=>(zkb (zs mO) _).block q h) (m:=1) rfl
         obtain⟨k0,k1,k2⟩:=zkr dB.out;have iY:=zh hpush;clear hpush;go_wp2_with (at_builtin;refine zki rfl (.tmp 98) (.tmp 100) rfl Tryz.underlying27 zmm rfl (by decide) (by decide) B2 (.slice BU e2 Aw) e2 xs rfl hown (some ⟨mO.heap.size,0,none⟩) 1 1 [.slice uO (l5+1) c13,.slice none 0 0,.slice none 0 0] rfl rfl (fun e=>by cases e) (zmz mO _ _ _ _) (one3 ⟨rfl,rfl,rfl⟩) ma eY ?_;intro v8 w8 ho hg aj;obtain⟨A8,c8,rfl,hc8,dQ,gV⟩:=iY.out _ _ ho hg aj;clear ho hg aj)
         go_roundw
         case rel=>exact⟨k+1,A8,e2+1,c8,jD++[nwS n j s x],by omega,by go_num,rfl,zh ⟨by rw[List.length_append,dR.out.1];rfl,by rw[qJ.out,dR.out.2,List.append_assoc]⟩,dQ,gV⟩
         case measure=>simp[intOf];omega
       ·obtain rfl:k=ll:=by omega
        have hk1:¬ (k:Int)<(k:Int):=by omega
        go_wp2_with fail
        go_roundw
        case rel=>exact⟨p+1,BU,e2,Aw,jD,by omega,by go_num,rfl,zh ⟨dR.out.1,by rw[HTP.out,dR.out.2,vS.out.2,<-dH.out,List.take_length]⟩,j3,ui⟩
        case measure=>simp[intOf];omega
     ·obtain rfl:p=m:=by omega
      have hp1:¬ (p:Int)<(p:Int):=by omega
      have bA:=zh (show ∀w',Below B2 wc w'->Below w.heap.size w w' from fun w' h=>zka HB2.out (hB2▸h));have hac:acc=s2:=by rw[vS.out.2,<-fK.out,List.take_length];exact ng.out.symm
      have hae:=vS.out.1;obtain⟨A9,c9,e9,bF,lq⟩:=ui.out.sa;injection e9 with e91 e92 e93;rw[hac]at lq hae bF;subst e91 e93;have hs60:=tZ.out;have bI:=zh lq;have HE9:=zh hae;rw[hae]at hs60 bF;clear lq hae hac e92;go_wp2_with fail
      go_roundw
      case rel=>exact⟨j+1,An,e,cn,by omega,by go_num,rfl,bF,hs60,by rw[HS2.out];exact HE9,zh (bA.out _ j3.out),by rw[HS2.out];exact bI⟩
      case measure=>simp[intOf];omega
  ·obtain rfl:j=n+1:=by omega
   have hj1:¬ ((n:Int)+1)<=(n:Int):=by omega
   have hjj:=jQ.out;rw[hjj]at fK iI;have hR9l:R9.length=m:=by rw[dW.out];exact zn9 m U9 fK.out
   have hgd:=vP.out (n+1) (by omega);rw[hjj]at hgd;have HC:=zh (zsF m U9 As cs wr fK.out hmc (by omega) iI.out fun s h=>(hgd s h).sm (by omega));have gU:=zh hR9l;clear hjj hgd hR9l;go_wp2_with fail;refine HC.out.mono ?_;rintro e w9 ⟨v,rfl,⟨A9,c9,rfl,bF,lq⟩,aU⟩;have bI:=zh lq;have aG:=zh (zka HB.out aU);clear lq aU;go_wp2_with fail;go_ret;exact⟨_,rfl,⟨A9,c9,by rw[gU.out];rfl,by rw[gU.out];exact bF,by rw[dW.out];exact bI.out⟩,aG.out⟩
end
section
open Go.RowKit
mutual
/-- ast.limited: what is left of the count,or none. -/
def lim:T->Nat->Nat->Option Nat
 | .nd _ _ _ ks,d,l=>if d=0\/l=0 then none else lims ks (d-1) (l-1)
def lims:List T->Nat->Nat->Option Nat
 | [],_,l=>some l
 | t::ts,d,l=>match lim t d l with
  | none=>none
  | some l'=>lims ts d l'
end
theorem zoi(ts us:List T)(d:Nat):∀l,lims (ts++us) d l=(lims ts d l).bind fun r=>lims us d r:=by
 induction ts with
 | nil=>intro l;simp[lims]
 | cons t ts ih =>
  intro l;simp only[List.cons_append,lims]
  cases lim t d l with
  | none=>rfl
  | some r=>exact ih r
theorem zwl(t:T)(d l:Nat):lims [t] d l=lim t d l:=by
 simp only[lims]
 cases lim t d l<;>rfl
theorem zt9{ks:List T}{d l r j:Nat}(hj:j<ks.length)(h:lims (ks.take j) d l=some r):lims (ks.take (j+1)) d l=lim ks[j] d r:=by
 rw[List.take_succ_eq_append_getElem hj,zoi,h];exact zwl _ _ _
theorem zua{ks:List T}{d l j:Nat}(h:lims (ks.take j) d l=none):lims ks d l=none:=by
 rw[<-List.take_append_drop j ks,zoi,h];rfl
theorem zzz(t:T):∀d l r,lim t d l=some r->r<=l:=by
 induction t using T.ind with
 | _ k n s ks ih =>
 intro d l r h;rw[lim]at h
 split at h
 ·cases h
 ·have key:∀(us:List T),(∀t∈us,∀d l r,lim t d l=some r->r<=l)->∀l r d,lims us d l=some r->r<=l:=by
   intro us
   induction us with
   | nil=>intro _ l r d h;simp[lims]at h;omega
   | cons t us ih2 =>
    intro hu l r d h;simp only[lims]at h
    cases h1:lim t d l with
    | none=>rw[h1]at h;cases h
    | some r1 =>
     rw[h1]at h;have:=hu t (by simp) d l r1 h1;have:=ih2 (fun t ht=>hu t (by simp[ht])) r1 r d h;omega
  have:=key ks ih _ _ _ h;omega
def LimE(w:World)(b:Nat)(o:Option Nat)(e:Ending)(w':World):Prop :=
 e=.returned (.bool o.isSome)/\∃l':Nat,w'.heap[b]?=some (.cells #[.int .i64 (l':Int)] 3 (0,0))/\(∀r,o=some r->l'=r)/\w.grownBy w' (some b)
theorem zmT{a b c:World}{row:Option Nat}(h1:a.grownBy b row)(h2:b.grownBy c row):a.grownBy c row :=
 ⟨h2.os.trans h1.os,h2.tape.trans h1.tape,h2.output.trans h1.output,Nat.le_trans h1.size h2.size,fun i hi hne=>(h2.block i (Nat.lt_of_lt_of_le hi h1.size) hne).trans (h1.block i hi hne)⟩
theorem zmd{w:World}(o:Obj)(row:Option Nat):w.grownBy (w.alloc o) row :=
 let h:=(zs w).alloc zl o
 ⟨h.os,h.tape,h.output,h.size,fun b hb _=>h.block b hb⟩
theorem zl9.grown{w w':World}{S:Nat->Prop}{A:Option Addr}{ts:List T}{b:Nat}(h:zl9 w S A ts)(hg:w.grownBy w' (some b))(hb:¬ S b):zl9 w' S A ts :=
 h.keep (fun _ h _=>h) fun i hi hlt=>hg.block i hlt fun e=>by injection e with e;subst e;exact hb hi
theorem zrg(t:T):∀(d l:Nat) (S:Nat->Prop) (v:Value) (w:World) (b:Nat),NV w S t v->¬ S b->d<=80->l<=2000->w.heap[b]?=some (.cells #[.int .i64 (l:Int)] 3 (0,0)) ->
  Calls Tryz.prog 108 #[v,.int .i64 (d:Int),.pointer (some ⟨b,0,none⟩)] w (LimE w b (lim t d l)):=by
 induction t using T.ind with
 | _ k n s ks ih =>
 intro d l S v w b hv hSb hd hl hbx;obtain⟨A,c,rfl,hf,hlk,hlc,hrow⟩:=hv.open_;simp only[T.k_nd,T.n_nd,T.s_nd,T.ks_nd]at *
 have aB:=zkI hlk;have IH:=zh ih;have ae:=zh hrow;have iX:=zh hSb;have aX:=zh hbx;have hbl:=zkn hbx;have c0:=zks (zc (i:=0) (u:=.int .i64 (l:Int)) hbx rfl);have f0:∀o:Obj,(w.alloc o).frozen? ⟨b,0,none⟩=false:=fun o=>by
  have:(w.alloc o).heap[b]?=some (.cells #[.int .i64 (l:Int)] 3 (0,0)):=(Below.heap_alloc w o b hbl).trans hbx;exact zf this
 clear hv ih hrow hSb hf hlk hbx;have hne:¬ b=w.heap.size:=by omega
 have hne':¬ w.heap.size=b:=by omega
 by_cases hd0:d=0
 ·subst hd0;have HX:=zh (show lim (.nd k n s ks) 0 l=none by rw[lim];simp);go_enter Tryz.func108,Tryz.ntmps108;go_wp2_with fail;go_ret;rw[HX.out];exact⟨rfl,l,(Below.heap_alloc w _ b hbl).trans aX.out,(fun r h=>by cases h),zmd _ _⟩
 by_cases hl0:l=0
 ·subst hl0;have HX:=zh (show lim (.nd k n s ks) d 0=none by rw[lim];simp);have fd:((d:Int)==0)=false:=by simpa using hd0
  go_enter Tryz.func108,Tryz.ntmps108;go_wp2_with fail;go_ret;rw[HX.out];exact⟨rfl,0,(Below.heap_alloc w _ b hbl).trans aX.out,(fun r h=>by cases h),zmd _ _⟩
 obtain⟨d',rfl⟩:∃d',d=d'+1:=⟨d-1,by omega⟩
 obtain⟨l',rfl⟩:∃l',l=l'+1:=⟨l-1,by omega⟩
 have HX:=zh (show lim (.nd k n s ks) (d'+1) (l'+1)=lims ks d' l' by rw[lim,if_neg (by omega)];simp);rw[show((d'+1:Nat):Int)=(d':Int)+1 from rfl];have fd:((d':Int)+1==0)=false:=by simp;omega
 have fl:((l':Int)+1==0)=false:=by simp;omega
 clear hd0 hl0;have hb1:(w.setCell ⟨b,0,none⟩ (.int .i64 (l':Int))).heap[b]?=some (.cells #[.int .i64 (l':Int)] 3 (0,0)):=by
  have h1:=heap_setCell_same w b 0 _ 3 (.int .i64 (l':Int)) aX.out;simpa using h1
 have hz1:(w.setCell ⟨b,0,none⟩ (.int .i64 (l':Int))).heap.size=w.heap.size:=by simp[World.setCell]
 obtain⟨W0,hW0⟩:=zX ((w.setCell ⟨b,0,none⟩ (.int .i64 (l':Int))).alloc (.cells #[.int .u8 k,.int .i64 n,.string s,.slice A ks.length c] 41));have H0:W0.heap[b]?=some (.cells #[.int .i64 (l':Int)] 3 (0,0)):=by
  rw[<-hW0,Below.heap_alloc _ _ b (by rw[hz1];exact hbl)];exact hb1
 have A0:W0.heap[w.heap.size]?=some (.cells #[.int .u8 k,.int .i64 n,.string s,.slice A ks.length c] 41 (0,0)):=by
  rw[<-hW0,<-hz1];exact heap_alloc_new _ _
 have G0:w.grownBy W0 (some b):=by
  rw[<-hW0];refine zmT (zv8 (zqq w (some b)) (p:=⟨b,0,none⟩) rfl _) (zmd _ _)
 have HH:=zh (And.intro H0 (And.intro A0 G0));have HW0:=zh hW0;clear H0 G0 A0 hb1 hz1 hW0;go_enter Tryz.func108,Tryz.ntmps108;go_wp2_with fail;rw[HW0.out];clear c0 f0
 go_loopw [25] (fun i wr=>∃(j lc:Nat),j<=ks.length/\i=.int .i64 j/\lc<=2000/\Hid (lims (ks.take j) d' l'=some lc)/\wr.heap[b]?=some (.cells #[.int .i64 (lc:Int)] 3 (0,0))/\wr.heap[w.heap.size]?=some (.cells #[.int .u8 k,.int .i64 n,.string s,.slice A ks.length c] 41 (0,0))/\w.grownBy wr (some b)) (fun i _=>ks.length-(intOf i).toNat)
 case atStart=>exact⟨0,l',Nat.zero_le _,rfl,by omega,zh (by simp[lims]),HH.out.1,HH.out.2.1,HH.out.2.2⟩
 case round =>
  obtain⟨j,lc,hj,rfl,oO,xm,hbx,hax,hg⟩:=hrel;clear HH HW0;by_cases hlt:j<ks.length
  ·obtain⟨a,t,A1,c1,rfl,_,Ht,⟨q0,q1,q2,q3⟩,hn⟩:=(ae.out.grown hg iX.out).nd hlt;have hI:=IH.out ks[j] (List.getElem_mem hlt);rw[Ht.out]at hI;have o9:=zkn hbx;have hal:∀o:Obj,(wr.alloc o).heap[b]?=some (.cells #[.int .i64 (lc:Int)] 3 (0,0)):=fun o=>(Below.heap_alloc wr o b o9).trans hbx;have HI1:=zh (hI d' lc S _ (wr.alloc (.cells #[.int .u8 t.k,.int .i64 t.n,.string t.s,.slice A1 t.ks.length c1] 41)) b (hn.later (zr.alloc zl _)) iX.out (by omega) oO (hal _));have HT:=zh (show lims (ks.take (j+1)) d' l'=lim t d' lc by rw[zt9 hlt xm.out,Ht.out]);have HG:=zh (zmT hg (zmd (.cells #[.int .u8 t.k,.int .i64 t.n,.string t.s,.slice A1 t.ks.length c1] 41) _));have HAX:=zh (show ∀o:Obj,(wr.alloc o).heap[w.heap.size]?=some (.cells #[.int .u8 k,.int .i64 n,.string s,.slice (some a) ks.length c] 41 (0,0))from fun o=>(Below.heap_alloc wr o _ (zkn hax)).trans hax)
   clear hI hn hbx hax hal;go_wp2_with fail;refine HI1.out.mono ?_;rintro e w1 ⟨rfl,l1,hb1,hl1,hg1⟩;have yI:=zh (zmT HG.out hg1);have HA1:=zh ((hg1.block _ (zkn (HAX.out _)) (fun e=>hne' (by injection e))).trans (HAX.out _));have HB1:=zh hb1;clear hb1 hg1
   cases ho:lim t d' lc with
   | none =>
    have bz:=zh (show lims ks d' l'=none from zua (j:=j+1) (by rw[HT.out,ho]));go_wp2_with fail;go_ret;rw[HX.out,bz.out];exact⟨rfl,l1,HB1.out,(fun r h=>by cases h),yI.out⟩
   | some r =>
    have hr1:=hl1 r ho;subst hr1;have hle:l1<=2000:=by have:=zzz t d' lc l1 ho;omega
    have HT2:=zh (show lims (ks.take (j+1)) d' l'=some l1 by rw[HT.out,ho]);clear hl1 ho;go_wp2_with fail
    go_roundw
    case rel=>exact⟨j+1,l1,by omega,by go_num,hle,HT2,HB1.out,HA1.out,yI.out⟩
    case measure=>simp[intOf];omega
  ·obtain rfl:j=ks.length:=by omega
   have HL2:=zh (show lims ks d' l'=some lc by have:=xm.out;rw[List.take_of_length_le (by omega)]at this;exact this);go_wp2_with fail;go_ret;rw[HX.out,HL2.out];exact⟨rfl,lc,hbx,(fun r h=>by cases h;rfl),hg⟩
def zlE(t:T):Bool:=(lim t 80 2000).isSome&&isB t
theorem zo5(t:T)(v:Value)(w:World)(hv:NV w Any t v):Calls Tryz.prog 68 #[v] w fun e w'=>e=.returned (.bool (zlE t))/\Below w.heap.size w w':=by
 have HV:=zh hv;have HX:=zh (show zlE t=((lim t 80 2000).isSome&&isB t)from rfl);obtain⟨A,c,rfl,hf,hlk,hlc,hrow⟩:=hv.open_;clear hf hlk hrow hv hlc;generalize t.k=k,t.n=n,t.s=s,t.ks.length=l at *
 have yn:=zh (show NV w (fun b=>b<w.heap.size) t (nv k n s A l c)from HV.out.keep (fun _ _ h=>h) fun _ _ _=>rfl);have hb2:∀o o',Below w.heap.size w ((w.alloc o).alloc o'):=fun o o'=>(zr.alloc zl _).alloc (by simp) _;have HB2:=zh hb2;have aX:=zh (show ∀o:Obj,((w.alloc o).alloc (.cells #[.int .i64 2000] 3)).heap[w.heap.size+1]?=some (.cells #[.int .i64 ((2000:Nat):Int)] 3 (0,0))from fun o=>by
  have:=heap_alloc_new (w.alloc o) (.cells #[.int .i64 2000] 3);simpa using this)
 clear hb2;go_enter Tryz.func68,Tryz.ntmps68;go_wp2_with fail;refine(zrg t 80 2000 (fun b=>b<w.heap.size) _ _ (w.heap.size+1) (yn.out.later (HB2.out _ _)) (fun h=>by have h':w.heap.size+1<w.heap.size:=h;omega) (by omega) (by omega) (aX.out _)).mono ?_;rintro e w1 ⟨rfl,l1,hb1,_,hg1⟩;have q1:Below w.heap.size w w1:=by
  refine(HB2.out (.cells #[.int .u8 k,.int .i64 n,.string s,.slice A l c] 41) (.cells #[.int .i64 2000] 3)).grown hg1 (by simp;omega) ?_;intro g e;injection e with e;omega
 have hc:∀i,w1.cell? ⟨w.heap.size,i,none⟩=((w.alloc (.cells #[.int .u8 k,.int .i64 n,.string s,.slice A l c] 41)).alloc (.cells #[.int .i64 2000] 3)).cell? ⟨w.heap.size,i,none⟩:=fun i =>
  World.cell?_of_block (a:=⟨w.heap.size,i,none⟩) (hg1.block _ (by simp;omega) (fun e=>by simp at e))
 have x0:w1.cell? ⟨w.heap.size,0,none⟩=some (.int .u8 k):=(hc 0).trans (by simp);have x1:w1.cell? ⟨w.heap.size,1,none⟩=some (.int .i64 n):=(hc 1).trans (by simp);have x2:w1.cell? ⟨w.heap.size,2,none⟩=some (.string s):=(hc 2).trans (by simp);have x3:w1.cell? ⟨w.heap.size,3,none⟩=some (.slice A l c):=(hc 3).trans (by simp);have fE:=HX.out;clear hc hg1 hb1
 cases ho:(lim t 80 2000).isSome
 ·rw[ho]at fE;go_wp2_with fail;go_ret;exact⟨by rw[fE];rfl,q1⟩
 ·rw[ho]at fE;have bz:=zh fE;clear fE;go_wp2_with fail;refine(zry t _ _ (HV.out.later q1)).mono ?_;rintro e w2 ⟨rfl,au⟩;go_wp2_with fail;go_ret;exact⟨by rw[bz.out];simp,q1.trans (au.mono q1.size)⟩
def zmk(v:VD):Bool:=zmi v.s&&(if v.k=1\/v.k=3 then v.n==0 else if v.k=2 then decide (1<=v.n/\v.n<=16)else false)
theorem zw1{vs:List VD}{f:VD->Bool}{j:Nat}(hj:j<vs.length)(h:(vs.take j).all f=true):(vs.take (j+1)).all f=f vs[j]:=by
 rw[List.take_succ_eq_append_getElem hj,List.all_append,h];simp
theorem zw2{vs:List VD}{f:VD->Bool}{j:Nat}(hj:j<vs.length)(h:f vs[j]=false):vs.all f=false:=by
 simp only[List.all_eq_false];exact⟨vs[j],List.getElem_mem hj,by simp[h]⟩
theorem znJ(vs:List VD)(A:Option Addr)(c:Nat)(S:Nat->Prop)(w:World)(hrow:RowV w S A vs)(hl:vs.length<=LV)(_hlc:vs.length<=c) :
  Calls Tryz.prog 66 #[.slice A vs.length c] w fun e w'=>e=.returned (.bool (vs.all zmk))/\Below w.heap.size w w':=by
 have hl':=zk9 hl;have ae:=zh hrow;clear hrow hl;go_enter Tryz.func66,Tryz.ntmps66;go_wp2_with fail
 go_loopw [7] (fun i wr=>∃j:Nat,j<=vs.length/\i=.int .i64 j/\Below w.heap.size w wr/\Hid ((vs.take j).all zmk=true)) (fun i _=>vs.length-(intOf i).toNat)
 case atStart=>exact⟨0,Nat.zero_le _,rfl,zr,zh (by simp)⟩
 case round =>
  obtain⟨j,hj,rfl,hb,HA⟩:=hrel;by_cases hlt:j<vs.length
  ·obtain⟨a,v,rfl,_,Hv,⟨q0,q1,q2⟩,hf⟩:=(ae.out.later hb).nd hlt;have HT:=zh (show(vs.take (j+1)).all zmk=zmk v by rw[zw1 hlt HA.out,Hv.out]);have HN:=zh (show zmk v=false->vs.all zmk=false from fun h=>zw2 hlt (by rw[Hv.out];exact h));have HD:=zh (show zmk v=(zmi v.s&&(if v.k=1\/v.k=3 then v.n==0 else if v.k=2 then decide (1<=v.n/\v.n<=16)else false))from rfl);obtain⟨s,hs⟩:=zX (v.s);obtain⟨k,hk⟩:=zX (v.k);obtain⟨n,hn⟩:=zX (v.n);have dX:=HD.out;rw[hs,hk,hn]at dX;rw[hs]at q0;rw[hk]at q1;rw[hn]at q2;clear HD hf hs hk hn;have HD:=zh dX;clear dX;go_wp2_with fail;refine(zpZ s _).mono ?_;rintro e w1 ⟨rfl,aa⟩;have q1':Below w.heap.size w w1:=(hb.alloc hb.size _).trans (aa.mono (by have:=hb.size;simp;omega));have x1:w1.cell? ⟨wr.heap.size,1,none⟩=some (.int .u8 k):=zb aa (by simp);have x2:w1.cell? ⟨wr.heap.size,2,none⟩=some (.int .i64 n):=zb aa (by simp)
   have dX:=HD.out;clear aa
   cases hnm:zmi s
   ·rw[hnm]at dX;have HR:=zh (HN.out (by rw[dX];rfl));clear dX;go_wp2_with fail;go_ret;exact⟨by rw[HR.out];rfl,q1'⟩
   rw[hnm,Bool.true_and]at dX;by_cases lJ:k=1\/k=3
   ·rw[if_pos lJ]at dX;by_cases hn0:n=0
    ·subst hn0;have HG:=zh (show(vs.take (j+1)).all zmk=true by rw[HT.out,dX];rfl);clear dX;rcases lJ with rfl|rfl
     ·go_wp2_with fail
      go_roundw
      case rel=>exact⟨j+1,by omega,by go_num,q1',HG⟩
      case measure=>simp[intOf];omega
     ·go_wp2_with fail
      go_roundw
      case rel=>exact⟨j+1,by omega,by go_num,q1',HG⟩
      case measure=>simp[intOf];omega
    ·have fn:(n != 0)=true:=by simpa using hn0
     have HR:=zh (HN.out (by rw[dX];simpa using hn0));clear dX;rcases lJ with rfl|rfl
     ·go_wp2_with fail;go_ret;exact⟨by rw[HR.out];rfl,q1'⟩
     ·go_wp2_with fail;go_ret;exact⟨by rw[HR.out];rfl,q1'⟩
   ·rw[if_neg lJ]at dX;have f1:(k==1)=false:=by simp;omega
    have f3:(k==3)=false:=by simp;omega
    by_cases h2:k=2
    ·subst h2;rw[if_pos rfl]at dX;by_cases hl1:n<1
     ·have HR:=zh (HN.out (by rw[dX];simp;omega));clear dX;go_wp2_with fail;go_ret;exact⟨by rw[HR.out];rfl,q1'⟩
     ·by_cases hg16:16<n
      ·have HR:=zh (HN.out (by rw[dX];simp;omega));have sF:1<=n:=by omega
       clear dX hl1;go_wp2_with fail;go_ret;exact⟨by rw[HR.out];rfl,q1'⟩
      ·have HG:=zh (show(vs.take (j+1)).all zmk=true by rw[HT.out,dX];simp;omega);have sF:1<=n:=by omega
       have hg16':n<=16:=by omega
       clear dX hl1 hg16;go_wp2_with fail
       go_roundw
       case rel=>exact⟨j+1,by omega,by go_num,q1',HG⟩
       case measure=>simp[intOf];omega
    ·rw[if_neg h2]at dX;have f2:(k==2)=false:=by simpa using h2
     have HR:=zh (HN.out dX);clear dX;go_wp2_with fail;go_ret;exact⟨by rw[HR.out];rfl,q1'⟩
  ·obtain rfl:j=vs.length:=by omega
   have HR:=zh (show vs.all zmk=true by have:=HA.out;rw[List.take_of_length_le (by omega)]at this;exact this);go_wp2_with fail;go_ret;exact⟨by rw[HR.out];rfl,hb⟩
def zoG(r:PR):Bool:=zmi r.s&&decide (r.ps.length<=8)&&r.ps.all zmk&&zlE r.b
def zla(p:PG):Bool:=decide (p.vs.length<=32)&&decide (p.prs.length<=64)&&p.vs.all zmk&&p.prs.all zoG&&zlE p.m
theorem ztR{vs:List PR}{f:PR->Bool}{j:Nat}(hj:j<vs.length)(h:(vs.take j).all f=true):(vs.take (j+1)).all f=f vs[j]:=by
 rw[List.take_succ_eq_append_getElem hj,List.all_append,h];simp
theorem ztS{vs:List PR}{f:PR->Bool}{j:Nat}(hj:j<vs.length)(h:f vs[j]=false):vs.all f=false:=by
 simp only[List.all_eq_false];exact⟨vs[j],List.getElem_mem hj,by simp[h]⟩
theorem zoB(p:PG)(S:Nat->Prop)(v:Value)(w:World)(hv:PV w S p v):Calls Tryz.prog 25 #[v] w fun e w'=>e=.returned (.bool (zla p))/\Below w.heap.size w w':=by
 obtain⟨A1,c1,A2,c2,A3,c3,rfl,hr⟩:=hv;have HR:=zh hr;have hv1:=zk9 hr.lv;have hv2:=zk9 hr.lp;have HX:=zh (show zla p=(decide (p.vs.length<=32)&&decide (p.prs.length<=64)&&p.vs.all zmk&&p.prs.all zoG&&zlE p.m)from rfl);have oO:=hr.lpc;obtain⟨L1,hL1⟩:=zX (p.vs.length);obtain⟨L2,hL2⟩:=zX (p.prs.length);obtain⟨k,hk⟩:=zX (p.m.k);obtain⟨n,hn⟩:=zX (p.m.n);obtain⟨s,hs⟩:=zX (p.m.s);obtain⟨l3,hl3⟩:=zX (p.m.ks.length);have iM:=zh hL1;have HL2:=zh hL2;have hm:=hr.main;rw[hk,hn,hs,hl3]at hm;have HM:=zh hm;have hx:=HX.out;rw[hL1,hL2]at hx;rw[hL1]at hv1;rw[hL2]at hv2 oO;rw[hL1,hL2,hk,hn,hs,hl3];clear hr hm HX hL1 hL2 hk hn hs hl3;have HX:=zh hx;clear hx;have hb0:∀o,Below w.heap.size w (w.alloc o):=fun o=>zr.alloc zl _;have HB0:=zh hb0;clear hb0
 have uK:=zh (show ∀w',Below w.heap.size w w'->Calls Tryz.prog 66 #[.slice A1 L1 c1] w' fun e w''=>e=.returned (.bool (p.vs.all zmk))/\Below w'.heap.size w' w'' from fun w' h=>by
  have:=znJ p.vs A1 c1 S w' (HR.out.vars.later h) HR.out.lv HR.out.lvc;rw[iM.out]at this;exact this)
 by_cases h32:32<L1
 ·have HF:=zh (show zla p=false by rw[HX.out];simp;intro h;omega);have h32':(32:Int)<(L1:Int):=by omega
  go_enter Tryz.func25,Tryz.ntmps25;go_wp2_with fail;go_ret;exact⟨by rw[HF.out];rfl,HB0.out _⟩
 by_cases h64:64<L2
 ·have HF:=zh (show zla p=false by rw[HX.out];simp;intro _ h;omega);have h32':(L1:Int)<=32:=by omega
  have h64':(64:Int)<(L2:Int):=by omega
  clear h32;go_enter Tryz.func25,Tryz.ntmps25;go_wp2_with fail;go_ret;exact⟨by rw[HF.out];rfl,HB0.out _⟩
 have h32':(L1:Int)<=32:=by omega
 have h64':(L2:Int)<=64:=by omega
 have hx:=HX.out;have e1:L1<=32:=by omega
 have e2:L2<=64:=by omega
 rw[decide_eq_true e1,decide_eq_true e2]at hx;simp only[Bool.true_and]at hx;clear HX h32 h64 e1 e2;have HX:=zh hx;clear hx;go_enter Tryz.func25,Tryz.ntmps25;go_wp2_with fail;refine(uK.out _ (HB0.out _)).mono ?_;rintro e w1 ⟨rfl,aa⟩;have q1:Below w.heap.size w w1:=(HB0.out _).trans (aa.mono (by simp));have hbx:w1.heap[w.heap.size]?=some (.cells #[.slice A1 L1 c1,.slice A2 L2 c2,.int .u8 k,.int .i64 n,.string s,.slice A3 l3 c3] 43 (0,0)):=(aa.block _ (by simp)).trans (heap_alloc_new w _);have x1:w1.cell? ⟨w.heap.size,1,none⟩=some (.slice A2 L2 c2):=zc hbx rfl;have hx:=HX.out;clear aa uK
 cases hd:p.vs.all zmk
 ·rw[hd]at hx;have HF:=zh (show zla p=false by rw[hx];rfl);clear hx;go_wp2_with fail;go_ret;exact⟨by rw[HF.out];rfl,q1⟩
 rw[hd,Bool.true_and]at hx;have bz:=zh hx;have aX:=zh hbx;clear hx HX hd hbx;go_wp2_with fail
 go_loopw [24] (fun i wr=>∃j:Nat,j<=L2/\i=.int .i64 j/\Below w1.heap.size w1 wr/\Hid ((p.prs.take j).all zoG=true)) (fun i _=>L2-(intOf i).toNat)
 case atStart=>exact⟨0,Nat.zero_le _,rfl,zr,zh (by simp)⟩
 case round =>
  obtain⟨j,hj,rfl,hb,HA⟩:=hrel;have hq:Below w.heap.size w wr:=q1.trans (hb.mono q1.size);by_cases hlt:j<L2
  ·have hlt':j<p.prs.length:=by rw[HL2.out];exact hlt
   obtain⟨a,r,B1,d1,B2,d2,rfl,_,Hr,⟨z0,z1,z2,z3,z4,z5⟩,hrr⟩:=(HR.out.procs.later hq).nd hlt';have HRR:=zh hrr;have HT:=zh (show(p.prs.take (j+1)).all zoG=zoG r by rw[ztR hlt' HA.out,Hr.out]);have HN:=zh (show zoG r=false->zla p=false from fun h=>by rw[bz.out,ztS hlt' (by rw[Hr.out];exact h)];rfl);have xc:=zh (show zoG r=(zmi r.s&&decide (r.ps.length<=8)&&r.ps.all zmk&&zlE r.b)from rfl);have hd1:=zk9 hrr.lp;clear hrr;have uK:=zh (show ∀w',Below wr.heap.size wr w'->Calls Tryz.prog 66 #[.slice B1 r.ps.length d1] w' fun e w''=>e=.returned (.bool (r.ps.all zmk))/\Below w'.heap.size w' w'' from fun w' h=>znJ r.ps B1 d1 S w' (HRR.out.row.later h) HRR.out.lp HRR.out.lc);have dD:=zh (show ∀w',Below wr.heap.size wr w'->NV w' Any r.b (nv r.b.k r.b.n r.b.s B2 r.b.ks.length d2)from fun w' h=>(HRR.out.body.later h).any);obtain⟨rs,hrs⟩:=zX (r.s)
   obtain⟨rl,hrl⟩:=zX (r.ps.length);obtain⟨bk,hbk⟩:=zX (r.b.k);obtain⟨bn,hbn⟩:=zX (r.b.n);obtain⟨bs,hbs⟩:=zX (r.b.s);obtain⟨bl,hbl⟩:=zX (r.b.ks.length);have hpb:=xc.out;have zx:=uK.out;have hbd:=dD.out;rw[hrs]at z0 hpb;rw[hrl]at z1 hpb zx hd1;rw[hbk]at z2 hbd;rw[hbn]at z3 hbd;rw[hbs]at z4 hbd;rw[hbl]at z5 hbd;clear xc uK dD HRR hrs hrl hbk hbn hbs hbl;have xc:=zh hpb;have uK:=zh zx;have dD:=zh hbd;clear hpb zx hbd;go_wp2_with fail;refine(zpZ rs _).mono ?_;rintro e w2 ⟨rfl,au⟩;have b2:Below wr.heap.size wr w2:=(zr.alloc zl _).trans (au.mono (by simp));have hbx:w2.heap[wr.heap.size]?=some (.cells #[.string rs,.slice B1 rl d1,.int .u8 bk,.int .i64 bn,.string bs,.slice B2 bl d2] 75 (0,0)):=(au.block _ (by simp)).trans (heap_alloc_new wr _);have u1:w2.cell? ⟨wr.heap.size,1,none⟩=some (.slice B1 rl d1):=zc hbx rfl;have hpb:=xc.out;clear au
   cases hnm:zmi rs
   ·rw[hnm]at hpb;have HF:=zh (HN.out (by rw[hpb];rfl));clear hpb;go_wp2_with fail;go_ret;exact⟨by rw[HF.out];rfl,hq.trans (b2.mono hq.size)⟩
   rw[hnm,Bool.true_and]at hpb;by_cases h8:8<rl
   ·have HF:=zh (HN.out (by rw[hpb];simp;intro h;omega));have h8':(8:Int)<(rl:Int):=by omega
    clear hpb;go_wp2_with fail;go_ret;exact⟨by rw[HF.out];rfl,hq.trans (b2.mono hq.size)⟩
   rw[decide_eq_true (show rl<=8 by omega),Bool.true_and]at hpb;have h8':(rl:Int)<=8:=by omega
   have nY:=zh hpb;have HBX2:=zh hbx;clear hpb xc h8 hbx;go_wp2_with fail;refine(uK.out _ b2).mono ?_;rintro e w3 ⟨rfl,bU⟩;have b3:=b2.trans (bU.mono b2.size);have hbx:w3.heap[wr.heap.size]?=some (.cells #[.string rs,.slice B1 rl d1,.int .u8 bk,.int .i64 bn,.string bs,.slice B2 bl d2] 75 (0,0)):=(bU.block _ (zkn HBX2.out)).trans HBX2.out;have u2:w3.cell? ⟨wr.heap.size,2,none⟩=some (.int .u8 bk):=zc hbx rfl;have u3:w3.cell? ⟨wr.heap.size,3,none⟩=some (.int .i64 bn):=zc hbx rfl;have u4:w3.cell? ⟨wr.heap.size,4,none⟩=some (.string bs):=zc hbx rfl;have u5:w3.cell? ⟨wr.heap.size,5,none⟩=some (.slice B2 bl d2):=zc hbx rfl;have hpb:=nY.out;clear bU u1 hbx
   cases hdd:r.ps.all zmk
   ·rw[hdd]at hpb;have HF:=zh (HN.out (by rw[hpb];rfl));clear hpb;go_wp2_with fail;go_ret;exact⟨by rw[HF.out];rfl,hq.trans (b3.mono hq.size)⟩
   rw[hdd,Bool.true_and]at hpb;have HPD:=zh hpb;clear hpb nY hdd;go_wp2_with fail;refine(zo5 r.b _ _ (dD.out _ b3)).mono ?_;rintro e w4 ⟨rfl,wO⟩;have b4:=b3.trans (wO.mono b3.size);have hpb:=HPD.out;clear wO u2 u3 u4 u5
   cases hbb:zlE r.b
   ·rw[hbb]at hpb;have HF:=zh (HN.out hpb);clear hpb;go_wp2_with fail;go_ret;exact⟨by rw[HF.out];rfl,hq.trans (b4.mono hq.size)⟩
   ·rw[hbb]at hpb;have HG:=zh (show(p.prs.take (j+1)).all zoG=true by rw[HT.out];exact hpb);have HQ4:=zh (hb.trans (b4.mono hb.size));clear hpb;go_wp2_with fail
    go_roundw
    case rel=>exact⟨j+1,by omega,by go_num,HQ4.out,HG⟩
    case measure=>simp[intOf];omega
  ·obtain rfl:j=L2:=by omega
   have HF:=zh (show zla p=zlE p.m by rw[bz.out];have:=HA.out;rw[List.take_of_length_le (by rw[HL2.out];omega)]at this;rw[this];rfl);have hbx:wr.heap[w.heap.size]?=some (.cells #[.slice A1 L1 c1,.slice A2 j c2,.int .u8 k,.int .i64 n,.string s,.slice A3 l3 c3] 43 (0,0)):=(hb.block _ (zkn aX.out)).trans aX.out;have y2:wr.cell? ⟨w.heap.size,2,none⟩=some (.int .u8 k):=zc hbx rfl;have y3:wr.cell? ⟨w.heap.size,3,none⟩=some (.int .i64 n):=zc hbx rfl;have y4:wr.cell? ⟨w.heap.size,4,none⟩=some (.string s):=zc hbx rfl;have y5:wr.cell? ⟨w.heap.size,5,none⟩=some (.slice A3 l3 c3):=zc hbx rfl;go_wp2_with fail;refine(zo5 p.m _ _ (HM.out.later hq).any).mono ?_;rintro e w2 ⟨rfl,au⟩;go_wp2_with fail;go_ret;exact⟨by rw[HF.out];rfl,hq.trans (au.mono hq.size)⟩
def zmv(vs:List VD)(s:ByteArray):Int:=if (zlu vs s).isSome then 22 else 0
def useE(vs:List VD)(s:ByteArray)(k:Int):Int:=match zlu vs s with
 | none=>6
 | some v=>if v.k=k then 0 else 7
theorem zon(vs:List VD)(A:Option Addr)(c:Nat)(s:ByteArray)(S:Nat->Prop)(w:World)(hrow:RowV w S A vs)(hl:vs.length<=LV) :
  Calls Tryz.prog 71 #[.slice A vs.length c,.string s] w fun e w'=>e=.returned (.int .i64 (zmv vs s))/\Below w.heap.size w w':=by
 have ae:=zh hrow;have HL:=zh hl;obtain⟨E,hE⟩:=zX (zmv vs s);rw[hE];have HE:=zh hE;clear hrow hl hE;go_enter Tryz.func71,Tryz.ntmps71;go_wp2_with fail;refine(zn1 vs A c s S _ ae.out HL.out).mono ?_;rintro e w1 ⟨rfl,aa⟩
 cases hf:zlu vs s with
 | none =>
  have HN:=zh (show E=0 by rw[<-HE.out];simp[zmv,hf]);have HB:=zh (show Below w.heap.size w (w1.alloc (.cells #[.string ⟨#[]⟩,.int .u8 0,.int .i64 0] 57))from aa.alloc aa.size _);clear hf aa;go_wp2_with fail;go_ret;exact⟨by rw[HN.out];rfl,HB.out⟩
 | some v =>
  have HN:=zh (show E=22 by rw[<-HE.out];simp[zmv,hf]);have HB:=zh (show Below w.heap.size w (w1.alloc (.cells #[.string v.s,.int .u8 v.k,.int .i64 v.n] 57))from aa.alloc aa.size _);clear hf aa;go_wp2_with fail;go_ret;exact⟨by rw[HN.out];rfl,HB.out⟩
theorem znm(vs:List VD)(A:Option Addr)(c:Nat)(s:ByteArray)(k:Int)(S:Nat->Prop)(w:World)(hrow:RowV w S A vs)(hl:vs.length<=LV) :
  Calls Tryz.prog 149 #[.slice A vs.length c,.string s,.int .u8 k] w fun e w'=>e=.returned (.int .i64 (useE vs s k))/\Below w.heap.size w w':=by
 have ae:=zh hrow;have HL:=zh hl;obtain⟨E,hE⟩:=zX (useE vs s k);rw[hE];have HE:=zh hE;clear hrow hl hE;go_enter Tryz.func149,Tryz.ntmps149;go_wp2_with fail;refine(zn1 vs A c s S _ ae.out HL.out).mono ?_;rintro e w1 ⟨rfl,aa⟩
 cases hf:zlu vs s with
 | none =>
  have HN:=zh (show E=6 by rw[<-HE.out];simp[useE,hf]);have HB:=zh (show Below w.heap.size w (w1.alloc (.cells #[.string ⟨#[]⟩,.int .u8 0,.int .i64 0] 57))from aa.alloc aa.size _);clear hf aa;go_wp2_with fail;go_ret;exact⟨by rw[HN.out];rfl,HB.out⟩
 | some v =>
  obtain⟨vm,vk,vl⟩:=v;have HB2:=zh (show Below w.heap.size w (w1.alloc (.cells #[.string vm,.int .u8 vk,.int .i64 vl] 57))from aa.alloc aa.size _);have HN:=zh (show E=if vk=k then 0 else 7 by rw[<-HE.out];simp[useE,hf]);clear hf aa;by_cases hk:vk=k
  ·have e1:(vk==k)=true:=by simpa using hk
   have e2:(vk != k)=false:=by simpa using hk
   have aJ:=zh (show E=0 by rw[HN.out,if_pos hk]);clear hk;go_wp2_with fail;go_ret;exact⟨by rw[aJ.out];rfl,HB2.out⟩
  ·have e1:(vk==k)=false:=by simpa using hk
   have e2:(vk != k)=true:=by simpa using hk
   have aJ:=zh (show E=7 by rw[HN.out,if_neg hk]);clear hk;go_wp2_with fail;go_ret;exact⟨by rw[aJ.out];rfl,HB2.out⟩
def idxP(ps:List PR)(s:ByteArray):Option Nat:=ps.findIdx? fun r=>r.s.toList==s.toList
def zlD(ps:List PR)(s:ByteArray):Int:=match idxP ps s with
 | some i=>i
 | none => -1
theorem zvd(rs:ByteArray)(u1 u2 u3 u4 u5:Value)(s:ByteArray)(nb:Nat)(w:World)(hc:w.cell? ⟨nb,0,none⟩=some (.string s)) :
  Calls Tryz.prog 112 #[.agg #[.string rs,u1,u2,u3,u4,u5],.pointer (some ⟨nb,0,none⟩)] w fun e w'=>e=.returned (.bool (rs.toList==s.toList))/\Below w.heap.size w w':=by
 have hc':=zks hc;go_enter Tryz.func112,Tryz.ntmps112;go_wp2_with fail;go_ret;exact⟨rfl,zr.alloc zl _⟩
theorem zoI(ps:List PR)(A:Option Addr)(c:Nat)(s:ByteArray)(nb:Nat)(S:Nat->Prop)(w:World)(hrow:RowP w S A ps)(hl:ps.length<=LV)(hc:w.cell? ⟨nb,0,none⟩=some (.string s)) :
  Calls Tryz.prog 111 #[.slice A ps.length c,.func (.func 112) #[] #[.pointer (some ⟨nb,0,none⟩)]] w fun e w'=>e=.returned (.int .i64 (zlD ps s))/\Below w.heap.size w w':=by
 have hl':=zk9 hl;have ae:=zh hrow;have HC:=zh hc;obtain⟨R,hR⟩:=zX (zlD ps s);rw[hR];have HR:=zh hR;clear hrow hl hc hR;go_enter Tryz.func111,Tryz.ntmps111;go_wp2_with fail
 go_loopw [8] (fun i wr=>∃j:Nat,j<=ps.length/\i=.int .i64 j/\Below w.heap.size w wr/\Hid (∀q (h:q<ps.length),q<j->(ps[q].s.toList==s.toList)=false)) (fun i _=>ps.length-(intOf i).toNat)
 case atStart=>exact⟨0,Nat.zero_le _,rfl,zr,zh fun q _ h=>by omega⟩
 case round =>
  obtain⟨j,hj,rfl,hbl,HJ⟩:=hrel;by_cases hlt:j<ps.length
  ·obtain⟨a,r,B1,f1,B2,f2,rfl,_,Hr,⟨q0,q1,q2,q3,q4,q5⟩,-⟩:=(ae.out.later hbl).nd hlt;obtain⟨b,hb⟩:=zX ((r.s.toList==s.toList));have HB:=zh hb;clear hb;go_wp2_with fail;refine(zvd r.s _ _ _ _ _ s nb _ (zb hbl HC.out)).mono ?_;rintro e w1 ⟨rfl,aa⟩;rw[HB.out];have af:=zh (zka hbl aa);clear aa q0 q1 q2 q3 q4 q5
   cases b
   ·have HJ2:=zh (show ∀q (h:q<ps.length),q<j+1->(ps[q].s.toList==s.toList)=false from fun q h hq=>by
     by_cases e:q<j
     ·exact HJ.out q h e
     ·obtain rfl:q=j:=by omega
      rw[Hr.out];exact HB.out)
    go_wp2_with fail
    go_roundw
    case rel=>exact⟨j+1,by omega,by go_num,af.out,HJ2⟩
    case measure=>simp[intOf];omega
   ·have HN:=zh (show R=j by
     rw[<-HR.out];have:idxP ps s=some j:=List.findIdx?_eq_some_iff_getElem.2 ⟨hlt,by rw[Hr.out];exact HB.out,fun q hq=>by rw[HJ.out q (by omega) hq];simp⟩;simp[zlD,this])
    go_wp2_with fail;go_ret;exact⟨by rw[HN.out];rfl,af.out⟩
  ·have HN:=zh (show R = -1 by
    rw[<-HR.out];have:idxP ps s=none:=List.findIdx?_eq_none_iff.2 fun r hr=>by
     obtain⟨q,hq,rfl⟩:=List.getElem_of_mem hr;exact HJ.out q hq (by omega)
    simp[zlD,this])
   have af:=zh hbl;clear hbl;go_wp2_with fail;go_ret;exact⟨by rw[HN.out];rfl,af.out⟩
theorem znf(p:PG)(S:Nat->Prop)(v:Value)(s:ByteArray)(w:World)(hv:PV w S p v):Calls Tryz.prog 72 #[v,.string s] w fun e w'=>e=.returned (.int .i64 (zlD p.prs s))/\Below w.heap.size w w':=by
 obtain⟨A1,c1,A2,c2,A3,c3,rfl,hr⟩:=hv;have HR:=zh hr;obtain⟨L1,hL1⟩:=zX (p.vs.length);rw[hL1];clear hr hL1;go_enter Tryz.func72,Tryz.ntmps72;go_wp2_with fail;refine(zoI p.prs A2 c2 s (w.heap.size+1) S _ (HR.out.procs.later (zkb (zkb zr _) _)) HR.out.lp (by simp)).mono ?_;rintro e w1 ⟨rfl,aa⟩;have HB:=zh (zka (zkb (zkb (zs w) _) _) aa);clear aa;go_wp2_with fail;go_ret;exact⟨rfl,HB.out⟩
def zlq(ps:List PR)(k:Int)(s:ByteArray)(l:Nat)(vs:List VD):Int :=
 if k=2 then useE vs s 1 else if k=3 then useE vs s 2 else if k=4\/k=5\/k=44\/k=45 then useE vs s 3 else if k=54\/k=55 then zmv vs s
 else if k=50\/k=51 then(match idxP ps s with
  | none=>6
  | some i=>match ps[i]? with
   | none=>6
   | some r=>if l=r.ps.length then 0 else 7)
 else 0
theorem zux(p:PG)(t:T)(vs:List VD)(A:Option Addr)(c:Nat)(S S' S'':Nat->Prop)(v1 v2:Value)(w:World)(hv1:PV w S p v1)(hv2:NV w S' t v2)(hrow:RowV w S'' A vs)(hl:vs.length<=LV) :
  Calls Tryz.prog 113 #[v1,v2,.slice A vs.length c] w fun e w'=>e=.returned (.int .i64 (zlq p.prs t.k t.s t.ks.length vs))/\Below w.heap.size w w':=by
 have hvv:=hv1;obtain⟨A1,c1,A2,c2,A3,c3,rfl,hr⟩:=hv1;have gX:=zh hr.procs;have hlp:=zk9 hr.lp;obtain⟨L1,hL1⟩:=zX (p.vs.length);obtain⟨L2,hL2⟩:=zX (p.prs.length);obtain⟨k,hk⟩:=zX (p.m.k);obtain⟨n,hn⟩:=zX (p.m.n);obtain⟨s,hs⟩:=zX (p.m.s);obtain⟨l3,hl3⟩:=zX (p.m.ks.length);rw[hL1,hL2,hk,hn,hs,hl3];rw[hL1,hL2,hk,hn,hs,hl3]at hvv;rw[hL2]at hlp;have HL2:=zh hL2;have HV:=zh hvv;clear hr hvv hL1 hL2 hk hn hs hl3;obtain⟨B,tc,rfl,_,hlk,_,_⟩:=hv2.open_;have aB:=zkI hlk;have ae:=zh hrow;have HL:=zh hl;clear hrow hl hv2 hlk;generalize t.k=tk,t.n=tn,t.s=ts,t.ks.length=tl at *
 obtain⟨R,hR⟩:=zX (zlq p.prs tk ts tl vs);rw[hR];have HR:=zh hR;clear hR;have hb0:∀o o',Below w.heap.size w ((w.alloc o).alloc o'):=fun o o'=>(zr.alloc zl _).alloc (by simp) _;have HB0:=zh hb0;clear hb0;by_cases h2:tk=2
 ·subst h2;have HN:=zh (show R=useE vs ts 1 by rw[<-HR.out];simp[zlq]);go_enter Tryz.func113,Tryz.ntmps113;go_wp2_with fail;refine(znm vs A c ts 1 S'' _ (ae.out.later (HB0.out _ _)) HL.out).mono ?_;rintro e w1 ⟨rfl,aa⟩;rw[<-HN.out];have HB:=zh (zka (HB0.out _ _) aa);clear aa;go_wp2_with fail;go_ret;exact⟨rfl,HB.out⟩
 have f2:(tk==2)=false:=by simpa using h2
 by_cases h3:tk=3
 ·subst h3;have HN:=zh (show R=useE vs ts 2 by rw[<-HR.out];simp[zlq]);go_enter Tryz.func113,Tryz.ntmps113;go_wp2_with fail;refine(znm vs A c ts 2 S'' _ (ae.out.later (HB0.out _ _)) HL.out).mono ?_;rintro e w1 ⟨rfl,aa⟩;rw[<-HN.out];have HB:=zh (zka (HB0.out _ _) aa);clear aa;go_wp2_with fail;go_ret;exact⟨rfl,HB.out⟩
 have f3:(tk==3)=false:=by simpa using h3
 by_cases h4:tk=4
 ·subst h4;have HN:=zh (show R=useE vs ts 3 by rw[<-HR.out];simp[zlq]);go_enter Tryz.func113,Tryz.ntmps113;go_wp2_with fail;refine(znm vs A c ts 3 S'' _ (ae.out.later (HB0.out _ _)) HL.out).mono ?_;rintro e w1 ⟨rfl,aa⟩;rw[<-HN.out];have HB:=zh (zka (HB0.out _ _) aa);clear aa;go_wp2_with fail;go_ret;exact⟨rfl,HB.out⟩
 have f4:(tk==4)=false:=by simpa using h4
 by_cases h5:tk=5
 ·subst h5;have HN:=zh (show R=useE vs ts 3 by rw[<-HR.out];simp[zlq]);go_enter Tryz.func113,Tryz.ntmps113;go_wp2_with fail;refine(znm vs A c ts 3 S'' _ (ae.out.later (HB0.out _ _)) HL.out).mono ?_;rintro e w1 ⟨rfl,aa⟩;rw[<-HN.out];have HB:=zh (zka (HB0.out _ _) aa);clear aa;go_wp2_with fail;go_ret;exact⟨rfl,HB.out⟩
 have f5:(tk==5)=false:=by simpa using h5
 by_cases tO:tk=44
 ·subst tO;have HN:=zh (show R=useE vs ts 3 by rw[<-HR.out];simp[zlq]);go_enter Tryz.func113,Tryz.ntmps113;go_wp2_with fail;refine(znm vs A c ts 3 S'' _ (ae.out.later (HB0.out _ _)) HL.out).mono ?_;rintro e w1 ⟨rfl,aa⟩;rw[<-HN.out];have HB:=zh (zka (HB0.out _ _) aa);clear aa;go_wp2_with fail;go_ret;exact⟨rfl,HB.out⟩
 have f44:(tk==44)=false:=by simpa using tO
 by_cases h45:tk=45
 ·subst h45;have HN:=zh (show R=useE vs ts 3 by rw[<-HR.out];simp[zlq]);go_enter Tryz.func113,Tryz.ntmps113;go_wp2_with fail;refine(znm vs A c ts 3 S'' _ (ae.out.later (HB0.out _ _)) HL.out).mono ?_;rintro e w1 ⟨rfl,aa⟩;rw[<-HN.out];have HB:=zh (zka (HB0.out _ _) aa);clear aa;go_wp2_with fail;go_ret;exact⟨rfl,HB.out⟩
 have f45:(tk==45)=false:=by simpa using h45
 by_cases eP:tk=54
 ·subst eP;have HN:=zh (show R=zmv vs ts by rw[<-HR.out];simp[zlq]);go_enter Tryz.func113,Tryz.ntmps113;go_wp2_with fail;refine(zon vs A c ts S'' _ (ae.out.later (HB0.out _ _)) HL.out).mono ?_;rintro e w1 ⟨rfl,aa⟩;rw[<-HN.out];have HB:=zh (zka (HB0.out _ _) aa);clear aa;go_wp2_with fail;go_ret;exact⟨rfl,HB.out⟩
 have f54:(tk==54)=false:=by simpa using eP
 by_cases fu:tk=55
 ·subst fu;have HN:=zh (show R=zmv vs ts by rw[<-HR.out];simp[zlq]);go_enter Tryz.func113,Tryz.ntmps113;go_wp2_with fail;refine(zon vs A c ts S'' _ (ae.out.later (HB0.out _ _)) HL.out).mono ?_;rintro e w1 ⟨rfl,aa⟩;rw[<-HN.out];have HB:=zh (zka (HB0.out _ _) aa);clear aa;go_wp2_with fail;go_ret;exact⟨rfl,HB.out⟩
 have f55:(tk==55)=false:=by simpa using fu
 by_cases h50:tk=50
 ·subst h50;have HN:=zh (show R=(match idxP p.prs ts with|none=>6|some i=>match p.prs[i]? with|none=>6|some r=>if tl=r.ps.length then 0 else 7) by rw[<-HR.out];simp[zlq]);go_enter Tryz.func113,Tryz.ntmps113;go_wp2_with fail;refine(znf p S _ ts _ (HV.out.later (HB0.out _ _))).mono ?_;rintro e w1 ⟨rfl,aa⟩;have hbl:=zka (HB0.out _ _) aa;have hP:=zkc (zkf (heap_alloc_new w (.cells #[.slice A1 L1 c1,.slice A2 L2 c2,.int .u8 k,.int .i64 n,.string s,.slice A3 l3 c3] 43)) _) aa;have hN:=zkc (heap_alloc_new (w.alloc (.cells #[.slice A1 L1 c1,.slice A2 L2 c2,.int .u8 k,.int .i64 n,.string s,.slice A3 l3 c3] 43)) (.cells #[.int .u8 50,.int .i64 tn,.string ts,.slice B tl tc] 41)) aa;simp only[World.size_alloc]at hN
  cases hi:idxP p.prs ts with
  | none =>
   have e1:zlD p.prs ts = -1:=by simp[zlD,hi]
   rw[e1];have aJ:=zh (show R=6 by rw[HN.out,hi]);have HB:=zh hbl;clear aa hi e1 hP hN hbl;go_wp2_with fail;go_ret;exact⟨by rw[aJ.out];rfl,HB.out⟩
  | some i =>
   have e1:zlD p.prs ts=i:=by simp[zlD,hi]
   rw[e1];have hi2:i<p.prs.length:=(List.findIdx?_eq_some_iff_getElem.1 hi).1;have hiL:i<L2:=by rw[<-HL2.out];exact hi2
   obtain⟨a,r,P1,d1,P2,d2,rfl,_,Hr,⟨_,q1,_⟩,hpr⟩:=(gX.out.later hbl).nd hi2;obtain⟨rl,hrl⟩:=zX (r.ps.length);have hlr:=zk9 hpr.lp;rw[hrl]at q1 hlr;have aJ:=zh (show R=if tl=rl then 0 else 7 by rw[HN.out,hi];simp only;rw[List.getElem?_eq_getElem hi2,Hr.out,<-hrl]);obtain⟨a0,a1,a2,a3,a4,a5⟩:=box6 hP;obtain⟨b0,b1,b2,b3⟩:=box4 hN;have HB:=zh hbl;clear aa hi e1 hP hN hbl hrl hpr;go_wp2_with fail
   go_region_held3 (fun w'=>(w'.cell? ⟨w.heap.size+1,3,none⟩=some (.slice B tl tc)/\w'.cell? ⟨w.heap.size,1,none⟩=some (.slice (some a) L2 c2)/\w'.cell? ⟨(a.add (i*6)).block,(a.add (i*6)).off+1,none⟩=some (.slice P1 rl d1))) (exact⟨b3,a1,q1⟩) (fail)
   by_cases hq:tl=rl
   ·have g1:(tl==rl)=true:=by simpa using hq
    have g2:(tl != rl)=false:=by simpa using hq
    have g3:((tl:Int)==(rl:Int))=true:=by simp;omega
    have g4:((tl:Int) != (rl:Int))=false:=by simp;omega
    have bQ:=zh (show R=0 by rw[aJ.out,if_pos hq]);clear hq;go_wp2_with fail;go_ret;exact⟨by rw[bQ.out];rfl,HB.out.drew⟩
   ·have g1:(tl==rl)=false:=by simpa using hq
    have g2:(tl != rl)=true:=by simpa using hq
    have g3:((tl:Int)==(rl:Int))=false:=by simp;omega
    have g4:((tl:Int) != (rl:Int))=true:=by simp;omega
    have bQ:=zh (show R=7 by rw[aJ.out,if_neg hq]);clear hq;go_wp2_with fail;go_ret;exact⟨by rw[bQ.out];rfl,HB.out.drew⟩
 have f50:(tk==50)=false:=by simpa using h50
 by_cases lI:tk=51
 ·subst lI;have HN:=zh (show R=(match idxP p.prs ts with|none=>6|some i=>match p.prs[i]? with|none=>6|some r=>if tl=r.ps.length then 0 else 7) by rw[<-HR.out];simp[zlq]);go_enter Tryz.func113,Tryz.ntmps113;go_wp2_with fail;refine(znf p S _ ts _ (HV.out.later (HB0.out _ _))).mono ?_;rintro e w1 ⟨rfl,aa⟩;have hbl:=zka (HB0.out _ _) aa;have hP:=zkc (zkf (heap_alloc_new w (.cells #[.slice A1 L1 c1,.slice A2 L2 c2,.int .u8 k,.int .i64 n,.string s,.slice A3 l3 c3] 43)) _) aa;have hN:=zkc (heap_alloc_new (w.alloc (.cells #[.slice A1 L1 c1,.slice A2 L2 c2,.int .u8 k,.int .i64 n,.string s,.slice A3 l3 c3] 43)) (.cells #[.int .u8 51,.int .i64 tn,.string ts,.slice B tl tc] 41)) aa;simp only[World.size_alloc]at hN
  cases hi:idxP p.prs ts with
  | none =>
   have e1:zlD p.prs ts = -1:=by simp[zlD,hi]
   rw[e1];have aJ:=zh (show R=6 by rw[HN.out,hi]);have HB:=zh hbl;clear aa hi e1 hP hN hbl;go_wp2_with fail;go_ret;exact⟨by rw[aJ.out];rfl,HB.out⟩
  | some i =>
   have e1:zlD p.prs ts=i:=by simp[zlD,hi]
   rw[e1];have hi2:i<p.prs.length:=(List.findIdx?_eq_some_iff_getElem.1 hi).1;have hiL:i<L2:=by rw[<-HL2.out];exact hi2
   obtain⟨a,r,P1,d1,P2,d2,rfl,_,Hr,⟨_,q1,_⟩,hpr⟩:=(gX.out.later hbl).nd hi2;obtain⟨rl,hrl⟩:=zX (r.ps.length);have hlr:=zk9 hpr.lp;rw[hrl]at q1 hlr;have aJ:=zh (show R=if tl=rl then 0 else 7 by rw[HN.out,hi];simp only;rw[List.getElem?_eq_getElem hi2,Hr.out,<-hrl]);obtain⟨a0,a1,a2,a3,a4,a5⟩:=box6 hP;obtain⟨b0,b1,b2,b3⟩:=box4 hN;have HB:=zh hbl;clear aa hi e1 hP hN hbl hrl hpr;go_wp2_with fail
   go_region_held3 (fun w'=>(w'.cell? ⟨w.heap.size+1,3,none⟩=some (.slice B tl tc)/\w'.cell? ⟨w.heap.size,1,none⟩=some (.slice (some a) L2 c2)/\w'.cell? ⟨(a.add (i*6)).block,(a.add (i*6)).off+1,none⟩=some (.slice P1 rl d1))) (exact⟨b3,a1,q1⟩) (fail)
   by_cases hq:tl=rl
   ·have g1:(tl==rl)=true:=by simpa using hq
    have g2:(tl != rl)=false:=by simpa using hq
    have g3:((tl:Int)==(rl:Int))=true:=by simp;omega
    have g4:((tl:Int) != (rl:Int))=false:=by simp;omega
    have bQ:=zh (show R=0 by rw[aJ.out,if_pos hq]);clear hq;go_wp2_with fail;go_ret;exact⟨by rw[bQ.out];rfl,HB.out.drew⟩
   ·have g1:(tl==rl)=false:=by simpa using hq
    have g2:(tl != rl)=true:=by simpa using hq
    have g3:((tl:Int)==(rl:Int))=false:=by simp;omega
    have g4:((tl:Int) != (rl:Int))=true:=by simp;omega
    have bQ:=zh (show R=7 by rw[aJ.out,if_neg hq]);clear hq;go_wp2_with fail;go_ret;exact⟨by rw[bQ.out];rfl,HB.out.drew⟩
 have f51:(tk==51)=false:=by simpa using lI
 have HN:=zh (show R=0 by rw[<-HR.out];simp[zlq,h2,h3,h4,h5,tO,h45,eP,fu,h50,lI]);clear h2 h3 h4 h5 tO h45 eP fu h50 lI;go_enter Tryz.func113,Tryz.ntmps113;go_wp2_with fail;go_ret;exact⟨by rw[HN.out];rfl,HB0.out _ _⟩
def argE(ps:List PR)(s:ByteArray)(l i:Nat)(m:ByteArray)(vs:List VD):Int:=match zlu vs m with
 | none=>6
 | some v=>match idxP ps s with
  | none=>0
  | some j=>match ps[j]? with
   | none=>0
   | some r=>if l=r.ps.length then(match r.ps[i]? with
    | none=>0
    | some q=>if v.k=q.k/\v.n=q.n then 0 else 7)else 0
theorem box3{w:World}{b:Nat}{E:TypeId}{u0 u1 u2:Value}(h:w.heap[b]?=some (.cells #[u0,u1,u2] E (0,0))):w.cell? ⟨b,0,none⟩=some u0/\w.cell? ⟨b,1,none⟩=some u1/\w.cell? ⟨b,2,none⟩=some u2 :=
 ⟨zc h rfl,zc h rfl,zc h rfl⟩
theorem znK(p:PG)(t:T)(i:Nat)(hi:i<t.ks.length)(vs:List VD)(A:Option Addr)(c:Nat)(S S' S'':Nat->Prop)(v1 v2:Value)(w:World)(hv1:PV w S p v1)(hv2:NV w S' t v2)(hrow:RowV w S'' A vs)(hl:vs.length<=LV) :
  Calls Tryz.prog 115 #[v1,v2,.int .i64 i,.slice A vs.length c] w fun e w'=>e=.returned (.int .i64 (argE p.prs t.s t.ks.length i t.ks[i].s vs))/\Below w.heap.size w w':=by
 have hvv:=hv1;obtain⟨A1,c1,A2,c2,A3,c3,rfl,hr⟩:=hv1;have gX:=zh hr.procs;have hlp:=zk9 hr.lp;obtain⟨L1,hL1⟩:=zX (p.vs.length);obtain⟨L2,hL2⟩:=zX (p.prs.length);obtain⟨k,hk⟩:=zX (p.m.k);obtain⟨n,hn⟩:=zX (p.m.n);obtain⟨s,hs⟩:=zX (p.m.s);obtain⟨l3,hl3⟩:=zX (p.m.ks.length);rw[hL1,hL2,hk,hn,hs,hl3];rw[hL1,hL2,hk,hn,hs,hl3]at hvv;rw[hL2]at hlp;have HL2:=zh hL2;have HV:=zh hvv;clear hr hvv hL1 hL2 hk hn hs hl3;obtain⟨B,tc,rfl,_,hlk,_,iq⟩:=hv2.open_;have aB:=zkI hlk;have ae:=zh hrow;have HL:=zh hl;obtain⟨b,u,B1,f1,rfl,_,Hu,⟨z0,z1,z2,z3⟩,-⟩:=iq.nd hi;rw[Hu.out];clear hrow hl hv2 hlk iq z0 z1 z3;obtain⟨us,dS⟩:=zX (u.s);rw[dS]at z2 ⊢;clear dS Hu;generalize t.k=tk,t.n=tn,t.s=ts,t.ks.length=tl at *
 obtain⟨R,hR⟩:=zX (argE p.prs ts tl i us vs);rw[hR];have HR:=zh hR;clear hR;have hb0:∀o o',Below w.heap.size w ((w.alloc o).alloc o'):=fun o o'=>(zr.alloc zl _).alloc (by simp) _;have HB0:=zh hb0;have z2':=fun o o'=>zks (zks z2 o) o';clear hb0 z2;go_enter Tryz.func115,Tryz.ntmps115;go_wp2_with fail;refine(zn1 vs A c us S'' _ (ae.out.later (HB0.out _ _)) HL.out).mono ?_;rintro e w1 ⟨rfl,aa⟩;have hbl:=zka (HB0.out _ _) aa;have hP:=zkc (zkf (heap_alloc_new w (.cells #[.slice A1 L1 c1,.slice A2 L2 c2,.int .u8 k,.int .i64 n,.string s,.slice A3 l3 c3] 43)) _) aa;have hN:=zkc (heap_alloc_new (w.alloc (.cells #[.slice A1 L1 c1,.slice A2 L2 c2,.int .u8 k,.int .i64 n,.string s,.slice A3 l3 c3] 43)) (.cells #[.int .u8 tk,.int .i64 tn,.string ts,.slice (some b) tl tc] 41)) aa;simp only[World.size_alloc]at hN
 cases hf:zlu vs us with
 | none =>
  have HN:=zh (show R=6 by rw[<-HR.out];simp[argE,hf]);have HB:=zh (zkb hbl (.cells #[.string ⟨#[]⟩,.int .u8 0,.int .i64 0] 57));clear hf aa hP hN hbl z2';go_wp2_with fail;go_ret;exact⟨by rw[HN.out];rfl,HB.out⟩
 | some v =>
  obtain⟨vm,vk,vl⟩:=v;have hq2:=zkb hbl (.cells #[.string vm,.int .u8 vk,.int .i64 vl] 57);have hP2:=zkf hP (.cells #[.string vm,.int .u8 vk,.int .i64 vl] 57);have Ag:=zkf hN (.cells #[.string vm,.int .u8 vk,.int .i64 vl] 57);have hV2:=heap_alloc_new w1 (.cells #[.string vm,.int .u8 vk,.int .i64 vl] 57);have HR2:=zh (show R=(match idxP p.prs ts with
   | none=>0
   | some j=>match p.prs[j]? with
    | none=>0
    | some r=>if tl=r.ps.length then(match r.ps[i]? with
     | none=>0
     | some q=>if vk=q.k/\vl=q.n then 0 else 7)else 0) by rw[<-HR.out];simp[argE,hf])
  obtain⟨a0,a1,a2,a3,a4,a5⟩:=box6 hP2;obtain⟨b0,b1,b2,b3⟩:=box4 Ag;have lM:=zh hP2;have aJ:=zh Ag;have yn:=zh hV2;have Bl:=zh hq2;clear hf aa hP hN hbl z2' hP2 Ag hV2 hq2 HR;go_wp2_with fail;refine(znf p S _ ts _ (HV.out.later Bl.out)).mono ?_;rintro e w2 ⟨rfl,au⟩;have hbl:=zka Bl.out au;have hP:=zkc lM.out au;have hN:=zkc aJ.out au;have hV:=zkc yn.out au;clear a0 a1 a2 a3 a4 a5 b0 b1 b2 b3 lM aJ yn Bl au
  cases hi2:idxP p.prs ts with
  | none =>
   have e1:zlD p.prs ts = -1:=by simp[zlD,hi2]
   rw[e1];have bQ:=zh (show R=0 by rw[HR2.out,hi2]);have HB:=zh hbl;clear hi2 e1 hP hN hV hbl;go_wp2_with fail;refine wp_region_noPanic ?_;refine zkk zU zU 20 (by kernel_rfl) ?_;have hSS:zW zU zU w2.drew:=⟨trivial,trivial⟩
   refine zT 0 hSS ?_;refine zT 1 hSS ?_;refine zT 2 hSS ?_;refine zkQ (i:=3) (v:=undef) rfl (by kernel_rfl) (by kernel_rfl) (by kernel_rfl) (by decide) (fun _ _ _ h=>h) (Or.inr ⟨by rfl,rfl⟩) hSS ?_;(try simp only[zQ]);refine zkQ (i:=4) (v:=undef) rfl (by kernel_rfl) (by kernel_rfl) (by kernel_rfl) (by decide) (fun _ _ _ h=>h) (Or.inr ⟨by rfl,rfl⟩) hSS ?_;(try simp only[zQ]);refine zkQ (i:=5) (v:=undef) rfl (by kernel_rfl) (by kernel_rfl) (by kernel_rfl) (by decide) (fun _ _ _ h=>h) (Or.inr ⟨by rfl,rfl⟩) hSS ?_;(try simp only[zQ]);refine zkQ (i:=6) (v:=undef) rfl (by kernel_rfl) (by kernel_rfl) (by kernel_rfl) (by decide) (fun _ _ _ h=>h) (Or.inr ⟨by rfl,rfl⟩) hSS ?_;(try simp only[zQ]);refine zkQ (i:=7) (v:=undef) rfl (by kernel_rfl) (by kernel_rfl) (by kernel_rfl) (by decide) (fun _ _ _ h=>h) (Or.inr ⟨by rfl,rfl⟩) hSS ?_;(try simp only[zQ])
   refine zkQ (i:=8) (v:=undef) rfl (by kernel_rfl) (by kernel_rfl) (by kernel_rfl) (by decide) (fun _ _ _ h=>h) (Or.inr ⟨by rfl,rfl⟩) hSS ?_;(try simp only[zQ]);refine zkQ (i:=9) (v:=undef) rfl (by kernel_rfl) (by kernel_rfl) (by kernel_rfl) (by decide) (fun _ _ _ h=>h) (Or.inr ⟨by rfl,rfl⟩) hSS ?_;(try simp only[zQ]);refine zkQ (i:=10) (v:=undef) rfl (by kernel_rfl) (by kernel_rfl) (by kernel_rfl) (by decide) (fun _ _ _ h=>h) (Or.inr ⟨by rfl,rfl⟩) hSS ?_;(try simp only[zQ]);refine zkQ (i:=11) (v:=undef) rfl (by kernel_rfl) (by kernel_rfl) (by kernel_rfl) (by decide) (fun _ _ _ h=>h) (Or.inr ⟨by rfl,rfl⟩) hSS ?_;(try simp only[zQ]);refine zkQ (i:=12) (v:=undef) rfl (by kernel_rfl) (by kernel_rfl) (by kernel_rfl) (by decide) (fun _ _ _ h=>h) (Or.inr ⟨by rfl,rfl⟩) hSS ?_;(try simp only[zQ])
   refine zkQ (i:=13) (v:=undef) rfl (by kernel_rfl) (by kernel_rfl) (by kernel_rfl) (by decide) (fun _ _ _ h=>h) (Or.inr ⟨by rfl,rfl⟩) hSS ?_;(try simp only[zQ]);refine zT 14 hSS ?_;refine zd ?_;refine NoPanic.normal ?_;clear hSS;go_wp2_with fail;go_ret;exact⟨by rw[bQ.out];rfl,HB.out.drew⟩
  | some j =>
   have e1:zlD p.prs ts=j:=by simp[zlD,hi2]
   rw[e1];have hj2:j<p.prs.length:=(List.findIdx?_eq_some_iff_getElem.1 hi2).1;have hjL:j<L2:=by rw[<-HL2.out];exact hj2
   obtain⟨a,r,P1,d1,P2,d2,rfl,_,Hr,⟨_,q1,_⟩,hpr⟩:=(gX.out.later hbl).nd hj2;obtain⟨rl,hrl⟩:=zX (r.ps.length);have hlr:=zk9 hpr.lp;have yA:=zh hpr.row;rw[hrl]at q1 hlr;have HR3:=zh (show R=if tl=rl then(match r.ps[i]? with
     | none=>0
     | some q=>if vk=q.k/\vl=q.n then 0 else 7)else 0 by rw[HR2.out,hi2];simp only;rw[List.getElem?_eq_getElem hj2,Hr.out,<-hrl])
   have gU:=zh hrl;obtain⟨a0,a1,a2,a3,a4,a5⟩:=box6 hP;obtain⟨b0,b1,b2,b3⟩:=box4 hN;have eF:=zh hV;have HB:=zh hbl;have hj0:decide ((j:Int)<0)=false:=by simp
   clear hi2 e1 hP hN hbl hrl hpr hV;go_wp2_with fail
   go_region_held3 (fun w'=>(w'.cell? ⟨w.heap.size+1,3,none⟩=some (.slice (some b) tl tc)/\w'.cell? ⟨w.heap.size,1,none⟩=some (.slice (some a) L2 c2)/\w'.cell? ⟨(a.add (j*6)).block,(a.add (j*6)).off+1,none⟩=some (.slice P1 rl d1))) (exact⟨b3,a1,q1⟩) (fail)
   by_cases hq:tl=rl
   ·have g1:(tl==rl)=true:=by simpa using hq
    have g2:(tl != rl)=false:=by simpa using hq
    have g3:((tl:Int)==(rl:Int))=true:=by simp;omega
    have g4:((tl:Int) != (rl:Int))=false:=by simp;omega
    have hir:i<r.ps.length:=by rw[gU.out];omega
    have hir':i<rl:=by omega
    obtain⟨e,q,rfl,_,Hq,⟨y0,y1,y2⟩,wD⟩:=(yA.out.later zr.drew).nd hir;have HR4:=zh (show R=if vk=q.k/\vl=q.n then 0 else 7 by rw[HR3.out,if_pos hq,List.getElem?_eq_getElem hir,Hq.out]);obtain⟨qm,qk,ql⟩:=q;simp only at y0 y1 y2 HR4;have hV3:=box3 eF.out;obtain⟨x0,x1,x2⟩:=hV3;have aG:=zh (zkb HB.out.drew (.cells #[.string qm,.int .u8 qk,.int .i64 ql] 57));have hlt9:=zkn eF.out;clear hq Hq wD yA eF;by_cases hk1:vk=qk
    ·have k1:(vk==qk)=true:=by simpa using hk1
     have k2:(vk != qk)=false:=by simpa using hk1
     by_cases hk2:vl=ql
     ·have k3:(vl==ql)=true:=by simpa using hk2
      have k4:(vl != ql)=false:=by simpa using hk2
      have bQ:=zh (show R=0 by rw[HR4.out,if_pos ⟨hk1,hk2⟩]);clear hk1 hk2;go_wp2_with fail;go_ret;exact⟨by rw[bQ.out];rfl,aG.out⟩
     ·have k3:(vl==ql)=false:=by simpa using hk2
      have k4:(vl != ql)=true:=by simpa using hk2
      have bQ:=zh (show R=7 by rw[HR4.out,if_neg (fun h=>hk2 h.2)]);clear hk1 hk2;go_wp2_with fail;go_ret;exact⟨by rw[bQ.out];rfl,aG.out⟩
    ·have k1:(vk==qk)=false:=by simpa using hk1
     have k2:(vk != qk)=true:=by simpa using hk1
     have bQ:=zh (show R=7 by rw[HR4.out,if_neg (fun h=>hk1 h.1)]);clear hk1;go_wp2_with fail;go_ret;exact⟨by rw[bQ.out];rfl,aG.out⟩
   ·have g1:(tl==rl)=false:=by simpa using hq
    have g2:(tl != rl)=true:=by simpa using hq
    have g3:((tl:Int)==(rl:Int))=false:=by simp;omega
    have g4:((tl:Int) != (rl:Int))=true:=by simp;omega
    have bQ:=zh (show R=0 by rw[HR3.out,if_neg hq]);clear hq;go_wp2_with fail;go_ret;exact⟨by rw[bQ.out];rfl,HB.out.drew⟩
theorem RowV.news{w:World}{S:Nat->Prop}{a:Addr}:∀ {vs:List VD},RowV w S (some a) vs->∃news:List Value,news.length=vs.length*3/\(∀j u,news[j]?=some u->w.cell? (a.add j)=some u)/\(∀u∈news,u.oneCell'=true) /\
  ∀i (hi:i<vs.length),news[i*3]?=some (.string vs[i].s)/\news[i*3+1]?=some (.int .u8 vs[i].k)/\news[i*3+2]?=some (.int .i64 vs[i].n):=by
 intro vs
 induction vs generalizing a with
 | nil=>exact fun _=>⟨[],rfl,fun j u h=>by simp at h,fun u h=>by simp at h,fun i hi=>absurd hi (by simp)⟩
 | cons t us ih =>
  intro h;obtain⟨a',e,hS,hc,_⟩:=h 0 (by simp);injection e with e;subst e;obtain⟨news,hl,hcell,h1,hns⟩:=ih (a:=a.add 3) (fun i hi=>by
   obtain⟨a'',e,hS',hc,hf⟩:=h (i+1) (by simpa using hi);injection e with e;subst e;refine⟨_,rfl,by rw[zkx];exact hS',?_,by simpa using hf⟩;rw[zu4,show 3+i*3=(i+1)*3 by omega];simpa using hc)
  obtain⟨c0,c1,c2⟩:=hc;simp only[Nat.zero_mul]at c0 c1 c2;refine⟨.string t.s :: .int .u8 t.k :: .int .i64 t.n::news,by simp[hl];omega,fun j u hj=>?_,fun u hu=>?_,fun i hi=>?_⟩
  ·rcases j with _|_|_|j
   ·simp at hj;subst hj;exact c0
   ·simp at hj;subst hj;exact c1
   ·simp at hj;subst hj;exact c2
   ·have:=hcell j u (by simpa using hj);rw[zu4]at this;rw[show j+1+1+1=3+j by omega];exact this
  ·simp only[List.mem_cons]at hu;rcases hu with rfl|rfl|rfl|hu
   ·rfl
   ·rfl
   ·rfl
   ·exact h1 u hu
  ·rcases i with _|i
   ·exact⟨rfl,rfl,rfl⟩
   ·obtain⟨e0,e1,e2⟩:=hns i (by simpa using hi);refine⟨?_,?_,?_⟩
    ·rw[show(i+1)*3=i*3+1+1+1 by omega];simpa using e0
    ·rw[show(i+1)*3+1=i*3+1+1+1+1 by omega];simpa using e1
    ·rw[show(i+1)*3+2=i*3+2+1+1+1 by omega];simpa using e2
theorem zvA(A:Option Addr)(l c:Nat)(hlc:l<=c)(hl:l<=LI)(w:World):Calls Tryz.prog 150 #[.slice A l c] w fun e w'=>e=.returned (.slice A l l)/\w=w':=by
 have hl':=zpo hl;have h1:(l:Int)<=(c:Int):=by omega
 clear hl;go_enter Tryz.func150,Tryz.ntmps150;go_wp2_with fail;go_ret;exact⟨rfl,rfl⟩
theorem zqS(A:Option Addr)(l c:Nat)(hlc:l<=c)(hl:l<=LV)(w:World):Calls Tryz.prog 120 #[.slice A l c] w fun e w'=>e=.returned (.slice A l l)/\w=w':=by
 have hl':=zk9 hl;have h1:(l:Int)<=(c:Int):=by omega
 clear hl;go_enter Tryz.func120,Tryz.ntmps120;go_wp2_with fail;go_ret;exact⟨rfl,rfl⟩
theorem zl5{P:Program}{w:World}{ops:Array Oper}{o:Oper}{a:Act}{K:Act->World->Prop}{Q:Exit->Act->World->Prop}{F:Prop}(hgd:o.guard=none)(s x:Operand)(t:TypeId)
  (hop:o.op=Op.call { callee:=Callee.builtin Builtin.append,args := #[s,x],argTypes := #[t,t] })(e:TypeId)(i:TypeInfo)(z:Value)(size bytes:Nat)(h1:P.underlying t=some (.slice e))(h2:P.info? e=some i)(h3:i.zero=some z)(h4:i.size=size)(h5:i.bytes=bytes)(h6:z.cells.size=size)(h7:0<size)
  (ao:Option Addr)(n cap:Nat)(olds:List Value)(hs:a.eval s=.slice ao n cap)(hnone:ao=none->n=0/\cap=0)(hlo:olds.length=n*size)(holds:∀b,ao=some b->∀j u,olds[j]?=some u->w.cell? (b.add j)=some u)
  (ad:Addr)(m c:Nat)(news:List Value)(hx:a.eval x=.slice (some ad) m c)(hn:news.length=m*size)(hc:∀j u,news[j]?=some u->w.cell? (ad.add j)=some u)(h1c:∀u∈news,u.oneCell'=true)
  (hfull:cap<n+m)(b1:n+m<=maxLen)(b2:(n+m)*bytes<=140737488355328)
  (hK:∀v' w',w'.ownsRow w.heap.size e size v' (n+m) (olds++news)->w.grownBy w' none->K (a.put o.dst v') w') :
  if Region.wanted o (yielded ops a.tmps)=true then Oper.wp P o a w K Q else F:=by
 have hw:Region.wanted o (yielded ops a.tmps)=true:=by simp[Region.wanted,hgd]
 rw[if_pos hw]
 cases ao with
 | some b =>
  obtain⟨v',w',hrun,r1,r2⟩:=run_append_arg_grows (P:=P) w t o.type e i z size bytes h1 h2 h3 h4 h5 h6 h7 b n cap olds hlo (holds b rfl) ad m c news hn hc hfull b1 b2;unfold Oper.wp;simp[execOp,hop,resolve,invoke,builtin,hs,hx,hrun,Result.andThen];exact hK v' w' r1 r2
 | none =>
  obtain⟨rfl,rfl⟩:=hnone rfl;obtain rfl:olds=[]:=List.eq_nil_of_length_eq_zero (by simpa using hlo);obtain⟨v',w',hrun,r1,r2,_⟩:=run_append_own (P:=P) w w.heap.size t o.type e i z size bytes h1 h2 h3 h4 h5 h6 h7 (.slice none 0 0) 0 [] (World.ownsRow_nil w _ e size) ad m c news hn hc h1c b1 b2 zl;unfold Oper.wp;simp[execOp,hop,resolve,invoke,builtin,hs,hx,hrun,Result.andThen];exact hK v' w' r1 r2
theorem zoA(q:List Int)(A:Option Addr)(c:Nat)(i:Int)(hi:I64 i)(S:Nat->Prop)(w:World)(hrow:RowI w S A q)(hlc:q.length<=c)(hl:q.length<=100000) :
  Calls Tryz.prog 114 #[.slice A q.length c,.int .i64 i] w (NewI w (q++[i])):=by
 obtain⟨i0,hi0,hz0,hz1,hz2⟩:=info_parts zlO;have ae:=zh hrow;have HI:=zh hi;have hbI:=zpS;have hm1:q.length+1<=maxLen:=by unfold maxLen;omega
 have hm2:(q.length+1)*8<=140737488355328:=by omega
 have hnone:A=none->q.length=0/\q.length=0:=fun h=>by
  subst h
  cases q with
  | nil=>simp
  | cons x xs=>obtain⟨_,h,_⟩:=hrow 0 (by simp);cases h
 have hold:∀b,A=some b->∀(j:Nat) u,(q.map fun x=>Value.int .i64 x)[j]?=some u->(w.alloc (.cells #[.int .i64 i] 3)).cell? (b.add j)=some u:=fun b hb j u hj=>by
  subst hb;exact zks (hrow.news.1 j u hj) _
 have hnew:∀(j:Nat) (u:Value),[Value.int .i64 i][j]?=some u->(w.alloc (.cells #[.int .i64 i] 3)).cell? ((⟨w.heap.size,0,none⟩:Addr).add j)=some u:=fun j u h=>by
  have:=zlB w 3 [Value.int .i64 i] j u h;simpa using this
 clear hrow hi;go_enter Tryz.func114,Tryz.ntmps114;go_wp2_with fail;refine(zvA A q.length c hlc (by unfold LI;omega) _).mono ?_;rintro e w' ⟨rfl,rfl⟩;go_wp2_with (at_builtin;refine wpList_append_grows (P:=Tryz.prog) _ rfl (.tmp 6) (.tmp 8) 30 rfl 3 i0 _ 1 8 Tryz.underlying30 hi0 hz0 hz1 hz2 rfl (by decide) A q.length q.length _ rfl hnone (by simp) hold ⟨w.heap.size,0,none⟩ 1 1 [.int .i64 i] rfl rfl hnew (by intro u hu;simp at hu;subst hu;rfl) (by omega) hm1 hm2 ?_;intro v' w' h2 h3)
 have h2':w'.ownsRow (w.heap.size+1) 3 1 v' (q++[i]).length ((q++[i]).map (fun x=>Value.int .i64 x)):=by
  have:=h2;simp only[World.size_alloc]at this;simpa using this
 have hbl:Below w.heap.size w w':=((zs w).alloc zl _).grown h3 (by simp) (fun g e=>by cases e);obtain⟨A',c',rfl,hcc,bg⟩:=zly h2' (by
  intro x hx;simp only[List.mem_append,List.mem_singleton]at hx;rcases hx with hx|rfl
  ·exact ae.out.fits x hx
  ·exact HI.out)
 have dA:=zh (bg.mono (S':=From w.heap.size) fun b hb=>by have:=(h2'.lt b hb).1;show w.heap.size<=b;omega);have HB:=zh hbl;have HC:=zh hcc;clear h2 h2' h3 hbl hold hnew bg hcc hnone;go_wp2_with fail;go_ret;exact⟨A',c',rfl,dA.out,HC.out,HB.out⟩
theorem zyW(s:ByteArray)(k:Int)(w:World):(Instr.build 57 #[(0,.string s),(1,.int .u8 k)]).run Tryz.prog w=.ok (.agg #[.string s,.int .u8 k,.int .i64 0]) w:=by kernel_rfl
theorem zwT(a0 a1 a2:Value)(w:World):(Instr.buildSlice 22 1 #[(0,.agg #[a0,a1,a2])]).run Tryz.prog w=.ok (.slice (some ⟨w.heap.size,0,none⟩) 1 1) (w.alloc (.cells #[a0,a1,a2] 57)):=by kernel_rfl
def zmt(k:Int)(s:ByteArray)(i:Nat)(vs:List VD):List VD:=if k=54/\i=1 then vs++[⟨s,1,0⟩]else if k=55/\i=0 then vs++[⟨s,3,0⟩]else vs
def zxb(w:World)(S:Nat->Prop)(vs:List VD)(e:Ending)(w':World):Prop:=∃A' c',e=.returned (.slice A' vs.length c')/\RowV w' (fun b=>S b\/w.heap.size<=b) A' vs/\vs.length<=c'/\Below w.heap.size w w'
theorem zqn{w w':World}{base:Nat}{E:TypeId}{v:Value}{vs:List VD}{u:VD}{news:List Value}(hn:∀i (hi:i<vs.length),news[i*3]?=some (.string vs[i].s)/\news[i*3+1]?=some (.int .u8 vs[i].k)/\news[i*3+2]?=some (.int .i64 vs[i].n))
  (hl:news.length=vs.length*3)(hf:∀i (hi:i<vs.length),FldV vs[i])(hu:FldV u)(h:w'.ownsRow base E 3 v (vs.length+1) (news++[.string u.s,.int .u8 u.k,.int .i64 u.n])) :
  ∃A c,v=.slice A (vs++[u]).length c/\(vs++[u]).length<=c/\RowV w' (fun b=>base<=b) A (vs++[u]):=by
 rcases h.2 with⟨_,h0⟩|⟨g,cap,cur,rfl,hb,hg,hc,hm,hz,hx⟩
 ·omega
 ·refine⟨some ⟨g,0,none⟩,cap,by simp,by simpa using hc,fun i hi=>?_⟩;have ha:(⟨g,0,none⟩:Addr).add (i*3)=⟨g,i*3,none⟩:=by unfold Addr.add;split<;>simp_all
  have hcell:∀j x,(news++[Value.string u.s,.int .u8 u.k,.int .i64 u.n])[j]?=some x->w'.cell? ⟨g,j,none⟩=some x:=fun j x hj=>by
   have hlt:=(List.getElem?_eq_some_iff.1 hj).1;rw[h.cellAt j (by simp at hlt;omega)];exact hj
  refine⟨⟨g,0,none⟩,rfl,hb,?_,?_⟩
  ·rw[ha];by_cases e:i<vs.length
   ·obtain⟨e0,e1,e2⟩:=hn i e;rw[List.getElem_append_left e];exact⟨hcell (i*3) _ (by rw[List.getElem?_append_left (by omega)];exact e0),hcell (i*3+1) _ (by rw[List.getElem?_append_left (by omega)];exact e1),hcell (i*3+2) _ (by rw[List.getElem?_append_left (by omega)];exact e2)⟩
   ·have e':i=vs.length:=by simp at hi;omega
    subst e';simp only[List.getElem_append_right zl,Nat.sub_self,List.getElem_cons_zero];exact⟨hcell (vs.length*3) _ (by rw[List.getElem?_append_right (by omega)];simp[hl]),hcell (vs.length*3+1) _ (by rw[List.getElem?_append_right (by omega)];simp[hl]),hcell (vs.length*3+2) _ (by rw[List.getElem?_append_right (by omega)];simp[hl])⟩
  ·by_cases e:i<vs.length
   ·rw[List.getElem_append_left e];exact hf i e
   ·have e':i=vs.length:=by simp at hi;omega
    subst e';simpa using hu
theorem zuj(t:T)(i:Nat)(hi64:i<=4000000000)(vs:List VD)(A:Option Addr)(c:Nat)(S S':Nat->Prop)(v:Value)(w:World)(hv:NV w S' t v)(hrow:RowV w S A vs)(hlc:vs.length<=c)(hl:vs.length<=100000) :
  Calls Tryz.prog 84 #[v,.int .i64 i,.slice A vs.length c] w (zxb w S (zmt t.k t.s i vs)):=by
 obtain⟨i0,hi0,hz0,hz1,hz2⟩:=info_parts zxs;obtain⟨B,tc,rfl,hft,-⟩:=hv.open_;have ae:=zh hrow;have nz:=zh hlc;have lQ:=zh hft;have hb2:=zyW;have hbs:=zwT;have hm1:vs.length+1<=maxLen:=by unfold maxLen;omega
 have hm2:(vs.length+1)*32<=140737488355328:=by omega
 have hlv:vs.length<=LV:=by unfold LV;omega
 obtain⟨news,hnl,hnc,hn1,nQ⟩:∃news:List Value,news.length=vs.length*3/\(∀b,A=some b->∀(j:Nat) u,news[j]?=some u->w.cell? (b.add j)=some u)/\(A=none->vs.length=0/\vs.length=0)/\(∀i (hi:i<vs.length),news[i*3]?=some (.string vs[i].s)/\news[i*3+1]?=some (.int .u8 vs[i].k)/\news[i*3+2]?=some (.int .i64 vs[i].n)):=by
  cases A with
  | none =>
   have h0:vs=[]:=by
    cases vs with
    | nil=>rfl
    | cons x xs=>obtain⟨_,h,_⟩:=hrow 0 (by simp);cases h
   subst h0;exact⟨[],rfl,(fun b h=>by cases h),(fun _=>⟨rfl,rfl⟩),fun i hi=>absurd hi (by simp)⟩
  | some a =>
   obtain⟨news,h1,h2,_,h4⟩:=hrow.news;exact⟨news,h1,(fun b h=>by injection h with h;subst h;exact h2),(fun h=>by cases h),h4⟩
 have lN:=zh nQ;have HFV:=zh (show ∀i (hi:i<vs.length),FldV vs[i]from fun i hi=>(hrow i hi).choose_spec.2.2.2);clear hrow hlc hft hv nQ;generalize t.k=tk,t.n=tn,t.s=ts,t.ks.length=tl at *
 obtain⟨V,hV⟩:=zX (zmt tk ts i vs);rw[hV];have HV:=zh hV;clear hV;have key:∀(kd:Int) (hkd:kd=1\/kd=3) (W':World) (v':Value),(((w.alloc (.cells #[.int .u8 tk,.int .i64 tn,.string ts,.slice B tl tc] 41)).alloc (.cells #[.string ts,.int .u8 kd,.int .i64 0] 57)).drew).grownBy W' none ->
   W'.ownsRow ((w.alloc (.cells #[.int .u8 tk,.int .i64 tn,.string ts,.slice B tl tc] 41)).alloc (.cells #[.string ts,.int .u8 kd,.int .i64 0] 57)).drew.heap.size 57 3 v' (vs.length+1) (news++[.string ts,.int .u8 kd,.int .i64 0])->V=vs++[⟨ts,kd,0⟩]->zxb w S V (.returned v') W':=by
  intro kd hkd W' v' hg ho hVV;subst hVV;obtain⟨A',c',rfl,hcc,hrr⟩:=zqn (w:=w) (u:=⟨ts,kd,0⟩) lN.out hnl HFV.out ⟨lQ.out.2.2,(show(0:Int)<=kd/\kd<256 by rcases hkd with rfl|rfl<;>decide),(by decide:(-9223372036854775808:Int)<=0/\(0:Int)<=9223372036854775807)⟩ ho;refine⟨A',c',rfl,hrr.mono fun b hb=>.inr ?_,hcc,?_⟩
  ·simp at hb;omega
  ·exact((((zs w).alloc zl _).alloc (by simp) _).drew).grown hg (by simp;omega) (fun g e=>by cases e)
 have HKEY:=zh key;have hnc':∀o o' b,A=some b->∀(j:Nat) u,news[j]?=some u->((w.alloc o).alloc o').drew.cell? (b.add j)=some u:=fun o o' b hb j u hj=>zks (zks (hnc b hb j u hj) o) o';have hnw:∀(kd:Int) (j:Nat) (u:Value),[Value.string ts,.int .u8 kd,.int .i64 0][j]?=some u->((w.alloc (.cells #[.int .u8 tk,.int .i64 tn,.string ts,.slice B tl tc] 41)).alloc (.cells #[.string ts,.int .u8 kd,.int .i64 0] 57)).drew.cell? ((⟨w.heap.size+1,0,none⟩:Addr).add j)=some u:=fun kd j u h=>by
  have:=zlB (w.alloc (.cells #[.int .u8 tk,.int .i64 tn,.string ts,.slice B tl tc] 41)) 57 [Value.string ts,.int .u8 kd,.int .i64 0] j u h;simpa using this
 have HNC:=zh hnc';have vG:=zh hnw;clear key hnc hnc' hnw;by_cases eP:tk=54/\i=1
 ·obtain⟨rfl,rfl⟩:=eP;have wS:=zh (show V=vs++[⟨ts,1,0⟩] by rw[<-HV.out];simp[zmt]);go_enter Tryz.func84,Tryz.ntmps84;go_wp2_with fail
  go_region_held3 (fun w'=>w'.cell? ⟨w.heap.size,2,none⟩=some (.string ts))
   (first|exact hk5|(simp;done))
   (first
    | (refine zl5 (by rfl) (.tmp 16) (.tmp 20) 22 (by rfl) 57 i0 _ 3 32 Tryz.underlying22 hi0 hz0 hz1 hz2 rfl (by decide) A vs.length vs.length news (by rfl) hn1 hnl (HNC.out _ _) ⟨w.heap.size+1,0,none⟩ 1 1 [.string ts,.int .u8 1,.int .i64 0] (by rfl) rfl (vG.out 1) (by intro u hu;simp at hu;rcases hu with rfl|rfl|rfl<;>rfl) (by omega) hm1 hm2 ?_;intro v' w' h2 h3;have HF:=zh (HKEY.out 1 (.inl rfl) w' v' h3 h2 wS.out);have hk5:w'.cell? ⟨w.heap.size,2,none⟩=some (.string ts):=(World.cell?_of_block (a:=⟨w.heap.size,2,none⟩) (h3.block _ (by simp;omega) (by simp))).trans (by simp);clear h2 h3)
    | (go_at_call 120;refine(zqS A vs.length c nz.out hlv _).mono ?_;rintro e wq ⟨rfl,rfl⟩)
    | fail)
  all_goals
   clear hk5;go_wp2_with fail;go_ret;exact HF.out
 by_cases fu:tk=55/\i=0
 ·obtain⟨rfl,rfl⟩:=fu;have wS:=zh (show V=vs++[⟨ts,3,0⟩] by rw[<-HV.out];simp[zmt]);go_enter Tryz.func84,Tryz.ntmps84;go_wp2_with fail
  go_region_held3 (fun w'=>w'.cell? ⟨w.heap.size,2,none⟩=some (.string ts))
   (first|exact hk5|(simp;done))
   (first
    | (refine zl5 (by rfl) (.tmp 31) (.tmp 35) 22 (by rfl) 57 i0 _ 3 32 Tryz.underlying22 hi0 hz0 hz1 hz2 rfl (by decide) A vs.length vs.length news (by rfl) hn1 hnl (HNC.out _ _) ⟨w.heap.size+1,0,none⟩ 1 1 [.string ts,.int .u8 3,.int .i64 0] (by rfl) rfl (vG.out 3) (by intro u hu;simp at hu;rcases hu with rfl|rfl|rfl<;>rfl) (by omega) hm1 hm2 ?_;intro v' w' h2 h3;have HF:=zh (HKEY.out 3 (.inr rfl) w' v' h3 h2 wS.out);have hk5:w'.cell? ⟨w.heap.size,2,none⟩=some (.string ts):=(World.cell?_of_block (a:=⟨w.heap.size,2,none⟩) (h3.block _ (by simp;omega) (by simp))).trans (by simp);clear h2 h3)
    | (go_at_call 120;refine(zqS A vs.length c nz.out hlv _).mono ?_;rintro e wq ⟨rfl,rfl⟩)
    | fail)
  all_goals
   clear hk5;go_wp2_with fail;go_ret;exact HF.out
 have wS:=zh (show V=vs by rw[<-HV.out];unfold zmt;rw[if_neg eP,if_neg fu]);have HF:=zh (show ∀o,zxb w S V (.returned (.slice A vs.length c)) (w.alloc o)from fun o=>by
  rw[wS.out];exact⟨A,c,rfl,(ae.out.later (zr.alloc zl _)).mono fun b hb=>.inl hb,nz.out,zr.alloc zl _⟩)
 by_cases yU:tk=54
 ·subst yU;have hne:¬ i=1:=fun e=>eP ⟨rfl,e⟩;have e1:(i==1)=false:=by simpa using hne
  have e2:((i:Int)==1)=false:=by simp;omega
  clear eP fu hne;go_enter Tryz.func84,Tryz.ntmps84;go_wp2_with fail;go_ret;exact HF.out _
 have f54:(tk==54)=false:=by simpa using yU
 by_cases yT:tk=55
 ·subst yT;have hne:¬ i=0:=fun e=>fu ⟨rfl,e⟩;have e1:(i==0)=false:=by simpa using hne
  have e2:((i:Int)==0)=false:=by simp;omega
  clear eP fu hne;go_enter Tryz.func84,Tryz.ntmps84;go_wp2_with fail;go_ret;exact HF.out _
 have f55:(tk==55)=false:=by simpa using yT
 clear eP fu yU yT;go_enter Tryz.func84,Tryz.ntmps84;go_wp2_with fail;go_ret;exact HF.out _
end
section
open Go Go.RowKit
mutual
/-- The nodes of a tree,in pre-order. -/
def po:T->List T
 | .nd k n s ks=>.nd k n s ks::pos ks
def pos:List T->List T
 | []=>[]
 | t::ts=>po t++pos ts
end
mutual
/-- The depth of a tree. -/
def dep:T->Nat
 | .nd _ _ _ ks=>1+deps ks
def deps:List T->Nat
 | []=>0
 | t::ts=>max (dep t) (deps ts)
end
theorem zxM{t:T}:∀ {ks:List T},t∈ks->dep t<=deps ks
 | u::us,h=>by
  simp only[List.mem_cons]at h;rcases h with rfl|h
  ·simp only[deps];omega
  ·have:=zxM h;simp only[deps];omega
def zKP(w:World)(xs:List Int)(v:Value)(w':World):Prop:=∃A' c',v=.slice A' xs.length c'/\RowI w' (From w.heap.size) A' xs/\xs.length<=c'/\Below w.heap.size w w'
theorem znR{P:Program}{f:FuncId}{args:Array Value}{w:World}{xs:List Int}(h:Calls P f args w (NewI w xs)):Calls P f args w fun e w'=>∃v,e=.returned v/\zKP w xs v w' :=
 h.mono fun _ _ ⟨A,c,he,hn⟩=>⟨_,he,A,c,rfl,hn⟩
end
end Go.Proofs.YtembgnhbpmfhpaaGreat
