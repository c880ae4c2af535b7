/-
  Texts of the proof, put together without their remarks: Sj, Ast3, Sk, Kg, Ip, Trp, Ig, Eqv, Ir, Ie, Is, Ic, Iu, Iw, Ix, Iy, Il, Iv.
-/
import Derived.Test.YtckhofdinldhpaaGreatE3
import Derived.Recover
set_option linter.unusedSimpArgs false
set_option linter.unusedVariables false
set_option maxHeartbeats 8000000
set_option maxRecDepth 100000
namespace Go.Proofs.YtckhofdinldhpaaGreat
open Go Go.RowKit
theorem zoy:IsFn Tryz.prog 112 Tryz.f112:=⟨Tryz.func112,by kernel_rfl,by kernel_rfl⟩
theorem zu7 (a:Addr):a.add (1*4)=⟨a.block,a.off+4,none⟩:=by unfold Addr.add;split<;>simp_all
theorem zs6 {W:World} {n0:Nat} {P:Ph} {S:ST} (h:SR W n0 P S) (k n:Int) (s:ByteArray) (p q:T) (v:Value) (hv:NV W Any (.nd k n s [p,q]) v) (hk:k=40\/k=41\/k=42) (id:Nat) (hid:S.num p.s=some id) (kp:Int) (hck:CurK S id kp) :
  Calls Tryz.prog 60 #[.pointer (some ⟨P.sb,0,none⟩),v] W fun e W'=>e=.returned (.int .i64 (zla S k s p q (indE S.look p) (zkI S.look q)).1)/\∃ P',SStp n0 P S W P' (zla S k s p q (indE S.look p) (zkI S.look q)).2 W'/\P'.sb=P.sb:=by
 obtain⟨A,c,rfl,hf,hlk,hlc,hrow⟩:=hv.open_;simp only[T.k_nd,T.n_nd,T.s_nd,T.ks_nd] at *
 obtain⟨R,hR⟩:∃ R,zla S k s p q (indE S.look p) (zkI S.look q)=R:=⟨_,rfl⟩
 rw[hR];have HRR:=zh hR;have HS:=zh h;have HL:=zh (zt7 n0 P S h.wf);obtain⟨a,t0,A2,c2,rfl,_,Ht,h4,hn0⟩:=hrow.nd (i:=0) (by simp);obtain⟨a',t1,A3,c3,ea,_,Hu,h5,hn1⟩:=hrow.nd (i:=1) (by simp);injection ea with ea;subst ea;have ha:a.add (1*4)=⟨a.block,a.off+4,none⟩:=zu7 a;rw[ha] at h5;have ht0:t0=p:=Ht.out.symm;subst ht0;have ht1:t1=q:=Hu.out.symm;subst ht1;simp only[Nat.zero_mul,Nat.one_mul,Addr.add_zero',List.length_cons,List.length_nil,Nat.zero_add,Nat.reduceAdd] at *
 have hbx:=box4 (heap_alloc_new W (.cells #[.int .u8 k,.int .i64 n,.string s,.slice (some a) 2 c] 29));have aC:=zh (heap_alloc_new W (.cells #[.int .u8 k,.int .i64 n,.string s,.slice (some a) 2 c] 29));obtain⟨W0,hW0⟩:∃ W0,W.alloc (.cells #[.int .u8 k,.int .i64 n,.string s,.slice (some a) 2 c] 29)=W0:=⟨_,rfl⟩
 have q0:Below W.heap.size W W0:=hW0▸zkd (Below.refl _ _) _;rw[hW0] at hbx aC;have mP:=zh q0;have H4:=zh h4;have H5:=zh h5;have g4:=zmd q0 h4;obtain⟨z0,z1,z2,z3⟩:=g4;obtain⟨⟨iv,ie⟩,hiv⟩:∃ r,indE S.look t0=r:=⟨_,rfl⟩
 obtain⟨⟨jv,je⟩,hjv⟩:∃ r,zkI S.look t1=r:=⟨_,rfl⟩
 have ng:=zh (zmP HL.out t0 _ W0 (hn0.later q0) (h.later q0));rw[hiv] at ng;have si:=zh (show ∀ W',Below W.heap.size W W'->Calls Tryz.prog 110 #[nv t1.k t1.n t1.s A3 t1.ks.length c3,.func (.func 109) #[.pointer (some ⟨P.sb,0,none⟩)] #[]] W' (NumE (jv,je) W') from fun W' hb=>hjv▸zty HL.out t1 _ W' (hn1.later hb) (h.later hb));have mJ:=zh (show R=zla S k s t0 t1 (iv,ie) (jv,je) by rw[<-hR,hiv,hjv]);have mh:=zh (fun W' (hb:Below W.heap.size W W')=>zl2 (h.later hb) t0.s id hid);obtain⟨x0,x1,x2,x3⟩:=hbx;have ay:=hck.lt h.wf;have ni:=zh hid;clear hR hiv hjv hv hn0 hn1 hrow hlk hlc q0 hf hck hid h4 h5;clear h;have k43:(k==43)=false:=by simp;omega
 have qD:=zh (fun x w=>zqP k x jv hk w);go_enter Tryz.func60,Tryz.ntmps60;go_wp2_with fail;refine ng.out.mono ?_;rintro e w1 ⟨rfl,aa⟩;have HB1:=zh (zka mP.out aa);have aN:=zh (zkc aC.out aa);have v0:=zb aa x0;have v3:=zb aa x3;obtain⟨y0,y1,y2,y3⟩:=zmd HB1.out H5.out;clear aa z0 z1 z2 z3 x0 x1 x2 x3;dsimp only;by_cases he:ie=0
 ·subst he;have HR1:=zh (show R=zmz S k s t0.s t1.s iv (jv,je) by rw[mJ.out,zla,if_neg (by simp)]);rcases hk with rfl|rfl|rfl
  ·skip
   go_wp2_with fail;refine(si.out _ HB1.out).mono ?_;rintro e w2 ⟨rfl,aj⟩;have HB2:=zh (zka HB1.out aj);have bG:=zh (zkc aN.out aj);have r0:=zb aj v0;have r3:=zb aj v3;obtain⟨z0,z1,z2,z3⟩:=zmd HB2.out H4.out;clear aj y0 y1 y2 y3 v0 v3;dsimp only;by_cases bA:je=0
   ·subst bA;go_wp2_with fail;refine(mh.out _ HB2.out).mono ?_;rintro e w3 ⟨rfl,aU⟩;have HB3:=zh (zka HB2.out aU);have H40:=zh (zkc bG.out aU);have s0:=zb aU r0;have s3:=zb aU r3;have HS2:=zh (HS.out.later HB3.out);clear r0 r3 aU z0 z1 z2 z3;have HR2:=zh (show R=if 0<=iv/\iv<(S.cell id).length then zmy S 40 s t1.s jv id iv.toNat else (12,S) by
     rw[HR1.out,zmz,if_neg (by simp),ni.out])
    by_cases hr:0<=iv/\iv<((S.cell id).length:Int)
    ·obtain⟨i,rfl⟩:∃ i:Nat,iv=i:=⟨iv.toNat,by omega⟩
     have hi:i<(S.cell id).length:=by omega
     have HR3:=zh (show R=(0,S.put id i (updE 40 (S.el id i) jv)) by rw[HR2.out,if_pos hr,zmy,if_pos (by omega)];rfl);obtain⟨⟨c4,hci,hc4⟩,p0,p1⟩:=HS2.out.plc ay hi;have w0:w3.cell? ⟨P.cb id,0,none⟩=some (.slice (some ⟨P.gI id,0,none⟩) (S.cell id).length c4):=by rw[<-hci];exact zc (HS2.out.cbox ay) rfl
     have ed:=zh (fun W' (hb:Below W.heap.size W W')=>(HS.out.later hb).put ay hi (updE 40 (S.el id i) jv) (zpf _ _ _));obtain⟨x,hx⟩:∃ x,S.el id i=x:=⟨_,rfl⟩
     rw[hx] at p0 HR3 ed;obtain⟨m,hm⟩:∃ m,(S.cell id).length=m:=⟨_,rfl⟩
     rw[hm] at w0;have hi1:¬ (i:Int)<0:=by omega
     have hi2:¬ (m:Int)<=(i:Int):=by omega
     have hi3:(i:Int)<(m:Int):=by omega
     clear HR1 HR2 hr hci hc4 hm hx;obtain⟨U,hU⟩:∃ U,updE 40 x jv=U:=⟨_,rfl⟩
     rw[hU] at HR3 ed;have rR:=zh (hU▸qD.out x);clear hU;go_upto_region 22 with fail;have hSS:(fun w':World=>w'.cell? ⟨W.heap.size,0,none⟩=some (.int .u8 40)/\w'.cell? ⟨P.gI id,i,none⟩=some (.int .i64 x)) w3.drew/\(fun _:World=>True) w3.drew:=⟨⟨s0,p0⟩,trivial⟩
     refine wp_region_noPanic ?_;refine zke (fun w':World=>w'.cell? ⟨W.heap.size,0,none⟩=some (.int .u8 40)/\w'.cell? ⟨P.gI id,i,none⟩=some (.int .i64 x)) (fun _:World=>True) 11 (by kernel_rfl) ?_;refine zT 0 hSS ?_;(try simp only[zQ]);refine zT 1 hSS ?_;(try simp only[zQ]);refine zT 2 hSS ?_;(try simp only[zQ]);refine zT 3 hSS ?_;(try simp only[zQ]);refine zT 4 hSS ?_;(try simp only[zQ]);refine zT 5 hSS ?_;(try simp only[zQ]);have had:Calls Tryz.prog 112 [.int .u8 40,.int .i64 x,.int .i64 jv].toArray w3.drew fun e W'=>∃ u,e=.returned u/\u=.tuple #[.int .i64 U,.int .i64 0]/\W'=w3.drew :=
      (rR.out w3.drew).mono fun e W' hh=>⟨_,hh.1,rfl,hh.2⟩
     refine zo 6 fun K hK=>?_;refine zkg (by rfl) (.func 112) [.tmp 86,.tmp 89,.tmp 90] _ (by rfl) 112 _ zoy (by rfl) _ (by rfl) _ had ?_;rintro v4 w4 ⟨rfl,rfl⟩;refine hK.out _ _ hSS ?_;clear hK K had;(try simp only[zQ]);refine zT 7 hSS ?_;(try simp only[zQ]);refine zT 8 hSS ?_;(try simp only[zQ]);refine zT 9 hSS ?_;(try simp only[zQ]);refine zT 10 hSS ?_;(try simp only[zQ]);refine zp 11 fun K hK=>?_;(try simp only[zA,zB,zC]);go_simp;refine hK.out _ _ hSS.1 ?_;clear hK K hSS;(try simp only[zQ]);refine zd ?_;refine NoPanic.normal ?_;go_wp2_with fail;go_ret;refine⟨by rw[HR3.out];rfl,P,?_,rfl⟩;rw[HR3.out];have:=ed.out _ HB3.out.drew;exact⟨this.st.after HB3.out.drew HS.out.rws,this.wf⟩
    ·skip
     have HN:=zh (show R=(12,S) by rw[HR2.out,if_neg hr]);obtain⟨A3,c3,hci,hc3,aL⟩:=HS2.out.items ay;have w0:w3.cell? ⟨P.cb id,0,none⟩=some (.slice A3 (S.cell id).length c3):=by rw[<-hci];exact zc (HS2.out.cbox ay) rfl
     obtain⟨m,hm⟩:∃ m,(S.cell id).length=m:=⟨_,rfl⟩
     rw[hm] at w0 hr;clear HR2 hci hc3 aL hm;by_cases hneg:iv<0
     ·go_wp2_with fail;go_ret;exact⟨by rw[HN.out];rfl,P,by rw[HN.out];exact SStp.refl HS.out HB3.out,rfl⟩
     ·have hge:(m:Int)<=iv:=by omega
      go_wp2_with fail;go_ret;exact⟨by rw[HN.out];rfl,P,by rw[HN.out];exact SStp.refl HS.out HB3.out,rfl⟩
   ·skip
    have HN:=zh (show R=(je,S) by rw[HR1.out,zmz,if_pos bA]);have e1:(je==0)=false:=by simpa using bA
    have e2:(je != 0)=true:=by simpa using bA
    clear bA;go_wp2_with fail;go_ret;exact⟨by rw[HN.out];rfl,P,by rw[HN.out];exact SStp.refl HS.out HB2.out,rfl⟩
  ·skip
   go_wp2_with fail;refine(si.out _ HB1.out).mono ?_;rintro e w2 ⟨rfl,aj⟩;have HB2:=zh (zka HB1.out aj);have bG:=zh (zkc aN.out aj);have r0:=zb aj v0;have r3:=zb aj v3;obtain⟨z0,z1,z2,z3⟩:=zmd HB2.out H4.out;clear aj y0 y1 y2 y3 v0 v3;dsimp only;by_cases bA:je=0
   ·subst bA;go_wp2_with fail;refine(mh.out _ HB2.out).mono ?_;rintro e w3 ⟨rfl,aU⟩;have HB3:=zh (zka HB2.out aU);have H41:=zh (zkc bG.out aU);have s0:=zb aU r0;have s3:=zb aU r3;have HS2:=zh (HS.out.later HB3.out);clear r0 r3 aU z0 z1 z2 z3;have HR2:=zh (show R=if 0<=iv/\iv<(S.cell id).length then zmy S 41 s t1.s jv id iv.toNat else (12,S) by
     rw[HR1.out,zmz,if_neg (by simp),ni.out])
    by_cases hr:0<=iv/\iv<((S.cell id).length:Int)
    ·obtain⟨i,rfl⟩:∃ i:Nat,iv=i:=⟨iv.toNat,by omega⟩
     have hi:i<(S.cell id).length:=by omega
     have HR3:=zh (show R=(0,S.put id i (updE 41 (S.el id i) jv)) by rw[HR2.out,if_pos hr,zmy,if_pos (by omega)];rfl);obtain⟨⟨c4,hci,hc4⟩,p0,p1⟩:=HS2.out.plc ay hi;have w0:w3.cell? ⟨P.cb id,0,none⟩=some (.slice (some ⟨P.gI id,0,none⟩) (S.cell id).length c4):=by rw[<-hci];exact zc (HS2.out.cbox ay) rfl
     have ed:=zh (fun W' (hb:Below W.heap.size W W')=>(HS.out.later hb).put ay hi (updE 41 (S.el id i) jv) (zpf _ _ _));obtain⟨x,hx⟩:∃ x,S.el id i=x:=⟨_,rfl⟩
     rw[hx] at p0 HR3 ed;obtain⟨m,hm⟩:∃ m,(S.cell id).length=m:=⟨_,rfl⟩
     rw[hm] at w0;have hi1:¬ (i:Int)<0:=by omega
     have hi2:¬ (m:Int)<=(i:Int):=by omega
     have hi3:(i:Int)<(m:Int):=by omega
     clear HR1 HR2 hr hci hc4 hm hx;obtain⟨U,hU⟩:∃ U,updE 41 x jv=U:=⟨_,rfl⟩
     rw[hU] at HR3 ed;have rR:=zh (hU▸qD.out x);clear hU;go_upto_region 22 with fail;have hSS:(fun w':World=>w'.cell? ⟨W.heap.size,0,none⟩=some (.int .u8 41)/\w'.cell? ⟨P.gI id,i,none⟩=some (.int .i64 x)) w3.drew/\(fun _:World=>True) w3.drew:=⟨⟨s0,p0⟩,trivial⟩
     refine wp_region_noPanic ?_;refine zke (fun w':World=>w'.cell? ⟨W.heap.size,0,none⟩=some (.int .u8 41)/\w'.cell? ⟨P.gI id,i,none⟩=some (.int .i64 x)) (fun _:World=>True) 11 (by kernel_rfl) ?_;refine zT 0 hSS ?_;(try simp only[zQ]);refine zT 1 hSS ?_;(try simp only[zQ]);refine zT 2 hSS ?_;(try simp only[zQ]);refine zT 3 hSS ?_;(try simp only[zQ]);refine zT 4 hSS ?_;(try simp only[zQ]);refine zT 5 hSS ?_;(try simp only[zQ]);have had:Calls Tryz.prog 112 [.int .u8 41,.int .i64 x,.int .i64 jv].toArray w3.drew fun e W'=>∃ u,e=.returned u/\u=.tuple #[.int .i64 U,.int .i64 0]/\W'=w3.drew :=
      (rR.out w3.drew).mono fun e W' hh=>⟨_,hh.1,rfl,hh.2⟩
     refine zo 6 fun K hK=>?_;refine zkg (by rfl) (.func 112) [.tmp 86,.tmp 89,.tmp 90] _ (by rfl) 112 _ zoy (by rfl) _ (by rfl) _ had ?_;rintro v4 w4 ⟨rfl,rfl⟩;refine hK.out _ _ hSS ?_;clear hK K had;(try simp only[zQ]);refine zT 7 hSS ?_;(try simp only[zQ]);refine zT 8 hSS ?_;(try simp only[zQ]);refine zT 9 hSS ?_;(try simp only[zQ]);refine zT 10 hSS ?_;(try simp only[zQ]);refine zp 11 fun K hK=>?_;(try simp only[zA,zB,zC]);go_simp;refine hK.out _ _ hSS.1 ?_;clear hK K hSS;(try simp only[zQ]);refine zd ?_;refine NoPanic.normal ?_;go_wp2_with fail;go_ret;refine⟨by rw[HR3.out];rfl,P,?_,rfl⟩;rw[HR3.out];have:=ed.out _ HB3.out.drew;exact⟨this.st.after HB3.out.drew HS.out.rws,this.wf⟩
    ·skip
     have HN:=zh (show R=(12,S) by rw[HR2.out,if_neg hr]);obtain⟨A3,c3,hci,hc3,aL⟩:=HS2.out.items ay;have w0:w3.cell? ⟨P.cb id,0,none⟩=some (.slice A3 (S.cell id).length c3):=by rw[<-hci];exact zc (HS2.out.cbox ay) rfl
     obtain⟨m,hm⟩:∃ m,(S.cell id).length=m:=⟨_,rfl⟩
     rw[hm] at w0 hr;clear HR2 hci hc3 aL hm;by_cases hneg:iv<0
     ·go_wp2_with fail;go_ret;exact⟨by rw[HN.out];rfl,P,by rw[HN.out];exact SStp.refl HS.out HB3.out,rfl⟩
     ·have hge:(m:Int)<=iv:=by omega
      go_wp2_with fail;go_ret;exact⟨by rw[HN.out];rfl,P,by rw[HN.out];exact SStp.refl HS.out HB3.out,rfl⟩
   ·skip
    have HN:=zh (show R=(je,S) by rw[HR1.out,zmz,if_pos bA]);have e1:(je==0)=false:=by simpa using bA
    have e2:(je != 0)=true:=by simpa using bA
    clear bA;go_wp2_with fail;go_ret;exact⟨by rw[HN.out];rfl,P,by rw[HN.out];exact SStp.refl HS.out HB2.out,rfl⟩
  ·skip
   go_wp2_with fail;refine(si.out _ HB1.out).mono ?_;rintro e w2 ⟨rfl,aj⟩;have HB2:=zh (zka HB1.out aj);have bG:=zh (zkc aN.out aj);have r0:=zb aj v0;have r3:=zb aj v3;obtain⟨z0,z1,z2,z3⟩:=zmd HB2.out H4.out;clear aj y0 y1 y2 y3 v0 v3;dsimp only;by_cases bA:je=0
   ·subst bA;go_wp2_with fail;refine(mh.out _ HB2.out).mono ?_;rintro e w3 ⟨rfl,aU⟩;have HB3:=zh (zka HB2.out aU);have H42:=zh (zkc bG.out aU);have s0:=zb aU r0;have s3:=zb aU r3;have HS2:=zh (HS.out.later HB3.out);clear r0 r3 aU z0 z1 z2 z3;have HR2:=zh (show R=if 0<=iv/\iv<(S.cell id).length then zmy S 42 s t1.s jv id iv.toNat else (12,S) by
     rw[HR1.out,zmz,if_neg (by simp),ni.out])
    by_cases hr:0<=iv/\iv<((S.cell id).length:Int)
    ·obtain⟨i,rfl⟩:∃ i:Nat,iv=i:=⟨iv.toNat,by omega⟩
     have hi:i<(S.cell id).length:=by omega
     have HR3:=zh (show R=(0,S.put id i (updE 42 (S.el id i) jv)) by rw[HR2.out,if_pos hr,zmy,if_pos (by omega)];rfl);obtain⟨⟨c4,hci,hc4⟩,p0,p1⟩:=HS2.out.plc ay hi;have w0:w3.cell? ⟨P.cb id,0,none⟩=some (.slice (some ⟨P.gI id,0,none⟩) (S.cell id).length c4):=by rw[<-hci];exact zc (HS2.out.cbox ay) rfl
     have ed:=zh (fun W' (hb:Below W.heap.size W W')=>(HS.out.later hb).put ay hi (updE 42 (S.el id i) jv) (zpf _ _ _));obtain⟨x,hx⟩:∃ x,S.el id i=x:=⟨_,rfl⟩
     rw[hx] at p0 HR3 ed;obtain⟨m,hm⟩:∃ m,(S.cell id).length=m:=⟨_,rfl⟩
     rw[hm] at w0;have hi1:¬ (i:Int)<0:=by omega
     have hi2:¬ (m:Int)<=(i:Int):=by omega
     have hi3:(i:Int)<(m:Int):=by omega
     clear HR1 HR2 hr hci hc4 hm hx;obtain⟨U,hU⟩:∃ U,updE 42 x jv=U:=⟨_,rfl⟩
     rw[hU] at HR3 ed;have rR:=zh (hU▸qD.out x);clear hU;go_upto_region 22 with fail;have hSS:(fun w':World=>w'.cell? ⟨W.heap.size,0,none⟩=some (.int .u8 42)/\w'.cell? ⟨P.gI id,i,none⟩=some (.int .i64 x)) w3.drew/\(fun _:World=>True) w3.drew:=⟨⟨s0,p0⟩,trivial⟩
     refine wp_region_noPanic ?_;refine zke (fun w':World=>w'.cell? ⟨W.heap.size,0,none⟩=some (.int .u8 42)/\w'.cell? ⟨P.gI id,i,none⟩=some (.int .i64 x)) (fun _:World=>True) 11 (by kernel_rfl) ?_;refine zT 0 hSS ?_;(try simp only[zQ]);refine zT 1 hSS ?_;(try simp only[zQ]);refine zT 2 hSS ?_;(try simp only[zQ]);refine zT 3 hSS ?_;(try simp only[zQ]);refine zT 4 hSS ?_;(try simp only[zQ]);refine zT 5 hSS ?_;(try simp only[zQ]);have had:Calls Tryz.prog 112 [.int .u8 42,.int .i64 x,.int .i64 jv].toArray w3.drew fun e W'=>∃ u,e=.returned u/\u=.tuple #[.int .i64 U,.int .i64 0]/\W'=w3.drew :=
      (rR.out w3.drew).mono fun e W' hh=>⟨_,hh.1,rfl,hh.2⟩
     refine zo 6 fun K hK=>?_;refine zkg (by rfl) (.func 112) [.tmp 86,.tmp 89,.tmp 90] _ (by rfl) 112 _ zoy (by rfl) _ (by rfl) _ had ?_;rintro v4 w4 ⟨rfl,rfl⟩;refine hK.out _ _ hSS ?_;clear hK K had;(try simp only[zQ]);refine zT 7 hSS ?_;(try simp only[zQ]);refine zT 8 hSS ?_;(try simp only[zQ]);refine zT 9 hSS ?_;(try simp only[zQ]);refine zT 10 hSS ?_;(try simp only[zQ]);refine zp 11 fun K hK=>?_;(try simp only[zA,zB,zC]);go_simp;refine hK.out _ _ hSS.1 ?_;clear hK K hSS;(try simp only[zQ]);refine zd ?_;refine NoPanic.normal ?_;go_wp2_with fail;go_ret;refine⟨by rw[HR3.out];rfl,P,?_,rfl⟩;rw[HR3.out];have:=ed.out _ HB3.out.drew;exact⟨this.st.after HB3.out.drew HS.out.rws,this.wf⟩
    ·skip
     have HN:=zh (show R=(12,S) by rw[HR2.out,if_neg hr]);obtain⟨A3,c3,hci,hc3,aL⟩:=HS2.out.items ay;have w0:w3.cell? ⟨P.cb id,0,none⟩=some (.slice A3 (S.cell id).length c3):=by rw[<-hci];exact zc (HS2.out.cbox ay) rfl
     obtain⟨m,hm⟩:∃ m,(S.cell id).length=m:=⟨_,rfl⟩
     rw[hm] at w0 hr;clear HR2 hci hc3 aL hm;by_cases hneg:iv<0
     ·go_wp2_with fail;go_ret;exact⟨by rw[HN.out];rfl,P,by rw[HN.out];exact SStp.refl HS.out HB3.out,rfl⟩
     ·have hge:(m:Int)<=iv:=by omega
      go_wp2_with fail;go_ret;exact⟨by rw[HN.out];rfl,P,by rw[HN.out];exact SStp.refl HS.out HB3.out,rfl⟩
   ·skip
    have HN:=zh (show R=(je,S) by rw[HR1.out,zmz,if_pos bA]);have e1:(je==0)=false:=by simpa using bA
    have e2:(je != 0)=true:=by simpa using bA
    clear bA;go_wp2_with fail;go_ret;exact⟨by rw[HN.out];rfl,P,by rw[HN.out];exact SStp.refl HS.out HB2.out,rfl⟩
 ·skip
  have HN:=zh (show R=(ie,S) by rw[mJ.out,zla,if_pos he]);have e1:(ie==0)=false:=by simpa using he
  have e2:(ie != 0)=true:=by simpa using he
  clear he;go_wp2_with fail;go_ret;exact⟨by rw[HN.out];rfl,P,by rw[HN.out];exact SStp.refl HS.out HB1.out,rfl⟩
theorem zrM {W:World} {n0:Nat} {P:Ph} {S:ST} (h:SR W n0 P S) (k n:Int) (s:ByteArray) (p q:T) (v:Value) (hv:NV W Any (.nd k n s [p,q]) v) (hk:k=43) (id:Nat) (hid:S.num p.s=some id) (kp:Int) (hck:CurK S id kp) (jd:Nat) (hjd:S.num q.s=some jd) (kq:Int) (hcq:CurK S jd kq) :
  Calls Tryz.prog 60 #[.pointer (some ⟨P.sb,0,none⟩),v] W fun e W'=>e=.returned (.int .i64 (zla S k s p q (indE S.look p) (indE S.look q)).1)/\∃ P',SStp n0 P S W P' (zla S k s p q (indE S.look p) (indE S.look q)).2 W'/\P'.sb=P.sb:=by
 obtain⟨A,c,rfl,hf,hlk,hlc,hrow⟩:=hv.open_;simp only[T.k_nd,T.n_nd,T.s_nd,T.ks_nd] at *
 obtain⟨R,hR⟩:∃ R,zla S k s p q (indE S.look p) (indE S.look q)=R:=⟨_,rfl⟩
 rw[hR];have HRR:=zh hR;have HS:=zh h;have HL:=zh (zt7 n0 P S h.wf);obtain⟨a,t0,A2,c2,rfl,_,Ht,h4,hn0⟩:=hrow.nd (i:=0) (by simp);obtain⟨a',t1,A3,c3,ea,_,Hu,h5,hn1⟩:=hrow.nd (i:=1) (by simp);injection ea with ea;subst ea;have ha:a.add (1*4)=⟨a.block,a.off+4,none⟩:=zu7 a;rw[ha] at h5;have ht0:t0=p:=Ht.out.symm;subst ht0;have ht1:t1=q:=Hu.out.symm;subst ht1;simp only[Nat.zero_mul,Nat.one_mul,Addr.add_zero',List.length_cons,List.length_nil,Nat.zero_add,Nat.reduceAdd] at *
 have hbx:=box4 (heap_alloc_new W (.cells #[.int .u8 k,.int .i64 n,.string s,.slice (some a) 2 c] 29));have aC:=zh (heap_alloc_new W (.cells #[.int .u8 k,.int .i64 n,.string s,.slice (some a) 2 c] 29));obtain⟨W0,hW0⟩:∃ W0,W.alloc (.cells #[.int .u8 k,.int .i64 n,.string s,.slice (some a) 2 c] 29)=W0:=⟨_,rfl⟩
 have q0:Below W.heap.size W W0:=hW0▸zkd (Below.refl _ _) _;rw[hW0] at hbx aC;have mP:=zh q0;have H4:=zh h4;have H5:=zh h5;have g4:=zmd q0 h4;obtain⟨z0,z1,z2,z3⟩:=g4;obtain⟨⟨iv,ie⟩,hiv⟩:∃ r,indE S.look t0=r:=⟨_,rfl⟩
 obtain⟨⟨jv,je⟩,hjv⟩:∃ r,indE S.look t1=r:=⟨_,rfl⟩
 have ng:=zh (zmP HL.out t0 _ W0 (hn0.later q0) (h.later q0));rw[hiv] at ng;have si:=zh (show ∀ W',Below W.heap.size W W'->Calls Tryz.prog 108 #[nv t1.k t1.n t1.s A3 t1.ks.length c3,.func (.func 109) #[.pointer (some ⟨P.sb,0,none⟩)] #[]] W' (NumE (jv,je) W') from fun W' hb=>hjv▸zmP HL.out t1 _ W' (hn1.later hb) (h.later hb));have mJ:=zh (show R=zla S k s t0 t1 (iv,ie) (jv,je) by rw[<-hR,hiv,hjv]);have mh:=zh (fun W' (hb:Below W.heap.size W W')=>zl2 (h.later hb) t0.s id hid);obtain⟨x0,x1,x2,x3⟩:=hbx;have ay:=hck.lt h.wf;have ni:=zh hid;clear hR hiv hjv hv hn0 hn1 hrow hlk hlc q0 hf hck hid h4 h5;have fT:=hcq.lt h.wf;have sI:=zh (fun W' (hb:Below W.heap.size W W')=>zl2 (h.later hb) t1.s jd hjd);have HJD:=zh hjd;subst hk;clear h hcq hjd;go_enter Tryz.func60,Tryz.ntmps60;go_wp2_with fail;refine ng.out.mono ?_;rintro e w1 ⟨rfl,aa⟩
 have HB1:=zh (zka mP.out aa);have aN:=zh (zkc aC.out aa);have v0:=zb aa x0;have v3:=zb aa x3;obtain⟨y0,y1,y2,y3⟩:=zmd HB1.out H5.out;clear aa z0 z1 z2 z3 x0 x1 x2 x3;dsimp only;by_cases he:ie=0
 ·subst he;have HR1:=zh (show R=zmz S 43 s t0.s t1.s iv (jv,je) by rw[mJ.out,zla,if_neg (by simp)]);go_wp2_with fail;refine(si.out _ HB1.out).mono ?_;rintro e w2 ⟨rfl,aj⟩;have HB2:=zh (zka HB1.out aj);have bG:=zh (zkc aN.out aj);have r0:=zb aj v0;have r3:=zb aj v3;obtain⟨z0,z1,z2,z3⟩:=zmd HB2.out H4.out;clear aj y0 y1 y2 y3 v0 v3;dsimp only;by_cases bA:je=0
  ·subst bA;go_wp2_with fail;refine(mh.out _ HB2.out).mono ?_;rintro e w3 ⟨rfl,aU⟩;have HB3:=zh (zka HB2.out aU);have H43:=zh (zkc bG.out aU);have s0:=zb aU r0;have s3:=zb aU r3;have HS2:=zh (HS.out.later HB3.out);clear r0 r3 aU z0 z1 z2 z3;have HR2:=zh (show R=if 0<=iv/\iv<(S.cell id).length then zmy S 43 s t1.s jv id iv.toNat else (12,S) by
    rw[HR1.out,zmz,if_neg (by simp),ni.out])
   by_cases hr:0<=iv/\iv<((S.cell id).length:Int)
   ·obtain⟨i,rfl⟩:∃ i:Nat,iv=i:=⟨iv.toNat,by omega⟩
    have hi:i<(S.cell id).length:=by omega
    have HR3:=zh (show R=if 0<=jv/\jv<(S.cell jd).length then (0,zsv S id i jd jv.toNat) else (12,S) by
     rw[HR2.out,if_pos hr,zmy,if_neg (by decide),if_pos rfl,HJD.out];rfl)
    obtain⟨⟨c4,hci,hc4⟩,p0,p1⟩:=HS2.out.plc ay hi;have w0:w3.cell? ⟨P.cb id,0,none⟩=some (.slice (some ⟨P.gI id,0,none⟩) (S.cell id).length c4):=by rw[<-hci];exact zc (HS2.out.cbox ay) rfl
    obtain⟨m,hm⟩:∃ m,(S.cell id).length=m:=⟨_,rfl⟩
    rw[hm] at w0;have hi1:¬ (i:Int)<0:=by omega
    have hi2:¬ (m:Int)<=(i:Int):=by omega
    have hi3:(i:Int)<(m:Int):=by omega
    obtain⟨y0,y1,y2,y3⟩:=zmd HB3.out H5.out;clear HR1 HR2 hr hci hc4 hm p0 p1;go_wp2_with fail;refine(sI.out _ HB3.out).mono ?_;rintro e w4 ⟨rfl,rG⟩;have az:=zh (zka HB3.out rG);have iL:=zh (HS.out.later az.out);clear rG y0 y1 y2 y3 w0;by_cases hr2:0<=jv/\jv<((S.cell jd).length:Int)
    ·obtain⟨j,rfl⟩:∃ j:Nat,jv=j:=⟨jv.toNat,by omega⟩
     have hj:j<(S.cell jd).length:=by omega
     have HR4:=zh (show R=(0,zsv S id i jd j) by rw[HR3.out,if_pos hr2];rfl);obtain⟨-,p0,p1⟩:=iL.out.plc ay hi;obtain⟨⟨c5,hcj,uR⟩,q0,q1⟩:=iL.out.plc fT hj;have w5:w4.cell? ⟨P.cb jd,0,none⟩=some (.slice (some ⟨P.gI jd,0,none⟩) (S.cell jd).length c5):=by rw[<-hcj];exact zc (iL.out.cbox fT) rfl
     have s1:=(iL.out.later (Below.refl _ _).drew).put ay hi (S.el jd j) (zo1 HS.out.wf fT j);have hj':j<((S.put id i (S.el jd j)).cell jd).length:=by
      simp only[ST.put,ST.setL]
      split
      ·next e=>rw[List.length_set,<-e];exact hj
      ·exact hj
     obtain⟨-,g0,g1⟩:=s1.sr.plc (id:=jd) (i:=j) fT hj';have s2:=s1.sr.put (id:=jd) (i:=j) fT hj' (S.el id i) (zo1 HS.out.wf ay i);have aV:=zh (s1.trans s2);obtain⟨xi,hxi⟩:∃ x,S.el id i=x:=⟨_,rfl⟩
     obtain⟨xj,hxj⟩:∃ x,S.el jd j=x:=⟨_,rfl⟩
     rw[hxi] at p0 aV;rw[hxj] at q0 g0 g1 aV;have qH:=zh (show R=(0,(S.put id i xj).put jd j xi) by rw[HR4.out,zsv,hxi,hxj]);obtain⟨y,hy⟩:∃ y,(S.put id i xj).el jd j=y:=⟨_,rfl⟩
     rw[hy] at g0;obtain⟨m2,hm2⟩:∃ m,(S.cell jd).length=m:=⟨_,rfl⟩
     rw[hm2] at w5;have hj1:¬ (j:Int)<0:=by omega
     have hj2:¬ (m2:Int)<=(j:Int):=by omega
     have hj3:(j:Int)<(m2:Int):=by omega
     clear HR3 HR4 hr2 hcj uR hm2 s1 s2 hxi hxj hy;go_upto_region 30 with fail;have hSS:(fun _:World=>True) w4.drew/\(fun w':World=>w'.cell? ⟨P.gI id,i,none⟩=some (.int .i64 xi)/\w'.cell? ⟨P.gI jd,j,none⟩=some (.int .i64 xj)) w4.drew:=⟨trivial,p0,q0⟩
     refine wp_region_noPanic ?_;refine zke (fun _:World=>True) (fun w':World=>w'.cell? ⟨P.gI id,i,none⟩=some (.int .i64 xi)/\w'.cell? ⟨P.gI jd,j,none⟩=some (.int .i64 xj)) 11 (by kernel_rfl) ?_;refine zT 0 hSS ?_;(try simp only[zQ]);refine zT 1 hSS ?_;(try simp only[zQ]);refine zT 2 hSS ?_;(try simp only[zQ]);refine zT 3 hSS ?_;(try simp only[zQ]);refine zT 4 hSS ?_;(try simp only[zQ]);refine zT 5 hSS ?_;(try simp only[zQ]);refine zkO (i:=6) (v:=?_) rfl (by kernel_rfl) (by kernel_rfl) (by kernel_rfl) (by decide) rfl (by kernel_rfl) (by kernel_rfl) (fun _ _ _ h=>h) (Or.inl ⟨by rfl,?_⟩) hSS ?_;rotate_left 1
     ·(intro w hSw;(try dsimp only at hSw);(try simp only[zA,zB,zC]);go_simp;(try with_reducible rfl))
     (try simp only[zQ]);refine zT 7 hSS ?_;(try simp only[zQ]);refine zT 8 hSS ?_;(try simp only[zQ]);refine zkO (i:=9) (v:=?_) rfl (by kernel_rfl) (by kernel_rfl) (by kernel_rfl) (by decide) rfl (by kernel_rfl) (by kernel_rfl) (fun _ _ _ h=>h) (Or.inl ⟨by rfl,?_⟩) hSS ?_;rotate_left 1
     ·(intro w hSw;(try dsimp only at hSw);(try simp only[zA,zB,zC]);go_simp;(try with_reducible rfl))
     (try simp only[zQ]);refine zo 10 fun K hK=>?_;(try simp only[zA,zB,zC]);go_simp;refine hK.out _ _ hSS ?_;clear hK K;(try simp only[zQ]);refine zp 11 fun K hK=>?_;(try simp only[zA,zB,zC]);have qQ:w4.drew.frozen? ⟨P.gI id,i,none⟩=false:=p1;have qR:w4.drew.cell? ⟨P.gI id,i,none⟩=some (.int .i64 xi):=p0;go_simp;refine hK.out _ _ trivial ?_;clear hK K hSS;(try simp only[zQ]);have g0':(w4.setCell ⟨P.gI id,i,none⟩ (.int .i64 xj)).cell? ⟨P.gI jd,j,none⟩=some (.int .i64 y):=g0;have g1':(w4.setCell ⟨P.gI id,i,none⟩ (.int .i64 xj)).frozen? ⟨P.gI jd,j,none⟩=false:=g1;refine zp 12 fun K hK=>?_;(try simp only[zA,zB,zC]);go_simp;refine hK.out _ _ trivial ?_;clear hK K;(try simp only[zQ]);refine zp 13 fun K hK=>?_;(try simp only[zA,zB,zC]);go_simp;refine hK.out _ _ trivial ?_;clear hK K;(try simp only[zQ]);refine zd ?_;refine NoPanic.normal ?_;clear p0 p1 qR qQ q0 q1 g0 g1 g0' g1'
     go_wp2_with fail;go_ret;refine⟨by rw[qH.out];rfl,P,?_,rfl⟩;rw[qH.out];exact⟨aV.out.st.after az.out.drew HS.out.rws,aV.out.wf⟩
    ·have HN:=zh (show R=(12,S) by rw[HR3.out,if_neg hr2]);obtain⟨A5,c5,hcj,uR,hrj⟩:=iL.out.items fT;have w5:w4.cell? ⟨P.cb jd,0,none⟩=some (.slice A5 (S.cell jd).length c5):=by rw[<-hcj];exact zc (iL.out.cbox fT) rfl
     obtain⟨m2,hm2⟩:∃ m,(S.cell jd).length=m:=⟨_,rfl⟩
     rw[hm2] at w5 hr2;clear HR3 hcj uR hrj hm2;by_cases hneg:jv<0
     ·go_wp2_with fail;go_ret;exact⟨by rw[HN.out];rfl,P,by rw[HN.out];exact SStp.refl HS.out az.out,rfl⟩
     ·have hge:(m2:Int)<=jv:=by omega
      go_wp2_with fail;go_ret;exact⟨by rw[HN.out];rfl,P,by rw[HN.out];exact SStp.refl HS.out az.out,rfl⟩
   ·skip
    have HN:=zh (show R=(12,S) by rw[HR2.out,if_neg hr]);obtain⟨A3,c3,hci,hc3,aL⟩:=HS2.out.items ay;have w0:w3.cell? ⟨P.cb id,0,none⟩=some (.slice A3 (S.cell id).length c3):=by rw[<-hci];exact zc (HS2.out.cbox ay) rfl
    obtain⟨m,hm⟩:∃ m,(S.cell id).length=m:=⟨_,rfl⟩
    rw[hm] at w0 hr;clear HR2 hci hc3 aL hm;by_cases hneg:iv<0
    ·go_wp2_with fail;go_ret;exact⟨by rw[HN.out];rfl,P,by rw[HN.out];exact SStp.refl HS.out HB3.out,rfl⟩
    ·have hge:(m:Int)<=iv:=by omega
     go_wp2_with fail;go_ret;exact⟨by rw[HN.out];rfl,P,by rw[HN.out];exact SStp.refl HS.out HB3.out,rfl⟩
  ·skip
   have HN:=zh (show R=(je,S) by rw[HR1.out,zmz,if_pos bA]);have e1:(je==0)=false:=by simpa using bA
   have e2:(je != 0)=true:=by simpa using bA
   clear bA;go_wp2_with fail;go_ret;exact⟨by rw[HN.out];rfl,P,by rw[HN.out];exact SStp.refl HS.out HB2.out,rfl⟩
 ·skip
  have HN:=zh (show R=(ie,S) by rw[mJ.out,zla,if_pos he]);have e1:(ie==0)=false:=by simpa using he
  have e2:(ie != 0)=true:=by simpa using he
  clear he;go_wp2_with fail;go_ret;exact⟨by rw[HN.out];rfl,P,by rw[HN.out];exact SStp.refl HS.out HB1.out,rfl⟩
end Go.Proofs.YtckhofdinldhpaaGreat
namespace Go.Proofs.YtckhofdinldhpaaGreat
open Go.RowKit
def zlF (t:T):Prop:=∀ (v:Value) (w:World),NV w Any t v->Calls Tryz.prog 56 #[v] w fun e w'=>e=.returned (.bool (isS t))/\Below w.heap.size w w'
def zk4 (t:T):Prop:=∀ (v:Value) (w:World),NV w Any t v->Calls Tryz.prog 91 #[v] w fun e w'=>e=.returned (.bool (isB t))/\Below w.heap.size w w'
theorem zsl (n:Int) (s:ByteArray) (ks:List T) (aF:∀ t∈ks,zk4 t):zlF (.nd 40 n s ks):=by
 intro v w hv;have HX:=zh (show isS (.nd 40 n s ks)=(zkm n s&&zkx 2 (fun i=>if i=0 then isP else isE) ks) by simp[isS]);have IH:=zh aF;have HV:=zh hv;obtain⟨Ad,c,rfl,hf,hlk,hlc,hrow⟩:=hv.open_;simp only[T.k_nd,T.n_nd,T.s_nd,T.ks_nd] at *
 have av:=zkA hlk;clear hf hv hlk hrow hlc aF;by_cases hnb:zkm n s=true
 ·go_enter Tryz.func56,Tryz.ntmps56;go_wp2_with fail;refine(zkk _ _ _ _ _ _ _).mono ?_;rintro e w1 ⟨rfl,hb1⟩;obtain⟨hc1,hf1⟩:=zlb hb1;have hbb:Below w.heap.size w w1:=((Below.refl _ _).alloc (Nat.le_refl _) _).trans (hb1.mono (by simp));go_wp2_with fail;refine(zkF (.nd 40 n s ks) _ _ (HV.out.later (hbb.alloc hbb.size _)) _ 2 (fun i=>if i=0 then 101 else 102) (fun i=>if i=0 then Tryz.f101 else Tryz.f102) (fun i=>if i=0 then isP else isE) (by decide) (by simp) (fun i hi=>zlT (by rcases i with _|_|_|_|i<;>first|omega|rfl)) (fun i hi=>by rcases i with _|i;exact zkS;exact zkR) (fun hl i hi=>by rcases i with _|i;exact zkD _;exact zkB _)).mono ?_;rintro e w2 ⟨rfl,hb2⟩;have hbc:Below w.heap.size w w2:=(hbb.alloc hbb.size _).trans (hb2.mono (by have:=hbb.size;simp;omega));go_wp2_with fail;go_ret;exact⟨by rw[HX.out];simp[*],hbc⟩
 ·have hnb':zkm n s=false:=by simpa using hnb
  clear hnb;go_enter Tryz.func56,Tryz.ntmps56;go_wp2_with fail;refine(zkk _ _ _ _ _ _ _).mono ?_;rintro e w1 ⟨rfl,hb1⟩;have hbb:Below w.heap.size w w1:=((Below.refl _ _).alloc (Nat.le_refl _) _).trans (hb1.mono (by simp));go_wp2_with fail;go_ret;exact⟨by rw[HX.out];simp[*],hbb⟩
theorem zsk (n:Int) (s:ByteArray) (ks:List T) (aF:∀ t∈ks,zk4 t):zlF (.nd 41 n s ks):=by
 intro v w hv;have HX:=zh (show isS (.nd 41 n s ks)=(zkm n s&&zkx 2 (fun i=>if i=0 then isP else isE) ks) by simp[isS]);have IH:=zh aF;have HV:=zh hv;obtain⟨Ad,c,rfl,hf,hlk,hlc,hrow⟩:=hv.open_;simp only[T.k_nd,T.n_nd,T.s_nd,T.ks_nd] at *
 have av:=zkA hlk;clear hf hv hlk hrow hlc aF;by_cases hnb:zkm n s=true
 ·go_enter Tryz.func56,Tryz.ntmps56;go_wp2_with fail;refine(zkk _ _ _ _ _ _ _).mono ?_;rintro e w1 ⟨rfl,hb1⟩;obtain⟨hc1,hf1⟩:=zlb hb1;have hbb:Below w.heap.size w w1:=((Below.refl _ _).alloc (Nat.le_refl _) _).trans (hb1.mono (by simp));go_wp2_with fail;refine(zkF (.nd 41 n s ks) _ _ (HV.out.later (hbb.alloc hbb.size _)) _ 2 (fun i=>if i=0 then 101 else 102) (fun i=>if i=0 then Tryz.f101 else Tryz.f102) (fun i=>if i=0 then isP else isE) (by decide) (by simp) (fun i hi=>zlT (by rcases i with _|_|_|_|i<;>first|omega|rfl)) (fun i hi=>by rcases i with _|i;exact zkS;exact zkR) (fun hl i hi=>by rcases i with _|i;exact zkD _;exact zkB _)).mono ?_;rintro e w2 ⟨rfl,hb2⟩;have hbc:Below w.heap.size w w2:=(hbb.alloc hbb.size _).trans (hb2.mono (by have:=hbb.size;simp;omega));go_wp2_with fail;go_ret;exact⟨by rw[HX.out];simp[*],hbc⟩
 ·have hnb':zkm n s=false:=by simpa using hnb
  clear hnb;go_enter Tryz.func56,Tryz.ntmps56;go_wp2_with fail;refine(zkk _ _ _ _ _ _ _).mono ?_;rintro e w1 ⟨rfl,hb1⟩;have hbb:Below w.heap.size w w1:=((Below.refl _ _).alloc (Nat.le_refl _) _).trans (hb1.mono (by simp));go_wp2_with fail;go_ret;exact⟨by rw[HX.out];simp[*],hbb⟩
theorem zsj (n:Int) (s:ByteArray) (ks:List T) (aF:∀ t∈ks,zk4 t):zlF (.nd 42 n s ks):=by
 intro v w hv;have HX:=zh (show isS (.nd 42 n s ks)=(zkm n s&&zkx 2 (fun i=>if i=0 then isP else isE) ks) by simp[isS]);have IH:=zh aF;have HV:=zh hv;obtain⟨Ad,c,rfl,hf,hlk,hlc,hrow⟩:=hv.open_;simp only[T.k_nd,T.n_nd,T.s_nd,T.ks_nd] at *
 have av:=zkA hlk;clear hf hv hlk hrow hlc aF;by_cases hnb:zkm n s=true
 ·go_enter Tryz.func56,Tryz.ntmps56;go_wp2_with fail;refine(zkk _ _ _ _ _ _ _).mono ?_;rintro e w1 ⟨rfl,hb1⟩;obtain⟨hc1,hf1⟩:=zlb hb1;have hbb:Below w.heap.size w w1:=((Below.refl _ _).alloc (Nat.le_refl _) _).trans (hb1.mono (by simp));go_wp2_with fail;refine(zkF (.nd 42 n s ks) _ _ (HV.out.later (hbb.alloc hbb.size _)) _ 2 (fun i=>if i=0 then 101 else 102) (fun i=>if i=0 then Tryz.f101 else Tryz.f102) (fun i=>if i=0 then isP else isE) (by decide) (by simp) (fun i hi=>zlT (by rcases i with _|_|_|_|i<;>first|omega|rfl)) (fun i hi=>by rcases i with _|i;exact zkS;exact zkR) (fun hl i hi=>by rcases i with _|i;exact zkD _;exact zkB _)).mono ?_;rintro e w2 ⟨rfl,hb2⟩;have hbc:Below w.heap.size w w2:=(hbb.alloc hbb.size _).trans (hb2.mono (by have:=hbb.size;simp;omega));go_wp2_with fail;go_ret;exact⟨by rw[HX.out];simp[*],hbc⟩
 ·have hnb':zkm n s=false:=by simpa using hnb
  clear hnb;go_enter Tryz.func56,Tryz.ntmps56;go_wp2_with fail;refine(zkk _ _ _ _ _ _ _).mono ?_;rintro e w1 ⟨rfl,hb1⟩;have hbb:Below w.heap.size w w1:=((Below.refl _ _).alloc (Nat.le_refl _) _).trans (hb1.mono (by simp));go_wp2_with fail;go_ret;exact⟨by rw[HX.out];simp[*],hbb⟩
theorem zr5 (n:Int) (s:ByteArray) (ks:List T) (aF:∀ t∈ks,zk4 t):zlF (.nd 56 n s ks):=by
 intro v w hv;have HX:=zh (show isS (.nd 56 n s ks)=(zkm n s&&zkx 2 (fun i=>if i=0 then isP else isE) ks) by simp[isS]);have IH:=zh aF;have HV:=zh hv;obtain⟨Ad,c,rfl,hf,hlk,hlc,hrow⟩:=hv.open_;simp only[T.k_nd,T.n_nd,T.s_nd,T.ks_nd] at *
 have av:=zkA hlk;clear hf hv hlk hrow hlc aF;by_cases hnb:zkm n s=true
 ·go_enter Tryz.func56,Tryz.ntmps56;go_wp2_with fail;refine(zkk _ _ _ _ _ _ _).mono ?_;rintro e w1 ⟨rfl,hb1⟩;obtain⟨hc1,hf1⟩:=zlb hb1;have hbb:Below w.heap.size w w1:=((Below.refl _ _).alloc (Nat.le_refl _) _).trans (hb1.mono (by simp));go_wp2_with fail;refine(zkF (.nd 56 n s ks) _ _ (HV.out.later (hbb.alloc hbb.size _)) _ 2 (fun i=>if i=0 then 101 else 102) (fun i=>if i=0 then Tryz.f101 else Tryz.f102) (fun i=>if i=0 then isP else isE) (by decide) (by simp) (fun i hi=>zlT (by rcases i with _|_|_|_|i<;>first|omega|rfl)) (fun i hi=>by rcases i with _|i;exact zkS;exact zkR) (fun hl i hi=>by rcases i with _|i;exact zkD _;exact zkB _)).mono ?_;rintro e w2 ⟨rfl,hb2⟩;have hbc:Below w.heap.size w w2:=(hbb.alloc hbb.size _).trans (hb2.mono (by have:=hbb.size;simp;omega));go_wp2_with fail;go_ret;exact⟨by rw[HX.out];simp[*],hbc⟩
 ·have hnb':zkm n s=false:=by simpa using hnb
  clear hnb;go_enter Tryz.func56,Tryz.ntmps56;go_wp2_with fail;refine(zkk _ _ _ _ _ _ _).mono ?_;rintro e w1 ⟨rfl,hb1⟩;have hbb:Below w.heap.size w w1:=((Below.refl _ _).alloc (Nat.le_refl _) _).trans (hb1.mono (by simp));go_wp2_with fail;go_ret;exact⟨by rw[HX.out];simp[*],hbb⟩
theorem zsi (n:Int) (s:ByteArray) (ks:List T) (aF:∀ t∈ks,zk4 t):zlF (.nd 43 n s ks):=by
 intro v w hv;have HX:=zh (show isS (.nd 43 n s ks)=(zkm n s&&zkx 2 (fun _=>isP) ks) by simp[isS]);have IH:=zh aF;have HV:=zh hv;obtain⟨Ad,c,rfl,hf,hlk,hlc,hrow⟩:=hv.open_;simp only[T.k_nd,T.n_nd,T.s_nd,T.ks_nd] at *
 have av:=zkA hlk;clear hf hv hlk hrow hlc aF;by_cases hnb:zkm n s=true
 ·go_enter Tryz.func56,Tryz.ntmps56;go_wp2_with fail;refine(zkk _ _ _ _ _ _ _).mono ?_;rintro e w1 ⟨rfl,hb1⟩;obtain⟨hc1,hf1⟩:=zlb hb1;have hbb:Below w.heap.size w w1:=((Below.refl _ _).alloc (Nat.le_refl _) _).trans (hb1.mono (by simp));go_wp2_with fail;refine(zkF (.nd 43 n s ks) _ _ (HV.out.later (hbb.alloc hbb.size _)) _ 2 (fun _=>101) (fun _=>Tryz.f101) (fun _=>isP) (by decide) (by simp) (fun i hi=>zlT (by rcases i with _|_|_|_|i<;>first|omega|rfl)) (fun _ _=>zkS) (fun hl i hi=>zkD _)).mono ?_;rintro e w2 ⟨rfl,hb2⟩;have hbc:Below w.heap.size w w2:=(hbb.alloc hbb.size _).trans (hb2.mono (by have:=hbb.size;simp;omega));go_wp2_with fail;go_ret;exact⟨by rw[HX.out];simp[*],hbc⟩
 ·have hnb':zkm n s=false:=by simpa using hnb
  clear hnb;go_enter Tryz.func56,Tryz.ntmps56;go_wp2_with fail;refine(zkk _ _ _ _ _ _ _).mono ?_;rintro e w1 ⟨rfl,hb1⟩;have hbb:Below w.heap.size w w1:=((Below.refl _ _).alloc (Nat.le_refl _) _).trans (hb1.mono (by simp));go_wp2_with fail;go_ret;exact⟨by rw[HX.out];simp[*],hbb⟩
theorem zsh (n:Int) (s:ByteArray) (ks:List T) (aF:∀ t∈ks,zk4 t):zlF (.nd 44 n s ks):=by
 intro v w hv;have HX:=zh (show isS (.nd 44 n s ks)=(zku n s&&zkx 1 (fun _=>isP) ks) by simp[isS]);have IH:=zh aF;have HV:=zh hv;obtain⟨Ad,c,rfl,hf,hlk,hlc,hrow⟩:=hv.open_;simp only[T.k_nd,T.n_nd,T.s_nd,T.ks_nd] at *
 have av:=zkA hlk;clear hf hv hlk hrow hlc aF;by_cases hnb:zku n s=true
 ·go_enter Tryz.func56,Tryz.ntmps56;go_wp2_with fail;refine(zkp _ _ _ _ _ _ _).mono ?_;rintro e w1 ⟨rfl,hb1⟩;obtain⟨hc1,hf1⟩:=zlb hb1;have hbb:Below w.heap.size w w1:=((Below.refl _ _).alloc (Nat.le_refl _) _).trans (hb1.mono (by simp));go_wp2_with fail;refine(zkF (.nd 44 n s ks) _ _ (HV.out.later (hbb.alloc hbb.size _)) _ 1 (fun _=>101) (fun _=>Tryz.f101) (fun _=>isP) (by decide) (by simp) (fun i hi=>zlT (by rcases i with _|_|_|_|i<;>first|omega|rfl)) (fun _ _=>zkS) (fun hl i hi=>zkD _)).mono ?_;rintro e w2 ⟨rfl,hb2⟩;have hbc:Below w.heap.size w w2:=(hbb.alloc hbb.size _).trans (hb2.mono (by have:=hbb.size;simp;omega));go_wp2_with fail;go_ret;exact⟨by rw[HX.out];simp[*],hbc⟩
 ·have hnb':zku n s=false:=by simpa using hnb
  clear hnb;go_enter Tryz.func56,Tryz.ntmps56;go_wp2_with fail;refine(zkp _ _ _ _ _ _ _).mono ?_;rintro e w1 ⟨rfl,hb1⟩;have hbb:Below w.heap.size w w1:=((Below.refl _ _).alloc (Nat.le_refl _) _).trans (hb1.mono (by simp));go_wp2_with fail;go_ret;exact⟨by rw[HX.out];simp[*],hbb⟩
theorem zsg (n:Int) (s:ByteArray) (ks:List T) (aF:∀ t∈ks,zk4 t):zlF (.nd 45 n s ks):=by
 intro v w hv;have HX:=zh (show isS (.nd 45 n s ks)=(zku n s&&zkx 1 (fun _=>isP) ks) by simp[isS]);have IH:=zh aF;have HV:=zh hv;obtain⟨Ad,c,rfl,hf,hlk,hlc,hrow⟩:=hv.open_;simp only[T.k_nd,T.n_nd,T.s_nd,T.ks_nd] at *
 have av:=zkA hlk;clear hf hv hlk hrow hlc aF;by_cases hnb:zku n s=true
 ·go_enter Tryz.func56,Tryz.ntmps56;go_wp2_with fail;refine(zkp _ _ _ _ _ _ _).mono ?_;rintro e w1 ⟨rfl,hb1⟩;obtain⟨hc1,hf1⟩:=zlb hb1;have hbb:Below w.heap.size w w1:=((Below.refl _ _).alloc (Nat.le_refl _) _).trans (hb1.mono (by simp));go_wp2_with fail;refine(zkF (.nd 45 n s ks) _ _ (HV.out.later (hbb.alloc hbb.size _)) _ 1 (fun _=>101) (fun _=>Tryz.f101) (fun _=>isP) (by decide) (by simp) (fun i hi=>zlT (by rcases i with _|_|_|_|i<;>first|omega|rfl)) (fun _ _=>zkS) (fun hl i hi=>zkD _)).mono ?_;rintro e w2 ⟨rfl,hb2⟩;have hbc:Below w.heap.size w w2:=(hbb.alloc hbb.size _).trans (hb2.mono (by have:=hbb.size;simp;omega));go_wp2_with fail;go_ret;exact⟨by rw[HX.out];simp[*],hbc⟩
 ·have hnb':zku n s=false:=by simpa using hnb
  clear hnb;go_enter Tryz.func56,Tryz.ntmps56;go_wp2_with fail;refine(zkp _ _ _ _ _ _ _).mono ?_;rintro e w1 ⟨rfl,hb1⟩;have hbb:Below w.heap.size w w1:=((Below.refl _ _).alloc (Nat.le_refl _) _).trans (hb1.mono (by simp));go_wp2_with fail;go_ret;exact⟨by rw[HX.out];simp[*],hbb⟩
theorem zsf (n:Int) (s:ByteArray) (ks:List T) (aF:∀ t∈ks,zk4 t):zlF (.nd 46 n s ks):=by
 intro v w hv;have HX:=zh (show isS (.nd 46 n s ks)=(zkm n s&&zkx 1 (fun _=>isP) ks) by simp[isS]);have IH:=zh aF;have HV:=zh hv;obtain⟨Ad,c,rfl,hf,hlk,hlc,hrow⟩:=hv.open_;simp only[T.k_nd,T.n_nd,T.s_nd,T.ks_nd] at *
 have av:=zkA hlk;clear hf hv hlk hrow hlc aF;by_cases hnb:zkm n s=true
 ·go_enter Tryz.func56,Tryz.ntmps56;go_wp2_with fail;refine(zkk _ _ _ _ _ _ _).mono ?_;rintro e w1 ⟨rfl,hb1⟩;obtain⟨hc1,hf1⟩:=zlb hb1;have hbb:Below w.heap.size w w1:=((Below.refl _ _).alloc (Nat.le_refl _) _).trans (hb1.mono (by simp));go_wp2_with fail;refine(zkF (.nd 46 n s ks) _ _ (HV.out.later (hbb.alloc hbb.size _)) _ 1 (fun _=>101) (fun _=>Tryz.f101) (fun _=>isP) (by decide) (by simp) (fun i hi=>zlT (by rcases i with _|_|_|_|i<;>first|omega|rfl)) (fun _ _=>zkS) (fun hl i hi=>zkD _)).mono ?_;rintro e w2 ⟨rfl,hb2⟩;have hbc:Below w.heap.size w w2:=(hbb.alloc hbb.size _).trans (hb2.mono (by have:=hbb.size;simp;omega));go_wp2_with fail;go_ret;exact⟨by rw[HX.out];simp[*],hbc⟩
 ·have hnb':zkm n s=false:=by simpa using hnb
  clear hnb;go_enter Tryz.func56,Tryz.ntmps56;go_wp2_with fail;refine(zkk _ _ _ _ _ _ _).mono ?_;rintro e w1 ⟨rfl,hb1⟩;have hbb:Below w.heap.size w w1:=((Below.refl _ _).alloc (Nat.le_refl _) _).trans (hb1.mono (by simp));go_wp2_with fail;go_ret;exact⟨by rw[HX.out];simp[*],hbb⟩
theorem zse (n:Int) (s:ByteArray) (ks:List T) (aF:∀ t∈ks,zk4 t):zlF (.nd 47 n s ks):=by
 intro v w hv;have HX:=zh (show isS (.nd 47 n s ks)=(zkm n s&&zkx 1 (fun _=>isP) ks) by simp[isS]);have IH:=zh aF;have HV:=zh hv;obtain⟨Ad,c,rfl,hf,hlk,hlc,hrow⟩:=hv.open_;simp only[T.k_nd,T.n_nd,T.s_nd,T.ks_nd] at *
 have av:=zkA hlk;clear hf hv hlk hrow hlc aF;by_cases hnb:zkm n s=true
 ·go_enter Tryz.func56,Tryz.ntmps56;go_wp2_with fail;refine(zkk _ _ _ _ _ _ _).mono ?_;rintro e w1 ⟨rfl,hb1⟩;obtain⟨hc1,hf1⟩:=zlb hb1;have hbb:Below w.heap.size w w1:=((Below.refl _ _).alloc (Nat.le_refl _) _).trans (hb1.mono (by simp));go_wp2_with fail;refine(zkF (.nd 47 n s ks) _ _ (HV.out.later (hbb.alloc hbb.size _)) _ 1 (fun _=>101) (fun _=>Tryz.f101) (fun _=>isP) (by decide) (by simp) (fun i hi=>zlT (by rcases i with _|_|_|_|i<;>first|omega|rfl)) (fun _ _=>zkS) (fun hl i hi=>zkD _)).mono ?_;rintro e w2 ⟨rfl,hb2⟩;have hbc:Below w.heap.size w w2:=(hbb.alloc hbb.size _).trans (hb2.mono (by have:=hbb.size;simp;omega));go_wp2_with fail;go_ret;exact⟨by rw[HX.out];simp[*],hbc⟩
 ·have hnb':zkm n s=false:=by simpa using hnb
  clear hnb;go_enter Tryz.func56,Tryz.ntmps56;go_wp2_with fail;refine(zkk _ _ _ _ _ _ _).mono ?_;rintro e w1 ⟨rfl,hb1⟩;have hbb:Below w.heap.size w w1:=((Below.refl _ _).alloc (Nat.le_refl _) _).trans (hb1.mono (by simp));go_wp2_with fail;go_ret;exact⟨by rw[HX.out];simp[*],hbb⟩
theorem zsd (n:Int) (s:ByteArray) (ks:List T) (aF:∀ t∈ks,zk4 t):zlF (.nd 48 n s ks):=by
 intro v w hv;have HX:=zh (show isS (.nd 48 n s ks)=(zkm n s&&zkx 1 (fun _=>isP) ks) by simp[isS]);have IH:=zh aF;have HV:=zh hv;obtain⟨Ad,c,rfl,hf,hlk,hlc,hrow⟩:=hv.open_;simp only[T.k_nd,T.n_nd,T.s_nd,T.ks_nd] at *
 have av:=zkA hlk;clear hf hv hlk hrow hlc aF;by_cases hnb:zkm n s=true
 ·go_enter Tryz.func56,Tryz.ntmps56;go_wp2_with fail;refine(zkk _ _ _ _ _ _ _).mono ?_;rintro e w1 ⟨rfl,hb1⟩;obtain⟨hc1,hf1⟩:=zlb hb1;have hbb:Below w.heap.size w w1:=((Below.refl _ _).alloc (Nat.le_refl _) _).trans (hb1.mono (by simp));go_wp2_with fail;refine(zkF (.nd 48 n s ks) _ _ (HV.out.later (hbb.alloc hbb.size _)) _ 1 (fun _=>101) (fun _=>Tryz.f101) (fun _=>isP) (by decide) (by simp) (fun i hi=>zlT (by rcases i with _|_|_|_|i<;>first|omega|rfl)) (fun _ _=>zkS) (fun hl i hi=>zkD _)).mono ?_;rintro e w2 ⟨rfl,hb2⟩;have hbc:Below w.heap.size w w2:=(hbb.alloc hbb.size _).trans (hb2.mono (by have:=hbb.size;simp;omega));go_wp2_with fail;go_ret;exact⟨by rw[HX.out];simp[*],hbc⟩
 ·have hnb':zkm n s=false:=by simpa using hnb
  clear hnb;go_enter Tryz.func56,Tryz.ntmps56;go_wp2_with fail;refine(zkk _ _ _ _ _ _ _).mono ?_;rintro e w1 ⟨rfl,hb1⟩;have hbb:Below w.heap.size w w1:=((Below.refl _ _).alloc (Nat.le_refl _) _).trans (hb1.mono (by simp));go_wp2_with fail;go_ret;exact⟨by rw[HX.out];simp[*],hbb⟩
theorem zsc (n:Int) (s:ByteArray) (ks:List T) (aF:∀ t∈ks,zk4 t):zlF (.nd 49 n s ks):=by
 intro v w hv;have HX:=zh (show isS (.nd 49 n s ks)=(zkm n s&&zkx 1 (fun _=>isP) ks) by simp[isS]);have IH:=zh aF;have HV:=zh hv;obtain⟨Ad,c,rfl,hf,hlk,hlc,hrow⟩:=hv.open_;simp only[T.k_nd,T.n_nd,T.s_nd,T.ks_nd] at *
 have av:=zkA hlk;clear hf hv hlk hrow hlc aF;by_cases hnb:zkm n s=true
 ·go_enter Tryz.func56,Tryz.ntmps56;go_wp2_with fail;refine(zkk _ _ _ _ _ _ _).mono ?_;rintro e w1 ⟨rfl,hb1⟩;obtain⟨hc1,hf1⟩:=zlb hb1;have hbb:Below w.heap.size w w1:=((Below.refl _ _).alloc (Nat.le_refl _) _).trans (hb1.mono (by simp));go_wp2_with fail;refine(zkF (.nd 49 n s ks) _ _ (HV.out.later (hbb.alloc hbb.size _)) _ 1 (fun _=>101) (fun _=>Tryz.f101) (fun _=>isP) (by decide) (by simp) (fun i hi=>zlT (by rcases i with _|_|_|_|i<;>first|omega|rfl)) (fun _ _=>zkS) (fun hl i hi=>zkD _)).mono ?_;rintro e w2 ⟨rfl,hb2⟩;have hbc:Below w.heap.size w w2:=(hbb.alloc hbb.size _).trans (hb2.mono (by have:=hbb.size;simp;omega));go_wp2_with fail;go_ret;exact⟨by rw[HX.out];simp[*],hbc⟩
 ·have hnb':zkm n s=false:=by simpa using hnb
  clear hnb;go_enter Tryz.func56,Tryz.ntmps56;go_wp2_with fail;refine(zkk _ _ _ _ _ _ _).mono ?_;rintro e w1 ⟨rfl,hb1⟩;have hbb:Below w.heap.size w w1:=((Below.refl _ _).alloc (Nat.le_refl _) _).trans (hb1.mono (by simp));go_wp2_with fail;go_ret;exact⟨by rw[HX.out];simp[*],hbb⟩
theorem zr9 (n:Int) (s:ByteArray) (ks:List T) (aF:∀ t∈ks,zk4 t):zlF (.nd 52 n s ks):=by
 intro v w hv;have HX:=zh (show isS (.nd 52 n s ks)=(zkm n s&&zkx 4 (pEB 0) ks) by simp[isS,zkx,<-zmW]);have IH:=zh aF;have HV:=zh hv;obtain⟨Ad,c,rfl,hf,hlk,hlc,hrow⟩:=hv.open_;simp only[T.k_nd,T.n_nd,T.s_nd,T.ks_nd] at *
 have av:=zkA hlk;clear hf hv hlk hrow hlc aF;by_cases hnb:zkm n s=true
 ·go_enter Tryz.func56,Tryz.ntmps56;go_wp2_with fail;refine(zkk _ _ _ _ _ _ _).mono ?_;rintro e w1 ⟨rfl,hb1⟩;obtain⟨hc1,hf1⟩:=zlb hb1;have hbb:Below w.heap.size w w1:=((Below.refl _ _).alloc (Nat.le_refl _) _).trans (hb1.mono (by simp));go_wp2_with fail;refine(zkF (.nd 52 n s ks) _ _ (HV.out.later (hbb.alloc hbb.size _)) _ 4 (fun i=>if i=0\/i=3 then 102 else 91) (fun i=>if i=0\/i=3 then Tryz.f102 else Tryz.f91) (pEB 0) (by decide) (by simp) (fun i hi=>zlT (by rcases i with _|_|_|_|i<;>first|omega|rfl)) (fun i hi=>by rcases i with _|_|_|_|i;exact zkR;exact zlP;exact zlP;exact zkR;omega) (fun hl i hi=>by rcases i with _|_|_|_|i;exact zkB _;exact IH.out _ (List.getElem_mem hi);exact IH.out _ (List.getElem_mem hi);exact zkB _;exact absurd hi (by simp only[T.ks_nd] at hl ⊢;omega))).mono ?_;rintro e w2 ⟨rfl,hb2⟩
  have hbc:Below w.heap.size w w2:=(hbb.alloc hbb.size _).trans (hb2.mono (by have:=hbb.size;simp;omega));go_wp2_with fail;go_ret;exact⟨by rw[HX.out];simp[*],hbc⟩
 ·have hnb':zkm n s=false:=by simpa using hnb
  clear hnb;go_enter Tryz.func56,Tryz.ntmps56;go_wp2_with fail;refine(zkk _ _ _ _ _ _ _).mono ?_;rintro e w1 ⟨rfl,hb1⟩;have hbb:Below w.heap.size w w1:=((Below.refl _ _).alloc (Nat.le_refl _) _).trans (hb1.mono (by simp));go_wp2_with fail;go_ret;exact⟨by rw[HX.out];simp[*],hbb⟩
theorem zr8 (n:Int) (s:ByteArray) (ks:List T) (aF:∀ t∈ks,zk4 t):zlF (.nd 53 n s ks):=by
 intro v w hv;have HX:=zh (show isS (.nd 53 n s ks)=(zkm n s&&zkx 4 (pEB 0) ks) by simp[isS,zkx,<-zmW]);have IH:=zh aF;have HV:=zh hv;obtain⟨Ad,c,rfl,hf,hlk,hlc,hrow⟩:=hv.open_;simp only[T.k_nd,T.n_nd,T.s_nd,T.ks_nd] at *
 have av:=zkA hlk;clear hf hv hlk hrow hlc aF;by_cases hnb:zkm n s=true
 ·go_enter Tryz.func56,Tryz.ntmps56;go_wp2_with fail;refine(zkk _ _ _ _ _ _ _).mono ?_;rintro e w1 ⟨rfl,hb1⟩;obtain⟨hc1,hf1⟩:=zlb hb1;have hbb:Below w.heap.size w w1:=((Below.refl _ _).alloc (Nat.le_refl _) _).trans (hb1.mono (by simp));go_wp2_with fail;refine(zkF (.nd 53 n s ks) _ _ (HV.out.later (hbb.alloc hbb.size _)) _ 4 (fun i=>if i=0\/i=3 then 102 else 91) (fun i=>if i=0\/i=3 then Tryz.f102 else Tryz.f91) (pEB 0) (by decide) (by simp) (fun i hi=>zlT (by rcases i with _|_|_|_|i<;>first|omega|rfl)) (fun i hi=>by rcases i with _|_|_|_|i;exact zkR;exact zlP;exact zlP;exact zkR;omega) (fun hl i hi=>by rcases i with _|_|_|_|i;exact zkB _;exact IH.out _ (List.getElem_mem hi);exact IH.out _ (List.getElem_mem hi);exact zkB _;exact absurd hi (by simp only[T.ks_nd] at hl ⊢;omega))).mono ?_;rintro e w2 ⟨rfl,hb2⟩
  have hbc:Below w.heap.size w w2:=(hbb.alloc hbb.size _).trans (hb2.mono (by have:=hbb.size;simp;omega));go_wp2_with fail;go_ret;exact⟨by rw[HX.out];simp[*],hbc⟩
 ·have hnb':zkm n s=false:=by simpa using hnb
  clear hnb;go_enter Tryz.func56,Tryz.ntmps56;go_wp2_with fail;refine(zkk _ _ _ _ _ _ _).mono ?_;rintro e w1 ⟨rfl,hb1⟩;have hbb:Below w.heap.size w w1:=((Below.refl _ _).alloc (Nat.le_refl _) _).trans (hb1.mono (by simp));go_wp2_with fail;go_ret;exact⟨by rw[HX.out];simp[*],hbb⟩
theorem zr7 (n:Int) (s:ByteArray) (ks:List T) (aF:∀ t∈ks,zk4 t):zlF (.nd 54 n s ks):=by
 intro v w hv;have HX:=zh (show isS (.nd 54 n s ks)=(zku n s&&zkx 3 (pEB 4) ks) by simp[isS,zkx,<-zmW]);have IH:=zh aF;have HV:=zh hv;obtain⟨Ad,c,rfl,hf,hlk,hlc,hrow⟩:=hv.open_;simp only[T.k_nd,T.n_nd,T.s_nd,T.ks_nd] at *
 have av:=zkA hlk;clear hf hv hlk hrow hlc aF;by_cases hnb:zku n s=true
 ·go_enter Tryz.func56,Tryz.ntmps56;go_wp2_with fail;refine(zkp _ _ _ _ _ _ _).mono ?_;rintro e w1 ⟨rfl,hb1⟩;obtain⟨hc1,hf1⟩:=zlb hb1;have hbb:Below w.heap.size w w1:=((Below.refl _ _).alloc (Nat.le_refl _) _).trans (hb1.mono (by simp));go_wp2_with fail;refine(zkF (.nd 54 n s ks) _ _ (HV.out.later (hbb.alloc hbb.size _)) _ 3 (fun i=>if i=1 then 91 else 102) (fun i=>if i=1 then Tryz.f91 else Tryz.f102) (pEB 4) (by decide) (by simp) (fun i hi=>zlT (by rcases i with _|_|_|_|i<;>first|omega|rfl)) (fun i hi=>by rcases i with _|_|_|i;exact zkR;exact zlP;exact zkR;omega) (fun hl i hi=>by rcases i with _|_|_|i;exact zkB _;exact IH.out _ (List.getElem_mem hi);exact zkB _;exact absurd hi (by simp only[T.ks_nd] at hl ⊢;omega))).mono ?_;rintro e w2 ⟨rfl,hb2⟩
  have hbc:Below w.heap.size w w2:=(hbb.alloc hbb.size _).trans (hb2.mono (by have:=hbb.size;simp;omega));go_wp2_with fail;go_ret;exact⟨by rw[HX.out];simp[*],hbc⟩
 ·have hnb':zku n s=false:=by simpa using hnb
  clear hnb;go_enter Tryz.func56,Tryz.ntmps56;go_wp2_with fail;refine(zkp _ _ _ _ _ _ _).mono ?_;rintro e w1 ⟨rfl,hb1⟩;have hbb:Below w.heap.size w w1:=((Below.refl _ _).alloc (Nat.le_refl _) _).trans (hb1.mono (by simp));go_wp2_with fail;go_ret;exact⟨by rw[HX.out];simp[*],hbb⟩
theorem zr6 (n:Int) (s:ByteArray) (ks:List T) (aF:∀ t∈ks,zk4 t):zlF (.nd 55 n s ks):=by
 intro v w hv;have HX:=zh (show isS (.nd 55 n s ks)=(zku n s&&zkx 1 (pEB 7) ks) by simp[isS,zkx,<-zmW]);have IH:=zh aF;have HV:=zh hv;obtain⟨Ad,c,rfl,hf,hlk,hlc,hrow⟩:=hv.open_;simp only[T.k_nd,T.n_nd,T.s_nd,T.ks_nd] at *
 have av:=zkA hlk;clear hf hv hlk hrow hlc aF;by_cases hnb:zku n s=true
 ·go_enter Tryz.func56,Tryz.ntmps56;go_wp2_with fail;refine(zkp _ _ _ _ _ _ _).mono ?_;rintro e w1 ⟨rfl,hb1⟩;obtain⟨hc1,hf1⟩:=zlb hb1;have hbb:Below w.heap.size w w1:=((Below.refl _ _).alloc (Nat.le_refl _) _).trans (hb1.mono (by simp));go_wp2_with fail;refine(zkF (.nd 55 n s ks) _ _ (HV.out.later (hbb.alloc hbb.size _)) _ 1 (fun _=>91) (fun _=>Tryz.f91) (pEB 7) (by decide) (by simp) (fun i hi=>zlT (by rcases i with _|_|_|_|i<;>first|omega|rfl)) (fun _ _=>zlP) (fun hl i hi=>by rcases i with _|i;exact IH.out _ (List.getElem_mem hi);exact absurd hi (by simp only[T.ks_nd] at hl ⊢;omega))).mono ?_;rintro e w2 ⟨rfl,hb2⟩;have hbc:Below w.heap.size w w2:=(hbb.alloc hbb.size _).trans (hb2.mono (by have:=hbb.size;simp;omega));go_wp2_with fail;go_ret;exact⟨by rw[HX.out];simp[*],hbc⟩
 ·have hnb':zku n s=false:=by simpa using hnb
  clear hnb;go_enter Tryz.func56,Tryz.ntmps56;go_wp2_with fail;refine(zkp _ _ _ _ _ _ _).mono ?_;rintro e w1 ⟨rfl,hb1⟩;have hbb:Below w.heap.size w w1:=((Below.refl _ _).alloc (Nat.le_refl _) _).trans (hb1.mono (by simp));go_wp2_with fail;go_ret;exact⟨by rw[HX.out];simp[*],hbb⟩
theorem zsb (n:Int) (s:ByteArray) (ks:List T):zlF (.nd 50 n s ks):=by
 intro v w hv;have HX:=zh (show isS (.nd 50 n s ks)=(zku n s&&decide (ks.length<=8)&&zks (fun _=>isV) 0 ks) by simp[isS]);have HV:=zh hv;obtain⟨Ad,c,rfl,hf,hlk,hlc,hrow⟩:=hv.open_;simp only[T.k_nd,T.n_nd,T.s_nd,T.ks_nd] at *
 have av:=zkA hlk;clear hf hv hlc;by_cases hnb:zku n s=true
 ·by_cases uM:ks.length<=8
  ·go_enter Tryz.func56,Tryz.ntmps56;go_wp2_with fail;refine(zkp _ _ _ _ _ _ _).mono ?_;rintro e w1 ⟨rfl,hb1⟩;obtain⟨hc1,hf1⟩:=zlb hb1;have hbb:Below w.heap.size w w1:=((Below.refl _ _).alloc (Nat.le_refl _) _).trans (hb1.mono (by simp));go_wp2_with fail;refine(znF ks _ _ _ (hrow.later hbb) hlk _ _ zrE isV (fun i hi=>zoV _)).mono ?_;rintro e w2 ⟨rfl,hb2⟩;have hbc:Below w.heap.size w w2:=hbb.trans (hb2.mono hbb.size);go_wp2_with fail;go_ret;exact⟨by rw[HX.out];simp[*],hbc⟩
  ·have hl9:8<ks.length:=by omega
   clear uM;go_enter Tryz.func56,Tryz.ntmps56;go_wp2_with fail;refine(zkp _ _ _ _ _ _ _).mono ?_;rintro e w1 ⟨rfl,hb1⟩;obtain⟨hc1,hf1⟩:=zlb hb1;have hbb:Below w.heap.size w w1:=((Below.refl _ _).alloc (Nat.le_refl _) _).trans (hb1.mono (by simp));go_wp2_with fail;go_ret;exact⟨by rw[HX.out];simp[show ¬ ks.length<=8 by omega],hbb⟩
 ·have hnb':zku n s=false:=by simpa using hnb
  clear hnb;go_enter Tryz.func56,Tryz.ntmps56;go_wp2_with fail;refine(zkp _ _ _ _ _ _ _).mono ?_;rintro e w1 ⟨rfl,hb1⟩;have hbb:Below w.heap.size w w1:=((Below.refl _ _).alloc (Nat.le_refl _) _).trans (hb1.mono (by simp));go_wp2_with fail;go_ret;exact⟨by rw[HX.out];simp[*],hbb⟩
theorem zsa (n:Int) (s:ByteArray) (ks:List T):zlF (.nd 51 n s ks):=by
 intro v w hv;have HX:=zh (show isS (.nd 51 n s ks)=(zku n s&&decide (ks.length<=8)&&zks (fun _=>isV) 0 ks) by simp[isS]);have HV:=zh hv;obtain⟨Ad,c,rfl,hf,hlk,hlc,hrow⟩:=hv.open_;simp only[T.k_nd,T.n_nd,T.s_nd,T.ks_nd] at *
 have av:=zkA hlk;clear hf hv hlc;by_cases hnb:zku n s=true
 ·by_cases uM:ks.length<=8
  ·go_enter Tryz.func56,Tryz.ntmps56;go_wp2_with fail;refine(zkp _ _ _ _ _ _ _).mono ?_;rintro e w1 ⟨rfl,hb1⟩;obtain⟨hc1,hf1⟩:=zlb hb1;have hbb:Below w.heap.size w w1:=((Below.refl _ _).alloc (Nat.le_refl _) _).trans (hb1.mono (by simp));go_wp2_with fail;refine(znF ks _ _ _ (hrow.later hbb) hlk _ _ zrE isV (fun i hi=>zoV _)).mono ?_;rintro e w2 ⟨rfl,hb2⟩;have hbc:Below w.heap.size w w2:=hbb.trans (hb2.mono hbb.size);go_wp2_with fail;go_ret;exact⟨by rw[HX.out];simp[*],hbc⟩
  ·have hl9:8<ks.length:=by omega
   clear uM;go_enter Tryz.func56,Tryz.ntmps56;go_wp2_with fail;refine(zkp _ _ _ _ _ _ _).mono ?_;rintro e w1 ⟨rfl,hb1⟩;obtain⟨hc1,hf1⟩:=zlb hb1;have hbb:Below w.heap.size w w1:=((Below.refl _ _).alloc (Nat.le_refl _) _).trans (hb1.mono (by simp));go_wp2_with fail;go_ret;exact⟨by rw[HX.out];simp[show ¬ ks.length<=8 by omega],hbb⟩
 ·have hnb':zku n s=false:=by simpa using hnb
  clear hnb;go_enter Tryz.func56,Tryz.ntmps56;go_wp2_with fail;refine(zkp _ _ _ _ _ _ _).mono ?_;rintro e w1 ⟨rfl,hb1⟩;have hbb:Below w.heap.size w w1:=((Below.refl _ _).alloc (Nat.le_refl _) _).trans (hb1.mono (by simp));go_wp2_with fail;go_ret;exact⟨by rw[HX.out];simp[*],hbb⟩
theorem zqS (k n:Int) (s:ByteArray) (ks:List T) (n40:(k==40)=false) (n41:(k==41)=false) (n42:(k==42)=false) (n43:(k==43)=false) (n44:(k==44)=false) (n45:(k==45)=false) (n46:(k==46)=false) (n47:(k==47)=false) (n48:(k==48)=false) (n49:(k==49)=false) (n50:(k==50)=false) (n51:(k==51)=false) (n52:(k==52)=false) (n53:(k==53)=false) (n54:(k==54)=false) (n55:(k==55)=false) (n56:(k==56)=false):zlF (.nd k n s ks):=by
 intro v w hv;obtain⟨Ad,c,rfl,hf,hlk,hlc,hrow⟩:=hv.open_;simp only[T.k_nd,T.n_nd,T.s_nd,T.ks_nd] at *
 have av:=zkA hlk;have HX:=zh (show isS (.nd k n s ks)=false by
  simp only[beq_eq_false_iff_ne,ne_eq] at n40 n41 n42 n43 n44 n45 n46 n47 n48 n49 n50 n51 n52 n53 n54 n55 n56;rw[isS,if_neg (by omega),if_neg (by omega),if_neg (by omega),if_neg (by omega),if_neg (by omega),if_neg (by omega),if_neg (by omega),if_neg (by omega)])
 clear hf hv hlk hrow hlc;go_enter Tryz.func56,Tryz.ntmps56;go_wp2;go_ret;exact⟨by rw[HX.out];rfl,(Below.refl _ _).alloc (Nat.le_refl _) _⟩
theorem zqW (k n:Int) (s:ByteArray) (ks:List T) (ih:∀ t∈ks,zlF t):zk4 (.nd k n s ks):=by
 intro v w hv;have HX:=zh (show isB (.nd k n s ks)=((k==57)&&zkm n s&&zks (fun _=>isS) 0 ks) by rw[isB,zow 0];rfl);have IH:=zh ih;obtain⟨Ad,c,rfl,hf,hlk,hlc,hrow⟩:=hv.open_;simp only[T.k_nd,T.n_nd,T.s_nd,T.ks_nd] at *
 have av:=zkA hlk;clear hf hv hlc ih;by_cases hk:(k==57)=true
 ·by_cases hnb:zkm n s=true
  ·go_enter Tryz.func91,Tryz.ntmps91;go_wp2_with fail;refine(zkk _ _ _ _ _ _ _).mono ?_;rintro e w1 ⟨rfl,hb1⟩;obtain⟨hc1,hf1⟩:=zlb hb1;have hbb:Below w.heap.size w w1:=((Below.refl _ _).alloc (Nat.le_refl _) _).trans (hb1.mono (by simp));go_wp2_with fail;refine(znF ks _ _ _ (hrow.later hbb) hlk _ _ zsY isS (fun i hi=>IH.out _ (List.getElem_mem hi))).mono ?_;rintro e w2 ⟨rfl,hb2⟩;have hbc:Below w.heap.size w w2:=hbb.trans (hb2.mono hbb.size);go_wp2_with fail;go_ret;exact⟨by rw[HX.out];simp[*],hbc⟩
  ·have hnb':zkm n s=false:=by simpa using hnb
   clear hnb;go_enter Tryz.func91,Tryz.ntmps91;go_wp2_with fail;refine(zkk _ _ _ _ _ _ _).mono ?_;rintro e w1 ⟨rfl,hb1⟩;have hbb:Below w.heap.size w w1:=((Below.refl _ _).alloc (Nat.le_refl _) _).trans (hb1.mono (by simp));go_wp2_with fail;go_ret;exact⟨by rw[HX.out];simp[*],hbb⟩
 ·have hk':(k==57)=false:=by simpa using hk
  clear hk;go_enter Tryz.func91,Tryz.ntmps91;go_wp2_with fail;go_ret;exact⟨by rw[HX.out];simp[*],(Below.refl _ _).alloc (Nat.le_refl _) _⟩
theorem zqd (t:T):zlF t/\zk4 t:=by
 induction t using T.ind with
 | _ k n s ks ih =>
 have ihS:∀ t∈ks,zlF t:=fun t ht=>(ih t ht).1;have aF:∀ t∈ks,zk4 t:=fun t ht=>(ih t ht).2;refine⟨?_,zqW k n s ks ihS⟩;by_cases ve:k=40
 ·subst ve;exact zsl n s ks aF
 by_cases h41:k=41
 ·subst h41;exact zsk n s ks aF
 by_cases h42:k=42
 ·subst h42;exact zsj n s ks aF
 by_cases h43:k=43
 ·subst h43;exact zsi n s ks aF
 by_cases oz:k=44
 ·subst oz;exact zsh n s ks aF
 by_cases h45:k=45
 ·subst h45;exact zsg n s ks aF
 by_cases h46:k=46
 ·subst h46;exact zsf n s ks aF
 by_cases h47:k=47
 ·subst h47;exact zse n s ks aF
 by_cases h48:k=48
 ·subst h48;exact zsd n s ks aF
 by_cases tH:k=49
 ·subst tH;exact zsc n s ks aF
 by_cases h50:k=50
 ·subst h50;exact zsb n s ks
 by_cases lI:k=51
 ·subst lI;exact zsa n s ks
 by_cases h52:k=52
 ·subst h52;exact zr9 n s ks aF
 by_cases h53:k=53
 ·subst h53;exact zr8 n s ks aF
 by_cases gZ:k=54
 ·subst gZ;exact zr7 n s ks aF
 by_cases gY:k=55
 ·subst gY;exact zr6 n s ks aF
 by_cases mE:k=56
 ·subst mE;exact zr5 n s ks aF
 exact zqS k n s ks (by simpa using ve) (by simpa using h41) (by simpa using h42) (by simpa using h43) (by simpa using oz) (by simpa using h45) (by simpa using h46) (by simpa using h47) (by simpa using h48) (by simpa using tH) (by simpa using h50) (by simpa using lI) (by simpa using h52) (by simpa using h53) (by simpa using gZ) (by simpa using gY) (by simpa using mE)
theorem zqT (t:T):zlF t:=(zqd t).1
theorem zpG (t:T):zk4 t:=(zqd t).2
end Go.Proofs.YtckhofdinldhpaaGreat
namespace Go.Proofs.YtckhofdinldhpaaGreat
open Go Go.RowKit
theorem ztI {f:Nat->T->Bool} {ks:List T} (h:zkx 1 f ks=true):∃ p,ks=[p]/\f 0 p=true:=by
 match ks with
 | [p]=>simp[zkx,zks] at h;exact⟨p,rfl,h⟩
 | []=>simp[zkx] at h
 | a::b::l=>simp[zkx] at h
theorem ztH {f:Nat->T->Bool} {ks:List T} (h:zkx 2 f ks=true):∃ p q,ks=[p,q]/\f 0 p=true/\f 1 q=true:=by
 match ks with
 | [p,q]=>simp[zkx,zks] at h;exact⟨p,q,rfl,h⟩
 | []=>simp[zkx] at h
 | [a]=>simp[zkx] at h
 | a::b::c::l=>simp[zkx] at h
theorem zrx {k n:Int} {s:ByteArray} {ks:List T} (h:isS (.nd k n s ks)=true) (hb:basB k=true) :
  ((k=40\/k=41\/k=42)/\∃ p q,ks=[p,q]/\isP p=true/\isE q=true)\/(k=43/\∃ p q,ks=[p,q]/\isP p=true/\isP q=true)\/((44<=k/\k<=49)/\∃ p,ks=[p]/\isP p=true):=by
 have hr:=of_decide_eq_true hb;rw[isS] at h;by_cases h1:k=40\/k=41\/k=42\/k=56
 ·rw[if_pos h1,Bool.and_eq_true] at h;obtain⟨p,q,e,a,b⟩:=ztH h.2;exact .inl ⟨by omega,p,q,e,by simpa using a,by simpa using b⟩
 ·rw[if_neg h1] at h;by_cases h2:k=43
  ·rw[if_pos h2,Bool.and_eq_true] at h;obtain⟨p,q,e,a,b⟩:=ztH h.2;exact .inr (.inl ⟨h2,p,q,e,a,b⟩)
  ·rw[if_neg h2] at h;by_cases h3:k=44\/k=45
   ·rw[if_pos h3,Bool.and_eq_true] at h;obtain⟨p,e,a⟩:=ztI h.2;exact .inr (.inr ⟨by omega,p,e,a⟩)
   ·rw[if_neg h3,if_pos (by omega),Bool.and_eq_true] at h;obtain⟨p,e,a⟩:=ztI h.2;exact .inr (.inr ⟨by omega,p,e,a⟩)
def DoP (n0:Nat) (P:Ph) (S:ST) (W:World) (R:Int×ST) (e:Ending) (W':World):Prop:=e=.returned (.int .i64 R.1)/\∃ P',SStp n0 P S W P' R.2 W'/\P'.sb=P.sb
theorem zpu {W:World} {n0:Nat} {P:Ph} {S:ST} (h:SR W n0 P S) (t:T) (v:Value) (hv:NV W Any t v) (hs:isS t=true) (hb:basB t.k=true) (hf:fltE S.cur.vs t=0) :
  Calls Tryz.prog 60 #[.pointer (some ⟨P.sb,0,none⟩),v] W (DoP n0 P S W (zoZ S t)):=by
 obtain⟨k,n,s,ks⟩:=t;obtain⟨fo,fk⟩:=zrH hf;rcases zrx hs hb with⟨hk,p,q,rfl,hp,hq⟩|⟨rfl,p,q,rfl,hp,hq⟩|⟨hk,p,rfl,hp⟩
 ·obtain⟨id,kp,h1,h2,h3⟩:=zoo h.wf hp (zmJ fk p (by simp));have:=zs6 h k n s p q v hv hk id h1 kp h2;have e:zoZ S (.nd k n s [p,q])=zla S k s p q (indE S.look p) (zkI S.look q):=by
   show zla S k s p q (indE S.look p) (znr S k q)=_
   rw[znr,if_neg (by omega),if_pos hk]
  unfold DoP;rw[e];exact this
 ·obtain⟨id,kp,h1,h2,h3⟩:=zoo h.wf hp (zmJ fk p (by simp));obtain⟨jd,kq,h4,h5,h6⟩:=zoo h.wf hq (zmJ fk q (by simp));have:=zrM h 43 n s p q v hv rfl id h1 kp h2 jd h4 kq h5;have e:zoZ S (.nd 43 n s [p,q])=zla S 43 s p q (indE S.look p) (indE S.look q):=by
   show zla S 43 s p q (indE S.look p) (znr S 43 q)=_
   rw[znr,if_pos rfl]
  unfold DoP;rw[e];exact this
 ·obtain⟨id,kp,h1,h2,h3⟩:=zoo h.wf hp (zmJ fk p (by simp));have hst:k=44\/k=45->∃ ah,S.num s=some ah/\CurK S ah 3:=fun h45=>by
   have hn:zos k=3:=by rcases h45 with rfl|rfl<;>rfl
   obtain⟨u,h4,h5⟩:=zop fo (by rw[hn];decide);obtain⟨ah,h6,h7⟩:=zrm h.wf h4;exact⟨ah,h6,by rw[h5,hn] at h7;exact h7⟩
  have:=zs7 h k n s p v hv hk id h1 kp h2 h3 hst;have e:zoZ S (.nd k n s [p])=zla S k s p nil0 (indE S.look p) (0,0):=by
   show zla S k s p nil0 (indE S.look p) (znr S k nil0)=_
   rw[znr,if_neg (by omega),if_neg (by omega)]
  unfold DoP;rw[e];exact this
theorem zrG:IsFn Tryz.prog 58 Tryz.f58:=⟨Tryz.func58,by kernel_rfl,by kernel_rfl⟩
theorem zs1:IsFn Tryz.prog 59 Tryz.f59:=⟨Tryz.func59,by kernel_rfl,by kernel_rfl⟩
theorem ztV {W:World} {n0:Nat} {P:Ph} {S:ST} (h:SR W n0 P S) (t:T) (v:Value) (hv:NV W Any t v) :
  Calls Tryz.prog 20 #[.pointer (some ⟨P.sb,0,none⟩),v] W (DoP n0 P S W (doE S t)):=by
 obtain⟨R,hR⟩:∃ R,doE S t=R:=⟨_,rfl⟩
 rw[hR];have HRR:=zh hR;have HS:=zh h;have HV:=zh hv;obtain⟨A,c,rfl,-,-,-,-⟩:=hv.open_;obtain⟨b,hb⟩:∃ b,isS t=b:=⟨_,rfl⟩
 have HIS:=zh (show ∀ (v:Value) (w:World),NV w Any t v->Calls Tryz.prog 56 #[v] w fun e w'=>e=.returned (.bool b)/\Below w.heap.size w w' from fun v w h=>hb▸zqT t v w h);have pY:=zh hb;have iQ:=zh (show ∀ (v:Value) (W':World),NV W' Any t v->Below W.heap.size W W'->isS t=true->basB t.k=true->fltE S.cur.vs t=0->doE S t=zoZ S t->Calls Tryz.prog 60 #[.pointer (some ⟨P.sb,0,none⟩),v] W' (DoP n0 P S W R) from fun v W' hv' hbl h1 h2 h3 h4=>by
  refine(zpu (h.later hbl) t v hv' h1 h2 h3).mono ?_;rintro e W2 ⟨a1,P',a2,a3⟩;rw[<-h4,hR] at a1 a2;exact⟨a1,P',⟨a2.st.after hbl h.rws,a2.wf⟩,a3⟩)
 obtain⟨kd,hw⟩:=h.curWF;obtain⟨A0,c0,hcv,hc,hrow⟩:=h.curVs;obtain⟨h3,h4,h5⟩:=h.cur3;rw[hcv] at h3;have dQ:=zh (fun W' (hb:Below W.heap.size W W')=>zmA (h.later hb));have wy:=zh (fun(v:Value) W' (hb:Below W.heap.size W W') (hv':NV W' Any t v)=>zqH S.cur.vs A0 c0 (curP P S) hw.lim t v W' hv' (zb hb h3) (hrow.later hb));obtain⟨cp,hcp⟩:∃ cp,curP P S=cp:=⟨_,rfl⟩
 rw[hcp] at dQ wy;obtain⟨fe,hfe⟩:∃ fe,fltE S.cur.vs t=fe:=⟨_,rfl⟩
 rw[hfe] at wy iQ;have jl:=zh (fun w=>zrV t.k w);obtain⟨bb,hbb⟩:∃ b,basB t.k=b:=⟨_,rfl⟩
 rw[hbb] at jl iQ;have HD:=zh (show R=if b=false then (3,S) else if t.k=56 then (9,S) else if bb=false then (7,S) else if fe≠0 then (fe,S) else zoZ S t by rw[<-hR,doE,hb,hbb,hfe]);have HDE:=zh (show doE S t=R from hR);obtain⟨k,hk⟩:∃ k,t.k=k:=⟨_,rfl⟩
 obtain⟨n,hn⟩:∃ n,t.n=n:=⟨_,rfl⟩
 obtain⟨s,hs⟩:∃ s,t.s=s:=⟨_,rfl⟩
 obtain⟨m,hm⟩:∃ m,t.ks.length=m:=⟨_,rfl⟩
 rw[hk,hn,hs,hm] at HV ⊢;rw[hk] at jl HD;clear h hv hR hb hw hcv hc hrow h3 h4 h5 hcp hfe hbb hk hn hs hm;have hbx:=box4 (heap_alloc_new W (.cells #[.int .u8 k,.int .i64 n,.string s,.slice A m c] 29));have aC:=zh (heap_alloc_new W (.cells #[.int .u8 k,.int .i64 n,.string s,.slice A m c] 29));obtain⟨W0,hW0⟩:∃ W0,W.alloc (.cells #[.int .u8 k,.int .i64 n,.string s,.slice A m c] 29)=W0:=⟨_,rfl⟩
 have q0:Below W.heap.size W W0:=hW0▸zkd (Below.refl _ _) _;rw[hW0] at hbx aC;have mP:=zh q0;obtain⟨x0,x1,x2,x3⟩:=hbx;clear q0;go_enter Tryz.func20,Tryz.ntmps20;go_wp2_with fail;refine(HIS.out _ _ (HV.out.later mP.out)).mono ?_;rintro e w1 ⟨rfl,aa⟩;have HB1:=zh (zka mP.out aa);have aN:=zh (zkc aC.out aa);obtain⟨y0,y1,y2,y3⟩:=box4 aN.out;clear aa x0 x1 x2 x3
 cases b
 ·have HN:=zh (show R=(3,S) by rw[HD.out,if_pos rfl]);go_wp2_with fail;go_ret;exact⟨by rw[HN.out];rfl,P,by rw[HN.out];exact SStp.refl HS.out HB1.out,rfl⟩
 ·by_cases mE:k=56
  ·have HN:=zh (show R=(9,S) by rw[HD.out,if_neg (by decide),if_pos mE]);subst mE;go_wp2_with fail;go_ret;exact⟨by rw[HN.out];rfl,P,by rw[HN.out];exact SStp.refl HS.out HB1.out,rfl⟩
  ·have k56:(k==56)=false:=by simpa using mE
   go_wp2_with fail;refine(jl.out _).mono ?_;rintro e w2 ⟨rfl,rfl⟩
   cases bb
   ·have HN:=zh (show R=(7,S) by rw[HD.out,if_neg (by decide),if_neg mE,if_pos rfl]);go_wp2_with fail;go_ret;exact⟨by rw[HN.out];rfl,P,by rw[HN.out];exact SStp.refl HS.out HB1.out,rfl⟩
   ·have HD2:=zh (show R=if fe≠0 then (fe,S) else zoZ S t by rw[HD.out,if_neg (by decide),if_neg mE,if_neg (by decide)]);clear HD jl;go_upto_region 9 with fail;have hSS:(fun w':World=>w'.cell? ⟨W.heap.size,0,none⟩=some (.int .u8 k)/\w'.cell? ⟨W.heap.size,1,none⟩=some (.int .i64 n)/\w'.cell? ⟨W.heap.size,2,none⟩=some (.string s)/\w'.cell? ⟨W.heap.size,3,none⟩=some (.slice A m c)) w2.drew/\(fun _:World=>True) w2.drew:=⟨⟨y0,y1,y2,y3⟩,trivial⟩
    refine wp_region_noPanic ?_;refine zke (fun w':World=>w'.cell? ⟨W.heap.size,0,none⟩=some (.int .u8 k)/\w'.cell? ⟨W.heap.size,1,none⟩=some (.int .i64 n)/\w'.cell? ⟨W.heap.size,2,none⟩=some (.string s)/\w'.cell? ⟨W.heap.size,3,none⟩=some (.slice A m c)) (fun _:World=>True) 3 (by kernel_rfl) ?_;refine zT 0 hSS ?_;(try simp only[zQ]);refine zT 2 hSS ?_;(try simp only[zQ]);have had:Calls Tryz.prog 58 [.pointer (some ⟨P.sb,0,none⟩)].toArray w2.drew fun e W'=>∃ u,e=.returned u/\u=.pointer (some cp)/\W'=w2.drew :=
     (dQ.out _ HB1.out.drew).mono fun e W' hh=>⟨_,hh.1,rfl,hh.2⟩
    refine zo 1 fun K hK=>?_;refine zkg (by rfl) (.func 58) [.tmp 22] _ (by rfl) 58 _ zrG (by rfl) _ (by rfl) _ had ?_;rintro v4 w4 ⟨rfl,rfl⟩;refine hK.out _ _ hSS ?_;clear hK K had;(try simp only[zQ]);have had:Calls Tryz.prog 59 [.pointer (some cp),nv k n s A m c].toArray w2.drew fun e W'=>∃ u,e=.returned u/\u=.int .i64 fe/\Below w2.drew.heap.size w2.drew W' :=
     (wy.out _ _ HB1.out.drew ((HV.out.later HB1.out).later (Below.refl _ _).drew)).mono fun e W' hh=>⟨_,hh.1,rfl,hh.2⟩
    refine zp 3 fun K hK=>?_;refine zkg (by rfl) (.func 59) [.tmp 23,.tmp 24] _ (by rfl) 59 _ zs1 (by rfl) _ (by rfl) _ had ?_;rintro v5 w5 ⟨rfl,hb5⟩;have aW:=zh (zka HB1.out.drew hb5);have mZ:=zh (zkc (show w2.drew.heap[W.heap.size]?=_ from aN.out) hb5);obtain⟨u0,u1,u2,u3⟩:=box4 mZ.out;refine hK.out _ _ ⟨u0,u1,u2,u3⟩ ?_;clear hK K had hb5 hSS y0 y1 y2 y3;(try simp only[zQ]);refine zp 4 fun K hK=>?_;(try simp only[zA,zB,zC]);go_simp;refine hK.out _ _ ⟨u0,u1,u2,u3⟩ ?_;clear hK K;(try simp only[zQ]);refine zd ?_;refine NoPanic.normal ?_;by_cases hfe:fe=0
    ·subst hfe;have HXX:=zh (iQ.out (nv k n s A m c) w5 (HV.out.later aW.out) aW.out pY.out (by first|rfl|trivial) (by first|rfl|trivial) (by rw[HDE.out,HD2.out];simp));clear HD2 iQ;go_wp2_with fail;refine HXX.out.mono ?_;rintro e w6 ⟨rfl,hh⟩;have HH:=zh hh;clear hh;go_wp2_with fail;go_ret;exact⟨rfl,HH.out⟩
    ·have HN:=zh (show R=(fe,S) by rw[HD2.out,if_pos hfe]);have e1:(fe==0)=false:=by simpa using hfe
     have e2:(fe != 0)=true:=by simpa using hfe
     clear HD2;go_wp2_with fail;go_ret;exact⟨by rw[HN.out];rfl,P,by rw[HN.out];exact SStp.refl HS.out aW.out,rfl⟩
theorem ztl {W:World} {n0:Nat} {P:Ph} {S:ST} (h:SR W n0 P S) (t:T) (v:Value) (hv:NV W Any t v) :
  Calls Tryz.prog 19 #[.pointer (some ⟨P.sb,0,none⟩),v] W (DoP n0 P S W (zls S t)):=by
 obtain⟨k,n,s,ks⟩:=t;obtain⟨A,c,rfl,hf,hlk,hlc,hrow⟩:=hv.open_;simp only[T.k_nd,T.n_nd,T.s_nd,T.ks_nd] at *
 obtain⟨k',hk'⟩:∃ k',zqz k=k':=⟨_,rfl⟩
 have hf':Fld k' n s:=by
  refine⟨?_,hf.2⟩;rw[<-hk'];unfold zqz;have:=hf.1
  split
  ·omega
  ·split
   ·omega
   ·split
    ·omega
    ·split
     ·omega
     ·split
      ·omega
      ·split
       ·omega
       ·split
        ·omega
        ·split
         ·omega
         ·exact this
 obtain⟨R,hR⟩:∃ R,zls S (.nd k n s ks)=R:=⟨_,rfl⟩
 rw[hR];have HDO:=zh (show ∀ W',Below W.heap.size W W'->Calls Tryz.prog 20 #[.pointer (some ⟨P.sb,0,none⟩),nv k' n s A ks.length c] W' (DoP n0 P S W R) from fun W' hb=>by
  have e:doE S (.nd k' n s ks)=R:=by rw[<-hR,<-hk'];rfl
  have:=ztV (h.later hb) (.nd k' n s ks) (nv k' n s A ks.length c) (NV.shut hf' hlk hlc (hrow.later hb));rw[e] at this;refine this.mono ?_;rintro e W2 ⟨a1,P',a2,a3⟩;exact⟨a1,P',⟨a2.st.after hb h.rws,a2.wf⟩,a3⟩)
 have ma:=zh (fun w=>hk'▸zpq k w);obtain⟨m,hm⟩:∃ m,ks.length=m:=⟨_,rfl⟩
 rw[hm] at HDO ⊢;clear h hv hR hf hf' hrow hlk hlc hm hk';go_enter Tryz.func19,Tryz.ntmps19;go_wp2_with fail;refine(ma.out _).mono ?_;rintro e w1 ⟨rfl,rfl⟩;go_wp2_with fail;refine(HDO.out _ (zkd (Below.refl _ _) _)).mono ?_;rintro e w6 ⟨rfl,hh⟩;have HH:=zh hh;clear hh;go_wp2_with fail;go_ret;exact⟨rfl,HH.out⟩
def FrK (S S':ST):Prop:=S'.base=S.base/\S'.calls=S.calls/\S'.nc=S.nc
theorem zsK (S:ST) (k:Int) (id i ah:Nat):FrK S (zm5 S k id i ah).2:=by
 unfold zm5
 repeat' split
 all_goals exact⟨rfl,rfl,rfl⟩
theorem zq5 (S:ST) (k:Int) (id i:Nat):FrK S (zlf S k id i).2:=by
 unfold zlf
 repeat' split
 all_goals exact⟨rfl,rfl,rfl⟩
theorem zs8 (S:ST) (k:Int) (s qs:ByteArray) (r2:Int) (id i:Nat):FrK S (zmy S k s qs r2 id i).2:=by
 unfold zmy
 repeat' split
 all_goals first|exact zsK _ _ _ _ _|exact zq5 _ _ _ _|exact⟨rfl,rfl,rfl⟩
theorem zs9 (S:ST) (k:Int) (s ps qs:ByteArray) (r1:Int) (r2:Int×Int):FrK S (zmz S k s ps qs r1 r2).2:=by
 unfold zmz
 repeat' split
 all_goals first|exact zs8 _ _ _ _ _ _ _|exact⟨rfl,rfl,rfl⟩
theorem zta (S:ST) (k:Int) (s:ByteArray) (p q:T) (r1 r2:Int×Int):FrK S (zla S k s p q r1 r2).2:=by
 unfold zla;by_cases h:r1.2≠0
 ·rw[if_pos h];exact⟨rfl,rfl,rfl⟩
 ·rw[if_neg h];exact zs9 _ _ _ _ _ _ _
theorem ztQ (S:ST) (t:T):FrK S (doE S t).2:=by
 unfold doE
 repeat' split
 all_goals first|exact⟨rfl,rfl,rfl⟩|skip
 obtain⟨k,n,s,ks⟩:=t;exact zta _ _ _ _ _ _ _
theorem zst (S:ST) (t:T):FrK S (zls S t).2:=by
 obtain⟨k,n,s,ks⟩:=t;exact ztQ _ _
theorem zr3 (W:World) (E:TypeId) {S:Nat->Prop} (hS:S W.heap.size) {t1 t2:T} {k n k1 n1 k2 n2:Int} {s s1 s2:ByteArray} {A1 A2:Option Addr} {l1 c1 l2 c2:Nat} (hf:Fld k n s) (h1:NV W S t1 (nv k1 n1 s1 A1 l1 c1)) (h2:NV W S t2 (nv k2 n2 s2 A2 l2 c2)) :
  NV (W.alloc (.cells #[.int .u8 k1,.int .i64 n1,.string s1,.slice A1 l1 c1,.int .u8 k2,.int .i64 n2,.string s2,.slice A2 l2 c2] E)) S (.nd k n s [t1,t2]) (nv k n s (some ⟨W.heap.size,0,none⟩) 2 2):=by
 refine NV.shut (ks:=[t1,t2]) hf (by simp[LK]) (by simp) fun i hi=>?_;have hb:=zkd (Below.refl W.heap.size W) (.cells #[.int .u8 k1,.int .i64 n1,.string s1,.slice A1 l1 c1,.int .u8 k2,.int .i64 n2,.string s2,.slice A2 l2 c2] E);have hx:=heap_alloc_new W (.cells #[.int .u8 k1,.int .i64 n1,.string s1,.slice A1 l1 c1,.int .u8 k2,.int .i64 n2,.string s2,.slice A2 l2 c2] E)
 match i,hi with
 | 0,_=>exact⟨⟨W.heap.size,0,none⟩,_,_,_,_,rfl,hS,⟨zc hx rfl,zc hx rfl,zc hx rfl,zc hx rfl⟩,h1.later hb⟩
 | 1,_=>exact⟨⟨W.heap.size,0,none⟩,_,_,_,_,rfl,hS,⟨zc hx rfl,zc hx rfl,zc hx rfl,zc hx rfl⟩,h2.later hb⟩
theorem zm9 {W:World} {b:Nat} {E:TypeId} {xs:List Int} (h:W.heap[b]?=some (.cells (zkf xs).toArray E (0,0))) (hx:∀ x∈xs,I64 x):RowI W Any (some ⟨b,0,none⟩) xs:=fun i hi=>by
 have ha:(⟨b,0,none⟩:Addr).add i=⟨b,i,none⟩:=by rw[Addr.add_lit,Nat.zero_add]
 refine⟨⟨b,0,none⟩,rfl,trivial,?_,hx _ (List.getElem_mem hi)⟩;rw[ha];simp only[World.cell?,h];simp[zkf,hi]
theorem zsG {W:World} {b:Nat} {E:TypeId} {vs:List VD} (h:W.heap[b]?=some (.cells (zl0 vs).toArray E (0,0))) (hx:∀ v∈vs,FldV v):RowV W Any (some ⟨b,0,none⟩) vs:=fun i hi=>by
 have ha:(⟨b,0,none⟩:Addr).add (i*3)=⟨b,i*3,none⟩:=by rw[Addr.add_lit,Nat.zero_add]
 obtain⟨g1,g2,g3⟩:=znB vs i hi;refine⟨⟨b,0,none⟩,rfl,trivial,?_,hx _ (List.getElem_mem hi)⟩;rw[ha];have key:∀ o u,(zl0 vs)[o]?=some u->W.cell? ⟨b,o,none⟩=some u:=fun o u ho=>by
  simp only[World.cell?,h];simpa using ho
 exact⟨key _ _ g1,key _ _ g2,key _ _ g3⟩
theorem bV2 (s:ByteArray) (k:Int) (w:World):(Instr.build 83 #[(0,.string s),(1,.int .u8 k)]).run Tryz.prog w=.ok (.agg #[.string s,.int .u8 k,.int .i64 0]) w:=by kernel_rfl
theorem bI2 (x y:Int) (w:World):(Instr.buildSlice 24 2 #[(0,.int .i64 x),(1,.int .i64 y)]).run Tryz.prog w=.ok (.slice (some ⟨w.heap.size,0,none⟩) 2 2) (w.alloc (.cells #[.int .i64 x,.int .i64 y] 3)):=by kernel_rfl
theorem bS1 (A:Option Addr) (l c:Nat) (w:World):(Instr.build 26 #[(0,.slice A l c)]).run Tryz.prog w=.ok (.agg #[.slice A l c,.slice none 0 0,.slice none 0 0]) w:=by kernel_rfl
theorem zlp {w:World} {b:Nat} {E:TypeId} {u0 u1 u2:Value} (h:w.heap[b]?=some (.cells #[u0,u1,u2] E (0,0))):w.cell? ⟨b,0,none⟩=some u0/\w.cell? ⟨b,1,none⟩=some u1/\w.cell? ⟨b,2,none⟩=some u2 :=
 ⟨zc h rfl,zc h rfl,zc h rfl⟩
theorem zn0 {W:World} {n0:Nat} {E:TypeId} {v:Value} {l:List Int} (h:W.ownsRow n0 E 1 v l.length (zkf l)) (hf:∀ x∈l,I64 x):∃ A c,v=.slice A l.length c/\l.length<=c/\RowI W (fun b=>n0<=b) A l:=by
 obtain⟨A,c,e,hc,hr⟩:=zk2 (xs:=l) h hf;exact⟨A,c,e,hc,hr.keep (fun b hb _=>(h.lt b hb).1) (fun _ _ _=>rfl)⟩
theorem OwnS.svR {W:World} {n0:Nat} {s:SS} {v:Value} (h:OwnS W n0 s v) (hl:s.Lim):SV W (fun b=>n0<=b) s v:=by
 obtain⟨vc,vi,vo,fc,rfl,hr,h1,h2,h3⟩:=h;obtain⟨AI,cI,e2,k2,r2⟩:=zn0 (hr.row .inp) h2;obtain⟨AO,cO,e3,k3,r3⟩:=zn0 (hr.row .out) h3;change vi=_ at e2;change vo=_ at e3;have key:∃ A c,vc=.slice A s.cells.length c/\s.cells.length<=c/\zmN W (fun b=>n0<=b) A s.cells:=by
  rcases Nat.eq_zero_or_pos s.cells.length with h0|h0
  ·obtain⟨A,c,e1,hc,_⟩:=zkb (hr.row .all);exact⟨A,c,e1,hc,fun i hi=>by omega⟩
  ·obtain⟨g,c,e1,hc,_,hcell⟩:=zkZ (hr.row .all) h0;change vc=_ at e1;have hg:n0<=g:=(hr.lt .all g (by show vc.ownBlock=some g;rw[e1];rfl)).1;refine⟨_,c,e1,hc,fun i hi=>?_⟩;have aL:=hr.row (.el i);simp only[zlN,hi,if_true,List.getD_eq_getElem?_getD,List.getElem?_eq_getElem hi,Option.getD_some] at aL;obtain⟨A',c',e4,k4,r4⟩:=zn0 aL (h1 _ (List.getElem_mem hi));have ha:(⟨g,0,none⟩:Addr).add i=⟨g,i,none⟩:=by rw[Addr.add_lit,Nat.zero_add]
   refine⟨⟨g,0,none⟩,A',c',rfl,hg,?_,k4,r4⟩;rw[ha,<-e4,hcell i (by show i<s.cells.length*1;omega)];simp[zlN,hi]
 obtain⟨A,c,e1,k1,r1⟩:=key;exact⟨A,c,AI,cI,AO,cO,by rw[e1,e2,e3],r1,r2,r3,k1,k2,k3,hl⟩
theorem SV.any {W:World} {S:Nat->Prop} {s:SS} {v:Value} (h:SV W S s v):SV W Any s v:=h.keep (fun _ _ _=>trivial) fun _ _ _=>rfl
theorem SR.n0le {W:World} {n0:Nat} {P:Ph} {S:ST} (h:SR W n0 P S):n0<=W.heap.size:=by have:=h.rws.lt .sb _ rfl;omega
theorem SR.own_lt {W:World} {n0:Nat} {P:Ph} {S:ST} (h:SR W n0 P S) {b:Nat} (hb:OwnB (rows P S) b):n0<=b/\b<W.heap.size:=by
 obtain⟨q,hq⟩:=hb;exact h.rws.lt q b hq
theorem SStp.frame {w W W':World} {n0:Nat} {P P':Ph} {S S':ST} (hst:SStp n0 P S W P' S' W') (hs:SR W n0 P S) (hb:Below w.heap.size w W) (hn:w.heap.size<=n0):Below w.heap.size w W' :=
 hb.trans (hst.st.chg.below (Nat.le_trans hn hs.n0le) fun _ ho=>Nat.le_trans hn (hs.own_lt ho).1)
theorem SStp.no {W W':World} {n0:Nat} {P P':Ph} {S S':ST} {b:Nat} (hst:SStp n0 P S W P' S' W') (hlt:b<W.heap.size) (hno:¬ OwnB (rows P S) b):¬ OwnB (rows P' S') b:=fun ho=>by
 rcases hst.st.own _ ho with h|h
 ·exact hno h
 ·omega
theorem zkQ {P:Program} {ops:Array Oper} {o:Oper} {a:Act} {w:World} {K:Act->World->Prop} {Q:Exit->Act->World->Prop} {F:Prop} (hw:Region.wanted o (yielded ops a.tmps)=true) (x:Operand) (xs:List Operand) (ats:Array TypeId)
  (ho:o.op=.call { callee:=.value x,args:=xs.toArray,argTypes:=ats }) (f:FuncId) (fn:Func) (hf:IsFn P f fn) (hv:a.eval x=.func (.func f) #[] #[]) (l:List Value) (hargs:xs.map a.eval=l) (R:Value->World->Prop)
  (hc:Calls P f l.toArray w fun e w'=>∃ v,e=.returned v/\R v w') (h:∀ v w',R v w'->K (a.put o.dst v) w') :
  if Region.wanted o (yielded ops a.tmps)=true then Oper.wp P o a w K Q else F:=by
 rw[if_pos hw];subst hargs;have e:(execOp a.eval o).run P w=.ok (.enter f (xs.map a.eval).toArray) w:=by
  unfold execOp;simp only[ho,resolve,hv,Deferred.ofValue,Sem.run_bind,Sem.run_pure,Result.andThen_ok,invoke,zkH hf,Array.empty_append,List.map_toArray,Array.append_empty]
 unfold Oper.wp;rw[e,Oper.upon_enter];refine hc.mono ?_;rintro e w' ⟨v,rfl,hR⟩;exact h v w' hR
theorem zn2 {vs:List VD} {s:SS} (h:fitB vs s=true):(newS vs s).state=s:=by
 have hl:s.cells.length=vs.length:=(zoA h).2.1;obtain⟨c,i,o⟩:=s;simp only[ST.state,newS,List.length_range,Nat.sub_zero];congr 1;rw[List.take_of_length_le (by simp)];refine List.ext_getElem (by simpa using hl.symm) fun j h1 h2=>?_;simp at h1 h2;simp[h2]
structure KS (w:World) (n0 sb:Nat) (kb:Nat->Prop) (W:World) (S:ST):Prop where
 bl:Below w.heap.size w W
 hn:w.heap.size<=n0
 sr:∃ P,SR W n0 P S/\P.sb=sb/\∀ b,kb b->b<W.heap.size/\¬ OwnB (rows P S) b
structure Kpt (n0:Nat) (kb:Nat->Prop) (W W':World):Prop where
 size:W.heap.size<=W'.heap.size
 kept:∀ b,b<W.heap.size->(b<n0\/kb b)->W'.heap[b]?=W.heap[b]?
section
variable {w W W' W'':World} {n0 sb:Nat} {kb kb':Nat->Prop} {S S':ST}
theorem Kpt.refl (n0:Nat) (kb:Nat->Prop) (W:World):Kpt n0 kb W W:=⟨Nat.le_refl _,fun _ _ _=>rfl⟩
theorem Kpt.trans (h:Kpt n0 kb W W') (h':Kpt n0 kb W' W''):Kpt n0 kb W W'':=⟨Nat.le_trans h.size h'.size,fun b hb hk=>(h'.kept b (Nat.lt_of_lt_of_le hb h.size) hk).trans (h.kept b hb hk)⟩
theorem Kpt.of_below (h:Below W.heap.size W W'):Kpt n0 kb W W':=⟨h.size,fun b hb _=>h.block b hb⟩
theorem Kpt.cell {b o:Nat} {u:Value} (h:Kpt n0 kb W W') (hk:b<n0\/kb b) (hc:W.cell? ⟨b,o,none⟩=some u):W'.cell? ⟨b,o,none⟩=some u :=
 zkG hc (h.kept b (World.block_lt_of_cell? W _ hc) hk)
theorem Kpt.blk {b:Nat} {o:Obj} (h:Kpt n0 kb W W') (hk:b<n0\/kb b) (hc:W.heap[b]?=some o):W'.heap[b]?=some o:=(h.kept b (zko hc) hk).trans hc
theorem KS.n0le (h:KS w n0 sb kb W S):n0<=W.heap.size:=by obtain⟨P,hs,_⟩:=h.sr;exact hs.n0le
theorem KS.wf (h:KS w n0 sb kb W S):S.WF:=by obtain⟨P,hs,_⟩:=h.sr;exact hs.wf
theorem KS.later (h:KS w n0 sb kb W S) (hb:Below W.heap.size W W'):KS w n0 sb kb W' S:=by
 obtain⟨P,hs,e,hk⟩:=h.sr;exact⟨zka h.bl hb,h.hn,P,hs.later hb,e,fun b hb'=>⟨Nat.lt_of_lt_of_le (hk b hb').1 hb.size,(hk b hb').2⟩⟩
theorem KS.also (h:KS w n0 sb kb W S) (hb:Below W.heap.size W W') (hkb:∀ b,kb' b->kb b\/(W.heap.size<=b/\b<W'.heap.size)):KS w n0 sb kb' W' S:=by
 obtain⟨P,hs,e,hk⟩:=h.sr;refine⟨zka h.bl hb,h.hn,P,hs.later hb,e,fun b hb'=>?_⟩;rcases hkb b hb' with h1|⟨h1,h2⟩
 ·exact⟨Nat.lt_of_lt_of_le (hk b h1).1 hb.size,(hk b h1).2⟩
 ·exact⟨h2,fun ho=>by have:=(hs.own_lt ho).2;omega⟩
theorem KS.less (h:KS w n0 sb kb W S) (hkb:∀ b,kb' b->kb b):KS w n0 sb kb' W S:=h.also (Below.refl _ _) fun b hb=>.inl (hkb b hb)
theorem KS.new {P:Ph} {vs:List VD} {s:SS} {W0:World} (h0:Below w.heap.size w W0) (hb:Below W0.heap.size W0 W) (hs:SR W W0.heap.size P (newS vs s)):KS w W0.heap.size P.sb (fun _=>False) W (newS vs s) :=
 ⟨zka h0 hb,h0.size,P,hs,rfl,fun _ h=>h.elim⟩
def KP (w:World) (n0 sb:Nat) (kb:Nat->Prop) (W:World) (R:Int×ST) (e:Ending) (W':World):Prop:=e=.returned (.int .i64 R.1)/\KS w n0 sb kb W' R.2/\Kpt n0 kb W W'
theorem KS.stp {P P':Ph} (hbl:Below w.heap.size w W) (hn0:w.heap.size<=n0) (hs:SR W n0 P S) (hk:∀ b,kb b->b<W.heap.size/\¬ OwnB (rows P S) b) (hst:SStp n0 P S W P' S' W') (hsb:P'.sb=sb):KS w n0 sb kb W' S'/\Kpt n0 kb W W':=by
 refine⟨⟨hst.frame hs hbl hn0,hn0,P',hst.sr,hsb,fun b hb=>⟨Nat.lt_of_lt_of_le (hk b hb).1 hst.st.chg.size,hst.no (hk b hb).1 (hk b hb).2⟩⟩,hst.st.chg.size,fun b hlt hb=>hst.st.chg.block b hlt fun ho=>?_⟩;rcases hb with hb|hb
 ·have:=(hs.own_lt ho).1;omega
 ·exact(hk b hb).2 ho
theorem KS.dop (h:KS w n0 sb kb W S) {f:FuncId} {args:Array Value} {R:Int×ST} (hc:∀ P,SR W n0 P S->P.sb=sb->Calls Tryz.prog f args W (DoP n0 P S W R)):Calls Tryz.prog f args W (KP w n0 sb kb W R):=by
 obtain⟨P,hs,e,hk⟩:=h.sr;refine(hc P hs e).mono ?_;rintro e' W2 ⟨a1,P',a2,a3⟩;exact⟨a1,KS.stp h.bl h.hn hs hk a2 (a3.trans e)⟩
theorem KS.do_ (h:KS w n0 sb kb W S) (t:T) (v:Value) (hv:NV W Any t v):Calls Tryz.prog 20 #[.pointer (some ⟨sb,0,none⟩),v] W (KP w n0 sb kb W (doE S t)) :=
 h.dop fun _ hs e=>e▸ztV hs t v hv
theorem KS.undo (h:KS w n0 sb kb W S) (t:T) (v:Value) (hv:NV W Any t v):Calls Tryz.prog 19 #[.pointer (some ⟨sb,0,none⟩),v] W (KP w n0 sb kb W (zls S t)) :=
 h.dop fun _ hs e=>e▸ztl hs t v hv
theorem KS.state (h:KS w n0 sb kb W S):Calls Tryz.prog 22 #[.pointer (some ⟨sb,0,none⟩)] W fun e W'=>∃ v,e=.returned v/\OwnS W' W.heap.size S.state v/\Below W.heap.size W W':=by
 obtain⟨P,hs,rfl,-⟩:=h.sr;exact zrZ hs
end
theorem KS.chg {w W W':World} {n0 sb:Nat} {kb C:Nat->Prop} {S:ST} (h:KS w n0 sb kb W S) (hc:Chg C W W') (hC:∀ b,b<W.heap.size->C b->w.heap.size<=b/\(b<n0\/kb b)):KS w n0 sb kb W' S:=by
 obtain⟨P,hs,e,hk⟩:=h.sr;have hno:∀ b,OwnB (rows P S) b->¬ C b:=fun b ho hcb=>by
  obtain⟨-,h2⟩:=hC b (hs.own_lt ho).2 hcb;rcases h2 with h2|h2
  ·have:=(hs.own_lt ho).1;omega
  ·exact(hk b h2).2 ho
 refine⟨?_,h.hn,P,⟨hs.rws.chg hc fun i b hb=>hno b ⟨i,hb⟩,hs.wf⟩,e,fun b hb=>⟨Nat.lt_of_lt_of_le (hk b hb).1 hc.size,(hk b hb).2⟩⟩;exact⟨hc.os.trans h.bl.os,hc.tape.trans h.bl.tape,hc.output.trans h.bl.output,Nat.le_trans h.bl.size hc.size,fun b hb=>by
  rw[hc.block b (Nat.lt_of_lt_of_le hb h.bl.size) fun hcb=>by have:=(hC b (Nat.lt_of_lt_of_le hb h.bl.size) hcb).1;omega];exact h.bl.block b hb⟩
theorem SS.Sm.lim {s:SS} (h:s.Sm):s.Lim:=by
 obtain⟨h1,h2,h3,h4⟩:=h;unfold SS.Lim LI;exact⟨by omega,fun l hl=>by have:=h2 l hl;omega,by omega,by omega⟩
structure RS where
 S:ST
 n:Nat
 ent:List Nat
inductive Out where
 | gas
 | err (e:Int)
 | ok (r:RS)
def Out.bind:Out->(RS->Out)->Out
 | .ok r,f=>f r
 | .err e,_=>.err e
 | .gas,_=>.gas
def zk5 (F:Int) (r:RS):Out:=if F<=r.n then .err 18 else .ok { r with n:=r.n+1 }
def zkK (r:RS) (R:Int×ST):Out:=if R.1≠0 then .err R.1 else .ok { r with S:=R.2 }
def valO (t:T) (r:RS) (f:Int->RS->Out):Out:=if (zkI r.S.look t).2≠0 then .err (zkI r.S.look t).2 else f (zkI r.S.look t).1 r
def zlX (F:Int) (t:T) (r:RS) (f:Bool->RS->Out):Out:=(zk5 F r).bind fun r=>valO t r fun x r=>f (decide (x≠0)) r
def zlc (F:Int) (t:T) (b:Bool) (r:RS):Out:=zlX F t r fun b' r=>if b'=b then .ok r else .err 15
def zkY (f:T->RS->Out):List T->RS->Out
 | [],r=>.ok r
 | t::ts,r=>(f t r).bind (zkY f ts)
def blkL (back:Bool) (b:T):List T:=if back=true then b.ks.reverse else b.ks
def zm6 (F:Int) (f:T->RS->Out) (entry test:T) (l1 l2:List T):Nat->RS->Out
 | 0,_=>.gas
 | m+1,r=>(zkY f l1 r).bind fun r=>zlX F test r fun b r=>if b=true then .ok r else (zkY f l2 r).bind fun r=>(zlc F entry false r).bind (zm6 F f entry test l1 l2 m)
def prcI:List PR->ByteArray->Option Nat
 | [],_=>none
 | q::qs,s=>if (q.s.toList==s.toList)=true then some 0 else (prcI qs s).map (· + 1)
def kid (t:T) (i:Nat):T:=t.ks.getD i nil0
def fstT (back:Bool) (t:T):T:=if back=true then kid t (t.ks.length-1) else kid t 0
def lstT (back:Bool) (t:T):T:=if back=true then kid t 0 else kid t (t.ks.length-1)
def zkJ (prs:List PR) (F:Int):Nat->Bool->T->RS->Out
 | 0,_,_,_=>.gas
 | g+1,back,t,r =>
  if t.k=52 then
   zlX F (fstT back t) r fun yes r=>(zkY (zkJ prs F g back) (blkL back (if yes=true then kid t 1 else kid t 2)) r).bind (zlc F (lstT back t) yes)
  else if t.k=53 then
   (zlc F (fstT back t) true r).bind (zm6 F (zkJ prs F g back) (fstT back t) (lstT back t) (blkL back (kid t 1)) (blkL back (kid t 2)) g)
  else if t.k=54 then
   (zk5 F r).bind fun r=>valO (fstT back t) r fun x r=>(zkK r (zoT r.S ⟨t.s,1,0⟩ x)).bind fun r=>(zkY (zkJ prs F g back) (blkL back (kid t 1)) r).bind fun r =>
    (zk5 F r).bind fun r=>valO (lstT back t) r fun x r=>zkK r (zm3 r.S t.s x)
  else if t.k=55 then
   (zk5 F r).bind fun r=>(zkK r (zoT r.S ⟨t.s,3,0⟩ 0)).bind fun r=>(zkY (zkJ prs F g back) (blkL back (kid t 0)) r).bind fun r =>
    (zk5 F r).bind fun r=>zkK r (zm3 r.S t.s 0)
  else if t.k=50\/t.k=51 then
   match prcI prs t.s with
   | none=>.err 0
   | some i=>(zk5 F r).bind fun r=>(zkK r (zp7 r.S (prs.getD i ⟨⟨#[]⟩,[],nil0⟩).ps (t.ks.map (·.s)))).bind fun r =>
     (zkY (zkJ prs F g (back != decide (t.k=51))) (blkL (back != decide (t.k=51)) (prs.getD i ⟨⟨#[]⟩,[],nil0⟩).b) { r with ent:=r.ent.set i (r.ent.getD i 0+1) }).bind fun r =>
      (zk5 F r).bind fun r=>zkK r (zpW r.S)
  else (zk5 F r).bind fun r=>zkK r (if back=true then zls r.S t else doE r.S t)
def runO (prs:List PR) (F:Int) (g:Nat) (back:Bool) (b:T) (r:RS):Out:=zkY (zkJ prs F g back) (blkL back b) r
def Good (n:Nat) (o:Out):Prop:=o ≠ .gas/\∀ r,o=.ok r->n<=r.n
theorem Good.err (n:Nat) (e:Int):Good n (.err e):=⟨by simp,by simp⟩
theorem Good.ok {n:Nat} {r:RS} (h:n<=r.n):Good n (.ok r):=⟨by simp,fun r' e=>by injection e with e;subst e;exact h⟩
theorem Good.mono {m n:Nat} {o:Out} (h:Good n o) (hm:m<=n):Good m o:=⟨h.1,fun r e=>Nat.le_trans hm (h.2 r e)⟩
theorem Good.bind {m n:Nat} {o:Out} {f:RS->Out} (h:Good n o) (sZ:m<=n) (hf:∀ r,n<=r.n->o=.ok r->Good m (f r)):Good m (o.bind f):=by
 cases o with
 | gas=>exact absurd rfl h.1
 | err e=>exact Good.err _ _
 | ok r=>exact hf r (h.2 r rfl) rfl
theorem zkV {F:Int} {r r':RS} (h:zk5 F r=.ok r'):r'={ r with n:=r.n+1 }/\(r.n:Int)<F:=by
 unfold zk5 at h
 split at h
 ·cases h
 ·injection h with h;exact⟨h.symm,by omega⟩
theorem zkW (F:Int) (r:RS):Good (r.n+1) (zk5 F r):=by
 unfold zk5
 split
 ·exact Good.err _ _
 ·exact Good.ok (Nat.le_refl _)
theorem zk0 (r:RS) (R:Int×ST):Good r.n (zkK r R):=by
 unfold zkK
 split
 ·exact Good.err _ _
 ·exact Good.ok (Nat.le_refl _)
theorem znn {m:Nat} {t:T} {r:RS} {f:Int->RS->Out} (hf:∀ x,Good m (f x r)):Good m (valO t r f):=by
 unfold valO
 split
 ·exact Good.err _ _
 ·exact hf _
theorem zmw {m:Nat} {F:Int} {t:T} {r:RS} {f:Bool->RS->Out} (hm:m<=r.n+1) (hf:∀ b,(r.n:Int)<F->Good m (f b { r with n:=r.n+1 })):Good m (zlX F t r f):=by
 unfold zlX;refine(zkW F r).bind hm fun r' _ e=>?_;obtain⟨rfl,h⟩:=zkV e;exact znn fun x=>hf _ h
theorem zmb (F:Int) (t:T) (b:Bool) (r:RS):Good (r.n+1) (zlc F t b r):=by
 unfold zlc;refine zmw (Nat.le_refl _) fun b' _=>?_
 split
 ·exact Good.ok (Nat.le_refl _)
 ·exact Good.err _ _
theorem zoh {F:Int} {t:T} {b:Bool} {r r':RS} (h:zlc F t b r=.ok r'):r'={ r with n:=r.n+1 }/\(r.n:Int)<F:=by
 unfold zlc zlX at h
 cases hs:zk5 F r with
 | gas=>rw[hs] at h;cases h
 | err e=>rw[hs] at h;cases h
 | ok r1 =>
  rw[hs] at h;obtain⟨rfl,hl⟩:=zkV hs;simp only[Out.bind,valO] at h
  split at h
  ·cases h
  ·split at h
   ·injection h with h;exact⟨h.symm,hl⟩
   ·cases h
theorem zlq {f:T->RS->Out}:∀ (l:List T) (r:RS),(∀ t∈l,∀ r',r.n<=r'.n->Good r'.n (f t r'))->Good r.n (zkY f l r)
 | [],r,_=>Good.ok (Nat.le_refl _)
 | t::ts,r,h=>by
  rw[zkY];refine(h t (List.mem_cons_self ..) r (Nat.le_refl _)).bind (Nat.le_refl _) fun r1 h1 _=>?_;exact(zlq ts r1 fun u hu r' hr'=>h u (List.mem_cons_of_mem _ hu) r' (Nat.le_trans h1 hr')).mono h1
theorem zn3 {F:Int} {f:T->RS->Out} {entry test:T} {l1 l2:List T}:∀ (m:Nat) (r:RS),F.toNat-r.n<m->(∀ t∈l1,∀ r',r.n<=r'.n->Good r'.n (f t r'))->(∀ t∈l2,∀ r',r.n<=r'.n->Good r'.n (f t r'))->Good r.n (zm6 F f entry test l1 l2 m r)
 | 0,_,h,_,_=>by omega
 | m+1,r,h,h1,h2=>by
  rw[zm6];refine(zlq l1 r h1).bind (Nat.le_refl _) fun r1 hr1 _=>?_;refine zmw (by omega) fun b hF=>?_
  split
  ·exact Good.ok (by simp only;omega)
  ·refine(zlq l2 { r1 with n:=r1.n+1 } fun t ht r' hr'=>h2 t ht r' (by simp only at hr';omega)).bind (by simp only;omega) fun r2 hr2 _=>?_;refine(zmb F entry false r2).bind (by simp only at hr2;omega) fun r3 hr3 e=>?_;obtain⟨rfl,hF2⟩:=zoh e;refine(zn3 m _ ?_ (fun t ht r' hr'=>h1 t ht r' ?_) (fun t ht r' hr'=>h2 t ht r' ?_)).mono ?_
   all_goals (simp only at *;omega)
theorem zmu:∀ {ts:List T} {u:T},u∈ts->size u<=zk1 ts
 | t::ts,u,h=>by
  rw[zk1];rcases List.mem_cons.1 h with rfl|h
  ·omega
  ·have:=zmu h;omega
theorem zsO {t:T} {i:Nat} (h:i<t.ks.length):size (kid t i)<size t:=by
 obtain⟨k,n,s,ks⟩:=t;have h':i<ks.length:=h;have:kid (.nd k n s ks) i=ks[i]:=by simp[kid,h']
 rw[this,size];have:=zmu (List.getElem_mem h');omega
theorem zot {t u:T} (h:u∈t.ks):size u<size t:=by
 obtain⟨k,n,s,ks⟩:=t;rw[size];have:=zmu (ts:=ks) h;omega
theorem zle {back:Bool} {b u:T} (h:u∈blkL back b):u∈b.ks:=by
 unfold blkL at h
 split at h
 ·simpa using h
 ·exact h
theorem zrw (t:T) (i:Nat):∀ u∈(kid t i).ks,size u+1<size t:=by
 intro u hu;by_cases h:i<t.ks.length
 ·have:=zsO h;have:=zot hu;omega
 ·have:kid t i=nil0:=by
   unfold kid;rw[List.getD_eq_getElem?_getD,List.getElem?_eq_none (by omega)];rfl
  rw[this] at hu;simp[nil0] at hu
theorem zlQ {prs:List PR} {F:Int} {M:Nat} (hM:∀ q∈prs,size q.b<=M) (hM1:1<=M):∀ (g:Nat) (back:Bool) (t:T) (r:RS),(F.toNat-r.n)*M+size t<=g->Good r.n (zkJ prs F g back t r)
 | 0,_,t,r,h=>by
  have:0<size t:=by obtain⟨k,n,s,ks⟩:=t;rw[size];omega
  omega
 | g+1,back,t,r,h=>by
  have hmul:∀ a b:Nat,a<=b->a*M<=b*M:=fun a b h=>Nat.mul_le_mul_right _ h;have hone:F.toNat-r.n<=(F.toNat-r.n)*M:=Nat.le_mul_of_pos_right _ hM1;have hb:∀ (back:Bool) i r1,r.n<=r1.n->Good r1.n (zkY (zkJ prs F g back) (blkL back (kid t i)) r1):=fun back i r1 h1 =>
   zlq _ _ fun u hu r2 h2=>zlQ hM hM1 g back u r2 (by
    have:=zrw t i u (zle hu);have:=hmul (F.toNat-r2.n) (F.toNat-r.n) (by omega);omega)
  rw[zkJ]
  split
  ·refine zmw (by omega) fun yes hF=>?_;have:Good (r.n+1) (zkY (zkJ prs F g back) (blkL back (if yes=true then kid t 1 else kid t 2)) { r with n:=r.n+1 }):=by
    split
    ·exact hb back 1 _ (by simp only;omega)
    ·exact hb back 2 _ (by simp only;omega)
   exact this.bind (by omega) fun r1 h1 _=>(zmb _ _ _ _).mono (by omega)
  ·split
   ·refine(zmb _ _ _ _).bind (by omega) fun r1 h1 e=>?_;obtain⟨rfl,hF⟩:=zoh e;have hs:0<size t:=by obtain⟨k,n,s,ks⟩:=t;rw[size];omega
    refine(zn3 g _ (by simp only;omega) (fun u hu r' hr'=>?_) (fun u hu r' hr'=>?_)).mono (by simp only;omega)
    ·have:=zrw t 1 u (zle hu);have:=hmul (F.toNat-r'.n) (F.toNat-r.n) (by simp only at hr';omega);exact zlQ hM hM1 g back u r' (by omega)
    ·have:=zrw t 2 u (zle hu);have:=hmul (F.toNat-r'.n) (F.toNat-r.n) (by simp only at hr';omega);exact zlQ hM hM1 g back u r' (by omega)
   ·split
    ·refine(zkW F r).bind (by omega) fun r1 h1 _=>znn fun x=>?_;refine(zk0 r1 _).bind (by omega) fun r2 h2 _=>?_;refine(hb back 1 r2 (by omega)).bind (by omega) fun r3 h3 _=>?_;refine(zkW F r3).bind (by omega) fun r4 h4 _=>znn fun x=>?_;exact(zk0 r4 _).mono (by omega)
    ·split
     ·refine(zkW F r).bind (by omega) fun r1 h1 _=>?_;refine(zk0 r1 _).bind (by omega) fun r2 h2 _=>?_;refine(hb back 0 r2 (by omega)).bind (by omega) fun r3 h3 _=>?_;refine(zkW F r3).bind (by omega) fun r4 h4 _=>?_;exact(zk0 r4 _).mono (by omega)
     ·split
      ·split
       ·exact Good.err _ _
       ·rename_i i hi;refine(zkW F r).bind (by omega) fun r1 h1 e1=>?_;obtain⟨rfl,hF⟩:=zkV e1;refine(zk0 _ _).bind (by simp only;omega) fun r2 h2 _=>?_;have hbody:Good r2.n (zkY (zkJ prs F g (back != decide (t.k=51))) (blkL (back != decide (t.k=51)) (prs.getD i ⟨⟨#[]⟩,[],nil0⟩).b) { r2 with ent:=r2.ent.set i (r2.ent.getD i 0+1) }):=by
         refine zlq _ _ fun u hu r3 h3=>zlQ hM hM1 g _ u r3 ?_;have hu':=zle hu;by_cases hi:i<prs.length
         ·have hq:prs.getD i ⟨⟨#[]⟩,[],nil0⟩=prs[i]:=by simp[hi]
          rw[hq] at hu';have hl:=zot hu';have hMq:=hM _ (List.getElem_mem hi);have hsub:F.toNat-r3.n+1<=F.toNat-r.n:=by simp only at h2 h3;omega
          have:=hmul _ _ hsub;rw[Nat.add_mul,Nat.one_mul] at this;omega
         ·have hq:prs.getD i ⟨⟨#[]⟩,[],nil0⟩=⟨⟨#[]⟩,[],nil0⟩:=by
           rw[List.getD_eq_getElem?_getD,List.getElem?_eq_none (by omega)];rfl
          rw[hq] at hu';simp[nil0] at hu'
        refine hbody.bind (by simp only at h2;omega) fun r3 h3 _=>?_;refine(zkW F r3).bind (by simp only at h2;omega) fun r4 h4 _=>?_;exact(zk0 r4 _).mono (by simp only at h2;omega)
      ·refine(zkW F r).bind (by omega) fun r1 h1 _=>?_;exact(zk0 r1 _).mono (by omega)
structure CH where
 cell:Int
 at':Int
 old:Int
 new:Int
deriving DecidableEq
def part (s:SS) (c:Int):List Int:=if c = -1 then s.tin.reverse else if c = -2 then s.tout else s.cells.getD c.toNat []
def zkl (n:Nat):List Int:=(List.range n).map Int.ofNat++[-1,-2]
def chg1 (c:Int) (x y:List Int) (i:Nat):List CH:=if x.getD i 0≠y.getD i 0 then [⟨c,i,x.getD i 0,y.getD i 0⟩] else []
def chgL (c:Int) (x y:List Int):List CH:=if x.length≠y.length then [⟨c,-1,x.length,y.length⟩] else []
def dif1 (c:Int) (x y:List Int):List CH:=chgL c x y++(List.range (max x.length y.length)).flatMap (chg1 c x y)
def znH (a b:SS):List CH:=if a.cells.length≠b.cells.length then [] else (zkl a.cells.length).flatMap fun c=>dif1 c (part a c) (part b c)
def evsE:SS->List SS->List (List CH)
 | _,[]=>[]
 | s,x::l=>znH s x::evsE x l
def zk6:SS->List SS->SS
 | s,[]=>s
 | _,x::l=>zk6 x l
theorem zo0 (x:SS):∀ (s:SS) (l:List SS),evsE s (l++[x])=evsE s l++[znH (zk6 s l) x]
 | s,[]=>rfl
 | s,y::l=>by simp only[List.cons_append,evsE,zk6,zo0 x y l]
theorem zmU (x:SS):∀ (s:SS) (l:List SS),zk6 s (l++[x])=x
 | s,[]=>rfl
 | s,y::l=>zmU x y l
theorem zp5:∀ (s:SS) (l:List SS),(evsE s l).length=l.length
 | s,[]=>rfl
 | s,y::l=>by simp only[evsE,List.length_cons,zp5 y l]
inductive Tc where
 | blk (back:Bool) (l:List T)
 | stm (back:Bool) (t:T)
 | lop (back:Bool) (t:T)
inductive Tg (prs:List PR):Tc->ST->List SS->ST->Prop
 | nil (back:Bool) (S:ST):Tg prs (.blk back []) S [] S
 | cons {back:Bool} {t:T} {ts:List T} {S S1 S2:ST} {L1 L2:List SS} (h1:Tg prs (.stm back t) S L1 S1) (h2:Tg prs (.blk back ts) S1 L2 S2):Tg prs (.blk back (t::ts)) S (L1++L2) S2
 | bas {back:Bool} {t:T} {S:ST} (hk:¬ (50<=t.k/\t.k<=55)) (h0:(if back=true then zls S t else doE S t).1=0):Tg prs (.stm back t) S [(if back=true then zls S t else doE S t).2.state] (if back=true then zls S t else doE S t).2
 | iff {back:Bool} {t:T} {S S1:ST} {L:List SS} (hk:t.k=52) (h1:(zkI S.look (fstT back t)).2=0) (h2:Tg prs (.blk back (blkL back (if (zkI S.look (fstT back t)).1≠0 then kid t 1 else kid t 2))) S L S1)
   (h3:(zkI S1.look (lstT back t)).2=0) (h4:(zkI S1.look (lstT back t)).1≠0↔(zkI S.look (fstT back t)).1≠0):Tg prs (.stm back t) S (S.state::L++[S1.state]) S1
 | frm {back:Bool} {t:T} {S S1:ST} {L:List SS} (hk:t.k=53) (h1:(zkI S.look (fstT back t)).1≠0) (h2:Tg prs (.lop back t) S L S1):Tg prs (.stm back t) S L S1
 | done {back:Bool} {t:T} {S S1:ST} {L:List SS} (h1:(zkI S.look (fstT back t)).2=0) (h2:Tg prs (.blk back (blkL back (kid t 1))) S L S1) (h3:(zkI S1.look (lstT back t)).2=0) (h4:(zkI S1.look (lstT back t)).1≠0):Tg prs (.lop back t) S (S.state::L++[S1.state]) S1
 | more {back:Bool} {t:T} {S S1 S2 S3:ST} {L L2 L3:List SS} (h1:(zkI S.look (fstT back t)).2=0) (h2:Tg prs (.blk back (blkL back (kid t 1))) S L S1) (h3:(zkI S1.look (lstT back t)).2=0) (h4:(zkI S1.look (lstT back t)).1=0)
   (h5:Tg prs (.blk back (blkL back (kid t 2))) S1 L2 S2) (h6:(zkI S2.look (fstT back t)).1=0) (h7:Tg prs (.lop back t) S2 L3 S3):Tg prs (.lop back t) S (S.state::L++S1.state::L2++L3) S3
 | loc {back:Bool} {t:T} {S S2:ST} {L:List SS} (hk:t.k=54) (h1:(zkI S.look (fstT back t)).2=0) (h2:(zoT S ⟨t.s,1,0⟩ (zkI S.look (fstT back t)).1).1=0) (h3:Tg prs (.blk back (blkL back (kid t 1))) (zoT S ⟨t.s,1,0⟩ (zkI S.look (fstT back t)).1).2 L S2)
   (h4:(zkI S2.look (lstT back t)).2=0) (h5:(zm3 S2 t.s (zkI S2.look (lstT back t)).1).1=0):Tg prs (.stm back t) S ((zoT S ⟨t.s,1,0⟩ (zkI S.look (fstT back t)).1).2.state::L++[(zm3 S2 t.s (zkI S2.look (lstT back t)).1).2.state]) (zm3 S2 t.s (zkI S2.look (lstT back t)).1).2
 | stk {back:Bool} {t:T} {S S2:ST} {L:List SS} (hk:t.k=55) (h2:(zoT S ⟨t.s,3,0⟩ 0).1=0) (h3:Tg prs (.blk back (blkL back (kid t 0))) (zoT S ⟨t.s,3,0⟩ 0).2 L S2) (h5:(zm3 S2 t.s 0).1=0) :
   Tg prs (.stm back t) S ((zoT S ⟨t.s,3,0⟩ 0).2.state::L++[(zm3 S2 t.s 0).2.state]) (zm3 S2 t.s 0).2
 | cal {back:Bool} {t:T} {S S2:ST} {L:List SS} {i:Nat} (hk:t.k=50\/t.k=51) (h1:prcI prs t.s=some i) (h2:(zp7 S (prs.getD i ⟨⟨#[]⟩,[],nil0⟩).ps (t.ks.map (·.s))).1=0)
   (h3:Tg prs (.blk (back != decide (t.k=51)) (blkL (back != decide (t.k=51)) (prs.getD i ⟨⟨#[]⟩,[],nil0⟩).b)) (zp7 S (prs.getD i ⟨⟨#[]⟩,[],nil0⟩).ps (t.ks.map (·.s))).2 L S2) (h4:(zpW S2).1=0) :
   Tg prs (.stm back t) S ((zp7 S (prs.getD i ⟨⟨#[]⟩,[],nil0⟩).ps (t.ks.map (·.s))).2.state::L++[(zpW S2).2.state]) (zpW S2).2
section
variable {E:Prop} {Rl:Nat->ST->ST->Prop} {F F' k:Int} {o o':Out}
end
section
variable {S:ST} {l:List Int}
end
section
variable {ρ ρ':Nat->Nat->Prop} {f g:FR} {S S' S'':ST} {a b:Nat}
end
abbrev zpt (x:Int):Ending:=.panicked [{ v:=.iface 210 (.agg #[.int .i64 x]),recovered:=false }]
theorem zqe (x:Int) (hx:x≠0) (w:World):Calls Tryz.prog 212 #[.int .i64 x] w fun e w'=>e=zpt x/\w'=w:=by
 have e1:(x==0)=false:=by simpa using hx
 have hb:∀ w,(Instr.build 210 #[(0,.int .i64 x)]).run Tryz.prog w=.ok (.agg #[.int .i64 x]) w:=fun w=>by kernel_rfl
 go_enter Tryz.func212,Tryz.ntmps212;go_wp2_with fail;exact⟨rfl,rfl,rfl⟩
theorem zoq {W W':World} {base:Nat} {E:TypeId} {size:Nat} {v:Value} {n:Nat} {xs:List Value} (h:W.ownsRow base E size v n xs) (hk:∀ b,v.ownBlock=some b->W'.heap[b]?=W.heap[b]?):W'.ownsRow base E size v n xs:=by
 obtain⟨e1,h2⟩:=h;refine⟨e1,?_⟩;rcases h2 with h2|⟨g,cap,cur,rfl,hb,hg,rest⟩
 ·exact .inl h2
 ·exact .inr ⟨g,cap,cur,rfl,hb,(hk g rfl).trans hg,rest⟩
structure RC where
 w:World
 n0:Nat
 sb:Nat
 rb:Nat
 p:PG
 A1:Option Addr
 c1:Nat
 A2:Option Addr
 c2:Nat
 A3:Option Addr
 c3:Nat
 F:Int
 ev:Value
 kb:Nat->Prop
structure RC.Ok (C:RC):Prop where
 pg:PgR C.w Any C.p C.A1 C.c1 C.A2 C.c2 C.A3 C.c3
 F:I64 C.F
 F6:C.F<=1000000
 rb:C.n0<=C.rb/\¬ C.kb C.rb
 ev:C.ev.ownBlock≠some C.rb/\∀ b,C.ev.ownBlock=some b->¬ C.kb b
 ps:∀ q∈C.p.prs,q.ps.length<=1000
def RC.cells (C:RC) (n:Nat):Array Value := #[.slice C.A1 C.p.vs.length C.c1,.slice C.A2 C.p.prs.length C.c2,.int .u8 C.p.m.k,.int .i64 C.p.m.n,.string C.p.m.s,.slice C.A3 C.p.m.ks.length C.c3,.pointer (some ⟨C.sb,0,none⟩),.int .i64 n,.int .i64 C.F,C.ev]
def FB (j:Nat) (S:ST):Prop:=S.base.vs.length<=1000+j/\∀ f∈S.calls,f.vs.length<=1000+j
structure RI (C:RC) (W:World) (r:RS):Prop where
 ks:KS C.w C.n0 C.sb (fun b=>C.kb b\/b=C.rb\/C.ev.ownBlock=some b) W r.S
 box:W.heap[C.rb]?=some (.cells (C.cells r.n) 174 (0,0))
 ent:W.ownsRow C.n0 3 1 C.ev r.ent.length (zkf (r.ent.map Int.ofNat))
 el:r.ent.length=C.p.prs.length
 en:∀ c∈r.ent,c<=r.n
 n:(r.n:Int)<=1000000
 fb:FB r.n r.S
section
variable {C:RC} {W W' W'':World} {r r':RS}
theorem RI.below (h:RI C W r):Below C.w.heap.size C.w W:=h.ks.bl
theorem RI.later (h:RI C W r) (hb:Below W.heap.size W W'):RI C W' r:=⟨h.ks.later hb,zkc h.box hb,zkt h.ent hb,h.el,h.en,h.n,h.fb⟩
def RunP (C:RC) (W:World) (o:Out) (e:Ending) (W':World):Prop :=
 Kpt C.n0 C.kb W W'/\Below C.w.heap.size C.w W'/\match o with
 | .gas=>True
 | .err x=>e=zpt x
 | .ok r=>(∃ u,e=.returned u)/\RI C W' r
theorem RI.cells (h:RI C W r):W.cell? ⟨C.rb,6,none⟩=some (.pointer (some ⟨C.sb,0,none⟩))/\W.cell? ⟨C.rb,7,none⟩=some (.int .i64 r.n)/\W.cell? ⟨C.rb,8,none⟩=some (.int .i64 C.F)/\W.cell? ⟨C.rb,9,none⟩=some C.ev/\∀ o,W.frozen? ⟨C.rb,o,none⟩=false :=
 ⟨zc h.box rfl,zc h.box rfl,zc h.box rfl,zc h.box rfl,fun _=>zf h.box⟩
theorem FB.mono {j k:Nat} {S:ST} (h:FB j S) (hk:j<=k):FB k S:=⟨by have:=h.1;omega,fun f hf=>by have:=h.2 f hf;omega⟩
theorem Kpt.chg {n0:Nat} {kb Cc:Nat->Prop} (h:Chg Cc W W') (hC:∀ b,Cc b->n0<=b/\¬ kb b):Kpt n0 kb W W' :=
 ⟨h.size,fun b hb hk=>h.block b hb fun hc=>by rcases hk with hk|hk;have:=(hC b hc).1;omega;exact(hC b hc).2 hk⟩
theorem RI.tick (hC:C.Ok) (h:RI C W r) (hF:(r.n:Int)<C.F):RI C (W.setCell ⟨C.rb,7,none⟩ (.int .i64 ((r.n:Int)+1))) { r with n:=r.n+1 }/\Kpt C.n0 C.kb W (W.setCell ⟨C.rb,7,none⟩ (.int .i64 ((r.n:Int)+1))):=by
 have hch:Chg (fun b=>b=C.rb) W (W.setCell ⟨C.rb,7,none⟩ (.int .i64 ((r.n:Int)+1))):=(Chg.refl (fun b=>b=C.rb) W).setCell (p:=⟨C.rb,7,none⟩) (.inl rfl) _;have hn:=h.ks.hn;refine⟨⟨h.ks.chg hch fun b _ e=>⟨by have:=hC.rb.1;omega,.inr (.inr (.inl e))⟩,?_,zoq h.ent fun b hb=>?_,h.el,fun c hc=>by have:=h.en c hc;simp only;omega,by have:=hC.F6;simp only;omega,h.fb.mono (Nat.le_succ _)⟩,Kpt.chg hch fun b e=>⟨by have:=hC.rb.1;omega,by rw[e];exact hC.rb.2⟩⟩
 ·have:=heap_setCell_same W C.rb 7 _ _ (.int .i64 ((r.n:Int)+1)) h.box;rw[this];simp[RC.cells]
 ·have hne:b≠C.rb:=fun e=>hC.ev.1 (by rw[hb,e]);have hlt:=(h.ent.lt b hb).2;exact hch.block b hlt hne
end
theorem zsx {C:RC} (hC:C.Ok) {W:World} {r:RS} (h:RI C W r):Calls Tryz.prog 196 #[.pointer (some ⟨C.rb,0,none⟩)] W (RunP C W (zk5 C.F r)):=by
 obtain⟨-,y7,y8,-,yf⟩:=h.cells;have qo:=h.n;obtain⟨rb,hrb⟩:∃ b,C.rb=b:=⟨_,rfl⟩
 obtain⟨F,hF⟩:∃ b,C.F=b:=⟨_,rfl⟩
 obtain⟨n,hn⟩:∃ b,r.n=b:=⟨_,rfl⟩
 have HS:=zh (show(fun w':World=>w'.cell? ⟨rb,7,none⟩=some (.int .i64 n)/\w'.cell? ⟨rb,8,none⟩=some (.int .i64 F)) W.drew from ⟨by rw[<-hrb,<-hn];exact y7,by rw[<-hrb,<-hF];exact y8⟩);have hd:Below W.heap.size W W.drew:=(Below.refl _ _).drew;have HK:=zh (show Kpt C.n0 C.kb W W.drew/\Below C.w.heap.size C.w W.drew from ⟨Kpt.of_below hd,zka h.below hd⟩);have HT:=zh (fun hlt=>RI.tick hC h hlt);have fI:=zh h.below;have yf':∀ o,W.drew.frozen? ⟨rb,o,none⟩=false:=by rw[<-hrb];exact yf
 rw[hrb] at HT;rw[hn] at HT qo;rw[hF] at HT;by_cases hlt:F<=(n:Int)
 ·have HO:=zh (show zk5 C.F r=.err 18 by unfold zk5;rw[if_pos (by rw[hF,hn];exact hlt)]);rw[hrb];clear h y7 y8 yf hrb hF hn HT;go_enter Tryz.func196,Tryz.ntmps196;go_upto_region 0 with fail
  go_region_held3 (fun w':World=>w'.cell? ⟨rb,7,none⟩=some (.int .i64 n)/\w'.cell? ⟨rb,8,none⟩=some (.int .i64 F))
   (with_reducible exact HS.out)
   (first|fail)
  go_wp2_with fail;refine(zqe 18 (by decide) _).mono ?_;rintro e w1 ⟨rfl,rfl⟩;refine⟨rfl,?_⟩;rw[HO.out];exact⟨HK.out.1,HK.out.2,rfl⟩
 ·have hw1:IntKind.i64.wrap ((n:Int)+1)=(n:Int)+1:=IntWalk.i64_in _ (by omega);have HO:=zh (show zk5 C.F r=.ok { r with n:=n+1 } by unfold zk5;rw[if_neg (by rw[hF,hn];exact hlt),hn]);have HT2:=zh (HT.out (by omega));rw[hrb];have hlt':¬ F<=(n:Int):=hlt;clear h y7 y8 yf hrb hF hn HT;go_enter Tryz.func196,Tryz.ntmps196;go_upto_region 0 with fail
  go_region_held3 (fun w':World=>w'.cell? ⟨rb,7,none⟩=some (.int .i64 n)/\w'.cell? ⟨rb,8,none⟩=some (.int .i64 F))
   (with_reducible exact HS.out)
   (first|fail)
  obtain⟨z7,z8⟩:=HS.out;go_wp2_with fail;go_end0;rw[HO.out];have hd2:∀ W:World,Below W.heap.size W W.drew:=fun W=>(Below.refl _ _).drew;exact⟨HT2.out.2.trans (Kpt.of_below (hd2 _)),(HT2.out.1.later (hd2 _)).below,⟨_,rfl⟩,HT2.out.1.later (hd2 _)⟩
theorem zo3 (p:Addr) (x:Int) (w:World):Calls Tryz.prog 197 #[.pointer (some p),.int .i64 x] w fun e w'=>w'=w/\((x=0/\∃ u,e=.returned u)\/(x≠0/\e=zpt x)):=by
 by_cases hx:x=0
 ·subst hx;go_enter Tryz.func197,Tryz.ntmps197;go_wp2_with fail;go_end0;exact⟨rfl,.inl ⟨trivial,_,rfl⟩⟩
 ·have e1:(x != 0)=true:=by simpa using hx
  go_enter Tryz.func197,Tryz.ntmps197;go_wp2_with fail;refine(zqe x hx _).mono ?_;rintro e w1 ⟨rfl,rfl⟩;exact⟨rfl,rfl,.inr ⟨hx,rfl⟩⟩
def RC.plus (C:RC) (lo hi:Nat):RC:={ C with kb:=fun b=>C.kb b\/(lo<=b/\b<hi) }
section
variable {C:RC} {W W' W'':World} {r r':RS} {lo hi:Nat}
theorem RI.rlt (h:RI C W r):C.rb<W.heap.size:=zko h.box
theorem RI.plus (hC:C.Ok) (h:RI C W r) (hb:Below W.heap.size W W'):(C.plus W.heap.size W'.heap.size).Ok/\RI (C.plus W.heap.size W'.heap.size) W' r:=by
 have h1:=h.rlt;refine⟨⟨hC.pg,hC.F,hC.F6,⟨hC.rb.1,fun hk=>?_⟩,⟨hC.ev.1,fun b hb' hk=>?_⟩,hC.ps⟩,⟨h.ks.also hb fun b hk=>?_,zkc h.box hb,zkt h.ent hb,h.el,h.en,h.n,h.fb⟩⟩
 ·rcases hk with hk|hk
  ·exact hC.rb.2 hk
  ·have:W.heap.size<=C.rb:=hk.1;omega
 ·rcases hk with hk|hk
  ·exact hC.ev.2 b hb' hk
  ·have:=(h.ent.lt b hb').2;have:=hk.1;omega
 ·rcases hk with(hk|hk)|hk|hk
  ·exact .inl (.inl hk)
  ·exact .inr hk
  ·exact .inl (.inr (.inl hk))
  ·exact .inl (.inr (.inr hk))
theorem RI.less (h:RI (C.plus lo hi) W r):RI C W r :=
 ⟨h.ks.less fun b hk=>hk.elim (fun hk=>.inl (.inl hk)) .inr,h.box,h.ent,h.el,h.en,h.n,h.fb⟩
theorem Kpt.less (h:Kpt C.n0 (C.plus lo hi).kb W W'):Kpt C.n0 C.kb W W':=⟨h.size,fun b hb hk=>h.kept b hb (hk.imp id .inl)⟩
end
theorem zero_I64:I64 0:=⟨by decide,by decide⟩
section
variable {P:Program} {ops:Array Oper} {Q:Exit->Act->World->Prop} {md:Region.Mode} {S1 S2:World->Prop} {k:Nat}
end
def IStC (G:List PR->T->Prop) (g:Nat):Prop:=∀ C:RC,C.Ok->∀ (W:World) (r:RS),RI C W r->∀ (t:T) (v:Value) (back:Bool),NV C.w Any t v->G C.p.prs t->zkJ C.p.prs C.F g back t r ≠ .gas ->
 Calls Tryz.prog 157 #[.pointer (some ⟨C.rb,0,none⟩),v,.bool back] W (RunP C W (zkJ C.p.prs C.F g back t r))
theorem zqB {G:List PR->T->Prop} {g:Nat} (hS:IStC G g) {C:RC} (hC:C.Ok) {W:World} {r:RS} (h:RI C W r) (t:T) (v:Value) (back:Bool) (hv:NV C.w Any t v) (hG:∀ u∈t.ks,G C.p.prs u) (hgas:runO C.p.prs C.F g back t r ≠ .gas) :
  Calls Tryz.prog 118 #[.pointer (some ⟨C.rb,0,none⟩),v,.bool back] W (RunP C W (runO C.p.prs C.F g back t r)):=by
 obtain⟨A,c,rfl,-,hlk,hlc,hrow⟩:=hv.open_;have ag:=zh hrow;have HS:=zh hS;have HG:=zh hG;have hb0:=zkd (Below.refl W.heap.size W) (.cells #[.int .u8 t.k,.int .i64 t.n,.string t.s,.slice A t.ks.length c] 29);obtain⟨dm,h1⟩:=h.plus hC hb0;have hz1:(W.alloc (.cells #[.int .u8 t.k,.int .i64 t.n,.string t.s,.slice A t.ks.length c] 29)).heap.size=W.heap.size+1:=by simp
 have hbx:=box4 (heap_alloc_new W (.cells #[.int .u8 t.k,.int .i64 t.n,.string t.s,.slice A t.ks.length c] 29));have bP:=zh (Kpt.of_below (n0:=C.n0) (kb:=C.kb) hb0);obtain⟨W1,hW1⟩:∃ x,W.alloc (.cells #[.int .u8 t.k,.int .i64 t.n,.string t.s,.slice A t.ks.length c] 29)=x:=⟨_,rfl⟩
 rw[hW1] at dm h1 hz1 hbx bP;obtain⟨hi,hhi⟩:∃ x,W1.heap.size=x:=⟨_,rfl⟩
 rw[hhi] at dm h1 hz1;have iU:=zh dm;have H1:=zh h1;have ax:=zh hbx;have hz2:W.heap.size<hi:=by omega
 have hwn:IntKind.i64.wrap ((t.ks.length:Int)-1)=(t.ks.length:Int)-1:=IntWalk.i64_in _ (by unfold LK at hlk;omega);have hwq:∀ j:Nat,j<t.ks.length->IntKind.i64.wrap ((t.ks.length:Int)-1-(j:Int))=((t.ks.length-1-j:Nat):Int):=fun j hj=>by rw[IntWalk.i64_in _ (by unfold LK at hlk;omega)];omega
 obtain⟨o,ho⟩:∃ o,runO C.p.prs C.F g back t r=o:=⟨_,rfl⟩
 have HO:=zh (show zkY (zkJ C.p.prs C.F g back) ((blkL back t).drop 0) r=o by rw[List.drop_zero];exact ho);have mf:=zh (show o ≠ .gas from ho▸hgas);have dA:(blkL back t).length=t.ks.length:=by unfold blkL;split<;>simp
 rw[ho];have cB:=zh dA;have hlk2:t.ks.length<=17592186044416:=by unfold LK at hlk;omega
 clear dA hlk;clear hv dm h1 hbx hb0 h hz1 hS hG hrow ho hgas;obtain⟨x0,x1,x2,x3⟩:=ax.out;go_enter Tryz.func118,Tryz.ntmps118;go_wp2_with fail;clear x0 x1 x2 x3 hW1
 go_loopw [15] (fun i wr=>∃ (j:Nat) (r1:RS),j<=t.ks.length/\i=.int .i64 j/\Hid (RI (C.plus W.heap.size hi) wr r1)/\Hid (Kpt C.n0 (C.plus W.heap.size hi).kb W1 wr)/\Hid (zkY (zkJ C.p.prs C.F g back) ((blkL back t).drop j) r1=o)) (fun i _=>t.ks.length-(intOf i).toNat)
 case atStart=>exact⟨0,r,Nat.zero_le _,rfl,H1,zh (Kpt.refl _ _ _),HO⟩
 case round =>
  obtain⟨j,r1,hj,rfl,HR,HK,HB⟩:=hrel;by_cases hlt:j<t.ks.length
  ·cases back
   ·skip
    have hj1:(j:Int)<(t.ks.length:Int):=by omega
    have hj0:(0:Int)<=(j:Int):=by omega
    have fQ:j<t.ks.length:=by omega
    have nK:(j:Int)<(t.ks.length:Int):=by omega
    have nL:(0:Int)<=(j:Int):=by omega
    have aO:=HR.out.below;obtain⟨a,u,A1,c1,rfl,-,hu,⟨p0,p1,p2,p3⟩,hnu⟩:=ag.out.nd fQ;have hgu:=HG.out u (by rw[<-hu.out];exact List.getElem_mem _);have hbs:zkY (zkJ C.p.prs C.F g false) ((blkL false t).drop j) r1=(zkJ C.p.prs C.F g false u r1).bind (zkY (zkJ C.p.prs C.F g false) ((blkL false t).drop (j+1))):=by
     rw[show(blkL false t).drop j=u::(blkL false t).drop (j+1) by rw[List.drop_eq_getElem_cons (by rw[cB.out];exact hlt),<-hu.out];congr 1;all_goals simp[blkL,hlt]];rfl
    rw[HB.out] at hbs;have mi:=zh hbs;have jU:=zh (HS.out (C.plus W.heap.size hi) iU.out wr r1 HR.out u _ false hnu hgu (fun e=>mf.out (by rw[hbs,show zkJ C.p.prs C.F g false u r1=.gas from e];rfl)));have q0:=zb aO p0;have q1:=zb aO p1;have q2:=zb aO p2;have q3:=zb aO p3;have x3:wr.cell? ⟨W.heap.size,3,none⟩=some (.slice (some a) t.ks.length c):=HK.out.cell (.inr (.inr ⟨Nat.le_refl _,hz2⟩)) ax.out.2.2.2;clear hbs aO hnu hgu p0 p1 p2 p3 hu;go_wp2_with fail;refine jU.out.mono ?_;rintro e w2 ⟨hk2,hb2,ho2⟩;have dY:match zkJ C.p.prs C.F g false u r1 with
     | .gas=>True
     | .err x=>e=zpt x
     | .ok r=>(∃ u,e=.returned u)/\RI (C.plus W.heap.size hi) w2 r:=ho2
    have bG:=zh (HK.out.trans hk2);clear ho2 hk2 jU q0 q1 q2 q3 x3
    cases hx:zkJ C.p.prs C.F g false u r1 with
    | gas=>exact absurd (by rw[mi.out,hx];rfl) mf.out
    | err x =>
     rw[hx] at dY;subst dY;have ho3:o=.err x:=by rw[mi.out,hx];rfl
     dsimp only;refine⟨rfl,bP.out.trans (Kpt.less bG.out),hb2,?_⟩;rw[ho3]
    | ok r2 =>
     rw[hx] at dY;obtain⟨⟨u2,rfl⟩,hr2⟩:=dY;have HR2:=zh hr2;have HB2:=zh (show zkY (zkJ C.p.prs C.F g false) ((blkL false t).drop (j+1)) r2=o by rw[mi.out,hx];rfl);clear hr2 hx;go_wp2_with fail
     go_roundw
     case rel=>exact⟨j+1,r2,by omega,by go_num,HR2,bG,HB2⟩
     case measure=>simp[intOf];omega
   ·skip
    have nA:=hwq j hlt;obtain⟨q,hq⟩:∃ q,t.ks.length-1-j=q:=⟨_,rfl⟩
    rw[hq] at nA;have hj1:(j:Int)<(t.ks.length:Int):=by omega
    have hj0:(0:Int)<=(j:Int):=by omega
    have fQ:q<t.ks.length:=by omega
    have nK:(q:Int)<(t.ks.length:Int):=by omega
    have nL:(0:Int)<=(q:Int):=by omega
    have aO:=HR.out.below;obtain⟨a,u,A1,c1,rfl,-,hu,⟨p0,p1,p2,p3⟩,hnu⟩:=ag.out.nd fQ;have hgu:=HG.out u (by rw[<-hu.out];exact List.getElem_mem _);have hbs:zkY (zkJ C.p.prs C.F g true) ((blkL true t).drop j) r1=(zkJ C.p.prs C.F g true u r1).bind (zkY (zkJ C.p.prs C.F g true) ((blkL true t).drop (j+1))):=by
     rw[show(blkL true t).drop j=u::(blkL true t).drop (j+1) by rw[List.drop_eq_getElem_cons (by rw[cB.out];exact hlt),<-hu.out];congr 1;all_goals simp[blkL,hq]];rfl
    rw[HB.out] at hbs;have mi:=zh hbs;have jU:=zh (HS.out (C.plus W.heap.size hi) iU.out wr r1 HR.out u _ true hnu hgu (fun e=>mf.out (by rw[hbs,show zkJ C.p.prs C.F g true u r1=.gas from e];rfl)));have q0:=zb aO p0;have q1:=zb aO p1;have q2:=zb aO p2;have q3:=zb aO p3;have x3:wr.cell? ⟨W.heap.size,3,none⟩=some (.slice (some a) t.ks.length c):=HK.out.cell (.inr (.inr ⟨Nat.le_refl _,hz2⟩)) ax.out.2.2.2;clear hbs aO hnu hgu p0 p1 p2 p3 hu;go_wp2_with fail;refine jU.out.mono ?_;rintro e w2 ⟨hk2,hb2,ho2⟩;have dY:match zkJ C.p.prs C.F g true u r1 with
     | .gas=>True
     | .err x=>e=zpt x
     | .ok r=>(∃ u,e=.returned u)/\RI (C.plus W.heap.size hi) w2 r:=ho2
    have bG:=zh (HK.out.trans hk2);clear ho2 hk2 jU q0 q1 q2 q3 x3
    cases hx:zkJ C.p.prs C.F g true u r1 with
    | gas=>exact absurd (by rw[mi.out,hx];rfl) mf.out
    | err x =>
     rw[hx] at dY;subst dY;have ho3:o=.err x:=by rw[mi.out,hx];rfl
     dsimp only;refine⟨rfl,bP.out.trans (Kpt.less bG.out),hb2,?_⟩;rw[ho3]
    | ok r2 =>
     rw[hx] at dY;obtain⟨⟨u2,rfl⟩,hr2⟩:=dY;have HR2:=zh hr2;have HB2:=zh (show zkY (zkJ C.p.prs C.F g true) ((blkL true t).drop (j+1)) r2=o by rw[mi.out,hx];rfl);clear hr2 hx;go_wp2_with fail
     go_roundw
     case rel=>exact⟨j+1,r2,by omega,by go_num,HR2,bG,HB2⟩
     case measure=>simp[intOf];omega
  ·have ho3:o=.ok r1:=by
    rw[<-HB.out,show(blkL back t).drop j=[] by rw[List.drop_eq_nil_iff,cB.out];omega];rfl
   have hbr:=HR.out.below;have hj1:¬ (j:Int)<(t.ks.length:Int):=by omega
   go_wp2_with fail;go_end0;refine⟨bP.out.trans (Kpt.less HK.out),hbr,?_⟩
   try rw[ho3]
   exact⟨⟨_,rfl⟩,HR.out.less⟩
section
variable {m n:Nat} {o:Out} {F:Int} {t:T} {r:RS}
end
def stp (rb:Nat) (W:World):Nat:=match W.cell? ⟨rb,7,none⟩ with
 | some (.int _ n)=>n.toNat
 | _=>0
section
variable {C:RC} {W W':World} {r:RS} {S':ST}
theorem RI.store (h:RI C W r) (hk:KS C.w C.n0 C.sb (fun b=>C.kb b\/b=C.rb\/C.ev.ownBlock=some b) W' S') (hp:Kpt C.n0 (fun b=>C.kb b\/b=C.rb\/C.ev.ownBlock=some b) W W') (hf:FB r.n S') :
  RI C W' { r with S:=S' }/\Kpt C.n0 C.kb W W' :=
 ⟨⟨hk,hp.blk (.inr (.inr (.inl rfl))) h.box,zoq h.ent fun b hb=>hp.kept b (h.ent.lt b hb).2 (.inr (.inr (.inr hb))),h.el,h.en,h.n,hf⟩,⟨hp.size,fun b hb hk=>hp.kept b hb (hk.imp id .inl)⟩⟩
end
theorem FB.fr {j:Nat} {S S':ST} (h:FB j S) (hf:FrK S S'):FB (j+1) S':=by
 obtain⟨h1,h2,_⟩:=hf;unfold FB;rw[h1,h2];exact h.mono (Nat.le_succ _)
theorem FB.do_ {j:Nat} {S:ST} (h:FB j S) (t:T):FB (j+1) (doE S t).2:=h.fr (ztQ _ _)
theorem FB.undo {j:Nat} {S:ST} (h:FB j S) (t:T):FB (j+1) (zls S t).2:=h.fr (zst _ _)
theorem znY {P:Program} {ops:Array Oper} {o:Oper} {a:Act} {w:World} {K:Act->World->Prop} {Q:Exit->Act->World->Prop} {F:Prop} (hw:Region.wanted o (yielded ops a.tmps)=true) (x:Operand) (xs:List Operand) (ats:Array TypeId)
  (ho:o.op=.call { callee:=.value x,args:=xs.toArray,argTypes:=ats }) (f:FuncId) (fn:Func) (hf:IsFn P f fn) (hv:a.eval x=.func (.func f) #[] #[]) (l:List Value) (hargs:xs.map a.eval=l) (R:Value->World->Prop)
  (hc:Calls P f l.toArray w fun e w'=>(∃ v,e=.returned v/\R v w')\/∃ ch,e=.panicked ch/\Q (.panic ch) a w') (h:∀ v w',R v w'->K (a.put o.dst v) w') :
  if Region.wanted o (yielded ops a.tmps)=true then Oper.wp P o a w K Q else F:=by
 rw[if_pos hw];subst hargs;have e:(execOp a.eval o).run P w=.ok (.enter f (xs.map a.eval).toArray) w:=by
  unfold execOp;simp only[ho,resolve,hv,Deferred.ofValue,Sem.run_bind,Sem.run_pure,Result.andThen_ok,invoke,zkH hf,Array.empty_append,List.map_toArray,Array.append_empty]
 unfold Oper.wp;rw[e,Oper.upon_enter];refine hc.mono ?_;rintro e w' (⟨v,rfl,hR⟩|⟨ch,rfl,hq⟩)
 ·exact h v w' hR
 ·exact hq
theorem zp2:IsFn Tryz.prog 197 Tryz.f197:=⟨Tryz.func197,by kernel_rfl,by kernel_rfl⟩
end Go.Proofs.YtckhofdinldhpaaGreat
