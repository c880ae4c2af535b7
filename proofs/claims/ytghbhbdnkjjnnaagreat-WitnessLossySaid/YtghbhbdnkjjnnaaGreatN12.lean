/-
  Texts of the proof, put together without their remarks: Wfa, Wlo, Wco, Waw, Wbs, Lwn, Alt, Wak.
-/
import Derived.Test.YtghbhbdnkjjnnaaGreatN11
import Derived.Maps.OwnIn
set_option linter.unusedSimpArgs false
set_option linter.unusedVariables false
set_option maxHeartbeats 8000000
set_option maxRecDepth 100000
namespace Go.Proofs.YtghbhbdnkjjnnaaGreat
open Go Go.RowKit
attribute [local go_sem] Oper.semAt_some
def zlT (vs:List VD) (prs:List PR) (t:T):PG:=⟨vs,prs,.nd 57 0 ⟨#[]⟩ [t]⟩
def zn5 (p:PG) (F:Int) (s:SS):Bool:=decide ((resO p s F (F.toNat*2000+2000) false).2.2.1=15)
theorem al5 (W:World) (o0 o1 o2 o3 o4:Obj):Below W.heap.size W (((((W.alloc o0).alloc o1).alloc o2).alloc o3).alloc o4)/\(((((W.alloc o0).alloc o1).alloc o2).alloc o3).alloc o4).heap.size=W.heap.size+5/\(((((W.alloc o0).alloc o1).alloc o2).alloc o3).alloc o4).heap[W.heap.size]?=some o0/\(((((W.alloc o0).alloc o1).alloc o2).alloc o3).alloc o4).heap[W.heap.size+1]?=some o1/\(((((W.alloc o0).alloc o1).alloc o2).alloc o3).alloc o4).heap[W.heap.size+2]?=some o2/\(((((W.alloc o0).alloc o1).alloc o2).alloc o3).alloc o4).heap[W.heap.size+3]?=some o3/\(((((W.alloc o0).alloc o1).alloc o2).alloc o3).alloc o4).heap[W.heap.size+4]?=some o4 :=
 ⟨zkc (zkc (zkc (zkc (zkc (Below.refl _ _) _) _) _) _) _,by simp,zkf (zkf (zkf (zkf (zlA _ rfl _) _) _) _) _,zkf (zkf (zkf (zlA _ (by simp) _) _) _) _,zkf (zkf (zlA _ (by simp) _) _) _,zkf (zlA _ (by simp) _) _,zlA _ (by simp) _⟩
theorem zxc {w:World} {S:Nat->Prop} {k n k1 n1:Int} {s s1:ByteArray} {ks:List T} {A:Option Addr} {l c b:Nat} (hf:Fld k n s) (hb:S b) (hk:w.heap[b]?=some (.cells #[.int .u8 k1,.int .i64 n1,.string s1,.slice A l c] 24 (0,0)))
  (h:NV w S (.nd k1 n1 s1 ks) (.agg #[.int .u8 k1,.int .i64 n1,.string s1,.slice A l c])):NV w S (.nd k n s [.nd k1 n1 s1 ks]) (.agg #[.int .u8 k,.int .i64 n,.string s,.slice (some ⟨b,0,none⟩) 1 1]):=by
 obtain⟨q0,q1,q2,q3⟩:=box4 hk;refine NV.mk k n s [.nd k1 n1 s1 ks] (some ⟨b,0,none⟩) 1 ⟨b,0,none⟩ (fun _=>.int .u8 k1) (fun _=>.int .i64 n1) (fun _=>.string s1) (fun _=>.slice A l c) hf (by unfold LK;simp) (Nat.le_refl _) (fun _=>⟨rfl,hb⟩) (fun i hi=>?_) fun i hi=>?_
 ·obtain rfl:i=0:=by simpa using hi
  rw[Nat.zero_mul,Addr.add_zero'];exact⟨q0,q1,q2,q3⟩
 ·obtain rfl:i=0:=by simpa using hi
  exact h
def FaI (B:Nat) (w5:World) (f:SS->Bool) (pre:List SS) (C:Nat->Prop) (W:World):Prop:=(∀ b,C b↔b<B)/\(∀ b,b<B->W.heap[b]?=w5.heap[b]?)/\(∀ s∈pre,f s=false)/\B<=W.heap.size
def FaX (B N:Nat) (w5:World) (f:SS->Bool) (xs pre:List SS) (C:Nat->Prop) (W:World):Prop:=∃ cK s g X A l c B1 m d D k e,pre=cK++[s]/\pre <+: xs/\(∀ s∈cK,f s=false)/\f s=true/\(∀ b,C b↔b<B\/(g<=b/\b<X))/\(B<=g/\w5.heap.size<g)/\X<=W.heap.size/\B<=W.heap.size /\
 (∀ b,b<B->b≠N+3->b≠N+4->W.heap[b]?=w5.heap[b]?)/\W.heap[N+3]?=some (.cells #[.slice A l c,.slice B1 m d,.slice D k e] 34 (0,0))/\W.heap[N+4]?=some (.cells #[.bool true] 4 (0,0))/\SV W (fun q=>g<=q/\q<X) s (.agg #[.slice A l c,.slice B1 m d,.slice D k e])
theorem FaI.chg {B:Nat} {w5 W W':World} {f:SS->Bool} {pre:List SS} {C D:Nat->Prop} (h:FaI B w5 f pre C W) (hc:Chg D W W') (hD:∀ b,C b->¬ D b):FaI B w5 f pre C W' :=
 ⟨h.1,fun b hb=>(hc.block b (Nat.lt_of_lt_of_le hb h.2.2.2) (hD b ((h.1 b).2 hb))).trans (h.2.1 b hb),h.2.2.1,Nat.le_trans h.2.2.2 hc.size⟩
theorem FaX.chg {B N:Nat} {w5 W W':World} {f:SS->Bool} {xs pre:List SS} {C D:Nat->Prop} (h:FaX B N w5 f xs pre C W) (hN:N+4<B) (hc:Chg D W W') (hD:∀ b,C b->¬ D b):FaX B N w5 f xs pre C W':=by
 obtain⟨cK,s,g,X,A,l,c,B1,m,d,E,k,e,h1,h2,h3,h4,h5,h6,h7,h8,h9,h10,h11,h12⟩:=h;exact⟨cK,s,g,X,A,l,c,B1,m,d,E,k,e,h1,h2,h3,h4,h5,h6,Nat.le_trans h7 hc.size,Nat.le_trans h8 hc.size,fun b hb n3 n4=>(hc.block b (by omega) (hD b ((h5 b).2 (.inl hb)))).trans (h9 b hb n3 n4),hc.keep h10 (hD _ ((h5 _).2 (.inl (by omega)))),hc.keep h11 (hD _ ((h5 _).2 (.inl hN))),h12.keep (fun _ h _=>h) fun b hb _=>hc.block b (by omega) (hD b ((h5 b).2 (.inr hb)))⟩
def zxf (r:Option SS) (W:World) (e:Ending) (W':World):Prop:=Below W.heap.size W W'/\∃ v b,e=.returned (.tuple #[v,.bool b])/\((r=none/\b=false/\v=.agg #[.slice none 0 0,.slice none 0 0,.slice none 0 0])\/∃ s,r=some s/\b=true/\SV W' (fun q=>W.heap.size<=q) s v)
theorem zvk:IsFn Tryz.prog 79 Tryz.f79:=⟨Tryz.func79,by kernel_rfl,by kernel_rfl⟩
theorem bNd1 (k n:Int) (s:ByteArray) (A:Option Addr) (l c:Nat) (w:World):(Instr.buildSlice 22 1 #[(0,.agg #[.int .u8 k,.int .i64 n,.string s,.slice A l c])]).run Tryz.prog w=.ok (.slice (some ⟨w.heap.size,0,none⟩) 1 1) (w.alloc (.cells #[.int .u8 k,.int .i64 n,.string s,.slice A l c] 24)):=by kernel_rfl
theorem zp5 {W:World} {vs:List VD} {prs:List PR} {b:BX} {t:T} {v:Value} {F:Int} {A1 A2:Option Addr} {c1 c2:Nat} (hv:NV W Any t v) (hr:RowV W Any A1 vs) (hl:vs.length<=LV) (hlc:vs.length<=c1) (hp:RowP W Any A2 prs) (hlp:prs.length<=LV) (hpc:prs.length<=c2)
  (hF:I64 F) (lK:F<=1000000) :
  Calls Tryz.prog 43 #[v,.slice A1 vs.length c1,.slice A2 prs.length c2,.agg #[.int .i64 b.v,.int .i64 b.l,.int .i64 b.i],.int .i64 F] W
   (zxf (if smlE vs b=true then (allS b (lenE vs b)).find? (zn5 (zlT vs prs t) F) else none) W):=by
 obtain⟨RR,hRR⟩:∃ RR,(if smlE vs b=true then (allS b (lenE vs b)).find? (zn5 (zlT vs prs t) F) else none)=RR:=⟨_,rfl⟩
 rw[hRR];have HRR:=zh hRR;clear hRR;have uT:=zh (fun w' (hb:Below W.heap.size W w')=>zoj vs b A1 c1 w' (hr.later hb) hl);have eU:=zh (fun w' (hb:Below W.heap.size W w') hok=>zts vs b A1 c1 w' (hr.later hb) hl hok);have HV:=zh (hv.keep (S':=fun b=>b<W.heap.size) (fun _ _ h=>h) fun _ _ _=>rfl);have HR:=zh (hr.keep (S':=fun b=>b<W.heap.size) (fun _ _ h=>h) fun _ _ _=>rfl);have HP:=zh (hp.keep (S':=fun b=>b<W.heap.size) (fun _ _ h=>h) fun _ _ _=>rfl);have HL:=zh (And.intro hl (And.intro hlc (And.intro hlp (And.intro hpc (And.intro hF lK)))));obtain⟨A3,c3,rfl,-⟩:=hv.open_;obtain⟨k,n,nm,ks⟩:=t;obtain⟨bv,bl,bi⟩:=b;simp only[T.k_nd,T.n_nd,T.s_nd,T.ks_nd] at HV ⊢;obtain⟨N,hN⟩:∃ N,W.heap.size=N:=⟨_,rfl⟩
 have HN:=zh hN;obtain⟨hb1,hz1,k0,k1,k2,k3,k4⟩:=al5 W (.cells #[.int .u8 k,.int .i64 n,.string nm,.slice A3 ks.length c3] 24) (.cells #[.int .i64 bv,.int .i64 bl,.int .i64 bi] 27) (.cells #[.int .i64 F] 3) (.cells #[.slice none 0 0,.slice none 0 0,.slice none 0 0] 34) (.cells #[.bool false] 4);obtain⟨w1,hw1⟩:∃ x,((((W.alloc (.cells #[.int .u8 k,.int .i64 n,.string nm,.slice A3 ks.length c3] 24)).alloc (.cells #[.int .i64 bv,.int .i64 bl,.int .i64 bi] 27)).alloc (.cells #[.int .i64 F] 3)).alloc (.cells #[.slice none 0 0,.slice none 0 0,.slice none 0 0] 34)).alloc (.cells #[.bool false] 4)=x:=⟨_,rfl⟩
 rw[hw1] at hb1 hz1 k0 k1 k2 k3 k4;rw[hN] at hz1 k0 k1 k2 k3 k4;have HB1:=zh hb1;have HZ1:=zh hz1;have aP:=zh k0;have aB:=zh k1;have aK:=zh k2;have fw:=zh k3;have dL:=zh k4;obtain⟨y0,y1,y2⟩:=zkr k1;clear hv hr hp hl hlc hlp hpc hF lK hb1 hz1 k0 k1 k2 k3 k4
 show Calls Tryz.prog 43 #[.agg #[.int .u8 k,.int .i64 n,.string nm,.slice A3 ks.length c3],.slice A1 vs.length c1,.slice A2 prs.length c2,.agg #[.int .i64 bv,.int .i64 bl,.int .i64 bi],.int .i64 F] W _
 refine(callsIn_wide (n:=3)).1 (callsIn_of_wp_marks Tryz.func43 rfl trivial ((wpIn_wide (n:=3)).2 ?_));simp only[Tryz.ntmps43,List.size_toArray,List.length_cons,List.length_nil,Nat.reduceAdd,Nat.reduceSub,Array.replicate_succ,Array.replicate_zero,List.push_toArray,List.append_toArray,List.nil_append,List.cons_append];go_wp2_with fail;refine(uT.out _ HB1.out).mono ?_;rintro e2 w2 ⟨rfl,hb2⟩;obtain⟨sm,hsm⟩:∃ x,smlE vs ⟨bv,bl,bi⟩=x:=⟨_,rfl⟩
 have HS:=zh hsm;rw[hsm] at HRR ⊢;have HB2:=zh (zka HB1.out hb2);have eT:=zh (zkb aP.out hb2);have eQ:=zh (zkb aB.out hb2);have gp:=zh (zkb aK.out hb2);have dU:=zh (zkb fw.out hb2);have jq:=zh (zkb dL.out hb2);have HZ2:=zh (show N+5<=w2.heap.size by have:=HZ1.out;have:=hb2.size;omega);clear hsm hb2 y0 y1 y2 uT hw1
 cases sm
 ·have HF:=zh (show RR=none from HRR.out.symm);obtain⟨q0,q1,q2⟩:=zkr dU.out;have cf:∀ o,w2.frozen? ⟨N+3,o,none⟩=false:=fun o=>zf dU.out;obtain⟨w9,aQ,aR,aY⟩:=st3 (.slice none 0 0) (.slice none 0 0) (.slice none 0 0) dU.out;have hk4:=aR.keep jq.out fun(e:N+4=N+3)=>by omega
  have q4:w9.cell? ⟨N+4,0,none⟩=some (.bool false):=zc hk4 rfl;have tu:∀ o,w9.frozen? ⟨N+4,o,none⟩=false:=fun o=>zf hk4;obtain⟨w8,hw8,hc8,gV⟩:=setU (o:=0) (.bool false) hk4;obtain⟨t0,t1,t2⟩:=zkr (hc8.keep aY fun(e:N+3=N+4)=>by omega);have t4:w8.cell? ⟨N+4,0,none⟩=some (.bool false):=zc gV rfl;have bA:=zh (show Below W.heap.size W w8 from (HB2.out.trans (aR.below HB2.out.size fun b (e:b=N+3)=>by have:=HN.out;omega)).trans (hc8.below (Nat.le_trans HB2.out.size aR.size) fun b (e:b=N+4)=>by have:=HN.out;omega));clear aR aY hk4 hc8 gV;go_wp2_with fail;exact⟨.tuple #[.agg #[.slice none 0 0,.slice none 0 0,.slice none 0 0],.bool false],by simp[results,Tryz.results43,go_sem,t0,t1,t2,t4],bA.out,_,_,rfl,.inl ⟨HF.out,rfl,rfl⟩⟩
 obtain⟨hok,hcn⟩:=zrL HS.out;obtain⟨x0,x1,x2,x3⟩:=box4 eT.out;have hbn:=bNd1 k n nm A3 ks.length c3 w2;obtain⟨w3,hw3⟩:∃ x,w2.alloc (.cells #[.int .u8 k,.int .i64 n,.string nm,.slice A3 ks.length c3] 24)=x:=⟨_,rfl⟩
 have hb3:Below w2.heap.size w2 w3:=by rw[<-hw3];exact zkc (Below.refl _ _) _
 have hk3:=heap_alloc_new w2 (.cells #[.int .u8 k,.int .i64 n,.string nm,.slice A3 ks.length c3] 24);rw[hw3] at hk3;have hz3:w3.heap.size=w2.heap.size+1:=by rw[<-hw3];simp
 obtain⟨w4,hw4⟩:∃ x,w3.alloc (.cells #[.slice A1 vs.length c1,.slice A2 prs.length c2,.int .u8 57,.int .i64 0,.string ⟨#[]⟩,.slice (some ⟨w2.heap.size,0,none⟩) 1 1] 55)=x:=⟨_,rfl⟩
 have hb4:Below w3.heap.size w3 w4:=by rw[<-hw4];exact zkc (Below.refl _ _) _
 have hk4:=heap_alloc_new w3 (.cells #[.slice A1 vs.length c1,.slice A2 prs.length c2,.int .u8 57,.int .i64 0,.string ⟨#[]⟩,.slice (some ⟨w2.heap.size,0,none⟩) 1 1] 55);rw[hw4] at hk4;have iT:w4.heap.size=w2.heap.size+2:=by rw[<-hw4];simp[hz3]
 rw[hz3] at hk4;have bD:=zh (zka hb3 hb4);have ak:=zh (zka HB2.out bD.out);have HKN:=zh (zkb hk3 hb4);have wM:=zh hk4;have jZ:=zh iT;have HZ3:=zh hz3;obtain⟨M,hM⟩:∃ M,w2.heap.size=M:=⟨_,rfl⟩
 have HM:=zh hM;obtain⟨y0,y1,y2⟩:=zkr (zkb eQ.out bD.out);have vD:=zh hcn;have ko:=zh hok;have jM:=zh (eU.out _ ak.out hok);clear hb3 hk3 hz3 hb4 hk4 iT hcn hok eU hM;go_wp2_with fail;refine jM.out.mono ?_;rintro e5 w5 ⟨iP,xb,lb,A9,c9,rfl,hb5,g1,g2,g3,uG⟩;have av:=zh hb5;have yu:=zh (And.intro g1 (And.intro g2 g3));have jm:=zh uG;clear hb5 g1 g2 g3 uG y0 y1 y2 jM hw3 hw4 hbn x0 x1 x2 x3;go_wp2_with fail;have hpv:PV w5 (fun q=>q<M+2) (zlT vs prs (.nd k n nm ks)) (.agg #[.slice A1 vs.length c1,.slice A2 prs.length c2,.int .u8 57,.int .i64 0,.string ⟨#[]⟩,.slice (some ⟨M,0,none⟩) 1 1]):=by
  have eX:Below W.heap.size W w5:=zka ak.out av.out;have hlt:∀ b,b<W.heap.size->b<M+2:=fun b h=>by have:=HB2.out.size;have:=HM.out;omega
  refine⟨A1,c1,A2,c2,some ⟨M,0,none⟩,1,rfl,⟨(HR.out.later eX).keep (fun b h _=>hlt b h) fun _ _ _=>rfl,HL.out.1,HL.out.2.1,(HP.out.later eX).keep (fun b h _=>hlt b h) fun _ _ _=>rfl,HL.out.2.2.1,HL.out.2.2.2.1,?_⟩⟩;have hkn:=zkb HKN.out av.out;rw[HM.out] at hkn;exact zxc ⟨by decide,by decide,Nat.zero_le _⟩ (by omega) hkn ((HV.out.later eX).keep (fun b h _=>hlt b h) fun _ _ _=>rfl)
 have HPV:=zh hpv;have iT:w4.heap.size=M+2:=by rw[jZ.out,HM.out]
 have hNM:N+5<=M:=by have:=HZ2.out;rw[HM.out] at this;exact this
 have HNM:=zh hNM;have HMZ:=zh iT;have hlb:=zmq ko.out;have vH:=zh (zpK (nf:=3-1) (S:=fun q=>w4.heap.size<=q/\q<w5.heap.size) ⟨jm.out.ok,jm.out.bx,jm.out.ls,jm.out.row.keep (fun b h hlt=>⟨h,hlt⟩) fun _ _ _=>rfl⟩ ⟨hlb.2.2.2.1,hlb.2.2.2.2⟩ ⟨by rw[hlb.1];omega,by rw[hlb.1];have:=hlb.2.1;omega⟩ fun q hq=>(hlb.2.2.1 q hq).2);clear hpv hlb;rw[HM.out,HZ3.out,HM.out];refine(wpIn_wide (n:=3)).1 ?_;refine zok (n:=3) (gf:=79) (lb := #[ptr0 iP,ptr0 xb,ptr0 lb]) rfl (zkC zvk) vH.out (fun l x vs' g W' h=>by obtain⟨v9,rfl,-,h2,-⟩:=h;exact⟨rfl,h2⟩)
  (FaI (M+2) w5 (zn5 (zlT vs prs (.nd k n nm ks)) F)) (FaX (M+2) N w5 (zn5 (zlT vs prs (.nd k n nm ks)) F) (allS ⟨bv,bl,bi⟩ (lenE vs ⟨bv,bl,bi⟩))) (fun b=>b<M+2)
  (fun pre C W' W'' h hc=>h.chg hc fun b hb h=>h hb) (fun pre C W' W'' h hc=>h.chg (by omega) hc fun b hb h=>h hb) (fun pre C W' h b hb=>Nat.lt_of_lt_of_le ((h.1 b).1 hb) h.2.2.2) (fun pre C W' h b hb=>by obtain⟨_,_,g,X,_,_,_,_,_,_,_,_,_,_,_,_,_,h5,h6,h7,h8,_⟩:=h;rcases(h5 b).1 hb with h|h<;>omega)
  (fun b h1 h2=>by
   have:=yu.out;rcases h2 with h|h|h|h<;>omega) (fun b h=>by
   rcases h with rfl|rfl|rfl|h
   ·exact zkj jm.out.ok
   ·exact zkj jm.out.bx
   ·exact zkj jm.out.ls
   ·exact h.2) ⟨fun _=>Iff.rfl,fun _ _=>rfl,(fun s hs=>by cases hs),by have:=av.out.size;omega⟩ ?_ ?_ ?_
 ·rintro l pre x C W3 vs' g hI mV mU hl uu hpre ⟨sv,rfl,hsv,sM⟩;clear mV;have hxm:x∈allS ⟨bv,bl,bi⟩ (lenE vs ⟨bv,bl,bi⟩):=hpre.subset (by simp);have hxc:x.cells.length<=100:=by
   obtain⟨y,hy,rfl⟩:=List.mem_map.1 hxm;have h1:=(zuQ rfl y hy).len;have h2:=zmq ko.out;simp only[stOf,List.length_dropLast];omega
  obtain⟨As,cs,Bs,ds,Ds,es,rfl⟩:∃ A c B d D e,sv=.agg #[.slice A x.cells.length c,.slice B x.tin.length d,.slice D x.tout.length e]:=by
   obtain⟨A,c,B,d,D,e,rfl,-⟩:=hsv;exact⟨_,_,_,_,_,_,rfl⟩
  change Code.wpIn (Fence.wide.inRound l) (3-1-1) Tryz.prog _ _ _ _
  gi_wp2
  refine⟨(Chg.refl _ _).alloc _,fun W4 gX=>?_⟩;have hbx:=gX.keep (heap_alloc_new W3 (.cells #[.slice As x.cells.length cs,.slice Bs x.tin.length ds,.slice Ds x.tout.length es] 34)) (show ¬ W3.heap.size=l by omega);have jf:=zkc (Below.refl W3.heap.size W3) (.cells #[.slice As x.cells.length cs,.slice Bs x.tin.length ds,.slice Ds x.tout.length es] 34);have mR:=(hI.chg (Chg.of_below jf) (fun b hb h=>h)).chg gX (fun b hb h=>mU (by have h:b=l:=h;rwa[h] at hb));have jP:SV W4 (fun q=>g<=q) x (.agg #[.slice As x.cells.length cs,.slice Bs x.tin.length ds,.slice Ds x.tout.length es]):=(hsv.later jf).keep (fun _ h _=>h) fun q h hlt=>gX.block q hlt (fun e:q=l=>by have h:g<=q:=h;omega);obtain⟨xp,hxp⟩:∃ q,W3.heap.size=q:=⟨_,rfl⟩
  rw[hxp] at hbx ⊢;have hlow:∀ q,q<M+2->W4.heap[q]?=w5.heap[q]?:=fun q hq=>mR.2.1 q hq;have qz:=(hlow (M+1) (by omega)).trans (zkb (show w4.heap[M+1]?=_ by rw[<-HM.out];exact wM.out) av.out);have hkf4:=(hlow (N+2) (by omega)).trans (zkb gp.out (zka bD.out av.out));rw[HM.out] at qz;obtain⟨p0,p1,p2,p3,p4,p5⟩:=box6 qz;obtain⟨x0,x1,x2⟩:=zkr hbx;have z2:W4.cell? ⟨N+2,0,none⟩=some (.int .i64 F):=zc hkf4 rfl;have HI4:=zh mR;have lU:=zh jP;have aM:=zh hbx;have HXC:=zh hxc;have HCLL:=zh mU;have ou:=zh (And.intro hl (And.intro uu sM));have dE:=zh hpre;clear hI hpre hbx mR jP gX hsv hxc mU hl uu sM qz hkf4 jf hxm;change Code.wpIn (Fence.wide.inRound l) (3-1-1) Tryz.prog _ _ _ _;have hpv4:=(HPV.out.keep (w':=W4) (S':=Any) (fun _ _ _=>trivial) fun q h _=>hlow q h)
  have gq:=zh (zqj (zlT vs prs (.nd k n nm ks)) x F (F.toNat*2000+2000) _ _ W4 hpv4 lU.out.any (by have:=HXC.out;omega) HL.out.2.2.2.2.1 HL.out.2.2.2.2.2 (Nat.le_refl _));have dz:=zh (show zn5 (zlT vs prs (.nd k n nm ks)) F x=decide ((resO (zlT vs prs (.nd k n nm ks)) x F (F.toNat*2000+2000) false).2.2.1=15) from rfl);generalize resO (zlT vs prs (.nd k n nm ks)) x F (F.toNat*2000+2000) false=R at gq dz;clear hlow hpv4
  gi_wp2
  refine⟨trivial,CallsIn.inRound l (callsIn_wide.2 (gq.out.mono ?_))⟩;rintro e6 w6 ⟨u1,u2,u3,rfl,gB,hb6,-⟩;obtain⟨A6,l6,c6,B6,m6,d6,D6,k6,f6,hv⟩:=gB.parts;injection hv with hv;simp only[Array.mk.injEq,List.cons.injEq,and_true] at hv;obtain⟨rfl,rfl,rfl⟩:=hv;clear gB;have aO:=zh hb6;clear gq hb6 p0 p1 p2 p3 p4 p5 z2 x0 x1 x2;obtain⟨R1,R2,R3,R4⟩:=R;simp only at dz ⊢;by_cases xG:R3=15
  ·have HT:=zh (show zn5 (zlT vs prs (.nd k n nm ks)) F x=true by rw[dz.out];exact decide_eq_true xG);have jE:∀ q,q<M+2->w6.heap[q]?=w5.heap[q]?:=fun q hq=>(aO.out.block q (Nat.lt_of_lt_of_le hq HI4.out.2.2.2)).trans (HI4.out.2.1 q hq);have hk3:=(jE (N+3) (by omega)).trans (zkb dU.out (zka bD.out av.out));have hk4:=(jE (N+4) (by omega)).trans (zkb jq.out (zka bD.out av.out));obtain⟨x0,x1,x2⟩:=zkr (zkb aM.out aO.out);obtain⟨q0,q1,q2⟩:=zkr hk3;have cf:∀ o,w6.frozen? ⟨N+3,o,none⟩=false:=fun o=>zf hk3;obtain⟨w9,aQ,aR,aY⟩:=st3 (.slice As x.cells.length cs) (.slice Bs x.tin.length ds) (.slice Ds x.tout.length es) hk3;have bu:=aR.keep hk4 fun(e:N+4=N+3)=>by omega
   have q4:w9.cell? ⟨N+4,0,none⟩=some (.bool false):=zc bu rfl;have tu:∀ o,w9.frozen? ⟨N+4,o,none⟩=false:=fun o=>zf bu;obtain⟨w8,hw8,hc8,gV⟩:=setU (o:=0) (.bool true) bu;have hch:Chg (fun q=>q=N+3\/q=N+4) w6 w8:=(aR.mono fun q _ h=>.inl h).trans2 hc8 fun q _ h=>.inr h;have jK:=zh (show FaX (M+2) N w5 (zn5 (zlT vs prs (.nd k n nm ks)) F) (allS ⟨bv,bl,bi⟩ (lenE vs ⟨bv,bl,bi⟩)) (pre++[x]) (fun b=>b<M+2\/(g<=b/\b<w8.heap.size)) w8 from
    ⟨pre,x,g,w8.heap.size,As,_,cs,Bs,_,ds,Ds,_,es,rfl,dE.out,HI4.out.2.2.1,HT.out,fun b=>Iff.rfl,(by have:=ou.out;have:=av.out.size;omega),Nat.le_refl _,Nat.le_trans HI4.out.2.2.2 (Nat.le_trans aO.out.size hch.size),
     fun b hb n3 n4=>(hch.block b (Nat.lt_of_lt_of_le hb (Nat.le_trans HI4.out.2.2.2 aO.out.size)) fun h=>by rcases h with h|h;exact n3 h;exact n4 h).trans (jE b hb),
     hc8.keep aY (fun(e:N+3=N+4)=>by omega),gV,(lU.out.later aO.out).keep (fun q h hlt=>⟨h,Nat.lt_of_lt_of_le hlt hch.size⟩) fun q h hlt=>hch.block q hlt fun e=>by have h:g<=q:=h;have:=ou.out;have:=av.out.size;rcases e with e|e<;>omega⟩)
   have bJ:=zh (show Chg C W4 w8 from (Chg.of_below aO.out).trans2 hch fun q _ e=>(HI4.out.1 q).2 (by rcases e with e|e<;>omega));clear jE hk3 hk4 aR aY bu hc8 gV hch;subst xG;have hfl:(Instr.field 91 (.agg #[.slice A6 l6 c6,.slice B6 m6 d6,.slice D6 k6 f6,.int .i64 (R2:Int),.int .i64 15]) 2).run Tryz.prog w6=.ok (.int .i64 15) w6:=by kernel_rfl
   gi_wp2
   exact⟨_,jK.out,(fun b hb=>by rcases hb with h|h;exact .inl ((HI4.out.1 b).2 h);exact .inr h.1),bJ.out⟩
  ·have HT:=zh (show zn5 (zlT vs prs (.nd k n nm ks)) F x=false by rw[dz.out];exact decide_eq_false xG);have hfl:(Instr.field 91 (.agg #[.slice A6 l6 c6,.slice B6 m6 d6,.slice D6 k6 f6,.int .i64 (R2:Int),.int .i64 R3]) 2).run Tryz.prog w6=.ok (.int .i64 R3) w6:=by kernel_rfl
   gi_wp2
   refine⟨C,⟨HI4.out.1,fun b hb=>(aO.out.block b (Nat.lt_of_lt_of_le hb HI4.out.2.2.2)).trans (HI4.out.2.1 b hb),fun s hs=>?_,Nat.le_trans HI4.out.2.2.2 aO.out.size⟩,fun b hb=>.inl hb,Chg.of_below aO.out⟩;rcases List.mem_append.1 hs with hs|hs
   ·exact HI4.out.2.2.1 s hs
   ·rw[List.mem_singleton.1 hs];exact HT.out
 ·intro D C W' hD hI hch hK;have hk3:=(hI.2.1 (N+3) (by omega)).trans (zkb dU.out (zka bD.out av.out));have hk4:=(hI.2.1 (N+4) (by omega)).trans (zkb jq.out (zka bD.out av.out));have aX:Chg (fun _=>False) w5 W':=⟨hch.1,hch.2,hch.3,hch.4,fun q hlt _=>by
   by_cases hq:q<M+2
   ·exact hI.2.1 q hq
   ·exact hch.block q hlt hq⟩
  have dA:=zh (show Below W.heap.size W W' from (zka ak.out av.out).trans (aX.below (zka ak.out av.out).size fun b h=>h.elim));clear aX;have HF:=zh (show RR=none by rw[<-HRR.out];exact List.find?_eq_none.2 fun s hs=>by rw[hI.2.2.1 s hs];simp);obtain⟨q0,q1,q2⟩:=zkr hk3;have cf:∀ o,W'.frozen? ⟨N+3,o,none⟩=false:=fun o=>zf hk3;obtain⟨w9,aQ,aR,aY⟩:=st3 (.slice none 0 0) (.slice none 0 0) (.slice none 0 0) hk3;have bu:=aR.keep hk4 fun(e:N+4=N+3)=>by omega
  have q4:w9.cell? ⟨N+4,0,none⟩=some (.bool false):=zc bu rfl;have tu:∀ o,w9.frozen? ⟨N+4,o,none⟩=false:=fun o=>zf bu;obtain⟨w8,hw8,hc8,gV⟩:=setU (o:=0) (.bool false) bu;have fJ:Chg (fun q=>q=N+3\/q=N+4) W' w8:=(aR.mono fun q _ h=>.inl h).trans2 hc8 fun q _ h=>.inr h;have bJ:=zh fJ;have vz:=zh (hc8.keep aY (fun(e:N+3=N+4)=>by omega));have pU:=zh gV;have HK:=zh (fJ.keep hK (fun e=>by have:=av.out.size;have:D=w5.heap.size:=hD;rcases e with e|e<;>omega));have HD:=zh (show w5.heap.size=D from hD.symm);clear hk3 hk4 aR aY bu hc8 gV fJ hI hch hK hD;go_wp2_with fail;clear q0 q1 q2 q4 cf tu;refine⟨by simp,.inl ⟨_,_,rfl,run_takeDeferred HK.out,?_⟩⟩;have hcd:Chg (fun q=>q=N+3\/q=N+4\/q=D) W' (w8.putObj D (.deferred none)):=(bJ.out.mono fun b _ h=>h.elim .inl fun h=>.inr (.inl h)).trans2 (Chg.putObj w8 D (.deferred none)) fun b _ h=>.inr (.inr h)
  have bL:=(Chg.putObj w8 D (.deferred none)).keep vz.out (fun(e:N+3=D)=>by have:=HD.out;have:=av.out.size;omega);have eB:=(Chg.putObj w8 D (.deferred none)).keep pU.out (fun(e:N+4=D)=>by have:=HD.out;have:=av.out.size;omega);obtain⟨t0,t1,t2⟩:=zkr bL;have t4:(w8.putObj D (.deferred none)).cell? ⟨N+4,0,none⟩=some (.bool false):=zc eB rfl;exact⟨.tuple #[.agg #[.slice none 0 0,.slice none 0 0,.slice none 0 0],.bool false],by simp[results,Tryz.results43,go_sem,t0,t1,t2,t4],dA.out.trans (hcd.below dA.out.size fun b h=>by
   have:=HD.out;have:=av.out.size;have:=ak.out.size;have:=HN.out;rcases h with h|h|h<;>omega),_,_,rfl,.inl ⟨HF.out,rfl,rfl⟩⟩
 ·intro D pre C W' hD hX hch hK;obtain⟨cK,s,g,X,As,ls,cs,Bs,ms,ds,Ds,ks',es,rfl,h2,h3,h4,h5,h6,h7,h8,h9,h10,h11,h12⟩:=hX;have sW:N+4<D:=by have:D=w5.heap.size:=hD;have:=av.out.size;omega
  have HF:=zh (show RR=some s by
   rw[<-HRR.out];obtain⟨ys,hys⟩:=h2;simp only[if_pos];rw[<-hys,List.find?_append,List.find?_append,List.find?_eq_none.2 fun q hq=>by rw[h3 q hq];simp];simp[h4])
  have aX:Chg (fun b=>b=N+3\/b=N+4) w5 W':=⟨hch.1,hch.2,hch.3,hch.4,fun q hlt hn=>by
   by_cases hq:q<M+2
   ·exact h9 q hq (fun e=>hn (.inl e)) (fun e=>hn (.inr e))
   ·exact hch.block q hlt hq⟩
  have hbd:=(zka ak.out av.out).trans (aX.below (zka ak.out av.out).size fun b h=>by have:=HN.out;rcases h with h|h<;>omega);have dA:=zh hbd;have HK:=zh hK;have HS:=zh h12;have bN:=zh h10;have uZ:=zh h11;have HG:=zh (And.intro h6 (And.intro h7 sW));have HD:=zh (show w5.heap.size=D from hD.symm);clear h2 h3 h4 h5 h6 h7 h8 h9 h10 h11 h12 aX hbd hch hK hD sW;refine wpIn_ret ?_;simp only[Exit.inBlock,Exit.then];refine⟨by simp,.inl ⟨_,_,rfl,run_takeDeferred HK.out,?_⟩⟩;have hcd:=Chg.putObj W' D (.deferred none);have bL:=hcd.keep bN.out (fun(e:N+3=D)=>by have:=HG.out;omega);have eB:=hcd.keep uZ.out (fun(e:N+4=D)=>by have:=HG.out;omega);obtain⟨t0,t1,t2⟩:=zkr bL;have t4:(W'.putObj D (.deferred none)).cell? ⟨N+4,0,none⟩=some (.bool true):=zc eB rfl
  exact⟨.tuple #[.agg #[.slice As ls cs,.slice Bs ms ds,.slice Ds ks' es],.bool true],by simp[results,Tryz.results43,go_sem,t0,t1,t2,t4],dA.out.trans (hcd.below dA.out.size fun b h=>by
   have h:b=D:=h;have:=HD.out;have:=av.out.size;have:=ak.out.size;omega),_,_,rfl,.inr ⟨s,HF.out,rfl,HS.out.keep (fun q h _=>by have:=HG.out;have:=ak.out.size;have:=HN.out;have:=bD.out.size;have:=jZ.out;have:=HM.out;have:=HB2.out.size;omega) fun q h hlt=>hcd.block q hlt fun e=>by have h:g<=q:=h.1;have e:q=D:=e;have:=HG.out;have:=HD.out;omega⟩⟩
attribute [local go_sem] Oper.semAt_some
theorem st6 {W:World} {b:Nat} {a0 a1 a2 a3 a4 a5:Value} {ty:TypeId} (v0 v1 v2 v3 v4 v5:Value) (h:W.heap[b]?=some (.cells #[a0,a1,a2,a3,a4,a5] ty (0,0))) :
  ∃ W',(((((W.setCell ⟨b,0,none⟩ v0).setCell ⟨b,1,none⟩ v1).setCell ⟨b,2,none⟩ v2).setCell ⟨b,3,none⟩ v3).setCell ⟨b,4,none⟩ v4).setCell ⟨b,5,none⟩ v5=W'/\Chg (fun q=>q=b) W W'/\W'.heap[b]?=some (.cells #[v0,v1,v2,v3,v4,v5] ty (0,0)):=by
 obtain⟨W0,h0,c0,k0⟩:=setU (o:=0) v0 h;obtain⟨W1,h1,c1,k1⟩:=setU (o:=1) v1 k0;obtain⟨W2,h2,c2,k2⟩:=setU (o:=2) v2 k1;obtain⟨W3,h3,c3,k3⟩:=setU (o:=3) v3 k2;obtain⟨W4,h4,c4,k4⟩:=setU (o:=4) v4 k3;obtain⟨W5,h5,c5,k5⟩:=setU (o:=5) v5 k4;refine⟨W5,by rw[h0,h1,h2,h3,h4,h5],((((c0.trans2 c1 fun b _ h=>h).trans2 c2 fun b _ h=>h).trans2 c3 fun b _ h=>h).trans2 c4 fun b _ h=>h).trans2 c5 fun b _ h=>h,?_⟩;rw[k5];simp
theorem zxD (w:World):(Instr.makeMap 79 none).run Tryz.prog w=.ok (.map (some w.heap.size)) (w.alloc (.map #[] 0)):=by kernel_rfl
def LoC (B D:Nat) (C:Nat->Prop) (W:World):Prop:=(∀ b,b<B->C b)/\(∀ b,C b->b<B\/D<b)/\(∀ b,C b->b<W.heap.size)
def LoI (B mb:Nat) (w5:World) (vs:List VD) (f:SS->Option SS) (pre:List SS) (C:Nat->Prop) (W:World):Prop :=
 LoC B w5.heap.size C W/\(∀ b,b<B->b≠mb->W.heap[b]?=w5.heap[b]?)/\zn7 f pre/\LoM W mb vs f pre (fun b=>C b/\B<=b)
def LoX (B mb N:Nat) (w5:World) (f:SS->Option SS) (xs pre:List SS) (C:Nat->Prop) (W:World):Prop:=∃ cK q s x x0 x1 x2 x3 x4 x5,pre=cK++[s]/\pre <+: xs/\zn7 f cK/\f s=some x/\cK.find? (hitE f x)=some q /\
 LoC B w5.heap.size C W/\(∀ b,b<B->b≠mb->b≠N+3->b≠N+4->W.heap[b]?=w5.heap[b]?)/\W.heap[N+3]?=some (.cells #[x0,x1,x2,x3,x4,x5] 36 (0,0))/\W.heap[N+4]?=some (.cells #[.bool true] 4 (0,0)) /\
 SV W (fun b=>C b/\B<=b) q (.agg #[x0,x1,x2])/\SV W (fun b=>C b/\B<=b) s (.agg #[x3,x4,x5])
theorem LoC.chg {B D:Nat} {C:Nat->Prop} {W W':World} (h:LoC B D C W) (hs:W.heap.size<=W'.heap.size):LoC B D C W':=⟨h.1,h.2.1,fun b hb=>Nat.lt_of_lt_of_le (h.2.2 b hb) hs⟩
theorem LoI.chg {B mb:Nat} {w5 W W':World} {vs:List VD} {f:SS->Option SS} {pre:List SS} {C D:Nat->Prop} (h:LoI B mb w5 vs f pre C W) (hm:mb<B) (hc:Chg D W W') (hD:∀ b,C b->¬ D b):LoI B mb w5 vs f pre C W' :=
 ⟨h.1.chg hc.size,fun b hb hn=>(hc.block b (h.1.2.2 b (h.1.1 b hb)) (hD b (h.1.1 b hb))).trans (h.2.1 b hb hn),h.2.2.1,h.2.2.2.keep (hc.block mb (h.1.2.2 mb (h.1.1 mb hm)) (hD mb (h.1.1 mb hm))) (fun _ h _=>h) fun b hb hlt=>hc.block b hlt (hD b hb.1)⟩
theorem LoX.chg {B mb N:Nat} {w5 W W':World} {f:SS->Option SS} {xs pre:List SS} {C D:Nat->Prop} (h:LoX B mb N w5 f xs pre C W) (hN:N+4<B) (hc:Chg D W W') (hD:∀ b,C b->¬ D b):LoX B mb N w5 f xs pre C W':=by
 obtain⟨cK,q,s,x,x0,x1,x2,x3,x4,x5,h1,h2,h3,h4,h5,h6,h7,h8,h9,h10,h11⟩:=h;refine⟨cK,q,s,x,x0,x1,x2,x3,x4,x5,h1,h2,h3,h4,h5,h6.chg hc.size,fun b hb a1 a2 a3=>(hc.block b (h6.2.2 b (h6.1 b hb)) (hD b (h6.1 b hb))).trans (h7 b hb a1 a2 a3),hc.keep h8 (hD _ (h6.1 _ (by omega))),hc.keep h9 (hD _ (h6.1 _ hN)),h10.keep (fun _ h _=>h) fun b hb hlt=>hc.block b hlt (hD b hb.1),h11.keep (fun _ h _=>h) fun b hb hlt=>hc.block b hlt (hD b hb.1)⟩
theorem zuP {vs:List VD} {b:BX} (h:(b.ok&&svB vs)=true) (hc:cntE (2*b.v+1) (lenE vs b)<=65536):(allS b (lenE vs b)).length<=65536:=by
 obtain⟨-,-,h1,h2,h3⟩:=zmq h;obtain⟨m,hm⟩:∃ m:Nat,2*b.v+1=m:=⟨(2*b.v+1).toNat,by omega⟩
 have h4:=zuR (v:=m) (by omega) (by unfold maxC;omega) (fun q hq=>(h1 q hq).1) (bs:=lenE vs b) (by rw[<-hm];unfold maxC;omega);rw[<-hm] at h4;simp only[allS,List.length_map];omega
def LosP (r:Option (SS×SS)) (W:World) (e:Ending) (W':World):Prop:=Below W.heap.size W W'/\∃ x0 x1 x2 x3 x4 x5 b,e=.returned (.tuple #[.agg #[x0,x1,x2,x3,x4,x5],.bool b]) /\
 ((r=none/\b=false /\ #[x0,x1,x2,x3,x4,x5] = #[.slice none 0 0,.slice none 0 0,.slice none 0 0,.slice none 0 0,.slice none 0 0,.slice none 0 0]) \/
  ∃ q s,r=some (q,s)/\b=true/\SV W' (fun p=>W.heap.size<=p) q (.agg #[x0,x1,x2])/\SV W' (fun p=>W.heap.size<=p) s (.agg #[x3,x4,x5]))
def losE (t:T) (vs:List VD) (b:BX):Option (SS×SS):=if smlE vs b=true then zmA (cdE vs t) [] (allS b (lenE vs b)) else none
theorem zuw {W:World} {base n:Nat} {A:Option Addr} {c:Nat} {xs:List Int} (h:W.ownsRow base 5 1 (.slice A n c) n (zkR xs)) (hx:xs.length=n) (hn:0<n):(convert 83 9 (.slice A n c)).run Tryz.prog W=.ok (.string (strS xs)) W/\n<=maxLen:=by
 rcases h.2 with⟨h1,h2⟩|⟨g,cap,cur,hv,-,-,h2,h3,-⟩
 ·omega
 injection hv with e1 e2 e3;subst e1 e3;refine⟨?_,Nat.le_trans h2 h3⟩;rw[run_convert_bytes_string W _ _ 5 _ _ _ Tryz.underlying83 Tryz.underlying5 Tryz.underlying9,run_bytesToString W _ _ _ xs ?_]
 ·rfl
 ·have h2:=run_loadCells_list (P:=Tryz.prog) (w:=W) ⟨g,0,none⟩ (zkR xs) fun j v hj=>by
   have hl:j<(zkR xs).length:=(List.getElem?_eq_some_iff.1 hj).1;have h3:=h.cellAt j (by simpa[zkR,hx] using hl);by_cases j0:j=0
   ·subst j0;exact h3.trans hj
   ·simp only[Addr.add,if_neg j0,Nat.zero_add];exact h3.trans hj
  simpa[zkR,hx] using h2
theorem zrI (xs:List Int):(strS xs).size=xs.length:=by
 show(strS xs).data.size=xs.length
 rw[<-Array.length_toList,zpe,bysS,List.length_map]
def nilV:Value:=.agg #[.slice none 0 0,.slice none 0 0,.slice none 0 0]
theorem zStV (w:World):(zeroValue 34).run Tryz.prog w=.ok nilV w:=by kernel_rfl
theorem kMS {vs:List VD} {y:SS} (h:(encS vs y).length<=maxLen):keyOf Tryz.prog 9 (.string (strS (encS vs y)))=some (kS vs y):=by
 rw[WideMaps.keyOf_string_mk Tryz.underlying9 (by rw[zrI];exact h),zpe];rfl
theorem zwt {W:World} {mb n:Nat} {D:DataW Value} {vs:List VD} {y:SS} (h:W.ownsMap Tryz.prog 9 hR mb n D) (hl:(encS vs y).length<=maxLen):∃ v,(Instr.lookup 79 (.map (some mb)) (.string (strS (encS vs y))) true).run Tryz.prog W=.ok (.tuple #[v,.bool (Maps.has D (kS vs y))]) W/\D.atKey (kS vs y) (.held nilV)=.held v:=by
 obtain⟨v,ps,h1,h2⟩:=h.look_ok (Maps.string_keyed Tryz.underlying9) Tryz.underlying79 (zStV W) (zd:=.held nilV) (zp:=[]) rfl (kMS hl);refine⟨v,h1,?_⟩;unfold hR at h2;injection h2 with h2;injection h2 with h2;exact h2.symm
theorem zxd {W:World} {mb n:Nat} {D:DataW Value} {vs:List VD} {y:SS} (h:W.ownsMap Tryz.prog 9 hR mb n D) (hl:(encS vs y).length<=maxLen) (hn:n<maxLen) (v:Value):∃ W',(Instr.mapUpdate 79 (.map (some mb)) (.string (strS (encS vs y))) v).run Tryz.prog W=.ok () W'/\W'.ownsMap Tryz.prog 9 hR mb (n+1) (D.put (kS vs y) (.held v))/\Chg (fun b=>b=mb) W W':=by
 obtain⟨W',h1,h2,h3⟩:=h.store (Maps.string_keyed Tryz.underlying9) Tryz.underlying79 hn (kMS hl) (val:=v) (d:=.held v) (ps:=[]) rfl;refine⟨W',h1,h2,(Chg.row h3.grown).mono fun b _ e=>?_⟩;injection e with e;exact e.symm
theorem zpG {W:World} {vs:List VD} {b:BX} {t:T} {v:Value} {A1:Option Addr} {c1:Nat} (hv:NV W Any t v) (hr:RowV W Any A1 vs) (hl:vs.length<=LV) :
  Calls Tryz.prog 12 #[v,.slice A1 vs.length c1,.agg #[.int .i64 b.v,.int .i64 b.l,.int .i64 b.i]] W (LosP (losE t vs b) W):=by
 obtain⟨RR,hRR⟩:∃ RR,losE t vs b=RR:=⟨_,rfl⟩
 rw[hRR];have HRR:=zh hRR;clear hRR;unfold losE at HRR;have uT:=zh (fun w' (hb:Below W.heap.size W w')=>zoj vs b A1 c1 w' (hr.later hb) hl);have eU:=zh (fun w' (hb:Below W.heap.size W w') hok=>zts vs b A1 c1 w' (hr.later hb) hl hok);have HV:=zh (hv.keep (S':=fun b=>b<W.heap.size) (fun _ _ h=>h) fun _ _ _=>rfl);have HR:=zh (hr.keep (S':=fun b=>b<W.heap.size) (fun _ _ h=>h) fun _ _ _=>rfl);have HL:=zh hl;obtain⟨A3,c3,rfl,-⟩:=hv.open_;obtain⟨k,n,nm,ks⟩:=t;obtain⟨bv,bl,bi⟩:=b;simp only[T.k_nd,T.n_nd,T.s_nd,T.ks_nd] at HV ⊢;obtain⟨N,hN⟩:∃ N,W.heap.size=N:=⟨_,rfl⟩
 have HN:=zh hN;obtain⟨hb1,hz1,k0,k1,k2,k3,k4⟩:=al5 W (.cells #[.int .u8 k,.int .i64 n,.string nm,.slice A3 ks.length c3] 24) (.cells #[.slice A1 vs.length c1] 25) (.cells #[.int .i64 bv,.int .i64 bl,.int .i64 bi] 27) (.cells #[.slice none 0 0,.slice none 0 0,.slice none 0 0,.slice none 0 0,.slice none 0 0,.slice none 0 0] 36) (.cells #[.bool false] 4);obtain⟨w1,hw1⟩:∃ x,((((W.alloc (.cells #[.int .u8 k,.int .i64 n,.string nm,.slice A3 ks.length c3] 24)).alloc (.cells #[.slice A1 vs.length c1] 25)).alloc (.cells #[.int .i64 bv,.int .i64 bl,.int .i64 bi] 27)).alloc (.cells #[.slice none 0 0,.slice none 0 0,.slice none 0 0,.slice none 0 0,.slice none 0 0,.slice none 0 0] 36)).alloc (.cells #[.bool false] 4)=x:=⟨_,rfl⟩
 rw[hw1] at hb1 hz1 k0 k1 k2 k3 k4;rw[hN] at hz1 k0 k1 k2 k3 k4;have HB1:=zh hb1;have HZ1:=zh hz1;have aP:=zh k0;have aB:=zh k1;have aK:=zh k2;have fw:=zh k3;have dL:=zh k4;obtain⟨y0,y1,y2⟩:=zkr k2;have yv:w1.cell? ⟨N+1,0,none⟩=some (.slice A1 vs.length c1):=zc k1 rfl;clear hv hr hl hb1 hz1 k0 k1 k2 k3 k4
 show Calls Tryz.prog 12 #[.agg #[.int .u8 k,.int .i64 n,.string nm,.slice A3 ks.length c3],.slice A1 vs.length c1,.agg #[.int .i64 bv,.int .i64 bl,.int .i64 bi]] W _
 refine(callsIn_wide (n:=3)).1 (callsIn_of_wp_marks Tryz.func12 rfl trivial ((wpIn_wide (n:=3)).2 ?_));simp only[Tryz.ntmps12,List.size_toArray,List.length_cons,List.length_nil,Nat.reduceAdd,Nat.reduceSub,Array.replicate_succ,Array.replicate_zero,List.push_toArray,List.append_toArray,List.nil_append,List.cons_append];go_wp2_with fail;refine(uT.out _ HB1.out).mono ?_;rintro e2 w2 ⟨rfl,hb2⟩;obtain⟨sm,hsm⟩:∃ x,smlE vs ⟨bv,bl,bi⟩=x:=⟨_,rfl⟩
 have HS:=zh hsm;rw[hsm] at HRR ⊢;have HB2:=zh (zka HB1.out hb2);have eT:=zh (zkb aP.out hb2);have eQ:=zh (zkb aB.out hb2);have gp:=zh (zkb aK.out hb2);have dU:=zh (zkb fw.out hb2);have jq:=zh (zkb dL.out hb2);have HZ2:=zh (show N+5<=w2.heap.size by have:=HZ1.out;have:=hb2.size;omega);clear hsm hb2 y0 y1 y2 yv uT hw1
 cases sm
 ·have HF:=zh (show RR=none from HRR.out.symm);obtain⟨q0,q1,q2,q3,q4,q5⟩:=box6 dU.out;have cf:∀ o,w2.frozen? ⟨N+3,o,none⟩=false:=fun o=>zf dU.out;obtain⟨w9,aQ,aR,aY⟩:=st6 (.slice none 0 0) (.slice none 0 0) (.slice none 0 0) (.slice none 0 0) (.slice none 0 0) (.slice none 0 0) dU.out;have bu:=aR.keep jq.out fun(e:N+4=N+3)=>by omega
  have qb:w9.cell? ⟨N+4,0,none⟩=some (.bool false):=zc bu rfl;have tu:∀ o,w9.frozen? ⟨N+4,o,none⟩=false:=fun o=>zf bu;obtain⟨w8,hw8,hc8,gV⟩:=setU (o:=0) (.bool false) bu;have fJ:Chg (fun q=>q=N+3\/q=N+4) w2 w8:=(aR.mono fun q _ h=>.inl h).trans2 hc8 fun q _ h=>.inr h;have bJ:=zh fJ;have vz:=zh (hc8.keep aY (fun(e:N+3=N+4)=>by omega));have pU:=zh gV;clear aR aY bu hc8 gV fJ;go_wp2_with fail;obtain⟨t0,t1,t2,t3,t4,t5⟩:=box6 vz.out;have tb:w8.cell? ⟨N+4,0,none⟩=some (.bool false):=zc pU.out rfl;exact⟨.tuple #[.agg #[.slice none 0 0,.slice none 0 0,.slice none 0 0,.slice none 0 0,.slice none 0 0,.slice none 0 0],.bool false],by simp[results,Tryz.results12,go_sem,t0,t1,t2,t3,t4,t5,tb],HB2.out.trans (bJ.out.below HB2.out.size fun b h=>by
   have:=HN.out;rcases h with h|h<;>omega),_,_,_,_,_,_,_,rfl,.inl ⟨HF.out,rfl,rfl⟩⟩
 obtain⟨hok,hcn⟩:=zrL HS.out;have hbn:=zxD w2;obtain⟨w3,hw3⟩:∃ x,w2.alloc (.map #[] 0)=x:=⟨_,rfl⟩
 have hb3:Below w2.heap.size w2 w3:=by rw[<-hw3];exact zkc (Below.refl _ _) _
 obtain⟨M,hM⟩:∃ M,w2.heap.size=M:=⟨_,rfl⟩
 have HM:=zh hM;have mf:=zh (show LoM w3 M vs (cdE vs (.nd k n nm ks)) [] (fun _=>False) from by rw[<-hw3,<-hM];exact LoM.made _ _ _ _);have hz3:w3.heap.size=M+1:=by rw[<-hw3,<-hM];simp
 obtain⟨w4,hw4⟩:∃ x,w3.alloc (.cells #[.map (some M)] 79)=x:=⟨_,rfl⟩
 have hb4:Below w3.heap.size w3 w4:=by rw[<-hw4];exact zkc (Below.refl _ _) _
 have hk4:=heap_alloc_new w3 (.cells #[.map (some M)] 79);rw[hw4,hz3] at hk4;have iT:w4.heap.size=M+2:=by rw[<-hw4];simp[hz3]
 have bD:=zh (zka hb3 hb4);have HB34:=zh hb4;have ak:=zh (zka HB2.out bD.out);have wM:=zh hk4;have jZ:=zh iT;have HZ3:=zh hz3;obtain⟨y0,y1,y2⟩:=zkr (zkb gp.out bD.out);have yv:w4.cell? ⟨N+1,0,none⟩=some (.slice A1 vs.length c1):=zc (zkb eQ.out bD.out) rfl;have vD:=zh hcn;have ko:=zh hok;have jM:=zh (eU.out _ ak.out hok);clear hb3 hz3 hb4 hk4 iT hcn hok eU;go_wp2_with fail;refine jM.out.mono ?_;rintro e5 w5 ⟨iP,xb,lb,A9,c9,rfl,hb5,g1,g2,g3,uG⟩;have av:=zh hb5;have yu:=zh (And.intro g1 (And.intro g2 g3));have jm:=zh uG;clear hb5 g1 g2 g3 uG y0 y1 y2 yv jM hw3 hw4 hbn;go_wp2_with fail;obtain⟨f,hf⟩:∃ f,cdE vs (.nd k n nm ks)=f:=⟨_,rfl⟩
 rw[hf] at mf HRR;have rV:=zh hf;clear hf;have iT:w4.heap.size=M+2:=jZ.out;have hNM:N+5<=M:=by have:=HZ2.out;rw[HM.out] at this;exact this
 have HNM:=zh hNM;have HMZ:=zh iT;have mI:M+2<=w5.heap.size:=by have:=av.out.size;omega
 have iG:=zh mI;have hlb:=zmq ko.out;have vH:=zh (zpK (nf:=3-1) (S:=fun q=>w4.heap.size<=q/\q<w5.heap.size) ⟨jm.out.ok,jm.out.bx,jm.out.ls,jm.out.row.keep (fun b h hlt=>⟨h,hlt⟩) fun _ _ _=>rfl⟩ ⟨hlb.2.2.2.1,hlb.2.2.2.2⟩ ⟨by rw[hlb.1];omega,by rw[hlb.1];have:=hlb.2.1;omega⟩ fun q hq=>(hlb.2.2.1 q hq).2);have h0I:LoI (M+2) M w5 vs f [] (fun b=>b<M+2) w5:=by
  have jV:=zka HB34.out av.out;refine⟨⟨fun b h=>h,fun b h=>.inl h,fun b h=>Nat.lt_of_lt_of_le h mI⟩,fun _ _ _=>rfl,fun a s b e=>by simp at e,mf.out.keep (jV.block M (by rw[HZ3.out];omega)) (fun _ h=>h.elim) fun _ h=>h.elim⟩
 have H0I:=zh h0I;clear hlb h0I;refine(wpIn_wide (n:=3)).1 ?_;refine zok (n:=3) (gf:=79) (lb := #[ptr0 iP,ptr0 xb,ptr0 lb]) rfl (zkC zvk) vH.out (fun l x vs' g W' h=>by obtain⟨v9,rfl,-,h2,-⟩:=h;exact⟨rfl,h2⟩)
  (LoI (M+2) M w5 vs f) (LoX (M+2) M N w5 f (allS ⟨bv,bl,bi⟩ (lenE vs ⟨bv,bl,bi⟩))) (fun b=>b<M+2)
  (fun pre C W' W'' h hc=>h.chg (by omega) hc fun b hb h=>h hb) (fun pre C W' W'' h hc=>h.chg (by omega) hc fun b hb h=>h hb) (fun pre C W' h b hb=>h.1.2.2 b hb) (fun pre C W' h b hb=>by obtain⟨_,_,_,_,_,_,_,_,_,_,_,_,_,_,_,h6,_⟩:=h;exact h6.2.2 b hb)
  (fun b h1 h2=>by
   have:=yu.out;rcases h2 with h|h|h|h<;>omega) (fun b h=>by
   rcases h with rfl|rfl|rfl|h
   ·exact zkj jm.out.ok
   ·exact zkj jm.out.bx
   ·exact zkj jm.out.ls
   ·exact h.2) H0I.out ?_ ?_ ?_
 ·rintro l pre x C W3 vs' g hI mV mU hl uu hpre ⟨sv,rfl,hsv,sM⟩;clear mV;obtain⟨As,cs,Bs,ds,Ds,es,rfl⟩:∃ A c B d D e,sv=.agg #[.slice A x.cells.length c,.slice B x.tin.length d,.slice D x.tout.length e]:=by
   obtain⟨A,c,B,d,D,e,rfl,-⟩:=hsv;exact⟨_,_,_,_,_,_,rfl⟩
  change Code.wpIn (Fence.wide.inRound l) (3-1-1) Tryz.prog _ _ _ _
  gi_wp2
  refine⟨(Chg.refl _ _).alloc _,fun W4 gX=>?_⟩;have hbx:=gX.keep (heap_alloc_new W3 (.cells #[.slice As x.cells.length cs,.slice Bs x.tin.length ds,.slice Ds x.tout.length es] 34)) (show ¬ W3.heap.size=l by omega);have jf:=zkc (Below.refl W3.heap.size W3) (.cells #[.slice As x.cells.length cs,.slice Bs x.tin.length ds,.slice Ds x.tout.length es] 34);have mR:=(hI.chg (by omega) (Chg.of_below jf) (fun b hb h=>h)).chg (by omega) gX (fun b hb h=>mU (by have h:b=l:=h;rwa[h] at hb));have jP:SV W4 (fun q=>g<=q) x (.agg #[.slice As x.cells.length cs,.slice Bs x.tin.length ds,.slice Ds x.tout.length es]):=(hsv.later jf).keep (fun _ h _=>h) fun q h hlt=>gX.block q hlt (fun e:q=l=>by have h:g<=q:=h;omega);obtain⟨xp,hxp⟩:∃ q,W3.heap.size=q:=⟨_,rfl⟩
  have hxpl:l<xp:=by omega
  rw[hxp] at hbx ⊢;have hlow:∀ q,q<M->W4.heap[q]?=w5.heap[q]?:=fun q hq=>mR.2.1 q (by omega) (by omega);have nu:∀ q,q<w2.heap.size->W4.heap[q]?=w2.heap[q]?:=fun q hq=>(hlow q (by rw[<-HM.out];exact hq)).trans ((zka bD.out av.out).block q hq);have hk0:=(nu N (zkj eT.out)).trans eT.out;have hk1:=(nu (N+1) (zkj eQ.out)).trans eQ.out;have hwn:∀ q,q<W.heap.size->W4.heap[q]?=W.heap[q]?:=fun q hq=>(nu q (Nat.lt_of_lt_of_le hq HB2.out.size)).trans (HB2.out.block q hq);have wE:=zh hwn;obtain⟨p0,p1,p2,p3⟩:=box4 hk0;obtain⟨x0,x1,x2⟩:=zkr hbx;have zv:W4.cell? ⟨N+1,0,none⟩=some (.slice A1 vs.length c1):=zc hk1 rfl;have HK1W:=zh hk1;have HI4:=zh mR;have lU:=zh jP;have aM:=zh hbx;have HCLL:=zh mU;have ou:=zh (And.intro hl (And.intro hxpl sM));have dE:=zh hpre;have HRW:=zh (HR.out.keep (w':=W4) (S':=Any) (fun _ _ _=>trivial) fun q h _=>hwn q h)
  have kH:=zh (zrw (c:=c1) (HV.out.keep (w':=W4) (S':=Any) (fun _ _ _=>trivial) fun q h _=>hwn q h) HRW.out HL.out jP.any);have jK:=zh (show f x=cdE vs (.nd k n nm ks) x by rw[rV.out]);unfold cdE at jK;generalize asgE vs (.nd k n nm ks) x=R at kH jK;clear hI hpre hbx mR jP gX hsv mU hl uu sM hlow hk0 hk1 nu hwn jf hxpl;change Code.wpIn (Fence.wide.inRound l) (3-1-1) Tryz.prog _ _ _ _
  gi_wp2
  refine⟨trivial,CallsIn.inRound l (callsIn_wide.2 (kH.out.mono ?_))⟩;rintro e6 w6 ⟨hb6,u6,rfl,gB,lq⟩;obtain⟨er,y⟩:=R;simp only at gB lq jK ⊢;obtain⟨Ay,cy,By,dy,Dy,ey,rfl⟩:=gB.slices;have kV:=zh gB;have aO:=zh hb6;have kv:=zh lq;clear kH hb6 gB lq p0 p1 p2 p3 x0 x1 x2 zv;obtain⟨w7,hw7⟩:∃ q,w6.alloc (.cells #[.slice Ay y.cells.length cy,.slice By y.tin.length dy,.slice Dy y.tout.length ey] 34)=q:=⟨_,rfl⟩
  have nP:Below w6.heap.size w6 w7:=by rw[<-hw7];exact zkc (Below.refl _ _) _
  have jF:=heap_alloc_new w6 (.cells #[.slice Ay y.cells.length cy,.slice By y.tin.length dy,.slice Dy y.tout.length ey] 34);rw[hw7] at jF;obtain⟨yp,hyp⟩:∃ q,w6.heap.size=q:=⟨_,rfl⟩
  rw[hyp] at jF;have HYP:=zh hyp;have rF:=zh jF;have HB67:=zh nP;have mF:=zh (zka aO.out nP);have HSY:=zh ((kV.out.svR kv.out).later nP);have HIY:=zh (show y.I from by obtain⟨_,_,_,_,_,_,h⟩:=kV.out;exact h);clear nP jF hyp;have HSKIP:=zh (show ∀ W',Below W4.heap.size W4 W'->f x=none->∃ C',LoI (M+2) M w5 vs f (pre++[x]) C' W'/\(∀ b,C' b->C b\/g<=b)/\Chg C W4 W' from fun W' hb hn =>
   have h:=HI4.out.chg (by omega) (Chg.of_below hb) (fun b hb h=>h)
   ⟨C,⟨h.1,h.2.1,h.2.2.1.snoc (fun z hz=>by rw[hn] at hz;cases hz),h.2.2.2.skip hn⟩,fun b hb=>.inl hb,Chg.of_below hb⟩)
  by_cases h0:er=0
  ·subst h0;have rX:=zh (zrs vs y A1 c1 _ w7 (HRW.out.later mF.out) HL.out HSY.out.any);have jF:=rF.out;rw[<-HYP.out] at jF;obtain⟨z0,z1,z2⟩:=zkr jF;clear jF;have zv:w7.cell? ⟨N+1,0,none⟩=some (.slice A1 vs.length c1):=zc (zkb HK1W.out mF.out) rfl
   gi_wp2
   refine⟨trivial,CallsIn.inRound l (callsIn_wide.2 (rX.out.mono ?_))⟩;rintro e8 w8 ⟨dm,⟨hfit,rfl⟩|⟨hfit,Ae,ce,rfl,hor⟩⟩
   ·have HN:=zh (show f x=none from jK.out.trans (if_neg fun h=>by rw[hfit] at h;exact absurd h.2 (by simp)));have bA:=zh (zka mF.out dm);clear dm hfit rX z0 z1 z2 zv
    gi_wp2
    exact HSKIP.out _ bA.out HN.out
   have oL:=zh (show f x=some y from jK.out.trans (if_pos ⟨by trivial,hfit⟩));have bA:=zh (zka mF.out dm);have HB78:=zh dm;have HFIT:=zh hfit;have rC:=zh hor;clear dm hfit rX z0 z1 z2 zv;have hlen0:0<(encS vs y).length:=by simp only[encS,cnE,List.length_append,zkH];omega
   obtain⟨hcv,hmx⟩:=zuw hor rfl hlen0;have HMX:=zh hmx;have hlo8:=HI4.out.2.2.2.keep (W':=w8) (bA.out.block M HI4.out.2.2.2.lt) (fun _ h _=>h) fun b _ hlt=>bA.out.block b hlt;obtain⟨D,hD1,hD2,hD3⟩:=hlo8;obtain⟨v9,hlk,hat⟩:=zwt (vs:=vs) (y:=y) hD1 hmx;obtain⟨hs,uw⟩:∃ z,Maps.has D (kS vs y)=z:=⟨_,rfl⟩
   rw[uw] at hlk;have qA:=zkb ((HI4.out.2.1 (M+1) (by omega) (by omega)).trans (zkb wM.out av.out)) bA.out;have HKM8:=zh qA;have zm:w8.cell? ⟨M+1,0,none⟩=some (.map (some M)):=zc qA rfl;have hbx8:=zkb aM.out bA.out;have HBX8:=zh hbx8;have hzM:M<w8.heap.size:=hD1.lt;clear hor hlen0 hmx hbx8 qA;rw[HZ3.out]
   cases hs
   ·have hv9:v9=nilV:=by
     rw[Maps.atKey_of_not_has uw] at hat
     injection hat with hat
     exact hat.symm
    subst hv9;unfold nilV at hlk
    gi_upto_region 14 with fail
    obtain⟨w9,aQ⟩:∃ q,w8.alloc (.cells #[.slice none 0 0,.slice none 0 0,.slice none 0 0] 34)=q:=⟨_,rfl⟩
    have aH:Below w8.heap.size w8 w9:=by rw[<-aQ];exact zkc (Below.refl _ _) _
    obtain⟨p0,p1,p2⟩:=zkr (zkb HBX8.out aH);have zm9:w9.cell? ⟨M+1,0,none⟩=some (.map (some M)):=zc (zkb HKM8.out aH) rfl;have hD9:w9.ownsMap Tryz.prog 9 hR M pre.length D:=by
     obtain⟨es',ck',h1,h2⟩:=hD1;exact⟨es',ck',zkb h1 aH,h2⟩
    obtain⟨bz,hmu,hD10,qG⟩:=zxd hD9 HMX.out (by
     have h1:=zuP ko.out vD.out;have h2:=dE.out.length_le;simp only[List.length_append,List.length_cons,List.length_nil] at h2;exact Nat.lt_of_le_of_lt (show pre.length<=65536 by omega) (by unfold maxLen;decide)) (.agg #[.slice As x.cells.length cs,.slice Bs x.tin.length ds,.slice Ds x.tout.length es])
    have jc:=zka bA.out aH;have jO:Chg (fun b=>b=M) W4 bz:=(Chg.of_below jc).trans2 qG fun b _ h=>h;have aC:=zh (show LoI (M+2) M w5 vs f (pre++[x]) (fun b=>C b\/(g<=b/\b<bz.heap.size)) bz from by
     have h4:=HI4.out;refine⟨⟨fun b hb=>.inl (h4.1.1 b hb),fun b hb=>?_,fun b hb=>?_⟩,fun b hb hn=>(jO.block b (h4.1.2.2 b (h4.1.1 b hb)) hn).trans (h4.2.1 b hb hn),h4.2.2.1.snoc fun z hz q hq hqz=>?_,?_⟩
     ·rcases hb with hb|hb
      ·exact h4.1.2.1 b hb
      ·exact .inr (by have:=ou.out;omega)
     ·rcases hb with hb|hb
      ·exact Nat.lt_of_lt_of_le (h4.1.2.2 b hb) jO.size
      ·exact hb.2
     ·rw[oL.out] at hz;injection hz with hz;subst hz;obtain⟨-,v0,h0,-⟩:=hD2 q hq y hqz;rw[uw] at h0
      cases h0
     ·refine LoM.put hD2 hD3 hD1.isMap oL.out HIY.out uw hD10 (lU.out.keep (fun q h hlt=>⟨.inr ⟨h,Nat.lt_of_lt_of_le hlt jO.size⟩,by have h:g<=q:=h;have:=ou.out;have:=iG.out;omega⟩) fun q h hlt=>jO.block q hlt fun(e:q=M)=>by have h:g<=q:=h;have:=ou.out;have:=iG.out;omega)
       (fun b h _=>⟨.inl h.1,h.2⟩) fun b h hlt=>((Chg.of_below (C:=fun b=>b=M) aH).trans2 qG fun b _ h=>h).block b hlt fun(e:b=M)=>by have:=h.2;omega)
    have bJ:=zh (jO.mono (C':=C) fun b _ (e:b=M)=>by rw[e];exact HI4.out.1.1 M (by omega));clear aH hD9 hD10 qG jc jO hD1 hD2 hD3 hat
    rw[aQ];clear aQ hlk hcv
    gi_wp2
    exact⟨_,aC.out,(fun b hb=>hb.elim .inl fun h=>.inr h.1),bJ.out⟩
   ·obtain⟨s0,hs0,y',uy,hky⟩:=hD3 _ uw;obtain⟨hIy',v0,-,hat0,qg⟩:=hD2 s0 hs0 y' uy;have hfit':fitB vs y'=true:=by
     have h1:=uy;rw[<-rV.out,cdE] at h1
     split at h1
     ·rename_i h2;injection h1 with h1;rw[<-h1];exact h2.2
     ·cases h1
    have hyy:=zwK HFIT.out hfit' HIY.out hIy' hky;subst hyy;rw[hat0] at hat
    injection hat with hat
    subst hat
    obtain⟨A0,c0,B0,d0,D0,e0,rfl⟩:∃ A c B d D e,v0=.agg #[.slice A s0.cells.length c,.slice B s0.tin.length d,.slice D s0.tout.length e]:=by
     obtain⟨A,c,B,d,D,e,rfl,-⟩:=qg;exact⟨_,_,_,_,_,_,rfl⟩
    have hfind:=zum HI4.out.2.2.1 hs0 uy;have HFY:=zh uy;have HS0:=zh hs0;clear uy hs0
    gi_upto_region 13 with fail
    obtain⟨w9,aQ⟩:∃ q,w8.alloc (.cells #[.slice A0 s0.cells.length c0,.slice B0 s0.tin.length d0,.slice D0 s0.tout.length e0] 34)=q:=⟨_,rfl⟩
    have aH:Below w8.heap.size w8 w9:=by rw[<-aQ];exact zkc (Below.refl _ _) _
    obtain⟨p0,p1,p2⟩:=zkr (zkb HBX8.out aH);have xn:=heap_alloc_new w8 (.cells #[.slice A0 s0.cells.length c0,.slice B0 s0.tin.length d0,.slice D0 s0.tout.length e0] 34);rw[aQ] at xn;obtain⟨r0,r1,r2⟩:=zkr xn;have jc:=zka bA.out aH;have hk3:=zkb ((HI4.out.2.1 (N+3) (by omega) (by omega)).trans (zkb dU.out (zka bD.out av.out))) jc;have hk4:=zkb ((HI4.out.2.1 (N+4) (by omega) (by omega)).trans (zkb jq.out (zka bD.out av.out))) jc;obtain⟨q0,q1,q2,q3,q4,q5⟩:=box6 hk3;have cf:∀ o,w9.frozen? ⟨N+3,o,none⟩=false:=fun o=>zf hk3;obtain⟨wa,oV,lG,hha⟩:=st6 (.slice A0 s0.cells.length c0) (.slice B0 s0.tin.length d0) (.slice D0 s0.tout.length e0) (.slice As x.cells.length cs) (.slice Bs x.tin.length ds) (.slice Ds x.tout.length es) hk3;have nI:=lG.keep hk4 fun(e:N+4=N+3)=>by omega
    have qb:wa.cell? ⟨N+4,0,none⟩=some (.bool false):=zc nI rfl;have cfb:∀ o,wa.frozen? ⟨N+4,o,none⟩=false:=fun o=>zf nI;obtain⟨wb,hwb,hcb,hhb⟩:=setU (o:=0) (.bool true) nI;have hch:Chg (fun q=>q=N+3\/q=N+4) w9 wb:=(lG.mono fun q _ h=>.inl h).trans2 hcb fun q _ h=>.inr h;have jN:Chg (fun q=>q=N+3\/q=N+4) W4 wb:=(Chg.of_below jc).trans2 hch fun b _ h=>h;have HFX2:=zh (show LoX (M+2) M N w5 f (allS ⟨bv,bl,bi⟩ (lenE vs ⟨bv,bl,bi⟩)) (pre++[x]) (fun b=>C b\/(g<=b/\b<wb.heap.size)) wb from by
     have h4:=HI4.out;refine⟨pre,s0,x,y,_,_,_,_,_,_,rfl,dE.out,h4.2.2.1,oL.out,hfind,⟨fun b hb=>.inl (h4.1.1 b hb),fun b hb=>?_,fun b hb=>?_⟩,fun b hb hn n3 n4=>(jN.block b (h4.1.2.2 b (h4.1.1 b hb)) fun h=>by rcases h with h|h;exact n3 h;exact n4 h).trans (h4.2.1 b hb hn),hcb.keep hha (fun(e:N+3=N+4)=>by omega),hhb,
      qg.keep (fun q h hlt=>⟨.inl h.1,h.2⟩) (fun q h hlt=>((Chg.of_below (C:=fun q=>q=N+3\/q=N+4) aH).trans2 hch fun b _ h=>h).block q hlt fun e=>by have:=h.2;rcases e with e|e<;>omega),
      lU.out.keep (fun q h hlt=>⟨.inr ⟨h,Nat.lt_of_lt_of_le hlt jN.size⟩,by have h:g<=q:=h;have:=ou.out;have:=iG.out;omega⟩) fun q h hlt=>jN.block q hlt fun e=>by have h:g<=q:=h;have:=ou.out;have:=iG.out;rcases e with e|e<;>omega⟩
     ·rcases hb with hb|hb
      ·exact h4.1.2.1 b hb
      ·exact .inr (by have:=ou.out;omega)
     ·rcases hb with hb|hb
      ·exact Nat.lt_of_lt_of_le (h4.1.2.2 b hb) jN.size
      ·exact hb.2)
    have bJ:=zh (jN.mono (C':=C) fun b _ e=>HI4.out.1.1 b (by rcases e with e|e<;>omega));clear aH xn jc hk3 hk4 lG hha nI hcb hhb hch jN hD1 hD2 hD3 hat0 qg hfind;rw[aQ];clear aQ hlk hcv
    gi_wp2
    exact⟨_,HFX2.out,(fun b hb=>hb.elim .inl fun h=>.inr h.1),bJ.out⟩
  ·have hne:(er==0)=false:=by simpa using h0
   have hn:f x=none:=jK.out.trans (if_neg fun h=>h0 h.1);have HN:=zh hn;clear hn
   gi_wp2
   exact HSKIP.out _ mF.out HN.out
 ·intro D C W' hD hI hch hK;have hlow:∀ q,q<M->W'.heap[q]?=w5.heap[q]?:=fun q hq=>hI.2.1 q (by omega) (by omega);have hk3:=(hlow (N+3) (by omega)).trans (zkb dU.out (zka bD.out av.out));have hk4:=(hlow (N+4) (by omega)).trans (zkb jq.out (zka bD.out av.out));have aX:Chg (fun q=>q=M) w5 W':=⟨hch.1,hch.2,hch.3,hch.4,fun q hlt hn=>by
   by_cases hq:q<M+2
   ·exact hI.2.1 q hq hn
   ·exact hch.block q hlt hq⟩
  have dA:=zh (show Below W.heap.size W W' from (zka ak.out av.out).trans (aX.below (zka ak.out av.out).size fun b (e:b=M)=>by have:=HN.out;omega));have HF:=zh (show RR=none by rw[<-HRR.out,if_pos trivial];exact zmG _ [] hI.2.2.1);clear aX hlow;obtain⟨q0,q1,q2,q3,q4,q5⟩:=box6 hk3;have cf:∀ o,W'.frozen? ⟨N+3,o,none⟩=false:=fun o=>zf hk3;obtain⟨w9,aQ,aR,aY⟩:=st6 (.slice none 0 0) (.slice none 0 0) (.slice none 0 0) (.slice none 0 0) (.slice none 0 0) (.slice none 0 0) hk3;have bu:=aR.keep hk4 fun(e:N+4=N+3)=>by omega
  have qb:w9.cell? ⟨N+4,0,none⟩=some (.bool false):=zc bu rfl;have tu:∀ o,w9.frozen? ⟨N+4,o,none⟩=false:=fun o=>zf bu;obtain⟨w8,hw8,hc8,gV⟩:=setU (o:=0) (.bool false) bu;have fJ:Chg (fun q=>q=N+3\/q=N+4) W' w8:=(aR.mono fun q _ h=>.inl h).trans2 hc8 fun q _ h=>.inr h;have bJ:=zh fJ;have vz:=zh (hc8.keep aY (fun(e:N+3=N+4)=>by omega));have pU:=zh gV;clear aR aY bu hc8 gV fJ;have HK:=zh (bJ.out.keep hK (fun e=>by have:D=w5.heap.size:=hD;have:=iG.out;rcases e with e|e<;>omega));have HD:=zh (show w5.heap.size=D from hD.symm);clear hk3 hk4 hI hch hK hD;go_wp2_with fail;clear q0 q1 q2 q3 q4 q5 qb cf tu;refine⟨by simp,.inl ⟨_,_,rfl,run_takeDeferred HK.out,?_⟩⟩;have hcd:Chg (fun q=>q=N+3\/q=N+4\/q=D) W' (w8.putObj D (.deferred none)):=(bJ.out.mono fun b _ h=>h.elim .inl fun h=>.inr (.inl h)).trans2 (Chg.putObj w8 D (.deferred none)) fun b _ h=>.inr (.inr h)
  have bL:=(Chg.putObj w8 D (.deferred none)).keep vz.out (fun(e:N+3=D)=>by have:=HD.out;have:=iG.out;omega);have eB:=(Chg.putObj w8 D (.deferred none)).keep pU.out (fun(e:N+4=D)=>by have:=HD.out;have:=iG.out;omega);obtain⟨t0,t1,t2,t3,t4,t5⟩:=box6 bL;have tb:(w8.putObj D (.deferred none)).cell? ⟨N+4,0,none⟩=some (.bool false):=zc eB rfl;exact⟨.tuple #[.agg #[.slice none 0 0,.slice none 0 0,.slice none 0 0,.slice none 0 0,.slice none 0 0,.slice none 0 0],.bool false],by simp[results,Tryz.results12,go_sem,t0,t1,t2,t3,t4,t5,tb],dA.out.trans (hcd.below dA.out.size fun b h=>by
   have:=HD.out;have:=iG.out;have:=HN.out;rcases h with h|h|h<;>omega),_,_,_,_,_,_,_,rfl,.inl ⟨HF.out,rfl,rfl⟩⟩
 ·intro D pre C W' hD hX hch hK;obtain⟨cK,q,s,x,x0,x1,x2,x3,x4,x5,rfl,h2,h3,h4,h5,h6,h7,h8,h9,h10,h11⟩:=hX;have HF:=zh (show RR=some (q,s) by
   rw[<-HRR.out,if_pos trivial];obtain⟨ys,hys⟩:=h2;rw[<-hys,List.append_assoc];exact zmF h4 cK [] h3 h5)
  have aX:Chg (fun b=>b=M\/b=N+3\/b=N+4) w5 W':=⟨hch.1,hch.2,hch.3,hch.4,fun q hlt hn=>by
   by_cases hq:q<M+2
   ·exact h7 q hq (fun e=>hn (.inl e)) (fun e=>hn (.inr (.inl e))) (fun e=>hn (.inr (.inr e)))
   ·exact hch.block q hlt hq⟩
  have dA:=zh (show Below W.heap.size W W' from (zka ak.out av.out).trans (aX.below (zka ak.out av.out).size fun b h=>by have:=HN.out;rcases h with h|h|h<;>omega));have HK:=zh hK;have nZ:=zh h10;have HS2:=zh h11;have yD:=zh h6;have bN:=zh h8;have uZ:=zh h9;have HD:=zh (show w5.heap.size=D from hD.symm);clear h2 h3 h4 h5 h6 h7 h8 h9 h10 h11 aX hch hK hD;go_wp2_with fail;refine wpIn_ret ?_;simp only[Exit.inBlock,Exit.then];refine⟨by simp,.inl ⟨_,_,rfl,run_takeDeferred HK.out,?_⟩⟩;have hcd:=Chg.putObj W' D (.deferred none);have bL:=hcd.keep bN.out (fun(e:N+3=D)=>by have:=HD.out;have:=iG.out;omega);have eB:=hcd.keep uZ.out (fun(e:N+4=D)=>by have:=HD.out;have:=iG.out;omega);obtain⟨t0,t1,t2,t3,t4,t5⟩:=box6 bL;have tb:(W'.putObj D (.deferred none)).cell? ⟨N+4,0,none⟩=some (.bool true):=zc eB rfl
  have hkeep:∀ q,(C q/\M+2<=q)->q<W'.heap.size->(W'.putObj D (.deferred none)).heap[q]?=W'.heap[q]?:=fun q h hlt=>hcd.block q hlt fun(e:q=D)=>by
   have:=HD.out;have:=iG.out;have:=yD.out.2.1 q h.1;omega
  have hge:∀ q,(C q/\M+2<=q)->q<W'.heap.size->W.heap.size<=q:=fun q h _=>by have:=HN.out;omega
  exact⟨.tuple #[.agg #[x0,x1,x2,x3,x4,x5],.bool true],by simp[results,Tryz.results12,go_sem,t0,t1,t2,t3,t4,t5,tb],dA.out.trans (hcd.below dA.out.size fun b (h:b=D)=>by
   have:=HD.out;have:=iG.out;have:=HN.out;omega),_,_,_,_,_,_,_,rfl,.inr ⟨q,s,HF.out,rfl,nZ.out.keep hge hkeep,HS2.out.keep hge hkeep⟩⟩
attribute [local go_sem] Oper.semAt_some
def zoC (t:T) (vs:List VD) (b:BX) (F:Int):Option SS:=if smlE vs b=true then (allS b (lenE vs b)).find? (zn5 (zlT vs [] t) F) else none
theorem znj {W:World} {vs:List VD} {b:BX} {t:T} {v:Value} {F:Int} {A1:Option Addr} {c1:Nat} (hv:NV W Any t v) (hr:RowV W Any A1 vs) (hl:vs.length<=LV) (hlc:vs.length<=c1) (hF:I64 F) (lK:F<=1000000) :
  Calls Tryz.prog 18 #[v,.slice A1 vs.length c1,.agg #[.int .i64 b.v,.int .i64 b.l,.int .i64 b.i],.int .i64 F] W (zxf (zoC t vs b F) W):=by
 have HC:=zh (fun w' (hb:Below W.heap.size W w')=>zp5 (W:=w') (prs:=[]) (b:=b) (A2:=none) (c2:=0) (hv.later hb) (hr.later hb) hl hlc (fun i hi=>by cases hi) (by decide) (by decide) hF lK);obtain⟨A3,c3,rfl,-⟩:=hv.open_;obtain⟨k,n,nm,ks⟩:=t;obtain⟨bv,bl,bi⟩:=b;simp only[T.k_nd,T.n_nd,T.s_nd,T.ks_nd] at HC ⊢;obtain⟨N,hN⟩:∃ N,W.heap.size=N:=⟨_,rfl⟩
 have HN:=zh hN;obtain⟨hb1,hz1,k0,k1,k2⟩:=al3 W (.cells #[.int .u8 k,.int .i64 n,.string nm,.slice A3 ks.length c3] 24) (.cells #[.int .i64 bv,.int .i64 bl,.int .i64 bi] 27) (.cells #[.slice none 0 0,.slice none 0 0,.slice none 0 0] 34);obtain⟨w1,hw1⟩:∃ x,((W.alloc (.cells #[.int .u8 k,.int .i64 n,.string nm,.slice A3 ks.length c3] 24)).alloc (.cells #[.int .i64 bv,.int .i64 bl,.int .i64 bi] 27)).alloc (.cells #[.slice none 0 0,.slice none 0 0,.slice none 0 0] 34)=x:=⟨_,rfl⟩
 rw[hw1] at hb1 hz1 k0 k1 k2;rw[hN] at hz1 k0 k1 k2;have HB1:=zh hb1;have HZ1:=zh hz1;have aK:=zh k2;obtain⟨y0,y1,y2⟩:=zkr k1;obtain⟨x0,x1,x2,x3⟩:=box4 k0;clear hb1 hz1 k0 k1 k2;clear hv hr hl hlc hF lK
 show Calls Tryz.prog 18 #[.agg #[.int .u8 k,.int .i64 n,.string nm,.slice A3 ks.length c3],.slice A1 vs.length c1,.agg #[.int .i64 bv,.int .i64 bl,.int .i64 bi],.int .i64 F] W _
 refine(callsIn_wide (n:=3)).1 (callsIn_of_wp_marks Tryz.func18 rfl trivial ((wpIn_wide (n:=3)).2 ?_));simp only[Tryz.ntmps18,List.size_toArray,List.length_cons,List.length_nil,Nat.reduceAdd,Nat.reduceSub,Array.replicate_succ,Array.replicate_zero,List.push_toArray,List.append_toArray,List.nil_append,List.cons_append];go_wp2_with fail;refine(HC.out _ HB1.out).mono ?_;rintro e w' ⟨hb,v,x,rfl,h⟩;obtain⟨RR,hRR⟩:∃ RR,zoC (.nd k n nm ks) vs ⟨bv,bl,bi⟩ F=RR:=⟨_,rfl⟩
 have h':=h;rw[show(if smlE vs ⟨bv,bl,bi⟩=true then List.find? (zn5 (zlT vs [] (.nd k n nm ks)) F) (allS ⟨bv,bl,bi⟩ (lenE vs ⟨bv,bl,bi⟩)) else none)=RR from hRR] at h';have HRR:=zh hRR;have HH:=zh (And.intro hb h');clear hb h HC hRR h';obtain⟨A,la,ca,B,lb,cb,D,ld,cd,rfl⟩:∃ A l c B m d D k e,v=.agg #[.slice A l c,.slice B m d,.slice D k e]:=by
  rcases HH.out.2 with⟨-,-,h⟩|⟨s,-,-,h⟩
  ·exact⟨_,_,_,_,_,_,_,_,_,h⟩
  ·obtain⟨A,c,B,d,D,e,h,-⟩:=h;exact⟨_,_,_,_,_,_,_,_,_,h⟩
 have hk2:=zkb aK.out HH.out.1;obtain⟨q0,q1,q2⟩:=zkr hk2;have cf:∀ o,w'.frozen? ⟨N+2,o,none⟩=false:=fun o=>zf hk2;obtain⟨w9,aQ,aR,aY⟩:=st3 (.slice A la ca) (.slice B lb cb) (.slice D ld cd) hk2;obtain⟨t0,t1,t2⟩:=zkr aY;have mr:=zh aR;clear hk2 aR aY x0 x1 x2 x3 y0 y1 y2 hw1;go_wp2_with fail;refine⟨.tuple #[.agg #[.slice A la ca,.slice B lb cb,.slice D ld cd],.bool x],by simp[results,Tryz.results18,go_sem,t0,t1,t2],(zka HB1.out HH.out.1).trans (mr.out.below (zka HB1.out HH.out.1).size fun b (e:b=N+2)=>by have:=HN.out;omega),_,_,rfl,?_⟩;rcases HH.out.2 with⟨h1,h2,h3⟩|⟨s,h1,h2,h3⟩
 ·exact .inl ⟨HRR.out.trans h1,h2,h3⟩
 ·exact .inr ⟨s,HRR.out.trans h1,h2,h3.keep (fun q h _=>Nat.le_trans HB1.out.size h) fun q h hlt=>mr.out.block q hlt fun(e:q=N+2)=>by have h:w1.heap.size<=q:=h;have:=HZ1.out;omega⟩
def xTW:T:=.nd 2 0 ⟨#[120]⟩ []
def nTW (n:Int):T:=.nd 1 n ⟨#[]⟩ []
def stTW:T:=.nd 56 0 ⟨#[]⟩ [xTW,nTW 0]
def eqTW:T:=.nd 16 0 ⟨#[]⟩ [xTW,nTW 1]
def blTW:T:=.nd 57 0 ⟨#[]⟩ []
def ifTW:T:=.nd 52 0 ⟨#[]⟩ [eqTW,blTW,blTW,nTW 1]
def vsW:List VD:=[⟨⟨#[120]⟩,1,0⟩]
def bxW:BX:=⟨1,0,0⟩
def okPW:Option (SS×SS)->Bool
 | some (a,b)=>eqS a ⟨[[0]],[],[]⟩&&eqS b ⟨[[1]],[],[]⟩
 | none=>false
def okSW:Option SS->Bool
 | some a=>eqS a ⟨[[0]],[],[]⟩
 | none=>false
theorem zvL:okPW (losE stTW vsW bxW)=true:=by decide +kernel
theorem zv6:okSW (zoC ifTW vsW bxW 100)=true:=by decide +kernel
theorem zwG:losE stTW vsW bxW=some (⟨[[0]],[],[]⟩,⟨[[1]],[],[]⟩):=by
 have h:=zvL;unfold okPW at h
 split at h
 ·rename_i a b e;rw[e];simp only[Bool.and_eq_true,zoZ] at h;rw[h.1,h.2]
 ·cases h
theorem zwX:zoC ifTW vsW bxW 100=some ⟨[[0]],[],[]⟩:=by
 have h:=zv6;unfold okSW at h
 split at h
 ·rename_i a e;rw[e,zoZ.1 h]
 ·cases h
theorem zpV (n:Int) (w:World):Calls Tryz.prog 35 #[.int .i64 n] w fun e w'=>e=.returned (nv 1 n ⟨#[]⟩ none 0 0)/\Below w.heap.size w w':=by
 have hb:∀ w,(Instr.build 24 #[(0,.int .u8 1),(1,.int .i64 n)]).run Tryz.prog w=.ok (nv 1 n ⟨#[]⟩ none 0 0) w:=fun w=>by kernel_rfl
 go_enter Tryz.func35,Tryz.ntmps35;go_wp2_with fail;exact bodyPost_ret (v:=nv 1 n ⟨#[]⟩ none 0 0) (by simp[results,Tryz.results35,go_sem]) rfl ⟨rfl,zkc (Below.refl _ _) _⟩
theorem zuB {vs:List VD} {t:T} (hb:basB t.k=false) (eY:t.k≠56) (s:SS):cdE vs t s=none:=by
 unfold cdE;refine if_neg fun h=>?_;have h1:=h.1;unfold asgE at h1
 split at h1
 ·exact absurd h1 (by decide)
 ·rename_i h2
  split at h1
  ·rename_i h3;exact h3 h1
  ·rename_i h3;apply h3;intro h4;unfold doE at h4
   split at h4
   ·simp at h4
   ·simp[eY,hb] at h4
theorem zmz {f:SS->Option SS} (h:∀ s,f s=none):∀ (ss pre:List SS),zmA f pre ss=none
 | [],_=>rfl
 | s::ss,pre=>by
  rw[zmA];simp only[h s];exact zmz h ss _
theorem zr9 {vs:List VD} {t:T} {b:BX} (hb:basB t.k=false) (eY:t.k≠56):losE t vs b=none:=by
 unfold losE
 split
 ·exact zmz (zuB hb eY) _ _
 ·rfl
theorem zri {w:World} {t:T} {v:Value} (hv:NV w Any t v):Calls Tryz.prog 22 #[v] w fun e w'=>e=.returned (.bool (basB t.k))/\Below w.heap.size w w':=by
 obtain⟨A3,c3,rfl,-⟩:=hv.open_;obtain⟨k,n,nm,ks⟩:=t;simp only[T.k_nd,T.n_nd,T.s_nd,T.ks_nd];clear hv
 show Calls Tryz.prog 22 #[.agg #[.int .u8 k,.int .i64 n,.string nm,.slice A3 ks.length c3]] w _
 have hb1:=zkc (Below.refl w.heap.size w) (.cells #[.int .u8 k,.int .i64 n,.string nm,.slice A3 ks.length c3] 24);have HB1:=zh hb1;clear hb1;by_cases h1:40<=k
 ·by_cases h2:k<=49
  ·have e:basB k=true:=by simp[basB,h1,h2]
   have E:=zh e;clear e;go_enter Tryz.func22,Tryz.ntmps22;go_wp2_with fail;go_ret;exact⟨by rw[E.out];rfl,HB1.out⟩
  ·have e:basB k=false:=by simp[basB,h1,h2]
   have E:=zh e;clear e;go_enter Tryz.func22,Tryz.ntmps22;go_wp2_with fail;go_ret;exact⟨by rw[E.out];rfl,HB1.out⟩
 ·have e:basB k=false:=by simp[basB,h1]
  have E:=zh e;clear e;go_enter Tryz.func22,Tryz.ntmps22;go_wp2_with fail;go_ret;exact⟨by rw[E.out];rfl,HB1.out⟩
def AwP:Prop:=∀ w,Calls Tryz.prog 9 #[] w fun e w'=>e=.returned (.bool true)/\Below w.heap.size w w'
theorem zs3 (haw:AwP) {W:World} {vs:List VD} {b:BX} {t:T} {v:Value} {A1:Option Addr} {c1:Nat} (hv:NV W Any t v) (hr:RowV W Any A1 vs) (hl:vs.length<=LV) (hlc:vs.length<=c1) :
  Calls Tryz.prog 5 #[v,.slice A1 vs.length c1,.agg #[.int .i64 b.v,.int .i64 b.l,.int .i64 b.i]] W fun e w'=>e=.returned (.bool true)/\Below W.heap.size W w':=by
 have vH:=zh haw;have HBIG:=zh (fun w' (hb:Below W.heap.size W w')=>zvc t v w' (hv.later hb));have HCNT:=zh (fun w' (hb:Below W.heap.size W w')=>zpH vs b A1 c1 w' (hr.later hb) hl);have HBAS:=zh (fun w' (hb:Below W.heap.size W w')=>zri (hv.later hb));have jo:=zh (fun w' (hb:Below W.heap.size W w')=>zpG (b:=b) (c1:=c1) (hv.later hb) (hr.later hb) hl);have gq:=zh (fun w' (hb:Below W.heap.size W w')=>znj (b:=b) (F:=10) (hv.later hb) (hr.later hb) hl hlc ⟨by decide,by decide⟩ (by decide));obtain⟨A3,c3,rfl,-⟩:=hv.open_;obtain⟨k,n,nm,ks⟩:=t;obtain⟨bv,bl,bi⟩:=b;simp only[T.k_nd,T.n_nd,T.s_nd,T.ks_nd] at HBIG HBAS jo gq ⊢;have pO:=zh hl;obtain⟨N,hN⟩:∃ N,W.heap.size=N:=⟨_,rfl⟩
 have hb1:=zkc (zkc (Below.refl W.heap.size W) (.cells #[.int .u8 k,.int .i64 n,.string nm,.slice A3 ks.length c3] 24)) (.cells #[.int .i64 bv,.int .i64 bl,.int .i64 bi] 27);have k0:=zkf (zlA W hN (.cells #[.int .u8 k,.int .i64 n,.string nm,.slice A3 ks.length c3] 24)) (.cells #[.int .i64 bv,.int .i64 bl,.int .i64 bi] 27);have k1:=zlA (W.alloc (.cells #[.int .u8 k,.int .i64 n,.string nm,.slice A3 ks.length c3] 24)) (n:=N+1) (by simp[hN]) (.cells #[.int .i64 bv,.int .i64 bl,.int .i64 bi] 27);obtain⟨w1,hw1⟩:∃ x,(W.alloc (.cells #[.int .u8 k,.int .i64 n,.string nm,.slice A3 ks.length c3] 24)).alloc (.cells #[.int .i64 bv,.int .i64 bl,.int .i64 bi] 27)=x:=⟨_,rfl⟩
 rw[hw1] at hb1 k0 k1;have HB1:=zh hb1;have aP:=zh k0;have aB:=zh k1;have HN:=zh hN
 show Calls Tryz.prog 5 #[.agg #[.int .u8 k,.int .i64 n,.string nm,.slice A3 ks.length c3],.slice A1 vs.length c1,.agg #[.int .i64 bv,.int .i64 bl,.int .i64 bi]] W _
 clear hv hr hl hlc hb1 k0 k1 haw;go_enter Tryz.func5,Tryz.ntmps5;go_wp2_with fail;clear hw1;refine(vH.out _).mono ?_;rintro e2 w2 ⟨rfl,hb2⟩;have HB2:=zh (zka HB1.out hb2);have eT:=zh (zkb aP.out hb2);have eQ:=zh (zkb aB.out hb2);obtain⟨x0,x1,x2,x3⟩:=box4 eT.out;clear hb2;go_wp2_with fail;refine(HBIG.out _ HB2.out).mono ?_;rintro e3 w3 ⟨bg,rfl,hb3⟩;have HB3:=zh (zka HB2.out hb3);have rQ:=zh (zkb eT.out hb3);have oF:=zh (zkb eQ.out hb3);obtain⟨y0,y1,y2⟩:=zkr oF.out;clear hb3 x0 x1 x2 x3
 cases bg
 rotate_left 1
 ·go_wp2_with fail;go_ret;exact⟨rfl,HB3.out⟩
 by_cases xE:40<vs.length
 ·have h40i:(40:Int)<(vs.length:Int):=by omega
  go_wp2_with fail;go_ret;exact⟨rfl,HB3.out⟩
 have h40i:¬ (40:Int)<(vs.length:Int):=by omega
 go_wp2_with fail;refine(HCNT.out _ HB3.out).mono ?_;obtain⟨⟨m,er⟩,hR⟩:∃ R,cntR vs ⟨bv,bl,bi⟩=R:=⟨_,rfl⟩
 rw[hR];have HSML:=zh (show smlE vs ⟨bv,bl,bi⟩=(decide (er=0)&&decide (m<=65536)) by unfold smlE;rw[hR]);clear hR;rintro e4 w4 ⟨rfl,hb4⟩;have ak:=zh (zka HB3.out hb4);have oG:=zh (zkb rQ.out hb4);have oD:=zh (zkb oF.out hb4);obtain⟨x0,x1,x2,x3⟩:=box4 oG.out;obtain⟨z0,z1,z2⟩:=zkr oD.out;clear hb4 y0 y1 y2;by_cases he:er=0
 ·subst he;by_cases hm:m<=65536
  ·go_wp2_with fail;refine(HBAS.out _ ak.out).mono ?_;rintro e5 w5 ⟨rfl,hb5⟩;have av:=zh (zka ak.out hb5);have HK05:=zh (zkb oG.out hb5);have rO:=zh (zkb oD.out hb5);obtain⟨y0,y1,y2,y3⟩:=box4 HK05.out;obtain⟨t0,t1,t2⟩:=zkr rO.out;clear hb5 x0 x1 x2 x3 z0 z1 z2;obtain⟨bs,hbs⟩:∃ x,basB k=x:=⟨_,rfl⟩
   rw[hbs];have iC:=zh hbs;clear hbs
   cases bs
   ·by_cases eY:k=56
    ·have h56b:(k==56)=true:=by simp[eY]
     go_wp2_with fail;go_ret;exact⟨rfl,av.out⟩
    ·have h56b:(k==56)=false:=by simpa using eY
     by_cases h150:150<m
     ·go_wp2_with fail;go_ret;exact⟨rfl,av.out⟩
     ·have iK:=zh (show losE (.nd k n nm ks) vs ⟨bv,bl,bi⟩=none from zr9 iC.out eY);rw[iK.out] at jo;go_wp2_with fail;refine(jo.out _ av.out).mono ?_;rintro e6 w6 ⟨hb6,a0,a1,a2,a3,a4,a5,bb,rfl,h6⟩;obtain⟨rfl,rfl,rfl,rfl,rfl,rfl,rfl⟩:bb=false/\a0=.slice none 0 0/\a1=.slice none 0 0/\a2=.slice none 0 0/\a3=.slice none 0 0/\a4=.slice none 0 0/\a5=.slice none 0 0:=by
       rcases h6 with⟨-,h,h'⟩|⟨q,s,h,-⟩
       ·simp only[Array.mk.injEq,List.cons.injEq,and_true] at h';exact⟨h,h'⟩
       ·cases h
      have kz:=heap_alloc_new w6 (.cells #[.slice none 0 0,.slice none 0 0,.slice none 0 0,.slice none 0 0,.slice none 0 0,.slice none 0 0] 36);have hbz:=zkc (Below.refl w6.heap.size w6) (.cells #[.slice none 0 0,.slice none 0 0,.slice none 0 0,.slice none 0 0,.slice none 0 0,.slice none 0 0] 36);obtain⟨wz,hwz⟩:∃ x,w6.alloc (.cells #[.slice none 0 0,.slice none 0 0,.slice none 0 0,.slice none 0 0,.slice none 0 0,.slice none 0 0] 36)=x:=⟨_,rfl⟩
      rw[hwz] at kz hbz;obtain⟨q0,q1,q2,q3,q4,q5⟩:=box6 kz;have cfz:∀ o,wz.frozen? ⟨w6.heap.size,o,none⟩=false:=fun o=>zf kz;obtain⟨wy,vL,hcy,-⟩:=st6 (.slice none 0 0) (.slice none 0 0) (.slice none 0 0) (.slice none 0 0) (.slice none 0 0) (.slice none 0 0) kz;have dD:Below w6.heap.size w6 wy:=hbz.trans (hcy.below hbz.size fun b (e:b=w6.heap.size)=>by omega);clear kz hbz hcy;have aO:=zh (zka (zka av.out hb6) dD);clear hb6 h6 dD;go_wp2_with fail;go_ret;exact⟨rfl,aO.out⟩
   ·go_wp2_with fail;go_ret;exact⟨rfl,av.out⟩
  ·have uV:=zh (show smlE vs ⟨bv,bl,bi⟩=false by rw[HSML.out];simp[hm]);have iK:=zh (show losE (.nd k n nm ks) vs ⟨bv,bl,bi⟩=none from if_neg (by rw[uV.out];simp));have oP:=zh (show zoC (.nd k n nm ks) vs ⟨bv,bl,bi⟩ 10=none from if_neg (by rw[uV.out];simp));rw[iK.out] at jo;rw[oP.out] at gq;go_wp2_with fail;refine(jo.out _ ak.out).mono ?_;rintro e5 w5 ⟨hb5,a0,a1,a2,a3,a4,a5,bb,rfl,h5⟩;obtain⟨rfl,rfl,rfl,rfl,rfl,rfl,rfl⟩:bb=false/\a0=.slice none 0 0/\a1=.slice none 0 0/\a2=.slice none 0 0/\a3=.slice none 0 0/\a4=.slice none 0 0/\a5=.slice none 0 0:=by
    rcases h5 with⟨-,h,h'⟩|⟨q,s,h,-⟩
    ·simp only[Array.mk.injEq,List.cons.injEq,and_true] at h';exact⟨h,h'⟩
    ·cases h
   clear h5;have kz:=heap_alloc_new w5 (.cells #[.slice none 0 0,.slice none 0 0,.slice none 0 0,.slice none 0 0,.slice none 0 0,.slice none 0 0] 36);have hbz:=zkc (Below.refl w5.heap.size w5) (.cells #[.slice none 0 0,.slice none 0 0,.slice none 0 0,.slice none 0 0,.slice none 0 0,.slice none 0 0] 36);obtain⟨wz,hwz⟩:∃ x,w5.alloc (.cells #[.slice none 0 0,.slice none 0 0,.slice none 0 0,.slice none 0 0,.slice none 0 0,.slice none 0 0] 36)=x:=⟨_,rfl⟩
   rw[hwz] at kz hbz;obtain⟨q0,q1,q2,q3,q4,q5⟩:=box6 kz;have cfz:∀ o,wz.frozen? ⟨w5.heap.size,o,none⟩=false:=fun o=>zf kz;obtain⟨wy,vL,hcy,-⟩:=st6 (.slice none 0 0) (.slice none 0 0) (.slice none 0 0) (.slice none 0 0) (.slice none 0 0) (.slice none 0 0) kz;have dD:Below w5.heap.size w5 wy:=hbz.trans (hcy.below hbz.size fun b (e:b=w5.heap.size)=>by omega);clear kz hbz hcy;have aO:=zh (zka (zka ak.out hb5) dD);have rP:=zh (zkb (zkb oG.out hb5) dD);have rM:=zh (zkb (zkb oD.out hb5) dD);obtain⟨y0,y1,y2,y3⟩:=box4 rP.out;obtain⟨t0,t1,t2⟩:=zkr rM.out;clear hb5 dD x0 x1 x2 x3 z0 z1 z2;go_wp2_with fail;refine(gq.out _ aO.out).mono ?_;rintro e7 w7 ⟨bF,v7,bb,rfl,h7⟩;obtain⟨rfl,rfl⟩:bb=false/\v7=.agg #[.slice none 0 0,.slice none 0 0,.slice none 0 0]:=by
    rcases h7 with⟨-,h1,h2⟩|⟨s,h,-⟩
    ·exact⟨h1,h2⟩
    ·cases h
   have sD:=zh (zka aO.out bF);have bA:=zh (zkc sD.out (.cells #[.slice none 0 0,.slice none 0 0,.slice none 0 0] 34));clear bF h7 q0 q1 q2 q3 q4 q5 cfz hwz vL;go_wp2_with fail;go_ret;exact⟨rfl,bA.out⟩
 ·have hne:(er==0)=false:=by simpa using he
  have uV:=zh (show smlE vs ⟨bv,bl,bi⟩=false by rw[HSML.out];simp[he]);have iK:=zh (show losE (.nd k n nm ks) vs ⟨bv,bl,bi⟩=none from if_neg (by rw[uV.out];simp));have oP:=zh (show zoC (.nd k n nm ks) vs ⟨bv,bl,bi⟩ 10=none from if_neg (by rw[uV.out];simp));rw[iK.out] at jo;rw[oP.out] at gq;go_wp2_with fail;refine(jo.out _ ak.out).mono ?_;rintro e5 w5 ⟨hb5,a0,a1,a2,a3,a4,a5,bb,rfl,h5⟩;obtain⟨rfl,rfl,rfl,rfl,rfl,rfl,rfl⟩:bb=false/\a0=.slice none 0 0/\a1=.slice none 0 0/\a2=.slice none 0 0/\a3=.slice none 0 0/\a4=.slice none 0 0/\a5=.slice none 0 0:=by
   rcases h5 with⟨-,h,h'⟩|⟨q,s,h,-⟩
   ·simp only[Array.mk.injEq,List.cons.injEq,and_true] at h';exact⟨h,h'⟩
   ·cases h
  clear h5;have kz:=heap_alloc_new w5 (.cells #[.slice none 0 0,.slice none 0 0,.slice none 0 0,.slice none 0 0,.slice none 0 0,.slice none 0 0] 36);have hbz:=zkc (Below.refl w5.heap.size w5) (.cells #[.slice none 0 0,.slice none 0 0,.slice none 0 0,.slice none 0 0,.slice none 0 0,.slice none 0 0] 36);obtain⟨wz,hwz⟩:∃ x,w5.alloc (.cells #[.slice none 0 0,.slice none 0 0,.slice none 0 0,.slice none 0 0,.slice none 0 0,.slice none 0 0] 36)=x:=⟨_,rfl⟩
  rw[hwz] at kz hbz;obtain⟨q0,q1,q2,q3,q4,q5⟩:=box6 kz;have cfz:∀ o,wz.frozen? ⟨w5.heap.size,o,none⟩=false:=fun o=>zf kz;obtain⟨wy,vL,hcy,-⟩:=st6 (.slice none 0 0) (.slice none 0 0) (.slice none 0 0) (.slice none 0 0) (.slice none 0 0) (.slice none 0 0) kz;have dD:Below w5.heap.size w5 wy:=hbz.trans (hcy.below hbz.size fun b (e:b=w5.heap.size)=>by omega);clear kz hbz hcy;have aO:=zh (zka (zka ak.out hb5) dD);have rP:=zh (zkb (zkb oG.out hb5) dD);have rM:=zh (zkb (zkb oD.out hb5) dD);obtain⟨y0,y1,y2,y3⟩:=box4 rP.out;obtain⟨t0,t1,t2⟩:=zkr rM.out;clear hb5 dD x0 x1 x2 x3 z0 z1 z2;go_wp2_with fail;refine(gq.out _ aO.out).mono ?_;rintro e7 w7 ⟨bF,v7,bb,rfl,h7⟩;obtain⟨rfl,rfl⟩:bb=false/\v7=.agg #[.slice none 0 0,.slice none 0 0,.slice none 0 0]:=by
   rcases h7 with⟨-,h1,h2⟩|⟨s,h,-⟩
   ·exact⟨h1,h2⟩
   ·cases h
  have sD:=zh (zka aO.out bF);have bA:=zh (zkc sD.out (.cells #[.slice none 0 0,.slice none 0 0,.slice none 0 0] 34));clear bF h7 q0 q1 q2 q3 q4 q5 cfz hwz vL;go_wp2_with fail;go_ret;exact⟨rfl,bA.out⟩
section
variable {P:Program} {md:Region.Mode} {ops:Array Oper} {Q:Exit->Act->World->Prop} {S1 S2:World->Prop} {k:Nat}
theorem zlH {i j:Nat} {oi oj:Oper} (si sj:Option Nat) (n:Nat) (L:Bool->Bool->Array Bool) (a0:Act) (Inv:World->Prop) (Al Fact:Value->World->Prop)
  (hoi:ops[i]?=some oi) (hoj:ops[j]?=some oj) (hdi:oi.dst=si) (hdj:oj.dst=sj) (hr0:Region.ready md ops (L false false)=[i,j]) (hr1:Region.ready md ops (L false true)=[i])
  (hLi:∀ l4,(L false l4).setIfInBounds i true=L true l4) (hLj:(L false false).setIfInBounds j true=L false true)
  (hS:∀ w,Inv w->S1 w/\S2 w) (hInv:∀ w w',Inv w->Below w.heap.size w w'->Inv w') (hAl:∀ u w w',Al u w->Below w.heap.size w w'->Al u w')
  (hi:∀ (v4:Value) (K:Act->World->Prop) (w:World),Inv w->Shut (∀ v w',Below w.heap.size w w'->Fact v w'->K ((a0.put sj v4).put si v) w')->if Region.wanted oi (yielded ops (a0.put sj v4).tmps)=true then Oper.wp P oi (a0.put sj v4) w K Q else K ((a0.put sj v4).put si undef) w)
  (hj:∀ (v4:Value) (K:Act->World->Prop) (w:World),Inv w->Shut (∀ v w',Below w.heap.size w w'->Al v w'->K ((a0.put sj v4).put sj v) w')->if Region.wanted oj (yielded ops (a0.put sj v4).tmps)=true then Oper.wp P oj (a0.put sj v4) w K Q else K ((a0.put sj v4).put sj undef) w)
  (ui:∀ u v,(a0.put sj u).put sj v=a0.put sj v)
  (hc:∀ (l4:Bool) (v4 v:Value) (w:World),Inv w->Fact v w->(l4=true->Al v4 w)->(l4=false->v4=undef)->wpG P md ops Q S1 S2 k (n+(!l4).toNat) (L true l4) ((a0.put sj v4).put si v) w) :
  ∀ (l4:Bool) (v4:Value) (w:World),Inv w->(l4=true->Al v4 w)->(l4=false->v4=undef)->a0.put sj v4=a0->wpG P md ops Q S1 S2 k (n+1+(!l4).toNat) (L false l4) a0 w:=by
 subst hdi hdj;have h1:∀ (v4:Value) (w:World),Inv w->Al v4 w->wpG P md ops Q S1 S2 k (n+1) (L false true) (a0.put oj.dst v4) w:=by
  intro v4 w hI hA;refine⟨(fun h0=>by rw[hr1] at h0;cases h0),fun q hq=>?_⟩;rw[hr1] at hq;simp only[List.mem_singleton] at hq;subst hq;refine wpOp_step hoi fun K' hK=>hi v4 K' w hI ?_;intro v w' hb hF;have hI':=hInv _ _ hI hb;refine hK _ _ ⟨⟨(hS _ hI').1,fun _=>(hS _ hI').2⟩,?_⟩;rw[hLi];exact hc true v4 v w' hI' hF (fun _=>hAl _ _ _ hA hb) (fun h=>by cases h)
 intro l4 v4 w hI hA hU ha
 cases l4
 ·have hv:=hU rfl;refine⟨(fun h0=>by rw[hr0] at h0;cases h0),fun q hq=>?_⟩;rw[hr0] at hq;simp only[List.mem_cons,List.not_mem_nil,or_false] at hq;rcases hq with rfl|rfl
  ·refine wpOp_step hoi fun K' hK=>?_;rw[<-ha];refine hi v4 K' w hI ?_;intro v w' hb hF;have hI':=hInv _ _ hI hb;refine hK _ _ ⟨⟨(hS _ hI').1,fun _=>(hS _ hI').2⟩,?_⟩;rw[hLi];exact hc false v4 v w' hI' hF (fun h=>by cases h) (fun _=>hv)
  ·refine wpOp_step hoj fun K' hK=>?_;rw[<-ha];refine hj v4 K' w hI ?_;intro v w' hb hF;have hI':=hInv _ _ hI hb;refine hK _ _ ⟨⟨(hS _ hI').1,fun _=>(hS _ hI').2⟩,?_⟩;rw[hLj,ui];exact h1 v w' hI' hF
 ·rw[<-ha];exact h1 v4 w hI (hA rfl)
theorem zoH {j:Nat} {oj:Oper} (sj:Option Nat) (n:Nat) (L:Bool->Array Bool) (a0:Act) (Inv:World->Prop) (Al:Value->World->Prop)
  (hoj:ops[j]?=some oj) (hdj:oj.dst=sj) (hr0:Region.ready md ops (L false)=[j]) (hLj:(L false).setIfInBounds j true=L true)
  (hS:∀ w,Inv w->S1 w/\S2 w) (hInv:∀ w w',Inv w->Below w.heap.size w w'->Inv w')
  (hj:∀ (v4:Value) (K:Act->World->Prop) (w:World),Inv w->Shut (∀ v w',Below w.heap.size w w'->Al v w'->K ((a0.put sj v4).put sj v) w')->if Region.wanted oj (yielded ops (a0.put sj v4).tmps)=true then Oper.wp P oj (a0.put sj v4) w K Q else K ((a0.put sj v4).put sj undef) w)
  (ui:∀ u v,(a0.put sj u).put sj v=a0.put sj v)
  (hc:∀ (v4:Value) (w:World),Inv w->Al v4 w->wpG P md ops Q S1 S2 k n (L true) (a0.put sj v4) w) :
  ∀ (l4:Bool) (v4:Value) (w:World),Inv w->(l4=true->Al v4 w)->a0.put sj v4=a0->wpG P md ops Q S1 S2 k (n+(!l4).toNat) (L l4) a0 w:=by
 subst hdj;intro l4 v4 w hI hA ha
 cases l4
 ·refine⟨(fun h0=>by rw[hr0] at h0;cases h0),fun q hq=>?_⟩;rw[hr0] at hq;simp only[List.mem_singleton] at hq;subst hq;refine wpOp_step hoj fun K' hK=>?_;rw[<-ha];refine hj v4 K' w hI ?_;intro v w' hb hF;have hI':=hInv _ _ hI hb;refine hK _ _ ⟨⟨(hS _ hI').1,fun _=>(hS _ hI').2⟩,?_⟩;rw[hLj,ui];exact hc v w' hI' hF
 ·rw[<-ha];exact hc v4 w hI (hA rfl)
end
theorem bVdW (w:World):(Instr.build 76 #[(0,.string ⟨#[120]⟩),(1,.int .u8 1)]).run Tryz.prog w=.ok (.agg #[.string ⟨#[120]⟩,.int .u8 1,.int .i64 0]) w:=by kernel_rfl
theorem bSVW (a0 a1 a2:Value) (w:World):(Instr.buildSlice 25 1 #[(0,.agg #[a0,a1,a2])]).run Tryz.prog w=.ok (.slice (some ⟨w.heap.size,0,none⟩) 1 1) (w.alloc (.cells #[a0,a1,a2] 76)):=by kernel_rfl
theorem bBxW (w:World):(Instr.build 27 #[(0,.int .i64 1)]).run Tryz.prog w=.ok (.agg #[.int .i64 1,.int .i64 0,.int .i64 0]) w:=by kernel_rfl
theorem bXW (w:World):(Instr.build 24 #[(0,.int .u8 2),(2,.string ⟨#[120]⟩)]).run Tryz.prog w=.ok (.agg #[.int .u8 2,.int .i64 0,.string ⟨#[120]⟩,.slice none 0 0]) w:=by kernel_rfl
theorem zw1 (a0 a1 a2 a3 b0 b1 b2 b3:Value) (w:World):(Instr.buildSlice 22 2 #[(0,.agg #[a0,a1,a2,a3]),(1,.agg #[b0,b1,b2,b3])]).run Tryz.prog w=.ok (.slice (some ⟨w.heap.size,0,none⟩) 2 2) (w.alloc (.cells #[a0,a1,a2,a3,b0,b1,b2,b3] 24)):=by kernel_rfl
theorem bNkW (k:Int) (A:Option Addr) (l c:Nat) (w:World):(Instr.build 24 #[(0,.int .u8 k),(3,.slice A l c)]).run Tryz.prog w=.ok (nv k 0 ⟨#[]⟩ A l c) w:=by kernel_rfl
theorem fldW (k:Int) (hk:0<=k/\k<256):Fld k 0 ⟨#[]⟩:=⟨hk,⟨by omega,by omega⟩,by decide⟩
theorem fldX:Fld 2 0 ⟨#[120]⟩:=⟨⟨by omega,by omega⟩,⟨by omega,by omega⟩,by decide⟩
theorem fldN (n:Int) (h:I64 n):Fld 1 n ⟨#[]⟩:=⟨⟨by omega,by omega⟩,h,by decide⟩
theorem zsv:IsFn Tryz.prog 35 Tryz.f35:=⟨Tryz.func35,by kernel_rfl,by kernel_rfl⟩
theorem zwQ:IsFn Tryz.prog 12 Tryz.f12:=⟨Tryz.func12,by kernel_rfl,by kernel_rfl⟩
theorem zero_pair {w:World} {p:Addr} {bb:Nat} {E:TypeId} {u:Value} (hz:w.heap[bb]?=some (.cells #[.slice none 0 0,.slice none 0 0,.slice none 0 0,.slice none 0 0,.slice none 0 0,.slice none 0 0] E (0,0))) (hp:p.block=bb) (h:w.cell? p=some u):u=.slice none 0 0:=by
 subst hp;obtain⟨b,o,m⟩:=p;simp only[World.cell?] at h hz
 cases m with
 | none =>
  simp only[hz] at h
  match o,h with
  | 0,h=>simp at h;exact h.symm
  | 1,h=>simp at h;exact h.symm
  | 2,h=>simp at h;exact h.symm
  | 3,h=>simp at h;exact h.symm
  | 4,h=>simp at h;exact h.symm
  | 5,h=>simp at h;exact h.symm
  | n+6,h=>simp at h
 | some x=>simp[hz] at h
theorem SV.nz6 {w:World} {S:Nat->Prop} {bb:Nat} {E:TypeId} {x:Int} {v:Value} (hz:w.heap[bb]?=some (.cells #[.slice none 0 0,.slice none 0 0,.slice none 0 0,.slice none 0 0,.slice none 0 0,.slice none 0 0] E (0,0))) (h:SV w S ⟨[[x]],[],[]⟩ v):SV w (fun b=>S b/\b≠bb) ⟨[[x]],[],[]⟩ v:=by
 obtain⟨A,c,B,d,D,e,rfl,h1,h2,h3,h4⟩:=h;refine⟨A,c,B,d,D,e,rfl,fun i hi=>?_,(fun i hi=>by simp at hi),(fun i hi=>by simp at hi),h4⟩;obtain⟨a,A',c',hA,hS,hc,hl,hr⟩:=h1 i hi;obtain rfl:i=0:=by simpa using hi
 refine⟨a,A',c',hA,⟨hS,fun e=>?_⟩,hc,hl,fun j hj=>?_⟩
 ·have:=zero_pair hz (by rw[zko];exact e) hc;simp at this
 ·obtain⟨a2,hA2,hS2,hc2,hi2⟩:=hr j hj;refine⟨a2,hA2,⟨hS2,fun e=>?_⟩,hc2,hi2⟩;have:=zero_pair hz (by rw[zko];exact e) hc2
  cases this
theorem zwB {w:World} {b:Nat} (h:w.heap[b]?=some (.cells #[.string ⟨#[120]⟩,.int .u8 1,.int .i64 0] 76 (0,0))):RowV w Any (some ⟨b,0,none⟩) vsW:=ztK h (by
  intro v hv;simp only[vsW,List.mem_cons,List.not_mem_nil,or_false] at hv;subst hv;exact⟨by decide,⟨by decide,by decide⟩,by decide,by decide⟩)
theorem zero_st {w:World} {p:Addr} {bb:Nat} {E:TypeId} {u:Value} (hz:w.heap[bb]?=some (.cells #[.slice none 0 0,.slice none 0 0,.slice none 0 0] E (0,0))) (hp:p.block=bb) (h:w.cell? p=some u):u=.slice none 0 0:=by
 subst hp;obtain⟨b,o,m⟩:=p;simp only[World.cell?] at h hz
 cases m with
 | none =>
  simp only[hz] at h
  match o,h with
  | 0,h=>simp at h;exact h.symm
  | 1,h=>simp at h;exact h.symm
  | 2,h=>simp at h;exact h.symm
  | n+3,h=>simp at h
 | some x=>simp[hz] at h
theorem SV.nz3 {w:World} {S:Nat->Prop} {bb:Nat} {E:TypeId} {x:Int} {v:Value} (hz:w.heap[bb]?=some (.cells #[.slice none 0 0,.slice none 0 0,.slice none 0 0] E (0,0))) (h:SV w S ⟨[[x]],[],[]⟩ v):SV w (fun b=>S b/\b≠bb) ⟨[[x]],[],[]⟩ v:=by
 obtain⟨A,c,B,d,D,e,rfl,h1,h2,h3,h4⟩:=h;refine⟨A,c,B,d,D,e,rfl,fun i hi=>?_,(fun i hi=>by simp at hi),(fun i hi=>by simp at hi),h4⟩;obtain⟨a,A',c',hA,hS,hc,hl,hr⟩:=h1 i hi;obtain rfl:i=0:=by simpa using hi
 refine⟨a,A',c',hA,⟨hS,fun e=>?_⟩,hc,hl,fun j hj=>?_⟩
 ·have:=zero_st hz (by rw[zko];exact e) hc;simp at this
 ·obtain⟨a2,hA2,hS2,hc2,hi2⟩:=hr j hj;refine⟨a2,hA2,⟨hS2,fun e=>?_⟩,hc2,hi2⟩;have:=zero_st hz (by rw[zko];exact e) hc2
  cases this
theorem zvG {W:World} {b:Nat} {E:TypeId} {l1:List Int} {A1:Option Addr} {c1:Nat} (h:W.heap[b]?=some (.cells #[.slice A1 l1.length c1] E (0,0))) (r1:RowI W Any A1 l1) (h1:l1.length<=c1):zne W Any (some ⟨b,0,none⟩) [l1]:=fun i hi=>by
 match i,hi with
 | 0,_=>exact⟨⟨b,0,none⟩,A1,c1,rfl,trivial,zc h rfl,h1,r1⟩
theorem SV1W {W:World} {b q:Nat} {x:Int} (hx:I64 x) (h1:W.heap[b]?=some (.cells #[.slice (some ⟨q,0,none⟩) 1 1] 32 (0,0))) (h2:W.heap[q]?=some (.cells #[.int .i64 x] 3 (0,0))):SV W Any ⟨[[x]],[],[]⟩ (.agg #[.slice (some ⟨b,0,none⟩) 1 1,.slice none 0 0,.slice none 0 0]) :=
 ⟨_,1,none,0,none,0,rfl,zvG (l1:=[x]) h1 (ztL h2 (by intro y hy;simp at hy;subst hy;exact hx)) (by simp),fun i hi=>by simp at hi,fun i hi=>by simp at hi,by simp,by simp,by simp,by simp[LI],by intro l hl;simp at hl;subst hl;simp[LI],by simp[LI],by simp[LI]⟩
theorem zws {W:World} {b:Nat} {E:TypeId} {S:Nat->Prop} (hS:S b) {t1 t2:T} {k n k1 n1 k2 n2:Int} {s s1 s2:ByteArray} {A1 A2:Option Addr} {l1 c1 l2 c2:Nat} (hf:Fld k n s) (h1:NV W S t1 (nv k1 n1 s1 A1 l1 c1)) (h2:NV W S t2 (nv k2 n2 s2 A2 l2 c2))
  (hx:W.heap[b]?=some (.cells #[.int .u8 k1,.int .i64 n1,.string s1,.slice A1 l1 c1,.int .u8 k2,.int .i64 n2,.string s2,.slice A2 l2 c2] E (0,0))):NV W S (.nd k n s [t1,t2]) (nv k n s (some ⟨b,0,none⟩) 2 2):=by
 refine NV.shut (ks:=[t1,t2]) hf (by simp[LK]) (by simp) fun i hi=>?_
 match i,hi with
 | 0,_=>exact⟨⟨b,0,none⟩,_,_,_,_,rfl,hS,⟨zc hx rfl,zc hx rfl,zc hx rfl,zc hx rfl⟩,h1⟩
 | 1,_=>exact⟨⟨b,0,none⟩,_,_,_,_,rfl,hS,⟨zc hx rfl,zc hx rfl,zc hx rfl,zc hx rfl⟩,h2⟩
theorem zu2 {W:World} {b:Nat} {E:TypeId} {S:Nat->Prop} (hS:S b) {t1 t2 t3 t4:T} {k n k1 n1 k2 n2 k3 n3 k4 n4:Int} {s s1 s2 s3 s4:ByteArray} {A1 A2 A3 A4:Option Addr} {l1 c1 l2 c2 l3 c3 l4 c4:Nat} (hf:Fld k n s) (h1:NV W S t1 (nv k1 n1 s1 A1 l1 c1)) (h2:NV W S t2 (nv k2 n2 s2 A2 l2 c2)) (h3:NV W S t3 (nv k3 n3 s3 A3 l3 c3)) (h4:NV W S t4 (nv k4 n4 s4 A4 l4 c4))
  (hx:W.heap[b]?=some (.cells #[.int .u8 k1,.int .i64 n1,.string s1,.slice A1 l1 c1,.int .u8 k2,.int .i64 n2,.string s2,.slice A2 l2 c2,.int .u8 k3,.int .i64 n3,.string s3,.slice A3 l3 c3,.int .u8 k4,.int .i64 n4,.string s4,.slice A4 l4 c4] E (0,0))):NV W S (.nd k n s [t1,t2,t3,t4]) (nv k n s (some ⟨b,0,none⟩) 4 4):=by
 refine NV.shut (ks:=[t1,t2,t3,t4]) hf (by simp[LK]) (by simp) fun i hi=>?_
 match i,hi with
 | 0,_=>exact⟨⟨b,0,none⟩,_,_,_,_,rfl,hS,⟨zc hx rfl,zc hx rfl,zc hx rfl,zc hx rfl⟩,h1⟩
 | 1,_=>exact⟨⟨b,0,none⟩,_,_,_,_,rfl,hS,⟨zc hx rfl,zc hx rfl,zc hx rfl,zc hx rfl⟩,h2⟩
 | 2,_=>exact⟨⟨b,0,none⟩,_,_,_,_,rfl,hS,⟨zc hx rfl,zc hx rfl,zc hx rfl,zc hx rfl⟩,h3⟩
 | 3,_=>exact⟨⟨b,0,none⟩,_,_,_,_,rfl,hS,⟨zc hx rfl,zc hx rfl,zc hx rfl,zc hx rfl⟩,h4⟩
theorem st4W {W:World} {b:Nat} {a0 a1 a2 a3:Value} {ty:TypeId} (v0 v1 v2 v3:Value) (h:W.heap[b]?=some (.cells #[a0,a1,a2,a3] ty (0,0))) :
  ∃ W',(((W.setCell ⟨b,0,none⟩ v0).setCell ⟨b,1,none⟩ v1).setCell ⟨b,2,none⟩ v2).setCell ⟨b,3,none⟩ v3=W'/\Chg (fun q=>q=b) W W'/\W'.heap[b]?=some (.cells #[v0,v1,v2,v3] ty (0,0)):=by
 obtain⟨W0,h0,c0,k0⟩:=setU (o:=0) v0 h;obtain⟨W1,h1,c1,k1⟩:=setU (o:=1) v1 k0;obtain⟨W2,h2,c2,k2⟩:=setU (o:=2) v2 k1;obtain⟨W3,h3,c3,k3⟩:=setU (o:=3) v3 k2;exact⟨W3,by rw[h0,h1,h2,h3],((c0.trans c1).trans c2).trans c3,by simpa using k3⟩
theorem zxB (a0 a1 a2 a3 b0 b1 b2 b3 c0 c1 c2 c3 d0 d1 d2 d3:Value) (w:World):(Instr.buildSlice 22 4 #[(0,.agg #[a0,a1,a2,a3]),(1,.agg #[b0,b1,b2,b3]),(2,.agg #[c0,c1,c2,c3]),(3,.agg #[d0,d1,d2,d3])]).run Tryz.prog w=.ok (.slice (some ⟨w.heap.size,0,none⟩) 4 4) (w.alloc (.cells #[a0,a1,a2,a3,b0,b1,b2,b3,c0,c1,c2,c3,d0,d1,d2,d3] 24)):=by kernel_rfl
theorem bBlW (w:World):(Instr.build 24 #[(0,.int .u8 57)]).run Tryz.prog w=.ok (.agg #[.int .u8 57,.int .i64 0,.string ⟨#[]⟩,.slice none 0 0]) w:=by kernel_rfl
theorem bIW (x:Int) (w:World):(Instr.buildSlice 32 1 #[(0,.int .i64 x)]).run Tryz.prog w=.ok (.slice (some ⟨w.heap.size,0,none⟩) 1 1) (w.alloc (.cells #[.int .i64 x] 3)):=by kernel_rfl
theorem zxG (A:Option Addr) (l c:Nat) (w:World):(Instr.buildSlice 31 1 #[(0,.slice A l c)]).run Tryz.prog w=.ok (.slice (some ⟨w.heap.size,0,none⟩) 1 1) (w.alloc (.cells #[.slice A l c] 32)):=by kernel_rfl
theorem bStW (A:Option Addr) (l c:Nat) (w:World):(Instr.build 34 #[(0,.slice A l c)]).run Tryz.prog w=.ok (.agg #[.slice A l c,.slice none 0 0,.slice none 0 0]) w:=by kernel_rfl
theorem zwS:IsFn Tryz.prog 18 Tryz.f18:=⟨Tryz.func18,by kernel_rfl,by kernel_rfl⟩
theorem zsS:AwP:=by
 intro W;have h1:=bVdW;have h2:=bSVW;have h3:=bBxW;have h4:=bXW;go_enter Tryz.func9,Tryz.ntmps9;go_upto_region 4 with fail;clear h1 h2 h3 h4;have hb1:=zkc (zkc (zkc (Below.refl W.heap.size W) (.cells #[.int .u8 2,.int .i64 0,.string ⟨#[120]⟩,.slice none 0 0] 24)) (.cells #[.string ⟨#[120]⟩,.int .u8 1,.int .i64 0] 76)) (.cells #[.int .i64 1,.int .i64 0,.int .i64 0] 27);obtain⟨-,hz,k0,k1,k2⟩:=al3 W (.cells #[.int .u8 2,.int .i64 0,.string ⟨#[120]⟩,.slice none 0 0] 24) (.cells #[.string ⟨#[120]⟩,.int .u8 1,.int .i64 0] 76) (.cells #[.int .i64 1,.int .i64 0,.int .i64 0] 27);obtain⟨w1,hw1⟩:∃ x,((W.alloc (.cells #[.int .u8 2,.int .i64 0,.string ⟨#[120]⟩,.slice none 0 0] 24)).alloc (.cells #[.string ⟨#[120]⟩,.int .u8 1,.int .i64 0] 76)).alloc (.cells #[.int .i64 1,.int .i64 0,.int .i64 0] 27)=x:=⟨_,rfl⟩
 rw[hw1] at hb1 hz k0 k1 k2 ⊢;obtain⟨N,hN⟩:∃ N,W.heap.size=N:=⟨_,rfl⟩
 rw[hN] at hz k0 k1 k2;have HN:=zh hN;have HB1:=zh hb1;have HZ1:=zh hz;have HKX:=zh k0;have HKV:=zh k1;have fZ:=zh k2;clear hb1 hz k0 k1 k2 hN;simp only[HN.out];clear hw1;have ay:=zh (show ∀ w',Below w1.heap.size w1 w'->(fun w':World=>(w'.cell? ⟨N,0,none⟩=some (.int .u8 2)/\w'.cell? ⟨N,1,none⟩=some (.int .i64 0)/\w'.cell? ⟨N,2,none⟩=some (.string ⟨#[120]⟩)/\w'.cell? ⟨N,3,none⟩=some (.slice none 0 0))/\w'.cell? ⟨N+2,0,none⟩=some (.int .i64 1)/\w'.cell? ⟨N+2,1,none⟩=some (.int .i64 0)/\w'.cell? ⟨N+2,2,none⟩=some (.int .i64 0)) w' from fun w' hb=>⟨box4 (zkb HKX.out hb),zkr (zkb fZ.out hb)⟩)
 have hSS:(fun w':World=>(w'.cell? ⟨N,0,none⟩=some (.int .u8 2)/\w'.cell? ⟨N,1,none⟩=some (.int .i64 0)/\w'.cell? ⟨N,2,none⟩=some (.string ⟨#[120]⟩)/\w'.cell? ⟨N,3,none⟩=some (.slice none 0 0))/\w'.cell? ⟨N+2,0,none⟩=some (.int .i64 1)/\w'.cell? ⟨N+2,1,none⟩=some (.int .i64 0)/\w'.cell? ⟨N+2,2,none⟩=some (.int .i64 0)) w1.drew/\(fun _:World=>True) w1.drew:=⟨ay.out _ (Below.refl _ _).drew,trivial⟩
 refine wp_region_noPanic ?_;refine zkd (fun w':World=>(w'.cell? ⟨N,0,none⟩=some (.int .u8 2)/\w'.cell? ⟨N,1,none⟩=some (.int .i64 0)/\w'.cell? ⟨N,2,none⟩=some (.string ⟨#[120]⟩)/\w'.cell? ⟨N,3,none⟩=some (.slice none 0 0))/\w'.cell? ⟨N+2,0,none⟩=some (.int .i64 1)/\w'.cell? ⟨N+2,1,none⟩=some (.int .i64 0)/\w'.cell? ⟨N+2,2,none⟩=some (.int .i64 0)) (fun _:World=>True) 11 (by kernel_rfl) ?_;refine zT 0 hSS ?_;(try simp only[zQ]);refine zT 4 hSS ?_;(try simp only[zQ]);refine zT 5 hSS ?_;(try simp only[zQ]);have hI:(fun w=>Below w1.heap.size w1 w) w1.drew:=(Below.refl _ _).drew;clear hSS
 refine zlH (i:=1) (j:=10) (some 17) (some 4) 8 (fun li l4 => #[true,li,false,false,true,true,false,false,false,false,l4,false,false]) _ (fun w=>Below w1.heap.size w1 w) (fun u w=>∃ b,u=.pointer (some ⟨b,0,none⟩)/\w1.heap.size<=b/\w.heap[b]?=some (.cells #[.slice none 0 0,.slice none 0 0,.slice none 0 0,.slice none 0 0,.slice none 0 0,.slice none 0 0] 36 (0,0))) (fun v w=>v=nv 1 0 ⟨#[]⟩ none 0 0) rfl rfl rfl rfl (by kernel_rfl) (by kernel_rfl) (fun l4=>by cases l4<;>rfl) rfl (fun w h=>⟨ay.out _ h,trivial⟩) (fun w w' h hb=>?_) (fun u w w' h hb=>?_) (fun v4 K w h au=>?_) (fun v4 K w h au=>?_) (fun u v=>?_) (fun l4 v4 v wc h hF hA hU=>?_) false undef w1.drew hI (fun h=>by cases h) (fun _=>rfl) ?_
 ·exact zka h hb
 ·obtain⟨b,e1,e2,e3⟩:=h;exact⟨b,e1,e2,zkb e3 hb⟩
 ·have hb0:=h;have hK:=zh au;clear au;have had:Calls Tryz.prog 35 [.int .i64 0].toArray w fun e w'=>∃ v,e=.returned v/\(v=nv 1 0 ⟨#[]⟩ none 0 0/\Below w.heap.size w w'):=(zpV 0 w).mono fun e w' ⟨h1,h2⟩=>⟨_,h1,rfl,h2⟩
  refine zke (by rfl) (.func 35) [.const (.int .i64 0)] _ (by rfl) 35 _ zsv (by rfl) _ (by rfl) _ had ?_;rintro v w' ⟨rfl,hb⟩;exact hK.out _ _ hb rfl
 ·have hK:=zh au;clear au;(try simp only[zQ]);(try simp only[zA,zB,zC]);go_simp;exact hK.out _ _ (zkc (Below.refl _ _) _) ⟨_,rfl,h.size,heap_alloc_new w _⟩
 ·simp only[Act.put,zD,zE,zF]
 rotate_left 1
 ·simp only[Act.put,zD,zE,zF]
 (try simp only[zQ]);obtain rfl:=hF;clear hI;have hI:(fun w=>Below w1.heap.size w1 w) wc:=h;have ig:=hA;have fK:=hU;clear hA hU;refine zlH (i:=2) (j:=10) (some 18) (some 4) 7 (fun li l4 => #[true,true,li,false,true,true,false,false,false,false,l4,false,false]) _ (fun w=>Below w1.heap.size w1 w) (fun u w=>∃ b,u=.pointer (some ⟨b,0,none⟩)/\w1.heap.size<=b/\w.heap[b]?=some (.cells #[.slice none 0 0,.slice none 0 0,.slice none 0 0,.slice none 0 0,.slice none 0 0,.slice none 0 0] 36 (0,0))) (fun v w=>∃ b,v=.slice (some ⟨b,0,none⟩) 2 2/\NV w Any stTW (nv 56 0 ⟨#[]⟩ (some ⟨b,0,none⟩) 2 2)) rfl rfl rfl rfl (by kernel_rfl) (by kernel_rfl) (fun l4=>by cases l4<;>rfl) rfl (fun w h=>⟨ay.out _ h,trivial⟩) (fun w w' h hb=>?_) (fun u w w' h hb=>?_) (fun v4 K w h au=>?_) (fun v4 K w h au=>?_) (fun u v=>?_) (fun l4 v4 v wc h hF hA hU=>?_) l4 v4 wc hI ig fK ?_
 ·exact zka h hb
 ·obtain⟨b,e1,e2,e3⟩:=h;exact⟨b,e1,e2,zkb e3 hb⟩
 ·have hK:=zh au;clear au;have hbs:=zw1;(try simp only[zQ]);(try simp only[zA,zB,zC]);go_simp;exact hK.out _ _ (zkc (Below.refl _ _) _) ⟨_,rfl,zxb w 24 (S:=Any) trivial (fldW 56 (by omega)) (zmK w _ fldX) (zmK w _ (fldN 0 ⟨by decide,by decide⟩))⟩
 ·have hK:=zh au;clear au;(try simp only[zQ]);(try simp only[zA,zB,zC]);go_simp;exact hK.out _ _ (zkc (Below.refl _ _) _) ⟨_,rfl,h.size,heap_alloc_new w _⟩
 ·simp only[Act.put,zD,zE,zF]
 rotate_left 1
 ·simp only[Act.put,zD,zE,zF]
 (try simp only[zQ]);obtain⟨sb,rfl,m18⟩:=hF;clear hI;have hI:(fun w=>Below w1.heap.size w1 w/\NV w Any stTW (nv 56 0 ⟨#[]⟩ (some ⟨sb,0,none⟩) 2 2)) wc:=⟨h,m18⟩
 have ig:=hA;have fK:=hU;clear hA hU m18;refine zlH (i:=3) (j:=10) (some 19) (some 4) 6 (fun li l4 => #[true,true,true,li,true,true,false,false,false,false,l4,false,false]) _ (fun w=>Below w1.heap.size w1 w/\NV w Any stTW (nv 56 0 ⟨#[]⟩ (some ⟨sb,0,none⟩) 2 2)) (fun u w=>∃ b,u=.pointer (some ⟨b,0,none⟩)/\w1.heap.size<=b/\w.heap[b]?=some (.cells #[.slice none 0 0,.slice none 0 0,.slice none 0 0,.slice none 0 0,.slice none 0 0,.slice none 0 0] 36 (0,0))) (fun v w=>v=.agg #[.int .u8 56,.int .i64 0,.string ⟨#[]⟩,.slice (some ⟨sb,0,none⟩) 2 2]) rfl rfl rfl rfl (by kernel_rfl) (by kernel_rfl) (fun l4=>by cases l4<;>rfl) rfl (fun w h=>⟨ay.out _ h.1,trivial⟩) (fun w w' h hb=>?_) (fun u w w' h hb=>?_) (fun v4 K w h au=>?_) (fun v4 K w h au=>?_) (fun u v=>?_) (fun l4 v4 v wc h hF hA hU=>?_) l4 v4 wc hI ig fK ?_
 ·exact⟨zka h.1 hb,h.2.later hb⟩
 ·obtain⟨b,e1,e2,e3⟩:=h;exact⟨b,e1,e2,zkb e3 hb⟩
 ·have hK:=zh au;clear au;have hbs:=bNkW;(try simp only[zQ]);(try simp only[zA,zB,zC]);go_simp;exact hK.out _ _ (Below.refl _ _) rfl
 ·have hK:=zh au;clear au;(try simp only[zQ]);(try simp only[zA,zB,zC]);go_simp;exact hK.out _ _ (zkc (Below.refl _ _) _) ⟨_,rfl,h.1.size,heap_alloc_new w _⟩
 ·simp only[Act.put,zD,zE,zF]
 rotate_left 1
 ·simp only[Act.put,zD,zE,zF]
 (try simp only[zQ]);obtain rfl:=hF;clear hI;have hI:(fun w=>Below w1.heap.size w1 w/\NV w Any stTW (nv 56 0 ⟨#[]⟩ (some ⟨sb,0,none⟩) 2 2)) wc:=h;have ig:=hA;have fK:=hU;clear hA hU
 refine zlH (i:=6) (j:=10) (some 22) (some 4) 5 (fun li l4 => #[true,true,true,true,true,true,li,false,false,false,l4,false,false]) _ (fun w=>Below w1.heap.size w1 w/\NV w Any stTW (nv 56 0 ⟨#[]⟩ (some ⟨sb,0,none⟩) 2 2)) (fun u w=>∃ b,u=.pointer (some ⟨b,0,none⟩)/\w1.heap.size<=b/\w.heap[b]?=some (.cells #[.slice none 0 0,.slice none 0 0,.slice none 0 0,.slice none 0 0,.slice none 0 0,.slice none 0 0] 36 (0,0))) (fun v w=>∃ A0 c0 B0 d0 D0 e0 A1 c1 B1 d1 D1 e1,v=.tuple #[.agg #[.slice A0 1 c0,.slice B0 0 d0,.slice D0 0 e0,.slice A1 1 c1,.slice B1 0 d1,.slice D1 0 e1],.bool true]/\SV w (fun b=>w1.heap.size<=b) ⟨[[0]],[],[]⟩ (.agg #[.slice A0 1 c0,.slice B0 0 d0,.slice D0 0 e0])/\SV w (fun b=>w1.heap.size<=b) ⟨[[1]],[],[]⟩ (.agg #[.slice A1 1 c1,.slice B1 0 d1,.slice D1 0 e1])) rfl rfl rfl rfl (by kernel_rfl) (by kernel_rfl) (fun l4=>by cases l4<;>rfl) rfl (fun w h=>⟨ay.out _ h.1,trivial⟩) (fun w w' h hb=>?_) (fun u w w' h hb=>?_) (fun v4 K w h au=>?_) (fun v4 K w h au=>?_) (fun u v=>?_) (fun l4 v4 v wc h hF hA hU=>?_) l4 v4 wc hI ig fK ?_
 ·exact⟨zka h.1 hb,h.2.later hb⟩
 ·obtain⟨b,e1,e2,e3⟩:=h;exact⟨b,e1,e2,zkb e3 hb⟩
 ·have hb0:=h.1;have hn0:=h.2;have hK:=zh au;clear au;have had:Calls Tryz.prog 12 [.agg #[.int .u8 56,.int .i64 0,.string ⟨#[]⟩,.slice (some ⟨sb,0,none⟩) 2 2],.slice (some ⟨N+1,0,none⟩) 1 1,.agg #[.int .i64 1,.int .i64 0,.int .i64 0]].toArray w fun e w'=>∃ v,e=.returned v/\((∃ A0 c0 B0 d0 D0 e0 A1 c1 B1 d1 D1 e1,v=.tuple #[.agg #[.slice A0 1 c0,.slice B0 0 d0,.slice D0 0 e0,.slice A1 1 c1,.slice B1 0 d1,.slice D1 0 e1],.bool true]/\SV w' (fun b=>w1.heap.size<=b) ⟨[[0]],[],[]⟩ (.agg #[.slice A0 1 c0,.slice B0 0 d0,.slice D0 0 e0])/\SV w' (fun b=>w1.heap.size<=b) ⟨[[1]],[],[]⟩ (.agg #[.slice A1 1 c1,.slice B1 0 d1,.slice D1 0 e1]))/\Below w.heap.size w w') :=
   (zpG (t:=stTW) (vs:=vsW) (b:=bxW) (c1:=1) hn0 (zwB (zkb HKV.out hb0)) (by decide)).mono fun e w' ⟨hb,x0,x1,x2,x3,x4,x5,bb,he,hr⟩=>by
    rw[zwG] at hr;rcases hr with⟨h,-⟩|⟨q,s,h,rfl,hq,hs⟩
    ·cases h
    ·injection h with h;injection h with h1 h2;subst h1 h2;have hq2:=hq;have hs2:=hs;obtain⟨A0,c0,B0,d0,D0,e0,hv0,-⟩:=hq2;obtain⟨A1,c1,B1,d1,D1,e1,hv1,-⟩:=hs2;injection hv0 with hv0;injection hv1 with hv1;simp only[Array.mk.injEq,List.cons.injEq,and_true,List.length_cons,List.length_nil,Nat.zero_add] at hv0 hv1;obtain⟨rfl,rfl,rfl⟩:=hv0;obtain⟨rfl,rfl,rfl⟩:=hv1;exact⟨_,he,⟨_,_,_,_,_,_,_,_,_,_,_,_,rfl,hq.keep (fun b h _=>Nat.le_trans hb0.size h) (fun _ _ _=>rfl),hs.keep (fun b h _=>Nat.le_trans hb0.size h) (fun _ _ _=>rfl)⟩,hb⟩
  refine zke (by rfl) (.func 12) [.tmp 19,.tmp 20,.tmp 21] _ (by rfl) 12 _ zwQ (by rfl) _ (by rfl) _ had ?_;rintro v w' ⟨hF,hb⟩;exact hK.out _ _ hb hF
 ·have hK:=zh au;clear au;(try simp only[zQ]);(try simp only[zA,zB,zC]);go_simp;exact hK.out _ _ (zkc (Below.refl _ _) _) ⟨_,rfl,h.1.size,heap_alloc_new w _⟩
 ·simp only[Act.put,zD,zE,zF]
 rotate_left 1
 ·simp only[Act.put,zD,zE,zF]
 (try simp only[zQ]);obtain⟨A0,c0,B0,d0,D0,e0,A1,c1,B1,d1,D1,e1,rfl,hq,hs⟩:=hF;clear hI;have hSS:(fun w':World=>(w'.cell? ⟨N,0,none⟩=some (.int .u8 2)/\w'.cell? ⟨N,1,none⟩=some (.int .i64 0)/\w'.cell? ⟨N,2,none⟩=some (.string ⟨#[120]⟩)/\w'.cell? ⟨N,3,none⟩=some (.slice none 0 0))/\w'.cell? ⟨N+2,0,none⟩=some (.int .i64 1)/\w'.cell? ⟨N+2,1,none⟩=some (.int .i64 0)/\w'.cell? ⟨N+2,2,none⟩=some (.int .i64 0)) wc/\(fun _:World=>True) wc:=⟨ay.out _ h.1,trivial⟩
 have hI:(fun w=>Below w1.heap.size w1 w/\SV w (fun b=>w1.heap.size<=b) ⟨[[0]],[],[]⟩ (.agg #[.slice A0 1 c0,.slice B0 0 d0,.slice D0 0 e0])/\SV w (fun b=>w1.heap.size<=b) ⟨[[1]],[],[]⟩ (.agg #[.slice A1 1 c1,.slice B1 0 d1,.slice D1 0 e1])) wc:=⟨h.1,hq,hs⟩
 clear h ig fK hq hs;rw[Nat.add_comm 5];refine zkt (i:=7) (v:=?_) rfl (by kernel_rfl) (by cases l4<;>kernel_rfl) (by cases l4<;>kernel_rfl) (by decide) (fun _ _ _ h=>h) (Or.inl ⟨by rfl,?_⟩) hSS ?_;rotate_left 1
 ·(intro w hSw;(try dsimp only at hSw);(try simp only[zA,zB,zC]);go_simp;(try with_reducible rfl))
 (try simp only[zQ]);refine zkt (i:=8) (v:=?_) rfl (by kernel_rfl) (by cases l4<;>kernel_rfl) (by cases l4<;>kernel_rfl) (by decide) (fun _ _ _ h=>h) (Or.inl ⟨by rfl,?_⟩) hSS ?_;rotate_left 1
 ·(intro w hSw;(try dsimp only at hSw);(try simp only[zA,zB,zC]);go_simp;(try with_reducible rfl))
 (try simp only[zQ]);refine zkt (i:=9) (v:=?_) rfl (by kernel_rfl) (by cases l4<;>kernel_rfl) (by cases l4<;>kernel_rfl) (by decide) (fun _ _ _ h=>h) (Or.inl ⟨by rfl,?_⟩) hSS ?_;rotate_left 1
 ·(intro w hSw;(try dsimp only at hSw);(try simp only[zA,zB,zC]);go_simp;(try with_reducible rfl))
 (try simp only[zQ]);rw[Nat.add_comm (Bool.toNat _) 2];clear hSS;refine zoH (j:=10) (some 4) 2 (fun l4 => #[true,true,true,true,true,true,true,true,true,true,l4,false,false]) _ (fun w=>Below w1.heap.size w1 w/\SV w (fun b=>w1.heap.size<=b) ⟨[[0]],[],[]⟩ (.agg #[.slice A0 1 c0,.slice B0 0 d0,.slice D0 0 e0])/\SV w (fun b=>w1.heap.size<=b) ⟨[[1]],[],[]⟩ (.agg #[.slice A1 1 c1,.slice B1 0 d1,.slice D1 0 e1])) (fun u w=>∃ b,u=.pointer (some ⟨b,0,none⟩)/\w1.heap.size<=b/\w.heap[b]?=some (.cells #[.slice none 0 0,.slice none 0 0,.slice none 0 0,.slice none 0 0,.slice none 0 0,.slice none 0 0] 36 (0,0))) rfl rfl (by kernel_rfl) rfl (fun w h=>⟨ay.out _ h.1,trivial⟩) (fun w w' h hb=>⟨zka h.1 hb,h.2.1.later hb,h.2.2.later hb⟩) (fun v4 K w h au=>?_) (fun u v=>?_) (fun v5 w3 h5 uI=>?_) l4 v4 wc hI hA ?_
 ·have hb0:=h.1;have hK:=zh au;clear au;(try simp only[zQ]);(try simp only[zA,zB,zC]);go_simp;exact hK.out _ _ (zkc (Below.refl _ _) _) ⟨_,rfl,hb0.size,heap_alloc_new w _⟩
 ·simp only[Act.put,zD,zE,zF]
 rotate_left 1
 ·simp only[Act.put,zD,zE,zF]
 (try simp only[zQ]);clear hI hA hU;obtain⟨pb,rfl,hbl,hbz⟩:=uI;obtain⟨hb3,hq3,hs3⟩:=h5;obtain⟨q0,q1,q2,q3,q4,q5⟩:=box6 hbz;have cf:∀ o,w3.frozen? ⟨pb,o,none⟩=false:=fun _=>zf hbz;obtain⟨w4,hw4,hc4,hh4⟩:=st6 (.slice A0 1 c0) (.slice B0 0 d0) (.slice D0 0 e0) (.slice A1 1 c1) (.slice B1 0 d1) (.slice D1 0 e1) hbz;have hb4:Below w1.heap.size w1 w4:=hb3.trans (hc4.below hb3.size fun b (e:b=pb)=>by omega);have tV:=zh hbz;have ak:=zh hb4;have yE:=zh hc4;have pU:=zh hh4;have HQ3:=zh hq3;have xU:=zh hs3;clear hb3 hq3 hs3 hbz hc4 hh4 hb4;have wK:=zh ((HQ3.out.nz6 tV.out).keep (w':=w4) (S':=fun b=>w1.heap.size<=b) (fun _ h _=>h.1) fun b h hlt=>yE.out.block b hlt h.2);have iI:=zh ((xU.out.nz6 tV.out).keep (w':=w4) (S':=fun b=>w1.heap.size<=b) (fun _ h _=>h.1) fun b h hlt=>yE.out.block b hlt h.2);clear HQ3 xU;refine zp 11 fun K hK=>?_;(try simp only[zA,zB,zC]);go_simp
 refine hK.out _ _ (ay.out _ ak.out) ?_;clear hK K q0 q1 q2 q3 q4 q5 cf hw4 tV yE;(try simp only[zQ]);refine zo 12 fun K hK=>?_;(try simp only[zA,zB,zC]);go_simp;refine hK.out _ _ ⟨ay.out _ ak.out,trivial⟩ ?_;clear hK K;(try simp only[zQ]);refine zd ?_;refine NoPanic.normal ?_;clear ay;go_upto_region 5 with fail;have HKX4:=zh (zkb HKX.out ak.out);have HKB4:=zh (zkb fZ.out ak.out);have ay:=zh (show ∀ w',Below w4.heap.size w4 w'->(fun w':World=>w'.cell? ⟨N,0,none⟩=some (.int .u8 2)/\w'.cell? ⟨N,1,none⟩=some (.int .i64 0)/\w'.cell? ⟨N,2,none⟩=some (.string ⟨#[120]⟩)/\w'.cell? ⟨N,3,none⟩=some (.slice none 0 0)) w' from fun w' hb=>box4 (zkb HKX4.out hb))
 have hSS:(fun w':World=>w'.cell? ⟨N,0,none⟩=some (.int .u8 2)/\w'.cell? ⟨N,1,none⟩=some (.int .i64 0)/\w'.cell? ⟨N,2,none⟩=some (.string ⟨#[120]⟩)/\w'.cell? ⟨N,3,none⟩=some (.slice none 0 0)) w4.drew/\(fun _:World=>True) w4.drew:=⟨ay.out _ (Below.refl _ _).drew,trivial⟩
 refine wp_region_noPanic ?_;refine zkd (fun w':World=>w'.cell? ⟨N,0,none⟩=some (.int .u8 2)/\w'.cell? ⟨N,1,none⟩=some (.int .i64 0)/\w'.cell? ⟨N,2,none⟩=some (.string ⟨#[120]⟩)/\w'.cell? ⟨N,3,none⟩=some (.slice none 0 0)) (fun _:World=>True) 5 (by kernel_rfl) ?_;refine zT 0 hSS ?_;(try simp only[zQ]);have hI:(fun w=>Below w4.heap.size w4 w) w4.drew:=(Below.refl _ _).drew;clear hSS
 refine zlH (i:=1) (j:=4) (some 26) (some 6) 3 (fun li l4 => #[true,li,false,false,l4,false]) _ (fun w=>Below w4.heap.size w4 w) (fun u w=>∃ b,u=.pointer (some ⟨b,0,none⟩)/\w4.heap.size<=b/\w.heap[b]?=some (.cells #[.int .u8 0,.int .i64 0,.string ⟨#[]⟩,.slice none 0 0] 24 (0,0))) (fun v w=>v=nv 1 1 ⟨#[]⟩ none 0 0) rfl rfl rfl rfl (by kernel_rfl) (by kernel_rfl) (fun l4=>by cases l4<;>rfl) rfl (fun w h=>⟨ay.out _ h,trivial⟩) (fun w w' h hb=>?_) (fun u w w' h hb=>?_) (fun v4 K w h au=>?_) (fun v4 K w h au=>?_) (fun u v=>?_) (fun l4 v4 v wc h hF hA hU=>?_) false undef w4.drew hI (fun h=>by cases h) (fun _=>rfl) ?_
 ·exact zka h hb
 ·obtain⟨b,e1,e2,e3⟩:=h;exact⟨b,e1,e2,zkb e3 hb⟩
 ·have hK:=zh au;clear au;have had:Calls Tryz.prog 35 [.int .i64 1].toArray w fun e w'=>∃ v,e=.returned v/\(v=nv 1 1 ⟨#[]⟩ none 0 0/\Below w.heap.size w w'):=(zpV 1 w).mono fun e w' ⟨h1,h2⟩=>⟨_,h1,rfl,h2⟩
  refine zke (by rfl) (.func 35) [.const (.int .i64 1)] _ (by rfl) 35 _ zsv (by rfl) _ (by rfl) _ had ?_;rintro v w' ⟨rfl,hb⟩;exact hK.out _ _ hb rfl
 ·have hK:=zh au;clear au;(try simp only[zQ]);(try simp only[zA,zB,zC]);go_simp;exact hK.out _ _ (zkc (Below.refl _ _) _) ⟨_,rfl,h.size,heap_alloc_new w _⟩
 ·simp only[Act.put,zD,zE,zF]
 rotate_left 1
 ·simp only[Act.put,zD,zE,zF]
 (try simp only[zQ]);obtain rfl:=hF;clear hI;have hI:(fun w=>Below w4.heap.size w4 w) wc:=h;have ig:=hA;have fK:=hU;clear hA hU;refine zlH (i:=2) (j:=4) (some 27) (some 6) 2 (fun li l4 => #[true,true,li,false,l4,false]) _ (fun w=>Below w4.heap.size w4 w) (fun u w=>∃ b,u=.pointer (some ⟨b,0,none⟩)/\w4.heap.size<=b/\w.heap[b]?=some (.cells #[.int .u8 0,.int .i64 0,.string ⟨#[]⟩,.slice none 0 0] 24 (0,0))) (fun v w=>∃ b,v=.slice (some ⟨b,0,none⟩) 2 2/\w.heap[b]?=some (.cells #[.int .u8 2,.int .i64 0,.string ⟨#[120]⟩,.slice none 0 0,.int .u8 1,.int .i64 1,.string ⟨#[]⟩,.slice none 0 0] 24 (0,0))) rfl rfl rfl rfl (by kernel_rfl) (by kernel_rfl) (fun l4=>by cases l4<;>rfl) rfl (fun w h=>⟨ay.out _ h,trivial⟩) (fun w w' h hb=>?_) (fun u w w' h hb=>?_) (fun v4 K w h au=>?_) (fun v4 K w h au=>?_) (fun u v=>?_) (fun l4 v4 v wc h hF hA hU=>?_) l4 v4 wc hI ig fK ?_
 ·exact zka h hb
 ·obtain⟨b,e1,e2,e3⟩:=h;exact⟨b,e1,e2,zkb e3 hb⟩
 ·have hK:=zh au;clear au;have hbs:=zw1;(try simp only[zQ]);(try simp only[zA,zB,zC]);go_simp;exact hK.out _ _ (zkc (Below.refl _ _) _) ⟨_,rfl,heap_alloc_new w _⟩
 ·have hK:=zh au;clear au;(try simp only[zQ]);(try simp only[zA,zB,zC]);go_simp;exact hK.out _ _ (zkc (Below.refl _ _) _) ⟨_,rfl,h.size,heap_alloc_new w _⟩
 ·simp only[Act.put,zD,zE,zF]
 rotate_left 1
 ·simp only[Act.put,zD,zE,zF]
 (try simp only[zQ]);obtain⟨eb,rfl,m27⟩:=hF;clear hI;have hI:(fun w=>Below w4.heap.size w4 w/\w.heap[eb]?=some (.cells #[.int .u8 2,.int .i64 0,.string ⟨#[120]⟩,.slice none 0 0,.int .u8 1,.int .i64 1,.string ⟨#[]⟩,.slice none 0 0] 24 (0,0))) wc:=⟨h,m27⟩
 have ig:=hA;have fK:=hU;clear hA hU m27;refine zlH (i:=3) (j:=4) (some 28) (some 6) 1 (fun li l4 => #[true,true,true,li,l4,false]) _ (fun w=>Below w4.heap.size w4 w/\w.heap[eb]?=some (.cells #[.int .u8 2,.int .i64 0,.string ⟨#[120]⟩,.slice none 0 0,.int .u8 1,.int .i64 1,.string ⟨#[]⟩,.slice none 0 0] 24 (0,0))) (fun u w=>∃ b,u=.pointer (some ⟨b,0,none⟩)/\w4.heap.size<=b/\w.heap[b]?=some (.cells #[.int .u8 0,.int .i64 0,.string ⟨#[]⟩,.slice none 0 0] 24 (0,0))) (fun v w=>v=.agg #[.int .u8 16,.int .i64 0,.string ⟨#[]⟩,.slice (some ⟨eb,0,none⟩) 2 2]) rfl rfl rfl rfl (by kernel_rfl) (by kernel_rfl) (fun l4=>by cases l4<;>rfl) rfl (fun w h=>⟨ay.out _ h.1,trivial⟩) (fun w w' h hb=>?_) (fun u w w' h hb=>?_) (fun v4 K w h au=>?_) (fun v4 K w h au=>?_) (fun u v=>?_) (fun l4 v4 v wc h hF hA hU=>?_) l4 v4 wc hI ig fK ?_
 ·exact⟨zka h.1 hb,zkb h.2 hb⟩
 ·obtain⟨b,e1,e2,e3⟩:=h;exact⟨b,e1,e2,zkb e3 hb⟩
 ·have hK:=zh au;clear au;have hbs:=bNkW;(try simp only[zQ]);(try simp only[zA,zB,zC]);go_simp;exact hK.out _ _ (Below.refl _ _) rfl
 ·have hK:=zh au;clear au;(try simp only[zQ]);(try simp only[zA,zB,zC]);go_simp;exact hK.out _ _ (zkc (Below.refl _ _) _) ⟨_,rfl,h.1.size,heap_alloc_new w _⟩
 ·simp only[Act.put,zD,zE,zF]
 rotate_left 1
 ·simp only[Act.put,zD,zE,zF]
 (try simp only[zQ]);obtain rfl:=hF;clear hI;have hI:(fun w=>Below w4.heap.size w4 w/\w.heap[eb]?=some (.cells #[.int .u8 2,.int .i64 0,.string ⟨#[120]⟩,.slice none 0 0,.int .u8 1,.int .i64 1,.string ⟨#[]⟩,.slice none 0 0] 24 (0,0))) wc:=h;refine zoH (j:=4) (some 6) 1 (fun l4 => #[true,true,true,true,l4,false]) _ (fun w=>Below w4.heap.size w4 w/\w.heap[eb]?=some (.cells #[.int .u8 2,.int .i64 0,.string ⟨#[120]⟩,.slice none 0 0,.int .u8 1,.int .i64 1,.string ⟨#[]⟩,.slice none 0 0] 24 (0,0))) (fun u w=>∃ b,u=.pointer (some ⟨b,0,none⟩)/\w4.heap.size<=b/\w.heap[b]?=some (.cells #[.int .u8 0,.int .i64 0,.string ⟨#[]⟩,.slice none 0 0] 24 (0,0))) rfl rfl (by kernel_rfl) rfl (fun w h=>⟨ay.out _ h.1,trivial⟩) (fun w w' h hb=>⟨zka h.1 hb,zkb h.2 hb⟩) (fun v4 K w h au=>?_) (fun u v=>?_) (fun v5 w5 h5 uI=>?_) l4 v4 wc hI hA ?_
 ·have hb0:=h.1;have hK:=zh au;clear au;(try simp only[zQ]);(try simp only[zA,zB,zC]);go_simp;exact hK.out _ _ (zkc (Below.refl _ _) _) ⟨_,rfl,hb0.size,heap_alloc_new w _⟩
 ·simp only[Act.put,zD,zE,zF]
 rotate_left 1
 ·simp only[Act.put,zD,zE,zF]
 (try simp only[zQ]);clear hI hA hU;obtain⟨qb,rfl,hbl,hbz⟩:=uI;obtain⟨hb5,vW⟩:=h5;obtain⟨q0,q1,q2,q3⟩:=box4 hbz;have cf:∀ o,w5.frozen? ⟨qb,o,none⟩=false:=fun _=>zf hbz;have hne:eb≠qb:=by
  rintro rfl;rw[hbz] at vW;simp at vW
 obtain⟨w6,sI,hc6,mP⟩:=st4W (.int .u8 16) (.int .i64 0) (.string ⟨#[]⟩) (.slice (some ⟨eb,0,none⟩) 2 2) hbz;have hb6:Below w4.heap.size w4 w6:=hb5.trans (hc6.below hb5.size fun b (e:b=qb)=>by omega);have HE6:=zh (hc6.keep vW hne);have aO:=zh hb6;have pR:=zh mP;clear hb5 hbz hc6 mP hb6 vW hne;refine zp 5 fun K hK=>?_;(try simp only[zA,zB,zC]);go_simp;refine hK.out _ _ (ay.out _ aO.out) ?_;clear hK K q0 q1 q2 q3 cf sI;(try simp only[zQ]);refine zd ?_;refine NoPanic.normal ?_;clear ay hbl;have rA:=zh (wK.out.later aO.out);have jI:=zh (iI.out.later aO.out);have HB16:=zh (zka ak.out aO.out);have HP6:=zh (zkb pU.out aO.out);clear wK iI pU HKX4;go_upto_region 6 with fail;have hbl6:=bBlW
 have ay:=zh (show ∀ w',Below w6.heap.size w6 w'->(fun w':World=>(w'.cell? ⟨qb,0,none⟩=some (.int .u8 16)/\w'.cell? ⟨qb,1,none⟩=some (.int .i64 0)/\w'.cell? ⟨qb,2,none⟩=some (.string ⟨#[]⟩)/\w'.cell? ⟨qb,3,none⟩=some (.slice (some ⟨eb,0,none⟩) 2 2))/\w'.cell? ⟨N+2,0,none⟩=some (.int .i64 1)/\w'.cell? ⟨N+2,1,none⟩=some (.int .i64 0)/\w'.cell? ⟨N+2,2,none⟩=some (.int .i64 0)) w' from fun w' hb=>⟨box4 (zkb pR.out hb),zkr (zkb HKB4.out (zka aO.out hb))⟩);have hSS:(fun w':World=>(w'.cell? ⟨qb,0,none⟩=some (.int .u8 16)/\w'.cell? ⟨qb,1,none⟩=some (.int .i64 0)/\w'.cell? ⟨qb,2,none⟩=some (.string ⟨#[]⟩)/\w'.cell? ⟨qb,3,none⟩=some (.slice (some ⟨eb,0,none⟩) 2 2))/\w'.cell? ⟨N+2,0,none⟩=some (.int .i64 1)/\w'.cell? ⟨N+2,1,none⟩=some (.int .i64 0)/\w'.cell? ⟨N+2,2,none⟩=some (.int .i64 0)) w6.drew/\(fun _:World=>True) w6.drew:=⟨ay.out _ (Below.refl _ _).drew,trivial⟩
 refine wp_region_noPanic ?_;refine zkd (fun w':World=>(w'.cell? ⟨qb,0,none⟩=some (.int .u8 16)/\w'.cell? ⟨qb,1,none⟩=some (.int .i64 0)/\w'.cell? ⟨qb,2,none⟩=some (.string ⟨#[]⟩)/\w'.cell? ⟨qb,3,none⟩=some (.slice (some ⟨eb,0,none⟩) 2 2))/\w'.cell? ⟨N+2,0,none⟩=some (.int .i64 1)/\w'.cell? ⟨N+2,1,none⟩=some (.int .i64 0)/\w'.cell? ⟨N+2,2,none⟩=some (.int .i64 0)) (fun _:World=>True) 13 (by kernel_rfl) ?_;refine zT 0 hSS ?_;(try simp only[zQ]);refine zT 1 hSS ?_;(try simp only[zQ]);refine zT 2 hSS ?_;(try simp only[zQ]);refine zT 6 hSS ?_;(try simp only[zQ]);refine zT 7 hSS ?_;(try simp only[zQ]);have hI:(fun w=>Below w6.heap.size w6 w) w6.drew:=(Below.refl _ _).drew;clear hSS hbl6
 refine zlH (i:=3) (j:=12) (some 33) (some 7) 8 (fun li l4 => #[true,true,true,li,false,false,true,true,false,false,false,false,l4,false,false]) _ (fun w=>Below w6.heap.size w6 w) (fun u w=>∃ b,u=.pointer (some ⟨b,0,none⟩)/\w6.heap.size<=b/\w.heap[b]?=some (.cells #[.slice none 0 0,.slice none 0 0,.slice none 0 0] 34 (0,0))) (fun v w=>v=nv 1 1 ⟨#[]⟩ none 0 0) rfl rfl rfl rfl (by kernel_rfl) (by kernel_rfl) (fun l4=>by cases l4<;>rfl) rfl (fun w h=>⟨ay.out _ h,trivial⟩) (fun w w' h hb=>?_) (fun u w w' h hb=>?_) (fun v4 K w h au=>?_) (fun v4 K w h au=>?_) (fun u v=>?_) (fun l4 v4 v wc h hF hA hU=>?_) false undef w6.drew hI (fun h=>by cases h) (fun _=>rfl) ?_
 ·exact zka h hb
 ·obtain⟨b,e1,e2,e3⟩:=h;exact⟨b,e1,e2,zkb e3 hb⟩
 ·have hK:=zh au;clear au;have had:Calls Tryz.prog 35 [.int .i64 1].toArray w fun e w'=>∃ v,e=.returned v/\(v=nv 1 1 ⟨#[]⟩ none 0 0/\Below w.heap.size w w'):=(zpV 1 w).mono fun e w' ⟨h1,h2⟩=>⟨_,h1,rfl,h2⟩
  refine zke (by rfl) (.func 35) [.const (.int .i64 1)] _ (by rfl) 35 _ zsv (by rfl) _ (by rfl) _ had ?_;rintro v w' ⟨rfl,hb⟩;exact hK.out _ _ hb rfl
 ·have hK:=zh au;clear au;(try simp only[zQ]);(try simp only[zA,zB,zC]);go_simp;exact hK.out _ _ (zkc (Below.refl _ _) _) ⟨_,rfl,h.size,heap_alloc_new w _⟩
 ·simp only[Act.put,zD,zE,zF]
 rotate_left 1
 ·simp only[Act.put,zD,zE,zF]
 (try simp only[zQ]);obtain rfl:=hF;clear hI;have hI:(fun w=>Below w6.heap.size w6 w) wc:=h;have ig:=hA;have fK:=hU;clear hA hU
 refine zlH (i:=4) (j:=12) (some 34) (some 7) 7 (fun li l4 => #[true,true,true,true,li,false,true,true,false,false,false,false,l4,false,false]) _ (fun w=>Below w6.heap.size w6 w) (fun u w=>∃ b,u=.pointer (some ⟨b,0,none⟩)/\w6.heap.size<=b/\w.heap[b]?=some (.cells #[.slice none 0 0,.slice none 0 0,.slice none 0 0] 34 (0,0))) (fun v w=>∃ b,v=.slice (some ⟨b,0,none⟩) 4 4/\w.heap[b]?=some (.cells #[.int .u8 16,.int .i64 0,.string ⟨#[]⟩,.slice (some ⟨eb,0,none⟩) 2 2,.int .u8 57,.int .i64 0,.string ⟨#[]⟩,.slice none 0 0,.int .u8 57,.int .i64 0,.string ⟨#[]⟩,.slice none 0 0,.int .u8 1,.int .i64 1,.string ⟨#[]⟩,.slice none 0 0] 24 (0,0))) rfl rfl rfl rfl (by kernel_rfl) (by kernel_rfl) (fun l4=>by cases l4<;>rfl) rfl (fun w h=>⟨ay.out _ h,trivial⟩) (fun w w' h hb=>?_) (fun u w w' h hb=>?_) (fun v4 K w h au=>?_) (fun v4 K w h au=>?_) (fun u v=>?_) (fun l4 v4 v wc h hF hA hU=>?_) l4 v4 wc hI ig fK ?_
 ·exact zka h hb
 ·obtain⟨b,e1,e2,e3⟩:=h;exact⟨b,e1,e2,zkb e3 hb⟩
 ·have hK:=zh au;clear au;have hbs:=zxB;(try simp only[zQ]);(try simp only[zA,zB,zC]);go_simp;exact hK.out _ _ (zkc (Below.refl _ _) _) ⟨_,rfl,heap_alloc_new w _⟩
 ·have hK:=zh au;clear au;(try simp only[zQ]);(try simp only[zA,zB,zC]);go_simp;exact hK.out _ _ (zkc (Below.refl _ _) _) ⟨_,rfl,h.size,heap_alloc_new w _⟩
 ·simp only[Act.put,zD,zE,zF]
 rotate_left 1
 ·simp only[Act.put,zD,zE,zF]
 (try simp only[zQ]);obtain⟨fb,rfl,m34⟩:=hF;clear hI;have hI:(fun w=>Below w6.heap.size w6 w/\w.heap[fb]?=some (.cells #[.int .u8 16,.int .i64 0,.string ⟨#[]⟩,.slice (some ⟨eb,0,none⟩) 2 2,.int .u8 57,.int .i64 0,.string ⟨#[]⟩,.slice none 0 0,.int .u8 57,.int .i64 0,.string ⟨#[]⟩,.slice none 0 0,.int .u8 1,.int .i64 1,.string ⟨#[]⟩,.slice none 0 0] 24 (0,0))) wc:=⟨h,m34⟩
 have ig:=hA;have fK:=hU;clear hA hU m34
 refine zlH (i:=5) (j:=12) (some 35) (some 7) 6 (fun li l4 => #[true,true,true,true,true,li,true,true,false,false,false,false,l4,false,false]) _ (fun w=>Below w6.heap.size w6 w/\w.heap[fb]?=some (.cells #[.int .u8 16,.int .i64 0,.string ⟨#[]⟩,.slice (some ⟨eb,0,none⟩) 2 2,.int .u8 57,.int .i64 0,.string ⟨#[]⟩,.slice none 0 0,.int .u8 57,.int .i64 0,.string ⟨#[]⟩,.slice none 0 0,.int .u8 1,.int .i64 1,.string ⟨#[]⟩,.slice none 0 0] 24 (0,0))) (fun u w=>∃ b,u=.pointer (some ⟨b,0,none⟩)/\w6.heap.size<=b/\w.heap[b]?=some (.cells #[.slice none 0 0,.slice none 0 0,.slice none 0 0] 34 (0,0))) (fun v w=>v=.agg #[.int .u8 52,.int .i64 0,.string ⟨#[]⟩,.slice (some ⟨fb,0,none⟩) 4 4]) rfl rfl rfl rfl (by kernel_rfl) (by kernel_rfl) (fun l4=>by cases l4<;>rfl) rfl (fun w h=>⟨ay.out _ h.1,trivial⟩) (fun w w' h hb=>?_) (fun u w w' h hb=>?_) (fun v4 K w h au=>?_) (fun v4 K w h au=>?_) (fun u v=>?_) (fun l4 v4 v wc h hF hA hU=>?_) l4 v4 wc hI ig fK ?_
 ·exact⟨zka h.1 hb,zkb h.2 hb⟩
 ·obtain⟨b,e1,e2,e3⟩:=h;exact⟨b,e1,e2,zkb e3 hb⟩
 ·have hK:=zh au;clear au;have hbs:=bNkW;(try simp only[zQ]);(try simp only[zA,zB,zC]);go_simp;exact hK.out _ _ (Below.refl _ _) rfl
 ·have hK:=zh au;clear au;(try simp only[zQ]);(try simp only[zA,zB,zC]);go_simp;exact hK.out _ _ (zkc (Below.refl _ _) _) ⟨_,rfl,h.1.size,heap_alloc_new w _⟩
 ·simp only[Act.put,zD,zE,zF]
 rotate_left 1
 ·simp only[Act.put,zD,zE,zF]
 (try simp only[zQ]);obtain rfl:=hF;clear hI;have hI:(fun w=>Below w6.heap.size w6 w/\w.heap[fb]?=some (.cells #[.int .u8 16,.int .i64 0,.string ⟨#[]⟩,.slice (some ⟨eb,0,none⟩) 2 2,.int .u8 57,.int .i64 0,.string ⟨#[]⟩,.slice none 0 0,.int .u8 57,.int .i64 0,.string ⟨#[]⟩,.slice none 0 0,.int .u8 1,.int .i64 1,.string ⟨#[]⟩,.slice none 0 0] 24 (0,0))) wc:=h;have ig:=hA;have fK:=hU;clear hA hU
 refine zlH (i:=8) (j:=12) (some 38) (some 7) 5 (fun li l4 => #[true,true,true,true,true,true,true,true,li,false,false,false,l4,false,false]) _ (fun w=>Below w6.heap.size w6 w/\w.heap[fb]?=some (.cells #[.int .u8 16,.int .i64 0,.string ⟨#[]⟩,.slice (some ⟨eb,0,none⟩) 2 2,.int .u8 57,.int .i64 0,.string ⟨#[]⟩,.slice none 0 0,.int .u8 57,.int .i64 0,.string ⟨#[]⟩,.slice none 0 0,.int .u8 1,.int .i64 1,.string ⟨#[]⟩,.slice none 0 0] 24 (0,0))) (fun u w=>∃ b,u=.pointer (some ⟨b,0,none⟩)/\w6.heap.size<=b/\w.heap[b]?=some (.cells #[.slice none 0 0,.slice none 0 0,.slice none 0 0] 34 (0,0))) (fun v w=>∃ A2 c2 B2 d2 D2 e2,v=.tuple #[.agg #[.slice A2 1 c2,.slice B2 0 d2,.slice D2 0 e2],.bool true]/\SV w (fun b=>w6.heap.size<=b) ⟨[[0]],[],[]⟩ (.agg #[.slice A2 1 c2,.slice B2 0 d2,.slice D2 0 e2])) rfl rfl rfl rfl (by kernel_rfl) (by kernel_rfl) (fun l4=>by cases l4<;>rfl) rfl (fun w h=>⟨ay.out _ h.1,trivial⟩) (fun w w' h hb=>?_) (fun u w w' h hb=>?_) (fun v4 K w h au=>?_) (fun v4 K w h au=>?_) (fun u v=>?_) (fun l4 v4 v wc h hF hA hU=>?_) l4 v4 wc hI ig fK ?_
 ·exact⟨zka h.1 hb,zkb h.2 hb⟩
 ·obtain⟨b,e1,e2,e3⟩:=h;exact⟨b,e1,e2,zkb e3 hb⟩
 ·have hb0:=h.1;have hf0:=h.2;have hK:=zh au;clear au;have hne0:NV w Any ifTW (nv 52 0 ⟨#[]⟩ (some ⟨fb,0,none⟩) 4 4):=zu2 trivial (fldW 52 (by omega)) (zws trivial (fldW 16 (by omega)) (zmK w _ fldX) (zmK w _ (fldN 1 ⟨by decide,by decide⟩)) (zkb HE6.out hb0)) (zmK w _ (fldW 57 (by omega))) (zmK w _ (fldW 57 (by omega))) (zmK w _ (fldN 1 ⟨by decide,by decide⟩)) hf0;have had:Calls Tryz.prog 18 [.agg #[.int .u8 52,.int .i64 0,.string ⟨#[]⟩,.slice (some ⟨fb,0,none⟩) 4 4],.slice (some ⟨N+1,0,none⟩) 1 1,.agg #[.int .i64 1,.int .i64 0,.int .i64 0],.int .i64 100].toArray w fun e w'=>∃ v,e=.returned v/\((∃ A2 c2 B2 d2 D2 e2,v=.tuple #[.agg #[.slice A2 1 c2,.slice B2 0 d2,.slice D2 0 e2],.bool true]/\SV w' (fun b=>w6.heap.size<=b) ⟨[[0]],[],[]⟩ (.agg #[.slice A2 1 c2,.slice B2 0 d2,.slice D2 0 e2]))/\Below w.heap.size w w') :=
   (znj (t:=ifTW) (vs:=vsW) (b:=bxW) (c1:=1) (F:=100) hne0 (zwB (zkb HKV.out (zka HB16.out hb0))) (by decide) (by decide) ⟨by decide,by decide⟩ (by decide)).mono fun e w' ⟨hb,v,bb,he,hr⟩=>by
    rw[zwX] at hr;rcases hr with⟨h,-⟩|⟨q,h,rfl,hq⟩
    ·cases h
    ·injection h with h;subst h;have hq2:=hq;obtain⟨A2,c2,B2,d2,D2,e2,rfl,-⟩:=hq2;exact⟨_,he,⟨_,_,_,_,_,_,rfl,hq.keep (fun b h _=>Nat.le_trans hb0.size h) (fun _ _ _=>rfl)⟩,hb⟩
  refine zke (by rfl) (.func 18) [.tmp 35,.tmp 36,.tmp 37,.const (.int .i64 100)] _ (by rfl) 18 _ zwS (by rfl) _ (by rfl) _ had ?_;rintro v w' ⟨hF,hb⟩;exact hK.out _ _ hb hF
 ·have hK:=zh au;clear au;(try simp only[zQ]);(try simp only[zA,zB,zC]);go_simp;exact hK.out _ _ (zkc (Below.refl _ _) _) ⟨_,rfl,h.1.size,heap_alloc_new w _⟩
 ·simp only[Act.put,zD,zE,zF]
 rotate_left 1
 ·simp only[Act.put,zD,zE,zF]
 (try simp only[zQ]);obtain⟨A2,c2,B2,d2,D2,e2,rfl,hq⟩:=hF;clear hI;have hSS:(fun w':World=>(w'.cell? ⟨qb,0,none⟩=some (.int .u8 16)/\w'.cell? ⟨qb,1,none⟩=some (.int .i64 0)/\w'.cell? ⟨qb,2,none⟩=some (.string ⟨#[]⟩)/\w'.cell? ⟨qb,3,none⟩=some (.slice (some ⟨eb,0,none⟩) 2 2))/\w'.cell? ⟨N+2,0,none⟩=some (.int .i64 1)/\w'.cell? ⟨N+2,1,none⟩=some (.int .i64 0)/\w'.cell? ⟨N+2,2,none⟩=some (.int .i64 0)) wc/\(fun _:World=>True) wc:=⟨ay.out _ h.1,trivial⟩
 have hI:(fun w=>Below w6.heap.size w6 w/\SV w (fun b=>w6.heap.size<=b) ⟨[[0]],[],[]⟩ (.agg #[.slice A2 1 c2,.slice B2 0 d2,.slice D2 0 e2])) wc:=⟨h.1,hq⟩
 clear h ig fK hq;rw[Nat.add_comm 5];refine zkt (i:=9) (v:=?_) rfl (by kernel_rfl) (by cases l4<;>kernel_rfl) (by cases l4<;>kernel_rfl) (by decide) (fun _ _ _ h=>h) (Or.inl ⟨by rfl,?_⟩) hSS ?_;rotate_left 1
 ·(intro w hSw;(try dsimp only at hSw);(try simp only[zA,zB,zC]);go_simp;(try with_reducible rfl))
 (try simp only[zQ]);refine zkt (i:=10) (v:=?_) rfl (by kernel_rfl) (by cases l4<;>kernel_rfl) (by cases l4<;>kernel_rfl) (by decide) (fun _ _ _ h=>h) (Or.inl ⟨by rfl,?_⟩) hSS ?_;rotate_left 1
 ·(intro w hSw;(try dsimp only at hSw);(try simp only[zA,zB,zC]);go_simp;(try with_reducible rfl))
 (try simp only[zQ]);refine zkt (i:=11) (v:=?_) rfl (by kernel_rfl) (by cases l4<;>kernel_rfl) (by cases l4<;>kernel_rfl) (by decide) (fun _ _ _ h=>h) (Or.inl ⟨by rfl,?_⟩) hSS ?_;rotate_left 1
 ·(intro w hSw;(try dsimp only at hSw);(try simp only[zA,zB,zC]);go_simp;(try with_reducible rfl))
 (try simp only[zQ]);rw[Nat.add_comm (Bool.toNat _) 2];clear hSS;refine zoH (j:=12) (some 7) 2 (fun l4 => #[true,true,true,true,true,true,true,true,true,true,true,true,l4,false,false]) _ (fun w=>Below w6.heap.size w6 w/\SV w (fun b=>w6.heap.size<=b) ⟨[[0]],[],[]⟩ (.agg #[.slice A2 1 c2,.slice B2 0 d2,.slice D2 0 e2])) (fun u w=>∃ b,u=.pointer (some ⟨b,0,none⟩)/\w6.heap.size<=b/\w.heap[b]?=some (.cells #[.slice none 0 0,.slice none 0 0,.slice none 0 0] 34 (0,0))) rfl rfl (by kernel_rfl) rfl (fun w h=>⟨ay.out _ h.1,trivial⟩) (fun w w' h hb=>⟨zka h.1 hb,h.2.later hb⟩) (fun v4 K w h au=>?_) (fun u v=>?_) (fun v5 w7 h5 uI=>?_) l4 v4 wc hI hA ?_
 ·have hb0:=h.1;have hK:=zh au;clear au;(try simp only[zQ]);(try simp only[zA,zB,zC]);go_simp;exact hK.out _ _ (zkc (Below.refl _ _) _) ⟨_,rfl,hb0.size,heap_alloc_new w _⟩
 ·simp only[Act.put,zD,zE,zF]
 rotate_left 1
 ·simp only[Act.put,zD,zE,zF]
 (try simp only[zQ]);clear hI hA hU;obtain⟨sb3,rfl,hbl,hbz⟩:=uI;obtain⟨bF,hq7⟩:=h5;obtain⟨q0,q1,q2⟩:=zkr hbz;have cf:∀ o,w7.frozen? ⟨sb3,o,none⟩=false:=fun _=>zf hbz;obtain⟨w8,hw8,hc8,gV⟩:=st3 (.slice A2 1 c2) (.slice B2 0 d2) (.slice D2 0 e2) hbz;have dm:Below w6.heap.size w6 w8:=bF.trans (hc8.below bF.size fun b (e:b=sb3)=>by omega);have HX8:=zh ((hq7.nz3 hbz).keep (w':=w8) (S':=Any) (fun _ _ _=>trivial) fun b h hlt=>hc8.block b hlt h.2);have bA:=zh dm;have yo:=zh gV;clear bF hbz hc8 gV dm hq7;refine zp 13 fun K hK=>?_;(try simp only[zA,zB,zC]);go_simp;refine hK.out _ _ (ay.out _ bA.out) ?_;clear hK K q0 q1 q2 cf hw8;(try simp only[zQ]);refine zo 14 fun K hK=>?_;(try simp only[zA,zB,zC]);go_simp;refine hK.out _ _ ⟨ay.out _ bA.out,trivial⟩ ?_;clear hK K;(try simp only[zQ]);refine zd ?_;refine NoPanic.normal ?_;clear ay hbl;have tH:=zh (rA.out.later bA.out)
 have HS8:=zh (jI.out.later bA.out);have HB18:=zh (zka HB16.out bA.out);have xX:=zh (zkb HP6.out bA.out);clear rA jI HP6 pR HE6;have h1:=bIW;have h2:=zxG;have h3:=bStW;go_upto_region 8 with fail;clear h1 h2 h3;obtain⟨M,hM⟩:∃ M,w8.heap.size=M:=⟨_,rfl⟩
 obtain⟨aH,kJ,k0,k1,k2⟩:=al3 w8 (.cells #[.int .i64 0] 3) (.cells #[.slice (some ⟨w8.heap.size,0,none⟩) 1 1] 32) (.cells #[.int .i64 1] 3);rw[hM] at kJ k0 k1 k2 ⊢;obtain⟨w9,aQ⟩:∃ x,((w8.alloc (.cells #[.int .i64 0] 3)).alloc (.cells #[.slice (some ⟨M,0,none⟩) 1 1] 32)).alloc (.cells #[.int .i64 1] 3)=x:=⟨_,rfl⟩
 rw[aQ] at kJ k0 k1 k2 ⊢;have aH:Below w8.heap.size w8 w9:=by rw[<-aQ,<-hM];exact aH
 obtain⟨eD,iU,k3,k4,k5⟩:=al3 w9 (.cells #[.slice (some ⟨M+1+1,0,none⟩) 1 1] 32) (.cells #[.slice (some ⟨M+1,0,none⟩) 1 1,.slice none 0 0,.slice none 0 0] 34) (.cells #[.slice (some ⟨M+1+1+1,0,none⟩) 1 1,.slice none 0 0,.slice none 0 0] 34);rw[kJ] at iU k3 k4 k5;obtain⟨wa,oV⟩:∃ x,((w9.alloc (.cells #[.slice (some ⟨M+1+1,0,none⟩) 1 1] 32)).alloc (.cells #[.slice (some ⟨M+1,0,none⟩) 1 1,.slice none 0 0,.slice none 0 0] 34)).alloc (.cells #[.slice (some ⟨M+1+1+1,0,none⟩) 1 1,.slice none 0 0,.slice none 0 0] 34)=x:=⟨_,rfl⟩
 rw[oV] at eD iU k3 k4 k5 ⊢;have gL:=zh (zka aH eD);have HB1A:=zh (zka HB18.out (zka aH eD));have HZ:=zh (SV1W (x:=0) ⟨by decide,by decide⟩ (zkb k1 eD) (zkb k0 eD));have HO:=zh (SV1W (x:=1) ⟨by decide,by decide⟩ k3 (zkb k2 eD));have dL:=zh k4;have dF:=zh k5;clear aQ oV aH eD k0 k1 k2 k3 k4 k5 kJ iU hM;have hs0:SS.Sm ⟨[[0]],[],[]⟩:=⟨by decide,(by intro l hl;simp only[List.mem_cons,List.not_mem_nil,or_false] at hl;subst hl;decide),by decide,by decide⟩
 have hs1:SS.Sm ⟨[[1]],[],[]⟩:=⟨by decide,(by intro l hl;simp only[List.mem_cons,List.not_mem_nil,or_false] at hl;subst hl;decide),by decide,by decide⟩
 have HEQ1:=zh (fun w' (hb:Below wa.heap.size wa w')=>zmJ ⟨[[0]],[],[]⟩ ⟨[[0]],[],[]⟩ _ _ w' (tH.out.any.later (zka gL.out hb)) (HZ.out.later hb) hs0 hs0);have HEQ2:=zh (fun w' (hb:Below wa.heap.size wa w')=>zmJ ⟨[[1]],[],[]⟩ ⟨[[1]],[],[]⟩ _ _ w' (HS8.out.any.later (zka gL.out hb)) (HO.out.later hb) hs1 hs1);have HEQ3:=zh (fun w' (hb:Below wa.heap.size wa w')=>zmJ ⟨[[0]],[],[]⟩ ⟨[[0]],[],[]⟩ _ _ w' (HX8.out.later (zka gL.out hb)) (HZ.out.later hb) hs0 hs0);rw[show eqS ⟨[[0]],[],[]⟩ ⟨[[0]],[],[]⟩=true from by decide] at HEQ1 HEQ3;rw[show eqS ⟨[[1]],[],[]⟩ ⟨[[1]],[],[]⟩=true from by decide] at HEQ2;clear hs0 hs1;have aM:=Below.refl wa.heap.size wa;obtain⟨q0,q1,q2,q3,q4,q5⟩:=box6 (zkb xX.out (zka gL.out aM));obtain⟨y0,y1,y2⟩:=zkr (zkb dL.out aM);obtain⟨z0,z1,z2⟩:=zkr (zkb dF.out aM)
 obtain⟨t0,t1,t2⟩:=zkr (zkb yo.out (zka gL.out aM));go_wp2_with fail;refine(HEQ1.out _ (Below.refl _ _)).mono ?_;rintro e wb ⟨rfl,hbb⟩;have dH:=zh hbb;clear aM q0 q1 q2 q3 q4 q5 y0 y1 y2 z0 z1 z2 t0 t1 t2 hbb;have aM:=dH.out;obtain⟨q0,q1,q2,q3,q4,q5⟩:=box6 (zkb xX.out (zka gL.out aM));obtain⟨y0,y1,y2⟩:=zkr (zkb dL.out aM);obtain⟨z0,z1,z2⟩:=zkr (zkb dF.out aM);obtain⟨t0,t1,t2⟩:=zkr (zkb yo.out (zka gL.out aM));go_wp2_with fail;refine(HEQ2.out _ dH.out).mono ?_;rintro e wc ⟨rfl,hbb⟩;have gK:=zh (zka dH.out hbb);clear aM q0 q1 q2 q3 q4 q5 y0 y1 y2 z0 z1 z2 t0 t1 t2 hbb;have aM:=gK.out;obtain⟨q0,q1,q2,q3,q4,q5⟩:=box6 (zkb xX.out (zka gL.out aM));obtain⟨y0,y1,y2⟩:=zkr (zkb dL.out aM);obtain⟨z0,z1,z2⟩:=zkr (zkb dF.out aM);obtain⟨t0,t1,t2⟩:=zkr (zkb yo.out (zka gL.out aM));go_wp2_with fail
 refine(HEQ3.out _ gK.out).mono ?_;rintro e wd ⟨rfl,hbb⟩;have iD:=zh (zka gK.out hbb);clear aM q0 q1 q2 q3 q4 q5 y0 y1 y2 z0 z1 z2 t0 t1 t2 hbb;go_wp2_with fail;go_ret;exact⟨rfl,zka HB1.out (zka HB1A.out iD.out)⟩
end Go.Proofs.YtghbhbdnkjjnnaaGreat
