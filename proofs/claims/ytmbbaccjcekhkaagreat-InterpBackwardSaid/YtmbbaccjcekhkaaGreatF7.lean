/-
  Texts of the proof, put together without their remarks: ScA, ClW, ScC, Wp, ScR, ScV, Fa.
-/
import Derived.Test.YtmbbaccjcekhkaaGreatF6
import Derived.ArgAppend
set_option linter.unusedSimpArgs false
set_option linter.unusedVariables false
set_option maxHeartbeats 8000000
set_option maxRecDepth 100000
namespace Go.Proofs.YtmbbaccjcekhkaaGreat
open Go.RowKit
def zll (ps:List PR) (k:Int) (s:ByteArray) (l:Nat) (vs:List VD):Int :=
 if k=2 then useE vs s 1 else if k=3 then useE vs s 2 else if k=4\/k=5\/k=44\/k=45 then useE vs s 3 else if k=54\/k=55 then zmp vs s
 else if k=50\/k=51 then (match idxP ps s with
  | none=>6
  | some i=>match ps[i]? with
   | none=>6
   | some r=>if l=r.ps.length then 0 else 7)
 else 0
theorem zs0 (p:PG) (t:T) (vs:List VD) (A:Option Addr) (c:Nat) (S S' S'':Nat->Prop) (v1 v2:Value) (w:World) (hv1:PV w S p v1) (hv2:NV w S' t v2) (hrow:RowV w S'' A vs) (hl:vs.length<=LV) :
  Calls Tryz.prog 61 #[v1,v2,.slice A vs.length c] w fun e w'=>e=.returned (.int .i64 (zll p.prs t.k t.s t.ks.length vs))/\Below w.heap.size w w':=by
 have hvv:=hv1;obtain⟨A1,c1,A2,c2,A3,c3,rfl,hr⟩:=hv1;have ig:=zh hr.procs;have hlp:=zlE hr.lp;obtain⟨L1,hL1⟩:∃ L,p.vs.length=L:=⟨_,rfl⟩
 obtain⟨L2,hL2⟩:∃ L,p.prs.length=L:=⟨_,rfl⟩
 obtain⟨k,hk⟩:∃ k,p.m.k=k:=⟨_,rfl⟩
 obtain⟨n,hn⟩:∃ n,p.m.n=n:=⟨_,rfl⟩
 obtain⟨s,hs⟩:∃ s,p.m.s=s:=⟨_,rfl⟩
 obtain⟨l3,hl3⟩:∃ l,p.m.ks.length=l:=⟨_,rfl⟩
 rw[hL1,hL2,hk,hn,hs,hl3];rw[hL1,hL2,hk,hn,hs,hl3] at hvv;rw[hL2] at hlp;have HL2:=zh hL2;have HV:=zh hvv;clear hr hvv hL1 hL2 hk hn hs hl3;obtain⟨B,tc,rfl,_,hlk,_,_⟩:=hv2.open_;have aF:=zkS hlk;have ah:=zh hrow;have HL:=zh hl;clear hrow hl hv2 hlk;generalize t.k=tk,t.n=tn,t.s=ts,t.ks.length=tl at *
 obtain⟨R,hR⟩:∃ R,zll p.prs tk ts tl vs=R:=⟨_,rfl⟩
 rw[hR];have HR:=zh hR;clear hR;have hb0:∀ o o',Below w.heap.size w ((w.alloc o).alloc o'):=fun o o'=>((Below.refl _ _).alloc (Nat.le_refl _) _).alloc (by simp) _;have HB0:=zh hb0;clear hb0;by_cases h2:tk=2
 ·subst h2;have HN:=zh (show R=useE vs ts 1 by rw[<-HR.out];simp[zll]);go_enter Tryz.func61,Tryz.ntmps61;go_wp2_with fail;refine(zny vs A c ts 1 S'' _ (ah.out.later (HB0.out _ _)) HL.out).mono ?_;rintro e w1 ⟨rfl,aj⟩;rw[<-HN.out];have HB:=zh (zka (HB0.out _ _) aj);clear aj;go_wp2_with fail;go_ret;exact⟨rfl,HB.out⟩
 have f2:(tk==2)=false:=by simpa using h2
 by_cases h3:tk=3
 ·subst h3;have HN:=zh (show R=useE vs ts 2 by rw[<-HR.out];simp[zll]);go_enter Tryz.func61,Tryz.ntmps61;go_wp2_with fail;refine(zny vs A c ts 2 S'' _ (ah.out.later (HB0.out _ _)) HL.out).mono ?_;rintro e w1 ⟨rfl,aj⟩;rw[<-HN.out];have HB:=zh (zka (HB0.out _ _) aj);clear aj;go_wp2_with fail;go_ret;exact⟨rfl,HB.out⟩
 have f3:(tk==3)=false:=by simpa using h3
 by_cases h4:tk=4
 ·subst h4;have HN:=zh (show R=useE vs ts 3 by rw[<-HR.out];simp[zll]);go_enter Tryz.func61,Tryz.ntmps61;go_wp2_with fail;refine(zny vs A c ts 3 S'' _ (ah.out.later (HB0.out _ _)) HL.out).mono ?_;rintro e w1 ⟨rfl,aj⟩;rw[<-HN.out];have HB:=zh (zka (HB0.out _ _) aj);clear aj;go_wp2_with fail;go_ret;exact⟨rfl,HB.out⟩
 have f4:(tk==4)=false:=by simpa using h4
 by_cases h5:tk=5
 ·subst h5;have HN:=zh (show R=useE vs ts 3 by rw[<-HR.out];simp[zll]);go_enter Tryz.func61,Tryz.ntmps61;go_wp2_with fail;refine(zny vs A c ts 3 S'' _ (ah.out.later (HB0.out _ _)) HL.out).mono ?_;rintro e w1 ⟨rfl,aj⟩;rw[<-HN.out];have HB:=zh (zka (HB0.out _ _) aj);clear aj;go_wp2_with fail;go_ret;exact⟨rfl,HB.out⟩
 have f5:(tk==5)=false:=by simpa using h5
 by_cases tY:tk=44
 ·subst tY;have HN:=zh (show R=useE vs ts 3 by rw[<-HR.out];simp[zll]);go_enter Tryz.func61,Tryz.ntmps61;go_wp2_with fail;refine(zny vs A c ts 3 S'' _ (ah.out.later (HB0.out _ _)) HL.out).mono ?_;rintro e w1 ⟨rfl,aj⟩;rw[<-HN.out];have HB:=zh (zka (HB0.out _ _) aj);clear aj;go_wp2_with fail;go_ret;exact⟨rfl,HB.out⟩
 have f44:(tk==44)=false:=by simpa using tY
 by_cases h45:tk=45
 ·subst h45;have HN:=zh (show R=useE vs ts 3 by rw[<-HR.out];simp[zll]);go_enter Tryz.func61,Tryz.ntmps61;go_wp2_with fail;refine(zny vs A c ts 3 S'' _ (ah.out.later (HB0.out _ _)) HL.out).mono ?_;rintro e w1 ⟨rfl,aj⟩;rw[<-HN.out];have HB:=zh (zka (HB0.out _ _) aj);clear aj;go_wp2_with fail;go_ret;exact⟨rfl,HB.out⟩
 have f45:(tk==45)=false:=by simpa using h45
 by_cases gM:tk=54
 ·subst gM;have HN:=zh (show R=zmp vs ts by rw[<-HR.out];simp[zll]);go_enter Tryz.func61,Tryz.ntmps61;go_wp2_with fail;refine(zol vs A c ts S'' _ (ah.out.later (HB0.out _ _)) HL.out).mono ?_;rintro e w1 ⟨rfl,aj⟩;rw[<-HN.out];have HB:=zh (zka (HB0.out _ _) aj);clear aj;go_wp2_with fail;go_ret;exact⟨rfl,HB.out⟩
 have f54:(tk==54)=false:=by simpa using gM
 by_cases gY:tk=55
 ·subst gY;have HN:=zh (show R=zmp vs ts by rw[<-HR.out];simp[zll]);go_enter Tryz.func61,Tryz.ntmps61;go_wp2_with fail;refine(zol vs A c ts S'' _ (ah.out.later (HB0.out _ _)) HL.out).mono ?_;rintro e w1 ⟨rfl,aj⟩;rw[<-HN.out];have HB:=zh (zka (HB0.out _ _) aj);clear aj;go_wp2_with fail;go_ret;exact⟨rfl,HB.out⟩
 have f55:(tk==55)=false:=by simpa using gY
 by_cases h50:tk=50
 ·subst h50;have HN:=zh (show R=(match idxP p.prs ts with|none=>6|some i=>match p.prs[i]? with|none=>6|some r=>if tl=r.ps.length then 0 else 7) by rw[<-HR.out];simp[zll]);go_enter Tryz.func61,Tryz.ntmps61;go_wp2_with fail;refine(znv p S _ ts _ (HV.out.later (HB0.out _ _))).mono ?_;rintro e w1 ⟨rfl,aj⟩;have hbl:=zka (HB0.out _ _) aj;have hP:=zkf (zkn (heap_alloc_new w (.cells #[.slice A1 L1 c1,.slice A2 L2 c2,.int .u8 k,.int .i64 n,.string s,.slice A3 l3 c3] 28)) _) aj;have hN:=zkf (heap_alloc_new (w.alloc (.cells #[.slice A1 L1 c1,.slice A2 L2 c2,.int .u8 k,.int .i64 n,.string s,.slice A3 l3 c3] 28)) (.cells #[.int .u8 50,.int .i64 tn,.string ts,.slice B tl tc] 26)) aj;simp only[World.size_alloc] at hN
  cases hi:idxP p.prs ts with
  | none =>
   have e1:zlY p.prs ts = -1:=by simp[zlY,hi]
   rw[e1];have aT:=zh (show R=6 by rw[HN.out,hi]);have HB:=zh hbl;clear aj hi e1 hP hN hbl;go_wp2_with fail;go_ret;exact⟨by rw[aT.out];rfl,HB.out⟩
  | some i =>
   have e1:zlY p.prs ts=i:=by simp[zlY,hi]
   rw[e1];have hi2:i<p.prs.length:=(List.findIdx?_eq_some_iff_getElem.1 hi).1;have hiL:i<L2:=by rw[<-HL2.out];exact hi2
   obtain⟨a,r,P1,d1,P2,d2,rfl,_,Hr,⟨_,q1,_⟩,hpr⟩:=(ig.out.later hbl).nd hi2;obtain⟨rl,hrl⟩:∃ l,r.ps.length=l:=⟨_,rfl⟩
   have hlr:=zlE hpr.lp;rw[hrl] at q1 hlr;have aT:=zh (show R=if tl=rl then 0 else 7 by rw[HN.out,hi];simp only;rw[List.getElem?_eq_getElem hi2,Hr.out,<-hrl]);obtain⟨a0,a1,a2,a3,a4,a5⟩:=box6 hP;obtain⟨b0,b1,b2,b3⟩:=box4 hN;have HB:=zh hbl;clear aj hi e1 hP hN hbl hrl hpr;go_wp2_with fail
   go_region_held3 (fun w'=>(w'.cell? ⟨w.heap.size+1,3,none⟩=some (.slice B tl tc)/\w'.cell? ⟨w.heap.size,1,none⟩=some (.slice (some a) L2 c2)/\w'.cell? ⟨(a.add (i*6)).block,(a.add (i*6)).off+1,none⟩=some (.slice P1 rl d1))) (exact⟨b3,a1,q1⟩) (fail)
   by_cases hq:tl=rl
   ·have g1:(tl==rl)=true:=by simpa using hq
    have g2:(tl != rl)=false:=by simpa using hq
    have g3:((tl:Int)==(rl:Int))=true:=by simp;omega
    have g4:((tl:Int) != (rl:Int))=false:=by simp;omega
    have cZ:=zh (show R=0 by rw[aT.out,if_pos hq]);clear hq;go_wp2_with fail;go_ret;exact⟨by rw[cZ.out];rfl,HB.out.drew⟩
   ·have g1:(tl==rl)=false:=by simpa using hq
    have g2:(tl != rl)=true:=by simpa using hq
    have g3:((tl:Int)==(rl:Int))=false:=by simp;omega
    have g4:((tl:Int) != (rl:Int))=true:=by simp;omega
    have cZ:=zh (show R=7 by rw[aT.out,if_neg hq]);clear hq;go_wp2_with fail;go_ret;exact⟨by rw[cZ.out];rfl,HB.out.drew⟩
 have f50:(tk==50)=false:=by simpa using h50
 by_cases mo:tk=51
 ·subst mo;have HN:=zh (show R=(match idxP p.prs ts with|none=>6|some i=>match p.prs[i]? with|none=>6|some r=>if tl=r.ps.length then 0 else 7) by rw[<-HR.out];simp[zll]);go_enter Tryz.func61,Tryz.ntmps61;go_wp2_with fail;refine(znv p S _ ts _ (HV.out.later (HB0.out _ _))).mono ?_;rintro e w1 ⟨rfl,aj⟩;have hbl:=zka (HB0.out _ _) aj;have hP:=zkf (zkn (heap_alloc_new w (.cells #[.slice A1 L1 c1,.slice A2 L2 c2,.int .u8 k,.int .i64 n,.string s,.slice A3 l3 c3] 28)) _) aj;have hN:=zkf (heap_alloc_new (w.alloc (.cells #[.slice A1 L1 c1,.slice A2 L2 c2,.int .u8 k,.int .i64 n,.string s,.slice A3 l3 c3] 28)) (.cells #[.int .u8 51,.int .i64 tn,.string ts,.slice B tl tc] 26)) aj;simp only[World.size_alloc] at hN
  cases hi:idxP p.prs ts with
  | none =>
   have e1:zlY p.prs ts = -1:=by simp[zlY,hi]
   rw[e1];have aT:=zh (show R=6 by rw[HN.out,hi]);have HB:=zh hbl;clear aj hi e1 hP hN hbl;go_wp2_with fail;go_ret;exact⟨by rw[aT.out];rfl,HB.out⟩
  | some i =>
   have e1:zlY p.prs ts=i:=by simp[zlY,hi]
   rw[e1];have hi2:i<p.prs.length:=(List.findIdx?_eq_some_iff_getElem.1 hi).1;have hiL:i<L2:=by rw[<-HL2.out];exact hi2
   obtain⟨a,r,P1,d1,P2,d2,rfl,_,Hr,⟨_,q1,_⟩,hpr⟩:=(ig.out.later hbl).nd hi2;obtain⟨rl,hrl⟩:∃ l,r.ps.length=l:=⟨_,rfl⟩
   have hlr:=zlE hpr.lp;rw[hrl] at q1 hlr;have aT:=zh (show R=if tl=rl then 0 else 7 by rw[HN.out,hi];simp only;rw[List.getElem?_eq_getElem hi2,Hr.out,<-hrl]);obtain⟨a0,a1,a2,a3,a4,a5⟩:=box6 hP;obtain⟨b0,b1,b2,b3⟩:=box4 hN;have HB:=zh hbl;clear aj hi e1 hP hN hbl hrl hpr;go_wp2_with fail
   go_region_held3 (fun w'=>(w'.cell? ⟨w.heap.size+1,3,none⟩=some (.slice B tl tc)/\w'.cell? ⟨w.heap.size,1,none⟩=some (.slice (some a) L2 c2)/\w'.cell? ⟨(a.add (i*6)).block,(a.add (i*6)).off+1,none⟩=some (.slice P1 rl d1))) (exact⟨b3,a1,q1⟩) (fail)
   by_cases hq:tl=rl
   ·have g1:(tl==rl)=true:=by simpa using hq
    have g2:(tl != rl)=false:=by simpa using hq
    have g3:((tl:Int)==(rl:Int))=true:=by simp;omega
    have g4:((tl:Int) != (rl:Int))=false:=by simp;omega
    have cZ:=zh (show R=0 by rw[aT.out,if_pos hq]);clear hq;go_wp2_with fail;go_ret;exact⟨by rw[cZ.out];rfl,HB.out.drew⟩
   ·have g1:(tl==rl)=false:=by simpa using hq
    have g2:(tl != rl)=true:=by simpa using hq
    have g3:((tl:Int)==(rl:Int))=false:=by simp;omega
    have g4:((tl:Int) != (rl:Int))=true:=by simp;omega
    have cZ:=zh (show R=7 by rw[aT.out,if_neg hq]);clear hq;go_wp2_with fail;go_ret;exact⟨by rw[cZ.out];rfl,HB.out.drew⟩
 have f51:(tk==51)=false:=by simpa using mo
 have HN:=zh (show R=0 by rw[<-HR.out];simp[zll,h2,h3,h4,h5,tY,h45,gM,gY,h50,mo]);clear h2 h3 h4 h5 tY h45 gM gY h50 mo;go_enter Tryz.func61,Tryz.ntmps61;go_wp2_with fail;go_ret;exact⟨by rw[HN.out];rfl,HB0.out _ _⟩
def argE (ps:List PR) (s:ByteArray) (l i:Nat) (m:ByteArray) (vs:List VD):Int:=match zkA vs m with
 | none=>6
 | some v=>match idxP ps s with
  | none=>0
  | some j=>match ps[j]? with
   | none=>0
   | some r=>if l=r.ps.length then (match r.ps[i]? with
    | none=>0
    | some q=>if v.k=q.k/\v.n=q.n then 0 else 7) else 0
theorem box3 {w:World} {b:Nat} {E:TypeId} {u0 u1 u2:Value} (h:w.heap[b]?=some (.cells #[u0,u1,u2] E (0,0))):w.cell? ⟨b,0,none⟩=some u0/\w.cell? ⟨b,1,none⟩=some u1/\w.cell? ⟨b,2,none⟩=some u2 :=
 ⟨zc h rfl,zc h rfl,zc h rfl⟩
theorem znR (p:PG) (t:T) (i:Nat) (hi:i<t.ks.length) (vs:List VD) (A:Option Addr) (c:Nat) (S S' S'':Nat->Prop) (v1 v2:Value) (w:World) (hv1:PV w S p v1) (hv2:NV w S' t v2) (hrow:RowV w S'' A vs) (hl:vs.length<=LV) :
  Calls Tryz.prog 63 #[v1,v2,.int .i64 i,.slice A vs.length c] w fun e w'=>e=.returned (.int .i64 (argE p.prs t.s t.ks.length i t.ks[i].s vs))/\Below w.heap.size w w':=by
 have hvv:=hv1;obtain⟨A1,c1,A2,c2,A3,c3,rfl,hr⟩:=hv1;have ig:=zh hr.procs;have hlp:=zlE hr.lp;obtain⟨L1,hL1⟩:∃ L,p.vs.length=L:=⟨_,rfl⟩
 obtain⟨L2,hL2⟩:∃ L,p.prs.length=L:=⟨_,rfl⟩
 obtain⟨k,hk⟩:∃ k,p.m.k=k:=⟨_,rfl⟩
 obtain⟨n,hn⟩:∃ n,p.m.n=n:=⟨_,rfl⟩
 obtain⟨s,hs⟩:∃ s,p.m.s=s:=⟨_,rfl⟩
 obtain⟨l3,hl3⟩:∃ l,p.m.ks.length=l:=⟨_,rfl⟩
 rw[hL1,hL2,hk,hn,hs,hl3];rw[hL1,hL2,hk,hn,hs,hl3] at hvv;rw[hL2] at hlp;have HL2:=zh hL2;have HV:=zh hvv;clear hr hvv hL1 hL2 hk hn hs hl3;obtain⟨B,tc,rfl,_,hlk,_,iD⟩:=hv2.open_;have aF:=zkS hlk;have ah:=zh hrow;have HL:=zh hl;obtain⟨b,u,B1,f1,rfl,_,Hu,⟨z0,z1,z2,z3⟩,-⟩:=iD.nd hi;rw[Hu.out];clear hrow hl hv2 hlk iD z0 z1 z3;obtain⟨us,hus⟩:∃ us,u.s=us:=⟨_,rfl⟩
 rw[hus] at z2 ⊢;clear hus Hu;generalize t.k=tk,t.n=tn,t.s=ts,t.ks.length=tl at *
 obtain⟨R,hR⟩:∃ R,argE p.prs ts tl i us vs=R:=⟨_,rfl⟩
 rw[hR];have HR:=zh hR;clear hR;have hb0:∀ o o',Below w.heap.size w ((w.alloc o).alloc o'):=fun o o'=>((Below.refl _ _).alloc (Nat.le_refl _) _).alloc (by simp) _;have HB0:=zh hb0;have z2':=fun o o'=>zkm (zkm z2 o) o';clear hb0 z2;go_enter Tryz.func63,Tryz.ntmps63;go_wp2_with fail;refine(zn3 vs A c us S'' _ (ah.out.later (HB0.out _ _)) HL.out).mono ?_;rintro e w1 ⟨rfl,aj⟩;have hbl:=zka (HB0.out _ _) aj;have hP:=zkf (zkn (heap_alloc_new w (.cells #[.slice A1 L1 c1,.slice A2 L2 c2,.int .u8 k,.int .i64 n,.string s,.slice A3 l3 c3] 28)) _) aj;have hN:=zkf (heap_alloc_new (w.alloc (.cells #[.slice A1 L1 c1,.slice A2 L2 c2,.int .u8 k,.int .i64 n,.string s,.slice A3 l3 c3] 28)) (.cells #[.int .u8 tk,.int .i64 tn,.string ts,.slice (some b) tl tc] 26)) aj;simp only[World.size_alloc] at hN
 cases hf:zkA vs us with
 | none =>
  have HN:=zh (show R=6 by rw[<-HR.out];simp[argE,hf]);have HB:=zh (zkc hbl (.cells #[.string ⟨#[]⟩,.int .u8 0,.int .i64 0] 48));clear hf aj hP hN hbl z2';go_wp2_with fail;go_ret;exact⟨by rw[HN.out];rfl,HB.out⟩
 | some v =>
  obtain⟨vm,vk,vl⟩:=v;have hq2:=zkc hbl (.cells #[.string vm,.int .u8 vk,.int .i64 vl] 48);have hP2:=zkn hP (.cells #[.string vm,.int .u8 vk,.int .i64 vl] 48);have zM:=zkn hN (.cells #[.string vm,.int .u8 vk,.int .i64 vl] 48);have hV2:=heap_alloc_new w1 (.cells #[.string vm,.int .u8 vk,.int .i64 vl] 48);have HR2:=zh (show R=(match idxP p.prs ts with
   | none=>0
   | some j=>match p.prs[j]? with
    | none=>0
    | some r=>if tl=r.ps.length then (match r.ps[i]? with
     | none=>0
     | some q=>if vk=q.k/\vl=q.n then 0 else 7) else 0) by rw[<-HR.out];simp[argE,hf])
  obtain⟨a0,a1,a2,a3,a4,a5⟩:=box6 hP2;obtain⟨b0,b1,b2,b3⟩:=box4 zM;have mF:=zh hP2;have aT:=zh zM;have yh:=zh hV2;have wU:=zh hq2;clear hf aj hP hN hbl z2' hP2 zM hV2 hq2 HR;go_wp2_with fail;refine(znv p S _ ts _ (HV.out.later wU.out)).mono ?_;rintro e w2 ⟨rfl,aB⟩;have hbl:=zka wU.out aB;have hP:=zkf mF.out aB;have hN:=zkf aT.out aB;have hV:=zkf yh.out aB;clear a0 a1 a2 a3 a4 a5 b0 b1 b2 b3 mF aT yh wU aB
  cases hi2:idxP p.prs ts with
  | none =>
   have e1:zlY p.prs ts = -1:=by simp[zlY,hi2]
   rw[e1];have cZ:=zh (show R=0 by rw[HR2.out,hi2]);have HB:=zh hbl;clear hi2 e1 hP hN hV hbl;go_wp2_with fail;refine wp_region_noPanic ?_;refine zkd (fun _=>True) (fun _=>True) 20 (by kernel_rfl) ?_;have hSS:(fun _:World=>True) w2.drew/\(fun _:World=>True) w2.drew:=⟨trivial,trivial⟩
   refine zT 0 hSS ?_;(try simp only[zQ]);refine zT 1 hSS ?_;(try simp only[zQ]);refine zT 2 hSS ?_;(try simp only[zQ]);refine zk2 (i:=3) (v:=undef) rfl (by kernel_rfl) (by kernel_rfl) (by kernel_rfl) (by decide) (fun _ _ _ h=>h) (Or.inr ⟨by rfl,rfl⟩) hSS ?_;(try simp only[zQ]);refine zk2 (i:=4) (v:=undef) rfl (by kernel_rfl) (by kernel_rfl) (by kernel_rfl) (by decide) (fun _ _ _ h=>h) (Or.inr ⟨by rfl,rfl⟩) hSS ?_;(try simp only[zQ]);refine zk2 (i:=5) (v:=undef) rfl (by kernel_rfl) (by kernel_rfl) (by kernel_rfl) (by decide) (fun _ _ _ h=>h) (Or.inr ⟨by rfl,rfl⟩) hSS ?_;(try simp only[zQ]);refine zk2 (i:=6) (v:=undef) rfl (by kernel_rfl) (by kernel_rfl) (by kernel_rfl) (by decide) (fun _ _ _ h=>h) (Or.inr ⟨by rfl,rfl⟩) hSS ?_;(try simp only[zQ])
   refine zk2 (i:=7) (v:=undef) rfl (by kernel_rfl) (by kernel_rfl) (by kernel_rfl) (by decide) (fun _ _ _ h=>h) (Or.inr ⟨by rfl,rfl⟩) hSS ?_;(try simp only[zQ]);refine zk2 (i:=8) (v:=undef) rfl (by kernel_rfl) (by kernel_rfl) (by kernel_rfl) (by decide) (fun _ _ _ h=>h) (Or.inr ⟨by rfl,rfl⟩) hSS ?_;(try simp only[zQ]);refine zk2 (i:=9) (v:=undef) rfl (by kernel_rfl) (by kernel_rfl) (by kernel_rfl) (by decide) (fun _ _ _ h=>h) (Or.inr ⟨by rfl,rfl⟩) hSS ?_;(try simp only[zQ]);refine zk2 (i:=10) (v:=undef) rfl (by kernel_rfl) (by kernel_rfl) (by kernel_rfl) (by decide) (fun _ _ _ h=>h) (Or.inr ⟨by rfl,rfl⟩) hSS ?_;(try simp only[zQ]);refine zk2 (i:=11) (v:=undef) rfl (by kernel_rfl) (by kernel_rfl) (by kernel_rfl) (by decide) (fun _ _ _ h=>h) (Or.inr ⟨by rfl,rfl⟩) hSS ?_;(try simp only[zQ])
   refine zk2 (i:=12) (v:=undef) rfl (by kernel_rfl) (by kernel_rfl) (by kernel_rfl) (by decide) (fun _ _ _ h=>h) (Or.inr ⟨by rfl,rfl⟩) hSS ?_;(try simp only[zQ]);refine zk2 (i:=13) (v:=undef) rfl (by kernel_rfl) (by kernel_rfl) (by kernel_rfl) (by decide) (fun _ _ _ h=>h) (Or.inr ⟨by rfl,rfl⟩) hSS ?_;(try simp only[zQ]);refine zT 14 hSS ?_;(try simp only[zQ]);refine zd ?_;refine NoPanic.normal ?_;clear hSS;go_wp2_with fail;go_ret;exact⟨by rw[cZ.out];rfl,HB.out.drew⟩
  | some j =>
   have e1:zlY p.prs ts=j:=by simp[zlY,hi2]
   rw[e1];have hj2:j<p.prs.length:=(List.findIdx?_eq_some_iff_getElem.1 hi2).1;have hjL:j<L2:=by rw[<-HL2.out];exact hj2
   obtain⟨a,r,P1,d1,P2,d2,rfl,_,Hr,⟨_,q1,_⟩,hpr⟩:=(ig.out.later hbl).nd hj2;obtain⟨rl,hrl⟩:∃ l,r.ps.length=l:=⟨_,rfl⟩
   have hlr:=zlE hpr.lp;have HPW:=zh hpr.row;rw[hrl] at q1 hlr;have HR3:=zh (show R=if tl=rl then (match r.ps[i]? with
     | none=>0
     | some q=>if vk=q.k/\vl=q.n then 0 else 7) else 0 by rw[HR2.out,hi2];simp only;rw[List.getElem?_eq_getElem hj2,Hr.out,<-hrl])
   have wT:=zh hrl;obtain⟨a0,a1,a2,a3,a4,a5⟩:=box6 hP;obtain⟨b0,b1,b2,b3⟩:=box4 hN;have iT:=zh hV;have HB:=zh hbl;have hj0:decide ((j:Int)<0)=false:=by simp
   clear hi2 e1 hP hN hbl hrl hpr hV;go_wp2_with fail
   go_region_held3 (fun w'=>(w'.cell? ⟨w.heap.size+1,3,none⟩=some (.slice (some b) tl tc)/\w'.cell? ⟨w.heap.size,1,none⟩=some (.slice (some a) L2 c2)/\w'.cell? ⟨(a.add (j*6)).block,(a.add (j*6)).off+1,none⟩=some (.slice P1 rl d1))) (exact⟨b3,a1,q1⟩) (fail)
   by_cases hq:tl=rl
   ·have g1:(tl==rl)=true:=by simpa using hq
    have g2:(tl != rl)=false:=by simpa using hq
    have g3:((tl:Int)==(rl:Int))=true:=by simp;omega
    have g4:((tl:Int) != (rl:Int))=false:=by simp;omega
    have hir:i<r.ps.length:=by rw[wT.out];omega
    have hir':i<rl:=by omega
    obtain⟨e,q,rfl,_,Hq,⟨y0,y1,y2⟩,mf⟩:=(HPW.out.later (Below.refl _ _).drew).nd hir;have HR4:=zh (show R=if vk=q.k/\vl=q.n then 0 else 7 by rw[HR3.out,if_pos hq,List.getElem?_eq_getElem hir,Hq.out]);obtain⟨qm,qk,ql⟩:=q;simp only at y0 y1 y2 HR4;have hV3:=box3 iT.out;obtain⟨x0,x1,x2⟩:=hV3;have dV:=zh (zkc HB.out.drew (.cells #[.string qm,.int .u8 qk,.int .i64 ql] 48));have hlt9:=zku iT.out;clear hq Hq mf HPW iT;by_cases hk1:vk=qk
    ·have k1:(vk==qk)=true:=by simpa using hk1
     have k2:(vk != qk)=false:=by simpa using hk1
     by_cases hk2:vl=ql
     ·have k3:(vl==ql)=true:=by simpa using hk2
      have k4:(vl != ql)=false:=by simpa using hk2
      have cZ:=zh (show R=0 by rw[HR4.out,if_pos ⟨hk1,hk2⟩]);clear hk1 hk2;go_wp2_with fail;go_ret;exact⟨by rw[cZ.out];rfl,dV.out⟩
     ·have k3:(vl==ql)=false:=by simpa using hk2
      have k4:(vl != ql)=true:=by simpa using hk2
      have cZ:=zh (show R=7 by rw[HR4.out,if_neg (fun h=>hk2 h.2)]);clear hk1 hk2;go_wp2_with fail;go_ret;exact⟨by rw[cZ.out];rfl,dV.out⟩
    ·have k1:(vk==qk)=false:=by simpa using hk1
     have k2:(vk != qk)=true:=by simpa using hk1
     have cZ:=zh (show R=7 by rw[HR4.out,if_neg (fun h=>hk1 h.1)]);clear hk1;go_wp2_with fail;go_ret;exact⟨by rw[cZ.out];rfl,dV.out⟩
   ·have g1:(tl==rl)=false:=by simpa using hq
    have g2:(tl != rl)=true:=by simpa using hq
    have g3:((tl:Int)==(rl:Int))=false:=by simp;omega
    have g4:((tl:Int) != (rl:Int))=true:=by simp;omega
    have cZ:=zh (show R=0 by rw[HR3.out,if_neg hq]);clear hq;go_wp2_with fail;go_ret;exact⟨by rw[cZ.out];rfl,HB.out.drew⟩
theorem RowV.news {w:World} {S:Nat->Prop} {a:Addr}:∀ {vs:List VD},RowV w S (some a) vs->∃ news:List Value,news.length=vs.length*3/\(∀ j u,news[j]?=some u->w.cell? (a.add j)=some u)/\(∀ u∈news,u.oneCell'=true) /\
  ∀ i (hi:i<vs.length),news[i*3]?=some (.string vs[i].s)/\news[i*3+1]?=some (.int .u8 vs[i].k)/\news[i*3+2]?=some (.int .i64 vs[i].n):=by
 intro vs
 induction vs generalizing a with
 | nil=>exact fun _=>⟨[],rfl,fun j u h=>by simp at h,fun u h=>by simp at h,fun i hi=>absurd hi (by simp)⟩
 | cons t us ih =>
  intro h;obtain⟨a',e,hS,hc,_⟩:=h 0 (by simp);injection e with e;subst e;obtain⟨news,hl,hcell,h1,hns⟩:=ih (a:=a.add 3) (fun i hi=>by
   obtain⟨a'',e,hS',hc,hf⟩:=h (i+1) (by simpa using hi);injection e with e;subst e;refine⟨_,rfl,by rw[zkv];exact hS',?_,by simpa using hf⟩;rw[add_add,show 3+i*3=(i+1)*3 by omega];simpa using hc)
  obtain⟨c0,c1,c2⟩:=hc;simp only[Nat.zero_mul] at c0 c1 c2;refine⟨.string t.s :: .int .u8 t.k :: .int .i64 t.n::news,by simp[hl];omega,fun j u hj=>?_,fun u hu=>?_,fun i hi=>?_⟩
  ·rcases j with _|_|_|j
   ·simp at hj;subst hj;exact c0
   ·simp at hj;subst hj;exact c1
   ·simp at hj;subst hj;exact c2
   ·have:=hcell j u (by simpa using hj);rw[add_add] at this;rw[show j+1+1+1=3+j by omega];exact this
  ·simp only[List.mem_cons] at hu;rcases hu with rfl|rfl|rfl|hu
   ·rfl
   ·rfl
   ·rfl
   ·exact h1 u hu
  ·rcases i with _|i
   ·exact⟨rfl,rfl,rfl⟩
   ·obtain⟨e0,e1,e2⟩:=hns i (by simpa using hi);refine⟨?_,?_,?_⟩
    ·rw[show(i+1)*3=i*3+1+1+1 by omega];simpa using e0
    ·rw[show(i+1)*3+1=i*3+1+1+1+1 by omega];simpa using e1
    ·rw[show(i+1)*3+2=i*3+2+1+1+1 by omega];simpa using e2
theorem zt6 (A:Option Addr) (l c:Nat) (hlc:l<=c) (hl:l<=LI) (w:World):Calls Tryz.prog 97 #[.slice A l c] w fun e w'=>e=.returned (.slice A l l)/\w=w':=by
 have hl':=zpb hl;have h1:(l:Int)<=(c:Int):=by omega
 clear hl;go_enter Tryz.func97,Tryz.ntmps97;go_wp2_with fail;go_ret;exact⟨rfl,rfl⟩
theorem zqi (A:Option Addr) (l c:Nat) (hlc:l<=c) (hl:l<=LV) (w:World):Calls Tryz.prog 98 #[.slice A l c] w fun e w'=>e=.returned (.slice A l l)/\w=w':=by
 have hl':=zlE hl;have h1:(l:Int)<=(c:Int):=by omega
 clear hl;go_enter Tryz.func98,Tryz.ntmps98;go_wp2_with fail;go_ret;exact⟨rfl,rfl⟩
theorem zmm {P:Program} {w:World} {ops:Array Oper} {o:Oper} {a:Act} {K:Act->World->Prop} {Q:Exit->Act->World->Prop} {F:Prop} (hgd:o.guard=none) (s x:Operand) (t:TypeId)
  (hop:o.op=Op.call { callee:=Callee.builtin Builtin.append,args := #[s,x],argTypes := #[t,t] }) (e:TypeId) (i:TypeInfo) (z:Value) (size bytes:Nat) (h1:P.underlying t=some (.slice e)) (h2:P.info? e=some i) (h3:i.zero=some z) (h4:i.size=size) (h5:i.bytes=bytes) (h6:z.cells.size=size) (h7:0<size)
  (ao:Option Addr) (n cap:Nat) (olds:List Value) (hs:a.eval s=.slice ao n cap) (hnone:ao=none->n=0/\cap=0) (hlo:olds.length=n*size) (holds:∀ b,ao=some b->∀ j u,olds[j]?=some u->w.cell? (b.add j)=some u)
  (ad:Addr) (m c:Nat) (news:List Value) (hx:a.eval x=.slice (some ad) m c) (hn:news.length=m*size) (hc:∀ j u,news[j]?=some u->w.cell? (ad.add j)=some u) (h1c:∀ u∈news,u.oneCell'=true)
  (hfull:cap<n+m) (b1:n+m<=maxLen) (b2:(n+m)*bytes<=140737488355328)
  (hK:∀ v' w',w'.ownsRow w.heap.size e size v' (n+m) (olds++news)->w.grownBy w' none->K (a.put o.dst v') w') :
  if Region.wanted o (yielded ops a.tmps)=true then Oper.wp P o a w K Q else F:=by
 have hw:Region.wanted o (yielded ops a.tmps)=true:=by simp[Region.wanted,hgd]
 rw[if_pos hw]
 cases ao with
 | some b =>
  obtain⟨v',w',hrun,r1,r2⟩:=run_append_arg_grows (P:=P) w t o.type e i z size bytes h1 h2 h3 h4 h5 h6 h7 b n cap olds hlo (holds b rfl) ad m c news hn hc hfull b1 b2;unfold Oper.wp;simp[execOp,hop,resolve,invoke,builtin,hs,hx,hrun,Result.andThen];exact hK v' w' r1 r2
 | none =>
  obtain⟨rfl,rfl⟩:=hnone rfl;obtain rfl:olds=[]:=List.eq_nil_of_length_eq_zero (by simpa using hlo);obtain⟨v',w',hrun,r1,r2,_⟩:=run_append_own (P:=P) w w.heap.size t o.type e i z size bytes h1 h2 h3 h4 h5 h6 h7 (.slice none 0 0) 0 [] (World.ownsRow_nil w _ e size) ad m c news hn hc h1c b1 b2 (Nat.le_refl _);unfold Oper.wp;simp[execOp,hop,resolve,invoke,builtin,hs,hx,hrun,Result.andThen];exact hK v' w' r1 r2
theorem zov (q:List Int) (A:Option Addr) (c:Nat) (i:Int) (hi:I64 i) (S:Nat->Prop) (w:World) (hrow:RowI w S A q) (hlc:q.length<=c) (hl:q.length<=100000) :
  Calls Tryz.prog 62 #[.slice A q.length c,.int .i64 i] w (NewI w (q++[i])):=by
 obtain⟨i0,hi0,hz0,hz1,hz2⟩:=info_parts znb;have ah:=zh hrow;have HI:=zh hi;have zt:=zmR;have hm1:q.length+1<=maxLen:=by unfold maxLen;omega
 have hm2:(q.length+1)*8<=140737488355328:=by omega
 have hnone:A=none->q.length=0/\q.length=0:=fun h=>by
  subst h
  cases q with
  | nil=>simp
  | cons x xs=>obtain⟨_,h,_⟩:=hrow 0 (by simp);cases h
 have hold:∀ b,A=some b->∀ (j:Nat) u,(q.map fun x=>Value.int .i64 x)[j]?=some u->(w.alloc (.cells #[.int .i64 i] 3)).cell? (b.add j)=some u:=fun b hb j u hj=>by
  subst hb;exact zkm (hrow.news.1 j u hj) _
 have hnew:∀ (j:Nat) (u:Value),[Value.int .i64 i][j]?=some u->(w.alloc (.cells #[.int .i64 i] 3)).cell? ((⟨w.heap.size,0,none⟩:Addr).add j)=some u:=fun j u h=>by
  have:=zlR w 3 [Value.int .i64 i] j u h;simpa using this
 clear hrow hi;go_enter Tryz.func62,Tryz.ntmps62;go_wp2_with fail;refine(zt6 A q.length c hlc (by unfold LI;omega) _).mono ?_;rintro e w' ⟨rfl,rfl⟩;go_wp2_with (at_builtin;refine wpList_append_grows (P:=Tryz.prog) _ rfl (.tmp 6) (.tmp 8) 30 rfl 3 i0 _ 1 8 Tryz.underlying30 hi0 hz0 hz1 hz2 rfl (by decide) A q.length q.length _ rfl hnone (by simp) hold ⟨w.heap.size,0,none⟩ 1 1 [.int .i64 i] rfl rfl hnew (by intro u hu;simp at hu;subst hu;rfl) (by omega) hm1 hm2 ?_;intro v' w' h2 h3)
 have h2':w'.ownsRow (w.heap.size+1) 3 1 v' (q++[i]).length ((q++[i]).map (fun x=>Value.int .i64 x)):=by
  have:=h2;simp only[World.size_alloc] at this;simpa using this
 have hbl:Below w.heap.size w w':=((Below.refl w.heap.size w).alloc (Nat.le_refl _) _).grown h3 (by simp) (fun g e=>by cases e);obtain⟨A',c',rfl,hcc,bM⟩:=zlx h2' (by
  intro x hx;simp only[List.mem_append,List.mem_singleton] at hx;rcases hx with hx|rfl
  ·exact ah.out.fits x hx
  ·exact HI.out)
 have gG:=zh (bM.mono (S':=From w.heap.size) fun b hb=>by have:=(h2'.lt b hb).1;show w.heap.size<=b;omega);have HB:=zh hbl;have HC:=zh hcc;clear h2 h2' h3 hbl hold hnew bM hcc hnone;go_wp2_with fail;go_ret;exact⟨A',c',rfl,gG.out,HC.out,HB.out⟩
theorem zwC (s:ByteArray) (k:Int) (w:World):(Instr.build 48 #[(0,.string s),(1,.int .u8 k)]).run Tryz.prog w=.ok (.agg #[.string s,.int .u8 k,.int .i64 0]) w:=by kernel_rfl
theorem zu5 (a0 a1 a2:Value) (w:World):(Instr.buildSlice 22 1 #[(0,.agg #[a0,a1,a2])]).run Tryz.prog w=.ok (.slice (some ⟨w.heap.size,0,none⟩) 1 1) (w.alloc (.cells #[a0,a1,a2] 48)):=by kernel_rfl
def zly (k:Int) (s:ByteArray) (i:Nat) (vs:List VD):List VD:=if k=54/\i=1 then vs++[⟨s,1,0⟩] else if k=55/\i=0 then vs++[⟨s,3,0⟩] else vs
def zvm (w:World) (S:Nat->Prop) (vs:List VD) (e:Ending) (w':World):Prop:=∃ A' c',e=.returned (.slice A' vs.length c')/\RowV w' (fun b=>S b\/w.heap.size<=b) A' vs/\vs.length<=c'/\Below w.heap.size w w'
theorem zpO {w w':World} {base:Nat} {E:TypeId} {v:Value} {vs:List VD} {u:VD} {news:List Value} (hn:∀ i (hi:i<vs.length),news[i*3]?=some (.string vs[i].s)/\news[i*3+1]?=some (.int .u8 vs[i].k)/\news[i*3+2]?=some (.int .i64 vs[i].n))
  (hl:news.length=vs.length*3) (hf:∀ i (hi:i<vs.length),FldV vs[i]) (hu:FldV u) (h:w'.ownsRow base E 3 v (vs.length+1) (news++[.string u.s,.int .u8 u.k,.int .i64 u.n])) :
  ∃ A c,v=.slice A (vs++[u]).length c/\(vs++[u]).length<=c/\RowV w' (fun b=>base<=b) A (vs++[u]):=by
 rcases h.2 with⟨_,h0⟩|⟨g,cap,cur,rfl,hb,hg,hc,hm,hz,hx⟩
 ·omega
 ·refine⟨some ⟨g,0,none⟩,cap,by simp,by simpa using hc,fun i hi=>?_⟩;have ha:(⟨g,0,none⟩:Addr).add (i*3)=⟨g,i*3,none⟩:=by unfold Addr.add;split<;>simp_all
  have hcell:∀ j x,(news++[Value.string u.s,.int .u8 u.k,.int .i64 u.n])[j]?=some x->w'.cell? ⟨g,j,none⟩=some x:=fun j x hj=>by
   have hlt:=(List.getElem?_eq_some_iff.1 hj).1;rw[h.cellAt j (by simp at hlt;omega)];exact hj
  refine⟨⟨g,0,none⟩,rfl,hb,?_,?_⟩
  ·rw[ha];by_cases e:i<vs.length
   ·obtain⟨e0,e1,e2⟩:=hn i e;rw[List.getElem_append_left e];exact⟨hcell (i*3) _ (by rw[List.getElem?_append_left (by omega)];exact e0),hcell (i*3+1) _ (by rw[List.getElem?_append_left (by omega)];exact e1),hcell (i*3+2) _ (by rw[List.getElem?_append_left (by omega)];exact e2)⟩
   ·have e':i=vs.length:=by simp at hi;omega
    subst e';simp only[List.getElem_append_right (Nat.le_refl _),Nat.sub_self,List.getElem_cons_zero];exact⟨hcell (vs.length*3) _ (by rw[List.getElem?_append_right (by omega)];simp[hl]),hcell (vs.length*3+1) _ (by rw[List.getElem?_append_right (by omega)];simp[hl]),hcell (vs.length*3+2) _ (by rw[List.getElem?_append_right (by omega)];simp[hl])⟩
  ·by_cases e:i<vs.length
   ·rw[List.getElem_append_left e];exact hf i e
   ·have e':i=vs.length:=by simp at hi;omega
    subst e';simpa using hu
theorem zsM (t:T) (i:Nat) (hi64:i<=4000000000) (vs:List VD) (A:Option Addr) (c:Nat) (S S':Nat->Prop) (v:Value) (w:World) (hv:NV w S' t v) (hrow:RowV w S A vs) (hlc:vs.length<=c) (hl:vs.length<=100000) :
  Calls Tryz.prog 64 #[v,.int .i64 i,.slice A vs.length c] w (zvm w S (zly t.k t.s i vs)):=by
 obtain⟨i0,hi0,hz0,hz1,hz2⟩:=info_parts zvA;obtain⟨B,tc,rfl,hft,-⟩:=hv.open_;have ah:=zh hrow;have ow:=zh hlc;have mJ:=zh hft;have hb2:=zwC;have hbs:=zu5;have hm1:vs.length+1<=maxLen:=by unfold maxLen;omega
 have hm2:(vs.length+1)*32<=140737488355328:=by omega
 have hlv:vs.length<=LV:=by unfold LV;omega
 obtain⟨news,hnl,hnc,hn1,bR⟩:∃ news:List Value,news.length=vs.length*3/\(∀ b,A=some b->∀ (j:Nat) u,news[j]?=some u->w.cell? (b.add j)=some u)/\(A=none->vs.length=0/\vs.length=0)/\(∀ i (hi:i<vs.length),news[i*3]?=some (.string vs[i].s)/\news[i*3+1]?=some (.int .u8 vs[i].k)/\news[i*3+2]?=some (.int .i64 vs[i].n)):=by
  cases A with
  | none =>
   have h0:vs=[]:=by
    cases vs with
    | nil=>rfl
    | cons x xs=>obtain⟨_,h,_⟩:=hrow 0 (by simp);cases h
   subst h0;exact⟨[],rfl,(fun b h=>by cases h),(fun _=>⟨rfl,rfl⟩),fun i hi=>absurd hi (by simp)⟩
  | some a =>
   obtain⟨news,h1,h2,_,h4⟩:=hrow.news;exact⟨news,h1,(fun b h=>by injection h with h;subst h;exact h2),(fun h=>by cases h),h4⟩
 have HNV:=zh bR;have HFV:=zh (show ∀ i (hi:i<vs.length),FldV vs[i] from fun i hi=>(hrow i hi).choose_spec.2.2.2);clear hrow hlc hft hv bR;generalize t.k=tk,t.n=tn,t.s=ts,t.ks.length=tl at *
 obtain⟨V,hV⟩:∃ V,zly tk ts i vs=V:=⟨_,rfl⟩
 rw[hV];have HV:=zh hV;clear hV;have key:∀ (kd:Int) (hkd:kd=1\/kd=3) (W':World) (v':Value),(((w.alloc (.cells #[.int .u8 tk,.int .i64 tn,.string ts,.slice B tl tc] 26)).alloc (.cells #[.string ts,.int .u8 kd,.int .i64 0] 48)).drew).grownBy W' none ->
   W'.ownsRow ((w.alloc (.cells #[.int .u8 tk,.int .i64 tn,.string ts,.slice B tl tc] 26)).alloc (.cells #[.string ts,.int .u8 kd,.int .i64 0] 48)).drew.heap.size 48 3 v' (vs.length+1) (news++[.string ts,.int .u8 kd,.int .i64 0])->V=vs++[⟨ts,kd,0⟩]->zvm w S V (.returned v') W':=by
  intro kd hkd W' v' hg ho hVV;subst hVV;obtain⟨A',c',rfl,hcc,hrr⟩:=zpO (w:=w) (u:=⟨ts,kd,0⟩) HNV.out hnl HFV.out ⟨mJ.out.2.2,(show(0:Int)<=kd/\kd<256 by rcases hkd with rfl|rfl<;>decide),(by decide:(-9223372036854775808:Int)<=0/\(0:Int)<=9223372036854775807)⟩ ho;refine⟨A',c',rfl,hrr.mono fun b hb=>.inr ?_,hcc,?_⟩
  ·simp at hb;omega
  ·exact((((Below.refl w.heap.size w).alloc (Nat.le_refl _) _).alloc (by simp) _).drew).grown hg (by simp;omega) (fun g e=>by cases e)
 have HKEY:=zh key;have hnc':∀ o o' b,A=some b->∀ (j:Nat) u,news[j]?=some u->((w.alloc o).alloc o').drew.cell? (b.add j)=some u:=fun o o' b hb j u hj=>zkm (zkm (hnc b hb j u hj) o) o';have hnw:∀ (kd:Int) (j:Nat) (u:Value),[Value.string ts,.int .u8 kd,.int .i64 0][j]?=some u->((w.alloc (.cells #[.int .u8 tk,.int .i64 tn,.string ts,.slice B tl tc] 26)).alloc (.cells #[.string ts,.int .u8 kd,.int .i64 0] 48)).drew.cell? ((⟨w.heap.size+1,0,none⟩:Addr).add j)=some u:=fun kd j u h=>by
  have:=zlR (w.alloc (.cells #[.int .u8 tk,.int .i64 tn,.string ts,.slice B tl tc] 26)) 48 [Value.string ts,.int .u8 kd,.int .i64 0] j u h;simpa using this
 have HNC:=zh hnc';have vJ:=zh hnw;clear key hnc hnc' hnw;by_cases gM:tk=54/\i=1
 ·obtain⟨rfl,rfl⟩:=gM;have wN:=zh (show V=vs++[⟨ts,1,0⟩] by rw[<-HV.out];simp[zly]);go_enter Tryz.func64,Tryz.ntmps64;go_wp2_with fail
  go_region_held3 (fun w'=>w'.cell? ⟨w.heap.size,2,none⟩=some (.string ts))
   (first|exact hk5|(simp;done))
   (first
    | (refine zmm (by rfl) (.tmp 16) (.tmp 20) 22 (by rfl) 48 i0 _ 3 32 Tryz.underlying22 hi0 hz0 hz1 hz2 rfl (by decide) A vs.length vs.length news (by rfl) hn1 hnl (HNC.out _ _) ⟨w.heap.size+1,0,none⟩ 1 1 [.string ts,.int .u8 1,.int .i64 0] (by rfl) rfl (vJ.out 1) (by intro u hu;simp at hu;rcases hu with rfl|rfl|rfl<;>rfl) (by omega) hm1 hm2 ?_;intro v' w' h2 h3;have HF:=zh (HKEY.out 1 (.inl rfl) w' v' h3 h2 wN.out);have hk5:w'.cell? ⟨w.heap.size,2,none⟩=some (.string ts):=(World.cell?_of_block (a:=⟨w.heap.size,2,none⟩) (h3.block _ (by simp;omega) (by simp))).trans (by simp);clear h2 h3)
    | (go_at_call 98;refine(zqi A vs.length c ow.out hlv _).mono ?_;rintro e wq ⟨rfl,rfl⟩)
    | fail)
  all_goals
   clear hk5;go_wp2_with fail;go_ret;exact HF.out
 by_cases gY:tk=55/\i=0
 ·obtain⟨rfl,rfl⟩:=gY;have wN:=zh (show V=vs++[⟨ts,3,0⟩] by rw[<-HV.out];simp[zly]);go_enter Tryz.func64,Tryz.ntmps64;go_wp2_with fail
  go_region_held3 (fun w'=>w'.cell? ⟨w.heap.size,2,none⟩=some (.string ts))
   (first|exact hk5|(simp;done))
   (first
    | (refine zmm (by rfl) (.tmp 31) (.tmp 35) 22 (by rfl) 48 i0 _ 3 32 Tryz.underlying22 hi0 hz0 hz1 hz2 rfl (by decide) A vs.length vs.length news (by rfl) hn1 hnl (HNC.out _ _) ⟨w.heap.size+1,0,none⟩ 1 1 [.string ts,.int .u8 3,.int .i64 0] (by rfl) rfl (vJ.out 3) (by intro u hu;simp at hu;rcases hu with rfl|rfl|rfl<;>rfl) (by omega) hm1 hm2 ?_;intro v' w' h2 h3;have HF:=zh (HKEY.out 3 (.inr rfl) w' v' h3 h2 wN.out);have hk5:w'.cell? ⟨w.heap.size,2,none⟩=some (.string ts):=(World.cell?_of_block (a:=⟨w.heap.size,2,none⟩) (h3.block _ (by simp;omega) (by simp))).trans (by simp);clear h2 h3)
    | (go_at_call 98;refine(zqi A vs.length c ow.out hlv _).mono ?_;rintro e wq ⟨rfl,rfl⟩)
    | fail)
  all_goals
   clear hk5;go_wp2_with fail;go_ret;exact HF.out
 have wN:=zh (show V=vs by rw[<-HV.out];unfold zly;rw[if_neg gM,if_neg gY]);have HF:=zh (show ∀ o,zvm w S V (.returned (.slice A vs.length c)) (w.alloc o) from fun o=>by
  rw[wN.out];exact⟨A,c,rfl,(ah.out.later ((Below.refl _ _).alloc (Nat.le_refl _) _)).mono fun b hb=>.inl hb,ow.out,(Below.refl _ _).alloc (Nat.le_refl _) _⟩)
 by_cases yO:tk=54
 ·subst yO;have hne:¬ i=1:=fun e=>gM ⟨rfl,e⟩;have e1:(i==1)=false:=by simpa using hne
  have e2:((i:Int)==1)=false:=by simp;omega
  clear gM gY hne;go_enter Tryz.func64,Tryz.ntmps64;go_wp2_with fail;go_ret;exact HF.out _
 have f54:(tk==54)=false:=by simpa using yO
 by_cases yN:tk=55
 ·subst yN;have hne:¬ i=0:=fun e=>gY ⟨rfl,e⟩;have e1:(i==0)=false:=by simpa using hne
  have e2:((i:Int)==0)=false:=by simp;omega
  clear gM gY hne;go_enter Tryz.func64,Tryz.ntmps64;go_wp2_with fail;go_ret;exact HF.out _
 have f55:(tk==55)=false:=by simpa using yN
 clear gM gY yO yN;go_enter Tryz.func64,Tryz.ntmps64;go_wp2_with fail;go_ret;exact HF.out _
end Go.Proofs.YtmbbaccjcekhkaaGreat
namespace Go.Proofs.YtmbbaccjcekhkaaGreat
open Go Go.RowKit
mutual
/-- The nodes of a tree,in pre-order. -/
def po:T->List T
 | .nd k n s ks=>.nd k n s ks::pos ks
def pos:List T->List T
 | []=>[]
 | t::ts=>po t++pos ts
end
mutual
/-- The depth of a tree. -/
def dep:T->Nat
 | .nd _ _ _ ks=>1+deps ks
def deps:List T->Nat
 | []=>0
 | t::ts=>max (dep t) (deps ts)
end
theorem zvQ {t:T}:∀ {ks:List T},t∈ks->dep t<=deps ks
 | u::us,h=>by
  simp only[List.mem_cons] at h;rcases h with rfl|h
  ·simp only[deps];omega
  ·have:=zvQ h;simp only[deps];omega
def zx9 (w:World) (xs:List Int) (v:Value) (w':World):Prop:=∃ A' c',v=.slice A' xs.length c'/\RowI w' (From w.heap.size) A' xs/\xs.length<=c'/\Below w.heap.size w w'
theorem znW {P:Program} {f:FuncId} {args:Array Value} {w:World} {xs:List Int} (h:Calls P f args w (NewI w xs)):Calls P f args w fun e w'=>∃ v,e=.returned v/\zx9 w xs v w' :=
 h.mono fun _ _ ⟨A,c,he,hn⟩=>⟨_,he,A,c,rfl,hn⟩
structure FS (W:World) (n0 fb N:Nat) (pv:Value):Prop where
 box:W.heap[fb]?=some (.cells #[pv] 54 (0,0))
 row:∃ xs,W.ownsRow n0 80 4 pv N xs
 ge:n0<=fb
 ne:pv.ownBlock≠some fb
section
variable {W W':World} {n0 fb N N':Nat} {pv pv':Value}
theorem FS.lt (h:FS W n0 fb N pv):fb<W.heap.size/\∀ b,pv.ownBlock=some b->n0<=b/\b<W.heap.size:=⟨zku h.box,let ⟨_,hr⟩:=h.row;hr.lt⟩
theorem FS.chg {C:Nat->Prop} (h:FS W n0 fb N pv) (hc:Chg C W W') (hC:∀ b,b=fb\/pv.ownBlock=some b->¬ C b):FS W' n0 fb N pv:=by
 refine⟨hc.keep h.box (hC _ (.inl rfl)),?_,h.ge,h.ne⟩;obtain⟨xs,e1,h2⟩:=h.row;refine⟨xs,e1,?_⟩;rcases h2 with h2|⟨g,cap,cur,rfl,hb,hg,h3⟩
 ·exact .inl h2
 ·exact .inr ⟨g,cap,cur,rfl,hb,hc.keep hg (hC _ (.inr rfl)),h3⟩
theorem FS.later (h:FS W n0 fb N pv) (hb:Below W.heap.size W W'):FS W' n0 fb N pv:=h.chg (C:=fun _=>False) (Chg.of_below hb) (fun _ _ h=>h)
theorem FS.put (h:FS W n0 fb N pv) (ho:∃ xs,W'.ownsRow n0 80 4 pv' N' xs) (hg:W.grownBy W' pv.ownBlock) (aL:∀ b,pv'.ownBlock=some b->pv.ownBlock=some b\/W.heap.size<=b) :
  FS (W'.setCell ⟨fb,0,none⟩ pv') n0 fb N' pv':=by
 have hp':W'.heap[fb]?=some (.cells #[pv] 54 (0,0)):=(hg.block _ (zku h.box) (fun e=>h.ne e.symm)).trans h.box;have lZ:pv'.ownBlock≠some fb:=fun e=>by
  rcases aL _ e with e|e
  ·exact h.ne e
  ·have:=zku h.box;omega
 refine⟨by have:=heap_setCell_same W' fb 0 _ _ pv' hp';simpa using this,?_,h.ge,lZ⟩;obtain⟨xs,e1,h2⟩:=ho;refine⟨xs,e1,?_⟩;rcases h2 with h2|⟨g,cap,cur,rfl,hb,hg',h3⟩
 ·exact .inl h2
 ·refine .inr ⟨g,cap,cur,rfl,hb,?_,h3⟩;rw[Below.heap_setCell _ _ _ _ (fun e=>lZ (by subst e;rfl))];exact hg'
theorem FS.slice (h:FS W n0 fb N pv):∃ A c,pv=.slice A N c:=by
 obtain⟨xs,e1,h2⟩:=h.row;rcases h2 with⟨rfl,rfl⟩|⟨g,cap,cur,rfl,_⟩
 ·exact⟨_,_,rfl⟩
 ·exact⟨_,_,rfl⟩
end
def RepP (W:World) (n0 fb:Nat) (pv:Value) (N':Nat) (e:Ending) (W':World):Prop :=
 (∃ v,e=.returned v)/\∃ pv',FS W' n0 fb N' pv'/\(∀ b,pv'.ownBlock=some b->pv.ownBlock=some b\/W.heap.size<=b)/\Chg (fun b=>b=fb\/pv.ownBlock=some b) W W'
def one1 (e:Int):Nat:=if e=0 then 0 else 1
theorem zwt:(Tryz.prog.info? 80).map (fun i=>(i.zero,i.size,i.bytes))=some (some (.agg #[.int .i64 0,.slice none 0 0,.int .i64 0,.string ⟨#[]⟩]),4,56):=by kernel_rfl
theorem zxx (p:Int) (A:Option Addr) (l c:Nat) (e:Int) (s:ByteArray) (w:World):(Instr.build 80 #[(0,.int .i64 p),(1,.slice A l c),(2,.int .i64 e),(3,.string s)]).run Tryz.prog w=.ok (.agg #[.int .i64 p,.slice A l c,.int .i64 e,.string s]) w:=by kernel_rfl
theorem zwG (a0 a1 a2 a3:Value) (w:World):(Instr.buildSlice 54 1 #[(0,.agg #[a0,a1,a2,a3])]).run Tryz.prog w=.ok (.slice (some ⟨w.heap.size,0,none⟩) 1 1) (w.alloc (.cells #[a0,a1,a2,a3] 80)):=by kernel_rfl
theorem zmU (n0 fb N:Nat) (pv:Value) (pr er:Int) (q:List Int) (A:Option Addr) (c:Nat) (s:ByteArray) (S:Nat->Prop) (W:World) (hfs:FS W n0 fb N pv) (hq:RowI W S A q) (qL:q.length<=100000) (hN:N<=1000000) :
  Calls Tryz.prog 34 #[.int .i64 pr,.slice A q.length c,.string s,.int .i64 er,.pointer (some ⟨fb,0,none⟩)] W (RepP W n0 fb pv (N+one1 er)):=by
 obtain⟨i0,hi0,hz0,hz1,hz2⟩:=info_parts zwt;obtain⟨Ap,cp,rfl⟩:=hfs.slice;have pG:=zh hfs;have HQ:=zh hq;have hc0:W.cell? ⟨fb,0,none⟩=some (.slice Ap N cp):=zc hfs.box rfl;have hbf:=zxx;have hbs:=zwG;have hge:=hfs.ge;have hlf:=hfs.lt.1;clear hfs hq;by_cases he:er=0
 ·subst he;clear hc0;go_enter Tryz.func34,Tryz.ntmps34;go_wp2_with fail;go_end0;exact⟨⟨_,rfl⟩,_,pG.out,fun b hb=>.inl hb,Chg.refl _ _⟩
 ·have e1:(er==0)=false:=by simpa using he
  have e2:(er != 0)=true:=by simpa using he
  have HONE:=zh (show one1 er=1 by simp[one1,he]);rw[HONE.out];clear he;go_enter Tryz.func34,Tryz.ntmps34;go_upto_region 1 with fail;have hSS:(fun _:World=>True) W.drew/\(fun w':World=>w'.cell? ⟨fb,0,none⟩=some (.slice Ap N cp)) W.drew:=⟨trivial,hc0⟩
  refine wp_region_noPanic ?_;refine zkd (fun _:World=>True) (fun w':World=>w'.cell? ⟨fb,0,none⟩=some (.slice Ap N cp)) 8 (by kernel_rfl) ?_;refine zko (i:=0) (v:=?_) rfl (by kernel_rfl) (by kernel_rfl) (by kernel_rfl) (by decide) rfl (by kernel_rfl) (by kernel_rfl) (fun _ _ _ h=>h) (Or.inl ⟨by rfl,?_⟩) hSS ?_;rotate_left 1
  ·(intro w hSw;(try dsimp only at hSw);(try simp only[zA,zB,zC]);go_simp;(try with_reducible rfl))
  (try simp only[zQ]);refine zT 1 hSS ?_;(try simp only[zQ]);refine zT 2 hSS ?_;(try simp only[zQ]);refine zT 4 hSS ?_;(try simp only[zQ]);refine zT 5 hSS ?_;(try simp only[zQ]);refine zo 3 fun K hK=>?_;refine zrG (by rfl) (.func 35) (.tmp 13) _ (by rfl) 35 _ znn (by rfl) _ (by rfl) _ (znW (zr9 q A c S _ (HQ.out.later (Below.refl _ _).drew) (by unfold LI;omega))) ?_;rintro v2 w2 ⟨A2,c2,rfl,_,_,aB⟩;have b2:=zka (Below.refl W.heap.size W).drew aB;have ji:=pG.out.later b2;have g2:w2.cell? ⟨fb,0,none⟩=some (.slice Ap N cp):=zc ji.box rfl;have aX:(fun _:World=>True) w2/\(fun w':World=>w'.cell? ⟨fb,0,none⟩=some (.slice Ap N cp)) w2:=⟨trivial,g2⟩
  refine hK.out _ _ aX ?_;clear hK K hSS;(try simp only[zQ]);refine zT 6 aX ?_;(try simp only[zQ]);refine zo 7 fun K hK=>?_;(try simp only[zA,zB,zC]);go_simp;refine hK.out _ _ ⟨trivial,zkm g2 _⟩ ?_;clear hK K aX;(try simp only[zQ]);obtain⟨xs,hrow⟩:=ji.row;have hl2:=ji.lt;refine zp 8 fun K hK=>?_;refine zkI (by rfl) (.tmp 11) (.tmp 18) 54 (by rfl) n0 80 i0 _ 4 56 Tryz.underlying54 hi0 hz0 hz1 hz2 rfl (by decide) (.slice Ap N cp) N xs (by rfl) (hrow.alloc _) ⟨w2.heap.size,0,none⟩ 1 1 [.int .i64 pr,.slice A2 q.length c2,.int .i64 er,.string s] (by rfl) rfl (zlR w2 _ _) (by intro u hu;simp at hu;rcases hu with rfl|rfl|rfl|rfl<;>rfl) (by unfold maxLen;omega) (by omega) (by simp;omega) ?_;intro v' w' h2 h3 h5
  have hput:=ji.put (W':=w') (pv':=v') (N':=N+1) ⟨_,h2⟩ ⟨h3.os,h3.tape,h3.output,Nat.le_trans (by simp) h3.size,fun b hb hne=>(h3.block b (by simp;omega) hne).trans (Below.heap_alloc w2 _ b hb)⟩ (fun b hb=>by rcases h5 with h5|h5;exact .inl (h5▸hb);exact .inr (by rw[h5] at hb;injection hb with hb;simp at hb;omega));have hob':∀ b,v'.ownBlock=some b->(Value.slice Ap N cp).ownBlock=some b\/W.heap.size<=b:=fun b hb=>by
   have:=b2.size;rcases h5 with h5|h5
   ·exact .inl (h5▸hb)
   ·exact .inr (by rw[h5] at hb;injection hb with hb;simp at hb;omega)
  have hch:Chg (fun b=>b=fb\/(Value.slice Ap N cp).ownBlock=some b) W (w'.setCell ⟨fb,0,none⟩ v'):=(((Chg.of_below b2).alloc _).trans2 (Chg.row h3) (fun b _ h=>.inr h)).setCell (.inl (.inl rfl)) _;have hbx:=(h3.block _ (by have:=zku ji.box;simp;omega) (fun e=>ji.ne e.symm)).trans (zkn ji.box _);have hy0:w'.cell? ⟨fb,0,none⟩=some (.slice Ap N cp):=zc hbx rfl;have hy1:w'.frozen? ⟨fb,0,none⟩=false:=zf hbx;obtain⟨g8,aP,rfl⟩:=ownsRow_succ h2;have HP:=zh hput;have HO:=zh hob';have dU:=zh hch;clear hput hob' hch hbx h2 h3 h5 hrow ji;refine hK.out _ _ trivial ?_;clear hK K;(try simp only[zQ]);refine zp 9 fun K hK=>?_;(try simp only[zA,zB,zC]);go_simp;refine hK.out _ _ trivial ?_;clear hK K;(try simp only[zQ]);refine zd ?_;refine NoPanic.normal ?_;go_wp2_with fail;go_end0;exact⟨⟨_,rfl⟩,_,HP.out,HO.out,dU.out⟩
structure RepC (f:FuncId) (cap:Array Value) (Rd:World->Prop) (n0 fb:Nat):Prop where
 fn:∃ fn,IsFn Tryz.prog f fn
 keep:∀ W W' pv N,Rd W->FS W n0 fb N pv->Chg (fun b=>b=fb\/pv.ownBlock=some b) W W'->Rd W'
 call:∀ (N:Nat) (pv:Value) (er:Int) (q:List Int) (A:Option Addr) (c:Nat) (s:ByteArray) (S:Nat->Prop) (W:World),Rd W->FS W n0 fb N pv->RowI W S A q->q.length<=100000->N<=1000000 ->
  Calls Tryz.prog f (#[.slice A q.length c,.string s,.int .i64 er]++cap) W (RepP W n0 fb pv (N+one1 er))
theorem FS.other {W:World} {n0 fb N:Nat} {pv:Value} {b:Nat} {cs:Array Value} {E:TypeId} (h:FS W n0 fb N pv) (hb:W.heap[b]?=some (.cells cs E (0,0))) (h1:E≠54) (h2:E≠80):¬ (b=fb\/pv.ownBlock=some b):=by
 rintro(rfl|ho)
 ·have:=h.box;rw[hb] at this;injection this with this;injection this with _ e;exact h1 e
 ·obtain⟨xs,e1,h2'⟩:=h.row;rcases h2' with⟨rfl,_⟩|⟨g,cap,cur,rfl,_,hg,_⟩
  ·simp[Value.ownBlock] at ho
  ·simp[Value.ownBlock] at ho;subst ho;rw[hb] at hg;injection hg with hg;injection hg with _ e;exact h2 e
theorem zxn:IsFn Tryz.prog 39 Tryz.f39:=⟨Tryz.func39,by kernel_rfl,by kernel_rfl⟩
theorem zxm:IsFn Tryz.prog 40 Tryz.f40:=⟨Tryz.func40,by kernel_rfl,by kernel_rfl⟩
theorem zrA (n0 fb rb ib:Nat) (k:Int):RepC 39 #[.pointer (some ⟨rb,0,none⟩),.pointer (some ⟨ib,0,none⟩)]
  (fun W=>W.heap[rb]?=some (.cells #[.func (.func 34) #[] #[.pointer (some ⟨fb,0,none⟩)]] 81 (0,0))/\W.heap[ib]?=some (.cells #[.int .i64 k] 3 (0,0))) n0 fb where
 fn:=⟨_,zxn⟩
 keep W W' pv N h hfs hc:=⟨hc.keep h.1 (hfs.other h.1 (by decide) (by decide)),hc.keep h.2 (hfs.other h.2 (by decide) (by decide))⟩
 call N pv er q A c s S W h hfs hq qL hN:=by
  have x0:W.cell? ⟨rb,0,none⟩=some (.func (.func 34) #[] #[.pointer (some ⟨fb,0,none⟩)]):=zc h.1 rfl;have x1:W.cell? ⟨ib,0,none⟩=some (.int .i64 k):=zc h.2 rfl;have HC:=zh (zmU n0 fb N pv k er q A c s S W hfs hq qL hN);clear h hfs hq
  show Calls Tryz.prog 39 #[.slice A q.length c,.string s,.int .i64 er,.pointer (some ⟨rb,0,none⟩),.pointer (some ⟨ib,0,none⟩)] W _
  go_enter Tryz.func39,Tryz.ntmps39;go_wp2_with fail;refine HC.out.mono ?_;rintro e W' ⟨⟨v,rfl⟩,hp⟩;have HP:=zh hp;clear hp;go_wp2_with fail;go_end0;exact⟨⟨_,rfl⟩,HP.out⟩
theorem zvz (n0 fb rb pb:Nat) (A1:Option Addr) (l1 c1:Nat) (A2:Option Addr) (l2 c2:Nat) (k n:Int) (sn:ByteArray) (A3:Option Addr) (l3 c3:Nat):RepC 40 #[.pointer (some ⟨rb,0,none⟩),.pointer (some ⟨pb,0,none⟩)]
  (fun W=>W.heap[rb]?=some (.cells #[.func (.func 34) #[] #[.pointer (some ⟨fb,0,none⟩)]] 81 (0,0))/\W.heap[pb]?=some (.cells #[.slice A1 l1 c1,.slice A2 l2 c2,.int .u8 k,.int .i64 n,.string sn,.slice A3 l3 c3] 28 (0,0))) n0 fb where
 fn:=⟨_,zxm⟩
 keep W W' pv N h hfs hc:=⟨hc.keep h.1 (hfs.other h.1 (by decide) (by decide)),hc.keep h.2 (hfs.other h.2 (by decide) (by decide))⟩
 call N pv er q A c s S W h hfs hq qL hN:=by
  have x0:W.cell? ⟨rb,0,none⟩=some (.func (.func 34) #[] #[.pointer (some ⟨fb,0,none⟩)]):=zc h.1 rfl;have x1:W.cell? ⟨pb,1,none⟩=some (.slice A2 l2 c2):=zc h.2 rfl;have HC:=zh (zmU n0 fb N pv l2 er q A c s S W hfs hq qL hN);clear h hfs hq
  show Calls Tryz.prog 40 #[.slice A q.length c,.string s,.int .i64 er,.pointer (some ⟨rb,0,none⟩),.pointer (some ⟨pb,0,none⟩)] W _
  go_enter Tryz.func40,Tryz.ntmps40;go_wp2_with fail;refine HC.out.mono ?_;rintro e W' ⟨⟨v,rfl⟩,hp⟩;have HP:=zh hp;clear hp;go_wp2_with fail;go_end0;exact⟨⟨_,rfl⟩,HP.out⟩
def cntA (ps:List PR) (s:ByteArray) (l:Nat):Nat->List T->List VD->Nat
 | _,[],_=>0
 | i,t::ts,vs=>one1 (argE ps s l i t.s vs)+cntA ps s l (i+1) ts vs
mutual
/-- How many faults scope.visit reports. -/
def cntV (ps:List PR):T->List VD->Nat
 | .nd k _ s ks,vs=>one1 (zll ps k s ks.length vs)+(if k=50\/k=51 then cntA ps s ks.length 0 ks vs else cntK ps k s 0 ks vs)
def cntK (ps:List PR) (k:Int) (s:ByteArray):Nat->List T->List VD->Nat
 | _,[],_=>0
 | i,t::ts,vs=>cntV ps t (zly k s i vs)+cntK ps k s (i+1) ts vs
end
theorem zot (ps:List PR) (s:ByteArray) (l:Nat) (vs:List VD):∀ (a b:List T) (i:Nat),cntA ps s l i (a++b) vs=cntA ps s l i a vs+cntA ps s l (i+a.length) b vs
 | [],b,i=>by simp[cntA]
 | t::ts,b,i=>by simp[cntA,zot ps s l vs ts b (i+1),Nat.add_assoc,Nat.add_comm 1 ts.length]
theorem zos (ps:List PR) (k:Int) (s:ByteArray) (vs:List VD):∀ (a b:List T) (i:Nat),cntK ps k s i (a++b) vs=cntK ps k s i a vs+cntK ps k s (i+a.length) b vs
 | [],b,i=>by simp[cntK]
 | t::ts,b,i=>by simp[cntK,zos ps k s vs ts b (i+1),Nat.add_assoc,Nat.add_comm 1 ts.length]
theorem zp5 (ps:List PR) (s:ByteArray) (l:Nat) (vs:List VD) {ks:List T} {j:Nat} (h:j<ks.length):cntA ps s l 0 (ks.take (j+1)) vs=cntA ps s l 0 (ks.take j) vs+one1 (argE ps s l j ks[j].s vs):=by
 rw[List.take_succ_eq_append_getElem h,zot];have:(ks.take j).length=j:=by simp;omega
 simp[cntA,this]
theorem ztg (ps:List PR) (k:Int) (s:ByteArray) (vs:List VD) {ks:List T} {j:Nat} (h:j<ks.length):cntK ps k s 0 (ks.take (j+1)) vs=cntK ps k s 0 (ks.take j) vs+cntV ps ks[j] (zly k s j vs):=by
 rw[List.take_succ_eq_append_getElem h,zos];have:(ks.take j).length=j:=by simp;omega
 simp[cntK,this]
theorem zm8 (e:Int):one1 e<=1:=by unfold one1;split<;>omega
theorem zq2 (t:T):1<=size t:=by cases t;rw[size];omega
theorem zpu (ps:List PR) (s:ByteArray) (l:Nat) (vs:List VD):∀ (ks:List T) (i:Nat),cntA ps s l i ks vs<=zld ks
 | [],i=>by simp[cntA]
 | t::ts,i=>by
  have h1:=zpu ps s l vs ts (i+1);have h2:=zm8 (argE ps s l i t.s vs);have h3:=zq2 t;simp only[cntA,zld];omega
theorem zqI (ps:List PR) (k:Int) (s:ByteArray):∀ (ks:List T),(∀ t∈ks,∀ vs,cntV ps t vs<=size t)->∀ (i:Nat) (vs:List VD),cntK ps k s i ks vs<=zld ks
 | [],_,i,vs=>by simp[cntK]
 | t::ts,h,i,vs=>by
  have h1:=zqI ps k s ts (fun u hu=>h u (by simp[hu])) (i+1) vs;have h2:=h t (by simp) (zly k s i vs);simp only[cntK,zld];omega
theorem ztf (ps:List PR) (t:T):∀ vs,cntV ps t vs<=size t:=by
 induction t using T.ind with
 | _ k n s ks ih =>
 intro vs;rw[cntV,size];have h1:=zm8 (zll ps k s ks.length vs);have h2:=zpu ps s ks.length vs ks 0;have h3:=zqI ps k s ks ih 0 vs
 split<;>omega
theorem zl1:∀ (ks:List T) (j:Nat),zld (ks.take j)<=zld ks
 | [],j=>by simp[zld]
 | t::ts,0=>by simp[zld]
 | t::ts,j+1=>by have:=zl1 ts j;simp only[List.take_succ_cons,zld];omega
theorem zrS (k:Int) (s:ByteArray) (i:Nat) (vs:List VD):(zly k s i vs).length<=vs.length+1:=by unfold zly;split;simp;split<;>simp
theorem PV.keep {w w':World} {S S':Nat->Prop} {p:PG} {v:Value} (h:PV w S p v) (hS:∀ b,S b->b<w.heap.size->S' b) (hk:∀ b,S b->b<w.heap.size->w'.heap[b]?=w.heap[b]?):PV w' S' p v :=
 let ⟨A1,c1,A2,c2,A3,c3,e,h⟩:=h;⟨A1,c1,A2,c2,A3,c3,e,h.keep hS hk⟩
structure VsI (Rd:World->Prop) (n0 fb:Nat) (Wb:World) (pv:Value) (N:Nat) (wr:World) (pv':Value):Prop where
 rd:Rd wr
 fs:FS wr n0 fb N pv'
 own:∀ b,pv'.ownBlock=some b->pv.ownBlock=some b\/Wb.heap.size<=b
 chg:Chg (fun b=>b=fb\/pv.ownBlock=some b) Wb wr
theorem VsI.step {f:FuncId} {cap:Array Value} {Rd:World->Prop} {n0 fb:Nat} {Wb wr w5 W6:World} {pv pv':Value} {N N':Nat} {e:Ending} (hr:RepC f cap Rd n0 fb) (h:VsI Rd n0 fb Wb pv N wr pv') (hb:Below wr.heap.size wr w5) (hp:RepP w5 n0 fb pv' N' e W6) :
  ∃ jV,VsI Rd n0 fb Wb pv N' W6 jV:=by
 obtain⟨_,jV,hfs,aL,hc⟩:=hp;have sS:=h.fs.later hb;have hz:=h.chg.size;have rJ:=hb.size;refine⟨jV,hr.keep w5 W6 pv' N (hr.keep wr w5 pv' N h.rd h.fs (Chg.of_below hb)) sS hc,hfs,fun b hb'=>?_,(h.chg.trans (Chg.of_below hb)).trans2 hc fun b hlt hh=>?_⟩
 ·rcases aL b hb' with h1|h1
  ·exact h.own b h1
  ·exact .inr (by omega)
 ·rcases hh with hh|hh
  ·exact .inl hh
  ·rcases h.own b hh with h1|h1
   ·exact .inr h1
   ·omega
theorem VsI.rep {Rd:World->Prop} {n0 fb:Nat} {W Wb w:World} {pw pv':Value} {N':Nat} {e:Ending} (h:VsI Rd n0 fb Wb pw N' w pv') (hb:Below W.heap.size W Wb) (he:∃ v,e=.returned v):RepP W n0 fb pw N' e w :=
 ⟨he,pv',h.fs,fun b hh=>(h.own b hh).imp id fun h1=>by have:=hb.size;omega,(Chg.of_below hb).trans h.chg⟩
def IsW (x:Value) (w:World) (v:Value) (w':World):Prop:=v=x/\Below w.heap.size w w'
theorem znO {P:Program} {f:FuncId} {args:Array Value} {w:World} {x:Value} (h:Calls P f args w fun e w'=>e=.returned x/\Below w.heap.size w w'):Calls P f args w fun e w'=>∃ v,e=.returned v/\IsW x w v w' :=
 h.mono fun _ _ ⟨he,hb⟩=>⟨_,he,rfl,hb⟩
def RepV (W:World) (n0 fb:Nat) (pv:Value) (N':Nat) (_:Value) (W':World):Prop:=RepP W n0 fb pv N' (.returned undef) W'
theorem zmL {P:Program} {f:FuncId} {args:Array Value} {W:World} {n0 fb N':Nat} {pv:Value} (h:Calls P f args W (RepP W n0 fb pv N')):Calls P f args W fun e w'=>∃ v,e=.returned v/\RepV W n0 fb pv N' v w' :=
 h.mono fun _ _ ⟨⟨v,he⟩,hp⟩=>⟨v,he,⟨_,rfl⟩,hp⟩
def zxD (w:World) (S:Nat->Prop) (vs:List VD) (v:Value) (w':World):Prop:=∃ A' c',v=.slice A' vs.length c'/\RowV w' (fun b=>S b\/w.heap.size<=b) A' vs/\vs.length<=c'/\Below w.heap.size w w'
theorem zsg {P:Program} {f:FuncId} {args:Array Value} {w:World} {S:Nat->Prop} {vs:List VD} (h:Calls P f args w (zvm w S vs)):Calls P f args w fun e w'=>∃ v,e=.returned v/\zxD w S vs v w' :=
 h.mono fun _ _ ⟨A,c,he,hn⟩=>⟨_,he,A,c,rfl,hn⟩
theorem zwq:IsFn Tryz.prog 61 Tryz.f61:=⟨Tryz.func61,by kernel_rfl,by kernel_rfl⟩
theorem zoU:IsFn Tryz.prog 63 Tryz.f63:=⟨Tryz.func63,by kernel_rfl,by kernel_rfl⟩
theorem zqF:IsFn Tryz.prog 62 Tryz.f62:=⟨Tryz.func62,by kernel_rfl,by kernel_rfl⟩
theorem zwp:IsFn Tryz.prog 64 Tryz.f64:=⟨Tryz.func64,by kernel_rfl,by kernel_rfl⟩
theorem zwl:IsFn Tryz.prog 38 Tryz.f38:=⟨Tryz.func38,by kernel_rfl,by kernel_rfl⟩
theorem znz (f:FuncId) (cap:Array Value) (Rd:World->Prop) (n0 fb:Nat) (hrep:RepC f cap Rd n0 fb) (p:PG) (t:T) :
  ∀ (S:Nat->Prop) (vs:List VD) (A:Option Addr) (c:Nat) (q:List Int) (Aq:Option Addr) (cq N:Nat) (pw:Value) (W:World) (v1 v2:Value),Rd W->FS W n0 fb N pw->PV W S p v1->NV W S t v2->RowV W S A vs->vs.length<=c->RowI W S Aq q->q.length<=cq ->
   (∀ b,S b->b<W.heap.size->¬ (b=fb\/pw.ownBlock=some b))->q.length+dep t<=50000->vs.length+dep t<=50000->N+size t<=1000000 ->
   Calls Tryz.prog 38 #[v1,v2,.slice Aq q.length cq,.slice A vs.length c,.func (.func f) #[] cap] W (RepP W n0 fb pw (N+cntV p.prs t vs)):=by
 obtain⟨fn,hfn⟩:=hrep.fn;have bJ:=zh hrep;clear hrep
 induction t using T.ind with
 | _ tk tn ts ks ih =>
 intro S vs A c q Aq cq N pw W v1 v2 hrd hfs hv1 hv2 hrow hlc hqr hqc hfar hdq hdv hN;have iM:=zh ih;have hvv:=hv1;obtain⟨A1,c1,A2,c2,A3,c3,rfl,-⟩:=hv1;obtain⟨L1,hL1⟩:∃ L,p.vs.length=L:=⟨_,rfl⟩
 obtain⟨L2,hL2⟩:∃ L,p.prs.length=L:=⟨_,rfl⟩
 obtain⟨k,hk⟩:∃ k,p.m.k=k:=⟨_,rfl⟩
 obtain⟨n,hn⟩:∃ n,p.m.n=n:=⟨_,rfl⟩
 obtain⟨s,hs⟩:∃ s,p.m.s=s:=⟨_,rfl⟩
 obtain⟨l3,hl3⟩:∃ l,p.m.ks.length=l:=⟨_,rfl⟩
 rw[hL1,hL2,hk,hn,hs,hl3];rw[hL1,hL2,hk,hn,hs,hl3] at hvv;have qz:=zh hvv;clear ih hvv hL1 hL2 hk hn hs hl3;have eQ:=zh hv2;obtain⟨B,tc,rfl,_,hlk,_,iD⟩:=hv2.open_;simp only[T.k_nd,T.n_nd,T.s_nd,T.ks_nd] at *
 have aF:=zkS hlk;rw[dep] at hdq hdv;rw[size] at hN;have hksz:ks.length<=1000000:=by
  have:∀ l:List T,l.length<=zld l:=fun l=>by
   induction l with
   | nil=>simp
   | cons t ts ih=>have:=zq2 t;simp only[List.length_cons,zld];omega
  have:=this ks;omega
 have HRK:=zh iD;have ah:=zh hrow;have ow:=zh hlc;have HQR:=zh hqr;have AL:=zh hqc;have o7:=zh hrd;have pG:=zh hfs;have HFAR:=zh hfar;have hlv:vs.length<=LV:=by unfold LV;omega
 have uF:=zh hlv;have hfl:=hfs.lt;have aR:=zh hfl;obtain⟨CC,zR⟩:∃ CC,cntV p.prs (.nd tk tn ts ks) vs=CC:=⟨_,rfl⟩
 rw[zR];have bN:=zh zR;obtain⟨E0,hE0⟩:∃ E0,zll p.prs tk ts ks.length vs=E0:=⟨_,rfl⟩
 have qI:=zh hE0;have hE1:=zm8 E0;clear iD hrow hlc hqr hqc hrd hfs hfar hlk hlv hv2 hfl zR hE0;go_enter Tryz.func38,Tryz.ntmps38;go_upto_region 1 with fail;have hbw:Below W.heap.size W ((W.alloc (.cells #[.slice A1 L1 c1,.slice A2 L2 c2,.int .u8 k,.int .i64 n,.string s,.slice A3 l3 c3] 28)).alloc (.cells #[.int .u8 tk,.int .i64 tn,.string ts,.slice B ks.length tc] 26)):=zkc (zkc (Below.refl _ _) _) _;have qO:=zkn (heap_alloc_new W (.cells #[.slice A1 L1 c1,.slice A2 L2 c2,.int .u8 k,.int .i64 n,.string s,.slice A3 l3 c3] 28)) (.cells #[.int .u8 tk,.int .i64 tn,.string ts,.slice B ks.length tc] 26);have hbN:=heap_alloc_new (W.alloc (.cells #[.slice A1 L1 c1,.slice A2 L2 c2,.int .u8 k,.int .i64 n,.string s,.slice A3 l3 c3] 28)) (.cells #[.int .u8 tk,.int .i64 tn,.string ts,.slice B ks.length tc] 26);simp only[World.size_alloc] at hbN
 obtain⟨Wb,tT⟩:∃ Wb,(W.alloc (.cells #[.slice A1 L1 c1,.slice A2 L2 c2,.int .u8 k,.int .i64 n,.string s,.slice A3 l3 c3] 28)).alloc (.cells #[.int .u8 tk,.int .i64 tn,.string ts,.slice B ks.length tc] 26)=Wb:=⟨_,rfl⟩
 rw[tT] at hbw qO hbN ⊢;have qy:=zh (show Wb.heap.size=W.heap.size+2 by rw[<-tT];simp);have jI:=zh hbw;have HBP:=zh qO;have HBN:=zh hbN;have uu:=zh (show ∀ w':World,w'.heap[W.heap.size]?=Wb.heap[W.heap.size]?->w'.heap[W.heap.size+1]?=Wb.heap[W.heap.size+1]?->(fun w':World=>(w'.cell? ⟨W.heap.size,0,none⟩=some (.slice A1 L1 c1)/\w'.cell? ⟨W.heap.size,1,none⟩=some (.slice A2 L2 c2)/\w'.cell? ⟨W.heap.size,2,none⟩=some (.int .u8 k)/\w'.cell? ⟨W.heap.size,3,none⟩=some (.int .i64 n)/\w'.cell? ⟨W.heap.size,4,none⟩=some (.string s)/\w'.cell? ⟨W.heap.size,5,none⟩=some (.slice A3 l3 c3))/\(w'.cell? ⟨W.heap.size+1,0,none⟩=some (.int .u8 tk)/\w'.cell? ⟨W.heap.size+1,1,none⟩=some (.int .i64 tn)/\w'.cell? ⟨W.heap.size+1,2,none⟩=some (.string ts)/\w'.cell? ⟨W.heap.size+1,3,none⟩=some (.slice B ks.length tc))) w' from fun w' h1 h2=>⟨box6 (h1.trans qO),box4 (h2.trans hbN)⟩)
 have mK:=zh (show ∀ w':World,Chg (fun b=>b=fb\/pw.ownBlock=some b) Wb w'->(fun w':World=>(w'.cell? ⟨W.heap.size,0,none⟩=some (.slice A1 L1 c1)/\w'.cell? ⟨W.heap.size,1,none⟩=some (.slice A2 L2 c2)/\w'.cell? ⟨W.heap.size,2,none⟩=some (.int .u8 k)/\w'.cell? ⟨W.heap.size,3,none⟩=some (.int .i64 n)/\w'.cell? ⟨W.heap.size,4,none⟩=some (.string s)/\w'.cell? ⟨W.heap.size,5,none⟩=some (.slice A3 l3 c3))/\(w'.cell? ⟨W.heap.size+1,0,none⟩=some (.int .u8 tk)/\w'.cell? ⟨W.heap.size+1,1,none⟩=some (.int .i64 tn)/\w'.cell? ⟨W.heap.size+1,2,none⟩=some (.string ts)/\w'.cell? ⟨W.heap.size+1,3,none⟩=some (.slice B ks.length tc))) w' from fun w' h=>uu.out w' (h.block _ (by have:=qy.out;omega) (fun hh=>by rcases hh with hh|hh;(have:=aR.out.1;omega);(have:=(aR.out.2 _ hh).2;omega))) (h.block _ (by have:=qy.out;omega) (fun hh=>by rcases hh with hh|hh;(have:=aR.out.1;omega);(have:=(aR.out.2 _ hh).2;omega))))
 have pE:=zh (show ∀ w':World,Chg (fun b=>b=fb\/pw.ownBlock=some b) Wb w'->∀ b,S b->b<W.heap.size->w'.heap[b]?=W.heap[b]? from fun w' h b hb hlt=>(h.block b (by have:=qy.out;omega) (HFAR.out b hb hlt)).trans (jI.out.block b hlt));have hi0:VsI Rd n0 fb Wb pw N Wb pw:=⟨bJ.out.keep W Wb pw N o7.out pG.out (Chg.of_below hbw),pG.out.later hbw,fun b hb=>.inl hb,Chg.refl _ _⟩
 have HI0:=zh hi0;clear tT hbw qO hbN hi0;have hdr:=(Below.refl Wb.heap.size Wb).drew;have hSS:(fun w':World=>(w'.cell? ⟨W.heap.size,0,none⟩=some (.slice A1 L1 c1)/\w'.cell? ⟨W.heap.size,1,none⟩=some (.slice A2 L2 c2)/\w'.cell? ⟨W.heap.size,2,none⟩=some (.int .u8 k)/\w'.cell? ⟨W.heap.size,3,none⟩=some (.int .i64 n)/\w'.cell? ⟨W.heap.size,4,none⟩=some (.string s)/\w'.cell? ⟨W.heap.size,5,none⟩=some (.slice A3 l3 c3))/\(w'.cell? ⟨W.heap.size+1,0,none⟩=some (.int .u8 tk)/\w'.cell? ⟨W.heap.size+1,1,none⟩=some (.int .i64 tn)/\w'.cell? ⟨W.heap.size+1,2,none⟩=some (.string ts)/\w'.cell? ⟨W.heap.size+1,3,none⟩=some (.slice B ks.length tc))) Wb.drew/\(fun _:World=>True) Wb.drew:=⟨mK.out _ (Chg.of_below hdr),trivial⟩
 refine wp_region_noPanic ?_;refine zkd (fun w':World=>(w'.cell? ⟨W.heap.size,0,none⟩=some (.slice A1 L1 c1)/\w'.cell? ⟨W.heap.size,1,none⟩=some (.slice A2 L2 c2)/\w'.cell? ⟨W.heap.size,2,none⟩=some (.int .u8 k)/\w'.cell? ⟨W.heap.size,3,none⟩=some (.int .i64 n)/\w'.cell? ⟨W.heap.size,4,none⟩=some (.string s)/\w'.cell? ⟨W.heap.size,5,none⟩=some (.slice A3 l3 c3))/\(w'.cell? ⟨W.heap.size+1,0,none⟩=some (.int .u8 tk)/\w'.cell? ⟨W.heap.size+1,1,none⟩=some (.int .i64 tn)/\w'.cell? ⟨W.heap.size+1,2,none⟩=some (.string ts)/\w'.cell? ⟨W.heap.size+1,3,none⟩=some (.slice B ks.length tc))) (fun _:World=>True) 20 (by kernel_rfl) ?_;refine zT 0 hSS ?_;(try simp only[zQ]);refine zT 1 hSS ?_;(try simp only[zQ]);refine zT 2 hSS ?_;(try simp only[zQ]);refine zT 3 hSS ?_;(try simp only[zQ]);refine zT 4 hSS ?_;(try simp only[zQ]);refine zT 5 hSS ?_;(try simp only[zQ]);refine zT 6 hSS ?_
 (try simp only[zQ]);refine zo 7 fun K hK=>?_;refine zkj (by rfl) (.func 61) [.tmp 18,.tmp 19,.tmp 20] _ (by rfl) 61 _ zwq (by rfl) _ (by rfl) _ (znO (zs0 p (.nd tk tn ts ks) vs A c S S S _ _ _ (qz.out.later (zka jI.out hdr)) (eQ.out.later (zka jI.out hdr)) (ah.out.later (zka jI.out hdr)) uF.out)) ?_;rintro vq w2 ⟨rfl,aB⟩;simp only[T.k_nd,T.s_nd,T.ks_nd];rw[qI.out];have b2:=zka hdr aB
 have aX:(fun w':World=>(w'.cell? ⟨W.heap.size,0,none⟩=some (.slice A1 L1 c1)/\w'.cell? ⟨W.heap.size,1,none⟩=some (.slice A2 L2 c2)/\w'.cell? ⟨W.heap.size,2,none⟩=some (.int .u8 k)/\w'.cell? ⟨W.heap.size,3,none⟩=some (.int .i64 n)/\w'.cell? ⟨W.heap.size,4,none⟩=some (.string s)/\w'.cell? ⟨W.heap.size,5,none⟩=some (.slice A3 l3 c3))/\(w'.cell? ⟨W.heap.size+1,0,none⟩=some (.int .u8 tk)/\w'.cell? ⟨W.heap.size+1,1,none⟩=some (.int .i64 tn)/\w'.cell? ⟨W.heap.size+1,2,none⟩=some (.string ts)/\w'.cell? ⟨W.heap.size+1,3,none⟩=some (.slice B ks.length tc))) w2/\(fun _:World=>True) w2:=⟨mK.out _ (Chg.of_below b2),trivial⟩
 refine hK.out _ _ aX ?_;clear hK K hSS;(try simp only[zQ]);refine zo 8 fun K hK=>?_;refine zlr (by rfl) (.tmp 14) [.tmp 15,.tmp 17,.tmp 21] _ (by rfl) f fn hfn cap (by rfl) _ (by rfl) _ (zmL (bJ.out.call N pw E0 q Aq cq ts S w2 (bJ.out.keep Wb w2 pw N HI0.out.rd HI0.out.fs (Chg.of_below b2)) (HI0.out.fs.later b2) ((HQR.out.later jI.out).later b2) (by omega) (by omega))) ?_;rintro vq W3 hp3;obtain⟨pv3,hi3⟩:=HI0.out.step bJ.out b2 hp3
 have fq:(fun w':World=>(w'.cell? ⟨W.heap.size,0,none⟩=some (.slice A1 L1 c1)/\w'.cell? ⟨W.heap.size,1,none⟩=some (.slice A2 L2 c2)/\w'.cell? ⟨W.heap.size,2,none⟩=some (.int .u8 k)/\w'.cell? ⟨W.heap.size,3,none⟩=some (.int .i64 n)/\w'.cell? ⟨W.heap.size,4,none⟩=some (.string s)/\w'.cell? ⟨W.heap.size,5,none⟩=some (.slice A3 l3 c3))/\(w'.cell? ⟨W.heap.size+1,0,none⟩=some (.int .u8 tk)/\w'.cell? ⟨W.heap.size+1,1,none⟩=some (.int .i64 tn)/\w'.cell? ⟨W.heap.size+1,2,none⟩=some (.string ts)/\w'.cell? ⟨W.heap.size+1,3,none⟩=some (.slice B ks.length tc))) W3/\(fun _:World=>True) W3:=⟨mK.out _ hi3.chg,trivial⟩
 refine hK.out _ _ fq ?_;clear hK K aX;(try simp only[zQ]);refine zd ?_;refine NoPanic.normal ?_;obtain⟨⟨a0,a1,a2,a3,a4,a5⟩,b0,b1,b2',b3⟩:=fq.1;have HI3:=zh hi3;clear fq hi3 hp3 b2 aB hdr HI0;have HD:=zh (show ∀ w':World,Chg (fun b=>b=fb\/pw.ownBlock=some b) Wb w'->PV w' (fun b=>S b/\b<W.heap.size) p _/\NV w' (fun b=>S b/\b<W.heap.size) (.nd tk tn ts ks) _/\RowV w' (fun b=>S b/\b<W.heap.size) A vs/\RowI w' (fun b=>S b/\b<W.heap.size) Aq q/\zl3 w' (fun b=>S b/\b<W.heap.size) B ks from fun w' h=>⟨qz.out.keep (fun b hb hlt=>⟨hb,hlt⟩) (pE.out w' h),eQ.out.keep (fun b hb hlt=>⟨hb,hlt⟩) (pE.out w' h),ah.out.keep (fun b hb hlt=>⟨hb,hlt⟩) (pE.out w' h),HQR.out.keep (fun b hb hlt=>⟨hb,hlt⟩) (pE.out w' h),HRK.out.keep (fun b hb hlt=>⟨hb,hlt⟩) (pE.out w' h)⟩);by_cases hcall:tk=50\/tk=51
 ·rcases hcall with rfl|rfl
  ·go_wp2_with fail
   go_loopw [34] (fun i wr=>∃ (j:Nat) (pv':Value),j<=ks.length/\i=.int .i64 j/\VsI Rd n0 fb Wb pw (N+one1 E0+cntA p.prs ts ks.length 0 (ks.take j) vs) wr pv') (fun i _=>ks.length-(intOf i).toNat)
   case atStart=>exact⟨0,_,Nat.zero_le _,rfl,by simpa[cntA] using HI3.out⟩
   case round =>
    obtain⟨j,pv',hj,rfl,hinv⟩:=hrel;have ak:=zh hinv;clear HI3;by_cases hlt:j<ks.length
    ·obtain⟨-,-,-,-,iD⟩:=HD.out wr hinv.chg;obtain⟨a,u,A4,c4,rfl,hsa,Hu,⟨q0,q1,q2,q3⟩,hnu⟩:=iD.nd hlt;have wX:=zh hnu;clear hinv iD hnu hsa;go_upto_region 6 with fail;have hbk:Below wr.heap.size wr (wr.alloc (.cells #[.int .u8 u.k,.int .i64 u.n,.string u.s,.slice A4 u.ks.length c4] 26)):=zkc (Below.refl _ _) _;have gz:=heap_alloc_new wr (.cells #[.int .u8 u.k,.int .i64 u.n,.string u.s,.slice A4 u.ks.length c4] 26);obtain⟨wk,hwk⟩:∃ wk,wr.alloc (.cells #[.int .u8 u.k,.int .i64 u.n,.string u.s,.slice A4 u.ks.length c4] 26)=wk:=⟨_,rfl⟩
     rw[hwk] at hbk gz ⊢;have gZ:=zh (show wk.heap.size=wr.heap.size+1 by rw[<-hwk];simp);have az:=zh hbk;have iZ:=zh gz;clear hwk hbk gz
     have cB:=zh (show ∀ w':World,Below wk.heap.size wk w'->(fun w':World=>((w'.cell? ⟨W.heap.size,0,none⟩=some (.slice A1 L1 c1)/\w'.cell? ⟨W.heap.size,1,none⟩=some (.slice A2 L2 c2)/\w'.cell? ⟨W.heap.size,2,none⟩=some (.int .u8 k)/\w'.cell? ⟨W.heap.size,3,none⟩=some (.int .i64 n)/\w'.cell? ⟨W.heap.size,4,none⟩=some (.string s)/\w'.cell? ⟨W.heap.size,5,none⟩=some (.slice A3 l3 c3))/\(w'.cell? ⟨W.heap.size+1,0,none⟩=some (.int .u8 50)/\w'.cell? ⟨W.heap.size+1,1,none⟩=some (.int .i64 tn)/\w'.cell? ⟨W.heap.size+1,2,none⟩=some (.string ts)/\w'.cell? ⟨W.heap.size+1,3,none⟩=some (.slice (some a) ks.length tc)))/\(w'.cell? ⟨wr.heap.size,0,none⟩=some (.int .u8 u.k)/\w'.cell? ⟨wr.heap.size,1,none⟩=some (.int .i64 u.n)/\w'.cell? ⟨wr.heap.size,2,none⟩=some (.string u.s)/\w'.cell? ⟨wr.heap.size,3,none⟩=some (.slice A4 u.ks.length c4))) w'/\(fun _:World=>True) w' from fun w' h=>⟨⟨mK.out w' (ak.out.chg.trans (Chg.of_below (zka az.out h))),box4 ((h.block _ (by have:=gZ.out;omega)).trans iZ.out)⟩,trivial⟩)
     have hdr:=(Below.refl wk.heap.size wk).drew;have hSS:=cB.out _ hdr;refine wp_region_noPanic ?_
     refine zkd (fun w':World=>((w'.cell? ⟨W.heap.size,0,none⟩=some (.slice A1 L1 c1)/\w'.cell? ⟨W.heap.size,1,none⟩=some (.slice A2 L2 c2)/\w'.cell? ⟨W.heap.size,2,none⟩=some (.int .u8 k)/\w'.cell? ⟨W.heap.size,3,none⟩=some (.int .i64 n)/\w'.cell? ⟨W.heap.size,4,none⟩=some (.string s)/\w'.cell? ⟨W.heap.size,5,none⟩=some (.slice A3 l3 c3))/\(w'.cell? ⟨W.heap.size+1,0,none⟩=some (.int .u8 50)/\w'.cell? ⟨W.heap.size+1,1,none⟩=some (.int .i64 tn)/\w'.cell? ⟨W.heap.size+1,2,none⟩=some (.string ts)/\w'.cell? ⟨W.heap.size+1,3,none⟩=some (.slice (some a) ks.length tc)))/\(w'.cell? ⟨wr.heap.size,0,none⟩=some (.int .u8 u.k)/\w'.cell? ⟨wr.heap.size,1,none⟩=some (.int .i64 u.n)/\w'.cell? ⟨wr.heap.size,2,none⟩=some (.string u.s)/\w'.cell? ⟨wr.heap.size,3,none⟩=some (.slice A4 u.ks.length c4))) (fun _:World=>True) 40 (by kernel_rfl) ?_;refine zT 0 hSS ?_;(try simp only[zQ]);refine zT 1 hSS ?_
     (try simp only[zQ]);refine zT 2 hSS ?_;(try simp only[zQ]);refine zT 4 hSS ?_;(try simp only[zQ]);refine zT 5 hSS ?_;(try simp only[zQ]);refine zT 6 hSS ?_;(try simp only[zQ]);refine zT 7 hSS ?_;(try simp only[zQ]);refine zT 8 hSS ?_;(try simp only[zQ]);refine zT 9 hSS ?_;(try simp only[zQ]);refine zo 3 fun K hK=>?_;refine zkj (by rfl) (.func 62) [.tmp 40,.tmp 41] _ (by rfl) 62 _ zqF (by rfl) _ (by rfl) _ (znW (zov q Aq cq (j:Int) ⟨by omega,by omega⟩ _ _ (HD.out _ (ak.out.chg.trans (Chg.of_below (zka az.out hdr)))).2.2.2.1 AL.out (by omega))) ?_;rintro vq w2 ⟨Ac,cc,rfl,hrc,hcc,aB⟩;have b2:=zka hdr aB;have aX:=cB.out _ b2;refine hK.out _ _ aX ?_;clear hK K hSS;(try simp only[zQ]);refine zo 10 fun K hK=>?_
     refine zkj (by rfl) (.func 63) [.tmp 45,.tmp 46,.tmp 47,.tmp 48] _ (by rfl) 63 _ zoU (by rfl) _ (by rfl) _ (znO (znR p (.nd 50 tn ts ks) j hlt vs A c _ _ _ _ _ _ (HD.out _ (ak.out.chg.trans (Chg.of_below (zka az.out b2)))).1 (HD.out _ (ak.out.chg.trans (Chg.of_below (zka az.out b2)))).2.1 (HD.out _ (ak.out.chg.trans (Chg.of_below (zka az.out b2)))).2.2.1 uF.out)) ?_;rintro vq w3 ⟨rfl,dH⟩;simp only[T.k_nd,T.s_nd,T.ks_nd];have b3:=zka b2 dH;have fq:=cB.out _ b3;refine hK.out _ _ fq ?_;clear hK K aX;(try simp only[zQ]);refine zo 11 fun K hK=>?_;have hcl:cntA p.prs ts ks.length 0 (ks.take j) vs<=zld ks:=Nat.le_trans (zpu _ _ _ _ _ _) (zl1 _ _);have hF:=ak.out.fs.later (zka az.out b3);have hR:=bJ.out.keep _ _ _ _ ak.out.rd ak.out.fs (Chg.of_below (zka az.out b3))
     refine zlr (by rfl) (.tmp 39) [.tmp 42,.tmp 44,.tmp 49] _ (by rfl) f fn hfn cap (by rfl) _ (by rfl) _ (zmL (bJ.out.call _ pv' _ (q++[(j:Int)]) Ac cc u.s _ w3 hR hF (hrc.later dH) (by simp;omega) (by omega))) ?_;rintro vq W6 hp;obtain⟨jN,dh⟩:=ak.out.step bJ.out (zka az.out b3) hp;have cK:VsI Rd n0 fb Wb pw (N+one1 E0+cntA p.prs ts ks.length 0 (ks.take (j+1)) vs) W6 jN:=by rw[zp5 p.prs ts ks.length vs hlt];simpa[Nat.add_assoc] using dh
     have aD:(fun w':World=>((w'.cell? ⟨W.heap.size,0,none⟩=some (.slice A1 L1 c1)/\w'.cell? ⟨W.heap.size,1,none⟩=some (.slice A2 L2 c2)/\w'.cell? ⟨W.heap.size,2,none⟩=some (.int .u8 k)/\w'.cell? ⟨W.heap.size,3,none⟩=some (.int .i64 n)/\w'.cell? ⟨W.heap.size,4,none⟩=some (.string s)/\w'.cell? ⟨W.heap.size,5,none⟩=some (.slice A3 l3 c3))/\(w'.cell? ⟨W.heap.size+1,0,none⟩=some (.int .u8 50)/\w'.cell? ⟨W.heap.size+1,1,none⟩=some (.int .i64 tn)/\w'.cell? ⟨W.heap.size+1,2,none⟩=some (.string ts)/\w'.cell? ⟨W.heap.size+1,3,none⟩=some (.slice (some a) ks.length tc)))/\(w'.cell? ⟨wr.heap.size,0,none⟩=some (.int .u8 u.k)/\w'.cell? ⟨wr.heap.size,1,none⟩=some (.int .i64 u.n)/\w'.cell? ⟨wr.heap.size,2,none⟩=some (.string u.s)/\w'.cell? ⟨wr.heap.size,3,none⟩=some (.slice A4 u.ks.length c4))) W6/\(fun _:World=>True) W6:=⟨⟨mK.out _ cK.chg,box4 ((hp.2.elim fun _ h=>h.2.2.block _ (by have:=(zka az.out b3).size;have:=b3.size;have:=gZ.out;omega) (fun hh=>by have hl:=ak.out.fs.lt;rcases hh with hh|hh;(have:=hl.1;omega);(have:=(hl.2 _ hh).2;omega))).trans ((b3.block _ (by have:=gZ.out;omega)).trans iZ.out))⟩,trivial⟩
     refine hK.out _ _ aD ?_;clear hK K fq;(try simp only[zQ]);refine zd ?_;refine NoPanic.normal ?_;have lT:=zh cK;clear cK dh hp aD hF hR;go_wp2_with fail
     go_roundw
     case rel=>exact⟨j+1,_,by omega,by go_num,lT.out⟩
     case measure=>simp[intOf];omega
    ·obtain rfl:j=ks.length:=by omega
     clear hinv;go_wp2_with fail;(try simp only[Exit.inBlock,Exit.then]);refine bodyPost_ret (results_none rfl _ _ _) rfl ?_;have hinv:=ak.out;rw[List.take_of_length_le (Nat.le_refl _)] at hinv;have hcc:=bN.out;rw[cntV,qI.out,if_pos (by decide)] at hcc;rw[<-hcc,<-Nat.add_assoc];exact hinv.rep jI.out ⟨_,rfl⟩
  ·go_wp2_with fail
   go_loopw [34] (fun i wr=>∃ (j:Nat) (pv':Value),j<=ks.length/\i=.int .i64 j/\VsI Rd n0 fb Wb pw (N+one1 E0+cntA p.prs ts ks.length 0 (ks.take j) vs) wr pv') (fun i _=>ks.length-(intOf i).toNat)
   case atStart=>exact⟨0,_,Nat.zero_le _,rfl,by simpa[cntA] using HI3.out⟩
   case round =>
    obtain⟨j,pv',hj,rfl,hinv⟩:=hrel;have ak:=zh hinv;clear HI3;by_cases hlt:j<ks.length
    ·obtain⟨-,-,-,-,iD⟩:=HD.out wr hinv.chg;obtain⟨a,u,A4,c4,rfl,hsa,Hu,⟨q0,q1,q2,q3⟩,hnu⟩:=iD.nd hlt;have wX:=zh hnu;clear hinv iD hnu hsa;go_upto_region 6 with fail;have hbk:Below wr.heap.size wr (wr.alloc (.cells #[.int .u8 u.k,.int .i64 u.n,.string u.s,.slice A4 u.ks.length c4] 26)):=zkc (Below.refl _ _) _;have gz:=heap_alloc_new wr (.cells #[.int .u8 u.k,.int .i64 u.n,.string u.s,.slice A4 u.ks.length c4] 26);obtain⟨wk,hwk⟩:∃ wk,wr.alloc (.cells #[.int .u8 u.k,.int .i64 u.n,.string u.s,.slice A4 u.ks.length c4] 26)=wk:=⟨_,rfl⟩
     rw[hwk] at hbk gz ⊢;have gZ:=zh (show wk.heap.size=wr.heap.size+1 by rw[<-hwk];simp);have az:=zh hbk;have iZ:=zh gz;clear hwk hbk gz
     have cB:=zh (show ∀ w':World,Below wk.heap.size wk w'->(fun w':World=>((w'.cell? ⟨W.heap.size,0,none⟩=some (.slice A1 L1 c1)/\w'.cell? ⟨W.heap.size,1,none⟩=some (.slice A2 L2 c2)/\w'.cell? ⟨W.heap.size,2,none⟩=some (.int .u8 k)/\w'.cell? ⟨W.heap.size,3,none⟩=some (.int .i64 n)/\w'.cell? ⟨W.heap.size,4,none⟩=some (.string s)/\w'.cell? ⟨W.heap.size,5,none⟩=some (.slice A3 l3 c3))/\(w'.cell? ⟨W.heap.size+1,0,none⟩=some (.int .u8 51)/\w'.cell? ⟨W.heap.size+1,1,none⟩=some (.int .i64 tn)/\w'.cell? ⟨W.heap.size+1,2,none⟩=some (.string ts)/\w'.cell? ⟨W.heap.size+1,3,none⟩=some (.slice (some a) ks.length tc)))/\(w'.cell? ⟨wr.heap.size,0,none⟩=some (.int .u8 u.k)/\w'.cell? ⟨wr.heap.size,1,none⟩=some (.int .i64 u.n)/\w'.cell? ⟨wr.heap.size,2,none⟩=some (.string u.s)/\w'.cell? ⟨wr.heap.size,3,none⟩=some (.slice A4 u.ks.length c4))) w'/\(fun _:World=>True) w' from fun w' h=>⟨⟨mK.out w' (ak.out.chg.trans (Chg.of_below (zka az.out h))),box4 ((h.block _ (by have:=gZ.out;omega)).trans iZ.out)⟩,trivial⟩)
     have hdr:=(Below.refl wk.heap.size wk).drew;have hSS:=cB.out _ hdr;refine wp_region_noPanic ?_
     refine zkd (fun w':World=>((w'.cell? ⟨W.heap.size,0,none⟩=some (.slice A1 L1 c1)/\w'.cell? ⟨W.heap.size,1,none⟩=some (.slice A2 L2 c2)/\w'.cell? ⟨W.heap.size,2,none⟩=some (.int .u8 k)/\w'.cell? ⟨W.heap.size,3,none⟩=some (.int .i64 n)/\w'.cell? ⟨W.heap.size,4,none⟩=some (.string s)/\w'.cell? ⟨W.heap.size,5,none⟩=some (.slice A3 l3 c3))/\(w'.cell? ⟨W.heap.size+1,0,none⟩=some (.int .u8 51)/\w'.cell? ⟨W.heap.size+1,1,none⟩=some (.int .i64 tn)/\w'.cell? ⟨W.heap.size+1,2,none⟩=some (.string ts)/\w'.cell? ⟨W.heap.size+1,3,none⟩=some (.slice (some a) ks.length tc)))/\(w'.cell? ⟨wr.heap.size,0,none⟩=some (.int .u8 u.k)/\w'.cell? ⟨wr.heap.size,1,none⟩=some (.int .i64 u.n)/\w'.cell? ⟨wr.heap.size,2,none⟩=some (.string u.s)/\w'.cell? ⟨wr.heap.size,3,none⟩=some (.slice A4 u.ks.length c4))) (fun _:World=>True) 40 (by kernel_rfl) ?_;refine zT 0 hSS ?_;(try simp only[zQ]);refine zT 1 hSS ?_
     (try simp only[zQ]);refine zT 2 hSS ?_;(try simp only[zQ]);refine zT 4 hSS ?_;(try simp only[zQ]);refine zT 5 hSS ?_;(try simp only[zQ]);refine zT 6 hSS ?_;(try simp only[zQ]);refine zT 7 hSS ?_;(try simp only[zQ]);refine zT 8 hSS ?_;(try simp only[zQ]);refine zT 9 hSS ?_;(try simp only[zQ]);refine zo 3 fun K hK=>?_;refine zkj (by rfl) (.func 62) [.tmp 40,.tmp 41] _ (by rfl) 62 _ zqF (by rfl) _ (by rfl) _ (znW (zov q Aq cq (j:Int) ⟨by omega,by omega⟩ _ _ (HD.out _ (ak.out.chg.trans (Chg.of_below (zka az.out hdr)))).2.2.2.1 AL.out (by omega))) ?_;rintro vq w2 ⟨Ac,cc,rfl,hrc,hcc,aB⟩;have b2:=zka hdr aB;have aX:=cB.out _ b2;refine hK.out _ _ aX ?_;clear hK K hSS;(try simp only[zQ]);refine zo 10 fun K hK=>?_
     refine zkj (by rfl) (.func 63) [.tmp 45,.tmp 46,.tmp 47,.tmp 48] _ (by rfl) 63 _ zoU (by rfl) _ (by rfl) _ (znO (znR p (.nd 51 tn ts ks) j hlt vs A c _ _ _ _ _ _ (HD.out _ (ak.out.chg.trans (Chg.of_below (zka az.out b2)))).1 (HD.out _ (ak.out.chg.trans (Chg.of_below (zka az.out b2)))).2.1 (HD.out _ (ak.out.chg.trans (Chg.of_below (zka az.out b2)))).2.2.1 uF.out)) ?_;rintro vq w3 ⟨rfl,dH⟩;simp only[T.k_nd,T.s_nd,T.ks_nd];have b3:=zka b2 dH;have fq:=cB.out _ b3;refine hK.out _ _ fq ?_;clear hK K aX;(try simp only[zQ]);refine zo 11 fun K hK=>?_;have hcl:cntA p.prs ts ks.length 0 (ks.take j) vs<=zld ks:=Nat.le_trans (zpu _ _ _ _ _ _) (zl1 _ _);have hF:=ak.out.fs.later (zka az.out b3);have hR:=bJ.out.keep _ _ _ _ ak.out.rd ak.out.fs (Chg.of_below (zka az.out b3))
     refine zlr (by rfl) (.tmp 39) [.tmp 42,.tmp 44,.tmp 49] _ (by rfl) f fn hfn cap (by rfl) _ (by rfl) _ (zmL (bJ.out.call _ pv' _ (q++[(j:Int)]) Ac cc u.s _ w3 hR hF (hrc.later dH) (by simp;omega) (by omega))) ?_;rintro vq W6 hp;obtain⟨jN,dh⟩:=ak.out.step bJ.out (zka az.out b3) hp;have cK:VsI Rd n0 fb Wb pw (N+one1 E0+cntA p.prs ts ks.length 0 (ks.take (j+1)) vs) W6 jN:=by rw[zp5 p.prs ts ks.length vs hlt];simpa[Nat.add_assoc] using dh
     have aD:(fun w':World=>((w'.cell? ⟨W.heap.size,0,none⟩=some (.slice A1 L1 c1)/\w'.cell? ⟨W.heap.size,1,none⟩=some (.slice A2 L2 c2)/\w'.cell? ⟨W.heap.size,2,none⟩=some (.int .u8 k)/\w'.cell? ⟨W.heap.size,3,none⟩=some (.int .i64 n)/\w'.cell? ⟨W.heap.size,4,none⟩=some (.string s)/\w'.cell? ⟨W.heap.size,5,none⟩=some (.slice A3 l3 c3))/\(w'.cell? ⟨W.heap.size+1,0,none⟩=some (.int .u8 51)/\w'.cell? ⟨W.heap.size+1,1,none⟩=some (.int .i64 tn)/\w'.cell? ⟨W.heap.size+1,2,none⟩=some (.string ts)/\w'.cell? ⟨W.heap.size+1,3,none⟩=some (.slice (some a) ks.length tc)))/\(w'.cell? ⟨wr.heap.size,0,none⟩=some (.int .u8 u.k)/\w'.cell? ⟨wr.heap.size,1,none⟩=some (.int .i64 u.n)/\w'.cell? ⟨wr.heap.size,2,none⟩=some (.string u.s)/\w'.cell? ⟨wr.heap.size,3,none⟩=some (.slice A4 u.ks.length c4))) W6/\(fun _:World=>True) W6:=⟨⟨mK.out _ cK.chg,box4 ((hp.2.elim fun _ h=>h.2.2.block _ (by have:=(zka az.out b3).size;have:=b3.size;have:=gZ.out;omega) (fun hh=>by have hl:=ak.out.fs.lt;rcases hh with hh|hh;(have:=hl.1;omega);(have:=(hl.2 _ hh).2;omega))).trans ((b3.block _ (by have:=gZ.out;omega)).trans iZ.out))⟩,trivial⟩
     refine hK.out _ _ aD ?_;clear hK K fq;(try simp only[zQ]);refine zd ?_;refine NoPanic.normal ?_;have lT:=zh cK;clear cK dh hp aD hF hR;go_wp2_with fail
     go_roundw
     case rel=>exact⟨j+1,_,by omega,by go_num,lT.out⟩
     case measure=>simp[intOf];omega
    ·obtain rfl:j=ks.length:=by omega
     clear hinv;go_wp2_with fail;(try simp only[Exit.inBlock,Exit.then]);refine bodyPost_ret (results_none rfl _ _ _) rfl ?_;have hinv:=ak.out;rw[List.take_of_length_le (Nat.le_refl _)] at hinv;have hcc:=bN.out;rw[cntV,qI.out,if_pos (by decide)] at hcc;rw[<-hcc,<-Nat.add_assoc];exact hinv.rep jI.out ⟨_,rfl⟩
 ·obtain⟨h50,mo⟩:=not_or.1 hcall;have hd50:(tk==50)=false:=beq_false_of_ne h50;have hd51:(tk==51)=false:=beq_false_of_ne mo;go_wp2_with fail
  go_loopw [55] (fun i wr=>∃ (j:Nat) (pv':Value),j<=ks.length/\i=.int .i64 j/\VsI Rd n0 fb Wb pw (N+one1 E0+cntK p.prs tk ts 0 (ks.take j) vs) wr pv') (fun i _=>ks.length-(intOf i).toNat)
  case atStart=>exact⟨0,_,Nat.zero_le _,rfl,by simpa[cntK] using HI3.out⟩
  case round =>
   obtain⟨j,pv',hj,rfl,hinv⟩:=hrel;have ak:=zh hinv;clear HI3;by_cases hlt:j<ks.length
   ·obtain⟨-,-,-,-,iD⟩:=HD.out wr hinv.chg;obtain⟨a,u,A4,c4,rfl,hsa,Hu,⟨q0,q1,q2,q3⟩,hnu⟩:=iD.nd hlt;have wX:=zh hnu;clear hinv iD hnu hsa;go_upto_region 11 with fail;have hbk:Below wr.heap.size wr (wr.alloc (.cells #[.int .u8 u.k,.int .i64 u.n,.string u.s,.slice A4 u.ks.length c4] 26)):=zkc (Below.refl _ _) _;have gz:=heap_alloc_new wr (.cells #[.int .u8 u.k,.int .i64 u.n,.string u.s,.slice A4 u.ks.length c4] 26);obtain⟨wk,hwk⟩:∃ wk,wr.alloc (.cells #[.int .u8 u.k,.int .i64 u.n,.string u.s,.slice A4 u.ks.length c4] 26)=wk:=⟨_,rfl⟩
    rw[hwk] at hbk gz ⊢;have gZ:=zh (show wk.heap.size=wr.heap.size+1 by rw[<-hwk];simp);have az:=zh hbk;have iZ:=zh gz;clear hwk hbk gz
    have cB:=zh (show ∀ w':World,Below wk.heap.size wk w'->(fun w':World=>((w'.cell? ⟨W.heap.size,0,none⟩=some (.slice A1 L1 c1)/\w'.cell? ⟨W.heap.size,1,none⟩=some (.slice A2 L2 c2)/\w'.cell? ⟨W.heap.size,2,none⟩=some (.int .u8 k)/\w'.cell? ⟨W.heap.size,3,none⟩=some (.int .i64 n)/\w'.cell? ⟨W.heap.size,4,none⟩=some (.string s)/\w'.cell? ⟨W.heap.size,5,none⟩=some (.slice A3 l3 c3))/\(w'.cell? ⟨W.heap.size+1,0,none⟩=some (.int .u8 tk)/\w'.cell? ⟨W.heap.size+1,1,none⟩=some (.int .i64 tn)/\w'.cell? ⟨W.heap.size+1,2,none⟩=some (.string ts)/\w'.cell? ⟨W.heap.size+1,3,none⟩=some (.slice (some a) ks.length tc)))/\(w'.cell? ⟨wr.heap.size,0,none⟩=some (.int .u8 u.k)/\w'.cell? ⟨wr.heap.size,1,none⟩=some (.int .i64 u.n)/\w'.cell? ⟨wr.heap.size,2,none⟩=some (.string u.s)/\w'.cell? ⟨wr.heap.size,3,none⟩=some (.slice A4 u.ks.length c4))) w'/\(fun _:World=>True) w' from fun w' h=>⟨⟨mK.out w' (ak.out.chg.trans (Chg.of_below (zka az.out h))),box4 ((h.block _ (by have:=gZ.out;omega)).trans iZ.out)⟩,trivial⟩)
    have hdr:=(Below.refl wk.heap.size wk).drew;have hSS:=cB.out _ hdr;refine wp_region_noPanic ?_
    refine zkd (fun w':World=>((w'.cell? ⟨W.heap.size,0,none⟩=some (.slice A1 L1 c1)/\w'.cell? ⟨W.heap.size,1,none⟩=some (.slice A2 L2 c2)/\w'.cell? ⟨W.heap.size,2,none⟩=some (.int .u8 k)/\w'.cell? ⟨W.heap.size,3,none⟩=some (.int .i64 n)/\w'.cell? ⟨W.heap.size,4,none⟩=some (.string s)/\w'.cell? ⟨W.heap.size,5,none⟩=some (.slice A3 l3 c3))/\(w'.cell? ⟨W.heap.size+1,0,none⟩=some (.int .u8 tk)/\w'.cell? ⟨W.heap.size+1,1,none⟩=some (.int .i64 tn)/\w'.cell? ⟨W.heap.size+1,2,none⟩=some (.string ts)/\w'.cell? ⟨W.heap.size+1,3,none⟩=some (.slice (some a) ks.length tc)))/\(w'.cell? ⟨wr.heap.size,0,none⟩=some (.int .u8 u.k)/\w'.cell? ⟨wr.heap.size,1,none⟩=some (.int .i64 u.n)/\w'.cell? ⟨wr.heap.size,2,none⟩=some (.string u.s)/\w'.cell? ⟨wr.heap.size,3,none⟩=some (.slice A4 u.ks.length c4))) (fun _:World=>True) 40 (by kernel_rfl) ?_;refine zT 0 hSS ?_;(try simp only[zQ]);refine zT 1 hSS ?_
    (try simp only[zQ]);refine zT 2 hSS ?_;(try simp only[zQ]);refine zT 3 hSS ?_;(try simp only[zQ]);refine zT 5 hSS ?_;(try simp only[zQ]);refine zT 6 hSS ?_;(try simp only[zQ]);refine zT 7 hSS ?_;(try simp only[zQ]);refine zT 9 hSS ?_;(try simp only[zQ]);refine zo 4 fun K hK=>?_;refine zkj (by rfl) (.func 62) [.tmp 62,.tmp 63] _ (by rfl) 62 _ zqF (by rfl) _ (by rfl) _ (znW (zov q Aq cq (j:Int) ⟨by omega,by omega⟩ _ _ (HD.out _ (ak.out.chg.trans (Chg.of_below (zka az.out hdr)))).2.2.2.1 AL.out (by omega))) ?_;rintro vq w2 ⟨Ac,cc,rfl,hrc,hcc,aB⟩;have b2:=zka hdr aB;have aX:=cB.out _ b2;refine hK.out _ _ aX ?_;clear hK K hSS;(try simp only[zQ]);refine zo 8 fun K hK=>?_
    refine zkj (by rfl) (.func 64) [.tmp 65,.tmp 66,.tmp 67] _ (by rfl) 64 _ zwp (by rfl) _ (by rfl) _ (zsg (zsM (.nd tk tn ts ks) j (by omega) vs A c _ _ _ _ (HD.out _ (ak.out.chg.trans (Chg.of_below (zka az.out b2)))).2.1 (HD.out _ (ak.out.chg.trans (Chg.of_below (zka az.out b2)))).2.2.1 ow.out (by omega))) ?_;simp only[T.k_nd,T.s_nd,T.ks_nd];rintro vq w3 ⟨Av,cv,rfl,iC,hcv,dH⟩;have b3:=zka b2 dH;have fq:=cB.out _ b3;refine hK.out _ _ fq ?_;clear hK K aX;(try simp only[zQ]);refine zo 10 fun K hK=>?_;have hcl:cntK p.prs tk ts 0 (ks.take j) vs<=zld (ks.take j):=zqI _ _ _ _ (fun t _ vs=>ztf _ t vs) _ _;have hsz:=zl1 ks (j+1);rw[zrI ks j hlt,Hu.out] at hsz;have hmem:u∈ks:=by rw[<-Hu.out];exact List.getElem_mem hlt
    have hdu:=zvQ hmem;have hil:=zrS tk ts j vs;have hzb:=ak.out.chg.size;have hz0:=qy.out;have hzk:=gZ.out;have hfl:=ak.out.fs.lt;have hF:=ak.out.fs.later (zka az.out b3);have hR:=bJ.out.keep _ _ _ _ ak.out.rd ak.out.fs (Chg.of_below (zka az.out b3));have hzz:=hdr.size;have xy:=aB.size;have hzw2:=b2.size
    refine zkj (by rfl) (.func 38) [.tmp 60,.tmp 61,.tmp 64,.tmp 68,.tmp 69] _ (by rfl) 38 _ zwl (by rfl) _ (by rfl) _ (zmL (iM.out u hmem (fun b=>(S b/\b<W.heap.size)\/wk.heap.size<=b) (zly tk ts j vs) Av cv (q++[(j:Int)]) Ac cc (N+one1 E0+cntK p.prs tk ts 0 (ks.take j) vs) pv' w3 _ _ hR hF ((HD.out _ (ak.out.chg.trans (Chg.of_below (zka az.out b3)))).1.keep (fun b hb _=>.inl hb) (fun _ _ _=>rfl)) ((wX.out.later (zka az.out b3)).keep (fun b hb _=>.inl hb) (fun _ _ _=>rfl)) (iC.mono fun b hb=>by rcases hb with hb|hb;exact .inl hb;exact .inr (by omega)) hcv ((hrc.later dH).mono fun b hb=>.inr (by have:_<=b:=hb;omega)) hcc (fun b hb hlt' hh=>?_) (by simp;omega) (by omega) (by omega))) ?_
    ·rcases hb with⟨hb,hbl⟩|hb
     ·refine HFAR.out b hb hbl (hh.imp id fun h=>?_);rcases ak.out.own b h with h1|h1
      ·exact h1
      ·omega
     ·rcases hh with rfl|hh
      ·omega
      ·have:=hfl.2 b hh;omega
    rintro vq W6 hp;obtain⟨jN,dh⟩:=ak.out.step bJ.out (zka az.out b3) hp;have cK:VsI Rd n0 fb Wb pw (N+one1 E0+cntK p.prs tk ts 0 (ks.take (j+1)) vs) W6 jN:=by rw[ztg p.prs tk ts vs hlt,Hu.out];simpa[Nat.add_assoc] using dh
    have aD:(fun w':World=>((w'.cell? ⟨W.heap.size,0,none⟩=some (.slice A1 L1 c1)/\w'.cell? ⟨W.heap.size,1,none⟩=some (.slice A2 L2 c2)/\w'.cell? ⟨W.heap.size,2,none⟩=some (.int .u8 k)/\w'.cell? ⟨W.heap.size,3,none⟩=some (.int .i64 n)/\w'.cell? ⟨W.heap.size,4,none⟩=some (.string s)/\w'.cell? ⟨W.heap.size,5,none⟩=some (.slice A3 l3 c3))/\(w'.cell? ⟨W.heap.size+1,0,none⟩=some (.int .u8 tk)/\w'.cell? ⟨W.heap.size+1,1,none⟩=some (.int .i64 tn)/\w'.cell? ⟨W.heap.size+1,2,none⟩=some (.string ts)/\w'.cell? ⟨W.heap.size+1,3,none⟩=some (.slice (some a) ks.length tc)))/\(w'.cell? ⟨wr.heap.size,0,none⟩=some (.int .u8 u.k)/\w'.cell? ⟨wr.heap.size,1,none⟩=some (.int .i64 u.n)/\w'.cell? ⟨wr.heap.size,2,none⟩=some (.string u.s)/\w'.cell? ⟨wr.heap.size,3,none⟩=some (.slice A4 u.ks.length c4))) W6/\(fun _:World=>True) W6:=⟨⟨mK.out _ cK.chg,box4 ((hp.2.elim fun _ h=>h.2.2.block _ (by have:=(zka az.out b3).size;have:=b3.size;have:=gZ.out;omega) (fun hh=>by have hl:=ak.out.fs.lt;rcases hh with hh|hh;(have:=hl.1;omega);(have:=(hl.2 _ hh).2;omega))).trans ((b3.block _ (by have:=gZ.out;omega)).trans iZ.out))⟩,trivial⟩
    refine hK.out _ _ aD ?_;clear hK K fq;(try simp only[zQ]);refine zd ?_;refine NoPanic.normal ?_;have lT:=zh cK;clear cK dh hp aD hF hR;go_wp2_with fail
    go_roundw
    case rel=>exact⟨j+1,_,by omega,by go_num,lT.out⟩
    case measure=>simp[intOf];omega
   ·obtain rfl:j=ks.length:=by omega
    clear hinv;go_wp2_with fail;go_end0;have hinv:=ak.out;rw[List.take_of_length_le (Nat.le_refl _)] at hinv;have hcc:=bN.out;rw[cntV,qI.out,if_neg hcall] at hcc;rw[<-hcc,<-Nat.add_assoc];exact hinv.rep jI.out ⟨_,rfl⟩
theorem zwj (k n:Int) (s:ByteArray) (ks:List T):isB (.nd k n s ks)=true↔k=57/\zkt n s=true/\∀ t∈ks,isS t=true:=by
 rw[isB];simp only[Bool.and_eq_true,decide_eq_true_eq,and_assoc];refine and_congr Iff.rfl (and_congr Iff.rfl ?_);rw[zpn 0,zkP]
 constructor
 ·intro h t ht;obtain⟨q,hq,rfl⟩:=List.getElem_of_mem ht;exact h q hq
 ·intro h q hq;exact h _ (List.getElem_mem hq)
theorem zwi {t:T} (h:isB t=true):t.k=57:=by cases t;exact((zwj _ _ _ _).1 h).1
theorem zl9 {x:T}:∀ {l:List T},x∈pos l↔∃ t∈l,x∈po t
 | []=>by simp[pos]
 | t::ts=>by simp[pos,zl9 (l:=ts)]
theorem zsD:∀ (ks:List T),(∀ t∈ks,∀ d l,lim t d l=if dep t<=d/\size t<=l then some (l-size t) else none)->∀ d l,lims ks d l=if deps ks<=d/\zld ks<=l then some (l-zld ks) else none
 | [],_,d,l=>by simp[lims,deps,zld]
 | t::ts,h,d,l=>by
  have e1:deps (t::ts)=max (dep t) (deps ts):=by rw[deps]
  have e2:zld (t::ts)=size t+zld ts:=by rw[zld]
  rw[lims,h t (by simp) d l];by_cases h1:dep t<=d/\size t<=l
  ·rw[if_pos h1];simp only;rw[zsD ts (fun u hu=>h u (by simp[hu])) d (l-size t)];by_cases h2:deps ts<=d/\zld ts<=l-size t
   ·rw[if_pos h2,if_pos ⟨by omega,by omega⟩];congr 1;omega
   ·rw[if_neg h2,if_neg (by omega)]
  ·rw[if_neg h1];simp only;rw[if_neg (by omega)]
theorem zxb (t:T):∀ d l,lim t d l=if dep t<=d/\size t<=l then some (l-size t) else none:=by
 induction t using T.ind with
 | _ k n s ks ih =>
 intro d l;have e1:dep (.nd k n s ks)=1+deps ks:=by rw[dep]
 have e2:size (.nd k n s ks)=1+zld ks:=by rw[size]
 rw[lim];by_cases h:d=0\/l=0
 ·rw[if_pos h,if_neg (by omega)]
 ·rw[if_neg h,zsD ks ih];by_cases h2:deps ks<=d-1/\zld ks<=l-1
  ·rw[if_pos h2,if_pos ⟨by omega,by omega⟩];congr 1;omega
  ·rw[if_neg h2,if_neg (by omega)]
theorem zrl {k n:Int} {s:ByteArray} {ks:List T} (h:isE (.nd k n s ks)=true):∀ t∈ks,isE t=true:=by
 have key:isEs ks=true->∀ t∈ks,isE t=true:=by
  intro h t ht;rw[znF 0,zkP] at h;obtain⟨i,hi,rfl⟩:=List.getElem_of_mem ht;exact h i hi
 have nil:decide (ks.length=0)=true->∀ t∈ks,isE t=true:=by
  intro h t ht;have:ks=[]:=by simpa using h
  rw[this] at ht;cases ht
 rw[isE] at h
 split at h
 ·simp only[Bool.and_eq_true] at h;exact nil h.2
 split at h
 ·simp only[Bool.and_eq_true] at h;exact nil h.2
 split at h
 ·simp only[Bool.and_eq_true] at h;exact key h.2.2
 split at h
 ·simp only[Bool.and_eq_true] at h;exact key h.2.2
 split at h
 ·simp only[Bool.and_eq_true] at h;exact key h.2.2
 ·cases h
theorem zuE {t:T} (h:isP t=true):isE t=true:=by unfold isP at h;simp only[Bool.and_eq_true] at h;exact h.2
theorem zx1 {t:T} (h:isV t=true):isE t=true:=by unfold isV at h;simp only[Bool.and_eq_true] at h;exact h.2
theorem znl {m:Nat} {p:Nat->T->Bool} {ks:List T} (h:zkK m p ks=true) {t:T} (ht:t∈ks):∃ i,p i t=true:=by
 unfold zkK at h;simp only[Bool.and_eq_true] at h;have:=(zkP p 0 ks).1 h.2;obtain⟨i,hi,rfl⟩:=List.getElem_of_mem ht;exact⟨0+i,this i hi⟩
theorem zpo {d:Nat} {ks:List T} (h:isEB d ks=true) {t:T} (ht:t∈ks):isE t=true\/isB t=true:=by
 have h':isEB (d+0) ks=true:=h;rw[znG d 0] at h';have:=(zkP _ 0 ks).1 h';obtain⟨i,hi,rfl⟩:=List.getElem_of_mem ht;have h2:=this i hi;unfold pEB at h2
 split at h2
 ·exact .inl h2
 ·exact .inr h2
theorem zsJ {k n:Int} {s:ByteArray} {ks:List T} (h:isS (.nd k n s ks)=true):k≠57/\∀ t∈ks,isE t=true\/isB t=true:=by
 rw[isS] at h
 split at h
 ·rename_i hk;simp only[Bool.and_eq_true] at h;refine⟨by omega,fun t ht=>?_⟩;obtain⟨i,hi⟩:=znl h.2 ht
  split at hi
  ·exact .inl (zuE hi)
  ·exact .inl hi
 split at h
 ·rename_i hk;simp only[Bool.and_eq_true] at h;refine⟨by omega,fun t ht=>?_⟩;obtain⟨i,hi⟩:=znl h.2 ht;exact .inl (zuE hi)
 split at h
 ·rename_i hk;simp only[Bool.and_eq_true] at h;refine⟨by omega,fun t ht=>?_⟩;obtain⟨i,hi⟩:=znl h.2 ht;exact .inl (zuE hi)
 split at h
 ·rename_i hk;simp only[Bool.and_eq_true] at h;refine⟨by omega,fun t ht=>?_⟩;obtain⟨i,hi⟩:=znl h.2 ht;exact .inl (zuE hi)
 split at h
 ·rename_i hk;simp only[Bool.and_eq_true] at h;refine⟨by omega,fun t ht=>?_⟩;have:=(zkP _ 0 ks).1 h.2;obtain⟨i,hi,rfl⟩:=List.getElem_of_mem ht;exact .inl (zx1 (this i hi))
 split at h
 ·rename_i hk;simp only[Bool.and_eq_true] at h;exact⟨by omega,fun t ht=>zpo h.2.2 ht⟩
 split at h
 ·rename_i hk;simp only[Bool.and_eq_true] at h;exact⟨by omega,fun t ht=>zpo h.2.2 ht⟩
 split at h
 ·rename_i hk;simp only[Bool.and_eq_true] at h;exact⟨by omega,fun t ht=>zpo h.2.2 ht⟩
 ·cases h
theorem zlS {k n:Int} {s:ByteArray} {ks:List T} (h:isS (.nd k n s ks)=true) :
  ((k≠52/\k≠53/\k≠54/\k≠55/\k≠57)/\∀ t∈ks,t.k≠57) \/
  ((k=52\/k=53)/\zkt n s=true/\∃ a b c d,ks=[a,b,c,d]/\isE a=true/\isB b=true/\isB c=true/\isE d=true) \/
  (k=54/\zkF n s=true/\∃ a b c,ks=[a,b,c]/\isE a=true/\isB b=true/\isE c=true) \/
  (k=55/\zkF n s=true/\∃ b,ks=[b]/\isB b=true):=by
 have key:∀ (p:Nat->T->Bool),(∀ j t,p j t=true->t.k≠57)->zkz p 0 ks=true->∀ t∈ks,t.k≠57:=by
  intro p hp hk t ht;obtain⟨q,hq,rfl⟩:=List.getElem_of_mem ht;exact hp _ _ ((zkP p 0 ks).1 hk q hq)
 have kE:∀ t,isE t=true->t.k≠57:=fun t h1=>by have:=zsL t h1;omega
 rw[isS] at h
 repeat' split at h
 ·simp only[zkK,Bool.and_eq_true] at h;exact .inl ⟨by omega,key _ (fun j t hj=>by split at hj;exact zuD t hj;exact kE t hj) h.2.2⟩
 ·simp only[zkK,Bool.and_eq_true] at h;exact .inl ⟨by omega,key _ (fun j t=>zuD t) h.2.2⟩
 ·simp only[zkK,Bool.and_eq_true] at h;exact .inl ⟨by omega,key _ (fun j t=>zuD t) h.2.2⟩
 ·simp only[zkK,Bool.and_eq_true] at h;exact .inl ⟨by omega,key _ (fun j t=>zuD t) h.2.2⟩
 ·simp only[Bool.and_eq_true] at h;exact .inl ⟨by omega,key _ (fun j t=>zx0 t) h.2⟩
 ·rename_i hk;simp only[Bool.and_eq_true,decide_eq_true_eq] at h;obtain⟨h1,h2,h3⟩:=h
  match ks,h2 with
  | [a,b,c,d],_ =>
   simp only[isEB,Bool.and_eq_true,Bool.and_true] at h3;simp at h3;exact .inr (.inl ⟨hk,h1,a,b,c,d,rfl,h3.1,h3.2.1,h3.2.2.1,h3.2.2.2⟩)
 ·rename_i hk;simp only[Bool.and_eq_true,decide_eq_true_eq] at h;obtain⟨h1,h2,h3⟩:=h
  match ks,h2 with
  | [a,b,c],_ =>
   simp only[isEB,Bool.and_eq_true,Bool.and_true] at h3;simp at h3;exact .inr (.inr (.inl ⟨hk,h1,a,b,c,rfl,h3.1,h3.2.1,h3.2.2⟩))
 ·rename_i hk;simp only[Bool.and_eq_true,decide_eq_true_eq] at h;obtain⟨h1,h2,h3⟩:=h
  match ks,h2 with
  | [b],_ =>
   simp only[isEB,Bool.and_eq_true,Bool.and_true] at h3;simp at h3;exact .inr (.inr (.inr ⟨hk,h1,b,rfl,h3⟩))
 ·cases h
end Go.Proofs.YtmbbaccjcekhkaaGreat
