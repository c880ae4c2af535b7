/-
  Texts of the proof, put together without their remarks: Gup, Grf, Gaw, Rpa, Rpb, Grs, Srp, Ipt, Sap, Sal, Gin, Lgl, Lift, LiftV, LiftP, LiftX.
-/
import Derived.Test.YthjinpodhacleaaGreatL11
import Derived.Test.YthjinpodhacleaaGreatRows
import Derived.ProofKit
import Derived.SizedLaws
import Derived.Deep.Slices
import Derived.Deep.Fields
import Derived.Lib.SmallJoins
set_option linter.unusedSimpArgs false
set_option linter.unusedVariables false
set_option maxHeartbeats 8000000
set_option maxRecDepth 100000
namespace Go.Proofs.YthjinpodhacleaaGreat
open Go.Proofs.Tryz
section
open Go Go.RowKit
attribute [local go_sem] Oper.semAt_some
theorem zsj(w:World)(S:Nat->Prop){k n:Int}{s:ByteArray}(hf:Fld k n s):NV w S (.nd k n s []) (nv k n s none 0 0):=NV.shut (ks:=[]) hf (by simp[LK]) (by simp) fun i hi=>by simp at hi
theorem zKs{w:World}{S:Nat->Prop}{b:Nat}{E:TypeId}{t1:T}{k n k1 n1:Int}{s s1:ByteArray}{A1:Option Addr}{l1 c1:Nat}(hf:Fld k n s)(hS:S b)(hk:w.heap[b]?=some (.cells #[.int .u8 k1,.int .i64 n1,.string s1,.slice A1 l1 c1] E (0,0)))(h1:NV w S t1 (nv k1 n1 s1 A1 l1 c1)) :
  NV w S (.nd k n s [t1]) (nv k n s (some ⟨b,0,none⟩) 1 1):=by
 refine NV.shut (ks:=[t1]) hf (by simp[LK]) (by simp) fun i hi=>?_
 match i,hi with
 | 0,_=>exact⟨⟨b,0,none⟩,_,_,_,_,rfl,hS,⟨zc hk rfl,zc hk rfl,zc hk rfl,zc hk rfl⟩,h1⟩
theorem zKr{w:World}{S:Nat->Prop}{b:Nat}{E:TypeId}{t1 t2:T}{k n k1 n1 k2 n2:Int}{s s1 s2:ByteArray}{A1 A2:Option Addr}{l1 c1 l2 c2:Nat}(hf:Fld k n s)(hS:S b)(hk:w.heap[b]?=some (.cells #[.int .u8 k1,.int .i64 n1,.string s1,.slice A1 l1 c1,.int .u8 k2,.int .i64 n2,.string s2,.slice A2 l2 c2] E (0,0)))(h1:NV w S t1 (nv k1 n1 s1 A1 l1 c1))(h2:NV w S t2 (nv k2 n2 s2 A2 l2 c2)) :
  NV w S (.nd k n s [t1,t2]) (nv k n s (some ⟨b,0,none⟩) 2 2):=by
 refine NV.shut (ks:=[t1,t2]) hf (by simp[LK]) (by simp) fun i hi=>?_
 match i,hi with
 | 0,_=>exact⟨⟨b,0,none⟩,_,_,_,_,rfl,hS,⟨zc hk rfl,zc hk rfl,zc hk rfl,zc hk rfl⟩,h1⟩
 | 1,_=>exact⟨⟨b,0,none⟩,_,_,_,_,rfl,hS,⟨zc hk rfl,zc hk rfl,zc hk rfl,zc hk rfl⟩,h2⟩
theorem fldG(k n:Int)(hk:0<=k/\k<256)(hn:I64 n):Fld k n ⟨#[]⟩:=⟨hk,hn,by decide⟩
theorem zKj(a0 a1 a2 a3:Value)(w:World):(Instr.buildSlice 26 1 #[(0,.agg #[a0,a1,a2,a3])]).run prog w=.ok (.slice (some ⟨w.heap.size,0,none⟩) 1 1) (w.alloc (.cells #[a0,a1,a2,a3] 28)):=by kernel_rfl
theorem zKi(a0 a1 a2 a3 b0 b1 b2 b3:Value)(w:World):(Instr.buildSlice 26 2 #[(0,.agg #[a0,a1,a2,a3]),(1,.agg #[b0,b1,b2,b3])]).run prog w=.ok (.slice (some ⟨w.heap.size,0,none⟩) 2 2) (w.alloc (.cells #[a0,a1,a2,a3,b0,b1,b2,b3] 28)):=by kernel_rfl
theorem bNkG(k:Int)(A:Option Addr)(l c:Nat)(w:World):(Instr.build 28 #[(0,.int .u8 k),(3,.slice A l c)]).run prog w=.ok (nv k 0 ⟨#[]⟩ A l c) w:=by kernel_rfl
theorem bSVG(a0 a1 a2:Value)(w:World):(Instr.buildSlice 24 1 #[(0,.agg #[a0,a1,a2])]).run prog w=.ok (.slice (some ⟨w.heap.size,0,none⟩) 1 1) (w.alloc (.cells #[a0,a1,a2] 38)):=by kernel_rfl
theorem bVdG(s:ByteArray)(k:Int)(w:World):(Instr.build 38 #[(0,.string s),(1,.int .u8 k)]).run prog w=.ok (.agg #[.string s,.int .u8 k,.int .i64 0]) w:=by kernel_rfl
theorem bPgG(A B:Option Addr)(l c m d:Nat)(k n:Int)(s:ByteArray)(w:World):(Instr.build 30 #[(0,.slice A l c),(2,nv k n s B m d)]).run prog w=.ok (pv A l c none 0 0 k n s B m d) w:=by kernel_rfl
abbrev xX:ByteArray:=⟨#[120]⟩
abbrev xO:ByteArray:=⟨#[]⟩
abbrev updT(k n:Int):T:=.nd k 0 xO [.nd 2 0 xX [],.nd 1 n xO []]
def updP(k n:Int):PG:=⟨[⟨xX,1,0⟩],[],.nd 57 0 xO [updT k n]⟩
theorem zxM(s:ByteArray)(w:World):Calls prog 11 #[.string s] w fun e w'=>e=.returned (nv 2 0 s none 0 0)/\Below w.heap.size w w':=by
 have hb:∀w,(Instr.build 28 #[(0,.int .u8 2),(2,.string s)]).run prog w=.ok (nv 2 0 s none 0 0) w:=fun w=>by kernel_rfl
 go_enter func11,ntmps11;go_wp2_with fail;exact bodyPost_ret (v:=nv 2 0 s none 0 0) (by simp[results,results11,go_sem]) rfl ⟨rfl,zkb zr _⟩
theorem ztR(n:Int)(w:World):Calls prog 12 #[.int .i64 n] w fun e w'=>e=.returned (nv 1 n xO none 0 0)/\Below w.heap.size w w':=by
 have hb:∀w,(Instr.build 28 #[(0,.int .u8 1),(1,.int .i64 n)]).run prog w=.ok (nv 1 n xO none 0 0) w:=fun w=>by kernel_rfl
 go_enter func12,ntmps12;go_wp2_with fail;exact bodyPost_ret (v:=nv 1 n xO none 0 0) (by simp[results,results12,go_sem]) rfl ⟨rfl,zkb zr _⟩
theorem znm(k n:Int)(hk:0<=k/\k<256)(hn:I64 n)(w:World):Calls prog 21 #[.int .u8 k,.int .i64 n] w fun e w'=>∃v,e=.returned v/\PV w' Any (updP k n) v/\Below w.heap.size w w':=by
 have h1:=zKj;have h2:=zKi;have h3:=bNkG;have h4:=bSVG;have h5:=bVdG;have h6:=bPgG;have HKN:=zh (And.intro hk hn);obtain⟨N,hN⟩:=zX (w.heap.size);have HN:=zh hN;clear hk hn;have k0:=heap_alloc_new w (.cells #[.slice none 0 0,.slice none 0 0,.int .u8 0,.int .i64 0,.string xO,.slice none 0 0] 30);have hb0:=zkb (zs w) (.cells #[.slice none 0 0,.slice none 0 0,.int .u8 0,.int .i64 0,.string xO,.slice none 0 0] 30);rw[hN]at k0;have HB0:=zh hb0;have aH:=zh k0;clear k0 hb0;go_enter func21,ntmps21;go_upto_region 1 with fail;obtain⟨w1,hw1⟩:=zX (w.alloc (.cells #[.slice none 0 0,.slice none 0 0,.int .u8 0,.int .i64 0,.string xO,.slice none 0 0] 30));rw[hw1]at HB0 aH
 try rw[hw1]
 try rw[hN]
 clear hw1 hN;go_wp2_with fail;refine(zxM _ _).mono ?_;rintro e w2 ⟨rfl,hb2⟩;have HB2:=zh hb2;clear hb2;go_wp2_with fail;refine(ztR _ _).mono ?_;rintro e w3 ⟨rfl,hb3⟩;have HB3:=zh (zka HB2.out hb3);clear hb3;go_upto_region 2 with fail;obtain⟨M,hM⟩:=zX (w3.heap.size);obtain⟨w4,hw4⟩:=zX ((w3.alloc (.cells #[.int .u8 2,.int .i64 0,.string xX,.slice none 0 0,.int .u8 1,.int .i64 n,.string xO,.slice none 0 0] 28)).alloc (.cells #[.int .u8 k,.int .i64 0,.string xO,.slice (some ⟨M,0,none⟩) 2 2] 28));have hb4:Below w3.heap.size w3 w4:=by rw[<-hw4];exact zkb (zkb zr _) _
 have mE:w4.heap.size=M+2:=by rw[<-hw4];simp[hM]
 have hm4:w4.heap[M]?=some (.cells #[.int .u8 2,.int .i64 0,.string xX,.slice none 0 0,.int .u8 1,.int .i64 n,.string xO,.slice none 0 0] 28 (0,0)):=by rw[<-hw4,<-hM];exact zkd (heap_alloc_new w3 _) _
 have sJ:w4.heap[M+1]?=some (.cells #[.int .u8 k,.int .i64 0,.string xO,.slice (some ⟨M,0,none⟩) 2 2] 28 (0,0)):=by rw[<-hw4];exact zox _ (by simp[hM]) _
 have hk4:=zkc (zkc aH.out HB3.out) hb4;have hNM:N<M:=by rw[<-hM];exact zke (zkc aH.out HB3.out)
 rw[hM];rw[hw4];have hb5:=zkb (zs w4) (.cells #[.string xX,.int .u8 1,.int .i64 0] 38);have hb6:=zkb hb5 (.cells #[.int .u8 k,.int .i64 0,.string xO,.slice (some ⟨M,0,none⟩) 2 2] 28);have hv6:=zkd (heap_alloc_new w4 (.cells #[.string xX,.int .u8 1,.int .i64 0] 38)) (.cells #[.int .u8 k,.int .i64 0,.string xO,.slice (some ⟨M,0,none⟩) 2 2] 28);have iE:=heap_alloc_new (w4.alloc (.cells #[.string xX,.int .u8 1,.int .i64 0] 38)) (.cells #[.int .u8 k,.int .i64 0,.string xO,.slice (some ⟨M,0,none⟩) 2 2] 28);rw[World.size_alloc]at iE;have AL:=zkc hm4 hb6;have bK:=zkc hk4 hb6;obtain⟨x0,x1,x2,x3⟩:=box4 (zkc sJ hb5);obtain⟨w6,gY⟩:=zX ((w4.alloc (.cells #[.string xX,.int .u8 1,.int .i64 0] 38)).alloc (.cells #[.int .u8 k,.int .i64 0,.string xO,.slice (some ⟨M,0,none⟩) 2 2] 28));obtain⟨z0,z1,z2,z3⟩:=box4 sJ;rw[mE]at hv6 iE
 have qN:(w4.alloc (.cells #[.string xX,.int .u8 1,.int .i64 0] 38)).heap.size=M+3:=by simp[mE]
 rw[gY]at hb6 hv6 iE AL bK;obtain⟨w7,hw7,xe,pV⟩:=zss (.slice (some ⟨M+2,0,none⟩) 1 1) (.slice none 0 0) (.int .u8 57) (.int .i64 0) (.string xO) (.slice (some ⟨M+2+1,0,none⟩) 1 1) bK;obtain⟨q0,q1,q2,q3,q4,q5⟩:=box6 bK;have cf:∀o,w6.frozen? ⟨N,o,none⟩=false:=fun o=>zf bK;have hv7:=pV.keep hv6 (fun e:M+2=N=>by omega);have wW:=pV.keep iE (fun e:M+2+1=N=>by omega);have hm7:=pV.keep AL (fun e:M=N=>by omega);have xP:=zh (show NV w7 Any (updP k n).m (nv 57 0 xO (some ⟨M+2+1,0,none⟩) 1 1)from zKs (fldG 57 0 (by decide) ⟨by decide,by decide⟩) trivial wW (zKr (fldG k 0 HKN.out.1 ⟨by decide,by decide⟩) trivial hm7 (zsj _ Any ⟨by decide,by decide,by decide⟩) (zsj _ Any (fldG 1 n (by decide) HKN.out.2))));have Ca:=zh hv7
 have BO:=zh (show PV w7 Any (updP k n) (pv (some ⟨M+2,0,none⟩) 1 1 none 0 0 57 0 xO (some ⟨M+2+1,0,none⟩) 1 1)from⟨some ⟨M+2,0,none⟩,1,none,0,some ⟨M+2+1,0,none⟩,1,rfl,⟨fun i hi=>by
   obtain rfl:i=0:=by simp[updP]at hi;omega
   exact⟨⟨M+2,0,none⟩,rfl,trivial,⟨zc Ca.out rfl,zc Ca.out rfl,zc Ca.out rfl⟩,show FldV ⟨xX,1,0⟩from⟨by decide,by decide,by decide⟩⟩,show(1:Nat)<=LV by decide,show(1:Nat)<=1 by decide,fun i hi=>by simp[updP]at hi,show(0:Nat)<=LV by decide,show(0:Nat)<=0 by decide,xP.out⟩⟩)
 have dC:=zh (show Below w.heap.size w w7 from(zka HB0.out (zka HB3.out (zka hb4 hb6))).trans (pV.below (zka HB0.out (zka HB3.out (zka hb4 hb6))).size fun b (e:b=N)=>by have:=HN.out;omega));obtain⟨t0,t1,t2,t3,t4,t5⟩:=box6 xe;clear hb5 hb6 hv6 iE AL bK xe pV hv7 wW hm7 hm4 sJ hk4 hb4;go_wp2_with fail;exact bodyPost_ret (v:=pv (some ⟨M+2,0,none⟩) 1 1 none 0 0 57 0 xO (some ⟨M+2+1,0,none⟩) 1 1) (by simp[results,results21,go_sem,t0,t1,t2,t3,t4,t5]) rfl ⟨_,rfl,BO.out,dC.out⟩
end
section
open Go Go.RowKit
attribute [local go_sem] Oper.semAt_some
theorem zuC(a b:List VD):eqVs a b=eqVs b a:=by
 rw[Bool.eq_iff_iff,zmk,zmk];exact eq_comm
theorem zq5{W:World}{e:EX}{q:PG}{ev qv:Value}(he:EV W Any e ev)(hq:PV W Any q qv) :
  Calls prog 10 #[ev,qv] W fun en w'=>en=.returned (.int .i64 (admE e q))/\Below W.heap.size W w':=by
 have kg:=zh (fun w' (hb:Below W.heap.size W w')=>he.later hb);have HQ:=zh (fun w' (hb:Below W.heap.size W w')=>hq.later hb);obtain⟨A1,c1,A2,c2,A3,c3,rfl,hg,hI⟩:=he;obtain⟨D1,e1,D2,e2,D3,e3,rfl,iX⟩:=hq;have hb2:=zkb (zkb (zs W) (.cells (exA e A1 c1 A2 c2 A3 c3) 32)) (.cells (pgA q D1 e1 D2 e2 D3 e3) 30);have k0:=zkd (heap_alloc_new W (.cells (exA e A1 c1 A2 c2 A3 c3) 32)) (.cells (pgA q D1 e1 D2 e2 D3 e3) 30);have k1:=heap_alloc_new (W.alloc (.cells (exA e A1 c1 A2 c2 A3 c3) 32)) (.cells (pgA q D1 e1 D2 e2 D3 e3) 30);rw[World.size_alloc]at k1;obtain⟨w2,hw2⟩:=zX ((W.alloc (.cells (exA e A1 c1 A2 c2 A3 c3) 32)).alloc (.cells (pgA q D1 e1 D2 e2 D3 e3) 30));obtain⟨N,hN⟩:=zX (W.heap.size);rw[hw2]at hb2 k0 k1;rw[hN]at k0 k1;have HB:=zh hb2;have bV:=zh (fun w' (h:Below w2.heap.size w2 w')=>zmj (zkc k0 h));have bY:=zh (fun w' (h:Below w2.heap.size w2 w')=>box6 (zkc k1 h))
 have bF:=zh (zs w2);have uu:=zh (zoo e _ w2 (kg.out _ hb2));have bM:=zh (fun w' (h:Below w2.heap.size w2 w')=>zqK (HQ.out _ (zka hb2 h)));have dO:=zh (fun w' (h:Below w2.heap.size w2 w')=>zlz q Any _ w' (HQ.out _ (zka hb2 h)));have ik:=zh (fun w' (h:Below w2.heap.size w2 w')=>zlI q Any _ w' (HQ.out _ (zka hb2 h)));have gV:=zh (fun w' (h:Below w2.heap.size w2 w')=>zw1 (W:=w') (c:=c1) (d:=e1) ((hg.vars.later hb2).later h) ((iX.vars.later hb2).later h) hg.lv iX.lv);obtain⟨VX,mX⟩:=zX (zkX e);obtain⟨AD,iM⟩:=zX (admE e q);have HAD:=zh iM;have fJ:=zh mX;rw[iM];rw[mX]at uu;clear hb2 k0 k1 hg iX mX iM hI;obtain⟨x0,x1,x2,x3,x4,x5,x6,x7,x8,x9,aF,aD⟩:=bV.out _ bF.out;obtain⟨q0,q1,q2,q3,q4,q5⟩:=bY.out _ bF.out;go_enter func10,ntmps10;go_upto_region 1 with fail
 try rw[hw2]
 try rw[hN]
 clear hw2 hN;go_wp2_with fail;refine uu.out.mono ?_;rintro en w3 ⟨rfl,hb3⟩;have aN:=zh (zka bF.out hb3);clear x0 x1 x2 x3 x4 x5 x6 x7 x8 x9 aF aD q0 q1 q2 q3 q4 q5 hb3 uu;obtain⟨x0,x1,x2,x3,x4,x5,x6,x7,x8,x9,aF,aD⟩:=bV.out _ aN.out;obtain⟨q0,q1,q2,q3,q4,q5⟩:=bY.out _ aN.out
 cases VX
 ·have HF:=zh (show admE e q=1 by unfold admE;rw[fJ.out];rfl);go_wp2_with fail;go_ret;exact⟨by rw[<-HAD.out,HF.out];rfl,zka HB.out aN.out⟩
 have oq:=zh (show admE e q=admP e.gv.vs q by unfold admE;rw[fJ.out];rfl);go_wp2_with fail;refine(dO.out _ aN.out).mono ?_;rintro en w5 ⟨rfl,hb5⟩;have cz:=zh (zka aN.out hb5);clear x0 x1 x2 x3 x4 x5 x6 x7 x8 x9 aF aD q0 q1 q2 q3 q4 q5 hb5 dO;obtain⟨x0,x1,x2,x3,x4,x5,x6,x7,x8,x9,aF,aD⟩:=bV.out _ cz.out;obtain⟨q0,q1,q2,q3,q4,q5⟩:=bY.out _ cz.out;obtain⟨VB,tN⟩:=zX (zkB q);have bg:=zh tN;rw[tN];clear tN
 cases VB
 ·have HF:=zh (show admE e q=3 by rw[oq.out];unfold admP;rw[bg.out];rfl);go_wp2_with fail;go_ret;exact⟨by rw[<-HAD.out,HF.out];rfl,zka HB.out cz.out⟩
 have tV:=ik.out _ cz.out;rw[if_pos bg.out]at tV;have nL:=zh tV;clear tV ik;go_wp2_with fail;refine nL.out.mono ?_;rintro en w6 ⟨B0,d0,rfl,hb6⟩;have dw:=zh (zka cz.out hb6);clear x0 x1 x2 x3 x4 x5 x6 x7 x8 x9 aF aD q0 q1 q2 q3 q4 q5 hb6 nL;obtain⟨x0,x1,x2,x3,x4,x5,x6,x7,x8,x9,aF,aD⟩:=bV.out _ dw.out;obtain⟨q0,q1,q2,q3,q4,q5⟩:=bY.out _ dw.out;obtain⟨CN,iK⟩:=zX (chkN q);have lN:=zh iK;rw[iK];clear iK;by_cases hc:CN=0
 ·have hz1:decide ((CN:Int)>0)=false:=by simp;omega
  have hz2:decide (0<CN)=false:=by simp;omega
  have rO:=zh (lN.out.trans hc);clear hc;go_wp2_with fail;refine(bM.out _ dw.out).mono ?_;rintro en w4 ⟨R,n,c,rfl,hR,hb4⟩;have bA:=zh (zka dw.out hb4);clear x0 x1 x2 x3 x4 x5 x6 x7 x8 x9 aF aD q0 q1 q2 q3 q4 q5 hb4;obtain⟨x0,x1,x2,x3,x4,x5,x6,x7,x8,x9,aF,aD⟩:=bV.out _ bA.out;obtain⟨q0,q1,q2,q3,q4,q5⟩:=bY.out _ bA.out;obtain⟨hn,hcell⟩:=hR ⟨bg.out,rO.out⟩;have xN:=zh hn;clear hn hR;by_cases hz:n=0
  ·have xq:=zh (xN.out.symm.trans hz);have hz3:decide ((n:Int)>0)=false:=by simp;omega
   have mE:decide (0<n)=false:=by simp;omega
   clear hz hcell;go_wp2_with fail;refine(gV.out _ bA.out).mono ?_;rintro en w7 ⟨rfl,dF⟩;have iw:=zh (zka bA.out dF);obtain⟨EQ,ug⟩:=zX (eqVs e.gv.vs q.vs);have HE:=zh (show eqVs q.vs e.gv.vs=EQ by rw[zuC,ug]);rw[ug];clear ug
   cases EQ
   ·have HF:=zh (show admE e q=7 by rw[oq.out];unfold admP;rw[bg.out,rO.out,xq.out,HE.out];rfl);go_wp2_with fail;go_ret;exact⟨by rw[<-HAD.out,HF.out];rfl,zka HB.out iw.out⟩
   ·have HF:=zh (show admE e q=0 by rw[oq.out];unfold admP;rw[bg.out,rO.out,xq.out,HE.out];rfl);go_wp2_with fail;go_ret;exact⟨by rw[<-HAD.out,HF.out];rfl,zka HB.out iw.out⟩
  ·obtain⟨g,rfl,sZ⟩:=hcell hz;have hz3:decide ((n:Int)>0)=true:=by simp;omega
   have mE:decide (0<n)=true:=by simp;omega
   have HF:=zh (show admE e q=(rjA q).headD 0 by rw[oq.out];unfold admP;rw[bg.out,rO.out,if_pos rfl,if_pos rfl,if_neg (fun h=>hz (xN.out.trans h))]);obtain⟨HD,xz⟩:=zX ((rjA q).headD 0);rw[xz]at HF sZ;clear xz;go_wp2_with fail;go_ret;exact⟨by rw[<-HAD.out,HF.out];rfl,zka HB.out bA.out⟩
 ·have hz1:decide ((CN:Int)>0)=true:=by simp;omega
  have hz2:decide (0<CN)=true:=by simp;omega
  have HF:=zh (show admE e q=3 by rw[oq.out];unfold admP;rw[bg.out,lN.out,if_pos rfl,if_neg hc]);go_wp2_with fail;go_ret;exact⟨by rw[<-HAD.out,HF.out];rfl,zka HB.out dw.out⟩
end
section
open Go Go.RowKit
attribute [local go_sem] Oper.semAt_some
abbrev xInc:ByteArray:=⟨#[105,110,99]⟩
def gxE:EX:=⟨xInc,5,9,⟨2,0,0⟩,updP 40 1⟩
theorem zuj:allS gxE.bx (lenE gxE.gv.vs gxE.bx)=[⟨[[0]],[],[]⟩,⟨[[1]],[],[]⟩,⟨[[-1]],[],[]⟩,⟨[[2]],[],[]⟩,⟨[[-2]],[],[]⟩]:=by kernel_rfl
theorem gx_a:admE gxE (updP 41 1)=0:=by kernel_rfl
theorem gx_b:admE gxE (updP 41 2)=0:=by kernel_rfl
theorem zKd:grdE gxE (updP 41 1)=(true,5,nilS,0):=by unfold grdE;rw[zuj];kernel_rfl
def gxS:SS:=⟨[[0]],[],[]⟩
theorem zKc:grdE gxE (updP 41 2)=(false,1,gxS,0):=by unfold grdE;rw[zuj];kernel_rfl
theorem zKe(q:PG)(h:admE gxE q=0):(gxE.bx.ok&&svB gxE.gv.vs)=true/\(allS gxE.bx (lenE gxE.gv.vs gxE.bx)).length<=1000000/\gxE.fu<=1000000:=⟨by kernel_rfl,by rw[zuj];decide,by decide⟩
theorem zKn(n:Int)(w:World):(Instr.build 23 #[(0,.int .i64 n)]).run prog w=.ok (.agg #[.int .i64 n,.int .i64 0,.int .i64 0]) w:=by kernel_rfl
theorem bExK(s t:ByteArray)(a b x y z:Int)(A B D:Option Addr)(l c m d j e:Nat)(k n:Int)(w:World):(Instr.build 32 #[(0,.string s),(1,.int .i64 a),(2,.int .i64 b),(3,.agg #[.int .i64 x,.int .i64 y,.int .i64 z]),(4,pv A l c B m d k n t D j e)]).run prog w=.ok (.agg #[.string s,.int .i64 a,.int .i64 b,.int .i64 x,.int .i64 y,.int .i64 z,.slice A l c,.slice B m d,.int .u8 k,.int .i64 n,.string t,.slice D j e]) w:=by kernel_rfl
theorem zzt:IsFn prog 21 Tryz.f21:=⟨func21,by kernel_rfl,by kernel_rfl⟩
theorem zzx:IsFn prog 13 f13:=⟨func13,by kernel_rfl,by kernel_rfl⟩
abbrev AlK(w0:World)(Z:Array Value)(E:TypeId)(u:Value)(w:World):Prop:=∃b,u=.pointer (some ⟨b,0,none⟩)/\w0.heap.size<=b/\w.heap[b]?=some (.cells Z E (0,0))
abbrev nzVd:Array Value := #[.bool false,.int .i64 0,.slice none 0 0,.slice none 0 0,.slice none 0 0,.int .i64 0]
def VdF(r:Bool×Nat×SS×Int)(v:Value):Prop:=∃A c B d D e,v=.tuple #[.agg (vdA r.1 (r.2.1:Int) A r.2.2.1.cells.length c B r.2.2.1.tin.length d D r.2.2.1.tout.length e r.2.2.2),.int .i64 0]
theorem zr2{w:World}{q:PG}{ev qv:Value}(he:EV w Any gxE ev)(hq:PV w Any q qv)(h:admE gxE q=0){r:Bool×Nat×SS×Int}(hr:grdE gxE q=r) :
  Calls prog 13 #[ev,qv] w fun e w'=>∃v,e=.returned v/\(VdF r v/\Below w.heap.size w w'):=by
 have:=zqH he hq (zKe q);rw[if_pos h,hr,h]at this;exact this.mono fun e w' ⟨A,c,B,d,D,e',h1,_,h3⟩=>⟨_,h1,⟨A,c,B,d,D,e',rfl⟩,h3⟩
theorem zmU(w:World):Calls prog 8 #[] w fun e w'=>e=.returned (.bool true)/\Below w.heap.size w w':=by
 have h1:=zKn;have h2:=bExK;go_enter func8,ntmps8;go_wp2_with fail;refine(znm 40 1 (by decide) ⟨by decide,by decide⟩ _).mono ?_;rintro en w1 ⟨v,rfl,hpv,hb1⟩;obtain⟨A1,c1,A2,c2,A3,c3,rfl,jE⟩:=hpv;have HB1:=zh hb1;have xM:=zh jE;clear jE hb1;go_upto_region 2 with fail;have hb2:Below w1.heap.size w1 (w1.alloc (.cells (exA gxE A1 c1 A2 c2 A3 c3) 32)):=zkb (zs w1) _;have k2:=heap_alloc_new w1 (.cells (exA gxE A1 c1 A2 c2 A3 c3) 32);obtain⟨w2,hw2⟩:=zX (w1.alloc (.cells #[.string xInc,.int .i64 5,.int .i64 9,.int .i64 2,.int .i64 0,.int .i64 0,.slice A1 (updP 40 1).vs.length c1,.slice A2 (updP 40 1).prs.length c2,.int .u8 (updP 40 1).m.k,.int .i64 (updP 40 1).m.n,.string (updP 40 1).m.s,.slice A3 (updP 40 1).m.ks.length c3] 32));have hw2':w1.alloc (.cells (exA gxE A1 c1 A2 c2 A3 c3) 32)=w2:=hw2;obtain⟨E0,hE0⟩:=zX (w1.heap.size);rw[hw2']at hb2 k2;rw[hw2,hE0];rw[hE0]at k2
 have HB2:=zh (zka HB1.out hb2);have kg:=zh (fun w' (h:Below w2.heap.size w2 w')=>(show EV w' Any gxE (.agg (exA gxE A1 c1 A2 c2 A3 c3))from⟨A1,c1,A2,c2,A3,c3,rfl,(xM.out.later hb2).later h,show I64 9 from⟨by decide,by decide⟩⟩));have HEC:=zh (fun w' (h:Below w2.heap.size w2 w')=>zmj (zkc k2 h));have HR2:=zh (zs w2);clear hb2 k2 hw2 hw2' hE0 h1 h2;have az:=zh (show ∀w',Below w2.heap.size w2 w'->(fun w':World=>exS w' E0 gxE A1 c1 A2 c2 A3 c3) w' from fun w' hb=>HEC.out _ (zka HR2.out hb));have hSS:zW (fun w':World=>exS w' E0 gxE A1 c1 A2 c2 A3 c3) zU w2.drew:=⟨az.out _ zr.drew,trivial⟩
 refine wp_region_noPanic ?_;refine zG hSS 20 ?_;refine zT 0 hSS ?_;have hI:(fun w=>Below w2.heap.size w2 w) w2.drew:=zr.drew;clear hSS;refine zpk (i:=1) (j:=6) (some 11) (some 2) 6 (fun li l4 => #[true,li,false,false,false,false,l4,false,false]) _ (fun w=>Below w2.heap.size w2 w) (AlK w2 (nzVd) 46) (fun v w=>PV w Any (updP 41 1) v) rfl rfl rfl rfl (by kernel_rfl) (by kernel_rfl) (fun l4=>by cases l4<;>rfl) rfl (fun w h=>⟨az.out _ h,trivial⟩) (fun w w' h hb=>?_) (fun u w w' h hb=>?_) (fun v4 K w h aQ=>?_) (fun v4 K w h aQ=>?_) (fun u v=>?_) (fun l4 v4 v wc h hF hA hU=>?_) false undef w2.drew hI (fun h=>by cases h) (fun _=>rfl) ?_
 ·exact zka h hb
 ·obtain⟨b,e1,e2,e3⟩:=h;exact⟨b,e1,e2,zkc e3 hb⟩
 ·have hK:=zh aQ;clear aQ;have had:Calls prog 21 [.int .u8 41,.int .i64 1].toArray w fun e w'=>∃v,e=.returned v/\(PV w' Any (updP 41 1) v/\Below w.heap.size w w'):=znm 41 1 (by decide) ⟨by decide,by decide⟩ w;refine zkf (by rfl) (.func 21) [.const (.int .u8 41),.const (.int .i64 1)] _ (by rfl) 21 _ zzt (by rfl) _ (by rfl) _ had ?_;rintro v w' ⟨hv,hb⟩;exact hK.out _ _ hb hv
 ·have hK:=zh aQ;clear aQ;(try simp only[zQ]);(try simp only[zA,zB,zC]);go_simp;exact hK.out _ _ (zkb zr _) ⟨_,rfl,h.size,heap_alloc_new w _⟩
 ·simp only[Act.put,zD,zE,zF]
 rotate_left 1
 ·simp only[Act.put,zD,zE,zF]
 (try simp only[zQ]);clear hI;have hI:(fun w=>Below w2.heap.size w2 w/\PV w Any (updP 41 1) v) wc:=⟨h,hF⟩
 have xA:=hA;have tO:=hU;clear hA hU;refine zpk (i:=2) (j:=6) (some 12) (some 2) 5 (fun li l4 => #[true,true,li,false,false,false,l4,false,false]) _ (fun w=>Below w2.heap.size w2 w/\PV w Any (updP 41 1) v) (AlK w2 (nzVd) 46) (fun v w=>VdF (true,5,nilS,0) v) rfl rfl rfl rfl (by kernel_rfl) (by kernel_rfl) (fun l4=>by cases l4<;>rfl) rfl (fun w h=>⟨az.out _ h.1,trivial⟩) (fun w w' h hb=>?_) (fun u w w' h hb=>?_) (fun v4 K w h aQ=>?_) (fun v4 K w h aQ=>?_) (fun u v=>?_) (fun l4 v4 vv wc h hF hA hU=>?_) l4 v4 wc hI xA tO ?_
 ·exact⟨zka h.1 hb,h.2.later hb⟩
 ·obtain⟨b,e1,e2,e3⟩:=h;exact⟨b,e1,e2,zkc e3 hb⟩
 ·have hK:=zh aQ;clear aQ;have had:=zr2 (kg.out _ (zka HR2.out h.1)) h.2 gx_a zKd;refine zkf (by rfl) (.func 13) [.tmp 10,.tmp 11] _ (by rfl) 13 _ zzx (by rfl) [.agg (exA gxE A1 c1 A2 c2 A3 c3),v] (by rfl) _ had ?_;rintro v w' ⟨hv,hb⟩;exact hK.out _ _ hb hv
 ·have hK:=zh aQ;clear aQ;(try simp only[zQ]);(try simp only[zA,zB,zC]);go_simp;exact hK.out _ _ (zkb zr _) ⟨_,rfl,h.1.size,heap_alloc_new w _⟩
 ·simp only[Act.put,zD,zE,zF]
 rotate_left 1
 ·simp only[Act.put,zD,zE,zF]
 (try simp only[zQ]);obtain⟨Ag,cg,Bg,dg,Dg,eg,rfl⟩:=hF;clear hI;have hSS:zW (fun w':World=>exS w' E0 gxE A1 c1 A2 c2 A3 c3) zU wc:=⟨az.out _ h.1,trivial⟩
 have hI:(fun w=>Below w2.heap.size w2 w) wc:=h.1;clear h xA tO;rw[Nat.add_comm 5];refine zkp (i:=3) (v:=?_) rfl (by kernel_rfl) (by cases l4<;>kernel_rfl) (by cases l4<;>kernel_rfl) (by decide) (fun _ _ _ h=>h) (Or.inl ⟨by rfl,?_⟩) hSS ?_;rotate_left 1
 ·(intro w hSw;(try dsimp only at hSw);(try simp only[zA,zB,zC]);go_simp;(try with_reducible rfl))
 (try simp only[zQ]);refine zkp (i:=4) (v:=?_) rfl (by kernel_rfl) (by cases l4<;>kernel_rfl) (by cases l4<;>kernel_rfl) (by decide) (fun _ _ _ h=>h) (Or.inl ⟨by rfl,?_⟩) hSS ?_;rotate_left 1
 ·(intro w hSw;(try dsimp only at hSw);(try simp only[zA,zB,zC]);go_simp;(try with_reducible rfl))
 (try simp only[zQ]);refine zkp (i:=5) (v:=?_) rfl (by kernel_rfl) (by cases l4<;>kernel_rfl) (by cases l4<;>kernel_rfl) (by decide) (fun _ _ _ h=>h) (Or.inl ⟨by rfl,?_⟩) hSS ?_;rotate_left 1
 ·(intro w hSw;(try dsimp only at hSw);(try simp only[zA,zB,zC]);go_simp;(try with_reducible rfl))
 (try simp only[zQ]);rw[Nat.add_comm (Bool.toNat _) 2];clear hSS;refine zrA (j:=6) (some 2) 2 (fun l4 => #[true,true,true,true,true,true,l4,false,false]) _ (fun w=>Below w2.heap.size w2 w) (AlK w2 (nzVd) 46) rfl rfl (by kernel_rfl) rfl (fun w h=>⟨az.out _ h,trivial⟩) (fun w w' h hb=>zka h hb) (fun v4 K w h aQ=>?_) (fun u v=>?_) (fun v5 w5 h5 Bq=>?_) l4 v4 wc hI hA ?_
 ·have hb0:=h;have hK:=zh aQ;clear aQ;(try simp only[zQ]);(try simp only[zA,zB,zC]);go_simp;exact hK.out _ _ (zkb zr _) ⟨_,rfl,hb0.size,heap_alloc_new w _⟩
 ·simp only[Act.put,zD,zE,zF]
 rotate_left 1
 ·simp only[Act.put,zD,zE,zF]
 (try simp only[zQ]);clear hI hA hU;obtain⟨ab,rfl,hbl,hbz⟩:=Bq;obtain⟨q0,q1,q2,q3,q4,q5⟩:=box6 hbz;have cf:∀o,w5.frozen? ⟨ab,o,none⟩=false:=fun _=>zf hbz;obtain⟨w6,rY,mP,hcy⟩:=zss (.bool (true,5,nilS,0).1) (.int .i64 ((true,5,nilS,0).2.1:Int)) (.slice Ag (true,5,nilS,0).2.2.1.cells.length cg) (.slice Bg (true,5,nilS,0).2.2.1.tin.length dg) (.slice Dg (true,5,nilS,0).2.2.1.tout.length eg) (.int .i64 (true,5,nilS,0).2.2.2) hbz;have hby:Below w2.heap.size w2 w6:=h5.trans (hcy.below h5.size fun b (e:b=ab)=>by omega);have tQ:zW (fun w':World=>exS w' E0 gxE A1 c1 A2 c2 A3 c3) zU w6:=⟨az.out _ hby,trivial⟩
 have dO:=zh mP;have eF:=zh (zka HR2.out hby);have HB26:=zh hby;refine zo 7 fun K hK=>?_;(try simp only[zA,zB,zC]);go_simp;refine hK.out _ _ tQ ?_;clear hK K q0 q1 q2 q3 q4 q5 cf rY mP hcy hby h5 hbz;(try simp only[zQ]);refine zT 8 tQ ?_;refine zd ?_;refine NoPanic.normal ?_;clear tQ az;go_upto_region 3 with fail;have uy:=zh (show w6.heap[ab]?=some (.cells #[.bool true,.int .i64 5,.slice Ag 0 cg,.slice Bg 0 dg,.slice Dg 0 eg,.int .i64 0] 46 (0,0))from dO.out);clear dO;have az:=zh (show ∀w',Below w6.heap.size w6 w'->(fun w':World=>exS w' E0 gxE A1 c1 A2 c2 A3 c3) w' from fun w' hb=>HEC.out _ (zka eF.out hb));have hSS:zW (fun w':World=>exS w' E0 gxE A1 c1 A2 c2 A3 c3) zU w6.drew:=⟨az.out _ zr.drew,trivial⟩
 refine wp_region_noPanic ?_;refine zG hSS 20 ?_;refine zT 0 hSS ?_;have hI:(fun w=>Below w6.heap.size w6 w) w6.drew:=zr.drew;clear hSS;refine zpk (i:=1) (j:=6) (some 17) (some 4) 6 (fun li l4 => #[true,li,false,false,false,false,l4,false,false]) _ (fun w=>Below w6.heap.size w6 w) (AlK w6 (nzVd) 46) (fun v w=>PV w Any (updP 41 2) v) rfl rfl rfl rfl (by kernel_rfl) (by kernel_rfl) (fun l4=>by cases l4<;>rfl) rfl (fun w h=>⟨az.out _ h,trivial⟩) (fun w w' h hb=>?_) (fun u w w' h hb=>?_) (fun v4 K w h aQ=>?_) (fun v4 K w h aQ=>?_) (fun u v=>?_) (fun l4 v4 v wc h hF hA hU=>?_) false undef w6.drew hI (fun h=>by cases h) (fun _=>rfl) ?_
 ·exact zka h hb
 ·obtain⟨b,e1,e2,e3⟩:=h;exact⟨b,e1,e2,zkc e3 hb⟩
 ·have hK:=zh aQ;clear aQ;have had:Calls prog 21 [.int .u8 41,.int .i64 2].toArray w fun e w'=>∃v,e=.returned v/\(PV w' Any (updP 41 2) v/\Below w.heap.size w w'):=znm 41 2 (by decide) ⟨by decide,by decide⟩ w;refine zkf (by rfl) (.func 21) [.const (.int .u8 41),.const (.int .i64 2)] _ (by rfl) 21 _ zzt (by rfl) _ (by rfl) _ had ?_;rintro v w' ⟨hv,hb⟩;exact hK.out _ _ hb hv
 ·have hK:=zh aQ;clear aQ;(try simp only[zQ]);(try simp only[zA,zB,zC]);go_simp;exact hK.out _ _ (zkb zr _) ⟨_,rfl,h.size,heap_alloc_new w _⟩
 ·simp only[Act.put,zD,zE,zF]
 rotate_left 1
 ·simp only[Act.put,zD,zE,zF]
 (try simp only[zQ]);clear hI;have hI:(fun w=>Below w6.heap.size w6 w/\PV w Any (updP 41 2) v) wc:=⟨h,hF⟩
 have xA:=hA;have tO:=hU;clear hA hU;refine zpk (i:=2) (j:=6) (some 18) (some 4) 5 (fun li l4 => #[true,true,li,false,false,false,l4,false,false]) _ (fun w=>Below w6.heap.size w6 w/\PV w Any (updP 41 2) v) (AlK w6 (nzVd) 46) (fun v w=>VdF (false,1,gxS,0) v) rfl rfl rfl rfl (by kernel_rfl) (by kernel_rfl) (fun l4=>by cases l4<;>rfl) rfl (fun w h=>⟨az.out _ h.1,trivial⟩) (fun w w' h hb=>?_) (fun u w w' h hb=>?_) (fun v4 K w h aQ=>?_) (fun v4 K w h aQ=>?_) (fun u v=>?_) (fun l4 v4 vv wc h hF hA hU=>?_) l4 v4 wc hI xA tO ?_
 ·exact⟨zka h.1 hb,h.2.later hb⟩
 ·obtain⟨b,e1,e2,e3⟩:=h;exact⟨b,e1,e2,zkc e3 hb⟩
 ·have hK:=zh aQ;clear aQ;have had:=zr2 (kg.out _ (zka eF.out h.1)) h.2 gx_b zKc;refine zkf (by rfl) (.func 13) [.tmp 16,.tmp 17] _ (by rfl) 13 _ zzx (by rfl) [.agg (exA gxE A1 c1 A2 c2 A3 c3),v] (by rfl) _ had ?_;rintro v w' ⟨hv,hb⟩;exact hK.out _ _ hb hv
 ·have hK:=zh aQ;clear aQ;(try simp only[zQ]);(try simp only[zA,zB,zC]);go_simp;exact hK.out _ _ (zkb zr _) ⟨_,rfl,h.1.size,heap_alloc_new w _⟩
 ·simp only[Act.put,zD,zE,zF]
 rotate_left 1
 ·simp only[Act.put,zD,zE,zF]
 (try simp only[zQ]);obtain⟨Ag,cg,Bg,dg,Dg,eg,rfl⟩:=hF;clear hI;have hSS:zW (fun w':World=>exS w' E0 gxE A1 c1 A2 c2 A3 c3) zU wc:=⟨az.out _ h.1,trivial⟩
 have hI:(fun w=>Below w6.heap.size w6 w) wc:=h.1;clear h xA tO;rw[Nat.add_comm 5];refine zkp (i:=3) (v:=?_) rfl (by kernel_rfl) (by cases l4<;>kernel_rfl) (by cases l4<;>kernel_rfl) (by decide) (fun _ _ _ h=>h) (Or.inl ⟨by rfl,?_⟩) hSS ?_;rotate_left 1
 ·(intro w hSw;(try dsimp only at hSw);(try simp only[zA,zB,zC]);go_simp;(try with_reducible rfl))
 (try simp only[zQ]);refine zkp (i:=4) (v:=?_) rfl (by kernel_rfl) (by cases l4<;>kernel_rfl) (by cases l4<;>kernel_rfl) (by decide) (fun _ _ _ h=>h) (Or.inl ⟨by rfl,?_⟩) hSS ?_;rotate_left 1
 ·(intro w hSw;(try dsimp only at hSw);(try simp only[zA,zB,zC]);go_simp;(try with_reducible rfl))
 (try simp only[zQ]);refine zkp (i:=5) (v:=?_) rfl (by kernel_rfl) (by cases l4<;>kernel_rfl) (by cases l4<;>kernel_rfl) (by decide) (fun _ _ _ h=>h) (Or.inl ⟨by rfl,?_⟩) hSS ?_;rotate_left 1
 ·(intro w hSw;(try dsimp only at hSw);(try simp only[zA,zB,zC]);go_simp;(try with_reducible rfl))
 (try simp only[zQ]);rw[Nat.add_comm (Bool.toNat _) 2];clear hSS;refine zrA (j:=6) (some 4) 2 (fun l4 => #[true,true,true,true,true,true,l4,false,false]) _ (fun w=>Below w6.heap.size w6 w) (AlK w6 (nzVd) 46) rfl rfl (by kernel_rfl) rfl (fun w h=>⟨az.out _ h,trivial⟩) (fun w w' h hb=>zka h hb) (fun v4 K w h aQ=>?_) (fun u v=>?_) (fun v5 w5 h5 Bq=>?_) l4 v4 wc hI hA ?_
 ·have hb0:=h;have hK:=zh aQ;clear aQ;(try simp only[zQ]);(try simp only[zA,zB,zC]);go_simp;exact hK.out _ _ (zkb zr _) ⟨_,rfl,hb0.size,heap_alloc_new w _⟩
 ·simp only[Act.put,zD,zE,zF]
 rotate_left 1
 ·simp only[Act.put,zD,zE,zF]
 (try simp only[zQ]);clear hI hA hU;obtain⟨bb,rfl,hbl,hbz⟩:=Bq;obtain⟨q0,q1,q2,q3,q4,q5⟩:=box6 hbz;have cf:∀o,w5.frozen? ⟨bb,o,none⟩=false:=fun _=>zf hbz;obtain⟨bu,rY,mP,hcy⟩:=zss (.bool (false,1,gxS,0).1) (.int .i64 ((false,1,gxS,0).2.1:Int)) (.slice Ag (false,1,gxS,0).2.2.1.cells.length cg) (.slice Bg (false,1,gxS,0).2.2.1.tin.length dg) (.slice Dg (false,1,gxS,0).2.2.1.tout.length eg) (.int .i64 (false,1,gxS,0).2.2.2) hbz;have hby:Below w6.heap.size w6 bu:=h5.trans (hcy.below h5.size fun b (e:b=bb)=>by omega);have tQ:zW (fun w':World=>exS w' E0 gxE A1 c1 A2 c2 A3 c3) zU bu:=⟨az.out _ hby,trivial⟩
 have bg:=zh mP;have uI:=zh (zka eF.out hby);have HB610:=zh hby;refine zo 7 fun K hK=>?_;(try simp only[zA,zB,zC]);go_simp;refine hK.out _ _ tQ ?_;clear hK K q0 q1 q2 q3 q4 q5 cf rY mP hcy hby h5 hbz;(try simp only[zQ]);refine zT 8 tQ ?_;refine zd ?_;refine NoPanic.normal ?_;clear tQ az;have HVB2:=zh (show bu.heap[bb]?=some (.cells #[.bool false,.int .i64 1,.slice Ag 1 cg,.slice Bg 0 dg,.slice Dg 0 eg,.int .i64 0] 46 (0,0))from bg.out);obtain⟨a0,a1,a2,a3,a4,a5⟩:=box6 (zkc uy.out HB610.out);obtain⟨b0,b1,b2,b3,b4,b5⟩:=box6 HVB2.out;clear bg;go_wp2_with fail;go_ret;exact⟨rfl,zka HB2.out uI.out⟩
end
section
open Go Go.RowKit
def timR(a b:Int):Int:=if a≠0/\(1099511627776:Int).tdiv a<b then 1099511627777 else a*b
def powR(b:Int):Nat->Int
 | 0=>1
 | n+1=>timR (powR b n) b
def upA(b:Int):Int->List Nat->Int
 | s,[]=>s
 | s,i::l=>if 1099511627776<s+powR b i then 1099511627777 else upA b (s+powR b i) l
def upR(b:Int)(n:Nat):Int:=upA b 0 (List.range (n+1))
def cnt1(b:BX)(v:VD):Int:=if v.k=1 then 2*b.v+1 else if v.k=2 then powR (2*b.v+1) v.n.toNat else upR (2*b.v+1) b.l.toNat
def cntF(vs:List VD)(b:BX):Int:=vs.foldl (fun n v=>timR n (cnt1 b v)) (upR (2*b.v+1) b.i.toNat)
def rngZ(v:Int):List Int:=(List.range (2*v+1).toNat).map fun i:Nat=>(i:Int)-v
def tupE(v:Int):Nat->List (List Int)
 | 0=>[[]]
 | n+1=>(tupE v n).flatMap fun t=>(rngZ v).map fun x=>t++[x]
def betE(v:Int)(a m:Nat):List (List Int):=(List.range (m+1-a)).flatMap fun i=>tupE v (a+i)
def lstE(b:BX)(v:VD):List (List Int):=if v.k=1 then betE b.v 1 1 else if v.k=2 then betE b.v v.n.toNat v.n.toNat else betE b.v 0 b.l.toNat
def stg(st:List SS)(l:List (List Int)):List SS:=st.flatMap fun s=>l.map fun x=>⟨s.cells++[x],[],[]⟩
def stgF(b:BX)(vs:List VD):List SS:=vs.foldl (fun st v=>stg st (lstE b v)) [nilS]
def allU(vs:List VD)(b:BX):List SS:=(stgF b vs).flatMap fun s=>(betE b.v 0 b.i.toNat).map fun x=>⟨s.cells,x,[]⟩
theorem zpl{a b:Int}(ha:1<=a/\a<=1099511627777)(hb:1<=b/\b<=1099511627777):1<=timR a b/\timR a b<=1099511627777:=by
 unfold timR
 split
 ·omega
 ·rename_i h;have h1:b<=(1099511627776:Int).tdiv a:=by
   by_cases h2:b<=(1099511627776:Int).tdiv a
   ·exact h2
   ·exact absurd ⟨by omega,by omega⟩ h
  rw[Int.tdiv_eq_ediv_of_nonneg (by decide)]at h1;have h2:b*a<=1099511627776:=(Int.le_ediv_iff_mul_le (by omega)).1 h1;have h3:1*1<=a*b:=Int.mul_le_mul ha.1 hb.1 (by decide) (by omega);rw[Int.mul_comm]at h2;omega
theorem znn{a b:Int}(ha:1<=a)(hb:1<=b)(h:timR a b<=60):timR a b=a*b/\a<=60/\b<=60:=by
 unfold timR at h ⊢
 split at h
 ·omega
 ·rename_i h0;rw[if_neg h0];have h1:a*1<=a*b:=Int.mul_le_mul_of_nonneg_left hb (by omega);have h2:1*b<=a*b:=Int.mul_le_mul_of_nonneg_right ha (by omega);exact⟨rfl,by omega,by omega⟩
theorem zmb{b:Int}(hb:1<=b/\b<=2001):∀n,1<=powR b n/\powR b n<=1099511627777
 | 0=>by unfold powR;omega
 | n+1=>zpl (zmb hb n) (by omega)
theorem znq{b:Int}(hb:1<=b/\b<=2001):∀n,powR b n<=60->powR b n=b ^ n
 | 0,_=>by rw[Int.pow_zero];rfl
 | n+1,h=>by
  have h1:=znn (zmb hb n).1 hb.1 h;rw[powR,h1.1,znq hb n h1.2.1,Int.pow_succ]
theorem zqS{b:Int}(hb:1<=b/\b<=2001):∀(l:List Nat) (s:Int),0<=s/\s<=1099511627776->s<=upA b s l/\upA b s l<=1099511627777
 | [],s,h=>by unfold upA;omega
 | i::l,s,h=>by
  have h1:=zmb hb i;unfold upA
  split
  ·omega
  ·have:=zqS hb l (s+powR b i) (by omega);omega
theorem zqR{b:Int}(hb:1<=b/\b<=2001)(n:Nat):1<=upR b n/\upR b n<=1099511627777:=by
 unfold upR;rw[List.range_succ_eq_map];unfold upA;rw[if_neg (by unfold powR;decide)];have:=zqS hb (List.map Nat.succ (List.range n)) (0+powR b 0) (by unfold powR;decide);unfold powR at this ⊢;omega
theorem zpX{b:Int}(hb:1<=b/\b<=2001):∀(l:List Nat) (s:Int),0<=s->upA b s l<=60->upA b s l=s+(l.map fun i=>b ^ i).sum/\∀i∈l,powR b i<=60
 | [],s,_,h=>by unfold upA;simp
 | i::l,s,h0,h=>by
  have h1:=zmb hb i;unfold upA at h ⊢
  split at h
  ·omega
  ·rename_i h2;rw[if_neg h2];have h3:=zpX hb l (s+powR b i) (by omega) h;have h4:=(zqS hb l (s+powR b i) (by omega)).1;have h5:powR b i<=60:=by omega
   rw[h3.1,znq hb i h5];refine⟨by simp;omega,fun j hj=>?_⟩;rcases List.mem_cons.1 hj with rfl|hj
   ·exact h5
   ·exact h3.2 j hj
theorem zvP(v:Int):(rngZ v).length=(2*v+1).toNat:=by simp[rngZ]
theorem zrC{v:Int}(hv:0<=v):∀n,((tupE v n).length:Int)=(2*v+1) ^ n
 | 0=>by rw[Int.pow_zero];rfl
 | n+1=>by
  have h:∀l:List (List Int),((l.flatMap fun t=>(rngZ v).map fun x=>t++[x]).length:Int)=l.length*(2*v+1):=by
   intro l
   induction l with
   | nil=>simp
   | cons t l ih =>
    rw[List.flatMap_cons,List.length_append,List.length_map,zvP,List.length_cons];have e:((2*v+1).toNat:Int)=2*v+1:=Int.toNat_of_nonneg (by omega)
    push_cast
    rw[ih,e,Int.add_mul];omega
  rw[tupE,h,zrC hv n,Int.pow_succ]
theorem znW{v:Int}(hv:0<=v)(a m:Nat):((betE v a m).length:Int)=((List.range (m+1-a)).map fun i=>(2*v+1) ^ (a+i)).sum:=by
 unfold betE
 induction List.range (m+1-a)with
 | nil=>rfl
 | cons i l ih=>rw[List.flatMap_cons,List.length_append,List.map_cons,List.sum_cons,<-ih,<-zrC hv (a+i)];push_cast;rfl
theorem zmc{b:BX}(h:b.ok=true):(0<=b.v/\b.v<=1000)/\(0<=b.l/\b.l<=1000)/\0<=b.i/\b.i<=1000:=by
 simp only[BX.ok,okI,Bool.and_eq_true,decide_eq_true_eq]at h;omega
theorem znU{b:BX}(hb:0<=b.v/\b.v<=1000)(v:VD):1<=cnt1 b v/\cnt1 b v<=1099511627777:=by
 unfold cnt1
 split
 ·omega
 ·split
  ·exact zmb (by omega) _
  ·exact zqR (by omega) _
theorem zxl{v:Int}(hv:0<=v/\v<=1000){n:Nat}(h:upR (2*v+1) n<=60):((betE v 0 n).length:Int)=upR (2*v+1) n:=by
 have h1:=(zpX (b:=2*v+1) (by omega) (List.range (n+1)) 0 (by decide) h).1;rw[znW hv.1,show upR (2*v+1) n=upA (2*v+1) 0 (List.range (n+1))from rfl,h1];simp
theorem ztX{b:BX}{v:VD}(hb:0<=b.v/\b.v<=1000)(h:cnt1 b v<=60):((lstE b v).length:Int)=cnt1 b v:=by
 unfold lstE;unfold cnt1 at h ⊢;by_cases h1:v.k=1
 ·rw[if_pos h1]at h ⊢;rw[if_pos h1,znW hb.1];simp[Int.pow_succ]
 ·rw[if_neg h1]at h ⊢;rw[if_neg h1];by_cases h2:v.k=2
  ·rw[if_pos h2]at h ⊢;rw[if_pos h2,znW hb.1,znq (by omega) _ h];simp
  ·rw[if_neg h2]at h ⊢;rw[if_neg h2,zxl hb h]
theorem znc{vs:List VD}{b:BX}{i:Nat}(hi:i<vs.length):cntF (vs.take (i+1)) b=timR (cntF (vs.take i) b) (cnt1 b vs[i]):=by
 unfold cntF;rw[List.take_succ_eq_append_getElem hi,List.foldl_append];rfl
theorem zto{vs:List VD}{b:BX}{i:Nat}(hi:i<vs.length):stgF b (vs.take (i+1))=stg (stgF b (vs.take i)) (lstE b vs[i]):=by
 unfold stgF;rw[List.take_succ_eq_append_getElem hi,List.foldl_append];rfl
theorem znT{b:BX}(hb:b.ok=true)(vs:List VD):1<=cntF vs b/\cntF vs b<=1099511627777:=by
 have hk:=zmc hb;unfold cntF;have:∀(l:List VD) (n:Int),1<=n/\n<=1099511627777->1<=l.foldl (fun n v=>timR n (cnt1 b v)) n/\l.foldl (fun n v=>timR n (cnt1 b v)) n<=1099511627777:=by
  intro l
  induction l with
  | nil=>intro n h;exact h
  | cons v l ih=>intro n h;exact ih _ (zpl h (znU hk.1 v))
 exact this vs _ (zqR (by omega) _)
theorem zsb{vs:List VD}{b:BX}(hb:b.ok=true)(h:cntF vs b<=60):∀k,k<=vs.length->cntF (vs.take (vs.length-k)) b<=60
 | 0,_=>by simpa using h
 | k+1,hk=>by
  have h1:=zsb hb h k (by omega);rw[show vs.length-k=vs.length-(k+1)+1 by omega,znc (by omega)]at h1;exact(znn (znT hb _).1 (znU (zmc hb).1 _).1 h1).2.1
theorem ztn(st:List SS)(l:List (List Int)):(stg st l).length=st.length*l.length:=by
 unfold stg
 induction st with
 | nil=>simp
 | cons s st ih=>rw[List.flatMap_cons,List.length_append,ih,List.length_map,List.length_cons,Nat.add_mul];omega
structure RefB(vs:List VD)(b:BX):Prop where
 one:∀i (hi:i<vs.length),cnt1 b vs[i]<=60/\(lstE b vs[i]).length<=60
 st:∀i,i<=vs.length->((stgF b (vs.take i)).length:Int)*upR (2*b.v+1) b.i.toNat=cntF (vs.take i) b/\(stgF b (vs.take i)).length<=60
 inp:((betE b.v 0 b.i.toNat).length:Int)=upR (2*b.v+1) b.i.toNat/\(betE b.v 0 b.i.toNat).length<=60
 all:((allU vs b).length:Int)=cntF vs b/\(allU vs b).length<=60
theorem zx0{vs:List VD}{b:BX}(hb:b.ok=true)(h:cntF vs b<=60):RefB vs b:=by
 have hk:=zmc hb;have h1:∀i (hi:i<vs.length),cnt1 b vs[i]<=60/\cntF (vs.take i) b<=60/\cntF (vs.take (i+1)) b=cntF (vs.take i) b*cnt1 b vs[i]:=fun i hi=>by
  have h2:=zsb hb h (vs.length-(i+1)) (by omega);rw[show vs.length-(vs.length-(i+1))=i+1 by omega,znc hi]at h2;have h3:=znn (znT hb _).1 (znU hk.1 _).1 h2;exact⟨h3.2.2,h3.2.1,by rw[znc hi];exact h3.1⟩
 have hup:=zqR (b:=2*b.v+1) (by omega) b.i.toNat
 have hu:upR (2*b.v+1) b.i.toNat<=60:=by
  have:=zsb hb h vs.length zl;simpa[cntF]using this
 have hst:∀i,i<=vs.length->((stgF b (vs.take i)).length:Int)*upR (2*b.v+1) b.i.toNat=cntF (vs.take i) b:=by
  intro i
  induction i with
  | zero=>intro _;simp[stgF,cntF]
  | succ i ih =>
   intro hi;rw[zto (by omega),ztn,(h1 i (by omega)).2.2,<-ih (by omega)]
   push_cast
   rw[ztX hk.1 (h1 i (by omega)).1,Int.mul_assoc,Int.mul_assoc,Int.mul_comm (cnt1 b vs[i])]
 have hle:∀i,i<=vs.length->(stgF b (vs.take i)).length<=60:=fun i hi=>by
  have h2:=zsb hb h (vs.length-i) (by omega);rw[show vs.length-(vs.length-i)=i by omega,<-hst i hi]at h2;have h3:((stgF b (vs.take i)).length:Int)*1<=((stgF b (vs.take i)).length:Int)*upR (2*b.v+1) b.i.toNat:=Int.mul_le_mul_of_nonneg_left hup.1 (by omega);omega
 have hin:=zxl hk.1 hu;have hall:((allU vs b).length:Int)=cntF vs b:=by
  have h3:=hst vs.length zl;rw[List.take_length]at h3;rw[<-h3,<-hin];unfold allU
  induction stgF b vs with
  | nil=>simp
  | cons s st ih=>rw[List.flatMap_cons,List.length_append,List.length_map,List.length_cons];push_cast;rw[ih,Int.add_mul];omega
 exact⟨fun i hi=>⟨(h1 i hi).1,by have:=ztX hk.1 (h1 i hi).1;have:=(h1 i hi).1;omega⟩,fun i hi=>⟨hst i hi,hle i hi⟩,⟨hin,by omega⟩,⟨hall,by omega⟩⟩
theorem zpZ(a b:Int)(w:World)(ha:1<=a/\a<=1099511627777)(hb:1<=b/\b<=1099511627777):Calls prog 50 #[.int .i64 a,.int .i64 b] w fun e w'=>e=.returned (.int .i64 (timR a b))/\w'=w:=by
 have e0:(a != 0)=true:=by simp;omega
 have e1:(a==0)=false:=by simp;omega
 have hq:=Int.tdiv_eq_ediv_of_nonneg (a:=1099511627776) (b:=a) (by decide);have hq2:0<=(1099511627776:Int) / a/\(1099511627776:Int) / a<=1099511627776:=⟨Int.ediv_nonneg (by decide) (by omega),Int.ediv_le_self _ (by decide)⟩
 have hw:IntKind.i64.wrap ((1099511627776:Int).tdiv a)=(1099511627776:Int).tdiv a:=IntWalk.i64_in _ (by rw[hq];omega);by_cases h:(1099511627776:Int).tdiv a<b
 ·have HT:=zh (show timR a b=1099511627777 by unfold timR;rw[if_pos ⟨by omega,h⟩]);clear hq hq2;go_enter func50,ntmps50;go_wp2_with fail;go_ret;exact⟨by rw[HT.out];rfl,rfl⟩
 ·have HT:=zh (show timR a b=a*b by unfold timR;rw[if_neg fun h2=>h h2.2]);have hm:IntKind.i64.wrap (a*b)=a*b:=IntWalk.i64_in _ (by have:=zpl ha hb;rw[HT.out]at this;omega);clear hq hq2;go_enter func50,ntmps50;go_wp2_with fail;go_ret;exact⟨by rw[HT.out];rfl,rfl⟩
theorem zp8(b:Int)(n:Nat)(w:World)(hb:1<=b/\b<=2001)(hn:n<=1000):Calls prog 51 #[.int .i64 b,.int .i64 (n:Int)] w fun e w'=>e=.returned (.int .i64 (powR b n))/\w'=w:=by
 have HT:=zh (fun i w'=>zpZ (powR b i) b w' (zmb hb i) (by omega));have HB:=zh hb;clear hb;go_enter func51,ntmps51;go_wp2_with fail
 go_loopw [6,5] (fun i s wr=>∃j:Nat,j<=n/\i=.int .i64 j/\s=.int .i64 (powR b j)/\wr=w) (fun i _ _=>n-(intOf i).toNat)
 case atStart=>exact⟨0,by omega,rfl,rfl,rfl⟩
 case round =>
  obtain⟨j,hj,rfl,rfl,rfl⟩:=hrel;by_cases hlt:j<n
  ·have hj1:(j:Int)<(n:Int):=by omega
   have hj0:(0:Int)<=(j:Int):=by omega
   go_wp2_with fail;refine(HT.out j _).mono ?_;rintro e w1 ⟨rfl,rfl⟩;go_wp2_with fail
   go_roundw
   case rel=>exact⟨j+1,by omega,by go_num,rfl,trivial⟩
   case measure=>simp[intOf];omega
  ·obtain rfl:j=n:=by omega
   have hj1:¬ (j:Int)<(j:Int):=by omega
   go_wp2_with fail;go_ret;simp
theorem zvE(b:Int)(n:Nat)(w:World)(hb:1<=b/\b<=2001)(hn:n<=1000):Calls prog 49 #[.int .i64 b,.int .i64 (n:Int)] w fun e w'=>e=.returned (.int .i64 (upR b n))/\w'=w:=by
 have HT:=zh (fun i w' (hi:i<=1000)=>zp8 b i w' hb hi);have HB:=zh hb;clear hb;go_enter func49,ntmps49;go_wp2_with fail
 go_loopw [6,5] (fun i s wr=>∃(j:Nat) (x:Int),j<=n+1/\i=.int .i64 j/\s=.int .i64 x/\(0<=x/\x<=1099511627776)/\wr=w/\Hid (upR b n=upA b x ((List.range (n+1)).drop j))) (fun i _ _=>n+1-(intOf i).toNat)
 case atStart=>exact⟨0,0,by omega,rfl,rfl,by omega,rfl,zh rfl⟩
 case round =>
  obtain⟨j,x,hj,rfl,rfl,hx,rfl,HU⟩:=hrel;by_cases hlt:j<=n
  ·have hj1:(j:Int)<=(n:Int):=by omega
   have hj0:(0:Int)<=(j:Int):=by omega
   go_wp2_with fail;refine(HT.out j _ (by omega)).mono ?_;rintro e w1 ⟨rfl,rfl⟩;have hp:=zmb HB.out j;obtain⟨y,hy⟩:=zX (powR b j);have HU2:=zh (show upR b n=if 1099511627776<x+y then 1099511627777 else upA b (x+y) ((List.range (n+1)).drop (j+1)) by
    rw[HU.out,List.drop_eq_getElem_cons (by simp;omega),List.getElem_range,upA,hy])
   rw[hy]at hp ⊢;have hw:IntKind.i64.wrap (x+y)=x+y:=IntWalk.i64_in _ (by omega);by_cases hg:1099511627776<x+y
   ·go_wp2_with fail;go_ret;exact⟨by rw[HU2.out,if_pos hg];rfl,rfl⟩
   ·go_wp2_with fail
    go_roundw
    case rel=>exact⟨j+1,x+y,by omega,by go_num,rfl,by omega,trivial,zh (by rw[HU2.out,if_neg (by omega)])⟩
    case measure=>simp[intOf];omega
  ·obtain rfl:j=n+1:=by omega
   have hj1:¬ ((n+1:Nat):Int)<=(n:Int):=by omega
   go_wp2_with fail;go_ret;exact⟨by rw[HU.out,List.drop_eq_nil_of_le (by simp)];rfl,rfl⟩
theorem zxJ{v:VD}(h:vdB v=true):(v.k=1/\v.n=0)\/(v.k=2/\1<=v.n/\v.n<=16)\/(v.k=3/\v.n=0):=by
 unfold vdB at h;by_cases h1:v.k=1\/v.k=3
 ·rw[if_pos h1]at h;have h:=eq_of_beq h;rcases h1 with h1|h1
  ·exact .inl ⟨h1,h⟩
  ·exact .inr (.inr ⟨h1,h⟩)
 ·rw[if_neg h1]at h;by_cases h2:v.k=2
  ·rw[if_pos h2]at h;exact .inr (.inl ⟨h2,of_decide_eq_true h⟩)
  ·rw[if_neg h2]at h;cases h
theorem zvI{vs:List VD}(h:svB vs=true):vs.length<=32/\∀v∈vs,vdB v=true:=by
 unfold svB at h;simp only[Bool.and_eq_true,decide_eq_true_eq,List.all_eq_true]at h;exact h
theorem zsV(vs:List VD)(b:BX)(A:Option Addr)(c:Nat)(w:World)(hr:RowV w Any A vs)(hok:(b.ok&&svB vs)=true) :
  Calls prog 24 #[.slice A vs.length c,.int .i64 b.v,.int .i64 b.l,.int .i64 b.i] w fun e w'=>e=.returned (.int .i64 (cntF vs b))/\w'=w:=by
 simp only[Bool.and_eq_true]at hok;have hb:=zmc hok.1;obtain⟨hn,hvd⟩:=zvI hok.2;have HB:=zh hb;have HV:=zh hvd;have HC:=zh (fun i (hi:i<=vs.length)=>znT hok.1 (vs.take i));obtain⟨V,hV⟩:=zX (b.v);obtain⟨nl,hnl⟩:∃nl:Nat,b.l=(nl:Int):=⟨b.l.toNat,by omega⟩
 obtain⟨ni,hni⟩:∃ni:Nat,b.i=(ni:Int):=⟨b.i.toNat,by omega⟩
 have dI:=zh (And.intro hV (And.intro hnl hni));have wo:=zh (fun n w' (h:n<=1000)=>zvE (2*V+1) n w' (by omega) h);have yV:=zh (fun n w' (h:n<=1000)=>zp8 (2*V+1) n w' (by omega) h);have BH:=zh (fun i v w' (hi:i<=vs.length)=>zpZ (cntF (vs.take i) b) (cnt1 b v) w' (znT hok.1 (vs.take i)) (znU hb.1 v));have wu:=zh (fun i (hi:i<vs.length)=>znc (b:=b) hi);have jl:=zh (fun v=>show cnt1 b v=if v.k=1 then 2*V+1 else if v.k=2 then powR (2*V+1) v.n.toNat else upR (2*V+1) nl by unfold cnt1;rw[hV,hnl];rfl);have bG:=zh (show cntF (vs.take 0) b=upR (2*V+1) ni by unfold cntF;rw[hV,hni];rfl);have e1:IntKind.i64.wrap (2*V)=2*V:=IntWalk.i64_in _ (by omega);have e2:IntKind.i64.wrap (2*V+1)=2*V+1:=IntWalk.i64_in _ (by omega);have hnl3:nl<=1000:=by omega
 have hni3:ni<=1000:=by omega
 have HR:=zh hr;have HT:=zh (show cntF (vs.take vs.length) b=cntF vs b by rw[List.take_length]);obtain⟨CF,hCF⟩:∃CF:Nat->Int,∀i,cntF (vs.take i) b=CF i:=⟨fun i=>cntF (vs.take i) b,fun _=>rfl⟩
 simp only[hCF]at HC BH wu bG HT;rw[<-HT.out,hV,hnl,hni];obtain⟨C1,bC⟩:∃C1:VD->Int,∀v,cnt1 b v=C1 v:=⟨fun v=>cnt1 b v,fun _=>rfl⟩
 simp only[bC]at BH wu jl;clear hok hb hvd hr hV hnl hni hCF bC;obtain⟨n,hn'⟩:=zX (vs.length);have HN:=zh hn';rw[hn']at hn ⊢;clear hn';go_enter func24,ntmps24;go_wp2_with fail;refine(wo.out ni w hni3).mono ?_;rintro e w1 ⟨rfl,rfl⟩;rw[<-bG.out];go_wp2_with fail
 go_loopw [10,9] (fun i s wr=>∃j:Nat,j<=n/\i=.int .i64 j/\s=.int .i64 (CF j)/\wr=w1) (fun i _ _=>n-(intOf i).toNat)
 case atStart=>exact⟨0,by omega,rfl,rfl,rfl⟩
 case round =>
  obtain⟨j,hj,rfl,rfl,rfl⟩:=hrel;by_cases hlt:j<n
  ·have hj1:(j:Int)<(n:Int):=by omega
   have hj0:(0:Int)<=(j:Int):=by omega
   have dJ:j<vs.length:=by rw[HN.out];exact hlt
   obtain⟨a,v,rfl,-,hv,⟨x0,x1,x2⟩,-⟩:=HR.out.nd dJ;have hvb:=zxJ (HV.out _ (List.getElem_mem dJ));have oC:=BH.out j v wr (by omega);have htk:=wu.out j dJ;have hc1:=jl.out v;rw[hv.out]at hvb htk;rw[<-htk]at oC;clear htk hv dJ;obtain⟨v0,v1,v2⟩:=v;simp only at x0 x1 x2 hvb hc1;rcases hvb with⟨rfl,rfl⟩|⟨rfl,hn1,hn2⟩|⟨rfl,rfl⟩
   ·rw[if_pos rfl]at hc1;rw[hc1]at oC;have nH:=zh oC;clear oC hc1;go_wp2_with fail;refine nH.out.mono ?_;rintro e w2 ⟨rfl,rfl⟩;go_wp2_with fail
    go_roundw
    case rel=>exact⟨j+1,by omega,by go_num,rfl,trivial⟩
    case measure=>simp[intOf];omega
   ·rw[if_neg (by decide),if_pos rfl]at hc1;obtain⟨m,rfl⟩:∃m:Nat,v2=(m:Int):=⟨v2.toNat,by omega⟩
    rw[show((m:Int)).toNat=m from rfl]at hc1;have hm:m<=1000:=by omega
    rw[hc1]at oC;have nH:=zh oC;clear oC hc1;go_wp2_with fail;refine(yV.out m wr hm).mono ?_;rintro e w2 ⟨rfl,rfl⟩;go_wp2_with fail;refine nH.out.mono ?_;rintro e w2 ⟨rfl,rfl⟩;go_wp2_with fail
    go_roundw
    case rel=>exact⟨j+1,by omega,by go_num,rfl,trivial⟩
    case measure=>simp[intOf];omega
   ·rw[if_neg (by decide),if_neg (by decide)]at hc1;rw[hc1]at oC;have nH:=zh oC;clear oC hc1;go_wp2_with fail;refine(wo.out nl wr hnl3).mono ?_;rintro e w2 ⟨rfl,rfl⟩;go_wp2_with fail;refine nH.out.mono ?_;rintro e w2 ⟨rfl,rfl⟩;go_wp2_with fail
    go_roundw
    case rel=>exact⟨j+1,by omega,by go_num,rfl,trivial⟩
    case measure=>simp[intOf];omega
  ·obtain rfl:j=n:=by omega
   have hj1:¬ (j:Int)<(j:Int):=by omega
   go_wp2_with fail;go_ret;exact⟨rfl,rfl⟩
theorem zvD{v:VD}(h:(v.k=1/\v.n=0)\/(v.k=2/\1<=v.n/\v.n<=16)\/(v.k=3/\v.n=0)):vdB v=true:=by
 unfold vdB;rcases h with⟨h1,h2⟩|⟨h1,h2⟩|⟨h1,h2⟩
 ·rw[if_pos (.inl h1),h2];rfl
 ·rw[if_neg (by omega),if_pos h1];exact decide_eq_true h2
 ·rw[if_pos (.inr h1),h2];rfl
theorem ztg{v:VD}(h:¬ ((v.k=1/\v.n=0)\/(v.k=2/\1<=v.n/\v.n<=16)\/(v.k=3/\v.n=0))):vdB v=false:=by
 cases e:vdB v with
 | false=>rfl
 | true=>exact absurd (zxJ e) h
theorem zxR{vs:List VD}{i:Nat}(hi:i<vs.length)(h:vdB vs[i]=false):svB vs=false:=by
 cases e:svB vs with
 | false=>rfl
 | true=>rw[(zvI e).2 _ (List.getElem_mem hi)]at h;cases h
theorem zxS{vs:List VD}{n:Nat}(hn:vs.length=n)(h32:n<=32)(h:∀i (hi:i<vs.length),vdB vs[i]=true):svB vs=true:=by
 unfold svB;simp only[Bool.and_eq_true,decide_eq_true_eq,List.all_eq_true];exact⟨by omega,fun v hv=>by obtain⟨i,hi,rfl⟩:=List.mem_iff_getElem.1 hv;exact h i hi⟩
theorem zx6{b:BX}(h:((0<=b.v/\b.v<=1000)/\(0<=b.l/\b.l<=1000)/\0<=b.i/\b.i<=1000)):b.ok=true:=by
 simp only[BX.ok,okI,Bool.and_eq_true,decide_eq_true_eq];omega
theorem zvY{b:BX}(h:¬ ((0<=b.v/\b.v<=1000)/\(0<=b.l/\b.l<=1000)/\0<=b.i/\b.i<=1000)):b.ok=false:=by
 cases e:b.ok with
 | false=>rfl
 | true=>exact absurd (zmc e) h
theorem zsU(vs:List VD)(b:BX)(A:Option Addr)(c:Nat)(w:World)(hr:RowV w Any A vs)(hl:vs.length<=LV) :
  Calls prog 23 #[.slice A vs.length c,.int .i64 b.v,.int .i64 b.l,.int .i64 b.i] w fun e w'=>e=.returned (.bool (b.ok&&svB vs))/\Below w.heap.size w w':=by
 have hl1:=zkV hl;have HR:=zh hr;obtain⟨RR,hRR⟩:=zX ((b.ok&&svB vs));have HRR:=zh hRR;rw[hRR];obtain⟨V,hV⟩:=zX (b.v);obtain⟨L,hL⟩:=zX (b.l);obtain⟨I,hI⟩:=zX (b.i);have yZ:=zh (fun h=>zx6 (b:=b) h);have uT:=zh (fun h=>zvY (b:=b) h);have nJ:=zh (fun(n:Nat)=>zxS (vs:=vs) (n:=n));rw[hV,hL,hI]at yZ uT ⊢;clear hr hl hRR hV hL hI;obtain⟨n,hn⟩:=zX (vs.length);have HN:=zh hn;rw[hn]at hl1 ⊢;clear hn;go_enter func23,ntmps23;by_cases h32:32<n
 ·have h32i:(32:Int)<(n:Int):=by omega
  go_wp2_with fail;go_ret;exact⟨by rw[<-HRR.out,show svB vs=false by { cases e:svB vs with|false=>rfl|true=>have:=(zvI e).1;have:=HN.out;omega },Bool.and_false];rfl,zr⟩
 have h32i:¬ (32:Int)<(n:Int):=by omega
 go_wp2_with fail
 go_loopw [9] (fun i wr=>∃j:Nat,j<=n/\i=.int .i64 j/\Hid (Below w.heap.size w wr)/\Hid (∀i (hi:i<vs.length),i<j->vdB vs[i]=true)) (fun i _=>n-(intOf i).toNat)
 case atStart=>exact⟨0,by omega,rfl,zh zr,zh fun i _ h=>by omega⟩
 case round =>
  obtain⟨j,hj,rfl,af,HE⟩:=hrel;by_cases hlt:j<n
  ·have hj1:(j:Int)<(n:Int):=by omega
   have hj0:(0:Int)<=(j:Int):=by omega
   have dJ:j<vs.length:=by rw[HN.out];exact hlt
   obtain⟨a,v,rfl,-,hv,⟨x0,x1,x2⟩,hfl⟩:=(HR.out.later af.out).nd dJ;have BD:=zh (fun h=>(congrArg vdB hv.out).trans (zvD (v:=v) h));have nG:=zh (fun h=>zxR dJ ((congrArg vdB hv.out).trans (ztg (v:=v) h)));have HJ:=zh dJ;obtain⟨v0,v1,v2⟩:=v;have hk:=hfl.2.1;simp only at x0 x1 x2 BD nG hk;have hk1:=heap_alloc_new wr (.cells #[.string v0,.int .u8 v1,.int .i64 v2] 38);have rP:=zh (zkb af.out (.cells #[.string v0,.int .u8 v1,.int .i64 v2] 38));obtain⟨wm,vN⟩:=zX (wr.alloc (.cells #[.string v0,.int .u8 v1,.int .i64 v2] 38));rw[vN]at hk1 rP;obtain⟨y0,y1,y2⟩:=zlC hk1;clear hv hfl hk1;by_cases c1:v1<1
   ·go_wp2_with fail;go_ret;exact⟨by rw[<-HRR.out,nG.out (by omega),Bool.and_false];rfl,rP.out⟩
   by_cases c2:3<v1
   ·go_wp2_with fail;go_ret;exact⟨by rw[<-HRR.out,nG.out (by omega),Bool.and_false];rfl,rP.out⟩
   by_cases c3:v1=2
   ·subst c3;by_cases c4:v2<1
    ·go_wp2_with fail;go_ret;exact⟨by rw[<-HRR.out,nG.out (by omega),Bool.and_false];rfl,rP.out⟩
    by_cases c5:16<v2
    ·go_wp2_with fail;go_ret;exact⟨by rw[<-HRR.out,nG.out (by omega),Bool.and_false];rfl,rP.out⟩
    go_wp2_with fail
    go_roundw
    case rel =>
     refine⟨j+1,by omega,by go_num,rP,zh fun i hi hij=>?_⟩;by_cases e:i<j
     ·exact HE.out i hi e
     ·obtain rfl:i=j:=by omega
      exact BD.out (by omega)
    case measure=>simp[intOf];omega
   ·have c3b:(v1==2)=false:=by simpa using c3
    have c3c:(v1 != 2)=true:=by simpa using c3
    by_cases c4:v2=0;rotate_left 1
    ·have c4b:(v2 != 0)=true:=by simpa using c4
     go_wp2_with fail;go_ret;exact⟨by rw[<-HRR.out,nG.out (by omega),Bool.and_false];rfl,rP.out⟩
    ·have c4b:(v2 != 0)=false:=by simpa using c4
     have bA:=zh c4;clear c4;go_wp2_with fail
     go_roundw
     case rel =>
      refine⟨j+1,by omega,by go_num,rP,zh fun i hi hij=>?_⟩;by_cases e:i<j
      ·exact HE.out i hi e
      ·obtain rfl:i=j:=by omega
       exact BD.out (by have:=bA.out;omega)
     case measure=>simp[intOf];omega
  ·obtain rfl:j=n:=by omega
   have hj1:¬ (j:Int)<(j:Int):=by omega
   by_cases g1:0<=V;rotate_left 1
   ·go_wp2_with fail;go_ret;exact⟨by rw[<-HRR.out,show b.ok=false from uT.out (by omega)];rfl,af.out⟩
   by_cases g2:V<=1000;rotate_left 1
   ·go_wp2_with fail;go_ret;exact⟨by rw[<-HRR.out,show b.ok=false from uT.out (by omega)];rfl,af.out⟩
   by_cases g3:0<=L;rotate_left 1
   ·go_wp2_with fail;go_ret;exact⟨by rw[<-HRR.out,show b.ok=false from uT.out (by omega)];rfl,af.out⟩
   by_cases g4:L<=1000;rotate_left 1
   ·go_wp2_with fail;go_ret;exact⟨by rw[<-HRR.out,show b.ok=false from uT.out (by omega)];rfl,af.out⟩
   by_cases g5:0<=I;rotate_left 1
   ·go_wp2_with fail;go_ret;exact⟨by rw[<-HRR.out,show b.ok=false from uT.out (by omega)];rfl,af.out⟩
   by_cases g6:I<=1000;rotate_left 1
   ·go_wp2_with fail;go_ret;exact⟨by rw[<-HRR.out,show b.ok=false from uT.out (by omega)];rfl,af.out⟩
   go_wp2_with fail;go_ret;exact⟨by rw[<-HRR.out,show b.ok=true from yZ.out (by omega),nJ.out _ HN.out (by omega) fun i hi=>HE.out i hi (by have:=HN.out;omega)];rfl,af.out⟩
attribute [local go_sem] Oper.semAt_some
mutual
/-- How many nodes are left of a budget. -/
def szR:T->Int->Int
 | .nd _ _ _ ks,l=>szRs ks (l-1)
def szRs:List T->Int->Int
 | [],l=>l
 | t::ts,l=>if l<0 then l else szRs ts (szR t l)
end
theorem zrF:∀(m:Nat) (t:T) (l:Int),size t<=m->0<=l -> -1<=szR t l/\szR t l<=l
 | 0,.nd k n s ks,l,h,_=>by rw[size]at h;omega
 | m+1,.nd k n s ks,l,h,h0=>by
  rw[szR];rw[size]at h;have key:∀(us:List T) (l:Int),zkU us<=m -> -1<=l -> -1<=szRs us l/\szRs us l<=l:=by
   intro us
   induction us with
   | nil=>intro l _ h1;rw[szRs];exact⟨h1,Int.le_refl _⟩
   | cons u us ih =>
    intro l hs h1;rw[zkU]at hs;rw[szRs]
    split
    ·exact⟨h1,Int.le_refl _⟩
    ·have h2:=zrF m u l (by omega) (by omega);have h3:=ih (szR u l) (by omega) h2.1;exact⟨h3.1,by omega⟩
  have:=key ks (l-1) (by omega) (by omega);exact⟨this.1,by omega⟩
theorem zrE:∀(ts:List T) (l:Int),-1<=l->0<=szRs ts l->(ts.length:Int)<=l
 | [],l,_,h=>by rw[szRs]at h;simpa using h
 | t::ts,l,h0,h=>by
  rw[szRs]at h
  split at h
  ·omega
  ·rename_i hl;obtain⟨k,n,s,ks⟩:=t;have h1 : -1<=szR (.nd k n s ks) l/\szR (.nd k n s ks) l<=l-1:=by
    rw[szR];have h2:=zrF _ (.nd k n s ks) l zl (by omega);rw[szR]at h2;refine⟨h2.1,?_⟩;rcases Int.lt_or_le (l-1) 0 with h3|h3
    ·cases ks with
     | nil=>rw[szRs];exact Int.le_refl _
     | cons u us=>rw[szRs,if_pos h3];exact Int.le_refl _
    ·have key:∀(us:List T) (l:Int),-1<=l -> -1<=szRs us l/\szRs us l<=l:=by
      intro us
      induction us with
      | nil=>intro l h1;rw[szRs];exact⟨h1,Int.le_refl _⟩
      | cons u us ih =>
       intro l h1;rw[szRs]
       split
       ·exact⟨h1,Int.le_refl _⟩
       ·have h2:=zrF _ u l zl (by omega);have h3:=ih (szR u l) h2.1;exact⟨h3.1,by omega⟩
     exact(key ks (l-1) (by omega)).2
   have:=zrE ts _ h1.1 h;simp only[List.length_cons];omega
theorem zxQ{t:T}(h:0<=szR t 100):t.ks.length<=100:=by
 obtain⟨k,n,s,ks⟩:=t;rw[szR]at h;have:=zrE ks 99 (by decide) h
 show ks.length<=100
 omega
theorem zoQ:∀(t:T) (v:Value) (l:Int) (w:World),NV w Any t v->0<=l->l<=1000->Calls prog 48 #[v,.int .i64 l] w fun e w'=>e=.returned (.int .i64 (szR t l))/\Below w.heap.size w w':=by
 intro t
 induction t using T.ind with
 | _ k n s ks ih =>
  intro v l w hv h0 h1;obtain⟨A,c,rfl,hf,hlk,hlc,hrow⟩:=hv.open_;have IH:=zh ih;have ae:=zh hrow;have hw1:IntKind.i64.wrap (l-1)=l-1:=IntWalk.i64_in _ (by omega);have hb1:=zkb (zs w) (.cells #[.int .u8 k,.int .i64 n,.string s,.slice A ks.length c] 28);have k1:=heap_alloc_new w (.cells #[.int .u8 k,.int .i64 n,.string s,.slice A ks.length c] 28);obtain⟨w1,hw⟩:=zX (w.alloc (.cells #[.int .u8 k,.int .i64 n,.string s,.slice A ks.length c] 28));obtain⟨r,hr⟩:=zX (szR (.nd k n s ks) l);have HR:=zh (show szRs (ks.drop 0) (l-1)=r by rw[<-hr,szR,List.drop_zero]);rw[hr];rw[hw]at hb1 k1;have HB1:=zh hb1;have aB:=zh k1;simp only[T.k_nd,T.n_nd,T.s_nd,T.ks_nd]at hlk hlc ⊢;have hlk2:ks.length<=17592186044416:=by unfold LK at hlk;omega
  clear hv hf hlk hrow ih hr hb1 k1;go_enter func48,ntmps48;go_wp2_with fail;clear hw
  go_loopw [5,1] (fun i q wr=>∃(j:Nat) (x:Int),j<=ks.length/\i=.int .i64 j/\q=.int .i64 x /\ -1<=x/\x<=1000/\Hid (Below w1.heap.size w1 wr)/\Hid (szRs (ks.drop j) x=r)) (fun i _ _=>ks.length-(intOf i).toNat)
  case atStart=>exact⟨0,l-1,Nat.zero_le _,rfl,rfl,by omega,by omega,zh zr,HR⟩
  case round =>
   obtain⟨j,x,hj,rfl,rfl,hx1,hx2,af,HJ⟩:=hrel;have hk:=zkc aB.out af.out;have z3:wr.cell? ⟨w.heap.size,3,none⟩=some (.slice A ks.length c):=zc hk rfl;by_cases hlt:j<ks.length
   ·have hj1:(j:Int)<(ks.length:Int):=by omega
    have hj0:(0:Int)<=(j:Int):=by omega
    by_cases hx:0<=x
    ·have hbb:=zka HB1.out af.out;obtain⟨a,u,Au,cu,rfl,-,Hu,⟨p0,p1,p2,p3⟩,hn⟩:=ae.out.nd hlt;have q0:=zb hbb p0;have q1:=zb hbb p1;have q2:=zb hbb p2;have q3:=zb hbb p3;have HS:=zh (IH.out u (by rw[<-Hu.out];exact List.getElem_mem hlt) _ x wr (hn.later hbb) hx hx2);have HJ2:=zh (show szRs (ks.drop (j+1)) (szR u x)=r by
      have h5:=HJ.out;rw[List.drop_eq_getElem_cons hlt]at h5;rw[szRs,if_neg (by omega)]at h5;rw[<-h5];have:=Hu.out;simp only[T.ks_nd]at this;rw[this])
     have HL:=zh (zrF _ u x zl hx);clear p0 p1 p2 p3 hn hbb HJ hk;go_wp2_with fail;refine HS.out.mono ?_;rintro e w2 ⟨rfl,hb2⟩;have HB2:=zh (zka af.out hb2);obtain⟨y,hy⟩:=zX (szR u x);rw[hy]at HJ2 HL ⊢;clear hb2 HS q0 q1 q2 q3 z3 hy;go_wp2_with fail
     go_roundw
     case rel=>exact⟨j+1,y,by omega,by go_num,rfl,HL.out.1,by have:=HL.out.2;omega,HB2,HJ2⟩
     case measure=>simp[intOf];omega
    ·have hx':¬ (0:Int)<=x:=hx;have HJ2:=zh (show x=r by
      have h5:=HJ.out;rw[List.drop_eq_getElem_cons hlt,szRs,if_pos (by omega)]at h5;exact h5)
     clear HJ hk;go_wp2_with fail;go_ret;exact⟨by rw[HJ2.out];rfl,zka HB1.out af.out⟩
   ·have hj1:¬ (j:Int)<(ks.length:Int):=by omega
    have HJ2:=zh (show x=r by
     have h5:=HJ.out;rw[List.drop_eq_nil_of_le (by omega),szRs]at h5;exact h5)
    clear HJ hk;go_wp2_with fail;go_ret;exact⟨by rw[HJ2.out];rfl,zka HB1.out af.out⟩
def SmlP(p:PG)(W:World)(e:Ending)(w':World):Prop:=∃b:Bool,e=.returned (.bool b)/\(b=true->p.vs.length<=6/\p.m.ks.length<=100)/\Below W.heap.size W w'
theorem zn2(p:PG)(v:Value)(W:World)(hp:PV W Any p v):Calls prog 22 #[v] W (SmlP p W):=by
 obtain⟨A1,c1,A2,c2,A3,c3,rfl,jE⟩:=hp;have xM:=zh jE;have hb2:=zkb (zs W) (.cells #[.slice A1 p.vs.length c1,.slice A2 p.prs.length c2,.int .u8 p.m.k,.int .i64 p.m.n,.string p.m.s,.slice A3 p.m.ks.length c3] 30);have k0:=heap_alloc_new W (.cells #[.slice A1 p.vs.length c1,.slice A2 p.prs.length c2,.int .u8 p.m.k,.int .i64 p.m.n,.string p.m.s,.slice A3 p.m.ks.length c3] 30);obtain⟨w2,hw2⟩:=zX (W.alloc (.cells #[.slice A1 p.vs.length c1,.slice A2 p.prs.length c2,.int .u8 p.m.k,.int .i64 p.m.n,.string p.m.s,.slice A3 p.m.ks.length c3] 30));rw[hw2]at hb2 k0;have HB2:=zh hb2;have aH:=zh k0;obtain⟨p0,p1,p2,p3,p4,p5⟩:=box6 k0;have hlp:=zkV jE.lp;have nI:=zh (zoQ p.m _ 100 w2 (jE.main.later hb2) (by omega) (by omega));obtain⟨x,hx⟩:=zX (szR p.m 100);rw[hx]at nI;have HX:=zh (show 0<=x->p.m.ks.length<=100 from fun h=>zxQ (hx▸h));have hpgl:=jE.lv;clear jE hb2 k0 hx
 go_enter func22,ntmps22;by_cases h1:(4:Int)<(p.prs.length:Int)
 ·go_wp2_with fail;go_ret;exact⟨_,rfl,nofun,HB2.out⟩
 have hlv:=zkV hpgl;by_cases h1v:(6:Int)<(p.vs.length:Int)
 ·go_wp2_with fail;go_ret;exact⟨_,rfl,nofun,HB2.out⟩
 go_wp2_with fail;refine nI.out.mono ?_;rintro e3 w3 ⟨rfl,hb3⟩;have HB3:=zh (zka HB2.out hb3);have kp:=zkc aH.out hb3;obtain⟨-,q1,-⟩:=box6 kp;clear hb3 nI kp p0 p1 p2 p3 p4 p5 hw2;by_cases h3:x<0
 ·go_wp2_with fail;go_ret;exact⟨_,rfl,nofun,HB3.out⟩
 go_wp2_with fail
 go_loopw [24,4] (fun i _ wr=>∃j:Nat,j<=p.prs.length/\i=.int .i64 j/\Hid (Below w3.heap.size w3 wr)) (fun i _ _=>p.prs.length-(intOf i).toNat)
 case atStart=>exact⟨0,Nat.zero_le _,rfl,zh zr⟩
 case round =>
  obtain⟨j,hj,rfl,af⟩:=hrel;by_cases hlt:j<p.prs.length
  ·have hj1:(j:Int)<(p.prs.length:Int):=by omega
   have hj0:(0:Int)<=(j:Int):=by omega
   have hbb:=zka HB3.out af.out;obtain⟨pa,q,B1,d1,B2,d2,rfl,-,Hq,⟨y0,y1,y2,y3,y4,y5⟩,hpr⟩:=(xM.out.procs.later hbb).nd hlt;have hbz:=zkb af.out (.cells #[.string q.s,.slice B1 q.ps.length d1,.int .u8 q.b.k,.int .i64 q.b.n,.string q.b.s,.slice B2 q.b.ks.length d2] 100);have hbw:=zkb (zs wr) (.cells #[.string q.s,.slice B1 q.ps.length d1,.int .u8 q.b.k,.int .i64 q.b.n,.string q.b.s,.slice B2 q.b.ks.length d2] 100);have nI:=zh (zoQ q.b _ 100 _ (hpr.body.later hbw) (by omega) (by omega));obtain⟨z,hz⟩:=zX (szR q.b 100);rw[hz]at nI;have zk:=zh hbz;clear hbb hpr hbz hbw hz;go_wp2_with fail;refine nI.out.mono ?_;rintro e4 w4 ⟨rfl,hb4⟩;have ax:=zh (zka zk.out hb4);clear hb4 nI y0 y1 y2 y3 y4 y5;by_cases hz:z<0
   ·go_wp2_with fail;go_ret;exact⟨_,rfl,nofun,zka HB3.out ax.out⟩
   ·go_wp2_with fail
    go_roundw
    case rel=>exact⟨j+1,by omega,by go_num,ax⟩
    case measure=>simp[intOf];omega
  ·have hj1:¬ (j:Int)<(p.prs.length:Int):=by omega
   go_wp2_with fail;go_ret;exact⟨_,rfl,fun _=>⟨by omega,HX.out (by omega)⟩,zka HB3.out af.out⟩
def GrtP(e:EX)(q:PG)(W:World)(en:Ending)(w':World):Prop:=∃g:Bool,en=.returned (.bool g)/\(g=false->e.gv.vs.length<=6/\e.fu<=300/\(e.bx.ok&&svB e.gv.vs)=true/\cntF e.gv.vs e.bx<=60/\q.m.ks.length<=100/\q.vs.length<=6)/\Below W.heap.size W w'
theorem zrf{W:World}{e:EX}{q:PG}{ev qv:Value}(he:EV W Any e ev)(hq:PV W Any q qv):Calls prog 9 #[ev,qv] W (GrtP e q W):=by
 obtain⟨A1,c1,A2,c2,A3,c3,rfl,hg,hI⟩:=he;have HSE:=zh (fun w' (h:Below W.heap.size W w')=>zn2 e.gv _ w' (hg.later h).pv);have HSQ:=zh (fun w' (h:Below W.heap.size W w')=>zn2 q _ w' (hq.later h));have dO:=zh (fun w' (h:Below W.heap.size W w')=>zsU e.gv.vs e.bx A1 c1 w' (hg.vars.later h) hg.lv);have lN:=zh (fun w' (h:Below W.heap.size W w') (hok:(e.bx.ok&&svB e.gv.vs)=true)=>zsV e.gv.vs e.bx A1 c1 w' (hg.vars.later h) hok);obtain⟨D1,e1,D2,e2,D3,e3,rfl,-⟩:=hq;obtain⟨ok,hok⟩:=zX ((e.bx.ok&&svB e.gv.vs));obtain⟨CN,iK⟩:=zX (cntF e.gv.vs e.bx);have nW:=zh (show ∀(g:Bool) w',Below W.heap.size W w'->(g=false->e.gv.vs.length<=6/\e.fu<=300/\ok=true/\CN<=60/\q.m.ks.length<=100/\q.vs.length<=6)->GrtP e q W (.returned (.bool g)) w' from fun g w' h1 h2=>⟨g,rfl,by rw[hok,iK];exact h2,h1⟩);rw[hok]at dO;simp only[hok,iK]at lN
 have hb2:=zkb (zkb (zkb (zs W) (.cells (exA e A1 c1 A2 c2 A3 c3) 32)) (.cells (pgA q D1 e1 D2 e2 D3 e3) 30)) (.cells #[.int .i64 e.bx.v,.int .i64 e.bx.l,.int .i64 e.bx.i] 23);have k0:=zkd (zkd (heap_alloc_new W (.cells (exA e A1 c1 A2 c2 A3 c3) 32)) (.cells (pgA q D1 e1 D2 e2 D3 e3) 30)) (.cells #[.int .i64 e.bx.v,.int .i64 e.bx.l,.int .i64 e.bx.i] 23);have k1:=zkd (heap_alloc_new (W.alloc (.cells (exA e A1 c1 A2 c2 A3 c3) 32)) (.cells (pgA q D1 e1 D2 e2 D3 e3) 30)) (.cells #[.int .i64 e.bx.v,.int .i64 e.bx.l,.int .i64 e.bx.i] 23);have k2:=heap_alloc_new ((W.alloc (.cells (exA e A1 c1 A2 c2 A3 c3) 32)).alloc (.cells (pgA q D1 e1 D2 e2 D3 e3) 30)) (.cells #[.int .i64 e.bx.v,.int .i64 e.bx.l,.int .i64 e.bx.i] 23);have kx:=heap_alloc_new W (.cells (exA e A1 c1 A2 c2 A3 c3) 32)
 obtain⟨x0,x1,x2,x3,x4,x5,x6,x7,x8,x9,aF,aD⟩:=zmj (zkd kx (.cells (pgA q D1 e1 D2 e2 D3 e3) 30));clear kx hg;go_enter func9,ntmps9;go_upto_region 2 with fail;obtain⟨w2,hw2⟩:=zX (((W.alloc (.cells (exA e A1 c1 A2 c2 A3 c3) 32)).alloc (.cells (pgA q D1 e1 D2 e2 D3 e3) 30)).alloc (.cells #[.int .i64 e.bx.v,.int .i64 e.bx.l,.int .i64 e.bx.i] 23));rw[hw2]at hb2 k0 k1 k2
 try rw[hw2]
 simp only[World.size_alloc,Nat.add_assoc,Nat.reduceAdd]at k1 k2;obtain⟨N,hN⟩:=zX (W.heap.size);rw[hN]at k0 k1 k2
 try rw[hN]
 try simp only[Nat.add_assoc,Nat.reduceAdd]
 clear x0 x1 x2 x3 x4 x5 x6 x7 x8 x9 aF aD hw2 hN hok iK;have HB:=zh hb2;have bV:=zh (fun w' (h:Below w2.heap.size w2 w')=>zmj (zkc k0 h));have bY:=zh (fun w' (h:Below w2.heap.size w2 w')=>box6 (zkc k1 h));have av:=zh (fun w' (h:Below w2.heap.size w2 w')=>zlC (zkc k2 h));have bF:=zh (zs w2);clear hb2 k0 k1 k2;obtain⟨x0,x1,x2,x3,x4,x5,x6,x7,x8,x9,aF,aD⟩:=bV.out _ bF.out;obtain⟨q0,q1,q2,q3,q4,q5⟩:=bY.out _ bF.out;obtain⟨y0,y1,y2⟩:=av.out _ bF.out;go_wp2_with fail;refine(HSE.out _ HB.out).mono ?_;rintro en w3 ⟨sb,rfl,hsb,hb3⟩;have bS:=zh hsb;have aN:=zh (zka bF.out hb3);clear hsb hb3;clear x0 x1 x2 x3 x4 x5 x6 x7 x8 x9 aF aD q0 q1 q2 q3 q4 q5 y0 y1 y2;obtain⟨x0,x1,x2,x3,x4,x5,x6,x7,x8,x9,aF,aD⟩:=bV.out _ aN.out;obtain⟨q0,q1,q2,q3,q4,q5⟩:=bY.out _ aN.out;obtain⟨y0,y1,y2⟩:=av.out _ aN.out
 cases sb
 ·go_wp2_with fail;go_ret;exact nW.out true _ (zka HB.out aN.out) nofun
 go_wp2_with fail;refine(HSQ.out _ (zka HB.out aN.out)).mono ?_;rintro en w4 ⟨sb,rfl,hsb,hb4⟩;have HS2:=zh hsb;have bA:=zh (zka aN.out hb4);clear hsb hb4;clear x0 x1 x2 x3 x4 x5 x6 x7 x8 x9 aF aD q0 q1 q2 q3 q4 q5 y0 y1 y2;obtain⟨x0,x1,x2,x3,x4,x5,x6,x7,x8,x9,aF,aD⟩:=bV.out _ bA.out;obtain⟨q0,q1,q2,q3,q4,q5⟩:=bY.out _ bA.out;obtain⟨y0,y1,y2⟩:=av.out _ bA.out
 cases sb
 ·go_wp2_with fail;go_ret;exact nW.out true _ (zka HB.out bA.out) nofun
 by_cases h300:(300:Int)<e.fu
 ·go_wp2_with fail;go_ret;exact nW.out true _ (zka HB.out bA.out) nofun
 go_wp2_with fail;refine(dO.out _ (zka HB.out bA.out)).mono ?_;rintro en w5 ⟨rfl,hb5⟩;have cz:=zh (zka bA.out hb5);clear hb5;clear x0 x1 x2 x3 x4 x5 x6 x7 x8 x9 aF aD q0 q1 q2 q3 q4 q5 y0 y1 y2;obtain⟨x0,x1,x2,x3,x4,x5,x6,x7,x8,x9,aF,aD⟩:=bV.out _ cz.out;obtain⟨q0,q1,q2,q3,q4,q5⟩:=bY.out _ cz.out;obtain⟨y0,y1,y2⟩:=av.out _ cz.out
 cases ok
 ·go_wp2_with fail;go_ret;exact nW.out true _ (zka HB.out cz.out) nofun
 go_wp2_with fail;refine(lN.out _ (zka HB.out cz.out) trivial).mono ?_;rintro en w6 ⟨rfl,rfl⟩;go_wp2_with fail;go_ret;refine nW.out _ _ (zka HB.out cz.out) fun h=>⟨(bS.out trivial).1,by omega,trivial,?_,(HS2.out trivial).2,(HS2.out trivial).1⟩
 have:e.fu<=300/\CN<=60:=by simpa using h
 exact this.2
end
section
open Go Go.RowKit
theorem zpJ{v:Int}(hv:0<=v)(a m:Nat):(betE v a m).length=nLst (2*v+1).toNat (a,m):=by
 have h1:=znW hv a m;have h2:∀l:List Nat,(((l.map fun i=>(2*v+1).toNat ^ (a+i)).sum:Nat):Int)=(l.map fun i=>(2*v+1) ^ (a+i)).sum:=by
  intro l
  induction l with
  | nil=>rfl
  | cons i l ih =>
   rw[List.map_cons,List.sum_cons,List.map_cons,List.sum_cons,<-ih]
   push_cast
   rw[Int.toNat_of_nonneg (by omega)]
 unfold nLst;have h3:=h2 (List.range (m+1-a));simp only;omega
theorem zya{b:BX}{v:VD}(hb:b.ok=true)(hv:vdB v=true):(lstE b v).length=nLst (2*b.v+1).toNat (len1 b v):=by
 have hk:=zmc hb;unfold lstE len1;rcases zxJ hv with⟨h1,h2⟩|⟨h1,h2,h3⟩|⟨h1,h2⟩
 ·rw[if_pos h1,if_neg (by omega),zpJ hk.1.1];unfold fixE;rw[if_pos h1];rfl
 ·rw[if_neg (by omega),if_pos h1,if_neg (by omega),zpJ hk.1.1];unfold fixE;rw[if_neg (by omega)]
 ·rw[if_neg (by omega),if_neg (by omega),if_pos h1,zpJ hk.1.1]
theorem zrI{b:BX}(hb:b.ok=true):∀(vs:List VD) (st:List SS),(∀v∈vs,vdB v=true)->(vs.foldl (fun st v=>stg st (lstE b v)) st).length=st.length*nAll (2*b.v+1).toNat (vs.map (len1 b))
 | [],st,_=>by simp[nAll]
 | v::vs,st,h=>by
  rw[List.foldl_cons,zrI hb vs _ fun u hu=>h u (by simp[hu]),ztn,zya hb (h v (by simp)),List.map_cons,nAll,Nat.mul_assoc]
theorem zrX(h:Nat):∀(a b:List Bn),nAll h (a++b)=nAll h a*nAll h b
 | [],b=>by simp[nAll]
 | x::a,b=>by rw[List.cons_append,nAll,nAll,zrX h a b,Nat.mul_assoc]
theorem zsJ{α β:Type}(l:List α)(f:α->List β)(n:Nat)(h:∀x,(f x).length=n):(l.flatMap f).length=l.length*n:=by
 induction l with
 | nil=>simp
 | cons x l ih=>rw[List.flatMap_cons,List.length_append,ih,h,List.length_cons,Nat.add_mul];omega
theorem zxB{vs:List VD}{b:BX}(hok:(b.ok&&svB vs)=true)(h60:cntF vs b<=60):(allS b (lenE vs b)).length<=60:=by
 have h:=hok;simp only[Bool.and_eq_true]at h;have hk:=zmc h.1;have hr:=(zx0 h.1 h60).all.2;have h1:(allU vs b).length=nAll (2*b.v+1).toNat (lenE vs b):=by
  unfold allU stgF lenE;rw[zsJ _ _ (betE b.v 0 b.i.toNat).length fun s=>by simp,zrI h.1 vs _ fun v hv=>(zvI h.2).2 v hv,zrX,zpJ hk.1.1];simp[nAll]
 have h2:=zyS (h:=(2*b.v+1).toNat) (by omega) (bs:=lenE vs b) fun q hq=>((zmd hok).2.2.1 q hq).1;rw[Int.toNat_of_nonneg (by omega)]at h2;unfold allS;rw[List.length_map];omega
section
variable {p:PG} {a b:List T}
end
theorem zuX{vs:List VD}{b:BX}(h:(b.ok&&svB vs)=true):∀x∈allS b (lenE vs b),fitB vs x=true/\x.I:=by
 intro x hx;obtain⟨y,hy,rfl⟩:=List.mem_map.1 hx;have h1:=zsh rfl y hy;have h2:=zmd h;have h3:=h1.len;have hl:y.length=vs.length+1:=by rw[h3,h2.1]
 have hv:∀i (hi:i<y.length),∀e∈y[i],I64 e:=fun i hi e he=>by
  have h5:=(h1.get i (by omega) hi).2.2 e he;have h6:=h2.2.2.2;exact⟨by omega,by omega⟩
 have hv':∀l∈y,∀e∈l,I64 e:=fun l hl=>by obtain⟨i,hi,rfl⟩:=List.mem_iff_getElem.1 hl;exact hv i hi
 have hlast:(stOf y).tin=y[vs.length]'(by omega):=by
  show y.getLastD []=_
  rw[znD (n:=y.length) rfl (by omega)];simp only[hl,Nat.add_sub_cancel]
 have hcl:(stOf y).cells.length=vs.length:=by simp[stOf,hl]
 have hcg:∀i (hi:i<vs.length),(stOf y).cells[i]'(by omega)=y[i]'(by omega):=fun i hi=>by simp[stOf]
 have hbn:∀i (hi:i<vs.length),(len1 b vs[i]).1<=(y[i]'(by omega)).length/\(y[i]'(by omega)).length<=(len1 b vs[i]).2:=fun i hi=>by
  have h5:=h1.get i (by rw[h2.1];omega) (by omega);simp only[lenE]at h5;rw[List.getElem_append_left (by simpa using hi),List.getElem_map]at h5;exact⟨h5.1,h5.2.1⟩
 have hsv:svB vs=true:=by simp only[Bool.and_eq_true]at h;exact h.2
 have hok:b.ok=true:=by simp only[Bool.and_eq_true]at h;exact h.1
 refine⟨?_,fun l hl=>hv' l ((List.dropLast_sublist y).subset hl),by rw[hlast];exact hv _ _,fun e he=>by cases he⟩;unfold fitB;simp only[Bool.and_eq_true,decide_eq_true_eq];refine⟨⟨⟨⟨hsv,hcl⟩,?_⟩,Nat.zero_le _⟩,zr6 _ _ fun i hi hi'=>?_⟩
 ·rw[hlast];have h5:=(h1.get vs.length (by rw[h2.1];omega) (by omega)).2.1;have h6:=(h2.2.2.1 _ (List.getElem_mem (show vs.length<(lenE vs b).length by rw[h2.1];omega))).2.2;omega
 ·rw[hcg i hi];have hb:=hbn i hi;have hd:vdB vs[i]=true:=by
   unfold svB at hsv;simp only[Bool.and_eq_true,List.all_eq_true]at hsv;exact hsv.2 _ (List.getElem_mem _)
  have h6:=h2.2.2.1 (len1 b vs[i]) (by unfold lenE;exact List.mem_append_left _ (List.mem_map.2 ⟨vs[i],List.getElem_mem _,rfl⟩));unfold len1 at hb h6;unfold fit1;unfold vdB at hd;by_cases hk:vs[i].k=3
  ·rw[if_pos hk]at hb h6 ⊢;simp only at hb h6;exact decide_eq_true (by omega)
  ·rw[if_neg hk]at hb h6 ⊢;simp only at hb h6;refine decide_eq_true ?_;have hp:0<=fixE vs[i]:=by
    unfold fixE
    split
    ·omega
    ·rename_i h7;rw[if_neg (by rintro(e|e);exact h7 e;exact hk e)]at hd
     split at hd
     ·have:=of_decide_eq_true hd;omega
     ·cases hd
   omega
attribute [local go_sem] Oper.semAt_some
theorem ztB{l:List T}{e:Int}(h:e∈rejL l):e≠0:=by
 have:=(List.mem_filter.1 h).2;simpa using this
theorem zzf{q:PG}{e:Int}(h:e∈rjA q):e≠0:=by
 rcases List.mem_append.1 h with h|h
 ·obtain⟨l,hl,he⟩:=List.mem_flatten.1 h;obtain⟨r,-,rfl⟩:=List.mem_map.1 hl;exact ztB he
 ·exact ztB h
theorem zuY{vs:List VD}{q:PG}(h:admP vs q=0):zkB q=true/\chkN q=0/\rjT q=0/\q.vs=vs:=by
 unfold admP at h;by_cases h1:zkB q=true
 ·rw[if_pos h1]at h;by_cases h2:chkN q=0
  ·rw[if_pos h2]at h;by_cases h3:rjT q=0
   ·rw[if_pos h3]at h;by_cases h4:eqVs q.vs vs=true
    ·exact⟨h1,h2,h3,zmk.1 h4⟩
    ·rw[if_neg h4]at h;omega
   ·rw[if_neg h3]at h
    cases hr:rjA q with
    | nil=>rw[<-zxX,hr]at h3;exact absurd rfl h3
    | cons a l=>rw[hr]at h;exact absurd h (zzf (by rw[hr];simp))
  ·rw[if_neg h2]at h;omega
 ·rw[if_neg h1]at h;omega
theorem zuZ{e:EX}{q:PG}(h:admE e q=0):zkX e=true/\zkB q=true/\chkN q=0/\rjT q=0/\q.vs=e.gv.vs:=by
 unfold admE at h;by_cases h1:zkX e=true
 ·rw[if_pos h1]at h;exact⟨h1,zuY h⟩
 ·rw[if_neg h1]at h;omega
theorem zth{e:EX}(h:zkX e=true):0<=e.fu/\e.fu<=1000000/\okB e.gv=true/\okB (zkJ e.gv)=true:=by
 simp only[zkX,Bool.and_eq_true,decide_eq_true_eq]at h;exact⟨h.1.1.1.2.1,h.1.1.1.2.2,h.1.1.2,h.1.2⟩
def invE(e:EX)(q:PG)(s:SS):Bool×Int:=if admE e q=0 then(if fitB e.gv.vs s=true then(if gerE e.gv e.fu s=0 then(rigG e.gv q e.fu s,0)else(false,gerE e.gv e.fu s))else(false,20))else(false,admE e q)
theorem zrv{W:World}{e:EX}{q:PG}{s:SS}{ev qv v:Value}(he:EV W Any e ev)(hq:PV W Any q qv)(h:SV W Any s v) :
  Calls prog 19 #[ev,qv,v] W fun en w'=>en=.returned (.tuple #[.bool (invE e q s).1,.int .i64 (invE e q s).2])/\Below W.heap.size W w':=by
 have HAD:=zh (fun w' (hb:Below W.heap.size W w')=>zqz (he.later hb) (hq.later hb));have kg:=zh (fun w' (hb:Below W.heap.size W w')=>he.later hb);have HQ:=zh (fun w' (hb:Below W.heap.size W w')=>hq.later hb);have HS:=zh (fun w' (hb:Below W.heap.size W w')=>h.later hb);obtain⟨A1,c1,A2,c2,A3,c3,rfl,hg,hI⟩:=he;obtain⟨D1,e1,D2,e2,D3,e3,rfl,iX⟩:=hq;have HG:=zh (fun w' (hb:Below W.heap.size W w')=>hg.later hb);have HI:=zh hI;obtain⟨As,cs,Bs,ds,Ds,es,rfl⟩:∃A c B d D e,v=.agg #[.slice A s.cells.length c,.slice B s.tin.length d,.slice D s.tout.length e]:=by
  obtain⟨A,c,B,d,D,e,h,-⟩:=h;exact⟨_,_,_,_,_,_,h⟩
 have hb2:=zkb (zkb (zkb (zs W) (.cells (exA e A1 c1 A2 c2 A3 c3) 32)) (.cells (pgA q D1 e1 D2 e2 D3 e3) 30)) (.cells #[.slice As s.cells.length cs,.slice Bs s.tin.length ds,.slice Ds s.tout.length es] 44);have k0:=zkd (zkd (heap_alloc_new W (.cells (exA e A1 c1 A2 c2 A3 c3) 32)) (.cells (pgA q D1 e1 D2 e2 D3 e3) 30)) (.cells #[.slice As s.cells.length cs,.slice Bs s.tin.length ds,.slice Ds s.tout.length es] 44);have k1:=zkd (heap_alloc_new (W.alloc (.cells (exA e A1 c1 A2 c2 A3 c3) 32)) (.cells (pgA q D1 e1 D2 e2 D3 e3) 30)) (.cells #[.slice As s.cells.length cs,.slice Bs s.tin.length ds,.slice Ds s.tout.length es] 44);have k2:=heap_alloc_new ((W.alloc (.cells (exA e A1 c1 A2 c2 A3 c3) 32)).alloc (.cells (pgA q D1 e1 D2 e2 D3 e3) 30)) (.cells #[.slice As s.cells.length cs,.slice Bs s.tin.length ds,.slice Ds s.tout.length es] 44)
 simp only[World.size_alloc,Nat.add_assoc,Nat.reduceAdd]at k1 k2;obtain⟨w2,hw2⟩:=zX (((W.alloc (.cells (exA e A1 c1 A2 c2 A3 c3) 32)).alloc (.cells (pgA q D1 e1 D2 e2 D3 e3) 30)).alloc (.cells #[.slice As s.cells.length cs,.slice Bs s.tin.length ds,.slice Ds s.tout.length es] 44));obtain⟨N,hN⟩:=zX (W.heap.size);rw[hw2]at hb2 k0 k1 k2;rw[hN]at k0 k1 k2;have HB:=zh hb2;have bV:=zh (fun w' (h:Below w2.heap.size w2 w')=>zmj (zkc k0 h));have bY:=zh (fun w' (h:Below w2.heap.size w2 w')=>box6 (zkc k1 h));have yM:=zh (fun w' (h:Below w2.heap.size w2 w')=>zlC (zkc k2 h));have bF:=zh (zs w2);have mq:=zh (fun w' (h:Below w2.heap.size w2 w')=>zsk e.gv.vs s A1 c1 _ w' ((hg.vars.later hb2).later h) hg.lv (HS.out w' (zka hb2 h)));obtain⟨AD,iM⟩:=zX (admE e q);have HADE:=zh iM;rw[iM]at HAD;obtain⟨FB,yJ⟩:=zX (fitB e.gv.vs s);have gU:=zh yJ;rw[yJ]at mq
 obtain⟨R0,hR0⟩:=zX (invE e q s);have jg:=zh hR0;unfold invE at hR0;rw[iM,yJ]at hR0;have HRR:=zh hR0;rw[jg.out];clear h hg hI iX hb2 k0 k1 k2 iM yJ hR0 jg;obtain⟨x0,x1,x2,x3,x4,x5,x6,x7,x8,x9,aF,aD⟩:=bV.out _ bF.out;obtain⟨q0,q1,q2,q3,q4,q5⟩:=bY.out _ bF.out;obtain⟨y0,y1,y2⟩:=yM.out _ bF.out;go_enter func19,ntmps19;go_upto_region 1 with fail
 try simp only[Nat.add_assoc,Nat.reduceAdd]
 try rw[hw2]
 try rw[hN]
 try simp only[Nat.add_assoc,Nat.reduceAdd]
 clear hw2 hN;go_wp2_with fail;refine(HAD.out _ HB.out).mono ?_;rintro en w3 ⟨rfl,hb3⟩;have aN:=zh (zka bF.out hb3);clear hb3;clear x0 x1 x2 x3 x4 x5 x6 x7 x8 x9 aF aD q0 q1 q2 q3 q4 q5 y0 y1 y2;obtain⟨x0,x1,x2,x3,x4,x5,x6,x7,x8,x9,aF,aD⟩:=bV.out _ aN.out;obtain⟨q0,q1,q2,q3,q4,q5⟩:=bY.out _ aN.out;obtain⟨y0,y1,y2⟩:=yM.out _ aN.out;by_cases ha:AD=0;rotate_left 1
 ·have ha1:(AD != 0)=true:=by simpa using ha
  have hrr:=HRR.out;rw[if_neg ha]at hrr;subst hrr;have dC:=zh (zka HB.out aN.out);clear ha HRR;go_wp2_with fail;exact bodyPost_ret (v:=.tuple #[.bool false,.int .i64 AD]) (by simp[results,results19,go_sem]) rfl ⟨rfl,dC.out⟩
 subst ha;have ha1:((0:Int) != 0)=false:=by decide
 have hrr:=HRR.out;rw[if_pos rfl]at hrr;have jU:=zh hrr;clear hrr HRR;obtain⟨qO,-,-,-,-⟩:=zuZ HADE.out;have fJ:=zh (zth qO);clear qO;go_wp2_with fail;refine(mq.out _ aN.out).mono ?_;rintro en w4 ⟨rfl,hb4⟩;have bA:=zh (zka aN.out hb4);clear hb4;clear x0 x1 x2 x3 x4 x5 x6 x7 x8 x9 aF aD q0 q1 q2 q3 q4 q5 y0 y1 y2;obtain⟨x0,x1,x2,x3,x4,x5,x6,x7,x8,x9,aF,aD⟩:=bV.out _ bA.out;obtain⟨q0,q1,q2,q3,q4,q5⟩:=bY.out _ bA.out;obtain⟨y0,y1,y2⟩:=yM.out _ bA.out
 cases FB
 ·have hrr:=jU.out;rw[if_neg (by decide)]at hrr;subst hrr;have dC:=zh (zka HB.out bA.out);clear jU;go_wp2_with fail;exact bodyPost_ret (v:=.tuple #[.bool false,.int .i64 20]) (by simp[results,results19,go_sem]) rfl ⟨rfl,dC.out⟩
 have hrr:=jU.out;rw[if_pos rfl]at hrr;have dP:=zh hrr;have hsc:s.cells.length<=32:=by
  have h1:=gU.out;unfold fitB at h1;simp only[Bool.and_eq_true,decide_eq_true_eq]at h1;have h2:=(zlu (zqe fJ.out.2.2.1).1).1;omega
 have dH:=zh (zmV e.gv s e.fu (e.fu.toNat*2000+2000) _ _ w4 (HG.out _ (zka HB.out bA.out)).pv (HS.out _ (zka HB.out bA.out)) (by omega) HI.out fJ.out.2.1 zl);have iq:=zh (show(resO e.gv s e.fu (e.fu.toNat*2000+2000) false).2.2.1=0->((resO e.gv s e.fu (e.fu.toNat*2000+2000) false).2.1:Int)<=max e.fu 0 from fun h=>(zr3 zl h).1);have bW:=zh (show gerE e.gv e.fu s=(resO e.gv s e.fu (e.fu.toNat*2000+2000) false).2.2.1/\rigG e.gv q e.fu s=(gerE q e.fu (resO e.gv s e.fu (e.fu.toNat*2000+2000) false).1==0&&eqS (gstE q e.fu (resO e.gv s e.fu (e.fu.toNat*2000+2000) false).1) s)from⟨rfl,rfl⟩);generalize resO e.gv s e.fu (e.fu.toNat*2000+2000) false=R at dH bW iq;clear hrr jU hsc;go_wp2_with fail;refine dH.out.mono ?_;rintro en w5 ⟨u1,u2,u3,rfl,iY,hb5,hl5⟩;obtain⟨A6,c6,B6,d6,D6,e6,hv⟩:=iY.slices;injection hv with hv
 simp only[Array.mk.injEq,List.cons.injEq,and_true]at hv;obtain⟨rfl,rfl,rfl⟩:=hv;have rD:=zh (show R.2.2.1=0->R.1.cells.length<=2000000 from fun h=>by have h1:=(hl5.2 h).1;have h2:=iq.out h;have h3:=fJ.out.2.1;omega);have uD:=zh (iY.svR hl5.1);have aP:=zh hb5;clear dH iY hb5 hl5;obtain⟨R1,R2,R3,R4⟩:=R;simp only at bW rD iq uD ⊢;have hb6:=zkb (zs w5) (.cells #[.slice A6 R1.cells.length c6,.slice B6 R1.tin.length d6,.slice D6 R1.tout.length e6,.int .i64 (R2:Int),.int .i64 R3] 58);have k6:=heap_alloc_new w5 (.cells #[.slice A6 R1.cells.length c6,.slice B6 R1.tin.length d6,.slice D6 R1.tout.length e6,.int .i64 (R2:Int),.int .i64 R3] 58);clear x0 x1 x2 x3 x4 x5 x6 x7 x8 x9 aF aD q0 q1 q2 q3 q4 q5 y0 y1 y2;go_upto_region 7 with fail
 obtain⟨w6,gY⟩:=zX (w5.alloc (.cells #[.slice A6 R1.cells.length c6,.slice B6 R1.tin.length d6,.slice D6 R1.tout.length e6,.int .i64 (R2:Int),.int .i64 R3] 58));obtain⟨gp,vS⟩:=zX (w5.heap.size);rw[gY]at hb6 k6 ⊢;rw[vS]at k6 ⊢;have dw:=zh (zka (zka bA.out aP.out) hb6);have jf:=zh (uD.out.later hb6);obtain⟨r0,r1,r2,r3,r4⟩:=zzh k6;have HRX2:=zh bW.out.1;clear hb6 k6 gY vS uD;by_cases hr:R3=0;rotate_left 1
 ·have hr1:(R3 != 0)=true:=by simpa using hr
  have hrr:=dP.out;rw[bW.out.1,if_neg hr]at hrr;subst hrr;have dC:=zh (zka HB.out dw.out);clear hr dP bW HRX2 iq rD;go_wp2_with (go_region)
  exact bodyPost_ret (v:=.tuple #[.bool false,.int .i64 R3]) (by simp[results,results19,go_sem]) rfl ⟨rfl,dC.out.trans (zr.drew.mono dC.out.size)⟩
 subst hr;have hrr:=dP.out;rw[bW.out.1,if_pos rfl]at hrr;obtain⟨rb,re⟩:=R0;injection hrr with hr1 hr2;subst hr2;have HR1:=zh hr1;clear hr1;have HCM:=zh (znE (kg.out _ (zka HB.out dw.out)) (HQ.out _ (zka HB.out dw.out)) (jf.out.keep (fun _ _ _=>trivial) fun _ _ _=>rfl) (HS.out _ (zka HB.out dw.out)) (rD.out rfl) fJ.out.2.1);obtain⟨bb,hbb⟩:=zX ((gerE q e.fu R1==0&&eqS (gstE q e.fu R1) s));obtain⟨ge,hge⟩:=zX (gerE q e.fu R1);rw[hbb,hge]at HCM;have dI:=zh (show rb=bb from HR1.out.symm.trans (bW.out.2.trans hbb));clear hbb hge dP bW HRX2 iq rD HR1;obtain⟨x0,x1,x2,x3,x4,x5,x6,x7,x8,x9,aF,aD⟩:=bV.out _ dw.out;obtain⟨q0,q1,q2,q3,q4,q5⟩:=bY.out _ dw.out;obtain⟨y0,y1,y2⟩:=yM.out _ dw.out;go_wp2_with fail;refine HCM.out.mono ?_;rintro en w7 ⟨rfl,dF⟩;have dC:=zh (zka (zka HB.out dw.out) dF);have hbb:=dI.out;subst hbb;clear dF HCM;go_wp2_with fail
 exact bodyPost_ret (v:=.tuple #[.bool rb,.int .i64 0]) (by simp[results,results19,go_sem]) rfl ⟨rfl,dC.out⟩
end
section
open Go Go.RowKit
attribute [local go_sem] Oper.semAt_some
def LdX(W0:World)(N T:Nat)(pre:List SS)(C:Nat->Prop)(W:World):Prop:=(∀b,C b↔b<T+1)/\T<W.heap.size/\Below W0.heap.size W0 W/\W.heap[N+2]?=some (.cells #[.bool true] 4 (0,0))
theorem LdX.chg{W0 W W':World}{N T:Nat}{pre:List SS}{C D:Nat->Prop}(h:LdX W0 N T pre C W)(hT:W0.heap.size<=T)(hNT:N+2<T+1)(hc:Chg D W W')(hD:∀b,C b->¬ D b):LdX W0 N T pre C W':=by
 obtain⟨h1,h2,h3,h4⟩:=h;have hk:∀b,b<T+1->W'.heap[b]?=W.heap[b]?:=fun b hb=>hc.block b (by omega) (hD b ((h1 b).2 hb));exact⟨h1,Nat.lt_of_lt_of_le h2 hc.size,h3.trans ⟨hc.os,hc.tape,hc.output,hc.size,fun b hb=>hk b (by omega)⟩,(hk _ hNT).trans h4⟩
theorem zwG(s:SS):eqS s s=true:=by simp[eqS]
theorem zwi{e:EX}{q:PG}{s:SS}(h:admE e q=0)(hf:fitB e.gv.vs s=true):invE e q s=(if gerE e.gv e.fu s=0 then(rigG e.gv q e.fu s,0)else(false,gerE e.gv e.fu s)):=by
 unfold invE;rw[if_pos h,if_pos hf]
theorem zqG{W:World}{e:EX}{q:PG}{ev qv:Value}(he:EV W Any e ev)(hq:PV W Any q qv) :
  Calls prog 5 #[ev,qv] W fun en w'=>en=.returned (.bool true)/\Below W.heap.size W w':=by
 have kg:=zh (fun w' (hb:Below W.heap.size W w')=>he.later hb);have HQ:=zh (fun w' (hb:Below W.heap.size W w')=>hq.later hb);obtain⟨A1,c1,A2,c2,A3,c3,rfl,hg,hI⟩:=he;obtain⟨D1,e1,D2,e2,D3,e3,rfl,iX⟩:=hq;have HG:=zh (fun w' (hb:Below W.heap.size W w')=>hg.later hb);have HI:=zh hI;have hb1:=zkb (zkb (zkb (zs W) (.cells (exA e A1 c1 A2 c2 A3 c3) 32)) (.cells (pgA q D1 e1 D2 e2 D3 e3) 30)) (.cells #[.bool false] 4);have k0:=zkd (zkd (heap_alloc_new W (.cells (exA e A1 c1 A2 c2 A3 c3) 32)) (.cells (pgA q D1 e1 D2 e2 D3 e3) 30)) (.cells #[.bool false] 4);have k1:=zkd (heap_alloc_new (W.alloc (.cells (exA e A1 c1 A2 c2 A3 c3) 32)) (.cells (pgA q D1 e1 D2 e2 D3 e3) 30)) (.cells #[.bool false] 4);have k2:=heap_alloc_new ((W.alloc (.cells (exA e A1 c1 A2 c2 A3 c3) 32)).alloc (.cells (pgA q D1 e1 D2 e2 D3 e3) 30)) (.cells #[.bool false] 4)
 have hz1:(((W.alloc (.cells (exA e A1 c1 A2 c2 A3 c3) 32)).alloc (.cells (pgA q D1 e1 D2 e2 D3 e3) 30)).alloc (.cells #[.bool false] 4)).heap.size=W.heap.size+3:=by simp
 simp only[World.size_alloc,Nat.add_assoc,Nat.reduceAdd]at k1 k2;obtain⟨w1,hw1⟩:=zX (((W.alloc (.cells (exA e A1 c1 A2 c2 A3 c3) 32)).alloc (.cells (pgA q D1 e1 D2 e2 D3 e3) 30)).alloc (.cells #[.bool false] 4));obtain⟨N,hN⟩:=zX (W.heap.size);have HN:=zh hN;rw[hw1]at hb1 k0 k1 k2 hz1;rw[hN]at k0 k1 k2 hz1;have HB:=zh hb1;have HZ1:=zh hz1;have bV:=zh (fun w' (h:Below w1.heap.size w1 w')=>zkc k0 h);have bY:=zh (fun w' (h:Below w1.heap.size w1 w')=>zkc k1 h);have qz:=zh (fun w' (h:Below w1.heap.size w1 w')=>zkc k2 h);have jl:=zh (zs w1);clear hg hI iX hb1 k0 k1 k2 hz1;obtain⟨x0,x1,x2,x3,x4,x5,x6,x7,x8,x9,aF,aD⟩:=zmj (bV.out _ jl.out);obtain⟨q0,q1,q2,q3,q4,q5⟩:=box6 (bY.out _ jl.out);refine(callsIn_wide (n:=3)).1 (callsIn_of_wp_marks func5 rfl trivial ((wpIn_wide (n:=3)).2 ?_))
 simp only[ntmps5,List.size_toArray,List.length_cons,List.length_nil,Nat.reduceAdd,Nat.reduceSub,Array.replicate_succ,Array.replicate_zero,List.push_toArray,List.append_toArray,List.nil_append,List.cons_append];go_upto_region 1 with fail
 try simp only[Nat.add_assoc,Nat.reduceAdd]
 try rw[hw1]
 try rw[hN]
 try simp only[Nat.add_assoc,Nat.reduceAdd]
 clear hw1 hN;go_wp2_with fail;refine(zmU _).mono ?_;rintro en w2 ⟨rfl,hb2⟩;have bF:=zh (zka jl.out hb2);clear hb2;clear x0 x1 x2 x3 x4 x5 x6 x7 x8 x9 aF aD q0 q1 q2 q3 q4 q5;obtain⟨x0,x1,x2,x3,x4,x5,x6,x7,x8,x9,aF,aD⟩:=zmj (bV.out _ bF.out);obtain⟨q0,q1,q2,q3,q4,q5⟩:=box6 (bY.out _ bF.out);go_wp2_with fail;refine(zrf (kg.out _ (zka HB.out bF.out)) (HQ.out _ (zka HB.out bF.out))).mono ?_;rintro en w3 ⟨g1,rfl,hg1,hb3⟩;have vg:=zh hg1;have aN:=zh (zka bF.out hb3);clear hb3 hg1;clear x0 x1 x2 x3 x4 x5 x6 x7 x8 x9 aF aD q0 q1 q2 q3 q4 q5;obtain⟨x0,x1,x2,x3,x4,x5,x6,x7,x8,x9,aF,aD⟩:=zmj (bV.out _ aN.out);obtain⟨q0,q1,q2,q3,q4,q5⟩:=box6 (bY.out _ aN.out)
 cases g1
 rotate_left 1
 ·skip
  go_wp2_with fail;refine(zmU _).mono ?_;rintro en wz ⟨rfl,hbz⟩;have hcz:=zka aN.out hbz;have hkz:=qz.out _ hcz;have z0:wz.cell? ⟨N+2,0,none⟩=some (.bool false):=zc hkz rfl;have cfz:∀o,wz.frozen? ⟨N+2,o,none⟩=false:=fun o=>zf hkz;obtain⟨wy,rY,hcy,mP⟩:=setU (o:=0) (.bool true) hkz;have y0:wy.cell? ⟨N+2,0,none⟩=some (.bool true):=zc mP rfl;have dC:=zh (show Below W.heap.size W wy from(zka HB.out hcz).trans (hcy.below (Nat.le_trans HB.out.size hcz.size) fun b (e:b=N+2)=>by have:=HN.out;omega));clear hcy mP hkz hcz hbz;go_wp2_with fail;exact⟨.bool true,by simp[results,results5,go_sem,y0],rfl,dC.out⟩
 have bz:=zh (vg.out (by first|exact trivial|rfl));clear vg;go_wp2_with fail;refine(zq5 (kg.out _ (zka HB.out aN.out)) (HQ.out _ (zka HB.out aN.out))).mono ?_;rintro en w4 ⟨rfl,hb4⟩;have bA:=zh (zka aN.out hb4);clear hb4;clear x0 x1 x2 x3 x4 x5 x6 x7 x8 x9 aF aD q0 q1 q2 q3 q4 q5;obtain⟨x0,x1,x2,x3,x4,x5,x6,x7,x8,x9,aF,aD⟩:=zmj (bV.out _ bA.out);obtain⟨q0,q1,q2,q3,q4,q5⟩:=box6 (bY.out _ bA.out);obtain⟨r1,hr1⟩:=zX (admE e q);have HR1:=zh hr1;rw[hr1];clear hr1;by_cases h1:r1=0;rotate_left 1
 ·have h1a:(r1 != 0)=true:=by simpa using h1
  go_wp2_with fail;refine(zmU _).mono ?_;rintro en wz ⟨rfl,hbz⟩;have hcz:=zka bA.out hbz;have hkz:=qz.out _ hcz;have z0:wz.cell? ⟨N+2,0,none⟩=some (.bool false):=zc hkz rfl;have cfz:∀o,wz.frozen? ⟨N+2,o,none⟩=false:=fun o=>zf hkz;obtain⟨wy,rY,hcy,mP⟩:=setU (o:=0) (.bool true) hkz;have y0:wy.cell? ⟨N+2,0,none⟩=some (.bool true):=zc mP rfl;have dC:=zh (show Below W.heap.size W wy from(zka HB.out hcz).trans (hcy.below (Nat.le_trans HB.out.size hcz.size) fun b (e:b=N+2)=>by have:=HN.out;omega));clear hcy mP hkz hcz hbz;go_wp2_with fail;exact⟨.bool true,by simp[results,results5,go_sem,y0],rfl,dC.out⟩
 have h1a:(r1 != 0)=false:=by simpa using h1
 have HA1:=zh (HR1.out.trans h1);clear h1;have rG:=zh (show ∀w',Below w1.heap.size w1 w'->Calls prog 13 #[.agg (exA e A1 c1 A2 c2 A3 c3),pv D1 q.vs.length e1 D2 q.prs.length e2 q.m.k q.m.n q.m.s D3 q.m.ks.length e3] w' (GraP (grdE e q) 0 w')from fun w' h=>by
  have:=zqH (kg.out w' (zka HB.out h)) (HQ.out w' (zka HB.out h)) (fun _=>⟨bz.out.2.2.1,Nat.le_trans (zxB bz.out.2.2.1 bz.out.2.2.2.1) (by decide),by have:=bz.out.2.1;omega⟩);rwa[HA1.out,if_pos rfl]at this)
 go_wp2_with fail;refine(rG.out _ bA.out).mono ?_;rintro en w5 ⟨B1,b1,B2,b2,B3,b3,rfl,hs5,hb5⟩;have cz:=zh (zka bA.out hb5);obtain⟨RR,hRR⟩:=zX (grdE e q);rw[hRR]at hs5 ⊢;have HRR:=zh hRR;have qw:=zh (hs5.keep (S':=fun b=>b<w5.heap.size) (fun b _ h=>h) fun _ _ _=>rfl);clear hRR hs5 hb5;clear x0 x1 x2 x3 x4 x5 x6 x7 x8 x9 aF aD q0 q1 q2 q3 q4 q5;obtain⟨x0,x1,x2,x3,x4,x5,x6,x7,x8,x9,aF,aD⟩:=zmj (bV.out _ cz.out);obtain⟨q0,q1,q2,q3,q4,q5⟩:=box6 (bY.out _ cz.out);go_upto_region 4 with fail;have hb6:=zkb (zs w5) (.cells (vdA RR.1 (RR.2.1:Int) B1 RR.2.2.1.cells.length b1 B2 RR.2.2.1.tin.length b2 B3 RR.2.2.1.tout.length b3 RR.2.2.2) 46);have k6:=heap_alloc_new w5 (.cells (vdA RR.1 (RR.2.1:Int) B1 RR.2.2.1.cells.length b1 B2 RR.2.2.1.tin.length b2 B3 RR.2.2.1.tout.length b3 RR.2.2.2) 46);have hs6:=qw.out.later hb6
 obtain⟨w6,gY⟩:=zX (w5.alloc (.cells (vdA RR.1 (RR.2.1:Int) B1 RR.2.2.1.cells.length b1 B2 RR.2.2.1.tin.length b2 B3 RR.2.2.1.tout.length b3 RR.2.2.2) 46));have cK:w6.heap.size=w5.heap.size+1:=by rw[<-gY];simp
 have di:=cz.out.size;obtain⟨ab,hab⟩:=zX (w5.heap.size);rw[gY]at hb6 k6 hs6 ⊢;rw[hab]at k6 hs6 cK di ⊢;have dw:=zh (zka cz.out hb6);have HKA:=zh k6;have jf:=zh hs6;have HZ6:=zh (show N+3<=ab/\w6.heap.size=ab+1 from⟨by have:=HZ1.out;omega,cK⟩);clear hb6 k6 hs6 cK di gY hab qw;clear x0 x1 x2 x3 x4 x5 x6 x7 x8 x9 aF aD q0 q1 q2 q3 q4 q5;obtain⟨x0,x1,x2,x3,x4,x5,x6,x7,x8,x9,aF,aD⟩:=zmj (bV.out _ dw.out);obtain⟨q0,q1,q2,q3,q4,q5⟩:=box6 (bY.out _ dw.out);have bE:=zh (fun w' (hb:Below W.heap.size W w')=>zvw e.gv.vs e.bx A1 c1 w' (HG.out w' hb).vars (HG.out w' hb).lv bz.out.2.2.1);have BS:=zh (Nat.le_trans (zxB bz.out.2.2.1 bz.out.2.2.2.1) (show 60<=1000000 by decide));go_upto_region 7 with fail;have iZ:=heap_alloc_new w6 (.cells #[.int .i64 0] 3);have dF:=zkb (zs w6) (.cells #[.int .i64 0] 3);obtain⟨w7,hw7⟩:=zX (w6.alloc (.cells #[.int .i64 0] 3))
 have iW:w7.heap.size=w6.heap.size+1:=by rw[<-hw7];simp
 have cK:=HZ6.out;rw[hw7]at iZ dF ⊢;obtain⟨T,hT⟩:=zX (w6.heap.size);rw[hT]at iZ iW cK ⊢;have bR:=zh (show N+3<=ab/\T=ab+1 from cK);have BC:=zh iW;have iw:=zh (zka dw.out dF);have HKA7:=zh (zkc HKA.out dF);have yS:=zh (jf.out.later dF);have HKT7:=zh iZ;clear iZ dF hw7 iW hT cK HKA jf HZ6;clear x0 x1 x2 x3 x4 x5 x6 x7 x8 x9 aF aD q0 q1 q2 q3 q4 q5;obtain⟨x0,x1,x2,x3,x4,x5,x6,x7,x8,x9,aF,aD⟩:=zmj (bV.out _ iw.out);obtain⟨q0,q1,q2,q3,q4,q5⟩:=box6 (bY.out _ iw.out);have iA:=zh (bE.out _ (zka HB.out iw.out));go_wp2_with fail;refine iA.out.mono ?_;rintro e5 w8 ⟨jo,xb,lb',A9,c9,rfl,eY,g1,g2,g3,hM8⟩;have dY:=zh eY;have HG8:=zh (And.intro g1 (And.intro g2 g3));have uO:=zh hM8;clear eY g1 g2 g3 hM8 iA bE;clear x0 x1 x2 x3 x4 x5 x6 x7 x8 x9 aF aD q0 q1 q2 q3 q4 q5;go_wp2_with fail;have hlb:=zmd bz.out.2.2.1
 have Cs:=zh (zqM (nf:=3-1) (S:=fun q=>w7.heap.size<=q/\q<w8.heap.size) ⟨uO.out.ok,uO.out.bx,uO.out.ls,uO.out.row.keep (fun b h hlt=>⟨h,hlt⟩) fun _ _ _=>rfl⟩ ⟨hlb.2.2.2.1,hlb.2.2.2.2⟩ ⟨by rw[hlb.1];omega,by rw[hlb.1];have:=hlb.2.1;omega⟩ fun q hq=>(hlb.2.2.1 q hq).2);clear hlb;have BB:=zh (show T+1<=w8.heap.size by have:=dY.out.size;have:=BC.out;omega);have HB08:=zh (zka (zka HB.out iw.out) dY.out);have qL:=zh (zka iw.out dY.out);have jS:=zh (show W.heap.size<=T by have:=HN.out;have:=bR.out;omega);obtain⟨rel,hrel⟩:=zX (relG e.gv e.fu);obtain⟨ou,jD⟩:=zX (rigG e.gv q e.fu);obtain⟨err,jH⟩:=zX (erG e.gv q e.fu);have nN:=zh (fun s=>congrFun hrel s);have BM:=zh (fun s=>congrFun jD s);have yg:=zh (fun s=>congrFun jH s);have dP:=zh (show grE rel ou err 0 (allS e.bx (lenE e.gv.vs e.bx))=RR by rw[<-HRR.out,<-hrel,<-jD,<-jH];rfl)
 clear hrel jD jH HRR;refine(wpIn_wide (n:=3)).1 ?_;refine zoS (n:=3) (gf:=39) (lb := #[ptr0 jo,ptr0 xb,ptr0 lb']) rfl (zky zxt) Cs.out (fun l x vs' g W' h=>by obtain⟨v9,rfl,-,h2,-⟩:=h;exact⟨rfl,h2⟩)
  (GdI W T w8 rel ou) (LdX W N T) (fun b=>b<T+1)
  (fun pre C W' W'' h hc=>h.chg jS.out hc fun b hb h=>h hb) (fun pre C W' W'' h hc=>h.chg jS.out (by have:=bR.out;omega) hc fun b hb h=>h hb) (fun pre C W' h b hb=>by have h1:=(h.1 b).1 hb;have h2:=zke h.2.2.1;omega) (fun pre C W' h b hb=>by have h1:=(h.1 b).1 hb;have h2:=h.2.1;omega)
  (fun b h1 h2=>by
   have:=HG8.out;have:=BC.out;rcases h2 with h|h|h|h<;>omega) (fun b h=>by
   rcases h with rfl|rfl|rfl|h
   ·exact zke uO.out.ok
   ·exact zke uO.out.bx
   ·exact zke uO.out.ls
   ·exact h.2) ⟨fun _=>Iff.rfl,fun _ _=>rfl,zkc HKT7.out dY.out,(fun s hs=>by cases hs),HB08.out⟩ ?_ ?_ ?_
 ·rintro l pre x C W3 vs' g hI qV ig hl qQ hpre ⟨sv,rfl,hsv,vP⟩;clear qV;have hxm:x∈allS e.bx (lenE e.gv.vs e.bx):=hpre.subset (by simp);have hpl:(pre.filter rel).length<1000000:=by have h1:=hpre.length_le;have h2:=BS.out;have h3:=List.length_filter_le rel pre;simp only[List.length_append,List.length_cons,List.length_nil]at h1;omega
  have wI:=zh (zwi HA1.out (zuX bz.out.2.2.1 x hxm).1);obtain⟨As,cs,Bs,ds,Ds,es,rfl⟩:∃A c B d D e,sv=.agg #[.slice A x.cells.length c,.slice B x.tin.length d,.slice D x.tout.length e]:=by
   obtain⟨A,c,B,d,D,e,rfl,-⟩:=hsv;exact⟨_,_,_,_,_,_,rfl⟩
  change Code.wpIn (Fence.wide.inRound l) (3-1-1) prog _ _ _ _
  gi_wp2
  refine⟨(Chg.refl _ _).alloc _,fun W4 lX=>?_⟩;have hbx:=lX.keep (heap_alloc_new W3 (.cells #[.slice As x.cells.length cs,.slice Bs x.tin.length ds,.slice Ds x.tout.length es] 44)) (show ¬ W3.heap.size=l by omega);have jL:=zkb (zs W3) (.cells #[.slice As x.cells.length cs,.slice Bs x.tin.length ds,.slice Ds x.tout.length es] 44);have lZ:=(hI.chg jS.out (Chg.of_below jL) (fun b hb h=>h)).chg jS.out lX (fun b hb h=>ig (by have h:b=l:=h;rwa[h]at hb));have jy:SV W4 (fun q=>g<=q) x (.agg #[.slice As x.cells.length cs,.slice Bs x.tin.length ds,.slice Ds x.tout.length es]):=(hsv.later jL).keep (fun _ h _=>h) fun q h hlt=>lX.block q hlt (fun e:q=l=>by have h:g<=q:=h;omega);obtain⟨xp,hxp⟩:=zX (W3.heap.size);rw[hxp]at hbx ⊢;have xg:T+1<=g:=by have:=BB.out;omega
  have mH:g<=xp:=by omega
  have kW:=(lZ.2.1 N (by have:=bR.out;omega)).trans (bV.out _ qL.out);have mK:=(lZ.2.1 (N+1) (by have:=bR.out;omega)).trans (bY.out _ qL.out);have HI4:=zh lZ;have qp:=zh jy;have aO:=zh hbx;have jW:=zh (And.intro hl (And.intro qQ (And.intro vP (And.intro xg mH))));have dm:=zh hpre;have dH:=zh (zrv (kg.out _ lZ.2.2.2.2) (HQ.out _ lZ.2.2.2.2) jy.any);have bW:=zh (show rel x=(gerE e.gv e.fu x==0)/\ou x=rigG e.gv q e.fu x from⟨(nN.out x).symm,(BM.out x).symm⟩);obtain⟨GE,wh⟩:=zX (gerE e.gv e.fu x);obtain⟨RG,Bh⟩:=zX (rigG e.gv q e.fu x);rw[wI.out,wh,Bh]at dH;rw[wh,Bh]at bW;obtain⟨⟨ib,ie⟩,hIV⟩:=zX ((if GE=0 then(RG,(0:Int))else(false,GE)));rw[hIV]at dH;have rF:=zh hIV;clear hIV;simp only at dH;obtain⟨x0,x1,x2,x3,x4,x5,x6,x7,x8,x9,aF,aD⟩:=zmj kW;obtain⟨q0,q1,q2,q3,q4,q5⟩:=box6 mK;obtain⟨y0,y1,y2⟩:=zlC hbx
  clear hI hpre hbx lZ jy lX hsv ig hl qQ vP jL hxm xg mH kW mK wh Bh wI hxp;change Code.wpIn (Fence.wide.inRound l) (3-1-1) prog _ _ _ _
  gi_wp2
  refine⟨trivial,CallsIn.inRound l (callsIn_wide.2 (dH.out.mono ?_))⟩;rintro en w9 ⟨rfl,aT⟩;have aX:=zh aT;clear x0 x1 x2 x3 x4 x5 x6 x7 x8 x9 aF aD q0 q1 q2 q3 q4 q5;clear y0 y1 y2 aT dH;have kK:=zh (HI4.out.chg jS.out (Chg.of_below aX.out (C:=fun _=>False)) (fun b hb h=>h));by_cases hr:GE=0
  ·subst hr;have bH:=rF.out;rw[if_pos rfl]at bH;injection bH with hi1 hi2;subst hi1 hi2;have hr1:((0:Int) != 0)=false:=by decide
   have jg:=zh (show rel x=true from bW.out.1.trans (by decide));have HR1:=zh bW.out.2;have qd:=kK.out.2.2.1;obtain⟨m,hm⟩:=zX ((pre.filter rel).length);have qE:=zh hm;rw[hm]at qd hpl;have z7:w9.cell? ⟨T,0,none⟩=some (.int .i64 (m:Int)):=zc qd rfl;have cf7:∀o,w9.frozen? ⟨T,o,none⟩=false:=fun o=>zf qd;obtain⟨Wa,wN,oG,hha⟩:=setU (o:=0) (.int .i64 ((m:Int)+1)) qd;have oU:=zh oG;have xY:=zh hha;clear qd hm oG hha rF bW
   cases RG
   ·have hRR:(false,0+(pre.filter rel).length+1,x,err x)=RR:=by
     obtain⟨t,ht⟩:=dm.out;rw[<-dP.out,<-ht,List.append_assoc];exact(zm6 pre 0 HI4.out.2.2.2.1 jg.out HR1.out).symm
    subst hRR;have hlow:∀b,b<T->Wa.heap[b]?=w7.heap[b]?:=fun b hb=>(((oU.out.block b (by have:=zke kK.out.2.2.1;omega) (fun e:b=T=>by omega)).trans (aX.out.block b (by have:=zke HI4.out.2.2.1;omega))).trans (HI4.out.2.1 b hb)).trans (dY.out.block b (by have:=BC.out;omega));have hka:=(hlow ab (by have:=bR.out;omega)).trans HKA7.out;have hsa:SV Wa Any x (.agg #[.slice B1 x.cells.length b1,.slice B2 x.tin.length b2,.slice B3 x.tout.length b3]):=yS.out.keep (fun _ _ _=>trivial) fun q h hlt=>hlow q (by have:=bR.out;have h:q<ab:=h;omega);have hxa:SV Wa Any x (.agg #[.slice As x.cells.length cs,.slice Bs x.tin.length ds,.slice Ds x.tout.length es]):=qp.out.keep (fun _ _ _=>trivial) fun q h hlt=>(oU.out.block q (Nat.lt_of_lt_of_le hlt aX.out.size) (fun e:q=T=>by have h:g<=q:=h;have:=jW.out;omega)).trans (aX.out.block q hlt);have gV:=zh (zqE x x _ _ Wa hsa hxa)
    rw[zwG]at gV;have hxp9:=oU.out.keep (zkc aO.out aX.out) (fun e:xp=T=>by have:=jW.out;omega);obtain⟨m1,hm1⟩:∃v:Int,(m:Int)+1=v:=⟨_,rfl⟩
    obtain⟨a0,a1,a2,a3,a4,a5⟩:=box6 hka;rw[show((0+(pre.filter rel).length+1:Nat):Int)=m1 by rw[qE.out,<-hm1];omega]at a1;have t7:Wa.cell? ⟨T,0,none⟩=some (.int .i64 m1):=by rw[<-hm1];exact zc xY.out rfl
    obtain⟨y0,y1,y2⟩:=zlC hxp9;have HRW:=zh ((hlow (N+2) (by have:=bR.out;omega)).trans (qz.out _ iw.out));clear hlow hka hsa hxa hxp9 hm1
    gi_wp2
    refine⟨trivial,CallsIn.inRound l (callsIn_wide.2 (gV.out.mono ?_))⟩;rintro en wb ⟨rfl,hbb⟩;have hkb:=zkc HRW.out hbb;have r0:wb.cell? ⟨N+2,0,none⟩=some (.bool false):=zc hkb rfl;have cfb:∀o,wb.frozen? ⟨N+2,o,none⟩=false:=fun o=>zf hkb;have z8:wb.cell? ⟨ab,1,none⟩=some (.int .i64 m1):=(World.cell?_of_block (a:=⟨ab,1,none⟩) (hbb.block ab (by have:=bR.out;have:=zke xY.out;omega))).trans a1;have z9:wb.cell? ⟨T,0,none⟩=some (.int .i64 m1):=(World.cell?_of_block (a:=⟨T,0,none⟩) (hbb.block T (zke xY.out))).trans t7;obtain⟨wc,hwc,hcc,wZ⟩:=setU (o:=0) (.bool true) hkb;have tC:=kK.out.2.2.2.2;have pY:Below W.heap.size W Wa:=tC.trans (oU.out.below tC.size fun b (e:b=T)=>by have:=jS.out;omega)
    have qJ:=zh (show LdX W N T (pre++[x]) C wc from⟨HI4.out.1,by have:=zke xY.out;have:=hbb.size;have:=hcc.size;omega,(pY.trans (hbb.mono pY.size)).trans (hcc.below (Nat.le_trans pY.size hbb.size) fun b (e:b=N+2)=>by have:=HN.out;omega),wZ⟩);have Co:=zh (show Chg C W4 wc from(((Chg.of_below aX.out).trans2 oU.out fun q _ e=>(HI4.out.1 q).2 (by have e:q=T:=e;omega)).trans2 ((Chg.of_below hbb).trans2 hcc fun q _ e=>e) fun q _ e=>(HI4.out.1 q).2 (by have e:q=N+2:=e;have:=bR.out;omega)));clear a0 a1 a2 a3 a4 a5 t7 y0 y1 y2 tC pY hcc wZ hkb hbb gV
    gi_wp2
    exact⟨C,qJ.out,fun b hb=>.inl hb,Co.out⟩
   ·gi_wp2
    have oF:(pre++[x]).filter rel=pre.filter rel++[x]:=by rw[List.filter_append,List.filter_cons_of_pos jg.out];simp
    have hlt:=zke kK.out.2.2.1;exact⟨C,⟨kK.out.1,fun b hb=>(oU.out.block b (by omega) (fun e:b=T=>by omega)).trans (kK.out.2.1 b hb),by rw[oF,List.length_append,qE.out,xY.out];simp,fun y hy h=>by
     rcases List.mem_append.1 hy with hy|hy
     ·exact kK.out.2.2.2.1 y hy h
     ·rw[List.mem_singleton.1 hy];exact HR1.out,kK.out.2.2.2.2.trans (oU.out.below kK.out.2.2.2.2.size fun b (e:b=T)=>by have:=jS.out;omega)⟩,fun b hb=>.inl hb,(Chg.of_below aX.out).trans2 oU.out fun q _ e=>(HI4.out.1 q).2 (by have e:q=T:=e;omega)⟩
  ·have bH:=rF.out;rw[if_neg hr]at bH;injection bH with hi1 hi2;subst hi1 hi2;have hr1:(GE != 0)=true:=by simpa using hr
   have hr2:(GE==0)=false:=by simpa using hr
   have jg:=zh (bW.out.1.trans hr2);clear hr rF
   gi_wp2
   have oF:(pre++[x]).filter rel=pre.filter rel:=by rw[List.filter_append,List.filter_cons_of_neg (by rw[jg.out];simp)];simp
   exact⟨C,⟨kK.out.1,kK.out.2.1,by rw[oF];exact kK.out.2.2.1,fun y hy h=>by
    rcases List.mem_append.1 hy with hy|hy
    ·exact kK.out.2.2.2.1 y hy h
    ·rw[List.mem_singleton.1 hy,jg.out]at h;exact absurd h Bool.false_ne_true,kK.out.2.2.2.2⟩,fun b hb=>.inl hb,Chg.of_below aX.out⟩
 ·intro D C W' hD hI hch hK;have hRR:(true,((allS e.bx (lenE e.gv.vs e.bx)).filter rel).length,nilS,0)=RR:=(zqk hI.2.2.2.1).symm.trans dP.out;obtain⟨n,hn⟩:=zX (((allS e.bx (lenE e.gv.vs e.bx)).filter rel).length);have lC:=hI.2.2.1;rw[hn]at lC hRR;subst hRR;have hka:=(hI.2.1 ab (by have:=bR.out;omega)).trans (zkc HKA7.out dY.out);have hkr:=(hI.2.1 (N+2) (by have:=bR.out;omega)).trans (qz.out _ qL.out);obtain⟨a0,a1,a2,a3,a4,a5⟩:=box6 hka;have z7:W'.cell? ⟨T,0,none⟩=some (.int .i64 (n:Int)):=zc lC rfl;have r0:W'.cell? ⟨N+2,0,none⟩=some (.bool false):=zc hkr rfl;have cfb:∀o,W'.frozen? ⟨N+2,o,none⟩=false:=fun o=>zf hkr;obtain⟨wc,hwc,hcc,wZ⟩:=setU (o:=0) (.bool true) hkr;have aS:=zh hI.2.2.2.2;have hDN:N+2<D:=by rw[hD];have:=BB.out;have:=bR.out;omega
  have Cb:=zh (hcc.keep hK (fun e:D=N+2=>by omega));have hcd:=Chg.putObj wc D (.deferred none);have y0:(wc.putObj D (.deferred none)).cell? ⟨N+2,0,none⟩=some (.bool true):=zc (hcd.keep wZ (fun(e:N+2=D)=>by omega)) rfl;have hbc:Below W.heap.size W wc:=aS.out.trans (hcc.below aS.out.size fun b (e:b=N+2)=>by have:=HN.out;omega);have dC:=zh (show Below W.heap.size W (wc.putObj D (.deferred none))from hbc.trans (hcd.below hbc.size fun b (e:b=D)=>by have:=HN.out;omega));have HY:=zh y0;clear hI hch hK hD lC hka hkr hcc wZ hcd y0 hbc hDN hn dP;go_wp2_with fail;refine⟨by simp,.inl ⟨_,_,rfl,run_takeDeferred Cb.out,?_⟩⟩;have y0:=HY.out;exact⟨.bool true,by simp[results,results5,go_sem,y0],rfl,dC.out⟩
 ·intro D pre C W' hD hX hch hK;obtain⟨h1,h2,h3,h4⟩:=hX;have hDN:N+2<D:=by rw[hD];have:=BB.out;have:=bR.out;omega
  have HK:=zh hK;have hcd:=Chg.putObj W' D (.deferred none);refine wpIn_ret ?_;simp only[Exit.inBlock,Exit.then];refine⟨by simp,.inl ⟨_,_,rfl,run_takeDeferred HK.out,?_⟩⟩;have y0:(W'.putObj D (.deferred none)).cell? ⟨N+2,0,none⟩=some (.bool true):=zc (hcd.keep h4 (fun(e:N+2=D)=>by omega)) rfl;exact⟨.bool true,by simp[results,results5,go_sem,y0],rfl,h3.trans (hcd.below h3.size fun b (e:b=D)=>by have:=HN.out;omega)⟩
end
section
open Go.RowKit Go.ChangeShapes Go.WideShapes Go.ChangeAt Go.Deep
theorem znd:prog.cellsOf 28=4:=by kernel_rfl
theorem zuQ:prog.bytesOf 28=56:=by kernel_rfl
theorem zyz:prog.cellsOf 5=1:=by kernel_rfl
theorem zwK:prog.cellsOf 3=1:=by kernel_rfl
theorem zwJ:prog.cellsOf 9=1:=by kernel_rfl
theorem zuP:prog.cellsOf 26=1:=by kernel_rfl
theorem zlX{H:Type}{P:Program}{e:TypeId}:∀ {l:List (DataW H)} {d:DataW H},d∈l->∀n∈d.weights P e,n∈DataW.weightsAll P e l
 | d0::l,d,hd,n,hn=>by
  simp only[DataW.weightsAll,List.mem_append];rcases List.mem_cons.1 hd with rfl|hd
  ·exact .inl hn
  ·exact .inr (zlX hd n hn)
theorem zmZ{H:Type}:∀(ks:List T) (ds:List (DataW H)),ks.length=ds.length->(∀i (h:i<ks.length) (h':i<ds.length),size ks[i]<=Rows.uptoBulk ds[i])->zkU ks<=Rows.uptoBulkAll ds
 | [],[],_,_=>by simp[zkU]
 | t::ts,d::ds,hl,h=>by
  have h0:=h 0 (Nat.zero_lt_succ _) (Nat.zero_lt_succ _);have h1:=zmZ ts ds (by simpa using hl) (fun i hi hi'=>h (i+1) (Nat.succ_lt_succ hi) (Nat.succ_lt_succ hi'));simp only[List.getElem_cons_zero]at h0;simp only[zkU,Rows.uptoBulkAll];omega
 | [],_::_,hl,_=>by simp at hl
 | _::_,[],hl,_=>by simp at hl
section
variable {H:Type} {enc:TypeId×Value->H} {w:World} {held:Bool}
def zeroT':T:=.nd 0 0 ⟨#[]⟩ []
theorem zqd:∀(fuel:Nat) (cs:List Value) (x:DataW H×List MemPlace),DataW.trod enc prog w 0 (fun _=>true) held fuel 28 cs=some x ->
  (∀n∈x.1.weights prog 28,n<=reachBytes) ->
  ∃t u0 u1 u2 u3,cs=[u0,u1,u2,u3]/\NV w Any t (.agg #[u0,u1,u2,u3])/\t.ks.length*56<=reachBytes/\size t<=Rows.uptoBulk x.1:=by
 intro fuel
 induction fuel using Nat.strongRecOn with
 | _ fuel ih =>
 intro cs x h hw;have hts:=DataW.trod_struct underlying28 h;obtain⟨xs,n,hfu,hx,hcl,hxl,hg⟩:=hts;subst hx;rw[znd]at hcl
 match cs,hcl with
 | [c0,c1,c2,c3],_ =>
 match xs,hxl with
 | [y0,y1,y2,y3],_ =>
 have g0:=hg 0 _ rfl;have g1:=hg 1 _ rfl;have g2:=hg 2 _ rfl;have g3:=hg 3 _ rfl;simp only[zyz,zwK,zwJ,zuP,List.drop_zero,List.take_succ_cons,List.take_zero,List.drop_succ_cons,List.getElem?_cons_zero,List.getElem?_cons_succ]at g0 g1 g2 g3;obtain⟨k,e0,e0',wk⟩:=DataW.trod_int underlying5 g0;obtain⟨m,e1,e1',wm⟩:=DataW.trod_int underlying3 g1;obtain⟨s,e2,e2',ws⟩:=DataW.trod_string underlying9 g2;injection e0 with e0;injection e1 with e1;injection e2 with e2;subst e0 e1 e2 e0' e1' e2';have hf:Fld k m s:=by
  refine⟨?_,?_,ws⟩
  ·have:=wk;simp[Lit.wf,IntKind.min,IntKind.max,IntKind.signed,IntKind.bits]at this;omega
  ·have:=wm;simp[Lit.wf,IntKind.min,IntKind.max,IntKind.signed,IntKind.bits]at this;omega
 have hsl:=DataW.trod_slice underlying26 g3;rcases hsl with⟨e3,e3'⟩|⟨a,len,cap,elems,rest,n',hn',e3,e3',_,hl,hm,hel,hat,hsp,_⟩
 ·injection e3 with e3;subst e3 e3';refine⟨.nd k m s [],_,_,_,_,rfl,NV.shut (ks:=[]) hf (Nat.zero_le _) (Nat.zero_le _) zkP.nil,by simp,?_⟩;simp only[size,zkU,List.map_cons,List.map_nil,Rows.uptoBulk];omega
 ·injection e3 with e3;subst e3 e3';obtain⟨hrl,_⟩:=hsp rfl;rw[znd]at hat
  -- what the reach says of this slice,and of its elements
  have hws:∀q∈DataW.weights prog 26 (.slice (elems.map (·.1)) (rest.map (·.1)):DataW H),q<=reachBytes:=by
   intro q hq;refine hw q ?_;simp only[List.map_cons,List.map_nil,DataW.weights,underlying28];simp only[DataW.weightsEach,List.map_cons,List.map_nil,List.mem_append];exact .inr (.inr (.inr (.inl hq)))
  simp only[DataW.weights,underlying26,zuQ]at hws;have hcap:cap*56<=reachBytes:=by
   have:=hws _ (List.mem_cons_self ..);simp only[List.length_map]at this;rw[hel,hrl]at this;rw[show cap=len+(cap-len) by omega];exact this
  have yw:∀y∈elems,∀q∈y.1.weights prog 28,q<=reachBytes:=fun y hy q hq =>
   hws q (List.mem_cons_of_mem _ (List.mem_append_left _ (zlX (List.mem_map_of_mem hy) q hq)))
  have key:∀i (hi:i<elems.length),∃t u0 u1 u2 u3,w.cells? 0 (a.add (i*4)) 4=some [u0,u1,u2,u3]/\NV w Any t (.agg #[u0,u1,u2,u3])/\size t<=Rows.uptoBulk elems[i].1:=by
   intro i hi;have h1:=hat i (by omega);rw[List.getElem?_eq_getElem hi]at h1;obtain⟨cs',hcs,ht⟩:=Option.bind_eq_some_iff.1 h1;obtain⟨t,u0,u1,u2,u3,rfl,hn,_,hb⟩:=ih n' (by omega) cs' elems[i] ht (yw _ (List.getElem_mem hi));exact⟨t,u0,u1,u2,u3,hcs,hn,hb⟩
  have hex:∃ks:List T,ks.length=elems.length/\∀i (h:i<ks.length) (h':i<elems.length),(∃u0 u1 u2 u3,w.cells? 0 (a.add (i*4)) 4=some [u0,u1,u2,u3]/\NV w Any ks[i] (.agg #[u0,u1,u2,u3]))/\size ks[i]<=Rows.uptoBulk elems[i].1:=by
   classical
   refine⟨(List.range elems.length).map fun i=>if h:i<elems.length then(key i h).choose else zeroT',by simp,fun i h h'=>?_⟩;simp only[List.getElem_map,List.getElem_range,h',dif_pos];obtain⟨u0,u1,u2,u3,h1,h2,h3⟩:=(key i h').choose_spec;exact⟨⟨u0,u1,u2,u3,h1,h2⟩,h3⟩
  obtain⟨ks,hkl,hks⟩:=hex;have hlen:ks.length=len:=by omega
  have hLK:ks.length<=LK:=by unfold LK;unfold reachBytes at hcap;omega
  refine⟨.nd k m s ks,_,_,_,_,rfl,?_,?_,?_⟩
  ·rw[<-hlen];refine NV.shut hf hLK (by omega) fun i hi=>?_;obtain⟨⟨u0,u1,u2,u3,hc,hn⟩,_⟩:=hks i hi (by omega);obtain⟨_,_,hcell⟩:=World.cells?_some hc;refine⟨a,u0,u1,u2,u3,rfl,trivial,⟨?_,?_,?_,?_⟩,hn⟩
   ·have:=hcell 0 (by omega);simpa[Addr.add]using this
   ·have:=hcell 1 (by omega);simpa[Addr.add]using this
   ·have:=hcell 2 (by omega);simpa[Addr.add]using this
   ·have:=hcell 3 (by omega);simpa[Addr.add]using this
  ·simp only[T.ks_nd];omega
  ·have hb:=zmZ ks (elems.map (·.1)) (by simp[hkl]) (fun i h h'=>by
    have:=(hks i h (by simpa using h')).2;simpa using this)
   simp only[size,List.map_cons,List.map_nil,Rows.uptoBulk,Rows.uptoBulkAll];omega
end
theorem Tryz.own:ownKnob prog.godebug=none:=by kernel_rfl
theorem Tryz.laidOut:laidOutB prog=true:=by kernel_rfl
theorem zuM:prog.cellsOf 38=3:=by kernel_rfl
theorem zyB:prog.bytesOf 38=32:=by kernel_rfl
section
variable {H:Type} {enc:TypeId×Value->H} {w:World} {held:Bool}
theorem zrT{ty E:TypeId}{n b:Nat}(ht:prog.underlying ty=some (.slice E))(hc:prog.cellsOf E=n)(hb:prog.bytesOf E=b){fuel:Nat}{cs:List Value}{x:DataW H×List MemPlace}
  (h:DataW.trod enc prog w 0 (fun _=>true) held fuel ty cs=some x)(hw:∀q∈x.1.weights prog ty,q<=reachBytes) :
  cs=[.slice none 0 0]\/∃a len cap,cs=[.slice (some a) len cap]/\len<=cap/\cap*b<=reachBytes/\∀i,i<len->∃cs' y n',w.cells? 0 (a.add (i*n)) n=some cs'/\DataW.trod enc prog w 0 (fun _=>true) held n' E cs'=some y/\∀q∈y.1.weights prog E,q<=reachBytes:=by
 have hsl:=DataW.trod_slice ht h;rcases hsl with⟨e3,e3'⟩|⟨a,len,cap,elems,rest,n',hn',e3,e3',_,hl,hm,hel,hat,hsp,_⟩
 ·exact .inl e3
 ·refine .inr ⟨a,len,cap,e3,hl,?_,?_⟩
  ·obtain⟨hrl,_⟩:=hsp rfl;subst e3';simp only[DataW.weights,ht,hb]at hw;have:=hw _ (List.mem_cons_self ..);simp only[List.length_map]at this;rw[hel,hrl]at this;rw[show cap=len+(cap-len) by omega];exact this
  ·intro i hi;subst e3';simp only[DataW.weights,ht,hb]at hw;have hi':i<elems.length:=by omega
   have h1:=hat i (by omega);rw[List.getElem?_eq_getElem hi',hc]at h1;obtain⟨cs',hcs,ht'⟩:=Option.bind_eq_some_iff.1 h1;exact⟨cs',elems[i],n',hcs,ht',fun q hq=>hw q (List.mem_cons_of_mem _ (List.mem_append_left _ (zlX (List.mem_map_of_mem (List.getElem_mem hi')) q hq)))⟩
theorem zx3{fuel:Nat}{cs:List Value}{x:DataW H×List MemPlace}(h:DataW.trod enc prog w 0 (fun _=>true) held fuel 38 cs=some x) :
  ∃v:VD,cs=[.string v.s,.int .u8 v.k,.int .i64 v.n]/\FldV v:=by
 have hts:=DataW.trod_struct underlying38 h;obtain⟨xs,n,hfu,hx,hcl,hxl,hg⟩:=hts;rw[zuM]at hcl
 match cs,hcl with
 | [c0,c1,c2],_ =>
 match xs,hxl with
 | [y0,y1,y2],_ =>
 have g0:=hg 0 _ rfl;have g1:=hg 1 _ rfl;have g2:=hg 2 _ rfl;obtain⟨s,e2,e2',ws⟩:=DataW.trod_string underlying9 g0;obtain⟨k,e0,e0',wk⟩:=DataW.trod_int underlying5 g1;obtain⟨m,e1,e1',wm⟩:=DataW.trod_int underlying3 g2;injection e0 with e0;injection e1 with e1;injection e2 with e2;subst e0 e1 e2;refine⟨⟨s,k,m⟩,rfl,ws,?_,?_⟩
 ·have:=wk;simp[Lit.wf,IntKind.min,IntKind.max,IntKind.signed,IntKind.bits]at this;constructor<;>simp only<;>omega
 ·have:=wm;simp[Lit.wf,IntKind.min,IntKind.max,IntKind.signed,IntKind.bits]at this;constructor<;>simp only<;>omega
theorem zou{α:Type}[Inhabited α]{n:Nat}{P:Nat->α->Prop}(h:∀i,i<n->∃x,P i x):∃l:List α,l.length=n/\∀i (hi:i<l.length),P i l[i]:=by
 obtain⟨f,hf⟩:=choose_lt h;exact⟨(List.range n).map f,by simp,fun i hi=>by simp only[List.getElem_map,List.getElem_range];exact hf i (by simpa using hi)⟩
instance:Inhabited VD:=⟨⟨⟨#[]⟩,0,0⟩⟩
theorem zsz{fuel:Nat}{cs:List Value}{x:DataW H×List MemPlace}(h:DataW.trod enc prog w 0 (fun _=>true) held fuel 24 cs=some x)(hw:∀q∈x.1.weights prog 24,q<=reachBytes) :
  ∃(A:Option Addr) (vs:List VD) (c:Nat),cs=[.slice A vs.length c]/\RowV w Any A vs/\vs.length<=4398046510976/\vs.length<=c:=by
 rcases zrT underlying24 zuM zyB h hw with rfl|⟨a,len,cap,rfl,hl,hcap,hat⟩
 ·exact⟨none,[],0,rfl,fun i hi=>absurd hi (by simp),Nat.zero_le _,Nat.zero_le _⟩
 ·obtain⟨vs,hvl,hvs⟩:=zou (n:=len) (P:=fun i (v:VD)=>w.cells? 0 (a.add (i*3)) 3=some [.string v.s,.int .u8 v.k,.int .i64 v.n]/\FldV v) fun i hi=>by
   obtain⟨cs',y,n',hcs,ht,_⟩:=hat i hi;obtain⟨v,rfl,hf⟩:=zx3 ht;exact⟨v,hcs,hf⟩
  refine⟨some a,vs,cap,by rw[hvl],fun i hi=>?_,by unfold reachBytes at hcap;omega,by omega⟩;obtain⟨hc,hf⟩:=hvs i hi;obtain⟨_,_,hcell⟩:=World.cells?_some hc;refine⟨a,rfl,trivial,⟨?_,?_,?_⟩,hf⟩
  ·have:=hcell 0 (by omega);simpa[Addr.add]using this
  ·have:=hcell 1 (by omega);simpa[Addr.add]using this
  ·have:=hcell 2 (by omega);simpa[Addr.add]using this
theorem zqb{fuel:Nat}{cs:List Value}{x:DataW H×List MemPlace}(h:DataW.trod enc prog w 0 (fun _=>true) held fuel 24 cs=some x)(hw:∀q∈x.1.weights prog 24,q<=reachBytes) :
  ∃(A:Option Addr) (vs:List VD) (c:Nat),cs=[.slice A vs.length c]/\RowV w Any A vs/\vs.length<=LV/\vs.length<=c:=by
 obtain⟨A,vs,c,h1,h2,h3,h4⟩:=zsz h hw;exact⟨A,vs,c,h1,h2,by unfold LV;omega,h4⟩
instance:Inhabited T:=⟨zeroT'⟩
theorem zrU{t:T}{u0 u1 u2 u3:Value}(h:NV w Any t (.agg #[u0,u1,u2,u3])):∃A c,u0=.int .u8 t.k/\u1=.int .i64 t.n/\u2=.string t.s/\u3=.slice A t.ks.length c/\NV w Any t (nv t.k t.n t.s A t.ks.length c):=by
 obtain⟨A,c,e,_⟩:=h.open_;have e':=e;simp only[nv,Value.agg.injEq,Array.mk.injEq,List.cons.injEq,and_true]at e;exact⟨A,c,e.1,e.2.1,e.2.2.1,e.2.2.2,e'▸h⟩
end
theorem zuN:prog.cellsOf 100=6:=by kernel_rfl
theorem zyC:prog.bytesOf 100=96:=by kernel_rfl
theorem zuO:prog.cellsOf 30=6:=by kernel_rfl
section
variable {H:Type} {enc:TypeId×Value->H} {w:World} {held:Bool}
instance:Inhabited PR:=⟨⟨⟨#[]⟩,[],zeroT'⟩⟩
theorem ztM{fuel:Nat}{cs:List Value}{x:DataW H×List MemPlace}(h:DataW.trod enc prog w 0 (fun _=>true) held fuel 100 cs=some x)(hw:∀q∈x.1.weights prog 100,q<=reachBytes) :
  ∃(r:PR) (A1:Option Addr) (c1:Nat) (A2:Option Addr) (c2:Nat),cs=[.string r.s,.slice A1 r.ps.length c1,.int .u8 r.b.k,.int .i64 r.b.n,.string r.b.s,.slice A2 r.b.ks.length c2]/\PrR w Any r A1 c1 A2 c2:=by
 have hts:=DataW.trod_struct underlying100 h;obtain⟨xs,n,hfu,hx,hcl,hxl,hg⟩:=hts;subst hx;rw[zuN]at hcl
 match cs,hcl with
 | [c0,c1,c2,c3,c4,c5],_ =>
 match xs,hxl with
 | [y0,y1,y2],_ =>
 have g0:=hg 0 _ rfl;have g1:=hg 1 _ rfl;have g2:=hg 2 _ rfl;have hw1:∀q∈y1.1.weights prog 24,q<=reachBytes:=fun q hq=>by
  refine hw q ?_;simp only[List.map_cons,List.map_nil,DataW.weights,underlying100];simp only[DataW.weightsEach,List.map_cons,List.map_nil,List.mem_append];exact .inr (.inl hq)
 have hw2:∀q∈y2.1.weights prog 28,q<=reachBytes:=fun q hq=>by
  refine hw q ?_;simp only[List.map_cons,List.map_nil,DataW.weights,underlying100];simp only[DataW.weightsEach,List.map_cons,List.map_nil,List.mem_append];exact .inr (.inr (.inl hq))
 obtain⟨s,e0,_,ws⟩:=DataW.trod_string underlying9 g0;obtain⟨A1,ps,k1,e1,hrow,hlp,hlc⟩:=zqb g1 hw1;obtain⟨t,u0,u1,u2,u3,e2,hn,_,_⟩:=zqd _ _ _ g2 hw2;obtain⟨A2,k2,rfl,rfl,rfl,rfl,hn'⟩:=zrU hn;injection e0 with e0;injection e1 with e1;change List.take (prog.cellsOf 28) [c2,c3,c4,c5]=_ at e2;rw[znd]at e2;simp only[List.take_succ_cons,List.take_zero,List.cons.injEq,and_true]at e2;obtain⟨rfl,rfl,rfl,rfl⟩:=e2;subst e0 e1;exact⟨⟨s,ps,t⟩,A1,k1,A2,k2,rfl,ws,hrow,hlp,hlc,hn'⟩
theorem zsA{fuel:Nat}{cs:List Value}{x:DataW H×List MemPlace}(h:DataW.trod enc prog w 0 (fun _=>true) held fuel 25 cs=some x)(hw:∀q∈x.1.weights prog 25,q<=reachBytes) :
  ∃(A:Option Addr) (ps:List PR) (c:Nat),cs=[.slice A ps.length c]/\RowP w Any A ps/\ps.length<=LV/\ps.length<=c:=by
 rcases zrT underlying25 zuN zyC h hw with rfl|⟨a,len,cap,rfl,hl,hcap,hat⟩
 ·exact⟨none,[],0,rfl,fun i hi=>absurd hi (by simp),Nat.zero_le _,Nat.zero_le _⟩
 ·obtain⟨ps,hvl,hvs⟩:=zou (n:=len) (P:=fun i (r:PR)=>∃A1 c1 A2 c2,w.cells? 0 (a.add (i*6)) 6=some [.string r.s,.slice A1 r.ps.length c1,.int .u8 r.b.k,.int .i64 r.b.n,.string r.b.s,.slice A2 r.b.ks.length c2]/\PrR w Any r A1 c1 A2 c2) fun i hi=>by
   obtain⟨cs',y,n',hcs,ht,rY⟩:=hat i hi;obtain⟨r,A1,c1,A2,c2,rfl,hr⟩:=ztM ht rY;exact⟨r,A1,c1,A2,c2,hcs,hr⟩
  refine⟨some a,ps,cap,by rw[hvl],fun i hi=>?_,by unfold LV;unfold reachBytes at hcap;omega,by omega⟩;obtain⟨A1,c1,A2,c2,hc,hr⟩:=hvs i hi;obtain⟨_,_,hcell⟩:=World.cells?_some hc;refine⟨a,A1,c1,A2,c2,rfl,trivial,⟨?_,?_,?_,?_,?_,?_⟩,hr⟩
  ·have:=hcell 0 (by omega);simpa[Addr.add]using this
  ·have:=hcell 1 (by omega);simpa[Addr.add]using this
  ·have:=hcell 2 (by omega);simpa[Addr.add]using this
  ·have:=hcell 3 (by omega);simpa[Addr.add]using this
  ·have:=hcell 4 (by omega);simpa[Addr.add]using this
  ·have:=hcell 5 (by omega);simpa[Addr.add]using this
theorem zqc{fuel:Nat}{cs:List Value}{x:DataW H×List MemPlace}(h:DataW.trod enc prog w 0 (fun _=>true) held fuel 30 cs=some x)(hw:∀q∈x.1.weights prog 30,q<=reachBytes) :
  ∃(p:PG) (A1:Option Addr) (c1:Nat) (A2:Option Addr) (c2:Nat) (A3:Option Addr) (c3:Nat),cs=[.slice A1 p.vs.length c1,.slice A2 p.prs.length c2,.int .u8 p.m.k,.int .i64 p.m.n,.string p.m.s,.slice A3 p.m.ks.length c3]/\PgR w Any p A1 c1 A2 c2 A3 c3:=by
 have hts:=DataW.trod_struct underlying30 h;obtain⟨xs,n,hfu,hx,hcl,hxl,hg⟩:=hts;subst hx;rw[zuO]at hcl
 match cs,hcl with
 | [c0,c1,c2,c3,c4,c5],_ =>
 match xs,hxl with
 | [y0,y1,y2],_ =>
 have g0:=hg 0 _ rfl;have g1:=hg 1 _ rfl;have g2:=hg 2 _ rfl;have hw0:∀q∈y0.1.weights prog 24,q<=reachBytes:=fun q hq=>by
  refine hw q ?_;simp only[List.map_cons,List.map_nil,DataW.weights,underlying30];simp only[DataW.weightsEach,List.map_cons,List.map_nil,List.mem_append];exact .inl hq
 have hw1:∀q∈y1.1.weights prog 25,q<=reachBytes:=fun q hq=>by
  refine hw q ?_;simp only[List.map_cons,List.map_nil,DataW.weights,underlying30];simp only[DataW.weightsEach,List.map_cons,List.map_nil,List.mem_append];exact .inr (.inl hq)
 have hw2:∀q∈y2.1.weights prog 28,q<=reachBytes:=fun q hq=>by
  refine hw q ?_;simp only[List.map_cons,List.map_nil,DataW.weights,underlying30];simp only[DataW.weightsEach,List.map_cons,List.map_nil,List.mem_append];exact .inr (.inr (.inl hq))
 obtain⟨A1,vs,k1,e0,hrow,hlv,hlvc⟩:=zqb g0 hw0;obtain⟨A2,ps,k2,e1,wR,hlp,hlpc⟩:=zsA g1 hw1;obtain⟨t,u0,u1,u2,u3,e2,hn,_,_⟩:=zqd _ _ _ g2 hw2;obtain⟨A3,k3,rfl,rfl,rfl,rfl,hn'⟩:=zrU hn;injection e0 with e0;injection e1 with e1;change List.take (prog.cellsOf 28) [c2,c3,c4,c5]=_ at e2;rw[znd]at e2;simp only[List.take_succ_cons,List.take_zero,List.cons.injEq,and_true]at e2;obtain⟨rfl,rfl,rfl,rfl⟩:=e2;subst e0 e1;exact⟨⟨vs,ps,t⟩,A1,k1,A2,k2,A3,k3,rfl,hrow,hlv,hlvc,wR,hlp,hlpc,hn'⟩
end
theorem zx1{H:Type}{enc:TypeId×Value->H}{W:World}{base:Nat}{v:Value}{d:DataW H}{p:List MemPlace}(hok:Value.okWide prog W .any base 30 v)
  (h:DataW.Trod enc prog W 0 (fun _=>true) true 30 v d p)(hw:∀n∈d.weights prog 30,n<=reachBytes):∃g,PV W Any g v:=by
 obtain⟨cs,rfl,hcs⟩:=okWide_struct underlying30 hok;obtain⟨fuel,hf⟩:=h;obtain⟨g,A1,c1,A2,c2,A3,c3,e,hr⟩:=zqc hf hw;refine⟨g,A1,c1,A2,c2,A3,c3,?_,hr⟩;have:cs = #[.slice A1 g.vs.length c1,.slice A2 g.prs.length c2,.int .u8 g.m.k,.int .i64 g.m.n,.string g.m.s,.slice A3 g.m.ks.length c3]:=by
  apply Array.ext';simpa[Value.cells]using e
 rw[this]
theorem zsc:prog.cellsOf 23=3:=by kernel_rfl
theorem zyA:prog.cellsOf 32=12:=by kernel_rfl
section
variable {H:Type} {enc:TypeId×Value->H} {w:World} {held:Bool}
theorem ztN{fuel:Nat}{cs:List Value}{x:DataW H×List MemPlace}(h:DataW.trod enc prog w 0 (fun _=>true) held fuel 23 cs=some x) :
  ∃b:BX,cs=[.int .i64 b.v,.int .i64 b.l,.int .i64 b.i]:=by
 have hts:=DataW.trod_struct underlying23 h;obtain⟨xs,n,hfu,hx,hcl,hxl,hg⟩:=hts;rw[zsc]at hcl
 match cs,hcl with
 | [c0,c1,c2],_ =>
 match xs,hxl with
 | [y0,y1,y2],_ =>
 obtain⟨m0,e0,_,w0⟩:=DataW.trod_int underlying3 (hg 0 _ rfl);obtain⟨m1,e1,_,w1⟩:=DataW.trod_int underlying3 (hg 1 _ rfl);obtain⟨m2,e2,_,w2⟩:=DataW.trod_int underlying3 (hg 2 _ rfl);injection e0 with e0;injection e1 with e1;injection e2 with e2;subst e0 e1 e2;exact⟨⟨m0,m1,m2⟩,rfl⟩
theorem zx4{fuel:Nat}{cs:List Value}{x:DataW H×List MemPlace}(h:DataW.trod enc prog w 0 (fun _=>true) held fuel 32 cs=some x)(hw:∀q∈x.1.weights prog 32,q<=reachBytes) :
  ∃(e:EX) (A1:Option Addr) (c1:Nat) (A2:Option Addr) (c2:Nat) (A3:Option Addr) (c3:Nat),cs=(exA e A1 c1 A2 c2 A3 c3).toList/\PgR w Any e.gv A1 c1 A2 c2 A3 c3/\I64 e.fu:=by
 have hts:=DataW.trod_struct underlying32 h;obtain⟨xs,n,hfu,hx,hcl,hxl,hg⟩:=hts;subst hx;rw[zyA]at hcl
 match cs,hcl with
 | [c0,c1,c2,c3,c4,c5,c6,c7,c8,c9,c10,c11],_ =>
 match xs,hxl with
 | [y0,y1,y2,y3,y4],_ =>
 have g0:=hg 0 _ rfl;have g1:=hg 1 _ rfl;have g2:=hg 2 _ rfl;have g3:=hg 3 _ rfl;have g4:=hg 4 _ rfl;have hw4:∀q∈y4.1.weights prog 30,q<=reachBytes:=fun q hq=>by
  refine hw q ?_;simp only[List.map_cons,List.map_nil,DataW.weights,underlying32];simp only[DataW.weightsEach,List.map_cons,List.map_nil,List.mem_append];exact .inr (.inr (.inr (.inr (.inl hq))))
 obtain⟨s,e0,_,ws⟩:=DataW.trod_string underlying9 g0;obtain⟨m1,e1,_,w1⟩:=DataW.trod_int underlying3 g1;obtain⟨m2,e2,_,w2⟩:=DataW.trod_int underlying3 g2;obtain⟨b,e3⟩:=ztN g3;obtain⟨p,A1,k1,A2,k2,A3,k3,e4,hr⟩:=zqc g4 hw4;injection e0 with e0;injection e1 with e1;injection e2 with e2;change List.take (prog.cellsOf 23) [c3,c4,c5,c6,c7,c8,c9,c10,c11]=_ at e3;rw[zsc]at e3;change List.take (prog.cellsOf 30) [c6,c7,c8,c9,c10,c11]=_ at e4;rw[zuO]at e4;simp only[List.take_succ_cons,List.take_zero,List.cons.injEq,and_true]at e3 e4;obtain⟨rfl,rfl,rfl⟩:=e3;obtain⟨rfl,rfl,rfl,rfl,rfl,rfl⟩:=e4;subst e0 e1 e2;simp[Lit.wf,IntKind.min,IntKind.max,IntKind.signed,IntKind.bits]at w1 w2;exact⟨⟨s,m1,m2,b,p⟩,A1,k1,A2,k2,A3,k3,rfl,hr,⟨by simp only;omega,by simp only;omega⟩⟩
end
theorem zKh{H:Type}{enc:TypeId×Value->H}{W:World}{base:Nat}{v:Value}{d:DataW H}{p:List MemPlace}(hok:Value.okWide prog W .any base 32 v)
  (h:DataW.Trod enc prog W 0 (fun _=>true) true 32 v d p)(hw:∀n∈d.weights prog 32,n<=reachBytes):∃e,EV W Any e v:=by
 obtain⟨cs,rfl,hcs⟩:=okWide_struct underlying32 hok;obtain⟨fuel,hf⟩:=h;obtain⟨g,A1,c1,A2,c2,A3,c3,e,hr,hI⟩:=zx4 hf hw;refine⟨g,A1,c1,A2,c2,A3,c3,?_,hr,hI⟩;have:cs=exA g A1 c1 A2 c2 A3 c3:=by
  apply Array.ext';simpa[Value.cells]using e
 rw[this]
end
end Go.Proofs.YthjinpodhacleaaGreat
