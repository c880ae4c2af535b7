/-
  Texts of the proof, put together without their remarks: Gup, Grf, Gaw, Rpa, Rpb, Grs, Srp, Gin, Vap, Nap, Lgr, Lift, LiftV, LiftP, LiftX.
-/
import Derived.Test.YthjinpodhacleaaGreatR11
import Derived.Test.YthjinpodhacleaaGreatRows
import Derived.ProofKit
import Derived.SizedLaws
import Derived.Deep.Slices
import Derived.Deep.Fields
import Derived.Lib.SmallJoins
set_option linter.unusedSimpArgs false
set_option linter.unusedVariables false
set_option maxHeartbeats 8000000
set_option maxRecDepth 100000
namespace Go.Proofs.YthjinpodhacleaaGreat
open Go.Proofs.Tryz
section
open Go Go.RowKit
attribute [local go_sem] Oper.semAt_some
theorem zn3(w:World)(S:Nat->Prop){k n:Int}{s:ByteArray}(hf:Fld k n s):NV w S (.nd k n s []) (nv k n s none 0 0):=NV.shut (ks:=[]) hf (by simp[LK]) (by simp) fun i hi=>by simp at hi
theorem zKK{w:World}{S:Nat->Prop}{b:Nat}{E:TypeId}{t1:T}{k n k1 n1:Int}{s s1:ByteArray}{A1:Option Addr}{l1 c1:Nat}(hf:Fld k n s)(hS:S b)(hk:w.heap[b]?=some (.cells #[.int .u8 k1,.int .i64 n1,.string s1,.slice A1 l1 c1] E (0,0)))(h1:NV w S t1 (nv k1 n1 s1 A1 l1 c1)) :
  NV w S (.nd k n s [t1]) (nv k n s (some ⟨b,0,none⟩) 1 1):=by
 refine NV.shut (ks:=[t1]) hf (by simp[LK]) (by simp) fun i hi=>?_
 match i,hi with
 | 0,_=>exact⟨⟨b,0,none⟩,_,_,_,_,rfl,hS,⟨zc hk rfl,zc hk rfl,zc hk rfl,zc hk rfl⟩,h1⟩
theorem zKc{w:World}{S:Nat->Prop}{b:Nat}{E:TypeId}{t1 t2:T}{k n k1 n1 k2 n2:Int}{s s1 s2:ByteArray}{A1 A2:Option Addr}{l1 c1 l2 c2:Nat}(hf:Fld k n s)(hS:S b)(hk:w.heap[b]?=some (.cells #[.int .u8 k1,.int .i64 n1,.string s1,.slice A1 l1 c1,.int .u8 k2,.int .i64 n2,.string s2,.slice A2 l2 c2] E (0,0)))(h1:NV w S t1 (nv k1 n1 s1 A1 l1 c1))(h2:NV w S t2 (nv k2 n2 s2 A2 l2 c2)) :
  NV w S (.nd k n s [t1,t2]) (nv k n s (some ⟨b,0,none⟩) 2 2):=by
 refine NV.shut (ks:=[t1,t2]) hf (by simp[LK]) (by simp) fun i hi=>?_
 match i,hi with
 | 0,_=>exact⟨⟨b,0,none⟩,_,_,_,_,rfl,hS,⟨zc hk rfl,zc hk rfl,zc hk rfl,zc hk rfl⟩,h1⟩
 | 1,_=>exact⟨⟨b,0,none⟩,_,_,_,_,rfl,hS,⟨zc hk rfl,zc hk rfl,zc hk rfl,zc hk rfl⟩,h2⟩
theorem fldG(k n:Int)(hk:0<=k/\k<256)(hn:I64 n):Fld k n ⟨#[]⟩:=⟨hk,hn,by decide⟩
theorem zzY(a0 a1 a2 a3:Value)(w:World):(Instr.buildSlice 26 1 #[(0,.agg #[a0,a1,a2,a3])]).run prog w=.ok (.slice (some ⟨w.heap.size,0,none⟩) 1 1) (w.alloc (.cells #[a0,a1,a2,a3] 28)):=by kernel_rfl
theorem zzX(a0 a1 a2 a3 b0 b1 b2 b3:Value)(w:World):(Instr.buildSlice 26 2 #[(0,.agg #[a0,a1,a2,a3]),(1,.agg #[b0,b1,b2,b3])]).run prog w=.ok (.slice (some ⟨w.heap.size,0,none⟩) 2 2) (w.alloc (.cells #[a0,a1,a2,a3,b0,b1,b2,b3] 28)):=by kernel_rfl
theorem bNkG(k:Int)(A:Option Addr)(l c:Nat)(w:World):(Instr.build 28 #[(0,.int .u8 k),(3,.slice A l c)]).run prog w=.ok (nv k 0 ⟨#[]⟩ A l c) w:=by kernel_rfl
theorem bSVG(a0 a1 a2:Value)(w:World):(Instr.buildSlice 24 1 #[(0,.agg #[a0,a1,a2])]).run prog w=.ok (.slice (some ⟨w.heap.size,0,none⟩) 1 1) (w.alloc (.cells #[a0,a1,a2] 38)):=by kernel_rfl
theorem bVdG(s:ByteArray)(k:Int)(w:World):(Instr.build 38 #[(0,.string s),(1,.int .u8 k)]).run prog w=.ok (.agg #[.string s,.int .u8 k,.int .i64 0]) w:=by kernel_rfl
theorem bPgG(A B:Option Addr)(l c m d:Nat)(k n:Int)(s:ByteArray)(w:World):(Instr.build 30 #[(0,.slice A l c),(2,nv k n s B m d)]).run prog w=.ok (pv A l c none 0 0 k n s B m d) w:=by kernel_rfl
abbrev xX:ByteArray:=⟨#[120]⟩
abbrev xO:ByteArray:=⟨#[]⟩
abbrev updT(k n:Int):T:=.nd k 0 xO [.nd 2 0 xX [],.nd 1 n xO []]
def updP(k n:Int):PG:=⟨[⟨xX,1,0⟩],[],.nd 57 0 xO [updT k n]⟩
theorem zto(s:ByteArray)(w:World):Calls prog 11 #[.string s] w fun e w'=>e=.returned (nv 2 0 s none 0 0)/\Below w.heap.size w w':=by
 have hb:∀w,(Instr.build 28 #[(0,.int .u8 2),(2,.string s)]).run prog w=.ok (nv 2 0 s none 0 0) w:=fun w=>by kernel_rfl
 go_enter func11,ntmps11;go_wp2_with fail;exact bodyPost_ret (v:=nv 2 0 s none 0 0) (by simp[results,results11,go_sem]) rfl ⟨rfl,zkb zr _⟩
theorem zqp(n:Int)(w:World):Calls prog 12 #[.int .i64 n] w fun e w'=>e=.returned (nv 1 n xO none 0 0)/\Below w.heap.size w w':=by
 have hb:∀w,(Instr.build 28 #[(0,.int .u8 1),(1,.int .i64 n)]).run prog w=.ok (nv 1 n xO none 0 0) w:=fun w=>by kernel_rfl
 go_enter func12,ntmps12;go_wp2_with fail;exact bodyPost_ret (v:=nv 1 n xO none 0 0) (by simp[results,results12,go_sem]) rfl ⟨rfl,zkb zr _⟩
theorem znq(k n:Int)(hk:0<=k/\k<256)(hn:I64 n)(w:World):Calls prog 21 #[.int .u8 k,.int .i64 n] w fun e w'=>∃v,e=.returned v/\PV w' Any (updP k n) v/\Below w.heap.size w w':=by
 have h1:=zzY;have h2:=zzX;have h3:=bNkG;have h4:=bSVG;have h5:=bVdG;have h6:=bPgG;have HKN:=zh (And.intro hk hn);obtain⟨N,hN⟩:=zX (w.heap.size);have HN:=zh hN;clear hk hn;have k0:=heap_alloc_new w (.cells #[.slice none 0 0,.slice none 0 0,.int .u8 0,.int .i64 0,.string xO,.slice none 0 0] 30);have hb0:=zkb (zs w) (.cells #[.slice none 0 0,.slice none 0 0,.int .u8 0,.int .i64 0,.string xO,.slice none 0 0] 30);rw[hN]at k0;have HB0:=zh hb0;have aH:=zh k0;clear k0 hb0;go_enter func21,ntmps21;go_upto_region 1 with fail;obtain⟨w1,hw1⟩:=zX (w.alloc (.cells #[.slice none 0 0,.slice none 0 0,.int .u8 0,.int .i64 0,.string xO,.slice none 0 0] 30));rw[hw1]at HB0 aH
 try rw[hw1]
 try rw[hN]
 clear hw1 hN;go_wp2_with fail;refine(zto _ _).mono ?_;rintro e w2 ⟨rfl,hb2⟩;have HB2:=zh hb2;clear hb2;go_wp2_with fail;refine(zqp _ _).mono ?_;rintro e w3 ⟨rfl,hb3⟩;have HB3:=zh (zka HB2.out hb3);clear hb3;go_upto_region 2 with fail;obtain⟨M,hM⟩:=zX (w3.heap.size);obtain⟨w4,hw4⟩:=zX ((w3.alloc (.cells #[.int .u8 2,.int .i64 0,.string xX,.slice none 0 0,.int .u8 1,.int .i64 n,.string xO,.slice none 0 0] 28)).alloc (.cells #[.int .u8 k,.int .i64 0,.string xO,.slice (some ⟨M,0,none⟩) 2 2] 28));have hb4:Below w3.heap.size w3 w4:=by rw[<-hw4];exact zkb (zkb zr _) _
 have mr:w4.heap.size=M+2:=by rw[<-hw4];simp[hM]
 have hm4:w4.heap[M]?=some (.cells #[.int .u8 2,.int .i64 0,.string xX,.slice none 0 0,.int .u8 1,.int .i64 n,.string xO,.slice none 0 0] 28 (0,0)):=by rw[<-hw4,<-hM];exact zkd (heap_alloc_new w3 _) _
 have sD:w4.heap[M+1]?=some (.cells #[.int .u8 k,.int .i64 0,.string xO,.slice (some ⟨M,0,none⟩) 2 2] 28 (0,0)):=by rw[<-hw4];exact zoF _ (by simp[hM]) _
 have hk4:=zkc (zkc aH.out HB3.out) hb4;have hNM:N<M:=by rw[<-hM];exact zkf (zkc aH.out HB3.out)
 rw[hM];rw[hw4];have hb5:=zkb (zs w4) (.cells #[.string xX,.int .u8 1,.int .i64 0] 38);have hb6:=zkb hb5 (.cells #[.int .u8 k,.int .i64 0,.string xO,.slice (some ⟨M,0,none⟩) 2 2] 28);have hv6:=zkd (heap_alloc_new w4 (.cells #[.string xX,.int .u8 1,.int .i64 0] 38)) (.cells #[.int .u8 k,.int .i64 0,.string xO,.slice (some ⟨M,0,none⟩) 2 2] 28);have iB:=heap_alloc_new (w4.alloc (.cells #[.string xX,.int .u8 1,.int .i64 0] 38)) (.cells #[.int .u8 k,.int .i64 0,.string xO,.slice (some ⟨M,0,none⟩) 2 2] 28);rw[World.size_alloc]at iB;have Bi:=zkc hm4 hb6;have bJ:=zkc hk4 hb6;obtain⟨x0,x1,x2,x3⟩:=box4 (zkc sD hb5);obtain⟨w6,jV⟩:=zX ((w4.alloc (.cells #[.string xX,.int .u8 1,.int .i64 0] 38)).alloc (.cells #[.int .u8 k,.int .i64 0,.string xO,.slice (some ⟨M,0,none⟩) 2 2] 28));obtain⟨z0,z1,z2,z3⟩:=box4 sD;rw[mr]at hv6 iB
 have qE:(w4.alloc (.cells #[.string xX,.int .u8 1,.int .i64 0] 38)).heap.size=M+3:=by simp[mr]
 rw[jV]at hb6 hv6 iB Bi bJ;obtain⟨w7,hw7,xn,pQ⟩:=zsw (.slice (some ⟨M+2,0,none⟩) 1 1) (.slice none 0 0) (.int .u8 57) (.int .i64 0) (.string xO) (.slice (some ⟨M+2+1,0,none⟩) 1 1) bJ;obtain⟨q0,q1,q2,q3,q4,q5⟩:=box6 bJ;have cf:∀o,w6.frozen? ⟨N,o,none⟩=false:=fun o=>zf bJ;have hv7:=pQ.keep hv6 (fun e:M+2=N=>by omega);have pq:=pQ.keep iB (fun e:M+2+1=N=>by omega);have hm7:=pQ.keep Bi (fun e:M=N=>by omega);have xY:=zh (show NV w7 Any (updP k n).m (nv 57 0 xO (some ⟨M+2+1,0,none⟩) 1 1)from zKK (fldG 57 0 (by decide) ⟨by decide,by decide⟩) trivial pq (zKc (fldG k 0 HKN.out.1 ⟨by decide,by decide⟩) trivial hm7 (zn3 _ Any ⟨by decide,by decide,by decide⟩) (zn3 _ Any (fldG 1 n (by decide) HKN.out.2))));have Cn:=zh hv7
 have Cg:=zh (show PV w7 Any (updP k n) (pv (some ⟨M+2,0,none⟩) 1 1 none 0 0 57 0 xO (some ⟨M+2+1,0,none⟩) 1 1)from⟨some ⟨M+2,0,none⟩,1,none,0,some ⟨M+2+1,0,none⟩,1,rfl,⟨fun i hi=>by
   obtain rfl:i=0:=by simp[updP]at hi;omega
   exact⟨⟨M+2,0,none⟩,rfl,trivial,⟨zc Cn.out rfl,zc Cn.out rfl,zc Cn.out rfl⟩,show FldV ⟨xX,1,0⟩from⟨by decide,by decide,by decide⟩⟩,show(1:Nat)<=LV by decide,show(1:Nat)<=1 by decide,fun i hi=>by simp[updP]at hi,show(0:Nat)<=LV by decide,show(0:Nat)<=0 by decide,xY.out⟩⟩)
 have dK:=zh (show Below w.heap.size w w7 from(zka HB0.out (zka HB3.out (zka hb4 hb6))).trans (pQ.below (zka HB0.out (zka HB3.out (zka hb4 hb6))).size fun b (e:b=N)=>by have:=HN.out;omega));obtain⟨t0,t1,t2,t3,t4,t5⟩:=box6 xn;clear hb5 hb6 hv6 iB Bi bJ xn pQ hv7 pq hm7 hm4 sD hk4 hb4;go_wp2_with fail;exact bodyPost_ret (v:=pv (some ⟨M+2,0,none⟩) 1 1 none 0 0 57 0 xO (some ⟨M+2+1,0,none⟩) 1 1) (by simp[results,results21,go_sem,t0,t1,t2,t3,t4,t5]) rfl ⟨_,rfl,Cg.out,dK.out⟩
end
section
open Go Go.RowKit
attribute [local go_sem] Oper.semAt_some
theorem zuJ(a b:List VD):eqVs a b=eqVs b a:=by
 rw[Bool.eq_iff_iff,zmi,zmi];exact eq_comm
theorem zmR{W:World}{e:EX}{q:PG}{ev qv:Value}(he:EV W Any e ev)(hq:PV W Any q qv) :
  Calls prog 10 #[ev,qv] W fun en w'=>en=.returned (.int .i64 (admE e q))/\Below W.heap.size W w':=by
 have iR:=zh (fun w' (hb:Below W.heap.size W w')=>he.later hb);have HQ:=zh (fun w' (hb:Below W.heap.size W w')=>hq.later hb);obtain⟨A1,c1,A2,c2,A3,c3,rfl,hg,hI⟩:=he;obtain⟨D1,e1,D2,e2,D3,e3,rfl,iA⟩:=hq;have hb2:=zkb (zkb (zs W) (.cells (exA e A1 c1 A2 c2 A3 c3) 32)) (.cells (pgA q D1 e1 D2 e2 D3 e3) 30);have k0:=zkd (heap_alloc_new W (.cells (exA e A1 c1 A2 c2 A3 c3) 32)) (.cells (pgA q D1 e1 D2 e2 D3 e3) 30);have k1:=heap_alloc_new (W.alloc (.cells (exA e A1 c1 A2 c2 A3 c3) 32)) (.cells (pgA q D1 e1 D2 e2 D3 e3) 30);rw[World.size_alloc]at k1;obtain⟨w2,hw2⟩:=zX ((W.alloc (.cells (exA e A1 c1 A2 c2 A3 c3) 32)).alloc (.cells (pgA q D1 e1 D2 e2 D3 e3) 30));obtain⟨N,hN⟩:=zX (W.heap.size);rw[hw2]at hb2 k0 k1;rw[hN]at k0 k1;have HB:=zh hb2;have bF:=zh (fun w' (h:Below w2.heap.size w2 w')=>znb (zkc k0 h));have bB:=zh (fun w' (h:Below w2.heap.size w2 w')=>box6 (zkc k1 h))
 have bH:=zh (zs w2);have uq:=zh (zow e _ w2 (iR.out _ hb2));have bN:=zh (fun w' (h:Below w2.heap.size w2 w')=>zqR (HQ.out _ (zka hb2 h)));have dO:=zh (fun w' (h:Below w2.heap.size w2 w')=>zlz q Any _ w' (HQ.out _ (zka hb2 h)));have gZ:=zh (fun w' (h:Below w2.heap.size w2 w')=>zlJ q Any _ w' (HQ.out _ (zka hb2 h)));have dX:=zh (fun w' (h:Below w2.heap.size w2 w')=>zxd (W:=w') (c:=c1) (d:=e1) ((hg.vars.later hb2).later h) ((iA.vars.later hb2).later h) hg.lv iA.lv);obtain⟨VX,mR⟩:=zX (zkV e);obtain⟨AD,fq⟩:=zX (admE e q);have HAD:=zh fq;have fJ:=zh mR;rw[fq];rw[mR]at uq;clear hb2 k0 k1 hg iA mR fq hI;obtain⟨x0,x1,x2,x3,x4,x5,x6,x7,x8,x9,az,ay⟩:=bF.out _ bH.out;obtain⟨q0,q1,q2,q3,q4,q5⟩:=bB.out _ bH.out;go_enter func10,ntmps10;go_upto_region 1 with fail
 try rw[hw2]
 try rw[hN]
 clear hw2 hN;go_wp2_with fail;refine uq.out.mono ?_;rintro en w3 ⟨rfl,hb3⟩;have aR:=zh (zka bH.out hb3);clear x0 x1 x2 x3 x4 x5 x6 x7 x8 x9 az ay q0 q1 q2 q3 q4 q5 hb3 uq;obtain⟨x0,x1,x2,x3,x4,x5,x6,x7,x8,x9,az,ay⟩:=bF.out _ aR.out;obtain⟨q0,q1,q2,q3,q4,q5⟩:=bB.out _ aR.out
 cases VX
 ·have HF:=zh (show admE e q=1 by unfold admE;rw[fJ.out];rfl);go_wp2_with fail;go_ret;exact⟨by rw[<-HAD.out,HF.out];rfl,zka HB.out aR.out⟩
 have nY:=zh (show admE e q=admP e.gv.vs q by unfold admE;rw[fJ.out];rfl);go_wp2_with fail;refine(dO.out _ aR.out).mono ?_;rintro en w5 ⟨rfl,hb5⟩;have bX:=zh (zka aR.out hb5);clear x0 x1 x2 x3 x4 x5 x6 x7 x8 x9 az ay q0 q1 q2 q3 q4 q5 hb5 dO;obtain⟨x0,x1,x2,x3,x4,x5,x6,x7,x8,x9,az,ay⟩:=bF.out _ bX.out;obtain⟨q0,q1,q2,q3,q4,q5⟩:=bB.out _ bX.out;obtain⟨VB,tL⟩:=zX (zkA q);have aZ:=zh tL;rw[tL];clear tL
 cases VB
 ·have HF:=zh (show admE e q=3 by rw[nY.out];unfold admP;rw[aZ.out];rfl);go_wp2_with fail;go_ret;exact⟨by rw[<-HAD.out,HF.out];rfl,zka HB.out bX.out⟩
 have tT:=gZ.out _ bX.out;rw[if_pos aZ.out]at tT;have nH:=zh tT;clear tT gZ;go_wp2_with fail;refine nH.out.mono ?_;rintro en w6 ⟨B0,d0,rfl,hb6⟩;have dn:=zh (zka bX.out hb6);clear x0 x1 x2 x3 x4 x5 x6 x7 x8 x9 az ay q0 q1 q2 q3 q4 q5 hb6 nH;obtain⟨x0,x1,x2,x3,x4,x5,x6,x7,x8,x9,az,ay⟩:=bF.out _ dn.out;obtain⟨q0,q1,q2,q3,q4,q5⟩:=bB.out _ dn.out;obtain⟨CN,iH⟩:=zX (chkN q);have lF:=zh iH;rw[iH];clear iH;by_cases hc:CN=0
 ·have hz1:decide ((CN:Int)>0)=false:=by simp;omega
  have hz2:decide (0<CN)=false:=by simp;omega
  have rC:=zh (lF.out.trans hc);clear hc;go_wp2_with fail;refine(bN.out _ dn.out).mono ?_;rintro en w4 ⟨R,n,c,rfl,hR,hb4⟩;have bq:=zh (zka dn.out hb4);clear x0 x1 x2 x3 x4 x5 x6 x7 x8 x9 az ay q0 q1 q2 q3 q4 q5 hb4;obtain⟨x0,x1,x2,x3,x4,x5,x6,x7,x8,x9,az,ay⟩:=bF.out _ bq.out;obtain⟨q0,q1,q2,q3,q4,q5⟩:=bB.out _ bq.out;obtain⟨hn,hcell⟩:=hR ⟨aZ.out,rC.out⟩;have xW:=zh hn;clear hn hR;by_cases hz:n=0
  ·have xy:=zh (xW.out.symm.trans hz);have hz3:decide ((n:Int)>0)=false:=by simp;omega
   have mr:decide (0<n)=false:=by simp;omega
   clear hz hcell;go_wp2_with fail;refine(dX.out _ bq.out).mono ?_;rintro en w7 ⟨rfl,dN⟩;have gU:=zh (zka bq.out dN);obtain⟨EQ,uf⟩:=zX (eqVs e.gv.vs q.vs);have HE:=zh (show eqVs q.vs e.gv.vs=EQ by rw[zuJ,uf]);rw[uf];clear uf
   cases EQ
   ·have HF:=zh (show admE e q=7 by rw[nY.out];unfold admP;rw[aZ.out,rC.out,xy.out,HE.out];rfl);go_wp2_with fail;go_ret;exact⟨by rw[<-HAD.out,HF.out];rfl,zka HB.out gU.out⟩
   ·have HF:=zh (show admE e q=0 by rw[nY.out];unfold admP;rw[aZ.out,rC.out,xy.out,HE.out];rfl);go_wp2_with fail;go_ret;exact⟨by rw[<-HAD.out,HF.out];rfl,zka HB.out gU.out⟩
  ·obtain⟨g,rfl,sU⟩:=hcell hz;have hz3:decide ((n:Int)>0)=true:=by simp;omega
   have mr:decide (0<n)=true:=by simp;omega
   have HF:=zh (show admE e q=(rjA q).headD 0 by rw[nY.out];unfold admP;rw[aZ.out,rC.out,if_pos rfl,if_pos rfl,if_neg (fun h=>hz (xW.out.trans h))]);obtain⟨HD,xE⟩:=zX ((rjA q).headD 0);rw[xE]at HF sU;clear xE;go_wp2_with fail;go_ret;exact⟨by rw[<-HAD.out,HF.out];rfl,zka HB.out bq.out⟩
 ·have hz1:decide ((CN:Int)>0)=true:=by simp;omega
  have hz2:decide (0<CN)=true:=by simp;omega
  have HF:=zh (show admE e q=3 by rw[nY.out];unfold admP;rw[aZ.out,lF.out,if_pos rfl,if_neg hc]);go_wp2_with fail;go_ret;exact⟨by rw[<-HAD.out,HF.out];rfl,zka HB.out dn.out⟩
end
section
open Go Go.RowKit
attribute [local go_sem] Oper.semAt_some
abbrev xInc:ByteArray:=⟨#[105,110,99]⟩
def gxE:EX:=⟨xInc,5,9,⟨2,0,0⟩,updP 40 1⟩
theorem zup:allS gxE.bx (lenE gxE.gv.vs gxE.bx)=[⟨[[0]],[],[]⟩,⟨[[1]],[],[]⟩,⟨[[-1]],[],[]⟩,⟨[[2]],[],[]⟩,⟨[[-2]],[],[]⟩]:=by kernel_rfl
theorem gx_a:admE gxE (updP 41 1)=0:=by kernel_rfl
theorem gx_b:admE gxE (updP 41 2)=0:=by kernel_rfl
theorem zKx:grdE gxE (updP 41 1)=(true,5,nilS,0):=by unfold grdE;rw[zup];kernel_rfl
def gxS:SS:=⟨[[0]],[],[]⟩
theorem zKw:grdE gxE (updP 41 2)=(false,1,gxS,0):=by unfold grdE;rw[zup];kernel_rfl
theorem zKy(q:PG)(h:admE gxE q=0):(gxE.bx.ok&&svB gxE.gv.vs)=true/\(allS gxE.bx (lenE gxE.gv.vs gxE.bx)).length<=1000000/\gxE.fu<=1000000:=⟨by kernel_rfl,by rw[zup];decide,by decide⟩
theorem zKG(n:Int)(w:World):(Instr.build 23 #[(0,.int .i64 n)]).run prog w=.ok (.agg #[.int .i64 n,.int .i64 0,.int .i64 0]) w:=by kernel_rfl
theorem bExK(s t:ByteArray)(a b x y z:Int)(A B D:Option Addr)(l c m d j e:Nat)(k n:Int)(w:World):(Instr.build 32 #[(0,.string s),(1,.int .i64 a),(2,.int .i64 b),(3,.agg #[.int .i64 x,.int .i64 y,.int .i64 z]),(4,pv A l c B m d k n t D j e)]).run prog w=.ok (.agg #[.string s,.int .i64 a,.int .i64 b,.int .i64 x,.int .i64 y,.int .i64 z,.slice A l c,.slice B m d,.int .u8 k,.int .i64 n,.string t,.slice D j e]) w:=by kernel_rfl
theorem zzE:IsFn prog 21 Tryz.f21:=⟨func21,by kernel_rfl,by kernel_rfl⟩
theorem zzI:IsFn prog 13 f13:=⟨func13,by kernel_rfl,by kernel_rfl⟩
abbrev AlK(w0:World)(Z:Array Value)(E:TypeId)(u:Value)(w:World):Prop:=∃b,u=.pointer (some ⟨b,0,none⟩)/\w0.heap.size<=b/\w.heap[b]?=some (.cells Z E (0,0))
abbrev nzVd:Array Value := #[.bool false,.int .i64 0,.slice none 0 0,.slice none 0 0,.slice none 0 0,.int .i64 0]
def VdF(r:Bool×Nat×SS×Int)(v:Value):Prop:=∃A c B d D e,v=.tuple #[.agg (vdA r.1 (r.2.1:Int) A r.2.2.1.cells.length c B r.2.2.1.tin.length d D r.2.2.1.tout.length e r.2.2.2),.int .i64 0]
theorem zr8{w:World}{q:PG}{ev qv:Value}(he:EV w Any gxE ev)(hq:PV w Any q qv)(h:admE gxE q=0){r:Bool×Nat×SS×Int}(hr:grdE gxE q=r) :
  Calls prog 13 #[ev,qv] w fun e w'=>∃v,e=.returned v/\(VdF r v/\Below w.heap.size w w'):=by
 have:=zoJ he hq (zKy q);rw[if_pos h,hr,h]at this;exact this.mono fun e w' ⟨A,c,B,d,D,e',h1,_,h3⟩=>⟨_,h1,⟨A,c,B,d,D,e',rfl⟩,h3⟩
theorem zoE(w:World):Calls prog 8 #[] w fun e w'=>e=.returned (.bool true)/\Below w.heap.size w w':=by
 have h1:=zKG;have h2:=bExK;go_enter func8,ntmps8;go_wp2_with fail;refine(znq 40 1 (by decide) ⟨by decide,by decide⟩ _).mono ?_;rintro en w1 ⟨v,rfl,hpv,hb1⟩;obtain⟨A1,c1,A2,c2,A3,c3,rfl,jq⟩:=hpv;have HB1:=zh hb1;have xV:=zh jq;clear jq hb1;go_upto_region 2 with fail;have hb2:Below w1.heap.size w1 (w1.alloc (.cells (exA gxE A1 c1 A2 c2 A3 c3) 32)):=zkb (zs w1) _;have k2:=heap_alloc_new w1 (.cells (exA gxE A1 c1 A2 c2 A3 c3) 32);obtain⟨w2,hw2⟩:=zX (w1.alloc (.cells #[.string xInc,.int .i64 5,.int .i64 9,.int .i64 2,.int .i64 0,.int .i64 0,.slice A1 (updP 40 1).vs.length c1,.slice A2 (updP 40 1).prs.length c2,.int .u8 (updP 40 1).m.k,.int .i64 (updP 40 1).m.n,.string (updP 40 1).m.s,.slice A3 (updP 40 1).m.ks.length c3] 32));have hw2':w1.alloc (.cells (exA gxE A1 c1 A2 c2 A3 c3) 32)=w2:=hw2;obtain⟨E0,hE0⟩:=zX (w1.heap.size);rw[hw2']at hb2 k2;rw[hw2,hE0];rw[hE0]at k2
 have HB2:=zh (zka HB1.out hb2);have iR:=zh (fun w' (h:Below w2.heap.size w2 w')=>(show EV w' Any gxE (.agg (exA gxE A1 c1 A2 c2 A3 c3))from⟨A1,c1,A2,c2,A3,c3,rfl,(xV.out.later hb2).later h,show I64 9 from⟨by decide,by decide⟩⟩));have HEC:=zh (fun w' (h:Below w2.heap.size w2 w')=>znb (zkc k2 h));have HR2:=zh (zs w2);clear hb2 k2 hw2 hw2' hE0 h1 h2;have aB:=zh (show ∀w',Below w2.heap.size w2 w'->(fun w':World=>exS w' E0 gxE A1 c1 A2 c2 A3 c3) w' from fun w' hb=>HEC.out _ (zka HR2.out hb));have hSS:zW (fun w':World=>exS w' E0 gxE A1 c1 A2 c2 A3 c3) zU w2.drew:=⟨aB.out _ zr.drew,trivial⟩
 refine wp_region_noPanic ?_;refine zG hSS 20 ?_;refine zT 0 hSS ?_;have hI:(fun w=>Below w2.heap.size w2 w) w2.drew:=zr.drew;clear hSS;refine zpu (i:=1) (j:=6) (some 11) (some 2) 6 (fun li l4 => #[true,li,false,false,false,false,l4,false,false]) _ (fun w=>Below w2.heap.size w2 w) (AlK w2 (nzVd) 46) (fun v w=>PV w Any (updP 41 1) v) rfl rfl rfl rfl (by kernel_rfl) (by kernel_rfl) (fun l4=>by cases l4<;>rfl) rfl (fun w h=>⟨aB.out _ h,trivial⟩) (fun w w' h hb=>?_) (fun u w w' h hb=>?_) (fun v4 K w h aP=>?_) (fun v4 K w h aP=>?_) (fun u v=>?_) (fun l4 v4 v wc h hF hA hU=>?_) false undef w2.drew hI (fun h=>by cases h) (fun _=>rfl) ?_
 ·exact zka h hb
 ·obtain⟨b,e1,e2,e3⟩:=h;exact⟨b,e1,e2,zkc e3 hb⟩
 ·have hK:=zh aP;clear aP;have had:Calls prog 21 [.int .u8 41,.int .i64 1].toArray w fun e w'=>∃v,e=.returned v/\(PV w' Any (updP 41 1) v/\Below w.heap.size w w'):=znq 41 1 (by decide) ⟨by decide,by decide⟩ w;refine zke (by rfl) (.func 21) [.const (.int .u8 41),.const (.int .i64 1)] _ (by rfl) 21 _ zzE (by rfl) _ (by rfl) _ had ?_;rintro v w' ⟨hv,hb⟩;exact hK.out _ _ hb hv
 ·have hK:=zh aP;clear aP;(try simp only[zQ]);(try simp only[zA,zB,zC]);go_simp;exact hK.out _ _ (zkb zr _) ⟨_,rfl,h.size,heap_alloc_new w _⟩
 ·simp only[Act.put,zD,zE,zF]
 rotate_left 1
 ·simp only[Act.put,zD,zE,zF]
 (try simp only[zQ]);clear hI;have hI:(fun w=>Below w2.heap.size w2 w/\PV w Any (updP 41 1) v) wc:=⟨h,hF⟩
 have xG:=hA;have tN:=hU;clear hA hU;refine zpu (i:=2) (j:=6) (some 12) (some 2) 5 (fun li l4 => #[true,true,li,false,false,false,l4,false,false]) _ (fun w=>Below w2.heap.size w2 w/\PV w Any (updP 41 1) v) (AlK w2 (nzVd) 46) (fun v w=>VdF (true,5,nilS,0) v) rfl rfl rfl rfl (by kernel_rfl) (by kernel_rfl) (fun l4=>by cases l4<;>rfl) rfl (fun w h=>⟨aB.out _ h.1,trivial⟩) (fun w w' h hb=>?_) (fun u w w' h hb=>?_) (fun v4 K w h aP=>?_) (fun v4 K w h aP=>?_) (fun u v=>?_) (fun l4 v4 vv wc h hF hA hU=>?_) l4 v4 wc hI xG tN ?_
 ·exact⟨zka h.1 hb,h.2.later hb⟩
 ·obtain⟨b,e1,e2,e3⟩:=h;exact⟨b,e1,e2,zkc e3 hb⟩
 ·have hK:=zh aP;clear aP;have had:=zr8 (iR.out _ (zka HR2.out h.1)) h.2 gx_a zKx;refine zke (by rfl) (.func 13) [.tmp 10,.tmp 11] _ (by rfl) 13 _ zzI (by rfl) [.agg (exA gxE A1 c1 A2 c2 A3 c3),v] (by rfl) _ had ?_;rintro v w' ⟨hv,hb⟩;exact hK.out _ _ hb hv
 ·have hK:=zh aP;clear aP;(try simp only[zQ]);(try simp only[zA,zB,zC]);go_simp;exact hK.out _ _ (zkb zr _) ⟨_,rfl,h.1.size,heap_alloc_new w _⟩
 ·simp only[Act.put,zD,zE,zF]
 rotate_left 1
 ·simp only[Act.put,zD,zE,zF]
 (try simp only[zQ]);obtain⟨Ag,cg,Bg,dg,Dg,eg,rfl⟩:=hF;clear hI;have hSS:zW (fun w':World=>exS w' E0 gxE A1 c1 A2 c2 A3 c3) zU wc:=⟨aB.out _ h.1,trivial⟩
 have hI:(fun w=>Below w2.heap.size w2 w) wc:=h.1;clear h xG tN;rw[Nat.add_comm 5];refine zkp (i:=3) (v:=?_) rfl (by kernel_rfl) (by cases l4<;>kernel_rfl) (by cases l4<;>kernel_rfl) (by decide) (fun _ _ _ h=>h) (Or.inl ⟨by rfl,?_⟩) hSS ?_;rotate_left 1
 ·(intro w hSw;(try dsimp only at hSw);(try simp only[zA,zB,zC]);go_simp;(try with_reducible rfl))
 (try simp only[zQ]);refine zkp (i:=4) (v:=?_) rfl (by kernel_rfl) (by cases l4<;>kernel_rfl) (by cases l4<;>kernel_rfl) (by decide) (fun _ _ _ h=>h) (Or.inl ⟨by rfl,?_⟩) hSS ?_;rotate_left 1
 ·(intro w hSw;(try dsimp only at hSw);(try simp only[zA,zB,zC]);go_simp;(try with_reducible rfl))
 (try simp only[zQ]);refine zkp (i:=5) (v:=?_) rfl (by kernel_rfl) (by cases l4<;>kernel_rfl) (by cases l4<;>kernel_rfl) (by decide) (fun _ _ _ h=>h) (Or.inl ⟨by rfl,?_⟩) hSS ?_;rotate_left 1
 ·(intro w hSw;(try dsimp only at hSw);(try simp only[zA,zB,zC]);go_simp;(try with_reducible rfl))
 (try simp only[zQ]);rw[Nat.add_comm (Bool.toNat _) 2];clear hSS;refine zrG (j:=6) (some 2) 2 (fun l4 => #[true,true,true,true,true,true,l4,false,false]) _ (fun w=>Below w2.heap.size w2 w) (AlK w2 (nzVd) 46) rfl rfl (by kernel_rfl) rfl (fun w h=>⟨aB.out _ h,trivial⟩) (fun w w' h hb=>zka h hb) (fun v4 K w h aP=>?_) (fun u v=>?_) (fun v5 w5 h5 BI=>?_) l4 v4 wc hI hA ?_
 ·have hb0:=h;have hK:=zh aP;clear aP;(try simp only[zQ]);(try simp only[zA,zB,zC]);go_simp;exact hK.out _ _ (zkb zr _) ⟨_,rfl,hb0.size,heap_alloc_new w _⟩
 ·simp only[Act.put,zD,zE,zF]
 rotate_left 1
 ·simp only[Act.put,zD,zE,zF]
 (try simp only[zQ]);clear hI hA hU;obtain⟨ab,rfl,hbl,hbz⟩:=BI;obtain⟨q0,q1,q2,q3,q4,q5⟩:=box6 hbz;have cf:∀o,w5.frozen? ⟨ab,o,none⟩=false:=fun _=>zf hbz;obtain⟨w6,rP,xk,hcy⟩:=zsw (.bool (true,5,nilS,0).1) (.int .i64 ((true,5,nilS,0).2.1:Int)) (.slice Ag (true,5,nilS,0).2.2.1.cells.length cg) (.slice Bg (true,5,nilS,0).2.2.1.tin.length dg) (.slice Dg (true,5,nilS,0).2.2.1.tout.length eg) (.int .i64 (true,5,nilS,0).2.2.2) hbz;have hby:Below w2.heap.size w2 w6:=h5.trans (hcy.below h5.size fun b (e:b=ab)=>by omega);have tO:zW (fun w':World=>exS w' E0 gxE A1 c1 A2 c2 A3 c3) zU w6:=⟨aB.out _ hby,trivial⟩
 have dO:=zh xk;have di:=zh (zka HR2.out hby);have HB26:=zh hby;refine zo 7 fun K hK=>?_;(try simp only[zA,zB,zC]);go_simp;refine hK.out _ _ tO ?_;clear hK K q0 q1 q2 q3 q4 q5 cf rP xk hcy hby h5 hbz;(try simp only[zQ]);refine zT 8 tO ?_;refine zd ?_;refine NoPanic.normal ?_;clear tO aB;go_upto_region 3 with fail;have uy:=zh (show w6.heap[ab]?=some (.cells #[.bool true,.int .i64 5,.slice Ag 0 cg,.slice Bg 0 dg,.slice Dg 0 eg,.int .i64 0] 46 (0,0))from dO.out);clear dO;have aB:=zh (show ∀w',Below w6.heap.size w6 w'->(fun w':World=>exS w' E0 gxE A1 c1 A2 c2 A3 c3) w' from fun w' hb=>HEC.out _ (zka di.out hb));have hSS:zW (fun w':World=>exS w' E0 gxE A1 c1 A2 c2 A3 c3) zU w6.drew:=⟨aB.out _ zr.drew,trivial⟩
 refine wp_region_noPanic ?_;refine zG hSS 20 ?_;refine zT 0 hSS ?_;have hI:(fun w=>Below w6.heap.size w6 w) w6.drew:=zr.drew;clear hSS;refine zpu (i:=1) (j:=6) (some 17) (some 4) 6 (fun li l4 => #[true,li,false,false,false,false,l4,false,false]) _ (fun w=>Below w6.heap.size w6 w) (AlK w6 (nzVd) 46) (fun v w=>PV w Any (updP 41 2) v) rfl rfl rfl rfl (by kernel_rfl) (by kernel_rfl) (fun l4=>by cases l4<;>rfl) rfl (fun w h=>⟨aB.out _ h,trivial⟩) (fun w w' h hb=>?_) (fun u w w' h hb=>?_) (fun v4 K w h aP=>?_) (fun v4 K w h aP=>?_) (fun u v=>?_) (fun l4 v4 v wc h hF hA hU=>?_) false undef w6.drew hI (fun h=>by cases h) (fun _=>rfl) ?_
 ·exact zka h hb
 ·obtain⟨b,e1,e2,e3⟩:=h;exact⟨b,e1,e2,zkc e3 hb⟩
 ·have hK:=zh aP;clear aP;have had:Calls prog 21 [.int .u8 41,.int .i64 2].toArray w fun e w'=>∃v,e=.returned v/\(PV w' Any (updP 41 2) v/\Below w.heap.size w w'):=znq 41 2 (by decide) ⟨by decide,by decide⟩ w;refine zke (by rfl) (.func 21) [.const (.int .u8 41),.const (.int .i64 2)] _ (by rfl) 21 _ zzE (by rfl) _ (by rfl) _ had ?_;rintro v w' ⟨hv,hb⟩;exact hK.out _ _ hb hv
 ·have hK:=zh aP;clear aP;(try simp only[zQ]);(try simp only[zA,zB,zC]);go_simp;exact hK.out _ _ (zkb zr _) ⟨_,rfl,h.size,heap_alloc_new w _⟩
 ·simp only[Act.put,zD,zE,zF]
 rotate_left 1
 ·simp only[Act.put,zD,zE,zF]
 (try simp only[zQ]);clear hI;have hI:(fun w=>Below w6.heap.size w6 w/\PV w Any (updP 41 2) v) wc:=⟨h,hF⟩
 have xG:=hA;have tN:=hU;clear hA hU;refine zpu (i:=2) (j:=6) (some 18) (some 4) 5 (fun li l4 => #[true,true,li,false,false,false,l4,false,false]) _ (fun w=>Below w6.heap.size w6 w/\PV w Any (updP 41 2) v) (AlK w6 (nzVd) 46) (fun v w=>VdF (false,1,gxS,0) v) rfl rfl rfl rfl (by kernel_rfl) (by kernel_rfl) (fun l4=>by cases l4<;>rfl) rfl (fun w h=>⟨aB.out _ h.1,trivial⟩) (fun w w' h hb=>?_) (fun u w w' h hb=>?_) (fun v4 K w h aP=>?_) (fun v4 K w h aP=>?_) (fun u v=>?_) (fun l4 v4 vv wc h hF hA hU=>?_) l4 v4 wc hI xG tN ?_
 ·exact⟨zka h.1 hb,h.2.later hb⟩
 ·obtain⟨b,e1,e2,e3⟩:=h;exact⟨b,e1,e2,zkc e3 hb⟩
 ·have hK:=zh aP;clear aP;have had:=zr8 (iR.out _ (zka di.out h.1)) h.2 gx_b zKw;refine zke (by rfl) (.func 13) [.tmp 16,.tmp 17] _ (by rfl) 13 _ zzI (by rfl) [.agg (exA gxE A1 c1 A2 c2 A3 c3),v] (by rfl) _ had ?_;rintro v w' ⟨hv,hb⟩;exact hK.out _ _ hb hv
 ·have hK:=zh aP;clear aP;(try simp only[zQ]);(try simp only[zA,zB,zC]);go_simp;exact hK.out _ _ (zkb zr _) ⟨_,rfl,h.1.size,heap_alloc_new w _⟩
 ·simp only[Act.put,zD,zE,zF]
 rotate_left 1
 ·simp only[Act.put,zD,zE,zF]
 (try simp only[zQ]);obtain⟨Ag,cg,Bg,dg,Dg,eg,rfl⟩:=hF;clear hI;have hSS:zW (fun w':World=>exS w' E0 gxE A1 c1 A2 c2 A3 c3) zU wc:=⟨aB.out _ h.1,trivial⟩
 have hI:(fun w=>Below w6.heap.size w6 w) wc:=h.1;clear h xG tN;rw[Nat.add_comm 5];refine zkp (i:=3) (v:=?_) rfl (by kernel_rfl) (by cases l4<;>kernel_rfl) (by cases l4<;>kernel_rfl) (by decide) (fun _ _ _ h=>h) (Or.inl ⟨by rfl,?_⟩) hSS ?_;rotate_left 1
 ·(intro w hSw;(try dsimp only at hSw);(try simp only[zA,zB,zC]);go_simp;(try with_reducible rfl))
 (try simp only[zQ]);refine zkp (i:=4) (v:=?_) rfl (by kernel_rfl) (by cases l4<;>kernel_rfl) (by cases l4<;>kernel_rfl) (by decide) (fun _ _ _ h=>h) (Or.inl ⟨by rfl,?_⟩) hSS ?_;rotate_left 1
 ·(intro w hSw;(try dsimp only at hSw);(try simp only[zA,zB,zC]);go_simp;(try with_reducible rfl))
 (try simp only[zQ]);refine zkp (i:=5) (v:=?_) rfl (by kernel_rfl) (by cases l4<;>kernel_rfl) (by cases l4<;>kernel_rfl) (by decide) (fun _ _ _ h=>h) (Or.inl ⟨by rfl,?_⟩) hSS ?_;rotate_left 1
 ·(intro w hSw;(try dsimp only at hSw);(try simp only[zA,zB,zC]);go_simp;(try with_reducible rfl))
 (try simp only[zQ]);rw[Nat.add_comm (Bool.toNat _) 2];clear hSS;refine zrG (j:=6) (some 4) 2 (fun l4 => #[true,true,true,true,true,true,l4,false,false]) _ (fun w=>Below w6.heap.size w6 w) (AlK w6 (nzVd) 46) rfl rfl (by kernel_rfl) rfl (fun w h=>⟨aB.out _ h,trivial⟩) (fun w w' h hb=>zka h hb) (fun v4 K w h aP=>?_) (fun u v=>?_) (fun v5 w5 h5 BI=>?_) l4 v4 wc hI hA ?_
 ·have hb0:=h;have hK:=zh aP;clear aP;(try simp only[zQ]);(try simp only[zA,zB,zC]);go_simp;exact hK.out _ _ (zkb zr _) ⟨_,rfl,hb0.size,heap_alloc_new w _⟩
 ·simp only[Act.put,zD,zE,zF]
 rotate_left 1
 ·simp only[Act.put,zD,zE,zF]
 (try simp only[zQ]);clear hI hA hU;obtain⟨bb,rfl,hbl,hbz⟩:=BI;obtain⟨q0,q1,q2,q3,q4,q5⟩:=box6 hbz;have cf:∀o,w5.frozen? ⟨bb,o,none⟩=false:=fun _=>zf hbz;obtain⟨aM,rP,xk,hcy⟩:=zsw (.bool (false,1,gxS,0).1) (.int .i64 ((false,1,gxS,0).2.1:Int)) (.slice Ag (false,1,gxS,0).2.2.1.cells.length cg) (.slice Bg (false,1,gxS,0).2.2.1.tin.length dg) (.slice Dg (false,1,gxS,0).2.2.1.tout.length eg) (.int .i64 (false,1,gxS,0).2.2.2) hbz;have hby:Below w6.heap.size w6 aM:=h5.trans (hcy.below h5.size fun b (e:b=bb)=>by omega);have tO:zW (fun w':World=>exS w' E0 gxE A1 c1 A2 c2 A3 c3) zU aM:=⟨aB.out _ hby,trivial⟩
 have aZ:=zh xk;have uI:=zh (zka di.out hby);have HB610:=zh hby;refine zo 7 fun K hK=>?_;(try simp only[zA,zB,zC]);go_simp;refine hK.out _ _ tO ?_;clear hK K q0 q1 q2 q3 q4 q5 cf rP xk hcy hby h5 hbz;(try simp only[zQ]);refine zT 8 tO ?_;refine zd ?_;refine NoPanic.normal ?_;clear tO aB;have HVB2:=zh (show aM.heap[bb]?=some (.cells #[.bool false,.int .i64 1,.slice Ag 1 cg,.slice Bg 0 dg,.slice Dg 0 eg,.int .i64 0] 46 (0,0))from aZ.out);obtain⟨a0,a1,a2,a3,a4,a5⟩:=box6 (zkc uy.out HB610.out);obtain⟨b0,b1,b2,b3,b4,b5⟩:=box6 HVB2.out;clear aZ;go_wp2_with fail;go_ret;exact⟨rfl,zka HB2.out uI.out⟩
end
section
open Go Go.RowKit
def timR(a b:Int):Int:=if a≠0/\(1099511627776:Int).tdiv a<b then 1099511627777 else a*b
def powR(b:Int):Nat->Int
 | 0=>1
 | n+1=>timR (powR b n) b
def upA(b:Int):Int->List Nat->Int
 | s,[]=>s
 | s,i::l=>if 1099511627776<s+powR b i then 1099511627777 else upA b (s+powR b i) l
def upR(b:Int)(n:Nat):Int:=upA b 0 (List.range (n+1))
def cnt1(b:BX)(v:VD):Int:=if v.k=1 then 2*b.v+1 else if v.k=2 then powR (2*b.v+1) v.n.toNat else upR (2*b.v+1) b.l.toNat
def cntF(vs:List VD)(b:BX):Int:=vs.foldl (fun n v=>timR n (cnt1 b v)) (upR (2*b.v+1) b.i.toNat)
def rngZ(v:Int):List Int:=(List.range (2*v+1).toNat).map fun i:Nat=>(i:Int)-v
def tupE(v:Int):Nat->List (List Int)
 | 0=>[[]]
 | n+1=>(tupE v n).flatMap fun t=>(rngZ v).map fun x=>t++[x]
def betE(v:Int)(a m:Nat):List (List Int):=(List.range (m+1-a)).flatMap fun i=>tupE v (a+i)
def lstE(b:BX)(v:VD):List (List Int):=if v.k=1 then betE b.v 1 1 else if v.k=2 then betE b.v v.n.toNat v.n.toNat else betE b.v 0 b.l.toNat
def stg(st:List SS)(l:List (List Int)):List SS:=st.flatMap fun s=>l.map fun x=>⟨s.cells++[x],[],[]⟩
def stgF(b:BX)(vs:List VD):List SS:=vs.foldl (fun st v=>stg st (lstE b v)) [nilS]
def allU(vs:List VD)(b:BX):List SS:=(stgF b vs).flatMap fun s=>(betE b.v 0 b.i.toNat).map fun x=>⟨s.cells,x,[]⟩
theorem zpv{a b:Int}(ha:1<=a/\a<=1099511627777)(hb:1<=b/\b<=1099511627777):1<=timR a b/\timR a b<=1099511627777:=by
 unfold timR
 split
 ·omega
 ·rename_i h;have h1:b<=(1099511627776:Int).tdiv a:=by
   by_cases h2:b<=(1099511627776:Int).tdiv a
   ·exact h2
   ·exact absurd ⟨by omega,by omega⟩ h
  rw[Int.tdiv_eq_ediv_of_nonneg (by decide)]at h1;have h2:b*a<=1099511627776:=(Int.le_ediv_iff_mul_le (by omega)).1 h1;have h3:1*1<=a*b:=Int.mul_le_mul ha.1 hb.1 (by decide) (by omega);rw[Int.mul_comm]at h2;omega
theorem znr{a b:Int}(ha:1<=a)(hb:1<=b)(h:timR a b<=60):timR a b=a*b/\a<=60/\b<=60:=by
 unfold timR at h ⊢
 split at h
 ·omega
 ·rename_i h0;rw[if_neg h0];have h1:a*1<=a*b:=Int.mul_le_mul_of_nonneg_left hb (by omega);have h2:1*b<=a*b:=Int.mul_le_mul_of_nonneg_right ha (by omega);exact⟨rfl,by omega,by omega⟩
theorem zmb{b:Int}(hb:1<=b/\b<=2001):∀n,1<=powR b n/\powR b n<=1099511627777
 | 0=>by unfold powR;omega
 | n+1=>zpv (zmb hb n) (by omega)
theorem znu{b:Int}(hb:1<=b/\b<=2001):∀n,powR b n<=60->powR b n=b ^ n
 | 0,_=>by rw[Int.pow_zero];rfl
 | n+1,h=>by
  have h1:=znr (zmb hb n).1 hb.1 h;rw[powR,h1.1,znu hb n h1.2.1,Int.pow_succ]
theorem zqY{b:Int}(hb:1<=b/\b<=2001):∀(l:List Nat) (s:Int),0<=s/\s<=1099511627776->s<=upA b s l/\upA b s l<=1099511627777
 | [],s,h=>by unfold upA;omega
 | i::l,s,h=>by
  have h1:=zmb hb i;unfold upA
  split
  ·omega
  ·have:=zqY hb l (s+powR b i) (by omega);omega
theorem zqX{b:Int}(hb:1<=b/\b<=2001)(n:Nat):1<=upR b n/\upR b n<=1099511627777:=by
 unfold upR;rw[List.range_succ_eq_map];unfold upA;rw[if_neg (by unfold powR;decide)];have:=zqY hb (List.map Nat.succ (List.range n)) (0+powR b 0) (by unfold powR;decide);unfold powR at this ⊢;omega
theorem zp7{b:Int}(hb:1<=b/\b<=2001):∀(l:List Nat) (s:Int),0<=s->upA b s l<=60->upA b s l=s+(l.map fun i=>b ^ i).sum/\∀i∈l,powR b i<=60
 | [],s,_,h=>by unfold upA;simp
 | i::l,s,h0,h=>by
  have h1:=zmb hb i;unfold upA at h ⊢
  split at h
  ·omega
  ·rename_i h2;rw[if_neg h2];have h3:=zp7 hb l (s+powR b i) (by omega) h;have h4:=(zqY hb l (s+powR b i) (by omega)).1;have h5:powR b i<=60:=by omega
   rw[h3.1,znu hb i h5];refine⟨by simp;omega,fun j hj=>?_⟩;rcases List.mem_cons.1 hj with rfl|hj
   ·exact h5
   ·exact h3.2 j hj
theorem zv1(v:Int):(rngZ v).length=(2*v+1).toNat:=by simp[rngZ]
theorem zrJ{v:Int}(hv:0<=v):∀n,((tupE v n).length:Int)=(2*v+1) ^ n
 | 0=>by rw[Int.pow_zero];rfl
 | n+1=>by
  have h:∀l:List (List Int),((l.flatMap fun t=>(rngZ v).map fun x=>t++[x]).length:Int)=l.length*(2*v+1):=by
   intro l
   induction l with
   | nil=>simp
   | cons t l ih =>
    rw[List.flatMap_cons,List.length_append,List.length_map,zv1,List.length_cons];have e:((2*v+1).toNat:Int)=2*v+1:=Int.toNat_of_nonneg (by omega)
    push_cast
    rw[ih,e,Int.add_mul];omega
  rw[tupE,h,zrJ hv n,Int.pow_succ]
theorem zn1{v:Int}(hv:0<=v)(a m:Nat):((betE v a m).length:Int)=((List.range (m+1-a)).map fun i=>(2*v+1) ^ (a+i)).sum:=by
 unfold betE
 induction List.range (m+1-a)with
 | nil=>rfl
 | cons i l ih=>rw[List.flatMap_cons,List.length_append,List.map_cons,List.sum_cons,<-ih,<-zrJ hv (a+i)];push_cast;rfl
theorem zmc{b:BX}(h:b.ok=true):(0<=b.v/\b.v<=1000)/\(0<=b.l/\b.l<=1000)/\0<=b.i/\b.i<=1000:=by
 simp only[BX.ok,okI,Bool.and_eq_true,decide_eq_true_eq]at h;omega
theorem znZ{b:BX}(hb:0<=b.v/\b.v<=1000)(v:VD):1<=cnt1 b v/\cnt1 b v<=1099511627777:=by
 unfold cnt1
 split
 ·omega
 ·split
  ·exact zmb (by omega) _
  ·exact zqX (by omega) _
theorem zxx{v:Int}(hv:0<=v/\v<=1000){n:Nat}(h:upR (2*v+1) n<=60):((betE v 0 n).length:Int)=upR (2*v+1) n:=by
 have h1:=(zp7 (b:=2*v+1) (by omega) (List.range (n+1)) 0 (by decide) h).1;rw[zn1 hv.1,show upR (2*v+1) n=upA (2*v+1) 0 (List.range (n+1))from rfl,h1];simp
theorem zt3{b:BX}{v:VD}(hb:0<=b.v/\b.v<=1000)(h:cnt1 b v<=60):((lstE b v).length:Int)=cnt1 b v:=by
 unfold lstE;unfold cnt1 at h ⊢;by_cases h1:v.k=1
 ·rw[if_pos h1]at h ⊢;rw[if_pos h1,zn1 hb.1];simp[Int.pow_succ]
 ·rw[if_neg h1]at h ⊢;rw[if_neg h1];by_cases h2:v.k=2
  ·rw[if_pos h2]at h ⊢;rw[if_pos h2,zn1 hb.1,znu (by omega) _ h];simp
  ·rw[if_neg h2]at h ⊢;rw[if_neg h2,zxx hb h]
theorem znf{vs:List VD}{b:BX}{i:Nat}(hi:i<vs.length):cntF (vs.take (i+1)) b=timR (cntF (vs.take i) b) (cnt1 b vs[i]):=by
 unfold cntF;rw[List.take_succ_eq_append_getElem hi,List.foldl_append];rfl
theorem ztv{vs:List VD}{b:BX}{i:Nat}(hi:i<vs.length):stgF b (vs.take (i+1))=stg (stgF b (vs.take i)) (lstE b vs[i]):=by
 unfold stgF;rw[List.take_succ_eq_append_getElem hi,List.foldl_append];rfl
theorem znY{b:BX}(hb:b.ok=true)(vs:List VD):1<=cntF vs b/\cntF vs b<=1099511627777:=by
 have hk:=zmc hb;unfold cntF;have:∀(l:List VD) (n:Int),1<=n/\n<=1099511627777->1<=l.foldl (fun n v=>timR n (cnt1 b v)) n/\l.foldl (fun n v=>timR n (cnt1 b v)) n<=1099511627777:=by
  intro l
  induction l with
  | nil=>intro n h;exact h
  | cons v l ih=>intro n h;exact ih _ (zpv h (znZ hk.1 v))
 exact this vs _ (zqX (by omega) _)
theorem zsg{vs:List VD}{b:BX}(hb:b.ok=true)(h:cntF vs b<=60):∀k,k<=vs.length->cntF (vs.take (vs.length-k)) b<=60
 | 0,_=>by simpa using h
 | k+1,hk=>by
  have h1:=zsg hb h k (by omega);rw[show vs.length-k=vs.length-(k+1)+1 by omega,znf (by omega)]at h1;exact(znr (znY hb _).1 (znZ (zmc hb).1 _).1 h1).2.1
theorem ztu(st:List SS)(l:List (List Int)):(stg st l).length=st.length*l.length:=by
 unfold stg
 induction st with
 | nil=>simp
 | cons s st ih=>rw[List.flatMap_cons,List.length_append,ih,List.length_map,List.length_cons,Nat.add_mul];omega
structure RefB(vs:List VD)(b:BX):Prop where
 one:∀i (hi:i<vs.length),cnt1 b vs[i]<=60/\(lstE b vs[i]).length<=60
 st:∀i,i<=vs.length->((stgF b (vs.take i)).length:Int)*upR (2*b.v+1) b.i.toNat=cntF (vs.take i) b/\(stgF b (vs.take i)).length<=60
 inp:((betE b.v 0 b.i.toNat).length:Int)=upR (2*b.v+1) b.i.toNat/\(betE b.v 0 b.i.toNat).length<=60
 all:((allU vs b).length:Int)=cntF vs b/\(allU vs b).length<=60
theorem zx9{vs:List VD}{b:BX}(hb:b.ok=true)(h:cntF vs b<=60):RefB vs b:=by
 have hk:=zmc hb;have h1:∀i (hi:i<vs.length),cnt1 b vs[i]<=60/\cntF (vs.take i) b<=60/\cntF (vs.take (i+1)) b=cntF (vs.take i) b*cnt1 b vs[i]:=fun i hi=>by
  have h2:=zsg hb h (vs.length-(i+1)) (by omega);rw[show vs.length-(vs.length-(i+1))=i+1 by omega,znf hi]at h2;have h3:=znr (znY hb _).1 (znZ hk.1 _).1 h2;exact⟨h3.2.2,h3.2.1,by rw[znf hi];exact h3.1⟩
 have hup:=zqX (b:=2*b.v+1) (by omega) b.i.toNat
 have hu:upR (2*b.v+1) b.i.toNat<=60:=by
  have:=zsg hb h vs.length zl;simpa[cntF]using this
 have hst:∀i,i<=vs.length->((stgF b (vs.take i)).length:Int)*upR (2*b.v+1) b.i.toNat=cntF (vs.take i) b:=by
  intro i
  induction i with
  | zero=>intro _;simp[stgF,cntF]
  | succ i ih =>
   intro hi;rw[ztv (by omega),ztu,(h1 i (by omega)).2.2,<-ih (by omega)]
   push_cast
   rw[zt3 hk.1 (h1 i (by omega)).1,Int.mul_assoc,Int.mul_assoc,Int.mul_comm (cnt1 b vs[i])]
 have hle:∀i,i<=vs.length->(stgF b (vs.take i)).length<=60:=fun i hi=>by
  have h2:=zsg hb h (vs.length-i) (by omega);rw[show vs.length-(vs.length-i)=i by omega,<-hst i hi]at h2;have h3:((stgF b (vs.take i)).length:Int)*1<=((stgF b (vs.take i)).length:Int)*upR (2*b.v+1) b.i.toNat:=Int.mul_le_mul_of_nonneg_left hup.1 (by omega);omega
 have hin:=zxx hk.1 hu;have hall:((allU vs b).length:Int)=cntF vs b:=by
  have h3:=hst vs.length zl;rw[List.take_length]at h3;rw[<-h3,<-hin];unfold allU
  induction stgF b vs with
  | nil=>simp
  | cons s st ih=>rw[List.flatMap_cons,List.length_append,List.length_map,List.length_cons];push_cast;rw[ih,Int.add_mul];omega
 exact⟨fun i hi=>⟨(h1 i hi).1,by have:=zt3 hk.1 (h1 i hi).1;have:=(h1 i hi).1;omega⟩,fun i hi=>⟨hst i hi,hle i hi⟩,⟨hin,by omega⟩,⟨hall,by omega⟩⟩
theorem zp9(a b:Int)(w:World)(ha:1<=a/\a<=1099511627777)(hb:1<=b/\b<=1099511627777):Calls prog 50 #[.int .i64 a,.int .i64 b] w fun e w'=>e=.returned (.int .i64 (timR a b))/\w'=w:=by
 have e0:(a != 0)=true:=by simp;omega
 have e1:(a==0)=false:=by simp;omega
 have hq:=Int.tdiv_eq_ediv_of_nonneg (a:=1099511627776) (b:=a) (by decide);have hq2:0<=(1099511627776:Int) / a/\(1099511627776:Int) / a<=1099511627776:=⟨Int.ediv_nonneg (by decide) (by omega),Int.ediv_le_self _ (by decide)⟩
 have hw:IntKind.i64.wrap ((1099511627776:Int).tdiv a)=(1099511627776:Int).tdiv a:=IntWalk.i64_in _ (by rw[hq];omega);by_cases h:(1099511627776:Int).tdiv a<b
 ·have HT:=zh (show timR a b=1099511627777 by unfold timR;rw[if_pos ⟨by omega,h⟩]);clear hq hq2;go_enter func50,ntmps50;go_wp2_with fail;go_ret;exact⟨by rw[HT.out];rfl,rfl⟩
 ·have HT:=zh (show timR a b=a*b by unfold timR;rw[if_neg fun h2=>h h2.2]);have hm:IntKind.i64.wrap (a*b)=a*b:=IntWalk.i64_in _ (by have:=zpv ha hb;rw[HT.out]at this;omega);clear hq hq2;go_enter func50,ntmps50;go_wp2_with fail;go_ret;exact⟨by rw[HT.out];rfl,rfl⟩
theorem zqi(b:Int)(n:Nat)(w:World)(hb:1<=b/\b<=2001)(hn:n<=1000):Calls prog 51 #[.int .i64 b,.int .i64 (n:Int)] w fun e w'=>e=.returned (.int .i64 (powR b n))/\w'=w:=by
 have HT:=zh (fun i w'=>zp9 (powR b i) b w' (zmb hb i) (by omega));have HB:=zh hb;clear hb;go_enter func51,ntmps51;go_wp2_with fail
 go_loopw [6,5] (fun i s wr=>∃j:Nat,j<=n/\i=.int .i64 j/\s=.int .i64 (powR b j)/\wr=w) (fun i _ _=>n-(intOf i).toNat)
 case atStart=>exact⟨0,by omega,rfl,rfl,rfl⟩
 case round =>
  obtain⟨j,hj,rfl,rfl,rfl⟩:=hrel;by_cases hlt:j<n
  ·have hj1:(j:Int)<(n:Int):=by omega
   have hj0:(0:Int)<=(j:Int):=by omega
   go_wp2_with fail;refine(HT.out j _).mono ?_;rintro e w1 ⟨rfl,rfl⟩;go_wp2_with fail
   go_roundw
   case rel=>exact⟨j+1,by omega,by go_num,rfl,trivial⟩
   case measure=>simp[intOf];omega
  ·obtain rfl:j=n:=by omega
   have hj1:¬ (j:Int)<(j:Int):=by omega
   go_wp2_with fail;go_ret;simp
theorem zvM(b:Int)(n:Nat)(w:World)(hb:1<=b/\b<=2001)(hn:n<=1000):Calls prog 49 #[.int .i64 b,.int .i64 (n:Int)] w fun e w'=>e=.returned (.int .i64 (upR b n))/\w'=w:=by
 have HT:=zh (fun i w' (hi:i<=1000)=>zqi b i w' hb hi);have HB:=zh hb;clear hb;go_enter func49,ntmps49;go_wp2_with fail
 go_loopw [6,5] (fun i s wr=>∃(j:Nat) (x:Int),j<=n+1/\i=.int .i64 j/\s=.int .i64 x/\(0<=x/\x<=1099511627776)/\wr=w/\Hid (upR b n=upA b x ((List.range (n+1)).drop j))) (fun i _ _=>n+1-(intOf i).toNat)
 case atStart=>exact⟨0,0,by omega,rfl,rfl,by omega,rfl,zh rfl⟩
 case round =>
  obtain⟨j,x,hj,rfl,rfl,hx,rfl,HU⟩:=hrel;by_cases hlt:j<=n
  ·have hj1:(j:Int)<=(n:Int):=by omega
   have hj0:(0:Int)<=(j:Int):=by omega
   go_wp2_with fail;refine(HT.out j _ (by omega)).mono ?_;rintro e w1 ⟨rfl,rfl⟩;have hp:=zmb HB.out j;obtain⟨y,hy⟩:=zX (powR b j);have HU2:=zh (show upR b n=if 1099511627776<x+y then 1099511627777 else upA b (x+y) ((List.range (n+1)).drop (j+1)) by
    rw[HU.out,List.drop_eq_getElem_cons (by simp;omega),List.getElem_range,upA,hy])
   rw[hy]at hp ⊢;have hw:IntKind.i64.wrap (x+y)=x+y:=IntWalk.i64_in _ (by omega);by_cases hg:1099511627776<x+y
   ·go_wp2_with fail;go_ret;exact⟨by rw[HU2.out,if_pos hg];rfl,rfl⟩
   ·go_wp2_with fail
    go_roundw
    case rel=>exact⟨j+1,x+y,by omega,by go_num,rfl,by omega,trivial,zh (by rw[HU2.out,if_neg (by omega)])⟩
    case measure=>simp[intOf];omega
  ·obtain rfl:j=n+1:=by omega
   have hj1:¬ ((n+1:Nat):Int)<=(n:Int):=by omega
   go_wp2_with fail;go_ret;exact⟨by rw[HU.out,List.drop_eq_nil_of_le (by simp)];rfl,rfl⟩
theorem zxT{v:VD}(h:vdB v=true):(v.k=1/\v.n=0)\/(v.k=2/\1<=v.n/\v.n<=16)\/(v.k=3/\v.n=0):=by
 unfold vdB at h;by_cases h1:v.k=1\/v.k=3
 ·rw[if_pos h1]at h;have h:=eq_of_beq h;rcases h1 with h1|h1
  ·exact .inl ⟨h1,h⟩
  ·exact .inr (.inr ⟨h1,h⟩)
 ·rw[if_neg h1]at h;by_cases h2:v.k=2
  ·rw[if_pos h2]at h;exact .inr (.inl ⟨h2,of_decide_eq_true h⟩)
  ·rw[if_neg h2]at h;cases h
theorem zvQ{vs:List VD}(h:svB vs=true):vs.length<=32/\∀v∈vs,vdB v=true:=by
 unfold svB at h;simp only[Bool.and_eq_true,decide_eq_true_eq,List.all_eq_true]at h;exact h
theorem zs3(vs:List VD)(b:BX)(A:Option Addr)(c:Nat)(w:World)(hr:RowV w Any A vs)(hok:(b.ok&&svB vs)=true) :
  Calls prog 24 #[.slice A vs.length c,.int .i64 b.v,.int .i64 b.l,.int .i64 b.i] w fun e w'=>e=.returned (.int .i64 (cntF vs b))/\w'=w:=by
 simp only[Bool.and_eq_true]at hok;have hb:=zmc hok.1;obtain⟨hn,hvd⟩:=zvQ hok.2;have HB:=zh hb;have HV:=zh hvd;have HC:=zh (fun i (hi:i<=vs.length)=>znY hok.1 (vs.take i));obtain⟨V,hV⟩:=zX (b.v);obtain⟨nl,hnl⟩:∃nl:Nat,b.l=(nl:Int):=⟨b.l.toNat,by omega⟩
 obtain⟨ni,hni⟩:∃ni:Nat,b.i=(ni:Int):=⟨b.i.toNat,by omega⟩
 have dE:=zh (And.intro hV (And.intro hnl hni));have wC:=zh (fun n w' (h:n<=1000)=>zvM (2*V+1) n w' (by omega) h);have zg:=zh (fun n w' (h:n<=1000)=>zqi (2*V+1) n w' (by omega) h);have BV:=zh (fun i v w' (hi:i<=vs.length)=>zp9 (cntF (vs.take i) b) (cnt1 b v) w' (znY hok.1 (vs.take i)) (znZ hb.1 v));have wD:=zh (fun i (hi:i<vs.length)=>znf (b:=b) hi);have mf:=zh (fun v=>show cnt1 b v=if v.k=1 then 2*V+1 else if v.k=2 then powR (2*V+1) v.n.toNat else upR (2*V+1) nl by unfold cnt1;rw[hV,hnl];rfl);have bD:=zh (show cntF (vs.take 0) b=upR (2*V+1) ni by unfold cntF;rw[hV,hni];rfl);have e1:IntKind.i64.wrap (2*V)=2*V:=IntWalk.i64_in _ (by omega);have e2:IntKind.i64.wrap (2*V+1)=2*V+1:=IntWalk.i64_in _ (by omega);have hnl3:nl<=1000:=by omega
 have hni3:ni<=1000:=by omega
 have HR:=zh hr;have HT:=zh (show cntF (vs.take vs.length) b=cntF vs b by rw[List.take_length]);obtain⟨CF,hCF⟩:∃CF:Nat->Int,∀i,cntF (vs.take i) b=CF i:=⟨fun i=>cntF (vs.take i) b,fun _=>rfl⟩
 simp only[hCF]at HC BV wD bD HT;rw[<-HT.out,hV,hnl,hni];obtain⟨C1,bA⟩:∃C1:VD->Int,∀v,cnt1 b v=C1 v:=⟨fun v=>cnt1 b v,fun _=>rfl⟩
 simp only[bA]at BV wD mf;clear hok hb hvd hr hV hnl hni hCF bA;obtain⟨n,hn'⟩:=zX (vs.length);have HN:=zh hn';rw[hn']at hn ⊢;clear hn';go_enter func24,ntmps24;go_wp2_with fail;refine(wC.out ni w hni3).mono ?_;rintro e w1 ⟨rfl,rfl⟩;rw[<-bD.out];go_wp2_with fail
 go_loopw [10,9] (fun i s wr=>∃j:Nat,j<=n/\i=.int .i64 j/\s=.int .i64 (CF j)/\wr=w1) (fun i _ _=>n-(intOf i).toNat)
 case atStart=>exact⟨0,by omega,rfl,rfl,rfl⟩
 case round =>
  obtain⟨j,hj,rfl,rfl,rfl⟩:=hrel;by_cases hlt:j<n
  ·have hj1:(j:Int)<(n:Int):=by omega
   have hj0:(0:Int)<=(j:Int):=by omega
   have dG:j<vs.length:=by rw[HN.out];exact hlt
   obtain⟨a,v,rfl,-,hv,⟨x0,x1,x2⟩,-⟩:=HR.out.nd dG;have hvb:=zxT (HV.out _ (List.getElem_mem dG));have oq:=BV.out j v wr (by omega);have htk:=wD.out j dG;have hc1:=mf.out v;rw[hv.out]at hvb htk;rw[<-htk]at oq;clear htk hv dG;obtain⟨v0,v1,v2⟩:=v;simp only at x0 x1 x2 hvb hc1;rcases hvb with⟨rfl,rfl⟩|⟨rfl,hn1,hn2⟩|⟨rfl,rfl⟩
   ·rw[if_pos rfl]at hc1;rw[hc1]at oq;have nA:=zh oq;clear oq hc1;go_wp2_with fail;refine nA.out.mono ?_;rintro e w2 ⟨rfl,rfl⟩;go_wp2_with fail
    go_roundw
    case rel=>exact⟨j+1,by omega,by go_num,rfl,trivial⟩
    case measure=>simp[intOf];omega
   ·rw[if_neg (by decide),if_pos rfl]at hc1;obtain⟨m,rfl⟩:∃m:Nat,v2=(m:Int):=⟨v2.toNat,by omega⟩
    rw[show((m:Int)).toNat=m from rfl]at hc1;have hm:m<=1000:=by omega
    rw[hc1]at oq;have nA:=zh oq;clear oq hc1;go_wp2_with fail;refine(zg.out m wr hm).mono ?_;rintro e w2 ⟨rfl,rfl⟩;go_wp2_with fail;refine nA.out.mono ?_;rintro e w2 ⟨rfl,rfl⟩;go_wp2_with fail
    go_roundw
    case rel=>exact⟨j+1,by omega,by go_num,rfl,trivial⟩
    case measure=>simp[intOf];omega
   ·rw[if_neg (by decide),if_neg (by decide)]at hc1;rw[hc1]at oq;have nA:=zh oq;clear oq hc1;go_wp2_with fail;refine(wC.out nl wr hnl3).mono ?_;rintro e w2 ⟨rfl,rfl⟩;go_wp2_with fail;refine nA.out.mono ?_;rintro e w2 ⟨rfl,rfl⟩;go_wp2_with fail
    go_roundw
    case rel=>exact⟨j+1,by omega,by go_num,rfl,trivial⟩
    case measure=>simp[intOf];omega
  ·obtain rfl:j=n:=by omega
   have hj1:¬ (j:Int)<(j:Int):=by omega
   go_wp2_with fail;go_ret;exact⟨rfl,rfl⟩
theorem zvL{v:VD}(h:(v.k=1/\v.n=0)\/(v.k=2/\1<=v.n/\v.n<=16)\/(v.k=3/\v.n=0)):vdB v=true:=by
 unfold vdB;rcases h with⟨h1,h2⟩|⟨h1,h2⟩|⟨h1,h2⟩
 ·rw[if_pos (.inl h1),h2];rfl
 ·rw[if_neg (by omega),if_pos h1];exact decide_eq_true h2
 ·rw[if_pos (.inr h1),h2];rfl
theorem ztm{v:VD}(h:¬ ((v.k=1/\v.n=0)\/(v.k=2/\1<=v.n/\v.n<=16)\/(v.k=3/\v.n=0))):vdB v=false:=by
 cases e:vdB v with
 | false=>rfl
 | true=>exact absurd (zxT e) h
theorem zx0{vs:List VD}{i:Nat}(hi:i<vs.length)(h:vdB vs[i]=false):svB vs=false:=by
 cases e:svB vs with
 | false=>rfl
 | true=>rw[(zvQ e).2 _ (List.getElem_mem hi)]at h;cases h
theorem zx1{vs:List VD}{n:Nat}(hn:vs.length=n)(h32:n<=32)(h:∀i (hi:i<vs.length),vdB vs[i]=true):svB vs=true:=by
 unfold svB;simp only[Bool.and_eq_true,decide_eq_true_eq,List.all_eq_true];exact⟨by omega,fun v hv=>by obtain⟨i,hi,rfl⟩:=List.mem_iff_getElem.1 hv;exact h i hi⟩
theorem zyf{b:BX}(h:((0<=b.v/\b.v<=1000)/\(0<=b.l/\b.l<=1000)/\0<=b.i/\b.i<=1000)):b.ok=true:=by
 simp only[BX.ok,okI,Bool.and_eq_true,decide_eq_true_eq];omega
theorem zwa{b:BX}(h:¬ ((0<=b.v/\b.v<=1000)/\(0<=b.l/\b.l<=1000)/\0<=b.i/\b.i<=1000)):b.ok=false:=by
 cases e:b.ok with
 | false=>rfl
 | true=>exact absurd (zmc e) h
theorem zs2(vs:List VD)(b:BX)(A:Option Addr)(c:Nat)(w:World)(hr:RowV w Any A vs)(hl:vs.length<=LV) :
  Calls prog 23 #[.slice A vs.length c,.int .i64 b.v,.int .i64 b.l,.int .i64 b.i] w fun e w'=>e=.returned (.bool (b.ok&&svB vs))/\Below w.heap.size w w':=by
 have hl1:=zkW hl;have HR:=zh hr;obtain⟨RR,hRR⟩:=zX ((b.ok&&svB vs));have HRR:=zh hRR;rw[hRR];obtain⟨V,hV⟩:=zX (b.v);obtain⟨L,hL⟩:=zX (b.l);obtain⟨I,hI⟩:=zX (b.i);have zm:=zh (fun h=>zyf (b:=b) h);have qy:=zh (fun h=>zwa (b:=b) h);have nE:=zh (fun(n:Nat)=>zx1 (vs:=vs) (n:=n));rw[hV,hL,hI]at zm qy ⊢;clear hr hl hRR hV hL hI;obtain⟨n,hn⟩:=zX (vs.length);have HN:=zh hn;rw[hn]at hl1 ⊢;clear hn;go_enter func23,ntmps23;by_cases h32:32<n
 ·have h32i:(32:Int)<(n:Int):=by omega
  go_wp2_with fail;go_ret;exact⟨by rw[<-HRR.out,show svB vs=false by { cases e:svB vs with|false=>rfl|true=>have:=(zvQ e).1;have:=HN.out;omega },Bool.and_false];rfl,zr⟩
 have h32i:¬ (32:Int)<(n:Int):=by omega
 go_wp2_with fail
 go_loopw [9] (fun i wr=>∃j:Nat,j<=n/\i=.int .i64 j/\Hid (Below w.heap.size w wr)/\Hid (∀i (hi:i<vs.length),i<j->vdB vs[i]=true)) (fun i _=>n-(intOf i).toNat)
 case atStart=>exact⟨0,by omega,rfl,zh zr,zh fun i _ h=>by omega⟩
 case round =>
  obtain⟨j,hj,rfl,af,HE⟩:=hrel;by_cases hlt:j<n
  ·have hj1:(j:Int)<(n:Int):=by omega
   have hj0:(0:Int)<=(j:Int):=by omega
   have dG:j<vs.length:=by rw[HN.out];exact hlt
   obtain⟨a,v,rfl,-,hv,⟨x0,x1,x2⟩,hfl⟩:=(HR.out.later af.out).nd dG;have BR:=zh (fun h=>(congrArg vdB hv.out).trans (zvL (v:=v) h));have nz:=zh (fun h=>zx0 dG ((congrArg vdB hv.out).trans (ztm (v:=v) h)));have HJ:=zh dG;obtain⟨v0,v1,v2⟩:=v;have hk:=hfl.2.1;simp only at x0 x1 x2 BR nz hk;have hk1:=heap_alloc_new wr (.cells #[.string v0,.int .u8 v1,.int .i64 v2] 38);have rD:=zh (zkb af.out (.cells #[.string v0,.int .u8 v1,.int .i64 v2] 38));obtain⟨wm,oQ⟩:=zX (wr.alloc (.cells #[.string v0,.int .u8 v1,.int .i64 v2] 38));rw[oQ]at hk1 rD;obtain⟨y0,y1,y2⟩:=zlG hk1;clear hv hfl hk1;by_cases c1:v1<1
   ·go_wp2_with fail;go_ret;exact⟨by rw[<-HRR.out,nz.out (by omega),Bool.and_false];rfl,rD.out⟩
   by_cases c2:3<v1
   ·go_wp2_with fail;go_ret;exact⟨by rw[<-HRR.out,nz.out (by omega),Bool.and_false];rfl,rD.out⟩
   by_cases c3:v1=2
   ·subst c3;by_cases c4:v2<1
    ·go_wp2_with fail;go_ret;exact⟨by rw[<-HRR.out,nz.out (by omega),Bool.and_false];rfl,rD.out⟩
    by_cases c5:16<v2
    ·go_wp2_with fail;go_ret;exact⟨by rw[<-HRR.out,nz.out (by omega),Bool.and_false];rfl,rD.out⟩
    go_wp2_with fail
    go_roundw
    case rel =>
     refine⟨j+1,by omega,by go_num,rD,zh fun i hi hij=>?_⟩;by_cases e:i<j
     ·exact HE.out i hi e
     ·obtain rfl:i=j:=by omega
      exact BR.out (by omega)
    case measure=>simp[intOf];omega
   ·have c3b:(v1==2)=false:=by simpa using c3
    have c3c:(v1 != 2)=true:=by simpa using c3
    by_cases c4:v2=0;rotate_left 1
    ·have c4b:(v2 != 0)=true:=by simpa using c4
     go_wp2_with fail;go_ret;exact⟨by rw[<-HRR.out,nz.out (by omega),Bool.and_false];rfl,rD.out⟩
    ·have c4b:(v2 != 0)=false:=by simpa using c4
     have bq:=zh c4;clear c4;go_wp2_with fail
     go_roundw
     case rel =>
      refine⟨j+1,by omega,by go_num,rD,zh fun i hi hij=>?_⟩;by_cases e:i<j
      ·exact HE.out i hi e
      ·obtain rfl:i=j:=by omega
       exact BR.out (by have:=bq.out;omega)
     case measure=>simp[intOf];omega
  ·obtain rfl:j=n:=by omega
   have hj1:¬ (j:Int)<(j:Int):=by omega
   by_cases g1:0<=V;rotate_left 1
   ·go_wp2_with fail;go_ret;exact⟨by rw[<-HRR.out,show b.ok=false from qy.out (by omega)];rfl,af.out⟩
   by_cases g2:V<=1000;rotate_left 1
   ·go_wp2_with fail;go_ret;exact⟨by rw[<-HRR.out,show b.ok=false from qy.out (by omega)];rfl,af.out⟩
   by_cases g3:0<=L;rotate_left 1
   ·go_wp2_with fail;go_ret;exact⟨by rw[<-HRR.out,show b.ok=false from qy.out (by omega)];rfl,af.out⟩
   by_cases g4:L<=1000;rotate_left 1
   ·go_wp2_with fail;go_ret;exact⟨by rw[<-HRR.out,show b.ok=false from qy.out (by omega)];rfl,af.out⟩
   by_cases g5:0<=I;rotate_left 1
   ·go_wp2_with fail;go_ret;exact⟨by rw[<-HRR.out,show b.ok=false from qy.out (by omega)];rfl,af.out⟩
   by_cases g6:I<=1000;rotate_left 1
   ·go_wp2_with fail;go_ret;exact⟨by rw[<-HRR.out,show b.ok=false from qy.out (by omega)];rfl,af.out⟩
   go_wp2_with fail;go_ret;exact⟨by rw[<-HRR.out,show b.ok=true from zm.out (by omega),nE.out _ HN.out (by omega) fun i hi=>HE.out i hi (by have:=HN.out;omega)];rfl,af.out⟩
attribute [local go_sem] Oper.semAt_some
mutual
/-- How many nodes are left of a budget. -/
def szR:T->Int->Int
 | .nd _ _ _ ks,l=>szRs ks (l-1)
def szRs:List T->Int->Int
 | [],l=>l
 | t::ts,l=>if l<0 then l else szRs ts (szR t l)
end
theorem zrM:∀(m:Nat) (t:T) (l:Int),size t<=m->0<=l -> -1<=szR t l/\szR t l<=l
 | 0,.nd k n s ks,l,h,_=>by rw[size]at h;omega
 | m+1,.nd k n s ks,l,h,h0=>by
  rw[szR];rw[size]at h;have key:∀(us:List T) (l:Int),zkU us<=m -> -1<=l -> -1<=szRs us l/\szRs us l<=l:=by
   intro us
   induction us with
   | nil=>intro l _ h1;rw[szRs];exact⟨h1,Int.le_refl _⟩
   | cons u us ih =>
    intro l hs h1;rw[zkU]at hs;rw[szRs]
    split
    ·exact⟨h1,Int.le_refl _⟩
    ·have h2:=zrM m u l (by omega) (by omega);have h3:=ih (szR u l) (by omega) h2.1;exact⟨h3.1,by omega⟩
  have:=key ks (l-1) (by omega) (by omega);exact⟨this.1,by omega⟩
theorem zrL:∀(ts:List T) (l:Int),-1<=l->0<=szRs ts l->(ts.length:Int)<=l
 | [],l,_,h=>by rw[szRs]at h;simpa using h
 | t::ts,l,h0,h=>by
  rw[szRs]at h
  split at h
  ·omega
  ·rename_i hl;obtain⟨k,n,s,ks⟩:=t;have h1 : -1<=szR (.nd k n s ks) l/\szR (.nd k n s ks) l<=l-1:=by
    rw[szR];have h2:=zrM _ (.nd k n s ks) l zl (by omega);rw[szR]at h2;refine⟨h2.1,?_⟩;rcases Int.lt_or_le (l-1) 0 with h3|h3
    ·cases ks with
     | nil=>rw[szRs];exact Int.le_refl _
     | cons u us=>rw[szRs,if_pos h3];exact Int.le_refl _
    ·have key:∀(us:List T) (l:Int),-1<=l -> -1<=szRs us l/\szRs us l<=l:=by
      intro us
      induction us with
      | nil=>intro l h1;rw[szRs];exact⟨h1,Int.le_refl _⟩
      | cons u us ih =>
       intro l h1;rw[szRs]
       split
       ·exact⟨h1,Int.le_refl _⟩
       ·have h2:=zrM _ u l zl (by omega);have h3:=ih (szR u l) h2.1;exact⟨h3.1,by omega⟩
     exact(key ks (l-1) (by omega)).2
   have:=zrL ts _ h1.1 h;simp only[List.length_cons];omega
theorem zxZ{t:T}(h:0<=szR t 100):t.ks.length<=100:=by
 obtain⟨k,n,s,ks⟩:=t;rw[szR]at h;have:=zrL ks 99 (by decide) h
 show ks.length<=100
 omega
theorem zo1:∀(t:T) (v:Value) (l:Int) (w:World),NV w Any t v->0<=l->l<=1000->Calls prog 48 #[v,.int .i64 l] w fun e w'=>e=.returned (.int .i64 (szR t l))/\Below w.heap.size w w':=by
 intro t
 induction t using T.ind with
 | _ k n s ks ih =>
  intro v l w hv h0 h1;obtain⟨A,c,rfl,hf,hlk,hlc,hrow⟩:=hv.open_;have IH:=zh ih;have ae:=zh hrow;have hw1:IntKind.i64.wrap (l-1)=l-1:=IntWalk.i64_in _ (by omega);have hb1:=zkb (zs w) (.cells #[.int .u8 k,.int .i64 n,.string s,.slice A ks.length c] 28);have k1:=heap_alloc_new w (.cells #[.int .u8 k,.int .i64 n,.string s,.slice A ks.length c] 28);obtain⟨w1,hw⟩:=zX (w.alloc (.cells #[.int .u8 k,.int .i64 n,.string s,.slice A ks.length c] 28));obtain⟨r,hr⟩:=zX (szR (.nd k n s ks) l);have HR:=zh (show szRs (ks.drop 0) (l-1)=r by rw[<-hr,szR,List.drop_zero]);rw[hr];rw[hw]at hb1 k1;have HB1:=zh hb1;have aD:=zh k1;simp only[T.k_nd,T.n_nd,T.s_nd,T.ks_nd]at hlk hlc ⊢;have hlk2:ks.length<=17592186044416:=by unfold LK at hlk;omega
  clear hv hf hlk hrow ih hr hb1 k1;go_enter func48,ntmps48;go_wp2_with fail;clear hw
  go_loopw [5,1] (fun i q wr=>∃(j:Nat) (x:Int),j<=ks.length/\i=.int .i64 j/\q=.int .i64 x /\ -1<=x/\x<=1000/\Hid (Below w1.heap.size w1 wr)/\Hid (szRs (ks.drop j) x=r)) (fun i _ _=>ks.length-(intOf i).toNat)
  case atStart=>exact⟨0,l-1,Nat.zero_le _,rfl,rfl,by omega,by omega,zh zr,HR⟩
  case round =>
   obtain⟨j,x,hj,rfl,rfl,hx1,hx2,af,HJ⟩:=hrel;have hk:=zkc aD.out af.out;have z3:wr.cell? ⟨w.heap.size,3,none⟩=some (.slice A ks.length c):=zc hk rfl;by_cases hlt:j<ks.length
   ·have hj1:(j:Int)<(ks.length:Int):=by omega
    have hj0:(0:Int)<=(j:Int):=by omega
    by_cases hx:0<=x
    ·have hbb:=zka HB1.out af.out;obtain⟨a,u,Au,cu,rfl,-,Hu,⟨p0,p1,p2,p3⟩,hn⟩:=ae.out.nd hlt;have q0:=zb hbb p0;have q1:=zb hbb p1;have q2:=zb hbb p2;have q3:=zb hbb p3;have HS:=zh (IH.out u (by rw[<-Hu.out];exact List.getElem_mem hlt) _ x wr (hn.later hbb) hx hx2);have HJ2:=zh (show szRs (ks.drop (j+1)) (szR u x)=r by
      have h5:=HJ.out;rw[List.drop_eq_getElem_cons hlt]at h5;rw[szRs,if_neg (by omega)]at h5;rw[<-h5];have:=Hu.out;simp only[T.ks_nd]at this;rw[this])
     have HL:=zh (zrM _ u x zl hx);clear p0 p1 p2 p3 hn hbb HJ hk;go_wp2_with fail;refine HS.out.mono ?_;rintro e w2 ⟨rfl,hb2⟩;have HB2:=zh (zka af.out hb2);obtain⟨y,hy⟩:=zX (szR u x);rw[hy]at HJ2 HL ⊢;clear hb2 HS q0 q1 q2 q3 z3 hy;go_wp2_with fail
     go_roundw
     case rel=>exact⟨j+1,y,by omega,by go_num,rfl,HL.out.1,by have:=HL.out.2;omega,HB2,HJ2⟩
     case measure=>simp[intOf];omega
    ·have hx':¬ (0:Int)<=x:=hx;have HJ2:=zh (show x=r by
      have h5:=HJ.out;rw[List.drop_eq_getElem_cons hlt,szRs,if_pos (by omega)]at h5;exact h5)
     clear HJ hk;go_wp2_with fail;go_ret;exact⟨by rw[HJ2.out];rfl,zka HB1.out af.out⟩
   ·have hj1:¬ (j:Int)<(ks.length:Int):=by omega
    have HJ2:=zh (show x=r by
     have h5:=HJ.out;rw[List.drop_eq_nil_of_le (by omega),szRs]at h5;exact h5)
    clear HJ hk;go_wp2_with fail;go_ret;exact⟨by rw[HJ2.out];rfl,zka HB1.out af.out⟩
def SmlP(p:PG)(W:World)(e:Ending)(w':World):Prop:=∃b:Bool,e=.returned (.bool b)/\(b=true->p.vs.length<=6/\p.m.ks.length<=100)/\Below W.heap.size W w'
theorem zn8(p:PG)(v:Value)(W:World)(hp:PV W Any p v):Calls prog 22 #[v] W (SmlP p W):=by
 obtain⟨A1,c1,A2,c2,A3,c3,rfl,jq⟩:=hp;have xV:=zh jq;have hb2:=zkb (zs W) (.cells #[.slice A1 p.vs.length c1,.slice A2 p.prs.length c2,.int .u8 p.m.k,.int .i64 p.m.n,.string p.m.s,.slice A3 p.m.ks.length c3] 30);have k0:=heap_alloc_new W (.cells #[.slice A1 p.vs.length c1,.slice A2 p.prs.length c2,.int .u8 p.m.k,.int .i64 p.m.n,.string p.m.s,.slice A3 p.m.ks.length c3] 30);obtain⟨w2,hw2⟩:=zX (W.alloc (.cells #[.slice A1 p.vs.length c1,.slice A2 p.prs.length c2,.int .u8 p.m.k,.int .i64 p.m.n,.string p.m.s,.slice A3 p.m.ks.length c3] 30));rw[hw2]at hb2 k0;have HB2:=zh hb2;have aH:=zh k0;obtain⟨p0,p1,p2,p3,p4,p5⟩:=box6 k0;have hlp:=zkW jq.lp;have nD:=zh (zo1 p.m _ 100 w2 (jq.main.later hb2) (by omega) (by omega));obtain⟨x,hx⟩:=zX (szR p.m 100);rw[hx]at nD;have HX:=zh (show 0<=x->p.m.ks.length<=100 from fun h=>zxZ (hx▸h));have hpgl:=jq.lv;clear jq hb2 k0 hx
 go_enter func22,ntmps22;by_cases h1:(4:Int)<(p.prs.length:Int)
 ·go_wp2_with fail;go_ret;exact⟨_,rfl,nofun,HB2.out⟩
 have hlv:=zkW hpgl;by_cases h1v:(6:Int)<(p.vs.length:Int)
 ·go_wp2_with fail;go_ret;exact⟨_,rfl,nofun,HB2.out⟩
 go_wp2_with fail;refine nD.out.mono ?_;rintro e3 w3 ⟨rfl,hb3⟩;have HB3:=zh (zka HB2.out hb3);have kp:=zkc aH.out hb3;obtain⟨-,q1,-⟩:=box6 kp;clear hb3 nD kp p0 p1 p2 p3 p4 p5 hw2;by_cases h3:x<0
 ·go_wp2_with fail;go_ret;exact⟨_,rfl,nofun,HB3.out⟩
 go_wp2_with fail
 go_loopw [24,4] (fun i _ wr=>∃j:Nat,j<=p.prs.length/\i=.int .i64 j/\Hid (Below w3.heap.size w3 wr)) (fun i _ _=>p.prs.length-(intOf i).toNat)
 case atStart=>exact⟨0,Nat.zero_le _,rfl,zh zr⟩
 case round =>
  obtain⟨j,hj,rfl,af⟩:=hrel;by_cases hlt:j<p.prs.length
  ·have hj1:(j:Int)<(p.prs.length:Int):=by omega
   have hj0:(0:Int)<=(j:Int):=by omega
   have hbb:=zka HB3.out af.out;obtain⟨pa,q,B1,d1,B2,d2,rfl,-,Hq,⟨y0,y1,y2,y3,y4,y5⟩,hpr⟩:=(xV.out.procs.later hbb).nd hlt;have hbz:=zkb af.out (.cells #[.string q.s,.slice B1 q.ps.length d1,.int .u8 q.b.k,.int .i64 q.b.n,.string q.b.s,.slice B2 q.b.ks.length d2] 100);have hbw:=zkb (zs wr) (.cells #[.string q.s,.slice B1 q.ps.length d1,.int .u8 q.b.k,.int .i64 q.b.n,.string q.b.s,.slice B2 q.b.ks.length d2] 100);have nD:=zh (zo1 q.b _ 100 _ (hpr.body.later hbw) (by omega) (by omega));obtain⟨z,hz⟩:=zX (szR q.b 100);rw[hz]at nD;have zH:=zh hbz;clear hbb hpr hbz hbw hz;go_wp2_with fail;refine nD.out.mono ?_;rintro e4 w4 ⟨rfl,hb4⟩;have ax:=zh (zka zH.out hb4);clear hb4 nD y0 y1 y2 y3 y4 y5;by_cases hz:z<0
   ·go_wp2_with fail;go_ret;exact⟨_,rfl,nofun,zka HB3.out ax.out⟩
   ·go_wp2_with fail
    go_roundw
    case rel=>exact⟨j+1,by omega,by go_num,ax⟩
    case measure=>simp[intOf];omega
  ·have hj1:¬ (j:Int)<(p.prs.length:Int):=by omega
   go_wp2_with fail;go_ret;exact⟨_,rfl,fun _=>⟨by omega,HX.out (by omega)⟩,zka HB3.out af.out⟩
def GrtP(e:EX)(q:PG)(W:World)(en:Ending)(w':World):Prop:=∃g:Bool,en=.returned (.bool g)/\(g=false->e.gv.vs.length<=6/\e.fu<=300/\(e.bx.ok&&svB e.gv.vs)=true/\cntF e.gv.vs e.bx<=60/\q.m.ks.length<=100/\q.vs.length<=6)/\Below W.heap.size W w'
theorem zrk{W:World}{e:EX}{q:PG}{ev qv:Value}(he:EV W Any e ev)(hq:PV W Any q qv):Calls prog 9 #[ev,qv] W (GrtP e q W):=by
 obtain⟨A1,c1,A2,c2,A3,c3,rfl,hg,hI⟩:=he;have HSE:=zh (fun w' (h:Below W.heap.size W w')=>zn8 e.gv _ w' (hg.later h).pv);have HSQ:=zh (fun w' (h:Below W.heap.size W w')=>zn8 q _ w' (hq.later h));have dO:=zh (fun w' (h:Below W.heap.size W w')=>zs2 e.gv.vs e.bx A1 c1 w' (hg.vars.later h) hg.lv);have lF:=zh (fun w' (h:Below W.heap.size W w') (hok:(e.bx.ok&&svB e.gv.vs)=true)=>zs3 e.gv.vs e.bx A1 c1 w' (hg.vars.later h) hok);obtain⟨D1,e1,D2,e2,D3,e3,rfl,-⟩:=hq;obtain⟨ok,hok⟩:=zX ((e.bx.ok&&svB e.gv.vs));obtain⟨CN,iH⟩:=zX (cntF e.gv.vs e.bx);have nP:=zh (show ∀(g:Bool) w',Below W.heap.size W w'->(g=false->e.gv.vs.length<=6/\e.fu<=300/\ok=true/\CN<=60/\q.m.ks.length<=100/\q.vs.length<=6)->GrtP e q W (.returned (.bool g)) w' from fun g w' h1 h2=>⟨g,rfl,by rw[hok,iH];exact h2,h1⟩);rw[hok]at dO;simp only[hok,iH]at lF
 have hb2:=zkb (zkb (zkb (zs W) (.cells (exA e A1 c1 A2 c2 A3 c3) 32)) (.cells (pgA q D1 e1 D2 e2 D3 e3) 30)) (.cells #[.int .i64 e.bx.v,.int .i64 e.bx.l,.int .i64 e.bx.i] 23);have k0:=zkd (zkd (heap_alloc_new W (.cells (exA e A1 c1 A2 c2 A3 c3) 32)) (.cells (pgA q D1 e1 D2 e2 D3 e3) 30)) (.cells #[.int .i64 e.bx.v,.int .i64 e.bx.l,.int .i64 e.bx.i] 23);have k1:=zkd (heap_alloc_new (W.alloc (.cells (exA e A1 c1 A2 c2 A3 c3) 32)) (.cells (pgA q D1 e1 D2 e2 D3 e3) 30)) (.cells #[.int .i64 e.bx.v,.int .i64 e.bx.l,.int .i64 e.bx.i] 23);have k2:=heap_alloc_new ((W.alloc (.cells (exA e A1 c1 A2 c2 A3 c3) 32)).alloc (.cells (pgA q D1 e1 D2 e2 D3 e3) 30)) (.cells #[.int .i64 e.bx.v,.int .i64 e.bx.l,.int .i64 e.bx.i] 23);have kx:=heap_alloc_new W (.cells (exA e A1 c1 A2 c2 A3 c3) 32)
 obtain⟨x0,x1,x2,x3,x4,x5,x6,x7,x8,x9,az,ay⟩:=znb (zkd kx (.cells (pgA q D1 e1 D2 e2 D3 e3) 30));clear kx hg;go_enter func9,ntmps9;go_upto_region 2 with fail;obtain⟨w2,hw2⟩:=zX (((W.alloc (.cells (exA e A1 c1 A2 c2 A3 c3) 32)).alloc (.cells (pgA q D1 e1 D2 e2 D3 e3) 30)).alloc (.cells #[.int .i64 e.bx.v,.int .i64 e.bx.l,.int .i64 e.bx.i] 23));rw[hw2]at hb2 k0 k1 k2
 try rw[hw2]
 simp only[World.size_alloc,Nat.add_assoc,Nat.reduceAdd]at k1 k2;obtain⟨N,hN⟩:=zX (W.heap.size);rw[hN]at k0 k1 k2
 try rw[hN]
 try simp only[Nat.add_assoc,Nat.reduceAdd]
 clear x0 x1 x2 x3 x4 x5 x6 x7 x8 x9 az ay hw2 hN hok iH;have HB:=zh hb2;have bF:=zh (fun w' (h:Below w2.heap.size w2 w')=>znb (zkc k0 h));have bB:=zh (fun w' (h:Below w2.heap.size w2 w')=>box6 (zkc k1 h));have av:=zh (fun w' (h:Below w2.heap.size w2 w')=>zlG (zkc k2 h));have bH:=zh (zs w2);clear hb2 k0 k1 k2;obtain⟨x0,x1,x2,x3,x4,x5,x6,x7,x8,x9,az,ay⟩:=bF.out _ bH.out;obtain⟨q0,q1,q2,q3,q4,q5⟩:=bB.out _ bH.out;obtain⟨y0,y1,y2⟩:=av.out _ bH.out;go_wp2_with fail;refine(HSE.out _ HB.out).mono ?_;rintro en w3 ⟨sb,rfl,hsb,hb3⟩;have bT:=zh hsb;have aR:=zh (zka bH.out hb3);clear hsb hb3;clear x0 x1 x2 x3 x4 x5 x6 x7 x8 x9 az ay q0 q1 q2 q3 q4 q5 y0 y1 y2;obtain⟨x0,x1,x2,x3,x4,x5,x6,x7,x8,x9,az,ay⟩:=bF.out _ aR.out;obtain⟨q0,q1,q2,q3,q4,q5⟩:=bB.out _ aR.out;obtain⟨y0,y1,y2⟩:=av.out _ aR.out
 cases sb
 ·go_wp2_with fail;go_ret;exact nP.out true _ (zka HB.out aR.out) nofun
 go_wp2_with fail;refine(HSQ.out _ (zka HB.out aR.out)).mono ?_;rintro en w4 ⟨sb,rfl,hsb,hb4⟩;have HS2:=zh hsb;have bq:=zh (zka aR.out hb4);clear hsb hb4;clear x0 x1 x2 x3 x4 x5 x6 x7 x8 x9 az ay q0 q1 q2 q3 q4 q5 y0 y1 y2;obtain⟨x0,x1,x2,x3,x4,x5,x6,x7,x8,x9,az,ay⟩:=bF.out _ bq.out;obtain⟨q0,q1,q2,q3,q4,q5⟩:=bB.out _ bq.out;obtain⟨y0,y1,y2⟩:=av.out _ bq.out
 cases sb
 ·go_wp2_with fail;go_ret;exact nP.out true _ (zka HB.out bq.out) nofun
 by_cases h300:(300:Int)<e.fu
 ·go_wp2_with fail;go_ret;exact nP.out true _ (zka HB.out bq.out) nofun
 go_wp2_with fail;refine(dO.out _ (zka HB.out bq.out)).mono ?_;rintro en w5 ⟨rfl,hb5⟩;have bX:=zh (zka bq.out hb5);clear hb5;clear x0 x1 x2 x3 x4 x5 x6 x7 x8 x9 az ay q0 q1 q2 q3 q4 q5 y0 y1 y2;obtain⟨x0,x1,x2,x3,x4,x5,x6,x7,x8,x9,az,ay⟩:=bF.out _ bX.out;obtain⟨q0,q1,q2,q3,q4,q5⟩:=bB.out _ bX.out;obtain⟨y0,y1,y2⟩:=av.out _ bX.out
 cases ok
 ·go_wp2_with fail;go_ret;exact nP.out true _ (zka HB.out bX.out) nofun
 go_wp2_with fail;refine(lF.out _ (zka HB.out bX.out) trivial).mono ?_;rintro en w6 ⟨rfl,rfl⟩;go_wp2_with fail;go_ret;refine nP.out _ _ (zka HB.out bX.out) fun h=>⟨(bT.out trivial).1,by omega,trivial,?_,(HS2.out trivial).2,(HS2.out trivial).1⟩
 have:e.fu<=300/\CN<=60:=by simpa using h
 exact this.2
end
section
open Go Go.RowKit
theorem zpT{v:Int}(hv:0<=v)(a m:Nat):(betE v a m).length=nLst (2*v+1).toNat (a,m):=by
 have h1:=zn1 hv a m;have h2:∀l:List Nat,(((l.map fun i=>(2*v+1).toNat ^ (a+i)).sum:Nat):Int)=(l.map fun i=>(2*v+1) ^ (a+i)).sum:=by
  intro l
  induction l with
  | nil=>rfl
  | cons i l ih =>
   rw[List.map_cons,List.sum_cons,List.map_cons,List.sum_cons,<-ih]
   push_cast
   rw[Int.toNat_of_nonneg (by omega)]
 unfold nLst;have h3:=h2 (List.range (m+1-a));simp only;omega
theorem zyj{b:BX}{v:VD}(hb:b.ok=true)(hv:vdB v=true):(lstE b v).length=nLst (2*b.v+1).toNat (len1 b v):=by
 have hk:=zmc hb;unfold lstE len1;rcases zxT hv with⟨h1,h2⟩|⟨h1,h2,h3⟩|⟨h1,h2⟩
 ·rw[if_pos h1,if_neg (by omega),zpT hk.1.1];unfold fixE;rw[if_pos h1];rfl
 ·rw[if_neg (by omega),if_pos h1,if_neg (by omega),zpT hk.1.1];unfold fixE;rw[if_neg (by omega)]
 ·rw[if_neg (by omega),if_neg (by omega),if_pos h1,zpT hk.1.1]
theorem zrP{b:BX}(hb:b.ok=true):∀(vs:List VD) (st:List SS),(∀v∈vs,vdB v=true)->(vs.foldl (fun st v=>stg st (lstE b v)) st).length=st.length*nAll (2*b.v+1).toNat (vs.map (len1 b))
 | [],st,_=>by simp[nAll]
 | v::vs,st,h=>by
  rw[List.foldl_cons,zrP hb vs _ fun u hu=>h u (by simp[hu]),ztu,zyj hb (h v (by simp)),List.map_cons,nAll,Nat.mul_assoc]
theorem zr3(h:Nat):∀(a b:List Bn),nAll h (a++b)=nAll h a*nAll h b
 | [],b=>by simp[nAll]
 | x::a,b=>by rw[List.cons_append,nAll,nAll,zr3 h a b,Nat.mul_assoc]
theorem zsQ{α β:Type}(l:List α)(f:α->List β)(n:Nat)(h:∀x,(f x).length=n):(l.flatMap f).length=l.length*n:=by
 induction l with
 | nil=>simp
 | cons x l ih=>rw[List.flatMap_cons,List.length_append,ih,h,List.length_cons,Nat.add_mul];omega
theorem zz2{vs:List VD}{b:BX}(hok:(b.ok&&svB vs)=true)(h60:cntF vs b<=60):(allS b (lenE vs b)).length<=60:=by
 have h:=hok;simp only[Bool.and_eq_true]at h;have hk:=zmc h.1;have hr:=(zx9 h.1 h60).all.2;have h1:(allU vs b).length=nAll (2*b.v+1).toNat (lenE vs b):=by
  unfold allU stgF lenE;rw[zsQ _ _ (betE b.v 0 b.i.toNat).length fun s=>by simp,zrP h.1 vs _ fun v hv=>(zvQ h.2).2 v hv,zr3,zpT hk.1.1];simp[nAll]
 have h2:=zy0 (h:=(2*b.v+1).toNat) (by omega) (bs:=lenE vs b) fun q hq=>((zm5 hok).2.2.1 q hq).1;rw[Int.toNat_of_nonneg (by omega)]at h2;unfold allS;rw[List.length_map];omega
attribute [local go_sem] Oper.semAt_some
theorem ztI{l:List T}{e:Int}(h:e∈rejL l):e≠0:=by
 have:=(List.mem_filter.1 h).2;simpa using this
theorem zzq{q:PG}{e:Int}(h:e∈rjA q):e≠0:=by
 rcases List.mem_append.1 h with h|h
 ·obtain⟨l,hl,he⟩:=List.mem_flatten.1 h;obtain⟨r,-,rfl⟩:=List.mem_map.1 hl;exact ztI he
 ·exact ztI h
theorem zu6{vs:List VD}{q:PG}(h:admP vs q=0):zkA q=true/\chkN q=0/\rjT q=0/\q.vs=vs:=by
 unfold admP at h;by_cases h1:zkA q=true
 ·rw[if_pos h1]at h;by_cases h2:chkN q=0
  ·rw[if_pos h2]at h;by_cases h3:rjT q=0
   ·rw[if_pos h3]at h;by_cases h4:eqVs q.vs vs=true
    ·exact⟨h1,h2,h3,zmi.1 h4⟩
    ·rw[if_neg h4]at h;omega
   ·rw[if_neg h3]at h
    cases hr:rjA q with
    | nil=>rw[<-zx6,hr]at h3;exact absurd rfl h3
    | cons a l=>rw[hr]at h;exact absurd h (zzq (by rw[hr];simp))
  ·rw[if_neg h2]at h;omega
 ·rw[if_neg h1]at h;omega
theorem zu7{e:EX}{q:PG}(h:admE e q=0):zkV e=true/\zkA q=true/\chkN q=0/\rjT q=0/\q.vs=e.gv.vs:=by
 unfold admE at h;by_cases h1:zkV e=true
 ·rw[if_pos h1]at h;exact⟨h1,zu6 h⟩
 ·rw[if_neg h1]at h;omega
theorem ztn{e:EX}(h:zkV e=true):0<=e.fu/\e.fu<=1000000/\okB e.gv=true/\okB (zkK e.gv)=true:=by
 simp only[zkV,Bool.and_eq_true,decide_eq_true_eq]at h;exact⟨h.1.1.1.2.1,h.1.1.1.2.2,h.1.1.2,h.1.2⟩
def invE(e:EX)(q:PG)(s:SS):Bool×Int:=if admE e q=0 then(if fitB e.gv.vs s=true then(if gerE e.gv e.fu s=0 then(rigG e.gv q e.fu s,0)else(false,gerE e.gv e.fu s))else(false,20))else(false,admE e q)
theorem zrA{W:World}{e:EX}{q:PG}{s:SS}{ev qv v:Value}(he:EV W Any e ev)(hq:PV W Any q qv)(h:SV W Any s v) :
  Calls prog 19 #[ev,qv,v] W fun en w'=>en=.returned (.tuple #[.bool (invE e q s).1,.int .i64 (invE e q s).2])/\Below W.heap.size W w':=by
 have HAD:=zh (fun w' (hb:Below W.heap.size W w')=>zqJ (he.later hb) (hq.later hb));have iR:=zh (fun w' (hb:Below W.heap.size W w')=>he.later hb);have HQ:=zh (fun w' (hb:Below W.heap.size W w')=>hq.later hb);have HS:=zh (fun w' (hb:Below W.heap.size W w')=>h.later hb);obtain⟨A1,c1,A2,c2,A3,c3,rfl,hg,hI⟩:=he;obtain⟨D1,e1,D2,e2,D3,e3,rfl,iA⟩:=hq;have HG:=zh (fun w' (hb:Below W.heap.size W w')=>hg.later hb);have HI:=zh hI;obtain⟨As,cs,Bs,ds,Ds,es,rfl⟩:∃A c B d D e,v=.agg #[.slice A s.cells.length c,.slice B s.tin.length d,.slice D s.tout.length e]:=by
  obtain⟨A,c,B,d,D,e,h,-⟩:=h;exact⟨_,_,_,_,_,_,h⟩
 have hb2:=zkb (zkb (zkb (zs W) (.cells (exA e A1 c1 A2 c2 A3 c3) 32)) (.cells (pgA q D1 e1 D2 e2 D3 e3) 30)) (.cells #[.slice As s.cells.length cs,.slice Bs s.tin.length ds,.slice Ds s.tout.length es] 44);have k0:=zkd (zkd (heap_alloc_new W (.cells (exA e A1 c1 A2 c2 A3 c3) 32)) (.cells (pgA q D1 e1 D2 e2 D3 e3) 30)) (.cells #[.slice As s.cells.length cs,.slice Bs s.tin.length ds,.slice Ds s.tout.length es] 44);have k1:=zkd (heap_alloc_new (W.alloc (.cells (exA e A1 c1 A2 c2 A3 c3) 32)) (.cells (pgA q D1 e1 D2 e2 D3 e3) 30)) (.cells #[.slice As s.cells.length cs,.slice Bs s.tin.length ds,.slice Ds s.tout.length es] 44);have k2:=heap_alloc_new ((W.alloc (.cells (exA e A1 c1 A2 c2 A3 c3) 32)).alloc (.cells (pgA q D1 e1 D2 e2 D3 e3) 30)) (.cells #[.slice As s.cells.length cs,.slice Bs s.tin.length ds,.slice Ds s.tout.length es] 44)
 simp only[World.size_alloc,Nat.add_assoc,Nat.reduceAdd]at k1 k2;obtain⟨w2,hw2⟩:=zX (((W.alloc (.cells (exA e A1 c1 A2 c2 A3 c3) 32)).alloc (.cells (pgA q D1 e1 D2 e2 D3 e3) 30)).alloc (.cells #[.slice As s.cells.length cs,.slice Bs s.tin.length ds,.slice Ds s.tout.length es] 44));obtain⟨N,hN⟩:=zX (W.heap.size);rw[hw2]at hb2 k0 k1 k2;rw[hN]at k0 k1 k2;have HB:=zh hb2;have bF:=zh (fun w' (h:Below w2.heap.size w2 w')=>znb (zkc k0 h));have bB:=zh (fun w' (h:Below w2.heap.size w2 w')=>box6 (zkc k1 h));have wy:=zh (fun w' (h:Below w2.heap.size w2 w')=>zlG (zkc k2 h));have bH:=zh (zs w2);have lZ:=zh (fun w' (h:Below w2.heap.size w2 w')=>zso e.gv.vs s A1 c1 _ w' ((hg.vars.later hb2).later h) hg.lv (HS.out w' (zka hb2 h)));obtain⟨AD,fq⟩:=zX (admE e q);have HADE:=zh fq;rw[fq]at HAD;obtain⟨FB,yR⟩:=zX (fitB e.gv.vs s);have gT:=zh yR;rw[yR]at lZ
 obtain⟨R0,hR0⟩:=zX (invE e q s);have oF:=zh hR0;unfold invE at hR0;rw[fq,yR]at hR0;have HRR:=zh hR0;rw[oF.out];clear h hg hI iA hb2 k0 k1 k2 fq yR hR0 oF;obtain⟨x0,x1,x2,x3,x4,x5,x6,x7,x8,x9,az,ay⟩:=bF.out _ bH.out;obtain⟨q0,q1,q2,q3,q4,q5⟩:=bB.out _ bH.out;obtain⟨y0,y1,y2⟩:=wy.out _ bH.out;go_enter func19,ntmps19;go_upto_region 1 with fail
 try simp only[Nat.add_assoc,Nat.reduceAdd]
 try rw[hw2]
 try rw[hN]
 try simp only[Nat.add_assoc,Nat.reduceAdd]
 clear hw2 hN;go_wp2_with fail;refine(HAD.out _ HB.out).mono ?_;rintro en w3 ⟨rfl,hb3⟩;have aR:=zh (zka bH.out hb3);clear hb3;clear x0 x1 x2 x3 x4 x5 x6 x7 x8 x9 az ay q0 q1 q2 q3 q4 q5 y0 y1 y2;obtain⟨x0,x1,x2,x3,x4,x5,x6,x7,x8,x9,az,ay⟩:=bF.out _ aR.out;obtain⟨q0,q1,q2,q3,q4,q5⟩:=bB.out _ aR.out;obtain⟨y0,y1,y2⟩:=wy.out _ aR.out;by_cases ha:AD=0;rotate_left 1
 ·have ha1:(AD != 0)=true:=by simpa using ha
  have hrr:=HRR.out;rw[if_neg ha]at hrr;subst hrr;have dK:=zh (zka HB.out aR.out);clear ha HRR;go_wp2_with fail;exact bodyPost_ret (v:=.tuple #[.bool false,.int .i64 AD]) (by simp[results,results19,go_sem]) rfl ⟨rfl,dK.out⟩
 subst ha;have ha1:((0:Int) != 0)=false:=by decide
 have hrr:=HRR.out;rw[if_pos rfl]at hrr;have jL:=zh hrr;clear hrr HRR;obtain⟨qF,-,-,-,-⟩:=zu7 HADE.out;have fJ:=zh (ztn qF);clear qF;go_wp2_with fail;refine(lZ.out _ aR.out).mono ?_;rintro en w4 ⟨rfl,hb4⟩;have bq:=zh (zka aR.out hb4);clear hb4;clear x0 x1 x2 x3 x4 x5 x6 x7 x8 x9 az ay q0 q1 q2 q3 q4 q5 y0 y1 y2;obtain⟨x0,x1,x2,x3,x4,x5,x6,x7,x8,x9,az,ay⟩:=bF.out _ bq.out;obtain⟨q0,q1,q2,q3,q4,q5⟩:=bB.out _ bq.out;obtain⟨y0,y1,y2⟩:=wy.out _ bq.out
 cases FB
 ·have hrr:=jL.out;rw[if_neg (by decide)]at hrr;subst hrr;have dK:=zh (zka HB.out bq.out);clear jL;go_wp2_with fail;exact bodyPost_ret (v:=.tuple #[.bool false,.int .i64 20]) (by simp[results,results19,go_sem]) rfl ⟨rfl,dK.out⟩
 have hrr:=jL.out;rw[if_pos rfl]at hrr;have iJ:=zh hrr;have hsc:s.cells.length<=32:=by
  have h1:=gT.out;unfold fitB at h1;simp only[Bool.and_eq_true,decide_eq_true_eq]at h1;have h2:=(zlu (zqo fJ.out.2.2.1).1).1;omega
 have jR:=zh (zmX e.gv s e.fu (e.fu.toNat*2000+2000) _ _ w4 (HG.out _ (zka HB.out bq.out)).pv (HS.out _ (zka HB.out bq.out)) (by omega) HI.out fJ.out.2.1 zl);have ik:=zh (show(resO e.gv s e.fu (e.fu.toNat*2000+2000) false).2.2.1=0->((resO e.gv s e.fu (e.fu.toNat*2000+2000) false).2.1:Int)<=max e.fu 0 from fun h=>(zr9 zl h).1);have dV:=zh (show gerE e.gv e.fu s=(resO e.gv s e.fu (e.fu.toNat*2000+2000) false).2.2.1/\rigG e.gv q e.fu s=(gerE q e.fu (resO e.gv s e.fu (e.fu.toNat*2000+2000) false).1==0&&eqS (gstE q e.fu (resO e.gv s e.fu (e.fu.toNat*2000+2000) false).1) s)from⟨rfl,rfl⟩);generalize resO e.gv s e.fu (e.fu.toNat*2000+2000) false=R at jR dV ik;clear hrr jL hsc;go_wp2_with fail;refine jR.out.mono ?_;rintro en w5 ⟨u1,u2,u3,rfl,iW,hb5,hl5⟩;obtain⟨A6,c6,B6,d6,D6,e6,hv⟩:=iW.slices;injection hv with hv
 simp only[Array.mk.injEq,List.cons.injEq,and_true]at hv;obtain⟨rfl,rfl,rfl⟩:=hv;have qW:=zh (show R.2.2.1=0->R.1.cells.length<=2000000 from fun h=>by have h1:=(hl5.2 h).1;have h2:=ik.out h;have h3:=fJ.out.2.1;omega);have uD:=zh (iW.svR hl5.1);have aO:=zh hb5;clear jR iW hb5 hl5;obtain⟨R1,R2,R3,R4⟩:=R;simp only at dV qW ik uD ⊢;have hb6:=zkb (zs w5) (.cells #[.slice A6 R1.cells.length c6,.slice B6 R1.tin.length d6,.slice D6 R1.tout.length e6,.int .i64 (R2:Int),.int .i64 R3] 58);have k6:=heap_alloc_new w5 (.cells #[.slice A6 R1.cells.length c6,.slice B6 R1.tin.length d6,.slice D6 R1.tout.length e6,.int .i64 (R2:Int),.int .i64 R3] 58);clear x0 x1 x2 x3 x4 x5 x6 x7 x8 x9 az ay q0 q1 q2 q3 q4 q5 y0 y1 y2;go_upto_region 7 with fail
 obtain⟨w6,jV⟩:=zX (w5.alloc (.cells #[.slice A6 R1.cells.length c6,.slice B6 R1.tin.length d6,.slice D6 R1.tout.length e6,.int .i64 (R2:Int),.int .i64 R3] 58));obtain⟨gp,vR⟩:=zX (w5.heap.size);rw[jV]at hb6 k6 ⊢;rw[vR]at k6 ⊢;have dn:=zh (zka (zka bq.out aO.out) hb6);have lh:=zh (uD.out.later hb6);obtain⟨r0,r1,r2,r3,r4⟩:=zzs k6;have HRX2:=zh dV.out.1;clear hb6 k6 jV vR uD;by_cases hr:R3=0;rotate_left 1
 ·have hr1:(R3 != 0)=true:=by simpa using hr
  have hrr:=iJ.out;rw[dV.out.1,if_neg hr]at hrr;subst hrr;have dK:=zh (zka HB.out dn.out);clear hr iJ dV HRX2 ik qW;go_wp2_with (go_region)
  exact bodyPost_ret (v:=.tuple #[.bool false,.int .i64 R3]) (by simp[results,results19,go_sem]) rfl ⟨rfl,dK.out.trans (zr.drew.mono dK.out.size)⟩
 subst hr;have hrr:=iJ.out;rw[dV.out.1,if_pos rfl]at hrr;obtain⟨rb,re⟩:=R0;injection hrr with hr1 hr2;subst hr2;have HR1:=zh hr1;clear hr1;have HCM:=zh (znH (iR.out _ (zka HB.out dn.out)) (HQ.out _ (zka HB.out dn.out)) (lh.out.keep (fun _ _ _=>trivial) fun _ _ _=>rfl) (HS.out _ (zka HB.out dn.out)) (qW.out rfl) fJ.out.2.1);obtain⟨bb,hbb⟩:=zX ((gerE q e.fu R1==0&&eqS (gstE q e.fu R1) s));obtain⟨ge,hge⟩:=zX (gerE q e.fu R1);rw[hbb,hge]at HCM;have dE:=zh (show rb=bb from HR1.out.symm.trans (dV.out.2.trans hbb));clear hbb hge iJ dV HRX2 ik qW HR1;obtain⟨x0,x1,x2,x3,x4,x5,x6,x7,x8,x9,az,ay⟩:=bF.out _ dn.out;obtain⟨q0,q1,q2,q3,q4,q5⟩:=bB.out _ dn.out;obtain⟨y0,y1,y2⟩:=wy.out _ dn.out;go_wp2_with fail;refine HCM.out.mono ?_;rintro en w7 ⟨rfl,dN⟩;have dK:=zh (zka (zka HB.out dn.out) dN);have hbb:=dE.out;subst hbb;clear dN HCM;go_wp2_with fail
 exact bodyPost_ret (v:=.tuple #[.bool rb,.int .i64 0]) (by simp[results,results19,go_sem]) rfl ⟨rfl,dK.out⟩
end
section
open Go Go.RowKit
theorem zuC(us vs:List VD):zkD (us++vs)=zkD us++zkD vs:=by simp[zkD]
theorem RowV.flat{w:World}{S:Nat->Prop}{a:Addr}{vs:List VD}(h:RowV w S (some a) vs){j:Nat}{u:Value}(hj:(zkD vs)[j]?=some u):w.cell? (a.add j)=some u/\u.oneCell'=true:=by
 obtain⟨hlt,-⟩:=List.getElem?_eq_some_iff.1 hj;rw[zoq]at hlt;obtain⟨i,k,hk,rfl⟩:∃i k,k<3/\j=i*3+k:=⟨j / 3,j % 3,by omega,by omega⟩
 have hi:i<vs.length:=by omega
 obtain⟨a',e,-,⟨c0,c1,c2⟩,-⟩:=h i hi;injection e with e;subst e;obtain⟨g0,g1,g2⟩:=zmx vs i hi;have c1':w.cell? ((a.add (i*3)).add 1)=some (.int .u8 vs[i].k):=c1;have c2':w.cell? ((a.add (i*3)).add 2)=some (.int .i64 vs[i].n):=c2;rw[zoH]at c1' c2'
 match k,hk with
 | 0,_ =>
  rw[Nat.add_zero]at hj ⊢;rw[g0]at hj;injection hj with hj;subst hj;exact⟨c0,rfl⟩
 | 1,_ =>
  rw[g1]at hj;injection hj with hj;subst hj;exact⟨c1',rfl⟩
 | 2,_ =>
  rw[g2]at hj;injection hj with hj;subst hj;exact⟨c2',rfl⟩
theorem zvZ{w:World}{base n c:Nat}{A:Option Addr}{us:List VD}(h:w.ownsRow base 38 3 (.slice A n c) us.length (zkD us))(hf:∀v∈us,FldV v):n=us.length/\us.length<=c/\RowV w (fun b=>base<=b) A us:=by
 have h0:=h;obtain⟨hl,⟨h1,h2⟩|⟨g,cap,cur,he,h3,h4,h5,h6⟩⟩:=h
 ·injection h1 with e1 e2 e3;exact⟨by omega,by omega,fun i hi=>absurd hi (by omega)⟩
 ·injection he with e1 e2 e3;subst e1 e2 e3;refine⟨rfl,h5,fun i hi=>⟨_,rfl,h3,?_,hf _ (List.getElem_mem hi)⟩⟩;have ha:(⟨g,0,none⟩:Addr).add (i*3)=⟨g,i*3,none⟩:=by rw[Addr.add_lit,Nat.zero_add]
  obtain⟨g1,g2,g3⟩:=zmx us i hi;rw[ha];exact⟨by rw[h0.cellAt (i*3) (by omega)];exact g1,by rw[h0.cellAt (i*3+1) (by omega)];exact g2,by rw[h0.cellAt (i*3+2) (by omega)];exact g3⟩
theorem zmk{ops:Array Oper}{rest:List Oper}{o:Oper}{a:Act}{W:World}{Q:Exit->Act->World->Prop}(hgd:o.guard=none)(s x:Operand)
  (ho:o.op=.call { callee:=.builtin .append,args := #[s,x],argTypes := #[24,24] })(base:Nat)(v:Value)(us:List VD)(hs:a.eval s=v)(hrow:W.ownsRow base 38 3 v us.length (zkD us))
  (A:Option Addr)(l:List VD)(m c:Nat)(hm:l.length=m)(hx:a.eval x=.slice A m c)(hr:RowV W Any A l)(hl:us.length+l.length<=1000000)(hb:base<=W.heap.size)
  (h:∀v' w',w'.ownsRow base 38 3 v' (us++l).length (zkD (us++l))->Chg (fun b=>v.ownBlock=some b) W w'->wpList prog ops Q rest (a.put o.dst v') w') :
  wpList prog ops Q (o::rest) a W:=by
 subst hm;obtain⟨i,hi,hz0,hz1,hz2⟩:=info_parts zrI;rcases A with _|ad
 ·have hl0:l=[]:=by
   rcases l with _|⟨y,l⟩
   ·rfl
   ·obtain⟨_,h0,_⟩:=hr 0 (by simp);cases h0
  subst hl0;refine wpList_plain hgd fun K hK=>?_;have hrun:(Builtin.append_ #[24,24] o.type #[v,.slice none 0 c]).run prog W=.ok v W:=by
   rcases hrow.2 with⟨rfl,h0⟩|⟨g,cap,cur,rfl,_,_,hnc,_⟩
   ·simp[Builtin.append_,run_underlying underlying24,sizeOf,typeInfo,hi,Builtin.lenOf,Builtin.firstCells]
   ·simp[Builtin.append_,run_underlying underlying24,sizeOf,typeInfo,hi,Builtin.lenOf,Builtin.firstCells,hnc,storeCells]
  unfold Oper.wp execOp;simp only[ho,resolve,invoke,builtin,Sem.run_bind,Sem.run_pure,Result.andThen_ok,List.map_toArray,List.map_cons,List.map_nil,hs,hx,List.length_nil,hrun];exact hK _ _ (h v W (by simpa using hrow) (Chg.refl _ _))
 ·refine wpList_append_own_at (P:=prog) _ hgd s x 24 ho base 38 i _ 3 32 underlying24 hi hz0 hz1 hz2 rfl (by decide) v us.length (zkD us) hs hrow ad l.length c (zkD l) hx (zoq l) (fun j u hj=>(hr.flat hj).1) (fun u hu=>?_) (by unfold maxLen;omega) (by omega) hb (fun v' w' h1 h2 _ h4=>h v' w' (by rw[List.length_append,zuC];exact h1) (Chg.row h2));obtain⟨j,hj⟩:=List.getElem?_of_mem hu;exact(hr.flat hj).2
theorem OwnN.chgC{w w':World}{base:Nat}{E:TypeId}{S C:Nat->Prop}{v:Value}{ts:List T}(h:OwnN w base E S v ts)(hc:Chg C w w')(hC:∀b,C b->¬ S b)(ho:∀b,v.ownBlock=some b->¬ C b):OwnN w' base E S v ts:=by
 obtain⟨xs,h1,h2,h3⟩:=h;refine⟨xs,znx h1 fun b hb=>hc.block b (h1.lt b hb).2 (ho b hb),h2,fun i hi=>?_⟩;obtain⟨u0,u1,u2,u3,g0,g1,g2,g3,hv⟩:=h3 i hi;exact⟨u0,u1,u2,u3,g0,g1,g2,g3,hv.keep (fun _ h _=>h) fun b hb hlt=>hc.block b hlt fun hcb=>hC b hcb hb.1⟩
theorem OwnN.laid0{w:World}{N0:Nat}{E:TypeId}{S:Nat->Prop}(hN:N0<=w.heap.size):OwnN (w.alloc (.cells #[] E)) N0 E S (.slice (some ⟨w.heap.size,0,none⟩) 0 0) [] :=
 ⟨[],⟨rfl,.inr ⟨w.heap.size,0,#[],rfl,hN,heap_alloc_new w _,zl,Nat.zero_le _,rfl,rfl⟩⟩,Nat.zero_le _,fun i hi=>absurd hi (Nat.not_lt_zero i)⟩
theorem zwe:(prog.info? 28).map (fun i=>(i.zero,i.size,i.bytes))=some (some (.agg #[.int .u8 0,.int .i64 0,.string ⟨#[]⟩,.slice none 0 0]),4,56):=by kernel_rfl
attribute [local go_sem] Oper.semAt_some
theorem zlC{ops:Array Oper}{rest:List Oper}{o:Oper}{a:Act}{W:World}{Q:Exit->Act->World->Prop}(hgd:o.guard=none)(s x:Operand)
  (ho:o.op=.call { callee:=.builtin .append,args := #[s,x],argTypes := #[26,26] }){N0:Nat}{S:Nat->Prop}(hN:N0<=W.heap.size){v:Value}{ts us:List T}{A:Option Addr}{m c:Nat}(hs:a.eval s=v)(hr:OwnN W N0 28 S v ts)(hm:us.length=m)(hx:a.eval x=.slice A m c)(hu:Src W (fun b=>S b/\some b≠v.ownBlock) A us)(hl:ts.length+us.length<=LK)
  (h:∀v' w',Chg (fun b=>v.ownBlock=some b) W w'->(∀b,v'.ownBlock=some b->(W.heap.size<=b\/v.ownBlock=some b)/\b<w'.heap.size)->OwnN w' N0 28 S v' (ts++us)->wpList prog ops Q rest (a.put o.dst v') w') :
  wpList prog ops Q (o::rest) a W:=by
 obtain⟨j,hj,hz0,hz1,hz2⟩:=info_parts zwe;subst hm;refine wpList_plain hgd fun K hK=>?_;obtain⟨v',w',hrun,g1,g2,g3⟩:=znL (P:=prog) (W:=W) 26 o.type 28 j _ underlying26 hj hz0 hz1 hz2 rfl N0 S v ts hr us A c hu hl hN;unfold Oper.wp execOp;simp only[ho,resolve,invoke,builtin,Sem.run_bind,Sem.run_pure,Result.andThen_ok,List.map_toArray,List.map_cons,List.map_nil,hs,hx,hrun];refine hK _ _ (h v' w' (Chg.row g2) (fun b hb=>⟨?_,(g1.block b hb).2⟩) g1);rcases g3 with e|e
 ·exact .inr (e▸hb)
 ·rw[e]at hb;injection hb with hb;exact .inl (by omega)
abbrev nmZ:ByteArray:=⟨#[122,122]⟩
abbrev vdZ:VD:=⟨nmZ,1,0⟩
abbrev setZ:T:=.nd 56 0 xO [.nd 2 0 nmZ [],.nd 1 1 xO []]
def addV(q:PG):PG:=⟨q.vs++[vdZ],q.prs,q.m⟩
def addM(q:PG)(ts:List T):PG:=⟨q.vs,q.prs,.nd q.m.k q.m.n q.m.s (q.m.ks++ts)⟩
def badE(e:EX):EX:={ e with pt:=0 }
theorem zu5(e:EX)(q:PG):admE (badE e) q=1:=by
 unfold admE;rw[if_neg];unfold zkV badE;simp
theorem zy4{w:World}{q:PG}{A1 A2 A3 B:Option Addr}{c1 c2 c3 d:Nat}(h:PgR w Any q A1 c1 A2 c2 A3 c3)(hl:q.vs.length<=6)(hr:RowV w Any B (q.vs++[vdZ]))(hd:(q.vs++[vdZ]).length<=d):PV w Any (addV q) (pv B (q.vs++[vdZ]).length d A2 q.prs.length c2 q.m.k q.m.n q.m.s A3 q.m.ks.length c3) :=
 ⟨B,d,A2,c2,A3,c3,rfl,⟨hr,(by show(q.vs++[vdZ]).length<=LV;simp[LV];omega),hd,h.procs,h.lp,h.lpc,h.main⟩⟩
theorem zy5{w:World}{q:PG}{ts:List T}{A1 A2 A3 B:Option Addr}{c1 c2 c3 d base:Nat}{E:TypeId}{S:Nat->Prop}(h:PgR w Any q A1 c1 A2 c2 A3 c3)(hr:OwnN w base E S (.slice B (q.m.ks++ts).length d) (q.m.ks++ts)):PV w Any (addM q ts) (pv A1 q.vs.length c1 A2 q.prs.length c2 q.m.k q.m.n q.m.s B (q.m.ks++ts).length d):=by
 obtain⟨A,c,e,hlc,hrow,-⟩:=hr.row;injection e with e1 e2 e3;subst e1 e3;obtain⟨-,-,-,hf,-⟩:=h.main.open_;obtain⟨xs,-,hlk,-⟩:=hr;exact⟨A1,c1,A2,c2,B,d,rfl,⟨h.vars,h.lv,h.lvc,h.procs,h.lp,h.lpc,NV.shut hf hlk hlc (hrow.keep (fun _ _ _=>trivial) fun _ _ _=>rfl)⟩⟩
theorem zKC(w:World):(Instr.buildSlice 26 0 #[]).run prog w=.ok (.slice (some ⟨w.heap.size,0,none⟩) 0 0) (w.alloc (.cells #[] 28)):=by kernel_rfl
theorem zKg{w:World}{E:TypeId}{sz:Nat}:(w.alloc (.cells #[] E)).ownsRow w.heap.size E sz (.slice (some ⟨w.heap.size,0,none⟩) 0 0) 0 [] :=
 ⟨by simp,.inr ⟨w.heap.size,0,#[],rfl,zl,heap_alloc_new w _,zl,Nat.zero_le _,by simp,by simp⟩⟩
def V1R(w9:World)(n9:Nat)(vs:List VD)(B1:Option Addr)(d1:Nat)(w11:World):Prop:=w11.ownsRow n9 38 3 (.slice B1 vs.length d1) vs.length (zkD vs)/\Below n9 w9 w11/\n9<=w11.heap.size
theorem vap1{w9 aM:World}{n9:Nat}{vs:List VD}(hn:w9.heap.size=n9)(hw:w9.alloc (.cells #[] 38)=aM){v1:Value}{w11:World}(ho:w11.ownsRow n9 38 3 v1 ([]++vs).length (zkD ([]++vs)))(hc:Chg (fun b=>(Value.slice (some ⟨n9,0,none⟩) 0 0).ownBlock=some b) aM w11):∃B1 d1,v1=.slice B1 vs.length d1/\Hid (V1R w9 n9 vs B1 d1 w11):=by
 rw[List.nil_append]at ho;obtain⟨B1,d1,rfl,-,-⟩:=zkg ho;have hb:Below n9 w9 aM:=by rw[<-hw,<-hn];exact zkb zr _
 have hz:n9<=aM.heap.size:=by rw[<-hw,<-hn];simp
 exact⟨B1,d1,rfl,zh ⟨ho,hb.trans (hc.below hz fun b hb=>by injection hb with hb;have hb:n9=b:=hb;omega),Nat.le_trans hz hc.size⟩⟩
def V2R(w9:World)(n9:Nat)(vs:List VD)(B2:Option Addr)(d2:Nat)(w13:World):Prop:=RowV w13 (fun b=>n9<=b) B2 vs/\vs.length<=d2/\Below n9 w9 w13
theorem vap2{w9:World}{n9 O n2:Nat}{vs:List VD}{us:Array Value}{E:TypeId}(hO:w9.heap[O]?=some (.cells us E (0,0)))(hOn:O<n9)(hf:∀v∈vs,FldV v)(hn2:(vs++[vdZ]).length=n2){B1:Option Addr}{d1:Nat}{w11:World}(h:Hid (V1R w9 n9 vs B1 d1 w11)){v2:Value}{w13:World}
  (ho:w13.ownsRow n9 38 3 v2 (vs++[vdZ]).length (zkD (vs++[vdZ])))(hc:Chg (fun b=>(Value.slice B1 vs.length d1).ownBlock=some b) (w11.alloc (.cells #[.string nmZ,.int .u8 1,.int .i64 0] 38)) w13):∃B2 d2,v2=.slice B2 n2 d2/\Hid (V2R w9 n9 (vs++[vdZ]) B2 d2 w13/\w13.heap[O]?=some (.cells us E (0,0))):=by
 have h1:w11.ownsRow n9 38 3 (.slice B1 vs.length d1) vs.length (zkD vs):=h.out.1;obtain⟨-,h2,h3⟩:=h.out;have hf2:∀v∈vs++[vdZ],FldV v:=fun v hv=>by
  rcases List.mem_append.1 hv with hv|hv
  ·exact hf v hv
  ·rw[List.mem_singleton.1 hv];exact⟨by decide,by decide,by decide⟩
 obtain⟨B2,d2,rfl,-,-⟩:=zkg ho;obtain⟨-,hd,hr⟩:=zvZ ho hf2;have hb:=h2.trans ((zkb (zs w11) (.cells #[.string nmZ,.int .u8 1,.int .i64 0] 38)).mono h3);have hb2:Below n9 w9 w13:=hb.trans (hc.below (Nat.le_trans h3 (by simp)) fun b hb=>(h1.lt b hb).1);exact⟨B2,d2,by rw[hn2],zh ⟨⟨hr,hd,hb2⟩,(hb2.block O hOn).trans hO⟩⟩
theorem rv1Z(w:World):RowV (w.alloc (.cells #[.string nmZ,.int .u8 1,.int .i64 0] 38)) Any (some ⟨w.heap.size,0,none⟩) [vdZ] :=
 zv0 (E:=38) (heap_alloc_new w (.cells #[.string nmZ,.int .u8 1,.int .i64 0] 38)) fun v hv=>by rw[List.mem_singleton.1 hv];exact⟨by decide,by decide,by decide⟩
def N1R(S:Nat->Prop)(w9:World)(n9:Nat)(ts:List T)(B1:Option Addr)(d1:Nat)(w11:World):Prop:=OwnN w11 n9 28 S (.slice B1 ts.length d1) ts/\(∀b,(Value.slice B1 ts.length d1).ownBlock=some b->b<w11.heap.size)/\Below n9 w9 w11/\n9<=w11.heap.size
theorem nap1{S:Nat->Prop}{w9 aM:World}{n9:Nat}{ts:List T}(hn:w9.heap.size=n9)(hw:w9.alloc (.cells #[] 28)=aM){v1:Value}{w11:World}(hc:Chg (fun b=>(Value.slice (some ⟨n9,0,none⟩) 0 0).ownBlock=some b) aM w11)(hb1:∀b,v1.ownBlock=some b->(aM.heap.size<=b\/(Value.slice (some ⟨n9,0,none⟩) 0 0).ownBlock=some b)/\b<w11.heap.size)(ho:OwnN w11 n9 28 S v1 ([]++ts)):∃B1 d1,v1=.slice B1 ts.length d1/\Hid (N1R S w9 n9 ts B1 d1 w11):=by
 rw[List.nil_append]at ho;obtain⟨B1,d1,rfl,-⟩:=ho.row;have hb:Below n9 w9 aM:=by rw[<-hw,<-hn];exact zkb zr _
 have hz:n9<=aM.heap.size:=by rw[<-hw,<-hn];simp
 exact⟨B1,d1,rfl,zh ⟨ho,fun b h=>(hb1 b h).2,hb.trans (hc.below hz fun b hb=>by injection hb with hb;have hb:n9=b:=hb;omega),Nat.le_trans hz hc.size⟩⟩
def N2R(S:Nat->Prop)(w9:World)(n9:Nat)(ts:List T)(B2:Option Addr)(d2:Nat)(w13:World):Prop:=OwnN w13 n9 28 S (.slice B2 ts.length d2) ts/\Below n9 w9 w13
theorem nap2{S:Nat->Prop}{w9:World}{n9 O n2:Nat}{ts us:List T}{cs:Array Value}{E:TypeId}(hO:w9.heap[O]?=some (.cells cs E (0,0)))(hOn:O<n9)(hn2:(ts++us).length=n2){B1:Option Addr}{d1:Nat}{w11 w12:World}(h:Hid (N1R S w9 n9 ts B1 d1 w11))(hb:Below w11.heap.size w11 w12){v2:Value}{w13:World}
  (hc:Chg (fun b=>(Value.slice B1 ts.length d1).ownBlock=some b) w12 w13)(ho:OwnN w13 n9 28 S v2 (ts++us)):∃B2 d2,v2=.slice B2 n2 d2/\Hid (N2R S w9 n9 (ts++us) B2 d2 w13/\w13.heap[O]?=some (.cells cs E (0,0))):=by
 obtain⟨h1,h4,h2,h3⟩:=h.out;obtain⟨B2,d2,rfl,-⟩:=ho.row;have hb2:Below n9 w9 w13:=(h2.trans (hb.mono h3)).trans (hc.below (Nat.le_trans h3 hb.size) fun b hb=>(h1.block b hb).1);exact⟨B2,d2,by rw[hn2],zh ⟨⟨ho,hb2⟩,(hb2.block O hOn).trans hO⟩⟩
theorem zvW{w:World}{M:Nat}{own:Option Nat}{S:Nat->Prop}(hSM:S M)(hM:w.heap.size=M)(ho:∀b,own=some b->b<M):Src ((w.alloc (.cells #[.int .u8 2,.int .i64 0,.string nmZ,.slice none 0 0,.int .u8 1,.int .i64 1,.string xO,.slice none 0 0] 28)).alloc (.cells #[.int .u8 56,.int .i64 0,.string xO,.slice (some ⟨M,0,none⟩) 2 2] 28)) (fun b=>S b/\some b≠own) (some ⟨M+1,0,none⟩) [setZ]:=by
 intro i hi;obtain rfl:i=0:=by simpa using hi
 have k1:=heap_alloc_new (w.alloc (.cells #[.int .u8 2,.int .i64 0,.string nmZ,.slice none 0 0,.int .u8 1,.int .i64 1,.string xO,.slice none 0 0] 28)) (.cells #[.int .u8 56,.int .i64 0,.string xO,.slice (some ⟨M,0,none⟩) 2 2] 28);have k0:=zkd (heap_alloc_new w (.cells #[.int .u8 2,.int .i64 0,.string nmZ,.slice none 0 0,.int .u8 1,.int .i64 1,.string xO,.slice none 0 0] 28)) (.cells #[.int .u8 56,.int .i64 0,.string xO,.slice (some ⟨M,0,none⟩) 2 2] 28);rw[World.size_alloc,hM]at k1;rw[hM]at k0;refine⟨⟨M+1,0,none⟩,_,_,_,_,rfl,⟨zc k1 rfl,zc k1 rfl,zc k1 rfl,zc k1 rfl⟩,?_⟩;exact zKc (fldG 56 0 (by decide) ⟨by decide,by decide⟩) ⟨hSM,fun e=>by have:=ho M e.symm;omega⟩ k0 (zn3 _ _ ⟨by decide,⟨by decide,by decide⟩,by decide⟩) (zn3 _ _ (fldG 1 1 (by decide) ⟨by decide,by decide⟩))
theorem zoP{W:World}{e:EX}{q:PG}{s:SS}{ev qv v:Value}(he:EV W Any e ev)(hq:PV W Any q qv)(h:SV W Any s v) :
  Calls prog 6 #[ev,qv,v] W fun en w'=>en=.returned (.bool true)/\Below W.heap.size W w':=by
 have iR:=zh (fun w' (hb:Below W.heap.size W w')=>he.later hb);have HQ:=zh (fun w' (hb:Below W.heap.size W w')=>hq.later hb);have HS:=zh (fun w' (hb:Below W.heap.size W w')=>h.later hb);obtain⟨A1,c1,A2,c2,A3,c3,rfl,hg,hI⟩:=he;obtain⟨D1,e1,D2,e2,D3,e3,rfl,iA⟩:=hq;have HG:=zh (fun w' (hb:Below W.heap.size W w')=>hg.later hb);have qR:=zh (fun w' (hb:Below W.heap.size W w')=>iA.later hb);have HI:=zh hI;obtain⟨As,cs,Bs,ds,Ds,es,rfl⟩:∃A c B d D e,v=.agg #[.slice A s.cells.length c,.slice B s.tin.length d,.slice D s.tout.length e]:=by
  obtain⟨A,c,B,d,D,e,h,-⟩:=h;exact⟨_,_,_,_,_,_,h⟩
 have hb2:=zkb (zkb (zkb (zs W) (.cells (exA e A1 c1 A2 c2 A3 c3) 32)) (.cells (pgA q D1 e1 D2 e2 D3 e3) 30)) (.cells #[.slice As s.cells.length cs,.slice Bs s.tin.length ds,.slice Ds s.tout.length es] 44);have k0:=zkd (zkd (heap_alloc_new W (.cells (exA e A1 c1 A2 c2 A3 c3) 32)) (.cells (pgA q D1 e1 D2 e2 D3 e3) 30)) (.cells #[.slice As s.cells.length cs,.slice Bs s.tin.length ds,.slice Ds s.tout.length es] 44);have k1:=zkd (heap_alloc_new (W.alloc (.cells (exA e A1 c1 A2 c2 A3 c3) 32)) (.cells (pgA q D1 e1 D2 e2 D3 e3) 30)) (.cells #[.slice As s.cells.length cs,.slice Bs s.tin.length ds,.slice Ds s.tout.length es] 44);have k2:=heap_alloc_new ((W.alloc (.cells (exA e A1 c1 A2 c2 A3 c3) 32)).alloc (.cells (pgA q D1 e1 D2 e2 D3 e3) 30)) (.cells #[.slice As s.cells.length cs,.slice Bs s.tin.length ds,.slice Ds s.tout.length es] 44)
 have hz2:(((W.alloc (.cells (exA e A1 c1 A2 c2 A3 c3) 32)).alloc (.cells (pgA q D1 e1 D2 e2 D3 e3) 30)).alloc (.cells #[.slice As s.cells.length cs,.slice Bs s.tin.length ds,.slice Ds s.tout.length es] 44)).heap.size=W.heap.size+3:=by simp
 simp only[World.size_alloc,Nat.add_assoc,Nat.reduceAdd]at k1 k2;obtain⟨w2,hw2⟩:=zX (((W.alloc (.cells (exA e A1 c1 A2 c2 A3 c3) 32)).alloc (.cells (pgA q D1 e1 D2 e2 D3 e3) 30)).alloc (.cells #[.slice As s.cells.length cs,.slice Bs s.tin.length ds,.slice Ds s.tout.length es] 44));obtain⟨N,hN⟩:=zX (W.heap.size);have HN:=zh hN;rw[hw2]at hb2 k0 k1 k2 hz2;rw[hN]at k0 k1 k2 hz2;have HB:=zh hb2;have HZ2:=zh hz2;have bF:=zh (fun w' (h:Below w2.heap.size w2 w')=>znb (zkc k0 h));have bB:=zh (fun w' (h:Below w2.heap.size w2 w')=>box6 (zkc k1 h));have wy:=zh (fun w' (h:Below w2.heap.size w2 w')=>zlG (zkc k2 h));have bH:=zh (zs w2);clear h hg hI iA hb2 k0 k1 k2 hz2;obtain⟨x0,x1,x2,x3,x4,x5,x6,x7,x8,x9,az,ay⟩:=bF.out _ bH.out;obtain⟨q0,q1,q2,q3,q4,q5⟩:=bB.out _ bH.out;go_enter func6,ntmps6;go_upto_region 1 with fail
 try simp only[Nat.add_assoc,Nat.reduceAdd]
 try rw[hw2]
 try rw[hN]
 try simp only[Nat.add_assoc,Nat.reduceAdd]
 clear hw2 hN;go_wp2_with fail;refine(zoE _).mono ?_;rintro en w3 ⟨rfl,hb3⟩;have aR:=zh (zka bH.out hb3);clear hb3;clear x0 x1 x2 x3 x4 x5 x6 x7 x8 x9 az ay q0 q1 q2 q3 q4 q5;obtain⟨x0,x1,x2,x3,x4,x5,x6,x7,x8,x9,az,ay⟩:=bF.out _ aR.out;obtain⟨q0,q1,q2,q3,q4,q5⟩:=bB.out _ aR.out;go_wp2_with fail;refine(zrk (iR.out _ (zka HB.out aR.out)) (HQ.out _ (zka HB.out aR.out))).mono ?_;rintro en w4 ⟨g1,rfl,hg1,hb4⟩;have vg:=zh hg1;have bq:=zh (zka aR.out hb4);clear hb4 hg1;clear x0 x1 x2 x3 x4 x5 x6 x7 x8 x9 az ay q0 q1 q2 q3 q4 q5;obtain⟨x0,x1,x2,x3,x4,x5,x6,x7,x8,x9,az,ay⟩:=bF.out _ bq.out;obtain⟨q0,q1,q2,q3,q4,q5⟩:=bB.out _ bq.out
 cases g1
 rotate_left 1
 ·skip
  go_wp2_with fail;refine(zoE _).mono ?_;rintro en wz ⟨rfl,hbz⟩;go_wp2_with fail;go_ret;exact⟨rfl,zka (zka HB.out bq.out) hbz⟩
 have bu:=zh (vg.out (by first|exact trivial|rfl));clear vg;go_wp2_with fail;refine(zmR (iR.out _ (zka HB.out bq.out)) (HQ.out _ (zka HB.out bq.out))).mono ?_;rintro en w5 ⟨rfl,hb5⟩;have bX:=zh (zka bq.out hb5);clear hb5;clear x0 x1 x2 x3 x4 x5 x6 x7 x8 x9 az ay q0 q1 q2 q3 q4 q5;obtain⟨x0,x1,x2,x3,x4,x5,x6,x7,x8,x9,az,ay⟩:=bF.out _ bX.out;obtain⟨q0,q1,q2,q3,q4,q5⟩:=bB.out _ bX.out;obtain⟨AD,fq⟩:=zX (admE e q);have HAD:=zh fq;rw[fq];clear fq;have oM:=zh (show ∀(q':PG) (zZ:Value) w',PV w' Any q' zZ->Below w2.heap.size w2 w'->Calls prog 13 #[.agg (exA e A1 c1 A2 c2 A3 c3),zZ] w' (GraP (if admE e q'=0 then grdE e q' else(false,0,nilS,0)) (admE e q') w')from fun q' zZ w' hp h =>
  zoJ (iR.out w' (zka HB.out h)) hp (fun _=>⟨bu.out.2.2.1,Nat.le_trans (zz2 bu.out.2.2.1 bu.out.2.2.2.1) (by decide),by have:=bu.out.2.1;omega⟩))
 have jQ:=zh (oM.out _ _ w5 (HQ.out _ (zka HB.out bX.out)) bX.out);rw[HAD.out]at jQ;go_wp2_with fail;refine jQ.out.mono ?_;rintro en w6 ⟨B1,b1,B2,b2,B3,b3,rfl,-,hb6⟩;have dn:=zh (zka bX.out hb6);obtain⟨RR,hRR⟩:=zX ((if AD=0 then grdE e q else(false,0,nilS,0)));rw[hRR];clear hRR hb6 jQ;clear x0 x1 x2 x3 x4 x5 x6 x7 x8 x9 az ay q0 q1 q2 q3 q4 q5;obtain⟨x0,x1,x2,x3,x4,x5,x6,x7,x8,x9,az,ay⟩:=bF.out _ dn.out;obtain⟨q0,q1,q2,q3,q4,q5⟩:=bB.out _ dn.out;go_upto_region 5 with fail;have dN:=zkb (zs w6) (.cells (vdA RR.1 (RR.2.1:Int) B1 RR.2.2.1.cells.length b1 B2 RR.2.2.1.tin.length b2 B3 RR.2.2.1.tout.length b3 RR.2.2.2) 46);obtain⟨w7,hw7⟩:=zX (w6.alloc (.cells (vdA RR.1 (RR.2.1:Int) B1 RR.2.2.1.cells.length b1 B2 RR.2.2.1.tin.length b2 B3 RR.2.2.1.tout.length b3 RR.2.2.2) 46));rw[hw7]at dN ⊢;have gU:=zh (zka dn.out dN);clear dN hw7
 clear x0 x1 x2 x3 x4 x5 x6 x7 x8 x9 az ay q0 q1 q2 q3 q4 q5;obtain⟨x0,x1,x2,x3,x4,x5,x6,x7,x8,x9,az,ay⟩:=bF.out _ gU.out;obtain⟨q0,q1,q2,q3,q4,q5⟩:=bB.out _ gU.out;obtain⟨y0,y1,y2⟩:=wy.out _ gU.out;have kv:=zh (zrA (iR.out _ (zka HB.out gU.out)) (HQ.out _ (zka HB.out gU.out)) (HS.out _ (zka HB.out gU.out)));obtain⟨⟨ib,ie⟩,hIV⟩:=zX (invE e q s);rw[hIV]at kv;simp only at kv;have wM:=zh hIV;clear hIV;go_wp2_with fail;refine kv.out.mono ?_;rintro en w8 ⟨rfl,eZ⟩;have nS:=zh (zka gU.out eZ);clear eZ kv y0 y1 y2;clear x0 x1 x2 x3 x4 x5 x6 x7 x8 x9 az ay q0 q1 q2 q3 q4 q5;obtain⟨x0,x1,x2,x3,x4,x5,x6,x7,x8,x9,az,ay⟩:=bF.out _ nS.out;obtain⟨q0,q1,q2,q3,q4,q5⟩:=bB.out _ nS.out;by_cases ha:AD=0;rotate_left 1
 ·have ha1:(AD != 0)=true:=by simpa using ha
  have bK:=wM.out;unfold invE at bK;rw[HAD.out,if_neg ha]at bK;injection bK with h1 h2;subst h1 h2;have dK:=zh (zka HB.out nS.out);clear ha wM;go_wp2_with fail;go_ret;exact⟨rfl,dK.out⟩
 subst ha;have ha1:((0:Int) != 0)=false:=by decide
 go_upto_region 9 with fail;have aT:=zkb (zs w8) (.cells (pgA q D1 e1 D2 e2 D3 e3) 30);have k9:=heap_alloc_new w8 (.cells (pgA q D1 e1 D2 e2 D3 e3) 30);obtain⟨w9,dF⟩:=zX (w8.alloc (.cells (pgA q D1 e1 D2 e2 D3 e3) 30));have oh:w9.heap.size=w8.heap.size+1:=by rw[<-dF];simp
 have hO8:=nS.out.size;obtain⟨O,hO⟩:=zX (w8.heap.size);rw[dF]at aT k9 ⊢;rw[hO]at k9 oh hO8 ⊢;have kD:=zh (zka nS.out aT);have iN:=zh k9;have BQ:=zh (show N+3<=O/\w9.heap.size=O+1 from⟨by have:=HZ2.out;omega,oh⟩);clear aT k9 dF oh hO hO8;clear x0 x1 x2 x3 x4 x5 x6 x7 x8 x9 az ay q0 q1 q2 q3 q4 q5;obtain⟨x0,x1,x2,x3,x4,x5,x6,x7,x8,x9,az,ay⟩:=bF.out _ kD.out;obtain⟨q0,q1,q2,q3,q4,q5⟩:=bB.out _ kD.out;obtain⟨n2,hn2⟩:=zX ((q.vs++[vdZ]).length);have aG:=zh hn2;obtain⟨n9,vN⟩:=zX (w9.heap.size);obtain⟨aM,bU⟩:=zX (w9.alloc (.cells #[] 38));have eF:=zh (show O<n9 by have:=BQ.out.2;omega);have hrow0:aM.ownsRow n9 38 3 (.slice (some ⟨n9,0,none⟩) 0 0) 0 []:=by rw[<-bU,<-vN];exact zKg
 have hs10:n9<=aM.heap.size:=by rw[<-bU,<-vN];simp
 have dh:Below w9.heap.size w9 aM:=by rw[<-bU];exact zkb zr _
 have hrD:=((qR.out _ (zka HB.out kD.out)).later dh).vars;have Cv:=zh (show ∀v∈q.vs,FldV v from fun v hv=>by
  obtain⟨i,hi,rfl⟩:=List.getElem_of_mem hv;obtain⟨_,_,_,_,hf⟩:=(qR.out _ (zka HB.out kD.out)).vars i hi;exact hf)
 have hl0:([]:List VD).length+q.vs.length<=1000000:=by have:=bu.out.2.2.2.2.2;simp;omega
 have hl1:q.vs.length+[vdZ].length<=1000000:=by have:=bu.out.2.2.2.2.2;simp;omega
 have jJ:=zh (fun v1 w11 ho hc=>vap1 (v1:=v1) (w11:=w11) (vs:=q.vs) vN bU ho hc);have bY:=zh (fun B1 d1 w11 h v2 w13 ho hc=>vap2 (B1:=B1) (d1:=d1) (w11:=w11) (v2:=v2) (w13:=w13) iN.out eF.out Cv.out hn2 h ho hc);have h1:=zuY;have h2:=bVdG;have h3:=bSVG;have qq:=(bB.out _ (zka kD.out dh)).1;clear hn2 dh
 go_upto_region 10 with(at_builtin;first|(refine zmk rfl (.tmp 56) (.tmp 58) rfl n9 (.slice (some ⟨n9,0,none⟩) 0 0) [] rfl hrow0 D1 q.vs q.vs.length e1 rfl rfl hrD hl0 hs10 ?_;intro v1 w11 ho1 hc1;obtain⟨B4,d4,rfl,HR4⟩:=jJ.out _ _ ho1 hc1;clear ho1 hc1)|(refine zmk rfl (.tmp 59) (.tmp 61) rfl n9 (.slice B4 q.vs.length d4) q.vs rfl (HR4.out.1.alloc _) (some ⟨w11.heap.size,0,none⟩) [vdZ] 1 1 rfl rfl (rv1Z w11) hl1 (Nat.le_trans HR4.out.2.2 (by simp)) ?_;intro v2 w13 ho2 hc2;obtain⟨B5,d5,rfl,fM⟩:=bY.out _ _ _ HR4 _ _ ho2 hc2;clear ho2 hc2;have qx:=zc fM.out.2 (i:=0) rfl;have cf:∀o,w13.frozen? ⟨O,o,none⟩=false:=fun o=>zf fM.out.2))
 obtain⟨we,rQ,hce,hhe⟩:=setU (o:=0) (.slice B5 n2 d5) fM.out.2;rw[rQ];have HHE:=zh hhe;have ma:=zh (show Below w2.heap.size w2 we from(kD.out.trans (fM.out.1.2.2.mono (by rw[<-vN];exact kD.out.size))).trans (hce.below (Nat.le_trans kD.out.size (Nat.le_trans (by rw[vN];exact zl) (by have:=fM.out.1.2.2.size;omega))) fun b (h:b=O)=>by have:=BQ.out;have:=HZ2.out;omega));have xR:=zh (show RowV we Any B5 (q.vs++[vdZ])/\(q.vs++[vdZ]).length<=d5 from⟨fM.out.1.1.keep (fun _ _ _=>trivial) fun b h hlt=>hce.block b hlt fun(e:b=O)=>by have h:n9<=b:=h;have:=eF.out;omega,fM.out.1.2.1⟩);have wK:=zh (fun w' (h:Below we.heap.size we w')=>box6 (zkc (show we.heap[O]?=some (.cells #[.slice B5 n2 d5,.slice D2 q.prs.length e2,.int .u8 q.m.k,.int .i64 q.m.n,.string q.m.s,.slice D3 q.m.ks.length e3] 30 (0,0))from HHE.out) h))
 have HPO:=zh (show ∀w',Below we.heap.size we w'->PV w' Any (addV q) (pv B5 n2 d5 D2 q.prs.length e2 q.m.k q.m.n q.m.s D3 q.m.ks.length e3)from fun w' h=>by
  have:=zy4 (qR.out _ (zka HB.out (zka ma.out h))) bu.out.2.2.2.2.2 (xR.out.1.later h) xR.out.2;rwa[aG.out]at this)
 have HZE:=zh (show O<we.heap.size from zkf HHE.out);clear rQ hce hhe fM jJ bY HR4 hrow0 hs10 hrD hl0 hl1 bU vN qq qx cf;clear x0 x1 x2 x3 x4 x5 x6 x7 x8 x9 az ay q0 q1 q2 q3 q4 q5;obtain⟨x0,x1,x2,x3,x4,x5,x6,x7,x8,x9,az,ay⟩:=bF.out _ ma.out;obtain⟨q0,q1,q2,q3,q4,q5⟩:=bB.out _ ma.out;go_upto_region 11 with fail;have hbf:=zkb (zs we) (.cells (pgA q D1 e1 D2 e2 D3 e3) 30);have kf:=heap_alloc_new we (.cells (pgA q D1 e1 D2 e2 D3 e3) 30);obtain⟨wf,hwf⟩:=zX (we.alloc (.cells (pgA q D1 e1 D2 e2 D3 e3) 30));have og:wf.heap.size=we.heap.size+1:=by rw[<-hwf];simp
 have BG:=HZE.out;obtain⟨L,hL⟩:=zX (we.heap.size);rw[hwf]at hbf kf ⊢;rw[hL]at kf og BG ⊢;have zz:=zh (zka ma.out hbf);have HEF:=zh hbf;have qy:=zh kf;have xJ:=zh (show O<L/\wf.heap.size=L+1/\N+3<=O/\we.heap.size=L from⟨BG,og,BQ.out.1,hL⟩);clear hbf kf hwf og BG hL;clear x0 x1 x2 x3 x4 x5 x6 x7 x8 x9 az ay q0 q1 q2 q3 q4 q5;obtain⟨n7,pq⟩:=zX ((q.m.ks++[setZ]).length);have yc:=zh pq;obtain⟨nf,hnf⟩:=zX (wf.heap.size);obtain⟨wg,hwg⟩:=zX (wf.alloc (.cells #[] 28));have yj:=zh (show L<nf by have:=xJ.out.2.1;omega);have hbg:Below wf.heap.size wf wg:=by rw[<-hwg];exact zkb zr _
 have hown0:OwnN wg nf 28 (fun b=>b≠L) (.slice (some ⟨nf,0,none⟩) 0 0) []:=by rw[<-hwg,<-hnf];exact OwnN.laid0 zl
 have hsg:nf<=wg.heap.size:=by rw[<-hwg,<-hnf];simp
 have hsrc:Src wg (fun b=>b≠L/\some b≠(Value.slice (some ⟨nf,0,none⟩) 0 0).ownBlock) D3 q.m.ks:=by
  obtain⟨A,c,e,-,-,-,hr⟩:=(qR.out _ (zka HB.out ma.out)).main.open_;injection e with e;simp only[Array.mk.injEq,List.cons.injEq,Value.slice.injEq,and_true,true_and]at e;obtain⟨rfl,-⟩:=e;have hz:=xJ.out;exact(hr.keep (S':=fun b=>b≠L/\some b≠(Value.slice (some ⟨nf,0,none⟩) 0 0).ownBlock) (w':=wg) (fun b _ hlt=>⟨by omega,fun e=>by injection e with e;have e:b=nf:=e;omega⟩) (fun b _ hlt=>(hbg.block b (by omega)).trans (HEF.out.block b hlt))).src
 have jJ:=zh (fun v1 w11 hc hb ho=>nap1 (S:=fun b=>b≠L) (v1:=v1) (w11:=w11) (ts:=q.m.ks) hnf hwg hc hb ho);have bY:=zh (fun B1 d1 w11 w12 h hb v2 w13 hc ho=>nap2 (S:=fun b=>b≠L) (us:=[setZ]) (B1:=B1) (d1:=d1) (w11:=w11) (w12:=w12) (v2:=v2) (w13:=w13) qy.out yj.out pq h hb hc ho);have qq:=(bB.out _ (zka zz.out hbg)).2.2.2.2.2;have h1:=zKC;have h2:=zzX;have h3:=bNkG;have h4:=zzY;clear pq hbg;have hl0:([]:List T).length+q.m.ks.length<=LK:=by have:=bu.out.2.2.2.2.1;simp[LK];omega
 have hl1:q.m.ks.length+[setZ].length<=LK:=by have:=bu.out.2.2.2.2.1;simp[LK];omega
 go_wp2_with (at_builtin;refine zlC rfl (.tmp 65) (.tmp 68) rfl (N0:=nf) hsg (v:=.slice (some ⟨nf,0,none⟩) 0 0) (ts:=[]) (us:=q.m.ks) rfl hown0 rfl rfl hsrc hl0 ?_;intro v1 wh hc1 hb1 ho1;obtain⟨B6,d6,rfl,di⟩:=jJ.out _ _ hc1 hb1 ho1;clear hc1 hb1 ho1)
 refine(zto _ _).mono ?_;rintro en wi ⟨rfl,hbi⟩;have yx:=zh hbi;clear hbi;go_wp2_with fail;refine(zqp _ _).mono ?_;rintro en wj ⟨rfl,hbj⟩;have zK:=zh (zka yx.out hbj);clear hbj hsrc hown0 hsg qq hwg hnf;obtain⟨M,hM⟩:=zX (wj.heap.size);have Co:=zh (show nf<=M/\(∀b,(Value.slice B6 q.m.ks.length d6).ownBlock=some b->b<M)from⟨by have:=di.out.2.2.2;have:=zK.out.size;omega,fun b hb=>by have:=di.out.2.1 b hb;have:=zK.out.size;omega⟩);have hoj:=OwnN.later di.out.1 zK.out;have hnm:nf<=wj.heap.size:=by rw[hM];exact Co.out.1
 go_upto_region 12 with(at_builtin;refine zlC rfl (.tmp 69) (.tmp 74) rfl (N0:=nf) (Nat.le_trans hnm (zkb (zkb zr _) _).size) (v:=.slice B6 q.m.ks.length d6) (ts:=q.m.ks) (us:=[setZ]) rfl (hoj.later (zkb (zkb zr _) _)) rfl rfl (zvW (S:=fun b=>b≠L) (by have:=Co.out.1;have:=yj.out;omega) hM Co.out.2) hl1 ?_;intro v2 wl hc2 hb2 ho2;obtain⟨B7,d7,rfl,eP⟩:=bY.out _ _ _ _ di (zka zK.out (zkb (zkb zr _) _)) _ _ hc2 ho2;clear hc2 hb2 ho2;have qx:=zc eP.out.2 (i:=5) rfl;have cf:∀o,wl.frozen? ⟨L,o,none⟩=false:=fun o=>zf eP.out.2)
 obtain⟨wm,oQ,hcm,hhm⟩:=setU (o:=5) (.slice B7 n7 d7) eP.out.2;rw[oQ];have HHM:=zh hhm;have hfl:Below nf wf wl:=eP.out.1.2;have hfm:Below L wf wm:=(hfl.mono (by have:=yj.out;omega)).trans (hcm.below (by have:=hfl.size;have:=yj.out;have:=xJ.out.2.1;omega) fun b (h:b=L)=>by omega);have qB:=zh (show Below we.heap.size we wm from HEF.out.trans (by rw[xJ.out.2.2.2];exact hfm));have HCM:=zh (zka ma.out qB.out);have jf:=zh (fun w' (h:Below wm.heap.size wm w')=>box6 (zkc (show wm.heap[L]?=some (.cells #[.slice D1 q.vs.length e1,.slice D2 q.prs.length e2,.int .u8 q.m.k,.int .i64 q.m.n,.string q.m.s,.slice B7 n7 d7] 30 (0,0))from HHM.out) h));have HOM:=zh (OwnN.chgC eP.out.1.1 hcm (fun b (hb:b=L) hs=>hs hb) (fun b hb (h:b=L)=>by have:=(eP.out.1.1.block b hb).1;have:=yj.out;omega))
 have qU:=zh (show ∀w',Below wm.heap.size wm w'->PV w' Any (addM q [setZ]) (pv D1 q.vs.length e1 D2 q.prs.length e2 q.m.k q.m.n q.m.s B7 n7 d7)from fun w' h=>by
  have:=zy5 (qR.out _ (zka HB.out (zka HCM.out h))) (HOM.out.later h);rwa[yc.out]at this)
 clear oQ hcm hhm eP di jJ bY hfl hfm qx cf hnm hoj hl0 hl1 hM h1 h2 h3 h4;have zx:=zh (zs wm);obtain⟨x0,x1,x2,x3,x4,x5,x6,x7,x8,x9,az,ay⟩:=bF.out _ (zka HCM.out zx.out);obtain⟨q0,q1,q2,q3,q4,q5⟩:=bB.out _ (zka HCM.out zx.out);obtain⟨o0,o1,o2,o3,o4,o5⟩:=wK.out _ (zka qB.out zx.out);obtain⟨l0,l1,l2,l3,l4,l5⟩:=jf.out _ zx.out;go_upto_region 13 with fail;have hbn:=zkb (zs wm) (.cells (exA e A1 c1 A2 c2 A3 c3) 32);have kn:=heap_alloc_new wm (.cells (exA e A1 c1 A2 c2 A3 c3) 32);obtain⟨wn,hwn⟩:=zX (wm.alloc (.cells (exA e A1 c1 A2 c2 A3 c3) 32));obtain⟨X,hX⟩:=zX (wm.heap.size);rw[hwn]at hbn kn ⊢;rw[hX]at kn ⊢;obtain⟨u0,u1,u2,u3,u4,u5,u6,u7,u8,u9,mi,mh⟩:=znb kn;have cfn:∀o,wn.frozen? ⟨X,o,none⟩=false:=fun o=>zf kn;obtain⟨wo,hwo,hco,hho⟩:=setU (o:=1) (.int .i64 0) kn;have pR:Below wm.heap.size wm wo:=hbn.trans (hco.below hbn.size fun b (h:b=X)=>by omega)
 have bM:=zh pR;have xM:=zh (fun w' (h:Below wo.heap.size wo w')=>znb (e:=badE e) (zkc (show wo.heap[X]?=some (.cells (exA (badE e) A1 c1 A2 c2 A3 c3) 32 (0,0))from hho) h));have HEB:=zh (show ∀w',Below W.heap.size W w'->EV w' Any (badE e) (.agg (exA (badE e) A1 c1 A2 c2 A3 c3))from fun w' hb=>⟨A1,c1,A2,c2,A3,c3,rfl,HG.out w' hb,HI.out⟩);clear hbn kn hwn hX hco hho pR;clear x0 x1 x2 x3 x4 x5 x6 x7 x8 x9 az ay q0 q1 q2 q3 q4 q5 o0 o1 o2 o3 o4 o5 l0 l1 l2 l3 l4 l5;go_upto_region 14 with fail
 try rw[hwo]
 clear hwo u0 u1 u2 u3 u4 u5 u6 u7 u8 u9 mi mh cfn;have wQ:=zh (zs wo);obtain⟨RO,hRO⟩:=zX (admE e (addV q));obtain⟨RL,hRL⟩:=zX (admE e (addM q [setZ]));have y9:=zh hRO;have lV:=zh hRL;clear hRO hRL;obtain⟨x0,x1,x2,x3,x4,x5,x6,x7,x8,x9,az,ay⟩:=bF.out _ (zka HCM.out (zka bM.out wQ.out));obtain⟨q0,q1,q2,q3,q4,q5⟩:=bB.out _ (zka HCM.out (zka bM.out wQ.out));obtain⟨o0,o1,o2,o3,o4,o5⟩:=wK.out _ (zka qB.out (zka bM.out wQ.out));obtain⟨l0,l1,l2,l3,l4,l5⟩:=jf.out _ (zka bM.out wQ.out);obtain⟨u0,u1,u2,u3,u4,u5,u6,u7,u8,u9,mi,mh⟩:=xM.out _ wQ.out;have jQ:=zh (oM.out _ _ wo (HPO.out _ (zka qB.out bM.out)) (zka HCM.out bM.out));rw[y9.out]at jQ;go_wp2_with fail;refine jQ.out.mono ?_;rintro en wp ⟨Fa,fa,Fb,fb,Fc,fc,rfl,-,hbz⟩;have HEP:=zh (zka wQ.out hbz);obtain⟨V1,hV1⟩:=zX ((if RO=0 then grdE e (addV q)else(false,0,nilS,0)));rw[hV1]
 clear hV1 hbz jQ;clear x0 x1 x2 x3 x4 x5 x6 x7 x8 x9 az ay q0 q1 q2 q3 q4 q5 o0 o1 o2 o3 o4 o5 l0 l1 l2 l3 l4 l5 u0 u1 u2 u3 u4 u5 u6 u7 u8 u9 mi mh;go_upto_region 15 with fail;have hby:=zkb (zs wp) (.cells (vdA V1.1 (V1.2.1:Int) Fa V1.2.2.1.cells.length fa Fb V1.2.2.1.tin.length fb Fc V1.2.2.1.tout.length fc V1.2.2.2) 46);obtain⟨wq,hwq⟩:=zX (wp.alloc (.cells (vdA V1.1 (V1.2.1:Int) Fa V1.2.2.1.cells.length fa Fb V1.2.2.1.tin.length fb Fc V1.2.2.1.tout.length fc V1.2.2.2) 46));rw[hwq]at hby ⊢;have dX:=zh (zka HEP.out hby);clear hby hwq;obtain⟨x0,x1,x2,x3,x4,x5,x6,x7,x8,x9,az,ay⟩:=bF.out _ (zka HCM.out (zka bM.out dX.out));obtain⟨q0,q1,q2,q3,q4,q5⟩:=bB.out _ (zka HCM.out (zka bM.out dX.out));obtain⟨o0,o1,o2,o3,o4,o5⟩:=wK.out _ (zka qB.out (zka bM.out dX.out));obtain⟨l0,l1,l2,l3,l4,l5⟩:=jf.out _ (zka bM.out dX.out)
 obtain⟨u0,u1,u2,u3,u4,u5,u6,u7,u8,u9,mi,mh⟩:=xM.out _ dX.out;have jQ:=zh (oM.out _ _ wq (qU.out _ (zka bM.out dX.out)) (zka HCM.out (zka bM.out dX.out)));rw[lV.out]at jQ;go_wp2_with fail;refine jQ.out.mono ?_;rintro en wr ⟨Fa,fa,Fb,fb,Fc,fc,rfl,-,hbz⟩;have wP:=zh (zka dX.out hbz);obtain⟨V2,hV2⟩:=zX ((if RL=0 then grdE e (addM q [setZ])else(false,0,nilS,0)));rw[hV2];clear hV2 hbz jQ;clear x0 x1 x2 x3 x4 x5 x6 x7 x8 x9 az ay q0 q1 q2 q3 q4 q5 o0 o1 o2 o3 o4 o5 l0 l1 l2 l3 l4 l5 u0 u1 u2 u3 u4 u5 u6 u7 u8 u9 mi mh;go_upto_region 16 with fail;have hby:=zkb (zs wr) (.cells (vdA V2.1 (V2.2.1:Int) Fa V2.2.2.1.cells.length fa Fb V2.2.2.1.tin.length fb Fc V2.2.2.1.tout.length fc V2.2.2.2) 46);obtain⟨ws,hws⟩:=zX (wr.alloc (.cells (vdA V2.1 (V2.2.1:Int) Fa V2.2.2.1.cells.length fa Fb V2.2.2.1.tin.length fb Fc V2.2.2.1.tout.length fc V2.2.2.2) 46));rw[hws]at hby ⊢
 have rA:=zh (zka wP.out hby);clear hby hws;obtain⟨x0,x1,x2,x3,x4,x5,x6,x7,x8,x9,az,ay⟩:=bF.out _ (zka HCM.out (zka bM.out rA.out));obtain⟨q0,q1,q2,q3,q4,q5⟩:=bB.out _ (zka HCM.out (zka bM.out rA.out));obtain⟨o0,o1,o2,o3,o4,o5⟩:=wK.out _ (zka qB.out (zka bM.out rA.out));obtain⟨l0,l1,l2,l3,l4,l5⟩:=jf.out _ (zka bM.out rA.out);obtain⟨u0,u1,u2,u3,u4,u5,u6,u7,u8,u9,mi,mh⟩:=xM.out _ rA.out;have jQ:=zh (zoJ (HEB.out ws (zka HB.out (zka HCM.out (zka bM.out rA.out)))) (HQ.out ws (zka HB.out (zka HCM.out (zka bM.out rA.out)))) (fun h=>by rw[zu5]at h;cases h));rw[zu5]at jQ;go_wp2_with fail;refine jQ.out.mono ?_;rintro en wt ⟨Fa,fa,Fb,fb,Fc,fc,rfl,-,hbz⟩;have HET:=zh (zka rA.out hbz);obtain⟨V3,yO⟩:=zX ((if (1:Int)=0 then grdE (badE e) q else(false,0,nilS,0)));rw[yO];clear yO hbz jQ
 clear x0 x1 x2 x3 x4 x5 x6 x7 x8 x9 az ay q0 q1 q2 q3 q4 q5 o0 o1 o2 o3 o4 o5 l0 l1 l2 l3 l4 l5 u0 u1 u2 u3 u4 u5 u6 u7 u8 u9 mi mh;go_upto_region 17 with fail;have hby:=zkb (zs wt) (.cells (vdA V3.1 (V3.2.1:Int) Fa V3.2.2.1.cells.length fa Fb V3.2.2.1.tin.length fb Fc V3.2.2.1.tout.length fc V3.2.2.2) 46);obtain⟨wu,hwu⟩:=zX (wt.alloc (.cells (vdA V3.1 (V3.2.1:Int) Fa V3.2.2.1.cells.length fa Fb V3.2.2.1.tin.length fb Fc V3.2.2.1.tout.length fc V3.2.2.2) 46));rw[hwu]at hby ⊢;have ru:=zh (zka HET.out hby);clear hby hwu;obtain⟨x0,x1,x2,x3,x4,x5,x6,x7,x8,x9,az,ay⟩:=bF.out _ (zka HCM.out (zka bM.out ru.out));obtain⟨q0,q1,q2,q3,q4,q5⟩:=bB.out _ (zka HCM.out (zka bM.out ru.out));obtain⟨o0,o1,o2,o3,o4,o5⟩:=wK.out _ (zka qB.out (zka bM.out ru.out));obtain⟨l0,l1,l2,l3,l4,l5⟩:=jf.out _ (zka bM.out ru.out)
 obtain⟨u0,u1,u2,u3,u4,u5,u6,u7,u8,u9,mi,mh⟩:=xM.out _ ru.out;have lW:=zh (zmR (iR.out wu (zka HB.out (zka HCM.out (zka bM.out ru.out)))) (HPO.out wu (zka qB.out (zka bM.out ru.out))));rw[y9.out]at lW;go_wp2_with fail;refine lW.out.mono ?_;rintro en wv ⟨rfl,hbv⟩;have rq:=zh (zka ru.out hbv);clear hbv lW;clear x0 x1 x2 x3 x4 x5 x6 x7 x8 x9 az ay q0 q1 q2 q3 q4 q5 o0 o1 o2 o3 o4 o5 l0 l1 l2 l3 l4 l5 u0 u1 u2 u3 u4 u5 u6 u7 u8 u9 mi mh;obtain⟨x0,x1,x2,x3,x4,x5,x6,x7,x8,x9,az,ay⟩:=bF.out _ (zka HCM.out (zka bM.out rq.out));obtain⟨q0,q1,q2,q3,q4,q5⟩:=bB.out _ (zka HCM.out (zka bM.out rq.out));obtain⟨o0,o1,o2,o3,o4,o5⟩:=wK.out _ (zka qB.out (zka bM.out rq.out));obtain⟨l0,l1,l2,l3,l4,l5⟩:=jf.out _ (zka bM.out rq.out);obtain⟨u0,u1,u2,u3,u4,u5,u6,u7,u8,u9,mi,mh⟩:=xM.out _ rq.out
 have lW:=zh (zmR (iR.out wv (zka HB.out (zka HCM.out (zka bM.out rq.out)))) (qU.out wv (zka bM.out rq.out)));rw[lV.out]at lW;go_wp2_with fail;refine lW.out.mono ?_;rintro en ww ⟨rfl,hbw⟩;have dK:=zh (zka HB.out (zka HCM.out (zka bM.out (zka rq.out hbw))));clear hbw lW;clear x0 x1 x2 x3 x4 x5 x6 x7 x8 x9 az ay q0 q1 q2 q3 q4 q5 o0 o1 o2 o3 o4 o5 l0 l1 l2 l3 l4 l5 u0 u1 u2 u3 u4 u5 u6 u7 u8 u9 mi mh;go_wp2_with fail;go_ret;exact⟨rfl,dK.out⟩
end
section
open Go.RowKit Go.ChangeShapes Go.WideShapes Go.ChangeAt Go.Deep
theorem zng:prog.cellsOf 28=4:=by kernel_rfl
theorem zuX:prog.bytesOf 28=56:=by kernel_rfl
theorem zyI:prog.cellsOf 5=1:=by kernel_rfl
theorem zsh:prog.cellsOf 3=1:=by kernel_rfl
theorem zwU:prog.cellsOf 9=1:=by kernel_rfl
theorem zuW:prog.cellsOf 26=1:=by kernel_rfl
theorem zlZ{H:Type}{P:Program}{e:TypeId}:∀ {l:List (DataW H)} {d:DataW H},d∈l->∀n∈d.weights P e,n∈DataW.weightsAll P e l
 | d0::l,d,hd,n,hn=>by
  simp only[DataW.weightsAll,List.mem_append];rcases List.mem_cons.1 hd with rfl|hd
  ·exact .inl hn
  ·exact .inr (zlZ hd n hn)
theorem zm1{H:Type}:∀(ks:List T) (ds:List (DataW H)),ks.length=ds.length->(∀i (h:i<ks.length) (h':i<ds.length),size ks[i]<=Rows.uptoBulk ds[i])->zkU ks<=Rows.uptoBulkAll ds
 | [],[],_,_=>by simp[zkU]
 | t::ts,d::ds,hl,h=>by
  have h0:=h 0 (Nat.zero_lt_succ _) (Nat.zero_lt_succ _);have h1:=zm1 ts ds (by simpa using hl) (fun i hi hi'=>h (i+1) (Nat.succ_lt_succ hi) (Nat.succ_lt_succ hi'));simp only[List.getElem_cons_zero]at h0;simp only[zkU,Rows.uptoBulkAll];omega
 | [],_::_,hl,_=>by simp at hl
 | _::_,[],hl,_=>by simp at hl
section
variable {H:Type} {enc:TypeId×Value->H} {w:World} {held:Bool}
def zeroT':T:=.nd 0 0 ⟨#[]⟩ []
theorem zqn:∀(fuel:Nat) (cs:List Value) (x:DataW H×List MemPlace),DataW.trod enc prog w 0 (fun _=>true) held fuel 28 cs=some x ->
  (∀n∈x.1.weights prog 28,n<=reachBytes) ->
  ∃t u0 u1 u2 u3,cs=[u0,u1,u2,u3]/\NV w Any t (.agg #[u0,u1,u2,u3])/\t.ks.length*56<=reachBytes/\size t<=Rows.uptoBulk x.1:=by
 intro fuel
 induction fuel using Nat.strongRecOn with
 | _ fuel ih =>
 intro cs x h hw;have hts:=DataW.trod_struct underlying28 h;obtain⟨xs,n,hfu,hx,hcl,hxl,hg⟩:=hts;subst hx;rw[zng]at hcl
 match cs,hcl with
 | [c0,c1,c2,c3],_ =>
 match xs,hxl with
 | [y0,y1,y2,y3],_ =>
 have g0:=hg 0 _ rfl;have g1:=hg 1 _ rfl;have g2:=hg 2 _ rfl;have g3:=hg 3 _ rfl;simp only[zyI,zsh,zwU,zuW,List.drop_zero,List.take_succ_cons,List.take_zero,List.drop_succ_cons,List.getElem?_cons_zero,List.getElem?_cons_succ]at g0 g1 g2 g3;obtain⟨k,e0,e0',wk⟩:=DataW.trod_int underlying5 g0;obtain⟨m,e1,BO,wm⟩:=DataW.trod_int underlying3 g1;obtain⟨s,e2,e2',ws⟩:=DataW.trod_string underlying9 g2;injection e0 with e0;injection e1 with e1;injection e2 with e2;subst e0 e1 e2 e0' BO e2';have hf:Fld k m s:=by
  refine⟨?_,?_,ws⟩
  ·have:=wk;simp[Lit.wf,IntKind.min,IntKind.max,IntKind.signed,IntKind.bits]at this;omega
  ·have:=wm;simp[Lit.wf,IntKind.min,IntKind.max,IntKind.signed,IntKind.bits]at this;omega
 have hsl:=DataW.trod_slice underlying26 g3;rcases hsl with⟨e3,e3'⟩|⟨a,len,cap,elems,rest,n',hn',e3,e3',_,hl,hm,hel,hat,hsp,_⟩
 ·injection e3 with e3;subst e3 e3';refine⟨.nd k m s [],_,_,_,_,rfl,NV.shut (ks:=[]) hf (Nat.zero_le _) (Nat.zero_le _) zkP.nil,by simp,?_⟩;simp only[size,zkU,List.map_cons,List.map_nil,Rows.uptoBulk];omega
 ·injection e3 with e3;subst e3 e3';obtain⟨hrl,_⟩:=hsp rfl;rw[zng]at hat
  -- what the reach says of this slice,and of its elements
  have hws:∀q∈DataW.weights prog 26 (.slice (elems.map (·.1)) (rest.map (·.1)):DataW H),q<=reachBytes:=by
   intro q hq;refine hw q ?_;simp only[List.map_cons,List.map_nil,DataW.weights,underlying28];simp only[DataW.weightsEach,List.map_cons,List.map_nil,List.mem_append];exact .inr (.inr (.inr (.inl hq)))
  simp only[DataW.weights,underlying26,zuX]at hws;have hcap:cap*56<=reachBytes:=by
   have:=hws _ (List.mem_cons_self ..);simp only[List.length_map]at this;rw[hel,hrl]at this;rw[show cap=len+(cap-len) by omega];exact this
  have rQ:∀y∈elems,∀q∈y.1.weights prog 28,q<=reachBytes:=fun y hy q hq =>
   hws q (List.mem_cons_of_mem _ (List.mem_append_left _ (zlZ (List.mem_map_of_mem hy) q hq)))
  have key:∀i (hi:i<elems.length),∃t u0 u1 u2 u3,w.cells? 0 (a.add (i*4)) 4=some [u0,u1,u2,u3]/\NV w Any t (.agg #[u0,u1,u2,u3])/\size t<=Rows.uptoBulk elems[i].1:=by
   intro i hi;have h1:=hat i (by omega);rw[List.getElem?_eq_getElem hi]at h1;obtain⟨cs',hcs,ht⟩:=Option.bind_eq_some_iff.1 h1;obtain⟨t,u0,u1,u2,u3,rfl,hn,_,hb⟩:=ih n' (by omega) cs' elems[i] ht (rQ _ (List.getElem_mem hi));exact⟨t,u0,u1,u2,u3,hcs,hn,hb⟩
  have hex:∃ks:List T,ks.length=elems.length/\∀i (h:i<ks.length) (h':i<elems.length),(∃u0 u1 u2 u3,w.cells? 0 (a.add (i*4)) 4=some [u0,u1,u2,u3]/\NV w Any ks[i] (.agg #[u0,u1,u2,u3]))/\size ks[i]<=Rows.uptoBulk elems[i].1:=by
   classical
   refine⟨(List.range elems.length).map fun i=>if h:i<elems.length then(key i h).choose else zeroT',by simp,fun i h h'=>?_⟩;simp only[List.getElem_map,List.getElem_range,h',dif_pos];obtain⟨u0,u1,u2,u3,h1,h2,h3⟩:=(key i h').choose_spec;exact⟨⟨u0,u1,u2,u3,h1,h2⟩,h3⟩
  obtain⟨ks,hkl,hks⟩:=hex;have hlen:ks.length=len:=by omega
  have hLK:ks.length<=LK:=by unfold LK;unfold reachBytes at hcap;omega
  refine⟨.nd k m s ks,_,_,_,_,rfl,?_,?_,?_⟩
  ·rw[<-hlen];refine NV.shut hf hLK (by omega) fun i hi=>?_;obtain⟨⟨u0,u1,u2,u3,hc,hn⟩,_⟩:=hks i hi (by omega);obtain⟨_,_,hcell⟩:=World.cells?_some hc;refine⟨a,u0,u1,u2,u3,rfl,trivial,⟨?_,?_,?_,?_⟩,hn⟩
   ·have:=hcell 0 (by omega);simpa[Addr.add]using this
   ·have:=hcell 1 (by omega);simpa[Addr.add]using this
   ·have:=hcell 2 (by omega);simpa[Addr.add]using this
   ·have:=hcell 3 (by omega);simpa[Addr.add]using this
  ·simp only[T.ks_nd];omega
  ·have hb:=zm1 ks (elems.map (·.1)) (by simp[hkl]) (fun i h h'=>by
    have:=(hks i h (by simpa using h')).2;simpa using this)
   simp only[size,List.map_cons,List.map_nil,Rows.uptoBulk,Rows.uptoBulkAll];omega
end
theorem Tryz.own:ownKnob prog.godebug=none:=by kernel_rfl
theorem Tryz.laidOut:laidOutB prog=true:=by kernel_rfl
theorem zuT:prog.cellsOf 38=3:=by kernel_rfl
theorem zyK:prog.bytesOf 38=32:=by kernel_rfl
section
variable {H:Type} {enc:TypeId×Value->H} {w:World} {held:Bool}
theorem znS{ty E:TypeId}{n b:Nat}(ht:prog.underlying ty=some (.slice E))(hc:prog.cellsOf E=n)(hb:prog.bytesOf E=b){fuel:Nat}{cs:List Value}{x:DataW H×List MemPlace}
  (h:DataW.trod enc prog w 0 (fun _=>true) held fuel ty cs=some x)(hw:∀q∈x.1.weights prog ty,q<=reachBytes) :
  cs=[.slice none 0 0]\/∃a len cap,cs=[.slice (some a) len cap]/\len<=cap/\cap*b<=reachBytes/\∀i,i<len->∃cs' y n',w.cells? 0 (a.add (i*n)) n=some cs'/\DataW.trod enc prog w 0 (fun _=>true) held n' E cs'=some y/\∀q∈y.1.weights prog E,q<=reachBytes:=by
 have hsl:=DataW.trod_slice ht h;rcases hsl with⟨e3,e3'⟩|⟨a,len,cap,elems,rest,n',hn',e3,e3',_,hl,hm,hel,hat,hsp,_⟩
 ·exact .inl e3
 ·refine .inr ⟨a,len,cap,e3,hl,?_,?_⟩
  ·obtain⟨hrl,_⟩:=hsp rfl;subst e3';simp only[DataW.weights,ht,hb]at hw;have:=hw _ (List.mem_cons_self ..);simp only[List.length_map]at this;rw[hel,hrl]at this;rw[show cap=len+(cap-len) by omega];exact this
  ·intro i hi;subst e3';simp only[DataW.weights,ht,hb]at hw;have hi':i<elems.length:=by omega
   have h1:=hat i (by omega);rw[List.getElem?_eq_getElem hi',hc]at h1;obtain⟨cs',hcs,ht'⟩:=Option.bind_eq_some_iff.1 h1;exact⟨cs',elems[i],n',hcs,ht',fun q hq=>hw q (List.mem_cons_of_mem _ (List.mem_append_left _ (zlZ (List.mem_map_of_mem (List.getElem_mem hi')) q hq)))⟩
theorem zyc{fuel:Nat}{cs:List Value}{x:DataW H×List MemPlace}(h:DataW.trod enc prog w 0 (fun _=>true) held fuel 38 cs=some x) :
  ∃v:VD,cs=[.string v.s,.int .u8 v.k,.int .i64 v.n]/\FldV v:=by
 have hts:=DataW.trod_struct underlying38 h;obtain⟨xs,n,hfu,hx,hcl,hxl,hg⟩:=hts;rw[zuT]at hcl
 match cs,hcl with
 | [c0,c1,c2],_ =>
 match xs,hxl with
 | [y0,y1,y2],_ =>
 have g0:=hg 0 _ rfl;have g1:=hg 1 _ rfl;have g2:=hg 2 _ rfl;obtain⟨s,e2,e2',ws⟩:=DataW.trod_string underlying9 g0;obtain⟨k,e0,e0',wk⟩:=DataW.trod_int underlying5 g1;obtain⟨m,e1,BO,wm⟩:=DataW.trod_int underlying3 g2;injection e0 with e0;injection e1 with e1;injection e2 with e2;subst e0 e1 e2;refine⟨⟨s,k,m⟩,rfl,ws,?_,?_⟩
 ·have:=wk;simp[Lit.wf,IntKind.min,IntKind.max,IntKind.signed,IntKind.bits]at this;constructor<;>simp only<;>omega
 ·have:=wm;simp[Lit.wf,IntKind.min,IntKind.max,IntKind.signed,IntKind.bits]at this;constructor<;>simp only<;>omega
theorem zmj{α:Type}[Inhabited α]{n:Nat}{P:Nat->α->Prop}(h:∀i,i<n->∃x,P i x):∃l:List α,l.length=n/\∀i (hi:i<l.length),P i l[i]:=by
 obtain⟨f,hf⟩:=choose_lt h;exact⟨(List.range n).map f,by simp,fun i hi=>by simp only[List.getElem_map,List.getElem_range];exact hf i (by simpa using hi)⟩
instance:Inhabited VD:=⟨⟨⟨#[]⟩,0,0⟩⟩
theorem zsE{fuel:Nat}{cs:List Value}{x:DataW H×List MemPlace}(h:DataW.trod enc prog w 0 (fun _=>true) held fuel 24 cs=some x)(hw:∀q∈x.1.weights prog 24,q<=reachBytes) :
  ∃(A:Option Addr) (vs:List VD) (c:Nat),cs=[.slice A vs.length c]/\RowV w Any A vs/\vs.length<=4398046510976/\vs.length<=c:=by
 rcases znS underlying24 zuT zyK h hw with rfl|⟨a,len,cap,rfl,hl,hcap,hat⟩
 ·exact⟨none,[],0,rfl,fun i hi=>absurd hi (by simp),Nat.zero_le _,Nat.zero_le _⟩
 ·obtain⟨vs,hvl,hvs⟩:=zmj (n:=len) (P:=fun i (v:VD)=>w.cells? 0 (a.add (i*3)) 3=some [.string v.s,.int .u8 v.k,.int .i64 v.n]/\FldV v) fun i hi=>by
   obtain⟨cs',y,n',hcs,ht,_⟩:=hat i hi;obtain⟨v,rfl,hf⟩:=zyc ht;exact⟨v,hcs,hf⟩
  refine⟨some a,vs,cap,by rw[hvl],fun i hi=>?_,by unfold reachBytes at hcap;omega,by omega⟩;obtain⟨hc,hf⟩:=hvs i hi;obtain⟨_,_,hcell⟩:=World.cells?_some hc;refine⟨a,rfl,trivial,⟨?_,?_,?_⟩,hf⟩
  ·have:=hcell 0 (by omega);simpa[Addr.add]using this
  ·have:=hcell 1 (by omega);simpa[Addr.add]using this
  ·have:=hcell 2 (by omega);simpa[Addr.add]using this
theorem zql{fuel:Nat}{cs:List Value}{x:DataW H×List MemPlace}(h:DataW.trod enc prog w 0 (fun _=>true) held fuel 24 cs=some x)(hw:∀q∈x.1.weights prog 24,q<=reachBytes) :
  ∃(A:Option Addr) (vs:List VD) (c:Nat),cs=[.slice A vs.length c]/\RowV w Any A vs/\vs.length<=LV/\vs.length<=c:=by
 obtain⟨A,vs,c,h1,h2,h3,h4⟩:=zsE h hw;exact⟨A,vs,c,h1,h2,by unfold LV;omega,h4⟩
instance:Inhabited T:=⟨zeroT'⟩
theorem zr0{t:T}{u0 u1 u2 u3:Value}(h:NV w Any t (.agg #[u0,u1,u2,u3])):∃A c,u0=.int .u8 t.k/\u1=.int .i64 t.n/\u2=.string t.s/\u3=.slice A t.ks.length c/\NV w Any t (nv t.k t.n t.s A t.ks.length c):=by
 obtain⟨A,c,e,_⟩:=h.open_;have e':=e;simp only[nv,Value.agg.injEq,Array.mk.injEq,List.cons.injEq,and_true]at e;exact⟨A,c,e.1,e.2.1,e.2.2.1,e.2.2.2,e'▸h⟩
end
theorem zuU:prog.cellsOf 100=6:=by kernel_rfl
theorem zyL:prog.bytesOf 100=96:=by kernel_rfl
theorem zuV:prog.cellsOf 30=6:=by kernel_rfl
section
variable {H:Type} {enc:TypeId×Value->H} {w:World} {held:Bool}
instance:Inhabited PR:=⟨⟨⟨#[]⟩,[],zeroT'⟩⟩
theorem ztT{fuel:Nat}{cs:List Value}{x:DataW H×List MemPlace}(h:DataW.trod enc prog w 0 (fun _=>true) held fuel 100 cs=some x)(hw:∀q∈x.1.weights prog 100,q<=reachBytes) :
  ∃(r:PR) (A1:Option Addr) (c1:Nat) (A2:Option Addr) (c2:Nat),cs=[.string r.s,.slice A1 r.ps.length c1,.int .u8 r.b.k,.int .i64 r.b.n,.string r.b.s,.slice A2 r.b.ks.length c2]/\PrR w Any r A1 c1 A2 c2:=by
 have hts:=DataW.trod_struct underlying100 h;obtain⟨xs,n,hfu,hx,hcl,hxl,hg⟩:=hts;subst hx;rw[zuU]at hcl
 match cs,hcl with
 | [c0,c1,c2,c3,c4,c5],_ =>
 match xs,hxl with
 | [y0,y1,y2],_ =>
 have g0:=hg 0 _ rfl;have g1:=hg 1 _ rfl;have g2:=hg 2 _ rfl;have hw1:∀q∈y1.1.weights prog 24,q<=reachBytes:=fun q hq=>by
  refine hw q ?_;simp only[List.map_cons,List.map_nil,DataW.weights,underlying100];simp only[DataW.weightsEach,List.map_cons,List.map_nil,List.mem_append];exact .inr (.inl hq)
 have hw2:∀q∈y2.1.weights prog 28,q<=reachBytes:=fun q hq=>by
  refine hw q ?_;simp only[List.map_cons,List.map_nil,DataW.weights,underlying100];simp only[DataW.weightsEach,List.map_cons,List.map_nil,List.mem_append];exact .inr (.inr (.inl hq))
 obtain⟨s,e0,_,ws⟩:=DataW.trod_string underlying9 g0;obtain⟨A1,ps,k1,e1,hrow,hlp,hlc⟩:=zql g1 hw1;obtain⟨t,u0,u1,u2,u3,e2,hn,_,_⟩:=zqn _ _ _ g2 hw2;obtain⟨A2,k2,rfl,rfl,rfl,rfl,hn'⟩:=zr0 hn;injection e0 with e0;injection e1 with e1;change List.take (prog.cellsOf 28) [c2,c3,c4,c5]=_ at e2;rw[zng]at e2;simp only[List.take_succ_cons,List.take_zero,List.cons.injEq,and_true]at e2;obtain⟨rfl,rfl,rfl,rfl⟩:=e2;subst e0 e1;exact⟨⟨s,ps,t⟩,A1,k1,A2,k2,rfl,ws,hrow,hlp,hlc,hn'⟩
theorem zsH{fuel:Nat}{cs:List Value}{x:DataW H×List MemPlace}(h:DataW.trod enc prog w 0 (fun _=>true) held fuel 25 cs=some x)(hw:∀q∈x.1.weights prog 25,q<=reachBytes) :
  ∃(A:Option Addr) (ps:List PR) (c:Nat),cs=[.slice A ps.length c]/\RowP w Any A ps/\ps.length<=LV/\ps.length<=c:=by
 rcases znS underlying25 zuU zyL h hw with rfl|⟨a,len,cap,rfl,hl,hcap,hat⟩
 ·exact⟨none,[],0,rfl,fun i hi=>absurd hi (by simp),Nat.zero_le _,Nat.zero_le _⟩
 ·obtain⟨ps,hvl,hvs⟩:=zmj (n:=len) (P:=fun i (r:PR)=>∃A1 c1 A2 c2,w.cells? 0 (a.add (i*6)) 6=some [.string r.s,.slice A1 r.ps.length c1,.int .u8 r.b.k,.int .i64 r.b.n,.string r.b.s,.slice A2 r.b.ks.length c2]/\PrR w Any r A1 c1 A2 c2) fun i hi=>by
   obtain⟨cs',y,n',hcs,ht,rP⟩:=hat i hi;obtain⟨r,A1,c1,A2,c2,rfl,hr⟩:=ztT ht rP;exact⟨r,A1,c1,A2,c2,hcs,hr⟩
  refine⟨some a,ps,cap,by rw[hvl],fun i hi=>?_,by unfold LV;unfold reachBytes at hcap;omega,by omega⟩;obtain⟨A1,c1,A2,c2,hc,hr⟩:=hvs i hi;obtain⟨_,_,hcell⟩:=World.cells?_some hc;refine⟨a,A1,c1,A2,c2,rfl,trivial,⟨?_,?_,?_,?_,?_,?_⟩,hr⟩
  ·have:=hcell 0 (by omega);simpa[Addr.add]using this
  ·have:=hcell 1 (by omega);simpa[Addr.add]using this
  ·have:=hcell 2 (by omega);simpa[Addr.add]using this
  ·have:=hcell 3 (by omega);simpa[Addr.add]using this
  ·have:=hcell 4 (by omega);simpa[Addr.add]using this
  ·have:=hcell 5 (by omega);simpa[Addr.add]using this
theorem zqm{fuel:Nat}{cs:List Value}{x:DataW H×List MemPlace}(h:DataW.trod enc prog w 0 (fun _=>true) held fuel 30 cs=some x)(hw:∀q∈x.1.weights prog 30,q<=reachBytes) :
  ∃(p:PG) (A1:Option Addr) (c1:Nat) (A2:Option Addr) (c2:Nat) (A3:Option Addr) (c3:Nat),cs=[.slice A1 p.vs.length c1,.slice A2 p.prs.length c2,.int .u8 p.m.k,.int .i64 p.m.n,.string p.m.s,.slice A3 p.m.ks.length c3]/\PgR w Any p A1 c1 A2 c2 A3 c3:=by
 have hts:=DataW.trod_struct underlying30 h;obtain⟨xs,n,hfu,hx,hcl,hxl,hg⟩:=hts;subst hx;rw[zuV]at hcl
 match cs,hcl with
 | [c0,c1,c2,c3,c4,c5],_ =>
 match xs,hxl with
 | [y0,y1,y2],_ =>
 have g0:=hg 0 _ rfl;have g1:=hg 1 _ rfl;have g2:=hg 2 _ rfl;have hw0:∀q∈y0.1.weights prog 24,q<=reachBytes:=fun q hq=>by
  refine hw q ?_;simp only[List.map_cons,List.map_nil,DataW.weights,underlying30];simp only[DataW.weightsEach,List.map_cons,List.map_nil,List.mem_append];exact .inl hq
 have hw1:∀q∈y1.1.weights prog 25,q<=reachBytes:=fun q hq=>by
  refine hw q ?_;simp only[List.map_cons,List.map_nil,DataW.weights,underlying30];simp only[DataW.weightsEach,List.map_cons,List.map_nil,List.mem_append];exact .inr (.inl hq)
 have hw2:∀q∈y2.1.weights prog 28,q<=reachBytes:=fun q hq=>by
  refine hw q ?_;simp only[List.map_cons,List.map_nil,DataW.weights,underlying30];simp only[DataW.weightsEach,List.map_cons,List.map_nil,List.mem_append];exact .inr (.inr (.inl hq))
 obtain⟨A1,vs,k1,e0,hrow,hlv,hlvc⟩:=zql g0 hw0;obtain⟨A2,ps,k2,e1,wW,hlp,hlpc⟩:=zsH g1 hw1;obtain⟨t,u0,u1,u2,u3,e2,hn,_,_⟩:=zqn _ _ _ g2 hw2;obtain⟨A3,k3,rfl,rfl,rfl,rfl,hn'⟩:=zr0 hn;injection e0 with e0;injection e1 with e1;change List.take (prog.cellsOf 28) [c2,c3,c4,c5]=_ at e2;rw[zng]at e2;simp only[List.take_succ_cons,List.take_zero,List.cons.injEq,and_true]at e2;obtain⟨rfl,rfl,rfl,rfl⟩:=e2;subst e0 e1;exact⟨⟨vs,ps,t⟩,A1,k1,A2,k2,A3,k3,rfl,hrow,hlv,hlvc,wW,hlp,hlpc,hn'⟩
end
theorem zya{H:Type}{enc:TypeId×Value->H}{W:World}{base:Nat}{v:Value}{d:DataW H}{p:List MemPlace}(hok:Value.okWide prog W .any base 30 v)
  (h:DataW.Trod enc prog W 0 (fun _=>true) true 30 v d p)(hw:∀n∈d.weights prog 30,n<=reachBytes):∃g,PV W Any g v:=by
 obtain⟨cs,rfl,hcs⟩:=okWide_struct underlying30 hok;obtain⟨fuel,hf⟩:=h;obtain⟨g,A1,c1,A2,c2,A3,c3,e,hr⟩:=zqm hf hw;refine⟨g,A1,c1,A2,c2,A3,c3,?_,hr⟩;have:cs = #[.slice A1 g.vs.length c1,.slice A2 g.prs.length c2,.int .u8 g.m.k,.int .i64 g.m.n,.string g.m.s,.slice A3 g.m.ks.length c3]:=by
  apply Array.ext';simpa[Value.cells]using e
 rw[this]
theorem zsi:prog.cellsOf 23=3:=by kernel_rfl
theorem zyJ:prog.cellsOf 32=12:=by kernel_rfl
section
variable {H:Type} {enc:TypeId×Value->H} {w:World} {held:Bool}
theorem ztU{fuel:Nat}{cs:List Value}{x:DataW H×List MemPlace}(h:DataW.trod enc prog w 0 (fun _=>true) held fuel 23 cs=some x) :
  ∃b:BX,cs=[.int .i64 b.v,.int .i64 b.l,.int .i64 b.i]:=by
 have hts:=DataW.trod_struct underlying23 h;obtain⟨xs,n,hfu,hx,hcl,hxl,hg⟩:=hts;rw[zsi]at hcl
 match cs,hcl with
 | [c0,c1,c2],_ =>
 match xs,hxl with
 | [y0,y1,y2],_ =>
 obtain⟨m0,e0,_,w0⟩:=DataW.trod_int underlying3 (hg 0 _ rfl);obtain⟨m1,e1,_,w1⟩:=DataW.trod_int underlying3 (hg 1 _ rfl);obtain⟨m2,e2,_,w2⟩:=DataW.trod_int underlying3 (hg 2 _ rfl);injection e0 with e0;injection e1 with e1;injection e2 with e2;subst e0 e1 e2;exact⟨⟨m0,m1,m2⟩,rfl⟩
theorem zyd{fuel:Nat}{cs:List Value}{x:DataW H×List MemPlace}(h:DataW.trod enc prog w 0 (fun _=>true) held fuel 32 cs=some x)(hw:∀q∈x.1.weights prog 32,q<=reachBytes) :
  ∃(e:EX) (A1:Option Addr) (c1:Nat) (A2:Option Addr) (c2:Nat) (A3:Option Addr) (c3:Nat),cs=(exA e A1 c1 A2 c2 A3 c3).toList/\PgR w Any e.gv A1 c1 A2 c2 A3 c3/\I64 e.fu:=by
 have hts:=DataW.trod_struct underlying32 h;obtain⟨xs,n,hfu,hx,hcl,hxl,hg⟩:=hts;subst hx;rw[zyJ]at hcl
 match cs,hcl with
 | [c0,c1,c2,c3,c4,c5,c6,c7,c8,c9,c10,c11],_ =>
 match xs,hxl with
 | [y0,y1,y2,y3,y4],_ =>
 have g0:=hg 0 _ rfl;have g1:=hg 1 _ rfl;have g2:=hg 2 _ rfl;have g3:=hg 3 _ rfl;have g4:=hg 4 _ rfl;have hw4:∀q∈y4.1.weights prog 30,q<=reachBytes:=fun q hq=>by
  refine hw q ?_;simp only[List.map_cons,List.map_nil,DataW.weights,underlying32];simp only[DataW.weightsEach,List.map_cons,List.map_nil,List.mem_append];exact .inr (.inr (.inr (.inr (.inl hq))))
 obtain⟨s,e0,_,ws⟩:=DataW.trod_string underlying9 g0;obtain⟨m1,e1,_,w1⟩:=DataW.trod_int underlying3 g1;obtain⟨m2,e2,_,w2⟩:=DataW.trod_int underlying3 g2;obtain⟨b,e3⟩:=ztU g3;obtain⟨p,A1,k1,A2,k2,A3,k3,e4,hr⟩:=zqm g4 hw4;injection e0 with e0;injection e1 with e1;injection e2 with e2;change List.take (prog.cellsOf 23) [c3,c4,c5,c6,c7,c8,c9,c10,c11]=_ at e3;rw[zsi]at e3;change List.take (prog.cellsOf 30) [c6,c7,c8,c9,c10,c11]=_ at e4;rw[zuV]at e4;simp only[List.take_succ_cons,List.take_zero,List.cons.injEq,and_true]at e3 e4;obtain⟨rfl,rfl,rfl⟩:=e3;obtain⟨rfl,rfl,rfl,rfl,rfl,rfl⟩:=e4;subst e0 e1 e2;simp[Lit.wf,IntKind.min,IntKind.max,IntKind.signed,IntKind.bits]at w1 w2;exact⟨⟨s,m1,m2,b,p⟩,A1,k1,A2,k2,A3,k3,rfl,hr,⟨by simp only;omega,by simp only;omega⟩⟩
end
theorem zKB{H:Type}{enc:TypeId×Value->H}{W:World}{base:Nat}{v:Value}{d:DataW H}{p:List MemPlace}(hok:Value.okWide prog W .any base 32 v)
  (h:DataW.Trod enc prog W 0 (fun _=>true) true 32 v d p)(hw:∀n∈d.weights prog 32,n<=reachBytes):∃e,EV W Any e v:=by
 obtain⟨cs,rfl,hcs⟩:=okWide_struct underlying32 hok;obtain⟨fuel,hf⟩:=h;obtain⟨g,A1,c1,A2,c2,A3,c3,e,hr,hI⟩:=zyd hf hw;refine⟨g,A1,c1,A2,c2,A3,c3,?_,hr,hI⟩;have:cs=exA g A1 c1 A2 c2 A3 c3:=by
  apply Array.ext';simpa[Value.cells]using e
 rw[this]
end
end Go.Proofs.YthjinpodhacleaaGreat
