/-
  Texts of the proof, put together without their remarks: Lsa, Lift, LiftV, LiftP, LiftS, LiftB.
-/
import Derived.Test.YtembgnhbpmfhpaaGreatV12
import Derived.Test.YtembgnhbpmfhpaaGreatRows
import Derived.ProofKit
import Derived.SizedLaws
import Derived.Deep.Slices
import Derived.Deep.Fields
import Derived.Lib.SmallJoins
import Derived.ChangeSlices
set_option linter.unusedSimpArgs false
set_option linter.unusedVariables false
set_option maxHeartbeats 8000000
set_option maxRecDepth 100000
namespace Go.Proofs.YtembgnhbpmfhpaaGreat
open Go.Proofs.Tryz
section
open Go Go.RowKit
attribute [local go_sem] Oper.semAt_some
theorem zxt{W:World}{s:SS}{v1 v2:Value}(h1:SV W Any s v1)(h2:SV W Any s v2)(hl:s.cells.length<=100000) :
  Calls prog 14 #[v1,v2] W fun e w'=>e=.returned (.bool true)/\Below W.heap.size W w':=by
 obtain⟨A,c,B,d,D,e,rfl⟩:∃A c B d D e,v1=.agg #[.slice A s.cells.length c,.slice B s.tin.length d,.slice D s.tout.length e]:=by
  obtain⟨A,c,B,d,D,e,h,-⟩:=h1;exact⟨_,_,_,_,_,_,h⟩
 obtain⟨A',c',B',d',D',e',rfl⟩:∃A c B d D e,v2=.agg #[.slice A s.cells.length c,.slice B s.tin.length d,.slice D s.tout.length e]:=by
  obtain⟨A,c,B,d,D,e,h,-⟩:=h2;exact⟨_,_,_,_,_,_,h⟩
 have hb2:=zkb (zkb (zs W) (.cells #[.slice A s.cells.length c,.slice B s.tin.length d,.slice D s.tout.length e] 32)) (.cells #[.slice A' s.cells.length c',.slice B' s.tin.length d',.slice D' s.tout.length e'] 32);have HC:=zh (zwd (h1.later hb2) (h2.later hb2) hl);have HB:=zh hb2;clear hb2 h1 h2;go_enter func14,ntmps14;go_wp2_with fail;refine HC.out.mono ?_;rintro en w' ⟨rfl,hb⟩;go_wp2_with fail;go_ret;exact⟨rfl,zka HB.out hb⟩
theorem zKi:IsFn prog 27 Tryz.f27:=⟨func27,by kernel_rfl,by kernel_rfl⟩
theorem zxl{W:World}{p:PG}{s:SS}{bp c1 c2 c3:Nat}{A1 A2 A3:Option Addr}{sv:Value}(hk:W.heap[bp]?=some (.cells (pgA p A1 c1 A2 c2 A3 c3) 43 (0,0)))(hp:PV W Any p (pv A1 p.vs.length c1 A2 p.prs.length c2 p.m.k p.m.n p.m.s A3 p.m.ks.length c3))(hs:SV W Any s sv)(hcl:s.cells.length<=100) :
  Calls prog 27 #[sv,.pointer (some ⟨bp,0,none⟩)] W fun e' W'=>e'=.returned (.bool (decide (errE p 300 s=0)))/\Below W.heap.size W W':=by
 obtain⟨A,c,B,d,D,k,rfl⟩:∃A c B d D k,sv=.agg #[.slice A s.cells.length c,.slice B s.tin.length d,.slice D s.tout.length k]:=by
  obtain⟨A,c,B,d,D,k,rfl,-⟩:=hs;exact⟨_,_,_,_,_,_,rfl⟩
 have hb:=zkb (zs W) (.cells #[.slice A s.cells.length c,.slice B s.tin.length d,.slice D s.tout.length k] 32);have HF:=zh (zlY p s 300 602000 _ _ _ (hp.later hb) (hs.later hb) (by omega) ⟨by decide,by decide⟩ (by decide) (by decide));have rF:=zh (show errE p 300 s=(resO p s 300 602000 false).2.2.1 from rfl);obtain⟨R,hR⟩:=zX (resO p s 300 602000 false);rw[hR]at HF rF;have HB:=zh hb;obtain⟨p0,p1,p2,p3,p4,p5⟩:=box6 (zkc hk hb);clear hk hp hs hcl hb hR;go_enter func27,ntmps27;go_wp2_with fail;refine HF.out.mono ?_;rintro e' w2 ⟨v1,v2,v3,rfl,h2,hb2,h4⟩;have hfl:∀w,(Instr.field 59 (.agg #[v1,v2,v3,.int .i64 (R.2.1:Int),.int .i64 R.2.2.1]) 2).run prog w=.ok (.int .i64 R.2.2.1) w:=fun w=>by kernel_rfl
 have HB2:=zh (zka HB.out hb2);clear h2 h4 hb2 p0 p1 p2 p3 p4 p5;go_wp2_with fail;go_ret;exact⟨by rw[rF.out,beqI];rfl,HB2.out⟩
theorem zK7(k:Int)(s:ByteArray)(w:World):(Instr.build 41 #[(0,.int .u8 k),(2,.string s)]).run prog w=.ok (nv k 0 s none 0 0) w:=by kernel_rfl
def naF(N0:Nat)(S:Nat->Prop)(ks:List T)(t:T):Nat->Value->List Value->World->Prop
 | 4,v,_,w=>OwnN w N0 41 S v ks
 | 6,v,_,w=>OwnN w N0 41 S v [t]
 | 7,v,_,w=>OwnN w N0 41 S v (ks++[t])
 | _,v,_,w=>OwnN w N0 41 S v []
def naD:Nat->List Nat
 | 4=>[0]|7=>[4,6]|_=>[]
def naC:Nat->List Nat
 | 4=>[0]|7=>[4]|_=>[]
theorem zyJ{N0:Nat}{S:Nat->Prop}{ks:List T}{t:T}(hS:∀q,S q->q<N0)(i:Nat)(v:Value)(ds:List Value)(w w':World)(C:Nat->Prop)(h:naF N0 S ks t i v ds w)(hc:Chg C w w')(hC:∀b,C b->N0<=b/\∃i,naC i≠[])(ho:∀b,v.ownBlock=some b->¬ C b):naF N0 S ks t i v ds w':=by
 have hCS:∀b,C b->¬ S b:=fun b hb hs=>by have:=(hC b hb).1;have:=hS b hs;omega
 unfold naF at h ⊢
 split at h<;>exact OwnN.chgC h hc hCS ho
theorem zzg{p:PG}{b:BX}{nm:ByteArray}{c:Int}{ks:List T}(h:fndE (difS p (p.part (p.m.ks++[oneT nm c])) 300 602000) (allS b (lenE p.vs b))=fndE (fun s=>(resO p s 300 602000 false).2.2.1==0) (allS b (lenE p.vs b))) :
  dffE p (p.part (p.m.ks++[oneT nm c])) b 300=fndE (fun s=>decide (errE p 300 s=0)) (allS b (lenE p.vs b)):=by
 have hv:eqVs p.vs (p.part (p.m.ks++[oneT nm c])).vs=true:=zmQ.2 rfl;unfold dffE;rw[if_pos hv];have e1:(fun s=>decide (errE p 300 s=0))=fun s=>(resO p s 300 602000 false).2.2.1==0:=by funext s;rw[beqI];rfl
 rw[e1,<-h];rfl
theorem zxJ{W:World}{p:PG}{b:BX}{c:Int}{v:Value}(hp:PV W Any p v)(hc:0<=c/\c<=255) :
  Calls prog 7 #[v,.agg #[.int .i64 b.v,.int .i64 b.l,.int .i64 b.i],.int .u8 c] W fun en w'=>en=.returned (.bool true)/\Below W.heap.size W w':=by
 have gM:=zh (fun w' (h:Below W.heap.size W w')=>hp.later h);have aW:=zh hc;obtain⟨A1,c1,A2,c2,A3,c3,rfl,dJ⟩:=hp;have qh:=zh dJ;have hb2:=zkb (zkb (zs W) (.cells #[.slice A1 p.vs.length c1,.slice A2 p.prs.length c2,.int .u8 p.m.k,.int .i64 p.m.n,.string p.m.s,.slice A3 p.m.ks.length c3] 43)) (.cells #[.int .i64 b.v,.int .i64 b.l,.int .i64 b.i] 24);have k0:=zke (heap_alloc_new W (.cells #[.slice A1 p.vs.length c1,.slice A2 p.prs.length c2,.int .u8 p.m.k,.int .i64 p.m.n,.string p.m.s,.slice A3 p.m.ks.length c3] 43)) (.cells #[.int .i64 b.v,.int .i64 b.l,.int .i64 b.i] 24);have k1:=heap_alloc_new (W.alloc (.cells #[.slice A1 p.vs.length c1,.slice A2 p.prs.length c2,.int .u8 p.m.k,.int .i64 p.m.n,.string p.m.s,.slice A3 p.m.ks.length c3] 43)) (.cells #[.int .i64 b.v,.int .i64 b.l,.int .i64 b.i] 24);rw[World.size_alloc]at k1
 obtain⟨w2,hw2⟩:=zX ((W.alloc (.cells #[.slice A1 p.vs.length c1,.slice A2 p.prs.length c2,.int .u8 p.m.k,.int .i64 p.m.n,.string p.m.s,.slice A3 p.m.ks.length c3] 43)).alloc (.cells #[.int .i64 b.v,.int .i64 b.l,.int .i64 b.i] 24));obtain⟨N1,hN1⟩:=zX (W.heap.size);rw[hw2]at hb2 k0 k1;have kV:=zh hN1;rw[hN1]at k0 k1;have HB2:=zh hb2;have HZ2:=zh (show w2.heap.size=N1+2 by rw[<-hw2,<-hN1];simp);have uM:=zh (fun w' (h:Below w2.heap.size w2 w')=>zkc k0 h);have iV:=zh (fun w' (h:Below w2.heap.size w2 w')=>zkc k1 h);have vT:=zh (fun w' (h:Below w2.heap.size w2 w')=>gM.out _ (zka hb2 h));have eH:=zh (fun w' (h:Below w2.heap.size w2 w')=>zka hb2 h);have dH:=zh (zs w2);have i300:I64 300:=⟨by decide,by decide⟩
 have HR1:=zh (fun w' (h:Below w2.heap.size w2 w')=>zwe p b 300 _ w' (vT.out _ h) i300);have uU:=zh zsP;clear hb2 k0 k1 dJ hc;obtain⟨p0,p1,p2,p3,p4,p5⟩:=box6 (uM.out _ dH.out);obtain⟨x0,x1,x2⟩:=zky (iV.out _ dH.out);go_enter func7,ntmps7;go_upto_region 1 with fail
 try rw[hw2]
 try rw[hN1]
 clear hw2 hN1;go_wp2_with fail;refine(HR1.out _ dH.out).mono ?_;rintro en w4 ⟨hb4,A4,n4,c4,ok1,rfl,hr1⟩;have rG:=zh (zka dH.out hb4);have HO:=zh hr1;clear p0 p1 p2 p3 p4 p5 x0 x1 x2 hb4 hr1;go_wp2_with fail;refine(uU.out _).mono ?_;rintro en w5 ⟨rfl,hb5⟩;have dB:=zh (zka rG.out hb5);clear hb5;obtain⟨p0,p1,p2,p3,p4,p5⟩:=box6 (uM.out _ dB.out);obtain⟨x0,x1,x2⟩:=zky (iV.out _ dB.out)
 cases ok1
 ·skip
  go_wp2_with fail;refine(uU.out _).mono ?_;rintro en w7 ⟨rfl,dR⟩;have nO:=zh (zka dB.out dR);clear dR;go_wp2_with fail;go_ret;exact⟨rfl,eH.out _ nO.out⟩
 have jF:=zh (HO.out rfl);clear HO;by_cases hn0:p.vs.length=0
 ·have e0:((p.vs.length:Int)==0)=true:=by simp[hn0]
  clear hn0;go_wp2_with fail;refine(uU.out _).mono ?_;rintro en w7 ⟨rfl,dR⟩;have nO:=zh (zka dB.out dR);clear dR;go_wp2_with fail;go_ret;exact⟨rfl,eH.out _ nO.out⟩
 have e0:((p.vs.length:Int)==0)=false:=by simp[hn0]
 obtain⟨a,v0,ha,-,Hv0,⟨y0,y1,y2⟩,hfv⟩:=(qh.out.vars.later (eH.out _ dB.out)).nd (i:=0) (by omega);subst ha;have Cs:=zh hfv;have ea:a.add (0*3)=a:=by unfold Addr.add;simp
 rw[ea]at y0 y1 y2;have hlt0:(0:Int)<(p.vs.length:Int):=by omega
 clear ea hfv Hv0 hn0;by_cases hk1:v0.k=1;rotate_left 1
 ·have e1:(v0.k != 1)=true:=by simp[hk1]
  clear hk1;go_wp2_with fail;refine(uU.out _).mono ?_;rintro en w7 ⟨rfl,dR⟩;have nO:=zh (zka dB.out dR);clear dR;go_wp2_with fail;go_ret;exact⟨rfl,eH.out _ nO.out⟩
 have e1:(v0.k != 1)=false:=by simp[hk1]
 by_cases h57:p.m.k=57;rotate_left 1
 ·have e2:(p.m.k != 57)=true:=by simp[h57]
  clear h57 hk1;go_wp2_with fail;refine(uU.out _).mono ?_;rintro en w7 ⟨rfl,dR⟩;have nO:=zh (zka dB.out dR);clear dR;go_wp2_with fail;go_ret;exact⟨rfl,eH.out _ nO.out⟩
 have e2:(p.m.k != 57)=false:=by simp[h57]
 have nI:=zh h57;clear h57 hk1;have hbn:=zK7;have hbm:=bNnG;have hbk:=bNkG;have hbs:=zzt;obtain⟨cc,hcc⟩:=zX (wrap64 (1+wrap64 c));have hc1:1<=cc/\cc<=256:=by
  have:=aW.out;rw[<-hcc,IntWalk.wrap64_in c (by omega),IntWalk.wrap64_in _ (by omega)];omega
 have aY:=zkb (zs w5) (.cells #[.slice (some a) p.vs.length c1,.slice A2 p.prs.length c2,.int .u8 p.m.k,.int .i64 p.m.n,.string p.m.s,.slice A3 p.m.ks.length c3] 43);have kq:=heap_alloc_new w5 (.cells #[.slice (some a) p.vs.length c1,.slice A2 p.prs.length c2,.int .u8 p.m.k,.int .i64 p.m.n,.string p.m.s,.slice A3 p.m.ks.length c3] 43);go_upto_region 5 with fail;obtain⟨w6,qJ⟩:=zX (w5.alloc (.cells #[.slice (some a) p.vs.length c1,.slice A2 p.prs.length c2,.int .u8 p.m.k,.int .i64 p.m.n,.string p.m.s,.slice A3 p.m.ks.length c3] 43));obtain⟨Bq,Bp⟩:=zX (w5.heap.size);rw[qJ]at aY kq ⊢;have dW:w6.heap.size=Bq+1:=by rw[<-qJ,<-Bp];simp
 rw[Bp]at kq ⊢;have nP:=zh (zka dB.out aY);have y0':=zb aY y0;have wJ:=zh (show N1+2<=Bq by have:=dB.out.size;have:=HZ2.out;omega);have BA:=zh dW;have Cj:=zh kq;clear p0 p1 p2 p3 p4 p5 x0 x1 x2 y0 y1 y2 qJ Bp aY kq dW e0 e1 e2;obtain⟨p0,p1,p2,p3,p4,p5⟩:=box6 (uM.out _ nP.out);have dR:=zkb (zkb (zs w6) (.cells #[.int .u8 2,.int .i64 0,.string v0.s,.slice none 0 0,.int .u8 1,.int .i64 cc,.string ⟨#[]⟩,.slice none 0 0] 41)) (.cells #[.int .u8 40,.int .i64 0,.string ⟨#[]⟩,.slice (some ⟨w6.heap.size,0,none⟩) 2 2] 41);have kk:=zke (heap_alloc_new w6 (.cells #[.int .u8 2,.int .i64 0,.string v0.s,.slice none 0 0,.int .u8 1,.int .i64 cc,.string ⟨#[]⟩,.slice none 0 0] 41)) (.cells #[.int .u8 40,.int .i64 0,.string ⟨#[]⟩,.slice (some ⟨w6.heap.size,0,none⟩) 2 2] 41)
 have kn:=heap_alloc_new (w6.alloc (.cells #[.int .u8 2,.int .i64 0,.string v0.s,.slice none 0 0,.int .u8 1,.int .i64 cc,.string ⟨#[]⟩,.slice none 0 0] 41)) (.cells #[.int .u8 40,.int .i64 0,.string ⟨#[]⟩,.slice (some ⟨w6.heap.size,0,none⟩) 2 2] 41);rw[World.size_alloc]at kn;go_upto_region 6 with fail;obtain⟨w7,hw7⟩:=zX ((w6.alloc (.cells #[.int .u8 2,.int .i64 0,.string v0.s,.slice none 0 0,.int .u8 1,.int .i64 cc,.string ⟨#[]⟩,.slice none 0 0] 41)).alloc (.cells #[.int .u8 40,.int .i64 0,.string ⟨#[]⟩,.slice (some ⟨w6.heap.size,0,none⟩) 2 2] 41));have gX:w7.heap.size=Bq+3:=by rw[<-hw7];simp[BA.out]
 rw[hw7]at dR kk kn
 try rw[hw7]
 rw[BA.out]at kk kn
 try rw[BA.out]
 simp only[Nat.add_assoc,Nat.reduceAdd]at kk kn ⊢;have nO:=zh (zka nP.out dR);have vM:=zh gX;have hS:∀q,(fun q=>q<Bq+3/\q≠Bq) q->q<Bq+3:=fun q h=>h.1;have HNT:=zh (show NV w7 (fun q=>q<Bq+3/\q≠Bq) (oneT v0.s cc) (nv 40 0 ⟨#[]⟩ (some ⟨Bq+1,0,none⟩) 2 2)from zzJ (fldG 40 0 (by decide) ⟨by decide,by decide⟩) ⟨by omega,by omega⟩ kk (zmp _ _ ⟨by decide,by decide,Cs.out.1⟩) (zmp _ _ (fldG 1 cc (by decide) ⟨by omega,by omega⟩)));have vR:=zh (show zlP w7 (fun q=>q<Bq+3/\q≠Bq) A3 p.m.ks/\Fld p.m.k p.m.n p.m.s from by
  obtain⟨A,c,e,hf,hlk,hlc,hr⟩:=qh.out.main.open_;unfold nv at e;injection e with e;simp only[Array.mk.injEq,List.cons.injEq,and_true,Value.slice.injEq,true_and]at e;obtain⟨rfl,-⟩:=e;refine⟨(hr.keep (S':=fun q=>q<Bq+3/\q≠Bq) (fun q _ h=>?_) fun _ _ _=>rfl).keep (fun _ h _=>h) fun q _ h=>(eH.out _ nO.out).block q h,hf⟩;have:=kV.out;have:=wJ.out;exact⟨by omega,by omega⟩)
 have HKQ7:=zh (fun w' (h:Below (Bq+3) w7 w')=>(h.block Bq (by omega)).trans (zkc Cj.out dR));have HC:=zh (And.intro hc1 hcc);have fO:=zh (show ∀w':World,w'.heap[N1]?=w7.heap[N1]?->w'.heap[Bq+2]?=w7.heap[Bq+2]?->(fun w':World=>zv w' N1 5 (.slice A3 p.m.ks.length c3)/\zN4 w' (Bq+2) (.int .u8 40) (.int .i64 0) (.string ⟨#[]⟩) (.slice (some ⟨Bq+1,0,none⟩) 2 2)) w' from fun w' h1 h2=>⟨zc (h1.trans (uM.out _ nO.out)) rfl,box4 (h2.trans kn)⟩);have az:=zh (fun w' (hb:Below (Bq+3) w7 w')=>fO.out w' (hb.block N1 (by have:=wJ.out;omega)) (hb.block _ (by omega)));have hSS:zW (fun w':World=>zv w' N1 5 (.slice A3 p.m.ks.length c3)/\zN4 w' (Bq+2) (.int .u8 40) (.int .i64 0) (.string ⟨#[]⟩) (.slice (some ⟨Bq+1,0,none⟩) 2 2)) zU w7.drew:=⟨az.out _ zr.drew,trivial⟩
 clear p0 p1 p2 p3 p4 p5 y0' hw7 dR kk kn gX hcc hc1 hbn hbm hbk hbs hlt0;have hb0:∀w:World,(Instr.buildSlice 39 0 #[]).run prog w=.ok (.slice (some ⟨w.heap.size,0,none⟩) 0 0) (w.alloc (.cells #[] 41)):=fun w=>by kernel_rfl
 have hb1:=zKq;refine wp_region_noPanic ?_;refine zG hSS 15 ?_;refine zT 1 hSS ?_;refine zT 2 hSS ?_;refine zT 3 hSS ?_;refine zT 5 hSS ?_;have hI:(fun w=>Below (Bq+3) w7 w) w7.drew:=zr.drew;clear hSS;have hsz:∀w,Below (Bq+3) w7 w->Bq+3<=w.heap.size:=fun w h=>by have:=h.size;have:=vM.out;omega
 have kG:∀w,Below (Bq+3) w7 w->Below w7.heap.size w7 w:=fun w h=>by rw[vM.out];exact h
 refine zob (T:=[(0,62),(4,66),(6,68),(7,69)]) (z:=8) (n:=11) (Bq+3) (fun _ v=>v.ownBlock) naD naC 3 (fun w=>Below (Bq+3) w7 w) (naF (Bq+3) (fun q=>q<Bq+3/\q≠Bq) p.m.ks (oneT v0.s cc)) (by kernel_rfl) (by kernel_rfl) (by simp only[putP,Act.put,zD,zE,zF]) (by decide) (by kernel_rfl) (by kernel_rfl) (by decide) hsz (fun w h=>⟨az.out _ h,trivial⟩) (fun w w' C h hc hC=>h.trans (hc.below (hsz w h) fun b hb=>(hC b hb).1)) (zyJ hS) (fun q hq=>?_) (fun vs w8 dh hF _=>?_) w7.drew hI
 ·simp only[List.mem_cons,List.not_mem_nil,or_false]at hq;rcases hq with rfl|rfl|rfl|rfl
  ·intro oi hoi vs K w2 hb2 hd aa;obtain rfl:=Option.some.inj hoi;simp only[putP,Act.put,zA,zB,zC,zD,zE,zF]at aa ⊢;have hK:=zh aa;clear aa hoi;go_simp;exact hK.out _ _ alC alB (OwnN.laid0 (hsz _ hb2))
  ·intro oi hoi vs K w2 hb2 hd aa;generalize bu:putP vs [(0,62),(4,66),(6,68),(7,69)] _=AC at aa ⊢;have hK:=zh aa;clear aa;have hd1:OwnN w2 (Bq+3) 41 (fun q=>q<Bq+3/\q≠Bq) (vs 0) []:=hd 0 (by decide);refine zoh (K:=K) (c:=c3) hoi (.tmp 62) (.tmp 65) (by kernel_rfl) (by kernel_rfl) (hsz _ hb2) hS (by rw[<-bu];kernel_rfl) hd1 rfl (by rw[<-bu];kernel_rfl) (vR.out.1.later (kG _ hb2)).src (by have:=jF.out.2.2.2.2.2.2.2.2.2;simp[LK];omega) ?_;intro v' w3 g1 g2 g3;exact hK.out _ _ (g1.mono fun b _ hb=>⟨0,by decide,hb⟩) (fun b hb=>⟨(g2 b hb).1.imp id fun h=>⟨0,by decide,h⟩,(g2 b hb).2⟩) g3
  ·intro oi hoi vs K w2 hb2 hd aa;obtain rfl:=Option.some.inj hoi;simp only[putP,Act.put,zA,zB,zC,zD,zE,zF]at aa ⊢;have hK:=zh aa;clear aa hoi;go_simp;exact hK.out _ _ alC alB (OwnN.laid1 (hsz _ hb2) (fun q h=>by have:q<Bq+3:=h.1;have:=hsz _ hb2;omega) (HNT.out.later (kG _ hb2)))
  ·intro oi hoi vs K w2 hb2 hd aa;generalize bu:putP vs [(0,62),(4,66),(6,68),(7,69)] _=AC at aa ⊢;have hK:=zh aa;clear aa;have hd1:OwnN w2 (Bq+3) 41 (fun q=>q<Bq+3/\q≠Bq) (vs 4) p.m.ks:=hd 4 (by decide);have hd2:OwnN w2 (Bq+3) 41 (fun q=>q<Bq+3/\q≠Bq) (vs 6) [oneT v0.s cc]:=hd 6 (by decide);obtain⟨A6,c6,e6,hs6⟩:=hd2.src;refine zoh (K:=K) hoi (.tmp 66) (.tmp 68) (by kernel_rfl) (by kernel_rfl) (hsz _ hb2) hS (by rw[<-bu];kernel_rfl) hd1 rfl (by rw[<-bu,<-e6];kernel_rfl) hs6 (by have:=jF.out.2.2.2.2.2.2.2.2.2;simp[LK];omega) ?_;intro v' w3 g1 g2 g3;exact hK.out _ _ (g1.mono fun b _ hb=>⟨4,by decide,hb⟩) (fun b hb=>⟨(g2 b hb).1.imp id fun h=>⟨4,by decide,h⟩,(g2 b hb).2⟩) g3
 ·have f1:OwnN w8 (Bq+3) 41 (fun q=>q<Bq+3/\q≠Bq) (vs 7) (p.m.ks++[oneT v0.s cc]):=hF (7,69) (by decide) (by decide);clear hF;simp only[putP,Act.put,zD,zE,zF];obtain⟨K7,k7,e7,pE,-⟩:=f1.row;obtain⟨n7,nY⟩:=zX ((p.m.ks++[oneT v0.s cc]).length);rw[nY]at e7 pE;have nA:=zh nY;clear nY;rw[e7]at f1 ⊢;generalize vs 0=u0;generalize vs 4=u4;generalize vs 6=u6;clear e7;have hkq:=HKQ7.out _ dh;have q5:w8.cell? ⟨Bq,5,none⟩=some (.slice A3 p.m.ks.length c3):=zc hkq rfl;have cf:∀o,w8.frozen? ⟨Bq,o,none⟩=false:=fun o=>zf hkq;obtain⟨w9,bX,mr,aI⟩:=setU (o:=5) (.slice K7 n7 k7) hkq;have f9:OwnN w9 (Bq+3) 41 (fun q=>q<Bq+3/\q≠Bq) (.slice K7 n7 k7) (p.m.ks++[oneT v0.s cc]):=by
   refine f1.chgC mr (fun b hb hs=>hs.2 hb) fun b hb hc=>?_;have:=(f1.block b hb).1;have:b=Bq:=hc;omega
  have aZ:Below Bq w7 w9:=(dh.mono (by omega)).trans (mr.below (by have:=hsz _ dh;omega) fun q e=>by have e:q=Bq:=e;omega);have uS:=zh (show Below w2.heap.size w2 w9 from nO.out.trans (aZ.mono (by have:=HZ2.out;have:=wJ.out;omega)));have hS9:=fO.out w9 ((mr.block N1 (by have:=hsz _ dh;have:=wJ.out;omega) (by have:=wJ.out;omega)).trans (dh.block N1 (by have:=wJ.out;omega))) ((mr.block (Bq+2) (by have:=hsz _ dh;omega) (by omega)).trans (dh.block (Bq+2) (by omega)));have HF9:=zh f9;have HKQ9:=zh aI;have rA:=zh pE;have Bf:zW (fun w':World=>zv w' N1 5 (.slice A3 p.m.ks.length c3)/\zN4 w' (Bq+2) (.int .u8 40) (.int .i64 0) (.string ⟨#[]⟩) (.slice (some ⟨Bq+1,0,none⟩) 2 2)) zU w8:=⟨az.out _ dh,trivial⟩
  clear f9 f1 hkq aI pE dh;refine zT 8 Bf ?_;refine zT 9 Bf ?_;refine zp 10 fun K hK=>?_;(try simp only[zA,zB,zC]);go_simp;refine hK.out _ _ hS9 ?_;clear hK K q5 cf Bf hS9 az fO hI hsz kG aZ hb0 hb1
  try rw[bX]
  (try simp only[zQ]);refine zd ?_;refine NoPanic.normal ?_;obtain⟨qp,wU⟩:=zX (p.part (p.m.ks++[oneT v0.s cc]));have vS:=zh (show ∀w',Below w9.heap.size w9 w'->PV w' Any qp (pv (some a) p.vs.length c1 A2 p.prs.length c2 p.m.k p.m.n p.m.s K7 n7 k7)from fun w' hb=>by
   refine PV.later ?_ hb;rw[<-wU,<-nA.out];have hg:=qh.out;have hbw:=eH.out _ uS.out;refine⟨some a,c1,A2,c2,K7,k7,rfl,⟨hg.vars.later hbw,hg.lv,hg.lvc,hg.procs.later hbw,hg.lp,hg.lpc,NV.shut vR.out.2 (by have:=jF.out.2.2.2.2.2.2.2.2.2;simp[LK];omega) (by rw[nA.out];exact rA.out) ?_⟩⟩;obtain⟨A,c,e,-,hr,-⟩:=HF9.out.row;injection e with e1 e2 e3;subst e1;exact hr.keep (fun _ _ _=>trivial) fun _ _ _=>rfl)
  have BQ:=zh (show ∀w',Below w9.heap.size w9 w'->w'.heap[Bq]?=some (.cells #[.slice (some a) p.vs.length c1,.slice A2 p.prs.length c2,.int .u8 p.m.k,.int .i64 p.m.n,.string p.m.s,.slice K7 n7 k7] 43 (0,0))from fun w' hb=>zkc (by simpa using HKQ9.out) hb);have fM:=zh (znr qp Any _ w9 (vS.out w9 zr));have iK:=zh (fun w' (h:Below w9.heap.size w9 w')=>znN qp Any _ w' (vS.out w' h));have kW:=zh (show zkL qp=true->chkN qp=0->dffE p qp b 300=fndE (fun s=>decide (errE p 300 s=0)) (allS b (lenE p.vs b))from fun h1 h2=>by
   have ho:=jF.out;obtain⟨l1,l2,l3⟩:=PV.lit (gM.out W zr) ho.2.2.2.2.1;rw[<-wU]at h1 h2 ⊢;exact zzg (ks:=[]) (zqP (F:=300) (g:=602000) ho.2.2.1 (by decide) (by decide) (by decide) nI.out l1 l2 l3 HC.out.1 ho.2.2.2.2.1 ho.2.2.2.2.2.1 h1 h2))
  have yg:=zh (fun w' (h:Below w9.heap.size w9 w')=>zpu (b:=b) (F:=300) (vT.out w' (zka uS.out h)) (vS.out w' h) jF.out.2.2.1 (Nat.le_trans (zya jF.out.2.2.1 jF.out.2.2.2.1) (by decide)) i300 (by decide));clear wU HF9 HKQ9 rA mr;obtain⟨VB,vB⟩:=zX (zkL qp);obtain⟨NQ,hNQ⟩:=zX (chkN qp);simp only[vB]at fM iK kW;simp only[hNQ]at iK kW;clear vB hNQ;have HD9:=zh (zs w9);obtain⟨q0,q1,q2,q3,q4,q5⟩:=box6 (BQ.out _ HD9.out);go_wp2_with fail;refine fM.out.mono ?_;rintro en wA ⟨rfl,hbA⟩;have zn:=zh (zka HD9.out hbA);clear hbA q0 q1 q2 q3 q4 q5 fM
  cases VB
  ·go_wp2_with fail;go_ret;exact⟨rfl,eH.out _ (zka uS.out zn.out)⟩
  have xR:=zh (show NQ=0->dffE p qp b 300=fndE (fun s=>decide (errE p 300 s=0)) (allS b (lenE p.vs b))from fun h=>by first|exact kW.out rfl h|exact kW.out trivial h|exact kW.out h);clear kW;obtain⟨q0,q1,q2,q3,q4,q5⟩:=box6 (BQ.out _ zn.out);go_wp2_with fail;refine(iK.out _ zn.out).mono ?_;rintro en wB ⟨AB,cB,rfl,hbB⟩;have oM:=zh (zka zn.out hbB);clear hbB q0 q1 q2 q3 q4 q5 iK;simp only[if_true];by_cases hN0:NQ=0;rotate_left 1
  ·have hgn:(0:Int)<(NQ:Int):=by omega
   go_wp2_with fail;go_ret;exact⟨rfl,eH.out _ (zka uS.out oM.out)⟩
  have hgn:¬ (0:Int)<(NQ:Int):=by omega
  have xU:=zh (xR.out hN0);clear hN0 xR;obtain⟨q0,q1,q2,q3,q4,q5⟩:=box6 (BQ.out _ oM.out);obtain⟨p0,p1,p2,p3,p4,p5⟩:=box6 (uM.out _ (zka uS.out oM.out));obtain⟨x0,x1,x2⟩:=zky (iV.out _ (zka uS.out oM.out));rw[xU.out]at yg;obtain⟨f,hf⟩:∃f:SS->Bool,(fun s=>decide (errE p 300 s=0))=f:=⟨_,rfl⟩
  have wH:=zh hf;rw[hf]at yg;clear hf xU;obtain⟨⟨s1,m1,f1⟩,hR⟩:=zX (fndE f (allS b (lenE p.vs b)));have dx:=zh hR;rw[hR]at yg;clear hR;have HDF2:=zh (yg.out _ oM.out);clear yg;go_wp2_with fail;refine HDF2.out.mono ?_;rintro en wC ⟨hbC,vC,rfl,yF⟩;simp only at yF;obtain⟨As,cs,Bs,ds,Ds,es,rfl⟩:∃A c B d D e,vC=.agg #[.slice A s1.cells.length c,.slice B s1.tin.length d,.slice D s1.tout.length e]:=by
   obtain⟨A,c,B,d,D,e,h,-⟩:=yF;exact⟨_,_,_,_,_,_,h⟩
  have hbD:=zkb hbC (.cells #[.slice As s1.cells.length cs,.slice Bs s1.tin.length ds,.slice Ds s1.tout.length es] 32);have kD:=heap_alloc_new wC (.cells #[.slice As s1.cells.length cs,.slice Bs s1.tin.length ds,.slice Ds s1.tout.length es] 32);have Am:=yF.any.later (zkb (zs wC) (.cells #[.slice As s1.cells.length cs,.slice Bs s1.tin.length ds,.slice Ds s1.tout.length es] 32));obtain⟨wD,zY⟩:=zX (wC.alloc (.cells #[.slice As s1.cells.length cs,.slice Bs s1.tin.length ds,.slice Ds s1.tout.length es] 32));obtain⟨ND,yL⟩:=zX (wC.heap.size);rw[zY]at hbD kD Am;rw[yL]at kD;have uR:=zh (zka uS.out (zka oM.out hbD));have oJ:=zh kD;have HSD:=zh Am;have HKN:=zh (show N1+2<=wD.heap.size by have:=uR.out.size;have:=HZ2.out;omega);have HT:=zh (show zry 27 #[.pointer (some ⟨N1,0,none⟩)] (fun _ s=>f s) (allS b (lenE p.vs b)) wD.heap.size (fun _=>FrI wD.heap.size wD)from by
   refine⟨fun n W W' h h1 h2=>h.keep h1 h2,fun n W h=>h.size,fun n s v W9 g hI hg hgs ho hx=>?_⟩;have hx2:=znq jF.out.2.2.1 s (List.mem_of_getElem? hx);have hlt:∀q,q<wD.heap.size->W9.heap[q]?=wD.heap[q]?:=fun q hq=>hI.same q hq;have hk0:W9.heap[N1]?=some (.cells (pgA p (some a) c1 A2 c2 A3 c3) 43 (0,0)):=(hlt N1 (by have:=HKN.out;omega)).trans (uM.out _ uR.out);have hpv:PV W9 Any p (pv (some a) p.vs.length c1 A2 p.prs.length c2 p.m.k p.m.n p.m.s A3 p.m.ks.length c3):=((vT.out _ uR.out).keep (S':=fun q=>q<wD.heap.size) (fun q _ h=>h) fun _ _ _=>rfl).keep (fun _ _ _=>trivial) fun q h _=>hlt q h;refine(zxl hk0 hpv (ho.sv hx2.1) hx2.2).mono ?_;rintro e' W' ⟨rfl,hb⟩;refine⟨?_,hI.keep hb.size fun q hq=>hb.block q (Nat.lt_of_lt_of_le hq hI.size),Chg.of_below hb⟩;rw[<-wH.out])
  have bz:=zh (show Calls _ _ _ _ (FstP (fndE f (allS b (lenE p.vs b))) (fun _=>FrI wD.heap.size wD) wD)from znw (W:=wD) (A1:=some a) (c1:=c1) (vs:=p.vs) (b:=b) (qh.out.vars.later (eH.out _ uR.out)) qh.out.lv jF.out.2.2.1 (Nat.le_trans (zya jF.out.2.2.1 jF.out.2.2.2.1) (by decide)) zKi HT.out ⟨zl,fun _ _=>rfl⟩);rw[dx.out]at bz;clear p0 p1 p2 p3 p4 p5 x0 x1 x2 q0 q1 q2 q3 q4 q5 hbC yF hbD kD Am HT HDF2;obtain⟨p0,p1,p2,p3,p4,p5⟩:=box6 (uM.out _ uR.out);obtain⟨x0,x1,x2⟩:=zky (iV.out _ uR.out);have nZ:∀(fn:Fn) (first cap:Array Value) (w:World),(Instr.makeFunc fn first cap).run prog w=.ok (.func fn first cap) w:=fun _ _ _ _=>rfl;go_wp2_with fail
  try rw[zY]
  clear zY yL;refine bz.out.mono ?_;rintro en wE ⟨vE,rfl,yE,hiE,hcE⟩;have hbE:=hiE.below hcE;simp only at yE;obtain⟨At,ct,Bt,dt,Dt,et,rfl⟩:∃A c B d D e,vE=.agg #[.slice A s1.cells.length c,.slice B s1.tin.length d,.slice D s1.tout.length e]:=by
   obtain⟨A,c,B,d,D,e,h,-⟩:=yE;exact⟨_,_,_,_,_,_,h⟩
  have oh:=zkb hbE (.cells #[.slice At s1.cells.length ct,.slice Bt s1.tin.length dt,.slice Dt s1.tout.length et] 32);have kF:=heap_alloc_new wE (.cells #[.slice At s1.cells.length ct,.slice Bt s1.tin.length dt,.slice Dt s1.tout.length et] 32);have Ak:=yE.any.later (zkb (zs wE) (.cells #[.slice At s1.cells.length ct,.slice Bt s1.tin.length dt,.slice Dt s1.tout.length et] 32));obtain⟨wF,hwF⟩:=zX (wE.alloc (.cells #[.slice At s1.cells.length ct,.slice Bt s1.tin.length dt,.slice Dt s1.tout.length et] 32));obtain⟨NF,hNF⟩:=zX (wE.heap.size);rw[hwF]at oh kF Ak;rw[hNF]at kF;have yl:=zh (zka uR.out oh);have HSF:=zh Ak;have HSE:=zh (HSD.out.later oh);obtain⟨q0,q1,q2⟩:=zky (zkc oJ.out oh);obtain⟨r0,r1,r2⟩:=zky kF;clear p0 p1 p2 p3 p4 p5 x0 x1 x2 yE hiE hcE hbE oh kF Ak bz
  cases f1
  ·go_wp2_with fail;go_ret;exact⟨rfl,eH.out _ yl.out⟩
  ·have hin1:=znq jF.out.2.2.1 s1 (by
    rcases zni f (allS b (lenE p.vs b))with⟨a,t,c,g1,g2,g3,g4⟩|⟨g2,g4⟩
    ·have:=dx.out;rw[g4]at this;injection this with this;rw[g1,<-this];simp
    ·have:=dx.out;rw[g4]at this;injection this with _ this;injection this with _ this
     cases this)
   have eU:=zh (zxt HSE.out HSF.out (by omega));clear hin1;go_wp2_with fail
   try rw[hwF]
   clear hwF hNF;refine eU.out.mono ?_;rintro en wG ⟨rfl,hbG⟩;have HCG:=zh (zka yl.out hbG);clear hbG q0 q1 q2 r0 r1 r2;go_wp2_with fail;go_ret;exact⟨rfl,eH.out _ HCG.out⟩
end
section
open Go.RowKit Go.ChangeShapes Go.WideShapes Go.ChangeAt Go.Deep
theorem zno:prog.cellsOf 41=4:=by kernel_rfl
theorem zvc:prog.bytesOf 41=56:=by kernel_rfl
theorem zzi:prog.cellsOf 5=1:=by kernel_rfl
theorem zxa:prog.cellsOf 3=1:=by kernel_rfl
theorem zw9:prog.cellsOf 9=1:=by kernel_rfl
theorem zvb:prog.cellsOf 39=1:=by kernel_rfl
theorem zl5{H:Type}{P:Program}{e:TypeId}:∀ {l:List (DataW H)} {d:DataW H},d∈l->∀n∈d.weights P e,n∈DataW.weightsAll P e l
 | d0::l,d,hd,n,hn=>by
  simp only[DataW.weightsAll,List.mem_append];rcases List.mem_cons.1 hd with rfl|hd
  ·exact .inl hn
  ·exact .inr (zl5 hd n hn)
theorem zna{H:Type}:∀(ks:List T) (ds:List (DataW H)),ks.length=ds.length->(∀i (h:i<ks.length) (h':i<ds.length),size ks[i]<=Rows.uptoBulk ds[i])->zkR ks<=Rows.uptoBulkAll ds
 | [],[],_,_=>by simp[zkR]
 | t::ts,d::ds,hl,h=>by
  have h0:=h 0 (Nat.zero_lt_succ _) (Nat.zero_lt_succ _);have h1:=zna ts ds (by simpa using hl) (fun i hi hi'=>h (i+1) (Nat.succ_lt_succ hi) (Nat.succ_lt_succ hi'));simp only[List.getElem_cons_zero]at h0;simp only[zkR,Rows.uptoBulkAll];omega
 | [],_::_,hl,_=>by simp at hl
 | _::_,[],hl,_=>by simp at hl
section
variable {H:Type} {enc:TypeId×Value->H} {w:World} {held:Bool}
def zeroT':T:=.nd 0 0 ⟨#[]⟩ []
theorem zqu:∀(fuel:Nat) (cs:List Value) (x:DataW H×List MemPlace),DataW.trod enc prog w 0 (fun _=>true) held fuel 41 cs=some x ->
  (∀n∈x.1.weights prog 41,n<=reachBytes) ->
  ∃t u0 u1 u2 u3,cs=[u0,u1,u2,u3]/\NV w Any t (.agg #[u0,u1,u2,u3])/\t.ks.length*56<=reachBytes/\size t<=Rows.uptoBulk x.1:=by
 intro fuel
 induction fuel using Nat.strongRecOn with
 | _ fuel ih =>
 intro cs x h hw;have hts:=DataW.trod_struct underlying41 h;obtain⟨xs,n,hfu,hx,hcl,hxl,hg⟩:=hts;subst hx;rw[zno]at hcl
 match cs,hcl with
 | [c0,c1,c2,c3],_ =>
 match xs,hxl with
 | [y0,y1,y2,y3],_ =>
 have g0:=hg 0 _ rfl;have g1:=hg 1 _ rfl;have g2:=hg 2 _ rfl;have g3:=hg 3 _ rfl;simp only[zzi,zxa,zw9,zvb,List.drop_zero,List.take_succ_cons,List.take_zero,List.drop_succ_cons,List.getElem?_cons_zero,List.getElem?_cons_succ]at g0 g1 g2 g3;obtain⟨k,e0,e0',wk⟩:=DataW.trod_int underlying5 g0;obtain⟨m,e1,e1',wm⟩:=DataW.trod_int underlying3 g1;obtain⟨s,e2,e2',ws⟩:=DataW.trod_string underlying9 g2;injection e0 with e0;injection e1 with e1;injection e2 with e2;subst e0 e1 e2 e0' e1' e2';have hf:Fld k m s:=by
  refine⟨?_,?_,ws⟩
  ·have:=wk;simp[Lit.wf,IntKind.min,IntKind.max,IntKind.signed,IntKind.bits]at this;omega
  ·have:=wm;simp[Lit.wf,IntKind.min,IntKind.max,IntKind.signed,IntKind.bits]at this;omega
 have hsl:=DataW.trod_slice underlying39 g3;rcases hsl with⟨e3,e3'⟩|⟨a,len,cap,elems,rest,n',hn',e3,e3',_,hl,hm,hel,hat,hsp,_⟩
 ·injection e3 with e3;subst e3 e3';refine⟨.nd k m s [],_,_,_,_,rfl,NV.shut (ks:=[]) hf (Nat.zero_le _) (Nat.zero_le _) zlP.nil,by simp,?_⟩;simp only[size,zkR,List.map_cons,List.map_nil,Rows.uptoBulk];omega
 ·injection e3 with e3;subst e3 e3';obtain⟨hrl,_⟩:=hsp rfl;rw[zno]at hat
  -- what the reach says of this slice,and of its elements
  have hws:∀q∈DataW.weights prog 39 (.slice (elems.map (·.1)) (rest.map (·.1)):DataW H),q<=reachBytes:=by
   intro q hq;refine hw q ?_;simp only[List.map_cons,List.map_nil,DataW.weights,underlying41];simp only[DataW.weightsEach,List.map_cons,List.map_nil,List.mem_append];exact .inr (.inr (.inr (.inl hq)))
  simp only[DataW.weights,underlying39,zvc]at hws;have hcap:cap*56<=reachBytes:=by
   have:=hws _ (List.mem_cons_self ..);simp only[List.length_map]at this;rw[hel,hrl]at this;rw[show cap=len+(cap-len) by omega];exact this
  have yA:∀y∈elems,∀q∈y.1.weights prog 41,q<=reachBytes:=fun y hy q hq =>
   hws q (List.mem_cons_of_mem _ (List.mem_append_left _ (zl5 (List.mem_map_of_mem hy) q hq)))
  have key:∀i (hi:i<elems.length),∃t u0 u1 u2 u3,w.cells? 0 (a.add (i*4)) 4=some [u0,u1,u2,u3]/\NV w Any t (.agg #[u0,u1,u2,u3])/\size t<=Rows.uptoBulk elems[i].1:=by
   intro i hi;have h1:=hat i (by omega);rw[List.getElem?_eq_getElem hi]at h1;obtain⟨cs',hcs,ht⟩:=Option.bind_eq_some_iff.1 h1;obtain⟨t,u0,u1,u2,u3,rfl,hn,_,hb⟩:=ih n' (by omega) cs' elems[i] ht (yA _ (List.getElem_mem hi));exact⟨t,u0,u1,u2,u3,hcs,hn,hb⟩
  have hex:∃ks:List T,ks.length=elems.length/\∀i (h:i<ks.length) (h':i<elems.length),(∃u0 u1 u2 u3,w.cells? 0 (a.add (i*4)) 4=some [u0,u1,u2,u3]/\NV w Any ks[i] (.agg #[u0,u1,u2,u3]))/\size ks[i]<=Rows.uptoBulk elems[i].1:=by
   classical
   refine⟨(List.range elems.length).map fun i=>if h:i<elems.length then(key i h).choose else zeroT',by simp,fun i h h'=>?_⟩;simp only[List.getElem_map,List.getElem_range,h',dif_pos];obtain⟨u0,u1,u2,u3,h1,h2,h3⟩:=(key i h').choose_spec;exact⟨⟨u0,u1,u2,u3,h1,h2⟩,h3⟩
  obtain⟨ks,hkl,hks⟩:=hex;have hlen:ks.length=len:=by omega
  have hLK:ks.length<=LK:=by unfold LK;unfold reachBytes at hcap;omega
  refine⟨.nd k m s ks,_,_,_,_,rfl,?_,?_,?_⟩
  ·rw[<-hlen];refine NV.shut hf hLK (by omega) fun i hi=>?_;obtain⟨⟨u0,u1,u2,u3,hc,hn⟩,_⟩:=hks i hi (by omega);obtain⟨_,_,hcell⟩:=World.cells?_some hc;refine⟨a,u0,u1,u2,u3,rfl,trivial,⟨?_,?_,?_,?_⟩,hn⟩
   ·have:=hcell 0 (by omega);simpa[Addr.add]using this
   ·have:=hcell 1 (by omega);simpa[Addr.add]using this
   ·have:=hcell 2 (by omega);simpa[Addr.add]using this
   ·have:=hcell 3 (by omega);simpa[Addr.add]using this
  ·simp only[T.ks_nd];omega
  ·have hb:=zna ks (elems.map (·.1)) (by simp[hkl]) (fun i h h'=>by
    have:=(hks i h (by simpa using h')).2;simpa using this)
   simp only[size,List.map_cons,List.map_nil,Rows.uptoBulk,Rows.uptoBulkAll];omega
end
theorem Tryz.own:ownKnob prog.godebug=none:=by kernel_rfl
theorem Tryz.laidOut:laidOutB prog=true:=by kernel_rfl
theorem zu9:prog.cellsOf 57=3:=by kernel_rfl
theorem zzk:prog.bytesOf 57=32:=by kernel_rfl
section
variable {H:Type} {enc:TypeId×Value->H} {w:World} {held:Bool}
theorem zr4{ty E:TypeId}{n b:Nat}(ht:prog.underlying ty=some (.slice E))(hc:prog.cellsOf E=n)(hb:prog.bytesOf E=b){fuel:Nat}{cs:List Value}{x:DataW H×List MemPlace}
  (h:DataW.trod enc prog w 0 (fun _=>true) held fuel ty cs=some x)(hw:∀q∈x.1.weights prog ty,q<=reachBytes) :
  cs=[.slice none 0 0]\/∃a len cap,cs=[.slice (some a) len cap]/\len<=cap/\cap*b<=reachBytes/\∀i,i<len->∃cs' y n',w.cells? 0 (a.add (i*n)) n=some cs'/\DataW.trod enc prog w 0 (fun _=>true) held n' E cs'=some y/\∀q∈y.1.weights prog E,q<=reachBytes:=by
 have hsl:=DataW.trod_slice ht h;rcases hsl with⟨e3,e3'⟩|⟨a,len,cap,elems,rest,n',hn',e3,e3',_,hl,hm,hel,hat,hsp,_⟩
 ·exact .inl e3
 ·refine .inr ⟨a,len,cap,e3,hl,?_,?_⟩
  ·obtain⟨hrl,_⟩:=hsp rfl;subst e3';simp only[DataW.weights,ht,hb]at hw;have:=hw _ (List.mem_cons_self ..);simp only[List.length_map]at this;rw[hel,hrl]at this;rw[show cap=len+(cap-len) by omega];exact this
  ·intro i hi;subst e3';simp only[DataW.weights,ht,hb]at hw;have hi':i<elems.length:=by omega
   have h1:=hat i (by omega);rw[List.getElem?_eq_getElem hi',hc]at h1;obtain⟨cs',hcs,ht'⟩:=Option.bind_eq_some_iff.1 h1;exact⟨cs',elems[i],n',hcs,ht',fun q hq=>hw q (List.mem_cons_of_mem _ (List.mem_append_left _ (zl5 (List.mem_map_of_mem (List.getElem_mem hi')) q hq)))⟩
theorem zyE{fuel:Nat}{cs:List Value}{x:DataW H×List MemPlace}(h:DataW.trod enc prog w 0 (fun _=>true) held fuel 57 cs=some x) :
  ∃v:VD,cs=[.string v.s,.int .u8 v.k,.int .i64 v.n]/\FldV v:=by
 have hts:=DataW.trod_struct underlying57 h;obtain⟨xs,n,hfu,hx,hcl,hxl,hg⟩:=hts;rw[zu9]at hcl
 match cs,hcl with
 | [c0,c1,c2],_ =>
 match xs,hxl with
 | [y0,y1,y2],_ =>
 have g0:=hg 0 _ rfl;have g1:=hg 1 _ rfl;have g2:=hg 2 _ rfl;obtain⟨s,e2,e2',ws⟩:=DataW.trod_string underlying9 g0;obtain⟨k,e0,e0',wk⟩:=DataW.trod_int underlying5 g1;obtain⟨m,e1,e1',wm⟩:=DataW.trod_int underlying3 g2;injection e0 with e0;injection e1 with e1;injection e2 with e2;subst e0 e1 e2;refine⟨⟨s,k,m⟩,rfl,ws,?_,?_⟩
 ·have:=wk;simp[Lit.wf,IntKind.min,IntKind.max,IntKind.signed,IntKind.bits]at this;constructor<;>simp only<;>omega
 ·have:=wm;simp[Lit.wf,IntKind.min,IntKind.max,IntKind.signed,IntKind.bits]at this;constructor<;>simp only<;>omega
theorem zoH{α:Type}[Inhabited α]{n:Nat}{P:Nat->α->Prop}(h:∀i,i<n->∃x,P i x):∃l:List α,l.length=n/\∀i (hi:i<l.length),P i l[i]:=by
 obtain⟨f,hf⟩:=choose_lt h;exact⟨(List.range n).map f,by simp,fun i hi=>by simp only[List.getElem_map,List.getElem_range];exact hf i (by simpa using hi)⟩
instance:Inhabited VD:=⟨⟨⟨#[]⟩,0,0⟩⟩
theorem zsW{fuel:Nat}{cs:List Value}{x:DataW H×List MemPlace}(h:DataW.trod enc prog w 0 (fun _=>true) held fuel 22 cs=some x)(hw:∀q∈x.1.weights prog 22,q<=reachBytes) :
  ∃(A:Option Addr) (vs:List VD) (c:Nat),cs=[.slice A vs.length c]/\RowV w Any A vs/\vs.length<=4398046510976/\vs.length<=c:=by
 rcases zr4 underlying22 zu9 zzk h hw with rfl|⟨a,len,cap,rfl,hl,hcap,hat⟩
 ·exact⟨none,[],0,rfl,fun i hi=>absurd hi (by simp),Nat.zero_le _,Nat.zero_le _⟩
 ·obtain⟨vs,hvl,hvs⟩:=zoH (n:=len) (P:=fun i (v:VD)=>w.cells? 0 (a.add (i*3)) 3=some [.string v.s,.int .u8 v.k,.int .i64 v.n]/\FldV v) fun i hi=>by
   obtain⟨cs',y,n',hcs,ht,_⟩:=hat i hi;obtain⟨v,rfl,hf⟩:=zyE ht;exact⟨v,hcs,hf⟩
  refine⟨some a,vs,cap,by rw[hvl],fun i hi=>?_,by unfold reachBytes at hcap;omega,by omega⟩;obtain⟨hc,hf⟩:=hvs i hi;obtain⟨_,_,hcell⟩:=World.cells?_some hc;refine⟨a,rfl,trivial,⟨?_,?_,?_⟩,hf⟩
  ·have:=hcell 0 (by omega);simpa[Addr.add]using this
  ·have:=hcell 1 (by omega);simpa[Addr.add]using this
  ·have:=hcell 2 (by omega);simpa[Addr.add]using this
theorem zqt{fuel:Nat}{cs:List Value}{x:DataW H×List MemPlace}(h:DataW.trod enc prog w 0 (fun _=>true) held fuel 22 cs=some x)(hw:∀q∈x.1.weights prog 22,q<=reachBytes) :
  ∃(A:Option Addr) (vs:List VD) (c:Nat),cs=[.slice A vs.length c]/\RowV w Any A vs/\vs.length<=LV/\vs.length<=c:=by
 obtain⟨A,vs,c,h1,h2,h3,h4⟩:=zsW h hw;exact⟨A,vs,c,h1,h2,by unfold LV;omega,h4⟩
instance:Inhabited T:=⟨zeroT'⟩
theorem zr8{t:T}{u0 u1 u2 u3:Value}(h:NV w Any t (.agg #[u0,u1,u2,u3])):∃A c,u0=.int .u8 t.k/\u1=.int .i64 t.n/\u2=.string t.s/\u3=.slice A t.ks.length c/\NV w Any t (nv t.k t.n t.s A t.ks.length c):=by
 obtain⟨A,c,e,_⟩:=h.open_;have e':=e;simp only[nv,Value.agg.injEq,Array.mk.injEq,List.cons.injEq,and_true]at e;exact⟨A,c,e.1,e.2.1,e.2.2.1,e.2.2.2,e'▸h⟩
end
theorem zva:prog.cellsOf 75=6:=by kernel_rfl
theorem zzl:prog.bytesOf 75=96:=by kernel_rfl
theorem zzj:prog.cellsOf 43=6:=by kernel_rfl
section
variable {H:Type} {enc:TypeId×Value->H} {w:World} {held:Bool}
instance:Inhabited PR:=⟨⟨⟨#[]⟩,[],zeroT'⟩⟩
theorem zua{fuel:Nat}{cs:List Value}{x:DataW H×List MemPlace}(h:DataW.trod enc prog w 0 (fun _=>true) held fuel 75 cs=some x)(hw:∀q∈x.1.weights prog 75,q<=reachBytes) :
  ∃(r:PR) (A1:Option Addr) (c1:Nat) (A2:Option Addr) (c2:Nat),cs=[.string r.s,.slice A1 r.ps.length c1,.int .u8 r.b.k,.int .i64 r.b.n,.string r.b.s,.slice A2 r.b.ks.length c2]/\PrR w Any r A1 c1 A2 c2:=by
 have hts:=DataW.trod_struct underlying75 h;obtain⟨xs,n,hfu,hx,hcl,hxl,hg⟩:=hts;subst hx;rw[zva]at hcl
 match cs,hcl with
 | [c0,c1,c2,c3,c4,c5],_ =>
 match xs,hxl with
 | [y0,y1,y2],_ =>
 have g0:=hg 0 _ rfl;have g1:=hg 1 _ rfl;have g2:=hg 2 _ rfl;have hw1:∀q∈y1.1.weights prog 22,q<=reachBytes:=fun q hq=>by
  refine hw q ?_;simp only[List.map_cons,List.map_nil,DataW.weights,underlying75];simp only[DataW.weightsEach,List.map_cons,List.map_nil,List.mem_append];exact .inr (.inl hq)
 have hw2:∀q∈y2.1.weights prog 41,q<=reachBytes:=fun q hq=>by
  refine hw q ?_;simp only[List.map_cons,List.map_nil,DataW.weights,underlying75];simp only[DataW.weightsEach,List.map_cons,List.map_nil,List.mem_append];exact .inr (.inr (.inl hq))
 obtain⟨s,e0,_,ws⟩:=DataW.trod_string underlying9 g0;obtain⟨A1,ps,k1,e1,hrow,hlp,hlc⟩:=zqt g1 hw1;obtain⟨t,u0,u1,u2,u3,e2,hn,_,_⟩:=zqu _ _ _ g2 hw2;obtain⟨A2,k2,rfl,rfl,rfl,rfl,hn'⟩:=zr8 hn;injection e0 with e0;injection e1 with e1;change List.take (prog.cellsOf 41) [c2,c3,c4,c5]=_ at e2;rw[zno]at e2;simp only[List.take_succ_cons,List.take_zero,List.cons.injEq,and_true]at e2;obtain⟨rfl,rfl,rfl,rfl⟩:=e2;subst e0 e1;exact⟨⟨s,ps,t⟩,A1,k1,A2,k2,rfl,ws,hrow,hlp,hlc,hn'⟩
theorem zsX{fuel:Nat}{cs:List Value}{x:DataW H×List MemPlace}(h:DataW.trod enc prog w 0 (fun _=>true) held fuel 38 cs=some x)(hw:∀q∈x.1.weights prog 38,q<=reachBytes) :
  ∃(A:Option Addr) (ps:List PR) (c:Nat),cs=[.slice A ps.length c]/\RowP w Any A ps/\ps.length<=LV/\ps.length<=c:=by
 rcases zr4 underlying38 zva zzl h hw with rfl|⟨a,len,cap,rfl,hl,hcap,hat⟩
 ·exact⟨none,[],0,rfl,fun i hi=>absurd hi (by simp),Nat.zero_le _,Nat.zero_le _⟩
 ·obtain⟨ps,hvl,hvs⟩:=zoH (n:=len) (P:=fun i (r:PR)=>∃A1 c1 A2 c2,w.cells? 0 (a.add (i*6)) 6=some [.string r.s,.slice A1 r.ps.length c1,.int .u8 r.b.k,.int .i64 r.b.n,.string r.b.s,.slice A2 r.b.ks.length c2]/\PrR w Any r A1 c1 A2 c2) fun i hi=>by
   obtain⟨cs',y,n',hcs,ht,hwy⟩:=hat i hi;obtain⟨r,A1,c1,A2,c2,rfl,hr⟩:=zua ht hwy;exact⟨r,A1,c1,A2,c2,hcs,hr⟩
  refine⟨some a,ps,cap,by rw[hvl],fun i hi=>?_,by unfold LV;unfold reachBytes at hcap;omega,by omega⟩;obtain⟨A1,c1,A2,c2,hc,hr⟩:=hvs i hi;obtain⟨_,_,hcell⟩:=World.cells?_some hc;refine⟨a,A1,c1,A2,c2,rfl,trivial,⟨?_,?_,?_,?_,?_,?_⟩,hr⟩
  ·have:=hcell 0 (by omega);simpa[Addr.add]using this
  ·have:=hcell 1 (by omega);simpa[Addr.add]using this
  ·have:=hcell 2 (by omega);simpa[Addr.add]using this
  ·have:=hcell 3 (by omega);simpa[Addr.add]using this
  ·have:=hcell 4 (by omega);simpa[Addr.add]using this
  ·have:=hcell 5 (by omega);simpa[Addr.add]using this
theorem zt9{fuel:Nat}{cs:List Value}{x:DataW H×List MemPlace}(h:DataW.trod enc prog w 0 (fun _=>true) held fuel 43 cs=some x)(hw:∀q∈x.1.weights prog 43,q<=reachBytes) :
  ∃(p:PG) (A1:Option Addr) (c1:Nat) (A2:Option Addr) (c2:Nat) (A3:Option Addr) (c3:Nat),cs=[.slice A1 p.vs.length c1,.slice A2 p.prs.length c2,.int .u8 p.m.k,.int .i64 p.m.n,.string p.m.s,.slice A3 p.m.ks.length c3]/\PgR w Any p A1 c1 A2 c2 A3 c3:=by
 have hts:=DataW.trod_struct underlying43 h;obtain⟨xs,n,hfu,hx,hcl,hxl,hg⟩:=hts;subst hx;rw[zzj]at hcl
 match cs,hcl with
 | [c0,c1,c2,c3,c4,c5],_ =>
 match xs,hxl with
 | [y0,y1,y2],_ =>
 have g0:=hg 0 _ rfl;have g1:=hg 1 _ rfl;have g2:=hg 2 _ rfl;have hw0:∀q∈y0.1.weights prog 22,q<=reachBytes:=fun q hq=>by
  refine hw q ?_;simp only[List.map_cons,List.map_nil,DataW.weights,underlying43];simp only[DataW.weightsEach,List.map_cons,List.map_nil,List.mem_append];exact .inl hq
 have hw1:∀q∈y1.1.weights prog 38,q<=reachBytes:=fun q hq=>by
  refine hw q ?_;simp only[List.map_cons,List.map_nil,DataW.weights,underlying43];simp only[DataW.weightsEach,List.map_cons,List.map_nil,List.mem_append];exact .inr (.inl hq)
 have hw2:∀q∈y2.1.weights prog 41,q<=reachBytes:=fun q hq=>by
  refine hw q ?_;simp only[List.map_cons,List.map_nil,DataW.weights,underlying43];simp only[DataW.weightsEach,List.map_cons,List.map_nil,List.mem_append];exact .inr (.inr (.inl hq))
 obtain⟨A1,vs,k1,e0,hrow,hlv,hlvc⟩:=zqt g0 hw0;obtain⟨A2,ps,k2,e1,wS,hlp,hlpc⟩:=zsX g1 hw1;obtain⟨t,u0,u1,u2,u3,e2,hn,_,_⟩:=zqu _ _ _ g2 hw2;obtain⟨A3,k3,rfl,rfl,rfl,rfl,hn'⟩:=zr8 hn;injection e0 with e0;injection e1 with e1;change List.take (prog.cellsOf 41) [c2,c3,c4,c5]=_ at e2;rw[zno]at e2;simp only[List.take_succ_cons,List.take_zero,List.cons.injEq,and_true]at e2;obtain⟨rfl,rfl,rfl,rfl⟩:=e2;subst e0 e1;exact⟨⟨vs,ps,t⟩,A1,k1,A2,k2,A3,k3,rfl,hrow,hlv,hlvc,wS,hlp,hlpc,hn'⟩
end
theorem zyB{H:Type}{enc:TypeId×Value->H}{W:World}{base:Nat}{v:Value}{d:DataW H}{p:List MemPlace}(hok:Value.okWide prog W .any base 43 v)
  (h:DataW.Trod enc prog W 0 (fun _=>true) true 43 v d p)(hw:∀n∈d.weights prog 43,n<=reachBytes):∃g,PV W Any g v:=by
 obtain⟨cs,rfl,hcs⟩:=okWide_struct underlying43 hok;obtain⟨fuel,hf⟩:=h;obtain⟨g,A1,c1,A2,c2,A3,c3,e,hr⟩:=zt9 hf hw;refine⟨g,A1,c1,A2,c2,A3,c3,?_,hr⟩;have:cs = #[.slice A1 g.vs.length c1,.slice A2 g.prs.length c2,.int .u8 g.m.k,.int .i64 g.m.n,.string g.m.s,.slice A3 g.m.ks.length c3]:=by
  apply Array.ext';simpa[Value.cells]using e
 rw[this]
section
variable {H:Type} {enc:TypeId×Value->H} {w:World} {held:Bool}
instance:Inhabited (List Int):=⟨[]⟩
end
theorem zxb:prog.cellsOf 24=3:=by kernel_rfl
theorem zKo{H:Type}{enc:TypeId×Value->H}{W:World}{base:Nat}{v:Value}{d:DataW H}{p:List MemPlace}(hok:Value.okWide prog W .any base 24 v)
  (h:DataW.Trod enc prog W 0 (fun _=>true) true 24 v d p):∃x:BX,v=.agg #[.int .i64 x.v,.int .i64 x.l,.int .i64 x.i]/\(-9223372036854775808<=x.v/\x.v<=9223372036854775807)/\(-9223372036854775808<=x.l/\x.l<=9223372036854775807)/\(-9223372036854775808<=x.i/\x.i<=9223372036854775807):=by
 obtain⟨cs,rfl,hcs⟩:=okWide_struct underlying24 hok;obtain⟨fuel,hf⟩:=h;have hts:=DataW.trod_struct underlying24 hf;obtain⟨xs,n,hfu,hx,hcl,hxl,hg⟩:=hts;rw[zxb]at hcl;obtain⟨cs⟩:=cs;simp only[Value.cells]at hcl hg
 match cs,hcl with
 | [c0,c1,c2],_ =>
 match xs,hxl with
 | [y0,y1,y2],_ =>
 have g0:=hg 0 _ rfl;have g1:=hg 1 _ rfl;have g2:=hg 2 _ rfl;obtain⟨m0,e0,_,w0⟩:=DataW.trod_int underlying3 g0;obtain⟨m1,e1,_,w1⟩:=DataW.trod_int underlying3 g1;obtain⟨m2,e2,_,w2⟩:=DataW.trod_int underlying3 g2;injection e0 with e0;injection e1 with e1;injection e2 with e2;subst e0 e1 e2;simp[Lit.wf,IntKind.min,IntKind.max,IntKind.signed,IntKind.bits]at w0 w1 w2;exact⟨⟨m0,m1,m2⟩,rfl,⟨by simp only;omega,by simp only;omega⟩,⟨by simp only;omega,by simp only;omega⟩,⟨by simp only;omega,by simp only;omega⟩⟩
end
end Go.Proofs.YtembgnhbpmfhpaaGreat
