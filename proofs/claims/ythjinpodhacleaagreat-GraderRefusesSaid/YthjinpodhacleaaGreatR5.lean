/-
  Texts of the proof, put together without their remarks: ScK, Cq, Stp, Rws, Sr, Ev, Sq, Stk, Ss.
-/
import Derived.Test.YthjinpodhacleaaGreatR4
set_option linter.unusedSimpArgs false
set_option linter.unusedVariables false
set_option maxHeartbeats 8000000
set_option maxRecDepth 100000
namespace Go.Proofs.YthjinpodhacleaaGreat
open Tryz
section
open Go Go.RowKit
section
variable {P:Program} {ops:Array Oper} {Q:Exit->Act->World->Prop} {md:Region.Mode} {S1 S2:World->Prop} {k:Nat}
theorem zxR{i j:Nat}{o o':Oper}{fuel:Nat}{listed:Array Bool}{a:Act}{w:World}(hr:Region.ready md ops listed=[i,j])(ho:ops[i]?=some o)(ho':ops[j]?=some o')
  (h:∀K':Act->World->Prop,Shut (∀a w,S1 w/\S2 w->wpG P md ops Q S1 S2 k fuel (listed.setIfInBounds i true) a w->K' a w)->if Region.wanted o (yielded ops a.tmps)=true then Oper.wp P o a w K' Q else K' (a.put o.dst undef) w)
  (h':∀K':Act->World->Prop,Shut (∀a w,S1 w/\S2 w->wpG P md ops Q S1 S2 k fuel (listed.setIfInBounds j true) a w->K' a w)->if Region.wanted o' (yielded ops a.tmps)=true then Oper.wp P o' a w K' Q else K' (a.put o'.dst undef) w) :
  wpG P md ops Q S1 S2 k (fuel+1) listed a w:=by
 refine⟨(fun h0=>by rw[hr]at h0;cases h0),fun x hx=>?_⟩;rw[hr]at hx;simp only[List.mem_cons,List.not_mem_nil,or_false]at hx;rcases hx with rfl|rfl
 ·exact wpOp_step ho fun K' hK=>h K' fun a w hS hW=>hK a w ⟨⟨hS.1,fun _=>hS.2⟩,hW⟩
 ·exact wpOp_step ho' fun K' hK=>h' K' fun a w hS hW=>hK a w ⟨⟨hS.1,fun _=>hS.2⟩,hW⟩
end
def frsN(vs:List VD):Nat->Nat
 | 0=>0
 | j+1=>frsN vs j+(if h:j<vs.length then one1 (zmw (vs.take j) vs[j].s)else 0)
theorem zm9{vs:List VD}{j:Nat}(h:j<vs.length):frsN vs (j+1)=frsN vs j+one1 (zmw (vs.take j) vs[j].s):=by simp[frsN,h]
theorem zmv(vs:List VD):∀j,frsN vs j<=j
 | 0=>by simp[frsN]
 | j+1=>by
  have h:=zmv vs j;rw[frsN]
  split
  ·have:=zmS (zmw (vs.take j) vs[j].s);omega
  ·omega
def prcE(ps:List PR)(j:Nat)(r:PR):Nat:=one1 (if zlA ps r.s<(j:Int)then 22 else 0)+frsN r.ps r.ps.length+cntV ps r.b r.ps
def prcN(ps:List PR):Nat->Nat
 | 0=>0
 | j+1=>prcN ps j+(if h:j<ps.length then prcE ps j ps[j]else 0)
theorem zoe{ps:List PR}{j:Nat}(h:j<ps.length):prcN ps (j+1)=prcN ps j+prcE ps j ps[j]:=by simp[prcN,h]
def chkN(p:PG):Nat:=frsN p.vs p.vs.length+prcN p.prs p.prs.length+cntV p.prs p.m p.vs
theorem zoX{t:T}(h:zkY t=true):dep t<=80/\size t<=2000:=by
 simp only[zkY,Bool.and_eq_true]at h;have h1:=h.1;rw[zxA]at h1
 split at h1
 ·assumption
 ·simp at h1
theorem zlu{p:PG}(h:zkA p=true):p.vs.length<=32/\p.prs.length<=64/\(∀r∈p.prs,r.ps.length<=8/\dep r.b<=80/\size r.b<=2000)/\dep p.m<=80/\size p.m<=2000:=by
 simp only[zkA,Bool.and_eq_true,decide_eq_true_eq,List.all_eq_true]at h;refine⟨h.1.1.1.1,h.1.1.1.2,fun r hr=>?_,zoX h.2⟩;have:=h.1.2 r hr;simp only[zod,Bool.and_eq_true,decide_eq_true_eq]at this;exact⟨this.1.1.2,zoX this.2⟩
theorem zrb(ps:List PR)(h:∀r∈ps,r.ps.length<=8/\dep r.b<=80/\size r.b<=2000):∀j,prcN ps j<=j*2009
 | 0=>by simp[prcN]
 | j+1=>by
  have h1:=zrb ps h j;rw[prcN]
  split
  ·rename_i hj;have h2:=h _ (List.getElem_mem hj);have h3:=zmS (if zlA ps ps[j].s<(j:Int)then 22 else 0);have h4:=zmv ps[j].ps ps[j].ps.length;have h5:=zuR ps ps[j].b ps[j].ps;unfold prcE;omega
  ·omega
theorem RowV.take{w:World}{S:Nat->Prop}{A:Option Addr}{vs:List VD}(h:RowV w S A vs)(j:Nat):RowV w S A (vs.take j):=fun i hi=>by
 have h1:i<vs.length:=by simp at hi;omega
 obtain⟨a,h2,h3,h4,h5⟩:=h i h1;exact⟨a,h2,h3,by simpa using h4,by simpa using h5⟩
theorem RowI.nil{w:World}{S:Nat->Prop}{A:Option Addr}:RowI w S A []:=fun i hi=>by simp at hi
theorem zqd(w:World)(j:Int)(hj:I64 j):RowI (w.alloc (.cells #[.int .i64 j] 3)) Any (some ⟨w.heap.size,0,none⟩) [j]:=fun i hi=>by
 simp only[List.length_singleton,Nat.lt_one_iff]at hi;subst hi;exact⟨_,rfl,trivial,zkR w 3 [.int .i64 j] 0 _ rfl,hj⟩
theorem zmD(n0 fb N:Nat)(pv:Value)(pr er:Int)(q:List Int)(A:Option Addr)(c:Nat)(s:ByteArray)(S:Nat->Prop)(W:World)(hfs:FS W n0 fb N pv)(hq:RowI W S A q)(lJ:q.length<=100000)(hN:N<=1000000) :
  Calls prog 54 ([.int .i64 pr,.slice A q.length c,.string s,.int .i64 er].toArray ++ #[.pointer (some ⟨fb,0,none⟩)]) W (RepP W n0 fb pv (N+one1 er)):=by
 simpa using zmE n0 fb N pv pr er q A c s S W hfs hq lJ hN
theorem VsI.chg2{Rd:World->Prop}{n0 fb:Nat}{Wb wr wk w':World}{pv pv':Value}{N:Nat}(h:VsI Rd n0 fb Wb pv N wr pv')(hb:Below wr.heap.size wr wk)(hc:Chg (fun b=>b=fb\/pv'.ownBlock=some b) wk w'):Chg (fun b=>b=fb\/pv.ownBlock=some b) Wb w' :=
 (h.chg.trans (Chg.of_below hb)).trans2 hc fun b hlt hh=>by
  rcases hh with hh|hh
  ·exact .inl hh
  ·rcases h.own b hh with h1|h1
   ·exact .inr h1
   ·omega
theorem VsI.stepK{Rd:World->Prop}{n0 fb:Nat}{Wb wr w5 W6:World}{pv pv':Value}{N N':Nat}{e:Ending}(hk:∀W W' pv N,Rd W->FS W n0 fb N pv->Chg (fun b=>b=fb\/pv.ownBlock=some b) W W'->Rd W')(h:VsI Rd n0 fb Wb pv N wr pv')(hb:Below wr.heap.size wr w5)(hp:RepP w5 n0 fb pv' N' e W6) :
  ∃jg,VsI Rd n0 fb Wb pv N' W6 jg:=by
 obtain⟨_,jg,hfs,aY,hc⟩:=hp;have sN:=h.fs.later hb;have hz:=h.chg.size;have qE:=hb.size;refine⟨jg,hk w5 W6 pv' N (hk wr w5 pv' N h.rd h.fs (Chg.of_below hb)) sN hc,hfs,fun b hb'=>?_,h.chg2 hb hc⟩;rcases aY b hb' with h1|h1
 ·exact h.own b h1
 ·exact .inr (by omega)
theorem zmG(vs:List VD)(j:Nat)(hj:j<=vs.length)(A:Option Addr)(c:Nat)(s:ByteArray)(S:Nat->Prop)(w:World)(hrow:RowV w S A vs)(hl:vs.length<=LV) :
  Calls prog 56 #[.slice A j c,.string s] w fun e w'=>e=.returned (.int .i64 (zmw (vs.take j) s))/\Below w.heap.size w w':=by
 have h:=zoo (vs.take j) A c s S w (hrow.take j) (by simp;omega);rwa[show(vs.take j).length=j by simp;omega]at h
theorem zpO:IsFn prog 56 f56:=⟨func56,by kernel_rfl,by kernel_rfl⟩
theorem zyu:IsFn prog 57 f57:=⟨func57,by kernel_rfl,by kernel_rfl⟩
theorem zsb:IsFn prog 54 Tryz.f54:=⟨func54,by kernel_rfl,by kernel_rfl⟩
theorem zlJ(p:PG)(S:Nat->Prop)(v:Value)(W:World)(hv:PV W S p v):Calls prog 26 #[v] W fun e w'=>∃A c,e=.returned (.slice A (if zkA p=true then chkN p else 0) c)/\Below W.heap.size W w':=by
 obtain⟨NN,mW⟩:=zX ((if zkA p=true then chkN p else 0));rw[mW];have oH:=zh mW;clear mW;have hvv:=hv;obtain⟨A1,c1,A2,c2,A3,c3,rfl,hr⟩:=hv;have hlv:=zkW hr.lv;have hlp:=zkW hr.lp;obtain⟨L1,hL1⟩:=zX (p.vs.length);obtain⟨L2,hL2⟩:=zX (p.prs.length);obtain⟨k,hk⟩:=zX (p.m.k);obtain⟨n,hn⟩:=zX (p.m.n);obtain⟨s,hs⟩:=zX (p.m.s);obtain⟨l3,hl3⟩:=zX (p.m.ks.length);rw[hL1,hL2,hk,hn,hs,hl3];rw[hL1,hL2,hk,hn,hs,hl3]at hvv;rw[hL1]at hlv;rw[hL2]at hlp;have xS:=zh hvv;have HR:=zh hr;have lu:=zh hL1;have HL2:=zh hL2;have wI:=zh (show p.m.k=k/\p.m.n=n/\p.m.s=s/\p.m.ks.length=l3 from⟨hk,hn,hs,hl3⟩);clear hvv hr hL1 hL2 hk hn hs hl3;go_enter func26,ntmps26;go_wp2_with fail;refine(zlz p S _ _ (xS.out.later (zkb zr _))).mono ?_;rintro e w1 ⟨rfl,aa⟩;have b1:Below W.heap.size W w1:=zka (zkb zr _) aa
 have hp1:=(aa.block W.heap.size (by simp)).trans (heap_alloc_new W (.cells #[.slice A1 L1 c1,.slice A2 L2 c2,.int .u8 k,.int .i64 n,.string s,.slice A3 l3 c3] 30));have hz1:=aa.size;simp only[World.size_alloc]at hz1;have HB1:=zh b1;have HP1:=zh hp1;have HZ1:=zh hz1;obtain⟨a0,a1,a2,a3,a4,a5⟩:=box6 hp1;clear aa b1 hp1
 cases hvb:zkA p
 ·have hN0:NN=0:=by rw[<-oH.out,hvb];rfl
  subst hN0;go_wp2_with fail;go_ret;exact⟨none,0,rfl,HB1.out⟩
 ·have aZ:=zh (zlu hvb);have HNN2:=zh (show chkN p=NN by rw[<-oH.out,hvb];rfl);clear hvb oH;go_upto_region 5 with fail;obtain⟨fb,yK⟩:=zX (w1.heap.size);rw[yK];have og:W.heap.size+1<=fb:=by omega
  have hbw:Below W.heap.size W ((w1.alloc (.cells #[.slice none 0 0] 68)).alloc (.cells #[.func (.func 54) #[] #[.pointer (some ⟨fb,0,none⟩)]] 105)):=zkb (zkb HB1.out _) _;have yM:=zkd (heap_alloc_new w1 (.cells #[.slice none 0 0] 68)) (.cells #[.func (.func 54) #[] #[.pointer (some ⟨fb,0,none⟩)]] 105);have hbR:=heap_alloc_new (w1.alloc (.cells #[.slice none 0 0] 68)) (.cells #[.func (.func 54) #[] #[.pointer (some ⟨fb,0,none⟩)]] 105);simp only[World.size_alloc]at hbR;rw[yK]at yM hbR;have pX:=zkd (zkd HP1.out (.cells #[.slice none 0 0] 68)) (.cells #[.func (.func 54) #[] #[.pointer (some ⟨fb,0,none⟩)]] 105);obtain⟨Wb,kW⟩:=zX ((w1.alloc (.cells #[.slice none 0 0] 68)).alloc (.cells #[.func (.func 54) #[] #[.pointer (some ⟨fb,0,none⟩)]] 105));rw[kW]at hbw yM hbR pX ⊢;have kX:=zh (show Wb.heap.size=fb+2 by rw[<-kW,<-yK];simp);have aU:=zh hbw;have xJ:=zh og
  clear kW yK a0 a1 a2 a3 a4 a5 HP1 HZ1 HB1 hz1;have hrep:=zxv fb fb (fb+1) W.heap.size A1 L1 c1 A2 L2 c2 k n s A3 l3 c3;obtain⟨Rd,yQ⟩:∃Rd:World->Prop,(fun W':World=>W'.heap[fb+1]?=some (.cells #[.func (.func 54) #[] #[.pointer (some ⟨fb,0,none⟩)]] 105 (0,0))/\W'.heap[W.heap.size]?=some (.cells #[.slice A1 L1 c1,.slice A2 L2 c2,.int .u8 k,.int .i64 n,.string s,.slice A3 l3 c3] 30 (0,0)))=Rd:=⟨_,rfl⟩
  rw[yQ]at hrep;have bg:=zh hrep;have oz:=zh (show ∀w':World,Rd w'->w'.heap[fb+1]?=some (.cells #[.func (.func 54) #[] #[.pointer (some ⟨fb,0,none⟩)]] 105 (0,0))/\w'.heap[W.heap.size]?=some (.cells #[.slice A1 L1 c1,.slice A2 L2 c2,.int .u8 k,.int .i64 n,.string s,.slice A3 l3 c3] 30 (0,0))from fun w' h=>by rw[<-yQ]at h;exact h);have aJ:=zh (show ∀w':World,Rd w'->(fun w':World=>(zN6 w' W.heap.size (.slice A1 L1 c1) (.slice A2 L2 c2) (.int .u8 k) (.int .i64 n) (.string s) (.slice A3 l3 c3))/\(zv w' (fb+1) 0 (.func (.func 54) #[] #[.pointer (some ⟨fb,0,none⟩)]))) w' from fun w' h=>⟨box6 (oz.out w' h).2,zc (oz.out w' h).1 rfl⟩);have HI0:=zh (show VsI Rd fb fb Wb (.slice none 0 0) 0 Wb (.slice none 0 0)from⟨by rw[<-yQ];exact⟨hbR,pX⟩,⟨yM,⟨[],World.ownsRow_nil _ _ _ _⟩,zl,by simp[Value.ownBlock]⟩,fun b hb=>.inl hb,Chg.refl _ _⟩)
  have oL:=zh (show ∀w':World,Chg (fun b=>b=fb\/(Value.slice none 0 0).ownBlock=some b) Wb w'->∀b,S b->b<W.heap.size->w'.heap[b]?=W.heap[b]? from fun w' h b hb hlt=>(h.block b (by have:=kX.out;omega) (fun hh=>by rcases hh with hh|hh;omega;simp[Value.ownBlock]at hh)).trans (aU.out.block b hlt));have HD:=zh (show ∀w':World,Chg (fun b=>b=fb\/(Value.slice none 0 0).ownBlock=some b) Wb w'->PV w' (fun b=>S b/\b<W.heap.size) p _/\PgR w' (fun b=>S b/\b<W.heap.size) p A1 c1 A2 c2 A3 c3 from fun w' h=>⟨xS.out.keep (fun b hb hlt=>⟨hb,hlt⟩) (oL.out w' h),HR.out.keep (fun b hb hlt=>⟨hb,hlt⟩) (oL.out w' h)⟩);have hl32:L1<=32:=by have:=aZ.out.1;rw[lu.out]at this;exact this
  have hl64:L2<=64:=by have:=aZ.out.2.1;rw[HL2.out]at this;exact this
  have hlc1:L1<=c1:=by have:=HR.out.lvc;rw[lu.out]at this;exact this
  have pz:L2<=c2:=by have:=HR.out.lpc;rw[HL2.out]at this;exact this
  obtain⟨⟨a0,a1,a2,a3,a4,a5⟩,ar⟩:=aJ.out _ HI0.out.rd;clear hrep yQ hbR pX yM hbw;go_wp2_with fail
  go_loopw [18] (fun i wr=>∃(j:Nat) (pv':Value),j<=L1/\i=.int .i64 j/\VsI Rd fb fb Wb (.slice none 0 0) (frsN p.vs j) wr pv') (fun i _=>L1-(intOf i).toNat)
  case atStart=>exact⟨0,_,Nat.zero_le _,rfl,HI0.out⟩
  case round =>
   obtain⟨j,pv',hj,rfl,hinv⟩:=hrel;have ag:=zh hinv;clear HI0 a0 a1 a2 a3 a4 a5 ar;by_cases hlt:j<L1
   ·have ed:j<p.vs.length:=by rw[lu.out];exact hlt
    obtain⟨a,u,rfl,hsa,Hu,⟨q0,q1,q2⟩,hfu⟩:=(HD.out wr hinv.chg).2.vars.nd ed;have hjc:(j:Int)<=(c1:Int):=by omega
    have hj0:(0:Int)<=(j:Int):=by omega
    obtain⟨⟨a0,a1,a2,a3,a4,a5⟩,ar⟩:=aJ.out _ hinv.rd;clear hinv hsa hfu;go_upto_region 8 with fail;have hbk:Below wr.heap.size wr (wr.alloc (.cells #[.string u.s,.int .u8 u.k,.int .i64 u.n] 38)):=zkb zr _;have eB:=heap_alloc_new wr (.cells #[.string u.s,.int .u8 u.k,.int .i64 u.n] 38);obtain⟨wk,hwk⟩:=zX (wr.alloc (.cells #[.string u.s,.int .u8 u.k,.int .i64 u.n] 38));rw[hwk]at hbk eB ⊢;have fA:=zh (show wk.heap.size=wr.heap.size+1 by rw[<-hwk];simp);have av:=zh hbk;have il:=zh eB;clear hwk hbk eB a0 a1 a2 a3 a4 a5 ar q0 q1 q2;have HRW:=zh (show ∀w':World,Below wk.heap.size wk w'->Rd w' from fun w' h=>bg.out.keep _ _ _ _ ag.out.rd ag.out.fs (Chg.of_below (zka av.out h)))
    have bN:=zh (show ∀w':World,Below wk.heap.size wk w'->(fun w':World=>(zN6 w' W.heap.size (.slice (some a) L1 c1) (.slice A2 L2 c2) (.int .u8 k) (.int .i64 n) (.string s) (.slice A3 l3 c3)/\(zv w' (fb+1) 0 (.func (.func 54) #[] #[.pointer (some ⟨fb,0,none⟩)])))/\zN3 w' wr.heap.size (.string u.s) (.int .u8 u.k) (.int .i64 u.n)) w'/\zU w' from fun w' h=>⟨⟨aJ.out _ (HRW.out w' h),box3 ((h.block _ (by have:=fA.out;omega)).trans il.out)⟩,trivial⟩);have hdr:=(zs wk).drew;have hSS:=bN.out _ hdr;have hbI:=zoD;have hN:=zmv p.vs j;refine wp_region_noPanic ?_;refine zkk (fun w':World=>(zN6 w' W.heap.size (.slice (some a) L1 c1) (.slice A2 L2 c2) (.int .u8 k) (.int .i64 n) (.string s) (.slice A3 l3 c3)/\(zv w' (fb+1) 0 (.func (.func 54) #[] #[.pointer (some ⟨fb,0,none⟩)])))/\zN3 w' wr.heap.size (.string u.s) (.int .u8 u.k) (.int .i64 u.n)) zU 40 (by kernel_rfl) ?_
    refine zT 0 hSS ?_;refine zT 1 hSS ?_;refine zT 3 hSS ?_;refine zT 4 hSS ?_;refine zT 5 hSS ?_;refine zT 6 hSS ?_;refine zT 7 hSS ?_;refine zT 8 hSS ?_;refine zT 9 hSS ?_;refine zT 10 hSS ?_;refine zxR (i:=2) (j:=11) (by kernel_rfl) rfl rfl (fun K hK=>?_) (fun K hK=>?_)
    ·(try simp only[zA,zB,zC]);go_simp;have b2:=zkb hdr (.cells #[.int .i64 (j:Int)] 3);refine hK.out _ _ (bN.out _ b2) ?_;clear hK K;(try simp only[zQ]);refine zo 11 fun K hK=>?_;refine zke (by rfl) (.func 56) [.tmp 31,.tmp 33] _ (by rfl) 56 _ zpO (by rfl) _ (by rfl) _ (znG (zmG p.vs j (by omega) (some a) c1 u.s _ _ (HD.out _ (ag.out.chg.trans (Chg.of_below (zka av.out b2)))).2.vars HR.out.lv)) ?_;rintro vq w3 ⟨rfl,aN⟩;have b3:=zka b2 aN;refine hK.out _ _ (bN.out _ b3) ?_;clear hK K;(try simp only[zQ]);refine zo 12 fun K hK=>?_
     refine zlm (by rfl) (.tmp 23) [.const (.int .i64 (-1)),.tmp 25,.tmp 27,.tmp 34] _ (by rfl) 54 _ zsb #[.pointer (some ⟨fb,0,none⟩)] (by rfl) _ (by rfl) _ (zms (zmD fb fb _ pv' (-1) _ [(j:Int)] (some ⟨wk.heap.size,0,none⟩) 1 u.s _ _ (ag.out.fs.later (zka av.out b3)) (((zqd _ (j:Int) ⟨by omega,by omega⟩).later zr.drew).later aN) (by simp) (by omega))) ?_;rintro vq W6 hp;obtain⟨iV,bS⟩:=ag.out.step bg.out (zka av.out b3) hp;have bO:VsI Rd fb fb Wb (.slice none 0 0) (frsN p.vs (j+1)) W6 iV:=by rw[zm9 ed,Hu.out];exact bS
     have ak:zW (fun w':World=>(zN6 w' W.heap.size (.slice (some a) L1 c1) (.slice A2 L2 c2) (.int .u8 k) (.int .i64 n) (.string s) (.slice A3 l3 c3)/\(zv w' (fb+1) 0 (.func (.func 54) #[] #[.pointer (some ⟨fb,0,none⟩)])))/\zN3 w' wr.heap.size (.string u.s) (.int .u8 u.k) (.int .i64 u.n)) zU W6:=⟨⟨aJ.out _ bO.rd,box3 ((hp.2.elim fun _ h=>h.2.2.block _ (by have:=(zka av.out b3).size;have:=(b3).size;have:=fA.out;omega) (fun hh=>by have hl:=ag.out.fs.lt;rcases hh with hh|hh;(have:=hl.1;omega);(have:=(hl.2 _ hh).2;omega))).trans (((b3).block _ (by have:=fA.out;omega)).trans il.out))⟩,trivial⟩
     refine hK.out _ _ ak ?_;clear hK K;(try simp only[zQ]);refine zd ?_;refine NoPanic.normal ?_;have lD:=zh bO;clear bO bS hp ak;go_wp2_with fail
     go_roundw
     case rel=>exact⟨j+1,_,by omega,by go_num,lD.out⟩
     case measure=>simp[intOf];omega
    ·skip
     refine zke (by rfl) (.func 56) [.tmp 31,.tmp 33] _ (by rfl) 56 _ zpO (by rfl) _ (by rfl) _ (znG (zmG p.vs j (by omega) (some a) c1 u.s _ _ (HD.out _ (ag.out.chg.trans (Chg.of_below (zka av.out hdr)))).2.vars HR.out.lv)) ?_;rintro vq w2 ⟨rfl,ah⟩;have b2:=zka hdr ah;refine hK.out _ _ (bN.out _ b2) ?_;clear hK K;(try simp only[zQ]);refine zo 2 fun K hK=>?_;(try simp only[zA,zB,zC]);go_simp;have b3:=zkb b2 (.cells #[.int .i64 (j:Int)] 3);refine hK.out _ _ (bN.out _ b3) ?_;clear hK K;(try simp only[zQ]);refine zo 12 fun K hK=>?_
     refine zlm (by rfl) (.tmp 23) [.const (.int .i64 (-1)),.tmp 25,.tmp 27,.tmp 34] _ (by rfl) 54 _ zsb #[.pointer (some ⟨fb,0,none⟩)] (by rfl) _ (by rfl) _ (zms (zmD fb fb _ pv' (-1) _ [(j:Int)] (some ⟨w2.heap.size,0,none⟩) 1 u.s _ _ (ag.out.fs.later (zka av.out b3)) (zqd _ (j:Int) ⟨by omega,by omega⟩) (by simp) (by omega))) ?_;rintro vq W6 hp;obtain⟨iV,bS⟩:=ag.out.step bg.out (zka av.out b3) hp;have bO:VsI Rd fb fb Wb (.slice none 0 0) (frsN p.vs (j+1)) W6 iV:=by rw[zm9 ed,Hu.out];exact bS
     have ak:zW (fun w':World=>(zN6 w' W.heap.size (.slice (some a) L1 c1) (.slice A2 L2 c2) (.int .u8 k) (.int .i64 n) (.string s) (.slice A3 l3 c3)/\(zv w' (fb+1) 0 (.func (.func 54) #[] #[.pointer (some ⟨fb,0,none⟩)])))/\zN3 w' wr.heap.size (.string u.s) (.int .u8 u.k) (.int .i64 u.n)) zU W6:=⟨⟨aJ.out _ bO.rd,box3 ((hp.2.elim fun _ h=>h.2.2.block _ (by have:=(zka av.out b3).size;have:=(b3).size;have:=fA.out;omega) (fun hh=>by have hl:=ag.out.fs.lt;rcases hh with hh|hh;(have:=hl.1;omega);(have:=(hl.2 _ hh).2;omega))).trans (((b3).block _ (by have:=fA.out;omega)).trans il.out))⟩,trivial⟩
     refine hK.out _ _ ak ?_;clear hK K;(try simp only[zQ]);refine zd ?_;refine NoPanic.normal ?_;have lD:=zh bO;clear bO bS hp ak;go_wp2_with fail
     go_roundw
     case rel=>exact⟨j+1,_,by omega,by go_num,lD.out⟩
     case measure=>simp[intOf];omega
   ·obtain rfl:L1=j:=by omega
    have qZ:=zh (show VsI Rd fb fb Wb (.slice none 0 0) (frsN p.vs p.vs.length) wr pv' by rw[lu.out];exact ag.out);obtain⟨⟨a0,a1,a2,a3,a4,a5⟩,ar⟩:=aJ.out _ hinv.rd;obtain⟨F1,hF1⟩:=zX (frsN p.vs p.vs.length);have hF32:F1<=32:=by have:=zmv p.vs p.vs.length;have:=aZ.out.1;omega
    have zt:=zh hF1;rw[hF1]at qZ;clear hinv ag hF1 hj hlt;go_wp2_with fail
    go_loopw [40] (fun i wr=>∃(j:Nat) (pv':Value),j<=L2/\i=.int .i64 j/\VsI Rd fb fb Wb (.slice none 0 0) (F1+prcN p.prs j) wr pv') (fun i _=>L2-(intOf i).toNat)
    case atStart=>exact⟨0,_,Nat.zero_le _,rfl,qZ.out⟩
    case round =>
     clear qZ a0 a1 a2 a3 a4 a5 ar;obtain⟨j,pv',hj,rfl,hinv⟩:=hrel;obtain⟨w0,rfl⟩:∃w0,w0=wr:=⟨_,rfl⟩
     have ag:=zh hinv;by_cases hlt:j<L2
     ·have ed:j<p.prs.length:=by rw[HL2.out];exact hlt
      obtain⟨a,r,P1,d1,P2,d2,rfl,hsa,Hr,⟨q0,q1,q2,q3,q4,q5⟩,hpr⟩:=(HD.out w0 hinv.chg).2.procs.nd ed;obtain⟨⟨a0,a1,a2,a3,a4,a5⟩,ar⟩:=aJ.out _ hinv.rd;have cz:=zh hpr;clear hinv hsa hpr;go_upto_region 13 with fail;have hbk:Below w0.heap.size w0 ((w0.alloc (.cells #[.int .i64 (j:Int)] 3)).alloc (.cells #[.string r.s,.slice P1 r.ps.length d1,.int .u8 r.b.k,.int .i64 r.b.n,.string r.b.s,.slice P2 r.b.ks.length d2] 100)):=zkb (zkb zr _) _;have tu:=zkd (heap_alloc_new w0 (.cells #[.int .i64 (j:Int)] 3)) (.cells #[.string r.s,.slice P1 r.ps.length d1,.int .u8 r.b.k,.int .i64 r.b.n,.string r.b.s,.slice P2 r.b.ks.length d2] 100);have pW:=heap_alloc_new (w0.alloc (.cells #[.int .i64 (j:Int)] 3)) (.cells #[.string r.s,.slice P1 r.ps.length d1,.int .u8 r.b.k,.int .i64 r.b.n,.string r.b.s,.slice P2 r.b.ks.length d2] 100);simp only[World.size_alloc]at pW
      obtain⟨wk,hwk⟩:=zX ((w0.alloc (.cells #[.int .i64 (j:Int)] 3)).alloc (.cells #[.string r.s,.slice P1 r.ps.length d1,.int .u8 r.b.k,.int .i64 r.b.n,.string r.b.s,.slice P2 r.b.ks.length d2] 100));rw[hwk]at hbk tu pW ⊢;have fA:=zh (show wk.heap.size=w0.heap.size+2 by rw[<-hwk];simp);have av:=zh hbk;obtain⟨jI,qc⟩:∃jI:World->Prop,(fun W':World=>(Rd W'/\W'.heap[w0.heap.size]?=some (.cells #[.int .i64 (j:Int)] 3 (0,0)))/\W'.heap[w0.heap.size+1]?=some (.cells #[.string r.s,.slice P1 r.ps.length d1,.int .u8 r.b.k,.int .i64 r.b.n,.string r.b.s,.slice P2 r.b.ks.length d2] 100 (0,0)))=jI:=⟨_,rfl⟩
      have jM:=zh (show ∀w':World,jI w'->(fun W':World=>(Rd W'/\W'.heap[w0.heap.size]?=some (.cells #[.int .i64 (j:Int)] 3 (0,0)))/\W'.heap[w0.heap.size+1]?=some (.cells #[.string r.s,.slice P1 r.ps.length d1,.int .u8 r.b.k,.int .i64 r.b.n,.string r.b.s,.slice P2 r.b.ks.length d2] 100 (0,0))) w' from fun w' h=>by rw[<-qc]at h;exact h);have aQ:=zh (show ∀(W W':World) (pv:Value) (N:Nat),jI W->FS W fb fb N pv->Chg (fun b=>b=fb\/pv.ownBlock=some b) W W'->jI W' from fun W W' pv N h hfs hc=>by rw[<-qc]at h ⊢;exact⟨⟨bg.out.keep _ _ _ _ h.1.1 hfs hc,hc.keep h.1.2 (hfs.other h.1.2 (by decide) (by decide))⟩,hc.keep h.2 (hfs.other h.2 (by decide) (by decide))⟩);have HI2:=zh (show VsI jI fb fb wk pv' (F1+prcN p.prs j) wk pv' from⟨by rw[<-qc];exact⟨⟨bg.out.keep _ _ _ _ ag.out.rd ag.out.fs (Chg.of_below hbk),tu⟩,pW⟩,ag.out.fs.later hbk,fun b hb=>.inl hb,Chg.refl _ _⟩)
      have bH:=zh (show ∀w':World,jI w'->(fun w':World=>(zN6 w' W.heap.size (.slice A1 L1 c1) (.slice (some a) L2 c2) (.int .u8 k) (.int .i64 n) (.string s) (.slice A3 l3 c3)/\(zv w' (fb+1) 0 (.func (.func 54) #[] #[.pointer (some ⟨fb,0,none⟩)])))/\(zv w' w0.heap.size 0 (.int .i64 (j:Int)))/\zN6 w' (w0.heap.size+1) (.string r.s) (.slice P1 r.ps.length d1) (.int .u8 r.b.k) (.int .i64 r.b.n) (.string r.b.s) (.slice P2 r.b.ks.length d2)) w' from fun w' h=>⟨aJ.out w' (jM.out w' h).1.1,zc (jM.out w' h).1.2 rfl,box6 (jM.out w' h).2⟩)
      have HD2:=zh (show ∀w':World,Chg (fun b=>b=fb\/pv'.ownBlock=some b) wk w'->PV w' (fun b=>S b/\b<W.heap.size) p _/\PrR w' (fun b=>S b/\b<W.heap.size) r P1 d1 P2 d2 from fun w' h=>⟨(HD.out w' (ag.out.chg2 av.out h)).1,cz.out.keep (fun b hb _=>hb) fun b hb _=>(oL.out w' (ag.out.chg2 av.out h) b hb.1 hb.2).trans (oL.out w0 ag.out.chg b hb.1 hb.2).symm⟩)
      have bN:=zh (show ∀w':World,Below wk.heap.size wk w'->(fun w':World=>(zN6 w' W.heap.size (.slice A1 L1 c1) (.slice (some a) L2 c2) (.int .u8 k) (.int .i64 n) (.string s) (.slice A3 l3 c3)/\(zv w' (fb+1) 0 (.func (.func 54) #[] #[.pointer (some ⟨fb,0,none⟩)])))/\(zv w' w0.heap.size 0 (.int .i64 (j:Int)))/\zN6 w' (w0.heap.size+1) (.string r.s) (.slice P1 r.ps.length d1) (.int .u8 r.b.k) (.int .i64 r.b.n) (.string r.b.s) (.slice P2 r.b.ks.length d2)) w'/\zU w' from fun w' h=>⟨bH.out w' (aQ.out _ _ _ _ HI2.out.rd HI2.out.fs (Chg.of_below h)),trivial⟩);clear hwk hbk tu pW qc a0 a1 a2 a3 a4 a5 ar q0 q1 q2 q3 q4 q5;have hdr:=(zs wk).drew;have hSS:=bN.out _ hdr;have hrb:=aZ.out.2.2.1 r (by rw[<-Hr.out];exact List.getElem_mem ed);have hpN:=zrb p.prs aZ.out.2.2.1 j;obtain⟨rb1,rb2,rb3⟩:=hrb;refine wp_region_noPanic ?_
      refine zkk (fun w':World=>(zN6 w' W.heap.size (.slice A1 L1 c1) (.slice (some a) L2 c2) (.int .u8 k) (.int .i64 n) (.string s) (.slice A3 l3 c3)/\(zv w' (fb+1) 0 (.func (.func 54) #[] #[.pointer (some ⟨fb,0,none⟩)])))/\(zv w' w0.heap.size 0 (.int .i64 (j:Int)))/\zN6 w' (w0.heap.size+1) (.string r.s) (.slice P1 r.ps.length d1) (.int .u8 r.b.k) (.int .i64 r.b.n) (.string r.b.s) (.slice P2 r.b.ks.length d2)) zU 40 (by kernel_rfl) ?_;refine zT 0 hSS ?_;refine zT 1 hSS ?_;refine zT 2 hSS ?_;refine zT 4 hSS ?_;refine zo 3 fun K hK=>?_;refine zke (by rfl) (.func 57) [.tmp 45,.tmp 47] _ (by rfl) 57 _ zyu (by rfl) _ (by rfl) _ (znG (zni p _ _ r.s _ (HD2.out _ (Chg.of_below hdr)).1)) ?_;rintro vq w2 ⟨rfl,ah⟩;have b2:=zka hdr ah;have aC:=bN.out _ b2;obtain⟨PE,BB⟩:=zX (zlA p.prs r.s);rw[BB];have HPE:=zh BB;refine hK.out _ _ aC ?_;clear hK K hSS BB
      (try simp only[zQ]);have uY:=zh (show VsI jI fb fb wk pv' (F1+prcN p.prs j) w2 pv' from⟨aQ.out _ _ _ _ HI2.out.rd HI2.out.fs (Chg.of_below b2),HI2.out.fs.later b2,fun b hb=>.inl hb,Chg.of_below b2⟩);by_cases hpe:PE<(j:Int)
      ·have hd:decide (PE<(j:Int))=true:=decide_eq_true hpe;obtain⟨E1,hE1⟩:=zX (one1 (22));have hE2:E1<=1:=by rw[<-hE1];exact zmS _
       have ky:=zh (show one1 (if zlA p.prs r.s<(j:Int)then 22 else 0)=E1 by rw[HPE.out,if_pos hpe];exact hE1);refine zT 5 aC ?_;refine zd ?_;refine NoPanic.normal ?_;obtain⟨⟨⟨a0,a1,a2,a3,a4,a5⟩,ar⟩,ai,r0,r1,r2,r3,r4,r5⟩:=aC.1;clear aC;go_wp2_with fail;refine(zmE fb fb _ pv' (j:Int) 22 [] none 0 r.s Any w2 uY.out.fs RowI.nil (by simp) (by omega)).mono ?_;rintro e w3 hp;obtain⟨v3,rfl⟩:=hp.1;obtain⟨Ai,hi3⟩:=uY.out.stepK aQ.out zr hp;rw[hE1]at hi3;have HI3:=zh hi3;clear hp a0 a1 a2 a3 a4 a5 ar ai r0 r1 r2 r3 r4 r5;obtain⟨⟨⟨a0,a1,a2,a3,a4,a5⟩,ar⟩,ai,r0,r1,r2,r3,r4,r5⟩:=bH.out _ hi3.rd;clear hi3 hE1;go_wp2_with fail
       go_loopw [59] (fun x w'=>∃(i:Nat) (mq:Value),i<=r.ps.length/\x=.int .i64 i/\VsI jI fb fb wk pv' (F1+prcN p.prs j+E1+frsN r.ps i) w' mq) (fun x _=>r.ps.length-(intOf x).toNat)
       case atStart=>exact⟨0,_,Nat.zero_le _,rfl,HI3.out⟩
       case round =>
        clear HI3 a0 a1 a2 a3 a4 a5 ar ai r0 r1 r2 r3 r4 r5;obtain⟨i,mq,hi,rfl,hinv⟩:=hrel;have bI:=zh hinv;by_cases xe:i<r.ps.length
        ·obtain⟨a',u,rfl,hsa,Hu,⟨q0,q1,q2⟩,hfu⟩:=(HD2.out wr hinv.chg).2.row.nd xe;have hic:(i:Int)<=(d1:Int):=by have:=cz.out.lc;omega
         have hi0:(0:Int)<=(i:Int):=by omega
         obtain⟨⟨⟨a0,a1,a2,a3,a4,a5⟩,ar⟩,ai,r0,r1,r2,r3,r4,r5⟩:=bH.out _ hinv.rd;clear hinv hsa hfu;go_upto_region 18 with fail;have hbk:Below wr.heap.size wr (wr.alloc (.cells #[.string u.s,.int .u8 u.k,.int .i64 u.n] 38)):=zkb zr _;have eB:=heap_alloc_new wr (.cells #[.string u.s,.int .u8 u.k,.int .i64 u.n] 38);obtain⟨wv,hwv⟩:=zX (wr.alloc (.cells #[.string u.s,.int .u8 u.k,.int .i64 u.n] 38));rw[hwv]at hbk eB ⊢;have uj:=zh (show wv.heap.size=wr.heap.size+1 by rw[<-hwv];simp);have nT:=zh hbk;have il:=zh eB;clear hwv hbk eB a0 a1 a2 a3 a4 a5 ar ai r0 r1 r2 r3 r4 r5 q0 q1 q2
         have kC:=zh (show ∀w':World,Below wv.heap.size wv w'->(fun w':World=>(fun w':World=>(zN6 w' W.heap.size (.slice A1 L1 c1) (.slice (some a) L2 c2) (.int .u8 k) (.int .i64 n) (.string s) (.slice A3 l3 c3)/\(zv w' (fb+1) 0 (.func (.func 54) #[] #[.pointer (some ⟨fb,0,none⟩)])))/\(zv w' w0.heap.size 0 (.int .i64 (j:Int)))/\zN6 w' (w0.heap.size+1) (.string r.s) (.slice (some a') r.ps.length d1) (.int .u8 r.b.k) (.int .i64 r.b.n) (.string r.b.s) (.slice P2 r.b.ks.length d2)) w'/\zN3 w' wr.heap.size (.string u.s) (.int .u8 u.k) (.int .i64 u.n)) w'/\zU w' from fun w' h=>⟨⟨bH.out _ (aQ.out _ _ _ _ bI.out.rd bI.out.fs (Chg.of_below (zka nT.out h))),box3 ((h.block _ (by have:=uj.out;omega)).trans il.out)⟩,trivial⟩);have hdv:=(zs wv).drew;have hSS:=kC.out _ hdv;have Bq:=zmv r.ps i;refine wp_region_noPanic ?_
         refine zkk (fun w':World=>(fun w':World=>(zN6 w' W.heap.size (.slice A1 L1 c1) (.slice (some a) L2 c2) (.int .u8 k) (.int .i64 n) (.string s) (.slice A3 l3 c3)/\(zv w' (fb+1) 0 (.func (.func 54) #[] #[.pointer (some ⟨fb,0,none⟩)])))/\(zv w' w0.heap.size 0 (.int .i64 (j:Int)))/\zN6 w' (w0.heap.size+1) (.string r.s) (.slice (some a') r.ps.length d1) (.int .u8 r.b.k) (.int .i64 r.b.n) (.string r.b.s) (.slice P2 r.b.ks.length d2)) w'/\zN3 w' wr.heap.size (.string u.s) (.int .u8 u.k) (.int .i64 u.n)) zU 40 (by kernel_rfl) ?_;refine zT 0 hSS ?_;refine zT 1 hSS ?_;refine zT 2 hSS ?_;refine zT 3 hSS ?_;refine zT 4 hSS ?_;refine zT 5 hSS ?_;refine zT 6 hSS ?_;refine zT 7 hSS ?_;refine zT 8 hSS ?_;refine zT 9 hSS ?_;refine zo 10 fun K hK=>?_
         refine zke (by rfl) (.func 56) [.tmp 71,.tmp 73] _ (by rfl) 56 _ zpO (by rfl) _ (by rfl) _ (znG (zmG r.ps i (by omega) (some a') d1 u.s _ _ (HD2.out _ (bI.out.chg.trans (Chg.of_below (zka nT.out hdv)))).2.row cz.out.lp)) ?_;rintro vq w5 ⟨rfl,dU⟩;have b5:=zka hdv dU;refine hK.out _ _ (kC.out _ b5) ?_;clear hK K hSS;(try simp only[zQ]);refine zo 11 fun K hK=>?_;refine zlm (by rfl) (.tmp 64) [.tmp 65,.const (.slice none 0 0),.tmp 67,.tmp 74] _ (by rfl) 54 _ zsb #[.pointer (some ⟨fb,0,none⟩)] (by rfl) _ (by rfl) _ (zms (zmD fb fb _ mq (j:Int) _ [] none 0 u.s Any _ (bI.out.fs.later (zka nT.out b5)) RowI.nil (by simp) (by omega))) ?_;rintro vq W6 hp;obtain⟨iV,bS⟩:=bI.out.stepK aQ.out (zka nT.out b5) hp
         have bO:VsI jI fb fb wk pv' (F1+prcN p.prs j+E1+frsN r.ps (i+1)) W6 iV:=by rw[zm9 xe,Hu.out,<-Nat.add_assoc];exact bS
         have ak:zW (fun w':World=>(fun w':World=>(zN6 w' W.heap.size (.slice A1 L1 c1) (.slice (some a) L2 c2) (.int .u8 k) (.int .i64 n) (.string s) (.slice A3 l3 c3)/\(zv w' (fb+1) 0 (.func (.func 54) #[] #[.pointer (some ⟨fb,0,none⟩)])))/\(zv w' w0.heap.size 0 (.int .i64 (j:Int)))/\zN6 w' (w0.heap.size+1) (.string r.s) (.slice (some a') r.ps.length d1) (.int .u8 r.b.k) (.int .i64 r.b.n) (.string r.b.s) (.slice P2 r.b.ks.length d2)) w'/\zN3 w' wr.heap.size (.string u.s) (.int .u8 u.k) (.int .i64 u.n)) zU W6:=⟨⟨bH.out _ bO.rd,box3 ((hp.2.elim fun _ h=>h.2.2.block _ (by have:=(zka nT.out b5).size;have:=b5.size;have:=uj.out;omega) (fun hh=>by have hl:=bI.out.fs.lt;rcases hh with hh|hh;(have:=hl.1;omega);(have:=(hl.2 _ hh).2;omega))).trans ((b5.block _ (by have:=uj.out;omega)).trans il.out))⟩,trivial⟩
         refine hK.out _ _ ak ?_;clear hK K;(try simp only[zQ]);refine zd ?_;refine NoPanic.normal ?_;have lD:=zh bO;clear bO bS hp ak;go_wp2_with fail
         go_roundw
         case rel=>exact⟨i+1,_,by omega,by go_num,lD.out⟩
         case measure=>simp[intOf];omega
        ·have hil:i=r.ps.length:=by omega
         obtain⟨⟨⟨a0,a1,a2,a3,a4,a5⟩,ar⟩,ai,r0,r1,r2,r3,r4,r5⟩:=bH.out _ hinv.rd;have hge:¬ ((i:Int)<(r.ps.length:Int)):=by omega
         clear hinv;go_wp2_with fail;have Bq:=zmv r.ps r.ps.length;have aG:=zh (show VsI jI fb fb wk pv' (F1+prcN p.prs j+E1+frsN r.ps r.ps.length) wr mq by rw[<-hil];exact bI.out);have yA:=bI.out.chg.size;have hzk:=fA.out;have hz0:=ag.out.chg.size;have hzb:=kX.out;refine(zns 59 _ _ fb fb (zsp fb fb (fb+1) w0.heap.size (j:Int)) p r.b (fun b=>S b/\b<W.heap.size) r.ps P1 d1 [] none 0 (F1+prcN p.prs j+E1+frsN r.ps r.ps.length) mq wr _ _ ⟨(oz.out _ (jM.out _ aG.out.rd).1.1).1,(jM.out _ aG.out.rd).1.2⟩ aG.out.fs (HD2.out _ aG.out.chg).1 (HD2.out _ aG.out.chg).2.body (HD2.out _ aG.out.chg).2.row cz.out.lc RowI.nil (Nat.zero_le _) (fun b hb hbl hh=>?_) (by simp;omega) (by omega) (by omega)).mono ?_
         ·rcases hh with hh|hh
          ·have:=hb.2;omega
          ·rcases aG.out.own b hh with h1|h1
           ·have:=(ag.out.fs.lt.2 b h1).1;have:=hb.2;omega
           ·have:=hb.2;omega
         rintro e W6 hp;obtain⟨v6,rfl⟩:=hp.1;obtain⟨iV,bS⟩:=aG.out.stepK aQ.out zr hp;obtain⟨Af,bO⟩:=ag.out.step bg.out av.out (bS.rep zr (e:=.returned undef) ⟨_,rfl⟩);have Cs:=zh (show VsI Rd fb fb Wb (.slice none 0 0) (F1+prcN p.prs (j+1)) W6 Af by rw[zoe ed,Hr.out,prcE,ky.out];simpa only[Nat.add_assoc]using bO);clear bO bS hp a0 a1 a2 a3 a4 a5 ar ai r0 r1 r2 r3 r4 r5;go_wp2_with fail
         go_roundw
         case rel=>exact⟨j+1,_,by omega,by go_num,Cs.out⟩
         case measure=>simp[intOf];omega
      ·have hd:decide (PE<(j:Int))=false:=decide_eq_false hpe;obtain⟨E1,hE1⟩:=zX (one1 (0));have hE2:E1<=1:=by rw[<-hE1];exact zmS _
       have ky:=zh (show one1 (if zlA p.prs r.s<(j:Int)then 22 else 0)=E1 by rw[HPE.out,if_neg hpe];exact hE1);refine zT 5 aC ?_;refine zd ?_;refine NoPanic.normal ?_;obtain⟨⟨⟨a0,a1,a2,a3,a4,a5⟩,ar⟩,ai,r0,r1,r2,r3,r4,r5⟩:=aC.1;clear aC;go_wp2_with fail;have HI3:=zh (show VsI jI fb fb wk pv' (F1+prcN p.prs j+E1) w2 pv' by rw[<-hE1];exact uY.out);clear hE1
       go_loopw [59] (fun x w'=>∃(i:Nat) (mq:Value),i<=r.ps.length/\x=.int .i64 i/\VsI jI fb fb wk pv' (F1+prcN p.prs j+E1+frsN r.ps i) w' mq) (fun x _=>r.ps.length-(intOf x).toNat)
       case atStart=>exact⟨0,_,Nat.zero_le _,rfl,HI3.out⟩
       case round =>
        clear HI3 a0 a1 a2 a3 a4 a5 ar ai r0 r1 r2 r3 r4 r5;obtain⟨i,mq,hi,rfl,hinv⟩:=hrel;have bI:=zh hinv;by_cases xe:i<r.ps.length
        ·obtain⟨a',u,rfl,hsa,Hu,⟨q0,q1,q2⟩,hfu⟩:=(HD2.out wr hinv.chg).2.row.nd xe;have hic:(i:Int)<=(d1:Int):=by have:=cz.out.lc;omega
         have hi0:(0:Int)<=(i:Int):=by omega
         obtain⟨⟨⟨a0,a1,a2,a3,a4,a5⟩,ar⟩,ai,r0,r1,r2,r3,r4,r5⟩:=bH.out _ hinv.rd;clear hinv hsa hfu;go_upto_region 18 with fail;have hbk:Below wr.heap.size wr (wr.alloc (.cells #[.string u.s,.int .u8 u.k,.int .i64 u.n] 38)):=zkb zr _;have eB:=heap_alloc_new wr (.cells #[.string u.s,.int .u8 u.k,.int .i64 u.n] 38);obtain⟨wv,hwv⟩:=zX (wr.alloc (.cells #[.string u.s,.int .u8 u.k,.int .i64 u.n] 38));rw[hwv]at hbk eB ⊢;have uj:=zh (show wv.heap.size=wr.heap.size+1 by rw[<-hwv];simp);have nT:=zh hbk;have il:=zh eB;clear hwv hbk eB a0 a1 a2 a3 a4 a5 ar ai r0 r1 r2 r3 r4 r5 q0 q1 q2
         have kC:=zh (show ∀w':World,Below wv.heap.size wv w'->(fun w':World=>(fun w':World=>(zN6 w' W.heap.size (.slice A1 L1 c1) (.slice (some a) L2 c2) (.int .u8 k) (.int .i64 n) (.string s) (.slice A3 l3 c3)/\(zv w' (fb+1) 0 (.func (.func 54) #[] #[.pointer (some ⟨fb,0,none⟩)])))/\(zv w' w0.heap.size 0 (.int .i64 (j:Int)))/\zN6 w' (w0.heap.size+1) (.string r.s) (.slice (some a') r.ps.length d1) (.int .u8 r.b.k) (.int .i64 r.b.n) (.string r.b.s) (.slice P2 r.b.ks.length d2)) w'/\zN3 w' wr.heap.size (.string u.s) (.int .u8 u.k) (.int .i64 u.n)) w'/\zU w' from fun w' h=>⟨⟨bH.out _ (aQ.out _ _ _ _ bI.out.rd bI.out.fs (Chg.of_below (zka nT.out h))),box3 ((h.block _ (by have:=uj.out;omega)).trans il.out)⟩,trivial⟩);have hdv:=(zs wv).drew;have hSS:=kC.out _ hdv;have Bq:=zmv r.ps i;refine wp_region_noPanic ?_
         refine zkk (fun w':World=>(fun w':World=>(zN6 w' W.heap.size (.slice A1 L1 c1) (.slice (some a) L2 c2) (.int .u8 k) (.int .i64 n) (.string s) (.slice A3 l3 c3)/\(zv w' (fb+1) 0 (.func (.func 54) #[] #[.pointer (some ⟨fb,0,none⟩)])))/\(zv w' w0.heap.size 0 (.int .i64 (j:Int)))/\zN6 w' (w0.heap.size+1) (.string r.s) (.slice (some a') r.ps.length d1) (.int .u8 r.b.k) (.int .i64 r.b.n) (.string r.b.s) (.slice P2 r.b.ks.length d2)) w'/\zN3 w' wr.heap.size (.string u.s) (.int .u8 u.k) (.int .i64 u.n)) zU 40 (by kernel_rfl) ?_;refine zT 0 hSS ?_;refine zT 1 hSS ?_;refine zT 2 hSS ?_;refine zT 3 hSS ?_;refine zT 4 hSS ?_;refine zT 5 hSS ?_;refine zT 6 hSS ?_;refine zT 7 hSS ?_;refine zT 8 hSS ?_;refine zT 9 hSS ?_;refine zo 10 fun K hK=>?_
         refine zke (by rfl) (.func 56) [.tmp 71,.tmp 73] _ (by rfl) 56 _ zpO (by rfl) _ (by rfl) _ (znG (zmG r.ps i (by omega) (some a') d1 u.s _ _ (HD2.out _ (bI.out.chg.trans (Chg.of_below (zka nT.out hdv)))).2.row cz.out.lp)) ?_;rintro vq w5 ⟨rfl,dU⟩;have b5:=zka hdv dU;refine hK.out _ _ (kC.out _ b5) ?_;clear hK K hSS;(try simp only[zQ]);refine zo 11 fun K hK=>?_;refine zlm (by rfl) (.tmp 64) [.tmp 65,.const (.slice none 0 0),.tmp 67,.tmp 74] _ (by rfl) 54 _ zsb #[.pointer (some ⟨fb,0,none⟩)] (by rfl) _ (by rfl) _ (zms (zmD fb fb _ mq (j:Int) _ [] none 0 u.s Any _ (bI.out.fs.later (zka nT.out b5)) RowI.nil (by simp) (by omega))) ?_;rintro vq W6 hp;obtain⟨iV,bS⟩:=bI.out.stepK aQ.out (zka nT.out b5) hp
         have bO:VsI jI fb fb wk pv' (F1+prcN p.prs j+E1+frsN r.ps (i+1)) W6 iV:=by rw[zm9 xe,Hu.out,<-Nat.add_assoc];exact bS
         have ak:zW (fun w':World=>(fun w':World=>(zN6 w' W.heap.size (.slice A1 L1 c1) (.slice (some a) L2 c2) (.int .u8 k) (.int .i64 n) (.string s) (.slice A3 l3 c3)/\(zv w' (fb+1) 0 (.func (.func 54) #[] #[.pointer (some ⟨fb,0,none⟩)])))/\(zv w' w0.heap.size 0 (.int .i64 (j:Int)))/\zN6 w' (w0.heap.size+1) (.string r.s) (.slice (some a') r.ps.length d1) (.int .u8 r.b.k) (.int .i64 r.b.n) (.string r.b.s) (.slice P2 r.b.ks.length d2)) w'/\zN3 w' wr.heap.size (.string u.s) (.int .u8 u.k) (.int .i64 u.n)) zU W6:=⟨⟨bH.out _ bO.rd,box3 ((hp.2.elim fun _ h=>h.2.2.block _ (by have:=(zka nT.out b5).size;have:=b5.size;have:=uj.out;omega) (fun hh=>by have hl:=bI.out.fs.lt;rcases hh with hh|hh;(have:=hl.1;omega);(have:=(hl.2 _ hh).2;omega))).trans ((b5.block _ (by have:=uj.out;omega)).trans il.out))⟩,trivial⟩
         refine hK.out _ _ ak ?_;clear hK K;(try simp only[zQ]);refine zd ?_;refine NoPanic.normal ?_;have lD:=zh bO;clear bO bS hp ak;go_wp2_with fail
         go_roundw
         case rel=>exact⟨i+1,_,by omega,by go_num,lD.out⟩
         case measure=>simp[intOf];omega
        ·have hil:i=r.ps.length:=by omega
         obtain⟨⟨⟨a0,a1,a2,a3,a4,a5⟩,ar⟩,ai,r0,r1,r2,r3,r4,r5⟩:=bH.out _ hinv.rd;have hge:¬ ((i:Int)<(r.ps.length:Int)):=by omega
         clear hinv;go_wp2_with fail;have Bq:=zmv r.ps r.ps.length;have aG:=zh (show VsI jI fb fb wk pv' (F1+prcN p.prs j+E1+frsN r.ps r.ps.length) wr mq by rw[<-hil];exact bI.out);have yA:=bI.out.chg.size;have hzk:=fA.out;have hz0:=ag.out.chg.size;have hzb:=kX.out;refine(zns 59 _ _ fb fb (zsp fb fb (fb+1) w0.heap.size (j:Int)) p r.b (fun b=>S b/\b<W.heap.size) r.ps P1 d1 [] none 0 (F1+prcN p.prs j+E1+frsN r.ps r.ps.length) mq wr _ _ ⟨(oz.out _ (jM.out _ aG.out.rd).1.1).1,(jM.out _ aG.out.rd).1.2⟩ aG.out.fs (HD2.out _ aG.out.chg).1 (HD2.out _ aG.out.chg).2.body (HD2.out _ aG.out.chg).2.row cz.out.lc RowI.nil (Nat.zero_le _) (fun b hb hbl hh=>?_) (by simp;omega) (by omega) (by omega)).mono ?_
         ·rcases hh with hh|hh
          ·have:=hb.2;omega
          ·rcases aG.out.own b hh with h1|h1
           ·have:=(ag.out.fs.lt.2 b h1).1;have:=hb.2;omega
           ·have:=hb.2;omega
         rintro e W6 hp;obtain⟨v6,rfl⟩:=hp.1;obtain⟨iV,bS⟩:=aG.out.stepK aQ.out zr hp;obtain⟨Af,bO⟩:=ag.out.step bg.out av.out (bS.rep zr (e:=.returned undef) ⟨_,rfl⟩);have Cs:=zh (show VsI Rd fb fb Wb (.slice none 0 0) (F1+prcN p.prs (j+1)) W6 Af by rw[zoe ed,Hr.out,prcE,ky.out];simpa only[Nat.add_assoc]using bO);clear bO bS hp a0 a1 a2 a3 a4 a5 ar ai r0 r1 r2 r3 r4 r5;go_wp2_with fail
         go_roundw
         case rel=>exact⟨j+1,_,by omega,by go_num,Cs.out⟩
         case measure=>simp[intOf];omega
     ·have hjl:j=L2:=by omega
      obtain⟨⟨a0,a1,a2,a3,a4,a5⟩,ar⟩:=aJ.out _ hinv.rd;have hge:¬ ((j:Int)<(L2:Int)):=by omega
      have dA:=zh (show VsI Rd fb fb Wb (.slice none 0 0) (F1+prcN p.prs p.prs.length) w0 pv' by rw[HL2.out,<-hjl];exact ag.out);clear hinv;go_wp2_with fail;have hpN:=zrb p.prs aZ.out.2.2.1 p.prs.length;have hvb:=aZ.out;have yA:=ag.out.chg.size;have hzb:=kX.out;have yH:=(HD.out _ dA.out.chg).2.main;rw[wI.out.1,wI.out.2.1,wI.out.2.2.1,wI.out.2.2.2]at yH;have hcall:=zns _ _ Rd fb fb bg.out p p.m (fun b=>S b/\b<W.heap.size) p.vs A1 c1 [] none 0 (F1+prcN p.prs p.prs.length) pv' w0 _ _ dA.out.rd dA.out.fs (HD.out _ dA.out.chg).1 yH (HD.out _ dA.out.chg).2.vars HR.out.lvc RowI.nil (Nat.zero_le _) (fun b hb hbl hh=>by rcases hh with hh|hh;(have:=hb.2;omega);(rcases dA.out.own b hh with h1|h1;(simp[Value.ownBlock]at h1);(have:=hb.2;omega))) (by simp;omega) (by omega) (by omega);rw[lu.out]at hcall;refine hcall.mono ?_;clear hcall;rintro e W6 hp
      obtain⟨v6,rfl⟩:=hp.1;obtain⟨iV,bS⟩:=dA.out.step bg.out zr hp;rw[show F1+prcN p.prs p.prs.length+cntV p.prs p.m p.vs=NN by rw[<-HNN2.out,chkN,zt.out]]at bS;obtain⟨A6,c6,rfl⟩:=bS.fs.slice;have hf6:W6.cell? ⟨fb,0,none⟩=some (.slice A6 NN c6):=zc bS.fs.box rfl;have zH:=zh (show Below W.heap.size W W6 from aU.out.trans (bS.chg.below (by omega) (fun b hb=>by rcases hb with hb|hb;omega;simp[Value.ownBlock]at hb)));clear bS hp yH hvb a0 a1 a2 a3 a4 a5 ar;go_wp2_with fail;go_ret;exact⟨A6,c6,rfl,zH.out⟩
mutual
theorem zxz:∀t:T,(po t).length=size t
 | .nd k n s ks=>by rw[po,size,List.length_cons,ztM ks];omega
theorem ztM:∀ks:List T,(pos ks).length=zkU ks
 | []=>by simp[pos,zkU]
 | t::ts=>by rw[pos,zkU,List.length_append,zxz t,ztM ts]
end
def rjP(ps:List PR):Nat:=(ps.map fun r=>rejN (po r.b)).sum
def rjT(p:PG):Nat:=rjP p.prs+rejN (po p.m)
def rjQ(ps:List PR):List Int:=(ps.map fun r=>rejL (po r.b)).flatten
def rjA(p:PG):List Int:=rjQ p.prs++rejL (po p.m)
theorem zv2{ps:List PR}{j:Nat}(h:j<ps.length):rjQ (ps.take (j+1))=rjQ (ps.take j)++rejL (po ps[j].b):=by
 unfold rjQ;rw[List.take_succ_eq_append_getElem h,List.map_append,List.flatten_append];simp
theorem zrr{t:T}(h:zkY t=true):dep t<=1000/\(po t).length<=2000/\∀x∈po t,zvf x:=by
 obtain⟨⟨h1,h2⟩,h3⟩:=(zri t).1 h;exact⟨by omega,by rw[zxz];exact h2,zv4 (.inr (.inr h3)) (by omega)⟩
theorem zv3{ps:List PR}{j:Nat}(h:j<ps.length):rjP (ps.take (j+1))=rjP (ps.take j)+rejN (po ps[j].b):=by
 unfold rjP;rw[List.take_succ_eq_append_getElem h,List.map_append,List.sum_append];simp
theorem zzp{ps:List PR}(h:∀r∈ps,zkY r.b=true):rjP ps<=ps.length*2000:=by
 induction ps with
 | nil=>simp[rjP]
 | cons r rs ih =>
  have h1:=ih fun r hr=>h r (List.mem_cons_of_mem _ hr);have h2:=(zrr (h r List.mem_cons_self)).2.1;have h3:=zpy (po r.b);simp only[rjP,List.map_cons,List.sum_cons,List.length_cons]at *
  omega
theorem zp6{p:PG}(h:zkA p=true):(∀r∈p.prs,zkY r.b=true)/\zkY p.m=true/\p.prs.length<=64:=by
 unfold zkA at h;simp only[Bool.and_eq_true,List.all_eq_true,decide_eq_true_eq]at h;refine⟨fun r hr=>?_,h.2,h.1.1.1.2⟩;have:=h.1.2 r hr;unfold zod at this;simp only[Bool.and_eq_true]at this;exact this.2
theorem zqQ(p:PG)(v:Value)(w:World)(hv:PV w Any p v)(hval:zkA p=true)(hch:chkN p=0):Calls prog 27 #[v] w fun e w'=>∃A c,e=.returned (.slice A (rjT p) c)/\(∃xs,w'.ownsRow (w.heap.size+1) 73 4 (.slice A (rjT p) c) (rjT p) xs/\RjO (rjA p) xs)/\Below w.heap.size w w':=by
 have HV:=zh hv;obtain⟨A1,c1,A2,c2,A3,c3,rfl,hr⟩:=hv;have HR:=zh hr;have lg:=zh (zqM hval (HV.out.later (zkb zr (.cells #[.slice A1 p.vs.length c1,.slice A2 p.prs.length c2,.int .u8 p.m.k,.int .i64 p.m.n,.string p.m.s,.slice A3 p.m.ks.length c3] 30))));have gZ:=zh (show ∀w,PV w Any p (pv A1 p.vs.length c1 A2 p.prs.length c2 p.m.k p.m.n p.m.s A3 p.m.ks.length c3)->Calls prog 26 #[pv A1 p.vs.length c1 A2 p.prs.length c2 p.m.k p.m.n p.m.s A3 p.m.ks.length c3] w fun e w'=>∃A c,e=.returned (.slice A 0 c)/\Below w.heap.size w w' from fun w h=>by
  have:=zlJ p Any _ w h;rwa[if_pos hval,hch]at this)
 have cB:=zh (zp6 hval);obtain⟨L1,hL1⟩:=zX (p.vs.length);obtain⟨k,hk⟩:=zX (p.m.k);obtain⟨n,hn⟩:=zX (p.m.n);obtain⟨s,hs⟩:=zX (p.m.s);obtain⟨l3,hl3⟩:=zX (p.m.ks.length);rw[hL1,hk,hn,hs,hl3]at HV lg gZ ⊢;have HM:=zh hr.main;rw[hk,hn,hs,hl3]at HM;have hlp:=zkW hr.lp;clear hr hL1 hk hn hs hl3 hval hch;go_enter func27,ntmps27;go_wp2_with fail;refine lg.out.mono ?_;rintro e w1 ⟨rfl,aa⟩;have q1:=zka (zkb (zs w) _) aa;have hP:=zkc (heap_alloc_new w (.cells #[.slice A1 L1 c1,.slice A2 p.prs.length c2,.int .u8 k,.int .i64 n,.string s,.slice A3 l3 c3] 30)) aa;obtain⟨a0,a1,a2,a3,a4,a5⟩:=box6 hP;have HP:=zh hP;clear aa hP;go_wp2_with fail;refine(gZ.out _ (HV.out.later q1)).mono ?_;rintro e w2 ⟨B0,d0,rfl,ah⟩;have q2:=zka q1 ah;have hP:=zkc HP.out ah;clear a0 a1 a2 a3 a4 a5 HP ah q1;obtain⟨a0,a1,a2,a3,a4,a5⟩:=box6 hP;have HP:=zh hP;have uJ:=zh q2
 clear hP q2;go_wp2_with fail;obtain⟨i0,hi0,hz0,hz1,hz2⟩:=info_parts ztJ;clear a0 a1 a2 a3 a4 a5
 go_loopw [3,18] (fun x i wr=>∃(j:Nat) (xs:List Value),j<=p.prs.length/\i=.int .i64 j/\wr.ownsRow (w.heap.size+1) 73 4 x (rjP (p.prs.take j)) xs/\RjO (rjQ (p.prs.take j)) xs/\Below w.heap.size w wr/\wr.heap[w.heap.size]?=some (.cells #[.slice A1 L1 c1,.slice A2 p.prs.length c2,.int .u8 k,.int .i64 n,.string s,.slice A3 l3 c3] 30 (0,0))) (fun _ i _=>p.prs.length-(intOf i).toNat)
 case atStart=>exact⟨0,[],Nat.zero_le _,rfl,by simpa[rjP]using World.ownsRow_nil _ _ _ _,RjO.nil,uJ.out,HP.out⟩
 case round =>
  obtain⟨j,xs,hj,rfl,hown,h1c,hbw,hbx⟩:=hrel;have mE:∃B3 d3,u3=.slice B3 (rjP (p.prs.take j)) d3:=by
   rcases hown.2 with⟨rfl,h0⟩|⟨g,cap,cur,rfl,_⟩
   ·exact⟨_,_,by rw[h0]⟩
   ·exact⟨_,_,rfl⟩
  obtain⟨B3,d3,rfl⟩:=mE;have HOWN:=zh hown;have CG:=zh h1c;have aU:=zh hbw;have aS:=zh hbx;have hwr:=zkf hbx;have AZ:rjP (p.prs.take j)<=128000:=by
   have h1:=zzp (ps:=p.prs.take j) (fun r hr=>cB.out.1 r (List.mem_of_mem_take hr));have h2:=cB.out.2.2;simp at h1;omega
  clear hown h1c hbx;by_cases hlt:j<p.prs.length
  ·obtain⟨a,r,D1,e1,D2,e2,rfl,_,Hr,⟨y0,y1,y2,y3,y4,y5⟩,hpr⟩:=(HR.out.procs.later hbw).nd hlt;have hbd:=zrr (cB.out.1 p.prs[j] (List.getElem_mem hlt));rw[Hr.out]at hbd;have vK:=zh hbd;have cz:=zh hpr.body;have hrl:rejN (po r.b)<=2000:=Nat.le_trans (zpy _) hbd.2.1;have wD:=zh (show rjP (p.prs.take (j+1))=rjP (p.prs.take j)+rejN (po r.b) by rw[zv3 hlt,Hr.out]);have HTQ:=zh (show rjQ (p.prs.take (j+1))=rjQ (p.prs.take j)++rejL (po r.b) by rw[zv2 hlt,Hr.out]);obtain⟨NN,mW⟩:=zX (rejN (po r.b));rw[mW]at hrl wD;have oH:=zh mW;clear hbd hpr hbw mW;go_wp2_with fail;refine(zpo r.b _ _ _ (cz.out.later (zkb zr _)) vK.out.1 (by have:=vK.out.2.1;omega) vK.out.2.2).mono ?_;rintro e w4 ⟨Ah,ys,rfl,fI,xH,iX⟩;rw[oH.out]at fI;have hb4:=zka (zkb (zs wr) _) iX;have hs4:=hb4.size;have hown5:=zkJ HOWN.out hb4;have ax:=zh hb4
   have HX4:=zh (zkc aS.out hb4);clear iX hb4 y0 y1 y2 y3 y4 y5;go_wp2_with (at_builtin;refine zlV (P:=prog) rfl (.tmp 23) (.tmp 27) 70 rfl (w.heap.size+1) _ 73 i0 _ 4 56 underlying70 hi0 hz0 hz1 hz2 rfl (by decide) (.slice B3 (rjP (p.prs.take j)) d3) (rjP (p.prs.take j)) xs rfl hown5 Ah NN ys rfl fI xH.1 (by unfold maxLen;omega) (by omega) (by omega) ?_;intro v' w' h2 h3 h5)
   refine⟨⟨j+1,_,by omega,rfl,by rw[wD.out];exact h2,by rw[HTQ.out];exact CG.out.app hown5.1 xH,(zka aU.out ax.out).grown h3 (by have:=aU.out.size;omega) (fun g e=>by have:=(hown5.lt g e).1;omega),?_⟩,by simp[intOf];omega⟩
   ·exact(h3.block _ (by omega) (fun e=>by have:=(hown5.lt _ e.symm).1;omega)).trans HX4.out
  ·obtain rfl:j=p.prs.length:=by omega
   have hmb:=zrr cB.out.2.1;have Ck:=zh hmb;have hrl:rejN (po p.m)<=2000:=Nat.le_trans (zpy _) hmb.2.1;have Bw:rjT p=rjP p.prs+rejN (po p.m):=rfl;have e3:p.prs.take p.prs.length=p.prs:=List.take_of_length_le zl;rw[e3]at HOWN CG AZ ⊢;clear e3;obtain⟨NN,mW⟩:=zX (rejN (po p.m));rw[mW]at hrl Bw;have oH:=zh mW;have uz:=zh Bw;obtain⟨a0,a1,a2,a3,a4,a5⟩:=box6 aS.out;clear hmb mW Bw hbw;go_wp2_with fail;refine(zpo p.m _ _ _ ((HM.out.later aU.out).any) Ck.out.1 (by have:=Ck.out.2.1;omega) Ck.out.2.2).mono ?_;rintro e w4 ⟨Ah,ys,rfl,fI,xH,iX⟩;rw[oH.out]at fI;have hs4:=iX.size;have hown5:=zkJ HOWN.out iX;have ax:=zh iX;clear iX a0 a1 a2 a3 a4 a5
   go_wp2_with (at_builtin;refine zlV (P:=prog) rfl (.tmp 30) (.tmp 33) 70 rfl (w.heap.size+1) _ 73 i0 _ 4 56 underlying70 hi0 hz0 hz1 hz2 rfl (by decide) (.slice B3 (rjP p.prs) d3) (rjP p.prs) xs rfl hown5 Ah NN ys rfl fI xH.1 (by unfold maxLen;omega) (by omega) (by omega) ?_;intro v' w' h2 h3 h5)
   have hvs:∃B d,v'=.slice B (rjP p.prs+NN) d:=by
    rcases h2.2 with⟨rfl,h0⟩|⟨g,cap,cur,rfl,_⟩
    ·exact⟨_,_,by rw[h0]⟩
    ·exact⟨_,_,rfl⟩
   obtain⟨B,d,rfl⟩:=hvs;have dK:=zh (show Below w.heap.size w w' from(zka aU.out ax.out).grown h3 (by have:=aU.out.size;omega) (fun g e=>by have:=(hown5.lt g e).1;omega));have y9:=zh (show ∃xs,w'.ownsRow (w.heap.size+1) 73 4 (.slice B (rjT p) d) (rjT p) xs/\RjO (rjA p) xs from⟨_,by rw[uz.out];exact h2,CG.out.app hown5.1 xH⟩);clear h2 h3 h5 hown5 fI;go_wp2_with fail;go_ret;exact⟨B,d,by rw[uz.out];rfl,y9.out,dK.out⟩
def okB(p:PG):Bool:=zkA p&&decide (chkN p=0)&&decide (rjT p=0)
theorem zxN(p:PG)(v:Value)(w:World)(hv:PV w Any p v):Calls prog 35 #[v] w fun e w'=>e=.returned (.bool (okB p))/\Below w.heap.size w w':=by
 have HV:=zh hv;obtain⟨A1,c1,A2,c2,A3,c3,rfl,hr⟩:=hv;obtain⟨b,hb⟩:=zX (okB p);obtain⟨vb,hvb⟩:=zX (zkA p);obtain⟨N1,hN1⟩:=zX (chkN p);obtain⟨N2,tY⟩:=zX (rjT p);have hbb:b=(vb&&decide (N1=0)&&decide (N2=0)):=by rw[<-hb,<-hvb,<-hN1,<-tY];rfl
 rw[hb];have dO:=zh (show ∀w,PV w Any p (pv A1 p.vs.length c1 A2 p.prs.length c2 p.m.k p.m.n p.m.s A3 p.m.ks.length c3)->Calls prog 25 #[pv A1 p.vs.length c1 A2 p.prs.length c2 p.m.k p.m.n p.m.s A3 p.m.ks.length c3] w fun e w'=>e=.returned (.bool vb)/\Below w.heap.size w w' from fun w h=>hvb▸zlz p Any _ w h);have gZ:=zh (show vb=true->∀w,PV w Any p (pv A1 p.vs.length c1 A2 p.prs.length c2 p.m.k p.m.n p.m.s A3 p.m.ks.length c3)->Calls prog 26 #[pv A1 p.vs.length c1 A2 p.prs.length c2 p.m.k p.m.n p.m.s A3 p.m.ks.length c3] w fun e w'=>∃A c,e=.returned (.slice A N1 c)/\Below w.heap.size w w' from fun h0 w h=>by
  have:=zlJ p Any _ w h;rwa[if_pos (hvb.trans h0),hN1]at this)
 have bN:=zh (show vb=true->N1=0->∀w,PV w Any p (pv A1 p.vs.length c1 A2 p.prs.length c2 p.m.k p.m.n p.m.s A3 p.m.ks.length c3)->Calls prog 27 #[pv A1 p.vs.length c1 A2 p.prs.length c2 p.m.k p.m.n p.m.s A3 p.m.ks.length c3] w fun e w'=>∃A c,e=.returned (.slice A N2 c)/\Below w.heap.size w w' from fun h0 h1 w h=>tY▸(zqQ p _ w h (hvb.trans h0) (hN1.trans h1)).mono fun _ _ ⟨A,c,h1,_,h2⟩=>⟨A,c,h1,h2⟩);have dE:=zh hbb;obtain⟨L1,hL1⟩:=zX (p.vs.length);obtain⟨L2,hL2⟩:=zX (p.prs.length);obtain⟨k,hk⟩:=zX (p.m.k);obtain⟨n,hn⟩:=zX (p.m.n);obtain⟨s,hs⟩:=zX (p.m.s);obtain⟨l3,hl3⟩:=zX (p.m.ks.length);rw[hL1,hL2,hk,hn,hs,hl3]at HV dO gZ bN ⊢;clear hr hL1 hL2 hk hn hs hl3 hb hvb hN1 tY hbb;go_enter func35,ntmps35;go_wp2_with fail;refine(dO.out _ (HV.out.later (zkb zr _))).mono ?_;rintro e w1 ⟨rfl,aa⟩;have q1:=zka (zkb (zs w) _) aa
 have hP:=zkc (heap_alloc_new w (.cells #[.slice A1 L1 c1,.slice A2 L2 c2,.int .u8 k,.int .i64 n,.string s,.slice A3 l3 c3] 30)) aa;obtain⟨a0,a1,a2,a3,a4,a5⟩:=box6 hP;have HP:=zh hP;clear aa hP
 cases vb
 ·have HX:=zh (show b=false by rw[dE.out];rfl);go_wp2_with fail;go_ret;exact⟨by rw[HX.out];rfl,q1⟩
 ·have HSC1:=zh (gZ.out rfl);have HCK1:=zh (bN.out rfl);clear gZ bN;go_wp2_with fail;refine(HSC1.out _ (HV.out.later q1)).mono ?_;rintro e w2 ⟨B0,d0,rfl,ah⟩;have q2:=zka q1 ah;have hP:=zkc HP.out ah;clear a0 a1 a2 a3 a4 a5 HP ah q1;obtain⟨a0,a1,a2,a3,a4,a5⟩:=box6 hP;clear hP;by_cases hN:N1=0
  ·have HCK2:=zh (HCK1.out hN);clear HCK1 HSC1;subst hN;go_wp2_with fail;refine(HCK2.out _ (HV.out.later q2)).mono ?_;rintro e w3 ⟨B1,d1,rfl,aN⟩;have q3:=zka q2 aN;clear a0 a1 a2 a3 a4 a5 aN;by_cases hM:N2=0
   ·subst hM;have HX:=zh (show b=true by rw[dE.out];rfl);go_wp2_with fail;go_ret;exact⟨by rw[HX.out];rfl,q3⟩
   ·have hM1:((N2:Int)==0)=false:=by simpa using hM
    have HX:=zh (show b=false by rw[dE.out];simp[hM]);clear hM;go_wp2_with fail;go_ret;exact⟨by rw[HX.out];rfl,q3⟩
  ·have hM1:((N1:Int)==0)=false:=by simpa using hN
   have HX:=zh (show b=false by rw[dE.out];simp[hN]);clear hN;go_wp2_with fail;go_ret;exact⟨by rw[HX.out];rfl,q2⟩
structure FR where
 vs:List VD
 cs:List Nat
 loc:Nat
structure ST where
 base:FR
 calls:List FR
 cell:Nat->List Int
 nc:Nat
 tin:List Int
 tout:List Int
def zmn(vs:List VD)(s:ByteArray):Nat->Option Nat
 | 0=>none
 | j+1=>if (vs[j]?.elim false fun v=>v.s.toList==s.toList)then some j else zmn vs s j
theorem zo6{vs:List VD}{j:Nat}(h:j<vs.length)(s:ByteArray):zmn vs s (j+1)=if vs[j].s.toList==s.toList then some j else zmn vs s j:=by simp[zmn,h]
theorem zr6{vs:List VD}{s:ByteArray}:∀ {j i:Nat},zmn vs s j=some i->i<j
 | 0,_,h=>by simp[zmn]at h
 | j+1,i,h=>by
  rw[zmn]at h
  split at h
  ·injection h with h;omega
  ·have:=zr6 h;omega
def FR.at(f:FR)(s:ByteArray):Option Nat:=zmn f.vs s f.vs.length
theorem FR.at_lt{f:FR}{s:ByteArray}{i:Nat}(h:f.at s=some i):i<f.vs.length:=zr6 h
def ST.cur(S:ST):FR:=S.calls.getLast?.getD S.base
def ST.num(S:ST)(s:ByteArray):Option Nat:=(S.cur.at s).bind fun i=>S.cur.cs[i]?
def ST.look(S:ST)(s:ByteArray):Option (List Int):=(S.num s).map S.cell
structure FR.WF(kd:Nat->Int×Int)(nc:Nat)(f:FR):Prop where
 len:f.cs.length=f.vs.length
 loc:f.loc<=f.vs.length
 lim:f.vs.length<=4398046511000
 fld:∀v∈f.vs,FldV v
 num:∀c∈f.cs,c<nc
 kind:∀i (h:i<f.vs.length) (h':i<f.cs.length),kd f.cs[i]=(f.vs[i].k,f.vs[i].n)
structure ST.WF(S:ST):Prop where
 ex:∃kd:Nat->Int×Int,S.base.WF kd S.nc/\(∀f∈S.calls,f.WF kd S.nc)/\∀i,i<S.nc->((kd i).1=1->(S.cell i).length=1)/\((kd i).1=2->((S.cell i).length:Int)=(kd i).2)/\((kd i).1=1\/(kd i).1=2\/(kd i).1=3)
 ncalls:S.calls.length<=100
 cells:∀i,i<S.nc->(S.cell i).length<=1000/\∀x∈S.cell i,I64 x
 tin:S.tin.length<=4096/\∀x∈S.tin,I64 x
 tout:S.tout.length<=4096/\∀x∈S.tout,I64 x
structure RowD where
 v:Value
 E:TypeId
 sz:Nat
 n:Nat
 xs:List Value
structure Rws{I:Type}(W:World)(n0:Nat)(d:I->RowD):Prop where
 row:∀i,W.ownsRow n0 (d i).E (d i).sz (d i).v (d i).n (d i).xs
 sep:∀i j b,i≠j->(d i).v.ownBlock=some b->(d j).v.ownBlock≠some b
def updR{I:Type}[DecidableEq I](d:I->RowD)(i:I)(r:RowD):I->RowD:=fun j=>if j=i then r else d j
section
variable {I:Type} [DecidableEq I] {W W':World} {n0:Nat} {d:I->RowD} {i j:I} {r:RowD}
@[simp] theorem zkw:updR d i r i=r:=by simp[updR]
theorem zkl(h:j≠i):updR d i r j=d j:=by simp[updR,h]
omit [DecidableEq I] in
theorem Rws.chg{C:Nat->Prop}(h:Rws W n0 d)(hc:Chg C W W')(hC:∀i b,(d i).v.ownBlock=some b->¬ C b):Rws W' n0 d:=by
 refine⟨fun i=>?_,h.sep⟩;obtain⟨e1,h2⟩:=h.row i;refine⟨e1,?_⟩;rcases h2 with h2|⟨g,cap,cur,hv,hb,hg,h3⟩
 ·exact .inl h2
 ·exact .inr ⟨g,cap,cur,hv,hb,hc.keep hg (hC i g (by rw[hv];rfl)),h3⟩
omit [DecidableEq I] in
theorem Rws.later(h:Rws W n0 d)(hb:Below W.heap.size W W'):Rws W' n0 d:=h.chg (C:=fun _=>False) (Chg.of_below hb) (fun _ _ _ h=>h)
omit [DecidableEq I] in
theorem Rws.lt(h:Rws W n0 d)(i:I):∀b,(d i).v.ownBlock=some b->n0<=b/\b<W.heap.size:=(h.row i).lt
theorem Rws.upd(h:Rws W n0 d)(i:I)(hc:Chg (fun b=>(d i).v.ownBlock=some b) W W')(ho:W'.ownsRow n0 r.E r.sz r.v r.n r.xs)(aY:∀b,r.v.ownBlock=some b->(d i).v.ownBlock=some b\/W.heap.size<=b):Rws W' n0 (updR d i r):=by
 have key:∀j,j≠i->∀b,(d j).v.ownBlock=some b->r.v.ownBlock≠some b:=fun j hj b hb hr=>by
  rcases aY b hr with h1|h1
  ·exact h.sep j i b hj hb h1
  ·have:=(h.lt j b hb).2;omega
 refine⟨fun j=>?_,fun j k b hjk hb=>?_⟩
 ·by_cases hj:j=i
  ·subst hj;simpa using ho
  ·rw[zkl hj];obtain⟨e1,h2⟩:=h.row j;refine⟨e1,?_⟩;rcases h2 with h2|⟨g,cap,cur,hv,hb,hg,h3⟩
   ·exact .inl h2
   ·exact .inr ⟨g,cap,cur,hv,hb,hc.keep hg (h.sep j i g hj (by rw[hv];rfl)),h3⟩
 ·by_cases hj:j=i
  ·subst hj;rw[zkl (Ne.symm hjk)];rw[zkw]at hb;exact fun hk=>key k (Ne.symm hjk) b hk hb
  ·rw[zkl hj]at hb;by_cases hk:k=i
   ·subst hk;rw[zkw];exact key j hj b hb
   ·rw[zkl hk];exact h.sep j k b hjk hb
omit [DecidableEq I] in
theorem Rws.cell(h:Rws W n0 d)(i:I){g:Nat}{u:Value}(hg:(d i).v.ownBlock=some g){o:Nat}(ho:(d i).xs[o]?=some u):W.cell? ⟨g,o,none⟩=some u:=by
 have hr:=h.row i;obtain⟨e1,h2⟩:=hr;rcases h2 with⟨h2,_⟩|⟨g',cap,cur,hv,hb,hg',hn,hm,hz,hx⟩
 ·rw[h2]at hg;simp[Value.ownBlock]at hg
 ·rw[hv]at hg;simp[Value.ownBlock]at hg;subst hg;refine zc hg' ?_;have hlt:o<(d i).xs.length:=(List.getElem?_eq_some_iff.1 ho).1;rw[<-hx]at ho;rw[List.getElem?_take_of_lt (by rw[e1]at hlt;exact hlt)]at ho;simpa using ho
omit [DecidableEq I] in
theorem Rws.frozen(h:Rws W n0 d)(i:I){g:Nat}(hg:(d i).v.ownBlock=some g)(o:Nat):W.frozen? ⟨g,o,none⟩=false:=by
 obtain⟨e1,h2⟩:=h.row i;rcases h2 with⟨h2,_⟩|⟨g',cap,cur,hv,hb,hg',_⟩
 ·rw[h2]at hg;simp[Value.ownBlock]at hg
 ·rw[hv]at hg;simp[Value.ownBlock]at hg;subst hg;exact zf hg'
theorem Rws.set(h:Rws W n0 d)(i:I){g:Nat}(hg:(d i).v.ownBlock=some g){o:Nat}(ho:o<(d i).xs.length)(u:Value) :
  Rws (W.setCell ⟨g,o,none⟩ u) n0 (updR d i { d i with xs:=(d i).xs.set o u }):=by
 have hc:Chg (fun b=>(d i).v.ownBlock=some b) W (W.setCell ⟨g,o,none⟩ u):=(Chg.refl _ _).setCell (.inl hg) u;refine h.upd i hc ?_ (fun b hb=>.inl hb);obtain⟨e1,h2⟩:=h.row i;rcases h2 with⟨h2,_⟩|⟨g',cap,cur,hv,hb,hg',hn,hm,hz,hx⟩
 ·rw[h2]at hg;simp[Value.ownBlock]at hg
 ·have hgg:g=g':=by rw[hv]at hg;simp[Value.ownBlock]at hg;exact hg.symm
  subst hgg;refine⟨by simpa using e1,.inr ⟨g,cap,cur.setIfInBounds o u,hv,hb,heap_setCell_same W g o cur _ u hg',hn,hm,by simpa using hz,?_⟩⟩;rw[Array.toList_setIfInBounds,<-hx,List.take_set]
end
inductive Res where
 | sb|tb|tin|tout|bv|bc|calls
 | fv (i:Nat)|fc (i:Nat)|cb (i:Nat)|ci (i:Nat)|x (i:Nat)
 deriving DecidableEq
structure Ph where
 sb:Nat
 tb:Nat
 vI:Value
 vO:Value
 vV:Value
 vC:Value
 vF:Value
 fV:Nat->Value
 fC:Nat->Value
 cb:Nat->Nat
 ci:Nat->Value
def zkD(vs:List VD):List Value:=vs.flatMap fun v=>[.string v.s,.int .u8 v.k,.int .i64 v.n]
def zki(l:List Int):List Value:=l.map (Value.int .i64)
def ptrs(cb:Nat->Nat)(cs:List Nat):List Value:=cs.map fun i=>.pointer (some ⟨cb i,0,none⟩)
def zkS(P:Ph):Nat->List FR->List Value
 | _,[]=>[]
 | i,f::fs=>P.fV i::P.fC i :: .int .i64 f.loc::zkS P (i+1) fs
def nilR:RowD:=⟨.slice none 0 0,0,1,0,[]⟩
abbrev boxV(b:Nat):Value:=.slice (some ⟨b,0,none⟩) 1 1
def rows(P:Ph)(S:ST):Res->RowD
 | .sb=>⟨boxV P.sb,167,5,1,[P.vV,P.vC,.int .i64 S.base.loc,P.vF,.pointer (some ⟨P.tb,0,none⟩)]⟩
 | .tb=>⟨boxV P.tb,188,2,1,[P.vI,P.vO]⟩
 | .tin=>⟨P.vI,3,1,S.tin.length,zki S.tin⟩
 | .tout=>⟨P.vO,3,1,S.tout.length,zki S.tout⟩
 | .bv=>⟨P.vV,38,3,S.base.vs.length,zkD S.base.vs⟩
 | .bc=>⟨P.vC,169,1,S.base.cs.length,ptrs P.cb S.base.cs⟩
 | .calls=>⟨P.vF,164,3,S.calls.length,zkS P 0 S.calls⟩
 | .fv i=>match S.calls[i]? with
  | none=>nilR
  | some f=>⟨P.fV i,38,3,f.vs.length,zkD f.vs⟩
 | .fc i=>match S.calls[i]? with
  | none=>nilR
  | some f=>⟨P.fC i,169,1,f.cs.length,ptrs P.cb f.cs⟩
 | .cb i=>if i<S.nc then⟨boxV (P.cb i),171,1,1,[P.ci i]⟩else nilR
 | .ci i=>if i<S.nc then⟨P.ci i,3,1,(S.cell i).length,zki (S.cell i)⟩else nilR
 | .x _=>nilR
structure SR(W:World)(n0:Nat)(P:Ph)(S:ST):Prop where
 rws:Rws W n0 (rows P S)
 wf:S.WF
theorem zor(P:Ph):∀(i:Nat) (fs:List FR),(zkS P i fs).length=fs.length*3
 | _,[]=>rfl
 | i,f::fs=>by simp[zkS,zor P (i+1) fs];omega
theorem zos(P:Ph):∀(fs:List FR) (i j:Nat) (h:j<fs.length),(zkS P i fs)[j*3]?=some (P.fV (i+j))/\(zkS P i fs)[j*3+1]?=some (P.fC (i+j))/\(zkS P i fs)[j*3+2]?=some (.int .i64 fs[j].loc)
 | f::fs,i,0,_=>by simp[zkS]
 | f::fs,i,j+1,h=>by
  have:=zos P fs (i+1) j (by simpa using h);rw[show(j+1)*3=j*3+1+1+1 by omega,show i+(j+1)=i+1+j by omega];simp only[zkS,List.getElem?_cons_succ,List.getElem_cons_succ];exact this
theorem zoq(vs:List VD):(zkD vs).length=vs.length*3:=by
 induction vs with
 | nil=>rfl
 | cons v vs ih=>simp[zkD]at *;omega
theorem zmx:∀(vs:List VD) (i:Nat) (h:i<vs.length),(zkD vs)[i*3]?=some (.string vs[i].s)/\(zkD vs)[i*3+1]?=some (.int .u8 vs[i].k)/\(zkD vs)[i*3+2]?=some (.int .i64 vs[i].n)
 | v::vs,0,_=>by simp[zkD]
 | v::vs,i+1,h=>by
  have:=zmx vs i (by simpa using h);rw[show(i+1)*3=i*3+1+1+1 by omega];simp only[zkD,List.flatMap_cons,List.cons_append,List.nil_append,List.getElem?_cons_succ,List.getElem_cons_succ];exact this
def varE(look:ByteArray->Option (List Int))(k:Int)(s:ByteArray)(i:Int×Int):Int×Int :=
 match look s with
 | none=>(0,6)
 | some l =>
  if k=2 then(if l.length=1 then(l.getD 0 0,0)else(0,7))
  else if k=3 then(if i.2≠0 then(0,i.2)else if 0<=i.1/\i.1<l.length then(l.getD i.1.toNat 0,0)else(0,12))
  else if k=4 then(if l.length=0 then(0,13)else(l.getD (l.length-1) 0,0))
  else(l.length,0)
def evK(look:ByteArray->Option (List Int))(k n:Int)(s:ByteArray)(rs:List (Int×Int)):Int×Int :=
 if k=1 then(n,0)
 else if 2<=k/\k<=5 then varE look k s (rs.getD 0 (0,0))
 else if (rs.getD 0 (0,0)).2≠0 then(0,(rs.getD 0 (0,0)).2)
 else if rs.length=1 then unE k (rs.getD 0 (0,0)).1
 else if (rs.getD 1 (0,0)).2≠0 then(0,(rs.getD 1 (0,0)).2)
 else apE k (rs.getD 0 (0,0)).1 (rs.getD 1 (0,0)).1
mutual
def evE(look:ByteArray->Option (List Int)):T->Int×Int
 | .nd k n s ks=>evK look k n s (evEs look ks)
def evEs(look:ByteArray->Option (List Int)):List T->List (Int×Int)
 | []=>[]
 | t::ts=>evE look t::evEs look ts
end
theorem zpP(look:ByteArray->Option (List Int)):∀ks:List T,evEs look ks=ks.map (evE look)
 | []=>by simp[evEs]
 | t::ts=>by simp[evEs,zpP look ts]
structure zrx(f:FuncId)(fn:Func)(rv:Value)(Rd:World->Prop)(look:ByteArray->Option (List Int)):Prop where
 isFn:IsFn prog f fn
 later:∀W W',Rd W->Below W.heap.size W W'->Rd W'
 fits:∀s l,look s=some l->l.length<=100000
 call:∀(s:ByteArray) (W:World),Rd W->Calls prog f #[rv,.string s] W fun e W'=>Below W.heap.size W W' /\
  ((look s=none/\∃A c,e=.returned (.tuple #[.slice A 0 c,.bool false]))\/∃l A c,look s=some l/\e=.returned (.tuple #[.slice A l.length c,.bool true])/\RowI W' Any A l)
def NumE(r:Int×Int)(w:World)(e:Ending)(w':World):Prop:=e=.returned (.tuple #[.int .i64 r.1,.int .i64 r.2])/\Below w.heap.size w w'
def ValC(f:FuncId)(rv:Value)(Rd:World->Prop)(look:ByteArray->Option (List Int))(t:T):Prop :=
 ∀(v:Value) (W:World),NV W Any t v->Rd W->Calls prog 181 #[v,.func (.func f) #[rv] #[]] W (NumE (evE look t) W)
theorem RowI.nd{w:World}{S:Nat->Prop}{A:Option Addr}{xs:List Int}(h:RowI w S A xs){i:Nat}(hi:i<xs.length):∃a:Addr,A=some a/\w.cell? (a.add i)=some (.int .i64 (xs.getD i 0)) :=
 let ⟨a,h1,_,h3,_⟩:=h i hi;⟨a,h1,by simpa[hi]using h3⟩
theorem znE{f:FuncId}{fn:Func}{rv:Value}{Rd:World->Prop}{look:ByteArray->Option (List Int)}(hL:zrx f fn rv Rd look)(k n:Int)(s:ByteArray)(ks:List T)(v:Value)(w:World)(hv:NV w Any (.nd k n s ks) v)(hR:Rd w)
  (hk:2<=k/\k<=5)(h3:k=3->∃t,ks=[t]/\ValC f rv Rd look t) :
  Calls prog 188 #[v,.func (.func f) #[rv] #[]] w (NumE (varE look k s ((ks.map (evE look)).getD 0 (0,0))) w):=by
 obtain⟨A,c,rfl,hf,hlk,hlc,hrow⟩:=hv.open_;simp only[T.k_nd,T.n_nd,T.s_nd,T.ks_nd]at *
 have hcall:=zkG hL.isFn;have HL:=zh hL;have uG:=zh hR;have ae:=zh hrow;have H3:=zh h3;obtain⟨L,vX⟩:=zX (ks.length);rw[vX];obtain⟨R,hRR⟩:=zX (varE look k s ((ks.map (evE look)).getD 0 (0,0)));rw[hRR];have HRR:=zh hRR;have gM:=zh vX;clear hv hrow h3 hL hR hRR vX hf hlk hlc;go_enter func188,ntmps188;go_wp2_with fail;refine(HL.out.call s _ (HL.out.later _ _ uG.out (zkb zr _))).mono ?_;rintro e w1 ⟨aa,h1⟩;have q1:=zka (zkb zr _) aa;have hN:=zkc (heap_alloc_new w (.cells #[.int .u8 k,.int .i64 n,.string s,.slice A L c] 28)) aa;obtain⟨a0,a1,a2,a3⟩:=box4 hN;have HN:=zh hN;clear aa hN;rcases h1 with⟨hno,A1,c1,rfl⟩|⟨l,A1,c1,hso,rfl,aX⟩
 ·have hRR:R=(0,6):=by rw[<-HRR.out,varE,hno]
  subst hRR;clear a0 a1 a2 a3;go_wp2_with fail;go_ret2;exact⟨rfl,q1⟩
 ·have hlen:=HL.out.fits s l hso;have bZ:=zh aX;have nG:=zh hso;clear aX hso;by_cases k2:k=2
  ·subst k2;have hRR:R=if l.length=1 then(l.getD 0 0,0)else(0,7):=by rw[<-HRR.out,varE,nG.out];rfl
   by_cases hl1:l.length=1
   ·rw[if_pos hl1]at hRR;obtain⟨a,rfl,hc⟩:=bZ.out.nd (i:=0) (by omega);simp only[Addr.add_zero']at hc;obtain⟨x0,hx0⟩:=zX (l.getD 0 0);rw[hx0]at hc hRR;have HX:=zh hRR;rw[hl1];clear hx0 hl1 bZ HRR nG hRR;go_wp2_with fail;go_ret2;exact⟨by rw[HX.out];rfl,q1⟩
   ·rw[if_neg hl1]at hRR;have HX:=zh hRR;have e1:((l.length:Int)==1)=false:=by simp;omega
    have e2:((l.length:Int) != 1)=true:=by simp;omega
    clear hl1 hRR;go_wp2_with fail;go_ret2;exact⟨by rw[HX.out];rfl,q1⟩
  by_cases k4:k=4
  ·subst k4;have hRR:R=if l.length=0 then(0,13)else(l.getD (l.length-1) 0,0):=by rw[<-HRR.out,varE,nG.out];rfl
   by_cases hl1:l.length=0
   ·rw[if_pos hl1]at hRR;have HX:=zh hRR;rw[hl1];clear hl1 bZ HRR nG hRR;go_wp2_with fail;go_ret2;exact⟨by rw[HX.out];rfl,q1⟩
   ·rw[if_neg hl1]at hRR;obtain⟨a,rfl,hc⟩:=bZ.out.nd (i:=l.length-1) (by omega);obtain⟨x0,hx0⟩:=zX (l.getD (l.length-1) 0);rw[hx0]at hc hRR;have HX:=zh hRR;obtain⟨m,hm⟩:∃m,l.length=m+1:=⟨l.length-1,by omega⟩
    rw[hm]at hc hlen ⊢;simp only[Nat.add_sub_cancel]at hc;clear hx0 hl1 bZ HRR nG hm hRR;go_wp2_with fail;go_ret2;exact⟨by rw[HX.out];rfl,q1⟩
  by_cases k5:k=5
  ·subst k5;have hRR:R=((l.length:Int),0):=by rw[<-HRR.out,varE,nG.out];rfl
   have HX:=zh hRR;clear bZ HRR nG hRR;go_wp2_with fail;go_ret2;exact⟨by rw[HX.out];rfl,q1⟩
  ·obtain rfl:k=3:=by omega
   obtain⟨t,rfl,hval⟩:=H3.out rfl;obtain⟨a,t0,A2,c2,rfl,_,Ht,⟨y0,y1,y2,y3⟩,hn0⟩:=(ae.out.later q1).nd (i:=0) (by simp);simp only[Nat.zero_mul,Addr.add_zero']at y0 y1 y2 y3;have ht0:t0=t:=Ht.out.symm;subst ht0;have hL1:L=1:=gM.out.symm;subst hL1;obtain⟨⟨iv,ie⟩,bK⟩:=zX (evE look t0);have hRR:R=if ie≠0 then(0,ie)else if 0<=iv/\iv<l.length then(l.getD iv.toNat 0,0)else(0,12):=by rw[<-HRR.out,varE,nG.out];simp[bK]
   have qO:=zh (show ∀(v:Value) (W:World),NV W Any t0 v->Rd W->Calls prog 181 #[v,.func (.func f) #[rv] #[]] W (NumE (iv,ie) W)from bK▸hval);have fF:=zh hn0;have HR2:=zh hRR;clear hval hn0 Ht bK hRR;go_wp2_with fail;refine(qO.out _ _ fF.out (HL.out.later _ _ uG.out q1)).mono ?_;rintro e w2 ⟨rfl,ah⟩;have q2:=zka q1 ah;have gJ:=zh (bZ.out.later ah);have hRR:=HR2.out;clear ah a0 a1 a2 a3 y0 y1 y2 y3 HRR nG bZ HR2;by_cases he:ie=0
   ·subst he;rw[if_neg (by simp)]at hRR;by_cases hb:0<=iv/\iv<l.length
    ·rw[if_pos hb]at hRR;obtain⟨j,hj⟩:∃j:Nat,iv=j:=⟨iv.toNat,by omega⟩
     subst hj;have hjl:j<l.length:=by omega
     obtain⟨a',rfl,hc⟩:=gJ.out.nd hjl;simp only[Int.toNat_natCast]at hRR;obtain⟨x0,hx0⟩:=zX (l.getD j 0);rw[hx0]at hc hRR;have HX:=zh hRR;clear hx0 gJ hRR hb;go_wp2_with fail;go_ret2;exact⟨by rw[HX.out];rfl,q2⟩
    ·rw[if_neg hb]at hRR;have HX:=zh hRR;clear hRR gJ;by_cases h0:0<=iv
     ·have h1:(l.length:Int)<=iv:=by omega
      have h2:¬ iv<0:=by omega
      clear hb;go_wp2_with fail;go_ret2;exact⟨by rw[HX.out];rfl,q2⟩
     ·have h1:iv<0:=by omega
      clear hb;go_wp2_with fail;go_ret2;exact⟨by rw[HX.out];rfl,q2⟩
   ·rw[if_pos he]at hRR;have HX:=zh hRR;have e1:(ie==0)=false:=by simpa using he
    have e2:(ie != 0)=true:=by simpa using he
    clear hRR gJ he;go_wp2_with fail;go_ret2;exact⟨by rw[HX.out];rfl,q2⟩
theorem zo7{k n:Int}{s:ByteArray}{ks:List T}(h:isE (.nd k n s ks)=true) :
  (k=1/\ks=[])\/((k=2\/k=4\/k=5)/\ks=[])\/(k=3/\∃t,ks=[t]/\isE t=true)\/((k=6\/k=7)/\∃t,ks=[t]/\isE t=true)\/((8<=k/\k<=23)/\∃t u,ks=[t,u]/\isE t=true/\isE u=true):=by
 have l0:decide (ks.length=0)=true->ks=[]:=fun h=>by simpa using h
 have l1:(decide (ks.length=1)&&isEs ks)=true->∃t,ks=[t]/\isE t=true:=fun h=>by
  match ks with
  | [t]=>simp[isEs]at h;exact⟨t,rfl,h⟩
  | []=>simp at h
  | a::b::l=>simp at h
 have l2:(decide (ks.length=2)&&isEs ks)=true->∃t u,ks=[t,u]/\isE t=true/\isE u=true:=fun h=>by
  match ks with
  | [t,u]=>simp[isEs]at h;exact⟨t,u,rfl,h⟩
  | []=>simp at h
  | [a]=>simp at h
  | a::b::c::l=>simp at h
 rw[isE]at h
 split at h
 ·rename_i h1;simp only[Bool.and_eq_true]at h;exact .inl ⟨h1,l0 h.2⟩
 ·split at h
  ·rename_i h1;simp only[Bool.and_eq_true]at h;exact .inr (.inl ⟨h1,l0 h.2⟩)
  ·split at h
   ·rename_i h1;rw[Bool.and_eq_true]at h;exact .inr (.inr (.inl ⟨h1,l1 h.2⟩))
   ·split at h
    ·rename_i h1;rw[Bool.and_eq_true]at h;exact .inr (.inr (.inr (.inl ⟨h1,l1 h.2⟩)))
    ·split at h
     ·rename_i h1;rw[Bool.and_eq_true]at h;exact .inr (.inr (.inr (.inr ⟨h1,l2 h.2⟩)))
     ·cases h
theorem zpk{f:FuncId}{fn:Func}{rv:Value}{Rd:World->Prop}{look:ByteArray->Option (List Int)}(hL:zrx f fn rv Rd look)(t:T):isE t=true->ValC f rv Rd look t:=by
 refine T.ind (p:=fun t=>isE t=true->ValC f rv Rd look t) ?_ t;intro k n s ks ih hE v w hv hR;have HV:=zh hv;have HL:=zh hL;have uG:=zh hR;obtain⟨A,c,rfl,hf,hlk,hlc,hrow⟩:=hv.open_;simp only[T.k_nd,T.n_nd,T.s_nd,T.ks_nd]at *
 have ae:=zh hrow;obtain⟨R,hRR⟩:=zX (evE look (.nd k n s ks));rw[hRR];rw[evE,zpP]at hRR;rcases zo7 hE with⟨rfl,rfl⟩|⟨hk,rfl⟩|⟨rfl,t,rfl,ht⟩|⟨hk,t,rfl,ht⟩|⟨hk,t,u,rfl,ht,hu⟩
 ·have HX:=zh (show R=(n,0) by rw[<-hRR,evK];rfl);clear hv hrow ih hE hR hL hRR hf hlk hlc;go_enter func181,ntmps181;go_wp2_with fail;go_ret2;exact⟨by rw[HX.out];rfl,zkb zr _⟩
 ·have HX:=zh (show varE look k s (([].map (evE look)).getD 0 (0,0))=R by rw[<-hRR,evK,if_neg (by omega),if_pos (by omega)]);have HC:=zh (fun w' (h:Below w.heap.size w w')=>znE hL k n s [] _ w' (hv.later h) (hL.later _ _ hR h) (by omega) (fun h=>by omega));clear hv hrow ih hE hR hL hRR hf hlk hlc;rcases hk with rfl|rfl|rfl
  all_goals
   go_enter func181,ntmps181;go_wp2_with fail;refine(HC.out _ (zkb zr _)).mono ?_;rintro e w1 ⟨rfl,aa⟩;rw[HX.out];have q1:=zka (zkb zr _) aa;clear aa;go_wp2_with fail;go_ret2;exact⟨rfl,q1⟩
 ·have HX:=zh (show varE look 3 s (([t].map (evE look)).getD 0 (0,0))=R by rw[<-hRR,evK,if_neg (by omega),if_pos (by omega)]);have HC:=zh (fun w' (h:Below w.heap.size w w')=>znE hL 3 n s [t] _ w' (hv.later h) (hL.later _ _ hR h) (by omega) (fun _=>⟨t,rfl,ih t List.mem_cons_self ht⟩));clear hv hrow ih hE hR hL hRR hf hlk hlc;simp only[List.length_cons,List.length_nil,Nat.zero_add]at *
  go_enter func181,ntmps181;go_wp2_with fail;refine(HC.out _ (zkb zr _)).mono ?_;rintro e w1 ⟨rfl,aa⟩;rw[HX.out];have q1:=zka (zkb zr _) aa;clear aa;go_wp2_with fail;go_ret2;exact⟨rfl,q1⟩
 ·obtain⟨⟨iv,ie⟩,bK⟩:=zX (evE look t);obtain⟨⟨uv,ue⟩,hu⟩:=zX (unE k iv);have HX:=zh (show R=if ie≠0 then(0,ie)else(uv,ue) by rw[<-hRR,<-hu,evK,if_neg (by omega),if_neg (by omega)];simp[bK]);have qO:=zh (show ∀(v:Value) (W:World),NV W Any t v->Rd W->Calls prog 181 #[v,.func (.func f) #[rv] #[]] W (NumE (iv,ie) W)from bK▸ih t List.mem_cons_self ht);obtain⟨a,t0,A2,c2,rfl,_,Ht,⟨y0,y1,y2,y3⟩,hn0⟩:=(hrow.later (zkb zr (.cells #[.int .u8 k,.int .i64 n,.string s,.slice A [t].length c] 28))).nd (i:=0) (by simp);simp only[Nat.zero_mul,Addr.add_zero',List.length_cons,List.length_nil,Nat.zero_add]at *
  have ht0:t0=t:=Ht.out.symm;subst ht0;have fF:=zh hn0;have hbx:=box4 (heap_alloc_new w (.cells #[.int .u8 k,.int .i64 n,.string s,.slice (some a) 1 c] 28));obtain⟨W0,hW0⟩:=zX (w.alloc (.cells #[.int .u8 k,.int .i64 n,.string s,.slice (some a) 1 c] 28));have q0:Below w.heap.size w W0:=hW0▸zkb zr _;rw[hW0]at y0 y1 y2 y3 fF hbx;have qg:=zh (hL.later _ _ hR q0);have lU:=zh (show ∀w,Calls prog 186 #[.int .u8 k,.int .i64 iv] w fun e w'=>e=.returned (.tuple #[.int .i64 uv,.int .i64 ue])/\w'=w from fun w=>by have:=zqN k iv hk w;rwa[hu]at this);have aS:=zh hbx;obtain⟨x0,x1,x2,x3⟩:=hbx;clear hv hrow ih hE hR hL hRR hf hlk hlc hn0 Ht bK hu;rcases hk with rfl|rfl
  all_goals
   go_enter func181,ntmps181;go_wp2_with fail;refine(qO.out _ _ fF.out qg.out).mono ?_;rintro e w1 ⟨rfl,aa⟩;have q1:=zka q0 aa;have hx0:=zb aa x0;have hx3:=zb aa x3;clear aa y0 y1 y2 y3 x0 x1 x2 x3;have hX:=HX.out;by_cases he:ie=0
   ·subst he;rw[if_neg (by simp)]at hX;have bY:=zh hX;clear hX HX;go_wp2_with fail;refine(lU.out _).mono ?_;rintro e w2 ⟨rfl,rfl⟩;go_wp2_with fail;go_ret2;exact⟨by rw[bY.out];rfl,q1⟩
   ·rw[if_pos he]at hX;have bY:=zh hX;have e1:(ie==0)=false:=by simpa using he
    have e2:(ie != 0)=true:=by simpa using he
    clear hX HX he;go_wp2_with fail;go_ret2;exact⟨by rw[bY.out];rfl,q1⟩
 ·obtain⟨⟨iv,ie⟩,bK⟩:=zX (evE look t);obtain⟨⟨jv,je⟩,dG⟩:=zX (evE look u);obtain⟨⟨uv,ue⟩,hu'⟩:=zX (apE k iv jv);have HX:=zh (show R=if ie≠0 then(0,ie)else if je≠0 then(0,je)else(uv,ue) by rw[<-hRR,<-hu',evK,if_neg (by omega),if_neg (by omega)];simp[bK,dG]);have qO:=zh (show ∀(v:Value) (W:World),NV W Any t v->Rd W->Calls prog 181 #[v,.func (.func f) #[rv] #[]] W (NumE (iv,ie) W)from bK▸ih t (by simp) ht);have HVD:=zh (show ∀(v:Value) (W:World),NV W Any u v->Rd W->Calls prog 181 #[v,.func (.func f) #[rv] #[]] W (NumE (jv,je) W)from dG▸ih u (by simp) hu);have lU:=zh (show ∀w,Calls prog 187 #[.int .u8 k,.int .i64 iv,.int .i64 jv] w fun e w'=>e=.returned (.tuple #[.int .i64 uv,.int .i64 ue])/\w'=w from fun w=>by have:=zqS k iv jv hk w;rwa[hu']at this);have hrow':=hrow.later (zkb zr (.cells #[.int .u8 k,.int .i64 n,.string s,.slice A [t,u].length c] 28))
  obtain⟨a,t0,A2,c2,rfl,_,Ht,h4,hn0⟩:=hrow'.nd (i:=0) (by simp);obtain⟨a',t1,A3,c3,ea,_,Hu,h5,hn1⟩:=hrow'.nd (i:=1) (by simp);injection ea with ea;subst ea;have ha:a.add (1*4)=⟨a.block,a.off+4,none⟩:=by unfold Addr.add;split<;>simp_all
  rw[ha]at h5;simp only[Nat.zero_mul,Addr.add_zero',List.length_cons,List.length_nil,Nat.zero_add]at *
  have ht0:t0=t:=Ht.out.symm;have hu0:t1=u:=Hu.out.symm;subst ht0 hu0;have hbx:=box4 (heap_alloc_new w (.cells #[.int .u8 k,.int .i64 n,.string s,.slice (some a) 2 c] 28));obtain⟨W0,hW0⟩:=zX (w.alloc (.cells #[.int .u8 k,.int .i64 n,.string s,.slice (some a) 2 c] 28));have q0:Below w.heap.size w W0:=hW0▸zkb zr _;rw[hW0]at h4 h5 hn0 hn1 hbx;have fF:=zh hn0;have fE:=zh hn1;have qg:=zh (hL.later _ _ hR q0);have bR:=zh (show ∀w',Below W0.heap.size W0 w'->(Nd4 w' a t0 A2 c2/\Nd4 w' ⟨a.block,a.off+4,none⟩ t1 A3 c3)/\w'.cell? ⟨w.heap.size,0,none⟩=some (.int .u8 k)/\w'.cell? ⟨w.heap.size,3,none⟩=some (.slice (some a) 2 c)from fun w' h=>⟨⟨zlR h h4,zlR h h5⟩,zb h hbx.1,zb h hbx.2.2.2⟩);have z1:(k==1)=false:=by simp;omega
  have z2:(k==2)=false:=by simp;omega
  have z3:(k==3)=false:=by simp;omega
  have z4:(k==4)=false:=by simp;omega
  have z5:(k==5)=false:=by simp;omega
  obtain⟨⟨⟨y0,y1,y2,y3⟩,⟨v0,v1,v2,v3⟩⟩,x0,x3⟩:=bR.out _ zr;clear hv hrow hrow' ih hE hR hL hRR hf hlk hlc hn0 hn1 Ht Hu bK dG hu' h4 h5 hbx ha hk;go_enter func181,ntmps181;go_wp2_with fail;refine(qO.out _ _ fF.out qg.out).mono ?_;rintro e w1 ⟨rfl,aa⟩;have r1:=aa;obtain⟨⟨⟨y0,y1,y2,y3⟩,⟨v0,v1,v2,v3⟩⟩,x0,x3⟩:=bR.out _ r1;have aG:=zh (fE.out.later r1);have HRd2:=zh (HL.out.later _ _ qg.out r1);clear aa;have hX:=HX.out;by_cases he:ie=0
  ·subst he;rw[if_neg (by simp)]at hX;have bY:=zh hX;clear hX HX;go_wp2_with fail;refine(HVD.out _ _ aG.out HRd2.out).mono ?_;rintro e w2 ⟨rfl,ah⟩;have r2:=zka r1 ah;obtain⟨⟨⟨y0,y1,y2,y3⟩,⟨v0,v1,v2,v3⟩⟩,x0,x3⟩:=bR.out _ r2;clear ah;have hX:=bY.out;by_cases hj:je=0
   ·subst hj;rw[if_neg (by simp)]at hX;have xN:=zh hX;clear hX bY;go_wp2_with fail;refine(lU.out _).mono ?_;rintro e w3 ⟨rfl,rfl⟩;go_wp2_with fail;go_ret2;exact⟨by rw[xN.out];rfl,zka q0 r2⟩
   ·rw[if_pos hj]at hX;have xN:=zh hX;have e1:(je==0)=false:=by simpa using hj
    have e2:(je != 0)=true:=by simpa using hj
    clear hX bY hj;go_wp2_with fail;go_ret2;exact⟨by rw[xN.out];rfl,zka q0 r2⟩
  ·rw[if_pos he]at hX;have bY:=zh hX;have e1:(ie==0)=false:=by simpa using he
   have e2:(ie != 0)=true:=by simpa using he
   clear hX HX he;go_wp2_with fail;go_ret2;exact⟨by rw[bY.out];rfl,zka q0 r1⟩
theorem zxH(f:FuncId)(rv:Value)(w:World):(binOp BinOp.eql 222 (.func (.func f) #[rv] #[]) .nilFunc).run prog w=.ok (.bool false) w:=by kernel_rfl
def zl1(look:ByteArray->Option (List Int))(t:T):Int×Int:=if isE t=true then evE look t else(0,3)
def indE(look:ByteArray->Option (List Int))(t:T):Int×Int:=if isP t=true then(if t.k=2 then(0,0)else evE look (t.ks.getD 0 (.nd 0 0 ⟨#[]⟩ [])))else(0,3)
theorem zp0{f:FuncId}{fn:Func}{rv:Value}{Rd:World->Prop}{look:ByteArray->Option (List Int)}(hL:zrx f fn rv Rd look)(t:T)(v:Value)(w:World)(hv:NV w Any t v)(hR:Rd w) :
  Calls prog 168 #[v,.func (.func f) #[rv] #[]] w (NumE (zl1 look t) w):=by
 have HV:=zh hv;have HL:=zh hL;have uG:=zh hR;obtain⟨A,c,rfl,-⟩:=hv.open_;obtain⟨⟨R1,R2⟩,hRR⟩:=zX (zl1 look t);rw[hRR];obtain⟨b,hb⟩:=zX (isE t);have Cq:=zh (show ∀(v:Value) (w:World),NV w Any t v->Calls prog 144 #[v] w fun e w'=>e=.returned (.bool b)/\Below w.heap.size w w' from fun v w h=>hb▸zkF t v w h);have dO:=zh (show b=true->∀(v:Value) (W:World),NV W Any t v->Rd W->Calls prog 181 #[v,.func (.func f) #[rv] #[]] W (NumE (R1,R2) W)from fun h=>by
  have h1:zl1 look t=evE look t:=by rw[zl1,if_pos (hb.trans h)]
  rw[<-hRR,h1];exact zpk hL t (hb.trans h))
 have bW:=zh (show b=false->R1=0/\R2=3 from fun h=>by
  rw[zl1,hb,h]at hRR;simp at hRR;exact⟨hRR.1.symm,hRR.2.symm⟩)
 clear hv hR hL hRR hb;generalize t.k=k,t.n=n,t.s=s,t.ks.length=m at *
 have hen:=zxH;go_enter func168,ntmps168;go_wp2_with fail;refine(Cq.out _ _ (HV.out.later (zkb zr _))).mono ?_;rintro e w1 ⟨rfl,aa⟩;have q1:=zka (zkb zr _) aa;obtain⟨a0,a1,a2,a3⟩:=box4 (zkc (heap_alloc_new w (.cells #[.int .u8 k,.int .i64 n,.string s,.slice A m c] 28)) aa);clear aa
 cases b
 ·obtain⟨rfl,rfl⟩:=bW.out rfl;go_wp2_with fail;go_ret2;exact⟨rfl,q1⟩
 ·have uy:=zh (dO.out rfl);clear dO bW;go_wp2_with fail;refine(uy.out _ _ (HV.out.later q1) (HL.out.later _ _ uG.out q1)).mono ?_;rintro e w2 ⟨rfl,ah⟩;have q2:=zka q1 ah;clear ah;go_wp2_with fail;go_ret2;exact⟨rfl,q2⟩
theorem znj{f:FuncId}{fn:Func}{rv:Value}{Rd:World->Prop}{look:ByteArray->Option (List Int)}(hL:zrx f fn rv Rd look)(t:T)(v:Value)(w:World)(hv:NV w Any t v)(hR:Rd w) :
  Calls prog 170 #[v,.func (.func f) #[rv] #[]] w (NumE (indE look t) w):=by
 have HV:=zh hv;have HL:=zh hL;have uG:=zh hR;obtain⟨A,c,rfl,hf,hlk,hlc,hrow⟩:=hv.open_;obtain⟨⟨R1,R2⟩,hRR⟩:=zX (indE look t);rw[hRR];obtain⟨b,hb⟩:=zX (isP t);have Cq:=zh (show ∀(v:Value) (w:World),NV w Any t v->Calls prog 143 #[v] w fun e w'=>e=.returned (.bool b)/\Below w.heap.size w w' from fun v w h=>hb▸zkN t v w h);have ae:=zh hrow;have HK:=zh (show ∀k n s m,t.k=k->t.n=n->t.s=s->t.ks.length=m->b=true->(k=2/\R1=0/\R2=0)\/(k=3/\m=1/\∃u,t.ks=[u]/\∀(v:Value) (W:World),NV W Any u v->Rd W->Calls prog 181 #[v,.func (.func f) #[rv] #[]] W (NumE (R1,R2) W))from by
  rintro k n s m rfl rfl rfl rfl h;have hp:=hb.trans h;rw[indE,if_pos hp]at hRR;unfold isP at hp;simp only[Bool.and_eq_true,Bool.or_eq_true,beq_iff_eq]at hp;rcases hp.1 with h2|h3
  ·rw[if_pos h2]at hRR;injection hRR with r1 r2;exact .inl ⟨h2,r1.symm,r2.symm⟩
  ·rw[if_neg (by omega)]at hRR;obtain⟨k,n,s,ks⟩:=t;simp only[T.k_nd,T.ks_nd]at *
   subst h3;rcases zo7 hp.2 with h|h|⟨_,u,rfl,hu⟩|h|h
   ·omega
   ·omega
   ·refine .inr ⟨rfl,rfl,u,rfl,?_⟩;simp at hRR;rw[<-hRR];exact zpk hL u hu
   ·omega
   ·omega)
 have bW:=zh (show b=false->R1=0/\R2=3 from fun h=>by
  rw[indE,hb,h]at hRR;simp at hRR;exact⟨hRR.1.symm,hRR.2.symm⟩)
 obtain⟨k,hk⟩:=zX (t.k);obtain⟨n,hn⟩:=zX (t.n);obtain⟨s,hs⟩:=zX (t.s);obtain⟨m,hm⟩:=zX (t.ks.length);have HKK:=zh (HK.out k n s m hk hn hs hm);rw[hk,hn,hs,hm]at HV ⊢;clear hv hR hL hRR hb hrow hf hlk hlc HK hk hn hs hm;have hen:=zxH;go_enter func170,ntmps170;go_wp2_with fail;refine(Cq.out _ _ (HV.out.later (zkb zr _))).mono ?_;rintro e w1 ⟨rfl,aa⟩;have q1:=zka (zkb zr _) aa;obtain⟨a0,a1,a2,a3⟩:=box4 (zkc (heap_alloc_new w (.cells #[.int .u8 k,.int .i64 n,.string s,.slice A m c] 28)) aa);clear aa
 cases b
 ·obtain⟨rfl,rfl⟩:=bW.out rfl;clear HKK;go_wp2_with fail;go_ret2;exact⟨rfl,q1⟩
 ·rcases HKK.out rfl with⟨rfl,rfl,rfl⟩|⟨rfl,rfl,u,hu,dw⟩
  ·clear HKK bW;go_wp2_with fail;go_ret2;exact⟨rfl,q1⟩
  ·have hrow:=ae.out;rw[hu]at hrow;obtain⟨a,t0,A2,c2,rfl,_,Ht,⟨y0,y1,y2,y3⟩,hn0⟩:=(hrow.later q1).nd (i:=0) (by simp);simp only[Nat.zero_mul,Addr.add_zero']at y0 y1 y2 y3;have ht0:t0=u:=Ht.out.symm;subst ht0;have fF:=zh hn0;have qO:=zh dw;clear HKK bW dw hu hrow hn0 Ht;go_wp2_with fail;refine(qO.out _ _ fF.out (HL.out.later _ _ uG.out q1)).mono ?_;rintro e w2 ⟨rfl,ah⟩;have q2:=zka q1 ah;clear ah;go_wp2_with fail;go_ret2;exact⟨rfl,q2⟩
theorem zlP{W:World}{n0 b k:Nat}{E:TypeId}{xs:List Value}(h:W.ownsRow n0 E k (boxV b) 1 xs):W.heap[b]?=some (.cells xs.toArray E (0,0)):=by
 rcases h.2 with⟨h1,_⟩|⟨g,cap,cur,hv,_,hg,hn,_,hz,hx⟩
 ·cases h1
 ·injection hv with e1 e2 e3;injection e1 with e1;injection e1 with e1;subst e1 e3;have:cur=xs.toArray:=by
   rw[List.take_of_length_le (by simp;omega)]at hx;rw[<-hx]
  rw[this]at hg;exact hg
theorem zkg{W:World}{n0 sz n:Nat}{E:TypeId}{v:Value}{xs:List Value}(h:W.ownsRow n0 E sz v n xs):∃A c,v=.slice A n c/\n<=c/\c<=maxLen:=by
 rcases h.2 with⟨rfl,rfl⟩|⟨g,cap,cur,rfl,_,_,hn,hm,_⟩
 ·exact⟨none,0,rfl,zl,Nat.zero_le _⟩
 ·exact⟨_,_,rfl,hn,hm⟩
theorem zk7{W:World}{n0 sz n:Nat}{E:TypeId}{v:Value}{xs:List Value}(h:W.ownsRow n0 E sz v n xs)(hn:0<n):∃g c,v=.slice (some ⟨g,0,none⟩) n c/\n<=c/\c<=maxLen/\∀j,j<n*sz->W.cell? ⟨g,j,none⟩=xs[j]?:=by
 rcases h.2 with⟨rfl,rfl⟩|⟨g,cap,cur,rfl,_,_,hc,hm,_⟩
 ·omega
 ·exact⟨g,cap,rfl,hc,hm,fun j hj=>h.cellAt j hj⟩
theorem zzo{W:World}{n0:Nat}{E:TypeId}{v:Value}{vs:List VD}(h:W.ownsRow n0 E 3 v vs.length (zkD vs))(hf:∀v∈vs,FldV v):∃A c,v=.slice A vs.length c/\vs.length<=c/\RowV W Any A vs:=by
 rcases Nat.eq_zero_or_pos vs.length with h0|h0
 ·obtain⟨A,c,rfl,hc,_⟩:=zkg h;exact⟨A,c,rfl,hc,fun i hi=>by omega⟩
 ·obtain⟨g,c,rfl,hc,_,hcell⟩:=zk7 h h0;refine⟨_,c,rfl,hc,fun i hi=>⟨_,rfl,trivial,?_,hf _ (List.getElem_mem hi)⟩⟩;have ha:(⟨g,0,none⟩:Addr).add (i*3)=⟨g,i*3,none⟩:=by unfold Addr.add;split<;>simp_all
  obtain⟨h1,h2,h3⟩:=zmx vs i hi;rw[ha];exact⟨(hcell (i*3) (by omega)).trans h1,(hcell (i*3+1) (by omega)).trans h2,(hcell (i*3+2) (by omega)).trans h3⟩
theorem zq5{W:World}{n0:Nat}{E:TypeId}{v:Value}{l:List Int}(h:W.ownsRow n0 E 1 v l.length (zki l))(hf:∀x∈l,I64 x):∃A c,v=.slice A l.length c/\l.length<=c/\RowI W Any A l:=by
 obtain⟨A,c,e,hc,hr⟩:=zld (xs:=l) h hf;exact⟨A,c,e,hc,hr.any⟩
def Ph.gF(P:Ph):Nat:=P.vF.ownBlock.getD 0
def curP(P:Ph)(S:ST):Addr:=if S.calls.length=0 then⟨P.sb,0,none⟩else⟨P.gF,(S.calls.length-1)*3,none⟩
def curV(P:Ph)(S:ST):Value:=if S.calls.length=0 then P.vV else P.fV (S.calls.length-1)
def curC(P:Ph)(S:ST):Value:=if S.calls.length=0 then P.vC else P.fC (S.calls.length-1)
theorem zne{S:ST}(h:S.calls.length=0):S.cur=S.base:=by
 have:S.calls=[]:=List.length_eq_zero_iff.1 h;simp[ST.cur,this]
theorem znd{S:ST}(h:0<S.calls.length):S.cur=S.calls[S.calls.length-1]:=by
 unfold ST.cur;rw[List.getLast?_eq_getElem?,List.getElem?_eq_getElem (by omega)];rfl
section
variable {W W':World} {n0:Nat} {P:Ph} {S:ST}
theorem SR.later(h:SR W n0 P S)(hb:Below W.heap.size W W'):SR W' n0 P S:=⟨h.rws.later hb,h.wf⟩
theorem SR.box(h:SR W n0 P S):W.heap[P.sb]?=some (.cells #[P.vV,P.vC,.int .i64 S.base.loc,P.vF,.pointer (some ⟨P.tb,0,none⟩)] 167 (0,0)):=zlP (h.rws.row .sb)
theorem SR.tbox(h:SR W n0 P S):W.heap[P.tb]?=some (.cells #[P.vI,P.vO] 188 (0,0)):=zlP (h.rws.row .tb)
theorem SR.cbox(h:SR W n0 P S){i:Nat}(hi:i<S.nc):W.heap[P.cb i]?=some (.cells #[P.ci i] 171 (0,0)):=by
 have:=h.rws.row (.cb i);simp only[rows,hi,if_true]at this;exact zlP this
theorem SR.items(h:SR W n0 P S){i:Nat}(hi:i<S.nc):∃A c,P.ci i=.slice A (S.cell i).length c/\(S.cell i).length<=c/\RowI W Any A (S.cell i):=by
 have:=h.rws.row (.ci i);simp only[rows,hi,if_true]at this;exact zq5 this (h.wf.cells i hi).2
theorem SR.calls(h:SR W n0 P S):∃A c,P.vF=.slice A S.calls.length c/\S.calls.length<=c/\(0<S.calls.length->A=some ⟨P.gF,0,none⟩/\∀j,j<S.calls.length*3->W.cell? ⟨P.gF,j,none⟩=(zkS P 0 S.calls)[j]?):=by
 have hr:W.ownsRow n0 164 3 P.vF S.calls.length (zkS P 0 S.calls):=h.rws.row .calls;rcases Nat.eq_zero_or_pos S.calls.length with h0|h0
 ·obtain⟨A,c,e,hc,_⟩:=zkg hr;exact⟨A,c,e,hc,fun h=>by omega⟩
 ·obtain⟨g,c,e,hc,_,hcell⟩:=zk7 hr h0;have hg:P.gF=g:=by simp[Ph.gF,e,Value.ownBlock]
  exact⟨_,c,e,hc,fun _=>⟨by rw[hg],by rw[hg];exact hcell⟩⟩
theorem SR.curWF(h:SR W n0 P S):∃kd,S.cur.WF kd S.nc:=by
 obtain⟨kd,h1,h2,_⟩:=h.wf.ex;refine⟨kd,?_⟩;rcases Nat.eq_zero_or_pos S.calls.length with h0|h0
 ·rw[zne h0];exact h1
 ·rw[znd h0];exact h2 _ (List.getElem_mem _)
theorem SR.cur3(h:SR W n0 P S):W.cell? (curP P S)=some (curV P S)/\W.cell? ⟨(curP P S).block,(curP P S).off+1,none⟩=some (curC P S)/\W.cell? ⟨(curP P S).block,(curP P S).off+2,none⟩=some (.int .i64 S.cur.loc):=by
 rcases Nat.eq_zero_or_pos S.calls.length with h0|h0
 ·rw[zne h0];simp only[curP,curV,curC,h0,if_true];exact⟨zc h.box rfl,zc h.box rfl,zc h.box rfl⟩
 ·rw[znd h0];have hne:S.calls.length≠0:=by omega
  simp only[curP,curV,curC,hne,if_false];obtain⟨A,c,_,_,h2⟩:=h.calls;obtain⟨_,hcell⟩:=h2 h0;obtain⟨g1,g2,g3⟩:=zos P S.calls 0 (S.calls.length-1) (by omega);simp only[Nat.zero_add]at g1 g2;exact⟨(hcell _ (by omega)).trans g1,(hcell _ (by omega)).trans g2,(hcell _ (by omega)).trans g3⟩
theorem SR.curVs(h:SR W n0 P S):∃A c,curV P S=.slice A S.cur.vs.length c/\S.cur.vs.length<=c/\RowV W Any A S.cur.vs:=by
 obtain⟨kd,hw⟩:=h.curWF;rcases Nat.eq_zero_or_pos S.calls.length with h0|h0
 ·rw[zne h0]at hw ⊢;simp only[curV,h0,if_true];exact zzo (h.rws.row .bv) hw.fld
 ·rw[znd h0]at hw ⊢;have hne:S.calls.length≠0:=by omega
  simp only[curV,hne,if_false];have:=h.rws.row (.fv (S.calls.length-1));simp only[rows,List.getElem?_eq_getElem (show S.calls.length-1<S.calls.length by omega)]at this;exact zzo this hw.fld
theorem SR.curCs(h:SR W n0 P S):W.ownsRow n0 169 1 (curC P S) S.cur.cs.length (ptrs P.cb S.cur.cs):=by
 rcases Nat.eq_zero_or_pos S.calls.length with h0|h0
 ·rw[zne h0];simp only[curC,h0,if_true];exact h.rws.row .bc
 ·rw[znd h0];have hne:S.calls.length≠0:=by omega
  simp only[curC,hne,if_false];have:=h.rws.row (.fc (S.calls.length-1));simp only[rows,List.getElem?_eq_getElem (show S.calls.length-1<S.calls.length by omega)]at this;exact this
end
def idxZ:Option Nat->Int
 | none => -1
 | some i=>i
theorem zlb{W:World}{n0:Nat}{P:Ph}{S:ST}(h:SR W n0 P S):Calls prog 156 #[.pointer (some ⟨P.sb,0,none⟩)] W fun e w'=>e=.returned (.pointer (some (curP P S)))/\w'=W:=by
 obtain⟨A,c,oo,hc,h2⟩:=h.calls;have hx:W.cell? ⟨P.sb,3,none⟩=some (.slice A S.calls.length c):=by rw[<-oo];exact zc h.box rfl
 have sV:=h.wf.ncalls;obtain⟨cp,hcp⟩:=zX (curP P S);rw[hcp];have vG:=zh hcp;have H2:=zh h2;obtain⟨L,hL⟩:=zX (S.calls.length);rw[hL]at hx sV;have HL:=zh hL;clear h oo hc h2 hcp hL;rcases Nat.eq_zero_or_pos L with h0|h0
 ·subst h0;have HX:=zh (show cp=⟨P.sb,0,none⟩ by rw[<-vG.out,curP,if_pos HL.out]);clear HL vG H2;go_enter func156,ntmps156;go_wp2_with fail;go_ret;exact⟨by rw[HX.out];rfl,rfl⟩
 ·obtain⟨rfl,-⟩:=H2.out (by rw[HL.out];exact h0);obtain⟨m,hm⟩:∃m,L=m+1:=⟨L-1,by omega⟩
  subst hm;have HX:=zh (show cp=⟨P.gF,m*3,none⟩ by rw[<-vG.out,curP,if_neg (by have:=HL.out;omega),HL.out];rfl);clear HL vG H2 h0;go_enter func156,ntmps156;go_wp2_with fail;go_ret;exact⟨by rw[HX.out];simp,rfl⟩
theorem znV(vs:List VD)(A:Option Addr)(c:Nat)(s:ByteArray)(fp:Addr)(w:World)(hc:w.cell? fp=some (.slice A vs.length c))(hrow:RowV w Any A vs)(hl:vs.length<=4398046511000) :
  Calls prog 157 #[.pointer (some fp),.string s] w fun e w'=>e=.returned (.int .i64 (idxZ (zmn vs s vs.length)))/\Below w.heap.size w w':=by
 obtain⟨R,hR⟩:=zX (zmn vs s vs.length);rw[hR];have HR:=zh hR;have ae:=zh hrow;have HC:=zh hc;clear hR hrow;go_enter func157,ntmps157;go_wp2_with fail
 go_loopw [5] (fun i wr=>∃j:Nat,j<=vs.length/\i=.int .i64 ((j:Int)-1)/\wr=w/\Hid (zmn vs s j=R)) (fun i _=>(intOf i+1).toNat)
 case atStart=>exact⟨vs.length,zl,by go_num,rfl,HR⟩
 case round =>
  obtain⟨j,hj,rfl,rfl,HJ⟩:=hrel;by_cases h0:j=0
  ·subst h0;have HX:=zh (show R=none by rw[<-HJ.out];rfl);go_wp2_with fail;go_ret;exact⟨by rw[HX.out];rfl,zr⟩
  ·obtain⟨m,rfl⟩:∃m,j=m+1:=⟨j-1,by omega⟩
   have hm:m<vs.length:=by omega
   obtain⟨a,rfl,-,⟨y0,y1,y2⟩,-⟩:=ae.out m hm;have hjm:((m+1:Nat):Int)-1=(m:Int):=by omega
   rw[hjm];obtain⟨vm,AJ⟩:=zX (vs[m]);rw[AJ]at y0 y1 y2;have HL:=zh (show(if vm.s.toList==s.toList then some m else zmn vs s m)=R by rw[<-HJ.out,zo6 hm,AJ]);obtain⟨b,hb⟩:=zX ((vm.s.toList==s.toList));rw[hb]at HL;clear HJ AJ hjm
   cases b
   ·go_wp2_with fail
    go_roundw
    case rel=>exact⟨m,by omega,by go_num,trivial,zh (by have:=HL.out;simpa using this)⟩
    case measure=>simp[intOf]
   ·have HX:=zh (show R=some m by rw[<-HL.out];rfl);go_wp2_with fail;go_ret;exact⟨by rw[HX.out];rfl,zr⟩
theorem zo5{W:World}{n0:Nat}{P:Ph}{S:ST}(h:SR W n0 P S)(s:ByteArray):Calls prog 171 #[.pointer (some ⟨P.sb,0,none⟩),.string s] W fun e W'=>Below W.heap.size W W' /\
  ((S.look s=none/\∃A c,e=.returned (.tuple #[.slice A 0 c,.bool false]))\/∃l A c,S.look s=some l/\e=.returned (.tuple #[.slice A l.length c,.bool true])/\RowI W' Any A l):=by
 have HS:=zh h;obtain⟨kd,hw⟩:=h.curWF;obtain⟨A,c,hcv,hc,hrow⟩:=h.curVs;obtain⟨h1,h2,h3⟩:=h.cur3;rw[hcv]at h1;have dm:=zh (zlb h);have dW:=zh (fun W' (hb:Below W.heap.size W W')=>znV S.cur.vs A c s (curP P S) W' (zb hb h1) (hrow.later hb) hw.lim);have CE:=zh h.curCs;have eH:=zh hw;obtain⟨cp,hcp⟩:=zX (curP P S);rw[hcp]at h1 h2 h3 dm dW;obtain⟨r,hr⟩:=zX (S.cur.at s);have hr':zmn S.cur.vs s S.cur.vs.length=r:=hr;rw[hr']at dW;have HRR:=zh hr;have H2:=zh h2;clear h hw hcv hrow h1 h2 h3 hcp hr hr';go_enter func171,ntmps171;go_wp2_with fail;refine dm.out.mono ?_;rintro e w1 ⟨rfl,rfl⟩;go_wp2_with fail;refine(dW.out _ zr).mono ?_;rintro e w2 ⟨rfl,ah⟩;have hy:=zb ah H2.out;have HS2:=zh (HS.out.later ah);have HB2:=zh ah;clear ah;rcases r with _|i
 ·have HX:=zh (show S.look s=none by unfold ST.look ST.num;rw[HRR.out];rfl);simp only[idxZ];go_wp2_with fail;go_ret2;exact⟨HB2.out,.inl ⟨HX.out,none,0,rfl⟩⟩
 ·have hil:i<S.cur.vs.length:=FR.at_lt HRR.out;have hic:i<S.cur.cs.length:=by rw[eH.out.len];exact hil
  obtain⟨id,hid⟩:=zX (S.cur.cs[i]);have aI:id<S.nc:=by rw[<-hid];exact eH.out.num _ (List.getElem_mem hic)
  have HX:=zh (show S.look s=some (S.cell id) by unfold ST.look ST.num;rw[HRR.out];simp[hic,hid]);obtain⟨g,c2,hcc,hc2,hm2,hcell⟩:=zk7 HS2.out.curCs (by omega);rw[hcc]at hy;have hz:w2.cell? ⟨g,i,none⟩=some (.pointer (some ⟨P.cb id,0,none⟩)):=by rw[hcell i (by omega)];simp[ptrs,hic,hid]
  obtain⟨A3,c3,hci,hc3,aX⟩:=HS2.out.items aI;have hz2:w2.cell? ⟨P.cb id,0,none⟩=some (.slice A3 (S.cell id).length c3):=by rw[<-hci];exact zc (HS2.out.cbox aI) rfl
  have bZ:=zh aX;have hi1:(i:Int)<(S.cur.cs.length:Int):=by omega
  have hi2:¬ (i:Int)<0:=by omega
  simp only[idxZ];clear hcell hcc aX hci hid hil;go_wp2_with fail;go_ret2;exact⟨HB2.out,.inr ⟨_,HX.out,A3,⟨c3,rfl⟩,bZ.out⟩⟩
theorem zwD:IsFn prog 171 f171:=⟨func171,by kernel_rfl,by kernel_rfl⟩
theorem ST.look_num{S:ST}{s:ByteArray}{l:List Int}(h:S.look s=some l):∃i id,S.cur.at s=some i/\S.cur.cs[i]?=some id/\l=S.cell id:=by
 unfold ST.look ST.num at h;simp only[Option.map_eq_some_iff,Option.bind_eq_some_iff]at h;obtain⟨id,⟨i,h1,h2⟩,rfl⟩:=h;exact⟨i,id,h1,h2,rfl⟩
theorem ST.WF.cur{S:ST}(h:S.WF):∃kd,S.cur.WF kd S.nc:=by
 obtain⟨kd,h1,h2,_⟩:=h.ex;refine⟨kd,?_⟩;rcases Nat.eq_zero_or_pos S.calls.length with h0|h0
 ·rw[zne h0];exact h1
 ·rw[znd h0];exact h2 _ (List.getElem_mem _)
theorem zt4(n0:Nat)(P:Ph)(S:ST)(hw:S.WF):zrx 171 f171 (.pointer (some ⟨P.sb,0,none⟩)) (fun W=>SR W n0 P S) S.look where
 isFn:=zwD
 later:=fun _ _ h hb=>h.later hb
 fits:=fun s l hl=>by
  obtain⟨i,id,h1,h2,rfl⟩:=ST.look_num hl;obtain⟨kd,hc⟩:=hw.cur;have:=(hw.cells id (hc.num id (List.mem_of_getElem? h2))).1;omega
 call:=fun s W h=>zo5 h s
theorem zmq{W:World}{n0:Nat}{P:Ph}{S:ST}(h:SR W n0 P S)(s:ByteArray)(id:Nat)(hid:S.num s=some id):Calls prog 172 #[.pointer (some ⟨P.sb,0,none⟩),.string s] W fun e W'=>e=.returned (.pointer (some ⟨P.cb id,0,none⟩))/\Below W.heap.size W W':=by
 have HS:=zh h;obtain⟨kd,hw⟩:=h.curWF;obtain⟨A,c,hcv,hc,hrow⟩:=h.curVs;obtain⟨h1,h2,h3⟩:=h.cur3;rw[hcv]at h1;unfold ST.num at hid;rw[Option.bind_eq_some_iff]at hid;obtain⟨i,hr,hci⟩:=hid;have hr':zmn S.cur.vs s S.cur.vs.length=some i:=hr;have dm:=zh (zlb h);have hfi:=fun W' (hb:Below W.heap.size W W')=>znV S.cur.vs A c s (curP P S) W' (zb hb h1) (hrow.later hb) hw.lim;rw[hr']at hfi;simp only[idxZ]at hfi;have dW:=zh hfi;have hic:i<S.cur.cs.length:=(List.getElem?_eq_some_iff.1 hci).1;have hidd:S.cur.cs[i]=id:=(List.getElem?_eq_some_iff.1 hci).2;obtain⟨cp,hcp⟩:=zX (curP P S);rw[hcp]at h1 h2 h3 dm dW;have H2:=zh h2;clear hw hcv hrow h1 h2 h3 hcp hr hr' hfi h hci;go_enter func172,ntmps172;go_wp2_with fail;refine dm.out.mono ?_;rintro e w1 ⟨rfl,rfl⟩;have hy0:=H2.out;obtain⟨g,c2,hcc,hc2,hm2,hcell⟩:=zk7 HS.out.curCs (by omega);rw[hcc]at hy0
 have hz:w1.cell? ⟨g,i,none⟩=some (.pointer (some ⟨P.cb id,0,none⟩)):=by rw[hcell i (by omega)];simp[ptrs,hic,hidd]
 have aB:=zh (show ∀w',Below w1.heap.size w1 w'->w'.cell? ⟨cp.block,cp.off+1,none⟩=some (.slice (some ⟨g,0,none⟩) S.cur.cs.length c2)/\w'.cell? ⟨g,i,none⟩=some (.pointer (some ⟨P.cb id,0,none⟩))from fun w' hb=>⟨zb hb hy0,zb hb hz⟩);have aH:=zh (aB.out _ zr.drew);obtain⟨L,hL⟩:=zX (S.cur.cs.length);have hi1:(i:Int)<(L:Int):=by omega
 have hi0:(0:Int)<=(i:Int):=by omega
 have hi2:i<L:=by omega
 rw[hL]at aB aH;clear hcell hcc hy0 hz hL;go_upto_region 2 with fail
 go_region_held3 (fun w':World=>zv w' cp.block (cp.off+1) (.slice (some ⟨g,0,none⟩) L c2)/\zv w' g i (.pointer (some ⟨P.cb id,0,none⟩)))
  (first|with_reducible exact aD.out|with_reducible exact aH.out)
  (first
   | (go_at_call 157;refine(dW.out _ zr.drew).mono ?_;rintro e y1 ⟨rfl,bG⟩;have b1:=zka (zs w1).drew bG;have aD:=zh (aB.out _ b1))
   | fail)
 have HB1:=zh b1;clear b1 bG aD;go_wp2_with fail;go_ret;exact⟨rfl,HB1.out⟩
def zpE(k:Int):Int:=if k=2 then 1 else if k=3 then 2 else if k=4\/k=5\/k=44\/k=45 then 3 else 0
def basB(k:Int):Bool:=decide (40<=k/\k<=49)
def zsM(k:Int):Int:=if k=40 then 41 else if k=41 then 40 else if k=44 then 45 else if k=45 then 44 else if k=46 then 47 else if k=47 then 46 else if k=48 then 49 else if k=49 then 48 else k
theorem zt1(k:Int)(w:World):Calls prog 169 #[.int .u8 k] w fun e w'=>e=.returned (.int .u8 (zpE k))/\w'=w:=by
 by_cases e2:k=2
 ·subst e2;go_enter func169,ntmps169;go_wp2_with fail;go_ret;exact⟨rfl,rfl⟩
 by_cases e3:k=3
 ·subst e3;go_enter func169,ntmps169;go_wp2_with fail;go_ret;exact⟨rfl,rfl⟩
 by_cases e4:k=4
 ·subst e4;go_enter func169,ntmps169;go_wp2_with fail;go_ret;exact⟨rfl,rfl⟩
 by_cases e5:k=5
 ·subst e5;go_enter func169,ntmps169;go_wp2_with fail;go_ret;exact⟨rfl,rfl⟩
 by_cases e44:k=44
 ·subst e44;go_enter func169,ntmps169;go_wp2_with fail;go_ret;exact⟨rfl,rfl⟩
 by_cases e45:k=45
 ·subst e45;go_enter func169,ntmps169;go_wp2_with fail;go_ret;exact⟨rfl,rfl⟩
 have x2:(k==2)=false:=by simpa using e2
 have x3:(k==3)=false:=by simpa using e3
 have x4:(k==4)=false:=by simpa using e4
 have x5:(k==5)=false:=by simpa using e5
 have x44:(k==44)=false:=by simpa using e44
 have x45:(k==45)=false:=by simpa using e45
 obtain⟨R,hR⟩:=zX (zpE k);rw[hR];have HR:=zh (show R=0 by rw[<-hR,zpE];rw[if_neg e2,if_neg e3,if_neg (by omega)]);clear hR e2 e3 e4 e5 e44 e45;go_enter func169,ntmps169;go_wp2_with fail;go_ret;exact⟨by rw[HR.out];rfl,rfl⟩
theorem zu3(k:Int)(w:World):Calls prog 161 #[.int .u8 k] w fun e w'=>e=.returned (.bool (basB k))/\w'=w:=by
 by_cases e40:k=40
 ·subst e40;go_enter func161,ntmps161;go_wp2_with fail;go_ret;exact⟨rfl,rfl⟩
 by_cases e41:k=41
 ·subst e41;go_enter func161,ntmps161;go_wp2_with fail;go_ret;exact⟨rfl,rfl⟩
 by_cases e42:k=42
 ·subst e42;go_enter func161,ntmps161;go_wp2_with fail;go_ret;exact⟨rfl,rfl⟩
 by_cases e43:k=43
 ·subst e43;go_enter func161,ntmps161;go_wp2_with fail;go_ret;exact⟨rfl,rfl⟩
 by_cases e44:k=44
 ·subst e44;go_enter func161,ntmps161;go_wp2_with fail;go_ret;exact⟨rfl,rfl⟩
 by_cases e45:k=45
 ·subst e45;go_enter func161,ntmps161;go_wp2_with fail;go_ret;exact⟨rfl,rfl⟩
 by_cases e46:k=46
 ·subst e46;go_enter func161,ntmps161;go_wp2_with fail;go_ret;exact⟨rfl,rfl⟩
 by_cases e47:k=47
 ·subst e47;go_enter func161,ntmps161;go_wp2_with fail;go_ret;exact⟨rfl,rfl⟩
 by_cases e48:k=48
 ·subst e48;go_enter func161,ntmps161;go_wp2_with fail;go_ret;exact⟨rfl,rfl⟩
 by_cases e49:k=49
 ·subst e49;go_enter func161,ntmps161;go_wp2_with fail;go_ret;exact⟨rfl,rfl⟩
 have x40:(k==40)=false:=by simpa using e40
 have x41:(k==41)=false:=by simpa using e41
 have x42:(k==42)=false:=by simpa using e42
 have x43:(k==43)=false:=by simpa using e43
 have x44:(k==44)=false:=by simpa using e44
 have x45:(k==45)=false:=by simpa using e45
 have x46:(k==46)=false:=by simpa using e46
 have x47:(k==47)=false:=by simpa using e47
 have x48:(k==48)=false:=by simpa using e48
 have x49:(k==49)=false:=by simpa using e49
 obtain⟨R,hR⟩:=zX (basB k);rw[hR];have HR:=zh (show R=false by rw[<-hR,basB];simp;omega);clear hR e40 e41 e42 e43 e44 e45 e46 e47 e48 e49;go_enter func161,ntmps161;go_wp2_with fail;go_ret;exact⟨by rw[HR.out];rfl,rfl⟩
theorem zrj(k:Int)(w:World):Calls prog 160 #[.int .u8 k] w fun e w'=>e=.returned (.int .u8 (zsM k))/\w'=w:=by
 by_cases e40:k=40
 ·subst e40;go_enter func160,ntmps160;go_wp2_with fail;go_ret;exact⟨rfl,rfl⟩
 by_cases e41:k=41
 ·subst e41;go_enter func160,ntmps160;go_wp2_with fail;go_ret;exact⟨rfl,rfl⟩
 by_cases e44:k=44
 ·subst e44;go_enter func160,ntmps160;go_wp2_with fail;go_ret;exact⟨rfl,rfl⟩
 by_cases e45:k=45
 ·subst e45;go_enter func160,ntmps160;go_wp2_with fail;go_ret;exact⟨rfl,rfl⟩
 by_cases e46:k=46
 ·subst e46;go_enter func160,ntmps160;go_wp2_with fail;go_ret;exact⟨rfl,rfl⟩
 by_cases e47:k=47
 ·subst e47;go_enter func160,ntmps160;go_wp2_with fail;go_ret;exact⟨rfl,rfl⟩
 by_cases e48:k=48
 ·subst e48;go_enter func160,ntmps160;go_wp2_with fail;go_ret;exact⟨rfl,rfl⟩
 by_cases e49:k=49
 ·subst e49;go_enter func160,ntmps160;go_wp2_with fail;go_ret;exact⟨rfl,rfl⟩
 have x40:(k==40)=false:=by simpa using e40
 have x41:(k==41)=false:=by simpa using e41
 have x44:(k==44)=false:=by simpa using e44
 have x45:(k==45)=false:=by simpa using e45
 have x46:(k==46)=false:=by simpa using e46
 have x47:(k==47)=false:=by simpa using e47
 have x48:(k==48)=false:=by simpa using e48
 have x49:(k==49)=false:=by simpa using e49
 obtain⟨R,hR⟩:=zX (zsM k);rw[hR];have HR:=zh (show R=k by rw[<-hR,zsM];rw[if_neg e40,if_neg e41,if_neg e44,if_neg e45,if_neg e46,if_neg e47,if_neg e48,if_neg e49]);clear hR e40 e41 e44 e45 e46 e47 e48 e49;go_enter func160,ntmps160;go_wp2_with fail;go_ret;exact⟨by rw[HR.out];rfl,rfl⟩
def OwnB{I:Type}(d:I->RowD)(b:Nat):Prop:=∃i,(d i).v.ownBlock=some b
structure Stp{I:Type}(n0:Nat)(d:I->RowD)(W:World)(d':I->RowD)(W':World):Prop where
 rws:Rws W' n0 d'
 chg:Chg (OwnB d) W W'
 own:∀b,OwnB d' b->OwnB d b\/W.heap.size<=b
section
variable {I:Type} {n0:Nat} {d d' d'':I->RowD} {W W' W'':World}
theorem Stp.refl(h:Rws W n0 d):Stp n0 d W d W:=⟨h,Chg.refl _ _,fun _ h=>.inl h⟩
theorem Stp.trans(h:Stp n0 d W d' W')(h':Stp n0 d' W' d'' W''):Stp n0 d W d'' W'' :=
 ⟨h'.rws,h.chg.trans2 h'.chg fun b hb hc=>(h.own b hc).elim id fun h=>by omega,fun b hb=>(h'.own b hb).elim (h.own b) fun h2=>.inr (Nat.le_trans h.chg.size h2)⟩
theorem Stp.cast(h:Stp n0 d W d' W')(e:d'=d''):Stp n0 d W d'' W':=e▸h
theorem Stp.below(h:Stp n0 d W d' W')(hb:Below W'.heap.size W' W''):Stp n0 d W d' W'' :=
 ⟨h.rws.later hb,h.chg.trans (Chg.of_below hb),h.own⟩
theorem Stp.after(h:Stp n0 d W' d' W'')(hb:Below W.heap.size W W')(hd:Rws W n0 d):Stp n0 d W d' W'' :=
 (Stp.below (Stp.refl hd) hb).trans h
variable [DecidableEq I]
theorem Stp.upd{i:I}{r:RowD}(h:Rws W n0 d)(hc:Chg (fun b=>(d i).v.ownBlock=some b) W W')(ho:W'.ownsRow n0 r.E r.sz r.v r.n r.xs)(aY:∀b,r.v.ownBlock=some b->(d i).v.ownBlock=some b\/W.heap.size<=b):Stp n0 d W (updR d i r) W' :=
 ⟨h.upd i hc ho aY,hc.mono fun b _ hb=>⟨i,hb⟩,fun b ⟨j,hj⟩=>by
  by_cases e:j=i
  ·subst e;rw[zkw]at hj;exact(aY b hj).imp (fun h=>⟨j,h⟩) id
  ·rw[zkl e]at hj;exact .inl ⟨j,hj⟩⟩
theorem Stp.set{i:I}(h:Rws W n0 d){g:Nat}(hg:(d i).v.ownBlock=some g){o:Nat}(ho:o<(d i).xs.length)(u:Value):Stp n0 d W (updR d i { d i with xs:=(d i).xs.set o u }) (W.setCell ⟨g,o,none⟩ u) :=
 ⟨h.set i hg ho u,((Chg.refl _ _).setCell (.inl hg) u).mono fun b _ hb=>⟨i,hb⟩,fun b ⟨j,hj⟩=>by
  by_cases e:j=i
  ·subst e;rw[zkw]at hj;exact .inl ⟨j,hj⟩
  ·rw[zkl e]at hj;exact .inl ⟨j,hj⟩⟩
end
theorem zzw:(prog.info? 169).map (fun i=>(i.zero,i.size,i.bytes))=some (some (.pointer none),1,8):=by kernel_rfl
theorem zuZ(a0 a1 a2:Value)(w:World):(Instr.buildSlice 24 1 #[(0,.agg #[a0,a1,a2])]).run prog w=.ok (.slice (some ⟨w.heap.size,0,none⟩) 1 1) (w.alloc (.cells #[a0,a1,a2] 38)):=by kernel_rfl
theorem zw0(p:Option Addr)(w:World):(Instr.buildSlice 162 1 #[(0,.pointer p)]).run prog w=.ok (.slice (some ⟨w.heap.size,0,none⟩) 1 1) (w.alloc (.cells #[.pointer p] 169)):=by kernel_rfl
theorem zru{I:Type}[DecidableEq I]{n0:Nat}{d:I->RowD}{W:World}(h:Rws W n0 d)(i0 iv ic:I)(h01:i0≠iv)(h02:i0≠ic)(h12:iv≠ic)(b o:Nat)(hb:(d i0).v.ownBlock=some b)
  (hov:(d i0).xs[o]?=some (d iv).v)(hoc:(d i0).xs[o+1]?=some (d ic).v)(xs ys:List Value)(m:Nat)(bK:d iv=⟨(d iv).v,38,3,m,xs⟩)(hic:d ic=⟨(d ic).v,169,1,m,ys⟩)(hm:m<=4398046511000)
  (v:VD)(q:Option Addr) :
  Calls prog 104 #[.pointer (some ⟨b,o,none⟩),.agg #[.string v.s,.int .u8 v.k,.int .i64 v.n],.pointer q] W fun e W'=>(∃u,e=.returned u)/\∃vv vc,
   Stp n0 d W (updR (updR (updR d iv ⟨vv,38,3,m+1,xs++[.string v.s,.int .u8 v.k,.int .i64 v.n]⟩) ic ⟨vc,169,1,m+1,ys++[.pointer q]⟩) i0 { d i0 with xs:=((d i0).xs.set o vv).set (o+1) vc }) W':=by
 obtain⟨i1,hi1,hz0,hz1,hz2⟩:=info_parts zrI;obtain⟨i2,hi2,hy0,hy1,hy2⟩:=info_parts zzw;have fU:=h.row iv;rw[bK]at fU;have hrc:=h.row ic;rw[hic]at hrc;obtain⟨A1,c1,e1,-⟩:=zkg fU;obtain⟨A2,c2,e2,-⟩:=zkg hrc;dsimp only at e1 e2 fU hrc;have x0:W.cell? ⟨b,o,none⟩=some (.slice A1 m c1):=by rw[<-e1];exact h.cell i0 hb hov
 have x1:W.cell? ⟨b,o+1,none⟩=some (.slice A2 m c2):=by rw[<-e2];exact h.cell i0 hb hoc
 have hbf:=h.frozen i0 hb;have HR:=zh h;have hb1:=zuZ;have hb2:=zw0;clear h;go_enter func104,ntmps104;go_upto_region 1 with fail;have hvb:=heap_alloc_new W (.cells #[.string v.s,.int .u8 v.k,.int .i64 v.n] 38);obtain⟨W1,hW1⟩:=zX (W.alloc (.cells #[.string v.s,.int .u8 v.k,.int .i64 v.n] 38));have q1:Below W.heap.size W W1:=hW1▸zkb zr _;have hzW:W1.heap.size=W.heap.size+1:=by rw[<-hW1];simp
 rw[hW1]at hvb ⊢;have HR1:=zh (HR.out.later q1);have bL:=zh q1;have g0:W1.cell? ⟨b,o,none⟩=some (.slice A1 m c1):=zb q1 x0;have g1:W1.cell? ⟨b,o+1,none⟩=some (.slice A2 m c2):=zb q1 x1;have v0:W1.cell? ⟨W.heap.size,0,none⟩=some (.string v.s):=zc hvb rfl;have v1:W1.cell? ⟨W.heap.size,1,none⟩=some (.int .u8 v.k):=zc hvb rfl;have v2:W1.cell? ⟨W.heap.size,2,none⟩=some (.int .i64 v.n):=zc hvb rfl;clear hW1 q1 x0 x1 hbf;have hSS:(fun w':World=>zN3 w' W.heap.size (.string v.s) (.int .u8 v.k) (.int .i64 v.n)) W1.drew/\(fun w':World=>zv w' b o (.slice A1 m c1)) W1.drew:=⟨⟨v0,v1,v2⟩,g0⟩
 refine wp_region_noPanic ?_;refine zkk (fun w':World=>zN3 w' W.heap.size (.string v.s) (.int .u8 v.k) (.int .i64 v.n)) (fun w':World=>zv w' b o (.slice A1 m c1)) 7 (by kernel_rfl) ?_;refine zT 0 hSS ?_;refine zT 1 hSS ?_;refine zT 2 hSS ?_;refine zT 3 hSS ?_;refine zJ 4 hSS ?_;refine zT 5 hSS ?_;refine zo 6 fun K hK=>?_;(try simp only[zA,zB,zC]);go_simp;refine hK.out _ _ ⟨⟨zkj v0 _,zkj v1 _,zkj v2 _⟩,zkj g0 _⟩ ?_;clear hK K hSS;(try simp only[zQ]);obtain⟨W2,hW2⟩:=zX ((W1.alloc (.cells #[.string v.s,.int .u8 v.k,.int .i64 v.n] 38)).drew);have q2:Below W1.heap.size W1 W2:=hW2▸(zkb zr _).drew;have hzW2:W2.heap.size=W1.heap.size+1:=by rw[<-hW2];simp
 have aG:=zh (show ∀j u,[Value.string v.s,.int .u8 v.k,.int .i64 v.n][j]?=some u->W2.cell? ((⟨W.heap.size+1,0,none⟩:Addr).add j)=some u from hzW▸hW2▸zkR W1 38 [.string v.s,.int .u8 v.k,.int .i64 v.n]);have HR2:=HR1.out.later q2;have hrv2:W2.ownsRow n0 38 3 (.slice A1 m c1) m xs:=by have:=HR2.row iv;rw[bK]at this;rw[<-e1];exact this
 have w0:W2.cell? ⟨W.heap.size,0,none⟩=some (.string v.s):=zb q2 v0;have w1:W2.cell? ⟨W.heap.size,1,none⟩=some (.int .u8 v.k):=zb q2 v1;have w2:W2.cell? ⟨W.heap.size,2,none⟩=some (.int .i64 v.n):=zb q2 v2;have hn0:=(HR.out.lt i0 b hb)
 rw[hW2];clear hW2 v0 v1 v2 g0 g1 hvb;refine zp 7 fun K hK=>?_;refine zkT (by rfl) (.tmp 10) (.tmp 12) 24 (by rfl) n0 38 i1 _ 3 32 underlying24 hi1 hz0 hz1 hz2 rfl (by decide) (.slice A1 m c1) m xs (by rfl) hrv2 ⟨W.heap.size+1,0,none⟩ 1 1 [.string v.s,.int .u8 v.k,.int .i64 v.n] (by rfl) rfl aG.out (by intro u hu;simp at hu;rcases hu with rfl|rfl|rfl<;>rfl) (by unfold maxLen;omega) (by omega) (by omega) ?_;intro vv w3 h2 h3 h5;obtain⟨g8,aA,rfl⟩:=ownsRow_succ h2;have st1:Stp n0 d W2 (updR d iv ⟨.slice (some ⟨g8,0,none⟩) (m+1) aA,38,3,m+1,xs++[.string v.s,.int .u8 v.k,.int .i64 v.n]⟩) w3:=by
  refine Stp.upd (i:=iv) HR2 ((Chg.row h3).mono fun b' _ hb'=>by rw[e1];exact hb') h2 (fun b' hb'=>?_);rw[e1];rcases h5 with h5|h5
  ·exact .inl (h5▸hb')
  ·exact .inr (by rw[h5]at hb';injection hb' with hb';omega)
 have hd0:updR d iv ⟨.slice (some ⟨g8,0,none⟩) (m+1) aA,38,3,m+1,xs++[.string v.s,.int .u8 v.k,.int .i64 v.n]⟩ i0=d i0:=zkl h01;have z0:w3.cell? ⟨b,o,none⟩=some (.slice A1 m c1):=by rw[<-e1];exact st1.rws.cell i0 (by rw[hd0];exact hb) (by rw[hd0];exact hov)
 have zf:w3.frozen? ⟨b,o,none⟩=false:=st1.rws.frozen i0 (by rw[hd0];exact hb) o;have hol:o<(d i0).xs.length:=(List.getElem?_eq_some_iff.1 hov).1;have hol1:o+1<(d i0).xs.length:=(List.getElem?_eq_some_iff.1 hoc).1;have st2:=Stp.set (i:=i0) st1.rws (g:=b) (by rw[hd0];exact hb) (o:=o) (by rw[hd0];exact hol) (.slice (some ⟨g8,0,none⟩) (m+1) aA);rw[hd0]at st2;have yE:∀b',(Value.slice A1 m c1).ownBlock=some b'->b'≠W.heap.size:=fun b' hb' e=>by
  have:=(HR.out.lt iv b' (by rw[e1];exact hb')).2;omega
 have y0:w3.cell? ⟨W.heap.size,0,none⟩=some (.string v.s):=(World.cell?_of_block (a:=⟨W.heap.size,0,none⟩) (h3.block _ (by show W.heap.size<_;omega) (fun e=>yE _ e.symm rfl))).trans w0;have y1:w3.cell? ⟨W.heap.size,1,none⟩=some (.int .u8 v.k):=(World.cell?_of_block (a:=⟨W.heap.size,1,none⟩) (h3.block _ (by show W.heap.size<_;omega) (fun e=>yE _ e.symm rfl))).trans w1;have y2:w3.cell? ⟨W.heap.size,2,none⟩=some (.int .i64 v.n):=(World.cell?_of_block (a:=⟨W.heap.size,2,none⟩) (h3.block _ (by show W.heap.size<_;omega) (fun e=>yE _ e.symm rfl))).trans w2;have HST:=zh ((st1.trans st2).after (zka bL.out q2) HR.out);have HY:=zh (show(fun w':World=>zN3 w' W.heap.size (.string v.s) (.int .u8 v.k) (.int .i64 v.n)) w3 from⟨y0,y1,y2⟩);have hbW:b≠W.heap.size:=by omega
 have xK:=zh (show(fun w':World=>zN3 w' W.heap.size (.string v.s) (.int .u8 v.k) (.int .i64 v.n)) (w3.setCell ⟨b,o,none⟩ (.slice (some ⟨g8,0,none⟩) (m+1) aA))from by
  have key:∀i u,w3.cell? ⟨W.heap.size,i,none⟩=some u->(w3.setCell ⟨b,o,none⟩ (.slice (some ⟨g8,0,none⟩) (m+1) aA)).cell? ⟨W.heap.size,i,none⟩=some u:=fun i u hu=>(World.cell?_of_block (a:=⟨W.heap.size,i,none⟩) (Below.heap_setCell _ _ _ _ (Ne.symm hbW))).trans hu;exact⟨key _ _ y0,key _ _ y1,key _ _ y2⟩)
 refine hK.out _ _ HY.out ?_;clear hK K h2 h3 h5 st1 st2 w0 w1 w2 hrv2 HR2 q2 aG bL HR1 y0 y1 y2;(try simp only[zQ]);refine zp 8 fun K hK=>?_;(try simp only[zA,zB,zC]);go_simp;refine hK.out _ _ HY.out ?_;clear hK K;(try simp only[zQ]);refine zp 9 fun K hK=>?_;(try simp only[zA,zB,zC]);go_simp;refine hK.out _ _ HY.out ?_;clear hK K;(try simp only[zQ]);refine zp 10 fun K hK=>?_;(try simp only[zA,zB,zC]);go_simp;refine hK.out _ _ xK.out ?_;clear hK K;(try simp only[zQ]);refine zd ?_;refine NoPanic.normal ?_;clear HY xK z0 zf;obtain⟨W4,tK⟩:=zX (w3.setCell ⟨b,o,none⟩ (.slice (some ⟨g8,0,none⟩) (m+1) aA));rw[tK]at HST ⊢;obtain⟨d2,hd2⟩:=zX (updR (updR d iv ⟨.slice (some ⟨g8,0,none⟩) (m+1) aA,38,3,m+1,xs++[.string v.s,.int .u8 v.k,.int .i64 v.n]⟩) i0 { d i0 with xs:=(d i0).xs.set o (.slice (some ⟨g8,0,none⟩) (m+1) aA) });rw[hd2]at HST
 have sS:d2 ic=d ic:=by rw[<-hd2,zkl (Ne.symm h02),zkl (Ne.symm h12)]
 have pK:d2 i0={ d i0 with xs:=(d i0).xs.set o (.slice (some ⟨g8,0,none⟩) (m+1) aA) }:=by rw[<-hd2,zkw]
 have g1:W4.cell? ⟨b,o+1,none⟩=some (.slice A2 m c2):=by
  rw[<-e2];exact HST.out.rws.cell i0 (by rw[pK];exact hb) (by rw[pK];show((d i0).xs.set o _)[o+1]?=_;rw[List.getElem?_set_ne (by omega)];exact hoc)
 have HD2:=zh hd2;clear tK hd0 hd2;obtain⟨W5,hW5⟩:=zX (W4.alloc (.cells #[.pointer q] 169));have q5:Below W4.heap.size W4 W5:=hW5▸zkb zr _;have HN5:=zh (show ∀j u,[Value.pointer q][j]?=some u->W5.cell? ((⟨W4.heap.size,0,none⟩:Addr).add j)=some u from hW5▸zkR W4 169 [.pointer q]);have fM:=HST.out.rws.later q5;have hrc5:W5.ownsRow n0 169 1 (.slice A2 m c2) m ys:=by have:=fM.row ic;rw[sS,hic]at this;rw[<-e2];exact this
 have hs5:=q5.size;have hs4:=HST.out.chg.size;have e2':(d2 ic).v=.slice A2 m c2:=by rw[sS];exact e2
 have HKEY:=zh (show ∀(g9 dD:Nat) (w6:World),w6.ownsRow n0 169 1 (.slice (some ⟨g9,0,none⟩) (m+1) dD) (m+1) (ys++[.pointer q])->W5.grownBy w6 (Value.slice A2 m c2).ownBlock->((Value.slice (some ⟨g9,0,none⟩) (m+1) dD).ownBlock=(Value.slice A2 m c2).ownBlock\/(Value.slice (some ⟨g9,0,none⟩) (m+1) dD).ownBlock=some W5.heap.size) ->
   w6.cell? ⟨b,o+1,none⟩=some (.slice A2 m c2)/\w6.frozen? ⟨b,o+1,none⟩=false/\Stp n0 d W (updR (updR d2 ic ⟨.slice (some ⟨g9,0,none⟩) (m+1) dD,169,1,m+1,ys++[.pointer q]⟩) i0 { d i0 with xs:=((d i0).xs.set o (.slice (some ⟨g8,0,none⟩) (m+1) aA)).set (o+1) (.slice (some ⟨g9,0,none⟩) (m+1) dD) }) (w6.setCell ⟨b,o+1,none⟩ (.slice (some ⟨g9,0,none⟩) (m+1) dD))from fun g9 dD w6 h2 h3 h5=>by
  have st1:Stp n0 d2 W5 (updR d2 ic ⟨.slice (some ⟨g9,0,none⟩) (m+1) dD,169,1,m+1,ys++[.pointer q]⟩) w6:=by
   refine Stp.upd (i:=ic) fM ((Chg.row h3).mono fun b' _ hb'=>by rw[e2'];exact hb') h2 (fun b' hb'=>?_);rw[e2'];rcases h5 with h5|h5
   ·exact .inl (h5▸hb')
   ·exact .inr (by rw[h5]at hb';injection hb' with hb';omega)
  have hd0:updR d2 ic ⟨.slice (some ⟨g9,0,none⟩) (m+1) dD,169,1,m+1,ys++[.pointer q]⟩ i0={ d i0 with xs:=(d i0).xs.set o (.slice (some ⟨g8,0,none⟩) (m+1) aA) }:=(zkl h02).trans pK;have z0:w6.cell? ⟨b,o+1,none⟩=some (.slice A2 m c2):=by
   rw[<-e2];exact st1.rws.cell i0 (by rw[hd0];exact hb) (by rw[hd0];show((d i0).xs.set o _)[o+1]?=_;rw[List.getElem?_set_ne (by omega)];exact hoc)
  have zf:w6.frozen? ⟨b,o+1,none⟩=false:=st1.rws.frozen i0 (by rw[hd0];exact hb) (o+1);have st2:=Stp.set (i:=i0) st1.rws (g:=b) (by rw[hd0];exact hb) (o:=o+1) (by rw[hd0];simpa using hol1) (.slice (some ⟨g9,0,none⟩) (m+1) dD);rw[hd0]at st2;exact⟨z0,zf,HST.out.trans ((st1.trans st2).after q5 HST.out.rws)⟩)
 clear fM q5 sS pK e2' yE;go_wp2_with (at_builtin;refine wpList_append_own_at (P:=prog) _ rfl (.tmp 20) (.tmp 22) 162 rfl n0 169 i2 _ 1 8 underlying162 hi2 hy0 hy1 hy2 rfl (by decide) (.slice A2 m c2) m ys rfl hrc5 ⟨W4.heap.size,0,none⟩ 1 1 [.pointer q] rfl rfl HN5.out (by intro u hu;simp at hu;rw[hu];rfl) (by unfold maxLen;omega) (by omega) (by omega) ?_;intro vc w6 h2 h3 h4 h5;obtain⟨g9,dD,rfl⟩:=ownsRow_succ h2;obtain⟨z0,zf,hfin⟩:=HKEY.out g9 dD w6 h2 h3 h5;have aW:=zh hfin;clear h2 h3 h4 h5 hfin)
 go_end0;refine⟨⟨_,rfl⟩,.slice (some ⟨g8,0,none⟩) (m+1) aA,.slice (some ⟨g9,0,none⟩) (m+1) dD,?_⟩;have:=aW.out;rw[<-HD2.out]at this;refine this.cast ?_;funext j;by_cases j0:j=i0
 ·subst j0;simp
 ·simp only[updR,j0,if_false]
end
end Go.Proofs.YthjinpodhacleaaGreat
