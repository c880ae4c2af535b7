/-
  Texts of the proof, put together without their remarks: ScK, Gf, Ig, Eqv, Wfp, Rxp, Rxm, Rx1.
-/
import Derived.Test.YtmbbaccjcekhkaaGreatF7
set_option linter.unusedSimpArgs false
set_option linter.unusedVariables false
set_option maxHeartbeats 8000000
set_option maxRecDepth 100000
namespace Go.Proofs.YtmbbaccjcekhkaaGreat
open Go Go.RowKit
section
variable {P:Program} {ops:Array Oper} {Q:Exit->Act->World->Prop} {md:Region.Mode} {S1 S2:World->Prop} {k:Nat}
theorem zv1 {i j:Nat} {o o':Oper} {fuel:Nat} {listed:Array Bool} {a:Act} {w:World} (hr:Region.ready md ops listed=[i,j]) (ho:ops[i]?=some o) (ho':ops[j]?=some o')
  (h:∀ K':Act->World->Prop,Shut (∀ a w,S1 w/\S2 w->wpG P md ops Q S1 S2 k fuel (listed.setIfInBounds i true) a w->K' a w)->if Region.wanted o (yielded ops a.tmps)=true then Oper.wp P o a w K' Q else K' (a.put o.dst undef) w)
  (h':∀ K':Act->World->Prop,Shut (∀ a w,S1 w/\S2 w->wpG P md ops Q S1 S2 k fuel (listed.setIfInBounds j true) a w->K' a w)->if Region.wanted o' (yielded ops a.tmps)=true then Oper.wp P o' a w K' Q else K' (a.put o'.dst undef) w) :
  wpG P md ops Q S1 S2 k (fuel+1) listed a w:=by
 refine⟨(fun h0=>by rw[hr] at h0;cases h0),fun x hx=>?_⟩;rw[hr] at hx;simp only[List.mem_cons,List.not_mem_nil,or_false] at hx;rcases hx with rfl|rfl
 ·exact wpOp_step ho fun K' hK=>h K' fun a w hS hW=>hK a w ⟨⟨hS.1,fun _=>hS.2⟩,hW⟩
 ·exact wpOp_step ho' fun K' hK=>h' K' fun a w hS hW=>hK a w ⟨⟨hS.1,fun _=>hS.2⟩,hW⟩
end
def frsN (vs:List VD):Nat->Nat
 | 0=>0
 | j+1=>frsN vs j+(if h:j<vs.length then one1 (zmp (vs.take j) vs[j].s) else 0)
theorem znm {vs:List VD} {j:Nat} (h:j<vs.length):frsN vs (j+1)=frsN vs j+one1 (zmp (vs.take j) vs[j].s):=by simp[frsN,h]
theorem zmM (vs:List VD):∀ j,frsN vs j<=j
 | 0=>by simp[frsN]
 | j+1=>by
  have h:=zmM vs j;rw[frsN]
  split
  ·have:=zm8 (zmp (vs.take j) vs[j].s);omega
  ·omega
def prcE (ps:List PR) (j:Nat) (r:PR):Nat:=one1 (if zlY ps r.s<(j:Int) then 22 else 0)+frsN r.ps r.ps.length+cntV ps r.b r.ps
def prcN (ps:List PR):Nat->Nat
 | 0=>0
 | j+1=>prcN ps j+(if h:j<ps.length then prcE ps j ps[j] else 0)
theorem zob {ps:List PR} {j:Nat} (h:j<ps.length):prcN ps (j+1)=prcN ps j+prcE ps j ps[j]:=by simp[prcN,h]
def chkN (p:PG):Nat:=frsN p.vs p.vs.length+prcN p.prs p.prs.length+cntV p.prs p.m p.vs
theorem zoK {t:T} (h:zlZ t=true):dep t<=80/\size t<=2000:=by
 simp only[zlZ,Bool.and_eq_true] at h;have h1:=h.1;rw[zxb] at h1
 split at h1
 ·assumption
 ·simp at h1
theorem zlN {p:PG} (h:zle p=true):p.vs.length<=32/\p.prs.length<=64/\(∀ r∈p.prs,r.ps.length<=8/\dep r.b<=80/\size r.b<=2000)/\dep p.m<=80/\size p.m<=2000:=by
 simp only[zle,Bool.and_eq_true,decide_eq_true_eq,List.all_eq_true] at h;refine⟨h.1.1.1.1,h.1.1.1.2,fun r hr=>?_,zoK h.2⟩;have:=h.1.2 r hr;simp only[zoE,Bool.and_eq_true,decide_eq_true_eq] at this;exact⟨this.1.1.2,zoK this.2⟩
theorem zqz (ps:List PR) (h:∀ r∈ps,r.ps.length<=8/\dep r.b<=80/\size r.b<=2000):∀ j,prcN ps j<=j*2009
 | 0=>by simp[prcN]
 | j+1=>by
  have h1:=zqz ps h j;rw[prcN]
  split
  ·rename_i hj;have h2:=h _ (List.getElem_mem hj);have h3:=zm8 (if zlY ps ps[j].s<(j:Int) then 22 else 0);have h4:=zmM ps[j].ps ps[j].ps.length;have h5:=ztf ps ps[j].b ps[j].ps;unfold prcE;omega
  ·omega
theorem RowV.take {w:World} {S:Nat->Prop} {A:Option Addr} {vs:List VD} (h:RowV w S A vs) (j:Nat):RowV w S A (vs.take j):=fun i hi=>by
 have h1:i<vs.length:=by simp at hi;omega
 obtain⟨a,h2,h3,h4,h5⟩:=h i h1;exact⟨a,h2,h3,by simpa using h4,by simpa using h5⟩
theorem RowI.nil {w:World} {S:Nat->Prop} {A:Option Addr}:RowI w S A []:=fun i hi=>by simp at hi
theorem zpL (w:World) (j:Int) (hj:I64 j):RowI (w.alloc (.cells #[.int .i64 j] 3)) Any (some ⟨w.heap.size,0,none⟩) [j]:=fun i hi=>by
 simp only[List.length_singleton,Nat.lt_one_iff] at hi;subst hi;exact⟨_,rfl,trivial,zlR w 3 [.int .i64 j] 0 _ rfl,hj⟩
theorem zmT (n0 fb N:Nat) (pv:Value) (pr er:Int) (q:List Int) (A:Option Addr) (c:Nat) (s:ByteArray) (S:Nat->Prop) (W:World) (hfs:FS W n0 fb N pv) (hq:RowI W S A q) (qL:q.length<=100000) (hN:N<=1000000) :
  Calls Tryz.prog 34 ([.int .i64 pr,.slice A q.length c,.string s,.int .i64 er].toArray ++ #[.pointer (some ⟨fb,0,none⟩)]) W (RepP W n0 fb pv (N+one1 er)):=by
 simpa using zmU n0 fb N pv pr er q A c s S W hfs hq qL hN
theorem VsI.chg2 {Rd:World->Prop} {n0 fb:Nat} {Wb wr wk w':World} {pv pv':Value} {N:Nat} (h:VsI Rd n0 fb Wb pv N wr pv') (hb:Below wr.heap.size wr wk) (hc:Chg (fun b=>b=fb\/pv'.ownBlock=some b) wk w'):Chg (fun b=>b=fb\/pv.ownBlock=some b) Wb w' :=
 (h.chg.trans (Chg.of_below hb)).trans2 hc fun b hlt hh=>by
  rcases hh with hh|hh
  ·exact .inl hh
  ·rcases h.own b hh with h1|h1
   ·exact .inr h1
   ·omega
theorem VsI.stepK {Rd:World->Prop} {n0 fb:Nat} {Wb wr w5 W6:World} {pv pv':Value} {N N':Nat} {e:Ending} (hk:∀ W W' pv N,Rd W->FS W n0 fb N pv->Chg (fun b=>b=fb\/pv.ownBlock=some b) W W'->Rd W') (h:VsI Rd n0 fb Wb pv N wr pv') (hb:Below wr.heap.size wr w5) (hp:RepP w5 n0 fb pv' N' e W6) :
  ∃ jV,VsI Rd n0 fb Wb pv N' W6 jV:=by
 obtain⟨_,jV,hfs,aL,hc⟩:=hp;have sS:=h.fs.later hb;have hz:=h.chg.size;have rJ:=hb.size;refine⟨jV,hk w5 W6 pv' N (hk wr w5 pv' N h.rd h.fs (Chg.of_below hb)) sS hc,hfs,fun b hb'=>?_,h.chg2 hb hc⟩;rcases aL b hb' with h1|h1
 ·exact h.own b h1
 ·exact .inr (by omega)
theorem zmX (vs:List VD) (j:Nat) (hj:j<=vs.length) (A:Option Addr) (c:Nat) (s:ByteArray) (S:Nat->Prop) (w:World) (hrow:RowV w S A vs) (hl:vs.length<=LV) :
  Calls Tryz.prog 36 #[.slice A j c,.string s] w fun e w'=>e=.returned (.int .i64 (zmp (vs.take j) s))/\Below w.heap.size w w':=by
 have h:=zol (vs.take j) A c s S w (hrow.take j) (by simp;omega);rwa[show(vs.take j).length=j by simp;omega] at h
theorem zpr:IsFn Tryz.prog 36 Tryz.f36:=⟨Tryz.func36,by kernel_rfl,by kernel_rfl⟩
theorem zwn:IsFn Tryz.prog 37 Tryz.f37:=⟨Tryz.func37,by kernel_rfl,by kernel_rfl⟩
theorem zrn:IsFn Tryz.prog 34 Tryz.f34:=⟨Tryz.func34,by kernel_rfl,by kernel_rfl⟩
theorem zo9 (p:PG) (S:Nat->Prop) (v:Value) (W:World) (hv:PV W S p v):Calls Tryz.prog 20 #[v] W fun e w'=>∃ A c,e=.returned (.slice A (if zle p=true then chkN p else 0) c)/\Below W.heap.size W w':=by
 obtain⟨NN,zL⟩:∃ NN,(if zle p=true then chkN p else 0)=NN:=⟨_,rfl⟩
 rw[zL];have uE:=zh zL;clear zL;have hvv:=hv;obtain⟨A1,c1,A2,c2,A3,c3,rfl,hr⟩:=hv;have hlv:=zlE hr.lv;have hlp:=zlE hr.lp;obtain⟨L1,hL1⟩:∃ L,p.vs.length=L:=⟨_,rfl⟩
 obtain⟨L2,hL2⟩:∃ L,p.prs.length=L:=⟨_,rfl⟩
 obtain⟨k,hk⟩:∃ k,p.m.k=k:=⟨_,rfl⟩
 obtain⟨n,hn⟩:∃ n,p.m.n=n:=⟨_,rfl⟩
 obtain⟨s,hs⟩:∃ s,p.m.s=s:=⟨_,rfl⟩
 obtain⟨l3,hl3⟩:∃ l,p.m.ks.length=l:=⟨_,rfl⟩
 rw[hL1,hL2,hk,hn,hs,hl3];rw[hL1,hL2,hk,hn,hs,hl3] at hvv;rw[hL1] at hlv;rw[hL2] at hlp;have qz:=zh hvv;have HR:=zh hr;have mI:=zh hL1;have HL2:=zh hL2;have pq:=zh (show p.m.k=k/\p.m.n=n/\p.m.s=s/\p.m.ks.length=l3 from ⟨hk,hn,hs,hl3⟩);clear hvv hr hL1 hL2 hk hn hs hl3;go_enter Tryz.func20,Tryz.ntmps20;go_wp2_with fail;refine(zox p S _ _ (qz.out.later (zkc (Below.refl _ _) _))).mono ?_;rintro e w1 ⟨rfl,aj⟩;have b1:Below W.heap.size W w1:=zka (zkc (Below.refl _ _) _) aj;have hp1:=(aj.block W.heap.size (by simp)).trans (heap_alloc_new W (.cells #[.slice A1 L1 c1,.slice A2 L2 c2,.int .u8 k,.int .i64 n,.string s,.slice A3 l3 c3] 28));have hz1:=aj.size;simp only[World.size_alloc] at hz1;have HB1:=zh b1;have yo:=zh hp1;have HZ1:=zh hz1;obtain⟨a0,a1,a2,a3,a4,a5⟩:=box6 hp1;clear aj b1 hp1
 cases hvb:zle p
 ·have hN0:NN=0:=by rw[<-uE.out,hvb];rfl
  subst hN0;go_wp2_with fail;go_ret;exact⟨none,0,rfl,HB1.out⟩
 ·have iT:=zh (zlN hvb);have HNN2:=zh (show chkN p=NN by rw[<-uE.out,hvb];rfl);clear hvb uE;go_upto_region 5 with fail;obtain⟨fb,gX⟩:∃ fb,w1.heap.size=fb:=⟨_,rfl⟩
  rw[gX];have vZ:W.heap.size+1<=fb:=by omega
  have hbw:Below W.heap.size W ((w1.alloc (.cells #[.slice none 0 0] 54)).alloc (.cells #[.func (.func 34) #[] #[.pointer (some ⟨fb,0,none⟩)]] 81)):=zkc (zkc HB1.out _) _;have xM:=zkn (heap_alloc_new w1 (.cells #[.slice none 0 0] 54)) (.cells #[.func (.func 34) #[] #[.pointer (some ⟨fb,0,none⟩)]] 81);have hbR:=heap_alloc_new (w1.alloc (.cells #[.slice none 0 0] 54)) (.cells #[.func (.func 34) #[] #[.pointer (some ⟨fb,0,none⟩)]] 81);simp only[World.size_alloc] at hbR;rw[gX] at xM hbR;have qO:=zkn (zkn yo.out (.cells #[.slice none 0 0] 54)) (.cells #[.func (.func 34) #[] #[.pointer (some ⟨fb,0,none⟩)]] 81);obtain⟨Wb,tT⟩:∃ Wb,(w1.alloc (.cells #[.slice none 0 0] 54)).alloc (.cells #[.func (.func 34) #[] #[.pointer (some ⟨fb,0,none⟩)]] 81)=Wb:=⟨_,rfl⟩
  rw[tT] at hbw xM hbR qO ⊢;have qy:=zh (show Wb.heap.size=fb+2 by rw[<-tT,<-gX];simp);have jI:=zh hbw;have HZF:=zh vZ;clear tT gX a0 a1 a2 a3 a4 a5 yo HZ1 HB1 hz1;have hrep:=zvz fb fb (fb+1) W.heap.size A1 L1 c1 A2 L2 c2 k n s A3 l3 c3;obtain⟨Rd,xP⟩:∃ Rd:World->Prop,(fun W':World=>W'.heap[fb+1]?=some (.cells #[.func (.func 34) #[] #[.pointer (some ⟨fb,0,none⟩)]] 81 (0,0))/\W'.heap[W.heap.size]?=some (.cells #[.slice A1 L1 c1,.slice A2 L2 c2,.int .u8 k,.int .i64 n,.string s,.slice A3 l3 c3] 28 (0,0)))=Rd:=⟨_,rfl⟩
  rw[xP] at hrep;have bJ:=zh hrep;have o7:=zh (show ∀ w':World,Rd w'->w'.heap[fb+1]?=some (.cells #[.func (.func 34) #[] #[.pointer (some ⟨fb,0,none⟩)]] 81 (0,0))/\w'.heap[W.heap.size]?=some (.cells #[.slice A1 L1 c1,.slice A2 L2 c2,.int .u8 k,.int .i64 n,.string s,.slice A3 l3 c3] 28 (0,0)) from fun w' h=>by rw[<-xP] at h;exact h);have bN:=zh (show ∀ w':World,Rd w'->(fun w':World=>(w'.cell? ⟨W.heap.size,0,none⟩=some (.slice A1 L1 c1)/\w'.cell? ⟨W.heap.size,1,none⟩=some (.slice A2 L2 c2)/\w'.cell? ⟨W.heap.size,2,none⟩=some (.int .u8 k)/\w'.cell? ⟨W.heap.size,3,none⟩=some (.int .i64 n)/\w'.cell? ⟨W.heap.size,4,none⟩=some (.string s)/\w'.cell? ⟨W.heap.size,5,none⟩=some (.slice A3 l3 c3))/\(w'.cell? ⟨fb+1,0,none⟩=some (.func (.func 34) #[] #[.pointer (some ⟨fb,0,none⟩)]))) w' from fun w' h=>⟨box6 (o7.out w' h).2,zc (o7.out w' h).1 rfl⟩)
  have HI0:=zh (show VsI Rd fb fb Wb (.slice none 0 0) 0 Wb (.slice none 0 0) from ⟨by rw[<-xP];exact⟨hbR,qO⟩,⟨xM,⟨[],World.ownsRow_nil _ _ _ _⟩,Nat.le_refl _,by simp[Value.ownBlock]⟩,fun b hb=>.inl hb,Chg.refl _ _⟩);have pE:=zh (show ∀ w':World,Chg (fun b=>b=fb\/(Value.slice none 0 0).ownBlock=some b) Wb w'->∀ b,S b->b<W.heap.size->w'.heap[b]?=W.heap[b]? from fun w' h b hb hlt=>(h.block b (by have:=qy.out;omega) (fun hh=>by rcases hh with hh|hh;omega;simp[Value.ownBlock] at hh)).trans (jI.out.block b hlt));have HD:=zh (show ∀ w':World,Chg (fun b=>b=fb\/(Value.slice none 0 0).ownBlock=some b) Wb w'->PV w' (fun b=>S b/\b<W.heap.size) p _/\PgR w' (fun b=>S b/\b<W.heap.size) p A1 c1 A2 c2 A3 c3 from fun w' h=>⟨qz.out.keep (fun b hb hlt=>⟨hb,hlt⟩) (pE.out w' h),HR.out.keep (fun b hb hlt=>⟨hb,hlt⟩) (pE.out w' h)⟩);have hl32:L1<=32:=by have:=iT.out.1;rw[mI.out] at this;exact this
  have hl64:L2<=64:=by have:=iT.out.2.1;rw[HL2.out] at this;exact this
  have hlc1:L1<=c1:=by have:=HR.out.lvc;rw[mI.out] at this;exact this
  have pU:L2<=c2:=by have:=HR.out.lpc;rw[HL2.out] at this;exact this
  obtain⟨⟨a0,a1,a2,a3,a4,a5⟩,ar⟩:=bN.out _ HI0.out.rd;clear hrep xP hbR qO xM hbw;go_wp2_with fail
  go_loopw [18] (fun i wr=>∃ (j:Nat) (pv':Value),j<=L1/\i=.int .i64 j/\VsI Rd fb fb Wb (.slice none 0 0) (frsN p.vs j) wr pv') (fun i _=>L1-(intOf i).toNat)
  case atStart=>exact⟨0,_,Nat.zero_le _,rfl,HI0.out⟩
  case round =>
   obtain⟨j,pv',hj,rfl,hinv⟩:=hrel;have ak:=zh hinv;clear HI0 a0 a1 a2 a3 a4 a5 ar;by_cases hlt:j<L1
   ·have jc:j<p.vs.length:=by rw[mI.out];exact hlt
    obtain⟨a,u,rfl,hsa,Hu,⟨q0,q1,q2⟩,hfu⟩:=(HD.out wr hinv.chg).2.vars.nd jc;have hjc:(j:Int)<=(c1:Int):=by omega
    have hj0:(0:Int)<=(j:Int):=by omega
    obtain⟨⟨a0,a1,a2,a3,a4,a5⟩,ar⟩:=bN.out _ hinv.rd;clear hinv hsa hfu;go_upto_region 8 with fail;have hbk:Below wr.heap.size wr (wr.alloc (.cells #[.string u.s,.int .u8 u.k,.int .i64 u.n] 48)):=zkc (Below.refl _ _) _;have gz:=heap_alloc_new wr (.cells #[.string u.s,.int .u8 u.k,.int .i64 u.n] 48);obtain⟨wk,hwk⟩:∃ wk,wr.alloc (.cells #[.string u.s,.int .u8 u.k,.int .i64 u.n] 48)=wk:=⟨_,rfl⟩
    rw[hwk] at hbk gz ⊢;have gZ:=zh (show wk.heap.size=wr.heap.size+1 by rw[<-hwk];simp);have az:=zh hbk;have iZ:=zh gz;clear hwk hbk gz a0 a1 a2 a3 a4 a5 ar q0 q1 q2;have HRW:=zh (show ∀ w':World,Below wk.heap.size wk w'->Rd w' from fun w' h=>bJ.out.keep _ _ _ _ ak.out.rd ak.out.fs (Chg.of_below (zka az.out h)))
    have cB:=zh (show ∀ w':World,Below wk.heap.size wk w'->(fun w':World=>((w'.cell? ⟨W.heap.size,0,none⟩=some (.slice (some a) L1 c1)/\w'.cell? ⟨W.heap.size,1,none⟩=some (.slice A2 L2 c2)/\w'.cell? ⟨W.heap.size,2,none⟩=some (.int .u8 k)/\w'.cell? ⟨W.heap.size,3,none⟩=some (.int .i64 n)/\w'.cell? ⟨W.heap.size,4,none⟩=some (.string s)/\w'.cell? ⟨W.heap.size,5,none⟩=some (.slice A3 l3 c3))/\(w'.cell? ⟨fb+1,0,none⟩=some (.func (.func 34) #[] #[.pointer (some ⟨fb,0,none⟩)])))/\(w'.cell? ⟨wr.heap.size,0,none⟩=some (.string u.s)/\w'.cell? ⟨wr.heap.size,1,none⟩=some (.int .u8 u.k)/\w'.cell? ⟨wr.heap.size,2,none⟩=some (.int .i64 u.n))) w'/\(fun _:World=>True) w' from fun w' h=>⟨⟨bN.out _ (HRW.out w' h),box3 ((h.block _ (by have:=gZ.out;omega)).trans iZ.out)⟩,trivial⟩);have hdr:=(Below.refl wk.heap.size wk).drew;have hSS:=cB.out _ hdr;have zt:=zmR;have hN:=zmM p.vs j
    refine wp_region_noPanic ?_;refine zkd (fun w':World=>((w'.cell? ⟨W.heap.size,0,none⟩=some (.slice (some a) L1 c1)/\w'.cell? ⟨W.heap.size,1,none⟩=some (.slice A2 L2 c2)/\w'.cell? ⟨W.heap.size,2,none⟩=some (.int .u8 k)/\w'.cell? ⟨W.heap.size,3,none⟩=some (.int .i64 n)/\w'.cell? ⟨W.heap.size,4,none⟩=some (.string s)/\w'.cell? ⟨W.heap.size,5,none⟩=some (.slice A3 l3 c3))/\(w'.cell? ⟨fb+1,0,none⟩=some (.func (.func 34) #[] #[.pointer (some ⟨fb,0,none⟩)])))/\(w'.cell? ⟨wr.heap.size,0,none⟩=some (.string u.s)/\w'.cell? ⟨wr.heap.size,1,none⟩=some (.int .u8 u.k)/\w'.cell? ⟨wr.heap.size,2,none⟩=some (.int .i64 u.n))) (fun _:World=>True) 40 (by kernel_rfl) ?_;refine zT 0 hSS ?_;(try simp only[zQ]);refine zT 1 hSS ?_;(try simp only[zQ]);refine zT 3 hSS ?_;(try simp only[zQ]);refine zT 4 hSS ?_;(try simp only[zQ]);refine zT 5 hSS ?_;(try simp only[zQ]);refine zT 6 hSS ?_
    (try simp only[zQ]);refine zT 7 hSS ?_;(try simp only[zQ]);refine zT 8 hSS ?_;(try simp only[zQ]);refine zT 9 hSS ?_;(try simp only[zQ]);refine zT 10 hSS ?_;(try simp only[zQ]);refine zv1 (i:=2) (j:=11) (by kernel_rfl) rfl rfl (fun K hK=>?_) (fun K hK=>?_)
    ·(try simp only[zA,zB,zC]);go_simp;have b2:=zkc hdr (.cells #[.int .i64 (j:Int)] 3);refine hK.out _ _ (cB.out _ b2) ?_;clear hK K;(try simp only[zQ]);refine zo 11 fun K hK=>?_;refine zkj (by rfl) (.func 36) [.tmp 31,.tmp 33] _ (by rfl) 36 _ zpr (by rfl) _ (by rfl) _ (znO (zmX p.vs j (by omega) (some a) c1 u.s _ _ (HD.out _ (ak.out.chg.trans (Chg.of_below (zka az.out b2)))).2.vars HR.out.lv)) ?_;rintro vq w3 ⟨rfl,dH⟩;have b3:=zka b2 dH;refine hK.out _ _ (cB.out _ b3) ?_;clear hK K;(try simp only[zQ]);refine zo 12 fun K hK=>?_
     refine zlr (by rfl) (.tmp 23) [.const (.int .i64 (-1)),.tmp 25,.tmp 27,.tmp 34] _ (by rfl) 34 _ zrn #[.pointer (some ⟨fb,0,none⟩)] (by rfl) _ (by rfl) _ (zmL (zmT fb fb _ pv' (-1) _ [(j:Int)] (some ⟨wk.heap.size,0,none⟩) 1 u.s _ _ (ak.out.fs.later (zka az.out b3)) (((zpL _ (j:Int) ⟨by omega,by omega⟩).later (Below.refl _ _).drew).later dH) (by simp) (by omega))) ?_;rintro vq W6 hp;obtain⟨jN,dh⟩:=ak.out.step bJ.out (zka az.out b3) hp;have cK:VsI Rd fb fb Wb (.slice none 0 0) (frsN p.vs (j+1)) W6 jN:=by rw[znm jc,Hu.out];exact dh
     have aD:(fun w':World=>((w'.cell? ⟨W.heap.size,0,none⟩=some (.slice (some a) L1 c1)/\w'.cell? ⟨W.heap.size,1,none⟩=some (.slice A2 L2 c2)/\w'.cell? ⟨W.heap.size,2,none⟩=some (.int .u8 k)/\w'.cell? ⟨W.heap.size,3,none⟩=some (.int .i64 n)/\w'.cell? ⟨W.heap.size,4,none⟩=some (.string s)/\w'.cell? ⟨W.heap.size,5,none⟩=some (.slice A3 l3 c3))/\(w'.cell? ⟨fb+1,0,none⟩=some (.func (.func 34) #[] #[.pointer (some ⟨fb,0,none⟩)])))/\(w'.cell? ⟨wr.heap.size,0,none⟩=some (.string u.s)/\w'.cell? ⟨wr.heap.size,1,none⟩=some (.int .u8 u.k)/\w'.cell? ⟨wr.heap.size,2,none⟩=some (.int .i64 u.n))) W6/\(fun _:World=>True) W6:=⟨⟨bN.out _ cK.rd,box3 ((hp.2.elim fun _ h=>h.2.2.block _ (by have:=(zka az.out b3).size;have:=(b3).size;have:=gZ.out;omega) (fun hh=>by have hl:=ak.out.fs.lt;rcases hh with hh|hh;(have:=hl.1;omega);(have:=(hl.2 _ hh).2;omega))).trans (((b3).block _ (by have:=gZ.out;omega)).trans iZ.out))⟩,trivial⟩
     refine hK.out _ _ aD ?_;clear hK K;(try simp only[zQ]);refine zd ?_;refine NoPanic.normal ?_;have lT:=zh cK;clear cK dh hp aD;go_wp2_with fail
     go_roundw
     case rel=>exact⟨j+1,_,by omega,by go_num,lT.out⟩
     case measure=>simp[intOf];omega
    ·skip
     refine zkj (by rfl) (.func 36) [.tmp 31,.tmp 33] _ (by rfl) 36 _ zpr (by rfl) _ (by rfl) _ (znO (zmX p.vs j (by omega) (some a) c1 u.s _ _ (HD.out _ (ak.out.chg.trans (Chg.of_below (zka az.out hdr)))).2.vars HR.out.lv)) ?_;rintro vq w2 ⟨rfl,aB⟩;have b2:=zka hdr aB;refine hK.out _ _ (cB.out _ b2) ?_;clear hK K;(try simp only[zQ]);refine zo 2 fun K hK=>?_;(try simp only[zA,zB,zC]);go_simp;have b3:=zkc b2 (.cells #[.int .i64 (j:Int)] 3);refine hK.out _ _ (cB.out _ b3) ?_;clear hK K;(try simp only[zQ]);refine zo 12 fun K hK=>?_
     refine zlr (by rfl) (.tmp 23) [.const (.int .i64 (-1)),.tmp 25,.tmp 27,.tmp 34] _ (by rfl) 34 _ zrn #[.pointer (some ⟨fb,0,none⟩)] (by rfl) _ (by rfl) _ (zmL (zmT fb fb _ pv' (-1) _ [(j:Int)] (some ⟨w2.heap.size,0,none⟩) 1 u.s _ _ (ak.out.fs.later (zka az.out b3)) (zpL _ (j:Int) ⟨by omega,by omega⟩) (by simp) (by omega))) ?_;rintro vq W6 hp;obtain⟨jN,dh⟩:=ak.out.step bJ.out (zka az.out b3) hp;have cK:VsI Rd fb fb Wb (.slice none 0 0) (frsN p.vs (j+1)) W6 jN:=by rw[znm jc,Hu.out];exact dh
     have aD:(fun w':World=>((w'.cell? ⟨W.heap.size,0,none⟩=some (.slice (some a) L1 c1)/\w'.cell? ⟨W.heap.size,1,none⟩=some (.slice A2 L2 c2)/\w'.cell? ⟨W.heap.size,2,none⟩=some (.int .u8 k)/\w'.cell? ⟨W.heap.size,3,none⟩=some (.int .i64 n)/\w'.cell? ⟨W.heap.size,4,none⟩=some (.string s)/\w'.cell? ⟨W.heap.size,5,none⟩=some (.slice A3 l3 c3))/\(w'.cell? ⟨fb+1,0,none⟩=some (.func (.func 34) #[] #[.pointer (some ⟨fb,0,none⟩)])))/\(w'.cell? ⟨wr.heap.size,0,none⟩=some (.string u.s)/\w'.cell? ⟨wr.heap.size,1,none⟩=some (.int .u8 u.k)/\w'.cell? ⟨wr.heap.size,2,none⟩=some (.int .i64 u.n))) W6/\(fun _:World=>True) W6:=⟨⟨bN.out _ cK.rd,box3 ((hp.2.elim fun _ h=>h.2.2.block _ (by have:=(zka az.out b3).size;have:=(b3).size;have:=gZ.out;omega) (fun hh=>by have hl:=ak.out.fs.lt;rcases hh with hh|hh;(have:=hl.1;omega);(have:=(hl.2 _ hh).2;omega))).trans (((b3).block _ (by have:=gZ.out;omega)).trans iZ.out))⟩,trivial⟩
     refine hK.out _ _ aD ?_;clear hK K;(try simp only[zQ]);refine zd ?_;refine NoPanic.normal ?_;have lT:=zh cK;clear cK dh hp aD;go_wp2_with fail
     go_roundw
     case rel=>exact⟨j+1,_,by omega,by go_num,lT.out⟩
     case measure=>simp[intOf];omega
   ·obtain rfl:L1=j:=by omega
    have iO:=zh (show VsI Rd fb fb Wb (.slice none 0 0) (frsN p.vs p.vs.length) wr pv' by rw[mI.out];exact ak.out);obtain⟨⟨a0,a1,a2,a3,a4,a5⟩,ar⟩:=bN.out _ hinv.rd;obtain⟨F1,hF1⟩:∃ F,frsN p.vs p.vs.length=F:=⟨_,rfl⟩
    have hF32:F1<=32:=by have:=zmM p.vs p.vs.length;have:=iT.out.1;omega
    have yC:=zh hF1;rw[hF1] at iO;clear hinv ak hF1 hj hlt;go_wp2_with fail
    go_loopw [40] (fun i wr=>∃ (j:Nat) (pv':Value),j<=L2/\i=.int .i64 j/\VsI Rd fb fb Wb (.slice none 0 0) (F1+prcN p.prs j) wr pv') (fun i _=>L2-(intOf i).toNat)
    case atStart=>exact⟨0,_,Nat.zero_le _,rfl,iO.out⟩
    case round =>
     clear iO a0 a1 a2 a3 a4 a5 ar;obtain⟨j,pv',hj,rfl,hinv⟩:=hrel;obtain⟨w0,rfl⟩:∃ w0,w0=wr:=⟨_,rfl⟩
     have ak:=zh hinv;by_cases hlt:j<L2
     ·have jc:j<p.prs.length:=by rw[HL2.out];exact hlt
      obtain⟨a,r,P1,d1,P2,d2,rfl,hsa,Hr,⟨q0,q1,q2,q3,q4,q5⟩,hpr⟩:=(HD.out w0 hinv.chg).2.procs.nd jc;obtain⟨⟨a0,a1,a2,a3,a4,a5⟩,ar⟩:=bN.out _ hinv.rd;have ig:=zh hpr;clear hinv hsa hpr;go_upto_region 13 with fail;have hbk:Below w0.heap.size w0 ((w0.alloc (.cells #[.int .i64 (j:Int)] 3)).alloc (.cells #[.string r.s,.slice P1 r.ps.length d1,.int .u8 r.b.k,.int .i64 r.b.n,.string r.b.s,.slice P2 r.b.ks.length d2] 51)):=zkc (zkc (Below.refl _ _) _) _;have tL:=zkn (heap_alloc_new w0 (.cells #[.int .i64 (j:Int)] 3)) (.cells #[.string r.s,.slice P1 r.ps.length d1,.int .u8 r.b.k,.int .i64 r.b.n,.string r.b.s,.slice P2 r.b.ks.length d2] 51);have qg:=heap_alloc_new (w0.alloc (.cells #[.int .i64 (j:Int)] 3)) (.cells #[.string r.s,.slice P1 r.ps.length d1,.int .u8 r.b.k,.int .i64 r.b.n,.string r.b.s,.slice P2 r.b.ks.length d2] 51);simp only[World.size_alloc] at qg
      obtain⟨wk,hwk⟩:∃ wk,(w0.alloc (.cells #[.int .i64 (j:Int)] 3)).alloc (.cells #[.string r.s,.slice P1 r.ps.length d1,.int .u8 r.b.k,.int .i64 r.b.n,.string r.b.s,.slice P2 r.b.ks.length d2] 51)=wk:=⟨_,rfl⟩
      rw[hwk] at hbk tL qg ⊢;have gZ:=zh (show wk.heap.size=w0.heap.size+2 by rw[<-hwk];simp);have az:=zh hbk;obtain⟨ku,qp⟩:∃ ku:World->Prop,(fun W':World=>(Rd W'/\W'.heap[w0.heap.size]?=some (.cells #[.int .i64 (j:Int)] 3 (0,0)))/\W'.heap[w0.heap.size+1]?=some (.cells #[.string r.s,.slice P1 r.ps.length d1,.int .u8 r.b.k,.int .i64 r.b.n,.string r.b.s,.slice P2 r.b.ks.length d2] 51 (0,0)))=ku:=⟨_,rfl⟩
      have kv:=zh (show ∀ w':World,ku w'->(fun W':World=>(Rd W'/\W'.heap[w0.heap.size]?=some (.cells #[.int .i64 (j:Int)] 3 (0,0)))/\W'.heap[w0.heap.size+1]?=some (.cells #[.string r.s,.slice P1 r.ps.length d1,.int .u8 r.b.k,.int .i64 r.b.n,.string r.b.s,.slice P2 r.b.ks.length d2] 51 (0,0))) w' from fun w' h=>by rw[<-qp] at h;exact h);have df:=zh (show ∀ (W W':World) (pv:Value) (N:Nat),ku W->FS W fb fb N pv->Chg (fun b=>b=fb\/pv.ownBlock=some b) W W'->ku W' from fun W W' pv N h hfs hc=>by rw[<-qp] at h ⊢;exact⟨⟨bJ.out.keep _ _ _ _ h.1.1 hfs hc,hc.keep h.1.2 (hfs.other h.1.2 (by decide) (by decide))⟩,hc.keep h.2 (hfs.other h.2 (by decide) (by decide))⟩);have HI2:=zh (show VsI ku fb fb wk pv' (F1+prcN p.prs j) wk pv' from ⟨by rw[<-qp];exact⟨⟨bJ.out.keep _ _ _ _ ak.out.rd ak.out.fs (Chg.of_below hbk),tL⟩,qg⟩,ak.out.fs.later hbk,fun b hb=>.inl hb,Chg.refl _ _⟩)
      have lU:=zh (show ∀ w':World,ku w'->(fun w':World=>((w'.cell? ⟨W.heap.size,0,none⟩=some (.slice A1 L1 c1)/\w'.cell? ⟨W.heap.size,1,none⟩=some (.slice (some a) L2 c2)/\w'.cell? ⟨W.heap.size,2,none⟩=some (.int .u8 k)/\w'.cell? ⟨W.heap.size,3,none⟩=some (.int .i64 n)/\w'.cell? ⟨W.heap.size,4,none⟩=some (.string s)/\w'.cell? ⟨W.heap.size,5,none⟩=some (.slice A3 l3 c3))/\(w'.cell? ⟨fb+1,0,none⟩=some (.func (.func 34) #[] #[.pointer (some ⟨fb,0,none⟩)])))/\(w'.cell? ⟨w0.heap.size,0,none⟩=some (.int .i64 (j:Int)))/\(w'.cell? ⟨w0.heap.size+1,0,none⟩=some (.string r.s)/\w'.cell? ⟨w0.heap.size+1,1,none⟩=some (.slice P1 r.ps.length d1)/\w'.cell? ⟨w0.heap.size+1,2,none⟩=some (.int .u8 r.b.k)/\w'.cell? ⟨w0.heap.size+1,3,none⟩=some (.int .i64 r.b.n)/\w'.cell? ⟨w0.heap.size+1,4,none⟩=some (.string r.b.s)/\w'.cell? ⟨w0.heap.size+1,5,none⟩=some (.slice P2 r.b.ks.length d2))) w' from fun w' h=>⟨bN.out w' (kv.out w' h).1.1,zc (kv.out w' h).1.2 rfl,box6 (kv.out w' h).2⟩)
      have HD2:=zh (show ∀ w':World,Chg (fun b=>b=fb\/pv'.ownBlock=some b) wk w'->PV w' (fun b=>S b/\b<W.heap.size) p _/\PrR w' (fun b=>S b/\b<W.heap.size) r P1 d1 P2 d2 from fun w' h=>⟨(HD.out w' (ak.out.chg2 az.out h)).1,ig.out.keep (fun b hb _=>hb) fun b hb _=>(pE.out w' (ak.out.chg2 az.out h) b hb.1 hb.2).trans (pE.out w0 ak.out.chg b hb.1 hb.2).symm⟩)
      have cB:=zh (show ∀ w':World,Below wk.heap.size wk w'->(fun w':World=>((w'.cell? ⟨W.heap.size,0,none⟩=some (.slice A1 L1 c1)/\w'.cell? ⟨W.heap.size,1,none⟩=some (.slice (some a) L2 c2)/\w'.cell? ⟨W.heap.size,2,none⟩=some (.int .u8 k)/\w'.cell? ⟨W.heap.size,3,none⟩=some (.int .i64 n)/\w'.cell? ⟨W.heap.size,4,none⟩=some (.string s)/\w'.cell? ⟨W.heap.size,5,none⟩=some (.slice A3 l3 c3))/\(w'.cell? ⟨fb+1,0,none⟩=some (.func (.func 34) #[] #[.pointer (some ⟨fb,0,none⟩)])))/\(w'.cell? ⟨w0.heap.size,0,none⟩=some (.int .i64 (j:Int)))/\(w'.cell? ⟨w0.heap.size+1,0,none⟩=some (.string r.s)/\w'.cell? ⟨w0.heap.size+1,1,none⟩=some (.slice P1 r.ps.length d1)/\w'.cell? ⟨w0.heap.size+1,2,none⟩=some (.int .u8 r.b.k)/\w'.cell? ⟨w0.heap.size+1,3,none⟩=some (.int .i64 r.b.n)/\w'.cell? ⟨w0.heap.size+1,4,none⟩=some (.string r.b.s)/\w'.cell? ⟨w0.heap.size+1,5,none⟩=some (.slice P2 r.b.ks.length d2))) w'/\(fun _:World=>True) w' from fun w' h=>⟨lU.out w' (df.out _ _ _ _ HI2.out.rd HI2.out.fs (Chg.of_below h)),trivial⟩)
      clear hwk hbk tL qg qp a0 a1 a2 a3 a4 a5 ar q0 q1 q2 q3 q4 q5;have hdr:=(Below.refl wk.heap.size wk).drew;have hSS:=cB.out _ hdr;have hrb:=iT.out.2.2.1 r (by rw[<-Hr.out];exact List.getElem_mem jc);have hpN:=zqz p.prs iT.out.2.2.1 j;obtain⟨rb1,rb2,rb3⟩:=hrb;refine wp_region_noPanic ?_
      refine zkd (fun w':World=>((w'.cell? ⟨W.heap.size,0,none⟩=some (.slice A1 L1 c1)/\w'.cell? ⟨W.heap.size,1,none⟩=some (.slice (some a) L2 c2)/\w'.cell? ⟨W.heap.size,2,none⟩=some (.int .u8 k)/\w'.cell? ⟨W.heap.size,3,none⟩=some (.int .i64 n)/\w'.cell? ⟨W.heap.size,4,none⟩=some (.string s)/\w'.cell? ⟨W.heap.size,5,none⟩=some (.slice A3 l3 c3))/\(w'.cell? ⟨fb+1,0,none⟩=some (.func (.func 34) #[] #[.pointer (some ⟨fb,0,none⟩)])))/\(w'.cell? ⟨w0.heap.size,0,none⟩=some (.int .i64 (j:Int)))/\(w'.cell? ⟨w0.heap.size+1,0,none⟩=some (.string r.s)/\w'.cell? ⟨w0.heap.size+1,1,none⟩=some (.slice P1 r.ps.length d1)/\w'.cell? ⟨w0.heap.size+1,2,none⟩=some (.int .u8 r.b.k)/\w'.cell? ⟨w0.heap.size+1,3,none⟩=some (.int .i64 r.b.n)/\w'.cell? ⟨w0.heap.size+1,4,none⟩=some (.string r.b.s)/\w'.cell? ⟨w0.heap.size+1,5,none⟩=some (.slice P2 r.b.ks.length d2))) (fun _:World=>True) 40 (by kernel_rfl) ?_
      refine zT 0 hSS ?_;(try simp only[zQ]);refine zT 1 hSS ?_;(try simp only[zQ]);refine zT 2 hSS ?_;(try simp only[zQ]);refine zT 4 hSS ?_;(try simp only[zQ]);refine zo 3 fun K hK=>?_;refine zkj (by rfl) (.func 37) [.tmp 45,.tmp 47] _ (by rfl) 37 _ zwn (by rfl) _ (by rfl) _ (znO (znv p _ _ r.s _ (HD2.out _ (Chg.of_below hdr)).1)) ?_;rintro vq w2 ⟨rfl,aB⟩;have b2:=zka hdr aB;have aX:=cB.out _ b2;obtain⟨PE,zH⟩:∃ PE,zlY p.prs r.s=PE:=⟨_,rfl⟩
      rw[zH];have HPE:=zh zH;refine hK.out _ _ aX ?_;clear hK K hSS zH;(try simp only[zQ]);have uM:=zh (show VsI ku fb fb wk pv' (F1+prcN p.prs j) w2 pv' from ⟨df.out _ _ _ _ HI2.out.rd HI2.out.fs (Chg.of_below b2),HI2.out.fs.later b2,fun b hb=>.inl hb,Chg.of_below b2⟩);by_cases hpe:PE<(j:Int)
      ·have hd:decide (PE<(j:Int))=true:=decide_eq_true hpe;obtain⟨E1,hE1⟩:∃ E1,one1 (22)=E1:=⟨_,rfl⟩
       have hE2:E1<=1:=by rw[<-hE1];exact zm8 _
       have jT:=zh (show one1 (if zlY p.prs r.s<(j:Int) then 22 else 0)=E1 by rw[HPE.out,if_pos hpe];exact hE1);refine zT 5 aX ?_;(try simp only[zQ]);refine zd ?_;refine NoPanic.normal ?_;obtain⟨⟨⟨a0,a1,a2,a3,a4,a5⟩,ar⟩,ai,r0,r1,r2,r3,r4,r5⟩:=aX.1;clear aX;go_wp2_with fail;refine(zmU fb fb _ pv' (j:Int) 22 [] none 0 r.s Any w2 uM.out.fs RowI.nil (by simp) (by omega)).mono ?_;rintro e w3 hp;obtain⟨v3,rfl⟩:=hp.1;obtain⟨pv3,hi3⟩:=uM.out.stepK df.out (Below.refl _ _) hp;rw[hE1] at hi3;have HI3:=zh hi3;clear hp a0 a1 a2 a3 a4 a5 ar ai r0 r1 r2 r3 r4 r5;obtain⟨⟨⟨a0,a1,a2,a3,a4,a5⟩,ar⟩,ai,r0,r1,r2,r3,r4,r5⟩:=lU.out _ hi3.rd;clear hi3 hE1;go_wp2_with fail
       go_loopw [59] (fun x w'=>∃ (i:Nat) (mU:Value),i<=r.ps.length/\x=.int .i64 i/\VsI ku fb fb wk pv' (F1+prcN p.prs j+E1+frsN r.ps i) w' mU) (fun x _=>r.ps.length-(intOf x).toNat)
       case atStart=>exact⟨0,_,Nat.zero_le _,rfl,HI3.out⟩
       case round =>
        clear HI3 a0 a1 a2 a3 a4 a5 ar ai r0 r1 r2 r3 r4 r5;obtain⟨i,mU,hi,rfl,hinv⟩:=hrel;have cz:=zh hinv;by_cases wC:i<r.ps.length
        ·obtain⟨a',u,rfl,hsa,Hu,⟨q0,q1,q2⟩,hfu⟩:=(HD2.out wr hinv.chg).2.row.nd wC;have hic:(i:Int)<=(d1:Int):=by have:=ig.out.lc;omega
         have hi0:(0:Int)<=(i:Int):=by omega
         obtain⟨⟨⟨a0,a1,a2,a3,a4,a5⟩,ar⟩,ai,r0,r1,r2,r3,r4,r5⟩:=lU.out _ hinv.rd;clear hinv hsa hfu;go_upto_region 18 with fail;have hbk:Below wr.heap.size wr (wr.alloc (.cells #[.string u.s,.int .u8 u.k,.int .i64 u.n] 48)):=zkc (Below.refl _ _) _;have gz:=heap_alloc_new wr (.cells #[.string u.s,.int .u8 u.k,.int .i64 u.n] 48);obtain⟨wv,hwv⟩:∃ wv,wr.alloc (.cells #[.string u.s,.int .u8 u.k,.int .i64 u.n] 48)=wv:=⟨_,rfl⟩
         rw[hwv] at hbk gz ⊢;have ug:=zh (show wv.heap.size=wr.heap.size+1 by rw[<-hwv];simp);have oH:=zh hbk;have iZ:=zh gz;clear hwv hbk gz a0 a1 a2 a3 a4 a5 ar ai r0 r1 r2 r3 r4 r5 q0 q1 q2
         have oF:=zh (show ∀ w':World,Below wv.heap.size wv w'->(fun w':World=>(fun w':World=>((w'.cell? ⟨W.heap.size,0,none⟩=some (.slice A1 L1 c1)/\w'.cell? ⟨W.heap.size,1,none⟩=some (.slice (some a) L2 c2)/\w'.cell? ⟨W.heap.size,2,none⟩=some (.int .u8 k)/\w'.cell? ⟨W.heap.size,3,none⟩=some (.int .i64 n)/\w'.cell? ⟨W.heap.size,4,none⟩=some (.string s)/\w'.cell? ⟨W.heap.size,5,none⟩=some (.slice A3 l3 c3))/\(w'.cell? ⟨fb+1,0,none⟩=some (.func (.func 34) #[] #[.pointer (some ⟨fb,0,none⟩)])))/\(w'.cell? ⟨w0.heap.size,0,none⟩=some (.int .i64 (j:Int)))/\(w'.cell? ⟨w0.heap.size+1,0,none⟩=some (.string r.s)/\w'.cell? ⟨w0.heap.size+1,1,none⟩=some (.slice (some a') r.ps.length d1)/\w'.cell? ⟨w0.heap.size+1,2,none⟩=some (.int .u8 r.b.k)/\w'.cell? ⟨w0.heap.size+1,3,none⟩=some (.int .i64 r.b.n)/\w'.cell? ⟨w0.heap.size+1,4,none⟩=some (.string r.b.s)/\w'.cell? ⟨w0.heap.size+1,5,none⟩=some (.slice P2 r.b.ks.length d2))) w'/\(w'.cell? ⟨wr.heap.size,0,none⟩=some (.string u.s)/\w'.cell? ⟨wr.heap.size,1,none⟩=some (.int .u8 u.k)/\w'.cell? ⟨wr.heap.size,2,none⟩=some (.int .i64 u.n))) w'/\(fun _:World=>True) w' from fun w' h=>⟨⟨lU.out _ (df.out _ _ _ _ cz.out.rd cz.out.fs (Chg.of_below (zka oH.out h))),box3 ((h.block _ (by have:=ug.out;omega)).trans iZ.out)⟩,trivial⟩)
         have hdv:=(Below.refl wv.heap.size wv).drew;have hSS:=oF.out _ hdv;have zl:=zmM r.ps i;refine wp_region_noPanic ?_
         refine zkd (fun w':World=>(fun w':World=>((w'.cell? ⟨W.heap.size,0,none⟩=some (.slice A1 L1 c1)/\w'.cell? ⟨W.heap.size,1,none⟩=some (.slice (some a) L2 c2)/\w'.cell? ⟨W.heap.size,2,none⟩=some (.int .u8 k)/\w'.cell? ⟨W.heap.size,3,none⟩=some (.int .i64 n)/\w'.cell? ⟨W.heap.size,4,none⟩=some (.string s)/\w'.cell? ⟨W.heap.size,5,none⟩=some (.slice A3 l3 c3))/\(w'.cell? ⟨fb+1,0,none⟩=some (.func (.func 34) #[] #[.pointer (some ⟨fb,0,none⟩)])))/\(w'.cell? ⟨w0.heap.size,0,none⟩=some (.int .i64 (j:Int)))/\(w'.cell? ⟨w0.heap.size+1,0,none⟩=some (.string r.s)/\w'.cell? ⟨w0.heap.size+1,1,none⟩=some (.slice (some a') r.ps.length d1)/\w'.cell? ⟨w0.heap.size+1,2,none⟩=some (.int .u8 r.b.k)/\w'.cell? ⟨w0.heap.size+1,3,none⟩=some (.int .i64 r.b.n)/\w'.cell? ⟨w0.heap.size+1,4,none⟩=some (.string r.b.s)/\w'.cell? ⟨w0.heap.size+1,5,none⟩=some (.slice P2 r.b.ks.length d2))) w'/\(w'.cell? ⟨wr.heap.size,0,none⟩=some (.string u.s)/\w'.cell? ⟨wr.heap.size,1,none⟩=some (.int .u8 u.k)/\w'.cell? ⟨wr.heap.size,2,none⟩=some (.int .i64 u.n))) (fun _:World=>True) 40 (by kernel_rfl) ?_
         refine zT 0 hSS ?_;(try simp only[zQ]);refine zT 1 hSS ?_;(try simp only[zQ]);refine zT 2 hSS ?_;(try simp only[zQ]);refine zT 3 hSS ?_;(try simp only[zQ]);refine zT 4 hSS ?_;(try simp only[zQ]);refine zT 5 hSS ?_;(try simp only[zQ]);refine zT 6 hSS ?_;(try simp only[zQ]);refine zT 7 hSS ?_;(try simp only[zQ]);refine zT 8 hSS ?_;(try simp only[zQ]);refine zT 9 hSS ?_;(try simp only[zQ]);refine zo 10 fun K hK=>?_;refine zkj (by rfl) (.func 36) [.tmp 71,.tmp 73] _ (by rfl) 36 _ zpr (by rfl) _ (by rfl) _ (znO (zmX r.ps i (by omega) (some a') d1 u.s _ _ (HD2.out _ (cz.out.chg.trans (Chg.of_below (zka oH.out hdv)))).2.row ig.out.lp)) ?_;rintro vq w5 ⟨rfl,iq⟩;have b5:=zka hdv iq;refine hK.out _ _ (oF.out _ b5) ?_;clear hK K hSS;(try simp only[zQ]);refine zo 11 fun K hK=>?_
         refine zlr (by rfl) (.tmp 64) [.tmp 65,.const (.slice none 0 0),.tmp 67,.tmp 74] _ (by rfl) 34 _ zrn #[.pointer (some ⟨fb,0,none⟩)] (by rfl) _ (by rfl) _ (zmL (zmT fb fb _ mU (j:Int) _ [] none 0 u.s Any _ (cz.out.fs.later (zka oH.out b5)) RowI.nil (by simp) (by omega))) ?_;rintro vq W6 hp;obtain⟨jN,dh⟩:=cz.out.stepK df.out (zka oH.out b5) hp;have cK:VsI ku fb fb wk pv' (F1+prcN p.prs j+E1+frsN r.ps (i+1)) W6 jN:=by rw[znm wC,Hu.out,<-Nat.add_assoc];exact dh
         have aD:(fun w':World=>(fun w':World=>((w'.cell? ⟨W.heap.size,0,none⟩=some (.slice A1 L1 c1)/\w'.cell? ⟨W.heap.size,1,none⟩=some (.slice (some a) L2 c2)/\w'.cell? ⟨W.heap.size,2,none⟩=some (.int .u8 k)/\w'.cell? ⟨W.heap.size,3,none⟩=some (.int .i64 n)/\w'.cell? ⟨W.heap.size,4,none⟩=some (.string s)/\w'.cell? ⟨W.heap.size,5,none⟩=some (.slice A3 l3 c3))/\(w'.cell? ⟨fb+1,0,none⟩=some (.func (.func 34) #[] #[.pointer (some ⟨fb,0,none⟩)])))/\(w'.cell? ⟨w0.heap.size,0,none⟩=some (.int .i64 (j:Int)))/\(w'.cell? ⟨w0.heap.size+1,0,none⟩=some (.string r.s)/\w'.cell? ⟨w0.heap.size+1,1,none⟩=some (.slice (some a') r.ps.length d1)/\w'.cell? ⟨w0.heap.size+1,2,none⟩=some (.int .u8 r.b.k)/\w'.cell? ⟨w0.heap.size+1,3,none⟩=some (.int .i64 r.b.n)/\w'.cell? ⟨w0.heap.size+1,4,none⟩=some (.string r.b.s)/\w'.cell? ⟨w0.heap.size+1,5,none⟩=some (.slice P2 r.b.ks.length d2))) w'/\(w'.cell? ⟨wr.heap.size,0,none⟩=some (.string u.s)/\w'.cell? ⟨wr.heap.size,1,none⟩=some (.int .u8 u.k)/\w'.cell? ⟨wr.heap.size,2,none⟩=some (.int .i64 u.n))) W6/\(fun _:World=>True) W6:=⟨⟨lU.out _ cK.rd,box3 ((hp.2.elim fun _ h=>h.2.2.block _ (by have:=(zka oH.out b5).size;have:=b5.size;have:=ug.out;omega) (fun hh=>by have hl:=cz.out.fs.lt;rcases hh with hh|hh;(have:=hl.1;omega);(have:=(hl.2 _ hh).2;omega))).trans ((b5.block _ (by have:=ug.out;omega)).trans iZ.out))⟩,trivial⟩
         refine hK.out _ _ aD ?_;clear hK K;(try simp only[zQ]);refine zd ?_;refine NoPanic.normal ?_;have lT:=zh cK;clear cK dh hp aD;go_wp2_with fail
         go_roundw
         case rel=>exact⟨i+1,_,by omega,by go_num,lT.out⟩
         case measure=>simp[intOf];omega
        ·have hil:i=r.ps.length:=by omega
         obtain⟨⟨⟨a0,a1,a2,a3,a4,a5⟩,ar⟩,ai,r0,r1,r2,r3,r4,r5⟩:=lU.out _ hinv.rd;have hge:¬ ((i:Int)<(r.ps.length:Int)):=by omega
         clear hinv;go_wp2_with fail;have zl:=zmM r.ps r.ps.length;have aT:=zh (show VsI ku fb fb wk pv' (F1+prcN p.prs j+E1+frsN r.ps r.ps.length) wr mU by rw[<-hil];exact cz.out);have xy:=cz.out.chg.size;have hzk:=gZ.out;have hz0:=ak.out.chg.size;have hzb:=qy.out;refine(znz 39 _ _ fb fb (zrA fb fb (fb+1) w0.heap.size (j:Int)) p r.b (fun b=>S b/\b<W.heap.size) r.ps P1 d1 [] none 0 (F1+prcN p.prs j+E1+frsN r.ps r.ps.length) mU wr _ _ ⟨(o7.out _ (kv.out _ aT.out.rd).1.1).1,(kv.out _ aT.out.rd).1.2⟩ aT.out.fs (HD2.out _ aT.out.chg).1 (HD2.out _ aT.out.chg).2.body (HD2.out _ aT.out.chg).2.row ig.out.lc RowI.nil (Nat.zero_le _) (fun b hb hbl hh=>?_) (by simp;omega) (by omega) (by omega)).mono ?_
         ·rcases hh with hh|hh
          ·have:=hb.2;omega
          ·rcases aT.out.own b hh with h1|h1
           ·have:=(ak.out.fs.lt.2 b h1).1;have:=hb.2;omega
           ·have:=hb.2;omega
         rintro e W6 hp;obtain⟨v6,rfl⟩:=hp.1;obtain⟨jN,dh⟩:=aT.out.stepK df.out (Below.refl _ _) hp;obtain⟨yK,cK⟩:=ak.out.step bJ.out az.out (dh.rep (Below.refl _ _) (e:=.returned undef) ⟨_,rfl⟩);have Bc:=zh (show VsI Rd fb fb Wb (.slice none 0 0) (F1+prcN p.prs (j+1)) W6 yK by rw[zob jc,Hr.out,prcE,jT.out];simpa only[Nat.add_assoc] using cK);clear cK dh hp a0 a1 a2 a3 a4 a5 ar ai r0 r1 r2 r3 r4 r5;go_wp2_with fail
         go_roundw
         case rel=>exact⟨j+1,_,by omega,by go_num,Bc.out⟩
         case measure=>simp[intOf];omega
      ·have hd:decide (PE<(j:Int))=false:=decide_eq_false hpe;obtain⟨E1,hE1⟩:∃ E1,one1 (0)=E1:=⟨_,rfl⟩
       have hE2:E1<=1:=by rw[<-hE1];exact zm8 _
       have jT:=zh (show one1 (if zlY p.prs r.s<(j:Int) then 22 else 0)=E1 by rw[HPE.out,if_neg hpe];exact hE1);refine zT 5 aX ?_;(try simp only[zQ]);refine zd ?_;refine NoPanic.normal ?_;obtain⟨⟨⟨a0,a1,a2,a3,a4,a5⟩,ar⟩,ai,r0,r1,r2,r3,r4,r5⟩:=aX.1;clear aX;go_wp2_with fail;have HI3:=zh (show VsI ku fb fb wk pv' (F1+prcN p.prs j+E1) w2 pv' by rw[<-hE1];exact uM.out);clear hE1
       go_loopw [59] (fun x w'=>∃ (i:Nat) (mU:Value),i<=r.ps.length/\x=.int .i64 i/\VsI ku fb fb wk pv' (F1+prcN p.prs j+E1+frsN r.ps i) w' mU) (fun x _=>r.ps.length-(intOf x).toNat)
       case atStart=>exact⟨0,_,Nat.zero_le _,rfl,HI3.out⟩
       case round =>
        clear HI3 a0 a1 a2 a3 a4 a5 ar ai r0 r1 r2 r3 r4 r5;obtain⟨i,mU,hi,rfl,hinv⟩:=hrel;have cz:=zh hinv;by_cases wC:i<r.ps.length
        ·obtain⟨a',u,rfl,hsa,Hu,⟨q0,q1,q2⟩,hfu⟩:=(HD2.out wr hinv.chg).2.row.nd wC;have hic:(i:Int)<=(d1:Int):=by have:=ig.out.lc;omega
         have hi0:(0:Int)<=(i:Int):=by omega
         obtain⟨⟨⟨a0,a1,a2,a3,a4,a5⟩,ar⟩,ai,r0,r1,r2,r3,r4,r5⟩:=lU.out _ hinv.rd;clear hinv hsa hfu;go_upto_region 18 with fail;have hbk:Below wr.heap.size wr (wr.alloc (.cells #[.string u.s,.int .u8 u.k,.int .i64 u.n] 48)):=zkc (Below.refl _ _) _;have gz:=heap_alloc_new wr (.cells #[.string u.s,.int .u8 u.k,.int .i64 u.n] 48);obtain⟨wv,hwv⟩:∃ wv,wr.alloc (.cells #[.string u.s,.int .u8 u.k,.int .i64 u.n] 48)=wv:=⟨_,rfl⟩
         rw[hwv] at hbk gz ⊢;have ug:=zh (show wv.heap.size=wr.heap.size+1 by rw[<-hwv];simp);have oH:=zh hbk;have iZ:=zh gz;clear hwv hbk gz a0 a1 a2 a3 a4 a5 ar ai r0 r1 r2 r3 r4 r5 q0 q1 q2
         have oF:=zh (show ∀ w':World,Below wv.heap.size wv w'->(fun w':World=>(fun w':World=>((w'.cell? ⟨W.heap.size,0,none⟩=some (.slice A1 L1 c1)/\w'.cell? ⟨W.heap.size,1,none⟩=some (.slice (some a) L2 c2)/\w'.cell? ⟨W.heap.size,2,none⟩=some (.int .u8 k)/\w'.cell? ⟨W.heap.size,3,none⟩=some (.int .i64 n)/\w'.cell? ⟨W.heap.size,4,none⟩=some (.string s)/\w'.cell? ⟨W.heap.size,5,none⟩=some (.slice A3 l3 c3))/\(w'.cell? ⟨fb+1,0,none⟩=some (.func (.func 34) #[] #[.pointer (some ⟨fb,0,none⟩)])))/\(w'.cell? ⟨w0.heap.size,0,none⟩=some (.int .i64 (j:Int)))/\(w'.cell? ⟨w0.heap.size+1,0,none⟩=some (.string r.s)/\w'.cell? ⟨w0.heap.size+1,1,none⟩=some (.slice (some a') r.ps.length d1)/\w'.cell? ⟨w0.heap.size+1,2,none⟩=some (.int .u8 r.b.k)/\w'.cell? ⟨w0.heap.size+1,3,none⟩=some (.int .i64 r.b.n)/\w'.cell? ⟨w0.heap.size+1,4,none⟩=some (.string r.b.s)/\w'.cell? ⟨w0.heap.size+1,5,none⟩=some (.slice P2 r.b.ks.length d2))) w'/\(w'.cell? ⟨wr.heap.size,0,none⟩=some (.string u.s)/\w'.cell? ⟨wr.heap.size,1,none⟩=some (.int .u8 u.k)/\w'.cell? ⟨wr.heap.size,2,none⟩=some (.int .i64 u.n))) w'/\(fun _:World=>True) w' from fun w' h=>⟨⟨lU.out _ (df.out _ _ _ _ cz.out.rd cz.out.fs (Chg.of_below (zka oH.out h))),box3 ((h.block _ (by have:=ug.out;omega)).trans iZ.out)⟩,trivial⟩)
         have hdv:=(Below.refl wv.heap.size wv).drew;have hSS:=oF.out _ hdv;have zl:=zmM r.ps i;refine wp_region_noPanic ?_
         refine zkd (fun w':World=>(fun w':World=>((w'.cell? ⟨W.heap.size,0,none⟩=some (.slice A1 L1 c1)/\w'.cell? ⟨W.heap.size,1,none⟩=some (.slice (some a) L2 c2)/\w'.cell? ⟨W.heap.size,2,none⟩=some (.int .u8 k)/\w'.cell? ⟨W.heap.size,3,none⟩=some (.int .i64 n)/\w'.cell? ⟨W.heap.size,4,none⟩=some (.string s)/\w'.cell? ⟨W.heap.size,5,none⟩=some (.slice A3 l3 c3))/\(w'.cell? ⟨fb+1,0,none⟩=some (.func (.func 34) #[] #[.pointer (some ⟨fb,0,none⟩)])))/\(w'.cell? ⟨w0.heap.size,0,none⟩=some (.int .i64 (j:Int)))/\(w'.cell? ⟨w0.heap.size+1,0,none⟩=some (.string r.s)/\w'.cell? ⟨w0.heap.size+1,1,none⟩=some (.slice (some a') r.ps.length d1)/\w'.cell? ⟨w0.heap.size+1,2,none⟩=some (.int .u8 r.b.k)/\w'.cell? ⟨w0.heap.size+1,3,none⟩=some (.int .i64 r.b.n)/\w'.cell? ⟨w0.heap.size+1,4,none⟩=some (.string r.b.s)/\w'.cell? ⟨w0.heap.size+1,5,none⟩=some (.slice P2 r.b.ks.length d2))) w'/\(w'.cell? ⟨wr.heap.size,0,none⟩=some (.string u.s)/\w'.cell? ⟨wr.heap.size,1,none⟩=some (.int .u8 u.k)/\w'.cell? ⟨wr.heap.size,2,none⟩=some (.int .i64 u.n))) (fun _:World=>True) 40 (by kernel_rfl) ?_
         refine zT 0 hSS ?_;(try simp only[zQ]);refine zT 1 hSS ?_;(try simp only[zQ]);refine zT 2 hSS ?_;(try simp only[zQ]);refine zT 3 hSS ?_;(try simp only[zQ]);refine zT 4 hSS ?_;(try simp only[zQ]);refine zT 5 hSS ?_;(try simp only[zQ]);refine zT 6 hSS ?_;(try simp only[zQ]);refine zT 7 hSS ?_;(try simp only[zQ]);refine zT 8 hSS ?_;(try simp only[zQ]);refine zT 9 hSS ?_;(try simp only[zQ]);refine zo 10 fun K hK=>?_;refine zkj (by rfl) (.func 36) [.tmp 71,.tmp 73] _ (by rfl) 36 _ zpr (by rfl) _ (by rfl) _ (znO (zmX r.ps i (by omega) (some a') d1 u.s _ _ (HD2.out _ (cz.out.chg.trans (Chg.of_below (zka oH.out hdv)))).2.row ig.out.lp)) ?_;rintro vq w5 ⟨rfl,iq⟩;have b5:=zka hdv iq;refine hK.out _ _ (oF.out _ b5) ?_;clear hK K hSS;(try simp only[zQ]);refine zo 11 fun K hK=>?_
         refine zlr (by rfl) (.tmp 64) [.tmp 65,.const (.slice none 0 0),.tmp 67,.tmp 74] _ (by rfl) 34 _ zrn #[.pointer (some ⟨fb,0,none⟩)] (by rfl) _ (by rfl) _ (zmL (zmT fb fb _ mU (j:Int) _ [] none 0 u.s Any _ (cz.out.fs.later (zka oH.out b5)) RowI.nil (by simp) (by omega))) ?_;rintro vq W6 hp;obtain⟨jN,dh⟩:=cz.out.stepK df.out (zka oH.out b5) hp;have cK:VsI ku fb fb wk pv' (F1+prcN p.prs j+E1+frsN r.ps (i+1)) W6 jN:=by rw[znm wC,Hu.out,<-Nat.add_assoc];exact dh
         have aD:(fun w':World=>(fun w':World=>((w'.cell? ⟨W.heap.size,0,none⟩=some (.slice A1 L1 c1)/\w'.cell? ⟨W.heap.size,1,none⟩=some (.slice (some a) L2 c2)/\w'.cell? ⟨W.heap.size,2,none⟩=some (.int .u8 k)/\w'.cell? ⟨W.heap.size,3,none⟩=some (.int .i64 n)/\w'.cell? ⟨W.heap.size,4,none⟩=some (.string s)/\w'.cell? ⟨W.heap.size,5,none⟩=some (.slice A3 l3 c3))/\(w'.cell? ⟨fb+1,0,none⟩=some (.func (.func 34) #[] #[.pointer (some ⟨fb,0,none⟩)])))/\(w'.cell? ⟨w0.heap.size,0,none⟩=some (.int .i64 (j:Int)))/\(w'.cell? ⟨w0.heap.size+1,0,none⟩=some (.string r.s)/\w'.cell? ⟨w0.heap.size+1,1,none⟩=some (.slice (some a') r.ps.length d1)/\w'.cell? ⟨w0.heap.size+1,2,none⟩=some (.int .u8 r.b.k)/\w'.cell? ⟨w0.heap.size+1,3,none⟩=some (.int .i64 r.b.n)/\w'.cell? ⟨w0.heap.size+1,4,none⟩=some (.string r.b.s)/\w'.cell? ⟨w0.heap.size+1,5,none⟩=some (.slice P2 r.b.ks.length d2))) w'/\(w'.cell? ⟨wr.heap.size,0,none⟩=some (.string u.s)/\w'.cell? ⟨wr.heap.size,1,none⟩=some (.int .u8 u.k)/\w'.cell? ⟨wr.heap.size,2,none⟩=some (.int .i64 u.n))) W6/\(fun _:World=>True) W6:=⟨⟨lU.out _ cK.rd,box3 ((hp.2.elim fun _ h=>h.2.2.block _ (by have:=(zka oH.out b5).size;have:=b5.size;have:=ug.out;omega) (fun hh=>by have hl:=cz.out.fs.lt;rcases hh with hh|hh;(have:=hl.1;omega);(have:=(hl.2 _ hh).2;omega))).trans ((b5.block _ (by have:=ug.out;omega)).trans iZ.out))⟩,trivial⟩
         refine hK.out _ _ aD ?_;clear hK K;(try simp only[zQ]);refine zd ?_;refine NoPanic.normal ?_;have lT:=zh cK;clear cK dh hp aD;go_wp2_with fail
         go_roundw
         case rel=>exact⟨i+1,_,by omega,by go_num,lT.out⟩
         case measure=>simp[intOf];omega
        ·have hil:i=r.ps.length:=by omega
         obtain⟨⟨⟨a0,a1,a2,a3,a4,a5⟩,ar⟩,ai,r0,r1,r2,r3,r4,r5⟩:=lU.out _ hinv.rd;have hge:¬ ((i:Int)<(r.ps.length:Int)):=by omega
         clear hinv;go_wp2_with fail;have zl:=zmM r.ps r.ps.length;have aT:=zh (show VsI ku fb fb wk pv' (F1+prcN p.prs j+E1+frsN r.ps r.ps.length) wr mU by rw[<-hil];exact cz.out);have xy:=cz.out.chg.size;have hzk:=gZ.out;have hz0:=ak.out.chg.size;have hzb:=qy.out;refine(znz 39 _ _ fb fb (zrA fb fb (fb+1) w0.heap.size (j:Int)) p r.b (fun b=>S b/\b<W.heap.size) r.ps P1 d1 [] none 0 (F1+prcN p.prs j+E1+frsN r.ps r.ps.length) mU wr _ _ ⟨(o7.out _ (kv.out _ aT.out.rd).1.1).1,(kv.out _ aT.out.rd).1.2⟩ aT.out.fs (HD2.out _ aT.out.chg).1 (HD2.out _ aT.out.chg).2.body (HD2.out _ aT.out.chg).2.row ig.out.lc RowI.nil (Nat.zero_le _) (fun b hb hbl hh=>?_) (by simp;omega) (by omega) (by omega)).mono ?_
         ·rcases hh with hh|hh
          ·have:=hb.2;omega
          ·rcases aT.out.own b hh with h1|h1
           ·have:=(ak.out.fs.lt.2 b h1).1;have:=hb.2;omega
           ·have:=hb.2;omega
         rintro e W6 hp;obtain⟨v6,rfl⟩:=hp.1;obtain⟨jN,dh⟩:=aT.out.stepK df.out (Below.refl _ _) hp;obtain⟨yK,cK⟩:=ak.out.step bJ.out az.out (dh.rep (Below.refl _ _) (e:=.returned undef) ⟨_,rfl⟩);have Bc:=zh (show VsI Rd fb fb Wb (.slice none 0 0) (F1+prcN p.prs (j+1)) W6 yK by rw[zob jc,Hr.out,prcE,jT.out];simpa only[Nat.add_assoc] using cK);clear cK dh hp a0 a1 a2 a3 a4 a5 ar ai r0 r1 r2 r3 r4 r5;go_wp2_with fail
         go_roundw
         case rel=>exact⟨j+1,_,by omega,by go_num,Bc.out⟩
         case measure=>simp[intOf];omega
     ·have hjl:j=L2:=by omega
      obtain⟨⟨a0,a1,a2,a3,a4,a5⟩,ar⟩:=bN.out _ hinv.rd;have hge:¬ ((j:Int)<(L2:Int)):=by omega
      have cZ:=zh (show VsI Rd fb fb Wb (.slice none 0 0) (F1+prcN p.prs p.prs.length) w0 pv' by rw[HL2.out,<-hjl];exact ak.out);clear hinv;go_wp2_with fail;have hpN:=zqz p.prs iT.out.2.2.1 p.prs.length;have hvb:=iT.out;have xy:=ak.out.chg.size;have hzb:=qy.out;have xJ:=(HD.out _ cZ.out.chg).2.main;rw[pq.out.1,pq.out.2.1,pq.out.2.2.1,pq.out.2.2.2] at xJ;have hcall:=znz _ _ Rd fb fb bJ.out p p.m (fun b=>S b/\b<W.heap.size) p.vs A1 c1 [] none 0 (F1+prcN p.prs p.prs.length) pv' w0 _ _ cZ.out.rd cZ.out.fs (HD.out _ cZ.out.chg).1 xJ (HD.out _ cZ.out.chg).2.vars HR.out.lvc RowI.nil (Nat.zero_le _) (fun b hb hbl hh=>by rcases hh with hh|hh;(have:=hb.2;omega);(rcases cZ.out.own b hh with h1|h1;(simp[Value.ownBlock] at h1);(have:=hb.2;omega))) (by simp;omega) (by omega) (by omega);rw[mI.out] at hcall;refine hcall.mono ?_;clear hcall;rintro e W6 hp
      obtain⟨v6,rfl⟩:=hp.1;obtain⟨jN,dh⟩:=cZ.out.step bJ.out (Below.refl _ _) hp;rw[show F1+prcN p.prs p.prs.length+cntV p.prs p.m p.vs=NN by rw[<-HNN2.out,chkN,yC.out]] at dh;obtain⟨A6,c6,rfl⟩:=dh.fs.slice;have eD:W6.cell? ⟨fb,0,none⟩=some (.slice A6 NN c6):=zc dh.fs.box rfl;have rD:=zh (show Below W.heap.size W W6 from jI.out.trans (dh.chg.below (by omega) (fun b hb=>by rcases hb with hb|hb;omega;simp[Value.ownBlock] at hb)));clear dh hp xJ hvb a0 a1 a2 a3 a4 a5 ar;go_wp2_with fail;go_ret;exact⟨A6,c6,rfl,rD.out⟩
theorem zpe:∀ (prs:List PR) (s:ByteArray),prcI prs s=idxP prs s
 | [],_=>rfl
 | q::qs,s=>by
  unfold prcI;rw[zpe qs s];unfold idxP;rw[List.findIdx?_cons]
def CalB (prs:List PR) (t:T):Prop:=∀ u∈po t,(u.k=50\/u.k=51)->∃ i,prcI prs u.s=some i
theorem zsK:∀ (t:T),isE t=true->∀ x∈po t,isE x=true:=by
 intro t
 induction t using T.ind with
 | _ k n s ks ih =>
  intro h x hx;simp only[po,List.mem_cons] at hx;rcases hx with rfl|hx
  ·exact h
  ·obtain⟨t,ht,hx⟩:=zl9.1 hx;exact ih t ht (zrl h t ht) x hx
theorem CalB.expr {prs:List PR} {t:T} (h:isE t=true):CalB prs t:=fun u hu hk=>by
 have:=zsL u (zsK t h u hu);omega
theorem CalB.kid {prs:List PR} {k n:Int} {s:ByteArray} {ks:List T} (h:CalB prs (.nd k n s ks)) {t:T} (ht:t∈ks):CalB prs t:=fun u hu=>h u (by simp only[po,List.mem_cons];exact .inr (zl9.2 ⟨t,ht,hu⟩))
theorem zor {prs:List PR} {k:Int} {s:ByteArray} {vs:List VD}:∀ {ks:List T} {i:Nat},cntK prs k s i ks vs=0->∀ t∈ks,∃ vs',cntV prs t vs'=0
 | [],_,_,t,ht=>by cases ht
 | u::us,i,h,t,ht=>by
  rw[cntK] at h;obtain⟨h1,h2⟩:=Nat.add_eq_zero_iff.1 h;rcases List.mem_cons.1 ht with rfl|ht
  ·exact⟨_,h1⟩
  ·exact zor h2 t ht
theorem zmo {e:Int} (h:one1 e=0):e=0:=by
 unfold one1 at h
 split at h
 ·assumption
 ·omega
theorem zvR:∀ (t:T) (prs:List PR) (vs:List VD),(isS t=true\/isB t=true\/isE t=true)->cntV prs t vs=0->CalB prs t:=by
 intro t
 induction t using T.ind with
 | _ k n s ks ih =>
  intro prs vs ht h;rcases ht with hs|hb|he
  ·rw[cntV] at h;intro u hu hk;simp only[po,List.mem_cons] at hu;by_cases hc:k=50\/k=51
   ·rcases hu with rfl|hu
    ·have h0:=zmo (e:=zll prs k s ks.length vs) (by omega);unfold zll at h0;rw[if_neg (by omega),if_neg (by omega),if_neg (by omega),if_neg (by omega),if_pos hc] at h0;rw[zpe]
     cases hi:idxP prs s with
     | none=>rw[hi] at h0;simp at h0
     | some i=>exact⟨i,hi⟩
    ·obtain⟨t,ht,hx⟩:=zl9.1 hu;have h57:t.k≠57:=by
      rcases zlS hs with⟨_,h1⟩|⟨h1,_⟩|⟨h1,_⟩|⟨h1,_⟩
      ·exact h1 t ht
      all_goals omega
     rcases(zsJ hs).2 t ht with h1|h1
     ·exact CalB.expr h1 u hx hk
     ·exact absurd (zwi h1) h57
   ·rw[if_neg hc] at h;rcases hu with rfl|hu
    ·exact absurd hk hc
    ·obtain⟨t,ht,hx⟩:=zl9.1 hu;obtain⟨vs',hv⟩:=zor (Nat.add_eq_zero_iff.1 h).2 t ht;rcases(zsJ hs).2 t ht with h1|h1
     ·exact CalB.expr h1 u hx hk
     ·exact ih t ht prs vs' (.inr (.inl h1)) hv u hx hk
  ·obtain⟨h57,hks⟩:=zpp _ _ _ _ hb;rw[cntV,if_neg (by omega)] at h;intro u hu hk;simp only[po,List.mem_cons] at hu;rcases hu with rfl|hu
   ·simp only[T.k_nd] at hk;omega
   ·obtain⟨t,ht,hx⟩:=zl9.1 hu;obtain⟨vs',hv⟩:=zor (Nat.add_eq_zero_iff.1 h).2 t ht;exact ih t ht prs vs' (.inl (hks t ht)) hv u hx hk
  ·exact CalB.expr he
def GP (prs:List PR) (t:T):Prop:=isS t=true/\CalB prs t/\∀ q∈prs,isB q.b=true/\CalB prs q.b
theorem GP.block {prs:List PR} {b:T} (hb:isB b=true) (hc:CalB prs b) (hq:∀ q∈prs,isB q.b=true/\CalB prs q.b):∀ u∈b.ks,GP prs u:=by
 obtain⟨k,n,s,ks⟩:=b;exact fun u hu=>⟨(zpp _ _ _ _ hb).2 u hu,hc.kid hu,hq⟩
theorem zxF:GC GP where
 two:=fun prs t h hk=>by
  obtain⟨k,n,s,ks⟩:=t;obtain⟨hs,hc,hq⟩:=h;simp only[T.k_nd] at hk;rcases zlS hs with⟨h1,_⟩|⟨_,_,a,b,c,d,rfl,_,hb1,hb2,_⟩|⟨h1,_⟩|⟨h1,_⟩
  ·omega
  ·exact⟨rfl,GP.block hb1 (hc.kid (t:=b) (by simp)) hq,GP.block hb2 (hc.kid (t:=c) (by simp)) hq⟩
  ·omega
  ·omega
 loc:=fun prs t h hk=>by
  obtain⟨k,n,s,ks⟩:=t;obtain⟨hs,hc,hq⟩:=h;simp only[T.k_nd] at hk;rcases zlS hs with⟨h1,_⟩|⟨h1,_⟩|⟨_,_,a,b,c,rfl,_,hb1,_⟩|⟨h1,_⟩
  ·omega
  ·omega
  ·exact⟨rfl,GP.block hb1 (hc.kid (t:=b) (by simp)) hq⟩
  ·omega
 stk:=fun prs t h hk=>by
  obtain⟨k,n,s,ks⟩:=t;obtain⟨hs,hc,hq⟩:=h;simp only[T.k_nd] at hk;rcases zlS hs with⟨h1,_⟩|⟨h1,_⟩|⟨h1,_⟩|⟨_,_,b,rfl,hb1⟩
  ·omega
  ·omega
  ·omega
  ·exact⟨rfl,GP.block hb1 (hc.kid (t:=b) (by simp)) hq⟩
 cal:=fun prs t h hk=>by
  obtain⟨hs,hc,hq⟩:=h;have hm:t∈po t:=by obtain⟨k,n,s,ks⟩:=t;simp[po]
  obtain⟨i,hi⟩:=hc t hm hk;obtain⟨-,hl⟩:=znU _ _ _ hi;exact⟨i,prs[i],hi,List.getElem?_eq_getElem hl,GP.block (hq _ (List.getElem_mem hl)).1 (hq _ (List.getElem_mem hl)).2 hq⟩
theorem zoa {ps:List PR}:∀ {j:Nat},j<=ps.length->prcN ps j=0->∀ i (h:i<ps.length),i<j->prcE ps i ps[i]=0
 | 0,_,_,i,_,hi=>by omega
 | j+1,hj,h,i,hl,hi=>by
  rw[zob (by omega)] at h;by_cases e:i=j
  ·subst e;omega
  ·exact zoa (j:=j) (by omega) (by omega) i hl (by omega)
theorem zpF {p:PG} (h:zle p=true):isB p.m=true/\∀ r∈p.prs,isB r.b=true:=by
 simp only[zle,Bool.and_eq_true,decide_eq_true_eq,List.all_eq_true] at h;refine⟨?_,fun r hr=>?_⟩
 ·have:=h.2;simp only[zlZ,Bool.and_eq_true] at this;exact this.2
 ·have:=h.1.2 r hr;simp only[zoE,zlZ,Bool.and_eq_true] at this;exact this.2.2
theorem zt2 {p:PG} (hv:zle p=true) (hc:chkN p=0):∀ u∈p.m.ks,GP p.prs u:=by
 obtain⟨h1,h2⟩:=zpF hv;unfold chkN at hc;refine GP.block h1 (zvR _ _ p.vs (.inr (.inl h1)) (by omega)) fun q hq=>⟨h2 q hq,?_⟩
 obtain⟨i,hi,rfl⟩:=List.getElem_of_mem hq;have:=zoa (Nat.le_refl _) (show prcN p.prs p.prs.length=0 by omega) i hi hi;unfold prcE at this;exact zvR _ _ _ (.inr (.inl (h2 _ hq))) (show cntV p.prs p.prs[i].b p.prs[i].ps=0 by omega)
theorem zxf (M a b r s g:Nat) (h1:a<=b) (h2:s<=r) (hg:b*M+r<=g):a*M+s<=g:=by have:=Nat.mul_le_mul_right M h1;omega
theorem zq4 {p:PG} {F:Int} {g:Nat} (hv:zle p=true) (hg:F.toNat*2000+2000<=g) (back:Bool) (S:ST) (e:List Nat):Good 0 (runO p.prs F g back p.m ⟨S,0,e⟩):=by
 obtain⟨_,_,h3,_,h5⟩:=zlN hv;refine zl5 _ _ fun u hu r hr=>zmr (M:=2000) (fun q hq=>(h3 q hq).2.2) (by omega) g back u r ?_;have h6:=zpk (zls hu);exact zxf 2000 (F.toNat-r.n) F.toNat 2000 _ g (by omega) (by omega) hg
section
variable {E:Prop} {Rl:Nat->ST->ST->Prop} {F F' k:Int} {o o':Out}
end
theorem zrr {f:FR}:∀ (l:List (VD×ByteArray)) (acc:FR) (e:Int),entL f acc l=.error e->e≠0
 | [],acc,e,h=>by rw[entL] at h;cases h
 | (v,a)::r,acc,e,h=>by
  rw[entL] at h
  split at h
  ·injection h with h;omega
  ·split at h
   ·exact zrr r _ _ h
   ·injection h with h;omega
section
variable {S:ST} {l:List Int}
end
section
variable {ρ ρ':Nat->Nat->Prop} {f g:FR} {S S' S'':ST} {a b:Nat}
end
def LitB (t:T):Prop:=∀ u∈po t,Fld u.k u.n u.s
theorem NV.lit {w:World} {S:Nat->Prop}:∀ (t:T) (v:Value),NV w S t v->LitB t:=by
 intro t
 induction t using T.ind with
 | _ k n s ks ih =>
  intro v hv u hu;obtain⟨A,c,-,hf,-,-,hrow⟩:=hv.open_;simp only[po,List.mem_cons] at hu;rcases hu with rfl|hu
  ·exact hf
  ·obtain⟨t,ht,hx⟩:=zl9.1 hu;obtain⟨i,hi,rfl⟩:=List.getElem_of_mem ht;obtain⟨a,u0,u1,u2,u3,-,-,-,hn⟩:=hrow i hi;exact ih _ ht _ hn u hx
theorem LitB.kid {k n:Int} {s:ByteArray} {ks:List T} (h:LitB (.nd k n s ks)) {t:T} (ht:t∈ks):LitB t:=fun u hu=>h u (by simp only[po,List.mem_cons];exact .inr (zl9.2 ⟨t,ht,hu⟩))
theorem LitB.own {t:T} (h:LitB t):Fld t.k t.n t.s:=h t (by obtain⟨k,n,s,ks⟩:=t;simp[po])
theorem LitB.ev {look:ByteArray->Option (List Int)} (hl:∀ s l,look s=some l->l.length<=100000/\∀ x∈l,I64 x):∀ t,LitB t->I64 (evE look t).1:=by
 intro t
 induction t using T.ind with
 | _ k n s ks ih =>
  intro h;rw[evE];refine zs6 hl h.own.2.1 ?_;rw[zmA,List.getD_eq_getElem?_getD,List.getElem?_map];rcases hk:ks[0]? with _|u
  ·exact zero_I64
  ·exact ih u (List.mem_of_getElem? hk) (h.kid (List.mem_of_getElem? hk))
theorem LitB.expr {S:ST} (h:S.WF) {t:T} (ht:LitB t):I64 (zlb S.look t).1:=by
 unfold zlb
 split
 ·exact LitB.ev (zrg h) _ ht
 ·exact zero_I64
theorem LitB.kidD {t:T} (h:LitB t) (i:Nat):LitB (Go.Proofs.YtmbbaccjcekhkaaGreat.kid t i):=by
 obtain⟨k,n,s,ks⟩:=t;unfold Go.Proofs.YtmbbaccjcekhkaaGreat.kid;rw[List.getD_eq_getElem?_getD];rcases hk:(T.nd k n s ks).ks[i]? with _|u
 ·intro v hv;have:v=nil0:=by simpa[nil0,po,pos] using hv
  subst this;exact⟨⟨by decide,by decide⟩,⟨by decide,by decide⟩,Nat.zero_le _⟩
 ·exact h.kid (List.mem_of_getElem? hk)
theorem LitB.block {t:T} (h:LitB t) {u:T} (hu:u∈t.ks):LitB u:=by
 obtain⟨k,n,s,ks⟩:=t;exact h.kid hu
section
variable {S:ST}
theorem zmg (h:S.WF) {s:ByteArray} {id:Nat} (hn:S.num s=some id):id<S.nc:=by
 obtain⟨kd,hw⟩:=h.cur;unfold ST.num at hn;obtain⟨i,-,h2⟩:=Option.bind_eq_some_iff.1 hn;exact hw.num id (List.mem_of_getElem? h2)
theorem zud (k x y:Int):I64 (updE k x y):=by
 unfold updE
 repeat' split
 all_goals first|exact zmS _|exact zql _
theorem zux (h:S.WF) (k:Int) {id:Nat} (i:Nat) {sid:Nat} (hid:id<S.nc) (hs:CurK S sid 3):(zmE S k id i sid).2.WF:=by
 have bI:=hs.lt h;have hc:=h.cells sid bI;unfold zmE
 split
 ·split
  ·exact h
  ·refine zm5 (zts h sid hs _ (by simp;omega) fun x hx=>?_) hid i 0 zero_I64;rcases List.mem_append.1 hx with hx|hx
   ·exact hc.2 x hx
   ·obtain rfl:=List.mem_singleton.1 hx;exact zmP h hid i
 ·split
  ·exact h
  ·split
   ·exact h
   ·refine zts (S:=S.put id i _) (zm5 h hid i _ (zmP h bI _)) sid hs _ (by rw[List.length_take];omega) fun x hx=>hc.2 x (List.mem_of_mem_take hx)
theorem zn2 (h:S.WF) (l m:List Int) (h1:l.length<=4096/\∀ x∈l,I64 x) (h2:m.length<=4096/\∀ x∈m,I64 x):({ S with tin:=l,tout:=m }:ST).WF:=⟨h.ex,h.ncalls,h.cells,h1,h2⟩
theorem zse (h:S.WF) (k:Int) {id:Nat} (i:Nat) (hid:id<S.nc):(zlf S k id i).2.WF:=by
 unfold zlf;have h1:=h.tin;have h2:=h.tout
 split
 ·split
  ·exact h
  ·rename_i y r he
   split
   ·exact h
   ·rw[he] at h1;exact zm5 (S:={ S with tin:=r }) (zn2 h r S.tout ⟨by have:=h1.1;simp at this;omega,fun x hx=>h1.2 x (List.mem_cons_of_mem _ hx)⟩ h2) hid i y (h1.2 y (List.mem_cons_self ..))
 ·split
  ·split
   ·exact h
   ·split
    ·exact h
    ·refine zm5 (S:={ S with tout:=S.tout.dropLast }) (zn2 h S.tin S.tout.dropLast h1 ⟨by have:=h2.1;simp;omega,fun x hx=>h2.2 x (List.dropLast_subset _ hx)⟩) hid i _ ?_
     cases hl:S.tout.getLast? with
     | none=>exact zero_I64
     | some x=>exact h2.2 x (List.mem_of_getLast? hl)
  ·split
   ·split
    ·exact h
    ·refine zm5 (S:={ S with tin:=S.el id i::S.tin }) (zn2 h _ S.tout ⟨by simp;omega,fun x hx=>?_⟩ h2) hid i 0 zero_I64;rcases List.mem_cons.1 hx with rfl|hx
     ·exact zmP h hid i
     ·exact h1.2 x hx
   ·split
    ·exact h
    ·refine zm5 (S:={ S with tout:=S.tout++[S.el id i] }) (zn2 h S.tin _ h1 ⟨by simp;omega,fun x hx=>?_⟩) hid i 0 zero_I64;rcases List.mem_append.1 hx with hx|hx
     ·exact h2.2 x hx
     ·obtain rfl:=List.mem_singleton.1 hx;exact zmP h hid i
theorem zqq (h:S.WF) {k n:Int} {s:ByteArray} {ks:List T} (hf:fltE S.cur.vs (.nd k n s ks)=0) (hk:k=44\/k=45):∃ sid,S.num s=some sid/\CurK S sid 3:=by
 have hn:zna k=3:=by rcases hk with rfl|rfl<;>rfl
 obtain⟨u,h4,h5⟩:=zk6 (zlk hf).1 (by rw[hn];decide);obtain⟨sid,h6,h7⟩:=zpR h h4;exact⟨sid,h6,by rw[h5,hn] at h7;exact h7⟩
theorem zo6 (h:S.WF) (t:T):(doE S t).2.WF:=by
 unfold doE
 split
 ·exact h
 split
 ·exact h
 split
 ·exact h
 split
 ·exact h
 rename_i h1 h2 h3 h4;have hf:fltE S.cur.vs t=0:=by simpa using h4
 obtain⟨k,n,s,ks⟩:=t
 show(zkQ S k s (ks.getD 0 nil0) (ks.getD 1 nil0) (indE S.look (ks.getD 0 nil0)) (zlO S k (ks.getD 1 nil0))).2.WF
 unfold zkQ
 split
 ·exact h
 unfold zlU
 split
 ·exact h
 cases h5:S.num (ks.getD 0 nil0).s with
 | none=>exact h
 | some id =>
  have hid:=zmg h h5;dsimp only
  split
  ·unfold zlC
   split
   ·exact zm5 h hid _ _ (zud _ _ _)
   ·split
    ·cases h6:S.num (ks.getD 1 nil0).s with
     | none=>exact h
     | some jd =>
      have hjd:=zmg h h6;dsimp only
      split
      ·exact zm5 (zm5 h hid _ _ (zmP h hjd _)) hjd _ _ (zmP h hid _)
      ·exact h
    ·split
     ·rename_i hk;obtain⟨sid,h6,h7⟩:=zqq h hf hk;rw[h6];exact zux h _ _ hid h7
     ·exact zse h _ _ hid
  ·exact h
theorem zuf (h:S.WF) (t:T):(zng S t).2.WF:=by
 obtain⟨k,n,s,ks⟩:=t;exact zo6 h _
theorem zpi (h:S.WF) (v:VD) (hv:FldV v) (x:Int) (hx:I64 x) (hl:S.cur.vs.length+1<=4398046511000):(zli S v x).2.WF:=by
 unfold zli
 split
 ·exact h
 ·rename_i hk;have hk:=Decidable.not_not.1 hk
  split
  ·exact h
  ·refine zqM h v hv _ ?_ ?_ ⟨fun e=>by rw[if_pos e];rfl,fun e=>by omega,by omega⟩ hl
   ·split<;>simp
   ·split
    ·intro y hy;obtain rfl:=List.mem_singleton.1 hy;exact hx
    ·intro y hy;cases hy
theorem zp7 (h:S.WF) (s:ByteArray) (x:Int):(zkL S s x).2.WF:=by
 unfold zkL
 split
 ·exact h
 ·split
  ·exact h
  ·exact zow h _ fun kd hw=>ztu hw
theorem zp4 (h:S.WF) (ps:List VD) (ss:List ByteArray) (hf:∀ v∈ps,FldV v) (hl:ps.length<=4398046511000):(zlh S ps ss).2.WF:=by
 unfold zlh
 split
 ·exact h
 ·cases he:entL S.cur ⟨[],[],0⟩ (ps.zip ss) with
  | error e=>exact h
  | ok f =>
   unfold entR;dsimp only
   split
   ·exact h
   ·exact(zry h ps ss f hf hl he (by omega)).1
theorem zpU (h:S.WF):(zlt S).2.WF:=by
 unfold zlt
 split
 ·exact h
 ·exact zrx h
end
section
variable {o:Out} {f:RS->Out} {r r':RS} {F:Int} {t:T}
theorem zk8 (h:o.bind f=.ok r'):∃ r1,o=.ok r1/\f r1=.ok r':=by
 cases o with
 | gas=>cases h
 | err e=>cases h
 | ok r1=>exact⟨r1,rfl,h⟩
theorem zl6 {R:Int×ST} (h:zki r R=.ok r'):R.1=0/\r'={ r with S:=R.2 }:=by
 unfold zki at h
 split at h
 ·cases h
 ·rename_i h0;injection h with h;exact⟨by simpa using h0,h.symm⟩
theorem zqn {f:Int->RS->Out} (h:valO t r f=.ok r'):(zlb r.S.look t).2=0/\f (zlb r.S.look t).1 r=.ok r':=by
 unfold valO at h
 split at h
 ·cases h
 ·rename_i h0;exact⟨by simpa using h0,h⟩
theorem zok {f:Bool->RS->Out} (h:zkG F t r f=.ok r'):(r.n:Int)<F/\(zlb r.S.look t).2=0/\f (decide ((zlb r.S.look t).1≠0)) { r with n:=r.n+1 }=.ok r':=by
 unfold zkG at h;obtain⟨r1,h1,h2⟩:=zk8 h;obtain⟨rfl,h3⟩:=zkY h1;obtain⟨h4,h5⟩:=zqn h2;exact⟨h3,h4,h5⟩
theorem znf {b:Bool} (h:zkx F t b r=.ok r'):(r.n:Int)<F/\(zlb r.S.look t).2=0/\decide ((zlb r.S.look t).1≠0)=b/\r'={ r with n:=r.n+1 }:=by
 unfold zkx at h;obtain⟨h1,h2,h3⟩:=zok h
 split at h3
 ·rename_i hb;injection h3 with h3;exact⟨h1,h2,hb,h3.symm⟩
 ·cases h3
end
structure RInv (r:RS):Prop where
 wf:r.S.WF
 fb:FB r.n r.S
 n:r.n<=1000000
structure Keep (r r':RS):Prop where
 base:r'.S.base=r.S.base
 calls:r'.S.calls=r.S.calls
 nc:r.S.nc<=r'.S.nc
section
variable {r r1 r':RS} {F:Int}
theorem Keep.refl (r:RS):Keep r r:=⟨rfl,rfl,Nat.le_refl _⟩
theorem Keep.trans (h:Keep r r1) (h':Keep r1 r'):Keep r r':=⟨h'.base.trans h.base,h'.calls.trans h.calls,Nat.le_trans h.nc h'.nc⟩
theorem Keep.cur (h:Keep r r'):r'.S.cur=r.S.cur:=by unfold ST.cur;rw[h.base,h.calls]
theorem RInv.tick (h:RInv r) (hF:F<=1000000) (hn:(r.n:Int)<F):RInv { r with n:=r.n+1 }:=⟨h.wf,h.fb.mono (Nat.le_succ _),by simp only;omega⟩
theorem zo5 {S:ST} (t:T):(doE S t).2.base=S.base/\(doE S t).2.calls=S.calls/\(doE S t).2.nc=S.nc:=by
 obtain⟨h1,h2,h3⟩:=ztd S t;exact⟨h1,h2,h3⟩
theorem zpG {S:ST} (t:T):(zng S t).2.base=S.base/\(zng S t).2.calls=S.calls/\(zng S t).2.nc=S.nc:=by
 obtain⟨k,n,s,ks⟩:=t;exact zo5 _
theorem zpd {f:FR} (hf:f.cs.length=f.vs.length) (v:VD) (id:Nat):(f.push v id).pop=f:=by
 obtain⟨vs,cs,loc⟩:=f;simp only at hf;simp[FR.push,FR.pop,hf]
theorem zlc (S:ST) (f:FR):(S.setCur f).cur=f:=by
 unfold ST.setCur;by_cases h0:S.calls.length=0
 ·rw[if_pos h0];exact zmQ (S:={ S with base:=f }) h0
 ·rw[if_neg h0,zm3 (by simp;omega)];simp
theorem zqt (S:ST):S.setCur S.cur=S:=by
 unfold ST.setCur;by_cases h0:S.calls.length=0
 ·rw[if_pos h0,zmQ h0]
 ·rw[if_neg h0,zm3 (by omega)];simp
theorem zms {f:T->RS->Out}:∀ (l:List T) (r r':RS),(∀ t∈l,∀ r r',RInv r->f t r=.ok r'->RInv r'/\Keep r r')->RInv r->zk9 f l r=.ok r'->RInv r'/\Keep r r'
 | [],r,r',_,hr,h=>by
  injection h with h;subst h;exact⟨hr,Keep.refl _⟩
 | t::ts,r,r',hf,hr,h=>by
  rw[zk9] at h;obtain⟨r1,h1,h2⟩:=zk8 h;obtain⟨a1,a2⟩:=hf t (List.mem_cons_self ..) r r1 hr h1;obtain⟨b1,b2⟩:=zms ts r1 r' (fun u hu=>hf u (List.mem_cons_of_mem _ hu)) a1 h2;exact⟨b1,a2.trans b2⟩
theorem zoO (hF:F<=1000000) {f:T->RS->Out} {entry test:T} {l1 l2:List T} (h1:∀ t∈l1,∀ r r',RInv r->f t r=.ok r'->RInv r'/\Keep r r') (h2:∀ t∈l2,∀ r r',RInv r->f t r=.ok r'->RInv r'/\Keep r r') :
  ∀ (m:Nat) (r r':RS),RInv r->zml F f entry test l1 l2 m r=.ok r'->RInv r'/\Keep r r'
 | 0,_,_,_,h=>by cases h
 | m+1,r,r',hr,h=>by
  rw[zml] at h;obtain⟨ra,ha,h⟩:=zk8 h;obtain⟨a1,a2⟩:=zms l1 r ra h1 hr ha;obtain⟨hn,-,h⟩:=zok h;have t1:=a1.tick hF hn;have k1:Keep r { ra with n:=ra.n+1 }:=⟨a2.base,a2.calls,a2.nc⟩
  split at h
  ·injection h with h;subst h;exact⟨t1,k1⟩
  ·obtain⟨rb,hb,h⟩:=zk8 h;obtain⟨b1,b2⟩:=zms l2 _ rb h2 t1 hb;obtain⟨rc,hc,h⟩:=zk8 h;obtain⟨hn2,-,-,rfl⟩:=znf hc;have t2:=b1.tick hF hn2;obtain⟨c1,c2⟩:=zoO hF h1 h2 m _ r' t2 h;exact⟨c1,(k1.trans b2).trans ⟨c2.base,c2.calls,c2.nc⟩⟩
def PrB (prs:List PR):Prop:=∀ q∈prs,LitB q.b/\(∀ v∈q.ps,FldV v)/\q.ps.length<=1000
theorem PrB.getD {prs:List PR} (h:PrB prs) (i:Nat):LitB (prs.getD i ⟨⟨#[]⟩,[],nil0⟩).b/\(∀ v∈(prs.getD i ⟨⟨#[]⟩,[],nil0⟩).ps,FldV v)/\(prs.getD i ⟨⟨#[]⟩,[],nil0⟩).ps.length<=1000:=by
 rw[List.getD_eq_getElem?_getD];rcases hk:prs[i]? with _|q
 ·refine⟨fun v hv=>?_,by simp,by simp⟩;have:v=nil0:=by simpa[nil0,po,pos] using hv
  subst this;exact⟨⟨by decide,by decide⟩,⟨by decide,by decide⟩,Nat.zero_le _⟩
 ·exact h q (List.mem_of_getElem? hk)
theorem zps {t:T} (h:LitB t) (k:Int) (hk:k=1\/k=3):FldV ⟨t.s,k,0⟩:=⟨h.own.2.2,by simp only;omega,by simp only;omega⟩
theorem zut {S:ST} {v:VD} {x:Int} (h:(zli S v x).1=0):S.cur.at v.s=none/\(v.k=1\/v.k=3)/\(zli S v x).2=(S.newCell (if v.k=1 then [x] else [])).setCur (S.cur.push v S.nc):=by
 unfold zli at h ⊢
 split at h
 ·cases h
 ·rename_i h1
  split at h
  ·cases h
  ·rename_i h2;rw[if_neg h1,if_neg h2];exact⟨by simpa using h2,(Decidable.not_not.1 h1).1,rfl⟩
theorem zth {S:ST} {s:ByteArray} {x:Int} (h:(zkL S s x).1=0):0<S.cur.loc/\((zoF S.cur).s.toList==s.toList)=true/\((zoF S.cur).k=1->(S.cell (zpX S.cur)).getD 0 0=x)/\((zoF S.cur).k=3->S.cell (zpX S.cur)=[])/\(zkL S s x).2=S.setCur S.cur.pop:=by
 unfold zkL at h ⊢
 split at h
 ·cases h
 ·rename_i h1
  split at h
  ·cases h
  ·rename_i h2;rw[if_neg h1,if_neg h2];simp only[not_or,not_and,Decidable.not_not,Bool.not_eq_false] at h1 h2;refine⟨by omega,h1.2,h2.1,fun e=>?_,rfl⟩;exact List.length_eq_zero_iff.1 (by have:=h2.2 e;omega)
theorem zta {S:ST} {ps:List VD} {ss:List ByteArray} (h:(zlh S ps ss).1=0):∃ f,ps.length=ss.length/\entL S.cur ⟨[],[],0⟩ (ps.zip ss)=.ok f/\S.calls.length<100/\(zlh S ps ss).2={ S with calls:=S.calls++[f] }:=by
 unfold zlh at h ⊢
 split at h
 ·cases h
 ·rename_i h1;rw[if_neg h1]
  cases he:entL S.cur ⟨[],[],0⟩ (ps.zip ss) with
  | error e=>rw[he] at h;exact absurd h (zrr _ _ _ he)
  | ok f =>
   rw[he] at h;unfold entR at h ⊢;dsimp only at h ⊢
   split at h
   ·cases h
   ·rename_i h2;rw[if_neg h2];exact⟨f,Decidable.not_not.1 h1,rfl,by omega,rfl⟩
theorem zsE {S:ST} (h:(zlt S).1=0):0<S.calls.length/\(zlt S).2={ S with calls:=S.calls.take (S.calls.length-1) }:=by
 unfold zlt at h ⊢
 split at h
 ·cases h
 ·rename_i h1;rw[if_neg h1];exact⟨by omega,rfl⟩
theorem RInv.store {R:Int×ST} (h:RInv r) (hF:F<=1000000) (hn:(r.n:Int)<F) (hw:R.2.WF) (hf:FB (r.n+1) R.2):RInv { r with n:=r.n+1,S:=R.2 }:=⟨hw,hf,by simp only;omega⟩
theorem zoR {S S2:ST} {v:VD} {x y:Int} {s:ByteArray} (hc:S.cur.cs.length=S.cur.vs.length) (h1:(zli S v x).1=0) (hb:S2.base=(zli S v x).2.base) (hcl:S2.calls=(zli S v x).2.calls) (hn:(zli S v x).2.nc<=S2.nc) (h2:(zkL S2 s y).1=0) :
  (zkL S2 s y).2.base=S.base/\(zkL S2 s y).2.calls=S.calls/\S.nc<=(zkL S2 s y).2.nc:=by
 obtain⟨-,-,e1⟩:=zut h1;obtain⟨-,-,-,-,e2⟩:=zth h2;rw[e1] at hb hcl hn;rw[e2];have dO:S2.cur=S.cur.push v S.nc:=by
  obtain⟨S3,oQ⟩:∃ S3,(S.newCell (if v.k=1 then [x] else [])).setCur (S.cur.push v S.nc)=S3:=⟨_,rfl⟩
  rw[oQ] at hb hcl;have:S2.cur=S3.cur:=by unfold ST.cur;rw[hb,hcl]
  rw[this,<-oQ,zlc]
 rw[dO,zpd hc];have hs:=zqt S;unfold ST.setCur at hb hcl hn hs ⊢;by_cases h0:S.calls.length=0
 ·rw[if_pos (show(S.newCell _).calls.length=0 from h0)] at hb hcl hn;rw[if_pos h0] at hs;rw[if_pos (by rw[hcl];exact h0)];exact⟨by rw[zmQ h0],hcl,by simp only[ST.newCell] at hn;simp only;omega⟩
 ·rw[if_neg (show ¬ (S.newCell _).calls.length=0 from h0)] at hb hcl hn;rw[if_neg h0] at hs;have hl:S2.calls.length=S.calls.length:=by rw[hcl];simp[ST.newCell]
  rw[if_neg (by omega)];refine⟨hb,?_,by simp only[ST.newCell] at hn;simp only;omega⟩;simp only[hl];rw[hcl];simp only[ST.newCell,List.set_set];have:=congrArg ST.calls hs;exact this
end
theorem zl4 {prs:List PR} {F:Int} (hF:F<=1000000) (hp:PrB prs):∀ (g:Nat) (back:Bool) (t:T) (r r':RS),LitB t->RInv r->zkr prs F g back t r=.ok r'->RInv r'/\Keep r r'
 | 0,_,_,_,_,_,_,h=>by cases h
 | g+1,back,t,r,r',ht,hr,h=>by
  have hb:∀ back (b:T),LitB b->∀ r r',RInv r->zk9 (zkr prs F g back) (blkL back b) r=.ok r'->RInv r'/\Keep r r':=fun back b hb r r' hr h =>
   zms _ r r' (fun u hu r r' hr h=>zl4 hF hp g back u r r' (hb.block (zls hu)) hr h) hr h
  have pV:LitB (fstT back t):=by unfold fstT;split<;>exact ht.kidD _
  rw[zkr] at h
  split at h
  ·obtain⟨hn,-,h⟩:=zok h;obtain⟨r1,h1,h⟩:=zk8 h;obtain⟨a1,a2⟩:=hb back _ (by split<;>exact ht.kidD _) _ r1 (hr.tick hF hn) h1;obtain⟨hn2,-,-,rfl⟩:=znf h;exact⟨a1.tick hF hn2,⟨a2.base,a2.calls,a2.nc⟩⟩
  split at h
  ·obtain⟨r1,h1,h⟩:=zk8 h;obtain⟨hn,-,-,rfl⟩:=znf h1;obtain⟨a1,a2⟩:=zoO hF (fun u hu r r' hr h=>zl4 hF hp g back u r r' ((ht.kidD 1).block (zls hu)) hr h) (fun u hu r r' hr h=>zl4 hF hp g back u r r' ((ht.kidD 2).block (zls hu)) hr h) g _ r' (hr.tick hF hn) h;exact⟨a1,⟨a2.base,a2.calls,a2.nc⟩⟩
  split at h
  ·obtain⟨r1,h1,h⟩:=zk8 h;obtain⟨rfl,hn⟩:=zkY h1;obtain⟨-,h⟩:=zqn h;obtain⟨r2,h2,h⟩:=zk8 h;obtain⟨e0,rfl⟩:=zl6 h2;obtain⟨r3,h3,h⟩:=zk8 h;obtain⟨a1,a2⟩:=hb back _ (ht.kidD 1) _ r3 (RInv.store hr hF hn (zpi hr.wf _ (zps ht 1 (.inl rfl)) _ (LitB.expr hr.wf pV) (by have:=hr.fb.cur;have:=hr.n;omega)) (hr.fb.open_ _ _)) h3;obtain⟨r4,h4,h⟩:=zk8 h;obtain⟨rfl,hn2⟩:=zkY h4;obtain⟨-,h⟩:=zqn h;obtain⟨e1,rfl⟩:=zl6 h;obtain⟨kd,hw⟩:=hr.wf.cur;obtain⟨k1,k2,k3⟩:=zoR hw.len e0 a2.base a2.calls a2.nc e1;exact⟨RInv.store a1 hF hn2 (zp7 a1.wf _ _) (a1.fb.close_ _ _),⟨k1,k2,k3⟩⟩
  split at h
  ·obtain⟨r1,h1,h⟩:=zk8 h;obtain⟨rfl,hn⟩:=zkY h1;obtain⟨r2,h2,h⟩:=zk8 h;obtain⟨e0,rfl⟩:=zl6 h2;obtain⟨r3,h3,h⟩:=zk8 h;obtain⟨a1,a2⟩:=hb back _ (ht.kidD 0) _ r3 (RInv.store hr hF hn (zpi hr.wf _ (zps ht 3 (.inr rfl)) _ zero_I64 (by have:=hr.fb.cur;have:=hr.n;omega)) (hr.fb.open_ _ _)) h3;obtain⟨r4,h4,h⟩:=zk8 h;obtain⟨rfl,hn2⟩:=zkY h4;obtain⟨e1,rfl⟩:=zl6 h;obtain⟨kd,hw⟩:=hr.wf.cur;obtain⟨k1,k2,k3⟩:=zoR hw.len e0 a2.base a2.calls a2.nc e1;exact⟨RInv.store a1 hF hn2 (zp7 a1.wf _ _) (a1.fb.close_ _ _),⟨k1,k2,k3⟩⟩
  split at h
  ·split at h
   ·cases h
   ·rename_i i hi;obtain⟨q1,q2,q3⟩:=hp.getD i;obtain⟨r1,h1,h⟩:=zk8 h;obtain⟨rfl,hn⟩:=zkY h1;obtain⟨r2,h2,h⟩:=zk8 h;obtain⟨e0,rfl⟩:=zl6 h2;obtain⟨r3,h3,h⟩:=zk8 h;have i1:=RInv.store hr hF hn (zp4 hr.wf _ (t.ks.map (·.s)) q2 (by omega)) (hr.fb.enter _ _ q3);have h12:=fun hI=>hb _ _ q1 _ r3 hI h3;obtain⟨a1,a2⟩:=h12 ⟨i1.wf,i1.fb,i1.n⟩;obtain⟨r4,h4,h⟩:=zk8 h;obtain⟨rfl,hn2⟩:=zkY h4;obtain⟨e1,rfl⟩:=zl6 h;obtain⟨f,-,-,-,ef⟩:=zta e0;obtain⟨-,el⟩:=zsE e1;have hbs:=a2.base;have hcs:=a2.calls;have hnc:=a2.nc;simp only at hbs hcs hnc;rw[ef] at hbs hcs hnc;refine⟨RInv.store a1 hF hn2 (zpU a1.wf) a1.fb.leave,⟨?_,?_,?_⟩⟩
    ·simp only;rw[el];exact hbs
    ·simp only;rw[el];simp only;rw[hcs];simp
    ·simp only;rw[el];exact hnc
  ·obtain⟨r1,h1,h⟩:=zk8 h;obtain⟨rfl,hn⟩:=zkY h1;obtain⟨e0,rfl⟩:=zl6 h
   cases back
   ·obtain⟨k1,k2,k3⟩:=zo5 (S:=r.S) t;exact⟨RInv.store hr hF hn (zo6 hr.wf t) (hr.fb.do_ t),⟨k1,k2,Nat.le_of_eq k3.symm⟩⟩
   ·obtain⟨k1,k2,k3⟩:=zpG (S:=r.S) t;exact⟨RInv.store hr hF hn (zuf hr.wf t) (hr.fb.undo t),⟨k1,k2,Nat.le_of_eq k3.symm⟩⟩
theorem zn8 {prs:List PR} {F:Int} (hF:F<=1000000) (hp:PrB prs) (g:Nat) (back:Bool) (b:T) (r r':RS) (hb:LitB b) (hr:RInv r) (h:runO prs F g back b r=.ok r'):RInv r'/\Keep r r' :=
 zms _ r r' (fun u hu r r' hr h=>zl4 hF hp g back u r r' (hb.block (zls hu)) hr h) hr h
def Flat (t:T):Prop:=∀ u∈po t,¬ (50<=u.k/\u.k<=55)
theorem Flat.kid {k n:Int} {s:ByteArray} {ks:List T} (h:Flat (.nd k n s ks)) {t:T} (ht:t∈ks):Flat t:=fun u hu=>h u (by simp only[po,List.mem_cons];exact .inr (zl9.2 ⟨t,ht,hu⟩))
theorem Flat.expr {t:T} (h:isE t=true):Flat t:=fun u hu hk=>by
 have:=zsL u (zsK t h u hu);omega
theorem zwb {prs:List PR} {k:Int} {s:ByteArray} {l:Nat} {vs:List VD} (hk:¬ (50<=k/\k<=55)):zll prs k s l vs=ownE vs k s:=by
 unfold zll ownE zna useE;by_cases h2:k=2
 ·simp[h2];cases zkA vs s<;>rfl
 by_cases h3:k=3
 ·simp[h3];cases zkA vs s<;>rfl
 by_cases h4:k=4\/k=5\/k=44\/k=45
 ·simp[h2,h3,h4];cases zkA vs s<;>rfl
 ·rw[if_neg h2,if_neg h3,if_neg h4,if_neg (by omega),if_neg (by omega),if_neg h2,if_neg h3,if_neg h4];rfl
theorem zoT {k:Int} (hk:¬ (50<=k/\k<=55)) (s:ByteArray) (i:Nat) (vs:List VD):zly k s i vs=vs:=by
 unfold zly;rw[if_neg (by omega),if_neg (by omega)]
theorem zpZ {vs:List VD}:∀ {ks:List T},(∀ t∈ks,fltE vs t=0)->zlH vs ks=0
 | [],_=>rfl
 | t::ts,h=>by
  rw[zlH,if_neg (by simpa using h t (List.mem_cons_self ..))];exact zpZ fun u hu=>h u (List.mem_cons_of_mem _ hu)
theorem zm0 {prs:List PR} {k:Int} {s:ByteArray} {vs:List VD}:∀ {ks:List T} {i:Nat},cntK prs k s i ks vs=0->∀ j (h:j<ks.length),cntV prs ks[j] (zly k s (i+j) vs)=0
 | u::us,i,h,0,_=>by
  rw[cntK] at h;exact(Nat.add_eq_zero_iff.1 h).1
 | u::us,i,h,j+1,hj=>by
  rw[cntK] at h;have:=zm0 (Nat.add_eq_zero_iff.1 h).2 j (by simpa using hj);rw[show i+1+j=i+(j+1) by omega] at this;exact this
theorem zoV:∀ (t:T) (prs:List PR) (vs:List VD),Flat t->cntV prs t vs=0->fltE vs t=0:=by
 intro t
 induction t using T.ind with
 | _ k n s ks ih =>
  intro prs vs hf h;have hk:¬ (50<=k/\k<=55):=hf (.nd k n s ks) (by simp[po]);rw[cntV,if_neg (by omega)] at h;obtain⟨h1,h2⟩:=Nat.add_eq_zero_iff.1 h;have h1:=zmo h1;rw[zwb hk] at h1;rw[fltE,if_neg (by simpa using h1)];refine zpZ fun u hu=>?_;obtain⟨j,hj,rfl⟩:=List.getElem_of_mem hu;have h3:=zm0 h2 j hj;rw[zoT hk] at h3;exact ih _ (List.getElem_mem hj) prs vs (hf.kid (List.getElem_mem hj)) h3
def QP (prs:List PR):Prop:=∀ q∈prs,isB q.b=true/\cntV prs q.b q.ps=0/\frsN q.ps q.ps.length=0
structure SP (prs:List PR) (vs:List VD) (t:T):Prop where
 s:isS t=true
 c:cntV prs t vs=0
 q:QP prs
structure EP (vs:List VD) (t:T):Prop where
 e:isE t=true
 f:fltE vs t=0
theorem EP.of {prs:List PR} {vs:List VD} {t:T} (he:isE t=true) (hc:cntV prs t vs=0):EP vs t:=⟨he,zoV t prs vs (Flat.expr he) hc⟩
theorem zu8 {prs:List PR} {vs:List VD} {b:T} (hb:isB b=true) (hc:cntV prs b vs=0) (hq:QP prs):∀ u∈b.ks,SP prs vs u:=by
 obtain⟨k,n,s,ks⟩:=b;intro u hu;obtain⟨h57,hks⟩:=zpp _ _ _ _ hb;have h57:k=57:=h57;rw[cntV,if_neg (by omega)] at hc;obtain⟨j,hj,rfl⟩:=List.getElem_of_mem hu;have hj':j<ks.length:=hj;have h3:=zm0 (Nat.add_eq_zero_iff.1 hc).2 j hj';rw[zoT (by omega)] at h3;exact⟨hks _ hu,h3,hq⟩
theorem SP.two {prs:List PR} {vs:List VD} {t:T} (h:SP prs vs t) (hk:t.k=52\/t.k=53) :
  ∃ n s a b c d,t=.nd t.k n s [a,b,c,d]/\EP vs a/\EP vs d/\isB b=true/\isB c=true/\cntV prs b vs=0/\cntV prs c vs=0:=by
 obtain⟨k,n,s,ks⟩:=t;simp only[T.k_nd] at hk ⊢;obtain⟨hs,hc,hq⟩:=h;rcases zlS hs with⟨h1,_⟩|⟨_,_,a,b,c,d,rfl,h1,h2,h3,h4⟩|⟨h1,_⟩|⟨h1,_⟩
 ·omega
 ·rw[cntV,if_neg (by omega)] at hc;have h5:=fun j hj=>zm0 (Nat.add_eq_zero_iff.1 hc).2 j hj;have hi:∀ i,zly k s i vs=vs:=fun i=>by unfold zly;rw[if_neg (by omega),if_neg (by omega)]
  simp only[hi] at h5;exact⟨n,s,a,b,c,d,rfl,EP.of h1 (h5 0 (by simp)),EP.of h4 (h5 3 (by simp)),h2,h3,h5 1 (by simp),h5 2 (by simp)⟩
 ·omega
 ·omega
theorem zwv (f:FR) (s:ByteArray) (h:zkA f.vs s=none):f.at s=none:=by
 rw[zno] at h
 cases hf:f.at s with
 | none=>rfl
 | some i =>
  rw[hf] at h;have:=FR.at_lt hf;simp only[Option.bind_some,List.getElem?_eq_none_iff] at h;omega
theorem SP.loc {prs:List PR} {vs:List VD} {t:T} (h:SP prs vs t) (hk:t.k=54) :
  ∃ n s a b c,t=.nd 54 n s [a,b,c]/\EP vs a/\EP vs c/\isB b=true/\cntV prs b (vs++[⟨s,1,0⟩])=0/\zkA vs s=none:=by
 obtain⟨k,n,s,ks⟩:=t;simp only[T.k_nd] at hk;subst hk;obtain⟨hs,hc,hq⟩:=h;rcases zlS hs with⟨h1,_⟩|⟨h1,_⟩|⟨_,_,a,b,c,rfl,h1,h2,h3⟩|⟨h1,_⟩
 ·omega
 ·omega
 ·rw[cntV,if_neg (by omega)] at hc;have h0:=zmo (Nat.add_eq_zero_iff.1 hc).1;have h5:=fun j hj=>zm0 (Nat.add_eq_zero_iff.1 hc).2 j hj;have hf:zkA vs s=none:=by
   simp only[zll,zmp] at h0
   cases hv:zkA vs s with
   | none=>rfl
   | some v=>rw[hv] at h0;simp at h0
  exact⟨n,s,a,b,c,rfl,EP.of h1 (by simpa[zly] using h5 0 (by simp)),EP.of h3 (by simpa[zly] using h5 2 (by simp)),h2,by simpa[zly] using h5 1 (by simp),hf⟩
 ·omega
theorem SP.stk {prs:List PR} {vs:List VD} {t:T} (h:SP prs vs t) (hk:t.k=55) :
  ∃ n s b,t=.nd 55 n s [b]/\isB b=true/\cntV prs b (vs++[⟨s,3,0⟩])=0/\zkA vs s=none:=by
 obtain⟨k,n,s,ks⟩:=t;simp only[T.k_nd] at hk;subst hk;obtain⟨hs,hc,hq⟩:=h;rcases zlS hs with⟨h1,_⟩|⟨h1,_⟩|⟨h1,_⟩|⟨_,_,b,rfl,h2⟩
 ·omega
 ·omega
 ·omega
 ·rw[cntV,if_neg (by omega)] at hc;have h0:=zmo (Nat.add_eq_zero_iff.1 hc).1;have h5:=fun j hj=>zm0 (Nat.add_eq_zero_iff.1 hc).2 j hj;have hf:zkA vs s=none:=by
   simp only[zll,zmp] at h0
   cases hv:zkA vs s with
   | none=>rfl
   | some v=>rw[hv] at h0;simp at h0
  exact⟨n,s,b,rfl,h2,by simpa[zly] using h5 0 (by simp),hf⟩
theorem zrs {prs:List PR} {s:ByteArray} {l:Nat} {vs:List VD}:∀ {ks:List T} {i:Nat},cntA prs s l i ks vs=0->∀ j (h:j<ks.length),argE prs s l (i+j) ks[j].s vs=0
 | u::us,i,h,0,_=>by
  rw[cntA] at h;exact zmo (Nat.add_eq_zero_iff.1 h).1
 | u::us,i,h,j+1,hj=>by
  rw[cntA] at h;have:=zrs (Nat.add_eq_zero_iff.1 h).2 j (by simpa using hj);rw[show i+1+j=i+(j+1) by omega] at this;exact this
theorem SP.cal {prs:List PR} {vs:List VD} {t:T} (h:SP prs vs t) (hk:t.k=50\/t.k=51) :
  ∃ i,prcI prs t.s=some i/\∃ hi:i<prs.length,t.ks.length=prs[i].ps.length/\t.ks.length<=8/\∀ j (hj:j<t.ks.length) (hp:j<prs[i].ps.length),∃ v,zkA vs t.ks[j].s=some v/\v.k=prs[i].ps[j].k/\v.n=prs[i].ps[j].n:=by
 obtain⟨k,n,s,ks⟩:=t;simp only[T.k_nd,T.s_nd,T.ks_nd] at hk ⊢;obtain⟨hs,hc,hq⟩:=h;rw[cntV,if_pos hk] at hc;have h0:=zmo (Nat.add_eq_zero_iff.1 hc).1;unfold zll at h0;rw[if_neg (by omega),if_neg (by omega),if_neg (by omega),if_neg (by omega),if_pos hk] at h0;have kZ:ks.length<=8:=by
  rw[isS,if_neg (by omega),if_neg (by omega),if_neg (by omega),if_neg (by omega),if_pos hk] at hs;simp only[Bool.and_eq_true,decide_eq_true_eq] at hs;exact hs.1.2
 rw[zpe]
 cases hi:idxP prs s with
 | none=>rw[hi] at h0;simp at h0
 | some i =>
  have hpi:prcI prs s=some i:=by rw[zpe];exact hi
  obtain⟨-,hlt⟩:=znU _ _ _ hpi;simp only[hi,List.getElem?_eq_getElem hlt] at h0;have hl:ks.length=prs[i].ps.length:=by
   by_cases e:ks.length=prs[i].ps.length
   ·exact e
   ·rw[if_neg e] at h0;cases h0
  refine⟨i,rfl,hlt,hl,kZ,fun j hj hp=>?_⟩;have h5:=zrs (Nat.add_eq_zero_iff.1 hc).2 j hj;rw[Nat.zero_add] at h5;unfold argE at h5
  cases hv:zkA vs ks[j].s with
  | none=>rw[hv] at h5;cases h5
  | some v =>
   rw[hv,hi] at h5;simp only[List.getElem?_eq_getElem hlt,if_pos hl,List.getElem?_eq_getElem hp] at h5;refine⟨v,rfl,?_⟩
   split at h5
   ·assumption
   ·cases h5
theorem SP.bas {prs:List PR} {vs:List VD} {t:T} (h:SP prs vs t) (hk:¬ (50<=t.k/\t.k<=55)):fltE vs t=0:=by
 obtain⟨k,n,s,ks⟩:=t;obtain⟨hs,hc,hq⟩:=h;simp only[T.k_nd] at hk;refine zoV _ prs vs (fun u hu=>?_) hc;simp only[po,List.mem_cons] at hu;rcases hu with rfl|hu
 ·exact hk
 ·obtain⟨t,ht,hx⟩:=zl9.1 hu;rcases zlS hs with⟨_,h1⟩|⟨h1,_⟩|⟨h1,_⟩|⟨h1,_⟩
  ·rcases(zsJ hs).2 t ht with h2|h2
   ·exact Flat.expr h2 u hx
   ·exact absurd (zwi h2) (h1 t ht)
  all_goals omega
theorem zs7 {look look':ByteArray->Option (List Int)} {vs:List VD} (hl:∀ s v,zkA vs s=some v->look s=look' s):∀ (t:T),EP vs t->evE look t=evE look' t:=by
 intro t
 induction t using T.ind with
 | _ k n s ks ih =>
  rintro⟨he,hf⟩;obtain⟨h1,h2⟩:=zlk hf;have hk:∀ u∈ks,evE look u=evE look' u:=fun u hu=>ih u hu ⟨zrl he u hu,zk4 h2 u hu⟩;rw[evE,evE,zmA,zmA,List.map_congr_left hk];unfold evK
  split
  ·rfl
  ·split
   ·rename_i h3;have:look s=look' s:=by
     by_cases hn:zna k=0
     ·unfold zna at hn
      exfalso
      rcases(show k=2\/k=3\/k=4\/k=5 by omega) with rfl|rfl|rfl|rfl<;>simp at hn
     ·obtain⟨v,h4,-⟩:=zk6 h1 hn;exact hl s v h4
    unfold varE;rw[this]
   ·rfl
theorem zpW (vs ws:List VD) (s:ByteArray):∀ j,j<=vs.length->zlB (vs++ws) s j=zlB vs s j
 | 0,_=>rfl
 | j+1,h=>by rw[zlB,zlB,List.getElem?_append_left (by omega),zpW vs ws s j (by omega)]
theorem zwM (f:FR) (v:VD) (id:Nat) (n:ByteArray):(f.push v id).at n=if (v.s.toList==n.toList)=true then some f.vs.length else f.at n:=by
 unfold FR.at FR.push;simp only[List.length_append,List.length_singleton];rw[zlB,List.getElem?_append_right (Nat.le_refl _),Nat.sub_self,zpW _ _ _ _ (Nat.le_refl _)];rfl
theorem zpV (vs:List VD) {s n:ByteArray} (h:s.toList=n.toList):∀ j,zlB vs s j=zlB vs n j
 | 0=>rfl
 | j+1=>by rw[zlB,zlB,zpV vs h j,h]
theorem zwu {f:FR} {n s:ByteArray} {u:VD} (h:zkA f.vs n=some u) (hs:zkA f.vs s=none):¬ (s.toList==n.toList)=true:=fun e=>by
 have e:s.toList=n.toList:=by simpa using e
 rw[zno] at h hs;unfold FR.at at h hs;rw[zpV f.vs e] at hs;rw[h] at hs
 cases hs
theorem zkD (S:ST) (f:FR):(S.setCur f).cell=S.cell/\(S.setCur f).nc=S.nc/\(S.setCur f).tin=S.tin/\(S.setCur f).tout=S.tout/\(S.setCur f).calls.length=S.calls.length:=by
 unfold ST.setCur
 split<;>simp
theorem zsy {S:ST} {f:FR} {v:VD} {id:Nat} (hc:S.cur=f.push v id) (hl:f.cs.length=f.vs.length) {n:ByteArray} {u:VD} (hu:zkA f.vs n=some u) (hv:zkA f.vs v.s=none):S.look n=(S.setCur f).look n:=by
 have h1:=zwu hu hv;have h2:S.num n=(S.setCur f).num n:=by
  unfold ST.num;rw[zlc,hc,zwM,if_neg h1]
  cases hf:f.at n with
  | none=>rfl
  | some i =>
   have:=FR.at_lt hf
   show(f.cs++[id])[i]?=f.cs[i]?
   rw[List.getElem?_append_left (by omega)]
 unfold ST.look;rw[h2,(zkD S f).1]
theorem ztb (f:FR):∀ (l:List (VD×ByteArray)) (acc:FR),acc.loc=0->(∀ p∈l,∃ w,zkA f.vs p.2=some w/\w.k=p.1.k/\w.n=p.1.n) ->
  entL f acc l=.ok ⟨acc.vs++l.map (·.1),acc.cs++l.map (fun p=>f.cs.getD ((f.at p.2).getD 0) 0),0⟩
 | [],acc,h0,_=>by
  rw[entL];obtain⟨vs,cs,loc⟩:=acc;have h0:loc=0:=h0;subst h0;simp
 | (v,a)::r,acc,h0,h=>by
  obtain⟨w,h1,h2,h3⟩:=h (v,a) (List.mem_cons_self ..);simp only at h1 h2 h3;rw[zno] at h1;rw[entL]
  cases hf:f.at a with
  | none=>rw[hf] at h1;cases h1
  | some i =>
   rw[hf] at h1;simp only[Option.bind_some] at h1;have hg:f.vs.getD i ⟨⟨#[]⟩,0,0⟩=w:=by rw[List.getD_eq_getElem?_getD,h1];rfl
   simp only[hg];rw[if_pos ⟨h2,h3⟩,ztb f r _ rfl fun p hp=>h p (List.mem_cons_of_mem _ hp)];simp[hf]
theorem zp6 {S:ST} {f:FR} {v:VD} {id:Nat} (hc:S.cur=f.push v id) (hl:f.cs.length=f.vs.length) (x:Int) :
  zkL S v.s x=if (v.k=1/\(S.cell id).getD 0 0≠x)\/(v.k=3/\0<(S.cell id).length) then (16,S) else (0,S.setCur f):=by
 have h1:zoF (f.push v id)=v:=by simp[zoF,FR.push,List.getD_eq_getElem?_getD]
 have h2:zpX (f.push v id)=id:=by simp[zpX,FR.push,List.getD_eq_getElem?_getD,<-hl]
 unfold zkL;rw[hc,h1,h2,if_neg (by simp[FR.push]),zpd hl]
theorem zrb {S:ST} {v:VD} (hk:v.k=1\/v.k=3) (hn:v.n=0) (hf:zkA S.cur.vs v.s=none) (x:Int):zli S v x=(0,(S.newCell (if v.k=1 then [x] else [])).setCur (S.cur.push v S.nc)):=by
 unfold zli;rw[if_neg (by simp[hk,hn]),zwv _ _ hf];rfl
inductive RX where
 | run|cnt|cel (i:Nat)|row (i:Nat)
 deriving DecidableEq
structure RP where
 rb:Nat
 cv:Value
 nm:Value
 cl:Value
 iv:Value
 ov:Value
 cb:Nat->Nat
 ci:Nat->Value
structure RK where
 w:World
 n0:Nat
 p:PG
 A1:Option Addr
 c1:Nat
 A2:Option Addr
 c2:Nat
 A3:Option Addr
 c3:Nat
 F:Int
structure RK.Ok (K:RK):Prop where
 pg:PgR K.w Any K.p K.A1 K.c1 K.A2 K.c2 K.A3 K.c3
 F6:K.F<=1000000
 F:I64 K.F
 n0:K.w.heap.size<=K.n0
 q:QP K.p.prs
 lit:PrB K.p.prs
 np:K.p.prs.length<=64
def RK.cells (K:RK) (P:RP) (r:RS) (er:Int):List Value:=[.slice K.A1 K.p.vs.length K.c1,.slice K.A2 K.p.prs.length K.c2,.int .u8 K.p.m.k,.int .i64 K.p.m.n,.string K.p.m.s,.slice K.A3 K.p.m.ks.length K.c3,P.nm,P.cl,P.iv,P.ov,.int .i64 K.F,.int .i64 r.n,.int .i64 r.S.calls.length,P.cv,.int .i64 er]
def zkg (K:RK) (P:RP) (r:RS) (er:Int):RX->RowD
 | .run=>⟨boxV P.rb,91,15,1,K.cells P r er⟩
 | .cnt=>⟨P.cv,3,1,r.ent.length,zke (r.ent.map Int.ofNat)⟩
 | .cel i=>if i<r.S.nc then ⟨boxV (P.cb i),94,1,1,[P.ci i]⟩ else nilR
 | .row i=>if i<r.S.nc then ⟨P.ci i,3,1,(r.S.cell i).length,zke (r.S.cell i)⟩ else nilR
def RowU (w:World) (S:Nat->Prop) (A:Option Addr) (us:List Value):Prop :=
 ∀ i (hi:i<us.length),∃ a:Addr,A=some a/\S a.block/\w.cell? (a.add i)=some us[i]
theorem RowU.keep {w w':World} {S S':Nat->Prop} {A:Option Addr} {us:List Value} (h:RowU w S A us) (hS:∀ b,S b->b<w.heap.size->S' b) (hk:∀ b,S b->b<w.heap.size->w'.heap[b]?=w.heap[b]?):RowU w' S' A us:=fun i hi=>by
 obtain⟨a,hA,jl,h0⟩:=h i hi;have hlt:a.block<w.heap.size:=by have:=World.block_lt_of_cell? w _ h0;rwa[zkv] at this
 refine⟨a,hA,hS _ jl hlt,zks h0 ?_⟩;simp only[zkv];exact hk _ jl hlt
def Sl (w:World) (S:Nat->Prop) (v:Value) (us:List Value):Prop:=∃ A c,v=.slice A us.length c/\us.length<=c/\RowU w S A us
theorem Sl.keep {w w':World} {S S':Nat->Prop} {v:Value} {us:List Value} (h:Sl w S v us) (hS:∀ b,S b->b<w.heap.size->S' b) (hk:∀ b,S b->b<w.heap.size->w'.heap[b]?=w.heap[b]?):Sl w' S' v us:=by
 obtain⟨A,c,h1,h2,h3⟩:=h;exact⟨A,c,h1,h2,h3.keep hS hk⟩
theorem Sl.stp {I:Type} {n0:Nat} {d d':I->RowD} {w w':World} {v:Value} {us:List Value} (h:Sl w (fun b=>¬ OwnB d b) v us) (st:Stp n0 d w d' w'):Sl w' (fun b=>¬ OwnB d' b) v us :=
 h.keep (fun b hb hlt h'=>(st.own b h').elim hb fun h=>by omega) fun b hb hlt=>st.chg.block b hlt hb
theorem Sl.take {w:World} {S:Nat->Prop} {A:Option Addr} {n c:Nat} {us:List Value} (h:Sl w S (.slice A n c) us) (m:Nat) (hm:m<=us.length):Sl w S (.slice A m c) (us.take m):=by
 obtain⟨A',c',h1,h2,h3⟩:=h;injection h1 with e1 e2 e3;subst e1 e2 e3;refine⟨A,c,by simp[Nat.min_eq_left hm],by simp;omega,fun i hi=>?_⟩;have hi':i<us.length:=by simp at hi;omega
 obtain⟨a,g1,g2,g3⟩:=h3 i hi';exact⟨a,g1,g2,by rw[g3];simp⟩
def zk7 (f:FR):List Value:=f.vs.map fun v=>.string v.s
structure RF (K:RK) (P:RP) (W:World) (r:RS) (er:Int):Prop where
 rws:Rws W K.n0 (zkg K P r er)
 nm:Sl W (fun b=>¬ OwnB (zkg K P r er) b) P.nm (zk7 r.S.cur)
 cl:Sl W (fun b=>¬ OwnB (zkg K P r er) b) P.cl (ptrs P.cb r.S.cur.cs)
 iv:Sl W (fun b=>¬ OwnB (zkg K P r er) b) P.iv (zke r.S.tin)
 ov:Sl W (fun b=>¬ OwnB (zkg K P r er) b) P.ov (zke r.S.tout)
 inv:RInv r
 bl:Below K.w.heap.size K.w W
 el:r.ent.length=K.p.prs.length
 en:∀ c∈r.ent,c<=r.n
section
variable {K:RK} {P P':RP} {W W':World} {r r':RS} {er er':Int}
theorem RF.box (h:RF K P W r er):(W.cell? ⟨P.rb,6,none⟩=some P.nm/\W.cell? ⟨P.rb,7,none⟩=some P.cl/\W.cell? ⟨P.rb,8,none⟩=some P.iv/\W.cell? ⟨P.rb,9,none⟩=some P.ov/\W.cell? ⟨P.rb,10,none⟩=some (.int .i64 K.F)/\W.cell? ⟨P.rb,11,none⟩=some (.int .i64 r.n)/\W.cell? ⟨P.rb,12,none⟩=some (.int .i64 r.S.calls.length)/\W.cell? ⟨P.rb,13,none⟩=some P.cv/\W.cell? ⟨P.rb,14,none⟩=some (.int .i64 er)) /\
  (W.cell? ⟨P.rb,0,none⟩=some (.slice K.A1 K.p.vs.length K.c1)/\W.cell? ⟨P.rb,1,none⟩=some (.slice K.A2 K.p.prs.length K.c2))/\∀ o,W.frozen? ⟨P.rb,o,none⟩=false :=
 ⟨⟨h.rws.cell .run rfl rfl,h.rws.cell .run rfl rfl,h.rws.cell .run rfl rfl,h.rws.cell .run rfl rfl,h.rws.cell .run rfl rfl,h.rws.cell .run rfl rfl,h.rws.cell .run rfl rfl,h.rws.cell .run rfl rfl,h.rws.cell .run rfl rfl⟩,⟨h.rws.cell .run rfl rfl,h.rws.cell .run rfl rfl⟩,fun o=>h.rws.frozen .run rfl o⟩
theorem RF.size (h:RF K P W r er) (hK:K.Ok):K.n0<=P.rb/\P.rb<W.heap.size:=h.rws.lt .run P.rb rfl
theorem RF.step (h:RF K P W r er) (hK:K.Ok) (st:Stp K.n0 (zkg K P r er) W (zkg K P' r' er') W') (nm:Sl W' (fun b=>¬ OwnB (zkg K P' r' er') b) P'.nm (zk7 r'.S.cur)) (cl:Sl W' (fun b=>¬ OwnB (zkg K P' r' er') b) P'.cl (ptrs P'.cb r'.S.cur.cs))
  (iv:Sl W' (fun b=>¬ OwnB (zkg K P' r' er') b) P'.iv (zke r'.S.tin)) (ov:Sl W' (fun b=>¬ OwnB (zkg K P' r' er') b) P'.ov (zke r'.S.tout)) (hi:RInv r') (el:r'.ent.length=r.ent.length) (en:∀ c∈r'.ent,c<=r'.n):RF K P' W' r' er' :=
 ⟨st.rws,nm,cl,iv,ov,hi,h.bl.trans (st.chg.below h.bl.size fun b ⟨i,hb⟩=>by have:=(h.rws.lt i b hb).1;have:=hK.n0;omega),el.trans h.el,en⟩
theorem RF.later (h:RF K P W r er) (hb:Below W.heap.size W W'):RF K P W' r er:=by
 have hk:∀ (us:List Value) (v:Value),Sl W (fun b=>¬ OwnB (zkg K P r er) b) v us->Sl W' (fun b=>¬ OwnB (zkg K P r er) b) v us:=fun us v h=>h.keep (fun _ h _=>h) fun b _ hlt=>hb.block b hlt;exact⟨h.rws.later hb,hk _ _ h.nm,hk _ _ h.cl,hk _ _ h.iv,hk _ _ h.ov,h.inv,zka h.bl hb,h.el,h.en⟩
theorem RF.fld (h:RF K P W r er) {o:Nat} (ho:o<15) (u:Value) (hx:(K.cells P r er).set o u=K.cells P' r' er') (hc:P'.cv=P.cv/\P'.cb=P.cb/\P'.ci=P.ci/\P'.rb=P.rb) (he:r'.ent=r.ent) (hn:r'.S.nc=r.S.nc) (hl:r'.S.cell=r.S.cell) :
  Stp K.n0 (zkg K P r er) W (zkg K P' r' er') (W.setCell ⟨P.rb,o,none⟩ u):=by
 refine(Stp.set (i:=RX.run) h.rws (g:=P.rb) rfl (o:=o) ho u).cast ?_;obtain⟨h1,h2,h3,h4⟩:=hc;funext x
 cases x with
 | run=>rw[zkk];simp only[zkg];rw[hx,h4]
 | cnt=>rw[zkb (by simp)];simp only[zkg];rw[h1,he]
 | cel i=>rw[zkb (by simp)];simp only[zkg];rw[h2,h3,hn]
 | row i=>rw[zkb (by simp)];simp only[zkg];rw[h3,hn,hl]
theorem RF.err (h:RF K P W r er) (hK:K.Ok) (e:Int):RF K P (W.setCell ⟨P.rb,14,none⟩ (.int .i64 e)) r e/\Stp K.n0 (zkg K P r er) W (zkg K P r e) (W.setCell ⟨P.rb,14,none⟩ (.int .i64 e)):=by
 have st:=h.fld (P':=P) (r':=r) (er':=e) (o:=14) (by decide) (.int .i64 e) rfl ⟨rfl,rfl,rfl,rfl⟩ rfl rfl rfl;exact⟨h.step hK st (h.nm.stp st) (h.cl.stp st) (h.iv.stp st) (h.ov.stp st) h.inv rfl h.en,st⟩
theorem RF.tick (h:RF K P W r er) (hK:K.Ok) (hF:(r.n:Int)<K.F):RF K P (W.setCell ⟨P.rb,11,none⟩ (.int .i64 ((r.n:Int)+1))) { r with n:=r.n+1 } er/\Stp K.n0 (zkg K P r er) W (zkg K P { r with n:=r.n+1 } er) (W.setCell ⟨P.rb,11,none⟩ (.int .i64 ((r.n:Int)+1))):=by
 have st:=h.fld (P':=P) (r':={ r with n:=r.n+1 }) (er':=er) (o:=11) (by decide) (.int .i64 ((r.n:Int)+1)) rfl ⟨rfl,rfl,rfl,rfl⟩ rfl rfl rfl;exact⟨h.step hK st (h.nm.stp st) (h.cl.stp st) (h.iv.stp st) (h.ov.stp st) (h.inv.tick hK.F6 hF) rfl fun c hc=>by have:=h.en c hc;simp only;omega,st⟩
end
def ErM (rb:Nat) (W:World) (e:Int):Prop:=e≠0/\W.cell? ⟨rb,14,none⟩=some (.int .i64 e)
theorem ErM.later {rb:Nat} {W W':World} {e:Int} (h:ErM rb W e) (hb:Below W.heap.size W W'):ErM rb W' e:=⟨h.1,zb hb h.2⟩
structure SamP (P P':RP) (n:Nat):Prop where
 rb:P'.rb=P.rb
 nm:P'.nm=P.nm
 cl:P'.cl=P.cl
 cv:P'.cv=P.cv
 cb:∀ i,i<n->P'.cb i=P.cb i
theorem SamP.refl (P:RP) (n:Nat):SamP P P n:=⟨rfl,rfl,rfl,rfl,fun _ _=>rfl⟩
def RunE (K:RK) (P:RP) (W:World) (r:RS) (o:Out) (en:Ending) (W':World):Prop :=
 (∃ u,en=.returned u)/\match o with
 | .gas=>True
 | .err x=>ErM P.rb W' x/\Chg (OwnB (zkg K P r 0)) W W'
 | .ok r'=>∃ P',RF K P' W' r' 0/\Stp K.n0 (zkg K P r 0) W (zkg K P' r' 0) W'/\SamP P P' r.S.nc
theorem zkN (b:Bool) (w:World):Calls Tryz.prog 100 #[.bool b] w fun e w'=>e=.returned (.int .i64 (numI b))/\w'=w:=by
 cases b
 ·go_enter Tryz.func100,Tryz.ntmps100;go_wp2_with fail;go_ret;exact⟨rfl,rfl⟩
 ·go_enter Tryz.func100,Tryz.ntmps100;go_wp2_with fail;go_ret;exact⟨rfl,rfl⟩
theorem zr1 (k x y:Int) (hk:8<=k/\k<=23) (w:World):Calls Tryz.prog 101 #[.int .u8 k,.int .i64 x,.int .i64 y] w fun e w'=>e=.returned (.tuple #[.int .i64 (apE k x y).1,.int .i64 (apE k x y).2])/\w'=w:=by
 have hc:k=8\/k=9\/k=10\/k=11\/k=12\/k=13\/k=14\/k=15\/k=16\/k=17\/k=18\/k=19\/k=20\/k=21\/k=22\/k=23:=by omega
 clear hk;rcases hc with rfl|rfl|rfl|rfl|rfl|rfl|rfl|rfl|rfl|rfl|rfl|rfl|rfl|rfl|rfl|rfl
 ·skip
  rw[show apE 8 x y=(wrap64 (x+y),0) by simp[apE]];go_enter Tryz.func101,Tryz.ntmps101;go_wp2_with fail;go_ret2;exact⟨rfl,rfl⟩
 ·skip
  rw[show apE 9 x y=(wrap64 (x-y),0) by simp[apE]];go_enter Tryz.func101,Tryz.ntmps101;go_wp2_with fail;go_ret2;exact⟨rfl,rfl⟩
 ·skip
  rw[show apE 10 x y=(wrap64 (x*y),0) by simp[apE]];go_enter Tryz.func101,Tryz.ntmps101;go_wp2_with fail;go_ret2;exact⟨rfl,rfl⟩
 ·by_cases hy:y=0
  ·subst hy;rw[show apE 11 x 0=(0,11) by simp[apE,divE]];go_enter Tryz.func101,Tryz.ntmps101;go_wp2_with fail;go_ret2;exact⟨rfl,rfl⟩
  ·rw[show apE 11 x y=(wrap64 (x.tdiv y),0) by simp[apE,divE,hy]];have hy:(y==0)=false:=by simpa using hy
   go_enter Tryz.func101,Tryz.ntmps101;go_wp2_with fail;go_ret2;exact⟨rfl,rfl⟩
 ·by_cases hy:y=0
  ·subst hy;rw[show apE 12 x 0=(0,11) by simp[apE,divE]];go_enter Tryz.func101,Tryz.ntmps101;go_wp2_with fail;go_ret2;exact⟨rfl,rfl⟩
  ·rw[show apE 12 x y=(x.tmod y,0) by simp[apE,divE,hy]];have hy:(y==0)=false:=by simpa using hy
   go_enter Tryz.func101,Tryz.ntmps101;go_wp2_with fail;go_ret2;exact⟨rfl,rfl⟩
 ·skip
  rw[show apE 13 x y=(bits BinOp.and IntKind.i64 x y,0) by simp[apE]];go_enter Tryz.func101,Tryz.ntmps101;go_wp2_with fail;go_ret2;exact⟨rfl,rfl⟩
 ·skip
  rw[show apE 14 x y=(bits BinOp.or IntKind.i64 x y,0) by simp[apE]];go_enter Tryz.func101,Tryz.ntmps101;go_wp2_with fail;go_ret2;exact⟨rfl,rfl⟩
 ·skip
  rw[show apE 15 x y=(bits BinOp.xor IntKind.i64 x y,0) by simp[apE]];go_enter Tryz.func101,Tryz.ntmps101;go_wp2_with fail;go_ret2;exact⟨rfl,rfl⟩
 ·skip
  rw[show apE 16 x y=(numI (x==y),0) by simp[apE]];go_enter Tryz.func101,Tryz.ntmps101;go_wp2_with fail;refine(zkN _ w).mono ?_;rintro e w' ⟨rfl,rfl⟩;go_wp2_with fail;go_ret2;exact⟨rfl,rfl⟩
 ·skip
  rw[show apE 17 x y=(numI (x != y),0) by simp[apE]];go_enter Tryz.func101,Tryz.ntmps101;go_wp2_with fail;refine(zkN _ w).mono ?_;rintro e w' ⟨rfl,rfl⟩;go_wp2_with fail;go_ret2;exact⟨rfl,rfl⟩
 ·skip
  rw[show apE 18 x y=(numI (decide (x<y)),0) by simp[apE]];go_enter Tryz.func101,Tryz.ntmps101;go_wp2_with fail;refine(zkN _ w).mono ?_;rintro e w' ⟨rfl,rfl⟩;go_wp2_with fail;go_ret2;exact⟨rfl,rfl⟩
 ·skip
  rw[show apE 19 x y=(numI (decide (x<=y)),0) by simp[apE]];go_enter Tryz.func101,Tryz.ntmps101;go_wp2_with fail;refine(zkN _ w).mono ?_;rintro e w' ⟨rfl,rfl⟩;go_wp2_with fail;go_ret2;exact⟨rfl,rfl⟩
 ·skip
  rw[show apE 20 x y=(numI (decide (y<x)),0) by simp[apE]];go_enter Tryz.func101,Tryz.ntmps101;go_wp2_with fail;refine(zkN _ w).mono ?_;rintro e w' ⟨rfl,rfl⟩;go_wp2_with fail;go_ret2;exact⟨rfl,rfl⟩
 ·skip
  rw[show apE 21 x y=(numI (decide (y<=x)),0) by simp[apE]];go_enter Tryz.func101,Tryz.ntmps101;go_wp2_with fail;refine(zkN _ w).mono ?_;rintro e w' ⟨rfl,rfl⟩;go_wp2_with fail;go_ret2;exact⟨rfl,rfl⟩
 ·rw[show apE 22 x y=(numI (x != 0&&y != 0),0) by simp[apE]]
  cases hx:(x != 0)<;>cases hy:(y != 0)
  ·skip
   rw[show(false&&false)=false from rfl];go_enter Tryz.func101,Tryz.ntmps101;go_wp2_with fail;refine(zkN false w).mono ?_;rintro e w' ⟨rfl,rfl⟩;go_wp2_with fail;go_ret2;exact⟨rfl,rfl⟩
  ·skip
   rw[show(false&&true)=false from rfl];go_enter Tryz.func101,Tryz.ntmps101;go_wp2_with fail;refine(zkN false w).mono ?_;rintro e w' ⟨rfl,rfl⟩;go_wp2_with fail;go_ret2;exact⟨rfl,rfl⟩
  ·skip
   rw[show(true&&false)=false from rfl];go_enter Tryz.func101,Tryz.ntmps101;go_wp2_with fail;refine(zkN false w).mono ?_;rintro e w' ⟨rfl,rfl⟩;go_wp2_with fail;go_ret2;exact⟨rfl,rfl⟩
  ·skip
   rw[show(true&&true)=true from rfl];go_enter Tryz.func101,Tryz.ntmps101;go_wp2_with fail;refine(zkN true w).mono ?_;rintro e w' ⟨rfl,rfl⟩;go_wp2_with fail;go_ret2;exact⟨rfl,rfl⟩
 ·rw[show apE 23 x y=(numI (x != 0||y != 0),0) by simp[apE]]
  cases hx:(x != 0)<;>cases hy:(y != 0)
  ·skip
   rw[show(false||false)=false from rfl];go_enter Tryz.func101,Tryz.ntmps101;go_wp2_with fail;refine(zkN false w).mono ?_;rintro e w' ⟨rfl,rfl⟩;go_wp2_with fail;go_ret2;exact⟨rfl,rfl⟩
  ·skip
   rw[show(false||true)=true from rfl];go_enter Tryz.func101,Tryz.ntmps101;go_wp2_with fail;refine(zkN true w).mono ?_;rintro e w' ⟨rfl,rfl⟩;go_wp2_with fail;go_ret2;exact⟨rfl,rfl⟩
  ·skip
   rw[show(true||false)=true from rfl];go_enter Tryz.func101,Tryz.ntmps101;go_wp2_with fail;refine(zkN true w).mono ?_;rintro e w' ⟨rfl,rfl⟩;go_wp2_with fail;go_ret2;exact⟨rfl,rfl⟩
  ·skip
   rw[show(true||true)=true from rfl];go_enter Tryz.func101,Tryz.ntmps101;go_wp2_with fail;refine(zkN true w).mono ?_;rintro e w' ⟨rfl,rfl⟩;go_wp2_with fail;go_ret2;exact⟨rfl,rfl⟩
section
variable {K:RK} {P:RP} {W:World} {r:RS} {er:Int}
theorem RF.errC (h:RF K P W r er):W.cell? ⟨P.rb,14,none⟩=some (.int .i64 er)/\W.frozen? ⟨P.rb,14,none⟩=false:=⟨h.box.1.2.2.2.2.2.2.2.2,h.box.2.2 14⟩
def zla (K:RK) (P:RP) (W:World) (r:RS) (er er':Int) (W':World):Prop:=RF K P W' r er'/\Stp K.n0 (zkg K P r er) W (zkg K P r er') W'
theorem zkR (hK:K.Ok) (h:RF K P W r er) (e:Int):Calls Tryz.prog 66 #[.pointer (some ⟨P.rb,0,none⟩),.int .i64 e] W fun en W'=>(∃ u,en=.returned u)/\zla K P W r er (if er=0 then e else er) W':=by
 obtain⟨y,yf⟩:=h.errC;have HP:=zh (h.err hK e);have HR:=zh (show zla K P W r er er W from ⟨h,Stp.refl h.rws⟩);obtain⟨rb,hrb⟩:∃ b,P.rb=b:=⟨_,rfl⟩
 rw[hrb] at y yf HP ⊢;obtain⟨w1,hw1⟩:∃ x,W.setCell ⟨rb,14,none⟩ (.int .i64 e)=x:=⟨_,rfl⟩
 rw[hw1] at HP;clear h hrb;by_cases h0:er=0
 ·subst h0;rw[if_pos rfl];have HR2:=zh (show zla K P W r 0 e w1 from HP.out);clear HP HR;go_enter Tryz.func66,Tryz.ntmps66;go_wp2_with fail;go_end0;exact⟨⟨_,rfl⟩,HR2.out⟩
 ·rw[if_neg h0];have e1:(er==0)=false:=by simpa using h0
  clear HP hw1 h0;go_enter Tryz.func66,Tryz.ntmps66;go_wp2_with fail;go_end0;exact⟨⟨_,rfl⟩,HR.out⟩
theorem ztD {rb:Nat} {x:Int} (h:ErM rb W x) (e:Int):Calls Tryz.prog 66 #[.pointer (some ⟨rb,0,none⟩),.int .i64 e] W fun en W'=>(∃ u,en=.returned u)/\W'=W:=by
 have y:=h.2;have e1:(x==0)=false:=by simpa using h.1
 clear h;go_enter Tryz.func66,Tryz.ntmps66;go_wp2_with fail;go_end0;exact⟨⟨_,rfl⟩,rfl⟩
theorem zns {rb:Nat} {x:Int} (h:ErM rb W x):Calls Tryz.prog 67 #[.pointer (some ⟨rb,0,none⟩)] W fun en W'=>en=.returned (.bool false)/\W'=W:=by
 have y:=h.2;have e1:(x==0)=false:=by simpa using h.1
 have e2:(x != 0)=true:=by simpa using h.1
 clear h;go_enter Tryz.func67,Tryz.ntmps67;go_wp2_with fail;go_ret;exact⟨rfl,rfl⟩
def zx8 (K:RK) (P:RP) (W:World) (r:RS) (en:Ending) (W':World):Prop :=
 (K.F<=(r.n:Int)/\en=.returned (.bool false)/\zla K P W r 0 18 W') \/
 ((r.n:Int)<K.F/\en=.returned (.bool true)/\RF K P W' { r with n:=r.n+1 } 0/\Stp K.n0 (zkg K P r 0) W (zkg K P { r with n:=r.n+1 } 0) W')
theorem zmc (hK:K.Ok) (h:RF K P W r 0):Calls Tryz.prog 67 #[.pointer (some ⟨P.rb,0,none⟩)] W (zx8 K P W r):=by
 obtain⟨⟨-,-,-,-,bL,bB,-,-,y14⟩,-,yf⟩:=h.box;have hd:Below W.heap.size W W.drew:=(Below.refl _ _).drew;have HH:=zh (h.later hd);have gD:=zh (Stp.below (Stp.refl h.rws) hd);have sF:=h.inv.n;obtain⟨rb,hrb⟩:∃ b,P.rb=b:=⟨_,rfl⟩
 obtain⟨F,hF⟩:∃ b,K.F=b:=⟨_,rfl⟩
 obtain⟨n,hn⟩:∃ b,r.n=b:=⟨_,rfl⟩
 rw[hrb] at bL bB y14 yf;rw[hF] at bL;rw[hn] at bB sF;have HS:=zh (show(fun w':World=>w'.cell? ⟨rb,10,none⟩=some (.int .i64 F)/\w'.cell? ⟨rb,11,none⟩=some (.int .i64 (n:Int))) W.drew from ⟨bL,bB⟩);have ag:=zh hrb;have uO:=zh hF;have uE:=zh hn;rw[hrb];by_cases hlt:F<=(n:Int)
 ·have aR:=zh (zkR hK HH.out 18);have jC:=zh hlt;clear h hrb hF hn bL bB hd;go_enter Tryz.func67,Tryz.ntmps67;go_upto_region 3 with fail
  go_region_held3 (fun w':World=>w'.cell? ⟨rb,10,none⟩=some (.int .i64 F)/\w'.cell? ⟨rb,11,none⟩=some (.int .i64 (n:Int)))
   (with_reducible exact HS.out)
   (first|fail)
  go_wp2_with fail;have hfl:=aR.out;rw[ag.out] at hfl;refine hfl.mono ?_;rintro e w1 ⟨⟨u,rfl⟩,hf1,hs1⟩;have qH:=zh (show zla K P W r 0 18 w1 from ⟨hf1,gD.out.trans hs1⟩);clear hfl hf1 hs1;go_wp2_with fail;go_ret;exact .inl ⟨by rw[uO.out,uE.out];exact jC.out,rfl,qH.out⟩
 ·have hw1:IntKind.i64.wrap ((n:Int)+1)=(n:Int)+1:=IntWalk.i64_in _ (by omega);have htk:=h.tick hK (by rw[hF,hn];omega);rw[hrb,hn] at htk;have yd11:W.drew.cell? ⟨rb,11,none⟩=some (.int .i64 (n:Int)):=bB;have ydf:∀ o,W.drew.frozen? ⟨rb,o,none⟩=false:=yf;obtain⟨w1,hw⟩:∃ x,W.setCell ⟨rb,11,none⟩ (.int .i64 ((n:Int)+1))=x:=⟨_,rfl⟩
  rw[hw] at htk;have HTK:=zh htk;have jC:=zh hlt;have HW:=zh hw;clear h hrb hF hn bL bB hd htk hw;go_enter Tryz.func67,Tryz.ntmps67;go_upto_region 3 with fail
  go_region_held3 (fun w':World=>w'.cell? ⟨rb,10,none⟩=some (.int .i64 F)/\w'.cell? ⟨rb,11,none⟩=some (.int .i64 (n:Int)))
   (with_reducible exact HS.out)
   (first|fail)
  go_wp2_with fail
  try rw[HW.out]
  go_ret;refine .inr ⟨by rw[uO.out,uE.out];have:=jC.out;omega,rfl,?_⟩;rw[uE.out];exact⟨HTK.out.1.later (Below.refl _ _).drew,HTK.out.2.below (Below.refl _ _).drew⟩
theorem zmu (h:RF K P W r er) {s:ByteArray} {v:VD} (hv:zkA r.S.cur.vs s=some v):Calls Tryz.prog 99 #[.pointer (some ⟨P.rb,0,none⟩),.string s] W fun en W'=>(∃ id,r.S.num s=some id/\CurK r.S id v.k/\en=.returned (.pointer (some ⟨P.cb id,0,none⟩)))/\W'=W:=by
 obtain⟨id,hid,hck⟩:=zpR h.inv.wf hv;obtain⟨⟨y6,y7,-⟩,-,-⟩:=h.box;obtain⟨A,c,hnm,-,hrn⟩:=h.nm;obtain⟨B,d,hcl,-,hrc⟩:=h.cl;obtain⟨kd,hw⟩:=h.inv.wf.cur;have hlen:=hw.len;have hlim:=hw.lim;rw[zno] at hv;have hat:∃ i0,zlB r.S.cur.vs s r.S.cur.vs.length=some i0/\r.S.cur.cs[i0]?=some id:=by
  unfold ST.num at hid
  cases hf:r.S.cur.at s with
  | none=>rw[hf] at hid;cases hid
  | some i0=>rw[hf] at hid;exact⟨i0,hf,hid⟩
 obtain⟨i0,hi0,tC⟩:=hat;obtain⟨vs,hvs⟩:∃ l,r.S.cur.vs=l:=⟨_,rfl⟩
 obtain⟨cs,hcs⟩:∃ l,r.S.cur.cs=l:=⟨_,rfl⟩
 have hnl:(zk7 r.S.cur).length=vs.length:=by simp[zk7,hvs]
 have hpl:(ptrs P.cb r.S.cur.cs).length=vs.length:=by simp[ptrs,hlen,hvs]
 have xI:∀ i (hi:i<vs.length),∃ a,A=some a/\W.cell? (a.add i)=some (.string vs[i].s):=fun i hi=>by
  obtain⟨a,h1,-,h2⟩:=hrn i (by rw[hnl];exact hi);refine⟨a,h1,?_⟩;rw[h2];simp[zk7,hvs]
 have hcg:∀ i (hi:i<cs.length),∃ a,B=some a/\W.cell? (a.add i)=some (.pointer (some ⟨P.cb cs[i],0,none⟩)):=fun i hi=>by
  obtain⟨a,h1,-,h2⟩:=hrc i (by simp[ptrs,hcs];exact hi);refine⟨a,h1,?_⟩;rw[h2];simp[ptrs,hcs]
 rw[hnm] at y6;rw[hcl] at y7;rw[hnl] at y6;rw[hpl] at y7;rw[hvs] at hi0 hlim hlen;rw[hcs] at tC hlen;have aa:=zh (show r.S.num s=some id/\CurK r.S id v.k from ⟨hid,hck⟩);obtain⟨rb,hrb⟩:∃ b,P.rb=b:=⟨_,rfl⟩
 rw[hrb] at y6 y7 ⊢;have HNG:=zh xI;have HCG:=zh hcg;have HI0:=zh hi0;have gJ:=zh tC;have wY:=zh hlen;have mH:=zh hlim;have hw0:IntKind.i64.wrap ((vs.length:Int)-1)=(vs.length:Int)-1:=IntWalk.i64_in _ (by omega);clear h hv hid hck hnm hrn hcl hrc hw hlen hlim hi0 tC hvs hcs hnl hpl xI hcg hrb;go_enter Tryz.func99,Tryz.ntmps99;go_wp2_with fail
 go_loopw [5] (fun i wr=>∃ j:Nat,j<=vs.length/\i=.int .i64 ((j:Int)-1)/\wr=W/\Hid (zlB vs s j=some i0)) (fun i _=>(intOf i+1).toNat)
 case atStart=>exact⟨vs.length,Nat.le_refl _,rfl,rfl,HI0⟩
 case round =>
  obtain⟨j,hj,rfl,rfl,HJ⟩:=hrel;rcases j with _|m
  ·have:=HJ.out;simp[zlB] at this
  ·rw[show((m+1:Nat):Int)-1=(m:Int) by omega];have hm:m<vs.length:=by omega
   have hx:=HJ.out;rw[znE hm] at hx;have HX:=zh hx;obtain⟨a,rfl,q0⟩:=HNG.out m hm;obtain⟨b',rfl,q1⟩:=HCG.out m (by have:=wY.out;omega);obtain⟨v0,hv0⟩:∃ v,vs[m]=v:=⟨_,rfl⟩
   obtain⟨c0,hc0⟩:∃ c,cs[m]'(by have:=wY.out;omega)=c:=⟨_,rfl⟩
   rw[hv0] at q0 hx;rw[hc0] at q1;have hm0:(0:Int)<=(m:Int):=by omega
   have hm1:(m:Int)<(vs.length:Int):=by omega
   have hwm:IntKind.i64.wrap ((m:Int)-1)=(m:Int)-1:=IntWalk.i64_in _ (by have:=mH.out;omega);by_cases hs:(v0.s.toList==s.toList)=true
   ·rw[if_pos hs] at hx;injection hx with hx;have bV:=zh (show id=c0 by
     have h1:=gJ.out;rw[<-hx,List.getElem?_eq_getElem (by have:=wY.out;omega),hc0] at h1;injection h1 with h1;exact h1.symm)
    clear hx HX HJ hv0 hc0;go_wp2_with fail;go_ret
    first
    | exact⟨⟨id,aa.out.1,aa.out.2,by rw[bV.out];rfl⟩,rfl⟩
    | exact⟨id,aa.out.1,aa.out.2,by rw[bV.out];rfl⟩
   ·have hs':(v0.s.toList==s.toList)=false:=by simpa using hs
    rw[if_neg hs] at hx;have HN:=zh hx;clear hx HX HJ hs hv0 hc0;go_wp2_with fail;exact⟨⟨m,by omega,by first|rfl|trivial,by first|rfl|trivial,HN⟩,by simp[intOf]⟩
end
end Go.Proofs.YtmbbaccjcekhkaaGreat
