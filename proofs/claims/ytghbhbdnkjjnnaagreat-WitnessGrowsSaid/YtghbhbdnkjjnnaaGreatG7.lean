/-
  Texts of the proof, put together without their remarks: ScV, Fa, ScK, Gf, Rcp, Scl, Nz.
-/
import Derived.Test.YtghbhbdnkjjnnaaGreatG6
set_option linter.unusedSimpArgs false
set_option linter.unusedVariables false
set_option maxHeartbeats 8000000
set_option maxRecDepth 100000
namespace Go.Proofs.YtghbhbdnkjjnnaaGreat
section
open Go Go.RowKit
def cntA(ps:List PR)(s:ByteArray)(l:Nat):Nat->List T->List VD->Nat
 | _,[],_=>0
 | i,t::ts,vs=>one1 (argE ps s l i t.s vs)+cntA ps s l (i+1) ts vs
mutual
/-- How many faults scope.visit reports. -/
def cntV(ps:List PR):T->List VD->Nat
 | .nd k _ s ks,vs=>one1 (zlh ps k s ks.length vs)+(if k=50\/k=51 then cntA ps s ks.length 0 ks vs else cntK ps k s 0 ks vs)
def cntK(ps:List PR)(k:Int)(s:ByteArray):Nat->List T->List VD->Nat
 | _,[],_=>0
 | i,t::ts,vs=>cntV ps t (zmm k s i vs)+cntK ps k s (i+1) ts vs
end
theorem zok(ps:List PR)(s:ByteArray)(l:Nat)(vs:List VD):∀(a b:List T) (i:Nat),cntA ps s l i (a++b) vs=cntA ps s l i a vs+cntA ps s l (i+a.length) b vs
 | [],b,i=>by simp[cntA]
 | t::ts,b,i=>by simp[cntA,zok ps s l vs ts b (i+1),Nat.add_assoc,Nat.add_comm 1 ts.length]
theorem zoj(ps:List PR)(k:Int)(s:ByteArray)(vs:List VD):∀(a b:List T) (i:Nat),cntK ps k s i (a++b) vs=cntK ps k s i a vs+cntK ps k s (i+a.length) b vs
 | [],b,i=>by simp[cntK]
 | t::ts,b,i=>by simp[cntK,zoj ps k s vs ts b (i+1),Nat.add_assoc,Nat.add_comm 1 ts.length]
theorem zp5(ps:List PR)(s:ByteArray)(l:Nat)(vs:List VD){ks:List T}{j:Nat}(h:j<ks.length):cntA ps s l 0 (ks.take (j+1)) vs=cntA ps s l 0 (ks.take j) vs+one1 (argE ps s l j ks[j].s vs):=by
 rw[List.take_succ_eq_append_getElem h,zok];have:(ks.take j).length=j:=by simp;omega
 simp[cntA,this]
theorem zty(ps:List PR)(k:Int)(s:ByteArray)(vs:List VD){ks:List T}{j:Nat}(h:j<ks.length):cntK ps k s 0 (ks.take (j+1)) vs=cntK ps k s 0 (ks.take j) vs+cntV ps ks[j] (zmm k s j vs):=by
 rw[List.take_succ_eq_append_getElem h,zoj];have:(ks.take j).length=j:=by simp;omega
 simp[cntK,this]
theorem zmK(e:Int):one1 e<=1:=by unfold one1;split<;>omega
theorem zq5(t:T):1<=size t:=by cases t;rw[size];omega
theorem zpu(ps:List PR)(s:ByteArray)(l:Nat)(vs:List VD):∀(ks:List T) (i:Nat),cntA ps s l i ks vs<=zkW ks
 | [],i=>by simp[cntA]
 | t::ts,i=>by
  have h1:=zpu ps s l vs ts (i+1);have h2:=zmK (argE ps s l i t.s vs);have h3:=zq5 t;simp only[cntA,zkW];omega
theorem zqJ(ps:List PR)(k:Int)(s:ByteArray):∀(ks:List T),(∀t∈ks,∀vs,cntV ps t vs<=size t)->∀(i:Nat) (vs:List VD),cntK ps k s i ks vs<=zkW ks
 | [],_,i,vs=>by simp[cntK]
 | t::ts,h,i,vs=>by
  have h1:=zqJ ps k s ts (fun u hu=>h u (by simp[hu])) (i+1) vs;have h2:=h t (by simp) (zmm k s i vs);simp only[cntK,zkW];omega
theorem ztx(ps:List PR)(t:T):∀vs,cntV ps t vs<=size t:=by
 induction t using T.ind with
 | _ k n s ks ih =>
 intro vs;rw[cntV,size];have h1:=zmK (zlh ps k s ks.length vs);have h2:=zpu ps s ks.length vs ks 0;have h3:=zqJ ps k s ks ih 0 vs
 split<;>omega
theorem zlC:∀(ks:List T) (j:Nat),zkW (ks.take j)<=zkW ks
 | [],j=>by simp[zkW]
 | t::ts,0=>by simp[zkW]
 | t::ts,j+1=>by have:=zlC ts j;simp only[List.take_succ_cons,zkW];omega
theorem zrW(k:Int)(s:ByteArray)(i:Nat)(vs:List VD):(zmm k s i vs).length<=vs.length+1:=by unfold zmm;split;simp;split<;>simp
theorem PV.keep{w w':World}{S S':Nat->Prop}{p:PG}{v:Value}(h:PV w S p v)(hS:∀b,S b->b<w.heap.size->S' b)(hk:∀b,S b->b<w.heap.size->w'.heap[b]?=w.heap[b]?):PV w' S' p v :=
 let ⟨A1,c1,A2,c2,A3,c3,e,h⟩:=h;⟨A1,c1,A2,c2,A3,c3,e,h.keep hS hk⟩
structure VsI(Rd:World->Prop)(n0 fb:Nat)(Wb:World)(pv:Value)(N:Nat)(wr:World)(pv':Value):Prop where
 rd:Rd wr
 fs:FS wr n0 fb N pv'
 own:∀b,pv'.ownBlock=some b->pv.ownBlock=some b\/Wb.heap.size<=b
 chg:Chg (fun b=>b=fb\/pv.ownBlock=some b) Wb wr
theorem VsI.step{f:FuncId}{cap:Array Value}{Rd:World->Prop}{n0 fb:Nat}{Wb wr w5 W6:World}{pv pv':Value}{N N':Nat}{e:Ending}(hr:RepC f cap Rd n0 fb)(h:VsI Rd n0 fb Wb pv N wr pv')(hb:Below wr.heap.size wr w5)(hp:RepP w5 n0 fb pv' N' e W6) :
  ∃iU,VsI Rd n0 fb Wb pv N' W6 iU:=by
 obtain⟨_,iU,hfs,bX,hc⟩:=hp;have qR:=h.fs.later hb;have hz:=h.chg.size;have mZ:=hb.size;refine⟨iU,hr.keep w5 W6 pv' N (hr.keep wr w5 pv' N h.rd h.fs (Chg.of_below hb)) qR hc,hfs,fun b hb'=>?_,(h.chg.trans (Chg.of_below hb)).trans2 hc fun b hlt hh=>?_⟩
 ·rcases bX b hb' with h1|h1
  ·exact h.own b h1
  ·exact .inr (by omega)
 ·rcases hh with hh|hh
  ·exact .inl hh
  ·rcases h.own b hh with h1|h1
   ·exact .inr h1
   ·omega
theorem VsI.rep{Rd:World->Prop}{n0 fb:Nat}{W Wb w:World}{pw pv':Value}{N':Nat}{e:Ending}(h:VsI Rd n0 fb Wb pw N' w pv')(hb:Below W.heap.size W Wb)(he:∃v,e=.returned v):RepP W n0 fb pw N' e w :=
 ⟨he,pv',h.fs,fun b hh=>(h.own b hh).imp id fun h1=>by have:=hb.size;omega,(Chg.of_below hb).trans h.chg⟩
def IsW(x:Value)(w:World)(v:Value)(w':World):Prop:=v=x/\Below w.heap.size w w'
theorem znt{P:Program}{f:FuncId}{args:Array Value}{w:World}{x:Value}(h:Calls P f args w fun e w'=>e=.returned x/\Below w.heap.size w w'):Calls P f args w fun e w'=>∃v,e=.returned v/\IsW x w v w' :=
 h.mono fun _ _ ⟨he,hb⟩=>⟨_,he,rfl,hb⟩
def RepV(W:World)(n0 fb:Nat)(pv:Value)(N':Nat)(_:Value)(W':World):Prop:=RepP W n0 fb pv N' (.returned undef) W'
theorem zmk{P:Program}{f:FuncId}{args:Array Value}{W:World}{n0 fb N':Nat}{pv:Value}(h:Calls P f args W (RepP W n0 fb pv N')):Calls P f args W fun e w'=>∃v,e=.returned v/\RepV W n0 fb pv N' v w' :=
 h.mono fun _ _ ⟨⟨v,he⟩,hp⟩=>⟨v,he,⟨_,rfl⟩,hp⟩
def zyj(w:World)(S:Nat->Prop)(vs:List VD)(v:Value)(w':World):Prop:=∃A' c',v=.slice A' vs.length c'/\RowV w' (fun b=>S b\/w.heap.size<=b) A' vs/\vs.length<=c'/\Below w.heap.size w w'
theorem zsx{P:Program}{f:FuncId}{args:Array Value}{w:World}{S:Nat->Prop}{vs:List VD}(h:Calls P f args w (zvW w S vs)):Calls P f args w fun e w'=>∃v,e=.returned v/\zyj w S vs v w' :=
 h.mono fun _ _ ⟨A,c,he,hn⟩=>⟨_,he,A,c,rfl,hn⟩
theorem zw4:IsFn Tryz.prog 130 Tryz.f130:=⟨Tryz.func130,by kernel_rfl,by kernel_rfl⟩
theorem zoO:IsFn Tryz.prog 132 Tryz.f132:=⟨Tryz.func132,by kernel_rfl,by kernel_rfl⟩
theorem zqD:IsFn Tryz.prog 131 Tryz.f131:=⟨Tryz.func131,by kernel_rfl,by kernel_rfl⟩
theorem zw2:IsFn Tryz.prog 133 Tryz.f133:=⟨Tryz.func133,by kernel_rfl,by kernel_rfl⟩
theorem zwZ:IsFn Tryz.prog 108 Tryz.f108:=⟨Tryz.func108,by kernel_rfl,by kernel_rfl⟩
theorem znf(f:FuncId)(cap:Array Value)(Rd:World->Prop)(n0 fb:Nat)(hrep:RepC f cap Rd n0 fb)(p:PG)(t:T) :
  ∀(S:Nat->Prop) (vs:List VD) (A:Option Addr) (c:Nat) (q:List Int) (Aq:Option Addr) (cq N:Nat) (pw:Value) (W:World) (v1 v2:Value),Rd W->FS W n0 fb N pw->PV W S p v1->NV W S t v2->RowV W S A vs->vs.length<=c->RowI W S Aq q->q.length<=cq ->
   (∀b,S b->b<W.heap.size->¬ (b=fb\/pw.ownBlock=some b))->q.length+dep t<=50000->vs.length+dep t<=50000->N+size t<=1000000 ->
   Calls Tryz.prog 108 #[v1,v2,.slice Aq q.length cq,.slice A vs.length c,.func (.func f) #[] cap] W (RepP W n0 fb pw (N+cntV p.prs t vs)):=by
 obtain⟨fn,hfn⟩:=hrep.fn;have aV:=zh hrep;clear hrep
 induction t using T.ind with
 | _ tk tn ts ks ih =>
 intro S vs A c q Aq cq N pw W v1 v2 hrd hfs hv1 hv2 hrow hlc hqr hqc hfar hdq hdv hN;have vQ:=zh ih;have hvv:=hv1;obtain⟨A1,c1,A2,c2,A3,c3,rfl,-⟩:=hv1;obtain⟨L1,hL1⟩:=zX (p.vs.length);obtain⟨L2,hL2⟩:=zX (p.prs.length);obtain⟨k,hk⟩:=zX (p.m.k);obtain⟨n,hn⟩:=zX (p.m.n);obtain⟨s,hs⟩:=zX (p.m.s);obtain⟨l3,hl3⟩:=zX (p.m.ks.length);rw[hL1,hL2,hk,hn,hs,hl3];rw[hL1,hL2,hk,hn,hs,hl3]at hvv;have vB:=zh hvv;clear ih hvv hL1 hL2 hk hn hs hl3;have jw:=zh hv2;obtain⟨B,tc,rfl,_,hlk,_,gX⟩:=hv2.open_;simp only[T.k_nd,T.n_nd,T.s_nd,T.ks_nd]at *
 have az:=zkJ hlk;rw[dep]at hdq hdv;rw[size]at hN;have hksz:ks.length<=1000000:=by
  have:∀l:List T,l.length<=zkW l:=fun l=>by
   induction l with
   | nil=>simp
   | cons t ts ih=>have:=zq5 t;simp only[List.length_cons,zkW];omega
  have:=this ks;omega
 have xh:=zh gX;have ae:=zh hrow;have iR:=zh hlc;have HQR:=zh hqr;have yM:=zh hqc;have ll:=zh hrd;have pq:=zh hfs;have HFAR:=zh hfar;have hlv:vs.length<=LV:=by unfold LV;omega
 have rY:=zh hlv;have hfl:=hfs.lt;have uq:=zh hfl;obtain⟨CC,yu⟩:=zX (cntV p.prs (.nd tk tn ts ks) vs);rw[yu];have aW:=zh yu;obtain⟨E0,hE0⟩:=zX (zlh p.prs tk ts ks.length vs);have sQ:=zh hE0;have hE1:=zmK E0;clear gX hrow hlc hqr hqc hrd hfs hfar hlk hlv hv2 hfl yu hE0;go_enter Tryz.func108,Tryz.ntmps108;go_upto_region 1 with fail;have hbw:Below W.heap.size W ((W.alloc (.cells #[.slice A1 L1 c1,.slice A2 L2 c2,.int .u8 k,.int .i64 n,.string s,.slice A3 l3 c3] 55)).alloc (.cells #[.int .u8 tk,.int .i64 tn,.string ts,.slice B ks.length tc] 24)):=zkc (zkc zr _) _;have pO:=zke (heap_alloc_new W (.cells #[.slice A1 L1 c1,.slice A2 L2 c2,.int .u8 k,.int .i64 n,.string s,.slice A3 l3 c3] 55)) (.cells #[.int .u8 tk,.int .i64 tn,.string ts,.slice B ks.length tc] 24)
 have hbN:=heap_alloc_new (W.alloc (.cells #[.slice A1 L1 c1,.slice A2 L2 c2,.int .u8 k,.int .i64 n,.string s,.slice A3 l3 c3] 55)) (.cells #[.int .u8 tk,.int .i64 tn,.string ts,.slice B ks.length tc] 24);simp only[World.size_alloc]at hbN;obtain⟨Wb,q9⟩:=zX ((W.alloc (.cells #[.slice A1 L1 c1,.slice A2 L2 c2,.int .u8 k,.int .i64 n,.string s,.slice A3 l3 c3] 55)).alloc (.cells #[.int .u8 tk,.int .i64 tn,.string ts,.slice B ks.length tc] 24));rw[q9]at hbw pO hbN ⊢;have oG:=zh (show Wb.heap.size=W.heap.size+2 by rw[<-q9];simp);have dI:=zh hbw;have HBP:=zh pO;have HBN:=zh hbN
 have rR:=zh (show ∀w':World,w'.heap[W.heap.size]?=Wb.heap[W.heap.size]?->w'.heap[W.heap.size+1]?=Wb.heap[W.heap.size+1]?->(fun w':World=>(zN6 w' W.heap.size (.slice A1 L1 c1) (.slice A2 L2 c2) (.int .u8 k) (.int .i64 n) (.string s) (.slice A3 l3 c3))/\zN4 w' (W.heap.size+1) (.int .u8 tk) (.int .i64 tn) (.string ts) (.slice B ks.length tc)) w' from fun w' h1 h2=>⟨box6 (h1.trans pO),box4 (h2.trans hbN)⟩)
 have pG:=zh (show ∀w':World,Chg (fun b=>b=fb\/pw.ownBlock=some b) Wb w'->(fun w':World=>(zN6 w' W.heap.size (.slice A1 L1 c1) (.slice A2 L2 c2) (.int .u8 k) (.int .i64 n) (.string s) (.slice A3 l3 c3))/\zN4 w' (W.heap.size+1) (.int .u8 tk) (.int .i64 tn) (.string ts) (.slice B ks.length tc)) w' from fun w' h=>rR.out w' (h.block _ (by have:=oG.out;omega) (fun hh=>by rcases hh with hh|hh;(have:=uq.out.1;omega);(have:=(uq.out.2 _ hh).2;omega))) (h.block _ (by have:=oG.out;omega) (fun hh=>by rcases hh with hh|hh;(have:=uq.out.1;omega);(have:=(uq.out.2 _ hh).2;omega))));have aQ:=zh (show ∀w':World,Chg (fun b=>b=fb\/pw.ownBlock=some b) Wb w'->∀b,S b->b<W.heap.size->w'.heap[b]?=W.heap[b]? from fun w' h b hb hlt=>(h.block b (by have:=oG.out;omega) (HFAR.out b hb hlt)).trans (dI.out.block b hlt))
 have hi0:VsI Rd n0 fb Wb pw N Wb pw:=⟨aV.out.keep W Wb pw N ll.out pq.out (Chg.of_below hbw),pq.out.later hbw,fun b hb=>.inl hb,Chg.refl _ _⟩
 have HI0:=zh hi0;clear q9 hbw pO hbN hi0;have hdr:=(zs Wb).drew;have hSS:zW (fun w':World=>(zN6 w' W.heap.size (.slice A1 L1 c1) (.slice A2 L2 c2) (.int .u8 k) (.int .i64 n) (.string s) (.slice A3 l3 c3))/\zN4 w' (W.heap.size+1) (.int .u8 tk) (.int .i64 tn) (.string ts) (.slice B ks.length tc)) zU Wb.drew:=⟨pG.out _ (Chg.of_below hdr),trivial⟩
 refine wp_region_noPanic ?_;refine zG hSS 20 ?_;refine zT 0 hSS ?_;refine zT 1 hSS ?_;refine zT 2 hSS ?_;refine zT 3 hSS ?_;refine zT 4 hSS ?_;refine zT 5 hSS ?_;refine zT 6 hSS ?_;refine zo 7 fun K hK=>?_;refine zkd (by rfl) (.func 130) [.tmp 18,.tmp 19,.tmp 20] _ (by rfl) 130 _ zw4 (by rfl) _ (by rfl) _ (znt (ztp p (.nd tk tn ts ks) vs A c S S S _ _ _ (vB.out.later (zkb dI.out hdr)) (jw.out.later (zkb dI.out hdr)) (ae.out.later (zkb dI.out hdr)) rY.out)) ?_;rintro vq w2 ⟨rfl,aj⟩;simp only[T.k_nd,T.s_nd,T.ks_nd];rw[sQ.out];have b2:=zkb hdr aj;have aL:=zV hSS (pG.out _ (Chg.of_below b2)) trivial;refine hK.out _ _ aL ?_;clear hK K hSS;(try simp only[zQ]);refine zo 8 fun K hK=>?_
 refine zlj (by rfl) (.tmp 14) [.tmp 15,.tmp 17,.tmp 21] _ (by rfl) f fn hfn cap (by rfl) _ (by rfl) _ (zmk (aV.out.call N pw E0 q Aq cq ts S w2 (aV.out.keep Wb w2 pw N HI0.out.rd HI0.out.fs (Chg.of_below b2)) (HI0.out.fs.later b2) ((HQR.out.later dI.out).later b2) (by omega) (by omega))) ?_;rintro vq W3 hp3;obtain⟨pv3,hi3⟩:=HI0.out.step aV.out b2 hp3;have bL:=zV aL (pG.out _ hi3.chg) trivial;refine hK.out _ _ bL ?_;clear hK K aL;(try simp only[zQ]);refine zd ?_;refine NoPanic.normal ?_;obtain⟨⟨a0,a1,a2,a3,a4,a5⟩,b0,b1,b2',b3⟩:=bL.1;have HI3:=zh hi3;clear bL hi3 hp3 b2 aj hdr HI0
 have HD:=zh (show ∀w':World,Chg (fun b=>b=fb\/pw.ownBlock=some b) Wb w'->PV w' (fun b=>S b/\b<W.heap.size) p _/\NV w' (fun b=>S b/\b<W.heap.size) (.nd tk tn ts ks) _/\RowV w' (fun b=>S b/\b<W.heap.size) A vs/\RowI w' (fun b=>S b/\b<W.heap.size) Aq q/\zl5 w' (fun b=>S b/\b<W.heap.size) B ks from fun w' h=>⟨vB.out.keep (fun b hb hlt=>⟨hb,hlt⟩) (aQ.out w' h),jw.out.keep (fun b hb hlt=>⟨hb,hlt⟩) (aQ.out w' h),ae.out.keep (fun b hb hlt=>⟨hb,hlt⟩) (aQ.out w' h),HQR.out.keep (fun b hb hlt=>⟨hb,hlt⟩) (aQ.out w' h),xh.out.keep (fun b hb hlt=>⟨hb,hlt⟩) (aQ.out w' h)⟩);by_cases hcall:tk=50\/tk=51
 ·rcases hcall with rfl|rfl
  ·go_wp2_with fail
   go_loopw [34] (fun i wr=>∃(j:Nat) (pv':Value),j<=ks.length/\i=.int .i64 j/\VsI Rd n0 fb Wb pw (N+one1 E0+cntA p.prs ts ks.length 0 (ks.take j) vs) wr pv') (fun i _=>ks.length-(intOf i).toNat)
   case atStart=>exact⟨0,_,Nat.zero_le _,rfl,by simpa[cntA]using HI3.out⟩
   case round =>
    obtain⟨j,pv',hj,rfl,hinv⟩:=hrel;have ag:=zh hinv;clear HI3;by_cases hlt:j<ks.length
    ·obtain⟨-,-,-,-,gX⟩:=HD.out wr hinv.chg;obtain⟨a,u,A4,c4,rfl,hsa,Hu,⟨q0,q1,q2,q3⟩,hnu⟩:=gX.nd hlt;have vL:=zh hnu;clear hinv gX hnu hsa;go_upto_region 6 with fail;have hbk:Below wr.heap.size wr (wr.alloc (.cells #[.int .u8 u.k,.int .i64 u.n,.string u.s,.slice A4 u.ks.length c4] 24)):=zkc zr _;have eu:=heap_alloc_new wr (.cells #[.int .u8 u.k,.int .i64 u.n,.string u.s,.slice A4 u.ks.length c4] 24);obtain⟨wk,hwk⟩:=zX (wr.alloc (.cells #[.int .u8 u.k,.int .i64 u.n,.string u.s,.slice A4 u.ks.length c4] 24));rw[hwk]at hbk eu ⊢;have fq:=zh (show wk.heap.size=wr.heap.size+1 by rw[<-hwk];simp);have aA:=zh hbk;have gT:=zh eu;clear hwk hbk eu
     have bO:=zh (show ∀w':World,Below wk.heap.size wk w'->(fun w':World=>(zN6 w' W.heap.size (.slice A1 L1 c1) (.slice A2 L2 c2) (.int .u8 k) (.int .i64 n) (.string s) (.slice A3 l3 c3)/\zN4 w' (W.heap.size+1) (.int .u8 50) (.int .i64 tn) (.string ts) (.slice (some a) ks.length tc))/\zN4 w' wr.heap.size (.int .u8 u.k) (.int .i64 u.n) (.string u.s) (.slice A4 u.ks.length c4)) w'/\zU w' from fun w' h=>⟨⟨pG.out w' (ag.out.chg.trans (Chg.of_below (zkb aA.out h))),box4 ((h.block _ (by have:=fq.out;omega)).trans gT.out)⟩,trivial⟩);have hdr:=(zs wk).drew;have hSS:=bO.out _ hdr;refine wp_region_noPanic ?_
     refine zkm (fun w':World=>(zN6 w' W.heap.size (.slice A1 L1 c1) (.slice A2 L2 c2) (.int .u8 k) (.int .i64 n) (.string s) (.slice A3 l3 c3)/\zN4 w' (W.heap.size+1) (.int .u8 50) (.int .i64 tn) (.string ts) (.slice (some a) ks.length tc))/\zN4 w' wr.heap.size (.int .u8 u.k) (.int .i64 u.n) (.string u.s) (.slice A4 u.ks.length c4)) zU 40 (by kernel_rfl) ?_;refine zT 0 hSS ?_;refine zT 1 hSS ?_;refine zT 2 hSS ?_;refine zT 4 hSS ?_;refine zT 5 hSS ?_;refine zT 6 hSS ?_;refine zT 7 hSS ?_;refine zT 8 hSS ?_;refine zT 9 hSS ?_;refine zo 3 fun K hK=>?_;refine zkd (by rfl) (.func 131) [.tmp 40,.tmp 41] _ (by rfl) 131 _ zqD (by rfl) _ (by rfl) _ (znG (zom q Aq cq (j:Int) ⟨by omega,by omega⟩ _ _ (HD.out _ (ag.out.chg.trans (Chg.of_below (zkb aA.out hdr)))).2.2.2.1 yM.out (by omega))) ?_;rintro vq w2 ⟨Ac,cc,rfl,hrc,hcc,aj⟩;have b2:=zkb hdr aj
     have aL:=bO.out _ b2;refine hK.out _ _ aL ?_;clear hK K hSS;(try simp only[zQ]);refine zo 10 fun K hK=>?_;refine zkd (by rfl) (.func 132) [.tmp 45,.tmp 46,.tmp 47,.tmp 48] _ (by rfl) 132 _ zoO (by rfl) _ (by rfl) _ (znt (znx p (.nd 50 tn ts ks) j hlt vs A c _ _ _ _ _ _ (HD.out _ (ag.out.chg.trans (Chg.of_below (zkb aA.out b2)))).1 (HD.out _ (ag.out.chg.trans (Chg.of_below (zkb aA.out b2)))).2.1 (HD.out _ (ag.out.chg.trans (Chg.of_below (zkb aA.out b2)))).2.2.1 rY.out)) ?_;rintro vq w3 ⟨rfl,bW⟩;simp only[T.k_nd,T.s_nd,T.ks_nd];have b3:=zkb b2 bW;have bL:=bO.out _ b3;refine hK.out _ _ bL ?_;clear hK K aL;(try simp only[zQ]);refine zo 11 fun K hK=>?_;have hcl:cntA p.prs ts ks.length 0 (ks.take j) vs<=zkW ks:=Nat.le_trans (zpu _ _ _ _ _ _) (zlC _ _);have hF:=ag.out.fs.later (zkb aA.out b3)
     have hR:=aV.out.keep _ _ _ _ ag.out.rd ag.out.fs (Chg.of_below (zkb aA.out b3));refine zlj (by rfl) (.tmp 39) [.tmp 42,.tmp 44,.tmp 49] _ (by rfl) f fn hfn cap (by rfl) _ (by rfl) _ (zmk (aV.out.call _ pv' _ (q++[(j:Int)]) Ac cc u.s _ w3 hR hF (hrc.later bW) (by simp;omega) (by omega))) ?_;rintro vq W6 hp;obtain⟨iL,bR⟩:=ag.out.step aV.out (zkb aA.out b3) hp;have bK:VsI Rd n0 fb Wb pw (N+one1 E0+cntA p.prs ts ks.length 0 (ks.take (j+1)) vs) W6 iL:=by rw[zp5 p.prs ts ks.length vs hlt];simpa[Nat.add_assoc]using bR
     have ax:zW (fun w':World=>(zN6 w' W.heap.size (.slice A1 L1 c1) (.slice A2 L2 c2) (.int .u8 k) (.int .i64 n) (.string s) (.slice A3 l3 c3)/\zN4 w' (W.heap.size+1) (.int .u8 50) (.int .i64 tn) (.string ts) (.slice (some a) ks.length tc))/\zN4 w' wr.heap.size (.int .u8 u.k) (.int .i64 u.n) (.string u.s) (.slice A4 u.ks.length c4)) zU W6:=⟨⟨pG.out _ bK.chg,box4 ((hp.2.elim fun _ h=>h.2.2.block _ (by have:=(zkb aA.out b3).size;have:=b3.size;have:=fq.out;omega) (fun hh=>by have hl:=ag.out.fs.lt;rcases hh with hh|hh;(have:=hl.1;omega);(have:=(hl.2 _ hh).2;omega))).trans ((b3.block _ (by have:=fq.out;omega)).trans gT.out))⟩,trivial⟩
     refine hK.out _ _ ax ?_;clear hK K bL;(try simp only[zQ]);refine zd ?_;refine NoPanic.normal ?_;have iT:=zh bK;clear bK bR hp ax hF hR;go_wp2_with fail
     go_roundw
     case rel=>exact⟨j+1,_,by omega,by go_num,iT.out⟩
     case measure=>simp[intOf];omega
    ·obtain rfl:j=ks.length:=by omega
     clear hinv;go_wp2_with fail;(try simp only[Exit.inBlock,Exit.then]);refine bodyPost_ret (results_none rfl _ _ _) rfl ?_;have hinv:=ag.out;rw[List.take_of_length_le zl]at hinv;have hcc:=aW.out;rw[cntV,sQ.out,if_pos (by decide)]at hcc;rw[<-hcc,<-Nat.add_assoc];exact hinv.rep dI.out ⟨_,rfl⟩
  ·go_wp2_with fail
   go_loopw [34] (fun i wr=>∃(j:Nat) (pv':Value),j<=ks.length/\i=.int .i64 j/\VsI Rd n0 fb Wb pw (N+one1 E0+cntA p.prs ts ks.length 0 (ks.take j) vs) wr pv') (fun i _=>ks.length-(intOf i).toNat)
   case atStart=>exact⟨0,_,Nat.zero_le _,rfl,by simpa[cntA]using HI3.out⟩
   case round =>
    obtain⟨j,pv',hj,rfl,hinv⟩:=hrel;have ag:=zh hinv;clear HI3;by_cases hlt:j<ks.length
    ·obtain⟨-,-,-,-,gX⟩:=HD.out wr hinv.chg;obtain⟨a,u,A4,c4,rfl,hsa,Hu,⟨q0,q1,q2,q3⟩,hnu⟩:=gX.nd hlt;have vL:=zh hnu;clear hinv gX hnu hsa;go_upto_region 6 with fail;have hbk:Below wr.heap.size wr (wr.alloc (.cells #[.int .u8 u.k,.int .i64 u.n,.string u.s,.slice A4 u.ks.length c4] 24)):=zkc zr _;have eu:=heap_alloc_new wr (.cells #[.int .u8 u.k,.int .i64 u.n,.string u.s,.slice A4 u.ks.length c4] 24);obtain⟨wk,hwk⟩:=zX (wr.alloc (.cells #[.int .u8 u.k,.int .i64 u.n,.string u.s,.slice A4 u.ks.length c4] 24));rw[hwk]at hbk eu ⊢;have fq:=zh (show wk.heap.size=wr.heap.size+1 by rw[<-hwk];simp);have aA:=zh hbk;have gT:=zh eu;clear hwk hbk eu
     have bO:=zh (show ∀w':World,Below wk.heap.size wk w'->(fun w':World=>(zN6 w' W.heap.size (.slice A1 L1 c1) (.slice A2 L2 c2) (.int .u8 k) (.int .i64 n) (.string s) (.slice A3 l3 c3)/\zN4 w' (W.heap.size+1) (.int .u8 51) (.int .i64 tn) (.string ts) (.slice (some a) ks.length tc))/\zN4 w' wr.heap.size (.int .u8 u.k) (.int .i64 u.n) (.string u.s) (.slice A4 u.ks.length c4)) w'/\zU w' from fun w' h=>⟨⟨pG.out w' (ag.out.chg.trans (Chg.of_below (zkb aA.out h))),box4 ((h.block _ (by have:=fq.out;omega)).trans gT.out)⟩,trivial⟩);have hdr:=(zs wk).drew;have hSS:=bO.out _ hdr;refine wp_region_noPanic ?_
     refine zkm (fun w':World=>(zN6 w' W.heap.size (.slice A1 L1 c1) (.slice A2 L2 c2) (.int .u8 k) (.int .i64 n) (.string s) (.slice A3 l3 c3)/\zN4 w' (W.heap.size+1) (.int .u8 51) (.int .i64 tn) (.string ts) (.slice (some a) ks.length tc))/\zN4 w' wr.heap.size (.int .u8 u.k) (.int .i64 u.n) (.string u.s) (.slice A4 u.ks.length c4)) zU 40 (by kernel_rfl) ?_;refine zT 0 hSS ?_;refine zT 1 hSS ?_;refine zT 2 hSS ?_;refine zT 4 hSS ?_;refine zT 5 hSS ?_;refine zT 6 hSS ?_;refine zT 7 hSS ?_;refine zT 8 hSS ?_;refine zT 9 hSS ?_;refine zo 3 fun K hK=>?_;refine zkd (by rfl) (.func 131) [.tmp 40,.tmp 41] _ (by rfl) 131 _ zqD (by rfl) _ (by rfl) _ (znG (zom q Aq cq (j:Int) ⟨by omega,by omega⟩ _ _ (HD.out _ (ag.out.chg.trans (Chg.of_below (zkb aA.out hdr)))).2.2.2.1 yM.out (by omega))) ?_;rintro vq w2 ⟨Ac,cc,rfl,hrc,hcc,aj⟩;have b2:=zkb hdr aj
     have aL:=bO.out _ b2;refine hK.out _ _ aL ?_;clear hK K hSS;(try simp only[zQ]);refine zo 10 fun K hK=>?_;refine zkd (by rfl) (.func 132) [.tmp 45,.tmp 46,.tmp 47,.tmp 48] _ (by rfl) 132 _ zoO (by rfl) _ (by rfl) _ (znt (znx p (.nd 51 tn ts ks) j hlt vs A c _ _ _ _ _ _ (HD.out _ (ag.out.chg.trans (Chg.of_below (zkb aA.out b2)))).1 (HD.out _ (ag.out.chg.trans (Chg.of_below (zkb aA.out b2)))).2.1 (HD.out _ (ag.out.chg.trans (Chg.of_below (zkb aA.out b2)))).2.2.1 rY.out)) ?_;rintro vq w3 ⟨rfl,bW⟩;simp only[T.k_nd,T.s_nd,T.ks_nd];have b3:=zkb b2 bW;have bL:=bO.out _ b3;refine hK.out _ _ bL ?_;clear hK K aL;(try simp only[zQ]);refine zo 11 fun K hK=>?_;have hcl:cntA p.prs ts ks.length 0 (ks.take j) vs<=zkW ks:=Nat.le_trans (zpu _ _ _ _ _ _) (zlC _ _);have hF:=ag.out.fs.later (zkb aA.out b3)
     have hR:=aV.out.keep _ _ _ _ ag.out.rd ag.out.fs (Chg.of_below (zkb aA.out b3));refine zlj (by rfl) (.tmp 39) [.tmp 42,.tmp 44,.tmp 49] _ (by rfl) f fn hfn cap (by rfl) _ (by rfl) _ (zmk (aV.out.call _ pv' _ (q++[(j:Int)]) Ac cc u.s _ w3 hR hF (hrc.later bW) (by simp;omega) (by omega))) ?_;rintro vq W6 hp;obtain⟨iL,bR⟩:=ag.out.step aV.out (zkb aA.out b3) hp;have bK:VsI Rd n0 fb Wb pw (N+one1 E0+cntA p.prs ts ks.length 0 (ks.take (j+1)) vs) W6 iL:=by rw[zp5 p.prs ts ks.length vs hlt];simpa[Nat.add_assoc]using bR
     have ax:zW (fun w':World=>(zN6 w' W.heap.size (.slice A1 L1 c1) (.slice A2 L2 c2) (.int .u8 k) (.int .i64 n) (.string s) (.slice A3 l3 c3)/\zN4 w' (W.heap.size+1) (.int .u8 51) (.int .i64 tn) (.string ts) (.slice (some a) ks.length tc))/\zN4 w' wr.heap.size (.int .u8 u.k) (.int .i64 u.n) (.string u.s) (.slice A4 u.ks.length c4)) zU W6:=⟨⟨pG.out _ bK.chg,box4 ((hp.2.elim fun _ h=>h.2.2.block _ (by have:=(zkb aA.out b3).size;have:=b3.size;have:=fq.out;omega) (fun hh=>by have hl:=ag.out.fs.lt;rcases hh with hh|hh;(have:=hl.1;omega);(have:=(hl.2 _ hh).2;omega))).trans ((b3.block _ (by have:=fq.out;omega)).trans gT.out))⟩,trivial⟩
     refine hK.out _ _ ax ?_;clear hK K bL;(try simp only[zQ]);refine zd ?_;refine NoPanic.normal ?_;have iT:=zh bK;clear bK bR hp ax hF hR;go_wp2_with fail
     go_roundw
     case rel=>exact⟨j+1,_,by omega,by go_num,iT.out⟩
     case measure=>simp[intOf];omega
    ·obtain rfl:j=ks.length:=by omega
     clear hinv;go_wp2_with fail;(try simp only[Exit.inBlock,Exit.then]);refine bodyPost_ret (results_none rfl _ _ _) rfl ?_;have hinv:=ag.out;rw[List.take_of_length_le zl]at hinv;have hcc:=aW.out;rw[cntV,sQ.out,if_pos (by decide)]at hcc;rw[<-hcc,<-Nat.add_assoc];exact hinv.rep dI.out ⟨_,rfl⟩
 ·obtain⟨h50,lg⟩:=not_or.1 hcall;have hd50:(tk==50)=false:=beq_false_of_ne h50;have hd51:(tk==51)=false:=beq_false_of_ne lg;go_wp2_with fail
  go_loopw [55] (fun i wr=>∃(j:Nat) (pv':Value),j<=ks.length/\i=.int .i64 j/\VsI Rd n0 fb Wb pw (N+one1 E0+cntK p.prs tk ts 0 (ks.take j) vs) wr pv') (fun i _=>ks.length-(intOf i).toNat)
  case atStart=>exact⟨0,_,Nat.zero_le _,rfl,by simpa[cntK]using HI3.out⟩
  case round =>
   obtain⟨j,pv',hj,rfl,hinv⟩:=hrel;have ag:=zh hinv;clear HI3;by_cases hlt:j<ks.length
   ·obtain⟨-,-,-,-,gX⟩:=HD.out wr hinv.chg;obtain⟨a,u,A4,c4,rfl,hsa,Hu,⟨q0,q1,q2,q3⟩,hnu⟩:=gX.nd hlt;have vL:=zh hnu;clear hinv gX hnu hsa;go_upto_region 11 with fail;have hbk:Below wr.heap.size wr (wr.alloc (.cells #[.int .u8 u.k,.int .i64 u.n,.string u.s,.slice A4 u.ks.length c4] 24)):=zkc zr _;have eu:=heap_alloc_new wr (.cells #[.int .u8 u.k,.int .i64 u.n,.string u.s,.slice A4 u.ks.length c4] 24);obtain⟨wk,hwk⟩:=zX (wr.alloc (.cells #[.int .u8 u.k,.int .i64 u.n,.string u.s,.slice A4 u.ks.length c4] 24));rw[hwk]at hbk eu ⊢;have fq:=zh (show wk.heap.size=wr.heap.size+1 by rw[<-hwk];simp);have aA:=zh hbk;have gT:=zh eu;clear hwk hbk eu
    have bO:=zh (show ∀w':World,Below wk.heap.size wk w'->(fun w':World=>(zN6 w' W.heap.size (.slice A1 L1 c1) (.slice A2 L2 c2) (.int .u8 k) (.int .i64 n) (.string s) (.slice A3 l3 c3)/\zN4 w' (W.heap.size+1) (.int .u8 tk) (.int .i64 tn) (.string ts) (.slice (some a) ks.length tc))/\zN4 w' wr.heap.size (.int .u8 u.k) (.int .i64 u.n) (.string u.s) (.slice A4 u.ks.length c4)) w'/\zU w' from fun w' h=>⟨⟨pG.out w' (ag.out.chg.trans (Chg.of_below (zkb aA.out h))),box4 ((h.block _ (by have:=fq.out;omega)).trans gT.out)⟩,trivial⟩);have hdr:=(zs wk).drew;have hSS:=bO.out _ hdr;refine wp_region_noPanic ?_
    refine zkm (fun w':World=>(zN6 w' W.heap.size (.slice A1 L1 c1) (.slice A2 L2 c2) (.int .u8 k) (.int .i64 n) (.string s) (.slice A3 l3 c3)/\zN4 w' (W.heap.size+1) (.int .u8 tk) (.int .i64 tn) (.string ts) (.slice (some a) ks.length tc))/\zN4 w' wr.heap.size (.int .u8 u.k) (.int .i64 u.n) (.string u.s) (.slice A4 u.ks.length c4)) zU 40 (by kernel_rfl) ?_;refine zT 0 hSS ?_;refine zT 1 hSS ?_;refine zT 2 hSS ?_;refine zT 3 hSS ?_;refine zT 5 hSS ?_;refine zT 6 hSS ?_;refine zT 7 hSS ?_;refine zT 9 hSS ?_;refine zo 4 fun K hK=>?_;refine zkd (by rfl) (.func 131) [.tmp 62,.tmp 63] _ (by rfl) 131 _ zqD (by rfl) _ (by rfl) _ (znG (zom q Aq cq (j:Int) ⟨by omega,by omega⟩ _ _ (HD.out _ (ag.out.chg.trans (Chg.of_below (zkb aA.out hdr)))).2.2.2.1 yM.out (by omega))) ?_;rintro vq w2 ⟨Ac,cc,rfl,hrc,hcc,aj⟩;have b2:=zkb hdr aj;have aL:=bO.out _ b2
    refine hK.out _ _ aL ?_;clear hK K hSS;(try simp only[zQ]);refine zo 8 fun K hK=>?_;refine zkd (by rfl) (.func 133) [.tmp 65,.tmp 66,.tmp 67] _ (by rfl) 133 _ zw2 (by rfl) _ (by rfl) _ (zsx (ztd (.nd tk tn ts ks) j (by omega) vs A c _ _ _ _ (HD.out _ (ag.out.chg.trans (Chg.of_below (zkb aA.out b2)))).2.1 (HD.out _ (ag.out.chg.trans (Chg.of_below (zkb aA.out b2)))).2.2.1 iR.out (by omega))) ?_;simp only[T.k_nd,T.s_nd,T.ks_nd];rintro vq w3 ⟨Av,cv,rfl,fM,hcv,bW⟩;have b3:=zkb b2 bW;have bL:=bO.out _ b3;refine hK.out _ _ bL ?_;clear hK K aL;(try simp only[zQ]);refine zo 10 fun K hK=>?_;have hcl:cntK p.prs tk ts 0 (ks.take j) vs<=zkW (ks.take j):=zqJ _ _ _ _ (fun t _ vs=>ztx _ t vs) _ _;have hsz:=zlC ks (j+1);rw[zrL ks j hlt,Hu.out]at hsz;have hmem:u∈ks:=by rw[<-Hu.out];exact List.getElem_mem hlt
    have hdu:=zwr hmem;have hil:=zrW tk ts j vs;have hzb:=ag.out.chg.size;have hz0:=oG.out;have hzk:=fq.out;have hfl:=ag.out.fs.lt;have hF:=ag.out.fs.later (zkb aA.out b3);have hR:=aV.out.keep _ _ _ _ ag.out.rd ag.out.fs (Chg.of_below (zkb aA.out b3));have hzz:=hdr.size;have wD:=aj.size;have hzw2:=b2.size
    refine zkd (by rfl) (.func 108) [.tmp 60,.tmp 61,.tmp 64,.tmp 68,.tmp 69] _ (by rfl) 108 _ zwZ (by rfl) _ (by rfl) _ (zmk (vQ.out u hmem (fun b=>(S b/\b<W.heap.size)\/wk.heap.size<=b) (zmm tk ts j vs) Av cv (q++[(j:Int)]) Ac cc (N+one1 E0+cntK p.prs tk ts 0 (ks.take j) vs) pv' w3 _ _ hR hF ((HD.out _ (ag.out.chg.trans (Chg.of_below (zkb aA.out b3)))).1.keep (fun b hb _=>.inl hb) (fun _ _ _=>rfl)) ((vL.out.later (zkb aA.out b3)).keep (fun b hb _=>.inl hb) (fun _ _ _=>rfl)) (fM.mono fun b hb=>by rcases hb with hb|hb;exact .inl hb;exact .inr (by omega)) hcv ((hrc.later bW).mono fun b hb=>.inr (by have:_<=b:=hb;omega)) hcc (fun b hb hlt' hh=>?_) (by simp;omega) (by omega) (by omega))) ?_
    ·rcases hb with⟨hb,hbl⟩|hb
     ·refine HFAR.out b hb hbl (hh.imp id fun h=>?_);rcases ag.out.own b h with h1|h1
      ·exact h1
      ·omega
     ·rcases hh with rfl|hh
      ·omega
      ·have:=hfl.2 b hh;omega
    rintro vq W6 hp;obtain⟨iL,bR⟩:=ag.out.step aV.out (zkb aA.out b3) hp;have bK:VsI Rd n0 fb Wb pw (N+one1 E0+cntK p.prs tk ts 0 (ks.take (j+1)) vs) W6 iL:=by rw[zty p.prs tk ts vs hlt,Hu.out];simpa[Nat.add_assoc]using bR
    have ax:zW (fun w':World=>(zN6 w' W.heap.size (.slice A1 L1 c1) (.slice A2 L2 c2) (.int .u8 k) (.int .i64 n) (.string s) (.slice A3 l3 c3)/\zN4 w' (W.heap.size+1) (.int .u8 tk) (.int .i64 tn) (.string ts) (.slice (some a) ks.length tc))/\zN4 w' wr.heap.size (.int .u8 u.k) (.int .i64 u.n) (.string u.s) (.slice A4 u.ks.length c4)) zU W6:=⟨⟨pG.out _ bK.chg,box4 ((hp.2.elim fun _ h=>h.2.2.block _ (by have:=(zkb aA.out b3).size;have:=b3.size;have:=fq.out;omega) (fun hh=>by have hl:=ag.out.fs.lt;rcases hh with hh|hh;(have:=hl.1;omega);(have:=(hl.2 _ hh).2;omega))).trans ((b3.block _ (by have:=fq.out;omega)).trans gT.out))⟩,trivial⟩
    refine hK.out _ _ ax ?_;clear hK K bL;(try simp only[zQ]);refine zd ?_;refine NoPanic.normal ?_;have iT:=zh bK;clear bK bR hp ax hF hR;go_wp2_with fail
    go_roundw
    case rel=>exact⟨j+1,_,by omega,by go_num,iT.out⟩
    case measure=>simp[intOf];omega
   ·obtain rfl:j=ks.length:=by omega
    clear hinv;go_wp2_with fail;go_end0;have hinv:=ag.out;rw[List.take_of_length_le zl]at hinv;have hcc:=aW.out;rw[cntV,sQ.out,if_neg hcall]at hcc;rw[<-hcc,<-Nat.add_assoc];exact hinv.rep dI.out ⟨_,rfl⟩
theorem zwV(k n:Int)(s:ByteArray)(ks:List T):isB (.nd k n s ks)=true↔k=57/\zko n s=true/\∀t∈ks,isS t=true:=by
 rw[isB];simp only[Bool.and_eq_true,decide_eq_true_eq,and_assoc];refine and_congr Iff.rfl (and_congr Iff.rfl ?_);rw[zpm 0,zkI]
 constructor
 ·intro h t ht;obtain⟨q,hq,rfl⟩:=List.getElem_of_mem ht;exact h q hq
 ·intro h q hq;exact h _ (List.getElem_mem hq)
theorem zyH{t:T}(h:isB t=true):t.k=57:=by cases t;exact((zwV _ _ _ _).1 h).1
theorem zni{x:T}:∀ {l:List T},x∈pos l↔∃t∈l,x∈po t
 | []=>by simp[pos]
 | t::ts=>by simp[pos,zni (l:=ts)]
theorem zs4:∀(ks:List T),(∀t∈ks,∀d l,lim t d l=if dep t<=d/\size t<=l then some (l-size t)else none)->∀d l,lims ks d l=if deps ks<=d/\zkW ks<=l then some (l-zkW ks)else none
 | [],_,d,l=>by simp[lims,deps,zkW]
 | t::ts,h,d,l=>by
  have e1:deps (t::ts)=max (dep t) (deps ts):=by rw[deps]
  have e2:zkW (t::ts)=size t+zkW ts:=by rw[zkW]
  rw[lims,h t (by simp) d l];by_cases h1:dep t<=d/\size t<=l
  ·rw[if_pos h1];simp only;rw[zs4 ts (fun u hu=>h u (by simp[hu])) d (l-size t)];by_cases h2:deps ts<=d/\zkW ts<=l-size t
   ·rw[if_pos h2,if_pos ⟨by omega,by omega⟩];congr 1;omega
   ·rw[if_neg h2,if_neg (by omega)]
  ·rw[if_neg h1];simp only;rw[if_neg (by omega)]
theorem zxT(t:T):∀d l,lim t d l=if dep t<=d/\size t<=l then some (l-size t)else none:=by
 induction t using T.ind with
 | _ k n s ks ih =>
 intro d l;have e1:dep (.nd k n s ks)=1+deps ks:=by rw[dep]
 have e2:size (.nd k n s ks)=1+zkW ks:=by rw[size]
 rw[lim];by_cases h:d=0\/l=0
 ·rw[if_pos h,if_neg (by omega)]
 ·rw[if_neg h,zs4 ks ih];by_cases h2:deps ks<=d-1/\zkW ks<=l-1
  ·rw[if_pos h2,if_pos ⟨by omega,by omega⟩];congr 1;omega
  ·rw[if_neg h2,if_neg (by omega)]
theorem zu6{k n:Int}{s:ByteArray}{ks:List T}(h:isE (.nd k n s ks)=true):∀t∈ks,isE t=true:=by
 have key:isEs ks=true->∀t∈ks,isE t=true:=by
  intro h t ht;rw[znk 0,zkI]at h;obtain⟨i,hi,rfl⟩:=List.getElem_of_mem ht;exact h i hi
 have nil:decide (ks.length=0)=true->∀t∈ks,isE t=true:=by
  intro h t ht;have:ks=[]:=by simpa using h
  rw[this]at ht;cases ht
 rw[isE]at h
 split at h
 ·simp only[Bool.and_eq_true]at h;exact nil h.2
 split at h
 ·simp only[Bool.and_eq_true]at h;exact nil h.2
 split at h
 ·simp only[Bool.and_eq_true]at h;exact key h.2.2
 split at h
 ·simp only[Bool.and_eq_true]at h;exact key h.2.2
 split at h
 ·simp only[Bool.and_eq_true]at h;exact key h.2.2
 ·cases h
theorem zu5{t:T}(h:isP t=true):isE t=true:=by unfold isP at h;simp only[Bool.and_eq_true]at h;exact h.2
theorem zyG{t:T}(h:isV t=true):isE t=true:=by unfold isV at h;simp only[Bool.and_eq_true]at h;exact h.2
theorem zm0{m:Nat}{p:Nat->T->Bool}{ks:List T}(h:zkF m p ks=true){t:T}(ht:t∈ks):∃i,p i t=true:=by
 unfold zkF at h;simp only[Bool.and_eq_true]at h;have:=(zkI p 0 ks).1 h.2;obtain⟨i,hi,rfl⟩:=List.getElem_of_mem ht;exact⟨0+i,this i hi⟩
theorem zpn{d:Nat}{ks:List T}(h:isEB d ks=true){t:T}(ht:t∈ks):isE t=true\/isB t=true:=by
 have h':isEB (d+0) ks=true:=h;rw[znl d 0]at h';have:=(zkI _ 0 ks).1 h';obtain⟨i,hi,rfl⟩:=List.getElem_of_mem ht;have h2:=this i hi;unfold pEB at h2
 split at h2
 ·exact .inl h2
 ·exact .inr h2
theorem zwi{k n:Int}{s:ByteArray}{ks:List T}(h:isS (.nd k n s ks)=true):k≠57/\∀t∈ks,isE t=true\/isB t=true:=by
 rw[isS]at h
 split at h
 ·rename_i hk;simp only[Bool.and_eq_true]at h;refine⟨by omega,fun t ht=>?_⟩;obtain⟨i,hi⟩:=zm0 h.2 ht
  split at hi
  ·exact .inl (zu5 hi)
  ·exact .inl hi
 split at h
 ·rename_i hk;simp only[Bool.and_eq_true]at h;refine⟨by omega,fun t ht=>?_⟩;obtain⟨i,hi⟩:=zm0 h.2 ht;exact .inl (zu5 hi)
 split at h
 ·rename_i hk;simp only[Bool.and_eq_true]at h;refine⟨by omega,fun t ht=>?_⟩;obtain⟨i,hi⟩:=zm0 h.2 ht;exact .inl (zu5 hi)
 split at h
 ·rename_i hk;simp only[Bool.and_eq_true]at h;refine⟨by omega,fun t ht=>?_⟩;obtain⟨i,hi⟩:=zm0 h.2 ht;exact .inl (zu5 hi)
 split at h
 ·rename_i hk;simp only[Bool.and_eq_true]at h;refine⟨by omega,fun t ht=>?_⟩;have:=(zkI _ 0 ks).1 h.2;obtain⟨i,hi,rfl⟩:=List.getElem_of_mem ht;exact .inl (zyG (this i hi))
 split at h
 ·rename_i hk;simp only[Bool.and_eq_true]at h;exact⟨by omega,fun t ht=>zpn h.2.2 ht⟩
 split at h
 ·rename_i hk;simp only[Bool.and_eq_true]at h;exact⟨by omega,fun t ht=>zpn h.2.2 ht⟩
 split at h
 ·rename_i hk;simp only[Bool.and_eq_true]at h;exact⟨by omega,fun t ht=>zpn h.2.2 ht⟩
 ·cases h
theorem zm1{k n:Int}{s:ByteArray}{ks:List T}(h:isS (.nd k n s ks)=true) :
  ((k≠52/\k≠53/\k≠54/\k≠55/\k≠57)/\∀t∈ks,t.k≠57) \/
  ((k=52\/k=53)/\zko n s=true/\∃a b c d,ks=[a,b,c,d]/\isE a=true/\isB b=true/\isB c=true/\isE d=true) \/
  (k=54/\zkz n s=true/\∃a b c,ks=[a,b,c]/\isE a=true/\isB b=true/\isE c=true) \/
  (k=55/\zkz n s=true/\∃b,ks=[b]/\isB b=true):=by
 have key:∀(p:Nat->T->Bool),(∀j t,p j t=true->t.k≠57)->zky p 0 ks=true->∀t∈ks,t.k≠57:=by
  intro p hp hk t ht;obtain⟨q,hq,rfl⟩:=List.getElem_of_mem ht;exact hp _ _ ((zkI p 0 ks).1 hk q hq)
 have kE:∀t,isE t=true->t.k≠57:=fun t h1=>by have:=zu7 t h1;omega
 rw[isS]at h
 repeat' split at h
 ·simp only[zkF,Bool.and_eq_true]at h;exact .inl ⟨by omega,key _ (fun j t hj=>by split at hj;exact zu4 t hj;exact kE t hj) h.2.2⟩
 ·simp only[zkF,Bool.and_eq_true]at h;exact .inl ⟨by omega,key _ (fun j t=>zu4 t) h.2.2⟩
 ·simp only[zkF,Bool.and_eq_true]at h;exact .inl ⟨by omega,key _ (fun j t=>zu4 t) h.2.2⟩
 ·simp only[zkF,Bool.and_eq_true]at h;exact .inl ⟨by omega,key _ (fun j t=>zu4 t) h.2.2⟩
 ·simp only[Bool.and_eq_true]at h;exact .inl ⟨by omega,key _ (fun j t=>zyF t) h.2⟩
 ·rename_i hk;simp only[Bool.and_eq_true,decide_eq_true_eq]at h;obtain⟨h1,h2,h3⟩:=h
  match ks,h2 with
  | [a,b,c,d],_ =>
   simp only[isEB,Bool.and_eq_true,Bool.and_true]at h3;simp at h3;exact .inr (.inl ⟨hk,h1,a,b,c,d,rfl,h3.1,h3.2.1,h3.2.2.1,h3.2.2.2⟩)
 ·rename_i hk;simp only[Bool.and_eq_true,decide_eq_true_eq]at h;obtain⟨h1,h2,h3⟩:=h
  match ks,h2 with
  | [a,b,c],_ =>
   simp only[isEB,Bool.and_eq_true,Bool.and_true]at h3;simp at h3;exact .inr (.inr (.inl ⟨hk,h1,a,b,c,rfl,h3.1,h3.2.1,h3.2.2⟩))
 ·rename_i hk;simp only[Bool.and_eq_true,decide_eq_true_eq]at h;obtain⟨h1,h2,h3⟩:=h
  match ks,h2 with
  | [b],_ =>
   simp only[isEB,Bool.and_eq_true,Bool.and_true]at h3;simp at h3;exact .inr (.inr (.inr ⟨hk,h1,b,rfl,h3⟩))
 ·cases h
section
variable {P:Program} {ops:Array Oper} {Q:Exit->Act->World->Prop} {md:Region.Mode} {S1 S2:World->Prop} {k:Nat}
theorem zwz{i j:Nat}{o o':Oper}{fuel:Nat}{listed:Array Bool}{a:Act}{w:World}(hr:Region.ready md ops listed=[i,j])(ho:ops[i]?=some o)(ho':ops[j]?=some o')
  (h:∀K':Act->World->Prop,Shut (∀a w,S1 w/\S2 w->wpG P md ops Q S1 S2 k fuel (listed.setIfInBounds i true) a w->K' a w)->if Region.wanted o (yielded ops a.tmps)=true then Oper.wp P o a w K' Q else K' (a.put o.dst undef) w)
  (h':∀K':Act->World->Prop,Shut (∀a w,S1 w/\S2 w->wpG P md ops Q S1 S2 k fuel (listed.setIfInBounds j true) a w->K' a w)->if Region.wanted o' (yielded ops a.tmps)=true then Oper.wp P o' a w K' Q else K' (a.put o'.dst undef) w) :
  wpG P md ops Q S1 S2 k (fuel+1) listed a w:=by
 refine⟨(fun h0=>by rw[hr]at h0;cases h0),fun x hx=>?_⟩;rw[hr]at hx;simp only[List.mem_cons,List.not_mem_nil,or_false]at hx;rcases hx with rfl|rfl
 ·exact wpOp_step ho fun K' hK=>h K' fun a w hS hW=>hK a w ⟨⟨hS.1,fun _=>hS.2⟩,hW⟩
 ·exact wpOp_step ho' fun K' hK=>h' K' fun a w hS hW=>hK a w ⟨⟨hS.1,fun _=>hS.2⟩,hW⟩
end
def frsN(vs:List VD):Nat->Nat
 | 0=>0
 | j+1=>frsN vs j+(if h:j<vs.length then one1 (zmo (vs.take j) vs[j].s)else 0)
theorem zm3{vs:List VD}{j:Nat}(h:j<vs.length):frsN vs (j+1)=frsN vs j+one1 (zmo (vs.take j) vs[j].s):=by simp[frsN,h]
theorem zmn(vs:List VD):∀j,frsN vs j<=j
 | 0=>by simp[frsN]
 | j+1=>by
  have h:=zmn vs j;rw[frsN]
  split
  ·have:=zmK (zmo (vs.take j) vs[j].s);omega
  ·omega
def prcE(ps:List PR)(j:Nat)(r:PR):Nat:=one1 (if zlx ps r.s<(j:Int)then 22 else 0)+frsN r.ps r.ps.length+cntV ps r.b r.ps
def prcN(ps:List PR):Nat->Nat
 | 0=>0
 | j+1=>prcN ps j+(if h:j<ps.length then prcE ps j ps[j]else 0)
theorem znX{ps:List PR}{j:Nat}(h:j<ps.length):prcN ps (j+1)=prcN ps j+prcE ps j ps[j]:=by simp[prcN,h]
def chkN(p:PG):Nat:=frsN p.vs p.vs.length+prcN p.prs p.prs.length+cntV p.prs p.m p.vs
theorem zoA{t:T}(h:zly t=true):dep t<=80/\size t<=2000:=by
 simp only[zly,Bool.and_eq_true]at h;have h1:=h.1;rw[zxT]at h1
 split at h1
 ·assumption
 ·simp at h1
theorem zmh{p:PG}(h:zlb p=true):p.vs.length<=32/\p.prs.length<=64/\(∀r∈p.prs,r.ps.length<=8/\dep r.b<=80/\size r.b<=2000)/\dep p.m<=80/\size p.m<=2000:=by
 simp only[zlb,Bool.and_eq_true,decide_eq_true_eq,List.all_eq_true]at h;refine⟨h.1.1.1.1,h.1.1.1.2,fun r hr=>?_,zoA h.2⟩;have:=h.1.2 r hr;simp only[zor,Bool.and_eq_true,decide_eq_true_eq]at this;exact⟨this.1.1.2,zoA this.2⟩
theorem zqt(ps:List PR)(h:∀r∈ps,r.ps.length<=8/\dep r.b<=80/\size r.b<=2000):∀j,prcN ps j<=j*2009
 | 0=>by simp[prcN]
 | j+1=>by
  have h1:=zqt ps h j;rw[prcN]
  split
  ·rename_i hj;have h2:=h _ (List.getElem_mem hj);have h3:=zmK (if zlx ps ps[j].s<(j:Int)then 22 else 0);have h4:=zmn ps[j].ps ps[j].ps.length;have h5:=ztx ps ps[j].b ps[j].ps;unfold prcE;omega
  ·omega
theorem RowV.take{w:World}{S:Nat->Prop}{A:Option Addr}{vs:List VD}(h:RowV w S A vs)(j:Nat):RowV w S A (vs.take j):=fun i hi=>by
 have h1:i<vs.length:=by simp at hi;omega
 obtain⟨a,h2,h3,h4,h5⟩:=h i h1;exact⟨a,h2,h3,by simpa using h4,by simpa using h5⟩
theorem RowI.nil{w:World}{S:Nat->Prop}{A:Option Addr}:RowI w S A []:=fun i hi=>by simp at hi
theorem zpQ(w:World)(j:Int)(hj:I64 j):RowI (w.alloc (.cells #[.int .i64 j] 3)) Any (some ⟨w.heap.size,0,none⟩) [j]:=fun i hi=>by
 simp only[List.length_singleton,Nat.lt_one_iff]at hi;subst hi;exact⟨_,rfl,trivial,zlu w 3 [.int .i64 j] 0 _ rfl,hj⟩
theorem zmw(n0 fb N:Nat)(pv:Value)(pr er:Int)(q:List Int)(A:Option Addr)(c:Nat)(s:ByteArray)(S:Nat->Prop)(W:World)(hfs:FS W n0 fb N pv)(hq:RowI W S A q)(lI:q.length<=100000)(hN:N<=1000000) :
  Calls Tryz.prog 105 ([.int .i64 pr,.slice A q.length c,.string s,.int .i64 er].toArray ++ #[.pointer (some ⟨fb,0,none⟩)]) W (RepP W n0 fb pv (N+one1 er)):=by
 simpa using zmx n0 fb N pv pr er q A c s S W hfs hq lI hN
theorem VsI.chg2{Rd:World->Prop}{n0 fb:Nat}{Wb wr wk w':World}{pv pv':Value}{N:Nat}(h:VsI Rd n0 fb Wb pv N wr pv')(hb:Below wr.heap.size wr wk)(hc:Chg (fun b=>b=fb\/pv'.ownBlock=some b) wk w'):Chg (fun b=>b=fb\/pv.ownBlock=some b) Wb w' :=
 (h.chg.trans (Chg.of_below hb)).trans2 hc fun b hlt hh=>by
  rcases hh with hh|hh
  ·exact .inl hh
  ·rcases h.own b hh with h1|h1
   ·exact .inr h1
   ·omega
theorem VsI.stepK{Rd:World->Prop}{n0 fb:Nat}{Wb wr w5 W6:World}{pv pv':Value}{N N':Nat}{e:Ending}(hk:∀W W' pv N,Rd W->FS W n0 fb N pv->Chg (fun b=>b=fb\/pv.ownBlock=some b) W W'->Rd W')(h:VsI Rd n0 fb Wb pv N wr pv')(hb:Below wr.heap.size wr w5)(hp:RepP w5 n0 fb pv' N' e W6) :
  ∃iU,VsI Rd n0 fb Wb pv N' W6 iU:=by
 obtain⟨_,iU,hfs,bX,hc⟩:=hp;have qR:=h.fs.later hb;have hz:=h.chg.size;have mZ:=hb.size;refine⟨iU,hk w5 W6 pv' N (hk wr w5 pv' N h.rd h.fs (Chg.of_below hb)) qR hc,hfs,fun b hb'=>?_,h.chg2 hb hc⟩;rcases bX b hb' with h1|h1
 ·exact h.own b h1
 ·exact .inr (by omega)
theorem zmz(vs:List VD)(j:Nat)(hj:j<=vs.length)(A:Option Addr)(c:Nat)(s:ByteArray)(S:Nat->Prop)(w:World)(hrow:RowV w S A vs)(hl:vs.length<=LV) :
  Calls Tryz.prog 106 #[.slice A j c,.string s] w fun e w'=>e=.returned (.int .i64 (zmo (vs.take j) s))/\Below w.heap.size w w':=by
 have h:=zoa (vs.take j) A c s S w (hrow.take j) (by simp;omega);rwa[show(vs.take j).length=j by simp;omega]at h
theorem zpp:IsFn Tryz.prog 106 Tryz.f106:=⟨Tryz.func106,by kernel_rfl,by kernel_rfl⟩
theorem zw1:IsFn Tryz.prog 107 Tryz.f107:=⟨Tryz.func107,by kernel_rfl,by kernel_rfl⟩
theorem zrn:IsFn Tryz.prog 105 Tryz.f105:=⟨Tryz.func105,by kernel_rfl,by kernel_rfl⟩
theorem zr5(p:PG)(S:Nat->Prop)(v:Value)(W:World)(hv:PV W S p v):Calls Tryz.prog 77 #[v] W fun e w'=>∃A c,e=.returned (.slice A (if zlb p=true then chkN p else 0) c)/\Below W.heap.size W w':=by
 obtain⟨NN,yt⟩:=zX ((if zlb p=true then chkN p else 0));rw[yt];have jO:=zh yt;clear yt;have hvv:=hv;obtain⟨A1,c1,A2,c2,A3,c3,rfl,hr⟩:=hv;have hlv:=zlw hr.lv;have hlp:=zlw hr.lp;obtain⟨L1,hL1⟩:=zX (p.vs.length);obtain⟨L2,hL2⟩:=zX (p.prs.length);obtain⟨k,hk⟩:=zX (p.m.k);obtain⟨n,hn⟩:=zX (p.m.n);obtain⟨s,hs⟩:=zX (p.m.s);obtain⟨l3,hl3⟩:=zX (p.m.ks.length);rw[hL1,hL2,hk,hn,hs,hl3];rw[hL1,hL2,hk,hn,hs,hl3]at hvv;rw[hL1]at hlv;rw[hL2]at hlp;have vB:=zh hvv;have HR:=zh hr;have nL:=zh hL1;have HL2:=zh hL2;have uh:=zh (show p.m.k=k/\p.m.n=n/\p.m.s=s/\p.m.ks.length=l3 from⟨hk,hn,hs,hl3⟩);clear hvv hr hL1 hL2 hk hn hs hl3;go_enter Tryz.func77,Tryz.ntmps77;go_wp2_with fail;refine(zqe p S _ _ (vB.out.later (zkc zr _))).mono ?_;rintro e w1 ⟨rfl,aa⟩;have b1:Below W.heap.size W w1:=zkb (zkc zr _) aa
 have hp1:=(aa.block W.heap.size (by simp)).trans (heap_alloc_new W (.cells #[.slice A1 L1 c1,.slice A2 L2 c2,.int .u8 k,.int .i64 n,.string s,.slice A3 l3 c3] 55));have hz1:=aa.size;simp only[World.size_alloc]at hz1;have HB1:=zh b1;have HP1:=zh hp1;have HZ1:=zh hz1;obtain⟨a0,a1,a2,a3,a4,a5⟩:=box6 hp1;clear aa b1 hp1
 cases hvb:zlb p
 ·have hN0:NN=0:=by rw[<-jO.out,hvb];rfl
  subst hN0;go_wp2_with fail;go_ret;exact⟨none,0,rfl,HB1.out⟩
 ·have fu:=zh (zmh hvb);have HNN2:=zh (show chkN p=NN by rw[<-jO.out,hvb];rfl);clear hvb jO;go_upto_region 5 with fail;obtain⟨fb,pM⟩:=zX (w1.heap.size);rw[pM];have uA:W.heap.size+1<=fb:=by omega
  have hbw:Below W.heap.size W ((w1.alloc (.cells #[.slice none 0 0] 131)).alloc (.cells #[.func (.func 105) #[] #[.pointer (some ⟨fb,0,none⟩)]] 169)):=zkc (zkc HB1.out _) _;have wP:=zke (heap_alloc_new w1 (.cells #[.slice none 0 0] 131)) (.cells #[.func (.func 105) #[] #[.pointer (some ⟨fb,0,none⟩)]] 169);have hbR:=heap_alloc_new (w1.alloc (.cells #[.slice none 0 0] 131)) (.cells #[.func (.func 105) #[] #[.pointer (some ⟨fb,0,none⟩)]] 169);simp only[World.size_alloc]at hbR;rw[pM]at wP hbR;have pO:=zke (zke HP1.out (.cells #[.slice none 0 0] 131)) (.cells #[.func (.func 105) #[] #[.pointer (some ⟨fb,0,none⟩)]] 169);obtain⟨Wb,q9⟩:=zX ((w1.alloc (.cells #[.slice none 0 0] 131)).alloc (.cells #[.func (.func 105) #[] #[.pointer (some ⟨fb,0,none⟩)]] 169));rw[q9]at hbw wP hbR pO ⊢;have oG:=zh (show Wb.heap.size=fb+2 by rw[<-q9,<-pM];simp);have dI:=zh hbw
  have HZF:=zh uA;clear q9 pM a0 a1 a2 a3 a4 a5 HP1 HZ1 HB1 hz1;have hrep:=zwa fb fb (fb+1) W.heap.size A1 L1 c1 A2 L2 c2 k n s A3 l3 c3;obtain⟨Rd,rA⟩:∃Rd:World->Prop,(fun W':World=>W'.heap[fb+1]?=some (.cells #[.func (.func 105) #[] #[.pointer (some ⟨fb,0,none⟩)]] 169 (0,0))/\W'.heap[W.heap.size]?=some (.cells #[.slice A1 L1 c1,.slice A2 L2 c2,.int .u8 k,.int .i64 n,.string s,.slice A3 l3 c3] 55 (0,0)))=Rd:=⟨_,rfl⟩
  rw[rA]at hrep;have aV:=zh hrep;have ll:=zh (show ∀w':World,Rd w'->w'.heap[fb+1]?=some (.cells #[.func (.func 105) #[] #[.pointer (some ⟨fb,0,none⟩)]] 169 (0,0))/\w'.heap[W.heap.size]?=some (.cells #[.slice A1 L1 c1,.slice A2 L2 c2,.int .u8 k,.int .i64 n,.string s,.slice A3 l3 c3] 55 (0,0))from fun w' h=>by rw[<-rA]at h;exact h);have aW:=zh (show ∀w':World,Rd w'->(fun w':World=>(zN6 w' W.heap.size (.slice A1 L1 c1) (.slice A2 L2 c2) (.int .u8 k) (.int .i64 n) (.string s) (.slice A3 l3 c3))/\(zv w' (fb+1) 0 (.func (.func 105) #[] #[.pointer (some ⟨fb,0,none⟩)]))) w' from fun w' h=>⟨box6 (ll.out w' h).2,zc (ll.out w' h).1 rfl⟩);have HI0:=zh (show VsI Rd fb fb Wb (.slice none 0 0) 0 Wb (.slice none 0 0)from⟨by rw[<-rA];exact⟨hbR,pO⟩,⟨wP,⟨[],World.ownsRow_nil _ _ _ _⟩,zl,by simp[Value.ownBlock]⟩,fun b hb=>.inl hb,Chg.refl _ _⟩)
  have aQ:=zh (show ∀w':World,Chg (fun b=>b=fb\/(Value.slice none 0 0).ownBlock=some b) Wb w'->∀b,S b->b<W.heap.size->w'.heap[b]?=W.heap[b]? from fun w' h b hb hlt=>(h.block b (by have:=oG.out;omega) (fun hh=>by rcases hh with hh|hh;omega;simp[Value.ownBlock]at hh)).trans (dI.out.block b hlt));have HD:=zh (show ∀w':World,Chg (fun b=>b=fb\/(Value.slice none 0 0).ownBlock=some b) Wb w'->PV w' (fun b=>S b/\b<W.heap.size) p _/\PgR w' (fun b=>S b/\b<W.heap.size) p A1 c1 A2 c2 A3 c3 from fun w' h=>⟨vB.out.keep (fun b hb hlt=>⟨hb,hlt⟩) (aQ.out w' h),HR.out.keep (fun b hb hlt=>⟨hb,hlt⟩) (aQ.out w' h)⟩);have hl32:L1<=32:=by have:=fu.out.1;rw[nL.out]at this;exact this
  have hl64:L2<=64:=by have:=fu.out.2.1;rw[HL2.out]at this;exact this
  have hlc1:L1<=c1:=by have:=HR.out.lvc;rw[nL.out]at this;exact this
  have nW:L2<=c2:=by have:=HR.out.lpc;rw[HL2.out]at this;exact this
  obtain⟨⟨a0,a1,a2,a3,a4,a5⟩,ar⟩:=aW.out _ HI0.out.rd;clear hrep rA hbR pO wP hbw;go_wp2_with fail
  go_loopw [18] (fun i wr=>∃(j:Nat) (pv':Value),j<=L1/\i=.int .i64 j/\VsI Rd fb fb Wb (.slice none 0 0) (frsN p.vs j) wr pv') (fun i _=>L1-(intOf i).toNat)
  case atStart=>exact⟨0,_,Nat.zero_le _,rfl,HI0.out⟩
  case round =>
   obtain⟨j,pv',hj,rfl,hinv⟩:=hrel;have ag:=zh hinv;clear HI0 a0 a1 a2 a3 a4 a5 ar;by_cases hlt:j<L1
   ·have gY:j<p.vs.length:=by rw[nL.out];exact hlt
    obtain⟨a,u,rfl,hsa,Hu,⟨q0,q1,q2⟩,hfu⟩:=(HD.out wr hinv.chg).2.vars.nd gY;have hjc:(j:Int)<=(c1:Int):=by omega
    have hj0:(0:Int)<=(j:Int):=by omega
    obtain⟨⟨a0,a1,a2,a3,a4,a5⟩,ar⟩:=aW.out _ hinv.rd;clear hinv hsa hfu;go_upto_region 8 with fail;have hbk:Below wr.heap.size wr (wr.alloc (.cells #[.string u.s,.int .u8 u.k,.int .i64 u.n] 76)):=zkc zr _;have eu:=heap_alloc_new wr (.cells #[.string u.s,.int .u8 u.k,.int .i64 u.n] 76);obtain⟨wk,hwk⟩:=zX (wr.alloc (.cells #[.string u.s,.int .u8 u.k,.int .i64 u.n] 76));rw[hwk]at hbk eu ⊢;have fq:=zh (show wk.heap.size=wr.heap.size+1 by rw[<-hwk];simp);have aA:=zh hbk;have gT:=zh eu;clear hwk hbk eu a0 a1 a2 a3 a4 a5 ar q0 q1 q2;have HRW:=zh (show ∀w':World,Below wk.heap.size wk w'->Rd w' from fun w' h=>aV.out.keep _ _ _ _ ag.out.rd ag.out.fs (Chg.of_below (zkb aA.out h)))
    have bO:=zh (show ∀w':World,Below wk.heap.size wk w'->(fun w':World=>(zN6 w' W.heap.size (.slice (some a) L1 c1) (.slice A2 L2 c2) (.int .u8 k) (.int .i64 n) (.string s) (.slice A3 l3 c3)/\(zv w' (fb+1) 0 (.func (.func 105) #[] #[.pointer (some ⟨fb,0,none⟩)])))/\zN3 w' wr.heap.size (.string u.s) (.int .u8 u.k) (.int .i64 u.n)) w'/\zU w' from fun w' h=>⟨⟨aW.out _ (HRW.out w' h),box3 ((h.block _ (by have:=fq.out;omega)).trans gT.out)⟩,trivial⟩);have hdr:=(zs wk).drew;have hSS:=bO.out _ hdr;have hbI:=zpx;have hN:=zmn p.vs j;refine wp_region_noPanic ?_;refine zkm (fun w':World=>(zN6 w' W.heap.size (.slice (some a) L1 c1) (.slice A2 L2 c2) (.int .u8 k) (.int .i64 n) (.string s) (.slice A3 l3 c3)/\(zv w' (fb+1) 0 (.func (.func 105) #[] #[.pointer (some ⟨fb,0,none⟩)])))/\zN3 w' wr.heap.size (.string u.s) (.int .u8 u.k) (.int .i64 u.n)) zU 40 (by kernel_rfl) ?_
    refine zT 0 hSS ?_;refine zT 1 hSS ?_;refine zT 3 hSS ?_;refine zT 4 hSS ?_;refine zT 5 hSS ?_;refine zT 6 hSS ?_;refine zT 7 hSS ?_;refine zT 8 hSS ?_;refine zT 9 hSS ?_;refine zT 10 hSS ?_;refine zwz (i:=2) (j:=11) (by kernel_rfl) rfl rfl (fun K hK=>?_) (fun K hK=>?_)
    ·(try simp only[zA,zB,zC]);go_simp;have b2:=zkc hdr (.cells #[.int .i64 (j:Int)] 3);refine hK.out _ _ (bO.out _ b2) ?_;clear hK K;(try simp only[zQ]);refine zo 11 fun K hK=>?_;refine zkd (by rfl) (.func 106) [.tmp 31,.tmp 33] _ (by rfl) 106 _ zpp (by rfl) _ (by rfl) _ (znt (zmz p.vs j (by omega) (some a) c1 u.s _ _ (HD.out _ (ag.out.chg.trans (Chg.of_below (zkb aA.out b2)))).2.vars HR.out.lv)) ?_;rintro vq w3 ⟨rfl,bW⟩;have b3:=zkb b2 bW;refine hK.out _ _ (bO.out _ b3) ?_;clear hK K;(try simp only[zQ]);refine zo 12 fun K hK=>?_
     refine zlj (by rfl) (.tmp 23) [.const (.int .i64 (-1)),.tmp 25,.tmp 27,.tmp 34] _ (by rfl) 105 _ zrn #[.pointer (some ⟨fb,0,none⟩)] (by rfl) _ (by rfl) _ (zmk (zmw fb fb _ pv' (-1) _ [(j:Int)] (some ⟨wk.heap.size,0,none⟩) 1 u.s _ _ (ag.out.fs.later (zkb aA.out b3)) (((zpQ _ (j:Int) ⟨by omega,by omega⟩).later zr.drew).later bW) (by simp) (by omega))) ?_;rintro vq W6 hp;obtain⟨iL,bR⟩:=ag.out.step aV.out (zkb aA.out b3) hp;have bK:VsI Rd fb fb Wb (.slice none 0 0) (frsN p.vs (j+1)) W6 iL:=by rw[zm3 gY,Hu.out];exact bR
     have ax:zW (fun w':World=>(zN6 w' W.heap.size (.slice (some a) L1 c1) (.slice A2 L2 c2) (.int .u8 k) (.int .i64 n) (.string s) (.slice A3 l3 c3)/\(zv w' (fb+1) 0 (.func (.func 105) #[] #[.pointer (some ⟨fb,0,none⟩)])))/\zN3 w' wr.heap.size (.string u.s) (.int .u8 u.k) (.int .i64 u.n)) zU W6:=⟨⟨aW.out _ bK.rd,box3 ((hp.2.elim fun _ h=>h.2.2.block _ (by have:=(zkb aA.out b3).size;have:=(b3).size;have:=fq.out;omega) (fun hh=>by have hl:=ag.out.fs.lt;rcases hh with hh|hh;(have:=hl.1;omega);(have:=(hl.2 _ hh).2;omega))).trans (((b3).block _ (by have:=fq.out;omega)).trans gT.out))⟩,trivial⟩
     refine hK.out _ _ ax ?_;clear hK K;(try simp only[zQ]);refine zd ?_;refine NoPanic.normal ?_;have iT:=zh bK;clear bK bR hp ax;go_wp2_with fail
     go_roundw
     case rel=>exact⟨j+1,_,by omega,by go_num,iT.out⟩
     case measure=>simp[intOf];omega
    ·skip
     refine zkd (by rfl) (.func 106) [.tmp 31,.tmp 33] _ (by rfl) 106 _ zpp (by rfl) _ (by rfl) _ (znt (zmz p.vs j (by omega) (some a) c1 u.s _ _ (HD.out _ (ag.out.chg.trans (Chg.of_below (zkb aA.out hdr)))).2.vars HR.out.lv)) ?_;rintro vq w2 ⟨rfl,aj⟩;have b2:=zkb hdr aj;refine hK.out _ _ (bO.out _ b2) ?_;clear hK K;(try simp only[zQ]);refine zo 2 fun K hK=>?_;(try simp only[zA,zB,zC]);go_simp;have b3:=zkc b2 (.cells #[.int .i64 (j:Int)] 3);refine hK.out _ _ (bO.out _ b3) ?_;clear hK K;(try simp only[zQ]);refine zo 12 fun K hK=>?_
     refine zlj (by rfl) (.tmp 23) [.const (.int .i64 (-1)),.tmp 25,.tmp 27,.tmp 34] _ (by rfl) 105 _ zrn #[.pointer (some ⟨fb,0,none⟩)] (by rfl) _ (by rfl) _ (zmk (zmw fb fb _ pv' (-1) _ [(j:Int)] (some ⟨w2.heap.size,0,none⟩) 1 u.s _ _ (ag.out.fs.later (zkb aA.out b3)) (zpQ _ (j:Int) ⟨by omega,by omega⟩) (by simp) (by omega))) ?_;rintro vq W6 hp;obtain⟨iL,bR⟩:=ag.out.step aV.out (zkb aA.out b3) hp;have bK:VsI Rd fb fb Wb (.slice none 0 0) (frsN p.vs (j+1)) W6 iL:=by rw[zm3 gY,Hu.out];exact bR
     have ax:zW (fun w':World=>(zN6 w' W.heap.size (.slice (some a) L1 c1) (.slice A2 L2 c2) (.int .u8 k) (.int .i64 n) (.string s) (.slice A3 l3 c3)/\(zv w' (fb+1) 0 (.func (.func 105) #[] #[.pointer (some ⟨fb,0,none⟩)])))/\zN3 w' wr.heap.size (.string u.s) (.int .u8 u.k) (.int .i64 u.n)) zU W6:=⟨⟨aW.out _ bK.rd,box3 ((hp.2.elim fun _ h=>h.2.2.block _ (by have:=(zkb aA.out b3).size;have:=(b3).size;have:=fq.out;omega) (fun hh=>by have hl:=ag.out.fs.lt;rcases hh with hh|hh;(have:=hl.1;omega);(have:=(hl.2 _ hh).2;omega))).trans (((b3).block _ (by have:=fq.out;omega)).trans gT.out))⟩,trivial⟩
     refine hK.out _ _ ax ?_;clear hK K;(try simp only[zQ]);refine zd ?_;refine NoPanic.normal ?_;have iT:=zh bK;clear bK bR hp ax;go_wp2_with fail
     go_roundw
     case rel=>exact⟨j+1,_,by omega,by go_num,iT.out⟩
     case measure=>simp[intOf];omega
   ·obtain rfl:L1=j:=by omega
    have uu:=zh (show VsI Rd fb fb Wb (.slice none 0 0) (frsN p.vs p.vs.length) wr pv' by rw[nL.out];exact ag.out);obtain⟨⟨a0,a1,a2,a3,a4,a5⟩,ar⟩:=aW.out _ hinv.rd;obtain⟨F1,hF1⟩:=zX (frsN p.vs p.vs.length);have hF32:F1<=32:=by have:=zmn p.vs p.vs.length;have:=fu.out.1;omega
    have sN:=zh hF1;rw[hF1]at uu;clear hinv ag hF1 hj hlt;go_wp2_with fail
    go_loopw [40] (fun i wr=>∃(j:Nat) (pv':Value),j<=L2/\i=.int .i64 j/\VsI Rd fb fb Wb (.slice none 0 0) (F1+prcN p.prs j) wr pv') (fun i _=>L2-(intOf i).toNat)
    case atStart=>exact⟨0,_,Nat.zero_le _,rfl,uu.out⟩
    case round =>
     clear uu a0 a1 a2 a3 a4 a5 ar;obtain⟨j,pv',hj,rfl,hinv⟩:=hrel;obtain⟨w0,rfl⟩:∃w0,w0=wr:=⟨_,rfl⟩
     have ag:=zh hinv;by_cases hlt:j<L2
     ·have gY:j<p.prs.length:=by rw[HL2.out];exact hlt
      obtain⟨a,r,P1,d1,P2,d2,rfl,hsa,Hr,⟨q0,q1,q2,q3,q4,q5⟩,hpr⟩:=(HD.out w0 hinv.chg).2.procs.nd gY;obtain⟨⟨a0,a1,a2,a3,a4,a5⟩,ar⟩:=aW.out _ hinv.rd;have eB:=zh hpr;clear hinv hsa hpr;go_upto_region 13 with fail;have hbk:Below w0.heap.size w0 ((w0.alloc (.cells #[.int .i64 (j:Int)] 3)).alloc (.cells #[.string r.s,.slice P1 r.ps.length d1,.int .u8 r.b.k,.int .i64 r.b.n,.string r.b.s,.slice P2 r.b.ks.length d2] 166)):=zkc (zkc zr _) _;have qY:=zke (heap_alloc_new w0 (.cells #[.int .i64 (j:Int)] 3)) (.cells #[.string r.s,.slice P1 r.ps.length d1,.int .u8 r.b.k,.int .i64 r.b.n,.string r.b.s,.slice P2 r.b.ks.length d2] 166);have oq:=heap_alloc_new (w0.alloc (.cells #[.int .i64 (j:Int)] 3)) (.cells #[.string r.s,.slice P1 r.ps.length d1,.int .u8 r.b.k,.int .i64 r.b.n,.string r.b.s,.slice P2 r.b.ks.length d2] 166);simp only[World.size_alloc]at oq
      obtain⟨wk,hwk⟩:=zX ((w0.alloc (.cells #[.int .i64 (j:Int)] 3)).alloc (.cells #[.string r.s,.slice P1 r.ps.length d1,.int .u8 r.b.k,.int .i64 r.b.n,.string r.b.s,.slice P2 r.b.ks.length d2] 166));rw[hwk]at hbk qY oq ⊢;have fq:=zh (show wk.heap.size=w0.heap.size+2 by rw[<-hwk];simp);have aA:=zh hbk;obtain⟨jq,oD⟩:∃jq:World->Prop,(fun W':World=>(Rd W'/\W'.heap[w0.heap.size]?=some (.cells #[.int .i64 (j:Int)] 3 (0,0)))/\W'.heap[w0.heap.size+1]?=some (.cells #[.string r.s,.slice P1 r.ps.length d1,.int .u8 r.b.k,.int .i64 r.b.n,.string r.b.s,.slice P2 r.b.ks.length d2] 166 (0,0)))=jq:=⟨_,rfl⟩
      have jr:=zh (show ∀w':World,jq w'->(fun W':World=>(Rd W'/\W'.heap[w0.heap.size]?=some (.cells #[.int .i64 (j:Int)] 3 (0,0)))/\W'.heap[w0.heap.size+1]?=some (.cells #[.string r.s,.slice P1 r.ps.length d1,.int .u8 r.b.k,.int .i64 r.b.n,.string r.b.s,.slice P2 r.b.ks.length d2] 166 (0,0))) w' from fun w' h=>by rw[<-oD]at h;exact h);have aI:=zh (show ∀(W W':World) (pv:Value) (N:Nat),jq W->FS W fb fb N pv->Chg (fun b=>b=fb\/pv.ownBlock=some b) W W'->jq W' from fun W W' pv N h hfs hc=>by rw[<-oD]at h ⊢;exact⟨⟨aV.out.keep _ _ _ _ h.1.1 hfs hc,hc.keep h.1.2 (hfs.other h.1.2 (by decide) (by decide))⟩,hc.keep h.2 (hfs.other h.2 (by decide) (by decide))⟩);have HI2:=zh (show VsI jq fb fb wk pv' (F1+prcN p.prs j) wk pv' from⟨by rw[<-oD];exact⟨⟨aV.out.keep _ _ _ _ ag.out.rd ag.out.fs (Chg.of_below hbk),qY⟩,oq⟩,ag.out.fs.later hbk,fun b hb=>.inl hb,Chg.refl _ _⟩)
      have kM:=zh (show ∀w':World,jq w'->(fun w':World=>(zN6 w' W.heap.size (.slice A1 L1 c1) (.slice (some a) L2 c2) (.int .u8 k) (.int .i64 n) (.string s) (.slice A3 l3 c3)/\(zv w' (fb+1) 0 (.func (.func 105) #[] #[.pointer (some ⟨fb,0,none⟩)])))/\(zv w' w0.heap.size 0 (.int .i64 (j:Int)))/\zN6 w' (w0.heap.size+1) (.string r.s) (.slice P1 r.ps.length d1) (.int .u8 r.b.k) (.int .i64 r.b.n) (.string r.b.s) (.slice P2 r.b.ks.length d2)) w' from fun w' h=>⟨aW.out w' (jr.out w' h).1.1,zc (jr.out w' h).1.2 rfl,box6 (jr.out w' h).2⟩)
      have HD2:=zh (show ∀w':World,Chg (fun b=>b=fb\/pv'.ownBlock=some b) wk w'->PV w' (fun b=>S b/\b<W.heap.size) p _/\PrR w' (fun b=>S b/\b<W.heap.size) r P1 d1 P2 d2 from fun w' h=>⟨(HD.out w' (ag.out.chg2 aA.out h)).1,eB.out.keep (fun b hb _=>hb) fun b hb _=>(aQ.out w' (ag.out.chg2 aA.out h) b hb.1 hb.2).trans (aQ.out w0 ag.out.chg b hb.1 hb.2).symm⟩)
      have bO:=zh (show ∀w':World,Below wk.heap.size wk w'->(fun w':World=>(zN6 w' W.heap.size (.slice A1 L1 c1) (.slice (some a) L2 c2) (.int .u8 k) (.int .i64 n) (.string s) (.slice A3 l3 c3)/\(zv w' (fb+1) 0 (.func (.func 105) #[] #[.pointer (some ⟨fb,0,none⟩)])))/\(zv w' w0.heap.size 0 (.int .i64 (j:Int)))/\zN6 w' (w0.heap.size+1) (.string r.s) (.slice P1 r.ps.length d1) (.int .u8 r.b.k) (.int .i64 r.b.n) (.string r.b.s) (.slice P2 r.b.ks.length d2)) w'/\zU w' from fun w' h=>⟨kM.out w' (aI.out _ _ _ _ HI2.out.rd HI2.out.fs (Chg.of_below h)),trivial⟩);clear hwk hbk qY oq oD a0 a1 a2 a3 a4 a5 ar q0 q1 q2 q3 q4 q5;have hdr:=(zs wk).drew;have hSS:=bO.out _ hdr;have hrb:=fu.out.2.2.1 r (by rw[<-Hr.out];exact List.getElem_mem gY);have hpN:=zqt p.prs fu.out.2.2.1 j;obtain⟨rb1,rb2,rb3⟩:=hrb;refine wp_region_noPanic ?_
      refine zkm (fun w':World=>(zN6 w' W.heap.size (.slice A1 L1 c1) (.slice (some a) L2 c2) (.int .u8 k) (.int .i64 n) (.string s) (.slice A3 l3 c3)/\(zv w' (fb+1) 0 (.func (.func 105) #[] #[.pointer (some ⟨fb,0,none⟩)])))/\(zv w' w0.heap.size 0 (.int .i64 (j:Int)))/\zN6 w' (w0.heap.size+1) (.string r.s) (.slice P1 r.ps.length d1) (.int .u8 r.b.k) (.int .i64 r.b.n) (.string r.b.s) (.slice P2 r.b.ks.length d2)) zU 40 (by kernel_rfl) ?_;refine zT 0 hSS ?_;refine zT 1 hSS ?_;refine zT 2 hSS ?_;refine zT 4 hSS ?_;refine zo 3 fun K hK=>?_;refine zkd (by rfl) (.func 107) [.tmp 45,.tmp 47] _ (by rfl) 107 _ zw1 (by rfl) _ (by rfl) _ (znt (zna p _ _ r.s _ (HD2.out _ (Chg.of_below hdr)).1)) ?_;rintro vq w2 ⟨rfl,aj⟩;have b2:=zkb hdr aj;have aL:=bO.out _ b2;obtain⟨PE,yo⟩:=zX (zlx p.prs r.s);rw[yo];have HPE:=zh yo;refine hK.out _ _ aL ?_;clear hK K hSS yo
      (try simp only[zQ]);have sK:=zh (show VsI jq fb fb wk pv' (F1+prcN p.prs j) w2 pv' from⟨aI.out _ _ _ _ HI2.out.rd HI2.out.fs (Chg.of_below b2),HI2.out.fs.later b2,fun b hb=>.inl hb,Chg.of_below b2⟩);by_cases hpe:PE<(j:Int)
      ·have hd:decide (PE<(j:Int))=true:=decide_eq_true hpe;obtain⟨E1,hE1⟩:=zX (one1 (22));have hE2:E1<=1:=by rw[<-hE1];exact zmK _
       have jQ:=zh (show one1 (if zlx p.prs r.s<(j:Int)then 22 else 0)=E1 by rw[HPE.out,if_pos hpe];exact hE1);refine zT 5 aL ?_;refine zd ?_;refine NoPanic.normal ?_;obtain⟨⟨⟨a0,a1,a2,a3,a4,a5⟩,ar⟩,ai,r0,r1,r2,r3,r4,r5⟩:=aL.1;clear aL;go_wp2_with fail;refine(zmx fb fb _ pv' (j:Int) 22 [] none 0 r.s Any w2 sK.out.fs RowI.nil (by simp) (by omega)).mono ?_;rintro e w3 hp;obtain⟨v3,rfl⟩:=hp.1;obtain⟨pv3,hi3⟩:=sK.out.stepK aI.out zr hp;rw[hE1]at hi3;have HI3:=zh hi3;clear hp a0 a1 a2 a3 a4 a5 ar ai r0 r1 r2 r3 r4 r5;obtain⟨⟨⟨a0,a1,a2,a3,a4,a5⟩,ar⟩,ai,r0,r1,r2,r3,r4,r5⟩:=kM.out _ hi3.rd;clear hi3 hE1;go_wp2_with fail
       go_loopw [59] (fun x w'=>∃(i:Nat) (lF:Value),i<=r.ps.length/\x=.int .i64 i/\VsI jq fb fb wk pv' (F1+prcN p.prs j+E1+frsN r.ps i) w' lF) (fun x _=>r.ps.length-(intOf x).toNat)
       case atStart=>exact⟨0,_,Nat.zero_le _,rfl,HI3.out⟩
       case round =>
        clear HI3 a0 a1 a2 a3 a4 a5 ar ai r0 r1 r2 r3 r4 r5;obtain⟨i,lF,hi,rfl,hinv⟩:=hrel;have bF:=zh hinv;by_cases uJ:i<r.ps.length
        ·obtain⟨a',u,rfl,hsa,Hu,⟨q0,q1,q2⟩,hfu⟩:=(HD2.out wr hinv.chg).2.row.nd uJ;have hic:(i:Int)<=(d1:Int):=by have:=eB.out.lc;omega
         have hi0:(0:Int)<=(i:Int):=by omega
         obtain⟨⟨⟨a0,a1,a2,a3,a4,a5⟩,ar⟩,ai,r0,r1,r2,r3,r4,r5⟩:=kM.out _ hinv.rd;clear hinv hsa hfu;go_upto_region 18 with fail;have hbk:Below wr.heap.size wr (wr.alloc (.cells #[.string u.s,.int .u8 u.k,.int .i64 u.n] 76)):=zkc zr _;have eu:=heap_alloc_new wr (.cells #[.string u.s,.int .u8 u.k,.int .i64 u.n] 76);obtain⟨wv,hwv⟩:=zX (wr.alloc (.cells #[.string u.s,.int .u8 u.k,.int .i64 u.n] 76));rw[hwv]at hbk eu ⊢;have rJ:=zh (show wv.heap.size=wr.heap.size+1 by rw[<-hwv];simp);have mV:=zh hbk;have gT:=zh eu;clear hwv hbk eu a0 a1 a2 a3 a4 a5 ar ai r0 r1 r2 r3 r4 r5 q0 q1 q2
         have pF:=zh (show ∀w':World,Below wv.heap.size wv w'->(fun w':World=>(fun w':World=>(zN6 w' W.heap.size (.slice A1 L1 c1) (.slice (some a) L2 c2) (.int .u8 k) (.int .i64 n) (.string s) (.slice A3 l3 c3)/\(zv w' (fb+1) 0 (.func (.func 105) #[] #[.pointer (some ⟨fb,0,none⟩)])))/\(zv w' w0.heap.size 0 (.int .i64 (j:Int)))/\zN6 w' (w0.heap.size+1) (.string r.s) (.slice (some a') r.ps.length d1) (.int .u8 r.b.k) (.int .i64 r.b.n) (.string r.b.s) (.slice P2 r.b.ks.length d2)) w'/\zN3 w' wr.heap.size (.string u.s) (.int .u8 u.k) (.int .i64 u.n)) w'/\zU w' from fun w' h=>⟨⟨kM.out _ (aI.out _ _ _ _ bF.out.rd bF.out.fs (Chg.of_below (zkb mV.out h))),box3 ((h.block _ (by have:=rJ.out;omega)).trans gT.out)⟩,trivial⟩);have hdv:=(zs wv).drew;have hSS:=pF.out _ hdv;have xZ:=zmn r.ps i;refine wp_region_noPanic ?_
         refine zkm (fun w':World=>(fun w':World=>(zN6 w' W.heap.size (.slice A1 L1 c1) (.slice (some a) L2 c2) (.int .u8 k) (.int .i64 n) (.string s) (.slice A3 l3 c3)/\(zv w' (fb+1) 0 (.func (.func 105) #[] #[.pointer (some ⟨fb,0,none⟩)])))/\(zv w' w0.heap.size 0 (.int .i64 (j:Int)))/\zN6 w' (w0.heap.size+1) (.string r.s) (.slice (some a') r.ps.length d1) (.int .u8 r.b.k) (.int .i64 r.b.n) (.string r.b.s) (.slice P2 r.b.ks.length d2)) w'/\zN3 w' wr.heap.size (.string u.s) (.int .u8 u.k) (.int .i64 u.n)) zU 40 (by kernel_rfl) ?_;refine zT 0 hSS ?_;refine zT 1 hSS ?_;refine zT 2 hSS ?_;refine zT 3 hSS ?_;refine zT 4 hSS ?_;refine zT 5 hSS ?_;refine zT 6 hSS ?_;refine zT 7 hSS ?_;refine zT 8 hSS ?_;refine zT 9 hSS ?_;refine zo 10 fun K hK=>?_
         refine zkd (by rfl) (.func 106) [.tmp 71,.tmp 73] _ (by rfl) 106 _ zpp (by rfl) _ (by rfl) _ (znt (zmz r.ps i (by omega) (some a') d1 u.s _ _ (HD2.out _ (bF.out.chg.trans (Chg.of_below (zkb mV.out hdv)))).2.row eB.out.lp)) ?_;rintro vq w5 ⟨rfl,fG⟩;have b5:=zkb hdv fG;refine hK.out _ _ (pF.out _ b5) ?_;clear hK K hSS;(try simp only[zQ]);refine zo 11 fun K hK=>?_;refine zlj (by rfl) (.tmp 64) [.tmp 65,.const (.slice none 0 0),.tmp 67,.tmp 74] _ (by rfl) 105 _ zrn #[.pointer (some ⟨fb,0,none⟩)] (by rfl) _ (by rfl) _ (zmk (zmw fb fb _ lF (j:Int) _ [] none 0 u.s Any _ (bF.out.fs.later (zkb mV.out b5)) RowI.nil (by simp) (by omega))) ?_;rintro vq W6 hp;obtain⟨iL,bR⟩:=bF.out.stepK aI.out (zkb mV.out b5) hp
         have bK:VsI jq fb fb wk pv' (F1+prcN p.prs j+E1+frsN r.ps (i+1)) W6 iL:=by rw[zm3 uJ,Hu.out,<-Nat.add_assoc];exact bR
         have ax:zW (fun w':World=>(fun w':World=>(zN6 w' W.heap.size (.slice A1 L1 c1) (.slice (some a) L2 c2) (.int .u8 k) (.int .i64 n) (.string s) (.slice A3 l3 c3)/\(zv w' (fb+1) 0 (.func (.func 105) #[] #[.pointer (some ⟨fb,0,none⟩)])))/\(zv w' w0.heap.size 0 (.int .i64 (j:Int)))/\zN6 w' (w0.heap.size+1) (.string r.s) (.slice (some a') r.ps.length d1) (.int .u8 r.b.k) (.int .i64 r.b.n) (.string r.b.s) (.slice P2 r.b.ks.length d2)) w'/\zN3 w' wr.heap.size (.string u.s) (.int .u8 u.k) (.int .i64 u.n)) zU W6:=⟨⟨kM.out _ bK.rd,box3 ((hp.2.elim fun _ h=>h.2.2.block _ (by have:=(zkb mV.out b5).size;have:=b5.size;have:=rJ.out;omega) (fun hh=>by have hl:=bF.out.fs.lt;rcases hh with hh|hh;(have:=hl.1;omega);(have:=(hl.2 _ hh).2;omega))).trans ((b5.block _ (by have:=rJ.out;omega)).trans gT.out))⟩,trivial⟩
         refine hK.out _ _ ax ?_;clear hK K;(try simp only[zQ]);refine zd ?_;refine NoPanic.normal ?_;have iT:=zh bK;clear bK bR hp ax;go_wp2_with fail
         go_roundw
         case rel=>exact⟨i+1,_,by omega,by go_num,iT.out⟩
         case measure=>simp[intOf];omega
        ·have hil:i=r.ps.length:=by omega
         obtain⟨⟨⟨a0,a1,a2,a3,a4,a5⟩,ar⟩,ai,r0,r1,r2,r3,r4,r5⟩:=kM.out _ hinv.rd;have hge:¬ ((i:Int)<(r.ps.length:Int)):=by omega
         clear hinv;go_wp2_with fail;have xZ:=zmn r.ps r.ps.length;have aJ:=zh (show VsI jq fb fb wk pv' (F1+prcN p.prs j+E1+frsN r.ps r.ps.length) wr lF by rw[<-hil];exact bF.out);have wD:=bF.out.chg.size;have hzk:=fq.out;have hz0:=ag.out.chg.size;have hzb:=oG.out;refine(znf 109 _ _ fb fb (zrE fb fb (fb+1) w0.heap.size (j:Int)) p r.b (fun b=>S b/\b<W.heap.size) r.ps P1 d1 [] none 0 (F1+prcN p.prs j+E1+frsN r.ps r.ps.length) lF wr _ _ ⟨(ll.out _ (jr.out _ aJ.out.rd).1.1).1,(jr.out _ aJ.out.rd).1.2⟩ aJ.out.fs (HD2.out _ aJ.out.chg).1 (HD2.out _ aJ.out.chg).2.body (HD2.out _ aJ.out.chg).2.row eB.out.lc RowI.nil (Nat.zero_le _) (fun b hb hbl hh=>?_) (by simp;omega) (by omega) (by omega)).mono ?_
         ·rcases hh with hh|hh
          ·have:=hb.2;omega
          ·rcases aJ.out.own b hh with h1|h1
           ·have:=(ag.out.fs.lt.2 b h1).1;have:=hb.2;omega
           ·have:=hb.2;omega
         rintro e W6 hp;obtain⟨v6,rfl⟩:=hp.1;obtain⟨iL,bR⟩:=aJ.out.stepK aI.out zr hp;obtain⟨xL,bK⟩:=ag.out.step aV.out aA.out (bR.rep zr (e:=.returned undef) ⟨_,rfl⟩);have yX:=zh (show VsI Rd fb fb Wb (.slice none 0 0) (F1+prcN p.prs (j+1)) W6 xL by rw[znX gY,Hr.out,prcE,jQ.out];simpa only[Nat.add_assoc]using bK);clear bK bR hp a0 a1 a2 a3 a4 a5 ar ai r0 r1 r2 r3 r4 r5;go_wp2_with fail
         go_roundw
         case rel=>exact⟨j+1,_,by omega,by go_num,yX.out⟩
         case measure=>simp[intOf];omega
      ·have hd:decide (PE<(j:Int))=false:=decide_eq_false hpe;obtain⟨E1,hE1⟩:=zX (one1 (0));have hE2:E1<=1:=by rw[<-hE1];exact zmK _
       have jQ:=zh (show one1 (if zlx p.prs r.s<(j:Int)then 22 else 0)=E1 by rw[HPE.out,if_neg hpe];exact hE1);refine zT 5 aL ?_;refine zd ?_;refine NoPanic.normal ?_;obtain⟨⟨⟨a0,a1,a2,a3,a4,a5⟩,ar⟩,ai,r0,r1,r2,r3,r4,r5⟩:=aL.1;clear aL;go_wp2_with fail;have HI3:=zh (show VsI jq fb fb wk pv' (F1+prcN p.prs j+E1) w2 pv' by rw[<-hE1];exact sK.out);clear hE1
       go_loopw [59] (fun x w'=>∃(i:Nat) (lF:Value),i<=r.ps.length/\x=.int .i64 i/\VsI jq fb fb wk pv' (F1+prcN p.prs j+E1+frsN r.ps i) w' lF) (fun x _=>r.ps.length-(intOf x).toNat)
       case atStart=>exact⟨0,_,Nat.zero_le _,rfl,HI3.out⟩
       case round =>
        clear HI3 a0 a1 a2 a3 a4 a5 ar ai r0 r1 r2 r3 r4 r5;obtain⟨i,lF,hi,rfl,hinv⟩:=hrel;have bF:=zh hinv;by_cases uJ:i<r.ps.length
        ·obtain⟨a',u,rfl,hsa,Hu,⟨q0,q1,q2⟩,hfu⟩:=(HD2.out wr hinv.chg).2.row.nd uJ;have hic:(i:Int)<=(d1:Int):=by have:=eB.out.lc;omega
         have hi0:(0:Int)<=(i:Int):=by omega
         obtain⟨⟨⟨a0,a1,a2,a3,a4,a5⟩,ar⟩,ai,r0,r1,r2,r3,r4,r5⟩:=kM.out _ hinv.rd;clear hinv hsa hfu;go_upto_region 18 with fail;have hbk:Below wr.heap.size wr (wr.alloc (.cells #[.string u.s,.int .u8 u.k,.int .i64 u.n] 76)):=zkc zr _;have eu:=heap_alloc_new wr (.cells #[.string u.s,.int .u8 u.k,.int .i64 u.n] 76);obtain⟨wv,hwv⟩:=zX (wr.alloc (.cells #[.string u.s,.int .u8 u.k,.int .i64 u.n] 76));rw[hwv]at hbk eu ⊢;have rJ:=zh (show wv.heap.size=wr.heap.size+1 by rw[<-hwv];simp);have mV:=zh hbk;have gT:=zh eu;clear hwv hbk eu a0 a1 a2 a3 a4 a5 ar ai r0 r1 r2 r3 r4 r5 q0 q1 q2
         have pF:=zh (show ∀w':World,Below wv.heap.size wv w'->(fun w':World=>(fun w':World=>(zN6 w' W.heap.size (.slice A1 L1 c1) (.slice (some a) L2 c2) (.int .u8 k) (.int .i64 n) (.string s) (.slice A3 l3 c3)/\(zv w' (fb+1) 0 (.func (.func 105) #[] #[.pointer (some ⟨fb,0,none⟩)])))/\(zv w' w0.heap.size 0 (.int .i64 (j:Int)))/\zN6 w' (w0.heap.size+1) (.string r.s) (.slice (some a') r.ps.length d1) (.int .u8 r.b.k) (.int .i64 r.b.n) (.string r.b.s) (.slice P2 r.b.ks.length d2)) w'/\zN3 w' wr.heap.size (.string u.s) (.int .u8 u.k) (.int .i64 u.n)) w'/\zU w' from fun w' h=>⟨⟨kM.out _ (aI.out _ _ _ _ bF.out.rd bF.out.fs (Chg.of_below (zkb mV.out h))),box3 ((h.block _ (by have:=rJ.out;omega)).trans gT.out)⟩,trivial⟩);have hdv:=(zs wv).drew;have hSS:=pF.out _ hdv;have xZ:=zmn r.ps i;refine wp_region_noPanic ?_
         refine zkm (fun w':World=>(fun w':World=>(zN6 w' W.heap.size (.slice A1 L1 c1) (.slice (some a) L2 c2) (.int .u8 k) (.int .i64 n) (.string s) (.slice A3 l3 c3)/\(zv w' (fb+1) 0 (.func (.func 105) #[] #[.pointer (some ⟨fb,0,none⟩)])))/\(zv w' w0.heap.size 0 (.int .i64 (j:Int)))/\zN6 w' (w0.heap.size+1) (.string r.s) (.slice (some a') r.ps.length d1) (.int .u8 r.b.k) (.int .i64 r.b.n) (.string r.b.s) (.slice P2 r.b.ks.length d2)) w'/\zN3 w' wr.heap.size (.string u.s) (.int .u8 u.k) (.int .i64 u.n)) zU 40 (by kernel_rfl) ?_;refine zT 0 hSS ?_;refine zT 1 hSS ?_;refine zT 2 hSS ?_;refine zT 3 hSS ?_;refine zT 4 hSS ?_;refine zT 5 hSS ?_;refine zT 6 hSS ?_;refine zT 7 hSS ?_;refine zT 8 hSS ?_;refine zT 9 hSS ?_;refine zo 10 fun K hK=>?_
         refine zkd (by rfl) (.func 106) [.tmp 71,.tmp 73] _ (by rfl) 106 _ zpp (by rfl) _ (by rfl) _ (znt (zmz r.ps i (by omega) (some a') d1 u.s _ _ (HD2.out _ (bF.out.chg.trans (Chg.of_below (zkb mV.out hdv)))).2.row eB.out.lp)) ?_;rintro vq w5 ⟨rfl,fG⟩;have b5:=zkb hdv fG;refine hK.out _ _ (pF.out _ b5) ?_;clear hK K hSS;(try simp only[zQ]);refine zo 11 fun K hK=>?_;refine zlj (by rfl) (.tmp 64) [.tmp 65,.const (.slice none 0 0),.tmp 67,.tmp 74] _ (by rfl) 105 _ zrn #[.pointer (some ⟨fb,0,none⟩)] (by rfl) _ (by rfl) _ (zmk (zmw fb fb _ lF (j:Int) _ [] none 0 u.s Any _ (bF.out.fs.later (zkb mV.out b5)) RowI.nil (by simp) (by omega))) ?_;rintro vq W6 hp;obtain⟨iL,bR⟩:=bF.out.stepK aI.out (zkb mV.out b5) hp
         have bK:VsI jq fb fb wk pv' (F1+prcN p.prs j+E1+frsN r.ps (i+1)) W6 iL:=by rw[zm3 uJ,Hu.out,<-Nat.add_assoc];exact bR
         have ax:zW (fun w':World=>(fun w':World=>(zN6 w' W.heap.size (.slice A1 L1 c1) (.slice (some a) L2 c2) (.int .u8 k) (.int .i64 n) (.string s) (.slice A3 l3 c3)/\(zv w' (fb+1) 0 (.func (.func 105) #[] #[.pointer (some ⟨fb,0,none⟩)])))/\(zv w' w0.heap.size 0 (.int .i64 (j:Int)))/\zN6 w' (w0.heap.size+1) (.string r.s) (.slice (some a') r.ps.length d1) (.int .u8 r.b.k) (.int .i64 r.b.n) (.string r.b.s) (.slice P2 r.b.ks.length d2)) w'/\zN3 w' wr.heap.size (.string u.s) (.int .u8 u.k) (.int .i64 u.n)) zU W6:=⟨⟨kM.out _ bK.rd,box3 ((hp.2.elim fun _ h=>h.2.2.block _ (by have:=(zkb mV.out b5).size;have:=b5.size;have:=rJ.out;omega) (fun hh=>by have hl:=bF.out.fs.lt;rcases hh with hh|hh;(have:=hl.1;omega);(have:=(hl.2 _ hh).2;omega))).trans ((b5.block _ (by have:=rJ.out;omega)).trans gT.out))⟩,trivial⟩
         refine hK.out _ _ ax ?_;clear hK K;(try simp only[zQ]);refine zd ?_;refine NoPanic.normal ?_;have iT:=zh bK;clear bK bR hp ax;go_wp2_with fail
         go_roundw
         case rel=>exact⟨i+1,_,by omega,by go_num,iT.out⟩
         case measure=>simp[intOf];omega
        ·have hil:i=r.ps.length:=by omega
         obtain⟨⟨⟨a0,a1,a2,a3,a4,a5⟩,ar⟩,ai,r0,r1,r2,r3,r4,r5⟩:=kM.out _ hinv.rd;have hge:¬ ((i:Int)<(r.ps.length:Int)):=by omega
         clear hinv;go_wp2_with fail;have xZ:=zmn r.ps r.ps.length;have aJ:=zh (show VsI jq fb fb wk pv' (F1+prcN p.prs j+E1+frsN r.ps r.ps.length) wr lF by rw[<-hil];exact bF.out);have wD:=bF.out.chg.size;have hzk:=fq.out;have hz0:=ag.out.chg.size;have hzb:=oG.out;refine(znf 109 _ _ fb fb (zrE fb fb (fb+1) w0.heap.size (j:Int)) p r.b (fun b=>S b/\b<W.heap.size) r.ps P1 d1 [] none 0 (F1+prcN p.prs j+E1+frsN r.ps r.ps.length) lF wr _ _ ⟨(ll.out _ (jr.out _ aJ.out.rd).1.1).1,(jr.out _ aJ.out.rd).1.2⟩ aJ.out.fs (HD2.out _ aJ.out.chg).1 (HD2.out _ aJ.out.chg).2.body (HD2.out _ aJ.out.chg).2.row eB.out.lc RowI.nil (Nat.zero_le _) (fun b hb hbl hh=>?_) (by simp;omega) (by omega) (by omega)).mono ?_
         ·rcases hh with hh|hh
          ·have:=hb.2;omega
          ·rcases aJ.out.own b hh with h1|h1
           ·have:=(ag.out.fs.lt.2 b h1).1;have:=hb.2;omega
           ·have:=hb.2;omega
         rintro e W6 hp;obtain⟨v6,rfl⟩:=hp.1;obtain⟨iL,bR⟩:=aJ.out.stepK aI.out zr hp;obtain⟨xL,bK⟩:=ag.out.step aV.out aA.out (bR.rep zr (e:=.returned undef) ⟨_,rfl⟩);have yX:=zh (show VsI Rd fb fb Wb (.slice none 0 0) (F1+prcN p.prs (j+1)) W6 xL by rw[znX gY,Hr.out,prcE,jQ.out];simpa only[Nat.add_assoc]using bK);clear bK bR hp a0 a1 a2 a3 a4 a5 ar ai r0 r1 r2 r3 r4 r5;go_wp2_with fail
         go_roundw
         case rel=>exact⟨j+1,_,by omega,by go_num,yX.out⟩
         case measure=>simp[intOf];omega
     ·have hjl:j=L2:=by omega
      obtain⟨⟨a0,a1,a2,a3,a4,a5⟩,ar⟩:=aW.out _ hinv.rd;have hge:¬ ((j:Int)<(L2:Int)):=by omega
      have bS:=zh (show VsI Rd fb fb Wb (.slice none 0 0) (F1+prcN p.prs p.prs.length) w0 pv' by rw[HL2.out,<-hjl];exact ag.out);clear hinv;go_wp2_with fail;have hpN:=zqt p.prs fu.out.2.2.1 p.prs.length;have hvb:=fu.out;have wD:=ag.out.chg.size;have hzb:=oG.out;have wK:=(HD.out _ bS.out.chg).2.main;rw[uh.out.1,uh.out.2.1,uh.out.2.2.1,uh.out.2.2.2]at wK;have hcall:=znf _ _ Rd fb fb aV.out p p.m (fun b=>S b/\b<W.heap.size) p.vs A1 c1 [] none 0 (F1+prcN p.prs p.prs.length) pv' w0 _ _ bS.out.rd bS.out.fs (HD.out _ bS.out.chg).1 wK (HD.out _ bS.out.chg).2.vars HR.out.lvc RowI.nil (Nat.zero_le _) (fun b hb hbl hh=>by rcases hh with hh|hh;(have:=hb.2;omega);(rcases bS.out.own b hh with h1|h1;(simp[Value.ownBlock]at h1);(have:=hb.2;omega))) (by simp;omega) (by omega) (by omega);rw[nL.out]at hcall;refine hcall.mono ?_;clear hcall;rintro e W6 hp
      obtain⟨v6,rfl⟩:=hp.1;obtain⟨iL,bR⟩:=bS.out.step aV.out zr hp;rw[show F1+prcN p.prs p.prs.length+cntV p.prs p.m p.vs=NN by rw[<-HNN2.out,chkN,sN.out]]at bR;obtain⟨A6,c6,rfl⟩:=bR.fs.slice;have hf6:W6.cell? ⟨fb,0,none⟩=some (.slice A6 NN c6):=zc bR.fs.box rfl;have uy:=zh (show Below W.heap.size W W6 from dI.out.trans (bR.chg.below (by omega) (fun b hb=>by rcases hb with hb|hb;omega;simp[Value.ownBlock]at hb)));clear bR hp wK hvb a0 a1 a2 a3 a4 a5 ar;go_wp2_with fail;go_ret;exact⟨A6,c6,rfl,uy.out⟩
theorem zsH:∀(prs:List PR) (s:ByteArray),prcI prs s=idxP prs s
 | [],_=>rfl
 | q::qs,s=>by
  unfold prcI;rw[zsH qs s];unfold idxP;rw[List.findIdx?_cons]
def CalB(prs:List PR)(t:T):Prop:=∀u∈po t,(u.k=50\/u.k=51)->∃i,prcI prs u.s=some i
theorem zwU:∀(t:T),isE t=true->∀x∈po t,isE x=true:=by
 intro t
 induction t using T.ind with
 | _ k n s ks ih =>
  intro h x hx;simp only[po,List.mem_cons]at hx;rcases hx with rfl|hx
  ·exact h
  ·obtain⟨t,ht,hx⟩:=zni.1 hx;exact ih t ht (zu6 h t ht) x hx
theorem CalB.expr{prs:List PR}{t:T}(h:isE t=true):CalB prs t:=fun u hu hk=>by
 have:=zu7 u (zwU t h u hu);omega
theorem CalB.kid{prs:List PR}{k n:Int}{s:ByteArray}{ks:List T}(h:CalB prs (.nd k n s ks)){t:T}(ht:t∈ks):CalB prs t:=fun u hu=>h u (by simp only[po,List.mem_cons];exact .inr (zni.2 ⟨t,ht,hu⟩))
theorem zoi{prs:List PR}{k:Int}{s:ByteArray}{vs:List VD}:∀ {ks:List T} {i:Nat},cntK prs k s i ks vs=0->∀t∈ks,∃vs',cntV prs t vs'=0
 | [],_,_,t,ht=>by cases ht
 | u::us,i,h,t,ht=>by
  rw[cntK]at h;obtain⟨h1,h2⟩:=Nat.add_eq_zero_iff.1 h;rcases List.mem_cons.1 ht with rfl|ht
  ·exact⟨_,h1⟩
  ·exact zoi h2 t ht
theorem zsQ{e:Int}(h:one1 e=0):e=0:=by
 unfold one1 at h
 split at h
 ·assumption
 ·omega
theorem zws:∀(t:T) (prs:List PR) (vs:List VD),(isS t=true\/isB t=true\/isE t=true)->cntV prs t vs=0->CalB prs t:=by
 intro t
 induction t using T.ind with
 | _ k n s ks ih =>
  intro prs vs ht h;rcases ht with hs|hb|he
  ·rw[cntV]at h;intro u hu hk;simp only[po,List.mem_cons]at hu;by_cases hc:k=50\/k=51
   ·rcases hu with rfl|hu
    ·have h0:=zsQ (e:=zlh prs k s ks.length vs) (by omega);unfold zlh at h0;rw[if_neg (by omega),if_neg (by omega),if_neg (by omega),if_neg (by omega),if_pos hc]at h0;rw[zsH]
     cases hi:idxP prs s with
     | none=>rw[hi]at h0;simp at h0
     | some i=>exact⟨i,hi⟩
    ·obtain⟨t,ht,hx⟩:=zni.1 hu;have h57:t.k≠57:=by
      rcases zm1 hs with⟨_,h1⟩|⟨h1,_⟩|⟨h1,_⟩|⟨h1,_⟩
      ·exact h1 t ht
      all_goals omega
     rcases(zwi hs).2 t ht with h1|h1
     ·exact CalB.expr h1 u hx hk
     ·exact absurd (zyH h1) h57
   ·rw[if_neg hc]at h;rcases hu with rfl|hu
    ·exact absurd hk hc
    ·obtain⟨t,ht,hx⟩:=zni.1 hu;obtain⟨vs',hv⟩:=zoi (Nat.add_eq_zero_iff.1 h).2 t ht;rcases(zwi hs).2 t ht with h1|h1
     ·exact CalB.expr h1 u hx hk
     ·exact ih t ht prs vs' (.inr (.inl h1)) hv u hx hk
  ·obtain⟨h57,hks⟩:=zrl _ _ _ _ hb;rw[cntV,if_neg (by omega)]at h;intro u hu hk;simp only[po,List.mem_cons]at hu;rcases hu with rfl|hu
   ·simp only[T.k_nd]at hk;omega
   ·obtain⟨t,ht,hx⟩:=zni.1 hu;obtain⟨vs',hv⟩:=zoi (Nat.add_eq_zero_iff.1 h).2 t ht;exact ih t ht prs vs' (.inl (hks t ht)) hv u hx hk
  ·exact CalB.expr he
def GP(prs:List PR)(t:T):Prop:=isS t=true/\CalB prs t/\∀q∈prs,isB q.b=true/\CalB prs q.b
theorem GP.block{prs:List PR}{b:T}(hb:isB b=true)(hc:CalB prs b)(hq:∀q∈prs,isB q.b=true/\CalB prs q.b):∀u∈b.ks,GP prs u:=by
 obtain⟨k,n,s,ks⟩:=b;exact fun u hu=>⟨(zrl _ _ _ _ hb).2 u hu,hc.kid hu,hq⟩
theorem zyp:GC GP where
 two:=fun prs t h hk=>by
  obtain⟨k,n,s,ks⟩:=t;obtain⟨hs,hc,hq⟩:=h;simp only[T.k_nd]at hk;rcases zm1 hs with⟨h1,_⟩|⟨_,_,a,b,c,d,rfl,_,hb1,hb2,_⟩|⟨h1,_⟩|⟨h1,_⟩
  ·omega
  ·exact⟨rfl,GP.block hb1 (hc.kid (t:=b) (by simp)) hq,GP.block hb2 (hc.kid (t:=c) (by simp)) hq⟩
  ·omega
  ·omega
 loc:=fun prs t h hk=>by
  obtain⟨k,n,s,ks⟩:=t;obtain⟨hs,hc,hq⟩:=h;simp only[T.k_nd]at hk;rcases zm1 hs with⟨h1,_⟩|⟨h1,_⟩|⟨_,_,a,b,c,rfl,_,hb1,_⟩|⟨h1,_⟩
  ·omega
  ·omega
  ·exact⟨rfl,GP.block hb1 (hc.kid (t:=b) (by simp)) hq⟩
  ·omega
 stk:=fun prs t h hk=>by
  obtain⟨k,n,s,ks⟩:=t;obtain⟨hs,hc,hq⟩:=h;simp only[T.k_nd]at hk;rcases zm1 hs with⟨h1,_⟩|⟨h1,_⟩|⟨h1,_⟩|⟨_,_,b,rfl,hb1⟩
  ·omega
  ·omega
  ·omega
  ·exact⟨rfl,GP.block hb1 (hc.kid (t:=b) (by simp)) hq⟩
 cal:=fun prs t h hk=>by
  obtain⟨hs,hc,hq⟩:=h;have hm:t∈po t:=by obtain⟨k,n,s,ks⟩:=t;simp[po]
  obtain⟨i,hi⟩:=hc t hm hk;obtain⟨-,hl⟩:=zpe _ _ _ hi;exact⟨i,prs[i],hi,List.getElem?_eq_getElem hl,GP.block (hq _ (List.getElem_mem hl)).1 (hq _ (List.getElem_mem hl)).2 hq⟩
theorem zpS{ps:List PR}:∀ {j:Nat},j<=ps.length->prcN ps j=0->∀i (h:i<ps.length),i<j->prcE ps i ps[i]=0
 | 0,_,_,i,_,hi=>by omega
 | j+1,hj,h,i,hl,hi=>by
  rw[znX (by omega)]at h;by_cases e:i=j
  ·subst e;omega
  ·exact zpS (j:=j) (by omega) (by omega) i hl (by omega)
theorem zsq{p:PG}(h:zlb p=true):isB p.m=true/\∀r∈p.prs,isB r.b=true:=by
 simp only[zlb,Bool.and_eq_true,decide_eq_true_eq,List.all_eq_true]at h;refine⟨?_,fun r hr=>?_⟩
 ·have:=h.2;simp only[zly,Bool.and_eq_true]at this;exact this.2
 ·have:=h.1.2 r hr;simp only[zor,zly,Bool.and_eq_true]at this;exact this.2.2
theorem zuj{p:PG}(hv:zlb p=true)(hc:chkN p=0):∀u∈p.m.ks,GP p.prs u:=by
 obtain⟨h1,h2⟩:=zsq hv;unfold chkN at hc;refine GP.block h1 (zws _ _ p.vs (.inr (.inl h1)) (by omega)) fun q hq=>⟨h2 q hq,?_⟩
 obtain⟨i,hi,rfl⟩:=List.getElem_of_mem hq;have:=zpS zl (show prcN p.prs p.prs.length=0 by omega) i hi hi;unfold prcE at this;exact zws _ _ _ (.inr (.inl (h2 _ hq))) (show cntV p.prs p.prs[i].b p.prs[i].ps=0 by omega)
theorem zxY(M a b r s g:Nat)(h1:a<=b)(h2:s<=r)(hg:b*M+r<=g):a*M+s<=g:=by have:=Nat.mul_le_mul_right M h1;omega
theorem zuF{p:PG}{F:Int}{g:Nat}(hv:zlb p=true)(hg:F.toNat*2000+2000<=g)(back:Bool)(S:ST)(e:List Nat):Good 0 (runO p.prs F g back p.m ⟨S,0,e⟩):=by
 obtain⟨_,_,h3,_,h5⟩:=zmh hv;refine zlH _ _ fun u hu r hr=>zl3 (M:=2000) (fun q hq=>(h3 q hq).2.2) (by omega) g back u r ?_;have h6:=zpi (zlF hu);exact zxY 2000 (F.toNat-r.n) F.toNat 2000 _ g (by omega) (by omega) hg
theorem zyd(A:Option Addr)(l c:Nat)(w:World):(Instr.buildSlice 31 1 #[(0,.slice A l c)]).run Tryz.prog w=.ok (.slice (some ⟨w.heap.size,0,none⟩) 1 1) (w.alloc (.cells #[.slice A l c] 32)):=by kernel_rfl
theorem bS12(B C:Option Addr)(m d n e:Nat)(w:World):(Instr.build 34 #[(1,.slice B m d),(2,.slice C n e)]).run Tryz.prog w=.ok (.agg #[.slice none 0 0,.slice B m d,.slice C n e]) w:=by kernel_rfl
section
variable {P:Program} {ops:Array Oper} {Q:Exit->Act->World->Prop} {md:Region.Mode} {S1 S2:World->Prop} {k:Nat}
theorem zpG(I:Nat->Array Bool->Act->World->Prop)(hS:∀f l a w,I f l a w->S1 w/\S2 w)
  (h:∀f l a w,I f l a w->wpG P md ops Q S1 S2 k f l a w\/∃f',f=f'+1/\Region.ready md ops l≠[]/\∀i∈Region.ready md ops l,wpOp P ops Q i (fun a' w'=>I f' (l.setIfInBounds i true) a' w') a w) :
  ∀f l a w,I f l a w->wpG P md ops Q S1 S2 k f l a w
 | 0,l,a,w,hi=>by
  rcases h 0 l a w hi with h1|⟨f',h1,_⟩
  ·exact h1
  ·omega
 | f+1,l,a,w,hi=>by
  rcases h (f+1) l a w hi with h1|⟨f',h1,h2,h3⟩
  ·exact h1
  ·obtain rfl:f=f':=by omega
   exact⟨fun h0=>absurd h0 h2,fun i hm=>wpOp_mono (fun a' w' h'=>⟨⟨(hS _ _ _ _ h').1,fun _=>(hS _ _ _ _ h').2⟩,zpG I hS h f _ a' w' h'⟩) (h3 i hm)⟩
theorem zqY{a0:Act}{f0:Nat}{l0:Array Bool}{w0:World}(I:Act->Nat->Array Bool->Act->World->Prop)(hS:∀A f l a w,I A f l a w->S1 w/\S2 w)
  (h:∀A,A=a0->∀f l a w,I A f l a w->wpG P md ops Q S1 S2 k f l a w\/∃f',f=f'+1/\Region.ready md ops l≠[]/\∀i∈Region.ready md ops l,wpOp P ops Q i (fun a' w'=>I A f' (l.setIfInBounds i true) a' w') a w)
  (h0:I a0 f0 l0 a0 w0):wpG P md ops Q S1 S2 k f0 l0 a0 w0:=zpG (I a0) (hS a0) (h a0 rfl) _ _ _ _ h0
end
def zoq(l0 l3 l4 l7 l9:Bool)(v5 v8 v9 v12:Value)(b3:Nat)(s:SS):Option SI->RowD
 | none=>if l9=true then⟨boxV b3,34,3,1,[.slice none 0 0,.slice none 0 0,.slice none 0 0]⟩else nilR
 | some .inp=>if l3=true then⟨v8,3,1,s.tin.length,zkh s.tin⟩else if l0=true then⟨v5,3,1,0,[]⟩else nilR
 | some .out=>if l7=true then⟨v12,3,1,s.tout.length,zkh s.tout⟩else if l4=true then⟨v9,3,1,0,[]⟩else nilR
 | some _=>nilR
def zlQ(vc vi vo:Value)(fc:Nat->Value)(b3:Nat)(s:SS)(j:Nat):Option SI->RowD
 | none=>⟨boxV b3,34,3,1,[vc,vi,vo]⟩
 | some .all=>⟨vc,32,1,j,(List.range j).map fc⟩
 | some (.el i)=>if i<j then⟨fc i,3,1,(s.cells.getD i []).length,zkh (s.cells.getD i [])⟩else nilR
 | some .inp=>⟨vi,3,1,s.tin.length,zkh s.tin⟩
 | some .out=>⟨vo,3,1,s.tout.length,zkh s.tout⟩
theorem zwN(w:World)(n0:Nat)(v5 v8 v9 v12:Value)(b3:Nat)(s:SS):Rws w n0 (zoq false false false false false v5 v8 v9 v12 b3 s):=by
 have e:∀i,zoq false false false false false v5 v8 v9 v12 b3 s i=nilR:=by
  intro i;rcases i with _|i
  ·rfl
  ·cases i<;>rfl
 refine⟨fun i=>by rw[e];exact zlV w n0,fun i j b _ hi _=>?_⟩;rw[e]at hi;simp[nilR,Value.ownBlock]at hi
theorem zuO(w:World)(n0:Nat)(h:n0<=w.heap.size)(a b c:Value)(E:TypeId):(w.alloc (.cells #[a,b,c] E)).ownsRow n0 E 3 (boxV w.heap.size) 1 [a,b,c] :=
 ⟨rfl,.inr ⟨w.heap.size,1,#[a,b,c],rfl,h,heap_alloc_new w _,zl,by unfold maxLen;omega,rfl,rfl⟩⟩
theorem zrO(vc iK vi vo:Value)(fc:Nat->Value)(b3:Nat)(s:SS)(j:Nat)(l:List Int)(v8 r5:Value)(hl:s.cells.getD j []=l) :
  updR (updR (updR (updR (zlQ vc vi vo fc b3 s j) (some (.el j)) ⟨r5,3,1,0,[]⟩) (some (.el j)) ⟨v8,3,1,l.length,zkh l⟩) (some .all) ⟨iK,32,1,j+1,(List.range j).map fc++[v8]⟩) none ⟨boxV b3,34,3,1,[iK,vi,vo]⟩=zlQ iK vi vo (fun i=>if i=j then v8 else fc i) b3 s (j+1):=by
 funext i;rcases i with _|i
 ·rfl
 ·cases i with
  | all =>
   simp only[updR,zlQ,reduceCtorEq,if_false,if_true,RowD.mk.injEq,true_and];rw[List.range_succ,List.map_append];congr 1
   ·refine List.map_congr_left fun i hi=>?_;have:i≠j:=by have:=List.mem_range.1 hi;omega
    simp[this]
   ·simp
  | inp=>rfl
  | out=>rfl
  | el i =>
   by_cases e:i=j
   ·subst e;simp[updR,zlQ,<-hl]
   ·have e2:(i<j+1)↔(i<j):=by omega
    simp[updR,zlQ,e,e2]
theorem zpP{W:World}{n0:Nat}{vc vi vo:Value}{fc:Nat->Value}{b3:Nat}{s:SS}(h:Rws W n0 (zlQ vc vi vo fc b3 s s.cells.length)):Rws W n0 (zk2 vc vi vo fc s):=by
 have e:∀i,zk2 vc vi vo fc s i=zlQ vc vi vo fc b3 s s.cells.length (some i):=fun i=>by cases i<;>rfl
 refine⟨fun i=>by rw[e];exact h.row (some i),fun i j b hij hi hj=>?_⟩;rw[e]at hi hj;exact h.sep (some i) (some j) b (fun e'=>hij (by injection e')) hi hj
theorem zsL{w:World}{n0 b:Nat}{x y z:Value}{E:TypeId}(hn:n0<=b)(h:w.heap[b]?=some (.cells #[x,y,z] E (0,0))):w.ownsRow n0 E 3 (boxV b) 1 [x,y,z] :=
 ⟨rfl,.inr ⟨b,1,#[x,y,z],rfl,hn,h,zl,by unfold maxLen;omega,rfl,rfl⟩⟩
theorem zqu(w:World)(n0:Nat)(E:TypeId):w.ownsRow n0 E 1 (.slice none 0 0) 0 []:=⟨rfl,.inl ⟨rfl,rfl⟩⟩
theorem k_2(l5 l9:Bool)(v5 v8 v8' v9 v12:Value)(b3:Nat)(s:SS):updR (zoq false false false l5 l9 v5 v8' v9 v12 b3 s) (some .inp) ⟨v8,3,1,s.tin.length,zkh s.tin⟩=zoq false true false l5 l9 v5 v8 v9 v12 b3 s:=by
 funext i;rcases i with _|i
 ·rfl
 ·cases i<;>rfl
theorem k_5(l2 l9:Bool)(v5 v8 v9 v12 v12':Value)(b3:Nat)(s:SS):updR (zoq false l2 false false l9 v5 v8 v9 v12' b3 s) (some .out) ⟨v12,3,1,s.tout.length,zkh s.tout⟩=zoq false l2 false true l9 v5 v8 v9 v12 b3 s:=by
 funext i;rcases i with _|i
 ·rfl
 ·cases i<;>rfl
theorem k_7(l2 l5:Bool)(v5 v8 v9 v12:Value)(b3 b3':Nat)(s:SS):updR (zoq false l2 false l5 false v5 v8 v9 v12 b3' s) none ⟨boxV b3,34,3,1,[.slice none 0 0,.slice none 0 0,.slice none 0 0]⟩=zoq false l2 false l5 true v5 v8 v9 v12 b3 s:=by
 funext i;rcases i with _|i
 ·rfl
 ·cases i<;>rfl
theorem zyE(vi vo v5 v9:Value)(fc:Nat->Value)(b3:Nat)(s:SS):updR (updR (zoq false true false true true v5 vi v9 vo b3 s) none ⟨boxV b3,34,3,1,[.slice none 0 0,vi,vo]⟩) (some .all) ⟨.slice none 0 0,32,1,0,[]⟩=zlQ (.slice none 0 0) vi vo fc b3 s 0:=by
 funext i;rcases i with _|i
 ·rfl
 ·cases i<;>rfl
theorem zwh(vc iK vi vo:Value)(fc:Nat->Value)(b3:Nat)(s:SS)(j:Nat)(l:List Int)(v8:Value)(hl:s.cells.getD j []=l) :
  updR (updR (updR (zlQ vc vi vo fc b3 s j) (some (.el j)) ⟨v8,3,1,l.length,zkh l⟩) (some .all) ⟨iK,32,1,j+1,(List.range j).map fc++[v8]⟩) none ⟨boxV b3,34,3,1,[iK,vi,vo]⟩=zlQ iK vi vo (fun i=>if i=j then v8 else fc i) b3 s (j+1):=by
 rw[<-zrO vc iK vi vo fc b3 s j l v8 v8 hl];congr 2;funext i;by_cases e:i=some (.el j)
 ·subst e;simp[updR]
 ·simp[updR,e]
theorem zrD(s:SS)(v:Value)(w:World)(hv:SV w Any s v)(hcl:s.cells.length<=5864062014800):Calls Tryz.prog 23 #[v] w fun e W'=>∃v',e=.returned v'/\OwnS W' w.heap.size s v'/\Below w.heap.size w W':=by
 have h1:=bS12;have HV:=zh hv;obtain⟨A,c,B,d,D,e,rfl,hr1,hr2,hr3,hc1,hc2,hc3,hl1,hl2,hl3,hl4⟩:=hv;have hk:=heap_alloc_new w (.cells #[.slice A s.cells.length c,.slice B s.tin.length d,.slice D s.tout.length e] 34);have hbw:Below w.heap.size w ((w.alloc (.cells #[.slice A s.cells.length c,.slice B s.tin.length d,.slice D s.tout.length e] 34)).alloc (.cells #[.slice none 0 0,.slice none 0 0,.slice none 0 0] 34)):=zkc (zkc zr _) _;have hk2:=zke hk (.cells #[.slice none 0 0,.slice none 0 0,.slice none 0 0] 34);have hz1:((w.alloc (.cells #[.slice A s.cells.length c,.slice B s.tin.length d,.slice D s.tout.length e] 34)).alloc (.cells #[.slice none 0 0,.slice none 0 0,.slice none 0 0] 34)).heap.size=w.heap.size+1+1:=by simp
 have hk3:=heap_alloc_new (w.alloc (.cells #[.slice A s.cells.length c,.slice B s.tin.length d,.slice D s.tout.length e] 34)) (.cells #[.slice none 0 0,.slice none 0 0,.slice none 0 0] 34);rw[World.size_alloc]at hk3;have HI:=zh (show s.I from⟨fun l hl=>by
  obtain⟨i,hi,rfl⟩:=List.mem_iff_getElem.1 hl;obtain⟨_,_,_,_,_,_,_,hr⟩:=hr1 i hi;exact hr.fits,hr2.fits,hr3.fits⟩)
 go_enter Tryz.func23,Tryz.ntmps23;go_upto_region 1 with fail;obtain⟨w1,hw1⟩:=zX ((w.alloc (.cells #[.slice A s.cells.length c,.slice B s.tin.length d,.slice D s.tout.length e] 34)).alloc (.cells #[.slice none 0 0,.slice none 0 0,.slice none 0 0] 34));rw[hw1]at hbw hk2 hk3 hz1 ⊢;have HB1:=zh hbw;have aB:=zh hk2;have fJ:=zh hk3;have HR1:=zh (hr1.later hbw);have HR2:=zh (hr2.later hbw);have HR3:=zh (hr3.later hbw);have HL:=zh (show s.Lim from⟨hl1,hl2,hl3,hl4⟩);clear hk hbw hk2 hk3 hw1 hr1 hr2 hr3 hl1 hl2 hl3 hl4 HV;obtain⟨z0,z1,z2⟩:=zkk aB.out;have hSS:zW (fun w':World=>zv w' w.heap.size 1 (.slice B s.tin.length d)/\zv w' w.heap.size 2 (.slice D s.tout.length e)) zU w1.drew:=⟨⟨z1,z2⟩,trivial⟩
 refine wp_region_noPanic ?_;refine zG hSS 8 ?_;refine zT 0 hSS ?_;refine zT 1 hSS ?_;refine zT 3 hSS ?_;refine zT 4 hSS ?_;refine zqY (fun A f l a wr=>∃(l2 l5 l6 l7:Bool) (v8 v12 v13 v3:Value) (b3:Nat),f=(!l2).toNat+(!l5).toNat+(!l6).toNat+(!l7).toNat+1/\l = #[true,true,l2,true,true,l5,l6,l7,false] /\
  a=(((A.put (some 8) v8).put (some 11) v12).put (some 12) v13).put (some 3) v3/\Hid (Below w1.heap.size w1 wr)/\Hid (Rws wr w1.heap.size (zoq false l2 false l5 l7 undef v8 undef v12 b3 s))/\Hid ((l5=true->l2=true)/\(l6=true->v13=.agg #[.slice none 0 0,v8,v12]/\l2=true/\l5=true)/\(l7=true->v3=.pointer (some ⟨b3,0,none⟩)))/\Hid (l7=false->v3=undef)) (fun A f l a wr h=>?_) ?_ ⟨false,false,false,false,undef,undef,undef,undef,0,rfl,rfl,(by simp only[Act.put,zD,zE,zF]),zh zr.drew,zh (zwN _ _ _ _ _ _ _ _),zh ⟨fun h=>(by cases h),fun h=>(by cases h),fun h=>(by cases h)⟩,zh (fun _=>rfl)⟩
 ·obtain⟨_,_,_,_,_,_,_,_,_,_,_,_,hb,_⟩:=h;exact⟨⟨zb hb.out z1,zb hb.out z2⟩,trivial⟩
 rintro A' hA f l a wr ⟨l2,l5,l6,l7,v8,v12,v13,v3,b3,hf,rfl,ha,af,HRW,HC,HU⟩;by_cases hall:(l2&&l5&&l6&&l7)=true
 ·left
  simp only[Bool.and_eq_true]at hall;obtain⟨⟨⟨rfl,rfl⟩,rfl⟩,rfl⟩:=hall;obtain⟨-,rH,h3⟩:=HC.out;obtain⟨rfl,-,-⟩:=rH rfl;obtain rfl:=h3 rfl;subst hf ha hA;have hrow:=HRW.out.row none;obtain⟨B8,c8,e8,-,-⟩:=zkf (HRW.out.row (some .inp));change v8=.slice B8 s.tin.length c8 at e8;obtain⟨kQ,c12,e12,-,-⟩:=zkf (HRW.out.row (some .out));change v12=.slice kQ s.tout.length c12 at e12;subst e8 e12;have hbx:=zlN hrow;have c0:wr.cell? ⟨b3,0,none⟩=some (.slice none 0 0):=zc hbx rfl;have c1:wr.cell? ⟨b3,1,none⟩=some (.slice none 0 0):=zc hbx rfl;have c2:wr.cell? ⟨b3,2,none⟩=some (.slice none 0 0):=zc hbx rfl;have cf:∀j,wr.frozen? ⟨b3,j,none⟩=false:=fun j=>zf hbx;refine zp 8 fun K hK=>?_;(try simp only[zQ]);go_simp;have hb3:w1.heap.size<=b3/\b3<wr.heap.size:=hrow.lt b3 rfl
  have hch:Chg (fun b=>b=b3) wr (((wr.setCell ⟨b3,0,none⟩ (.slice none 0 0)).setCell ⟨b3,1,none⟩ (.slice B8 s.tin.length c8)).setCell ⟨b3,2,none⟩ (.slice kQ s.tout.length c12)) :=
   (((Chg.refl (fun b=>b=b3) wr).setCell (p:=⟨b3,0,none⟩) (.inl rfl) _).setCell (p:=⟨b3,1,none⟩) (.inl rfl) _).setCell (p:=⟨b3,2,none⟩) (.inl rfl) _
  have hh:=heap_setCell_same _ b3 2 _ _ (.slice kQ s.tout.length c12) (heap_setCell_same _ b3 1 _ _ (.slice B8 s.tin.length c8) (heap_setCell_same wr b3 0 _ _ (.slice none 0 0) hbx));have aO:=zh (af.out.trans (hch.below af.out.size fun b e=>by omega));have hrw:=(HRW.out.upd none (r:=⟨boxV b3,34,3,1,[.slice none 0 0,.slice B8 s.tin.length c8,.slice kQ s.tout.length c12]⟩) (hch.mono fun b _ e=>by subst e;rfl) (zsL hb3.1 hh) (fun b hb=>.inl hb)).upd (some .all) (r:=⟨.slice none 0 0,32,1,0,[]⟩) (Chg.refl _ _) (zqu _ _ _) (fun b hb=>by simp[Value.ownBlock]at hb);rw[zyE (fc:=fun _=>.slice none 0 0)]at hrw;have pW:=zh hrw;obtain⟨w2,hw2⟩:=zX (((wr.setCell ⟨b3,0,none⟩ (.slice none 0 0)).setCell ⟨b3,1,none⟩ (.slice B8 s.tin.length c8)).setCell ⟨b3,2,none⟩ (.slice kQ s.tout.length c12));rw[hw2]at aO pW ⊢
  have aL:(fun w':World=>zv w' w.heap.size 1 (.slice B s.tin.length d)/\zv w' w.heap.size 2 (.slice D s.tout.length e)) w2:=⟨zb aO.out z1,zb aO.out z2⟩
  refine hK.out _ _ aL ?_;clear hK K hSS aL hch hh hrw hw2 hbx c0 c1 c2 cf hrow HRW af HU HC rH h3 h1;refine zd ?_;refine NoPanic.normal ?_;obtain⟨vi,ni⟩:=zX (Value.slice B8 s.tin.length c8);obtain⟨vo,tu⟩:=zX (Value.slice kQ s.tout.length c12);rw[ni,tu]at pW;have vz:=zh ni;have HVO:=zh tu;clear ni tu;have q0:=zb aO.out z0;go_wp2_with fail;clear q0
  go_loopw [16] (fun i wr=>∃j:Nat,j<=s.cells.length/\i=.int .i64 j/\Hid (Below w1.heap.size w1 wr)/\∃vc fc,Hid (Rws wr w1.heap.size (zlQ vc vi vo fc b3 s j))) (fun i _=>s.cells.length-(intOf i).toNat)
  case atStart=>exact⟨0,Nat.zero_le _,rfl,aO,_,_,pW⟩
  case round =>
   clear aO pW;obtain⟨j,hj,rfl,af,vc,fc,HRW⟩:=hrel;have y0:=zb af.out z0;by_cases hlt:j<s.cells.length
   ·have hj1:(j:Int)<(s.cells.length:Int):=by omega
    have hj0:(0:Int)<=(j:Int):=by omega
    obtain⟨a,l,Al,cl,rfl,Hl,hcl0,hlc,hrl⟩:=(HR1.out.later af.out).nd hlt;have yL:=zh hrl;have gD:=zh (show l.length<=LI by rw[<-Hl.out];exact HL.out.2.1 _ (List.getElem_mem hlt));have hbx:=zlN (HRW.out.row none);have x0:wr.cell? ⟨b3,0,none⟩=some vc:=zc hbx rfl;have hz0:wr.frozen? ⟨b3,0,none⟩=false:=zf hbx;obtain⟨Av,cv,bQ,-⟩:=zkf (HRW.out.row (some .all));change vc=.slice Av j cv at bQ;subst bQ;have hS0:zU wr.drew/\(fun w':World=>zv w' b3 0 (.slice Av j cv)) wr.drew:=⟨trivial,x0⟩
    obtain⟨i0,hi0,hq0,hq1,hq2⟩:=info_parts zsy;have dE:=zh (zkN l Al cl Any wr.drew (yL.out.later zr.drew) gD.out);go_upto_region 5 with fail;refine wp_region_noPanic ?_;refine zkm zU (fun w':World=>zv w' b3 0 (.slice Av j cv)) 7 (by kernel_rfl) ?_;refine zT 0 hS0 ?_;refine zJ 1 hS0 ?_;refine zT 2 hS0 ?_;have hsz:=af.out.size;have had:Calls Tryz.prog 48 [.slice Al l.length cl].toArray wr.drew fun e w'=>∃v,e=.returned v/\(w'.ownsRow wr.heap.size 3 1 v l.length (zkh l)/\Below wr.heap.size wr w') :=
     dE.out.mono fun e w' ⟨v,h1,h2,_,h4⟩=>⟨v,h1,h2,zkb (zs wr).drew h4⟩
    refine zo 3 fun K hK=>?_;refine zkd (by rfl) (.func 48) [.tmp 22] _ (by rfl) 48 _ zm4 (by rfl) _ (by rfl) _ had ?_;rintro v8 wb ⟨ho,hbb⟩;have hd1:=HRW.out.upd (some (.el j)) (r:=⟨v8,3,1,l.length,zkh l⟩) (Chg.of_below hbb) (zk5 ho hsz) (fun b hb=>.inr (ho.lt b hb).1);have HD1:=zh hd1;have dQ:=zh hbb;have hS2:zU wb/\(fun w':World=>zv w' b3 0 (.slice Av j cv)) wb:=⟨trivial,zb dQ.out x0⟩
    obtain⟨A8,mg,rfl,-⟩:=zkf ho;refine hK.out _ _ hS2 ?_;clear hK K hd1 ho hS0 hbb had;(try simp only[zQ]);have h1:=zyd;refine zo 4 fun K hK=>?_;(try simp only[zA,zB,zC]);go_simp;have gU:=zh (show Below wr.heap.size wr (wb.alloc (.cells #[.slice A8 l.length mg] 32))from zkc dQ.out _);have HD2:=zh (HD1.out.later (show Below wb.heap.size wb (wb.alloc (.cells #[.slice A8 l.length mg] 32))from zkc zr _));have aJ:=zh (show(wb.alloc (.cells #[.slice A8 l.length mg] 32)).heap[wb.heap.size]?=some (.cells #[.slice A8 l.length mg] 32 (0,0))from heap_alloc_new wb _);have yn:zU (wb.alloc (.cells #[.slice A8 l.length mg] 32))/\(fun w':World=>zv w' b3 0 (.slice Av j cv)) (wb.alloc (.cells #[.slice A8 l.length mg] 32)):=⟨trivial,zb gU.out x0⟩
    obtain⟨wc,hwc⟩:=zX ((wb.alloc (.cells #[.slice A8 l.length mg] 32)));rw[hwc]at gU HD2 aJ yn ⊢;refine hK.out _ _ yn ?_;clear hK K hwc hS2 HD1;(try simp only[zQ]);have nQ:=(zkb af.out gU.out).size;have hrow:=HD2.out.row (some .all);rw[zkj (by simp)]at hrow;change wc.ownsRow w1.heap.size 32 1 (.slice Av j cv) j ((List.range j).map fc)at hrow;refine zo 5 fun K hK=>?_;refine zkS (by rfl) (.tmp 21) (.tmp 24) 31 (by rfl) w1.heap.size 32 i0 _ 1 24 Tryz.underlying31 hi0 hq0 hq1 hq2 rfl (by decide) (.slice Av j cv) j ((List.range j).map fc) (by rfl) hrow ⟨wb.heap.size,0,none⟩ 1 1 [.slice A8 l.length mg] (by rfl) rfl (fun q u hq=>by
     match q,hq with
     | 0,hq=>injection hq with hq;subst hq;exact zc aJ.out rfl) (fun u hu=>by simp at hu;subst hu;rfl) (by unfold maxLen;omega) (by omega) nQ (fun vd wd ho hg bX=>?_)
    have hd3:=HD2.out.upd (some .all) (r:=⟨vd,32,1,j+1,(List.range j).map fc++[.slice A8 l.length mg]⟩) ((Chg.row hg).mono fun b _ hb=>hb) ho (fun b hb=>by
     rcases bX with h5|h5
     ·exact .inl (h5▸hb)
     ·exact .inr (by rw[h5]at hb;injection hb with hb;omega))
    have HD3:=zh hd3;have hav:∀g,(Value.slice Av j cv).ownBlock=some g->(zlQ (.slice Av j cv) vi vo fc b3 s j (some .all)).v.ownBlock=some g:=fun g e=>e;have hsep:∀g,(Value.slice Av j cv).ownBlock=some g->g≠b3:=fun g e h=>HRW.out.sep (some .all) none g (by simp) e (by rw[h];rfl);have hlo:∀g,(Value.slice Av j cv).ownBlock=some g->w1.heap.size<=g:=fun g e=>(HRW.out.lt (some .all) g e).1;have dw:Chg (fun b=>(Value.slice Av j cv).ownBlock=some b) wc wd:=Chg.row hg;have dP:=zh (show Below w1.heap.size w1 wd from(zkb af.out gU.out).grown hg nQ (fun g e=>hlo g e));have jh:=zlN (HD3.out.row none);have e0:wd.cell? ⟨b3,0,none⟩=some (.slice Av j cv):=zc jh rfl;have ez:wd.frozen? ⟨b3,0,none⟩=false:=zf jh;have hab:a.block<w1.heap.size:=by
     obtain⟨a',_,_,e',_,hc',_⟩:=HR1.out j hlt;injection e' with e';subst e';have:=World.block_lt_of_cell? w1 _ hc';rwa[zkp]at this
    have lV:zU wd/\(fun w':World=>zv w' b3 0 (.slice Av j cv)) wd:=⟨trivial,e0⟩
    have hd4:=HD3.out.set none (g:=b3) (o:=0) (by rfl) (by show 0<3;decide) vd;have hd5:Rws (wd.setCell ⟨b3,0,none⟩ vd) w1.heap.size (zlQ vd vi vo (fun i=>if i=j then .slice A8 l.length mg else fc i) b3 s (j+1)):=by
     rw[<-zwh (.slice Av j cv) vd vi vo fc b3 s j l (.slice A8 l.length mg) (by rw[List.getD_eq_getElem?_getD,List.getElem?_eq_getElem hlt];exact Hl.out)];exact hd4
    have HD5:=zh hd5;have hb3lt:=(HD3.out.lt none b3 rfl)
    have vW:=zh (show Below w1.heap.size w1 (wd.setCell ⟨b3,0,none⟩ vd)from dP.out.trans ((((Chg.refl (fun b=>b=b3) wd).setCell (p:=⟨b3,0,none⟩) (.inl rfl) vd)).below dP.out.size fun b e=>by omega));obtain⟨Ad,cd',rfl,-⟩:=zkf ho;refine hK.out _ _ lV ?_;clear hK K hd3 hd4 hd5 ho hg bX hrow yn dw hav hsep hlo jh;(try simp only[zQ]);refine zo 6 fun K hK=>?_;(try simp only[zA,zB,zC]);go_simp;refine hK.out _ _ lV ?_;clear hK K;(try simp only[zQ]);refine zp 7 fun K hK=>?_;(try simp only[zA,zB,zC]);go_simp;refine hK.out _ _ trivial ?_;clear hK K;(try simp only[zQ]);refine zd ?_;refine NoPanic.normal ?_;go_wp2_with fail
    go_roundw
    case rel=>exact⟨j+1,by omega,by go_num,vW,_,_,HD5⟩
    case measure=>simp[intOf];omega
   ·obtain rfl:j=s.cells.length:=by omega
    have hj1:¬ (s.cells.length:Int)<(s.cells.length:Int):=by omega
    have hbx:=zlN (HRW.out.row none);have x0:wr.cell? ⟨b3,0,none⟩=some vc:=zc hbx rfl;have x1:wr.cell? ⟨b3,1,none⟩=some vi:=zc hbx rfl;have x2:wr.cell? ⟨b3,2,none⟩=some vo:=zc hbx rfl;obtain⟨Av,cv,bQ,-⟩:=zkf (HRW.out.row (some .all));change vc=.slice Av s.cells.length cv at bQ;subst bQ;rw[<-vz.out]at x1;rw[<-HVO.out]at x2;have hk3:=zka fJ.out af.out;have q0:wr.cell? ⟨w.heap.size+1,0,none⟩=some (.slice none 0 0):=zc hk3 rfl;have q1:wr.cell? ⟨w.heap.size+1,1,none⟩=some (.slice none 0 0):=zc hk3 rfl;have q2:wr.cell? ⟨w.heap.size+1,2,none⟩=some (.slice none 0 0):=zc hk3 rfl;have cf:∀j,wr.frozen? ⟨w.heap.size+1,j,none⟩=false:=fun j=>zf hk3;have gu:=zh (zpP HRW.out);have HK3E:=zh hk3;clear hbx hk3 HRW;go_wp2_with fail
    have hch:Chg (fun b=>b=w.heap.size+1) wr (((wr.setCell ⟨w.heap.size+1,0,none⟩ (.slice Av s.cells.length cv)).setCell ⟨w.heap.size+1,1,none⟩ (.slice B8 s.tin.length c8)).setCell ⟨w.heap.size+1,2,none⟩ (.slice kQ s.tout.length c12)) :=
     (((Chg.refl (fun b=>b=w.heap.size+1) wr).setCell (p:=⟨w.heap.size+1,0,none⟩) (.inl rfl) _).setCell (p:=⟨w.heap.size+1,1,none⟩) (.inl rfl) _).setCell (p:=⟨w.heap.size+1,2,none⟩) (.inl rfl) _
    have hh:=heap_setCell_same _ (w.heap.size+1) 2 _ _ (.slice kQ s.tout.length c12) (heap_setCell_same _ (w.heap.size+1) 1 _ _ (.slice B8 s.tin.length c8) (heap_setCell_same wr (w.heap.size+1) 0 _ _ (.slice Av s.cells.length cv) HK3E.out));obtain⟨w9,aP⟩:=zX (((wr.setCell ⟨w.heap.size+1,0,none⟩ (.slice Av s.cells.length cv)).setCell ⟨w.heap.size+1,1,none⟩ (.slice B8 s.tin.length c8)).setCell ⟨w.heap.size+1,2,none⟩ (.slice kQ s.tout.length c12));rw[aP]at hch hh ⊢;have t0:w9.cell? ⟨w.heap.size+1,0,none⟩=some (.slice Av s.cells.length cv):=zc hh (by simp);have t1:w9.cell? ⟨w.heap.size+1,1,none⟩=some (.slice B8 s.tin.length c8):=zc hh (by simp);have t2:w9.cell? ⟨w.heap.size+1,2,none⟩=some (.slice kQ s.tout.length c12):=zc hh (by simp)
    refine bodyPost_ret (v:=.agg #[.slice Av s.cells.length cv,.slice B8 s.tin.length c8,.slice kQ s.tout.length c12]) (by simp[results,Tryz.results23,go_sem,t0,t1,t2]) rfl ⟨_,rfl,?_,(zkb HB1.out af.out).trans (hch.below (zkb HB1.out af.out).size fun b e=>by omega)⟩;have hrw:=gu.out.chg hch (fun i b hb e=>by have:=(gu.out.lt i b hb).1;omega);rw[<-vz.out,<-HVO.out]at hrw;exact⟨_,_,_,_,rfl,hrw.mono (by omega),HI.out⟩
 ·right
  have bG:=HC.out;have hcc:(l5=true->l2=true)/\(l6=true->l2=true/\l5=true):=⟨bG.1,fun h=>(bG.2.1 h).2⟩
  refine⟨f-1,?_,?_,?_⟩
  ·clear HC bG HRW HU ha af hcc;subst hf;revert hall;revert l2 l5 l6 l7
   decide
  ·clear HC bG HRW HU ha af hf;revert hall hcc;revert l2 l5 l6 l7
   decide +kernel
  intro i hi;have hcase:(i=2/\l2=false)\/(i=5/\l5=false/\l2=true)\/(i=6/\l6=false/\l2=true/\l5=true)\/(i=7/\l7=false):=by
   refine of_decide_eq_true ((List.all_eq_true (p:=fun i=>decide ((i=2/\l2=false)\/(i=5/\l5=false/\l2=true)\/(i=6/\l6=false/\l2=true/\l5=true)\/(i=7/\l7=false)))).1 ?_ i hi);clear HC bG HRW HU ha af hf hi;revert hall hcc;revert l2 l5 l6 l7
   decide +kernel
  clear hi hall;subst ha hA;rcases hcase with⟨rfl,rfl⟩|⟨rfl,rfl,rfl⟩|⟨rfl,rfl,rfl,rfl⟩|⟨rfl,rfl⟩
  ·refine wpOp_step rfl (fun K' ak=>?_);have hK:=zh ak;clear ak;have hsz:=af.out.size;have had:Calls Tryz.prog 48 [.slice B s.tin.length d].toArray wr fun e w'=>∃v,e=.returned v/\(w'.ownsRow wr.heap.size 3 1 v s.tin.length (zkh s.tin)/\Below wr.heap.size wr w') :=
    (zkN s.tin B d Any wr (HR2.out.later af.out) HL.out.2.2.1).mono fun e w' ⟨v,h1,h2,_,h4⟩=>⟨v,h1,h2,h4⟩
   refine zkd (by rfl) (.func 48) [.tmp 7] _ (by rfl) 48 _ zm4 (by rfl) _ (by rfl) _ had ?_;rintro v' w' ⟨ho,hb⟩;obtain rfl:l6=false:=by
    rcases l6 with _|_
    ·rfl
    ·exact absurd (hcc.2 rfl).1 (by decide)
   obtain rfl:l5=false:=by
    rcases l5 with _|_
    ·rfl
    ·exact absurd (hcc.1 rfl) (by decide)
   have hrw:=HRW.out.upd (some .inp) (r:=⟨v',3,1,s.tin.length,zkh s.tin⟩) (Chg.of_below hb) (zk5 ho hsz) (fun b hb=>.inr (ho.lt b hb).1);rw[k_2]at hrw;exact hK.out _ _ ⟨true,false,false,l7,_,v12,v13,v3,b3,(by subst hf;simp<;>omega),rfl,(by simp only[zQ]),zh (zkb af.out hb),zh hrw,zh ⟨fun h=>(by cases h),fun h=>(by cases h),bG.2.2⟩,HU⟩
  ·refine wpOp_step rfl (fun K' ak=>?_);have hK:=zh ak;clear ak;have hsz:=af.out.size;have had:Calls Tryz.prog 48 [.slice D s.tout.length e].toArray wr fun e w'=>∃v,e=.returned v/\(w'.ownsRow wr.heap.size 3 1 v s.tout.length (zkh s.tout)/\Below wr.heap.size wr w') :=
    (zkN s.tout D e Any wr (HR3.out.later af.out) HL.out.2.2.2).mono fun e w' ⟨v,h1,h2,_,h4⟩=>⟨v,h1,h2,h4⟩
   refine zkd (by rfl) (.func 48) [.tmp 10] _ (by rfl) 48 _ zm4 (by rfl) _ (by rfl) _ had ?_;rintro v' w' ⟨ho,hb⟩;obtain rfl:l6=false:=by
    rcases l6 with _|_
    ·rfl
    ·exact absurd (hcc.2 rfl).2 (by decide)
   have hrw:=HRW.out.upd (some .out) (r:=⟨v',3,1,s.tout.length,zkh s.tout⟩) (Chg.of_below hb) (zk5 ho hsz) (fun b hb=>.inr (ho.lt b hb).1);rw[k_5]at hrw;exact hK.out _ _ ⟨true,true,false,l7,v8,_,v13,v3,b3,(by subst hf;simp<;>omega),rfl,(by simp only[zQ]),zh (zkb af.out hb),zh hrw,zh ⟨fun _=>rfl,fun h=>(by cases h),bG.2.2⟩,HU⟩
  ·refine wpOp_step rfl (fun K' ak=>?_);have hK:=zh ak;clear ak;obtain⟨B8,c8,e8,-,-⟩:=zkf (HRW.out.row (some .inp));change v8=.slice B8 s.tin.length c8 at e8;obtain⟨kQ,c12,e12,-,-⟩:=zkf (HRW.out.row (some .out));change v12=.slice kQ s.tout.length c12 at e12;subst e8 e12;(try simp only[zQ]);go_simp;exact hK.out _ _ ⟨true,true,true,l7,_,_,_,v3,b3,(by subst hf;simp<;>omega),rfl,(by simp only[Act.put,zD,zE,zF]),af,HRW,zh ⟨fun _=>rfl,fun _=>⟨rfl,rfl,rfl⟩,bG.2.2⟩,HU⟩
  ·refine wpOp_step rfl (fun K' ak=>?_);have hK:=zh ak;clear ak;obtain rfl:=HU.out rfl;(try simp only[zQ]);go_simp;have hsz:=af.out.size;have hrw:=HRW.out.upd none (r:=⟨boxV wr.heap.size,34,3,1,[.slice none 0 0,.slice none 0 0,.slice none 0 0]⟩) (W':=wr.alloc (.cells #[.slice none 0 0,.slice none 0 0,.slice none 0 0] 34)) (Chg.of_below (zkc zr _)) (zuO wr _ hsz _ _ _ _) (fun b hb=>.inr (by simp[Value.ownBlock]at hb;omega));rw[k_7]at hrw;exact hK.out _ _ ⟨l2,l5,l6,true,v8,v12,v13,_,wr.heap.size,(by subst hf;simp<;>omega),rfl,(by simp only[Act.put,zD,zE,zF]),zh (zkc af.out _),zh hrw,zh ⟨bG.1,bG.2.1,fun _=>rfl⟩,zh (fun h=>(by cases h))⟩
def Nz(o:Out):Prop:=o ≠ .err 0
theorem Nz.bind{o:Out}{f:RS->Out}(h:Nz o)(hf:∀r,Nz (f r)):Nz (o.bind f):=by
 cases o with
 | gas=>exact fun e=>by cases e
 | err x=>exact h
 | ok r=>exact hf r
theorem Nz.ok(r:RS):Nz (.ok r):=fun e=>by cases e
theorem Nz.gas:Nz .gas:=fun e=>by cases e
theorem Nz.step(F:Int)(r:RS):Nz (zkD F r):=by
 unfold zkD
 split
 ·intro e;injection e with e;omega
 ·exact Nz.ok _
theorem Nz.store(r:RS)(R:Int×ST):Nz (zkl r R):=by
 unfold zkl
 split
 ·rename_i h;intro e;injection e with e;exact h e
 ·exact Nz.ok _
theorem Nz.val{t:T}{r:RS}{f:Int->RS->Out}(hf:∀x,Nz (f x r)):Nz (valO t r f):=by
 unfold valO
 split
 ·rename_i h;intro e;injection e with e;exact h e
 ·exact hf _
theorem Nz.holds{F:Int}{t:T}{r:RS}{f:Bool->RS->Out}(hf:∀b r,Nz (f b r)):Nz (zld F t r f):=(Nz.step F r).bind fun r=>Nz.val fun x=>hf _ _
theorem Nz.assert(F:Int)(t:T)(b:Bool)(r:RS):Nz (zkw F t b r):=Nz.holds fun b' r=>by
 split
 ·exact Nz.ok _
 ·intro e;injection e with e;omega
theorem Nz.body{f:T->RS->Out}:∀(l:List T) (r:RS),(∀t∈l,∀r,Nz (f t r))->Nz (zla f l r)
 | [],r,_=>Nz.ok r
 | t::ts,r,h=>(h t (List.mem_cons_self ..) r).bind fun r=>Nz.body ts r fun u hu=>h u (List.mem_cons_of_mem _ hu)
theorem Nz.loop{F:Int}{f:T->RS->Out}{entry test:T}{l1 l2:List T}(h1:∀t∈l1,∀r,Nz (f t r))(h2:∀t∈l2,∀r,Nz (f t r)):∀(m:Nat) (r:RS),Nz (zmf F f entry test l1 l2 m r)
 | 0,_=>Nz.gas
 | m+1,r=>by
  rw[zmf];refine(Nz.body l1 r h1).bind fun r=>Nz.holds fun b r=>?_
  split
  ·exact Nz.ok _
  ·exact(Nz.body l2 r h2).bind fun r=>(Nz.assert F entry false r).bind fun r=>Nz.loop h1 h2 m r
theorem znK{G:List PR->T->Prop}(hG:GC G){prs:List PR}{F:Int}:∀(g:Nat) (back:Bool) (t:T) (r:RS),G prs t->Nz (zkA prs F g back t r)
 | 0,_,_,_,_=>Nz.gas
 | g+1,back,t,r,h=>by
  have hb:∀back (b:T) r,(∀u∈b.ks,G prs u)->Nz (zla (zkA prs F g back) (blkL back b) r):=fun back b r hu=>Nz.body _ r fun u hm r=>znK hG g back u r (hu u (zlF hm));rw[zkA]
  split
  ·rename_i hk;obtain⟨-,h1,h2⟩:=hG.two _ _ h (.inl hk);refine Nz.holds fun yes r=>Nz.bind ?_ fun r=>Nz.assert _ _ _ _
   split
   ·exact hb _ _ _ h1
   ·exact hb _ _ _ h2
  ·split
   ·rename_i hk;obtain⟨-,h1,h2⟩:=hG.two _ _ h (.inr hk);exact(Nz.assert _ _ _ _).bind fun r=>Nz.loop (fun u hm r=>znK hG g back u r (h1 u (zlF hm))) (fun u hm r=>znK hG g back u r (h2 u (zlF hm))) g r
   ·split
    ·rename_i hk;obtain⟨-,h1⟩:=hG.loc _ _ h hk;exact(Nz.step _ _).bind fun r=>Nz.val fun x=>(Nz.store _ _).bind fun r=>(hb _ _ _ h1).bind fun r=>(Nz.step _ _).bind fun r=>Nz.val fun x=>Nz.store _ _
    ·split
     ·rename_i hk;obtain⟨-,h1⟩:=hG.stk _ _ h hk;exact(Nz.step _ _).bind fun r=>(Nz.store _ _).bind fun r=>(hb _ _ _ h1).bind fun r=>(Nz.step _ _).bind fun r=>Nz.store _ _
     ·split
      ·rename_i hk;obtain⟨i,q,hi,hq,h1⟩:=hG.cal _ _ h hk;rw[hi];dsimp only;rw[getD_some hq];exact(Nz.step _ _).bind fun r=>(Nz.store _ _).bind fun r=>(hb _ _ _ h1).bind fun r=>(Nz.step _ _).bind fun r=>Nz.store _ _
      ·exact(Nz.step _ _).bind fun r=>Nz.store _ _
theorem zwI{G:List PR->T->Prop}(hG:GC G){prs:List PR}{F:Int}{g:Nat}{back:Bool}{b:T}{r:RS}(h:∀u∈b.ks,G prs u):Nz (runO prs F g back b r):=Nz.body _ r fun u hm r=>znK hG g back u r (h u (zlF hm))
theorem RI.chgK{C:RC}{lo hi:Nat}{W W':World}{r:RS}(hC:(C.plus lo hi).Ok)(h:RI (C.plus lo hi) W r)(hc:Chg (fun b=>lo<=b/\b<hi) W W')(hlo:C.w.heap.size<=lo):RI (C.plus lo hi) W' r:=by
 have hkb:∀b,lo<=b/\b<hi->(C.plus lo hi).kb b:=fun b hb=>.inr hb;refine⟨h.ks.chg hc fun b _ hb=>⟨Nat.le_trans hlo hb.1,.inr (.inl (hkb b hb))⟩,hc.keep h.box fun hb=>hC.rb.2 (hkb _ hb),zn0 h.ent fun b hb=>?_,h.el,h.en,h.n,h.fb⟩;exact hc.block b (h.ent.lt b hb).2 fun hb'=>hC.ev.2 b hb (hkb _ hb')
end
end Go.Proofs.YtghbhbdnkjjnnaaGreat
