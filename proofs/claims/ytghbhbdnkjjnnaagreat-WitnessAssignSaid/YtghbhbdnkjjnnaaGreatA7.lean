/-
  Texts of the proof, put together without their remarks: ScV, Fa, ScK, Gf, Rcp, Scl, Nz.
-/
import Derived.Test.YtghbhbdnkjjnnaaGreatA6
set_option linter.unusedSimpArgs false
set_option linter.unusedVariables false
set_option maxHeartbeats 8000000
set_option maxRecDepth 100000
namespace Go.Proofs.YtghbhbdnkjjnnaaGreat
section
open Go Go.RowKit
def cntA(ps:List PR)(s:ByteArray)(l:Nat):Nat->List T->List VD->Nat
 | _,[],_=>0
 | i,t::ts,vs=>one1 (argE ps s l i t.s vs)+cntA ps s l (i+1) ts vs
mutual
/-- How many faults scope.visit reports. -/
def cntV(ps:List PR):T->List VD->Nat
 | .nd k _ s ks,vs=>one1 (zlk ps k s ks.length vs)+(if k=50\/k=51 then cntA ps s ks.length 0 ks vs else cntK ps k s 0 ks vs)
def cntK(ps:List PR)(k:Int)(s:ByteArray):Nat->List T->List VD->Nat
 | _,[],_=>0
 | i,t::ts,vs=>cntV ps t (zmm k s i vs)+cntK ps k s (i+1) ts vs
end
theorem zoe(ps:List PR)(s:ByteArray)(l:Nat)(vs:List VD):∀(a b:List T) (i:Nat),cntA ps s l i (a++b) vs=cntA ps s l i a vs+cntA ps s l (i+a.length) b vs
 | [],b,i=>by simp[cntA]
 | t::ts,b,i=>by simp[cntA,zoe ps s l vs ts b (i+1),Nat.add_assoc,Nat.add_comm 1 ts.length]
theorem zod(ps:List PR)(k:Int)(s:ByteArray)(vs:List VD):∀(a b:List T) (i:Nat),cntK ps k s i (a++b) vs=cntK ps k s i a vs+cntK ps k s (i+a.length) b vs
 | [],b,i=>by simp[cntK]
 | t::ts,b,i=>by simp[cntK,zod ps k s vs ts b (i+1),Nat.add_assoc,Nat.add_comm 1 ts.length]
theorem zpV(ps:List PR)(s:ByteArray)(l:Nat)(vs:List VD){ks:List T}{j:Nat}(h:j<ks.length):cntA ps s l 0 (ks.take (j+1)) vs=cntA ps s l 0 (ks.take j) vs+one1 (argE ps s l j ks[j].s vs):=by
 rw[List.take_succ_eq_append_getElem h,zoe];have:(ks.take j).length=j:=by simp;omega
 simp[cntA,this]
theorem zty(ps:List PR)(k:Int)(s:ByteArray)(vs:List VD){ks:List T}{j:Nat}(h:j<ks.length):cntK ps k s 0 (ks.take (j+1)) vs=cntK ps k s 0 (ks.take j) vs+cntV ps ks[j] (zmm k s j vs):=by
 rw[List.take_succ_eq_append_getElem h,zod];have:(ks.take j).length=j:=by simp;omega
 simp[cntK,this]
theorem zmJ(e:Int):one1 e<=1:=by unfold one1;split<;>omega
theorem zqU(t:T):1<=size t:=by cases t;rw[size];omega
theorem zpp(ps:List PR)(s:ByteArray)(l:Nat)(vs:List VD):∀(ks:List T) (i:Nat),cntA ps s l i ks vs<=zkX ks
 | [],i=>by simp[cntA]
 | t::ts,i=>by
  have h1:=zpp ps s l vs ts (i+1);have h2:=zmJ (argE ps s l i t.s vs);have h3:=zqU t;simp only[cntA,zkX];omega
theorem zqA(ps:List PR)(k:Int)(s:ByteArray):∀(ks:List T),(∀t∈ks,∀vs,cntV ps t vs<=size t)->∀(i:Nat) (vs:List VD),cntK ps k s i ks vs<=zkX ks
 | [],_,i,vs=>by simp[cntK]
 | t::ts,h,i,vs=>by
  have h1:=zqA ps k s ts (fun u hu=>h u (by simp[hu])) (i+1) vs;have h2:=h t (by simp) (zmm k s i vs);simp only[cntK,zkX];omega
theorem ztx(ps:List PR)(t:T):∀vs,cntV ps t vs<=size t:=by
 induction t using T.ind with
 | _ k n s ks ih =>
 intro vs;rw[cntV,size];have h1:=zmJ (zlk ps k s ks.length vs);have h2:=zpp ps s ks.length vs ks 0;have h3:=zqA ps k s ks ih 0 vs
 split<;>omega
theorem zlD:∀(ks:List T) (j:Nat),zkX (ks.take j)<=zkX ks
 | [],j=>by simp[zkX]
 | t::ts,0=>by simp[zkX]
 | t::ts,j+1=>by have:=zlD ts j;simp only[List.take_succ_cons,zkX];omega
theorem zrM(k:Int)(s:ByteArray)(i:Nat)(vs:List VD):(zmm k s i vs).length<=vs.length+1:=by unfold zmm;split;simp;split<;>simp
theorem PV.keep{w w':World}{S S':Nat->Prop}{p:PG}{v:Value}(h:PV w S p v)(hS:∀b,S b->b<w.heap.size->S' b)(hk:∀b,S b->b<w.heap.size->w'.heap[b]?=w.heap[b]?):PV w' S' p v :=
 let ⟨A1,c1,A2,c2,A3,c3,e,h⟩:=h;⟨A1,c1,A2,c2,A3,c3,e,h.keep hS hk⟩
structure VsI(Rd:World->Prop)(n0 fb:Nat)(Wb:World)(pv:Value)(N:Nat)(wr:World)(pv':Value):Prop where
 rd:Rd wr
 fs:FS wr n0 fb N pv'
 own:∀b,pv'.ownBlock=some b->pv.ownBlock=some b\/Wb.heap.size<=b
 chg:Chg (fun b=>b=fb\/pv.ownBlock=some b) Wb wr
theorem VsI.step{f:FuncId}{cap:Array Value}{Rd:World->Prop}{n0 fb:Nat}{Wb wr w5 W6:World}{pv pv':Value}{N N':Nat}{e:Ending}(hr:RepC f cap Rd n0 fb)(h:VsI Rd n0 fb Wb pv N wr pv')(hb:Below wr.heap.size wr w5)(hp:RepP w5 n0 fb pv' N' e W6) :
  ∃jF,VsI Rd n0 fb Wb pv N' W6 jF:=by
 obtain⟨_,jF,hfs,aR,hc⟩:=hp;have rM:=h.fs.later hb;have hz:=h.chg.size;have nM:=hb.size;refine⟨jF,hr.keep w5 W6 pv' N (hr.keep wr w5 pv' N h.rd h.fs (Chg.of_below hb)) rM hc,hfs,fun b hb'=>?_,(h.chg.trans (Chg.of_below hb)).trans2 hc fun b hlt hh=>?_⟩
 ·rcases aR b hb' with h1|h1
  ·exact h.own b h1
  ·exact .inr (by omega)
 ·rcases hh with hh|hh
  ·exact .inl hh
  ·rcases h.own b hh with h1|h1
   ·exact .inr h1
   ·omega
theorem VsI.rep{Rd:World->Prop}{n0 fb:Nat}{W Wb w:World}{pw pv':Value}{N':Nat}{e:Ending}(h:VsI Rd n0 fb Wb pw N' w pv')(hb:Below W.heap.size W Wb)(he:∃v,e=.returned v):RepP W n0 fb pw N' e w :=
 ⟨he,pv',h.fs,fun b hh=>(h.own b hh).imp id fun h1=>by have:=hb.size;omega,(Chg.of_below hb).trans h.chg⟩
def IsW(x:Value)(w:World)(v:Value)(w':World):Prop:=v=x/\Below w.heap.size w w'
theorem znv{P:Program}{f:FuncId}{args:Array Value}{w:World}{x:Value}(h:Calls P f args w fun e w'=>e=.returned x/\Below w.heap.size w w'):Calls P f args w fun e w'=>∃v,e=.returned v/\IsW x w v w' :=
 h.mono fun _ _ ⟨he,hb⟩=>⟨_,he,rfl,hb⟩
def RepV(W:World)(n0 fb:Nat)(pv:Value)(N':Nat)(_:Value)(W':World):Prop:=RepP W n0 fb pv N' (.returned undef) W'
theorem zml{P:Program}{f:FuncId}{args:Array Value}{W:World}{n0 fb N':Nat}{pv:Value}(h:Calls P f args W (RepP W n0 fb pv N')):Calls P f args W fun e w'=>∃v,e=.returned v/\RepV W n0 fb pv N' v w' :=
 h.mono fun _ _ ⟨⟨v,he⟩,hp⟩=>⟨v,he,⟨_,rfl⟩,hp⟩
def zyg(w:World)(S:Nat->Prop)(vs:List VD)(v:Value)(w':World):Prop:=∃A' c',v=.slice A' vs.length c'/\RowV w' (fun b=>S b\/w.heap.size<=b) A' vs/\vs.length<=c'/\Below w.heap.size w w'
theorem zsv{P:Program}{f:FuncId}{args:Array Value}{w:World}{S:Nat->Prop}{vs:List VD}(h:Calls P f args w (zvQ w S vs)):Calls P f args w fun e w'=>∃v,e=.returned v/\zyg w S vs v w' :=
 h.mono fun _ _ ⟨A,c,he,hn⟩=>⟨_,he,A,c,rfl,hn⟩
theorem zw0:IsFn Tryz.prog 130 Tryz.f130:=⟨Tryz.func130,by kernel_rfl,by kernel_rfl⟩
theorem zoK:IsFn Tryz.prog 132 Tryz.f132:=⟨Tryz.func132,by kernel_rfl,by kernel_rfl⟩
theorem zqu:IsFn Tryz.prog 131 Tryz.f131:=⟨Tryz.func131,by kernel_rfl,by kernel_rfl⟩
theorem zwY:IsFn Tryz.prog 133 Tryz.f133:=⟨Tryz.func133,by kernel_rfl,by kernel_rfl⟩
theorem zwU:IsFn Tryz.prog 108 Tryz.f108:=⟨Tryz.func108,by kernel_rfl,by kernel_rfl⟩
theorem zng(f:FuncId)(cap:Array Value)(Rd:World->Prop)(n0 fb:Nat)(hrep:RepC f cap Rd n0 fb)(p:PG)(t:T) :
  ∀(S:Nat->Prop) (vs:List VD) (A:Option Addr) (c:Nat) (q:List Int) (Aq:Option Addr) (cq N:Nat) (pw:Value) (W:World) (v1 v2:Value),Rd W->FS W n0 fb N pw->PV W S p v1->NV W S t v2->RowV W S A vs->vs.length<=c->RowI W S Aq q->q.length<=cq ->
   (∀b,S b->b<W.heap.size->¬ (b=fb\/pw.ownBlock=some b))->q.length+dep t<=50000->vs.length+dep t<=50000->N+size t<=1000000 ->
   Calls Tryz.prog 108 #[v1,v2,.slice Aq q.length cq,.slice A vs.length c,.func (.func f) #[] cap] W (RepP W n0 fb pw (N+cntV p.prs t vs)):=by
 obtain⟨fn,hfn⟩:=hrep.fn;have aY:=zh hrep;clear hrep
 induction t using T.ind with
 | _ tk tn ts ks ih =>
 intro S vs A c q Aq cq N pw W v1 v2 hrd hfs hv1 hv2 hrow hlc hqr hqc hfar hdq hdv hN;have xe:=zh ih;have hvv:=hv1;obtain⟨A1,c1,A2,c2,A3,c3,rfl,-⟩:=hv1;obtain⟨L1,hL1⟩:=zX (p.vs.length);obtain⟨L2,hL2⟩:=zX (p.prs.length);obtain⟨k,hk⟩:=zX (p.m.k);obtain⟨n,hn⟩:=zX (p.m.n);obtain⟨s,hs⟩:=zX (p.m.s);obtain⟨l3,hl3⟩:=zX (p.m.ks.length);rw[hL1,hL2,hk,hn,hs,hl3];rw[hL1,hL2,hk,hn,hs,hl3]at hvv;have wM:=zh hvv;clear ih hvv hL1 hL2 hk hn hs hl3;have jY:=zh hv2;obtain⟨B,tc,rfl,_,hlk,_,kC⟩:=hv2.open_;simp only[T.k_nd,T.n_nd,T.s_nd,T.ks_nd]at *
 have aA:=zkK hlk;rw[dep]at hdq hdv;rw[size]at hN;have hksz:ks.length<=1000000:=by
  have:∀l:List T,l.length<=zkX l:=fun l=>by
   induction l with
   | nil=>simp
   | cons t ts ih=>have:=zqU t;simp only[List.length_cons,zkX];omega
  have:=this ks;omega
 have oh:=zh kC;have aa:=zh hrow;have jD:=zh hlc;have HQR:=zh hqr;have zH:=zh hqc;have lW:=zh hrd;have p9:=zh hfs;have HFAR:=zh hfar;have hlv:vs.length<=LV:=by unfold LV;omega
 have tC:=zh hlv;have hfl:=hfs.lt;have uY:=zh hfl;obtain⟨CC,yS⟩:=zX (cntV p.prs (.nd tk tn ts ks) vs);rw[yS];have aV:=zh yS;obtain⟨E0,hE0⟩:=zX (zlk p.prs tk ts ks.length vs);have uj:=zh hE0;have hE1:=zmJ E0;clear kC hrow hlc hqr hqc hrd hfs hfar hlk hlv hv2 hfl yS hE0;go_enter Tryz.func108,Tryz.ntmps108;go_upto_region 1 with fail;have hbw:Below W.heap.size W ((W.alloc (.cells #[.slice A1 L1 c1,.slice A2 L2 c2,.int .u8 k,.int .i64 n,.string s,.slice A3 l3 c3] 55)).alloc (.cells #[.int .u8 tk,.int .i64 tn,.string ts,.slice B ks.length tc] 24)):=zkc (zkc zr _) _;have qw:=zkg (heap_alloc_new W (.cells #[.slice A1 L1 c1,.slice A2 L2 c2,.int .u8 k,.int .i64 n,.string s,.slice A3 l3 c3] 55)) (.cells #[.int .u8 tk,.int .i64 tn,.string ts,.slice B ks.length tc] 24)
 have hbN:=heap_alloc_new (W.alloc (.cells #[.slice A1 L1 c1,.slice A2 L2 c2,.int .u8 k,.int .i64 n,.string s,.slice A3 l3 c3] 55)) (.cells #[.int .u8 tk,.int .i64 tn,.string ts,.slice B ks.length tc] 24);simp only[World.size_alloc]at hbN;obtain⟨Wb,rX⟩:=zX ((W.alloc (.cells #[.slice A1 L1 c1,.slice A2 L2 c2,.int .u8 k,.int .i64 n,.string s,.slice A3 l3 c3] 55)).alloc (.cells #[.int .u8 tk,.int .i64 tn,.string ts,.slice B ks.length tc] 24));rw[rX]at hbw qw hbN ⊢;have pE:=zh (show Wb.heap.size=W.heap.size+2 by rw[<-rX];simp);have dP:=zh hbw;have HBP:=zh qw;have HBN:=zh hbN
 have og:=zh (show ∀w':World,w'.heap[W.heap.size]?=Wb.heap[W.heap.size]?->w'.heap[W.heap.size+1]?=Wb.heap[W.heap.size+1]?->(fun w':World=>(zN6 w' W.heap.size (.slice A1 L1 c1) (.slice A2 L2 c2) (.int .u8 k) (.int .i64 n) (.string s) (.slice A3 l3 c3))/\zN4 w' (W.heap.size+1) (.int .u8 tk) (.int .i64 tn) (.string ts) (.slice B ks.length tc)) w' from fun w' h1 h2=>⟨box6 (h1.trans qw),box4 (h2.trans hbN)⟩)
 have qg:=zh (show ∀w':World,Chg (fun b=>b=fb\/pw.ownBlock=some b) Wb w'->(fun w':World=>(zN6 w' W.heap.size (.slice A1 L1 c1) (.slice A2 L2 c2) (.int .u8 k) (.int .i64 n) (.string s) (.slice A3 l3 c3))/\zN4 w' (W.heap.size+1) (.int .u8 tk) (.int .i64 tn) (.string ts) (.slice B ks.length tc)) w' from fun w' h=>og.out w' (h.block _ (by have:=pE.out;omega) (fun hh=>by rcases hh with hh|hh;(have:=uY.out.1;omega);(have:=(uY.out.2 _ hh).2;omega))) (h.block _ (by have:=pE.out;omega) (fun hh=>by rcases hh with hh|hh;(have:=uY.out.1;omega);(have:=(uY.out.2 _ hh).2;omega))));have eX:=zh (show ∀w':World,Chg (fun b=>b=fb\/pw.ownBlock=some b) Wb w'->∀b,S b->b<W.heap.size->w'.heap[b]?=W.heap[b]? from fun w' h b hb hlt=>(h.block b (by have:=pE.out;omega) (HFAR.out b hb hlt)).trans (dP.out.block b hlt))
 have hi0:VsI Rd n0 fb Wb pw N Wb pw:=⟨aY.out.keep W Wb pw N lW.out p9.out (Chg.of_below hbw),p9.out.later hbw,fun b hb=>.inl hb,Chg.refl _ _⟩
 have HI0:=zh hi0;clear rX hbw qw hbN hi0;have hdr:=(zs Wb).drew;have hSS:zW (fun w':World=>(zN6 w' W.heap.size (.slice A1 L1 c1) (.slice A2 L2 c2) (.int .u8 k) (.int .i64 n) (.string s) (.slice A3 l3 c3))/\zN4 w' (W.heap.size+1) (.int .u8 tk) (.int .i64 tn) (.string ts) (.slice B ks.length tc)) zU Wb.drew:=⟨qg.out _ (Chg.of_below hdr),trivial⟩
 refine wp_region_noPanic ?_;refine zG hSS 20 ?_;refine zT 0 hSS ?_;refine zT 1 hSS ?_;refine zT 2 hSS ?_;refine zT 3 hSS ?_;refine zT 4 hSS ?_;refine zT 5 hSS ?_;refine zT 6 hSS ?_;refine zo 7 fun K hK=>?_;refine zke (by rfl) (.func 130) [.tmp 18,.tmp 19,.tmp 20] _ (by rfl) 130 _ zw0 (by rfl) _ (by rfl) _ (znv (ztl p (.nd tk tn ts ks) vs A c S S S _ _ _ (wM.out.later (zkb dP.out hdr)) (jY.out.later (zkb dP.out hdr)) (aa.out.later (zkb dP.out hdr)) tC.out)) ?_;rintro vq w2 ⟨rfl,ak⟩;simp only[T.k_nd,T.s_nd,T.ks_nd];rw[uj.out];have b2:=zkb hdr ak;have aK:=zV hSS (qg.out _ (Chg.of_below b2)) trivial;refine hK.out _ _ aK ?_;clear hK K hSS;(try simp only[zQ]);refine zo 8 fun K hK=>?_
 refine zll (by rfl) (.tmp 14) [.tmp 15,.tmp 17,.tmp 21] _ (by rfl) f fn hfn cap (by rfl) _ (by rfl) _ (zml (aY.out.call N pw E0 q Aq cq ts S w2 (aY.out.keep Wb w2 pw N HI0.out.rd HI0.out.fs (Chg.of_below b2)) (HI0.out.fs.later b2) ((HQR.out.later dP.out).later b2) (by omega) (by omega))) ?_;rintro vq W3 hp3;obtain⟨pv3,hi3⟩:=HI0.out.step aY.out b2 hp3;have bN:=zV aK (qg.out _ hi3.chg) trivial;refine hK.out _ _ bN ?_;clear hK K aK;(try simp only[zQ]);refine zd ?_;refine NoPanic.normal ?_;obtain⟨⟨a0,a1,a2,a3,a4,a5⟩,b0,b1,b2',b3⟩:=bN.1;have HI3:=zh hi3;clear bN hi3 hp3 b2 ak hdr HI0
 have HD:=zh (show ∀w':World,Chg (fun b=>b=fb\/pw.ownBlock=some b) Wb w'->PV w' (fun b=>S b/\b<W.heap.size) p _/\NV w' (fun b=>S b/\b<W.heap.size) (.nd tk tn ts ks) _/\RowV w' (fun b=>S b/\b<W.heap.size) A vs/\RowI w' (fun b=>S b/\b<W.heap.size) Aq q/\zl4 w' (fun b=>S b/\b<W.heap.size) B ks from fun w' h=>⟨wM.out.keep (fun b hb hlt=>⟨hb,hlt⟩) (eX.out w' h),jY.out.keep (fun b hb hlt=>⟨hb,hlt⟩) (eX.out w' h),aa.out.keep (fun b hb hlt=>⟨hb,hlt⟩) (eX.out w' h),HQR.out.keep (fun b hb hlt=>⟨hb,hlt⟩) (eX.out w' h),oh.out.keep (fun b hb hlt=>⟨hb,hlt⟩) (eX.out w' h)⟩);by_cases hcall:tk=50\/tk=51
 ·rcases hcall with rfl|rfl
  ·go_wp2_with fail
   go_loopw [34] (fun i wr=>∃(j:Nat) (pv':Value),j<=ks.length/\i=.int .i64 j/\VsI Rd n0 fb Wb pw (N+one1 E0+cntA p.prs ts ks.length 0 (ks.take j) vs) wr pv') (fun i _=>ks.length-(intOf i).toNat)
   case atStart=>exact⟨0,_,Nat.zero_le _,rfl,by simpa[cntA]using HI3.out⟩
   case round =>
    obtain⟨j,pv',hj,rfl,hinv⟩:=hrel;have ag:=zh hinv;clear HI3;by_cases hlt:j<ks.length
    ·obtain⟨-,-,-,-,kC⟩:=HD.out wr hinv.chg;obtain⟨a,u,A4,c4,rfl,hsa,Hu,⟨q0,q1,q2,q3⟩,hnu⟩:=kC.nd hlt;have wS:=zh hnu;clear hinv kC hnu hsa;go_upto_region 6 with fail;have hbk:Below wr.heap.size wr (wr.alloc (.cells #[.int .u8 u.k,.int .i64 u.n,.string u.s,.slice A4 u.ks.length c4] 24)):=zkc zr _;have eQ:=heap_alloc_new wr (.cells #[.int .u8 u.k,.int .i64 u.n,.string u.s,.slice A4 u.ks.length c4] 24);obtain⟨wk,hwk⟩:=zX (wr.alloc (.cells #[.int .u8 u.k,.int .i64 u.n,.string u.s,.slice A4 u.ks.length c4] 24));rw[hwk]at hbk eQ ⊢;have fJ:=zh (show wk.heap.size=wr.heap.size+1 by rw[<-hwk];simp);have aj:=zh hbk;have iE:=zh eQ;clear hwk hbk eQ
     have bP:=zh (show ∀w':World,Below wk.heap.size wk w'->(fun w':World=>(zN6 w' W.heap.size (.slice A1 L1 c1) (.slice A2 L2 c2) (.int .u8 k) (.int .i64 n) (.string s) (.slice A3 l3 c3)/\zN4 w' (W.heap.size+1) (.int .u8 50) (.int .i64 tn) (.string ts) (.slice (some a) ks.length tc))/\zN4 w' wr.heap.size (.int .u8 u.k) (.int .i64 u.n) (.string u.s) (.slice A4 u.ks.length c4)) w'/\zU w' from fun w' h=>⟨⟨qg.out w' (ag.out.chg.trans (Chg.of_below (zkb aj.out h))),box4 ((h.block _ (by have:=fJ.out;omega)).trans iE.out)⟩,trivial⟩);have hdr:=(zs wk).drew;have hSS:=bP.out _ hdr;refine wp_region_noPanic ?_
     refine zkk (fun w':World=>(zN6 w' W.heap.size (.slice A1 L1 c1) (.slice A2 L2 c2) (.int .u8 k) (.int .i64 n) (.string s) (.slice A3 l3 c3)/\zN4 w' (W.heap.size+1) (.int .u8 50) (.int .i64 tn) (.string ts) (.slice (some a) ks.length tc))/\zN4 w' wr.heap.size (.int .u8 u.k) (.int .i64 u.n) (.string u.s) (.slice A4 u.ks.length c4)) zU 40 (by kernel_rfl) ?_;refine zT 0 hSS ?_;refine zT 1 hSS ?_;refine zT 2 hSS ?_;refine zT 4 hSS ?_;refine zT 5 hSS ?_;refine zT 6 hSS ?_;refine zT 7 hSS ?_;refine zT 8 hSS ?_;refine zT 9 hSS ?_;refine zo 3 fun K hK=>?_;refine zke (by rfl) (.func 131) [.tmp 40,.tmp 41] _ (by rfl) 131 _ zqu (by rfl) _ (by rfl) _ (znC (zog q Aq cq (j:Int) ⟨by omega,by omega⟩ _ _ (HD.out _ (ag.out.chg.trans (Chg.of_below (zkb aj.out hdr)))).2.2.2.1 zH.out (by omega))) ?_;rintro vq w2 ⟨Ac,cc,rfl,hrc,hcc,ak⟩;have b2:=zkb hdr ak
     have aK:=bP.out _ b2;refine hK.out _ _ aK ?_;clear hK K hSS;(try simp only[zQ]);refine zo 10 fun K hK=>?_;refine zke (by rfl) (.func 132) [.tmp 45,.tmp 46,.tmp 47,.tmp 48] _ (by rfl) 132 _ zoK (by rfl) _ (by rfl) _ (znv (zny p (.nd 50 tn ts ks) j hlt vs A c _ _ _ _ _ _ (HD.out _ (ag.out.chg.trans (Chg.of_below (zkb aj.out b2)))).1 (HD.out _ (ag.out.chg.trans (Chg.of_below (zkb aj.out b2)))).2.1 (HD.out _ (ag.out.chg.trans (Chg.of_below (zkb aj.out b2)))).2.2.1 tC.out)) ?_;rintro vq w3 ⟨rfl,bW⟩;simp only[T.k_nd,T.s_nd,T.ks_nd];have b3:=zkb b2 bW;have bN:=bP.out _ b3;refine hK.out _ _ bN ?_;clear hK K aK;(try simp only[zQ]);refine zo 11 fun K hK=>?_;have hcl:cntA p.prs ts ks.length 0 (ks.take j) vs<=zkX ks:=Nat.le_trans (zpp _ _ _ _ _ _) (zlD _ _);have hF:=ag.out.fs.later (zkb aj.out b3)
     have hR:=aY.out.keep _ _ _ _ ag.out.rd ag.out.fs (Chg.of_below (zkb aj.out b3));refine zll (by rfl) (.tmp 39) [.tmp 42,.tmp 44,.tmp 49] _ (by rfl) f fn hfn cap (by rfl) _ (by rfl) _ (zml (aY.out.call _ pv' _ (q++[(j:Int)]) Ac cc u.s _ w3 hR hF (hrc.later bW) (by simp;omega) (by omega))) ?_;rintro vq W6 hp;obtain⟨jo,bS⟩:=ag.out.step aY.out (zkb aj.out b3) hp;have bM:VsI Rd n0 fb Wb pw (N+one1 E0+cntA p.prs ts ks.length 0 (ks.take (j+1)) vs) W6 jo:=by rw[zpV p.prs ts ks.length vs hlt];simpa[Nat.add_assoc]using bS
     have az:zW (fun w':World=>(zN6 w' W.heap.size (.slice A1 L1 c1) (.slice A2 L2 c2) (.int .u8 k) (.int .i64 n) (.string s) (.slice A3 l3 c3)/\zN4 w' (W.heap.size+1) (.int .u8 50) (.int .i64 tn) (.string ts) (.slice (some a) ks.length tc))/\zN4 w' wr.heap.size (.int .u8 u.k) (.int .i64 u.n) (.string u.s) (.slice A4 u.ks.length c4)) zU W6:=⟨⟨qg.out _ bM.chg,box4 ((hp.2.elim fun _ h=>h.2.2.block _ (by have:=(zkb aj.out b3).size;have:=b3.size;have:=fJ.out;omega) (fun hh=>by have hl:=ag.out.fs.lt;rcases hh with hh|hh;(have:=hl.1;omega);(have:=(hl.2 _ hh).2;omega))).trans ((b3.block _ (by have:=fJ.out;omega)).trans iE.out))⟩,trivial⟩
     refine hK.out _ _ az ?_;clear hK K bN;(try simp only[zQ]);refine zd ?_;refine NoPanic.normal ?_;have jE:=zh bM;clear bM bS hp az hF hR;go_wp2_with fail
     go_roundw
     case rel=>exact⟨j+1,_,by omega,by go_num,jE.out⟩
     case measure=>simp[intOf];omega
    ·obtain rfl:j=ks.length:=by omega
     clear hinv;go_wp2_with fail;(try simp only[Exit.inBlock,Exit.then]);refine bodyPost_ret (results_none rfl _ _ _) rfl ?_;have hinv:=ag.out;rw[List.take_of_length_le zl]at hinv;have hcc:=aV.out;rw[cntV,uj.out,if_pos (by decide)]at hcc;rw[<-hcc,<-Nat.add_assoc];exact hinv.rep dP.out ⟨_,rfl⟩
  ·go_wp2_with fail
   go_loopw [34] (fun i wr=>∃(j:Nat) (pv':Value),j<=ks.length/\i=.int .i64 j/\VsI Rd n0 fb Wb pw (N+one1 E0+cntA p.prs ts ks.length 0 (ks.take j) vs) wr pv') (fun i _=>ks.length-(intOf i).toNat)
   case atStart=>exact⟨0,_,Nat.zero_le _,rfl,by simpa[cntA]using HI3.out⟩
   case round =>
    obtain⟨j,pv',hj,rfl,hinv⟩:=hrel;have ag:=zh hinv;clear HI3;by_cases hlt:j<ks.length
    ·obtain⟨-,-,-,-,kC⟩:=HD.out wr hinv.chg;obtain⟨a,u,A4,c4,rfl,hsa,Hu,⟨q0,q1,q2,q3⟩,hnu⟩:=kC.nd hlt;have wS:=zh hnu;clear hinv kC hnu hsa;go_upto_region 6 with fail;have hbk:Below wr.heap.size wr (wr.alloc (.cells #[.int .u8 u.k,.int .i64 u.n,.string u.s,.slice A4 u.ks.length c4] 24)):=zkc zr _;have eQ:=heap_alloc_new wr (.cells #[.int .u8 u.k,.int .i64 u.n,.string u.s,.slice A4 u.ks.length c4] 24);obtain⟨wk,hwk⟩:=zX (wr.alloc (.cells #[.int .u8 u.k,.int .i64 u.n,.string u.s,.slice A4 u.ks.length c4] 24));rw[hwk]at hbk eQ ⊢;have fJ:=zh (show wk.heap.size=wr.heap.size+1 by rw[<-hwk];simp);have aj:=zh hbk;have iE:=zh eQ;clear hwk hbk eQ
     have bP:=zh (show ∀w':World,Below wk.heap.size wk w'->(fun w':World=>(zN6 w' W.heap.size (.slice A1 L1 c1) (.slice A2 L2 c2) (.int .u8 k) (.int .i64 n) (.string s) (.slice A3 l3 c3)/\zN4 w' (W.heap.size+1) (.int .u8 51) (.int .i64 tn) (.string ts) (.slice (some a) ks.length tc))/\zN4 w' wr.heap.size (.int .u8 u.k) (.int .i64 u.n) (.string u.s) (.slice A4 u.ks.length c4)) w'/\zU w' from fun w' h=>⟨⟨qg.out w' (ag.out.chg.trans (Chg.of_below (zkb aj.out h))),box4 ((h.block _ (by have:=fJ.out;omega)).trans iE.out)⟩,trivial⟩);have hdr:=(zs wk).drew;have hSS:=bP.out _ hdr;refine wp_region_noPanic ?_
     refine zkk (fun w':World=>(zN6 w' W.heap.size (.slice A1 L1 c1) (.slice A2 L2 c2) (.int .u8 k) (.int .i64 n) (.string s) (.slice A3 l3 c3)/\zN4 w' (W.heap.size+1) (.int .u8 51) (.int .i64 tn) (.string ts) (.slice (some a) ks.length tc))/\zN4 w' wr.heap.size (.int .u8 u.k) (.int .i64 u.n) (.string u.s) (.slice A4 u.ks.length c4)) zU 40 (by kernel_rfl) ?_;refine zT 0 hSS ?_;refine zT 1 hSS ?_;refine zT 2 hSS ?_;refine zT 4 hSS ?_;refine zT 5 hSS ?_;refine zT 6 hSS ?_;refine zT 7 hSS ?_;refine zT 8 hSS ?_;refine zT 9 hSS ?_;refine zo 3 fun K hK=>?_;refine zke (by rfl) (.func 131) [.tmp 40,.tmp 41] _ (by rfl) 131 _ zqu (by rfl) _ (by rfl) _ (znC (zog q Aq cq (j:Int) ⟨by omega,by omega⟩ _ _ (HD.out _ (ag.out.chg.trans (Chg.of_below (zkb aj.out hdr)))).2.2.2.1 zH.out (by omega))) ?_;rintro vq w2 ⟨Ac,cc,rfl,hrc,hcc,ak⟩;have b2:=zkb hdr ak
     have aK:=bP.out _ b2;refine hK.out _ _ aK ?_;clear hK K hSS;(try simp only[zQ]);refine zo 10 fun K hK=>?_;refine zke (by rfl) (.func 132) [.tmp 45,.tmp 46,.tmp 47,.tmp 48] _ (by rfl) 132 _ zoK (by rfl) _ (by rfl) _ (znv (zny p (.nd 51 tn ts ks) j hlt vs A c _ _ _ _ _ _ (HD.out _ (ag.out.chg.trans (Chg.of_below (zkb aj.out b2)))).1 (HD.out _ (ag.out.chg.trans (Chg.of_below (zkb aj.out b2)))).2.1 (HD.out _ (ag.out.chg.trans (Chg.of_below (zkb aj.out b2)))).2.2.1 tC.out)) ?_;rintro vq w3 ⟨rfl,bW⟩;simp only[T.k_nd,T.s_nd,T.ks_nd];have b3:=zkb b2 bW;have bN:=bP.out _ b3;refine hK.out _ _ bN ?_;clear hK K aK;(try simp only[zQ]);refine zo 11 fun K hK=>?_;have hcl:cntA p.prs ts ks.length 0 (ks.take j) vs<=zkX ks:=Nat.le_trans (zpp _ _ _ _ _ _) (zlD _ _);have hF:=ag.out.fs.later (zkb aj.out b3)
     have hR:=aY.out.keep _ _ _ _ ag.out.rd ag.out.fs (Chg.of_below (zkb aj.out b3));refine zll (by rfl) (.tmp 39) [.tmp 42,.tmp 44,.tmp 49] _ (by rfl) f fn hfn cap (by rfl) _ (by rfl) _ (zml (aY.out.call _ pv' _ (q++[(j:Int)]) Ac cc u.s _ w3 hR hF (hrc.later bW) (by simp;omega) (by omega))) ?_;rintro vq W6 hp;obtain⟨jo,bS⟩:=ag.out.step aY.out (zkb aj.out b3) hp;have bM:VsI Rd n0 fb Wb pw (N+one1 E0+cntA p.prs ts ks.length 0 (ks.take (j+1)) vs) W6 jo:=by rw[zpV p.prs ts ks.length vs hlt];simpa[Nat.add_assoc]using bS
     have az:zW (fun w':World=>(zN6 w' W.heap.size (.slice A1 L1 c1) (.slice A2 L2 c2) (.int .u8 k) (.int .i64 n) (.string s) (.slice A3 l3 c3)/\zN4 w' (W.heap.size+1) (.int .u8 51) (.int .i64 tn) (.string ts) (.slice (some a) ks.length tc))/\zN4 w' wr.heap.size (.int .u8 u.k) (.int .i64 u.n) (.string u.s) (.slice A4 u.ks.length c4)) zU W6:=⟨⟨qg.out _ bM.chg,box4 ((hp.2.elim fun _ h=>h.2.2.block _ (by have:=(zkb aj.out b3).size;have:=b3.size;have:=fJ.out;omega) (fun hh=>by have hl:=ag.out.fs.lt;rcases hh with hh|hh;(have:=hl.1;omega);(have:=(hl.2 _ hh).2;omega))).trans ((b3.block _ (by have:=fJ.out;omega)).trans iE.out))⟩,trivial⟩
     refine hK.out _ _ az ?_;clear hK K bN;(try simp only[zQ]);refine zd ?_;refine NoPanic.normal ?_;have jE:=zh bM;clear bM bS hp az hF hR;go_wp2_with fail
     go_roundw
     case rel=>exact⟨j+1,_,by omega,by go_num,jE.out⟩
     case measure=>simp[intOf];omega
    ·obtain rfl:j=ks.length:=by omega
     clear hinv;go_wp2_with fail;(try simp only[Exit.inBlock,Exit.then]);refine bodyPost_ret (results_none rfl _ _ _) rfl ?_;have hinv:=ag.out;rw[List.take_of_length_le zl]at hinv;have hcc:=aV.out;rw[cntV,uj.out,if_pos (by decide)]at hcc;rw[<-hcc,<-Nat.add_assoc];exact hinv.rep dP.out ⟨_,rfl⟩
 ·obtain⟨h50,lU⟩:=not_or.1 hcall;have hd50:(tk==50)=false:=beq_false_of_ne h50;have hd51:(tk==51)=false:=beq_false_of_ne lU;go_wp2_with fail
  go_loopw [55] (fun i wr=>∃(j:Nat) (pv':Value),j<=ks.length/\i=.int .i64 j/\VsI Rd n0 fb Wb pw (N+one1 E0+cntK p.prs tk ts 0 (ks.take j) vs) wr pv') (fun i _=>ks.length-(intOf i).toNat)
  case atStart=>exact⟨0,_,Nat.zero_le _,rfl,by simpa[cntK]using HI3.out⟩
  case round =>
   obtain⟨j,pv',hj,rfl,hinv⟩:=hrel;have ag:=zh hinv;clear HI3;by_cases hlt:j<ks.length
   ·obtain⟨-,-,-,-,kC⟩:=HD.out wr hinv.chg;obtain⟨a,u,A4,c4,rfl,hsa,Hu,⟨q0,q1,q2,q3⟩,hnu⟩:=kC.nd hlt;have wS:=zh hnu;clear hinv kC hnu hsa;go_upto_region 11 with fail;have hbk:Below wr.heap.size wr (wr.alloc (.cells #[.int .u8 u.k,.int .i64 u.n,.string u.s,.slice A4 u.ks.length c4] 24)):=zkc zr _;have eQ:=heap_alloc_new wr (.cells #[.int .u8 u.k,.int .i64 u.n,.string u.s,.slice A4 u.ks.length c4] 24);obtain⟨wk,hwk⟩:=zX (wr.alloc (.cells #[.int .u8 u.k,.int .i64 u.n,.string u.s,.slice A4 u.ks.length c4] 24));rw[hwk]at hbk eQ ⊢;have fJ:=zh (show wk.heap.size=wr.heap.size+1 by rw[<-hwk];simp);have aj:=zh hbk;have iE:=zh eQ;clear hwk hbk eQ
    have bP:=zh (show ∀w':World,Below wk.heap.size wk w'->(fun w':World=>(zN6 w' W.heap.size (.slice A1 L1 c1) (.slice A2 L2 c2) (.int .u8 k) (.int .i64 n) (.string s) (.slice A3 l3 c3)/\zN4 w' (W.heap.size+1) (.int .u8 tk) (.int .i64 tn) (.string ts) (.slice (some a) ks.length tc))/\zN4 w' wr.heap.size (.int .u8 u.k) (.int .i64 u.n) (.string u.s) (.slice A4 u.ks.length c4)) w'/\zU w' from fun w' h=>⟨⟨qg.out w' (ag.out.chg.trans (Chg.of_below (zkb aj.out h))),box4 ((h.block _ (by have:=fJ.out;omega)).trans iE.out)⟩,trivial⟩);have hdr:=(zs wk).drew;have hSS:=bP.out _ hdr;refine wp_region_noPanic ?_
    refine zkk (fun w':World=>(zN6 w' W.heap.size (.slice A1 L1 c1) (.slice A2 L2 c2) (.int .u8 k) (.int .i64 n) (.string s) (.slice A3 l3 c3)/\zN4 w' (W.heap.size+1) (.int .u8 tk) (.int .i64 tn) (.string ts) (.slice (some a) ks.length tc))/\zN4 w' wr.heap.size (.int .u8 u.k) (.int .i64 u.n) (.string u.s) (.slice A4 u.ks.length c4)) zU 40 (by kernel_rfl) ?_;refine zT 0 hSS ?_;refine zT 1 hSS ?_;refine zT 2 hSS ?_;refine zT 3 hSS ?_;refine zT 5 hSS ?_;refine zT 6 hSS ?_;refine zT 7 hSS ?_;refine zT 9 hSS ?_;refine zo 4 fun K hK=>?_;refine zke (by rfl) (.func 131) [.tmp 62,.tmp 63] _ (by rfl) 131 _ zqu (by rfl) _ (by rfl) _ (znC (zog q Aq cq (j:Int) ⟨by omega,by omega⟩ _ _ (HD.out _ (ag.out.chg.trans (Chg.of_below (zkb aj.out hdr)))).2.2.2.1 zH.out (by omega))) ?_;rintro vq w2 ⟨Ac,cc,rfl,hrc,hcc,ak⟩;have b2:=zkb hdr ak;have aK:=bP.out _ b2
    refine hK.out _ _ aK ?_;clear hK K hSS;(try simp only[zQ]);refine zo 8 fun K hK=>?_;refine zke (by rfl) (.func 133) [.tmp 65,.tmp 66,.tmp 67] _ (by rfl) 133 _ zwY (by rfl) _ (by rfl) _ (zsv (zs6 (.nd tk tn ts ks) j (by omega) vs A c _ _ _ _ (HD.out _ (ag.out.chg.trans (Chg.of_below (zkb aj.out b2)))).2.1 (HD.out _ (ag.out.chg.trans (Chg.of_below (zkb aj.out b2)))).2.2.1 jD.out (by omega))) ?_;simp only[T.k_nd,T.s_nd,T.ks_nd];rintro vq w3 ⟨Av,cv,rfl,gB,hcv,bW⟩;have b3:=zkb b2 bW;have bN:=bP.out _ b3;refine hK.out _ _ bN ?_;clear hK K aK;(try simp only[zQ]);refine zo 10 fun K hK=>?_;have hcl:cntK p.prs tk ts 0 (ks.take j) vs<=zkX (ks.take j):=zqA _ _ _ _ (fun t _ vs=>ztx _ t vs) _ _;have hsz:=zlD ks (j+1);rw[zrB ks j hlt,Hu.out]at hsz;have hmem:u∈ks:=by rw[<-Hu.out];exact List.getElem_mem hlt
    have hdu:=zwn hmem;have hil:=zrM tk ts j vs;have hzb:=ag.out.chg.size;have hz0:=pE.out;have hzk:=fJ.out;have hfl:=ag.out.fs.lt;have hF:=ag.out.fs.later (zkb aj.out b3);have hR:=aY.out.keep _ _ _ _ ag.out.rd ag.out.fs (Chg.of_below (zkb aj.out b3));have hzz:=hdr.size;have xw:=ak.size;have hzw2:=b2.size
    refine zke (by rfl) (.func 108) [.tmp 60,.tmp 61,.tmp 64,.tmp 68,.tmp 69] _ (by rfl) 108 _ zwU (by rfl) _ (by rfl) _ (zml (xe.out u hmem (fun b=>(S b/\b<W.heap.size)\/wk.heap.size<=b) (zmm tk ts j vs) Av cv (q++[(j:Int)]) Ac cc (N+one1 E0+cntK p.prs tk ts 0 (ks.take j) vs) pv' w3 _ _ hR hF ((HD.out _ (ag.out.chg.trans (Chg.of_below (zkb aj.out b3)))).1.keep (fun b hb _=>.inl hb) (fun _ _ _=>rfl)) ((wS.out.later (zkb aj.out b3)).keep (fun b hb _=>.inl hb) (fun _ _ _=>rfl)) (gB.mono fun b hb=>by rcases hb with hb|hb;exact .inl hb;exact .inr (by omega)) hcv ((hrc.later bW).mono fun b hb=>.inr (by have:_<=b:=hb;omega)) hcc (fun b hb hlt' hh=>?_) (by simp;omega) (by omega) (by omega))) ?_
    ·rcases hb with⟨hb,hbl⟩|hb
     ·refine HFAR.out b hb hbl (hh.imp id fun h=>?_);rcases ag.out.own b h with h1|h1
      ·exact h1
      ·omega
     ·rcases hh with rfl|hh
      ·omega
      ·have:=hfl.2 b hh;omega
    rintro vq W6 hp;obtain⟨jo,bS⟩:=ag.out.step aY.out (zkb aj.out b3) hp;have bM:VsI Rd n0 fb Wb pw (N+one1 E0+cntK p.prs tk ts 0 (ks.take (j+1)) vs) W6 jo:=by rw[zty p.prs tk ts vs hlt,Hu.out];simpa[Nat.add_assoc]using bS
    have az:zW (fun w':World=>(zN6 w' W.heap.size (.slice A1 L1 c1) (.slice A2 L2 c2) (.int .u8 k) (.int .i64 n) (.string s) (.slice A3 l3 c3)/\zN4 w' (W.heap.size+1) (.int .u8 tk) (.int .i64 tn) (.string ts) (.slice (some a) ks.length tc))/\zN4 w' wr.heap.size (.int .u8 u.k) (.int .i64 u.n) (.string u.s) (.slice A4 u.ks.length c4)) zU W6:=⟨⟨qg.out _ bM.chg,box4 ((hp.2.elim fun _ h=>h.2.2.block _ (by have:=(zkb aj.out b3).size;have:=b3.size;have:=fJ.out;omega) (fun hh=>by have hl:=ag.out.fs.lt;rcases hh with hh|hh;(have:=hl.1;omega);(have:=(hl.2 _ hh).2;omega))).trans ((b3.block _ (by have:=fJ.out;omega)).trans iE.out))⟩,trivial⟩
    refine hK.out _ _ az ?_;clear hK K bN;(try simp only[zQ]);refine zd ?_;refine NoPanic.normal ?_;have jE:=zh bM;clear bM bS hp az hF hR;go_wp2_with fail
    go_roundw
    case rel=>exact⟨j+1,_,by omega,by go_num,jE.out⟩
    case measure=>simp[intOf];omega
   ·obtain rfl:j=ks.length:=by omega
    clear hinv;go_wp2_with fail;go_end0;have hinv:=ag.out;rw[List.take_of_length_le zl]at hinv;have hcc:=aV.out;rw[cntV,uj.out,if_neg hcall]at hcc;rw[<-hcc,<-Nat.add_assoc];exact hinv.rep dP.out ⟨_,rfl⟩
theorem zwQ(k n:Int)(s:ByteArray)(ks:List T):isB (.nd k n s ks)=true↔k=57/\zko n s=true/\∀t∈ks,isS t=true:=by
 rw[isB];simp only[Bool.and_eq_true,decide_eq_true_eq,and_assoc];refine and_congr Iff.rfl (and_congr Iff.rfl ?_);rw[zpd 0,zkJ]
 constructor
 ·intro h t ht;obtain⟨q,hq,rfl⟩:=List.getElem_of_mem ht;exact h q hq
 ·intro h q hq;exact h _ (List.getElem_mem hq)
theorem zyF{t:T}(h:isB t=true):t.k=57:=by cases t;exact((zwQ _ _ _ _).1 h).1
theorem znj{x:T}:∀ {l:List T},x∈pos l↔∃t∈l,x∈po t
 | []=>by simp[pos]
 | t::ts=>by simp[pos,znj (l:=ts)]
theorem zsY:∀(ks:List T),(∀t∈ks,∀d l,lim t d l=if dep t<=d/\size t<=l then some (l-size t)else none)->∀d l,lims ks d l=if deps ks<=d/\zkX ks<=l then some (l-zkX ks)else none
 | [],_,d,l=>by simp[lims,deps,zkX]
 | t::ts,h,d,l=>by
  have e1:deps (t::ts)=max (dep t) (deps ts):=by rw[deps]
  have e2:zkX (t::ts)=size t+zkX ts:=by rw[zkX]
  rw[lims,h t (by simp) d l];by_cases h1:dep t<=d/\size t<=l
  ·rw[if_pos h1];simp only;rw[zsY ts (fun u hu=>h u (by simp[hu])) d (l-size t)];by_cases h2:deps ts<=d/\zkX ts<=l-size t
   ·rw[if_pos h2,if_pos ⟨by omega,by omega⟩];congr 1;omega
   ·rw[if_neg h2,if_neg (by omega)]
  ·rw[if_neg h1];simp only;rw[if_neg (by omega)]
theorem zxP(t:T):∀d l,lim t d l=if dep t<=d/\size t<=l then some (l-size t)else none:=by
 induction t using T.ind with
 | _ k n s ks ih =>
 intro d l;have e1:dep (.nd k n s ks)=1+deps ks:=by rw[dep]
 have e2:size (.nd k n s ks)=1+zkX ks:=by rw[size]
 rw[lim];by_cases h:d=0\/l=0
 ·rw[if_pos h,if_neg (by omega)]
 ·rw[if_neg h,zsY ks ih];by_cases h2:deps ks<=d-1/\zkX ks<=l-1
  ·rw[if_pos h2,if_pos ⟨by omega,by omega⟩];congr 1;omega
  ·rw[if_neg h2,if_neg (by omega)]
theorem zu0{k n:Int}{s:ByteArray}{ks:List T}(h:isE (.nd k n s ks)=true):∀t∈ks,isE t=true:=by
 have key:isEs ks=true->∀t∈ks,isE t=true:=by
  intro h t ht;rw[znl 0,zkJ]at h;obtain⟨i,hi,rfl⟩:=List.getElem_of_mem ht;exact h i hi
 have nil:decide (ks.length=0)=true->∀t∈ks,isE t=true:=by
  intro h t ht;have:ks=[]:=by simpa using h
  rw[this]at ht;cases ht
 rw[isE]at h
 split at h
 ·simp only[Bool.and_eq_true]at h;exact nil h.2
 split at h
 ·simp only[Bool.and_eq_true]at h;exact nil h.2
 split at h
 ·simp only[Bool.and_eq_true]at h;exact key h.2.2
 split at h
 ·simp only[Bool.and_eq_true]at h;exact key h.2.2
 split at h
 ·simp only[Bool.and_eq_true]at h;exact key h.2.2
 ·cases h
theorem zuZ{t:T}(h:isP t=true):isE t=true:=by unfold isP at h;simp only[Bool.and_eq_true]at h;exact h.2
theorem zyE{t:T}(h:isV t=true):isE t=true:=by unfold isV at h;simp only[Bool.and_eq_true]at h;exact h.2
theorem zm0{m:Nat}{p:Nat->T->Bool}{ks:List T}(h:zkH m p ks=true){t:T}(ht:t∈ks):∃i,p i t=true:=by
 unfold zkH at h;simp only[Bool.and_eq_true]at h;have:=(zkJ p 0 ks).1 h.2;obtain⟨i,hi,rfl⟩:=List.getElem_of_mem ht;exact⟨0+i,this i hi⟩
theorem zpe{d:Nat}{ks:List T}(h:isEB d ks=true){t:T}(ht:t∈ks):isE t=true\/isB t=true:=by
 have h':isEB (d+0) ks=true:=h;rw[znm d 0]at h';have:=(zkJ _ 0 ks).1 h';obtain⟨i,hi,rfl⟩:=List.getElem_of_mem ht;have h2:=this i hi;unfold pEB at h2
 split at h2
 ·exact .inl h2
 ·exact .inr h2
theorem zwf{k n:Int}{s:ByteArray}{ks:List T}(h:isS (.nd k n s ks)=true):k≠57/\∀t∈ks,isE t=true\/isB t=true:=by
 rw[isS]at h
 split at h
 ·rename_i hk;simp only[Bool.and_eq_true]at h;refine⟨by omega,fun t ht=>?_⟩;obtain⟨i,hi⟩:=zm0 h.2 ht
  split at hi
  ·exact .inl (zuZ hi)
  ·exact .inl hi
 split at h
 ·rename_i hk;simp only[Bool.and_eq_true]at h;refine⟨by omega,fun t ht=>?_⟩;obtain⟨i,hi⟩:=zm0 h.2 ht;exact .inl (zuZ hi)
 split at h
 ·rename_i hk;simp only[Bool.and_eq_true]at h;refine⟨by omega,fun t ht=>?_⟩;obtain⟨i,hi⟩:=zm0 h.2 ht;exact .inl (zuZ hi)
 split at h
 ·rename_i hk;simp only[Bool.and_eq_true]at h;refine⟨by omega,fun t ht=>?_⟩;obtain⟨i,hi⟩:=zm0 h.2 ht;exact .inl (zuZ hi)
 split at h
 ·rename_i hk;simp only[Bool.and_eq_true]at h;refine⟨by omega,fun t ht=>?_⟩;have:=(zkJ _ 0 ks).1 h.2;obtain⟨i,hi,rfl⟩:=List.getElem_of_mem ht;exact .inl (zyE (this i hi))
 split at h
 ·rename_i hk;simp only[Bool.and_eq_true]at h;exact⟨by omega,fun t ht=>zpe h.2.2 ht⟩
 split at h
 ·rename_i hk;simp only[Bool.and_eq_true]at h;exact⟨by omega,fun t ht=>zpe h.2.2 ht⟩
 split at h
 ·rename_i hk;simp only[Bool.and_eq_true]at h;exact⟨by omega,fun t ht=>zpe h.2.2 ht⟩
 ·cases h
theorem zm1{k n:Int}{s:ByteArray}{ks:List T}(h:isS (.nd k n s ks)=true) :
  ((k≠52/\k≠53/\k≠54/\k≠55/\k≠57)/\∀t∈ks,t.k≠57) \/
  ((k=52\/k=53)/\zko n s=true/\∃a b c d,ks=[a,b,c,d]/\isE a=true/\isB b=true/\isB c=true/\isE d=true) \/
  (k=54/\zkA n s=true/\∃a b c,ks=[a,b,c]/\isE a=true/\isB b=true/\isE c=true) \/
  (k=55/\zkA n s=true/\∃b,ks=[b]/\isB b=true):=by
 have key:∀(p:Nat->T->Bool),(∀j t,p j t=true->t.k≠57)->zkz p 0 ks=true->∀t∈ks,t.k≠57:=by
  intro p hp hk t ht;obtain⟨q,hq,rfl⟩:=List.getElem_of_mem ht;exact hp _ _ ((zkJ p 0 ks).1 hk q hq)
 have kE:∀t,isE t=true->t.k≠57:=fun t h1=>by have:=zu1 t h1;omega
 rw[isS]at h
 repeat' split at h
 ·simp only[zkH,Bool.and_eq_true]at h;exact .inl ⟨by omega,key _ (fun j t hj=>by split at hj;exact zuY t hj;exact kE t hj) h.2.2⟩
 ·simp only[zkH,Bool.and_eq_true]at h;exact .inl ⟨by omega,key _ (fun j t=>zuY t) h.2.2⟩
 ·simp only[zkH,Bool.and_eq_true]at h;exact .inl ⟨by omega,key _ (fun j t=>zuY t) h.2.2⟩
 ·simp only[zkH,Bool.and_eq_true]at h;exact .inl ⟨by omega,key _ (fun j t=>zuY t) h.2.2⟩
 ·simp only[Bool.and_eq_true]at h;exact .inl ⟨by omega,key _ (fun j t=>zyD t) h.2⟩
 ·rename_i hk;simp only[Bool.and_eq_true,decide_eq_true_eq]at h;obtain⟨h1,h2,h3⟩:=h
  match ks,h2 with
  | [a,b,c,d],_ =>
   simp only[isEB,Bool.and_eq_true,Bool.and_true]at h3;simp at h3;exact .inr (.inl ⟨hk,h1,a,b,c,d,rfl,h3.1,h3.2.1,h3.2.2.1,h3.2.2.2⟩)
 ·rename_i hk;simp only[Bool.and_eq_true,decide_eq_true_eq]at h;obtain⟨h1,h2,h3⟩:=h
  match ks,h2 with
  | [a,b,c],_ =>
   simp only[isEB,Bool.and_eq_true,Bool.and_true]at h3;simp at h3;exact .inr (.inr (.inl ⟨hk,h1,a,b,c,rfl,h3.1,h3.2.1,h3.2.2⟩))
 ·rename_i hk;simp only[Bool.and_eq_true,decide_eq_true_eq]at h;obtain⟨h1,h2,h3⟩:=h
  match ks,h2 with
  | [b],_ =>
   simp only[isEB,Bool.and_eq_true,Bool.and_true]at h3;simp at h3;exact .inr (.inr (.inr ⟨hk,h1,b,rfl,h3⟩))
 ·cases h
section
variable {P:Program} {ops:Array Oper} {Q:Exit->Act->World->Prop} {md:Region.Mode} {S1 S2:World->Prop} {k:Nat}
theorem zwu{i j:Nat}{o o':Oper}{fuel:Nat}{listed:Array Bool}{a:Act}{w:World}(hr:Region.ready md ops listed=[i,j])(ho:ops[i]?=some o)(ho':ops[j]?=some o')
  (h:∀K':Act->World->Prop,Shut (∀a w,S1 w/\S2 w->wpG P md ops Q S1 S2 k fuel (listed.setIfInBounds i true) a w->K' a w)->if Region.wanted o (yielded ops a.tmps)=true then Oper.wp P o a w K' Q else K' (a.put o.dst undef) w)
  (h':∀K':Act->World->Prop,Shut (∀a w,S1 w/\S2 w->wpG P md ops Q S1 S2 k fuel (listed.setIfInBounds j true) a w->K' a w)->if Region.wanted o' (yielded ops a.tmps)=true then Oper.wp P o' a w K' Q else K' (a.put o'.dst undef) w) :
  wpG P md ops Q S1 S2 k (fuel+1) listed a w:=by
 refine⟨(fun h0=>by rw[hr]at h0;cases h0),fun x hx=>?_⟩;rw[hr]at hx;simp only[List.mem_cons,List.not_mem_nil,or_false]at hx;rcases hx with rfl|rfl
 ·exact wpOp_step ho fun K' hK=>h K' fun a w hS hW=>hK a w ⟨⟨hS.1,fun _=>hS.2⟩,hW⟩
 ·exact wpOp_step ho' fun K' hK=>h' K' fun a w hS hW=>hK a w ⟨⟨hS.1,fun _=>hS.2⟩,hW⟩
end
def frsN(vs:List VD):Nat->Nat
 | 0=>0
 | j+1=>frsN vs j+(if h:j<vs.length then one1 (zmo (vs.take j) vs[j].s)else 0)
theorem zm2{vs:List VD}{j:Nat}(h:j<vs.length):frsN vs (j+1)=frsN vs j+one1 (zmo (vs.take j) vs[j].s):=by simp[frsN,h]
theorem zmn(vs:List VD):∀j,frsN vs j<=j
 | 0=>by simp[frsN]
 | j+1=>by
  have h:=zmn vs j;rw[frsN]
  split
  ·have:=zmJ (zmo (vs.take j) vs[j].s);omega
  ·omega
def prcE(ps:List PR)(j:Nat)(r:PR):Nat:=one1 (if zlz ps r.s<(j:Int)then 22 else 0)+frsN r.ps r.ps.length+cntV ps r.b r.ps
def prcN(ps:List PR):Nat->Nat
 | 0=>0
 | j+1=>prcN ps j+(if h:j<ps.length then prcE ps j ps[j]else 0)
theorem znT{ps:List PR}{j:Nat}(h:j<ps.length):prcN ps (j+1)=prcN ps j+prcE ps j ps[j]:=by simp[prcN,h]
def chkN(p:PG):Nat:=frsN p.vs p.vs.length+prcN p.prs p.prs.length+cntV p.prs p.m p.vs
theorem zox{t:T}(h:zlA t=true):dep t<=80/\size t<=2000:=by
 simp only[zlA,Bool.and_eq_true]at h;have h1:=h.1;rw[zxP]at h1
 split at h1
 ·assumption
 ·simp at h1
theorem zmi{p:PG}(h:zle p=true):p.vs.length<=32/\p.prs.length<=64/\(∀r∈p.prs,r.ps.length<=8/\dep r.b<=80/\size r.b<=2000)/\dep p.m<=80/\size p.m<=2000:=by
 simp only[zle,Bool.and_eq_true,decide_eq_true_eq,List.all_eq_true]at h;refine⟨h.1.1.1.1,h.1.1.1.2,fun r hr=>?_,zox h.2⟩;have:=h.1.2 r hr;simp only[zok,Bool.and_eq_true,decide_eq_true_eq]at this;exact⟨this.1.1.2,zox this.2⟩
theorem zqi(ps:List PR)(h:∀r∈ps,r.ps.length<=8/\dep r.b<=80/\size r.b<=2000):∀j,prcN ps j<=j*2009
 | 0=>by simp[prcN]
 | j+1=>by
  have h1:=zqi ps h j;rw[prcN]
  split
  ·rename_i hj;have h2:=h _ (List.getElem_mem hj);have h3:=zmJ (if zlz ps ps[j].s<(j:Int)then 22 else 0);have h4:=zmn ps[j].ps ps[j].ps.length;have h5:=ztx ps ps[j].b ps[j].ps;unfold prcE;omega
  ·omega
theorem RowV.take{w:World}{S:Nat->Prop}{A:Option Addr}{vs:List VD}(h:RowV w S A vs)(j:Nat):RowV w S A (vs.take j):=fun i hi=>by
 have h1:i<vs.length:=by simp at hi;omega
 obtain⟨a,h2,h3,h4,h5⟩:=h i h1;exact⟨a,h2,h3,by simpa using h4,by simpa using h5⟩
theorem RowI.nil{w:World}{S:Nat->Prop}{A:Option Addr}:RowI w S A []:=fun i hi=>by simp at hi
theorem zpF(w:World)(j:Int)(hj:I64 j):RowI (w.alloc (.cells #[.int .i64 j] 3)) Any (some ⟨w.heap.size,0,none⟩) [j]:=fun i hi=>by
 simp only[List.length_singleton,Nat.lt_one_iff]at hi;subst hi;exact⟨_,rfl,trivial,zlv w 3 [.int .i64 j] 0 _ rfl,hj⟩
theorem zmu(n0 fb N:Nat)(pv:Value)(pr er:Int)(q:List Int)(A:Option Addr)(c:Nat)(s:ByteArray)(S:Nat->Prop)(W:World)(hfs:FS W n0 fb N pv)(hq:RowI W S A q)(mh:q.length<=100000)(hN:N<=1000000) :
  Calls Tryz.prog 105 ([.int .i64 pr,.slice A q.length c,.string s,.int .i64 er].toArray ++ #[.pointer (some ⟨fb,0,none⟩)]) W (RepP W n0 fb pv (N+one1 er)):=by
 simpa using zmv n0 fb N pv pr er q A c s S W hfs hq mh hN
theorem VsI.chg2{Rd:World->Prop}{n0 fb:Nat}{Wb wr wk w':World}{pv pv':Value}{N:Nat}(h:VsI Rd n0 fb Wb pv N wr pv')(hb:Below wr.heap.size wr wk)(hc:Chg (fun b=>b=fb\/pv'.ownBlock=some b) wk w'):Chg (fun b=>b=fb\/pv.ownBlock=some b) Wb w' :=
 (h.chg.trans (Chg.of_below hb)).trans2 hc fun b hlt hh=>by
  rcases hh with hh|hh
  ·exact .inl hh
  ·rcases h.own b hh with h1|h1
   ·exact .inr h1
   ·omega
theorem VsI.stepK{Rd:World->Prop}{n0 fb:Nat}{Wb wr w5 W6:World}{pv pv':Value}{N N':Nat}{e:Ending}(hk:∀W W' pv N,Rd W->FS W n0 fb N pv->Chg (fun b=>b=fb\/pv.ownBlock=some b) W W'->Rd W')(h:VsI Rd n0 fb Wb pv N wr pv')(hb:Below wr.heap.size wr w5)(hp:RepP w5 n0 fb pv' N' e W6) :
  ∃jF,VsI Rd n0 fb Wb pv N' W6 jF:=by
 obtain⟨_,jF,hfs,aR,hc⟩:=hp;have rM:=h.fs.later hb;have hz:=h.chg.size;have nM:=hb.size;refine⟨jF,hk w5 W6 pv' N (hk wr w5 pv' N h.rd h.fs (Chg.of_below hb)) rM hc,hfs,fun b hb'=>?_,h.chg2 hb hc⟩;rcases aR b hb' with h1|h1
 ·exact h.own b h1
 ·exact .inr (by omega)
theorem zmy(vs:List VD)(j:Nat)(hj:j<=vs.length)(A:Option Addr)(c:Nat)(s:ByteArray)(S:Nat->Prop)(w:World)(hrow:RowV w S A vs)(hl:vs.length<=LV) :
  Calls Tryz.prog 106 #[.slice A j c,.string s] w fun e w'=>e=.returned (.int .i64 (zmo (vs.take j) s))/\Below w.heap.size w w':=by
 have h:=zn3 (vs.take j) A c s S w (hrow.take j) (by simp;omega);rwa[show(vs.take j).length=j by simp;omega]at h
theorem zpg:IsFn Tryz.prog 106 Tryz.f106:=⟨Tryz.func106,by kernel_rfl,by kernel_rfl⟩
theorem zwX:IsFn Tryz.prog 107 Tryz.f107:=⟨Tryz.func107,by kernel_rfl,by kernel_rfl⟩
theorem zre:IsFn Tryz.prog 105 Tryz.f105:=⟨Tryz.func105,by kernel_rfl,by kernel_rfl⟩
theorem zr0(p:PG)(S:Nat->Prop)(v:Value)(W:World)(hv:PV W S p v):Calls Tryz.prog 77 #[v] W fun e w'=>∃A c,e=.returned (.slice A (if zle p=true then chkN p else 0) c)/\Below W.heap.size W w':=by
 obtain⟨NN,yQ⟩:=zX ((if zle p=true then chkN p else 0));rw[yQ];have fA:=zh yQ;clear yQ;have hvv:=hv;obtain⟨A1,c1,A2,c2,A3,c3,rfl,hr⟩:=hv;have hlv:=zly hr.lv;have hlp:=zly hr.lp;obtain⟨L1,hL1⟩:=zX (p.vs.length);obtain⟨L2,hL2⟩:=zX (p.prs.length);obtain⟨k,hk⟩:=zX (p.m.k);obtain⟨n,hn⟩:=zX (p.m.n);obtain⟨s,hs⟩:=zX (p.m.s);obtain⟨l3,hl3⟩:=zX (p.m.ks.length);rw[hL1,hL2,hk,hn,hs,hl3];rw[hL1,hL2,hk,hn,hs,hl3]at hvv;rw[hL1]at hlv;rw[hL2]at hlp;have wM:=zh hvv;have HR:=zh hr;have qJ:=zh hL1;have HL2:=zh hL2;have ou:=zh (show p.m.k=k/\p.m.n=n/\p.m.s=s/\p.m.ks.length=l3 from⟨hk,hn,hs,hl3⟩);clear hvv hr hL1 hL2 hk hn hs hl3;go_enter Tryz.func77,Tryz.ntmps77;go_wp2_with fail;refine(zp2 p S _ _ (wM.out.later (zkc zr _))).mono ?_;rintro e w1 ⟨rfl,ae⟩;have b1:Below W.heap.size W w1:=zkb (zkc zr _) ae
 have hp1:=(ae.block W.heap.size (by simp)).trans (heap_alloc_new W (.cells #[.slice A1 L1 c1,.slice A2 L2 c2,.int .u8 k,.int .i64 n,.string s,.slice A3 l3 c3] 55));have hz1:=ae.size;simp only[World.size_alloc]at hz1;have HB1:=zh b1;have HP1:=zh hp1;have HZ1:=zh hz1;obtain⟨a0,a1,a2,a3,a4,a5⟩:=box6 hp1;clear ae b1 hp1
 cases hvb:zle p
 ·have hN0:NN=0:=by rw[<-fA.out,hvb];rfl
  subst hN0;go_wp2_with fail;go_ret;exact⟨none,0,rfl,HB1.out⟩
 ·have fK:=zh (zmi hvb);have HNN2:=zh (show chkN p=NN by rw[<-fA.out,hvb];rfl);clear hvb fA;go_upto_region 5 with fail;obtain⟨fb,qp⟩:=zX (w1.heap.size);rw[qp];have vB:W.heap.size+1<=fb:=by omega
  have hbw:Below W.heap.size W ((w1.alloc (.cells #[.slice none 0 0] 131)).alloc (.cells #[.func (.func 105) #[] #[.pointer (some ⟨fb,0,none⟩)]] 169)):=zkc (zkc HB1.out _) _;have xH:=zkg (heap_alloc_new w1 (.cells #[.slice none 0 0] 131)) (.cells #[.func (.func 105) #[] #[.pointer (some ⟨fb,0,none⟩)]] 169);have hbR:=heap_alloc_new (w1.alloc (.cells #[.slice none 0 0] 131)) (.cells #[.func (.func 105) #[] #[.pointer (some ⟨fb,0,none⟩)]] 169);simp only[World.size_alloc]at hbR;rw[qp]at xH hbR;have qw:=zkg (zkg HP1.out (.cells #[.slice none 0 0] 131)) (.cells #[.func (.func 105) #[] #[.pointer (some ⟨fb,0,none⟩)]] 169);obtain⟨Wb,rX⟩:=zX ((w1.alloc (.cells #[.slice none 0 0] 131)).alloc (.cells #[.func (.func 105) #[] #[.pointer (some ⟨fb,0,none⟩)]] 169));rw[rX]at hbw xH hbR qw ⊢;have pE:=zh (show Wb.heap.size=fb+2 by rw[<-rX,<-qp];simp);have dP:=zh hbw
  have HZF:=zh vB;clear rX qp a0 a1 a2 a3 a4 a5 HP1 HZ1 HB1 hz1;have hrep:=zv5 fb fb (fb+1) W.heap.size A1 L1 c1 A2 L2 c2 k n s A3 l3 c3;obtain⟨Rd,sF⟩:∃Rd:World->Prop,(fun W':World=>W'.heap[fb+1]?=some (.cells #[.func (.func 105) #[] #[.pointer (some ⟨fb,0,none⟩)]] 169 (0,0))/\W'.heap[W.heap.size]?=some (.cells #[.slice A1 L1 c1,.slice A2 L2 c2,.int .u8 k,.int .i64 n,.string s,.slice A3 l3 c3] 55 (0,0)))=Rd:=⟨_,rfl⟩
  rw[sF]at hrep;have aY:=zh hrep;have lW:=zh (show ∀w':World,Rd w'->w'.heap[fb+1]?=some (.cells #[.func (.func 105) #[] #[.pointer (some ⟨fb,0,none⟩)]] 169 (0,0))/\w'.heap[W.heap.size]?=some (.cells #[.slice A1 L1 c1,.slice A2 L2 c2,.int .u8 k,.int .i64 n,.string s,.slice A3 l3 c3] 55 (0,0))from fun w' h=>by rw[<-sF]at h;exact h);have aV:=zh (show ∀w':World,Rd w'->(fun w':World=>(zN6 w' W.heap.size (.slice A1 L1 c1) (.slice A2 L2 c2) (.int .u8 k) (.int .i64 n) (.string s) (.slice A3 l3 c3))/\(zv w' (fb+1) 0 (.func (.func 105) #[] #[.pointer (some ⟨fb,0,none⟩)]))) w' from fun w' h=>⟨box6 (lW.out w' h).2,zc (lW.out w' h).1 rfl⟩);have HI0:=zh (show VsI Rd fb fb Wb (.slice none 0 0) 0 Wb (.slice none 0 0)from⟨by rw[<-sF];exact⟨hbR,qw⟩,⟨xH,⟨[],World.ownsRow_nil _ _ _ _⟩,zl,by simp[Value.ownBlock]⟩,fun b hb=>.inl hb,Chg.refl _ _⟩)
  have eX:=zh (show ∀w':World,Chg (fun b=>b=fb\/(Value.slice none 0 0).ownBlock=some b) Wb w'->∀b,S b->b<W.heap.size->w'.heap[b]?=W.heap[b]? from fun w' h b hb hlt=>(h.block b (by have:=pE.out;omega) (fun hh=>by rcases hh with hh|hh;omega;simp[Value.ownBlock]at hh)).trans (dP.out.block b hlt));have HD:=zh (show ∀w':World,Chg (fun b=>b=fb\/(Value.slice none 0 0).ownBlock=some b) Wb w'->PV w' (fun b=>S b/\b<W.heap.size) p _/\PgR w' (fun b=>S b/\b<W.heap.size) p A1 c1 A2 c2 A3 c3 from fun w' h=>⟨wM.out.keep (fun b hb hlt=>⟨hb,hlt⟩) (eX.out w' h),HR.out.keep (fun b hb hlt=>⟨hb,hlt⟩) (eX.out w' h)⟩);have hl32:L1<=32:=by have:=fK.out.1;rw[qJ.out]at this;exact this
  have hl64:L2<=64:=by have:=fK.out.2.1;rw[HL2.out]at this;exact this
  have hlc1:L1<=c1:=by have:=HR.out.lvc;rw[qJ.out]at this;exact this
  have oM:L2<=c2:=by have:=HR.out.lpc;rw[HL2.out]at this;exact this
  obtain⟨⟨a0,a1,a2,a3,a4,a5⟩,ar⟩:=aV.out _ HI0.out.rd;clear hrep sF hbR qw xH hbw;go_wp2_with fail
  go_loopw [18] (fun i wr=>∃(j:Nat) (pv':Value),j<=L1/\i=.int .i64 j/\VsI Rd fb fb Wb (.slice none 0 0) (frsN p.vs j) wr pv') (fun i _=>L1-(intOf i).toNat)
  case atStart=>exact⟨0,_,Nat.zero_le _,rfl,HI0.out⟩
  case round =>
   obtain⟨j,pv',hj,rfl,hinv⟩:=hrel;have ag:=zh hinv;clear HI0 a0 a1 a2 a3 a4 a5 ar;by_cases hlt:j<L1
   ·have iJ:j<p.vs.length:=by rw[qJ.out];exact hlt
    obtain⟨a,u,rfl,hsa,Hu,⟨q0,q1,q2⟩,hfu⟩:=(HD.out wr hinv.chg).2.vars.nd iJ;have hjc:(j:Int)<=(c1:Int):=by omega
    have hj0:(0:Int)<=(j:Int):=by omega
    obtain⟨⟨a0,a1,a2,a3,a4,a5⟩,ar⟩:=aV.out _ hinv.rd;clear hinv hsa hfu;go_upto_region 8 with fail;have hbk:Below wr.heap.size wr (wr.alloc (.cells #[.string u.s,.int .u8 u.k,.int .i64 u.n] 76)):=zkc zr _;have eQ:=heap_alloc_new wr (.cells #[.string u.s,.int .u8 u.k,.int .i64 u.n] 76);obtain⟨wk,hwk⟩:=zX (wr.alloc (.cells #[.string u.s,.int .u8 u.k,.int .i64 u.n] 76));rw[hwk]at hbk eQ ⊢;have fJ:=zh (show wk.heap.size=wr.heap.size+1 by rw[<-hwk];simp);have aj:=zh hbk;have iE:=zh eQ;clear hwk hbk eQ a0 a1 a2 a3 a4 a5 ar q0 q1 q2;have HRW:=zh (show ∀w':World,Below wk.heap.size wk w'->Rd w' from fun w' h=>aY.out.keep _ _ _ _ ag.out.rd ag.out.fs (Chg.of_below (zkb aj.out h)))
    have bP:=zh (show ∀w':World,Below wk.heap.size wk w'->(fun w':World=>(zN6 w' W.heap.size (.slice (some a) L1 c1) (.slice A2 L2 c2) (.int .u8 k) (.int .i64 n) (.string s) (.slice A3 l3 c3)/\(zv w' (fb+1) 0 (.func (.func 105) #[] #[.pointer (some ⟨fb,0,none⟩)])))/\zN3 w' wr.heap.size (.string u.s) (.int .u8 u.k) (.int .i64 u.n)) w'/\zU w' from fun w' h=>⟨⟨aV.out _ (HRW.out w' h),box3 ((h.block _ (by have:=fJ.out;omega)).trans iE.out)⟩,trivial⟩);have hdr:=(zs wk).drew;have hSS:=bP.out _ hdr;have hbI:=zpr;have hN:=zmn p.vs j;refine wp_region_noPanic ?_;refine zkk (fun w':World=>(zN6 w' W.heap.size (.slice (some a) L1 c1) (.slice A2 L2 c2) (.int .u8 k) (.int .i64 n) (.string s) (.slice A3 l3 c3)/\(zv w' (fb+1) 0 (.func (.func 105) #[] #[.pointer (some ⟨fb,0,none⟩)])))/\zN3 w' wr.heap.size (.string u.s) (.int .u8 u.k) (.int .i64 u.n)) zU 40 (by kernel_rfl) ?_
    refine zT 0 hSS ?_;refine zT 1 hSS ?_;refine zT 3 hSS ?_;refine zT 4 hSS ?_;refine zT 5 hSS ?_;refine zT 6 hSS ?_;refine zT 7 hSS ?_;refine zT 8 hSS ?_;refine zT 9 hSS ?_;refine zT 10 hSS ?_;refine zwu (i:=2) (j:=11) (by kernel_rfl) rfl rfl (fun K hK=>?_) (fun K hK=>?_)
    ·(try simp only[zA,zB,zC]);go_simp;have b2:=zkc hdr (.cells #[.int .i64 (j:Int)] 3);refine hK.out _ _ (bP.out _ b2) ?_;clear hK K;(try simp only[zQ]);refine zo 11 fun K hK=>?_;refine zke (by rfl) (.func 106) [.tmp 31,.tmp 33] _ (by rfl) 106 _ zpg (by rfl) _ (by rfl) _ (znv (zmy p.vs j (by omega) (some a) c1 u.s _ _ (HD.out _ (ag.out.chg.trans (Chg.of_below (zkb aj.out b2)))).2.vars HR.out.lv)) ?_;rintro vq w3 ⟨rfl,bW⟩;have b3:=zkb b2 bW;refine hK.out _ _ (bP.out _ b3) ?_;clear hK K;(try simp only[zQ]);refine zo 12 fun K hK=>?_
     refine zll (by rfl) (.tmp 23) [.const (.int .i64 (-1)),.tmp 25,.tmp 27,.tmp 34] _ (by rfl) 105 _ zre #[.pointer (some ⟨fb,0,none⟩)] (by rfl) _ (by rfl) _ (zml (zmu fb fb _ pv' (-1) _ [(j:Int)] (some ⟨wk.heap.size,0,none⟩) 1 u.s _ _ (ag.out.fs.later (zkb aj.out b3)) (((zpF _ (j:Int) ⟨by omega,by omega⟩).later zr.drew).later bW) (by simp) (by omega))) ?_;rintro vq W6 hp;obtain⟨jo,bS⟩:=ag.out.step aY.out (zkb aj.out b3) hp;have bM:VsI Rd fb fb Wb (.slice none 0 0) (frsN p.vs (j+1)) W6 jo:=by rw[zm2 iJ,Hu.out];exact bS
     have az:zW (fun w':World=>(zN6 w' W.heap.size (.slice (some a) L1 c1) (.slice A2 L2 c2) (.int .u8 k) (.int .i64 n) (.string s) (.slice A3 l3 c3)/\(zv w' (fb+1) 0 (.func (.func 105) #[] #[.pointer (some ⟨fb,0,none⟩)])))/\zN3 w' wr.heap.size (.string u.s) (.int .u8 u.k) (.int .i64 u.n)) zU W6:=⟨⟨aV.out _ bM.rd,box3 ((hp.2.elim fun _ h=>h.2.2.block _ (by have:=(zkb aj.out b3).size;have:=(b3).size;have:=fJ.out;omega) (fun hh=>by have hl:=ag.out.fs.lt;rcases hh with hh|hh;(have:=hl.1;omega);(have:=(hl.2 _ hh).2;omega))).trans (((b3).block _ (by have:=fJ.out;omega)).trans iE.out))⟩,trivial⟩
     refine hK.out _ _ az ?_;clear hK K;(try simp only[zQ]);refine zd ?_;refine NoPanic.normal ?_;have jE:=zh bM;clear bM bS hp az;go_wp2_with fail
     go_roundw
     case rel=>exact⟨j+1,_,by omega,by go_num,jE.out⟩
     case measure=>simp[intOf];omega
    ·skip
     refine zke (by rfl) (.func 106) [.tmp 31,.tmp 33] _ (by rfl) 106 _ zpg (by rfl) _ (by rfl) _ (znv (zmy p.vs j (by omega) (some a) c1 u.s _ _ (HD.out _ (ag.out.chg.trans (Chg.of_below (zkb aj.out hdr)))).2.vars HR.out.lv)) ?_;rintro vq w2 ⟨rfl,ak⟩;have b2:=zkb hdr ak;refine hK.out _ _ (bP.out _ b2) ?_;clear hK K;(try simp only[zQ]);refine zo 2 fun K hK=>?_;(try simp only[zA,zB,zC]);go_simp;have b3:=zkc b2 (.cells #[.int .i64 (j:Int)] 3);refine hK.out _ _ (bP.out _ b3) ?_;clear hK K;(try simp only[zQ]);refine zo 12 fun K hK=>?_
     refine zll (by rfl) (.tmp 23) [.const (.int .i64 (-1)),.tmp 25,.tmp 27,.tmp 34] _ (by rfl) 105 _ zre #[.pointer (some ⟨fb,0,none⟩)] (by rfl) _ (by rfl) _ (zml (zmu fb fb _ pv' (-1) _ [(j:Int)] (some ⟨w2.heap.size,0,none⟩) 1 u.s _ _ (ag.out.fs.later (zkb aj.out b3)) (zpF _ (j:Int) ⟨by omega,by omega⟩) (by simp) (by omega))) ?_;rintro vq W6 hp;obtain⟨jo,bS⟩:=ag.out.step aY.out (zkb aj.out b3) hp;have bM:VsI Rd fb fb Wb (.slice none 0 0) (frsN p.vs (j+1)) W6 jo:=by rw[zm2 iJ,Hu.out];exact bS
     have az:zW (fun w':World=>(zN6 w' W.heap.size (.slice (some a) L1 c1) (.slice A2 L2 c2) (.int .u8 k) (.int .i64 n) (.string s) (.slice A3 l3 c3)/\(zv w' (fb+1) 0 (.func (.func 105) #[] #[.pointer (some ⟨fb,0,none⟩)])))/\zN3 w' wr.heap.size (.string u.s) (.int .u8 u.k) (.int .i64 u.n)) zU W6:=⟨⟨aV.out _ bM.rd,box3 ((hp.2.elim fun _ h=>h.2.2.block _ (by have:=(zkb aj.out b3).size;have:=(b3).size;have:=fJ.out;omega) (fun hh=>by have hl:=ag.out.fs.lt;rcases hh with hh|hh;(have:=hl.1;omega);(have:=(hl.2 _ hh).2;omega))).trans (((b3).block _ (by have:=fJ.out;omega)).trans iE.out))⟩,trivial⟩
     refine hK.out _ _ az ?_;clear hK K;(try simp only[zQ]);refine zd ?_;refine NoPanic.normal ?_;have jE:=zh bM;clear bM bS hp az;go_wp2_with fail
     go_roundw
     case rel=>exact⟨j+1,_,by omega,by go_num,jE.out⟩
     case measure=>simp[intOf];omega
   ·obtain rfl:L1=j:=by omega
    have uZ:=zh (show VsI Rd fb fb Wb (.slice none 0 0) (frsN p.vs p.vs.length) wr pv' by rw[qJ.out];exact ag.out);obtain⟨⟨a0,a1,a2,a3,a4,a5⟩,ar⟩:=aV.out _ hinv.rd;obtain⟨F1,hF1⟩:=zX (frsN p.vs p.vs.length);have hF32:F1<=32:=by have:=zmn p.vs p.vs.length;have:=fK.out.1;omega
    have uf:=zh hF1;rw[hF1]at uZ;clear hinv ag hF1 hj hlt;go_wp2_with fail
    go_loopw [40] (fun i wr=>∃(j:Nat) (pv':Value),j<=L2/\i=.int .i64 j/\VsI Rd fb fb Wb (.slice none 0 0) (F1+prcN p.prs j) wr pv') (fun i _=>L2-(intOf i).toNat)
    case atStart=>exact⟨0,_,Nat.zero_le _,rfl,uZ.out⟩
    case round =>
     clear uZ a0 a1 a2 a3 a4 a5 ar;obtain⟨j,pv',hj,rfl,hinv⟩:=hrel;obtain⟨w0,rfl⟩:∃w0,w0=wr:=⟨_,rfl⟩
     have ag:=zh hinv;by_cases hlt:j<L2
     ·have iJ:j<p.prs.length:=by rw[HL2.out];exact hlt
      obtain⟨a,r,P1,d1,P2,d2,rfl,hsa,Hr,⟨q0,q1,q2,q3,q4,q5⟩,hpr⟩:=(HD.out w0 hinv.chg).2.procs.nd iJ;obtain⟨⟨a0,a1,a2,a3,a4,a5⟩,ar⟩:=aV.out _ hinv.rd;have eU:=zh hpr;clear hinv hsa hpr;go_upto_region 13 with fail;have hbk:Below w0.heap.size w0 ((w0.alloc (.cells #[.int .i64 (j:Int)] 3)).alloc (.cells #[.string r.s,.slice P1 r.ps.length d1,.int .u8 r.b.k,.int .i64 r.b.n,.string r.b.s,.slice P2 r.b.ks.length d2] 166)):=zkc (zkc zr _) _;have rT:=zkg (heap_alloc_new w0 (.cells #[.int .i64 (j:Int)] 3)) (.cells #[.string r.s,.slice P1 r.ps.length d1,.int .u8 r.b.k,.int .i64 r.b.n,.string r.b.s,.slice P2 r.b.ks.length d2] 166);have oW:=heap_alloc_new (w0.alloc (.cells #[.int .i64 (j:Int)] 3)) (.cells #[.string r.s,.slice P1 r.ps.length d1,.int .u8 r.b.k,.int .i64 r.b.n,.string r.b.s,.slice P2 r.b.ks.length d2] 166);simp only[World.size_alloc]at oW
      obtain⟨wk,hwk⟩:=zX ((w0.alloc (.cells #[.int .i64 (j:Int)] 3)).alloc (.cells #[.string r.s,.slice P1 r.ps.length d1,.int .u8 r.b.k,.int .i64 r.b.n,.string r.b.s,.slice P2 r.b.ks.length d2] 166));rw[hwk]at hbk rT oW ⊢;have fJ:=zh (show wk.heap.size=w0.heap.size+2 by rw[<-hwk];simp);have aj:=zh hbk;obtain⟨jU,pq⟩:∃jU:World->Prop,(fun W':World=>(Rd W'/\W'.heap[w0.heap.size]?=some (.cells #[.int .i64 (j:Int)] 3 (0,0)))/\W'.heap[w0.heap.size+1]?=some (.cells #[.string r.s,.slice P1 r.ps.length d1,.int .u8 r.b.k,.int .i64 r.b.n,.string r.b.s,.slice P2 r.b.ks.length d2] 166 (0,0)))=jU:=⟨_,rfl⟩
      have jX:=zh (show ∀w':World,jU w'->(fun W':World=>(Rd W'/\W'.heap[w0.heap.size]?=some (.cells #[.int .i64 (j:Int)] 3 (0,0)))/\W'.heap[w0.heap.size+1]?=some (.cells #[.string r.s,.slice P1 r.ps.length d1,.int .u8 r.b.k,.int .i64 r.b.n,.string r.b.s,.slice P2 r.b.ks.length d2] 166 (0,0))) w' from fun w' h=>by rw[<-pq]at h;exact h);have aL:=zh (show ∀(W W':World) (pv:Value) (N:Nat),jU W->FS W fb fb N pv->Chg (fun b=>b=fb\/pv.ownBlock=some b) W W'->jU W' from fun W W' pv N h hfs hc=>by rw[<-pq]at h ⊢;exact⟨⟨aY.out.keep _ _ _ _ h.1.1 hfs hc,hc.keep h.1.2 (hfs.other h.1.2 (by decide) (by decide))⟩,hc.keep h.2 (hfs.other h.2 (by decide) (by decide))⟩);have HI2:=zh (show VsI jU fb fb wk pv' (F1+prcN p.prs j) wk pv' from⟨by rw[<-pq];exact⟨⟨aY.out.keep _ _ _ _ ag.out.rd ag.out.fs (Chg.of_below hbk),rT⟩,oW⟩,ag.out.fs.later hbk,fun b hb=>.inl hb,Chg.refl _ _⟩)
      have jk:=zh (show ∀w':World,jU w'->(fun w':World=>(zN6 w' W.heap.size (.slice A1 L1 c1) (.slice (some a) L2 c2) (.int .u8 k) (.int .i64 n) (.string s) (.slice A3 l3 c3)/\(zv w' (fb+1) 0 (.func (.func 105) #[] #[.pointer (some ⟨fb,0,none⟩)])))/\(zv w' w0.heap.size 0 (.int .i64 (j:Int)))/\zN6 w' (w0.heap.size+1) (.string r.s) (.slice P1 r.ps.length d1) (.int .u8 r.b.k) (.int .i64 r.b.n) (.string r.b.s) (.slice P2 r.b.ks.length d2)) w' from fun w' h=>⟨aV.out w' (jX.out w' h).1.1,zc (jX.out w' h).1.2 rfl,box6 (jX.out w' h).2⟩)
      have HD2:=zh (show ∀w':World,Chg (fun b=>b=fb\/pv'.ownBlock=some b) wk w'->PV w' (fun b=>S b/\b<W.heap.size) p _/\PrR w' (fun b=>S b/\b<W.heap.size) r P1 d1 P2 d2 from fun w' h=>⟨(HD.out w' (ag.out.chg2 aj.out h)).1,eU.out.keep (fun b hb _=>hb) fun b hb _=>(eX.out w' (ag.out.chg2 aj.out h) b hb.1 hb.2).trans (eX.out w0 ag.out.chg b hb.1 hb.2).symm⟩)
      have bP:=zh (show ∀w':World,Below wk.heap.size wk w'->(fun w':World=>(zN6 w' W.heap.size (.slice A1 L1 c1) (.slice (some a) L2 c2) (.int .u8 k) (.int .i64 n) (.string s) (.slice A3 l3 c3)/\(zv w' (fb+1) 0 (.func (.func 105) #[] #[.pointer (some ⟨fb,0,none⟩)])))/\(zv w' w0.heap.size 0 (.int .i64 (j:Int)))/\zN6 w' (w0.heap.size+1) (.string r.s) (.slice P1 r.ps.length d1) (.int .u8 r.b.k) (.int .i64 r.b.n) (.string r.b.s) (.slice P2 r.b.ks.length d2)) w'/\zU w' from fun w' h=>⟨jk.out w' (aL.out _ _ _ _ HI2.out.rd HI2.out.fs (Chg.of_below h)),trivial⟩);clear hwk hbk rT oW pq a0 a1 a2 a3 a4 a5 ar q0 q1 q2 q3 q4 q5;have hdr:=(zs wk).drew;have hSS:=bP.out _ hdr;have hrb:=fK.out.2.2.1 r (by rw[<-Hr.out];exact List.getElem_mem iJ);have hpN:=zqi p.prs fK.out.2.2.1 j;obtain⟨rb1,rb2,rb3⟩:=hrb;refine wp_region_noPanic ?_
      refine zkk (fun w':World=>(zN6 w' W.heap.size (.slice A1 L1 c1) (.slice (some a) L2 c2) (.int .u8 k) (.int .i64 n) (.string s) (.slice A3 l3 c3)/\(zv w' (fb+1) 0 (.func (.func 105) #[] #[.pointer (some ⟨fb,0,none⟩)])))/\(zv w' w0.heap.size 0 (.int .i64 (j:Int)))/\zN6 w' (w0.heap.size+1) (.string r.s) (.slice P1 r.ps.length d1) (.int .u8 r.b.k) (.int .i64 r.b.n) (.string r.b.s) (.slice P2 r.b.ks.length d2)) zU 40 (by kernel_rfl) ?_;refine zT 0 hSS ?_;refine zT 1 hSS ?_;refine zT 2 hSS ?_;refine zT 4 hSS ?_;refine zo 3 fun K hK=>?_;refine zke (by rfl) (.func 107) [.tmp 45,.tmp 47] _ (by rfl) 107 _ zwX (by rfl) _ (by rfl) _ (znv (zna p _ _ r.s _ (HD2.out _ (Chg.of_below hdr)).1)) ?_;rintro vq w2 ⟨rfl,ak⟩;have b2:=zkb hdr ak;have aK:=bP.out _ b2;obtain⟨PE,yP⟩:=zX (zlz p.prs r.s);rw[yP];have HPE:=zh yP;refine hK.out _ _ aK ?_;clear hK K hSS yP
      (try simp only[zQ]);have tY:=zh (show VsI jU fb fb wk pv' (F1+prcN p.prs j) w2 pv' from⟨aL.out _ _ _ _ HI2.out.rd HI2.out.fs (Chg.of_below b2),HI2.out.fs.later b2,fun b hb=>.inl hb,Chg.of_below b2⟩);by_cases hpe:PE<(j:Int)
      ·have hd:decide (PE<(j:Int))=true:=decide_eq_true hpe;obtain⟨E1,hE1⟩:=zX (one1 (22));have hE2:E1<=1:=by rw[<-hE1];exact zmJ _
       have dN:=zh (show one1 (if zlz p.prs r.s<(j:Int)then 22 else 0)=E1 by rw[HPE.out,if_pos hpe];exact hE1);refine zT 5 aK ?_;refine zd ?_;refine NoPanic.normal ?_;obtain⟨⟨⟨a0,a1,a2,a3,a4,a5⟩,ar⟩,ai,r0,r1,r2,r3,r4,r5⟩:=aK.1;clear aK;go_wp2_with fail;refine(zmv fb fb _ pv' (j:Int) 22 [] none 0 r.s Any w2 tY.out.fs RowI.nil (by simp) (by omega)).mono ?_;rintro e w3 hp;obtain⟨v3,rfl⟩:=hp.1;obtain⟨pv3,hi3⟩:=tY.out.stepK aL.out zr hp;rw[hE1]at hi3;have HI3:=zh hi3;clear hp a0 a1 a2 a3 a4 a5 ar ai r0 r1 r2 r3 r4 r5;obtain⟨⟨⟨a0,a1,a2,a3,a4,a5⟩,ar⟩,ai,r0,r1,r2,r3,r4,r5⟩:=jk.out _ hi3.rd;clear hi3 hE1;go_wp2_with fail
       go_loopw [59] (fun x w'=>∃(i:Nat) (mf:Value),i<=r.ps.length/\x=.int .i64 i/\VsI jU fb fb wk pv' (F1+prcN p.prs j+E1+frsN r.ps i) w' mf) (fun x _=>r.ps.length-(intOf x).toNat)
       case atStart=>exact⟨0,_,Nat.zero_le _,rfl,HI3.out⟩
       case round =>
        clear HI3 a0 a1 a2 a3 a4 a5 ar ai r0 r1 r2 r3 r4 r5;obtain⟨i,mf,hi,rfl,hinv⟩:=hrel;have bI:=zh hinv;by_cases rC:i<r.ps.length
        ·obtain⟨a',u,rfl,hsa,Hu,⟨q0,q1,q2⟩,hfu⟩:=(HD2.out wr hinv.chg).2.row.nd rC;have hic:(i:Int)<=(d1:Int):=by have:=eU.out.lc;omega
         have hi0:(0:Int)<=(i:Int):=by omega
         obtain⟨⟨⟨a0,a1,a2,a3,a4,a5⟩,ar⟩,ai,r0,r1,r2,r3,r4,r5⟩:=jk.out _ hinv.rd;clear hinv hsa hfu;go_upto_region 18 with fail;have hbk:Below wr.heap.size wr (wr.alloc (.cells #[.string u.s,.int .u8 u.k,.int .i64 u.n] 76)):=zkc zr _;have eQ:=heap_alloc_new wr (.cells #[.string u.s,.int .u8 u.k,.int .i64 u.n] 76);obtain⟨wv,hwv⟩:=zX (wr.alloc (.cells #[.string u.s,.int .u8 u.k,.int .i64 u.n] 76));rw[hwv]at hbk eQ ⊢;have sN:=zh (show wv.heap.size=wr.heap.size+1 by rw[<-hwv];simp);have nH:=zh hbk;have iE:=zh eQ;clear hwv hbk eQ a0 a1 a2 a3 a4 a5 ar ai r0 r1 r2 r3 r4 r5 q0 q1 q2
         have qd:=zh (show ∀w':World,Below wv.heap.size wv w'->(fun w':World=>(fun w':World=>(zN6 w' W.heap.size (.slice A1 L1 c1) (.slice (some a) L2 c2) (.int .u8 k) (.int .i64 n) (.string s) (.slice A3 l3 c3)/\(zv w' (fb+1) 0 (.func (.func 105) #[] #[.pointer (some ⟨fb,0,none⟩)])))/\(zv w' w0.heap.size 0 (.int .i64 (j:Int)))/\zN6 w' (w0.heap.size+1) (.string r.s) (.slice (some a') r.ps.length d1) (.int .u8 r.b.k) (.int .i64 r.b.n) (.string r.b.s) (.slice P2 r.b.ks.length d2)) w'/\zN3 w' wr.heap.size (.string u.s) (.int .u8 u.k) (.int .i64 u.n)) w'/\zU w' from fun w' h=>⟨⟨jk.out _ (aL.out _ _ _ _ bI.out.rd bI.out.fs (Chg.of_below (zkb nH.out h))),box3 ((h.block _ (by have:=sN.out;omega)).trans iE.out)⟩,trivial⟩);have hdv:=(zs wv).drew;have hSS:=qd.out _ hdv;have yJ:=zmn r.ps i;refine wp_region_noPanic ?_
         refine zkk (fun w':World=>(fun w':World=>(zN6 w' W.heap.size (.slice A1 L1 c1) (.slice (some a) L2 c2) (.int .u8 k) (.int .i64 n) (.string s) (.slice A3 l3 c3)/\(zv w' (fb+1) 0 (.func (.func 105) #[] #[.pointer (some ⟨fb,0,none⟩)])))/\(zv w' w0.heap.size 0 (.int .i64 (j:Int)))/\zN6 w' (w0.heap.size+1) (.string r.s) (.slice (some a') r.ps.length d1) (.int .u8 r.b.k) (.int .i64 r.b.n) (.string r.b.s) (.slice P2 r.b.ks.length d2)) w'/\zN3 w' wr.heap.size (.string u.s) (.int .u8 u.k) (.int .i64 u.n)) zU 40 (by kernel_rfl) ?_;refine zT 0 hSS ?_;refine zT 1 hSS ?_;refine zT 2 hSS ?_;refine zT 3 hSS ?_;refine zT 4 hSS ?_;refine zT 5 hSS ?_;refine zT 6 hSS ?_;refine zT 7 hSS ?_;refine zT 8 hSS ?_;refine zT 9 hSS ?_;refine zo 10 fun K hK=>?_
         refine zke (by rfl) (.func 106) [.tmp 71,.tmp 73] _ (by rfl) 106 _ zpg (by rfl) _ (by rfl) _ (znv (zmy r.ps i (by omega) (some a') d1 u.s _ _ (HD2.out _ (bI.out.chg.trans (Chg.of_below (zkb nH.out hdv)))).2.row eU.out.lp)) ?_;rintro vq w5 ⟨rfl,gp⟩;have b5:=zkb hdv gp;refine hK.out _ _ (qd.out _ b5) ?_;clear hK K hSS;(try simp only[zQ]);refine zo 11 fun K hK=>?_;refine zll (by rfl) (.tmp 64) [.tmp 65,.const (.slice none 0 0),.tmp 67,.tmp 74] _ (by rfl) 105 _ zre #[.pointer (some ⟨fb,0,none⟩)] (by rfl) _ (by rfl) _ (zml (zmu fb fb _ mf (j:Int) _ [] none 0 u.s Any _ (bI.out.fs.later (zkb nH.out b5)) RowI.nil (by simp) (by omega))) ?_;rintro vq W6 hp;obtain⟨jo,bS⟩:=bI.out.stepK aL.out (zkb nH.out b5) hp
         have bM:VsI jU fb fb wk pv' (F1+prcN p.prs j+E1+frsN r.ps (i+1)) W6 jo:=by rw[zm2 rC,Hu.out,<-Nat.add_assoc];exact bS
         have az:zW (fun w':World=>(fun w':World=>(zN6 w' W.heap.size (.slice A1 L1 c1) (.slice (some a) L2 c2) (.int .u8 k) (.int .i64 n) (.string s) (.slice A3 l3 c3)/\(zv w' (fb+1) 0 (.func (.func 105) #[] #[.pointer (some ⟨fb,0,none⟩)])))/\(zv w' w0.heap.size 0 (.int .i64 (j:Int)))/\zN6 w' (w0.heap.size+1) (.string r.s) (.slice (some a') r.ps.length d1) (.int .u8 r.b.k) (.int .i64 r.b.n) (.string r.b.s) (.slice P2 r.b.ks.length d2)) w'/\zN3 w' wr.heap.size (.string u.s) (.int .u8 u.k) (.int .i64 u.n)) zU W6:=⟨⟨jk.out _ bM.rd,box3 ((hp.2.elim fun _ h=>h.2.2.block _ (by have:=(zkb nH.out b5).size;have:=b5.size;have:=sN.out;omega) (fun hh=>by have hl:=bI.out.fs.lt;rcases hh with hh|hh;(have:=hl.1;omega);(have:=(hl.2 _ hh).2;omega))).trans ((b5.block _ (by have:=sN.out;omega)).trans iE.out))⟩,trivial⟩
         refine hK.out _ _ az ?_;clear hK K;(try simp only[zQ]);refine zd ?_;refine NoPanic.normal ?_;have jE:=zh bM;clear bM bS hp az;go_wp2_with fail
         go_roundw
         case rel=>exact⟨i+1,_,by omega,by go_num,jE.out⟩
         case measure=>simp[intOf];omega
        ·have hil:i=r.ps.length:=by omega
         obtain⟨⟨⟨a0,a1,a2,a3,a4,a5⟩,ar⟩,ai,r0,r1,r2,r3,r4,r5⟩:=jk.out _ hinv.rd;have hge:¬ ((i:Int)<(r.ps.length:Int)):=by omega
         clear hinv;go_wp2_with fail;have yJ:=zmn r.ps r.ps.length;have aI:=zh (show VsI jU fb fb wk pv' (F1+prcN p.prs j+E1+frsN r.ps r.ps.length) wr mf by rw[<-hil];exact bI.out);have xw:=bI.out.chg.size;have hzk:=fJ.out;have hz0:=ag.out.chg.size;have hzb:=pE.out;refine(zng 109 _ _ fb fb (zrv fb fb (fb+1) w0.heap.size (j:Int)) p r.b (fun b=>S b/\b<W.heap.size) r.ps P1 d1 [] none 0 (F1+prcN p.prs j+E1+frsN r.ps r.ps.length) mf wr _ _ ⟨(lW.out _ (jX.out _ aI.out.rd).1.1).1,(jX.out _ aI.out.rd).1.2⟩ aI.out.fs (HD2.out _ aI.out.chg).1 (HD2.out _ aI.out.chg).2.body (HD2.out _ aI.out.chg).2.row eU.out.lc RowI.nil (Nat.zero_le _) (fun b hb hbl hh=>?_) (by simp;omega) (by omega) (by omega)).mono ?_
         ·rcases hh with hh|hh
          ·have:=hb.2;omega
          ·rcases aI.out.own b hh with h1|h1
           ·have:=(ag.out.fs.lt.2 b h1).1;have:=hb.2;omega
           ·have:=hb.2;omega
         rintro e W6 hp;obtain⟨v6,rfl⟩:=hp.1;obtain⟨jo,bS⟩:=aI.out.stepK aL.out zr hp;obtain⟨ym,bM⟩:=ag.out.step aY.out aj.out (bS.rep zr (e:=.returned undef) ⟨_,rfl⟩);have Ah:=zh (show VsI Rd fb fb Wb (.slice none 0 0) (F1+prcN p.prs (j+1)) W6 ym by rw[znT iJ,Hr.out,prcE,dN.out];simpa only[Nat.add_assoc]using bM);clear bM bS hp a0 a1 a2 a3 a4 a5 ar ai r0 r1 r2 r3 r4 r5;go_wp2_with fail
         go_roundw
         case rel=>exact⟨j+1,_,by omega,by go_num,Ah.out⟩
         case measure=>simp[intOf];omega
      ·have hd:decide (PE<(j:Int))=false:=decide_eq_false hpe;obtain⟨E1,hE1⟩:=zX (one1 (0));have hE2:E1<=1:=by rw[<-hE1];exact zmJ _
       have dN:=zh (show one1 (if zlz p.prs r.s<(j:Int)then 22 else 0)=E1 by rw[HPE.out,if_neg hpe];exact hE1);refine zT 5 aK ?_;refine zd ?_;refine NoPanic.normal ?_;obtain⟨⟨⟨a0,a1,a2,a3,a4,a5⟩,ar⟩,ai,r0,r1,r2,r3,r4,r5⟩:=aK.1;clear aK;go_wp2_with fail;have HI3:=zh (show VsI jU fb fb wk pv' (F1+prcN p.prs j+E1) w2 pv' by rw[<-hE1];exact tY.out);clear hE1
       go_loopw [59] (fun x w'=>∃(i:Nat) (mf:Value),i<=r.ps.length/\x=.int .i64 i/\VsI jU fb fb wk pv' (F1+prcN p.prs j+E1+frsN r.ps i) w' mf) (fun x _=>r.ps.length-(intOf x).toNat)
       case atStart=>exact⟨0,_,Nat.zero_le _,rfl,HI3.out⟩
       case round =>
        clear HI3 a0 a1 a2 a3 a4 a5 ar ai r0 r1 r2 r3 r4 r5;obtain⟨i,mf,hi,rfl,hinv⟩:=hrel;have bI:=zh hinv;by_cases rC:i<r.ps.length
        ·obtain⟨a',u,rfl,hsa,Hu,⟨q0,q1,q2⟩,hfu⟩:=(HD2.out wr hinv.chg).2.row.nd rC;have hic:(i:Int)<=(d1:Int):=by have:=eU.out.lc;omega
         have hi0:(0:Int)<=(i:Int):=by omega
         obtain⟨⟨⟨a0,a1,a2,a3,a4,a5⟩,ar⟩,ai,r0,r1,r2,r3,r4,r5⟩:=jk.out _ hinv.rd;clear hinv hsa hfu;go_upto_region 18 with fail;have hbk:Below wr.heap.size wr (wr.alloc (.cells #[.string u.s,.int .u8 u.k,.int .i64 u.n] 76)):=zkc zr _;have eQ:=heap_alloc_new wr (.cells #[.string u.s,.int .u8 u.k,.int .i64 u.n] 76);obtain⟨wv,hwv⟩:=zX (wr.alloc (.cells #[.string u.s,.int .u8 u.k,.int .i64 u.n] 76));rw[hwv]at hbk eQ ⊢;have sN:=zh (show wv.heap.size=wr.heap.size+1 by rw[<-hwv];simp);have nH:=zh hbk;have iE:=zh eQ;clear hwv hbk eQ a0 a1 a2 a3 a4 a5 ar ai r0 r1 r2 r3 r4 r5 q0 q1 q2
         have qd:=zh (show ∀w':World,Below wv.heap.size wv w'->(fun w':World=>(fun w':World=>(zN6 w' W.heap.size (.slice A1 L1 c1) (.slice (some a) L2 c2) (.int .u8 k) (.int .i64 n) (.string s) (.slice A3 l3 c3)/\(zv w' (fb+1) 0 (.func (.func 105) #[] #[.pointer (some ⟨fb,0,none⟩)])))/\(zv w' w0.heap.size 0 (.int .i64 (j:Int)))/\zN6 w' (w0.heap.size+1) (.string r.s) (.slice (some a') r.ps.length d1) (.int .u8 r.b.k) (.int .i64 r.b.n) (.string r.b.s) (.slice P2 r.b.ks.length d2)) w'/\zN3 w' wr.heap.size (.string u.s) (.int .u8 u.k) (.int .i64 u.n)) w'/\zU w' from fun w' h=>⟨⟨jk.out _ (aL.out _ _ _ _ bI.out.rd bI.out.fs (Chg.of_below (zkb nH.out h))),box3 ((h.block _ (by have:=sN.out;omega)).trans iE.out)⟩,trivial⟩);have hdv:=(zs wv).drew;have hSS:=qd.out _ hdv;have yJ:=zmn r.ps i;refine wp_region_noPanic ?_
         refine zkk (fun w':World=>(fun w':World=>(zN6 w' W.heap.size (.slice A1 L1 c1) (.slice (some a) L2 c2) (.int .u8 k) (.int .i64 n) (.string s) (.slice A3 l3 c3)/\(zv w' (fb+1) 0 (.func (.func 105) #[] #[.pointer (some ⟨fb,0,none⟩)])))/\(zv w' w0.heap.size 0 (.int .i64 (j:Int)))/\zN6 w' (w0.heap.size+1) (.string r.s) (.slice (some a') r.ps.length d1) (.int .u8 r.b.k) (.int .i64 r.b.n) (.string r.b.s) (.slice P2 r.b.ks.length d2)) w'/\zN3 w' wr.heap.size (.string u.s) (.int .u8 u.k) (.int .i64 u.n)) zU 40 (by kernel_rfl) ?_;refine zT 0 hSS ?_;refine zT 1 hSS ?_;refine zT 2 hSS ?_;refine zT 3 hSS ?_;refine zT 4 hSS ?_;refine zT 5 hSS ?_;refine zT 6 hSS ?_;refine zT 7 hSS ?_;refine zT 8 hSS ?_;refine zT 9 hSS ?_;refine zo 10 fun K hK=>?_
         refine zke (by rfl) (.func 106) [.tmp 71,.tmp 73] _ (by rfl) 106 _ zpg (by rfl) _ (by rfl) _ (znv (zmy r.ps i (by omega) (some a') d1 u.s _ _ (HD2.out _ (bI.out.chg.trans (Chg.of_below (zkb nH.out hdv)))).2.row eU.out.lp)) ?_;rintro vq w5 ⟨rfl,gp⟩;have b5:=zkb hdv gp;refine hK.out _ _ (qd.out _ b5) ?_;clear hK K hSS;(try simp only[zQ]);refine zo 11 fun K hK=>?_;refine zll (by rfl) (.tmp 64) [.tmp 65,.const (.slice none 0 0),.tmp 67,.tmp 74] _ (by rfl) 105 _ zre #[.pointer (some ⟨fb,0,none⟩)] (by rfl) _ (by rfl) _ (zml (zmu fb fb _ mf (j:Int) _ [] none 0 u.s Any _ (bI.out.fs.later (zkb nH.out b5)) RowI.nil (by simp) (by omega))) ?_;rintro vq W6 hp;obtain⟨jo,bS⟩:=bI.out.stepK aL.out (zkb nH.out b5) hp
         have bM:VsI jU fb fb wk pv' (F1+prcN p.prs j+E1+frsN r.ps (i+1)) W6 jo:=by rw[zm2 rC,Hu.out,<-Nat.add_assoc];exact bS
         have az:zW (fun w':World=>(fun w':World=>(zN6 w' W.heap.size (.slice A1 L1 c1) (.slice (some a) L2 c2) (.int .u8 k) (.int .i64 n) (.string s) (.slice A3 l3 c3)/\(zv w' (fb+1) 0 (.func (.func 105) #[] #[.pointer (some ⟨fb,0,none⟩)])))/\(zv w' w0.heap.size 0 (.int .i64 (j:Int)))/\zN6 w' (w0.heap.size+1) (.string r.s) (.slice (some a') r.ps.length d1) (.int .u8 r.b.k) (.int .i64 r.b.n) (.string r.b.s) (.slice P2 r.b.ks.length d2)) w'/\zN3 w' wr.heap.size (.string u.s) (.int .u8 u.k) (.int .i64 u.n)) zU W6:=⟨⟨jk.out _ bM.rd,box3 ((hp.2.elim fun _ h=>h.2.2.block _ (by have:=(zkb nH.out b5).size;have:=b5.size;have:=sN.out;omega) (fun hh=>by have hl:=bI.out.fs.lt;rcases hh with hh|hh;(have:=hl.1;omega);(have:=(hl.2 _ hh).2;omega))).trans ((b5.block _ (by have:=sN.out;omega)).trans iE.out))⟩,trivial⟩
         refine hK.out _ _ az ?_;clear hK K;(try simp only[zQ]);refine zd ?_;refine NoPanic.normal ?_;have jE:=zh bM;clear bM bS hp az;go_wp2_with fail
         go_roundw
         case rel=>exact⟨i+1,_,by omega,by go_num,jE.out⟩
         case measure=>simp[intOf];omega
        ·have hil:i=r.ps.length:=by omega
         obtain⟨⟨⟨a0,a1,a2,a3,a4,a5⟩,ar⟩,ai,r0,r1,r2,r3,r4,r5⟩:=jk.out _ hinv.rd;have hge:¬ ((i:Int)<(r.ps.length:Int)):=by omega
         clear hinv;go_wp2_with fail;have yJ:=zmn r.ps r.ps.length;have aI:=zh (show VsI jU fb fb wk pv' (F1+prcN p.prs j+E1+frsN r.ps r.ps.length) wr mf by rw[<-hil];exact bI.out);have xw:=bI.out.chg.size;have hzk:=fJ.out;have hz0:=ag.out.chg.size;have hzb:=pE.out;refine(zng 109 _ _ fb fb (zrv fb fb (fb+1) w0.heap.size (j:Int)) p r.b (fun b=>S b/\b<W.heap.size) r.ps P1 d1 [] none 0 (F1+prcN p.prs j+E1+frsN r.ps r.ps.length) mf wr _ _ ⟨(lW.out _ (jX.out _ aI.out.rd).1.1).1,(jX.out _ aI.out.rd).1.2⟩ aI.out.fs (HD2.out _ aI.out.chg).1 (HD2.out _ aI.out.chg).2.body (HD2.out _ aI.out.chg).2.row eU.out.lc RowI.nil (Nat.zero_le _) (fun b hb hbl hh=>?_) (by simp;omega) (by omega) (by omega)).mono ?_
         ·rcases hh with hh|hh
          ·have:=hb.2;omega
          ·rcases aI.out.own b hh with h1|h1
           ·have:=(ag.out.fs.lt.2 b h1).1;have:=hb.2;omega
           ·have:=hb.2;omega
         rintro e W6 hp;obtain⟨v6,rfl⟩:=hp.1;obtain⟨jo,bS⟩:=aI.out.stepK aL.out zr hp;obtain⟨ym,bM⟩:=ag.out.step aY.out aj.out (bS.rep zr (e:=.returned undef) ⟨_,rfl⟩);have Ah:=zh (show VsI Rd fb fb Wb (.slice none 0 0) (F1+prcN p.prs (j+1)) W6 ym by rw[znT iJ,Hr.out,prcE,dN.out];simpa only[Nat.add_assoc]using bM);clear bM bS hp a0 a1 a2 a3 a4 a5 ar ai r0 r1 r2 r3 r4 r5;go_wp2_with fail
         go_roundw
         case rel=>exact⟨j+1,_,by omega,by go_num,Ah.out⟩
         case measure=>simp[intOf];omega
     ·have hjl:j=L2:=by omega
      obtain⟨⟨a0,a1,a2,a3,a4,a5⟩,ar⟩:=aV.out _ hinv.rd;have hge:¬ ((j:Int)<(L2:Int)):=by omega
      have bU:=zh (show VsI Rd fb fb Wb (.slice none 0 0) (F1+prcN p.prs p.prs.length) w0 pv' by rw[HL2.out,<-hjl];exact ag.out);clear hinv;go_wp2_with fail;have hpN:=zqi p.prs fK.out.2.2.1 p.prs.length;have hvb:=fK.out;have xw:=ag.out.chg.size;have hzb:=pE.out;have xD:=(HD.out _ bU.out.chg).2.main;rw[ou.out.1,ou.out.2.1,ou.out.2.2.1,ou.out.2.2.2]at xD;have hcall:=zng _ _ Rd fb fb aY.out p p.m (fun b=>S b/\b<W.heap.size) p.vs A1 c1 [] none 0 (F1+prcN p.prs p.prs.length) pv' w0 _ _ bU.out.rd bU.out.fs (HD.out _ bU.out.chg).1 xD (HD.out _ bU.out.chg).2.vars HR.out.lvc RowI.nil (Nat.zero_le _) (fun b hb hbl hh=>by rcases hh with hh|hh;(have:=hb.2;omega);(rcases bU.out.own b hh with h1|h1;(simp[Value.ownBlock]at h1);(have:=hb.2;omega))) (by simp;omega) (by omega) (by omega);rw[qJ.out]at hcall;refine hcall.mono ?_;clear hcall;rintro e W6 hp
      obtain⟨v6,rfl⟩:=hp.1;obtain⟨jo,bS⟩:=bU.out.step aY.out zr hp;rw[show F1+prcN p.prs p.prs.length+cntV p.prs p.m p.vs=NN by rw[<-HNN2.out,chkN,uf.out]]at bS;obtain⟨A6,c6,rfl⟩:=bS.fs.slice;have hf6:W6.cell? ⟨fb,0,none⟩=some (.slice A6 NN c6):=zc bS.fs.box rfl;have vg:=zh (show Below W.heap.size W W6 from dP.out.trans (bS.chg.below (by omega) (fun b hb=>by rcases hb with hb|hb;omega;simp[Value.ownBlock]at hb)));clear bS hp xD hvb a0 a1 a2 a3 a4 a5 ar;go_wp2_with fail;go_ret;exact⟨A6,c6,rfl,vg.out⟩
theorem zsE:∀(prs:List PR) (s:ByteArray),prcI prs s=idxP prs s
 | [],_=>rfl
 | q::qs,s=>by
  unfold prcI;rw[zsE qs s];unfold idxP;rw[List.findIdx?_cons]
def CalB(prs:List PR)(t:T):Prop:=∀u∈po t,(u.k=50\/u.k=51)->∃i,prcI prs u.s=some i
theorem zwP:∀(t:T),isE t=true->∀x∈po t,isE x=true:=by
 intro t
 induction t using T.ind with
 | _ k n s ks ih =>
  intro h x hx;simp only[po,List.mem_cons]at hx;rcases hx with rfl|hx
  ·exact h
  ·obtain⟨t,ht,hx⟩:=znj.1 hx;exact ih t ht (zu0 h t ht) x hx
theorem CalB.expr{prs:List PR}{t:T}(h:isE t=true):CalB prs t:=fun u hu hk=>by
 have:=zu1 u (zwP t h u hu);omega
theorem CalB.kid{prs:List PR}{k n:Int}{s:ByteArray}{ks:List T}(h:CalB prs (.nd k n s ks)){t:T}(ht:t∈ks):CalB prs t:=fun u hu=>h u (by simp only[po,List.mem_cons];exact .inr (znj.2 ⟨t,ht,hu⟩))
theorem zoc{prs:List PR}{k:Int}{s:ByteArray}{vs:List VD}:∀ {ks:List T} {i:Nat},cntK prs k s i ks vs=0->∀t∈ks,∃vs',cntV prs t vs'=0
 | [],_,_,t,ht=>by cases ht
 | u::us,i,h,t,ht=>by
  rw[cntK]at h;obtain⟨h1,h2⟩:=Nat.add_eq_zero_iff.1 h;rcases List.mem_cons.1 ht with rfl|ht
  ·exact⟨_,h1⟩
  ·exact zoc h2 t ht
theorem zsN{e:Int}(h:one1 e=0):e=0:=by
 unfold one1 at h
 split at h
 ·assumption
 ·omega
theorem zwo:∀(t:T) (prs:List PR) (vs:List VD),(isS t=true\/isB t=true\/isE t=true)->cntV prs t vs=0->CalB prs t:=by
 intro t
 induction t using T.ind with
 | _ k n s ks ih =>
  intro prs vs ht h;rcases ht with hs|hb|he
  ·rw[cntV]at h;intro u hu hk;simp only[po,List.mem_cons]at hu;by_cases hc:k=50\/k=51
   ·rcases hu with rfl|hu
    ·have h0:=zsN (e:=zlk prs k s ks.length vs) (by omega);unfold zlk at h0;rw[if_neg (by omega),if_neg (by omega),if_neg (by omega),if_neg (by omega),if_pos hc]at h0;rw[zsE]
     cases hi:idxP prs s with
     | none=>rw[hi]at h0;simp at h0
     | some i=>exact⟨i,hi⟩
    ·obtain⟨t,ht,hx⟩:=znj.1 hu;have h57:t.k≠57:=by
      rcases zm1 hs with⟨_,h1⟩|⟨h1,_⟩|⟨h1,_⟩|⟨h1,_⟩
      ·exact h1 t ht
      all_goals omega
     rcases(zwf hs).2 t ht with h1|h1
     ·exact CalB.expr h1 u hx hk
     ·exact absurd (zyF h1) h57
   ·rw[if_neg hc]at h;rcases hu with rfl|hu
    ·exact absurd hk hc
    ·obtain⟨t,ht,hx⟩:=znj.1 hu;obtain⟨vs',hv⟩:=zoc (Nat.add_eq_zero_iff.1 h).2 t ht;rcases(zwf hs).2 t ht with h1|h1
     ·exact CalB.expr h1 u hx hk
     ·exact ih t ht prs vs' (.inr (.inl h1)) hv u hx hk
  ·obtain⟨h57,hks⟩:=zrb _ _ _ _ hb;rw[cntV,if_neg (by omega)]at h;intro u hu hk;simp only[po,List.mem_cons]at hu;rcases hu with rfl|hu
   ·simp only[T.k_nd]at hk;omega
   ·obtain⟨t,ht,hx⟩:=znj.1 hu;obtain⟨vs',hv⟩:=zoc (Nat.add_eq_zero_iff.1 h).2 t ht;exact ih t ht prs vs' (.inl (hks t ht)) hv u hx hk
  ·exact CalB.expr he
def GP(prs:List PR)(t:T):Prop:=isS t=true/\CalB prs t/\∀q∈prs,isB q.b=true/\CalB prs q.b
theorem GP.block{prs:List PR}{b:T}(hb:isB b=true)(hc:CalB prs b)(hq:∀q∈prs,isB q.b=true/\CalB prs q.b):∀u∈b.ks,GP prs u:=by
 obtain⟨k,n,s,ks⟩:=b;exact fun u hu=>⟨(zrb _ _ _ _ hb).2 u hu,hc.kid hu,hq⟩
theorem zyl:GC GP where
 two:=fun prs t h hk=>by
  obtain⟨k,n,s,ks⟩:=t;obtain⟨hs,hc,hq⟩:=h;simp only[T.k_nd]at hk;rcases zm1 hs with⟨h1,_⟩|⟨_,_,a,b,c,d,rfl,_,hb1,hb2,_⟩|⟨h1,_⟩|⟨h1,_⟩
  ·omega
  ·exact⟨rfl,GP.block hb1 (hc.kid (t:=b) (by simp)) hq,GP.block hb2 (hc.kid (t:=c) (by simp)) hq⟩
  ·omega
  ·omega
 loc:=fun prs t h hk=>by
  obtain⟨k,n,s,ks⟩:=t;obtain⟨hs,hc,hq⟩:=h;simp only[T.k_nd]at hk;rcases zm1 hs with⟨h1,_⟩|⟨h1,_⟩|⟨_,_,a,b,c,rfl,_,hb1,_⟩|⟨h1,_⟩
  ·omega
  ·omega
  ·exact⟨rfl,GP.block hb1 (hc.kid (t:=b) (by simp)) hq⟩
  ·omega
 stk:=fun prs t h hk=>by
  obtain⟨k,n,s,ks⟩:=t;obtain⟨hs,hc,hq⟩:=h;simp only[T.k_nd]at hk;rcases zm1 hs with⟨h1,_⟩|⟨h1,_⟩|⟨h1,_⟩|⟨_,_,b,rfl,hb1⟩
  ·omega
  ·omega
  ·omega
  ·exact⟨rfl,GP.block hb1 (hc.kid (t:=b) (by simp)) hq⟩
 cal:=fun prs t h hk=>by
  obtain⟨hs,hc,hq⟩:=h;have hm:t∈po t:=by obtain⟨k,n,s,ks⟩:=t;simp[po]
  obtain⟨i,hi⟩:=hc t hm hk;obtain⟨-,hl⟩:=zo5 _ _ _ hi;exact⟨i,prs[i],hi,List.getElem?_eq_getElem hl,GP.block (hq _ (List.getElem_mem hl)).1 (hq _ (List.getElem_mem hl)).2 hq⟩
theorem zpI{ps:List PR}:∀ {j:Nat},j<=ps.length->prcN ps j=0->∀i (h:i<ps.length),i<j->prcE ps i ps[i]=0
 | 0,_,_,i,_,hi=>by omega
 | j+1,hj,h,i,hl,hi=>by
  rw[znT (by omega)]at h;by_cases e:i=j
  ·subst e;omega
  ·exact zpI (j:=j) (by omega) (by omega) i hl (by omega)
theorem zsj{p:PG}(h:zle p=true):isB p.m=true/\∀r∈p.prs,isB r.b=true:=by
 simp only[zle,Bool.and_eq_true,decide_eq_true_eq,List.all_eq_true]at h;refine⟨?_,fun r hr=>?_⟩
 ·have:=h.2;simp only[zlA,Bool.and_eq_true]at this;exact this.2
 ·have:=h.1.2 r hr;simp only[zok,zlA,Bool.and_eq_true]at this;exact this.2.2
theorem zud{p:PG}(hv:zle p=true)(hc:chkN p=0):∀u∈p.m.ks,GP p.prs u:=by
 obtain⟨h1,h2⟩:=zsj hv;unfold chkN at hc;refine GP.block h1 (zwo _ _ p.vs (.inr (.inl h1)) (by omega)) fun q hq=>⟨h2 q hq,?_⟩
 obtain⟨i,hi,rfl⟩:=List.getElem_of_mem hq;have:=zpI zl (show prcN p.prs p.prs.length=0 by omega) i hi hi;unfold prcE at this;exact zwo _ _ _ (.inr (.inl (h2 _ hq))) (show cntV p.prs p.prs[i].b p.prs[i].ps=0 by omega)
theorem zxT(M a b r s g:Nat)(h1:a<=b)(h2:s<=r)(hg:b*M+r<=g):a*M+s<=g:=by have:=Nat.mul_le_mul_right M h1;omega
theorem zuA{p:PG}{F:Int}{g:Nat}(hv:zle p=true)(hg:F.toNat*2000+2000<=g)(back:Bool)(S:ST)(e:List Nat):Good 0 (runO p.prs F g back p.m ⟨S,0,e⟩):=by
 obtain⟨_,_,h3,_,h5⟩:=zmi hv;refine zlH _ _ fun u hu r hr=>zl2 (M:=2000) (fun q hq=>(h3 q hq).2.2) (by omega) g back u r ?_;have h6:=zo9 (zlG hu);exact zxT 2000 (F.toNat-r.n) F.toNat 2000 _ g (by omega) (by omega) hg
theorem zyc(A:Option Addr)(l c:Nat)(w:World):(Instr.buildSlice 31 1 #[(0,.slice A l c)]).run Tryz.prog w=.ok (.slice (some ⟨w.heap.size,0,none⟩) 1 1) (w.alloc (.cells #[.slice A l c] 32)):=by kernel_rfl
theorem bS12(B C:Option Addr)(m d n e:Nat)(w:World):(Instr.build 34 #[(1,.slice B m d),(2,.slice C n e)]).run Tryz.prog w=.ok (.agg #[.slice none 0 0,.slice B m d,.slice C n e]) w:=by kernel_rfl
section
variable {P:Program} {ops:Array Oper} {Q:Exit->Act->World->Prop} {md:Region.Mode} {S1 S2:World->Prop} {k:Nat}
theorem zpy(I:Nat->Array Bool->Act->World->Prop)(hS:∀f l a w,I f l a w->S1 w/\S2 w)
  (h:∀f l a w,I f l a w->wpG P md ops Q S1 S2 k f l a w\/∃f',f=f'+1/\Region.ready md ops l≠[]/\∀i∈Region.ready md ops l,wpOp P ops Q i (fun a' w'=>I f' (l.setIfInBounds i true) a' w') a w) :
  ∀f l a w,I f l a w->wpG P md ops Q S1 S2 k f l a w
 | 0,l,a,w,hi=>by
  rcases h 0 l a w hi with h1|⟨f',h1,_⟩
  ·exact h1
  ·omega
 | f+1,l,a,w,hi=>by
  rcases h (f+1) l a w hi with h1|⟨f',h1,h2,h3⟩
  ·exact h1
  ·obtain rfl:f=f':=by omega
   exact⟨fun h0=>absurd h0 h2,fun i hm=>wpOp_mono (fun a' w' h'=>⟨⟨(hS _ _ _ _ h').1,fun _=>(hS _ _ _ _ h').2⟩,zpy I hS h f _ a' w' h'⟩) (h3 i hm)⟩
theorem zqP{a0:Act}{f0:Nat}{l0:Array Bool}{w0:World}(I:Act->Nat->Array Bool->Act->World->Prop)(hS:∀A f l a w,I A f l a w->S1 w/\S2 w)
  (h:∀A,A=a0->∀f l a w,I A f l a w->wpG P md ops Q S1 S2 k f l a w\/∃f',f=f'+1/\Region.ready md ops l≠[]/\∀i∈Region.ready md ops l,wpOp P ops Q i (fun a' w'=>I A f' (l.setIfInBounds i true) a' w') a w)
  (h0:I a0 f0 l0 a0 w0):wpG P md ops Q S1 S2 k f0 l0 a0 w0:=zpy (I a0) (hS a0) (h a0 rfl) _ _ _ _ h0
end
def zoj(l0 l3 l4 l7 l9:Bool)(v5 v8 v9 v12:Value)(b3:Nat)(s:SS):Option SI->RowD
 | none=>if l9=true then⟨boxV b3,34,3,1,[.slice none 0 0,.slice none 0 0,.slice none 0 0]⟩else nilR
 | some .inp=>if l3=true then⟨v8,3,1,s.tin.length,zkf s.tin⟩else if l0=true then⟨v5,3,1,0,[]⟩else nilR
 | some .out=>if l7=true then⟨v12,3,1,s.tout.length,zkf s.tout⟩else if l4=true then⟨v9,3,1,0,[]⟩else nilR
 | some _=>nilR
def zlP(vc vi vo:Value)(fc:Nat->Value)(b3:Nat)(s:SS)(j:Nat):Option SI->RowD
 | none=>⟨boxV b3,34,3,1,[vc,vi,vo]⟩
 | some .all=>⟨vc,32,1,j,(List.range j).map fc⟩
 | some (.el i)=>if i<j then⟨fc i,3,1,(s.cells.getD i []).length,zkf (s.cells.getD i [])⟩else nilR
 | some .inp=>⟨vi,3,1,s.tin.length,zkf s.tin⟩
 | some .out=>⟨vo,3,1,s.tout.length,zkf s.tout⟩
theorem zwK(w:World)(n0:Nat)(v5 v8 v9 v12:Value)(b3:Nat)(s:SS):Rws w n0 (zoj false false false false false v5 v8 v9 v12 b3 s):=by
 have e:∀i,zoj false false false false false v5 v8 v9 v12 b3 s i=nilR:=by
  intro i;rcases i with _|i
  ·rfl
  ·cases i<;>rfl
 refine⟨fun i=>by rw[e];exact zlV w n0,fun i j b _ hi _=>?_⟩;rw[e]at hi;simp[nilR,Value.ownBlock]at hi
theorem zuI(w:World)(n0:Nat)(h:n0<=w.heap.size)(a b c:Value)(E:TypeId):(w.alloc (.cells #[a,b,c] E)).ownsRow n0 E 3 (boxV w.heap.size) 1 [a,b,c] :=
 ⟨rfl,.inr ⟨w.heap.size,1,#[a,b,c],rfl,h,heap_alloc_new w _,zl,by unfold maxLen;omega,rfl,rfl⟩⟩
theorem zrE(vc jm vi vo:Value)(fc:Nat->Value)(b3:Nat)(s:SS)(j:Nat)(l:List Int)(v8 r5:Value)(hl:s.cells.getD j []=l) :
  updR (updR (updR (updR (zlP vc vi vo fc b3 s j) (some (.el j)) ⟨r5,3,1,0,[]⟩) (some (.el j)) ⟨v8,3,1,l.length,zkf l⟩) (some .all) ⟨jm,32,1,j+1,(List.range j).map fc++[v8]⟩) none ⟨boxV b3,34,3,1,[jm,vi,vo]⟩=zlP jm vi vo (fun i=>if i=j then v8 else fc i) b3 s (j+1):=by
 funext i;rcases i with _|i
 ·rfl
 ·cases i with
  | all =>
   simp only[updR,zlP,reduceCtorEq,if_false,if_true,RowD.mk.injEq,true_and];rw[List.range_succ,List.map_append];congr 1
   ·refine List.map_congr_left fun i hi=>?_;have:i≠j:=by have:=List.mem_range.1 hi;omega
    simp[this]
   ·simp
  | inp=>rfl
  | out=>rfl
  | el i =>
   by_cases e:i=j
   ·subst e;simp[updR,zlP,<-hl]
   ·have e2:(i<j+1)↔(i<j):=by omega
    simp[updR,zlP,e,e2]
theorem zpE{W:World}{n0:Nat}{vc vi vo:Value}{fc:Nat->Value}{b3:Nat}{s:SS}(h:Rws W n0 (zlP vc vi vo fc b3 s s.cells.length)):Rws W n0 (zkV vc vi vo fc s):=by
 have e:∀i,zkV vc vi vo fc s i=zlP vc vi vo fc b3 s s.cells.length (some i):=fun i=>by cases i<;>rfl
 refine⟨fun i=>by rw[e];exact h.row (some i),fun i j b hij hi hj=>?_⟩;rw[e]at hi hj;exact h.sep (some i) (some j) b (fun e'=>hij (by injection e')) hi hj
theorem zsI{w:World}{n0 b:Nat}{x y z:Value}{E:TypeId}(hn:n0<=b)(h:w.heap[b]?=some (.cells #[x,y,z] E (0,0))):w.ownsRow n0 E 3 (boxV b) 1 [x,y,z] :=
 ⟨rfl,.inr ⟨b,1,#[x,y,z],rfl,hn,h,zl,by unfold maxLen;omega,rfl,rfl⟩⟩
theorem zqj(w:World)(n0:Nat)(E:TypeId):w.ownsRow n0 E 1 (.slice none 0 0) 0 []:=⟨rfl,.inl ⟨rfl,rfl⟩⟩
theorem k_2(l5 l9:Bool)(v5 v8 v8' v9 v12:Value)(b3:Nat)(s:SS):updR (zoj false false false l5 l9 v5 v8' v9 v12 b3 s) (some .inp) ⟨v8,3,1,s.tin.length,zkf s.tin⟩=zoj false true false l5 l9 v5 v8 v9 v12 b3 s:=by
 funext i;rcases i with _|i
 ·rfl
 ·cases i<;>rfl
theorem k_5(l2 l9:Bool)(v5 v8 v9 v12 v12':Value)(b3:Nat)(s:SS):updR (zoj false l2 false false l9 v5 v8 v9 v12' b3 s) (some .out) ⟨v12,3,1,s.tout.length,zkf s.tout⟩=zoj false l2 false true l9 v5 v8 v9 v12 b3 s:=by
 funext i;rcases i with _|i
 ·rfl
 ·cases i<;>rfl
theorem k_7(l2 l5:Bool)(v5 v8 v9 v12:Value)(b3 b3':Nat)(s:SS):updR (zoj false l2 false l5 false v5 v8 v9 v12 b3' s) none ⟨boxV b3,34,3,1,[.slice none 0 0,.slice none 0 0,.slice none 0 0]⟩=zoj false l2 false l5 true v5 v8 v9 v12 b3 s:=by
 funext i;rcases i with _|i
 ·rfl
 ·cases i<;>rfl
theorem zyC(vi vo v5 v9:Value)(fc:Nat->Value)(b3:Nat)(s:SS):updR (updR (zoj false true false true true v5 vi v9 vo b3 s) none ⟨boxV b3,34,3,1,[.slice none 0 0,vi,vo]⟩) (some .all) ⟨.slice none 0 0,32,1,0,[]⟩=zlP (.slice none 0 0) vi vo fc b3 s 0:=by
 funext i;rcases i with _|i
 ·rfl
 ·cases i<;>rfl
theorem zwe(vc jm vi vo:Value)(fc:Nat->Value)(b3:Nat)(s:SS)(j:Nat)(l:List Int)(v8:Value)(hl:s.cells.getD j []=l) :
  updR (updR (updR (zlP vc vi vo fc b3 s j) (some (.el j)) ⟨v8,3,1,l.length,zkf l⟩) (some .all) ⟨jm,32,1,j+1,(List.range j).map fc++[v8]⟩) none ⟨boxV b3,34,3,1,[jm,vi,vo]⟩=zlP jm vi vo (fun i=>if i=j then v8 else fc i) b3 s (j+1):=by
 rw[<-zrE vc jm vi vo fc b3 s j l v8 v8 hl];congr 2;funext i;by_cases e:i=some (.el j)
 ·subst e;simp[updR]
 ·simp[updR,e]
theorem zpx(s:SS)(v:Value)(w:World)(hv:SV w Any s v)(hcl:s.cells.length<=5864062014800):Calls Tryz.prog 23 #[v] w fun e W'=>∃v',e=.returned v'/\OwnS W' w.heap.size s v'/\Below w.heap.size w W':=by
 have h1:=bS12;have HV:=zh hv;obtain⟨A,c,B,d,D,e,rfl,hr1,hr2,hr3,hc1,hc2,hc3,hl1,hl2,hl3,hl4⟩:=hv;have hk:=heap_alloc_new w (.cells #[.slice A s.cells.length c,.slice B s.tin.length d,.slice D s.tout.length e] 34);have hbw:Below w.heap.size w ((w.alloc (.cells #[.slice A s.cells.length c,.slice B s.tin.length d,.slice D s.tout.length e] 34)).alloc (.cells #[.slice none 0 0,.slice none 0 0,.slice none 0 0] 34)):=zkc (zkc zr _) _;have hk2:=zkg hk (.cells #[.slice none 0 0,.slice none 0 0,.slice none 0 0] 34);have hz1:((w.alloc (.cells #[.slice A s.cells.length c,.slice B s.tin.length d,.slice D s.tout.length e] 34)).alloc (.cells #[.slice none 0 0,.slice none 0 0,.slice none 0 0] 34)).heap.size=w.heap.size+1+1:=by simp
 have hk3:=heap_alloc_new (w.alloc (.cells #[.slice A s.cells.length c,.slice B s.tin.length d,.slice D s.tout.length e] 34)) (.cells #[.slice none 0 0,.slice none 0 0,.slice none 0 0] 34);rw[World.size_alloc]at hk3;have HI:=zh (show s.I from⟨fun l hl=>by
  obtain⟨i,hi,rfl⟩:=List.mem_iff_getElem.1 hl;obtain⟨_,_,_,_,_,_,_,hr⟩:=hr1 i hi;exact hr.fits,hr2.fits,hr3.fits⟩)
 go_enter Tryz.func23,Tryz.ntmps23;go_upto_region 1 with fail;obtain⟨w1,hw1⟩:=zX ((w.alloc (.cells #[.slice A s.cells.length c,.slice B s.tin.length d,.slice D s.tout.length e] 34)).alloc (.cells #[.slice none 0 0,.slice none 0 0,.slice none 0 0] 34));rw[hw1]at hbw hk2 hk3 hz1 ⊢;have HB1:=zh hbw;have aB:=zh hk2;have gu:=zh hk3;have HR1:=zh (hr1.later hbw);have HR2:=zh (hr2.later hbw);have HR3:=zh (hr3.later hbw);have HL:=zh (show s.Lim from⟨hl1,hl2,hl3,hl4⟩);clear hk hbw hk2 hk3 hw1 hr1 hr2 hr3 hl1 hl2 hl3 hl4 HV;obtain⟨z0,z1,z2⟩:=zkn aB.out;have hSS:zW (fun w':World=>zv w' w.heap.size 1 (.slice B s.tin.length d)/\zv w' w.heap.size 2 (.slice D s.tout.length e)) zU w1.drew:=⟨⟨z1,z2⟩,trivial⟩
 refine wp_region_noPanic ?_;refine zG hSS 8 ?_;refine zT 0 hSS ?_;refine zT 1 hSS ?_;refine zT 3 hSS ?_;refine zT 4 hSS ?_;refine zqP (fun A f l a wr=>∃(l2 l5 l6 l7:Bool) (v8 v12 v13 v3:Value) (b3:Nat),f=(!l2).toNat+(!l5).toNat+(!l6).toNat+(!l7).toNat+1/\l = #[true,true,l2,true,true,l5,l6,l7,false] /\
  a=(((A.put (some 8) v8).put (some 11) v12).put (some 12) v13).put (some 3) v3/\Hid (Below w1.heap.size w1 wr)/\Hid (Rws wr w1.heap.size (zoj false l2 false l5 l7 undef v8 undef v12 b3 s))/\Hid ((l5=true->l2=true)/\(l6=true->v13=.agg #[.slice none 0 0,v8,v12]/\l2=true/\l5=true)/\(l7=true->v3=.pointer (some ⟨b3,0,none⟩)))/\Hid (l7=false->v3=undef)) (fun A f l a wr h=>?_) ?_ ⟨false,false,false,false,undef,undef,undef,undef,0,rfl,rfl,(by simp only[Act.put,zD,zE,zF]),zh zr.drew,zh (zwK _ _ _ _ _ _ _ _),zh ⟨fun h=>(by cases h),fun h=>(by cases h),fun h=>(by cases h)⟩,zh (fun _=>rfl)⟩
 ·obtain⟨_,_,_,_,_,_,_,_,_,_,_,_,hb,_⟩:=h;exact⟨⟨zb hb.out z1,zb hb.out z2⟩,trivial⟩
 rintro A' hA f l a wr ⟨l2,l5,l6,l7,v8,v12,v13,v3,b3,hf,rfl,ha,af,HRW,HC,HU⟩;by_cases hall:(l2&&l5&&l6&&l7)=true
 ·left
  simp only[Bool.and_eq_true]at hall;obtain⟨⟨⟨rfl,rfl⟩,rfl⟩,rfl⟩:=hall;obtain⟨-,sM,h3⟩:=HC.out;obtain⟨rfl,-,-⟩:=sM rfl;obtain rfl:=h3 rfl;subst hf ha hA;have hrow:=HRW.out.row none;obtain⟨B8,c8,e8,-,-⟩:=zkd (HRW.out.row (some .inp));change v8=.slice B8 s.tin.length c8 at e8;obtain⟨lK,c12,e12,-,-⟩:=zkd (HRW.out.row (some .out));change v12=.slice lK s.tout.length c12 at e12;subst e8 e12;have hbx:=zlN hrow;have c0:wr.cell? ⟨b3,0,none⟩=some (.slice none 0 0):=zc hbx rfl;have c1:wr.cell? ⟨b3,1,none⟩=some (.slice none 0 0):=zc hbx rfl;have c2:wr.cell? ⟨b3,2,none⟩=some (.slice none 0 0):=zc hbx rfl;have cf:∀j,wr.frozen? ⟨b3,j,none⟩=false:=fun j=>zf hbx;refine zp 8 fun K hK=>?_;(try simp only[zQ]);go_simp;have hb3:w1.heap.size<=b3/\b3<wr.heap.size:=hrow.lt b3 rfl
  have hch:Chg (fun b=>b=b3) wr (((wr.setCell ⟨b3,0,none⟩ (.slice none 0 0)).setCell ⟨b3,1,none⟩ (.slice B8 s.tin.length c8)).setCell ⟨b3,2,none⟩ (.slice lK s.tout.length c12)) :=
   (((Chg.refl (fun b=>b=b3) wr).setCell (p:=⟨b3,0,none⟩) (.inl rfl) _).setCell (p:=⟨b3,1,none⟩) (.inl rfl) _).setCell (p:=⟨b3,2,none⟩) (.inl rfl) _
  have hh:=heap_setCell_same _ b3 2 _ _ (.slice lK s.tout.length c12) (heap_setCell_same _ b3 1 _ _ (.slice B8 s.tin.length c8) (heap_setCell_same wr b3 0 _ _ (.slice none 0 0) hbx));have aO:=zh (af.out.trans (hch.below af.out.size fun b e=>by omega));have hrw:=(HRW.out.upd none (r:=⟨boxV b3,34,3,1,[.slice none 0 0,.slice B8 s.tin.length c8,.slice lK s.tout.length c12]⟩) (hch.mono fun b _ e=>by subst e;rfl) (zsI hb3.1 hh) (fun b hb=>.inl hb)).upd (some .all) (r:=⟨.slice none 0 0,32,1,0,[]⟩) (Chg.refl _ _) (zqj _ _ _) (fun b hb=>by simp[Value.ownBlock]at hb);rw[zyC (fc:=fun _=>.slice none 0 0)]at hrw;have qB:=zh hrw;obtain⟨w2,hw2⟩:=zX (((wr.setCell ⟨b3,0,none⟩ (.slice none 0 0)).setCell ⟨b3,1,none⟩ (.slice B8 s.tin.length c8)).setCell ⟨b3,2,none⟩ (.slice lK s.tout.length c12));rw[hw2]at aO qB ⊢
  have aK:(fun w':World=>zv w' w.heap.size 1 (.slice B s.tin.length d)/\zv w' w.heap.size 2 (.slice D s.tout.length e)) w2:=⟨zb aO.out z1,zb aO.out z2⟩
  refine hK.out _ _ aK ?_;clear hK K hSS aK hch hh hrw hw2 hbx c0 c1 c2 cf hrow HRW af HU HC sM h3 h1;refine zd ?_;refine NoPanic.normal ?_;obtain⟨vi,nN⟩:=zX (Value.slice B8 s.tin.length c8);obtain⟨vo,uE⟩:=zX (Value.slice lK s.tout.length c12);rw[nN,uE]at qB;have wL:=zh nN;have HVO:=zh uE;clear nN uE;have q0:=zb aO.out z0;go_wp2_with fail;clear q0
  go_loopw [16] (fun i wr=>∃j:Nat,j<=s.cells.length/\i=.int .i64 j/\Hid (Below w1.heap.size w1 wr)/\∃vc fc,Hid (Rws wr w1.heap.size (zlP vc vi vo fc b3 s j))) (fun i _=>s.cells.length-(intOf i).toNat)
  case atStart=>exact⟨0,Nat.zero_le _,rfl,aO,_,_,qB⟩
  case round =>
   clear aO qB;obtain⟨j,hj,rfl,af,vc,fc,HRW⟩:=hrel;have y0:=zb af.out z0;by_cases hlt:j<s.cells.length
   ·have hj1:(j:Int)<(s.cells.length:Int):=by omega
    have hj0:(0:Int)<=(j:Int):=by omega
    obtain⟨a,l,Al,cl,rfl,Hl,hcl0,hlc,hrl⟩:=(HR1.out.later af.out).nd hlt;have zz:=zh hrl;have dV:=zh (show l.length<=LI by rw[<-Hl.out];exact HL.out.2.1 _ (List.getElem_mem hlt));have hbx:=zlN (HRW.out.row none);have x0:wr.cell? ⟨b3,0,none⟩=some vc:=zc hbx rfl;have hz0:wr.frozen? ⟨b3,0,none⟩=false:=zf hbx;obtain⟨Av,cv,bQ,-⟩:=zkd (HRW.out.row (some .all));change vc=.slice Av j cv at bQ;subst bQ;have hS0:zU wr.drew/\(fun w':World=>zv w' b3 0 (.slice Av j cv)) wr.drew:=⟨trivial,x0⟩
    obtain⟨i0,hi0,hq0,hq1,hq2⟩:=info_parts zsw;have bJ:=zh (zkD l Al cl Any wr.drew (zz.out.later zr.drew) dV.out);go_upto_region 5 with fail;refine wp_region_noPanic ?_;refine zkk zU (fun w':World=>zv w' b3 0 (.slice Av j cv)) 7 (by kernel_rfl) ?_;refine zT 0 hS0 ?_;refine zJ 1 hS0 ?_;refine zT 2 hS0 ?_;have hsz:=af.out.size;have had:Calls Tryz.prog 48 [.slice Al l.length cl].toArray wr.drew fun e w'=>∃v,e=.returned v/\(w'.ownsRow wr.heap.size 3 1 v l.length (zkf l)/\Below wr.heap.size wr w') :=
     bJ.out.mono fun e w' ⟨v,h1,h2,_,h4⟩=>⟨v,h1,h2,zkb (zs wr).drew h4⟩
    refine zo 3 fun K hK=>?_;refine zke (by rfl) (.func 48) [.tmp 22] _ (by rfl) 48 _ zm3 (by rfl) _ (by rfl) _ had ?_;rintro v8 wb ⟨ho,hbb⟩;have hd1:=HRW.out.upd (some (.el j)) (r:=⟨v8,3,1,l.length,zkf l⟩) (Chg.of_below hbb) (zk6 ho hsz) (fun b hb=>.inr (ho.lt b hb).1);have HD1:=zh hd1;have dA:=zh hbb;have hS2:zU wb/\(fun w':World=>zv w' b3 0 (.slice Av j cv)) wb:=⟨trivial,zb dA.out x0⟩
    obtain⟨A8,mR,rfl,-⟩:=zkd ho;refine hK.out _ _ hS2 ?_;clear hK K hd1 ho hS0 hbb had;(try simp only[zQ]);have h1:=zyc;refine zo 4 fun K hK=>?_;(try simp only[zA,zB,zC]);go_simp;have iG:=zh (show Below wr.heap.size wr (wb.alloc (.cells #[.slice A8 l.length mR] 32))from zkc dA.out _);have HD2:=zh (HD1.out.later (show Below wb.heap.size wb (wb.alloc (.cells #[.slice A8 l.length mR] 32))from zkc zr _));have aI:=zh (show(wb.alloc (.cells #[.slice A8 l.length mR] 32)).heap[wb.heap.size]?=some (.cells #[.slice A8 l.length mR] 32 (0,0))from heap_alloc_new wb _);have yO:zU (wb.alloc (.cells #[.slice A8 l.length mR] 32))/\(fun w':World=>zv w' b3 0 (.slice Av j cv)) (wb.alloc (.cells #[.slice A8 l.length mR] 32)):=⟨trivial,zb iG.out x0⟩
    obtain⟨wc,hwc⟩:=zX ((wb.alloc (.cells #[.slice A8 l.length mR] 32)));rw[hwc]at iG HD2 aI yO ⊢;refine hK.out _ _ yO ?_;clear hK K hwc hS2 HD1;(try simp only[zQ]);have oG:=(zkb af.out iG.out).size;have hrow:=HD2.out.row (some .all);rw[zkj (by simp)]at hrow;change wc.ownsRow w1.heap.size 32 1 (.slice Av j cv) j ((List.range j).map fc)at hrow;refine zo 5 fun K hK=>?_;refine zkR (by rfl) (.tmp 21) (.tmp 24) 31 (by rfl) w1.heap.size 32 i0 _ 1 24 Tryz.underlying31 hi0 hq0 hq1 hq2 rfl (by decide) (.slice Av j cv) j ((List.range j).map fc) (by rfl) hrow ⟨wb.heap.size,0,none⟩ 1 1 [.slice A8 l.length mR] (by rfl) rfl (fun q u hq=>by
     match q,hq with
     | 0,hq=>injection hq with hq;subst hq;exact zc aI.out rfl) (fun u hu=>by simp at hu;subst hu;rfl) (by unfold maxLen;omega) (by omega) oG (fun vd wd ho hg aR=>?_)
    have hd3:=HD2.out.upd (some .all) (r:=⟨vd,32,1,j+1,(List.range j).map fc++[.slice A8 l.length mR]⟩) ((Chg.row hg).mono fun b _ hb=>hb) ho (fun b hb=>by
     rcases aR with h5|h5
     ·exact .inl (h5▸hb)
     ·exact .inr (by rw[h5]at hb;injection hb with hb;omega))
    have HD3:=zh hd3;have hav:∀g,(Value.slice Av j cv).ownBlock=some g->(zlP (.slice Av j cv) vi vo fc b3 s j (some .all)).v.ownBlock=some g:=fun g e=>e;have hsep:∀g,(Value.slice Av j cv).ownBlock=some g->g≠b3:=fun g e h=>HRW.out.sep (some .all) none g (by simp) e (by rw[h];rfl);have hlo:∀g,(Value.slice Av j cv).ownBlock=some g->w1.heap.size<=g:=fun g e=>(HRW.out.lt (some .all) g e).1;have dD:Chg (fun b=>(Value.slice Av j cv).ownBlock=some b) wc wd:=Chg.row hg;have jl:=zh (show Below w1.heap.size w1 wd from(zkb af.out iG.out).grown hg oG (fun g e=>hlo g e));have jP:=zlN (HD3.out.row none);have e0:wd.cell? ⟨b3,0,none⟩=some (.slice Av j cv):=zc jP rfl;have ez:wd.frozen? ⟨b3,0,none⟩=false:=zf jP;have hab:a.block<w1.heap.size:=by
     obtain⟨a',_,_,e',_,hc',_⟩:=HR1.out j hlt;injection e' with e';subst e';have:=World.block_lt_of_cell? w1 _ hc';rwa[zkq]at this
    have jr:zU wd/\(fun w':World=>zv w' b3 0 (.slice Av j cv)) wd:=⟨trivial,e0⟩
    have hd4:=HD3.out.set none (g:=b3) (o:=0) (by rfl) (by show 0<3;decide) vd;have hd5:Rws (wd.setCell ⟨b3,0,none⟩ vd) w1.heap.size (zlP vd vi vo (fun i=>if i=j then .slice A8 l.length mR else fc i) b3 s (j+1)):=by
     rw[<-zwe (.slice Av j cv) vd vi vo fc b3 s j l (.slice A8 l.length mR) (by rw[List.getD_eq_getElem?_getD,List.getElem?_eq_getElem hlt];exact Hl.out)];exact hd4
    have HD5:=zh hd5;have hb3lt:=(HD3.out.lt none b3 rfl)
    have xq:=zh (show Below w1.heap.size w1 (wd.setCell ⟨b3,0,none⟩ vd)from jl.out.trans ((((Chg.refl (fun b=>b=b3) wd).setCell (p:=⟨b3,0,none⟩) (.inl rfl) vd)).below jl.out.size fun b e=>by omega));obtain⟨Ad,cd',rfl,-⟩:=zkd ho;refine hK.out _ _ jr ?_;clear hK K hd3 hd4 hd5 ho hg aR hrow yO dD hav hsep hlo jP;(try simp only[zQ]);refine zo 6 fun K hK=>?_;(try simp only[zA,zB,zC]);go_simp;refine hK.out _ _ jr ?_;clear hK K;(try simp only[zQ]);refine zp 7 fun K hK=>?_;(try simp only[zA,zB,zC]);go_simp;refine hK.out _ _ trivial ?_;clear hK K;(try simp only[zQ]);refine zd ?_;refine NoPanic.normal ?_;go_wp2_with fail
    go_roundw
    case rel=>exact⟨j+1,by omega,by go_num,xq,_,_,HD5⟩
    case measure=>simp[intOf];omega
   ·obtain rfl:j=s.cells.length:=by omega
    have hj1:¬ (s.cells.length:Int)<(s.cells.length:Int):=by omega
    have hbx:=zlN (HRW.out.row none);have x0:wr.cell? ⟨b3,0,none⟩=some vc:=zc hbx rfl;have x1:wr.cell? ⟨b3,1,none⟩=some vi:=zc hbx rfl;have x2:wr.cell? ⟨b3,2,none⟩=some vo:=zc hbx rfl;obtain⟨Av,cv,bQ,-⟩:=zkd (HRW.out.row (some .all));change vc=.slice Av s.cells.length cv at bQ;subst bQ;rw[<-wL.out]at x1;rw[<-HVO.out]at x2;have hk3:=zka gu.out af.out;have q0:wr.cell? ⟨w.heap.size+1,0,none⟩=some (.slice none 0 0):=zc hk3 rfl;have q1:wr.cell? ⟨w.heap.size+1,1,none⟩=some (.slice none 0 0):=zc hk3 rfl;have q2:wr.cell? ⟨w.heap.size+1,2,none⟩=some (.slice none 0 0):=zc hk3 rfl;have cf:∀j,wr.frozen? ⟨w.heap.size+1,j,none⟩=false:=fun j=>zf hk3;have fM:=zh (zpE HRW.out);have HK3E:=zh hk3;clear hbx hk3 HRW;go_wp2_with fail
    have hch:Chg (fun b=>b=w.heap.size+1) wr (((wr.setCell ⟨w.heap.size+1,0,none⟩ (.slice Av s.cells.length cv)).setCell ⟨w.heap.size+1,1,none⟩ (.slice B8 s.tin.length c8)).setCell ⟨w.heap.size+1,2,none⟩ (.slice lK s.tout.length c12)) :=
     (((Chg.refl (fun b=>b=w.heap.size+1) wr).setCell (p:=⟨w.heap.size+1,0,none⟩) (.inl rfl) _).setCell (p:=⟨w.heap.size+1,1,none⟩) (.inl rfl) _).setCell (p:=⟨w.heap.size+1,2,none⟩) (.inl rfl) _
    have hh:=heap_setCell_same _ (w.heap.size+1) 2 _ _ (.slice lK s.tout.length c12) (heap_setCell_same _ (w.heap.size+1) 1 _ _ (.slice B8 s.tin.length c8) (heap_setCell_same wr (w.heap.size+1) 0 _ _ (.slice Av s.cells.length cv) HK3E.out));obtain⟨w9,aP⟩:=zX (((wr.setCell ⟨w.heap.size+1,0,none⟩ (.slice Av s.cells.length cv)).setCell ⟨w.heap.size+1,1,none⟩ (.slice B8 s.tin.length c8)).setCell ⟨w.heap.size+1,2,none⟩ (.slice lK s.tout.length c12));rw[aP]at hch hh ⊢;have t0:w9.cell? ⟨w.heap.size+1,0,none⟩=some (.slice Av s.cells.length cv):=zc hh (by simp);have t1:w9.cell? ⟨w.heap.size+1,1,none⟩=some (.slice B8 s.tin.length c8):=zc hh (by simp);have t2:w9.cell? ⟨w.heap.size+1,2,none⟩=some (.slice lK s.tout.length c12):=zc hh (by simp)
    refine bodyPost_ret (v:=.agg #[.slice Av s.cells.length cv,.slice B8 s.tin.length c8,.slice lK s.tout.length c12]) (by simp[results,Tryz.results23,go_sem,t0,t1,t2]) rfl ⟨_,rfl,?_,(zkb HB1.out af.out).trans (hch.below (zkb HB1.out af.out).size fun b e=>by omega)⟩;have hrw:=fM.out.chg hch (fun i b hb e=>by have:=(fM.out.lt i b hb).1;omega);rw[<-wL.out,<-HVO.out]at hrw;exact⟨_,_,_,_,rfl,hrw.mono (by omega),HI.out⟩
 ·right
  have bK:=HC.out;have hcc:(l5=true->l2=true)/\(l6=true->l2=true/\l5=true):=⟨bK.1,fun h=>(bK.2.1 h).2⟩
  refine⟨f-1,?_,?_,?_⟩
  ·clear HC bK HRW HU ha af hcc;subst hf;revert hall;revert l2 l5 l6 l7
   decide
  ·clear HC bK HRW HU ha af hf;revert hall hcc;revert l2 l5 l6 l7
   decide +kernel
  intro i hi;have hcase:(i=2/\l2=false)\/(i=5/\l5=false/\l2=true)\/(i=6/\l6=false/\l2=true/\l5=true)\/(i=7/\l7=false):=by
   refine of_decide_eq_true ((List.all_eq_true (p:=fun i=>decide ((i=2/\l2=false)\/(i=5/\l5=false/\l2=true)\/(i=6/\l6=false/\l2=true/\l5=true)\/(i=7/\l7=false)))).1 ?_ i hi);clear HC bK HRW HU ha af hf hi;revert hall hcc;revert l2 l5 l6 l7
   decide +kernel
  clear hi hall;subst ha hA;rcases hcase with⟨rfl,rfl⟩|⟨rfl,rfl,rfl⟩|⟨rfl,rfl,rfl,rfl⟩|⟨rfl,rfl⟩
  ·refine wpOp_step rfl (fun K' au=>?_);have hK:=zh au;clear au;have hsz:=af.out.size;have had:Calls Tryz.prog 48 [.slice B s.tin.length d].toArray wr fun e w'=>∃v,e=.returned v/\(w'.ownsRow wr.heap.size 3 1 v s.tin.length (zkf s.tin)/\Below wr.heap.size wr w') :=
    (zkD s.tin B d Any wr (HR2.out.later af.out) HL.out.2.2.1).mono fun e w' ⟨v,h1,h2,_,h4⟩=>⟨v,h1,h2,h4⟩
   refine zke (by rfl) (.func 48) [.tmp 7] _ (by rfl) 48 _ zm3 (by rfl) _ (by rfl) _ had ?_;rintro v' w' ⟨ho,hb⟩;obtain rfl:l6=false:=by
    rcases l6 with _|_
    ·rfl
    ·exact absurd (hcc.2 rfl).1 (by decide)
   obtain rfl:l5=false:=by
    rcases l5 with _|_
    ·rfl
    ·exact absurd (hcc.1 rfl) (by decide)
   have hrw:=HRW.out.upd (some .inp) (r:=⟨v',3,1,s.tin.length,zkf s.tin⟩) (Chg.of_below hb) (zk6 ho hsz) (fun b hb=>.inr (ho.lt b hb).1);rw[k_2]at hrw;exact hK.out _ _ ⟨true,false,false,l7,_,v12,v13,v3,b3,(by subst hf;simp<;>omega),rfl,(by simp only[zQ]),zh (zkb af.out hb),zh hrw,zh ⟨fun h=>(by cases h),fun h=>(by cases h),bK.2.2⟩,HU⟩
  ·refine wpOp_step rfl (fun K' au=>?_);have hK:=zh au;clear au;have hsz:=af.out.size;have had:Calls Tryz.prog 48 [.slice D s.tout.length e].toArray wr fun e w'=>∃v,e=.returned v/\(w'.ownsRow wr.heap.size 3 1 v s.tout.length (zkf s.tout)/\Below wr.heap.size wr w') :=
    (zkD s.tout D e Any wr (HR3.out.later af.out) HL.out.2.2.2).mono fun e w' ⟨v,h1,h2,_,h4⟩=>⟨v,h1,h2,h4⟩
   refine zke (by rfl) (.func 48) [.tmp 10] _ (by rfl) 48 _ zm3 (by rfl) _ (by rfl) _ had ?_;rintro v' w' ⟨ho,hb⟩;obtain rfl:l6=false:=by
    rcases l6 with _|_
    ·rfl
    ·exact absurd (hcc.2 rfl).2 (by decide)
   have hrw:=HRW.out.upd (some .out) (r:=⟨v',3,1,s.tout.length,zkf s.tout⟩) (Chg.of_below hb) (zk6 ho hsz) (fun b hb=>.inr (ho.lt b hb).1);rw[k_5]at hrw;exact hK.out _ _ ⟨true,true,false,l7,v8,_,v13,v3,b3,(by subst hf;simp<;>omega),rfl,(by simp only[zQ]),zh (zkb af.out hb),zh hrw,zh ⟨fun _=>rfl,fun h=>(by cases h),bK.2.2⟩,HU⟩
  ·refine wpOp_step rfl (fun K' au=>?_);have hK:=zh au;clear au;obtain⟨B8,c8,e8,-,-⟩:=zkd (HRW.out.row (some .inp));change v8=.slice B8 s.tin.length c8 at e8;obtain⟨lK,c12,e12,-,-⟩:=zkd (HRW.out.row (some .out));change v12=.slice lK s.tout.length c12 at e12;subst e8 e12;(try simp only[zQ]);go_simp;exact hK.out _ _ ⟨true,true,true,l7,_,_,_,v3,b3,(by subst hf;simp<;>omega),rfl,(by simp only[Act.put,zD,zE,zF]),af,HRW,zh ⟨fun _=>rfl,fun _=>⟨rfl,rfl,rfl⟩,bK.2.2⟩,HU⟩
  ·refine wpOp_step rfl (fun K' au=>?_);have hK:=zh au;clear au;obtain rfl:=HU.out rfl;(try simp only[zQ]);go_simp;have hsz:=af.out.size;have hrw:=HRW.out.upd none (r:=⟨boxV wr.heap.size,34,3,1,[.slice none 0 0,.slice none 0 0,.slice none 0 0]⟩) (W':=wr.alloc (.cells #[.slice none 0 0,.slice none 0 0,.slice none 0 0] 34)) (Chg.of_below (zkc zr _)) (zuI wr _ hsz _ _ _ _) (fun b hb=>.inr (by simp[Value.ownBlock]at hb;omega));rw[k_7]at hrw;exact hK.out _ _ ⟨l2,l5,l6,true,v8,v12,v13,_,wr.heap.size,(by subst hf;simp<;>omega),rfl,(by simp only[Act.put,zD,zE,zF]),zh (zkc af.out _),zh hrw,zh ⟨bK.1,bK.2.1,fun _=>rfl⟩,zh (fun h=>(by cases h))⟩
def Nz(o:Out):Prop:=o ≠ .err 0
theorem Nz.bind{o:Out}{f:RS->Out}(h:Nz o)(hf:∀r,Nz (f r)):Nz (o.bind f):=by
 cases o with
 | gas=>exact fun e=>by cases e
 | err x=>exact h
 | ok r=>exact hf r
theorem Nz.ok(r:RS):Nz (.ok r):=fun e=>by cases e
theorem Nz.gas:Nz .gas:=fun e=>by cases e
theorem Nz.step(F:Int)(r:RS):Nz (zkF F r):=by
 unfold zkF
 split
 ·intro e;injection e with e;omega
 ·exact Nz.ok _
theorem Nz.store(r:RS)(R:Int×ST):Nz (zkl r R):=by
 unfold zkl
 split
 ·rename_i h;intro e;injection e with e;exact h e
 ·exact Nz.ok _
theorem Nz.val{t:T}{r:RS}{f:Int->RS->Out}(hf:∀x,Nz (f x r)):Nz (valO t r f):=by
 unfold valO
 split
 ·rename_i h;intro e;injection e with e;exact h e
 ·exact hf _
theorem Nz.holds{F:Int}{t:T}{r:RS}{f:Bool->RS->Out}(hf:∀b r,Nz (f b r)):Nz (zlh F t r f):=(Nz.step F r).bind fun r=>Nz.val fun x=>hf _ _
theorem Nz.assert(F:Int)(t:T)(b:Bool)(r:RS):Nz (zkx F t b r):=Nz.holds fun b' r=>by
 split
 ·exact Nz.ok _
 ·intro e;injection e with e;omega
theorem Nz.body{f:T->RS->Out}:∀(l:List T) (r:RS),(∀t∈l,∀r,Nz (f t r))->Nz (zld f l r)
 | [],r,_=>Nz.ok r
 | t::ts,r,h=>(h t (List.mem_cons_self ..) r).bind fun r=>Nz.body ts r fun u hu=>h u (List.mem_cons_of_mem _ hu)
theorem Nz.loop{F:Int}{f:T->RS->Out}{entry test:T}{l1 l2:List T}(h1:∀t∈l1,∀r,Nz (f t r))(h2:∀t∈l2,∀r,Nz (f t r)):∀(m:Nat) (r:RS),Nz (zmf F f entry test l1 l2 m r)
 | 0,_=>Nz.gas
 | m+1,r=>by
  rw[zmf];refine(Nz.body l1 r h1).bind fun r=>Nz.holds fun b r=>?_
  split
  ·exact Nz.ok _
  ·exact(Nz.body l2 r h2).bind fun r=>(Nz.assert F entry false r).bind fun r=>Nz.loop h1 h2 m r
theorem znG{G:List PR->T->Prop}(hG:GC G){prs:List PR}{F:Int}:∀(g:Nat) (back:Bool) (t:T) (r:RS),G prs t->Nz (zkB prs F g back t r)
 | 0,_,_,_,_=>Nz.gas
 | g+1,back,t,r,h=>by
  have hb:∀back (b:T) r,(∀u∈b.ks,G prs u)->Nz (zld (zkB prs F g back) (blkL back b) r):=fun back b r hu=>Nz.body _ r fun u hm r=>znG hG g back u r (hu u (zlG hm));rw[zkB]
  split
  ·rename_i hk;obtain⟨-,h1,h2⟩:=hG.two _ _ h (.inl hk);refine Nz.holds fun yes r=>Nz.bind ?_ fun r=>Nz.assert _ _ _ _
   split
   ·exact hb _ _ _ h1
   ·exact hb _ _ _ h2
  ·split
   ·rename_i hk;obtain⟨-,h1,h2⟩:=hG.two _ _ h (.inr hk);exact(Nz.assert _ _ _ _).bind fun r=>Nz.loop (fun u hm r=>znG hG g back u r (h1 u (zlG hm))) (fun u hm r=>znG hG g back u r (h2 u (zlG hm))) g r
   ·split
    ·rename_i hk;obtain⟨-,h1⟩:=hG.loc _ _ h hk;exact(Nz.step _ _).bind fun r=>Nz.val fun x=>(Nz.store _ _).bind fun r=>(hb _ _ _ h1).bind fun r=>(Nz.step _ _).bind fun r=>Nz.val fun x=>Nz.store _ _
    ·split
     ·rename_i hk;obtain⟨-,h1⟩:=hG.stk _ _ h hk;exact(Nz.step _ _).bind fun r=>(Nz.store _ _).bind fun r=>(hb _ _ _ h1).bind fun r=>(Nz.step _ _).bind fun r=>Nz.store _ _
     ·split
      ·rename_i hk;obtain⟨i,q,hi,hq,h1⟩:=hG.cal _ _ h hk;rw[hi];dsimp only;rw[getD_some hq];exact(Nz.step _ _).bind fun r=>(Nz.store _ _).bind fun r=>(hb _ _ _ h1).bind fun r=>(Nz.step _ _).bind fun r=>Nz.store _ _
      ·exact(Nz.step _ _).bind fun r=>Nz.store _ _
theorem zwF{G:List PR->T->Prop}(hG:GC G){prs:List PR}{F:Int}{g:Nat}{back:Bool}{b:T}{r:RS}(h:∀u∈b.ks,G prs u):Nz (runO prs F g back b r):=Nz.body _ r fun u hm r=>znG hG g back u r (h u (zlG hm))
theorem RI.chgK{C:RC}{lo hi:Nat}{W W':World}{r:RS}(hC:(C.plus lo hi).Ok)(h:RI (C.plus lo hi) W r)(hc:Chg (fun b=>lo<=b/\b<hi) W W')(hlo:C.w.heap.size<=lo):RI (C.plus lo hi) W' r:=by
 have hkb:∀b,lo<=b/\b<hi->(C.plus lo hi).kb b:=fun b hb=>.inr hb;refine⟨h.ks.chg hc fun b _ hb=>⟨Nat.le_trans hlo hb.1,.inr (.inl (hkb b hb))⟩,hc.keep h.box fun hb=>hC.rb.2 (hkb _ hb),znW h.ent fun b hb=>?_,h.el,h.en,h.n,h.fb⟩;exact hc.block b (h.ent.lt b hb).2 fun hb'=>hC.ev.2 b hb (hkb _ hb')
end
end Go.Proofs.YtghbhbdnkjjnnaaGreat
