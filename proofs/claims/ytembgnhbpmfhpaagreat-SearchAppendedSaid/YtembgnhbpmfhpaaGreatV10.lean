/-
  Texts of the proof, put together without their remarks: ScV, Fa, ScK, Gf, Nz, Ib.
-/
import Derived.Test.YtembgnhbpmfhpaaGreatV9
set_option linter.unusedSimpArgs false
set_option linter.unusedVariables false
set_option maxHeartbeats 8000000
set_option maxRecDepth 100000
namespace Go.Proofs.YtembgnhbpmfhpaaGreat
open Tryz
section
open Go Go.RowKit
def cntA(ps:List PR)(s:ByteArray)(l:Nat):Nat->List T->List VD->Nat
 | _,[],_=>0
 | i,t::ts,vs=>one1 (argE ps s l i t.s vs)+cntA ps s l (i+1) ts vs
mutual
/-- How many faults scope.visit reports. -/
def cntV(ps:List PR):T->List VD->Nat
 | .nd k _ s ks,vs=>one1 (zlr ps k s ks.length vs)+(if k=50\/k=51 then cntA ps s ks.length 0 ks vs else cntK ps k s 0 ks vs)
def cntK(ps:List PR)(k:Int)(s:ByteArray):Nat->List T->List VD->Nat
 | _,[],_=>0
 | i,t::ts,vs=>cntV ps t (zma k s i vs)+cntK ps k s (i+1) ts vs
end
theorem zoF(ps:List PR)(s:ByteArray)(l:Nat)(vs:List VD):∀(a b:List T) (i:Nat),cntA ps s l i (a++b) vs=cntA ps s l i a vs+cntA ps s l (i+a.length) b vs
 | [],b,i=>by simp[cntA]
 | t::ts,b,i=>by simp[cntA,zoF ps s l vs ts b (i+1),Nat.add_assoc,Nat.add_comm 1 ts.length]
theorem zm4(ps:List PR)(k:Int)(s:ByteArray)(vs:List VD):∀(a b:List T) (i:Nat),cntK ps k s i (a++b) vs=cntK ps k s i a vs+cntK ps k s (i+a.length) b vs
 | [],b,i=>by simp[cntK]
 | t::ts,b,i=>by simp[cntK,zm4 ps k s vs ts b (i+1),Nat.add_assoc,Nat.add_comm 1 ts.length]
theorem zqJ(ps:List PR)(s:ByteArray)(l:Nat)(vs:List VD){ks:List T}{j:Nat}(h:j<ks.length):cntA ps s l 0 (ks.take (j+1)) vs=cntA ps s l 0 (ks.take j) vs+one1 (argE ps s l j ks[j].s vs):=by
 rw[List.take_succ_eq_append_getElem h,zoF];have:(ks.take j).length=j:=by simp;omega
 simp[cntA,this]
theorem zu4(ps:List PR)(k:Int)(s:ByteArray)(vs:List VD){ks:List T}{j:Nat}(h:j<ks.length):cntK ps k s 0 (ks.take (j+1)) vs=cntK ps k s 0 (ks.take j) vs+cntV ps ks[j] (zma k s j vs):=by
 rw[List.take_succ_eq_append_getElem h,zm4];have:(ks.take j).length=j:=by simp;omega
 simp[cntK,this]
theorem zmZ(e:Int):one1 e<=1:=by unfold one1;split<;>omega
theorem zrU(t:T):1<=size t:=by cases t;rw[size];omega
theorem zpU(ps:List PR)(s:ByteArray)(l:Nat)(vs:List VD):∀(ks:List T) (i:Nat),cntA ps s l i ks vs<=zkR ks
 | [],i=>by simp[cntA]
 | t::ts,i=>by
  have h1:=zpU ps s l vs ts (i+1);have h2:=zmZ (argE ps s l i t.s vs);have h3:=zrU t;simp only[cntA,zkR];omega
theorem zrs(ps:List PR)(k:Int)(s:ByteArray):∀(ks:List T),(∀t∈ks,∀vs,cntV ps t vs<=size t)->∀(i:Nat) (vs:List VD),cntK ps k s i ks vs<=zkR ks
 | [],_,i,vs=>by simp[cntK]
 | t::ts,h,i,vs=>by
  have h1:=zrs ps k s ts (fun u hu=>h u (by simp[hu])) (i+1) vs;have h2:=h t (by simp) (zma k s i vs);simp only[cntK,zkR];omega
theorem zu1(ps:List PR)(t:T):∀vs,cntV ps t vs<=size t:=by
 induction t using T.ind with
 | _ k n s ks ih =>
 intro vs;rw[cntV,size];have h1:=zmZ (zlr ps k s ks.length vs);have h2:=zpU ps s ks.length vs ks 0;have h3:=zrs ps k s ks ih 0 vs
 split<;>omega
theorem zlN:∀(ks:List T) (j:Nat),zkR (ks.take j)<=zkR ks
 | [],j=>by simp[zkR]
 | t::ts,0=>by simp[zkR]
 | t::ts,j+1=>by have:=zlN ts j;simp only[List.take_succ_cons,zkR];omega
theorem zs3(k:Int)(s:ByteArray)(i:Nat)(vs:List VD):(zma k s i vs).length<=vs.length+1:=by unfold zma;split;simp;split<;>simp
theorem PV.keep{w w':World}{S S':Nat->Prop}{p:PG}{v:Value}(h:PV w S p v)(hS:∀b,S b->b<w.heap.size->S' b)(hk:∀b,S b->b<w.heap.size->w'.heap[b]?=w.heap[b]?):PV w' S' p v :=
 let ⟨A1,c1,A2,c2,A3,c3,e,h⟩:=h;⟨A1,c1,A2,c2,A3,c3,e,h.keep hS hk⟩
structure VsI(Rd:World->Prop)(n0 fb:Nat)(Wb:World)(pv:Value)(N:Nat)(wr:World)(pv':Value):Prop where
 rd:Rd wr
 fs:FS wr n0 fb N pv'
 own:∀b,pv'.ownBlock=some b->pv.ownBlock=some b\/Wb.heap.size<=b
 chg:Chg (fun b=>b=fb\/pv.ownBlock=some b) Wb wr
theorem VsI.step{f:FuncId}{cap:Array Value}{Rd:World->Prop}{n0 fb:Nat}{Wb wr w5 W6:World}{pv pv':Value}{N N':Nat}{e:Ending}(hr:RepC f cap Rd n0 fb)(h:VsI Rd n0 fb Wb pv N wr pv')(hb:Below wr.heap.size wr w5)(hp:RepP w5 n0 fb pv' N' e W6) :
  ∃jg,VsI Rd n0 fb Wb pv N' W6 jg:=by
 obtain⟨_,jg,hfs,ak,hc⟩:=hp;have sS:=h.fs.later hb;have hz:=h.chg.size;have oO:=hb.size;refine⟨jg,hr.keep w5 W6 pv' N (hr.keep wr w5 pv' N h.rd h.fs (Chg.of_below hb)) sS hc,hfs,fun b hb'=>?_,(h.chg.trans (Chg.of_below hb)).trans2 hc fun b hlt hh=>?_⟩
 ·rcases ak b hb' with h1|h1
  ·exact h.own b h1
  ·exact .inr (by omega)
 ·rcases hh with hh|hh
  ·exact .inl hh
  ·rcases h.own b hh with h1|h1
   ·exact .inr h1
   ·omega
theorem VsI.rep{Rd:World->Prop}{n0 fb:Nat}{W Wb w:World}{pw pv':Value}{N':Nat}{e:Ending}(h:VsI Rd n0 fb Wb pw N' w pv')(hb:Below W.heap.size W Wb)(he:∃v,e=.returned v):RepP W n0 fb pw N' e w :=
 ⟨he,pv',h.fs,fun b hh=>(h.own b hh).imp id fun h1=>by have:=hb.size;omega,(Chg.of_below hb).trans h.chg⟩
def IsW(x:Value)(w:World)(v:Value)(w':World):Prop:=v=x/\Below w.heap.size w w'
theorem znQ{P:Program}{f:FuncId}{args:Array Value}{w:World}{x:Value}(h:Calls P f args w fun e w'=>e=.returned x/\Below w.heap.size w w'):Calls P f args w fun e w'=>∃v,e=.returned v/\IsW x w v w' :=
 h.mono fun _ _ ⟨he,hb⟩=>⟨_,he,rfl,hb⟩
def RepV(W:World)(n0 fb:Nat)(pv:Value)(N':Nat)(_:Value)(W':World):Prop:=RepP W n0 fb pv N' (.returned undef) W'
theorem zmy{P:Program}{f:FuncId}{args:Array Value}{W:World}{n0 fb N':Nat}{pv:Value}(h:Calls P f args W (RepP W n0 fb pv N')):Calls P f args W fun e w'=>∃v,e=.returned v/\RepV W n0 fb pv N' v w' :=
 h.mono fun _ _ ⟨⟨v,he⟩,hp⟩=>⟨v,he,⟨_,rfl⟩,hp⟩
def zKz(w:World)(S:Nat->Prop)(vs:List VD)(v:Value)(w':World):Prop:=∃A' c',v=.slice A' vs.length c'/\RowV w' (fun b=>S b\/w.heap.size<=b) A' vs/\vs.length<=c'/\Below w.heap.size w w'
theorem ztR{P:Program}{f:FuncId}{args:Array Value}{w:World}{S:Nat->Prop}{vs:List VD}(h:Calls P f args w (zxs w S vs)):Calls P f args w fun e w'=>∃v,e=.returned v/\zKz w S vs v w' :=
 h.mono fun _ _ ⟨A,c,he,hn⟩=>⟨_,he,A,c,rfl,hn⟩
theorem zy2:IsFn prog 113 f113:=⟨func113,by kernel_rfl,by kernel_rfl⟩
theorem zpe:IsFn prog 115 f115:=⟨func115,by kernel_rfl,by kernel_rfl⟩
theorem zro:IsFn prog 114 f114:=⟨func114,by kernel_rfl,by kernel_rfl⟩
theorem zy0:IsFn prog 84 f84:=⟨func84,by kernel_rfl,by kernel_rfl⟩
theorem zyW:IsFn prog 73 f73:=⟨func73,by kernel_rfl,by kernel_rfl⟩
theorem znB(f:FuncId)(cap:Array Value)(Rd:World->Prop)(n0 fb:Nat)(hrep:RepC f cap Rd n0 fb)(p:PG)(t:T) :
  ∀(S:Nat->Prop) (vs:List VD) (A:Option Addr) (c:Nat) (q:List Int) (Aq:Option Addr) (cq N:Nat) (pw:Value) (W:World) (v1 v2:Value),Rd W->FS W n0 fb N pw->PV W S p v1->NV W S t v2->RowV W S A vs->vs.length<=c->RowI W S Aq q->q.length<=cq ->
   (∀b,S b->b<W.heap.size->¬ (b=fb\/pw.ownBlock=some b))->q.length+dep t<=50000->vs.length+dep t<=50000->N+size t<=1000000 ->
   Calls prog 73 #[v1,v2,.slice Aq q.length cq,.slice A vs.length c,.func (.func f) #[] cap] W (RepP W n0 fb pw (N+cntV p.prs t vs)):=by
 obtain⟨fn,hfn⟩:=hrep.fn;have bg:=zh hrep;clear hrep
 induction t using T.ind with
 | _ tk tn ts ks ih =>
 intro S vs A c q Aq cq N pw W v1 v2 hrd hfs hv1 hv2 hrow hlc hqr hqc hfar qN hdv hN;have xW:=zh ih;have hvv:=hv1;obtain⟨A1,c1,A2,c2,A3,c3,rfl,-⟩:=hv1;obtain⟨L1,hL1⟩:=zX (p.vs.length);obtain⟨L2,hL2⟩:=zX (p.prs.length);obtain⟨k,hk⟩:=zX (p.m.k);obtain⟨n,hn⟩:=zX (p.m.n);obtain⟨s,hs⟩:=zX (p.m.s);obtain⟨l3,hl3⟩:=zX (p.m.ks.length);rw[hL1,hL2,hk,hn,hs,hl3];rw[hL1,hL2,hk,hn,hs,hl3]at hvv;have xD:=zh hvv;clear ih hvv hL1 hL2 hk hn hs hl3;have iO:=zh hv2;obtain⟨B,tc,rfl,_,hlk,_,jQ⟩:=hv2.open_;simp only[T.k_nd,T.n_nd,T.s_nd,T.ks_nd]at *
 have aB:=zkJ hlk;rw[dep]at qN hdv;rw[size]at hN;have hksz:ks.length<=1000000:=by
  have:∀l:List T,l.length<=zkR l:=fun l=>by
   induction l with
   | nil=>simp
   | cons t ts ih=>have:=zrU t;simp only[List.length_cons,zkR];omega
  have:=this ks;omega
 have qf:=zh jQ;have af:=zh hrow;have nE:=zh hlc;have HQR:=zh hqr;have BP:=zh hqc;have oz:=zh hrd;have x8:=zh hfs;have HFAR:=zh hfar;have hlv:vs.length<=LV:=by unfold LV;omega
 have qx:=zh hlv;have hfl:=hfs.lt;have zm:=zh hfl;obtain⟨CC,Bo⟩:=zX (cntV p.prs (.nd tk tn ts ks) vs);rw[Bo];have aW:=zh Bo;obtain⟨E0,hE0⟩:=zX (zlr p.prs tk ts ks.length vs);have uN:=zh hE0;have hE1:=zmZ E0;clear jQ hrow hlc hqr hqc hrd hfs hfar hlk hlv hv2 hfl Bo hE0;go_enter func73,ntmps73;go_upto_region 1 with fail;have hbw:Below W.heap.size W ((W.alloc (.cells #[.slice A1 L1 c1,.slice A2 L2 c2,.int .u8 k,.int .i64 n,.string s,.slice A3 l3 c3] 43)).alloc (.cells #[.int .u8 tk,.int .i64 tn,.string ts,.slice B ks.length tc] 41)):=zkb (zkb zr _) _;have qO:=zke (heap_alloc_new W (.cells #[.slice A1 L1 c1,.slice A2 L2 c2,.int .u8 k,.int .i64 n,.string s,.slice A3 l3 c3] 43)) (.cells #[.int .u8 tk,.int .i64 tn,.string ts,.slice B ks.length tc] 41)
 have hbN:=heap_alloc_new (W.alloc (.cells #[.slice A1 L1 c1,.slice A2 L2 c2,.int .u8 k,.int .i64 n,.string s,.slice A3 l3 c3] 43)) (.cells #[.int .u8 tk,.int .i64 tn,.string ts,.slice B ks.length tc] 41);simp only[World.size_alloc]at hbN;obtain⟨Wb,tL⟩:=zX ((W.alloc (.cells #[.slice A1 L1 c1,.slice A2 L2 c2,.int .u8 k,.int .i64 n,.string s,.slice A3 l3 c3] 43)).alloc (.cells #[.int .u8 tk,.int .i64 tn,.string ts,.slice B ks.length tc] 41));rw[tL]at hbw qO hbN ⊢;have iI:=zh (show Wb.heap.size=W.heap.size+2 by rw[<-tL];simp);have fZ:=zh hbw;have HBP:=zh qO;have jZ:=zh hbN
 have fO:=zh (show ∀w':World,w'.heap[W.heap.size]?=Wb.heap[W.heap.size]?->w'.heap[W.heap.size+1]?=Wb.heap[W.heap.size+1]?->(fun w':World=>(zN6 w' W.heap.size (.slice A1 L1 c1) (.slice A2 L2 c2) (.int .u8 k) (.int .i64 n) (.string s) (.slice A3 l3 c3))/\zN4 w' (W.heap.size+1) (.int .u8 tk) (.int .i64 tn) (.string ts) (.slice B ks.length tc)) w' from fun w' h1 h2=>⟨box6 (h1.trans qO),box4 (h2.trans hbN)⟩)
 have lT:=zh (show ∀w':World,Chg (fun b=>b=fb\/pw.ownBlock=some b) Wb w'->(fun w':World=>(zN6 w' W.heap.size (.slice A1 L1 c1) (.slice A2 L2 c2) (.int .u8 k) (.int .i64 n) (.string s) (.slice A3 l3 c3))/\zN4 w' (W.heap.size+1) (.int .u8 tk) (.int .i64 tn) (.string ts) (.slice B ks.length tc)) w' from fun w' h=>fO.out w' (h.block _ (by have:=iI.out;omega) (fun hh=>by rcases hh with hh|hh;(have:=zm.out.1;omega);(have:=(zm.out.2 _ hh).2;omega))) (h.block _ (by have:=iI.out;omega) (fun hh=>by rcases hh with hh|hh;(have:=zm.out.1;omega);(have:=(zm.out.2 _ hh).2;omega))));have oK:=zh (show ∀w':World,Chg (fun b=>b=fb\/pw.ownBlock=some b) Wb w'->∀b,S b->b<W.heap.size->w'.heap[b]?=W.heap[b]? from fun w' h b hb hlt=>(h.block b (by have:=iI.out;omega) (HFAR.out b hb hlt)).trans (fZ.out.block b hlt))
 have hi0:VsI Rd n0 fb Wb pw N Wb pw:=⟨bg.out.keep W Wb pw N oz.out x8.out (Chg.of_below hbw),x8.out.later hbw,fun b hb=>.inl hb,Chg.refl _ _⟩
 have HI0:=zh hi0;clear tL hbw qO hbN hi0;have hdr:=(zs Wb).drew;have hSS:zW (fun w':World=>(zN6 w' W.heap.size (.slice A1 L1 c1) (.slice A2 L2 c2) (.int .u8 k) (.int .i64 n) (.string s) (.slice A3 l3 c3))/\zN4 w' (W.heap.size+1) (.int .u8 tk) (.int .i64 tn) (.string ts) (.slice B ks.length tc)) zU Wb.drew:=⟨lT.out _ (Chg.of_below hdr),trivial⟩
 refine wp_region_noPanic ?_;refine zG hSS 20 ?_;refine zT 0 hSS ?_;refine zT 1 hSS ?_;refine zT 2 hSS ?_;refine zT 3 hSS ?_;refine zT 4 hSS ?_;refine zT 5 hSS ?_;refine zT 6 hSS ?_;refine zo 7 fun K hK=>?_;refine zkf (by rfl) (.func 113) [.tmp 18,.tmp 19,.tmp 20] _ (by rfl) 113 _ zy2 (by rfl) _ (by rfl) _ (znQ (zuL p (.nd tk tn ts ks) vs A c S S S _ _ _ (xD.out.later (zka fZ.out hdr)) (iO.out.later (zka fZ.out hdr)) (af.out.later (zka fZ.out hdr)) qx.out)) ?_;rintro vq w2 ⟨rfl,au⟩;simp only[T.k_nd,T.s_nd,T.ks_nd];rw[uN.out];have b2:=zka hdr au;have aM:=zV hSS (lT.out _ (Chg.of_below b2)) trivial;refine hK.out _ _ aM ?_;clear hK K hSS;(try simp only[zQ]);refine zo 8 fun K hK=>?_
 refine zld (by rfl) (.tmp 14) [.tmp 15,.tmp 17,.tmp 21] _ (by rfl) f fn hfn cap (by rfl) _ (by rfl) _ (zmy (bg.out.call N pw E0 q Aq cq ts S w2 (bg.out.keep Wb w2 pw N HI0.out.rd HI0.out.fs (Chg.of_below b2)) (HI0.out.fs.later b2) ((HQR.out.later fZ.out).later b2) (by omega) (by omega))) ?_;rintro vq W3 hp3;obtain⟨pv3,hi3⟩:=HI0.out.step bg.out b2 hp3;have bO:=zV aM (lT.out _ hi3.chg) trivial;refine hK.out _ _ bO ?_;clear hK K aM;(try simp only[zQ]);refine zd ?_;refine NoPanic.normal ?_;obtain⟨⟨a0,a1,a2,a3,a4,a5⟩,b0,b1,b2',b3⟩:=bO.1;have HI3:=zh hi3;clear bO hi3 hp3 b2 au hdr HI0
 have HD:=zh (show ∀w':World,Chg (fun b=>b=fb\/pw.ownBlock=some b) Wb w'->PV w' (fun b=>S b/\b<W.heap.size) p _/\NV w' (fun b=>S b/\b<W.heap.size) (.nd tk tn ts ks) _/\RowV w' (fun b=>S b/\b<W.heap.size) A vs/\RowI w' (fun b=>S b/\b<W.heap.size) Aq q/\zlP w' (fun b=>S b/\b<W.heap.size) B ks from fun w' h=>⟨xD.out.keep (fun b hb hlt=>⟨hb,hlt⟩) (oK.out w' h),iO.out.keep (fun b hb hlt=>⟨hb,hlt⟩) (oK.out w' h),af.out.keep (fun b hb hlt=>⟨hb,hlt⟩) (oK.out w' h),HQR.out.keep (fun b hb hlt=>⟨hb,hlt⟩) (oK.out w' h),qf.out.keep (fun b hb hlt=>⟨hb,hlt⟩) (oK.out w' h)⟩);by_cases hcall:tk=50\/tk=51
 ·rcases hcall with rfl|rfl
  ·go_wp2_with fail
   go_loopw [34] (fun i wr=>∃(j:Nat) (pv':Value),j<=ks.length/\i=.int .i64 j/\VsI Rd n0 fb Wb pw (N+one1 E0+cntA p.prs ts ks.length 0 (ks.take j) vs) wr pv') (fun i _=>ks.length-(intOf i).toNat)
   case atStart=>exact⟨0,_,Nat.zero_le _,rfl,by simpa[cntA]using HI3.out⟩
   case round =>
    obtain⟨j,pv',hj,rfl,hinv⟩:=hrel;have ah:=zh hinv;clear HI3;by_cases hlt:j<ks.length
    ·obtain⟨-,-,-,-,jQ⟩:=HD.out wr hinv.chg;obtain⟨a,u,A4,c4,rfl,hsa,Hu,⟨q0,q1,q2,q3⟩,hnu⟩:=jQ.nd hlt;have xM:=zh hnu;clear hinv jQ hnu hsa;go_upto_region 6 with fail;have hbk:Below wr.heap.size wr (wr.alloc (.cells #[.int .u8 u.k,.int .i64 u.n,.string u.s,.slice A4 u.ks.length c4] 41)):=zkb zr _;have eD:=heap_alloc_new wr (.cells #[.int .u8 u.k,.int .i64 u.n,.string u.s,.slice A4 u.ks.length c4] 41);obtain⟨wk,hwk⟩:=zX (wr.alloc (.cells #[.int .u8 u.k,.int .i64 u.n,.string u.s,.slice A4 u.ks.length c4] 41));rw[hwk]at hbk eD ⊢;have fE:=zh (show wk.heap.size=wr.heap.size+1 by rw[<-hwk];simp);have aC:=zh hbk;have iy:=zh eD;clear hwk hbk eD
     have dN:=zh (show ∀w':World,Below wk.heap.size wk w'->(fun w':World=>(zN6 w' W.heap.size (.slice A1 L1 c1) (.slice A2 L2 c2) (.int .u8 k) (.int .i64 n) (.string s) (.slice A3 l3 c3)/\zN4 w' (W.heap.size+1) (.int .u8 50) (.int .i64 tn) (.string ts) (.slice (some a) ks.length tc))/\zN4 w' wr.heap.size (.int .u8 u.k) (.int .i64 u.n) (.string u.s) (.slice A4 u.ks.length c4)) w'/\zU w' from fun w' h=>⟨⟨lT.out w' (ah.out.chg.trans (Chg.of_below (zka aC.out h))),box4 ((h.block _ (by have:=fE.out;omega)).trans iy.out)⟩,trivial⟩);have hdr:=(zs wk).drew;have hSS:=dN.out _ hdr;refine wp_region_noPanic ?_
     refine zkl (fun w':World=>(zN6 w' W.heap.size (.slice A1 L1 c1) (.slice A2 L2 c2) (.int .u8 k) (.int .i64 n) (.string s) (.slice A3 l3 c3)/\zN4 w' (W.heap.size+1) (.int .u8 50) (.int .i64 tn) (.string ts) (.slice (some a) ks.length tc))/\zN4 w' wr.heap.size (.int .u8 u.k) (.int .i64 u.n) (.string u.s) (.slice A4 u.ks.length c4)) zU 40 (by kernel_rfl) ?_;refine zT 0 hSS ?_;refine zT 1 hSS ?_;refine zT 2 hSS ?_;refine zT 4 hSS ?_;refine zT 5 hSS ?_;refine zT 6 hSS ?_;refine zT 7 hSS ?_;refine zT 8 hSS ?_;refine zT 9 hSS ?_;refine zo 3 fun K hK=>?_;refine zkf (by rfl) (.func 114) [.tmp 40,.tmp 41] _ (by rfl) 114 _ zro (by rfl) _ (by rfl) _ (znZ (zoI q Aq cq (j:Int) ⟨by omega,by omega⟩ _ _ (HD.out _ (ah.out.chg.trans (Chg.of_below (zka aC.out hdr)))).2.2.2.1 BP.out (by omega))) ?_;rintro vq w2 ⟨Ac,cc,rfl,hrc,hcc,au⟩;have b2:=zka hdr au
     have aM:=dN.out _ b2;refine hK.out _ _ aM ?_;clear hK K hSS;(try simp only[zQ]);refine zo 10 fun K hK=>?_;refine zkf (by rfl) (.func 115) [.tmp 45,.tmp 46,.tmp 47,.tmp 48] _ (by rfl) 115 _ zpe (by rfl) _ (by rfl) _ (znQ (znT p (.nd 50 tn ts ks) j hlt vs A c _ _ _ _ _ _ (HD.out _ (ah.out.chg.trans (Chg.of_below (zka aC.out b2)))).1 (HD.out _ (ah.out.chg.trans (Chg.of_below (zka aC.out b2)))).2.1 (HD.out _ (ah.out.chg.trans (Chg.of_below (zka aC.out b2)))).2.2.1 qx.out)) ?_;rintro vq w3 ⟨rfl,bW⟩;simp only[T.k_nd,T.s_nd,T.ks_nd];have b3:=zka b2 bW;have bO:=dN.out _ b3;refine hK.out _ _ bO ?_;clear hK K aM;(try simp only[zQ]);refine zo 11 fun K hK=>?_;have hcl:cntA p.prs ts ks.length 0 (ks.take j) vs<=zkR ks:=Nat.le_trans (zpU _ _ _ _ _ _) (zlN _ _);have hF:=ah.out.fs.later (zka aC.out b3)
     have hR:=bg.out.keep _ _ _ _ ah.out.rd ah.out.fs (Chg.of_below (zka aC.out b3));refine zld (by rfl) (.tmp 39) [.tmp 42,.tmp 44,.tmp 49] _ (by rfl) f fn hfn cap (by rfl) _ (by rfl) _ (zmy (bg.out.call _ pv' _ (q++[(j:Int)]) Ac cc u.s _ w3 hR hF (hrc.later bW) (by simp;omega) (by omega))) ?_;rintro vq W6 hp;obtain⟨iY,bK⟩:=ah.out.step bg.out (zka aC.out b3) hp;have bI:VsI Rd n0 fb Wb pw (N+one1 E0+cntA p.prs ts ks.length 0 (ks.take (j+1)) vs) W6 iY:=by rw[zqJ p.prs ts ks.length vs hlt];simpa[Nat.add_assoc]using bK
     have av:zW (fun w':World=>(zN6 w' W.heap.size (.slice A1 L1 c1) (.slice A2 L2 c2) (.int .u8 k) (.int .i64 n) (.string s) (.slice A3 l3 c3)/\zN4 w' (W.heap.size+1) (.int .u8 50) (.int .i64 tn) (.string ts) (.slice (some a) ks.length tc))/\zN4 w' wr.heap.size (.int .u8 u.k) (.int .i64 u.n) (.string u.s) (.slice A4 u.ks.length c4)) zU W6:=⟨⟨lT.out _ bI.chg,box4 ((hp.2.elim fun _ h=>h.2.2.block _ (by have:=(zka aC.out b3).size;have:=b3.size;have:=fE.out;omega) (fun hh=>by have hl:=ah.out.fs.lt;rcases hh with hh|hh;(have:=hl.1;omega);(have:=(hl.2 _ hh).2;omega))).trans ((b3.block _ (by have:=fE.out;omega)).trans iy.out))⟩,trivial⟩
     refine hK.out _ _ av ?_;clear hK K bO;(try simp only[zQ]);refine zd ?_;refine NoPanic.normal ?_;have jf:=zh bI;clear bI bK hp av hF hR;go_wp2_with fail
     go_roundw
     case rel=>exact⟨j+1,_,by omega,by go_num,jf.out⟩
     case measure=>simp[intOf];omega
    ·obtain rfl:j=ks.length:=by omega
     clear hinv;go_wp2_with fail;(try simp only[Exit.inBlock,Exit.then]);refine bodyPost_ret (results_none rfl _ _ _) rfl ?_;have hinv:=ah.out;rw[List.take_of_length_le zl]at hinv;have hcc:=aW.out;rw[cntV,uN.out,if_pos (by decide)]at hcc;rw[<-hcc,<-Nat.add_assoc];exact hinv.rep fZ.out ⟨_,rfl⟩
  ·go_wp2_with fail
   go_loopw [34] (fun i wr=>∃(j:Nat) (pv':Value),j<=ks.length/\i=.int .i64 j/\VsI Rd n0 fb Wb pw (N+one1 E0+cntA p.prs ts ks.length 0 (ks.take j) vs) wr pv') (fun i _=>ks.length-(intOf i).toNat)
   case atStart=>exact⟨0,_,Nat.zero_le _,rfl,by simpa[cntA]using HI3.out⟩
   case round =>
    obtain⟨j,pv',hj,rfl,hinv⟩:=hrel;have ah:=zh hinv;clear HI3;by_cases hlt:j<ks.length
    ·obtain⟨-,-,-,-,jQ⟩:=HD.out wr hinv.chg;obtain⟨a,u,A4,c4,rfl,hsa,Hu,⟨q0,q1,q2,q3⟩,hnu⟩:=jQ.nd hlt;have xM:=zh hnu;clear hinv jQ hnu hsa;go_upto_region 6 with fail;have hbk:Below wr.heap.size wr (wr.alloc (.cells #[.int .u8 u.k,.int .i64 u.n,.string u.s,.slice A4 u.ks.length c4] 41)):=zkb zr _;have eD:=heap_alloc_new wr (.cells #[.int .u8 u.k,.int .i64 u.n,.string u.s,.slice A4 u.ks.length c4] 41);obtain⟨wk,hwk⟩:=zX (wr.alloc (.cells #[.int .u8 u.k,.int .i64 u.n,.string u.s,.slice A4 u.ks.length c4] 41));rw[hwk]at hbk eD ⊢;have fE:=zh (show wk.heap.size=wr.heap.size+1 by rw[<-hwk];simp);have aC:=zh hbk;have iy:=zh eD;clear hwk hbk eD
     have dN:=zh (show ∀w':World,Below wk.heap.size wk w'->(fun w':World=>(zN6 w' W.heap.size (.slice A1 L1 c1) (.slice A2 L2 c2) (.int .u8 k) (.int .i64 n) (.string s) (.slice A3 l3 c3)/\zN4 w' (W.heap.size+1) (.int .u8 51) (.int .i64 tn) (.string ts) (.slice (some a) ks.length tc))/\zN4 w' wr.heap.size (.int .u8 u.k) (.int .i64 u.n) (.string u.s) (.slice A4 u.ks.length c4)) w'/\zU w' from fun w' h=>⟨⟨lT.out w' (ah.out.chg.trans (Chg.of_below (zka aC.out h))),box4 ((h.block _ (by have:=fE.out;omega)).trans iy.out)⟩,trivial⟩);have hdr:=(zs wk).drew;have hSS:=dN.out _ hdr;refine wp_region_noPanic ?_
     refine zkl (fun w':World=>(zN6 w' W.heap.size (.slice A1 L1 c1) (.slice A2 L2 c2) (.int .u8 k) (.int .i64 n) (.string s) (.slice A3 l3 c3)/\zN4 w' (W.heap.size+1) (.int .u8 51) (.int .i64 tn) (.string ts) (.slice (some a) ks.length tc))/\zN4 w' wr.heap.size (.int .u8 u.k) (.int .i64 u.n) (.string u.s) (.slice A4 u.ks.length c4)) zU 40 (by kernel_rfl) ?_;refine zT 0 hSS ?_;refine zT 1 hSS ?_;refine zT 2 hSS ?_;refine zT 4 hSS ?_;refine zT 5 hSS ?_;refine zT 6 hSS ?_;refine zT 7 hSS ?_;refine zT 8 hSS ?_;refine zT 9 hSS ?_;refine zo 3 fun K hK=>?_;refine zkf (by rfl) (.func 114) [.tmp 40,.tmp 41] _ (by rfl) 114 _ zro (by rfl) _ (by rfl) _ (znZ (zoI q Aq cq (j:Int) ⟨by omega,by omega⟩ _ _ (HD.out _ (ah.out.chg.trans (Chg.of_below (zka aC.out hdr)))).2.2.2.1 BP.out (by omega))) ?_;rintro vq w2 ⟨Ac,cc,rfl,hrc,hcc,au⟩;have b2:=zka hdr au
     have aM:=dN.out _ b2;refine hK.out _ _ aM ?_;clear hK K hSS;(try simp only[zQ]);refine zo 10 fun K hK=>?_;refine zkf (by rfl) (.func 115) [.tmp 45,.tmp 46,.tmp 47,.tmp 48] _ (by rfl) 115 _ zpe (by rfl) _ (by rfl) _ (znQ (znT p (.nd 51 tn ts ks) j hlt vs A c _ _ _ _ _ _ (HD.out _ (ah.out.chg.trans (Chg.of_below (zka aC.out b2)))).1 (HD.out _ (ah.out.chg.trans (Chg.of_below (zka aC.out b2)))).2.1 (HD.out _ (ah.out.chg.trans (Chg.of_below (zka aC.out b2)))).2.2.1 qx.out)) ?_;rintro vq w3 ⟨rfl,bW⟩;simp only[T.k_nd,T.s_nd,T.ks_nd];have b3:=zka b2 bW;have bO:=dN.out _ b3;refine hK.out _ _ bO ?_;clear hK K aM;(try simp only[zQ]);refine zo 11 fun K hK=>?_;have hcl:cntA p.prs ts ks.length 0 (ks.take j) vs<=zkR ks:=Nat.le_trans (zpU _ _ _ _ _ _) (zlN _ _);have hF:=ah.out.fs.later (zka aC.out b3)
     have hR:=bg.out.keep _ _ _ _ ah.out.rd ah.out.fs (Chg.of_below (zka aC.out b3));refine zld (by rfl) (.tmp 39) [.tmp 42,.tmp 44,.tmp 49] _ (by rfl) f fn hfn cap (by rfl) _ (by rfl) _ (zmy (bg.out.call _ pv' _ (q++[(j:Int)]) Ac cc u.s _ w3 hR hF (hrc.later bW) (by simp;omega) (by omega))) ?_;rintro vq W6 hp;obtain⟨iY,bK⟩:=ah.out.step bg.out (zka aC.out b3) hp;have bI:VsI Rd n0 fb Wb pw (N+one1 E0+cntA p.prs ts ks.length 0 (ks.take (j+1)) vs) W6 iY:=by rw[zqJ p.prs ts ks.length vs hlt];simpa[Nat.add_assoc]using bK
     have av:zW (fun w':World=>(zN6 w' W.heap.size (.slice A1 L1 c1) (.slice A2 L2 c2) (.int .u8 k) (.int .i64 n) (.string s) (.slice A3 l3 c3)/\zN4 w' (W.heap.size+1) (.int .u8 51) (.int .i64 tn) (.string ts) (.slice (some a) ks.length tc))/\zN4 w' wr.heap.size (.int .u8 u.k) (.int .i64 u.n) (.string u.s) (.slice A4 u.ks.length c4)) zU W6:=⟨⟨lT.out _ bI.chg,box4 ((hp.2.elim fun _ h=>h.2.2.block _ (by have:=(zka aC.out b3).size;have:=b3.size;have:=fE.out;omega) (fun hh=>by have hl:=ah.out.fs.lt;rcases hh with hh|hh;(have:=hl.1;omega);(have:=(hl.2 _ hh).2;omega))).trans ((b3.block _ (by have:=fE.out;omega)).trans iy.out))⟩,trivial⟩
     refine hK.out _ _ av ?_;clear hK K bO;(try simp only[zQ]);refine zd ?_;refine NoPanic.normal ?_;have jf:=zh bI;clear bI bK hp av hF hR;go_wp2_with fail
     go_roundw
     case rel=>exact⟨j+1,_,by omega,by go_num,jf.out⟩
     case measure=>simp[intOf];omega
    ·obtain rfl:j=ks.length:=by omega
     clear hinv;go_wp2_with fail;(try simp only[Exit.inBlock,Exit.then]);refine bodyPost_ret (results_none rfl _ _ _) rfl ?_;have hinv:=ah.out;rw[List.take_of_length_le zl]at hinv;have hcc:=aW.out;rw[cntV,uN.out,if_pos (by decide)]at hcc;rw[<-hcc,<-Nat.add_assoc];exact hinv.rep fZ.out ⟨_,rfl⟩
 ·obtain⟨h50,lK⟩:=not_or.1 hcall;have hd50:(tk==50)=false:=beq_false_of_ne h50;have hd51:(tk==51)=false:=beq_false_of_ne lK;go_wp2_with fail
  go_loopw [55] (fun i wr=>∃(j:Nat) (pv':Value),j<=ks.length/\i=.int .i64 j/\VsI Rd n0 fb Wb pw (N+one1 E0+cntK p.prs tk ts 0 (ks.take j) vs) wr pv') (fun i _=>ks.length-(intOf i).toNat)
  case atStart=>exact⟨0,_,Nat.zero_le _,rfl,by simpa[cntK]using HI3.out⟩
  case round =>
   obtain⟨j,pv',hj,rfl,hinv⟩:=hrel;have ah:=zh hinv;clear HI3;by_cases hlt:j<ks.length
   ·obtain⟨-,-,-,-,jQ⟩:=HD.out wr hinv.chg;obtain⟨a,u,A4,c4,rfl,hsa,Hu,⟨q0,q1,q2,q3⟩,hnu⟩:=jQ.nd hlt;have xM:=zh hnu;clear hinv jQ hnu hsa;go_upto_region 11 with fail;have hbk:Below wr.heap.size wr (wr.alloc (.cells #[.int .u8 u.k,.int .i64 u.n,.string u.s,.slice A4 u.ks.length c4] 41)):=zkb zr _;have eD:=heap_alloc_new wr (.cells #[.int .u8 u.k,.int .i64 u.n,.string u.s,.slice A4 u.ks.length c4] 41);obtain⟨wk,hwk⟩:=zX (wr.alloc (.cells #[.int .u8 u.k,.int .i64 u.n,.string u.s,.slice A4 u.ks.length c4] 41));rw[hwk]at hbk eD ⊢;have fE:=zh (show wk.heap.size=wr.heap.size+1 by rw[<-hwk];simp);have aC:=zh hbk;have iy:=zh eD;clear hwk hbk eD
    have dN:=zh (show ∀w':World,Below wk.heap.size wk w'->(fun w':World=>(zN6 w' W.heap.size (.slice A1 L1 c1) (.slice A2 L2 c2) (.int .u8 k) (.int .i64 n) (.string s) (.slice A3 l3 c3)/\zN4 w' (W.heap.size+1) (.int .u8 tk) (.int .i64 tn) (.string ts) (.slice (some a) ks.length tc))/\zN4 w' wr.heap.size (.int .u8 u.k) (.int .i64 u.n) (.string u.s) (.slice A4 u.ks.length c4)) w'/\zU w' from fun w' h=>⟨⟨lT.out w' (ah.out.chg.trans (Chg.of_below (zka aC.out h))),box4 ((h.block _ (by have:=fE.out;omega)).trans iy.out)⟩,trivial⟩);have hdr:=(zs wk).drew;have hSS:=dN.out _ hdr;refine wp_region_noPanic ?_
    refine zkl (fun w':World=>(zN6 w' W.heap.size (.slice A1 L1 c1) (.slice A2 L2 c2) (.int .u8 k) (.int .i64 n) (.string s) (.slice A3 l3 c3)/\zN4 w' (W.heap.size+1) (.int .u8 tk) (.int .i64 tn) (.string ts) (.slice (some a) ks.length tc))/\zN4 w' wr.heap.size (.int .u8 u.k) (.int .i64 u.n) (.string u.s) (.slice A4 u.ks.length c4)) zU 40 (by kernel_rfl) ?_;refine zT 0 hSS ?_;refine zT 1 hSS ?_;refine zT 2 hSS ?_;refine zT 3 hSS ?_;refine zT 5 hSS ?_;refine zT 6 hSS ?_;refine zT 7 hSS ?_;refine zT 9 hSS ?_;refine zo 4 fun K hK=>?_;refine zkf (by rfl) (.func 114) [.tmp 62,.tmp 63] _ (by rfl) 114 _ zro (by rfl) _ (by rfl) _ (znZ (zoI q Aq cq (j:Int) ⟨by omega,by omega⟩ _ _ (HD.out _ (ah.out.chg.trans (Chg.of_below (zka aC.out hdr)))).2.2.2.1 BP.out (by omega))) ?_;rintro vq w2 ⟨Ac,cc,rfl,hrc,hcc,au⟩;have b2:=zka hdr au;have aM:=dN.out _ b2
    refine hK.out _ _ aM ?_;clear hK K hSS;(try simp only[zQ]);refine zo 8 fun K hK=>?_;refine zkf (by rfl) (.func 84) [.tmp 65,.tmp 66,.tmp 67] _ (by rfl) 84 _ zy0 (by rfl) _ (by rfl) _ (ztR (zux (.nd tk tn ts ks) j (by omega) vs A c _ _ _ _ (HD.out _ (ah.out.chg.trans (Chg.of_below (zka aC.out b2)))).2.1 (HD.out _ (ah.out.chg.trans (Chg.of_below (zka aC.out b2)))).2.2.1 nE.out (by omega))) ?_;simp only[T.k_nd,T.s_nd,T.ks_nd];rintro vq w3 ⟨Av,cv,rfl,gq,hcv,bW⟩;have b3:=zka b2 bW;have bO:=dN.out _ b3;refine hK.out _ _ bO ?_;clear hK K aM;(try simp only[zQ]);refine zo 10 fun K hK=>?_;have hcl:cntK p.prs tk ts 0 (ks.take j) vs<=zkR (ks.take j):=zrs _ _ _ _ (fun t _ vs=>zu1 _ t vs) _ _;have hsz:=zlN ks (j+1);rw[zsN ks j hlt,Hu.out]at hsz;have hmem:u∈ks:=by rw[<-Hu.out];exact List.getElem_mem hlt
    have hdu:=zx6 hmem;have hil:=zs3 tk ts j vs;have hzb:=ah.out.chg.size;have hz0:=iI.out;have hzk:=fE.out;have hfl:=ah.out.fs.lt;have hF:=ah.out.fs.later (zka aC.out b3);have hR:=bg.out.keep _ _ _ _ ah.out.rd ah.out.fs (Chg.of_below (zka aC.out b3));have hzz:=hdr.size;have yu:=au.size;have hzw2:=b2.size
    refine zkf (by rfl) (.func 73) [.tmp 60,.tmp 61,.tmp 64,.tmp 68,.tmp 69] _ (by rfl) 73 _ zyW (by rfl) _ (by rfl) _ (zmy (xW.out u hmem (fun b=>(S b/\b<W.heap.size)\/wk.heap.size<=b) (zma tk ts j vs) Av cv (q++[(j:Int)]) Ac cc (N+one1 E0+cntK p.prs tk ts 0 (ks.take j) vs) pv' w3 _ _ hR hF ((HD.out _ (ah.out.chg.trans (Chg.of_below (zka aC.out b3)))).1.keep (fun b hb _=>.inl hb) (fun _ _ _=>rfl)) ((xM.out.later (zka aC.out b3)).keep (fun b hb _=>.inl hb) (fun _ _ _=>rfl)) (gq.mono fun b hb=>by rcases hb with hb|hb;exact .inl hb;exact .inr (by omega)) hcv ((hrc.later bW).mono fun b hb=>.inr (by have:_<=b:=hb;omega)) hcc (fun b hb hlt' hh=>?_) (by simp;omega) (by omega) (by omega))) ?_
    ·rcases hb with⟨hb,hbl⟩|hb
     ·refine HFAR.out b hb hbl (hh.imp id fun h=>?_);rcases ah.out.own b h with h1|h1
      ·exact h1
      ·omega
     ·rcases hh with rfl|hh
      ·omega
      ·have:=hfl.2 b hh;omega
    rintro vq W6 hp;obtain⟨iY,bK⟩:=ah.out.step bg.out (zka aC.out b3) hp;have bI:VsI Rd n0 fb Wb pw (N+one1 E0+cntK p.prs tk ts 0 (ks.take (j+1)) vs) W6 iY:=by rw[zu4 p.prs tk ts vs hlt,Hu.out];simpa[Nat.add_assoc]using bK
    have av:zW (fun w':World=>(zN6 w' W.heap.size (.slice A1 L1 c1) (.slice A2 L2 c2) (.int .u8 k) (.int .i64 n) (.string s) (.slice A3 l3 c3)/\zN4 w' (W.heap.size+1) (.int .u8 tk) (.int .i64 tn) (.string ts) (.slice (some a) ks.length tc))/\zN4 w' wr.heap.size (.int .u8 u.k) (.int .i64 u.n) (.string u.s) (.slice A4 u.ks.length c4)) zU W6:=⟨⟨lT.out _ bI.chg,box4 ((hp.2.elim fun _ h=>h.2.2.block _ (by have:=(zka aC.out b3).size;have:=b3.size;have:=fE.out;omega) (fun hh=>by have hl:=ah.out.fs.lt;rcases hh with hh|hh;(have:=hl.1;omega);(have:=(hl.2 _ hh).2;omega))).trans ((b3.block _ (by have:=fE.out;omega)).trans iy.out))⟩,trivial⟩
    refine hK.out _ _ av ?_;clear hK K bO;(try simp only[zQ]);refine zd ?_;refine NoPanic.normal ?_;have jf:=zh bI;clear bI bK hp av hF hR;go_wp2_with fail
    go_roundw
    case rel=>exact⟨j+1,_,by omega,by go_num,jf.out⟩
    case measure=>simp[intOf];omega
   ·obtain rfl:j=ks.length:=by omega
    clear hinv;go_wp2_with fail;go_end0;have hinv:=ah.out;rw[List.take_of_length_le zl]at hinv;have hcc:=aW.out;rw[cntV,uN.out,if_neg hcall]at hcc;rw[<-hcc,<-Nat.add_assoc];exact hinv.rep fZ.out ⟨_,rfl⟩
theorem zrm(k n:Int)(s:ByteArray)(ks:List T):isB (.nd k n s ks)=true↔k=57/\zkr n s=true/\∀t∈ks,isS t=true:=by
 rw[isB];simp only[Bool.and_eq_true,decide_eq_true_eq,and_assoc];refine and_congr Iff.rfl (and_congr Iff.rfl ?_);rw[zpL 0,zkI]
 constructor
 ·intro h t ht;obtain⟨q,hq,rfl⟩:=List.getElem_of_mem ht;exact h q hq
 ·intro h q hq;exact h _ (List.getElem_mem hq)
theorem zK0{t:T}(h:isB t=true):t.k=57:=by cases t;exact((zrm _ _ _ _).1 h).1
theorem zmj{x:T}:∀ {l:List T},x∈pos l↔∃t∈l,x∈po t
 | []=>by simp[pos]
 | t::ts=>by simp[pos,zmj (l:=ts)]
theorem zuo:∀(ks:List T),(∀t∈ks,∀d l,lim t d l=if dep t<=d/\size t<=l then some (l-size t)else none)->∀d l,lims ks d l=if deps ks<=d/\zkR ks<=l then some (l-zkR ks)else none
 | [],_,d,l=>by simp[lims,deps,zkR]
 | t::ts,h,d,l=>by
  have e1:deps (t::ts)=max (dep t) (deps ts):=by rw[deps]
  have e2:zkR (t::ts)=size t+zkR ts:=by rw[zkR]
  rw[lims,h t (by simp) d l];by_cases h1:dep t<=d/\size t<=l
  ·rw[if_pos h1];simp only;rw[zuo ts (fun u hu=>h u (by simp[hu])) d (l-size t)];by_cases h2:deps ts<=d/\zkR ts<=l-size t
   ·rw[if_pos h2,if_pos ⟨by omega,by omega⟩];congr 1;omega
   ·rw[if_neg h2,if_neg (by omega)]
  ·rw[if_neg h1];simp only;rw[if_neg (by omega)]
theorem zxU(t:T):∀d l,lim t d l=if dep t<=d/\size t<=l then some (l-size t)else none:=by
 induction t using T.ind with
 | _ k n s ks ih =>
 intro d l;have e1:dep (.nd k n s ks)=1+deps ks:=by rw[dep]
 have e2:size (.nd k n s ks)=1+zkR ks:=by rw[size]
 rw[lim];by_cases h:d=0\/l=0
 ·rw[if_pos h,if_neg (by omega)]
 ·rw[if_neg h,zuo ks ih];by_cases h2:deps ks<=d-1/\zkR ks<=l-1
  ·rw[if_pos h2,if_pos ⟨by omega,by omega⟩];congr 1;omega
  ·rw[if_neg h2,if_neg (by omega)]
theorem zwK{k n:Int}{s:ByteArray}{ks:List T}(h:isE (.nd k n s ks)=true):∀t∈ks,isE t=true:=by
 have key:isEs ks=true->∀t∈ks,isE t=true:=by
  intro h t ht;rw[znI 0,zkI]at h;obtain⟨i,hi,rfl⟩:=List.getElem_of_mem ht;exact h i hi
 have nil:decide (ks.length=0)=true->∀t∈ks,isE t=true:=by
  intro h t ht;have:ks=[]:=by simpa using h
  rw[this]at ht;cases ht
 rw[isE]at h
 split at h
 ·simp only[Bool.and_eq_true]at h;exact nil h.2
 split at h
 ·simp only[Bool.and_eq_true]at h;exact nil h.2
 split at h
 ·simp only[Bool.and_eq_true]at h;exact key h.2.2
 split at h
 ·simp only[Bool.and_eq_true]at h;exact key h.2.2
 split at h
 ·simp only[Bool.and_eq_true]at h;exact key h.2.2
 ·cases h
theorem zwJ{t:T}(h:isP t=true):isE t=true:=by unfold isP at h;simp only[Bool.and_eq_true]at h;exact h.2
theorem zKZ{t:T}(h:isV t=true):isE t=true:=by unfold isV at h;simp only[Bool.and_eq_true]at h;exact h.2
theorem znf{m:Nat}{p:Nat->T->Bool}{ks:List T}(h:zkH m p ks=true){t:T}(ht:t∈ks):∃i,p i t=true:=by
 unfold zkH at h;simp only[Bool.and_eq_true]at h;have:=(zkI p 0 ks).1 h.2;obtain⟨i,hi,rfl⟩:=List.getElem_of_mem ht;exact⟨0+i,this i hi⟩
theorem zpM{d:Nat}{ks:List T}(h:isEB d ks=true){t:T}(ht:t∈ks):isE t=true\/isB t=true:=by
 have h':isEB (d+0) ks=true:=h;rw[znJ d 0]at h';have:=(zkI _ 0 ks).1 h';obtain⟨i,hi,rfl⟩:=List.getElem_of_mem ht;have h2:=this i hi;unfold pEB at h2
 split at h2
 ·exact .inl h2
 ·exact .inr h2
theorem zxY{k n:Int}{s:ByteArray}{ks:List T}(h:isS (.nd k n s ks)=true):k≠57/\∀t∈ks,isE t=true\/isB t=true:=by
 rw[isS]at h
 split at h
 ·rename_i hk;simp only[Bool.and_eq_true]at h;refine⟨by omega,fun t ht=>?_⟩;obtain⟨i,hi⟩:=znf h.2 ht
  split at hi
  ·exact .inl (zwJ hi)
  ·exact .inl hi
 split at h
 ·rename_i hk;simp only[Bool.and_eq_true]at h;refine⟨by omega,fun t ht=>?_⟩;obtain⟨i,hi⟩:=znf h.2 ht;exact .inl (zwJ hi)
 split at h
 ·rename_i hk;simp only[Bool.and_eq_true]at h;refine⟨by omega,fun t ht=>?_⟩;obtain⟨i,hi⟩:=znf h.2 ht;exact .inl (zwJ hi)
 split at h
 ·rename_i hk;simp only[Bool.and_eq_true]at h;refine⟨by omega,fun t ht=>?_⟩;obtain⟨i,hi⟩:=znf h.2 ht;exact .inl (zwJ hi)
 split at h
 ·rename_i hk;simp only[Bool.and_eq_true]at h;refine⟨by omega,fun t ht=>?_⟩;have:=(zkI _ 0 ks).1 h.2;obtain⟨i,hi,rfl⟩:=List.getElem_of_mem ht;exact .inl (zKZ (this i hi))
 split at h
 ·rename_i hk;simp only[Bool.and_eq_true]at h;exact⟨by omega,fun t ht=>zpM h.2.2 ht⟩
 split at h
 ·rename_i hk;simp only[Bool.and_eq_true]at h;exact⟨by omega,fun t ht=>zpM h.2.2 ht⟩
 split at h
 ·rename_i hk;simp only[Bool.and_eq_true]at h;exact⟨by omega,fun t ht=>zpM h.2.2 ht⟩
 ·cases h
theorem zng{k n:Int}{s:ByteArray}{ks:List T}(h:isS (.nd k n s ks)=true) :
  ((k≠52/\k≠53/\k≠54/\k≠55/\k≠57)/\∀t∈ks,t.k≠57) \/
  ((k=52\/k=53)/\zkr n s=true/\∃a b c d,ks=[a,b,c,d]/\isE a=true/\isB b=true/\isB c=true/\isE d=true) \/
  (k=54/\zkD n s=true/\∃a b c,ks=[a,b,c]/\isE a=true/\isB b=true/\isE c=true) \/
  (k=55/\zkD n s=true/\∃b,ks=[b]/\isB b=true):=by
 have key:∀(p:Nat->T->Bool),(∀j t,p j t=true->t.k≠57)->zkC p 0 ks=true->∀t∈ks,t.k≠57:=by
  intro p hp hk t ht;obtain⟨q,hq,rfl⟩:=List.getElem_of_mem ht;exact hp _ _ ((zkI p 0 ks).1 hk q hq)
 have kE:∀t,isE t=true->t.k≠57:=fun t h1=>by have:=zwL t h1;omega
 rw[isS]at h
 repeat' split at h
 ·simp only[zkH,Bool.and_eq_true]at h;exact .inl ⟨by omega,key _ (fun j t hj=>by split at hj;exact zwI t hj;exact kE t hj) h.2.2⟩
 ·simp only[zkH,Bool.and_eq_true]at h;exact .inl ⟨by omega,key _ (fun j t=>zwI t) h.2.2⟩
 ·simp only[zkH,Bool.and_eq_true]at h;exact .inl ⟨by omega,key _ (fun j t=>zwI t) h.2.2⟩
 ·simp only[zkH,Bool.and_eq_true]at h;exact .inl ⟨by omega,key _ (fun j t=>zwI t) h.2.2⟩
 ·simp only[Bool.and_eq_true]at h;exact .inl ⟨by omega,key _ (fun j t=>zKY t) h.2⟩
 ·rename_i hk;simp only[Bool.and_eq_true,decide_eq_true_eq]at h;obtain⟨h1,h2,h3⟩:=h
  match ks,h2 with
  | [a,b,c,d],_ =>
   simp only[isEB,Bool.and_eq_true,Bool.and_true]at h3;simp at h3;exact .inr (.inl ⟨hk,h1,a,b,c,d,rfl,h3.1,h3.2.1,h3.2.2.1,h3.2.2.2⟩)
 ·rename_i hk;simp only[Bool.and_eq_true,decide_eq_true_eq]at h;obtain⟨h1,h2,h3⟩:=h
  match ks,h2 with
  | [a,b,c],_ =>
   simp only[isEB,Bool.and_eq_true,Bool.and_true]at h3;simp at h3;exact .inr (.inr (.inl ⟨hk,h1,a,b,c,rfl,h3.1,h3.2.1,h3.2.2⟩))
 ·rename_i hk;simp only[Bool.and_eq_true,decide_eq_true_eq]at h;obtain⟨h1,h2,h3⟩:=h
  match ks,h2 with
  | [b],_ =>
   simp only[isEB,Bool.and_eq_true,Bool.and_true]at h3;simp at h3;exact .inr (.inr (.inr ⟨hk,h1,b,rfl,h3⟩))
 ·cases h
section
variable {P:Program} {ops:Array Oper} {Q:Exit->Act->World->Prop} {md:Region.Mode} {S1 S2:World->Prop} {k:Nat}
theorem zyg{i j:Nat}{o o':Oper}{fuel:Nat}{listed:Array Bool}{a:Act}{w:World}(hr:Region.ready md ops listed=[i,j])(ho:ops[i]?=some o)(ho':ops[j]?=some o')
  (h:∀K':Act->World->Prop,Shut (∀a w,S1 w/\S2 w->wpG P md ops Q S1 S2 k fuel (listed.setIfInBounds i true) a w->K' a w)->if Region.wanted o (yielded ops a.tmps)=true then Oper.wp P o a w K' Q else K' (a.put o.dst undef) w)
  (h':∀K':Act->World->Prop,Shut (∀a w,S1 w/\S2 w->wpG P md ops Q S1 S2 k fuel (listed.setIfInBounds j true) a w->K' a w)->if Region.wanted o' (yielded ops a.tmps)=true then Oper.wp P o' a w K' Q else K' (a.put o'.dst undef) w) :
  wpG P md ops Q S1 S2 k (fuel+1) listed a w:=by
 refine⟨(fun h0=>by rw[hr]at h0;cases h0),fun x hx=>?_⟩;rw[hr]at hx;simp only[List.mem_cons,List.not_mem_nil,or_false]at hx;rcases hx with rfl|rfl
 ·exact wpOp_step ho fun K' hK=>h K' fun a w hS hW=>hK a w ⟨⟨hS.1,fun _=>hS.2⟩,hW⟩
 ·exact wpOp_step ho' fun K' hK=>h' K' fun a w hS hW=>hK a w ⟨⟨hS.1,fun _=>hS.2⟩,hW⟩
end
def frsN(vs:List VD):Nat->Nat
 | 0=>0
 | j+1=>frsN vs j+(if h:j<vs.length then one1 (zmC (vs.take j) vs[j].s)else 0)
theorem znh{vs:List VD}{j:Nat}(h:j<vs.length):frsN vs (j+1)=frsN vs j+one1 (zmC (vs.take j) vs[j].s):=by simp[frsN,h]
theorem zmB(vs:List VD):∀j,frsN vs j<=j
 | 0=>by simp[frsN]
 | j+1=>by
  have h:=zmB vs j;rw[frsN]
  split
  ·have:=zmZ (zmC (vs.take j) vs[j].s);omega
  ·omega
def prcE(ps:List PR)(j:Nat)(r:PR):Nat:=one1 (if zlL ps r.s<(j:Int)then 22 else 0)+frsN r.ps r.ps.length+cntV ps r.b r.ps
def prcN(ps:List PR):Nat->Nat
 | 0=>0
 | j+1=>prcN ps j+(if h:j<ps.length then prcE ps j ps[j]else 0)
theorem zok{ps:List PR}{j:Nat}(h:j<ps.length):prcN ps (j+1)=prcN ps j+prcE ps j ps[j]:=by simp[prcN,h]
def chkN(p:PG):Nat:=frsN p.vs p.vs.length+prcN p.prs p.prs.length+cntV p.prs p.m p.vs
theorem zny{t:T}(h:zln t=true):dep t<=80/\size t<=2000:=by
 simp only[zln,Bool.and_eq_true]at h;have h1:=h.1;rw[zxU]at h1
 split at h1
 ·assumption
 ·simp at h1
theorem zlp{p:PG}(h:zkL p=true):p.vs.length<=32/\p.prs.length<=64/\(∀r∈p.prs,r.ps.length<=8/\dep r.b<=80/\size r.b<=2000)/\dep p.m<=80/\size p.m<=2000:=by
 simp only[zkL,Bool.and_eq_true,decide_eq_true_eq,List.all_eq_true]at h;refine⟨h.1.1.1.1,h.1.1.1.2,fun r hr=>?_,zny h.2⟩;have:=h.1.2 r hr;simp only[zoM,Bool.and_eq_true,decide_eq_true_eq]at this;exact⟨this.1.1.2,zny this.2⟩
theorem zrf(ps:List PR)(h:∀r∈ps,r.ps.length<=8/\dep r.b<=80/\size r.b<=2000):∀j,prcN ps j<=j*2009
 | 0=>by simp[prcN]
 | j+1=>by
  have h1:=zrf ps h j;rw[prcN]
  split
  ·rename_i hj;have h2:=h _ (List.getElem_mem hj);have h3:=zmZ (if zlL ps ps[j].s<(j:Int)then 22 else 0);have h4:=zmB ps[j].ps ps[j].ps.length;have h5:=zu1 ps ps[j].b ps[j].ps;unfold prcE;omega
  ·omega
theorem RowV.take{w:World}{S:Nat->Prop}{A:Option Addr}{vs:List VD}(h:RowV w S A vs)(j:Nat):RowV w S A (vs.take j):=fun i hi=>by
 have h1:i<vs.length:=by simp at hi;omega
 obtain⟨a,h2,h3,h4,h5⟩:=h i h1;exact⟨a,h2,h3,by simpa using h4,by simpa using h5⟩
theorem RowI.nil{w:World}{S:Nat->Prop}{A:Option Addr}:RowI w S A []:=fun i hi=>by simp at hi
theorem zqm(w:World)(j:Int)(hj:I64 j):RowI (w.alloc (.cells #[.int .i64 j] 3)) Any (some ⟨w.heap.size,0,none⟩) [j]:=fun i hi=>by
 simp only[List.length_singleton,Nat.lt_one_iff]at hi;subst hi;exact⟨_,rfl,trivial,zlI w 3 [.int .i64 j] 0 _ rfl,hj⟩
theorem zmI(n0 fb N:Nat)(pv:Value)(pr er:Int)(q:List Int)(A:Option Addr)(c:Nat)(s:ByteArray)(S:Nat->Prop)(W:World)(hfs:FS W n0 fb N pv)(hq:RowI W S A q)(ku:q.length<=100000)(hN:N<=1000000) :
  Calls prog 69 ([.int .i64 pr,.slice A q.length c,.string s,.int .i64 er].toArray ++ #[.pointer (some ⟨fb,0,none⟩)]) W (RepP W n0 fb pv (N+one1 er)):=by
 simpa using zmJ n0 fb N pv pr er q A c s S W hfs hq ku hN
theorem VsI.chg2{Rd:World->Prop}{n0 fb:Nat}{Wb wr wk w':World}{pv pv':Value}{N:Nat}(h:VsI Rd n0 fb Wb pv N wr pv')(hb:Below wr.heap.size wr wk)(hc:Chg (fun b=>b=fb\/pv'.ownBlock=some b) wk w'):Chg (fun b=>b=fb\/pv.ownBlock=some b) Wb w' :=
 (h.chg.trans (Chg.of_below hb)).trans2 hc fun b hlt hh=>by
  rcases hh with hh|hh
  ·exact .inl hh
  ·rcases h.own b hh with h1|h1
   ·exact .inr h1
   ·omega
theorem VsI.stepK{Rd:World->Prop}{n0 fb:Nat}{Wb wr w5 W6:World}{pv pv':Value}{N N':Nat}{e:Ending}(hk:∀W W' pv N,Rd W->FS W n0 fb N pv->Chg (fun b=>b=fb\/pv.ownBlock=some b) W W'->Rd W')(h:VsI Rd n0 fb Wb pv N wr pv')(hb:Below wr.heap.size wr w5)(hp:RepP w5 n0 fb pv' N' e W6) :
  ∃jg,VsI Rd n0 fb Wb pv N' W6 jg:=by
 obtain⟨_,jg,hfs,ak,hc⟩:=hp;have sS:=h.fs.later hb;have hz:=h.chg.size;have oO:=hb.size;refine⟨jg,hk w5 W6 pv' N (hk wr w5 pv' N h.rd h.fs (Chg.of_below hb)) sS hc,hfs,fun b hb'=>?_,h.chg2 hb hc⟩;rcases ak b hb' with h1|h1
 ·exact h.own b h1
 ·exact .inr (by omega)
theorem zmL(vs:List VD)(j:Nat)(hj:j<=vs.length)(A:Option Addr)(c:Nat)(s:ByteArray)(S:Nat->Prop)(w:World)(hrow:RowV w S A vs)(hl:vs.length<=LV) :
  Calls prog 71 #[.slice A j c,.string s] w fun e w'=>e=.returned (.int .i64 (zmC (vs.take j) s))/\Below w.heap.size w w':=by
 have h:=zox (vs.take j) A c s S w (hrow.take j) (by simp;omega);rwa[show(vs.take j).length=j by simp;omega]at h
theorem zpO:IsFn prog 71 f71:=⟨func71,by kernel_rfl,by kernel_rfl⟩
theorem zyZ:IsFn prog 72 f72:=⟨func72,by kernel_rfl,by kernel_rfl⟩
theorem zso:IsFn prog 69 f69:=⟨func69,by kernel_rfl,by kernel_rfl⟩
theorem znN(p:PG)(S:Nat->Prop)(v:Value)(W:World)(hv:PV W S p v):Calls prog 26 #[v] W fun e w'=>∃A c,e=.returned (.slice A (if zkL p=true then chkN p else 0) c)/\Below W.heap.size W w':=by
 obtain⟨NN,Bh⟩:=zX ((if zkL p=true then chkN p else 0));rw[Bh];have ny:=zh Bh;clear Bh;have hvv:=hv;obtain⟨A1,c1,A2,c2,A3,c3,rfl,hr⟩:=hv;have hlv:=zlk hr.lv;have hlp:=zlk hr.lp;obtain⟨L1,hL1⟩:=zX (p.vs.length);obtain⟨L2,hL2⟩:=zX (p.prs.length);obtain⟨k,hk⟩:=zX (p.m.k);obtain⟨n,hn⟩:=zX (p.m.n);obtain⟨s,hs⟩:=zX (p.m.s);obtain⟨l3,hl3⟩:=zX (p.m.ks.length);rw[hL1,hL2,hk,hn,hs,hl3];rw[hL1,hL2,hk,hn,hs,hl3]at hvv;rw[hL1]at hlv;rw[hL2]at hlp;have xD:=zh hvv;have HR:=zh hr;have iP:=zh hL1;have HL2:=zh hL2;have oF:=zh (show p.m.k=k/\p.m.n=n/\p.m.s=s/\p.m.ks.length=l3 from⟨hk,hn,hs,hl3⟩);clear hvv hr hL1 hL2 hk hn hs hl3;go_enter func26,ntmps26;go_wp2_with fail;refine(znr p S _ _ (xD.out.later (zkb zr _))).mono ?_;rintro e w1 ⟨rfl,ae⟩;have b1:Below W.heap.size W w1:=zka (zkb zr _) ae
 have hp1:=(ae.block W.heap.size (by simp)).trans (heap_alloc_new W (.cells #[.slice A1 L1 c1,.slice A2 L2 c2,.int .u8 k,.int .i64 n,.string s,.slice A3 l3 c3] 43));have hz1:=ae.size;simp only[World.size_alloc]at hz1;have HB1:=zh b1;have HP1:=zh hp1;have HZ1:=zh hz1;obtain⟨a0,a1,a2,a3,a4,a5⟩:=box6 hp1;clear ae b1 hp1
 cases hvb:zkL p
 ·have hN0:NN=0:=by rw[<-ny.out,hvb];rfl
  subst hN0;go_wp2_with fail;go_ret;exact⟨none,0,rfl,HB1.out⟩
 ·have eG:=zh (zlp hvb);have HNN2:=zh (show chkN p=NN by rw[<-ny.out,hvb];rfl);clear hvb ny;go_upto_region 5 with fail;obtain⟨fb,sU⟩:=zX (w1.heap.size);rw[sU];have wN:W.heap.size+1<=fb:=by omega
  have hbw:Below W.heap.size W ((w1.alloc (.cells #[.slice none 0 0] 65)).alloc (.cells #[.func (.func 69) #[] #[.pointer (some ⟨fb,0,none⟩)]] 117)):=zkb (zkb HB1.out _) _;have oh:=zke (heap_alloc_new w1 (.cells #[.slice none 0 0] 65)) (.cells #[.func (.func 69) #[] #[.pointer (some ⟨fb,0,none⟩)]] 117);have hbR:=heap_alloc_new (w1.alloc (.cells #[.slice none 0 0] 65)) (.cells #[.func (.func 69) #[] #[.pointer (some ⟨fb,0,none⟩)]] 117);simp only[World.size_alloc]at hbR;rw[sU]at oh hbR;have qO:=zke (zke HP1.out (.cells #[.slice none 0 0] 65)) (.cells #[.func (.func 69) #[] #[.pointer (some ⟨fb,0,none⟩)]] 117);obtain⟨Wb,tL⟩:=zX ((w1.alloc (.cells #[.slice none 0 0] 65)).alloc (.cells #[.func (.func 69) #[] #[.pointer (some ⟨fb,0,none⟩)]] 117));rw[tL]at hbw oh hbR qO ⊢;have iI:=zh (show Wb.heap.size=fb+2 by rw[<-tL,<-sU];simp);have fZ:=zh hbw;have HZF:=zh wN
  clear tL sU a0 a1 a2 a3 a4 a5 HP1 HZ1 HB1 hz1;have hrep:=zxI fb fb (fb+1) W.heap.size A1 L1 c1 A2 L2 c2 k n s A3 l3 c3;obtain⟨Rd,yK⟩:∃Rd:World->Prop,(fun W':World=>W'.heap[fb+1]?=some (.cells #[.func (.func 69) #[] #[.pointer (some ⟨fb,0,none⟩)]] 117 (0,0))/\W'.heap[W.heap.size]?=some (.cells #[.slice A1 L1 c1,.slice A2 L2 c2,.int .u8 k,.int .i64 n,.string s,.slice A3 l3 c3] 43 (0,0)))=Rd:=⟨_,rfl⟩
  rw[yK]at hrep;have bg:=zh hrep;have oz:=zh (show ∀w':World,Rd w'->w'.heap[fb+1]?=some (.cells #[.func (.func 69) #[] #[.pointer (some ⟨fb,0,none⟩)]] 117 (0,0))/\w'.heap[W.heap.size]?=some (.cells #[.slice A1 L1 c1,.slice A2 L2 c2,.int .u8 k,.int .i64 n,.string s,.slice A3 l3 c3] 43 (0,0))from fun w' h=>by rw[<-yK]at h;exact h);have aW:=zh (show ∀w':World,Rd w'->(fun w':World=>(zN6 w' W.heap.size (.slice A1 L1 c1) (.slice A2 L2 c2) (.int .u8 k) (.int .i64 n) (.string s) (.slice A3 l3 c3))/\(zv w' (fb+1) 0 (.func (.func 69) #[] #[.pointer (some ⟨fb,0,none⟩)]))) w' from fun w' h=>⟨box6 (oz.out w' h).2,zc (oz.out w' h).1 rfl⟩);have HI0:=zh (show VsI Rd fb fb Wb (.slice none 0 0) 0 Wb (.slice none 0 0)from⟨by rw[<-yK];exact⟨hbR,qO⟩,⟨oh,⟨[],World.ownsRow_nil _ _ _ _⟩,zl,by simp[Value.ownBlock]⟩,fun b hb=>.inl hb,Chg.refl _ _⟩)
  have oK:=zh (show ∀w':World,Chg (fun b=>b=fb\/(Value.slice none 0 0).ownBlock=some b) Wb w'->∀b,S b->b<W.heap.size->w'.heap[b]?=W.heap[b]? from fun w' h b hb hlt=>(h.block b (by have:=iI.out;omega) (fun hh=>by rcases hh with hh|hh;omega;simp[Value.ownBlock]at hh)).trans (fZ.out.block b hlt));have HD:=zh (show ∀w':World,Chg (fun b=>b=fb\/(Value.slice none 0 0).ownBlock=some b) Wb w'->PV w' (fun b=>S b/\b<W.heap.size) p _/\PgR w' (fun b=>S b/\b<W.heap.size) p A1 c1 A2 c2 A3 c3 from fun w' h=>⟨xD.out.keep (fun b hb hlt=>⟨hb,hlt⟩) (oK.out w' h),HR.out.keep (fun b hb hlt=>⟨hb,hlt⟩) (oK.out w' h)⟩);have hl32:L1<=32:=by have:=eG.out.1;rw[iP.out]at this;exact this
  have hl64:L2<=64:=by have:=eG.out.2.1;rw[HL2.out]at this;exact this
  have hlc1:L1<=c1:=by have:=HR.out.lvc;rw[iP.out]at this;exact this
  have pq:L2<=c2:=by have:=HR.out.lpc;rw[HL2.out]at this;exact this
  obtain⟨⟨a0,a1,a2,a3,a4,a5⟩,ar⟩:=aW.out _ HI0.out.rd;clear hrep yK hbR qO oh hbw;go_wp2_with fail
  go_loopw [18] (fun i wr=>∃(j:Nat) (pv':Value),j<=L1/\i=.int .i64 j/\VsI Rd fb fb Wb (.slice none 0 0) (frsN p.vs j) wr pv') (fun i _=>L1-(intOf i).toNat)
  case atStart=>exact⟨0,_,Nat.zero_le _,rfl,HI0.out⟩
  case round =>
   obtain⟨j,pv',hj,rfl,hinv⟩:=hrel;have ah:=zh hinv;clear HI0 a0 a1 a2 a3 a4 a5 ar;by_cases hlt:j<L1
   ·have iB:j<p.vs.length:=by rw[iP.out];exact hlt
    obtain⟨a,u,rfl,hsa,Hu,⟨q0,q1,q2⟩,hfu⟩:=(HD.out wr hinv.chg).2.vars.nd iB;have hjc:(j:Int)<=(c1:Int):=by omega
    have hj0:(0:Int)<=(j:Int):=by omega
    obtain⟨⟨a0,a1,a2,a3,a4,a5⟩,ar⟩:=aW.out _ hinv.rd;clear hinv hsa hfu;go_upto_region 8 with fail;have hbk:Below wr.heap.size wr (wr.alloc (.cells #[.string u.s,.int .u8 u.k,.int .i64 u.n] 57)):=zkb zr _;have eD:=heap_alloc_new wr (.cells #[.string u.s,.int .u8 u.k,.int .i64 u.n] 57);obtain⟨wk,hwk⟩:=zX (wr.alloc (.cells #[.string u.s,.int .u8 u.k,.int .i64 u.n] 57));rw[hwk]at hbk eD ⊢;have fE:=zh (show wk.heap.size=wr.heap.size+1 by rw[<-hwk];simp);have aC:=zh hbk;have iy:=zh eD;clear hwk hbk eD a0 a1 a2 a3 a4 a5 ar q0 q1 q2;have HRW:=zh (show ∀w':World,Below wk.heap.size wk w'->Rd w' from fun w' h=>bg.out.keep _ _ _ _ ah.out.rd ah.out.fs (Chg.of_below (zka aC.out h)))
    have dN:=zh (show ∀w':World,Below wk.heap.size wk w'->(fun w':World=>(zN6 w' W.heap.size (.slice (some a) L1 c1) (.slice A2 L2 c2) (.int .u8 k) (.int .i64 n) (.string s) (.slice A3 l3 c3)/\(zv w' (fb+1) 0 (.func (.func 69) #[] #[.pointer (some ⟨fb,0,none⟩)])))/\zN3 w' wr.heap.size (.string u.s) (.int .u8 u.k) (.int .i64 u.n)) w'/\zU w' from fun w' h=>⟨⟨aW.out _ (HRW.out w' h),box3 ((h.block _ (by have:=fE.out;omega)).trans iy.out)⟩,trivial⟩);have hdr:=(zs wk).drew;have hSS:=dN.out _ hdr;have hbI:=zpV;have hN:=zmB p.vs j;refine wp_region_noPanic ?_;refine zkl (fun w':World=>(zN6 w' W.heap.size (.slice (some a) L1 c1) (.slice A2 L2 c2) (.int .u8 k) (.int .i64 n) (.string s) (.slice A3 l3 c3)/\(zv w' (fb+1) 0 (.func (.func 69) #[] #[.pointer (some ⟨fb,0,none⟩)])))/\zN3 w' wr.heap.size (.string u.s) (.int .u8 u.k) (.int .i64 u.n)) zU 40 (by kernel_rfl) ?_
    refine zT 0 hSS ?_;refine zT 1 hSS ?_;refine zT 3 hSS ?_;refine zT 4 hSS ?_;refine zT 5 hSS ?_;refine zT 6 hSS ?_;refine zT 7 hSS ?_;refine zT 8 hSS ?_;refine zT 9 hSS ?_;refine zT 10 hSS ?_;refine zyg (i:=2) (j:=11) (by kernel_rfl) rfl rfl (fun K hK=>?_) (fun K hK=>?_)
    ·(try simp only[zA,zB,zC]);go_simp;have b2:=zkb hdr (.cells #[.int .i64 (j:Int)] 3);refine hK.out _ _ (dN.out _ b2) ?_;clear hK K;(try simp only[zQ]);refine zo 11 fun K hK=>?_;refine zkf (by rfl) (.func 71) [.tmp 31,.tmp 33] _ (by rfl) 71 _ zpO (by rfl) _ (by rfl) _ (znQ (zmL p.vs j (by omega) (some a) c1 u.s _ _ (HD.out _ (ah.out.chg.trans (Chg.of_below (zka aC.out b2)))).2.vars HR.out.lv)) ?_;rintro vq w3 ⟨rfl,bW⟩;have b3:=zka b2 bW;refine hK.out _ _ (dN.out _ b3) ?_;clear hK K;(try simp only[zQ]);refine zo 12 fun K hK=>?_
     refine zld (by rfl) (.tmp 23) [.const (.int .i64 (-1)),.tmp 25,.tmp 27,.tmp 34] _ (by rfl) 69 _ zso #[.pointer (some ⟨fb,0,none⟩)] (by rfl) _ (by rfl) _ (zmy (zmI fb fb _ pv' (-1) _ [(j:Int)] (some ⟨wk.heap.size,0,none⟩) 1 u.s _ _ (ah.out.fs.later (zka aC.out b3)) (((zqm _ (j:Int) ⟨by omega,by omega⟩).later zr.drew).later bW) (by simp) (by omega))) ?_;rintro vq W6 hp;obtain⟨iY,bK⟩:=ah.out.step bg.out (zka aC.out b3) hp;have bI:VsI Rd fb fb Wb (.slice none 0 0) (frsN p.vs (j+1)) W6 iY:=by rw[znh iB,Hu.out];exact bK
     have av:zW (fun w':World=>(zN6 w' W.heap.size (.slice (some a) L1 c1) (.slice A2 L2 c2) (.int .u8 k) (.int .i64 n) (.string s) (.slice A3 l3 c3)/\(zv w' (fb+1) 0 (.func (.func 69) #[] #[.pointer (some ⟨fb,0,none⟩)])))/\zN3 w' wr.heap.size (.string u.s) (.int .u8 u.k) (.int .i64 u.n)) zU W6:=⟨⟨aW.out _ bI.rd,box3 ((hp.2.elim fun _ h=>h.2.2.block _ (by have:=(zka aC.out b3).size;have:=(b3).size;have:=fE.out;omega) (fun hh=>by have hl:=ah.out.fs.lt;rcases hh with hh|hh;(have:=hl.1;omega);(have:=(hl.2 _ hh).2;omega))).trans (((b3).block _ (by have:=fE.out;omega)).trans iy.out))⟩,trivial⟩
     refine hK.out _ _ av ?_;clear hK K;(try simp only[zQ]);refine zd ?_;refine NoPanic.normal ?_;have jf:=zh bI;clear bI bK hp av;go_wp2_with fail
     go_roundw
     case rel=>exact⟨j+1,_,by omega,by go_num,jf.out⟩
     case measure=>simp[intOf];omega
    ·skip
     refine zkf (by rfl) (.func 71) [.tmp 31,.tmp 33] _ (by rfl) 71 _ zpO (by rfl) _ (by rfl) _ (znQ (zmL p.vs j (by omega) (some a) c1 u.s _ _ (HD.out _ (ah.out.chg.trans (Chg.of_below (zka aC.out hdr)))).2.vars HR.out.lv)) ?_;rintro vq w2 ⟨rfl,au⟩;have b2:=zka hdr au;refine hK.out _ _ (dN.out _ b2) ?_;clear hK K;(try simp only[zQ]);refine zo 2 fun K hK=>?_;(try simp only[zA,zB,zC]);go_simp;have b3:=zkb b2 (.cells #[.int .i64 (j:Int)] 3);refine hK.out _ _ (dN.out _ b3) ?_;clear hK K;(try simp only[zQ]);refine zo 12 fun K hK=>?_
     refine zld (by rfl) (.tmp 23) [.const (.int .i64 (-1)),.tmp 25,.tmp 27,.tmp 34] _ (by rfl) 69 _ zso #[.pointer (some ⟨fb,0,none⟩)] (by rfl) _ (by rfl) _ (zmy (zmI fb fb _ pv' (-1) _ [(j:Int)] (some ⟨w2.heap.size,0,none⟩) 1 u.s _ _ (ah.out.fs.later (zka aC.out b3)) (zqm _ (j:Int) ⟨by omega,by omega⟩) (by simp) (by omega))) ?_;rintro vq W6 hp;obtain⟨iY,bK⟩:=ah.out.step bg.out (zka aC.out b3) hp;have bI:VsI Rd fb fb Wb (.slice none 0 0) (frsN p.vs (j+1)) W6 iY:=by rw[znh iB,Hu.out];exact bK
     have av:zW (fun w':World=>(zN6 w' W.heap.size (.slice (some a) L1 c1) (.slice A2 L2 c2) (.int .u8 k) (.int .i64 n) (.string s) (.slice A3 l3 c3)/\(zv w' (fb+1) 0 (.func (.func 69) #[] #[.pointer (some ⟨fb,0,none⟩)])))/\zN3 w' wr.heap.size (.string u.s) (.int .u8 u.k) (.int .i64 u.n)) zU W6:=⟨⟨aW.out _ bI.rd,box3 ((hp.2.elim fun _ h=>h.2.2.block _ (by have:=(zka aC.out b3).size;have:=(b3).size;have:=fE.out;omega) (fun hh=>by have hl:=ah.out.fs.lt;rcases hh with hh|hh;(have:=hl.1;omega);(have:=(hl.2 _ hh).2;omega))).trans (((b3).block _ (by have:=fE.out;omega)).trans iy.out))⟩,trivial⟩
     refine hK.out _ _ av ?_;clear hK K;(try simp only[zQ]);refine zd ?_;refine NoPanic.normal ?_;have jf:=zh bI;clear bI bK hp av;go_wp2_with fail
     go_roundw
     case rel=>exact⟨j+1,_,by omega,by go_num,jf.out⟩
     case measure=>simp[intOf];omega
   ·obtain rfl:L1=j:=by omega
    have iV:=zh (show VsI Rd fb fb Wb (.slice none 0 0) (frsN p.vs p.vs.length) wr pv' by rw[iP.out];exact ah.out);obtain⟨⟨a0,a1,a2,a3,a4,a5⟩,ar⟩:=aW.out _ hinv.rd;obtain⟨F1,hF1⟩:=zX (frsN p.vs p.vs.length);have hF32:F1<=32:=by have:=zmB p.vs p.vs.length;have:=eG.out.1;omega
    have wH:=zh hF1;rw[hF1]at iV;clear hinv ah hF1 hj hlt;go_wp2_with fail
    go_loopw [40] (fun i wr=>∃(j:Nat) (pv':Value),j<=L2/\i=.int .i64 j/\VsI Rd fb fb Wb (.slice none 0 0) (F1+prcN p.prs j) wr pv') (fun i _=>L2-(intOf i).toNat)
    case atStart=>exact⟨0,_,Nat.zero_le _,rfl,iV.out⟩
    case round =>
     clear iV a0 a1 a2 a3 a4 a5 ar;obtain⟨j,pv',hj,rfl,hinv⟩:=hrel;obtain⟨w0,rfl⟩:∃w0,w0=wr:=⟨_,rfl⟩
     have ah:=zh hinv;by_cases hlt:j<L2
     ·have iB:j<p.prs.length:=by rw[HL2.out];exact hlt
      obtain⟨a,r,P1,d1,P2,d2,rfl,hsa,Hr,⟨q0,q1,q2,q3,q4,q5⟩,hpr⟩:=(HD.out w0 hinv.chg).2.procs.nd iB;obtain⟨⟨a0,a1,a2,a3,a4,a5⟩,ar⟩:=aW.out _ hinv.rd;have il:=zh hpr;clear hinv hsa hpr;go_upto_region 13 with fail;have hbk:Below w0.heap.size w0 ((w0.alloc (.cells #[.int .i64 (j:Int)] 3)).alloc (.cells #[.string r.s,.slice P1 r.ps.length d1,.int .u8 r.b.k,.int .i64 r.b.n,.string r.b.s,.slice P2 r.b.ks.length d2] 75)):=zkb (zkb zr _) _;have tH:=zke (heap_alloc_new w0 (.cells #[.int .i64 (j:Int)] 3)) (.cells #[.string r.s,.slice P1 r.ps.length d1,.int .u8 r.b.k,.int .i64 r.b.n,.string r.b.s,.slice P2 r.b.ks.length d2] 75);have pQ:=heap_alloc_new (w0.alloc (.cells #[.int .i64 (j:Int)] 3)) (.cells #[.string r.s,.slice P1 r.ps.length d1,.int .u8 r.b.k,.int .i64 r.b.n,.string r.b.s,.slice P2 r.b.ks.length d2] 75);simp only[World.size_alloc]at pQ
      obtain⟨wk,hwk⟩:=zX ((w0.alloc (.cells #[.int .i64 (j:Int)] 3)).alloc (.cells #[.string r.s,.slice P1 r.ps.length d1,.int .u8 r.b.k,.int .i64 r.b.n,.string r.b.s,.slice P2 r.b.ks.length d2] 75));rw[hwk]at hbk tH pQ ⊢;have fE:=zh (show wk.heap.size=w0.heap.size+2 by rw[<-hwk];simp);have aC:=zh hbk;obtain⟨jD,pV⟩:∃jD:World->Prop,(fun W':World=>(Rd W'/\W'.heap[w0.heap.size]?=some (.cells #[.int .i64 (j:Int)] 3 (0,0)))/\W'.heap[w0.heap.size+1]?=some (.cells #[.string r.s,.slice P1 r.ps.length d1,.int .u8 r.b.k,.int .i64 r.b.n,.string r.b.s,.slice P2 r.b.ks.length d2] 75 (0,0)))=jD:=⟨_,rfl⟩
      have jE:=zh (show ∀w':World,jD w'->(fun W':World=>(Rd W'/\W'.heap[w0.heap.size]?=some (.cells #[.int .i64 (j:Int)] 3 (0,0)))/\W'.heap[w0.heap.size+1]?=some (.cells #[.string r.s,.slice P1 r.ps.length d1,.int .u8 r.b.k,.int .i64 r.b.n,.string r.b.s,.slice P2 r.b.ks.length d2] 75 (0,0))) w' from fun w' h=>by rw[<-pV]at h;exact h);have aR:=zh (show ∀(W W':World) (pv:Value) (N:Nat),jD W->FS W fb fb N pv->Chg (fun b=>b=fb\/pv.ownBlock=some b) W W'->jD W' from fun W W' pv N h hfs hc=>by rw[<-pV]at h ⊢;exact⟨⟨bg.out.keep _ _ _ _ h.1.1 hfs hc,hc.keep h.1.2 (hfs.other h.1.2 (by decide) (by decide))⟩,hc.keep h.2 (hfs.other h.2 (by decide) (by decide))⟩);have HI2:=zh (show VsI jD fb fb wk pv' (F1+prcN p.prs j) wk pv' from⟨by rw[<-pV];exact⟨⟨bg.out.keep _ _ _ _ ah.out.rd ah.out.fs (Chg.of_below hbk),tH⟩,pQ⟩,ah.out.fs.later hbk,fun b hb=>.inl hb,Chg.refl _ _⟩)
      have dH:=zh (show ∀w':World,jD w'->(fun w':World=>(zN6 w' W.heap.size (.slice A1 L1 c1) (.slice (some a) L2 c2) (.int .u8 k) (.int .i64 n) (.string s) (.slice A3 l3 c3)/\(zv w' (fb+1) 0 (.func (.func 69) #[] #[.pointer (some ⟨fb,0,none⟩)])))/\(zv w' w0.heap.size 0 (.int .i64 (j:Int)))/\zN6 w' (w0.heap.size+1) (.string r.s) (.slice P1 r.ps.length d1) (.int .u8 r.b.k) (.int .i64 r.b.n) (.string r.b.s) (.slice P2 r.b.ks.length d2)) w' from fun w' h=>⟨aW.out w' (jE.out w' h).1.1,zc (jE.out w' h).1.2 rfl,box6 (jE.out w' h).2⟩)
      have HD2:=zh (show ∀w':World,Chg (fun b=>b=fb\/pv'.ownBlock=some b) wk w'->PV w' (fun b=>S b/\b<W.heap.size) p _/\PrR w' (fun b=>S b/\b<W.heap.size) r P1 d1 P2 d2 from fun w' h=>⟨(HD.out w' (ah.out.chg2 aC.out h)).1,il.out.keep (fun b hb _=>hb) fun b hb _=>(oK.out w' (ah.out.chg2 aC.out h) b hb.1 hb.2).trans (oK.out w0 ah.out.chg b hb.1 hb.2).symm⟩)
      have dN:=zh (show ∀w':World,Below wk.heap.size wk w'->(fun w':World=>(zN6 w' W.heap.size (.slice A1 L1 c1) (.slice (some a) L2 c2) (.int .u8 k) (.int .i64 n) (.string s) (.slice A3 l3 c3)/\(zv w' (fb+1) 0 (.func (.func 69) #[] #[.pointer (some ⟨fb,0,none⟩)])))/\(zv w' w0.heap.size 0 (.int .i64 (j:Int)))/\zN6 w' (w0.heap.size+1) (.string r.s) (.slice P1 r.ps.length d1) (.int .u8 r.b.k) (.int .i64 r.b.n) (.string r.b.s) (.slice P2 r.b.ks.length d2)) w'/\zU w' from fun w' h=>⟨dH.out w' (aR.out _ _ _ _ HI2.out.rd HI2.out.fs (Chg.of_below h)),trivial⟩);clear hwk hbk tH pQ pV a0 a1 a2 a3 a4 a5 ar q0 q1 q2 q3 q4 q5;have hdr:=(zs wk).drew;have hSS:=dN.out _ hdr;have hrb:=eG.out.2.2.1 r (by rw[<-Hr.out];exact List.getElem_mem iB);have hpN:=zrf p.prs eG.out.2.2.1 j;obtain⟨rb1,rb2,rb3⟩:=hrb;refine wp_region_noPanic ?_
      refine zkl (fun w':World=>(zN6 w' W.heap.size (.slice A1 L1 c1) (.slice (some a) L2 c2) (.int .u8 k) (.int .i64 n) (.string s) (.slice A3 l3 c3)/\(zv w' (fb+1) 0 (.func (.func 69) #[] #[.pointer (some ⟨fb,0,none⟩)])))/\(zv w' w0.heap.size 0 (.int .i64 (j:Int)))/\zN6 w' (w0.heap.size+1) (.string r.s) (.slice P1 r.ps.length d1) (.int .u8 r.b.k) (.int .i64 r.b.n) (.string r.b.s) (.slice P2 r.b.ks.length d2)) zU 40 (by kernel_rfl) ?_;refine zT 0 hSS ?_;refine zT 1 hSS ?_;refine zT 2 hSS ?_;refine zT 4 hSS ?_;refine zo 3 fun K hK=>?_;refine zkf (by rfl) (.func 72) [.tmp 45,.tmp 47] _ (by rfl) 72 _ zyZ (by rfl) _ (by rfl) _ (znQ (zns p _ _ r.s _ (HD2.out _ (Chg.of_below hdr)).1)) ?_;rintro vq w2 ⟨rfl,au⟩;have b2:=zka hdr au;have aM:=dN.out _ b2;obtain⟨PE,Bg⟩:=zX (zlL p.prs r.s);rw[Bg];have HPE:=zh Bg;refine hK.out _ _ aM ?_;clear hK K hSS Bg
      (try simp only[zQ]);have uK:=zh (show VsI jD fb fb wk pv' (F1+prcN p.prs j) w2 pv' from⟨aR.out _ _ _ _ HI2.out.rd HI2.out.fs (Chg.of_below b2),HI2.out.fs.later b2,fun b hb=>.inl hb,Chg.of_below b2⟩);by_cases hpe:PE<(j:Int)
      ·have hd:decide (PE<(j:Int))=true:=decide_eq_true hpe;obtain⟨E1,hE1⟩:=zX (one1 (22));have hE2:E1<=1:=by rw[<-hE1];exact zmZ _
       have jY:=zh (show one1 (if zlL p.prs r.s<(j:Int)then 22 else 0)=E1 by rw[HPE.out,if_pos hpe];exact hE1);refine zT 5 aM ?_;refine zd ?_;refine NoPanic.normal ?_;obtain⟨⟨⟨a0,a1,a2,a3,a4,a5⟩,ar⟩,ai,r0,r1,r2,r3,r4,r5⟩:=aM.1;clear aM;go_wp2_with fail;refine(zmJ fb fb _ pv' (j:Int) 22 [] none 0 r.s Any w2 uK.out.fs RowI.nil (by simp) (by omega)).mono ?_;rintro e w3 hp;obtain⟨v3,rfl⟩:=hp.1;obtain⟨pv3,hi3⟩:=uK.out.stepK aR.out zr hp;rw[hE1]at hi3;have HI3:=zh hi3;clear hp a0 a1 a2 a3 a4 a5 ar ai r0 r1 r2 r3 r4 r5;obtain⟨⟨⟨a0,a1,a2,a3,a4,a5⟩,ar⟩,ai,r0,r1,r2,r3,r4,r5⟩:=dH.out _ hi3.rd;clear hi3 hE1;go_wp2_with fail
       go_loopw [59] (fun x w'=>∃(i:Nat) (lV:Value),i<=r.ps.length/\x=.int .i64 i/\VsI jD fb fb wk pv' (F1+prcN p.prs j+E1+frsN r.ps i) w' lV) (fun x _=>r.ps.length-(intOf x).toNat)
       case atStart=>exact⟨0,_,Nat.zero_le _,rfl,HI3.out⟩
       case round =>
        clear HI3 a0 a1 a2 a3 a4 a5 ar ai r0 r1 r2 r3 r4 r5;obtain⟨i,lV,hi,rfl,hinv⟩:=hrel;have bM:=zh hinv;by_cases sM:i<r.ps.length
        ·obtain⟨a',u,rfl,hsa,Hu,⟨q0,q1,q2⟩,hfu⟩:=(HD2.out wr hinv.chg).2.row.nd sM;have hic:(i:Int)<=(d1:Int):=by have:=il.out.lc;omega
         have hi0:(0:Int)<=(i:Int):=by omega
         obtain⟨⟨⟨a0,a1,a2,a3,a4,a5⟩,ar⟩,ai,r0,r1,r2,r3,r4,r5⟩:=dH.out _ hinv.rd;clear hinv hsa hfu;go_upto_region 18 with fail;have hbk:Below wr.heap.size wr (wr.alloc (.cells #[.string u.s,.int .u8 u.k,.int .i64 u.n] 57)):=zkb zr _;have eD:=heap_alloc_new wr (.cells #[.string u.s,.int .u8 u.k,.int .i64 u.n] 57);obtain⟨wv,hwv⟩:=zX (wr.alloc (.cells #[.string u.s,.int .u8 u.k,.int .i64 u.n] 57));rw[hwv]at hbk eD ⊢;have uh:=zh (show wv.heap.size=wr.heap.size+1 by rw[<-hwv];simp);have nQ:=zh hbk;have iy:=zh eD;clear hwv hbk eD a0 a1 a2 a3 a4 a5 ar ai r0 r1 r2 r3 r4 r5 q0 q1 q2
         have qF:=zh (show ∀w':World,Below wv.heap.size wv w'->(fun w':World=>(fun w':World=>(zN6 w' W.heap.size (.slice A1 L1 c1) (.slice (some a) L2 c2) (.int .u8 k) (.int .i64 n) (.string s) (.slice A3 l3 c3)/\(zv w' (fb+1) 0 (.func (.func 69) #[] #[.pointer (some ⟨fb,0,none⟩)])))/\(zv w' w0.heap.size 0 (.int .i64 (j:Int)))/\zN6 w' (w0.heap.size+1) (.string r.s) (.slice (some a') r.ps.length d1) (.int .u8 r.b.k) (.int .i64 r.b.n) (.string r.b.s) (.slice P2 r.b.ks.length d2)) w'/\zN3 w' wr.heap.size (.string u.s) (.int .u8 u.k) (.int .i64 u.n)) w'/\zU w' from fun w' h=>⟨⟨dH.out _ (aR.out _ _ _ _ bM.out.rd bM.out.fs (Chg.of_below (zka nQ.out h))),box3 ((h.block _ (by have:=uh.out;omega)).trans iy.out)⟩,trivial⟩);have hdv:=(zs wv).drew;have hSS:=qF.out _ hdv;have AZ:=zmB r.ps i;refine wp_region_noPanic ?_
         refine zkl (fun w':World=>(fun w':World=>(zN6 w' W.heap.size (.slice A1 L1 c1) (.slice (some a) L2 c2) (.int .u8 k) (.int .i64 n) (.string s) (.slice A3 l3 c3)/\(zv w' (fb+1) 0 (.func (.func 69) #[] #[.pointer (some ⟨fb,0,none⟩)])))/\(zv w' w0.heap.size 0 (.int .i64 (j:Int)))/\zN6 w' (w0.heap.size+1) (.string r.s) (.slice (some a') r.ps.length d1) (.int .u8 r.b.k) (.int .i64 r.b.n) (.string r.b.s) (.slice P2 r.b.ks.length d2)) w'/\zN3 w' wr.heap.size (.string u.s) (.int .u8 u.k) (.int .i64 u.n)) zU 40 (by kernel_rfl) ?_;refine zT 0 hSS ?_;refine zT 1 hSS ?_;refine zT 2 hSS ?_;refine zT 3 hSS ?_;refine zT 4 hSS ?_;refine zT 5 hSS ?_;refine zT 6 hSS ?_;refine zT 7 hSS ?_;refine zT 8 hSS ?_;refine zT 9 hSS ?_;refine zo 10 fun K hK=>?_
         refine zkf (by rfl) (.func 71) [.tmp 71,.tmp 73] _ (by rfl) 71 _ zpO (by rfl) _ (by rfl) _ (znQ (zmL r.ps i (by omega) (some a') d1 u.s _ _ (HD2.out _ (bM.out.chg.trans (Chg.of_below (zka nQ.out hdv)))).2.row il.out.lp)) ?_;rintro vq w5 ⟨rfl,fK⟩;have b5:=zka hdv fK;refine hK.out _ _ (qF.out _ b5) ?_;clear hK K hSS;(try simp only[zQ]);refine zo 11 fun K hK=>?_;refine zld (by rfl) (.tmp 64) [.tmp 65,.const (.slice none 0 0),.tmp 67,.tmp 74] _ (by rfl) 69 _ zso #[.pointer (some ⟨fb,0,none⟩)] (by rfl) _ (by rfl) _ (zmy (zmI fb fb _ lV (j:Int) _ [] none 0 u.s Any _ (bM.out.fs.later (zka nQ.out b5)) RowI.nil (by simp) (by omega))) ?_;rintro vq W6 hp;obtain⟨iY,bK⟩:=bM.out.stepK aR.out (zka nQ.out b5) hp
         have bI:VsI jD fb fb wk pv' (F1+prcN p.prs j+E1+frsN r.ps (i+1)) W6 iY:=by rw[znh sM,Hu.out,<-Nat.add_assoc];exact bK
         have av:zW (fun w':World=>(fun w':World=>(zN6 w' W.heap.size (.slice A1 L1 c1) (.slice (some a) L2 c2) (.int .u8 k) (.int .i64 n) (.string s) (.slice A3 l3 c3)/\(zv w' (fb+1) 0 (.func (.func 69) #[] #[.pointer (some ⟨fb,0,none⟩)])))/\(zv w' w0.heap.size 0 (.int .i64 (j:Int)))/\zN6 w' (w0.heap.size+1) (.string r.s) (.slice (some a') r.ps.length d1) (.int .u8 r.b.k) (.int .i64 r.b.n) (.string r.b.s) (.slice P2 r.b.ks.length d2)) w'/\zN3 w' wr.heap.size (.string u.s) (.int .u8 u.k) (.int .i64 u.n)) zU W6:=⟨⟨dH.out _ bI.rd,box3 ((hp.2.elim fun _ h=>h.2.2.block _ (by have:=(zka nQ.out b5).size;have:=b5.size;have:=uh.out;omega) (fun hh=>by have hl:=bM.out.fs.lt;rcases hh with hh|hh;(have:=hl.1;omega);(have:=(hl.2 _ hh).2;omega))).trans ((b5.block _ (by have:=uh.out;omega)).trans iy.out))⟩,trivial⟩
         refine hK.out _ _ av ?_;clear hK K;(try simp only[zQ]);refine zd ?_;refine NoPanic.normal ?_;have jf:=zh bI;clear bI bK hp av;go_wp2_with fail
         go_roundw
         case rel=>exact⟨i+1,_,by omega,by go_num,jf.out⟩
         case measure=>simp[intOf];omega
        ·have hil:i=r.ps.length:=by omega
         obtain⟨⟨⟨a0,a1,a2,a3,a4,a5⟩,ar⟩,ai,r0,r1,r2,r3,r4,r5⟩:=dH.out _ hinv.rd;have hge:¬ ((i:Int)<(r.ps.length:Int)):=by omega
         clear hinv;go_wp2_with fail;have AZ:=zmB r.ps r.ps.length;have aK:=zh (show VsI jD fb fb wk pv' (F1+prcN p.prs j+E1+frsN r.ps r.ps.length) wr lV by rw[<-hil];exact bM.out);have yu:=bM.out.chg.size;have hzk:=fE.out;have hz0:=ah.out.chg.size;have hzb:=iI.out;refine(znB 74 _ _ fb fb (zsC fb fb (fb+1) w0.heap.size (j:Int)) p r.b (fun b=>S b/\b<W.heap.size) r.ps P1 d1 [] none 0 (F1+prcN p.prs j+E1+frsN r.ps r.ps.length) lV wr _ _ ⟨(oz.out _ (jE.out _ aK.out.rd).1.1).1,(jE.out _ aK.out.rd).1.2⟩ aK.out.fs (HD2.out _ aK.out.chg).1 (HD2.out _ aK.out.chg).2.body (HD2.out _ aK.out.chg).2.row il.out.lc RowI.nil (Nat.zero_le _) (fun b hb hbl hh=>?_) (by simp;omega) (by omega) (by omega)).mono ?_
         ·rcases hh with hh|hh
          ·have:=hb.2;omega
          ·rcases aK.out.own b hh with h1|h1
           ·have:=(ah.out.fs.lt.2 b h1).1;have:=hb.2;omega
           ·have:=hb.2;omega
         rintro e W6 hp;obtain⟨v6,rfl⟩:=hp.1;obtain⟨iY,bK⟩:=aK.out.stepK aR.out zr hp;obtain⟨zz,bI⟩:=ah.out.step bg.out aC.out (bK.rep zr (e:=.returned undef) ⟨_,rfl⟩);have Cq:=zh (show VsI Rd fb fb Wb (.slice none 0 0) (F1+prcN p.prs (j+1)) W6 zz by rw[zok iB,Hr.out,prcE,jY.out];simpa only[Nat.add_assoc]using bI);clear bI bK hp a0 a1 a2 a3 a4 a5 ar ai r0 r1 r2 r3 r4 r5;go_wp2_with fail
         go_roundw
         case rel=>exact⟨j+1,_,by omega,by go_num,Cq.out⟩
         case measure=>simp[intOf];omega
      ·have hd:decide (PE<(j:Int))=false:=decide_eq_false hpe;obtain⟨E1,hE1⟩:=zX (one1 (0));have hE2:E1<=1:=by rw[<-hE1];exact zmZ _
       have jY:=zh (show one1 (if zlL p.prs r.s<(j:Int)then 22 else 0)=E1 by rw[HPE.out,if_neg hpe];exact hE1);refine zT 5 aM ?_;refine zd ?_;refine NoPanic.normal ?_;obtain⟨⟨⟨a0,a1,a2,a3,a4,a5⟩,ar⟩,ai,r0,r1,r2,r3,r4,r5⟩:=aM.1;clear aM;go_wp2_with fail;have HI3:=zh (show VsI jD fb fb wk pv' (F1+prcN p.prs j+E1) w2 pv' by rw[<-hE1];exact uK.out);clear hE1
       go_loopw [59] (fun x w'=>∃(i:Nat) (lV:Value),i<=r.ps.length/\x=.int .i64 i/\VsI jD fb fb wk pv' (F1+prcN p.prs j+E1+frsN r.ps i) w' lV) (fun x _=>r.ps.length-(intOf x).toNat)
       case atStart=>exact⟨0,_,Nat.zero_le _,rfl,HI3.out⟩
       case round =>
        clear HI3 a0 a1 a2 a3 a4 a5 ar ai r0 r1 r2 r3 r4 r5;obtain⟨i,lV,hi,rfl,hinv⟩:=hrel;have bM:=zh hinv;by_cases sM:i<r.ps.length
        ·obtain⟨a',u,rfl,hsa,Hu,⟨q0,q1,q2⟩,hfu⟩:=(HD2.out wr hinv.chg).2.row.nd sM;have hic:(i:Int)<=(d1:Int):=by have:=il.out.lc;omega
         have hi0:(0:Int)<=(i:Int):=by omega
         obtain⟨⟨⟨a0,a1,a2,a3,a4,a5⟩,ar⟩,ai,r0,r1,r2,r3,r4,r5⟩:=dH.out _ hinv.rd;clear hinv hsa hfu;go_upto_region 18 with fail;have hbk:Below wr.heap.size wr (wr.alloc (.cells #[.string u.s,.int .u8 u.k,.int .i64 u.n] 57)):=zkb zr _;have eD:=heap_alloc_new wr (.cells #[.string u.s,.int .u8 u.k,.int .i64 u.n] 57);obtain⟨wv,hwv⟩:=zX (wr.alloc (.cells #[.string u.s,.int .u8 u.k,.int .i64 u.n] 57));rw[hwv]at hbk eD ⊢;have uh:=zh (show wv.heap.size=wr.heap.size+1 by rw[<-hwv];simp);have nQ:=zh hbk;have iy:=zh eD;clear hwv hbk eD a0 a1 a2 a3 a4 a5 ar ai r0 r1 r2 r3 r4 r5 q0 q1 q2
         have qF:=zh (show ∀w':World,Below wv.heap.size wv w'->(fun w':World=>(fun w':World=>(zN6 w' W.heap.size (.slice A1 L1 c1) (.slice (some a) L2 c2) (.int .u8 k) (.int .i64 n) (.string s) (.slice A3 l3 c3)/\(zv w' (fb+1) 0 (.func (.func 69) #[] #[.pointer (some ⟨fb,0,none⟩)])))/\(zv w' w0.heap.size 0 (.int .i64 (j:Int)))/\zN6 w' (w0.heap.size+1) (.string r.s) (.slice (some a') r.ps.length d1) (.int .u8 r.b.k) (.int .i64 r.b.n) (.string r.b.s) (.slice P2 r.b.ks.length d2)) w'/\zN3 w' wr.heap.size (.string u.s) (.int .u8 u.k) (.int .i64 u.n)) w'/\zU w' from fun w' h=>⟨⟨dH.out _ (aR.out _ _ _ _ bM.out.rd bM.out.fs (Chg.of_below (zka nQ.out h))),box3 ((h.block _ (by have:=uh.out;omega)).trans iy.out)⟩,trivial⟩);have hdv:=(zs wv).drew;have hSS:=qF.out _ hdv;have AZ:=zmB r.ps i;refine wp_region_noPanic ?_
         refine zkl (fun w':World=>(fun w':World=>(zN6 w' W.heap.size (.slice A1 L1 c1) (.slice (some a) L2 c2) (.int .u8 k) (.int .i64 n) (.string s) (.slice A3 l3 c3)/\(zv w' (fb+1) 0 (.func (.func 69) #[] #[.pointer (some ⟨fb,0,none⟩)])))/\(zv w' w0.heap.size 0 (.int .i64 (j:Int)))/\zN6 w' (w0.heap.size+1) (.string r.s) (.slice (some a') r.ps.length d1) (.int .u8 r.b.k) (.int .i64 r.b.n) (.string r.b.s) (.slice P2 r.b.ks.length d2)) w'/\zN3 w' wr.heap.size (.string u.s) (.int .u8 u.k) (.int .i64 u.n)) zU 40 (by kernel_rfl) ?_;refine zT 0 hSS ?_;refine zT 1 hSS ?_;refine zT 2 hSS ?_;refine zT 3 hSS ?_;refine zT 4 hSS ?_;refine zT 5 hSS ?_;refine zT 6 hSS ?_;refine zT 7 hSS ?_;refine zT 8 hSS ?_;refine zT 9 hSS ?_;refine zo 10 fun K hK=>?_
         refine zkf (by rfl) (.func 71) [.tmp 71,.tmp 73] _ (by rfl) 71 _ zpO (by rfl) _ (by rfl) _ (znQ (zmL r.ps i (by omega) (some a') d1 u.s _ _ (HD2.out _ (bM.out.chg.trans (Chg.of_below (zka nQ.out hdv)))).2.row il.out.lp)) ?_;rintro vq w5 ⟨rfl,fK⟩;have b5:=zka hdv fK;refine hK.out _ _ (qF.out _ b5) ?_;clear hK K hSS;(try simp only[zQ]);refine zo 11 fun K hK=>?_;refine zld (by rfl) (.tmp 64) [.tmp 65,.const (.slice none 0 0),.tmp 67,.tmp 74] _ (by rfl) 69 _ zso #[.pointer (some ⟨fb,0,none⟩)] (by rfl) _ (by rfl) _ (zmy (zmI fb fb _ lV (j:Int) _ [] none 0 u.s Any _ (bM.out.fs.later (zka nQ.out b5)) RowI.nil (by simp) (by omega))) ?_;rintro vq W6 hp;obtain⟨iY,bK⟩:=bM.out.stepK aR.out (zka nQ.out b5) hp
         have bI:VsI jD fb fb wk pv' (F1+prcN p.prs j+E1+frsN r.ps (i+1)) W6 iY:=by rw[znh sM,Hu.out,<-Nat.add_assoc];exact bK
         have av:zW (fun w':World=>(fun w':World=>(zN6 w' W.heap.size (.slice A1 L1 c1) (.slice (some a) L2 c2) (.int .u8 k) (.int .i64 n) (.string s) (.slice A3 l3 c3)/\(zv w' (fb+1) 0 (.func (.func 69) #[] #[.pointer (some ⟨fb,0,none⟩)])))/\(zv w' w0.heap.size 0 (.int .i64 (j:Int)))/\zN6 w' (w0.heap.size+1) (.string r.s) (.slice (some a') r.ps.length d1) (.int .u8 r.b.k) (.int .i64 r.b.n) (.string r.b.s) (.slice P2 r.b.ks.length d2)) w'/\zN3 w' wr.heap.size (.string u.s) (.int .u8 u.k) (.int .i64 u.n)) zU W6:=⟨⟨dH.out _ bI.rd,box3 ((hp.2.elim fun _ h=>h.2.2.block _ (by have:=(zka nQ.out b5).size;have:=b5.size;have:=uh.out;omega) (fun hh=>by have hl:=bM.out.fs.lt;rcases hh with hh|hh;(have:=hl.1;omega);(have:=(hl.2 _ hh).2;omega))).trans ((b5.block _ (by have:=uh.out;omega)).trans iy.out))⟩,trivial⟩
         refine hK.out _ _ av ?_;clear hK K;(try simp only[zQ]);refine zd ?_;refine NoPanic.normal ?_;have jf:=zh bI;clear bI bK hp av;go_wp2_with fail
         go_roundw
         case rel=>exact⟨i+1,_,by omega,by go_num,jf.out⟩
         case measure=>simp[intOf];omega
        ·have hil:i=r.ps.length:=by omega
         obtain⟨⟨⟨a0,a1,a2,a3,a4,a5⟩,ar⟩,ai,r0,r1,r2,r3,r4,r5⟩:=dH.out _ hinv.rd;have hge:¬ ((i:Int)<(r.ps.length:Int)):=by omega
         clear hinv;go_wp2_with fail;have AZ:=zmB r.ps r.ps.length;have aK:=zh (show VsI jD fb fb wk pv' (F1+prcN p.prs j+E1+frsN r.ps r.ps.length) wr lV by rw[<-hil];exact bM.out);have yu:=bM.out.chg.size;have hzk:=fE.out;have hz0:=ah.out.chg.size;have hzb:=iI.out;refine(znB 74 _ _ fb fb (zsC fb fb (fb+1) w0.heap.size (j:Int)) p r.b (fun b=>S b/\b<W.heap.size) r.ps P1 d1 [] none 0 (F1+prcN p.prs j+E1+frsN r.ps r.ps.length) lV wr _ _ ⟨(oz.out _ (jE.out _ aK.out.rd).1.1).1,(jE.out _ aK.out.rd).1.2⟩ aK.out.fs (HD2.out _ aK.out.chg).1 (HD2.out _ aK.out.chg).2.body (HD2.out _ aK.out.chg).2.row il.out.lc RowI.nil (Nat.zero_le _) (fun b hb hbl hh=>?_) (by simp;omega) (by omega) (by omega)).mono ?_
         ·rcases hh with hh|hh
          ·have:=hb.2;omega
          ·rcases aK.out.own b hh with h1|h1
           ·have:=(ah.out.fs.lt.2 b h1).1;have:=hb.2;omega
           ·have:=hb.2;omega
         rintro e W6 hp;obtain⟨v6,rfl⟩:=hp.1;obtain⟨iY,bK⟩:=aK.out.stepK aR.out zr hp;obtain⟨zz,bI⟩:=ah.out.step bg.out aC.out (bK.rep zr (e:=.returned undef) ⟨_,rfl⟩);have Cq:=zh (show VsI Rd fb fb Wb (.slice none 0 0) (F1+prcN p.prs (j+1)) W6 zz by rw[zok iB,Hr.out,prcE,jY.out];simpa only[Nat.add_assoc]using bI);clear bI bK hp a0 a1 a2 a3 a4 a5 ar ai r0 r1 r2 r3 r4 r5;go_wp2_with fail
         go_roundw
         case rel=>exact⟨j+1,_,by omega,by go_num,Cq.out⟩
         case measure=>simp[intOf];omega
     ·have hjl:j=L2:=by omega
      obtain⟨⟨a0,a1,a2,a3,a4,a5⟩,ar⟩:=aW.out _ hinv.rd;have hge:¬ ((j:Int)<(L2:Int)):=by omega
      have bR:=zh (show VsI Rd fb fb Wb (.slice none 0 0) (F1+prcN p.prs p.prs.length) w0 pv' by rw[HL2.out,<-hjl];exact ah.out);clear hinv;go_wp2_with fail;have hpN:=zrf p.prs eG.out.2.2.1 p.prs.length;have hvb:=eG.out;have yu:=ah.out.chg.size;have hzb:=iI.out;have uY:=(HD.out _ bR.out.chg).2.main;rw[oF.out.1,oF.out.2.1,oF.out.2.2.1,oF.out.2.2.2]at uY;have hcall:=znB _ _ Rd fb fb bg.out p p.m (fun b=>S b/\b<W.heap.size) p.vs A1 c1 [] none 0 (F1+prcN p.prs p.prs.length) pv' w0 _ _ bR.out.rd bR.out.fs (HD.out _ bR.out.chg).1 uY (HD.out _ bR.out.chg).2.vars HR.out.lvc RowI.nil (Nat.zero_le _) (fun b hb hbl hh=>by rcases hh with hh|hh;(have:=hb.2;omega);(rcases bR.out.own b hh with h1|h1;(simp[Value.ownBlock]at h1);(have:=hb.2;omega))) (by simp;omega) (by omega) (by omega);rw[iP.out]at hcall;refine hcall.mono ?_;clear hcall;rintro e W6 hp
      obtain⟨v6,rfl⟩:=hp.1;obtain⟨iY,bK⟩:=bR.out.step bg.out zr hp;rw[show F1+prcN p.prs p.prs.length+cntV p.prs p.m p.vs=NN by rw[<-HNN2.out,chkN,wH.out]]at bK;obtain⟨A6,c6,rfl⟩:=bK.fs.slice;have hf6:W6.cell? ⟨fb,0,none⟩=some (.slice A6 NN c6):=zc bK.fs.box rfl;have zt:=zh (show Below W.heap.size W W6 from fZ.out.trans (bK.chg.below (by omega) (fun b hb=>by rcases hb with hb|hb;omega;simp[Value.ownBlock]at hb)));clear bK hp uY hvb a0 a1 a2 a3 a4 a5 ar;go_wp2_with fail;go_ret;exact⟨A6,c6,rfl,zt.out⟩
theorem zt3:∀(prs:List PR) (s:ByteArray),prcI prs s=idxP prs s
 | [],_=>rfl
 | q::qs,s=>by
  unfold prcI;rw[zt3 qs s];unfold idxP;rw[List.findIdx?_cons]
def CalB(prs:List PR)(t:T):Prop:=∀u∈po t,(u.k=50\/u.k=51)->∃i,prcI prs u.s=some i
theorem zyS:∀(t:T),isE t=true->∀x∈po t,isE x=true:=by
 intro t
 induction t using T.ind with
 | _ k n s ks ih =>
  intro h x hx;simp only[po,List.mem_cons]at hx;rcases hx with rfl|hx
  ·exact h
  ·obtain⟨t,ht,hx⟩:=zmj.1 hx;exact ih t ht (zwK h t ht) x hx
theorem CalB.expr{prs:List PR}{t:T}(h:isE t=true):CalB prs t:=fun u hu hk=>by
 have:=zwL u (zyS t h u hu);omega
theorem CalB.kid{prs:List PR}{k n:Int}{s:ByteArray}{ks:List T}(h:CalB prs (.nd k n s ks)){t:T}(ht:t∈ks):CalB prs t:=fun u hu=>h u (by simp only[po,List.mem_cons];exact .inr (zmj.2 ⟨t,ht,hu⟩))
theorem zoE{prs:List PR}{k:Int}{s:ByteArray}{vs:List VD}:∀ {ks:List T} {i:Nat},cntK prs k s i ks vs=0->∀t∈ks,∃vs',cntV prs t vs'=0
 | [],_,_,t,ht=>by cases ht
 | u::us,i,h,t,ht=>by
  rw[cntK]at h;obtain⟨h1,h2⟩:=Nat.add_eq_zero_iff.1 h;rcases List.mem_cons.1 ht with rfl|ht
  ·exact⟨_,h1⟩
  ·exact zoE h2 t ht
theorem zuc{e:Int}(h:one1 e=0):e=0:=by
 unfold one1 at h
 split at h
 ·assumption
 ·omega
theorem zx7:∀(t:T) (prs:List PR) (vs:List VD),(isS t=true\/isB t=true\/isE t=true)->cntV prs t vs=0->CalB prs t:=by
 intro t
 induction t using T.ind with
 | _ k n s ks ih =>
  intro prs vs ht h;rcases ht with hs|hb|he
  ·rw[cntV]at h;intro u hu hk;simp only[po,List.mem_cons]at hu;by_cases hc:k=50\/k=51
   ·rcases hu with rfl|hu
    ·have h0:=zuc (e:=zlr prs k s ks.length vs) (by omega);unfold zlr at h0;rw[if_neg (by omega),if_neg (by omega),if_neg (by omega),if_neg (by omega),if_pos hc]at h0;rw[zt3]
     cases hi:idxP prs s with
     | none=>rw[hi]at h0;simp at h0
     | some i=>exact⟨i,hi⟩
    ·obtain⟨t,ht,hx⟩:=zmj.1 hu;have h57:t.k≠57:=by
      rcases zng hs with⟨_,h1⟩|⟨h1,_⟩|⟨h1,_⟩|⟨h1,_⟩
      ·exact h1 t ht
      all_goals omega
     rcases(zxY hs).2 t ht with h1|h1
     ·exact CalB.expr h1 u hx hk
     ·exact absurd (zK0 h1) h57
   ·rw[if_neg hc]at h;rcases hu with rfl|hu
    ·exact absurd hk hc
    ·obtain⟨t,ht,hx⟩:=zmj.1 hu;obtain⟨vs',hv⟩:=zoE (Nat.add_eq_zero_iff.1 h).2 t ht;rcases(zxY hs).2 t ht with h1|h1
     ·exact CalB.expr h1 u hx hk
     ·exact ih t ht prs vs' (.inr (.inl h1)) hv u hx hk
  ·obtain⟨h57,hks⟩:=zsk _ _ _ _ hb;rw[cntV,if_neg (by omega)]at h;intro u hu hk;simp only[po,List.mem_cons]at hu;rcases hu with rfl|hu
   ·simp only[T.k_nd]at hk;omega
   ·obtain⟨t,ht,hx⟩:=zmj.1 hu;obtain⟨vs',hv⟩:=zoE (Nat.add_eq_zero_iff.1 h).2 t ht;exact ih t ht prs vs' (.inl (hks t ht)) hv u hx hk
  ·exact CalB.expr he
def GP(prs:List PR)(t:T):Prop:=isS t=true/\CalB prs t/\∀q∈prs,isB q.b=true/\CalB prs q.b
theorem GP.block{prs:List PR}{b:T}(hb:isB b=true)(hc:CalB prs b)(hq:∀q∈prs,isB q.b=true/\CalB prs q.b):∀u∈b.ks,GP prs u:=by
 obtain⟨k,n,s,ks⟩:=b;exact fun u hu=>⟨(zsk _ _ _ _ hb).2 u hu,hc.kid hu,hq⟩
theorem zxG:GC GP where
 two:=fun prs t h hk=>by
  obtain⟨k,n,s,ks⟩:=t;obtain⟨hs,hc,hq⟩:=h;simp only[T.k_nd]at hk;rcases zng hs with⟨h1,_⟩|⟨_,_,a,b,c,d,rfl,_,hb1,hb2,_⟩|⟨h1,_⟩|⟨h1,_⟩
  ·omega
  ·exact⟨rfl,GP.block hb1 (hc.kid (t:=b) (by simp)) hq,GP.block hb2 (hc.kid (t:=c) (by simp)) hq⟩
  ·omega
  ·omega
 loc:=fun prs t h hk=>by
  obtain⟨k,n,s,ks⟩:=t;obtain⟨hs,hc,hq⟩:=h;simp only[T.k_nd]at hk;rcases zng hs with⟨h1,_⟩|⟨h1,_⟩|⟨_,_,a,b,c,rfl,_,hb1,_⟩|⟨h1,_⟩
  ·omega
  ·omega
  ·exact⟨rfl,GP.block hb1 (hc.kid (t:=b) (by simp)) hq⟩
  ·omega
 stk:=fun prs t h hk=>by
  obtain⟨k,n,s,ks⟩:=t;obtain⟨hs,hc,hq⟩:=h;simp only[T.k_nd]at hk;rcases zng hs with⟨h1,_⟩|⟨h1,_⟩|⟨h1,_⟩|⟨_,_,b,rfl,hb1⟩
  ·omega
  ·omega
  ·omega
  ·exact⟨rfl,GP.block hb1 (hc.kid (t:=b) (by simp)) hq⟩
 cal:=fun prs t h hk=>by
  obtain⟨hs,hc,hq⟩:=h;have hm:t∈po t:=by obtain⟨k,n,s,ks⟩:=t;simp[po]
  obtain⟨i,hi⟩:=hc t hm hk;obtain⟨-,hl⟩:=zpD _ _ _ hi;exact⟨i,prs[i],hi,List.getElem?_eq_getElem hl,GP.block (hq _ (List.getElem_mem hl)).1 (hq _ (List.getElem_mem hl)).2 hq⟩
theorem zqq{ps:List PR}:∀ {j:Nat},j<=ps.length->prcN ps j=0->∀i (h:i<ps.length),i<j->prcE ps i ps[i]=0
 | 0,_,_,i,_,hi=>by omega
 | j+1,hj,h,i,hl,hi=>by
  rw[zok (by omega)]at h;by_cases e:i=j
  ·subst e;omega
  ·exact zqq (j:=j) (by omega) (by omega) i hl (by omega)
theorem ztC{p:PG}(h:zkL p=true):isB p.m=true/\∀r∈p.prs,isB r.b=true:=by
 simp only[zkL,Bool.and_eq_true,decide_eq_true_eq,List.all_eq_true]at h;refine⟨?_,fun r hr=>?_⟩
 ·have:=h.2;simp only[zln,Bool.and_eq_true]at this;exact this.2
 ·have:=h.1.2 r hr;simp only[zoM,zln,Bool.and_eq_true]at this;exact this.2.2
theorem zp3{p:PG}(hv:zkL p=true)(hc:chkN p=0):∀u∈p.m.ks,GP p.prs u:=by
 obtain⟨h1,h2⟩:=ztC hv;unfold chkN at hc;refine GP.block h1 (zx7 _ _ p.vs (.inr (.inl h1)) (by omega)) fun q hq=>⟨h2 q hq,?_⟩
 obtain⟨i,hi,rfl⟩:=List.getElem_of_mem hq;have:=zqq zl (show prcN p.prs p.prs.length=0 by omega) i hi hi;unfold prcE at this;exact zx7 _ _ _ (.inr (.inl (h2 _ hq))) (show cntV p.prs p.prs[i].b p.prs[i].ps=0 by omega)
theorem zz7(M a b r s g:Nat)(h1:a<=b)(h2:s<=r)(hg:b*M+r<=g):a*M+s<=g:=by have:=Nat.mul_le_mul_right M h1;omega
theorem zpB{p:PG}{F:Int}{g:Nat}(hv:zkL p=true)(hg:F.toNat*2000+2000<=g)(back:Bool)(S:ST)(e:List Nat):Good 0 (runO p.prs F g back p.m ⟨S,0,e⟩):=by
 obtain⟨_,_,h3,_,h5⟩:=zlp hv;refine zlQ _ _ fun u hu r hr=>zmc (M:=2000) (fun q hq=>(h3 q hq).2.2) (by omega) g back u r ?_;have h6:=zpG (zlh hu);exact zz7 2000 (F.toNat-r.n) F.toNat 2000 _ g (by omega) (by omega) hg
def Nz(o:Out):Prop:=o ≠ .err 0
theorem Nz.bind{o:Out}{f:RS->Out}(h:Nz o)(hf:∀r,Nz (f r)):Nz (o.bind f):=by
 cases o with
 | gas=>exact fun e=>by cases e
 | err x=>exact h
 | ok r=>exact hf r
theorem Nz.ok(r:RS):Nz (.ok r):=fun e=>by cases e
theorem Nz.gas:Nz .gas:=fun e=>by cases e
theorem Nz.step(F:Int)(r:RS):Nz (zkB F r):=by
 unfold zkB
 split
 ·intro e;injection e with e;omega
 ·exact Nz.ok _
theorem Nz.store(r:RS)(R:Int×ST):Nz (zkj r R):=by
 unfold zkj
 split
 ·rename_i h;intro e;injection e with e;exact h e
 ·exact Nz.ok _
theorem Nz.val{t:T}{r:RS}{f:Int->RS->Out}(hf:∀x,Nz (f x r)):Nz (valO t r f):=by
 unfold valO
 split
 ·rename_i h;intro e;injection e with e;exact h e
 ·exact hf _
theorem Nz.holds{F:Int}{t:T}{r:RS}{f:Bool->RS->Out}(hf:∀b r,Nz (f b r)):Nz (zk0 F t r f):=(Nz.step F r).bind fun r=>Nz.val fun x=>hf _ _
theorem Nz.assert(F:Int)(t:T)(b:Bool)(r:RS):Nz (zks F t b r):=Nz.holds fun b' r=>by
 split
 ·exact Nz.ok _
 ·intro e;injection e with e;omega
theorem Nz.body{f:T->RS->Out}:∀(l:List T) (r:RS),(∀t∈l,∀r,Nz (f t r))->Nz (zkK f l r)
 | [],r,_=>Nz.ok r
 | t::ts,r,h=>(h t (List.mem_cons_self ..) r).bind fun r=>Nz.body ts r fun u hu=>h u (List.mem_cons_of_mem _ hu)
theorem Nz.loop{F:Int}{f:T->RS->Out}{entry test:T}{l1 l2:List T}(h1:∀t∈l1,∀r,Nz (f t r))(h2:∀t∈l2,∀r,Nz (f t r)):∀(m:Nat) (r:RS),Nz (zlJ F f entry test l1 l2 m r)
 | 0,_=>Nz.gas
 | m+1,r=>by
  rw[zlJ];refine(Nz.body l1 r h1).bind fun r=>Nz.holds fun b r=>?_
  split
  ·exact Nz.ok _
  ·exact(Nz.body l2 r h2).bind fun r=>(Nz.assert F entry false r).bind fun r=>Nz.loop h1 h2 m r
theorem zn4{G:List PR->T->Prop}(hG:GC G){prs:List PR}{F:Int}:∀(g:Nat) (back:Bool) (t:T) (r:RS),G prs t->Nz (zkt prs F g back t r)
 | 0,_,_,_,_=>Nz.gas
 | g+1,back,t,r,h=>by
  have hb:∀back (b:T) r,(∀u∈b.ks,G prs u)->Nz (zkK (zkt prs F g back) (blkL back b) r):=fun back b r hu=>Nz.body _ r fun u hm r=>zn4 hG g back u r (hu u (zlh hm));rw[zkt]
  split
  ·rename_i hk;obtain⟨-,h1,h2⟩:=hG.two _ _ h (.inl hk);refine Nz.holds fun yes r=>Nz.bind ?_ fun r=>Nz.assert _ _ _ _
   split
   ·exact hb _ _ _ h1
   ·exact hb _ _ _ h2
  ·split
   ·rename_i hk;obtain⟨-,h1,h2⟩:=hG.two _ _ h (.inr hk);exact(Nz.assert _ _ _ _).bind fun r=>Nz.loop (fun u hm r=>zn4 hG g back u r (h1 u (zlh hm))) (fun u hm r=>zn4 hG g back u r (h2 u (zlh hm))) g r
   ·split
    ·rename_i hk;obtain⟨-,h1⟩:=hG.loc _ _ h hk;exact(Nz.step _ _).bind fun r=>Nz.val fun x=>(Nz.store _ _).bind fun r=>(hb _ _ _ h1).bind fun r=>(Nz.step _ _).bind fun r=>Nz.val fun x=>Nz.store _ _
    ·split
     ·rename_i hk;obtain⟨-,h1⟩:=hG.stk _ _ h hk;exact(Nz.step _ _).bind fun r=>(Nz.store _ _).bind fun r=>(hb _ _ _ h1).bind fun r=>(Nz.step _ _).bind fun r=>Nz.store _ _
     ·split
      ·rename_i hk;obtain⟨i,q,hi,hq,h1⟩:=hG.cal _ _ h hk;rw[hi];dsimp only;rw[getD_some hq];exact(Nz.step _ _).bind fun r=>(Nz.store _ _).bind fun r=>(hb _ _ _ h1).bind fun r=>(Nz.step _ _).bind fun r=>Nz.store _ _
      ·exact(Nz.step _ _).bind fun r=>Nz.store _ _
theorem zrb{G:List PR->T->Prop}(hG:GC G){prs:List PR}{F:Int}{g:Nat}{back:Bool}{b:T}{r:RS}(h:∀u∈b.ks,G prs u):Nz (runO prs F g back b r):=Nz.body _ r fun u hm r=>zn4 hG g back u r (h u (zlh hm))
theorem RI.chgK{C:RC}{lo hi:Nat}{W W':World}{r:RS}(hC:(C.plus lo hi).Ok)(h:RI (C.plus lo hi) W r)(hc:Chg (fun b=>lo<=b/\b<hi) W W')(hlo:C.w.heap.size<=lo):RI (C.plus lo hi) W' r:=by
 have hkb:∀b,lo<=b/\b<hi->(C.plus lo hi).kb b:=fun b hb=>.inr hb;refine⟨h.ks.chg hc fun b _ hb=>⟨Nat.le_trans hlo hb.1,.inr (.inl (hkb b hb))⟩,hc.keep h.box fun hb=>hC.rb.2 (hkb _ hb),zmi h.ent fun b hb=>?_,h.el,h.en,h.n,h.fb⟩;exact hc.block b (h.ent.lt b hb).2 fun hb'=>hC.ev.2 b hb (hkb _ hb')
def Fam(p:PG):Prop:=∃G:List PR->T->Prop,(∀g,IStC G g)/\(zkL p=true->chkN p=0->(∀u∈p.m.ks,G p.prs u)/\∀(F:Int) (g:Nat) (back:Bool) (r:RS),Nz (runO p.prs F g back p.m r))
theorem zza(p:PG):Fam p:=⟨GP,zrR zxG,fun hv hc=>⟨zp3 hv hc,fun _ _ _ _=>zrb zxG (zp3 hv hc)⟩⟩
theorem zsL{G:List PR->T->Prop}(hS:∀g,IStC G g){C:RC}(hC:C.Ok){W:World}{r:RS}(h:RI C W r)(hG:∀u∈C.p.m.ks,G C.p.prs u)(g:Nat)(back:Bool)(hg:runO C.p.prs C.F g back C.p.m r ≠ .gas)(pb qb bb:Nat)
  (h0:W.cell? ⟨pb,0,none⟩=some (.pointer (some ⟨C.rb,0,none⟩)))(hq:W.heap[qb]?=some (.cells #[.slice C.A1 C.p.vs.length C.c1,.slice C.A2 C.p.prs.length C.c2,.int .u8 C.p.m.k,.int .i64 C.p.m.n,.string C.p.m.s,.slice C.A3 C.p.m.ks.length C.c3] 43 (0,0)))(hb:W.cell? ⟨bb,0,none⟩=some (.bool back)) :
  Calls prog 100 #[.pointer (some ⟨pb,0,none⟩),.pointer (some ⟨qb,0,none⟩),.pointer (some ⟨bb,0,none⟩)] W (RunP C W (runO C.p.prs C.F g back C.p.m r)):=by
 have aC:=zh (zlq (hS g) hC h C.p.m _ back hC.pg.main hG hg);have q2:W.cell? ⟨qb,2,none⟩=some (.int .u8 C.p.m.k):=zc hq rfl;have q3:W.cell? ⟨qb,3,none⟩=some (.int .i64 C.p.m.n):=zc hq rfl;have q4:W.cell? ⟨qb,4,none⟩=some (.string C.p.m.s):=zc hq rfl;have q5:W.cell? ⟨qb,5,none⟩=some (.slice C.A3 C.p.m.ks.length C.c3):=zc hq rfl;obtain⟨o,ho⟩:=zX (runO C.p.prs C.F g back C.p.m r);rw[ho]at aC hg ⊢;clear hC h hG hq ho;go_enter func100,ntmps100;go_wp2_with fail;refine aC.out.mono ?_;rintro e w1 ⟨hk1,hb1,ho1⟩
 cases o with
 | gas=>exact absurd rfl hg
 | err x =>
  subst ho1;exact⟨rfl,hk1,hb1,rfl⟩
 | ok r1 =>
  obtain⟨⟨u,rfl⟩,hr1⟩:=ho1;have HR:=zh hr1;have aA:=zh hk1;have HB1:=zh hb1;clear h0 q2 q3 q4 q5 hb hr1 hk1 hb1;go_wp2_with fail;go_end0;exact⟨aA.out,HB1.out,⟨_,rfl⟩,HR.out⟩
def outR(s:SS):Out->SS×Nat×Int×List Nat
 | .ok r=>(r.S.state,r.n,0,r.ent)
 | .err e=>(s,0,e,[])
 | .gas=>(s,0,0,[])
def resO(p:PG)(s:SS)(F:Int)(g:Nat)(back:Bool):SS×Nat×Int×List Nat :=
 if zkL p=false\/chkN p≠0 then(s,0,3,[])else if fitB p.vs s=false then(s,0,20,[])else outR s (runO p.prs F g back p.m ⟨newS p.vs s,0,List.replicate p.prs.length 0⟩)
def LimR(R:SS×Nat×Int×List Nat):Prop:=R.1.Lim/\(R.2.2.1=0->R.1.cells.length<=1000+R.2.1/\(∀l∈R.1.cells,l.length<=1000)/\R.1.tin.length<=4096/\R.1.tout.length<=4096)
theorem LimR.run{r:RS}(h:r.S.WF)(hf:FB r.n r.S)(e:List Nat):LimR (r.S.state,r.n,0,e):=by
 obtain⟨-,h1,h2⟩:=zpz h;obtain⟨kd,hb,-⟩:=h.ex;refine⟨h1,fun _=>⟨?_,h2,h.tin.1,h.tout.1⟩⟩;have:=hb.len;have:=hf.1;simp only[ST.state,List.length_map,List.length_take];omega
def ResP(W:World)(R:SS×Nat×Int×List Nat)(e:Ending)(W':World):Prop:=∃A c v1 v2 v3,e=.returned (.tuple #[.slice A R.2.2.2.length c,.agg #[v1,v2,v3,.int .i64 (R.2.1:Int),.int .i64 R.2.2.1]]) /\
 OwnS W' W.heap.size R.1 (.agg #[v1,v2,v3])/\RowI W' (fun b=>W.heap.size<=b) A (R.2.2.2.map Int.ofNat)/\R.2.2.2.length<=c/\Below W.heap.size W W'/\LimR R
theorem OwnS.slices{W:World}{n0:Nat}{s:SS}{v:Value}(h:OwnS W n0 s v):∃A c B d D e,v=.agg #[.slice A s.cells.length c,.slice B s.tin.length d,.slice D s.tout.length e]:=by
 obtain⟨vc,vi,vo,fc,rfl,hr,-⟩:=h;obtain⟨A,c,e1,-⟩:=zkd (hr.row .all);obtain⟨B,d,e2,-⟩:=zkd (hr.row .inp);obtain⟨D,e,e3,-⟩:=zkd (hr.row .out);change vc=.slice A s.cells.length c at e1;change vi=.slice B s.tin.length d at e2;change vo=.slice D s.tout.length e at e3;exact⟨A,c,B,d,D,e,by rw[e1,e2,e3]⟩
theorem OwnS.chg{W W':World}{n0:Nat}{s:SS}{v:Value}{Cc:Nat->Prop}(h:OwnS W n0 s v)(hc:Chg Cc W W')(hC:∀b,Cc b->b<n0):OwnS W' n0 s v:=by
 obtain⟨vc,vi,vo,fc,rfl,hr,hi⟩:=h;exact⟨vc,vi,vo,fc,rfl,hr.chg hc fun i b hb hcb=>by have:=(hr.lt i b hb).1;have:=hC b hcb;omega,hi⟩
theorem OwnS.lower{W:World}{n0 n1:Nat}{s:SS}{v:Value}(h:OwnS W n1 s v)(hn:n0<=n1):OwnS W n0 s v:=by
 obtain⟨vc,vi,vo,fc,rfl,hr,hi⟩:=h;exact⟨vc,vi,vo,fc,rfl,hr.mono hn,hi⟩
theorem set5{W:World}{b:Nat}{x0 x1 x2 x3 x4 u0 u1 u2 u3 u4:Value}{E:TypeId}(h:W.heap[b]?=some (.cells #[x0,x1,x2,x3,x4] E (0,0))) :
  (((((W.setCell ⟨b,0,none⟩ u0).setCell ⟨b,1,none⟩ u1).setCell ⟨b,2,none⟩ u2).setCell ⟨b,3,none⟩ u3).setCell ⟨b,4,none⟩ u4).heap[b]?=some (.cells #[u0,u1,u2,u3,u4] E (0,0)) /\
   Chg (fun q=>q=b) W (((((W.setCell ⟨b,0,none⟩ u0).setCell ⟨b,1,none⟩ u1).setCell ⟨b,2,none⟩ u2).setCell ⟨b,3,none⟩ u3).setCell ⟨b,4,none⟩ u4):=by
 refine⟨?_,(((((Chg.refl (fun q=>q=b) W).setCell (p:=⟨b,0,none⟩) (.inl rfl) _).setCell (p:=⟨b,1,none⟩) (.inl rfl) _).setCell (p:=⟨b,2,none⟩) (.inl rfl) _).setCell (p:=⟨b,3,none⟩) (.inl rfl) _).setCell (p:=⟨b,4,none⟩) (.inl rfl) _⟩;rw[heap_setCell_same _ b 4 _ _ u4 (heap_setCell_same _ b 3 _ _ u3 (heap_setCell_same _ b 2 _ _ u2 (heap_setCell_same _ b 1 _ _ u1 (heap_setCell_same W b 0 _ _ u0 h))))];simp
theorem bRes(A B D:Option Addr)(l c m d n e:Nat)(x:Int)(w:World):(Instr.build 59 #[(0,.agg #[.slice A l c,.slice B m d,.slice D n e]),(2,.int .i64 x)]).run prog w=.ok (.agg #[.slice A l c,.slice B m d,.slice D n e,.int .i64 0,.int .i64 x]) w:=by kernel_rfl
theorem zK6(A B D:Option Addr)(l c m d n e:Nat)(x:Int)(w:World):(Instr.build 59 #[(0,.agg #[.slice A l c,.slice B m d,.slice D n e]),(1,.int .i64 x)]).run prog w=.ok (.agg #[.slice A l c,.slice B m d,.slice D n e,.int .i64 x,.int .i64 0]) w:=by kernel_rfl
theorem zug(n:Nat):madeCells (Value.int .i64 0).cells (n*1)=(zkg (List.replicate n 0)).toArray:=by
 apply Array.ext';apply List.ext_getElem
 ·rw[Array.length_toList,size_madeCells];simp[zkg]
 ·intro i h1 h2;have e:i % 1=0:=by omega
  simp[madeCells,zkg,Value.cells,e]
theorem zK8(n:Nat)(hn:n<=4096)(w:World):(Instr.makeSlice 30 (.int .i64 (n:Int)) (.int .i64 (n:Int))).run prog w=.ok (.slice (some ⟨w.heap.size,0,none⟩) n n) (w.alloc (.cells (zkg (List.replicate n 0)).toArray 3)):=by
 have h:=zlU;obtain⟨i,hi,hz⟩:=Option.map_eq_some_iff.1 h;injection hz with h1 h2;injection h2 with h2 h3;have hsc:(4096:Nat)<=9223372036854775807:=by decide
 have:=zlu (P:=prog) 30 3 i (.int .i64 0) underlying30 hi h1 .i64 .i64 n n zl (by rw[h3];omega) (Nat.le_trans hn hsc) w;rw[h2,zug]at this;exact this
theorem bRun(A1 A2 A3 E:Option Addr)(l1 c1 l2 c2 l3 c3 m d:Nat)(k n F:Int)(s:ByteArray)(sb:Nat)(w:World):(Instr.build 147 #[(0,pv A1 l1 c1 A2 l2 c2 k n s A3 l3 c3),(1,.pointer (some ⟨sb,0,none⟩)),(3,.int .i64 F),(4,.slice E m d)]).run prog w =
  .ok (.agg #[.slice A1 l1 c1,.slice A2 l2 c2,.int .u8 k,.int .i64 n,.string s,.slice A3 l3 c3,.pointer (some ⟨sb,0,none⟩),.int .i64 0,.int .i64 F,.slice E m d]) w:=by kernel_rfl
theorem zvg{W:World}{a b:Nat}{x y:Array Value}{E F:TypeId}(ha:W.heap[a]?=some (.cells x E (0,0)))(hb:W.heap[b]?=some (.cells y F (0,0)))(hne:E≠F):a≠b:=by
 rintro rfl;rw[ha]at hb;injection hb with hb;injection hb with h1 h2;exact hne h2
theorem zqO{W w4 w8 aQ:World}{n0:Nat}{kb:Nat->Prop}(h4:Below W.heap.size W w4)(h11:Below W.heap.size W aQ)(h48:Below w4.heap.size w4 w8)(hk:Kpt n0 kb w8 aQ)(hn:w4.heap.size<=n0):Below w4.heap.size w4 aQ :=
 ⟨h11.os.trans h4.os.symm,h11.tape.trans h4.tape.symm,h11.output.trans h4.output.symm,Nat.le_trans h48.size hk.size,fun b hb=>(hk.kept b (Nat.lt_of_lt_of_le hb h48.size) (.inl (Nat.lt_of_lt_of_le hb hn))).trans (h48.block b hb)⟩
theorem zwQ:IsFn prog 100 f100:=⟨func100,by kernel_rfl,by kernel_rfl⟩
theorem zwP:IsFn prog 102 f102:=⟨func102,by kernel_rfl,by kernel_rfl⟩
def OkR(C:RC)(lo hi:Nat)(o:Out)(w9 w':World):Prop:=∃r,o=.ok r/\(C.plus lo hi).Ok/\RI (C.plus lo hi) w' r/\Kpt C.n0 C.kb w9 w'
def ErX(C:RC)(o:Out)(w9:World)(x:Int)(w':World):Prop:=o=.err x/\Kpt C.n0 C.kb w9 w'/\Below C.w.heap.size C.w w'
theorem zru{G:List PR->T->Prop}(hS:∀g,IStC G g){C:RC}{w8 w9:World}{r:RS}{jb:Nat}(hC8:C.Ok)(h8:RI C w8 r)(bX:w8.alloc (.cells #[.slice none 0 0,.bool false] 152)=w9)(hjb:w8.heap.size=jb)(hG:∀u∈C.p.m.ks,G C.p.prs u)(g:Nat)(back:Bool)(o:Out)(ho:runO C.p.prs C.F g back C.p.m r=o)(hg:o ≠ .gas)(pb qb bb:Nat)
  (h0:w8.cell? ⟨pb,0,none⟩=some (.pointer (some ⟨C.rb,0,none⟩)))(hq:w8.heap[qb]?=some (.cells #[.slice C.A1 C.p.vs.length C.c1,.slice C.A2 C.p.prs.length C.c2,.int .u8 C.p.m.k,.int .i64 C.p.m.n,.string C.p.m.s,.slice C.A3 C.p.m.ks.length C.c3] 43 (0,0)))(hb:w8.cell? ⟨bb,0,none⟩=some (.bool back)) :
  Calls prog 99 #[.pointer (some ⟨jb,0,none⟩),.func (.func 100) #[] #[.pointer (some ⟨pb,0,none⟩),.pointer (some ⟨qb,0,none⟩),.pointer (some ⟨bb,0,none⟩)]] w9 (AttP w9 (OkR (C.plus jb w9.heap.size) w9.heap.size (w9.heap.size+3) o w9) (ErX (C.plus jb w9.heap.size) o w9)):=by
 have hbj:=zkb (zs w8) (.cells #[.slice none 0 0,.bool false] 152);have kj:=heap_alloc_new w8 (.cells #[.slice none 0 0,.bool false] 152);obtain⟨hC9,h9⟩:=h8.plus hC8 hbj;rw[bX,hjb]at kj hC9 h9;rw[bX]at hbj;have hjl:=zko kj;refine zrG jb _ _ zwQ _ w9 kj _ _ fun W1 hb1 hz1=>?_;obtain⟨di,h1⟩:=h9.plus hC9 hb1;have hbt:=zka hbj hb1;have hrun:=zsL hS di h1 hG g back (show runO C.p.prs C.F g back C.p.m r ≠ .gas by rw[ho];exact hg) pb qb bb (zb hbt h0) (zkc hq hbt) (zb hbt hb);refine hrun.mono ?_;rintro e w' ⟨hk,hbl,hout⟩;rw[show runO ((C.plus jb w9.heap.size).plus w9.heap.size W1.heap.size).p.prs ((C.plus jb w9.heap.size).plus w9.heap.size W1.heap.size).F g back ((C.plus jb w9.heap.size).plus w9.heap.size W1.heap.size).p.m r=o from ho]at hout;refine⟨fun b hb hlt=>hk.kept b hlt (.inr ?_),?_⟩
 ·rcases hb with hb|rfl
  ·exact .inr ⟨hb,hlt⟩
  ·exact .inl (.inr ⟨zl,hjl⟩)
 ·have hkk:Kpt C.n0 (C.plus jb w9.heap.size).kb w9 w':=(Kpt.of_below hb1).trans (Kpt.less (C:=C.plus jb w9.heap.size) hk)
  cases o with
  | gas=>exact absurd rfl hg
  | err x=>exact .inr ⟨x,hout,rfl,hkk,hbl⟩
  | ok r1 =>
   rw[hz1]at di hout;exact .inl ⟨hout.1,r1,rfl,di,hout.2,hkk⟩
theorem ztO(p:PG)(s:SS)(F:Int)(g:Nat)(back:Bool)(v sv:Value)(W:World)(hp:PV W Any p v)(hs:SV W Any s sv)(hcl:s.cells.length<=5864062014800)(hF:I64 F)(eF:F<=1000000)(hg:F.toNat*2000+2000<=g)(hfam:Fam p) :
  Calls prog 57 #[v,sv,.int .i64 F,.bool back] W (ResP W (resO p s F g back)):=by
 have HFAM:=zh hfam;clear hfam;have HP:=zh hp;have HS:=zh hs;obtain⟨A1,c1,A2,c2,A3,c3,rfl,dJ⟩:=hp;obtain⟨A,c,B,d,D,e,rfl,hr1,hr2,hr3,hc1,hc2,hc3,hl1,hl2,hl3,hl4⟩:=hs;have qh:=zh dJ;have nD:=zh (show s.Lim from⟨hl1,hl2,hl3,hl4⟩);have HV:=zh (fun w' (hb:Below W.heap.size W w')=>znr p Any _ w' (HP.out.later hb));have dN:=zh (fun w' (hb:Below W.heap.size W w')=>znN p Any _ w' (HP.out.later hb));have eP:=zh (fun w' (hb:Below W.heap.size W w')=>zp6 s _ w' (HS.out.later hb) hcl);have vW:=zh (fun w' (hb:Below W.heap.size W w')=>zzI p.vs s A1 c1 _ w' (dJ.vars.later hb) dJ.lv (HS.out.later hb));obtain⟨Re,hRe⟩:=zX (resO p s F g back);have dx:=zh hRe;rw[hRe]
 have hb4:=zkb (zkb (zkb (zkb (zs W) (.cells #[.slice A1 p.vs.length c1,.slice A2 p.prs.length c2,.int .u8 p.m.k,.int .i64 p.m.n,.string p.m.s,.slice A3 p.m.ks.length c3] 43)) (.cells #[.slice A s.cells.length c,.slice B s.tin.length d,.slice D s.tout.length e] 32)) (.cells #[.bool back] 4)) (.cells #[.slice none 0 0,.slice none 0 0,.slice none 0 0,.int .i64 0,.int .i64 0] 59);have k0:=zke (zke (zke (heap_alloc_new W (.cells #[.slice A1 p.vs.length c1,.slice A2 p.prs.length c2,.int .u8 p.m.k,.int .i64 p.m.n,.string p.m.s,.slice A3 p.m.ks.length c3] 43)) (.cells #[.slice A s.cells.length c,.slice B s.tin.length d,.slice D s.tout.length e] 32)) (.cells #[.bool back] 4)) (.cells #[.slice none 0 0,.slice none 0 0,.slice none 0 0,.int .i64 0,.int .i64 0] 59)
 have k1:=zke (zke (heap_alloc_new (W.alloc (.cells #[.slice A1 p.vs.length c1,.slice A2 p.prs.length c2,.int .u8 p.m.k,.int .i64 p.m.n,.string p.m.s,.slice A3 p.m.ks.length c3] 43)) (.cells #[.slice A s.cells.length c,.slice B s.tin.length d,.slice D s.tout.length e] 32)) (.cells #[.bool back] 4)) (.cells #[.slice none 0 0,.slice none 0 0,.slice none 0 0,.int .i64 0,.int .i64 0] 59);have k2:=zke (heap_alloc_new ((W.alloc (.cells #[.slice A1 p.vs.length c1,.slice A2 p.prs.length c2,.int .u8 p.m.k,.int .i64 p.m.n,.string p.m.s,.slice A3 p.m.ks.length c3] 43)).alloc (.cells #[.slice A s.cells.length c,.slice B s.tin.length d,.slice D s.tout.length e] 32)) (.cells #[.bool back] 4)) (.cells #[.slice none 0 0,.slice none 0 0,.slice none 0 0,.int .i64 0,.int .i64 0] 59)
 have k3:=heap_alloc_new (((W.alloc (.cells #[.slice A1 p.vs.length c1,.slice A2 p.prs.length c2,.int .u8 p.m.k,.int .i64 p.m.n,.string p.m.s,.slice A3 p.m.ks.length c3] 43)).alloc (.cells #[.slice A s.cells.length c,.slice B s.tin.length d,.slice D s.tout.length e] 32)).alloc (.cells #[.bool back] 4)) (.cells #[.slice none 0 0,.slice none 0 0,.slice none 0 0,.int .i64 0,.int .i64 0] 59);simp only[World.size_alloc]at k1 k2 k3;have yx:((((W.alloc (.cells #[.slice A1 p.vs.length c1,.slice A2 p.prs.length c2,.int .u8 p.m.k,.int .i64 p.m.n,.string p.m.s,.slice A3 p.m.ks.length c3] 43)).alloc (.cells #[.slice A s.cells.length c,.slice B s.tin.length d,.slice D s.tout.length e] 32)).alloc (.cells #[.bool back] 4)).alloc (.cells #[.slice none 0 0,.slice none 0 0,.slice none 0 0,.int .i64 0,.int .i64 0] 59)).heap.size=W.heap.size+4:=by simp
 obtain⟨w4,hw4⟩:=zX (((((W.alloc (.cells #[.slice A1 p.vs.length c1,.slice A2 p.prs.length c2,.int .u8 p.m.k,.int .i64 p.m.n,.string p.m.s,.slice A3 p.m.ks.length c3] 43)).alloc (.cells #[.slice A s.cells.length c,.slice B s.tin.length d,.slice D s.tout.length e] 32)).alloc (.cells #[.bool back] 4)).alloc (.cells #[.slice none 0 0,.slice none 0 0,.slice none 0 0,.int .i64 0,.int .i64 0] 59)));rw[hw4]at hb4 k0 k1 k2 k3 yx;have aF:=zh hb4;have aD:=zh k0;have aA:=zh k1;have aR:=zh k2;have gT:=zh k3;have qR:=zh yx;have p0:w4.cell? ⟨W.heap.size,0,none⟩=some (.slice A1 p.vs.length c1):=zc k0 rfl;have p1:w4.cell? ⟨W.heap.size,1,none⟩=some (.slice A2 p.prs.length c2):=zc k0 rfl;have p2:w4.cell? ⟨W.heap.size,2,none⟩=some (.int .u8 p.m.k):=zc k0 rfl;have p3:w4.cell? ⟨W.heap.size,3,none⟩=some (.int .i64 p.m.n):=zc k0 rfl;have p4:w4.cell? ⟨W.heap.size,4,none⟩=some (.string p.m.s):=zc k0 rfl
 have p5:w4.cell? ⟨W.heap.size,5,none⟩=some (.slice A3 p.m.ks.length c3):=zc k0 rfl;obtain⟨vb,hvb⟩:=zX (zkL p);have eG:=zh hvb;rw[hvb]at HV dN;clear dJ hr1 hr2 hr3 hRe hvb hb4 k0 k1 k2 k3 yx hl1 hl2 hl3 hl4 hc1 hc2 hc3;go_enter func57,ntmps57;go_wp2_with fail;refine(HV.out w4 aF.out).mono ?_;rintro e5 w5 ⟨rfl,b5⟩;clear hw4
 cases vb
 ·have HX:=zh (show Re=(s,0,3,[]) by rw[<-dx.out,resO,if_pos (.inl eG.out)]);clear p0 p1 p2 p3 p4 p5;have dY:=zkc aA.out b5;have mI:=zkc gT.out b5;have s0:w5.cell? ⟨W.heap.size+1,0,none⟩=some (.slice A s.cells.length c):=zc dY rfl;have s1:w5.cell? ⟨W.heap.size+1,1,none⟩=some (.slice B s.tin.length d):=zc dY rfl;have s2:w5.cell? ⟨W.heap.size+1,2,none⟩=some (.slice D s.tout.length e):=zc dY rfl;have aW:=zh (eP.out w5 (zka aF.out b5));have dz:=zh mI;have hbq:=b5;clear dY mI;go_wp2_with fail;refine aW.out.mono ?_;rintro e9 w9 ⟨v9,rfl,dP,aZ⟩;obtain⟨A9,c9,B9,d9,D9,e9,rfl⟩:=dP.slices;have fP:=zh dP;have aH:=zh (zka hbq aZ);have aI:=zkc dz.out aZ;have x0:w9.cell? ⟨W.heap.size+3,0,none⟩=some (.slice none 0 0):=zc aI rfl;have x1:w9.cell? ⟨W.heap.size+3,1,none⟩=some (.slice none 0 0):=zc aI rfl
  have x2:w9.cell? ⟨W.heap.size+3,2,none⟩=some (.slice none 0 0):=zc aI rfl;have x3:w9.cell? ⟨W.heap.size+3,3,none⟩=some (.int .i64 0):=zc aI rfl;have x4:w9.cell? ⟨W.heap.size+3,4,none⟩=some (.int .i64 0):=zc aI rfl;have xf:∀o,w9.frozen? ⟨W.heap.size+3,o,none⟩=false:=fun _=>zf aI;have iq:=zh aI;have hbr:=bRes;have jm:W.heap.size+4<=w5.heap.size:=by have:=hbq.size;rw[qR.out]at this;exact this
  clear s0 s1 s2 aI dP aZ hbq aW;go_wp2_with fail;obtain⟨hh,hch⟩:=set5 (u0:=.slice A9 s.cells.length c9) (u1:=.slice B9 s.tin.length d9) (u2:=.slice D9 s.tout.length e9) (u3:=.int .i64 0) (u4:=.int .i64 3) iq.out;obtain⟨aT,bY⟩:=zX ((((((w9.setCell ⟨W.heap.size+3,0,none⟩ (.slice A9 s.cells.length c9)).setCell ⟨W.heap.size+3,1,none⟩ (.slice B9 s.tin.length d9)).setCell ⟨W.heap.size+3,2,none⟩ (.slice D9 s.tout.length e9)).setCell ⟨W.heap.size+3,3,none⟩ (.int .i64 0)).setCell ⟨W.heap.size+3,4,none⟩ (.int .i64 3)));rw[bY]at hh hch ⊢;have t0:aT.cell? ⟨W.heap.size+3,0,none⟩=some (.slice A9 s.cells.length c9):=zc hh rfl;have t1:aT.cell? ⟨W.heap.size+3,1,none⟩=some (.slice B9 s.tin.length d9):=zc hh rfl;have t2:aT.cell? ⟨W.heap.size+3,2,none⟩=some (.slice D9 s.tout.length e9):=zc hh rfl;have t3:aT.cell? ⟨W.heap.size+3,3,none⟩=some (.int .i64 0):=zc hh rfl
  have t4:aT.cell? ⟨W.heap.size+3,4,none⟩=some (.int .i64 3):=zc hh rfl;refine bodyPost_ret (v:=.tuple #[.slice none 0 0,.agg #[.slice A9 s.cells.length c9,.slice B9 s.tin.length d9,.slice D9 s.tout.length e9,.int .i64 0,.int .i64 3]]) (by simp[results,results57,go_sem,t0,t1,t2,t3,t4]) rfl ?_;rw[HX.out];exact⟨none,0,_,_,_,rfl,(fP.out.chg hch fun b hb=>by omega).lower (by omega),fun i hi=>absurd hi (by simp),zl,(zka aF.out aH.out).trans (hch.below (zka aF.out aH.out).size fun b hb=>by omega),nD.out,fun h=>by first|(simp at h;done)|exact absurd h yP.out⟩
 ·have q0:=zb b5 p0;have q1:=zb b5 p1;have q2:=zb b5 p2;have q3:=zb b5 p3;have q4:=zb b5 p4;have q5:=zb b5 p5;have dB:=zh (show Calls prog 26 #[pv A1 p.vs.length c1 A2 p.prs.length c2 p.m.k p.m.n p.m.s A3 p.m.ks.length c3] w5 (fun e w'=>∃A c,e=Ending.returned (.slice A (chkN p) c)/\Below w5.heap.size w5 w')from(dN.out w5 (zka aF.out b5)).mono (fun e w' ⟨A,c,h1,h2⟩=>⟨A,c,by rw[h1,if_pos rfl],h2⟩));clear p0 p1 p2 p3 p4 p5 dN HV;go_wp2_with fail;refine dB.out.mono ?_;rintro e6 w6 ⟨AA,cc,rfl,b6⟩;have mO:=zka b5 b6;clear q0 q1 q2 q3 q4 q5;by_cases hn:chkN p=0
  ·obtain⟨n,hnn⟩:=zX (chkN p);rw[hnn];obtain rfl:n=0:=by omega
   have hng:¬ (0:Int)<((0:Nat):Int):=by omega
   have ou:=zkc aD.out mO;have dY:=zkc aA.out mO;have p0:w6.cell? ⟨W.heap.size,0,none⟩=some (.slice A1 p.vs.length c1):=zc ou rfl;have s0:w6.cell? ⟨W.heap.size+1,0,none⟩=some (.slice A s.cells.length c):=zc dY rfl;have s1:w6.cell? ⟨W.heap.size+1,1,none⟩=some (.slice B s.tin.length d):=zc dY rfl;have s2:w6.cell? ⟨W.heap.size+1,2,none⟩=some (.slice D s.tout.length e):=zc dY rfl;have iO:=zh hnn;clear ou dY hn hnn;go_wp2_with fail;refine(vW.out w6 (zka aF.out mO)).mono ?_;rintro e7 w7 ⟨b7,⟨hfit,rfl⟩|⟨hfit,P,rfl,Aj⟩⟩
   ·have HX:=zh (show Re=(s,0,20,[]) by rw[<-dx.out,resO,if_neg (by rw[eG.out,iO.out];simp),if_pos hfit]);have qQ:=zka mO b7;clear p0 s0 s1 s2 hfit;have dY:=zkc aA.out qQ;have mI:=zkc gT.out qQ;have s0:w7.cell? ⟨W.heap.size+1,0,none⟩=some (.slice A s.cells.length c):=zc dY rfl;have s1:w7.cell? ⟨W.heap.size+1,1,none⟩=some (.slice B s.tin.length d):=zc dY rfl;have s2:w7.cell? ⟨W.heap.size+1,2,none⟩=some (.slice D s.tout.length e):=zc dY rfl;have aW:=zh (eP.out w7 (zka aF.out qQ));have dz:=zh mI;have hbq:=qQ;clear dY mI;go_wp2_with fail;refine aW.out.mono ?_;rintro e9 w9 ⟨v9,rfl,dP,aZ⟩;obtain⟨A9,c9,B9,d9,D9,e9,rfl⟩:=dP.slices;have fP:=zh dP;have aH:=zh (zka hbq aZ);have aI:=zkc dz.out aZ;have x0:w9.cell? ⟨W.heap.size+3,0,none⟩=some (.slice none 0 0):=zc aI rfl;have x1:w9.cell? ⟨W.heap.size+3,1,none⟩=some (.slice none 0 0):=zc aI rfl
    have x2:w9.cell? ⟨W.heap.size+3,2,none⟩=some (.slice none 0 0):=zc aI rfl;have x3:w9.cell? ⟨W.heap.size+3,3,none⟩=some (.int .i64 0):=zc aI rfl;have x4:w9.cell? ⟨W.heap.size+3,4,none⟩=some (.int .i64 0):=zc aI rfl;have xf:∀o,w9.frozen? ⟨W.heap.size+3,o,none⟩=false:=fun _=>zf aI;have iq:=zh aI;have hbr:=bRes;have jm:W.heap.size+4<=w7.heap.size:=by have:=hbq.size;rw[qR.out]at this;exact this
    clear s0 s1 s2 aI dP aZ hbq aW;go_wp2_with fail;obtain⟨hh,hch⟩:=set5 (u0:=.slice A9 s.cells.length c9) (u1:=.slice B9 s.tin.length d9) (u2:=.slice D9 s.tout.length e9) (u3:=.int .i64 0) (u4:=.int .i64 20) iq.out;obtain⟨aT,bY⟩:=zX ((((((w9.setCell ⟨W.heap.size+3,0,none⟩ (.slice A9 s.cells.length c9)).setCell ⟨W.heap.size+3,1,none⟩ (.slice B9 s.tin.length d9)).setCell ⟨W.heap.size+3,2,none⟩ (.slice D9 s.tout.length e9)).setCell ⟨W.heap.size+3,3,none⟩ (.int .i64 0)).setCell ⟨W.heap.size+3,4,none⟩ (.int .i64 20)));rw[bY]at hh hch ⊢;have t0:aT.cell? ⟨W.heap.size+3,0,none⟩=some (.slice A9 s.cells.length c9):=zc hh rfl;have t1:aT.cell? ⟨W.heap.size+3,1,none⟩=some (.slice B9 s.tin.length d9):=zc hh rfl;have t2:aT.cell? ⟨W.heap.size+3,2,none⟩=some (.slice D9 s.tout.length e9):=zc hh rfl;have t3:aT.cell? ⟨W.heap.size+3,3,none⟩=some (.int .i64 0):=zc hh rfl
    have t4:aT.cell? ⟨W.heap.size+3,4,none⟩=some (.int .i64 20):=zc hh rfl;refine bodyPost_ret (v:=.tuple #[.slice none 0 0,.agg #[.slice A9 s.cells.length c9,.slice B9 s.tin.length d9,.slice D9 s.tout.length e9,.int .i64 0,.int .i64 20]]) (by simp[results,results57,go_sem,t0,t1,t2,t3,t4]) rfl ?_;rw[HX.out];exact⟨none,0,_,_,_,rfl,(fP.out.chg hch fun b hb=>by omega).lower (by omega),fun i hi=>absurd hi (by simp),zl,(zka aF.out aH.out).trans (hch.below (zka aF.out aH.out).size fun b hb=>by omega),nD.out,fun h=>by first|(simp at h;done)|exact absurd h yP.out⟩
   ·have qQ:=zka mO b7;have lS:=zh hfit;have BN:=zh Aj;clear p0 s0 s1 s2 hfit Aj;have ou:=zkc aD.out qQ;have p0:w7.cell? ⟨W.heap.size,0,none⟩=some (.slice A1 p.vs.length c1):=zc ou rfl;have p1:w7.cell? ⟨W.heap.size,1,none⟩=some (.slice A2 p.prs.length c2):=zc ou rfl;have p2:w7.cell? ⟨W.heap.size,2,none⟩=some (.int .u8 p.m.k):=zc ou rfl;have p3:w7.cell? ⟨W.heap.size,3,none⟩=some (.int .i64 p.m.n):=zc ou rfl;have p4:w7.cell? ⟨W.heap.size,4,none⟩=some (.string p.m.s):=zc ou rfl;have p5:w7.cell? ⟨W.heap.size,5,none⟩=some (.slice A3 p.m.ks.length c3):=zc ou rfl;obtain⟨hvl,hpl,hpp,-,hpm⟩:=zlp eG.out;have hmk:=zK8 p.prs.length (by omega);obtain⟨np,sG⟩:=zX (p.prs.length);rw[sG]at p1 hmk;have rq:=zh sG
    obtain⟨HH,hHH⟩:∃H:World->Prop,H=fun w':World=>w'.cell? ⟨W.heap.size,0,none⟩=some (.slice A1 p.vs.length c1)/\w'.cell? ⟨W.heap.size,1,none⟩=some (.slice A2 np c2)/\w'.cell? ⟨W.heap.size,2,none⟩=some (.int .u8 p.m.k)/\w'.cell? ⟨W.heap.size,3,none⟩=some (.int .i64 p.m.n)/\w'.cell? ⟨W.heap.size,4,none⟩=some (.string p.m.s)/\w'.cell? ⟨W.heap.size,5,none⟩=some (.slice A3 p.m.ks.length c3):=⟨_,rfl⟩
    have az:=zh (show ∀w',Below w7.heap.size w7 w'->HH w' by
     rw[hHH];exact fun w' hb=>⟨zb hb p0,zb hb p1,zb hb p2,zb hb p3,zb hb p4,zb hb p5⟩)
    rw[sG];go_upto_region 6 with fail;have hSS:zW HH zU w7.drew:=⟨az.out _ zr.drew,trivial⟩
    refine wp_region_noPanic ?_;refine zG hSS 10 ?_;subst hHH;refine zT 0 hSS ?_;refine zT 1 hSS ?_;refine zT 2 hSS ?_;refine zT 3 hSS ?_;refine zT 4 hSS ?_;refine zT 5 hSS ?_;clear p0 p1 p2 p3 p4 p5 ou sG;refine zrH (fun A f l a wr=>∃(l6 l7 l8 l9:Bool) (v43 v44 v45 v12:Value) (eb rb pb:Nat),f=(!l6).toNat+(!l7).toNat+(!l8).toNat+(!l9).toNat+1/\l = #[true,true,true,true,true,true,l6,l7,l8,l9,false] /\
     a=(((A.put (some 43) v43).put (some 44) v44).put (some 45) v45).put (some 12) v12/\Hid (Below w7.heap.size w7 wr) /\
     Hid ((l7=true->l6=true)/\(l8=true->l7=true)/\(l6=true->v43=.slice (some ⟨eb,0,none⟩) np np/\wr.heap[eb]?=some (.cells (zkg (List.replicate np 0)).toArray 3 (0,0))/\w7.heap.size<=eb) /\
      (l7=true->v44=.agg #[.slice A1 p.vs.length c1,.slice A2 np c2,.int .u8 p.m.k,.int .i64 p.m.n,.string p.m.s,.slice A3 p.m.ks.length c3,.pointer (some ⟨P.sb,0,none⟩),.int .i64 0,.int .i64 F,.slice (some ⟨eb,0,none⟩) np np]) /\
      (l8=true->v45=.pointer (some ⟨rb,0,none⟩)/\wr.heap[rb]?=some (.cells #[.slice A1 p.vs.length c1,.slice A2 np c2,.int .u8 p.m.k,.int .i64 p.m.n,.string p.m.s,.slice A3 p.m.ks.length c3,.pointer (some ⟨P.sb,0,none⟩),.int .i64 0,.int .i64 F,.slice (some ⟨eb,0,none⟩) np np] 147 (0,0))/\w7.heap.size<=rb) /\
      (l9=true->v12=.pointer (some ⟨pb,0,none⟩)/\wr.heap[pb]?=some (.cells #[.pointer none] 145 (0,0))/\w7.heap.size<=pb)) /\
     Hid ((l6=false->v43=undef)/\(l7=false->v44=undef)/\(l8=false->v45=undef)/\(l9=false->v12=undef))) (fun A f l a wr h=>?_) ?_ ⟨false,false,false,false,undef,undef,undef,undef,0,0,0,rfl,rfl,(by simp only[Act.put,zD,zE,zF]),zh zr.drew,zh ⟨fun h=>(by cases h),fun h=>(by cases h),fun h=>(by cases h),fun h=>(by cases h),fun h=>(by cases h),fun h=>(by cases h)⟩,zh ⟨fun _=>rfl,fun _=>rfl,fun _=>rfl,fun _=>rfl⟩⟩
    ·obtain⟨_,_,_,_,_,_,_,_,_,_,_,_,_,_,hb,_⟩:=h;exact⟨az.out _ hb.out,trivial⟩
    rintro A' hA f l a wr ⟨l6,l7,l8,l9,v43,v44,v45,v12,eb,rb,pb,hf,rfl,ha,ag,HC,HU⟩;by_cases hall:(l6&&l7&&l8&&l9)=true
    ·left
     simp only[Bool.and_eq_true]at hall;obtain⟨⟨⟨rfl,rfl⟩,rfl⟩,rfl⟩:=hall;obtain⟨-,-,h6,h7,h8,h9⟩:=HC.out;obtain⟨rfl,he,hel⟩:=h6 rfl;obtain rfl:=h7 rfl;obtain⟨rfl,hr,hrl⟩:=h8 rfl;obtain⟨rfl,hq,ku⟩:=h9 rfl;subst hf ha hA;have hner:eb≠rb:=zvg he hr (by decide);have hneq:eb≠pb:=zvg he hq (by decide);have hnrq:rb≠pb:=zvg hr hq (by decide);have c0:wr.cell? ⟨pb,0,none⟩=some (.pointer none):=zc hq rfl;have cf:∀j,wr.frozen? ⟨pb,j,none⟩=false:=fun j=>zf hq;refine zp 10 fun K hK=>?_;(try simp only[zQ]);go_simp;have hch:Chg (fun b=>b=pb) wr (wr.setCell ⟨pb,0,none⟩ (.pointer (some ⟨rb,0,none⟩))):=(Chg.refl (fun b=>b=pb) wr).setCell (p:=⟨pb,0,none⟩) (.inl rfl) _;have hh:(wr.setCell ⟨pb,0,none⟩ (.pointer (some ⟨rb,0,none⟩))).heap[pb]?=some (.cells #[.pointer (some ⟨rb,0,none⟩)] 145 (0,0)):=by
      rw[heap_setCell_same wr pb 0 _ _ (.pointer (some ⟨rb,0,none⟩)) hq];rfl
     have eY:=zh (show Below w7.heap.size w7 (wr.setCell ⟨pb,0,none⟩ (.pointer (some ⟨rb,0,none⟩)))from ag.out.trans (hch.below ag.out.size fun b e=>by omega));have Cw:=zh (hch.keep he hneq);have ig:=zh (hch.keep hr hnrq);have yX:=zh hh;obtain⟨w8,hw8⟩:=zX (wr.setCell ⟨pb,0,none⟩ (.pointer (some ⟨rb,0,none⟩)));rw[hw8]at eY Cw ig yX ⊢;refine hK.out _ _ (az.out _ eY.out) ?_;clear hK K hSS hch hh hw8 c0 cf he hr hq h6 h7 h8 h9 HC HU ag hmk az;refine zd ?_;refine NoPanic.normal ?_;(try simp only[zQ]);have hlt_e:=zko Cw.out;have hlt_r:=zko ig.out;have hlt_q:=zko yX.out;obtain⟨C,hC⟩:∃C:RC,C=⟨W,w6.heap.size,P.sb,rb,p,A1,c1,A2,c2,A3,c3,F,.slice (some ⟨eb,0,none⟩) np np,fun b=>b=pb⟩:=⟨_,rfl⟩
     have hs67:=b7.size;have hs46:=mO.size;have yx:=qR.out;have hbWw6:=zka aF.out mO;have HCO:=zh (show C.Ok by
      rw[hC];exact⟨qh.out,hF,eF,⟨by simp only;omega,by simp only;exact hnrq⟩,⟨by simp[Value.ownBlock];exact hner,fun b hb hk=>by simp only[Value.ownBlock,Option.some.injEq]at hb;simp only at hk;omega⟩,fun q hq=>by have:=(hpp q hq).1;omega⟩)
     have dE:=zh (show RI C w8 ⟨newS p.vs s,0,List.replicate np 0⟩ by
      rw[hC];have hks:=(KS.new hbWw6 b7 BN.out).also eY.out (kb':=fun b=>b=pb\/b=rb\/(Value.slice (some ⟨eb,0,none⟩) np np).ownBlock=some b) (fun b hb=>.inr (by
       rcases hb with rfl|rfl|hb
       ·exact⟨ku,hlt_q⟩
       ·exact⟨hrl,hlt_r⟩
       ·simp[Value.ownBlock]at hb;subst hb;exact⟨hel,hlt_e⟩))
      refine⟨hks,by rw[<-rq.out]at ig;simpa[RC.cells,rq.out]using ig.out,?_,by simp[rq.out],fun c hc=>by simp at hc;omega,by simp,?_⟩
      ·refine⟨by simp[zkg],.inr ⟨eb,np,_,by simp,Nat.le_trans hs67 hel,Cw.out,by simp,by unfold maxLen;have:=rq.out;omega,by simp[zkg],by simp[zkg]⟩⟩
      ·exact⟨by simp only[newS];omega,fun f hf=>by simp[newS]at hf⟩)
     obtain⟨GX,hGX,hGM⟩:=HFAM.out;have wz:=zh (hGM eG.out iO.out);clear hGM;obtain⟨o,ho⟩:=zX (runO p.prs F g back p.m ⟨newS p.vs s,0,List.replicate np 0⟩);have hog:o ≠ .gas:=ho▸(zpB eG.out hg back (newS p.vs s) (List.replicate np 0)).1;have hon:Nz o:=ho▸wz.out.2 _ _ _ _;have HRR:=zh (show Re=outR s o by rw[<-dx.out,resO,if_neg (by rw[eG.out,iO.out];simp),if_neg (by rw[lS.out];simp),<-ho,<-rq.out]);have jW:=zka qQ eY.out;obtain⟨jb,hjb⟩:=zX (w8.heap.size);obtain⟨w9,bX⟩:=zX (w8.alloc (.cells #[.slice none 0 0,.bool false] 152));have HAT:=zh (zru hGX HCO.out dE.out bX hjb (by rw[hC];exact wz.out.1) g back o (by rw[hC];exact ho) hog pb W.heap.size (W.heap.size+1+1) (by rw[hC];exact zc yX.out rfl) (by rw[hC];simp only;rw[rq.out];have:=zkc aD.out jW;rw[rq.out]at this;exact this) (zc (zkc aR.out jW) rfl))
     have yw:w9.heap.size=jb+1:=by rw[<-bX];simp[hjb]
     have HK89:=zh (show Kpt C.n0 C.kb w8 w9 from Kpt.of_below (bX▸zkb (zs w8) _));have nZ:∀(fn:Fn) (first cap:Array Value) (w:World),(Instr.makeFunc fn first cap).run prog w=.ok (.func fn first cap) w:=fun _ _ _ _=>rfl;have HN0C:=zh (show C.n0=w6.heap.size/\C.w=W/\C.rb=rb/\C.ev=.slice (some ⟨eb,0,none⟩) np np/\(C.kb=fun b=>b=pb)/\C.sb=P.sb/\C.p=p by rw[hC];exact⟨rfl,rfl,rfl,rfl,rfl,rfl,rfl⟩);have HHB48:=zh jW;have jV:=aF.out;have hb4s:W.heap.size<=w6.heap.size:=hbWw6.size;clear hC jW ho hlt_e hlt_r;go_wp2_with fail;refine HAT.out.mono ?_;rintro e10 aQ hat;clear HAT bX nZ;rcases hat with⟨rfl,aT,⟨r,rfl,hok,aV,hkp⟩,hch⟩|⟨x,rfl,aT,⟨rfl,hkp,hbl⟩,hch⟩
     ·obtain⟨hn0,hcw,pJ,mD,kI,pI,hcp⟩:=HN0C.out;have hri1:=RI.chgK (C:=C.plus jb w9.heap.size) hok aV hch (by show C.w.heap.size<=_;rw[hcw];have:=eY.out.size;omega);have jo:RI C aQ r:=hri1.less.less;have hkk:Kpt C.n0 C.kb w8 aQ:=HK89.out.trans ((Kpt.less (C:=C) hkp).trans (Kpt.chg hch fun b hb=>⟨by rw[hn0];omega,by rw[kI];intro e;subst e;omega⟩));have dK:=zqO jV (by have:=jo.below;rw[hcw]at this;exact this) HHB48.out hkk (by rw[hn0];exact hs46);have gK:=zh jo;have HX:=zh (show Re=(r.S.state,r.n,0,r.ent)from HRR.out);obtain⟨-,x7,-,x9,-⟩:=jo.cells;rw[pJ]at x7 x9;rw[mD]at x9;have xp:aQ.cell? ⟨pb,0,none⟩=some (.pointer (some ⟨rb,0,none⟩)):=zc (hkk.blk (.inr (by rw[kI])) yX.out) rfl;have HKR:=zh (zkc gT.out dK);have nS:=zh dK;have hls:=jo.ks;have HST:=zh (fun w' (hb:Below aQ.heap.size aQ w')=>(hls.later hb).state);rw[pI]at HST
      have BV:=zh (show r.ent.length=np by rw[jo.el,hcp,rq.out]);have nM:=zh jo.ent;rw[hn0,mD]at nM;have hne0:(0:Int)=0:=rfl;have az:=zh (show ∀w',Below aQ.heap.size aQ w'->(fun w':World=>zv w' pb 0 (.pointer (some ⟨rb,0,none⟩))/\zv w' rb 7 (.int .i64 r.n)/\zv w' rb 9 (.slice (some ⟨eb,0,none⟩) np np)) w' from fun w' hb=>⟨zb hb xp,zb hb x7,zb hb x9⟩);clear aV hri1 jo hkk hkp hls hn0 hcw pJ mD kI pI hch x7 x9 xp dK hok;go_upto_region 10 with fail;have hSS:zW (fun w':World=>zv w' pb 0 (.pointer (some ⟨rb,0,none⟩))/\zv w' rb 7 (.int .i64 r.n)/\zv w' rb 9 (.slice (some ⟨eb,0,none⟩) np np)) zU aQ.drew:=⟨az.out _ zr.drew,trivial⟩
      refine wp_region_noPanic ?_;refine zG hSS 12 ?_;refine zT 0 hSS ?_;refine zT 1 hSS ?_;refine zT 2 hSS ?_;refine zT 3 hSS ?_;refine zT 4 hSS ?_;refine zT 6 hSS ?_;refine zT 7 hSS ?_;refine zT 8 hSS ?_;refine zT 9 hSS ?_;have had:Calls prog 102 [.pointer (some ⟨P.sb,0,none⟩)].toArray aQ.drew fun e W'=>∃v,e=.returned v/\(OwnS W' aQ.heap.size r.S.state v/\Below aQ.heap.size aQ W') :=
       (HST.out _ zr.drew).mono fun e w' ⟨v,h1,h2,h3⟩=>⟨v,h1,h2,zka (zs aQ).drew h3⟩
      refine zo 5 fun K hK=>?_;refine zkf (by rfl) (.func 102) [.tmp 59] _ (by rfl) 102 _ zwP (by rfl) _ (by rfl) _ had ?_;rintro v12 iW ⟨sD,pR⟩;obtain⟨A9,c9,B9,d9,D9,e9,rfl⟩:=sD.slices;have HO12:=zh sD;have gW:=zh pR;refine hK.out _ _ ⟨az.out _ pR,trivial⟩ ?_;have aM:=zV hSS (az.out _ pR) trivial;clear hK K hSS had sD pR;(try simp only[zQ]);have hbr:=zK6;refine zT 10 aM ?_;refine zo 11 fun K hK=>?_;(try simp only[zA,zB,zC]);go_simp;refine hK.out _ _ ⟨az.out _ gW.out,trivial⟩ ?_;clear hK K;(try simp only[zQ]);have aI:=zkc HKR.out gW.out;have x0:iW.cell? ⟨W.heap.size+3,0,none⟩=some (.slice none 0 0):=zc aI rfl;have x1:iW.cell? ⟨W.heap.size+3,1,none⟩=some (.slice none 0 0):=zc aI rfl;have x2:iW.cell? ⟨W.heap.size+3,2,none⟩=some (.slice none 0 0):=zc aI rfl;have x3:iW.cell? ⟨W.heap.size+3,3,none⟩=some (.int .i64 0):=zc aI rfl
      have x4:iW.cell? ⟨W.heap.size+3,4,none⟩=some (.int .i64 0):=zc aI rfl;have xf:∀o,iW.frozen? ⟨W.heap.size+3,o,none⟩=false:=fun _=>zf aI;refine zp 12 fun K hK=>?_;(try simp only[zQ]);go_simp;obtain⟨hh,hch⟩:=set5 (u0:=.slice A9 r.S.state.cells.length c9) (u1:=.slice B9 r.S.state.tin.length d9) (u2:=.slice D9 r.S.state.tout.length e9) (u3:=.int .i64 r.n) (u4:=.int .i64 0) aI;obtain⟨lh,hw13⟩:=zX ((((((iW.setCell ⟨W.heap.size+3,0,none⟩ (.slice A9 r.S.state.cells.length c9)).setCell ⟨W.heap.size+3,1,none⟩ (.slice B9 r.S.state.tin.length d9)).setCell ⟨W.heap.size+3,2,none⟩ (.slice D9 r.S.state.tout.length e9)).setCell ⟨W.heap.size+3,3,none⟩ (.int .i64 r.n)).setCell ⟨W.heap.size+3,4,none⟩ (.int .i64 0)));rw[hw13]at hh hch ⊢;have dG:=zh hch;have t0:lh.cell? ⟨W.heap.size+3,0,none⟩=some (.slice A9 r.S.state.cells.length c9):=zc hh rfl
      have t1:lh.cell? ⟨W.heap.size+3,1,none⟩=some (.slice B9 r.S.state.tin.length d9):=zc hh rfl;have t2:lh.cell? ⟨W.heap.size+3,2,none⟩=some (.slice D9 r.S.state.tout.length e9):=zc hh rfl;have t3:lh.cell? ⟨W.heap.size+3,3,none⟩=some (.int .i64 r.n):=zc hh rfl;have t4:lh.cell? ⟨W.heap.size+3,4,none⟩=some (.int .i64 0):=zc hh rfl;have hszs:W.heap.size+4<=aQ.heap.size:=by have:=nS.out.size;omega
      have hplt:W.heap.size+3<w7.heap.size:=by have:=qQ.size;omega
      refine hK.out _ _ ?_ ?_
      ·obtain⟨q1,q2,q3⟩:=az.out _ gW.out;exact⟨zkZ hch q1 (by simp only;omega),zkZ hch q2 (by simp only;omega),zkZ hch q3 (by simp only;omega)⟩
      clear hK K hch hh hw13 x0 x1 x2 x3 x4 xf aI aM az;(try simp only[zQ]);refine zd ?_;refine NoPanic.normal ?_;go_wp2_with fail;have hrow:=zkp nM.out gW.out;have hrow2:=zmi hrow (fun b hb=>dG.out.block b (hrow.lt b hb).2 (by have:=(hrow.lt b hb).1;omega));have hI:∀z∈r.ent.map Int.ofNat,I64 z:=fun z hz=>by
       obtain⟨q,hq,rfl⟩:=List.mem_map.1 hz;have h1:=gK.out.en q hq;have h2:=gK.out.n;exact⟨by simp only[Int.ofNat_eq_natCast];omega,by simp only[Int.ofNat_eq_natCast];omega⟩
      obtain⟨Ae,ce,he1,he2,he3⟩:=zrX (l:=r.ent.map Int.ofNat) (by simpa using hrow2) hI;injection he1 with he1 _ he4;subst he1 he4;refine bodyPost_ret (v:=.tuple #[.slice (some ⟨eb,0,none⟩) np np,.agg #[.slice A9 r.S.state.cells.length c9,.slice B9 r.S.state.tin.length d9,.slice D9 r.S.state.tout.length e9,.int .i64 r.n,.int .i64 0]]) (by simp[results,results57,go_sem,t0,t1,t2,t3,t4]) rfl ?_;rw[HX.out];refine⟨_,_,_,_,_,by rw[BV.out],(HO12.out.chg dG.out fun b hb=>by omega).lower (by omega),he3.keep (fun b hb _=>by have:=hb4s;omega) (fun _ _ _=>rfl),by simpa using he2,?_⟩;exact⟨(zka jV (zka nS.out gW.out)).trans (dG.out.below (zka jV (zka nS.out gW.out)).size fun b hb=>by omega),LimR.run gK.out.ks.wf gK.out.fb _⟩
     ·have hx:x≠0:=fun e=>hon (by rw[e]);obtain⟨hn0,hcw,pJ,mD,kI,pI,-⟩:=HN0C.out;have hkk:Kpt C.n0 C.kb w8 aQ:=HK89.out.trans ((Kpt.less (C:=C) hkp).trans (Kpt.chg hch fun b hb=>⟨by rw[hn0];omega,by rw[kI];intro e;subst e;omega⟩));have pM:Below C.w.heap.size C.w aT:=hbl;rw[hcw]at pM;have hs8:=eY.out.size;have pO:Below W.heap.size W aQ:=pM.trans (hch.below pM.size fun b hb=>by omega);have dK:=zqO jV pO HHB48.out hkk (by rw[hn0];exact hs46);have HX:=zh (show Re=(s,0,x,[])from HRR.out);have e1:(x != 0)=true:=by simpa using hx
      have yP:=zh hx;clear hn0 hcw pJ mD kI pI hkk pO hkp hbl pM hch hon;have dY:=zkc aA.out dK;have mI:=zkc gT.out dK;have s0:aQ.cell? ⟨W.heap.size+1,0,none⟩=some (.slice A s.cells.length c):=zc dY rfl;have s1:aQ.cell? ⟨W.heap.size+1,1,none⟩=some (.slice B s.tin.length d):=zc dY rfl;have s2:aQ.cell? ⟨W.heap.size+1,2,none⟩=some (.slice D s.tout.length e):=zc dY rfl;have aW:=zh (eP.out aQ (zka aF.out dK));have dz:=zh mI;have hbq:=dK;clear dY mI;go_wp2_with fail;refine aW.out.mono ?_;rintro e9 w9 ⟨v9,rfl,dP,aZ⟩;obtain⟨A9,c9,B9,d9,D9,e9,rfl⟩:=dP.slices;have fP:=zh dP;have aH:=zh (zka hbq aZ);have aI:=zkc dz.out aZ;have x0:w9.cell? ⟨W.heap.size+3,0,none⟩=some (.slice none 0 0):=zc aI rfl;have x1:w9.cell? ⟨W.heap.size+3,1,none⟩=some (.slice none 0 0):=zc aI rfl
      have x2:w9.cell? ⟨W.heap.size+3,2,none⟩=some (.slice none 0 0):=zc aI rfl;have x3:w9.cell? ⟨W.heap.size+3,3,none⟩=some (.int .i64 0):=zc aI rfl;have x4:w9.cell? ⟨W.heap.size+3,4,none⟩=some (.int .i64 0):=zc aI rfl;have xf:∀o,w9.frozen? ⟨W.heap.size+3,o,none⟩=false:=fun _=>zf aI;have iq:=zh aI;have hbr:=bRes;have jm:W.heap.size+4<=aQ.heap.size:=by have:=hbq.size;rw[qR.out]at this;exact this
      clear s0 s1 s2 aI dP aZ hbq aW;go_wp2_with fail;obtain⟨hh,hch⟩:=set5 (u0:=.slice A9 s.cells.length c9) (u1:=.slice B9 s.tin.length d9) (u2:=.slice D9 s.tout.length e9) (u3:=.int .i64 0) (u4:=.int .i64 x) iq.out;obtain⟨aT,bY⟩:=zX ((((((w9.setCell ⟨W.heap.size+3,0,none⟩ (.slice A9 s.cells.length c9)).setCell ⟨W.heap.size+3,1,none⟩ (.slice B9 s.tin.length d9)).setCell ⟨W.heap.size+3,2,none⟩ (.slice D9 s.tout.length e9)).setCell ⟨W.heap.size+3,3,none⟩ (.int .i64 0)).setCell ⟨W.heap.size+3,4,none⟩ (.int .i64 x)));rw[bY]at hh hch ⊢;have t0:aT.cell? ⟨W.heap.size+3,0,none⟩=some (.slice A9 s.cells.length c9):=zc hh rfl;have t1:aT.cell? ⟨W.heap.size+3,1,none⟩=some (.slice B9 s.tin.length d9):=zc hh rfl;have t2:aT.cell? ⟨W.heap.size+3,2,none⟩=some (.slice D9 s.tout.length e9):=zc hh rfl;have t3:aT.cell? ⟨W.heap.size+3,3,none⟩=some (.int .i64 0):=zc hh rfl
      have t4:aT.cell? ⟨W.heap.size+3,4,none⟩=some (.int .i64 x):=zc hh rfl;refine bodyPost_ret (v:=.tuple #[.slice none 0 0,.agg #[.slice A9 s.cells.length c9,.slice B9 s.tin.length d9,.slice D9 s.tout.length e9,.int .i64 0,.int .i64 x]]) (by simp[results,results57,go_sem,t0,t1,t2,t3,t4]) rfl ?_;rw[HX.out];exact⟨none,0,_,_,_,rfl,(fP.out.chg hch fun b hb=>by omega).lower (by omega),fun i hi=>absurd hi (by simp),zl,(zka aF.out aH.out).trans (hch.below (zka aF.out aH.out).size fun b hb=>by omega),nD.out,fun h=>by first|(simp at h;done)|exact absurd h yP.out⟩
    ·right
     have bB:=HC.out;have iZ:=HU.out;have hcc:(l7=true->l6=true)/\(l8=true->l7=true):=⟨bB.1,bB.2.1⟩
     refine⟨f-1,?_,?_,?_⟩
     ·clear HC bB HU iZ ha ag hcc;subst hf;revert hall;revert l6 l7 l8 l9
      decide
     ·clear HC bB HU iZ ha ag hf;revert hall hcc;revert l6 l7 l8 l9
      decide +kernel
     intro i hi;have hcase:(i=6/\l6=false/\l7=false/\l8=false)\/(i=7/\l7=false/\l6=true/\l8=false)\/(i=8/\l8=false/\l6=true/\l7=true)\/(i=9/\l9=false):=by
      refine of_decide_eq_true ((List.all_eq_true (p:=fun i=>decide ((i=6/\l6=false/\l7=false/\l8=false)\/(i=7/\l7=false/\l6=true/\l8=false)\/(i=8/\l8=false/\l6=true/\l7=true)\/(i=9/\l9=false)))).1 ?_ i hi);clear HC bB HU iZ ha ag hf hi;revert hall hcc;revert l6 l7 l8 l9
      decide +kernel
     clear hi hall;subst ha hA;rcases hcase with⟨rfl,rfl,rfl,rfl⟩|⟨rfl,rfl,rfl,rfl⟩|⟨rfl,rfl,rfl,rfl⟩|⟨rfl,rfl⟩
     ·refine wpOp_step rfl (fun K' aa=>?_);have hK:=zh aa;clear aa;have hU1:=iZ.1 rfl;have Be:=iZ.2.1 rfl;have xc:=iZ.2.2.1 rfl;subst hU1 Be xc;(try simp only[zQ]);go_simp;have hsz:=ag.out.size;exact hK.out _ _ ⟨true,false,false,l9,_,undef,undef,v12,wr.heap.size,0,pb,(by subst hf;simp<;>omega),rfl,(by simp only[zQ]),zh (zkb ag.out _),zh ⟨fun h=>(by cases h),fun h=>(by cases h),fun _=>⟨rfl,heap_alloc_new wr _,hsz⟩,fun h=>(by cases h),fun h=>(by cases h),fun h=>⟨(bB.2.2.2.2.2 h).1,zke (bB.2.2.2.2.2 h).2.1 _,(bB.2.2.2.2.2 h).2.2⟩⟩,zh ⟨fun h=>(by cases h),fun _=>rfl,fun _=>rfl,iZ.2.2.2⟩⟩
     ·refine wpOp_step rfl (fun K' aa=>?_);have hK:=zh aa;clear aa;have Be:=iZ.2.1 rfl;have xc:=iZ.2.2.1 rfl;obtain⟨hv6,he,hel⟩:=bB.2.2.1 rfl;subst Be xc hv6;have hbn:=bRun;(try simp only[zQ]);go_simp;exact hK.out _ _ ⟨true,true,false,l9,_,_,undef,v12,eb,0,pb,(by subst hf;simp<;>omega),rfl,(by simp only[zQ]),ag,zh ⟨fun _=>rfl,fun h=>(by cases h),fun _=>⟨rfl,he,hel⟩,fun _=>rfl,fun h=>(by cases h),bB.2.2.2.2.2⟩,zh ⟨fun h=>(by cases h),fun h=>(by cases h),fun _=>rfl,iZ.2.2.2⟩⟩
     ·refine wpOp_step rfl (fun K' aa=>?_);have hK:=zh aa;clear aa;have xc:=iZ.2.2.1 rfl;obtain⟨hv6,he,hel⟩:=bB.2.2.1 rfl;have hv7:=bB.2.2.2.1 rfl;subst xc hv6 hv7;(try simp only[zQ]);go_simp;have hsz:=ag.out.size;exact hK.out _ _ ⟨true,true,true,l9,_,_,_,v12,eb,wr.heap.size,pb,(by subst hf;simp<;>omega),rfl,(by simp only[zQ]),zh (zkb ag.out _),zh ⟨fun _=>rfl,fun _=>rfl,fun _=>⟨rfl,zke he _,hel⟩,fun _=>rfl,fun _=>⟨rfl,heap_alloc_new wr _,hsz⟩,fun h=>⟨(bB.2.2.2.2.2 h).1,zke (bB.2.2.2.2.2 h).2.1 _,(bB.2.2.2.2.2 h).2.2⟩⟩,zh ⟨fun h=>(by cases h),fun h=>(by cases h),fun h=>(by cases h),iZ.2.2.2⟩⟩
     ·refine wpOp_step rfl (fun K' aa=>?_);have hK:=zh aa;clear aa;have hU4:=iZ.2.2.2 rfl;subst hU4;(try simp only[zQ]);go_simp;have hsz:=ag.out.size;exact hK.out _ _ ⟨l6,l7,l8,true,v43,v44,v45,_,eb,rb,wr.heap.size,(by subst hf;simp<;>omega),rfl,(by simp only[zQ]),zh (zkb ag.out _),zh ⟨bB.1,bB.2.1,fun h=>⟨(bB.2.2.1 h).1,zke (bB.2.2.1 h).2.1 _,(bB.2.2.1 h).2.2⟩,bB.2.2.2.1,fun h=>⟨(bB.2.2.2.2.1 h).1,zke (bB.2.2.2.2.1 h).2.1 _,(bB.2.2.2.2.1 h).2.2⟩,fun _=>⟨rfl,heap_alloc_new wr _,hsz⟩⟩,zh ⟨iZ.1,iZ.2.1,iZ.2.2.1,fun h=>(by cases h)⟩⟩
  ·have HX:=zh (show Re=(s,0,3,[]) by rw[<-dx.out,resO,if_pos (.inr hn)]);obtain⟨n,hnn⟩:=zX (chkN p);rw[hnn];have hng:(0:Int)<(n:Int):=by omega
   clear hn hnn;have dY:=zkc aA.out mO;have mI:=zkc gT.out mO;have s0:w6.cell? ⟨W.heap.size+1,0,none⟩=some (.slice A s.cells.length c):=zc dY rfl;have s1:w6.cell? ⟨W.heap.size+1,1,none⟩=some (.slice B s.tin.length d):=zc dY rfl;have s2:w6.cell? ⟨W.heap.size+1,2,none⟩=some (.slice D s.tout.length e):=zc dY rfl;have aW:=zh (eP.out w6 (zka aF.out mO));have dz:=zh mI;have hbq:=mO;clear dY mI;go_wp2_with fail;refine aW.out.mono ?_;rintro e9 w9 ⟨v9,rfl,dP,aZ⟩;obtain⟨A9,c9,B9,d9,D9,e9,rfl⟩:=dP.slices;have fP:=zh dP;have aH:=zh (zka hbq aZ);have aI:=zkc dz.out aZ;have x0:w9.cell? ⟨W.heap.size+3,0,none⟩=some (.slice none 0 0):=zc aI rfl;have x1:w9.cell? ⟨W.heap.size+3,1,none⟩=some (.slice none 0 0):=zc aI rfl;have x2:w9.cell? ⟨W.heap.size+3,2,none⟩=some (.slice none 0 0):=zc aI rfl;have x3:w9.cell? ⟨W.heap.size+3,3,none⟩=some (.int .i64 0):=zc aI rfl
   have x4:w9.cell? ⟨W.heap.size+3,4,none⟩=some (.int .i64 0):=zc aI rfl;have xf:∀o,w9.frozen? ⟨W.heap.size+3,o,none⟩=false:=fun _=>zf aI;have iq:=zh aI;have hbr:=bRes;have jm:W.heap.size+4<=w6.heap.size:=by have:=hbq.size;rw[qR.out]at this;exact this
   clear s0 s1 s2 aI dP aZ hbq aW;go_wp2_with fail;obtain⟨hh,hch⟩:=set5 (u0:=.slice A9 s.cells.length c9) (u1:=.slice B9 s.tin.length d9) (u2:=.slice D9 s.tout.length e9) (u3:=.int .i64 0) (u4:=.int .i64 3) iq.out;obtain⟨aT,bY⟩:=zX ((((((w9.setCell ⟨W.heap.size+3,0,none⟩ (.slice A9 s.cells.length c9)).setCell ⟨W.heap.size+3,1,none⟩ (.slice B9 s.tin.length d9)).setCell ⟨W.heap.size+3,2,none⟩ (.slice D9 s.tout.length e9)).setCell ⟨W.heap.size+3,3,none⟩ (.int .i64 0)).setCell ⟨W.heap.size+3,4,none⟩ (.int .i64 3)));rw[bY]at hh hch ⊢;have t0:aT.cell? ⟨W.heap.size+3,0,none⟩=some (.slice A9 s.cells.length c9):=zc hh rfl;have t1:aT.cell? ⟨W.heap.size+3,1,none⟩=some (.slice B9 s.tin.length d9):=zc hh rfl;have t2:aT.cell? ⟨W.heap.size+3,2,none⟩=some (.slice D9 s.tout.length e9):=zc hh rfl;have t3:aT.cell? ⟨W.heap.size+3,3,none⟩=some (.int .i64 0):=zc hh rfl
   have t4:aT.cell? ⟨W.heap.size+3,4,none⟩=some (.int .i64 3):=zc hh rfl;refine bodyPost_ret (v:=.tuple #[.slice none 0 0,.agg #[.slice A9 s.cells.length c9,.slice B9 s.tin.length d9,.slice D9 s.tout.length e9,.int .i64 0,.int .i64 3]]) (by simp[results,results57,go_sem,t0,t1,t2,t3,t4]) rfl ?_;rw[HX.out];exact⟨none,0,_,_,_,rfl,(fP.out.chg hch fun b hb=>by omega).lower (by omega),fun i hi=>absurd hi (by simp),zl,(zka aF.out aH.out).trans (hch.below (zka aF.out aH.out).size fun b hb=>by omega),nD.out,fun h=>by first|(simp at h;done)|exact absurd h yP.out⟩
end
end Go.Proofs.YtembgnhbpmfhpaaGreat
