/-
  Texts of the proof, put together without their remarks: ScV, Fa, ScK, Gf, Wfp.
-/
import Derived.Test.YtckhofdinldhpaaGreatR8
set_option linter.unusedSimpArgs false
set_option linter.unusedVariables false
set_option maxHeartbeats 8000000
set_option maxRecDepth 100000
namespace Go.Proofs.YtckhofdinldhpaaGreat
open Go Go.RowKit
def cntA (ps:List PR) (s:ByteArray) (l:Nat):Nat->List T->List VD->Nat
 | _,[],_=>0
 | i,t::ts,vs=>one1 (argE ps s l i t.s vs)+cntA ps s l (i+1) ts vs
mutual
/-- How many faults scope.visit reports. -/
def cntV (ps:List PR):T->List VD->Nat
 | .nd k _ s ks,vs=>one1 (zld ps k s ks.length vs)+(if k=50\/k=51 then cntA ps s ks.length 0 ks vs else cntK ps k s 0 ks vs)
def cntK (ps:List PR) (k:Int) (s:ByteArray):Nat->List T->List VD->Nat
 | _,[],_=>0
 | i,t::ts,vs=>cntV ps t (zlz k s i vs)+cntK ps k s (i+1) ts vs
end
theorem zpM (ps:List PR) (s:ByteArray) (l:Nat) (vs:List VD):∀ (a b:List T) (i:Nat),cntA ps s l i (a++b) vs=cntA ps s l i a vs+cntA ps s l (i+a.length) b vs
 | [],b,i=>by simp[cntA]
 | t::ts,b,i=>by simp[cntA,zpM ps s l vs ts b (i+1),Nat.add_assoc,Nat.add_comm 1 ts.length]
theorem zpL (ps:List PR) (k:Int) (s:ByteArray) (vs:List VD):∀ (a b:List T) (i:Nat),cntK ps k s i (a++b) vs=cntK ps k s i a vs+cntK ps k s (i+a.length) b vs
 | [],b,i=>by simp[cntK]
 | t::ts,b,i=>by simp[cntK,zpL ps k s vs ts b (i+1),Nat.add_assoc,Nat.add_comm 1 ts.length]
theorem zrY (ps:List PR) (s:ByteArray) (l:Nat) (vs:List VD) {ks:List T} {j:Nat} (h:j<ks.length):cntA ps s l 0 (ks.take (j+1)) vs=cntA ps s l 0 (ks.take j) vs+one1 (argE ps s l j ks[j].s vs):=by
 rw[List.take_succ_eq_append_getElem h,zpM];have:(ks.take j).length=j:=by simp;omega
 simp[cntA,this]
theorem zwu (ps:List PR) (k:Int) (s:ByteArray) (vs:List VD) {ks:List T} {j:Nat} (h:j<ks.length):cntK ps k s 0 (ks.take (j+1)) vs=cntK ps k s 0 (ks.take j) vs+cntV ps ks[j] (zlz k s j vs):=by
 rw[List.take_succ_eq_append_getElem h,zpL];have:(ks.take j).length=j:=by simp;omega
 simp[cntK,this]
theorem znM (e:Int):one1 e<=1:=by unfold one1;split<;>omega
theorem zti (t:T):1<=size t:=by cases t;rw[size];omega
theorem zq9 (ps:List PR) (s:ByteArray) (l:Nat) (vs:List VD):∀ (ks:List T) (i:Nat),cntA ps s l i ks vs<=zkK ks
 | [],i=>by simp[cntA]
 | t::ts,i=>by
  have h1:=zq9 ps s l vs ts (i+1);have h2:=znM (argE ps s l i t.s vs);have h3:=zti t;simp only[cntA,zkK];omega
theorem zsU (ps:List PR) (k:Int) (s:ByteArray):∀ (ks:List T),(∀ t∈ks,∀ vs,cntV ps t vs<=size t)->∀ (i:Nat) (vs:List VD),cntK ps k s i ks vs<=zkK ks
 | [],_,i,vs=>by simp[cntK]
 | t::ts,h,i,vs=>by
  have h1:=zsU ps k s ts (fun u hu=>h u (by simp[hu])) (i+1) vs;have h2:=h t (by simp) (zlz k s i vs);simp only[cntK,zkK];omega
theorem zws (ps:List PR) (t:T):∀ vs,cntV ps t vs<=size t:=by
 induction t using T.ind with
 | _ k n s ks ih =>
 intro vs;rw[cntV,size];have h1:=znM (zld ps k s ks.length vs);have h2:=zq9 ps s ks.length vs ks 0;have h3:=zsU ps k s ks ih 0 vs
 split<;>omega
theorem zl7:∀ (ks:List T) (j:Nat),zkK (ks.take j)<=zkK ks
 | [],j=>by simp[zkK]
 | t::ts,0=>by simp[zkK]
 | t::ts,j+1=>by have:=zl7 ts j;simp only[List.take_succ_cons,zkK];omega
theorem zuv (k:Int) (s:ByteArray) (i:Nat) (vs:List VD):(zlz k s i vs).length<=vs.length+1:=by unfold zlz;split;simp;split<;>simp
theorem PV.keep {w w':World} {S S':Nat->Prop} {p:PG} {v:Value} (h:PV w S p v) (hS:∀ b,S b->b<w.heap.size->S' b) (hk:∀ b,S b->b<w.heap.size->w'.heap[b]?=w.heap[b]?):PV w' S' p v :=
 let ⟨A1,c1,A2,c2,A3,c3,e,h⟩:=h;⟨A1,c1,A2,c2,A3,c3,e,h.keep hS hk⟩
structure VsI (Rd:World->Prop) (n0 fb:Nat) (Wb:World) (pv:Value) (N:Nat) (wr:World) (pv':Value):Prop where
 rd:Rd wr
 fs:FS wr n0 fb N pv'
 own:∀ b,pv'.ownBlock=some b->pv.ownBlock=some b\/Wb.heap.size<=b
 chg:Chg (fun b=>b=fb\/pv.ownBlock=some b) Wb wr
theorem VsI.step {f:FuncId} {cap:Array Value} {Rd:World->Prop} {n0 fb:Nat} {Wb wr w5 W6:World} {pv pv':Value} {N N':Nat} {e:Ending} (hr:RepC f cap Rd n0 fb) (h:VsI Rd n0 fb Wb pv N wr pv') (hb:Below wr.heap.size wr w5) (hp:RepP w5 n0 fb pv' N' e W6) :
  ∃ iA,VsI Rd n0 fb Wb pv N' W6 iA:=by
 obtain⟨_,iA,hfs,aR,hc⟩:=hp;have pK:=h.fs.later hb;have hz:=h.chg.size;have oN:=hb.size;refine⟨iA,hr.keep w5 W6 pv' N (hr.keep wr w5 pv' N h.rd h.fs (Chg.of_below hb)) pK hc,hfs,fun b hb'=>?_,(h.chg.trans (Chg.of_below hb)).trans2 hc fun b hlt hh=>?_⟩
 ·rcases aR b hb' with h1|h1
  ·exact h.own b h1
  ·exact .inr (by omega)
 ·rcases hh with hh|hh
  ·exact .inl hh
  ·rcases h.own b hh with h1|h1
   ·exact .inr h1
   ·omega
theorem VsI.rep {Rd:World->Prop} {n0 fb:Nat} {W Wb w:World} {pw pv':Value} {N':Nat} {e:Ending} (h:VsI Rd n0 fb Wb pw N' w pv') (hb:Below W.heap.size W Wb) (he:∃ v,e=.returned v):RepP W n0 fb pw N' e w :=
 ⟨he,pv',h.fs,fun b hh=>(h.own b hh).imp id fun h1=>by have:=hb.size;omega,(Chg.of_below hb).trans h.chg⟩
def IsW (x:Value) (w:World) (v:Value) (w':World):Prop:=v=x/\Below w.heap.size w w'
theorem zoJ {P:Program} {f:FuncId} {args:Array Value} {w:World} {x:Value} (h:Calls P f args w fun e w'=>e=.returned x/\Below w.heap.size w w'):Calls P f args w fun e w'=>∃ v,e=.returned v/\IsW x w v w' :=
 h.mono fun _ _ ⟨he,hb⟩=>⟨_,he,rfl,hb⟩
def RepV (W:World) (n0 fb:Nat) (pv:Value) (N':Nat) (_:Value) (W':World):Prop:=RepP W n0 fb pv N' (.returned undef) W'
theorem zm1 {P:Program} {f:FuncId} {args:Array Value} {W:World} {n0 fb N':Nat} {pv:Value} (h:Calls P f args W (RepP W n0 fb pv N')):Calls P f args W fun e w'=>∃ v,e=.returned v/\RepV W n0 fb pv N' v w' :=
 h.mono fun _ _ ⟨⟨v,he⟩,hp⟩=>⟨v,he,⟨_,rfl⟩,hp⟩
def zLi (w:World) (S:Nat->Prop) (vs:List VD) (v:Value) (w':World):Prop:=∃ A' c',v=.slice A' vs.length c'/\RowV w' (fun b=>S b\/w.heap.size<=b) A' vs/\vs.length<=c'/\Below w.heap.size w w'
theorem zvc {P:Program} {f:FuncId} {args:Array Value} {w:World} {S:Nat->Prop} {vs:List VD} (h:Calls P f args w (zyP w S vs)):Calls P f args w fun e w'=>∃ v,e=.returned v/\zLi w S vs v w' :=
 h.mono fun _ _ ⟨A,c,he,hn⟩=>⟨_,he,A,c,rfl,hn⟩
theorem zz1:IsFn Tryz.prog 137 Tryz.f137:=⟨Tryz.func137,by kernel_rfl,by kernel_rfl⟩
theorem zqo:IsFn Tryz.prog 139 Tryz.f139:=⟨Tryz.func139,by kernel_rfl,by kernel_rfl⟩
theorem zsN:IsFn Tryz.prog 138 Tryz.f138:=⟨Tryz.func138,by kernel_rfl,by kernel_rfl⟩
theorem zz0:IsFn Tryz.prog 140 Tryz.f140:=⟨Tryz.func140,by kernel_rfl,by kernel_rfl⟩
theorem zzW:IsFn Tryz.prog 95 Tryz.f95:=⟨Tryz.func95,by kernel_rfl,by kernel_rfl⟩
theorem zop (f:FuncId) (cap:Array Value) (Rd:World->Prop) (n0 fb:Nat) (hrep:RepC f cap Rd n0 fb) (p:PG) (t:T) :
  ∀ (S:Nat->Prop) (vs:List VD) (A:Option Addr) (c:Nat) (q:List Int) (Aq:Option Addr) (cq N:Nat) (pw:Value) (W:World) (v1 v2:Value),Rd W->FS W n0 fb N pw->PV W S p v1->NV W S t v2->RowV W S A vs->vs.length<=c->RowI W S Aq q->q.length<=cq ->
   (∀ b,S b->b<W.heap.size->¬ (b=fb\/pw.ownBlock=some b))->q.length+dep t<=50000->vs.length+dep t<=50000->N+size t<=1000000 ->
   Calls Tryz.prog 95 #[v1,v2,.slice Aq q.length cq,.slice A vs.length c,.func (.func f) #[] cap] W (RepP W n0 fb pw (N+cntV p.prs t vs)):=by
 obtain⟨fn,hfn⟩:=hrep.fn;have aT:=zh hrep;clear hrep
 induction t using T.ind with
 | _ tk tn ts ks ih =>
 intro S vs A c q Aq cq N pw W v1 v2 hrd hfs hv1 hv2 hrow hlc hqr hqc ek hdq hdv hN;have nK:=zh ih;have hvv:=hv1;obtain⟨A1,c1,A2,c2,A3,c3,rfl,-⟩:=hv1;obtain⟨L1,hL1⟩:∃ L,p.vs.length=L:=⟨_,rfl⟩
 obtain⟨L2,hL2⟩:∃ L,p.prs.length=L:=⟨_,rfl⟩
 obtain⟨k,hk⟩:∃ k,p.m.k=k:=⟨_,rfl⟩
 obtain⟨n,hn⟩:∃ n,p.m.n=n:=⟨_,rfl⟩
 obtain⟨s,hs⟩:∃ s,p.m.s=s:=⟨_,rfl⟩
 obtain⟨l3,hl3⟩:∃ l,p.m.ks.length=l:=⟨_,rfl⟩
 rw[hL1,hL2,hk,hn,hs,hl3];rw[hL1,hL2,hk,hn,hs,hl3] at hvv;have ug:=zh hvv;clear ih hvv hL1 hL2 hk hn hs hl3;have eH:=zh hv2;obtain⟨B,tc,rfl,_,hlk,_,gq⟩:=hv2.open_;simp only[T.k_nd,T.n_nd,T.s_nd,T.ks_nd] at *
 have ak:=zkx hlk;rw[dep] at hdq hdv;rw[size] at hN;have hksz:ks.length<=1000000:=by
  have:∀ l:List T,l.length<=zkK l:=fun l=>by
   induction l with
   | nil=>simp
   | cons t ts ih=>have:=zti t;simp only[List.length_cons,zkK];omega
  have:=this ks;omega
 have HRK:=zh gq;have ae:=zh hrow;have lC:=zh hlc;have HQR:=zh hqr;have xA:=zh hqc;have lW:=zh hrd;have uu:=zh hfs;have HFAR:=zh ek;have hlv:vs.length<=LV:=by unfold LV;omega
 have qN:=zh hlv;have hfl:=hfs.lt;have rq:=zh hfl;obtain⟨CC,nX⟩:∃ CC,cntV p.prs (.nd tk tn ts ks) vs=CC:=⟨_,rfl⟩
 rw[nX];have aI:=zh nX;obtain⟨E0,hE0⟩:∃ E0,zld p.prs tk ts ks.length vs=E0:=⟨_,rfl⟩
 have rD:=zh hE0;have hE1:=znM E0;clear gq hrow hlc hqr hqc hrd hfs ek hlk hlv hv2 hfl nX hE0;go_enter Tryz.func95,Tryz.ntmps95;go_upto_region 1 with fail;have hbw:Below W.heap.size W ((W.alloc (.cells #[.slice A1 L1 c1,.slice A2 L2 c2,.int .u8 k,.int .i64 n,.string s,.slice A3 l3 c3] 35)).alloc (.cells #[.int .u8 tk,.int .i64 tn,.string ts,.slice B ks.length tc] 29)):=zkb (zkb (Below.refl _ _) _) _;have mU:=zkl (heap_alloc_new W (.cells #[.slice A1 L1 c1,.slice A2 L2 c2,.int .u8 k,.int .i64 n,.string s,.slice A3 l3 c3] 35)) (.cells #[.int .u8 tk,.int .i64 tn,.string ts,.slice B ks.length tc] 29);have hbN:=heap_alloc_new (W.alloc (.cells #[.slice A1 L1 c1,.slice A2 L2 c2,.int .u8 k,.int .i64 n,.string s,.slice A3 l3 c3] 35)) (.cells #[.int .u8 tk,.int .i64 tn,.string ts,.slice B ks.length tc] 29);simp only[World.size_alloc] at hbN
 obtain⟨Wb,jE⟩:∃ Wb,(W.alloc (.cells #[.slice A1 L1 c1,.slice A2 L2 c2,.int .u8 k,.int .i64 n,.string s,.slice A3 l3 c3] 35)).alloc (.cells #[.int .u8 tk,.int .i64 tn,.string ts,.slice B ks.length tc] 29)=Wb:=⟨_,rfl⟩
 rw[jE] at hbw mU hbN ⊢;have jF:=zh (show Wb.heap.size=W.heap.size+2 by rw[<-jE];simp);have aN:=zh hbw;have HBP:=zh mU;have HBN:=zh hbN;have jf:=zh (show ∀ w':World,w'.heap[W.heap.size]?=Wb.heap[W.heap.size]?->w'.heap[W.heap.size+1]?=Wb.heap[W.heap.size+1]?->(fun w':World=>(w'.cell? ⟨W.heap.size,0,none⟩=some (.slice A1 L1 c1)/\w'.cell? ⟨W.heap.size,1,none⟩=some (.slice A2 L2 c2)/\w'.cell? ⟨W.heap.size,2,none⟩=some (.int .u8 k)/\w'.cell? ⟨W.heap.size,3,none⟩=some (.int .i64 n)/\w'.cell? ⟨W.heap.size,4,none⟩=some (.string s)/\w'.cell? ⟨W.heap.size,5,none⟩=some (.slice A3 l3 c3))/\(w'.cell? ⟨W.heap.size+1,0,none⟩=some (.int .u8 tk)/\w'.cell? ⟨W.heap.size+1,1,none⟩=some (.int .i64 tn)/\w'.cell? ⟨W.heap.size+1,2,none⟩=some (.string ts)/\w'.cell? ⟨W.heap.size+1,3,none⟩=some (.slice B ks.length tc))) w' from fun w' h1 h2=>⟨box6 (h1.trans mU),box4 (h2.trans hbN)⟩)
 have nN:=zh (show ∀ w':World,Chg (fun b=>b=fb\/pw.ownBlock=some b) Wb w'->(fun w':World=>(w'.cell? ⟨W.heap.size,0,none⟩=some (.slice A1 L1 c1)/\w'.cell? ⟨W.heap.size,1,none⟩=some (.slice A2 L2 c2)/\w'.cell? ⟨W.heap.size,2,none⟩=some (.int .u8 k)/\w'.cell? ⟨W.heap.size,3,none⟩=some (.int .i64 n)/\w'.cell? ⟨W.heap.size,4,none⟩=some (.string s)/\w'.cell? ⟨W.heap.size,5,none⟩=some (.slice A3 l3 c3))/\(w'.cell? ⟨W.heap.size+1,0,none⟩=some (.int .u8 tk)/\w'.cell? ⟨W.heap.size+1,1,none⟩=some (.int .i64 tn)/\w'.cell? ⟨W.heap.size+1,2,none⟩=some (.string ts)/\w'.cell? ⟨W.heap.size+1,3,none⟩=some (.slice B ks.length tc))) w' from fun w' h=>jf.out w' (h.block _ (by have:=jF.out;omega) (fun hh=>by rcases hh with hh|hh;(have:=rq.out.1;omega);(have:=(rq.out.2 _ hh).2;omega))) (h.block _ (by have:=jF.out;omega) (fun hh=>by rcases hh with hh|hh;(have:=rq.out.1;omega);(have:=(rq.out.2 _ hh).2;omega))))
 have ma:=zh (show ∀ w':World,Chg (fun b=>b=fb\/pw.ownBlock=some b) Wb w'->∀ b,S b->b<W.heap.size->w'.heap[b]?=W.heap[b]? from fun w' h b hb hlt=>(h.block b (by have:=jF.out;omega) (HFAR.out b hb hlt)).trans (aN.out.block b hlt));have hi0:VsI Rd n0 fb Wb pw N Wb pw:=⟨aT.out.keep W Wb pw N lW.out uu.out (Chg.of_below hbw),uu.out.later hbw,fun b hb=>.inl hb,Chg.refl _ _⟩
 have HI0:=zh hi0;clear jE hbw mU hbN hi0;have hdr:=(Below.refl Wb.heap.size Wb).drew;have hSS:(fun w':World=>(w'.cell? ⟨W.heap.size,0,none⟩=some (.slice A1 L1 c1)/\w'.cell? ⟨W.heap.size,1,none⟩=some (.slice A2 L2 c2)/\w'.cell? ⟨W.heap.size,2,none⟩=some (.int .u8 k)/\w'.cell? ⟨W.heap.size,3,none⟩=some (.int .i64 n)/\w'.cell? ⟨W.heap.size,4,none⟩=some (.string s)/\w'.cell? ⟨W.heap.size,5,none⟩=some (.slice A3 l3 c3))/\(w'.cell? ⟨W.heap.size+1,0,none⟩=some (.int .u8 tk)/\w'.cell? ⟨W.heap.size+1,1,none⟩=some (.int .i64 tn)/\w'.cell? ⟨W.heap.size+1,2,none⟩=some (.string ts)/\w'.cell? ⟨W.heap.size+1,3,none⟩=some (.slice B ks.length tc))) Wb.drew/\(fun _:World=>True) Wb.drew:=⟨nN.out _ (Chg.of_below hdr),trivial⟩
 refine wp_region_noPanic ?_;refine zkc (fun w':World=>(w'.cell? ⟨W.heap.size,0,none⟩=some (.slice A1 L1 c1)/\w'.cell? ⟨W.heap.size,1,none⟩=some (.slice A2 L2 c2)/\w'.cell? ⟨W.heap.size,2,none⟩=some (.int .u8 k)/\w'.cell? ⟨W.heap.size,3,none⟩=some (.int .i64 n)/\w'.cell? ⟨W.heap.size,4,none⟩=some (.string s)/\w'.cell? ⟨W.heap.size,5,none⟩=some (.slice A3 l3 c3))/\(w'.cell? ⟨W.heap.size+1,0,none⟩=some (.int .u8 tk)/\w'.cell? ⟨W.heap.size+1,1,none⟩=some (.int .i64 tn)/\w'.cell? ⟨W.heap.size+1,2,none⟩=some (.string ts)/\w'.cell? ⟨W.heap.size+1,3,none⟩=some (.slice B ks.length tc))) (fun _:World=>True) 20 (by kernel_rfl) ?_;refine zT 0 hSS ?_;(try simp only[zQ]);refine zT 1 hSS ?_;(try simp only[zQ]);refine zT 2 hSS ?_;(try simp only[zQ]);refine zT 3 hSS ?_;(try simp only[zQ]);refine zT 4 hSS ?_;(try simp only[zQ]);refine zT 5 hSS ?_;(try simp only[zQ]);refine zT 6 hSS ?_
 (try simp only[zQ]);refine zo 7 fun K hK=>?_;refine zkh (by rfl) (.func 137) [.tmp 18,.tmp 19,.tmp 20] _ (by rfl) 137 _ zz1 (by rfl) _ (by rfl) _ (zoJ (zwa p (.nd tk tn ts ks) vs A c S S S _ _ _ (ug.out.later (zka aN.out hdr)) (eH.out.later (zka aN.out hdr)) (ae.out.later (zka aN.out hdr)) qN.out)) ?_;rintro vq w2 ⟨rfl,ag⟩;simp only[T.k_nd,T.s_nd,T.ks_nd];rw[rD.out];have b2:=zka hdr ag
 have aB:(fun w':World=>(w'.cell? ⟨W.heap.size,0,none⟩=some (.slice A1 L1 c1)/\w'.cell? ⟨W.heap.size,1,none⟩=some (.slice A2 L2 c2)/\w'.cell? ⟨W.heap.size,2,none⟩=some (.int .u8 k)/\w'.cell? ⟨W.heap.size,3,none⟩=some (.int .i64 n)/\w'.cell? ⟨W.heap.size,4,none⟩=some (.string s)/\w'.cell? ⟨W.heap.size,5,none⟩=some (.slice A3 l3 c3))/\(w'.cell? ⟨W.heap.size+1,0,none⟩=some (.int .u8 tk)/\w'.cell? ⟨W.heap.size+1,1,none⟩=some (.int .i64 tn)/\w'.cell? ⟨W.heap.size+1,2,none⟩=some (.string ts)/\w'.cell? ⟨W.heap.size+1,3,none⟩=some (.slice B ks.length tc))) w2/\(fun _:World=>True) w2:=⟨nN.out _ (Chg.of_below b2),trivial⟩
 refine hK.out _ _ aB ?_;clear hK K hSS;(try simp only[zQ]);refine zo 8 fun K hK=>?_;refine zlL (by rfl) (.tmp 14) [.tmp 15,.tmp 17,.tmp 21] _ (by rfl) f fn hfn cap (by rfl) _ (by rfl) _ (zm1 (aT.out.call N pw E0 q Aq cq ts S w2 (aT.out.keep Wb w2 pw N HI0.out.rd HI0.out.fs (Chg.of_below b2)) (HI0.out.fs.later b2) ((HQR.out.later aN.out).later b2) (by omega) (by omega))) ?_;rintro vq W3 hp3;obtain⟨vU,hi3⟩:=HI0.out.step aT.out b2 hp3
 have aW:(fun w':World=>(w'.cell? ⟨W.heap.size,0,none⟩=some (.slice A1 L1 c1)/\w'.cell? ⟨W.heap.size,1,none⟩=some (.slice A2 L2 c2)/\w'.cell? ⟨W.heap.size,2,none⟩=some (.int .u8 k)/\w'.cell? ⟨W.heap.size,3,none⟩=some (.int .i64 n)/\w'.cell? ⟨W.heap.size,4,none⟩=some (.string s)/\w'.cell? ⟨W.heap.size,5,none⟩=some (.slice A3 l3 c3))/\(w'.cell? ⟨W.heap.size+1,0,none⟩=some (.int .u8 tk)/\w'.cell? ⟨W.heap.size+1,1,none⟩=some (.int .i64 tn)/\w'.cell? ⟨W.heap.size+1,2,none⟩=some (.string ts)/\w'.cell? ⟨W.heap.size+1,3,none⟩=some (.slice B ks.length tc))) W3/\(fun _:World=>True) W3:=⟨nN.out _ hi3.chg,trivial⟩
 refine hK.out _ _ aW ?_;clear hK K aB;(try simp only[zQ]);refine zd ?_;refine NoPanic.normal ?_;obtain⟨⟨a0,a1,a2,a3,a4,a5⟩,b0,b1,b2',b3⟩:=aW.1;have HI3:=zh hi3;clear aW hi3 hp3 b2 ag hdr HI0;have HD:=zh (show ∀ w':World,Chg (fun b=>b=fb\/pw.ownBlock=some b) Wb w'->PV w' (fun b=>S b/\b<W.heap.size) p _/\NV w' (fun b=>S b/\b<W.heap.size) (.nd tk tn ts ks) _/\RowV w' (fun b=>S b/\b<W.heap.size) A vs/\RowI w' (fun b=>S b/\b<W.heap.size) Aq q/\zkX w' (fun b=>S b/\b<W.heap.size) B ks from fun w' h=>⟨ug.out.keep (fun b hb hlt=>⟨hb,hlt⟩) (ma.out w' h),eH.out.keep (fun b hb hlt=>⟨hb,hlt⟩) (ma.out w' h),ae.out.keep (fun b hb hlt=>⟨hb,hlt⟩) (ma.out w' h),HQR.out.keep (fun b hb hlt=>⟨hb,hlt⟩) (ma.out w' h),HRK.out.keep (fun b hb hlt=>⟨hb,hlt⟩) (ma.out w' h)⟩);by_cases hcall:tk=50\/tk=51
 ·rcases hcall with rfl|rfl
  ·go_wp2_with fail
   go_loopw [34] (fun i wr=>∃ (j:Nat) (pv':Value),j<=ks.length/\i=.int .i64 j/\VsI Rd n0 fb Wb pw (N+one1 E0+cntA p.prs ts ks.length 0 (ks.take j) vs) wr pv') (fun i _=>ks.length-(intOf i).toNat)
   case atStart=>exact⟨0,_,Nat.zero_le _,rfl,by simpa[cntA] using HI3.out⟩
   case round =>
    obtain⟨j,pv',hj,rfl,hinv⟩:=hrel;have ah:=zh hinv;clear HI3;by_cases hlt:j<ks.length
    ·obtain⟨-,-,-,-,gq⟩:=HD.out wr hinv.chg;obtain⟨a,u,A4,c4,rfl,hsa,Hu,⟨q0,q1,q2,q3⟩,hnu⟩:=gq.nd hlt;have qL:=zh hnu;clear hinv gq hnu hsa;go_upto_region 6 with fail;have hbk:Below wr.heap.size wr (wr.alloc (.cells #[.int .u8 u.k,.int .i64 u.n,.string u.s,.slice A4 u.ks.length c4] 29)):=zkb (Below.refl _ _) _;have dJ:=heap_alloc_new wr (.cells #[.int .u8 u.k,.int .i64 u.n,.string u.s,.slice A4 u.ks.length c4] 29);obtain⟨wk,hwk⟩:∃ wk,wr.alloc (.cells #[.int .u8 u.k,.int .i64 u.n,.string u.s,.slice A4 u.ks.length c4] 29)=wk:=⟨_,rfl⟩
     rw[hwk] at hbk dJ ⊢;have eF:=zh (show wk.heap.size=wr.heap.size+1 by rw[<-hwk];simp);have ax:=zh hbk;have gJ:=zh dJ;clear hwk hbk dJ
     have bO:=zh (show ∀ w':World,Below wk.heap.size wk w'->(fun w':World=>((w'.cell? ⟨W.heap.size,0,none⟩=some (.slice A1 L1 c1)/\w'.cell? ⟨W.heap.size,1,none⟩=some (.slice A2 L2 c2)/\w'.cell? ⟨W.heap.size,2,none⟩=some (.int .u8 k)/\w'.cell? ⟨W.heap.size,3,none⟩=some (.int .i64 n)/\w'.cell? ⟨W.heap.size,4,none⟩=some (.string s)/\w'.cell? ⟨W.heap.size,5,none⟩=some (.slice A3 l3 c3))/\(w'.cell? ⟨W.heap.size+1,0,none⟩=some (.int .u8 50)/\w'.cell? ⟨W.heap.size+1,1,none⟩=some (.int .i64 tn)/\w'.cell? ⟨W.heap.size+1,2,none⟩=some (.string ts)/\w'.cell? ⟨W.heap.size+1,3,none⟩=some (.slice (some a) ks.length tc)))/\(w'.cell? ⟨wr.heap.size,0,none⟩=some (.int .u8 u.k)/\w'.cell? ⟨wr.heap.size,1,none⟩=some (.int .i64 u.n)/\w'.cell? ⟨wr.heap.size,2,none⟩=some (.string u.s)/\w'.cell? ⟨wr.heap.size,3,none⟩=some (.slice A4 u.ks.length c4))) w'/\(fun _:World=>True) w' from fun w' h=>⟨⟨nN.out w' (ah.out.chg.trans (Chg.of_below (zka ax.out h))),box4 ((h.block _ (by have:=eF.out;omega)).trans gJ.out)⟩,trivial⟩)
     have hdr:=(Below.refl wk.heap.size wk).drew;have hSS:=bO.out _ hdr;refine wp_region_noPanic ?_
     refine zkc (fun w':World=>((w'.cell? ⟨W.heap.size,0,none⟩=some (.slice A1 L1 c1)/\w'.cell? ⟨W.heap.size,1,none⟩=some (.slice A2 L2 c2)/\w'.cell? ⟨W.heap.size,2,none⟩=some (.int .u8 k)/\w'.cell? ⟨W.heap.size,3,none⟩=some (.int .i64 n)/\w'.cell? ⟨W.heap.size,4,none⟩=some (.string s)/\w'.cell? ⟨W.heap.size,5,none⟩=some (.slice A3 l3 c3))/\(w'.cell? ⟨W.heap.size+1,0,none⟩=some (.int .u8 50)/\w'.cell? ⟨W.heap.size+1,1,none⟩=some (.int .i64 tn)/\w'.cell? ⟨W.heap.size+1,2,none⟩=some (.string ts)/\w'.cell? ⟨W.heap.size+1,3,none⟩=some (.slice (some a) ks.length tc)))/\(w'.cell? ⟨wr.heap.size,0,none⟩=some (.int .u8 u.k)/\w'.cell? ⟨wr.heap.size,1,none⟩=some (.int .i64 u.n)/\w'.cell? ⟨wr.heap.size,2,none⟩=some (.string u.s)/\w'.cell? ⟨wr.heap.size,3,none⟩=some (.slice A4 u.ks.length c4))) (fun _:World=>True) 40 (by kernel_rfl) ?_;refine zT 0 hSS ?_;(try simp only[zQ]);refine zT 1 hSS ?_
     (try simp only[zQ]);refine zT 2 hSS ?_;(try simp only[zQ]);refine zT 4 hSS ?_;(try simp only[zQ]);refine zT 5 hSS ?_;(try simp only[zQ]);refine zT 6 hSS ?_;(try simp only[zQ]);refine zT 7 hSS ?_;(try simp only[zQ]);refine zT 8 hSS ?_;(try simp only[zQ]);refine zT 9 hSS ?_;(try simp only[zQ]);refine zo 3 fun K hK=>?_;refine zkh (by rfl) (.func 138) [.tmp 40,.tmp 41] _ (by rfl) 138 _ zsN (by rfl) _ (by rfl) _ (zn8 (zpP q Aq cq (j:Int) ⟨by omega,by omega⟩ _ _ (HD.out _ (ah.out.chg.trans (Chg.of_below (zka ax.out hdr)))).2.2.2.1 xA.out (by omega))) ?_;rintro vq w2 ⟨Ac,cc,rfl,hrc,hcc,ag⟩;have b2:=zka hdr ag;have aB:=bO.out _ b2;refine hK.out _ _ aB ?_;clear hK K hSS;(try simp only[zQ]);refine zo 10 fun K hK=>?_
     refine zkh (by rfl) (.func 139) [.tmp 45,.tmp 46,.tmp 47,.tmp 48] _ (by rfl) 139 _ zqo (by rfl) _ (by rfl) _ (zoJ (zoN p (.nd 50 tn ts ks) j hlt vs A c _ _ _ _ _ _ (HD.out _ (ah.out.chg.trans (Chg.of_below (zka ax.out b2)))).1 (HD.out _ (ah.out.chg.trans (Chg.of_below (zka ax.out b2)))).2.1 (HD.out _ (ah.out.chg.trans (Chg.of_below (zka ax.out b2)))).2.2.1 qN.out)) ?_;rintro vq w3 ⟨rfl,az⟩;simp only[T.k_nd,T.s_nd,T.ks_nd];have b3:=zka b2 az;have aW:=bO.out _ b3;refine hK.out _ _ aW ?_;clear hK K aB;(try simp only[zQ]);refine zo 11 fun K hK=>?_;have hcl:cntA p.prs ts ks.length 0 (ks.take j) vs<=zkK ks:=Nat.le_trans (zq9 _ _ _ _ _ _) (zl7 _ _);have hF:=ah.out.fs.later (zka ax.out b3);have hR:=aT.out.keep _ _ _ _ ah.out.rd ah.out.fs (Chg.of_below (zka ax.out b3))
     refine zlL (by rfl) (.tmp 39) [.tmp 42,.tmp 44,.tmp 49] _ (by rfl) f fn hfn cap (by rfl) _ (by rfl) _ (zm1 (aT.out.call _ pv' _ (q++[(j:Int)]) Ac cc u.s _ w3 hR hF (hrc.later az) (by simp;omega) (by omega))) ?_;rintro vq W6 hp;obtain⟨ik,bF⟩:=ah.out.step aT.out (zka ax.out b3) hp;have bD:VsI Rd n0 fb Wb pw (N+one1 E0+cntA p.prs ts ks.length 0 (ks.take (j+1)) vs) W6 ik:=by rw[zrY p.prs ts ks.length vs hlt];simpa[Nat.add_assoc] using bF
     have au:(fun w':World=>((w'.cell? ⟨W.heap.size,0,none⟩=some (.slice A1 L1 c1)/\w'.cell? ⟨W.heap.size,1,none⟩=some (.slice A2 L2 c2)/\w'.cell? ⟨W.heap.size,2,none⟩=some (.int .u8 k)/\w'.cell? ⟨W.heap.size,3,none⟩=some (.int .i64 n)/\w'.cell? ⟨W.heap.size,4,none⟩=some (.string s)/\w'.cell? ⟨W.heap.size,5,none⟩=some (.slice A3 l3 c3))/\(w'.cell? ⟨W.heap.size+1,0,none⟩=some (.int .u8 50)/\w'.cell? ⟨W.heap.size+1,1,none⟩=some (.int .i64 tn)/\w'.cell? ⟨W.heap.size+1,2,none⟩=some (.string ts)/\w'.cell? ⟨W.heap.size+1,3,none⟩=some (.slice (some a) ks.length tc)))/\(w'.cell? ⟨wr.heap.size,0,none⟩=some (.int .u8 u.k)/\w'.cell? ⟨wr.heap.size,1,none⟩=some (.int .i64 u.n)/\w'.cell? ⟨wr.heap.size,2,none⟩=some (.string u.s)/\w'.cell? ⟨wr.heap.size,3,none⟩=some (.slice A4 u.ks.length c4))) W6/\(fun _:World=>True) W6:=⟨⟨nN.out _ bD.chg,box4 ((hp.2.elim fun _ h=>h.2.2.block _ (by have:=(zka ax.out b3).size;have:=b3.size;have:=eF.out;omega) (fun hh=>by have hl:=ah.out.fs.lt;rcases hh with hh|hh;(have:=hl.1;omega);(have:=(hl.2 _ hh).2;omega))).trans ((b3.block _ (by have:=eF.out;omega)).trans gJ.out))⟩,trivial⟩
     refine hK.out _ _ au ?_;clear hK K aW;(try simp only[zQ]);refine zd ?_;refine NoPanic.normal ?_;have jJ:=zh bD;clear bD bF hp au hF hR;go_wp2_with fail
     go_roundw
     case rel=>exact⟨j+1,_,by omega,by go_num,jJ.out⟩
     case measure=>simp[intOf];omega
    ·obtain rfl:j=ks.length:=by omega
     clear hinv;go_wp2_with fail;(try simp only[Exit.inBlock,Exit.then]);refine bodyPost_ret (results_none rfl _ _ _) rfl ?_;have hinv:=ah.out;rw[List.take_of_length_le (Nat.le_refl _)] at hinv;have hcc:=aI.out;rw[cntV,rD.out,if_pos (by decide)] at hcc;rw[<-hcc,<-Nat.add_assoc];exact hinv.rep aN.out ⟨_,rfl⟩
  ·go_wp2_with fail
   go_loopw [34] (fun i wr=>∃ (j:Nat) (pv':Value),j<=ks.length/\i=.int .i64 j/\VsI Rd n0 fb Wb pw (N+one1 E0+cntA p.prs ts ks.length 0 (ks.take j) vs) wr pv') (fun i _=>ks.length-(intOf i).toNat)
   case atStart=>exact⟨0,_,Nat.zero_le _,rfl,by simpa[cntA] using HI3.out⟩
   case round =>
    obtain⟨j,pv',hj,rfl,hinv⟩:=hrel;have ah:=zh hinv;clear HI3;by_cases hlt:j<ks.length
    ·obtain⟨-,-,-,-,gq⟩:=HD.out wr hinv.chg;obtain⟨a,u,A4,c4,rfl,hsa,Hu,⟨q0,q1,q2,q3⟩,hnu⟩:=gq.nd hlt;have qL:=zh hnu;clear hinv gq hnu hsa;go_upto_region 6 with fail;have hbk:Below wr.heap.size wr (wr.alloc (.cells #[.int .u8 u.k,.int .i64 u.n,.string u.s,.slice A4 u.ks.length c4] 29)):=zkb (Below.refl _ _) _;have dJ:=heap_alloc_new wr (.cells #[.int .u8 u.k,.int .i64 u.n,.string u.s,.slice A4 u.ks.length c4] 29);obtain⟨wk,hwk⟩:∃ wk,wr.alloc (.cells #[.int .u8 u.k,.int .i64 u.n,.string u.s,.slice A4 u.ks.length c4] 29)=wk:=⟨_,rfl⟩
     rw[hwk] at hbk dJ ⊢;have eF:=zh (show wk.heap.size=wr.heap.size+1 by rw[<-hwk];simp);have ax:=zh hbk;have gJ:=zh dJ;clear hwk hbk dJ
     have bO:=zh (show ∀ w':World,Below wk.heap.size wk w'->(fun w':World=>((w'.cell? ⟨W.heap.size,0,none⟩=some (.slice A1 L1 c1)/\w'.cell? ⟨W.heap.size,1,none⟩=some (.slice A2 L2 c2)/\w'.cell? ⟨W.heap.size,2,none⟩=some (.int .u8 k)/\w'.cell? ⟨W.heap.size,3,none⟩=some (.int .i64 n)/\w'.cell? ⟨W.heap.size,4,none⟩=some (.string s)/\w'.cell? ⟨W.heap.size,5,none⟩=some (.slice A3 l3 c3))/\(w'.cell? ⟨W.heap.size+1,0,none⟩=some (.int .u8 51)/\w'.cell? ⟨W.heap.size+1,1,none⟩=some (.int .i64 tn)/\w'.cell? ⟨W.heap.size+1,2,none⟩=some (.string ts)/\w'.cell? ⟨W.heap.size+1,3,none⟩=some (.slice (some a) ks.length tc)))/\(w'.cell? ⟨wr.heap.size,0,none⟩=some (.int .u8 u.k)/\w'.cell? ⟨wr.heap.size,1,none⟩=some (.int .i64 u.n)/\w'.cell? ⟨wr.heap.size,2,none⟩=some (.string u.s)/\w'.cell? ⟨wr.heap.size,3,none⟩=some (.slice A4 u.ks.length c4))) w'/\(fun _:World=>True) w' from fun w' h=>⟨⟨nN.out w' (ah.out.chg.trans (Chg.of_below (zka ax.out h))),box4 ((h.block _ (by have:=eF.out;omega)).trans gJ.out)⟩,trivial⟩)
     have hdr:=(Below.refl wk.heap.size wk).drew;have hSS:=bO.out _ hdr;refine wp_region_noPanic ?_
     refine zkc (fun w':World=>((w'.cell? ⟨W.heap.size,0,none⟩=some (.slice A1 L1 c1)/\w'.cell? ⟨W.heap.size,1,none⟩=some (.slice A2 L2 c2)/\w'.cell? ⟨W.heap.size,2,none⟩=some (.int .u8 k)/\w'.cell? ⟨W.heap.size,3,none⟩=some (.int .i64 n)/\w'.cell? ⟨W.heap.size,4,none⟩=some (.string s)/\w'.cell? ⟨W.heap.size,5,none⟩=some (.slice A3 l3 c3))/\(w'.cell? ⟨W.heap.size+1,0,none⟩=some (.int .u8 51)/\w'.cell? ⟨W.heap.size+1,1,none⟩=some (.int .i64 tn)/\w'.cell? ⟨W.heap.size+1,2,none⟩=some (.string ts)/\w'.cell? ⟨W.heap.size+1,3,none⟩=some (.slice (some a) ks.length tc)))/\(w'.cell? ⟨wr.heap.size,0,none⟩=some (.int .u8 u.k)/\w'.cell? ⟨wr.heap.size,1,none⟩=some (.int .i64 u.n)/\w'.cell? ⟨wr.heap.size,2,none⟩=some (.string u.s)/\w'.cell? ⟨wr.heap.size,3,none⟩=some (.slice A4 u.ks.length c4))) (fun _:World=>True) 40 (by kernel_rfl) ?_;refine zT 0 hSS ?_;(try simp only[zQ]);refine zT 1 hSS ?_
     (try simp only[zQ]);refine zT 2 hSS ?_;(try simp only[zQ]);refine zT 4 hSS ?_;(try simp only[zQ]);refine zT 5 hSS ?_;(try simp only[zQ]);refine zT 6 hSS ?_;(try simp only[zQ]);refine zT 7 hSS ?_;(try simp only[zQ]);refine zT 8 hSS ?_;(try simp only[zQ]);refine zT 9 hSS ?_;(try simp only[zQ]);refine zo 3 fun K hK=>?_;refine zkh (by rfl) (.func 138) [.tmp 40,.tmp 41] _ (by rfl) 138 _ zsN (by rfl) _ (by rfl) _ (zn8 (zpP q Aq cq (j:Int) ⟨by omega,by omega⟩ _ _ (HD.out _ (ah.out.chg.trans (Chg.of_below (zka ax.out hdr)))).2.2.2.1 xA.out (by omega))) ?_;rintro vq w2 ⟨Ac,cc,rfl,hrc,hcc,ag⟩;have b2:=zka hdr ag;have aB:=bO.out _ b2;refine hK.out _ _ aB ?_;clear hK K hSS;(try simp only[zQ]);refine zo 10 fun K hK=>?_
     refine zkh (by rfl) (.func 139) [.tmp 45,.tmp 46,.tmp 47,.tmp 48] _ (by rfl) 139 _ zqo (by rfl) _ (by rfl) _ (zoJ (zoN p (.nd 51 tn ts ks) j hlt vs A c _ _ _ _ _ _ (HD.out _ (ah.out.chg.trans (Chg.of_below (zka ax.out b2)))).1 (HD.out _ (ah.out.chg.trans (Chg.of_below (zka ax.out b2)))).2.1 (HD.out _ (ah.out.chg.trans (Chg.of_below (zka ax.out b2)))).2.2.1 qN.out)) ?_;rintro vq w3 ⟨rfl,az⟩;simp only[T.k_nd,T.s_nd,T.ks_nd];have b3:=zka b2 az;have aW:=bO.out _ b3;refine hK.out _ _ aW ?_;clear hK K aB;(try simp only[zQ]);refine zo 11 fun K hK=>?_;have hcl:cntA p.prs ts ks.length 0 (ks.take j) vs<=zkK ks:=Nat.le_trans (zq9 _ _ _ _ _ _) (zl7 _ _);have hF:=ah.out.fs.later (zka ax.out b3);have hR:=aT.out.keep _ _ _ _ ah.out.rd ah.out.fs (Chg.of_below (zka ax.out b3))
     refine zlL (by rfl) (.tmp 39) [.tmp 42,.tmp 44,.tmp 49] _ (by rfl) f fn hfn cap (by rfl) _ (by rfl) _ (zm1 (aT.out.call _ pv' _ (q++[(j:Int)]) Ac cc u.s _ w3 hR hF (hrc.later az) (by simp;omega) (by omega))) ?_;rintro vq W6 hp;obtain⟨ik,bF⟩:=ah.out.step aT.out (zka ax.out b3) hp;have bD:VsI Rd n0 fb Wb pw (N+one1 E0+cntA p.prs ts ks.length 0 (ks.take (j+1)) vs) W6 ik:=by rw[zrY p.prs ts ks.length vs hlt];simpa[Nat.add_assoc] using bF
     have au:(fun w':World=>((w'.cell? ⟨W.heap.size,0,none⟩=some (.slice A1 L1 c1)/\w'.cell? ⟨W.heap.size,1,none⟩=some (.slice A2 L2 c2)/\w'.cell? ⟨W.heap.size,2,none⟩=some (.int .u8 k)/\w'.cell? ⟨W.heap.size,3,none⟩=some (.int .i64 n)/\w'.cell? ⟨W.heap.size,4,none⟩=some (.string s)/\w'.cell? ⟨W.heap.size,5,none⟩=some (.slice A3 l3 c3))/\(w'.cell? ⟨W.heap.size+1,0,none⟩=some (.int .u8 51)/\w'.cell? ⟨W.heap.size+1,1,none⟩=some (.int .i64 tn)/\w'.cell? ⟨W.heap.size+1,2,none⟩=some (.string ts)/\w'.cell? ⟨W.heap.size+1,3,none⟩=some (.slice (some a) ks.length tc)))/\(w'.cell? ⟨wr.heap.size,0,none⟩=some (.int .u8 u.k)/\w'.cell? ⟨wr.heap.size,1,none⟩=some (.int .i64 u.n)/\w'.cell? ⟨wr.heap.size,2,none⟩=some (.string u.s)/\w'.cell? ⟨wr.heap.size,3,none⟩=some (.slice A4 u.ks.length c4))) W6/\(fun _:World=>True) W6:=⟨⟨nN.out _ bD.chg,box4 ((hp.2.elim fun _ h=>h.2.2.block _ (by have:=(zka ax.out b3).size;have:=b3.size;have:=eF.out;omega) (fun hh=>by have hl:=ah.out.fs.lt;rcases hh with hh|hh;(have:=hl.1;omega);(have:=(hl.2 _ hh).2;omega))).trans ((b3.block _ (by have:=eF.out;omega)).trans gJ.out))⟩,trivial⟩
     refine hK.out _ _ au ?_;clear hK K aW;(try simp only[zQ]);refine zd ?_;refine NoPanic.normal ?_;have jJ:=zh bD;clear bD bF hp au hF hR;go_wp2_with fail
     go_roundw
     case rel=>exact⟨j+1,_,by omega,by go_num,jJ.out⟩
     case measure=>simp[intOf];omega
    ·obtain rfl:j=ks.length:=by omega
     clear hinv;go_wp2_with fail;(try simp only[Exit.inBlock,Exit.then]);refine bodyPost_ret (results_none rfl _ _ _) rfl ?_;have hinv:=ah.out;rw[List.take_of_length_le (Nat.le_refl _)] at hinv;have hcc:=aI.out;rw[cntV,rD.out,if_pos (by decide)] at hcc;rw[<-hcc,<-Nat.add_assoc];exact hinv.rep aN.out ⟨_,rfl⟩
 ·obtain⟨h50,iH⟩:=not_or.1 hcall;have hd50:(tk==50)=false:=beq_false_of_ne h50;have hd51:(tk==51)=false:=beq_false_of_ne iH;go_wp2_with fail
  go_loopw [55] (fun i wr=>∃ (j:Nat) (pv':Value),j<=ks.length/\i=.int .i64 j/\VsI Rd n0 fb Wb pw (N+one1 E0+cntK p.prs tk ts 0 (ks.take j) vs) wr pv') (fun i _=>ks.length-(intOf i).toNat)
  case atStart=>exact⟨0,_,Nat.zero_le _,rfl,by simpa[cntK] using HI3.out⟩
  case round =>
   obtain⟨j,pv',hj,rfl,hinv⟩:=hrel;have ah:=zh hinv;clear HI3;by_cases hlt:j<ks.length
   ·obtain⟨-,-,-,-,gq⟩:=HD.out wr hinv.chg;obtain⟨a,u,A4,c4,rfl,hsa,Hu,⟨q0,q1,q2,q3⟩,hnu⟩:=gq.nd hlt;have qL:=zh hnu;clear hinv gq hnu hsa;go_upto_region 11 with fail;have hbk:Below wr.heap.size wr (wr.alloc (.cells #[.int .u8 u.k,.int .i64 u.n,.string u.s,.slice A4 u.ks.length c4] 29)):=zkb (Below.refl _ _) _;have dJ:=heap_alloc_new wr (.cells #[.int .u8 u.k,.int .i64 u.n,.string u.s,.slice A4 u.ks.length c4] 29);obtain⟨wk,hwk⟩:∃ wk,wr.alloc (.cells #[.int .u8 u.k,.int .i64 u.n,.string u.s,.slice A4 u.ks.length c4] 29)=wk:=⟨_,rfl⟩
    rw[hwk] at hbk dJ ⊢;have eF:=zh (show wk.heap.size=wr.heap.size+1 by rw[<-hwk];simp);have ax:=zh hbk;have gJ:=zh dJ;clear hwk hbk dJ
    have bO:=zh (show ∀ w':World,Below wk.heap.size wk w'->(fun w':World=>((w'.cell? ⟨W.heap.size,0,none⟩=some (.slice A1 L1 c1)/\w'.cell? ⟨W.heap.size,1,none⟩=some (.slice A2 L2 c2)/\w'.cell? ⟨W.heap.size,2,none⟩=some (.int .u8 k)/\w'.cell? ⟨W.heap.size,3,none⟩=some (.int .i64 n)/\w'.cell? ⟨W.heap.size,4,none⟩=some (.string s)/\w'.cell? ⟨W.heap.size,5,none⟩=some (.slice A3 l3 c3))/\(w'.cell? ⟨W.heap.size+1,0,none⟩=some (.int .u8 tk)/\w'.cell? ⟨W.heap.size+1,1,none⟩=some (.int .i64 tn)/\w'.cell? ⟨W.heap.size+1,2,none⟩=some (.string ts)/\w'.cell? ⟨W.heap.size+1,3,none⟩=some (.slice (some a) ks.length tc)))/\(w'.cell? ⟨wr.heap.size,0,none⟩=some (.int .u8 u.k)/\w'.cell? ⟨wr.heap.size,1,none⟩=some (.int .i64 u.n)/\w'.cell? ⟨wr.heap.size,2,none⟩=some (.string u.s)/\w'.cell? ⟨wr.heap.size,3,none⟩=some (.slice A4 u.ks.length c4))) w'/\(fun _:World=>True) w' from fun w' h=>⟨⟨nN.out w' (ah.out.chg.trans (Chg.of_below (zka ax.out h))),box4 ((h.block _ (by have:=eF.out;omega)).trans gJ.out)⟩,trivial⟩)
    have hdr:=(Below.refl wk.heap.size wk).drew;have hSS:=bO.out _ hdr;refine wp_region_noPanic ?_
    refine zkc (fun w':World=>((w'.cell? ⟨W.heap.size,0,none⟩=some (.slice A1 L1 c1)/\w'.cell? ⟨W.heap.size,1,none⟩=some (.slice A2 L2 c2)/\w'.cell? ⟨W.heap.size,2,none⟩=some (.int .u8 k)/\w'.cell? ⟨W.heap.size,3,none⟩=some (.int .i64 n)/\w'.cell? ⟨W.heap.size,4,none⟩=some (.string s)/\w'.cell? ⟨W.heap.size,5,none⟩=some (.slice A3 l3 c3))/\(w'.cell? ⟨W.heap.size+1,0,none⟩=some (.int .u8 tk)/\w'.cell? ⟨W.heap.size+1,1,none⟩=some (.int .i64 tn)/\w'.cell? ⟨W.heap.size+1,2,none⟩=some (.string ts)/\w'.cell? ⟨W.heap.size+1,3,none⟩=some (.slice (some a) ks.length tc)))/\(w'.cell? ⟨wr.heap.size,0,none⟩=some (.int .u8 u.k)/\w'.cell? ⟨wr.heap.size,1,none⟩=some (.int .i64 u.n)/\w'.cell? ⟨wr.heap.size,2,none⟩=some (.string u.s)/\w'.cell? ⟨wr.heap.size,3,none⟩=some (.slice A4 u.ks.length c4))) (fun _:World=>True) 40 (by kernel_rfl) ?_;refine zT 0 hSS ?_;(try simp only[zQ]);refine zT 1 hSS ?_
    (try simp only[zQ]);refine zT 2 hSS ?_;(try simp only[zQ]);refine zT 3 hSS ?_;(try simp only[zQ]);refine zT 5 hSS ?_;(try simp only[zQ]);refine zT 6 hSS ?_;(try simp only[zQ]);refine zT 7 hSS ?_;(try simp only[zQ]);refine zT 9 hSS ?_;(try simp only[zQ]);refine zo 4 fun K hK=>?_;refine zkh (by rfl) (.func 138) [.tmp 62,.tmp 63] _ (by rfl) 138 _ zsN (by rfl) _ (by rfl) _ (zn8 (zpP q Aq cq (j:Int) ⟨by omega,by omega⟩ _ _ (HD.out _ (ah.out.chg.trans (Chg.of_below (zka ax.out hdr)))).2.2.2.1 xA.out (by omega))) ?_;rintro vq w2 ⟨Ac,cc,rfl,hrc,hcc,ag⟩;have b2:=zka hdr ag;have aB:=bO.out _ b2;refine hK.out _ _ aB ?_;clear hK K hSS;(try simp only[zQ]);refine zo 8 fun K hK=>?_
    refine zkh (by rfl) (.func 140) [.tmp 65,.tmp 66,.tmp 67] _ (by rfl) 140 _ zz0 (by rfl) _ (by rfl) _ (zvc (zvR (.nd tk tn ts ks) j (by omega) vs A c _ _ _ _ (HD.out _ (ah.out.chg.trans (Chg.of_below (zka ax.out b2)))).2.1 (HD.out _ (ah.out.chg.trans (Chg.of_below (zka ax.out b2)))).2.2.1 lC.out (by omega))) ?_;simp only[T.k_nd,T.s_nd,T.ks_nd];rintro vq w3 ⟨Av,cv,rfl,dR,hcv,az⟩;have b3:=zka b2 az;have aW:=bO.out _ b3;refine hK.out _ _ aW ?_;clear hK K aB;(try simp only[zQ]);refine zo 10 fun K hK=>?_;have hcl:cntK p.prs tk ts 0 (ks.take j) vs<=zkK (ks.take j):=zsU _ _ _ _ (fun t _ vs=>zws _ t vs) _ _;have hsz:=zl7 ks (j+1);rw[zqa ks j hlt,Hu.out] at hsz;have hmem:u∈ks:=by rw[<-Hu.out];exact List.getElem_mem hlt
    have hdu:=zoL hmem;have hil:=zuv tk ts j vs;have hzb:=ah.out.chg.size;have hz0:=jF.out;have hzk:=eF.out;have hfl:=ah.out.fs.lt;have hF:=ah.out.fs.later (zka ax.out b3);have hR:=aT.out.keep _ _ _ _ ah.out.rd ah.out.fs (Chg.of_below (zka ax.out b3));have hzz:=hdr.size;have uE:=ag.size;have hzw2:=b2.size
    refine zkh (by rfl) (.func 95) [.tmp 60,.tmp 61,.tmp 64,.tmp 68,.tmp 69] _ (by rfl) 95 _ zzW (by rfl) _ (by rfl) _ (zm1 (nK.out u hmem (fun b=>(S b/\b<W.heap.size)\/wk.heap.size<=b) (zlz tk ts j vs) Av cv (q++[(j:Int)]) Ac cc (N+one1 E0+cntK p.prs tk ts 0 (ks.take j) vs) pv' w3 _ _ hR hF ((HD.out _ (ah.out.chg.trans (Chg.of_below (zka ax.out b3)))).1.keep (fun b hb _=>.inl hb) (fun _ _ _=>rfl)) ((qL.out.later (zka ax.out b3)).keep (fun b hb _=>.inl hb) (fun _ _ _=>rfl)) (dR.mono fun b hb=>by rcases hb with hb|hb;exact .inl hb;exact .inr (by omega)) hcv ((hrc.later az).mono fun b hb=>.inr (by have:_<=b:=hb;omega)) hcc (fun b hb hlt' hh=>?_) (by simp;omega) (by omega) (by omega))) ?_
    ·rcases hb with⟨hb,hbl⟩|hb
     ·refine HFAR.out b hb hbl (hh.imp id fun h=>?_);rcases ah.out.own b h with h1|h1
      ·exact h1
      ·omega
     ·rcases hh with rfl|hh
      ·omega
      ·have:=hfl.2 b hh;omega
    rintro vq W6 hp;obtain⟨ik,bF⟩:=ah.out.step aT.out (zka ax.out b3) hp;have bD:VsI Rd n0 fb Wb pw (N+one1 E0+cntK p.prs tk ts 0 (ks.take (j+1)) vs) W6 ik:=by rw[zwu p.prs tk ts vs hlt,Hu.out];simpa[Nat.add_assoc] using bF
    have au:(fun w':World=>((w'.cell? ⟨W.heap.size,0,none⟩=some (.slice A1 L1 c1)/\w'.cell? ⟨W.heap.size,1,none⟩=some (.slice A2 L2 c2)/\w'.cell? ⟨W.heap.size,2,none⟩=some (.int .u8 k)/\w'.cell? ⟨W.heap.size,3,none⟩=some (.int .i64 n)/\w'.cell? ⟨W.heap.size,4,none⟩=some (.string s)/\w'.cell? ⟨W.heap.size,5,none⟩=some (.slice A3 l3 c3))/\(w'.cell? ⟨W.heap.size+1,0,none⟩=some (.int .u8 tk)/\w'.cell? ⟨W.heap.size+1,1,none⟩=some (.int .i64 tn)/\w'.cell? ⟨W.heap.size+1,2,none⟩=some (.string ts)/\w'.cell? ⟨W.heap.size+1,3,none⟩=some (.slice (some a) ks.length tc)))/\(w'.cell? ⟨wr.heap.size,0,none⟩=some (.int .u8 u.k)/\w'.cell? ⟨wr.heap.size,1,none⟩=some (.int .i64 u.n)/\w'.cell? ⟨wr.heap.size,2,none⟩=some (.string u.s)/\w'.cell? ⟨wr.heap.size,3,none⟩=some (.slice A4 u.ks.length c4))) W6/\(fun _:World=>True) W6:=⟨⟨nN.out _ bD.chg,box4 ((hp.2.elim fun _ h=>h.2.2.block _ (by have:=(zka ax.out b3).size;have:=b3.size;have:=eF.out;omega) (fun hh=>by have hl:=ah.out.fs.lt;rcases hh with hh|hh;(have:=hl.1;omega);(have:=(hl.2 _ hh).2;omega))).trans ((b3.block _ (by have:=eF.out;omega)).trans gJ.out))⟩,trivial⟩
    refine hK.out _ _ au ?_;clear hK K aW;(try simp only[zQ]);refine zd ?_;refine NoPanic.normal ?_;have jJ:=zh bD;clear bD bF hp au hF hR;go_wp2_with fail
    go_roundw
    case rel=>exact⟨j+1,_,by omega,by go_num,jJ.out⟩
    case measure=>simp[intOf];omega
   ·obtain rfl:j=ks.length:=by omega
    clear hinv;go_wp2_with fail;go_end0;have hinv:=ah.out;rw[List.take_of_length_le (Nat.le_refl _)] at hinv;have hcc:=aI.out;rw[cntV,rD.out,if_neg hcall] at hcc;rw[<-hcc,<-Nat.add_assoc];exact hinv.rep aN.out ⟨_,rfl⟩
theorem zmt (k n:Int) (s:ByteArray) (ks:List T):isB (.nd k n s ks)=true↔k=57/\zks n s=true/\∀ t∈ks,isS t=true:=by
 rw[isB];simp only[Bool.and_eq_true,decide_eq_true_eq,and_assoc];refine and_congr Iff.rfl (and_congr Iff.rfl ?_);rw[zqY 0,zkQ]
 constructor
 ·intro h t ht;obtain⟨q,hq,rfl⟩:=List.getElem_of_mem ht;exact h q hq
 ·intro h q hq;exact h _ (List.getElem_mem hq)
theorem zuu {t:T} (h:isB t=true):t.k=57:=by cases t;exact((zmt _ _ _ _).1 h).1
theorem zk8 {x:T}:∀ {l:List T},x∈pos l↔∃ t∈l,x∈po t
 | []=>by simp[pos]
 | t::ts=>by simp[pos,zk8 (l:=ts)]
theorem zvH:∀ (ks:List T),(∀ t∈ks,∀ d l,lim t d l=if dep t<=d/\size t<=l then some (l-size t) else none)->∀ d l,lims ks d l=if deps ks<=d/\zkK ks<=l then some (l-zkK ks) else none
 | [],_,d,l=>by simp[lims,deps,zkK]
 | t::ts,h,d,l=>by
  have e1:deps (t::ts)=max (dep t) (deps ts):=by rw[deps]
  have e2:zkK (t::ts)=size t+zkK ts:=by rw[zkK]
  rw[lims,h t (by simp) d l];by_cases h1:dep t<=d/\size t<=l
  ·rw[if_pos h1];simp only;rw[zvH ts (fun u hu=>h u (by simp[hu])) d (l-size t)];by_cases h2:deps ts<=d/\zkK ts<=l-size t
   ·rw[if_pos h2,if_pos ⟨by omega,by omega⟩];congr 1;omega
   ·rw[if_neg h2,if_neg (by omega)]
  ·rw[if_neg h1];simp only;rw[if_neg (by omega)]
theorem zza (t:T):∀ d l,lim t d l=if dep t<=d/\size t<=l then some (l-size t) else none:=by
 induction t using T.ind with
 | _ k n s ks ih =>
 intro d l;have e1:dep (.nd k n s ks)=1+deps ks:=by rw[dep]
 have e2:size (.nd k n s ks)=1+zkK ks:=by rw[size]
 rw[lim];by_cases h:d=0\/l=0
 ·rw[if_pos h,if_neg (by omega)]
 ·rw[if_neg h,zvH ks ih];by_cases h2:deps ks<=d-1/\zkK ks<=l-1
  ·rw[if_pos h2,if_pos ⟨by omega,by omega⟩];congr 1;omega
  ·rw[if_neg h2,if_neg (by omega)]
theorem zmf (t:T):zk1 t=true↔(dep t<=80/\size t<=2000)/\isB t=true:=by
 unfold zk1;rw[zza,Bool.and_eq_true];by_cases h:dep t<=80/\size t<=2000
 ·rw[if_pos h];simp[h]
 ·rw[if_neg h];simp[h]
theorem zoX {k n:Int} {s:ByteArray} {ks:List T} (h:isE (.nd k n s ks)=true):∀ t∈ks,isE t=true:=by
 have key:isEs ks=true->∀ t∈ks,isE t=true:=by
  intro h t ht;rw[zox 0,zkQ] at h;obtain⟨i,hi,rfl⟩:=List.getElem_of_mem ht;exact h i hi
 have nil:decide (ks.length=0)=true->∀ t∈ks,isE t=true:=by
  intro h t ht;have:ks=[]:=by simpa using h
  rw[this] at ht;cases ht
 rw[isE] at h
 split at h
 ·simp only[Bool.and_eq_true] at h;exact nil h.2
 split at h
 ·simp only[Bool.and_eq_true] at h;exact nil h.2
 split at h
 ·simp only[Bool.and_eq_true] at h;exact key h.2.2
 split at h
 ·simp only[Bool.and_eq_true] at h;exact key h.2.2
 split at h
 ·simp only[Bool.and_eq_true] at h;exact key h.2.2
 ·cases h
theorem zze {t:T} (h:isE t=true):(t.k==57)=false:=by have:=zrM t h;simp;omega
theorem zvP {t:T} (h:isP t=true):isE t=true:=by unfold isP at h;simp only[Bool.and_eq_true] at h;exact h.2
theorem zLB {t:T} (h:isV t=true):isE t=true:=by unfold isV at h;simp only[Bool.and_eq_true] at h;exact h.2
theorem zoa {m:Nat} {p:Nat->T->Bool} {ks:List T} (h:zkN m p ks=true) {t:T} (ht:t∈ks):∃ i,p i t=true:=by
 unfold zkN at h;simp only[Bool.and_eq_true] at h;have:=(zkQ p 0 ks).1 h.2;obtain⟨i,hi,rfl⟩:=List.getElem_of_mem ht;exact⟨0+i,this i hi⟩
theorem zqZ {d:Nat} {ks:List T} (h:isEB d ks=true) {t:T} (ht:t∈ks):isE t=true\/isB t=true:=by
 have h':isEB (d+0) ks=true:=h;rw[zmK d 0] at h';have:=(zkQ _ 0 ks).1 h';obtain⟨i,hi,rfl⟩:=List.getElem_of_mem ht;have h2:=this i hi;unfold pEB at h2
 split at h2
 ·exact .inl h2
 ·exact .inr h2
theorem zoK {k n:Int} {s:ByteArray} {ks:List T} (h:isS (.nd k n s ks)=true):k≠57/\∀ t∈ks,isE t=true\/isB t=true:=by
 rw[isS] at h
 split at h
 ·rename_i hk;simp only[Bool.and_eq_true] at h;refine⟨by omega,fun t ht=>?_⟩;obtain⟨i,hi⟩:=zoa h.2 ht
  split at hi
  ·exact .inl (zvP hi)
  ·exact .inl hi
 split at h
 ·rename_i hk;simp only[Bool.and_eq_true] at h;refine⟨by omega,fun t ht=>?_⟩;obtain⟨i,hi⟩:=zoa h.2 ht;exact .inl (zvP hi)
 split at h
 ·rename_i hk;simp only[Bool.and_eq_true] at h;refine⟨by omega,fun t ht=>?_⟩;obtain⟨i,hi⟩:=zoa h.2 ht;exact .inl (zvP hi)
 split at h
 ·rename_i hk;simp only[Bool.and_eq_true] at h;refine⟨by omega,fun t ht=>?_⟩;obtain⟨i,hi⟩:=zoa h.2 ht;exact .inl (zvP hi)
 split at h
 ·rename_i hk;simp only[Bool.and_eq_true] at h;refine⟨by omega,fun t ht=>?_⟩;have:=(zkQ _ 0 ks).1 h.2;obtain⟨i,hi,rfl⟩:=List.getElem_of_mem ht;exact .inl (zLB (this i hi))
 split at h
 ·rename_i hk;simp only[Bool.and_eq_true] at h;exact⟨by omega,fun t ht=>zqZ h.2.2 ht⟩
 split at h
 ·rename_i hk;simp only[Bool.and_eq_true] at h;exact⟨by omega,fun t ht=>zqZ h.2.2 ht⟩
 split at h
 ·rename_i hk;simp only[Bool.and_eq_true] at h;exact⟨by omega,fun t ht=>zqZ h.2.2 ht⟩
 ·cases h
theorem zlb {k n:Int} {s:ByteArray} {ks:List T} (h:isS (.nd k n s ks)=true) :
  ((k≠52/\k≠53/\k≠54/\k≠55/\k≠57)/\∀ t∈ks,t.k≠57) \/
  ((k=52\/k=53)/\zks n s=true/\∃ a b c d,ks=[a,b,c,d]/\isE a=true/\isB b=true/\isB c=true/\isE d=true) \/
  (k=54/\zkG n s=true/\∃ a b c,ks=[a,b,c]/\isE a=true/\isB b=true/\isE c=true) \/
  (k=55/\zkG n s=true/\∃ b,ks=[b]/\isB b=true):=by
 have key:∀ (p:Nat->T->Bool),(∀ j t,p j t=true->t.k≠57)->zkD p 0 ks=true->∀ t∈ks,t.k≠57:=by
  intro p hp hk t ht;obtain⟨q,hq,rfl⟩:=List.getElem_of_mem ht;exact hp _ _ ((zkQ p 0 ks).1 hk q hq)
 have kE:∀ t,isE t=true->t.k≠57:=fun t h1=>by have:=zrM t h1;omega
 rw[isS] at h
 repeat' split at h
 ·simp only[zkN,Bool.and_eq_true] at h;exact .inl ⟨by omega,key _ (fun j t hj=>by split at hj;exact zvO t hj;exact kE t hj) h.2.2⟩
 ·simp only[zkN,Bool.and_eq_true] at h;exact .inl ⟨by omega,key _ (fun j t=>zvO t) h.2.2⟩
 ·simp only[zkN,Bool.and_eq_true] at h;exact .inl ⟨by omega,key _ (fun j t=>zvO t) h.2.2⟩
 ·simp only[zkN,Bool.and_eq_true] at h;exact .inl ⟨by omega,key _ (fun j t=>zvO t) h.2.2⟩
 ·simp only[Bool.and_eq_true] at h;exact .inl ⟨by omega,key _ (fun j t=>zKT t) h.2⟩
 ·rename_i hk;simp only[Bool.and_eq_true,decide_eq_true_eq] at h;obtain⟨h1,h2,h3⟩:=h
  match ks,h2 with
  | [a,b,c,d],_ =>
   simp only[isEB,Bool.and_eq_true,Bool.and_true] at h3;simp at h3;exact .inr (.inl ⟨hk,h1,a,b,c,d,rfl,h3.1,h3.2.1,h3.2.2.1,h3.2.2.2⟩)
 ·rename_i hk;simp only[Bool.and_eq_true,decide_eq_true_eq] at h;obtain⟨h1,h2,h3⟩:=h
  match ks,h2 with
  | [a,b,c],_ =>
   simp only[isEB,Bool.and_eq_true,Bool.and_true] at h3;simp at h3;exact .inr (.inr (.inl ⟨hk,h1,a,b,c,rfl,h3.1,h3.2.1,h3.2.2⟩))
 ·rename_i hk;simp only[Bool.and_eq_true,decide_eq_true_eq] at h;obtain⟨h1,h2,h3⟩:=h
  match ks,h2 with
  | [b],_ =>
   simp only[isEB,Bool.and_eq_true,Bool.and_true] at h3;simp at h3;exact .inr (.inr (.inr ⟨hk,h1,b,rfl,h3⟩))
 ·cases h
theorem zzd {k n:Int} {s:ByteArray} {a b c d:T} (hk:k=52\/k=53) (hp:zks n s=true) (ha:isE a=true) (hb:isB b=true) (hc:isB c=true) (hd:isE d=true):isS (.nd k n s [a,b,c,d])=true:=by
 rcases hk with rfl|rfl<;>simp[isS,isEB,hp,ha,hb,hc,hd]
theorem zrK {n:Int} {s:ByteArray} {a b c:T} (hp:zkG n s=true) (ha:isE a=true) (hb:isB b=true) (hc:isE c=true):isS (.nd 54 n s [a,b,c])=true:=by
 simp[isS,isEB,hp,ha,hb,hc]
theorem zqj {n:Int} {s:ByteArray} {b:T} (hp:zkG n s=true) (hb:isB b=true):isS (.nd 55 n s [b])=true:=by
 simp[isS,isEB,hp,hb]
section
variable {P:Program} {ops:Array Oper} {Q:Exit->Act->World->Prop} {md:Region.Mode} {S1 S2:World->Prop} {k:Nat}
theorem zzr {i j:Nat} {o o':Oper} {fuel:Nat} {listed:Array Bool} {a:Act} {w:World} (hr:Region.ready md ops listed=[i,j]) (ho:ops[i]?=some o) (ho':ops[j]?=some o')
  (h:∀ K':Act->World->Prop,Shut (∀ a w,S1 w/\S2 w->wpG P md ops Q S1 S2 k fuel (listed.setIfInBounds i true) a w->K' a w)->if Region.wanted o (yielded ops a.tmps)=true then Oper.wp P o a w K' Q else K' (a.put o.dst undef) w)
  (h':∀ K':Act->World->Prop,Shut (∀ a w,S1 w/\S2 w->wpG P md ops Q S1 S2 k fuel (listed.setIfInBounds j true) a w->K' a w)->if Region.wanted o' (yielded ops a.tmps)=true then Oper.wp P o' a w K' Q else K' (a.put o'.dst undef) w) :
  wpG P md ops Q S1 S2 k (fuel+1) listed a w:=by
 refine⟨(fun h0=>by rw[hr] at h0;cases h0),fun x hx=>?_⟩;rw[hr] at hx;simp only[List.mem_cons,List.not_mem_nil,or_false] at hx;rcases hx with rfl|rfl
 ·exact wpOp_step ho fun K' hK=>h K' fun a w hS hW=>hK a w ⟨⟨hS.1,fun _=>hS.2⟩,hW⟩
 ·exact wpOp_step ho' fun K' hK=>h' K' fun a w hS hW=>hK a w ⟨⟨hS.1,fun _=>hS.2⟩,hW⟩
end
def frsN (vs:List VD):Nat->Nat
 | 0=>0
 | j+1=>frsN vs j+(if h:j<vs.length then one1 (zmR (vs.take j) vs[j].s) else 0)
theorem zoc {vs:List VD} {j:Nat} (h:j<vs.length):frsN vs (j+1)=frsN vs j+one1 (zmR (vs.take j) vs[j].s):=by simp[frsN,h]
theorem zna (vs:List VD):∀ j,frsN vs j<=j
 | 0=>by simp[frsN]
 | j+1=>by
  have h:=zna vs j;rw[frsN]
  split
  ·have:=znM (zmR (vs.take j) vs[j].s);omega
  ·omega
def prcE (ps:List PR) (j:Nat) (r:PR):Nat:=one1 (if zlJ ps r.s<(j:Int) then 22 else 0)+frsN r.ps r.ps.length+cntV ps r.b r.ps
def prcN (ps:List PR):Nat->Nat
 | 0=>0
 | j+1=>prcN ps j+(if h:j<ps.length then prcE ps j ps[j] else 0)
theorem zn5 {ps:List PR} {j:Nat} (h:j<ps.length):prcN ps (j+1)=prcN ps j+prcE ps j ps[j]:=by simp[prcN,h]
def chkN (p:PG):Nat:=frsN p.vs p.vs.length+prcN p.prs p.prs.length+cntV p.prs p.m p.vs
theorem zp8 {t:T} (h:zk1 t=true):dep t<=80/\size t<=2000:=by
 simp only[zk1,Bool.and_eq_true] at h;have h1:=h.1;rw[zza] at h1
 split at h1
 ·assumption
 ·simp at h1
theorem zlX {p:PG} (h:zkE p=true):p.vs.length<=32/\p.prs.length<=64/\(∀ r∈p.prs,r.ps.length<=8/\dep r.b<=80/\size r.b<=2000)/\dep p.m<=80/\size p.m<=2000:=by
 simp only[zkE,Bool.and_eq_true,decide_eq_true_eq,List.all_eq_true] at h;refine⟨h.1.1.1.1,h.1.1.1.2,fun r hr=>?_,zp8 h.2⟩;have:=h.1.2 r hr;simp only[zoQ,Bool.and_eq_true,decide_eq_true_eq] at this;exact⟨this.1.1.2,zp8 this.2⟩
theorem zsC (ps:List PR) (h:∀ r∈ps,r.ps.length<=8/\dep r.b<=80/\size r.b<=2000):∀ j,prcN ps j<=j*2009
 | 0=>by simp[prcN]
 | j+1=>by
  have h1:=zsC ps h j;rw[prcN]
  split
  ·rename_i hj;have h2:=h _ (List.getElem_mem hj);have h3:=znM (if zlJ ps ps[j].s<(j:Int) then 22 else 0);have h4:=zna ps[j].ps ps[j].ps.length;have h5:=zws ps ps[j].b ps[j].ps;unfold prcE;omega
  ·omega
theorem RowV.take {w:World} {S:Nat->Prop} {A:Option Addr} {vs:List VD} (h:RowV w S A vs) (j:Nat):RowV w S A (vs.take j):=fun i hi=>by
 have h1:i<vs.length:=by simp at hi;omega
 obtain⟨a,h2,h3,h4,h5⟩:=h i h1;exact⟨a,h2,h3,by simpa using h4,by simpa using h5⟩
theorem RowI.nil {w:World} {S:Nat->Prop} {A:Option Addr}:RowI w S A []:=fun i hi=>by simp at hi
theorem zrt (w:World) (j:Int) (hj:I64 j):RowI (w.alloc (.cells #[.int .i64 j] 3)) Any (some ⟨w.heap.size,0,none⟩) [j]:=fun i hi=>by
 simp only[List.length_singleton,Nat.lt_one_iff] at hi;subst hi;exact⟨_,rfl,trivial,zk3 w 3 [.int .i64 j] 0 _ rfl,hj⟩
theorem znj (n0 fb N:Nat) (pv:Value) (pr er:Int) (q:List Int) (A:Option Addr) (c:Nat) (s:ByteArray) (S:Nat->Prop) (W:World) (hfs:FS W n0 fb N pv) (hq:RowI W S A q) (mi:q.length<=100000) (hN:N<=1000000) :
  Calls Tryz.prog 92 ([.int .i64 pr,.slice A q.length c,.string s,.int .i64 er].toArray ++ #[.pointer (some ⟨fb,0,none⟩)]) W (RepP W n0 fb pv (N+one1 er)):=by
 simpa using znk n0 fb N pv pr er q A c s S W hfs hq mi hN
theorem VsI.chg2 {Rd:World->Prop} {n0 fb:Nat} {Wb wr wk w':World} {pv pv':Value} {N:Nat} (h:VsI Rd n0 fb Wb pv N wr pv') (hb:Below wr.heap.size wr wk) (hc:Chg (fun b=>b=fb\/pv'.ownBlock=some b) wk w'):Chg (fun b=>b=fb\/pv.ownBlock=some b) Wb w' :=
 (h.chg.trans (Chg.of_below hb)).trans2 hc fun b hlt hh=>by
  rcases hh with hh|hh
  ·exact .inl hh
  ·rcases h.own b hh with h1|h1
   ·exact .inr h1
   ·omega
theorem VsI.stepK {Rd:World->Prop} {n0 fb:Nat} {Wb wr w5 W6:World} {pv pv':Value} {N N':Nat} {e:Ending} (hk:∀ W W' pv N,Rd W->FS W n0 fb N pv->Chg (fun b=>b=fb\/pv.ownBlock=some b) W W'->Rd W') (h:VsI Rd n0 fb Wb pv N wr pv') (hb:Below wr.heap.size wr w5) (hp:RepP w5 n0 fb pv' N' e W6) :
  ∃ iA,VsI Rd n0 fb Wb pv N' W6 iA:=by
 obtain⟨_,iA,hfs,aR,hc⟩:=hp;have pK:=h.fs.later hb;have hz:=h.chg.size;have oN:=hb.size;refine⟨iA,hk w5 W6 pv' N (hk wr w5 pv' N h.rd h.fs (Chg.of_below hb)) pK hc,hfs,fun b hb'=>?_,h.chg2 hb hc⟩;rcases aR b hb' with h1|h1
 ·exact h.own b h1
 ·exact .inr (by omega)
theorem znp (vs:List VD) (j:Nat) (hj:j<=vs.length) (A:Option Addr) (c:Nat) (s:ByteArray) (S:Nat->Prop) (w:World) (hrow:RowV w S A vs) (hl:vs.length<=LV) :
  Calls Tryz.prog 93 #[.slice A j c,.string s] w fun e w'=>e=.returned (.int .i64 (zmR (vs.take j) s))/\Below w.heap.size w w':=by
 have h:=zpC (vs.take j) A c s S w (hrow.take j) (by simp;omega);rwa[show(vs.take j).length=j by simp;omega] at h
theorem zq3:IsFn Tryz.prog 93 Tryz.f93:=⟨Tryz.func93,by kernel_rfl,by kernel_rfl⟩
theorem zzZ:IsFn Tryz.prog 94 Tryz.f94:=⟨Tryz.func94,by kernel_rfl,by kernel_rfl⟩
theorem ztL:IsFn Tryz.prog 92 Tryz.f92:=⟨Tryz.func92,by kernel_rfl,by kernel_rfl⟩
theorem zoF (p:PG) (S:Nat->Prop) (v:Value) (W:World) (hv:PV W S p v):Calls Tryz.prog 53 #[v] W fun e w'=>∃ A c,e=.returned (.slice A (if zkE p=true then chkN p else 0) c)/\Below W.heap.size W w':=by
 obtain⟨NN,kN⟩:∃ NN,(if zkE p=true then chkN p else 0)=NN:=⟨_,rfl⟩
 rw[kN];have qM:=zh kN;clear kN;have hvv:=hv;obtain⟨A1,c1,A2,c2,A3,c3,rfl,hr⟩:=hv;have hlv:=zlE hr.lv;have hlp:=zlE hr.lp;obtain⟨L1,hL1⟩:∃ L,p.vs.length=L:=⟨_,rfl⟩
 obtain⟨L2,hL2⟩:∃ L,p.prs.length=L:=⟨_,rfl⟩
 obtain⟨k,hk⟩:∃ k,p.m.k=k:=⟨_,rfl⟩
 obtain⟨n,hn⟩:∃ n,p.m.n=n:=⟨_,rfl⟩
 obtain⟨s,hs⟩:∃ s,p.m.s=s:=⟨_,rfl⟩
 obtain⟨l3,hl3⟩:∃ l,p.m.ks.length=l:=⟨_,rfl⟩
 rw[hL1,hL2,hk,hn,hs,hl3];rw[hL1,hL2,hk,hn,hs,hl3] at hvv;rw[hL1] at hlv;rw[hL2] at hlp;have ug:=zh hvv;have HR:=zh hr;have jU:=zh hL1;have HL2:=zh hL2;have sJ:=zh (show p.m.k=k/\p.m.n=n/\p.m.s=s/\p.m.ks.length=l3 from ⟨hk,hn,hs,hl3⟩);clear hvv hr hL1 hL2 hk hn hs hl3;go_enter Tryz.func53,Tryz.ntmps53;go_wp2_with fail;refine(zmD p S _ _ (ug.out.later (zkb (Below.refl _ _) _))).mono ?_;rintro e w1 ⟨rfl,aa⟩;have b1:Below W.heap.size W w1:=zka (zkb (Below.refl _ _) _) aa;have hp1:=(aa.block W.heap.size (by simp)).trans (heap_alloc_new W (.cells #[.slice A1 L1 c1,.slice A2 L2 c2,.int .u8 k,.int .i64 n,.string s,.slice A3 l3 c3] 35));have hz1:=aa.size;simp only[World.size_alloc] at hz1;have HB1:=zh b1;have HP1:=zh hp1;have HZ1:=zh hz1;obtain⟨a0,a1,a2,a3,a4,a5⟩:=box6 hp1;clear aa b1 hp1
 cases hvb:zkE p
 ·have hN0:NN=0:=by rw[<-qM.out,hvb];rfl
  subst hN0;go_wp2_with fail;go_ret;exact⟨none,0,rfl,HB1.out⟩
 ·have dD:=zh (zlX hvb);have HNN2:=zh (show chkN p=NN by rw[<-qM.out,hvb];rfl);clear hvb qM;go_upto_region 5 with fail;obtain⟨fb,uQ⟩:∃ fb,w1.heap.size=fb:=⟨_,rfl⟩
  rw[uQ];have rQ:W.heap.size+1<=fb:=by omega
  have hbw:Below W.heap.size W ((w1.alloc (.cells #[.slice none 0 0] 106)).alloc (.cells #[.func (.func 92) #[] #[.pointer (some ⟨fb,0,none⟩)]] 155)):=zkb (zkb HB1.out _) _;have uR:=zkl (heap_alloc_new w1 (.cells #[.slice none 0 0] 106)) (.cells #[.func (.func 92) #[] #[.pointer (some ⟨fb,0,none⟩)]] 155);have hbR:=heap_alloc_new (w1.alloc (.cells #[.slice none 0 0] 106)) (.cells #[.func (.func 92) #[] #[.pointer (some ⟨fb,0,none⟩)]] 155);simp only[World.size_alloc] at hbR;rw[uQ] at uR hbR;have mU:=zkl (zkl HP1.out (.cells #[.slice none 0 0] 106)) (.cells #[.func (.func 92) #[] #[.pointer (some ⟨fb,0,none⟩)]] 155);obtain⟨Wb,jE⟩:∃ Wb,(w1.alloc (.cells #[.slice none 0 0] 106)).alloc (.cells #[.func (.func 92) #[] #[.pointer (some ⟨fb,0,none⟩)]] 155)=Wb:=⟨_,rfl⟩
  rw[jE] at hbw uR hbR mU ⊢;have jF:=zh (show Wb.heap.size=fb+2 by rw[<-jE,<-uQ];simp);have aN:=zh hbw;have HZF:=zh rQ;clear jE uQ a0 a1 a2 a3 a4 a5 HP1 HZ1 HB1 hz1;have hrep:=zy2 fb fb (fb+1) W.heap.size A1 L1 c1 A2 L2 c2 k n s A3 l3 c3;obtain⟨Rd,uT⟩:∃ Rd:World->Prop,(fun W':World=>W'.heap[fb+1]?=some (.cells #[.func (.func 92) #[] #[.pointer (some ⟨fb,0,none⟩)]] 155 (0,0))/\W'.heap[W.heap.size]?=some (.cells #[.slice A1 L1 c1,.slice A2 L2 c2,.int .u8 k,.int .i64 n,.string s,.slice A3 l3 c3] 35 (0,0)))=Rd:=⟨_,rfl⟩
  rw[uT] at hrep;have aT:=zh hrep;have lW:=zh (show ∀ w':World,Rd w'->w'.heap[fb+1]?=some (.cells #[.func (.func 92) #[] #[.pointer (some ⟨fb,0,none⟩)]] 155 (0,0))/\w'.heap[W.heap.size]?=some (.cells #[.slice A1 L1 c1,.slice A2 L2 c2,.int .u8 k,.int .i64 n,.string s,.slice A3 l3 c3] 35 (0,0)) from fun w' h=>by rw[<-uT] at h;exact h);have aI:=zh (show ∀ w':World,Rd w'->(fun w':World=>(w'.cell? ⟨W.heap.size,0,none⟩=some (.slice A1 L1 c1)/\w'.cell? ⟨W.heap.size,1,none⟩=some (.slice A2 L2 c2)/\w'.cell? ⟨W.heap.size,2,none⟩=some (.int .u8 k)/\w'.cell? ⟨W.heap.size,3,none⟩=some (.int .i64 n)/\w'.cell? ⟨W.heap.size,4,none⟩=some (.string s)/\w'.cell? ⟨W.heap.size,5,none⟩=some (.slice A3 l3 c3))/\(w'.cell? ⟨fb+1,0,none⟩=some (.func (.func 92) #[] #[.pointer (some ⟨fb,0,none⟩)]))) w' from fun w' h=>⟨box6 (lW.out w' h).2,zc (lW.out w' h).1 rfl⟩)
  have HI0:=zh (show VsI Rd fb fb Wb (.slice none 0 0) 0 Wb (.slice none 0 0) from ⟨by rw[<-uT];exact⟨hbR,mU⟩,⟨uR,⟨[],World.ownsRow_nil _ _ _ _⟩,Nat.le_refl _,by simp[Value.ownBlock]⟩,fun b hb=>.inl hb,Chg.refl _ _⟩);have ma:=zh (show ∀ w':World,Chg (fun b=>b=fb\/(Value.slice none 0 0).ownBlock=some b) Wb w'->∀ b,S b->b<W.heap.size->w'.heap[b]?=W.heap[b]? from fun w' h b hb hlt=>(h.block b (by have:=jF.out;omega) (fun hh=>by rcases hh with hh|hh;omega;simp[Value.ownBlock] at hh)).trans (aN.out.block b hlt));have HD:=zh (show ∀ w':World,Chg (fun b=>b=fb\/(Value.slice none 0 0).ownBlock=some b) Wb w'->PV w' (fun b=>S b/\b<W.heap.size) p _/\PgR w' (fun b=>S b/\b<W.heap.size) p A1 c1 A2 c2 A3 c3 from fun w' h=>⟨ug.out.keep (fun b hb hlt=>⟨hb,hlt⟩) (ma.out w' h),HR.out.keep (fun b hb hlt=>⟨hb,hlt⟩) (ma.out w' h)⟩);have hl32:L1<=32:=by have:=dD.out.1;rw[jU.out] at this;exact this
  have hl64:L2<=64:=by have:=dD.out.2.1;rw[HL2.out] at this;exact this
  have hlc1:L1<=c1:=by have:=HR.out.lvc;rw[jU.out] at this;exact this
  have jA:L2<=c2:=by have:=HR.out.lpc;rw[HL2.out] at this;exact this
  obtain⟨⟨a0,a1,a2,a3,a4,a5⟩,ar⟩:=aI.out _ HI0.out.rd;clear hrep uT hbR mU uR hbw;go_wp2_with fail
  go_loopw [18] (fun i wr=>∃ (j:Nat) (pv':Value),j<=L1/\i=.int .i64 j/\VsI Rd fb fb Wb (.slice none 0 0) (frsN p.vs j) wr pv') (fun i _=>L1-(intOf i).toNat)
  case atStart=>exact⟨0,_,Nat.zero_le _,rfl,HI0.out⟩
  case round =>
   obtain⟨j,pv',hj,rfl,hinv⟩:=hrel;have ah:=zh hinv;clear HI0 a0 a1 a2 a3 a4 a5 ar;by_cases hlt:j<L1
   ·have dF:j<p.vs.length:=by rw[jU.out];exact hlt
    obtain⟨a,u,rfl,hsa,Hu,⟨q0,q1,q2⟩,hfu⟩:=(HD.out wr hinv.chg).2.vars.nd dF;have hjc:(j:Int)<=(c1:Int):=by omega
    have hj0:(0:Int)<=(j:Int):=by omega
    obtain⟨⟨a0,a1,a2,a3,a4,a5⟩,ar⟩:=aI.out _ hinv.rd;clear hinv hsa hfu;go_upto_region 8 with fail;have hbk:Below wr.heap.size wr (wr.alloc (.cells #[.string u.s,.int .u8 u.k,.int .i64 u.n] 83)):=zkb (Below.refl _ _) _;have dJ:=heap_alloc_new wr (.cells #[.string u.s,.int .u8 u.k,.int .i64 u.n] 83);obtain⟨wk,hwk⟩:∃ wk,wr.alloc (.cells #[.string u.s,.int .u8 u.k,.int .i64 u.n] 83)=wk:=⟨_,rfl⟩
    rw[hwk] at hbk dJ ⊢;have eF:=zh (show wk.heap.size=wr.heap.size+1 by rw[<-hwk];simp);have ax:=zh hbk;have gJ:=zh dJ;clear hwk hbk dJ a0 a1 a2 a3 a4 a5 ar q0 q1 q2;have HRW:=zh (show ∀ w':World,Below wk.heap.size wk w'->Rd w' from fun w' h=>aT.out.keep _ _ _ _ ah.out.rd ah.out.fs (Chg.of_below (zka ax.out h)))
    have bO:=zh (show ∀ w':World,Below wk.heap.size wk w'->(fun w':World=>((w'.cell? ⟨W.heap.size,0,none⟩=some (.slice (some a) L1 c1)/\w'.cell? ⟨W.heap.size,1,none⟩=some (.slice A2 L2 c2)/\w'.cell? ⟨W.heap.size,2,none⟩=some (.int .u8 k)/\w'.cell? ⟨W.heap.size,3,none⟩=some (.int .i64 n)/\w'.cell? ⟨W.heap.size,4,none⟩=some (.string s)/\w'.cell? ⟨W.heap.size,5,none⟩=some (.slice A3 l3 c3))/\(w'.cell? ⟨fb+1,0,none⟩=some (.func (.func 92) #[] #[.pointer (some ⟨fb,0,none⟩)])))/\(w'.cell? ⟨wr.heap.size,0,none⟩=some (.string u.s)/\w'.cell? ⟨wr.heap.size,1,none⟩=some (.int .u8 u.k)/\w'.cell? ⟨wr.heap.size,2,none⟩=some (.int .i64 u.n))) w'/\(fun _:World=>True) w' from fun w' h=>⟨⟨aI.out _ (HRW.out w' h),box3 ((h.block _ (by have:=eF.out;omega)).trans gJ.out)⟩,trivial⟩);have hdr:=(Below.refl wk.heap.size wk).drew;have hSS:=bO.out _ hdr;have hbI:=zpQ;have hN:=zna p.vs j
    refine wp_region_noPanic ?_;refine zkc (fun w':World=>((w'.cell? ⟨W.heap.size,0,none⟩=some (.slice (some a) L1 c1)/\w'.cell? ⟨W.heap.size,1,none⟩=some (.slice A2 L2 c2)/\w'.cell? ⟨W.heap.size,2,none⟩=some (.int .u8 k)/\w'.cell? ⟨W.heap.size,3,none⟩=some (.int .i64 n)/\w'.cell? ⟨W.heap.size,4,none⟩=some (.string s)/\w'.cell? ⟨W.heap.size,5,none⟩=some (.slice A3 l3 c3))/\(w'.cell? ⟨fb+1,0,none⟩=some (.func (.func 92) #[] #[.pointer (some ⟨fb,0,none⟩)])))/\(w'.cell? ⟨wr.heap.size,0,none⟩=some (.string u.s)/\w'.cell? ⟨wr.heap.size,1,none⟩=some (.int .u8 u.k)/\w'.cell? ⟨wr.heap.size,2,none⟩=some (.int .i64 u.n))) (fun _:World=>True) 40 (by kernel_rfl) ?_;refine zT 0 hSS ?_;(try simp only[zQ]);refine zT 1 hSS ?_;(try simp only[zQ]);refine zT 3 hSS ?_;(try simp only[zQ]);refine zT 4 hSS ?_;(try simp only[zQ]);refine zT 5 hSS ?_;(try simp only[zQ]);refine zT 6 hSS ?_
    (try simp only[zQ]);refine zT 7 hSS ?_;(try simp only[zQ]);refine zT 8 hSS ?_;(try simp only[zQ]);refine zT 9 hSS ?_;(try simp only[zQ]);refine zT 10 hSS ?_;(try simp only[zQ]);refine zzr (i:=2) (j:=11) (by kernel_rfl) rfl rfl (fun K hK=>?_) (fun K hK=>?_)
    ·(try simp only[zA,zB,zC]);go_simp;have b2:=zkb hdr (.cells #[.int .i64 (j:Int)] 3);refine hK.out _ _ (bO.out _ b2) ?_;clear hK K;(try simp only[zQ]);refine zo 11 fun K hK=>?_;refine zkh (by rfl) (.func 93) [.tmp 31,.tmp 33] _ (by rfl) 93 _ zq3 (by rfl) _ (by rfl) _ (zoJ (znp p.vs j (by omega) (some a) c1 u.s _ _ (HD.out _ (ah.out.chg.trans (Chg.of_below (zka ax.out b2)))).2.vars HR.out.lv)) ?_;rintro vq w3 ⟨rfl,az⟩;have b3:=zka b2 az;refine hK.out _ _ (bO.out _ b3) ?_;clear hK K;(try simp only[zQ]);refine zo 12 fun K hK=>?_
     refine zlL (by rfl) (.tmp 23) [.const (.int .i64 (-1)),.tmp 25,.tmp 27,.tmp 34] _ (by rfl) 92 _ ztL #[.pointer (some ⟨fb,0,none⟩)] (by rfl) _ (by rfl) _ (zm1 (znj fb fb _ pv' (-1) _ [(j:Int)] (some ⟨wk.heap.size,0,none⟩) 1 u.s _ _ (ah.out.fs.later (zka ax.out b3)) (((zrt _ (j:Int) ⟨by omega,by omega⟩).later (Below.refl _ _).drew).later az) (by simp) (by omega))) ?_;rintro vq W6 hp;obtain⟨ik,bF⟩:=ah.out.step aT.out (zka ax.out b3) hp;have bD:VsI Rd fb fb Wb (.slice none 0 0) (frsN p.vs (j+1)) W6 ik:=by rw[zoc dF,Hu.out];exact bF
     have au:(fun w':World=>((w'.cell? ⟨W.heap.size,0,none⟩=some (.slice (some a) L1 c1)/\w'.cell? ⟨W.heap.size,1,none⟩=some (.slice A2 L2 c2)/\w'.cell? ⟨W.heap.size,2,none⟩=some (.int .u8 k)/\w'.cell? ⟨W.heap.size,3,none⟩=some (.int .i64 n)/\w'.cell? ⟨W.heap.size,4,none⟩=some (.string s)/\w'.cell? ⟨W.heap.size,5,none⟩=some (.slice A3 l3 c3))/\(w'.cell? ⟨fb+1,0,none⟩=some (.func (.func 92) #[] #[.pointer (some ⟨fb,0,none⟩)])))/\(w'.cell? ⟨wr.heap.size,0,none⟩=some (.string u.s)/\w'.cell? ⟨wr.heap.size,1,none⟩=some (.int .u8 u.k)/\w'.cell? ⟨wr.heap.size,2,none⟩=some (.int .i64 u.n))) W6/\(fun _:World=>True) W6:=⟨⟨aI.out _ bD.rd,box3 ((hp.2.elim fun _ h=>h.2.2.block _ (by have:=(zka ax.out b3).size;have:=(b3).size;have:=eF.out;omega) (fun hh=>by have hl:=ah.out.fs.lt;rcases hh with hh|hh;(have:=hl.1;omega);(have:=(hl.2 _ hh).2;omega))).trans (((b3).block _ (by have:=eF.out;omega)).trans gJ.out))⟩,trivial⟩
     refine hK.out _ _ au ?_;clear hK K;(try simp only[zQ]);refine zd ?_;refine NoPanic.normal ?_;have jJ:=zh bD;clear bD bF hp au;go_wp2_with fail
     go_roundw
     case rel=>exact⟨j+1,_,by omega,by go_num,jJ.out⟩
     case measure=>simp[intOf];omega
    ·skip
     refine zkh (by rfl) (.func 93) [.tmp 31,.tmp 33] _ (by rfl) 93 _ zq3 (by rfl) _ (by rfl) _ (zoJ (znp p.vs j (by omega) (some a) c1 u.s _ _ (HD.out _ (ah.out.chg.trans (Chg.of_below (zka ax.out hdr)))).2.vars HR.out.lv)) ?_;rintro vq w2 ⟨rfl,ag⟩;have b2:=zka hdr ag;refine hK.out _ _ (bO.out _ b2) ?_;clear hK K;(try simp only[zQ]);refine zo 2 fun K hK=>?_;(try simp only[zA,zB,zC]);go_simp;have b3:=zkb b2 (.cells #[.int .i64 (j:Int)] 3);refine hK.out _ _ (bO.out _ b3) ?_;clear hK K;(try simp only[zQ]);refine zo 12 fun K hK=>?_
     refine zlL (by rfl) (.tmp 23) [.const (.int .i64 (-1)),.tmp 25,.tmp 27,.tmp 34] _ (by rfl) 92 _ ztL #[.pointer (some ⟨fb,0,none⟩)] (by rfl) _ (by rfl) _ (zm1 (znj fb fb _ pv' (-1) _ [(j:Int)] (some ⟨w2.heap.size,0,none⟩) 1 u.s _ _ (ah.out.fs.later (zka ax.out b3)) (zrt _ (j:Int) ⟨by omega,by omega⟩) (by simp) (by omega))) ?_;rintro vq W6 hp;obtain⟨ik,bF⟩:=ah.out.step aT.out (zka ax.out b3) hp;have bD:VsI Rd fb fb Wb (.slice none 0 0) (frsN p.vs (j+1)) W6 ik:=by rw[zoc dF,Hu.out];exact bF
     have au:(fun w':World=>((w'.cell? ⟨W.heap.size,0,none⟩=some (.slice (some a) L1 c1)/\w'.cell? ⟨W.heap.size,1,none⟩=some (.slice A2 L2 c2)/\w'.cell? ⟨W.heap.size,2,none⟩=some (.int .u8 k)/\w'.cell? ⟨W.heap.size,3,none⟩=some (.int .i64 n)/\w'.cell? ⟨W.heap.size,4,none⟩=some (.string s)/\w'.cell? ⟨W.heap.size,5,none⟩=some (.slice A3 l3 c3))/\(w'.cell? ⟨fb+1,0,none⟩=some (.func (.func 92) #[] #[.pointer (some ⟨fb,0,none⟩)])))/\(w'.cell? ⟨wr.heap.size,0,none⟩=some (.string u.s)/\w'.cell? ⟨wr.heap.size,1,none⟩=some (.int .u8 u.k)/\w'.cell? ⟨wr.heap.size,2,none⟩=some (.int .i64 u.n))) W6/\(fun _:World=>True) W6:=⟨⟨aI.out _ bD.rd,box3 ((hp.2.elim fun _ h=>h.2.2.block _ (by have:=(zka ax.out b3).size;have:=(b3).size;have:=eF.out;omega) (fun hh=>by have hl:=ah.out.fs.lt;rcases hh with hh|hh;(have:=hl.1;omega);(have:=(hl.2 _ hh).2;omega))).trans (((b3).block _ (by have:=eF.out;omega)).trans gJ.out))⟩,trivial⟩
     refine hK.out _ _ au ?_;clear hK K;(try simp only[zQ]);refine zd ?_;refine NoPanic.normal ?_;have jJ:=zh bD;clear bD bF hp au;go_wp2_with fail
     go_roundw
     case rel=>exact⟨j+1,_,by omega,by go_num,jJ.out⟩
     case measure=>simp[intOf];omega
   ·obtain rfl:L1=j:=by omega
    have jV:=zh (show VsI Rd fb fb Wb (.slice none 0 0) (frsN p.vs p.vs.length) wr pv' by rw[jU.out];exact ah.out);obtain⟨⟨a0,a1,a2,a3,a4,a5⟩,ar⟩:=aI.out _ hinv.rd;obtain⟨F1,hF1⟩:∃ F,frsN p.vs p.vs.length=F:=⟨_,rfl⟩
    have hF32:F1<=32:=by have:=zna p.vs p.vs.length;have:=dD.out.1;omega
    have vK:=zh hF1;rw[hF1] at jV;clear hinv ah hF1 hj hlt;go_wp2_with fail
    go_loopw [40] (fun i wr=>∃ (j:Nat) (pv':Value),j<=L2/\i=.int .i64 j/\VsI Rd fb fb Wb (.slice none 0 0) (F1+prcN p.prs j) wr pv') (fun i _=>L2-(intOf i).toNat)
    case atStart=>exact⟨0,_,Nat.zero_le _,rfl,jV.out⟩
    case round =>
     clear jV a0 a1 a2 a3 a4 a5 ar;obtain⟨j,pv',hj,rfl,hinv⟩:=hrel;obtain⟨w0,rfl⟩:∃ w0,w0=wr:=⟨_,rfl⟩
     have ah:=zh hinv;by_cases hlt:j<L2
     ·have dF:j<p.prs.length:=by rw[HL2.out];exact hlt
      obtain⟨a,r,P1,d1,P2,d2,rfl,hsa,Hr,⟨q0,q1,q2,q3,q4,q5⟩,hpr⟩:=(HD.out w0 hinv.chg).2.procs.nd dF;obtain⟨⟨a0,a1,a2,a3,a4,a5⟩,ar⟩:=aI.out _ hinv.rd;have bX:=zh hpr;clear hinv hsa hpr;go_upto_region 13 with fail;have hbk:Below w0.heap.size w0 ((w0.alloc (.cells #[.int .i64 (j:Int)] 3)).alloc (.cells #[.string r.s,.slice P1 r.ps.length d1,.int .u8 r.b.k,.int .i64 r.b.n,.string r.b.s,.slice P2 r.b.ks.length d2] 103)):=zkb (zkb (Below.refl _ _) _) _;have pY:=zkl (heap_alloc_new w0 (.cells #[.int .i64 (j:Int)] 3)) (.cells #[.string r.s,.slice P1 r.ps.length d1,.int .u8 r.b.k,.int .i64 r.b.n,.string r.b.s,.slice P2 r.b.ks.length d2] 103);have mQ:=heap_alloc_new (w0.alloc (.cells #[.int .i64 (j:Int)] 3)) (.cells #[.string r.s,.slice P1 r.ps.length d1,.int .u8 r.b.k,.int .i64 r.b.n,.string r.b.s,.slice P2 r.b.ks.length d2] 103);simp only[World.size_alloc] at mQ
      obtain⟨wk,hwk⟩:∃ wk,(w0.alloc (.cells #[.int .i64 (j:Int)] 3)).alloc (.cells #[.string r.s,.slice P1 r.ps.length d1,.int .u8 r.b.k,.int .i64 r.b.n,.string r.b.s,.slice P2 r.b.ks.length d2] 103)=wk:=⟨_,rfl⟩
      rw[hwk] at hbk pY mQ ⊢;have eF:=zh (show wk.heap.size=w0.heap.size+2 by rw[<-hwk];simp);have ax:=zh hbk;obtain⟨iJ,mX⟩:∃ iJ:World->Prop,(fun W':World=>(Rd W'/\W'.heap[w0.heap.size]?=some (.cells #[.int .i64 (j:Int)] 3 (0,0)))/\W'.heap[w0.heap.size+1]?=some (.cells #[.string r.s,.slice P1 r.ps.length d1,.int .u8 r.b.k,.int .i64 r.b.n,.string r.b.s,.slice P2 r.b.ks.length d2] 103 (0,0)))=iJ:=⟨_,rfl⟩
      have iM:=zh (show ∀ w':World,iJ w'->(fun W':World=>(Rd W'/\W'.heap[w0.heap.size]?=some (.cells #[.int .i64 (j:Int)] 3 (0,0)))/\W'.heap[w0.heap.size+1]?=some (.cells #[.string r.s,.slice P1 r.ps.length d1,.int .u8 r.b.k,.int .i64 r.b.n,.string r.b.s,.slice P2 r.b.ks.length d2] 103 (0,0))) w' from fun w' h=>by rw[<-mX] at h;exact h);have bg:=zh (show ∀ (W W':World) (pv:Value) (N:Nat),iJ W->FS W fb fb N pv->Chg (fun b=>b=fb\/pv.ownBlock=some b) W W'->iJ W' from fun W W' pv N h hfs hc=>by rw[<-mX] at h ⊢;exact⟨⟨aT.out.keep _ _ _ _ h.1.1 hfs hc,hc.keep h.1.2 (hfs.other h.1.2 (by decide) (by decide))⟩,hc.keep h.2 (hfs.other h.2 (by decide) (by decide))⟩);have HI2:=zh (show VsI iJ fb fb wk pv' (F1+prcN p.prs j) wk pv' from ⟨by rw[<-mX];exact⟨⟨aT.out.keep _ _ _ _ ah.out.rd ah.out.fs (Chg.of_below hbk),pY⟩,mQ⟩,ah.out.fs.later hbk,fun b hb=>.inl hb,Chg.refl _ _⟩)
      have lI:=zh (show ∀ w':World,iJ w'->(fun w':World=>((w'.cell? ⟨W.heap.size,0,none⟩=some (.slice A1 L1 c1)/\w'.cell? ⟨W.heap.size,1,none⟩=some (.slice (some a) L2 c2)/\w'.cell? ⟨W.heap.size,2,none⟩=some (.int .u8 k)/\w'.cell? ⟨W.heap.size,3,none⟩=some (.int .i64 n)/\w'.cell? ⟨W.heap.size,4,none⟩=some (.string s)/\w'.cell? ⟨W.heap.size,5,none⟩=some (.slice A3 l3 c3))/\(w'.cell? ⟨fb+1,0,none⟩=some (.func (.func 92) #[] #[.pointer (some ⟨fb,0,none⟩)])))/\(w'.cell? ⟨w0.heap.size,0,none⟩=some (.int .i64 (j:Int)))/\(w'.cell? ⟨w0.heap.size+1,0,none⟩=some (.string r.s)/\w'.cell? ⟨w0.heap.size+1,1,none⟩=some (.slice P1 r.ps.length d1)/\w'.cell? ⟨w0.heap.size+1,2,none⟩=some (.int .u8 r.b.k)/\w'.cell? ⟨w0.heap.size+1,3,none⟩=some (.int .i64 r.b.n)/\w'.cell? ⟨w0.heap.size+1,4,none⟩=some (.string r.b.s)/\w'.cell? ⟨w0.heap.size+1,5,none⟩=some (.slice P2 r.b.ks.length d2))) w' from fun w' h=>⟨aI.out w' (iM.out w' h).1.1,zc (iM.out w' h).1.2 rfl,box6 (iM.out w' h).2⟩)
      have HD2:=zh (show ∀ w':World,Chg (fun b=>b=fb\/pv'.ownBlock=some b) wk w'->PV w' (fun b=>S b/\b<W.heap.size) p _/\PrR w' (fun b=>S b/\b<W.heap.size) r P1 d1 P2 d2 from fun w' h=>⟨(HD.out w' (ah.out.chg2 ax.out h)).1,bX.out.keep (fun b hb _=>hb) fun b hb _=>(ma.out w' (ah.out.chg2 ax.out h) b hb.1 hb.2).trans (ma.out w0 ah.out.chg b hb.1 hb.2).symm⟩)
      have bO:=zh (show ∀ w':World,Below wk.heap.size wk w'->(fun w':World=>((w'.cell? ⟨W.heap.size,0,none⟩=some (.slice A1 L1 c1)/\w'.cell? ⟨W.heap.size,1,none⟩=some (.slice (some a) L2 c2)/\w'.cell? ⟨W.heap.size,2,none⟩=some (.int .u8 k)/\w'.cell? ⟨W.heap.size,3,none⟩=some (.int .i64 n)/\w'.cell? ⟨W.heap.size,4,none⟩=some (.string s)/\w'.cell? ⟨W.heap.size,5,none⟩=some (.slice A3 l3 c3))/\(w'.cell? ⟨fb+1,0,none⟩=some (.func (.func 92) #[] #[.pointer (some ⟨fb,0,none⟩)])))/\(w'.cell? ⟨w0.heap.size,0,none⟩=some (.int .i64 (j:Int)))/\(w'.cell? ⟨w0.heap.size+1,0,none⟩=some (.string r.s)/\w'.cell? ⟨w0.heap.size+1,1,none⟩=some (.slice P1 r.ps.length d1)/\w'.cell? ⟨w0.heap.size+1,2,none⟩=some (.int .u8 r.b.k)/\w'.cell? ⟨w0.heap.size+1,3,none⟩=some (.int .i64 r.b.n)/\w'.cell? ⟨w0.heap.size+1,4,none⟩=some (.string r.b.s)/\w'.cell? ⟨w0.heap.size+1,5,none⟩=some (.slice P2 r.b.ks.length d2))) w'/\(fun _:World=>True) w' from fun w' h=>⟨lI.out w' (bg.out _ _ _ _ HI2.out.rd HI2.out.fs (Chg.of_below h)),trivial⟩)
      clear hwk hbk pY mQ mX a0 a1 a2 a3 a4 a5 ar q0 q1 q2 q3 q4 q5;have hdr:=(Below.refl wk.heap.size wk).drew;have hSS:=bO.out _ hdr;have hrb:=dD.out.2.2.1 r (by rw[<-Hr.out];exact List.getElem_mem dF);have hpN:=zsC p.prs dD.out.2.2.1 j;obtain⟨rb1,rb2,rb3⟩:=hrb;refine wp_region_noPanic ?_
      refine zkc (fun w':World=>((w'.cell? ⟨W.heap.size,0,none⟩=some (.slice A1 L1 c1)/\w'.cell? ⟨W.heap.size,1,none⟩=some (.slice (some a) L2 c2)/\w'.cell? ⟨W.heap.size,2,none⟩=some (.int .u8 k)/\w'.cell? ⟨W.heap.size,3,none⟩=some (.int .i64 n)/\w'.cell? ⟨W.heap.size,4,none⟩=some (.string s)/\w'.cell? ⟨W.heap.size,5,none⟩=some (.slice A3 l3 c3))/\(w'.cell? ⟨fb+1,0,none⟩=some (.func (.func 92) #[] #[.pointer (some ⟨fb,0,none⟩)])))/\(w'.cell? ⟨w0.heap.size,0,none⟩=some (.int .i64 (j:Int)))/\(w'.cell? ⟨w0.heap.size+1,0,none⟩=some (.string r.s)/\w'.cell? ⟨w0.heap.size+1,1,none⟩=some (.slice P1 r.ps.length d1)/\w'.cell? ⟨w0.heap.size+1,2,none⟩=some (.int .u8 r.b.k)/\w'.cell? ⟨w0.heap.size+1,3,none⟩=some (.int .i64 r.b.n)/\w'.cell? ⟨w0.heap.size+1,4,none⟩=some (.string r.b.s)/\w'.cell? ⟨w0.heap.size+1,5,none⟩=some (.slice P2 r.b.ks.length d2))) (fun _:World=>True) 40 (by kernel_rfl) ?_
      refine zT 0 hSS ?_;(try simp only[zQ]);refine zT 1 hSS ?_;(try simp only[zQ]);refine zT 2 hSS ?_;(try simp only[zQ]);refine zT 4 hSS ?_;(try simp only[zQ]);refine zo 3 fun K hK=>?_;refine zkh (by rfl) (.func 94) [.tmp 45,.tmp 47] _ (by rfl) 94 _ zzZ (by rfl) _ (by rfl) _ (zoJ (zok p _ _ r.s _ (HD2.out _ (Chg.of_below hdr)).1)) ?_;rintro vq w2 ⟨rfl,ag⟩;have b2:=zka hdr ag;have aB:=bO.out _ b2;obtain⟨PE,wV⟩:∃ PE,zlJ p.prs r.s=PE:=⟨_,rfl⟩
      rw[wV];have HPE:=zh wV;refine hK.out _ _ aB ?_;clear hK K hSS wV;(try simp only[zQ]);have qY:=zh (show VsI iJ fb fb wk pv' (F1+prcN p.prs j) w2 pv' from ⟨bg.out _ _ _ _ HI2.out.rd HI2.out.fs (Chg.of_below b2),HI2.out.fs.later b2,fun b hb=>.inl hb,Chg.of_below b2⟩);by_cases hpe:PE<(j:Int)
      ·have hd:decide (PE<(j:Int))=true:=decide_eq_true hpe;obtain⟨E1,hE1⟩:∃ E1,one1 (22)=E1:=⟨_,rfl⟩
       have hE2:E1<=1:=by rw[<-hE1];exact znM _
       have jk:=zh (show one1 (if zlJ p.prs r.s<(j:Int) then 22 else 0)=E1 by rw[HPE.out,if_pos hpe];exact hE1);refine zT 5 aB ?_;(try simp only[zQ]);refine zd ?_;refine NoPanic.normal ?_;obtain⟨⟨⟨a0,a1,a2,a3,a4,a5⟩,ar⟩,ai,r0,r1,r2,r3,r4,r5⟩:=aB.1;clear aB;go_wp2_with fail;refine(znk fb fb _ pv' (j:Int) 22 [] none 0 r.s Any w2 qY.out.fs RowI.nil (by simp) (by omega)).mono ?_;rintro e w3 hp;obtain⟨v3,rfl⟩:=hp.1;obtain⟨vU,hi3⟩:=qY.out.stepK bg.out (Below.refl _ _) hp;rw[hE1] at hi3;have HI3:=zh hi3;clear hp a0 a1 a2 a3 a4 a5 ar ai r0 r1 r2 r3 r4 r5;obtain⟨⟨⟨a0,a1,a2,a3,a4,a5⟩,ar⟩,ai,r0,r1,r2,r3,r4,r5⟩:=lI.out _ hi3.rd;clear hi3 hE1;go_wp2_with fail
       go_loopw [59] (fun x w'=>∃ (i:Nat) (jZ:Value),i<=r.ps.length/\x=.int .i64 i/\VsI iJ fb fb wk pv' (F1+prcN p.prs j+E1+frsN r.ps i) w' jZ) (fun x _=>r.ps.length-(intOf x).toNat)
       case atStart=>exact⟨0,_,Nat.zero_le _,rfl,HI3.out⟩
       case round =>
        clear HI3 a0 a1 a2 a3 a4 a5 ar ai r0 r1 r2 r3 r4 r5;obtain⟨i,jZ,hi,rfl,hinv⟩:=hrel;have bz:=zh hinv;by_cases tu:i<r.ps.length
        ·obtain⟨a',u,rfl,hsa,Hu,⟨q0,q1,q2⟩,hfu⟩:=(HD2.out wr hinv.chg).2.row.nd tu;have hic:(i:Int)<=(d1:Int):=by have:=bX.out.lc;omega
         have hi0:(0:Int)<=(i:Int):=by omega
         obtain⟨⟨⟨a0,a1,a2,a3,a4,a5⟩,ar⟩,ai,r0,r1,r2,r3,r4,r5⟩:=lI.out _ hinv.rd;clear hinv hsa hfu;go_upto_region 18 with fail;have hbk:Below wr.heap.size wr (wr.alloc (.cells #[.string u.s,.int .u8 u.k,.int .i64 u.n] 83)):=zkb (Below.refl _ _) _;have dJ:=heap_alloc_new wr (.cells #[.string u.s,.int .u8 u.k,.int .i64 u.n] 83);obtain⟨wv,hwv⟩:∃ wv,wr.alloc (.cells #[.string u.s,.int .u8 u.k,.int .i64 u.n] 83)=wv:=⟨_,rfl⟩
         rw[hwv] at hbk dJ ⊢;have qw:=zh (show wv.heap.size=wr.heap.size+1 by rw[<-hwv];simp);have lJ:=zh hbk;have gJ:=zh dJ;clear hwv hbk dJ a0 a1 a2 a3 a4 a5 ar ai r0 r1 r2 r3 r4 r5 q0 q1 q2
         have jl:=zh (show ∀ w':World,Below wv.heap.size wv w'->(fun w':World=>(fun w':World=>((w'.cell? ⟨W.heap.size,0,none⟩=some (.slice A1 L1 c1)/\w'.cell? ⟨W.heap.size,1,none⟩=some (.slice (some a) L2 c2)/\w'.cell? ⟨W.heap.size,2,none⟩=some (.int .u8 k)/\w'.cell? ⟨W.heap.size,3,none⟩=some (.int .i64 n)/\w'.cell? ⟨W.heap.size,4,none⟩=some (.string s)/\w'.cell? ⟨W.heap.size,5,none⟩=some (.slice A3 l3 c3))/\(w'.cell? ⟨fb+1,0,none⟩=some (.func (.func 92) #[] #[.pointer (some ⟨fb,0,none⟩)])))/\(w'.cell? ⟨w0.heap.size,0,none⟩=some (.int .i64 (j:Int)))/\(w'.cell? ⟨w0.heap.size+1,0,none⟩=some (.string r.s)/\w'.cell? ⟨w0.heap.size+1,1,none⟩=some (.slice (some a') r.ps.length d1)/\w'.cell? ⟨w0.heap.size+1,2,none⟩=some (.int .u8 r.b.k)/\w'.cell? ⟨w0.heap.size+1,3,none⟩=some (.int .i64 r.b.n)/\w'.cell? ⟨w0.heap.size+1,4,none⟩=some (.string r.b.s)/\w'.cell? ⟨w0.heap.size+1,5,none⟩=some (.slice P2 r.b.ks.length d2))) w'/\(w'.cell? ⟨wr.heap.size,0,none⟩=some (.string u.s)/\w'.cell? ⟨wr.heap.size,1,none⟩=some (.int .u8 u.k)/\w'.cell? ⟨wr.heap.size,2,none⟩=some (.int .i64 u.n))) w'/\(fun _:World=>True) w' from fun w' h=>⟨⟨lI.out _ (bg.out _ _ _ _ bz.out.rd bz.out.fs (Chg.of_below (zka lJ.out h))),box3 ((h.block _ (by have:=qw.out;omega)).trans gJ.out)⟩,trivial⟩)
         have hdv:=(Below.refl wv.heap.size wv).drew;have hSS:=jl.out _ hdv;have wN:=zna r.ps i;refine wp_region_noPanic ?_
         refine zkc (fun w':World=>(fun w':World=>((w'.cell? ⟨W.heap.size,0,none⟩=some (.slice A1 L1 c1)/\w'.cell? ⟨W.heap.size,1,none⟩=some (.slice (some a) L2 c2)/\w'.cell? ⟨W.heap.size,2,none⟩=some (.int .u8 k)/\w'.cell? ⟨W.heap.size,3,none⟩=some (.int .i64 n)/\w'.cell? ⟨W.heap.size,4,none⟩=some (.string s)/\w'.cell? ⟨W.heap.size,5,none⟩=some (.slice A3 l3 c3))/\(w'.cell? ⟨fb+1,0,none⟩=some (.func (.func 92) #[] #[.pointer (some ⟨fb,0,none⟩)])))/\(w'.cell? ⟨w0.heap.size,0,none⟩=some (.int .i64 (j:Int)))/\(w'.cell? ⟨w0.heap.size+1,0,none⟩=some (.string r.s)/\w'.cell? ⟨w0.heap.size+1,1,none⟩=some (.slice (some a') r.ps.length d1)/\w'.cell? ⟨w0.heap.size+1,2,none⟩=some (.int .u8 r.b.k)/\w'.cell? ⟨w0.heap.size+1,3,none⟩=some (.int .i64 r.b.n)/\w'.cell? ⟨w0.heap.size+1,4,none⟩=some (.string r.b.s)/\w'.cell? ⟨w0.heap.size+1,5,none⟩=some (.slice P2 r.b.ks.length d2))) w'/\(w'.cell? ⟨wr.heap.size,0,none⟩=some (.string u.s)/\w'.cell? ⟨wr.heap.size,1,none⟩=some (.int .u8 u.k)/\w'.cell? ⟨wr.heap.size,2,none⟩=some (.int .i64 u.n))) (fun _:World=>True) 40 (by kernel_rfl) ?_
         refine zT 0 hSS ?_;(try simp only[zQ]);refine zT 1 hSS ?_;(try simp only[zQ]);refine zT 2 hSS ?_;(try simp only[zQ]);refine zT 3 hSS ?_;(try simp only[zQ]);refine zT 4 hSS ?_;(try simp only[zQ]);refine zT 5 hSS ?_;(try simp only[zQ]);refine zT 6 hSS ?_;(try simp only[zQ]);refine zT 7 hSS ?_;(try simp only[zQ]);refine zT 8 hSS ?_;(try simp only[zQ]);refine zT 9 hSS ?_;(try simp only[zQ]);refine zo 10 fun K hK=>?_;refine zkh (by rfl) (.func 93) [.tmp 71,.tmp 73] _ (by rfl) 93 _ zq3 (by rfl) _ (by rfl) _ (zoJ (znp r.ps i (by omega) (some a') d1 u.s _ _ (HD2.out _ (bz.out.chg.trans (Chg.of_below (zka lJ.out hdv)))).2.row bX.out.lp)) ?_;rintro vq w5 ⟨rfl,bU⟩;have b5:=zka hdv bU;refine hK.out _ _ (jl.out _ b5) ?_;clear hK K hSS;(try simp only[zQ]);refine zo 11 fun K hK=>?_
         refine zlL (by rfl) (.tmp 64) [.tmp 65,.const (.slice none 0 0),.tmp 67,.tmp 74] _ (by rfl) 92 _ ztL #[.pointer (some ⟨fb,0,none⟩)] (by rfl) _ (by rfl) _ (zm1 (znj fb fb _ jZ (j:Int) _ [] none 0 u.s Any _ (bz.out.fs.later (zka lJ.out b5)) RowI.nil (by simp) (by omega))) ?_;rintro vq W6 hp;obtain⟨ik,bF⟩:=bz.out.stepK bg.out (zka lJ.out b5) hp;have bD:VsI iJ fb fb wk pv' (F1+prcN p.prs j+E1+frsN r.ps (i+1)) W6 ik:=by rw[zoc tu,Hu.out,<-Nat.add_assoc];exact bF
         have au:(fun w':World=>(fun w':World=>((w'.cell? ⟨W.heap.size,0,none⟩=some (.slice A1 L1 c1)/\w'.cell? ⟨W.heap.size,1,none⟩=some (.slice (some a) L2 c2)/\w'.cell? ⟨W.heap.size,2,none⟩=some (.int .u8 k)/\w'.cell? ⟨W.heap.size,3,none⟩=some (.int .i64 n)/\w'.cell? ⟨W.heap.size,4,none⟩=some (.string s)/\w'.cell? ⟨W.heap.size,5,none⟩=some (.slice A3 l3 c3))/\(w'.cell? ⟨fb+1,0,none⟩=some (.func (.func 92) #[] #[.pointer (some ⟨fb,0,none⟩)])))/\(w'.cell? ⟨w0.heap.size,0,none⟩=some (.int .i64 (j:Int)))/\(w'.cell? ⟨w0.heap.size+1,0,none⟩=some (.string r.s)/\w'.cell? ⟨w0.heap.size+1,1,none⟩=some (.slice (some a') r.ps.length d1)/\w'.cell? ⟨w0.heap.size+1,2,none⟩=some (.int .u8 r.b.k)/\w'.cell? ⟨w0.heap.size+1,3,none⟩=some (.int .i64 r.b.n)/\w'.cell? ⟨w0.heap.size+1,4,none⟩=some (.string r.b.s)/\w'.cell? ⟨w0.heap.size+1,5,none⟩=some (.slice P2 r.b.ks.length d2))) w'/\(w'.cell? ⟨wr.heap.size,0,none⟩=some (.string u.s)/\w'.cell? ⟨wr.heap.size,1,none⟩=some (.int .u8 u.k)/\w'.cell? ⟨wr.heap.size,2,none⟩=some (.int .i64 u.n))) W6/\(fun _:World=>True) W6:=⟨⟨lI.out _ bD.rd,box3 ((hp.2.elim fun _ h=>h.2.2.block _ (by have:=(zka lJ.out b5).size;have:=b5.size;have:=qw.out;omega) (fun hh=>by have hl:=bz.out.fs.lt;rcases hh with hh|hh;(have:=hl.1;omega);(have:=(hl.2 _ hh).2;omega))).trans ((b5.block _ (by have:=qw.out;omega)).trans gJ.out))⟩,trivial⟩
         refine hK.out _ _ au ?_;clear hK K;(try simp only[zQ]);refine zd ?_;refine NoPanic.normal ?_;have jJ:=zh bD;clear bD bF hp au;go_wp2_with fail
         go_roundw
         case rel=>exact⟨i+1,_,by omega,by go_num,jJ.out⟩
         case measure=>simp[intOf];omega
        ·have hil:i=r.ps.length:=by omega
         obtain⟨⟨⟨a0,a1,a2,a3,a4,a5⟩,ar⟩,ai,r0,r1,r2,r3,r4,r5⟩:=lI.out _ hinv.rd;have hge:¬ ((i:Int)<(r.ps.length:Int)):=by omega
         clear hinv;go_wp2_with fail;have wN:=zna r.ps r.ps.length;have aF:=zh (show VsI iJ fb fb wk pv' (F1+prcN p.prs j+E1+frsN r.ps r.ps.length) wr jZ by rw[<-hil];exact bz.out);have uE:=bz.out.chg.size;have hzk:=eF.out;have hz0:=ah.out.chg.size;have hzb:=jF.out;refine(zop 96 _ _ fb fb (zt9 fb fb (fb+1) w0.heap.size (j:Int)) p r.b (fun b=>S b/\b<W.heap.size) r.ps P1 d1 [] none 0 (F1+prcN p.prs j+E1+frsN r.ps r.ps.length) jZ wr _ _ ⟨(lW.out _ (iM.out _ aF.out.rd).1.1).1,(iM.out _ aF.out.rd).1.2⟩ aF.out.fs (HD2.out _ aF.out.chg).1 (HD2.out _ aF.out.chg).2.body (HD2.out _ aF.out.chg).2.row bX.out.lc RowI.nil (Nat.zero_le _) (fun b hb hbl hh=>?_) (by simp;omega) (by omega) (by omega)).mono ?_
         ·rcases hh with hh|hh
          ·have:=hb.2;omega
          ·rcases aF.out.own b hh with h1|h1
           ·have:=(ah.out.fs.lt.2 b h1).1;have:=hb.2;omega
           ·have:=hb.2;omega
         rintro e W6 hp;obtain⟨v6,rfl⟩:=hp.1;obtain⟨ik,bF⟩:=aF.out.stepK bg.out (Below.refl _ _) hp;obtain⟨vS,bD⟩:=ah.out.step aT.out ax.out (bF.rep (Below.refl _ _) (e:=.returned undef) ⟨_,rfl⟩);have xN:=zh (show VsI Rd fb fb Wb (.slice none 0 0) (F1+prcN p.prs (j+1)) W6 vS by rw[zn5 dF,Hr.out,prcE,jk.out];simpa only[Nat.add_assoc] using bD);clear bD bF hp a0 a1 a2 a3 a4 a5 ar ai r0 r1 r2 r3 r4 r5;go_wp2_with fail
         go_roundw
         case rel=>exact⟨j+1,_,by omega,by go_num,xN.out⟩
         case measure=>simp[intOf];omega
      ·have hd:decide (PE<(j:Int))=false:=decide_eq_false hpe;obtain⟨E1,hE1⟩:∃ E1,one1 (0)=E1:=⟨_,rfl⟩
       have hE2:E1<=1:=by rw[<-hE1];exact znM _
       have jk:=zh (show one1 (if zlJ p.prs r.s<(j:Int) then 22 else 0)=E1 by rw[HPE.out,if_neg hpe];exact hE1);refine zT 5 aB ?_;(try simp only[zQ]);refine zd ?_;refine NoPanic.normal ?_;obtain⟨⟨⟨a0,a1,a2,a3,a4,a5⟩,ar⟩,ai,r0,r1,r2,r3,r4,r5⟩:=aB.1;clear aB;go_wp2_with fail;have HI3:=zh (show VsI iJ fb fb wk pv' (F1+prcN p.prs j+E1) w2 pv' by rw[<-hE1];exact qY.out);clear hE1
       go_loopw [59] (fun x w'=>∃ (i:Nat) (jZ:Value),i<=r.ps.length/\x=.int .i64 i/\VsI iJ fb fb wk pv' (F1+prcN p.prs j+E1+frsN r.ps i) w' jZ) (fun x _=>r.ps.length-(intOf x).toNat)
       case atStart=>exact⟨0,_,Nat.zero_le _,rfl,HI3.out⟩
       case round =>
        clear HI3 a0 a1 a2 a3 a4 a5 ar ai r0 r1 r2 r3 r4 r5;obtain⟨i,jZ,hi,rfl,hinv⟩:=hrel;have bz:=zh hinv;by_cases tu:i<r.ps.length
        ·obtain⟨a',u,rfl,hsa,Hu,⟨q0,q1,q2⟩,hfu⟩:=(HD2.out wr hinv.chg).2.row.nd tu;have hic:(i:Int)<=(d1:Int):=by have:=bX.out.lc;omega
         have hi0:(0:Int)<=(i:Int):=by omega
         obtain⟨⟨⟨a0,a1,a2,a3,a4,a5⟩,ar⟩,ai,r0,r1,r2,r3,r4,r5⟩:=lI.out _ hinv.rd;clear hinv hsa hfu;go_upto_region 18 with fail;have hbk:Below wr.heap.size wr (wr.alloc (.cells #[.string u.s,.int .u8 u.k,.int .i64 u.n] 83)):=zkb (Below.refl _ _) _;have dJ:=heap_alloc_new wr (.cells #[.string u.s,.int .u8 u.k,.int .i64 u.n] 83);obtain⟨wv,hwv⟩:∃ wv,wr.alloc (.cells #[.string u.s,.int .u8 u.k,.int .i64 u.n] 83)=wv:=⟨_,rfl⟩
         rw[hwv] at hbk dJ ⊢;have qw:=zh (show wv.heap.size=wr.heap.size+1 by rw[<-hwv];simp);have lJ:=zh hbk;have gJ:=zh dJ;clear hwv hbk dJ a0 a1 a2 a3 a4 a5 ar ai r0 r1 r2 r3 r4 r5 q0 q1 q2
         have jl:=zh (show ∀ w':World,Below wv.heap.size wv w'->(fun w':World=>(fun w':World=>((w'.cell? ⟨W.heap.size,0,none⟩=some (.slice A1 L1 c1)/\w'.cell? ⟨W.heap.size,1,none⟩=some (.slice (some a) L2 c2)/\w'.cell? ⟨W.heap.size,2,none⟩=some (.int .u8 k)/\w'.cell? ⟨W.heap.size,3,none⟩=some (.int .i64 n)/\w'.cell? ⟨W.heap.size,4,none⟩=some (.string s)/\w'.cell? ⟨W.heap.size,5,none⟩=some (.slice A3 l3 c3))/\(w'.cell? ⟨fb+1,0,none⟩=some (.func (.func 92) #[] #[.pointer (some ⟨fb,0,none⟩)])))/\(w'.cell? ⟨w0.heap.size,0,none⟩=some (.int .i64 (j:Int)))/\(w'.cell? ⟨w0.heap.size+1,0,none⟩=some (.string r.s)/\w'.cell? ⟨w0.heap.size+1,1,none⟩=some (.slice (some a') r.ps.length d1)/\w'.cell? ⟨w0.heap.size+1,2,none⟩=some (.int .u8 r.b.k)/\w'.cell? ⟨w0.heap.size+1,3,none⟩=some (.int .i64 r.b.n)/\w'.cell? ⟨w0.heap.size+1,4,none⟩=some (.string r.b.s)/\w'.cell? ⟨w0.heap.size+1,5,none⟩=some (.slice P2 r.b.ks.length d2))) w'/\(w'.cell? ⟨wr.heap.size,0,none⟩=some (.string u.s)/\w'.cell? ⟨wr.heap.size,1,none⟩=some (.int .u8 u.k)/\w'.cell? ⟨wr.heap.size,2,none⟩=some (.int .i64 u.n))) w'/\(fun _:World=>True) w' from fun w' h=>⟨⟨lI.out _ (bg.out _ _ _ _ bz.out.rd bz.out.fs (Chg.of_below (zka lJ.out h))),box3 ((h.block _ (by have:=qw.out;omega)).trans gJ.out)⟩,trivial⟩)
         have hdv:=(Below.refl wv.heap.size wv).drew;have hSS:=jl.out _ hdv;have wN:=zna r.ps i;refine wp_region_noPanic ?_
         refine zkc (fun w':World=>(fun w':World=>((w'.cell? ⟨W.heap.size,0,none⟩=some (.slice A1 L1 c1)/\w'.cell? ⟨W.heap.size,1,none⟩=some (.slice (some a) L2 c2)/\w'.cell? ⟨W.heap.size,2,none⟩=some (.int .u8 k)/\w'.cell? ⟨W.heap.size,3,none⟩=some (.int .i64 n)/\w'.cell? ⟨W.heap.size,4,none⟩=some (.string s)/\w'.cell? ⟨W.heap.size,5,none⟩=some (.slice A3 l3 c3))/\(w'.cell? ⟨fb+1,0,none⟩=some (.func (.func 92) #[] #[.pointer (some ⟨fb,0,none⟩)])))/\(w'.cell? ⟨w0.heap.size,0,none⟩=some (.int .i64 (j:Int)))/\(w'.cell? ⟨w0.heap.size+1,0,none⟩=some (.string r.s)/\w'.cell? ⟨w0.heap.size+1,1,none⟩=some (.slice (some a') r.ps.length d1)/\w'.cell? ⟨w0.heap.size+1,2,none⟩=some (.int .u8 r.b.k)/\w'.cell? ⟨w0.heap.size+1,3,none⟩=some (.int .i64 r.b.n)/\w'.cell? ⟨w0.heap.size+1,4,none⟩=some (.string r.b.s)/\w'.cell? ⟨w0.heap.size+1,5,none⟩=some (.slice P2 r.b.ks.length d2))) w'/\(w'.cell? ⟨wr.heap.size,0,none⟩=some (.string u.s)/\w'.cell? ⟨wr.heap.size,1,none⟩=some (.int .u8 u.k)/\w'.cell? ⟨wr.heap.size,2,none⟩=some (.int .i64 u.n))) (fun _:World=>True) 40 (by kernel_rfl) ?_
         refine zT 0 hSS ?_;(try simp only[zQ]);refine zT 1 hSS ?_;(try simp only[zQ]);refine zT 2 hSS ?_;(try simp only[zQ]);refine zT 3 hSS ?_;(try simp only[zQ]);refine zT 4 hSS ?_;(try simp only[zQ]);refine zT 5 hSS ?_;(try simp only[zQ]);refine zT 6 hSS ?_;(try simp only[zQ]);refine zT 7 hSS ?_;(try simp only[zQ]);refine zT 8 hSS ?_;(try simp only[zQ]);refine zT 9 hSS ?_;(try simp only[zQ]);refine zo 10 fun K hK=>?_;refine zkh (by rfl) (.func 93) [.tmp 71,.tmp 73] _ (by rfl) 93 _ zq3 (by rfl) _ (by rfl) _ (zoJ (znp r.ps i (by omega) (some a') d1 u.s _ _ (HD2.out _ (bz.out.chg.trans (Chg.of_below (zka lJ.out hdv)))).2.row bX.out.lp)) ?_;rintro vq w5 ⟨rfl,bU⟩;have b5:=zka hdv bU;refine hK.out _ _ (jl.out _ b5) ?_;clear hK K hSS;(try simp only[zQ]);refine zo 11 fun K hK=>?_
         refine zlL (by rfl) (.tmp 64) [.tmp 65,.const (.slice none 0 0),.tmp 67,.tmp 74] _ (by rfl) 92 _ ztL #[.pointer (some ⟨fb,0,none⟩)] (by rfl) _ (by rfl) _ (zm1 (znj fb fb _ jZ (j:Int) _ [] none 0 u.s Any _ (bz.out.fs.later (zka lJ.out b5)) RowI.nil (by simp) (by omega))) ?_;rintro vq W6 hp;obtain⟨ik,bF⟩:=bz.out.stepK bg.out (zka lJ.out b5) hp;have bD:VsI iJ fb fb wk pv' (F1+prcN p.prs j+E1+frsN r.ps (i+1)) W6 ik:=by rw[zoc tu,Hu.out,<-Nat.add_assoc];exact bF
         have au:(fun w':World=>(fun w':World=>((w'.cell? ⟨W.heap.size,0,none⟩=some (.slice A1 L1 c1)/\w'.cell? ⟨W.heap.size,1,none⟩=some (.slice (some a) L2 c2)/\w'.cell? ⟨W.heap.size,2,none⟩=some (.int .u8 k)/\w'.cell? ⟨W.heap.size,3,none⟩=some (.int .i64 n)/\w'.cell? ⟨W.heap.size,4,none⟩=some (.string s)/\w'.cell? ⟨W.heap.size,5,none⟩=some (.slice A3 l3 c3))/\(w'.cell? ⟨fb+1,0,none⟩=some (.func (.func 92) #[] #[.pointer (some ⟨fb,0,none⟩)])))/\(w'.cell? ⟨w0.heap.size,0,none⟩=some (.int .i64 (j:Int)))/\(w'.cell? ⟨w0.heap.size+1,0,none⟩=some (.string r.s)/\w'.cell? ⟨w0.heap.size+1,1,none⟩=some (.slice (some a') r.ps.length d1)/\w'.cell? ⟨w0.heap.size+1,2,none⟩=some (.int .u8 r.b.k)/\w'.cell? ⟨w0.heap.size+1,3,none⟩=some (.int .i64 r.b.n)/\w'.cell? ⟨w0.heap.size+1,4,none⟩=some (.string r.b.s)/\w'.cell? ⟨w0.heap.size+1,5,none⟩=some (.slice P2 r.b.ks.length d2))) w'/\(w'.cell? ⟨wr.heap.size,0,none⟩=some (.string u.s)/\w'.cell? ⟨wr.heap.size,1,none⟩=some (.int .u8 u.k)/\w'.cell? ⟨wr.heap.size,2,none⟩=some (.int .i64 u.n))) W6/\(fun _:World=>True) W6:=⟨⟨lI.out _ bD.rd,box3 ((hp.2.elim fun _ h=>h.2.2.block _ (by have:=(zka lJ.out b5).size;have:=b5.size;have:=qw.out;omega) (fun hh=>by have hl:=bz.out.fs.lt;rcases hh with hh|hh;(have:=hl.1;omega);(have:=(hl.2 _ hh).2;omega))).trans ((b5.block _ (by have:=qw.out;omega)).trans gJ.out))⟩,trivial⟩
         refine hK.out _ _ au ?_;clear hK K;(try simp only[zQ]);refine zd ?_;refine NoPanic.normal ?_;have jJ:=zh bD;clear bD bF hp au;go_wp2_with fail
         go_roundw
         case rel=>exact⟨i+1,_,by omega,by go_num,jJ.out⟩
         case measure=>simp[intOf];omega
        ·have hil:i=r.ps.length:=by omega
         obtain⟨⟨⟨a0,a1,a2,a3,a4,a5⟩,ar⟩,ai,r0,r1,r2,r3,r4,r5⟩:=lI.out _ hinv.rd;have hge:¬ ((i:Int)<(r.ps.length:Int)):=by omega
         clear hinv;go_wp2_with fail;have wN:=zna r.ps r.ps.length;have aF:=zh (show VsI iJ fb fb wk pv' (F1+prcN p.prs j+E1+frsN r.ps r.ps.length) wr jZ by rw[<-hil];exact bz.out);have uE:=bz.out.chg.size;have hzk:=eF.out;have hz0:=ah.out.chg.size;have hzb:=jF.out;refine(zop 96 _ _ fb fb (zt9 fb fb (fb+1) w0.heap.size (j:Int)) p r.b (fun b=>S b/\b<W.heap.size) r.ps P1 d1 [] none 0 (F1+prcN p.prs j+E1+frsN r.ps r.ps.length) jZ wr _ _ ⟨(lW.out _ (iM.out _ aF.out.rd).1.1).1,(iM.out _ aF.out.rd).1.2⟩ aF.out.fs (HD2.out _ aF.out.chg).1 (HD2.out _ aF.out.chg).2.body (HD2.out _ aF.out.chg).2.row bX.out.lc RowI.nil (Nat.zero_le _) (fun b hb hbl hh=>?_) (by simp;omega) (by omega) (by omega)).mono ?_
         ·rcases hh with hh|hh
          ·have:=hb.2;omega
          ·rcases aF.out.own b hh with h1|h1
           ·have:=(ah.out.fs.lt.2 b h1).1;have:=hb.2;omega
           ·have:=hb.2;omega
         rintro e W6 hp;obtain⟨v6,rfl⟩:=hp.1;obtain⟨ik,bF⟩:=aF.out.stepK bg.out (Below.refl _ _) hp;obtain⟨vS,bD⟩:=ah.out.step aT.out ax.out (bF.rep (Below.refl _ _) (e:=.returned undef) ⟨_,rfl⟩);have xN:=zh (show VsI Rd fb fb Wb (.slice none 0 0) (F1+prcN p.prs (j+1)) W6 vS by rw[zn5 dF,Hr.out,prcE,jk.out];simpa only[Nat.add_assoc] using bD);clear bD bF hp a0 a1 a2 a3 a4 a5 ar ai r0 r1 r2 r3 r4 r5;go_wp2_with fail
         go_roundw
         case rel=>exact⟨j+1,_,by omega,by go_num,xN.out⟩
         case measure=>simp[intOf];omega
     ·have hjl:j=L2:=by omega
      obtain⟨⟨a0,a1,a2,a3,a4,a5⟩,ar⟩:=aI.out _ hinv.rd;have hge:¬ ((j:Int)<(L2:Int)):=by omega
      have bZ:=zh (show VsI Rd fb fb Wb (.slice none 0 0) (F1+prcN p.prs p.prs.length) w0 pv' by rw[HL2.out,<-hjl];exact ah.out);clear hinv;go_wp2_with fail;have hpN:=zsC p.prs dD.out.2.2.1 p.prs.length;have hvb:=dD.out;have uE:=ah.out.chg.size;have hzb:=jF.out;have uN:=(HD.out _ bZ.out.chg).2.main;rw[sJ.out.1,sJ.out.2.1,sJ.out.2.2.1,sJ.out.2.2.2] at uN;have hcall:=zop _ _ Rd fb fb aT.out p p.m (fun b=>S b/\b<W.heap.size) p.vs A1 c1 [] none 0 (F1+prcN p.prs p.prs.length) pv' w0 _ _ bZ.out.rd bZ.out.fs (HD.out _ bZ.out.chg).1 uN (HD.out _ bZ.out.chg).2.vars HR.out.lvc RowI.nil (Nat.zero_le _) (fun b hb hbl hh=>by rcases hh with hh|hh;(have:=hb.2;omega);(rcases bZ.out.own b hh with h1|h1;(simp[Value.ownBlock] at h1);(have:=hb.2;omega))) (by simp;omega) (by omega) (by omega);rw[jU.out] at hcall;refine hcall.mono ?_;clear hcall;rintro e W6 hp
      obtain⟨v6,rfl⟩:=hp.1;obtain⟨ik,bF⟩:=bZ.out.step aT.out (Below.refl _ _) hp;rw[show F1+prcN p.prs p.prs.length+cntV p.prs p.m p.vs=NN by rw[<-HNN2.out,chkN,vK.out]] at bF;obtain⟨A6,c6,rfl⟩:=bF.fs.slice;have hf6:W6.cell? ⟨fb,0,none⟩=some (.slice A6 NN c6):=zc bF.fs.box rfl;have HBZ:=zh (show Below W.heap.size W W6 from aN.out.trans (bF.chg.below (by omega) (fun b hb=>by rcases hb with hb|hb;omega;simp[Value.ownBlock] at hb)));clear bF hp uN hvb a0 a1 a2 a3 a4 a5 ar;go_wp2_with fail;go_ret;exact⟨A6,c6,rfl,HBZ.out⟩
end Go.Proofs.YtckhofdinldhpaaGreat
namespace Go.Proofs.YtckhofdinldhpaaGreat
open Go Go.RowKit
theorem zqP:∀ (prs:List PR) (s:ByteArray),prcI prs s=idxP prs s
 | [],_=>rfl
 | q::qs,s=>by
  unfold prcI;rw[zqP qs s];unfold idxP;rw[List.findIdx?_cons]
def CalB (prs:List PR) (t:T):Prop:=∀ u∈po t,(u.k=50\/u.k=51)->∃ i,prcI prs u.s=some i
theorem zvQ:∀ (t:T),isE t=true->∀ x∈po t,isE x=true:=by
 intro t
 induction t using T.ind with
 | _ k n s ks ih =>
  intro h x hx;simp only[po,List.mem_cons] at hx;rcases hx with rfl|hx
  ·exact h
  ·obtain⟨t,ht,hx⟩:=zk8.1 hx;exact ih t ht (zoX h t ht) x hx
theorem CalB.expr {prs:List PR} {t:T} (h:isE t=true):CalB prs t:=fun u hu hk=>by
 have:=zrM u (zvQ t h u hu);omega
theorem CalB.kid {prs:List PR} {k n:Int} {s:ByteArray} {ks:List T} (h:CalB prs (.nd k n s ks)) {t:T} (ht:t∈ks):CalB prs t:=fun u hu=>h u (by simp only[po,List.mem_cons];exact .inr (zk8.2 ⟨t,ht,hu⟩))
theorem znf {prs:List PR} {k:Int} {s:ByteArray} {vs:List VD}:∀ {ks:List T} {i:Nat},cntK prs k s i ks vs=0->∀ t∈ks,∃ vs',cntV prs t vs'=0
 | [],_,_,t,ht=>by cases ht
 | u::us,i,h,t,ht=>by
  rw[cntK] at h;obtain⟨h1,h2⟩:=Nat.add_eq_zero_iff.1 h;rcases List.mem_cons.1 ht with rfl|ht
  ·exact⟨_,h1⟩
  ·exact znf h2 t ht
theorem zpq {e:Int} (h:one1 e=0):e=0:=by
 unfold one1 at h
 split at h
 ·assumption
 ·omega
theorem zzk:∀ (t:T) (prs:List PR) (vs:List VD),(isS t=true\/isB t=true\/isE t=true)->cntV prs t vs=0->CalB prs t:=by
 intro t
 induction t using T.ind with
 | _ k n s ks ih =>
  intro prs vs ht h;rcases ht with hs|hb|he
  ·rw[cntV] at h;intro u hu hk;simp only[po,List.mem_cons] at hu;by_cases hc:k=50\/k=51
   ·rcases hu with rfl|hu
    ·have h0:=zpq (e:=zld prs k s ks.length vs) (by omega);unfold zld at h0;rw[if_neg (by omega),if_neg (by omega),if_neg (by omega),if_neg (by omega),if_pos hc] at h0;rw[zqP]
     cases hi:idxP prs s with
     | none=>rw[hi] at h0;simp at h0
     | some i=>exact⟨i,hi⟩
    ·obtain⟨t,ht,hx⟩:=zk8.1 hu;have h57:t.k≠57:=by
      rcases zlb hs with⟨_,h1⟩|⟨h1,_⟩|⟨h1,_⟩|⟨h1,_⟩
      ·exact h1 t ht
      all_goals omega
     rcases(zoK hs).2 t ht with h1|h1
     ·exact CalB.expr h1 u hx hk
     ·exact absurd (zuu h1) h57
   ·rw[if_neg hc] at h;rcases hu with rfl|hu
    ·exact absurd hk hc
    ·obtain⟨t,ht,hx⟩:=zk8.1 hu;obtain⟨vs',hv⟩:=znf (Nat.add_eq_zero_iff.1 h).2 t ht;rcases(zoK hs).2 t ht with h1|h1
     ·exact CalB.expr h1 u hx hk
     ·exact ih t ht prs vs' (.inr (.inl h1)) hv u hx hk
  ·obtain⟨h57,hks⟩:=zob _ _ _ _ hb;rw[cntV,if_neg (by omega)] at h;intro u hu hk;simp only[po,List.mem_cons] at hu;rcases hu with rfl|hu
   ·simp only[T.k_nd] at hk;omega
   ·obtain⟨t,ht,hx⟩:=zk8.1 hu;obtain⟨vs',hv⟩:=znf (Nat.add_eq_zero_iff.1 h).2 t ht;exact ih t ht prs vs' (.inl (hks t ht)) hv u hx hk
  ·exact CalB.expr he
def GP (prs:List PR) (t:T):Prop:=isS t=true/\CalB prs t/\∀ q∈prs,isB q.b=true/\CalB prs q.b
theorem GP.block {prs:List PR} {b:T} (hb:isB b=true) (hc:CalB prs b) (hq:∀ q∈prs,isB q.b=true/\CalB prs q.b):∀ u∈b.ks,GP prs u:=by
 obtain⟨k,n,s,ks⟩:=b;exact fun u hu=>⟨(zob _ _ _ _ hb).2 u hu,hc.kid hu,hq⟩
theorem zs9:GC GP where
 two:=fun prs t h hk=>by
  obtain⟨k,n,s,ks⟩:=t;obtain⟨hs,hc,hq⟩:=h;simp only[T.k_nd] at hk;rcases zlb hs with⟨h1,_⟩|⟨_,_,a,b,c,d,rfl,_,hb1,hb2,_⟩|⟨h1,_⟩|⟨h1,_⟩
  ·omega
  ·exact⟨rfl,GP.block hb1 (hc.kid (t:=b) (by simp)) hq,GP.block hb2 (hc.kid (t:=c) (by simp)) hq⟩
  ·omega
  ·omega
 loc:=fun prs t h hk=>by
  obtain⟨k,n,s,ks⟩:=t;obtain⟨hs,hc,hq⟩:=h;simp only[T.k_nd] at hk;rcases zlb hs with⟨h1,_⟩|⟨h1,_⟩|⟨_,_,a,b,c,rfl,_,hb1,_⟩|⟨h1,_⟩
  ·omega
  ·omega
  ·exact⟨rfl,GP.block hb1 (hc.kid (t:=b) (by simp)) hq⟩
  ·omega
 stk:=fun prs t h hk=>by
  obtain⟨k,n,s,ks⟩:=t;obtain⟨hs,hc,hq⟩:=h;simp only[T.k_nd] at hk;rcases zlb hs with⟨h1,_⟩|⟨h1,_⟩|⟨h1,_⟩|⟨_,_,b,rfl,hb1⟩
  ·omega
  ·omega
  ·omega
  ·exact⟨rfl,GP.block hb1 (hc.kid (t:=b) (by simp)) hq⟩
 cal:=fun prs t h hk=>by
  obtain⟨hs,hc,hq⟩:=h;have hm:t∈po t:=by obtain⟨k,n,s,ks⟩:=t;simp[po]
  obtain⟨i,hi⟩:=hc t hm hk;obtain⟨-,hl⟩:=zoU _ _ _ hi;exact⟨i,prs[i],hi,List.getElem?_eq_getElem hl,GP.block (hq _ (List.getElem_mem hl)).1 (hq _ (List.getElem_mem hl)).2 hq⟩
theorem zpm {ps:List PR}:∀ {j:Nat},j<=ps.length->prcN ps j=0->∀ i (h:i<ps.length),i<j->prcE ps i ps[i]=0
 | 0,_,_,i,_,hi=>by omega
 | j+1,hj,h,i,hl,hi=>by
  rw[zn5 (by omega)] at h;by_cases e:i=j
  ·subst e;omega
  ·exact zpm (j:=j) (by omega) (by omega) i hl (by omega)
theorem zo8 {p:PG} (h:zkE p=true):isB p.m=true/\∀ r∈p.prs,isB r.b=true:=by
 simp only[zkE,Bool.and_eq_true,decide_eq_true_eq,List.all_eq_true] at h;refine⟨?_,fun r hr=>?_⟩
 ·have:=h.2;simp only[zk1,Bool.and_eq_true] at this;exact this.2
 ·have:=h.1.2 r hr;simp only[zoQ,zk1,Bool.and_eq_true] at this;exact this.2.2
theorem zs8 {p:PG} (hv:zkE p=true) (hc:chkN p=0):∀ u∈p.m.ks,GP p.prs u:=by
 obtain⟨h1,h2⟩:=zo8 hv;unfold chkN at hc;refine GP.block h1 (zzk _ _ p.vs (.inr (.inl h1)) (by omega)) fun q hq=>⟨h2 q hq,?_⟩
 obtain⟨i,hi,rfl⟩:=List.getElem_of_mem hq;have:=zpm (Nat.le_refl _) (show prcN p.prs p.prs.length=0 by omega) i hi hi;unfold prcE at this;exact zzk _ _ _ (.inr (.inl (h2 _ hq))) (show cntV p.prs p.prs[i].b p.prs[i].ps=0 by omega)
theorem zKV (M a b r s g:Nat) (h1:a<=b) (h2:s<=r) (hg:b*M+r<=g):a*M+s<=g:=by have:=Nat.mul_le_mul_right M h1;omega
theorem ztj {p:PG} {F:Int} {g:Nat} (hv:zkE p=true) (hg:F.toNat*2000+2000<=g) (back:Bool) (S:ST) (e:List Nat):Good 0 (runO p.prs F g back p.m ⟨S,0,e⟩):=by
 obtain⟨_,_,h3,_,h5⟩:=zlX hv;refine zmb _ _ fun u hu r hr=>zmB (M:=2000) (fun q hq=>(h3 q hq).2.2) (by omega) g back u r ?_;have h6:=zqS (zkR hu);exact zKV 2000 (F.toNat-r.n) F.toNat 2000 _ g (by omega) (by omega) hg
def LitB (t:T):Prop:=∀ u∈po t,Fld u.k u.n u.s
theorem NV.lit {w:World} {S:Nat->Prop}:∀ (t:T) (v:Value),NV w S t v->LitB t:=by
 intro t
 induction t using T.ind with
 | _ k n s ks ih =>
  intro v hv u hu;obtain⟨A,c,-,hf,-,-,hrow⟩:=hv.open_;simp only[po,List.mem_cons] at hu;rcases hu with rfl|hu
  ·exact hf
  ·obtain⟨t,ht,hx⟩:=zk8.1 hu;obtain⟨i,hi,rfl⟩:=List.getElem_of_mem ht;obtain⟨a,u0,u1,u2,u3,-,-,-,hn⟩:=hrow i hi;exact ih _ ht _ hn u hx
theorem LitB.kid {k n:Int} {s:ByteArray} {ks:List T} (h:LitB (.nd k n s ks)) {t:T} (ht:t∈ks):LitB t:=fun u hu=>h u (by simp only[po,List.mem_cons];exact .inr (zk8.2 ⟨t,ht,hu⟩))
theorem LitB.own {t:T} (h:LitB t):Fld t.k t.n t.s:=h t (by obtain⟨k,n,s,ks⟩:=t;simp[po])
theorem LitB.ev {look:ByteArray->Option (List Int)} (hl:∀ s l,look s=some l->l.length<=100000/\∀ x∈l,I64 x):∀ t,LitB t->I64 (evE look t).1:=by
 intro t
 induction t using T.ind with
 | _ k n s ks ih =>
  intro h;rw[evE];refine zwe hl h.own.2.1 ?_;rw[znu,List.getD_eq_getElem?_getD,List.getElem?_map];rcases hk:ks[0]? with _|u
  ·exact zero_I64
  ·exact ih u (List.mem_of_getElem? hk) (h.kid (List.mem_of_getElem? hk))
theorem LitB.expr {S:ST} (h:S.WF) {t:T} (ht:LitB t):I64 (zkH S.look t).1:=by
 unfold zkH
 split
 ·exact LitB.ev (ztB h) _ ht
 ·exact zero_I64
theorem LitB.kidD {t:T} (h:LitB t) (i:Nat):LitB (Go.Proofs.YtckhofdinldhpaaGreat.kid t i):=by
 obtain⟨k,n,s,ks⟩:=t;unfold Go.Proofs.YtckhofdinldhpaaGreat.kid;rw[List.getD_eq_getElem?_getD];rcases hk:(T.nd k n s ks).ks[i]? with _|u
 ·intro v hv;have:v=nil0:=by simpa[nil0,po,pos] using hv
  subst this;exact⟨⟨by decide,by decide⟩,⟨by decide,by decide⟩,Nat.zero_le _⟩
 ·exact h.kid (List.mem_of_getElem? hk)
theorem LitB.block {t:T} (h:LitB t) {u:T} (hu:u∈t.ks):LitB u:=by
 obtain⟨k,n,s,ks⟩:=t;exact h.kid hu
section
variable {S:ST}
theorem zy7 (h:S.WF) {s:ByteArray} {id:Nat} (hn:S.num s=some id):id<S.nc:=by
 obtain⟨kd,hw⟩:=h.cur;unfold ST.num at hn;obtain⟨i,-,h2⟩:=Option.bind_eq_some_iff.1 hn;exact hw.num id (List.mem_of_getElem? h2)
theorem zxl (k x y:Int):I64 (updE k x y):=by
 unfold updE
 repeat' split
 all_goals first|exact znh _|exact zsg _
theorem zxO (h:S.WF) (k:Int) {id:Nat} (i:Nat) {af:Nat} (hid:id<S.nc) (hs:CurK S af 3):(zlH S k id i af).2.WF:=by
 have bP:=hs.lt h;have hc:=h.cells af bP;unfold zlH
 split
 ·split
  ·exact h
  ·refine znE (zwJ h af hs _ (by simp;omega) fun x hx=>?_) hid i 0 zero_I64;rcases List.mem_append.1 hx with hx|hx
   ·exact hc.2 x hx
   ·obtain rfl:=List.mem_singleton.1 hx;exact zmS h hid i
 ·split
  ·exact h
  ·split
   ·exact h
   ·refine zwJ (S:=S.put id i _) (znE h hid i _ (zmS h bP _)) af hs _ (by rw[List.length_take];omega) fun x hx=>hc.2 x (List.mem_of_mem_take hx)
theorem zo6 (h:S.WF) (l m:List Int) (h1:l.length<=4096/\∀ x∈l,I64 x) (h2:m.length<=4096/\∀ x∈m,I64 x):({ S with tin:=l,tout:=m }:ST).WF:=⟨h.ex,h.ncalls,h.cells,h1,h2⟩
theorem zuZ (h:S.WF) (k:Int) {id:Nat} (i:Nat) (hid:id<S.nc):(zkt S k id i).2.WF:=by
 unfold zkt;have h1:=h.tin;have h2:=h.tout
 split
 ·split
  ·exact h
  ·rename_i y r he
   split
   ·exact h
   ·rw[he] at h1;exact znE (S:={ S with tin:=r }) (zo6 h r S.tout ⟨by have:=h1.1;simp at this;omega,fun x hx=>h1.2 x (List.mem_cons_of_mem _ hx)⟩ h2) hid i y (h1.2 y (List.mem_cons_self ..))
 ·split
  ·split
   ·exact h
   ·split
    ·exact h
    ·refine znE (S:={ S with tout:=S.tout.dropLast }) (zo6 h S.tin S.tout.dropLast h1 ⟨by have:=h2.1;simp;omega,fun x hx=>h2.2 x (List.dropLast_subset _ hx)⟩) hid i _ ?_
     cases hl:S.tout.getLast? with
     | none=>exact zero_I64
     | some x=>exact h2.2 x (List.mem_of_getLast? hl)
  ·split
   ·split
    ·exact h
    ·refine znE (S:={ S with tin:=S.el id i::S.tin }) (zo6 h _ S.tout ⟨by simp;omega,fun x hx=>?_⟩ h2) hid i 0 zero_I64;rcases List.mem_cons.1 hx with rfl|hx
     ·exact zmS h hid i
     ·exact h1.2 x hx
   ·split
    ·exact h
    ·refine znE (S:={ S with tout:=S.tout++[S.el id i] }) (zo6 h S.tin _ h1 ⟨by simp;omega,fun x hx=>?_⟩) hid i 0 zero_I64;rcases List.mem_append.1 hx with hx|hx
     ·exact h2.2 x hx
     ·obtain rfl:=List.mem_singleton.1 hx;exact zmS h hid i
theorem zwn {t:T} (h:(doE S t).1=0):isS t=true/\t.k≠56/\basB t.k=true/\fltE S.cur.vs t=0/\doE S t=zq6 S t:=by
 unfold doE at h ⊢
 split at h
 ·cases h
 rename_i h1
 split at h
 ·cases h
 rename_i h2
 split at h
 ·cases h
 rename_i h3
 split at h
 ·rename_i h4;exact absurd h h4
 rename_i h4;rw[if_neg h1,if_neg h2,if_neg h3,if_neg h4];exact⟨by simpa using h1,h2,by simpa using h3,by simpa using h4,rfl⟩
theorem zu3 (h:S.WF) {k n:Int} {s:ByteArray} {ks:List T} (hf:fltE S.cur.vs (.nd k n s ks)=0) (hk:k=44\/k=45):∃ af,S.num s=some af/\CurK S af 3:=by
 have hn:zoR k=3:=by rcases hk with rfl|rfl<;>rfl
 obtain⟨u,h4,h5⟩:=zoV (zpD hf).1 (by rw[hn];decide);obtain⟨af,h6,h7⟩:=ztv h h4;exact⟨af,h6,by rw[h5,hn] at h7;exact h7⟩
theorem zzj (h:S.WF) (t:T):(doE S t).2.WF:=by
 unfold doE
 split
 ·exact h
 split
 ·exact h
 split
 ·exact h
 split
 ·exact h
 rename_i h1 h2 h3 h4;have hf:fltE S.cur.vs t=0:=by simpa using h4
 obtain⟨k,n,s,ks⟩:=t
 show(zlk S k s (ks.getD 0 nil0) (ks.getD 1 nil0) (indE S.look (ks.getD 0 nil0)) (zk6 S k (ks.getD 1 nil0))).2.WF
 unfold zlk
 split
 ·exact h
 unfold zmO
 split
 ·exact h
 cases h5:S.num (ks.getD 0 nil0).s with
 | none=>exact h
 | some id =>
  have hid:=zy7 h h5;dsimp only
  split
  ·unfold zkC
   split
   ·exact znE h hid _ _ (zxl _ _ _)
   ·split
    ·cases h6:S.num (ks.getD 1 nil0).s with
     | none=>exact h
     | some jd =>
      have hjd:=zy7 h h6;dsimp only
      split
      ·exact znE (znE h hid _ _ (zmS h hjd _)) hjd _ _ (zmS h hid _)
      ·exact h
    ·split
     ·rename_i hk;obtain⟨af,h6,h7⟩:=zu3 h hf hk;rw[h6];exact zxO h _ _ hid h7
     ·exact zuZ h _ _ hid
  ·exact h
theorem zxo (h:S.WF) (t:T):(zlp S t).2.WF:=by
 obtain⟨k,n,s,ks⟩:=t;exact zzj h _
theorem zn6 (h:S.WF) (v:VD) (hv:FldV v) (x:Int) (hx:I64 x) (hl:S.cur.vs.length+1<=4398046511000):(zkv S v x).2.WF:=by
 unfold zkv
 split
 ·exact h
 ·rename_i hk;have hk:=Decidable.not_not.1 hk
  split
  ·exact h
  ·refine zs1 h v hv _ ?_ ?_ ⟨fun e=>by rw[if_pos e];rfl,fun e=>by omega,by omega⟩ hl
   ·split<;>simp
   ·split
    ·intro y hy;obtain rfl:=List.mem_singleton.1 hy;exact hx
    ·intro y hy;cases hy
theorem zrZ (h:S.WF) (s:ByteArray) (x:Int):(zku S s x).2.WF:=by
 unfold zku
 split
 ·exact h
 ·split
  ·exact h
  ·exact zsc h _ fun kd hw=>zzo hw
theorem zpK (h:S.WF) (ps:List VD) (ss:List ByteArray) (hf:∀ v∈ps,FldV v) (hl:ps.length<=4398046511000):(zkT S ps ss).2.WF:=by
 unfold zkT
 split
 ·exact h
 ·cases he:entL S.cur ⟨[],[],0⟩ (ps.zip ss) with
  | error e=>exact h
  | ok f =>
   unfold entR;dsimp only
   split
   ·exact h
   ·exact(zt6 h ps ss f hf hl he (by omega)).1
theorem zvI (h:S.WF):(zla S).2.WF:=by
 unfold zla
 split
 ·exact h
 ·exact zt5 h
end
section
variable {o:Out} {f:RS->Out} {r r':RS} {F:Int} {t:T}
theorem zkq (h:o.bind f=.ok r'):∃ r1,o=.ok r1/\f r1=.ok r':=by
 cases o with
 | gas=>cases h
 | err e=>cases h
 | ok r1=>exact⟨r1,rfl,h⟩
theorem zkZ {R:Int×ST} (h:zkf r R=.ok r'):R.1=0/\r'={ r with S:=R.2 }:=by
 unfold zkf at h
 split at h
 ·cases h
 ·rename_i h0;injection h with h;exact⟨by simpa using h0,h.symm⟩
theorem zo9 {f:Int->RS->Out} (h:valO t r f=.ok r'):(zkH r.S.look t).2=0/\f (zkH r.S.look t).1 r=.ok r':=by
 unfold valO at h
 split at h
 ·cases h
 ·rename_i h0;exact⟨by simpa using h0,h⟩
theorem zm9 {f:Bool->RS->Out} (h:zk0 F t r f=.ok r'):(r.n:Int)<F/\(zkH r.S.look t).2=0/\f (decide ((zkH r.S.look t).1≠0)) { r with n:=r.n+1 }=.ok r':=by
 unfold zk0 at h;obtain⟨r1,h1,h2⟩:=zkq h;obtain⟨rfl,h3⟩:=zky h1;obtain⟨h4,h5⟩:=zo9 h2;exact⟨h3,h4,h5⟩
theorem zlR {b:Bool} (h:zkn F t b r=.ok r'):(r.n:Int)<F/\(zkH r.S.look t).2=0/\decide ((zkH r.S.look t).1≠0)=b/\r'={ r with n:=r.n+1 }:=by
 unfold zkn at h;obtain⟨h1,h2,h3⟩:=zm9 h
 split at h3
 ·rename_i hb;injection h3 with h3;exact⟨h1,h2,hb,h3.symm⟩
 ·cases h3
end
structure RInv (r:RS):Prop where
 wf:r.S.WF
 fb:FB r.n r.S
 n:r.n<=1000000
structure Keep (r r':RS):Prop where
 base:r'.S.base=r.S.base
 calls:r'.S.calls=r.S.calls
 nc:r.S.nc<=r'.S.nc
section
variable {r r1 r':RS} {F:Int}
theorem Keep.refl (r:RS):Keep r r:=⟨rfl,rfl,Nat.le_refl _⟩
theorem Keep.trans (h:Keep r r1) (h':Keep r1 r'):Keep r r':=⟨h'.base.trans h.base,h'.calls.trans h.calls,Nat.le_trans h.nc h'.nc⟩
theorem Keep.cur (h:Keep r r'):r'.S.cur=r.S.cur:=by unfold ST.cur;rw[h.base,h.calls]
theorem RInv.tick (h:RInv r) (hF:F<=1000000) (hn:(r.n:Int)<F):RInv { r with n:=r.n+1 }:=⟨h.wf,h.fb.mono (Nat.le_succ _),by simp only;omega⟩
theorem zoA {S:ST} (t:T):(doE S t).2.base=S.base/\(doE S t).2.calls=S.calls/\(doE S t).2.nc=S.nc:=by
 obtain⟨h1,h2,h3⟩:=zwo S t;exact⟨h1,h2,h3⟩
theorem zrm {S:ST} (t:T):(zlp S t).2.base=S.base/\(zlp S t).2.calls=S.calls/\(zlp S t).2.nc=S.nc:=by
 obtain⟨k,n,s,ks⟩:=t;exact zoA _
theorem ztn {f:FR} (hf:f.cs.length=f.vs.length) (v:VD) (id:Nat):(f.push v id).pop=f:=by
 obtain⟨vs,cs,loc⟩:=f;simp only at hf;simp[FR.push,FR.pop,hf]
theorem zni (S:ST) (f:FR):(S.setCur f).cur=f:=by
 unfold ST.setCur;by_cases h0:S.calls.length=0
 ·rw[if_pos h0];exact zmj (S:={ S with base:=f }) h0
 ·rw[if_neg h0,zmC (by simp;omega)];simp
theorem znK (S:ST):S.setCur S.cur=S:=by
 unfold ST.setCur;by_cases h0:S.calls.length=0
 ·rw[if_pos h0,zmj h0]
 ·rw[if_neg h0,zmC (by omega)];simp
theorem zlQ {f:T->RS->Out}:∀ (l:List T) (r r':RS),(∀ t∈l,∀ r r',RInv r->f t r=.ok r'->RInv r'/\Keep r r')->RInv r->zkp f l r=.ok r'->RInv r'/\Keep r r'
 | [],r,r',_,hr,h=>by
  injection h with h;subst h;exact⟨hr,Keep.refl _⟩
 | t::ts,r,r',hf,hr,h=>by
  rw[zkp] at h;obtain⟨r1,h1,h2⟩:=zkq h;obtain⟨a1,a2⟩:=hf t (List.mem_cons_self ..) r r1 hr h1;obtain⟨b1,b2⟩:=zlQ ts r1 r' (fun u hu=>hf u (List.mem_cons_of_mem _ hu)) a1 h2;exact⟨b1,a2.trans b2⟩
theorem zqe (hF:F<=1000000) {f:T->RS->Out} {entry test:T} {l1 l2:List T} (h1:∀ t∈l1,∀ r r',RInv r->f t r=.ok r'->RInv r'/\Keep r r') (h2:∀ t∈l2,∀ r r',RInv r->f t r=.ok r'->RInv r'/\Keep r r') :
  ∀ (m:Nat) (r r':RS),RInv r->zk9 F f entry test l1 l2 m r=.ok r'->RInv r'/\Keep r r'
 | 0,_,_,_,h=>by cases h
 | m+1,r,r',hr,h=>by
  rw[zk9] at h;obtain⟨ra,ha,h⟩:=zkq h;obtain⟨a1,a2⟩:=zlQ l1 r ra h1 hr ha;obtain⟨hn,-,h⟩:=zm9 h;have t1:=a1.tick hF hn;have k1:Keep r { ra with n:=ra.n+1 }:=⟨a2.base,a2.calls,a2.nc⟩
  split at h
  ·injection h with h;subst h;exact⟨t1,k1⟩
  ·obtain⟨rb,hb,h⟩:=zkq h;obtain⟨b1,b2⟩:=zlQ l2 _ rb h2 t1 hb;obtain⟨rc,hc,h⟩:=zkq h;obtain⟨hn2,-,-,rfl⟩:=zlR hc;have t2:=b1.tick hF hn2;obtain⟨c1,c2⟩:=zqe hF h1 h2 m _ r' t2 h;exact⟨c1,(k1.trans b2).trans ⟨c2.base,c2.calls,c2.nc⟩⟩
def PrB (prs:List PR):Prop:=∀ q∈prs,LitB q.b/\(∀ v∈q.ps,FldV v)/\q.ps.length<=1000
theorem PrB.getD {prs:List PR} (h:PrB prs) (i:Nat):LitB (prs.getD i ⟨⟨#[]⟩,[],nil0⟩).b/\(∀ v∈(prs.getD i ⟨⟨#[]⟩,[],nil0⟩).ps,FldV v)/\(prs.getD i ⟨⟨#[]⟩,[],nil0⟩).ps.length<=1000:=by
 rw[List.getD_eq_getElem?_getD];rcases hk:prs[i]? with _|q
 ·refine⟨fun v hv=>?_,by simp,by simp⟩;have:v=nil0:=by simpa[nil0,po,pos] using hv
  subst this;exact⟨⟨by decide,by decide⟩,⟨by decide,by decide⟩,Nat.zero_le _⟩
 ·exact h q (List.mem_of_getElem? hk)
theorem zoy {t:T} (h:LitB t) (k:Int) (hk:k=1\/k=3):FldV ⟨t.s,k,0⟩:=⟨h.own.2.2,by simp only;omega,by simp only;omega⟩
theorem zmJ {S:ST} {v:VD} {x:Int} (h:(zkv S v x).1=0):S.cur.at v.s=none/\(v.k=1\/v.k=3)/\(zkv S v x).2=(S.newCell (if v.k=1 then [x] else [])).setCur (S.cur.push v S.nc):=by
 unfold zkv at h ⊢
 split at h
 ·cases h
 ·rename_i h1
  split at h
  ·cases h
  ·rename_i h2;rw[if_neg h1,if_neg h2];exact⟨by simpa using h2,(Decidable.not_not.1 h1).1,rfl⟩
theorem zpO {S:ST} {s:ByteArray} {x:Int} (h:(zku S s x).1=0):0<S.cur.loc/\((znO S.cur).s.toList==s.toList)=true/\((znO S.cur).k=1->(S.cell (zpv S.cur)).getD 0 0=x)/\((znO S.cur).k=3->S.cell (zpv S.cur)=[])/\(zku S s x).2=S.setCur S.cur.pop:=by
 unfold zku at h ⊢
 split at h
 ·cases h
 ·rename_i h1
  split at h
  ·cases h
  ·rename_i h2;rw[if_neg h1,if_neg h2];simp only[not_or,not_and,Decidable.not_not,Bool.not_eq_false] at h1 h2;refine⟨by omega,h1.2,h2.1,fun e=>?_,rfl⟩;exact List.length_eq_zero_iff.1 (by have:=h2.2 e;omega)
theorem zpJ {S:ST} {ps:List VD} {ss:List ByteArray} (h:(zkT S ps ss).1=0):∃ f,ps.length=ss.length/\entL S.cur ⟨[],[],0⟩ (ps.zip ss)=.ok f/\S.calls.length<100/\(zkT S ps ss).2={ S with calls:=S.calls++[f] }:=by
 unfold zkT at h ⊢
 split at h
 ·cases h
 ·rename_i h1;rw[if_neg h1]
  cases he:entL S.cur ⟨[],[],0⟩ (ps.zip ss) with
  | error e=>rw[he] at h;exact absurd h (ztQ _ _ _ he)
  | ok f =>
   rw[he] at h;unfold entR at h ⊢;dsimp only at h ⊢
   split at h
   ·cases h
   ·rename_i h2;rw[if_neg h2];exact⟨f,Decidable.not_not.1 h1,rfl,by omega,rfl⟩
theorem zrG {S:ST} (h:(zla S).1=0):0<S.calls.length/\(zla S).2={ S with calls:=S.calls.take (S.calls.length-1) }:=by
 unfold zla at h ⊢
 split at h
 ·cases h
 ·rename_i h1;rw[if_neg h1];exact⟨by omega,rfl⟩
theorem RInv.store {R:Int×ST} (h:RInv r) (hF:F<=1000000) (hn:(r.n:Int)<F) (hw:R.2.WF) (hf:FB (r.n+1) R.2):RInv { r with n:=r.n+1,S:=R.2 }:=⟨hw,hf,by simp only;omega⟩
theorem znl {S S2:ST} {v:VD} {x y:Int} {s:ByteArray} (hc:S.cur.cs.length=S.cur.vs.length) (h1:(zkv S v x).1=0) (hb:S2.base=(zkv S v x).2.base) (hcl:S2.calls=(zkv S v x).2.calls) (hn:(zkv S v x).2.nc<=S2.nc) (h2:(zku S2 s y).1=0) :
  (zku S2 s y).2.base=S.base/\(zku S2 s y).2.calls=S.calls/\S.nc<=(zku S2 s y).2.nc:=by
 obtain⟨-,-,e1⟩:=zmJ h1;obtain⟨-,-,-,-,e2⟩:=zpO h2;rw[e1] at hb hcl hn;rw[e2];have bT:S2.cur=S.cur.push v S.nc:=by
  obtain⟨S3,nU⟩:∃ S3,(S.newCell (if v.k=1 then [x] else [])).setCur (S.cur.push v S.nc)=S3:=⟨_,rfl⟩
  rw[nU] at hb hcl;have:S2.cur=S3.cur:=by unfold ST.cur;rw[hb,hcl]
  rw[this,<-nU,zni]
 rw[bT,ztn hc];have hs:=znK S;unfold ST.setCur at hb hcl hn hs ⊢;by_cases h0:S.calls.length=0
 ·rw[if_pos (show(S.newCell _).calls.length=0 from h0)] at hb hcl hn;rw[if_pos h0] at hs;rw[if_pos (by rw[hcl];exact h0)];exact⟨by rw[zmj h0],hcl,by simp only[ST.newCell] at hn;simp only;omega⟩
 ·rw[if_neg (show ¬ (S.newCell _).calls.length=0 from h0)] at hb hcl hn;rw[if_neg h0] at hs;have hl:S2.calls.length=S.calls.length:=by rw[hcl];simp[ST.newCell]
  rw[if_neg (by omega)];refine⟨hb,?_,by simp only[ST.newCell] at hn;simp only;omega⟩;simp only[hl];rw[hcl];simp only[ST.newCell,List.set_set];have:=congrArg ST.calls hs;exact this
end
theorem zlC {prs:List PR} {F:Int} (hF:F<=1000000) (hp:PrB prs):∀ (g:Nat) (back:Bool) (t:T) (r r':RS),LitB t->RInv r->zkk prs F g back t r=.ok r'->RInv r'/\Keep r r'
 | 0,_,_,_,_,_,_,h=>by cases h
 | g+1,back,t,r,r',ht,hr,h=>by
  have hb:∀ back (b:T),LitB b->∀ r r',RInv r->zkp (zkk prs F g back) (blkL back b) r=.ok r'->RInv r'/\Keep r r':=fun back b hb r r' hr h =>
   zlQ _ r r' (fun u hu r r' hr h=>zlC hF hp g back u r r' (hb.block (zkR hu)) hr h) hr h
  have kC:LitB (fstT back t):=by unfold fstT;split<;>exact ht.kidD _
  rw[zkk] at h
  split at h
  ·obtain⟨hn,-,h⟩:=zm9 h;obtain⟨r1,h1,h⟩:=zkq h;obtain⟨a1,a2⟩:=hb back _ (by split<;>exact ht.kidD _) _ r1 (hr.tick hF hn) h1;obtain⟨hn2,-,-,rfl⟩:=zlR h;exact⟨a1.tick hF hn2,⟨a2.base,a2.calls,a2.nc⟩⟩
  split at h
  ·obtain⟨r1,h1,h⟩:=zkq h;obtain⟨hn,-,-,rfl⟩:=zlR h1;obtain⟨a1,a2⟩:=zqe hF (fun u hu r r' hr h=>zlC hF hp g back u r r' ((ht.kidD 1).block (zkR hu)) hr h) (fun u hu r r' hr h=>zlC hF hp g back u r r' ((ht.kidD 2).block (zkR hu)) hr h) g _ r' (hr.tick hF hn) h;exact⟨a1,⟨a2.base,a2.calls,a2.nc⟩⟩
  split at h
  ·obtain⟨r1,h1,h⟩:=zkq h;obtain⟨rfl,hn⟩:=zky h1;obtain⟨-,h⟩:=zo9 h;obtain⟨r2,h2,h⟩:=zkq h;obtain⟨e0,rfl⟩:=zkZ h2;obtain⟨r3,h3,h⟩:=zkq h;obtain⟨a1,a2⟩:=hb back _ (ht.kidD 1) _ r3 (RInv.store hr hF hn (zn6 hr.wf _ (zoy ht 1 (.inl rfl)) _ (LitB.expr hr.wf kC) (by have:=hr.fb.cur;have:=hr.n;omega)) (hr.fb.open_ _ _)) h3;obtain⟨r4,h4,h⟩:=zkq h;obtain⟨rfl,hn2⟩:=zky h4;obtain⟨-,h⟩:=zo9 h;obtain⟨e1,rfl⟩:=zkZ h;obtain⟨kd,hw⟩:=hr.wf.cur;obtain⟨k1,k2,k3⟩:=znl hw.len e0 a2.base a2.calls a2.nc e1;exact⟨RInv.store a1 hF hn2 (zrZ a1.wf _ _) (a1.fb.close_ _ _),⟨k1,k2,k3⟩⟩
  split at h
  ·obtain⟨r1,h1,h⟩:=zkq h;obtain⟨rfl,hn⟩:=zky h1;obtain⟨r2,h2,h⟩:=zkq h;obtain⟨e0,rfl⟩:=zkZ h2;obtain⟨r3,h3,h⟩:=zkq h;obtain⟨a1,a2⟩:=hb back _ (ht.kidD 0) _ r3 (RInv.store hr hF hn (zn6 hr.wf _ (zoy ht 3 (.inr rfl)) _ zero_I64 (by have:=hr.fb.cur;have:=hr.n;omega)) (hr.fb.open_ _ _)) h3;obtain⟨r4,h4,h⟩:=zkq h;obtain⟨rfl,hn2⟩:=zky h4;obtain⟨e1,rfl⟩:=zkZ h;obtain⟨kd,hw⟩:=hr.wf.cur;obtain⟨k1,k2,k3⟩:=znl hw.len e0 a2.base a2.calls a2.nc e1;exact⟨RInv.store a1 hF hn2 (zrZ a1.wf _ _) (a1.fb.close_ _ _),⟨k1,k2,k3⟩⟩
  split at h
  ·split at h
   ·cases h
   ·rename_i i hi;obtain⟨q1,q2,q3⟩:=hp.getD i;obtain⟨r1,h1,h⟩:=zkq h;obtain⟨rfl,hn⟩:=zky h1;obtain⟨r2,h2,h⟩:=zkq h;obtain⟨e0,rfl⟩:=zkZ h2;obtain⟨r3,h3,h⟩:=zkq h;have i1:=RInv.store hr hF hn (zpK hr.wf _ (t.ks.map (·.s)) q2 (by omega)) (hr.fb.enter _ _ q3);have h12:=fun hI=>hb _ _ q1 _ r3 hI h3;obtain⟨a1,a2⟩:=h12 ⟨i1.wf,i1.fb,i1.n⟩;obtain⟨r4,h4,h⟩:=zkq h;obtain⟨rfl,hn2⟩:=zky h4;obtain⟨e1,rfl⟩:=zkZ h;obtain⟨f,-,-,-,ef⟩:=zpJ e0;obtain⟨-,el⟩:=zrG e1;have hbs:=a2.base;have hcs:=a2.calls;have hnc:=a2.nc;simp only at hbs hcs hnc;rw[ef] at hbs hcs hnc;refine⟨RInv.store a1 hF hn2 (zvI a1.wf) a1.fb.leave,⟨?_,?_,?_⟩⟩
    ·simp only;rw[el];exact hbs
    ·simp only;rw[el];simp only;rw[hcs];simp
    ·simp only;rw[el];exact hnc
  ·obtain⟨r1,h1,h⟩:=zkq h;obtain⟨rfl,hn⟩:=zky h1;obtain⟨e0,rfl⟩:=zkZ h
   cases back
   ·obtain⟨k1,k2,k3⟩:=zoA (S:=r.S) t;exact⟨RInv.store hr hF hn (zzj hr.wf t) (hr.fb.do_ t),⟨k1,k2,Nat.le_of_eq k3.symm⟩⟩
   ·obtain⟨k1,k2,k3⟩:=zrm (S:=r.S) t;exact⟨RInv.store hr hF hn (zxo hr.wf t) (hr.fb.undo t),⟨k1,k2,Nat.le_of_eq k3.symm⟩⟩
end Go.Proofs.YtckhofdinldhpaaGreat
