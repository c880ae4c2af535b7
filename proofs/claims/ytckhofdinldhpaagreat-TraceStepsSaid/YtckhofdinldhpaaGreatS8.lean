/-
  Texts of the proof, put together without their remarks: ScV, Fa, ScK, Gf, Wfp, Trq, Rcp.
-/
import Derived.Test.YtckhofdinldhpaaGreatS7
set_option linter.unusedSimpArgs false
set_option linter.unusedVariables false
set_option maxHeartbeats 8000000
set_option maxRecDepth 100000
namespace Go.Proofs.YtckhofdinldhpaaGreat
open Go Go.RowKit
def cntA (ps:List PR) (s:ByteArray) (l:Nat):Nat->List T->List VD->Nat
 | _,[],_=>0
 | i,t::ts,vs=>one1 (argE ps s l i t.s vs)+cntA ps s l (i+1) ts vs
mutual
/-- How many faults scope.visit reports. -/
def cntV (ps:List PR):T->List VD->Nat
 | .nd k _ s ks,vs=>one1 (zlq ps k s ks.length vs)+(if k=50\/k=51 then cntA ps s ks.length 0 ks vs else cntK ps k s 0 ks vs)
def cntK (ps:List PR) (k:Int) (s:ByteArray):Nat->List T->List VD->Nat
 | _,[],_=>0
 | i,t::ts,vs=>cntV ps t (zmp k s i vs)+cntK ps k s (i+1) ts vs
end
theorem zom (ps:List PR) (s:ByteArray) (l:Nat) (vs:List VD):∀ (a b:List T) (i:Nat),cntA ps s l i (a++b) vs=cntA ps s l i a vs+cntA ps s l (i+a.length) b vs
 | [],b,i=>by simp[cntA]
 | t::ts,b,i=>by simp[cntA,zom ps s l vs ts b (i+1),Nat.add_assoc,Nat.add_comm 1 ts.length]
theorem zol (ps:List PR) (k:Int) (s:ByteArray) (vs:List VD):∀ (a b:List T) (i:Nat),cntK ps k s i (a++b) vs=cntK ps k s i a vs+cntK ps k s (i+a.length) b vs
 | [],b,i=>by simp[cntK]
 | t::ts,b,i=>by simp[cntK,zol ps k s vs ts b (i+1),Nat.add_assoc,Nat.add_comm 1 ts.length]
theorem zpK (ps:List PR) (s:ByteArray) (l:Nat) (vs:List VD) {ks:List T} {j:Nat} (h:j<ks.length):cntA ps s l 0 (ks.take (j+1)) vs=cntA ps s l 0 (ks.take j) vs+one1 (argE ps s l j ks[j].s vs):=by
 rw[List.take_succ_eq_append_getElem h,zom];have:(ks.take j).length=j:=by simp;omega
 simp[cntA,this]
theorem zte (ps:List PR) (k:Int) (s:ByteArray) (vs:List VD) {ks:List T} {j:Nat} (h:j<ks.length):cntK ps k s 0 (ks.take (j+1)) vs=cntK ps k s 0 (ks.take j) vs+cntV ps ks[j] (zmp k s j vs):=by
 rw[List.take_succ_eq_append_getElem h,zol];have:(ks.take j).length=j:=by simp;omega
 simp[cntK,this]
theorem zmW (e:Int):one1 e<=1:=by unfold one1;split<;>omega
theorem zqD (t:T):1<=size t:=by cases t;rw[size];omega
theorem zpd (ps:List PR) (s:ByteArray) (l:Nat) (vs:List VD):∀ (ks:List T) (i:Nat),cntA ps s l i ks vs<=zk7 ks
 | [],i=>by simp[cntA]
 | t::ts,i=>by
  have h1:=zpd ps s l vs ts (i+1);have h2:=zmW (argE ps s l i t.s vs);have h3:=zqD t;simp only[cntA,zk7];omega
theorem zqk (ps:List PR) (k:Int) (s:ByteArray):∀ (ks:List T),(∀ t∈ks,∀ vs,cntV ps t vs<=size t)->∀ (i:Nat) (vs:List VD),cntK ps k s i ks vs<=zk7 ks
 | [],_,i,vs=>by simp[cntK]
 | t::ts,h,i,vs=>by
  have h1:=zqk ps k s ts (fun u hu=>h u (by simp[hu])) (i+1) vs;have h2:=h t (by simp) (zmp k s i vs);simp only[cntK,zk7];omega
theorem ztd (ps:List PR) (t:T):∀ vs,cntV ps t vs<=size t:=by
 induction t using T.ind with
 | _ k n s ks ih =>
 intro vs;rw[cntV,size];have h1:=zmW (zlq ps k s ks.length vs);have h2:=zpd ps s ks.length vs ks 0;have h3:=zqk ps k s ks ih 0 vs
 split<;>omega
theorem zlG:∀ (ks:List T) (j:Nat),zk7 (ks.take j)<=zk7 ks
 | [],j=>by simp[zk7]
 | t::ts,0=>by simp[zk7]
 | t::ts,j+1=>by have:=zlG ts j;simp only[List.take_succ_cons,zk7];omega
theorem zrB (k:Int) (s:ByteArray) (i:Nat) (vs:List VD):(zmp k s i vs).length<=vs.length+1:=by unfold zmp;split;simp;split<;>simp
theorem PV.keep {w w':World} {S S':Nat->Prop} {p:PG} {v:Value} (h:PV w S p v) (hS:∀ b,S b->b<w.heap.size->S' b) (hk:∀ b,S b->b<w.heap.size->w'.heap[b]?=w.heap[b]?):PV w' S' p v :=
 let ⟨A1,c1,A2,c2,A3,c3,e,h⟩:=h;⟨A1,c1,A2,c2,A3,c3,e,h.keep hS hk⟩
structure VsI (Rd:World->Prop) (n0 fb:Nat) (Wb:World) (pv:Value) (N:Nat) (wr:World) (pv':Value):Prop where
 rd:Rd wr
 fs:FS wr n0 fb N pv'
 own:∀ b,pv'.ownBlock=some b->pv.ownBlock=some b\/Wb.heap.size<=b
 chg:Chg (fun b=>b=fb\/pv.ownBlock=some b) Wb wr
theorem VsI.step {f:FuncId} {cap:Array Value} {Rd:World->Prop} {n0 fb:Nat} {Wb wr w5 W6:World} {pv pv':Value} {N N':Nat} {e:Ending} (hr:RepC f cap Rd n0 fb) (h:VsI Rd n0 fb Wb pv N wr pv') (hb:Below wr.heap.size wr w5) (hp:RepP w5 n0 fb pv' N' e W6) :
  ∃ jE,VsI Rd n0 fb Wb pv N' W6 jE:=by
 obtain⟨_,jE,hfs,aH,hc⟩:=hp;have ru:=h.fs.later hb;have hz:=h.chg.size;have lg:=hb.size;refine⟨jE,hr.keep w5 W6 pv' N (hr.keep wr w5 pv' N h.rd h.fs (Chg.of_below hb)) ru hc,hfs,fun b hb'=>?_,(h.chg.trans (Chg.of_below hb)).trans2 hc fun b hlt hh=>?_⟩
 ·rcases aH b hb' with h1|h1
  ·exact h.own b h1
  ·exact .inr (by omega)
 ·rcases hh with hh|hh
  ·exact .inl hh
  ·rcases h.own b hh with h1|h1
   ·exact .inr h1
   ·omega
theorem VsI.rep {Rd:World->Prop} {n0 fb:Nat} {W Wb w:World} {pw pv':Value} {N':Nat} {e:Ending} (h:VsI Rd n0 fb Wb pw N' w pv') (hb:Below W.heap.size W Wb) (he:∃ v,e=.returned v):RepP W n0 fb pw N' e w :=
 ⟨he,pv',h.fs,fun b hh=>(h.own b hh).imp id fun h1=>by have:=hb.size;omega,(Chg.of_below hb).trans h.chg⟩
def IsW (x:Value) (w:World) (v:Value) (w':World):Prop:=v=x/\Below w.heap.size w w'
theorem znA {P:Program} {f:FuncId} {args:Array Value} {w:World} {x:Value} (h:Calls P f args w fun e w'=>e=.returned x/\Below w.heap.size w w'):Calls P f args w fun e w'=>∃ v,e=.returned v/\IsW x w v w' :=
 h.mono fun _ _ ⟨he,hb⟩=>⟨_,he,rfl,hb⟩
def RepV (W:World) (n0 fb:Nat) (pv:Value) (N':Nat) (_:Value) (W':World):Prop:=RepP W n0 fb pv N' (.returned undef) W'
theorem zml {P:Program} {f:FuncId} {args:Array Value} {W:World} {n0 fb N':Nat} {pv:Value} (h:Calls P f args W (RepP W n0 fb pv N')):Calls P f args W fun e w'=>∃ v,e=.returned v/\RepV W n0 fb pv N' v w' :=
 h.mono fun _ _ ⟨⟨v,he⟩,hp⟩=>⟨v,he,⟨_,rfl⟩,hp⟩
def zxo (w:World) (S:Nat->Prop) (vs:List VD) (v:Value) (w':World):Prop:=∃ A' c',v=.slice A' vs.length c'/\RowV w' (fun b=>S b\/w.heap.size<=b) A' vs/\vs.length<=c'/\Below w.heap.size w w'
theorem zsb {P:Program} {f:FuncId} {args:Array Value} {w:World} {S:Nat->Prop} {vs:List VD} (h:Calls P f args w (zvf w S vs)):Calls P f args w fun e w'=>∃ v,e=.returned v/\zxo w S vs v w' :=
 h.mono fun _ _ ⟨A,c,he,hn⟩=>⟨_,he,A,c,rfl,hn⟩
theorem zwl:IsFn Tryz.prog 137 Tryz.f137:=⟨Tryz.func137,by kernel_rfl,by kernel_rfl⟩
theorem zoI:IsFn Tryz.prog 139 Tryz.f139:=⟨Tryz.func139,by kernel_rfl,by kernel_rfl⟩
theorem zqg:IsFn Tryz.prog 138 Tryz.f138:=⟨Tryz.func138,by kernel_rfl,by kernel_rfl⟩
theorem zwk:IsFn Tryz.prog 140 Tryz.f140:=⟨Tryz.func140,by kernel_rfl,by kernel_rfl⟩
theorem zwe:IsFn Tryz.prog 95 Tryz.f95:=⟨Tryz.func95,by kernel_rfl,by kernel_rfl⟩
theorem znq (f:FuncId) (cap:Array Value) (Rd:World->Prop) (n0 fb:Nat) (hrep:RepC f cap Rd n0 fb) (p:PG) (t:T) :
  ∀ (S:Nat->Prop) (vs:List VD) (A:Option Addr) (c:Nat) (q:List Int) (Aq:Option Addr) (cq N:Nat) (pw:Value) (W:World) (v1 v2:Value),Rd W->FS W n0 fb N pw->PV W S p v1->NV W S t v2->RowV W S A vs->vs.length<=c->RowI W S Aq q->q.length<=cq ->
   (∀ b,S b->b<W.heap.size->¬ (b=fb\/pw.ownBlock=some b))->q.length+dep t<=50000->vs.length+dep t<=50000->N+size t<=1000000 ->
   Calls Tryz.prog 95 #[v1,v2,.slice Aq q.length cq,.slice A vs.length c,.func (.func f) #[] cap] W (RepP W n0 fb pw (N+cntV p.prs t vs)):=by
 obtain⟨fn,hfn⟩:=hrep.fn;have bC:=zh hrep;clear hrep
 induction t using T.ind with
 | _ tk tn ts ks ih =>
 intro S vs A c q Aq cq N pw W v1 v2 hrd hfs hv1 hv2 hrow hlc hqr hqc hfar hdq hdv hN;have wK:=zh ih;have hvv:=hv1;obtain⟨A1,c1,A2,c2,A3,c3,rfl,-⟩:=hv1;obtain⟨L1,hL1⟩:∃ L,p.vs.length=L:=⟨_,rfl⟩
 obtain⟨L2,hL2⟩:∃ L,p.prs.length=L:=⟨_,rfl⟩
 obtain⟨k,hk⟩:∃ k,p.m.k=k:=⟨_,rfl⟩
 obtain⟨n,hn⟩:∃ n,p.m.n=n:=⟨_,rfl⟩
 obtain⟨s,hs⟩:∃ s,p.m.s=s:=⟨_,rfl⟩
 obtain⟨l3,hl3⟩:∃ l,p.m.ks.length=l:=⟨_,rfl⟩
 rw[hL1,hL2,hk,hn,hs,hl3];rw[hL1,hL2,hk,hn,hs,hl3] at hvv;have wz:=zh hvv;clear ih hvv hL1 hL2 hk hn hs hl3;have jQ:=zh hv2;obtain⟨B,tc,rfl,_,hlk,_,j3⟩:=hv2.open_;simp only[T.k_nd,T.n_nd,T.s_nd,T.ks_nd] at *
 have aD:=zkN hlk;rw[dep] at hdq hdv;rw[size] at hN;have hksz:ks.length<=1000000:=by
  have:∀ l:List T,l.length<=zk7 l:=fun l=>by
   induction l with
   | nil=>simp
   | cons t ts ih=>have:=zqD t;simp only[List.length_cons,zk7];omega
  have:=this ks;omega
 have kQ:=zh j3;have aa:=zh hrow;have ni:=zh hlc;have HQR:=zh hqr;have yP:=zh hqc;have oh:=zh hrd;have wM:=zh hfs;have HFAR:=zh hfar;have hlv:vs.length<=LV:=by unfold LV;omega
 have sU:=zh hlv;have hfl:=hfs.lt;have jS:=zh hfl;obtain⟨CC,yE⟩:∃ CC,cntV p.prs (.nd tk tn ts ks) vs=CC:=⟨_,rfl⟩
 rw[yE];have aL:=zh yE;obtain⟨E0,hE0⟩:∃ E0,zlq p.prs tk ts ks.length vs=E0:=⟨_,rfl⟩
 have tV:=zh hE0;have hE1:=zmW E0;clear j3 hrow hlc hqr hqc hrd hfs hfar hlk hlv hv2 hfl yE hE0;go_enter Tryz.func95,Tryz.ntmps95;go_upto_region 1 with fail;have hbw:Below W.heap.size W ((W.alloc (.cells #[.slice A1 L1 c1,.slice A2 L2 c2,.int .u8 k,.int .i64 n,.string s,.slice A3 l3 c3] 35)).alloc (.cells #[.int .u8 tk,.int .i64 tn,.string ts,.slice B ks.length tc] 29)):=zkd (zkd (Below.refl _ _) _) _;have qa:=zkj (heap_alloc_new W (.cells #[.slice A1 L1 c1,.slice A2 L2 c2,.int .u8 k,.int .i64 n,.string s,.slice A3 l3 c3] 35)) (.cells #[.int .u8 tk,.int .i64 tn,.string ts,.slice B ks.length tc] 29);have hbN:=heap_alloc_new (W.alloc (.cells #[.slice A1 L1 c1,.slice A2 L2 c2,.int .u8 k,.int .i64 n,.string s,.slice A3 l3 c3] 35)) (.cells #[.int .u8 tk,.int .i64 tn,.string ts,.slice B ks.length tc] 29);simp only[World.size_alloc] at hbN
 obtain⟨Wb,rO⟩:∃ Wb,(W.alloc (.cells #[.slice A1 L1 c1,.slice A2 L2 c2,.int .u8 k,.int .i64 n,.string s,.slice A3 l3 c3] 35)).alloc (.cells #[.int .u8 tk,.int .i64 tn,.string ts,.slice B ks.length tc] 29)=Wb:=⟨_,rfl⟩
 rw[rO] at hbw qa hbN ⊢;have oZ:=zh (show Wb.heap.size=W.heap.size+2 by rw[<-rO];simp);have aU:=zh hbw;have HBP:=zh qa;have uZ:=zh hbN;have og:=zh (show ∀ w':World,w'.heap[W.heap.size]?=Wb.heap[W.heap.size]?->w'.heap[W.heap.size+1]?=Wb.heap[W.heap.size+1]?->(fun w':World=>(w'.cell? ⟨W.heap.size,0,none⟩=some (.slice A1 L1 c1)/\w'.cell? ⟨W.heap.size,1,none⟩=some (.slice A2 L2 c2)/\w'.cell? ⟨W.heap.size,2,none⟩=some (.int .u8 k)/\w'.cell? ⟨W.heap.size,3,none⟩=some (.int .i64 n)/\w'.cell? ⟨W.heap.size,4,none⟩=some (.string s)/\w'.cell? ⟨W.heap.size,5,none⟩=some (.slice A3 l3 c3))/\(w'.cell? ⟨W.heap.size+1,0,none⟩=some (.int .u8 tk)/\w'.cell? ⟨W.heap.size+1,1,none⟩=some (.int .i64 tn)/\w'.cell? ⟨W.heap.size+1,2,none⟩=some (.string ts)/\w'.cell? ⟨W.heap.size+1,3,none⟩=some (.slice B ks.length tc))) w' from fun w' h1 h2=>⟨box6 (h1.trans qa),box4 (h2.trans hbN)⟩)
 have pQ:=zh (show ∀ w':World,Chg (fun b=>b=fb\/pw.ownBlock=some b) Wb w'->(fun w':World=>(w'.cell? ⟨W.heap.size,0,none⟩=some (.slice A1 L1 c1)/\w'.cell? ⟨W.heap.size,1,none⟩=some (.slice A2 L2 c2)/\w'.cell? ⟨W.heap.size,2,none⟩=some (.int .u8 k)/\w'.cell? ⟨W.heap.size,3,none⟩=some (.int .i64 n)/\w'.cell? ⟨W.heap.size,4,none⟩=some (.string s)/\w'.cell? ⟨W.heap.size,5,none⟩=some (.slice A3 l3 c3))/\(w'.cell? ⟨W.heap.size+1,0,none⟩=some (.int .u8 tk)/\w'.cell? ⟨W.heap.size+1,1,none⟩=some (.int .i64 tn)/\w'.cell? ⟨W.heap.size+1,2,none⟩=some (.string ts)/\w'.cell? ⟨W.heap.size+1,3,none⟩=some (.slice B ks.length tc))) w' from fun w' h=>og.out w' (h.block _ (by have:=oZ.out;omega) (fun hh=>by rcases hh with hh|hh;(have:=jS.out.1;omega);(have:=(jS.out.2 _ hh).2;omega))) (h.block _ (by have:=oZ.out;omega) (fun hh=>by rcases hh with hh|hh;(have:=jS.out.1;omega);(have:=(jS.out.2 _ hh).2;omega))))
 have fA:=zh (show ∀ w':World,Chg (fun b=>b=fb\/pw.ownBlock=some b) Wb w'->∀ b,S b->b<W.heap.size->w'.heap[b]?=W.heap[b]? from fun w' h b hb hlt=>(h.block b (by have:=oZ.out;omega) (HFAR.out b hb hlt)).trans (aU.out.block b hlt));have hi0:VsI Rd n0 fb Wb pw N Wb pw:=⟨bC.out.keep W Wb pw N oh.out wM.out (Chg.of_below hbw),wM.out.later hbw,fun b hb=>.inl hb,Chg.refl _ _⟩
 have HI0:=zh hi0;clear rO hbw qa hbN hi0;have hdr:=(Below.refl Wb.heap.size Wb).drew;have hSS:(fun w':World=>(w'.cell? ⟨W.heap.size,0,none⟩=some (.slice A1 L1 c1)/\w'.cell? ⟨W.heap.size,1,none⟩=some (.slice A2 L2 c2)/\w'.cell? ⟨W.heap.size,2,none⟩=some (.int .u8 k)/\w'.cell? ⟨W.heap.size,3,none⟩=some (.int .i64 n)/\w'.cell? ⟨W.heap.size,4,none⟩=some (.string s)/\w'.cell? ⟨W.heap.size,5,none⟩=some (.slice A3 l3 c3))/\(w'.cell? ⟨W.heap.size+1,0,none⟩=some (.int .u8 tk)/\w'.cell? ⟨W.heap.size+1,1,none⟩=some (.int .i64 tn)/\w'.cell? ⟨W.heap.size+1,2,none⟩=some (.string ts)/\w'.cell? ⟨W.heap.size+1,3,none⟩=some (.slice B ks.length tc))) Wb.drew/\(fun _:World=>True) Wb.drew:=⟨pQ.out _ (Chg.of_below hdr),trivial⟩
 refine wp_region_noPanic ?_;refine zkc (fun w':World=>(w'.cell? ⟨W.heap.size,0,none⟩=some (.slice A1 L1 c1)/\w'.cell? ⟨W.heap.size,1,none⟩=some (.slice A2 L2 c2)/\w'.cell? ⟨W.heap.size,2,none⟩=some (.int .u8 k)/\w'.cell? ⟨W.heap.size,3,none⟩=some (.int .i64 n)/\w'.cell? ⟨W.heap.size,4,none⟩=some (.string s)/\w'.cell? ⟨W.heap.size,5,none⟩=some (.slice A3 l3 c3))/\(w'.cell? ⟨W.heap.size+1,0,none⟩=some (.int .u8 tk)/\w'.cell? ⟨W.heap.size+1,1,none⟩=some (.int .i64 tn)/\w'.cell? ⟨W.heap.size+1,2,none⟩=some (.string ts)/\w'.cell? ⟨W.heap.size+1,3,none⟩=some (.slice B ks.length tc))) (fun _:World=>True) 20 (by kernel_rfl) ?_;refine zT 0 hSS ?_;(try simp only[zQ]);refine zT 1 hSS ?_;(try simp only[zQ]);refine zT 2 hSS ?_;(try simp only[zQ]);refine zT 3 hSS ?_;(try simp only[zQ]);refine zT 4 hSS ?_;(try simp only[zQ]);refine zT 5 hSS ?_;(try simp only[zQ]);refine zT 6 hSS ?_
 (try simp only[zQ]);refine zo 7 fun K hK=>?_;refine zkg (by rfl) (.func 137) [.tmp 18,.tmp 19,.tmp 20] _ (by rfl) 137 _ zwl (by rfl) _ (by rfl) _ (znA (zs1 p (.nd tk tn ts ks) vs A c S S S _ _ _ (wz.out.later (zka aU.out hdr)) (jQ.out.later (zka aU.out hdr)) (aa.out.later (zka aU.out hdr)) sU.out)) ?_;rintro vq w2 ⟨rfl,aj⟩;simp only[T.k_nd,T.s_nd,T.ks_nd];rw[tV.out];have b2:=zka hdr aj
 have aW:(fun w':World=>(w'.cell? ⟨W.heap.size,0,none⟩=some (.slice A1 L1 c1)/\w'.cell? ⟨W.heap.size,1,none⟩=some (.slice A2 L2 c2)/\w'.cell? ⟨W.heap.size,2,none⟩=some (.int .u8 k)/\w'.cell? ⟨W.heap.size,3,none⟩=some (.int .i64 n)/\w'.cell? ⟨W.heap.size,4,none⟩=some (.string s)/\w'.cell? ⟨W.heap.size,5,none⟩=some (.slice A3 l3 c3))/\(w'.cell? ⟨W.heap.size+1,0,none⟩=some (.int .u8 tk)/\w'.cell? ⟨W.heap.size+1,1,none⟩=some (.int .i64 tn)/\w'.cell? ⟨W.heap.size+1,2,none⟩=some (.string ts)/\w'.cell? ⟨W.heap.size+1,3,none⟩=some (.slice B ks.length tc))) w2/\(fun _:World=>True) w2:=⟨pQ.out _ (Chg.of_below b2),trivial⟩
 refine hK.out _ _ aW ?_;clear hK K hSS;(try simp only[zQ]);refine zo 8 fun K hK=>?_;refine zlr (by rfl) (.tmp 14) [.tmp 15,.tmp 17,.tmp 21] _ (by rfl) f fn hfn cap (by rfl) _ (by rfl) _ (zml (bC.out.call N pw E0 q Aq cq ts S w2 (bC.out.keep Wb w2 pw N HI0.out.rd HI0.out.fs (Chg.of_below b2)) (HI0.out.fs.later b2) ((HQR.out.later aU.out).later b2) (by omega) (by omega))) ?_;rintro vq W3 hp3;obtain⟨pv3,hi3⟩:=HI0.out.step bC.out b2 hp3
 have eB:(fun w':World=>(w'.cell? ⟨W.heap.size,0,none⟩=some (.slice A1 L1 c1)/\w'.cell? ⟨W.heap.size,1,none⟩=some (.slice A2 L2 c2)/\w'.cell? ⟨W.heap.size,2,none⟩=some (.int .u8 k)/\w'.cell? ⟨W.heap.size,3,none⟩=some (.int .i64 n)/\w'.cell? ⟨W.heap.size,4,none⟩=some (.string s)/\w'.cell? ⟨W.heap.size,5,none⟩=some (.slice A3 l3 c3))/\(w'.cell? ⟨W.heap.size+1,0,none⟩=some (.int .u8 tk)/\w'.cell? ⟨W.heap.size+1,1,none⟩=some (.int .i64 tn)/\w'.cell? ⟨W.heap.size+1,2,none⟩=some (.string ts)/\w'.cell? ⟨W.heap.size+1,3,none⟩=some (.slice B ks.length tc))) W3/\(fun _:World=>True) W3:=⟨pQ.out _ hi3.chg,trivial⟩
 refine hK.out _ _ eB ?_;clear hK K aW;(try simp only[zQ]);refine zd ?_;refine NoPanic.normal ?_;obtain⟨⟨a0,a1,a2,a3,a4,a5⟩,b0,b1,b2',b3⟩:=eB.1;have HI3:=zh hi3;clear eB hi3 hp3 b2 aj hdr HI0;have HD:=zh (show ∀ w':World,Chg (fun b=>b=fb\/pw.ownBlock=some b) Wb w'->PV w' (fun b=>S b/\b<W.heap.size) p _/\NV w' (fun b=>S b/\b<W.heap.size) (.nd tk tn ts ks) _/\RowV w' (fun b=>S b/\b<W.heap.size) A vs/\RowI w' (fun b=>S b/\b<W.heap.size) Aq q/\zl7 w' (fun b=>S b/\b<W.heap.size) B ks from fun w' h=>⟨wz.out.keep (fun b hb hlt=>⟨hb,hlt⟩) (fA.out w' h),jQ.out.keep (fun b hb hlt=>⟨hb,hlt⟩) (fA.out w' h),aa.out.keep (fun b hb hlt=>⟨hb,hlt⟩) (fA.out w' h),HQR.out.keep (fun b hb hlt=>⟨hb,hlt⟩) (fA.out w' h),kQ.out.keep (fun b hb hlt=>⟨hb,hlt⟩) (fA.out w' h)⟩);by_cases hcall:tk=50\/tk=51
 ·rcases hcall with rfl|rfl
  ·go_wp2_with fail
   go_loopw [34] (fun i wr=>∃ (j:Nat) (pv':Value),j<=ks.length/\i=.int .i64 j/\VsI Rd n0 fb Wb pw (N+one1 E0+cntA p.prs ts ks.length 0 (ks.take j) vs) wr pv') (fun i _=>ks.length-(intOf i).toNat)
   case atStart=>exact⟨0,_,Nat.zero_le _,rfl,by simpa[cntA] using HI3.out⟩
   case round =>
    obtain⟨j,pv',hj,rfl,hinv⟩:=hrel;have ag:=zh hinv;clear HI3;by_cases hlt:j<ks.length
    ·obtain⟨-,-,-,-,j3⟩:=HD.out wr hinv.chg;obtain⟨a,u,A4,c4,rfl,hsa,Hu,⟨q0,q1,q2,q3⟩,hnu⟩:=j3.nd hlt;have pE:=zh hnu;clear hinv j3 hnu hsa;go_upto_region 6 with fail;have hbk:Below wr.heap.size wr (wr.alloc (.cells #[.int .u8 u.k,.int .i64 u.n,.string u.s,.slice A4 u.ks.length c4] 29)):=zkd (Below.refl _ _) _;have fH:=heap_alloc_new wr (.cells #[.int .u8 u.k,.int .i64 u.n,.string u.s,.slice A4 u.ks.length c4] 29);obtain⟨wk,hwk⟩:∃ wk,wr.alloc (.cells #[.int .u8 u.k,.int .i64 u.n,.string u.s,.slice A4 u.ks.length c4] 29)=wk:=⟨_,rfl⟩
     rw[hwk] at hbk fH ⊢;have gK:=zh (show wk.heap.size=wr.heap.size+1 by rw[<-hwk];simp);have av:=zh hbk;have iU:=zh fH;clear hwk hbk fH
     have eu:=zh (show ∀ w':World,Below wk.heap.size wk w'->(fun w':World=>((w'.cell? ⟨W.heap.size,0,none⟩=some (.slice A1 L1 c1)/\w'.cell? ⟨W.heap.size,1,none⟩=some (.slice A2 L2 c2)/\w'.cell? ⟨W.heap.size,2,none⟩=some (.int .u8 k)/\w'.cell? ⟨W.heap.size,3,none⟩=some (.int .i64 n)/\w'.cell? ⟨W.heap.size,4,none⟩=some (.string s)/\w'.cell? ⟨W.heap.size,5,none⟩=some (.slice A3 l3 c3))/\(w'.cell? ⟨W.heap.size+1,0,none⟩=some (.int .u8 50)/\w'.cell? ⟨W.heap.size+1,1,none⟩=some (.int .i64 tn)/\w'.cell? ⟨W.heap.size+1,2,none⟩=some (.string ts)/\w'.cell? ⟨W.heap.size+1,3,none⟩=some (.slice (some a) ks.length tc)))/\(w'.cell? ⟨wr.heap.size,0,none⟩=some (.int .u8 u.k)/\w'.cell? ⟨wr.heap.size,1,none⟩=some (.int .i64 u.n)/\w'.cell? ⟨wr.heap.size,2,none⟩=some (.string u.s)/\w'.cell? ⟨wr.heap.size,3,none⟩=some (.slice A4 u.ks.length c4))) w'/\(fun _:World=>True) w' from fun w' h=>⟨⟨pQ.out w' (ag.out.chg.trans (Chg.of_below (zka av.out h))),box4 ((h.block _ (by have:=gK.out;omega)).trans iU.out)⟩,trivial⟩)
     have hdr:=(Below.refl wk.heap.size wk).drew;have hSS:=eu.out _ hdr;refine wp_region_noPanic ?_
     refine zkc (fun w':World=>((w'.cell? ⟨W.heap.size,0,none⟩=some (.slice A1 L1 c1)/\w'.cell? ⟨W.heap.size,1,none⟩=some (.slice A2 L2 c2)/\w'.cell? ⟨W.heap.size,2,none⟩=some (.int .u8 k)/\w'.cell? ⟨W.heap.size,3,none⟩=some (.int .i64 n)/\w'.cell? ⟨W.heap.size,4,none⟩=some (.string s)/\w'.cell? ⟨W.heap.size,5,none⟩=some (.slice A3 l3 c3))/\(w'.cell? ⟨W.heap.size+1,0,none⟩=some (.int .u8 50)/\w'.cell? ⟨W.heap.size+1,1,none⟩=some (.int .i64 tn)/\w'.cell? ⟨W.heap.size+1,2,none⟩=some (.string ts)/\w'.cell? ⟨W.heap.size+1,3,none⟩=some (.slice (some a) ks.length tc)))/\(w'.cell? ⟨wr.heap.size,0,none⟩=some (.int .u8 u.k)/\w'.cell? ⟨wr.heap.size,1,none⟩=some (.int .i64 u.n)/\w'.cell? ⟨wr.heap.size,2,none⟩=some (.string u.s)/\w'.cell? ⟨wr.heap.size,3,none⟩=some (.slice A4 u.ks.length c4))) (fun _:World=>True) 40 (by kernel_rfl) ?_;refine zT 0 hSS ?_;(try simp only[zQ]);refine zT 1 hSS ?_
     (try simp only[zQ]);refine zT 2 hSS ?_;(try simp only[zQ]);refine zT 4 hSS ?_;(try simp only[zQ]);refine zT 5 hSS ?_;(try simp only[zQ]);refine zT 6 hSS ?_;(try simp only[zQ]);refine zT 7 hSS ?_;(try simp only[zQ]);refine zT 8 hSS ?_;(try simp only[zQ]);refine zT 9 hSS ?_;(try simp only[zQ]);refine zo 3 fun K hK=>?_;refine zkg (by rfl) (.func 138) [.tmp 40,.tmp 41] _ (by rfl) 138 _ zqg (by rfl) _ (by rfl) _ (znI (zoo q Aq cq (j:Int) ⟨by omega,by omega⟩ _ _ (HD.out _ (ag.out.chg.trans (Chg.of_below (zka av.out hdr)))).2.2.2.1 yP.out (by omega))) ?_;rintro vq w2 ⟨Ac,cc,rfl,hrc,hcc,aj⟩;have b2:=zka hdr aj;have aW:=eu.out _ b2;refine hK.out _ _ aW ?_;clear hK K hSS;(try simp only[zQ]);refine zo 10 fun K hK=>?_
     refine zkg (by rfl) (.func 139) [.tmp 45,.tmp 46,.tmp 47,.tmp 48] _ (by rfl) 139 _ zoI (by rfl) _ (by rfl) _ (znA (znC p (.nd 50 tn ts ks) j hlt vs A c _ _ _ _ _ _ (HD.out _ (ag.out.chg.trans (Chg.of_below (zka av.out b2)))).1 (HD.out _ (ag.out.chg.trans (Chg.of_below (zka av.out b2)))).2.1 (HD.out _ (ag.out.chg.trans (Chg.of_below (zka av.out b2)))).2.2.1 sU.out)) ?_;rintro vq w3 ⟨rfl,bF⟩;simp only[T.k_nd,T.s_nd,T.ks_nd];have b3:=zka b2 bF;have eB:=eu.out _ b3;refine hK.out _ _ eB ?_;clear hK K aW;(try simp only[zQ]);refine zo 11 fun K hK=>?_;have hcl:cntA p.prs ts ks.length 0 (ks.take j) vs<=zk7 ks:=Nat.le_trans (zpd _ _ _ _ _ _) (zlG _ _);have hF:=ag.out.fs.later (zka av.out b3);have hR:=bC.out.keep _ _ _ _ ag.out.rd ag.out.fs (Chg.of_below (zka av.out b3))
     refine zlr (by rfl) (.tmp 39) [.tmp 42,.tmp 44,.tmp 49] _ (by rfl) f fn hfn cap (by rfl) _ (by rfl) _ (zml (bC.out.call _ pv' _ (q++[(j:Int)]) Ac cc u.s _ w3 hR hF (hrc.later bF) (by simp;omega) (by omega))) ?_;rintro vq W6 hp;obtain⟨jw,bV⟩:=ag.out.step bC.out (zka av.out b3) hp;have bU:VsI Rd n0 fb Wb pw (N+one1 E0+cntA p.prs ts ks.length 0 (ks.take (j+1)) vs) W6 jw:=by rw[zpK p.prs ts ks.length vs hlt];simpa[Nat.add_assoc] using bV
     have az:(fun w':World=>((w'.cell? ⟨W.heap.size,0,none⟩=some (.slice A1 L1 c1)/\w'.cell? ⟨W.heap.size,1,none⟩=some (.slice A2 L2 c2)/\w'.cell? ⟨W.heap.size,2,none⟩=some (.int .u8 k)/\w'.cell? ⟨W.heap.size,3,none⟩=some (.int .i64 n)/\w'.cell? ⟨W.heap.size,4,none⟩=some (.string s)/\w'.cell? ⟨W.heap.size,5,none⟩=some (.slice A3 l3 c3))/\(w'.cell? ⟨W.heap.size+1,0,none⟩=some (.int .u8 50)/\w'.cell? ⟨W.heap.size+1,1,none⟩=some (.int .i64 tn)/\w'.cell? ⟨W.heap.size+1,2,none⟩=some (.string ts)/\w'.cell? ⟨W.heap.size+1,3,none⟩=some (.slice (some a) ks.length tc)))/\(w'.cell? ⟨wr.heap.size,0,none⟩=some (.int .u8 u.k)/\w'.cell? ⟨wr.heap.size,1,none⟩=some (.int .i64 u.n)/\w'.cell? ⟨wr.heap.size,2,none⟩=some (.string u.s)/\w'.cell? ⟨wr.heap.size,3,none⟩=some (.slice A4 u.ks.length c4))) W6/\(fun _:World=>True) W6:=⟨⟨pQ.out _ bU.chg,box4 ((hp.2.elim fun _ h=>h.2.2.block _ (by have:=(zka av.out b3).size;have:=b3.size;have:=gK.out;omega) (fun hh=>by have hl:=ag.out.fs.lt;rcases hh with hh|hh;(have:=hl.1;omega);(have:=(hl.2 _ hh).2;omega))).trans ((b3.block _ (by have:=gK.out;omega)).trans iU.out))⟩,trivial⟩
     refine hK.out _ _ az ?_;clear hK K eB;(try simp only[zQ]);refine zd ?_;refine NoPanic.normal ?_;have kT:=zh bU;clear bU bV hp az hF hR;go_wp2_with fail
     go_roundw
     case rel=>exact⟨j+1,_,by omega,by go_num,kT.out⟩
     case measure=>simp[intOf];omega
    ·obtain rfl:j=ks.length:=by omega
     clear hinv;go_wp2_with fail;(try simp only[Exit.inBlock,Exit.then]);refine bodyPost_ret (results_none rfl _ _ _) rfl ?_;have hinv:=ag.out;rw[List.take_of_length_le (Nat.le_refl _)] at hinv;have hcc:=aL.out;rw[cntV,tV.out,if_pos (by decide)] at hcc;rw[<-hcc,<-Nat.add_assoc];exact hinv.rep aU.out ⟨_,rfl⟩
  ·go_wp2_with fail
   go_loopw [34] (fun i wr=>∃ (j:Nat) (pv':Value),j<=ks.length/\i=.int .i64 j/\VsI Rd n0 fb Wb pw (N+one1 E0+cntA p.prs ts ks.length 0 (ks.take j) vs) wr pv') (fun i _=>ks.length-(intOf i).toNat)
   case atStart=>exact⟨0,_,Nat.zero_le _,rfl,by simpa[cntA] using HI3.out⟩
   case round =>
    obtain⟨j,pv',hj,rfl,hinv⟩:=hrel;have ag:=zh hinv;clear HI3;by_cases hlt:j<ks.length
    ·obtain⟨-,-,-,-,j3⟩:=HD.out wr hinv.chg;obtain⟨a,u,A4,c4,rfl,hsa,Hu,⟨q0,q1,q2,q3⟩,hnu⟩:=j3.nd hlt;have pE:=zh hnu;clear hinv j3 hnu hsa;go_upto_region 6 with fail;have hbk:Below wr.heap.size wr (wr.alloc (.cells #[.int .u8 u.k,.int .i64 u.n,.string u.s,.slice A4 u.ks.length c4] 29)):=zkd (Below.refl _ _) _;have fH:=heap_alloc_new wr (.cells #[.int .u8 u.k,.int .i64 u.n,.string u.s,.slice A4 u.ks.length c4] 29);obtain⟨wk,hwk⟩:∃ wk,wr.alloc (.cells #[.int .u8 u.k,.int .i64 u.n,.string u.s,.slice A4 u.ks.length c4] 29)=wk:=⟨_,rfl⟩
     rw[hwk] at hbk fH ⊢;have gK:=zh (show wk.heap.size=wr.heap.size+1 by rw[<-hwk];simp);have av:=zh hbk;have iU:=zh fH;clear hwk hbk fH
     have eu:=zh (show ∀ w':World,Below wk.heap.size wk w'->(fun w':World=>((w'.cell? ⟨W.heap.size,0,none⟩=some (.slice A1 L1 c1)/\w'.cell? ⟨W.heap.size,1,none⟩=some (.slice A2 L2 c2)/\w'.cell? ⟨W.heap.size,2,none⟩=some (.int .u8 k)/\w'.cell? ⟨W.heap.size,3,none⟩=some (.int .i64 n)/\w'.cell? ⟨W.heap.size,4,none⟩=some (.string s)/\w'.cell? ⟨W.heap.size,5,none⟩=some (.slice A3 l3 c3))/\(w'.cell? ⟨W.heap.size+1,0,none⟩=some (.int .u8 51)/\w'.cell? ⟨W.heap.size+1,1,none⟩=some (.int .i64 tn)/\w'.cell? ⟨W.heap.size+1,2,none⟩=some (.string ts)/\w'.cell? ⟨W.heap.size+1,3,none⟩=some (.slice (some a) ks.length tc)))/\(w'.cell? ⟨wr.heap.size,0,none⟩=some (.int .u8 u.k)/\w'.cell? ⟨wr.heap.size,1,none⟩=some (.int .i64 u.n)/\w'.cell? ⟨wr.heap.size,2,none⟩=some (.string u.s)/\w'.cell? ⟨wr.heap.size,3,none⟩=some (.slice A4 u.ks.length c4))) w'/\(fun _:World=>True) w' from fun w' h=>⟨⟨pQ.out w' (ag.out.chg.trans (Chg.of_below (zka av.out h))),box4 ((h.block _ (by have:=gK.out;omega)).trans iU.out)⟩,trivial⟩)
     have hdr:=(Below.refl wk.heap.size wk).drew;have hSS:=eu.out _ hdr;refine wp_region_noPanic ?_
     refine zkc (fun w':World=>((w'.cell? ⟨W.heap.size,0,none⟩=some (.slice A1 L1 c1)/\w'.cell? ⟨W.heap.size,1,none⟩=some (.slice A2 L2 c2)/\w'.cell? ⟨W.heap.size,2,none⟩=some (.int .u8 k)/\w'.cell? ⟨W.heap.size,3,none⟩=some (.int .i64 n)/\w'.cell? ⟨W.heap.size,4,none⟩=some (.string s)/\w'.cell? ⟨W.heap.size,5,none⟩=some (.slice A3 l3 c3))/\(w'.cell? ⟨W.heap.size+1,0,none⟩=some (.int .u8 51)/\w'.cell? ⟨W.heap.size+1,1,none⟩=some (.int .i64 tn)/\w'.cell? ⟨W.heap.size+1,2,none⟩=some (.string ts)/\w'.cell? ⟨W.heap.size+1,3,none⟩=some (.slice (some a) ks.length tc)))/\(w'.cell? ⟨wr.heap.size,0,none⟩=some (.int .u8 u.k)/\w'.cell? ⟨wr.heap.size,1,none⟩=some (.int .i64 u.n)/\w'.cell? ⟨wr.heap.size,2,none⟩=some (.string u.s)/\w'.cell? ⟨wr.heap.size,3,none⟩=some (.slice A4 u.ks.length c4))) (fun _:World=>True) 40 (by kernel_rfl) ?_;refine zT 0 hSS ?_;(try simp only[zQ]);refine zT 1 hSS ?_
     (try simp only[zQ]);refine zT 2 hSS ?_;(try simp only[zQ]);refine zT 4 hSS ?_;(try simp only[zQ]);refine zT 5 hSS ?_;(try simp only[zQ]);refine zT 6 hSS ?_;(try simp only[zQ]);refine zT 7 hSS ?_;(try simp only[zQ]);refine zT 8 hSS ?_;(try simp only[zQ]);refine zT 9 hSS ?_;(try simp only[zQ]);refine zo 3 fun K hK=>?_;refine zkg (by rfl) (.func 138) [.tmp 40,.tmp 41] _ (by rfl) 138 _ zqg (by rfl) _ (by rfl) _ (znI (zoo q Aq cq (j:Int) ⟨by omega,by omega⟩ _ _ (HD.out _ (ag.out.chg.trans (Chg.of_below (zka av.out hdr)))).2.2.2.1 yP.out (by omega))) ?_;rintro vq w2 ⟨Ac,cc,rfl,hrc,hcc,aj⟩;have b2:=zka hdr aj;have aW:=eu.out _ b2;refine hK.out _ _ aW ?_;clear hK K hSS;(try simp only[zQ]);refine zo 10 fun K hK=>?_
     refine zkg (by rfl) (.func 139) [.tmp 45,.tmp 46,.tmp 47,.tmp 48] _ (by rfl) 139 _ zoI (by rfl) _ (by rfl) _ (znA (znC p (.nd 51 tn ts ks) j hlt vs A c _ _ _ _ _ _ (HD.out _ (ag.out.chg.trans (Chg.of_below (zka av.out b2)))).1 (HD.out _ (ag.out.chg.trans (Chg.of_below (zka av.out b2)))).2.1 (HD.out _ (ag.out.chg.trans (Chg.of_below (zka av.out b2)))).2.2.1 sU.out)) ?_;rintro vq w3 ⟨rfl,bF⟩;simp only[T.k_nd,T.s_nd,T.ks_nd];have b3:=zka b2 bF;have eB:=eu.out _ b3;refine hK.out _ _ eB ?_;clear hK K aW;(try simp only[zQ]);refine zo 11 fun K hK=>?_;have hcl:cntA p.prs ts ks.length 0 (ks.take j) vs<=zk7 ks:=Nat.le_trans (zpd _ _ _ _ _ _) (zlG _ _);have hF:=ag.out.fs.later (zka av.out b3);have hR:=bC.out.keep _ _ _ _ ag.out.rd ag.out.fs (Chg.of_below (zka av.out b3))
     refine zlr (by rfl) (.tmp 39) [.tmp 42,.tmp 44,.tmp 49] _ (by rfl) f fn hfn cap (by rfl) _ (by rfl) _ (zml (bC.out.call _ pv' _ (q++[(j:Int)]) Ac cc u.s _ w3 hR hF (hrc.later bF) (by simp;omega) (by omega))) ?_;rintro vq W6 hp;obtain⟨jw,bV⟩:=ag.out.step bC.out (zka av.out b3) hp;have bU:VsI Rd n0 fb Wb pw (N+one1 E0+cntA p.prs ts ks.length 0 (ks.take (j+1)) vs) W6 jw:=by rw[zpK p.prs ts ks.length vs hlt];simpa[Nat.add_assoc] using bV
     have az:(fun w':World=>((w'.cell? ⟨W.heap.size,0,none⟩=some (.slice A1 L1 c1)/\w'.cell? ⟨W.heap.size,1,none⟩=some (.slice A2 L2 c2)/\w'.cell? ⟨W.heap.size,2,none⟩=some (.int .u8 k)/\w'.cell? ⟨W.heap.size,3,none⟩=some (.int .i64 n)/\w'.cell? ⟨W.heap.size,4,none⟩=some (.string s)/\w'.cell? ⟨W.heap.size,5,none⟩=some (.slice A3 l3 c3))/\(w'.cell? ⟨W.heap.size+1,0,none⟩=some (.int .u8 51)/\w'.cell? ⟨W.heap.size+1,1,none⟩=some (.int .i64 tn)/\w'.cell? ⟨W.heap.size+1,2,none⟩=some (.string ts)/\w'.cell? ⟨W.heap.size+1,3,none⟩=some (.slice (some a) ks.length tc)))/\(w'.cell? ⟨wr.heap.size,0,none⟩=some (.int .u8 u.k)/\w'.cell? ⟨wr.heap.size,1,none⟩=some (.int .i64 u.n)/\w'.cell? ⟨wr.heap.size,2,none⟩=some (.string u.s)/\w'.cell? ⟨wr.heap.size,3,none⟩=some (.slice A4 u.ks.length c4))) W6/\(fun _:World=>True) W6:=⟨⟨pQ.out _ bU.chg,box4 ((hp.2.elim fun _ h=>h.2.2.block _ (by have:=(zka av.out b3).size;have:=b3.size;have:=gK.out;omega) (fun hh=>by have hl:=ag.out.fs.lt;rcases hh with hh|hh;(have:=hl.1;omega);(have:=(hl.2 _ hh).2;omega))).trans ((b3.block _ (by have:=gK.out;omega)).trans iU.out))⟩,trivial⟩
     refine hK.out _ _ az ?_;clear hK K eB;(try simp only[zQ]);refine zd ?_;refine NoPanic.normal ?_;have kT:=zh bU;clear bU bV hp az hF hR;go_wp2_with fail
     go_roundw
     case rel=>exact⟨j+1,_,by omega,by go_num,kT.out⟩
     case measure=>simp[intOf];omega
    ·obtain rfl:j=ks.length:=by omega
     clear hinv;go_wp2_with fail;(try simp only[Exit.inBlock,Exit.then]);refine bodyPost_ret (results_none rfl _ _ _) rfl ?_;have hinv:=ag.out;rw[List.take_of_length_le (Nat.le_refl _)] at hinv;have hcc:=aL.out;rw[cntV,tV.out,if_pos (by decide)] at hcc;rw[<-hcc,<-Nat.add_assoc];exact hinv.rep aU.out ⟨_,rfl⟩
 ·obtain⟨h50,lF⟩:=not_or.1 hcall;have hd50:(tk==50)=false:=beq_false_of_ne h50;have hd51:(tk==51)=false:=beq_false_of_ne lF;go_wp2_with fail
  go_loopw [55] (fun i wr=>∃ (j:Nat) (pv':Value),j<=ks.length/\i=.int .i64 j/\VsI Rd n0 fb Wb pw (N+one1 E0+cntK p.prs tk ts 0 (ks.take j) vs) wr pv') (fun i _=>ks.length-(intOf i).toNat)
  case atStart=>exact⟨0,_,Nat.zero_le _,rfl,by simpa[cntK] using HI3.out⟩
  case round =>
   obtain⟨j,pv',hj,rfl,hinv⟩:=hrel;have ag:=zh hinv;clear HI3;by_cases hlt:j<ks.length
   ·obtain⟨-,-,-,-,j3⟩:=HD.out wr hinv.chg;obtain⟨a,u,A4,c4,rfl,hsa,Hu,⟨q0,q1,q2,q3⟩,hnu⟩:=j3.nd hlt;have pE:=zh hnu;clear hinv j3 hnu hsa;go_upto_region 11 with fail;have hbk:Below wr.heap.size wr (wr.alloc (.cells #[.int .u8 u.k,.int .i64 u.n,.string u.s,.slice A4 u.ks.length c4] 29)):=zkd (Below.refl _ _) _;have fH:=heap_alloc_new wr (.cells #[.int .u8 u.k,.int .i64 u.n,.string u.s,.slice A4 u.ks.length c4] 29);obtain⟨wk,hwk⟩:∃ wk,wr.alloc (.cells #[.int .u8 u.k,.int .i64 u.n,.string u.s,.slice A4 u.ks.length c4] 29)=wk:=⟨_,rfl⟩
    rw[hwk] at hbk fH ⊢;have gK:=zh (show wk.heap.size=wr.heap.size+1 by rw[<-hwk];simp);have av:=zh hbk;have iU:=zh fH;clear hwk hbk fH
    have eu:=zh (show ∀ w':World,Below wk.heap.size wk w'->(fun w':World=>((w'.cell? ⟨W.heap.size,0,none⟩=some (.slice A1 L1 c1)/\w'.cell? ⟨W.heap.size,1,none⟩=some (.slice A2 L2 c2)/\w'.cell? ⟨W.heap.size,2,none⟩=some (.int .u8 k)/\w'.cell? ⟨W.heap.size,3,none⟩=some (.int .i64 n)/\w'.cell? ⟨W.heap.size,4,none⟩=some (.string s)/\w'.cell? ⟨W.heap.size,5,none⟩=some (.slice A3 l3 c3))/\(w'.cell? ⟨W.heap.size+1,0,none⟩=some (.int .u8 tk)/\w'.cell? ⟨W.heap.size+1,1,none⟩=some (.int .i64 tn)/\w'.cell? ⟨W.heap.size+1,2,none⟩=some (.string ts)/\w'.cell? ⟨W.heap.size+1,3,none⟩=some (.slice (some a) ks.length tc)))/\(w'.cell? ⟨wr.heap.size,0,none⟩=some (.int .u8 u.k)/\w'.cell? ⟨wr.heap.size,1,none⟩=some (.int .i64 u.n)/\w'.cell? ⟨wr.heap.size,2,none⟩=some (.string u.s)/\w'.cell? ⟨wr.heap.size,3,none⟩=some (.slice A4 u.ks.length c4))) w'/\(fun _:World=>True) w' from fun w' h=>⟨⟨pQ.out w' (ag.out.chg.trans (Chg.of_below (zka av.out h))),box4 ((h.block _ (by have:=gK.out;omega)).trans iU.out)⟩,trivial⟩)
    have hdr:=(Below.refl wk.heap.size wk).drew;have hSS:=eu.out _ hdr;refine wp_region_noPanic ?_
    refine zkc (fun w':World=>((w'.cell? ⟨W.heap.size,0,none⟩=some (.slice A1 L1 c1)/\w'.cell? ⟨W.heap.size,1,none⟩=some (.slice A2 L2 c2)/\w'.cell? ⟨W.heap.size,2,none⟩=some (.int .u8 k)/\w'.cell? ⟨W.heap.size,3,none⟩=some (.int .i64 n)/\w'.cell? ⟨W.heap.size,4,none⟩=some (.string s)/\w'.cell? ⟨W.heap.size,5,none⟩=some (.slice A3 l3 c3))/\(w'.cell? ⟨W.heap.size+1,0,none⟩=some (.int .u8 tk)/\w'.cell? ⟨W.heap.size+1,1,none⟩=some (.int .i64 tn)/\w'.cell? ⟨W.heap.size+1,2,none⟩=some (.string ts)/\w'.cell? ⟨W.heap.size+1,3,none⟩=some (.slice (some a) ks.length tc)))/\(w'.cell? ⟨wr.heap.size,0,none⟩=some (.int .u8 u.k)/\w'.cell? ⟨wr.heap.size,1,none⟩=some (.int .i64 u.n)/\w'.cell? ⟨wr.heap.size,2,none⟩=some (.string u.s)/\w'.cell? ⟨wr.heap.size,3,none⟩=some (.slice A4 u.ks.length c4))) (fun _:World=>True) 40 (by kernel_rfl) ?_;refine zT 0 hSS ?_;(try simp only[zQ]);refine zT 1 hSS ?_
    (try simp only[zQ]);refine zT 2 hSS ?_;(try simp only[zQ]);refine zT 3 hSS ?_;(try simp only[zQ]);refine zT 5 hSS ?_;(try simp only[zQ]);refine zT 6 hSS ?_;(try simp only[zQ]);refine zT 7 hSS ?_;(try simp only[zQ]);refine zT 9 hSS ?_;(try simp only[zQ]);refine zo 4 fun K hK=>?_;refine zkg (by rfl) (.func 138) [.tmp 62,.tmp 63] _ (by rfl) 138 _ zqg (by rfl) _ (by rfl) _ (znI (zoo q Aq cq (j:Int) ⟨by omega,by omega⟩ _ _ (HD.out _ (ag.out.chg.trans (Chg.of_below (zka av.out hdr)))).2.2.2.1 yP.out (by omega))) ?_;rintro vq w2 ⟨Ac,cc,rfl,hrc,hcc,aj⟩;have b2:=zka hdr aj;have aW:=eu.out _ b2;refine hK.out _ _ aW ?_;clear hK K hSS;(try simp only[zQ]);refine zo 8 fun K hK=>?_
    refine zkg (by rfl) (.func 140) [.tmp 65,.tmp 66,.tmp 67] _ (by rfl) 140 _ zwk (by rfl) _ (by rfl) _ (zsb (zsL (.nd tk tn ts ks) j (by omega) vs A c _ _ _ _ (HD.out _ (ag.out.chg.trans (Chg.of_below (zka av.out b2)))).2.1 (HD.out _ (ag.out.chg.trans (Chg.of_below (zka av.out b2)))).2.2.1 ni.out (by omega))) ?_;simp only[T.k_nd,T.s_nd,T.ks_nd];rintro vq w3 ⟨Av,cv,rfl,il,hcv,bF⟩;have b3:=zka b2 bF;have eB:=eu.out _ b3;refine hK.out _ _ eB ?_;clear hK K aW;(try simp only[zQ]);refine zo 10 fun K hK=>?_;have hcl:cntK p.prs tk ts 0 (ks.take j) vs<=zk7 (ks.take j):=zqk _ _ _ _ (fun t _ vs=>ztd _ t vs) _ _;have hsz:=zlG ks (j+1);rw[zrq ks j hlt,Hu.out] at hsz;have hmem:u∈ks:=by rw[<-Hu.out];exact List.getElem_mem hlt
    have hdu:=zvJ hmem;have hil:=zrB tk ts j vs;have hzb:=ag.out.chg.size;have hz0:=oZ.out;have hzk:=gK.out;have hfl:=ag.out.fs.lt;have hF:=ag.out.fs.later (zka av.out b3);have hR:=bC.out.keep _ _ _ _ ag.out.rd ag.out.fs (Chg.of_below (zka av.out b3));have hzz:=hdr.size;have wW:=aj.size;have hzw2:=b2.size
    refine zkg (by rfl) (.func 95) [.tmp 60,.tmp 61,.tmp 64,.tmp 68,.tmp 69] _ (by rfl) 95 _ zwe (by rfl) _ (by rfl) _ (zml (wK.out u hmem (fun b=>(S b/\b<W.heap.size)\/wk.heap.size<=b) (zmp tk ts j vs) Av cv (q++[(j:Int)]) Ac cc (N+one1 E0+cntK p.prs tk ts 0 (ks.take j) vs) pv' w3 _ _ hR hF ((HD.out _ (ag.out.chg.trans (Chg.of_below (zka av.out b3)))).1.keep (fun b hb _=>.inl hb) (fun _ _ _=>rfl)) ((pE.out.later (zka av.out b3)).keep (fun b hb _=>.inl hb) (fun _ _ _=>rfl)) (il.mono fun b hb=>by rcases hb with hb|hb;exact .inl hb;exact .inr (by omega)) hcv ((hrc.later bF).mono fun b hb=>.inr (by have:_<=b:=hb;omega)) hcc (fun b hb hlt' hh=>?_) (by simp;omega) (by omega) (by omega))) ?_
    ·rcases hb with⟨hb,hbl⟩|hb
     ·refine HFAR.out b hb hbl (hh.imp id fun h=>?_);rcases ag.out.own b h with h1|h1
      ·exact h1
      ·omega
     ·rcases hh with rfl|hh
      ·omega
      ·have:=hfl.2 b hh;omega
    rintro vq W6 hp;obtain⟨jw,bV⟩:=ag.out.step bC.out (zka av.out b3) hp;have bU:VsI Rd n0 fb Wb pw (N+one1 E0+cntK p.prs tk ts 0 (ks.take (j+1)) vs) W6 jw:=by rw[zte p.prs tk ts vs hlt,Hu.out];simpa[Nat.add_assoc] using bV
    have az:(fun w':World=>((w'.cell? ⟨W.heap.size,0,none⟩=some (.slice A1 L1 c1)/\w'.cell? ⟨W.heap.size,1,none⟩=some (.slice A2 L2 c2)/\w'.cell? ⟨W.heap.size,2,none⟩=some (.int .u8 k)/\w'.cell? ⟨W.heap.size,3,none⟩=some (.int .i64 n)/\w'.cell? ⟨W.heap.size,4,none⟩=some (.string s)/\w'.cell? ⟨W.heap.size,5,none⟩=some (.slice A3 l3 c3))/\(w'.cell? ⟨W.heap.size+1,0,none⟩=some (.int .u8 tk)/\w'.cell? ⟨W.heap.size+1,1,none⟩=some (.int .i64 tn)/\w'.cell? ⟨W.heap.size+1,2,none⟩=some (.string ts)/\w'.cell? ⟨W.heap.size+1,3,none⟩=some (.slice (some a) ks.length tc)))/\(w'.cell? ⟨wr.heap.size,0,none⟩=some (.int .u8 u.k)/\w'.cell? ⟨wr.heap.size,1,none⟩=some (.int .i64 u.n)/\w'.cell? ⟨wr.heap.size,2,none⟩=some (.string u.s)/\w'.cell? ⟨wr.heap.size,3,none⟩=some (.slice A4 u.ks.length c4))) W6/\(fun _:World=>True) W6:=⟨⟨pQ.out _ bU.chg,box4 ((hp.2.elim fun _ h=>h.2.2.block _ (by have:=(zka av.out b3).size;have:=b3.size;have:=gK.out;omega) (fun hh=>by have hl:=ag.out.fs.lt;rcases hh with hh|hh;(have:=hl.1;omega);(have:=(hl.2 _ hh).2;omega))).trans ((b3.block _ (by have:=gK.out;omega)).trans iU.out))⟩,trivial⟩
    refine hK.out _ _ az ?_;clear hK K eB;(try simp only[zQ]);refine zd ?_;refine NoPanic.normal ?_;have kT:=zh bU;clear bU bV hp az hF hR;go_wp2_with fail
    go_roundw
    case rel=>exact⟨j+1,_,by omega,by go_num,kT.out⟩
    case measure=>simp[intOf];omega
   ·obtain rfl:j=ks.length:=by omega
    clear hinv;go_wp2_with fail;go_end0;have hinv:=ag.out;rw[List.take_of_length_le (Nat.le_refl _)] at hinv;have hcc:=aL.out;rw[cntV,tV.out,if_neg hcall] at hcc;rw[<-hcc,<-Nat.add_assoc];exact hinv.rep aU.out ⟨_,rfl⟩
theorem zwc (k n:Int) (s:ByteArray) (ks:List T):isB (.nd k n s ks)=true↔k=57/\zkq n s=true/\∀ t∈ks,isS t=true:=by
 rw[isB];simp only[Bool.and_eq_true,decide_eq_true_eq,and_assoc];refine and_congr Iff.rfl (and_congr Iff.rfl ?_);rw[zo5 0,zkL]
 constructor
 ·intro h t ht;obtain⟨q,hq,rfl⟩:=List.getElem_of_mem ht;exact h q hq
 ·intro h q hq;exact h _ (List.getElem_mem hq)
theorem zxH {t:T} (h:isB t=true):t.k=57:=by cases t;exact((zwc _ _ _ _).1 h).1
theorem zmo {x:T}:∀ {l:List T},x∈pos l↔∃ t∈l,x∈po t
 | []=>by simp[pos]
 | t::ts=>by simp[pos,zmo (l:=ts)]
theorem zsE:∀ (ks:List T),(∀ t∈ks,∀ d l,lim t d l=if dep t<=d/\size t<=l then some (l-size t) else none)->∀ d l,lims ks d l=if deps ks<=d/\zk7 ks<=l then some (l-zk7 ks) else none
 | [],_,d,l=>by simp[lims,deps,zk7]
 | t::ts,h,d,l=>by
  have e1:deps (t::ts)=max (dep t) (deps ts):=by rw[deps]
  have e2:zk7 (t::ts)=size t+zk7 ts:=by rw[zk7]
  rw[lims,h t (by simp) d l];by_cases h1:dep t<=d/\size t<=l
  ·rw[if_pos h1];simp only;rw[zsE ts (fun u hu=>h u (by simp[hu])) d (l-size t)];by_cases h2:deps ts<=d/\zk7 ts<=l-size t
   ·rw[if_pos h2,if_pos ⟨by omega,by omega⟩];congr 1;omega
   ·rw[if_neg h2,if_neg (by omega)]
  ·rw[if_neg h1];simp only;rw[if_neg (by omega)]
theorem zwZ (t:T):∀ d l,lim t d l=if dep t<=d/\size t<=l then some (l-size t) else none:=by
 induction t using T.ind with
 | _ k n s ks ih =>
 intro d l;have e1:dep (.nd k n s ks)=1+deps ks:=by rw[dep]
 have e2:size (.nd k n s ks)=1+zk7 ks:=by rw[size]
 rw[lim];by_cases h:d=0\/l=0
 ·rw[if_pos h,if_neg (by omega)]
 ·rw[if_neg h,zsE ks ih];by_cases h2:deps ks<=d-1/\zk7 ks<=l-1
  ·rw[if_pos h2,if_pos ⟨by omega,by omega⟩];congr 1;omega
  ·rw[if_neg h2,if_neg (by omega)]
theorem zuB {k n:Int} {s:ByteArray} {ks:List T} (h:isE (.nd k n s ks)=true):∀ t∈ks,isE t=true:=by
 have key:isEs ks=true->∀ t∈ks,isE t=true:=by
  intro h t ht;rw[zns 0,zkL] at h;obtain⟨i,hi,rfl⟩:=List.getElem_of_mem ht;exact h i hi
 have nil:decide (ks.length=0)=true->∀ t∈ks,isE t=true:=by
  intro h t ht;have:ks=[]:=by simpa using h
  rw[this] at ht;cases ht
 rw[isE] at h
 split at h
 ·simp only[Bool.and_eq_true] at h;exact nil h.2
 split at h
 ·simp only[Bool.and_eq_true] at h;exact nil h.2
 split at h
 ·simp only[Bool.and_eq_true] at h;exact key h.2.2
 split at h
 ·simp only[Bool.and_eq_true] at h;exact key h.2.2
 split at h
 ·simp only[Bool.and_eq_true] at h;exact key h.2.2
 ·cases h
theorem zuA {t:T} (h:isP t=true):isE t=true:=by unfold isP at h;simp only[Bool.and_eq_true] at h;exact h.2
theorem zxG {t:T} (h:isV t=true):isE t=true:=by unfold isV at h;simp only[Bool.and_eq_true] at h;exact h.2
theorem zna {m:Nat} {p:Nat->T->Bool} {ks:List T} (h:zkK m p ks=true) {t:T} (ht:t∈ks):∃ i,p i t=true:=by
 unfold zkK at h;simp only[Bool.and_eq_true] at h;have:=(zkL p 0 ks).1 h.2;obtain⟨i,hi,rfl⟩:=List.getElem_of_mem ht;exact⟨0+i,this i hi⟩
theorem zo6 {d:Nat} {ks:List T} (h:isEB d ks=true) {t:T} (ht:t∈ks):isE t=true\/isB t=true:=by
 have h':isEB (d+0) ks=true:=h;rw[znt d 0] at h';have:=(zkL _ 0 ks).1 h';obtain⟨i,hi,rfl⟩:=List.getElem_of_mem ht;have h2:=this i hi;unfold pEB at h2
 split at h2
 ·exact .inl h2
 ·exact .inr h2
theorem zvE {k n:Int} {s:ByteArray} {ks:List T} (h:isS (.nd k n s ks)=true):k≠57/\∀ t∈ks,isE t=true\/isB t=true:=by
 rw[isS] at h
 split at h
 ·rename_i hk;simp only[Bool.and_eq_true] at h;refine⟨by omega,fun t ht=>?_⟩;obtain⟨i,hi⟩:=zna h.2 ht
  split at hi
  ·exact .inl (zuA hi)
  ·exact .inl hi
 split at h
 ·rename_i hk;simp only[Bool.and_eq_true] at h;refine⟨by omega,fun t ht=>?_⟩;obtain⟨i,hi⟩:=zna h.2 ht;exact .inl (zuA hi)
 split at h
 ·rename_i hk;simp only[Bool.and_eq_true] at h;refine⟨by omega,fun t ht=>?_⟩;obtain⟨i,hi⟩:=zna h.2 ht;exact .inl (zuA hi)
 split at h
 ·rename_i hk;simp only[Bool.and_eq_true] at h;refine⟨by omega,fun t ht=>?_⟩;obtain⟨i,hi⟩:=zna h.2 ht;exact .inl (zuA hi)
 split at h
 ·rename_i hk;simp only[Bool.and_eq_true] at h;refine⟨by omega,fun t ht=>?_⟩;have:=(zkL _ 0 ks).1 h.2;obtain⟨i,hi,rfl⟩:=List.getElem_of_mem ht;exact .inl (zxG (this i hi))
 split at h
 ·rename_i hk;simp only[Bool.and_eq_true] at h;exact⟨by omega,fun t ht=>zo6 h.2.2 ht⟩
 split at h
 ·rename_i hk;simp only[Bool.and_eq_true] at h;exact⟨by omega,fun t ht=>zo6 h.2.2 ht⟩
 split at h
 ·rename_i hk;simp only[Bool.and_eq_true] at h;exact⟨by omega,fun t ht=>zo6 h.2.2 ht⟩
 ·cases h
theorem znb {k n:Int} {s:ByteArray} {ks:List T} (h:isS (.nd k n s ks)=true) :
  ((k≠52/\k≠53/\k≠54/\k≠55/\k≠57)/\∀ t∈ks,t.k≠57) \/
  ((k=52\/k=53)/\zkq n s=true/\∃ a b c d,ks=[a,b,c,d]/\isE a=true/\isB b=true/\isB c=true/\isE d=true) \/
  (k=54/\zkC n s=true/\∃ a b c,ks=[a,b,c]/\isE a=true/\isB b=true/\isE c=true) \/
  (k=55/\zkC n s=true/\∃ b,ks=[b]/\isB b=true):=by
 have key:∀ (p:Nat->T->Bool),(∀ j t,p j t=true->t.k≠57)->zkA p 0 ks=true->∀ t∈ks,t.k≠57:=by
  intro p hp hk t ht;obtain⟨q,hq,rfl⟩:=List.getElem_of_mem ht;exact hp _ _ ((zkL p 0 ks).1 hk q hq)
 have kE:∀ t,isE t=true->t.k≠57:=fun t h1=>by have:=zuC t h1;omega
 rw[isS] at h
 repeat' split at h
 ·simp only[zkK,Bool.and_eq_true] at h;exact .inl ⟨by omega,key _ (fun j t hj=>by split at hj;exact zuz t hj;exact kE t hj) h.2.2⟩
 ·simp only[zkK,Bool.and_eq_true] at h;exact .inl ⟨by omega,key _ (fun j t=>zuz t) h.2.2⟩
 ·simp only[zkK,Bool.and_eq_true] at h;exact .inl ⟨by omega,key _ (fun j t=>zuz t) h.2.2⟩
 ·simp only[zkK,Bool.and_eq_true] at h;exact .inl ⟨by omega,key _ (fun j t=>zuz t) h.2.2⟩
 ·simp only[Bool.and_eq_true] at h;exact .inl ⟨by omega,key _ (fun j t=>zxF t) h.2⟩
 ·rename_i hk;simp only[Bool.and_eq_true,decide_eq_true_eq] at h;obtain⟨h1,h2,h3⟩:=h
  match ks,h2 with
  | [a,b,c,d],_ =>
   simp only[isEB,Bool.and_eq_true,Bool.and_true] at h3;simp at h3;exact .inr (.inl ⟨hk,h1,a,b,c,d,rfl,h3.1,h3.2.1,h3.2.2.1,h3.2.2.2⟩)
 ·rename_i hk;simp only[Bool.and_eq_true,decide_eq_true_eq] at h;obtain⟨h1,h2,h3⟩:=h
  match ks,h2 with
  | [a,b,c],_ =>
   simp only[isEB,Bool.and_eq_true,Bool.and_true] at h3;simp at h3;exact .inr (.inr (.inl ⟨hk,h1,a,b,c,rfl,h3.1,h3.2.1,h3.2.2⟩))
 ·rename_i hk;simp only[Bool.and_eq_true,decide_eq_true_eq] at h;obtain⟨h1,h2,h3⟩:=h
  match ks,h2 with
  | [b],_ =>
   simp only[isEB,Bool.and_eq_true,Bool.and_true] at h3;simp at h3;exact .inr (.inr (.inr ⟨hk,h1,b,rfl,h3⟩))
 ·cases h
section
variable {P:Program} {ops:Array Oper} {Q:Exit->Act->World->Prop} {md:Region.Mode} {S1 S2:World->Prop} {k:Nat}
theorem zvS {i j:Nat} {o o':Oper} {fuel:Nat} {listed:Array Bool} {a:Act} {w:World} (hr:Region.ready md ops listed=[i,j]) (ho:ops[i]?=some o) (ho':ops[j]?=some o')
  (h:∀ K':Act->World->Prop,Shut (∀ a w,S1 w/\S2 w->wpG P md ops Q S1 S2 k fuel (listed.setIfInBounds i true) a w->K' a w)->if Region.wanted o (yielded ops a.tmps)=true then Oper.wp P o a w K' Q else K' (a.put o.dst undef) w)
  (h':∀ K':Act->World->Prop,Shut (∀ a w,S1 w/\S2 w->wpG P md ops Q S1 S2 k fuel (listed.setIfInBounds j true) a w->K' a w)->if Region.wanted o' (yielded ops a.tmps)=true then Oper.wp P o' a w K' Q else K' (a.put o'.dst undef) w) :
  wpG P md ops Q S1 S2 k (fuel+1) listed a w:=by
 refine⟨(fun h0=>by rw[hr] at h0;cases h0),fun x hx=>?_⟩;rw[hr] at hx;simp only[List.mem_cons,List.not_mem_nil,or_false] at hx;rcases hx with rfl|rfl
 ·exact wpOp_step ho fun K' hK=>h K' fun a w hS hW=>hK a w ⟨⟨hS.1,fun _=>hS.2⟩,hW⟩
 ·exact wpOp_step ho' fun K' hK=>h' K' fun a w hS hW=>hK a w ⟨⟨hS.1,fun _=>hS.2⟩,hW⟩
end
def frsN (vs:List VD):Nat->Nat
 | 0=>0
 | j+1=>frsN vs j+(if h:j<vs.length then one1 (zmr (vs.take j) vs[j].s) else 0)
theorem znc {vs:List VD} {j:Nat} (h:j<vs.length):frsN vs (j+1)=frsN vs j+one1 (zmr (vs.take j) vs[j].s):=by simp[frsN,h]
theorem zmq (vs:List VD):∀ j,frsN vs j<=j
 | 0=>by simp[frsN]
 | j+1=>by
  have h:=zmq vs j;rw[frsN]
  split
  ·have:=zmW (zmr (vs.take j) vs[j].s);omega
  ·omega
def prcE (ps:List PR) (j:Nat) (r:PR):Nat:=one1 (if zlD ps r.s<(j:Int) then 22 else 0)+frsN r.ps r.ps.length+cntV ps r.b r.ps
def prcN (ps:List PR):Nat->Nat
 | 0=>0
 | j+1=>prcN ps j+(if h:j<ps.length then prcE ps j ps[j] else 0)
theorem zn0 {ps:List PR} {j:Nat} (h:j<ps.length):prcN ps (j+1)=prcN ps j+prcE ps j ps[j]:=by simp[prcN,h]
def chkN (p:PG):Nat:=frsN p.vs p.vs.length+prcN p.prs p.prs.length+cntV p.prs p.m p.vs
theorem zoA {t:T} (h:zlE t=true):dep t<=80/\size t<=2000:=by
 simp only[zlE,Bool.and_eq_true] at h;have h1:=h.1;rw[zwZ] at h1
 split at h1
 ·assumption
 ·simp at h1
theorem zlf {p:PG} (h:zlc p=true):p.vs.length<=32/\p.prs.length<=64/\(∀ r∈p.prs,r.ps.length<=8/\dep r.b<=80/\size r.b<=2000)/\dep p.m<=80/\size p.m<=2000:=by
 simp only[zlc,Bool.and_eq_true,decide_eq_true_eq,List.all_eq_true] at h;refine⟨h.1.1.1.1,h.1.1.1.2,fun r hr=>?_,zoA h.2⟩;have:=h.1.2 r hr;simp only[zot,Bool.and_eq_true,decide_eq_true_eq] at this;exact⟨this.1.1.2,zoA this.2⟩
theorem zp8 (ps:List PR) (h:∀ r∈ps,r.ps.length<=8/\dep r.b<=80/\size r.b<=2000):∀ j,prcN ps j<=j*2009
 | 0=>by simp[prcN]
 | j+1=>by
  have h1:=zp8 ps h j;rw[prcN]
  split
  ·rename_i hj;have h2:=h _ (List.getElem_mem hj);have h3:=zmW (if zlD ps ps[j].s<(j:Int) then 22 else 0);have h4:=zmq ps[j].ps ps[j].ps.length;have h5:=ztd ps ps[j].b ps[j].ps;unfold prcE;omega
  ·omega
theorem RowV.take {w:World} {S:Nat->Prop} {A:Option Addr} {vs:List VD} (h:RowV w S A vs) (j:Nat):RowV w S A (vs.take j):=fun i hi=>by
 have h1:i<vs.length:=by simp at hi;omega
 obtain⟨a,h2,h3,h4,h5⟩:=h i h1;exact⟨a,h2,h3,by simpa using h4,by simpa using h5⟩
theorem RowI.nil {w:World} {S:Nat->Prop} {A:Option Addr}:RowI w S A []:=fun i hi=>by simp at hi
theorem zps (w:World) (j:Int) (hj:I64 j):RowI (w.alloc (.cells #[.int .i64 j] 3)) Any (some ⟨w.heap.size,0,none⟩) [j]:=fun i hi=>by
 simp only[List.length_singleton,Nat.lt_one_iff] at hi;subst hi;exact⟨_,rfl,trivial,zlA w 3 [.int .i64 j] 0 _ rfl,hj⟩
theorem zmz (n0 fb N:Nat) (pv:Value) (pr er:Int) (q:List Int) (A:Option Addr) (c:Nat) (s:ByteArray) (S:Nat->Prop) (W:World) (hfs:FS W n0 fb N pv) (hq:RowI W S A q) (pY:q.length<=100000) (hN:N<=1000000) :
  Calls Tryz.prog 92 ([.int .i64 pr,.slice A q.length c,.string s,.int .i64 er].toArray ++ #[.pointer (some ⟨fb,0,none⟩)]) W (RepP W n0 fb pv (N+one1 er)):=by
 simpa using zmA n0 fb N pv pr er q A c s S W hfs hq pY hN
theorem VsI.chg2 {Rd:World->Prop} {n0 fb:Nat} {Wb wr wk w':World} {pv pv':Value} {N:Nat} (h:VsI Rd n0 fb Wb pv N wr pv') (hb:Below wr.heap.size wr wk) (hc:Chg (fun b=>b=fb\/pv'.ownBlock=some b) wk w'):Chg (fun b=>b=fb\/pv.ownBlock=some b) Wb w' :=
 (h.chg.trans (Chg.of_below hb)).trans2 hc fun b hlt hh=>by
  rcases hh with hh|hh
  ·exact .inl hh
  ·rcases h.own b hh with h1|h1
   ·exact .inr h1
   ·omega
theorem VsI.stepK {Rd:World->Prop} {n0 fb:Nat} {Wb wr w5 W6:World} {pv pv':Value} {N N':Nat} {e:Ending} (hk:∀ W W' pv N,Rd W->FS W n0 fb N pv->Chg (fun b=>b=fb\/pv.ownBlock=some b) W W'->Rd W') (h:VsI Rd n0 fb Wb pv N wr pv') (hb:Below wr.heap.size wr w5) (hp:RepP w5 n0 fb pv' N' e W6) :
  ∃ jE,VsI Rd n0 fb Wb pv N' W6 jE:=by
 obtain⟨_,jE,hfs,aH,hc⟩:=hp;have ru:=h.fs.later hb;have hz:=h.chg.size;have lg:=hb.size;refine⟨jE,hk w5 W6 pv' N (hk wr w5 pv' N h.rd h.fs (Chg.of_below hb)) ru hc,hfs,fun b hb'=>?_,h.chg2 hb hc⟩;rcases aH b hb' with h1|h1
 ·exact h.own b h1
 ·exact .inr (by omega)
theorem zmF (vs:List VD) (j:Nat) (hj:j<=vs.length) (A:Option Addr) (c:Nat) (s:ByteArray) (S:Nat->Prop) (w:World) (hrow:RowV w S A vs) (hl:vs.length<=LV) :
  Calls Tryz.prog 93 #[.slice A j c,.string s] w fun e w'=>e=.returned (.int .i64 (zmr (vs.take j) s))/\Below w.heap.size w w':=by
 have h:=zob (vs.take j) A c s S w (hrow.take j) (by simp;omega);rwa[show(vs.take j).length=j by simp;omega] at h
theorem zo9:IsFn Tryz.prog 93 Tryz.f93:=⟨Tryz.func93,by kernel_rfl,by kernel_rfl⟩
theorem zwi:IsFn Tryz.prog 94 Tryz.f94:=⟨Tryz.func94,by kernel_rfl,by kernel_rfl⟩
theorem zq1:IsFn Tryz.prog 92 Tryz.f92:=⟨Tryz.func92,by kernel_rfl,by kernel_rfl⟩
theorem zrR (p:PG) (S:Nat->Prop) (v:Value) (W:World) (hv:PV W S p v):Calls Tryz.prog 53 #[v] W fun e w'=>∃ A c,e=.returned (.slice A (if zlc p=true then chkN p else 0) c)/\Below W.heap.size W w':=by
 obtain⟨NN,yC⟩:∃ NN,(if zlc p=true then chkN p else 0)=NN:=⟨_,rfl⟩
 rw[yC];have dU:=zh yC;clear yC;have hvv:=hv;obtain⟨A1,c1,A2,c2,A3,c3,rfl,hr⟩:=hv;have hlv:=zlC hr.lv;have hlp:=zlC hr.lp;obtain⟨L1,hL1⟩:∃ L,p.vs.length=L:=⟨_,rfl⟩
 obtain⟨L2,hL2⟩:∃ L,p.prs.length=L:=⟨_,rfl⟩
 obtain⟨k,hk⟩:∃ k,p.m.k=k:=⟨_,rfl⟩
 obtain⟨n,hn⟩:∃ n,p.m.n=n:=⟨_,rfl⟩
 obtain⟨s,hs⟩:∃ s,p.m.s=s:=⟨_,rfl⟩
 obtain⟨l3,hl3⟩:∃ l,p.m.ks.length=l:=⟨_,rfl⟩
 rw[hL1,hL2,hk,hn,hs,hl3];rw[hL1,hL2,hk,hn,hs,hl3] at hvv;rw[hL1] at hlv;rw[hL2] at hlp;have wz:=zh hvv;have HR:=zh hr;have sZ:=zh hL1;have HL2:=zh hL2;have jg:=zh (show p.m.k=k/\p.m.n=n/\p.m.s=s/\p.m.ks.length=l3 from ⟨hk,hn,hs,hl3⟩);clear hvv hr hL1 hL2 hk hn hs hl3;go_enter Tryz.func53,Tryz.ntmps53;go_wp2_with fail;refine(zpT p S _ _ (wz.out.later (zkd (Below.refl _ _) _))).mono ?_;rintro e w1 ⟨rfl,ae⟩;have b1:Below W.heap.size W w1:=zka (zkd (Below.refl _ _) _) ae;have hp1:=(ae.block W.heap.size (by simp)).trans (heap_alloc_new W (.cells #[.slice A1 L1 c1,.slice A2 L2 c2,.int .u8 k,.int .i64 n,.string s,.slice A3 l3 c3] 35));have hz1:=ae.size;simp only[World.size_alloc] at hz1;have HB1:=zh b1;have HP1:=zh hp1;have HZ1:=zh hz1;obtain⟨a0,a1,a2,a3,a4,a5⟩:=box6 hp1;clear ae b1 hp1
 cases hvb:zlc p
 ·have hN0:NN=0:=by rw[<-dU.out,hvb];rfl
  subst hN0;go_wp2_with fail;go_ret;exact⟨none,0,rfl,HB1.out⟩
 ·have iN:=zh (zlf hvb);have HNN2:=zh (show chkN p=NN by rw[<-dU.out,hvb];rfl);clear hvb dU;go_upto_region 5 with fail;obtain⟨fb,rz⟩:∃ fb,w1.heap.size=fb:=⟨_,rfl⟩
  rw[rz];have vD:W.heap.size+1<=fb:=by omega
  have hbw:Below W.heap.size W ((w1.alloc (.cells #[.slice none 0 0] 106)).alloc (.cells #[.func (.func 92) #[] #[.pointer (some ⟨fb,0,none⟩)]] 155)):=zkd (zkd HB1.out _) _;have xm:=zkj (heap_alloc_new w1 (.cells #[.slice none 0 0] 106)) (.cells #[.func (.func 92) #[] #[.pointer (some ⟨fb,0,none⟩)]] 155);have hbR:=heap_alloc_new (w1.alloc (.cells #[.slice none 0 0] 106)) (.cells #[.func (.func 92) #[] #[.pointer (some ⟨fb,0,none⟩)]] 155);simp only[World.size_alloc] at hbR;rw[rz] at xm hbR;have qa:=zkj (zkj HP1.out (.cells #[.slice none 0 0] 106)) (.cells #[.func (.func 92) #[] #[.pointer (some ⟨fb,0,none⟩)]] 155);obtain⟨Wb,rO⟩:∃ Wb,(w1.alloc (.cells #[.slice none 0 0] 106)).alloc (.cells #[.func (.func 92) #[] #[.pointer (some ⟨fb,0,none⟩)]] 155)=Wb:=⟨_,rfl⟩
  rw[rO] at hbw xm hbR qa ⊢;have oZ:=zh (show Wb.heap.size=fb+2 by rw[<-rO,<-rz];simp);have aU:=zh hbw;have HZF:=zh vD;clear rO rz a0 a1 a2 a3 a4 a5 HP1 HZ1 HB1 hz1;have hrep:=zvt fb fb (fb+1) W.heap.size A1 L1 c1 A2 L2 c2 k n s A3 l3 c3;obtain⟨Rd,xq⟩:∃ Rd:World->Prop,(fun W':World=>W'.heap[fb+1]?=some (.cells #[.func (.func 92) #[] #[.pointer (some ⟨fb,0,none⟩)]] 155 (0,0))/\W'.heap[W.heap.size]?=some (.cells #[.slice A1 L1 c1,.slice A2 L2 c2,.int .u8 k,.int .i64 n,.string s,.slice A3 l3 c3] 35 (0,0)))=Rd:=⟨_,rfl⟩
  rw[xq] at hrep;have bC:=zh hrep;have oh:=zh (show ∀ w':World,Rd w'->w'.heap[fb+1]?=some (.cells #[.func (.func 92) #[] #[.pointer (some ⟨fb,0,none⟩)]] 155 (0,0))/\w'.heap[W.heap.size]?=some (.cells #[.slice A1 L1 c1,.slice A2 L2 c2,.int .u8 k,.int .i64 n,.string s,.slice A3 l3 c3] 35 (0,0)) from fun w' h=>by rw[<-xq] at h;exact h);have aL:=zh (show ∀ w':World,Rd w'->(fun w':World=>(w'.cell? ⟨W.heap.size,0,none⟩=some (.slice A1 L1 c1)/\w'.cell? ⟨W.heap.size,1,none⟩=some (.slice A2 L2 c2)/\w'.cell? ⟨W.heap.size,2,none⟩=some (.int .u8 k)/\w'.cell? ⟨W.heap.size,3,none⟩=some (.int .i64 n)/\w'.cell? ⟨W.heap.size,4,none⟩=some (.string s)/\w'.cell? ⟨W.heap.size,5,none⟩=some (.slice A3 l3 c3))/\(w'.cell? ⟨fb+1,0,none⟩=some (.func (.func 92) #[] #[.pointer (some ⟨fb,0,none⟩)]))) w' from fun w' h=>⟨box6 (oh.out w' h).2,zc (oh.out w' h).1 rfl⟩)
  have HI0:=zh (show VsI Rd fb fb Wb (.slice none 0 0) 0 Wb (.slice none 0 0) from ⟨by rw[<-xq];exact⟨hbR,qa⟩,⟨xm,⟨[],World.ownsRow_nil _ _ _ _⟩,Nat.le_refl _,by simp[Value.ownBlock]⟩,fun b hb=>.inl hb,Chg.refl _ _⟩);have fA:=zh (show ∀ w':World,Chg (fun b=>b=fb\/(Value.slice none 0 0).ownBlock=some b) Wb w'->∀ b,S b->b<W.heap.size->w'.heap[b]?=W.heap[b]? from fun w' h b hb hlt=>(h.block b (by have:=oZ.out;omega) (fun hh=>by rcases hh with hh|hh;omega;simp[Value.ownBlock] at hh)).trans (aU.out.block b hlt));have HD:=zh (show ∀ w':World,Chg (fun b=>b=fb\/(Value.slice none 0 0).ownBlock=some b) Wb w'->PV w' (fun b=>S b/\b<W.heap.size) p _/\PgR w' (fun b=>S b/\b<W.heap.size) p A1 c1 A2 c2 A3 c3 from fun w' h=>⟨wz.out.keep (fun b hb hlt=>⟨hb,hlt⟩) (fA.out w' h),HR.out.keep (fun b hb hlt=>⟨hb,hlt⟩) (fA.out w' h)⟩);have hl32:L1<=32:=by have:=iN.out.1;rw[sZ.out] at this;exact this
  have hl64:L2<=64:=by have:=iN.out.2.1;rw[HL2.out] at this;exact this
  have hlc1:L1<=c1:=by have:=HR.out.lvc;rw[sZ.out] at this;exact this
  have oH:L2<=c2:=by have:=HR.out.lpc;rw[HL2.out] at this;exact this
  obtain⟨⟨a0,a1,a2,a3,a4,a5⟩,ar⟩:=aL.out _ HI0.out.rd;clear hrep xq hbR qa xm hbw;go_wp2_with fail
  go_loopw [18] (fun i wr=>∃ (j:Nat) (pv':Value),j<=L1/\i=.int .i64 j/\VsI Rd fb fb Wb (.slice none 0 0) (frsN p.vs j) wr pv') (fun i _=>L1-(intOf i).toNat)
  case atStart=>exact⟨0,_,Nat.zero_le _,rfl,HI0.out⟩
  case round =>
   obtain⟨j,pv',hj,rfl,hinv⟩:=hrel;have ag:=zh hinv;clear HI0 a0 a1 a2 a3 a4 a5 ar;by_cases hlt:j<L1
   ·have iW:j<p.vs.length:=by rw[sZ.out];exact hlt
    obtain⟨a,u,rfl,hsa,Hu,⟨q0,q1,q2⟩,hfu⟩:=(HD.out wr hinv.chg).2.vars.nd iW;have hjc:(j:Int)<=(c1:Int):=by omega
    have hj0:(0:Int)<=(j:Int):=by omega
    obtain⟨⟨a0,a1,a2,a3,a4,a5⟩,ar⟩:=aL.out _ hinv.rd;clear hinv hsa hfu;go_upto_region 8 with fail;have hbk:Below wr.heap.size wr (wr.alloc (.cells #[.string u.s,.int .u8 u.k,.int .i64 u.n] 83)):=zkd (Below.refl _ _) _;have fH:=heap_alloc_new wr (.cells #[.string u.s,.int .u8 u.k,.int .i64 u.n] 83);obtain⟨wk,hwk⟩:∃ wk,wr.alloc (.cells #[.string u.s,.int .u8 u.k,.int .i64 u.n] 83)=wk:=⟨_,rfl⟩
    rw[hwk] at hbk fH ⊢;have gK:=zh (show wk.heap.size=wr.heap.size+1 by rw[<-hwk];simp);have av:=zh hbk;have iU:=zh fH;clear hwk hbk fH a0 a1 a2 a3 a4 a5 ar q0 q1 q2;have HRW:=zh (show ∀ w':World,Below wk.heap.size wk w'->Rd w' from fun w' h=>bC.out.keep _ _ _ _ ag.out.rd ag.out.fs (Chg.of_below (zka av.out h)))
    have eu:=zh (show ∀ w':World,Below wk.heap.size wk w'->(fun w':World=>((w'.cell? ⟨W.heap.size,0,none⟩=some (.slice (some a) L1 c1)/\w'.cell? ⟨W.heap.size,1,none⟩=some (.slice A2 L2 c2)/\w'.cell? ⟨W.heap.size,2,none⟩=some (.int .u8 k)/\w'.cell? ⟨W.heap.size,3,none⟩=some (.int .i64 n)/\w'.cell? ⟨W.heap.size,4,none⟩=some (.string s)/\w'.cell? ⟨W.heap.size,5,none⟩=some (.slice A3 l3 c3))/\(w'.cell? ⟨fb+1,0,none⟩=some (.func (.func 92) #[] #[.pointer (some ⟨fb,0,none⟩)])))/\(w'.cell? ⟨wr.heap.size,0,none⟩=some (.string u.s)/\w'.cell? ⟨wr.heap.size,1,none⟩=some (.int .u8 u.k)/\w'.cell? ⟨wr.heap.size,2,none⟩=some (.int .i64 u.n))) w'/\(fun _:World=>True) w' from fun w' h=>⟨⟨aL.out _ (HRW.out w' h),box3 ((h.block _ (by have:=gK.out;omega)).trans iU.out)⟩,trivial⟩);have hdr:=(Below.refl wk.heap.size wk).drew;have hSS:=eu.out _ hdr;have hbI:=zpf;have hN:=zmq p.vs j
    refine wp_region_noPanic ?_;refine zkc (fun w':World=>((w'.cell? ⟨W.heap.size,0,none⟩=some (.slice (some a) L1 c1)/\w'.cell? ⟨W.heap.size,1,none⟩=some (.slice A2 L2 c2)/\w'.cell? ⟨W.heap.size,2,none⟩=some (.int .u8 k)/\w'.cell? ⟨W.heap.size,3,none⟩=some (.int .i64 n)/\w'.cell? ⟨W.heap.size,4,none⟩=some (.string s)/\w'.cell? ⟨W.heap.size,5,none⟩=some (.slice A3 l3 c3))/\(w'.cell? ⟨fb+1,0,none⟩=some (.func (.func 92) #[] #[.pointer (some ⟨fb,0,none⟩)])))/\(w'.cell? ⟨wr.heap.size,0,none⟩=some (.string u.s)/\w'.cell? ⟨wr.heap.size,1,none⟩=some (.int .u8 u.k)/\w'.cell? ⟨wr.heap.size,2,none⟩=some (.int .i64 u.n))) (fun _:World=>True) 40 (by kernel_rfl) ?_;refine zT 0 hSS ?_;(try simp only[zQ]);refine zT 1 hSS ?_;(try simp only[zQ]);refine zT 3 hSS ?_;(try simp only[zQ]);refine zT 4 hSS ?_;(try simp only[zQ]);refine zT 5 hSS ?_;(try simp only[zQ]);refine zT 6 hSS ?_
    (try simp only[zQ]);refine zT 7 hSS ?_;(try simp only[zQ]);refine zT 8 hSS ?_;(try simp only[zQ]);refine zT 9 hSS ?_;(try simp only[zQ]);refine zT 10 hSS ?_;(try simp only[zQ]);refine zvS (i:=2) (j:=11) (by kernel_rfl) rfl rfl (fun K hK=>?_) (fun K hK=>?_)
    ·(try simp only[zA,zB,zC]);go_simp;have b2:=zkd hdr (.cells #[.int .i64 (j:Int)] 3);refine hK.out _ _ (eu.out _ b2) ?_;clear hK K;(try simp only[zQ]);refine zo 11 fun K hK=>?_;refine zkg (by rfl) (.func 93) [.tmp 31,.tmp 33] _ (by rfl) 93 _ zo9 (by rfl) _ (by rfl) _ (znA (zmF p.vs j (by omega) (some a) c1 u.s _ _ (HD.out _ (ag.out.chg.trans (Chg.of_below (zka av.out b2)))).2.vars HR.out.lv)) ?_;rintro vq w3 ⟨rfl,bF⟩;have b3:=zka b2 bF;refine hK.out _ _ (eu.out _ b3) ?_;clear hK K;(try simp only[zQ]);refine zo 12 fun K hK=>?_
     refine zlr (by rfl) (.tmp 23) [.const (.int .i64 (-1)),.tmp 25,.tmp 27,.tmp 34] _ (by rfl) 92 _ zq1 #[.pointer (some ⟨fb,0,none⟩)] (by rfl) _ (by rfl) _ (zml (zmz fb fb _ pv' (-1) _ [(j:Int)] (some ⟨wk.heap.size,0,none⟩) 1 u.s _ _ (ag.out.fs.later (zka av.out b3)) (((zps _ (j:Int) ⟨by omega,by omega⟩).later (Below.refl _ _).drew).later bF) (by simp) (by omega))) ?_;rintro vq W6 hp;obtain⟨jw,bV⟩:=ag.out.step bC.out (zka av.out b3) hp;have bU:VsI Rd fb fb Wb (.slice none 0 0) (frsN p.vs (j+1)) W6 jw:=by rw[znc iW,Hu.out];exact bV
     have az:(fun w':World=>((w'.cell? ⟨W.heap.size,0,none⟩=some (.slice (some a) L1 c1)/\w'.cell? ⟨W.heap.size,1,none⟩=some (.slice A2 L2 c2)/\w'.cell? ⟨W.heap.size,2,none⟩=some (.int .u8 k)/\w'.cell? ⟨W.heap.size,3,none⟩=some (.int .i64 n)/\w'.cell? ⟨W.heap.size,4,none⟩=some (.string s)/\w'.cell? ⟨W.heap.size,5,none⟩=some (.slice A3 l3 c3))/\(w'.cell? ⟨fb+1,0,none⟩=some (.func (.func 92) #[] #[.pointer (some ⟨fb,0,none⟩)])))/\(w'.cell? ⟨wr.heap.size,0,none⟩=some (.string u.s)/\w'.cell? ⟨wr.heap.size,1,none⟩=some (.int .u8 u.k)/\w'.cell? ⟨wr.heap.size,2,none⟩=some (.int .i64 u.n))) W6/\(fun _:World=>True) W6:=⟨⟨aL.out _ bU.rd,box3 ((hp.2.elim fun _ h=>h.2.2.block _ (by have:=(zka av.out b3).size;have:=(b3).size;have:=gK.out;omega) (fun hh=>by have hl:=ag.out.fs.lt;rcases hh with hh|hh;(have:=hl.1;omega);(have:=(hl.2 _ hh).2;omega))).trans (((b3).block _ (by have:=gK.out;omega)).trans iU.out))⟩,trivial⟩
     refine hK.out _ _ az ?_;clear hK K;(try simp only[zQ]);refine zd ?_;refine NoPanic.normal ?_;have kT:=zh bU;clear bU bV hp az;go_wp2_with fail
     go_roundw
     case rel=>exact⟨j+1,_,by omega,by go_num,kT.out⟩
     case measure=>simp[intOf];omega
    ·skip
     refine zkg (by rfl) (.func 93) [.tmp 31,.tmp 33] _ (by rfl) 93 _ zo9 (by rfl) _ (by rfl) _ (znA (zmF p.vs j (by omega) (some a) c1 u.s _ _ (HD.out _ (ag.out.chg.trans (Chg.of_below (zka av.out hdr)))).2.vars HR.out.lv)) ?_;rintro vq w2 ⟨rfl,aj⟩;have b2:=zka hdr aj;refine hK.out _ _ (eu.out _ b2) ?_;clear hK K;(try simp only[zQ]);refine zo 2 fun K hK=>?_;(try simp only[zA,zB,zC]);go_simp;have b3:=zkd b2 (.cells #[.int .i64 (j:Int)] 3);refine hK.out _ _ (eu.out _ b3) ?_;clear hK K;(try simp only[zQ]);refine zo 12 fun K hK=>?_
     refine zlr (by rfl) (.tmp 23) [.const (.int .i64 (-1)),.tmp 25,.tmp 27,.tmp 34] _ (by rfl) 92 _ zq1 #[.pointer (some ⟨fb,0,none⟩)] (by rfl) _ (by rfl) _ (zml (zmz fb fb _ pv' (-1) _ [(j:Int)] (some ⟨w2.heap.size,0,none⟩) 1 u.s _ _ (ag.out.fs.later (zka av.out b3)) (zps _ (j:Int) ⟨by omega,by omega⟩) (by simp) (by omega))) ?_;rintro vq W6 hp;obtain⟨jw,bV⟩:=ag.out.step bC.out (zka av.out b3) hp;have bU:VsI Rd fb fb Wb (.slice none 0 0) (frsN p.vs (j+1)) W6 jw:=by rw[znc iW,Hu.out];exact bV
     have az:(fun w':World=>((w'.cell? ⟨W.heap.size,0,none⟩=some (.slice (some a) L1 c1)/\w'.cell? ⟨W.heap.size,1,none⟩=some (.slice A2 L2 c2)/\w'.cell? ⟨W.heap.size,2,none⟩=some (.int .u8 k)/\w'.cell? ⟨W.heap.size,3,none⟩=some (.int .i64 n)/\w'.cell? ⟨W.heap.size,4,none⟩=some (.string s)/\w'.cell? ⟨W.heap.size,5,none⟩=some (.slice A3 l3 c3))/\(w'.cell? ⟨fb+1,0,none⟩=some (.func (.func 92) #[] #[.pointer (some ⟨fb,0,none⟩)])))/\(w'.cell? ⟨wr.heap.size,0,none⟩=some (.string u.s)/\w'.cell? ⟨wr.heap.size,1,none⟩=some (.int .u8 u.k)/\w'.cell? ⟨wr.heap.size,2,none⟩=some (.int .i64 u.n))) W6/\(fun _:World=>True) W6:=⟨⟨aL.out _ bU.rd,box3 ((hp.2.elim fun _ h=>h.2.2.block _ (by have:=(zka av.out b3).size;have:=(b3).size;have:=gK.out;omega) (fun hh=>by have hl:=ag.out.fs.lt;rcases hh with hh|hh;(have:=hl.1;omega);(have:=(hl.2 _ hh).2;omega))).trans (((b3).block _ (by have:=gK.out;omega)).trans iU.out))⟩,trivial⟩
     refine hK.out _ _ az ?_;clear hK K;(try simp only[zQ]);refine zd ?_;refine NoPanic.normal ?_;have kT:=zh bU;clear bU bV hp az;go_wp2_with fail
     go_roundw
     case rel=>exact⟨j+1,_,by omega,by go_num,kT.out⟩
     case measure=>simp[intOf];omega
   ·obtain rfl:L1=j:=by omega
    have uX:=zh (show VsI Rd fb fb Wb (.slice none 0 0) (frsN p.vs p.vs.length) wr pv' by rw[sZ.out];exact ag.out);obtain⟨⟨a0,a1,a2,a3,a4,a5⟩,ar⟩:=aL.out _ hinv.rd;obtain⟨F1,hF1⟩:∃ F,frsN p.vs p.vs.length=F:=⟨_,rfl⟩
    have hF32:F1<=32:=by have:=zmq p.vs p.vs.length;have:=iN.out.1;omega
    have xR:=zh hF1;rw[hF1] at uX;clear hinv ag hF1 hj hlt;go_wp2_with fail
    go_loopw [40] (fun i wr=>∃ (j:Nat) (pv':Value),j<=L2/\i=.int .i64 j/\VsI Rd fb fb Wb (.slice none 0 0) (F1+prcN p.prs j) wr pv') (fun i _=>L2-(intOf i).toNat)
    case atStart=>exact⟨0,_,Nat.zero_le _,rfl,uX.out⟩
    case round =>
     clear uX a0 a1 a2 a3 a4 a5 ar;obtain⟨j,pv',hj,rfl,hinv⟩:=hrel;obtain⟨w0,rfl⟩:∃ w0,w0=wr:=⟨_,rfl⟩
     have ag:=zh hinv;by_cases hlt:j<L2
     ·have iW:j<p.prs.length:=by rw[HL2.out];exact hlt
      obtain⟨a,r,P1,d1,P2,d2,rfl,hsa,Hr,⟨q0,q1,q2,q3,q4,q5⟩,hpr⟩:=(HD.out w0 hinv.chg).2.procs.nd iW;obtain⟨⟨a0,a1,a2,a3,a4,a5⟩,ar⟩:=aL.out _ hinv.rd;have gu:=zh hpr;clear hinv hsa hpr;go_upto_region 13 with fail;have hbk:Below w0.heap.size w0 ((w0.alloc (.cells #[.int .i64 (j:Int)] 3)).alloc (.cells #[.string r.s,.slice P1 r.ps.length d1,.int .u8 r.b.k,.int .i64 r.b.n,.string r.b.s,.slice P2 r.b.ks.length d2] 103)):=zkd (zkd (Below.refl _ _) _) _;have rH:=zkj (heap_alloc_new w0 (.cells #[.int .i64 (j:Int)] 3)) (.cells #[.string r.s,.slice P1 r.ps.length d1,.int .u8 r.b.k,.int .i64 r.b.n,.string r.b.s,.slice P2 r.b.ks.length d2] 103);have oP:=heap_alloc_new (w0.alloc (.cells #[.int .i64 (j:Int)] 3)) (.cells #[.string r.s,.slice P1 r.ps.length d1,.int .u8 r.b.k,.int .i64 r.b.n,.string r.b.s,.slice P2 r.b.ks.length d2] 103);simp only[World.size_alloc] at oP
      obtain⟨wk,hwk⟩:∃ wk,(w0.alloc (.cells #[.int .i64 (j:Int)] 3)).alloc (.cells #[.string r.s,.slice P1 r.ps.length d1,.int .u8 r.b.k,.int .i64 r.b.n,.string r.b.s,.slice P2 r.b.ks.length d2] 103)=wk:=⟨_,rfl⟩
      rw[hwk] at hbk rH oP ⊢;have gK:=zh (show wk.heap.size=w0.heap.size+2 by rw[<-hwk];simp);have av:=zh hbk;obtain⟨jN,oV⟩:∃ jN:World->Prop,(fun W':World=>(Rd W'/\W'.heap[w0.heap.size]?=some (.cells #[.int .i64 (j:Int)] 3 (0,0)))/\W'.heap[w0.heap.size+1]?=some (.cells #[.string r.s,.slice P1 r.ps.length d1,.int .u8 r.b.k,.int .i64 r.b.n,.string r.b.s,.slice P2 r.b.ks.length d2] 103 (0,0)))=jN:=⟨_,rfl⟩
      have jO:=zh (show ∀ w':World,jN w'->(fun W':World=>(Rd W'/\W'.heap[w0.heap.size]?=some (.cells #[.int .i64 (j:Int)] 3 (0,0)))/\W'.heap[w0.heap.size+1]?=some (.cells #[.string r.s,.slice P1 r.ps.length d1,.int .u8 r.b.k,.int .i64 r.b.n,.string r.b.s,.slice P2 r.b.ks.length d2] 103 (0,0))) w' from fun w' h=>by rw[<-oV] at h;exact h);have bW:=zh (show ∀ (W W':World) (pv:Value) (N:Nat),jN W->FS W fb fb N pv->Chg (fun b=>b=fb\/pv.ownBlock=some b) W W'->jN W' from fun W W' pv N h hfs hc=>by rw[<-oV] at h ⊢;exact⟨⟨bC.out.keep _ _ _ _ h.1.1 hfs hc,hc.keep h.1.2 (hfs.other h.1.2 (by decide) (by decide))⟩,hc.keep h.2 (hfs.other h.2 (by decide) (by decide))⟩);have HI2:=zh (show VsI jN fb fb wk pv' (F1+prcN p.prs j) wk pv' from ⟨by rw[<-oV];exact⟨⟨bC.out.keep _ _ _ _ ag.out.rd ag.out.fs (Chg.of_below hbk),rH⟩,oP⟩,ag.out.fs.later hbk,fun b hb=>.inl hb,Chg.refl _ _⟩)
      have jq:=zh (show ∀ w':World,jN w'->(fun w':World=>((w'.cell? ⟨W.heap.size,0,none⟩=some (.slice A1 L1 c1)/\w'.cell? ⟨W.heap.size,1,none⟩=some (.slice (some a) L2 c2)/\w'.cell? ⟨W.heap.size,2,none⟩=some (.int .u8 k)/\w'.cell? ⟨W.heap.size,3,none⟩=some (.int .i64 n)/\w'.cell? ⟨W.heap.size,4,none⟩=some (.string s)/\w'.cell? ⟨W.heap.size,5,none⟩=some (.slice A3 l3 c3))/\(w'.cell? ⟨fb+1,0,none⟩=some (.func (.func 92) #[] #[.pointer (some ⟨fb,0,none⟩)])))/\(w'.cell? ⟨w0.heap.size,0,none⟩=some (.int .i64 (j:Int)))/\(w'.cell? ⟨w0.heap.size+1,0,none⟩=some (.string r.s)/\w'.cell? ⟨w0.heap.size+1,1,none⟩=some (.slice P1 r.ps.length d1)/\w'.cell? ⟨w0.heap.size+1,2,none⟩=some (.int .u8 r.b.k)/\w'.cell? ⟨w0.heap.size+1,3,none⟩=some (.int .i64 r.b.n)/\w'.cell? ⟨w0.heap.size+1,4,none⟩=some (.string r.b.s)/\w'.cell? ⟨w0.heap.size+1,5,none⟩=some (.slice P2 r.b.ks.length d2))) w' from fun w' h=>⟨aL.out w' (jO.out w' h).1.1,zc (jO.out w' h).1.2 rfl,box6 (jO.out w' h).2⟩)
      have HD2:=zh (show ∀ w':World,Chg (fun b=>b=fb\/pv'.ownBlock=some b) wk w'->PV w' (fun b=>S b/\b<W.heap.size) p _/\PrR w' (fun b=>S b/\b<W.heap.size) r P1 d1 P2 d2 from fun w' h=>⟨(HD.out w' (ag.out.chg2 av.out h)).1,gu.out.keep (fun b hb _=>hb) fun b hb _=>(fA.out w' (ag.out.chg2 av.out h) b hb.1 hb.2).trans (fA.out w0 ag.out.chg b hb.1 hb.2).symm⟩)
      have eu:=zh (show ∀ w':World,Below wk.heap.size wk w'->(fun w':World=>((w'.cell? ⟨W.heap.size,0,none⟩=some (.slice A1 L1 c1)/\w'.cell? ⟨W.heap.size,1,none⟩=some (.slice (some a) L2 c2)/\w'.cell? ⟨W.heap.size,2,none⟩=some (.int .u8 k)/\w'.cell? ⟨W.heap.size,3,none⟩=some (.int .i64 n)/\w'.cell? ⟨W.heap.size,4,none⟩=some (.string s)/\w'.cell? ⟨W.heap.size,5,none⟩=some (.slice A3 l3 c3))/\(w'.cell? ⟨fb+1,0,none⟩=some (.func (.func 92) #[] #[.pointer (some ⟨fb,0,none⟩)])))/\(w'.cell? ⟨w0.heap.size,0,none⟩=some (.int .i64 (j:Int)))/\(w'.cell? ⟨w0.heap.size+1,0,none⟩=some (.string r.s)/\w'.cell? ⟨w0.heap.size+1,1,none⟩=some (.slice P1 r.ps.length d1)/\w'.cell? ⟨w0.heap.size+1,2,none⟩=some (.int .u8 r.b.k)/\w'.cell? ⟨w0.heap.size+1,3,none⟩=some (.int .i64 r.b.n)/\w'.cell? ⟨w0.heap.size+1,4,none⟩=some (.string r.b.s)/\w'.cell? ⟨w0.heap.size+1,5,none⟩=some (.slice P2 r.b.ks.length d2))) w'/\(fun _:World=>True) w' from fun w' h=>⟨jq.out w' (bW.out _ _ _ _ HI2.out.rd HI2.out.fs (Chg.of_below h)),trivial⟩)
      clear hwk hbk rH oP oV a0 a1 a2 a3 a4 a5 ar q0 q1 q2 q3 q4 q5;have hdr:=(Below.refl wk.heap.size wk).drew;have hSS:=eu.out _ hdr;have hrb:=iN.out.2.2.1 r (by rw[<-Hr.out];exact List.getElem_mem iW);have hpN:=zp8 p.prs iN.out.2.2.1 j;obtain⟨rb1,rb2,rb3⟩:=hrb;refine wp_region_noPanic ?_
      refine zkc (fun w':World=>((w'.cell? ⟨W.heap.size,0,none⟩=some (.slice A1 L1 c1)/\w'.cell? ⟨W.heap.size,1,none⟩=some (.slice (some a) L2 c2)/\w'.cell? ⟨W.heap.size,2,none⟩=some (.int .u8 k)/\w'.cell? ⟨W.heap.size,3,none⟩=some (.int .i64 n)/\w'.cell? ⟨W.heap.size,4,none⟩=some (.string s)/\w'.cell? ⟨W.heap.size,5,none⟩=some (.slice A3 l3 c3))/\(w'.cell? ⟨fb+1,0,none⟩=some (.func (.func 92) #[] #[.pointer (some ⟨fb,0,none⟩)])))/\(w'.cell? ⟨w0.heap.size,0,none⟩=some (.int .i64 (j:Int)))/\(w'.cell? ⟨w0.heap.size+1,0,none⟩=some (.string r.s)/\w'.cell? ⟨w0.heap.size+1,1,none⟩=some (.slice P1 r.ps.length d1)/\w'.cell? ⟨w0.heap.size+1,2,none⟩=some (.int .u8 r.b.k)/\w'.cell? ⟨w0.heap.size+1,3,none⟩=some (.int .i64 r.b.n)/\w'.cell? ⟨w0.heap.size+1,4,none⟩=some (.string r.b.s)/\w'.cell? ⟨w0.heap.size+1,5,none⟩=some (.slice P2 r.b.ks.length d2))) (fun _:World=>True) 40 (by kernel_rfl) ?_
      refine zT 0 hSS ?_;(try simp only[zQ]);refine zT 1 hSS ?_;(try simp only[zQ]);refine zT 2 hSS ?_;(try simp only[zQ]);refine zT 4 hSS ?_;(try simp only[zQ]);refine zo 3 fun K hK=>?_;refine zkg (by rfl) (.func 94) [.tmp 45,.tmp 47] _ (by rfl) 94 _ zwi (by rfl) _ (by rfl) _ (znA (zmN p _ _ r.s _ (HD2.out _ (Chg.of_below hdr)).1)) ?_;rintro vq w2 ⟨rfl,aj⟩;have b2:=zka hdr aj;have aW:=eu.out _ b2;obtain⟨PE,yB⟩:∃ PE,zlD p.prs r.s=PE:=⟨_,rfl⟩
      rw[yB];have HPE:=zh yB;refine hK.out _ _ aW ?_;clear hK K hSS yB;(try simp only[zQ]);have tL:=zh (show VsI jN fb fb wk pv' (F1+prcN p.prs j) w2 pv' from ⟨bW.out _ _ _ _ HI2.out.rd HI2.out.fs (Chg.of_below b2),HI2.out.fs.later b2,fun b hb=>.inl hb,Chg.of_below b2⟩);by_cases hpe:PE<(j:Int)
      ·have hd:decide (PE<(j:Int))=true:=decide_eq_true hpe;obtain⟨E1,hE1⟩:∃ E1,one1 (22)=E1:=⟨_,rfl⟩
       have hE2:E1<=1:=by rw[<-hE1];exact zmW _
       have ed:=zh (show one1 (if zlD p.prs r.s<(j:Int) then 22 else 0)=E1 by rw[HPE.out,if_pos hpe];exact hE1);refine zT 5 aW ?_;(try simp only[zQ]);refine zd ?_;refine NoPanic.normal ?_;obtain⟨⟨⟨a0,a1,a2,a3,a4,a5⟩,ar⟩,ai,r0,r1,r2,r3,r4,r5⟩:=aW.1;clear aW;go_wp2_with fail;refine(zmA fb fb _ pv' (j:Int) 22 [] none 0 r.s Any w2 tL.out.fs RowI.nil (by simp) (by omega)).mono ?_;rintro e w3 hp;obtain⟨v3,rfl⟩:=hp.1;obtain⟨pv3,hi3⟩:=tL.out.stepK bW.out (Below.refl _ _) hp;rw[hE1] at hi3;have HI3:=zh hi3;clear hp a0 a1 a2 a3 a4 a5 ar ai r0 r1 r2 r3 r4 r5;obtain⟨⟨⟨a0,a1,a2,a3,a4,a5⟩,ar⟩,ai,r0,r1,r2,r3,r4,r5⟩:=jq.out _ hi3.rd;clear hi3 hE1;go_wp2_with fail
       go_loopw [59] (fun x w'=>∃ (i:Nat) (lT:Value),i<=r.ps.length/\x=.int .i64 i/\VsI jN fb fb wk pv' (F1+prcN p.prs j+E1+frsN r.ps i) w' lT) (fun x _=>r.ps.length-(intOf x).toNat)
       case atStart=>exact⟨0,_,Nat.zero_le _,rfl,HI3.out⟩
       case round =>
        clear HI3 a0 a1 a2 a3 a4 a5 ar ai r0 r1 r2 r3 r4 r5;obtain⟨i,lT,hi,rfl,hinv⟩:=hrel;have bS:=zh hinv;by_cases vN:i<r.ps.length
        ·obtain⟨a',u,rfl,hsa,Hu,⟨q0,q1,q2⟩,hfu⟩:=(HD2.out wr hinv.chg).2.row.nd vN;have hic:(i:Int)<=(d1:Int):=by have:=gu.out.lc;omega
         have hi0:(0:Int)<=(i:Int):=by omega
         obtain⟨⟨⟨a0,a1,a2,a3,a4,a5⟩,ar⟩,ai,r0,r1,r2,r3,r4,r5⟩:=jq.out _ hinv.rd;clear hinv hsa hfu;go_upto_region 18 with fail;have hbk:Below wr.heap.size wr (wr.alloc (.cells #[.string u.s,.int .u8 u.k,.int .i64 u.n] 83)):=zkd (Below.refl _ _) _;have fH:=heap_alloc_new wr (.cells #[.string u.s,.int .u8 u.k,.int .i64 u.n] 83);obtain⟨wv,hwv⟩:∃ wv,wr.alloc (.cells #[.string u.s,.int .u8 u.k,.int .i64 u.n] 83)=wv:=⟨_,rfl⟩
         rw[hwv] at hbk fH ⊢;have rV:=zh (show wv.heap.size=wr.heap.size+1 by rw[<-hwv];simp);have nK:=zh hbk;have iU:=zh fH;clear hwv hbk fH a0 a1 a2 a3 a4 a5 ar ai r0 r1 r2 r3 r4 r5 q0 q1 q2
         have pO:=zh (show ∀ w':World,Below wv.heap.size wv w'->(fun w':World=>(fun w':World=>((w'.cell? ⟨W.heap.size,0,none⟩=some (.slice A1 L1 c1)/\w'.cell? ⟨W.heap.size,1,none⟩=some (.slice (some a) L2 c2)/\w'.cell? ⟨W.heap.size,2,none⟩=some (.int .u8 k)/\w'.cell? ⟨W.heap.size,3,none⟩=some (.int .i64 n)/\w'.cell? ⟨W.heap.size,4,none⟩=some (.string s)/\w'.cell? ⟨W.heap.size,5,none⟩=some (.slice A3 l3 c3))/\(w'.cell? ⟨fb+1,0,none⟩=some (.func (.func 92) #[] #[.pointer (some ⟨fb,0,none⟩)])))/\(w'.cell? ⟨w0.heap.size,0,none⟩=some (.int .i64 (j:Int)))/\(w'.cell? ⟨w0.heap.size+1,0,none⟩=some (.string r.s)/\w'.cell? ⟨w0.heap.size+1,1,none⟩=some (.slice (some a') r.ps.length d1)/\w'.cell? ⟨w0.heap.size+1,2,none⟩=some (.int .u8 r.b.k)/\w'.cell? ⟨w0.heap.size+1,3,none⟩=some (.int .i64 r.b.n)/\w'.cell? ⟨w0.heap.size+1,4,none⟩=some (.string r.b.s)/\w'.cell? ⟨w0.heap.size+1,5,none⟩=some (.slice P2 r.b.ks.length d2))) w'/\(w'.cell? ⟨wr.heap.size,0,none⟩=some (.string u.s)/\w'.cell? ⟨wr.heap.size,1,none⟩=some (.int .u8 u.k)/\w'.cell? ⟨wr.heap.size,2,none⟩=some (.int .i64 u.n))) w'/\(fun _:World=>True) w' from fun w' h=>⟨⟨jq.out _ (bW.out _ _ _ _ bS.out.rd bS.out.fs (Chg.of_below (zka nK.out h))),box3 ((h.block _ (by have:=rV.out;omega)).trans iU.out)⟩,trivial⟩)
         have hdv:=(Below.refl wv.heap.size wv).drew;have hSS:=pO.out _ hdv;have yu:=zmq r.ps i;refine wp_region_noPanic ?_
         refine zkc (fun w':World=>(fun w':World=>((w'.cell? ⟨W.heap.size,0,none⟩=some (.slice A1 L1 c1)/\w'.cell? ⟨W.heap.size,1,none⟩=some (.slice (some a) L2 c2)/\w'.cell? ⟨W.heap.size,2,none⟩=some (.int .u8 k)/\w'.cell? ⟨W.heap.size,3,none⟩=some (.int .i64 n)/\w'.cell? ⟨W.heap.size,4,none⟩=some (.string s)/\w'.cell? ⟨W.heap.size,5,none⟩=some (.slice A3 l3 c3))/\(w'.cell? ⟨fb+1,0,none⟩=some (.func (.func 92) #[] #[.pointer (some ⟨fb,0,none⟩)])))/\(w'.cell? ⟨w0.heap.size,0,none⟩=some (.int .i64 (j:Int)))/\(w'.cell? ⟨w0.heap.size+1,0,none⟩=some (.string r.s)/\w'.cell? ⟨w0.heap.size+1,1,none⟩=some (.slice (some a') r.ps.length d1)/\w'.cell? ⟨w0.heap.size+1,2,none⟩=some (.int .u8 r.b.k)/\w'.cell? ⟨w0.heap.size+1,3,none⟩=some (.int .i64 r.b.n)/\w'.cell? ⟨w0.heap.size+1,4,none⟩=some (.string r.b.s)/\w'.cell? ⟨w0.heap.size+1,5,none⟩=some (.slice P2 r.b.ks.length d2))) w'/\(w'.cell? ⟨wr.heap.size,0,none⟩=some (.string u.s)/\w'.cell? ⟨wr.heap.size,1,none⟩=some (.int .u8 u.k)/\w'.cell? ⟨wr.heap.size,2,none⟩=some (.int .i64 u.n))) (fun _:World=>True) 40 (by kernel_rfl) ?_
         refine zT 0 hSS ?_;(try simp only[zQ]);refine zT 1 hSS ?_;(try simp only[zQ]);refine zT 2 hSS ?_;(try simp only[zQ]);refine zT 3 hSS ?_;(try simp only[zQ]);refine zT 4 hSS ?_;(try simp only[zQ]);refine zT 5 hSS ?_;(try simp only[zQ]);refine zT 6 hSS ?_;(try simp only[zQ]);refine zT 7 hSS ?_;(try simp only[zQ]);refine zT 8 hSS ?_;(try simp only[zQ]);refine zT 9 hSS ?_;(try simp only[zQ]);refine zo 10 fun K hK=>?_;refine zkg (by rfl) (.func 93) [.tmp 71,.tmp 73] _ (by rfl) 93 _ zo9 (by rfl) _ (by rfl) _ (znA (zmF r.ps i (by omega) (some a') d1 u.s _ _ (HD2.out _ (bS.out.chg.trans (Chg.of_below (zka nK.out hdv)))).2.row gu.out.lp)) ?_;rintro vq w5 ⟨rfl,gT⟩;have b5:=zka hdv gT;refine hK.out _ _ (pO.out _ b5) ?_;clear hK K hSS;(try simp only[zQ]);refine zo 11 fun K hK=>?_
         refine zlr (by rfl) (.tmp 64) [.tmp 65,.const (.slice none 0 0),.tmp 67,.tmp 74] _ (by rfl) 92 _ zq1 #[.pointer (some ⟨fb,0,none⟩)] (by rfl) _ (by rfl) _ (zml (zmz fb fb _ lT (j:Int) _ [] none 0 u.s Any _ (bS.out.fs.later (zka nK.out b5)) RowI.nil (by simp) (by omega))) ?_;rintro vq W6 hp;obtain⟨jw,bV⟩:=bS.out.stepK bW.out (zka nK.out b5) hp;have bU:VsI jN fb fb wk pv' (F1+prcN p.prs j+E1+frsN r.ps (i+1)) W6 jw:=by rw[znc vN,Hu.out,<-Nat.add_assoc];exact bV
         have az:(fun w':World=>(fun w':World=>((w'.cell? ⟨W.heap.size,0,none⟩=some (.slice A1 L1 c1)/\w'.cell? ⟨W.heap.size,1,none⟩=some (.slice (some a) L2 c2)/\w'.cell? ⟨W.heap.size,2,none⟩=some (.int .u8 k)/\w'.cell? ⟨W.heap.size,3,none⟩=some (.int .i64 n)/\w'.cell? ⟨W.heap.size,4,none⟩=some (.string s)/\w'.cell? ⟨W.heap.size,5,none⟩=some (.slice A3 l3 c3))/\(w'.cell? ⟨fb+1,0,none⟩=some (.func (.func 92) #[] #[.pointer (some ⟨fb,0,none⟩)])))/\(w'.cell? ⟨w0.heap.size,0,none⟩=some (.int .i64 (j:Int)))/\(w'.cell? ⟨w0.heap.size+1,0,none⟩=some (.string r.s)/\w'.cell? ⟨w0.heap.size+1,1,none⟩=some (.slice (some a') r.ps.length d1)/\w'.cell? ⟨w0.heap.size+1,2,none⟩=some (.int .u8 r.b.k)/\w'.cell? ⟨w0.heap.size+1,3,none⟩=some (.int .i64 r.b.n)/\w'.cell? ⟨w0.heap.size+1,4,none⟩=some (.string r.b.s)/\w'.cell? ⟨w0.heap.size+1,5,none⟩=some (.slice P2 r.b.ks.length d2))) w'/\(w'.cell? ⟨wr.heap.size,0,none⟩=some (.string u.s)/\w'.cell? ⟨wr.heap.size,1,none⟩=some (.int .u8 u.k)/\w'.cell? ⟨wr.heap.size,2,none⟩=some (.int .i64 u.n))) W6/\(fun _:World=>True) W6:=⟨⟨jq.out _ bU.rd,box3 ((hp.2.elim fun _ h=>h.2.2.block _ (by have:=(zka nK.out b5).size;have:=b5.size;have:=rV.out;omega) (fun hh=>by have hl:=bS.out.fs.lt;rcases hh with hh|hh;(have:=hl.1;omega);(have:=(hl.2 _ hh).2;omega))).trans ((b5.block _ (by have:=rV.out;omega)).trans iU.out))⟩,trivial⟩
         refine hK.out _ _ az ?_;clear hK K;(try simp only[zQ]);refine zd ?_;refine NoPanic.normal ?_;have kT:=zh bU;clear bU bV hp az;go_wp2_with fail
         go_roundw
         case rel=>exact⟨i+1,_,by omega,by go_num,kT.out⟩
         case measure=>simp[intOf];omega
        ·have hil:i=r.ps.length:=by omega
         obtain⟨⟨⟨a0,a1,a2,a3,a4,a5⟩,ar⟩,ai,r0,r1,r2,r3,r4,r5⟩:=jq.out _ hinv.rd;have hge:¬ ((i:Int)<(r.ps.length:Int)):=by omega
         clear hinv;go_wp2_with fail;have yu:=zmq r.ps r.ps.length;have aN:=zh (show VsI jN fb fb wk pv' (F1+prcN p.prs j+E1+frsN r.ps r.ps.length) wr lT by rw[<-hil];exact bS.out);have wW:=bS.out.chg.size;have hzk:=gK.out;have hz0:=ag.out.chg.size;have hzb:=oZ.out;refine(znq 96 _ _ fb fb (zrg fb fb (fb+1) w0.heap.size (j:Int)) p r.b (fun b=>S b/\b<W.heap.size) r.ps P1 d1 [] none 0 (F1+prcN p.prs j+E1+frsN r.ps r.ps.length) lT wr _ _ ⟨(oh.out _ (jO.out _ aN.out.rd).1.1).1,(jO.out _ aN.out.rd).1.2⟩ aN.out.fs (HD2.out _ aN.out.chg).1 (HD2.out _ aN.out.chg).2.body (HD2.out _ aN.out.chg).2.row gu.out.lc RowI.nil (Nat.zero_le _) (fun b hb hbl hh=>?_) (by simp;omega) (by omega) (by omega)).mono ?_
         ·rcases hh with hh|hh
          ·have:=hb.2;omega
          ·rcases aN.out.own b hh with h1|h1
           ·have:=(ag.out.fs.lt.2 b h1).1;have:=hb.2;omega
           ·have:=hb.2;omega
         rintro e W6 hp;obtain⟨v6,rfl⟩:=hp.1;obtain⟨jw,bV⟩:=aN.out.stepK bW.out (Below.refl _ _) hp;obtain⟨xZ,bU⟩:=ag.out.step bC.out av.out (bV.rep (Below.refl _ _) (e:=.returned undef) ⟨_,rfl⟩);have zi:=zh (show VsI Rd fb fb Wb (.slice none 0 0) (F1+prcN p.prs (j+1)) W6 xZ by rw[zn0 iW,Hr.out,prcE,ed.out];simpa only[Nat.add_assoc] using bU);clear bU bV hp a0 a1 a2 a3 a4 a5 ar ai r0 r1 r2 r3 r4 r5;go_wp2_with fail
         go_roundw
         case rel=>exact⟨j+1,_,by omega,by go_num,zi.out⟩
         case measure=>simp[intOf];omega
      ·have hd:decide (PE<(j:Int))=false:=decide_eq_false hpe;obtain⟨E1,hE1⟩:∃ E1,one1 (0)=E1:=⟨_,rfl⟩
       have hE2:E1<=1:=by rw[<-hE1];exact zmW _
       have ed:=zh (show one1 (if zlD p.prs r.s<(j:Int) then 22 else 0)=E1 by rw[HPE.out,if_neg hpe];exact hE1);refine zT 5 aW ?_;(try simp only[zQ]);refine zd ?_;refine NoPanic.normal ?_;obtain⟨⟨⟨a0,a1,a2,a3,a4,a5⟩,ar⟩,ai,r0,r1,r2,r3,r4,r5⟩:=aW.1;clear aW;go_wp2_with fail;have HI3:=zh (show VsI jN fb fb wk pv' (F1+prcN p.prs j+E1) w2 pv' by rw[<-hE1];exact tL.out);clear hE1
       go_loopw [59] (fun x w'=>∃ (i:Nat) (lT:Value),i<=r.ps.length/\x=.int .i64 i/\VsI jN fb fb wk pv' (F1+prcN p.prs j+E1+frsN r.ps i) w' lT) (fun x _=>r.ps.length-(intOf x).toNat)
       case atStart=>exact⟨0,_,Nat.zero_le _,rfl,HI3.out⟩
       case round =>
        clear HI3 a0 a1 a2 a3 a4 a5 ar ai r0 r1 r2 r3 r4 r5;obtain⟨i,lT,hi,rfl,hinv⟩:=hrel;have bS:=zh hinv;by_cases vN:i<r.ps.length
        ·obtain⟨a',u,rfl,hsa,Hu,⟨q0,q1,q2⟩,hfu⟩:=(HD2.out wr hinv.chg).2.row.nd vN;have hic:(i:Int)<=(d1:Int):=by have:=gu.out.lc;omega
         have hi0:(0:Int)<=(i:Int):=by omega
         obtain⟨⟨⟨a0,a1,a2,a3,a4,a5⟩,ar⟩,ai,r0,r1,r2,r3,r4,r5⟩:=jq.out _ hinv.rd;clear hinv hsa hfu;go_upto_region 18 with fail;have hbk:Below wr.heap.size wr (wr.alloc (.cells #[.string u.s,.int .u8 u.k,.int .i64 u.n] 83)):=zkd (Below.refl _ _) _;have fH:=heap_alloc_new wr (.cells #[.string u.s,.int .u8 u.k,.int .i64 u.n] 83);obtain⟨wv,hwv⟩:∃ wv,wr.alloc (.cells #[.string u.s,.int .u8 u.k,.int .i64 u.n] 83)=wv:=⟨_,rfl⟩
         rw[hwv] at hbk fH ⊢;have rV:=zh (show wv.heap.size=wr.heap.size+1 by rw[<-hwv];simp);have nK:=zh hbk;have iU:=zh fH;clear hwv hbk fH a0 a1 a2 a3 a4 a5 ar ai r0 r1 r2 r3 r4 r5 q0 q1 q2
         have pO:=zh (show ∀ w':World,Below wv.heap.size wv w'->(fun w':World=>(fun w':World=>((w'.cell? ⟨W.heap.size,0,none⟩=some (.slice A1 L1 c1)/\w'.cell? ⟨W.heap.size,1,none⟩=some (.slice (some a) L2 c2)/\w'.cell? ⟨W.heap.size,2,none⟩=some (.int .u8 k)/\w'.cell? ⟨W.heap.size,3,none⟩=some (.int .i64 n)/\w'.cell? ⟨W.heap.size,4,none⟩=some (.string s)/\w'.cell? ⟨W.heap.size,5,none⟩=some (.slice A3 l3 c3))/\(w'.cell? ⟨fb+1,0,none⟩=some (.func (.func 92) #[] #[.pointer (some ⟨fb,0,none⟩)])))/\(w'.cell? ⟨w0.heap.size,0,none⟩=some (.int .i64 (j:Int)))/\(w'.cell? ⟨w0.heap.size+1,0,none⟩=some (.string r.s)/\w'.cell? ⟨w0.heap.size+1,1,none⟩=some (.slice (some a') r.ps.length d1)/\w'.cell? ⟨w0.heap.size+1,2,none⟩=some (.int .u8 r.b.k)/\w'.cell? ⟨w0.heap.size+1,3,none⟩=some (.int .i64 r.b.n)/\w'.cell? ⟨w0.heap.size+1,4,none⟩=some (.string r.b.s)/\w'.cell? ⟨w0.heap.size+1,5,none⟩=some (.slice P2 r.b.ks.length d2))) w'/\(w'.cell? ⟨wr.heap.size,0,none⟩=some (.string u.s)/\w'.cell? ⟨wr.heap.size,1,none⟩=some (.int .u8 u.k)/\w'.cell? ⟨wr.heap.size,2,none⟩=some (.int .i64 u.n))) w'/\(fun _:World=>True) w' from fun w' h=>⟨⟨jq.out _ (bW.out _ _ _ _ bS.out.rd bS.out.fs (Chg.of_below (zka nK.out h))),box3 ((h.block _ (by have:=rV.out;omega)).trans iU.out)⟩,trivial⟩)
         have hdv:=(Below.refl wv.heap.size wv).drew;have hSS:=pO.out _ hdv;have yu:=zmq r.ps i;refine wp_region_noPanic ?_
         refine zkc (fun w':World=>(fun w':World=>((w'.cell? ⟨W.heap.size,0,none⟩=some (.slice A1 L1 c1)/\w'.cell? ⟨W.heap.size,1,none⟩=some (.slice (some a) L2 c2)/\w'.cell? ⟨W.heap.size,2,none⟩=some (.int .u8 k)/\w'.cell? ⟨W.heap.size,3,none⟩=some (.int .i64 n)/\w'.cell? ⟨W.heap.size,4,none⟩=some (.string s)/\w'.cell? ⟨W.heap.size,5,none⟩=some (.slice A3 l3 c3))/\(w'.cell? ⟨fb+1,0,none⟩=some (.func (.func 92) #[] #[.pointer (some ⟨fb,0,none⟩)])))/\(w'.cell? ⟨w0.heap.size,0,none⟩=some (.int .i64 (j:Int)))/\(w'.cell? ⟨w0.heap.size+1,0,none⟩=some (.string r.s)/\w'.cell? ⟨w0.heap.size+1,1,none⟩=some (.slice (some a') r.ps.length d1)/\w'.cell? ⟨w0.heap.size+1,2,none⟩=some (.int .u8 r.b.k)/\w'.cell? ⟨w0.heap.size+1,3,none⟩=some (.int .i64 r.b.n)/\w'.cell? ⟨w0.heap.size+1,4,none⟩=some (.string r.b.s)/\w'.cell? ⟨w0.heap.size+1,5,none⟩=some (.slice P2 r.b.ks.length d2))) w'/\(w'.cell? ⟨wr.heap.size,0,none⟩=some (.string u.s)/\w'.cell? ⟨wr.heap.size,1,none⟩=some (.int .u8 u.k)/\w'.cell? ⟨wr.heap.size,2,none⟩=some (.int .i64 u.n))) (fun _:World=>True) 40 (by kernel_rfl) ?_
         refine zT 0 hSS ?_;(try simp only[zQ]);refine zT 1 hSS ?_;(try simp only[zQ]);refine zT 2 hSS ?_;(try simp only[zQ]);refine zT 3 hSS ?_;(try simp only[zQ]);refine zT 4 hSS ?_;(try simp only[zQ]);refine zT 5 hSS ?_;(try simp only[zQ]);refine zT 6 hSS ?_;(try simp only[zQ]);refine zT 7 hSS ?_;(try simp only[zQ]);refine zT 8 hSS ?_;(try simp only[zQ]);refine zT 9 hSS ?_;(try simp only[zQ]);refine zo 10 fun K hK=>?_;refine zkg (by rfl) (.func 93) [.tmp 71,.tmp 73] _ (by rfl) 93 _ zo9 (by rfl) _ (by rfl) _ (znA (zmF r.ps i (by omega) (some a') d1 u.s _ _ (HD2.out _ (bS.out.chg.trans (Chg.of_below (zka nK.out hdv)))).2.row gu.out.lp)) ?_;rintro vq w5 ⟨rfl,gT⟩;have b5:=zka hdv gT;refine hK.out _ _ (pO.out _ b5) ?_;clear hK K hSS;(try simp only[zQ]);refine zo 11 fun K hK=>?_
         refine zlr (by rfl) (.tmp 64) [.tmp 65,.const (.slice none 0 0),.tmp 67,.tmp 74] _ (by rfl) 92 _ zq1 #[.pointer (some ⟨fb,0,none⟩)] (by rfl) _ (by rfl) _ (zml (zmz fb fb _ lT (j:Int) _ [] none 0 u.s Any _ (bS.out.fs.later (zka nK.out b5)) RowI.nil (by simp) (by omega))) ?_;rintro vq W6 hp;obtain⟨jw,bV⟩:=bS.out.stepK bW.out (zka nK.out b5) hp;have bU:VsI jN fb fb wk pv' (F1+prcN p.prs j+E1+frsN r.ps (i+1)) W6 jw:=by rw[znc vN,Hu.out,<-Nat.add_assoc];exact bV
         have az:(fun w':World=>(fun w':World=>((w'.cell? ⟨W.heap.size,0,none⟩=some (.slice A1 L1 c1)/\w'.cell? ⟨W.heap.size,1,none⟩=some (.slice (some a) L2 c2)/\w'.cell? ⟨W.heap.size,2,none⟩=some (.int .u8 k)/\w'.cell? ⟨W.heap.size,3,none⟩=some (.int .i64 n)/\w'.cell? ⟨W.heap.size,4,none⟩=some (.string s)/\w'.cell? ⟨W.heap.size,5,none⟩=some (.slice A3 l3 c3))/\(w'.cell? ⟨fb+1,0,none⟩=some (.func (.func 92) #[] #[.pointer (some ⟨fb,0,none⟩)])))/\(w'.cell? ⟨w0.heap.size,0,none⟩=some (.int .i64 (j:Int)))/\(w'.cell? ⟨w0.heap.size+1,0,none⟩=some (.string r.s)/\w'.cell? ⟨w0.heap.size+1,1,none⟩=some (.slice (some a') r.ps.length d1)/\w'.cell? ⟨w0.heap.size+1,2,none⟩=some (.int .u8 r.b.k)/\w'.cell? ⟨w0.heap.size+1,3,none⟩=some (.int .i64 r.b.n)/\w'.cell? ⟨w0.heap.size+1,4,none⟩=some (.string r.b.s)/\w'.cell? ⟨w0.heap.size+1,5,none⟩=some (.slice P2 r.b.ks.length d2))) w'/\(w'.cell? ⟨wr.heap.size,0,none⟩=some (.string u.s)/\w'.cell? ⟨wr.heap.size,1,none⟩=some (.int .u8 u.k)/\w'.cell? ⟨wr.heap.size,2,none⟩=some (.int .i64 u.n))) W6/\(fun _:World=>True) W6:=⟨⟨jq.out _ bU.rd,box3 ((hp.2.elim fun _ h=>h.2.2.block _ (by have:=(zka nK.out b5).size;have:=b5.size;have:=rV.out;omega) (fun hh=>by have hl:=bS.out.fs.lt;rcases hh with hh|hh;(have:=hl.1;omega);(have:=(hl.2 _ hh).2;omega))).trans ((b5.block _ (by have:=rV.out;omega)).trans iU.out))⟩,trivial⟩
         refine hK.out _ _ az ?_;clear hK K;(try simp only[zQ]);refine zd ?_;refine NoPanic.normal ?_;have kT:=zh bU;clear bU bV hp az;go_wp2_with fail
         go_roundw
         case rel=>exact⟨i+1,_,by omega,by go_num,kT.out⟩
         case measure=>simp[intOf];omega
        ·have hil:i=r.ps.length:=by omega
         obtain⟨⟨⟨a0,a1,a2,a3,a4,a5⟩,ar⟩,ai,r0,r1,r2,r3,r4,r5⟩:=jq.out _ hinv.rd;have hge:¬ ((i:Int)<(r.ps.length:Int)):=by omega
         clear hinv;go_wp2_with fail;have yu:=zmq r.ps r.ps.length;have aN:=zh (show VsI jN fb fb wk pv' (F1+prcN p.prs j+E1+frsN r.ps r.ps.length) wr lT by rw[<-hil];exact bS.out);have wW:=bS.out.chg.size;have hzk:=gK.out;have hz0:=ag.out.chg.size;have hzb:=oZ.out;refine(znq 96 _ _ fb fb (zrg fb fb (fb+1) w0.heap.size (j:Int)) p r.b (fun b=>S b/\b<W.heap.size) r.ps P1 d1 [] none 0 (F1+prcN p.prs j+E1+frsN r.ps r.ps.length) lT wr _ _ ⟨(oh.out _ (jO.out _ aN.out.rd).1.1).1,(jO.out _ aN.out.rd).1.2⟩ aN.out.fs (HD2.out _ aN.out.chg).1 (HD2.out _ aN.out.chg).2.body (HD2.out _ aN.out.chg).2.row gu.out.lc RowI.nil (Nat.zero_le _) (fun b hb hbl hh=>?_) (by simp;omega) (by omega) (by omega)).mono ?_
         ·rcases hh with hh|hh
          ·have:=hb.2;omega
          ·rcases aN.out.own b hh with h1|h1
           ·have:=(ag.out.fs.lt.2 b h1).1;have:=hb.2;omega
           ·have:=hb.2;omega
         rintro e W6 hp;obtain⟨v6,rfl⟩:=hp.1;obtain⟨jw,bV⟩:=aN.out.stepK bW.out (Below.refl _ _) hp;obtain⟨xZ,bU⟩:=ag.out.step bC.out av.out (bV.rep (Below.refl _ _) (e:=.returned undef) ⟨_,rfl⟩);have zi:=zh (show VsI Rd fb fb Wb (.slice none 0 0) (F1+prcN p.prs (j+1)) W6 xZ by rw[zn0 iW,Hr.out,prcE,ed.out];simpa only[Nat.add_assoc] using bU);clear bU bV hp a0 a1 a2 a3 a4 a5 ar ai r0 r1 r2 r3 r4 r5;go_wp2_with fail
         go_roundw
         case rel=>exact⟨j+1,_,by omega,by go_num,zi.out⟩
         case measure=>simp[intOf];omega
     ·have hjl:j=L2:=by omega
      obtain⟨⟨a0,a1,a2,a3,a4,a5⟩,ar⟩:=aL.out _ hinv.rd;have hge:¬ ((j:Int)<(L2:Int)):=by omega
      have dM:=zh (show VsI Rd fb fb Wb (.slice none 0 0) (F1+prcN p.prs p.prs.length) w0 pv' by rw[HL2.out,<-hjl];exact ag.out);clear hinv;go_wp2_with fail;have hpN:=zp8 p.prs iN.out.2.2.1 p.prs.length;have hvb:=iN.out;have wW:=ag.out.chg.size;have hzb:=oZ.out;have xk:=(HD.out _ dM.out.chg).2.main;rw[jg.out.1,jg.out.2.1,jg.out.2.2.1,jg.out.2.2.2] at xk;have hcall:=znq _ _ Rd fb fb bC.out p p.m (fun b=>S b/\b<W.heap.size) p.vs A1 c1 [] none 0 (F1+prcN p.prs p.prs.length) pv' w0 _ _ dM.out.rd dM.out.fs (HD.out _ dM.out.chg).1 xk (HD.out _ dM.out.chg).2.vars HR.out.lvc RowI.nil (Nat.zero_le _) (fun b hb hbl hh=>by rcases hh with hh|hh;(have:=hb.2;omega);(rcases dM.out.own b hh with h1|h1;(simp[Value.ownBlock] at h1);(have:=hb.2;omega))) (by simp;omega) (by omega) (by omega);rw[sZ.out] at hcall;refine hcall.mono ?_;clear hcall;rintro e W6 hp
      obtain⟨v6,rfl⟩:=hp.1;obtain⟨jw,bV⟩:=dM.out.step bC.out (Below.refl _ _) hp;rw[show F1+prcN p.prs p.prs.length+cntV p.prs p.m p.vs=NN by rw[<-HNN2.out,chkN,xR.out]] at bV;obtain⟨A6,c6,rfl⟩:=bV.fs.slice;have hf6:W6.cell? ⟨fb,0,none⟩=some (.slice A6 NN c6):=zc bV.fs.box rfl;have wR:=zh (show Below W.heap.size W W6 from aU.out.trans (bV.chg.below (by omega) (fun b hb=>by rcases hb with hb|hb;omega;simp[Value.ownBlock] at hb)));clear bV hp xk hvb a0 a1 a2 a3 a4 a5 ar;go_wp2_with fail;go_ret;exact⟨A6,c6,rfl,wR.out⟩
end Go.Proofs.YtckhofdinldhpaaGreat
namespace Go.Proofs.YtckhofdinldhpaaGreat
open Go Go.RowKit
theorem zsp:∀ (prs:List PR) (s:ByteArray),prcI prs s=idxP prs s
 | [],_=>rfl
 | q::qs,s=>by
  unfold prcI;rw[zsp qs s];unfold idxP;rw[List.findIdx?_cons]
def CalB (prs:List PR) (t:T):Prop:=∀ u∈po t,(u.k=50\/u.k=51)->∃ i,prcI prs u.s=some i
theorem zwb:∀ (t:T),isE t=true->∀ x∈po t,isE x=true:=by
 intro t
 induction t using T.ind with
 | _ k n s ks ih =>
  intro h x hx;simp only[po,List.mem_cons] at hx;rcases hx with rfl|hx
  ·exact h
  ·obtain⟨t,ht,hx⟩:=zmo.1 hx;exact ih t ht (zuB h t ht) x hx
theorem CalB.expr {prs:List PR} {t:T} (h:isE t=true):CalB prs t:=fun u hu hk=>by
 have:=zuC u (zwb t h u hu);omega
theorem CalB.kid {prs:List PR} {k n:Int} {s:ByteArray} {ks:List T} (h:CalB prs (.nd k n s ks)) {t:T} (ht:t∈ks):CalB prs t:=fun u hu=>h u (by simp only[po,List.mem_cons];exact .inr (zmo.2 ⟨t,ht,hu⟩))
theorem zok {prs:List PR} {k:Int} {s:ByteArray} {vs:List VD}:∀ {ks:List T} {i:Nat},cntK prs k s i ks vs=0->∀ t∈ks,∃ vs',cntV prs t vs'=0
 | [],_,_,t,ht=>by cases ht
 | u::us,i,h,t,ht=>by
  rw[cntK] at h;obtain⟨h1,h2⟩:=Nat.add_eq_zero_iff.1 h;rcases List.mem_cons.1 ht with rfl|ht
  ·exact⟨_,h1⟩
  ·exact zok h2 t ht
theorem zsv {e:Int} (h:one1 e=0):e=0:=by
 unfold one1 at h
 split at h
 ·assumption
 ·omega
theorem zvK:∀ (t:T) (prs:List PR) (vs:List VD),(isS t=true\/isB t=true\/isE t=true)->cntV prs t vs=0->CalB prs t:=by
 intro t
 induction t using T.ind with
 | _ k n s ks ih =>
  intro prs vs ht h;rcases ht with hs|hb|he
  ·rw[cntV] at h;intro u hu hk;simp only[po,List.mem_cons] at hu;by_cases hc:k=50\/k=51
   ·rcases hu with rfl|hu
    ·have h0:=zsv (e:=zlq prs k s ks.length vs) (by omega);unfold zlq at h0;rw[if_neg (by omega),if_neg (by omega),if_neg (by omega),if_neg (by omega),if_pos hc] at h0;rw[zsp]
     cases hi:idxP prs s with
     | none=>rw[hi] at h0;simp at h0
     | some i=>exact⟨i,hi⟩
    ·obtain⟨t,ht,hx⟩:=zmo.1 hu;have h57:t.k≠57:=by
      rcases znb hs with⟨_,h1⟩|⟨h1,_⟩|⟨h1,_⟩|⟨h1,_⟩
      ·exact h1 t ht
      all_goals omega
     rcases(zvE hs).2 t ht with h1|h1
     ·exact CalB.expr h1 u hx hk
     ·exact absurd (zxH h1) h57
   ·rw[if_neg hc] at h;rcases hu with rfl|hu
    ·exact absurd hk hc
    ·obtain⟨t,ht,hx⟩:=zmo.1 hu;obtain⟨vs',hv⟩:=zok (Nat.add_eq_zero_iff.1 h).2 t ht;rcases(zvE hs).2 t ht with h1|h1
     ·exact CalB.expr h1 u hx hk
     ·exact ih t ht prs vs' (.inr (.inl h1)) hv u hx hk
  ·obtain⟨h57,hks⟩:=zqU _ _ _ _ hb;rw[cntV,if_neg (by omega)] at h;intro u hu hk;simp only[po,List.mem_cons] at hu;rcases hu with rfl|hu
   ·simp only[T.k_nd] at hk;omega
   ·obtain⟨t,ht,hx⟩:=zmo.1 hu;obtain⟨vs',hv⟩:=zok (Nat.add_eq_zero_iff.1 h).2 t ht;exact ih t ht prs vs' (.inl (hks t ht)) hv u hx hk
  ·exact CalB.expr he
def GP (prs:List PR) (t:T):Prop:=isS t=true/\CalB prs t/\∀ q∈prs,isB q.b=true/\CalB prs q.b
theorem GP.block {prs:List PR} {b:T} (hb:isB b=true) (hc:CalB prs b) (hq:∀ q∈prs,isB q.b=true/\CalB prs q.b):∀ u∈b.ks,GP prs u:=by
 obtain⟨k,n,s,ks⟩:=b;exact fun u hu=>⟨(zqU _ _ _ _ hb).2 u hu,hc.kid hu,hq⟩
theorem zvp:GC GP where
 two:=fun prs t h hk=>by
  obtain⟨k,n,s,ks⟩:=t;obtain⟨hs,hc,hq⟩:=h;simp only[T.k_nd] at hk;rcases znb hs with⟨h1,_⟩|⟨_,_,a,b,c,d,rfl,_,hb1,hb2,_⟩|⟨h1,_⟩|⟨h1,_⟩
  ·omega
  ·exact⟨rfl,GP.block hb1 (hc.kid (t:=b) (by simp)) hq,GP.block hb2 (hc.kid (t:=c) (by simp)) hq⟩
  ·omega
  ·omega
 loc:=fun prs t h hk=>by
  obtain⟨k,n,s,ks⟩:=t;obtain⟨hs,hc,hq⟩:=h;simp only[T.k_nd] at hk;rcases znb hs with⟨h1,_⟩|⟨h1,_⟩|⟨_,_,a,b,c,rfl,_,hb1,_⟩|⟨h1,_⟩
  ·omega
  ·omega
  ·exact⟨rfl,GP.block hb1 (hc.kid (t:=b) (by simp)) hq⟩
  ·omega
 stk:=fun prs t h hk=>by
  obtain⟨k,n,s,ks⟩:=t;obtain⟨hs,hc,hq⟩:=h;simp only[T.k_nd] at hk;rcases znb hs with⟨h1,_⟩|⟨h1,_⟩|⟨h1,_⟩|⟨_,_,b,rfl,hb1⟩
  ·omega
  ·omega
  ·omega
  ·exact⟨rfl,GP.block hb1 (hc.kid (t:=b) (by simp)) hq⟩
 cal:=fun prs t h hk=>by
  obtain⟨hs,hc,hq⟩:=h;have hm:t∈po t:=by obtain⟨k,n,s,ks⟩:=t;simp[po]
  obtain⟨i,hi⟩:=hc t hm hk;obtain⟨-,hl⟩:=znF _ _ _ hi;exact⟨i,prs[i],hi,List.getElem?_eq_getElem hl,GP.block (hq _ (List.getElem_mem hl)).1 (hq _ (List.getElem_mem hl)).2 hq⟩
theorem zpu {ps:List PR}:∀ {j:Nat},j<=ps.length->prcN ps j=0->∀ i (h:i<ps.length),i<j->prcE ps i ps[i]=0
 | 0,_,_,i,_,hi=>by omega
 | j+1,hj,h,i,hl,hi=>by
  rw[zn0 (by omega)] at h;by_cases e:i=j
  ·subst e;omega
  ·exact zpu (j:=j) (by omega) (by omega) i hl (by omega)
theorem zr1 {p:PG} (h:zlc p=true):isB p.m=true/\∀ r∈p.prs,isB r.b=true:=by
 simp only[zlc,Bool.and_eq_true,decide_eq_true_eq,List.all_eq_true] at h;refine⟨?_,fun r hr=>?_⟩
 ·have:=h.2;simp only[zlE,Bool.and_eq_true] at this;exact this.2
 ·have:=h.1.2 r hr;simp only[zot,zlE,Bool.and_eq_true] at this;exact this.2.2
theorem zqw {p:PG} (hv:zlc p=true) (hc:chkN p=0):∀ u∈p.m.ks,GP p.prs u:=by
 obtain⟨h1,h2⟩:=zr1 hv;unfold chkN at hc;refine GP.block h1 (zvK _ _ p.vs (.inr (.inl h1)) (by omega)) fun q hq=>⟨h2 q hq,?_⟩
 obtain⟨i,hi,rfl⟩:=List.getElem_of_mem hq;have:=zpu (Nat.le_refl _) (show prcN p.prs p.prs.length=0 by omega) i hi hi;unfold prcE at this;exact zvK _ _ _ (.inr (.inl (h2 _ hq))) (show cntV p.prs p.prs[i].b p.prs[i].ps=0 by omega)
theorem zw3 (M a b r s g:Nat) (h1:a<=b) (h2:s<=r) (hg:b*M+r<=g):a*M+s<=g:=by have:=Nat.mul_le_mul_right M h1;omega
theorem zqE {p:PG} {F:Int} {g:Nat} (hv:zlc p=true) (hg:F.toNat*2000+2000<=g) (back:Bool) (S:ST) (e:List Nat):Good 0 (runO p.prs F g back p.m ⟨S,0,e⟩):=by
 obtain⟨_,_,h3,_,h5⟩:=zlf hv;refine zlK _ _ fun u hu r hr=>zl5 (M:=2000) (fun q hq=>(h3 q hq).2.2) (by omega) g back u r ?_;have h6:=zo2 (zlx hu);exact zw3 2000 (F.toNat-r.n) F.toNat 2000 _ g (by omega) (by omega) hg
def LitB (t:T):Prop:=∀ u∈po t,Fld u.k u.n u.s
theorem NV.lit {w:World} {S:Nat->Prop}:∀ (t:T) (v:Value),NV w S t v->LitB t:=by
 intro t
 induction t using T.ind with
 | _ k n s ks ih =>
  intro v hv u hu;obtain⟨A,c,-,hf,-,-,hrow⟩:=hv.open_;simp only[po,List.mem_cons] at hu;rcases hu with rfl|hu
  ·exact hf
  ·obtain⟨t,ht,hx⟩:=zmo.1 hu;obtain⟨i,hi,rfl⟩:=List.getElem_of_mem ht;obtain⟨a,u0,u1,u2,u3,-,-,-,hn⟩:=hrow i hi;exact ih _ ht _ hn u hx
theorem LitB.kid {k n:Int} {s:ByteArray} {ks:List T} (h:LitB (.nd k n s ks)) {t:T} (ht:t∈ks):LitB t:=fun u hu=>h u (by simp only[po,List.mem_cons];exact .inr (zmo.2 ⟨t,ht,hu⟩))
theorem LitB.own {t:T} (h:LitB t):Fld t.k t.n t.s:=h t (by obtain⟨k,n,s,ks⟩:=t;simp[po])
theorem LitB.ev {look:ByteArray->Option (List Int)} (hl:∀ s l,look s=some l->l.length<=100000/\∀ x∈l,I64 x):∀ t,LitB t->I64 (evE look t).1:=by
 intro t
 induction t using T.ind with
 | _ k n s ks ih =>
  intro h;rw[evE];refine zs4 hl h.own.2.1 ?_;rw[znO,List.getD_eq_getElem?_getD,List.getElem?_map];rcases hk:ks[0]? with _|u
  ·exact zero_I64
  ·exact ih u (List.mem_of_getElem? hk) (h.kid (List.mem_of_getElem? hk))
theorem LitB.expr {S:ST} (h:S.WF) {t:T} (ht:LitB t):I64 (zkt S.look t).1:=by
 unfold zkt
 split
 ·exact LitB.ev (zqQ h) _ ht
 ·exact zero_I64
theorem LitB.kidD {t:T} (h:LitB t) (i:Nat):LitB (Go.Proofs.YtckhofdinldhpaaGreat.kid t i):=by
 obtain⟨k,n,s,ks⟩:=t;unfold Go.Proofs.YtckhofdinldhpaaGreat.kid;rw[List.getD_eq_getElem?_getD];rcases hk:(T.nd k n s ks).ks[i]? with _|u
 ·intro v hv;have:v=nil0:=by simpa[nil0,po,pos] using hv
  subst this;exact⟨⟨by decide,by decide⟩,⟨by decide,by decide⟩,Nat.zero_le _⟩
 ·exact h.kid (List.mem_of_getElem? hk)
theorem LitB.block {t:T} (h:LitB t) {u:T} (hu:u∈t.ks):LitB u:=by
 obtain⟨k,n,s,ks⟩:=t;exact h.kid hu
section
variable {S:ST}
theorem zvz (h:S.WF) {s:ByteArray} {id:Nat} (hn:S.num s=some id):id<S.nc:=by
 obtain⟨kd,hw⟩:=h.cur;unfold ST.num at hn;obtain⟨i,-,h2⟩:=Option.bind_eq_some_iff.1 hn;exact hw.num id (List.mem_of_getElem? h2)
theorem zt3 (k x y:Int):I64 (updE k x y):=by
 unfold updE
 repeat' split
 all_goals first|exact zmw _|exact zpV _
theorem zus (h:S.WF) (k:Int) {id:Nat} (i:Nat) {ah:Nat} (hid:id<S.nc) (hs:CurK S ah 3):(zm8 S k id i ah).2.WF:=by
 have dn:=hs.lt h;have hc:=h.cells ah dn;unfold zm8
 split
 ·split
  ·exact h
  ·refine zmT (ztu h ah hs _ (by simp;omega) fun x hx=>?_) hid i 0 zero_I64;rcases List.mem_append.1 hx with hx|hx
   ·exact hc.2 x hx
   ·obtain rfl:=List.mem_singleton.1 hx;exact zmu h hid i
 ·split
  ·exact h
  ·split
   ·exact h
   ·refine ztu (S:=S.put id i _) (zmT h hid i _ (zmu h dn _)) ah hs _ (by rw[List.length_take];omega) fun x hx=>hc.2 x (List.mem_of_mem_take hx)
theorem znS (h:S.WF) (l m:List Int) (h1:l.length<=4096/\∀ x∈l,I64 x) (h2:m.length<=4096/\∀ x∈m,I64 x):({ S with tin:=l,tout:=m }:ST).WF:=⟨h.ex,h.ncalls,h.cells,h1,h2⟩
theorem zr5 (h:S.WF) (k:Int) {id:Nat} (i:Nat) (hid:id<S.nc):(zlm S k id i).2.WF:=by
 unfold zlm;have h1:=h.tin;have h2:=h.tout
 split
 ·split
  ·exact h
  ·rename_i y r he
   split
   ·exact h
   ·rw[he] at h1;exact zmT (S:={ S with tin:=r }) (znS h r S.tout ⟨by have:=h1.1;simp at this;omega,fun x hx=>h1.2 x (List.mem_cons_of_mem _ hx)⟩ h2) hid i y (h1.2 y (List.mem_cons_self ..))
 ·split
  ·split
   ·exact h
   ·split
    ·exact h
    ·refine zmT (S:={ S with tout:=S.tout.dropLast }) (znS h S.tin S.tout.dropLast h1 ⟨by have:=h2.1;simp;omega,fun x hx=>h2.2 x (List.dropLast_subset _ hx)⟩) hid i _ ?_
     cases hl:S.tout.getLast? with
     | none=>exact zero_I64
     | some x=>exact h2.2 x (List.mem_of_getLast? hl)
  ·split
   ·split
    ·exact h
    ·refine zmT (S:={ S with tin:=S.el id i::S.tin }) (znS h _ S.tout ⟨by simp;omega,fun x hx=>?_⟩ h2) hid i 0 zero_I64;rcases List.mem_cons.1 hx with rfl|hx
     ·exact zmu h hid i
     ·exact h1.2 x hx
   ·split
    ·exact h
    ·refine zmT (S:={ S with tout:=S.tout++[S.el id i] }) (znS h S.tin _ h1 ⟨by simp;omega,fun x hx=>?_⟩) hid i 0 zero_I64;rcases List.mem_append.1 hx with hx|hx
     ·exact h2.2 x hx
     ·obtain rfl:=List.mem_singleton.1 hx;exact zmu h hid i
theorem zvY (h:S.WF) {k n:Int} {s:ByteArray} {ks:List T} (hf:fltE S.cur.vs (.nd k n s ks)=0) (hk:k=44\/k=45):∃ ah,S.num s=some ah/\CurK S ah 3:=by
 have hn:zou k=3:=by rcases hk with rfl|rfl<;>rfl
 obtain⟨u,h4,h5⟩:=znG (zqh hf).1 (by rw[hn];decide);obtain⟨ah,h6,h7⟩:=zqK h h4;exact⟨ah,h6,by rw[h5,hn] at h7;exact h7⟩
theorem zvI (h:S.WF) (t:T):(doE S t).2.WF:=by
 unfold doE
 split
 ·exact h
 split
 ·exact h
 split
 ·exact h
 split
 ·exact h
 rename_i h1 h2 h3 h4;have hf:fltE S.cur.vs t=0:=by simpa using h4
 obtain⟨k,n,s,ks⟩:=t
 show(zln S k s (ks.getD 0 nil0) (ks.getD 1 nil0) (indE S.look (ks.getD 0 nil0)) (znz S k (ks.getD 1 nil0))).2.WF
 unfold zln
 split
 ·exact h
 unfold zmQ
 split
 ·exact h
 cases h5:S.num (ks.getD 0 nil0).s with
 | none=>exact h
 | some id =>
  have hid:=zvz h h5;dsimp only
  split
  ·unfold zmP
   split
   ·exact zmT h hid _ _ (zt3 _ _ _)
   ·split
    ·cases h6:S.num (ks.getD 1 nil0).s with
     | none=>exact h
     | some jd =>
      have hjd:=zvz h h6;dsimp only
      split
      ·exact zmT (zmT h hid _ _ (zmu h hjd _)) hjd _ _ (zmu h hid _)
      ·exact h
    ·split
     ·rename_i hk;obtain⟨ah,h6,h7⟩:=zvY h hf hk;rw[h6];exact zus h _ _ hid h7
     ·exact zr5 h _ _ hid
  ·exact h
theorem zt5 (h:S.WF) (t:T):(zlp S t).2.WF:=by
 obtain⟨k,n,s,ks⟩:=t;exact zvI h _
theorem zuo (h:S.WF) (v:VD) (hv:FldV v) (x:Int) (hx:I64 x) (hl:S.cur.vs.length+1<=4398046511000):(zkF S v x).2.WF:=by
 unfold zkF
 split
 ·exact h
 ·rename_i hk;have hk:=Decidable.not_not.1 hk
  split
  ·exact h
  ·refine zqo h v hv _ ?_ ?_ ⟨fun e=>by rw[if_pos e];rfl,fun e=>by omega,by omega⟩ hl
   ·split<;>simp
   ·split
    ·intro y hy;obtain rfl:=List.mem_singleton.1 hy;exact hx
    ·intro y hy;cases hy
theorem ztg (h:S.WF) (s:ByteArray) (x:Int):(zks S s x).2.WF:=by
 unfold zks
 split
 ·exact h
 ·split
  ·exact h
  ·exact zpS h _ fun kd hw=>zvO hw
theorem zs8 (h:S.WF) (ps:List VD) (ss:List ByteArray) (hf:∀ v∈ps,FldV v) (hl:ps.length<=4398046511000):(zkM S ps ss).2.WF:=by
 unfold zkM
 split
 ·exact h
 ·cases he:entL S.cur ⟨[],[],0⟩ (ps.zip ss) with
  | error e=>exact h
  | ok f =>
   unfold entR;dsimp only
   split
   ·exact h
   ·exact(zre h ps ss f hf hl he (by omega)).1
theorem zsG (h:S.WF):(zkS S).2.WF:=by
 unfold zkS
 split
 ·exact h
 ·exact zrd h
end
section
variable {o:Out} {f:RS->Out} {r r':RS} {F:Int} {t:T}
theorem zkY (h:o.bind f=.ok r'):∃ r1,o=.ok r1/\f r1=.ok r':=by
 cases o with
 | gas=>cases h
 | err e=>cases h
 | ok r1=>exact⟨r1,rfl,h⟩
theorem zlM {R:Int×ST} (h:zkm r R=.ok r'):R.1=0/\r'={ r with S:=R.2 }:=by
 unfold zkm at h
 split at h
 ·cases h
 ·rename_i h0;injection h with h;exact⟨by simpa using h0,h.symm⟩
theorem zpY {f:Int->RS->Out} (h:valO t r f=.ok r'):(zkt r.S.look t).2=0/\f (zkt r.S.look t).1 r=.ok r':=by
 unfold valO at h
 split at h
 ·cases h
 ·rename_i h0;exact⟨by simpa using h0,h⟩
theorem zoa {f:Bool->RS->Out} (h:zk3 F t r f=.ok r'):(r.n:Int)<F/\(zkt r.S.look t).2=0/\f (decide ((zkt r.S.look t).1≠0)) { r with n:=r.n+1 }=.ok r':=by
 unfold zk3 at h;obtain⟨r1,h1,h2⟩:=zkY h;obtain⟨rfl,h3⟩:=zkQ h1;obtain⟨h4,h5⟩:=zpY h2;exact⟨h3,h4,h5⟩
theorem zm1 {b:Bool} (h:zkv F t b r=.ok r'):(r.n:Int)<F/\(zkt r.S.look t).2=0/\decide ((zkt r.S.look t).1≠0)=b/\r'={ r with n:=r.n+1 }:=by
 unfold zkv at h;obtain⟨h1,h2,h3⟩:=zoa h
 split at h3
 ·rename_i hb;injection h3 with h3;exact⟨h1,h2,hb,h3.symm⟩
 ·cases h3
end
structure RInv (r:RS):Prop where
 wf:r.S.WF
 fb:FB r.n r.S
 n:r.n<=1000000
section
variable {r r1 r':RS} {F:Int}
theorem RInv.tick (h:RInv r) (hF:F<=1000000) (hn:(r.n:Int)<F):RInv { r with n:=r.n+1 }:=⟨h.wf,h.fb.mono (Nat.le_succ _),by simp only;omega⟩
theorem zoT {S:ST} (t:T):(doE S t).2.base=S.base/\(doE S t).2.calls=S.calls/\(doE S t).2.nc=S.nc:=by
 obtain⟨h1,h2,h3⟩:=zta S t;exact⟨h1,h2,h3⟩
theorem zpn {S:ST} (t:T):(zlp S t).2.base=S.base/\(zlp S t).2.calls=S.calls/\(zlp S t).2.nc=S.nc:=by
 obtain⟨k,n,s,ks⟩:=t;exact zoT _
def PrB (prs:List PR):Prop:=∀ q∈prs,LitB q.b/\(∀ v∈q.ps,FldV v)/\q.ps.length<=1000
theorem PrB.getD {prs:List PR} (h:PrB prs) (i:Nat):LitB (prs.getD i ⟨⟨#[]⟩,[],nil0⟩).b/\(∀ v∈(prs.getD i ⟨⟨#[]⟩,[],nil0⟩).ps,FldV v)/\(prs.getD i ⟨⟨#[]⟩,[],nil0⟩).ps.length<=1000:=by
 rw[List.getD_eq_getElem?_getD];rcases hk:prs[i]? with _|q
 ·refine⟨fun v hv=>?_,by simp,by simp⟩;have:v=nil0:=by simpa[nil0,po,pos] using hv
  subst this;exact⟨⟨by decide,by decide⟩,⟨by decide,by decide⟩,Nat.zero_le _⟩
 ·exact h q (List.mem_of_getElem? hk)
theorem zsX {t:T} (h:LitB t) (k:Int) (hk:k=1\/k=3):FldV ⟨t.s,k,0⟩:=⟨h.own.2.2,by simp only;omega,by simp only;omega⟩
theorem zun {S:ST} {v:VD} {x:Int} (h:(zkF S v x).1=0):S.cur.at v.s=none/\(v.k=1\/v.k=3)/\(zkF S v x).2=(S.newCell (if v.k=1 then [x] else [])).setCur (S.cur.push v S.nc):=by
 unfold zkF at h ⊢
 split at h
 ·cases h
 ·rename_i h1
  split at h
  ·cases h
  ·rename_i h2;rw[if_neg h1,if_neg h2];exact⟨by simpa using h2,(Decidable.not_not.1 h1).1,rfl⟩
theorem ztf {S:ST} {s:ByteArray} {x:Int} (h:(zks S s x).1=0):0<S.cur.loc/\((zpB S.cur).s.toList==s.toList)=true/\((zpB S.cur).k=1->(S.cell (zrz S.cur)).getD 0 0=x)/\((zpB S.cur).k=3->S.cell (zrz S.cur)=[])/\(zks S s x).2=S.setCur S.cur.pop:=by
 unfold zks at h ⊢
 split at h
 ·cases h
 ·rename_i h1
  split at h
  ·cases h
  ·rename_i h2;rw[if_neg h1,if_neg h2];simp only[not_or,not_and,Decidable.not_not,Bool.not_eq_false] at h1 h2;refine⟨by omega,h1.2,h2.1,fun e=>?_,rfl⟩;exact List.length_eq_zero_iff.1 (by have:=h2.2 e;omega)
theorem zs7 {S:ST} {ps:List VD} {ss:List ByteArray} (h:(zkM S ps ss).1=0):∃ f,ps.length=ss.length/\entL S.cur ⟨[],[],0⟩ (ps.zip ss)=.ok f/\S.calls.length<100/\(zkM S ps ss).2={ S with calls:=S.calls++[f] }:=by
 unfold zkM at h ⊢
 split at h
 ·cases h
 ·rename_i h1;rw[if_neg h1]
  cases he:entL S.cur ⟨[],[],0⟩ (ps.zip ss) with
  | error e=>rw[he] at h;exact absurd h (zq5 _ _ _ he)
  | ok f =>
   rw[he] at h;unfold entR at h ⊢;dsimp only at h ⊢
   split at h
   ·cases h
   ·rename_i h2;rw[if_neg h2];exact⟨f,Decidable.not_not.1 h1,rfl,by omega,rfl⟩
theorem zsF {S:ST} (h:(zkS S).1=0):0<S.calls.length/\(zkS S).2={ S with calls:=S.calls.take (S.calls.length-1) }:=by
 unfold zkS at h ⊢
 split at h
 ·cases h
 ·rename_i h1;rw[if_neg h1];exact⟨by omega,rfl⟩
theorem RInv.store {R:Int×ST} (h:RInv r) (hF:F<=1000000) (hn:(r.n:Int)<F) (hw:R.2.WF) (hf:FB (r.n+1) R.2):RInv { r with n:=r.n+1,S:=R.2 }:=⟨hw,hf,by simp only;omega⟩
end
theorem znh {prs:List PR} {f:T->RS->Out} {back:Bool}:∀ (l:List T) (r r':RS),(∀ t∈l,∀ r r',f t r=.ok r'->∃ L,Tg prs (.stm back t) r.S L r'.S/\r'.n=r.n+L.length)->zk2 f l r=.ok r'->∃ L,Tg prs (.blk back l) r.S L r'.S/\r'.n=r.n+L.length
 | [],r,r',_,h=>by
  injection h with h;subst h;exact⟨[],.nil back _,rfl⟩
 | t::ts,r,r',hf,h=>by
  rw[zk2] at h;obtain⟨r1,h1,h2⟩:=zkY h;obtain⟨L1,a1,a2⟩:=hf t (List.mem_cons_self ..) r r1 h1;obtain⟨L2,b1,b2⟩:=znh ts r1 r' (fun u hu=>hf u (List.mem_cons_of_mem _ hu)) h2;exact⟨L1++L2,.cons a1 b1,by rw[List.length_append];omega⟩
theorem zqP {prs:List PR} {F:Int} {f:T->RS->Out} {back:Bool} {t:T} (hf1:∀ u∈blkL back (kid t 1),∀ r r',f u r=.ok r'->∃ L,Tg prs (.stm back u) r.S L r'.S/\r'.n=r.n+L.length)
  (hf2:∀ u∈blkL back (kid t 2),∀ r r',f u r=.ok r'->∃ L,Tg prs (.stm back u) r.S L r'.S/\r'.n=r.n+L.length):∀ (m:Nat) (r r':RS),(zkt r.S.look (fstT back t)).2=0 ->
  zlI F f (fstT back t) (lstT back t) (blkL back (kid t 1)) (blkL back (kid t 2)) m { r with n:=r.n+1 }=.ok r'->∃ L,Tg prs (.lop back t) r.S L r'.S/\r'.n=r.n+L.length
 | 0,_,_,_,h=>by cases h
 | m+1,r,r',he,h=>by
  rw[zlI] at h;obtain⟨ra,ha,h⟩:=zkY h;obtain⟨L1,a1,a2⟩:=znh _ _ ra hf1 ha;simp only at a1 a2;obtain⟨-,h2,h⟩:=zoa h;by_cases hx:(zkt ra.S.look (lstT back t)).1≠0
  ·rw[if_pos (by simpa using hx)] at h;injection h with h;subst h;exact⟨_,.done he a1 h2 hx,by simp only[List.length_append,List.length_cons,List.length_nil];omega⟩
  ·rw[if_neg (by simpa using hx)] at h;obtain⟨rb,hb,h⟩:=zkY h;obtain⟨L2,b1,b2⟩:=znh _ _ rb hf2 hb;simp only at b1 b2;obtain⟨rc,hc,h⟩:=zkY h;obtain⟨-,h3,h4,rfl⟩:=zm1 hc;obtain⟨L3,c1,c2⟩:=zqP hf1 hf2 m rb r' h3 h;exact⟨_,.more he a1 h2 (by simpa using hx) b1 (by simpa using h4) c1,by simp only[List.length_append,List.length_cons];omega⟩
theorem znM {prs:List PR} {F:Int}:∀ (g:Nat) (back:Bool) (t:T) (r r':RS),zkw prs F g back t r=.ok r'->∃ L,Tg prs (.stm back t) r.S L r'.S/\r'.n=r.n+L.length
 | 0,_,_,_,_,h=>by cases h
 | g+1,back,t,r,r',h=>by
  have hb:∀ back l r r',zk2 (zkw prs F g back) l r=.ok r'->∃ L,Tg prs (.blk back l) r.S L r'.S/\r'.n=r.n+L.length:=fun back l r r' h =>
   znh _ r r' (fun u hu r r' h=>znM g back u r r' h) h
  rw[zkw] at h
  split at h
  ·rename_i hk;obtain⟨-,e1,h⟩:=zoa h;obtain⟨r1,h1,h⟩:=zkY h;obtain⟨L,a1,a2⟩:=hb back _ _ r1 h1;obtain⟨-,e2,e3,rfl⟩:=zm1 h;simp only at a1 a2;refine⟨_,.iff (L:=L) hk e1 ?_ e2 ?_,by simp only[List.length_append,List.length_cons,List.length_nil];omega⟩
   ·simpa using a1
   ·have:=decide_eq_decide.1 e3;exact this
  split at h
  ·rename_i hk;obtain⟨r1,h1,h⟩:=zkY h;obtain⟨-,e1,e2,rfl⟩:=zm1 h1;obtain⟨L,a1,a2⟩:=zqP (fun u hu r r' h=>znM g back u r r' h) (fun u hu r r' h=>znM g back u r r' h) g r r' e1 h;exact⟨L,.frm hk (by simpa using e2) a1,a2⟩
  split at h
  ·rename_i hk;obtain⟨r1,h1,h⟩:=zkY h;obtain⟨rfl,hn⟩:=zkQ h1;obtain⟨v1,h⟩:=zpY h;obtain⟨r2,h2,h⟩:=zkY h;obtain⟨e0,rfl⟩:=zlM h2;obtain⟨r3,h3,h⟩:=zkY h;obtain⟨L,a1,a2⟩:=hb back _ _ r3 h3;obtain⟨r4,h4,h⟩:=zkY h;obtain⟨rfl,hn2⟩:=zkQ h4;obtain⟨v2,h⟩:=zpY h;obtain⟨e1,rfl⟩:=zlM h;simp only at a1 a2;exact⟨_,.loc hk v1 e0 a1 v2 e1,by simp only[List.length_append,List.length_cons,List.length_nil];omega⟩
  split at h
  ·rename_i hk;obtain⟨r1,h1,h⟩:=zkY h;obtain⟨rfl,hn⟩:=zkQ h1;obtain⟨r2,h2,h⟩:=zkY h;obtain⟨e0,rfl⟩:=zlM h2;obtain⟨r3,h3,h⟩:=zkY h;obtain⟨L,a1,a2⟩:=hb back _ _ r3 h3;obtain⟨r4,h4,h⟩:=zkY h;obtain⟨rfl,hn2⟩:=zkQ h4;obtain⟨e1,rfl⟩:=zlM h;simp only at a1 a2;exact⟨_,.stk hk e0 a1 e1,by simp only[List.length_append,List.length_cons,List.length_nil];omega⟩
  split at h
  ·rename_i hk
   split at h
   ·cases h
   ·rename_i i hi;obtain⟨r1,h1,h⟩:=zkY h;obtain⟨rfl,hn⟩:=zkQ h1;obtain⟨r2,h2,h⟩:=zkY h;obtain⟨e0,rfl⟩:=zlM h2;obtain⟨r3,h3,h⟩:=zkY h;obtain⟨L,a1,a2⟩:=hb _ _ _ r3 h3;obtain⟨r4,h4,h⟩:=zkY h;obtain⟨rfl,hn2⟩:=zkQ h4;obtain⟨e1,rfl⟩:=zlM h;simp only at a1 a2;exact⟨_,.cal hk hi e0 a1 e1,by simp only[List.length_append,List.length_cons,List.length_nil];omega⟩
  ·obtain⟨r1,h1,h⟩:=zkY h;obtain⟨rfl,hn⟩:=zkQ h1;obtain⟨e0,rfl⟩:=zlM h;exact⟨_,.bas (by omega) e0,rfl⟩
theorem zv1 {prs:List PR} {F:Int} {g:Nat} {back:Bool} {b:T} {r r':RS} (h:runO prs F g back b r=.ok r'):∃ L,Tg prs (.blk back (blkL back b)) r.S L r'.S/\r'.n=r.n+L.length :=
 znh _ r r' (fun u hu r r' h=>znM g back u r r' h) h
theorem zxm (A:Option Addr) (l c:Nat) (w:World):(Instr.buildSlice 23 1 #[(0,.slice A l c)]).run Tryz.prog w=.ok (.slice (some ⟨w.heap.size,0,none⟩) 1 1) (w.alloc (.cells #[.slice A l c] 24)):=by kernel_rfl
theorem bS12 (B C:Option Addr) (m d n e:Nat) (w:World):(Instr.build 26 #[(1,.slice B m d),(2,.slice C n e)]).run Tryz.prog w=.ok (.agg #[.slice none 0 0,.slice B m d,.slice C n e]) w:=by kernel_rfl
section
variable {P:Program} {ops:Array Oper} {Q:Exit->Act->World->Prop} {md:Region.Mode} {S1 S2:World->Prop} {k:Nat}
theorem zpl (I:Nat->Array Bool->Act->World->Prop) (hS:∀ f l a w,I f l a w->S1 w/\S2 w)
  (h:∀ f l a w,I f l a w->wpG P md ops Q S1 S2 k f l a w\/∃ f',f=f'+1/\Region.ready md ops l≠[]/\∀ i∈Region.ready md ops l,wpOp P ops Q i (fun a' w'=>I f' (l.setIfInBounds i true) a' w') a w) :
  ∀ f l a w,I f l a w->wpG P md ops Q S1 S2 k f l a w
 | 0,l,a,w,hi=>by
  rcases h 0 l a w hi with h1|⟨f',h1,_⟩
  ·exact h1
  ·omega
 | f+1,l,a,w,hi=>by
  rcases h (f+1) l a w hi with h1|⟨f',h1,h2,h3⟩
  ·exact h1
  ·obtain rfl:f=f':=by omega
   exact⟨fun h0=>absurd h0 h2,fun i hm=>wpOp_mono (fun a' w' h'=>⟨⟨(hS _ _ _ _ h').1,fun _=>(hS _ _ _ _ h').2⟩,zpl I hS h f _ a' w' h'⟩) (h3 i hm)⟩
theorem zoW {a0:Act} {f0:Nat} {l0:Array Bool} {w0:World} (I:Act->Nat->Array Bool->Act->World->Prop) (hS:∀ A f l a w,I A f l a w->S1 w/\S2 w)
  (h:∀ A,A=a0->∀ f l a w,I A f l a w->wpG P md ops Q S1 S2 k f l a w\/∃ f',f=f'+1/\Region.ready md ops l≠[]/\∀ i∈Region.ready md ops l,wpOp P ops Q i (fun a' w'=>I A f' (l.setIfInBounds i true) a' w') a w)
  (h0:I a0 f0 l0 a0 w0):wpG P md ops Q S1 S2 k f0 l0 a0 w0:=zpl (I a0) (hS a0) (h a0 rfl) _ _ _ _ h0
end
def zos (l0 l3 l4 l7 l9:Bool) (v5 v8 v9 v12:Value) (b3:Nat) (s:SS):Option SI->RowD
 | none=>if l9=true then ⟨boxV b3,26,3,1,[.slice none 0 0,.slice none 0 0,.slice none 0 0]⟩ else nilR
 | some .inp=>if l3=true then ⟨v8,3,1,s.tin.length,zkf s.tin⟩ else if l0=true then ⟨v5,3,1,0,[]⟩ else nilR
 | some .out=>if l7=true then ⟨v12,3,1,s.tout.length,zkf s.tout⟩ else if l4=true then ⟨v9,3,1,0,[]⟩ else nilR
 | some _=>nilR
def zk5 (vc vi vo:Value) (fc:Nat->Value) (b3:Nat) (s:SS) (j:Nat):Option SI->RowD
 | none=>⟨boxV b3,26,3,1,[vc,vi,vo]⟩
 | some .all=>⟨vc,24,1,j,(List.range j).map fc⟩
 | some (.el i)=>if i<j then ⟨fc i,3,1,(s.cells.getD i []).length,zkf (s.cells.getD i [])⟩ else nilR
 | some .inp=>⟨vi,3,1,s.tin.length,zkf s.tin⟩
 | some .out=>⟨vo,3,1,s.tout.length,zkf s.tout⟩
theorem zv7 (w:World) (n0:Nat) (v5 v8 v9 v12:Value) (b3:Nat) (s:SS):Rws w n0 (zos false false false false false v5 v8 v9 v12 b3 s):=by
 have e:∀ i,zos false false false false false v5 v8 v9 v12 b3 s i=nilR:=by
  intro i;rcases i with _|i
  ·rfl
  ·cases i<;>rfl
 refine⟨fun i=>by rw[e];exact zly w n0,fun i j b _ hi _=>?_⟩;rw[e] at hi;simp[nilR,Value.ownBlock] at hi
theorem zum (w:World) (n0:Nat) (h:n0<=w.heap.size) (a b c:Value) (E:TypeId):(w.alloc (.cells #[a,b,c] E)).ownsRow n0 E 3 (boxV w.heap.size) 1 [a,b,c] :=
 ⟨rfl,.inr ⟨w.heap.size,1,#[a,b,c],rfl,h,heap_alloc_new w _,Nat.le_refl _,by unfold maxLen;omega,rfl,rfl⟩⟩
theorem zru (vc dm vi vo:Value) (fc:Nat->Value) (b3:Nat) (s:SS) (j:Nat) (l:List Int) (v8 r5:Value) (hl:s.cells.getD j []=l) :
  updR (updR (updR (updR (zk5 vc vi vo fc b3 s j) (some (.el j)) ⟨r5,3,1,0,[]⟩) (some (.el j)) ⟨v8,3,1,l.length,zkf l⟩) (some .all) ⟨dm,24,1,j+1,(List.range j).map fc++[v8]⟩) none ⟨boxV b3,26,3,1,[dm,vi,vo]⟩=zk5 dm vi vo (fun i=>if i=j then v8 else fc i) b3 s (j+1):=by
 funext i;rcases i with _|i
 ·rfl
 ·cases i with
  | all =>
   simp only[updR,zk5,reduceCtorEq,if_false,if_true,RowD.mk.injEq,true_and];rw[List.range_succ,List.map_append];congr 1
   ·refine List.map_congr_left fun i hi=>?_;have:i≠j:=by have:=List.mem_range.1 hi;omega
    simp[this]
   ·simp
  | inp=>rfl
  | out=>rfl
  | el i =>
   by_cases e:i=j
   ·subst e;simp[updR,zk5,<-hl]
   ·have e2:(i<j+1)↔(i<j):=by omega
    simp[updR,zk5,e,e2]
theorem zpr {W:World} {n0:Nat} {vc vi vo:Value} {fc:Nat->Value} {b3:Nat} {s:SS} (h:Rws W n0 (zk5 vc vi vo fc b3 s s.cells.length)):Rws W n0 (zmf vc vi vo fc s):=by
 have e:∀ i,zmf vc vi vo fc s i=zk5 vc vi vo fc b3 s s.cells.length (some i):=fun i=>by cases i<;>rfl
 refine⟨fun i=>by rw[e];exact h.row (some i),fun i j b hij hi hj=>?_⟩;rw[e] at hi hj;exact h.sep (some i) (some j) b (fun e'=>hij (by injection e')) hi hj
theorem zss {w:World} {n0 b:Nat} {x y z:Value} {E:TypeId} (hn:n0<=b) (h:w.heap[b]?=some (.cells #[x,y,z] E (0,0))):w.ownsRow n0 E 3 (boxV b) 1 [x,y,z] :=
 ⟨rfl,.inr ⟨b,1,#[x,y,z],rfl,hn,h,Nat.le_refl _,by unfold maxLen;omega,rfl,rfl⟩⟩
theorem zmV (w:World) (n0:Nat) (E:TypeId):w.ownsRow n0 E 1 (.slice none 0 0) 0 []:=⟨rfl,.inl ⟨rfl,rfl⟩⟩
end Go.Proofs.YtckhofdinldhpaaGreat
