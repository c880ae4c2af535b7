/-
  Texts of the proof, put together without their remarks: ScV, Fa, ScK, Gf, Wfp, Trq, Rcp.
-/
import Derived.Test.YtckhofdinldhpaaGreatE5
set_option linter.unusedSimpArgs false
set_option linter.unusedVariables false
set_option maxHeartbeats 8000000
set_option maxRecDepth 100000
namespace Go.Proofs.YtckhofdinldhpaaGreat
open Go Go.RowKit
def cntA (ps:List PR) (s:ByteArray) (l:Nat):Nat->List T->List VD->Nat
 | _,[],_=>0
 | i,t::ts,vs=>one1 (argE ps s l i t.s vs)+cntA ps s l (i+1) ts vs
mutual
/-- How many faults scope.visit reports. -/
def cntV (ps:List PR):T->List VD->Nat
 | .nd k _ s ks,vs=>one1 (zk7 ps k s ks.length vs)+(if k=50\/k=51 then cntA ps s ks.length 0 ks vs else cntK ps k s 0 ks vs)
def cntK (ps:List PR) (k:Int) (s:ByteArray):Nat->List T->List VD->Nat
 | _,[],_=>0
 | i,t::ts,vs=>cntV ps t (zl6 k s i vs)+cntK ps k s (i+1) ts vs
end
theorem znK (ps:List PR) (s:ByteArray) (l:Nat) (vs:List VD):∀ (a b:List T) (i:Nat),cntA ps s l i (a++b) vs=cntA ps s l i a vs+cntA ps s l (i+a.length) b vs
 | [],b,i=>by simp[cntA]
 | t::ts,b,i=>by simp[cntA,znK ps s l vs ts b (i+1),Nat.add_assoc,Nat.add_comm 1 ts.length]
theorem znJ (ps:List PR) (k:Int) (s:ByteArray) (vs:List VD):∀ (a b:List T) (i:Nat),cntK ps k s i (a++b) vs=cntK ps k s i a vs+cntK ps k s (i+a.length) b vs
 | [],b,i=>by simp[cntK]
 | t::ts,b,i=>by simp[cntK,znJ ps k s vs ts b (i+1),Nat.add_assoc,Nat.add_comm 1 ts.length]
theorem zo2 (ps:List PR) (s:ByteArray) (l:Nat) (vs:List VD) {ks:List T} {j:Nat} (h:j<ks.length):cntA ps s l 0 (ks.take (j+1)) vs=cntA ps s l 0 (ks.take j) vs+one1 (argE ps s l j ks[j].s vs):=by
 rw[List.take_succ_eq_append_getElem h,znK];have:(ks.take j).length=j:=by simp;omega
 simp[cntA,this]
theorem zrR (ps:List PR) (k:Int) (s:ByteArray) (vs:List VD) {ks:List T} {j:Nat} (h:j<ks.length):cntK ps k s 0 (ks.take (j+1)) vs=cntK ps k s 0 (ks.take j) vs+cntV ps ks[j] (zl6 k s j vs):=by
 rw[List.take_succ_eq_append_getElem h,znJ];have:(ks.take j).length=j:=by simp;omega
 simp[cntK,this]
theorem zmv (e:Int):one1 e<=1:=by unfold one1;split<;>omega
theorem zpL (t:T):1<=size t:=by cases t;rw[size];omega
theorem zoD (ps:List PR) (s:ByteArray) (l:Nat) (vs:List VD):∀ (ks:List T) (i:Nat),cntA ps s l i ks vs<=zk1 ks
 | [],i=>by simp[cntA]
 | t::ts,i=>by
  have h1:=zoD ps s l vs ts (i+1);have h2:=zmv (argE ps s l i t.s vs);have h3:=zpL t;simp only[cntA,zk1];omega
theorem zpz (ps:List PR) (k:Int) (s:ByteArray):∀ (ks:List T),(∀ t∈ks,∀ vs,cntV ps t vs<=size t)->∀ (i:Nat) (vs:List VD),cntK ps k s i ks vs<=zk1 ks
 | [],_,i,vs=>by simp[cntK]
 | t::ts,h,i,vs=>by
  have h1:=zpz ps k s ts (fun u hu=>h u (by simp[hu])) (i+1) vs;have h2:=h t (by simp) (zl6 k s i vs);simp only[cntK,zk1];omega
theorem zrQ (ps:List PR) (t:T):∀ vs,cntV ps t vs<=size t:=by
 induction t using T.ind with
 | _ k n s ks ih =>
 intro vs;rw[cntV,size];have h1:=zmv (zk7 ps k s ks.length vs);have h2:=zoD ps s ks.length vs ks 0;have h3:=zpz ps k s ks ih 0 vs
 split<;>omega
theorem zlm:∀ (ks:List T) (j:Nat),zk1 (ks.take j)<=zk1 ks
 | [],j=>by simp[zk1]
 | t::ts,0=>by simp[zk1]
 | t::ts,j+1=>by have:=zlm ts j;simp only[List.take_succ_cons,zk1];omega
theorem zqA (k:Int) (s:ByteArray) (i:Nat) (vs:List VD):(zl6 k s i vs).length<=vs.length+1:=by unfold zl6;split;simp;split<;>simp
theorem PV.keep {w w':World} {S S':Nat->Prop} {p:PG} {v:Value} (h:PV w S p v) (hS:∀ b,S b->b<w.heap.size->S' b) (hk:∀ b,S b->b<w.heap.size->w'.heap[b]?=w.heap[b]?):PV w' S' p v :=
 let ⟨A1,c1,A2,c2,A3,c3,e,h⟩:=h;⟨A1,c1,A2,c2,A3,c3,e,h.keep hS hk⟩
structure VsI (Rd:World->Prop) (n0 fb:Nat) (Wb:World) (pv:Value) (N:Nat) (wr:World) (pv':Value):Prop where
 rd:Rd wr
 fs:FS wr n0 fb N pv'
 own:∀ b,pv'.ownBlock=some b->pv.ownBlock=some b\/Wb.heap.size<=b
 chg:Chg (fun b=>b=fb\/pv.ownBlock=some b) Wb wr
theorem VsI.step {f:FuncId} {cap:Array Value} {Rd:World->Prop} {n0 fb:Nat} {Wb wr w5 W6:World} {pv pv':Value} {N N':Nat} {e:Ending} (hr:RepC f cap Rd n0 fb) (h:VsI Rd n0 fb Wb pv N wr pv') (hb:Below wr.heap.size wr w5) (hp:RepP w5 n0 fb pv' N' e W6) :
  ∃ fK,VsI Rd n0 fb Wb pv N' W6 fK:=by
 obtain⟨_,fK,hfs,ak,hc⟩:=hp;have nQ:=h.fs.later hb;have hz:=h.chg.size;have hz5:=hb.size;refine⟨fK,hr.keep w5 W6 pv' N (hr.keep wr w5 pv' N h.rd h.fs (Chg.of_below hb)) nQ hc,hfs,fun b hb'=>?_,(h.chg.trans (Chg.of_below hb)).trans2 hc fun b hlt hh=>?_⟩
 ·rcases ak b hb' with h1|h1
  ·exact h.own b h1
  ·exact .inr (by omega)
 ·rcases hh with hh|hh
  ·exact .inl hh
  ·rcases h.own b hh with h1|h1
   ·exact .inr h1
   ·omega
theorem VsI.rep {Rd:World->Prop} {n0 fb:Nat} {W Wb w:World} {pw pv':Value} {N':Nat} {e:Ending} (h:VsI Rd n0 fb Wb pw N' w pv') (hb:Below W.heap.size W Wb) (he:∃ v,e=.returned v):RepP W n0 fb pw N' e w :=
 ⟨he,pv',h.fs,fun b hh=>(h.own b hh).imp id fun h1=>by have:=hb.size;omega,(Chg.of_below hb).trans h.chg⟩
def IsW (x:Value) (w:World) (v:Value) (w':World):Prop:=v=x/\Below w.heap.size w w'
theorem zm1 {P:Program} {f:FuncId} {args:Array Value} {w:World} {x:Value} (h:Calls P f args w fun e w'=>e=.returned x/\Below w.heap.size w w'):Calls P f args w fun e w'=>∃ v,e=.returned v/\IsW x w v w' :=
 h.mono fun _ _ ⟨he,hb⟩=>⟨_,he,rfl,hb⟩
def RepV (W:World) (n0 fb:Nat) (pv:Value) (N':Nat) (_:Value) (W':World):Prop:=RepP W n0 fb pv N' (.returned undef) W'
theorem zl3 {P:Program} {f:FuncId} {args:Array Value} {W:World} {n0 fb N':Nat} {pv:Value} (h:Calls P f args W (RepP W n0 fb pv N')):Calls P f args W fun e w'=>∃ v,e=.returned v/\RepV W n0 fb pv N' v w' :=
 h.mono fun _ _ ⟨⟨v,he⟩,hp⟩=>⟨v,he,⟨_,rfl⟩,hp⟩
def zva (w:World) (S:Nat->Prop) (vs:List VD) (v:Value) (w':World):Prop:=∃ A' c',v=.slice A' vs.length c'/\RowV w' (fun b=>S b\/w.heap.size<=b) A' vs/\vs.length<=c'/\Below w.heap.size w w'
theorem zq7 {P:Program} {f:FuncId} {args:Array Value} {w:World} {S:Nat->Prop} {vs:List VD} (h:Calls P f args w (zto w S vs)):Calls P f args w fun e w'=>∃ v,e=.returned v/\zva w S vs v w' :=
 h.mono fun _ _ ⟨A,c,he,hn⟩=>⟨_,he,A,c,rfl,hn⟩
theorem zuh:IsFn Tryz.prog 137 Tryz.f137:=⟨Tryz.func137,by kernel_rfl,by kernel_rfl⟩
theorem zn9:IsFn Tryz.prog 139 Tryz.f139:=⟨Tryz.func139,by kernel_rfl,by kernel_rfl⟩
theorem zpr:IsFn Tryz.prog 138 Tryz.f138:=⟨Tryz.func138,by kernel_rfl,by kernel_rfl⟩
theorem zug:IsFn Tryz.prog 140 Tryz.f140:=⟨Tryz.func140,by kernel_rfl,by kernel_rfl⟩
theorem zuc:IsFn Tryz.prog 95 Tryz.f95:=⟨Tryz.func95,by kernel_rfl,by kernel_rfl⟩
theorem zmS (f:FuncId) (cap:Array Value) (Rd:World->Prop) (n0 fb:Nat) (hrep:RepC f cap Rd n0 fb) (p:PG) (t:T) :
  ∀ (S:Nat->Prop) (vs:List VD) (A:Option Addr) (c:Nat) (q:List Int) (Aq:Option Addr) (cq N:Nat) (pw:Value) (W:World) (v1 v2:Value),Rd W->FS W n0 fb N pw->PV W S p v1->NV W S t v2->RowV W S A vs->vs.length<=c->RowI W S Aq q->q.length<=cq ->
   (∀ b,S b->b<W.heap.size->¬ (b=fb\/pw.ownBlock=some b))->q.length+dep t<=50000->vs.length+dep t<=50000->N+size t<=1000000 ->
   Calls Tryz.prog 95 #[v1,v2,.slice Aq q.length cq,.slice A vs.length c,.func (.func f) #[] cap] W (RepP W n0 fb pw (N+cntV p.prs t vs)):=by
 obtain⟨fn,hfn⟩:=hrep.fn;have aP:=zh hrep;clear hrep
 induction t using T.ind with
 | _ tk tn ts ks ih =>
 intro S vs A c q Aq cq N pw W v1 v2 hrd hfs hv1 hv2 hrow hlc hqr hqc hfar hdq hdv hN;have sj:=zh ih;have hvv:=hv1;obtain⟨A1,c1,A2,c2,A3,c3,rfl,-⟩:=hv1;obtain⟨L1,hL1⟩:∃ L,p.vs.length=L:=⟨_,rfl⟩
 obtain⟨L2,hL2⟩:∃ L,p.prs.length=L:=⟨_,rfl⟩
 obtain⟨k,hk⟩:∃ k,p.m.k=k:=⟨_,rfl⟩
 obtain⟨n,hn⟩:∃ n,p.m.n=n:=⟨_,rfl⟩
 obtain⟨s,hs⟩:∃ s,p.m.s=s:=⟨_,rfl⟩
 obtain⟨l3,hl3⟩:∃ l,p.m.ks.length=l:=⟨_,rfl⟩
 rw[hL1,hL2,hk,hn,hs,hl3];rw[hL1,hL2,hk,hn,hs,hl3] at hvv;have rQ:=zh hvv;clear ih hvv hL1 hL2 hk hn hs hl3;have gG:=zh hv2;obtain⟨B,tc,rfl,_,hlk,_,dw⟩:=hv2.open_;simp only[T.k_nd,T.n_nd,T.s_nd,T.ks_nd] at *
 have av:=zkA hlk;rw[dep] at hdq hdv;rw[size] at hN;have hksz:ks.length<=1000000:=by
  have:∀ l:List T,l.length<=zk1 l:=fun l=>by
   induction l with
   | nil=>simp
   | cons t ts ih=>have:=zpL t;simp only[List.length_cons,zk1];omega
  have:=this ks;omega
 have oN:=zh dw;have ag:=zh hrow;have rZ:=zh hlc;have HQR:=zh hqr;have vJ:=zh hqc;have kN:=zh hrd;have sw:=zh hfs;have HFAR:=zh hfar;have hlv:vs.length<=LV:=by unfold LV;omega
 have vQ:=zh hlv;have hfl:=hfs.lt;have mg:=zh hfl;obtain⟨CC,uY⟩:∃ CC,cntV p.prs (.nd tk tn ts ks) vs=CC:=⟨_,rfl⟩
 rw[uY];have bD:=zh uY;obtain⟨E0,hE0⟩:∃ E0,zk7 p.prs tk ts ks.length vs=E0:=⟨_,rfl⟩
 have uq:=zh hE0;have hE1:=zmv E0;clear dw hrow hlc hqr hqc hrd hfs hfar hlk hlv hv2 hfl uY hE0;go_enter Tryz.func95,Tryz.ntmps95;go_upto_region 1 with fail;have hbw:Below W.heap.size W ((W.alloc (.cells #[.slice A1 L1 c1,.slice A2 L2 c2,.int .u8 k,.int .i64 n,.string s,.slice A3 l3 c3] 35)).alloc (.cells #[.int .u8 tk,.int .i64 tn,.string ts,.slice B ks.length tc] 29)):=zkd (zkd (Below.refl _ _) _) _;have mr:=zkr (heap_alloc_new W (.cells #[.slice A1 L1 c1,.slice A2 L2 c2,.int .u8 k,.int .i64 n,.string s,.slice A3 l3 c3] 35)) (.cells #[.int .u8 tk,.int .i64 tn,.string ts,.slice B ks.length tc] 29);have hbN:=heap_alloc_new (W.alloc (.cells #[.slice A1 L1 c1,.slice A2 L2 c2,.int .u8 k,.int .i64 n,.string s,.slice A3 l3 c3] 35)) (.cells #[.int .u8 tk,.int .i64 tn,.string ts,.slice B ks.length tc] 29);simp only[World.size_alloc] at hbN
 obtain⟨Wb,oq⟩:∃ Wb,(W.alloc (.cells #[.slice A1 L1 c1,.slice A2 L2 c2,.int .u8 k,.int .i64 n,.string s,.slice A3 l3 c3] 35)).alloc (.cells #[.int .u8 tk,.int .i64 tn,.string ts,.slice B ks.length tc] 29)=Wb:=⟨_,rfl⟩
 rw[oq] at hbw mr hbN ⊢;have lJ:=zh (show Wb.heap.size=W.heap.size+2 by rw[<-oq];simp);have aR:=zh hbw;have HBP:=zh mr;have qP:=zh hbN;have iK:=zh (show ∀ w':World,w'.heap[W.heap.size]?=Wb.heap[W.heap.size]?->w'.heap[W.heap.size+1]?=Wb.heap[W.heap.size+1]?->(fun w':World=>(w'.cell? ⟨W.heap.size,0,none⟩=some (.slice A1 L1 c1)/\w'.cell? ⟨W.heap.size,1,none⟩=some (.slice A2 L2 c2)/\w'.cell? ⟨W.heap.size,2,none⟩=some (.int .u8 k)/\w'.cell? ⟨W.heap.size,3,none⟩=some (.int .i64 n)/\w'.cell? ⟨W.heap.size,4,none⟩=some (.string s)/\w'.cell? ⟨W.heap.size,5,none⟩=some (.slice A3 l3 c3))/\(w'.cell? ⟨W.heap.size+1,0,none⟩=some (.int .u8 tk)/\w'.cell? ⟨W.heap.size+1,1,none⟩=some (.int .i64 tn)/\w'.cell? ⟨W.heap.size+1,2,none⟩=some (.string ts)/\w'.cell? ⟨W.heap.size+1,3,none⟩=some (.slice B ks.length tc))) w' from fun w' h1 h2=>⟨box6 (h1.trans mr),box4 (h2.trans hbN)⟩)
 have eu:=zh (show ∀ w':World,Chg (fun b=>b=fb\/pw.ownBlock=some b) Wb w'->(fun w':World=>(w'.cell? ⟨W.heap.size,0,none⟩=some (.slice A1 L1 c1)/\w'.cell? ⟨W.heap.size,1,none⟩=some (.slice A2 L2 c2)/\w'.cell? ⟨W.heap.size,2,none⟩=some (.int .u8 k)/\w'.cell? ⟨W.heap.size,3,none⟩=some (.int .i64 n)/\w'.cell? ⟨W.heap.size,4,none⟩=some (.string s)/\w'.cell? ⟨W.heap.size,5,none⟩=some (.slice A3 l3 c3))/\(w'.cell? ⟨W.heap.size+1,0,none⟩=some (.int .u8 tk)/\w'.cell? ⟨W.heap.size+1,1,none⟩=some (.int .i64 tn)/\w'.cell? ⟨W.heap.size+1,2,none⟩=some (.string ts)/\w'.cell? ⟨W.heap.size+1,3,none⟩=some (.slice B ks.length tc))) w' from fun w' h=>iK.out w' (h.block _ (by have:=lJ.out;omega) (fun hh=>by rcases hh with hh|hh;(have:=mg.out.1;omega);(have:=(mg.out.2 _ hh).2;omega))) (h.block _ (by have:=lJ.out;omega) (fun hh=>by rcases hh with hh|hh;(have:=mg.out.1;omega);(have:=(mg.out.2 _ hh).2;omega))))
 have iA:=zh (show ∀ w':World,Chg (fun b=>b=fb\/pw.ownBlock=some b) Wb w'->∀ b,S b->b<W.heap.size->w'.heap[b]?=W.heap[b]? from fun w' h b hb hlt=>(h.block b (by have:=lJ.out;omega) (HFAR.out b hb hlt)).trans (aR.out.block b hlt));have hi0:VsI Rd n0 fb Wb pw N Wb pw:=⟨aP.out.keep W Wb pw N kN.out sw.out (Chg.of_below hbw),sw.out.later hbw,fun b hb=>.inl hb,Chg.refl _ _⟩
 have HI0:=zh hi0;clear oq hbw mr hbN hi0;have hdr:=(Below.refl Wb.heap.size Wb).drew;have hSS:(fun w':World=>(w'.cell? ⟨W.heap.size,0,none⟩=some (.slice A1 L1 c1)/\w'.cell? ⟨W.heap.size,1,none⟩=some (.slice A2 L2 c2)/\w'.cell? ⟨W.heap.size,2,none⟩=some (.int .u8 k)/\w'.cell? ⟨W.heap.size,3,none⟩=some (.int .i64 n)/\w'.cell? ⟨W.heap.size,4,none⟩=some (.string s)/\w'.cell? ⟨W.heap.size,5,none⟩=some (.slice A3 l3 c3))/\(w'.cell? ⟨W.heap.size+1,0,none⟩=some (.int .u8 tk)/\w'.cell? ⟨W.heap.size+1,1,none⟩=some (.int .i64 tn)/\w'.cell? ⟨W.heap.size+1,2,none⟩=some (.string ts)/\w'.cell? ⟨W.heap.size+1,3,none⟩=some (.slice B ks.length tc))) Wb.drew/\(fun _:World=>True) Wb.drew:=⟨eu.out _ (Chg.of_below hdr),trivial⟩
 refine wp_region_noPanic ?_;refine zke (fun w':World=>(w'.cell? ⟨W.heap.size,0,none⟩=some (.slice A1 L1 c1)/\w'.cell? ⟨W.heap.size,1,none⟩=some (.slice A2 L2 c2)/\w'.cell? ⟨W.heap.size,2,none⟩=some (.int .u8 k)/\w'.cell? ⟨W.heap.size,3,none⟩=some (.int .i64 n)/\w'.cell? ⟨W.heap.size,4,none⟩=some (.string s)/\w'.cell? ⟨W.heap.size,5,none⟩=some (.slice A3 l3 c3))/\(w'.cell? ⟨W.heap.size+1,0,none⟩=some (.int .u8 tk)/\w'.cell? ⟨W.heap.size+1,1,none⟩=some (.int .i64 tn)/\w'.cell? ⟨W.heap.size+1,2,none⟩=some (.string ts)/\w'.cell? ⟨W.heap.size+1,3,none⟩=some (.slice B ks.length tc))) (fun _:World=>True) 20 (by kernel_rfl) ?_;refine zT 0 hSS ?_;(try simp only[zQ]);refine zT 1 hSS ?_;(try simp only[zQ]);refine zT 2 hSS ?_;(try simp only[zQ]);refine zT 3 hSS ?_;(try simp only[zQ]);refine zT 4 hSS ?_;(try simp only[zQ]);refine zT 5 hSS ?_;(try simp only[zQ]);refine zT 6 hSS ?_
 (try simp only[zQ]);refine zo 7 fun K hK=>?_;refine zkg (by rfl) (.func 137) [.tmp 18,.tmp 19,.tmp 20] _ (by rfl) 137 _ zuh (by rfl) _ (by rfl) _ (zm1 (zrL p (.nd tk tn ts ks) vs A c S S S _ _ _ (rQ.out.later (zka aR.out hdr)) (gG.out.later (zka aR.out hdr)) (ag.out.later (zka aR.out hdr)) vQ.out)) ?_;rintro vq w2 ⟨rfl,aj⟩;simp only[T.k_nd,T.s_nd,T.ks_nd];rw[uq.out];have b2:=zka hdr aj
 have aA:(fun w':World=>(w'.cell? ⟨W.heap.size,0,none⟩=some (.slice A1 L1 c1)/\w'.cell? ⟨W.heap.size,1,none⟩=some (.slice A2 L2 c2)/\w'.cell? ⟨W.heap.size,2,none⟩=some (.int .u8 k)/\w'.cell? ⟨W.heap.size,3,none⟩=some (.int .i64 n)/\w'.cell? ⟨W.heap.size,4,none⟩=some (.string s)/\w'.cell? ⟨W.heap.size,5,none⟩=some (.slice A3 l3 c3))/\(w'.cell? ⟨W.heap.size+1,0,none⟩=some (.int .u8 tk)/\w'.cell? ⟨W.heap.size+1,1,none⟩=some (.int .i64 tn)/\w'.cell? ⟨W.heap.size+1,2,none⟩=some (.string ts)/\w'.cell? ⟨W.heap.size+1,3,none⟩=some (.slice B ks.length tc))) w2/\(fun _:World=>True) w2:=⟨eu.out _ (Chg.of_below b2),trivial⟩
 refine hK.out _ _ aA ?_;clear hK K hSS;(try simp only[zQ]);refine zo 8 fun K hK=>?_;refine zk8 (by rfl) (.tmp 14) [.tmp 15,.tmp 17,.tmp 21] _ (by rfl) f fn hfn cap (by rfl) _ (by rfl) _ (zl3 (aP.out.call N pw E0 q Aq cq ts S w2 (aP.out.keep Wb w2 pw N HI0.out.rd HI0.out.fs (Chg.of_below b2)) (HI0.out.fs.later b2) ((HQR.out.later aR.out).later b2) (by omega) (by omega))) ?_;rintro vq W3 hp3;obtain⟨pv3,hi3⟩:=HI0.out.step aP.out b2 hp3
 have bU:(fun w':World=>(w'.cell? ⟨W.heap.size,0,none⟩=some (.slice A1 L1 c1)/\w'.cell? ⟨W.heap.size,1,none⟩=some (.slice A2 L2 c2)/\w'.cell? ⟨W.heap.size,2,none⟩=some (.int .u8 k)/\w'.cell? ⟨W.heap.size,3,none⟩=some (.int .i64 n)/\w'.cell? ⟨W.heap.size,4,none⟩=some (.string s)/\w'.cell? ⟨W.heap.size,5,none⟩=some (.slice A3 l3 c3))/\(w'.cell? ⟨W.heap.size+1,0,none⟩=some (.int .u8 tk)/\w'.cell? ⟨W.heap.size+1,1,none⟩=some (.int .i64 tn)/\w'.cell? ⟨W.heap.size+1,2,none⟩=some (.string ts)/\w'.cell? ⟨W.heap.size+1,3,none⟩=some (.slice B ks.length tc))) W3/\(fun _:World=>True) W3:=⟨eu.out _ hi3.chg,trivial⟩
 refine hK.out _ _ bU ?_;clear hK K aA;(try simp only[zQ]);refine zd ?_;refine NoPanic.normal ?_;obtain⟨⟨a0,a1,a2,a3,a4,a5⟩,b0,b1,b2',b3⟩:=bU.1;have HI3:=zh hi3;clear bU hi3 hp3 b2 aj hdr HI0;have HD:=zh (show ∀ w':World,Chg (fun b=>b=fb\/pw.ownBlock=some b) Wb w'->PV w' (fun b=>S b/\b<W.heap.size) p _/\NV w' (fun b=>S b/\b<W.heap.size) (.nd tk tn ts ks) _/\RowV w' (fun b=>S b/\b<W.heap.size) A vs/\RowI w' (fun b=>S b/\b<W.heap.size) Aq q/\zmc w' (fun b=>S b/\b<W.heap.size) B ks from fun w' h=>⟨rQ.out.keep (fun b hb hlt=>⟨hb,hlt⟩) (iA.out w' h),gG.out.keep (fun b hb hlt=>⟨hb,hlt⟩) (iA.out w' h),ag.out.keep (fun b hb hlt=>⟨hb,hlt⟩) (iA.out w' h),HQR.out.keep (fun b hb hlt=>⟨hb,hlt⟩) (iA.out w' h),oN.out.keep (fun b hb hlt=>⟨hb,hlt⟩) (iA.out w' h)⟩);by_cases hcall:tk=50\/tk=51
 ·rcases hcall with rfl|rfl
  ·go_wp2_with fail
   go_loopw [34] (fun i wr=>∃ (j:Nat) (pv':Value),j<=ks.length/\i=.int .i64 j/\VsI Rd n0 fb Wb pw (N+one1 E0+cntA p.prs ts ks.length 0 (ks.take j) vs) wr pv') (fun i _=>ks.length-(intOf i).toNat)
   case atStart=>exact⟨0,_,Nat.zero_le _,rfl,by simpa[cntA] using HI3.out⟩
   case round =>
    obtain⟨j,pv',hj,rfl,hinv⟩:=hrel;have af:=zh hinv;clear HI3;by_cases hlt:j<ks.length
    ·obtain⟨-,-,-,-,dw⟩:=HD.out wr hinv.chg;obtain⟨a,u,A4,c4,rfl,hsa,Hu,⟨q0,q1,q2,q3⟩,hnu⟩:=dw.nd hlt;have vL:=zh hnu;clear hinv dw hnu hsa;go_upto_region 6 with fail;have hbk:Below wr.heap.size wr (wr.alloc (.cells #[.int .u8 u.k,.int .i64 u.n,.string u.s,.slice A4 u.ks.length c4] 29)):=zkd (Below.refl _ _) _;have di:=heap_alloc_new wr (.cells #[.int .u8 u.k,.int .i64 u.n,.string u.s,.slice A4 u.ks.length c4] 29);obtain⟨wk,hwk⟩:∃ wk,wr.alloc (.cells #[.int .u8 u.k,.int .i64 u.n,.string u.s,.slice A4 u.ks.length c4] 29)=wk:=⟨_,rfl⟩
     rw[hwk] at hbk di ⊢;have dJ:=zh (show wk.heap.size=wr.heap.size+1 by rw[<-hwk];simp);have aC:=zh hbk;have eO:=zh di;clear hwk hbk di
     have bf:=zh (show ∀ w':World,Below wk.heap.size wk w'->(fun w':World=>((w'.cell? ⟨W.heap.size,0,none⟩=some (.slice A1 L1 c1)/\w'.cell? ⟨W.heap.size,1,none⟩=some (.slice A2 L2 c2)/\w'.cell? ⟨W.heap.size,2,none⟩=some (.int .u8 k)/\w'.cell? ⟨W.heap.size,3,none⟩=some (.int .i64 n)/\w'.cell? ⟨W.heap.size,4,none⟩=some (.string s)/\w'.cell? ⟨W.heap.size,5,none⟩=some (.slice A3 l3 c3))/\(w'.cell? ⟨W.heap.size+1,0,none⟩=some (.int .u8 50)/\w'.cell? ⟨W.heap.size+1,1,none⟩=some (.int .i64 tn)/\w'.cell? ⟨W.heap.size+1,2,none⟩=some (.string ts)/\w'.cell? ⟨W.heap.size+1,3,none⟩=some (.slice (some a) ks.length tc)))/\(w'.cell? ⟨wr.heap.size,0,none⟩=some (.int .u8 u.k)/\w'.cell? ⟨wr.heap.size,1,none⟩=some (.int .i64 u.n)/\w'.cell? ⟨wr.heap.size,2,none⟩=some (.string u.s)/\w'.cell? ⟨wr.heap.size,3,none⟩=some (.slice A4 u.ks.length c4))) w'/\(fun _:World=>True) w' from fun w' h=>⟨⟨eu.out w' (af.out.chg.trans (Chg.of_below (zka aC.out h))),box4 ((h.block _ (by have:=dJ.out;omega)).trans eO.out)⟩,trivial⟩)
     have hdr:=(Below.refl wk.heap.size wk).drew;have hSS:=bf.out _ hdr;refine wp_region_noPanic ?_
     refine zke (fun w':World=>((w'.cell? ⟨W.heap.size,0,none⟩=some (.slice A1 L1 c1)/\w'.cell? ⟨W.heap.size,1,none⟩=some (.slice A2 L2 c2)/\w'.cell? ⟨W.heap.size,2,none⟩=some (.int .u8 k)/\w'.cell? ⟨W.heap.size,3,none⟩=some (.int .i64 n)/\w'.cell? ⟨W.heap.size,4,none⟩=some (.string s)/\w'.cell? ⟨W.heap.size,5,none⟩=some (.slice A3 l3 c3))/\(w'.cell? ⟨W.heap.size+1,0,none⟩=some (.int .u8 50)/\w'.cell? ⟨W.heap.size+1,1,none⟩=some (.int .i64 tn)/\w'.cell? ⟨W.heap.size+1,2,none⟩=some (.string ts)/\w'.cell? ⟨W.heap.size+1,3,none⟩=some (.slice (some a) ks.length tc)))/\(w'.cell? ⟨wr.heap.size,0,none⟩=some (.int .u8 u.k)/\w'.cell? ⟨wr.heap.size,1,none⟩=some (.int .i64 u.n)/\w'.cell? ⟨wr.heap.size,2,none⟩=some (.string u.s)/\w'.cell? ⟨wr.heap.size,3,none⟩=some (.slice A4 u.ks.length c4))) (fun _:World=>True) 40 (by kernel_rfl) ?_;refine zT 0 hSS ?_;(try simp only[zQ]);refine zT 1 hSS ?_
     (try simp only[zQ]);refine zT 2 hSS ?_;(try simp only[zQ]);refine zT 4 hSS ?_;(try simp only[zQ]);refine zT 5 hSS ?_;(try simp only[zQ]);refine zT 6 hSS ?_;(try simp only[zQ]);refine zT 7 hSS ?_;(try simp only[zQ]);refine zT 8 hSS ?_;(try simp only[zQ]);refine zT 9 hSS ?_;(try simp only[zQ]);refine zo 3 fun K hK=>?_;refine zkg (by rfl) (.func 138) [.tmp 40,.tmp 41] _ (by rfl) 138 _ zpr (by rfl) _ (by rfl) _ (znb (znL q Aq cq (j:Int) ⟨by omega,by omega⟩ _ _ (HD.out _ (af.out.chg.trans (Chg.of_below (zka aC.out hdr)))).2.2.2.1 vJ.out (by omega))) ?_;rintro vq w2 ⟨Ac,cc,rfl,hrc,hcc,aj⟩;have b2:=zka hdr aj;have aA:=bf.out _ b2;refine hK.out _ _ aA ?_;clear hK K hSS;(try simp only[zQ]);refine zo 10 fun K hK=>?_
     refine zkg (by rfl) (.func 139) [.tmp 45,.tmp 46,.tmp 47,.tmp 48] _ (by rfl) 139 _ zn9 (by rfl) _ (by rfl) _ (zm1 (zm4 p (.nd 50 tn ts ks) j hlt vs A c _ _ _ _ _ _ (HD.out _ (af.out.chg.trans (Chg.of_below (zka aC.out b2)))).1 (HD.out _ (af.out.chg.trans (Chg.of_below (zka aC.out b2)))).2.1 (HD.out _ (af.out.chg.trans (Chg.of_below (zka aC.out b2)))).2.2.1 vQ.out)) ?_;rintro vq w3 ⟨rfl,aU⟩;simp only[T.k_nd,T.s_nd,T.ks_nd];have b3:=zka b2 aU;have bU:=bf.out _ b3;refine hK.out _ _ bU ?_;clear hK K aA;(try simp only[zQ]);refine zo 11 fun K hK=>?_;have hcl:cntA p.prs ts ks.length 0 (ks.take j) vs<=zk1 ks:=Nat.le_trans (zoD _ _ _ _ _ _) (zlm _ _);have hF:=af.out.fs.later (zka aC.out b3);have hR:=aP.out.keep _ _ _ _ af.out.rd af.out.fs (Chg.of_below (zka aC.out b3))
     refine zk8 (by rfl) (.tmp 39) [.tmp 42,.tmp 44,.tmp 49] _ (by rfl) f fn hfn cap (by rfl) _ (by rfl) _ (zl3 (aP.out.call _ pv' _ (q++[(j:Int)]) Ac cc u.s _ w3 hR hF (hrc.later aU) (by simp;omega) (by omega))) ?_;rintro vq W6 hp;obtain⟨fA,bF⟩:=af.out.step aP.out (zka aC.out b3) hp;have bB:VsI Rd n0 fb Wb pw (N+one1 E0+cntA p.prs ts ks.length 0 (ks.take (j+1)) vs) W6 fA:=by rw[zo2 p.prs ts ks.length vs hlt];simpa[Nat.add_assoc] using bF
     have aH:(fun w':World=>((w'.cell? ⟨W.heap.size,0,none⟩=some (.slice A1 L1 c1)/\w'.cell? ⟨W.heap.size,1,none⟩=some (.slice A2 L2 c2)/\w'.cell? ⟨W.heap.size,2,none⟩=some (.int .u8 k)/\w'.cell? ⟨W.heap.size,3,none⟩=some (.int .i64 n)/\w'.cell? ⟨W.heap.size,4,none⟩=some (.string s)/\w'.cell? ⟨W.heap.size,5,none⟩=some (.slice A3 l3 c3))/\(w'.cell? ⟨W.heap.size+1,0,none⟩=some (.int .u8 50)/\w'.cell? ⟨W.heap.size+1,1,none⟩=some (.int .i64 tn)/\w'.cell? ⟨W.heap.size+1,2,none⟩=some (.string ts)/\w'.cell? ⟨W.heap.size+1,3,none⟩=some (.slice (some a) ks.length tc)))/\(w'.cell? ⟨wr.heap.size,0,none⟩=some (.int .u8 u.k)/\w'.cell? ⟨wr.heap.size,1,none⟩=some (.int .i64 u.n)/\w'.cell? ⟨wr.heap.size,2,none⟩=some (.string u.s)/\w'.cell? ⟨wr.heap.size,3,none⟩=some (.slice A4 u.ks.length c4))) W6/\(fun _:World=>True) W6:=⟨⟨eu.out _ bB.chg,box4 ((hp.2.elim fun _ h=>h.2.2.block _ (by have:=(zka aC.out b3).size;have:=b3.size;have:=dJ.out;omega) (fun hh=>by have hl:=af.out.fs.lt;rcases hh with hh|hh;(have:=hl.1;omega);(have:=(hl.2 _ hh).2;omega))).trans ((b3.block _ (by have:=dJ.out;omega)).trans eO.out))⟩,trivial⟩
     refine hK.out _ _ aH ?_;clear hK K bU;(try simp only[zQ]);refine zd ?_;refine NoPanic.normal ?_;have iP:=zh bB;clear bB bF hp aH hF hR;go_wp2_with fail
     go_roundw
     case rel=>exact⟨j+1,_,by omega,by go_num,iP.out⟩
     case measure=>simp[intOf];omega
    ·obtain rfl:j=ks.length:=by omega
     clear hinv;go_wp2_with fail;(try simp only[Exit.inBlock,Exit.then]);refine bodyPost_ret (results_none rfl _ _ _) rfl ?_;have hinv:=af.out;rw[List.take_of_length_le (Nat.le_refl _)] at hinv;have hcc:=bD.out;rw[cntV,uq.out,if_pos (by decide)] at hcc;rw[<-hcc,<-Nat.add_assoc];exact hinv.rep aR.out ⟨_,rfl⟩
  ·go_wp2_with fail
   go_loopw [34] (fun i wr=>∃ (j:Nat) (pv':Value),j<=ks.length/\i=.int .i64 j/\VsI Rd n0 fb Wb pw (N+one1 E0+cntA p.prs ts ks.length 0 (ks.take j) vs) wr pv') (fun i _=>ks.length-(intOf i).toNat)
   case atStart=>exact⟨0,_,Nat.zero_le _,rfl,by simpa[cntA] using HI3.out⟩
   case round =>
    obtain⟨j,pv',hj,rfl,hinv⟩:=hrel;have af:=zh hinv;clear HI3;by_cases hlt:j<ks.length
    ·obtain⟨-,-,-,-,dw⟩:=HD.out wr hinv.chg;obtain⟨a,u,A4,c4,rfl,hsa,Hu,⟨q0,q1,q2,q3⟩,hnu⟩:=dw.nd hlt;have vL:=zh hnu;clear hinv dw hnu hsa;go_upto_region 6 with fail;have hbk:Below wr.heap.size wr (wr.alloc (.cells #[.int .u8 u.k,.int .i64 u.n,.string u.s,.slice A4 u.ks.length c4] 29)):=zkd (Below.refl _ _) _;have di:=heap_alloc_new wr (.cells #[.int .u8 u.k,.int .i64 u.n,.string u.s,.slice A4 u.ks.length c4] 29);obtain⟨wk,hwk⟩:∃ wk,wr.alloc (.cells #[.int .u8 u.k,.int .i64 u.n,.string u.s,.slice A4 u.ks.length c4] 29)=wk:=⟨_,rfl⟩
     rw[hwk] at hbk di ⊢;have dJ:=zh (show wk.heap.size=wr.heap.size+1 by rw[<-hwk];simp);have aC:=zh hbk;have eO:=zh di;clear hwk hbk di
     have bf:=zh (show ∀ w':World,Below wk.heap.size wk w'->(fun w':World=>((w'.cell? ⟨W.heap.size,0,none⟩=some (.slice A1 L1 c1)/\w'.cell? ⟨W.heap.size,1,none⟩=some (.slice A2 L2 c2)/\w'.cell? ⟨W.heap.size,2,none⟩=some (.int .u8 k)/\w'.cell? ⟨W.heap.size,3,none⟩=some (.int .i64 n)/\w'.cell? ⟨W.heap.size,4,none⟩=some (.string s)/\w'.cell? ⟨W.heap.size,5,none⟩=some (.slice A3 l3 c3))/\(w'.cell? ⟨W.heap.size+1,0,none⟩=some (.int .u8 51)/\w'.cell? ⟨W.heap.size+1,1,none⟩=some (.int .i64 tn)/\w'.cell? ⟨W.heap.size+1,2,none⟩=some (.string ts)/\w'.cell? ⟨W.heap.size+1,3,none⟩=some (.slice (some a) ks.length tc)))/\(w'.cell? ⟨wr.heap.size,0,none⟩=some (.int .u8 u.k)/\w'.cell? ⟨wr.heap.size,1,none⟩=some (.int .i64 u.n)/\w'.cell? ⟨wr.heap.size,2,none⟩=some (.string u.s)/\w'.cell? ⟨wr.heap.size,3,none⟩=some (.slice A4 u.ks.length c4))) w'/\(fun _:World=>True) w' from fun w' h=>⟨⟨eu.out w' (af.out.chg.trans (Chg.of_below (zka aC.out h))),box4 ((h.block _ (by have:=dJ.out;omega)).trans eO.out)⟩,trivial⟩)
     have hdr:=(Below.refl wk.heap.size wk).drew;have hSS:=bf.out _ hdr;refine wp_region_noPanic ?_
     refine zke (fun w':World=>((w'.cell? ⟨W.heap.size,0,none⟩=some (.slice A1 L1 c1)/\w'.cell? ⟨W.heap.size,1,none⟩=some (.slice A2 L2 c2)/\w'.cell? ⟨W.heap.size,2,none⟩=some (.int .u8 k)/\w'.cell? ⟨W.heap.size,3,none⟩=some (.int .i64 n)/\w'.cell? ⟨W.heap.size,4,none⟩=some (.string s)/\w'.cell? ⟨W.heap.size,5,none⟩=some (.slice A3 l3 c3))/\(w'.cell? ⟨W.heap.size+1,0,none⟩=some (.int .u8 51)/\w'.cell? ⟨W.heap.size+1,1,none⟩=some (.int .i64 tn)/\w'.cell? ⟨W.heap.size+1,2,none⟩=some (.string ts)/\w'.cell? ⟨W.heap.size+1,3,none⟩=some (.slice (some a) ks.length tc)))/\(w'.cell? ⟨wr.heap.size,0,none⟩=some (.int .u8 u.k)/\w'.cell? ⟨wr.heap.size,1,none⟩=some (.int .i64 u.n)/\w'.cell? ⟨wr.heap.size,2,none⟩=some (.string u.s)/\w'.cell? ⟨wr.heap.size,3,none⟩=some (.slice A4 u.ks.length c4))) (fun _:World=>True) 40 (by kernel_rfl) ?_;refine zT 0 hSS ?_;(try simp only[zQ]);refine zT 1 hSS ?_
     (try simp only[zQ]);refine zT 2 hSS ?_;(try simp only[zQ]);refine zT 4 hSS ?_;(try simp only[zQ]);refine zT 5 hSS ?_;(try simp only[zQ]);refine zT 6 hSS ?_;(try simp only[zQ]);refine zT 7 hSS ?_;(try simp only[zQ]);refine zT 8 hSS ?_;(try simp only[zQ]);refine zT 9 hSS ?_;(try simp only[zQ]);refine zo 3 fun K hK=>?_;refine zkg (by rfl) (.func 138) [.tmp 40,.tmp 41] _ (by rfl) 138 _ zpr (by rfl) _ (by rfl) _ (znb (znL q Aq cq (j:Int) ⟨by omega,by omega⟩ _ _ (HD.out _ (af.out.chg.trans (Chg.of_below (zka aC.out hdr)))).2.2.2.1 vJ.out (by omega))) ?_;rintro vq w2 ⟨Ac,cc,rfl,hrc,hcc,aj⟩;have b2:=zka hdr aj;have aA:=bf.out _ b2;refine hK.out _ _ aA ?_;clear hK K hSS;(try simp only[zQ]);refine zo 10 fun K hK=>?_
     refine zkg (by rfl) (.func 139) [.tmp 45,.tmp 46,.tmp 47,.tmp 48] _ (by rfl) 139 _ zn9 (by rfl) _ (by rfl) _ (zm1 (zm4 p (.nd 51 tn ts ks) j hlt vs A c _ _ _ _ _ _ (HD.out _ (af.out.chg.trans (Chg.of_below (zka aC.out b2)))).1 (HD.out _ (af.out.chg.trans (Chg.of_below (zka aC.out b2)))).2.1 (HD.out _ (af.out.chg.trans (Chg.of_below (zka aC.out b2)))).2.2.1 vQ.out)) ?_;rintro vq w3 ⟨rfl,aU⟩;simp only[T.k_nd,T.s_nd,T.ks_nd];have b3:=zka b2 aU;have bU:=bf.out _ b3;refine hK.out _ _ bU ?_;clear hK K aA;(try simp only[zQ]);refine zo 11 fun K hK=>?_;have hcl:cntA p.prs ts ks.length 0 (ks.take j) vs<=zk1 ks:=Nat.le_trans (zoD _ _ _ _ _ _) (zlm _ _);have hF:=af.out.fs.later (zka aC.out b3);have hR:=aP.out.keep _ _ _ _ af.out.rd af.out.fs (Chg.of_below (zka aC.out b3))
     refine zk8 (by rfl) (.tmp 39) [.tmp 42,.tmp 44,.tmp 49] _ (by rfl) f fn hfn cap (by rfl) _ (by rfl) _ (zl3 (aP.out.call _ pv' _ (q++[(j:Int)]) Ac cc u.s _ w3 hR hF (hrc.later aU) (by simp;omega) (by omega))) ?_;rintro vq W6 hp;obtain⟨fA,bF⟩:=af.out.step aP.out (zka aC.out b3) hp;have bB:VsI Rd n0 fb Wb pw (N+one1 E0+cntA p.prs ts ks.length 0 (ks.take (j+1)) vs) W6 fA:=by rw[zo2 p.prs ts ks.length vs hlt];simpa[Nat.add_assoc] using bF
     have aH:(fun w':World=>((w'.cell? ⟨W.heap.size,0,none⟩=some (.slice A1 L1 c1)/\w'.cell? ⟨W.heap.size,1,none⟩=some (.slice A2 L2 c2)/\w'.cell? ⟨W.heap.size,2,none⟩=some (.int .u8 k)/\w'.cell? ⟨W.heap.size,3,none⟩=some (.int .i64 n)/\w'.cell? ⟨W.heap.size,4,none⟩=some (.string s)/\w'.cell? ⟨W.heap.size,5,none⟩=some (.slice A3 l3 c3))/\(w'.cell? ⟨W.heap.size+1,0,none⟩=some (.int .u8 51)/\w'.cell? ⟨W.heap.size+1,1,none⟩=some (.int .i64 tn)/\w'.cell? ⟨W.heap.size+1,2,none⟩=some (.string ts)/\w'.cell? ⟨W.heap.size+1,3,none⟩=some (.slice (some a) ks.length tc)))/\(w'.cell? ⟨wr.heap.size,0,none⟩=some (.int .u8 u.k)/\w'.cell? ⟨wr.heap.size,1,none⟩=some (.int .i64 u.n)/\w'.cell? ⟨wr.heap.size,2,none⟩=some (.string u.s)/\w'.cell? ⟨wr.heap.size,3,none⟩=some (.slice A4 u.ks.length c4))) W6/\(fun _:World=>True) W6:=⟨⟨eu.out _ bB.chg,box4 ((hp.2.elim fun _ h=>h.2.2.block _ (by have:=(zka aC.out b3).size;have:=b3.size;have:=dJ.out;omega) (fun hh=>by have hl:=af.out.fs.lt;rcases hh with hh|hh;(have:=hl.1;omega);(have:=(hl.2 _ hh).2;omega))).trans ((b3.block _ (by have:=dJ.out;omega)).trans eO.out))⟩,trivial⟩
     refine hK.out _ _ aH ?_;clear hK K bU;(try simp only[zQ]);refine zd ?_;refine NoPanic.normal ?_;have iP:=zh bB;clear bB bF hp aH hF hR;go_wp2_with fail
     go_roundw
     case rel=>exact⟨j+1,_,by omega,by go_num,iP.out⟩
     case measure=>simp[intOf];omega
    ·obtain rfl:j=ks.length:=by omega
     clear hinv;go_wp2_with fail;(try simp only[Exit.inBlock,Exit.then]);refine bodyPost_ret (results_none rfl _ _ _) rfl ?_;have hinv:=af.out;rw[List.take_of_length_le (Nat.le_refl _)] at hinv;have hcc:=bD.out;rw[cntV,uq.out,if_pos (by decide)] at hcc;rw[<-hcc,<-Nat.add_assoc];exact hinv.rep aR.out ⟨_,rfl⟩
 ·obtain⟨h50,lI⟩:=not_or.1 hcall;have hd50:(tk==50)=false:=beq_false_of_ne h50;have hd51:(tk==51)=false:=beq_false_of_ne lI;go_wp2_with fail
  go_loopw [55] (fun i wr=>∃ (j:Nat) (pv':Value),j<=ks.length/\i=.int .i64 j/\VsI Rd n0 fb Wb pw (N+one1 E0+cntK p.prs tk ts 0 (ks.take j) vs) wr pv') (fun i _=>ks.length-(intOf i).toNat)
  case atStart=>exact⟨0,_,Nat.zero_le _,rfl,by simpa[cntK] using HI3.out⟩
  case round =>
   obtain⟨j,pv',hj,rfl,hinv⟩:=hrel;have af:=zh hinv;clear HI3;by_cases hlt:j<ks.length
   ·obtain⟨-,-,-,-,dw⟩:=HD.out wr hinv.chg;obtain⟨a,u,A4,c4,rfl,hsa,Hu,⟨q0,q1,q2,q3⟩,hnu⟩:=dw.nd hlt;have vL:=zh hnu;clear hinv dw hnu hsa;go_upto_region 11 with fail;have hbk:Below wr.heap.size wr (wr.alloc (.cells #[.int .u8 u.k,.int .i64 u.n,.string u.s,.slice A4 u.ks.length c4] 29)):=zkd (Below.refl _ _) _;have di:=heap_alloc_new wr (.cells #[.int .u8 u.k,.int .i64 u.n,.string u.s,.slice A4 u.ks.length c4] 29);obtain⟨wk,hwk⟩:∃ wk,wr.alloc (.cells #[.int .u8 u.k,.int .i64 u.n,.string u.s,.slice A4 u.ks.length c4] 29)=wk:=⟨_,rfl⟩
    rw[hwk] at hbk di ⊢;have dJ:=zh (show wk.heap.size=wr.heap.size+1 by rw[<-hwk];simp);have aC:=zh hbk;have eO:=zh di;clear hwk hbk di
    have bf:=zh (show ∀ w':World,Below wk.heap.size wk w'->(fun w':World=>((w'.cell? ⟨W.heap.size,0,none⟩=some (.slice A1 L1 c1)/\w'.cell? ⟨W.heap.size,1,none⟩=some (.slice A2 L2 c2)/\w'.cell? ⟨W.heap.size,2,none⟩=some (.int .u8 k)/\w'.cell? ⟨W.heap.size,3,none⟩=some (.int .i64 n)/\w'.cell? ⟨W.heap.size,4,none⟩=some (.string s)/\w'.cell? ⟨W.heap.size,5,none⟩=some (.slice A3 l3 c3))/\(w'.cell? ⟨W.heap.size+1,0,none⟩=some (.int .u8 tk)/\w'.cell? ⟨W.heap.size+1,1,none⟩=some (.int .i64 tn)/\w'.cell? ⟨W.heap.size+1,2,none⟩=some (.string ts)/\w'.cell? ⟨W.heap.size+1,3,none⟩=some (.slice (some a) ks.length tc)))/\(w'.cell? ⟨wr.heap.size,0,none⟩=some (.int .u8 u.k)/\w'.cell? ⟨wr.heap.size,1,none⟩=some (.int .i64 u.n)/\w'.cell? ⟨wr.heap.size,2,none⟩=some (.string u.s)/\w'.cell? ⟨wr.heap.size,3,none⟩=some (.slice A4 u.ks.length c4))) w'/\(fun _:World=>True) w' from fun w' h=>⟨⟨eu.out w' (af.out.chg.trans (Chg.of_below (zka aC.out h))),box4 ((h.block _ (by have:=dJ.out;omega)).trans eO.out)⟩,trivial⟩)
    have hdr:=(Below.refl wk.heap.size wk).drew;have hSS:=bf.out _ hdr;refine wp_region_noPanic ?_
    refine zke (fun w':World=>((w'.cell? ⟨W.heap.size,0,none⟩=some (.slice A1 L1 c1)/\w'.cell? ⟨W.heap.size,1,none⟩=some (.slice A2 L2 c2)/\w'.cell? ⟨W.heap.size,2,none⟩=some (.int .u8 k)/\w'.cell? ⟨W.heap.size,3,none⟩=some (.int .i64 n)/\w'.cell? ⟨W.heap.size,4,none⟩=some (.string s)/\w'.cell? ⟨W.heap.size,5,none⟩=some (.slice A3 l3 c3))/\(w'.cell? ⟨W.heap.size+1,0,none⟩=some (.int .u8 tk)/\w'.cell? ⟨W.heap.size+1,1,none⟩=some (.int .i64 tn)/\w'.cell? ⟨W.heap.size+1,2,none⟩=some (.string ts)/\w'.cell? ⟨W.heap.size+1,3,none⟩=some (.slice (some a) ks.length tc)))/\(w'.cell? ⟨wr.heap.size,0,none⟩=some (.int .u8 u.k)/\w'.cell? ⟨wr.heap.size,1,none⟩=some (.int .i64 u.n)/\w'.cell? ⟨wr.heap.size,2,none⟩=some (.string u.s)/\w'.cell? ⟨wr.heap.size,3,none⟩=some (.slice A4 u.ks.length c4))) (fun _:World=>True) 40 (by kernel_rfl) ?_;refine zT 0 hSS ?_;(try simp only[zQ]);refine zT 1 hSS ?_
    (try simp only[zQ]);refine zT 2 hSS ?_;(try simp only[zQ]);refine zT 3 hSS ?_;(try simp only[zQ]);refine zT 5 hSS ?_;(try simp only[zQ]);refine zT 6 hSS ?_;(try simp only[zQ]);refine zT 7 hSS ?_;(try simp only[zQ]);refine zT 9 hSS ?_;(try simp only[zQ]);refine zo 4 fun K hK=>?_;refine zkg (by rfl) (.func 138) [.tmp 62,.tmp 63] _ (by rfl) 138 _ zpr (by rfl) _ (by rfl) _ (znb (znL q Aq cq (j:Int) ⟨by omega,by omega⟩ _ _ (HD.out _ (af.out.chg.trans (Chg.of_below (zka aC.out hdr)))).2.2.2.1 vJ.out (by omega))) ?_;rintro vq w2 ⟨Ac,cc,rfl,hrc,hcc,aj⟩;have b2:=zka hdr aj;have aA:=bf.out _ b2;refine hK.out _ _ aA ?_;clear hK K hSS;(try simp only[zQ]);refine zo 8 fun K hK=>?_
    refine zkg (by rfl) (.func 140) [.tmp 65,.tmp 66,.tmp 67] _ (by rfl) 140 _ zug (by rfl) _ (by rfl) _ (zq7 (zry (.nd tk tn ts ks) j (by omega) vs A c _ _ _ _ (HD.out _ (af.out.chg.trans (Chg.of_below (zka aC.out b2)))).2.1 (HD.out _ (af.out.chg.trans (Chg.of_below (zka aC.out b2)))).2.2.1 rZ.out (by omega))) ?_;simp only[T.k_nd,T.s_nd,T.ks_nd];rintro vq w3 ⟨Av,cv,rfl,dW,hcv,aU⟩;have b3:=zka b2 aU;have bU:=bf.out _ b3;refine hK.out _ _ bU ?_;clear hK K aA;(try simp only[zQ]);refine zo 10 fun K hK=>?_;have hcl:cntK p.prs tk ts 0 (ks.take j) vs<=zk1 (ks.take j):=zpz _ _ _ _ (fun t _ vs=>zrQ _ t vs) _ _;have hsz:=zlm ks (j+1);rw[zqn ks j hlt,Hu.out] at hsz;have hmem:u∈ks:=by rw[<-Hu.out];exact List.getElem_mem hlt
    have hdu:=ztR hmem;have hil:=zqA tk ts j vs;have hzb:=af.out.chg.size;have hz0:=lJ.out;have hzk:=dJ.out;have hfl:=af.out.fs.lt;have hF:=af.out.fs.later (zka aC.out b3);have hR:=aP.out.keep _ _ _ _ af.out.rd af.out.fs (Chg.of_below (zka aC.out b3));have hzz:=hdr.size;have sM:=aj.size;have hzw2:=b2.size
    refine zkg (by rfl) (.func 95) [.tmp 60,.tmp 61,.tmp 64,.tmp 68,.tmp 69] _ (by rfl) 95 _ zuc (by rfl) _ (by rfl) _ (zl3 (sj.out u hmem (fun b=>(S b/\b<W.heap.size)\/wk.heap.size<=b) (zl6 tk ts j vs) Av cv (q++[(j:Int)]) Ac cc (N+one1 E0+cntK p.prs tk ts 0 (ks.take j) vs) pv' w3 _ _ hR hF ((HD.out _ (af.out.chg.trans (Chg.of_below (zka aC.out b3)))).1.keep (fun b hb _=>.inl hb) (fun _ _ _=>rfl)) ((vL.out.later (zka aC.out b3)).keep (fun b hb _=>.inl hb) (fun _ _ _=>rfl)) (dW.mono fun b hb=>by rcases hb with hb|hb;exact .inl hb;exact .inr (by omega)) hcv ((hrc.later aU).mono fun b hb=>.inr (by have:_<=b:=hb;omega)) hcc (fun b hb hlt' hh=>?_) (by simp;omega) (by omega) (by omega))) ?_
    ·rcases hb with⟨hb,hbl⟩|hb
     ·refine HFAR.out b hb hbl (hh.imp id fun h=>?_);rcases af.out.own b h with h1|h1
      ·exact h1
      ·omega
     ·rcases hh with rfl|hh
      ·omega
      ·have:=hfl.2 b hh;omega
    rintro vq W6 hp;obtain⟨fA,bF⟩:=af.out.step aP.out (zka aC.out b3) hp;have bB:VsI Rd n0 fb Wb pw (N+one1 E0+cntK p.prs tk ts 0 (ks.take (j+1)) vs) W6 fA:=by rw[zrR p.prs tk ts vs hlt,Hu.out];simpa[Nat.add_assoc] using bF
    have aH:(fun w':World=>((w'.cell? ⟨W.heap.size,0,none⟩=some (.slice A1 L1 c1)/\w'.cell? ⟨W.heap.size,1,none⟩=some (.slice A2 L2 c2)/\w'.cell? ⟨W.heap.size,2,none⟩=some (.int .u8 k)/\w'.cell? ⟨W.heap.size,3,none⟩=some (.int .i64 n)/\w'.cell? ⟨W.heap.size,4,none⟩=some (.string s)/\w'.cell? ⟨W.heap.size,5,none⟩=some (.slice A3 l3 c3))/\(w'.cell? ⟨W.heap.size+1,0,none⟩=some (.int .u8 tk)/\w'.cell? ⟨W.heap.size+1,1,none⟩=some (.int .i64 tn)/\w'.cell? ⟨W.heap.size+1,2,none⟩=some (.string ts)/\w'.cell? ⟨W.heap.size+1,3,none⟩=some (.slice (some a) ks.length tc)))/\(w'.cell? ⟨wr.heap.size,0,none⟩=some (.int .u8 u.k)/\w'.cell? ⟨wr.heap.size,1,none⟩=some (.int .i64 u.n)/\w'.cell? ⟨wr.heap.size,2,none⟩=some (.string u.s)/\w'.cell? ⟨wr.heap.size,3,none⟩=some (.slice A4 u.ks.length c4))) W6/\(fun _:World=>True) W6:=⟨⟨eu.out _ bB.chg,box4 ((hp.2.elim fun _ h=>h.2.2.block _ (by have:=(zka aC.out b3).size;have:=b3.size;have:=dJ.out;omega) (fun hh=>by have hl:=af.out.fs.lt;rcases hh with hh|hh;(have:=hl.1;omega);(have:=(hl.2 _ hh).2;omega))).trans ((b3.block _ (by have:=dJ.out;omega)).trans eO.out))⟩,trivial⟩
    refine hK.out _ _ aH ?_;clear hK K bU;(try simp only[zQ]);refine zd ?_;refine NoPanic.normal ?_;have iP:=zh bB;clear bB bF hp aH hF hR;go_wp2_with fail
    go_roundw
    case rel=>exact⟨j+1,_,by omega,by go_num,iP.out⟩
    case measure=>simp[intOf];omega
   ·obtain rfl:j=ks.length:=by omega
    clear hinv;go_wp2_with fail;go_end0;have hinv:=af.out;rw[List.take_of_length_le (Nat.le_refl _)] at hinv;have hcc:=bD.out;rw[cntV,uq.out,if_neg hcall] at hcc;rw[<-hcc,<-Nat.add_assoc];exact hinv.rep aR.out ⟨_,rfl⟩
theorem zub (k n:Int) (s:ByteArray) (ks:List T):isB (.nd k n s ks)=true↔k=57/\zkm n s=true/\∀ t∈ks,isS t=true:=by
 rw[isB];simp only[Bool.and_eq_true,decide_eq_true_eq,and_assoc];refine and_congr Iff.rfl (and_congr Iff.rfl ?_);rw[zow 0,zkz]
 constructor
 ·intro h t ht;obtain⟨q,hq,rfl⟩:=List.getElem_of_mem ht;exact h q hq
 ·intro h q hq;exact h _ (List.getElem_mem hq)
theorem zvu {t:T} (h:isB t=true):t.k=57:=by cases t;exact((zub _ _ _ _).1 h).1
theorem zmT {x:T}:∀ {l:List T},x∈pos l↔∃ t∈l,x∈po t
 | []=>by simp[pos]
 | t::ts=>by simp[pos,zmT (l:=ts)]
theorem zru:∀ (ks:List T),(∀ t∈ks,∀ d l,lim t d l=if dep t<=d/\size t<=l then some (l-size t) else none)->∀ d l,lims ks d l=if deps ks<=d/\zk1 ks<=l then some (l-zk1 ks) else none
 | [],_,d,l=>by simp[lims,deps,zk1]
 | t::ts,h,d,l=>by
  have e1:deps (t::ts)=max (dep t) (deps ts):=by rw[deps]
  have e2:zk1 (t::ts)=size t+zk1 ts:=by rw[zk1]
  rw[lims,h t (by simp) d l];by_cases h1:dep t<=d/\size t<=l
  ·rw[if_pos h1];simp only;rw[zru ts (fun u hu=>h u (by simp[hu])) d (l-size t)];by_cases h2:deps ts<=d/\zk1 ts<=l-size t
   ·rw[if_pos h2,if_pos ⟨by omega,by omega⟩];congr 1;omega
   ·rw[if_neg h2,if_neg (by omega)]
  ·rw[if_neg h1];simp only;rw[if_neg (by omega)]
theorem zuN (t:T):∀ d l,lim t d l=if dep t<=d/\size t<=l then some (l-size t) else none:=by
 induction t using T.ind with
 | _ k n s ks ih =>
 intro d l;have e1:dep (.nd k n s ks)=1+deps ks:=by rw[dep]
 have e2:size (.nd k n s ks)=1+zk1 ks:=by rw[size]
 rw[lim];by_cases h:d=0\/l=0
 ·rw[if_pos h,if_neg (by omega)]
 ·rw[if_neg h,zru ks ih];by_cases h2:deps ks<=d-1/\zk1 ks<=l-1
  ·rw[if_pos h2,if_pos ⟨by omega,by omega⟩];congr 1;omega
  ·rw[if_neg h2,if_neg (by omega)]
theorem zsR {k n:Int} {s:ByteArray} {ks:List T} (h:isE (.nd k n s ks)=true):∀ t∈ks,isE t=true:=by
 have key:isEs ks=true->∀ t∈ks,isE t=true:=by
  intro h t ht;rw[zmV 0,zkz] at h;obtain⟨i,hi,rfl⟩:=List.getElem_of_mem ht;exact h i hi
 have nil:decide (ks.length=0)=true->∀ t∈ks,isE t=true:=by
  intro h t ht;have:ks=[]:=by simpa using h
  rw[this] at ht;cases ht
 rw[isE] at h
 split at h
 ·simp only[Bool.and_eq_true] at h;exact nil h.2
 split at h
 ·simp only[Bool.and_eq_true] at h;exact nil h.2
 split at h
 ·simp only[Bool.and_eq_true] at h;exact key h.2.2
 split at h
 ·simp only[Bool.and_eq_true] at h;exact key h.2.2
 split at h
 ·simp only[Bool.and_eq_true] at h;exact key h.2.2
 ·cases h
theorem zsQ {t:T} (h:isP t=true):isE t=true:=by unfold isP at h;simp only[Bool.and_eq_true] at h;exact h.2
theorem zvt {t:T} (h:isV t=true):isE t=true:=by unfold isV at h;simp only[Bool.and_eq_true] at h;exact h.2
theorem zmG {m:Nat} {p:Nat->T->Bool} {ks:List T} (h:zkx m p ks=true) {t:T} (ht:t∈ks):∃ i,p i t=true:=by
 unfold zkx at h;simp only[Bool.and_eq_true] at h;have:=(zkz p 0 ks).1 h.2;obtain⟨i,hi,rfl⟩:=List.getElem_of_mem ht;exact⟨0+i,this i hi⟩
theorem zox {d:Nat} {ks:List T} (h:isEB d ks=true) {t:T} (ht:t∈ks):isE t=true\/isB t=true:=by
 have h':isEB (d+0) ks=true:=h;rw[zmW d 0] at h';have:=(zkz _ 0 ks).1 h';obtain⟨i,hi,rfl⟩:=List.getElem_of_mem ht;have h2:=this i hi;unfold pEB at h2
 split at h2
 ·exact .inl h2
 ·exact .inr h2
theorem ztL {k n:Int} {s:ByteArray} {ks:List T} (h:isS (.nd k n s ks)=true):k≠57/\∀ t∈ks,isE t=true\/isB t=true:=by
 rw[isS] at h
 split at h
 ·rename_i hk;simp only[Bool.and_eq_true] at h;refine⟨by omega,fun t ht=>?_⟩;obtain⟨i,hi⟩:=zmG h.2 ht
  split at hi
  ·exact .inl (zsQ hi)
  ·exact .inl hi
 split at h
 ·rename_i hk;simp only[Bool.and_eq_true] at h;refine⟨by omega,fun t ht=>?_⟩;obtain⟨i,hi⟩:=zmG h.2 ht;exact .inl (zsQ hi)
 split at h
 ·rename_i hk;simp only[Bool.and_eq_true] at h;refine⟨by omega,fun t ht=>?_⟩;obtain⟨i,hi⟩:=zmG h.2 ht;exact .inl (zsQ hi)
 split at h
 ·rename_i hk;simp only[Bool.and_eq_true] at h;refine⟨by omega,fun t ht=>?_⟩;obtain⟨i,hi⟩:=zmG h.2 ht;exact .inl (zsQ hi)
 split at h
 ·rename_i hk;simp only[Bool.and_eq_true] at h;refine⟨by omega,fun t ht=>?_⟩;have:=(zkz _ 0 ks).1 h.2;obtain⟨i,hi,rfl⟩:=List.getElem_of_mem ht;exact .inl (zvt (this i hi))
 split at h
 ·rename_i hk;simp only[Bool.and_eq_true] at h;exact⟨by omega,fun t ht=>zox h.2.2 ht⟩
 split at h
 ·rename_i hk;simp only[Bool.and_eq_true] at h;exact⟨by omega,fun t ht=>zox h.2.2 ht⟩
 split at h
 ·rename_i hk;simp only[Bool.and_eq_true] at h;exact⟨by omega,fun t ht=>zox h.2.2 ht⟩
 ·cases h
theorem zmH {k n:Int} {s:ByteArray} {ks:List T} (h:isS (.nd k n s ks)=true) :
  ((k≠52/\k≠53/\k≠54/\k≠55/\k≠57)/\∀ t∈ks,t.k≠57) \/
  ((k=52\/k=53)/\zkm n s=true/\∃ a b c d,ks=[a,b,c,d]/\isE a=true/\isB b=true/\isB c=true/\isE d=true) \/
  (k=54/\zku n s=true/\∃ a b c,ks=[a,b,c]/\isE a=true/\isB b=true/\isE c=true) \/
  (k=55/\zku n s=true/\∃ b,ks=[b]/\isB b=true):=by
 have key:∀ (p:Nat->T->Bool),(∀ j t,p j t=true->t.k≠57)->zks p 0 ks=true->∀ t∈ks,t.k≠57:=by
  intro p hp hk t ht;obtain⟨q,hq,rfl⟩:=List.getElem_of_mem ht;exact hp _ _ ((zkz p 0 ks).1 hk q hq)
 have kE:∀ t,isE t=true->t.k≠57:=fun t h1=>by have:=zsS t h1;omega
 rw[isS] at h
 repeat' split at h
 ·simp only[zkx,Bool.and_eq_true] at h;exact .inl ⟨by omega,key _ (fun j t hj=>by split at hj;exact zsP t hj;exact kE t hj) h.2.2⟩
 ·simp only[zkx,Bool.and_eq_true] at h;exact .inl ⟨by omega,key _ (fun j t=>zsP t) h.2.2⟩
 ·simp only[zkx,Bool.and_eq_true] at h;exact .inl ⟨by omega,key _ (fun j t=>zsP t) h.2.2⟩
 ·simp only[zkx,Bool.and_eq_true] at h;exact .inl ⟨by omega,key _ (fun j t=>zsP t) h.2.2⟩
 ·simp only[Bool.and_eq_true] at h;exact .inl ⟨by omega,key _ (fun j t=>zvs t) h.2⟩
 ·rename_i hk;simp only[Bool.and_eq_true,decide_eq_true_eq] at h;obtain⟨h1,h2,h3⟩:=h
  match ks,h2 with
  | [a,b,c,d],_ =>
   simp only[isEB,Bool.and_eq_true,Bool.and_true] at h3;simp at h3;exact .inr (.inl ⟨hk,h1,a,b,c,d,rfl,h3.1,h3.2.1,h3.2.2.1,h3.2.2.2⟩)
 ·rename_i hk;simp only[Bool.and_eq_true,decide_eq_true_eq] at h;obtain⟨h1,h2,h3⟩:=h
  match ks,h2 with
  | [a,b,c],_ =>
   simp only[isEB,Bool.and_eq_true,Bool.and_true] at h3;simp at h3;exact .inr (.inr (.inl ⟨hk,h1,a,b,c,rfl,h3.1,h3.2.1,h3.2.2⟩))
 ·rename_i hk;simp only[Bool.and_eq_true,decide_eq_true_eq] at h;obtain⟨h1,h2,h3⟩:=h
  match ks,h2 with
  | [b],_ =>
   simp only[isEB,Bool.and_eq_true,Bool.and_true] at h3;simp at h3;exact .inr (.inr (.inr ⟨hk,h1,b,rfl,h3⟩))
 ·cases h
section
variable {P:Program} {ops:Array Oper} {Q:Exit->Act->World->Prop} {md:Region.Mode} {S1 S2:World->Prop} {k:Nat}
theorem ztY {i j:Nat} {o o':Oper} {fuel:Nat} {listed:Array Bool} {a:Act} {w:World} (hr:Region.ready md ops listed=[i,j]) (ho:ops[i]?=some o) (ho':ops[j]?=some o')
  (h:∀ K':Act->World->Prop,Shut (∀ a w,S1 w/\S2 w->wpG P md ops Q S1 S2 k fuel (listed.setIfInBounds i true) a w->K' a w)->if Region.wanted o (yielded ops a.tmps)=true then Oper.wp P o a w K' Q else K' (a.put o.dst undef) w)
  (h':∀ K':Act->World->Prop,Shut (∀ a w,S1 w/\S2 w->wpG P md ops Q S1 S2 k fuel (listed.setIfInBounds j true) a w->K' a w)->if Region.wanted o' (yielded ops a.tmps)=true then Oper.wp P o' a w K' Q else K' (a.put o'.dst undef) w) :
  wpG P md ops Q S1 S2 k (fuel+1) listed a w:=by
 refine⟨(fun h0=>by rw[hr] at h0;cases h0),fun x hx=>?_⟩;rw[hr] at hx;simp only[List.mem_cons,List.not_mem_nil,or_false] at hx;rcases hx with rfl|rfl
 ·exact wpOp_step ho fun K' hK=>h K' fun a w hS hW=>hK a w ⟨⟨hS.1,fun _=>hS.2⟩,hW⟩
 ·exact wpOp_step ho' fun K' hK=>h' K' fun a w hS hW=>hK a w ⟨⟨hS.1,fun _=>hS.2⟩,hW⟩
end
def frsN (vs:List VD):Nat->Nat
 | 0=>0
 | j+1=>frsN vs j+(if h:j<vs.length then one1 (zl8 (vs.take j) vs[j].s) else 0)
theorem zmI {vs:List VD} {j:Nat} (h:j<vs.length):frsN vs (j+1)=frsN vs j+one1 (zl8 (vs.take j) vs[j].s):=by simp[frsN,h]
theorem zl7 (vs:List VD):∀ j,frsN vs j<=j
 | 0=>by simp[frsN]
 | j+1=>by
  have h:=zl7 vs j;rw[frsN]
  split
  ·have:=zmv (zl8 (vs.take j) vs[j].s);omega
  ·omega
def prcE (ps:List PR) (j:Nat) (r:PR):Nat:=one1 (if zlj ps r.s<(j:Int) then 22 else 0)+frsN r.ps r.ps.length+cntV ps r.b r.ps
def prcN (ps:List PR):Nat->Nat
 | 0=>0
 | j+1=>prcN ps j+(if h:j<ps.length then prcE ps j ps[j] else 0)
theorem zns {ps:List PR} {j:Nat} (h:j<ps.length):prcN ps (j+1)=prcN ps j+prcE ps j ps[j]:=by simp[prcN,h]
def chkN (p:PG):Nat:=frsN p.vs p.vs.length+prcN p.prs p.prs.length+cntV p.prs p.m p.vs
theorem znW {t:T} (h:zlk t=true):dep t<=80/\size t<=2000:=by
 simp only[zlk,Bool.and_eq_true] at h;have h1:=h.1;rw[zuN] at h1
 split at h1
 ·assumption
 ·simp at h1
theorem zlG {p:PG} (h:zkX p=true):p.vs.length<=32/\p.prs.length<=64/\(∀ r∈p.prs,r.ps.length<=8/\dep r.b<=80/\size r.b<=2000)/\dep p.m<=80/\size p.m<=2000:=by
 simp only[zkX,Bool.and_eq_true,decide_eq_true_eq,List.all_eq_true] at h;refine⟨h.1.1.1.1,h.1.1.1.2,fun r hr=>?_,znW h.2⟩;have:=h.1.2 r hr;simp only[znQ,Bool.and_eq_true,decide_eq_true_eq] at this;exact⟨this.1.1.2,znW this.2⟩
theorem zpk (ps:List PR) (h:∀ r∈ps,r.ps.length<=8/\dep r.b<=80/\size r.b<=2000):∀ j,prcN ps j<=j*2009
 | 0=>by simp[prcN]
 | j+1=>by
  have h1:=zpk ps h j;rw[prcN]
  split
  ·rename_i hj;have h2:=h _ (List.getElem_mem hj);have h3:=zmv (if zlj ps ps[j].s<(j:Int) then 22 else 0);have h4:=zl7 ps[j].ps ps[j].ps.length;have h5:=zrQ ps ps[j].b ps[j].ps;unfold prcE;omega
  ·omega
theorem RowV.take {w:World} {S:Nat->Prop} {A:Option Addr} {vs:List VD} (h:RowV w S A vs) (j:Nat):RowV w S A (vs.take j):=fun i hi=>by
 have h1:i<vs.length:=by simp at hi;omega
 obtain⟨a,h2,h3,h4,h5⟩:=h i h1;exact⟨a,h2,h3,by simpa using h4,by simpa using h5⟩
theorem RowI.nil {w:World} {S:Nat->Prop} {A:Option Addr}:RowI w S A []:=fun i hi=>by simp at hi
theorem zoP (w:World) (j:Int) (hj:I64 j):RowI (w.alloc (.cells #[.int .i64 j] 3)) Any (some ⟨w.heap.size,0,none⟩) [j]:=fun i hi=>by
 simp only[List.length_singleton,Nat.lt_one_iff] at hi;subst hi;exact⟨_,rfl,trivial,zlw w 3 [.int .i64 j] 0 _ rfl,hj⟩
theorem zmg (n0 fb N:Nat) (pv:Value) (pr er:Int) (q:List Int) (A:Option Addr) (c:Nat) (s:ByteArray) (S:Nat->Prop) (W:World) (hfs:FS W n0 fb N pv) (hq:RowI W S A q) (mq:q.length<=100000) (hN:N<=1000000) :
  Calls Tryz.prog 92 ([.int .i64 pr,.slice A q.length c,.string s,.int .i64 er].toArray ++ #[.pointer (some ⟨fb,0,none⟩)]) W (RepP W n0 fb pv (N+one1 er)):=by
 simpa using zmh n0 fb N pv pr er q A c s S W hfs hq mq hN
theorem VsI.chg2 {Rd:World->Prop} {n0 fb:Nat} {Wb wr wk w':World} {pv pv':Value} {N:Nat} (h:VsI Rd n0 fb Wb pv N wr pv') (hb:Below wr.heap.size wr wk) (hc:Chg (fun b=>b=fb\/pv'.ownBlock=some b) wk w'):Chg (fun b=>b=fb\/pv.ownBlock=some b) Wb w' :=
 (h.chg.trans (Chg.of_below hb)).trans2 hc fun b hlt hh=>by
  rcases hh with hh|hh
  ·exact .inl hh
  ·rcases h.own b hh with h1|h1
   ·exact .inr h1
   ·omega
theorem VsI.stepK {Rd:World->Prop} {n0 fb:Nat} {Wb wr w5 W6:World} {pv pv':Value} {N N':Nat} {e:Ending} (hk:∀ W W' pv N,Rd W->FS W n0 fb N pv->Chg (fun b=>b=fb\/pv.ownBlock=some b) W W'->Rd W') (h:VsI Rd n0 fb Wb pv N wr pv') (hb:Below wr.heap.size wr w5) (hp:RepP w5 n0 fb pv' N' e W6) :
  ∃ fK,VsI Rd n0 fb Wb pv N' W6 fK:=by
 obtain⟨_,fK,hfs,ak,hc⟩:=hp;have nQ:=h.fs.later hb;have hz:=h.chg.size;have hz5:=hb.size;refine⟨fK,hk w5 W6 pv' N (hk wr w5 pv' N h.rd h.fs (Chg.of_below hb)) nQ hc,hfs,fun b hb'=>?_,h.chg2 hb hc⟩;rcases ak b hb' with h1|h1
 ·exact h.own b h1
 ·exact .inr (by omega)
theorem zmk (vs:List VD) (j:Nat) (hj:j<=vs.length) (A:Option Addr) (c:Nat) (s:ByteArray) (S:Nat->Prop) (w:World) (hrow:RowV w S A vs) (hl:vs.length<=LV) :
  Calls Tryz.prog 93 #[.slice A j c,.string s] w fun e w'=>e=.returned (.int .i64 (zl8 (vs.take j) s))/\Below w.heap.size w w':=by
 have h:=znA (vs.take j) A c s S w (hrow.take j) (by simp;omega);rwa[show(vs.take j).length=j by simp;omega] at h
theorem zoz:IsFn Tryz.prog 93 Tryz.f93:=⟨Tryz.func93,by kernel_rfl,by kernel_rfl⟩
theorem zuf:IsFn Tryz.prog 94 Tryz.f94:=⟨Tryz.func94,by kernel_rfl,by kernel_rfl⟩
theorem zp1:IsFn Tryz.prog 92 Tryz.f92:=⟨Tryz.func92,by kernel_rfl,by kernel_rfl⟩
theorem zqQ (p:PG) (S:Nat->Prop) (v:Value) (W:World) (hv:PV W S p v):Calls Tryz.prog 53 #[v] W fun e w'=>∃ A c,e=.returned (.slice A (if zkX p=true then chkN p else 0) c)/\Below W.heap.size W w':=by
 obtain⟨NN,uW⟩:∃ NN,(if zkX p=true then chkN p else 0)=NN:=⟨_,rfl⟩
 rw[uW];have aX:=zh uW;clear uW;have hvv:=hv;obtain⟨A1,c1,A2,c2,A3,c3,rfl,hr⟩:=hv;have hlv:=zli hr.lv;have hlp:=zli hr.lp;obtain⟨L1,hL1⟩:∃ L,p.vs.length=L:=⟨_,rfl⟩
 obtain⟨L2,hL2⟩:∃ L,p.prs.length=L:=⟨_,rfl⟩
 obtain⟨k,hk⟩:∃ k,p.m.k=k:=⟨_,rfl⟩
 obtain⟨n,hn⟩:∃ n,p.m.n=n:=⟨_,rfl⟩
 obtain⟨s,hs⟩:∃ s,p.m.s=s:=⟨_,rfl⟩
 obtain⟨l3,hl3⟩:∃ l,p.m.ks.length=l:=⟨_,rfl⟩
 rw[hL1,hL2,hk,hn,hs,hl3];rw[hL1,hL2,hk,hn,hs,hl3] at hvv;rw[hL1] at hlv;rw[hL2] at hlp;have rQ:=zh hvv;have HR:=zh hr;have o9:=zh hL1;have HL2:=zh hL2;have iN:=zh (show p.m.k=k/\p.m.n=n/\p.m.s=s/\p.m.ks.length=l3 from ⟨hk,hn,hs,hl3⟩);clear hvv hr hL1 hL2 hk hn hs hl3;go_enter Tryz.func53,Tryz.ntmps53;go_wp2_with fail;refine(zpb p S _ _ (rQ.out.later (zkd (Below.refl _ _) _))).mono ?_;rintro e w1 ⟨rfl,aa⟩;have b1:Below W.heap.size W w1:=zka (zkd (Below.refl _ _) _) aa;have hp1:=(aa.block W.heap.size (by simp)).trans (heap_alloc_new W (.cells #[.slice A1 L1 c1,.slice A2 L2 c2,.int .u8 k,.int .i64 n,.string s,.slice A3 l3 c3] 35));have hz1:=aa.size;simp only[World.size_alloc] at hz1;have HB1:=zh b1;have HP1:=zh hp1;have HZ1:=zh hz1;obtain⟨a0,a1,a2,a3,a4,a5⟩:=box6 hp1;clear aa b1 hp1
 cases hvb:zkX p
 ·have hN0:NN=0:=by rw[<-aX.out,hvb];rfl
  subst hN0;go_wp2_with fail;go_ret;exact⟨none,0,rfl,HB1.out⟩
 ·have eG:=zh (zlG hvb);have HNN2:=zh (show chkN p=NN by rw[<-aX.out,hvb];rfl);clear hvb aX;go_upto_region 5 with fail;obtain⟨fb,nR⟩:∃ fb,w1.heap.size=fb:=⟨_,rfl⟩
  rw[nR];have qV:W.heap.size+1<=fb:=by omega
  have hbw:Below W.heap.size W ((w1.alloc (.cells #[.slice none 0 0] 106)).alloc (.cells #[.func (.func 92) #[] #[.pointer (some ⟨fb,0,none⟩)]] 155)):=zkd (zkd HB1.out _) _;have tq:=zkr (heap_alloc_new w1 (.cells #[.slice none 0 0] 106)) (.cells #[.func (.func 92) #[] #[.pointer (some ⟨fb,0,none⟩)]] 155);have hbR:=heap_alloc_new (w1.alloc (.cells #[.slice none 0 0] 106)) (.cells #[.func (.func 92) #[] #[.pointer (some ⟨fb,0,none⟩)]] 155);simp only[World.size_alloc] at hbR;rw[nR] at tq hbR;have mr:=zkr (zkr HP1.out (.cells #[.slice none 0 0] 106)) (.cells #[.func (.func 92) #[] #[.pointer (some ⟨fb,0,none⟩)]] 155);obtain⟨Wb,oq⟩:∃ Wb,(w1.alloc (.cells #[.slice none 0 0] 106)).alloc (.cells #[.func (.func 92) #[] #[.pointer (some ⟨fb,0,none⟩)]] 155)=Wb:=⟨_,rfl⟩
  rw[oq] at hbw tq hbR mr ⊢;have lJ:=zh (show Wb.heap.size=fb+2 by rw[<-oq,<-nR];simp);have aR:=zh hbw;have HZF:=zh qV;clear oq nR a0 a1 a2 a3 a4 a5 HP1 HZ1 HB1 hz1;have hrep:=ztA fb fb (fb+1) W.heap.size A1 L1 c1 A2 L2 c2 k n s A3 l3 c3;obtain⟨Rd,tC⟩:∃ Rd:World->Prop,(fun W':World=>W'.heap[fb+1]?=some (.cells #[.func (.func 92) #[] #[.pointer (some ⟨fb,0,none⟩)]] 155 (0,0))/\W'.heap[W.heap.size]?=some (.cells #[.slice A1 L1 c1,.slice A2 L2 c2,.int .u8 k,.int .i64 n,.string s,.slice A3 l3 c3] 35 (0,0)))=Rd:=⟨_,rfl⟩
  rw[tC] at hrep;have aP:=zh hrep;have kN:=zh (show ∀ w':World,Rd w'->w'.heap[fb+1]?=some (.cells #[.func (.func 92) #[] #[.pointer (some ⟨fb,0,none⟩)]] 155 (0,0))/\w'.heap[W.heap.size]?=some (.cells #[.slice A1 L1 c1,.slice A2 L2 c2,.int .u8 k,.int .i64 n,.string s,.slice A3 l3 c3] 35 (0,0)) from fun w' h=>by rw[<-tC] at h;exact h);have bD:=zh (show ∀ w':World,Rd w'->(fun w':World=>(w'.cell? ⟨W.heap.size,0,none⟩=some (.slice A1 L1 c1)/\w'.cell? ⟨W.heap.size,1,none⟩=some (.slice A2 L2 c2)/\w'.cell? ⟨W.heap.size,2,none⟩=some (.int .u8 k)/\w'.cell? ⟨W.heap.size,3,none⟩=some (.int .i64 n)/\w'.cell? ⟨W.heap.size,4,none⟩=some (.string s)/\w'.cell? ⟨W.heap.size,5,none⟩=some (.slice A3 l3 c3))/\(w'.cell? ⟨fb+1,0,none⟩=some (.func (.func 92) #[] #[.pointer (some ⟨fb,0,none⟩)]))) w' from fun w' h=>⟨box6 (kN.out w' h).2,zc (kN.out w' h).1 rfl⟩)
  have HI0:=zh (show VsI Rd fb fb Wb (.slice none 0 0) 0 Wb (.slice none 0 0) from ⟨by rw[<-tC];exact⟨hbR,mr⟩,⟨tq,⟨[],World.ownsRow_nil _ _ _ _⟩,Nat.le_refl _,by simp[Value.ownBlock]⟩,fun b hb=>.inl hb,Chg.refl _ _⟩);have iA:=zh (show ∀ w':World,Chg (fun b=>b=fb\/(Value.slice none 0 0).ownBlock=some b) Wb w'->∀ b,S b->b<W.heap.size->w'.heap[b]?=W.heap[b]? from fun w' h b hb hlt=>(h.block b (by have:=lJ.out;omega) (fun hh=>by rcases hh with hh|hh;omega;simp[Value.ownBlock] at hh)).trans (aR.out.block b hlt));have HD:=zh (show ∀ w':World,Chg (fun b=>b=fb\/(Value.slice none 0 0).ownBlock=some b) Wb w'->PV w' (fun b=>S b/\b<W.heap.size) p _/\PgR w' (fun b=>S b/\b<W.heap.size) p A1 c1 A2 c2 A3 c3 from fun w' h=>⟨rQ.out.keep (fun b hb hlt=>⟨hb,hlt⟩) (iA.out w' h),HR.out.keep (fun b hb hlt=>⟨hb,hlt⟩) (iA.out w' h)⟩);have hl32:L1<=32:=by have:=eG.out.1;rw[o9.out] at this;exact this
  have hl64:L2<=64:=by have:=eG.out.2.1;rw[HL2.out] at this;exact this
  have hlc1:L1<=c1:=by have:=HR.out.lvc;rw[o9.out] at this;exact this
  have kZ:L2<=c2:=by have:=HR.out.lpc;rw[HL2.out] at this;exact this
  obtain⟨⟨a0,a1,a2,a3,a4,a5⟩,ar⟩:=bD.out _ HI0.out.rd;clear hrep tC hbR mr tq hbw;go_wp2_with fail
  go_loopw [18] (fun i wr=>∃ (j:Nat) (pv':Value),j<=L1/\i=.int .i64 j/\VsI Rd fb fb Wb (.slice none 0 0) (frsN p.vs j) wr pv') (fun i _=>L1-(intOf i).toNat)
  case atStart=>exact⟨0,_,Nat.zero_le _,rfl,HI0.out⟩
  case round =>
   obtain⟨j,pv',hj,rfl,hinv⟩:=hrel;have af:=zh hinv;clear HI0 a0 a1 a2 a3 a4 a5 ar;by_cases hlt:j<L1
   ·have eQ:j<p.vs.length:=by rw[o9.out];exact hlt
    obtain⟨a,u,rfl,hsa,Hu,⟨q0,q1,q2⟩,hfu⟩:=(HD.out wr hinv.chg).2.vars.nd eQ;have hjc:(j:Int)<=(c1:Int):=by omega
    have hj0:(0:Int)<=(j:Int):=by omega
    obtain⟨⟨a0,a1,a2,a3,a4,a5⟩,ar⟩:=bD.out _ hinv.rd;clear hinv hsa hfu;go_upto_region 8 with fail;have hbk:Below wr.heap.size wr (wr.alloc (.cells #[.string u.s,.int .u8 u.k,.int .i64 u.n] 83)):=zkd (Below.refl _ _) _;have di:=heap_alloc_new wr (.cells #[.string u.s,.int .u8 u.k,.int .i64 u.n] 83);obtain⟨wk,hwk⟩:∃ wk,wr.alloc (.cells #[.string u.s,.int .u8 u.k,.int .i64 u.n] 83)=wk:=⟨_,rfl⟩
    rw[hwk] at hbk di ⊢;have dJ:=zh (show wk.heap.size=wr.heap.size+1 by rw[<-hwk];simp);have aC:=zh hbk;have eO:=zh di;clear hwk hbk di a0 a1 a2 a3 a4 a5 ar q0 q1 q2;have HRW:=zh (show ∀ w':World,Below wk.heap.size wk w'->Rd w' from fun w' h=>aP.out.keep _ _ _ _ af.out.rd af.out.fs (Chg.of_below (zka aC.out h)))
    have bf:=zh (show ∀ w':World,Below wk.heap.size wk w'->(fun w':World=>((w'.cell? ⟨W.heap.size,0,none⟩=some (.slice (some a) L1 c1)/\w'.cell? ⟨W.heap.size,1,none⟩=some (.slice A2 L2 c2)/\w'.cell? ⟨W.heap.size,2,none⟩=some (.int .u8 k)/\w'.cell? ⟨W.heap.size,3,none⟩=some (.int .i64 n)/\w'.cell? ⟨W.heap.size,4,none⟩=some (.string s)/\w'.cell? ⟨W.heap.size,5,none⟩=some (.slice A3 l3 c3))/\(w'.cell? ⟨fb+1,0,none⟩=some (.func (.func 92) #[] #[.pointer (some ⟨fb,0,none⟩)])))/\(w'.cell? ⟨wr.heap.size,0,none⟩=some (.string u.s)/\w'.cell? ⟨wr.heap.size,1,none⟩=some (.int .u8 u.k)/\w'.cell? ⟨wr.heap.size,2,none⟩=some (.int .i64 u.n))) w'/\(fun _:World=>True) w' from fun w' h=>⟨⟨bD.out _ (HRW.out w' h),box3 ((h.block _ (by have:=dJ.out;omega)).trans eO.out)⟩,trivial⟩);have hdr:=(Below.refl wk.heap.size wk).drew;have hSS:=bf.out _ hdr;have hbI:=zoF;have hN:=zl7 p.vs j
    refine wp_region_noPanic ?_;refine zke (fun w':World=>((w'.cell? ⟨W.heap.size,0,none⟩=some (.slice (some a) L1 c1)/\w'.cell? ⟨W.heap.size,1,none⟩=some (.slice A2 L2 c2)/\w'.cell? ⟨W.heap.size,2,none⟩=some (.int .u8 k)/\w'.cell? ⟨W.heap.size,3,none⟩=some (.int .i64 n)/\w'.cell? ⟨W.heap.size,4,none⟩=some (.string s)/\w'.cell? ⟨W.heap.size,5,none⟩=some (.slice A3 l3 c3))/\(w'.cell? ⟨fb+1,0,none⟩=some (.func (.func 92) #[] #[.pointer (some ⟨fb,0,none⟩)])))/\(w'.cell? ⟨wr.heap.size,0,none⟩=some (.string u.s)/\w'.cell? ⟨wr.heap.size,1,none⟩=some (.int .u8 u.k)/\w'.cell? ⟨wr.heap.size,2,none⟩=some (.int .i64 u.n))) (fun _:World=>True) 40 (by kernel_rfl) ?_;refine zT 0 hSS ?_;(try simp only[zQ]);refine zT 1 hSS ?_;(try simp only[zQ]);refine zT 3 hSS ?_;(try simp only[zQ]);refine zT 4 hSS ?_;(try simp only[zQ]);refine zT 5 hSS ?_;(try simp only[zQ]);refine zT 6 hSS ?_
    (try simp only[zQ]);refine zT 7 hSS ?_;(try simp only[zQ]);refine zT 8 hSS ?_;(try simp only[zQ]);refine zT 9 hSS ?_;(try simp only[zQ]);refine zT 10 hSS ?_;(try simp only[zQ]);refine ztY (i:=2) (j:=11) (by kernel_rfl) rfl rfl (fun K hK=>?_) (fun K hK=>?_)
    ·(try simp only[zA,zB,zC]);go_simp;have b2:=zkd hdr (.cells #[.int .i64 (j:Int)] 3);refine hK.out _ _ (bf.out _ b2) ?_;clear hK K;(try simp only[zQ]);refine zo 11 fun K hK=>?_;refine zkg (by rfl) (.func 93) [.tmp 31,.tmp 33] _ (by rfl) 93 _ zoz (by rfl) _ (by rfl) _ (zm1 (zmk p.vs j (by omega) (some a) c1 u.s _ _ (HD.out _ (af.out.chg.trans (Chg.of_below (zka aC.out b2)))).2.vars HR.out.lv)) ?_;rintro vq w3 ⟨rfl,aU⟩;have b3:=zka b2 aU;refine hK.out _ _ (bf.out _ b3) ?_;clear hK K;(try simp only[zQ]);refine zo 12 fun K hK=>?_
     refine zk8 (by rfl) (.tmp 23) [.const (.int .i64 (-1)),.tmp 25,.tmp 27,.tmp 34] _ (by rfl) 92 _ zp1 #[.pointer (some ⟨fb,0,none⟩)] (by rfl) _ (by rfl) _ (zl3 (zmg fb fb _ pv' (-1) _ [(j:Int)] (some ⟨wk.heap.size,0,none⟩) 1 u.s _ _ (af.out.fs.later (zka aC.out b3)) (((zoP _ (j:Int) ⟨by omega,by omega⟩).later (Below.refl _ _).drew).later aU) (by simp) (by omega))) ?_;rintro vq W6 hp;obtain⟨fA,bF⟩:=af.out.step aP.out (zka aC.out b3) hp;have bB:VsI Rd fb fb Wb (.slice none 0 0) (frsN p.vs (j+1)) W6 fA:=by rw[zmI eQ,Hu.out];exact bF
     have aH:(fun w':World=>((w'.cell? ⟨W.heap.size,0,none⟩=some (.slice (some a) L1 c1)/\w'.cell? ⟨W.heap.size,1,none⟩=some (.slice A2 L2 c2)/\w'.cell? ⟨W.heap.size,2,none⟩=some (.int .u8 k)/\w'.cell? ⟨W.heap.size,3,none⟩=some (.int .i64 n)/\w'.cell? ⟨W.heap.size,4,none⟩=some (.string s)/\w'.cell? ⟨W.heap.size,5,none⟩=some (.slice A3 l3 c3))/\(w'.cell? ⟨fb+1,0,none⟩=some (.func (.func 92) #[] #[.pointer (some ⟨fb,0,none⟩)])))/\(w'.cell? ⟨wr.heap.size,0,none⟩=some (.string u.s)/\w'.cell? ⟨wr.heap.size,1,none⟩=some (.int .u8 u.k)/\w'.cell? ⟨wr.heap.size,2,none⟩=some (.int .i64 u.n))) W6/\(fun _:World=>True) W6:=⟨⟨bD.out _ bB.rd,box3 ((hp.2.elim fun _ h=>h.2.2.block _ (by have:=(zka aC.out b3).size;have:=(b3).size;have:=dJ.out;omega) (fun hh=>by have hl:=af.out.fs.lt;rcases hh with hh|hh;(have:=hl.1;omega);(have:=(hl.2 _ hh).2;omega))).trans (((b3).block _ (by have:=dJ.out;omega)).trans eO.out))⟩,trivial⟩
     refine hK.out _ _ aH ?_;clear hK K;(try simp only[zQ]);refine zd ?_;refine NoPanic.normal ?_;have iP:=zh bB;clear bB bF hp aH;go_wp2_with fail
     go_roundw
     case rel=>exact⟨j+1,_,by omega,by go_num,iP.out⟩
     case measure=>simp[intOf];omega
    ·skip
     refine zkg (by rfl) (.func 93) [.tmp 31,.tmp 33] _ (by rfl) 93 _ zoz (by rfl) _ (by rfl) _ (zm1 (zmk p.vs j (by omega) (some a) c1 u.s _ _ (HD.out _ (af.out.chg.trans (Chg.of_below (zka aC.out hdr)))).2.vars HR.out.lv)) ?_;rintro vq w2 ⟨rfl,aj⟩;have b2:=zka hdr aj;refine hK.out _ _ (bf.out _ b2) ?_;clear hK K;(try simp only[zQ]);refine zo 2 fun K hK=>?_;(try simp only[zA,zB,zC]);go_simp;have b3:=zkd b2 (.cells #[.int .i64 (j:Int)] 3);refine hK.out _ _ (bf.out _ b3) ?_;clear hK K;(try simp only[zQ]);refine zo 12 fun K hK=>?_
     refine zk8 (by rfl) (.tmp 23) [.const (.int .i64 (-1)),.tmp 25,.tmp 27,.tmp 34] _ (by rfl) 92 _ zp1 #[.pointer (some ⟨fb,0,none⟩)] (by rfl) _ (by rfl) _ (zl3 (zmg fb fb _ pv' (-1) _ [(j:Int)] (some ⟨w2.heap.size,0,none⟩) 1 u.s _ _ (af.out.fs.later (zka aC.out b3)) (zoP _ (j:Int) ⟨by omega,by omega⟩) (by simp) (by omega))) ?_;rintro vq W6 hp;obtain⟨fA,bF⟩:=af.out.step aP.out (zka aC.out b3) hp;have bB:VsI Rd fb fb Wb (.slice none 0 0) (frsN p.vs (j+1)) W6 fA:=by rw[zmI eQ,Hu.out];exact bF
     have aH:(fun w':World=>((w'.cell? ⟨W.heap.size,0,none⟩=some (.slice (some a) L1 c1)/\w'.cell? ⟨W.heap.size,1,none⟩=some (.slice A2 L2 c2)/\w'.cell? ⟨W.heap.size,2,none⟩=some (.int .u8 k)/\w'.cell? ⟨W.heap.size,3,none⟩=some (.int .i64 n)/\w'.cell? ⟨W.heap.size,4,none⟩=some (.string s)/\w'.cell? ⟨W.heap.size,5,none⟩=some (.slice A3 l3 c3))/\(w'.cell? ⟨fb+1,0,none⟩=some (.func (.func 92) #[] #[.pointer (some ⟨fb,0,none⟩)])))/\(w'.cell? ⟨wr.heap.size,0,none⟩=some (.string u.s)/\w'.cell? ⟨wr.heap.size,1,none⟩=some (.int .u8 u.k)/\w'.cell? ⟨wr.heap.size,2,none⟩=some (.int .i64 u.n))) W6/\(fun _:World=>True) W6:=⟨⟨bD.out _ bB.rd,box3 ((hp.2.elim fun _ h=>h.2.2.block _ (by have:=(zka aC.out b3).size;have:=(b3).size;have:=dJ.out;omega) (fun hh=>by have hl:=af.out.fs.lt;rcases hh with hh|hh;(have:=hl.1;omega);(have:=(hl.2 _ hh).2;omega))).trans (((b3).block _ (by have:=dJ.out;omega)).trans eO.out))⟩,trivial⟩
     refine hK.out _ _ aH ?_;clear hK K;(try simp only[zQ]);refine zd ?_;refine NoPanic.normal ?_;have iP:=zh bB;clear bB bF hp aH;go_wp2_with fail
     go_roundw
     case rel=>exact⟨j+1,_,by omega,by go_num,iP.out⟩
     case measure=>simp[intOf];omega
   ·obtain rfl:L1=j:=by omega
    have wz:=zh (show VsI Rd fb fb Wb (.slice none 0 0) (frsN p.vs p.vs.length) wr pv' by rw[o9.out];exact af.out);obtain⟨⟨a0,a1,a2,a3,a4,a5⟩,ar⟩:=bD.out _ hinv.rd;obtain⟨F1,hF1⟩:∃ F,frsN p.vs p.vs.length=F:=⟨_,rfl⟩
    have hF32:F1<=32:=by have:=zl7 p.vs p.vs.length;have:=eG.out.1;omega
    have uj:=zh hF1;rw[hF1] at wz;clear hinv af hF1 hj hlt;go_wp2_with fail
    go_loopw [40] (fun i wr=>∃ (j:Nat) (pv':Value),j<=L2/\i=.int .i64 j/\VsI Rd fb fb Wb (.slice none 0 0) (F1+prcN p.prs j) wr pv') (fun i _=>L2-(intOf i).toNat)
    case atStart=>exact⟨0,_,Nat.zero_le _,rfl,wz.out⟩
    case round =>
     clear wz a0 a1 a2 a3 a4 a5 ar;obtain⟨j,pv',hj,rfl,hinv⟩:=hrel;obtain⟨w0,rfl⟩:∃ w0,w0=wr:=⟨_,rfl⟩
     have af:=zh hinv;by_cases hlt:j<L2
     ·have eQ:j<p.prs.length:=by rw[HL2.out];exact hlt
      obtain⟨a,r,P1,d1,P2,d2,rfl,hsa,Hr,⟨q0,q1,q2,q3,q4,q5⟩,hpr⟩:=(HD.out w0 hinv.chg).2.procs.nd eQ;obtain⟨⟨a0,a1,a2,a3,a4,a5⟩,ar⟩:=bD.out _ hinv.rd;have jg:=zh hpr;clear hinv hsa hpr;go_upto_region 13 with fail;have hbk:Below w0.heap.size w0 ((w0.alloc (.cells #[.int .i64 (j:Int)] 3)).alloc (.cells #[.string r.s,.slice P1 r.ps.length d1,.int .u8 r.b.k,.int .i64 r.b.n,.string r.b.s,.slice P2 r.b.ks.length d2] 103)):=zkd (zkd (Below.refl _ _) _) _;have og:=zkr (heap_alloc_new w0 (.cells #[.int .i64 (j:Int)] 3)) (.cells #[.string r.s,.slice P1 r.ps.length d1,.int .u8 r.b.k,.int .i64 r.b.n,.string r.b.s,.slice P2 r.b.ks.length d2] 103);have lD:=heap_alloc_new (w0.alloc (.cells #[.int .i64 (j:Int)] 3)) (.cells #[.string r.s,.slice P1 r.ps.length d1,.int .u8 r.b.k,.int .i64 r.b.n,.string r.b.s,.slice P2 r.b.ks.length d2] 103);simp only[World.size_alloc] at lD
      obtain⟨wk,hwk⟩:∃ wk,(w0.alloc (.cells #[.int .i64 (j:Int)] 3)).alloc (.cells #[.string r.s,.slice P1 r.ps.length d1,.int .u8 r.b.k,.int .i64 r.b.n,.string r.b.s,.slice P2 r.b.ks.length d2] 103)=wk:=⟨_,rfl⟩
      rw[hwk] at hbk og lD ⊢;have dJ:=zh (show wk.heap.size=w0.heap.size+2 by rw[<-hwk];simp);have aC:=zh hbk;obtain⟨gz,lH⟩:∃ gz:World->Prop,(fun W':World=>(Rd W'/\W'.heap[w0.heap.size]?=some (.cells #[.int .i64 (j:Int)] 3 (0,0)))/\W'.heap[w0.heap.size+1]?=some (.cells #[.string r.s,.slice P1 r.ps.length d1,.int .u8 r.b.k,.int .i64 r.b.n,.string r.b.s,.slice P2 r.b.ks.length d2] 103 (0,0)))=gz:=⟨_,rfl⟩
      have gB:=zh (show ∀ w':World,gz w'->(fun W':World=>(Rd W'/\W'.heap[w0.heap.size]?=some (.cells #[.int .i64 (j:Int)] 3 (0,0)))/\W'.heap[w0.heap.size+1]?=some (.cells #[.string r.s,.slice P1 r.ps.length d1,.int .u8 r.b.k,.int .i64 r.b.n,.string r.b.s,.slice P2 r.b.ks.length d2] 103 (0,0))) w' from fun w' h=>by rw[<-lH] at h;exact h);have bG:=zh (show ∀ (W W':World) (pv:Value) (N:Nat),gz W->FS W fb fb N pv->Chg (fun b=>b=fb\/pv.ownBlock=some b) W W'->gz W' from fun W W' pv N h hfs hc=>by rw[<-lH] at h ⊢;exact⟨⟨aP.out.keep _ _ _ _ h.1.1 hfs hc,hc.keep h.1.2 (hfs.other h.1.2 (by decide) (by decide))⟩,hc.keep h.2 (hfs.other h.2 (by decide) (by decide))⟩);have HI2:=zh (show VsI gz fb fb wk pv' (F1+prcN p.prs j) wk pv' from ⟨by rw[<-lH];exact⟨⟨aP.out.keep _ _ _ _ af.out.rd af.out.fs (Chg.of_below hbk),og⟩,lD⟩,af.out.fs.later hbk,fun b hb=>.inl hb,Chg.refl _ _⟩)
      have fH:=zh (show ∀ w':World,gz w'->(fun w':World=>((w'.cell? ⟨W.heap.size,0,none⟩=some (.slice A1 L1 c1)/\w'.cell? ⟨W.heap.size,1,none⟩=some (.slice (some a) L2 c2)/\w'.cell? ⟨W.heap.size,2,none⟩=some (.int .u8 k)/\w'.cell? ⟨W.heap.size,3,none⟩=some (.int .i64 n)/\w'.cell? ⟨W.heap.size,4,none⟩=some (.string s)/\w'.cell? ⟨W.heap.size,5,none⟩=some (.slice A3 l3 c3))/\(w'.cell? ⟨fb+1,0,none⟩=some (.func (.func 92) #[] #[.pointer (some ⟨fb,0,none⟩)])))/\(w'.cell? ⟨w0.heap.size,0,none⟩=some (.int .i64 (j:Int)))/\(w'.cell? ⟨w0.heap.size+1,0,none⟩=some (.string r.s)/\w'.cell? ⟨w0.heap.size+1,1,none⟩=some (.slice P1 r.ps.length d1)/\w'.cell? ⟨w0.heap.size+1,2,none⟩=some (.int .u8 r.b.k)/\w'.cell? ⟨w0.heap.size+1,3,none⟩=some (.int .i64 r.b.n)/\w'.cell? ⟨w0.heap.size+1,4,none⟩=some (.string r.b.s)/\w'.cell? ⟨w0.heap.size+1,5,none⟩=some (.slice P2 r.b.ks.length d2))) w' from fun w' h=>⟨bD.out w' (gB.out w' h).1.1,zc (gB.out w' h).1.2 rfl,box6 (gB.out w' h).2⟩)
      have HD2:=zh (show ∀ w':World,Chg (fun b=>b=fb\/pv'.ownBlock=some b) wk w'->PV w' (fun b=>S b/\b<W.heap.size) p _/\PrR w' (fun b=>S b/\b<W.heap.size) r P1 d1 P2 d2 from fun w' h=>⟨(HD.out w' (af.out.chg2 aC.out h)).1,jg.out.keep (fun b hb _=>hb) fun b hb _=>(iA.out w' (af.out.chg2 aC.out h) b hb.1 hb.2).trans (iA.out w0 af.out.chg b hb.1 hb.2).symm⟩)
      have bf:=zh (show ∀ w':World,Below wk.heap.size wk w'->(fun w':World=>((w'.cell? ⟨W.heap.size,0,none⟩=some (.slice A1 L1 c1)/\w'.cell? ⟨W.heap.size,1,none⟩=some (.slice (some a) L2 c2)/\w'.cell? ⟨W.heap.size,2,none⟩=some (.int .u8 k)/\w'.cell? ⟨W.heap.size,3,none⟩=some (.int .i64 n)/\w'.cell? ⟨W.heap.size,4,none⟩=some (.string s)/\w'.cell? ⟨W.heap.size,5,none⟩=some (.slice A3 l3 c3))/\(w'.cell? ⟨fb+1,0,none⟩=some (.func (.func 92) #[] #[.pointer (some ⟨fb,0,none⟩)])))/\(w'.cell? ⟨w0.heap.size,0,none⟩=some (.int .i64 (j:Int)))/\(w'.cell? ⟨w0.heap.size+1,0,none⟩=some (.string r.s)/\w'.cell? ⟨w0.heap.size+1,1,none⟩=some (.slice P1 r.ps.length d1)/\w'.cell? ⟨w0.heap.size+1,2,none⟩=some (.int .u8 r.b.k)/\w'.cell? ⟨w0.heap.size+1,3,none⟩=some (.int .i64 r.b.n)/\w'.cell? ⟨w0.heap.size+1,4,none⟩=some (.string r.b.s)/\w'.cell? ⟨w0.heap.size+1,5,none⟩=some (.slice P2 r.b.ks.length d2))) w'/\(fun _:World=>True) w' from fun w' h=>⟨fH.out w' (bG.out _ _ _ _ HI2.out.rd HI2.out.fs (Chg.of_below h)),trivial⟩)
      clear hwk hbk og lD lH a0 a1 a2 a3 a4 a5 ar q0 q1 q2 q3 q4 q5;have hdr:=(Below.refl wk.heap.size wk).drew;have hSS:=bf.out _ hdr;have hrb:=eG.out.2.2.1 r (by rw[<-Hr.out];exact List.getElem_mem eQ);have hpN:=zpk p.prs eG.out.2.2.1 j;obtain⟨rb1,rb2,rb3⟩:=hrb;refine wp_region_noPanic ?_
      refine zke (fun w':World=>((w'.cell? ⟨W.heap.size,0,none⟩=some (.slice A1 L1 c1)/\w'.cell? ⟨W.heap.size,1,none⟩=some (.slice (some a) L2 c2)/\w'.cell? ⟨W.heap.size,2,none⟩=some (.int .u8 k)/\w'.cell? ⟨W.heap.size,3,none⟩=some (.int .i64 n)/\w'.cell? ⟨W.heap.size,4,none⟩=some (.string s)/\w'.cell? ⟨W.heap.size,5,none⟩=some (.slice A3 l3 c3))/\(w'.cell? ⟨fb+1,0,none⟩=some (.func (.func 92) #[] #[.pointer (some ⟨fb,0,none⟩)])))/\(w'.cell? ⟨w0.heap.size,0,none⟩=some (.int .i64 (j:Int)))/\(w'.cell? ⟨w0.heap.size+1,0,none⟩=some (.string r.s)/\w'.cell? ⟨w0.heap.size+1,1,none⟩=some (.slice P1 r.ps.length d1)/\w'.cell? ⟨w0.heap.size+1,2,none⟩=some (.int .u8 r.b.k)/\w'.cell? ⟨w0.heap.size+1,3,none⟩=some (.int .i64 r.b.n)/\w'.cell? ⟨w0.heap.size+1,4,none⟩=some (.string r.b.s)/\w'.cell? ⟨w0.heap.size+1,5,none⟩=some (.slice P2 r.b.ks.length d2))) (fun _:World=>True) 40 (by kernel_rfl) ?_
      refine zT 0 hSS ?_;(try simp only[zQ]);refine zT 1 hSS ?_;(try simp only[zQ]);refine zT 2 hSS ?_;(try simp only[zQ]);refine zT 4 hSS ?_;(try simp only[zQ]);refine zo 3 fun K hK=>?_;refine zkg (by rfl) (.func 94) [.tmp 45,.tmp 47] _ (by rfl) 94 _ zuf (by rfl) _ (by rfl) _ (zm1 (znh p _ _ r.s _ (HD2.out _ (Chg.of_below hdr)).1)) ?_;rintro vq w2 ⟨rfl,aj⟩;have b2:=zka hdr aj;have aA:=bf.out _ b2;obtain⟨PE,uV⟩:∃ PE,zlj p.prs r.s=PE:=⟨_,rfl⟩
      rw[uV];have HPE:=zh uV;refine hK.out _ _ aA ?_;clear hK K hSS uV;(try simp only[zQ]);have pI:=zh (show VsI gz fb fb wk pv' (F1+prcN p.prs j) w2 pv' from ⟨bG.out _ _ _ _ HI2.out.rd HI2.out.fs (Chg.of_below b2),HI2.out.fs.later b2,fun b hb=>.inl hb,Chg.of_below b2⟩);by_cases hpe:PE<(j:Int)
      ·have hd:decide (PE<(j:Int))=true:=decide_eq_true hpe;obtain⟨E1,hE1⟩:∃ E1,one1 (22)=E1:=⟨_,rfl⟩
       have hE2:E1<=1:=by rw[<-hE1];exact zmv _
       have dB:=zh (show one1 (if zlj p.prs r.s<(j:Int) then 22 else 0)=E1 by rw[HPE.out,if_pos hpe];exact hE1);refine zT 5 aA ?_;(try simp only[zQ]);refine zd ?_;refine NoPanic.normal ?_;obtain⟨⟨⟨a0,a1,a2,a3,a4,a5⟩,ar⟩,ai,r0,r1,r2,r3,r4,r5⟩:=aA.1;clear aA;go_wp2_with fail;refine(zmh fb fb _ pv' (j:Int) 22 [] none 0 r.s Any w2 pI.out.fs RowI.nil (by simp) (by omega)).mono ?_;rintro e w3 hp;obtain⟨v3,rfl⟩:=hp.1;obtain⟨pv3,hi3⟩:=pI.out.stepK bG.out (Below.refl _ _) hp;rw[hE1] at hi3;have HI3:=zh hi3;clear hp a0 a1 a2 a3 a4 a5 ar ai r0 r1 r2 r3 r4 r5;obtain⟨⟨⟨a0,a1,a2,a3,a4,a5⟩,ar⟩,ai,r0,r1,r2,r3,r4,r5⟩:=fH.out _ hi3.rd;clear hi3 hE1;go_wp2_with fail
       go_loopw [59] (fun x w'=>∃ (i:Nat) (jm:Value),i<=r.ps.length/\x=.int .i64 i/\VsI gz fb fb wk pv' (F1+prcN p.prs j+E1+frsN r.ps i) w' jm) (fun x _=>r.ps.length-(intOf x).toNat)
       case atStart=>exact⟨0,_,Nat.zero_le _,rfl,HI3.out⟩
       case round =>
        clear HI3 a0 a1 a2 a3 a4 a5 ar ai r0 r1 r2 r3 r4 r5;obtain⟨i,jm,hi,rfl,hinv⟩:=hrel;have bg:=zh hinv;by_cases ru:i<r.ps.length
        ·obtain⟨a',u,rfl,hsa,Hu,⟨q0,q1,q2⟩,hfu⟩:=(HD2.out wr hinv.chg).2.row.nd ru;have hic:(i:Int)<=(d1:Int):=by have:=jg.out.lc;omega
         have hi0:(0:Int)<=(i:Int):=by omega
         obtain⟨⟨⟨a0,a1,a2,a3,a4,a5⟩,ar⟩,ai,r0,r1,r2,r3,r4,r5⟩:=fH.out _ hinv.rd;clear hinv hsa hfu;go_upto_region 18 with fail;have hbk:Below wr.heap.size wr (wr.alloc (.cells #[.string u.s,.int .u8 u.k,.int .i64 u.n] 83)):=zkd (Below.refl _ _) _;have di:=heap_alloc_new wr (.cells #[.string u.s,.int .u8 u.k,.int .i64 u.n] 83);obtain⟨wv,hwv⟩:∃ wv,wr.alloc (.cells #[.string u.s,.int .u8 u.k,.int .i64 u.n] 83)=wv:=⟨_,rfl⟩
         rw[hwv] at hbk di ⊢;have oC:=zh (show wv.heap.size=wr.heap.size+1 by rw[<-hwv];simp);have ky:=zh hbk;have eO:=zh di;clear hwv hbk di a0 a1 a2 a3 a4 a5 ar ai r0 r1 r2 r3 r4 r5 q0 q1 q2
         have sH:=zh (show ∀ w':World,Below wv.heap.size wv w'->(fun w':World=>(fun w':World=>((w'.cell? ⟨W.heap.size,0,none⟩=some (.slice A1 L1 c1)/\w'.cell? ⟨W.heap.size,1,none⟩=some (.slice (some a) L2 c2)/\w'.cell? ⟨W.heap.size,2,none⟩=some (.int .u8 k)/\w'.cell? ⟨W.heap.size,3,none⟩=some (.int .i64 n)/\w'.cell? ⟨W.heap.size,4,none⟩=some (.string s)/\w'.cell? ⟨W.heap.size,5,none⟩=some (.slice A3 l3 c3))/\(w'.cell? ⟨fb+1,0,none⟩=some (.func (.func 92) #[] #[.pointer (some ⟨fb,0,none⟩)])))/\(w'.cell? ⟨w0.heap.size,0,none⟩=some (.int .i64 (j:Int)))/\(w'.cell? ⟨w0.heap.size+1,0,none⟩=some (.string r.s)/\w'.cell? ⟨w0.heap.size+1,1,none⟩=some (.slice (some a') r.ps.length d1)/\w'.cell? ⟨w0.heap.size+1,2,none⟩=some (.int .u8 r.b.k)/\w'.cell? ⟨w0.heap.size+1,3,none⟩=some (.int .i64 r.b.n)/\w'.cell? ⟨w0.heap.size+1,4,none⟩=some (.string r.b.s)/\w'.cell? ⟨w0.heap.size+1,5,none⟩=some (.slice P2 r.b.ks.length d2))) w'/\(w'.cell? ⟨wr.heap.size,0,none⟩=some (.string u.s)/\w'.cell? ⟨wr.heap.size,1,none⟩=some (.int .u8 u.k)/\w'.cell? ⟨wr.heap.size,2,none⟩=some (.int .i64 u.n))) w'/\(fun _:World=>True) w' from fun w' h=>⟨⟨fH.out _ (bG.out _ _ _ _ bg.out.rd bg.out.fs (Chg.of_below (zka ky.out h))),box3 ((h.block _ (by have:=oC.out;omega)).trans eO.out)⟩,trivial⟩)
         have hdv:=(Below.refl wv.heap.size wv).drew;have hSS:=sH.out _ hdv;have uP:=zl7 r.ps i;refine wp_region_noPanic ?_
         refine zke (fun w':World=>(fun w':World=>((w'.cell? ⟨W.heap.size,0,none⟩=some (.slice A1 L1 c1)/\w'.cell? ⟨W.heap.size,1,none⟩=some (.slice (some a) L2 c2)/\w'.cell? ⟨W.heap.size,2,none⟩=some (.int .u8 k)/\w'.cell? ⟨W.heap.size,3,none⟩=some (.int .i64 n)/\w'.cell? ⟨W.heap.size,4,none⟩=some (.string s)/\w'.cell? ⟨W.heap.size,5,none⟩=some (.slice A3 l3 c3))/\(w'.cell? ⟨fb+1,0,none⟩=some (.func (.func 92) #[] #[.pointer (some ⟨fb,0,none⟩)])))/\(w'.cell? ⟨w0.heap.size,0,none⟩=some (.int .i64 (j:Int)))/\(w'.cell? ⟨w0.heap.size+1,0,none⟩=some (.string r.s)/\w'.cell? ⟨w0.heap.size+1,1,none⟩=some (.slice (some a') r.ps.length d1)/\w'.cell? ⟨w0.heap.size+1,2,none⟩=some (.int .u8 r.b.k)/\w'.cell? ⟨w0.heap.size+1,3,none⟩=some (.int .i64 r.b.n)/\w'.cell? ⟨w0.heap.size+1,4,none⟩=some (.string r.b.s)/\w'.cell? ⟨w0.heap.size+1,5,none⟩=some (.slice P2 r.b.ks.length d2))) w'/\(w'.cell? ⟨wr.heap.size,0,none⟩=some (.string u.s)/\w'.cell? ⟨wr.heap.size,1,none⟩=some (.int .u8 u.k)/\w'.cell? ⟨wr.heap.size,2,none⟩=some (.int .i64 u.n))) (fun _:World=>True) 40 (by kernel_rfl) ?_
         refine zT 0 hSS ?_;(try simp only[zQ]);refine zT 1 hSS ?_;(try simp only[zQ]);refine zT 2 hSS ?_;(try simp only[zQ]);refine zT 3 hSS ?_;(try simp only[zQ]);refine zT 4 hSS ?_;(try simp only[zQ]);refine zT 5 hSS ?_;(try simp only[zQ]);refine zT 6 hSS ?_;(try simp only[zQ]);refine zT 7 hSS ?_;(try simp only[zQ]);refine zT 8 hSS ?_;(try simp only[zQ]);refine zT 9 hSS ?_;(try simp only[zQ]);refine zo 10 fun K hK=>?_;refine zkg (by rfl) (.func 93) [.tmp 71,.tmp 73] _ (by rfl) 93 _ zoz (by rfl) _ (by rfl) _ (zm1 (zmk r.ps i (by omega) (some a') d1 u.s _ _ (HD2.out _ (bg.out.chg.trans (Chg.of_below (zka ky.out hdv)))).2.row jg.out.lp)) ?_;rintro vq w5 ⟨rfl,gu⟩;have b5:=zka hdv gu;refine hK.out _ _ (sH.out _ b5) ?_;clear hK K hSS;(try simp only[zQ]);refine zo 11 fun K hK=>?_
         refine zk8 (by rfl) (.tmp 64) [.tmp 65,.const (.slice none 0 0),.tmp 67,.tmp 74] _ (by rfl) 92 _ zp1 #[.pointer (some ⟨fb,0,none⟩)] (by rfl) _ (by rfl) _ (zl3 (zmg fb fb _ jm (j:Int) _ [] none 0 u.s Any _ (bg.out.fs.later (zka ky.out b5)) RowI.nil (by simp) (by omega))) ?_;rintro vq W6 hp;obtain⟨fA,bF⟩:=bg.out.stepK bG.out (zka ky.out b5) hp;have bB:VsI gz fb fb wk pv' (F1+prcN p.prs j+E1+frsN r.ps (i+1)) W6 fA:=by rw[zmI ru,Hu.out,<-Nat.add_assoc];exact bF
         have aH:(fun w':World=>(fun w':World=>((w'.cell? ⟨W.heap.size,0,none⟩=some (.slice A1 L1 c1)/\w'.cell? ⟨W.heap.size,1,none⟩=some (.slice (some a) L2 c2)/\w'.cell? ⟨W.heap.size,2,none⟩=some (.int .u8 k)/\w'.cell? ⟨W.heap.size,3,none⟩=some (.int .i64 n)/\w'.cell? ⟨W.heap.size,4,none⟩=some (.string s)/\w'.cell? ⟨W.heap.size,5,none⟩=some (.slice A3 l3 c3))/\(w'.cell? ⟨fb+1,0,none⟩=some (.func (.func 92) #[] #[.pointer (some ⟨fb,0,none⟩)])))/\(w'.cell? ⟨w0.heap.size,0,none⟩=some (.int .i64 (j:Int)))/\(w'.cell? ⟨w0.heap.size+1,0,none⟩=some (.string r.s)/\w'.cell? ⟨w0.heap.size+1,1,none⟩=some (.slice (some a') r.ps.length d1)/\w'.cell? ⟨w0.heap.size+1,2,none⟩=some (.int .u8 r.b.k)/\w'.cell? ⟨w0.heap.size+1,3,none⟩=some (.int .i64 r.b.n)/\w'.cell? ⟨w0.heap.size+1,4,none⟩=some (.string r.b.s)/\w'.cell? ⟨w0.heap.size+1,5,none⟩=some (.slice P2 r.b.ks.length d2))) w'/\(w'.cell? ⟨wr.heap.size,0,none⟩=some (.string u.s)/\w'.cell? ⟨wr.heap.size,1,none⟩=some (.int .u8 u.k)/\w'.cell? ⟨wr.heap.size,2,none⟩=some (.int .i64 u.n))) W6/\(fun _:World=>True) W6:=⟨⟨fH.out _ bB.rd,box3 ((hp.2.elim fun _ h=>h.2.2.block _ (by have:=(zka ky.out b5).size;have:=b5.size;have:=oC.out;omega) (fun hh=>by have hl:=bg.out.fs.lt;rcases hh with hh|hh;(have:=hl.1;omega);(have:=(hl.2 _ hh).2;omega))).trans ((b5.block _ (by have:=oC.out;omega)).trans eO.out))⟩,trivial⟩
         refine hK.out _ _ aH ?_;clear hK K;(try simp only[zQ]);refine zd ?_;refine NoPanic.normal ?_;have iP:=zh bB;clear bB bF hp aH;go_wp2_with fail
         go_roundw
         case rel=>exact⟨i+1,_,by omega,by go_num,iP.out⟩
         case measure=>simp[intOf];omega
        ·have hil:i=r.ps.length:=by omega
         obtain⟨⟨⟨a0,a1,a2,a3,a4,a5⟩,ar⟩,ai,r0,r1,r2,r3,r4,r5⟩:=fH.out _ hinv.rd;have hge:¬ ((i:Int)<(r.ps.length:Int)):=by omega
         clear hinv;go_wp2_with fail;have uP:=zl7 r.ps r.ps.length;have aK:=zh (show VsI gz fb fb wk pv' (F1+prcN p.prs j+E1+frsN r.ps r.ps.length) wr jm by rw[<-hil];exact bg.out);have sM:=bg.out.chg.size;have hzk:=dJ.out;have hz0:=af.out.chg.size;have hzb:=lJ.out;refine(zmS 96 _ _ fb fb (zqf fb fb (fb+1) w0.heap.size (j:Int)) p r.b (fun b=>S b/\b<W.heap.size) r.ps P1 d1 [] none 0 (F1+prcN p.prs j+E1+frsN r.ps r.ps.length) jm wr _ _ ⟨(kN.out _ (gB.out _ aK.out.rd).1.1).1,(gB.out _ aK.out.rd).1.2⟩ aK.out.fs (HD2.out _ aK.out.chg).1 (HD2.out _ aK.out.chg).2.body (HD2.out _ aK.out.chg).2.row jg.out.lc RowI.nil (Nat.zero_le _) (fun b hb hbl hh=>?_) (by simp;omega) (by omega) (by omega)).mono ?_
         ·rcases hh with hh|hh
          ·have:=hb.2;omega
          ·rcases aK.out.own b hh with h1|h1
           ·have:=(af.out.fs.lt.2 b h1).1;have:=hb.2;omega
           ·have:=hb.2;omega
         rintro e W6 hp;obtain⟨v6,rfl⟩:=hp.1;obtain⟨fA,bF⟩:=aK.out.stepK bG.out (Below.refl _ _) hp;obtain⟨uD,bB⟩:=af.out.step aP.out aC.out (bF.rep (Below.refl _ _) (e:=.returned undef) ⟨_,rfl⟩);have vY:=zh (show VsI Rd fb fb Wb (.slice none 0 0) (F1+prcN p.prs (j+1)) W6 uD by rw[zns eQ,Hr.out,prcE,dB.out];simpa only[Nat.add_assoc] using bB);clear bB bF hp a0 a1 a2 a3 a4 a5 ar ai r0 r1 r2 r3 r4 r5;go_wp2_with fail
         go_roundw
         case rel=>exact⟨j+1,_,by omega,by go_num,vY.out⟩
         case measure=>simp[intOf];omega
      ·have hd:decide (PE<(j:Int))=false:=decide_eq_false hpe;obtain⟨E1,hE1⟩:∃ E1,one1 (0)=E1:=⟨_,rfl⟩
       have hE2:E1<=1:=by rw[<-hE1];exact zmv _
       have dB:=zh (show one1 (if zlj p.prs r.s<(j:Int) then 22 else 0)=E1 by rw[HPE.out,if_neg hpe];exact hE1);refine zT 5 aA ?_;(try simp only[zQ]);refine zd ?_;refine NoPanic.normal ?_;obtain⟨⟨⟨a0,a1,a2,a3,a4,a5⟩,ar⟩,ai,r0,r1,r2,r3,r4,r5⟩:=aA.1;clear aA;go_wp2_with fail;have HI3:=zh (show VsI gz fb fb wk pv' (F1+prcN p.prs j+E1) w2 pv' by rw[<-hE1];exact pI.out);clear hE1
       go_loopw [59] (fun x w'=>∃ (i:Nat) (jm:Value),i<=r.ps.length/\x=.int .i64 i/\VsI gz fb fb wk pv' (F1+prcN p.prs j+E1+frsN r.ps i) w' jm) (fun x _=>r.ps.length-(intOf x).toNat)
       case atStart=>exact⟨0,_,Nat.zero_le _,rfl,HI3.out⟩
       case round =>
        clear HI3 a0 a1 a2 a3 a4 a5 ar ai r0 r1 r2 r3 r4 r5;obtain⟨i,jm,hi,rfl,hinv⟩:=hrel;have bg:=zh hinv;by_cases ru:i<r.ps.length
        ·obtain⟨a',u,rfl,hsa,Hu,⟨q0,q1,q2⟩,hfu⟩:=(HD2.out wr hinv.chg).2.row.nd ru;have hic:(i:Int)<=(d1:Int):=by have:=jg.out.lc;omega
         have hi0:(0:Int)<=(i:Int):=by omega
         obtain⟨⟨⟨a0,a1,a2,a3,a4,a5⟩,ar⟩,ai,r0,r1,r2,r3,r4,r5⟩:=fH.out _ hinv.rd;clear hinv hsa hfu;go_upto_region 18 with fail;have hbk:Below wr.heap.size wr (wr.alloc (.cells #[.string u.s,.int .u8 u.k,.int .i64 u.n] 83)):=zkd (Below.refl _ _) _;have di:=heap_alloc_new wr (.cells #[.string u.s,.int .u8 u.k,.int .i64 u.n] 83);obtain⟨wv,hwv⟩:∃ wv,wr.alloc (.cells #[.string u.s,.int .u8 u.k,.int .i64 u.n] 83)=wv:=⟨_,rfl⟩
         rw[hwv] at hbk di ⊢;have oC:=zh (show wv.heap.size=wr.heap.size+1 by rw[<-hwv];simp);have ky:=zh hbk;have eO:=zh di;clear hwv hbk di a0 a1 a2 a3 a4 a5 ar ai r0 r1 r2 r3 r4 r5 q0 q1 q2
         have sH:=zh (show ∀ w':World,Below wv.heap.size wv w'->(fun w':World=>(fun w':World=>((w'.cell? ⟨W.heap.size,0,none⟩=some (.slice A1 L1 c1)/\w'.cell? ⟨W.heap.size,1,none⟩=some (.slice (some a) L2 c2)/\w'.cell? ⟨W.heap.size,2,none⟩=some (.int .u8 k)/\w'.cell? ⟨W.heap.size,3,none⟩=some (.int .i64 n)/\w'.cell? ⟨W.heap.size,4,none⟩=some (.string s)/\w'.cell? ⟨W.heap.size,5,none⟩=some (.slice A3 l3 c3))/\(w'.cell? ⟨fb+1,0,none⟩=some (.func (.func 92) #[] #[.pointer (some ⟨fb,0,none⟩)])))/\(w'.cell? ⟨w0.heap.size,0,none⟩=some (.int .i64 (j:Int)))/\(w'.cell? ⟨w0.heap.size+1,0,none⟩=some (.string r.s)/\w'.cell? ⟨w0.heap.size+1,1,none⟩=some (.slice (some a') r.ps.length d1)/\w'.cell? ⟨w0.heap.size+1,2,none⟩=some (.int .u8 r.b.k)/\w'.cell? ⟨w0.heap.size+1,3,none⟩=some (.int .i64 r.b.n)/\w'.cell? ⟨w0.heap.size+1,4,none⟩=some (.string r.b.s)/\w'.cell? ⟨w0.heap.size+1,5,none⟩=some (.slice P2 r.b.ks.length d2))) w'/\(w'.cell? ⟨wr.heap.size,0,none⟩=some (.string u.s)/\w'.cell? ⟨wr.heap.size,1,none⟩=some (.int .u8 u.k)/\w'.cell? ⟨wr.heap.size,2,none⟩=some (.int .i64 u.n))) w'/\(fun _:World=>True) w' from fun w' h=>⟨⟨fH.out _ (bG.out _ _ _ _ bg.out.rd bg.out.fs (Chg.of_below (zka ky.out h))),box3 ((h.block _ (by have:=oC.out;omega)).trans eO.out)⟩,trivial⟩)
         have hdv:=(Below.refl wv.heap.size wv).drew;have hSS:=sH.out _ hdv;have uP:=zl7 r.ps i;refine wp_region_noPanic ?_
         refine zke (fun w':World=>(fun w':World=>((w'.cell? ⟨W.heap.size,0,none⟩=some (.slice A1 L1 c1)/\w'.cell? ⟨W.heap.size,1,none⟩=some (.slice (some a) L2 c2)/\w'.cell? ⟨W.heap.size,2,none⟩=some (.int .u8 k)/\w'.cell? ⟨W.heap.size,3,none⟩=some (.int .i64 n)/\w'.cell? ⟨W.heap.size,4,none⟩=some (.string s)/\w'.cell? ⟨W.heap.size,5,none⟩=some (.slice A3 l3 c3))/\(w'.cell? ⟨fb+1,0,none⟩=some (.func (.func 92) #[] #[.pointer (some ⟨fb,0,none⟩)])))/\(w'.cell? ⟨w0.heap.size,0,none⟩=some (.int .i64 (j:Int)))/\(w'.cell? ⟨w0.heap.size+1,0,none⟩=some (.string r.s)/\w'.cell? ⟨w0.heap.size+1,1,none⟩=some (.slice (some a') r.ps.length d1)/\w'.cell? ⟨w0.heap.size+1,2,none⟩=some (.int .u8 r.b.k)/\w'.cell? ⟨w0.heap.size+1,3,none⟩=some (.int .i64 r.b.n)/\w'.cell? ⟨w0.heap.size+1,4,none⟩=some (.string r.b.s)/\w'.cell? ⟨w0.heap.size+1,5,none⟩=some (.slice P2 r.b.ks.length d2))) w'/\(w'.cell? ⟨wr.heap.size,0,none⟩=some (.string u.s)/\w'.cell? ⟨wr.heap.size,1,none⟩=some (.int .u8 u.k)/\w'.cell? ⟨wr.heap.size,2,none⟩=some (.int .i64 u.n))) (fun _:World=>True) 40 (by kernel_rfl) ?_
         refine zT 0 hSS ?_;(try simp only[zQ]);refine zT 1 hSS ?_;(try simp only[zQ]);refine zT 2 hSS ?_;(try simp only[zQ]);refine zT 3 hSS ?_;(try simp only[zQ]);refine zT 4 hSS ?_;(try simp only[zQ]);refine zT 5 hSS ?_;(try simp only[zQ]);refine zT 6 hSS ?_;(try simp only[zQ]);refine zT 7 hSS ?_;(try simp only[zQ]);refine zT 8 hSS ?_;(try simp only[zQ]);refine zT 9 hSS ?_;(try simp only[zQ]);refine zo 10 fun K hK=>?_;refine zkg (by rfl) (.func 93) [.tmp 71,.tmp 73] _ (by rfl) 93 _ zoz (by rfl) _ (by rfl) _ (zm1 (zmk r.ps i (by omega) (some a') d1 u.s _ _ (HD2.out _ (bg.out.chg.trans (Chg.of_below (zka ky.out hdv)))).2.row jg.out.lp)) ?_;rintro vq w5 ⟨rfl,gu⟩;have b5:=zka hdv gu;refine hK.out _ _ (sH.out _ b5) ?_;clear hK K hSS;(try simp only[zQ]);refine zo 11 fun K hK=>?_
         refine zk8 (by rfl) (.tmp 64) [.tmp 65,.const (.slice none 0 0),.tmp 67,.tmp 74] _ (by rfl) 92 _ zp1 #[.pointer (some ⟨fb,0,none⟩)] (by rfl) _ (by rfl) _ (zl3 (zmg fb fb _ jm (j:Int) _ [] none 0 u.s Any _ (bg.out.fs.later (zka ky.out b5)) RowI.nil (by simp) (by omega))) ?_;rintro vq W6 hp;obtain⟨fA,bF⟩:=bg.out.stepK bG.out (zka ky.out b5) hp;have bB:VsI gz fb fb wk pv' (F1+prcN p.prs j+E1+frsN r.ps (i+1)) W6 fA:=by rw[zmI ru,Hu.out,<-Nat.add_assoc];exact bF
         have aH:(fun w':World=>(fun w':World=>((w'.cell? ⟨W.heap.size,0,none⟩=some (.slice A1 L1 c1)/\w'.cell? ⟨W.heap.size,1,none⟩=some (.slice (some a) L2 c2)/\w'.cell? ⟨W.heap.size,2,none⟩=some (.int .u8 k)/\w'.cell? ⟨W.heap.size,3,none⟩=some (.int .i64 n)/\w'.cell? ⟨W.heap.size,4,none⟩=some (.string s)/\w'.cell? ⟨W.heap.size,5,none⟩=some (.slice A3 l3 c3))/\(w'.cell? ⟨fb+1,0,none⟩=some (.func (.func 92) #[] #[.pointer (some ⟨fb,0,none⟩)])))/\(w'.cell? ⟨w0.heap.size,0,none⟩=some (.int .i64 (j:Int)))/\(w'.cell? ⟨w0.heap.size+1,0,none⟩=some (.string r.s)/\w'.cell? ⟨w0.heap.size+1,1,none⟩=some (.slice (some a') r.ps.length d1)/\w'.cell? ⟨w0.heap.size+1,2,none⟩=some (.int .u8 r.b.k)/\w'.cell? ⟨w0.heap.size+1,3,none⟩=some (.int .i64 r.b.n)/\w'.cell? ⟨w0.heap.size+1,4,none⟩=some (.string r.b.s)/\w'.cell? ⟨w0.heap.size+1,5,none⟩=some (.slice P2 r.b.ks.length d2))) w'/\(w'.cell? ⟨wr.heap.size,0,none⟩=some (.string u.s)/\w'.cell? ⟨wr.heap.size,1,none⟩=some (.int .u8 u.k)/\w'.cell? ⟨wr.heap.size,2,none⟩=some (.int .i64 u.n))) W6/\(fun _:World=>True) W6:=⟨⟨fH.out _ bB.rd,box3 ((hp.2.elim fun _ h=>h.2.2.block _ (by have:=(zka ky.out b5).size;have:=b5.size;have:=oC.out;omega) (fun hh=>by have hl:=bg.out.fs.lt;rcases hh with hh|hh;(have:=hl.1;omega);(have:=(hl.2 _ hh).2;omega))).trans ((b5.block _ (by have:=oC.out;omega)).trans eO.out))⟩,trivial⟩
         refine hK.out _ _ aH ?_;clear hK K;(try simp only[zQ]);refine zd ?_;refine NoPanic.normal ?_;have iP:=zh bB;clear bB bF hp aH;go_wp2_with fail
         go_roundw
         case rel=>exact⟨i+1,_,by omega,by go_num,iP.out⟩
         case measure=>simp[intOf];omega
        ·have hil:i=r.ps.length:=by omega
         obtain⟨⟨⟨a0,a1,a2,a3,a4,a5⟩,ar⟩,ai,r0,r1,r2,r3,r4,r5⟩:=fH.out _ hinv.rd;have hge:¬ ((i:Int)<(r.ps.length:Int)):=by omega
         clear hinv;go_wp2_with fail;have uP:=zl7 r.ps r.ps.length;have aK:=zh (show VsI gz fb fb wk pv' (F1+prcN p.prs j+E1+frsN r.ps r.ps.length) wr jm by rw[<-hil];exact bg.out);have sM:=bg.out.chg.size;have hzk:=dJ.out;have hz0:=af.out.chg.size;have hzb:=lJ.out;refine(zmS 96 _ _ fb fb (zqf fb fb (fb+1) w0.heap.size (j:Int)) p r.b (fun b=>S b/\b<W.heap.size) r.ps P1 d1 [] none 0 (F1+prcN p.prs j+E1+frsN r.ps r.ps.length) jm wr _ _ ⟨(kN.out _ (gB.out _ aK.out.rd).1.1).1,(gB.out _ aK.out.rd).1.2⟩ aK.out.fs (HD2.out _ aK.out.chg).1 (HD2.out _ aK.out.chg).2.body (HD2.out _ aK.out.chg).2.row jg.out.lc RowI.nil (Nat.zero_le _) (fun b hb hbl hh=>?_) (by simp;omega) (by omega) (by omega)).mono ?_
         ·rcases hh with hh|hh
          ·have:=hb.2;omega
          ·rcases aK.out.own b hh with h1|h1
           ·have:=(af.out.fs.lt.2 b h1).1;have:=hb.2;omega
           ·have:=hb.2;omega
         rintro e W6 hp;obtain⟨v6,rfl⟩:=hp.1;obtain⟨fA,bF⟩:=aK.out.stepK bG.out (Below.refl _ _) hp;obtain⟨uD,bB⟩:=af.out.step aP.out aC.out (bF.rep (Below.refl _ _) (e:=.returned undef) ⟨_,rfl⟩);have vY:=zh (show VsI Rd fb fb Wb (.slice none 0 0) (F1+prcN p.prs (j+1)) W6 uD by rw[zns eQ,Hr.out,prcE,dB.out];simpa only[Nat.add_assoc] using bB);clear bB bF hp a0 a1 a2 a3 a4 a5 ar ai r0 r1 r2 r3 r4 r5;go_wp2_with fail
         go_roundw
         case rel=>exact⟨j+1,_,by omega,by go_num,vY.out⟩
         case measure=>simp[intOf];omega
     ·have hjl:j=L2:=by omega
      obtain⟨⟨a0,a1,a2,a3,a4,a5⟩,ar⟩:=bD.out _ hinv.rd;have hge:¬ ((j:Int)<(L2:Int)):=by omega
      have bK:=zh (show VsI Rd fb fb Wb (.slice none 0 0) (F1+prcN p.prs p.prs.length) w0 pv' by rw[HL2.out,<-hjl];exact af.out);clear hinv;go_wp2_with fail;have hpN:=zpk p.prs eG.out.2.2.1 p.prs.length;have hvb:=eG.out;have sM:=af.out.chg.size;have hzb:=lJ.out;have sZ:=(HD.out _ bK.out.chg).2.main;rw[iN.out.1,iN.out.2.1,iN.out.2.2.1,iN.out.2.2.2] at sZ;have hcall:=zmS _ _ Rd fb fb aP.out p p.m (fun b=>S b/\b<W.heap.size) p.vs A1 c1 [] none 0 (F1+prcN p.prs p.prs.length) pv' w0 _ _ bK.out.rd bK.out.fs (HD.out _ bK.out.chg).1 sZ (HD.out _ bK.out.chg).2.vars HR.out.lvc RowI.nil (Nat.zero_le _) (fun b hb hbl hh=>by rcases hh with hh|hh;(have:=hb.2;omega);(rcases bK.out.own b hh with h1|h1;(simp[Value.ownBlock] at h1);(have:=hb.2;omega))) (by simp;omega) (by omega) (by omega);rw[o9.out] at hcall;refine hcall.mono ?_;clear hcall;rintro e W6 hp
      obtain⟨v6,rfl⟩:=hp.1;obtain⟨fA,bF⟩:=bK.out.step aP.out (Below.refl _ _) hp;rw[show F1+prcN p.prs p.prs.length+cntV p.prs p.m p.vs=NN by rw[<-HNN2.out,chkN,uj.out]] at bF;obtain⟨A6,c6,rfl⟩:=bF.fs.slice;have hf6:W6.cell? ⟨fb,0,none⟩=some (.slice A6 NN c6):=zc bF.fs.box rfl;have HBZ:=zh (show Below W.heap.size W W6 from aR.out.trans (bF.chg.below (by omega) (fun b hb=>by rcases hb with hb|hb;omega;simp[Value.ownBlock] at hb)));clear bF hp sZ hvb a0 a1 a2 a3 a4 a5 ar;go_wp2_with fail;go_ret;exact⟨A6,c6,rfl,HBZ.out⟩
end Go.Proofs.YtckhofdinldhpaaGreat
namespace Go.Proofs.YtckhofdinldhpaaGreat
open Go Go.RowKit
theorem zrh:∀ (prs:List PR) (s:ByteArray),prcI prs s=idxP prs s
 | [],_=>rfl
 | q::qs,s=>by
  unfold prcI;rw[zrh qs s];unfold idxP;rw[List.findIdx?_cons]
def CalB (prs:List PR) (t:T):Prop:=∀ u∈po t,(u.k=50\/u.k=51)->∃ i,prcI prs u.s=some i
theorem zua:∀ (t:T),isE t=true->∀ x∈po t,isE x=true:=by
 intro t
 induction t using T.ind with
 | _ k n s ks ih =>
  intro h x hx;simp only[po,List.mem_cons] at hx;rcases hx with rfl|hx
  ·exact h
  ·obtain⟨t,ht,hx⟩:=zmT.1 hx;exact ih t ht (zsR h t ht) x hx
theorem CalB.expr {prs:List PR} {t:T} (h:isE t=true):CalB prs t:=fun u hu hk=>by
 have:=zsS u (zua t h u hu);omega
theorem CalB.kid {prs:List PR} {k n:Int} {s:ByteArray} {ks:List T} (h:CalB prs (.nd k n s ks)) {t:T} (ht:t∈ks):CalB prs t:=fun u hu=>h u (by simp only[po,List.mem_cons];exact .inr (zmT.2 ⟨t,ht,hu⟩))
theorem znI {prs:List PR} {k:Int} {s:ByteArray} {vs:List VD}:∀ {ks:List T} {i:Nat},cntK prs k s i ks vs=0->∀ t∈ks,∃ vs',cntV prs t vs'=0
 | [],_,_,t,ht=>by cases ht
 | u::us,i,h,t,ht=>by
  rw[cntK] at h;obtain⟨h1,h2⟩:=Nat.add_eq_zero_iff.1 h;rcases List.mem_cons.1 ht with rfl|ht
  ·exact⟨_,h1⟩
  ·exact znI h2 t ht
theorem zrl {e:Int} (h:one1 e=0):e=0:=by
 unfold one1 at h
 split at h
 ·assumption
 ·omega
theorem ztS:∀ (t:T) (prs:List PR) (vs:List VD),(isS t=true\/isB t=true\/isE t=true)->cntV prs t vs=0->CalB prs t:=by
 intro t
 induction t using T.ind with
 | _ k n s ks ih =>
  intro prs vs ht h;rcases ht with hs|hb|he
  ·rw[cntV] at h;intro u hu hk;simp only[po,List.mem_cons] at hu;by_cases hc:k=50\/k=51
   ·rcases hu with rfl|hu
    ·have h0:=zrl (e:=zk7 prs k s ks.length vs) (by omega);unfold zk7 at h0;rw[if_neg (by omega),if_neg (by omega),if_neg (by omega),if_neg (by omega),if_pos hc] at h0;rw[zrh]
     cases hi:idxP prs s with
     | none=>rw[hi] at h0;simp at h0
     | some i=>exact⟨i,hi⟩
    ·obtain⟨t,ht,hx⟩:=zmT.1 hu;have h57:t.k≠57:=by
      rcases zmH hs with⟨_,h1⟩|⟨h1,_⟩|⟨h1,_⟩|⟨h1,_⟩
      ·exact h1 t ht
      all_goals omega
     rcases(ztL hs).2 t ht with h1|h1
     ·exact CalB.expr h1 u hx hk
     ·exact absurd (zvu h1) h57
   ·rw[if_neg hc] at h;rcases hu with rfl|hu
    ·exact absurd hk hc
    ·obtain⟨t,ht,hx⟩:=zmT.1 hu;obtain⟨vs',hv⟩:=znI (Nat.add_eq_zero_iff.1 h).2 t ht;rcases(ztL hs).2 t ht with h1|h1
     ·exact CalB.expr h1 u hx hk
     ·exact ih t ht prs vs' (.inr (.inl h1)) hv u hx hk
  ·obtain⟨h57,hks⟩:=zpZ _ _ _ _ hb;rw[cntV,if_neg (by omega)] at h;intro u hu hk;simp only[po,List.mem_cons] at hu;rcases hu with rfl|hu
   ·simp only[T.k_nd] at hk;omega
   ·obtain⟨t,ht,hx⟩:=zmT.1 hu;obtain⟨vs',hv⟩:=znI (Nat.add_eq_zero_iff.1 h).2 t ht;exact ih t ht prs vs' (.inl (hks t ht)) hv u hx hk
  ·exact CalB.expr he
def GP (prs:List PR) (t:T):Prop:=isS t=true/\CalB prs t/\∀ q∈prs,isB q.b=true/\CalB prs q.b
theorem GP.block {prs:List PR} {b:T} (hb:isB b=true) (hc:CalB prs b) (hq:∀ q∈prs,isB q.b=true/\CalB prs q.b):∀ u∈b.ks,GP prs u:=by
 obtain⟨k,n,s,ks⟩:=b;exact fun u hu=>⟨(zpZ _ _ _ _ hb).2 u hu,hc.kid hu,hq⟩
theorem zvI:GC GP where
 two:=fun prs t h hk=>by
  obtain⟨k,n,s,ks⟩:=t;obtain⟨hs,hc,hq⟩:=h;simp only[T.k_nd] at hk;rcases zmH hs with⟨h1,_⟩|⟨_,_,a,b,c,d,rfl,_,hb1,hb2,_⟩|⟨h1,_⟩|⟨h1,_⟩
  ·omega
  ·exact⟨rfl,GP.block hb1 (hc.kid (t:=b) (by simp)) hq,GP.block hb2 (hc.kid (t:=c) (by simp)) hq⟩
  ·omega
  ·omega
 loc:=fun prs t h hk=>by
  obtain⟨k,n,s,ks⟩:=t;obtain⟨hs,hc,hq⟩:=h;simp only[T.k_nd] at hk;rcases zmH hs with⟨h1,_⟩|⟨h1,_⟩|⟨_,_,a,b,c,rfl,_,hb1,_⟩|⟨h1,_⟩
  ·omega
  ·omega
  ·exact⟨rfl,GP.block hb1 (hc.kid (t:=b) (by simp)) hq⟩
  ·omega
 stk:=fun prs t h hk=>by
  obtain⟨k,n,s,ks⟩:=t;obtain⟨hs,hc,hq⟩:=h;simp only[T.k_nd] at hk;rcases zmH hs with⟨h1,_⟩|⟨h1,_⟩|⟨h1,_⟩|⟨_,_,b,rfl,hb1⟩
  ·omega
  ·omega
  ·omega
  ·exact⟨rfl,GP.block hb1 (hc.kid (t:=b) (by simp)) hq⟩
 cal:=fun prs t h hk=>by
  obtain⟨hs,hc,hq⟩:=h;have hm:t∈po t:=by obtain⟨k,n,s,ks⟩:=t;simp[po]
  obtain⟨i,hi⟩:=hc t hm hk;obtain⟨-,hl⟩:=zpS _ _ _ hi;exact⟨i,prs[i],hi,List.getElem?_eq_getElem hl,GP.block (hq _ (List.getElem_mem hl)).1 (hq _ (List.getElem_mem hl)).2 hq⟩
theorem zoR {ps:List PR}:∀ {j:Nat},j<=ps.length->prcN ps j=0->∀ i (h:i<ps.length),i<j->prcE ps i ps[i]=0
 | 0,_,_,i,_,hi=>by omega
 | j+1,hj,h,i,hl,hi=>by
  rw[zns (by omega)] at h;by_cases e:i=j
  ·subst e;omega
  ·exact zoR (j:=j) (by omega) (by omega) i hl (by omega)
theorem zq2 {p:PG} (h:zkX p=true):isB p.m=true/\∀ r∈p.prs,isB r.b=true:=by
 simp only[zkX,Bool.and_eq_true,decide_eq_true_eq,List.all_eq_true] at h;refine⟨?_,fun r hr=>?_⟩
 ·have:=h.2;simp only[zlk,Bool.and_eq_true] at this;exact this.2
 ·have:=h.1.2 r hr;simp only[znQ,zlk,Bool.and_eq_true] at this;exact this.2.2
theorem zuH {p:PG} (hv:zkX p=true) (hc:chkN p=0):∀ u∈p.m.ks,GP p.prs u:=by
 obtain⟨h1,h2⟩:=zq2 hv;unfold chkN at hc;refine GP.block h1 (ztS _ _ p.vs (.inr (.inl h1)) (by omega)) fun q hq=>⟨h2 q hq,?_⟩
 obtain⟨i,hi,rfl⟩:=List.getElem_of_mem hq;have:=zoR (Nat.le_refl _) (show prcN p.prs p.prs.length=0 by omega) i hi hi;unfold prcE at this;exact ztS _ _ _ (.inr (.inl (h2 _ hq))) (show cntV p.prs p.prs[i].b p.prs[i].ps=0 by omega)
theorem zuS (M a b r s g:Nat) (h1:a<=b) (h2:s<=r) (hg:b*M+r<=g):a*M+s<=g:=by have:=Nat.mul_le_mul_right M h1;omega
theorem zpN {p:PG} {F:Int} {g:Nat} (hv:zkX p=true) (hg:F.toNat*2000+2000<=g) (back:Bool) (S:ST) (e:List Nat):Good 0 (runO p.prs F g back p.m ⟨S,0,e⟩):=by
 obtain⟨_,_,h3,_,h5⟩:=zlG hv;refine zlq _ _ fun u hu r hr=>zlQ (M:=2000) (fun q hq=>(h3 q hq).2.2) (by omega) g back u r ?_;have h6:=zot (zle hu);exact zuS 2000 (F.toNat-r.n) F.toNat 2000 _ g (by omega) (by omega) hg
section
variable {S:ST}
end
section
variable {o:Out} {f:RS->Out} {r r':RS} {F:Int} {t:T}
theorem zkL (h:o.bind f=.ok r'):∃ r1,o=.ok r1/\f r1=.ok r':=by
 cases o with
 | gas=>cases h
 | err e=>cases h
 | ok r1=>exact⟨r1,rfl,h⟩
theorem zlt {R:Int×ST} (h:zkK r R=.ok r'):R.1=0/\r'={ r with S:=R.2 }:=by
 unfold zkK at h
 split at h
 ·cases h
 ·rename_i h0;injection h with h;exact⟨by simpa using h0,h.symm⟩
theorem zpe {f:Int->RS->Out} (h:valO t r f=.ok r'):(zkI r.S.look t).2=0/\f (zkI r.S.look t).1 r=.ok r':=by
 unfold valO at h
 split at h
 ·cases h
 ·rename_i h0;exact⟨by simpa using h0,h⟩
theorem znz {f:Bool->RS->Out} (h:zlX F t r f=.ok r'):(r.n:Int)<F/\(zkI r.S.look t).2=0/\f (decide ((zkI r.S.look t).1≠0)) { r with n:=r.n+1 }=.ok r':=by
 unfold zlX at h;obtain⟨r1,h1,h2⟩:=zkL h;obtain⟨rfl,h3⟩:=zkV h1;obtain⟨h4,h5⟩:=zpe h2;exact⟨h3,h4,h5⟩
theorem zmB {b:Bool} (h:zlc F t b r=.ok r'):(r.n:Int)<F/\(zkI r.S.look t).2=0/\decide ((zkI r.S.look t).1≠0)=b/\r'={ r with n:=r.n+1 }:=by
 unfold zlc at h;obtain⟨h1,h2,h3⟩:=znz h
 split at h3
 ·rename_i hb;injection h3 with h3;exact⟨h1,h2,hb,h3.symm⟩
 ·cases h3
end
section
variable {r r1 r':RS} {F:Int}
end
theorem zmM {prs:List PR} {f:T->RS->Out} {back:Bool}:∀ (l:List T) (r r':RS),(∀ t∈l,∀ r r',f t r=.ok r'->∃ L,Tg prs (.stm back t) r.S L r'.S/\r'.n=r.n+L.length)->zkY f l r=.ok r'->∃ L,Tg prs (.blk back l) r.S L r'.S/\r'.n=r.n+L.length
 | [],r,r',_,h=>by
  injection h with h;subst h;exact⟨[],.nil back _,rfl⟩
 | t::ts,r,r',hf,h=>by
  rw[zkY] at h;obtain⟨r1,h1,h2⟩:=zkL h;obtain⟨L1,a1,a2⟩:=hf t (List.mem_cons_self ..) r r1 h1;obtain⟨L2,b1,b2⟩:=zmM ts r1 r' (fun u hu=>hf u (List.mem_cons_of_mem _ hu)) h2;exact⟨L1++L2,.cons a1 b1,by rw[List.length_append];omega⟩
theorem zpV {prs:List PR} {F:Int} {f:T->RS->Out} {back:Bool} {t:T} (hf1:∀ u∈blkL back (kid t 1),∀ r r',f u r=.ok r'->∃ L,Tg prs (.stm back u) r.S L r'.S/\r'.n=r.n+L.length)
  (hf2:∀ u∈blkL back (kid t 2),∀ r r',f u r=.ok r'->∃ L,Tg prs (.stm back u) r.S L r'.S/\r'.n=r.n+L.length):∀ (m:Nat) (r r':RS),(zkI r.S.look (fstT back t)).2=0 ->
  zm6 F f (fstT back t) (lstT back t) (blkL back (kid t 1)) (blkL back (kid t 2)) m { r with n:=r.n+1 }=.ok r'->∃ L,Tg prs (.lop back t) r.S L r'.S/\r'.n=r.n+L.length
 | 0,_,_,_,h=>by cases h
 | m+1,r,r',he,h=>by
  rw[zm6] at h;obtain⟨ra,ha,h⟩:=zkL h;obtain⟨L1,a1,a2⟩:=zmM _ _ ra hf1 ha;simp only at a1 a2;obtain⟨-,h2,h⟩:=znz h;by_cases hx:(zkI ra.S.look (lstT back t)).1≠0
  ·rw[if_pos (by simpa using hx)] at h;injection h with h;subst h;exact⟨_,.done he a1 h2 hx,by simp only[List.length_append,List.length_cons,List.length_nil];omega⟩
  ·rw[if_neg (by simpa using hx)] at h;obtain⟨rb,hb,h⟩:=zkL h;obtain⟨L2,b1,b2⟩:=zmM _ _ rb hf2 hb;simp only at b1 b2;obtain⟨rc,hc,h⟩:=zkL h;obtain⟨-,h3,h4,rfl⟩:=zmB hc;obtain⟨L3,c1,c2⟩:=zpV hf1 hf2 m rb r' h3 h;exact⟨_,.more he a1 h2 (by simpa using hx) b1 (by simpa using h4) c1,by simp only[List.length_append,List.length_cons];omega⟩
theorem znc {prs:List PR} {F:Int}:∀ (g:Nat) (back:Bool) (t:T) (r r':RS),zkJ prs F g back t r=.ok r'->∃ L,Tg prs (.stm back t) r.S L r'.S/\r'.n=r.n+L.length
 | 0,_,_,_,_,h=>by cases h
 | g+1,back,t,r,r',h=>by
  have hb:∀ back l r r',zkY (zkJ prs F g back) l r=.ok r'->∃ L,Tg prs (.blk back l) r.S L r'.S/\r'.n=r.n+L.length:=fun back l r r' h =>
   zmM _ r r' (fun u hu r r' h=>znc g back u r r' h) h
  rw[zkJ] at h
  split at h
  ·rename_i hk;obtain⟨-,e1,h⟩:=znz h;obtain⟨r1,h1,h⟩:=zkL h;obtain⟨L,a1,a2⟩:=hb back _ _ r1 h1;obtain⟨-,e2,e3,rfl⟩:=zmB h;simp only at a1 a2;refine⟨_,.iff (L:=L) hk e1 ?_ e2 ?_,by simp only[List.length_append,List.length_cons,List.length_nil];omega⟩
   ·simpa using a1
   ·have:=decide_eq_decide.1 e3;exact this
  split at h
  ·rename_i hk;obtain⟨r1,h1,h⟩:=zkL h;obtain⟨-,e1,e2,rfl⟩:=zmB h1;obtain⟨L,a1,a2⟩:=zpV (fun u hu r r' h=>znc g back u r r' h) (fun u hu r r' h=>znc g back u r r' h) g r r' e1 h;exact⟨L,.frm hk (by simpa using e2) a1,a2⟩
  split at h
  ·rename_i hk;obtain⟨r1,h1,h⟩:=zkL h;obtain⟨rfl,hn⟩:=zkV h1;obtain⟨v1,h⟩:=zpe h;obtain⟨r2,h2,h⟩:=zkL h;obtain⟨e0,rfl⟩:=zlt h2;obtain⟨r3,h3,h⟩:=zkL h;obtain⟨L,a1,a2⟩:=hb back _ _ r3 h3;obtain⟨r4,h4,h⟩:=zkL h;obtain⟨rfl,hn2⟩:=zkV h4;obtain⟨v2,h⟩:=zpe h;obtain⟨e1,rfl⟩:=zlt h;simp only at a1 a2;exact⟨_,.loc hk v1 e0 a1 v2 e1,by simp only[List.length_append,List.length_cons,List.length_nil];omega⟩
  split at h
  ·rename_i hk;obtain⟨r1,h1,h⟩:=zkL h;obtain⟨rfl,hn⟩:=zkV h1;obtain⟨r2,h2,h⟩:=zkL h;obtain⟨e0,rfl⟩:=zlt h2;obtain⟨r3,h3,h⟩:=zkL h;obtain⟨L,a1,a2⟩:=hb back _ _ r3 h3;obtain⟨r4,h4,h⟩:=zkL h;obtain⟨rfl,hn2⟩:=zkV h4;obtain⟨e1,rfl⟩:=zlt h;simp only at a1 a2;exact⟨_,.stk hk e0 a1 e1,by simp only[List.length_append,List.length_cons,List.length_nil];omega⟩
  split at h
  ·rename_i hk
   split at h
   ·cases h
   ·rename_i i hi;obtain⟨r1,h1,h⟩:=zkL h;obtain⟨rfl,hn⟩:=zkV h1;obtain⟨r2,h2,h⟩:=zkL h;obtain⟨e0,rfl⟩:=zlt h2;obtain⟨r3,h3,h⟩:=zkL h;obtain⟨L,a1,a2⟩:=hb _ _ _ r3 h3;obtain⟨r4,h4,h⟩:=zkL h;obtain⟨rfl,hn2⟩:=zkV h4;obtain⟨e1,rfl⟩:=zlt h;simp only at a1 a2;exact⟨_,.cal hk hi e0 a1 e1,by simp only[List.length_append,List.length_cons,List.length_nil];omega⟩
  ·obtain⟨r1,h1,h⟩:=zkL h;obtain⟨rfl,hn⟩:=zkV h1;obtain⟨e0,rfl⟩:=zlt h;exact⟨_,.bas (by omega) e0,rfl⟩
theorem zt4 {prs:List PR} {F:Int} {g:Nat} {back:Bool} {b:T} {r r':RS} (h:runO prs F g back b r=.ok r'):∃ L,Tg prs (.blk back (blkL back b)) r.S L r'.S/\r'.n=r.n+L.length :=
 zmM _ r r' (fun u hu r r' h=>znc g back u r r' h) h
theorem bI0 (w:World):(Instr.buildSlice 24 0 #[]).run Tryz.prog w=.ok (.slice (some ⟨w.heap.size,0,none⟩) 0 0) (w.alloc (.cells #[] 3)):=by kernel_rfl
theorem zuB (A:Option Addr) (l c:Nat) (w:World):(Instr.buildSlice 23 1 #[(0,.slice A l c)]).run Tryz.prog w=.ok (.slice (some ⟨w.heap.size,0,none⟩) 1 1) (w.alloc (.cells #[.slice A l c] 24)):=by kernel_rfl
theorem bS12 (B C:Option Addr) (m d n e:Nat) (w:World):(Instr.build 26 #[(1,.slice B m d),(2,.slice C n e)]).run Tryz.prog w=.ok (.agg #[.slice none 0 0,.slice B m d,.slice C n e]) w:=by kernel_rfl
section
variable {P:Program} {ops:Array Oper} {Q:Exit->Act->World->Prop} {md:Region.Mode} {S1 S2:World->Prop} {k:Nat}
theorem zoL (I:Nat->Array Bool->Act->World->Prop) (hS:∀ f l a w,I f l a w->S1 w/\S2 w)
  (h:∀ f l a w,I f l a w->wpG P md ops Q S1 S2 k f l a w\/∃ f',f=f'+1/\Region.ready md ops l≠[]/\∀ i∈Region.ready md ops l,wpOp P ops Q i (fun a' w'=>I f' (l.setIfInBounds i true) a' w') a w) :
  ∀ f l a w,I f l a w->wpG P md ops Q S1 S2 k f l a w
 | 0,l,a,w,hi=>by
  rcases h 0 l a w hi with h1|⟨f',h1,_⟩
  ·exact h1
  ·omega
 | f+1,l,a,w,hi=>by
  rcases h (f+1) l a w hi with h1|⟨f',h1,h2,h3⟩
  ·exact h1
  ·obtain rfl:f=f':=by omega
   exact⟨fun h0=>absurd h0 h2,fun i hm=>wpOp_mono (fun a' w' h'=>⟨⟨(hS _ _ _ _ h').1,fun _=>(hS _ _ _ _ h').2⟩,zoL I hS h f _ a' w' h'⟩) (h3 i hm)⟩
theorem zm7 {a0:Act} {f0:Nat} {l0:Array Bool} {w0:World} (I:Act->Nat->Array Bool->Act->World->Prop) (hS:∀ A f l a w,I A f l a w->S1 w/\S2 w)
  (h:∀ A,A=a0->∀ f l a w,I A f l a w->wpG P md ops Q S1 S2 k f l a w\/∃ f',f=f'+1/\Region.ready md ops l≠[]/\∀ i∈Region.ready md ops l,wpOp P ops Q i (fun a' w'=>I A f' (l.setIfInBounds i true) a' w') a w)
  (h0:I a0 f0 l0 a0 w0):wpG P md ops Q S1 S2 k f0 l0 a0 w0:=zoL (I a0) (hS a0) (h a0 rfl) _ _ _ _ h0
end
theorem zlR {ops:Array Oper} {o:Oper} {a:Act} {W:World} {K:Act->World->Prop} {Q:Exit->Act->World->Prop} {F:Prop} (hgd:o.guard=none) (s x:Operand)
  (ho:o.op=.call { callee:=.builtin .append,args := #[s,x],argTypes := #[24,24] }) (base:Nat) (v:Value) (n:Nat) (xs:List Value) (hs:a.eval s=v) (hrow:W.ownsRow base 3 1 v n xs)
  (A:Option Addr) (l:List Int) (c:Nat) (hx:a.eval x=.slice A l.length c) (hr:RowI W Any A l) (hl:l.length<=LI) (hn:n=0) (hb:base<=W.heap.size)
  (h:∀ v' w',w'.ownsRow base 3 1 v' (n+l.length) (xs++zkf l)->W.grownBy w' v.ownBlock->(v'.ownBlock=v.ownBlock\/v'.ownBlock=some W.heap.size)->K (a.put o.dst v') w') :
  if Region.wanted o (yielded ops a.tmps)=true then Oper.wp Tryz.prog o a W K Q else F:=by
 obtain⟨i,hi,hz0,hz1,hz2⟩:=info_parts zmX;unfold LI at hl;rcases A with _|ad
 ·have hl0:l=[]:=by
   rcases l with _|⟨y,l⟩
   ·rfl
   ·obtain⟨_,h0,_⟩:=hr 0 (by simp);cases h0
  subst hl0;have hw:Region.wanted o (yielded ops a.tmps)=true:=by simp[Region.wanted,hgd]
  rw[if_pos hw];have hrun:(Builtin.append_ #[24,24] o.type #[v,.slice none 0 c]).run Tryz.prog W=.ok v W:=by
   rcases hrow.2 with⟨rfl,h0⟩|⟨g,cap,cur,rfl,_,_,hnc,_⟩
   ·simp[Builtin.append_,run_underlying Tryz.underlying24,sizeOf,typeInfo,hi,Builtin.lenOf,Builtin.firstCells]
   ·simp[Builtin.append_,run_underlying Tryz.underlying24,sizeOf,typeInfo,hi,Builtin.lenOf,Builtin.firstCells,hnc,storeCells]
  unfold Oper.wp execOp;simp only[ho,resolve,invoke,builtin,Sem.run_bind,Sem.run_pure,Result.andThen_ok,List.map_toArray,List.map_cons,List.map_nil,hs,hx,List.length_nil,hrun];exact h v W (by simpa[zkf] using hrow) (zmF _ _) (.inl rfl)
 ·refine zky hgd s x 24 ho base 3 i _ 1 8 Tryz.underlying24 hi hz0 hz1 hz2 rfl (by decide) v n xs hs hrow ad l.length c (zkf l) hx (by simp[zkf]) (fun j u hj=>?_) (fun u hu=>?_) (by unfold maxLen;omega) (by omega) hb h
  ·have hjl:j<l.length:=by have:=(List.getElem?_eq_some_iff.1 hj).1;simpa[zkf] using this
   obtain⟨a',h0,_,h2,_⟩:=hr j hjl;injection h0 with h0;subst h0;rw[h2];simp[zkf,hjl] at hj ⊢;exact hj
  ·simp only[zkf,List.mem_map] at hu;obtain⟨y,_,rfl⟩:=hu;rfl
def zlD (l0 l3 l4 l7 l9:Bool) (v5 v8 v9 v12:Value) (b3:Nat) (s:SS):Option SI->RowD
 | none=>if l9=true then ⟨boxV b3,26,3,1,[.slice none 0 0,.slice none 0 0,.slice none 0 0]⟩ else nilR
 | some .inp=>if l3=true then ⟨v8,3,1,s.tin.length,zkf s.tin⟩ else if l0=true then ⟨v5,3,1,0,[]⟩ else nilR
 | some .out=>if l7=true then ⟨v12,3,1,s.tout.length,zkf s.tout⟩ else if l4=true then ⟨v9,3,1,0,[]⟩ else nilR
 | some _=>nilR
def zkM (vc vi vo:Value) (fc:Nat->Value) (b3:Nat) (s:SS) (j:Nat):Option SI->RowD
 | none=>⟨boxV b3,26,3,1,[vc,vi,vo]⟩
 | some .all=>⟨vc,24,1,j,(List.range j).map fc⟩
 | some (.el i)=>if i<j then ⟨fc i,3,1,(s.cells.getD i []).length,zkf (s.cells.getD i [])⟩ else nilR
 | some .inp=>⟨vi,3,1,s.tin.length,zkf s.tin⟩
 | some .out=>⟨vo,3,1,s.tout.length,zkf s.tout⟩
theorem zrn (w:World) (n0:Nat) (v5 v8 v9 v12:Value) (b3:Nat) (s:SS):Rws w n0 (zlD false false false false false v5 v8 v9 v12 b3 s):=by
 have e:∀ i,zlD false false false false false v5 v8 v9 v12 b3 s i=nilR:=by
  intro i;rcases i with _|i
  ·rfl
  ·cases i<;>rfl
 refine⟨fun i=>by rw[e];exact zlJ w n0,fun i j b _ hi _=>?_⟩;rw[e] at hi;simp[nilR,Value.ownBlock] at hi
theorem znu (w:World) (n0:Nat) (h:n0<=w.heap.size):(w.alloc (.cells #[] 3)).ownsRow n0 3 1 (.slice (some ⟨w.heap.size,0,none⟩) 0 0) 0 [] :=
 ⟨rfl,.inr ⟨w.heap.size,0,#[],rfl,h,heap_alloc_new w _,Nat.le_refl _,by unfold maxLen;omega,rfl,rfl⟩⟩
theorem zpT (w:World) (n0:Nat) (h:n0<=w.heap.size) (a b c:Value) (E:TypeId):(w.alloc (.cells #[a,b,c] E)).ownsRow n0 E 3 (boxV w.heap.size) 1 [a,b,c] :=
 ⟨rfl,.inr ⟨w.heap.size,1,#[a,b,c],rfl,h,heap_alloc_new w _,Nat.le_refl _,by unfold maxLen;omega,rfl,rfl⟩⟩
theorem r1_0 (l4 l7 l9:Bool) (v5 v5' v8 v9 v12:Value) (b3:Nat) (s:SS):updR (zlD false false l4 l7 l9 v5' v8 v9 v12 b3 s) (some .inp) ⟨v5,3,1,0,[]⟩=zlD true false l4 l7 l9 v5 v8 v9 v12 b3 s:=by
 funext i;rcases i with _|i
 ·rfl
 ·cases i<;>rfl
theorem r1_3 (l4 l7 l9:Bool) (v5 v8 v8' v9 v12:Value) (b3:Nat) (s:SS):updR (zlD true false l4 l7 l9 v5 v8' v9 v12 b3 s) (some .inp) ⟨v8,3,1,s.tin.length,zkf s.tin⟩=zlD true true l4 l7 l9 v5 v8 v9 v12 b3 s:=by
 funext i;rcases i with _|i
 ·rfl
 ·cases i<;>rfl
theorem r1_4 (l0 l3 l9:Bool) (v5 v8 v9 v9' v12:Value) (b3:Nat) (s:SS):updR (zlD l0 l3 false false l9 v5 v8 v9' v12 b3 s) (some .out) ⟨v9,3,1,0,[]⟩=zlD l0 l3 true false l9 v5 v8 v9 v12 b3 s:=by
 funext i;rcases i with _|i
 ·rfl
 ·cases i<;>rfl
theorem r1_7 (l0 l3 l9:Bool) (v5 v8 v9 v12 v12':Value) (b3:Nat) (s:SS):updR (zlD l0 l3 true false l9 v5 v8 v9 v12' b3 s) (some .out) ⟨v12,3,1,s.tout.length,zkf s.tout⟩=zlD l0 l3 true true l9 v5 v8 v9 v12 b3 s:=by
 funext i;rcases i with _|i
 ·rfl
 ·cases i<;>rfl
theorem r1_9 (l0 l3 l4 l7:Bool) (v5 v8 v9 v12:Value) (b3 b3':Nat) (s:SS):updR (zlD l0 l3 l4 l7 false v5 v8 v9 v12 b3' s) none ⟨boxV b3,26,3,1,[.slice none 0 0,.slice none 0 0,.slice none 0 0]⟩=zlD l0 l3 l4 l7 true v5 v8 v9 v12 b3 s:=by
 funext i;rcases i with _|i
 ·rfl
 ·cases i<;>rfl
theorem zuK (vi vo v5 v9:Value) (fc:Nat->Value) (b3:Nat) (s:SS):updR (updR (zlD true true true true true v5 vi v9 vo b3 s) none ⟨boxV b3,26,3,1,[.slice none 0 0,vi,vo]⟩) (some .all) ⟨.slice none 0 0,24,1,0,[]⟩=zkM (.slice none 0 0) vi vo fc b3 s 0:=by
 funext i;rcases i with _|i
 ·rfl
 ·cases i<;>rfl
theorem znZ (vc dF vi vo:Value) (fc:Nat->Value) (b3:Nat) (s:SS) (j:Nat) (l:List Int) (v8 r5:Value) (hl:s.cells.getD j []=l) :
  updR (updR (updR (updR (zkM vc vi vo fc b3 s j) (some (.el j)) ⟨r5,3,1,0,[]⟩) (some (.el j)) ⟨v8,3,1,l.length,zkf l⟩) (some .all) ⟨dF,24,1,j+1,(List.range j).map fc++[v8]⟩) none ⟨boxV b3,26,3,1,[dF,vi,vo]⟩=zkM dF vi vo (fun i=>if i=j then v8 else fc i) b3 s (j+1):=by
 funext i;rcases i with _|i
 ·rfl
 ·cases i with
  | all =>
   simp only[updR,zkM,reduceCtorEq,if_false,if_true,RowD.mk.injEq,true_and];rw[List.range_succ,List.map_append];congr 1
   ·refine List.map_congr_left fun i hi=>?_;have:i≠j:=by have:=List.mem_range.1 hi;omega
    simp[this]
   ·simp
  | inp=>rfl
  | out=>rfl
  | el i =>
   by_cases e:i=j
   ·subst e;simp[updR,zkM,<-hl]
   ·have e2:(i<j+1)↔(i<j):=by omega
    simp[updR,zkM,e,e2]
theorem znq {W:World} {n0:Nat} {vc vi vo:Value} {fc:Nat->Value} {b3:Nat} {s:SS} (h:Rws W n0 (zkM vc vi vo fc b3 s s.cells.length)):Rws W n0 (zlN vc vi vo fc s):=by
 have e:∀ i,zlN vc vi vo fc s i=zkM vc vi vo fc b3 s s.cells.length (some i):=fun i=>by cases i<;>rfl
 refine⟨fun i=>by rw[e];exact h.row (some i),fun i j b hij hi hj=>?_⟩;rw[e] at hi hj;exact h.sep (some i) (some j) b (fun e'=>hij (by injection e')) hi hj
theorem zpl {w:World} {n0 b:Nat} {x y z:Value} {E:TypeId} (hn:n0<=b) (h:w.heap[b]?=some (.cells #[x,y,z] E (0,0))):w.ownsRow n0 E 3 (boxV b) 1 [x,y,z] :=
 ⟨rfl,.inr ⟨b,1,#[x,y,z],rfl,hn,h,Nat.le_refl _,by unfold maxLen;omega,rfl,rfl⟩⟩
theorem zl5 (w:World) (n0:Nat) (E:TypeId):w.ownsRow n0 E 1 (.slice none 0 0) 0 []:=⟨rfl,.inl ⟨rfl,rfl⟩⟩
end Go.Proofs.YtckhofdinldhpaaGreat
