/-
  Texts of the proof, put together without their remarks: ScR, ScV, Fa, ScK, Srn, Wgo, Ssp, Srp.
-/
import Derived.Test.YtembgnhbpmfhpaaGreatK8
set_option linter.unusedSimpArgs false
set_option linter.unusedVariables false
set_option maxHeartbeats 8000000
set_option maxRecDepth 100000
namespace Go.Proofs.YtembgnhbpmfhpaaGreat
section
open Go Go.RowKit
structure FS(W:World)(n0 fb N:Nat)(pv:Value):Prop where
 box:W.heap[fb]?=some (.cells #[pv] 65 (0,0))
 row:∃xs,W.ownsRow n0 116 4 pv N xs
 ge:n0<=fb
 ne:pv.ownBlock≠some fb
section
variable {W W':World} {n0 fb N N':Nat} {pv pv':Value}
theorem FS.lt(h:FS W n0 fb N pv):fb<W.heap.size/\∀b,pv.ownBlock=some b->n0<=b/\b<W.heap.size:=⟨zkn h.box,let ⟨_,hr⟩:=h.row;hr.lt⟩
theorem FS.chg{C:Nat->Prop}(h:FS W n0 fb N pv)(hc:Chg C W W')(hC:∀b,b=fb\/pv.ownBlock=some b->¬ C b):FS W' n0 fb N pv:=by
 refine⟨hc.keep h.box (hC _ (.inl rfl)),?_,h.ge,h.ne⟩;obtain⟨xs,e1,h2⟩:=h.row;refine⟨xs,e1,?_⟩;rcases h2 with h2|⟨g,cap,cur,rfl,hb,hg,h3⟩
 ·exact .inl h2
 ·exact .inr ⟨g,cap,cur,rfl,hb,hc.keep hg (hC _ (.inr rfl)),h3⟩
theorem FS.later(h:FS W n0 fb N pv)(hb:Below W.heap.size W W'):FS W' n0 fb N pv:=h.chg (C:=fun _=>False) (Chg.of_below hb) (fun _ _ h=>h)
theorem FS.put(h:FS W n0 fb N pv)(ho:∃xs,W'.ownsRow n0 116 4 pv' N' xs)(hg:W.grownBy W' pv.ownBlock)(aj:∀b,pv'.ownBlock=some b->pv.ownBlock=some b\/W.heap.size<=b) :
  FS (W'.setCell ⟨fb,0,none⟩ pv') n0 fb N' pv':=by
 have hp':W'.heap[fb]?=some (.cells #[pv] 65 (0,0)):=(hg.block _ (zkn h.box) (fun e=>h.ne e.symm)).trans h.box;have rY:pv'.ownBlock≠some fb:=fun e=>by
  rcases aj _ e with e|e
  ·exact h.ne e
  ·have:=zkn h.box;omega
 refine⟨by have:=heap_setCell_same W' fb 0 _ _ pv' hp';simpa using this,?_,h.ge,rY⟩;obtain⟨xs,e1,h2⟩:=ho;refine⟨xs,e1,?_⟩;rcases h2 with h2|⟨g,cap,cur,rfl,hb,hg',h3⟩
 ·exact .inl h2
 ·refine .inr ⟨g,cap,cur,rfl,hb,?_,h3⟩;rw[Below.heap_setCell _ _ _ _ (fun e=>rY (by subst e;rfl))];exact hg'
theorem FS.slice(h:FS W n0 fb N pv):∃A c,pv=.slice A N c:=by
 obtain⟨xs,e1,h2⟩:=h.row;rcases h2 with⟨rfl,rfl⟩|⟨g,cap,cur,rfl,_⟩
 ·exact⟨_,_,rfl⟩
 ·exact⟨_,_,rfl⟩
end
def RepP(W:World)(n0 fb:Nat)(pv:Value)(N':Nat)(e:Ending)(W':World):Prop :=
 (∃v,e=.returned v)/\∃pv',FS W' n0 fb N' pv'/\(∀b,pv'.ownBlock=some b->pv.ownBlock=some b\/W.heap.size<=b)/\Chg (fun b=>b=fb\/pv.ownBlock=some b) W W'
def one1(e:Int):Nat:=if e=0 then 0 else 1
theorem zyK:(Tryz.prog.info? 116).map (fun i=>(i.zero,i.size,i.bytes))=some (some (.agg #[.int .i64 0,.slice none 0 0,.int .i64 0,.string ⟨#[]⟩]),4,56):=by kernel_rfl
theorem zzU(p:Int)(A:Option Addr)(l c:Nat)(e:Int)(s:ByteArray)(w:World):(Instr.build 116 #[(0,.int .i64 p),(1,.slice A l c),(2,.int .i64 e),(3,.string s)]).run Tryz.prog w=.ok (.agg #[.int .i64 p,.slice A l c,.int .i64 e,.string s]) w:=by kernel_rfl
theorem zy0(a0 a1 a2 a3:Value)(w:World):(Instr.buildSlice 65 1 #[(0,.agg #[a0,a1,a2,a3])]).run Tryz.prog w=.ok (.slice (some ⟨w.heap.size,0,none⟩) 1 1) (w.alloc (.cells #[a0,a1,a2,a3] 116)):=by kernel_rfl
theorem zmC(n0 fb N:Nat)(pv:Value)(pr er:Int)(q:List Int)(A:Option Addr)(c:Nat)(s:ByteArray)(S:Nat->Prop)(W:World)(hfs:FS W n0 fb N pv)(hq:RowI W S A q)(kC:q.length<=100000)(hN:N<=1000000) :
  Calls Tryz.prog 69 #[.int .i64 pr,.slice A q.length c,.string s,.int .i64 er,.pointer (some ⟨fb,0,none⟩)] W (RepP W n0 fb pv (N+one1 er)):=by
 obtain⟨i0,hi0,hz0,hz1,hz2⟩:=info_parts zyK;obtain⟨Ap,cp,rfl⟩:=hfs.slice;have xA:=zh hfs;have HQ:=zh hq;have hc0:W.cell? ⟨fb,0,none⟩=some (.slice Ap N cp):=zc hfs.box rfl;have hbf:=zzU;have hbs:=zy0;have hge:=hfs.ge;have hlf:=hfs.lt.1;clear hfs hq;by_cases he:er=0
 ·subst he;clear hc0;go_enter Tryz.func69,Tryz.ntmps69;go_wp2_with fail;go_end0;exact⟨⟨_,rfl⟩,_,xA.out,fun b hb=>.inl hb,Chg.refl _ _⟩
 ·have e1:(er==0)=false:=by simpa using he
  have e2:(er != 0)=true:=by simpa using he
  have HONE:=zh (show one1 er=1 by simp[one1,he]);rw[HONE.out];clear he;go_enter Tryz.func69,Tryz.ntmps69;go_upto_region 1 with fail;have hSS:zU W.drew/\(fun w':World=>zv w' fb 0 (.slice Ap N cp)) W.drew:=⟨trivial,hc0⟩
  refine wp_region_noPanic ?_;refine zkk zU (fun w':World=>zv w' fb 0 (.slice Ap N cp)) 8 (by kernel_rfl) ?_;refine zJ 0 hSS ?_;refine zT 1 hSS ?_;refine zT 2 hSS ?_;refine zT 4 hSS ?_;refine zT 5 hSS ?_;refine zo 3 fun K hK=>?_;refine zsD (by rfl) (.func 70) (.tmp 13) _ (by rfl) 70 _ zm5 (by rfl) _ (by rfl) _ (znR (ztf q A c S _ (HQ.out.later zr.drew) (by unfold LI;omega))) ?_;rintro v2 w2 ⟨A2,c2,rfl,_,_,au⟩;have b2:=zka (zs W).drew au;have iA:=xA.out.later b2;have g2:w2.cell? ⟨fb,0,none⟩=some (.slice Ap N cp):=zc iA.box rfl;have aM:zU w2/\(fun w':World=>zv w' fb 0 (.slice Ap N cp)) w2:=⟨trivial,g2⟩
  refine hK.out _ _ aM ?_;clear hK K hSS;(try simp only[zQ]);refine zT 6 aM ?_;refine zo 7 fun K hK=>?_;(try simp only[zA,zB,zC]);go_simp;refine hK.out _ _ ⟨trivial,zks g2 _⟩ ?_;clear hK K aM;(try simp only[zQ]);obtain⟨xs,hrow⟩:=iA.row;have hl2:=iA.lt;refine zp 8 fun K hK=>?_;refine zkP (by rfl) (.tmp 11) (.tmp 18) 65 (by rfl) n0 116 i0 _ 4 56 Tryz.underlying65 hi0 hz0 hz1 hz2 rfl (by decide) (.slice Ap N cp) N xs (by rfl) (hrow.alloc _) ⟨w2.heap.size,0,none⟩ 1 1 [.int .i64 pr,.slice A2 q.length c2,.int .i64 er,.string s] (by rfl) rfl (zlB w2 _ _) (by intro u hu;simp at hu;rcases hu with rfl|rfl|rfl|rfl<;>rfl) (by unfold maxLen;omega) (by omega) (by simp;omega) ?_;intro v' w' h2 h3 h5
  have hput:=iA.put (W':=w') (pv':=v') (N':=N+1) ⟨_,h2⟩ ⟨h3.os,h3.tape,h3.output,Nat.le_trans (by simp) h3.size,fun b hb hne=>(h3.block b (by simp;omega) hne).trans (Below.heap_alloc w2 _ b hb)⟩ (fun b hb=>by rcases h5 with h5|h5;exact .inl (h5▸hb);exact .inr (by rw[h5]at hb;injection hb with hb;simp at hb;omega));have hob':∀b,v'.ownBlock=some b->(Value.slice Ap N cp).ownBlock=some b\/W.heap.size<=b:=fun b hb=>by
   have:=b2.size;rcases h5 with h5|h5
   ·exact .inl (h5▸hb)
   ·exact .inr (by rw[h5]at hb;injection hb with hb;simp at hb;omega)
  have hch:Chg (fun b=>b=fb\/(Value.slice Ap N cp).ownBlock=some b) W (w'.setCell ⟨fb,0,none⟩ v'):=(((Chg.of_below b2).alloc _).trans2 (Chg.row h3) (fun b _ h=>.inr h)).setCell (.inl (.inl rfl)) _;have hbx:=(h3.block _ (by have:=zkn iA.box;simp;omega) (fun e=>iA.ne e.symm)).trans (zkf iA.box _);have hy0:w'.cell? ⟨fb,0,none⟩=some (.slice Ap N cp):=zc hbx rfl;have hy1:w'.frozen? ⟨fb,0,none⟩=false:=zf hbx;obtain⟨g8,aI,rfl⟩:=ownsRow_succ h2;have HP:=zh hput;have HO:=zh hob';have dC:=zh hch;clear hput hob' hch hbx h2 h3 h5 hrow iA;refine hK.out _ _ trivial ?_;clear hK K;(try simp only[zQ]);refine zp 9 fun K hK=>?_;(try simp only[zA,zB,zC]);go_simp;refine hK.out _ _ trivial ?_;clear hK K;(try simp only[zQ]);refine zd ?_;refine NoPanic.normal ?_;go_wp2_with fail;go_end0;exact⟨⟨_,rfl⟩,_,HP.out,HO.out,dC.out⟩
structure RepC(f:FuncId)(cap:Array Value)(Rd:World->Prop)(n0 fb:Nat):Prop where
 fn:∃fn,IsFn Tryz.prog f fn
 keep:∀W W' pv N,Rd W->FS W n0 fb N pv->Chg (fun b=>b=fb\/pv.ownBlock=some b) W W'->Rd W'
 call:∀(N:Nat) (pv:Value) (er:Int) (q:List Int) (A:Option Addr) (c:Nat) (s:ByteArray) (S:Nat->Prop) (W:World),Rd W->FS W n0 fb N pv->RowI W S A q->q.length<=100000->N<=1000000 ->
  Calls Tryz.prog f (#[.slice A q.length c,.string s,.int .i64 er]++cap) W (RepP W n0 fb pv (N+one1 er))
theorem FS.other{W:World}{n0 fb N:Nat}{pv:Value}{b:Nat}{cs:Array Value}{E:TypeId}(h:FS W n0 fb N pv)(hb:W.heap[b]?=some (.cells cs E (0,0)))(h1:E≠65)(h2:E≠116):¬ (b=fb\/pv.ownBlock=some b):=by
 rintro(rfl|ho)
 ·have:=h.box;rw[hb]at this;injection this with this;injection this with _ e;exact h1 e
 ·obtain⟨xs,e1,h2'⟩:=h.row;rcases h2' with⟨rfl,_⟩|⟨g,cap,cur,rfl,_,hg,_⟩
  ·simp[Value.ownBlock]at ho
  ·simp[Value.ownBlock]at ho;subst ho;rw[hb]at hg;injection hg with hg;injection hg with _ e;exact h2 e
theorem zzP:IsFn Tryz.prog 74 Tryz.f74:=⟨Tryz.func74,by kernel_rfl,by kernel_rfl⟩
theorem zzO:IsFn Tryz.prog 75 Tryz.f75:=⟨Tryz.func75,by kernel_rfl,by kernel_rfl⟩
theorem zsw(n0 fb rb ib:Nat)(k:Int):RepC 74 #[.pointer (some ⟨rb,0,none⟩),.pointer (some ⟨ib,0,none⟩)]
  (fun W=>W.heap[rb]?=some (.cells #[.func (.func 69) #[] #[.pointer (some ⟨fb,0,none⟩)]] 117 (0,0))/\W.heap[ib]?=some (.cells #[.int .i64 k] 3 (0,0))) n0 fb where
 fn:=⟨_,zzP⟩
 keep W W' pv N h hfs hc:=⟨hc.keep h.1 (hfs.other h.1 (by decide) (by decide)),hc.keep h.2 (hfs.other h.2 (by decide) (by decide))⟩
 call N pv er q A c s S W h hfs hq kC hN:=by
  have x0:W.cell? ⟨rb,0,none⟩=some (.func (.func 69) #[] #[.pointer (some ⟨fb,0,none⟩)]):=zc h.1 rfl;have x1:W.cell? ⟨ib,0,none⟩=some (.int .i64 k):=zc h.2 rfl;have HC:=zh (zmC n0 fb N pv k er q A c s S W hfs hq kC hN);clear h hfs hq
  show Calls Tryz.prog 74 #[.slice A q.length c,.string s,.int .i64 er,.pointer (some ⟨rb,0,none⟩),.pointer (some ⟨ib,0,none⟩)] W _
  go_enter Tryz.func74,Tryz.ntmps74;go_wp2_with fail;refine HC.out.mono ?_;rintro e W' ⟨⟨v,rfl⟩,hp⟩;have HP:=zh hp;clear hp;go_wp2_with fail;go_end0;exact⟨⟨_,rfl⟩,HP.out⟩
theorem zxq(n0 fb rb pb:Nat)(A1:Option Addr)(l1 c1:Nat)(A2:Option Addr)(l2 c2:Nat)(k n:Int)(sn:ByteArray)(A3:Option Addr)(l3 c3:Nat):RepC 75 #[.pointer (some ⟨rb,0,none⟩),.pointer (some ⟨pb,0,none⟩)]
  (fun W=>W.heap[rb]?=some (.cells #[.func (.func 69) #[] #[.pointer (some ⟨fb,0,none⟩)]] 117 (0,0))/\W.heap[pb]?=some (.cells #[.slice A1 l1 c1,.slice A2 l2 c2,.int .u8 k,.int .i64 n,.string sn,.slice A3 l3 c3] 43 (0,0))) n0 fb where
 fn:=⟨_,zzO⟩
 keep W W' pv N h hfs hc:=⟨hc.keep h.1 (hfs.other h.1 (by decide) (by decide)),hc.keep h.2 (hfs.other h.2 (by decide) (by decide))⟩
 call N pv er q A c s S W h hfs hq kC hN:=by
  have x0:W.cell? ⟨rb,0,none⟩=some (.func (.func 69) #[] #[.pointer (some ⟨fb,0,none⟩)]):=zc h.1 rfl;have x1:W.cell? ⟨pb,1,none⟩=some (.slice A2 l2 c2):=zc h.2 rfl;have HC:=zh (zmC n0 fb N pv l2 er q A c s S W hfs hq kC hN);clear h hfs hq
  show Calls Tryz.prog 75 #[.slice A q.length c,.string s,.int .i64 er,.pointer (some ⟨rb,0,none⟩),.pointer (some ⟨pb,0,none⟩)] W _
  go_enter Tryz.func75,Tryz.ntmps75;go_wp2_with fail;refine HC.out.mono ?_;rintro e W' ⟨⟨v,rfl⟩,hp⟩;have HP:=zh hp;clear hp;go_wp2_with fail;go_end0;exact⟨⟨_,rfl⟩,HP.out⟩
def cntA(ps:List PR)(s:ByteArray)(l:Nat):Nat->List T->List VD->Nat
 | _,[],_=>0
 | i,t::ts,vs=>one1 (argE ps s l i t.s vs)+cntA ps s l (i+1) ts vs
mutual
/-- How many faults scope.visit reports. -/
def cntV(ps:List PR):T->List VD->Nat
 | .nd k _ s ks,vs=>one1 (zlq ps k s ks.length vs)+(if k=50\/k=51 then cntA ps s ks.length 0 ks vs else cntK ps k s 0 ks vs)
def cntK(ps:List PR)(k:Int)(s:ByteArray):Nat->List T->List VD->Nat
 | _,[],_=>0
 | i,t::ts,vs=>cntV ps t (zmt k s i vs)+cntK ps k s (i+1) ts vs
end
theorem zox(ps:List PR)(s:ByteArray)(l:Nat)(vs:List VD):∀(a b:List T) (i:Nat),cntA ps s l i (a++b) vs=cntA ps s l i a vs+cntA ps s l (i+a.length) b vs
 | [],b,i=>by simp[cntA]
 | t::ts,b,i=>by simp[cntA,zox ps s l vs ts b (i+1),Nat.add_assoc,Nat.add_comm 1 ts.length]
theorem zow(ps:List PR)(k:Int)(s:ByteArray)(vs:List VD):∀(a b:List T) (i:Nat),cntK ps k s i (a++b) vs=cntK ps k s i a vs+cntK ps k s (i+a.length) b vs
 | [],b,i=>by simp[cntK]
 | t::ts,b,i=>by simp[cntK,zow ps k s vs ts b (i+1),Nat.add_assoc,Nat.add_comm 1 ts.length]
theorem zqG(ps:List PR)(s:ByteArray)(l:Nat)(vs:List VD){ks:List T}{j:Nat}(h:j<ks.length):cntA ps s l 0 (ks.take (j+1)) vs=cntA ps s l 0 (ks.take j) vs+one1 (argE ps s l j ks[j].s vs):=by
 rw[List.take_succ_eq_append_getElem h,zox];have:(ks.take j).length=j:=by simp;omega
 simp[cntA,this]
theorem zuJ(ps:List PR)(k:Int)(s:ByteArray)(vs:List VD){ks:List T}{j:Nat}(h:j<ks.length):cntK ps k s 0 (ks.take (j+1)) vs=cntK ps k s 0 (ks.take j) vs+cntV ps ks[j] (zmt k s j vs):=by
 rw[List.take_succ_eq_append_getElem h,zow];have:(ks.take j).length=j:=by simp;omega
 simp[cntK,this]
theorem zmP(e:Int):one1 e<=1:=by unfold one1;split<;>omega
theorem zrR(t:T):1<=size t:=by cases t;rw[size];omega
theorem zpQ(ps:List PR)(s:ByteArray)(l:Nat)(vs:List VD):∀(ks:List T) (i:Nat),cntA ps s l i ks vs<=zkV ks
 | [],i=>by simp[cntA]
 | t::ts,i=>by
  have h1:=zpQ ps s l vs ts (i+1);have h2:=zmP (argE ps s l i t.s vs);have h3:=zrR t;simp only[cntA,zkV];omega
theorem zrn(ps:List PR)(k:Int)(s:ByteArray):∀(ks:List T),(∀t∈ks,∀vs,cntV ps t vs<=size t)->∀(i:Nat) (vs:List VD),cntK ps k s i ks vs<=zkV ks
 | [],_,i,vs=>by simp[cntK]
 | t::ts,h,i,vs=>by
  have h1:=zrn ps k s ts (fun u hu=>h u (by simp[hu])) (i+1) vs;have h2:=h t (by simp) (zmt k s i vs);simp only[cntK,zkV];omega
theorem zuG(ps:List PR)(t:T):∀vs,cntV ps t vs<=size t:=by
 induction t using T.ind with
 | _ k n s ks ih =>
 intro vs;rw[cntV,size];have h1:=zmP (zlq ps k s ks.length vs);have h2:=zpQ ps s ks.length vs ks 0;have h3:=zrn ps k s ks ih 0 vs
 split<;>omega
theorem zlG:∀(ks:List T) (j:Nat),zkV (ks.take j)<=zkV ks
 | [],j=>by simp[zkV]
 | t::ts,0=>by simp[zkV]
 | t::ts,j+1=>by have:=zlG ts j;simp only[List.take_succ_cons,zkV];omega
theorem zsS(k:Int)(s:ByteArray)(i:Nat)(vs:List VD):(zmt k s i vs).length<=vs.length+1:=by unfold zmt;split;simp;split<;>simp
theorem PV.keep{w w':World}{S S':Nat->Prop}{p:PG}{v:Value}(h:PV w S p v)(hS:∀b,S b->b<w.heap.size->S' b)(hk:∀b,S b->b<w.heap.size->w'.heap[b]?=w.heap[b]?):PV w' S' p v :=
 let ⟨A1,c1,A2,c2,A3,c3,e,h⟩:=h;⟨A1,c1,A2,c2,A3,c3,e,h.keep hS hk⟩
structure VsI(Rd:World->Prop)(n0 fb:Nat)(Wb:World)(pv:Value)(N:Nat)(wr:World)(pv':Value):Prop where
 rd:Rd wr
 fs:FS wr n0 fb N pv'
 own:∀b,pv'.ownBlock=some b->pv.ownBlock=some b\/Wb.heap.size<=b
 chg:Chg (fun b=>b=fb\/pv.ownBlock=some b) Wb wr
theorem VsI.step{f:FuncId}{cap:Array Value}{Rd:World->Prop}{n0 fb:Nat}{Wb wr w5 W6:World}{pv pv':Value}{N N':Nat}{e:Ending}(hr:RepC f cap Rd n0 fb)(h:VsI Rd n0 fb Wb pv N wr pv')(hb:Below wr.heap.size wr w5)(hp:RepP w5 n0 fb pv' N' e W6) :
  ∃jg,VsI Rd n0 fb Wb pv N' W6 jg:=by
 obtain⟨_,jg,hfs,aj,hc⟩:=hp;have sJ:=h.fs.later hb;have hz:=h.chg.size;have oz:=hb.size;refine⟨jg,hr.keep w5 W6 pv' N (hr.keep wr w5 pv' N h.rd h.fs (Chg.of_below hb)) sJ hc,hfs,fun b hb'=>?_,(h.chg.trans (Chg.of_below hb)).trans2 hc fun b hlt hh=>?_⟩
 ·rcases aj b hb' with h1|h1
  ·exact h.own b h1
  ·exact .inr (by omega)
 ·rcases hh with hh|hh
  ·exact .inl hh
  ·rcases h.own b hh with h1|h1
   ·exact .inr h1
   ·omega
theorem VsI.rep{Rd:World->Prop}{n0 fb:Nat}{W Wb w:World}{pw pv':Value}{N':Nat}{e:Ending}(h:VsI Rd n0 fb Wb pw N' w pv')(hb:Below W.heap.size W Wb)(he:∃v,e=.returned v):RepP W n0 fb pw N' e w :=
 ⟨he,pv',h.fs,fun b hh=>(h.own b hh).imp id fun h1=>by have:=hb.size;omega,(Chg.of_below hb).trans h.chg⟩
def IsW(x:Value)(w:World)(v:Value)(w':World):Prop:=v=x/\Below w.heap.size w w'
theorem znG{P:Program}{f:FuncId}{args:Array Value}{w:World}{x:Value}(h:Calls P f args w fun e w'=>e=.returned x/\Below w.heap.size w w'):Calls P f args w fun e w'=>∃v,e=.returned v/\IsW x w v w' :=
 h.mono fun _ _ ⟨he,hb⟩=>⟨_,he,rfl,hb⟩
def RepV(W:World)(n0 fb:Nat)(pv:Value)(N':Nat)(_:Value)(W':World):Prop:=RepP W n0 fb pv N' (.returned undef) W'
theorem zmp{P:Program}{f:FuncId}{args:Array Value}{W:World}{n0 fb N':Nat}{pv:Value}(h:Calls P f args W (RepP W n0 fb pv N')):Calls P f args W fun e w'=>∃v,e=.returned v/\RepV W n0 fb pv N' v w' :=
 h.mono fun _ _ ⟨⟨v,he⟩,hp⟩=>⟨v,he,⟨_,rfl⟩,hp⟩
def zz8(w:World)(S:Nat->Prop)(vs:List VD)(v:Value)(w':World):Prop:=∃A' c',v=.slice A' vs.length c'/\RowV w' (fun b=>S b\/w.heap.size<=b) A' vs/\vs.length<=c'/\Below w.heap.size w w'
theorem ztF{P:Program}{f:FuncId}{args:Array Value}{w:World}{S:Nat->Prop}{vs:List VD}(h:Calls P f args w (zxb w S vs)):Calls P f args w fun e w'=>∃v,e=.returned v/\zz8 w S vs v w' :=
 h.mono fun _ _ ⟨A,c,he,hn⟩=>⟨_,he,A,c,rfl,hn⟩
theorem zyD:IsFn Tryz.prog 113 Tryz.f113:=⟨Tryz.func113,by kernel_rfl,by kernel_rfl⟩
theorem zo6:IsFn Tryz.prog 115 Tryz.f115:=⟨Tryz.func115,by kernel_rfl,by kernel_rfl⟩
theorem zrj:IsFn Tryz.prog 114 Tryz.f114:=⟨Tryz.func114,by kernel_rfl,by kernel_rfl⟩
theorem zyB:IsFn Tryz.prog 84 Tryz.f84:=⟨Tryz.func84,by kernel_rfl,by kernel_rfl⟩
theorem zyx:IsFn Tryz.prog 73 Tryz.f73:=⟨Tryz.func73,by kernel_rfl,by kernel_rfl⟩
theorem zno(f:FuncId)(cap:Array Value)(Rd:World->Prop)(n0 fb:Nat)(hrep:RepC f cap Rd n0 fb)(p:PG)(t:T) :
  ∀(S:Nat->Prop) (vs:List VD) (A:Option Addr) (c:Nat) (q:List Int) (Aq:Option Addr) (cq N:Nat) (pw:Value) (W:World) (v1 v2:Value),Rd W->FS W n0 fb N pw->PV W S p v1->NV W S t v2->RowV W S A vs->vs.length<=c->RowI W S Aq q->q.length<=cq ->
   (∀b,S b->b<W.heap.size->¬ (b=fb\/pw.ownBlock=some b))->q.length+dep t<=50000->vs.length+dep t<=50000->N+size t<=1000000 ->
   Calls Tryz.prog 73 #[v1,v2,.slice Aq q.length cq,.slice A vs.length c,.func (.func f) #[] cap] W (RepP W n0 fb pw (N+cntV p.prs t vs)):=by
 obtain⟨fn,hfn⟩:=hrep.fn;have aY:=zh hrep;clear hrep
 induction t using T.ind with
 | _ tk tn ts ks ih =>
 intro S vs A c q Aq cq N pw W v1 v2 hrd hfs hv1 hv2 hrow hlc hqr hqc hfar qB hdv hN;have xw:=zh ih;have hvv:=hv1;obtain⟨A1,c1,A2,c2,A3,c3,rfl,-⟩:=hv1;obtain⟨L1,hL1⟩:=zX (p.vs.length);obtain⟨L2,hL2⟩:=zX (p.prs.length);obtain⟨k,hk⟩:=zX (p.m.k);obtain⟨n,hn⟩:=zX (p.m.n);obtain⟨s,hs⟩:=zX (p.m.s);obtain⟨l3,hl3⟩:=zX (p.m.ks.length);rw[hL1,hL2,hk,hn,hs,hl3];rw[hL1,hL2,hk,hn,hs,hl3]at hvv;have wU:=zh hvv;clear ih hvv hL1 hL2 hk hn hs hl3;have iL:=zh hv2;obtain⟨B,tc,rfl,_,hlk,_,iq⟩:=hv2.open_;simp only[T.k_nd,T.n_nd,T.s_nd,T.ks_nd]at *
 have aB:=zkI hlk;rw[dep]at qB hdv;rw[size]at hN;have hksz:ks.length<=1000000:=by
  have:∀l:List T,l.length<=zkV l:=fun l=>by
   induction l with
   | nil=>simp
   | cons t ts ih=>have:=zrR t;simp only[List.length_cons,zkV];omega
  have:=this ks;omega
 have pR:=zh iq;have ae:=zh hrow;have nz:=zh hlc;have HQR:=zh hqr;have Bj:=zh hqc;have nW:=zh hrd;have xA:=zh hfs;have HFAR:=zh hfar;have hlv:vs.length<=LV:=by unfold LV;omega
 have p8:=zh hlv;have hfl:=hfs.lt;have yJ:=zh hfl;obtain⟨CC,Aj⟩:=zX (cntV p.prs (.nd tk tn ts ks) vs);rw[Aj];have aZ:=zh Aj;obtain⟨E0,hE0⟩:=zX (zlq p.prs tk ts ks.length vs);have uI:=zh hE0;have hE1:=zmP E0;clear iq hrow hlc hqr hqc hrd hfs hfar hlk hlv hv2 hfl Aj hE0;go_enter Tryz.func73,Tryz.ntmps73;go_upto_region 1 with fail;have hbw:Below W.heap.size W ((W.alloc (.cells #[.slice A1 L1 c1,.slice A2 L2 c2,.int .u8 k,.int .i64 n,.string s,.slice A3 l3 c3] 43)).alloc (.cells #[.int .u8 tk,.int .i64 tn,.string ts,.slice B ks.length tc] 41)):=zkb (zkb zr _) _;have qC:=zkf (heap_alloc_new W (.cells #[.slice A1 L1 c1,.slice A2 L2 c2,.int .u8 k,.int .i64 n,.string s,.slice A3 l3 c3] 43)) (.cells #[.int .u8 tk,.int .i64 tn,.string ts,.slice B ks.length tc] 41)
 have hbN:=heap_alloc_new (W.alloc (.cells #[.slice A1 L1 c1,.slice A2 L2 c2,.int .u8 k,.int .i64 n,.string s,.slice A3 l3 c3] 43)) (.cells #[.int .u8 tk,.int .i64 tn,.string ts,.slice B ks.length tc] 41);simp only[World.size_alloc]at hbN;obtain⟨Wb,sZ⟩:=zX ((W.alloc (.cells #[.slice A1 L1 c1,.slice A2 L2 c2,.int .u8 k,.int .i64 n,.string s,.slice A3 l3 c3] 43)).alloc (.cells #[.int .u8 tk,.int .i64 tn,.string ts,.slice B ks.length tc] 41));rw[sZ]at hbw qC hbN ⊢;have iG:=zh (show Wb.heap.size=W.heap.size+2 by rw[<-sZ];simp);have ig:=zh hbw;have HBP:=zh qC;have j3:=zh hbN
 have iX:=zh (show ∀w':World,w'.heap[W.heap.size]?=Wb.heap[W.heap.size]?->w'.heap[W.heap.size+1]?=Wb.heap[W.heap.size+1]?->(fun w':World=>(zN6 w' W.heap.size (.slice A1 L1 c1) (.slice A2 L2 c2) (.int .u8 k) (.int .i64 n) (.string s) (.slice A3 l3 c3))/\zN4 w' (W.heap.size+1) (.int .u8 tk) (.int .i64 tn) (.string ts) (.slice B ks.length tc)) w' from fun w' h1 h2=>⟨box6 (h1.trans qC),box4 (h2.trans hbN)⟩)
 have jZ:=zh (show ∀w':World,Chg (fun b=>b=fb\/pw.ownBlock=some b) Wb w'->(fun w':World=>(zN6 w' W.heap.size (.slice A1 L1 c1) (.slice A2 L2 c2) (.int .u8 k) (.int .i64 n) (.string s) (.slice A3 l3 c3))/\zN4 w' (W.heap.size+1) (.int .u8 tk) (.int .i64 tn) (.string ts) (.slice B ks.length tc)) w' from fun w' h=>iX.out w' (h.block _ (by have:=iG.out;omega) (fun hh=>by rcases hh with hh|hh;(have:=yJ.out.1;omega);(have:=(yJ.out.2 _ hh).2;omega))) (h.block _ (by have:=iG.out;omega) (fun hh=>by rcases hh with hh|hh;(have:=yJ.out.1;omega);(have:=(yJ.out.2 _ hh).2;omega))));have oh:=zh (show ∀w':World,Chg (fun b=>b=fb\/pw.ownBlock=some b) Wb w'->∀b,S b->b<W.heap.size->w'.heap[b]?=W.heap[b]? from fun w' h b hb hlt=>(h.block b (by have:=iG.out;omega) (HFAR.out b hb hlt)).trans (ig.out.block b hlt))
 have hi0:VsI Rd n0 fb Wb pw N Wb pw:=⟨aY.out.keep W Wb pw N nW.out xA.out (Chg.of_below hbw),xA.out.later hbw,fun b hb=>.inl hb,Chg.refl _ _⟩
 have HI0:=zh hi0;clear sZ hbw qC hbN hi0;have hdr:=(zs Wb).drew;have hSS:zW (fun w':World=>(zN6 w' W.heap.size (.slice A1 L1 c1) (.slice A2 L2 c2) (.int .u8 k) (.int .i64 n) (.string s) (.slice A3 l3 c3))/\zN4 w' (W.heap.size+1) (.int .u8 tk) (.int .i64 tn) (.string ts) (.slice B ks.length tc)) zU Wb.drew:=⟨jZ.out _ (Chg.of_below hdr),trivial⟩
 refine wp_region_noPanic ?_;refine zG hSS 20 ?_;refine zT 0 hSS ?_;refine zT 1 hSS ?_;refine zT 2 hSS ?_;refine zT 3 hSS ?_;refine zT 4 hSS ?_;refine zT 5 hSS ?_;refine zT 6 hSS ?_;refine zo 7 fun K hK=>?_;refine zkd (by rfl) (.func 113) [.tmp 18,.tmp 19,.tmp 20] _ (by rfl) 113 _ zyD (by rfl) _ (by rfl) _ (znG (zux p (.nd tk tn ts ks) vs A c S S S _ _ _ (wU.out.later (zka ig.out hdr)) (iL.out.later (zka ig.out hdr)) (ae.out.later (zka ig.out hdr)) p8.out)) ?_;rintro vq w2 ⟨rfl,au⟩;simp only[T.k_nd,T.s_nd,T.ks_nd];rw[uI.out];have b2:=zka hdr au;have aM:=zV hSS (jZ.out _ (Chg.of_below b2)) trivial;refine hK.out _ _ aM ?_;clear hK K hSS;(try simp only[zQ]);refine zo 8 fun K hK=>?_
 refine zk3 (by rfl) (.tmp 14) [.tmp 15,.tmp 17,.tmp 21] _ (by rfl) f fn hfn cap (by rfl) _ (by rfl) _ (zmp (aY.out.call N pw E0 q Aq cq ts S w2 (aY.out.keep Wb w2 pw N HI0.out.rd HI0.out.fs (Chg.of_below b2)) (HI0.out.fs.later b2) ((HQR.out.later ig.out).later b2) (by omega) (by omega))) ?_;rintro vq W3 hp3;obtain⟨pv3,hi3⟩:=HI0.out.step aY.out b2 hp3;have bN:=zV aM (jZ.out _ hi3.chg) trivial;refine hK.out _ _ bN ?_;clear hK K aM;(try simp only[zQ]);refine zd ?_;refine NoPanic.normal ?_;obtain⟨⟨a0,a1,a2,a3,a4,a5⟩,b0,b1,b2',b3⟩:=bN.1;have HI3:=zh hi3;clear bN hi3 hp3 b2 au hdr HI0
 have HD:=zh (show ∀w':World,Chg (fun b=>b=fb\/pw.ownBlock=some b) Wb w'->PV w' (fun b=>S b/\b<W.heap.size) p _/\NV w' (fun b=>S b/\b<W.heap.size) (.nd tk tn ts ks) _/\RowV w' (fun b=>S b/\b<W.heap.size) A vs/\RowI w' (fun b=>S b/\b<W.heap.size) Aq q/\zl9 w' (fun b=>S b/\b<W.heap.size) B ks from fun w' h=>⟨wU.out.keep (fun b hb hlt=>⟨hb,hlt⟩) (oh.out w' h),iL.out.keep (fun b hb hlt=>⟨hb,hlt⟩) (oh.out w' h),ae.out.keep (fun b hb hlt=>⟨hb,hlt⟩) (oh.out w' h),HQR.out.keep (fun b hb hlt=>⟨hb,hlt⟩) (oh.out w' h),pR.out.keep (fun b hb hlt=>⟨hb,hlt⟩) (oh.out w' h)⟩);by_cases hcall:tk=50\/tk=51
 ·rcases hcall with rfl|rfl
  ·go_wp2_with fail
   go_loopw [34] (fun i wr=>∃(j:Nat) (pv':Value),j<=ks.length/\i=.int .i64 j/\VsI Rd n0 fb Wb pw (N+one1 E0+cntA p.prs ts ks.length 0 (ks.take j) vs) wr pv') (fun i _=>ks.length-(intOf i).toNat)
   case atStart=>exact⟨0,_,Nat.zero_le _,rfl,by simpa[cntA]using HI3.out⟩
   case round =>
    obtain⟨j,pv',hj,rfl,hinv⟩:=hrel;have ag:=zh hinv;clear HI3;by_cases hlt:j<ks.length
    ·obtain⟨-,-,-,-,iq⟩:=HD.out wr hinv.chg;obtain⟨a,u,A4,c4,rfl,hsa,Hu,⟨q0,q1,q2,q3⟩,hnu⟩:=iq.nd hlt;have xe:=zh hnu;clear hinv iq hnu hsa;go_upto_region 6 with fail;have hbk:Below wr.heap.size wr (wr.alloc (.cells #[.int .u8 u.k,.int .i64 u.n,.string u.s,.slice A4 u.ks.length c4] 41)):=zkb zr _;have eB:=heap_alloc_new wr (.cells #[.int .u8 u.k,.int .i64 u.n,.string u.s,.slice A4 u.ks.length c4] 41);obtain⟨wk,hwk⟩:=zX (wr.alloc (.cells #[.int .u8 u.k,.int .i64 u.n,.string u.s,.slice A4 u.ks.length c4] 41));rw[hwk]at hbk eB ⊢;have fw:=zh (show wk.heap.size=wr.heap.size+1 by rw[<-hwk];simp);have aC:=zh hbk;have ik:=zh eB;clear hwk hbk eB
     have dJ:=zh (show ∀w':World,Below wk.heap.size wk w'->(fun w':World=>(zN6 w' W.heap.size (.slice A1 L1 c1) (.slice A2 L2 c2) (.int .u8 k) (.int .i64 n) (.string s) (.slice A3 l3 c3)/\zN4 w' (W.heap.size+1) (.int .u8 50) (.int .i64 tn) (.string ts) (.slice (some a) ks.length tc))/\zN4 w' wr.heap.size (.int .u8 u.k) (.int .i64 u.n) (.string u.s) (.slice A4 u.ks.length c4)) w'/\zU w' from fun w' h=>⟨⟨jZ.out w' (ag.out.chg.trans (Chg.of_below (zka aC.out h))),box4 ((h.block _ (by have:=fw.out;omega)).trans ik.out)⟩,trivial⟩);have hdr:=(zs wk).drew;have hSS:=dJ.out _ hdr;refine wp_region_noPanic ?_
     refine zkk (fun w':World=>(zN6 w' W.heap.size (.slice A1 L1 c1) (.slice A2 L2 c2) (.int .u8 k) (.int .i64 n) (.string s) (.slice A3 l3 c3)/\zN4 w' (W.heap.size+1) (.int .u8 50) (.int .i64 tn) (.string ts) (.slice (some a) ks.length tc))/\zN4 w' wr.heap.size (.int .u8 u.k) (.int .i64 u.n) (.string u.s) (.slice A4 u.ks.length c4)) zU 40 (by kernel_rfl) ?_;refine zT 0 hSS ?_;refine zT 1 hSS ?_;refine zT 2 hSS ?_;refine zT 4 hSS ?_;refine zT 5 hSS ?_;refine zT 6 hSS ?_;refine zT 7 hSS ?_;refine zT 8 hSS ?_;refine zT 9 hSS ?_;refine zo 3 fun K hK=>?_;refine zkd (by rfl) (.func 114) [.tmp 40,.tmp 41] _ (by rfl) 114 _ zrj (by rfl) _ (by rfl) _ (znR (zoA q Aq cq (j:Int) ⟨by omega,by omega⟩ _ _ (HD.out _ (ag.out.chg.trans (Chg.of_below (zka aC.out hdr)))).2.2.2.1 Bj.out (by omega))) ?_;rintro vq w2 ⟨Ac,cc,rfl,hrc,hcc,au⟩;have b2:=zka hdr au
     have aM:=dJ.out _ b2;refine hK.out _ _ aM ?_;clear hK K hSS;(try simp only[zQ]);refine zo 10 fun K hK=>?_;refine zkd (by rfl) (.func 115) [.tmp 45,.tmp 46,.tmp 47,.tmp 48] _ (by rfl) 115 _ zo6 (by rfl) _ (by rfl) _ (znG (znK p (.nd 50 tn ts ks) j hlt vs A c _ _ _ _ _ _ (HD.out _ (ag.out.chg.trans (Chg.of_below (zka aC.out b2)))).1 (HD.out _ (ag.out.chg.trans (Chg.of_below (zka aC.out b2)))).2.1 (HD.out _ (ag.out.chg.trans (Chg.of_below (zka aC.out b2)))).2.2.1 p8.out)) ?_;rintro vq w3 ⟨rfl,bU⟩;simp only[T.k_nd,T.s_nd,T.ks_nd];have b3:=zka b2 bU;have bN:=dJ.out _ b3;refine hK.out _ _ bN ?_;clear hK K aM;(try simp only[zQ]);refine zo 11 fun K hK=>?_;have hcl:cntA p.prs ts ks.length 0 (ks.take j) vs<=zkV ks:=Nat.le_trans (zpQ _ _ _ _ _ _) (zlG _ _);have hF:=ag.out.fs.later (zka aC.out b3)
     have hR:=aY.out.keep _ _ _ _ ag.out.rd ag.out.fs (Chg.of_below (zka aC.out b3));refine zk3 (by rfl) (.tmp 39) [.tmp 42,.tmp 44,.tmp 49] _ (by rfl) f fn hfn cap (by rfl) _ (by rfl) _ (zmp (aY.out.call _ pv' _ (q++[(j:Int)]) Ac cc u.s _ w3 hR hF (hrc.later bU) (by simp;omega) (by omega))) ?_;rintro vq W6 hp;obtain⟨iU,bJ⟩:=ag.out.step aY.out (zka aC.out b3) hp;have bH:VsI Rd n0 fb Wb pw (N+one1 E0+cntA p.prs ts ks.length 0 (ks.take (j+1)) vs) W6 iU:=by rw[zqG p.prs ts ks.length vs hlt];simpa[Nat.add_assoc]using bJ
     have aA:zW (fun w':World=>(zN6 w' W.heap.size (.slice A1 L1 c1) (.slice A2 L2 c2) (.int .u8 k) (.int .i64 n) (.string s) (.slice A3 l3 c3)/\zN4 w' (W.heap.size+1) (.int .u8 50) (.int .i64 tn) (.string ts) (.slice (some a) ks.length tc))/\zN4 w' wr.heap.size (.int .u8 u.k) (.int .i64 u.n) (.string u.s) (.slice A4 u.ks.length c4)) zU W6:=⟨⟨jZ.out _ bH.chg,box4 ((hp.2.elim fun _ h=>h.2.2.block _ (by have:=(zka aC.out b3).size;have:=b3.size;have:=fw.out;omega) (fun hh=>by have hl:=ag.out.fs.lt;rcases hh with hh|hh;(have:=hl.1;omega);(have:=(hl.2 _ hh).2;omega))).trans ((b3.block _ (by have:=fw.out;omega)).trans ik.out))⟩,trivial⟩
     refine hK.out _ _ aA ?_;clear hK K bN;(try simp only[zQ]);refine zd ?_;refine NoPanic.normal ?_;have ja:=zh bH;clear bH bJ hp aA hF hR;go_wp2_with fail
     go_roundw
     case rel=>exact⟨j+1,_,by omega,by go_num,ja.out⟩
     case measure=>simp[intOf];omega
    ·obtain rfl:j=ks.length:=by omega
     clear hinv;go_wp2_with fail;(try simp only[Exit.inBlock,Exit.then]);refine bodyPost_ret (results_none rfl _ _ _) rfl ?_;have hinv:=ag.out;rw[List.take_of_length_le zl]at hinv;have hcc:=aZ.out;rw[cntV,uI.out,if_pos (by decide)]at hcc;rw[<-hcc,<-Nat.add_assoc];exact hinv.rep ig.out ⟨_,rfl⟩
  ·go_wp2_with fail
   go_loopw [34] (fun i wr=>∃(j:Nat) (pv':Value),j<=ks.length/\i=.int .i64 j/\VsI Rd n0 fb Wb pw (N+one1 E0+cntA p.prs ts ks.length 0 (ks.take j) vs) wr pv') (fun i _=>ks.length-(intOf i).toNat)
   case atStart=>exact⟨0,_,Nat.zero_le _,rfl,by simpa[cntA]using HI3.out⟩
   case round =>
    obtain⟨j,pv',hj,rfl,hinv⟩:=hrel;have ag:=zh hinv;clear HI3;by_cases hlt:j<ks.length
    ·obtain⟨-,-,-,-,iq⟩:=HD.out wr hinv.chg;obtain⟨a,u,A4,c4,rfl,hsa,Hu,⟨q0,q1,q2,q3⟩,hnu⟩:=iq.nd hlt;have xe:=zh hnu;clear hinv iq hnu hsa;go_upto_region 6 with fail;have hbk:Below wr.heap.size wr (wr.alloc (.cells #[.int .u8 u.k,.int .i64 u.n,.string u.s,.slice A4 u.ks.length c4] 41)):=zkb zr _;have eB:=heap_alloc_new wr (.cells #[.int .u8 u.k,.int .i64 u.n,.string u.s,.slice A4 u.ks.length c4] 41);obtain⟨wk,hwk⟩:=zX (wr.alloc (.cells #[.int .u8 u.k,.int .i64 u.n,.string u.s,.slice A4 u.ks.length c4] 41));rw[hwk]at hbk eB ⊢;have fw:=zh (show wk.heap.size=wr.heap.size+1 by rw[<-hwk];simp);have aC:=zh hbk;have ik:=zh eB;clear hwk hbk eB
     have dJ:=zh (show ∀w':World,Below wk.heap.size wk w'->(fun w':World=>(zN6 w' W.heap.size (.slice A1 L1 c1) (.slice A2 L2 c2) (.int .u8 k) (.int .i64 n) (.string s) (.slice A3 l3 c3)/\zN4 w' (W.heap.size+1) (.int .u8 51) (.int .i64 tn) (.string ts) (.slice (some a) ks.length tc))/\zN4 w' wr.heap.size (.int .u8 u.k) (.int .i64 u.n) (.string u.s) (.slice A4 u.ks.length c4)) w'/\zU w' from fun w' h=>⟨⟨jZ.out w' (ag.out.chg.trans (Chg.of_below (zka aC.out h))),box4 ((h.block _ (by have:=fw.out;omega)).trans ik.out)⟩,trivial⟩);have hdr:=(zs wk).drew;have hSS:=dJ.out _ hdr;refine wp_region_noPanic ?_
     refine zkk (fun w':World=>(zN6 w' W.heap.size (.slice A1 L1 c1) (.slice A2 L2 c2) (.int .u8 k) (.int .i64 n) (.string s) (.slice A3 l3 c3)/\zN4 w' (W.heap.size+1) (.int .u8 51) (.int .i64 tn) (.string ts) (.slice (some a) ks.length tc))/\zN4 w' wr.heap.size (.int .u8 u.k) (.int .i64 u.n) (.string u.s) (.slice A4 u.ks.length c4)) zU 40 (by kernel_rfl) ?_;refine zT 0 hSS ?_;refine zT 1 hSS ?_;refine zT 2 hSS ?_;refine zT 4 hSS ?_;refine zT 5 hSS ?_;refine zT 6 hSS ?_;refine zT 7 hSS ?_;refine zT 8 hSS ?_;refine zT 9 hSS ?_;refine zo 3 fun K hK=>?_;refine zkd (by rfl) (.func 114) [.tmp 40,.tmp 41] _ (by rfl) 114 _ zrj (by rfl) _ (by rfl) _ (znR (zoA q Aq cq (j:Int) ⟨by omega,by omega⟩ _ _ (HD.out _ (ag.out.chg.trans (Chg.of_below (zka aC.out hdr)))).2.2.2.1 Bj.out (by omega))) ?_;rintro vq w2 ⟨Ac,cc,rfl,hrc,hcc,au⟩;have b2:=zka hdr au
     have aM:=dJ.out _ b2;refine hK.out _ _ aM ?_;clear hK K hSS;(try simp only[zQ]);refine zo 10 fun K hK=>?_;refine zkd (by rfl) (.func 115) [.tmp 45,.tmp 46,.tmp 47,.tmp 48] _ (by rfl) 115 _ zo6 (by rfl) _ (by rfl) _ (znG (znK p (.nd 51 tn ts ks) j hlt vs A c _ _ _ _ _ _ (HD.out _ (ag.out.chg.trans (Chg.of_below (zka aC.out b2)))).1 (HD.out _ (ag.out.chg.trans (Chg.of_below (zka aC.out b2)))).2.1 (HD.out _ (ag.out.chg.trans (Chg.of_below (zka aC.out b2)))).2.2.1 p8.out)) ?_;rintro vq w3 ⟨rfl,bU⟩;simp only[T.k_nd,T.s_nd,T.ks_nd];have b3:=zka b2 bU;have bN:=dJ.out _ b3;refine hK.out _ _ bN ?_;clear hK K aM;(try simp only[zQ]);refine zo 11 fun K hK=>?_;have hcl:cntA p.prs ts ks.length 0 (ks.take j) vs<=zkV ks:=Nat.le_trans (zpQ _ _ _ _ _ _) (zlG _ _);have hF:=ag.out.fs.later (zka aC.out b3)
     have hR:=aY.out.keep _ _ _ _ ag.out.rd ag.out.fs (Chg.of_below (zka aC.out b3));refine zk3 (by rfl) (.tmp 39) [.tmp 42,.tmp 44,.tmp 49] _ (by rfl) f fn hfn cap (by rfl) _ (by rfl) _ (zmp (aY.out.call _ pv' _ (q++[(j:Int)]) Ac cc u.s _ w3 hR hF (hrc.later bU) (by simp;omega) (by omega))) ?_;rintro vq W6 hp;obtain⟨iU,bJ⟩:=ag.out.step aY.out (zka aC.out b3) hp;have bH:VsI Rd n0 fb Wb pw (N+one1 E0+cntA p.prs ts ks.length 0 (ks.take (j+1)) vs) W6 iU:=by rw[zqG p.prs ts ks.length vs hlt];simpa[Nat.add_assoc]using bJ
     have aA:zW (fun w':World=>(zN6 w' W.heap.size (.slice A1 L1 c1) (.slice A2 L2 c2) (.int .u8 k) (.int .i64 n) (.string s) (.slice A3 l3 c3)/\zN4 w' (W.heap.size+1) (.int .u8 51) (.int .i64 tn) (.string ts) (.slice (some a) ks.length tc))/\zN4 w' wr.heap.size (.int .u8 u.k) (.int .i64 u.n) (.string u.s) (.slice A4 u.ks.length c4)) zU W6:=⟨⟨jZ.out _ bH.chg,box4 ((hp.2.elim fun _ h=>h.2.2.block _ (by have:=(zka aC.out b3).size;have:=b3.size;have:=fw.out;omega) (fun hh=>by have hl:=ag.out.fs.lt;rcases hh with hh|hh;(have:=hl.1;omega);(have:=(hl.2 _ hh).2;omega))).trans ((b3.block _ (by have:=fw.out;omega)).trans ik.out))⟩,trivial⟩
     refine hK.out _ _ aA ?_;clear hK K bN;(try simp only[zQ]);refine zd ?_;refine NoPanic.normal ?_;have ja:=zh bH;clear bH bJ hp aA hF hR;go_wp2_with fail
     go_roundw
     case rel=>exact⟨j+1,_,by omega,by go_num,ja.out⟩
     case measure=>simp[intOf];omega
    ·obtain rfl:j=ks.length:=by omega
     clear hinv;go_wp2_with fail;(try simp only[Exit.inBlock,Exit.then]);refine bodyPost_ret (results_none rfl _ _ _) rfl ?_;have hinv:=ag.out;rw[List.take_of_length_le zl]at hinv;have hcc:=aZ.out;rw[cntV,uI.out,if_pos (by decide)]at hcc;rw[<-hcc,<-Nat.add_assoc];exact hinv.rep ig.out ⟨_,rfl⟩
 ·obtain⟨h50,lI⟩:=not_or.1 hcall;have hd50:(tk==50)=false:=beq_false_of_ne h50;have hd51:(tk==51)=false:=beq_false_of_ne lI;go_wp2_with fail
  go_loopw [55] (fun i wr=>∃(j:Nat) (pv':Value),j<=ks.length/\i=.int .i64 j/\VsI Rd n0 fb Wb pw (N+one1 E0+cntK p.prs tk ts 0 (ks.take j) vs) wr pv') (fun i _=>ks.length-(intOf i).toNat)
  case atStart=>exact⟨0,_,Nat.zero_le _,rfl,by simpa[cntK]using HI3.out⟩
  case round =>
   obtain⟨j,pv',hj,rfl,hinv⟩:=hrel;have ag:=zh hinv;clear HI3;by_cases hlt:j<ks.length
   ·obtain⟨-,-,-,-,iq⟩:=HD.out wr hinv.chg;obtain⟨a,u,A4,c4,rfl,hsa,Hu,⟨q0,q1,q2,q3⟩,hnu⟩:=iq.nd hlt;have xe:=zh hnu;clear hinv iq hnu hsa;go_upto_region 11 with fail;have hbk:Below wr.heap.size wr (wr.alloc (.cells #[.int .u8 u.k,.int .i64 u.n,.string u.s,.slice A4 u.ks.length c4] 41)):=zkb zr _;have eB:=heap_alloc_new wr (.cells #[.int .u8 u.k,.int .i64 u.n,.string u.s,.slice A4 u.ks.length c4] 41);obtain⟨wk,hwk⟩:=zX (wr.alloc (.cells #[.int .u8 u.k,.int .i64 u.n,.string u.s,.slice A4 u.ks.length c4] 41));rw[hwk]at hbk eB ⊢;have fw:=zh (show wk.heap.size=wr.heap.size+1 by rw[<-hwk];simp);have aC:=zh hbk;have ik:=zh eB;clear hwk hbk eB
    have dJ:=zh (show ∀w':World,Below wk.heap.size wk w'->(fun w':World=>(zN6 w' W.heap.size (.slice A1 L1 c1) (.slice A2 L2 c2) (.int .u8 k) (.int .i64 n) (.string s) (.slice A3 l3 c3)/\zN4 w' (W.heap.size+1) (.int .u8 tk) (.int .i64 tn) (.string ts) (.slice (some a) ks.length tc))/\zN4 w' wr.heap.size (.int .u8 u.k) (.int .i64 u.n) (.string u.s) (.slice A4 u.ks.length c4)) w'/\zU w' from fun w' h=>⟨⟨jZ.out w' (ag.out.chg.trans (Chg.of_below (zka aC.out h))),box4 ((h.block _ (by have:=fw.out;omega)).trans ik.out)⟩,trivial⟩);have hdr:=(zs wk).drew;have hSS:=dJ.out _ hdr;refine wp_region_noPanic ?_
    refine zkk (fun w':World=>(zN6 w' W.heap.size (.slice A1 L1 c1) (.slice A2 L2 c2) (.int .u8 k) (.int .i64 n) (.string s) (.slice A3 l3 c3)/\zN4 w' (W.heap.size+1) (.int .u8 tk) (.int .i64 tn) (.string ts) (.slice (some a) ks.length tc))/\zN4 w' wr.heap.size (.int .u8 u.k) (.int .i64 u.n) (.string u.s) (.slice A4 u.ks.length c4)) zU 40 (by kernel_rfl) ?_;refine zT 0 hSS ?_;refine zT 1 hSS ?_;refine zT 2 hSS ?_;refine zT 3 hSS ?_;refine zT 5 hSS ?_;refine zT 6 hSS ?_;refine zT 7 hSS ?_;refine zT 9 hSS ?_;refine zo 4 fun K hK=>?_;refine zkd (by rfl) (.func 114) [.tmp 62,.tmp 63] _ (by rfl) 114 _ zrj (by rfl) _ (by rfl) _ (znR (zoA q Aq cq (j:Int) ⟨by omega,by omega⟩ _ _ (HD.out _ (ag.out.chg.trans (Chg.of_below (zka aC.out hdr)))).2.2.2.1 Bj.out (by omega))) ?_;rintro vq w2 ⟨Ac,cc,rfl,hrc,hcc,au⟩;have b2:=zka hdr au;have aM:=dJ.out _ b2
    refine hK.out _ _ aM ?_;clear hK K hSS;(try simp only[zQ]);refine zo 8 fun K hK=>?_;refine zkd (by rfl) (.func 84) [.tmp 65,.tmp 66,.tmp 67] _ (by rfl) 84 _ zyB (by rfl) _ (by rfl) _ (ztF (zuj (.nd tk tn ts ks) j (by omega) vs A c _ _ _ _ (HD.out _ (ag.out.chg.trans (Chg.of_below (zka aC.out b2)))).2.1 (HD.out _ (ag.out.chg.trans (Chg.of_below (zka aC.out b2)))).2.2.1 nz.out (by omega))) ?_;simp only[T.k_nd,T.s_nd,T.ks_nd];rintro vq w3 ⟨Av,cv,rfl,fT,hcv,bU⟩;have b3:=zka b2 bU;have bN:=dJ.out _ b3;refine hK.out _ _ bN ?_;clear hK K aM;(try simp only[zQ]);refine zo 10 fun K hK=>?_;have hcl:cntK p.prs tk ts 0 (ks.take j) vs<=zkV (ks.take j):=zrn _ _ _ _ (fun t _ vs=>zuG _ t vs) _ _;have hsz:=zlG ks (j+1);rw[zsG ks j hlt,Hu.out]at hsz;have hmem:u∈ks:=by rw[<-Hu.out];exact List.getElem_mem hlt
    have hdu:=zxM hmem;have hil:=zsS tk ts j vs;have hzb:=ag.out.chg.size;have hz0:=iG.out;have hzk:=fw.out;have hfl:=ag.out.fs.lt;have hF:=ag.out.fs.later (zka aC.out b3);have hR:=aY.out.keep _ _ _ _ ag.out.rd ag.out.fs (Chg.of_below (zka aC.out b3));have hzz:=hdr.size;have xM:=au.size;have hzw2:=b2.size
    refine zkd (by rfl) (.func 73) [.tmp 60,.tmp 61,.tmp 64,.tmp 68,.tmp 69] _ (by rfl) 73 _ zyx (by rfl) _ (by rfl) _ (zmp (xw.out u hmem (fun b=>(S b/\b<W.heap.size)\/wk.heap.size<=b) (zmt tk ts j vs) Av cv (q++[(j:Int)]) Ac cc (N+one1 E0+cntK p.prs tk ts 0 (ks.take j) vs) pv' w3 _ _ hR hF ((HD.out _ (ag.out.chg.trans (Chg.of_below (zka aC.out b3)))).1.keep (fun b hb _=>.inl hb) (fun _ _ _=>rfl)) ((xe.out.later (zka aC.out b3)).keep (fun b hb _=>.inl hb) (fun _ _ _=>rfl)) (fT.mono fun b hb=>by rcases hb with hb|hb;exact .inl hb;exact .inr (by omega)) hcv ((hrc.later bU).mono fun b hb=>.inr (by have:_<=b:=hb;omega)) hcc (fun b hb hlt' hh=>?_) (by simp;omega) (by omega) (by omega))) ?_
    ·rcases hb with⟨hb,hbl⟩|hb
     ·refine HFAR.out b hb hbl (hh.imp id fun h=>?_);rcases ag.out.own b h with h1|h1
      ·exact h1
      ·omega
     ·rcases hh with rfl|hh
      ·omega
      ·have:=hfl.2 b hh;omega
    rintro vq W6 hp;obtain⟨iU,bJ⟩:=ag.out.step aY.out (zka aC.out b3) hp;have bH:VsI Rd n0 fb Wb pw (N+one1 E0+cntK p.prs tk ts 0 (ks.take (j+1)) vs) W6 iU:=by rw[zuJ p.prs tk ts vs hlt,Hu.out];simpa[Nat.add_assoc]using bJ
    have aA:zW (fun w':World=>(zN6 w' W.heap.size (.slice A1 L1 c1) (.slice A2 L2 c2) (.int .u8 k) (.int .i64 n) (.string s) (.slice A3 l3 c3)/\zN4 w' (W.heap.size+1) (.int .u8 tk) (.int .i64 tn) (.string ts) (.slice (some a) ks.length tc))/\zN4 w' wr.heap.size (.int .u8 u.k) (.int .i64 u.n) (.string u.s) (.slice A4 u.ks.length c4)) zU W6:=⟨⟨jZ.out _ bH.chg,box4 ((hp.2.elim fun _ h=>h.2.2.block _ (by have:=(zka aC.out b3).size;have:=b3.size;have:=fw.out;omega) (fun hh=>by have hl:=ag.out.fs.lt;rcases hh with hh|hh;(have:=hl.1;omega);(have:=(hl.2 _ hh).2;omega))).trans ((b3.block _ (by have:=fw.out;omega)).trans ik.out))⟩,trivial⟩
    refine hK.out _ _ aA ?_;clear hK K bN;(try simp only[zQ]);refine zd ?_;refine NoPanic.normal ?_;have ja:=zh bH;clear bH bJ hp aA hF hR;go_wp2_with fail
    go_roundw
    case rel=>exact⟨j+1,_,by omega,by go_num,ja.out⟩
    case measure=>simp[intOf];omega
   ·obtain rfl:j=ks.length:=by omega
    clear hinv;go_wp2_with fail;go_end0;have hinv:=ag.out;rw[List.take_of_length_le zl]at hinv;have hcc:=aZ.out;rw[cntV,uI.out,if_neg hcall]at hcc;rw[<-hcc,<-Nat.add_assoc];exact hinv.rep ig.out ⟨_,rfl⟩
theorem zyt(k n:Int)(s:ByteArray)(ks:List T):isB (.nd k n s ks)=true↔k=57/\zkq n s=true/\∀t∈ks,isS t=true:=by
 rw[isB];simp only[Bool.and_eq_true,decide_eq_true_eq,and_assoc];refine and_congr Iff.rfl (and_congr Iff.rfl ?_);rw[zpI 0,zkH]
 constructor
 ·intro h t ht;obtain⟨q,hq,rfl⟩:=List.getElem_of_mem ht;exact h q hq
 ·intro h q hq;exact h _ (List.getElem_mem hq)
theorem zKA{t:T}(h:isB t=true):t.k=57:=by cases t;exact((zyt _ _ _ _).1 h).1
theorem zmR{x:T}:∀ {l:List T},x∈pos l↔∃t∈l,x∈po t
 | []=>by simp[pos]
 | t::ts=>by simp[pos,zmR (l:=ts)]
theorem zub:∀(ks:List T),(∀t∈ks,∀d l,lim t d l=if dep t<=d/\size t<=l then some (l-size t)else none)->∀d l,lims ks d l=if deps ks<=d/\zkV ks<=l then some (l-zkV ks)else none
 | [],_,d,l=>by simp[lims,deps,zkV]
 | t::ts,h,d,l=>by
  have e1:deps (t::ts)=max (dep t) (deps ts):=by rw[deps]
  have e2:zkV (t::ts)=size t+zkV ts:=by rw[zkV]
  rw[lims,h t (by simp) d l];by_cases h1:dep t<=d/\size t<=l
  ·rw[if_pos h1];simp only;rw[zub ts (fun u hu=>h u (by simp[hu])) d (l-size t)];by_cases h2:deps ts<=d/\zkV ts<=l-size t
   ·rw[if_pos h2,if_pos ⟨by omega,by omega⟩];congr 1;omega
   ·rw[if_neg h2,if_neg (by omega)]
  ·rw[if_neg h1];simp only;rw[if_neg (by omega)]
theorem zzA(t:T):∀d l,lim t d l=if dep t<=d/\size t<=l then some (l-size t)else none:=by
 induction t using T.ind with
 | _ k n s ks ih =>
 intro d l;have e1:dep (.nd k n s ks)=1+deps ks:=by rw[dep]
 have e2:size (.nd k n s ks)=1+zkV ks:=by rw[size]
 rw[lim];by_cases h:d=0\/l=0
 ·rw[if_pos h,if_neg (by omega)]
 ·rw[if_neg h,zub ks ih];by_cases h2:deps ks<=d-1/\zkV ks<=l-1
  ·rw[if_pos h2,if_pos ⟨by omega,by omega⟩];congr 1;omega
  ·rw[if_neg h2,if_neg (by omega)]
theorem zwr{k n:Int}{s:ByteArray}{ks:List T}(h:isE (.nd k n s ks)=true):∀t∈ks,isE t=true:=by
 have key:isEs ks=true->∀t∈ks,isE t=true:=by
  intro h t ht;rw[znv 0,zkH]at h;obtain⟨i,hi,rfl⟩:=List.getElem_of_mem ht;exact h i hi
 have nil:decide (ks.length=0)=true->∀t∈ks,isE t=true:=by
  intro h t ht;have:ks=[]:=by simpa using h
  rw[this]at ht;cases ht
 rw[isE]at h
 split at h
 ·simp only[Bool.and_eq_true]at h;exact nil h.2
 split at h
 ·simp only[Bool.and_eq_true]at h;exact nil h.2
 split at h
 ·simp only[Bool.and_eq_true]at h;exact key h.2.2
 split at h
 ·simp only[Bool.and_eq_true]at h;exact key h.2.2
 split at h
 ·simp only[Bool.and_eq_true]at h;exact key h.2.2
 ·cases h
theorem zwq{t:T}(h:isP t=true):isE t=true:=by unfold isP at h;simp only[Bool.and_eq_true]at h;exact h.2
theorem zKz{t:T}(h:isV t=true):isE t=true:=by unfold isV at h;simp only[Bool.and_eq_true]at h;exact h.2
theorem zm2{m:Nat}{p:Nat->T->Bool}{ks:List T}(h:zkG m p ks=true){t:T}(ht:t∈ks):∃i,p i t=true:=by
 unfold zkG at h;simp only[Bool.and_eq_true]at h;have:=(zkH p 0 ks).1 h.2;obtain⟨i,hi,rfl⟩:=List.getElem_of_mem ht;exact⟨0+i,this i hi⟩
theorem zpJ{d:Nat}{ks:List T}(h:isEB d ks=true){t:T}(ht:t∈ks):isE t=true\/isB t=true:=by
 have h':isEB (d+0) ks=true:=h;rw[znw d 0]at h';have:=(zkH _ 0 ks).1 h';obtain⟨i,hi,rfl⟩:=List.getElem_of_mem ht;have h2:=this i hi;unfold pEB at h2
 split at h2
 ·exact .inl h2
 ·exact .inr h2
theorem zxC{k n:Int}{s:ByteArray}{ks:List T}(h:isS (.nd k n s ks)=true):k≠57/\∀t∈ks,isE t=true\/isB t=true:=by
 rw[isS]at h
 split at h
 ·rename_i hk;simp only[Bool.and_eq_true]at h;refine⟨by omega,fun t ht=>?_⟩;obtain⟨i,hi⟩:=zm2 h.2 ht
  split at hi
  ·exact .inl (zwq hi)
  ·exact .inl hi
 split at h
 ·rename_i hk;simp only[Bool.and_eq_true]at h;refine⟨by omega,fun t ht=>?_⟩;obtain⟨i,hi⟩:=zm2 h.2 ht;exact .inl (zwq hi)
 split at h
 ·rename_i hk;simp only[Bool.and_eq_true]at h;refine⟨by omega,fun t ht=>?_⟩;obtain⟨i,hi⟩:=zm2 h.2 ht;exact .inl (zwq hi)
 split at h
 ·rename_i hk;simp only[Bool.and_eq_true]at h;refine⟨by omega,fun t ht=>?_⟩;obtain⟨i,hi⟩:=zm2 h.2 ht;exact .inl (zwq hi)
 split at h
 ·rename_i hk;simp only[Bool.and_eq_true]at h;refine⟨by omega,fun t ht=>?_⟩;have:=(zkH _ 0 ks).1 h.2;obtain⟨i,hi,rfl⟩:=List.getElem_of_mem ht;exact .inl (zKz (this i hi))
 split at h
 ·rename_i hk;simp only[Bool.and_eq_true]at h;exact⟨by omega,fun t ht=>zpJ h.2.2 ht⟩
 split at h
 ·rename_i hk;simp only[Bool.and_eq_true]at h;exact⟨by omega,fun t ht=>zpJ h.2.2 ht⟩
 split at h
 ·rename_i hk;simp only[Bool.and_eq_true]at h;exact⟨by omega,fun t ht=>zpJ h.2.2 ht⟩
 ·cases h
theorem zm3{k n:Int}{s:ByteArray}{ks:List T}(h:isS (.nd k n s ks)=true) :
  ((k≠52/\k≠53/\k≠54/\k≠55/\k≠57)/\∀t∈ks,t.k≠57) \/
  ((k=52\/k=53)/\zkq n s=true/\∃a b c d,ks=[a,b,c,d]/\isE a=true/\isB b=true/\isB c=true/\isE d=true) \/
  (k=54/\zkB n s=true/\∃a b c,ks=[a,b,c]/\isE a=true/\isB b=true/\isE c=true) \/
  (k=55/\zkB n s=true/\∃b,ks=[b]/\isB b=true):=by
 have key:∀(p:Nat->T->Bool),(∀j t,p j t=true->t.k≠57)->zkz p 0 ks=true->∀t∈ks,t.k≠57:=by
  intro p hp hk t ht;obtain⟨q,hq,rfl⟩:=List.getElem_of_mem ht;exact hp _ _ ((zkH p 0 ks).1 hk q hq)
 have kE:∀t,isE t=true->t.k≠57:=fun t h1=>by have:=zws t h1;omega
 rw[isS]at h
 repeat' split at h
 ·simp only[zkG,Bool.and_eq_true]at h;exact .inl ⟨by omega,key _ (fun j t hj=>by split at hj;exact zwp t hj;exact kE t hj) h.2.2⟩
 ·simp only[zkG,Bool.and_eq_true]at h;exact .inl ⟨by omega,key _ (fun j t=>zwp t) h.2.2⟩
 ·simp only[zkG,Bool.and_eq_true]at h;exact .inl ⟨by omega,key _ (fun j t=>zwp t) h.2.2⟩
 ·simp only[zkG,Bool.and_eq_true]at h;exact .inl ⟨by omega,key _ (fun j t=>zwp t) h.2.2⟩
 ·simp only[Bool.and_eq_true]at h;exact .inl ⟨by omega,key _ (fun j t=>zKy t) h.2⟩
 ·rename_i hk;simp only[Bool.and_eq_true,decide_eq_true_eq]at h;obtain⟨h1,h2,h3⟩:=h
  match ks,h2 with
  | [a,b,c,d],_ =>
   simp only[isEB,Bool.and_eq_true,Bool.and_true]at h3;simp at h3;exact .inr (.inl ⟨hk,h1,a,b,c,d,rfl,h3.1,h3.2.1,h3.2.2.1,h3.2.2.2⟩)
 ·rename_i hk;simp only[Bool.and_eq_true,decide_eq_true_eq]at h;obtain⟨h1,h2,h3⟩:=h
  match ks,h2 with
  | [a,b,c],_ =>
   simp only[isEB,Bool.and_eq_true,Bool.and_true]at h3;simp at h3;exact .inr (.inr (.inl ⟨hk,h1,a,b,c,rfl,h3.1,h3.2.1,h3.2.2⟩))
 ·rename_i hk;simp only[Bool.and_eq_true,decide_eq_true_eq]at h;obtain⟨h1,h2,h3⟩:=h
  match ks,h2 with
  | [b],_ =>
   simp only[isEB,Bool.and_eq_true,Bool.and_true]at h3;simp at h3;exact .inr (.inr (.inr ⟨hk,h1,b,rfl,h3⟩))
 ·cases h
section
variable {P:Program} {ops:Array Oper} {Q:Exit->Act->World->Prop} {md:Region.Mode} {S1 S2:World->Prop} {k:Nat}
theorem zxV{i j:Nat}{o o':Oper}{fuel:Nat}{listed:Array Bool}{a:Act}{w:World}(hr:Region.ready md ops listed=[i,j])(ho:ops[i]?=some o)(ho':ops[j]?=some o')
  (h:∀K':Act->World->Prop,Shut (∀a w,S1 w/\S2 w->wpG P md ops Q S1 S2 k fuel (listed.setIfInBounds i true) a w->K' a w)->if Region.wanted o (yielded ops a.tmps)=true then Oper.wp P o a w K' Q else K' (a.put o.dst undef) w)
  (h':∀K':Act->World->Prop,Shut (∀a w,S1 w/\S2 w->wpG P md ops Q S1 S2 k fuel (listed.setIfInBounds j true) a w->K' a w)->if Region.wanted o' (yielded ops a.tmps)=true then Oper.wp P o' a w K' Q else K' (a.put o'.dst undef) w) :
  wpG P md ops Q S1 S2 k (fuel+1) listed a w:=by
 refine⟨(fun h0=>by rw[hr]at h0;cases h0),fun x hx=>?_⟩;rw[hr]at hx;simp only[List.mem_cons,List.not_mem_nil,or_false]at hx;rcases hx with rfl|rfl
 ·exact wpOp_step ho fun K' hK=>h K' fun a w hS hW=>hK a w ⟨⟨hS.1,fun _=>hS.2⟩,hW⟩
 ·exact wpOp_step ho' fun K' hK=>h' K' fun a w hS hW=>hK a w ⟨⟨hS.1,fun _=>hS.2⟩,hW⟩
end
def frsN(vs:List VD):Nat->Nat
 | 0=>0
 | j+1=>frsN vs j+(if h:j<vs.length then one1 (zmv (vs.take j) vs[j].s)else 0)
theorem zm4{vs:List VD}{j:Nat}(h:j<vs.length):frsN vs (j+1)=frsN vs j+one1 (zmv (vs.take j) vs[j].s):=by simp[frsN,h]
theorem zmu(vs:List VD):∀j,frsN vs j<=j
 | 0=>by simp[frsN]
 | j+1=>by
  have h:=zmu vs j;rw[frsN]
  split
  ·have:=zmP (zmv (vs.take j) vs[j].s);omega
  ·omega
def prcE(ps:List PR)(j:Nat)(r:PR):Nat:=one1 (if zlD ps r.s<(j:Int)then 22 else 0)+frsN r.ps r.ps.length+cntV ps r.b r.ps
def prcN(ps:List PR):Nat->Nat
 | 0=>0
 | j+1=>prcN ps j+(if h:j<ps.length then prcE ps j ps[j]else 0)
theorem zob{ps:List PR}{j:Nat}(h:j<ps.length):prcN ps (j+1)=prcN ps j+prcE ps j ps[j]:=by simp[prcN,h]
def chkN(p:PG):Nat:=frsN p.vs p.vs.length+prcN p.prs p.prs.length+cntV p.prs p.m p.vs
theorem zoQ{t:T}(h:zlE t=true):dep t<=80/\size t<=2000:=by
 simp only[zlE,Bool.and_eq_true]at h;have h1:=h.1;rw[zzA]at h1
 split at h1
 ·assumption
 ·simp at h1
theorem zml{p:PG}(h:zla p=true):p.vs.length<=32/\p.prs.length<=64/\(∀r∈p.prs,r.ps.length<=8/\dep r.b<=80/\size r.b<=2000)/\dep p.m<=80/\size p.m<=2000:=by
 simp only[zla,Bool.and_eq_true,decide_eq_true_eq,List.all_eq_true]at h;refine⟨h.1.1.1.1,h.1.1.1.2,fun r hr=>?_,zoQ h.2⟩;have:=h.1.2 r hr;simp only[zoG,Bool.and_eq_true,decide_eq_true_eq]at this;exact⟨this.1.1.2,zoQ this.2⟩
theorem zrb(ps:List PR)(h:∀r∈ps,r.ps.length<=8/\dep r.b<=80/\size r.b<=2000):∀j,prcN ps j<=j*2009
 | 0=>by simp[prcN]
 | j+1=>by
  have h1:=zrb ps h j;rw[prcN]
  split
  ·rename_i hj;have h2:=h _ (List.getElem_mem hj);have h3:=zmP (if zlD ps ps[j].s<(j:Int)then 22 else 0);have h4:=zmu ps[j].ps ps[j].ps.length;have h5:=zuG ps ps[j].b ps[j].ps;unfold prcE;omega
  ·omega
theorem RowV.take{w:World}{S:Nat->Prop}{A:Option Addr}{vs:List VD}(h:RowV w S A vs)(j:Nat):RowV w S A (vs.take j):=fun i hi=>by
 have h1:i<vs.length:=by simp at hi;omega
 obtain⟨a,h2,h3,h4,h5⟩:=h i h1;exact⟨a,h2,h3,by simpa using h4,by simpa using h5⟩
theorem RowI.nil{w:World}{S:Nat->Prop}{A:Option Addr}:RowI w S A []:=fun i hi=>by simp at hi
theorem zqi(w:World)(j:Int)(hj:I64 j):RowI (w.alloc (.cells #[.int .i64 j] 3)) Any (some ⟨w.heap.size,0,none⟩) [j]:=fun i hi=>by
 simp only[List.length_singleton,Nat.lt_one_iff]at hi;subst hi;exact⟨_,rfl,trivial,zlB w 3 [.int .i64 j] 0 _ rfl,hj⟩
theorem zmB(n0 fb N:Nat)(pv:Value)(pr er:Int)(q:List Int)(A:Option Addr)(c:Nat)(s:ByteArray)(S:Nat->Prop)(W:World)(hfs:FS W n0 fb N pv)(hq:RowI W S A q)(kC:q.length<=100000)(hN:N<=1000000) :
  Calls Tryz.prog 69 ([.int .i64 pr,.slice A q.length c,.string s,.int .i64 er].toArray ++ #[.pointer (some ⟨fb,0,none⟩)]) W (RepP W n0 fb pv (N+one1 er)):=by
 simpa using zmC n0 fb N pv pr er q A c s S W hfs hq kC hN
theorem VsI.chg2{Rd:World->Prop}{n0 fb:Nat}{Wb wr wk w':World}{pv pv':Value}{N:Nat}(h:VsI Rd n0 fb Wb pv N wr pv')(hb:Below wr.heap.size wr wk)(hc:Chg (fun b=>b=fb\/pv'.ownBlock=some b) wk w'):Chg (fun b=>b=fb\/pv.ownBlock=some b) Wb w' :=
 (h.chg.trans (Chg.of_below hb)).trans2 hc fun b hlt hh=>by
  rcases hh with hh|hh
  ·exact .inl hh
  ·rcases h.own b hh with h1|h1
   ·exact .inr h1
   ·omega
theorem VsI.stepK{Rd:World->Prop}{n0 fb:Nat}{Wb wr w5 W6:World}{pv pv':Value}{N N':Nat}{e:Ending}(hk:∀W W' pv N,Rd W->FS W n0 fb N pv->Chg (fun b=>b=fb\/pv.ownBlock=some b) W W'->Rd W')(h:VsI Rd n0 fb Wb pv N wr pv')(hb:Below wr.heap.size wr w5)(hp:RepP w5 n0 fb pv' N' e W6) :
  ∃jg,VsI Rd n0 fb Wb pv N' W6 jg:=by
 obtain⟨_,jg,hfs,aj,hc⟩:=hp;have sJ:=h.fs.later hb;have hz:=h.chg.size;have oz:=hb.size;refine⟨jg,hk w5 W6 pv' N (hk wr w5 pv' N h.rd h.fs (Chg.of_below hb)) sJ hc,hfs,fun b hb'=>?_,h.chg2 hb hc⟩;rcases aj b hb' with h1|h1
 ·exact h.own b h1
 ·exact .inr (by omega)
theorem zmE(vs:List VD)(j:Nat)(hj:j<=vs.length)(A:Option Addr)(c:Nat)(s:ByteArray)(S:Nat->Prop)(w:World)(hrow:RowV w S A vs)(hl:vs.length<=LV) :
  Calls Tryz.prog 71 #[.slice A j c,.string s] w fun e w'=>e=.returned (.int .i64 (zmv (vs.take j) s))/\Below w.heap.size w w':=by
 have h:=zon (vs.take j) A c s S w (hrow.take j) (by simp;omega);rwa[show(vs.take j).length=j by simp;omega]at h
theorem zpL:IsFn Tryz.prog 71 Tryz.f71:=⟨Tryz.func71,by kernel_rfl,by kernel_rfl⟩
theorem zyA:IsFn Tryz.prog 72 Tryz.f72:=⟨Tryz.func72,by kernel_rfl,by kernel_rfl⟩
theorem zsl:IsFn Tryz.prog 69 Tryz.f69:=⟨Tryz.func69,by kernel_rfl,by kernel_rfl⟩
theorem zpn(p:PG)(S:Nat->Prop)(v:Value)(W:World)(hv:PV W S p v):Calls Tryz.prog 26 #[v] W fun e w'=>∃A c,e=.returned (.slice A (if zla p=true then chkN p else 0) c)/\Below W.heap.size W w':=by
 obtain⟨NN,Af⟩:=zX ((if zla p=true then chkN p else 0));rw[Af];have qP:=zh Af;clear Af;have hvv:=hv;obtain⟨A1,c1,A2,c2,A3,c3,rfl,hr⟩:=hv;have hlv:=zk9 hr.lv;have hlp:=zk9 hr.lp;obtain⟨L1,hL1⟩:=zX (p.vs.length);obtain⟨L2,hL2⟩:=zX (p.prs.length);obtain⟨k,hk⟩:=zX (p.m.k);obtain⟨n,hn⟩:=zX (p.m.n);obtain⟨s,hs⟩:=zX (p.m.s);obtain⟨l3,hl3⟩:=zX (p.m.ks.length);rw[hL1,hL2,hk,hn,hs,hl3];rw[hL1,hL2,hk,hn,hs,hl3]at hvv;rw[hL1]at hlv;rw[hL2]at hlp;have wU:=zh hvv;have HR:=zh hr;have iM:=zh hL1;have HL2:=zh hL2;have vJ:=zh (show p.m.k=k/\p.m.n=n/\p.m.s=s/\p.m.ks.length=l3 from⟨hk,hn,hs,hl3⟩);clear hvv hr hL1 hL2 hk hn hs hl3;go_enter Tryz.func26,Tryz.ntmps26;go_wp2_with fail;refine(zoB p S _ _ (wU.out.later (zkb zr _))).mono ?_;rintro e w1 ⟨rfl,aa⟩;have b1:Below W.heap.size W w1:=zka (zkb zr _) aa
 have hp1:=(aa.block W.heap.size (by simp)).trans (heap_alloc_new W (.cells #[.slice A1 L1 c1,.slice A2 L2 c2,.int .u8 k,.int .i64 n,.string s,.slice A3 l3 c3] 43));have hz1:=aa.size;simp only[World.size_alloc]at hz1;have HB1:=zh b1;have HP1:=zh hp1;have HZ1:=zh hz1;obtain⟨a0,a1,a2,a3,a4,a5⟩:=box6 hp1;clear aa b1 hp1
 cases hvb:zla p
 ·have hN0:NN=0:=by rw[<-qP.out,hvb];rfl
  subst hN0;go_wp2_with fail;go_ret;exact⟨none,0,rfl,HB1.out⟩
 ·have eF:=zh (zml hvb);have HNN2:=zh (show chkN p=NN by rw[<-qP.out,hvb];rfl);clear hvb qP;go_upto_region 5 with fail;obtain⟨fb,xX⟩:=zX (w1.heap.size);rw[xX];have vU:W.heap.size+1<=fb:=by omega
  have hbw:Below W.heap.size W ((w1.alloc (.cells #[.slice none 0 0] 65)).alloc (.cells #[.func (.func 69) #[] #[.pointer (some ⟨fb,0,none⟩)]] 117)):=zkb (zkb HB1.out _) _;have xZ:=zkf (heap_alloc_new w1 (.cells #[.slice none 0 0] 65)) (.cells #[.func (.func 69) #[] #[.pointer (some ⟨fb,0,none⟩)]] 117);have hbR:=heap_alloc_new (w1.alloc (.cells #[.slice none 0 0] 65)) (.cells #[.func (.func 69) #[] #[.pointer (some ⟨fb,0,none⟩)]] 117);simp only[World.size_alloc]at hbR;rw[xX]at xZ hbR;have qC:=zkf (zkf HP1.out (.cells #[.slice none 0 0] 65)) (.cells #[.func (.func 69) #[] #[.pointer (some ⟨fb,0,none⟩)]] 117);obtain⟨Wb,sZ⟩:=zX ((w1.alloc (.cells #[.slice none 0 0] 65)).alloc (.cells #[.func (.func 69) #[] #[.pointer (some ⟨fb,0,none⟩)]] 117));rw[sZ]at hbw xZ hbR qC ⊢;have iG:=zh (show Wb.heap.size=fb+2 by rw[<-sZ,<-xX];simp);have ig:=zh hbw;have HZF:=zh vU
  clear sZ xX a0 a1 a2 a3 a4 a5 HP1 HZ1 HB1 hz1;have hrep:=zxq fb fb (fb+1) W.heap.size A1 L1 c1 A2 L2 c2 k n s A3 l3 c3;obtain⟨Rd,yc⟩:∃Rd:World->Prop,(fun W':World=>W'.heap[fb+1]?=some (.cells #[.func (.func 69) #[] #[.pointer (some ⟨fb,0,none⟩)]] 117 (0,0))/\W'.heap[W.heap.size]?=some (.cells #[.slice A1 L1 c1,.slice A2 L2 c2,.int .u8 k,.int .i64 n,.string s,.slice A3 l3 c3] 43 (0,0)))=Rd:=⟨_,rfl⟩
  rw[yc]at hrep;have aY:=zh hrep;have nW:=zh (show ∀w':World,Rd w'->w'.heap[fb+1]?=some (.cells #[.func (.func 69) #[] #[.pointer (some ⟨fb,0,none⟩)]] 117 (0,0))/\w'.heap[W.heap.size]?=some (.cells #[.slice A1 L1 c1,.slice A2 L2 c2,.int .u8 k,.int .i64 n,.string s,.slice A3 l3 c3] 43 (0,0))from fun w' h=>by rw[<-yc]at h;exact h);have aZ:=zh (show ∀w':World,Rd w'->(fun w':World=>(zN6 w' W.heap.size (.slice A1 L1 c1) (.slice A2 L2 c2) (.int .u8 k) (.int .i64 n) (.string s) (.slice A3 l3 c3))/\(zv w' (fb+1) 0 (.func (.func 69) #[] #[.pointer (some ⟨fb,0,none⟩)]))) w' from fun w' h=>⟨box6 (nW.out w' h).2,zc (nW.out w' h).1 rfl⟩);have HI0:=zh (show VsI Rd fb fb Wb (.slice none 0 0) 0 Wb (.slice none 0 0)from⟨by rw[<-yc];exact⟨hbR,qC⟩,⟨xZ,⟨[],World.ownsRow_nil _ _ _ _⟩,zl,by simp[Value.ownBlock]⟩,fun b hb=>.inl hb,Chg.refl _ _⟩)
  have oh:=zh (show ∀w':World,Chg (fun b=>b=fb\/(Value.slice none 0 0).ownBlock=some b) Wb w'->∀b,S b->b<W.heap.size->w'.heap[b]?=W.heap[b]? from fun w' h b hb hlt=>(h.block b (by have:=iG.out;omega) (fun hh=>by rcases hh with hh|hh;omega;simp[Value.ownBlock]at hh)).trans (ig.out.block b hlt));have HD:=zh (show ∀w':World,Chg (fun b=>b=fb\/(Value.slice none 0 0).ownBlock=some b) Wb w'->PV w' (fun b=>S b/\b<W.heap.size) p _/\PgR w' (fun b=>S b/\b<W.heap.size) p A1 c1 A2 c2 A3 c3 from fun w' h=>⟨wU.out.keep (fun b hb hlt=>⟨hb,hlt⟩) (oh.out w' h),HR.out.keep (fun b hb hlt=>⟨hb,hlt⟩) (oh.out w' h)⟩);have hl32:L1<=32:=by have:=eF.out.1;rw[iM.out]at this;exact this
  have hl64:L2<=64:=by have:=eF.out.2.1;rw[HL2.out]at this;exact this
  have hlc1:L1<=c1:=by have:=HR.out.lvc;rw[iM.out]at this;exact this
  have oO:L2<=c2:=by have:=HR.out.lpc;rw[HL2.out]at this;exact this
  obtain⟨⟨a0,a1,a2,a3,a4,a5⟩,ar⟩:=aZ.out _ HI0.out.rd;clear hrep yc hbR qC xZ hbw;go_wp2_with fail
  go_loopw [18] (fun i wr=>∃(j:Nat) (pv':Value),j<=L1/\i=.int .i64 j/\VsI Rd fb fb Wb (.slice none 0 0) (frsN p.vs j) wr pv') (fun i _=>L1-(intOf i).toNat)
  case atStart=>exact⟨0,_,Nat.zero_le _,rfl,HI0.out⟩
  case round =>
   obtain⟨j,pv',hj,rfl,hinv⟩:=hrel;have ag:=zh hinv;clear HI0 a0 a1 a2 a3 a4 a5 ar;by_cases hlt:j<L1
   ·have iw:j<p.vs.length:=by rw[iM.out];exact hlt
    obtain⟨a,u,rfl,hsa,Hu,⟨q0,q1,q2⟩,hfu⟩:=(HD.out wr hinv.chg).2.vars.nd iw;have hjc:(j:Int)<=(c1:Int):=by omega
    have hj0:(0:Int)<=(j:Int):=by omega
    obtain⟨⟨a0,a1,a2,a3,a4,a5⟩,ar⟩:=aZ.out _ hinv.rd;clear hinv hsa hfu;go_upto_region 8 with fail;have hbk:Below wr.heap.size wr (wr.alloc (.cells #[.string u.s,.int .u8 u.k,.int .i64 u.n] 57)):=zkb zr _;have eB:=heap_alloc_new wr (.cells #[.string u.s,.int .u8 u.k,.int .i64 u.n] 57);obtain⟨wk,hwk⟩:=zX (wr.alloc (.cells #[.string u.s,.int .u8 u.k,.int .i64 u.n] 57));rw[hwk]at hbk eB ⊢;have fw:=zh (show wk.heap.size=wr.heap.size+1 by rw[<-hwk];simp);have aC:=zh hbk;have ik:=zh eB;clear hwk hbk eB a0 a1 a2 a3 a4 a5 ar q0 q1 q2;have HRW:=zh (show ∀w':World,Below wk.heap.size wk w'->Rd w' from fun w' h=>aY.out.keep _ _ _ _ ag.out.rd ag.out.fs (Chg.of_below (zka aC.out h)))
    have dJ:=zh (show ∀w':World,Below wk.heap.size wk w'->(fun w':World=>(zN6 w' W.heap.size (.slice (some a) L1 c1) (.slice A2 L2 c2) (.int .u8 k) (.int .i64 n) (.string s) (.slice A3 l3 c3)/\(zv w' (fb+1) 0 (.func (.func 69) #[] #[.pointer (some ⟨fb,0,none⟩)])))/\zN3 w' wr.heap.size (.string u.s) (.int .u8 u.k) (.int .i64 u.n)) w'/\zU w' from fun w' h=>⟨⟨aZ.out _ (HRW.out w' h),box3 ((h.block _ (by have:=fw.out;omega)).trans ik.out)⟩,trivial⟩);have hdr:=(zs wk).drew;have hSS:=dJ.out _ hdr;have hbI:=zpS;have hN:=zmu p.vs j;refine wp_region_noPanic ?_;refine zkk (fun w':World=>(zN6 w' W.heap.size (.slice (some a) L1 c1) (.slice A2 L2 c2) (.int .u8 k) (.int .i64 n) (.string s) (.slice A3 l3 c3)/\(zv w' (fb+1) 0 (.func (.func 69) #[] #[.pointer (some ⟨fb,0,none⟩)])))/\zN3 w' wr.heap.size (.string u.s) (.int .u8 u.k) (.int .i64 u.n)) zU 40 (by kernel_rfl) ?_
    refine zT 0 hSS ?_;refine zT 1 hSS ?_;refine zT 3 hSS ?_;refine zT 4 hSS ?_;refine zT 5 hSS ?_;refine zT 6 hSS ?_;refine zT 7 hSS ?_;refine zT 8 hSS ?_;refine zT 9 hSS ?_;refine zT 10 hSS ?_;refine zxV (i:=2) (j:=11) (by kernel_rfl) rfl rfl (fun K hK=>?_) (fun K hK=>?_)
    ·(try simp only[zA,zB,zC]);go_simp;have b2:=zkb hdr (.cells #[.int .i64 (j:Int)] 3);refine hK.out _ _ (dJ.out _ b2) ?_;clear hK K;(try simp only[zQ]);refine zo 11 fun K hK=>?_;refine zkd (by rfl) (.func 71) [.tmp 31,.tmp 33] _ (by rfl) 71 _ zpL (by rfl) _ (by rfl) _ (znG (zmE p.vs j (by omega) (some a) c1 u.s _ _ (HD.out _ (ag.out.chg.trans (Chg.of_below (zka aC.out b2)))).2.vars HR.out.lv)) ?_;rintro vq w3 ⟨rfl,bU⟩;have b3:=zka b2 bU;refine hK.out _ _ (dJ.out _ b3) ?_;clear hK K;(try simp only[zQ]);refine zo 12 fun K hK=>?_
     refine zk3 (by rfl) (.tmp 23) [.const (.int .i64 (-1)),.tmp 25,.tmp 27,.tmp 34] _ (by rfl) 69 _ zsl #[.pointer (some ⟨fb,0,none⟩)] (by rfl) _ (by rfl) _ (zmp (zmB fb fb _ pv' (-1) _ [(j:Int)] (some ⟨wk.heap.size,0,none⟩) 1 u.s _ _ (ag.out.fs.later (zka aC.out b3)) (((zqi _ (j:Int) ⟨by omega,by omega⟩).later zr.drew).later bU) (by simp) (by omega))) ?_;rintro vq W6 hp;obtain⟨iU,bJ⟩:=ag.out.step aY.out (zka aC.out b3) hp;have bH:VsI Rd fb fb Wb (.slice none 0 0) (frsN p.vs (j+1)) W6 iU:=by rw[zm4 iw,Hu.out];exact bJ
     have aA:zW (fun w':World=>(zN6 w' W.heap.size (.slice (some a) L1 c1) (.slice A2 L2 c2) (.int .u8 k) (.int .i64 n) (.string s) (.slice A3 l3 c3)/\(zv w' (fb+1) 0 (.func (.func 69) #[] #[.pointer (some ⟨fb,0,none⟩)])))/\zN3 w' wr.heap.size (.string u.s) (.int .u8 u.k) (.int .i64 u.n)) zU W6:=⟨⟨aZ.out _ bH.rd,box3 ((hp.2.elim fun _ h=>h.2.2.block _ (by have:=(zka aC.out b3).size;have:=(b3).size;have:=fw.out;omega) (fun hh=>by have hl:=ag.out.fs.lt;rcases hh with hh|hh;(have:=hl.1;omega);(have:=(hl.2 _ hh).2;omega))).trans (((b3).block _ (by have:=fw.out;omega)).trans ik.out))⟩,trivial⟩
     refine hK.out _ _ aA ?_;clear hK K;(try simp only[zQ]);refine zd ?_;refine NoPanic.normal ?_;have ja:=zh bH;clear bH bJ hp aA;go_wp2_with fail
     go_roundw
     case rel=>exact⟨j+1,_,by omega,by go_num,ja.out⟩
     case measure=>simp[intOf];omega
    ·skip
     refine zkd (by rfl) (.func 71) [.tmp 31,.tmp 33] _ (by rfl) 71 _ zpL (by rfl) _ (by rfl) _ (znG (zmE p.vs j (by omega) (some a) c1 u.s _ _ (HD.out _ (ag.out.chg.trans (Chg.of_below (zka aC.out hdr)))).2.vars HR.out.lv)) ?_;rintro vq w2 ⟨rfl,au⟩;have b2:=zka hdr au;refine hK.out _ _ (dJ.out _ b2) ?_;clear hK K;(try simp only[zQ]);refine zo 2 fun K hK=>?_;(try simp only[zA,zB,zC]);go_simp;have b3:=zkb b2 (.cells #[.int .i64 (j:Int)] 3);refine hK.out _ _ (dJ.out _ b3) ?_;clear hK K;(try simp only[zQ]);refine zo 12 fun K hK=>?_
     refine zk3 (by rfl) (.tmp 23) [.const (.int .i64 (-1)),.tmp 25,.tmp 27,.tmp 34] _ (by rfl) 69 _ zsl #[.pointer (some ⟨fb,0,none⟩)] (by rfl) _ (by rfl) _ (zmp (zmB fb fb _ pv' (-1) _ [(j:Int)] (some ⟨w2.heap.size,0,none⟩) 1 u.s _ _ (ag.out.fs.later (zka aC.out b3)) (zqi _ (j:Int) ⟨by omega,by omega⟩) (by simp) (by omega))) ?_;rintro vq W6 hp;obtain⟨iU,bJ⟩:=ag.out.step aY.out (zka aC.out b3) hp;have bH:VsI Rd fb fb Wb (.slice none 0 0) (frsN p.vs (j+1)) W6 iU:=by rw[zm4 iw,Hu.out];exact bJ
     have aA:zW (fun w':World=>(zN6 w' W.heap.size (.slice (some a) L1 c1) (.slice A2 L2 c2) (.int .u8 k) (.int .i64 n) (.string s) (.slice A3 l3 c3)/\(zv w' (fb+1) 0 (.func (.func 69) #[] #[.pointer (some ⟨fb,0,none⟩)])))/\zN3 w' wr.heap.size (.string u.s) (.int .u8 u.k) (.int .i64 u.n)) zU W6:=⟨⟨aZ.out _ bH.rd,box3 ((hp.2.elim fun _ h=>h.2.2.block _ (by have:=(zka aC.out b3).size;have:=(b3).size;have:=fw.out;omega) (fun hh=>by have hl:=ag.out.fs.lt;rcases hh with hh|hh;(have:=hl.1;omega);(have:=(hl.2 _ hh).2;omega))).trans (((b3).block _ (by have:=fw.out;omega)).trans ik.out))⟩,trivial⟩
     refine hK.out _ _ aA ?_;clear hK K;(try simp only[zQ]);refine zd ?_;refine NoPanic.normal ?_;have ja:=zh bH;clear bH bJ hp aA;go_wp2_with fail
     go_roundw
     case rel=>exact⟨j+1,_,by omega,by go_num,ja.out⟩
     case measure=>simp[intOf];omega
   ·obtain rfl:L1=j:=by omega
    have gZ:=zh (show VsI Rd fb fb Wb (.slice none 0 0) (frsN p.vs p.vs.length) wr pv' by rw[iM.out];exact ag.out);obtain⟨⟨a0,a1,a2,a3,a4,a5⟩,ar⟩:=aZ.out _ hinv.rd;obtain⟨F1,hF1⟩:=zX (frsN p.vs p.vs.length);have hF32:F1<=32:=by have:=zmu p.vs p.vs.length;have:=eF.out.1;omega
    have yK:=zh hF1;rw[hF1]at gZ;clear hinv ag hF1 hj hlt;go_wp2_with fail
    go_loopw [40] (fun i wr=>∃(j:Nat) (pv':Value),j<=L2/\i=.int .i64 j/\VsI Rd fb fb Wb (.slice none 0 0) (F1+prcN p.prs j) wr pv') (fun i _=>L2-(intOf i).toNat)
    case atStart=>exact⟨0,_,Nat.zero_le _,rfl,gZ.out⟩
    case round =>
     clear gZ a0 a1 a2 a3 a4 a5 ar;obtain⟨j,pv',hj,rfl,hinv⟩:=hrel;obtain⟨w0,rfl⟩:∃w0,w0=wr:=⟨_,rfl⟩
     have ag:=zh hinv;by_cases hlt:j<L2
     ·have iw:j<p.prs.length:=by rw[HL2.out];exact hlt
      obtain⟨a,r,P1,d1,P2,d2,rfl,hsa,Hr,⟨q0,q1,q2,q3,q4,q5⟩,hpr⟩:=(HD.out w0 hinv.chg).2.procs.nd iw;obtain⟨⟨a0,a1,a2,a3,a4,a5⟩,ar⟩:=aZ.out _ hinv.rd;have gX:=zh hpr;clear hinv hsa hpr;go_upto_region 13 with fail;have hbk:Below w0.heap.size w0 ((w0.alloc (.cells #[.int .i64 (j:Int)] 3)).alloc (.cells #[.string r.s,.slice P1 r.ps.length d1,.int .u8 r.b.k,.int .i64 r.b.n,.string r.b.s,.slice P2 r.b.ks.length d2] 75)):=zkb (zkb zr _) _;have sU:=zkf (heap_alloc_new w0 (.cells #[.int .i64 (j:Int)] 3)) (.cells #[.string r.s,.slice P1 r.ps.length d1,.int .u8 r.b.k,.int .i64 r.b.n,.string r.b.s,.slice P2 r.b.ks.length d2] 75);have pq:=heap_alloc_new (w0.alloc (.cells #[.int .i64 (j:Int)] 3)) (.cells #[.string r.s,.slice P1 r.ps.length d1,.int .u8 r.b.k,.int .i64 r.b.n,.string r.b.s,.slice P2 r.b.ks.length d2] 75);simp only[World.size_alloc]at pq
      obtain⟨wk,hwk⟩:=zX ((w0.alloc (.cells #[.int .i64 (j:Int)] 3)).alloc (.cells #[.string r.s,.slice P1 r.ps.length d1,.int .u8 r.b.k,.int .i64 r.b.n,.string r.b.s,.slice P2 r.b.ks.length d2] 75));rw[hwk]at hbk sU pq ⊢;have fw:=zh (show wk.heap.size=w0.heap.size+2 by rw[<-hwk];simp);have aC:=zh hbk;obtain⟨jE,pF⟩:∃jE:World->Prop,(fun W':World=>(Rd W'/\W'.heap[w0.heap.size]?=some (.cells #[.int .i64 (j:Int)] 3 (0,0)))/\W'.heap[w0.heap.size+1]?=some (.cells #[.string r.s,.slice P1 r.ps.length d1,.int .u8 r.b.k,.int .i64 r.b.n,.string r.b.s,.slice P2 r.b.ks.length d2] 75 (0,0)))=jE:=⟨_,rfl⟩
      have jF:=zh (show ∀w':World,jE w'->(fun W':World=>(Rd W'/\W'.heap[w0.heap.size]?=some (.cells #[.int .i64 (j:Int)] 3 (0,0)))/\W'.heap[w0.heap.size+1]?=some (.cells #[.string r.s,.slice P1 r.ps.length d1,.int .u8 r.b.k,.int .i64 r.b.n,.string r.b.s,.slice P2 r.b.ks.length d2] 75 (0,0))) w' from fun w' h=>by rw[<-pF]at h;exact h);have aR:=zh (show ∀(W W':World) (pv:Value) (N:Nat),jE W->FS W fb fb N pv->Chg (fun b=>b=fb\/pv.ownBlock=some b) W W'->jE W' from fun W W' pv N h hfs hc=>by rw[<-pF]at h ⊢;exact⟨⟨aY.out.keep _ _ _ _ h.1.1 hfs hc,hc.keep h.1.2 (hfs.other h.1.2 (by decide) (by decide))⟩,hc.keep h.2 (hfs.other h.2 (by decide) (by decide))⟩);have HI2:=zh (show VsI jE fb fb wk pv' (F1+prcN p.prs j) wk pv' from⟨by rw[<-pF];exact⟨⟨aY.out.keep _ _ _ _ ag.out.rd ag.out.fs (Chg.of_below hbk),sU⟩,pq⟩,ag.out.fs.later hbk,fun b hb=>.inl hb,Chg.refl _ _⟩)
      have eU:=zh (show ∀w':World,jE w'->(fun w':World=>(zN6 w' W.heap.size (.slice A1 L1 c1) (.slice (some a) L2 c2) (.int .u8 k) (.int .i64 n) (.string s) (.slice A3 l3 c3)/\(zv w' (fb+1) 0 (.func (.func 69) #[] #[.pointer (some ⟨fb,0,none⟩)])))/\(zv w' w0.heap.size 0 (.int .i64 (j:Int)))/\zN6 w' (w0.heap.size+1) (.string r.s) (.slice P1 r.ps.length d1) (.int .u8 r.b.k) (.int .i64 r.b.n) (.string r.b.s) (.slice P2 r.b.ks.length d2)) w' from fun w' h=>⟨aZ.out w' (jF.out w' h).1.1,zc (jF.out w' h).1.2 rfl,box6 (jF.out w' h).2⟩)
      have HD2:=zh (show ∀w':World,Chg (fun b=>b=fb\/pv'.ownBlock=some b) wk w'->PV w' (fun b=>S b/\b<W.heap.size) p _/\PrR w' (fun b=>S b/\b<W.heap.size) r P1 d1 P2 d2 from fun w' h=>⟨(HD.out w' (ag.out.chg2 aC.out h)).1,gX.out.keep (fun b hb _=>hb) fun b hb _=>(oh.out w' (ag.out.chg2 aC.out h) b hb.1 hb.2).trans (oh.out w0 ag.out.chg b hb.1 hb.2).symm⟩)
      have dJ:=zh (show ∀w':World,Below wk.heap.size wk w'->(fun w':World=>(zN6 w' W.heap.size (.slice A1 L1 c1) (.slice (some a) L2 c2) (.int .u8 k) (.int .i64 n) (.string s) (.slice A3 l3 c3)/\(zv w' (fb+1) 0 (.func (.func 69) #[] #[.pointer (some ⟨fb,0,none⟩)])))/\(zv w' w0.heap.size 0 (.int .i64 (j:Int)))/\zN6 w' (w0.heap.size+1) (.string r.s) (.slice P1 r.ps.length d1) (.int .u8 r.b.k) (.int .i64 r.b.n) (.string r.b.s) (.slice P2 r.b.ks.length d2)) w'/\zU w' from fun w' h=>⟨eU.out w' (aR.out _ _ _ _ HI2.out.rd HI2.out.fs (Chg.of_below h)),trivial⟩);clear hwk hbk sU pq pF a0 a1 a2 a3 a4 a5 ar q0 q1 q2 q3 q4 q5;have hdr:=(zs wk).drew;have hSS:=dJ.out _ hdr;have hrb:=eF.out.2.2.1 r (by rw[<-Hr.out];exact List.getElem_mem iw);have hpN:=zrb p.prs eF.out.2.2.1 j;obtain⟨rb1,rb2,rb3⟩:=hrb;refine wp_region_noPanic ?_
      refine zkk (fun w':World=>(zN6 w' W.heap.size (.slice A1 L1 c1) (.slice (some a) L2 c2) (.int .u8 k) (.int .i64 n) (.string s) (.slice A3 l3 c3)/\(zv w' (fb+1) 0 (.func (.func 69) #[] #[.pointer (some ⟨fb,0,none⟩)])))/\(zv w' w0.heap.size 0 (.int .i64 (j:Int)))/\zN6 w' (w0.heap.size+1) (.string r.s) (.slice P1 r.ps.length d1) (.int .u8 r.b.k) (.int .i64 r.b.n) (.string r.b.s) (.slice P2 r.b.ks.length d2)) zU 40 (by kernel_rfl) ?_;refine zT 0 hSS ?_;refine zT 1 hSS ?_;refine zT 2 hSS ?_;refine zT 4 hSS ?_;refine zo 3 fun K hK=>?_;refine zkd (by rfl) (.func 72) [.tmp 45,.tmp 47] _ (by rfl) 72 _ zyA (by rfl) _ (by rfl) _ (znG (znf p _ _ r.s _ (HD2.out _ (Chg.of_below hdr)).1)) ?_;rintro vq w2 ⟨rfl,au⟩;have b2:=zka hdr au;have aM:=dJ.out _ b2;obtain⟨PE,zZ⟩:=zX (zlD p.prs r.s);rw[zZ];have HPE:=zh zZ;refine hK.out _ _ aM ?_;clear hK K hSS zZ
      (try simp only[zQ]);have uF:=zh (show VsI jE fb fb wk pv' (F1+prcN p.prs j) w2 pv' from⟨aR.out _ _ _ _ HI2.out.rd HI2.out.fs (Chg.of_below b2),HI2.out.fs.later b2,fun b hb=>.inl hb,Chg.of_below b2⟩);by_cases hpe:PE<(j:Int)
      ·have hd:decide (PE<(j:Int))=true:=decide_eq_true hpe;obtain⟨E1,hE1⟩:=zX (one1 (22));have hE2:E1<=1:=by rw[<-hE1];exact zmP _
       have jY:=zh (show one1 (if zlD p.prs r.s<(j:Int)then 22 else 0)=E1 by rw[HPE.out,if_pos hpe];exact hE1);refine zT 5 aM ?_;refine zd ?_;refine NoPanic.normal ?_;obtain⟨⟨⟨a0,a1,a2,a3,a4,a5⟩,ar⟩,ai,r0,r1,r2,r3,r4,r5⟩:=aM.1;clear aM;go_wp2_with fail;refine(zmC fb fb _ pv' (j:Int) 22 [] none 0 r.s Any w2 uF.out.fs RowI.nil (by simp) (by omega)).mono ?_;rintro e w3 hp;obtain⟨v3,rfl⟩:=hp.1;obtain⟨pv3,hi3⟩:=uF.out.stepK aR.out zr hp;rw[hE1]at hi3;have HI3:=zh hi3;clear hp a0 a1 a2 a3 a4 a5 ar ai r0 r1 r2 r3 r4 r5;obtain⟨⟨⟨a0,a1,a2,a3,a4,a5⟩,ar⟩,ai,r0,r1,r2,r3,r4,r5⟩:=eU.out _ hi3.rd;clear hi3 hE1;go_wp2_with fail
       go_loopw [59] (fun x w'=>∃(i:Nat) (lU:Value),i<=r.ps.length/\x=.int .i64 i/\VsI jE fb fb wk pv' (F1+prcN p.prs j+E1+frsN r.ps i) w' lU) (fun x _=>r.ps.length-(intOf x).toNat)
       case atStart=>exact⟨0,_,Nat.zero_le _,rfl,HI3.out⟩
       case round =>
        clear HI3 a0 a1 a2 a3 a4 a5 ar ai r0 r1 r2 r3 r4 r5;obtain⟨i,lU,hi,rfl,hinv⟩:=hrel;have bL:=zh hinv;by_cases wz:i<r.ps.length
        ·obtain⟨a',u,rfl,hsa,Hu,⟨q0,q1,q2⟩,hfu⟩:=(HD2.out wr hinv.chg).2.row.nd wz;have hic:(i:Int)<=(d1:Int):=by have:=gX.out.lc;omega
         have hi0:(0:Int)<=(i:Int):=by omega
         obtain⟨⟨⟨a0,a1,a2,a3,a4,a5⟩,ar⟩,ai,r0,r1,r2,r3,r4,r5⟩:=eU.out _ hinv.rd;clear hinv hsa hfu;go_upto_region 18 with fail;have hbk:Below wr.heap.size wr (wr.alloc (.cells #[.string u.s,.int .u8 u.k,.int .i64 u.n] 57)):=zkb zr _;have eB:=heap_alloc_new wr (.cells #[.string u.s,.int .u8 u.k,.int .i64 u.n] 57);obtain⟨wv,hwv⟩:=zX (wr.alloc (.cells #[.string u.s,.int .u8 u.k,.int .i64 u.n] 57));rw[hwv]at hbk eB ⊢;have tQ:=zh (show wv.heap.size=wr.heap.size+1 by rw[<-hwv];simp);have nK:=zh hbk;have ik:=zh eB;clear hwv hbk eB a0 a1 a2 a3 a4 a5 ar ai r0 r1 r2 r3 r4 r5 q0 q1 q2
         have qo:=zh (show ∀w':World,Below wv.heap.size wv w'->(fun w':World=>(fun w':World=>(zN6 w' W.heap.size (.slice A1 L1 c1) (.slice (some a) L2 c2) (.int .u8 k) (.int .i64 n) (.string s) (.slice A3 l3 c3)/\(zv w' (fb+1) 0 (.func (.func 69) #[] #[.pointer (some ⟨fb,0,none⟩)])))/\(zv w' w0.heap.size 0 (.int .i64 (j:Int)))/\zN6 w' (w0.heap.size+1) (.string r.s) (.slice (some a') r.ps.length d1) (.int .u8 r.b.k) (.int .i64 r.b.n) (.string r.b.s) (.slice P2 r.b.ks.length d2)) w'/\zN3 w' wr.heap.size (.string u.s) (.int .u8 u.k) (.int .i64 u.n)) w'/\zU w' from fun w' h=>⟨⟨eU.out _ (aR.out _ _ _ _ bL.out.rd bL.out.fs (Chg.of_below (zka nK.out h))),box3 ((h.block _ (by have:=tQ.out;omega)).trans ik.out)⟩,trivial⟩);have hdv:=(zs wv).drew;have hSS:=qo.out _ hdv;have zw:=zmu r.ps i;refine wp_region_noPanic ?_
         refine zkk (fun w':World=>(fun w':World=>(zN6 w' W.heap.size (.slice A1 L1 c1) (.slice (some a) L2 c2) (.int .u8 k) (.int .i64 n) (.string s) (.slice A3 l3 c3)/\(zv w' (fb+1) 0 (.func (.func 69) #[] #[.pointer (some ⟨fb,0,none⟩)])))/\(zv w' w0.heap.size 0 (.int .i64 (j:Int)))/\zN6 w' (w0.heap.size+1) (.string r.s) (.slice (some a') r.ps.length d1) (.int .u8 r.b.k) (.int .i64 r.b.n) (.string r.b.s) (.slice P2 r.b.ks.length d2)) w'/\zN3 w' wr.heap.size (.string u.s) (.int .u8 u.k) (.int .i64 u.n)) zU 40 (by kernel_rfl) ?_;refine zT 0 hSS ?_;refine zT 1 hSS ?_;refine zT 2 hSS ?_;refine zT 3 hSS ?_;refine zT 4 hSS ?_;refine zT 5 hSS ?_;refine zT 6 hSS ?_;refine zT 7 hSS ?_;refine zT 8 hSS ?_;refine zT 9 hSS ?_;refine zo 10 fun K hK=>?_
         refine zkd (by rfl) (.func 71) [.tmp 71,.tmp 73] _ (by rfl) 71 _ zpL (by rfl) _ (by rfl) _ (znG (zmE r.ps i (by omega) (some a') d1 u.s _ _ (HD2.out _ (bL.out.chg.trans (Chg.of_below (zka nK.out hdv)))).2.row gX.out.lp)) ?_;rintro vq w5 ⟨rfl,fJ⟩;have b5:=zka hdv fJ;refine hK.out _ _ (qo.out _ b5) ?_;clear hK K hSS;(try simp only[zQ]);refine zo 11 fun K hK=>?_;refine zk3 (by rfl) (.tmp 64) [.tmp 65,.const (.slice none 0 0),.tmp 67,.tmp 74] _ (by rfl) 69 _ zsl #[.pointer (some ⟨fb,0,none⟩)] (by rfl) _ (by rfl) _ (zmp (zmB fb fb _ lU (j:Int) _ [] none 0 u.s Any _ (bL.out.fs.later (zka nK.out b5)) RowI.nil (by simp) (by omega))) ?_;rintro vq W6 hp;obtain⟨iU,bJ⟩:=bL.out.stepK aR.out (zka nK.out b5) hp
         have bH:VsI jE fb fb wk pv' (F1+prcN p.prs j+E1+frsN r.ps (i+1)) W6 iU:=by rw[zm4 wz,Hu.out,<-Nat.add_assoc];exact bJ
         have aA:zW (fun w':World=>(fun w':World=>(zN6 w' W.heap.size (.slice A1 L1 c1) (.slice (some a) L2 c2) (.int .u8 k) (.int .i64 n) (.string s) (.slice A3 l3 c3)/\(zv w' (fb+1) 0 (.func (.func 69) #[] #[.pointer (some ⟨fb,0,none⟩)])))/\(zv w' w0.heap.size 0 (.int .i64 (j:Int)))/\zN6 w' (w0.heap.size+1) (.string r.s) (.slice (some a') r.ps.length d1) (.int .u8 r.b.k) (.int .i64 r.b.n) (.string r.b.s) (.slice P2 r.b.ks.length d2)) w'/\zN3 w' wr.heap.size (.string u.s) (.int .u8 u.k) (.int .i64 u.n)) zU W6:=⟨⟨eU.out _ bH.rd,box3 ((hp.2.elim fun _ h=>h.2.2.block _ (by have:=(zka nK.out b5).size;have:=b5.size;have:=tQ.out;omega) (fun hh=>by have hl:=bL.out.fs.lt;rcases hh with hh|hh;(have:=hl.1;omega);(have:=(hl.2 _ hh).2;omega))).trans ((b5.block _ (by have:=tQ.out;omega)).trans ik.out))⟩,trivial⟩
         refine hK.out _ _ aA ?_;clear hK K;(try simp only[zQ]);refine zd ?_;refine NoPanic.normal ?_;have ja:=zh bH;clear bH bJ hp aA;go_wp2_with fail
         go_roundw
         case rel=>exact⟨i+1,_,by omega,by go_num,ja.out⟩
         case measure=>simp[intOf];omega
        ·have hil:i=r.ps.length:=by omega
         obtain⟨⟨⟨a0,a1,a2,a3,a4,a5⟩,ar⟩,ai,r0,r1,r2,r3,r4,r5⟩:=eU.out _ hinv.rd;have hge:¬ ((i:Int)<(r.ps.length:Int)):=by omega
         clear hinv;go_wp2_with fail;have zw:=zmu r.ps r.ps.length;have aJ:=zh (show VsI jE fb fb wk pv' (F1+prcN p.prs j+E1+frsN r.ps r.ps.length) wr lU by rw[<-hil];exact bL.out);have xM:=bL.out.chg.size;have hzk:=fw.out;have hz0:=ag.out.chg.size;have hzb:=iG.out;refine(zno 74 _ _ fb fb (zsw fb fb (fb+1) w0.heap.size (j:Int)) p r.b (fun b=>S b/\b<W.heap.size) r.ps P1 d1 [] none 0 (F1+prcN p.prs j+E1+frsN r.ps r.ps.length) lU wr _ _ ⟨(nW.out _ (jF.out _ aJ.out.rd).1.1).1,(jF.out _ aJ.out.rd).1.2⟩ aJ.out.fs (HD2.out _ aJ.out.chg).1 (HD2.out _ aJ.out.chg).2.body (HD2.out _ aJ.out.chg).2.row gX.out.lc RowI.nil (Nat.zero_le _) (fun b hb hbl hh=>?_) (by simp;omega) (by omega) (by omega)).mono ?_
         ·rcases hh with hh|hh
          ·have:=hb.2;omega
          ·rcases aJ.out.own b hh with h1|h1
           ·have:=(ag.out.fs.lt.2 b h1).1;have:=hb.2;omega
           ·have:=hb.2;omega
         rintro e W6 hp;obtain⟨v6,rfl⟩:=hp.1;obtain⟨iU,bJ⟩:=aJ.out.stepK aR.out zr hp;obtain⟨yQ,bH⟩:=ag.out.step aY.out aC.out (bJ.rep zr (e:=.returned undef) ⟨_,rfl⟩);have BH:=zh (show VsI Rd fb fb Wb (.slice none 0 0) (F1+prcN p.prs (j+1)) W6 yQ by rw[zob iw,Hr.out,prcE,jY.out];simpa only[Nat.add_assoc]using bH);clear bH bJ hp a0 a1 a2 a3 a4 a5 ar ai r0 r1 r2 r3 r4 r5;go_wp2_with fail
         go_roundw
         case rel=>exact⟨j+1,_,by omega,by go_num,BH.out⟩
         case measure=>simp[intOf];omega
      ·have hd:decide (PE<(j:Int))=false:=decide_eq_false hpe;obtain⟨E1,hE1⟩:=zX (one1 (0));have hE2:E1<=1:=by rw[<-hE1];exact zmP _
       have jY:=zh (show one1 (if zlD p.prs r.s<(j:Int)then 22 else 0)=E1 by rw[HPE.out,if_neg hpe];exact hE1);refine zT 5 aM ?_;refine zd ?_;refine NoPanic.normal ?_;obtain⟨⟨⟨a0,a1,a2,a3,a4,a5⟩,ar⟩,ai,r0,r1,r2,r3,r4,r5⟩:=aM.1;clear aM;go_wp2_with fail;have HI3:=zh (show VsI jE fb fb wk pv' (F1+prcN p.prs j+E1) w2 pv' by rw[<-hE1];exact uF.out);clear hE1
       go_loopw [59] (fun x w'=>∃(i:Nat) (lU:Value),i<=r.ps.length/\x=.int .i64 i/\VsI jE fb fb wk pv' (F1+prcN p.prs j+E1+frsN r.ps i) w' lU) (fun x _=>r.ps.length-(intOf x).toNat)
       case atStart=>exact⟨0,_,Nat.zero_le _,rfl,HI3.out⟩
       case round =>
        clear HI3 a0 a1 a2 a3 a4 a5 ar ai r0 r1 r2 r3 r4 r5;obtain⟨i,lU,hi,rfl,hinv⟩:=hrel;have bL:=zh hinv;by_cases wz:i<r.ps.length
        ·obtain⟨a',u,rfl,hsa,Hu,⟨q0,q1,q2⟩,hfu⟩:=(HD2.out wr hinv.chg).2.row.nd wz;have hic:(i:Int)<=(d1:Int):=by have:=gX.out.lc;omega
         have hi0:(0:Int)<=(i:Int):=by omega
         obtain⟨⟨⟨a0,a1,a2,a3,a4,a5⟩,ar⟩,ai,r0,r1,r2,r3,r4,r5⟩:=eU.out _ hinv.rd;clear hinv hsa hfu;go_upto_region 18 with fail;have hbk:Below wr.heap.size wr (wr.alloc (.cells #[.string u.s,.int .u8 u.k,.int .i64 u.n] 57)):=zkb zr _;have eB:=heap_alloc_new wr (.cells #[.string u.s,.int .u8 u.k,.int .i64 u.n] 57);obtain⟨wv,hwv⟩:=zX (wr.alloc (.cells #[.string u.s,.int .u8 u.k,.int .i64 u.n] 57));rw[hwv]at hbk eB ⊢;have tQ:=zh (show wv.heap.size=wr.heap.size+1 by rw[<-hwv];simp);have nK:=zh hbk;have ik:=zh eB;clear hwv hbk eB a0 a1 a2 a3 a4 a5 ar ai r0 r1 r2 r3 r4 r5 q0 q1 q2
         have qo:=zh (show ∀w':World,Below wv.heap.size wv w'->(fun w':World=>(fun w':World=>(zN6 w' W.heap.size (.slice A1 L1 c1) (.slice (some a) L2 c2) (.int .u8 k) (.int .i64 n) (.string s) (.slice A3 l3 c3)/\(zv w' (fb+1) 0 (.func (.func 69) #[] #[.pointer (some ⟨fb,0,none⟩)])))/\(zv w' w0.heap.size 0 (.int .i64 (j:Int)))/\zN6 w' (w0.heap.size+1) (.string r.s) (.slice (some a') r.ps.length d1) (.int .u8 r.b.k) (.int .i64 r.b.n) (.string r.b.s) (.slice P2 r.b.ks.length d2)) w'/\zN3 w' wr.heap.size (.string u.s) (.int .u8 u.k) (.int .i64 u.n)) w'/\zU w' from fun w' h=>⟨⟨eU.out _ (aR.out _ _ _ _ bL.out.rd bL.out.fs (Chg.of_below (zka nK.out h))),box3 ((h.block _ (by have:=tQ.out;omega)).trans ik.out)⟩,trivial⟩);have hdv:=(zs wv).drew;have hSS:=qo.out _ hdv;have zw:=zmu r.ps i;refine wp_region_noPanic ?_
         refine zkk (fun w':World=>(fun w':World=>(zN6 w' W.heap.size (.slice A1 L1 c1) (.slice (some a) L2 c2) (.int .u8 k) (.int .i64 n) (.string s) (.slice A3 l3 c3)/\(zv w' (fb+1) 0 (.func (.func 69) #[] #[.pointer (some ⟨fb,0,none⟩)])))/\(zv w' w0.heap.size 0 (.int .i64 (j:Int)))/\zN6 w' (w0.heap.size+1) (.string r.s) (.slice (some a') r.ps.length d1) (.int .u8 r.b.k) (.int .i64 r.b.n) (.string r.b.s) (.slice P2 r.b.ks.length d2)) w'/\zN3 w' wr.heap.size (.string u.s) (.int .u8 u.k) (.int .i64 u.n)) zU 40 (by kernel_rfl) ?_;refine zT 0 hSS ?_;refine zT 1 hSS ?_;refine zT 2 hSS ?_;refine zT 3 hSS ?_;refine zT 4 hSS ?_;refine zT 5 hSS ?_;refine zT 6 hSS ?_;refine zT 7 hSS ?_;refine zT 8 hSS ?_;refine zT 9 hSS ?_;refine zo 10 fun K hK=>?_
         refine zkd (by rfl) (.func 71) [.tmp 71,.tmp 73] _ (by rfl) 71 _ zpL (by rfl) _ (by rfl) _ (znG (zmE r.ps i (by omega) (some a') d1 u.s _ _ (HD2.out _ (bL.out.chg.trans (Chg.of_below (zka nK.out hdv)))).2.row gX.out.lp)) ?_;rintro vq w5 ⟨rfl,fJ⟩;have b5:=zka hdv fJ;refine hK.out _ _ (qo.out _ b5) ?_;clear hK K hSS;(try simp only[zQ]);refine zo 11 fun K hK=>?_;refine zk3 (by rfl) (.tmp 64) [.tmp 65,.const (.slice none 0 0),.tmp 67,.tmp 74] _ (by rfl) 69 _ zsl #[.pointer (some ⟨fb,0,none⟩)] (by rfl) _ (by rfl) _ (zmp (zmB fb fb _ lU (j:Int) _ [] none 0 u.s Any _ (bL.out.fs.later (zka nK.out b5)) RowI.nil (by simp) (by omega))) ?_;rintro vq W6 hp;obtain⟨iU,bJ⟩:=bL.out.stepK aR.out (zka nK.out b5) hp
         have bH:VsI jE fb fb wk pv' (F1+prcN p.prs j+E1+frsN r.ps (i+1)) W6 iU:=by rw[zm4 wz,Hu.out,<-Nat.add_assoc];exact bJ
         have aA:zW (fun w':World=>(fun w':World=>(zN6 w' W.heap.size (.slice A1 L1 c1) (.slice (some a) L2 c2) (.int .u8 k) (.int .i64 n) (.string s) (.slice A3 l3 c3)/\(zv w' (fb+1) 0 (.func (.func 69) #[] #[.pointer (some ⟨fb,0,none⟩)])))/\(zv w' w0.heap.size 0 (.int .i64 (j:Int)))/\zN6 w' (w0.heap.size+1) (.string r.s) (.slice (some a') r.ps.length d1) (.int .u8 r.b.k) (.int .i64 r.b.n) (.string r.b.s) (.slice P2 r.b.ks.length d2)) w'/\zN3 w' wr.heap.size (.string u.s) (.int .u8 u.k) (.int .i64 u.n)) zU W6:=⟨⟨eU.out _ bH.rd,box3 ((hp.2.elim fun _ h=>h.2.2.block _ (by have:=(zka nK.out b5).size;have:=b5.size;have:=tQ.out;omega) (fun hh=>by have hl:=bL.out.fs.lt;rcases hh with hh|hh;(have:=hl.1;omega);(have:=(hl.2 _ hh).2;omega))).trans ((b5.block _ (by have:=tQ.out;omega)).trans ik.out))⟩,trivial⟩
         refine hK.out _ _ aA ?_;clear hK K;(try simp only[zQ]);refine zd ?_;refine NoPanic.normal ?_;have ja:=zh bH;clear bH bJ hp aA;go_wp2_with fail
         go_roundw
         case rel=>exact⟨i+1,_,by omega,by go_num,ja.out⟩
         case measure=>simp[intOf];omega
        ·have hil:i=r.ps.length:=by omega
         obtain⟨⟨⟨a0,a1,a2,a3,a4,a5⟩,ar⟩,ai,r0,r1,r2,r3,r4,r5⟩:=eU.out _ hinv.rd;have hge:¬ ((i:Int)<(r.ps.length:Int)):=by omega
         clear hinv;go_wp2_with fail;have zw:=zmu r.ps r.ps.length;have aJ:=zh (show VsI jE fb fb wk pv' (F1+prcN p.prs j+E1+frsN r.ps r.ps.length) wr lU by rw[<-hil];exact bL.out);have xM:=bL.out.chg.size;have hzk:=fw.out;have hz0:=ag.out.chg.size;have hzb:=iG.out;refine(zno 74 _ _ fb fb (zsw fb fb (fb+1) w0.heap.size (j:Int)) p r.b (fun b=>S b/\b<W.heap.size) r.ps P1 d1 [] none 0 (F1+prcN p.prs j+E1+frsN r.ps r.ps.length) lU wr _ _ ⟨(nW.out _ (jF.out _ aJ.out.rd).1.1).1,(jF.out _ aJ.out.rd).1.2⟩ aJ.out.fs (HD2.out _ aJ.out.chg).1 (HD2.out _ aJ.out.chg).2.body (HD2.out _ aJ.out.chg).2.row gX.out.lc RowI.nil (Nat.zero_le _) (fun b hb hbl hh=>?_) (by simp;omega) (by omega) (by omega)).mono ?_
         ·rcases hh with hh|hh
          ·have:=hb.2;omega
          ·rcases aJ.out.own b hh with h1|h1
           ·have:=(ag.out.fs.lt.2 b h1).1;have:=hb.2;omega
           ·have:=hb.2;omega
         rintro e W6 hp;obtain⟨v6,rfl⟩:=hp.1;obtain⟨iU,bJ⟩:=aJ.out.stepK aR.out zr hp;obtain⟨yQ,bH⟩:=ag.out.step aY.out aC.out (bJ.rep zr (e:=.returned undef) ⟨_,rfl⟩);have BH:=zh (show VsI Rd fb fb Wb (.slice none 0 0) (F1+prcN p.prs (j+1)) W6 yQ by rw[zob iw,Hr.out,prcE,jY.out];simpa only[Nat.add_assoc]using bH);clear bH bJ hp a0 a1 a2 a3 a4 a5 ar ai r0 r1 r2 r3 r4 r5;go_wp2_with fail
         go_roundw
         case rel=>exact⟨j+1,_,by omega,by go_num,BH.out⟩
         case measure=>simp[intOf];omega
     ·have hjl:j=L2:=by omega
      obtain⟨⟨a0,a1,a2,a3,a4,a5⟩,ar⟩:=aZ.out _ hinv.rd;have hge:¬ ((j:Int)<(L2:Int)):=by omega
      have bQ:=zh (show VsI Rd fb fb Wb (.slice none 0 0) (F1+prcN p.prs p.prs.length) w0 pv' by rw[HL2.out,<-hjl];exact ag.out);clear hinv;go_wp2_with fail;have hpN:=zrb p.prs eF.out.2.2.1 p.prs.length;have hvb:=eF.out;have xM:=ag.out.chg.size;have hzb:=iG.out;have uT:=(HD.out _ bQ.out.chg).2.main;rw[vJ.out.1,vJ.out.2.1,vJ.out.2.2.1,vJ.out.2.2.2]at uT;have hcall:=zno _ _ Rd fb fb aY.out p p.m (fun b=>S b/\b<W.heap.size) p.vs A1 c1 [] none 0 (F1+prcN p.prs p.prs.length) pv' w0 _ _ bQ.out.rd bQ.out.fs (HD.out _ bQ.out.chg).1 uT (HD.out _ bQ.out.chg).2.vars HR.out.lvc RowI.nil (Nat.zero_le _) (fun b hb hbl hh=>by rcases hh with hh|hh;(have:=hb.2;omega);(rcases bQ.out.own b hh with h1|h1;(simp[Value.ownBlock]at h1);(have:=hb.2;omega))) (by simp;omega) (by omega) (by omega);rw[iM.out]at hcall;refine hcall.mono ?_;clear hcall;rintro e W6 hp
      obtain⟨v6,rfl⟩:=hp.1;obtain⟨iU,bJ⟩:=bQ.out.step aY.out zr hp;rw[show F1+prcN p.prs p.prs.length+cntV p.prs p.m p.vs=NN by rw[<-HNN2.out,chkN,yK.out]]at bJ;obtain⟨A6,c6,rfl⟩:=bJ.fs.slice;have hf6:W6.cell? ⟨fb,0,none⟩=some (.slice A6 NN c6):=zc bJ.fs.box rfl;have yM:=zh (show Below W.heap.size W W6 from ig.out.trans (bJ.chg.below (by omega) (fun b hb=>by rcases hb with hb|hb;omega;simp[Value.ownBlock]at hb)));clear bJ hp uT hvb a0 a1 a2 a3 a4 a5 ar;go_wp2_with fail;go_ret;exact⟨A6,c6,rfl,yM.out⟩
attribute [local go_sem] Oper.semAt_some
mutual
/-- How many nodes are left of a budget. -/
def szR:T->Int->Int
 | .nd _ _ _ ks,l=>szRs ks (l-1)
def szRs:List T->Int->Int
 | [],l=>l
 | t::ts,l=>if l<0 then l else szRs ts (szR t l)
end
theorem zrM:∀(m:Nat) (t:T) (l:Int),size t<=m->0<=l -> -1<=szR t l/\szR t l<=l
 | 0,.nd k n s ks,l,h,_=>by rw[size]at h;omega
 | m+1,.nd k n s ks,l,h,h0=>by
  rw[szR];rw[size]at h;have key:∀(us:List T) (l:Int),zkV us<=m -> -1<=l -> -1<=szRs us l/\szRs us l<=l:=by
   intro us
   induction us with
   | nil=>intro l _ h1;rw[szRs];exact⟨h1,Int.le_refl _⟩
   | cons u us ih =>
    intro l hs h1;rw[zkV]at hs;rw[szRs]
    split
    ·exact⟨h1,Int.le_refl _⟩
    ·have h2:=zrM m u l (by omega) (by omega);have h3:=ih (szR u l) (by omega) h2.1;exact⟨h3.1,by omega⟩
  have:=key ks (l-1) (by omega) (by omega);exact⟨this.1,by omega⟩
theorem zrL:∀(ts:List T) (l:Int),-1<=l->0<=szRs ts l->(ts.length:Int)<=l
 | [],l,_,h=>by rw[szRs]at h;simpa using h
 | t::ts,l,h0,h=>by
  rw[szRs]at h
  split at h
  ·omega
  ·rename_i hl;obtain⟨k,n,s,ks⟩:=t;have h1 : -1<=szR (.nd k n s ks) l/\szR (.nd k n s ks) l<=l-1:=by
    rw[szR];have h2:=zrM _ (.nd k n s ks) l zl (by omega);rw[szR]at h2;refine⟨h2.1,?_⟩;rcases Int.lt_or_le (l-1) 0 with h3|h3
    ·cases ks with
     | nil=>rw[szRs];exact Int.le_refl _
     | cons u us=>rw[szRs,if_pos h3];exact Int.le_refl _
    ·have key:∀(us:List T) (l:Int),-1<=l -> -1<=szRs us l/\szRs us l<=l:=by
      intro us
      induction us with
      | nil=>intro l h1;rw[szRs];exact⟨h1,Int.le_refl _⟩
      | cons u us ih =>
       intro l h1;rw[szRs]
       split
       ·exact⟨h1,Int.le_refl _⟩
       ·have h2:=zrM _ u l zl (by omega);have h3:=ih (szR u l) h2.1;exact⟨h3.1,by omega⟩
     exact(key ks (l-1) (by omega)).2
   have:=zrL ts _ h1.1 h;simp only[List.length_cons];omega
theorem zx2{t:T}(h:0<=szR t 100):t.ks.length<=100:=by
 obtain⟨k,n,s,ks⟩:=t;rw[szR]at h;have:=zrL ks 99 (by decide) h
 show ks.length<=100
 omega
theorem zoU:∀(t:T) (v:Value) (l:Int) (w:World),NV w Any t v->0<=l->l<=1000->Calls Tryz.prog 96 #[v,.int .i64 l] w fun e w'=>e=.returned (.int .i64 (szR t l))/\Below w.heap.size w w':=by
 intro t
 induction t using T.ind with
 | _ k n s ks ih =>
  intro v l w hv h0 h1;obtain⟨A,c,rfl,hf,hlk,hlc,hrow⟩:=hv.open_;have IH:=zh ih;have ae:=zh hrow;have hw1:IntKind.i64.wrap (l-1)=l-1:=IntWalk.i64_in _ (by omega);have hb1:=zkb (zs w) (.cells #[.int .u8 k,.int .i64 n,.string s,.slice A ks.length c] 41);have k1:=heap_alloc_new w (.cells #[.int .u8 k,.int .i64 n,.string s,.slice A ks.length c] 41);obtain⟨w1,hw⟩:=zX (w.alloc (.cells #[.int .u8 k,.int .i64 n,.string s,.slice A ks.length c] 41));obtain⟨r,hr⟩:=zX (szR (.nd k n s ks) l);have HR:=zh (show szRs (ks.drop 0) (l-1)=r by rw[<-hr,szR,List.drop_zero]);rw[hr];rw[hw]at hb1 k1;have HB1:=zh hb1;have az:=zh k1;simp only[T.k_nd,T.n_nd,T.s_nd,T.ks_nd]at hlk hlc ⊢;have hlk2:ks.length<=17592186044416:=by unfold LK at hlk;omega
  clear hv hf hlk hrow ih hr hb1 k1;go_enter Tryz.func96,Tryz.ntmps96;go_wp2_with fail;clear hw
  go_loopw [5,1] (fun i q wr=>∃(j:Nat) (x:Int),j<=ks.length/\i=.int .i64 j/\q=.int .i64 x /\ -1<=x/\x<=1000/\Hid (Below w1.heap.size w1 wr)/\Hid (szRs (ks.drop j) x=r)) (fun i _ _=>ks.length-(intOf i).toNat)
  case atStart=>exact⟨0,l-1,Nat.zero_le _,rfl,rfl,by omega,by omega,zh zr,HR⟩
  case round =>
   obtain⟨j,x,hj,rfl,rfl,hx1,hx2,af,HJ⟩:=hrel;have hk:=zkc az.out af.out;have z3:wr.cell? ⟨w.heap.size,3,none⟩=some (.slice A ks.length c):=zc hk rfl;by_cases hlt:j<ks.length
   ·have hj1:(j:Int)<(ks.length:Int):=by omega
    have hj0:(0:Int)<=(j:Int):=by omega
    by_cases hx:0<=x
    ·have hbb:=zka HB1.out af.out;obtain⟨a,u,Au,cu,rfl,-,Hu,⟨p0,p1,p2,p3⟩,hn⟩:=ae.out.nd hlt;have q0:=zb hbb p0;have q1:=zb hbb p1;have q2:=zb hbb p2;have q3:=zb hbb p3;have HS:=zh (IH.out u (by rw[<-Hu.out];exact List.getElem_mem hlt) _ x wr (hn.later hbb) hx hx2);have HJ2:=zh (show szRs (ks.drop (j+1)) (szR u x)=r by
      have h5:=HJ.out;rw[List.drop_eq_getElem_cons hlt]at h5;rw[szRs,if_neg (by omega)]at h5;rw[<-h5];have:=Hu.out;simp only[T.ks_nd]at this;rw[this])
     have HL:=zh (zrM _ u x zl hx);clear p0 p1 p2 p3 hn hbb HJ hk;go_wp2_with fail;refine HS.out.mono ?_;rintro e w2 ⟨rfl,hb2⟩;have HB2:=zh (zka af.out hb2);obtain⟨y,hy⟩:=zX (szR u x);rw[hy]at HJ2 HL ⊢;clear hb2 HS q0 q1 q2 q3 z3 hy;go_wp2_with fail
     go_roundw
     case rel=>exact⟨j+1,y,by omega,by go_num,rfl,HL.out.1,by have:=HL.out.2;omega,HB2,HJ2⟩
     case measure=>simp[intOf];omega
    ·have hx':¬ (0:Int)<=x:=hx;have HJ2:=zh (show x=r by
      have h5:=HJ.out;rw[List.drop_eq_getElem_cons hlt,szRs,if_pos (by omega)]at h5;exact h5)
     clear HJ hk;go_wp2_with fail;go_ret;exact⟨by rw[HJ2.out];rfl,zka HB1.out af.out⟩
   ·have hj1:¬ (j:Int)<(ks.length:Int):=by omega
    have HJ2:=zh (show x=r by
     have h5:=HJ.out;rw[List.drop_eq_nil_of_le (by omega),szRs]at h5;exact h5)
    clear HJ hk;go_wp2_with fail;go_ret;exact⟨by rw[HJ2.out];rfl,zka HB1.out af.out⟩
def SmlP(p:PG)(W:World)(e:Ending)(w':World):Prop:=∃b:Bool,e=.returned (.bool b)/\(b=true->p.m.ks.length<=100)/\Below W.heap.size W w'
theorem zq5(p:PG)(v:Value)(W:World)(hp:PV W Any p v):Calls Tryz.prog 49 #[v] W (SmlP p W):=by
 obtain⟨A1,c1,A2,c2,A3,c3,rfl,fZ⟩:=hp;have Bo:=zh fZ;have hb2:=zkb (zs W) (.cells #[.slice A1 p.vs.length c1,.slice A2 p.prs.length c2,.int .u8 p.m.k,.int .i64 p.m.n,.string p.m.s,.slice A3 p.m.ks.length c3] 43);have k0:=heap_alloc_new W (.cells #[.slice A1 p.vs.length c1,.slice A2 p.prs.length c2,.int .u8 p.m.k,.int .i64 p.m.n,.string p.m.s,.slice A3 p.m.ks.length c3] 43);obtain⟨w2,hw2⟩:=zX (W.alloc (.cells #[.slice A1 p.vs.length c1,.slice A2 p.prs.length c2,.int .u8 p.m.k,.int .i64 p.m.n,.string p.m.s,.slice A3 p.m.ks.length c3] 43));rw[hw2]at hb2 k0;have HB2:=zh hb2;have aD:=zh k0;obtain⟨p0,p1,p2,p3,p4,p5⟩:=box6 k0;have hlp:=zk9 fZ.lp;have pK:=zh (zoU p.m _ 100 w2 (fZ.main.later hb2) (by omega) (by omega));obtain⟨x,hx⟩:=zX (szR p.m 100);rw[hx]at pK;have HX:=zh (show 0<=x->p.m.ks.length<=100 from fun h=>zx2 (hx▸h));clear fZ hb2 k0 hx
 go_enter Tryz.func49,Tryz.ntmps49;by_cases h1:(4:Int)<(p.prs.length:Int)
 ·go_wp2_with fail;go_ret;exact⟨_,rfl,nofun,HB2.out⟩
 go_wp2_with fail;refine pK.out.mono ?_;rintro e3 w3 ⟨rfl,hb3⟩;have HB3:=zh (zka HB2.out hb3);have kp:=zkc aD.out hb3;obtain⟨-,q1,-⟩:=box6 kp;clear hb3 pK kp p0 p1 p2 p3 p4 p5 hw2;by_cases h3:x<0
 ·go_wp2_with fail;go_ret;exact⟨_,rfl,nofun,HB3.out⟩
 go_wp2_with fail
 go_loopw [18,4] (fun i _ wr=>∃j:Nat,j<=p.prs.length/\i=.int .i64 j/\Hid (Below w3.heap.size w3 wr)) (fun i _ _=>p.prs.length-(intOf i).toNat)
 case atStart=>exact⟨0,Nat.zero_le _,rfl,zh zr⟩
 case round =>
  obtain⟨j,hj,rfl,af⟩:=hrel;by_cases hlt:j<p.prs.length
  ·have hj1:(j:Int)<(p.prs.length:Int):=by omega
   have hj0:(0:Int)<=(j:Int):=by omega
   have hbb:=zka HB3.out af.out;obtain⟨pa,q,B1,d1,B2,d2,rfl,-,Hq,⟨y0,y1,y2,y3,y4,y5⟩,hpr⟩:=(Bo.out.procs.later hbb).nd hlt;have hbz:=zkb af.out (.cells #[.string q.s,.slice B1 q.ps.length d1,.int .u8 q.b.k,.int .i64 q.b.n,.string q.b.s,.slice B2 q.b.ks.length d2] 75);have hbw:=zkb (zs wr) (.cells #[.string q.s,.slice B1 q.ps.length d1,.int .u8 q.b.k,.int .i64 q.b.n,.string q.b.s,.slice B2 q.b.ks.length d2] 75);have pK:=zh (zoU q.b _ 100 _ (hpr.body.later hbw) (by omega) (by omega));obtain⟨z,hz⟩:=zX (szR q.b 100);rw[hz]at pK;have yM:=zh hbz;clear hbb hpr hbz hbw hz;go_wp2_with fail;refine pK.out.mono ?_;rintro e4 w4 ⟨rfl,hb4⟩;have aF:=zh (zka yM.out hb4);clear hb4 pK y0 y1 y2 y3 y4 y5;by_cases hz:z<0
   ·go_wp2_with fail;go_ret;exact⟨_,rfl,nofun,zka HB3.out aF.out⟩
   ·go_wp2_with fail
    go_roundw
    case rel=>exact⟨j+1,by omega,by go_num,aF⟩
    case measure=>simp[intOf];omega
  ·have hj1:¬ (j:Int)<(p.prs.length:Int):=by omega
   go_wp2_with fail;go_ret;exact⟨_,rfl,fun _=>HX.out (by omega),zka HB3.out af.out⟩
def boxL(vs:List VD)(b:BX):Bool:=decide (vs.length<=6)&&(b.ok&&svB vs)&&decide (cntF vs b<=60)
theorem zuX(vs:List VD)(b:BX)(A:Option Addr)(c:Nat)(w:World)(hr:RowV w Any A vs)(hl:vs.length<=LV) :
  Calls Tryz.prog 10 #[.slice A vs.length c,.agg #[.int .i64 b.v,.int .i64 b.l,.int .i64 b.i]] w fun e w'=>e=.returned (.bool (boxL vs b))/\Below w.heap.size w w':=by
 have iV:=zh (fun w' (h:Below w.heap.size w w')=>zs4 vs b A c w' (hr.later h) hl);have HCN:=zh (fun w' (h:Below w.heap.size w w') (hok:(b.ok&&svB vs)=true)=>zs5 vs b A c w' (hr.later h) hok);have hl1:=zk9 hl;have hb1:=zkb (zs w) (.cells #[.int .i64 b.v,.int .i64 b.l,.int .i64 b.i] 24);have hk1:=heap_alloc_new w (.cells #[.int .i64 b.v,.int .i64 b.l,.int .i64 b.i] 24);have HX:=zh (show boxL vs b=(decide (vs.length<=6)&&(b.ok&&svB vs)&&decide (cntF vs b<=60))from rfl);obtain⟨ok,hok⟩:=zX ((b.ok&&svB vs));obtain⟨X,hX⟩:=zX (boxL vs b);obtain⟨C,hC⟩:=zX (cntF vs b);rw[hok]at HX iV;simp only[hok,hC]at HCN;rw[hX,hC]at HX;rw[hX];clear hok hX hr hl hC;go_enter Tryz.func10,Tryz.ntmps10;go_upto_region 1 with fail;obtain⟨w1,hw1⟩:=zX (w.alloc (.cells #[.int .i64 b.v,.int .i64 b.l,.int .i64 b.i] 24));rw[hw1]at hb1 hk1 ⊢;obtain⟨x0,x1,x2⟩:=zkr hk1;have HB1:=zh hb1;have az:=zh hk1
 clear hw1 hb1 hk1;by_cases h6:vs.length<=6
 ·have h6i:(vs.length:Int)<=6:=by omega
  go_wp2_with fail;refine(iV.out _ HB1.out).mono ?_;rintro e w2 ⟨rfl,hb2⟩;have HB2:=zh (zka HB1.out hb2);obtain⟨y0,y1,y2⟩:=zkr (zkc az.out hb2);clear hb2 x0 x1 x2
  cases ok
  ·have HF:=zh (show X=false by rw[HX.out];simp);go_wp2_with fail;go_ret;exact⟨by rw[HF.out];rfl,HB2.out⟩
  ·have HF:=zh (show X=decide (C<=60) by rw[HX.out];simp[h6]);go_wp2_with fail;refine(HCN.out _ HB2.out trivial).mono ?_;rintro e w3 ⟨rfl,rfl⟩;go_wp2_with fail;go_ret;exact⟨by rw[HF.out];rfl,HB2.out⟩
 ·have h6i:¬ (vs.length:Int)<=6:=by omega
  have HF:=zh (show X=false by rw[HX.out];simp[h6]);go_wp2_with fail;go_ret;exact⟨by rw[HF.out];rfl,HB1.out⟩
def zzf(W:World)(p:PG)(b:BX)(F:Int)(e:Ending)(w':World):Prop:=Below W.heap.size W w'/\∃A n c ok,e=.returned (.tuple #[.slice A n c,.bool ok]) /\
 (ok=true->F<=300/\p.vs.length<=6/\(b.ok&&svB p.vs)=true/\cntF p.vs b<=60/\zla p=true/\chkN p=0/\n=(allR p.vs b).length/\n<=c/\zk7 w' A (allR p.vs b)/\p.m.ks.length<=100)
theorem zrS(p:PG)(b:BX)(F:Int)(v:Value)(W:World)(hp:PV W Any p v)(hF:I64 F) :
  Calls Tryz.prog 15 #[v,.agg #[.int .i64 b.v,.int .i64 b.l,.int .i64 b.i],.int .i64 F] W (zzf W p b F):=by
 have gJ:=zh (fun w' (h:Below W.heap.size W w')=>hp.later h);obtain⟨A1,c1,A2,c2,A3,c3,rfl,fZ⟩:=hp;have fK:=zh (fun w' (h:Below W.heap.size W w')=>zq5 p _ w' (gJ.out w' h));have aX:=zh (fun w' (h:Below W.heap.size W w')=>zuX p.vs b A1 c1 w' (fZ.vars.later h) fZ.lv);have iV:=zh (fun w' (h:Below W.heap.size W w')=>zoB p Any _ w' (gJ.out w' h));have lL:=zh (fun w' (h:Below W.heap.size W w')=>zpn p Any _ w' (gJ.out w' h));have jQ:=zh (fun w' (h:Below W.heap.size W w') h1 h2=>zxe p.vs b A1 c1 w' (fZ.vars.later h) h1 h2);obtain⟨X,hX⟩:=zX (boxL p.vs b);have aO:=zh hX;obtain⟨VB,zK⟩:=zX (zla p);have eF:=zh zK;obtain⟨N,hN⟩:=zX (chkN p);have qP:=zh hN;simp only[hX]at aX;simp only[zK]at iV lL;simp only[hN]at lL;clear hX zK hN fZ;go_enter Tryz.func15,Tryz.ntmps15;go_upto_region 1 with fail
 have hb2:=zkb (zkb (zs W) (.cells #[.slice A1 p.vs.length c1,.slice A2 p.prs.length c2,.int .u8 p.m.k,.int .i64 p.m.n,.string p.m.s,.slice A3 p.m.ks.length c3] 43)) (.cells #[.int .i64 b.v,.int .i64 b.l,.int .i64 b.i] 24);have k0:=zkf (heap_alloc_new W (.cells #[.slice A1 p.vs.length c1,.slice A2 p.prs.length c2,.int .u8 p.m.k,.int .i64 p.m.n,.string p.m.s,.slice A3 p.m.ks.length c3] 43)) (.cells #[.int .i64 b.v,.int .i64 b.l,.int .i64 b.i] 24);have k1:=heap_alloc_new (W.alloc (.cells #[.slice A1 p.vs.length c1,.slice A2 p.prs.length c2,.int .u8 p.m.k,.int .i64 p.m.n,.string p.m.s,.slice A3 p.m.ks.length c3] 43)) (.cells #[.int .i64 b.v,.int .i64 b.l,.int .i64 b.i] 24);rw[World.size_alloc]at k1
 obtain⟨w2,hw2⟩:=zX ((W.alloc (.cells #[.slice A1 p.vs.length c1,.slice A2 p.prs.length c2,.int .u8 p.m.k,.int .i64 p.m.n,.string p.m.s,.slice A3 p.m.ks.length c3] 43)).alloc (.cells #[.int .i64 b.v,.int .i64 b.l,.int .i64 b.i] 24));rw[hw2]at hb2 k0 k1 ⊢;have HB2:=zh hb2;obtain⟨N1,hN1⟩:=zX (W.heap.size);rw[hN1]at k0 k1 ⊢;have aD:=zh (fun w' (h:Below w2.heap.size w2 w')=>zkc k0 h);have az:=zh (fun w' (h:Below w2.heap.size w2 w')=>zkc k1 h);have eU:=zh (zs w2);clear hw2 hb2 k0 k1 hN1;have bK:=zh (show ∀w',Below w2.heap.size w2 w'->zzf W p b F (.returned (.tuple #[.slice none 0 0,.bool false])) w' from fun w' h=>⟨zka HB2.out h,none,0,0,false,rfl,fun h=>by cases h⟩);obtain⟨p0,p1,p2,p3,p4,p5⟩:=box6 (aD.out _ eU.out);obtain⟨x0,x1,x2⟩:=zkr (az.out _ eU.out);go_wp2_with fail;refine(fK.out _ HB2.out).mono ?_;rintro e w3 ⟨sb,rfl,hsb,hb3⟩;have iX:=zh hsb;clear hsb
 have HB3:=zh (zka HB2.out hb3);have dY:=zh (zka eU.out hb3);clear p0 p1 p2 p3 p4 p5 x0 x1 x2 hb3;obtain⟨p0,p1,p2,p3,p4,p5⟩:=box6 (aD.out _ dY.out);obtain⟨x0,x1,x2⟩:=zkr (az.out _ dY.out)
 cases sb
 ·go_wp2_with fail;refine bodyPost_ret (v:=.tuple #[.slice none 0 0,.bool false]) (by simp[results,Tryz.results15,go_sem]) rfl ?_;exact bK.out _ dY.out
 have nD:=zh (iX.out rfl);clear iX;by_cases h300:F<=300;rotate_left 1
 ·have hgt:(300:Int)<F:=by omega
  go_wp2_with fail;refine bodyPost_ret (v:=.tuple #[.slice none 0 0,.bool false]) (by simp[results,Tryz.results15,go_sem]) rfl ?_;exact bK.out _ dY.out
 have hgt:¬ (300:Int)<F:=by omega
 go_wp2_with fail;refine(aX.out _ HB3.out).mono ?_;rintro e w4 ⟨rfl,hb4⟩;have aF:=zh (zka HB3.out hb4);have lS:=zh (zka dY.out hb4);clear p0 p1 p2 p3 p4 p5 x0 x1 x2 hb4;obtain⟨p0,p1,p2,p3,p4,p5⟩:=box6 (aD.out _ lS.out);obtain⟨x0,x1,x2⟩:=zkr (az.out _ lS.out)
 cases X
 ·go_wp2_with fail;refine bodyPost_ret (v:=.tuple #[.slice none 0 0,.bool false]) (by simp[results,Tryz.results15,go_sem]) rfl ?_;exact bK.out _ lS.out
 go_wp2_with fail;refine(iV.out _ aF.out).mono ?_;rintro e w5 ⟨rfl,hb5⟩;have aP:=zh (zka aF.out hb5);have eH:=zh (zka lS.out hb5);clear p0 p1 p2 p3 p4 p5 x0 x1 x2 hb5;obtain⟨p0,p1,p2,p3,p4,p5⟩:=box6 (aD.out _ eH.out);obtain⟨x0,x1,x2⟩:=zkr (az.out _ eH.out)
 cases VB
 ·go_wp2_with fail;refine bodyPost_ret (v:=.tuple #[.slice none 0 0,.bool false]) (by simp[results,Tryz.results15,go_sem]) rfl ?_;exact bK.out _ eH.out
 go_wp2_with fail;refine(lL.out _ aP.out).mono ?_;rintro e w6 ⟨A6,c6,rfl,hb6⟩;have aV:=zh (zka aP.out hb6);have jf:=zh (zka eH.out hb6);clear p0 p1 p2 p3 p4 p5 x0 x1 x2 hb6;simp only[if_true];obtain⟨p0,p1,p2,p3,p4,p5⟩:=box6 (aD.out _ jf.out);obtain⟨x0,x1,x2⟩:=zkr (az.out _ jf.out);by_cases hN0:N=0;rotate_left 1
 ·have hgn:(0:Int)<(N:Int):=by omega
  go_wp2_with fail;refine bodyPost_ret (v:=.tuple #[.slice none 0 0,.bool false]) (by simp[results,Tryz.results15,go_sem]) rfl ?_;exact bK.out _ jf.out
 have hgn:¬ (0:Int)<(N:Int):=by omega
 have iL:=zh hN0;clear hN0;have hbx:=aO.out;simp only[boxL,Bool.and_eq_true,decide_eq_true_eq]at hbx;have iC:(b.ok&&svB p.vs)=true:=by simp[hbx.1.2]
 have dw:=zh (And.intro hbx.1.1 (And.intro iC hbx.2));have bV:=zh (jQ.out _ aV.out iC hbx.2);clear hbx iC;go_wp2_with fail;refine bV.out.mono ?_;rintro e w7 ⟨v,rfl,⟨A7,c7,rfl,nR,nP⟩,iD⟩;have nX:=zh (show zzf W p b F (.returned (.tuple #[.slice A7 (allR p.vs b).length c7,.bool true])) w7 from⟨zka aV.out iD,A7,_,c7,true,rfl,fun _=>⟨h300,dw.out.1,dw.out.2.1,dw.out.2.2,eF.out,by rw[qP.out,iL.out],rfl,nR,nP,nD.out⟩⟩);clear nP iD p0 p1 p2 p3 p4 p5 x0 x1 x2 nR;go_wp2_with fail;refine bodyPost_ret (v:=.tuple #[.slice A7 (allR p.vs b).length c7,.bool true]) (by simp[results,Tryz.results15,go_sem]) rfl ?_;exact nX.out
end
section
open Go Go.RowKit
theorem zro{a b:Int}:cmpI a b<0↔a<b:=by
 unfold cmpI;by_cases h1:a<b
 ·rw[if_pos h1];exact⟨fun _=>h1,fun _=>by decide⟩
 ·rw[if_neg h1];by_cases h2:b<a
  ·rw[if_pos h2];exact⟨fun h=>by simp at h,fun h=>absurd h h1⟩
  ·rw[if_neg h2];exact⟨fun h=>by simp at h,fun h=>absurd h h1⟩
theorem zpR{a b:Int}:cmpI a b=0↔a=b:=by
 unfold cmpI;by_cases h1:a<b
 ·rw[if_pos h1];exact⟨fun h=>by simp at h,fun h=>by omega⟩
 ·rw[if_neg h1];by_cases h2:b<a
  ·rw[if_pos h2];exact⟨fun h=>by simp at h,fun h=>by omega⟩
  ·rw[if_neg h2];exact⟨fun _=>by omega,fun _=>rfl⟩
theorem zuK:∀ {a b:List Int},cmpR a b<0->lexR a b
 | x::a,y::b,h=>by
  rw[cmpR]at h;by_cases h0:cmpI (rnk x) (rnk y)=0
  ·rw[if_neg (by rw[h0];simp)]at h;exact Or.inr ⟨ztM (zpR.1 h0),zuK h⟩
  ·rw[if_pos h0]at h;exact Or.inl (zro.1 h)
 | [],_,h=>by simp[cmpR]at h
 | _::_,[],h=>by simp[cmpR]at h
theorem zuL:∀ {a b:List Int},a.length=b.length->cmpR a b=0->a=b
 | x::a,y::b,hl,h=>by
  rw[cmpR]at h;by_cases h0:cmpI (rnk x) (rnk y)=0
  ·rw[if_neg (by rw[h0];simp)]at h;rw[ztM (zpR.1 h0),zuL (by simpa using hl) h]
  ·rw[if_pos h0]at h;exact absurd h h0
 | [],[],_,_=>rfl
 | [],_::_,hl,_=>by simp at hl
 | _::_,[],hl,_=>by simp at hl
theorem zuM{a b:List Int}(h:cmpL a b<0):ltL a b:=by
 unfold cmpL at h;by_cases hl:a.length=b.length
 ·rw[if_neg (by simpa using hl)]at h;exact Or.inr ⟨hl,zuK h⟩
 ·rw[if_pos hl]at h;exact Or.inl (by have:=zro.1 h;omega)
theorem zuN{a b:List Int}(h:cmpL a b=0):a=b:=by
 unfold cmpL at h;by_cases hl:a.length=b.length
 ·rw[if_neg (by simpa using hl)]at h;exact zuL hl h
 ·rw[if_pos hl]at h;exact absurd (zpR.1 h) (by omega)
theorem zsr:∀ {a b:List (List Int)} (c d:List (List Int)),zmg a b<0->ltLL (a++c) (b++d)
 | x::a,y::b,c,d,h=>by
  rw[zmg]at h;by_cases h0:cmpL x y=0
  ·rw[if_neg (by rw[h0];simp)]at h;exact Or.inr ⟨zuN h0,zsr c d h⟩
  ·rw[if_pos h0]at h;exact Or.inl (zuM h)
 | [],_,_,_,h=>by simp[zmg]at h
 | _::_,[],_,_,h=>by simp[zmg]at h
theorem zss:∀ {a b:List (List Int)},a.length=b.length->zmg a b=0->a=b
 | x::a,y::b,hl,h=>by
  rw[zmg]at h;by_cases h0:cmpL x y=0
  ·rw[if_neg (by rw[h0];simp)]at h;rw[zuN h0,zss (by simpa using hl) h]
  ·rw[if_pos h0]at h;exact absurd h h0
 | [],[],_,_=>rfl
 | [],_::_,hl,_=>by simp at hl
 | _::_,[],hl,_=>by simp at hl
theorem zsa:∀(a:List (List Int)) {u v:List Int},ltL u v->ltLL (a++[u]) (a++[v])
 | [],_,_,h=>Or.inl h
 | x::a,_,_,h=>Or.inr ⟨rfl,zsa a h⟩
theorem zzi(a b:List (List Int)):wt (a++b)=wt a+wt b:=by simp[wt]
theorem zm1{x:List (List Int)}(hx:x≠[]):x=(stOf x).cells++[(stOf x).tin]:=by
 show x=x.dropLast++[x.getLastD []]
 rw[List.getLastD_eq_getLast?,List.getLast?_eq_some_getLast hx];simp[List.dropLast_concat_getLast hx]
theorem zxr{x:List (List Int)}(hx:x≠[]):wtS (stOf x)=wt x:=by
 have h:=congrArg wt (zm1 hx);rw[h,zzi];unfold wtS
 show lw (stOf x).tin+lw []+wt (stOf x).cells=_
 simp only[zn2,lw,wt,List.map_nil,List.sum_nil,List.map_cons,List.sum_cons];omega
theorem zyp{x y:List (List Int)}(hx:x≠[])(hy:y≠[])(hl:x.length=y.length)(h:znL (stOf x) (stOf y)=true):ltB x y:=by
 unfold znL at h;rw[zxr hx,zxr hy]at h;by_cases h0:cmpI (wt x) (wt y)=0
 ·rw[if_neg (by rw[h0];simp)]at h;refine Or.inr ⟨zpR.1 h0,?_⟩;have hc:(stOf x).cells.length=(stOf y).cells.length:=by simp[stOf,hl]
  rw[zm1 hx,zm1 hy];by_cases h1:zmg (stOf x).cells (stOf y).cells=0
  ·rw[if_neg (by rw[h1];simp)]at h;rw[zss hc h1];refine zsa _ (zuM ?_);have ho:orI (cmpL (stOf x).tin (stOf y).tin) (cmpL (stOf x).tout (stOf y).tout)=cmpL (stOf x).tin (stOf y).tin:=by
    show orI _ (cmpL [] [])=_
    unfold orI
    split
    ·rfl
    ·rename_i h2;simp only[Decidable.not_not]at h2;rw[h2];rfl
   rw[ho]at h;exact of_decide_eq_true h
  ·rw[if_pos h1]at h;exact zsr _ _ (of_decide_eq_true h)
 ·rw[if_pos h0]at h;exact Or.inl (zro.1 (of_decide_eq_true h))
def RSt(n:Nat)(s t:SS):Prop:=∃x y,s=stOf x/\t=stOf y/\x.length=n+1/\y.length=n+1/\ltB x y
theorem zqe{x y:List (List Int)}(hx:x≠[])(hy:y≠[])(h:stOf x=stOf y):x=y:=by rw[zm1 hx,zm1 hy,h]
theorem zlK{α:Type}{x:List α}{n:Nat}(h:x.length=n+1):x≠[]:=by rintro rfl;simp at h
theorem RSt.asymm{n:Nat}{s t:SS}(h:RSt n s t):¬ RSt n t s:=fun h'=>by
 obtain⟨x,y,rfl,rfl,hx,hy,hlt⟩:=h;obtain⟨x',y',h1,h2,hx',hy',hlt'⟩:=h';rw[zqe (zlK hy) (zlK hx') h1,zqe (zlK hx) (zlK hy') h2]at hlt;exact zt3 hlt hlt'
structure InB(vs:List VD)(x:SS):Prop where
 st:∃y,x=stOf y/\y.length=vs.length+1
 sm:SmS x
 n:x.cells.length=vs.length
theorem zrr{vs:List VD}{b:BX}(h:(b.ok&&svB vs)=true):(allS b (lenE vs b)).Pairwise (RSt vs.length):=by
 have h2:=zlI h;unfold allS;rw[List.pairwise_map];refine List.Pairwise.imp_of_mem (fun {x y} hx hy hxy=>⟨x,y,rfl,rfl,?_,?_,hxy⟩) (zrs (h:=2*b.v+1) (by omega) (lenE vs b))
 ·rw[(zne rfl x hx).len,h2.1]
 ·rw[(zne rfl y hy).len,h2.1]
theorem zpX{vs:List VD}{b:BX}(h:(b.ok&&svB vs)=true):∀x∈allS b (lenE vs b),InB vs x:=by
 intro x hx;obtain⟨y,hy,rfl⟩:=List.mem_map.1 hx;have h1:=zne rfl y hy;have h2:=zlI h;have h3:=h1.len;rw[h2.1]at h3;have hc:(stOf y).cells.length=vs.length:=by simp[stOf,h3]
 have h4:∀i (hi:i<y.length),SmI y[i]:=fun i hi=>by
  have h5:=h1.get i (by rw[h2.1];omega) hi;have h6:=(h2.2.2.1 _ (List.getElem_mem (show i<(lenE vs b).length by rw[h2.1];omega))).2.2;have h7:=h2.2.2.2;exact⟨by omega,fun e he=>by have:=h5.2.2 e he;omega⟩
 have h7:∀l∈y,SmI l:=fun l hl=>by obtain⟨i,hi,rfl⟩:=List.mem_iff_getElem.1 hl;exact h4 i hi
 refine⟨⟨y,rfl,h3⟩,⟨by omega,fun l hl=>h7 l ((List.dropLast_sublist y).subset hl),?_,⟨Nat.zero_le _,fun e he=>by cases he⟩⟩,hc⟩
 show SmI (y.getLastD [])
 rw[znH (n:=y.length) rfl (by omega)];exact h4 _ (by omega)
theorem zzr{v e:Int}:(-v<=e/\e<=v)->rnk e<2*v+1:=fun h=>by unfold rnk;split<;>omega
theorem zxF{v:Int}:∀ {bs:List Bn} {x:List (List Int)},FitB v bs x->FitH (2*v+1) bs x
 | [],[],_=>trivial
 | (_,_)::bs,x::xs,h=>⟨h.1,h.2.1,fun e he=>zzr (h.2.2.1 e he),zxF h.2.2.2⟩
 | [],_::_,h=>h.elim
 | (_,_)::_,[],h=>h.elim
structure GeB(b c:BX):Prop where
 v:b.v<=c.v
 l:b.l<=c.l
 i:b.i<=c.i
theorem zw3{vs:List VD}{b c:BX}(h:(b.ok&&svB vs)=true)(hc:(c.ok&&svB vs)=true)(hg:GeB b c):∀x∈allS b (lenE vs b),x∈allS c (lenE vs c):=by
 intro x hx;obtain⟨y,hy,rfl⟩:=List.mem_map.1 hx;have h2:=zlI h;have h3:=zlI hc;have hf:=zxF (zne rfl y hy);have:=hg.v;have h4:=hg.l;have h5:=hg.i;refine List.mem_map.2 ⟨y,(zw4 (by omega) y).2 (hf.mono (by omega) (by rw[h2.1,h3.1]) fun i q1 q2=>?_),rfl⟩;by_cases hi:i<vs.length
 ·simp only[lenE];rw[List.getElem_append_left (by simpa using hi),List.getElem_append_left (by simpa using hi),List.getElem_map,List.getElem_map];unfold len1
  split
  ·exact⟨zl,by simp only;omega⟩
  ·exact⟨zl,zl⟩
 ·have e:i=vs.length:=by rw[h2.1]at q1;omega
  subst e;simp only[lenE];rw[List.getElem_append_right (by simp),List.getElem_append_right (by simp)];simp only[List.length_map,Nat.sub_self,List.getElem_cons_zero];exact⟨zl,by omega⟩
theorem zwc{n:Nat}{vs:List VD}{s s':SS}(hn:vs.length=n)(hs:InB vs s)(hs':InB vs s')(h:s'=s\/RSt n s' s):znL s s'=false:=by
 cases hb:znL s s' with
 | false=>rfl
 | true =>
  obtain⟨x,rfl,hx⟩:=hs.st;obtain⟨y,rfl,hy⟩:=hs'.st;have hlt:=zyp (zlK hx) (zlK hy) (by omega) hb;have hr:RSt n (stOf x) (stOf y):=⟨x,y,rfl,rfl,by omega,by omega,hlt⟩
  rcases h with h|h
  ·rw[h]at hr;exact absurd hr hr.asymm
  ·exact absurd hr h.asymm
def firE(f:Nat->SS->Bool):Nat->List SS->SS×Nat×Bool
 | n,[]=>(nilS,n,false)
 | n,s::l=>if f n s=true then(s,n+1,true)else firE f (n+1) l
theorem zqC(f:Nat->SS->Bool):∀(l:List SS) (n:Nat),
  (∃a s b,l=a++s::b/\(∀i (h:i<a.length),f (n+i) a[i]=false)/\f (n+a.length) s=true/\firE f n l=(s,n+a.length+1,true)) \/
  ((∀i (h:i<l.length),f (n+i) l[i]=false)/\firE f n l=(nilS,n+l.length,false))
 | [],n=>.inr ⟨fun i h=>by simp at h,rfl⟩
 | s::l,n=>by
  by_cases h:f n s=true
  ·exact .inl ⟨[],s,l,rfl,fun i h=>by simp at h,h,by rw[firE,if_pos h];rfl⟩
  ·have h':f n s=false:=by simpa using h
   rw[firE,if_neg h];rcases zqC f l (n+1)with⟨a,t,b,h1,h2,h3,h4⟩|⟨h2,h4⟩
   ·refine .inl ⟨s::a,t,b,by rw[h1];rfl,fun i hi=>?_,?_,?_⟩
    ·cases i with
     | zero=>exact h'
     | succ i=>have:=h2 i (by simpa using hi);rw[show n+(i+1)=n+1+i by omega];exact this
    ·rw[List.length_cons,show n+(a.length+1)=n+1+a.length by omega];exact h3
    ·rw[h4,List.length_cons,show n+(a.length+1)+1=n+1+a.length+1 by omega]
   ·refine .inr ⟨fun i hi=>?_,?_⟩
    ·cases i with
     | zero=>exact h'
     | succ i=>have:=h2 i (by simpa using hi);rw[show n+(i+1)=n+1+i by omega];exact this
    ·rw[h4,List.length_cons,show n+(l.length+1)=n+1+l.length by omega]
def fndE(f:SS->Bool)(l:List SS):SS×Nat×Bool:=firE (fun _=>f) 0 l
theorem zoo(f:SS->Bool)(l:List SS) :
  (∃a s b,l=a++s::b/\(∀x∈a,f x=false)/\f s=true/\fndE f l=(s,a.length+1,true))\/((∀x∈l,f x=false)/\fndE f l=(nilS,l.length,false)):=by
 rcases zqC (fun _=>f) l 0 with⟨a,s,b,h1,h2,h3,h4⟩|⟨h2,h4⟩
 ·exact .inl ⟨a,s,b,h1,fun x hx=>by obtain⟨i,hi,rfl⟩:=List.mem_iff_getElem.1 hx;exact h2 i hi,h3,by unfold fndE;rw[h4];simp⟩
 ·exact .inr ⟨fun x hx=>by obtain⟨i,hi,rfl⟩:=List.mem_iff_getElem.1 hx;exact h2 i hi,by unfold fndE;rw[h4];simp⟩
def cntS(e:SS->Int)(l:List SS)(k:Int):Nat:=(l.filter fun s=>e s==k).length
theorem zwe{vs:List VD}{b:BX}(h:(b.ok&&svB vs)=true){f:SS->Bool}{s:SS}(hs:s∈allS b (lenE vs b))(hf:f s=true) :
  ∃t n,fndE f (allS b (lenE vs b))=(t,n,true)/\InB vs t/\znL s t=false:=by
 have hso:=zrr h;have hin:=zpX h;obtain⟨l,hl⟩:=zX (allS b (lenE vs b));rw[hl]at hso hin hs ⊢;rcases zoo f l with⟨a,t,c,rfl,h2,h3,h4⟩|⟨h2,h4⟩
 ·refine⟨t,_,h4,hin t (by simp),zwc rfl (hin s hs) (hin t (by simp)) ?_⟩;rcases List.mem_append.1 hs with hm|hm
  ·rw[h2 s hm]at hf;cases hf
  ·rcases List.mem_cons.1 hm with rfl|hm
   ·exact .inl rfl
   ·rw[List.pairwise_append]at hso;exact .inr ((List.pairwise_cons.1 hso.2.1).1 s hm)
 ·rw[h2 s hs]at hf;cases hf
theorem zwd{vs:List VD}{b c:BX}(h:(b.ok&&svB vs)=true)(hc:(c.ok&&svB vs)=true)(hg:GeB b c){f:SS->Bool}{s:SS}{n:Nat}(hf:fndE f (allS b (lenE vs b))=(s,n,true)) :
  ∃t n,fndE f (allS c (lenE vs c))=(t,n,true)/\InB vs t/\znL s t=false:=by
 rcases zoo f (allS b (lenE vs b))with⟨a,t,d,h1,h2,h3,h4⟩|⟨h2,h4⟩
 ·rw[hf]at h4;injection h4 with h4 h5;subst h4;exact zwe hc (zw3 h hc hg s (by rw[h1];simp)) h3
 ·rw[hf]at h4;injection h4 with h4 h5;injection h5 with h5 h6;cases h6
theorem zpT{v:Int}(hv:0<=v)(a m:Nat):(betE v a m).length=nLst (2*v+1).toNat (a,m):=by
 have h1:=zn0 hv a m;have h2:∀l:List Nat,(((l.map fun i=>(2*v+1).toNat ^ (a+i)).sum:Nat):Int)=(l.map fun i=>(2*v+1) ^ (a+i)).sum:=by
  intro l
  induction l with
  | nil=>rfl
  | cons i l ih =>
   rw[List.map_cons,List.sum_cons,List.map_cons,List.sum_cons,<-ih]
   push_cast
   rw[Int.toNat_of_nonneg (by omega)]
 unfold nLst;have h3:=h2 (List.range (m+1-a));simp only;omega
theorem zyk{b:BX}{v:VD}(hb:b.ok=true)(hv:vdB v=true):(lstE b v).length=nLst (2*b.v+1).toNat (len1 b v):=by
 have hk:=zll hb;unfold lstE len1;rcases ztr hv with⟨h1,h2⟩|⟨h1,h2,h3⟩|⟨h1,h2⟩
 ·rw[if_pos h1,if_neg (by omega),zpT hk.1.1];unfold fixE;rw[if_pos h1];rfl
 ·rw[if_neg (by omega),if_pos h1,if_neg (by omega),zpT hk.1.1];unfold fixE;rw[if_neg (by omega)]
 ·rw[if_neg (by omega),if_neg (by omega),if_pos h1,zpT hk.1.1]
theorem zrP{b:BX}(hb:b.ok=true):∀(vs:List VD) (st:List SS),(∀v∈vs,vdB v=true)->(vs.foldl (fun st v=>stg st (lstE b v)) st).length=st.length*nAll (2*b.v+1).toNat (vs.map (len1 b))
 | [],st,_=>by simp[nAll]
 | v::vs,st,h=>by
  rw[List.foldl_cons,zrP hb vs _ fun u hu=>h u (by simp[hu]),ztA,zyk hb (h v (by simp)),List.map_cons,nAll,Nat.mul_assoc]
theorem zr9(h:Nat):∀(a b:List Bn),nAll h (a++b)=nAll h a*nAll h b
 | [],b=>by simp[nAll]
 | x::a,b=>by rw[List.cons_append,nAll,nAll,zr9 h a b,Nat.mul_assoc]
theorem zsV{α β:Type}(l:List α)(f:α->List β)(n:Nat)(h:∀x,(f x).length=n):(l.flatMap f).length=l.length*n:=by
 induction l with
 | nil=>simp
 | cons x l ih=>rw[List.flatMap_cons,List.length_append,ih,h,List.length_cons,Nat.add_mul];omega
theorem zxQ{vs:List VD}{b:BX}(hok:(b.ok&&svB vs)=true)(h60:cntF vs b<=60):(allS b (lenE vs b)).length<=60:=by
 have h:=hok;simp only[Bool.and_eq_true]at h;have hk:=zll h.1;have hr:=(ztN h.1 h60).all.2;have h1:(allU vs b).length=nAll (2*b.v+1).toNat (lenE vs b):=by
  unfold allU stgF lenE;rw[zsV _ _ (betE b.v 0 b.i.toNat).length fun s=>by simp,zrP h.1 vs _ fun v hv=>(zsB h.2).2 v hv,zr9,zpT hk.1.1];simp[nAll]
 have h2:=zy4 (h:=(2*b.v+1).toNat) (by omega) (bs:=lenE vs b) fun q hq=>((zlI hok).2.2.1 q hq).1;rw[Int.toNat_of_nonneg (by omega)]at h2;unfold allS;rw[List.length_map];omega
end
end Go.Proofs.YtembgnhbpmfhpaaGreat
