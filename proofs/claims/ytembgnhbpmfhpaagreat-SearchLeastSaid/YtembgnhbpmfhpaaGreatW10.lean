/-
  Texts of the proof, put together without their remarks: ScR, ScV, Fa, ScK, Gf, Nz.
-/
import Derived.Test.YtembgnhbpmfhpaaGreatW9
set_option linter.unusedSimpArgs false
set_option linter.unusedVariables false
set_option maxHeartbeats 8000000
set_option maxRecDepth 100000
namespace Go.Proofs.YtembgnhbpmfhpaaGreat
open Tryz
section
open Go Go.RowKit
structure FS(W:World)(n0 fb N:Nat)(pv:Value):Prop where
 box:W.heap[fb]?=some (.cells #[pv] 65 (0,0))
 row:∃xs,W.ownsRow n0 116 4 pv N xs
 ge:n0<=fb
 ne:pv.ownBlock≠some fb
section
variable {W W':World} {n0 fb N N':Nat} {pv pv':Value}
theorem FS.lt(h:FS W n0 fb N pv):fb<W.heap.size/\∀b,pv.ownBlock=some b->n0<=b/\b<W.heap.size:=⟨zko h.box,let ⟨_,hr⟩:=h.row;hr.lt⟩
theorem FS.chg{C:Nat->Prop}(h:FS W n0 fb N pv)(hc:Chg C W W')(hC:∀b,b=fb\/pv.ownBlock=some b->¬ C b):FS W' n0 fb N pv:=by
 refine⟨hc.keep h.box (hC _ (.inl rfl)),?_,h.ge,h.ne⟩;obtain⟨xs,e1,h2⟩:=h.row;refine⟨xs,e1,?_⟩;rcases h2 with h2|⟨g,cap,cur,rfl,hb,hg,h3⟩
 ·exact .inl h2
 ·exact .inr ⟨g,cap,cur,rfl,hb,hc.keep hg (hC _ (.inr rfl)),h3⟩
theorem FS.later(h:FS W n0 fb N pv)(hb:Below W.heap.size W W'):FS W' n0 fb N pv:=h.chg (C:=fun _=>False) (Chg.of_below hb) (fun _ _ h=>h)
theorem FS.put(h:FS W n0 fb N pv)(ho:∃xs,W'.ownsRow n0 116 4 pv' N' xs)(hg:W.grownBy W' pv.ownBlock)(aj:∀b,pv'.ownBlock=some b->pv.ownBlock=some b\/W.heap.size<=b) :
  FS (W'.setCell ⟨fb,0,none⟩ pv') n0 fb N' pv':=by
 have hp':W'.heap[fb]?=some (.cells #[pv] 65 (0,0)):=(hg.block _ (zko h.box) (fun e=>h.ne e.symm)).trans h.box;have sP:pv'.ownBlock≠some fb:=fun e=>by
  rcases aj _ e with e|e
  ·exact h.ne e
  ·have:=zko h.box;omega
 refine⟨by have:=heap_setCell_same W' fb 0 _ _ pv' hp';simpa using this,?_,h.ge,sP⟩;obtain⟨xs,e1,h2⟩:=ho;refine⟨xs,e1,?_⟩;rcases h2 with h2|⟨g,cap,cur,rfl,hb,hg',h3⟩
 ·exact .inl h2
 ·refine .inr ⟨g,cap,cur,rfl,hb,?_,h3⟩;rw[Below.heap_setCell _ _ _ _ (fun e=>sP (by subst e;rfl))];exact hg'
theorem FS.slice(h:FS W n0 fb N pv):∃A c,pv=.slice A N c:=by
 obtain⟨xs,e1,h2⟩:=h.row;rcases h2 with⟨rfl,rfl⟩|⟨g,cap,cur,rfl,_⟩
 ·exact⟨_,_,rfl⟩
 ·exact⟨_,_,rfl⟩
end
def RepP(W:World)(n0 fb:Nat)(pv:Value)(N':Nat)(e:Ending)(W':World):Prop :=
 (∃v,e=.returned v)/\∃pv',FS W' n0 fb N' pv'/\(∀b,pv'.ownBlock=some b->pv.ownBlock=some b\/W.heap.size<=b)/\Chg (fun b=>b=fb\/pv.ownBlock=some b) W W'
def one1(e:Int):Nat:=if e=0 then 0 else 1
theorem zyW:(prog.info? 116).map (fun i=>(i.zero,i.size,i.bytes))=some (some (.agg #[.int .i64 0,.slice none 0 0,.int .i64 0,.string ⟨#[]⟩]),4,56):=by kernel_rfl
theorem zKb(p:Int)(A:Option Addr)(l c:Nat)(e:Int)(s:ByteArray)(w:World):(Instr.build 116 #[(0,.int .i64 p),(1,.slice A l c),(2,.int .i64 e),(3,.string s)]).run prog w=.ok (.agg #[.int .i64 p,.slice A l c,.int .i64 e,.string s]) w:=by kernel_rfl
theorem zzc(a0 a1 a2 a3:Value)(w:World):(Instr.buildSlice 65 1 #[(0,.agg #[a0,a1,a2,a3])]).run prog w=.ok (.slice (some ⟨w.heap.size,0,none⟩) 1 1) (w.alloc (.cells #[a0,a1,a2,a3] 116)):=by kernel_rfl
theorem zmD(n0 fb N:Nat)(pv:Value)(pr er:Int)(q:List Int)(A:Option Addr)(c:Nat)(s:ByteArray)(S:Nat->Prop)(W:World)(hfs:FS W n0 fb N pv)(hq:RowI W S A q)(kJ:q.length<=100000)(hN:N<=1000000) :
  Calls prog 69 #[.int .i64 pr,.slice A q.length c,.string s,.int .i64 er,.pointer (some ⟨fb,0,none⟩)] W (RepP W n0 fb pv (N+one1 er)):=by
 obtain⟨i0,hi0,hz0,hz1,hz2⟩:=info_parts zyW;obtain⟨Ap,cp,rfl⟩:=hfs.slice;have xW:=zh hfs;have HQ:=zh hq;have hc0:W.cell? ⟨fb,0,none⟩=some (.slice Ap N cp):=zc hfs.box rfl;have hbf:=zKb;have hbs:=zzc;have hge:=hfs.ge;have hlf:=hfs.lt.1;clear hfs hq;by_cases he:er=0
 ·subst he;clear hc0;go_enter func69,ntmps69;go_wp2_with fail;go_end0;exact⟨⟨_,rfl⟩,_,xW.out,fun b hb=>.inl hb,Chg.refl _ _⟩
 ·have e1:(er==0)=false:=by simpa using he
  have e2:(er != 0)=true:=by simpa using he
  have HONE:=zh (show one1 er=1 by simp[one1,he]);rw[HONE.out];clear he;go_enter func69,ntmps69;go_upto_region 1 with fail;have hSS:zU W.drew/\(fun w':World=>zv w' fb 0 (.slice Ap N cp)) W.drew:=⟨trivial,hc0⟩
  refine wp_region_noPanic ?_;refine zkk zU (fun w':World=>zv w' fb 0 (.slice Ap N cp)) 8 (by kernel_rfl) ?_;refine zJ 0 hSS ?_;refine zT 1 hSS ?_;refine zT 2 hSS ?_;refine zT 4 hSS ?_;refine zT 5 hSS ?_;refine zo 3 fun K hK=>?_;refine zsI (by rfl) (.func 70) (.tmp 13) _ (by rfl) 70 _ zm6 (by rfl) _ (by rfl) _ (znU (zto q A c S _ (HQ.out.later zr.drew) (by unfold LI;omega))) ?_;rintro v2 w2 ⟨A2,c2,rfl,_,_,au⟩;have b2:=zka (zs W).drew au;have iL:=xW.out.later b2;have g2:w2.cell? ⟨fb,0,none⟩=some (.slice Ap N cp):=zc iL.box rfl;have aN:zU w2/\(fun w':World=>zv w' fb 0 (.slice Ap N cp)) w2:=⟨trivial,g2⟩
  refine hK.out _ _ aN ?_;clear hK K hSS;(try simp only[zQ]);refine zT 6 aN ?_;refine zo 7 fun K hK=>?_;(try simp only[zA,zB,zC]);go_simp;refine hK.out _ _ ⟨trivial,zks g2 _⟩ ?_;clear hK K aN;(try simp only[zQ]);obtain⟨xs,hrow⟩:=iL.row;have hl2:=iL.lt;refine zp 8 fun K hK=>?_;refine zkP (by rfl) (.tmp 11) (.tmp 18) 65 (by rfl) n0 116 i0 _ 4 56 underlying65 hi0 hz0 hz1 hz2 rfl (by decide) (.slice Ap N cp) N xs (by rfl) (hrow.alloc _) ⟨w2.heap.size,0,none⟩ 1 1 [.int .i64 pr,.slice A2 q.length c2,.int .i64 er,.string s] (by rfl) rfl (zlE w2 _ _) (by intro u hu;simp at hu;rcases hu with rfl|rfl|rfl|rfl<;>rfl) (by unfold maxLen;omega) (by omega) (by simp;omega) ?_;intro v' w' h2 h3 h5
  have hput:=iL.put (W':=w') (pv':=v') (N':=N+1) ⟨_,h2⟩ ⟨h3.os,h3.tape,h3.output,Nat.le_trans (by simp) h3.size,fun b hb hne=>(h3.block b (by simp;omega) hne).trans (Below.heap_alloc w2 _ b hb)⟩ (fun b hb=>by rcases h5 with h5|h5;exact .inl (h5▸hb);exact .inr (by rw[h5]at hb;injection hb with hb;simp at hb;omega));have hob':∀b,v'.ownBlock=some b->(Value.slice Ap N cp).ownBlock=some b\/W.heap.size<=b:=fun b hb=>by
   have:=b2.size;rcases h5 with h5|h5
   ·exact .inl (h5▸hb)
   ·exact .inr (by rw[h5]at hb;injection hb with hb;simp at hb;omega)
  have hch:Chg (fun b=>b=fb\/(Value.slice Ap N cp).ownBlock=some b) W (w'.setCell ⟨fb,0,none⟩ v'):=(((Chg.of_below b2).alloc _).trans2 (Chg.row h3) (fun b _ h=>.inr h)).setCell (.inl (.inl rfl)) _;have hbx:=(h3.block _ (by have:=zko iL.box;simp;omega) (fun e=>iL.ne e.symm)).trans (zke iL.box _);have hy0:w'.cell? ⟨fb,0,none⟩=some (.slice Ap N cp):=zc hbx rfl;have hy1:w'.frozen? ⟨fb,0,none⟩=false:=zf hbx;obtain⟨g8,aJ,rfl⟩:=ownsRow_succ h2;have HP:=zh hput;have HO:=zh hob';have dN:=zh hch;clear hput hob' hch hbx h2 h3 h5 hrow iL;refine hK.out _ _ trivial ?_;clear hK K;(try simp only[zQ]);refine zp 9 fun K hK=>?_;(try simp only[zA,zB,zC]);go_simp;refine hK.out _ _ trivial ?_;clear hK K;(try simp only[zQ]);refine zd ?_;refine NoPanic.normal ?_;go_wp2_with fail;go_end0;exact⟨⟨_,rfl⟩,_,HP.out,HO.out,dN.out⟩
structure RepC(f:FuncId)(cap:Array Value)(Rd:World->Prop)(n0 fb:Nat):Prop where
 fn:∃fn,IsFn prog f fn
 keep:∀W W' pv N,Rd W->FS W n0 fb N pv->Chg (fun b=>b=fb\/pv.ownBlock=some b) W W'->Rd W'
 call:∀(N:Nat) (pv:Value) (er:Int) (q:List Int) (A:Option Addr) (c:Nat) (s:ByteArray) (S:Nat->Prop) (W:World),Rd W->FS W n0 fb N pv->RowI W S A q->q.length<=100000->N<=1000000 ->
  Calls prog f (#[.slice A q.length c,.string s,.int .i64 er]++cap) W (RepP W n0 fb pv (N+one1 er))
theorem FS.other{W:World}{n0 fb N:Nat}{pv:Value}{b:Nat}{cs:Array Value}{E:TypeId}(h:FS W n0 fb N pv)(hb:W.heap[b]?=some (.cells cs E (0,0)))(h1:E≠65)(h2:E≠116):¬ (b=fb\/pv.ownBlock=some b):=by
 rintro(rfl|ho)
 ·have:=h.box;rw[hb]at this;injection this with this;injection this with _ e;exact h1 e
 ·obtain⟨xs,e1,h2'⟩:=h.row;rcases h2' with⟨rfl,_⟩|⟨g,cap,cur,rfl,_,hg,_⟩
  ·simp[Value.ownBlock]at ho
  ·simp[Value.ownBlock]at ho;subst ho;rw[hb]at hg;injection hg with hg;injection hg with _ e;exact h2 e
theorem zz3:IsFn prog 74 f74:=⟨func74,by kernel_rfl,by kernel_rfl⟩
theorem zz2:IsFn prog 75 f75:=⟨func75,by kernel_rfl,by kernel_rfl⟩
theorem zsB(n0 fb rb ib:Nat)(k:Int):RepC 74 #[.pointer (some ⟨rb,0,none⟩),.pointer (some ⟨ib,0,none⟩)]
  (fun W=>W.heap[rb]?=some (.cells #[.func (.func 69) #[] #[.pointer (some ⟨fb,0,none⟩)]] 117 (0,0))/\W.heap[ib]?=some (.cells #[.int .i64 k] 3 (0,0))) n0 fb where
 fn:=⟨_,zz3⟩
 keep W W' pv N h hfs hc:=⟨hc.keep h.1 (hfs.other h.1 (by decide) (by decide)),hc.keep h.2 (hfs.other h.2 (by decide) (by decide))⟩
 call N pv er q A c s S W h hfs hq kJ hN:=by
  have x0:W.cell? ⟨rb,0,none⟩=some (.func (.func 69) #[] #[.pointer (some ⟨fb,0,none⟩)]):=zc h.1 rfl;have x1:W.cell? ⟨ib,0,none⟩=some (.int .i64 k):=zc h.2 rfl;have HC:=zh (zmD n0 fb N pv k er q A c s S W hfs hq kJ hN);clear h hfs hq
  show Calls prog 74 #[.slice A q.length c,.string s,.int .i64 er,.pointer (some ⟨rb,0,none⟩),.pointer (some ⟨ib,0,none⟩)] W _
  go_enter func74,ntmps74;go_wp2_with fail;refine HC.out.mono ?_;rintro e W' ⟨⟨v,rfl⟩,hp⟩;have HP:=zh hp;clear hp;go_wp2_with fail;go_end0;exact⟨⟨_,rfl⟩,HP.out⟩
theorem zxC(n0 fb rb pb:Nat)(A1:Option Addr)(l1 c1:Nat)(A2:Option Addr)(l2 c2:Nat)(k n:Int)(sn:ByteArray)(A3:Option Addr)(l3 c3:Nat):RepC 75 #[.pointer (some ⟨rb,0,none⟩),.pointer (some ⟨pb,0,none⟩)]
  (fun W=>W.heap[rb]?=some (.cells #[.func (.func 69) #[] #[.pointer (some ⟨fb,0,none⟩)]] 117 (0,0))/\W.heap[pb]?=some (.cells #[.slice A1 l1 c1,.slice A2 l2 c2,.int .u8 k,.int .i64 n,.string sn,.slice A3 l3 c3] 43 (0,0))) n0 fb where
 fn:=⟨_,zz2⟩
 keep W W' pv N h hfs hc:=⟨hc.keep h.1 (hfs.other h.1 (by decide) (by decide)),hc.keep h.2 (hfs.other h.2 (by decide) (by decide))⟩
 call N pv er q A c s S W h hfs hq kJ hN:=by
  have x0:W.cell? ⟨rb,0,none⟩=some (.func (.func 69) #[] #[.pointer (some ⟨fb,0,none⟩)]):=zc h.1 rfl;have x1:W.cell? ⟨pb,1,none⟩=some (.slice A2 l2 c2):=zc h.2 rfl;have HC:=zh (zmD n0 fb N pv l2 er q A c s S W hfs hq kJ hN);clear h hfs hq
  show Calls prog 75 #[.slice A q.length c,.string s,.int .i64 er,.pointer (some ⟨rb,0,none⟩),.pointer (some ⟨pb,0,none⟩)] W _
  go_enter func75,ntmps75;go_wp2_with fail;refine HC.out.mono ?_;rintro e W' ⟨⟨v,rfl⟩,hp⟩;have HP:=zh hp;clear hp;go_wp2_with fail;go_end0;exact⟨⟨_,rfl⟩,HP.out⟩
def cntA(ps:List PR)(s:ByteArray)(l:Nat):Nat->List T->List VD->Nat
 | _,[],_=>0
 | i,t::ts,vs=>one1 (argE ps s l i t.s vs)+cntA ps s l (i+1) ts vs
mutual
/-- How many faults scope.visit reports. -/
def cntV(ps:List PR):T->List VD->Nat
 | .nd k _ s ks,vs=>one1 (zls ps k s ks.length vs)+(if k=50\/k=51 then cntA ps s ks.length 0 ks vs else cntK ps k s 0 ks vs)
def cntK(ps:List PR)(k:Int)(s:ByteArray):Nat->List T->List VD->Nat
 | _,[],_=>0
 | i,t::ts,vs=>cntV ps t (zmu k s i vs)+cntK ps k s (i+1) ts vs
end
theorem zoC(ps:List PR)(s:ByteArray)(l:Nat)(vs:List VD):∀(a b:List T) (i:Nat),cntA ps s l i (a++b) vs=cntA ps s l i a vs+cntA ps s l (i+a.length) b vs
 | [],b,i=>by simp[cntA]
 | t::ts,b,i=>by simp[cntA,zoC ps s l vs ts b (i+1),Nat.add_assoc,Nat.add_comm 1 ts.length]
theorem zoB(ps:List PR)(k:Int)(s:ByteArray)(vs:List VD):∀(a b:List T) (i:Nat),cntK ps k s i (a++b) vs=cntK ps k s i a vs+cntK ps k s (i+a.length) b vs
 | [],b,i=>by simp[cntK]
 | t::ts,b,i=>by simp[cntK,zoB ps k s vs ts b (i+1),Nat.add_assoc,Nat.add_comm 1 ts.length]
theorem zqN(ps:List PR)(s:ByteArray)(l:Nat)(vs:List VD){ks:List T}{j:Nat}(h:j<ks.length):cntA ps s l 0 (ks.take (j+1)) vs=cntA ps s l 0 (ks.take j) vs+one1 (argE ps s l j ks[j].s vs):=by
 rw[List.take_succ_eq_append_getElem h,zoC];have:(ks.take j).length=j:=by simp;omega
 simp[cntA,this]
theorem zuX(ps:List PR)(k:Int)(s:ByteArray)(vs:List VD){ks:List T}{j:Nat}(h:j<ks.length):cntK ps k s 0 (ks.take (j+1)) vs=cntK ps k s 0 (ks.take j) vs+cntV ps ks[j] (zmu k s j vs):=by
 rw[List.take_succ_eq_append_getElem h,zoB];have:(ks.take j).length=j:=by simp;omega
 simp[cntK,this]
theorem zmQ(e:Int):one1 e<=1:=by unfold one1;split<;>omega
theorem zrW(t:T):1<=size t:=by cases t;rw[size];omega
theorem zpV(ps:List PR)(s:ByteArray)(l:Nat)(vs:List VD):∀(ks:List T) (i:Nat),cntA ps s l i ks vs<=zkW ks
 | [],i=>by simp[cntA]
 | t::ts,i=>by
  have h1:=zpV ps s l vs ts (i+1);have h2:=zmQ (argE ps s l i t.s vs);have h3:=zrW t;simp only[cntA,zkW];omega
theorem zrs(ps:List PR)(k:Int)(s:ByteArray):∀(ks:List T),(∀t∈ks,∀vs,cntV ps t vs<=size t)->∀(i:Nat) (vs:List VD),cntK ps k s i ks vs<=zkW ks
 | [],_,i,vs=>by simp[cntK]
 | t::ts,h,i,vs=>by
  have h1:=zrs ps k s ts (fun u hu=>h u (by simp[hu])) (i+1) vs;have h2:=h t (by simp) (zmu k s i vs);simp only[cntK,zkW];omega
theorem zuU(ps:List PR)(t:T):∀vs,cntV ps t vs<=size t:=by
 induction t using T.ind with
 | _ k n s ks ih =>
 intro vs;rw[cntV,size];have h1:=zmQ (zls ps k s ks.length vs);have h2:=zpV ps s ks.length vs ks 0;have h3:=zrs ps k s ks ih 0 vs
 split<;>omega
theorem zlI:∀(ks:List T) (j:Nat),zkW (ks.take j)<=zkW ks
 | [],j=>by simp[zkW]
 | t::ts,0=>by simp[zkW]
 | t::ts,j+1=>by have:=zlI ts j;simp only[List.take_succ_cons,zkW];omega
theorem zs0(k:Int)(s:ByteArray)(i:Nat)(vs:List VD):(zmu k s i vs).length<=vs.length+1:=by unfold zmu;split;simp;split<;>simp
theorem PV.keep{w w':World}{S S':Nat->Prop}{p:PG}{v:Value}(h:PV w S p v)(hS:∀b,S b->b<w.heap.size->S' b)(hk:∀b,S b->b<w.heap.size->w'.heap[b]?=w.heap[b]?):PV w' S' p v :=
 let ⟨A1,c1,A2,c2,A3,c3,e,h⟩:=h;⟨A1,c1,A2,c2,A3,c3,e,h.keep hS hk⟩
structure VsI(Rd:World->Prop)(n0 fb:Nat)(Wb:World)(pv:Value)(N:Nat)(wr:World)(pv':Value):Prop where
 rd:Rd wr
 fs:FS wr n0 fb N pv'
 own:∀b,pv'.ownBlock=some b->pv.ownBlock=some b\/Wb.heap.size<=b
 chg:Chg (fun b=>b=fb\/pv.ownBlock=some b) Wb wr
theorem VsI.step{f:FuncId}{cap:Array Value}{Rd:World->Prop}{n0 fb:Nat}{Wb wr w5 W6:World}{pv pv':Value}{N N':Nat}{e:Ending}(hr:RepC f cap Rd n0 fb)(h:VsI Rd n0 fb Wb pv N wr pv')(hb:Below wr.heap.size wr w5)(hp:RepP w5 n0 fb pv' N' e W6) :
  ∃jo,VsI Rd n0 fb Wb pv N' W6 jo:=by
 obtain⟨_,jo,hfs,aj,hc⟩:=hp;have tH:=h.fs.later hb;have hz:=h.chg.size;have oW:=hb.size;refine⟨jo,hr.keep w5 W6 pv' N (hr.keep wr w5 pv' N h.rd h.fs (Chg.of_below hb)) tH hc,hfs,fun b hb'=>?_,(h.chg.trans (Chg.of_below hb)).trans2 hc fun b hlt hh=>?_⟩
 ·rcases aj b hb' with h1|h1
  ·exact h.own b h1
  ·exact .inr (by omega)
 ·rcases hh with hh|hh
  ·exact .inl hh
  ·rcases h.own b hh with h1|h1
   ·exact .inr h1
   ·omega
theorem VsI.rep{Rd:World->Prop}{n0 fb:Nat}{W Wb w:World}{pw pv':Value}{N':Nat}{e:Ending}(h:VsI Rd n0 fb Wb pw N' w pv')(hb:Below W.heap.size W Wb)(he:∃v,e=.returned v):RepP W n0 fb pw N' e w :=
 ⟨he,pv',h.fs,fun b hh=>(h.own b hh).imp id fun h1=>by have:=hb.size;omega,(Chg.of_below hb).trans h.chg⟩
def IsW(x:Value)(w:World)(v:Value)(w':World):Prop:=v=x/\Below w.heap.size w w'
theorem znI{P:Program}{f:FuncId}{args:Array Value}{w:World}{x:Value}(h:Calls P f args w fun e w'=>e=.returned x/\Below w.heap.size w w'):Calls P f args w fun e w'=>∃v,e=.returned v/\IsW x w v w' :=
 h.mono fun _ _ ⟨he,hb⟩=>⟨_,he,rfl,hb⟩
def RepV(W:World)(n0 fb:Nat)(pv:Value)(N':Nat)(_:Value)(W':World):Prop:=RepP W n0 fb pv N' (.returned undef) W'
theorem zmq{P:Program}{f:FuncId}{args:Array Value}{W:World}{n0 fb N':Nat}{pv:Value}(h:Calls P f args W (RepP W n0 fb pv N')):Calls P f args W fun e w'=>∃v,e=.returned v/\RepV W n0 fb pv N' v w' :=
 h.mono fun _ _ ⟨⟨v,he⟩,hp⟩=>⟨v,he,⟨_,rfl⟩,hp⟩
def zKq(w:World)(S:Nat->Prop)(vs:List VD)(v:Value)(w':World):Prop:=∃A' c',v=.slice A' vs.length c'/\RowV w' (fun b=>S b\/w.heap.size<=b) A' vs/\vs.length<=c'/\Below w.heap.size w w'
theorem ztP{P:Program}{f:FuncId}{args:Array Value}{w:World}{S:Nat->Prop}{vs:List VD}(h:Calls P f args w (zxp w S vs)):Calls P f args w fun e w'=>∃v,e=.returned v/\zKq w S vs v w' :=
 h.mono fun _ _ ⟨A,c,he,hn⟩=>⟨_,he,A,c,rfl,hn⟩
theorem zyP:IsFn prog 113 f113:=⟨func113,by kernel_rfl,by kernel_rfl⟩
theorem zpa:IsFn prog 115 f115:=⟨func115,by kernel_rfl,by kernel_rfl⟩
theorem zrp:IsFn prog 114 f114:=⟨func114,by kernel_rfl,by kernel_rfl⟩
theorem zyN:IsFn prog 84 f84:=⟨func84,by kernel_rfl,by kernel_rfl⟩
theorem zyJ:IsFn prog 73 f73:=⟨func73,by kernel_rfl,by kernel_rfl⟩
theorem znq(f:FuncId)(cap:Array Value)(Rd:World->Prop)(n0 fb:Nat)(hrep:RepC f cap Rd n0 fb)(p:PG)(t:T) :
  ∀(S:Nat->Prop) (vs:List VD) (A:Option Addr) (c:Nat) (q:List Int) (Aq:Option Addr) (cq N:Nat) (pw:Value) (W:World) (v1 v2:Value),Rd W->FS W n0 fb N pw->PV W S p v1->NV W S t v2->RowV W S A vs->vs.length<=c->RowI W S Aq q->q.length<=cq ->
   (∀b,S b->b<W.heap.size->¬ (b=fb\/pw.ownBlock=some b))->q.length+dep t<=50000->vs.length+dep t<=50000->N+size t<=1000000 ->
   Calls prog 73 #[v1,v2,.slice Aq q.length cq,.slice A vs.length c,.func (.func f) #[] cap] W (RepP W n0 fb pw (N+cntV p.prs t vs)):=by
 obtain⟨fn,hfn⟩:=hrep.fn;have aY:=zh hrep;clear hrep
 induction t using T.ind with
 | _ tk tn ts ks ih =>
 intro S vs A c q Aq cq N pw W v1 v2 hrd hfs hv1 hv2 hrow hlc hqr hqc hfar qX hdv hN;have xQ:=zh ih;have hvv:=hv1;obtain⟨A1,c1,A2,c2,A3,c3,rfl,-⟩:=hv1;obtain⟨L1,hL1⟩:=zX (p.vs.length);obtain⟨L2,hL2⟩:=zX (p.prs.length);obtain⟨k,hk⟩:=zX (p.m.k);obtain⟨n,hn⟩:=zX (p.m.n);obtain⟨s,hs⟩:=zX (p.m.s);obtain⟨l3,hl3⟩:=zX (p.m.ks.length);rw[hL1,hL2,hk,hn,hs,hl3];rw[hL1,hL2,hk,hn,hs,hl3]at hvv;have xy:=zh hvv;clear ih hvv hL1 hL2 hk hn hs hl3;have iV:=zh hv2;obtain⟨B,tc,rfl,_,hlk,_,iI⟩:=hv2.open_;simp only[T.k_nd,T.n_nd,T.s_nd,T.ks_nd]at *
 have aC:=zkI hlk;rw[dep]at qX hdv;rw[size]at hN;have hksz:ks.length<=1000000:=by
  have:∀l:List T,l.length<=zkW l:=fun l=>by
   induction l with
   | nil=>simp
   | cons t ts ih=>have:=zrW t;simp only[List.length_cons,zkW];omega
  have:=this ks;omega
 have qx:=zh iI;have af:=zh hrow;have nQ:=zh hlc;have HQR:=zh hqr;have BR:=zh hqc;have oJ:=zh hrd;have xW:=zh hfs;have HFAR:=zh hfar;have hlv:vs.length<=LV:=by unfold LV;omega
 have qC:=zh hlv;have hfl:=hfs.lt;have za:=zh hfl;obtain⟨CC,Bq⟩:=zX (cntV p.prs (.nd tk tn ts ks) vs);rw[Bq];have aZ:=zh Bq;obtain⟨E0,hE0⟩:=zX (zls p.prs tk ts ks.length vs);have uW:=zh hE0;have hE1:=zmQ E0;clear iI hrow hlc hqr hqc hrd hfs hfar hlk hlv hv2 hfl Bq hE0;go_enter func73,ntmps73;go_upto_region 1 with fail;have hbw:Below W.heap.size W ((W.alloc (.cells #[.slice A1 L1 c1,.slice A2 L2 c2,.int .u8 k,.int .i64 n,.string s,.slice A3 l3 c3] 43)).alloc (.cells #[.int .u8 tk,.int .i64 tn,.string ts,.slice B ks.length tc] 41)):=zkb (zkb zr _) _;have qY:=zke (heap_alloc_new W (.cells #[.slice A1 L1 c1,.slice A2 L2 c2,.int .u8 k,.int .i64 n,.string s,.slice A3 l3 c3] 43)) (.cells #[.int .u8 tk,.int .i64 tn,.string ts,.slice B ks.length tc] 41)
 have hbN:=heap_alloc_new (W.alloc (.cells #[.slice A1 L1 c1,.slice A2 L2 c2,.int .u8 k,.int .i64 n,.string s,.slice A3 l3 c3] 43)) (.cells #[.int .u8 tk,.int .i64 tn,.string ts,.slice B ks.length tc] 41);simp only[World.size_alloc]at hbN;obtain⟨Wb,tZ⟩:=zX ((W.alloc (.cells #[.slice A1 L1 c1,.slice A2 L2 c2,.int .u8 k,.int .i64 n,.string s,.slice A3 l3 c3] 43)).alloc (.cells #[.int .u8 tk,.int .i64 tn,.string ts,.slice B ks.length tc] 41));rw[tZ]at hbw qY hbN ⊢;have cZ:=zh (show Wb.heap.size=W.heap.size+2 by rw[<-tZ];simp);have iF:=zh hbw;have HBP:=zh qY;have kF:=zh hbN
 have fw:=zh (show ∀w':World,w'.heap[W.heap.size]?=Wb.heap[W.heap.size]?->w'.heap[W.heap.size+1]?=Wb.heap[W.heap.size+1]?->(fun w':World=>(zN6 w' W.heap.size (.slice A1 L1 c1) (.slice A2 L2 c2) (.int .u8 k) (.int .i64 n) (.string s) (.slice A3 l3 c3))/\zN4 w' (W.heap.size+1) (.int .u8 tk) (.int .i64 tn) (.string ts) (.slice B ks.length tc)) w' from fun w' h1 h2=>⟨box6 (h1.trans qY),box4 (h2.trans hbN)⟩)
 have ma:=zh (show ∀w':World,Chg (fun b=>b=fb\/pw.ownBlock=some b) Wb w'->(fun w':World=>(zN6 w' W.heap.size (.slice A1 L1 c1) (.slice A2 L2 c2) (.int .u8 k) (.int .i64 n) (.string s) (.slice A3 l3 c3))/\zN4 w' (W.heap.size+1) (.int .u8 tk) (.int .i64 tn) (.string ts) (.slice B ks.length tc)) w' from fun w' h=>fw.out w' (h.block _ (by have:=cZ.out;omega) (fun hh=>by rcases hh with hh|hh;(have:=za.out.1;omega);(have:=(za.out.2 _ hh).2;omega))) (h.block _ (by have:=cZ.out;omega) (fun hh=>by rcases hh with hh|hh;(have:=za.out.1;omega);(have:=(za.out.2 _ hh).2;omega))));have oU:=zh (show ∀w':World,Chg (fun b=>b=fb\/pw.ownBlock=some b) Wb w'->∀b,S b->b<W.heap.size->w'.heap[b]?=W.heap[b]? from fun w' h b hb hlt=>(h.block b (by have:=cZ.out;omega) (HFAR.out b hb hlt)).trans (iF.out.block b hlt))
 have hi0:VsI Rd n0 fb Wb pw N Wb pw:=⟨aY.out.keep W Wb pw N oJ.out xW.out (Chg.of_below hbw),xW.out.later hbw,fun b hb=>.inl hb,Chg.refl _ _⟩
 have HI0:=zh hi0;clear tZ hbw qY hbN hi0;have hdr:=(zs Wb).drew;have hSS:zW (fun w':World=>(zN6 w' W.heap.size (.slice A1 L1 c1) (.slice A2 L2 c2) (.int .u8 k) (.int .i64 n) (.string s) (.slice A3 l3 c3))/\zN4 w' (W.heap.size+1) (.int .u8 tk) (.int .i64 tn) (.string ts) (.slice B ks.length tc)) zU Wb.drew:=⟨ma.out _ (Chg.of_below hdr),trivial⟩
 refine wp_region_noPanic ?_;refine zG hSS 20 ?_;refine zT 0 hSS ?_;refine zT 1 hSS ?_;refine zT 2 hSS ?_;refine zT 3 hSS ?_;refine zT 4 hSS ?_;refine zT 5 hSS ?_;refine zT 6 hSS ?_;refine zo 7 fun K hK=>?_;refine zkd (by rfl) (.func 113) [.tmp 18,.tmp 19,.tmp 20] _ (by rfl) 113 _ zyP (by rfl) _ (by rfl) _ (znI (zuL p (.nd tk tn ts ks) vs A c S S S _ _ _ (xy.out.later (zka iF.out hdr)) (iV.out.later (zka iF.out hdr)) (af.out.later (zka iF.out hdr)) qC.out)) ?_;rintro vq w2 ⟨rfl,au⟩;simp only[T.k_nd,T.s_nd,T.ks_nd];rw[uW.out];have b2:=zka hdr au;have aN:=zV hSS (ma.out _ (Chg.of_below b2)) trivial;refine hK.out _ _ aN ?_;clear hK K hSS;(try simp only[zQ]);refine zo 8 fun K hK=>?_
 refine zk5 (by rfl) (.tmp 14) [.tmp 15,.tmp 17,.tmp 21] _ (by rfl) f fn hfn cap (by rfl) _ (by rfl) _ (zmq (aY.out.call N pw E0 q Aq cq ts S w2 (aY.out.keep Wb w2 pw N HI0.out.rd HI0.out.fs (Chg.of_below b2)) (HI0.out.fs.later b2) ((HQR.out.later iF.out).later b2) (by omega) (by omega))) ?_;rintro vq W3 hp3;obtain⟨pv3,hi3⟩:=HI0.out.step aY.out b2 hp3;have bU:=zV aN (ma.out _ hi3.chg) trivial;refine hK.out _ _ bU ?_;clear hK K aN;(try simp only[zQ]);refine zd ?_;refine NoPanic.normal ?_;obtain⟨⟨a0,a1,a2,a3,a4,a5⟩,b0,b1,b2',b3⟩:=bU.1;have HI3:=zh hi3;clear bU hi3 hp3 b2 au hdr HI0
 have HD:=zh (show ∀w':World,Chg (fun b=>b=fb\/pw.ownBlock=some b) Wb w'->PV w' (fun b=>S b/\b<W.heap.size) p _/\NV w' (fun b=>S b/\b<W.heap.size) (.nd tk tn ts ks) _/\RowV w' (fun b=>S b/\b<W.heap.size) A vs/\RowI w' (fun b=>S b/\b<W.heap.size) Aq q/\zma w' (fun b=>S b/\b<W.heap.size) B ks from fun w' h=>⟨xy.out.keep (fun b hb hlt=>⟨hb,hlt⟩) (oU.out w' h),iV.out.keep (fun b hb hlt=>⟨hb,hlt⟩) (oU.out w' h),af.out.keep (fun b hb hlt=>⟨hb,hlt⟩) (oU.out w' h),HQR.out.keep (fun b hb hlt=>⟨hb,hlt⟩) (oU.out w' h),qx.out.keep (fun b hb hlt=>⟨hb,hlt⟩) (oU.out w' h)⟩);by_cases hcall:tk=50\/tk=51
 ·rcases hcall with rfl|rfl
  ·go_wp2_with fail
   go_loopw [34] (fun i wr=>∃(j:Nat) (pv':Value),j<=ks.length/\i=.int .i64 j/\VsI Rd n0 fb Wb pw (N+one1 E0+cntA p.prs ts ks.length 0 (ks.take j) vs) wr pv') (fun i _=>ks.length-(intOf i).toNat)
   case atStart=>exact⟨0,_,Nat.zero_le _,rfl,by simpa[cntA]using HI3.out⟩
   case round =>
    obtain⟨j,pv',hj,rfl,hinv⟩:=hrel;have ah:=zh hinv;clear HI3;by_cases hlt:j<ks.length
    ·obtain⟨-,-,-,-,iI⟩:=HD.out wr hinv.chg;obtain⟨a,u,A4,c4,rfl,hsa,Hu,⟨q0,q1,q2,q3⟩,hnu⟩:=iI.nd hlt;have xJ:=zh hnu;clear hinv iI hnu hsa;go_upto_region 6 with fail;have hbk:Below wr.heap.size wr (wr.alloc (.cells #[.int .u8 u.k,.int .i64 u.n,.string u.s,.slice A4 u.ks.length c4] 41)):=zkb zr _;have eX:=heap_alloc_new wr (.cells #[.int .u8 u.k,.int .i64 u.n,.string u.s,.slice A4 u.ks.length c4] 41);obtain⟨wk,hwk⟩:=zX (wr.alloc (.cells #[.int .u8 u.k,.int .i64 u.n,.string u.s,.slice A4 u.ks.length c4] 41));rw[hwk]at hbk eX ⊢;have fM:=zh (show wk.heap.size=wr.heap.size+1 by rw[<-hwk];simp);have aD:=zh hbk;have iG:=zh eX;clear hwk hbk eX
     have cz:=zh (show ∀w':World,Below wk.heap.size wk w'->(fun w':World=>(zN6 w' W.heap.size (.slice A1 L1 c1) (.slice A2 L2 c2) (.int .u8 k) (.int .i64 n) (.string s) (.slice A3 l3 c3)/\zN4 w' (W.heap.size+1) (.int .u8 50) (.int .i64 tn) (.string ts) (.slice (some a) ks.length tc))/\zN4 w' wr.heap.size (.int .u8 u.k) (.int .i64 u.n) (.string u.s) (.slice A4 u.ks.length c4)) w'/\zU w' from fun w' h=>⟨⟨ma.out w' (ah.out.chg.trans (Chg.of_below (zka aD.out h))),box4 ((h.block _ (by have:=fM.out;omega)).trans iG.out)⟩,trivial⟩);have hdr:=(zs wk).drew;have hSS:=cz.out _ hdr;refine wp_region_noPanic ?_
     refine zkk (fun w':World=>(zN6 w' W.heap.size (.slice A1 L1 c1) (.slice A2 L2 c2) (.int .u8 k) (.int .i64 n) (.string s) (.slice A3 l3 c3)/\zN4 w' (W.heap.size+1) (.int .u8 50) (.int .i64 tn) (.string ts) (.slice (some a) ks.length tc))/\zN4 w' wr.heap.size (.int .u8 u.k) (.int .i64 u.n) (.string u.s) (.slice A4 u.ks.length c4)) zU 40 (by kernel_rfl) ?_;refine zT 0 hSS ?_;refine zT 1 hSS ?_;refine zT 2 hSS ?_;refine zT 4 hSS ?_;refine zT 5 hSS ?_;refine zT 6 hSS ?_;refine zT 7 hSS ?_;refine zT 8 hSS ?_;refine zT 9 hSS ?_;refine zo 3 fun K hK=>?_;refine zkd (by rfl) (.func 114) [.tmp 40,.tmp 41] _ (by rfl) 114 _ zrp (by rfl) _ (by rfl) _ (znU (zoE q Aq cq (j:Int) ⟨by omega,by omega⟩ _ _ (HD.out _ (ah.out.chg.trans (Chg.of_below (zka aD.out hdr)))).2.2.2.1 BR.out (by omega))) ?_;rintro vq w2 ⟨Ac,cc,rfl,hrc,hcc,au⟩;have b2:=zka hdr au
     have aN:=cz.out _ b2;refine hK.out _ _ aN ?_;clear hK K hSS;(try simp only[zQ]);refine zo 10 fun K hK=>?_;refine zkd (by rfl) (.func 115) [.tmp 45,.tmp 46,.tmp 47,.tmp 48] _ (by rfl) 115 _ zpa (by rfl) _ (by rfl) _ (znI (znM p (.nd 50 tn ts ks) j hlt vs A c _ _ _ _ _ _ (HD.out _ (ah.out.chg.trans (Chg.of_below (zka aD.out b2)))).1 (HD.out _ (ah.out.chg.trans (Chg.of_below (zka aD.out b2)))).2.1 (HD.out _ (ah.out.chg.trans (Chg.of_below (zka aD.out b2)))).2.2.1 qC.out)) ?_;rintro vq w3 ⟨rfl,cK⟩;simp only[T.k_nd,T.s_nd,T.ks_nd];have b3:=zka b2 cK;have bU:=cz.out _ b3;refine hK.out _ _ bU ?_;clear hK K aN;(try simp only[zQ]);refine zo 11 fun K hK=>?_;have hcl:cntA p.prs ts ks.length 0 (ks.take j) vs<=zkW ks:=Nat.le_trans (zpV _ _ _ _ _ _) (zlI _ _);have hF:=ah.out.fs.later (zka aD.out b3)
     have hR:=aY.out.keep _ _ _ _ ah.out.rd ah.out.fs (Chg.of_below (zka aD.out b3));refine zk5 (by rfl) (.tmp 39) [.tmp 42,.tmp 44,.tmp 49] _ (by rfl) f fn hfn cap (by rfl) _ (by rfl) _ (zmq (aY.out.call _ pv' _ (q++[(j:Int)]) Ac cc u.s _ w3 hR hF (hrc.later cK) (by simp;omega) (by omega))) ?_;rintro vq W6 hp;obtain⟨jg,bM⟩:=ah.out.step aY.out (zka aD.out b3) hp;have bK:VsI Rd n0 fb Wb pw (N+one1 E0+cntA p.prs ts ks.length 0 (ks.take (j+1)) vs) W6 jg:=by rw[zqN p.prs ts ks.length vs hlt];simpa[Nat.add_assoc]using bM
     have aA:zW (fun w':World=>(zN6 w' W.heap.size (.slice A1 L1 c1) (.slice A2 L2 c2) (.int .u8 k) (.int .i64 n) (.string s) (.slice A3 l3 c3)/\zN4 w' (W.heap.size+1) (.int .u8 50) (.int .i64 tn) (.string ts) (.slice (some a) ks.length tc))/\zN4 w' wr.heap.size (.int .u8 u.k) (.int .i64 u.n) (.string u.s) (.slice A4 u.ks.length c4)) zU W6:=⟨⟨ma.out _ bK.chg,box4 ((hp.2.elim fun _ h=>h.2.2.block _ (by have:=(zka aD.out b3).size;have:=b3.size;have:=fM.out;omega) (fun hh=>by have hl:=ah.out.fs.lt;rcases hh with hh|hh;(have:=hl.1;omega);(have:=(hl.2 _ hh).2;omega))).trans ((b3.block _ (by have:=fM.out;omega)).trans iG.out))⟩,trivial⟩
     refine hK.out _ _ aA ?_;clear hK K bU;(try simp only[zQ]);refine zd ?_;refine NoPanic.normal ?_;have jm:=zh bK;clear bK bM hp aA hF hR;go_wp2_with fail
     go_roundw
     case rel=>exact⟨j+1,_,by omega,by go_num,jm.out⟩
     case measure=>simp[intOf];omega
    ·obtain rfl:j=ks.length:=by omega
     clear hinv;go_wp2_with fail;(try simp only[Exit.inBlock,Exit.then]);refine bodyPost_ret (results_none rfl _ _ _) rfl ?_;have hinv:=ah.out;rw[List.take_of_length_le zl]at hinv;have hcc:=aZ.out;rw[cntV,uW.out,if_pos (by decide)]at hcc;rw[<-hcc,<-Nat.add_assoc];exact hinv.rep iF.out ⟨_,rfl⟩
  ·go_wp2_with fail
   go_loopw [34] (fun i wr=>∃(j:Nat) (pv':Value),j<=ks.length/\i=.int .i64 j/\VsI Rd n0 fb Wb pw (N+one1 E0+cntA p.prs ts ks.length 0 (ks.take j) vs) wr pv') (fun i _=>ks.length-(intOf i).toNat)
   case atStart=>exact⟨0,_,Nat.zero_le _,rfl,by simpa[cntA]using HI3.out⟩
   case round =>
    obtain⟨j,pv',hj,rfl,hinv⟩:=hrel;have ah:=zh hinv;clear HI3;by_cases hlt:j<ks.length
    ·obtain⟨-,-,-,-,iI⟩:=HD.out wr hinv.chg;obtain⟨a,u,A4,c4,rfl,hsa,Hu,⟨q0,q1,q2,q3⟩,hnu⟩:=iI.nd hlt;have xJ:=zh hnu;clear hinv iI hnu hsa;go_upto_region 6 with fail;have hbk:Below wr.heap.size wr (wr.alloc (.cells #[.int .u8 u.k,.int .i64 u.n,.string u.s,.slice A4 u.ks.length c4] 41)):=zkb zr _;have eX:=heap_alloc_new wr (.cells #[.int .u8 u.k,.int .i64 u.n,.string u.s,.slice A4 u.ks.length c4] 41);obtain⟨wk,hwk⟩:=zX (wr.alloc (.cells #[.int .u8 u.k,.int .i64 u.n,.string u.s,.slice A4 u.ks.length c4] 41));rw[hwk]at hbk eX ⊢;have fM:=zh (show wk.heap.size=wr.heap.size+1 by rw[<-hwk];simp);have aD:=zh hbk;have iG:=zh eX;clear hwk hbk eX
     have cz:=zh (show ∀w':World,Below wk.heap.size wk w'->(fun w':World=>(zN6 w' W.heap.size (.slice A1 L1 c1) (.slice A2 L2 c2) (.int .u8 k) (.int .i64 n) (.string s) (.slice A3 l3 c3)/\zN4 w' (W.heap.size+1) (.int .u8 51) (.int .i64 tn) (.string ts) (.slice (some a) ks.length tc))/\zN4 w' wr.heap.size (.int .u8 u.k) (.int .i64 u.n) (.string u.s) (.slice A4 u.ks.length c4)) w'/\zU w' from fun w' h=>⟨⟨ma.out w' (ah.out.chg.trans (Chg.of_below (zka aD.out h))),box4 ((h.block _ (by have:=fM.out;omega)).trans iG.out)⟩,trivial⟩);have hdr:=(zs wk).drew;have hSS:=cz.out _ hdr;refine wp_region_noPanic ?_
     refine zkk (fun w':World=>(zN6 w' W.heap.size (.slice A1 L1 c1) (.slice A2 L2 c2) (.int .u8 k) (.int .i64 n) (.string s) (.slice A3 l3 c3)/\zN4 w' (W.heap.size+1) (.int .u8 51) (.int .i64 tn) (.string ts) (.slice (some a) ks.length tc))/\zN4 w' wr.heap.size (.int .u8 u.k) (.int .i64 u.n) (.string u.s) (.slice A4 u.ks.length c4)) zU 40 (by kernel_rfl) ?_;refine zT 0 hSS ?_;refine zT 1 hSS ?_;refine zT 2 hSS ?_;refine zT 4 hSS ?_;refine zT 5 hSS ?_;refine zT 6 hSS ?_;refine zT 7 hSS ?_;refine zT 8 hSS ?_;refine zT 9 hSS ?_;refine zo 3 fun K hK=>?_;refine zkd (by rfl) (.func 114) [.tmp 40,.tmp 41] _ (by rfl) 114 _ zrp (by rfl) _ (by rfl) _ (znU (zoE q Aq cq (j:Int) ⟨by omega,by omega⟩ _ _ (HD.out _ (ah.out.chg.trans (Chg.of_below (zka aD.out hdr)))).2.2.2.1 BR.out (by omega))) ?_;rintro vq w2 ⟨Ac,cc,rfl,hrc,hcc,au⟩;have b2:=zka hdr au
     have aN:=cz.out _ b2;refine hK.out _ _ aN ?_;clear hK K hSS;(try simp only[zQ]);refine zo 10 fun K hK=>?_;refine zkd (by rfl) (.func 115) [.tmp 45,.tmp 46,.tmp 47,.tmp 48] _ (by rfl) 115 _ zpa (by rfl) _ (by rfl) _ (znI (znM p (.nd 51 tn ts ks) j hlt vs A c _ _ _ _ _ _ (HD.out _ (ah.out.chg.trans (Chg.of_below (zka aD.out b2)))).1 (HD.out _ (ah.out.chg.trans (Chg.of_below (zka aD.out b2)))).2.1 (HD.out _ (ah.out.chg.trans (Chg.of_below (zka aD.out b2)))).2.2.1 qC.out)) ?_;rintro vq w3 ⟨rfl,cK⟩;simp only[T.k_nd,T.s_nd,T.ks_nd];have b3:=zka b2 cK;have bU:=cz.out _ b3;refine hK.out _ _ bU ?_;clear hK K aN;(try simp only[zQ]);refine zo 11 fun K hK=>?_;have hcl:cntA p.prs ts ks.length 0 (ks.take j) vs<=zkW ks:=Nat.le_trans (zpV _ _ _ _ _ _) (zlI _ _);have hF:=ah.out.fs.later (zka aD.out b3)
     have hR:=aY.out.keep _ _ _ _ ah.out.rd ah.out.fs (Chg.of_below (zka aD.out b3));refine zk5 (by rfl) (.tmp 39) [.tmp 42,.tmp 44,.tmp 49] _ (by rfl) f fn hfn cap (by rfl) _ (by rfl) _ (zmq (aY.out.call _ pv' _ (q++[(j:Int)]) Ac cc u.s _ w3 hR hF (hrc.later cK) (by simp;omega) (by omega))) ?_;rintro vq W6 hp;obtain⟨jg,bM⟩:=ah.out.step aY.out (zka aD.out b3) hp;have bK:VsI Rd n0 fb Wb pw (N+one1 E0+cntA p.prs ts ks.length 0 (ks.take (j+1)) vs) W6 jg:=by rw[zqN p.prs ts ks.length vs hlt];simpa[Nat.add_assoc]using bM
     have aA:zW (fun w':World=>(zN6 w' W.heap.size (.slice A1 L1 c1) (.slice A2 L2 c2) (.int .u8 k) (.int .i64 n) (.string s) (.slice A3 l3 c3)/\zN4 w' (W.heap.size+1) (.int .u8 51) (.int .i64 tn) (.string ts) (.slice (some a) ks.length tc))/\zN4 w' wr.heap.size (.int .u8 u.k) (.int .i64 u.n) (.string u.s) (.slice A4 u.ks.length c4)) zU W6:=⟨⟨ma.out _ bK.chg,box4 ((hp.2.elim fun _ h=>h.2.2.block _ (by have:=(zka aD.out b3).size;have:=b3.size;have:=fM.out;omega) (fun hh=>by have hl:=ah.out.fs.lt;rcases hh with hh|hh;(have:=hl.1;omega);(have:=(hl.2 _ hh).2;omega))).trans ((b3.block _ (by have:=fM.out;omega)).trans iG.out))⟩,trivial⟩
     refine hK.out _ _ aA ?_;clear hK K bU;(try simp only[zQ]);refine zd ?_;refine NoPanic.normal ?_;have jm:=zh bK;clear bK bM hp aA hF hR;go_wp2_with fail
     go_roundw
     case rel=>exact⟨j+1,_,by omega,by go_num,jm.out⟩
     case measure=>simp[intOf];omega
    ·obtain rfl:j=ks.length:=by omega
     clear hinv;go_wp2_with fail;(try simp only[Exit.inBlock,Exit.then]);refine bodyPost_ret (results_none rfl _ _ _) rfl ?_;have hinv:=ah.out;rw[List.take_of_length_le zl]at hinv;have hcc:=aZ.out;rw[cntV,uW.out,if_pos (by decide)]at hcc;rw[<-hcc,<-Nat.add_assoc];exact hinv.rep iF.out ⟨_,rfl⟩
 ·obtain⟨h50,lU⟩:=not_or.1 hcall;have hd50:(tk==50)=false:=beq_false_of_ne h50;have hd51:(tk==51)=false:=beq_false_of_ne lU;go_wp2_with fail
  go_loopw [55] (fun i wr=>∃(j:Nat) (pv':Value),j<=ks.length/\i=.int .i64 j/\VsI Rd n0 fb Wb pw (N+one1 E0+cntK p.prs tk ts 0 (ks.take j) vs) wr pv') (fun i _=>ks.length-(intOf i).toNat)
  case atStart=>exact⟨0,_,Nat.zero_le _,rfl,by simpa[cntK]using HI3.out⟩
  case round =>
   obtain⟨j,pv',hj,rfl,hinv⟩:=hrel;have ah:=zh hinv;clear HI3;by_cases hlt:j<ks.length
   ·obtain⟨-,-,-,-,iI⟩:=HD.out wr hinv.chg;obtain⟨a,u,A4,c4,rfl,hsa,Hu,⟨q0,q1,q2,q3⟩,hnu⟩:=iI.nd hlt;have xJ:=zh hnu;clear hinv iI hnu hsa;go_upto_region 11 with fail;have hbk:Below wr.heap.size wr (wr.alloc (.cells #[.int .u8 u.k,.int .i64 u.n,.string u.s,.slice A4 u.ks.length c4] 41)):=zkb zr _;have eX:=heap_alloc_new wr (.cells #[.int .u8 u.k,.int .i64 u.n,.string u.s,.slice A4 u.ks.length c4] 41);obtain⟨wk,hwk⟩:=zX (wr.alloc (.cells #[.int .u8 u.k,.int .i64 u.n,.string u.s,.slice A4 u.ks.length c4] 41));rw[hwk]at hbk eX ⊢;have fM:=zh (show wk.heap.size=wr.heap.size+1 by rw[<-hwk];simp);have aD:=zh hbk;have iG:=zh eX;clear hwk hbk eX
    have cz:=zh (show ∀w':World,Below wk.heap.size wk w'->(fun w':World=>(zN6 w' W.heap.size (.slice A1 L1 c1) (.slice A2 L2 c2) (.int .u8 k) (.int .i64 n) (.string s) (.slice A3 l3 c3)/\zN4 w' (W.heap.size+1) (.int .u8 tk) (.int .i64 tn) (.string ts) (.slice (some a) ks.length tc))/\zN4 w' wr.heap.size (.int .u8 u.k) (.int .i64 u.n) (.string u.s) (.slice A4 u.ks.length c4)) w'/\zU w' from fun w' h=>⟨⟨ma.out w' (ah.out.chg.trans (Chg.of_below (zka aD.out h))),box4 ((h.block _ (by have:=fM.out;omega)).trans iG.out)⟩,trivial⟩);have hdr:=(zs wk).drew;have hSS:=cz.out _ hdr;refine wp_region_noPanic ?_
    refine zkk (fun w':World=>(zN6 w' W.heap.size (.slice A1 L1 c1) (.slice A2 L2 c2) (.int .u8 k) (.int .i64 n) (.string s) (.slice A3 l3 c3)/\zN4 w' (W.heap.size+1) (.int .u8 tk) (.int .i64 tn) (.string ts) (.slice (some a) ks.length tc))/\zN4 w' wr.heap.size (.int .u8 u.k) (.int .i64 u.n) (.string u.s) (.slice A4 u.ks.length c4)) zU 40 (by kernel_rfl) ?_;refine zT 0 hSS ?_;refine zT 1 hSS ?_;refine zT 2 hSS ?_;refine zT 3 hSS ?_;refine zT 5 hSS ?_;refine zT 6 hSS ?_;refine zT 7 hSS ?_;refine zT 9 hSS ?_;refine zo 4 fun K hK=>?_;refine zkd (by rfl) (.func 114) [.tmp 62,.tmp 63] _ (by rfl) 114 _ zrp (by rfl) _ (by rfl) _ (znU (zoE q Aq cq (j:Int) ⟨by omega,by omega⟩ _ _ (HD.out _ (ah.out.chg.trans (Chg.of_below (zka aD.out hdr)))).2.2.2.1 BR.out (by omega))) ?_;rintro vq w2 ⟨Ac,cc,rfl,hrc,hcc,au⟩;have b2:=zka hdr au;have aN:=cz.out _ b2
    refine hK.out _ _ aN ?_;clear hK K hSS;(try simp only[zQ]);refine zo 8 fun K hK=>?_;refine zkd (by rfl) (.func 84) [.tmp 65,.tmp 66,.tmp 67] _ (by rfl) 84 _ zyN (by rfl) _ (by rfl) _ (ztP (zuw (.nd tk tn ts ks) j (by omega) vs A c _ _ _ _ (HD.out _ (ah.out.chg.trans (Chg.of_below (zka aD.out b2)))).2.1 (HD.out _ (ah.out.chg.trans (Chg.of_below (zka aD.out b2)))).2.2.1 nQ.out (by omega))) ?_;simp only[T.k_nd,T.s_nd,T.ks_nd];rintro vq w3 ⟨Av,cv,rfl,gK,hcv,cK⟩;have b3:=zka b2 cK;have bU:=cz.out _ b3;refine hK.out _ _ bU ?_;clear hK K aN;(try simp only[zQ]);refine zo 10 fun K hK=>?_;have hcl:cntK p.prs tk ts 0 (ks.take j) vs<=zkW (ks.take j):=zrs _ _ _ _ (fun t _ vs=>zuU _ t vs) _ _;have hsz:=zlI ks (j+1);rw[zsL ks j hlt,Hu.out]at hsz;have hmem:u∈ks:=by rw[<-Hu.out];exact List.getElem_mem hlt
    have hdu:=zxZ hmem;have hil:=zs0 tk ts j vs;have hzb:=ah.out.chg.size;have hz0:=cZ.out;have hzk:=fM.out;have hfl:=ah.out.fs.lt;have hF:=ah.out.fs.later (zka aD.out b3);have hR:=aY.out.keep _ _ _ _ ah.out.rd ah.out.fs (Chg.of_below (zka aD.out b3));have hzz:=hdr.size;have yl:=au.size;have hzw2:=b2.size
    refine zkd (by rfl) (.func 73) [.tmp 60,.tmp 61,.tmp 64,.tmp 68,.tmp 69] _ (by rfl) 73 _ zyJ (by rfl) _ (by rfl) _ (zmq (xQ.out u hmem (fun b=>(S b/\b<W.heap.size)\/wk.heap.size<=b) (zmu tk ts j vs) Av cv (q++[(j:Int)]) Ac cc (N+one1 E0+cntK p.prs tk ts 0 (ks.take j) vs) pv' w3 _ _ hR hF ((HD.out _ (ah.out.chg.trans (Chg.of_below (zka aD.out b3)))).1.keep (fun b hb _=>.inl hb) (fun _ _ _=>rfl)) ((xJ.out.later (zka aD.out b3)).keep (fun b hb _=>.inl hb) (fun _ _ _=>rfl)) (gK.mono fun b hb=>by rcases hb with hb|hb;exact .inl hb;exact .inr (by omega)) hcv ((hrc.later cK).mono fun b hb=>.inr (by have:_<=b:=hb;omega)) hcc (fun b hb hlt' hh=>?_) (by simp;omega) (by omega) (by omega))) ?_
    ·rcases hb with⟨hb,hbl⟩|hb
     ·refine HFAR.out b hb hbl (hh.imp id fun h=>?_);rcases ah.out.own b h with h1|h1
      ·exact h1
      ·omega
     ·rcases hh with rfl|hh
      ·omega
      ·have:=hfl.2 b hh;omega
    rintro vq W6 hp;obtain⟨jg,bM⟩:=ah.out.step aY.out (zka aD.out b3) hp;have bK:VsI Rd n0 fb Wb pw (N+one1 E0+cntK p.prs tk ts 0 (ks.take (j+1)) vs) W6 jg:=by rw[zuX p.prs tk ts vs hlt,Hu.out];simpa[Nat.add_assoc]using bM
    have aA:zW (fun w':World=>(zN6 w' W.heap.size (.slice A1 L1 c1) (.slice A2 L2 c2) (.int .u8 k) (.int .i64 n) (.string s) (.slice A3 l3 c3)/\zN4 w' (W.heap.size+1) (.int .u8 tk) (.int .i64 tn) (.string ts) (.slice (some a) ks.length tc))/\zN4 w' wr.heap.size (.int .u8 u.k) (.int .i64 u.n) (.string u.s) (.slice A4 u.ks.length c4)) zU W6:=⟨⟨ma.out _ bK.chg,box4 ((hp.2.elim fun _ h=>h.2.2.block _ (by have:=(zka aD.out b3).size;have:=b3.size;have:=fM.out;omega) (fun hh=>by have hl:=ah.out.fs.lt;rcases hh with hh|hh;(have:=hl.1;omega);(have:=(hl.2 _ hh).2;omega))).trans ((b3.block _ (by have:=fM.out;omega)).trans iG.out))⟩,trivial⟩
    refine hK.out _ _ aA ?_;clear hK K bU;(try simp only[zQ]);refine zd ?_;refine NoPanic.normal ?_;have jm:=zh bK;clear bK bM hp aA hF hR;go_wp2_with fail
    go_roundw
    case rel=>exact⟨j+1,_,by omega,by go_num,jm.out⟩
    case measure=>simp[intOf];omega
   ·obtain rfl:j=ks.length:=by omega
    clear hinv;go_wp2_with fail;go_end0;have hinv:=ah.out;rw[List.take_of_length_le zl]at hinv;have hcc:=aZ.out;rw[cntV,uW.out,if_neg hcall]at hcc;rw[<-hcc,<-Nat.add_assoc];exact hinv.rep iF.out ⟨_,rfl⟩
theorem zyF(k n:Int)(s:ByteArray)(ks:List T):isB (.nd k n s ks)=true↔k=57/\zkq n s=true/\∀t∈ks,isS t=true:=by
 rw[isB];simp only[Bool.and_eq_true,decide_eq_true_eq,and_assoc];refine and_congr Iff.rfl (and_congr Iff.rfl ?_);rw[zpM 0,zkH]
 constructor
 ·intro h t ht;obtain⟨q,hq,rfl⟩:=List.getElem_of_mem ht;exact h q hq
 ·intro h q hq;exact h _ (List.getElem_mem hq)
theorem zKQ{t:T}(h:isB t=true):t.k=57:=by cases t;exact((zyF _ _ _ _).1 h).1
theorem zmS{x:T}:∀ {l:List T},x∈pos l↔∃t∈l,x∈po t
 | []=>by simp[pos]
 | t::ts=>by simp[pos,zmS (l:=ts)]
theorem zun:∀(ks:List T),(∀t∈ks,∀d l,lim t d l=if dep t<=d/\size t<=l then some (l-size t)else none)->∀d l,lims ks d l=if deps ks<=d/\zkW ks<=l then some (l-zkW ks)else none
 | [],_,d,l=>by simp[lims,deps,zkW]
 | t::ts,h,d,l=>by
  have e1:deps (t::ts)=max (dep t) (deps ts):=by rw[deps]
  have e2:zkW (t::ts)=size t+zkW ts:=by rw[zkW]
  rw[lims,h t (by simp) d l];by_cases h1:dep t<=d/\size t<=l
  ·rw[if_pos h1];simp only;rw[zun ts (fun u hu=>h u (by simp[hu])) d (l-size t)];by_cases h2:deps ts<=d/\zkW ts<=l-size t
   ·rw[if_pos h2,if_pos ⟨by omega,by omega⟩];congr 1;omega
   ·rw[if_neg h2,if_neg (by omega)]
  ·rw[if_neg h1];simp only;rw[if_neg (by omega)]
theorem zzO(t:T):∀d l,lim t d l=if dep t<=d/\size t<=l then some (l-size t)else none:=by
 induction t using T.ind with
 | _ k n s ks ih =>
 intro d l;have e1:dep (.nd k n s ks)=1+deps ks:=by rw[dep]
 have e2:size (.nd k n s ks)=1+zkW ks:=by rw[size]
 rw[lim];by_cases h:d=0\/l=0
 ·rw[if_pos h,if_neg (by omega)]
 ·rw[if_neg h,zun ks ih];by_cases h2:deps ks<=d-1/\zkW ks<=l-1
  ·rw[if_pos h2,if_pos ⟨by omega,by omega⟩];congr 1;omega
  ·rw[if_neg h2,if_neg (by omega)]
theorem zwE{k n:Int}{s:ByteArray}{ks:List T}(h:isE (.nd k n s ks)=true):∀t∈ks,isE t=true:=by
 have key:isEs ks=true->∀t∈ks,isE t=true:=by
  intro h t ht;rw[znx 0,zkH]at h;obtain⟨i,hi,rfl⟩:=List.getElem_of_mem ht;exact h i hi
 have nil:decide (ks.length=0)=true->∀t∈ks,isE t=true:=by
  intro h t ht;have:ks=[]:=by simpa using h
  rw[this]at ht;cases ht
 rw[isE]at h
 split at h
 ·simp only[Bool.and_eq_true]at h;exact nil h.2
 split at h
 ·simp only[Bool.and_eq_true]at h;exact nil h.2
 split at h
 ·simp only[Bool.and_eq_true]at h;exact key h.2.2
 split at h
 ·simp only[Bool.and_eq_true]at h;exact key h.2.2
 split at h
 ·simp only[Bool.and_eq_true]at h;exact key h.2.2
 ·cases h
theorem zwD{t:T}(h:isP t=true):isE t=true:=by unfold isP at h;simp only[Bool.and_eq_true]at h;exact h.2
theorem zKP{t:T}(h:isV t=true):isE t=true:=by unfold isV at h;simp only[Bool.and_eq_true]at h;exact h.2
theorem zm3{m:Nat}{p:Nat->T->Bool}{ks:List T}(h:zkG m p ks=true){t:T}(ht:t∈ks):∃i,p i t=true:=by
 unfold zkG at h;simp only[Bool.and_eq_true]at h;have:=(zkH p 0 ks).1 h.2;obtain⟨i,hi,rfl⟩:=List.getElem_of_mem ht;exact⟨0+i,this i hi⟩
theorem zpN{d:Nat}{ks:List T}(h:isEB d ks=true){t:T}(ht:t∈ks):isE t=true\/isB t=true:=by
 have h':isEB (d+0) ks=true:=h;rw[zny d 0]at h';have:=(zkH _ 0 ks).1 h';obtain⟨i,hi,rfl⟩:=List.getElem_of_mem ht;have h2:=this i hi;unfold pEB at h2
 split at h2
 ·exact .inl h2
 ·exact .inr h2
theorem zxQ{k n:Int}{s:ByteArray}{ks:List T}(h:isS (.nd k n s ks)=true):k≠57/\∀t∈ks,isE t=true\/isB t=true:=by
 rw[isS]at h
 split at h
 ·rename_i hk;simp only[Bool.and_eq_true]at h;refine⟨by omega,fun t ht=>?_⟩;obtain⟨i,hi⟩:=zm3 h.2 ht
  split at hi
  ·exact .inl (zwD hi)
  ·exact .inl hi
 split at h
 ·rename_i hk;simp only[Bool.and_eq_true]at h;refine⟨by omega,fun t ht=>?_⟩;obtain⟨i,hi⟩:=zm3 h.2 ht;exact .inl (zwD hi)
 split at h
 ·rename_i hk;simp only[Bool.and_eq_true]at h;refine⟨by omega,fun t ht=>?_⟩;obtain⟨i,hi⟩:=zm3 h.2 ht;exact .inl (zwD hi)
 split at h
 ·rename_i hk;simp only[Bool.and_eq_true]at h;refine⟨by omega,fun t ht=>?_⟩;obtain⟨i,hi⟩:=zm3 h.2 ht;exact .inl (zwD hi)
 split at h
 ·rename_i hk;simp only[Bool.and_eq_true]at h;refine⟨by omega,fun t ht=>?_⟩;have:=(zkH _ 0 ks).1 h.2;obtain⟨i,hi,rfl⟩:=List.getElem_of_mem ht;exact .inl (zKP (this i hi))
 split at h
 ·rename_i hk;simp only[Bool.and_eq_true]at h;exact⟨by omega,fun t ht=>zpN h.2.2 ht⟩
 split at h
 ·rename_i hk;simp only[Bool.and_eq_true]at h;exact⟨by omega,fun t ht=>zpN h.2.2 ht⟩
 split at h
 ·rename_i hk;simp only[Bool.and_eq_true]at h;exact⟨by omega,fun t ht=>zpN h.2.2 ht⟩
 ·cases h
theorem zm4{k n:Int}{s:ByteArray}{ks:List T}(h:isS (.nd k n s ks)=true) :
  ((k≠52/\k≠53/\k≠54/\k≠55/\k≠57)/\∀t∈ks,t.k≠57) \/
  ((k=52\/k=53)/\zkq n s=true/\∃a b c d,ks=[a,b,c,d]/\isE a=true/\isB b=true/\isB c=true/\isE d=true) \/
  (k=54/\zkC n s=true/\∃a b c,ks=[a,b,c]/\isE a=true/\isB b=true/\isE c=true) \/
  (k=55/\zkC n s=true/\∃b,ks=[b]/\isB b=true):=by
 have key:∀(p:Nat->T->Bool),(∀j t,p j t=true->t.k≠57)->zkA p 0 ks=true->∀t∈ks,t.k≠57:=by
  intro p hp hk t ht;obtain⟨q,hq,rfl⟩:=List.getElem_of_mem ht;exact hp _ _ ((zkH p 0 ks).1 hk q hq)
 have kE:∀t,isE t=true->t.k≠57:=fun t h1=>by have:=zwF t h1;omega
 rw[isS]at h
 repeat' split at h
 ·simp only[zkG,Bool.and_eq_true]at h;exact .inl ⟨by omega,key _ (fun j t hj=>by split at hj;exact zwC t hj;exact kE t hj) h.2.2⟩
 ·simp only[zkG,Bool.and_eq_true]at h;exact .inl ⟨by omega,key _ (fun j t=>zwC t) h.2.2⟩
 ·simp only[zkG,Bool.and_eq_true]at h;exact .inl ⟨by omega,key _ (fun j t=>zwC t) h.2.2⟩
 ·simp only[zkG,Bool.and_eq_true]at h;exact .inl ⟨by omega,key _ (fun j t=>zwC t) h.2.2⟩
 ·simp only[Bool.and_eq_true]at h;exact .inl ⟨by omega,key _ (fun j t=>zKO t) h.2⟩
 ·rename_i hk;simp only[Bool.and_eq_true,decide_eq_true_eq]at h;obtain⟨h1,h2,h3⟩:=h
  match ks,h2 with
  | [a,b,c,d],_ =>
   simp only[isEB,Bool.and_eq_true,Bool.and_true]at h3;simp at h3;exact .inr (.inl ⟨hk,h1,a,b,c,d,rfl,h3.1,h3.2.1,h3.2.2.1,h3.2.2.2⟩)
 ·rename_i hk;simp only[Bool.and_eq_true,decide_eq_true_eq]at h;obtain⟨h1,h2,h3⟩:=h
  match ks,h2 with
  | [a,b,c],_ =>
   simp only[isEB,Bool.and_eq_true,Bool.and_true]at h3;simp at h3;exact .inr (.inr (.inl ⟨hk,h1,a,b,c,rfl,h3.1,h3.2.1,h3.2.2⟩))
 ·rename_i hk;simp only[Bool.and_eq_true,decide_eq_true_eq]at h;obtain⟨h1,h2,h3⟩:=h
  match ks,h2 with
  | [b],_ =>
   simp only[isEB,Bool.and_eq_true,Bool.and_true]at h3;simp at h3;exact .inr (.inr (.inr ⟨hk,h1,b,rfl,h3⟩))
 ·cases h
section
variable {P:Program} {ops:Array Oper} {Q:Exit->Act->World->Prop} {md:Region.Mode} {S1 S2:World->Prop} {k:Nat}
theorem zx7{i j:Nat}{o o':Oper}{fuel:Nat}{listed:Array Bool}{a:Act}{w:World}(hr:Region.ready md ops listed=[i,j])(ho:ops[i]?=some o)(ho':ops[j]?=some o')
  (h:∀K':Act->World->Prop,Shut (∀a w,S1 w/\S2 w->wpG P md ops Q S1 S2 k fuel (listed.setIfInBounds i true) a w->K' a w)->if Region.wanted o (yielded ops a.tmps)=true then Oper.wp P o a w K' Q else K' (a.put o.dst undef) w)
  (h':∀K':Act->World->Prop,Shut (∀a w,S1 w/\S2 w->wpG P md ops Q S1 S2 k fuel (listed.setIfInBounds j true) a w->K' a w)->if Region.wanted o' (yielded ops a.tmps)=true then Oper.wp P o' a w K' Q else K' (a.put o'.dst undef) w) :
  wpG P md ops Q S1 S2 k (fuel+1) listed a w:=by
 refine⟨(fun h0=>by rw[hr]at h0;cases h0),fun x hx=>?_⟩;rw[hr]at hx;simp only[List.mem_cons,List.not_mem_nil,or_false]at hx;rcases hx with rfl|rfl
 ·exact wpOp_step ho fun K' hK=>h K' fun a w hS hW=>hK a w ⟨⟨hS.1,fun _=>hS.2⟩,hW⟩
 ·exact wpOp_step ho' fun K' hK=>h' K' fun a w hS hW=>hK a w ⟨⟨hS.1,fun _=>hS.2⟩,hW⟩
end
def frsN(vs:List VD):Nat->Nat
 | 0=>0
 | j+1=>frsN vs j+(if h:j<vs.length then one1 (zmw (vs.take j) vs[j].s)else 0)
theorem zm5{vs:List VD}{j:Nat}(h:j<vs.length):frsN vs (j+1)=frsN vs j+one1 (zmw (vs.take j) vs[j].s):=by simp[frsN,h]
theorem zmv(vs:List VD):∀j,frsN vs j<=j
 | 0=>by simp[frsN]
 | j+1=>by
  have h:=zmv vs j;rw[frsN]
  split
  ·have:=zmQ (zmw (vs.take j) vs[j].s);omega
  ·omega
def prcE(ps:List PR)(j:Nat)(r:PR):Nat:=one1 (if zlG ps r.s<(j:Int)then 22 else 0)+frsN r.ps r.ps.length+cntV ps r.b r.ps
def prcN(ps:List PR):Nat->Nat
 | 0=>0
 | j+1=>prcN ps j+(if h:j<ps.length then prcE ps j ps[j]else 0)
theorem zof{ps:List PR}{j:Nat}(h:j<ps.length):prcN ps (j+1)=prcN ps j+prcE ps j ps[j]:=by simp[prcN,h]
def chkN(p:PG):Nat:=frsN p.vs p.vs.length+prcN p.prs p.prs.length+cntV p.prs p.m p.vs
theorem zoT{t:T}(h:zlH t=true):dep t<=80/\size t<=2000:=by
 simp only[zlH,Bool.and_eq_true]at h;have h1:=h.1;rw[zzO]at h1
 split at h1
 ·assumption
 ·simp at h1
theorem zmm{p:PG}(h:zla p=true):p.vs.length<=32/\p.prs.length<=64/\(∀r∈p.prs,r.ps.length<=8/\dep r.b<=80/\size r.b<=2000)/\dep p.m<=80/\size p.m<=2000:=by
 simp only[zla,Bool.and_eq_true,decide_eq_true_eq,List.all_eq_true]at h;refine⟨h.1.1.1.1,h.1.1.1.2,fun r hr=>?_,zoT h.2⟩;have:=h.1.2 r hr;simp only[zoK,Bool.and_eq_true,decide_eq_true_eq]at this;exact⟨this.1.1.2,zoT this.2⟩
theorem zrh(ps:List PR)(h:∀r∈ps,r.ps.length<=8/\dep r.b<=80/\size r.b<=2000):∀j,prcN ps j<=j*2009
 | 0=>by simp[prcN]
 | j+1=>by
  have h1:=zrh ps h j;rw[prcN]
  split
  ·rename_i hj;have h2:=h _ (List.getElem_mem hj);have h3:=zmQ (if zlG ps ps[j].s<(j:Int)then 22 else 0);have h4:=zmv ps[j].ps ps[j].ps.length;have h5:=zuU ps ps[j].b ps[j].ps;unfold prcE;omega
  ·omega
theorem RowV.take{w:World}{S:Nat->Prop}{A:Option Addr}{vs:List VD}(h:RowV w S A vs)(j:Nat):RowV w S A (vs.take j):=fun i hi=>by
 have h1:i<vs.length:=by simp at hi;omega
 obtain⟨a,h2,h3,h4,h5⟩:=h i h1;exact⟨a,h2,h3,by simpa using h4,by simpa using h5⟩
theorem RowI.nil{w:World}{S:Nat->Prop}{A:Option Addr}:RowI w S A []:=fun i hi=>by simp at hi
theorem zqq(w:World)(j:Int)(hj:I64 j):RowI (w.alloc (.cells #[.int .i64 j] 3)) Any (some ⟨w.heap.size,0,none⟩) [j]:=fun i hi=>by
 simp only[List.length_singleton,Nat.lt_one_iff]at hi;subst hi;exact⟨_,rfl,trivial,zlE w 3 [.int .i64 j] 0 _ rfl,hj⟩
theorem zmC(n0 fb N:Nat)(pv:Value)(pr er:Int)(q:List Int)(A:Option Addr)(c:Nat)(s:ByteArray)(S:Nat->Prop)(W:World)(hfs:FS W n0 fb N pv)(hq:RowI W S A q)(kJ:q.length<=100000)(hN:N<=1000000) :
  Calls prog 69 ([.int .i64 pr,.slice A q.length c,.string s,.int .i64 er].toArray ++ #[.pointer (some ⟨fb,0,none⟩)]) W (RepP W n0 fb pv (N+one1 er)):=by
 simpa using zmD n0 fb N pv pr er q A c s S W hfs hq kJ hN
theorem VsI.chg2{Rd:World->Prop}{n0 fb:Nat}{Wb wr wk w':World}{pv pv':Value}{N:Nat}(h:VsI Rd n0 fb Wb pv N wr pv')(hb:Below wr.heap.size wr wk)(hc:Chg (fun b=>b=fb\/pv'.ownBlock=some b) wk w'):Chg (fun b=>b=fb\/pv.ownBlock=some b) Wb w' :=
 (h.chg.trans (Chg.of_below hb)).trans2 hc fun b hlt hh=>by
  rcases hh with hh|hh
  ·exact .inl hh
  ·rcases h.own b hh with h1|h1
   ·exact .inr h1
   ·omega
theorem VsI.stepK{Rd:World->Prop}{n0 fb:Nat}{Wb wr w5 W6:World}{pv pv':Value}{N N':Nat}{e:Ending}(hk:∀W W' pv N,Rd W->FS W n0 fb N pv->Chg (fun b=>b=fb\/pv.ownBlock=some b) W W'->Rd W')(h:VsI Rd n0 fb Wb pv N wr pv')(hb:Below wr.heap.size wr w5)(hp:RepP w5 n0 fb pv' N' e W6) :
  ∃jo,VsI Rd n0 fb Wb pv N' W6 jo:=by
 obtain⟨_,jo,hfs,aj,hc⟩:=hp;have tH:=h.fs.later hb;have hz:=h.chg.size;have oW:=hb.size;refine⟨jo,hk w5 W6 pv' N (hk wr w5 pv' N h.rd h.fs (Chg.of_below hb)) tH hc,hfs,fun b hb'=>?_,h.chg2 hb hc⟩;rcases aj b hb' with h1|h1
 ·exact h.own b h1
 ·exact .inr (by omega)
theorem zmF(vs:List VD)(j:Nat)(hj:j<=vs.length)(A:Option Addr)(c:Nat)(s:ByteArray)(S:Nat->Prop)(w:World)(hrow:RowV w S A vs)(hl:vs.length<=LV) :
  Calls prog 71 #[.slice A j c,.string s] w fun e w'=>e=.returned (.int .i64 (zmw (vs.take j) s))/\Below w.heap.size w w':=by
 have h:=zot (vs.take j) A c s S w (hrow.take j) (by simp;omega);rwa[show(vs.take j).length=j by simp;omega]at h
theorem zpP:IsFn prog 71 f71:=⟨func71,by kernel_rfl,by kernel_rfl⟩
theorem zyM:IsFn prog 72 f72:=⟨func72,by kernel_rfl,by kernel_rfl⟩
theorem zso:IsFn prog 69 f69:=⟨func69,by kernel_rfl,by kernel_rfl⟩
theorem zpr(p:PG)(S:Nat->Prop)(v:Value)(W:World)(hv:PV W S p v):Calls prog 26 #[v] W fun e w'=>∃A c,e=.returned (.slice A (if zla p=true then chkN p else 0) c)/\Below W.heap.size W w':=by
 obtain⟨NN,Bg⟩:=zX ((if zla p=true then chkN p else 0));rw[Bg];have nM:=zh Bg;clear Bg;have hvv:=hv;obtain⟨A1,c1,A2,c2,A3,c3,rfl,hr⟩:=hv;have hlv:=zkZ hr.lv;have hlp:=zkZ hr.lp;obtain⟨L1,hL1⟩:=zX (p.vs.length);obtain⟨L2,hL2⟩:=zX (p.prs.length);obtain⟨k,hk⟩:=zX (p.m.k);obtain⟨n,hn⟩:=zX (p.m.n);obtain⟨s,hs⟩:=zX (p.m.s);obtain⟨l3,hl3⟩:=zX (p.m.ks.length);rw[hL1,hL2,hk,hn,hs,hl3];rw[hL1,hL2,hk,hn,hs,hl3]at hvv;rw[hL1]at hlv;rw[hL2]at hlp;have xy:=zh hvv;have HR:=zh hr;have ig:=zh hL1;have HL2:=zh hL2;have iW:=zh (show p.m.k=k/\p.m.n=n/\p.m.s=s/\p.m.ks.length=l3 from⟨hk,hn,hs,hl3⟩);clear hvv hr hL1 hL2 hk hn hs hl3;go_enter func26,ntmps26;go_wp2_with fail;refine(zoF p S _ _ (xy.out.later (zkb zr _))).mono ?_;rintro e w1 ⟨rfl,ae⟩;have b1:Below W.heap.size W w1:=zka (zkb zr _) ae
 have hp1:=(ae.block W.heap.size (by simp)).trans (heap_alloc_new W (.cells #[.slice A1 L1 c1,.slice A2 L2 c2,.int .u8 k,.int .i64 n,.string s,.slice A3 l3 c3] 43));have hz1:=ae.size;simp only[World.size_alloc]at hz1;have HB1:=zh b1;have lY:=zh hp1;have HZ1:=zh hz1;obtain⟨a0,a1,a2,a3,a4,a5⟩:=box6 hp1;clear ae b1 hp1
 cases hvb:zla p
 ·have hN0:NN=0:=by rw[<-nM.out,hvb];rfl
  subst hN0;go_wp2_with fail;go_ret;exact⟨none,0,rfl,HB1.out⟩
 ·have eZ:=zh (zmm hvb);have HNN2:=zh (show chkN p=NN by rw[<-nM.out,hvb];rfl);clear hvb nM;go_upto_region 5 with fail;obtain⟨fb,yA⟩:=zX (w1.heap.size);rw[yA];have wI:W.heap.size+1<=fb:=by omega
  have hbw:Below W.heap.size W ((w1.alloc (.cells #[.slice none 0 0] 65)).alloc (.cells #[.func (.func 69) #[] #[.pointer (some ⟨fb,0,none⟩)]] 117)):=zkb (zkb HB1.out _) _;have yB:=zke (heap_alloc_new w1 (.cells #[.slice none 0 0] 65)) (.cells #[.func (.func 69) #[] #[.pointer (some ⟨fb,0,none⟩)]] 117);have hbR:=heap_alloc_new (w1.alloc (.cells #[.slice none 0 0] 65)) (.cells #[.func (.func 69) #[] #[.pointer (some ⟨fb,0,none⟩)]] 117);simp only[World.size_alloc]at hbR;rw[yA]at yB hbR;have qY:=zke (zke lY.out (.cells #[.slice none 0 0] 65)) (.cells #[.func (.func 69) #[] #[.pointer (some ⟨fb,0,none⟩)]] 117);obtain⟨Wb,tZ⟩:=zX ((w1.alloc (.cells #[.slice none 0 0] 65)).alloc (.cells #[.func (.func 69) #[] #[.pointer (some ⟨fb,0,none⟩)]] 117));rw[tZ]at hbw yB hbR qY ⊢;have cZ:=zh (show Wb.heap.size=fb+2 by rw[<-tZ,<-yA];simp);have iF:=zh hbw;have HZF:=zh wI
  clear tZ yA a0 a1 a2 a3 a4 a5 lY HZ1 HB1 hz1;have hrep:=zxC fb fb (fb+1) W.heap.size A1 L1 c1 A2 L2 c2 k n s A3 l3 c3;obtain⟨Rd,yE⟩:∃Rd:World->Prop,(fun W':World=>W'.heap[fb+1]?=some (.cells #[.func (.func 69) #[] #[.pointer (some ⟨fb,0,none⟩)]] 117 (0,0))/\W'.heap[W.heap.size]?=some (.cells #[.slice A1 L1 c1,.slice A2 L2 c2,.int .u8 k,.int .i64 n,.string s,.slice A3 l3 c3] 43 (0,0)))=Rd:=⟨_,rfl⟩
  rw[yE]at hrep;have aY:=zh hrep;have oJ:=zh (show ∀w':World,Rd w'->w'.heap[fb+1]?=some (.cells #[.func (.func 69) #[] #[.pointer (some ⟨fb,0,none⟩)]] 117 (0,0))/\w'.heap[W.heap.size]?=some (.cells #[.slice A1 L1 c1,.slice A2 L2 c2,.int .u8 k,.int .i64 n,.string s,.slice A3 l3 c3] 43 (0,0))from fun w' h=>by rw[<-yE]at h;exact h);have aZ:=zh (show ∀w':World,Rd w'->(fun w':World=>(zN6 w' W.heap.size (.slice A1 L1 c1) (.slice A2 L2 c2) (.int .u8 k) (.int .i64 n) (.string s) (.slice A3 l3 c3))/\(zv w' (fb+1) 0 (.func (.func 69) #[] #[.pointer (some ⟨fb,0,none⟩)]))) w' from fun w' h=>⟨box6 (oJ.out w' h).2,zc (oJ.out w' h).1 rfl⟩);have HI0:=zh (show VsI Rd fb fb Wb (.slice none 0 0) 0 Wb (.slice none 0 0)from⟨by rw[<-yE];exact⟨hbR,qY⟩,⟨yB,⟨[],World.ownsRow_nil _ _ _ _⟩,zl,by simp[Value.ownBlock]⟩,fun b hb=>.inl hb,Chg.refl _ _⟩)
  have oU:=zh (show ∀w':World,Chg (fun b=>b=fb\/(Value.slice none 0 0).ownBlock=some b) Wb w'->∀b,S b->b<W.heap.size->w'.heap[b]?=W.heap[b]? from fun w' h b hb hlt=>(h.block b (by have:=cZ.out;omega) (fun hh=>by rcases hh with hh|hh;omega;simp[Value.ownBlock]at hh)).trans (iF.out.block b hlt));have HD:=zh (show ∀w':World,Chg (fun b=>b=fb\/(Value.slice none 0 0).ownBlock=some b) Wb w'->PV w' (fun b=>S b/\b<W.heap.size) p _/\PgR w' (fun b=>S b/\b<W.heap.size) p A1 c1 A2 c2 A3 c3 from fun w' h=>⟨xy.out.keep (fun b hb hlt=>⟨hb,hlt⟩) (oU.out w' h),HR.out.keep (fun b hb hlt=>⟨hb,hlt⟩) (oU.out w' h)⟩);have hl32:L1<=32:=by have:=eZ.out.1;rw[ig.out]at this;exact this
  have hl64:L2<=64:=by have:=eZ.out.2.1;rw[HL2.out]at this;exact this
  have hlc1:L1<=c1:=by have:=HR.out.lvc;rw[ig.out]at this;exact this
  have pK:L2<=c2:=by have:=HR.out.lpc;rw[HL2.out]at this;exact this
  obtain⟨⟨a0,a1,a2,a3,a4,a5⟩,ar⟩:=aZ.out _ HI0.out.rd;clear hrep yE hbR qY yB hbw;go_wp2_with fail
  go_loopw [18] (fun i wr=>∃(j:Nat) (pv':Value),j<=L1/\i=.int .i64 j/\VsI Rd fb fb Wb (.slice none 0 0) (frsN p.vs j) wr pv') (fun i _=>L1-(intOf i).toNat)
  case atStart=>exact⟨0,_,Nat.zero_le _,rfl,HI0.out⟩
  case round =>
   obtain⟨j,pv',hj,rfl,hinv⟩:=hrel;have ah:=zh hinv;clear HI0 a0 a1 a2 a3 a4 a5 ar;by_cases hlt:j<L1
   ·have iJ:j<p.vs.length:=by rw[ig.out];exact hlt
    obtain⟨a,u,rfl,hsa,Hu,⟨q0,q1,q2⟩,hfu⟩:=(HD.out wr hinv.chg).2.vars.nd iJ;have hjc:(j:Int)<=(c1:Int):=by omega
    have hj0:(0:Int)<=(j:Int):=by omega
    obtain⟨⟨a0,a1,a2,a3,a4,a5⟩,ar⟩:=aZ.out _ hinv.rd;clear hinv hsa hfu;go_upto_region 8 with fail;have hbk:Below wr.heap.size wr (wr.alloc (.cells #[.string u.s,.int .u8 u.k,.int .i64 u.n] 57)):=zkb zr _;have eX:=heap_alloc_new wr (.cells #[.string u.s,.int .u8 u.k,.int .i64 u.n] 57);obtain⟨wk,hwk⟩:=zX (wr.alloc (.cells #[.string u.s,.int .u8 u.k,.int .i64 u.n] 57));rw[hwk]at hbk eX ⊢;have fM:=zh (show wk.heap.size=wr.heap.size+1 by rw[<-hwk];simp);have aD:=zh hbk;have iG:=zh eX;clear hwk hbk eX a0 a1 a2 a3 a4 a5 ar q0 q1 q2;have HRW:=zh (show ∀w':World,Below wk.heap.size wk w'->Rd w' from fun w' h=>aY.out.keep _ _ _ _ ah.out.rd ah.out.fs (Chg.of_below (zka aD.out h)))
    have cz:=zh (show ∀w':World,Below wk.heap.size wk w'->(fun w':World=>(zN6 w' W.heap.size (.slice (some a) L1 c1) (.slice A2 L2 c2) (.int .u8 k) (.int .i64 n) (.string s) (.slice A3 l3 c3)/\(zv w' (fb+1) 0 (.func (.func 69) #[] #[.pointer (some ⟨fb,0,none⟩)])))/\zN3 w' wr.heap.size (.string u.s) (.int .u8 u.k) (.int .i64 u.n)) w'/\zU w' from fun w' h=>⟨⟨aZ.out _ (HRW.out w' h),box3 ((h.block _ (by have:=fM.out;omega)).trans iG.out)⟩,trivial⟩);have hdr:=(zs wk).drew;have hSS:=cz.out _ hdr;have hbI:=zpX;have hN:=zmv p.vs j;refine wp_region_noPanic ?_;refine zkk (fun w':World=>(zN6 w' W.heap.size (.slice (some a) L1 c1) (.slice A2 L2 c2) (.int .u8 k) (.int .i64 n) (.string s) (.slice A3 l3 c3)/\(zv w' (fb+1) 0 (.func (.func 69) #[] #[.pointer (some ⟨fb,0,none⟩)])))/\zN3 w' wr.heap.size (.string u.s) (.int .u8 u.k) (.int .i64 u.n)) zU 40 (by kernel_rfl) ?_
    refine zT 0 hSS ?_;refine zT 1 hSS ?_;refine zT 3 hSS ?_;refine zT 4 hSS ?_;refine zT 5 hSS ?_;refine zT 6 hSS ?_;refine zT 7 hSS ?_;refine zT 8 hSS ?_;refine zT 9 hSS ?_;refine zT 10 hSS ?_;refine zx7 (i:=2) (j:=11) (by kernel_rfl) rfl rfl (fun K hK=>?_) (fun K hK=>?_)
    ·(try simp only[zA,zB,zC]);go_simp;have b2:=zkb hdr (.cells #[.int .i64 (j:Int)] 3);refine hK.out _ _ (cz.out _ b2) ?_;clear hK K;(try simp only[zQ]);refine zo 11 fun K hK=>?_;refine zkd (by rfl) (.func 71) [.tmp 31,.tmp 33] _ (by rfl) 71 _ zpP (by rfl) _ (by rfl) _ (znI (zmF p.vs j (by omega) (some a) c1 u.s _ _ (HD.out _ (ah.out.chg.trans (Chg.of_below (zka aD.out b2)))).2.vars HR.out.lv)) ?_;rintro vq w3 ⟨rfl,cK⟩;have b3:=zka b2 cK;refine hK.out _ _ (cz.out _ b3) ?_;clear hK K;(try simp only[zQ]);refine zo 12 fun K hK=>?_
     refine zk5 (by rfl) (.tmp 23) [.const (.int .i64 (-1)),.tmp 25,.tmp 27,.tmp 34] _ (by rfl) 69 _ zso #[.pointer (some ⟨fb,0,none⟩)] (by rfl) _ (by rfl) _ (zmq (zmC fb fb _ pv' (-1) _ [(j:Int)] (some ⟨wk.heap.size,0,none⟩) 1 u.s _ _ (ah.out.fs.later (zka aD.out b3)) (((zqq _ (j:Int) ⟨by omega,by omega⟩).later zr.drew).later cK) (by simp) (by omega))) ?_;rintro vq W6 hp;obtain⟨jg,bM⟩:=ah.out.step aY.out (zka aD.out b3) hp;have bK:VsI Rd fb fb Wb (.slice none 0 0) (frsN p.vs (j+1)) W6 jg:=by rw[zm5 iJ,Hu.out];exact bM
     have aA:zW (fun w':World=>(zN6 w' W.heap.size (.slice (some a) L1 c1) (.slice A2 L2 c2) (.int .u8 k) (.int .i64 n) (.string s) (.slice A3 l3 c3)/\(zv w' (fb+1) 0 (.func (.func 69) #[] #[.pointer (some ⟨fb,0,none⟩)])))/\zN3 w' wr.heap.size (.string u.s) (.int .u8 u.k) (.int .i64 u.n)) zU W6:=⟨⟨aZ.out _ bK.rd,box3 ((hp.2.elim fun _ h=>h.2.2.block _ (by have:=(zka aD.out b3).size;have:=(b3).size;have:=fM.out;omega) (fun hh=>by have hl:=ah.out.fs.lt;rcases hh with hh|hh;(have:=hl.1;omega);(have:=(hl.2 _ hh).2;omega))).trans (((b3).block _ (by have:=fM.out;omega)).trans iG.out))⟩,trivial⟩
     refine hK.out _ _ aA ?_;clear hK K;(try simp only[zQ]);refine zd ?_;refine NoPanic.normal ?_;have jm:=zh bK;clear bK bM hp aA;go_wp2_with fail
     go_roundw
     case rel=>exact⟨j+1,_,by omega,by go_num,jm.out⟩
     case measure=>simp[intOf];omega
    ·skip
     refine zkd (by rfl) (.func 71) [.tmp 31,.tmp 33] _ (by rfl) 71 _ zpP (by rfl) _ (by rfl) _ (znI (zmF p.vs j (by omega) (some a) c1 u.s _ _ (HD.out _ (ah.out.chg.trans (Chg.of_below (zka aD.out hdr)))).2.vars HR.out.lv)) ?_;rintro vq w2 ⟨rfl,au⟩;have b2:=zka hdr au;refine hK.out _ _ (cz.out _ b2) ?_;clear hK K;(try simp only[zQ]);refine zo 2 fun K hK=>?_;(try simp only[zA,zB,zC]);go_simp;have b3:=zkb b2 (.cells #[.int .i64 (j:Int)] 3);refine hK.out _ _ (cz.out _ b3) ?_;clear hK K;(try simp only[zQ]);refine zo 12 fun K hK=>?_
     refine zk5 (by rfl) (.tmp 23) [.const (.int .i64 (-1)),.tmp 25,.tmp 27,.tmp 34] _ (by rfl) 69 _ zso #[.pointer (some ⟨fb,0,none⟩)] (by rfl) _ (by rfl) _ (zmq (zmC fb fb _ pv' (-1) _ [(j:Int)] (some ⟨w2.heap.size,0,none⟩) 1 u.s _ _ (ah.out.fs.later (zka aD.out b3)) (zqq _ (j:Int) ⟨by omega,by omega⟩) (by simp) (by omega))) ?_;rintro vq W6 hp;obtain⟨jg,bM⟩:=ah.out.step aY.out (zka aD.out b3) hp;have bK:VsI Rd fb fb Wb (.slice none 0 0) (frsN p.vs (j+1)) W6 jg:=by rw[zm5 iJ,Hu.out];exact bM
     have aA:zW (fun w':World=>(zN6 w' W.heap.size (.slice (some a) L1 c1) (.slice A2 L2 c2) (.int .u8 k) (.int .i64 n) (.string s) (.slice A3 l3 c3)/\(zv w' (fb+1) 0 (.func (.func 69) #[] #[.pointer (some ⟨fb,0,none⟩)])))/\zN3 w' wr.heap.size (.string u.s) (.int .u8 u.k) (.int .i64 u.n)) zU W6:=⟨⟨aZ.out _ bK.rd,box3 ((hp.2.elim fun _ h=>h.2.2.block _ (by have:=(zka aD.out b3).size;have:=(b3).size;have:=fM.out;omega) (fun hh=>by have hl:=ah.out.fs.lt;rcases hh with hh|hh;(have:=hl.1;omega);(have:=(hl.2 _ hh).2;omega))).trans (((b3).block _ (by have:=fM.out;omega)).trans iG.out))⟩,trivial⟩
     refine hK.out _ _ aA ?_;clear hK K;(try simp only[zQ]);refine zd ?_;refine NoPanic.normal ?_;have jm:=zh bK;clear bK bM hp aA;go_wp2_with fail
     go_roundw
     case rel=>exact⟨j+1,_,by omega,by go_num,jm.out⟩
     case measure=>simp[intOf];omega
   ·obtain rfl:L1=j:=by omega
    have jS:=zh (show VsI Rd fb fb Wb (.slice none 0 0) (frsN p.vs p.vs.length) wr pv' by rw[ig.out];exact ah.out);obtain⟨⟨a0,a1,a2,a3,a4,a5⟩,ar⟩:=aZ.out _ hinv.rd;obtain⟨F1,hF1⟩:=zX (frsN p.vs p.vs.length);have hF32:F1<=32:=by have:=zmv p.vs p.vs.length;have:=eZ.out.1;omega
    have ze:=zh hF1;rw[hF1]at jS;clear hinv ah hF1 hj hlt;go_wp2_with fail
    go_loopw [40] (fun i wr=>∃(j:Nat) (pv':Value),j<=L2/\i=.int .i64 j/\VsI Rd fb fb Wb (.slice none 0 0) (F1+prcN p.prs j) wr pv') (fun i _=>L2-(intOf i).toNat)
    case atStart=>exact⟨0,_,Nat.zero_le _,rfl,jS.out⟩
    case round =>
     clear jS a0 a1 a2 a3 a4 a5 ar;obtain⟨j,pv',hj,rfl,hinv⟩:=hrel;obtain⟨w0,rfl⟩:∃w0,w0=wr:=⟨_,rfl⟩
     have ah:=zh hinv;by_cases hlt:j<L2
     ·have iJ:j<p.prs.length:=by rw[HL2.out];exact hlt
      obtain⟨a,r,P1,d1,P2,d2,rfl,hsa,Hr,⟨q0,q1,q2,q3,q4,q5⟩,hpr⟩:=(HD.out w0 hinv.chg).2.procs.nd iJ;obtain⟨⟨a0,a1,a2,a3,a4,a5⟩,ar⟩:=aZ.out _ hinv.rd;have iE:=zh hpr;clear hinv hsa hpr;go_upto_region 13 with fail;have hbk:Below w0.heap.size w0 ((w0.alloc (.cells #[.int .i64 (j:Int)] 3)).alloc (.cells #[.string r.s,.slice P1 r.ps.length d1,.int .u8 r.b.k,.int .i64 r.b.n,.string r.b.s,.slice P2 r.b.ks.length d2] 75)):=zkb (zkb zr _) _;have tV:=zke (heap_alloc_new w0 (.cells #[.int .i64 (j:Int)] 3)) (.cells #[.string r.s,.slice P1 r.ps.length d1,.int .u8 r.b.k,.int .i64 r.b.n,.string r.b.s,.slice P2 r.b.ks.length d2] 75);have p8:=heap_alloc_new (w0.alloc (.cells #[.int .i64 (j:Int)] 3)) (.cells #[.string r.s,.slice P1 r.ps.length d1,.int .u8 r.b.k,.int .i64 r.b.n,.string r.b.s,.slice P2 r.b.ks.length d2] 75);simp only[World.size_alloc]at p8
      obtain⟨wk,hwk⟩:=zX ((w0.alloc (.cells #[.int .i64 (j:Int)] 3)).alloc (.cells #[.string r.s,.slice P1 r.ps.length d1,.int .u8 r.b.k,.int .i64 r.b.n,.string r.b.s,.slice P2 r.b.ks.length d2] 75));rw[hwk]at hbk tV p8 ⊢;have fM:=zh (show wk.heap.size=w0.heap.size+2 by rw[<-hwk];simp);have aD:=zh hbk;obtain⟨jL,qd⟩:∃jL:World->Prop,(fun W':World=>(Rd W'/\W'.heap[w0.heap.size]?=some (.cells #[.int .i64 (j:Int)] 3 (0,0)))/\W'.heap[w0.heap.size+1]?=some (.cells #[.string r.s,.slice P1 r.ps.length d1,.int .u8 r.b.k,.int .i64 r.b.n,.string r.b.s,.slice P2 r.b.ks.length d2] 75 (0,0)))=jL:=⟨_,rfl⟩
      have jM:=zh (show ∀w':World,jL w'->(fun W':World=>(Rd W'/\W'.heap[w0.heap.size]?=some (.cells #[.int .i64 (j:Int)] 3 (0,0)))/\W'.heap[w0.heap.size+1]?=some (.cells #[.string r.s,.slice P1 r.ps.length d1,.int .u8 r.b.k,.int .i64 r.b.n,.string r.b.s,.slice P2 r.b.ks.length d2] 75 (0,0))) w' from fun w' h=>by rw[<-qd]at h;exact h);have aT:=zh (show ∀(W W':World) (pv:Value) (N:Nat),jL W->FS W fb fb N pv->Chg (fun b=>b=fb\/pv.ownBlock=some b) W W'->jL W' from fun W W' pv N h hfs hc=>by rw[<-qd]at h ⊢;exact⟨⟨aY.out.keep _ _ _ _ h.1.1 hfs hc,hc.keep h.1.2 (hfs.other h.1.2 (by decide) (by decide))⟩,hc.keep h.2 (hfs.other h.2 (by decide) (by decide))⟩);have HI2:=zh (show VsI jL fb fb wk pv' (F1+prcN p.prs j) wk pv' from⟨by rw[<-qd];exact⟨⟨aY.out.keep _ _ _ _ ah.out.rd ah.out.fs (Chg.of_below hbk),tV⟩,p8⟩,ah.out.fs.later hbk,fun b hb=>.inl hb,Chg.refl _ _⟩)
      have dS:=zh (show ∀w':World,jL w'->(fun w':World=>(zN6 w' W.heap.size (.slice A1 L1 c1) (.slice (some a) L2 c2) (.int .u8 k) (.int .i64 n) (.string s) (.slice A3 l3 c3)/\(zv w' (fb+1) 0 (.func (.func 69) #[] #[.pointer (some ⟨fb,0,none⟩)])))/\(zv w' w0.heap.size 0 (.int .i64 (j:Int)))/\zN6 w' (w0.heap.size+1) (.string r.s) (.slice P1 r.ps.length d1) (.int .u8 r.b.k) (.int .i64 r.b.n) (.string r.b.s) (.slice P2 r.b.ks.length d2)) w' from fun w' h=>⟨aZ.out w' (jM.out w' h).1.1,zc (jM.out w' h).1.2 rfl,box6 (jM.out w' h).2⟩)
      have HD2:=zh (show ∀w':World,Chg (fun b=>b=fb\/pv'.ownBlock=some b) wk w'->PV w' (fun b=>S b/\b<W.heap.size) p _/\PrR w' (fun b=>S b/\b<W.heap.size) r P1 d1 P2 d2 from fun w' h=>⟨(HD.out w' (ah.out.chg2 aD.out h)).1,iE.out.keep (fun b hb _=>hb) fun b hb _=>(oU.out w' (ah.out.chg2 aD.out h) b hb.1 hb.2).trans (oU.out w0 ah.out.chg b hb.1 hb.2).symm⟩)
      have cz:=zh (show ∀w':World,Below wk.heap.size wk w'->(fun w':World=>(zN6 w' W.heap.size (.slice A1 L1 c1) (.slice (some a) L2 c2) (.int .u8 k) (.int .i64 n) (.string s) (.slice A3 l3 c3)/\(zv w' (fb+1) 0 (.func (.func 69) #[] #[.pointer (some ⟨fb,0,none⟩)])))/\(zv w' w0.heap.size 0 (.int .i64 (j:Int)))/\zN6 w' (w0.heap.size+1) (.string r.s) (.slice P1 r.ps.length d1) (.int .u8 r.b.k) (.int .i64 r.b.n) (.string r.b.s) (.slice P2 r.b.ks.length d2)) w'/\zU w' from fun w' h=>⟨dS.out w' (aT.out _ _ _ _ HI2.out.rd HI2.out.fs (Chg.of_below h)),trivial⟩);clear hwk hbk tV p8 qd a0 a1 a2 a3 a4 a5 ar q0 q1 q2 q3 q4 q5;have hdr:=(zs wk).drew;have hSS:=cz.out _ hdr;have hrb:=eZ.out.2.2.1 r (by rw[<-Hr.out];exact List.getElem_mem iJ);have hpN:=zrh p.prs eZ.out.2.2.1 j;obtain⟨rb1,rb2,rb3⟩:=hrb;refine wp_region_noPanic ?_
      refine zkk (fun w':World=>(zN6 w' W.heap.size (.slice A1 L1 c1) (.slice (some a) L2 c2) (.int .u8 k) (.int .i64 n) (.string s) (.slice A3 l3 c3)/\(zv w' (fb+1) 0 (.func (.func 69) #[] #[.pointer (some ⟨fb,0,none⟩)])))/\(zv w' w0.heap.size 0 (.int .i64 (j:Int)))/\zN6 w' (w0.heap.size+1) (.string r.s) (.slice P1 r.ps.length d1) (.int .u8 r.b.k) (.int .i64 r.b.n) (.string r.b.s) (.slice P2 r.b.ks.length d2)) zU 40 (by kernel_rfl) ?_;refine zT 0 hSS ?_;refine zT 1 hSS ?_;refine zT 2 hSS ?_;refine zT 4 hSS ?_;refine zo 3 fun K hK=>?_;refine zkd (by rfl) (.func 72) [.tmp 45,.tmp 47] _ (by rfl) 72 _ zyM (by rfl) _ (by rfl) _ (znI (zng p _ _ r.s _ (HD2.out _ (Chg.of_below hdr)).1)) ?_;rintro vq w2 ⟨rfl,au⟩;have b2:=zka hdr au;have aN:=cz.out _ b2;obtain⟨PE,Bf⟩:=zX (zlG p.prs r.s);rw[Bf];have HPE:=zh Bf;refine hK.out _ _ aN ?_;clear hK K hSS Bf
      (try simp only[zQ]);have uU:=zh (show VsI jL fb fb wk pv' (F1+prcN p.prs j) w2 pv' from⟨aT.out _ _ _ _ HI2.out.rd HI2.out.fs (Chg.of_below b2),HI2.out.fs.later b2,fun b hb=>.inl hb,Chg.of_below b2⟩);by_cases hpe:PE<(j:Int)
      ·have hd:decide (PE<(j:Int))=true:=decide_eq_true hpe;obtain⟨E1,hE1⟩:=zX (one1 (22));have hE2:E1<=1:=by rw[<-hE1];exact zmQ _
       have kD:=zh (show one1 (if zlG p.prs r.s<(j:Int)then 22 else 0)=E1 by rw[HPE.out,if_pos hpe];exact hE1);refine zT 5 aN ?_;refine zd ?_;refine NoPanic.normal ?_;obtain⟨⟨⟨a0,a1,a2,a3,a4,a5⟩,ar⟩,ai,r0,r1,r2,r3,r4,r5⟩:=aN.1;clear aN;go_wp2_with fail;refine(zmD fb fb _ pv' (j:Int) 22 [] none 0 r.s Any w2 uU.out.fs RowI.nil (by simp) (by omega)).mono ?_;rintro e w3 hp;obtain⟨v3,rfl⟩:=hp.1;obtain⟨pv3,hi3⟩:=uU.out.stepK aT.out zr hp;rw[hE1]at hi3;have HI3:=zh hi3;clear hp a0 a1 a2 a3 a4 a5 ar ai r0 r1 r2 r3 r4 r5;obtain⟨⟨⟨a0,a1,a2,a3,a4,a5⟩,ar⟩,ai,r0,r1,r2,r3,r4,r5⟩:=dS.out _ hi3.rd;clear hi3 hE1;go_wp2_with fail
       go_loopw [59] (fun x w'=>∃(i:Nat) (mg:Value),i<=r.ps.length/\x=.int .i64 i/\VsI jL fb fb wk pv' (F1+prcN p.prs j+E1+frsN r.ps i) w' mg) (fun x _=>r.ps.length-(intOf x).toNat)
       case atStart=>exact⟨0,_,Nat.zero_le _,rfl,HI3.out⟩
       case round =>
        clear HI3 a0 a1 a2 a3 a4 a5 ar ai r0 r1 r2 r3 r4 r5;obtain⟨i,mg,hi,rfl,hinv⟩:=hrel;have bP:=zh hinv;by_cases wR:i<r.ps.length
        ·obtain⟨a',u,rfl,hsa,Hu,⟨q0,q1,q2⟩,hfu⟩:=(HD2.out wr hinv.chg).2.row.nd wR;have hic:(i:Int)<=(d1:Int):=by have:=iE.out.lc;omega
         have hi0:(0:Int)<=(i:Int):=by omega
         obtain⟨⟨⟨a0,a1,a2,a3,a4,a5⟩,ar⟩,ai,r0,r1,r2,r3,r4,r5⟩:=dS.out _ hinv.rd;clear hinv hsa hfu;go_upto_region 18 with fail;have hbk:Below wr.heap.size wr (wr.alloc (.cells #[.string u.s,.int .u8 u.k,.int .i64 u.n] 57)):=zkb zr _;have eX:=heap_alloc_new wr (.cells #[.string u.s,.int .u8 u.k,.int .i64 u.n] 57);obtain⟨wv,hwv⟩:=zX (wr.alloc (.cells #[.string u.s,.int .u8 u.k,.int .i64 u.n] 57));rw[hwv]at hbk eX ⊢;have uz:=zh (show wv.heap.size=wr.heap.size+1 by rw[<-hwv];simp);have nZ:=zh hbk;have iG:=zh eX;clear hwv hbk eX a0 a1 a2 a3 a4 a5 ar ai r0 r1 r2 r3 r4 r5 q0 q1 q2
         have qM:=zh (show ∀w':World,Below wv.heap.size wv w'->(fun w':World=>(fun w':World=>(zN6 w' W.heap.size (.slice A1 L1 c1) (.slice (some a) L2 c2) (.int .u8 k) (.int .i64 n) (.string s) (.slice A3 l3 c3)/\(zv w' (fb+1) 0 (.func (.func 69) #[] #[.pointer (some ⟨fb,0,none⟩)])))/\(zv w' w0.heap.size 0 (.int .i64 (j:Int)))/\zN6 w' (w0.heap.size+1) (.string r.s) (.slice (some a') r.ps.length d1) (.int .u8 r.b.k) (.int .i64 r.b.n) (.string r.b.s) (.slice P2 r.b.ks.length d2)) w'/\zN3 w' wr.heap.size (.string u.s) (.int .u8 u.k) (.int .i64 u.n)) w'/\zU w' from fun w' h=>⟨⟨dS.out _ (aT.out _ _ _ _ bP.out.rd bP.out.fs (Chg.of_below (zka nZ.out h))),box3 ((h.block _ (by have:=uz.out;omega)).trans iG.out)⟩,trivial⟩);have hdv:=(zs wv).drew;have hSS:=qM.out _ hdv;have AB:=zmv r.ps i;refine wp_region_noPanic ?_
         refine zkk (fun w':World=>(fun w':World=>(zN6 w' W.heap.size (.slice A1 L1 c1) (.slice (some a) L2 c2) (.int .u8 k) (.int .i64 n) (.string s) (.slice A3 l3 c3)/\(zv w' (fb+1) 0 (.func (.func 69) #[] #[.pointer (some ⟨fb,0,none⟩)])))/\(zv w' w0.heap.size 0 (.int .i64 (j:Int)))/\zN6 w' (w0.heap.size+1) (.string r.s) (.slice (some a') r.ps.length d1) (.int .u8 r.b.k) (.int .i64 r.b.n) (.string r.b.s) (.slice P2 r.b.ks.length d2)) w'/\zN3 w' wr.heap.size (.string u.s) (.int .u8 u.k) (.int .i64 u.n)) zU 40 (by kernel_rfl) ?_;refine zT 0 hSS ?_;refine zT 1 hSS ?_;refine zT 2 hSS ?_;refine zT 3 hSS ?_;refine zT 4 hSS ?_;refine zT 5 hSS ?_;refine zT 6 hSS ?_;refine zT 7 hSS ?_;refine zT 8 hSS ?_;refine zT 9 hSS ?_;refine zo 10 fun K hK=>?_
         refine zkd (by rfl) (.func 71) [.tmp 71,.tmp 73] _ (by rfl) 71 _ zpP (by rfl) _ (by rfl) _ (znI (zmF r.ps i (by omega) (some a') d1 u.s _ _ (HD2.out _ (bP.out.chg.trans (Chg.of_below (zka nZ.out hdv)))).2.row iE.out.lp)) ?_;rintro vq w5 ⟨rfl,fZ⟩;have b5:=zka hdv fZ;refine hK.out _ _ (qM.out _ b5) ?_;clear hK K hSS;(try simp only[zQ]);refine zo 11 fun K hK=>?_;refine zk5 (by rfl) (.tmp 64) [.tmp 65,.const (.slice none 0 0),.tmp 67,.tmp 74] _ (by rfl) 69 _ zso #[.pointer (some ⟨fb,0,none⟩)] (by rfl) _ (by rfl) _ (zmq (zmC fb fb _ mg (j:Int) _ [] none 0 u.s Any _ (bP.out.fs.later (zka nZ.out b5)) RowI.nil (by simp) (by omega))) ?_;rintro vq W6 hp;obtain⟨jg,bM⟩:=bP.out.stepK aT.out (zka nZ.out b5) hp
         have bK:VsI jL fb fb wk pv' (F1+prcN p.prs j+E1+frsN r.ps (i+1)) W6 jg:=by rw[zm5 wR,Hu.out,<-Nat.add_assoc];exact bM
         have aA:zW (fun w':World=>(fun w':World=>(zN6 w' W.heap.size (.slice A1 L1 c1) (.slice (some a) L2 c2) (.int .u8 k) (.int .i64 n) (.string s) (.slice A3 l3 c3)/\(zv w' (fb+1) 0 (.func (.func 69) #[] #[.pointer (some ⟨fb,0,none⟩)])))/\(zv w' w0.heap.size 0 (.int .i64 (j:Int)))/\zN6 w' (w0.heap.size+1) (.string r.s) (.slice (some a') r.ps.length d1) (.int .u8 r.b.k) (.int .i64 r.b.n) (.string r.b.s) (.slice P2 r.b.ks.length d2)) w'/\zN3 w' wr.heap.size (.string u.s) (.int .u8 u.k) (.int .i64 u.n)) zU W6:=⟨⟨dS.out _ bK.rd,box3 ((hp.2.elim fun _ h=>h.2.2.block _ (by have:=(zka nZ.out b5).size;have:=b5.size;have:=uz.out;omega) (fun hh=>by have hl:=bP.out.fs.lt;rcases hh with hh|hh;(have:=hl.1;omega);(have:=(hl.2 _ hh).2;omega))).trans ((b5.block _ (by have:=uz.out;omega)).trans iG.out))⟩,trivial⟩
         refine hK.out _ _ aA ?_;clear hK K;(try simp only[zQ]);refine zd ?_;refine NoPanic.normal ?_;have jm:=zh bK;clear bK bM hp aA;go_wp2_with fail
         go_roundw
         case rel=>exact⟨i+1,_,by omega,by go_num,jm.out⟩
         case measure=>simp[intOf];omega
        ·have hil:i=r.ps.length:=by omega
         obtain⟨⟨⟨a0,a1,a2,a3,a4,a5⟩,ar⟩,ai,r0,r1,r2,r3,r4,r5⟩:=dS.out _ hinv.rd;have hge:¬ ((i:Int)<(r.ps.length:Int)):=by omega
         clear hinv;go_wp2_with fail;have AB:=zmv r.ps r.ps.length;have aK:=zh (show VsI jL fb fb wk pv' (F1+prcN p.prs j+E1+frsN r.ps r.ps.length) wr mg by rw[<-hil];exact bP.out);have yl:=bP.out.chg.size;have hzk:=fM.out;have hz0:=ah.out.chg.size;have hzb:=cZ.out;refine(znq 74 _ _ fb fb (zsB fb fb (fb+1) w0.heap.size (j:Int)) p r.b (fun b=>S b/\b<W.heap.size) r.ps P1 d1 [] none 0 (F1+prcN p.prs j+E1+frsN r.ps r.ps.length) mg wr _ _ ⟨(oJ.out _ (jM.out _ aK.out.rd).1.1).1,(jM.out _ aK.out.rd).1.2⟩ aK.out.fs (HD2.out _ aK.out.chg).1 (HD2.out _ aK.out.chg).2.body (HD2.out _ aK.out.chg).2.row iE.out.lc RowI.nil (Nat.zero_le _) (fun b hb hbl hh=>?_) (by simp;omega) (by omega) (by omega)).mono ?_
         ·rcases hh with hh|hh
          ·have:=hb.2;omega
          ·rcases aK.out.own b hh with h1|h1
           ·have:=(ah.out.fs.lt.2 b h1).1;have:=hb.2;omega
           ·have:=hb.2;omega
         rintro e W6 hp;obtain⟨v6,rfl⟩:=hp.1;obtain⟨jg,bM⟩:=aK.out.stepK aT.out zr hp;obtain⟨zq,bK⟩:=ah.out.step aY.out aD.out (bM.rep zr (e:=.returned undef) ⟨_,rfl⟩);have Co:=zh (show VsI Rd fb fb Wb (.slice none 0 0) (F1+prcN p.prs (j+1)) W6 zq by rw[zof iJ,Hr.out,prcE,kD.out];simpa only[Nat.add_assoc]using bK);clear bK bM hp a0 a1 a2 a3 a4 a5 ar ai r0 r1 r2 r3 r4 r5;go_wp2_with fail
         go_roundw
         case rel=>exact⟨j+1,_,by omega,by go_num,Co.out⟩
         case measure=>simp[intOf];omega
      ·have hd:decide (PE<(j:Int))=false:=decide_eq_false hpe;obtain⟨E1,hE1⟩:=zX (one1 (0));have hE2:E1<=1:=by rw[<-hE1];exact zmQ _
       have kD:=zh (show one1 (if zlG p.prs r.s<(j:Int)then 22 else 0)=E1 by rw[HPE.out,if_neg hpe];exact hE1);refine zT 5 aN ?_;refine zd ?_;refine NoPanic.normal ?_;obtain⟨⟨⟨a0,a1,a2,a3,a4,a5⟩,ar⟩,ai,r0,r1,r2,r3,r4,r5⟩:=aN.1;clear aN;go_wp2_with fail;have HI3:=zh (show VsI jL fb fb wk pv' (F1+prcN p.prs j+E1) w2 pv' by rw[<-hE1];exact uU.out);clear hE1
       go_loopw [59] (fun x w'=>∃(i:Nat) (mg:Value),i<=r.ps.length/\x=.int .i64 i/\VsI jL fb fb wk pv' (F1+prcN p.prs j+E1+frsN r.ps i) w' mg) (fun x _=>r.ps.length-(intOf x).toNat)
       case atStart=>exact⟨0,_,Nat.zero_le _,rfl,HI3.out⟩
       case round =>
        clear HI3 a0 a1 a2 a3 a4 a5 ar ai r0 r1 r2 r3 r4 r5;obtain⟨i,mg,hi,rfl,hinv⟩:=hrel;have bP:=zh hinv;by_cases wR:i<r.ps.length
        ·obtain⟨a',u,rfl,hsa,Hu,⟨q0,q1,q2⟩,hfu⟩:=(HD2.out wr hinv.chg).2.row.nd wR;have hic:(i:Int)<=(d1:Int):=by have:=iE.out.lc;omega
         have hi0:(0:Int)<=(i:Int):=by omega
         obtain⟨⟨⟨a0,a1,a2,a3,a4,a5⟩,ar⟩,ai,r0,r1,r2,r3,r4,r5⟩:=dS.out _ hinv.rd;clear hinv hsa hfu;go_upto_region 18 with fail;have hbk:Below wr.heap.size wr (wr.alloc (.cells #[.string u.s,.int .u8 u.k,.int .i64 u.n] 57)):=zkb zr _;have eX:=heap_alloc_new wr (.cells #[.string u.s,.int .u8 u.k,.int .i64 u.n] 57);obtain⟨wv,hwv⟩:=zX (wr.alloc (.cells #[.string u.s,.int .u8 u.k,.int .i64 u.n] 57));rw[hwv]at hbk eX ⊢;have uz:=zh (show wv.heap.size=wr.heap.size+1 by rw[<-hwv];simp);have nZ:=zh hbk;have iG:=zh eX;clear hwv hbk eX a0 a1 a2 a3 a4 a5 ar ai r0 r1 r2 r3 r4 r5 q0 q1 q2
         have qM:=zh (show ∀w':World,Below wv.heap.size wv w'->(fun w':World=>(fun w':World=>(zN6 w' W.heap.size (.slice A1 L1 c1) (.slice (some a) L2 c2) (.int .u8 k) (.int .i64 n) (.string s) (.slice A3 l3 c3)/\(zv w' (fb+1) 0 (.func (.func 69) #[] #[.pointer (some ⟨fb,0,none⟩)])))/\(zv w' w0.heap.size 0 (.int .i64 (j:Int)))/\zN6 w' (w0.heap.size+1) (.string r.s) (.slice (some a') r.ps.length d1) (.int .u8 r.b.k) (.int .i64 r.b.n) (.string r.b.s) (.slice P2 r.b.ks.length d2)) w'/\zN3 w' wr.heap.size (.string u.s) (.int .u8 u.k) (.int .i64 u.n)) w'/\zU w' from fun w' h=>⟨⟨dS.out _ (aT.out _ _ _ _ bP.out.rd bP.out.fs (Chg.of_below (zka nZ.out h))),box3 ((h.block _ (by have:=uz.out;omega)).trans iG.out)⟩,trivial⟩);have hdv:=(zs wv).drew;have hSS:=qM.out _ hdv;have AB:=zmv r.ps i;refine wp_region_noPanic ?_
         refine zkk (fun w':World=>(fun w':World=>(zN6 w' W.heap.size (.slice A1 L1 c1) (.slice (some a) L2 c2) (.int .u8 k) (.int .i64 n) (.string s) (.slice A3 l3 c3)/\(zv w' (fb+1) 0 (.func (.func 69) #[] #[.pointer (some ⟨fb,0,none⟩)])))/\(zv w' w0.heap.size 0 (.int .i64 (j:Int)))/\zN6 w' (w0.heap.size+1) (.string r.s) (.slice (some a') r.ps.length d1) (.int .u8 r.b.k) (.int .i64 r.b.n) (.string r.b.s) (.slice P2 r.b.ks.length d2)) w'/\zN3 w' wr.heap.size (.string u.s) (.int .u8 u.k) (.int .i64 u.n)) zU 40 (by kernel_rfl) ?_;refine zT 0 hSS ?_;refine zT 1 hSS ?_;refine zT 2 hSS ?_;refine zT 3 hSS ?_;refine zT 4 hSS ?_;refine zT 5 hSS ?_;refine zT 6 hSS ?_;refine zT 7 hSS ?_;refine zT 8 hSS ?_;refine zT 9 hSS ?_;refine zo 10 fun K hK=>?_
         refine zkd (by rfl) (.func 71) [.tmp 71,.tmp 73] _ (by rfl) 71 _ zpP (by rfl) _ (by rfl) _ (znI (zmF r.ps i (by omega) (some a') d1 u.s _ _ (HD2.out _ (bP.out.chg.trans (Chg.of_below (zka nZ.out hdv)))).2.row iE.out.lp)) ?_;rintro vq w5 ⟨rfl,fZ⟩;have b5:=zka hdv fZ;refine hK.out _ _ (qM.out _ b5) ?_;clear hK K hSS;(try simp only[zQ]);refine zo 11 fun K hK=>?_;refine zk5 (by rfl) (.tmp 64) [.tmp 65,.const (.slice none 0 0),.tmp 67,.tmp 74] _ (by rfl) 69 _ zso #[.pointer (some ⟨fb,0,none⟩)] (by rfl) _ (by rfl) _ (zmq (zmC fb fb _ mg (j:Int) _ [] none 0 u.s Any _ (bP.out.fs.later (zka nZ.out b5)) RowI.nil (by simp) (by omega))) ?_;rintro vq W6 hp;obtain⟨jg,bM⟩:=bP.out.stepK aT.out (zka nZ.out b5) hp
         have bK:VsI jL fb fb wk pv' (F1+prcN p.prs j+E1+frsN r.ps (i+1)) W6 jg:=by rw[zm5 wR,Hu.out,<-Nat.add_assoc];exact bM
         have aA:zW (fun w':World=>(fun w':World=>(zN6 w' W.heap.size (.slice A1 L1 c1) (.slice (some a) L2 c2) (.int .u8 k) (.int .i64 n) (.string s) (.slice A3 l3 c3)/\(zv w' (fb+1) 0 (.func (.func 69) #[] #[.pointer (some ⟨fb,0,none⟩)])))/\(zv w' w0.heap.size 0 (.int .i64 (j:Int)))/\zN6 w' (w0.heap.size+1) (.string r.s) (.slice (some a') r.ps.length d1) (.int .u8 r.b.k) (.int .i64 r.b.n) (.string r.b.s) (.slice P2 r.b.ks.length d2)) w'/\zN3 w' wr.heap.size (.string u.s) (.int .u8 u.k) (.int .i64 u.n)) zU W6:=⟨⟨dS.out _ bK.rd,box3 ((hp.2.elim fun _ h=>h.2.2.block _ (by have:=(zka nZ.out b5).size;have:=b5.size;have:=uz.out;omega) (fun hh=>by have hl:=bP.out.fs.lt;rcases hh with hh|hh;(have:=hl.1;omega);(have:=(hl.2 _ hh).2;omega))).trans ((b5.block _ (by have:=uz.out;omega)).trans iG.out))⟩,trivial⟩
         refine hK.out _ _ aA ?_;clear hK K;(try simp only[zQ]);refine zd ?_;refine NoPanic.normal ?_;have jm:=zh bK;clear bK bM hp aA;go_wp2_with fail
         go_roundw
         case rel=>exact⟨i+1,_,by omega,by go_num,jm.out⟩
         case measure=>simp[intOf];omega
        ·have hil:i=r.ps.length:=by omega
         obtain⟨⟨⟨a0,a1,a2,a3,a4,a5⟩,ar⟩,ai,r0,r1,r2,r3,r4,r5⟩:=dS.out _ hinv.rd;have hge:¬ ((i:Int)<(r.ps.length:Int)):=by omega
         clear hinv;go_wp2_with fail;have AB:=zmv r.ps r.ps.length;have aK:=zh (show VsI jL fb fb wk pv' (F1+prcN p.prs j+E1+frsN r.ps r.ps.length) wr mg by rw[<-hil];exact bP.out);have yl:=bP.out.chg.size;have hzk:=fM.out;have hz0:=ah.out.chg.size;have hzb:=cZ.out;refine(znq 74 _ _ fb fb (zsB fb fb (fb+1) w0.heap.size (j:Int)) p r.b (fun b=>S b/\b<W.heap.size) r.ps P1 d1 [] none 0 (F1+prcN p.prs j+E1+frsN r.ps r.ps.length) mg wr _ _ ⟨(oJ.out _ (jM.out _ aK.out.rd).1.1).1,(jM.out _ aK.out.rd).1.2⟩ aK.out.fs (HD2.out _ aK.out.chg).1 (HD2.out _ aK.out.chg).2.body (HD2.out _ aK.out.chg).2.row iE.out.lc RowI.nil (Nat.zero_le _) (fun b hb hbl hh=>?_) (by simp;omega) (by omega) (by omega)).mono ?_
         ·rcases hh with hh|hh
          ·have:=hb.2;omega
          ·rcases aK.out.own b hh with h1|h1
           ·have:=(ah.out.fs.lt.2 b h1).1;have:=hb.2;omega
           ·have:=hb.2;omega
         rintro e W6 hp;obtain⟨v6,rfl⟩:=hp.1;obtain⟨jg,bM⟩:=aK.out.stepK aT.out zr hp;obtain⟨zq,bK⟩:=ah.out.step aY.out aD.out (bM.rep zr (e:=.returned undef) ⟨_,rfl⟩);have Co:=zh (show VsI Rd fb fb Wb (.slice none 0 0) (F1+prcN p.prs (j+1)) W6 zq by rw[zof iJ,Hr.out,prcE,kD.out];simpa only[Nat.add_assoc]using bK);clear bK bM hp a0 a1 a2 a3 a4 a5 ar ai r0 r1 r2 r3 r4 r5;go_wp2_with fail
         go_roundw
         case rel=>exact⟨j+1,_,by omega,by go_num,Co.out⟩
         case measure=>simp[intOf];omega
     ·have hjl:j=L2:=by omega
      obtain⟨⟨a0,a1,a2,a3,a4,a5⟩,ar⟩:=aZ.out _ hinv.rd;have hge:¬ ((j:Int)<(L2:Int)):=by omega
      have bX:=zh (show VsI Rd fb fb Wb (.slice none 0 0) (F1+prcN p.prs p.prs.length) w0 pv' by rw[HL2.out,<-hjl];exact ah.out);clear hinv;go_wp2_with fail;have hpN:=zrh p.prs eZ.out.2.2.1 p.prs.length;have hvb:=eZ.out;have yl:=ah.out.chg.size;have hzb:=cZ.out;have vB:=(HD.out _ bX.out.chg).2.main;rw[iW.out.1,iW.out.2.1,iW.out.2.2.1,iW.out.2.2.2]at vB;have hcall:=znq _ _ Rd fb fb aY.out p p.m (fun b=>S b/\b<W.heap.size) p.vs A1 c1 [] none 0 (F1+prcN p.prs p.prs.length) pv' w0 _ _ bX.out.rd bX.out.fs (HD.out _ bX.out.chg).1 vB (HD.out _ bX.out.chg).2.vars HR.out.lvc RowI.nil (Nat.zero_le _) (fun b hb hbl hh=>by rcases hh with hh|hh;(have:=hb.2;omega);(rcases bX.out.own b hh with h1|h1;(simp[Value.ownBlock]at h1);(have:=hb.2;omega))) (by simp;omega) (by omega) (by omega);rw[ig.out]at hcall;refine hcall.mono ?_;clear hcall;rintro e W6 hp
      obtain⟨v6,rfl⟩:=hp.1;obtain⟨jg,bM⟩:=bX.out.step aY.out zr hp;rw[show F1+prcN p.prs p.prs.length+cntV p.prs p.m p.vs=NN by rw[<-HNN2.out,chkN,ze.out]]at bM;obtain⟨A6,c6,rfl⟩:=bM.fs.slice;have hf6:W6.cell? ⟨fb,0,none⟩=some (.slice A6 NN c6):=zc bM.fs.box rfl;have zi:=zh (show Below W.heap.size W W6 from iF.out.trans (bM.chg.below (by omega) (fun b hb=>by rcases hb with hb|hb;omega;simp[Value.ownBlock]at hb)));clear bM hp vB hvb a0 a1 a2 a3 a4 a5 ar;go_wp2_with fail;go_ret;exact⟨A6,c6,rfl,zi.out⟩
theorem zt1:∀(prs:List PR) (s:ByteArray),prcI prs s=idxP prs s
 | [],_=>rfl
 | q::qs,s=>by
  unfold prcI;rw[zt1 qs s];unfold idxP;rw[List.findIdx?_cons]
def CalB(prs:List PR)(t:T):Prop:=∀u∈po t,(u.k=50\/u.k=51)->∃i,prcI prs u.s=some i
theorem zyE:∀(t:T),isE t=true->∀x∈po t,isE x=true:=by
 intro t
 induction t using T.ind with
 | _ k n s ks ih =>
  intro h x hx;simp only[po,List.mem_cons]at hx;rcases hx with rfl|hx
  ·exact h
  ·obtain⟨t,ht,hx⟩:=zmS.1 hx;exact ih t ht (zwE h t ht) x hx
theorem CalB.expr{prs:List PR}{t:T}(h:isE t=true):CalB prs t:=fun u hu hk=>by
 have:=zwF u (zyE t h u hu);omega
theorem CalB.kid{prs:List PR}{k n:Int}{s:ByteArray}{ks:List T}(h:CalB prs (.nd k n s ks)){t:T}(ht:t∈ks):CalB prs t:=fun u hu=>h u (by simp only[po,List.mem_cons];exact .inr (zmS.2 ⟨t,ht,hu⟩))
theorem zoA{prs:List PR}{k:Int}{s:ByteArray}{vs:List VD}:∀ {ks:List T} {i:Nat},cntK prs k s i ks vs=0->∀t∈ks,∃vs',cntV prs t vs'=0
 | [],_,_,t,ht=>by cases ht
 | u::us,i,h,t,ht=>by
  rw[cntK]at h;obtain⟨h1,h2⟩:=Nat.add_eq_zero_iff.1 h;rcases List.mem_cons.1 ht with rfl|ht
  ·exact⟨_,h1⟩
  ·exact zoA h2 t ht
theorem zt9{e:Int}(h:one1 e=0):e=0:=by
 unfold one1 at h
 split at h
 ·assumption
 ·omega
theorem zx0:∀(t:T) (prs:List PR) (vs:List VD),(isS t=true\/isB t=true\/isE t=true)->cntV prs t vs=0->CalB prs t:=by
 intro t
 induction t using T.ind with
 | _ k n s ks ih =>
  intro prs vs ht h;rcases ht with hs|hb|he
  ·rw[cntV]at h;intro u hu hk;simp only[po,List.mem_cons]at hu;by_cases hc:k=50\/k=51
   ·rcases hu with rfl|hu
    ·have h0:=zt9 (e:=zls prs k s ks.length vs) (by omega);unfold zls at h0;rw[if_neg (by omega),if_neg (by omega),if_neg (by omega),if_neg (by omega),if_pos hc]at h0;rw[zt1]
     cases hi:idxP prs s with
     | none=>rw[hi]at h0;simp at h0
     | some i=>exact⟨i,hi⟩
    ·obtain⟨t,ht,hx⟩:=zmS.1 hu;have h57:t.k≠57:=by
      rcases zm4 hs with⟨_,h1⟩|⟨h1,_⟩|⟨h1,_⟩|⟨h1,_⟩
      ·exact h1 t ht
      all_goals omega
     rcases(zxQ hs).2 t ht with h1|h1
     ·exact CalB.expr h1 u hx hk
     ·exact absurd (zKQ h1) h57
   ·rw[if_neg hc]at h;rcases hu with rfl|hu
    ·exact absurd hk hc
    ·obtain⟨t,ht,hx⟩:=zmS.1 hu;obtain⟨vs',hv⟩:=zoA (Nat.add_eq_zero_iff.1 h).2 t ht;rcases(zxQ hs).2 t ht with h1|h1
     ·exact CalB.expr h1 u hx hk
     ·exact ih t ht prs vs' (.inr (.inl h1)) hv u hx hk
  ·obtain⟨h57,hks⟩:=zsl _ _ _ _ hb;rw[cntV,if_neg (by omega)]at h;intro u hu hk;simp only[po,List.mem_cons]at hu;rcases hu with rfl|hu
   ·simp only[T.k_nd]at hk;omega
   ·obtain⟨t,ht,hx⟩:=zmS.1 hu;obtain⟨vs',hv⟩:=zoA (Nat.add_eq_zero_iff.1 h).2 t ht;exact ih t ht prs vs' (.inl (hks t ht)) hv u hx hk
  ·exact CalB.expr he
def GP(prs:List PR)(t:T):Prop:=isS t=true/\CalB prs t/\∀q∈prs,isB q.b=true/\CalB prs q.b
theorem GP.block{prs:List PR}{b:T}(hb:isB b=true)(hc:CalB prs b)(hq:∀q∈prs,isB q.b=true/\CalB prs q.b):∀u∈b.ks,GP prs u:=by
 obtain⟨k,n,s,ks⟩:=b;exact fun u hu=>⟨(zsl _ _ _ _ hb).2 u hu,hc.kid hu,hq⟩
theorem zKv:GC GP where
 two:=fun prs t h hk=>by
  obtain⟨k,n,s,ks⟩:=t;obtain⟨hs,hc,hq⟩:=h;simp only[T.k_nd]at hk;rcases zm4 hs with⟨h1,_⟩|⟨_,_,a,b,c,d,rfl,_,hb1,hb2,_⟩|⟨h1,_⟩|⟨h1,_⟩
  ·omega
  ·exact⟨rfl,GP.block hb1 (hc.kid (t:=b) (by simp)) hq,GP.block hb2 (hc.kid (t:=c) (by simp)) hq⟩
  ·omega
  ·omega
 loc:=fun prs t h hk=>by
  obtain⟨k,n,s,ks⟩:=t;obtain⟨hs,hc,hq⟩:=h;simp only[T.k_nd]at hk;rcases zm4 hs with⟨h1,_⟩|⟨h1,_⟩|⟨_,_,a,b,c,rfl,_,hb1,_⟩|⟨h1,_⟩
  ·omega
  ·omega
  ·exact⟨rfl,GP.block hb1 (hc.kid (t:=b) (by simp)) hq⟩
  ·omega
 stk:=fun prs t h hk=>by
  obtain⟨k,n,s,ks⟩:=t;obtain⟨hs,hc,hq⟩:=h;simp only[T.k_nd]at hk;rcases zm4 hs with⟨h1,_⟩|⟨h1,_⟩|⟨h1,_⟩|⟨_,_,b,rfl,hb1⟩
  ·omega
  ·omega
  ·omega
  ·exact⟨rfl,GP.block hb1 (hc.kid (t:=b) (by simp)) hq⟩
 cal:=fun prs t h hk=>by
  obtain⟨hs,hc,hq⟩:=h;have hm:t∈po t:=by obtain⟨k,n,s,ks⟩:=t;simp[po]
  obtain⟨i,hi⟩:=hc t hm hk;obtain⟨-,hl⟩:=zpC _ _ _ hi;exact⟨i,prs[i],hi,List.getElem?_eq_getElem hl,GP.block (hq _ (List.getElem_mem hl)).1 (hq _ (List.getElem_mem hl)).2 hq⟩
theorem zqt{ps:List PR}:∀ {j:Nat},j<=ps.length->prcN ps j=0->∀i (h:i<ps.length),i<j->prcE ps i ps[i]=0
 | 0,_,_,i,_,hi=>by omega
 | j+1,hj,h,i,hl,hi=>by
  rw[zof (by omega)]at h;by_cases e:i=j
  ·subst e;omega
  ·exact zqt (j:=j) (by omega) (by omega) i hl (by omega)
theorem ztC{p:PG}(h:zla p=true):isB p.m=true/\∀r∈p.prs,isB r.b=true:=by
 simp only[zla,Bool.and_eq_true,decide_eq_true_eq,List.all_eq_true]at h;refine⟨?_,fun r hr=>?_⟩
 ·have:=h.2;simp only[zlH,Bool.and_eq_true]at this;exact this.2
 ·have:=h.1.2 r hr;simp only[zoK,zlH,Bool.and_eq_true]at this;exact this.2.2
theorem zvJ{p:PG}(hv:zla p=true)(hc:chkN p=0):∀u∈p.m.ks,GP p.prs u:=by
 obtain⟨h1,h2⟩:=ztC hv;unfold chkN at hc;refine GP.block h1 (zx0 _ _ p.vs (.inr (.inl h1)) (by omega)) fun q hq=>⟨h2 q hq,?_⟩
 obtain⟨i,hi,rfl⟩:=List.getElem_of_mem hq;have:=zqt zl (show prcN p.prs p.prs.length=0 by omega) i hi hi;unfold prcE at this;exact zx0 _ _ _ (.inr (.inl (h2 _ hq))) (show cntV p.prs p.prs[i].b p.prs[i].ps=0 by omega)
theorem zzT(M a b r s g:Nat)(h1:a<=b)(h2:s<=r)(hg:b*M+r<=g):a*M+s<=g:=by have:=Nat.mul_le_mul_right M h1;omega
theorem zwc{p:PG}{F:Int}{g:Nat}(hv:zla p=true)(hg:F.toNat*2000+2000<=g)(back:Bool)(S:ST)(e:List Nat):Good 0 (runO p.prs F g back p.m ⟨S,0,e⟩):=by
 obtain⟨_,_,h3,_,h5⟩:=zmm hv;refine zlM _ _ fun u hu r hr=>zl9 (M:=2000) (fun q hq=>(h3 q hq).2.2) (by omega) g back u r ?_;have h6:=zpI (zlK hu);exact zzT 2000 (F.toNat-r.n) F.toNat 2000 _ g (by omega) (by omega) hg
def Nz(o:Out):Prop:=o ≠ .err 0
theorem Nz.bind{o:Out}{f:RS->Out}(h:Nz o)(hf:∀r,Nz (f r)):Nz (o.bind f):=by
 cases o with
 | gas=>exact fun e=>by cases e
 | err x=>exact h
 | ok r=>exact hf r
theorem Nz.ok(r:RS):Nz (.ok r):=fun e=>by cases e
theorem Nz.gas:Nz .gas:=fun e=>by cases e
theorem Nz.step(F:Int)(r:RS):Nz (zkE F r):=by
 unfold zkE
 split
 ·intro e;injection e with e;omega
 ·exact Nz.ok _
theorem Nz.store(r:RS)(R:Int×ST):Nz (zkl r R):=by
 unfold zkl
 split
 ·rename_i h;intro e;injection e with e;exact h e
 ·exact Nz.ok _
theorem Nz.val{t:T}{r:RS}{f:Int->RS->Out}(hf:∀x,Nz (f x r)):Nz (valO t r f):=by
 unfold valO
 split
 ·rename_i h;intro e;injection e with e;exact h e
 ·exact hf _
theorem Nz.holds{F:Int}{t:T}{r:RS}{f:Bool->RS->Out}(hf:∀b r,Nz (f b r)):Nz (zlg F t r f):=(Nz.step F r).bind fun r=>Nz.val fun x=>hf _ _
theorem Nz.assert(F:Int)(t:T)(b:Bool)(r:RS):Nz (zku F t b r):=Nz.holds fun b' r=>by
 split
 ·exact Nz.ok _
 ·intro e;injection e with e;omega
theorem Nz.body{f:T->RS->Out}:∀(l:List T) (r:RS),(∀t∈l,∀r,Nz (f t r))->Nz (zld f l r)
 | [],r,_=>Nz.ok r
 | t::ts,r,h=>(h t (List.mem_cons_self ..) r).bind fun r=>Nz.body ts r fun u hu=>h u (List.mem_cons_of_mem _ hu)
theorem Nz.loop{F:Int}{f:T->RS->Out}{entry test:T}{l1 l2:List T}(h1:∀t∈l1,∀r,Nz (f t r))(h2:∀t∈l2,∀r,Nz (f t r)):∀(m:Nat) (r:RS),Nz (zl7 F f entry test l1 l2 m r)
 | 0,_=>Nz.gas
 | m+1,r=>by
  rw[zl7];refine(Nz.body l1 r h1).bind fun r=>Nz.holds fun b r=>?_
  split
  ·exact Nz.ok _
  ·exact(Nz.body l2 r h2).bind fun r=>(Nz.assert F entry false r).bind fun r=>Nz.loop h1 h2 m r
theorem znY{G:List PR->T->Prop}(hG:GC G){prs:List PR}{F:Int}:∀(g:Nat) (back:Bool) (t:T) (r:RS),G prs t->Nz (zkB prs F g back t r)
 | 0,_,_,_,_=>Nz.gas
 | g+1,back,t,r,h=>by
  have hb:∀back (b:T) r,(∀u∈b.ks,G prs u)->Nz (zld (zkB prs F g back) (blkL back b) r):=fun back b r hu=>Nz.body _ r fun u hm r=>znY hG g back u r (hu u (zlK hm));rw[zkB]
  split
  ·rename_i hk;obtain⟨-,h1,h2⟩:=hG.two _ _ h (.inl hk);refine Nz.holds fun yes r=>Nz.bind ?_ fun r=>Nz.assert _ _ _ _
   split
   ·exact hb _ _ _ h1
   ·exact hb _ _ _ h2
  ·split
   ·rename_i hk;obtain⟨-,h1,h2⟩:=hG.two _ _ h (.inr hk);exact(Nz.assert _ _ _ _).bind fun r=>Nz.loop (fun u hm r=>znY hG g back u r (h1 u (zlK hm))) (fun u hm r=>znY hG g back u r (h2 u (zlK hm))) g r
   ·split
    ·rename_i hk;obtain⟨-,h1⟩:=hG.loc _ _ h hk;exact(Nz.step _ _).bind fun r=>Nz.val fun x=>(Nz.store _ _).bind fun r=>(hb _ _ _ h1).bind fun r=>(Nz.step _ _).bind fun r=>Nz.val fun x=>Nz.store _ _
    ·split
     ·rename_i hk;obtain⟨-,h1⟩:=hG.stk _ _ h hk;exact(Nz.step _ _).bind fun r=>(Nz.store _ _).bind fun r=>(hb _ _ _ h1).bind fun r=>(Nz.step _ _).bind fun r=>Nz.store _ _
     ·split
      ·rename_i hk;obtain⟨i,q,hi,hq,h1⟩:=hG.cal _ _ h hk;rw[hi];dsimp only;rw[getD_some hq];exact(Nz.step _ _).bind fun r=>(Nz.store _ _).bind fun r=>(hb _ _ _ h1).bind fun r=>(Nz.step _ _).bind fun r=>Nz.store _ _
      ·exact(Nz.step _ _).bind fun r=>Nz.store _ _
theorem zyn{G:List PR->T->Prop}(hG:GC G){prs:List PR}{F:Int}{g:Nat}{back:Bool}{b:T}{r:RS}(h:∀u∈b.ks,G prs u):Nz (runO prs F g back b r):=Nz.body _ r fun u hm r=>znY hG g back u r (h u (zlK hm))
theorem RI.chgK{C:RC}{lo hi:Nat}{W W':World}{r:RS}(hC:(C.plus lo hi).Ok)(h:RI (C.plus lo hi) W r)(hc:Chg (fun b=>lo<=b/\b<hi) W W')(hlo:C.w.heap.size<=lo):RI (C.plus lo hi) W' r:=by
 have hkb:∀b,lo<=b/\b<hi->(C.plus lo hi).kb b:=fun b hb=>.inr hb;refine⟨h.ks.chg hc fun b _ hb=>⟨Nat.le_trans hlo hb.1,.inr (.inl (hkb b hb))⟩,hc.keep h.box fun hb=>hC.rb.2 (hkb _ hb),zms h.ent fun b hb=>?_,h.el,h.en,h.n,h.fb⟩;exact hc.block b (h.ent.lt b hb).2 fun hb'=>hC.ev.2 b hb (hkb _ hb')
end
end Go.Proofs.YtembgnhbpmfhpaaGreat
