/-
  Texts of the proof, put together without their remarks: Sfd, Ser, Sfo, Sex, Sak, Sar, Lsn, Lift, LiftV, LiftP, LiftS, LiftB, Lift5, Lift6.
-/
import Derived.Test.YtembgnhbpmfhpaaGreatK11
import Derived.Maps.OwnSet
import Derived.Maps.OwnIn
import Derived.Test.YtembgnhbpmfhpaaGreatRows
import Derived.ProofKit
import Derived.SizedLaws
import Derived.Deep.Slices
import Derived.Deep.Fields
import Derived.Lib.SmallJoins
import Derived.ChangeSlices
import Derived.OpenShut
import Derived.Carry
set_option linter.unusedSimpArgs false
set_option linter.unusedVariables false
set_option maxHeartbeats 8000000
set_option maxRecDepth 100000
namespace Go.Proofs.YtembgnhbpmfhpaaGreat
section
open Go Go.RowKit
attribute [local go_sem] Oper.semAt_some
theorem OwnS.chgD{W W':World}{n0 ba:Nat}{s:SS}{v:Value}{xs:Array Value}(h:OwnS W n0 s v)(hc:Chg (fun b=>b=ba) W W')(hz:W.heap[ba]?=some (.cells xs 59 (0,0))):OwnS W' n0 s v:=by
 obtain⟨vc,vi,vo,fc,rfl,hr,hi⟩:=h;refine⟨vc,vi,vo,fc,rfl,hr.chg hc fun i b hb hcb=>?_,hi⟩;have hcb:b=ba:=hcb;subst hcb;obtain⟨-,⟨hv,-⟩|⟨g,cap,cur,hv,-,hg,-⟩⟩:=hr.row i
 ·rw[hv]at hb
  cases hb
 ·rw[hv]at hb;injection hb with hb;have hb:g=b:=hb;subst hb;rw[hz]at hg;injection hg with hg;injection hg with _ hE
  cases i with
  | all=>simp[zmK]at hE
  | inp=>simp[zmK]at hE
  | out=>simp[zmK]at hE
  | el i =>
   simp only[zmK]at hE
   split at hE
   ·simp at hE
   ·exact absurd hE (by decide)
def FwV(n0:Nat)(R:SS×Nat×Int×List Nat)(x:Value)(w:World):Prop:=∃A c B d D g,x=.agg #[.slice A R.1.cells.length c,.slice B R.1.tin.length d,.slice D R.1.tout.length g,.int .i64 (R.2.1:Int),.int .i64 R.2.2.1]/\OwnS w n0 R.1 (.agg #[.slice A R.1.cells.length c,.slice B R.1.tin.length d,.slice D R.1.tout.length g])/\R.1.Lim
theorem FwP.v{W W':World}{R:SS×Nat×Int×List Nat}{e:Ending}{n:Nat}(hn:n<=W.heap.size)(h:FwP W R e W'):∃x,e=.returned x/\FwV n R x W'/\Below W.heap.size W W':=by
 obtain⟨v1,v2,v3,rfl,ho,hb,hl⟩:=h;have hsv:=ho.lower hn;obtain⟨A,c,B,d,D,g,hv⟩:=ho.slices;rw[hv]at hsv;injection hv with hv;simp only[Array.mk.injEq,List.cons.injEq,and_true]at hv;obtain⟨rfl,rfl,rfl⟩:=hv;exact⟨_,rfl,⟨A,c,B,d,D,g,rfl,hsv,hl.1⟩,hb⟩
def difE(p q:PG)(F:Int)(s:SS):Bool:=decide (errE p F s≠errE q F s) || !eqS (resO p s F (F.toNat*2000+2000) false).1 (resO q s F (F.toNat*2000+2000) false).1
theorem zyG:IsFn Tryz.prog 59 Tryz.f59:=⟨Tryz.func59,by kernel_rfl,by kernel_rfl⟩
theorem zuF{W:World}{p q:PG}{s:SS}{F:Int}{bp bf bq c1 c2 c3 e1 e2 e3:Nat}{A1 A2 A3 D1 D2 D3:Option Addr}{sv:Value}(hk:W.heap[bp]?=some (.cells (pgA p A1 c1 A2 c2 A3 c3) 43 (0,0)))(hp:PV W Any p (pv A1 p.vs.length c1 A2 p.prs.length c2 p.m.k p.m.n p.m.s A3 p.m.ks.length c3))(hf:W.heap[bf]?=some (.cells #[.int .i64 F] 3 (0,0)))
  (hkq:W.heap[bq]?=some (.cells (pgA q D1 e1 D2 e2 D3 e3) 43 (0,0)))(hq:PV W Any q (pv D1 q.vs.length e1 D2 q.prs.length e2 q.m.k q.m.n q.m.s D3 q.m.ks.length e3))(hs:SV W Any s sv)(hcl:s.cells.length<=100)(hF:I64 F)(eD:F<=1000000) :
  Calls Tryz.prog 59 #[sv,.pointer (some ⟨bp,0,none⟩),.pointer (some ⟨bf,0,none⟩),.pointer (some ⟨bq,0,none⟩)] W fun e' W'=>e'=.returned (.bool (difE p q F s))/\Below W.heap.size W W':=by
 obtain⟨A,c,B,d,D,k,rfl⟩:∃A c B d D k,sv=.agg #[.slice A s.cells.length c,.slice B s.tin.length d,.slice D s.tout.length k]:=by
  obtain⟨A,c,B,d,D,k,rfl,-⟩:=hs;exact⟨_,_,_,_,_,_,rfl⟩
 have hkb:=heap_alloc_new W (.cells #[.slice A s.cells.length c,.slice B s.tin.length d,.slice D s.tout.length k] 32);have hb:=zkb (zs W) (.cells #[.slice A s.cells.length c,.slice B s.tin.length d,.slice D s.tout.length k] 32);obtain⟨w1,hw1⟩:=zX (W.alloc (.cells #[.slice A s.cells.length c,.slice B s.tin.length d,.slice D s.tout.length k] 32));obtain⟨N,hN⟩:=zX (W.heap.size);rw[hw1]at hkb hb;rw[hN]at hkb;have HB:=zh hb;have uA:=zh (zkc hk hb);have HKQ:=zh (zkc hkq hb);have jG:=zh (zkc hf hb);have nA:=zh hkb;have gZ:=zh (fun w (h:Below w1.heap.size w1 w)=>zmh p s F (F.toNat*2000+2000) _ _ w ((hp.later hb).later h) ((hs.later hb).later h) (by omega) hF eD zl);have jc:=zh (fun w (h:Below w1.heap.size w1 w)=>zmh q s F (F.toNat*2000+2000) _ _ w ((hq.later hb).later h) ((hs.later hb).later h) (by omega) hF eD zl)
 have uJ:=zh (show difE p q F s=(decide ((resO p s F (F.toNat*2000+2000) false).2.2.1≠(resO q s F (F.toNat*2000+2000) false).2.2.1) || !eqS (resO p s F (F.toNat*2000+2000) false).1 (resO q s F (F.toNat*2000+2000) false).1)from rfl);obtain⟨RD,hRD⟩:=zX (difE p q F s);rw[hRD]at uJ ⊢;generalize resO p s F (F.toNat*2000+2000) false=R1 at gZ uJ;generalize resO q s F (F.toNat*2000+2000) false=R2 at jc uJ;clear hk hp hf hkq hq hs hcl hF eD hb hkb hRD;go_enter Tryz.func59,Tryz.ntmps59;go_upto_region 1 with fail
 try rw[hw1]
 try rw[hN]
 clear hw1 hN;have av:=zh (show ∀w',Below w1.heap.size w1 w'->(fun w':World=>pgS w' bp p A1 c1 A2 c2 A3 c3/\pgS w' bq q D1 e1 D2 e2 D3 e3/\stC w' N A s.cells.length c B s.tin.length d D s.tout.length k/\zv w' bf 0 (.int .i64 F)) w' from fun w' hb=>⟨box6 (zkc uA.out hb),box6 (zkc HKQ.out hb),zkr (zkc nA.out hb),zc (zkc jG.out hb) rfl⟩);obtain⟨S1,hS1⟩:∃S1:World->Prop,S1=fun w':World=>pgS w' bp p A1 c1 A2 c2 A3 c3/\pgS w' bq q D1 e1 D2 e2 D3 e3/\stC w' N A s.cells.length c B s.tin.length d D s.tout.length k/\w'.cell? ⟨bf,0,none⟩=some (.int .i64 F):=⟨_,rfl⟩
 rw[<-hS1]at av;have hSS:zW S1 zU w1.drew:=⟨av.out _ zr.drew,trivial⟩
 refine wp_region_noPanic ?_;refine zG hSS 10 ?_;subst hS1;refine zT 0 hSS ?_;refine zT 1 hSS ?_;refine zT 2 hSS ?_;refine zT 4 hSS ?_;refine zT 5 hSS ?_;refine zT 6 hSS ?_;have hI:(fun w=>Below w1.heap.size w1 w) w1.drew:=zr.drew;clear hSS
 refine zrD (i:=3) (j1:=8) (j2:=9) (some 11) (some 6) (some 7) 3 (fun li la lb => #[true,true,true,li,true,true,true,false,la,lb,false,false]) _ (fun w=>Below w1.heap.size w1 w) (J2 (.cells #[.slice none 0 0,.slice none 0 0,.slice none 0 0,.int .i64 0,.int .i64 0] 59 (0,0)) w1.heap.size) (FwV w1.heap.size R1) rfl rfl rfl rfl rfl rfl (by kernel_rfl) (by kernel_rfl) (by kernel_rfl) (by kernel_rfl) (fun la lb=>by cases la<;>cases lb<;>rfl) (fun lb=>by cases lb<;>rfl) (fun la=>by cases la<;>rfl) (fun w h=>⟨av.out _ h,trivial⟩) (fun w w' h hb=>?_) (fun la lb u v w w' h hb=>h.later hb) (fun u v K w h ah=>?_) (fun lb u v K w h hj ah=>?_) (fun la u v K w h hj ah=>?_) (fun u v x=>?_) (fun u v x=>?_) (fun la lb u v x wc h hF hj=>?_) false false undef undef w1.drew hI ⟨nofun,nofun,nofun⟩ ?_
 ·have hb0:=h;exact zka hb0 hb
 ·have hb0:=h;have hK:=zh ah;clear ah;refine zkd (by rfl) (.func 21) [.tmp 8,.tmp 9,.tmp 10] _ (by rfl) 21 _ zsj (by rfl) [pv A1 p.vs.length c1 A2 p.prs.length c2 p.m.k p.m.n p.m.s A3 p.m.ks.length c3,.agg #[.slice A s.cells.length c,.slice B s.tin.length d,.slice D s.tout.length k],.int .i64 F] (by rfl) (fun x w'=>FwV w1.heap.size R1 x w'/\Below w.heap.size w w') ((gZ.out w hb0).mono fun e w' h=>FwP.v hb0.size h) ?_;rintro x w' ⟨hx,hb⟩;exact hK.out _ _ hb hx
 ·have hb0:=h;have hK:=zh ah;clear ah;(try simp only[zQ]);(try simp only[zA,zB,zC]);go_simp;exact hK.out _ _ (zkb zr _) (hj.one hb0.size)
 ·have hb0:=h;have hK:=zh ah;clear ah;(try simp only[zQ]);(try simp only[zA,zB,zC]);go_simp;exact hK.out _ _ (zkb zr _) (hj.two hb0.size)
 ·simp only[Act.put,zD,zE,zF]
 ·simp only[Act.put,zD,zE,zF]
 rotate_left 1
 ·simp only[Act.put,zD,zE,zF]
 (try simp only[zQ]);obtain⟨fA,fc,fB,fd,fD,fg,rfl,hsa,hl1⟩:=hF;have iM:=zh hl1;clear hI hl1;have hI:(fun w=>Below w1.heap.size w1 w/\OwnS w w1.heap.size R1.1 (.agg #[.slice fA R1.1.cells.length fc,.slice fB R1.1.tin.length fd,.slice fD R1.1.tout.length fg])) wc:=⟨h,hsa⟩
 clear hsa h
 refine zrD (i:=7) (j1:=8) (j2:=9) (some 15) (some 6) (some 7) 2 (fun li la lb => #[true,true,true,true,true,true,true,li,la,lb,false,false]) _ (fun w=>Below w1.heap.size w1 w/\OwnS w w1.heap.size R1.1 (.agg #[.slice fA R1.1.cells.length fc,.slice fB R1.1.tin.length fd,.slice fD R1.1.tout.length fg])) (J2 (.cells #[.slice none 0 0,.slice none 0 0,.slice none 0 0,.int .i64 0,.int .i64 0] 59 (0,0)) w1.heap.size) (FwV w1.heap.size R2) rfl rfl rfl rfl rfl rfl (by kernel_rfl) (by kernel_rfl) (by kernel_rfl) (by kernel_rfl) (fun la lb=>by cases la<;>cases lb<;>rfl) (fun lb=>by cases lb<;>rfl) (fun la=>by cases la<;>rfl) (fun w h=>⟨av.out _ h.1,trivial⟩) (fun w w' h hb=>⟨zka h.1 hb,h.2.later hb⟩) (fun la lb u v w w' h hb=>h.later hb) (fun u v K w h ah=>?_) (fun lb u v K w h hj ah=>?_) (fun la u v K w h hj ah=>?_) (fun u v x=>?_) (fun u v x=>?_) (fun la lb u v x wc h hF hj=>?_) la lb u v wc hI hj ?_
 ·have hb0:=h.1;have hK:=zh ah;clear ah;refine zkd (by rfl) (.func 21) [.tmp 12,.tmp 13,.tmp 14] _ (by rfl) 21 _ zsj (by rfl) [pv D1 q.vs.length e1 D2 q.prs.length e2 q.m.k q.m.n q.m.s D3 q.m.ks.length e3,.agg #[.slice A s.cells.length c,.slice B s.tin.length d,.slice D s.tout.length k],.int .i64 F] (by rfl) (fun x w'=>FwV w1.heap.size R2 x w'/\Below w.heap.size w w') ((jc.out w hb0).mono fun e w' h=>FwP.v hb0.size h) ?_;rintro x w' ⟨hx,hb⟩;exact hK.out _ _ hb hx
 ·have hb0:=h.1;have hK:=zh ah;clear ah;(try simp only[zQ]);(try simp only[zA,zB,zC]);go_simp;exact hK.out _ _ (zkb zr _) (hj.one hb0.size)
 ·have hb0:=h.1;have hK:=zh ah;clear ah;(try simp only[zQ]);(try simp only[zA,zB,zC]);go_simp;exact hK.out _ _ (zkb zr _) (hj.two hb0.size)
 ·simp only[Act.put,zD,zE,zF]
 ·simp only[Act.put,zD,zE,zF]
 rotate_left 1
 ·simp only[Act.put,zD,zE,zF]
 (try simp only[zQ]);obtain⟨gA,gc,gB,gd,gD,gg,rfl,hsb,hl2⟩:=hF;have HL2:=zh hl2;clear hI hl2;have hI:(fun w=>Below w1.heap.size w1 w/\OwnS w w1.heap.size R1.1 (.agg #[.slice fA R1.1.cells.length fc,.slice fB R1.1.tin.length fd,.slice fD R1.1.tout.length fg])/\OwnS w w1.heap.size R2.1 (.agg #[.slice gA R2.1.cells.length gc,.slice gB R2.1.tin.length gd,.slice gD R2.1.tout.length gg])) wc:=⟨h.1,h.2,hsb⟩
 clear hsb h;refine ztp (j1:=8) (j2:=9) (some 6) (some 7) 2 (fun la lb => #[true,true,true,true,true,true,true,true,la,lb,false,false]) _ (fun w=>Below w1.heap.size w1 w/\OwnS w w1.heap.size R1.1 (.agg #[.slice fA R1.1.cells.length fc,.slice fB R1.1.tin.length fd,.slice fD R1.1.tout.length fg])/\OwnS w w1.heap.size R2.1 (.agg #[.slice gA R2.1.cells.length gc,.slice gB R2.1.tin.length gd,.slice gD R2.1.tout.length gg])) (J2 (.cells #[.slice none 0 0,.slice none 0 0,.slice none 0 0,.int .i64 0,.int .i64 0] 59 (0,0)) w1.heap.size) rfl rfl rfl rfl (by kernel_rfl) (by kernel_rfl) (by kernel_rfl) (fun lb=>by cases lb<;>rfl) (fun la=>by cases la<;>rfl) (fun w h=>⟨av.out _ h.1,trivial⟩) (fun w w' h hb=>⟨zka h.1 hb,h.2.1.later hb,h.2.2.later hb⟩) (fun lb u v K w h hj ah=>?_) (fun la u v K w h hj ah=>?_) (fun u v x=>?_) (fun u v x=>?_) (fun u v wd h hj=>?_) la lb u v wc hI hj ?_
 ·have hb0:=h.1;have hK:=zh ah;clear ah;(try simp only[zQ]);(try simp only[zA,zB,zC]);go_simp;exact hK.out _ _ (zkb zr _) (hj.one hb0.size)
 ·have hb0:=h.1;have hK:=zh ah;clear ah;(try simp only[zQ]);(try simp only[zA,zB,zC]);go_simp;exact hK.out _ _ (zkb zr _) (hj.two hb0.size)
 ·simp only[Act.put,zD,zE,zF]
 ·simp only[Act.put,zD,zE,zF]
 rotate_left 1
 ·simp only[Act.put,zD,zE,zF]
 (try simp only[zQ]);obtain⟨ba,bb,rfl,rfl,hla,hlb,hne,hza,hzb⟩:=hj.boxes;obtain⟨hb0,hsa,hsb⟩:=h;clear hI hj;have x0:wd.cell? ⟨ba,0,none⟩=some (.slice none 0 0):=zc hza rfl;have x1:wd.cell? ⟨ba,1,none⟩=some (.slice none 0 0):=zc hza rfl;have x2:wd.cell? ⟨ba,2,none⟩=some (.slice none 0 0):=zc hza rfl;have x3:wd.cell? ⟨ba,3,none⟩=some (.int .i64 0):=zc hza rfl;have x4:wd.cell? ⟨ba,4,none⟩=some (.int .i64 0):=zc hza rfl;have xf:∀o,wd.frozen? ⟨ba,o,none⟩=false:=fun _=>zf hza;have tT:=zh hza;have iG:=zh hzb;have HB0:=zh hb0;have wX:=zh hsa;have iX:=zh hsb;clear hza hzb hb0 hsa hsb;refine zo 10 fun K hK=>?_;(try simp only[zA,zB,zC]);go_simp;obtain⟨hh,hch⟩:=set5 (u0:=.slice fA R1.1.cells.length fc) (u1:=.slice fB R1.1.tin.length fd) (u2:=.slice fD R1.1.tout.length fg) (u3:=.int .i64 (R1.2.1:Int)) (u4:=.int .i64 R1.2.2.1) tT.out
 have hb0:=HB0.out.trans (hch.below HB0.out.size fun b e=>by omega);have hsa:=wX.out.chgD hch tT.out;have hsb:=iX.out.chgD hch tT.out;have hzb:=hch.keep iG.out (by show ¬ (bb=ba);omega);obtain⟨we,hwwe⟩:=zX ((((((wd.setCell ⟨ba,0,none⟩ (.slice fA R1.1.cells.length fc)).setCell ⟨ba,1,none⟩ (.slice fB R1.1.tin.length fd)).setCell ⟨ba,2,none⟩ (.slice fD R1.1.tout.length fg)).setCell ⟨ba,3,none⟩ (.int .i64 (R1.2.1:Int))).setCell ⟨ba,4,none⟩ (.int .i64 R1.2.2.1)));rw[hwwe]at hh hch hb0 hsa hsb hzb ⊢;have hza:=hh;refine hK.out _ _ (⟨av.out _ hb0,trivial⟩) ?_;clear hK K x0 x1 x2 x3 x4 xf hwwe hch tT iG HB0 wX iX hh;(try simp only[zQ]);have x0:we.cell? ⟨bb,0,none⟩=some (.slice none 0 0):=zc hzb rfl;have x1:we.cell? ⟨bb,1,none⟩=some (.slice none 0 0):=zc hzb rfl;have x2:we.cell? ⟨bb,2,none⟩=some (.slice none 0 0):=zc hzb rfl;have x3:we.cell? ⟨bb,3,none⟩=some (.int .i64 0):=zc hzb rfl
 have x4:we.cell? ⟨bb,4,none⟩=some (.int .i64 0):=zc hzb rfl;have xf:∀o,we.frozen? ⟨bb,o,none⟩=false:=fun _=>zf hzb;have tT:=zh hza;have iG:=zh hzb;have HB0:=zh hb0;have wX:=zh hsa;have iX:=zh hsb;clear hza hzb hb0 hsa hsb;refine zp 11 fun K hK=>?_;(try simp only[zA,zB,zC]);go_simp;obtain⟨hh,hch⟩:=set5 (u0:=.slice gA R2.1.cells.length gc) (u1:=.slice gB R2.1.tin.length gd) (u2:=.slice gD R2.1.tout.length gg) (u3:=.int .i64 (R2.2.1:Int)) (u4:=.int .i64 R2.2.2.1) iG.out;have hb0:=HB0.out.trans (hch.below HB0.out.size fun b e=>by omega);have hsa:=wX.out.chgD hch iG.out;have hsb:=iX.out.chgD hch iG.out;have hza:=hch.keep tT.out (by show ¬ (ba=bb);omega)
 obtain⟨wf,hwwf⟩:=zX ((((((we.setCell ⟨bb,0,none⟩ (.slice gA R2.1.cells.length gc)).setCell ⟨bb,1,none⟩ (.slice gB R2.1.tin.length gd)).setCell ⟨bb,2,none⟩ (.slice gD R2.1.tout.length gg)).setCell ⟨bb,3,none⟩ (.int .i64 (R2.2.1:Int))).setCell ⟨bb,4,none⟩ (.int .i64 R2.2.2.1)));rw[hwwf]at hh hch hb0 hsa hsb hza ⊢;have hzb:=hh;refine hK.out _ _ ((av.out _ hb0)) ?_;clear hK K x0 x1 x2 x3 x4 xf hwwf hch tT iG HB0 wX iX hh;(try simp only[zQ]);refine zd ?_;refine NoPanic.normal ?_;have x0:wf.cell? ⟨ba,0,none⟩=some (.slice fA R1.1.cells.length fc):=zc hza rfl;have x1:wf.cell? ⟨ba,1,none⟩=some (.slice fB R1.1.tin.length fd):=zc hza rfl;have x2:wf.cell? ⟨ba,2,none⟩=some (.slice fD R1.1.tout.length fg):=zc hza rfl;have x4:wf.cell? ⟨ba,4,none⟩=some (.int .i64 R1.2.2.1):=zc hza rfl;have y0:wf.cell? ⟨bb,0,none⟩=some (.slice gA R2.1.cells.length gc):=zc hzb rfl
 have y1:wf.cell? ⟨bb,1,none⟩=some (.slice gB R2.1.tin.length gd):=zc hzb rfl;have y2:wf.cell? ⟨bb,2,none⟩=some (.slice gD R2.1.tout.length gg):=zc hzb rfl;have y4:wf.cell? ⟨bb,4,none⟩=some (.int .i64 R2.2.2.1):=zc hzb rfl;have nH:=zh (zvb R1.1 R2.1 _ _ wf (hsa.sv iM.out) (hsb.sv HL2.out));have rz:=zh (zka HB.out hb0);clear hza hzb hb0 hsa hsb;by_cases xY:R1.2.2.1=R2.2.2.1
 ·have he:(R1.2.2.1 != R2.2.2.1)=false:=by simpa using xY
  go_wp2_with fail;refine nH.out.mono ?_;rintro e' w9 ⟨rfl,aU⟩;go_wp2_with fail;go_ret;exact⟨by rw[uJ.out,decide_eq_false (by simpa using xY)];rfl,zka rz.out aU⟩
 ·have he:(R1.2.2.1 != R2.2.2.1)=true:=by simpa using xY
  go_wp2_with fail;go_ret;exact⟨by rw[uJ.out,decide_eq_true xY];rfl,rz.out⟩
def dffE(p q:PG)(b:BX)(F:Int):SS×Nat×Bool:=if eqVs p.vs q.vs=true then fndE (difE p q F) (allS b (lenE p.vs b))else(nilS,0,false)
theorem ztd{W:World}{p q:PG}{b:BX}{F:Int}{v u:Value}(hp:PV W Any p v)(hq:PV W Any q u)(hok:(b.ok&&svB p.vs)=true)(hm:(allS b (lenE p.vs b)).length<=1000000)(hF:I64 F)(eD:F<=1000000) :
  Calls Tryz.prog 22 #[v,u,.agg #[.int .i64 b.v,.int .i64 b.l,.int .i64 b.i],.int .i64 F] W (FalP (dffE p q b F) W):=by
 obtain⟨A1,c1,A2,c2,A3,c3,rfl,-⟩:=id hp;obtain⟨D1,e1,D2,e2,D3,e3,rfl,-⟩:=id hq;obtain⟨bv,bl,bi⟩:=b;obtain⟨N,hN⟩:=zX (W.heap.size);have HN:=zh hN;obtain⟨hb1,hz1,k0,k1,k2,k3,k4⟩:=al5F W (.cells (pgA p A1 c1 A2 c2 A3 c3) 43) (.cells (pgA q D1 e1 D2 e2 D3 e3) 43) (.cells #[.int .i64 bv,.int .i64 bl,.int .i64 bi] 24) (.cells #[.int .i64 F] 3) (.cells #[.slice none 0 0,.slice none 0 0,.slice none 0 0] 32);obtain⟨w1,hw1⟩:=zX (((((W.alloc (.cells (pgA p A1 c1 A2 c2 A3 c3) 43)).alloc (.cells (pgA q D1 e1 D2 e2 D3 e3) 43)).alloc (.cells #[.int .i64 bv,.int .i64 bl,.int .i64 bi] 24)).alloc (.cells #[.int .i64 F] 3)).alloc (.cells #[.slice none 0 0,.slice none 0 0,.slice none 0 0] 32));rw[hw1]at hb1 hz1 k0 k1 k2 k3 k4;rw[hN]at hz1 k0 k1 k2 k3 k4;have HB1:=zh hb1;have HZ1:=zh hz1;have HVE:=zh (zzc (W:=w1) (c:=c1) (d:=e1) (hp.pg.vars.later hb1) (hq.pg.vars.later hb1) hp.pg.lv hq.pg.lv)
 have gJ:=zh (((hp.keep (S':=fun q=>q<N+5) (fun q _ h=>by omega) fun _ _ _=>rfl).keep (w':=w1) (S':=fun q=>q<N+5) (fun _ h _=>h) fun q _ hlt=>hb1.block q hlt));have HQV:=zh (((hq.keep (S':=fun q=>q<N+5) (fun q _ h=>by omega) fun _ _ _=>rfl).keep (w':=w1) (S':=fun q=>q<N+5) (fun _ h _=>h) fun q _ hlt=>hb1.block q hlt));have p8:=zh hp.pg.lv;have dN:=zh (And.intro hok (And.intro hm (And.intro hF eD)));obtain⟨⟨s9,n9,ok9⟩,lq⟩:=zX (dffE p q ⟨bv,bl,bi⟩ F);have bI:=zh lq;rw[lq];have aD:=zh k0;have az:=zh k1;have aR:=zh k2;have gM:=zh k3;have dI:=zh k4;obtain⟨p0,p1,p2,p3,p4,p5⟩:=box6 k0;obtain⟨q0,q1,q2,q3,q4,q5⟩:=box6 k1;clear hp hq hb1 hz1 k0 k1 k2 k3 k4 hok hm hF eD lq;have oM:∀(fn:Fn) (first cap:Array Value) (w:World),(Instr.makeFunc fn first cap).run Tryz.prog w=.ok (.func fn first cap) w:=fun _ _ _ _=>rfl
 show Calls Tryz.prog 22 #[pv A1 p.vs.length c1 A2 p.prs.length c2 p.m.k p.m.n p.m.s A3 p.m.ks.length c3,pv D1 q.vs.length e1 D2 q.prs.length e2 q.m.k q.m.n q.m.s D3 q.m.ks.length e3,.agg #[.int .i64 bv,.int .i64 bl,.int .i64 bi],.int .i64 F] W _
 go_enter Tryz.func22,Tryz.ntmps22;go_wp2_with fail;simp only[Nat.add_assoc,Nat.reduceAdd];refine HVE.out.mono ?_;rintro e' w2 ⟨rfl,hb2⟩;have HB2:=zh (zka HB1.out hb2);have qf:=zh (zkc aD.out hb2);have jI:=zh (zkc az.out hb2);have qd:=zh (zkc aR.out hb2);have qc:=zh (zkc gM.out hb2);have jH:=zh (zkc dI.out hb2);have HZ2:=zh (show N+5<=w2.heap.size by have:=hb2.size;have:=HZ1.out;omega);have mY:=zh (gJ.out.later hb2);have HQV2:=zh (HQV.out.later hb2);clear hb2 p0 p1 p2 p3 p4 p5 q0 q1 q2 q3 q4 q5 gJ HQV aD az aR gM dI;obtain⟨ev,hev⟩:=zX (eqVs p.vs q.vs);rw[hev];have HEV:=zh hev;clear hev
 cases ev
 ·have hr:dffE p q ⟨bv,bl,bi⟩ F=(nilS,0,false):=by unfold dffE;rw[HEV.out];rfl
  have HRR:=zh (bI.out.symm.trans hr);clear hr;obtain⟨q0,q1,q2⟩:=zkr jH.out;have cf:∀o,w2.frozen? ⟨N+4,o,none⟩=false:=fun o=>zf jH.out;obtain⟨w9,dx,bF,fH⟩:=st3 (.slice none 0 0) (.slice none 0 0) (.slice none 0 0) jH.out;have xx:=zh fH;have aG:=zh (HB2.out.trans (bF.below HB2.out.size fun q e=>by have e:q=N+4:=e;have:=HN.out;omega));clear bF fH;go_wp2_with fail;obtain⟨t0,t1,t2⟩:=zkr xx.out;have hx:=HRR.out;injection hx with h1 h2;injection h2 with h2 h3;subst h1 h2 h3;exact bodyPost_ret (v:=.tuple #[.agg #[.slice none 0 0,.slice none 0 0,.slice none 0 0],.bool false]) (by simp[results,Tryz.results22,go_sem,t0,t1,t2]) rfl ⟨aG.out,_,rfl,SV.nilF _ _⟩
 have HT:=zh (show zs3 59 #[.pointer (some ⟨N,0,none⟩),.pointer (some ⟨N+3,0,none⟩),.pointer (some ⟨N+1,0,none⟩)] (fun _ s=>difE p q F s) (allS ⟨bv,bl,bi⟩ (lenE p.vs ⟨bv,bl,bi⟩)) w2.heap.size (fun _=>FrI w2.heap.size w2)from by
  refine⟨fun n W W' h h1 h2=>h.keep h1 h2,fun n W h=>h.size,fun n s v W g hI hg hgs ho hx=>?_⟩;have hx2:=zpW dN.out.1 s (List.mem_of_getElem? hx);have hZ:=HZ2.out;have hlt:∀q,q<N+5->W.heap[q]?=w2.heap[q]?:=fun q hq=>hI.same q (by omega);refine(zuF (F:=F) (p:=p) (q:=q) (s:=s) ((hlt N (by omega)).trans qf.out) (mY.out.keep (fun _ _ _=>trivial) fun q h _=>hlt q h) ((hlt (N+3) (by omega)).trans qc.out) ((hlt (N+1) (by omega)).trans jI.out) (HQV2.out.keep (fun _ _ _=>trivial) fun q h _=>hlt q h) (ho.sv hx2.1) hx2.2 dN.out.2.2.1 dN.out.2.2.2).mono ?_;rintro e' W' ⟨rfl,hb⟩;exact⟨rfl,hI.keep hb.size fun q hq=>hb.block q (Nat.lt_of_lt_of_le hq hI.size),Chg.of_below hb⟩)
 have hr:dffE p q ⟨bv,bl,bi⟩ F=fndE (difE p q F) (allS ⟨bv,bl,bi⟩ (lenE p.vs ⟨bv,bl,bi⟩)):=by unfold dffE;rw[HEV.out];rfl
 have bA:=zh (show Calls _ _ _ _ (FstP (fndE (difE p q F) (allS ⟨bv,bl,bi⟩ (lenE p.vs ⟨bv,bl,bi⟩))) (fun _=>FrI w2.heap.size w2) w2)from zoD (W:=w2) (A1:=A1) (c1:=c1) (vs:=p.vs) (b:=⟨bv,bl,bi⟩) (mY.out.keep (S':=Any) (fun _ _ _=>trivial) fun _ _ _=>rfl).pg.vars p8.out dN.out.1 dN.out.2.1 zyG HT.out ⟨zl,fun _ _=>rfl⟩);rw[<-hr,bI.out]at bA;clear hr HT;obtain⟨p0,p1,p2,p3,p4,p5⟩:=box6 qf.out;obtain⟨y0,y1,y2⟩:=zkr qd.out;go_wp2_with fail;refine bA.out.mono ?_;rintro e' w3 ⟨v2,rfl,hs2,hi2,hc2⟩;have qx:=hs2;obtain⟨B1,d1,B2,d2,B3,d3,rfl,-⟩:=qx;have hb2:=hi2.below hc2;have hb3:=zkb hb2 (.cells #[.slice B1 s9.cells.length d1,.slice B2 s9.tin.length d2,.slice B3 s9.tout.length d3] 32);have k10:=heap_alloc_new w3 (.cells #[.slice B1 s9.cells.length d1,.slice B2 s9.tin.length d2,.slice B3 s9.tout.length d3] 32);have k8:=zkc (jH.out) hb3
 have hs3:=hs2.later (zkb (zs w3) (.cells #[.slice B1 s9.cells.length d1,.slice B2 s9.tin.length d2,.slice B3 s9.tout.length d3] 32));obtain⟨w4,hw4⟩:=zX (w3.alloc (.cells #[.slice B1 s9.cells.length d1,.slice B2 s9.tin.length d2,.slice B3 s9.tout.length d3] 32));rw[hw4]at hb3 k10 k8 hs3;obtain⟨x0,x1,x2⟩:=zkr k10;obtain⟨q0,q1,q2⟩:=zkr k8;have cf:∀o,w4.frozen? ⟨N+4,o,none⟩=false:=fun o=>zf k8;obtain⟨w9,dx,bF,fH⟩:=st3 (.slice B1 s9.cells.length d1) (.slice B2 s9.tin.length d2) (.slice B3 s9.tout.length d3) k8;have Bh:=zh (hs3.keep (S':=fun q=>W.heap.size<=q) (fun q h _=>by have:=HB2.out.size;omega) fun q h _=>bF.block q ‹_› (fun e=>by have e:q=N+4:=e;have:=HZ2.out;omega));have xx:=zh fH;have aG:=zh (((HB2.out).trans (hb3.mono HB2.out.size)).trans (bF.below (by have:=HB2.out.size;have:=hb3.size;omega) fun q e=>by have e:q=N+4:=e;have:=HN.out;omega))
 clear hs2 hi2 hc2 hb2 hb3 k10 k8 hs3 bF fH y0 y1 y2 p0 p1 p2 p3 p4 p5;go_wp2_with fail;obtain⟨t0,t1,t2⟩:=zkr xx.out;exact bodyPost_ret (v:=.tuple #[.agg #[.slice B1 s9.cells.length d1,.slice B2 s9.tin.length d2,.slice B3 s9.tout.length d3],.bool ok9]) (by simp[results,Tryz.results22,go_sem,t0,t1,t2]) rfl ⟨aG.out,_,rfl,Bh.out⟩
end
section
open Go Go.RowKit
def E23(e:Int):Prop:=0<=e/\e<=23
theorem zxY{look:ByteArray->Option (List Int)}{k:Int}{s:ByteArray}{i:Int×Int}(h:E23 i.2):E23 (varE look k s i).2:=by
 unfold varE
 split
 ·exact⟨by simp,by simp⟩
 ·(repeat' split)<;>first|exact h|(unfold E23;simp only;omega)
theorem zyQ(k x y:Int):E23 (divE k x y).2:=by
 unfold divE
 split
 ·unfold E23;simp only;omega
 ·split<;>(unfold E23;simp only;omega)
theorem zr_rg(x:Int):E23 (x,(0:Int)).2:=⟨Int.le_refl _,by simp⟩
theorem zzD(c:Prop)[Decidable c](a b:Int×Int)(ha:E23 a.2)(hb:E23 b.2):E23 (if c then a else b).2:=by
 split<;>assumption
theorem zz0(k x y:Int):E23 (apE k x y).2:=by
 unfold apE
 repeat' first|exact zyQ _ _ _|exact zr_rg _|refine zzD _ _ _ ?_ ?_
theorem zxI(look:ByteArray->Option (List Int))(t:T):E23 (evE look t).2:=by
 induction t using T.ind with
 | _ k n s ks ih =>
  rw[evE,znW];have hg:∀i,E23 ((ks.map (evE look)).getD i (0,0)).2:=fun i=>by
   rw[List.getD_eq_getElem?_getD];rcases h:(ks.map (evE look))[i]? with _|q
   ·exact⟨by simp,by simp⟩
   ·obtain⟨h1,h2⟩:=List.getElem?_eq_some_iff.1 h;rw[List.getElem_map]at h2;rw[Option.getD_some,<-h2];exact ih _ (List.getElem_mem _)
  unfold evK
  split
  ·unfold E23;simp only;omega
  ·split
   ·exact zxY (hg 0)
   ·split
    ·exact hg 0
    ·split
     ·unfold unE;split<;>(unfold E23;simp only;omega)
     ·split
      ·exact hg 1
      ·exact zz0 _ _ _
theorem zso(look:ByteArray->Option (List Int))(t:T):E23 (zlP look t).2:=by
 unfold zlP
 split
 ·exact zxI look t
 ·unfold E23;simp only;omega
theorem zuk(look:ByteArray->Option (List Int))(t:T):E23 (indE look t).2:=by
 unfold indE
 split
 ·split
  ·unfold E23;simp only;omega
  ·exact zxI look _
 ·unfold E23;simp only;omega
theorem zyf(vs:List VD)(k:Int)(s:ByteArray):E23 (ownE vs k s):=by
 unfold ownE
 (repeat' split)<;>(unfold E23;omega)
theorem zyL(vs:List VD)(t:T):E23 (fltE vs t):=by
 induction t using T.ind with
 | _ k n s ks ih =>
  rw[fltE]
  split
  ·exact zyf vs k s
  ·have:∀l:List T,(∀u∈l,E23 (fltE vs u))->E23 (zln vs l):=by
    intro l
    induction l with
    | nil=>intro _;rw[zln];unfold E23;omega
    | cons u l ih2 =>
     intro hl;rw[zln]
     split
     ·exact hl u (List.mem_cons_self ..)
     ·exact ih2 fun x hx=>hl x (List.mem_cons_of_mem _ hx)
   exact this ks ih
theorem zwJ(S:ST)(k:Int)(s qs:ByteArray)(r2:Int)(id i:Nat):E23 (znx S k s qs r2 id i).1:=by
 unfold znx zns zlp
 (repeat' split)<;>(unfold E23;simp only;omega)
theorem zxK(S:ST)(t:T):E23 (doE S t).1:=by
 unfold doE
 split
 ·unfold E23;simp only;omega
 ·split
  ·unfold E23;simp only;omega
  ·split
   ·unfold E23;simp only;omega
   ·split
    ·exact zyL _ t
    ·obtain⟨k,n,s,ks⟩:=t;simp only[zpO,zlo]
     split
     ·exact zuk _ _
     ·unfold znO
      split
      ·unfold znD
       split
       ·exact zuk _ _
       ·split
        ·exact zso _ _
        ·unfold E23;simp only;omega
      ·split
       ·unfold E23;simp only;omega
       ·split
        ·exact zwJ _ _ _ _ _ _ _
        ·unfold E23;simp only;omega
theorem zvM(S:ST)(t:T):E23 (zn5 S t).1:=by
 obtain⟨k,n,s,ks⟩:=t;exact zxK S _
theorem zr3(S:ST)(v:VD)(x:Int):E23 (zlV S v x).1:=by
 unfold zlV
 (repeat' split)<;>(unfold E23;simp only;omega)
theorem zqJ(S:ST)(s:ByteArray)(x:Int):E23 (zk8 S s x).1:=by
 unfold zk8
 (repeat' split)<;>(unfold E23;simp only;omega)
theorem zuc(S:ST):E23 (zl1 S).1:=by
 unfold zl1
 (repeat' split)<;>(unfold E23;simp only;omega)
theorem zuD{f:FR}:∀(l:List (VD×ByteArray)) (acc:FR) (e:Int),entL f acc l=.error e->E23 e
 | [],acc,e,h=>by rw[entL]at h;cases h
 | (v,a)::r,acc,e,h=>by
  rw[entL]at h
  split at h
  ·injection h with h;subst h;unfold E23;omega
  ·split at h
   ·exact zuD r _ e h
   ·injection h with h;subst h;unfold E23;omega
theorem zuC(S:ST)(ps:List VD)(ss:List ByteArray):E23 (zlQ S ps ss).1:=by
 unfold zlQ
 split
 ·unfold E23;simp only;omega
 ·cases h:entL S.cur ⟨[],[],0⟩ (ps.zip ss)with
  | error e=>exact zuD _ _ _ h
  | ok f=>unfold entR;simp only;split<;>(unfold E23;simp only;omega)
def Rg(o:Out):Prop:=∀e,o=.err e->E23 e
theorem Rg.bind{o:Out}{f:RS->Out}(h:Rg o)(hf:∀r,Rg (f r)):Rg (o.bind f):=by
 cases o with
 | gas=>exact fun e he=>by cases he
 | err x=>exact fun e he=>h e he
 | ok r=>exact hf r
theorem Rg.ok(r:RS):Rg (.ok r):=fun e he=>by cases he
theorem Rg.gas:Rg .gas:=fun e he=>by cases he
theorem Rg.err{x:Int}(h:E23 x):Rg (.err x):=fun e he=>by injection he with he;subst he;exact h
theorem Rg.step(F:Int)(r:RS):Rg (zkE F r):=by
 unfold zkE
 split
 ·exact Rg.err (by unfold E23;omega)
 ·exact Rg.ok _
theorem Rg.store(r:RS){R:Int×ST}(h:E23 R.1):Rg (zkl r R):=by
 unfold zkl
 split
 ·exact Rg.err h
 ·exact Rg.ok _
theorem Rg.val{t:T}{r:RS}{f:Int->RS->Out}(hf:∀x,Rg (f x r)):Rg (valO t r f):=by
 unfold valO
 split
 ·exact Rg.err (zso _ _)
 ·exact hf _
theorem Rg.holds{F:Int}{t:T}{r:RS}{f:Bool->RS->Out}(hf:∀b r,Rg (f b r)):Rg (zlg F t r f):=(Rg.step F r).bind fun r=>Rg.val fun x=>hf _ _
theorem Rg.assert(F:Int)(t:T)(b:Bool)(r:RS):Rg (zku F t b r):=Rg.holds fun b' r=>by
 split
 ·exact Rg.ok _
 ·exact Rg.err (by unfold E23;omega)
theorem Rg.body{f:T->RS->Out}(h:∀t r,Rg (f t r)):∀(l:List T) (r:RS),Rg (zld f l r)
 | [],r=>Rg.ok r
 | t::ts,r=>(h t r).bind fun r=>Rg.body h ts r
theorem Rg.loop{F:Int}{f:T->RS->Out}{entry test:T}{l1 l2:List T}(h:∀t r,Rg (f t r)):∀(m:Nat) (r:RS),Rg (zl6 F f entry test l1 l2 m r)
 | 0,_=>Rg.gas
 | m+1,r=>by
  rw[zl6];refine(Rg.body h l1 r).bind fun r=>Rg.holds fun b r=>?_
  split
  ·exact Rg.ok _
  ·exact(Rg.body h l2 r).bind fun r=>(Rg.assert F entry false r).bind fun r=>Rg.loop h m r
theorem zpN{prs:List PR}{F:Int}:∀(g:Nat) (back:Bool) (t:T) (r:RS),Rg (zkA prs F g back t r)
 | 0,_,_,_=>Rg.gas
 | g+1,back,t,r=>by
  have hb:∀back l r,Rg (zld (zkA prs F g back) l r):=fun back l r=>Rg.body (fun u r=>zpN g back u r) l r;rw[zkA]
  split
  ·exact Rg.holds fun yes r=>(hb _ _ _).bind fun r=>Rg.assert _ _ _ _
  ·split
   ·exact(Rg.assert _ _ _ _).bind fun r=>Rg.loop (fun u r=>zpN g back u r) g r
   ·split
    ·exact(Rg.step _ _).bind fun r=>Rg.val fun x=>(Rg.store _ (zr3 _ _ _)).bind fun r=>(hb _ _ _).bind fun r=>(Rg.step _ _).bind fun r=>Rg.val fun x=>Rg.store _ (zqJ _ _ _)
    ·split
     ·exact(Rg.step _ _).bind fun r=>(Rg.store _ (zr3 _ _ _)).bind fun r=>(hb _ _ _).bind fun r=>(Rg.step _ _).bind fun r=>Rg.store _ (zqJ _ _ _)
     ·split
      ·split
       ·exact Rg.err (by unfold E23;omega)
       ·exact(Rg.step _ _).bind fun r=>(Rg.store _ (zuC _ _ _)).bind fun r=>(hb _ _ _).bind fun r=>(Rg.step _ _).bind fun r=>Rg.store _ (zuc _)
      ·refine(Rg.step _ _).bind fun r=>Rg.store _ ?_
       split
       ·exact zvM _ _
       ·exact zxK _ _
theorem zyc(p:PG)(s:SS)(F:Int)(g:Nat)(back:Bool):E23 (resO p s F g back).2.2.1:=by
 unfold resO
 split
 ·unfold E23;simp only;omega
 ·split
  ·unfold E23;simp only;omega
  ·have h:Rg (runO p.prs F g back p.m ⟨newS p.vs s,0,List.replicate p.prs.length 0⟩):=Rg.body (fun u r=>zpN g back u r) _ _
   cases ho:runO p.prs F g back p.m ⟨newS p.vs s,0,List.replicate p.prs.length 0⟩with
   | gas=>simp only[outR];unfold E23;omega
   | err e=>simp only[outR];exact h e ho
   | ok r=>simp only[outR];unfold E23;omega
attribute [local go_sem] Oper.semAt_some
def znM(l:List Int):List Int:=l.foldl (fun acc x=>if acc.contains x then acc else acc++[x]) []
theorem zo3(l:List Int)(x:Int):znM (l++[x])=if (znM l).contains x then znM l else znM l++[x]:=by simp[znM]
def kO(c:Int):Lit:=.int .i64 c
theorem zzC{c d:Int}(h:c≠d):kO c≠kO d:=fun e=>h (by unfold kO at e;injection e)
theorem zxB(c:Int):WideAt.IsKeyLit (kO c):=trivial
theorem zzl{c:Int}(hc:I64 c):(Lit.int .i64 c).wf=true:=by
 obtain⟨h1,h2⟩:=hc;simp[Lit.wf,IntKind.min,IntKind.max,IntKind.signed,IntKind.bits];omega
theorem keyO{c:Int}(hc:I64 c):keyOf Tryz.prog 48 (.int .i64 c)=some (kO c):=Maps.keyOf_int_mk Tryz.underlying48 (zzl hc)
theorem zInt(w:World):(zeroValue 3).run Tryz.prog w=.ok (.int .i64 0) w:=by kernel_rfl
def OM(W:World)(mb:Nat)(e:SS->Int)(pre:List SS):Prop :=
 ∃D:DataW Unit,W.ownsMap Tryz.prog 48 (plainElem (H:=Unit) Tryz.prog 3) mb pre.length D/\(∀k,I64 k->D.atKey (kO k) (.lit (.int .i64 0))=.lit (.int .i64 (cntS e pre k:Int)))/\(∀k,I64 k->Maps.has D (kO k)=(znM (pre.map e)).contains k)/\Maps.size D=(znM (pre.map e)).length
theorem OM.keep{W W':World}{mb:Nat}{e:SS->Int}{pre:List SS}(h:OM W mb e pre)(hk:W'.heap[mb]?=W.heap[mb]?):OM W' mb e pre:=by
 obtain⟨D,⟨es,clock,hb,r⟩,h2⟩:=h;exact⟨D,⟨es,clock,hk.trans hb,r⟩,h2⟩
theorem OM.lt{W:World}{mb:Nat}{e:SS->Int}{pre:List SS}(h:OM W mb e pre):mb<W.heap.size:=h.choose_spec.1.lt
theorem OM.ne{W:World}{mb b:Nat}{e:SS->Int}{pre:List SS}{a:Array Value}{t:TypeId}{z:Nat×Nat}(h:OM W mb e pre)(hb:W.heap[b]?=some (.cells a t z)):¬ b=mb:=fun e=>by
 obtain⟨D,⟨es,clock,hm,-⟩,-⟩:=h;subst e;rw[hb]at hm;injection hm with hm
 cases hm
theorem OM.made(W:World)(e:SS->Int):OM (W.alloc (.map #[] 0)) W.heap.size e []:=⟨.map [],World.ownsMap_made W _ _ _,fun _ _=>rfl,fun _ _=>rfl,rfl⟩
theorem zuH(e:SS->Int)(l:List SS)(s:SS)(k:Int):cntS e (l++[s]) k=cntS e l k+if e s=k then 1 else 0:=by
 unfold cntS;rw[List.filter_append,List.length_append];congr 1;by_cases h:e s=k
 ·simp[h]
 ·simp[h]
theorem zuI(e:SS->Int)(l:List SS)(k:Int):cntS e l k<=l.length:=List.length_filter_le _ _
theorem OM.look{W:World}{mb:Nat}{e:SS->Int}{pre:List SS}(h:OM W mb e pre){k:Int}(hk:I64 k):(Instr.lookup 46 (.map (some mb)) (.int .i64 k) false).run Tryz.prog W=.ok (.int .i64 (cntS e pre k:Int)) W:=by
 obtain⟨D,h1,h2,-⟩:=h;obtain⟨c,hr,hc,-⟩:=h1.lookup_int (Maps.int_keyed Tryz.underlying48) Tryz.underlying46 Tryz.underlying3 (zInt W) (keyO hk);rw[h2 k hk]at hc;injection hc with hc;injection hc with _ hc;rw[hr,hc]
theorem OM.len{W:World}{mb:Nat}{e:SS->Int}{pre:List SS}(h:OM W mb e pre)(ty:TypeId):(Builtin.len_ #[46] ty #[.map (some mb)]).run Tryz.prog W=.ok (.int .i64 ((znM (pre.map e)).length:Int)) W:=by
 obtain⟨D,h1,-,-,h4⟩:=h;rw[h1.len Tryz.underlying46 ty,h4]
theorem OM.put{W:World}{mb:Nat}{e:SS->Int}{pre:List SS}(h:OM W mb e pre)(s:SS)(he:I64 (e s))(hn:pre.length<1000000) :
  ∃W',(Instr.mapUpdate 46 (.map (some mb)) (.int .i64 (e s)) (.int .i64 ((cntS e pre (e s):Int)+1))).run Tryz.prog W=.ok () W'/\OM W' mb e (pre++[s])/\Chg (fun b=>b=mb) W W':=by
 obtain⟨D,h1,h2,h3,h4⟩:=h;have hle:=zuI e pre (e s);have K:=Maps.int_keyed (P:=Tryz.prog) Tryz.underlying48;have ht:=h1.tidy K;have hm:=h1.isMap;obtain⟨W',r1,r2,r3⟩:=h1.store K Tryz.underlying46 (by unfold maxLen;omega) (keyO he) (val:=.int .i64 ((cntS e pre (e s):Int)+1)) (plainElem_int Tryz.underlying3 (zzl ⟨by omega,by omega⟩));refine⟨W',r1,⟨_,by simpa using r2,fun k hk=>?_,fun k hk=>?_,?_⟩,(Chg.row r3.grown).mono fun b _ e=>by injection e with e;exact e.symm⟩
 ·rw[zuH];by_cases hkk:e s=k
  ·subst hkk;rw[Maps.atKey_put_same hm (zxB _),if_pos rfl];simp
  ·rw[Maps.atKey_put_other (zzC fun h=>hkk h.symm),h2 k hk,if_neg hkk];rfl
 ·rw[List.map_append,List.map_cons,List.map_nil,zo3];by_cases hkk:e s=k
  ·subst hkk;rw[Maps.has_put_same hm (zxB _)];by_cases hc:(znM (pre.map e)).contains (e s)=true
   ·rw[if_pos hc];exact hc.symm
   ·rw[if_neg hc];simp
  ·rw[Maps.has_put_other (zzC fun h=>hkk h.symm),h3 k hk];by_cases hc:(znM (pre.map e)).contains (e s)=true
   ·rw[if_pos hc]
   ·rw[if_neg hc];simp only[List.contains_eq_mem,List.mem_append,List.mem_singleton];have:¬ k=e s:=fun h=>hkk h.symm;simp[this]
 ·rw[List.map_append,List.map_cons,List.map_nil,zo3,Maps.size_put ht,h3 _ he];by_cases hc:(znM (pre.map e)).contains (e s)=true
  ·rw[if_pos hc,if_pos hc];exact h4
  ·rw[if_neg hc,if_neg hc];simp;omega
theorem zzM:IsFn Tryz.prog 50 Tryz.f50:=⟨Tryz.func50,by kernel_rfl,by kernel_rfl⟩
theorem zv7{W:World}{p:PG}{s:SS}{pre:List SS}{F:Int}{bp bf bc mb c1 c2 c3:Nat}{A1 A2 A3:Option Addr}{sv:Value}(hk:W.heap[bp]?=some (.cells (pgA p A1 c1 A2 c2 A3 c3) 43 (0,0)))(hp:PV W Any p (pv A1 p.vs.length c1 A2 p.prs.length c2 p.m.k p.m.n p.m.s A3 p.m.ks.length c3))(hf:W.heap[bf]?=some (.cells #[.int .i64 F] 3 (0,0)))
  (hc:W.heap[bc]?=some (.cells #[.map (some mb)] 46 (0,0)))(hm:OM W mb (errE p F) pre)(hn:pre.length<1000000)(he:I64 (errE p F s))(hs:SV W Any s sv)(hcl:s.cells.length<=100)(hF:I64 F)(eD:F<=1000000) :
  Calls Tryz.prog 50 #[sv,.pointer (some ⟨bc,0,none⟩),.pointer (some ⟨bp,0,none⟩),.pointer (some ⟨bf,0,none⟩)] W fun e' W'=>e'=.returned (.bool false)/\OM W' mb (errE p F) (pre++[s])/\Chg (fun b=>b=mb) W W':=by
 obtain⟨A,c,B,d,D,k,rfl⟩:∃A c B d D k,sv=.agg #[.slice A s.cells.length c,.slice B s.tin.length d,.slice D s.tout.length k]:=by
  obtain⟨A,c,B,d,D,k,rfl,-⟩:=hs;exact⟨_,_,_,_,_,_,rfl⟩
 have hkb:=heap_alloc_new W (.cells #[.slice A s.cells.length c,.slice B s.tin.length d,.slice D s.tout.length k] 32);have hb:=zkb (zs W) (.cells #[.slice A s.cells.length c,.slice B s.tin.length d,.slice D s.tout.length k] 32);obtain⟨w1,hw1⟩:=zX (W.alloc (.cells #[.slice A s.cells.length c,.slice B s.tin.length d,.slice D s.tout.length k] 32));obtain⟨N,hN⟩:=zX (W.heap.size);rw[hw1]at hkb hb;rw[hN]at hkb;have HB:=zh hb;have uA:=zh (zkc hk hb);have jG:=zh (zkc hf hb);have BC:=zh (zkc hc hb);have nA:=zh hkb;have pV:=zh (hm.keep (hb.block mb hm.lt));have yB:=zh (And.intro hn he);have gZ:=zh (fun w (h:Below w1.heap.size w1 w)=>zmh p s F (F.toNat*2000+2000) _ _ w ((hp.later hb).later h) ((hs.later hb).later h) (by omega) hF eD zl);have xE:=zh (show errE p F s=(resO p s F (F.toNat*2000+2000) false).2.2.1 from rfl)
 generalize resO p s F (F.toNat*2000+2000) false=R at gZ xE;clear hk hp hf hc hm hn he hs hcl hF eD hb hkb;go_enter Tryz.func50,Tryz.ntmps50;go_upto_region 1 with fail
 try rw[hw1]
 try rw[hN]
 clear hw1 hN;have av:=zh (show ∀w',Below w1.heap.size w1 w'->(fun w':World=>pgS w' bp p A1 c1 A2 c2 A3 c3/\stC w' N A s.cells.length c B s.tin.length d D s.tout.length k/\zv w' bf 0 (.int .i64 F)/\zv w' bc 0 (.map (some mb))) w' from fun w' hb=>⟨box6 (zkc uA.out hb),zkr (zkc nA.out hb),zc (zkc jG.out hb) rfl,zc (zkc BC.out hb) rfl⟩);have hSS:zW (fun w':World=>pgS w' bp p A1 c1 A2 c2 A3 c3/\stC w' N A s.cells.length c B s.tin.length d D s.tout.length k/\zv w' bf 0 (.int .i64 F)/\zv w' bc 0 (.map (some mb))) zU w1.drew:=⟨av.out _ zr.drew,trivial⟩
 refine wp_region_noPanic ?_;refine zG hSS 8 ?_;refine zT 0 hSS ?_;refine zT 1 hSS ?_;refine zT 2 hSS ?_;refine zT 3 hSS ?_;refine zo 4 fun K hK=>?_;have had:Calls Tryz.prog 21 [pv A1 p.vs.length c1 A2 p.prs.length c2 p.m.k p.m.n p.m.s A3 p.m.ks.length c3,.agg #[.slice A s.cells.length c,.slice B s.tin.length d,.slice D s.tout.length k],.int .i64 F].toArray w1.drew fun e' W'=>∃z,e'=.returned z/\(∃v1 v2 v3,z=.agg #[v1,v2,v3,.int .i64 (R.2.1:Int),.int .i64 R.2.2.1])/\Below w1.heap.size w1 W' :=
  (gZ.out w1.drew zr.drew).mono fun e' W' ⟨v1,v2,v3,h1,h2,h3,h4⟩=>⟨_,h1,⟨v1,v2,v3,rfl⟩,zka (zs w1).drew h3⟩
 refine zkd (by rfl) (.func 21) [.tmp 7,.tmp 8,.tmp 9] _ (by rfl) 21 _ zsj (by rfl) [pv A1 p.vs.length c1 A2 p.prs.length c2 p.m.k p.m.n p.m.s A3 p.m.ks.length c3,.agg #[.slice A s.cells.length c,.slice B s.tin.length d,.slice D s.tout.length k],.int .i64 F] (by rfl) _ had ?_;rintro z w2 ⟨⟨v1,v2,v3,rfl⟩,hb2⟩;refine hK.out _ _ ⟨av.out _ hb2,trivial⟩ ?_;clear hK K had hSS;(try simp only[zQ]);have hfl:∀w,(Instr.field 59 (.agg #[v1,v2,v3,.int .i64 (R.2.1:Int),.int .i64 R.2.2.1]) 2).run Tryz.prog w=.ok (.int .i64 R.2.2.1) w:=fun w=>by kernel_rfl
 have hSS:zW (fun w':World=>pgS w' bp p A1 c1 A2 c2 A3 c3/\stC w' N A s.cells.length c B s.tin.length d D s.tout.length k/\zv w' bf 0 (.int .i64 F)/\zv w' bc 0 (.map (some mb))) zU w2:=⟨av.out _ hb2,trivial⟩
 refine zT 5 hSS ?_;have kD:OM w2 mb (errE p F) pre:=pV.out.keep (hb2.block mb pV.out.lt);have hrr:=xE.out;obtain⟨ev,hev⟩:=zX (R.2.2.1);rw[hev]at hrr ⊢;have hlk:=kD.look (k:=ev) (by rw[<-hrr];exact yB.out.2);obtain⟨w3,hput,hom3,hc3⟩:=kD.put s yB.out.2 yB.out.1;rw[hrr]at hput;have hle:=zuI (errE p F) pre ev;have hn9:=yB.out.1;obtain⟨cn,hcn⟩:=zX (cntS (errE p F) pre ev);rw[hcn]at hlk hput hle;have hwr:IntKind.i64.wrap ((cn:Int)+1)=(cn:Int)+1:=IntWalk.i64_in _ (by omega);refine zo 6 fun K hK=>?_;(try simp only[zA,zB,zC]);go_simp;refine hK.out _ _ hSS ?_;clear hK K;(try simp only[zQ]);refine zT 7 hSS ?_;refine zp 8 fun K hK=>?_;(try simp only[zA,zB,zC]);go_simp;have hch:Chg (fun b=>b=mb) w1 w3:=(Chg.of_below (C:=fun b=>b=mb) hb2).trans2 hc3 fun q _ e=>e;have hne:∀ {b:Nat} {a:Array Value} {t:TypeId} {z:Nat×Nat},w1.heap[b]?=some (.cells a t z)->¬ b=mb:=fun h=>pV.out.ne h
 refine hK.out _ _ ⟨box6 (hch.keep uA.out (hne uA.out)),zkr (hch.keep nA.out (hne nA.out)),zc (hch.keep jG.out (hne jG.out)) rfl,zc (hch.keep BC.out (hne BC.out)) rfl⟩ ?_;clear hK K;(try simp only[zQ]);refine zd ?_;refine NoPanic.normal ?_;have dC:=zh ((Chg.of_below (C:=fun b=>b=mb) HB.out).trans2 hch fun q _ e=>e);have Bp:=zh hom3;clear hch hne hom3 hc3 hput hlk hSS hb2 kD;go_wp2_with fail;go_ret;exact⟨by trivial,Bp.out,dC.out⟩
structure FrM(B mb:Nat)(w1:World)(e:SS->Int)(xs:List SS)(n:Nat)(w:World):Prop where
 size:B<=w.heap.size
 same:∀b,b<B->b≠mb->w.heap[b]?=w1.heap[b]?
 om:OM w mb e (xs.take n)
theorem zKK(w:World):(Instr.makeMap 46 none).run Tryz.prog w=.ok (.map (some w.heap.size)) (w.alloc (.map #[] 0)):=by kernel_rfl
def OutP(e:SS->Int)(xs:List SS)(W:World)(en:Ending)(W':World):Prop:=Below W.heap.size W W'/\∃mb,en=.returned (.map (some mb))/\W.heap.size<=mb/\OM W' mb e xs
theorem zqR{W:World}{p:PG}{b:BX}{F:Int}{v:Value}(hp:PV W Any p v)(hok:(b.ok&&svB p.vs)=true)(hm:(allS b (lenE p.vs b)).length<=1000000)(hF:I64 F)(eD:F<=1000000) :
  Calls Tryz.prog 16 #[v,.agg #[.int .i64 b.v,.int .i64 b.l,.int .i64 b.i],.int .i64 F] W (OutP (errE p F) (allS b (lenE p.vs b)) W):=by
 obtain⟨A1,c1,A2,c2,A3,c3,rfl,-⟩:=id hp;obtain⟨bv,bl,bi⟩:=b;obtain⟨N,hN⟩:=zX (W.heap.size);have HN:=zh hN;obtain⟨hb1,hz1,k0,k1,k2,k3,k4⟩:=al5F W (.cells (pgA p A1 c1 A2 c2 A3 c3) 43) (.cells #[.int .i64 bv,.int .i64 bl,.int .i64 bi] 24) (.cells #[.int .i64 F] 3) (.map #[] 0) (.cells #[.map none] 46);have jR:=(OM.made (((W.alloc (.cells (pgA p A1 c1 A2 c2 A3 c3) 43)).alloc (.cells #[.int .i64 bv,.int .i64 bl,.int .i64 bi] 24)).alloc (.cells #[.int .i64 F] 3)) (errE p F)).keep (W':=((((W.alloc (.cells (pgA p A1 c1 A2 c2 A3 c3) 43)).alloc (.cells #[.int .i64 bv,.int .i64 bl,.int .i64 bi] 24)).alloc (.cells #[.int .i64 F] 3)).alloc (.map #[] 0)).alloc (.cells #[.map none] 46)) (Below.heap_alloc _ _ _ (by simp));have hzz:(((W.alloc (.cells (pgA p A1 c1 A2 c2 A3 c3) 43)).alloc (.cells #[.int .i64 bv,.int .i64 bl,.int .i64 bi] 24)).alloc (.cells #[.int .i64 F] 3)).heap.size=N+3:=by simp[hN]
 rw[hzz]at jR;obtain⟨w1,hw1⟩:=zX (((((W.alloc (.cells (pgA p A1 c1 A2 c2 A3 c3) 43)).alloc (.cells #[.int .i64 bv,.int .i64 bl,.int .i64 bi] 24)).alloc (.cells #[.int .i64 F] 3)).alloc (.map #[] 0)).alloc (.cells #[.map none] 46));rw[hw1]at hb1 hz1 k0 k1 k2 k3 k4 jR;rw[hN]at hz1 k0 k1 k2 k3 k4;have gJ:=zh hp;have dN:=zh (And.intro hok (And.intro hm (And.intro hF eD)));have HB1:=zh hb1;have HZ1:=zh hz1;have aD:=zh k0;have az:=zh k1;have aR:=zh k2;have dI:=zh k4;have pV:=zh jR;have q4:w1.cell? ⟨N+4,0,none⟩=some (.map none):=zc k4 rfl;have cf:∀o,w1.frozen? ⟨N+4,o,none⟩=false:=fun o=>zf k4;obtain⟨w2,hw2,hc2,oQ⟩:=setU (o:=0) (.map (some (N+3))) k4;have eU:=zh hc2;have HH2:=zh oQ;clear hp hok hm hF eD hb1 hz1 k0 k1 k2 k3 k4 jR hzz hc2 oQ
 have oM:∀(fn:Fn) (first cap:Array Value) (w:World),(Instr.makeFunc fn first cap).run Tryz.prog w=.ok (.func fn first cap) w:=fun _ _ _ _=>rfl
 show Calls Tryz.prog 16 #[pv A1 p.vs.length c1 A2 p.prs.length c2 p.m.k p.m.n p.m.s A3 p.m.ks.length c3,.agg #[.int .i64 bv,.int .i64 bl,.int .i64 bi],.int .i64 F] W _
 go_enter Tryz.func16,Tryz.ntmps16;have hmm:=zKK;go_upto_region 2 with fail;simp only[Nat.add_assoc,Nat.reduceAdd];clear hw1 q4 cf hw2;have hZ2:N+5<=w2.heap.size:=by have:=eU.out.size;have:=HZ1.out;omega
 have HZ2:=zh hZ2;have HB2:=zh (HB1.out.trans (eU.out.below HB1.out.size fun q e=>by have e:q=N+4:=e;have:=HN.out;omega));have hk0:=eU.out.keep aD.out (fun e:N=N+4=>by omega);have hk1:=eU.out.keep az.out (fun e:N+1=N+4=>by omega);have hk2:=eU.out.keep aR.out (fun e:N+2=N+4=>by omega);have hk4:w2.heap[N+4]?=some (.cells #[.map (some (N+3))] 46 (0,0)):=by have:=HH2.out;simpa using this
 have kD:=pV.out.keep (W':=w2) (eU.out.block (N+3) (by have:=HZ1.out;omega) (fun e:N+3=N+4=>by omega));have mY:=zh (((gJ.out.keep (S':=fun q=>q<N) (fun q _ h=>by have:=HN.out;omega) fun _ _ _=>rfl).keep (w':=w2) (S':=fun q=>q<N) (fun _ h _=>h) fun q h hlt=>HB2.out.block q hlt));have fZ:=gJ.out.pg;have HT:=zh (show zs3 50 #[.pointer (some ⟨N+4,0,none⟩),.pointer (some ⟨N,0,none⟩),.pointer (some ⟨N+2,0,none⟩)] (fun _ _=>false) (allS ⟨bv,bl,bi⟩ (lenE p.vs ⟨bv,bl,bi⟩)) w2.heap.size (fun n=>FrM w2.heap.size (N+3) w2 (errE p F) (allS ⟨bv,bl,bi⟩ (lenE p.vs ⟨bv,bl,bi⟩)) n)from by
  refine⟨fun n W W' h h1 h2=>⟨Nat.le_trans h.size h1,fun b hb hm=>(h2 b hb).trans (h.same b hb hm),h.om.keep (h2 _ (by omega))⟩,fun n W h=>h.size,fun n s v W g hI hg hgs ho hx=>?_⟩;have hx2:=zpW dN.out.1 s (List.mem_of_getElem? hx);have hnl:=(List.getElem?_eq_some_iff.1 hx).1;have hlt:∀q,q<N+5->q≠N+3->W.heap[q]?=w2.heap[q]?:=fun q hq=>hI.same q (by omega);have hrg:=zyc p s F (F.toNat*2000+2000) false;refine(zv7 (F:=F) (p:=p) (s:=s) ((hlt N (by omega) (by omega)).trans hk0) (mY.out.keep (fun _ _ _=>trivial) fun q h _=>hlt q (by omega) (by omega)) ((hlt (N+2) (by omega) (by omega)).trans hk2) ((hlt (N+4) (by omega) (by omega)).trans hk4) hI.om (by rw[List.length_take];have:=dN.out.2.1;omega) ⟨by unfold E23 at hrg;unfold errE;omega,by unfold E23 at hrg;unfold errE;omega⟩ (ho.sv hx2.1) hx2.2 dN.out.2.2.1 dN.out.2.2.2).mono ?_;rintro e' W' ⟨rfl,jR,hb⟩
  refine⟨rfl,⟨Nat.le_trans hI.size hb.size,fun q hq hm=>(hb.block q (Nat.lt_of_lt_of_le hq hI.size) hm).trans (hI.same q hq hm),?_⟩,hb.mono fun q _ e=>.inl (by have e:q=N+3:=e;omega)⟩;rw[List.take_add_one,hx];exact jR)
 have bA:=zh (zoD (W:=w2) (A1:=A1) (c1:=c1) (vs:=p.vs) (b:=⟨bv,bl,bi⟩) (mY.out.keep (S':=Any) (fun _ _ _=>trivial) fun _ _ _=>rfl).pg.vars fZ.lv dN.out.1 dN.out.2.1 zzM HT.out ⟨zl,fun _ _ _=>rfl,kD⟩);rw[zqD (f:=fun _ _=>false) fun _ _=>rfl]at bA;clear fZ kD HT;obtain⟨p0,p1,p2,p3,p4,p5⟩:=box6 hk0;obtain⟨y0,y1,y2⟩:=zkr hk1;go_wp2_with fail;refine bA.out.mono ?_;rintro e' w3 ⟨v2,rfl,hs2,hi2,hc3⟩;have x4:w3.cell? ⟨N+4,0,none⟩=some (.map (some (N+3))):=zc ((hi2.same (N+4) (by omega) (by omega)).trans hk4) rfl;have HB3:=zh (show Below W.heap.size W w3 from HB2.out.trans ⟨hc3.os,hc3.tape,hc3.output,hc3.size,fun q hq=>hi2.same q (by have:=HB2.out.size;omega) (by have:=HN.out;omega)⟩);have Bp:=zh (show OM w3 (N+3) (errE p F) (allS ⟨bv,bl,bi⟩ (lenE p.vs ⟨bv,bl,bi⟩)) by have:=hi2.om;rwa[List.take_length]at this)
 clear hs2 hi2 hc3 hk0 hk1 hk2 hk4 p0 p1 p2 p3 p4 p5 y0 y1 y2;go_wp2_with fail;go_ret;exact⟨HB3.out,N+3,rfl,by have:=HN.out;omega,Bp.out⟩
end
section
open Go Go.RowKit
def exX:ByteArray:=⟨#[120]⟩
def exV:T:=.nd 2 0 exX []
def exN(n:Int):T:=.nd 1 n ⟨#[]⟩ []
def exE(n:Int):T:=.nd 16 0 ⟨#[]⟩ [exV,exN n]
def exP:PG:=⟨[⟨exX,1,0⟩],[],.nd 57 0 ⟨#[]⟩ [.nd 52 0 ⟨#[]⟩ [exE 1,.nd 57 0 ⟨#[]⟩ [.nd 40 0 ⟨#[]⟩ [exV,exN 1]],.nd 57 0 ⟨#[]⟩ [],exE 2]]⟩
def exB:BX:=⟨2,0,0⟩
theorem zpf:allS exB (lenE exP.vs exB)=[⟨[[0]],[],[]⟩,⟨[[1]],[],[]⟩,⟨[[-1]],[],[]⟩,⟨[[2]],[],[]⟩,⟨[[-2]],[],[]⟩]:=by kernel_rfl
attribute [local go_sem] Oper.semAt_some
theorem znh(w:World)(S:Nat->Prop){k n:Int}{s:ByteArray}(hf:Fld k n s):NV w S (.nd k n s []) (nv k n s none 0 0):=NV.shut (ks:=[]) hf (by simp[LK]) (by simp) fun i hi=>by simp at hi
theorem zKc{w:World}{S:Nat->Prop}{b:Nat}{E:TypeId}{t1:T}{k n k1 n1:Int}{s s1:ByteArray}{A1:Option Addr}{l1 c1:Nat}(hf:Fld k n s)(hS:S b)(hk:w.heap[b]?=some (.cells #[.int .u8 k1,.int .i64 n1,.string s1,.slice A1 l1 c1] E (0,0)))(h1:NV w S t1 (nv k1 n1 s1 A1 l1 c1)) :
  NV w S (.nd k n s [t1]) (nv k n s (some ⟨b,0,none⟩) 1 1):=by
 refine NV.shut (ks:=[t1]) hf (by simp[LK]) (by simp) fun i hi=>?_
 match i,hi with
 | 0,_=>exact⟨⟨b,0,none⟩,_,_,_,_,rfl,hS,⟨zc hk rfl,zc hk rfl,zc hk rfl,zc hk rfl⟩,h1⟩
theorem zKb{w:World}{S:Nat->Prop}{b:Nat}{E:TypeId}{t1 t2:T}{k n k1 n1 k2 n2:Int}{s s1 s2:ByteArray}{A1 A2:Option Addr}{l1 c1 l2 c2:Nat}(hf:Fld k n s)(hS:S b)(hk:w.heap[b]?=some (.cells #[.int .u8 k1,.int .i64 n1,.string s1,.slice A1 l1 c1,.int .u8 k2,.int .i64 n2,.string s2,.slice A2 l2 c2] E (0,0)))(h1:NV w S t1 (nv k1 n1 s1 A1 l1 c1))(h2:NV w S t2 (nv k2 n2 s2 A2 l2 c2)) :
  NV w S (.nd k n s [t1,t2]) (nv k n s (some ⟨b,0,none⟩) 2 2):=by
 refine NV.shut (ks:=[t1,t2]) hf (by simp[LK]) (by simp) fun i hi=>?_
 match i,hi with
 | 0,_=>exact⟨⟨b,0,none⟩,_,_,_,_,rfl,hS,⟨zc hk rfl,zc hk rfl,zc hk rfl,zc hk rfl⟩,h1⟩
 | 1,_=>exact⟨⟨b,0,none⟩,_,_,_,_,rfl,hS,⟨zc hk rfl,zc hk rfl,zc hk rfl,zc hk rfl⟩,h2⟩
theorem zKQ{w:World}{S:Nat->Prop}{b:Nat}{E:TypeId}{t1 t2 t3 t4:T}{k n k1 n1 k2 n2 k3 n3 k4 n4:Int}{s s1 s2 s3 s4:ByteArray}{A1 A2 A3 A4:Option Addr}{l1 c1 l2 c2 l3 c3 l4 c4:Nat}(hf:Fld k n s)(hS:S b)
  (hk:w.heap[b]?=some (.cells #[.int .u8 k1,.int .i64 n1,.string s1,.slice A1 l1 c1,.int .u8 k2,.int .i64 n2,.string s2,.slice A2 l2 c2,.int .u8 k3,.int .i64 n3,.string s3,.slice A3 l3 c3,.int .u8 k4,.int .i64 n4,.string s4,.slice A4 l4 c4] E (0,0)))
  (h1:NV w S t1 (nv k1 n1 s1 A1 l1 c1))(h2:NV w S t2 (nv k2 n2 s2 A2 l2 c2))(h3:NV w S t3 (nv k3 n3 s3 A3 l3 c3))(h4:NV w S t4 (nv k4 n4 s4 A4 l4 c4)):NV w S (.nd k n s [t1,t2,t3,t4]) (nv k n s (some ⟨b,0,none⟩) 4 4):=by
 refine NV.shut (ks:=[t1,t2,t3,t4]) hf (by simp[LK]) (by simp) fun i hi=>?_
 match i,hi with
 | 0,_=>exact⟨⟨b,0,none⟩,_,_,_,_,rfl,hS,⟨zc hk rfl,zc hk rfl,zc hk rfl,zc hk rfl⟩,h1⟩
 | 1,_=>exact⟨⟨b,0,none⟩,_,_,_,_,rfl,hS,⟨zc hk rfl,zc hk rfl,zc hk rfl,zc hk rfl⟩,h2⟩
 | 2,_=>exact⟨⟨b,0,none⟩,_,_,_,_,rfl,hS,⟨zc hk rfl,zc hk rfl,zc hk rfl,zc hk rfl⟩,h3⟩
 | 3,_=>exact⟨⟨b,0,none⟩,_,_,_,_,rfl,hS,⟨zc hk rfl,zc hk rfl,zc hk rfl,zc hk rfl⟩,h4⟩
theorem fldG(k n:Int)(hk:0<=k/\k<256)(hn:I64 n):Fld k n ⟨#[]⟩:=⟨hk,hn,by decide⟩
theorem fldX:Fld 2 0 exX:=⟨by decide,by decide,by decide⟩
theorem zKG(a0 a1 a2 a3:Value)(w:World):(Instr.buildSlice 39 1 #[(0,.agg #[a0,a1,a2,a3])]).run Tryz.prog w=.ok (.slice (some ⟨w.heap.size,0,none⟩) 1 1) (w.alloc (.cells #[a0,a1,a2,a3] 41)):=by kernel_rfl
theorem zzX(a0 a1 a2 a3 b0 b1 b2 b3:Value)(w:World):(Instr.buildSlice 39 2 #[(0,.agg #[a0,a1,a2,a3]),(1,.agg #[b0,b1,b2,b3])]).run Tryz.prog w=.ok (.slice (some ⟨w.heap.size,0,none⟩) 2 2) (w.alloc (.cells #[a0,a1,a2,a3,b0,b1,b2,b3] 41)):=by kernel_rfl
theorem zKF(a0 a1 a2 a3 b0 b1 b2 b3 c0 c1 c2 c3 d0 d1 d2 d3:Value)(w:World):(Instr.buildSlice 39 4 #[(0,.agg #[a0,a1,a2,a3]),(1,.agg #[b0,b1,b2,b3]),(2,.agg #[c0,c1,c2,c3]),(3,.agg #[d0,d1,d2,d3])]).run Tryz.prog w=.ok (.slice (some ⟨w.heap.size,0,none⟩) 4 4) (w.alloc (.cells #[a0,a1,a2,a3,b0,b1,b2,b3,c0,c1,c2,c3,d0,d1,d2,d3] 41)):=by kernel_rfl
theorem bNkG(k:Int)(A:Option Addr)(l c:Nat)(w:World):(Instr.build 41 #[(0,.int .u8 k),(3,.slice A l c)]).run Tryz.prog w=.ok (nv k 0 ⟨#[]⟩ A l c) w:=by kernel_rfl
theorem bNnG(k n:Int)(w:World):(Instr.build 41 #[(0,.int .u8 k),(1,.int .i64 n)]).run Tryz.prog w=.ok (nv k n ⟨#[]⟩ none 0 0) w:=by kernel_rfl
theorem bNxG(k:Int)(s:ByteArray)(w:World):(Instr.build 41 #[(0,.int .u8 k),(2,.string s)]).run Tryz.prog w=.ok (nv k 0 s none 0 0) w:=by kernel_rfl
theorem ztG(n:Int)(hn:I64 n)(xb:Nat)(w:World)(hx:w.heap[xb]?=some (.cells #[.int .u8 2,.int .i64 0,.string exX,.slice none 0 0] 41 (0,0))) :
  Calls Tryz.prog 40 #[.int .i64 n,.pointer (some ⟨xb,0,none⟩)] w fun e w'=>∃b,e=.returned (nv 16 0 ⟨#[]⟩ (some ⟨b,0,none⟩) 2 2)/\NV w' Any (exE n) (nv 16 0 ⟨#[]⟩ (some ⟨b,0,none⟩) 2 2)/\Below w.heap.size w w':=by
 have h2:=zzX;have h3:=bNkG;have h4:=bNnG;obtain⟨N,hN⟩:=zX (w.heap.size);have HN:=zh hN;have hb1:=zkb (zs w) (.cells #[.int .u8 0,.int .i64 0,.string ⟨#[]⟩,.slice none 0 0] 41);have k1:=heap_alloc_new w (.cells #[.int .u8 0,.int .i64 0,.string ⟨#[]⟩,.slice none 0 0] 41);have kx:=zkc hx hb1;have hz1:(w.alloc (.cells #[.int .u8 0,.int .i64 0,.string ⟨#[]⟩,.slice none 0 0] 41)).heap.size=N+1:=by simp[hN]
 obtain⟨w1,hw1⟩:=zX (w.alloc (.cells #[.int .u8 0,.int .i64 0,.string ⟨#[]⟩,.slice none 0 0] 41));rw[hw1]at hb1 k1 kx hz1;rw[hN]at k1;have kr:=heap_alloc_new w1 (.cells #[.int .u8 2,.int .i64 0,.string exX,.slice none 0 0,.int .u8 1,.int .i64 n,.string ⟨#[]⟩,.slice none 0 0] 41);have k1':=zkf k1 (.cells #[.int .u8 2,.int .i64 0,.string exX,.slice none 0 0,.int .u8 1,.int .i64 n,.string ⟨#[]⟩,.slice none 0 0] 41);have hb2:=zkb hb1 (.cells #[.int .u8 2,.int .i64 0,.string exX,.slice none 0 0,.int .u8 1,.int .i64 n,.string ⟨#[]⟩,.slice none 0 0] 41);rw[hz1]at kr;obtain⟨w2,hw2⟩:=zX (w1.alloc (.cells #[.int .u8 2,.int .i64 0,.string exX,.slice none 0 0,.int .u8 1,.int .i64 n,.string ⟨#[]⟩,.slice none 0 0] 41));rw[hw2]at kr k1' hb2;have q0:w2.cell? ⟨N,0,none⟩=some (.int .u8 0):=zc k1' rfl;have q1:w2.cell? ⟨N,1,none⟩=some (.int .i64 0):=zc k1' rfl
 have q2:w2.cell? ⟨N,2,none⟩=some (.string ⟨#[]⟩):=zc k1' rfl;have q3:w2.cell? ⟨N,3,none⟩=some (.slice none 0 0):=zc k1' rfl;have cf:∀o,w2.frozen? ⟨N,o,none⟩=false:=fun o=>zf k1';obtain⟨x0,x1,x2,x3⟩:=box4 kx;obtain⟨hh,hch⟩:=set4 (u0:=.int .u8 16) (u1:=.int .i64 0) (u2:=.string ⟨#[]⟩) (u3:=.slice (some ⟨N+1,0,none⟩) 2 2) k1';obtain⟨w3,hw3⟩:=zX ((((w2.setCell ⟨N,0,none⟩ (.int .u8 16)).setCell ⟨N,1,none⟩ (.int .i64 0)).setCell ⟨N,2,none⟩ (.string ⟨#[]⟩)).setCell ⟨N,3,none⟩ (.slice (some ⟨N+1,0,none⟩) 2 2));rw[hw3]at hh hch;have HH:=zh hh;have lN:=zh (zKb (w:=w3) (S:=Any) (t1:=exV) (t2:=exN n) (k:=16) (n:=0) (s:=⟨#[]⟩) (fldG 16 0 (by decide) ⟨by decide,by decide⟩) trivial (hch.keep kr (fun e:N+1=N=>by omega)) (znh w3 Any fldX) (znh w3 Any (fldG 1 n (by decide) hn)));have HB:=zh (hb2.trans (hch.below hb2.size fun q e=>by have e:q=N:=e;omega));clear hb1 k1 kx hx kr k1' hb2 hh hch
 go_enter Tryz.func40,Tryz.ntmps40;go_wp2_with fail;obtain⟨t0,t1,t2,t3⟩:=box4 HH.out;exact bodyPost_ret (v:=nv 16 0 ⟨#[]⟩ (some ⟨N+1,0,none⟩) 2 2) (by simp[results,Tryz.results40,go_sem,t0,t1,t2,t3]) rfl ⟨N+1,rfl,lN.out,HB.out⟩
theorem zpv(A:Option Addr)(l c:Nat)(w:World):Calls Tryz.prog 41 #[.slice A l c] w fun e w'=>e=.returned (nv 57 0 ⟨#[]⟩ A l c)/\Below w.heap.size w w':=by
 have hb:∀w,(Instr.build 41 #[(0,.int .u8 57),(3,.slice A l c)]).run Tryz.prog w=.ok (nv 57 0 ⟨#[]⟩ A l c) w:=fun w=>by kernel_rfl
 go_enter Tryz.func41,Tryz.ntmps41;go_wp2_with fail;exact bodyPost_ret (v:=nv 57 0 ⟨#[]⟩ A l c) (by simp[results,Tryz.results41,go_sem]) rfl ⟨rfl,zkb zr _⟩
end
section
open Go Go.RowKit
attribute [local go_sem] Oper.semAt_some
abbrev xS:ByteArray:=⟨#[]⟩
abbrev ak8:T:=.nd 57 0 xS [.nd 40 0 xS [exV,exN 1]]
abbrev ak13:T:=.nd 52 0 xS [exE 1,ak8,.nd 57 0 xS [],exE 2]
abbrev ak16:T:=.nd 57 0 xS [ak13]
def akZ(W:World)(b:Nat):Prop:=W.heap[b]?=some (.cells #[.slice none 0 0,.slice none 0 0,.int .u8 0,.int .i64 0,.string xS,.slice none 0 0] 43 (0,0))
def akV(W:World)(b:Nat):Prop:=W.heap[b]?=some (.cells #[.string exX,.int .u8 1,.int .i64 0] 57 (0,0))
def akF(B:Nat):Nat->Value->List Value->World->Prop
 | 1,v,_,w=>∃b,v=.slice (some ⟨b,0,none⟩) 1 1/\akV w b
 | 4,v,_,w=>∃b,v=nv 16 0 xS (some ⟨b,0,none⟩) 2 2/\NV w Any (exE 1) (nv 16 0 xS (some ⟨b,0,none⟩) 2 2)
 | 7,v,_,w=>∃b,v=.slice (some ⟨b,0,none⟩) 1 1/\NV w Any ak8 (nv 57 0 xS (some ⟨b,0,none⟩) 1 1)
 | 8,v,_,w=>∃b,v=nv 57 0 xS (some ⟨b,0,none⟩) 1 1/\NV w Any ak8 (nv 57 0 xS (some ⟨b,0,none⟩) 1 1)
 | 10,v,_,_=>v=nv 57 0 xS none 0 0
 | 12,v,_,w=>∃b,v=nv 16 0 xS (some ⟨b,0,none⟩) 2 2/\NV w Any (exE 2) (nv 16 0 xS (some ⟨b,0,none⟩) 2 2)
 | 13,v,_,w=>∃b,v=.slice (some ⟨b,0,none⟩) 4 4/\NV w Any ak13 (nv 52 0 xS (some ⟨b,0,none⟩) 4 4)
 | 14,v,_,w=>∃b,v=nv 52 0 xS (some ⟨b,0,none⟩) 4 4/\NV w Any ak13 (nv 52 0 xS (some ⟨b,0,none⟩) 4 4)
 | 15,v,_,w=>∃b,v=.slice (some ⟨b,0,none⟩) 1 1/\NV w Any ak16 (nv 57 0 xS (some ⟨b,0,none⟩) 1 1)
 | 16,v,_,w=>∃b,v=nv 57 0 xS (some ⟨b,0,none⟩) 1 1/\NV w Any ak16 (nv 57 0 xS (some ⟨b,0,none⟩) 1 1)
 | 17,v,_,w=>∃b c,v=pv (some ⟨b,0,none⟩) 1 1 none 0 0 57 0 xS (some ⟨c,0,none⟩) 1 1/\akV w b/\NV w Any ak16 (nv 57 0 xS (some ⟨c,0,none⟩) 1 1)
 | 18,v,_,w=>∃b,v=.pointer (some ⟨b,0,none⟩)/\B<=b/\akZ w b
 | _,_,_,_=>True
def akD:Nat->List Nat
 | 8=>[7]
 | 13=>[4,8,10,12]
 | 14=>[13]
 | 15=>[14]
 | 16=>[15]
 | 17=>[1,16]
 | _=>[]
theorem zu3{B:Nat}{v:Value}{ds:List Value}{w w':World}(i:Nat)(h:akF B i v ds w)(hb:Below w.heap.size w w'):akF B i v ds w':=by
 unfold akF at h ⊢
 split at h<;>try exact h
 all_goals first
  | (obtain⟨b,e,h⟩:=h;exact⟨b,e,zkc h hb⟩)
  | (obtain⟨b,e,h⟩:=h;exact⟨b,e,h.later hb⟩)
  | (obtain⟨b,c,e,h1,h2⟩:=h;exact⟨b,c,e,zkc h1 hb,h2.later hb⟩)
  | (obtain⟨b,e,h1,h2⟩:=h;exact⟨b,e,h1,zkc h2 hb⟩)
theorem zKj{W:World}{b:Nat}{x0 x1 x2 x3 x4 x5 u0 u1 u2 u3 u4 u5:Value}{E:TypeId}(h:W.heap[b]?=some (.cells #[x0,x1,x2,x3,x4,x5] E (0,0))) :
  ((((((W.setCell ⟨b,0,none⟩ u0).setCell ⟨b,1,none⟩ u1).setCell ⟨b,2,none⟩ u2).setCell ⟨b,3,none⟩ u3).setCell ⟨b,4,none⟩ u4).setCell ⟨b,5,none⟩ u5).heap[b]?=some (.cells #[u0,u1,u2,u3,u4,u5] E (0,0)) /\
   Chg (fun q=>q=b) W ((((((W.setCell ⟨b,0,none⟩ u0).setCell ⟨b,1,none⟩ u1).setCell ⟨b,2,none⟩ u2).setCell ⟨b,3,none⟩ u3).setCell ⟨b,4,none⟩ u4).setCell ⟨b,5,none⟩ u5):=by
 refine⟨?_,((((((Chg.refl (fun q=>q=b) W).setCell (p:=⟨b,0,none⟩) (.inl rfl) _).setCell (p:=⟨b,1,none⟩) (.inl rfl) _).setCell (p:=⟨b,2,none⟩) (.inl rfl) _).setCell (p:=⟨b,3,none⟩) (.inl rfl) _).setCell (p:=⟨b,4,none⟩) (.inl rfl) _).setCell (p:=⟨b,5,none⟩) (.inl rfl) _⟩;rw[heap_setCell_same _ b 5 _ _ u5 (heap_setCell_same _ b 4 _ _ u4 (heap_setCell_same _ b 3 _ _ u3 (heap_setCell_same _ b 2 _ _ u2 (heap_setCell_same _ b 1 _ _ u1 (heap_setCell_same W b 0 _ _ u0 h)))))];simp
theorem zwn{w:World}{p:Addr}{bb:Nat}{E:TypeId}{xs:Array Value}{k:Int}(hz:w.heap[bb]?=some (.cells xs E (0,0)))(hx:∀(i:Nat) (k:Int),xs[i]?=some (Value.int .u8 k)->k=0)(hp:p.block=bb)(h:w.cell? p=some (.int .u8 k)):k=0:=by
 subst hp;obtain⟨b,o,m⟩:=p;simp only[World.cell?]at h hz
 cases m with
 | none =>
  simp only[hz]at h;exact hx o k h
 | some x=>simp[hz]at h
theorem zKN(i:Nat)(k:Int)(h:(#[Value.slice none 0 0,.slice none 0 0,.int .u8 0,.int .i64 0,.string xS,.slice none 0 0]:Array Value)[i]?=some (Value.int .u8 k)):k=0:=by
 match i,h with
 | 0,h=>simp at h
 | 1,h=>simp at h
 | 2,h=>simp at h;exact h.symm
 | 3,h=>simp at h
 | 4,h=>simp at h
 | 5,h=>simp at h
 | n+6,h=>simp at h
theorem NV.nz6{w:World}{bb:Nat}{E:TypeId}{xs:Array Value}(hz:w.heap[bb]?=some (.cells xs E (0,0)))(hx:∀(i:Nat) (k:Int),xs[i]?=some (Value.int .u8 k)->k=0):∀(t:T) (v:Value),NV w Any t v->(∀u∈po t,u.k≠0)->NV w (fun b=>b≠bb) t v:=by
 intro t
 induction t using T.ind with
 | _ k n s ks ih =>
  intro v hv hk;obtain⟨A,c,rfl,hf,hlk,hlc,hrow⟩:=hv.open_;refine NV.shut hf hlk hlc fun i hi=>?_;obtain⟨a,u0,u1,u2,u3,hA,-,hc,hn⟩:=hrow i hi;have hm:(T.nd k n s ks).ks[i]∈ks:=List.getElem_mem hi;have hsub:∀u∈po (T.nd k n s ks).ks[i],u.k≠0:=fun u hu=>hk u (by simp only[po,List.mem_cons];exact .inr (zmR.2 ⟨_,hm,hu⟩));refine⟨a,u0,u1,u2,u3,hA,fun e=>?_,hc,ih _ hm _ hn hsub⟩;obtain⟨A',c',e',-⟩:=hn.open_;injection e' with e';simp only[Array.mk.injEq,List.cons.injEq,and_true]at e';have h0:=hc.c0;rw[e'.1]at h0;have hself:(T.nd k n s ks).ks[i]∈po (T.nd k n s ks).ks[i]:=by
   rcases hq:(T.nd k n s ks).ks[i]with⟨k',n',s',ks'⟩;simp[po]
  exact hsub _ hself (zwn hz hx (by rw[zkx];exact e) h0)
theorem zKL(n:Int)(w:World):(Instr.build 24 #[(0,.int .i64 n)]).run Tryz.prog w=.ok (.agg #[.int .i64 n,.int .i64 0,.int .i64 0]) w:=by kernel_rfl
theorem zy5:(exB.ok&&svB exP.vs)=true:=by kernel_rfl
theorem zu2:(allS exB (lenE exP.vs exB)).length<=1000000:=by rw[zpf];decide
theorem zy7:fndE (fun s=>decide (errE exP 9 s=15)) (allS exB (lenE exP.vs exB))=(⟨[[2]],[],[]⟩,4,true):=by rw[zpf];kernel_rfl
theorem zz1:dffE exP exP exB 9=(nilS,5,false):=by
 unfold dffE;rw[if_pos (zm7.2 rfl),zpf]
 kernel_rfl
theorem zy6:(znM ((allS exB (lenE exP.vs exB)).map (errE exP 9))).length=2:=by rw[zpf];kernel_rfl
theorem zKM:cntS (errE exP 9) (allS exB (lenE exP.vs exB)) 0=4:=by rw[zpf];kernel_rfl
theorem zz2:cntS (errE exP 9) (allS exB (lenE exP.vs exB)) 15=1:=by rw[zpf];kernel_rfl
theorem zqb{w:World}{S:Nat->Prop}{x:Int}{v:Value}(h:SV w S ⟨[[x]],[],[]⟩ v):∃(a:Addr) (c:Nat) (D D2:Option Addr) (d1 d2:Nat) (a':Addr) (c':Nat),v=.agg #[.slice (some a) 1 c,.slice D 0 d1,.slice D2 0 d2]/\w.cell? (a.add 0)=some (.slice (some a') 1 c')/\w.cell? (a'.add 0)=some (.int .i64 x):=by
 obtain⟨A,c,D,d1,D2,d2,rfl,h1,-⟩:=h;obtain⟨a,A',c',rfl,-,h2,-,h3⟩:=h1 0 (by simp);obtain⟨a',rfl,-,h4,-⟩:=h3 0 (by simp);exact⟨a,c,D,D2,d1,d2,a',c',rfl,h2,h4⟩
theorem zzI:IsFn Tryz.prog 40 Tryz.f40:=⟨Tryz.func40,by kernel_rfl,by kernel_rfl⟩
theorem zyz:IsFn Tryz.prog 41 Tryz.f41:=⟨Tryz.func41,by kernel_rfl,by kernel_rfl⟩
theorem bSVG(a0 a1 a2:Value)(w:World):(Instr.buildSlice 22 1 #[(0,.agg #[a0,a1,a2])]).run Tryz.prog w=.ok (.slice (some ⟨w.heap.size,0,none⟩) 1 1) (w.alloc (.cells #[a0,a1,a2] 57)):=by kernel_rfl
theorem bVdG(s:ByteArray)(k:Int)(w:World):(Instr.build 57 #[(0,.string s),(1,.int .u8 k)]).run Tryz.prog w=.ok (.agg #[.string s,.int .u8 k,.int .i64 0]) w:=by kernel_rfl
theorem bPgG(A B:Option Addr)(l c m d:Nat)(k n:Int)(s:ByteArray)(w:World):(Instr.build 43 #[(0,.slice A l c),(2,nv k n s B m d)]).run Tryz.prog w=.ok (pv A l c none 0 0 k n s B m d) w:=by kernel_rfl
theorem zsH(w:World):Calls Tryz.prog 9 #[] w fun e w'=>e=.returned (.bool true)/\Below w.heap.size w w':=by
 have oM:∀(fn:Fn) (first cap:Array Value) (w:World),(Instr.makeFunc fn first cap).run Tryz.prog w=.ok (.func fn first cap) w:=fun _ _ _ _=>rfl;have h1:=zKG;have h2:=zzX;have h3:=bNkG;have h4:=bNnG;have h5:=bNxG;obtain⟨N,hN⟩:=zX (w.heap.size);have HN:=zh hN;have al:=(fun(o0 o1 o2:Obj)=>(⟨zkb (zkb (zkb zr _) _) _,by simp,zkf (zkf (zl4 _ rfl _) _) _,zkf (zl4 _ (by simp) _) _,zl4 _ (by simp) _⟩:Below w.heap.size w (((w.alloc o0).alloc o1).alloc o2)/\(((w.alloc o0).alloc o1).alloc o2).heap.size=w.heap.size+3/\(((w.alloc o0).alloc o1).alloc o2).heap[w.heap.size]?=some o0/\(((w.alloc o0).alloc o1).alloc o2).heap[w.heap.size+1]?=some o1/\(((w.alloc o0).alloc o1).alloc o2).heap[w.heap.size+2]?=some o2))
 obtain⟨hb1,hz1,k0,k1,k2⟩:=al (.cells #[.int .u8 2,.int .i64 0,.string ⟨#[120]⟩,.slice none 0 0] 41) (.cells #[.int .u8 2,.int .i64 0,.string ⟨#[120]⟩,.slice none 0 0,.int .u8 1,.int .i64 1,.string ⟨#[]⟩,.slice none 0 0] 41) (.cells #[.int .u8 40,.int .i64 0,.string ⟨#[]⟩,.slice (some ⟨N+1,0,none⟩) 2 2] 41);obtain⟨w1,hw1⟩:=zX (((w.alloc (.cells #[.int .u8 2,.int .i64 0,.string ⟨#[120]⟩,.slice none 0 0] 41)).alloc (.cells #[.int .u8 2,.int .i64 0,.string ⟨#[120]⟩,.slice none 0 0,.int .u8 1,.int .i64 1,.string ⟨#[]⟩,.slice none 0 0] 41)).alloc (.cells #[.int .u8 40,.int .i64 0,.string ⟨#[]⟩,.slice (some ⟨N+1,0,none⟩) 2 2] 41));rw[hw1]at hb1 hz1 k0 k1 k2;rw[hN]at hz1 k0 k1 k2;have HB1:=zh hb1;have HZ1:=zh hz1;have aD:=zh k0;have az:=zh k1;have aR:=zh k2;clear hb1 hz1 k0 k1 k2 al;go_enter Tryz.func9,Tryz.ntmps9;go_upto_region 5 with fail
 try rw[hw1]
 simp only[Nat.add_assoc,Nat.reduceAdd];clear hw1;have av:=zh (show ∀w',Below w1.heap.size w1 w'->(fun w':World=>zN4 w' (N+2) (.int .u8 40) (.int .i64 0) (.string xS) (.slice (some ⟨N+1,0,none⟩) 2 2)) w' from fun w' hb=>box4 (zkc aR.out hb));have hSS:zW (fun w':World=>zN4 w' (N+2) (.int .u8 40) (.int .i64 0) (.string xS) (.slice (some ⟨N+1,0,none⟩) 2 2)) zU w1.drew:=⟨av.out _ zr.drew,trivial⟩
 have h6:=bSVG;have h7:=bVdG;have h8:=bPgG;refine wp_region_noPanic ?_;refine zG hSS 19 ?_;refine zT 0 hSS ?_;refine zT 2 hSS ?_;refine zT 3 hSS ?_;refine zT 5 hSS ?_;refine zT 6 hSS ?_;refine zT 9 hSS ?_;refine zT 11 hSS ?_;have hI:(fun w=>Below w1.heap.size w1 w) w1.drew:=zr.drew;clear hSS;refine zoN (T:=[(1,18),(4,21),(7,24),(8,25),(10,27),(12,29),(13,30),(14,31),(15,32),(16,33),(17,34),(18,5)]) (z:=19) (n:=20) akD 1 (fun w=>Below w1.heap.size w1 w) (akF w1.heap.size) (by kernel_rfl) (by kernel_rfl) (by simp only[putP,Act.put,zD,zE,zF]) (by decide) (by kernel_rfl) (by kernel_rfl) (fun w h=>⟨av.out _ h,trivial⟩) (fun w w' h hb=>zka h hb) (fun i v ds w w' h hb=>zu3 i h hb) (fun q hq=>?_) (fun vs w2 hb2 hF=>?_) w1.drew hI
 ·simp only[List.mem_cons,List.not_mem_nil,or_false]at hq;rcases hq with rfl|rfl|rfl|rfl|rfl|rfl|rfl|rfl|rfl|rfl|rfl|rfl
  ·intro oi hoi vs K w2 hb2 hd ah;obtain rfl:=Option.some.inj hoi;simp only[putP,Act.put,zA,zB,zC,zD,zE,zF]at ah ⊢;have hK:=zh ah;clear ah hoi;go_simp;exact hK.out _ _ (zkb zr _) ⟨w2.heap.size,rfl,heap_alloc_new w2 _⟩
  ·intro oi hoi vs K w2 hb2 hd ah;generalize dG:putP vs [(1,18),(4,21),(7,24),(8,25),(10,27),(12,29),(13,30),(14,31),(15,32),(16,33),(17,34),(18,5)] _=AC at ah ⊢;have hK:=zh ah;clear ah;have had:Calls Tryz.prog 40 ([.int .i64 1].toArray ++ #[.pointer (some ⟨N,0,none⟩)]) w2 fun e w'=>∃v,e=.returned v/\((∃b,v=nv 16 0 xS (some ⟨b,0,none⟩) 2 2/\NV w' Any (exE 1) (nv 16 0 xS (some ⟨b,0,none⟩) 2 2))/\Below w2.heap.size w2 w') :=
    (ztG 1 ⟨by decide,by decide⟩ N w2 (zkc aD.out hb2)).mono fun e w' ⟨b,h1,h2,h3⟩=>⟨_,h1,⟨b,rfl,h2⟩,h3⟩
   refine zk4 hoi (.tmp 20) [.const (.int .i64 1)] #[3] (by kernel_rfl) (by kernel_rfl) 40 _ zzI #[.pointer (some ⟨N,0,none⟩)] (by rw[<-dG];kernel_rfl) _ (by rw[<-dG];kernel_rfl) _ had ?_;rintro v w3 ⟨hv,hb3⟩;exact hK.out _ _ hb3 hv
  ·intro oi hoi vs K w2 hb2 hd ah;obtain rfl:=Option.some.inj hoi;simp only[putP,Act.put,zA,zB,zC,zD,zE,zF]at ah ⊢;have hK:=zh ah;clear ah hoi;go_simp;have aW:=zkb (zs w2) (.cells #[.int .u8 40,.int .i64 0,.string xS,.slice (some ⟨N+1,0,none⟩) 2 2] 41);exact hK.out _ _ aW ⟨w2.heap.size,rfl,zKc (fldG 57 0 (by decide) ⟨by decide,by decide⟩) trivial (heap_alloc_new w2 _) (zKb (fldG 40 0 (by decide) ⟨by decide,by decide⟩) trivial (zkc (zkc az.out hb2) aW) (znh _ Any fldX) (znh _ Any (fldG 1 1 (by decide) ⟨by decide,by decide⟩)))⟩
  ·intro oi hoi vs K w2 hb2 hd ah;generalize dG:putP vs [(1,18),(4,21),(7,24),(8,25),(10,27),(12,29),(13,30),(14,31),(15,32),(16,33),(17,34),(18,5)] _=AC at ah ⊢;have hK:=zh ah;clear ah;obtain⟨b,hv7,uR⟩:=hd 7 (by decide);have had:Calls Tryz.prog 41 ([vs 7].toArray ++ #[]) w2 fun e w'=>∃v,e=.returned v/\((∃b,v=nv 57 0 xS (some ⟨b,0,none⟩) 1 1/\NV w' Any ak8 (nv 57 0 xS (some ⟨b,0,none⟩) 1 1))/\Below w2.heap.size w2 w'):=by
    rw[hv7];exact(zpv _ _ _ w2).mono fun e w' ⟨h1,h3⟩=>⟨_,h1,⟨b,rfl,uR.later h3⟩,h3⟩
   refine zk4 hoi (.tmp 22) [.tmp 24] #[39] (by kernel_rfl) (by kernel_rfl) 41 _ zyz #[] (by rw[<-dG];kernel_rfl) _ (by rw[<-dG];kernel_rfl) _ had ?_;rintro v w3 ⟨hv,hb3⟩;exact hK.out _ _ hb3 hv
  ·intro oi hoi vs K w2 hb2 hd ah;generalize dG:putP vs [(1,18),(4,21),(7,24),(8,25),(10,27),(12,29),(13,30),(14,31),(15,32),(16,33),(17,34),(18,5)] _=AC at ah ⊢;have hK:=zh ah;clear ah;have had:Calls Tryz.prog 41 ([.slice none 0 0].toArray ++ #[]) w2 fun e w'=>∃v,e=.returned v/\(v=nv 57 0 xS none 0 0/\Below w2.heap.size w2 w') :=
    (zpv _ _ _ w2).mono fun e w' ⟨h1,h3⟩=>⟨_,h1,rfl,h3⟩
   refine zk4 hoi (.tmp 26) [.const (.slice none 0 0)] #[39] (by kernel_rfl) (by kernel_rfl) 41 _ zyz #[] (by rw[<-dG];kernel_rfl) _ (by rw[<-dG];kernel_rfl) _ had ?_;rintro v w3 ⟨hv,hb3⟩;exact hK.out _ _ hb3 hv
  ·intro oi hoi vs K w2 hb2 hd ah;generalize dG:putP vs [(1,18),(4,21),(7,24),(8,25),(10,27),(12,29),(13,30),(14,31),(15,32),(16,33),(17,34),(18,5)] _=AC at ah ⊢;have hK:=zh ah;clear ah;have had:Calls Tryz.prog 40 ([.int .i64 2].toArray ++ #[.pointer (some ⟨N,0,none⟩)]) w2 fun e w'=>∃v,e=.returned v/\((∃b,v=nv 16 0 xS (some ⟨b,0,none⟩) 2 2/\NV w' Any (exE 2) (nv 16 0 xS (some ⟨b,0,none⟩) 2 2))/\Below w2.heap.size w2 w') :=
    (ztG 2 ⟨by decide,by decide⟩ N w2 (zkc aD.out hb2)).mono fun e w' ⟨b,h1,h2,h3⟩=>⟨_,h1,⟨b,rfl,h2⟩,h3⟩
   refine zk4 hoi (.tmp 28) [.const (.int .i64 2)] #[3] (by kernel_rfl) (by kernel_rfl) 40 _ zzI #[.pointer (some ⟨N,0,none⟩)] (by rw[<-dG];kernel_rfl) _ (by rw[<-dG];kernel_rfl) _ had ?_;rintro v w3 ⟨hv,hb3⟩;exact hK.out _ _ hb3 hv
  ·intro oi hoi vs K w2 hb2 hd ah;obtain rfl:=Option.some.inj hoi;simp only[putP,Act.put,zA,zB,zC,zD,zE,zF]at ah ⊢;have hK:=zh ah;clear ah hoi;obtain⟨b4,hv4,qA⟩:=hd 4 (by decide);obtain⟨b8,hv8,hn8⟩:=hd 8 (by decide);have hv10:vs 10=nv 57 0 xS none 0 0:=hd 10 (by decide);obtain⟨b12,lV,hn12⟩:=hd 12 (by decide);rw[hv4,hv8,hv10,lV]at hK ⊢;have hq:=zKF;go_simp;have aW:=fun o=>zkb (zs w2) o;exact hK.out _ _ (aW _) ⟨w2.heap.size,rfl,zKQ (fldG 52 0 (by decide) ⟨by decide,by decide⟩) trivial (heap_alloc_new w2 _) (qA.later (aW _)) (hn8.later (aW _)) (znh _ Any (fldG 57 0 (by decide) ⟨by decide,by decide⟩)) (hn12.later (aW _))⟩
  ·intro oi hoi vs K w2 hb2 hd ah;obtain rfl:=Option.some.inj hoi;simp only[putP,Act.put,zA,zB,zC,zD,zE,zF]at ah ⊢;have hK:=zh ah;clear ah hoi;obtain⟨b13,hv13,hn13⟩:=hd 13 (by decide);rw[hv13]at hK ⊢;go_simp;exact hK.out _ _ zr ⟨b13,rfl,hn13⟩
  ·intro oi hoi vs K w2 hb2 hd ah;obtain rfl:=Option.some.inj hoi;simp only[putP,Act.put,zA,zB,zC,zD,zE,zF]at ah ⊢;have hK:=zh ah;clear ah hoi;obtain⟨b14,hv14,hn14⟩:=hd 14 (by decide);rw[hv14]at hK ⊢;go_simp;have aW:=fun o=>zkb (zs w2) o;exact hK.out _ _ (aW _) ⟨w2.heap.size,rfl,zKc (fldG 57 0 (by decide) ⟨by decide,by decide⟩) trivial (heap_alloc_new w2 _) (hn14.later (aW _))⟩
  ·intro oi hoi vs K w2 hb2 hd ah;generalize dG:putP vs [(1,18),(4,21),(7,24),(8,25),(10,27),(12,29),(13,30),(14,31),(15,32),(16,33),(17,34),(18,5)] _=AC at ah ⊢;have hK:=zh ah;clear ah;obtain⟨b,hv7,uR⟩:=hd 15 (by decide);have had:Calls Tryz.prog 41 ([vs 15].toArray ++ #[]) w2 fun e w'=>∃v,e=.returned v/\((∃b,v=nv 57 0 xS (some ⟨b,0,none⟩) 1 1/\NV w' Any ak16 (nv 57 0 xS (some ⟨b,0,none⟩) 1 1))/\Below w2.heap.size w2 w'):=by
    rw[hv7];exact(zpv _ _ _ w2).mono fun e w' ⟨h1,h3⟩=>⟨_,h1,⟨b,rfl,uR.later h3⟩,h3⟩
   refine zk4 hoi (.tmp 19) [.tmp 32] #[39] (by kernel_rfl) (by kernel_rfl) 41 _ zyz #[] (by rw[<-dG];kernel_rfl) _ (by rw[<-dG];kernel_rfl) _ had ?_;rintro v w3 ⟨hv,hb3⟩;exact hK.out _ _ hb3 hv
  ·intro oi hoi vs K w2 hb2 hd ah;obtain rfl:=Option.some.inj hoi;simp only[putP,Act.put,zA,zB,zC,zD,zE,zF]at ah ⊢;have hK:=zh ah;clear ah hoi;obtain⟨b1,hv1,hn1⟩:=hd 1 (by decide);obtain⟨b16,hv16,hn16⟩:=hd 16 (by decide);rw[hv1,hv16]at hK ⊢;go_simp;exact hK.out _ _ zr ⟨b1,b16,rfl,hn1,hn16⟩
  ·intro oi hoi vs K w2 hb2 hd ah;obtain rfl:=Option.some.inj hoi;simp only[putP,Act.put,zA,zB,zC,zD,zE,zF]at ah ⊢;have hK:=zh ah;clear ah hoi;go_simp;exact hK.out _ _ (zkb zr _) ⟨w2.heap.size,rfl,hb2.size,heap_alloc_new w2 _⟩
 ·obtain⟨vb,nb,rT,oP,hnm⟩:=hF (17,34) (by decide);obtain⟨pb,rR,hpb,hkz⟩:=hF (18,5) (by decide);clear hF;simp only[putP,Act.put,zD,zE,zF];simp only at rT rR;rw[rT,rR];generalize vs 1=v1;generalize vs 4=v4;generalize vs 7=v7;generalize vs 8=v8;generalize vs 10=v10;generalize vs 12=v12;generalize vs 13=v13;generalize vs 14=v14;generalize vs 15=v15;generalize vs 16=v16;clear rT rR;obtain⟨q0,q1,q2,q3,q4,q5⟩:=box6 hkz;have cf:∀o,w2.frozen? ⟨pb,o,none⟩=false:=fun o=>zf hkz;obtain⟨hh,hch⟩:=zKj (u0:=.slice (some ⟨vb,0,none⟩) 1 1) (u1:=.slice none 0 0) (u2:=.int .u8 57) (u3:=.int .i64 0) (u4:=.string xS) (u5:=.slice (some ⟨nb,0,none⟩) 1 1) hkz
  obtain⟨w3,hw3⟩:=zX ((((((w2.setCell ⟨pb,0,none⟩ (.slice (some ⟨vb,0,none⟩) 1 1)).setCell ⟨pb,1,none⟩ (.slice none 0 0)).setCell ⟨pb,2,none⟩ (.int .u8 57)).setCell ⟨pb,3,none⟩ (.int .i64 0)).setCell ⟨pb,4,none⟩ (.string xS)).setCell ⟨pb,5,none⟩ (.slice (some ⟨nb,0,none⟩) 1 1));rw[hw3]at hh hch;have rZ:=(NV.nz6 hkz zKN _ _ hnm (by decide)).keep (w':=w3) (S':=Any) (fun _ _ _=>trivial) fun q h hlt=>hch.block q hlt h;have hkv3:akV w3 vb:=hch.keep oP fun e=>by
   have e:vb=pb:=e;subst e;have:=oP.symm.trans hkz;injection this with this;injection this with this;simp at this
  have hb3:=hb2.trans (hch.below hb2.size fun q e=>by have e:q=pb:=e;omega);have mX:=zh hh;have HNM:=zh rZ;have yE:=zh hkv3;have HB3:=zh hb3;clear oP hkz hnm hh hch rZ hkv3 hpb;refine zp 19 fun K hK=>?_;(try simp only[zA,zB,zC]);go_simp;refine hK.out _ _ (av.out _ HB3.out) ?_;clear hK K q0 q1 q2 q3 q4 q5 cf hb3 hb2 hw3;(try simp only[zQ]);refine zd ?_;refine NoPanic.normal ?_;have gJ:=zh (show PV w3 Any exP (pv (some ⟨vb,0,none⟩) 1 1 none 0 0 57 0 xS (some ⟨nb,0,none⟩) 1 1)from⟨some ⟨vb,0,none⟩,1,none,0,some ⟨nb,0,none⟩,1,rfl,⟨fun i hi=>by
   obtain rfl:i=0:=by simp[exP]at hi;omega
   exact⟨⟨vb,0,none⟩,rfl,trivial,⟨zc yE.out rfl,zc yE.out rfl,zc yE.out rfl⟩,show FldV ⟨exX,1,0⟩from⟨by decide,by decide,by decide⟩⟩,by decide,by decide,fun i hi=>by simp[exP]at hi,by decide,by decide,HNM.out⟩⟩)
  obtain⟨p0,p1,p2,p3,p4,p5⟩:=box6 mX.out;have BK:=zh (zmV (b:=exB) (e:=15) (F:=9) gJ.out zy5 zu2 ⟨by decide,by decide⟩ (by decide));rw[zy7]at BK;have hbx:=zKL;clear av h1 h2 h3 h4 h5 h6 h7 h8 oM yE HNM aD az aR;go_wp2_with fail;refine BK.out.mono ?_;rintro e' w4 ⟨hb4,v4',rfl,hs4⟩;obtain⟨ca,cc,D,D2,d1,d2,ia,ic,rfl,hc0,hc1⟩:=zqb hs4;have hb5:=zkb hb4 (.cells #[.slice (some ca) 1 cc,.slice D 0 d1,.slice D2 0 d2] 32);have k6:=heap_alloc_new w4 (.cells #[.slice (some ca) 1 cc,.slice D 0 d1,.slice D2 0 d2] 32);have aW:=zkb (zs w4) (.cells #[.slice (some ca) 1 cc,.slice D 0 d1,.slice D2 0 d2] 32);obtain⟨w5,il⟩:=zX (w4.alloc (.cells #[.slice (some ca) 1 cc,.slice D 0 d1,.slice D2 0 d2] 32));obtain⟨sb,hsb⟩:=zX (w4.heap.size);rw[il]at hb5 k6 aW;rw[hsb]at k6;have aP:=zh (HB3.out.trans (hb5.mono HB3.out.size));have uo:=zh (zkc mX.out hb5)
  have dO:=zh k6;have bu:=zh (And.intro (zb aW hc0) (zb aW hc1));have uu:=zh (gJ.out.later hb5);clear p0 p1 p2 p3 p4 p5 hb4 hs4 hc0 hc1 hb5 k6 aW BK mX gJ;obtain⟨p0,p1,p2,p3,p4,p5⟩:=box6 uo.out;have HOU:=zh (zqR (b:=exB) (F:=9) uu.out zy5 zu2 ⟨by decide,by decide⟩ (by decide));go_wp2_with fail
  try simp only[il,hsb]
  clear il;refine HOU.out.mono ?_;rintro e' w6 ⟨hb6,mb,rfl,hmb,jR⟩;have aV:=zh (zka aP.out hb6);have HPX6:=zh (zkc uo.out hb6);have HK66:=zh (zkc dO.out hb6);have jf:=zh (And.intro (zb hb6 bu.out.1) (zb hb6 bu.out.2));have uq:=zh (uu.out.later hb6);have pV:=zh jR;clear p0 p1 p2 p3 p4 p5 hb6 hmb jR HOU uo uu dO bu;obtain⟨p0,p1,p2,p3,p4,p5⟩:=box6 HPX6.out;have vR:=zh (ztd (b:=exB) (F:=9) uq.out uq.out zy5 zu2 ⟨by decide,by decide⟩ (by decide));rw[zz1]at vR;go_wp2_with fail;refine vR.out.mono ?_;rintro e' w7 ⟨iD,v7',rfl,hs7⟩;obtain⟨B1,f1,B2,f2,B3,f3,rfl,-⟩:=hs7;have bR:=zkb iD (.cells #[.slice B1 nilS.cells.length f1,.slice B2 nilS.tin.length f2,.slice B3 nilS.tout.length f3] 32);have dQ:=zh (aV.out.trans (bR.mono aV.out.size));have bC:=zkc HK66.out bR;obtain⟨x0,x1,x2⟩:=zkr bC;have hc0:=zb bR jf.out.1
  have hc1:=zb bR jf.out.2;have hd0:(w7.alloc (.cells #[.slice B1 nilS.cells.length f1,.slice B2 nilS.tin.length f2,.slice B3 nilS.tout.length f3] 32)).cell? ca=some (.slice (some ia) 1 ic):=by rw[<-Addr.add_zero' ca];exact hc0
  have hd1:(w7.alloc (.cells #[.slice B1 nilS.cells.length f1,.slice B2 nilS.tin.length f2,.slice B3 nilS.tout.length f3] 32)).cell? ia=some (.int .i64 2):=by rw[<-Addr.add_zero' ia];exact hc1
  have oJ:=pV.out.keep (bR.block mb pV.out.lt);have hl0:=oJ.look (k:=0) ⟨by decide,by decide⟩;have hl15:=oJ.look (k:=15) ⟨by decide,by decide⟩;have hlen:=fun ty=>oJ.len ty;rw[zKM]at hl0;rw[zz2]at hl15;rw[zy6]at hlen;clear p0 p1 p2 p3 p4 p5 bC oJ vR pV HPX6 uq;clear iD bR;go_wp2_with fail;go_ret;exact⟨by trivial,zka HB1.out dQ.out⟩
end
section
open Go Go.RowKit
attribute [local go_sem] Oper.semAt_some
theorem zrv{W:World}{p:PG}{b:BX}{e x y z:Int}{v:Value}(hp:PV W Any p v)(hx:0<=x/\x<=255)(hy:0<=y/\y<=255)(hz:0<=z/\z<=255) :
  Calls Tryz.prog 6 #[v,.int .i64 e,.agg #[.int .i64 b.v,.int .i64 b.l,.int .i64 b.i],.int .u8 x,.int .u8 y,.int .u8 z] W fun en w'=>en=.returned (.bool true)/\Below W.heap.size W w':=by
 have gJ:=zh (fun w' (h:Below W.heap.size W w')=>hp.later h);obtain⟨A1,c1,A2,c2,A3,c3,rfl,-⟩:=hp;have hb2:=zkb (zkb (zs W) (.cells #[.slice A1 p.vs.length c1,.slice A2 p.prs.length c2,.int .u8 p.m.k,.int .i64 p.m.n,.string p.m.s,.slice A3 p.m.ks.length c3] 43)) (.cells #[.int .i64 b.v,.int .i64 b.l,.int .i64 b.i] 24);have k0:=zkf (heap_alloc_new W (.cells #[.slice A1 p.vs.length c1,.slice A2 p.prs.length c2,.int .u8 p.m.k,.int .i64 p.m.n,.string p.m.s,.slice A3 p.m.ks.length c3] 43)) (.cells #[.int .i64 b.v,.int .i64 b.l,.int .i64 b.i] 24);have k1:=heap_alloc_new (W.alloc (.cells #[.slice A1 p.vs.length c1,.slice A2 p.prs.length c2,.int .u8 p.m.k,.int .i64 p.m.n,.string p.m.s,.slice A3 p.m.ks.length c3] 43)) (.cells #[.int .i64 b.v,.int .i64 b.l,.int .i64 b.i] 24);rw[World.size_alloc]at k1
 obtain⟨w2,hw2⟩:=zX ((W.alloc (.cells #[.slice A1 p.vs.length c1,.slice A2 p.prs.length c2,.int .u8 p.m.k,.int .i64 p.m.n,.string p.m.s,.slice A3 p.m.ks.length c3] 43)).alloc (.cells #[.int .i64 b.v,.int .i64 b.l,.int .i64 b.i] 24));obtain⟨N1,hN1⟩:=zX (W.heap.size);rw[hw2]at hb2 k0 k1;have hz2:w2.heap.size=N1+2:=by rw[<-hw2,<-hN1];simp
 rw[hN1]at k0 k1;have HB2:=zh hb2;have HZ2:=zh hz2;obtain⟨x0,x1,x2⟩:=zkr k1;have aD:=zh k0;have az:=zh k1;clear hb2 k0 k1 hz2;go_enter Tryz.func6,Tryz.ntmps6;go_upto_region 1 with fail
 try rw[hw2]
 try rw[hN1]
 clear hw2 hN1;go_upto_region 2 with fail;obtain⟨cv,hcv⟩:=zX (wrap64 (b.v+x % 2));obtain⟨cl,hcl⟩:=zX (wrap64 (b.l+y % 2));obtain⟨ci,hci⟩:=zX (wrap64 (b.i+z % 2));rw[hcv,hcl,hci];have HGE:=zh (show b.ok=true->GeB b ⟨cv,cl,ci⟩from fun h=>by
  have hk:=zll h;have h1:wrap64 (b.v+x % 2)=b.v+x % 2:=IntWalk.wrap64_in _ (by omega);have h2:wrap64 (b.l+y % 2)=b.l+y % 2:=IntWalk.wrap64_in _ (by omega);have h3:wrap64 (b.i+z % 2)=b.i+z % 2:=IntWalk.wrap64_in _ (by omega);exact⟨by simp only;omega,by simp only;omega,by simp only;omega⟩)
 have hb3:=zkb (zs w2) (.cells #[.int .i64 cv,.int .i64 cl,.int .i64 ci] 24);have k2:=heap_alloc_new w2 (.cells #[.int .i64 cv,.int .i64 cl,.int .i64 ci] 24);obtain⟨w3,hw3⟩:=zX (w2.alloc (.cells #[.int .i64 cv,.int .i64 cl,.int .i64 ci] 24));rw[HZ2.out]at k2 ⊢;rw[hw3]at hb3 k2 ⊢;have HB3:=zh (zka HB2.out hb3);have xD:=zh (fun w' (h:Below w3.heap.size w3 w')=>zkc (zkc aD.out hb3) h);have gZ:=zh (fun w' (h:Below w3.heap.size w3 w')=>zkc (zkc az.out hb3) h);have jc:=zh (fun w' (h:Below w3.heap.size w3 w')=>zkc k2 h);have uw:=zh (fun w' (h:Below w3.heap.size w3 w')=>gJ.out _ (zka HB3.out h));have jL:=zh (fun w' (h:Below w3.heap.size w3 w')=>zka HB3.out h);have dY:=zh (zs w3);clear hcv hcl hci hw3 hb3 k2 aD az HB2 HB3 HZ2 gJ x0 x1 x2 hx hy hz;have ow:I64 300:=⟨by decide,by decide⟩
 have HR1:=zh (fun w' (h:Below w3.heap.size w3 w')=>zrS p b 300 _ w' (uw.out _ h) ow);have HR2:=zh (fun w' (h:Below w3.heap.size w3 w')=>zrS p ⟨cv,cl,ci⟩ 300 _ w' (uw.out _ h) ow);have xJ:=zh zsH;obtain⟨p0,p1,p2,p3,p4,p5⟩:=box6 (xD.out _ dY.out);obtain⟨x0,x1,x2⟩:=zkr (gZ.out _ dY.out);obtain⟨y0,y1,y2⟩:=zkr (jc.out _ dY.out);go_wp2_with fail;refine(HR1.out _ dY.out).mono ?_;rintro en w4 ⟨hb4,A4,n4,c4,ok1,rfl,hr1⟩;have lS:=zh (zka dY.out hb4);clear p0 p1 p2 p3 p4 p5 x0 x1 x2 y0 y1 y2 hb4;obtain⟨p0,p1,p2,p3,p4,p5⟩:=box6 (xD.out _ lS.out);obtain⟨x0,x1,x2⟩:=zkr (gZ.out _ lS.out);obtain⟨y0,y1,y2⟩:=zkr (jc.out _ lS.out);have pX:=zh (show ok1=true->(b.ok&&svB p.vs)=true/\cntF p.vs b<=60 from fun h=>⟨(hr1 h).2.2.1,(hr1 h).2.2.2.1⟩);clear hr1;go_wp2_with fail;refine(HR2.out _ lS.out).mono ?_;rintro en w5 ⟨hb5,A5,n5,c5,ok2,rfl,hr2⟩
 have eH:=zh (zka lS.out hb5);clear p0 p1 p2 p3 p4 p5 x0 x1 x2 y0 y1 y2 hb5;obtain⟨p0,p1,p2,p3,p4,p5⟩:=box6 (xD.out _ eH.out);obtain⟨x0,x1,x2⟩:=zkr (gZ.out _ eH.out);obtain⟨y0,y1,y2⟩:=zkr (jc.out _ eH.out);have qN:=zh (show ok2=true->((⟨cv,cl,ci⟩:BX).ok&&svB p.vs)=true/\cntF p.vs ⟨cv,cl,ci⟩<=60 from fun h=>⟨(hr2 h).2.2.1,(hr2 h).2.2.2.1⟩);clear hr2;go_wp2_with fail;refine(xJ.out _).mono ?_;rintro en w6 ⟨rfl,hb6⟩;have jf:=zh (zka eH.out hb6);clear p0 p1 p2 p3 p4 p5 x0 x1 x2 y0 y1 y2 hb6;obtain⟨p0,p1,p2,p3,p4,p5⟩:=box6 (xD.out _ jf.out);obtain⟨x0,x1,x2⟩:=zkr (gZ.out _ jf.out);obtain⟨y0,y1,y2⟩:=zkr (jc.out _ jf.out)
 cases ok1
 ·go_wp2_with fail;refine(xJ.out _).mono ?_;rintro en w7 ⟨rfl,iD⟩;have BP:=zh (zka jf.out iD);clear iD;go_wp2_with fail;go_ret;exact⟨rfl,jL.out _ BP.out⟩
 cases ok2
 ·go_wp2_with fail;refine(xJ.out _).mono ?_;rintro en w7 ⟨rfl,iD⟩;have BP:=zh (zka jf.out iD);clear iD;go_wp2_with fail;go_ret;exact⟨rfl,jL.out _ BP.out⟩
 have HF1F:=zh (fun w' (h:Below w3.heap.size w3 w')=>zmV (e:=e) (uw.out _ h) (pX.out rfl).1 (Nat.le_trans (zxQ (pX.out rfl).1 (pX.out rfl).2) (by decide)) ow (by decide));have HF2F:=zh (fun w' (h:Below w3.heap.size w3 w')=>zmV (e:=e) (uw.out _ h) (qN.out rfl).1 (Nat.le_trans (zxQ (qN.out rfl).1 (qN.out rfl).2) (by decide)) ow (by decide));have uy:=zh (fun s n h=>zwd (s:=s) (n:=n) (pX.out rfl).1 (qN.out rfl).1 (HGE.out (by have:=(pX.out rfl).1;simp only[Bool.and_eq_true]at this;exact this.1)) (f:=fun s=>decide (errE p 300 s=e)) h);have HI1:=zh (zpX (pX.out rfl).1);obtain⟨⟨s1,m1,f1⟩,hr1⟩:=zX (fndE (fun s=>decide (errE p 300 s=e)) (allS b (lenE p.vs b)));obtain⟨⟨s2,m2,f2⟩,hr2⟩:=zX (fndE (fun s=>decide (errE p 300 s=e)) (allS ⟨cv,cl,ci⟩ (lenE p.vs ⟨cv,cl,ci⟩)));have uH:=zh hr1;rw[hr1]at HF1F;rw[hr2]at HF2F;simp only[hr1,hr2]at uy
 clear hr1 hr2;go_wp2_with fail;refine(HF1F.out _ jf.out).mono ?_;rintro en w7 ⟨iD,v7,rfl,hs7⟩;simp only at hs7;obtain⟨As,cs,Bs,ds,Ds,es,rfl⟩:∃A c B d D e,v7=.agg #[.slice A s1.cells.length c,.slice B s1.tin.length d,.slice D s1.tout.length e]:=by
  obtain⟨A,c,B,d,D,e,h,-⟩:=hs7;exact⟨_,_,_,_,_,_,h⟩
 have bR:=zkb iD (.cells #[.slice As s1.cells.length cs,.slice Bs s1.tin.length ds,.slice Ds s1.tout.length es] 32);have k8:=heap_alloc_new w7 (.cells #[.slice As s1.cells.length cs,.slice Bs s1.tin.length ds,.slice Ds s1.tout.length es] 32);have xV:=hs7.any.later (zkb (zs w7) (.cells #[.slice As s1.cells.length cs,.slice Bs s1.tin.length ds,.slice Ds s1.tout.length es] 32));obtain⟨w8,hw8⟩:=zX (w7.alloc (.cells #[.slice As s1.cells.length cs,.slice Bs s1.tin.length ds,.slice Ds s1.tout.length es] 32));obtain⟨N7,hN7⟩:=zX (w7.heap.size);rw[hw8]at bR k8 xV;rw[hN7]at k8;have xH:=zh (zka jf.out bR);have qX:=zh k8;have HS8:=zh xV;clear p0 p1 p2 p3 p4 p5 x0 x1 x2 y0 y1 y2 iD hs7 bR k8 xV;obtain⟨p0,p1,p2,p3,p4,p5⟩:=box6 (xD.out _ xH.out);obtain⟨x0,x1,x2⟩:=zkr (gZ.out _ xH.out);obtain⟨y0,y1,y2⟩:=zkr (jc.out _ xH.out);go_wp2_with fail;clear hw8 hN7
 refine(HF2F.out _ xH.out).mono ?_;rintro en w9 ⟨aU,v9,rfl,qx⟩;simp only at qx;obtain⟨At,ct,Bt,dt,Dt,et,rfl⟩:∃A c B d D e,v9=.agg #[.slice A s2.cells.length c,.slice B s2.tin.length d,.slice D s2.tout.length e]:=by
  obtain⟨A,c,B,d,D,e,h,-⟩:=qx;exact⟨_,_,_,_,_,_,h⟩
 have aW:=zkb aU (.cells #[.slice At s2.cells.length ct,.slice Bt s2.tin.length dt,.slice Dt s2.tout.length et] 32);have ka:=heap_alloc_new w9 (.cells #[.slice At s2.cells.length ct,.slice Bt s2.tin.length dt,.slice Dt s2.tout.length et] 32);have hsa:=qx.any.later (zkb (zs w9) (.cells #[.slice At s2.cells.length ct,.slice Bt s2.tin.length dt,.slice Dt s2.tout.length et] 32));obtain⟨wa,ku⟩:=zX (w9.alloc (.cells #[.slice At s2.cells.length ct,.slice Bt s2.tin.length dt,.slice Dt s2.tout.length et] 32));obtain⟨N9,hN9⟩:=zX (w9.heap.size);rw[ku]at aW ka hsa;rw[hN9]at ka;have oo:=zh (zka xH.out aW);have av:=zh (HS8.out.later aW);have HST:=zh hsa;obtain⟨q0,q1,q2⟩:=zkr (zkc qX.out aW);obtain⟨r0,r1,r2⟩:=zkr ka;clear p0 p1 p2 p3 p4 p5 x0 x1 x2 y0 y1 y2 aU qx aW ka hsa
 cases f1
 ·go_wp2_with fail;go_ret;exact⟨rfl,jL.out _ oo.out⟩
 ·obtain⟨t,m,h1,h2,h3⟩:=uy.out s1 m1 rfl;injection h1 with h1 h4;injection h4 with h4 h5;subst h1 h4 h5;have hin1:=HI1.out s1 (by
   rcases zoo (fun s=>decide (errE p 300 s=e)) (allS b (lenE p.vs b))with⟨a,t,c,g1,g2,g3,g4⟩|⟨g2,g4⟩
   ·have:=uH.out;rw[g4]at this;injection this with this;rw[g1,<-this];simp
   ·have:=uH.out;rw[g4]at this;injection this with _ this;injection this with _ this
    cases this)
  have qR:=zh (zxh s1 s2 _ _ wa av.out HST.out hin1.sm h2.sm (by rw[hin1.n,h2.n]));rw[h3]at qR;clear h3 h2 hin1 uy uH;go_wp2_with fail;refine qR.out.mono ?_;rintro en wb ⟨rfl,hbb⟩;have jZ:=zh (zka oo.out hbb);clear hbb q0 q1 q2 r0 r1 r2;go_wp2_with fail;go_ret;exact⟨rfl,jL.out _ jZ.out⟩
end
section
open Go.RowKit Go.ChangeShapes Go.WideShapes Go.ChangeAt Go.Deep
theorem znc:Tryz.prog.cellsOf 41=4:=by kernel_rfl
theorem zuV:Tryz.prog.bytesOf 41=56:=by kernel_rfl
theorem zyS:Tryz.prog.cellsOf 5=1:=by kernel_rfl
theorem zwQ:Tryz.prog.cellsOf 3=1:=by kernel_rfl
theorem zwP:Tryz.prog.cellsOf 9=1:=by kernel_rfl
theorem zuT:Tryz.prog.cellsOf 39=1:=by kernel_rfl
theorem zl2{H:Type}{P:Program}{e:TypeId}:∀ {l:List (DataW H)} {d:DataW H},d∈l->∀n∈d.weights P e,n∈DataW.weightsAll P e l
 | d0::l,d,hd,n,hn=>by
  simp only[DataW.weightsAll,List.mem_append];rcases List.mem_cons.1 hd with rfl|hd
  ·exact .inl hn
  ·exact .inr (zl2 hd n hn)
theorem zmY{H:Type}:∀(ks:List T) (ds:List (DataW H)),ks.length=ds.length->(∀i (h:i<ks.length) (h':i<ds.length),size ks[i]<=Rows.uptoBulk ds[i])->zkV ks<=Rows.uptoBulkAll ds
 | [],[],_,_=>by simp[zkV]
 | t::ts,d::ds,hl,h=>by
  have h0:=h 0 (Nat.zero_lt_succ _) (Nat.zero_lt_succ _);have h1:=zmY ts ds (by simpa using hl) (fun i hi hi'=>h (i+1) (Nat.succ_lt_succ hi) (Nat.succ_lt_succ hi'));simp only[List.getElem_cons_zero]at h0;simp only[zkV,Rows.uptoBulkAll];omega
 | [],_::_,hl,_=>by simp at hl
 | _::_,[],hl,_=>by simp at hl
section
variable {H:Type} {enc:TypeId×Value->H} {w:World} {held:Bool}
def zeroT':T:=.nd 0 0 ⟨#[]⟩ []
theorem zqp:∀(fuel:Nat) (cs:List Value) (x:DataW H×List MemPlace),DataW.trod enc Tryz.prog w 0 (fun _=>true) held fuel 41 cs=some x ->
  (∀n∈x.1.weights Tryz.prog 41,n<=reachBytes) ->
  ∃t u0 u1 u2 u3,cs=[u0,u1,u2,u3]/\NV w Any t (.agg #[u0,u1,u2,u3])/\t.ks.length*56<=reachBytes/\size t<=Rows.uptoBulk x.1:=by
 intro fuel
 induction fuel using Nat.strongRecOn with
 | _ fuel ih =>
 intro cs x h hw;have hts:=DataW.trod_struct Tryz.underlying41 h;obtain⟨xs,n,hfu,hx,hcl,hxl,hg⟩:=hts;subst hx;rw[znc]at hcl
 match cs,hcl with
 | [c0,c1,c2,c3],_ =>
 match xs,hxl with
 | [y0,y1,y2,y3],_ =>
 have g0:=hg 0 _ rfl;have g1:=hg 1 _ rfl;have g2:=hg 2 _ rfl;have g3:=hg 3 _ rfl;simp only[zyS,zwQ,zwP,zuT,List.drop_zero,List.take_succ_cons,List.take_zero,List.drop_succ_cons,List.getElem?_cons_zero,List.getElem?_cons_succ]at g0 g1 g2 g3;obtain⟨k,e0,e0',wk⟩:=DataW.trod_int Tryz.underlying5 g0;obtain⟨m,e1,e1',wm⟩:=DataW.trod_int Tryz.underlying3 g1;obtain⟨s,e2,e2',ws⟩:=DataW.trod_string Tryz.underlying9 g2;injection e0 with e0;injection e1 with e1;injection e2 with e2;subst e0 e1 e2 e0' e1' e2';have hf:Fld k m s:=by
  refine⟨?_,?_,ws⟩
  ·have:=wk;simp[Lit.wf,IntKind.min,IntKind.max,IntKind.signed,IntKind.bits]at this;omega
  ·have:=wm;simp[Lit.wf,IntKind.min,IntKind.max,IntKind.signed,IntKind.bits]at this;omega
 have hsl:=DataW.trod_slice Tryz.underlying39 g3;rcases hsl with⟨e3,e3'⟩|⟨a,len,cap,elems,rest,n',hn',e3,e3',_,hl,hm,hel,hat,hsp,_⟩
 ·injection e3 with e3;subst e3 e3';refine⟨.nd k m s [],_,_,_,_,rfl,NV.shut (ks:=[]) hf (Nat.zero_le _) (Nat.zero_le _) zl9.nil,by simp,?_⟩;simp only[size,zkV,List.map_cons,List.map_nil,Rows.uptoBulk];omega
 ·injection e3 with e3;subst e3 e3';obtain⟨hrl,_⟩:=hsp rfl;rw[znc]at hat
  -- what the reach says of this slice,and of its elements
  have hws:∀q∈DataW.weights Tryz.prog 39 (.slice (elems.map (·.1)) (rest.map (·.1)):DataW H),q<=reachBytes:=by
   intro q hq;refine hw q ?_;simp only[List.map_cons,List.map_nil,DataW.weights,Tryz.underlying41];simp only[DataW.weightsEach,List.map_cons,List.map_nil,List.mem_append];exact .inr (.inr (.inr (.inl hq)))
  simp only[DataW.weights,Tryz.underlying39,zuV]at hws;have hcap:cap*56<=reachBytes:=by
   have:=hws _ (List.mem_cons_self ..);simp only[List.length_map]at this;rw[hel,hrl]at this;rw[show cap=len+(cap-len) by omega];exact this
  have xQ:∀y∈elems,∀q∈y.1.weights Tryz.prog 41,q<=reachBytes:=fun y hy q hq =>
   hws q (List.mem_cons_of_mem _ (List.mem_append_left _ (zl2 (List.mem_map_of_mem hy) q hq)))
  have key:∀i (hi:i<elems.length),∃t u0 u1 u2 u3,w.cells? 0 (a.add (i*4)) 4=some [u0,u1,u2,u3]/\NV w Any t (.agg #[u0,u1,u2,u3])/\size t<=Rows.uptoBulk elems[i].1:=by
   intro i hi;have h1:=hat i (by omega);rw[List.getElem?_eq_getElem hi]at h1;obtain⟨cs',hcs,ht⟩:=Option.bind_eq_some_iff.1 h1;obtain⟨t,u0,u1,u2,u3,rfl,hn,_,hb⟩:=ih n' (by omega) cs' elems[i] ht (xQ _ (List.getElem_mem hi));exact⟨t,u0,u1,u2,u3,hcs,hn,hb⟩
  have hex:∃ks:List T,ks.length=elems.length/\∀i (h:i<ks.length) (h':i<elems.length),(∃u0 u1 u2 u3,w.cells? 0 (a.add (i*4)) 4=some [u0,u1,u2,u3]/\NV w Any ks[i] (.agg #[u0,u1,u2,u3]))/\size ks[i]<=Rows.uptoBulk elems[i].1:=by
   classical
   refine⟨(List.range elems.length).map fun i=>if h:i<elems.length then(key i h).choose else zeroT',by simp,fun i h h'=>?_⟩;simp only[List.getElem_map,List.getElem_range,h',dif_pos];obtain⟨u0,u1,u2,u3,h1,h2,h3⟩:=(key i h').choose_spec;exact⟨⟨u0,u1,u2,u3,h1,h2⟩,h3⟩
  obtain⟨ks,hkl,hks⟩:=hex;have hlen:ks.length=len:=by omega
  have hLK:ks.length<=LK:=by unfold LK;unfold reachBytes at hcap;omega
  refine⟨.nd k m s ks,_,_,_,_,rfl,?_,?_,?_⟩
  ·rw[<-hlen];refine NV.shut hf hLK (by omega) fun i hi=>?_;obtain⟨⟨u0,u1,u2,u3,hc,hn⟩,_⟩:=hks i hi (by omega);obtain⟨_,_,hcell⟩:=World.cells?_some hc;refine⟨a,u0,u1,u2,u3,rfl,trivial,⟨?_,?_,?_,?_⟩,hn⟩
   ·have:=hcell 0 (by omega);simpa[Addr.add]using this
   ·have:=hcell 1 (by omega);simpa[Addr.add]using this
   ·have:=hcell 2 (by omega);simpa[Addr.add]using this
   ·have:=hcell 3 (by omega);simpa[Addr.add]using this
  ·simp only[T.ks_nd];omega
  ·have hb:=zmY ks (elems.map (·.1)) (by simp[hkl]) (fun i h h'=>by
    have:=(hks i h (by simpa using h')).2;simpa using this)
   simp only[size,List.map_cons,List.map_nil,Rows.uptoBulk,Rows.uptoBulkAll];omega
end
theorem Tryz.own:ownKnob Tryz.prog.godebug=none:=by kernel_rfl
theorem Tryz.laidOut:laidOutB Tryz.prog=true:=by kernel_rfl
theorem zuR:Tryz.prog.cellsOf 57=3:=by kernel_rfl
theorem zyU:Tryz.prog.bytesOf 57=32:=by kernel_rfl
section
variable {H:Type} {enc:TypeId×Value->H} {w:World} {held:Bool}
theorem zr0{ty E:TypeId}{n b:Nat}(ht:Tryz.prog.underlying ty=some (.slice E))(hc:Tryz.prog.cellsOf E=n)(hb:Tryz.prog.bytesOf E=b){fuel:Nat}{cs:List Value}{x:DataW H×List MemPlace}
  (h:DataW.trod enc Tryz.prog w 0 (fun _=>true) held fuel ty cs=some x)(hw:∀q∈x.1.weights Tryz.prog ty,q<=reachBytes) :
  cs=[.slice none 0 0]\/∃a len cap,cs=[.slice (some a) len cap]/\len<=cap/\cap*b<=reachBytes/\∀i,i<len->∃cs' y n',w.cells? 0 (a.add (i*n)) n=some cs'/\DataW.trod enc Tryz.prog w 0 (fun _=>true) held n' E cs'=some y/\∀q∈y.1.weights Tryz.prog E,q<=reachBytes:=by
 have hsl:=DataW.trod_slice ht h;rcases hsl with⟨e3,e3'⟩|⟨a,len,cap,elems,rest,n',hn',e3,e3',_,hl,hm,hel,hat,hsp,_⟩
 ·exact .inl e3
 ·refine .inr ⟨a,len,cap,e3,hl,?_,?_⟩
  ·obtain⟨hrl,_⟩:=hsp rfl;subst e3';simp only[DataW.weights,ht,hb]at hw;have:=hw _ (List.mem_cons_self ..);simp only[List.length_map]at this;rw[hel,hrl]at this;rw[show cap=len+(cap-len) by omega];exact this
  ·intro i hi;subst e3';simp only[DataW.weights,ht,hb]at hw;have hi':i<elems.length:=by omega
   have h1:=hat i (by omega);rw[List.getElem?_eq_getElem hi',hc]at h1;obtain⟨cs',hcs,ht'⟩:=Option.bind_eq_some_iff.1 h1;exact⟨cs',elems[i],n',hcs,ht',fun q hq=>hw q (List.mem_cons_of_mem _ (List.mem_append_left _ (zl2 (List.mem_map_of_mem (List.getElem_mem hi')) q hq)))⟩
theorem zyg{fuel:Nat}{cs:List Value}{x:DataW H×List MemPlace}(h:DataW.trod enc Tryz.prog w 0 (fun _=>true) held fuel 57 cs=some x) :
  ∃v:VD,cs=[.string v.s,.int .u8 v.k,.int .i64 v.n]/\FldV v:=by
 have hts:=DataW.trod_struct Tryz.underlying57 h;obtain⟨xs,n,hfu,hx,hcl,hxl,hg⟩:=hts;rw[zuR]at hcl
 match cs,hcl with
 | [c0,c1,c2],_ =>
 match xs,hxl with
 | [y0,y1,y2],_ =>
 have g0:=hg 0 _ rfl;have g1:=hg 1 _ rfl;have g2:=hg 2 _ rfl;obtain⟨s,e2,e2',ws⟩:=DataW.trod_string Tryz.underlying9 g0;obtain⟨k,e0,e0',wk⟩:=DataW.trod_int Tryz.underlying5 g1;obtain⟨m,e1,e1',wm⟩:=DataW.trod_int Tryz.underlying3 g2;injection e0 with e0;injection e1 with e1;injection e2 with e2;subst e0 e1 e2;refine⟨⟨s,k,m⟩,rfl,ws,?_,?_⟩
 ·have:=wk;simp[Lit.wf,IntKind.min,IntKind.max,IntKind.signed,IntKind.bits]at this;constructor<;>simp only<;>omega
 ·have:=wm;simp[Lit.wf,IntKind.min,IntKind.max,IntKind.signed,IntKind.bits]at this;constructor<;>simp only<;>omega
theorem zoz{α:Type}[Inhabited α]{n:Nat}{P:Nat->α->Prop}(h:∀i,i<n->∃x,P i x):∃l:List α,l.length=n/\∀i (hi:i<l.length),P i l[i]:=by
 obtain⟨f,hf⟩:=choose_lt h;exact⟨(List.range n).map f,by simp,fun i hi=>by simp only[List.getElem_map,List.getElem_range];exact hf i (by simpa using hi)⟩
instance:Inhabited VD:=⟨⟨⟨#[]⟩,0,0⟩⟩
theorem zsM{fuel:Nat}{cs:List Value}{x:DataW H×List MemPlace}(h:DataW.trod enc Tryz.prog w 0 (fun _=>true) held fuel 22 cs=some x)(hw:∀q∈x.1.weights Tryz.prog 22,q<=reachBytes) :
  ∃(A:Option Addr) (vs:List VD) (c:Nat),cs=[.slice A vs.length c]/\RowV w Any A vs/\vs.length<=4398046510976/\vs.length<=c:=by
 rcases zr0 Tryz.underlying22 zuR zyU h hw with rfl|⟨a,len,cap,rfl,hl,hcap,hat⟩
 ·exact⟨none,[],0,rfl,fun i hi=>absurd hi (by simp),Nat.zero_le _,Nat.zero_le _⟩
 ·obtain⟨vs,hvl,hvs⟩:=zoz (n:=len) (P:=fun i (v:VD)=>w.cells? 0 (a.add (i*3)) 3=some [.string v.s,.int .u8 v.k,.int .i64 v.n]/\FldV v) fun i hi=>by
   obtain⟨cs',y,n',hcs,ht,_⟩:=hat i hi;obtain⟨v,rfl,hf⟩:=zyg ht;exact⟨v,hcs,hf⟩
  refine⟨some a,vs,cap,by rw[hvl],fun i hi=>?_,by unfold reachBytes at hcap;omega,by omega⟩;obtain⟨hc,hf⟩:=hvs i hi;obtain⟨_,_,hcell⟩:=World.cells?_some hc;refine⟨a,rfl,trivial,⟨?_,?_,?_⟩,hf⟩
  ·have:=hcell 0 (by omega);simpa[Addr.add]using this
  ·have:=hcell 1 (by omega);simpa[Addr.add]using this
  ·have:=hcell 2 (by omega);simpa[Addr.add]using this
theorem zqo{fuel:Nat}{cs:List Value}{x:DataW H×List MemPlace}(h:DataW.trod enc Tryz.prog w 0 (fun _=>true) held fuel 22 cs=some x)(hw:∀q∈x.1.weights Tryz.prog 22,q<=reachBytes) :
  ∃(A:Option Addr) (vs:List VD) (c:Nat),cs=[.slice A vs.length c]/\RowV w Any A vs/\vs.length<=LV/\vs.length<=c:=by
 obtain⟨A,vs,c,h1,h2,h3,h4⟩:=zsM h hw;exact⟨A,vs,c,h1,h2,by unfold LV;omega,h4⟩
instance:Inhabited T:=⟨zeroT'⟩
theorem zr5{t:T}{u0 u1 u2 u3:Value}(h:NV w Any t (.agg #[u0,u1,u2,u3])):∃A c,u0=.int .u8 t.k/\u1=.int .i64 t.n/\u2=.string t.s/\u3=.slice A t.ks.length c/\NV w Any t (nv t.k t.n t.s A t.ks.length c):=by
 obtain⟨A,c,e,_⟩:=h.open_;have e':=e;simp only[nv,Value.agg.injEq,Array.mk.injEq,List.cons.injEq,and_true]at e;exact⟨A,c,e.1,e.2.1,e.2.2.1,e.2.2.2,e'▸h⟩
end
theorem zuS:Tryz.prog.cellsOf 75=6:=by kernel_rfl
theorem zyV:Tryz.prog.bytesOf 75=96:=by kernel_rfl
theorem zyT:Tryz.prog.cellsOf 43=6:=by kernel_rfl
section
variable {H:Type} {enc:TypeId×Value->H} {w:World} {held:Bool}
instance:Inhabited PR:=⟨⟨⟨#[]⟩,[],zeroT'⟩⟩
theorem ztW{fuel:Nat}{cs:List Value}{x:DataW H×List MemPlace}(h:DataW.trod enc Tryz.prog w 0 (fun _=>true) held fuel 75 cs=some x)(hw:∀q∈x.1.weights Tryz.prog 75,q<=reachBytes) :
  ∃(r:PR) (A1:Option Addr) (c1:Nat) (A2:Option Addr) (c2:Nat),cs=[.string r.s,.slice A1 r.ps.length c1,.int .u8 r.b.k,.int .i64 r.b.n,.string r.b.s,.slice A2 r.b.ks.length c2]/\PrR w Any r A1 c1 A2 c2:=by
 have hts:=DataW.trod_struct Tryz.underlying75 h;obtain⟨xs,n,hfu,hx,hcl,hxl,hg⟩:=hts;subst hx;rw[zuS]at hcl
 match cs,hcl with
 | [c0,c1,c2,c3,c4,c5],_ =>
 match xs,hxl with
 | [y0,y1,y2],_ =>
 have g0:=hg 0 _ rfl;have g1:=hg 1 _ rfl;have g2:=hg 2 _ rfl;have hw1:∀q∈y1.1.weights Tryz.prog 22,q<=reachBytes:=fun q hq=>by
  refine hw q ?_;simp only[List.map_cons,List.map_nil,DataW.weights,Tryz.underlying75];simp only[DataW.weightsEach,List.map_cons,List.map_nil,List.mem_append];exact .inr (.inl hq)
 have hw2:∀q∈y2.1.weights Tryz.prog 41,q<=reachBytes:=fun q hq=>by
  refine hw q ?_;simp only[List.map_cons,List.map_nil,DataW.weights,Tryz.underlying75];simp only[DataW.weightsEach,List.map_cons,List.map_nil,List.mem_append];exact .inr (.inr (.inl hq))
 obtain⟨s,e0,_,ws⟩:=DataW.trod_string Tryz.underlying9 g0;obtain⟨A1,ps,k1,e1,hrow,hlp,hlc⟩:=zqo g1 hw1;obtain⟨t,u0,u1,u2,u3,e2,hn,_,_⟩:=zqp _ _ _ g2 hw2;obtain⟨A2,k2,rfl,rfl,rfl,rfl,hn'⟩:=zr5 hn;injection e0 with e0;injection e1 with e1;change List.take (Tryz.prog.cellsOf 41) [c2,c3,c4,c5]=_ at e2;rw[znc]at e2;simp only[List.take_succ_cons,List.take_zero,List.cons.injEq,and_true]at e2;obtain⟨rfl,rfl,rfl,rfl⟩:=e2;subst e0 e1;exact⟨⟨s,ps,t⟩,A1,k1,A2,k2,rfl,ws,hrow,hlp,hlc,hn'⟩
theorem zsN{fuel:Nat}{cs:List Value}{x:DataW H×List MemPlace}(h:DataW.trod enc Tryz.prog w 0 (fun _=>true) held fuel 38 cs=some x)(hw:∀q∈x.1.weights Tryz.prog 38,q<=reachBytes) :
  ∃(A:Option Addr) (ps:List PR) (c:Nat),cs=[.slice A ps.length c]/\RowP w Any A ps/\ps.length<=LV/\ps.length<=c:=by
 rcases zr0 Tryz.underlying38 zuS zyV h hw with rfl|⟨a,len,cap,rfl,hl,hcap,hat⟩
 ·exact⟨none,[],0,rfl,fun i hi=>absurd hi (by simp),Nat.zero_le _,Nat.zero_le _⟩
 ·obtain⟨ps,hvl,hvs⟩:=zoz (n:=len) (P:=fun i (r:PR)=>∃A1 c1 A2 c2,w.cells? 0 (a.add (i*6)) 6=some [.string r.s,.slice A1 r.ps.length c1,.int .u8 r.b.k,.int .i64 r.b.n,.string r.b.s,.slice A2 r.b.ks.length c2]/\PrR w Any r A1 c1 A2 c2) fun i hi=>by
   obtain⟨cs',y,n',hcs,ht,hwy⟩:=hat i hi;obtain⟨r,A1,c1,A2,c2,rfl,hr⟩:=ztW ht hwy;exact⟨r,A1,c1,A2,c2,hcs,hr⟩
  refine⟨some a,ps,cap,by rw[hvl],fun i hi=>?_,by unfold LV;unfold reachBytes at hcap;omega,by omega⟩;obtain⟨A1,c1,A2,c2,hc,hr⟩:=hvs i hi;obtain⟨_,_,hcell⟩:=World.cells?_some hc;refine⟨a,A1,c1,A2,c2,rfl,trivial,⟨?_,?_,?_,?_,?_,?_⟩,hr⟩
  ·have:=hcell 0 (by omega);simpa[Addr.add]using this
  ·have:=hcell 1 (by omega);simpa[Addr.add]using this
  ·have:=hcell 2 (by omega);simpa[Addr.add]using this
  ·have:=hcell 3 (by omega);simpa[Addr.add]using this
  ·have:=hcell 4 (by omega);simpa[Addr.add]using this
  ·have:=hcell 5 (by omega);simpa[Addr.add]using this
theorem ztV{fuel:Nat}{cs:List Value}{x:DataW H×List MemPlace}(h:DataW.trod enc Tryz.prog w 0 (fun _=>true) held fuel 43 cs=some x)(hw:∀q∈x.1.weights Tryz.prog 43,q<=reachBytes) :
  ∃(p:PG) (A1:Option Addr) (c1:Nat) (A2:Option Addr) (c2:Nat) (A3:Option Addr) (c3:Nat),cs=[.slice A1 p.vs.length c1,.slice A2 p.prs.length c2,.int .u8 p.m.k,.int .i64 p.m.n,.string p.m.s,.slice A3 p.m.ks.length c3]/\PgR w Any p A1 c1 A2 c2 A3 c3:=by
 have hts:=DataW.trod_struct Tryz.underlying43 h;obtain⟨xs,n,hfu,hx,hcl,hxl,hg⟩:=hts;subst hx;rw[zyT]at hcl
 match cs,hcl with
 | [c0,c1,c2,c3,c4,c5],_ =>
 match xs,hxl with
 | [y0,y1,y2],_ =>
 have g0:=hg 0 _ rfl;have g1:=hg 1 _ rfl;have g2:=hg 2 _ rfl;have hw0:∀q∈y0.1.weights Tryz.prog 22,q<=reachBytes:=fun q hq=>by
  refine hw q ?_;simp only[List.map_cons,List.map_nil,DataW.weights,Tryz.underlying43];simp only[DataW.weightsEach,List.map_cons,List.map_nil,List.mem_append];exact .inl hq
 have hw1:∀q∈y1.1.weights Tryz.prog 38,q<=reachBytes:=fun q hq=>by
  refine hw q ?_;simp only[List.map_cons,List.map_nil,DataW.weights,Tryz.underlying43];simp only[DataW.weightsEach,List.map_cons,List.map_nil,List.mem_append];exact .inr (.inl hq)
 have hw2:∀q∈y2.1.weights Tryz.prog 41,q<=reachBytes:=fun q hq=>by
  refine hw q ?_;simp only[List.map_cons,List.map_nil,DataW.weights,Tryz.underlying43];simp only[DataW.weightsEach,List.map_cons,List.map_nil,List.mem_append];exact .inr (.inr (.inl hq))
 obtain⟨A1,vs,k1,e0,hrow,hlv,hlvc⟩:=zqo g0 hw0;obtain⟨A2,ps,k2,e1,wh,hlp,hlpc⟩:=zsN g1 hw1;obtain⟨t,u0,u1,u2,u3,e2,hn,_,_⟩:=zqp _ _ _ g2 hw2;obtain⟨A3,k3,rfl,rfl,rfl,rfl,hn'⟩:=zr5 hn;injection e0 with e0;injection e1 with e1;change List.take (Tryz.prog.cellsOf 41) [c2,c3,c4,c5]=_ at e2;rw[znc]at e2;simp only[List.take_succ_cons,List.take_zero,List.cons.injEq,and_true]at e2;obtain⟨rfl,rfl,rfl,rfl⟩:=e2;subst e0 e1;exact⟨⟨vs,ps,t⟩,A1,k1,A2,k2,A3,k3,rfl,hrow,hlv,hlvc,wh,hlp,hlpc,hn'⟩
end
theorem zye{H:Type}{enc:TypeId×Value->H}{W:World}{base:Nat}{v:Value}{d:DataW H}{p:List MemPlace}(hok:Value.okWide Tryz.prog W .any base 43 v)
  (h:DataW.Trod enc Tryz.prog W 0 (fun _=>true) true 43 v d p)(hw:∀n∈d.weights Tryz.prog 43,n<=reachBytes):∃g,PV W Any g v:=by
 obtain⟨cs,rfl,hcs⟩:=okWide_struct Tryz.underlying43 hok;obtain⟨fuel,hf⟩:=h;obtain⟨g,A1,c1,A2,c2,A3,c3,e,hr⟩:=ztV hf hw;refine⟨g,A1,c1,A2,c2,A3,c3,?_,hr⟩;have:cs = #[.slice A1 g.vs.length c1,.slice A2 g.prs.length c2,.int .u8 g.m.k,.int .i64 g.m.n,.string g.m.s,.slice A3 g.m.ks.length c3]:=by
  apply Array.ext';simpa[Value.cells]using e
 rw[this]
section
variable {H:Type} {enc:TypeId×Value->H} {w:World} {held:Bool}
instance:Inhabited (List Int):=⟨[]⟩
end
theorem zwR:Tryz.prog.cellsOf 24=3:=by kernel_rfl
theorem zzV{H:Type}{enc:TypeId×Value->H}{W:World}{base:Nat}{v:Value}{d:DataW H}{p:List MemPlace}(hok:Value.okWide Tryz.prog W .any base 24 v)
  (h:DataW.Trod enc Tryz.prog W 0 (fun _=>true) true 24 v d p):∃x:BX,v=.agg #[.int .i64 x.v,.int .i64 x.l,.int .i64 x.i]/\(-9223372036854775808<=x.v/\x.v<=9223372036854775807)/\(-9223372036854775808<=x.l/\x.l<=9223372036854775807)/\(-9223372036854775808<=x.i/\x.i<=9223372036854775807):=by
 obtain⟨cs,rfl,hcs⟩:=okWide_struct Tryz.underlying24 hok;obtain⟨fuel,hf⟩:=h;have hts:=DataW.trod_struct Tryz.underlying24 hf;obtain⟨xs,n,hfu,hx,hcl,hxl,hg⟩:=hts;rw[zwR]at hcl;obtain⟨cs⟩:=cs;simp only[Value.cells]at hcl hg
 match cs,hcl with
 | [c0,c1,c2],_ =>
 match xs,hxl with
 | [y0,y1,y2],_ =>
 have g0:=hg 0 _ rfl;have g1:=hg 1 _ rfl;have g2:=hg 2 _ rfl;obtain⟨m0,e0,_,w0⟩:=DataW.trod_int Tryz.underlying3 g0;obtain⟨m1,e1,_,w1⟩:=DataW.trod_int Tryz.underlying3 g1;obtain⟨m2,e2,_,w2⟩:=DataW.trod_int Tryz.underlying3 g2;injection e0 with e0;injection e1 with e1;injection e2 with e2;subst e0 e1 e2;simp[Lit.wf,IntKind.min,IntKind.max,IntKind.signed,IntKind.bits]at w0 w1 w2;exact⟨⟨m0,m1,m2⟩,rfl,⟨by simp only;omega,by simp only;omega⟩,⟨by simp only;omega,by simp only;omega⟩,⟨by simp only;omega,by simp only;omega⟩⟩
end
section
open Go Go.RowKit Go.ChangeShapes Go.WideShapes Go.ChangeAt
section
variable {H:Type} {enc:TypeId×Value->H} {P:Program} {w:World} {base:Nat} {spare:Nat->Bool} {held:Bool}
theorem zq1{t t' t'' t3 t4:TypeId}{v v' v'' v3 v4:Value}{d d' d'' d3 d4:DataW H}{p p' p'' p3 p4:List MemPlace}(h:DataW.Trod enc P w base spare held t v d p)(h':DataW.Trod enc P w base spare held t' v' d' p')
  (h'':DataW.Trod enc P w base spare held t'' v'' d'' p'')(h3:DataW.Trod enc P w base spare held t3 v3 d3 p3)(h4:DataW.Trod enc P w base spare held t4 v4 d4 p4):DataW.TrodAll enc P w base spare held [t,t',t'',t3,t4] [v,v',v'',v3,v4] [d,d',d'',d3,d4] (p++(p'++(p''++(p3++p4)))):=⟨p,p'++(p''++(p3++p4)),h,trodAll_mk4 h' h'' h3 h4,rfl⟩
end
section
variable {H:Type} {enc:TypeId×Value->H} {P:Program} {w:World} {base:Nat} {spare:Nat->Bool} {held:Bool}
theorem zqZ{t t' t'' t3 t4 t5:TypeId}{args:Array Value}{ds:List (DataW H)}{ps:List MemPlace}(h:DataW.TrodAll enc P w base spare held [t,t',t'',t3,t4,t5] args.toList ds ps) :
  ∃v v' v'' v3 v4 v5 d d' d'' d3 d4 d5 p p' p'' p3 p4 p5,args = #[v,v',v'',v3,v4,v5]/\ds=[d,d',d'',d3,d4,d5]/\ps=p++p'++p''++p3++p4++p5/\DataW.Trod enc P w base spare held t v d p/\DataW.Trod enc P w base spare held t' v' d' p'/\DataW.Trod enc P w base spare held t'' v'' d'' p''/\DataW.Trod enc P w base spare held t3 v3 d3 p3/\DataW.Trod enc P w base spare held t4 v4 d4 p4/\DataW.Trod enc P w base spare held t5 v5 d5 p5:=by
 obtain⟨v,vs,d,ds',p,q,hargs,rfl,rfl,hd,hrest⟩:=trodAll_cons h;obtain⟨v',vs',d',ds'',p',q',rfl,rfl,rfl,hd',hrest'⟩:=trodAll_cons hrest;obtain⟨v'',vs'',d'',ds''',p'',q'',rfl,rfl,rfl,hd'',hrest''⟩:=trodAll_cons hrest';obtain⟨v3,vs3,d3,ds3,p3,q3,rfl,rfl,rfl,hd3,hrest3⟩:=trodAll_cons hrest'';obtain⟨v4,vs4,d4,ds4,p4,q4,rfl,rfl,rfl,hd4,hrest4⟩:=trodAll_cons hrest3;obtain⟨v5,vs5,d5,ds5,p5,q5,rfl,rfl,rfl,hd5,hrest5⟩:=trodAll_cons hrest4;obtain⟨rfl,rfl,rfl⟩:=trodAll_nil hrest5;exact⟨v,v',v'',v3,v4,v5,d,d',d'',d3,d4,d5,p,p',p'',p3,p4,p5,by cases args;simp_all,rfl,by simp,hd,hd',hd'',hd3,hd4,hd5⟩
theorem zq0{t t' t'' t3 t4 t5:TypeId}{v v' v'' v3 v4 v5:Value}{d d' d'' d3 d4 d5:DataW H}{p p' p'' p3 p4 p5:List MemPlace}(h:DataW.Trod enc P w base spare held t v d p)(h':DataW.Trod enc P w base spare held t' v' d' p')
  (h'':DataW.Trod enc P w base spare held t'' v'' d'' p'')(h3:DataW.Trod enc P w base spare held t3 v3 d3 p3)(h4:DataW.Trod enc P w base spare held t4 v4 d4 p4)(h5:DataW.Trod enc P w base spare held t5 v5 d5 p5):DataW.TrodAll enc P w base spare held [t,t',t'',t3,t4,t5] [v,v',v'',v3,v4,v5] [d,d',d'',d3,d4,d5] (p++(p'++(p''++(p3++(p4++p5))))):=⟨p,p'++(p''++(p3++(p4++p5))),h,zq1 h' h'' h3 h4 h5,rfl⟩
end
end
end Go.Proofs.YtembgnhbpmfhpaaGreat
