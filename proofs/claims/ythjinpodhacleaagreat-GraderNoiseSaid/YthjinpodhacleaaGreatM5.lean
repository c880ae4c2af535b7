
/-
  Texts of the proof, put together without their remarks: St, In, Tq, Stf, Si, Sj, Sk, Kg, Rcp, Scl, Ip.
-/
import Derived.Test.YthjinpodhacleaaGreatM4
import Derived.Deep.OwnRows
import Derived.Shelf.Slices.Cells
import Derived.Shelf.Spec.SlicesInsertGrow
set_option linter.unusedSimpArgs false
set_option linter.unusedVariables false
set_option maxHeartbeats 8000000
set_option maxRecDepth 100000
namespace Go.Proofs.YthjinpodhacleaaGreat
open Tryz
section
open Go Go.RowKit
def zlR(vc:Value)(fc:Nat->Value)(ls:List (List Int))(j:Nat):Option Nat->RowD
 | none=>⟨vc,42,1,ls.length,(List.range ls.length).map fun i=>if i<j then fc i else zn⟩
 | some i=>if i<j then⟨fc i,3,1,(ls.getD i []).length,zki (ls.getD i [])⟩else nilR
inductive SI where
 | all|el (i:Nat)|inp|out
 deriving DecidableEq
def zof(vc vi vo:Value)(fc:Nat->Value)(s:SS):SI->RowD
 | .all=>⟨vc,42,1,s.cells.length,(List.range s.cells.length).map fc⟩
 | .el i=>if i<s.cells.length then⟨fc i,3,1,(s.cells.getD i []).length,zki (s.cells.getD i [])⟩else nilR
 | .inp=>⟨vi,3,1,s.tin.length,zki s.tin⟩
 | .out=>⟨vo,3,1,s.tout.length,zki s.tout⟩
def SS.I(s:SS):Prop:=(∀l∈s.cells,∀x∈l,I64 x)/\(∀x∈s.tin,I64 x)/\∀x∈s.tout,I64 x
def OwnS(W:World)(n0:Nat)(s:SS)(v:Value):Prop:=∃vc vi vo fc,v=.agg #[vc,vi,vo]/\Rws W n0 (zof vc vi vo fc s)/\s.I
theorem znw(z:Value)(n:Nat):madeCells #[z] n=Array.replicate n z:=by
 unfold madeCells;refine Array.ext zS fun i h1 h2=>?_;simp[Nat.mod_one]
theorem zuQ(w:World)(fc:Nat->Value)(ls:List (List Int))(n:Nat)(hn:ls.length=n)(hm:n<=maxLen):Rws (w.alloc (.cells (madeCells #[zn] n) 42)) w.heap.size (zlR (.slice (some ⟨w.heap.size,0,none⟩) n n) fc ls 0):=by
 refine⟨fun i=>?_,fun i j b hij hi hj=>?_⟩
 ·cases i with
  | none =>
   refine⟨by simp[zlR],.inr ⟨w.heap.size,n,madeCells #[zn] n,by simp[zlR,hn],zl,heap_alloc_new w _,by simp[zlR,hn],hm,by simp[zlR,size_madeCells],?_⟩⟩;rw[znw];simp only[zlR,hn,Array.toList_replicate,Nat.mul_one,List.take_replicate,Nat.min_self,Nat.not_lt_zero,if_false];exact List.ext_getElem zS fun i h1 h2=>zS
  | some i=>simp only[zlR,Nat.not_lt_zero,if_false];exact zmb _ _
 ·cases i with
  | some i=>simp[zlR,nilR,Value.ownBlock]at hi
  | none =>
   cases j with
   | none=>exact hij rfl
   | some j=>simp[zlR,nilR,Value.ownBlock]at hj
theorem ztF{W W2:World}{n1 g n c j:Nat}{fc:Nat->Value}{ls:List (List Int)}(h:Rws W n1 (zlR (.slice (some ⟨g,0,none⟩) n c) fc ls j))(hb:zw W W2)(hj:j<ls.length)(l:List Int)(hl:ls[j]=l)(v:Value)(ho:W2.ownsRow W.heap.size 3 1 v l.length (zki l)) :
  Stp n1 (zlR (.slice (some ⟨g,0,none⟩) n c) fc ls j) W (zlR (.slice (some ⟨g,0,none⟩) n c) (fun i=>if i=j then v else fc i) ls (j+1)) (W2.setCell ⟨g,j,none⟩ v):=by
 have hn:n1<=W.heap.size:=by have:=h.lt none g rfl;omega
 have s1:=Stp.upd (i:=some j) (r:=⟨v,3,1,l.length,zki l⟩) h (Chg.of_below hb) (zlu ho hn) (fun b e=>.inr (ho.lt b e).1);have s2:=Stp.set (i:=none) s1.rws (g:=g) (by rw[zkm zS];rfl) (o:=j) (by rw[zkm zS];simpa[zlR]using hj) v;refine(s1.trans s2).cast ?_;funext q
 cases q with
 | none =>
  rw[zky,zkm zS];simp only[zlR,RowD.mk.injEq,true_and];refine List.ext_getElem zS fun i h1 h2=>?_;simp only[List.getElem_set,List.getElem_map,List.getElem_range];by_cases e:j=i
  ·subst e;simp
  ·rw[if_neg e];have e':i≠j:=fun h=>e h.symm;by_cases h3:i<j
   ·rw[if_pos h3,if_pos zO,if_neg e']
   ·rw[if_neg h3,if_neg zO]
 | some i =>
  rw[zkm zS];by_cases e:i=j
  ·subst e;rw[zky];simp[zlR,hj,hl]
  ·rw[zkm (by simpa using e)];simp only[zlR,e,if_false];by_cases h3:i<j
   ·rw[if_pos h3,if_pos zO]
   ·rw[if_neg h3,if_neg zO]
theorem zxh{W1 W2 W3:World}{n1:Nat}{vc vi vo:Value}{fc:Nat->Value}{s:SS}(h:Rws W1 n1 (zlR vc fc s.cells s.cells.length))(hn:n1<=W1.heap.size)(b2:zw W1 W2)(o2:W2.ownsRow W1.heap.size 3 1 vi s.tin.length (zki s.tin))(b3:zw W2 W3)
  (o3:W3.ownsRow W2.heap.size 3 1 vo s.tout.length (zki s.tout)):Rws W3 n1 (zof vc vi vo fc s):=by
 have h3:=(h.later b2).later b3;have hs2:=b2.size;have l1:∀i b,(zlR vc fc s.cells s.cells.length i).v.ownBlock=some b->b<W1.heap.size:=fun i b e=>(h.lt i b e).2;have l2:∀b,vi.ownBlock=some b->W1.heap.size<=b/\b<W2.heap.size:=fun b e=>o2.lt b e;have l3:∀b,vo.ownBlock=some b->W2.heap.size<=b:=fun b e=>(o3.lt b e).1;have eo:zof vc vi vo fc s .all=zlR vc fc s.cells s.cells.length none:=by
  simp only[zof,zlR,RowD.mk.injEq,true_and];refine List.map_congr_left fun i hi=>?_;rw[if_pos (by simpa using hi)]
 refine⟨fun i=>?_,fun i j b hij h1 h2=>?_⟩
 ·cases i with
  | all=>rw[eo];exact h3.row none
  | el i=>exact h3.row (some i)
  | inp=>exact zlu (zkK o2 b3) hn
  | out=>exact zlu o3 zO
 ·have key:∀i b,(zof vc vi vo fc s i).v.ownBlock=some b->(∃q,i=(match q with|none=>SI.all|some k=>SI.el k)/\(zlR vc fc s.cells s.cells.length q).v.ownBlock=some b)\/(i=.inp/\vi.ownBlock=some b)\/(i=.out/\vo.ownBlock=some b):=fun i b e=>by
   cases i with
   | all=>exact .inl ⟨none,rfl,by rw[eo]at e;exact e⟩
   | el i=>exact .inl ⟨some i,rfl,e⟩
   | inp=>exact .inr (.inl ⟨rfl,e⟩)
   | out=>exact .inr (.inr ⟨rfl,e⟩)
  rcases key i b h1 with⟨q,e1,a1⟩|⟨e1,a1⟩|⟨e1,a1⟩<;>rcases key j b h2 with⟨q',e2,a2⟩|⟨e2,a2⟩|⟨e2,a2⟩
  ·exact h.sep q q' b (fun e=>hij (by rw[e1,e2,e])) a1 a2
  ·have:=l1 q b a1;have:=l2 b a2;omega
  ·have:=l1 q b a1;have:=l3 b a2;omega
  ·have:=l2 b a1;have:=l1 q' b a2;omega
  ·exact hij (e1.trans e2.symm)
  ·have:=l2 b a1;have:=l3 b a2;omega
  ·have:=l3 b a1;have:=l1 q' b a2;omega
  ·have:=l3 b a1;have:=l2 b a2;omega
  ·exact hij (e1.trans e2.symm)
theorem OwnS.sv{W:World}{n0:Nat}{s:SS}{v:Value}(h:OwnS W n0 s v)(hl:s.Lim):SV W Any s v:=by
 obtain⟨vc,vi,vo,fc,rfl,hr,h1,h2,h3⟩:=h;obtain⟨AI,cI,e2,k2,r2⟩:=zrX (hr.row .inp) h2;obtain⟨AO,cO,e3,k3,r3⟩:=zrX (hr.row .out) h3;change vi=_ at e2;change vo=_ at e3;have key:∃A c,vc=.slice A s.cells.length c/\s.cells.length<=c/\zn5 W Any A s.cells:=by
  rcases Nat.eq_zero_or_pos s.cells.length with h0|h0
  ·obtain⟨A,c,e1,hc,_⟩:=zkh (hr.row .all);exact⟨A,c,e1,hc,fun i hi=>zO⟩
  ·obtain⟨g,c,e1,hc,_,hcell⟩:=zlg (hr.row .all) h0;refine⟨_,c,e1,hc,fun i hi=>?_⟩;have aT:=hr.row (.el i);simp only[zof,hi,if_true,List.getD_eq_getElem?_getD,List.getElem?_eq_getElem hi,Option.getD_some]at aT;obtain⟨A',c',e4,k4,r4⟩:=zrX aT (h1 _ (List.getElem_mem hi));have ha:(⟨g,0,none⟩:Addr).add i=⟨g,i,none⟩:=by unfold Addr.add;split<;>simp_all
   refine⟨⟨g,0,none⟩,A',c',rfl,trivial,?_,k4,r4⟩;rw[ha,<-e4,hcell i (by show i<s.cells.length*1;omega)];simp[zof,hi]
 obtain⟨A,c,e1,k1,r1⟩:=key;exact⟨A,c,AI,cI,AO,cO,by rw[e1,e2,e3],r1,r2,r3,k1,k2,k3,hl⟩
def ST.state(S:ST):SS:=⟨(S.base.cs.take (S.base.cs.length-S.base.loc)).map S.cell,S.tin,S.tout⟩
theorem zrS{S:ST}(h:S.WF):S.state.I/\S.state.Lim/\∀l∈S.state.cells,l.length<=1000:=by
 obtain⟨kd,h1,_,_⟩:=h.ex;have hc:∀l∈S.state.cells,l.length<=1000/\∀x∈l,I64 x:=fun l hl=>by
  simp only[ST.state,List.mem_map]at hl;obtain⟨c,hc,rfl⟩:=hl;exact h.cells c (h1.num c (List.mem_of_mem_take hc))
 have:=h1.len;have:=h1.lim;have:=h.tin.1;have:=h.tout.1;refine⟨⟨fun l hl=>(hc l hl).2,h.tin.2,h.tout.2⟩,⟨?_,fun l hl=>?_,?_,?_⟩,fun l hl=>(hc l hl).1⟩
 ·simp only[ST.state,List.length_map,List.length_take,LI];omega
 ·have:=(hc l hl).1;simp only[LI];omega
 ·simp only[ST.state,LI];omega
 ·simp only[ST.state,LI];omega
theorem zuL:(prog.info? 42).map (fun i=>(i.zero,i.size,i.bytes))=some (some zn,1,24):=zK
theorem zL1:IsFn prog 109 f109:=⟨func109,zK,zK⟩
theorem zLe:IsFn prog 110 f110:=⟨func110,zK,zK⟩
theorem zKm(A B C:Option Addr)(l c m d n e:Nat)(w:World):(Instr.build 44 #[(0,.slice A l c),(1,.slice B m d),(2,.slice C n e)]).run prog w=.ok (.agg #[.slice A l c,.slice B m d,.slice C n e]) w:=zK
theorem zwv{W:World}{n0:Nat}{P:Ph}{S:ST}(h:SR W n0 P S):Calls prog 77 #[.pointer (some ⟨P.sb,0,none⟩)] W fun e W'=>∃v,e=.returned v/\OwnS W' W.heap.size S.state v/\zw W W':=by
 obtain⟨kd,hw,_,_⟩:=h.wf.ex;obtain⟨m,hm⟩:∃m,S.base.cs.length=m+S.base.loc:=⟨S.base.cs.length-S.base.loc,by have:=hw.len;have:=hw.loc;omega⟩
 have hlim:=hw.lim;have hlen:=hw.len;obtain⟨A,c,yJ,-,-⟩:=zkh (h.rws.row .bc);change P.vC=.slice A S.base.cs.length c at yJ;obtain⟨hI,hL,hL2⟩:=zrS h.wf;have HI:=zh hI;have HL2:=zh hL2;have HNUM:=zh hw.num;have hst:S.state.cells.length=m:=by simp[ST.state,hm]
 have HSG:=zh (show ∀j (hj:j<m),∃hj':j<S.base.cs.length,∃h2:j<S.state.cells.length,S.state.cells[j]=S.cell S.base.cs[j]from fun j hj=>⟨zO,zO,by simp[ST.state]⟩);have HST:=zh hst;have HS:=zh h;obtain⟨lc,hlc⟩:=zX (S.base.loc);rw[hlc]at hm;have hx:W.cell? ⟨P.sb,1,none⟩=some (.slice A (m+lc) c):=by rw[<-hm,<-yJ];exact zc h.box rfl
 have hy:W.cell? ⟨P.sb,2,none⟩=some (zi lc):=by rw[<-hlc];exact zc h.box rfl
 have HX:=zh hx;have HM:=zh hm;have qQ:=zh yJ;have x1:∀o,(W.alloc o).cell? ⟨P.sb,1,none⟩=some (.slice A (m+lc) c):=fun o=>zkj hx o;have x2:∀o,(W.alloc o).cell? ⟨P.sb,2,none⟩=some (zi lc):=fun o=>zkj hy o;have hmk:=fun W=>run_make_row' (P:=prog) 41 42 zn 24 underlying41 zuL rfl .i64 .i64 m zO zO W;have sG:m<=4398046511000:=zO
 clear h hw hm yJ hI hL hL2 hst hlim hlen hx hy hlc;go_enter func77,ntmps77;go_wp2_with fail
 go_quiet (fail)
 go_wp2_with fail;obtain⟨W0,hW0⟩:=zX ((W.alloc (.cells #[zn,zn,zn] 44)).drewN nq);have HB0:=zh (show zw W W0 from hW0▸zkM (zkb zr _) nq);have uM:=zh (show W0.heap[W.heap.size]?=some (.cells #[zn,zn,zn] 44 (0,0)) by
  rw[<-hW0];exact heap_alloc_new W _)
 have hz0:W0.heap.size=W.heap.size+1:=by rw[<-hW0];show(W.alloc _).heap.size=_;simp
 have HRW0:=zh (zuQ W0 (fun _=>zn) S.state.cells m HST.out (by unfold maxLen;omega));rw[hW0];rw[hz0]at HRW0;have HZ0:=zh hz0;clear hW0 x1 x2 hmk nq hz0
 go_loopw [25] (fun i wr=>∃j:Nat,j<=m/\i=zi j/\Hid (zw W0 wr)/\∃fc,Hid (Rws wr (W.heap.size+1) (zlR (.slice (some ⟨W.heap.size+1,0,none⟩) m m) fc S.state.cells j))) (fun i _=>m-(intOf i).toNat)
 case atStart=>exact⟨0,Nat.zero_le _,rfl,zh (zkb zr _),_,HRW0⟩
 case round =>
  obtain⟨j,hj,rfl,ag,fc,HRW⟩:=hrel;have uE:=zh ((HS.out.later HB0.out).later ag.out);by_cases hlt:j<m
  ·obtain⟨hj',hj2,hjc⟩:=HSG.out j hlt;obtain⟨id,hid⟩:=zX (S.base.cs[j]);have aH:id<S.nc:=by rw[<-hid];exact HNUM.out _ (List.getElem_mem hj')
   obtain⟨gc,c2,hcc,-,-,hcell⟩:=zlg (uE.out.rws.row .bc) (by show 0<S.base.cs.length;omega);change P.vC=.slice _ S.base.cs.length c2 at hcc;have y0:wr.cell? ⟨P.sb,1,none⟩=some (.slice (some ⟨gc,0,none⟩) (m+lc) c2):=by rw[<-HM.out,<-hcc];exact zc uE.out.box rfl
   have y1:wr.cell? ⟨gc,j,none⟩=some (.pointer (some ⟨P.cb id,0,none⟩)):=by rw[hcell j (by show j<S.base.cs.length*1;omega)];simp[rows,ptrs,hj',hid]
   obtain⟨A3,c3,hci,hc3,aT⟩:=uE.out.items aH;have y2:wr.cell? ⟨P.cb id,0,none⟩=some (.slice A3 (S.cell id).length c3):=by rw[<-hci];exact zc (uE.out.cbox aH) rfl
   obtain⟨l,hl⟩:=zX (S.cell id);rw[hl]at y2 aT;have HL:=zh (show S.state.cells[j]=l by rw[hjc,hid,hl]);have hll:l.length<=1000:=by rw[<-HL.out];exact HL2.out _ (List.getElem_mem hj2)
   have dJ:=zh (zkT l A3 c3 Any wr aT (by unfold LI;omega));have hj1:(j:Int)<(m:Int):=zO
   have qI:(j:Int)<(m:Int)+(lc:Int):=zO
   have H2:=zh hj2;clear hcell hcc hci aT hc3 hid hl hjc hj';go_wp2_with fail;refine dJ.out.mono ?_;rintro e9 w2 ⟨v2,rfl,ho2,-,hb2⟩;obtain⟨A4,c4,rfl,-,-⟩:=zkh ho2;have hrl:=HRW.out.later hb2;have u0:w2.cell? ⟨W.heap.size+1,j,none⟩=some zn:=hrl.cell none rfl (by have:=HST.out;simp[zlR,this,hlt]);have u1:w2.frozen? ⟨W.heap.size+1,j,none⟩=false:=hrl.frozen none rfl j;have s1:=ztF HRW.out hb2 H2.out l HL.out _ ho2;have HR2:=zh s1.rws;have HB2:=zh (show zw W0 (w2.setCell ⟨W.heap.size+1,j,none⟩ (.slice A4 l.length c4))from ag.out.trans (s1.chg.below ag.out.size fun b ⟨q,hq⟩=>by have:=(HRW.out.lt q b hq).1;have:=HZ0.out;omega));clear ho2 hb2 s1 hrl;go_wp2_with fail
   go_roundw
   case rel=>exact⟨j+1,zO,by go_num,HB2,_,HR2⟩
   case measure=>simp[intOf];omega
  ·obtain rfl:j=m:=zO
   have hj1:¬ (j:Int)<(j:Int):=zO
   have y4:wr.cell? ⟨P.sb,4,none⟩=some (.pointer (some ⟨P.tb,0,none⟩)):=zc uE.out.box rfl;have hbss:=zKm;go_upto_region 10 with fail;obtain⟨S1,hS1⟩:∃S1:World->Prop,S1=fun w':World=>w'.cell? ⟨P.sb,4,none⟩=some (.pointer (some ⟨P.tb,0,none⟩)):=⟨_,rfl⟩
   have wM:=zh (show ∀W W',S1 W->zw W W'->S1 W' by rw[hS1];exact fun W W' h hb=>zb hb h);have hSS:zW S1 zU wr.drew:=⟨by rw[hS1];exact y4,trivial⟩
   refine wp_region_noPanic ?_;refine zG hSS 12 ?_;subst hS1;refine zT 0 hSS ?_;refine zT 1 hSS ?_;refine zT 2 hSS ?_;refine zT 3 hSS ?_;refine zT 4 hSS ?_;refine zT 6 hSS ?_;refine zT 7 hSS ?_;refine zT 8 hSS ?_;refine zT 9 hSS ?_;have had:Calls prog 109 [.pointer (some ⟨P.tb,0,none⟩)].toArray wr.drew fun e w'=>∃u,e=.returned u/\w'.ownsRow wr.drew.heap.size 3 1 u S.tin.length (zki S.tin)/\Below wr.drew.heap.size wr.drew w' :=
    (zKF (uE.out.later zr.drew)).mono fun e w' ⟨u,hu,h1,_,h2⟩=>⟨u,hu,h1,h2⟩
   refine zo 5 fun K hK=>?_;refine zke zR (.func 109) [.tmp 48] _ zR 109 _ zL1 zR _ zR _ had ?_;rintro v4 w4 ⟨eU,hb4⟩;obtain⟨A4,c4,rfl,-,-⟩:=zkh eU;have ja:=zh eU;have ay:=zh hb4;have jK:=zh (wM.out _ _ hSS.1 hb4);refine hK.out _ _ ⟨jK.out,trivial⟩ ?_;clear hK K hSS had eU hb4;(try simp only[zQ]);have had:Calls prog 110 [.pointer (some ⟨P.tb,0,none⟩)].toArray w4 fun e w'=>∃u,e=.returned u/\w'.ownsRow w4.heap.size 3 1 u S.tout.length (zki S.tout)/\zw w4 w' :=
    (zyz ((uE.out.later zr.drew).later ay.out)).mono fun e w' ⟨u,hu,h1,_,h2⟩=>⟨u,hu,h1,h2⟩
   refine zo 10 fun K hK=>?_;refine zke zR (.func 110) [.tmp 53] _ zR 110 _ zLe zR _ zR _ had ?_;rintro v5 w5 ⟨lH,hb5⟩;obtain⟨A5,c5,rfl,-,-⟩:=zkh lH;have iJ:=zh lH;have aS:=zh hb5;have wN:=zh (wM.out _ _ jK.out hb5);refine hK.out _ _ ⟨wN.out,trivial⟩ ?_;clear hK K had lH hb5;(try simp only[zQ]);refine zo 11 fun K hK=>?_;(try simp only[zA,zB,zC]);go_simp;refine hK.out _ _ ⟨wN.out,trivial⟩ ?_;clear hK K;(try simp only[zQ]);have hb5:zw W0 w5:=zka (zka ag.out.drew ay.out) aS.out;have kG:=zkc uM.out hb5;have r0:w5.cell? ⟨W.heap.size,0,none⟩=some zn:=zc kG rfl;have r1:w5.cell? ⟨W.heap.size,1,none⟩=some zn:=zc kG rfl;have r2:w5.cell? ⟨W.heap.size,2,none⟩=some zn:=zc kG rfl;have rf:∀o,w5.frozen? ⟨W.heap.size,o,none⟩=false:=fun o=>zf kG;refine zp 12 fun K hK=>?_
   (try simp only[zA,zB,zC]);go_simp;have hc6:Chg (fun b=>b=W.heap.size) w5 (((w5.setCell ⟨W.heap.size,0,none⟩ (.slice (some ⟨W.heap.size+1,0,none⟩) j j)).setCell ⟨W.heap.size,1,none⟩ (.slice A4 S.tin.length c4)).setCell ⟨W.heap.size,2,none⟩ (.slice A5 S.tout.length c5)) :=
    (((Chg.refl (fun b=>b=W.heap.size) w5).setCell (p:=⟨W.heap.size,0,none⟩) (.inl rfl) _).setCell (p:=⟨W.heap.size,1,none⟩) (.inl rfl) _).setCell (p:=⟨W.heap.size,2,none⟩) (.inl rfl) _
   have oo:=heap_setCell_same _ W.heap.size 2 _ _ (.slice A5 S.tout.length c5) (heap_setCell_same _ W.heap.size 1 _ _ (.slice A4 S.tin.length c4) (heap_setCell_same w5 W.heap.size 0 _ _ (.slice (some ⟨W.heap.size+1,0,none⟩) j j) kG));obtain⟨w6,mh⟩:=zX (((w5.setCell ⟨W.heap.size,0,none⟩ (.slice (some ⟨W.heap.size+1,0,none⟩) j j)).setCell ⟨W.heap.size,1,none⟩ (.slice A4 S.tin.length c4)).setCell ⟨W.heap.size,2,none⟩ (.slice A5 S.tout.length c5));rw[mh]at hc6 oo ⊢;have hsb:P.sb<W.heap.size:=(HS.out.rws.lt .sb P.sb rfl).2;have z0:w6.cell? ⟨W.heap.size,0,none⟩=some (.slice (some ⟨W.heap.size+1,0,none⟩) j j):=zc oo rfl;have z1:w6.cell? ⟨W.heap.size,1,none⟩=some (.slice A4 S.tin.length c4):=zc oo rfl;have z2:w6.cell? ⟨W.heap.size,2,none⟩=some (.slice A5 S.tout.length c5):=zc oo rfl;have hZ:=HZ0.out
   have df:Rws w6 (W.heap.size+1) (zof (.slice (some ⟨W.heap.size+1,0,none⟩) j j) (.slice A4 S.tin.length c4) (.slice A5 S.tout.length c5) fc S.state):=by
    have hrw:Rws wr (W.heap.size+1) (zlR (.slice (some ⟨W.heap.size+1,0,none⟩) j j) fc S.state.cells S.state.cells.length):=by rw[HST.out];exact HRW.out
    have h5:=zxh (s:=S.state) (vi:=.slice A4 S.tin.length c4) (vo:=.slice A5 S.tout.length c5) (hrw.later zr.drew) (by have:=ag.out.size;simp;omega) ay.out ja.out aS.out iJ.out;exact h5.chg hc6 fun i b hb e=>by have:=(h5.lt i b hb).1;omega
   have aX:=zh (show OwnS w6 W.heap.size S.state (.agg #[.slice (some ⟨W.heap.size+1,0,none⟩) j j,.slice A4 S.tin.length c4,.slice A5 S.tout.length c5])from⟨_,_,_,fc,rfl,df.mono (Nat.le_succ _),HI.out⟩);have jg:=zh (show zw W w6 by
    have b5:zw W w5:=HB0.out.trans (hb5.mono zO);exact b5.trans (hc6.below b5.size fun b hb=>zO))
   refine hK.out _ _ (zk2 hc6 wN.out fun e=>by have h9:P.sb=W.heap.size:=e;omega) ?_;clear hK K hc6 oo mh df kG r0 r1 r2 rf hb5;(try simp only[zQ]);refine zd ?_;refine NoPanic.normal ?_;go_wp2_with fail;exact bodyPost_ret (v:=.agg #[.slice (some ⟨W.heap.size+1,0,none⟩) j j,.slice A4 S.tin.length c4,.slice A5 S.tout.length c5]) (by simp[results,results77,go_sem,z0,z1,z2]) rfl ⟨_,rfl,aX.out,jg.out⟩
def zKZ:Go.Shelf.Ren:=⟨fun|23=>193|n=>n,fun|22=>42|3=>3|4=>4|0=>0|n=>n,fun|n=>n⟩
theorem zzQ:Go.Proofs.Lays2.n23 prog zKZ:={
 mixed:=zK
 f23:=func193.trans (congrArg some zK)
 t0:=underlying0
 a0:=isAgg0
 z0:=sizeOf0
 v0:=zeroValue0
 t3:=underlying3
 a3:=isAgg3
 z3:=sizeOf3
 v3:=zeroValue3
 t4:=underlying4
 a4:=isAgg4
 z4:=sizeOf4
 v4:=zeroValue4
 t22:=underlying42
 a22:=isAgg42
 z22:=sizeOf42
 v22:=zeroValue42
 i3:=by kernel_rfl }
def zqR:Go.Shelf.Ren:=⟨fun|21=>194|27=>195|28=>196|35=>197|39=>198|n=>n,fun|22=>42|3=>3|4=>4|0=>0|n=>n,fun|n=>n⟩
theorem zqf:Go.Proofs.Lays2.n21 prog zqR:={
 mixed:=zK
 f21:=func194.trans (congrArg some zK)
 f27:=func195.trans (congrArg some zK)
 f28:=func196.trans (congrArg some zK)
 f35:=func197.trans (congrArg some zK)
 f39:=func198.trans (congrArg some zK)
 t0:=underlying0
 a0:=isAgg0
 z0:=sizeOf0
 v0:=zeroValue0
 t3:=underlying3
 a3:=isAgg3
 z3:=sizeOf3
 v3:=zeroValue3
 t4:=underlying4
 a4:=isAgg4
 z4:=sizeOf4
 v4:=zeroValue4
 t22:=underlying42
 a22:=isAgg42
 z22:=sizeOf42
 v22:=zeroValue42
 i3:=by kernel_rfl }
theorem zld{g:Nat}{e:TypeId}:∀(vs:List Value) (o:Nat) (w:World) (cur:Array Value),w.heap[g]?=some (.cells cur e (0,0))->∃cur',(w.setCells g o vs).heap[g]?=some (.cells cur' e (0,0))/\cur'.size=cur.size
 | [],_,_,cur,h=>⟨cur,h,rfl⟩
 | v::vs,o,w,cur,h=>by
  obtain⟨cur',h1,h2⟩:=zld vs (o+1) (w.setCell ⟨g,o,none⟩ v) _ (heap_setCell_same w g o cur _ v h);exact⟨cur',h1,by rw[h2];simp⟩
theorem zlc(g:Nat):∀(vs:List Value) (o:Nat) (w:World),Chg (fun b=>b=g) w (w.setCells g o vs)
 | [],_,w=>Chg.refl _ w
 | v::vs,o,w=>((Chg.refl (fun b=>b=g) w).setCell (p:=⟨g,o,none⟩) (.inl rfl) v).trans (zlc g vs (o+1) (w.setCell ⟨g,o,none⟩ v))
theorem zlI{W:World}{base g cap n:Nat}{e:TypeId}{cur:Array Value}{xs:List Value}(hb:base<=g)(hg:W.heap[g]?=some (.cells cur e (0,0)))(hs:cur.size=cap)(hn:n<=cap)(hm:cap<=maxLen)(hx:xs.length=n)(hc:∀j u,xs[j]?=some u->W.cell? ⟨g,j,none⟩=some u) :
  W.ownsRow base e 1 (.slice (some ⟨g,0,none⟩) n cap) n xs:=by
 refine⟨zO,.inr ⟨g,cap,cur,rfl,hb,hg,hn,hm,zO,?_⟩⟩;refine List.ext_getElem (by simp;omega) fun j h1 h2=>?_;have:=hc j xs[j] (List.getElem?_eq_getElem h2);simp only[World.cell?,hg]at this;simp at this;rw[List.getElem_take];have h3:j<cur.size:=zO
 rw[Array.getElem?_eq_getElem h3]at this;simpa using this
theorem zm7{w:World}{g o:Nat}{vs:List Value}(h:∀j,j<vs.length->(w.cell? ⟨g,o+j,none⟩).isSome=true){k:Nat}{u:Value}(hk:o<=k)(hu:vs[k-o]?=some u):(w.setCells g o vs).cell? ⟨g,k,none⟩=some u:=by
 obtain⟨h1,h2⟩:=List.getElem?_eq_some_iff.1 hu;have:=World.cell?_setCells_in g vs o w h (k-o) h1;rw[show o+(k-o)=k by omega]at this;rw[this,h2]
theorem zl1{w:World}{g o:Nat}{vs:List Value}{k:Nat}(hk:k<o\/o+vs.length<=k):(w.setCells g o vs).cell? ⟨g,k,none⟩=w.cell? ⟨g,k,none⟩:=World.cell?_setCells_out g vs o w ⟨g,k,none⟩ fun _ _=>hk
theorem znq{w:World}{g o:Nat}{vs:List Value}(k:Nat)(hk:(w.cell? ⟨g,k,none⟩).isSome=true):((w.setCells g o vs).cell? ⟨g,k,none⟩).isSome=true:=by
 induction vs generalizing w o with
 | nil=>exact hk
 | cons v vs ih =>
  refine ih ?_;by_cases e:o=k
  ·subst e;obtain⟨u,hu⟩:=Option.isSome_iff_exists.1 hk;rw[World.cell?_setCell_same _ _ _ hu];rfl
  ·rw[World.cell?_setCell_other]
   ·exact hk
   ·intro h;injection h;omega
theorem ztn(w:World)(cs:Array Value)(E:TypeId)(j:Nat):(w.alloc (.cells cs E)).cell? ⟨w.heap.size,j,none⟩=cs[j]?:=by
 have h:=heap_alloc_new w (.cells cs E);simp only[World.cell?,h];simp
def InsP(W:World)(n0:Nat)(v:Value)(ys:List Int)(e:Ending)(W':World):Prop:=∃v',e=.returned v'/\W'.ownsRow n0 3 1 v' ys.length (zki ys)/\Chg (fun b=>v.ownBlock=some b) W W'/\∀b,v'.ownBlock=some b->v.ownBlock=some b\/W.heap.size<=b
theorem zrg(xs:List Int):∀u∈zki xs,u.oneCell'=true:=fun u hu=>by
 simp only[zki,List.mem_map]at hu;obtain⟨x,_,rfl⟩:=hu;rfl
theorem zkv(xs:List Int):(zki xs).length=xs.length:=by simp[zki]
theorem zmQ(xs ys:List Int):zki (xs++ys)=zki xs++zki ys:=by simp[zki]
theorem zuk{W:World}{n0:Nat}{v:Value}{xs:List Int}(h:W.ownsRow n0 3 1 v xs.length (zki xs))(i:Nat)(hi:i<=xs.length)(hl:xs.length<=4096)(hn0:n0<=W.heap.size)(x:Int)(vb:Nat)(hvb:W.heap[vb]?=some (.cells #[zi x] 3 (0,0)))(hne:v.ownBlock≠some vb) :
  Calls prog 194 #[v,zi i,.slice (some ⟨vb,0,none⟩) 1 1] W (InsP W n0 v (xs.take i++x::xs.drop i)):=by
 have hvs:∀j u,[Value.int .i64 x][j]?=some u->W.cell? ⟨vb,0+j,none⟩=some u:=fun j u hj=>by
  rw[Nat.zero_add];simp only[World.cell?,hvb];simpa using hj
 have hv1:∀u∈[Value.int .i64 x],u.oneCell'=true:=fun u hu=>by simp at hu;subst hu;rfl
 have hys:(xs.take i++x::xs.drop i).length=xs.length+1:=by simp;omega
 have hmax:maxLen=9223372036854775807:=rfl;have grow_end:∀(base:Option Addr) (c:Nat),xs.length<=c->c<xs.length+1->(base=none->xs.length=0)->(∀a,base=some a->∀j u,(zki xs)[j]?=some u->W.cell? (a.add j)=some u)->i=xs.length->v=.slice base xs.length c ->
   Calls prog 194 #[.slice base xs.length c,zi i,.slice (some ⟨vb,0,none⟩) 1 1] W (InsP W n0 v (xs.take i++x::xs.drop i)):=fun base c h1 h2 h3 h4 hie _=>by
  subst hie;refine(Any2.slices_Insert_int_end_grow zqf base xs.length c vb 0 1 1 (zki xs) [zi x] W zO h1 h2 zO (zkv xs) rfl h3 h4 hvs hv1).mono ?_;rintro e W' ⟨rfl,rfl⟩;refine⟨_,rfl,?_,(Chg.refl _ W).drew.alloc _,fun b hb=>.inr ?_⟩
  ·rw[hys];have hge:=grownCap_ge W (xs.length+1) c (zqR.t 3);refine zlI (e:=3) hn0 (heap_alloc_new W.drew _) ?_ hge (grownCap_le_maxLen _ _ _ _ zO) (by rw[zkv,hys]) ?_
   ·rw[Array.size_append,size_zeroCells,List.size_toArray,List.length_append,zkv,show(Value.int .i64 0).cells.size=1 from rfl];simp only[List.length_singleton,Nat.mul_one];omega
   ·intro j u hj;rw[List.take_of_length_le zl,List.drop_eq_nil_of_le zl,zmQ]at hj;rw[show W.heap.size=W.drew.heap.size from rfl,ztn];obtain⟨h5,h6⟩:=List.getElem?_eq_some_iff.1 hj;rw[Array.getElem?_append_left (by simpa[zki]using h5)];simpa[zki]using hj
  ·simp[Value.ownBlock]at hb;omega
 rcases h.2 with⟨rfl,h0⟩|⟨g,cap,cur,rfl,hb,hg,hnc,hcm,hz,hx⟩
 ·have h0':xs.length=0:=h0;have hi0:i=xs.length:=zO
  have:=grow_end none 0 zO zO (fun _=>h0') (fun a e=>by cases e) hi0 (by rw[h0']);rw[h0']at this;exact this
 ·have hcs:∀j u,(zki xs)[j]?=some u->W.cell? ⟨g,j,none⟩=some u:=fun j u hj=>by
   have hj':=(List.getElem?_eq_some_iff.1 hj).1;rw[zkv]at hj';exact(h.cellAt j zO).trans hj
  have hgv:g≠vb:=fun e=>hne (by rw[e];rfl);have hsp:∀j,j<cap->(W.cell? ⟨g,j,none⟩).isSome=true:=fun j hj=>by
   simp only[World.cell?,hg];have:j<cur.size:=zO
   simp[this]
  have hfz:∀j,W.frozen? ⟨g,j,none⟩=false:=fun j=>zf hg;rcases Nat.lt_or_ge cap (xs.length+1)with hroom|hroom
  ·rcases Nat.lt_or_ge i xs.length with hlt|hge
   ·refine(Any2.slices_Insert_int_grow zqf g 0 xs.length cap i vb 0 1 1 (zki xs) [zi x] W hlt zO hnc hroom zO (zkv xs) rfl (fun j u hj=>by rw[Nat.zero_add];exact hcs j u hj) hvs (zrg xs) hv1).mono ?_;rintro e W' ⟨rfl,rfl⟩;have hge:=grownCap_ge W (xs.length+1) cap (zqR.t 3);obtain⟨G,hG⟩:=zX (grownCap W (xs.length+1) cap (zqR.t 3));have hGm:G<=maxLen:=hG▸grownCap_le_maxLen W _ _ _ zO;rw[hG]at hge ⊢;obtain⟨C,hC⟩:=zX ((((zki xs).take i).toArray++Builtin.zeroCells (Value.int .i64 0).cells (xs.length+1-i)++Builtin.zeroCells (Value.int .i64 0).cells (G-(xs.length+1))));have hCs:C.size=G:=by
     rw[<-hC,Array.size_append,Array.size_append,size_zeroCells,size_zeroCells,show(Value.int .i64 0).cells.size=1 from rfl,List.size_toArray,List.length_take,zkv];omega
    have hC0:∀j,j<i->C[j]?=(zki xs)[j]?:=fun j hj=>by
     rw[<-hC,Array.getElem?_append_left (by simp[zki];omega),Array.getElem?_append_left (by simp[zki];omega)];simp[List.getElem?_take_of_lt hj]
    rw[hC];obtain⟨W1,hW1⟩:=zX (W.alloc (.cells C 3));have e1:W.alloc (.cells C (zqR.t 3))=W1:=hW1;rw[e1];have hh:W1.heap[W.heap.size]?=some (.cells C 3 (0,0)):=hW1▸heap_alloc_new W _;have hcell:∀j,W1.cell? ⟨W.heap.size,j,none⟩=C[j]?:=fun j=>by rw[<-hW1];exact ztn W C _ j
    have hb1:zw W W1:=hW1▸zkb zr _;have hdl:((zki xs).drop i).length=xs.length-i:=by rw[List.length_drop,zkv]
    obtain⟨mW,k1,k2⟩:=zld [zi x] i W1.drew C hh;obtain⟨cur2,k3,k4⟩:=zld ((zki xs).drop i) (i+1) (W1.drew.setCells W.heap.size i [zi x]).drew mW k1;have hsp0:∀j,j<G->(W1.drew.cell? ⟨W.heap.size,j,none⟩).isSome=true:=fun j hj=>by
     have h9:W1.drew.cell? ⟨W.heap.size,j,none⟩=C[j]?:=hcell j;rw[h9,Array.getElem?_eq_getElem zO];rfl
    have hsp1:∀j,j<G->((W1.drew.setCells W.heap.size i [zi x]).drew.cell? ⟨W.heap.size,j,none⟩).isSome=true:=fun j hj=>znq j (hsp0 j hj);refine⟨_,rfl,?_,?_,fun b hb=>.inr (by simp[Value.ownBlock]at hb;omega)⟩
    ·rw[hys];refine zlI hn0 k3 zO hge hGm (by rw[zkv,hys]) ?_;intro j u hj;rw[zmQ]at hj;have hti:(zki (xs.take i)).length=i:=by rw[zkv,List.length_take];omega
     rcases Nat.lt_trichotomy j i with hji|hji|hji
     ·rw[zl1 (.inl zO)]
      show(W1.drew.setCells W.heap.size i [zi x]).cell? ⟨W.heap.size,j,none⟩=_
      rw[zl1 (.inl hji)]
      show W1.cell? ⟨W.heap.size,j,none⟩=_
      rw[hcell j,hC0 j hji];rw[List.getElem?_append_left zO]at hj;rw[zki,List.map_take,List.getElem?_take_of_lt hji]at hj;exact hj
     ·subst hji;rw[zl1 (.inl zO)]
      show(W1.drew.setCells W.heap.size j [zi x]).cell? ⟨W.heap.size,j,none⟩=_
      refine zm7 (fun q hq=>hsp0 (j+q) (by simp at hq;omega)) zl ?_;rw[List.getElem?_append_right zO,hti]at hj;simpa[zki]using hj
     ·refine zm7 (fun q hq=>hsp1 (i+1+q) (by rw[hdl]at hq;omega)) zO ?_;rw[List.getElem?_append_right zO,hti,show j-i=(j-(i+1))+1 by omega]at hj;simpa[zki]using hj
    ·have c1:Chg (fun b=>b=W.heap.size) W (((W1.drew.setCells W.heap.size i [zi x]).drew).setCells W.heap.size (i+1) ((zki xs).drop i)) :=
      (((Chg.of_below hb1).drew.trans (zlc W.heap.size _ _ _)).drew).trans (zlc W.heap.size _ _ _)
     exact c1.mono fun b hb e=>zO
   ·exact grow_end (some ⟨g,0,none⟩) cap hnc hroom (fun e=>by cases e) (fun a e j u hj=>by injection e with e;subst e;rw[Addr.add_lit,Nat.zero_add];exact hcs j u hj) zO rfl
  ·rcases Nat.lt_or_ge i xs.length with hlt|hge
   ·refine(Any2.slices_Insert_int_shift zqf g 0 xs.length cap i vb 0 1 1 (zki xs) [zi x] W hlt zO hroom zO (Ne.symm hgv) (zkv xs) rfl (fun j u hj=>by rw[Nat.zero_add];exact hcs j u hj) (fun j hj=>by rw[Nat.zero_add];exact hsp j zO) (fun j _=>hfz _) hvs (zrg xs) hv1 3 3 1 cur.size (by simp[World.shape?,hvb]) (by simp[World.shape?,hg]) zO (zf hvb) (zf hvb)).mono ?_;rintro e W' ⟨rfl,rfl⟩;simp only[Nat.zero_add];have hdl:((zki xs).drop i).length=xs.length-i:=by rw[List.length_drop,zkv]
    obtain⟨mW,k1,k2⟩:=zld ((zki xs).drop i) (i+1) W.drew cur hg;obtain⟨cur2,k3,k4⟩:=zld [zi x] i _ mW k1;have hsp1:∀j,j<cap->((W.drew.setCells g (i+1) ((zki xs).drop i)).cell? ⟨g,j,none⟩).isSome=true:=fun j hj=>znq j (hsp j hj);refine⟨_,rfl,?_,((Chg.of_below (Below.refl _ W).drew).trans ((zlc g _ _ _).trans (zlc g _ _ _))).mono fun b _ e=>by rw[e];rfl,fun b hb=>.inl hb⟩;rw[hys];refine zlI hb k3 zO hroom hcm (by rw[zkv,hys]) ?_;intro j u hj;rw[zmQ]at hj;have hti:(zki (xs.take i)).length=i:=by rw[zkv,List.length_take];omega
    rcases Nat.lt_trichotomy j i with hji|hji|hji
    ·rw[zl1 (.inl hji),zl1 (.inl zO)];rw[List.getElem?_append_left zO]at hj;refine hcs j u ?_;rw[zki,List.map_take,List.getElem?_take_of_lt hji]at hj;exact hj
    ·subst hji;refine zm7 (fun q hq=>hsp1 _ (by simp at hq;omega)) zl ?_;rw[List.getElem?_append_right zO,hti]at hj;simpa[zki]using hj
    ·rw[zl1 (.inr (by simp;omega))];refine zm7 (w:=W.drew) (o:=i+1) (fun q hq=>hsp (i+1+q) (by rw[hdl]at hq;omega)) zO ?_;rw[List.getElem?_append_right zO,hti,show j-i=(j-(i+1))+1 by omega]at hj;simpa[zki]using hj
   ·have hie:i=xs.length:=zO
    subst hie;refine(Any2.slices_Insert_int_end_room zqf g 0 xs.length cap vb 0 1 1 [zi x] W zO hroom zO rfl (fun j hj=>by rw[Nat.zero_add];exact hsp _ zO) (fun j _=>hfz _) hvs hv1).mono ?_;rintro e W' ⟨rfl,rfl⟩;simp only[Nat.zero_add];obtain⟨mW,k1,k2⟩:=zld [zi x] xs.length W cur hg;refine⟨_,rfl,?_,(zlc g _ _ _).mono fun b _ e=>by rw[e];rfl,fun b hb=>.inl hb⟩;rw[hys];refine zlI hb k1 zO hroom hcm (by rw[zkv,hys]) ?_;intro j u hj;rw[List.take_of_length_le zl,List.drop_eq_nil_of_le zl,zmQ]at hj;rcases Nat.lt_or_ge j xs.length with hji|hji
    ·rw[zl1 (.inl hji)];rw[List.getElem?_append_left (by rw[zkv];exact hji)]at hj;exact hcs j u hj
    ·refine zm7 (fun q hq=>hsp _ (by simp at hq;omega)) hji ?_;rw[List.getElem?_append_right (by rw[zkv];exact hji),zkv]at hj;exact hj
theorem zul{W:World}{n0:Nat}{v:Value}{xs:List Int}(h:W.ownsRow n0 3 1 v xs.length (zki xs))(i:Nat)(hi:i<xs.length)(hl:xs.length<=4096) :
  Calls prog 193 #[v,zi i,zi ((i:Int)+1)] W (InsP W n0 v (xs.take i++xs.drop (i+1))):=by
 rcases h.2 with⟨rfl,h0⟩|⟨g,cap,cur,rfl,hb,hg,hnc,hcm,hz,hx⟩
 ·omega
 ·have hcs:∀j u,(zki xs)[j]?=some u->W.cell? ⟨g,j,none⟩=some u:=fun j u hj=>by
   have hj':=(List.getElem?_eq_some_iff.1 hj).1;rw[zkv]at hj';exact(h.cellAt j zO).trans hj
  have hsp:∀j,j<cap->(W.cell? ⟨g,j,none⟩).isSome=true:=fun j hj=>by
   simp only[World.cell?,hg];have:j<cur.size:=zO
   simp[this]
  have hmax:maxLen=9223372036854775807:=rfl;refine(Any.slices_Delete_int_cells zzQ g 0 xs.length cap i (i+1) xs W zl hnc zO zO zO (fun j hj=>by rw[Nat.zero_add];exact hcs j _ (by simp[zki,hj])) (fun j _=>zf hg)).mono ?_;rintro e W' ⟨rfl,q,rfl⟩;have hys:(xs.take i++xs.drop (i+1)).length=xs.length-1:=by simp;omega
  rw[List.take_of_length_le zl];obtain⟨mW,k1,k2⟩:=zld ((xs.take i++xs.drop (i+1)++List.replicate (i+1-i) 0).map (Value.int .i64)) 0 (W.drewN q) cur hg;have hlen:((xs.take i++xs.drop (i+1)++List.replicate (i+1-i) (0:Int)).map (Value.int .i64)).length=xs.length:=by simp;omega
  refine⟨_,rfl,?_,((Chg.of_below (zkM (Below.refl _ W) q)).trans (zlc g _ _ _)).mono fun b _ e=>by rw[e];rfl,fun b hb=>.inl hb⟩;rw[show xs.length-(i+1-i)=xs.length-1 by omega,hys];refine zlI hb k1 zO zO hcm (by rw[zkv,hys]) ?_;intro j u hj;have hj':=(List.getElem?_eq_some_iff.1 hj).1;rw[zkv,hys]at hj';refine zm7 (w:=W.drewN q) (o:=0) (fun k hk=>by rw[Nat.zero_add];exact hsp k zO) (Nat.zero_le _) ?_;rw[Nat.sub_zero,List.map_append,List.getElem?_append_left (by rw[List.length_map,hys];exact hj')];exact hj
section
variable {I:Type} [DecidableEq I] {n0:Nat} {d:I->RowD} {W:World}
theorem zoB(h:Rws W n0 d)(i0 iv:I)(h01:i0≠iv)(b o:Nat)(hb:(d i0).v.ownBlock=some b)(hov:(d i0).xs[o]?=some (d iv).v)(xs:List Int)(hiv:d iv=⟨(d iv).v,3,1,xs.length,zki xs⟩)(hl:xs.length<=4096)(i:Nat)(hi:i<=xs.length)(x:Int) :
  Calls prog 190 #[.pointer (some ⟨b,o,none⟩),zi i,zi x] W fun e W'=>(4096<=xs.length/\e=.returned (zi 5)/\zw W W') \/
   (xs.length<4096/\e=.returned (zi 0)/\∃vv,Stp n0 d W (updR (updR d iv ⟨vv,3,1,xs.length+1,zki (xs.take i++x::xs.drop i)⟩) i0 { d i0 with xs:=(d i0).xs.set o vv }) W'):=by
 have fU:=h.row iv;rw[hiv]at fU;obtain⟨A1,c1,e1,-⟩:=zkh fU;dsimp only at e1 fU;have x0:W.cell? ⟨b,o,none⟩=some (.slice A1 xs.length c1):=by rw[<-e1];exact h.cell i0 hb hov
 have HX0:=zh x0;have HR:=zh h;have hn0:=h.lt i0 b hb;obtain⟨n,hn⟩:=zX (xs.length);have HN:=zh hn;have kv:=zh e1;have Cv:=zh fU;rw[hn]at x0 hl;have hbi:=zpb;clear h fU hn e1;by_cases hfull:4096<=n
 ·obtain rfl:n=4096:=zO
  go_enter func190,ntmps190;go_wp2_with fail;go_ret;exact .inl ⟨by rw[HN.out];exact zl,rfl,zr⟩
 ·have hnf:¬ (4096:Int)<=(n:Int):=zO
  have hbl:zw W (W.alloc (.cells #[zi x] 3)):=zkb zr _;have hnw:∀b',(d iv).v.ownBlock=some b'->b'<W.heap.size:=fun b' e=>(HR.out.lt iv b' e).2;have qx:=zh (zuk (zkK Cv.out hbl) i hi (by rw[HN.out];exact hl) (by simp;omega) x W.heap.size (heap_alloc_new W _) (fun e=>by have:=hnw _ e;omega));rw[kv.out,HN.out]at qx;have hcb:=zb hbl HX0.out;go_enter func190,ntmps190;go_wp2_with fail;refine qx.out.mono ?_;rintro e w2 ⟨v',rfl,ho,hc,aY⟩;have hys:(xs.take i++x::xs.drop i).length=n+1:=by rw[<-HN.out];simp;have:=HN.out;omega
  rw[hys]at ho;obtain⟨g8,aA,rfl⟩:=ownsRow_succ ho;have HR1:=HR.out.later hbl;have st1:Stp n0 d (W.alloc (.cells #[zi x] 3)) (updR d iv ⟨.slice (some ⟨g8,0,none⟩) (n+1) aA,3,1,n+1,zki (xs.take i++x::xs.drop i)⟩) w2 :=
   Stp.upd (i:=iv) HR1 (hc.mono fun b' _ hb'=>by rw[kv.out,HN.out];exact hb') ho (fun b' hb'=>by rw[kv.out,HN.out];exact aY b' hb')
  have hd0:updR d iv ⟨.slice (some ⟨g8,0,none⟩) (n+1) aA,3,1,n+1,zki (xs.take i++x::xs.drop i)⟩ i0=d i0:=zkm h01;have z0:w2.cell? ⟨b,o,none⟩=some (.slice A1 n c1):=by rw[<-HN.out,<-kv.out];exact st1.rws.cell i0 (by rw[hd0];exact hb) (by rw[hd0];exact hov)
  have zf:w2.frozen? ⟨b,o,none⟩=false:=st1.rws.frozen i0 (by rw[hd0];exact hb) o;have st2:=Stp.set (i:=i0) st1.rws (g:=b) (by rw[hd0];exact hb) (o:=o) (by rw[hd0];exact(List.getElem?_eq_some_iff.1 hov).1) (.slice (some ⟨g8,0,none⟩) (n+1) aA);rw[hd0]at st2;have qZ:=zh ((st1.trans st2).after hbl HR.out);clear st1 st2 ho hc aY qx hcb;go_wp2_with fail;go_ret;refine .inr ⟨by rw[HN.out];omega,rfl,.slice (some ⟨g8,0,none⟩) (n+1) aA,?_⟩;rw[HN.out];exact qZ.out
theorem zoA(h:Rws W n0 d)(i0 iv:I)(h01:i0≠iv)(b o:Nat)(hb:(d i0).v.ownBlock=some b)(hov:(d i0).xs[o]?=some (d iv).v)(xs:List Int)(hiv:d iv=⟨(d iv).v,3,1,xs.length,zki xs⟩)(hl:xs.length<=4096)(k:Int)(i:Nat)(hi:0<xs.length->k=i/\i<xs.length) :
  Calls prog 189 #[.pointer (some ⟨b,o,none⟩),zi k] W fun e W'=>(xs.length=0/\e=.returned (.tuple #[zi 0,zi 17])/\zw W W') \/
   (0<xs.length/\e=.returned (.tuple #[zi (xs.getD i 0),zi 0])/\∃vv,Stp n0 d W (updR (updR d iv ⟨vv,3,1,xs.length-1,zki (xs.take i++xs.drop (i+1))⟩) i0 { d i0 with xs:=(d i0).xs.set o vv }) W'):=by
 have fU:=h.row iv;rw[hiv]at fU;obtain⟨A1,c1,e1,-⟩:=zkh fU;dsimp only at e1 fU;have x0:W.cell? ⟨b,o,none⟩=some (.slice A1 xs.length c1):=by rw[<-e1];exact h.cell i0 hb hov
 have HX0:=zh x0;have HR:=zh h;obtain⟨n,hn⟩:=zX (xs.length);have HN:=zh hn;have kv:=zh e1;have Cv:=zh fU;rw[hn]at x0 hl hi;clear h hn e1;rcases Nat.eq_zero_or_pos n with h0|h0
 ·subst h0;clear fU;go_enter func189,ntmps189;go_wp2_with fail;go_ret2;exact .inl ⟨HN.out,rfl,zr⟩
 ·obtain⟨rfl,hin⟩:=hi h0;obtain⟨g,c2,hv2,-,-,hcell⟩:=zlg fU (by rw[HN.out];exact h0);rw[kv.out]at hv2;injection hv2 with a1 a2 a3;subst a1 a3;obtain⟨y,hy⟩:=zX (xs.getD i 0);have x1:W.cell? ⟨g,i,none⟩=some (zi y):=by
   rw[hcell i (by rw[HN.out];omega),<-hy];have:i<xs.length:=by rw[HN.out];exact hin
   simp[zki,this]
  have hn0:¬ (n:Int)=0:=zO
  have hn1:((n:Int)==0)=false:=by simpa using hn0
  have hin':(i:Int)<(n:Int):=zO
  have qx:=zh (zul Cv.out i (by rw[HN.out];exact hin) (by rw[HN.out];exact hl));rw[kv.out,HN.out]at qx;have HY:=zh hy;clear fU hcell hy hi;go_enter func189,ntmps189;go_wp2_with fail;refine qx.out.mono ?_;rintro e w2 ⟨v',rfl,ho,hc,aY⟩;have hys:(xs.take i++xs.drop (i+1)).length=n-1:=by rw[<-HN.out];simp;have:=HN.out;omega
  rw[hys]at ho;obtain⟨A8,aA,rfl,-,-⟩:=zkh ho;have st1:Stp n0 d W (updR d iv ⟨.slice A8 (n-1) aA,3,1,n-1,zki (xs.take i++xs.drop (i+1))⟩) w2 :=
   Stp.upd (i:=iv) HR.out (hc.mono fun b' _ hb'=>by rw[kv.out,HN.out];exact hb') ho (fun b' hb'=>by rw[kv.out,HN.out];exact aY b' hb')
  have hd0:updR d iv ⟨.slice A8 (n-1) aA,3,1,n-1,zki (xs.take i++xs.drop (i+1))⟩ i0=d i0:=zkm h01;have z0:w2.cell? ⟨b,o,none⟩=some (.slice (some ⟨g,0,none⟩) n c1):=by rw[<-HN.out,<-kv.out];exact st1.rws.cell i0 (by rw[hd0];exact hb) (by rw[hd0];exact hov)
  have zf:w2.frozen? ⟨b,o,none⟩=false:=st1.rws.frozen i0 (by rw[hd0];exact hb) o;have st2:=Stp.set (i:=i0) st1.rws (g:=b) (by rw[hd0];exact hb) (o:=o) (by rw[hd0];exact(List.getElem?_eq_some_iff.1 hov).1) (.slice A8 (n-1) aA);rw[hd0]at st2;have qZ:=zh (st1.trans st2);clear st1 st2 ho hc aY qx;go_wp2_with fail;go_ret2;refine .inr ⟨by rw[HN.out];omega,by rw[HY.out];rfl,.slice A8 (n-1) aA,?_⟩;rw[HN.out];exact qZ.out
end
theorem zsK(P:Ph)(S:ST)(vv:Value)(ys:List Int):rows { P with vI:=vv } { S with tin:=ys }=updR (updR (rows P S) .tin ⟨vv,3,1,ys.length,zki ys⟩) .tb { rows P S .tb with xs:=(rows P S .tb).xs.set 0 vv }:=by
 funext r
 cases r with
 | calls=>simp only[updR,reduceCtorEq,if_false,rows];rw[zlA (P:=P) (P':={ P with vI:=vv }) rfl rfl]
 | _=>simp[updR,rows]
theorem zqO(P:Ph)(S:ST)(vv:Value)(ys:List Int):rows { P with vO:=vv } { S with tout:=ys }=updR (updR (rows P S) .tout ⟨vv,3,1,ys.length,zki ys⟩) .tb { rows P S .tb with xs:=(rows P S .tb).xs.set 1 vv }:=by
 funext r
 cases r with
 | calls=>simp only[updR,reduceCtorEq,if_false,rows];rw[zlA (P:=P) (P':={ P with vO:=vv }) rfl rfl]
 | _=>simp[updR,rows]
theorem zy7{S:ST}(h:S.WF)(ys:List Int)(hl:ys.length<=4096)(hy:∀x∈ys,I64 x):({ S with tin:=ys }:ST).WF:=⟨h.ex,h.ncalls,h.cells,⟨hl,hy⟩,h.tout⟩
theorem zws{S:ST}(h:S.WF)(ys:List Int)(hl:ys.length<=4096)(hy:∀x∈ys,I64 x):({ S with tout:=ys }:ST).WF:=⟨h.ex,h.ncalls,h.cells,h.tin,⟨hl,hy⟩⟩
theorem zyD{W:World}{n0:Nat}{P:Ph}{S:ST}(h:SR W n0 P S):Calls prog 182 #[.pointer (some ⟨P.tb,0,none⟩)] W fun e W' =>
  (S.tin=[]/\e=.returned (.tuple #[zi 0,zi 17])/\zw W W')\/(∃x r,S.tin=x::r/\e=.returned (.tuple #[zi x,zi 0])/\∃vv,SStp n0 P S W { P with vI:=vv } { S with tin:=r } W'):=by
 have qd:=zh (zoA h.rws .tb .tin zS P.tb 0 rfl rfl S.tin rfl h.wf.tin.1 0 0 (fun h=>⟨rfl,h⟩));have eH:=zh h.wf;clear h;go_enter func182,ntmps182;go_wp2_with fail;refine qd.out.mono ?_;rintro e w1 hh;rcases hh with⟨h0,rfl,hb⟩|⟨h0,rfl,vv,hst⟩
 ·have HH:=zh h0;have HB:=zh hb;clear h0 hb;go_wp2_with fail;go_ret2;exact .inl ⟨List.length_eq_zero_iff.1 HH.out,rfl,HB.out⟩
 ·have HH:=zh h0;have HST:=zh hst;clear h0 hst;go_wp2_with fail;go_ret2;refine .inr ?_;obtain⟨x,r,yE⟩:∃x r,S.tin=x::r:=by
   cases hc:S.tin with
   | nil=>have:=HH.out;rw[hc]at this;simp at this
   | cons x r=>exact⟨x,r,rfl⟩
  have ht:=eH.out.tin;rw[yE]at ht;refine⟨x,r,yE,by rw[yE];rfl,vv,⟨HST.out.cast ?_,zy7 eH.out r (by have:=ht.1;simp at this;omega) fun y hy=>ht.2 y (List.mem_cons_of_mem _ hy)⟩⟩;rw[zsK P S vv r,yE];simp
theorem zpZ{W:World}{n0:Nat}{P:Ph}{S:ST}(h:SR W n0 P S)(x:Int)(hx:I64 x):Calls prog 183 #[.pointer (some ⟨P.tb,0,none⟩),zi x] W fun e W' =>
  (4096<=S.tin.length/\e=.returned (zi 5)/\zw W W')\/(S.tin.length<4096/\e=.returned (zi 0)/\∃vv,SStp n0 P S W { P with vI:=vv } { S with tin:=x::S.tin } W'):=by
 have qd:=zh (zoB h.rws .tb .tin zS P.tb 0 rfl rfl S.tin rfl h.wf.tin.1 0 (Nat.zero_le _) x);have eH:=zh h.wf;clear h;go_enter func183,ntmps183;go_wp2_with fail;refine qd.out.mono ?_;rintro e w1 hh;rcases hh with⟨h0,rfl,hb⟩|⟨h0,rfl,vv,hst⟩
 ·have HH:=zh h0;have HB:=zh hb;clear h0 hb;go_wp2_with fail;go_ret;exact .inl ⟨HH.out,rfl,HB.out⟩
 ·have HH:=zh h0;have HST:=zh hst;clear h0 hst;go_wp2_with fail;go_ret;have ht:=eH.out.tin;refine .inr ⟨HH.out,rfl,vv,⟨HST.out.cast ?_,zy7 eH.out _ (by have:=HH.out;simp;omega) fun y hy=>?_⟩⟩
  ·rw[zsK P S vv (x::S.tin)];simp
  ·rcases List.mem_cons.1 hy with rfl|hy
   ·exact hx
   ·exact ht.2 y hy
theorem zvH:IsFn prog 190 f190:=⟨func190,zK,zK⟩
theorem zvG:IsFn prog 189 f189:=⟨func189,zK,zK⟩
theorem zrs{W:World}{n0:Nat}{P:Ph}{S:ST}(h:SR W n0 P S)(x:Int)(hx:I64 x):Calls prog 185 #[.pointer (some ⟨P.tb,0,none⟩),zi x] W fun e W' =>
  (4096<=S.tout.length/\e=.returned (zi 5)/\zw W W')\/(S.tout.length<4096/\e=.returned (zi 0)/\∃vv,SStp n0 P S W { P with vO:=vv } { S with tout:=S.tout++[x] } W'):=by
 have qd:=zh (zoB (h.later zr.drew).rws .tb .tout zS P.tb 1 rfl rfl S.tout rfl h.wf.tout.1 S.tout.length zl x);have eH:=zh h.wf;have HS:=zh h;obtain⟨A,c,hv,hc,-⟩:=zkh (h.rws.row .tout);change P.vO=.slice A S.tout.length c at hv;have x0:W.cell? ⟨P.tb,1,none⟩=some (.slice A S.tout.length c):=by rw[<-hv];exact zc h.tbox rfl
 obtain⟨n,hn⟩:=zX (S.tout.length);rw[hn]at x0;have HN:=zh hn;have had:Calls prog 190 [.pointer (some ⟨P.tb,1,none⟩),zi n,zi x].toArray W.drew fun e W'=>∃u,e=.returned u /\
   ((4096<=n/\u=zi 5/\zw W W')\/(n<4096/\u=zi 0/\∃vv,SStp n0 P S W { P with vO:=vv } { S with tout:=S.tout++[x] } W')):=by
  rw[<-hn];refine qd.out.mono ?_;rintro e W' hh;rcases hh with⟨h0,rfl,hb⟩|⟨h0,rfl,vv,hst⟩
  ·exact⟨_,rfl,.inl ⟨h0,rfl,zka zr.drew hb⟩⟩
  ·have ht:=eH.out.tout;refine⟨_,rfl,.inr ⟨h0,rfl,vv,⟨((Stp.after hst zr.drew HS.out.rws).cast ?_),zws eH.out _ (by simp;omega) fun y hy=>?_⟩⟩⟩
   ·rw[zqO P S vv (S.tout++[x]),List.take_of_length_le zl,List.drop_eq_nil_of_le zl];simp
   ·simp only[List.mem_append,List.mem_singleton]at hy;rcases hy with hy|rfl
    ·exact ht.2 y hy
    ·exact hx
 clear h hv hc hn qd;go_enter func185,ntmps185;go_upto_region 3 with fail;have hSS:zU W.drew/\(fun w':World=>zv w' P.tb 1 (.slice A n c)) W.drew:=⟨trivial,x0⟩
 refine wp_region_noPanic ?_;refine zkl zU (fun w':World=>zv w' P.tb 1 (.slice A n c)) 9 zK ?_;refine zT 0 hSS ?_;refine zT 1 hSS ?_;refine zT 2 hSS ?_;refine zT 3 hSS ?_;refine zT 4 hSS ?_;refine zT 5 hSS ?_;refine zL 6 [7] hSS ?_;refine zT 7 hSS ?_;refine zT 8 hSS ?_;refine zp 9 fun K hK=>?_;refine zke zR (.func 190) [.tmp 9,.tmp 14,.tmp 15] _ zR 190 _ zvH zR _ zR _ had ?_;rintro v4 w4 hh;have HH:=zh hh;have hv4:∃y,v4=zi y:=by rcases hh with⟨_,rfl,_⟩|⟨_,rfl,_⟩<;>exact⟨_,rfl⟩
 obtain⟨y,rfl⟩:=hv4;refine hK.out _ _ trivial ?_;clear hK K hSS had hh;(try simp only[zQ]);refine zp 10 fun K hK=>?_;(try simp only[zA,zB,zC]);go_simp;refine hK.out _ _ trivial ?_;clear hK K;(try simp only[zQ]);refine zd ?_;refine NoPanic.normal ?_;go_wp2_with fail;go_ret;rcases HH.out with⟨h0,h1,h2⟩|⟨h0,h1,h2⟩
 ·exact .inl ⟨by rw[HN.out];exact h0,by rw[<-h1];rfl,h2⟩
 ·exact .inr ⟨by rw[HN.out];exact h0,by rw[<-h1];rfl,h2⟩
theorem zsq{W:World}{n0:Nat}{P:Ph}{S:ST}(h:SR W n0 P S):Calls prog 184 #[.pointer (some ⟨P.tb,0,none⟩)] W fun e W' =>
  (S.tout=[]/\e=.returned (.tuple #[zi 0,zi 17])/\zw W W')\/(∃r x,S.tout=r++[x]/\e=.returned (.tuple #[zi x,zi 0])/\∃vv,SStp n0 P S W { P with vO:=vv } { S with tout:=r } W'):=by
 have qd:=zh (zoA (h.later zr.drew).rws .tb .tout zS P.tb 1 rfl rfl S.tout rfl h.wf.tout.1 ((S.tout.length:Int)-1) (S.tout.length-1) (fun h=>⟨zO,zO⟩));have eH:=zh h.wf;have HS:=zh h;obtain⟨A,c,hv,hc,-⟩:=zkh (h.rws.row .tout);change P.vO=.slice A S.tout.length c at hv;have x0:W.cell? ⟨P.tb,1,none⟩=some (.slice A S.tout.length c):=by rw[<-hv];exact zc h.tbox rfl
 have hlen:=h.wf.tout.1;obtain⟨n,hn⟩:=zX (S.tout.length);rw[hn]at x0 hlen;have had:Calls prog 189 [.pointer (some ⟨P.tb,1,none⟩),zi ((n:Int)-1)].toArray W.drew fun e W'=>∃u,e=.returned u/\∃a1 a2,u=.tuple #[zi a1,zi a2] /\
   ((S.tout=[]/\(a1,a2)=((0:Int),(17:Int))/\zw W W')\/(∃r x,S.tout=r++[x]/\(a1,a2)=(x,0)/\∃vv,SStp n0 P S W { P with vO:=vv } { S with tout:=r } W')):=by
  rw[<-hn];refine qd.out.mono ?_;rintro e W' hh;rcases hh with⟨h0,rfl,hb⟩|⟨h0,rfl,vv,hst⟩
  ·exact⟨_,rfl,_,_,rfl,.inl ⟨List.length_eq_zero_iff.1 h0,rfl,zka zr.drew hb⟩⟩
  ·have ht:=eH.out.tout;obtain⟨r,x,hrx⟩:∃r x,S.tout=r++[x]:=⟨S.tout.dropLast,S.tout.getLast (by intro e;rw[e]at h0;simp at h0),(List.dropLast_concat_getLast _).symm⟩
   rw[hrx]at ht;refine⟨_,rfl,_,_,rfl,.inr ⟨r,x,hrx,?_,vv,⟨((Stp.after hst zr.drew HS.out.rws).cast ?_),zws eH.out _ (by have:=ht.1;simp at this;omega) fun y hy=>ht.2 y (List.mem_append_left _ hy)⟩⟩⟩
   ·rw[hrx];simp
   ·rw[zqO P S vv r,hrx];simp
 clear h hv hc hn qd;have hw1:IntKind.i64.wrap ((n:Int)-1)=(n:Int)-1:=IntWalk.i64_in _ zO;go_enter func184,ntmps184;go_upto_region 3 with fail;have hSS:zU W.drew/\(fun w':World=>zv w' P.tb 1 (.slice A n c)) W.drew:=⟨trivial,x0⟩
 refine wp_region_noPanic ?_;refine zkl zU (fun w':World=>zv w' P.tb 1 (.slice A n c)) 9 zK ?_;refine zT 0 hSS ?_;refine zT 1 hSS ?_;refine zT 2 hSS ?_;refine zT 3 hSS ?_;refine zT 4 hSS ?_;refine zT 5 hSS ?_;refine zL 6 [7,8] hSS ?_;refine zT 7 hSS ?_;refine zT 8 hSS ?_;refine zp 9 fun K hK=>?_;refine zke zR (.func 189) [.tmp 8,.tmp 14] _ zR 189 _ zvG zR _ zR _ had ?_;rintro v4 w4 ⟨a1,a2,rfl,hh⟩;have HH:=zh hh;refine hK.out _ _ trivial ?_;clear hK K hSS had hh;(try simp only[zQ]);refine zM 10 trivial ?_;refine zM 11 trivial ?_;refine zp 12 fun K hK=>?_;(try simp only[zA,zB,zC]);go_simp;refine hK.out _ _ trivial ?_;clear hK K;(try simp only[zQ]);refine zp 13 fun K hK=>?_;(try simp only[zA,zB,zC]);go_simp;refine hK.out _ _ trivial ?_;clear hK K;(try simp only[zQ]);refine zd ?_;refine NoPanic.normal ?_;go_wp2_with fail;go_ret2
 rcases HH.out with⟨h0,h1,h2⟩|⟨r,x,h0,h1,h2⟩
 ·injection h1 with e1 e2;subst e1 e2;exact .inl ⟨h0,rfl,h2⟩
 ·injection h1 with e1 e2;subst e1 e2;exact .inr ⟨r,a1,h0,rfl,h2⟩
def ownE(vs:List VD)(k:Int)(s:ByteArray):Int:=if znX k=0 then 0 else match zlt vs s with
 | none=>6
 | some v=>if v.k=znX k then 0 else 7
mutual
/-- frame.fault: the first fault in pre-order. -/
def fltE(vs:List VD):T->Int
 | .nd k _ s ks=>if ownE vs k s≠0 then ownE vs k s else zlz vs ks
def zlz(vs:List VD):List T->Int
 | []=>0
 | t::ts=>if fltE vs t≠0 then fltE vs t else zlz vs ts
end
theorem zm2{vs:List VD}:∀ {ks:List T} {j:Nat} (h:j<ks.length),zlz vs (ks.take j)=0->zlz vs (ks.take (j+1))=fltE vs ks[j]
 | t::ts,0,_,_=>by simp only[List.take,zlz,List.getElem_cons_zero];split<;>simp_all
 | t::ts,j+1,h,h0=>by
  simp only[List.take,zlz,List.getElem_cons_succ]at h0 ⊢
  split at h0
  ·contradiction
  ·rename_i h1;rw[if_neg h1];exact zm2 (by simpa using h) h0
theorem zm3{vs:List VD}:∀ {ks:List T} {j:Nat} (h:j<ks.length),zlz vs (ks.take j)=0->fltE vs ks[j]≠0->zlz vs ks=fltE vs ks[j]
 | t::ts,0,_,_,h1=>by simp only[zlz,List.getElem_cons_zero]at *;rw[if_pos h1]
 | t::ts,j+1,h,h0,h1=>by
  simp only[List.take,zlz,List.getElem_cons_succ]at h0 h1 ⊢
  split at h0
  ·contradiction
  ·rename_i h2;rw[if_neg h2];exact zm3 (by simpa using h) h0 h1
theorem zt5(vs:List VD)(A:Option Addr)(c:Nat)(fp:Addr)(hl:vs.length<=4398046511000)(t:T):∀(v:Value) (w:World),NV w Any t v->w.cell? fp=some (.slice A vs.length c)->RowV w Any A vs ->
  Calls prog 162 #[.pointer (some fp),v] w (zu (zi (fltE vs t)) w):=by
 induction t using T.ind with
 | _ k n s ks ih =>
  intro v w hv hc hrow;obtain⟨B,d,rfl,hf,hlk,hlc,hks⟩:=hv.open_;simp only[zND]at *
  have av:=zkz hlk;have qy:=zh ih;have uX:=zh hks;have HC:=zh hc;have ae:=zh hrow;obtain⟨R,hR⟩:=zX (fltE vs (.nd k n s ks));rw[hR];rw[fltE]at hR;have HR:=zh hR;obtain⟨nk,hnk⟩:=zX (znX k);have HNE:=zh (hnk▸zvd k);have nK:=zh hnk;obtain⟨VL,yR⟩:=zX (vs.length);have dQ:=zh (show ∀w',zw w w'->Calls prog 85 #[.slice A VL c,.string s] w' fun e w''=>e=.returned (fdV (zlt vs s))/\zw w' w'' from fun w' hb=>yR▸zow vs A c s Any w' (hrow.later hb) (by unfold LV;omega));rw[yR]at HC;have hc':=fun o=>zkj (o:=o) HC.out;have BZ:=zh yR;clear ih hv hf hlk hlc hks hc hrow hR hnk yR;go_enter func162,ntmps162;go_wp2_with fail;refine(HNE.out _).mono ?_;rintro e w1 ⟨rfl,rfl⟩;have hbx:=heap_alloc_new w (.cells #[zj k,zi n,.string s,.slice B ks.length d] 28)
  have q1:zw w (w.alloc (.cells #[zj k,zi n,.string s,.slice B ks.length d] 28)):=zkb zr _;obtain⟨W1,hW1⟩:=zX (w.alloc (.cells #[zj k,zi n,.string s,.slice B ks.length d] 28));have hcW:=hc' (.cells #[zj k,zi n,.string s,.slice B ks.length d] 28);rw[hW1]at hbx q1 hcW ⊢;have aR:=zh hbx;have bI:=zh q1;have HCW:=zh hcW;obtain⟨m0,m1,m2,m3⟩:=box4 hbx;clear hbx q1 hW1 hc';by_cases hn0:nk=0
  ·subst hn0;have HRR:=zh (show zlz vs ks=R by rw[<-HR.out,ownE,if_pos nK.out];simp);have qV:=bI;have qP:=aR;obtain⟨WX,lK⟩:=zX (W1);rw[lK]at m0 m1 m2 m3 qV qP hcW ⊢;clear lK HR nK HNE dQ;go_wp2_with fail
   go_loopw [10,35] (fun _ i wr=>∃j:Nat,j<=ks.length/\i=zi j/\zw w wr/\wr.heap[w.heap.size]?=some (.cells #[zj k,zi n,.string s,.slice B ks.length d] 28 (0,0))/\Hid (zlz vs (ks.take j)=0)) (fun _ i _=>ks.length-(intOf i).toNat)
   case atStart=>exact⟨0,Nat.zero_le _,rfl,qV.out,qP.out,zh (by simp[zlz])⟩
   case round =>
    obtain⟨j,hj,rfl,hbl,hbx,HJ⟩:=hrel;have ag:=zh hbl;have xR:=zh hbx;by_cases hlt:j<ks.length
    ·obtain⟨a,t,A1,c1,rfl,_,Ht,⟨y0,y1,y2,y3⟩,hn⟩:=(uX.out.later hbl).nd hlt;obtain⟨re,hre⟩:=zX (fltE vs t);have dJ:=zh (show ∀(v:Value) (w:World),NV w Any t v->w.cell? fp=some (.slice A VL c)->RowV w Any A vs->Calls prog 162 #[.pointer (some fp),v] w (zu (zi re) w) from by
      have h1:=qy.out t (by rw[<-Ht.out];exact List.getElem_mem hlt);rw[hre,BZ.out]at h1;exact h1)
     have gP:=zh hre;have HN:=zh hn;have hal:=zkb hbl (.cells #[zj t.k,zi t.n,.string t.s,.slice A1 t.ks.length c1] 28);have rE:=zh (dJ.out _ _ (HN.out.later (zkb zr (.cells #[zj t.k,zi t.n,.string t.s,.slice A1 t.ks.length c1] 28))) (zb hal HC.out) (ae.out.later hal));clear hn hbl hbx hre hal;go_wp2_with fail;refine rE.out.mono ?_;rintro e w5 ⟨rfl,dO⟩;have aS:=zh (zka (zkb ag.out _) dO);have uz:=zh (zkc (zkd xR.out _) dO);clear dO y0 y1 y2 y3;by_cases hr0:re=0
     ·subst hr0;have HJ2:Hid (zlz vs (ks.take (j+1))=0):=zh (by rw[zm2 hlt HJ.out,Ht.out];exact gP.out);go_wp2_with fail
      go_roundw
      case rel=>exact⟨j+1,zO,by go_num,aS.out,uz.out,HJ2⟩
      case measure=>simp[intOf];omega
     ·have e1:(re==0)=false:=by simpa using hr0
      have e2:(re != 0)=true:=by simpa using hr0
      have HF:=zh (show R=re by rw[<-HRR.out,zm3 hlt HJ.out (by rw[Ht.out,gP.out];exact hr0),Ht.out,gP.out]);clear hr0;go_wp2_with fail;go_ret;exact⟨by rw[HF.out];rfl,aS.out⟩
    ·obtain rfl:j=ks.length:=zO
     have HF:=zh (show R=0 by
      have:=HJ.out;rw[List.take_of_length_le zl]at this;rw[<-HRR.out];exact this)
     clear hbl hbx;go_wp2_with fail;go_ret;exact⟨by rw[HF.out];rfl,ag.out⟩
  ·have e1:(nk==0)=false:=by simpa using hn0
   have e2:(nk != 0)=true:=by simpa using hn0
   obtain⟨fd,Bo⟩:=zX (zlt vs s);rw[Bo]at dQ;have vK:=zh Bo;have az:=zh (show ∀w',zw W1 w'->w'.cell? fp=some (.slice A VL c)/\w'.cell? ⟨w.heap.size,2,none⟩=some (.string s)from fun w' hb=>⟨zb hb hcW,zb hb m2⟩);have aG:=zh (az.out _ zr.drew);clear hcW m0 m1 m2 m3 Bo
   cases fd with
   | none =>
    go_upto_region 3 with fail
    go_region_held3 (fun w':World=>w'.cell? fp=some (.slice A VL c)/\zv w' w.heap.size 2 (.string s))
     (first|with_reducible exact aC.out|with_reducible exact aG.out|(exact az.out _ (zkb zr _).drew)|(exact az.out _ (zkb b1 _))|(exact az.out _ (((b1.setCell zS _).setCell zS _).setCell zS _)))
     (first
      | (go_at_call 85;refine(dQ.out _ (zka bI.out (by first|exact zr.drew|exact(zkb zr _).drew))).mono ?_;rintro e y1 ⟨rfl,bE⟩;have b1:zw W1 y1:=zka (by first|exact zr.drew|exact(zkb zr _).drew) bE;have aC:=zh (az.out _ b1);(try (have hz:=zkc (show(W1.alloc (.cells #[.string ⟨#[]⟩,zj 0,zi 0] 38)).drew.heap[W1.heap.size]?=some (.cells #[.string ⟨#[]⟩,zj 0,zi 0] 38 (0,0))from heap_alloc_new W1 _) bE;have hz0:y1.cell? ⟨W1.heap.size,0,none⟩=some (.string ⟨#[]⟩):=zc hz rfl;have hz1:y1.cell? ⟨W1.heap.size,1,none⟩=some (zj 0):=zc hz rfl;have hz2:y1.cell? ⟨W1.heap.size,2,none⟩=some (zi 0):=zc hz rfl;have vY:∀i,y1.frozen? ⟨W1.heap.size,i,none⟩=false:=fun i=>zf hz)))
      | fail)
    all_goals
     have HRR:=zh (show R=6 by
      have:ownE vs k s=6:=by rw[ownE,if_neg (by rw[nK.out];exact hn0),vK.out]
      rw[<-HR.out,this];rfl)
     have HB1:=zh (zka bI.out b1);have jg:=zh (show zw W1 _ from b1);(try clear hz hz0 hz1 hz2 vY);clear b1 bE aC HR hn0;go_wp2_with fail;go_ret
     first
      | exact⟨by rw[HRR.out];rfl,zkb HB1.out _⟩
      | exact⟨by rw[HRR.out];rfl,zka bI.out (((jg.out.setCell zS _).setCell zS _).setCell zS _)⟩
   | some vd =>
    obtain⟨vm,vk,vl⟩:=vd;go_upto_region 3 with fail
    go_region_held3 (fun w':World=>w'.cell? fp=some (.slice A VL c)/\zv w' w.heap.size 2 (.string s))
     (first|with_reducible exact aC.out|with_reducible exact aG.out|(exact az.out _ (zkb zr _).drew)|(exact az.out _ (zkb b1 _))|(exact az.out _ (((b1.setCell zS _).setCell zS _).setCell zS _)))
     (first
      | (go_at_call 85;refine(dQ.out _ (zka bI.out (by first|exact zr.drew|exact(zkb zr _).drew))).mono ?_;rintro e y1 ⟨rfl,bE⟩;have b1:zw W1 y1:=zka (by first|exact zr.drew|exact(zkb zr _).drew) bE;have aC:=zh (az.out _ b1);(try (have hz:=zkc (show(W1.alloc (.cells #[.string ⟨#[]⟩,zj 0,zi 0] 38)).drew.heap[W1.heap.size]?=some (.cells #[.string ⟨#[]⟩,zj 0,zi 0] 38 (0,0))from heap_alloc_new W1 _) bE;have hz0:y1.cell? ⟨W1.heap.size,0,none⟩=some (.string ⟨#[]⟩):=zc hz rfl;have hz1:y1.cell? ⟨W1.heap.size,1,none⟩=some (zj 0):=zc hz rfl;have hz2:y1.cell? ⟨W1.heap.size,2,none⟩=some (zi 0):=zc hz rfl;have vY:∀i,y1.frozen? ⟨W1.heap.size,i,none⟩=false:=fun i=>zf hz)))
      | fail)
    ·obtain⟨WX,lK⟩:=zX (y1.alloc (.cells #[.string vm,zj vk,zi vl] 38));have hbX:zw W1 WX:=lK▸zkb b1 _;have hvk:WX.cell? ⟨y1.heap.size,1,none⟩=some (zj vk):=by rw[<-lK];simp
     rw[lK];have qV:=zh (zka bI.out hbX);have qP:=zh (zkc aR.out hbX);obtain⟨m0,m1,m2,m3⟩:=box4 qP.out;clear b1 bE aC hbX lK;by_cases hk:vk=nk
     ·have HRR:=zh (show zlz vs ks=R by
       have:ownE vs k s=0:=by rw[ownE,if_neg (by rw[nK.out];exact hn0),vK.out];simp[nK.out,hk]
       rw[<-HR.out,this];simp)
      have e1:(vk==nk)=true:=by simpa using hk
      have e2:(vk != nk)=false:=by simpa using hk
      clear hn0 hk;go_wp2_with fail
      go_loopw [10,35] (fun _ i wr=>∃j:Nat,j<=ks.length/\i=zi j/\zw w wr/\wr.heap[w.heap.size]?=some (.cells #[zj k,zi n,.string s,.slice B ks.length d] 28 (0,0))/\Hid (zlz vs (ks.take j)=0)) (fun _ i _=>ks.length-(intOf i).toNat)
      case atStart=>exact⟨0,Nat.zero_le _,rfl,qV.out,qP.out,zh (by simp[zlz])⟩
      case round =>
       obtain⟨j,hj,rfl,hbl,hbx,HJ⟩:=hrel;have ag:=zh hbl;have xR:=zh hbx;by_cases hlt:j<ks.length
       ·obtain⟨a,t,A1,c1,rfl,_,Ht,⟨y0,y1,y2,y3⟩,hn⟩:=(uX.out.later hbl).nd hlt;obtain⟨re,hre⟩:=zX (fltE vs t);have dJ:=zh (show ∀(v:Value) (w:World),NV w Any t v->w.cell? fp=some (.slice A VL c)->RowV w Any A vs->Calls prog 162 #[.pointer (some fp),v] w (zu (zi re) w) from by
         have h1:=qy.out t (by rw[<-Ht.out];exact List.getElem_mem hlt);rw[hre,BZ.out]at h1;exact h1)
        have gP:=zh hre;have HN:=zh hn;have hal:=zkb hbl (.cells #[zj t.k,zi t.n,.string t.s,.slice A1 t.ks.length c1] 28);have rE:=zh (dJ.out _ _ (HN.out.later (zkb zr (.cells #[zj t.k,zi t.n,.string t.s,.slice A1 t.ks.length c1] 28))) (zb hal HC.out) (ae.out.later hal));clear hn hbl hbx hre hal;go_wp2_with fail;refine rE.out.mono ?_;rintro e w5 ⟨rfl,dO⟩;have aS:=zh (zka (zkb ag.out _) dO);have uz:=zh (zkc (zkd xR.out _) dO);clear dO y0 y1 y2 y3;by_cases hr0:re=0
        ·subst hr0;have HJ2:Hid (zlz vs (ks.take (j+1))=0):=zh (by rw[zm2 hlt HJ.out,Ht.out];exact gP.out);go_wp2_with fail
         go_roundw
         case rel=>exact⟨j+1,zO,by go_num,aS.out,uz.out,HJ2⟩
         case measure=>simp[intOf];omega
        ·have e1:(re==0)=false:=by simpa using hr0
         have e2:(re != 0)=true:=by simpa using hr0
         have HF:=zh (show R=re by rw[<-HRR.out,zm3 hlt HJ.out (by rw[Ht.out,gP.out];exact hr0),Ht.out,gP.out]);clear hr0;go_wp2_with fail;go_ret;exact⟨by rw[HF.out];rfl,aS.out⟩
       ·obtain rfl:j=ks.length:=zO
        have HF:=zh (show R=0 by
         have:=HJ.out;rw[List.take_of_length_le zl]at this;rw[<-HRR.out];exact this)
        clear hbl hbx;go_wp2_with fail;go_ret;exact⟨by rw[HF.out];rfl,ag.out⟩
     ·have HRR:=zh (show R=7 by
       have:ownE vs k s=7:=by rw[ownE,if_neg (by rw[nK.out];exact hn0),vK.out];simp[nK.out,hk]
       rw[<-HR.out,this];rfl)
      have e1:(vk==nk)=false:=by simpa using hk
      have e2:(vk != nk)=true:=by simpa using hk
      clear hn0 hk;go_wp2_with fail;go_ret;exact⟨by rw[HRR.out];rfl,qV.out⟩
    ·obtain⟨WX,lK⟩:=zX (((y1.setCell ⟨W1.heap.size,0,none⟩ (.string vm)).setCell ⟨W1.heap.size,1,none⟩ (zj vk)).setCell ⟨W1.heap.size,2,none⟩ (zi vl));have hbX:zw W1 WX:=lK▸((b1.setCell zS _).setCell zS _).setCell zS _;have hvk:WX.cell? ⟨W1.heap.size,1,none⟩=some (zj vk):=by rw[<-lK];exact zc (heap_setCell_same _ W1.heap.size 2 _ _ (zi vl) (heap_setCell_same _ W1.heap.size 1 _ _ (zj vk) (heap_setCell_same y1 W1.heap.size 0 _ _ (.string vm) hz))) zS
     rw[lK];have qV:=zh (zka bI.out hbX);have qP:=zh (zkc aR.out hbX);obtain⟨m0,m1,m2,m3⟩:=box4 qP.out;clear hz hz0 hz1 hz2 vY;clear b1 bE aC hbX lK;by_cases hk:vk=nk
     ·have HRR:=zh (show zlz vs ks=R by
       have:ownE vs k s=0:=by rw[ownE,if_neg (by rw[nK.out];exact hn0),vK.out];simp[nK.out,hk]
       rw[<-HR.out,this];simp)
      have e1:(vk==nk)=true:=by simpa using hk
      have e2:(vk != nk)=false:=by simpa using hk
      clear hn0 hk;go_wp2_with fail
      go_loopw [10,35] (fun _ i wr=>∃j:Nat,j<=ks.length/\i=zi j/\zw w wr/\wr.heap[w.heap.size]?=some (.cells #[zj k,zi n,.string s,.slice B ks.length d] 28 (0,0))/\Hid (zlz vs (ks.take j)=0)) (fun _ i _=>ks.length-(intOf i).toNat)
      case atStart=>exact⟨0,Nat.zero_le _,rfl,qV.out,qP.out,zh (by simp[zlz])⟩
      case round =>
       obtain⟨j,hj,rfl,hbl,hbx,HJ⟩:=hrel;have ag:=zh hbl;have xR:=zh hbx;by_cases hlt:j<ks.length
       ·obtain⟨a,t,A1,c1,rfl,_,Ht,⟨y0,y1,y2,y3⟩,hn⟩:=(uX.out.later hbl).nd hlt;obtain⟨re,hre⟩:=zX (fltE vs t);have dJ:=zh (show ∀(v:Value) (w:World),NV w Any t v->w.cell? fp=some (.slice A VL c)->RowV w Any A vs->Calls prog 162 #[.pointer (some fp),v] w (zu (zi re) w) from by
         have h1:=qy.out t (by rw[<-Ht.out];exact List.getElem_mem hlt);rw[hre,BZ.out]at h1;exact h1)
        have gP:=zh hre;have HN:=zh hn;have hal:=zkb hbl (.cells #[zj t.k,zi t.n,.string t.s,.slice A1 t.ks.length c1] 28);have rE:=zh (dJ.out _ _ (HN.out.later (zkb zr (.cells #[zj t.k,zi t.n,.string t.s,.slice A1 t.ks.length c1] 28))) (zb hal HC.out) (ae.out.later hal));clear hn hbl hbx hre hal;go_wp2_with fail;refine rE.out.mono ?_;rintro e w5 ⟨rfl,dO⟩;have aS:=zh (zka (zkb ag.out _) dO);have uz:=zh (zkc (zkd xR.out _) dO);clear dO y0 y1 y2 y3;by_cases hr0:re=0
        ·subst hr0;have HJ2:Hid (zlz vs (ks.take (j+1))=0):=zh (by rw[zm2 hlt HJ.out,Ht.out];exact gP.out);go_wp2_with fail
         go_roundw
         case rel=>exact⟨j+1,zO,by go_num,aS.out,uz.out,HJ2⟩
         case measure=>simp[intOf];omega
        ·have e1:(re==0)=false:=by simpa using hr0
         have e2:(re != 0)=true:=by simpa using hr0
         have HF:=zh (show R=re by rw[<-HRR.out,zm3 hlt HJ.out (by rw[Ht.out,gP.out];exact hr0),Ht.out,gP.out]);clear hr0;go_wp2_with fail;go_ret;exact⟨by rw[HF.out];rfl,aS.out⟩
       ·obtain rfl:j=ks.length:=zO
        have HF:=zh (show R=0 by
         have:=HJ.out;rw[List.take_of_length_le zl]at this;rw[<-HRR.out];exact this)
        clear hbl hbx;go_wp2_with fail;go_ret;exact⟨by rw[HF.out];rfl,ag.out⟩
     ·have HRR:=zh (show R=7 by
       have:ownE vs k s=7:=by rw[ownE,if_neg (by rw[nK.out];exact hn0),vK.out];simp[nK.out,hk]
       rw[<-HR.out,this];rfl)
      have e1:(vk==nk)=false:=by simpa using hk
      have e2:(vk != nk)=true:=by simpa using hk
      clear hn0 hk;go_wp2_with fail;go_ret;exact⟨by rw[HRR.out];rfl,qV.out⟩
def ST.setL(S:ST)(id:Nat)(l:List Int):ST:={ S with cell:=fun j=>if j=id then l else S.cell j }
def ST.el(S:ST)(id i:Nat):Int:=(S.cell id).getD i 0
def ST.put(S:ST)(id i:Nat)(x:Int):ST:=S.setL id ((S.cell id).set i x)
def updE(k x y:Int):Int:=if k=40 then wrap64 (x+y)else if k=41 then wrap64 (x-y)else bits BinOp.xor IntKind.i64 x y
def zlK(S:ST)(k:Int)(id i af:Nat):Int×ST :=
 if k=44 then(if 1000<=(S.cell af).length then(5,S)else(0,(S.setL af (S.cell af++[S.el id i])).put id i 0))
 else if (S.cell af).length=0 then(13,S)
 else if S.el id i≠0 then(14,S)
 else(0,(S.put id i (S.el af ((S.cell af).length-1))).setL af ((S.cell af).take ((S.cell af).length-1)))
def zks(S:ST)(k:Int)(id i:Nat):Int×ST :=
 if k=46 then match S.tin with
  | []=>(17,S)
  | y::r=>if S.el id i≠0 then(14,S)else(0,({ S with tin:=r }:ST).put id i y)
 else if k=49 then(if S.tout=[]then(17,S)else if S.el id i≠0 then(14,S)else(0,({ S with tout:=S.tout.dropLast }:ST).put id i (S.tout.getLast?.getD 0)))
 else if k=47 then(if 4096<=S.tin.length then(5,S)else(0,({ S with tin:=S.el id i::S.tin }:ST).put id i 0))
 else(if 4096<=S.tout.length then(5,S)else(0,({ S with tout:=S.tout++[S.el id i] }:ST).put id i 0))
def CurK(S:ST)(id:Nat)(k:Int):Prop:=∃(i:Nat) (v:VD),S.cur.vs[i]?=some v/\S.cur.cs[i]?=some id/\v.k=k
theorem CurK.kd{S:ST}{id:Nat}{k:Int}(h:CurK S id k){kd:Nat->Int×Int}(hw:S.cur.WF kd S.nc):(kd id).1=k/\id<S.nc:=by
 obtain⟨i,v,h1,h2,h3⟩:=h;obtain⟨a1,a2⟩:=List.getElem?_eq_some_iff.1 h1;obtain⟨b1,b2⟩:=List.getElem?_eq_some_iff.1 h2;have:=hw.kind i a1 b1;rw[b2,a2]at this;exact⟨by rw[this];exact h3,b2▸hw.num _ (List.getElem_mem b1)⟩
theorem CurK.lt{S:ST}{id:Nat}{k:Int}(h:CurK S id k)(hw:S.WF):id<S.nc:=by
 obtain⟨kd,h1⟩:=hw.cur;exact(h.kd h1).2
theorem CurK.ne{S:ST}{id id':Nat}{k k':Int}(h:CurK S id k)(h':CurK S id' k')(hw:S.WF)(hk:k≠k'):id≠id':=fun e=>by
 obtain⟨kd,h1⟩:=hw.cur;subst e;exact hk ((h.kd h1).1.symm.trans (h'.kd h1).1)
theorem zKD{S:ST}(h:S.WF)(id:Nat)(l:List Int)(hl:l.length=(S.cell id).length)(hx:∀x∈l,I64 x):(S.setL id l).WF:=by
 obtain⟨kd,h1,h2,h3⟩:=h.ex;refine⟨⟨kd,h1,h2,fun i hi=>?_⟩,h.ncalls,fun i hi=>?_,h.tin,h.tout⟩
 ·have:=h3 i hi;simp only[ST.setL];by_cases e:i=id
  ·subst e;rw[if_pos rfl,hl];exact this
  ·rw[if_neg e];exact this
 ·have:=h.cells i hi;simp only[ST.setL];by_cases e:i=id
  ·subst e;rw[if_pos rfl,hl];exact⟨this.1,hx⟩
  ·rw[if_neg e];exact this
theorem zwt{S:ST}(h:S.WF)(id:Nat)(hk:CurK S id 3)(l:List Int)(hl:l.length<=1000)(hx:∀x∈l,I64 x):(S.setL id l).WF:=by
 obtain⟨kd,h1,h2,h3⟩:=h.ex;have hc:S.cur.WF kd S.nc:=by
  rcases Nat.eq_zero_or_pos S.calls.length with h0|h0
  ·rw[zmS h0];exact h1
  ·rw[zna h0];exact h2 _ (List.getElem_mem _)
 have hk3:=(hk.kd hc).1;refine⟨⟨kd,h1,h2,fun i hi=>?_⟩,h.ncalls,fun i hi=>?_,h.tin,h.tout⟩
 ·have:=h3 i hi;simp only[ST.setL];by_cases e:i=id
  ·subst e;rw[if_pos rfl];exact⟨fun e=>zO,fun e=>zO,.inr (.inr hk3)⟩
  ·rw[if_neg e];exact this
 ·have:=h.cells i hi;simp only[ST.setL];by_cases e:i=id
  ·subst e;rw[if_pos rfl];exact⟨hl,hx⟩
  ·rw[if_neg e];exact this
theorem zmE{S:ST}(h:S.WF){id:Nat}(hid:id<S.nc)(i:Nat):I64 (S.el id i):=by
 unfold ST.el;rcases Nat.lt_or_ge i (S.cell id).length with hi|hi
 ·rw[List.getD_eq_getElem?_getD,List.getElem?_eq_getElem hi];exact(h.cells id hid).2 _ (List.getElem_mem hi)
 ·rw[List.getD_eq_getElem?_getD,List.getElem?_eq_none hi];exact⟨zY,zY⟩
theorem znd{S:ST}(h:S.WF){id:Nat}(hid:id<S.nc)(i:Nat)(x:Int)(hx:I64 x):(S.put id i x).WF :=
 zKD h id _ zS fun y hy=>by
  rcases List.mem_or_eq_of_mem_set hy with hy|rfl
  ·exact(h.cells id hid).2 y hy
  ·exact hx
def Ph.gI(P:Ph)(id:Nat):Nat:=(P.ci id).ownBlock.getD 0
def Ph.setI(P:Ph)(id:Nat)(vv:Value):Ph:={ P with ci:=fun j=>if j=id then vv else P.ci j }
theorem zvQ(l:List Int)(i:Nat)(x:Int):zki (l.set i x)=(zki l).set i (zi x):=by simp[zki,List.map_set]
theorem zsL(P:Ph)(S:ST)(id i:Nat)(x:Int)(hid:id<S.nc):rows P (S.put id i x)=updR (rows P S) (.ci id) { rows P S (.ci id)with xs:=(rows P S (.ci id)).xs.set i (zi x) }:=by
 funext r
 cases r with
 | ci j =>
  by_cases e:j=id
  ·subst e;simp[updR,rows,ST.put,ST.setL,hid,zvQ]
  ·simp[updR,rows,ST.put,ST.setL,e]
 | cb j=>rfl
 | _=>simp[updR,rows,ST.put,ST.setL]
theorem zuO(P:Ph)(S:ST)(id:Nat)(vv:Value)(l:List Int)(hid:id<S.nc):rows (P.setI id vv) (S.setL id l)=updR (updR (rows P S) (.ci id) ⟨vv,3,1,l.length,zki l⟩) (.cb id) { rows P S (.cb id)with xs:=(rows P S (.cb id)).xs.set 0 vv }:=by
 funext r
 cases r with
 | ci j =>
  by_cases e:j=id
  ·subst e;simp[updR,rows,Ph.setI,ST.setL,hid]
  ·simp[updR,rows,Ph.setI,ST.setL,e]
 | cb j =>
  by_cases e:j=id
  ·subst e;simp[updR,rows,Ph.setI,ST.setL,hid]
  ·simp[updR,rows,Ph.setI,ST.setL,e]
 | calls=>simp only[updR,reduceCtorEq,if_false,rows,ST.setL];rw[zlA (P:=P) (P':=P.setI id vv) rfl rfl];rfl
 | _=>simp[updR,rows,Ph.setI,ST.setL]
section
variable {W:World} {n0:Nat} {P:Ph} {S:ST}
theorem SR.plc(h:SR W n0 P S){id i:Nat}(hid:id<S.nc)(hi:i<(S.cell id).length):(∃c,P.ci id=.slice (some ⟨P.gI id,0,none⟩) (S.cell id).length c/\(S.cell id).length<=c)/\W.cell? ⟨P.gI id,i,none⟩=some (zi (S.el id i))/\W.frozen? ⟨P.gI id,i,none⟩=false:=by
 have hr:=h.rws.row (.ci id);simp only[rows,hid,if_true]at hr;obtain⟨g,c,hv,hc,_,hcell⟩:=zlg hr zO;have hg:P.gI id=g:=by simp[Ph.gI,hv,Value.ownBlock]
 refine⟨⟨c,by rw[hg];exact hv,hc⟩,?_,?_⟩
 ·rw[hg,hcell i zO];simp[zki,ST.el,hi]
 ·exact h.rws.frozen (.ci id) (by simp only[rows,hid,if_true];rw[hv,hg];rfl) i
theorem SR.own(h:SR W n0 P S){id i:Nat}(hid:id<S.nc)(hi:i<(S.cell id).length):(rows P S (.ci id)).v.ownBlock=some (P.gI id):=by
 obtain⟨⟨c,hv,_⟩,_⟩:=h.plc hid hi;simp only[rows,hid,if_true];rw[hv];rfl
theorem SR.put(h:SR W n0 P S){id i:Nat}(hid:id<S.nc)(hi:i<(S.cell id).length)(x:Int)(hx:I64 x):SStp n0 P S W P (S.put id i x) (W.setCell ⟨P.gI id,i,none⟩ (zi x)):=by
 refine⟨?_,znd h.wf hid i x hx⟩;have:=Stp.set (i:=Res.ci id) h.rws (g:=P.gI id) (h.own hid hi) (o:=i) (by simp only[rows,hid,if_true,zkv];exact hi) (zi x);exact this.cast (zsL P S id i x hid).symm
end
theorem SR.stk{W W2:World}{n0:Nat}{P:Ph}{S:ST}(h:SR W n0 P S)(af:Nat)(hs:CurK S af 3)(l:List Int)(vv:Value)(hl:l.length<=1000)(hx:∀x∈l,I64 x)(hc:Chg (fun b=>(P.ci af).ownBlock=some b) W W2)(ho:W2.ownsRow n0 3 1 vv l.length (zki l))(aY:∀b,vv.ownBlock=some b->(P.ci af).ownBlock=some b\/W.heap.size<=b) :
  W2.cell? ⟨P.cb af,0,none⟩=some (P.ci af)/\W2.frozen? ⟨P.cb af,0,none⟩=false/\SStp n0 P S W (P.setI af vv) (S.setL af l) (W2.setCell ⟨P.cb af,0,none⟩ vv):=by
 have hid:=hs.lt h.wf;have ev:(rows P S (.ci af)).v=P.ci af:=by simp only[rows,hid,if_true]
 have s1:=Stp.upd (i:=Res.ci af) (r:=⟨vv,3,1,l.length,zki l⟩) h.rws (hc.mono fun b _ hb=>by rw[ev];exact hb) ho (fun b hb=>by rw[ev];exact aY b hb);have eb:updR (rows P S) (.ci af) ⟨vv,3,1,l.length,zki l⟩ (.cb af)=rows P S (.cb af):=zkm zS;have xP:rows P S (.cb af)=⟨boxV (P.cb af),171,1,1,[P.ci af]⟩:=by simp only[rows,hid,if_true]
 have s2:=Stp.set (i:=Res.cb af) s1.rws (g:=P.cb af) (by rw[eb,xP];rfl) (o:=0) (by rw[eb,xP];exact Nat.one_pos) vv;rw[eb]at s2;refine⟨s1.rws.cell (.cb af) (g:=P.cb af) (o:=0) (by rw[eb,xP];rfl) (by rw[eb,xP];rfl),s1.rws.frozen (.cb af) (g:=P.cb af) (by rw[eb,xP];rfl) 0,⟨(s1.trans s2).cast (zuO P S af vv l hid).symm,zwt h.wf af hs l hl hx⟩⟩
theorem zLa:(prog.info? 3).map (fun i=>(i.zero,i.size,i.bytes))=some (some (zi 0),1,8):=zn0
theorem zxC{W:World}{n0:Nat}{P:Ph}{S:ST}(h:SR W n0 P S)(k:Int)(hk:k=44\/k=45)(id i af:Nat)(hid:id<S.nc)(hi:i<(S.cell id).length)(hs:CurK S af 3)(hne:id≠af) :
  Calls prog 174 #[zj k,.pointer (some ⟨P.gI id,i,none⟩),.pointer (some ⟨P.cb af,0,none⟩)] W fun e W'=>e=.returned (zi (zlK S k id i af).1)/\∃P',SStp n0 P S W P' (zlK S k id i af).2 W'/\P'.sb=P.sb:=by
 have bX:=hs.lt h.wf;obtain⟨R,hR⟩:=zX (zlK S k id i af);rw[hR];have HRR:=zh hR;have HS:=zh h;have HK:=zh hs;obtain⟨A,c,hci,hc,aT⟩:=h.items bX;have hcs:=h.wf.cells af bX;have x0:W.cell? ⟨P.cb af,0,none⟩=some (.slice A (S.cell af).length c):=by rw[<-hci];exact zc (h.cbox bX) rfl
 obtain⟨-,p0,p1⟩:=h.plc hid hi;obtain⟨x,hx⟩:=zX (S.el id i);rw[hx]at p0;have HX:=zh hx;obtain⟨L,hL⟩:=zX ((S.cell af).length);rw[hL]at x0;have HL:=zh hL;have hL1:L<=1000:=by rw[<-hL];exact hcs.1
 have yx:=zh hci;have bU:=zh aT;clear h hs hci aT hx hL hR hc;rcases hk with rfl|rfl
 ·by_cases hf:1000<=L
  ·have HN:=zh (show R=(5,S) by rw[<-HRR.out,zlK,if_pos rfl,if_pos (by rw[HL.out];exact hf)]);obtain rfl:L=1000:=zO
   go_enter func174,ntmps174;go_wp2_with fail;go_ret;exact⟨by rw[HN.out];rfl,P,by rw[HN.out];exact SStp.refl HS.out zr,rfl⟩
  ·have HN:=zh (show R=(0,(S.setL af (S.cell af++[x])).put id i 0) by rw[<-HRR.out,zlK,if_pos rfl,if_neg (by rw[HL.out];exact hf),HX.out]);have hf1:¬ (1000:Int)<=(L:Int):=zO
   obtain⟨i1,hi1,hz0,hz1,hz2⟩:=info_parts zLa;have hbi:=zpb;have yF:I64 x:=by rw[<-HX.out];exact zmE HS.out.wf hid i
   clear HRR;go_enter func174,ntmps174;go_upto_region 7 with fail;have hSS:(fun w':World=>zv w' (P.gI id) i (zi x)) W.drew/\(fun w':World=>zv w' (P.cb af) 0 (.slice A L c)) W.drew:=⟨p0,x0⟩
   refine wp_region_noPanic ?_;refine zkl (fun w':World=>zv w' (P.gI id) i (zi x)) (fun w':World=>zv w' (P.cb af) 0 (.slice A L c)) 9 zK ?_;refine zT 0 hSS ?_;refine zT 1 hSS ?_;refine zT 2 hSS ?_;refine zT 3 hSS ?_;refine zJ 4 hSS ?_;refine zT 5 hSS ?_;refine zT 6 hSS ?_;refine zT 7 hSS ?_;refine zo 8 fun K hK=>?_;(try simp only[zA,zB,zC]);go_simp;refine hK.out _ _ ⟨zkj p0 _,zkj x0 _⟩ ?_;clear hK K hSS;(try simp only[zQ]);obtain⟨W2,hW2⟩:=zX ((W.alloc (.cells #[zi x] 3)).drew);have hb2:zw W W2:=hW2▸(zkb zr _).drew;have aF:=zh (show ∀j u,[Value.int .i64 x][j]?=some u->W2.cell? ((⟨W.heap.size,0,none⟩:Addr).add j)=some u from hW2▸zkU W 3 [zi x]);have xk:W2.ownsRow n0 3 1 (.slice A L c) L (zki (S.cell af)):=by
    have:=zkK (HS.out.rws.row (.ci af)) hb2;simp only[rows,bX,if_true]at this;rw[yx.out,HL.out]at this;exact this
   have hs2:=hb2.size;have d0:=zb hb2 p0;have hn0:=(HS.out.rws.lt .sb P.sb rfl)
   have HST:=zh (fun w3 vv=>SR.stk (W2:=w3) (HS.out.later hb2) af HK.out (S.cell af++[x]) vv (by rw[List.length_append,HL.out];simp;omega) (fun y hy=>by
    simp only[List.mem_append,List.mem_singleton]at hy;rcases hy with hy|rfl
    ·exact(hcs.2 y hy)
    ·exact yF))
   rw[hW2];have hnb:∀b,(P.ci af).ownBlock=some b->b≠P.gI id:=fun b hb e=>by
    have h1:=HS.out.own hid hi;rw[<-e]at h1;exact HS.out.rws.sep (.ci id) (.ci af) b (by simpa using hne) h1 (by simp only[rows,bX,if_true];exact hb)
   rw[yx.out]at HST hnb;rw[HL.out]at HST hnb;have qo:=zh hnb;have dK:=zh hb2;clear hW2 hnb hb2;refine zp 9 fun K hK=>?_;refine zkY zR (.tmp 47) (.tmp 51) 42 zR n0 3 i1 _ 1 8 underlying42 hi1 hz0 hz1 hz2 rfl zY (.slice A L c) L (zki (S.cell af)) zR xk ⟨W.heap.size,0,none⟩ 1 1 [zi x] zR rfl aF.out (by intro u hu;simp at hu;subst hu;rfl) (by unfold maxLen;omega) zO zO ?_;intro v' w3 h2 h3 h5;obtain⟨g8,aA,rfl⟩:=ownsRow_succ h2;have hll:(S.cell af++[x]).length=L+1:=by rw[List.length_append,HL.out];rfl
   obtain⟨z0,zf,hfin⟩:=HST.out w3 _ (Chg.row h3) (by rw[hll,zmQ];exact h2) (fun b hb=>by
    rcases h5 with h5|h5
    ·exact .inl (h5▸hb)
    ·exact .inr (by rw[h5]at hb;injection hb with hb;omega))
   have y0:w3.cell? ⟨P.gI id,i,none⟩=some (zi x):=zk2 (Chg.row h3) d0 (fun e=>qo.out _ e rfl);have hput:=SR.put (hfin.sr) (id:=id) (i:=i) hid (by show i<((S.setL af _).cell id).length;simp only[ST.setL,if_neg hne];exact hi) 0 ⟨zY,zY⟩;have hgi:(P.setI af (.slice (some ⟨g8,0,none⟩) (L+1) aA)).gI id=P.gI id:=by simp[Ph.gI,Ph.setI,hne]
   rw[hgi]at hput;have mM:P.cb af≠P.gI id:=fun e=>by
    have h1:=HS.out.own hid hi;exact HS.out.rws.sep (.ci id) (.cb af) (P.gI id) zS h1 (by simp only[rows,bX,if_true];rw[e];rfl)
   have y1:(w3.setCell ⟨P.cb af,0,none⟩ (.slice (some ⟨g8,0,none⟩) (L+1) aA)).cell? ⟨P.gI id,i,none⟩=some (zi x):=(World.cell?_setCell_far _ _ _ _ mM).trans y0;have aX:=zh (hfin.trans hput);have hfr:=hfin.sr.plc (id:=id) (i:=i) hid (by show i<((S.setL af _).cell id).length;simp only[ST.setL,if_neg hne];exact hi);rw[hgi]at hfr;have yf:=hfr.2.2;refine hK.out _ _ y0 ?_;clear hK K h2 h3 h5 hfin hput xk aF d0 hfr;(try simp only[zQ]);refine zp 10 fun K hK=>?_;(try simp only[zA,zB,zC]);go_simp;refine hK.out _ _ y0 ?_;clear hK K;(try simp only[zQ]);refine zp 11 fun K hK=>?_;(try simp only[zA,zB,zC]);go_simp;refine hK.out _ _ y0 ?_;clear hK K;(try simp only[zQ]);refine zp 12 fun K hK=>?_;(try simp only[zA,zB,zC]);go_simp;refine hK.out _ _ y1 ?_;clear hK K;(try simp only[zQ]);refine zd ?_;refine NoPanic.normal ?_
   obtain⟨w4,hw4⟩:=zX (w3.setCell ⟨P.cb af,0,none⟩ (.slice (some ⟨g8,0,none⟩) (L+1) aA));rw[hw4]at y1 yf aX ⊢;clear hw4 z0 zf y0;go_wp2_with fail;go_ret;refine⟨by rw[HN.out];rfl,P.setI af (.slice (some ⟨g8,0,none⟩) (L+1) aA),?_,rfl⟩;rw[HN.out];exact⟨aX.out.st.after dK.out HS.out.rws,aX.out.wf⟩
 ·rcases Nat.eq_zero_or_pos L with h0|h0
  ·subst h0;have HN:=zh (show R=(13,S) by rw[<-HRR.out,zlK,if_neg zY,if_pos HL.out]);go_enter func174,ntmps174;go_wp2_with fail;go_ret;exact⟨by rw[HN.out];rfl,P,by rw[HN.out];exact SStp.refl HS.out zr,rfl⟩
  ·obtain⟨m,rfl⟩:∃m,L=m+1:=⟨L-1,zO⟩
   have hm0:¬ ((m:Int)+1=0):=zO
   have hm1:(((m:Int)+1)==0)=false:=by simpa using hm0
   by_cases hx0:x=0
   ·subst hx0;obtain⟨a,rfl,hz⟩:=bU.out.nd (i:=m) (by rw[HL.out];omega);obtain⟨y,hy⟩:=zX ((S.cell af).getD m 0);rw[hy]at hz;have HN:=zh (show R=(0,(S.put id i y).setL af ((S.cell af).take m)) by
     rw[<-HRR.out,zlK,if_neg zY,if_neg (by rw[HL.out];omega),if_neg (by rw[HX.out];simp),HL.out];rw[show S.el af (m+1-1)=y from hy];rfl)
    have rM:I64 y:=by rw[<-hy];exact zmE HS.out.wf bX m
    have s1:=HS.out.put hid hi y rM;obtain⟨g,c2,hv2,hc2,hm2,hcell2⟩:=zlg (HS.out.rws.row (.ci af)) (by simp only[rows,bX,if_true];rw[HL.out];omega);simp only[rows,bX,if_true]at hv2 hc2;rw[HL.out]at hc2;rw[yx.out]at hv2;injection hv2 with a1 a2 a3;injection a1 with a1;subst a1 a3;rw[Addr.add_lit,Nat.zero_add]at hz;have mM:P.cb af≠P.gI id:=fun e=>by
     have h1:=HS.out.own hid hi;exact HS.out.rws.sep (.ci id) (.cb af) (P.gI id) zS h1 (by simp only[rows,bX,if_true];rw[e];rfl)
    have x1:(W.setCell ⟨P.gI id,i,none⟩ (zi y)).cell? ⟨P.cb af,0,none⟩=some (.slice (some ⟨g,0,none⟩) (m+1) c):=(World.cell?_setCell_far _ _ _ _ (Ne.symm mM)).trans x0;have hrow1:(W.setCell ⟨P.gI id,i,none⟩ (zi y)).ownsRow n0 3 1 (.slice (some ⟨g,0,none⟩) m c) m (zki ((S.cell af).take m)):=by
     have:=s1.st.rws.row (.ci af);have e1:rows P (S.put id i y) (.ci af)=⟨.slice (some ⟨g,0,none⟩) (m+1) c,3,1,m+1,zki (S.cell af)⟩:=by
      rw[zsL P S id i y hid,zkm (by simpa using Ne.symm hne)];simp only[rows,bX,if_true];rw[yx.out,HL.out]
     rw[e1]at this;have e2:zki (S.cell af)=zki ((S.cell af).take m)++(zki (S.cell af)).drop (m*1):=by rw[Nat.mul_one,zki,zki,List.map_take,List.take_append_drop]
     dsimp only at this;rw[e2]at this;exact ownsRow_pop (by rw[zkv,List.length_take,HL.out];omega) this
    have hltm:((S.cell af).take m).length=m:=by rw[List.length_take,HL.out];omega
    have hcell1:(S.put id i y).cell af=S.cell af:=by simp[ST.put,ST.setL,Ne.symm hne]
    obtain⟨z0,zf,hfin⟩:=SR.stk (W2:=W.setCell ⟨P.gI id,i,none⟩ (zi y)) s1.sr af HK.out ((S.cell af).take m) (.slice (some ⟨g,0,none⟩) m c) zO (fun q hq=>hcs.2 q (List.mem_of_mem_take hq)) (Chg.refl _ _) (by rw[hltm];exact hrow1) (fun b hb=>.inl (by rw[yx.out];exact hb));have aX:=zh (s1.trans hfin);have hw1:IntKind.i64.wrap (m:Int)=(m:Int):=IntWalk.i64_in _ zO;have hmc:(m:Int)<=(c:Int):=zO
    have hmm:(m:Int)<(m:Int)+1:=zO
    clear s1 hfin hrow1 z0 hcell2 HRR;go_enter func174,ntmps174;go_wp2_with fail;go_ret;refine⟨by rw[HN.out];rfl,P.setI af (.slice (some ⟨g,0,none⟩) m c),?_,rfl⟩;rw[HN.out];exact aX.out
   ·have HN:=zh (show R=(14,S) by rw[<-HRR.out,zlK,if_neg zY,if_neg (by rw[HL.out];omega),if_pos (by rw[HX.out];exact hx0)]);have hx1:(x != 0)=true:=by simpa using hx0
    have hx2:(x==0)=false:=by simpa using hx0
    go_enter func174,ntmps174;go_wp2_with fail;go_ret;exact⟨by rw[HN.out];rfl,P,by rw[HN.out];exact SStp.refl HS.out zr,rfl⟩
theorem zvI:IsFn prog 183 f183:=⟨func183,zK,zK⟩
theorem zxT:IsFn prog 185 f185:=⟨func185,zK,zK⟩
theorem SR.tp{W:World}{n0:Nat}{P:Ph}{S:ST}(h:SR W n0 P S):W.cell? ⟨P.sb,4,none⟩=some (.pointer (some ⟨P.tb,0,none⟩)):=zc h.box rfl
theorem zqJ{W:World}{n0:Nat}{P:Ph}{S:ST}(h:SR W n0 P S)(k:Int)(hk:k=46\/k=49\/k=47\/k=48)(id i:Nat)(hid:id<S.nc)(hi:i<(S.cell id).length) :
  Calls prog 175 #[.pointer (some ⟨P.sb,0,none⟩),zj k,.pointer (some ⟨P.gI id,i,none⟩)] W fun e W'=>e=.returned (zi (zks S k id i).1)/\∃P',SStp n0 P S W P' (zks S k id i).2 W'/\P'.sb=P.sb:=by
 obtain⟨R,hR⟩:=zX (zks S k id i);rw[hR];have HRR:=zh hR;have HS:=zh h;have x4:=h.tp;obtain⟨-,p0,p1⟩:=h.plc hid hi;obtain⟨x,hx⟩:=zX (S.el id i);rw[hx]at p0;have HX:=zh hx;have yF:I64 x:=by rw[<-hx];exact zmE h.wf hid i
 clear hR hx h;rcases hk with rfl|rfl|rfl|rfl
 ·have oz:=zh (zyD HS.out);go_enter func175,ntmps175;go_wp2_with fail;refine oz.out.mono ?_;rintro e w1 hh;rcases hh with⟨h0,rfl,hb⟩|⟨y,r,h0,rfl,vv,hst⟩
  ·have HN:=zh (show R=(17,S) by rw[<-HRR.out,zks,if_pos rfl,h0]);have HB:=zh hb;clear h0 hb;go_wp2_with fail;go_ret;exact⟨by rw[HN.out];rfl,P,by rw[HN.out];exact SStp.refl HS.out HB.out,rfl⟩
  ·have ht:=HS.out.wf.tin;rw[h0]at ht;have rM:I64 y:=ht.2 y (List.mem_cons_self ..);have y4:w1.cell? ⟨P.sb,4,none⟩=some (.pointer (some ⟨P.tb,0,none⟩)):=hst.sr.tp;obtain⟨-,r0,r1⟩:=hst.sr.plc (id:=id) (i:=i) hid hi;have r0':w1.cell? ⟨P.gI id,i,none⟩=some (zi x):=by rw[<-HX.out];exact r0
   have r1':w1.frozen? ⟨P.gI id,i,none⟩=false:=r1;by_cases hx0:x=0
   ·subst hx0;have HN:=zh (show R=(0,({ S with tin:=r }:ST).put id i y) by rw[<-HRR.out,zks,if_pos rfl,h0];dsimp only;rw[HX.out];simp);have nJ:=zh (hst.trans (hst.sr.put (id:=id) (i:=i) hid hi y rM));clear h0 hst ht r0 r1;go_wp2_with fail;go_ret;exact⟨by rw[HN.out];rfl,{ P with vI:=vv },by rw[HN.out];exact nJ.out,rfl⟩
   ·have HN:=zh (show R=(14,S) by rw[<-HRR.out,zks,if_pos rfl,h0];dsimp only;rw[HX.out,if_pos hx0]);have hx1:(x != 0)=true:=by simpa using hx0
    have hx2:(x==0)=false:=by simpa using hx0
    have Ca:=zh (zpZ hst.sr y rM);have hrl:¬ 4096<=r.length:=by have:=ht.1;simp at this;omega
    have HST:=zh hst;have H0:=zh h0;clear h0 hst ht r0 r1;go_wp2_with fail;refine Ca.out.mono ?_;rintro e w2 hh;rcases hh with⟨h1,rfl,hb⟩|⟨h1,rfl,zR,iy⟩
    ·exact absurd h1 hrl
    ·have HS2:=zh iy;clear h1 iy;go_wp2_with fail;go_ret;refine⟨by rw[HN.out];rfl,{ P with vI:=zR },?_,rfl⟩;rw[HN.out];have h3:=HST.out.trans HS2.out;have e3:({ { S with tin:=r } with tin:=y::({ S with tin:=r }:ST).tin }:ST)=S:=by
      show({ S with tin:=y::r }:ST)=S
      rw[<-H0.out]
     rw[e3]at h3;exact h3
 ·have oz:=zh (zsq HS.out);go_enter func175,ntmps175;go_wp2_with fail;refine oz.out.mono ?_;rintro e w1 hh;rcases hh with⟨h0,rfl,hb⟩|⟨r,y,h0,rfl,vv,hst⟩
  ·have HN:=zh (show R=(17,S) by rw[<-HRR.out,zks,if_neg zY,if_pos rfl,if_pos h0]);have HB:=zh hb;clear h0 hb;go_wp2_with fail;go_ret;exact⟨by rw[HN.out];rfl,P,by rw[HN.out];exact SStp.refl HS.out HB.out,rfl⟩
  ·have ht:=HS.out.wf.tout;rw[h0]at ht;have rM:I64 y:=ht.2 y zS;have hne:S.tout≠[]:=by rw[h0];simp
   have hdl:S.tout.dropLast=r:=by rw[h0];simp
   have hgl:S.tout.getLast?.getD 0=y:=by rw[h0];simp
   have y4:w1.cell? ⟨P.sb,4,none⟩=some (.pointer (some ⟨P.tb,0,none⟩)):=hst.sr.tp;obtain⟨-,r0,r1⟩:=hst.sr.plc (id:=id) (i:=i) hid hi;have r0':w1.cell? ⟨P.gI id,i,none⟩=some (zi x):=by rw[<-HX.out];exact r0
   have r1':w1.frozen? ⟨P.gI id,i,none⟩=false:=r1;by_cases hx0:x=0
   ·subst hx0;have HN:=zh (show R=(0,({ S with tout:=r }:ST).put id i y) by rw[<-HRR.out,zks,if_neg zY,if_pos rfl,if_neg hne,hdl,hgl,HX.out];simp);have nJ:=zh (hst.trans (hst.sr.put (id:=id) (i:=i) hid hi y rM));clear h0 hst ht r0 r1 hne hdl hgl;go_wp2_with fail;go_ret;exact⟨by rw[HN.out];rfl,{ P with vO:=vv },by rw[HN.out];exact nJ.out,rfl⟩
   ·have HN:=zh (show R=(14,S) by rw[<-HRR.out,zks,if_neg zY,if_pos rfl,if_neg hne,HX.out,if_pos hx0]);have hx1:(x != 0)=true:=by simpa using hx0
    have hx2:(x==0)=false:=by simpa using hx0
    have Ca:=zh (zrs hst.sr y rM);have hrl:¬ 4096<=r.length:=by have:=ht.1;simp at this;omega
    have HST:=zh hst;have H0:=zh h0;clear h0 hst ht r0 r1 hne hdl hgl;go_wp2_with fail;refine Ca.out.mono ?_;rintro e w2 hh;rcases hh with⟨h1,rfl,hb⟩|⟨h1,rfl,zR,iy⟩
    ·exact absurd h1 hrl
    ·have HS2:=zh iy;clear h1 iy;go_wp2_with fail;go_ret;refine⟨by rw[HN.out];rfl,{ P with vO:=zR },?_,rfl⟩;rw[HN.out];have h3:=HST.out.trans HS2.out;have e3:({ { S with tout:=r } with tout:=({ S with tout:=r }:ST).tout++[y] }:ST)=S:=by
      show({ S with tout:=r++[y] }:ST)=S
      rw[<-H0.out]
     rw[e3]at h3;exact h3
 ·skip
  have had:Calls prog 183 [.pointer (some ⟨P.tb,0,none⟩),zi x].toArray W.drew fun e W'=>∃u,e=.returned u/\∃y,u=zi y /\
    ((y=5/\R=(5,S)/\zw W W')\/(y=0/\R=(0,({ S with tin:=x::S.tin }:ST).put id i 0)/\∃vv,SStp n0 P S W { P with vI:=vv } ({ S with tin:=x::S.tin }:ST) W')):=by
   refine(zpZ (HS.out.later zr.drew) x yF).mono ?_;rintro e W' hh;rcases hh with⟨h0,rfl,hb⟩|⟨h0,rfl,vv,hst⟩
   ·exact⟨_,rfl,5,rfl,.inl ⟨rfl,by rw[<-HRR.out,zks,if_neg zY,if_neg zY,if_pos rfl,if_pos h0],zka zr.drew hb⟩⟩
   ·exact⟨_,rfl,0,rfl,.inr ⟨rfl,by rw[<-HRR.out,zks,if_neg zY,if_neg zY,if_pos rfl,if_neg zO,HX.out],vv,⟨hst.st.after zr.drew HS.out.rws,hst.wf⟩⟩⟩
  go_enter func175,ntmps175;go_upto_region 17 with fail;have hSS:zW (fun w':World=>zv w' P.sb 4 (.pointer (some ⟨P.tb,0,none⟩))/\zv w' (P.gI id) i (zi x)) zU W.drew:=⟨⟨x4,p0⟩,trivial⟩
  refine wp_region_noPanic ?_;refine zG hSS 7 ?_;refine zT 0 hSS ?_;refine zT 1 hSS ?_;refine zT 2 hSS ?_;refine zT 3 hSS ?_;refine zT 4 hSS ?_;refine zT 5 hSS ?_;refine zT 6 hSS ?_;refine zp 7 fun K hK=>?_;refine zke zR (.func 183) [.tmp 72,.tmp 75] _ zR 183 _ zvI zR _ zR _ had ?_;rintro v4 w4 ⟨y,rfl,hh⟩;have HH:=zh hh;have mP:w4.cell? ⟨P.sb,4,none⟩=some (.pointer (some ⟨P.tb,0,none⟩))/\w4.cell? ⟨P.gI id,i,none⟩=some (zi x)/\w4.frozen? ⟨P.gI id,i,none⟩=false:=by
   rcases hh with⟨_,_,hb⟩|⟨_,_,vv,hst⟩
   ·exact⟨zb hb x4,zb hb p0,((HS.out.later hb).plc hid hi).2.2⟩
   ·have h9:=hst.sr.plc (id:=id) (i:=i) hid hi;exact⟨hst.sr.tp,by rw[<-HX.out];exact h9.2.1,h9.2.2⟩
  obtain⟨b4,b5,b6⟩:=mP;refine hK.out _ _ ⟨b4,b5⟩ ?_;clear hK K hSS had hh;(try simp only[zQ]);refine zp 8 fun K hK=>?_;(try simp only[zA,zB,zC]);go_simp;refine hK.out _ _ ⟨b4,b5⟩ ?_;clear hK K;(try simp only[zQ]);refine zd ?_;refine NoPanic.normal ?_;rcases HH.out with⟨rfl,h1,hb⟩|⟨rfl,h1,vv,hst⟩
  ·have HN:=zh h1;have HB:=zh hb;clear HH h1 hb;go_wp2_with fail;go_ret;exact⟨by rw[HN.out];rfl,P,by rw[HN.out];exact SStp.refl HS.out HB.out,rfl⟩
  ·have HN:=zh h1;have nJ:=zh (hst.trans (hst.sr.put (id:=id) (i:=i) hid hi 0 ⟨zY,zY⟩));clear HH h1 hst;go_wp2_with fail;go_ret;exact⟨by rw[HN.out];rfl,{ P with vI:=vv },by rw[HN.out];exact nJ.out,rfl⟩
 ·skip
  have had:Calls prog 185 [.pointer (some ⟨P.tb,0,none⟩),zi x].toArray W.drew fun e W'=>∃u,e=.returned u/\∃y,u=zi y /\
    ((y=5/\R=(5,S)/\zw W W')\/(y=0/\R=(0,({ S with tout:=S.tout++[x] }:ST).put id i 0)/\∃vv,SStp n0 P S W { P with vO:=vv } ({ S with tout:=S.tout++[x] }:ST) W')):=by
   refine(zrs (HS.out.later zr.drew) x yF).mono ?_;rintro e W' hh;rcases hh with⟨h0,rfl,hb⟩|⟨h0,rfl,vv,hst⟩
   ·exact⟨_,rfl,5,rfl,.inl ⟨rfl,by rw[<-HRR.out,zks,if_neg zY,if_neg zY,if_neg zY,if_pos h0],zka zr.drew hb⟩⟩
   ·exact⟨_,rfl,0,rfl,.inr ⟨rfl,by rw[<-HRR.out,zks,if_neg zY,if_neg zY,if_neg zY,if_neg zO,HX.out],vv,⟨hst.st.after zr.drew HS.out.rws,hst.wf⟩⟩⟩
  go_enter func175,ntmps175;go_upto_region 19 with fail;have hSS:zW (fun w':World=>zv w' P.sb 4 (.pointer (some ⟨P.tb,0,none⟩))/\zv w' (P.gI id) i (zi x)) zU W.drew:=⟨⟨x4,p0⟩,trivial⟩
  refine wp_region_noPanic ?_;refine zG hSS 7 ?_;refine zT 0 hSS ?_;refine zT 1 hSS ?_;refine zT 2 hSS ?_;refine zT 3 hSS ?_;refine zT 4 hSS ?_;refine zT 5 hSS ?_;refine zT 6 hSS ?_;refine zp 7 fun K hK=>?_;refine zke zR (.func 185) [.tmp 82,.tmp 85] _ zR 185 _ zxT zR _ zR _ had ?_;rintro v4 w4 ⟨y,rfl,hh⟩;have HH:=zh hh;have mP:w4.cell? ⟨P.sb,4,none⟩=some (.pointer (some ⟨P.tb,0,none⟩))/\w4.cell? ⟨P.gI id,i,none⟩=some (zi x)/\w4.frozen? ⟨P.gI id,i,none⟩=false:=by
   rcases hh with⟨_,_,hb⟩|⟨_,_,vv,hst⟩
   ·exact⟨zb hb x4,zb hb p0,((HS.out.later hb).plc hid hi).2.2⟩
   ·have h9:=hst.sr.plc (id:=id) (i:=i) hid hi;exact⟨hst.sr.tp,by rw[<-HX.out];exact h9.2.1,h9.2.2⟩
  obtain⟨b4,b5,b6⟩:=mP;refine hK.out _ _ ⟨b4,b5⟩ ?_;clear hK K hSS had hh;(try simp only[zQ]);refine zp 8 fun K hK=>?_;(try simp only[zA,zB,zC]);go_simp;refine hK.out _ _ ⟨b4,b5⟩ ?_;clear hK K;(try simp only[zQ]);refine zd ?_;refine NoPanic.normal ?_;rcases HH.out with⟨rfl,h1,hb⟩|⟨rfl,h1,vv,hst⟩
  ·have HN:=zh h1;have HB:=zh hb;clear HH h1 hb;go_wp2_with fail;go_ret;exact⟨by rw[HN.out];rfl,P,by rw[HN.out];exact SStp.refl HS.out HB.out,rfl⟩
  ·have HN:=zh h1;have nJ:=zh (hst.trans (hst.sr.put (id:=id) (i:=i) hid hi 0 ⟨zY,zY⟩));clear HH h1 hst;go_wp2_with fail;go_ret;exact⟨by rw[HN.out];rfl,{ P with vO:=vv },by rw[HN.out];exact nJ.out,rfl⟩
theorem zt9(k x y:Int)(hk:k=40\/k=41\/k=42)(w:World):Calls prog 173 #[zj k,zi x,zi y] w fun e w'=>e=.returned (.tuple #[zi (updE k x y),zi 0])/\w'=w:=by
 rcases hk with rfl|rfl|rfl
 ·rw[show updE 40 x y=wrap64 (x+y) by simp[updE]];go_enter func173,ntmps173;go_wp2_with fail;go_ret2;exact⟨rfl,rfl⟩
 ·rw[show updE 41 x y=wrap64 (x-y) by simp[updE]];go_enter func173,ntmps173;go_wp2_with fail;go_ret2;exact⟨rfl,rfl⟩
 ·rw[show updE 42 x y=bits BinOp.xor IntKind.i64 x y by simp[updE]];go_enter func173,ntmps173;go_wp2_with fail;go_ret2;exact⟨rfl,rfl⟩
theorem zrE(x:Int):I64 (IntKind.i64.wrap x):=by
 rw[IntKind.wrap_i64];unfold I64;omega
theorem zzi(k x y:Int):I64 (updE k x y):=by
 unfold updE
 split
 ·unfold wrap64 I64;omega
 ·split
  ·unfold wrap64 I64;omega
  ·exact zrE _
theorem zpR:∀(vs:List VD) (s:ByteArray) (j:Nat),j<=vs.length->zlt (vs.take j) s=(zmg vs s j).bind fun i=>vs[i]?
 | vs,s,0,_=>by simp[zlt,zmg]
 | vs,s,j+1,h=>by
  rw[zpQ zO,zpE zO,zpR vs s j zO];by_cases e:vs[j].s.toList=s.toList
  ·have e':(vs[j].s.toList==s.toList)=true:=by simpa using e
   have hj:j<vs.length:=zO
   rw[if_pos e,if_pos e'];simp[hj]
  ·have e':¬ (vs[j].s.toList==s.toList)=true:=by simpa using e
   rw[if_neg e,if_neg e']
theorem zx5(f:FR)(s:ByteArray):zlt f.vs s=(f.at s).bind fun i=>f.vs[i]?:=by
 have:=zpR f.vs s f.vs.length zl;rw[List.take_of_length_le zl]at this;exact this
theorem zq3{S:ST}(h:S.WF){s:ByteArray}{v:VD}(hv:zlt S.cur.vs s=some v):∃id,S.num s=some id/\CurK S id v.k:=by
 rw[zx5,Option.bind_eq_some_iff]at hv;obtain⟨i,h1,h2⟩:=hv;obtain⟨kd,hw⟩:=h.cur;have hi:=FR.at_lt h1;have hc:i<S.cur.cs.length:=by rw[hw.len];exact hi
 refine⟨S.cur.cs[i],by rw[ST.num,h1];simp[hc],i,v,h2,List.getElem?_eq_getElem hc,rfl⟩
theorem znk{vs:List VD}{k n:Int}{s:ByteArray}{ks:List T}(h:fltE vs (.nd k n s ks)=0):ownE vs k s=0/\zlz vs ks=0:=by
 rw[fltE]at h
 split at h
 ·contradiction
 ·next h1=>exact⟨Classical.not_not.1 h1,h⟩
theorem zlG{vs:List VD}:∀ {ks:List T},zlz vs ks=0->∀t∈ks,fltE vs t=0
 | t::ts,h,u,hu=>by
  rw[zlz]at h
  split at h
  ·contradiction
  ·next h1 =>
   rcases List.mem_cons.1 hu with rfl|hu
   ·exact Classical.not_not.1 h1
   ·exact zlG h u hu
theorem znt{vs:List VD}{k:Int}{s:ByteArray}(h:ownE vs k s=0)(hn:znX k≠0):∃v,zlt vs s=some v/\v.k=znX k:=by
 rw[ownE,if_neg hn]at h
 cases hf:zlt vs s with
 | none=>rw[hf]at h;cases h
 | some v =>
  rw[hf]at h;dsimp only at h
  split at h
  ·next h1=>exact⟨v,rfl,h1⟩
  ·cases h
theorem zmM{S:ST}(h:S.WF){p:T}(hp:isP p=true)(hf:fltE S.cur.vs p=0):∃id k,S.num p.s=some id/\CurK S id k/\k≠3:=by
 obtain⟨k,n,s,ks⟩:=p;simp only[isP,T.k_nd,Bool.and_eq_true,Bool.or_eq_true,beq_iff_eq]at hp;obtain⟨h1,_⟩:=znk hf;rcases hp.1 with rfl|rfl
 ·obtain⟨v,h2,h3⟩:=znt h1 zY;obtain⟨id,h4,h5⟩:=zq3 h h2;exact⟨id,v.k,h4,h5,by rw[h3];decide⟩
 ·obtain⟨v,h2,h3⟩:=znt h1 zY;obtain⟨id,h4,h5⟩:=zq3 h h2;exact⟨id,v.k,h4,h5,by rw[h3];decide⟩
def znp(S:ST)(id i jd j:Nat):ST:=(S.put id i (S.el jd j)).put jd j (S.el id i)
def zkC(S:ST)(k:Int)(s qs:ByteArray)(r2:Int)(id i:Nat):Int×ST :=
 if k=40\/k=41\/k=42 then(0,S.put id i (updE k (S.el id i) r2))
 else if k=43 then match S.num qs with
  | none=>(0,S)
  | some jd=>if 0<=r2/\r2<(S.cell jd).length then(0,znp S id i jd r2.toNat)else(12,S)
 else if k=44\/k=45 then match S.num s with
  | none=>(0,S)
  | some af=>zlK S k id i af
 else zks S k id i
def zk6(S:ST)(k:Int)(q:T):Int×Int:=if k=43 then indE S.look q else if k=40\/k=41\/k=42 then zli S.look q else(0,0)
def znB(S:ST)(k:Int)(s ps qs:ByteArray)(r1:Int)(r2:Int×Int):Int×ST :=
 if r2.2≠0 then(r2.2,S)else match S.num ps with
  | none=>(0,S)
  | some id=>if 0<=r1/\r1<(S.cell id).length then zkC S k s qs r2.1 id r1.toNat else(12,S)
def zlj(S:ST)(k:Int)(s:ByteArray)(p q:T)(r1 r2:Int×Int):Int×ST:=if r1.2≠0 then(r1.2,S)else znB S k s p.s q.s r1.1 r2
def nil0:T:=.nd 0 0 ⟨#[]⟩ []
def zqn(S:ST):T->Int×ST
 | .nd k _ s ks=>zlj S k s (ks.getD 0 nil0) (ks.getD 1 nil0) (indE S.look (ks.getD 0 nil0)) (zk6 S k (ks.getD 1 nil0))
def doE(S:ST)(t:T):Int×ST :=
 if isS t=false then(3,S)else if t.k=56 then(9,S)else if basB t.k=false then(7,S)else if fltE S.cur.vs t≠0 then(fltE S.cur.vs t,S)else zqn S t
def zmi(S:ST):T->Int×ST
 | .nd k n s ks=>doE S (.nd (zk5 k) n s ks)
theorem zvJ:IsFn prog 172 f172:=⟨func172,zK,zK⟩
theorem zyY:IsFn prog 174 f174:=⟨func174,zK,zK⟩
theorem zx8{W:World}{n0:Nat}{P:Ph}{S:ST}(h:SR W n0 P S)(k n:Int)(s:ByteArray)(p:T)(v:Value)(hv:NV W Any (.nd k n s [p]) v)(hk:44<=k/\k<=49)(id:Nat)(hid:S.num p.s=some id)(kp:Int)(hck:CurK S id kp)(hkp:kp≠3)
  (hst:k=44\/k=45->∃af,S.num s=some af/\CurK S af 3) :
  Calls prog 163 #[.pointer (some ⟨P.sb,0,none⟩),v] W fun e W'=>e=.returned (zi (zlj S k s p nil0 (indE S.look p) (0,0)).1)/\∃P',SStp n0 P S W P' (zlj S k s p nil0 (indE S.look p) (0,0)).2 W'/\P'.sb=P.sb:=by
 obtain⟨A,c,rfl,hf,hlk,hlc,hrow⟩:=hv.open_;simp only[zND]at *
 obtain⟨R,hR⟩:=zX (zlj S k s p nil0 (indE S.look p) (0,0));rw[hR];have HRR:=zh hR;have HS:=zh h;have HL:=zh (zvg n0 P S h.wf);obtain⟨a,t0,A2,c2,rfl,_,Ht,⟨y0,y1,y2,y3⟩,hn0⟩:=hrow.nd (i:=0) zS;simp only[Nat.zero_mul,Addr.add_zero',List.length_cons,List.length_nil,Nat.zero_add]at *
 have ht0:t0=p:=Ht.out.symm;subst ht0;have hbx:=box4 (heap_alloc_new W (.cells #[zj k,zi n,.string s,.slice (some a) 1 c] 28));have ax:=zh (heap_alloc_new W (.cells #[zj k,zi n,.string s,.slice (some a) 1 c] 28));obtain⟨W0,hW0⟩:=zX (W.alloc (.cells #[zj k,zi n,.string s,.slice (some a) 1 c] 28));have q0:zw W W0:=hW0▸zkb zr _;rw[hW0]at hbx ax;have ig:=zh q0;have z0:=zb q0 y0;have z1:=zb q0 y1;have z2:=zb q0 y2;have z3:=zb q0 y3;obtain⟨⟨iv,ie⟩,hiv⟩:=zX (indE S.look t0);have qX:=zh (znI HL.out t0 _ W0 (hn0.later q0) (h.later q0));rw[hiv]at qX;have jL:=zh (show R=zlj S k s t0 nil0 (iv,ie) (0,0) by rw[<-hR,hiv]);have yz:=zh (fun W' (hb:zw W W')=>zmJ (h.later hb) t0.s id hid);obtain⟨x0,x1,x2,x3⟩:=hbx;have aH:=hck.lt h.wf;have bJ:=zh hck;have wU:=zh hid
 clear hR hiv h hv hn0 hrow hlk hlc y0 y1 y2 y3 q0 hf hck hid;have k40:(k==40)=false:=by simp;omega
 have k41:(k==41)=false:=by simp;omega
 have k42:(k==42)=false:=by simp;omega
 have k43:(k==43)=false:=by simp;omega
 go_enter func163,ntmps163;go_wp2_with fail;refine qX.out.mono ?_;rintro e w1 ⟨rfl,aa⟩;have HB1:=zh (zka ig.out aa);have aC:=zh (zkc ax.out aa);have u0:=zb aa z0;have u1:=zb aa z1;have u2:=zb aa z2;have u3:=zb aa z3;have v0:=zb aa x0;have v2:=zb aa x2;have v3:=zb aa x3;clear aa z0 z1 z2 z3 x0 x1 x2 x3;dsimp only;by_cases he:ie=0
 ·subst he;have HR1:=zh (show R=znB S k s t0.s nil0.s iv (0,0) by rw[jL.out,zlj,if_neg zS]);go_wp2_with fail;refine(yz.out _ HB1.out).mono ?_;rintro e w2 ⟨rfl,aj⟩;have HB2:=zh (zka HB1.out aj);have aQ:=zh (zkc aC.out aj);have r0:=zb aj v0;have r2:=zb aj v2;have HS2:=zh (HS.out.later HB2.out);clear u0 u1 u2 u3 v0 v2 v3 aj;have HR2:=zh (show R=if 0<=iv/\iv<(S.cell id).length then zkC S k s nil0.s 0 id iv.toNat else(12,S) by
   rw[HR1.out,znB,if_neg zS,wU.out])
  by_cases hr:0<=iv/\iv<((S.cell id).length:Int)
  ·obtain⟨i,rfl⟩:∃i:Nat,iv=i:=⟨iv.toNat,zO⟩
   have hi:i<(S.cell id).length:=zO
   have HR3:=zh (show R=zkC S k s nil0.s 0 id i by rw[HR2.out,if_pos hr];rfl);obtain⟨⟨c3,hci,hc3⟩,p0,p1⟩:=HS2.out.plc aH hi;have w0:w2.cell? ⟨P.cb id,0,none⟩=some (.slice (some ⟨P.gI id,0,none⟩) (S.cell id).length c3):=by rw[<-hci];exact zc (HS2.out.cbox aH) rfl
   obtain⟨m,hm⟩:=zX ((S.cell id).length);have HM:=zh hm;rw[hm]at w0;have hi1:¬ (i:Int)<0:=zO
   have hi2:¬ (m:Int)<=(i:Int):=zO
   have hi3:(i:Int)<(m:Int):=zO
   clear HR1 HR2 hr hci hc3 hm;by_cases h45:k=44\/k=45
   ·obtain⟨af,hs1,hs2⟩:=hst h45;have hne:=bJ.out.ne hs2 HS.out.wf hkp;have HR4:=zh (show R=zlK S k id i af by
     rw[HR3.out,zkC,if_neg zO,if_neg zO,if_pos h45,hs1])
    have HMV:=zh (fun W' (hb:zw W W')=>zxC (HS.out.later hb) k h45 id i af aH hi hs2 hne);have gZ:=zh (fun W' (hb:zw W W')=>zmJ (HS.out.later hb) s af hs1);have kk:(k==44||k==45)=true:=by rcases h45 with rfl|rfl<;>rfl
    clear hs1 hs2 HR3 wU;rcases h45 with rfl|rfl
    ·skip
     go_upto_region 34 with fail;have hSS:zW (fun w':World=>zv w' W.heap.size 0 (zj 44)/\zv w' W.heap.size 2 (.string s)) zU w2.drew:=⟨⟨r0,r2⟩,trivial⟩
     refine wp_region_noPanic ?_;refine zG hSS 7 ?_;refine zT 0 hSS ?_;refine zT 1 hSS ?_;refine zT 2 hSS ?_;refine zT 3 hSS ?_;refine zT 4 hSS ?_;refine zT 5 hSS ?_;have had:Calls prog 172 [.pointer (some ⟨P.sb,0,none⟩),.string s].toArray w2.drew fun e W'=>∃u,e=.returned u/\u=.pointer (some ⟨P.cb af,0,none⟩)/\Below w2.drew.heap.size w2.drew W' :=
      (gZ.out _ HB2.out.drew).mono fun e W' hh=>⟨_,hh.1,rfl,hh.2⟩
     refine zo 6 fun K hK=>?_;refine zke zR (.func 172) [.tmp 138,.tmp 140] _ zR 172 _ zvJ zR _ zR _ had ?_;rintro v4 w4 ⟨rfl,hb4⟩;have ay:=zh (zka HB2.out.drew hb4);have t0':=zb hb4 (show w2.drew.cell? _=_ from r0);have t2':=zb hb4 (show w2.drew.cell? _=_ from r2);refine hK.out _ _ ⟨⟨t0',t2'⟩,trivial⟩ ?_;clear hK K hSS had hb4;(try simp only[zQ]);have had:Calls prog 174 [zj 44,.pointer (some ⟨P.gI id,i,none⟩),.pointer (some ⟨P.cb af,0,none⟩)].toArray w4 fun e W'=>∃u,e=.returned u/\u=zi R.1/\∃P',SStp n0 P S w4 P' R.2 W'/\P'.sb=P.sb:=by
      refine(HMV.out _ ay.out).mono ?_;rintro e W' ⟨h1,h2⟩;rw[<-HR4.out]at h1 h2;exact⟨_,h1,rfl,h2⟩
     refine zp 7 fun K hK=>?_;refine zke zR (.func 174) [.tmp 136,.tmp 137,.tmp 141] _ zR 174 _ zyY zR _ zR _ had ?_;rintro v5 w5 ⟨rfl,P',hs5,xq⟩;have hno:¬ OwnB (rows P S) W.heap.size:=fun⟨q,hq⟩=>by have:=(HS.out.rws.lt q _ hq).2;omega
     have HF:=zh hs5;have HP:=zh xq;have b0:=zk2 hs5.st.chg t0' hno;have b2:=zk2 hs5.st.chg t2' hno;refine hK.out _ _ ⟨b0,b2⟩ ?_;clear hK K had hs5 xq;(try simp only[zQ]);refine zp 8 fun K hK=>?_;(try simp only[zA,zB,zC]);go_simp;refine hK.out _ _ ⟨b0,b2⟩ ?_;clear hK K;(try simp only[zQ]);refine zd ?_;refine NoPanic.normal ?_;go_wp2_with fail;go_ret;exact⟨rfl,P',⟨HF.out.st.after ay.out HS.out.rws,HF.out.wf⟩,HP.out⟩
    ·skip
     go_upto_region 34 with fail;have hSS:zW (fun w':World=>zv w' W.heap.size 0 (zj 45)/\zv w' W.heap.size 2 (.string s)) zU w2.drew:=⟨⟨r0,r2⟩,trivial⟩
     refine wp_region_noPanic ?_;refine zG hSS 7 ?_;refine zT 0 hSS ?_;refine zT 1 hSS ?_;refine zT 2 hSS ?_;refine zT 3 hSS ?_;refine zT 4 hSS ?_;refine zT 5 hSS ?_;have had:Calls prog 172 [.pointer (some ⟨P.sb,0,none⟩),.string s].toArray w2.drew fun e W'=>∃u,e=.returned u/\u=.pointer (some ⟨P.cb af,0,none⟩)/\Below w2.drew.heap.size w2.drew W' :=
      (gZ.out _ HB2.out.drew).mono fun e W' hh=>⟨_,hh.1,rfl,hh.2⟩
     refine zo 6 fun K hK=>?_;refine zke zR (.func 172) [.tmp 138,.tmp 140] _ zR 172 _ zvJ zR _ zR _ had ?_;rintro v4 w4 ⟨rfl,hb4⟩;have ay:=zh (zka HB2.out.drew hb4);have t0':=zb hb4 (show w2.drew.cell? _=_ from r0);have t2':=zb hb4 (show w2.drew.cell? _=_ from r2);refine hK.out _ _ ⟨⟨t0',t2'⟩,trivial⟩ ?_;clear hK K hSS had hb4;(try simp only[zQ]);have had:Calls prog 174 [zj 45,.pointer (some ⟨P.gI id,i,none⟩),.pointer (some ⟨P.cb af,0,none⟩)].toArray w4 fun e W'=>∃u,e=.returned u/\u=zi R.1/\∃P',SStp n0 P S w4 P' R.2 W'/\P'.sb=P.sb:=by
      refine(HMV.out _ ay.out).mono ?_;rintro e W' ⟨h1,h2⟩;rw[<-HR4.out]at h1 h2;exact⟨_,h1,rfl,h2⟩
     refine zp 7 fun K hK=>?_;refine zke zR (.func 174) [.tmp 136,.tmp 137,.tmp 141] _ zR 174 _ zyY zR _ zR _ had ?_;rintro v5 w5 ⟨rfl,P',hs5,xq⟩;have hno:¬ OwnB (rows P S) W.heap.size:=fun⟨q,hq⟩=>by have:=(HS.out.rws.lt q _ hq).2;omega
     have HF:=zh hs5;have HP:=zh xq;have b0:=zk2 hs5.st.chg t0' hno;have b2:=zk2 hs5.st.chg t2' hno;refine hK.out _ _ ⟨b0,b2⟩ ?_;clear hK K had hs5 xq;(try simp only[zQ]);refine zp 8 fun K hK=>?_;(try simp only[zA,zB,zC]);go_simp;refine hK.out _ _ ⟨b0,b2⟩ ?_;clear hK K;(try simp only[zQ]);refine zd ?_;refine NoPanic.normal ?_;go_wp2_with fail;go_ret;exact⟨rfl,P',⟨HF.out.st.after ay.out HS.out.rws,HF.out.wf⟩,HP.out⟩
   ·have yV:k=46\/k=49\/k=47\/k=48:=zO
    have k44:(k==44)=false:=by simp;omega
    have k45:(k==45)=false:=by simp;omega
    have HR4:=zh (show R=zks S k id i by rw[HR3.out,zkC,if_neg zO,if_neg zO,if_neg h45]);have y9:=zh (zqJ HS2.out k yV id i aH hi);rw[<-HR4.out]at y9;clear HR3 p0 p1;go_wp2_with fail;refine y9.out.mono ?_;rintro e w3 ⟨rfl,P',hs3,hp3⟩;have HF:=zh hs3;have HP:=zh hp3;clear hs3 hp3;go_wp2_with fail;go_ret;exact⟨rfl,P',⟨HF.out.st.after HB2.out HS.out.rws,HF.out.wf⟩,HP.out⟩
  ·have HN:=zh (show R=(12,S) by rw[HR2.out,if_neg hr]);obtain⟨A3,c3,hci,hc3,aT⟩:=HS2.out.items aH;have w0:w2.cell? ⟨P.cb id,0,none⟩=some (.slice A3 (S.cell id).length c3):=by rw[<-hci];exact zc (HS2.out.cbox aH) rfl
   obtain⟨m,hm⟩:=zX ((S.cell id).length);rw[hm]at w0 hr;clear HR1 HR2 hci hc3 aT hm;by_cases hneg:iv<0
   ·go_wp2_with fail;go_ret;exact⟨by rw[HN.out];rfl,P,by rw[HN.out];exact SStp.refl HS.out HB2.out,rfl⟩
   ·have hge:(m:Int)<=iv:=zO
    go_wp2_with fail;go_ret;exact⟨by rw[HN.out];rfl,P,by rw[HN.out];exact SStp.refl HS.out HB2.out,rfl⟩
 ·have HN:=zh (show R=(ie,S) by rw[jL.out,zlj,if_pos he]);have e1:(ie==0)=false:=by simpa using he
  have e2:(ie != 0)=true:=by simpa using he
  clear he;go_wp2_with fail;go_ret;exact⟨by rw[HN.out];rfl,P,by rw[HN.out];exact SStp.refl HS.out HB1.out,rfl⟩
theorem zxS:IsFn prog 173 f173:=⟨func173,zK,zK⟩
theorem zLy(a:Addr):a.add (1*4)=⟨a.block,a.off+4,none⟩:=by unfold Addr.add;split<;>simp_all
theorem zx7{W:World}{n0:Nat}{P:Ph}{S:ST}(h:SR W n0 P S)(k n:Int)(s:ByteArray)(p q:T)(v:Value)(hv:NV W Any (.nd k n s [p,q]) v)(hk:k=40\/k=41\/k=42)(id:Nat)(hid:S.num p.s=some id)(kp:Int)(hck:CurK S id kp) :
  Calls prog 163 #[.pointer (some ⟨P.sb,0,none⟩),v] W fun e W'=>e=.returned (zi (zlj S k s p q (indE S.look p) (zli S.look q)).1)/\∃P',SStp n0 P S W P' (zlj S k s p q (indE S.look p) (zli S.look q)).2 W'/\P'.sb=P.sb:=by
 obtain⟨A,c,rfl,hf,hlk,hlc,hrow⟩:=hv.open_;simp only[zND]at *
 obtain⟨R,hR⟩:=zX (zlj S k s p q (indE S.look p) (zli S.look q));rw[hR];have HRR:=zh hR;have HS:=zh h;have HL:=zh (zvg n0 P S h.wf);obtain⟨a,t0,A2,c2,rfl,_,Ht,h4,hn0⟩:=hrow.nd (i:=0) zS;obtain⟨a',t1,A3,c3,ea,_,Hu,h5,hn1⟩:=hrow.nd (i:=1) zS;injection ea with ea;subst ea;have ha:a.add (1*4)=⟨a.block,a.off+4,none⟩:=zLy a;rw[ha]at h5;have ht0:t0=p:=Ht.out.symm;subst ht0;have ht1:t1=q:=Hu.out.symm;subst ht1;simp only[Nat.zero_mul,Nat.one_mul,Addr.add_zero',List.length_cons,List.length_nil,Nat.zero_add,Nat.reduceAdd]at *
 have hbx:=box4 (heap_alloc_new W (.cells #[zj k,zi n,.string s,.slice (some a) 2 c] 28));have ax:=zh (heap_alloc_new W (.cells #[zj k,zi n,.string s,.slice (some a) 2 c] 28));obtain⟨W0,hW0⟩:=zX (W.alloc (.cells #[zj k,zi n,.string s,.slice (some a) 2 c] 28));have q0:zw W W0:=hW0▸zkb zr _;rw[hW0]at hbx ax;have ig:=zh q0;have H4:=zh h4;have H5:=zh h5;have g4:=zl4 q0 h4;obtain⟨z0,z1,z2,z3⟩:=g4;obtain⟨⟨iv,ie⟩,hiv⟩:=zX (indE S.look t0);obtain⟨⟨jv,je⟩,dA⟩:=zX (zli S.look t1);have qX:=zh (znI HL.out t0 _ W0 (hn0.later q0) (h.later q0));rw[hiv]at qX;have yo:=zh (show ∀W',zw W W'->Calls prog 168 #[nv t1.k t1.n t1.s A3 t1.ks.length c3,.func (.func 171) #[.pointer (some ⟨P.sb,0,none⟩)] #[]] W' (NumE (jv,je) W')from fun W' hb=>dA▸zqA HL.out t1 _ W' (hn1.later hb) (h.later hb))
 have jL:=zh (show R=zlj S k s t0 t1 (iv,ie) (jv,je) by rw[<-hR,hiv,dA]);have yz:=zh (fun W' (hb:zw W W')=>zmJ (h.later hb) t0.s id hid);obtain⟨x0,x1,x2,x3⟩:=hbx;have aH:=hck.lt h.wf;have wU:=zh hid;clear hR hiv dA hv hn0 hn1 hrow hlk hlc q0 hf hck hid h4 h5;clear h;have k43:(k==43)=false:=by simp;omega
 obtain⟨kk,hkk⟩:∃x,x=k:=⟨_,rfl⟩
 have wK:=zh (fun x w=>zt9 kk x jv (hkk▸hk) w);go_enter func163,ntmps163;go_wp2_with fail;refine qX.out.mono ?_;rintro e w1 ⟨rfl,aa⟩;have HB1:=zh (zka ig.out aa);have aC:=zh (zkc ax.out aa);have v0:=zb aa x0;have v3:=zb aa x3;obtain⟨y0,y1,y2,y3⟩:=zl4 HB1.out H5.out;clear aa z0 z1 z2 z3 x0 x1 x2 x3;dsimp only;by_cases he:ie=0
 ·subst he;have HR1:=zh (show R=znB S k s t0.s t1.s iv (jv,je) by rw[jL.out,zlj,if_neg zS]);rcases hk with rfl|rfl|rfl
  all_goals
    go_wp2_with fail;refine(yo.out _ HB1.out).mono ?_;rintro e w2 ⟨rfl,aj⟩;have HB2:=zh (zka HB1.out aj);have aQ:=zh (zkc aC.out aj);have r0:=zb aj v0;have r3:=zb aj v3;obtain⟨z0,z1,z2,z3⟩:=zl4 HB2.out H4.out;clear aj y0 y1 y2 y3 v0 v3;dsimp only;by_cases mE:je=0
    ·subst mE;go_wp2_with fail;refine(yz.out _ HB2.out).mono ?_;rintro e w3 ⟨rfl,aO⟩;have HB3:=zh (zka HB2.out aO);have Hkk:=zh (zkc aQ.out aO);have s0:=zb aO r0;have s3:=zb aO r3;have HS2:=zh (HS.out.later HB3.out);clear r0 r3 aO z0 z1 z2 z3;have HR2:=zh (show R=if 0<=iv/\iv<(S.cell id).length then zkC S kk s t1.s jv id iv.toNat else(12,S) by
      rw[HR1.out,znB,if_neg zS,wU.out,hkk])
     by_cases hr:0<=iv/\iv<((S.cell id).length:Int)
     ·obtain⟨i,rfl⟩:∃i:Nat,iv=i:=⟨iv.toNat,zO⟩
      have hi:i<(S.cell id).length:=zO
      have HR3:=zh (show R=(0,S.put id i (updE kk (S.el id i) jv)) by rw[HR2.out,if_pos hr,zkC,if_pos zO];rfl);obtain⟨⟨c4,hci,hc4⟩,p0,p1⟩:=HS2.out.plc aH hi;have w0:w3.cell? ⟨P.cb id,0,none⟩=some (.slice (some ⟨P.gI id,0,none⟩) (S.cell id).length c4):=by rw[<-hci];exact zc (HS2.out.cbox aH) rfl
      have nJ:=zh (fun W' (hb:zw W W')=>(HS.out.later hb).put aH hi (updE kk (S.el id i) jv) (zzi _ _ _));obtain⟨x,hx⟩:=zX (S.el id i);rw[hx]at p0 HR3 nJ;obtain⟨m,hm⟩:=zX ((S.cell id).length);rw[hm]at w0;have hi1:¬ (i:Int)<0:=zO
      have hi2:¬ (m:Int)<=(i:Int):=zO
      have hi3:(i:Int)<(m:Int):=zO
      clear HR1 HR2 hr hci hc4 hm hx;obtain⟨U,hU⟩:=zX (updE kk x jv);rw[hU]at HR3 nJ;have HUU:=zh (hU▸wK.out x);clear hU;have s0':w3.cell? ⟨W.heap.size,0,none⟩=some (zj kk):=by rw[hkk];exact s0
      clear hkk;go_upto_region 22 with fail;have hSS:zW (fun w':World=>zv w' W.heap.size 0 (zj kk)/\zv w' (P.gI id) i (zi x)) zU w3.drew:=⟨⟨s0',p0⟩,trivial⟩
      refine wp_region_noPanic ?_;refine zG hSS 11 ?_;refine zT 0 hSS ?_;refine zT 1 hSS ?_;refine zT 2 hSS ?_;refine zT 3 hSS ?_;refine zT 4 hSS ?_;refine zT 5 hSS ?_;have had:Calls prog 173 [zj kk,zi x,zi jv].toArray w3.drew fun e W'=>∃u,e=.returned u/\u=.tuple #[zi U,zi 0]/\W'=w3.drew :=
       (HUU.out w3.drew).mono fun e W' hh=>⟨_,hh.1,rfl,hh.2⟩
      refine zo 6 fun K hK=>?_;refine zke zR (.func 173) [.tmp 86,.tmp 89,.tmp 90] _ zR 173 _ zxS zR _ zR _ had ?_;rintro v4 w4 ⟨rfl,rfl⟩;refine hK.out _ _ hSS ?_;clear hK K had;(try simp only[zQ]);refine zT 7 hSS ?_;refine zT 8 hSS ?_;refine zT 9 hSS ?_;refine zT 10 hSS ?_;refine zp 11 fun K hK=>?_;(try simp only[zA,zB,zC]);go_simp;refine hK.out _ _ hSS.1 ?_;clear hK K hSS;(try simp only[zQ]);refine zd ?_;refine NoPanic.normal ?_;go_wp2_with fail;go_ret;refine⟨by rw[HR3.out];rfl,P,?_,rfl⟩;rw[HR3.out];have:=nJ.out _ HB3.out.drew;exact⟨this.st.after HB3.out.drew HS.out.rws,this.wf⟩
     ·skip
      have HN:=zh (show R=(12,S) by rw[HR2.out,if_neg hr]);obtain⟨A3,c3,hci,hc3,aT⟩:=HS2.out.items aH;have w0:w3.cell? ⟨P.cb id,0,none⟩=some (.slice A3 (S.cell id).length c3):=by rw[<-hci];exact zc (HS2.out.cbox aH) rfl
      obtain⟨m,hm⟩:=zX ((S.cell id).length);rw[hm]at w0 hr;clear HR2 hci hc3 aT hm;by_cases hneg:iv<0
      ·go_wp2_with fail;go_ret;exact⟨by rw[HN.out];rfl,P,by rw[HN.out];exact SStp.refl HS.out HB3.out,rfl⟩
      ·have hge:(m:Int)<=iv:=zO
       go_wp2_with fail;go_ret;exact⟨by rw[HN.out];rfl,P,by rw[HN.out];exact SStp.refl HS.out HB3.out,rfl⟩
    ·skip
     have HN:=zh (show R=(je,S) by rw[HR1.out,znB,if_pos mE]);have e1:(je==0)=false:=by simpa using mE
     have e2:(je != 0)=true:=by simpa using mE
     clear mE;go_wp2_with fail;go_ret;exact⟨by rw[HN.out];rfl,P,by rw[HN.out];exact SStp.refl HS.out HB2.out,rfl⟩
 ·skip
  have HN:=zh (show R=(ie,S) by rw[jL.out,zlj,if_pos he]);have e1:(ie==0)=false:=by simpa using he
  have e2:(ie != 0)=true:=by simpa using he
  clear he;go_wp2_with fail;go_ret;exact⟨by rw[HN.out];rfl,P,by rw[HN.out];exact SStp.refl HS.out HB1.out,rfl⟩
theorem zvT{W:World}{n0:Nat}{P:Ph}{S:ST}(h:SR W n0 P S)(k n:Int)(s:ByteArray)(p q:T)(v:Value)(hv:NV W Any (.nd k n s [p,q]) v)(hk:k=43)(id:Nat)(hid:S.num p.s=some id)(kp:Int)(hck:CurK S id kp)(jd:Nat)(hjd:S.num q.s=some jd)(kq:Int)(hcq:CurK S jd kq) :
  Calls prog 163 #[.pointer (some ⟨P.sb,0,none⟩),v] W fun e W'=>e=.returned (zi (zlj S k s p q (indE S.look p) (indE S.look q)).1)/\∃P',SStp n0 P S W P' (zlj S k s p q (indE S.look p) (indE S.look q)).2 W'/\P'.sb=P.sb:=by
 obtain⟨A,c,rfl,hf,hlk,hlc,hrow⟩:=hv.open_;simp only[zND]at *
 obtain⟨R,hR⟩:=zX (zlj S k s p q (indE S.look p) (indE S.look q));rw[hR];have HRR:=zh hR;have HS:=zh h;have HL:=zh (zvg n0 P S h.wf);obtain⟨a,t0,A2,c2,rfl,_,Ht,h4,hn0⟩:=hrow.nd (i:=0) zS;obtain⟨a',t1,A3,c3,ea,_,Hu,h5,hn1⟩:=hrow.nd (i:=1) zS;injection ea with ea;subst ea;have ha:a.add (1*4)=⟨a.block,a.off+4,none⟩:=zLy a;rw[ha]at h5;have ht0:t0=p:=Ht.out.symm;subst ht0;have ht1:t1=q:=Hu.out.symm;subst ht1;simp only[Nat.zero_mul,Nat.one_mul,Addr.add_zero',List.length_cons,List.length_nil,Nat.zero_add,Nat.reduceAdd]at *
 have hbx:=box4 (heap_alloc_new W (.cells #[zj k,zi n,.string s,.slice (some a) 2 c] 28));have ax:=zh (heap_alloc_new W (.cells #[zj k,zi n,.string s,.slice (some a) 2 c] 28));obtain⟨W0,hW0⟩:=zX (W.alloc (.cells #[zj k,zi n,.string s,.slice (some a) 2 c] 28));have q0:zw W W0:=hW0▸zkb zr _;rw[hW0]at hbx ax;have ig:=zh q0;have H4:=zh h4;have H5:=zh h5;have g4:=zl4 q0 h4;obtain⟨z0,z1,z2,z3⟩:=g4;obtain⟨⟨iv,ie⟩,hiv⟩:=zX (indE S.look t0);obtain⟨⟨jv,je⟩,dA⟩:=zX (indE S.look t1);have qX:=zh (znI HL.out t0 _ W0 (hn0.later q0) (h.later q0));rw[hiv]at qX;have yo:=zh (show ∀W',zw W W'->Calls prog 170 #[nv t1.k t1.n t1.s A3 t1.ks.length c3,.func (.func 171) #[.pointer (some ⟨P.sb,0,none⟩)] #[]] W' (NumE (jv,je) W')from fun W' hb=>dA▸znI HL.out t1 _ W' (hn1.later hb) (h.later hb))
 have jL:=zh (show R=zlj S k s t0 t1 (iv,ie) (jv,je) by rw[<-hR,hiv,dA]);have yz:=zh (fun W' (hb:zw W W')=>zmJ (h.later hb) t0.s id hid);obtain⟨x0,x1,x2,x3⟩:=hbx;have aH:=hck.lt h.wf;have wU:=zh hid;clear hR hiv dA hv hn0 hn1 hrow hlk hlc q0 hf hck hid h4 h5;have jy:=hcq.lt h.wf;have HCQ:=zh (fun W' (hb:zw W W')=>zmJ (h.later hb) t1.s jd hjd);have HJD:=zh hjd;subst hk;clear h hcq hjd;go_enter func163,ntmps163;go_wp2_with fail;refine qX.out.mono ?_;rintro e w1 ⟨rfl,aa⟩;have HB1:=zh (zka ig.out aa);have aC:=zh (zkc ax.out aa);have v0:=zb aa x0;have v3:=zb aa x3;obtain⟨y0,y1,y2,y3⟩:=zl4 HB1.out H5.out;clear aa z0 z1 z2 z3 x0 x1 x2 x3;dsimp only;by_cases he:ie=0
 ·subst he;have HR1:=zh (show R=znB S 43 s t0.s t1.s iv (jv,je) by rw[jL.out,zlj,if_neg zS]);go_wp2_with fail;refine(yo.out _ HB1.out).mono ?_;rintro e w2 ⟨rfl,aj⟩;have HB2:=zh (zka HB1.out aj);have aQ:=zh (zkc aC.out aj);have r0:=zb aj v0;have r3:=zb aj v3;obtain⟨z0,z1,z2,z3⟩:=zl4 HB2.out H4.out;clear aj y0 y1 y2 y3 v0 v3;dsimp only;by_cases mE:je=0
  ·subst mE;go_wp2_with fail;refine(yz.out _ HB2.out).mono ?_;rintro e w3 ⟨rfl,aO⟩;have HB3:=zh (zka HB2.out aO);have H43:=zh (zkc aQ.out aO);have s0:=zb aO r0;have s3:=zb aO r3;have HS2:=zh (HS.out.later HB3.out);clear r0 r3 aO z0 z1 z2 z3;have HR2:=zh (show R=if 0<=iv/\iv<(S.cell id).length then zkC S 43 s t1.s jv id iv.toNat else(12,S) by
    rw[HR1.out,znB,if_neg zS,wU.out])
   by_cases hr:0<=iv/\iv<((S.cell id).length:Int)
   ·obtain⟨i,rfl⟩:∃i:Nat,iv=i:=⟨iv.toNat,zO⟩
    have hi:i<(S.cell id).length:=zO
    have HR3:=zh (show R=if 0<=jv/\jv<(S.cell jd).length then(0,znp S id i jd jv.toNat)else(12,S) by
     rw[HR2.out,if_pos hr,zkC,if_neg zY,if_pos rfl,HJD.out];rfl)
    obtain⟨⟨c4,hci,hc4⟩,p0,p1⟩:=HS2.out.plc aH hi;have w0:w3.cell? ⟨P.cb id,0,none⟩=some (.slice (some ⟨P.gI id,0,none⟩) (S.cell id).length c4):=by rw[<-hci];exact zc (HS2.out.cbox aH) rfl
    obtain⟨m,hm⟩:=zX ((S.cell id).length);rw[hm]at w0;have hi1:¬ (i:Int)<0:=zO
    have hi2:¬ (m:Int)<=(i:Int):=zO
    have hi3:(i:Int)<(m:Int):=zO
    obtain⟨y0,y1,y2,y3⟩:=zl4 HB3.out H5.out;clear HR1 HR2 hr hci hc4 hm p0 p1;go_wp2_with fail;refine(HCQ.out _ HB3.out).mono ?_;rintro e w4 ⟨rfl,iY⟩;have ay:=zh (zka HB3.out iY);have jK:=zh (HS.out.later ay.out);clear iY y0 y1 y2 y3 w0;by_cases hr2:0<=jv/\jv<((S.cell jd).length:Int)
    ·obtain⟨j,rfl⟩:∃j:Nat,jv=j:=⟨jv.toNat,zO⟩
     have hj:j<(S.cell jd).length:=zO
     have HR4:=zh (show R=(0,znp S id i jd j) by rw[HR3.out,if_pos hr2];rfl);obtain⟨-,p0,p1⟩:=jK.out.plc aH hi;obtain⟨⟨c5,hcj,dB⟩,q0,q1⟩:=jK.out.plc jy hj;have w5:w4.cell? ⟨P.cb jd,0,none⟩=some (.slice (some ⟨P.gI jd,0,none⟩) (S.cell jd).length c5):=by rw[<-hcj];exact zc (jK.out.cbox jy) rfl
     have s1:=(jK.out.later zr.drew).put aH hi (S.el jd j) (zmE HS.out.wf jy j);have hj':j<((S.put id i (S.el jd j)).cell jd).length:=by
      simp only[ST.put,ST.setL]
      split
      ·next e=>rw[List.length_set,<-e];exact hj
      ·exact hj
     obtain⟨-,g0,g1⟩:=s1.sr.plc (id:=jd) (i:=j) jy hj';have s2:=s1.sr.put (id:=jd) (i:=j) jy hj' (S.el id i) (zmE HS.out.wf aH i);have aX:=zh (s1.trans s2);obtain⟨xi,hxi⟩:=zX (S.el id i);obtain⟨xj,hxj⟩:=zX (S.el jd j);rw[hxi]at p0 aX;rw[hxj]at q0 g0 g1 aX;have nH:=zh (show R=(0,(S.put id i xj).put jd j xi) by rw[HR4.out,znp,hxi,hxj]);obtain⟨y,hy⟩:=zX ((S.put id i xj).el jd j);rw[hy]at g0;obtain⟨m2,hm2⟩:=zX ((S.cell jd).length);rw[hm2]at w5;have hj1:¬ (j:Int)<0:=zO
     have hj2:¬ (m2:Int)<=(j:Int):=zO
     have qI:(j:Int)<(m2:Int):=zO
     clear HR3 HR4 hr2 hcj dB hm2 s1 s2 hxi hxj hy;go_upto_region 30 with fail;have hSS:zU w4.drew/\(fun w':World=>zv w' (P.gI id) i (zi xi)/\zv w' (P.gI jd) j (zi xj)) w4.drew:=⟨trivial,p0,q0⟩
     refine wp_region_noPanic ?_;refine zkl zU (fun w':World=>zv w' (P.gI id) i (zi xi)/\zv w' (P.gI jd) j (zi xj)) 11 zK ?_;refine zT 0 hSS ?_;refine zT 1 hSS ?_;refine zT 2 hSS ?_;refine zT 3 hSS ?_;refine zT 4 hSS ?_;refine zT 5 hSS ?_;refine zJ 6 hSS ?_;refine zT 7 hSS ?_;refine zT 8 hSS ?_;refine zJ 9 hSS ?_;refine zo 10 fun K hK=>?_;(try simp only[zA,zB,zC]);go_simp;refine hK.out _ _ hSS ?_;clear hK K;(try simp only[zQ]);refine zp 11 fun K hK=>?_;(try simp only[zA,zB,zC]);have p1':w4.drew.frozen? ⟨P.gI id,i,none⟩=false:=p1;have p0':w4.drew.cell? ⟨P.gI id,i,none⟩=some (zi xi):=p0;go_simp;refine hK.out _ _ trivial ?_;clear hK K hSS;(try simp only[zQ]);have g0':(w4.setCell ⟨P.gI id,i,none⟩ (zi xj)).cell? ⟨P.gI jd,j,none⟩=some (zi y):=g0;have g1':(w4.setCell ⟨P.gI id,i,none⟩ (zi xj)).frozen? ⟨P.gI jd,j,none⟩=false:=g1
     refine zp 12 fun K hK=>?_;(try simp only[zA,zB,zC]);go_simp;refine hK.out _ _ trivial ?_;clear hK K;(try simp only[zQ]);refine zp 13 fun K hK=>?_;(try simp only[zA,zB,zC]);go_simp;refine hK.out _ _ trivial ?_;clear hK K;(try simp only[zQ]);refine zd ?_;refine NoPanic.normal ?_;clear p0 p1 p0' p1' q0 q1 g0 g1 g0' g1';go_wp2_with fail;go_ret;refine⟨by rw[nH.out];rfl,P,?_,rfl⟩;rw[nH.out];exact⟨aX.out.st.after ay.out.drew HS.out.rws,aX.out.wf⟩
    ·have HN:=zh (show R=(12,S) by rw[HR3.out,if_neg hr2]);obtain⟨A5,c5,hcj,dB,iA⟩:=jK.out.items jy;have w5:w4.cell? ⟨P.cb jd,0,none⟩=some (.slice A5 (S.cell jd).length c5):=by rw[<-hcj];exact zc (jK.out.cbox jy) rfl
     obtain⟨m2,hm2⟩:=zX ((S.cell jd).length);rw[hm2]at w5 hr2;clear HR3 hcj dB iA hm2;by_cases hneg:jv<0
     ·go_wp2_with fail;go_ret;exact⟨by rw[HN.out];rfl,P,by rw[HN.out];exact SStp.refl HS.out ay.out,rfl⟩
     ·have hge:(m2:Int)<=jv:=zO
      go_wp2_with fail;go_ret;exact⟨by rw[HN.out];rfl,P,by rw[HN.out];exact SStp.refl HS.out ay.out,rfl⟩
   ·skip
    have HN:=zh (show R=(12,S) by rw[HR2.out,if_neg hr]);obtain⟨A3,c3,hci,hc3,aT⟩:=HS2.out.items aH;have w0:w3.cell? ⟨P.cb id,0,none⟩=some (.slice A3 (S.cell id).length c3):=by rw[<-hci];exact zc (HS2.out.cbox aH) rfl
    obtain⟨m,hm⟩:=zX ((S.cell id).length);rw[hm]at w0 hr;clear HR2 hci hc3 aT hm;by_cases hneg:iv<0
    ·go_wp2_with fail;go_ret;exact⟨by rw[HN.out];rfl,P,by rw[HN.out];exact SStp.refl HS.out HB3.out,rfl⟩
    ·have hge:(m:Int)<=iv:=zO
     go_wp2_with fail;go_ret;exact⟨by rw[HN.out];rfl,P,by rw[HN.out];exact SStp.refl HS.out HB3.out,rfl⟩
  ·skip
   have HN:=zh (show R=(je,S) by rw[HR1.out,znB,if_pos mE]);have e1:(je==0)=false:=by simpa using mE
   have e2:(je != 0)=true:=by simpa using mE
   clear mE;go_wp2_with fail;go_ret;exact⟨by rw[HN.out];rfl,P,by rw[HN.out];exact SStp.refl HS.out HB2.out,rfl⟩
 ·skip
  have HN:=zh (show R=(ie,S) by rw[jL.out,zlj,if_pos he]);have e1:(ie==0)=false:=by simpa using he
  have e2:(ie != 0)=true:=by simpa using he
  clear he;go_wp2_with fail;go_ret;exact⟨by rw[HN.out];rfl,P,by rw[HN.out];exact SStp.refl HS.out HB1.out,rfl⟩
theorem zyW{f:Nat->T->Bool}{ks:List T}(h:zkE 1 f ks=true):∃p,ks=[p]/\f 0 p=true:=by
 match ks with
 | [p]=>simp[zkE,zkw]at h;exact⟨p,rfl,h⟩
 | []=>simp[zkE]at h
 | a::b::l=>simp[zkE]at h
theorem zvs{f:Nat->T->Bool}{ks:List T}(h:zkE 2 f ks=true):∃p q,ks=[p,q]/\f 0 p=true/\f 1 q=true:=by
 match ks with
 | [p,q]=>simp[zkE,zkw]at h;exact⟨p,q,rfl,h⟩
 | []=>simp[zkE]at h
 | [a]=>simp[zkE]at h
 | a::b::c::l=>simp[zkE]at h
theorem zoR{k n:Int}{s:ByteArray}{ks:List T}(h:isS (.nd k n s ks)=true)(hb:basB k=true) :
  ((k=40\/k=41\/k=42)/\∃p q,ks=[p,q]/\isP p=true/\isE q=true)\/(k=43/\∃p q,ks=[p,q]/\isP p=true/\isP q=true)\/((44<=k/\k<=49)/\∃p,ks=[p]/\isP p=true):=by
 have hr:=of_decide_eq_true hb;rw[isS]at h;by_cases h1:k=40\/k=41\/k=42\/k=56
 ·rw[if_pos h1,Bool.and_eq_true]at h;obtain⟨p,q,e,a,b⟩:=zvs h.2;exact .inl ⟨zO,p,q,e,by simpa using a,by simpa using b⟩
 ·rw[if_neg h1]at h;by_cases h2:k=43
  ·rw[if_pos h2,Bool.and_eq_true]at h;obtain⟨p,q,e,a,b⟩:=zvs h.2;exact .inr (.inl ⟨h2,p,q,e,a,b⟩)
  ·rw[if_neg h2]at h;by_cases h3:k=44\/k=45
   ·rw[if_pos h3,Bool.and_eq_true]at h;obtain⟨p,e,a⟩:=zyW h.2;exact .inr (.inr ⟨zO,p,e,a⟩)
   ·rw[if_neg h3,if_pos zO,Bool.and_eq_true]at h;obtain⟨p,e,a⟩:=zyW h.2;exact .inr (.inr ⟨zO,p,e,a⟩)
def DoP(n0:Nat)(P:Ph)(S:ST)(W:World)(R:Int×ST)(e:Ending)(W':World):Prop:=e=.returned (zi R.1)/\∃P',SStp n0 P S W P' R.2 W'/\P'.sb=P.sb
theorem zsi{W:World}{n0:Nat}{P:Ph}{S:ST}(h:SR W n0 P S)(t:T)(v:Value)(hv:NV W Any t v)(hs:isS t=true)(hb:basB t.k=true)(hf:fltE S.cur.vs t=0) :
  Calls prog 163 #[.pointer (some ⟨P.sb,0,none⟩),v] W (DoP n0 P S W (zqn S t)):=by
 obtain⟨k,n,s,ks⟩:=t;obtain⟨fo,fk⟩:=znk hf;rcases zoR hs hb with⟨hk,p,q,rfl,hp,hq⟩|⟨rfl,p,q,rfl,hp,hq⟩|⟨hk,p,rfl,hp⟩
 ·obtain⟨id,kp,h1,h2,h3⟩:=zmM h.wf hp (zlG fk p zS);have:=zx7 h k n s p q v hv hk id h1 kp h2;have e:zqn S (.nd k n s [p,q])=zlj S k s p q (indE S.look p) (zli S.look q):=by
   show zlj S k s p q (indE S.look p) (zk6 S k q)=_
   rw[zk6,if_neg zO,if_pos hk]
  unfold DoP;rw[e];exact this
 ·obtain⟨id,kp,h1,h2,h3⟩:=zmM h.wf hp (zlG fk p zS);obtain⟨jd,kq,h4,h5,h6⟩:=zmM h.wf hq (zlG fk q zS);have:=zvT h 43 n s p q v hv rfl id h1 kp h2 jd h4 kq h5;have e:zqn S (.nd 43 n s [p,q])=zlj S 43 s p q (indE S.look p) (indE S.look q):=by
   show zlj S 43 s p q (indE S.look p) (zk6 S 43 q)=_
   rw[zk6,if_pos rfl]
  unfold DoP;rw[e];exact this
 ·obtain⟨id,kp,h1,h2,h3⟩:=zmM h.wf hp (zlG fk p zS);have hst:k=44\/k=45->∃af,S.num s=some af/\CurK S af 3:=fun h45=>by
   have hn:znX k=3:=by rcases h45 with rfl|rfl<;>rfl
   obtain⟨u,h4,h5⟩:=znt fo (by rw[hn];decide);obtain⟨af,h6,h7⟩:=zq3 h.wf h4;exact⟨af,h6,by rw[h5,hn]at h7;exact h7⟩
  have:=zx8 h k n s p v hv hk id h1 kp h2 h3 hst;have e:zqn S (.nd k n s [p])=zlj S k s p nil0 (indE S.look p) (0,0):=by
   show zlj S k s p nil0 (indE S.look p) (zk6 S k nil0)=_
   rw[zk6,if_neg zO,if_neg zO]
  unfold DoP;rw[e];exact this
theorem zvN:IsFn prog 156 f156:=⟨func156,zK,zK⟩
theorem zx1:IsFn prog 162 f162:=⟨func162,zK,zK⟩
theorem zzb{W:World}{n0:Nat}{P:Ph}{S:ST}(h:SR W n0 P S)(t:T)(v:Value)(hv:NV W Any t v) :
  Calls prog 141 #[.pointer (some ⟨P.sb,0,none⟩),v] W (DoP n0 P S W (doE S t)):=by
 obtain⟨R,hR⟩:=zX (doE S t);rw[hR];have HRR:=zh hR;have HS:=zh h;have HV:=zh hv;obtain⟨A,c,rfl,-,-,-,-⟩:=hv.open_;obtain⟨b,hb⟩:=zX (isS t);have HIS:=zh (show ∀(v:Value) (w:World),NV w Any t v->Calls prog 113 #[v] w (zu (.bool b) w) from fun v w h=>hb▸zug t v w h);have yB:=zh hb;have rq:=zh (show ∀(v:Value) (W':World),NV W' Any t v->zw W W'->isS t=true->basB t.k=true->fltE S.cur.vs t=0->doE S t=zqn S t->Calls prog 163 #[.pointer (some ⟨P.sb,0,none⟩),v] W' (DoP n0 P S W R)from fun v W' hv' hbl h1 h2 h3 h4=>by
  refine(zsi (h.later hbl) t v hv' h1 h2 h3).mono ?_;rintro e W2 ⟨a1,P',a2,a3⟩;rw[<-h4,hR]at a1 a2;exact⟨a1,P',⟨a2.st.after hbl h.rws,a2.wf⟩,a3⟩)
 obtain⟨kd,hw⟩:=h.curWF;obtain⟨A0,c0,hcv,hc,hrow⟩:=h.curVs;obtain⟨h3,h4,h5⟩:=h.cur3;rw[hcv]at h3;have cK:=zh (fun W' (hb:zw W W')=>zlm (h.later hb));have CG:=zh (fun(v:Value) W' (hb:zw W W') (hv':NV W' Any t v)=>zt5 S.cur.vs A0 c0 (curP P S) hw.lim t v W' hv' (zb hb h3) (hrow.later hb));obtain⟨cp,hcp⟩:=zX (curP P S);rw[hcp]at cK CG;obtain⟨fe,hfe⟩:=zX (fltE S.cur.vs t);rw[hfe]at CG rq;have rD:=zh (fun w=>zwn t.k w);obtain⟨bb,hbb⟩:=zX (basB t.k);rw[hbb]at rD rq;have HD:=zh (show R=if b=false then(3,S)else if t.k=56 then(9,S)else if bb=false then(7,S)else if fe≠0 then(fe,S)else zqn S t by rw[<-hR,doE,hb,hbb,hfe]);have HDE:=zh (show doE S t=R from hR);obtain⟨k,hk⟩:=zX (t.k);obtain⟨n,hn⟩:=zX (t.n);obtain⟨s,hs⟩:=zX (t.s);obtain⟨m,hm⟩:=zX (t.ks.length);rw[hk,hn,hs,hm]at HV ⊢;rw[hk]at rD HD
 clear h hv hR hb hw hcv hc hrow h3 h4 h5 hcp hfe hbb hk hn hs hm;have hbx:=box4 (heap_alloc_new W (.cells #[zj k,zi n,.string s,.slice A m c] 28));have ax:=zh (heap_alloc_new W (.cells #[zj k,zi n,.string s,.slice A m c] 28));obtain⟨W0,hW0⟩:=zX (W.alloc (.cells #[zj k,zi n,.string s,.slice A m c] 28));have q0:zw W W0:=hW0▸zkb zr _;rw[hW0]at hbx ax;have ig:=zh q0;obtain⟨x0,x1,x2,x3⟩:=hbx;clear q0;go_enter func141,ntmps141;go_wp2_with fail;refine(HIS.out _ _ (HV.out.later ig.out)).mono ?_;rintro e w1 ⟨rfl,aa⟩;have HB1:=zh (zka ig.out aa);have aC:=zh (zkc ax.out aa);obtain⟨y0,y1,y2,y3⟩:=box4 aC.out;clear aa x0 x1 x2 x3
 cases b
 ·have HN:=zh (show R=(3,S) by rw[HD.out,if_pos rfl]);go_wp2_with fail;go_ret;exact⟨by rw[HN.out];rfl,P,by rw[HN.out];exact SStp.refl HS.out HB1.out,rfl⟩
 ·by_cases iX:k=56
  ·have HN:=zh (show R=(9,S) by rw[HD.out,if_neg zY,if_pos iX]);subst iX;go_wp2_with fail;go_ret;exact⟨by rw[HN.out];rfl,P,by rw[HN.out];exact SStp.refl HS.out HB1.out,rfl⟩
  ·have k56:(k==56)=false:=by simpa using iX
   go_wp2_with fail;refine(rD.out _).mono ?_;rintro e w2 ⟨rfl,rfl⟩
   cases bb
   ·have HN:=zh (show R=(7,S) by rw[HD.out,if_neg zY,if_neg iX,if_pos rfl]);go_wp2_with fail;go_ret;exact⟨by rw[HN.out];rfl,P,by rw[HN.out];exact SStp.refl HS.out HB1.out,rfl⟩
   ·have HD2:=zh (show R=if fe≠0 then(fe,S)else zqn S t by rw[HD.out,if_neg zY,if_neg iX,if_neg zY]);clear HD rD;go_upto_region 9 with fail;have hSS:zW (fun w':World=>zN4 w' W.heap.size (zj k) (zi n) (.string s) (.slice A m c)) zU w2.drew:=⟨⟨y0,y1,y2,y3⟩,trivial⟩
    refine wp_region_noPanic ?_;refine zG hSS 3 ?_;refine zT 0 hSS ?_;refine zT 2 hSS ?_;have had:Calls prog 156 [.pointer (some ⟨P.sb,0,none⟩)].toArray w2.drew fun e W'=>∃u,e=.returned u/\u=.pointer (some cp)/\W'=w2.drew :=
     (cK.out _ HB1.out.drew).mono fun e W' hh=>⟨_,hh.1,rfl,hh.2⟩
    refine zo 1 fun K hK=>?_;refine zke zR (.func 156) [.tmp 22] _ zR 156 _ zvN zR _ zR _ had ?_;rintro v4 w4 ⟨rfl,rfl⟩;refine hK.out _ _ hSS ?_;clear hK K had;(try simp only[zQ]);have had:Calls prog 162 [.pointer (some cp),nv k n s A m c].toArray w2.drew fun e W'=>∃u,e=.returned u/\u=zi fe/\Below w2.drew.heap.size w2.drew W' :=
     (CG.out _ _ HB1.out.drew ((HV.out.later HB1.out).later zr.drew)).mono fun e W' hh=>⟨_,hh.1,rfl,hh.2⟩
    refine zp 3 fun K hK=>?_;refine zke zR (.func 162) [.tmp 23,.tmp 24] _ zR 162 _ zx1 zR _ zR _ had ?_;rintro v5 w5 ⟨rfl,hb5⟩;have aS:=zh (zka HB1.out.drew hb5);have fM:=zh (zkc (show w2.drew.heap[W.heap.size]?=_ from aC.out) hb5);obtain⟨u0,u1,u2,u3⟩:=box4 fM.out;refine hK.out _ _ ⟨u0,u1,u2,u3⟩ ?_;clear hK K had hb5 hSS y0 y1 y2 y3;(try simp only[zQ]);refine zp 4 fun K hK=>?_;(try simp only[zA,zB,zC]);go_simp;refine hK.out _ _ ⟨u0,u1,u2,u3⟩ ?_;clear hK K;(try simp only[zQ]);refine zd ?_;refine NoPanic.normal ?_;by_cases hfe:fe=0
    ·subst hfe;have lQ:=zh (rq.out (nv k n s A m c) w5 (HV.out.later aS.out) aS.out yB.out (by first|rfl|trivial) (by first|rfl|trivial) (by rw[HDE.out,HD2.out];simp));clear HD2 rq;go_wp2_with fail;refine lQ.out.mono ?_;rintro e w6 ⟨rfl,hh⟩;have HH:=zh hh;clear hh;go_wp2_with fail;go_ret;exact⟨rfl,HH.out⟩
    ·have HN:=zh (show R=(fe,S) by rw[HD2.out,if_pos hfe]);have e1:(fe==0)=false:=by simpa using hfe
     have e2:(fe != 0)=true:=by simpa using hfe
     clear HD2;go_wp2_with fail;go_ret;exact⟨by rw[HN.out];rfl,P,by rw[HN.out];exact SStp.refl HS.out aS.out,rfl⟩
theorem zyx{W:World}{n0:Nat}{P:Ph}{S:ST}(h:SR W n0 P S)(t:T)(v:Value)(hv:NV W Any t v) :
  Calls prog 140 #[.pointer (some ⟨P.sb,0,none⟩),v] W (DoP n0 P S W (zmi S t)):=by
 obtain⟨k,n,s,ks⟩:=t;obtain⟨A,c,rfl,hf,hlk,hlc,hrow⟩:=hv.open_;simp only[zND]at *
 obtain⟨k',hk'⟩:∃k',zk5 k=k':=⟨_,rfl⟩
 have hf':Fld k' n s:=by
  refine⟨?_,hf.2⟩;rw[<-hk'];unfold zk5;have:=hf.1
  split
  ·omega
  ·split
   ·omega
   ·split
    ·omega
    ·split
     ·omega
     ·split
      ·omega
      ·split
       ·omega
       ·split
        ·omega
        ·split
         ·omega
         ·exact this
 obtain⟨R,hR⟩:=zX (zmi S (.nd k n s ks));rw[hR];have HDO:=zh (show ∀W',zw W W'->Calls prog 141 #[.pointer (some ⟨P.sb,0,none⟩),nv k' n s A ks.length c] W' (DoP n0 P S W R)from fun W' hb=>by
  have e:doE S (.nd k' n s ks)=R:=by rw[<-hR,<-hk'];rfl
  have:=zzb (h.later hb) (.nd k' n s ks) (nv k' n s A ks.length c) (NV.shut hf' hlk hlc (hrow.later hb));rw[e]at this;refine this.mono ?_;rintro e W2 ⟨a1,P',a2,a3⟩;exact⟨a1,P',⟨a2.st.after hb h.rws,a2.wf⟩,a3⟩)
 have qx:=zh (fun w=>hk'▸zsd k w);obtain⟨m,hm⟩:=zX (ks.length);rw[hm]at HDO ⊢;clear h hv hR hf hf' hrow hlk hlc hm hk';go_enter func140,ntmps140;go_wp2_with fail;refine(qx.out _).mono ?_;rintro e w1 ⟨rfl,rfl⟩;go_wp2_with fail;refine(HDO.out _ (zkb zr _)).mono ?_;rintro e w6 ⟨rfl,hh⟩;have HH:=zh hh;clear hh;go_wp2_with fail;go_ret;exact⟨rfl,HH.out⟩
def FrK(S S':ST):Prop:=S'.base=S.base/\S'.calls=S.calls/\S'.nc=S.nc
theorem zs1(S:ST)(k:Int)(id i af:Nat):FrK S (zlK S k id i af).2:=by
 unfold zlK
 repeat' split
 all_goals exact⟨rfl,rfl,rfl⟩
theorem zuA(S:ST)(k:Int)(id i:Nat):FrK S (zks S k id i).2:=by
 unfold zks
 repeat' split
 all_goals exact⟨rfl,rfl,rfl⟩
theorem zx9(S:ST)(k:Int)(s qs:ByteArray)(r2:Int)(id i:Nat):FrK S (zkC S k s qs r2 id i).2:=by
 unfold zkC
 repeat' split
 all_goals first|exact zs1 _ _ _ _ _|exact zuA _ _ _ _|exact⟨rfl,rfl,rfl⟩
theorem zya(S:ST)(k:Int)(s ps qs:ByteArray)(r1:Int)(r2:Int×Int):FrK S (znB S k s ps qs r1 r2).2:=by
 unfold znB
 repeat' split
 all_goals first|exact zx9 _ _ _ _ _ _ _|exact⟨rfl,rfl,rfl⟩
theorem zyb(S:ST)(k:Int)(s:ByteArray)(p q:T)(r1 r2:Int×Int):FrK S (zlj S k s p q r1 r2).2:=by
 unfold zlj;by_cases h:r1.2≠0
 ·rw[if_pos h];exact⟨rfl,rfl,rfl⟩
 ·rw[if_neg h];exact zya _ _ _ _ _ _ _
theorem zv8(S:ST)(t:T):FrK S (doE S t).2:=by
 unfold doE
 repeat' split
 all_goals first|exact⟨rfl,rfl,rfl⟩|skip
 obtain⟨k,n,s,ks⟩:=t;exact zyb _ _ _ _ _ _ _
theorem zw8(S:ST)(t:T):FrK S (zmi S t).2:=by
 obtain⟨k,n,s,ks⟩:=t;exact zv8 _ _
theorem zth{f:FR}:∀(l:List (VD×ByteArray)) (acc g:FR),entL f acc l=.ok g->g.vs.length=acc.vs.length+l.length
 | [],acc,g,h=>by rw[entL]at h;injection h with h;subst h;simp
 | (v,a)::r,acc,g,h=>by
  rw[entL]at h
  split at h
  ·cases h
  ·split at h
   ·have:=zth r _ _ h;simp at this ⊢;omega
   ·cases h
theorem zl6{w:World}{b:Nat}{E:TypeId}{u0 u1 u2:Value}(h:w.heap[b]?=some (.cells #[u0,u1,u2] E (0,0))):w.cell? ⟨b,0,none⟩=some u0/\w.cell? ⟨b,1,none⟩=some u1/\w.cell? ⟨b,2,none⟩=some u2 :=
 ⟨zc h rfl,zc h rfl,zc h rfl⟩
theorem zsM{W:World}{n0:Nat}{E:TypeId}{v:Value}{l:List Int}(h:W.ownsRow n0 E 1 v l.length (zki l))(hf:∀x∈l,I64 x):∃A c,v=.slice A l.length c/\l.length<=c/\RowI W (fun b=>n0<=b) A l:=by
 obtain⟨A,c,e,hc,hr⟩:=zlp (xs:=l) h hf;exact⟨A,c,e,hc,hr.keep (fun b hb _=>(h.lt b hb).1) (fun _ _ _=>rfl)⟩
theorem OwnS.svR{W:World}{n0:Nat}{s:SS}{v:Value}(h:OwnS W n0 s v)(hl:s.Lim):SV W (fun b=>n0<=b) s v:=by
 obtain⟨vc,vi,vo,fc,rfl,hr,h1,h2,h3⟩:=h;obtain⟨AI,cI,e2,k2,r2⟩:=zsM (hr.row .inp) h2;obtain⟨AO,cO,e3,k3,r3⟩:=zsM (hr.row .out) h3;change vi=_ at e2;change vo=_ at e3;have key:∃A c,vc=.slice A s.cells.length c/\s.cells.length<=c/\zn5 W (fun b=>n0<=b) A s.cells:=by
  rcases Nat.eq_zero_or_pos s.cells.length with h0|h0
  ·obtain⟨A,c,e1,hc,_⟩:=zkh (hr.row .all);exact⟨A,c,e1,hc,fun i hi=>zO⟩
  ·obtain⟨g,c,e1,hc,_,hcell⟩:=zlg (hr.row .all) h0;change vc=_ at e1;have hg:n0<=g:=(hr.lt .all g (by show vc.ownBlock=some g;rw[e1];rfl)).1;refine⟨_,c,e1,hc,fun i hi=>?_⟩;have aT:=hr.row (.el i);simp only[zof,hi,if_true,List.getD_eq_getElem?_getD,List.getElem?_eq_getElem hi,Option.getD_some]at aT;obtain⟨A',c',e4,k4,r4⟩:=zsM aT (h1 _ (List.getElem_mem hi));have ha:(⟨g,0,none⟩:Addr).add i=⟨g,i,none⟩:=by rw[Addr.add_lit,Nat.zero_add]
   refine⟨⟨g,0,none⟩,A',c',rfl,hg,?_,k4,r4⟩;rw[ha,<-e4,hcell i (by show i<s.cells.length*1;omega)];simp[zof,hi]
 obtain⟨A,c,e1,k1,r1⟩:=key;exact⟨A,c,AI,cI,AO,cO,by rw[e1,e2,e3],r1,r2,r3,k1,k2,k3,hl⟩
theorem SV.any{W:World}{S:Nat->Prop}{s:SS}{v:Value}(h:SV W S s v):SV W Any s v:=h.keep (fun _ _ _=>trivial) fun _ _ _=>rfl
theorem SR.n0le{W:World}{n0:Nat}{P:Ph}{S:ST}(h:SR W n0 P S):n0<=W.heap.size:=by have:=h.rws.lt .sb _ rfl;omega
theorem SR.own_lt{W:World}{n0:Nat}{P:Ph}{S:ST}(h:SR W n0 P S){b:Nat}(hb:OwnB (rows P S) b):n0<=b/\b<W.heap.size:=by
 obtain⟨q,hq⟩:=hb;exact h.rws.lt q b hq
theorem SStp.frame{w W W':World}{n0:Nat}{P P':Ph}{S S':ST}(hst:SStp n0 P S W P' S' W')(hs:SR W n0 P S)(hb:zw w W)(hn:w.heap.size<=n0):zw w W' :=
 hb.trans (hst.st.chg.below (Nat.le_trans hn hs.n0le) fun _ ho=>Nat.le_trans hn (hs.own_lt ho).1)
theorem SStp.no{W W':World}{n0:Nat}{P P':Ph}{S S':ST}{b:Nat}(hst:SStp n0 P S W P' S' W')(hlt:b<W.heap.size)(hno:¬ OwnB (rows P S) b):¬ OwnB (rows P' S') b:=fun ho=>by
 rcases hst.st.own _ ho with h|h
 ·exact hno h
 ·omega
theorem zln{P:Program}{ops:Array Oper}{o:Oper}{a:Act}{w:World}{K:Act->World->Prop}{Q:Exit->Act->World->Prop}{F:Prop}(hw:Region.wanted o (yielded ops a.tmps)=true)(x:Operand)(xs:List Operand)(ats:Array TypeId)
  (ho:o.op=.call { callee:=.value x,args:=xs.toArray,argTypes:=ats })(f:FuncId)(fn:Func)(hf:IsFn P f fn)(hv:a.eval x=.func (.func f) #[] #[])(l:List Value)(hargs:xs.map a.eval=l)(R:Value->World->Prop)
  (hc:Calls P f l.toArray w fun e w'=>∃v,e=.returned v/\R v w')(h:∀v w',R v w'->K (a.put o.dst v) w') :
  if Region.wanted o (yielded ops a.tmps)=true then Oper.wp P o a w K Q else F:=by
 rw[if_pos hw];subst hargs;have e:(execOp a.eval o).run P w=.ok (.enter f (xs.map a.eval).toArray) w:=by
  unfold execOp;simp only[ho,resolve,hv,Deferred.ofValue,Sem.run_bind,Sem.run_pure,Result.andThen_ok,invoke,zkH hf,Array.empty_append,List.map_toArray,Array.append_empty]
 unfold Oper.wp;rw[e,Oper.upon_enter];refine hc.mono ?_;rintro e w' ⟨v,rfl,hR⟩;exact h v w' hR
structure KS(w:World)(n0 sb:Nat)(kb:Nat->Prop)(W:World)(S:ST):Prop where
 bl:Below w.heap.size w W
 hn:w.heap.size<=n0
 sr:∃P,SR W n0 P S/\P.sb=sb/\∀b,kb b->b<W.heap.size/\¬ OwnB (rows P S) b
structure Kpt(n0:Nat)(kb:Nat->Prop)(W W':World):Prop where
 size:W.heap.size<=W'.heap.size
 kept:∀b,b<W.heap.size->(b<n0\/kb b)->W'.heap[b]?=W.heap[b]?
section
variable {w W W' W'':World} {n0 sb:Nat} {kb kb':Nat->Prop} {S S':ST}
theorem Kpt.refl(n0:Nat)(kb:Nat->Prop)(W:World):Kpt n0 kb W W:=⟨zl,fun _ _ _=>rfl⟩
theorem Kpt.trans(h:Kpt n0 kb W W')(h':Kpt n0 kb W' W''):Kpt n0 kb W W'':=⟨Nat.le_trans h.size h'.size,fun b hb hk=>(h'.kept b (Nat.lt_of_lt_of_le hb h.size) hk).trans (h.kept b hb hk)⟩
theorem Kpt.of_below(h:zw W W'):Kpt n0 kb W W':=⟨h.size,fun b hb _=>h.block b hb⟩
theorem Kpt.cell{b o:Nat}{u:Value}(h:Kpt n0 kb W W')(hk:b<n0\/kb b)(hc:W.cell? ⟨b,o,none⟩=some u):W'.cell? ⟨b,o,none⟩=some u :=
 zkN hc (h.kept b (World.block_lt_of_cell? W _ hc) hk)
theorem Kpt.blk{b:Nat}{o:Obj}(h:Kpt n0 kb W W')(hk:b<n0\/kb b)(hc:W.heap[b]?=some o):W'.heap[b]?=some o:=(h.kept b (zkf hc) hk).trans hc
theorem KS.wf(h:KS w n0 sb kb W S):S.WF:=by obtain⟨P,hs,_⟩:=h.sr;exact hs.wf
theorem KS.later(h:KS w n0 sb kb W S)(hb:zw W W'):KS w n0 sb kb W' S:=by
 obtain⟨P,hs,e,hk⟩:=h.sr;exact⟨zka h.bl hb,h.hn,P,hs.later hb,e,fun b hb'=>⟨Nat.lt_of_lt_of_le (hk b hb').1 hb.size,(hk b hb').2⟩⟩
theorem KS.also(h:KS w n0 sb kb W S)(hb:zw W W')(hkb:∀b,kb' b->kb b\/(W.heap.size<=b/\b<W'.heap.size)):KS w n0 sb kb' W' S:=by
 obtain⟨P,hs,e,hk⟩:=h.sr;refine⟨zka h.bl hb,h.hn,P,hs.later hb,e,fun b hb'=>?_⟩;rcases hkb b hb' with h1|⟨h1,h2⟩
 ·exact⟨Nat.lt_of_lt_of_le (hk b h1).1 hb.size,(hk b h1).2⟩
 ·exact⟨h2,fun ho=>by have:=(hs.own_lt ho).2;omega⟩
theorem KS.less(h:KS w n0 sb kb W S)(hkb:∀b,kb' b->kb b):KS w n0 sb kb' W S:=h.also zr fun b hb=>.inl (hkb b hb)
theorem KS.new{P:Ph}{vs:List VD}{s:SS}{W0:World}(h0:zw w W0)(hb:zw W0 W)(hs:SR W W0.heap.size P (newS vs s)):KS w W0.heap.size P.sb (fun _=>False) W (newS vs s) :=
 ⟨zka h0 hb,h0.size,P,hs,rfl,fun _ h=>h.elim⟩
def KP(w:World)(n0 sb:Nat)(kb:Nat->Prop)(W:World)(R:Int×ST)(e:Ending)(W':World):Prop:=e=.returned (zi R.1)/\KS w n0 sb kb W' R.2/\Kpt n0 kb W W'
theorem KS.stp{P P':Ph}(hbl:zw w W)(hn0:w.heap.size<=n0)(hs:SR W n0 P S)(hk:∀b,kb b->b<W.heap.size/\¬ OwnB (rows P S) b)(hst:SStp n0 P S W P' S' W')(hsb:P'.sb=sb):KS w n0 sb kb W' S'/\Kpt n0 kb W W':=by
 refine⟨⟨hst.frame hs hbl hn0,hn0,P',hst.sr,hsb,fun b hb=>⟨Nat.lt_of_lt_of_le (hk b hb).1 hst.st.chg.size,hst.no (hk b hb).1 (hk b hb).2⟩⟩,hst.st.chg.size,fun b hlt hb=>hst.st.chg.block b hlt fun ho=>?_⟩;rcases hb with hb|hb
 ·have:=(hs.own_lt ho).1;omega
 ·exact(hk b hb).2 ho
theorem KS.dop(h:KS w n0 sb kb W S){f:FuncId}{args:Array Value}{R:Int×ST}(hc:∀P,SR W n0 P S->P.sb=sb->Calls prog f args W (DoP n0 P S W R)):Calls prog f args W (KP w n0 sb kb W R):=by
 obtain⟨P,hs,e,hk⟩:=h.sr;refine(hc P hs e).mono ?_;rintro e' W2 ⟨a1,P',a2,a3⟩;exact⟨a1,KS.stp h.bl h.hn hs hk a2 (a3.trans e)⟩
theorem KS.do_(h:KS w n0 sb kb W S)(t:T)(v:Value)(hv:NV W Any t v):Calls prog 141 #[.pointer (some ⟨sb,0,none⟩),v] W (KP w n0 sb kb W (doE S t)) :=
 h.dop fun _ hs e=>e▸zzb hs t v hv
theorem KS.undo(h:KS w n0 sb kb W S)(t:T)(v:Value)(hv:NV W Any t v):Calls prog 140 #[.pointer (some ⟨sb,0,none⟩),v] W (KP w n0 sb kb W (zmi S t)) :=
 h.dop fun _ hs e=>e▸zyx hs t v hv
theorem KS.open_(h:KS w n0 sb kb W S)(v:VD)(hfv:FldV v)(x:Int)(hx:I64 x)(hlim:S.cur.vs.length+1<=4398046511000):Calls prog 137 #[.pointer (some ⟨sb,0,none⟩),.agg #[.string v.s,zj v.k,zi v.n],zi x] W (KP w n0 sb kb W (zlv S v x)) :=
 h.dop fun _ hs e=>e▸zyE hs v hfv x hx hlim
theorem KS.close(h:KS w n0 sb kb W S)(s:ByteArray)(x:Int):Calls prog 138 #[.pointer (some ⟨sb,0,none⟩),.string s,zi x] W (KP w n0 sb kb W (zkW S s x)) :=
 h.dop fun _ hs e=>e▸zwU hs s x
theorem KS.enter(h:KS w n0 sb kb W S)(ps:List VD)(ss:List ByteArray)(A D:Option Addr)(c d:Nat)(hp:RowV W Any A ps)(hs:RowS W D ss)(hlp:ps.length<=4398046511000)(hls:ss.length<=17592186044416):Calls prog 158 #[.pointer (some ⟨sb,0,none⟩),.slice A ps.length c,.slice D ss.length d] W (KP w n0 sb kb W (zly S ps ss)) :=
 h.dop fun _ hs' e=>e▸zwR hs' ps ss A D c d hp hs hlp hls
theorem KS.leave(h:KS w n0 sb kb W S):Calls prog 159 #[.pointer (some ⟨sb,0,none⟩)] W (KP w n0 sb kb W (zlL S)) :=
 h.dop fun _ hs e=>e▸zwz hs
theorem KS.cell(h:KS w n0 sb kb W S)(s:ByteArray):Calls prog 167 #[.pointer (some ⟨sb,0,none⟩),.string s] W (zLF W S s):=by
 obtain⟨P,hs,rfl,-⟩:=h.sr;exact zww hs s
theorem KS.state(h:KS w n0 sb kb W S):Calls prog 77 #[.pointer (some ⟨sb,0,none⟩)] W fun e W'=>∃v,e=.returned v/\OwnS W' W.heap.size S.state v/\zw W W':=by
 obtain⟨P,hs,rfl,-⟩:=h.sr;exact zwv hs
end
theorem KS.chg{w W W':World}{n0 sb:Nat}{kb C:Nat->Prop}{S:ST}(h:KS w n0 sb kb W S)(hc:Chg C W W')(hC:∀b,b<W.heap.size->C b->w.heap.size<=b/\(b<n0\/kb b)):KS w n0 sb kb W' S:=by
 obtain⟨P,hs,e,hk⟩:=h.sr;have hno:∀b,OwnB (rows P S) b->¬ C b:=fun b ho hcb=>by
  obtain⟨-,h2⟩:=hC b (hs.own_lt ho).2 hcb;rcases h2 with h2|h2
  ·have:=(hs.own_lt ho).1;omega
  ·exact(hk b h2).2 ho
 refine⟨?_,h.hn,P,⟨hs.rws.chg hc fun i b hb=>hno b ⟨i,hb⟩,hs.wf⟩,e,fun b hb=>⟨Nat.lt_of_lt_of_le (hk b hb).1 hc.size,(hk b hb).2⟩⟩;exact⟨hc.os.trans h.bl.os,hc.tape.trans h.bl.tape,hc.output.trans h.bl.output,Nat.le_trans h.bl.size hc.size,fun b hb=>by
  rw[hc.block b (Nat.lt_of_lt_of_le hb h.bl.size) fun hcb=>by have:=(hC b (Nat.lt_of_lt_of_le hb h.bl.size) hcb).1;omega];exact h.bl.block b hb⟩
theorem zLv(A:Option Addr)(l c:Nat)(w:World):(Instr.buildSlice 41 1 #[(0,.slice A l c)]).run prog w=.ok (.slice (some ⟨w.heap.size,0,none⟩) 1 1) (w.alloc (.cells #[.slice A l c] 42)):=zK
theorem bS12(B C:Option Addr)(m d n e:Nat)(w:World):(Instr.build 44 #[(1,.slice B m d),(2,.slice C n e)]).run prog w=.ok (.agg #[zn,.slice B m d,.slice C n e]) w:=zK
section
variable {P:Program} {ops:Array Oper} {Q:Exit->Act->World->Prop} {md:Region.Mode} {S1 S2:World->Prop} {k:Nat}
theorem zqD(I:Nat->Array Bool->Act->World->Prop)(hS:∀f l a w,I f l a w->S1 w/\S2 w)
  (h:∀f l a w,I f l a w->wpG P md ops Q S1 S2 k f l a w\/∃f',f=f'+1/\Region.ready md ops l≠[]/\∀i∈Region.ready md ops l,wpOp P ops Q i (fun a' w'=>I f' (l.setIfInBounds i true) a' w') a w) :
  ∀f l a w,I f l a w->wpG P md ops Q S1 S2 k f l a w
 | 0,l,a,w,hi=>by
  rcases h 0 l a w hi with h1|⟨f',h1,_⟩
  ·exact h1
  ·omega
 | f+1,l,a,w,hi=>by
  rcases h (f+1) l a w hi with h1|⟨f',h1,h2,h3⟩
  ·exact h1
  ·obtain rfl:f=f':=zO
   exact⟨fun h0=>absurd h0 h2,fun i hm=>wpOp_mono (fun a' w' h'=>⟨⟨(hS _ _ _ _ h').1,fun _=>(hS _ _ _ _ h').2⟩,zqD I hS h f _ a' w' h'⟩) (h3 i hm)⟩
theorem zsz{a0:Act}{f0:Nat}{l0:Array Bool}{w0:World}(I:Act->Nat->Array Bool->Act->World->Prop)(hS:∀A f l a w,I A f l a w->S1 w/\S2 w)
  (h:∀A,A=a0->∀f l a w,I A f l a w->wpG P md ops Q S1 S2 k f l a w\/∃f',f=f'+1/\Region.ready md ops l≠[]/\∀i∈Region.ready md ops l,wpOp P ops Q i (fun a' w'=>I A f' (l.setIfInBounds i true) a' w') a w)
  (h0:I a0 f0 l0 a0 w0):wpG P md ops Q S1 S2 k f0 l0 a0 w0:=zqD (I a0) (hS a0) (h a0 rfl) _ _ _ _ h0
end
def zph(l0 l3 l4 l7 l9:Bool)(v5 v8 v9 v12:Value)(b3:Nat)(s:SS):Option SI->RowD
 | none=>if l9=true then⟨boxV b3,44,3,1,[zn,zn,zn]⟩else nilR
 | some .inp=>if l3=true then⟨v8,3,1,s.tin.length,zki s.tin⟩else if l0=true then⟨v5,3,1,0,[]⟩else nilR
 | some .out=>if l7=true then⟨v12,3,1,s.tout.length,zki s.tout⟩else if l4=true then⟨v9,3,1,0,[]⟩else nilR
 | some _=>nilR
def zl5(vc vi vo:Value)(fc:Nat->Value)(b3:Nat)(s:SS)(j:Nat):Option SI->RowD
 | none=>⟨boxV b3,44,3,1,[vc,vi,vo]⟩
 | some .all=>⟨vc,42,1,j,(List.range j).map fc⟩
 | some (.el i)=>if i<j then⟨fc i,3,1,(s.cells.getD i []).length,zki (s.cells.getD i [])⟩else nilR
 | some .inp=>⟨vi,3,1,s.tin.length,zki s.tin⟩
 | some .out=>⟨vo,3,1,s.tout.length,zki s.tout⟩
theorem zzK(w:World)(n0:Nat)(v5 v8 v9 v12:Value)(b3:Nat)(s:SS):Rws w n0 (zph false false false false false v5 v8 v9 v12 b3 s):=by
 have e:∀i,zph false false false false false v5 v8 v9 v12 b3 s i=nilR:=by
  intro i;rcases i with _|i
  ·rfl
  ·cases i<;>rfl
 refine⟨fun i=>by rw[e];exact zmb w n0,fun i j b _ hi _=>?_⟩;rw[e]at hi;simp[nilR,Value.ownBlock]at hi
theorem zxs(w:World)(n0:Nat)(h:n0<=w.heap.size)(a b c:Value)(E:TypeId):(w.alloc (.cells #[a,b,c] E)).ownsRow n0 E 3 (boxV w.heap.size) 1 [a,b,c] :=
 ⟨rfl,.inr ⟨w.heap.size,1,#[a,b,c],rfl,h,heap_alloc_new w _,zl,by unfold maxLen;omega,rfl,rfl⟩⟩
theorem ztG(vc iR vi vo:Value)(fc:Nat->Value)(b3:Nat)(s:SS)(j:Nat)(l:List Int)(v8 r5:Value)(hl:s.cells.getD j []=l) :
  updR (updR (updR (updR (zl5 vc vi vo fc b3 s j) (some (.el j)) ⟨r5,3,1,0,[]⟩) (some (.el j)) ⟨v8,3,1,l.length,zki l⟩) (some .all) ⟨iR,42,1,j+1,(List.range j).map fc++[v8]⟩) none ⟨boxV b3,44,3,1,[iR,vi,vo]⟩=zl5 iR vi vo (fun i=>if i=j then v8 else fc i) b3 s (j+1):=by
 funext i;rcases i with _|i
 ·rfl
 ·cases i with
  | all =>
   simp only[updR,zl5,reduceCtorEq,if_false,if_true,RowD.mk.injEq,true_and];rw[List.range_succ,List.map_append];congr 1
   ·refine List.map_congr_left fun i hi=>?_;have:i≠j:=by have:=List.mem_range.1 hi;omega
    simp[this]
   ·simp
  | inp=>rfl
  | out=>rfl
  | el i =>
   by_cases e:i=j
   ·subst e;simp[updR,zl5,<-hl]
   ·have e2:(i<j+1)↔(i<j):=zO
    simp[updR,zl5,e,e2]
theorem zqP{W:World}{n0:Nat}{vc vi vo:Value}{fc:Nat->Value}{b3:Nat}{s:SS}(h:Rws W n0 (zl5 vc vi vo fc b3 s s.cells.length)):Rws W n0 (zof vc vi vo fc s):=by
 have e:∀i,zof vc vi vo fc s i=zl5 vc vi vo fc b3 s s.cells.length (some i):=fun i=>by cases i<;>rfl
 refine⟨fun i=>by rw[e];exact h.row (some i),fun i j b hij hi hj=>?_⟩;rw[e]at hi hj;exact h.sep (some i) (some j) b (fun e'=>hij (by injection e')) hi hj
theorem zu5{w:World}{n0 b:Nat}{x y z:Value}{E:TypeId}(hn:n0<=b)(h:w.heap[b]?=some (.cells #[x,y,z] E (0,0))):w.ownsRow n0 E 3 (boxV b) 1 [x,y,z] :=
 ⟨rfl,.inr ⟨b,1,#[x,y,z],rfl,hn,h,zl,by unfold maxLen;omega,rfl,rfl⟩⟩
theorem zr4(w:World)(n0:Nat)(E:TypeId):w.ownsRow n0 E 1 zn 0 []:=⟨rfl,.inl ⟨rfl,rfl⟩⟩
theorem k_2(l5 l9:Bool)(v5 v8 v8' v9 v12:Value)(b3:Nat)(s:SS):updR (zph false false false l5 l9 v5 v8' v9 v12 b3 s) (some .inp) ⟨v8,3,1,s.tin.length,zki s.tin⟩=zph false true false l5 l9 v5 v8 v9 v12 b3 s:=by
 funext i;rcases i with _|i
 ·rfl
 ·cases i<;>rfl
theorem k_5(l2 l9:Bool)(v5 v8 v9 v12 v12':Value)(b3:Nat)(s:SS):updR (zph false l2 false false l9 v5 v8 v9 v12' b3 s) (some .out) ⟨v12,3,1,s.tout.length,zki s.tout⟩=zph false l2 false true l9 v5 v8 v9 v12 b3 s:=by
 funext i;rcases i with _|i
 ·rfl
 ·cases i<;>rfl
theorem k_7(l2 l5:Bool)(v5 v8 v9 v12:Value)(b3 b3':Nat)(s:SS):updR (zph false l2 false l5 false v5 v8 v9 v12 b3' s) none ⟨boxV b3,44,3,1,[zn,zn,zn]⟩=zph false l2 false l5 true v5 v8 v9 v12 b3 s:=by
 funext i;rcases i with _|i
 ·rfl
 ·cases i<;>rfl
theorem zLW(vi vo v5 v9:Value)(fc:Nat->Value)(b3:Nat)(s:SS):updR (updR (zph false true false true true v5 vi v9 vo b3 s) none ⟨boxV b3,44,3,1,[zn,vi,vo]⟩) (some .all) ⟨zn,42,1,0,[]⟩=zl5 zn vi vo fc b3 s 0:=by
 funext i;rcases i with _|i
 ·rfl
 ·cases i<;>rfl
theorem zyX(vc iR vi vo:Value)(fc:Nat->Value)(b3:Nat)(s:SS)(j:Nat)(l:List Int)(v8:Value)(hl:s.cells.getD j []=l) :
  updR (updR (updR (zl5 vc vi vo fc b3 s j) (some (.el j)) ⟨v8,3,1,l.length,zki l⟩) (some .all) ⟨iR,42,1,j+1,(List.range j).map fc++[v8]⟩) none ⟨boxV b3,44,3,1,[iR,vi,vo]⟩=zl5 iR vi vo (fun i=>if i=j then v8 else fc i) b3 s (j+1):=by
 rw[<-ztG vc iR vi vo fc b3 s j l v8 v8 hl];congr 2;funext i;by_cases e:i=some (.el j)
 ·subst e;simp[updR]
 ·simp[updR,e]
theorem zqB(s:SS)(v:Value)(w:World)(hv:SV w Any s v)(hcl:s.cells.length<=5864062014800):Calls prog 31 #[v] w fun e W'=>∃v',e=.returned v'/\OwnS W' w.heap.size s v'/\zw w W':=by
 have h1:=bS12;have HV:=zh hv;obtain⟨A,c,B,d,D,e,rfl,hr1,hr2,hr3,hc1,hc2,hc3,hl1,hl2,hl3,hl4⟩:=hv;have hk:=heap_alloc_new w (.cells #[.slice A s.cells.length c,.slice B s.tin.length d,.slice D s.tout.length e] 44);have hbw:zw w ((w.alloc (.cells #[.slice A s.cells.length c,.slice B s.tin.length d,.slice D s.tout.length e] 44)).alloc (.cells #[zn,zn,zn] 44)):=zkb (zkb zr _) _;have hk2:=zkd hk (.cells #[zn,zn,zn] 44);have hz1:((w.alloc (.cells #[.slice A s.cells.length c,.slice B s.tin.length d,.slice D s.tout.length e] 44)).alloc (.cells #[zn,zn,zn] 44)).heap.size=w.heap.size+1+1:=zS
 have hk3:=heap_alloc_new (w.alloc (.cells #[.slice A s.cells.length c,.slice B s.tin.length d,.slice D s.tout.length e] 44)) (.cells #[zn,zn,zn] 44);rw[World.size_alloc]at hk3;have HI:=zh (show s.I from⟨fun l hl=>by
  obtain⟨i,hi,rfl⟩:=List.mem_iff_getElem.1 hl;obtain⟨_,_,_,_,_,_,_,hr⟩:=hr1 i hi;exact hr.fits,hr2.fits,hr3.fits⟩)
 go_enter func31,ntmps31;go_upto_region 1 with fail;obtain⟨w1,hw1⟩:=zX ((w.alloc (.cells #[.slice A s.cells.length c,.slice B s.tin.length d,.slice D s.tout.length e] 44)).alloc (.cells #[zn,zn,zn] 44));rw[hw1]at hbw hk2 hk3 hz1 ⊢;have HB1:=zh hbw;have aC:=zh hk2;have fF:=zh hk3;have HR1:=zh (hr1.later hbw);have HR2:=zh (hr2.later hbw);have HR3:=zh (hr3.later hbw);have HL:=zh (show s.Lim from⟨hl1,hl2,hl3,hl4⟩);clear hk hbw hk2 hk3 hw1 hr1 hr2 hr3 hl1 hl2 hl3 hl4 HV;obtain⟨z0,z1,z2⟩:=zl6 aC.out;have hSS:zW (fun w':World=>zv w' w.heap.size 1 (.slice B s.tin.length d)/\zv w' w.heap.size 2 (.slice D s.tout.length e)) zU w1.drew:=⟨⟨z1,z2⟩,trivial⟩
 refine wp_region_noPanic ?_;refine zG hSS 8 ?_;refine zT 0 hSS ?_;refine zT 1 hSS ?_;refine zT 3 hSS ?_;refine zT 4 hSS ?_;refine zsz (fun A f l a wr=>∃(l2 l5 l6 l7:Bool) (v8 v12 v13 v3:Value) (b3:Nat),f=(!l2).toNat+(!l5).toNat+(!l6).toNat+(!l7).toNat+1/\l = #[true,true,l2,true,true,l5,l6,l7,false] /\
  a=(((A.put (some 8) v8).put (some 11) v12).put (some 12) v13).put (some 3) v3/\Hid (zw w1 wr)/\Hid (Rws wr w1.heap.size (zph false l2 false l5 l7 undef v8 undef v12 b3 s))/\Hid ((l5=true->l2=true)/\(l6=true->v13=.agg #[zn,v8,v12]/\l2=true/\l5=true)/\(l7=true->v3=.pointer (some ⟨b3,0,none⟩)))/\Hid (l7=false->v3=undef)) (fun A f l a wr h=>?_) ?_ ⟨false,false,false,false,undef,undef,undef,undef,0,rfl,rfl,(by simp only[Act.put,zD,zE,zF]),zh zr.drew,zh (zzK _ _ _ _ _ _ _ _),zh ⟨fun h=>(by cases h),fun h=>(by cases h),fun h=>(by cases h)⟩,zh (fun _=>rfl)⟩
 ·obtain⟨_,_,_,_,_,_,_,_,_,_,_,_,hb,_⟩:=h;exact⟨⟨zb hb.out z1,zb hb.out z2⟩,trivial⟩
 rintro A' hA f l a wr ⟨l2,l5,l6,l7,v8,v12,v13,v3,b3,hf,rfl,ha,ag,HRW,HC,HU⟩;by_cases hall:(l2&&l5&&l6&&l7)=true
 ·left
  simp only[Bool.and_eq_true]at hall;obtain⟨⟨⟨rfl,rfl⟩,rfl⟩,rfl⟩:=hall;obtain⟨-,mV,h3⟩:=HC.out;obtain⟨rfl,-,-⟩:=mV rfl;obtain rfl:=h3 rfl;subst hf ha hA;have hrow:=HRW.out.row none;obtain⟨B8,c8,e8,-,-⟩:=zkh (HRW.out.row (some .inp));change v8=.slice B8 s.tin.length c8 at e8;obtain⟨lF,c12,e12,-,-⟩:=zkh (HRW.out.row (some .out));change v12=.slice lF s.tout.length c12 at e12;subst e8 e12;have hbx:=zl2 hrow;have c0:wr.cell? ⟨b3,0,none⟩=some zn:=zc hbx rfl;have c1:wr.cell? ⟨b3,1,none⟩=some zn:=zc hbx rfl;have c2:wr.cell? ⟨b3,2,none⟩=some zn:=zc hbx rfl;have cf:∀j,wr.frozen? ⟨b3,j,none⟩=false:=fun j=>zf hbx;refine zp 8 fun K hK=>?_;(try simp only[zQ]);go_simp;have hb3:w1.heap.size<=b3/\b3<wr.heap.size:=hrow.lt b3 rfl
  have hch:Chg (fun b=>b=b3) wr (((wr.setCell ⟨b3,0,none⟩ zn).setCell ⟨b3,1,none⟩ (.slice B8 s.tin.length c8)).setCell ⟨b3,2,none⟩ (.slice lF s.tout.length c12)) :=
   (((Chg.refl (fun b=>b=b3) wr).setCell (p:=⟨b3,0,none⟩) (.inl rfl) _).setCell (p:=⟨b3,1,none⟩) (.inl rfl) _).setCell (p:=⟨b3,2,none⟩) (.inl rfl) _
  have hh:=heap_setCell_same _ b3 2 _ _ (.slice lF s.tout.length c12) (heap_setCell_same _ b3 1 _ _ (.slice B8 s.tin.length c8) (heap_setCell_same wr b3 0 _ _ zn hbx));have aR:=zh (ag.out.trans (hch.below ag.out.size fun b e=>zO));have hrw:=(HRW.out.upd none (r:=⟨boxV b3,44,3,1,[zn,.slice B8 s.tin.length c8,.slice lF s.tout.length c12]⟩) (hch.mono fun b _ e=>by subst e;rfl) (zu5 hb3.1 hh) (fun b hb=>.inl hb)).upd (some .all) (r:=⟨zn,42,1,0,[]⟩) (Chg.refl _ _) (zr4 _ _ _) (fun b hb=>by simp[Value.ownBlock]at hb);rw[zLW (fc:=fun _=>zn)]at hrw;have qU:=zh hrw;obtain⟨w2,hw2⟩:=zX (((wr.setCell ⟨b3,0,none⟩ zn).setCell ⟨b3,1,none⟩ (.slice B8 s.tin.length c8)).setCell ⟨b3,2,none⟩ (.slice lF s.tout.length c12));rw[hw2]at aR qU ⊢
  have aB:(fun w':World=>zv w' w.heap.size 1 (.slice B s.tin.length d)/\zv w' w.heap.size 2 (.slice D s.tout.length e)) w2:=⟨zb aR.out z1,zb aR.out z2⟩
  refine hK.out _ _ aB ?_;clear hK K hSS aB hch hh hrw hw2 hbx c0 c1 c2 cf hrow HRW ag HU HC mV h3 h1;refine zd ?_;refine NoPanic.normal ?_;obtain⟨vi,rP⟩:=zX (Value.slice B8 s.tin.length c8);obtain⟨vo,Ay⟩:=zX (Value.slice lF s.tout.length c12);rw[rP,Ay]at qU;have xV:=zh rP;have HVO:=zh Ay;clear rP Ay;have q0:=zb aR.out z0;go_wp2_with fail;clear q0
  go_loopw [16] (fun i wr=>∃j:Nat,j<=s.cells.length/\i=zi j/\Hid (zw w1 wr)/\∃vc fc,Hid (Rws wr w1.heap.size (zl5 vc vi vo fc b3 s j))) (fun i _=>s.cells.length-(intOf i).toNat)
  case atStart=>exact⟨0,Nat.zero_le _,rfl,aR,_,_,qU⟩
  case round =>
   clear aR qU;obtain⟨j,hj,rfl,ag,vc,fc,HRW⟩:=hrel;have y0:=zb ag.out z0;by_cases hlt:j<s.cells.length
   ·have hj1:(j:Int)<(s.cells.length:Int):=zO
    have hj0:(0:Int)<=(j:Int):=zO
    obtain⟨a,l,Al,cl,rfl,Hl,hcl0,hlc,hrl⟩:=(HR1.out.later ag.out).nd hlt;have qf:=zh hrl;have gQ:=zh (show l.length<=LI by rw[<-Hl.out];exact HL.out.2.1 _ (List.getElem_mem hlt));have hbx:=zl2 (HRW.out.row none);have x0:wr.cell? ⟨b3,0,none⟩=some vc:=zc hbx rfl;have hz0:wr.frozen? ⟨b3,0,none⟩=false:=zf hbx;obtain⟨Av,cv,cZ,-⟩:=zkh (HRW.out.row (some .all));change vc=.slice Av j cv at cZ;subst cZ;have hS0:zU wr.drew/\(fun w':World=>zv w' b3 0 (.slice Av j cv)) wr.drew:=⟨trivial,x0⟩
    obtain⟨i0,hi0,hq0,hq1,hq2⟩:=info_parts zuL;have dJ:=zh (zkT l Al cl Any wr.drew (qf.out.later zr.drew) gQ.out);go_upto_region 5 with fail;refine wp_region_noPanic ?_;refine zkl zU (fun w':World=>zv w' b3 0 (.slice Av j cv)) 7 zK ?_;refine zT 0 hS0 ?_;refine zJ 1 hS0 ?_;refine zT 2 hS0 ?_;have hsz:=ag.out.size;have had:Calls prog 55 [.slice Al l.length cl].toArray wr.drew fun e w'=>∃v,e=.returned v/\(w'.ownsRow wr.heap.size 3 1 v l.length (zki l)/\zw wr w') :=
     dJ.out.mono fun e w' ⟨v,h1,h2,_,h4⟩=>⟨v,h1,h2,zka (zs wr).drew h4⟩
    refine zo 3 fun K hK=>?_;refine zke zR (.func 55) [.tmp 22] _ zR 55 _ zm1 zR _ zR _ had ?_;rintro v8 wb ⟨ho,hbb⟩;have hd1:=HRW.out.upd (some (.el j)) (r:=⟨v8,3,1,l.length,zki l⟩) (Chg.of_below hbb) (zlu ho hsz) (fun b hb=>.inr (ho.lt b hb).1);have HD1:=zh hd1;have dK:=zh hbb;have hS2:zU wb/\(fun w':World=>zv w' b3 0 (.slice Av j cv)) wb:=⟨trivial,zb dK.out x0⟩
    obtain⟨A8,mX,rfl,-⟩:=zkh ho;refine hK.out _ _ hS2 ?_;clear hK K hd1 ho hS0 hbb had;(try simp only[zQ]);have h1:=zLv;refine zo 4 fun K hK=>?_;(try simp only[zA,zB,zC]);go_simp;have kC:=zh (show zw wr (wb.alloc (.cells #[.slice A8 l.length mX] 42))from zkb dK.out _);have HD2:=zh (HD1.out.later (show zw wb (wb.alloc (.cells #[.slice A8 l.length mX] 42))from zkb zr _));have aF:=zh (show(wb.alloc (.cells #[.slice A8 l.length mX] 42)).heap[wb.heap.size]?=some (.cells #[.slice A8 l.length mX] 42 (0,0))from heap_alloc_new wb _);have wE:zU (wb.alloc (.cells #[.slice A8 l.length mX] 42))/\(fun w':World=>zv w' b3 0 (.slice Av j cv)) (wb.alloc (.cells #[.slice A8 l.length mX] 42)):=⟨trivial,zb kC.out x0⟩
    obtain⟨wc,hwc⟩:=zX ((wb.alloc (.cells #[.slice A8 l.length mX] 42)));rw[hwc]at kC HD2 aF wE ⊢;refine hK.out _ _ wE ?_;clear hK K hwc hS2 HD1;(try simp only[zQ]);have oO:=(zka ag.out kC.out).size;have hrow:=HD2.out.row (some .all);rw[zkm zS]at hrow;change wc.ownsRow w1.heap.size 42 1 (.slice Av j cv) j ((List.range j).map fc)at hrow;refine zo 5 fun K hK=>?_;refine zkY zR (.tmp 21) (.tmp 24) 41 zR w1.heap.size 42 i0 _ 1 24 underlying41 hi0 hq0 hq1 hq2 rfl zY (.slice Av j cv) j ((List.range j).map fc) zR hrow ⟨wb.heap.size,0,none⟩ 1 1 [.slice A8 l.length mX] zR rfl (fun q u hq=>by
     match q,hq with
     | 0,hq=>injection hq with hq;subst hq;exact zc aF.out rfl) (fun u hu=>by simp at hu;subst hu;rfl) (by unfold maxLen;omega) zO oO (fun vd wd ho hg aY=>?_)
    have hd3:=HD2.out.upd (some .all) (r:=⟨vd,42,1,j+1,(List.range j).map fc++[.slice A8 l.length mX]⟩) ((Chg.row hg).mono fun b _ hb=>hb) ho (fun b hb=>by
     rcases aY with h5|h5
     ·exact .inl (h5▸hb)
     ·exact .inr (by rw[h5]at hb;injection hb with hb;omega))
    have HD3:=zh hd3;have hav:∀g,(Value.slice Av j cv).ownBlock=some g->(zl5 (.slice Av j cv) vi vo fc b3 s j (some .all)).v.ownBlock=some g:=fun g e=>e;have hsep:∀g,(Value.slice Av j cv).ownBlock=some g->g≠b3:=fun g e h=>HRW.out.sep (some .all) none g zS e (by rw[h];rfl);have hlo:∀g,(Value.slice Av j cv).ownBlock=some g->w1.heap.size<=g:=fun g e=>(HRW.out.lt (some .all) g e).1;have dn:Chg (fun b=>(Value.slice Av j cv).ownBlock=some b) wc wd:=Chg.row hg;have bW:=zh (show zw w1 wd from(zka ag.out kC.out).grown hg oO (fun g e=>hlo g e));have jB:=zl2 (HD3.out.row none);have e0:wd.cell? ⟨b3,0,none⟩=some (.slice Av j cv):=zc jB rfl;have ez:wd.frozen? ⟨b3,0,none⟩=false:=zf jB;have hab:a.block<w1.heap.size:=by
     obtain⟨a',_,_,e',_,hc',_⟩:=HR1.out j hlt;injection e' with e';subst e';have:=World.block_lt_of_cell? w1 _ hc';rwa[zkF]at this
    have mP:zU wd/\(fun w':World=>zv w' b3 0 (.slice Av j cv)) wd:=⟨trivial,e0⟩
    have hd4:=HD3.out.set none (g:=b3) (o:=0) zR (by show 0<3;decide) vd;have hd5:Rws (wd.setCell ⟨b3,0,none⟩ vd) w1.heap.size (zl5 vd vi vo (fun i=>if i=j then .slice A8 l.length mX else fc i) b3 s (j+1)):=by
     rw[<-zyX (.slice Av j cv) vd vi vo fc b3 s j l (.slice A8 l.length mX) (by rw[List.getD_eq_getElem?_getD,List.getElem?_eq_getElem hlt];exact Hl.out)];exact hd4
    have HD5:=zh hd5;have hb3lt:=(HD3.out.lt none b3 rfl)
    have yB:=zh (show zw w1 (wd.setCell ⟨b3,0,none⟩ vd)from bW.out.trans ((((Chg.refl (fun b=>b=b3) wd).setCell (p:=⟨b3,0,none⟩) (.inl rfl) vd)).below bW.out.size fun b e=>zO));obtain⟨Ad,cd',rfl,-⟩:=zkh ho;refine hK.out _ _ mP ?_;clear hK K hd3 hd4 hd5 ho hg aY hrow wE dn hav hsep hlo jB;(try simp only[zQ]);refine zo 6 fun K hK=>?_;(try simp only[zA,zB,zC]);go_simp;refine hK.out _ _ mP ?_;clear hK K;(try simp only[zQ]);refine zp 7 fun K hK=>?_;(try simp only[zA,zB,zC]);go_simp;refine hK.out _ _ trivial ?_;clear hK K;(try simp only[zQ]);refine zd ?_;refine NoPanic.normal ?_;go_wp2_with fail
    go_roundw
    case rel=>exact⟨j+1,zO,by go_num,yB,_,_,HD5⟩
    case measure=>simp[intOf];omega
   ·obtain rfl:j=s.cells.length:=zO
    have hj1:¬ (s.cells.length:Int)<(s.cells.length:Int):=zO
    have hbx:=zl2 (HRW.out.row none);have x0:wr.cell? ⟨b3,0,none⟩=some vc:=zc hbx rfl;have x1:wr.cell? ⟨b3,1,none⟩=some vi:=zc hbx rfl;have x2:wr.cell? ⟨b3,2,none⟩=some vo:=zc hbx rfl;obtain⟨Av,cv,cZ,-⟩:=zkh (HRW.out.row (some .all));change vc=.slice Av s.cells.length cv at cZ;subst cZ;rw[<-xV.out]at x1;rw[<-HVO.out]at x2;have hk3:=zkc fF.out ag.out;have q0:wr.cell? ⟨w.heap.size+1,0,none⟩=some zn:=zc hk3 rfl;have q1:wr.cell? ⟨w.heap.size+1,1,none⟩=some zn:=zc hk3 rfl;have q2:wr.cell? ⟨w.heap.size+1,2,none⟩=some zn:=zc hk3 rfl;have cf:∀j,wr.frozen? ⟨w.heap.size+1,j,none⟩=false:=fun j=>zf hk3;have gP:=zh (zqP HRW.out);have HK3E:=zh hk3;clear hbx hk3 HRW;go_wp2_with fail
    have hch:Chg (fun b=>b=w.heap.size+1) wr (((wr.setCell ⟨w.heap.size+1,0,none⟩ (.slice Av s.cells.length cv)).setCell ⟨w.heap.size+1,1,none⟩ (.slice B8 s.tin.length c8)).setCell ⟨w.heap.size+1,2,none⟩ (.slice lF s.tout.length c12)) :=
     (((Chg.refl (fun b=>b=w.heap.size+1) wr).setCell (p:=⟨w.heap.size+1,0,none⟩) (.inl rfl) _).setCell (p:=⟨w.heap.size+1,1,none⟩) (.inl rfl) _).setCell (p:=⟨w.heap.size+1,2,none⟩) (.inl rfl) _
    have hh:=heap_setCell_same _ (w.heap.size+1) 2 _ _ (.slice lF s.tout.length c12) (heap_setCell_same _ (w.heap.size+1) 1 _ _ (.slice B8 s.tin.length c8) (heap_setCell_same wr (w.heap.size+1) 0 _ _ (.slice Av s.cells.length cv) HK3E.out));obtain⟨w9,eD⟩:=zX (((wr.setCell ⟨w.heap.size+1,0,none⟩ (.slice Av s.cells.length cv)).setCell ⟨w.heap.size+1,1,none⟩ (.slice B8 s.tin.length c8)).setCell ⟨w.heap.size+1,2,none⟩ (.slice lF s.tout.length c12));rw[eD]at hch hh ⊢;have t0:w9.cell? ⟨w.heap.size+1,0,none⟩=some (.slice Av s.cells.length cv):=zc hh zS;have t1:w9.cell? ⟨w.heap.size+1,1,none⟩=some (.slice B8 s.tin.length c8):=zc hh zS;have t2:w9.cell? ⟨w.heap.size+1,2,none⟩=some (.slice lF s.tout.length c12):=zc hh zS
    refine bodyPost_ret (v:=.agg #[.slice Av s.cells.length cv,.slice B8 s.tin.length c8,.slice lF s.tout.length c12]) (by simp[results,results31,go_sem,t0,t1,t2]) rfl ⟨_,rfl,?_,(zka HB1.out ag.out).trans (hch.below (zka HB1.out ag.out).size fun b e=>zO)⟩;have hrw:=gP.out.chg hch (fun i b hb e=>by have:=(gP.out.lt i b hb).1;omega);rw[<-xV.out,<-HVO.out]at hrw;exact⟨_,_,_,_,rfl,hrw.mono zO,HI.out⟩
 ·right
  have bC:=HC.out;have hcc:(l5=true->l2=true)/\(l6=true->l2=true/\l5=true):=⟨bC.1,fun h=>(bC.2.1 h).2⟩
  refine⟨f-1,?_,?_,?_⟩
  ·clear HC bC HRW HU ha ag hcc;subst hf;revert hall;revert l2 l5 l6 l7
   decide
  ·clear HC bC HRW HU ha ag hf;revert hall hcc;revert l2 l5 l6 l7
   decide +kernel
  intro i hi;have hcase:(i=2/\l2=false)\/(i=5/\l5=false/\l2=true)\/(i=6/\l6=false/\l2=true/\l5=true)\/(i=7/\l7=false):=by
   refine of_decide_eq_true ((List.all_eq_true (p:=fun i=>decide ((i=2/\l2=false)\/(i=5/\l5=false/\l2=true)\/(i=6/\l6=false/\l2=true/\l5=true)\/(i=7/\l7=false)))).1 ?_ i hi);clear HC bC HRW HU ha ag hf hi;revert hall hcc;revert l2 l5 l6 l7
   decide +kernel
  clear hi hall;subst ha hA;rcases hcase with⟨rfl,rfl⟩|⟨rfl,rfl,rfl⟩|⟨rfl,rfl,rfl,rfl⟩|⟨rfl,rfl⟩
  ·refine wpOp_step rfl (fun K' ak=>?_);have hK:=zh ak;clear ak;have hsz:=ag.out.size;have had:Calls prog 55 [.slice B s.tin.length d].toArray wr fun e w'=>∃v,e=.returned v/\(w'.ownsRow wr.heap.size 3 1 v s.tin.length (zki s.tin)/\zw wr w') :=
    (zkT s.tin B d Any wr (HR2.out.later ag.out) HL.out.2.2.1).mono fun e w' ⟨v,h1,h2,_,h4⟩=>⟨v,h1,h2,h4⟩
   refine zke zR (.func 55) [.tmp 7] _ zR 55 _ zm1 zR _ zR _ had ?_;rintro v' w' ⟨ho,hb⟩;obtain rfl:l6=false:=by
    rcases l6 with _|_
    ·rfl
    ·exact absurd (hcc.2 rfl).1 zY
   obtain rfl:l5=false:=by
    rcases l5 with _|_
    ·rfl
    ·exact absurd (hcc.1 rfl) zY
   have hrw:=HRW.out.upd (some .inp) (r:=⟨v',3,1,s.tin.length,zki s.tin⟩) (Chg.of_below hb) (zlu ho hsz) (fun b hb=>.inr (ho.lt b hb).1);rw[k_2]at hrw;exact hK.out _ _ ⟨true,false,false,l7,_,v12,v13,v3,b3,(by subst hf;simp<;>omega),rfl,(by simp only[zQ]),zh (zka ag.out hb),zh hrw,zh ⟨fun h=>(by cases h),fun h=>(by cases h),bC.2.2⟩,HU⟩
  ·refine wpOp_step rfl (fun K' ak=>?_);have hK:=zh ak;clear ak;have hsz:=ag.out.size;have had:Calls prog 55 [.slice D s.tout.length e].toArray wr fun e w'=>∃v,e=.returned v/\(w'.ownsRow wr.heap.size 3 1 v s.tout.length (zki s.tout)/\zw wr w') :=
    (zkT s.tout D e Any wr (HR3.out.later ag.out) HL.out.2.2.2).mono fun e w' ⟨v,h1,h2,_,h4⟩=>⟨v,h1,h2,h4⟩
   refine zke zR (.func 55) [.tmp 10] _ zR 55 _ zm1 zR _ zR _ had ?_;rintro v' w' ⟨ho,hb⟩;obtain rfl:l6=false:=by
    rcases l6 with _|_
    ·rfl
    ·exact absurd (hcc.2 rfl).2 zY
   have hrw:=HRW.out.upd (some .out) (r:=⟨v',3,1,s.tout.length,zki s.tout⟩) (Chg.of_below hb) (zlu ho hsz) (fun b hb=>.inr (ho.lt b hb).1);rw[k_5]at hrw;exact hK.out _ _ ⟨true,true,false,l7,v8,_,v13,v3,b3,(by subst hf;simp<;>omega),rfl,(by simp only[zQ]),zh (zka ag.out hb),zh hrw,zh ⟨fun _=>rfl,fun h=>(by cases h),bC.2.2⟩,HU⟩
  ·refine wpOp_step rfl (fun K' ak=>?_);have hK:=zh ak;clear ak;obtain⟨B8,c8,e8,-,-⟩:=zkh (HRW.out.row (some .inp));change v8=.slice B8 s.tin.length c8 at e8;obtain⟨lF,c12,e12,-,-⟩:=zkh (HRW.out.row (some .out));change v12=.slice lF s.tout.length c12 at e12;subst e8 e12;(try simp only[zQ]);go_simp;exact hK.out _ _ ⟨true,true,true,l7,_,_,_,v3,b3,(by subst hf;simp<;>omega),rfl,(by simp only[Act.put,zD,zE,zF]),ag,HRW,zh ⟨fun _=>rfl,fun _=>⟨rfl,rfl,rfl⟩,bC.2.2⟩,HU⟩
  ·refine wpOp_step rfl (fun K' ak=>?_);have hK:=zh ak;clear ak;obtain rfl:=HU.out rfl;(try simp only[zQ]);go_simp;have hsz:=ag.out.size;have hrw:=HRW.out.upd none (r:=⟨boxV wr.heap.size,44,3,1,[zn,zn,zn]⟩) (W':=wr.alloc (.cells #[zn,zn,zn] 44)) (Chg.of_below (zkb zr _)) (zxs wr _ hsz _ _ _ _) (fun b hb=>.inr (by simp[Value.ownBlock]at hb;omega));rw[k_7]at hrw;exact hK.out _ _ ⟨l2,l5,l6,true,v8,v12,v13,_,wr.heap.size,(by subst hf;simp<;>omega),rfl,(by simp only[Act.put,zD,zE,zF]),zh (zkb ag.out _),zh hrw,zh ⟨bC.1,bC.2.1,fun _=>rfl⟩,zh (fun h=>(by cases h))⟩
structure RS where
 S:ST
 n:Nat
 ent:List Nat
inductive Out where
 | gas
 | err (e:Int)
 | ok (r:RS)
def Out.bind:Out->(RS->Out)->Out
 | .ok r,f=>f r
 | .err e,_=>.err e
 | .gas,_=>.gas
def zkA(F:Int)(r:RS):Out:=if F<=r.n then .err 18 else .ok { r with n:=r.n+1 }
def zkk(r:RS)(R:Int×ST):Out:=if R.1≠0 then .err R.1 else .ok { r with S:=R.2 }
def valO(t:T)(r:RS)(f:Int->RS->Out):Out:=if (zli r.S.look t).2≠0 then .err (zli r.S.look t).2 else f (zli r.S.look t).1 r
def zk7(F:Int)(t:T)(r:RS)(f:Bool->RS->Out):Out:=(zkA F r).bind fun r=>valO t r fun x r=>f (decide (x≠0)) r
def zkp(F:Int)(t:T)(b:Bool)(r:RS):Out:=zk7 F t r fun b' r=>if b'=b then .ok r else .err 15
def zkP(f:T->RS->Out):List T->RS->Out
 | [],r=>.ok r
 | t::ts,r=>(f t r).bind (zkP f ts)
def blkL(back:Bool)(b:T):List T:=if back=true then b.ks.reverse else b.ks
def zlS(F:Int)(f:T->RS->Out)(entry test:T)(l1 l2:List T):Nat->RS->Out
 | 0,_=>.gas
 | m+1,r=>(zkP f l1 r).bind fun r=>zk7 F test r fun b r=>if b=true then .ok r else(zkP f l2 r).bind fun r=>(zkp F entry false r).bind (zlS F f entry test l1 l2 m)
def prcI:List PR->ByteArray->Option Nat
 | [],_=>none
 | q::qs,s=>if (q.s.toList==s.toList)=true then some 0 else(prcI qs s).map (· + 1)
def kid(t:T)(i:Nat):T:=t.ks.getD i nil0
def fstT(back:Bool)(t:T):T:=if back=true then kid t (t.ks.length-1)else kid t 0
def lstT(back:Bool)(t:T):T:=if back=true then kid t 0 else kid t (t.ks.length-1)
def zkq(prs:List PR)(F:Int):Nat->Bool->T->RS->Out
 | 0,_,_,_=>.gas
 | g+1,back,t,r =>
  if t.k=52 then
   zk7 F (fstT back t) r fun yes r=>(zkP (zkq prs F g back) (blkL back (if yes=true then kid t 1 else kid t 2)) r).bind (zkp F (lstT back t) yes)
  else if t.k=53 then
   (zkp F (fstT back t) true r).bind (zlS F (zkq prs F g back) (fstT back t) (lstT back t) (blkL back (kid t 1)) (blkL back (kid t 2)) g)
  else if t.k=54 then
   (zkA F r).bind fun r=>valO (fstT back t) r fun x r=>(zkk r (zlv r.S ⟨t.s,1,0⟩ x)).bind fun r=>(zkP (zkq prs F g back) (blkL back (kid t 1)) r).bind fun r =>
    (zkA F r).bind fun r=>valO (lstT back t) r fun x r=>zkk r (zkW r.S t.s x)
  else if t.k=55 then
   (zkA F r).bind fun r=>(zkk r (zlv r.S ⟨t.s,3,0⟩ 0)).bind fun r=>(zkP (zkq prs F g back) (blkL back (kid t 0)) r).bind fun r =>
    (zkA F r).bind fun r=>zkk r (zkW r.S t.s 0)
  else if t.k=50\/t.k=51 then
   match prcI prs t.s with
   | none=>.err 0
   | some i=>(zkA F r).bind fun r=>(zkk r (zly r.S (prs.getD i ⟨⟨#[]⟩,[],nil0⟩).ps (t.ks.map (·.s)))).bind fun r =>
     (zkP (zkq prs F g (back != decide (t.k=51))) (blkL (back != decide (t.k=51)) (prs.getD i ⟨⟨#[]⟩,[],nil0⟩).b) { r with ent:=r.ent.set i (r.ent.getD i 0+1) }).bind fun r =>
      (zkA F r).bind fun r=>zkk r (zlL r.S)
  else(zkA F r).bind fun r=>zkk r (if back=true then zmi r.S t else doE r.S t)
def runO(prs:List PR)(F:Int)(g:Nat)(back:Bool)(b:T)(r:RS):Out:=zkP (zkq prs F g back) (blkL back b) r
def Good(n:Nat)(o:Out):Prop:=o ≠ .gas/\∀r,o=.ok r->n<=r.n
theorem Good.err(n:Nat)(e:Int):Good n (.err e):=⟨zS,zS⟩
theorem Good.ok{n:Nat}{r:RS}(h:n<=r.n):Good n (.ok r):=⟨zS,fun r' e=>by injection e with e;subst e;exact h⟩
theorem Good.mono{m n:Nat}{o:Out}(h:Good n o)(hm:m<=n):Good m o:=⟨h.1,fun r e=>Nat.le_trans hm (h.2 r e)⟩
theorem Good.bind{m n:Nat}{o:Out}{f:RS->Out}(h:Good n o)(yL:m<=n)(hf:∀r,n<=r.n->o=.ok r->Good m (f r)):Good m (o.bind f):=by
 cases o with
 | gas=>exact absurd rfl h.1
 | err e=>exact Good.err _ _
 | ok r=>exact hf r (h.2 r rfl) rfl
theorem zkQ{F:Int}{r r':RS}(h:zkA F r=.ok r'):r'={ r with n:=r.n+1 }/\(r.n:Int)<F:=by
 unfold zkA at h
 split at h
 ·cases h
 ·injection h with h;exact⟨h.symm,zO⟩
theorem zkt(F:Int)(r:RS):Good (r.n+1) (zkA F r):=by
 unfold zkA
 split
 ·exact Good.err _ _
 ·exact Good.ok zl
theorem zkD(r:RS)(R:Int×ST):Good r.n (zkk r R):=by
 unfold zkk
 split
 ·exact Good.err _ _
 ·exact Good.ok zl
theorem zoz{m:Nat}{t:T}{r:RS}{f:Int->RS->Out}(hf:∀x,Good m (f x r)):Good m (valO t r f):=by
 unfold valO
 split
 ·exact Good.err _ _
 ·exact hf _
theorem zni{m:Nat}{F:Int}{t:T}{r:RS}{f:Bool->RS->Out}(hm:m<=r.n+1)(hf:∀b,(r.n:Int)<F->Good m (f b { r with n:=r.n+1 })):Good m (zk7 F t r f):=by
 unfold zk7;refine(zkt F r).bind hm fun r' _ e=>?_;obtain⟨rfl,h⟩:=zkQ e;exact zoz fun x=>hf _ h
theorem zls(F:Int)(t:T)(b:Bool)(r:RS):Good (r.n+1) (zkp F t b r):=by
 unfold zkp;refine zni zl fun b' _=>?_
 split
 ·exact Good.ok zl
 ·exact Good.err _ _
theorem zn2{F:Int}{t:T}{b:Bool}{r r':RS}(h:zkp F t b r=.ok r'):r'={ r with n:=r.n+1 }/\(r.n:Int)<F:=by
 unfold zkp zk7 at h
 cases hs:zkA F r with
 | gas=>rw[hs]at h;cases h
 | err e=>rw[hs]at h;cases h
 | ok r1 =>
  rw[hs]at h;obtain⟨rfl,hl⟩:=zkQ hs;simp only[Out.bind,valO]at h
  split at h
  ·cases h
  ·split at h
   ·injection h with h;exact⟨h.symm,hl⟩
   ·cases h
theorem zlU{f:T->RS->Out}:∀(l:List T) (r:RS),(∀t∈l,∀r',r.n<=r'.n->Good r'.n (f t r'))->Good r.n (zkP f l r)
 | [],r,_=>Good.ok zl
 | t::ts,r,h=>by
  rw[zkP];refine(h t (List.mem_cons_self ..) r zl).bind zl fun r1 h1 _=>?_;exact(zlU ts r1 fun u hu r' hr'=>h u (List.mem_cons_of_mem _ hu) r' (Nat.le_trans h1 hr')).mono h1
theorem zpB{F:Int}{f:T->RS->Out}{entry test:T}{l1 l2:List T}:∀(m:Nat) (r:RS),F.toNat-r.n<m->(∀t∈l1,∀r',r.n<=r'.n->Good r'.n (f t r'))->(∀t∈l2,∀r',r.n<=r'.n->Good r'.n (f t r'))->Good r.n (zlS F f entry test l1 l2 m r)
 | 0,_,h,_,_=>zO
 | m+1,r,h,h1,h2=>by
  rw[zlS];refine(zlU l1 r h1).bind zl fun r1 hr1 _=>?_;refine zni zO fun b hF=>?_
  split
  ·exact Good.ok (by simp only;omega)
  ·refine(zlU l2 { r1 with n:=r1.n+1 } fun t ht r' hr'=>h2 t ht r' (by simp only at hr';omega)).bind (by simp only;omega) fun r2 hr2 _=>?_;refine(zls F entry false r2).bind (by simp only at hr2;omega) fun r3 hr3 e=>?_;obtain⟨rfl,hF2⟩:=zn2 e;refine(zpB m _ ?_ (fun t ht r' hr'=>h1 t ht r' ?_) (fun t ht r' hr'=>h2 t ht r' ?_)).mono ?_
   all_goals (simp only at *;omega)
theorem zmt:∀ {ts:List T} {u:T},u∈ts->size u<=zk0 ts
 | t::ts,u,h=>by
  rw[zk0];rcases List.mem_cons.1 h with rfl|h
  ·omega
  ·have:=zmt h;omega
theorem zxI{t:T}{i:Nat}(h:i<t.ks.length):size (kid t i)<size t:=by
 obtain⟨k,n,s,ks⟩:=t;have h':i<ks.length:=h;have:kid (.nd k n s ks) i=ks[i]:=by simp[kid,h']
 rw[this,size];have:=zmt (List.getElem_mem h');omega
theorem zqb{t u:T}(h:u∈t.ks):size u<size t:=by
 obtain⟨k,n,s,ks⟩:=t;rw[size];have:=zmt (ts:=ks) h;omega
theorem zlh{back:Bool}{b u:T}(h:u∈blkL back b):u∈b.ks:=by
 unfold blkL at h
 split at h
 ·simpa using h
 ·exact h
theorem zvt(t:T)(i:Nat):∀u∈(kid t i).ks,size u+1<size t:=by
 intro u hu;by_cases h:i<t.ks.length
 ·have:=zxI h;have:=zqb hu;omega
 ·have:kid t i=nil0:=by
   unfold kid;rw[List.getD_eq_getElem?_getD,List.getElem?_eq_none zO];rfl
  rw[this]at hu;simp[nil0]at hu
theorem zmq{prs:List PR}{F:Int}{M:Nat}(hM:∀q∈prs,size q.b<=M)(hM1:1<=M):∀(g:Nat) (back:Bool) (t:T) (r:RS),(F.toNat-r.n)*M+size t<=g->Good r.n (zkq prs F g back t r)
 | 0,_,t,r,h=>by
  have:0<size t:=by obtain⟨k,n,s,ks⟩:=t;rw[size];omega
  omega
 | g+1,back,t,r,h=>by
  have hmul:∀a b:Nat,a<=b->a*M<=b*M:=fun a b h=>Nat.mul_le_mul_right _ h;have hone:F.toNat-r.n<=(F.toNat-r.n)*M:=Nat.le_mul_of_pos_right _ hM1;have hb:∀(back:Bool) i r1,r.n<=r1.n->Good r1.n (zkP (zkq prs F g back) (blkL back (kid t i)) r1):=fun back i r1 h1 =>
   zlU _ _ fun u hu r2 h2=>zmq hM hM1 g back u r2 (by
    have:=zvt t i u (zlh hu);have:=hmul (F.toNat-r2.n) (F.toNat-r.n) zO;omega)
  rw[zkq]
  split
  ·refine zni zO fun yes hF=>?_;have:Good (r.n+1) (zkP (zkq prs F g back) (blkL back (if yes=true then kid t 1 else kid t 2)) { r with n:=r.n+1 }):=by
    split
    ·exact hb back 1 _ (by simp only;omega)
    ·exact hb back 2 _ (by simp only;omega)
   exact this.bind zO fun r1 h1 _=>(zls _ _ _ _).mono zO
  ·split
   ·refine(zls _ _ _ _).bind zO fun r1 h1 e=>?_;obtain⟨rfl,hF⟩:=zn2 e;have hs:0<size t:=by obtain⟨k,n,s,ks⟩:=t;rw[size];omega
    refine(zpB g _ (by simp only;omega) (fun u hu r' hr'=>?_) (fun u hu r' hr'=>?_)).mono (by simp only;omega)
    ·have:=zvt t 1 u (zlh hu);have:=hmul (F.toNat-r'.n) (F.toNat-r.n) (by simp only at hr';omega);exact zmq hM hM1 g back u r' zO
    ·have:=zvt t 2 u (zlh hu);have:=hmul (F.toNat-r'.n) (F.toNat-r.n) (by simp only at hr';omega);exact zmq hM hM1 g back u r' zO
   ·split
    ·refine(zkt F r).bind zO fun r1 h1 _=>zoz fun x=>?_;refine(zkD r1 _).bind zO fun r2 h2 _=>?_;refine(hb back 1 r2 zO).bind zO fun r3 h3 _=>?_;refine(zkt F r3).bind zO fun r4 h4 _=>zoz fun x=>?_;exact(zkD r4 _).mono zO
    ·split
     ·refine(zkt F r).bind zO fun r1 h1 _=>?_;refine(zkD r1 _).bind zO fun r2 h2 _=>?_;refine(hb back 0 r2 zO).bind zO fun r3 h3 _=>?_;refine(zkt F r3).bind zO fun r4 h4 _=>?_;exact(zkD r4 _).mono zO
     ·split
      ·split
       ·exact Good.err _ _
       ·rename_i i hi;refine(zkt F r).bind zO fun r1 h1 e1=>?_;obtain⟨rfl,hF⟩:=zkQ e1;refine(zkD _ _).bind (by simp only;omega) fun r2 h2 _=>?_;have hbody:Good r2.n (zkP (zkq prs F g (back != decide (t.k=51))) (blkL (back != decide (t.k=51)) (prs.getD i ⟨⟨#[]⟩,[],nil0⟩).b) { r2 with ent:=r2.ent.set i (r2.ent.getD i 0+1) }):=by
         refine zlU _ _ fun u hu r3 h3=>zmq hM hM1 g _ u r3 ?_;have hu':=zlh hu;by_cases hi:i<prs.length
         ·have hq:prs.getD i ⟨⟨#[]⟩,[],nil0⟩=prs[i]:=by simp[hi]
          rw[hq]at hu';have hl:=zqb hu';have hMq:=hM _ (List.getElem_mem hi);have hsub:F.toNat-r3.n+1<=F.toNat-r.n:=by simp only at h2 h3;omega
          have:=hmul _ _ hsub;rw[Nat.add_mul,Nat.one_mul]at this;omega
         ·have hq:prs.getD i ⟨⟨#[]⟩,[],nil0⟩=⟨⟨#[]⟩,[],nil0⟩:=by
           rw[List.getD_eq_getElem?_getD,List.getElem?_eq_none zO];rfl
          rw[hq]at hu';simp[nil0]at hu'
        refine hbody.bind (by simp only at h2;omega) fun r3 h3 _=>?_;refine(zkt F r3).bind (by simp only at h2;omega) fun r4 h4 _=>?_;exact(zkD r4 _).mono (by simp only at h2;omega)
      ·refine(zkt F r).bind zO fun r1 h1 _=>?_;exact(zkD r1 _).mono zO
end
end Go.Proofs.YthjinpodhacleaaGreat
