/-
  Texts of the proof, put together without their remarks: St, In, Tq, Stf, Si, Sj, Sk.
-/
import Derived.Test.YthjinpodhacleaaGreatR6
import Derived.Deep.OwnRows
import Derived.Shelf.Slices.Cells
import Derived.Shelf.Spec.SlicesInsertGrow
set_option linter.unusedSimpArgs false
set_option linter.unusedVariables false
set_option maxHeartbeats 8000000
set_option maxRecDepth 100000
namespace Go.Proofs.YthjinpodhacleaaGreat
open Tryz
section
open Go Go.RowKit
def zlE(vc:Value)(fc:Nat->Value)(ls:List (List Int))(j:Nat):Option Nat->RowD
 | none=>⟨vc,42,1,ls.length,(List.range ls.length).map fun i=>if i<j then fc i else .slice none 0 0⟩
 | some i=>if i<j then⟨fc i,3,1,(ls.getD i []).length,zki (ls.getD i [])⟩else nilR
inductive SI where
 | all|el (i:Nat)|inp|out
 deriving DecidableEq
def znM(vc vi vo:Value)(fc:Nat->Value)(s:SS):SI->RowD
 | .all=>⟨vc,42,1,s.cells.length,(List.range s.cells.length).map fc⟩
 | .el i=>if i<s.cells.length then⟨fc i,3,1,(s.cells.getD i []).length,zki (s.cells.getD i [])⟩else nilR
 | .inp=>⟨vi,3,1,s.tin.length,zki s.tin⟩
 | .out=>⟨vo,3,1,s.tout.length,zki s.tout⟩
def SS.I(s:SS):Prop:=(∀l∈s.cells,∀x∈l,I64 x)/\(∀x∈s.tin,I64 x)/\∀x∈s.tout,I64 x
def OwnS(W:World)(n0:Nat)(s:SS)(v:Value):Prop:=∃vc vi vo fc,v=.agg #[vc,vi,vo]/\Rws W n0 (znM vc vi vo fc s)/\s.I
theorem zm4(z:Value)(n:Nat):madeCells #[z] n=Array.replicate n z:=by
 unfold madeCells;refine Array.ext (by simp) fun i h1 h2=>?_;simp[Nat.mod_one]
theorem ztE(w:World)(fc:Nat->Value)(ls:List (List Int))(n:Nat)(hn:ls.length=n)(hm:n<=maxLen):Rws (w.alloc (.cells (madeCells #[.slice none 0 0] n) 42)) w.heap.size (zlE (.slice (some ⟨w.heap.size,0,none⟩) n n) fc ls 0):=by
 refine⟨fun i=>?_,fun i j b hij hi hj=>?_⟩
 ·cases i with
  | none =>
   refine⟨by simp[zlE],.inr ⟨w.heap.size,n,madeCells #[.slice none 0 0] n,by simp[zlE,hn],zl,heap_alloc_new w _,by simp[zlE,hn],hm,by simp[zlE,size_madeCells],?_⟩⟩;rw[zm4];simp only[zlE,hn,Array.toList_replicate,Nat.mul_one,List.take_replicate,Nat.min_self,Nat.not_lt_zero,if_false];exact List.ext_getElem (by simp) fun i h1 h2=>by simp
  | some i=>simp only[zlE,Nat.not_lt_zero,if_false];exact zlY _ _
 ·cases i with
  | some i=>simp[zlE,nilR,Value.ownBlock]at hi
  | none =>
   cases j with
   | none=>exact hij rfl
   | some j=>simp[zlE,nilR,Value.ownBlock]at hj
theorem zsy{W W2:World}{n1 g n c j:Nat}{fc:Nat->Value}{ls:List (List Int)}(h:Rws W n1 (zlE (.slice (some ⟨g,0,none⟩) n c) fc ls j))(hb:Below W.heap.size W W2)(hj:j<ls.length)(l:List Int)(hl:ls[j]=l)(v:Value)(ho:W2.ownsRow W.heap.size 3 1 v l.length (zki l)) :
  Stp n1 (zlE (.slice (some ⟨g,0,none⟩) n c) fc ls j) W (zlE (.slice (some ⟨g,0,none⟩) n c) (fun i=>if i=j then v else fc i) ls (j+1)) (W2.setCell ⟨g,j,none⟩ v):=by
 have hn:n1<=W.heap.size:=by have:=h.lt none g rfl;omega
 have s1:=Stp.upd (i:=some j) (r:=⟨v,3,1,l.length,zki l⟩) h (Chg.of_below hb) (zli ho hn) (fun b e=>.inr (ho.lt b e).1);have s2:=Stp.set (i:=none) s1.rws (g:=g) (by rw[zkl (by simp)];rfl) (o:=j) (by rw[zkl (by simp)];simpa[zlE]using hj) v;refine(s1.trans s2).cast ?_;funext q
 cases q with
 | none =>
  rw[zkw,zkl (by simp)];simp only[zlE,RowD.mk.injEq,true_and];refine List.ext_getElem (by simp) fun i h1 h2=>?_;simp only[List.getElem_set,List.getElem_map,List.getElem_range];by_cases e:j=i
  ·subst e;simp
  ·rw[if_neg e];have e':i≠j:=fun h=>e h.symm;by_cases h3:i<j
   ·rw[if_pos h3,if_pos (by omega),if_neg e']
   ·rw[if_neg h3,if_neg (by omega)]
 | some i =>
  rw[zkl (by simp)];by_cases e:i=j
  ·subst e;rw[zkw];simp[zlE,hj,hl]
  ·rw[zkl (by simpa using e)];simp only[zlE,e,if_false];by_cases h3:i<j
   ·rw[if_pos h3,if_pos (by omega)]
   ·rw[if_neg h3,if_neg (by omega)]
theorem zvY{W1 W2 W3:World}{n1:Nat}{vc vi vo:Value}{fc:Nat->Value}{s:SS}(h:Rws W1 n1 (zlE vc fc s.cells s.cells.length))(hn:n1<=W1.heap.size)(b2:Below W1.heap.size W1 W2)(o2:W2.ownsRow W1.heap.size 3 1 vi s.tin.length (zki s.tin))(b3:Below W2.heap.size W2 W3)
  (o3:W3.ownsRow W2.heap.size 3 1 vo s.tout.length (zki s.tout)):Rws W3 n1 (znM vc vi vo fc s):=by
 have h3:=(h.later b2).later b3;have hs2:=b2.size;have l1:∀i b,(zlE vc fc s.cells s.cells.length i).v.ownBlock=some b->b<W1.heap.size:=fun i b e=>(h.lt i b e).2;have l2:∀b,vi.ownBlock=some b->W1.heap.size<=b/\b<W2.heap.size:=fun b e=>o2.lt b e;have l3:∀b,vo.ownBlock=some b->W2.heap.size<=b:=fun b e=>(o3.lt b e).1;have eo:znM vc vi vo fc s .all=zlE vc fc s.cells s.cells.length none:=by
  simp only[znM,zlE,RowD.mk.injEq,true_and];refine List.map_congr_left fun i hi=>?_;rw[if_pos (by simpa using hi)]
 refine⟨fun i=>?_,fun i j b hij h1 h2=>?_⟩
 ·cases i with
  | all=>rw[eo];exact h3.row none
  | el i=>exact h3.row (some i)
  | inp=>exact zli (zkJ o2 b3) hn
  | out=>exact zli o3 (by omega)
 ·have key:∀i b,(znM vc vi vo fc s i).v.ownBlock=some b->(∃q,i=(match q with|none=>SI.all|some k=>SI.el k)/\(zlE vc fc s.cells s.cells.length q).v.ownBlock=some b)\/(i=.inp/\vi.ownBlock=some b)\/(i=.out/\vo.ownBlock=some b):=fun i b e=>by
   cases i with
   | all=>exact .inl ⟨none,rfl,by rw[eo]at e;exact e⟩
   | el i=>exact .inl ⟨some i,rfl,e⟩
   | inp=>exact .inr (.inl ⟨rfl,e⟩)
   | out=>exact .inr (.inr ⟨rfl,e⟩)
  rcases key i b h1 with⟨q,e1,a1⟩|⟨e1,a1⟩|⟨e1,a1⟩<;>rcases key j b h2 with⟨q',e2,a2⟩|⟨e2,a2⟩|⟨e2,a2⟩
  ·exact h.sep q q' b (fun e=>hij (by rw[e1,e2,e])) a1 a2
  ·have:=l1 q b a1;have:=l2 b a2;omega
  ·have:=l1 q b a1;have:=l3 b a2;omega
  ·have:=l2 b a1;have:=l1 q' b a2;omega
  ·exact hij (e1.trans e2.symm)
  ·have:=l2 b a1;have:=l3 b a2;omega
  ·have:=l3 b a1;have:=l1 q' b a2;omega
  ·have:=l3 b a1;have:=l2 b a2;omega
  ·exact hij (e1.trans e2.symm)
theorem OwnS.sv{W:World}{n0:Nat}{s:SS}{v:Value}(h:OwnS W n0 s v)(hl:s.Lim):SV W Any s v:=by
 obtain⟨vc,vi,vo,fc,rfl,hr,h1,h2,h3⟩:=h;obtain⟨AI,cI,e2,k2,r2⟩:=zq5 (hr.row .inp) h2;obtain⟨AO,cO,e3,k3,r3⟩:=zq5 (hr.row .out) h3;change vi=_ at e2;change vo=_ at e3;have key:∃A c,vc=.slice A s.cells.length c/\s.cells.length<=c/\znh W Any A s.cells:=by
  rcases Nat.eq_zero_or_pos s.cells.length with h0|h0
  ·obtain⟨A,c,e1,hc,_⟩:=zkg (hr.row .all);exact⟨A,c,e1,hc,fun i hi=>by omega⟩
  ·obtain⟨g,c,e1,hc,_,hcell⟩:=zk7 (hr.row .all) h0;refine⟨_,c,e1,hc,fun i hi=>?_⟩;have aX:=hr.row (.el i);simp only[znM,hi,if_true,List.getD_eq_getElem?_getD,List.getElem?_eq_getElem hi,Option.getD_some]at aX;obtain⟨A',c',e4,k4,r4⟩:=zq5 aX (h1 _ (List.getElem_mem hi));have ha:(⟨g,0,none⟩:Addr).add i=⟨g,i,none⟩:=by unfold Addr.add;split<;>simp_all
   refine⟨⟨g,0,none⟩,A',c',rfl,trivial,?_,k4,r4⟩;rw[ha,<-e4,hcell i (by show i<s.cells.length*1;omega)];simp[znM,hi]
 obtain⟨A,c,e1,k1,r1⟩:=key;exact⟨A,c,AI,cI,AO,cO,by rw[e1,e2,e3],r1,r2,r3,k1,k2,k3,hl⟩
def ST.state(S:ST):SS:=⟨(S.base.cs.take (S.base.cs.length-S.base.loc)).map S.cell,S.tin,S.tout⟩
theorem ztw{S:ST}(h:S.WF):S.state.I/\S.state.Lim/\∀l∈S.state.cells,l.length<=1000:=by
 obtain⟨kd,h1,_,_⟩:=h.ex;have hc:∀l∈S.state.cells,l.length<=1000/\∀x∈l,I64 x:=fun l hl=>by
  simp only[ST.state,List.mem_map]at hl;obtain⟨c,hc,rfl⟩:=hl;exact h.cells c (h1.num c (List.mem_of_mem_take hc))
 have:=h1.len;have:=h1.lim;have:=h.tin.1;have:=h.tout.1;refine⟨⟨fun l hl=>(hc l hl).2,h.tin.2,h.tout.2⟩,⟨?_,fun l hl=>?_,?_,?_⟩,fun l hl=>(hc l hl).1⟩
 ·simp only[ST.state,List.length_map,List.length_take,LI];omega
 ·have:=(hc l hl).1;simp only[LI];omega
 ·simp only[ST.state,LI];omega
 ·simp only[ST.state,LI];omega
theorem ztz:(prog.info? 42).map (fun i=>(i.zero,i.size,i.bytes))=some (some (.slice none 0 0),1,24):=by kernel_rfl
theorem zKz:IsFn prog 109 f109:=⟨func109,by kernel_rfl,by kernel_rfl⟩
theorem zzF:IsFn prog 110 f110:=⟨func110,by kernel_rfl,by kernel_rfl⟩
theorem zyP(A B C:Option Addr)(l c m d n e:Nat)(w:World):(Instr.build 44 #[(0,.slice A l c),(1,.slice B m d),(2,.slice C n e)]).run prog w=.ok (.agg #[.slice A l c,.slice B m d,.slice C n e]) w:=by kernel_rfl
theorem zvc{W:World}{n0:Nat}{P:Ph}{S:ST}(h:SR W n0 P S):Calls prog 77 #[.pointer (some ⟨P.sb,0,none⟩)] W fun e W'=>∃v,e=.returned v/\OwnS W' W.heap.size S.state v/\Below W.heap.size W W':=by
 obtain⟨kd,hw,_,_⟩:=h.wf.ex;obtain⟨m,hm⟩:∃m,S.base.cs.length=m+S.base.loc:=⟨S.base.cs.length-S.base.loc,by have:=hw.len;have:=hw.loc;omega⟩
 have hlim:=hw.lim;have hlen:=hw.len;obtain⟨A,c,yF,-,-⟩:=zkg (h.rws.row .bc);change P.vC=.slice A S.base.cs.length c at yF;obtain⟨hI,hL,hL2⟩:=ztw h.wf;have HI:=zh hI;have HL2:=zh hL2;have HNUM:=zh hw.num;have hst:S.state.cells.length=m:=by simp[ST.state,hm]
 have HSG:=zh (show ∀j (hj:j<m),∃hj':j<S.base.cs.length,∃h2:j<S.state.cells.length,S.state.cells[j]=S.cell S.base.cs[j]from fun j hj=>⟨by omega,by omega,by simp[ST.state]⟩);have HST:=zh hst;have HS:=zh h;obtain⟨lc,hlc⟩:=zX (S.base.loc);rw[hlc]at hm;have hx:W.cell? ⟨P.sb,1,none⟩=some (.slice A (m+lc) c):=by rw[<-hm,<-yF];exact zc h.box rfl
 have hy:W.cell? ⟨P.sb,2,none⟩=some (.int .i64 lc):=by rw[<-hlc];exact zc h.box rfl
 have HX:=zh hx;have HM:=zh hm;have qO:=zh yF;have x1:∀o,(W.alloc o).cell? ⟨P.sb,1,none⟩=some (.slice A (m+lc) c):=fun o=>zkj hx o;have x2:∀o,(W.alloc o).cell? ⟨P.sb,2,none⟩=some (.int .i64 lc):=fun o=>zkj hy o;have hmk:=fun W=>run_make_row' (P:=prog) 41 42 (.slice none 0 0) 24 underlying41 ztz rfl .i64 .i64 m (by omega) (by omega) W;have sF:m<=4398046511000:=by omega
 clear h hw hm yF hI hL hL2 hst hlim hlen hx hy hlc;go_enter func77,ntmps77;go_wp2_with fail
 go_quiet (fail)
 go_wp2_with fail;obtain⟨W0,hW0⟩:=zX ((W.alloc (.cells #[.slice none 0 0,.slice none 0 0,.slice none 0 0] 44)).drewN nq);have HB0:=zh (show Below W.heap.size W W0 from hW0▸zkL (zkb zr _) nq);have oF:=zh (show W0.heap[W.heap.size]?=some (.cells #[.slice none 0 0,.slice none 0 0,.slice none 0 0] 44 (0,0)) by
  rw[<-hW0];exact heap_alloc_new W _)
 have hz0:W0.heap.size=W.heap.size+1:=by rw[<-hW0];show(W.alloc _).heap.size=_;simp
 have HRW0:=zh (ztE W0 (fun _=>.slice none 0 0) S.state.cells m HST.out (by unfold maxLen;omega));rw[hW0];rw[hz0]at HRW0;have HZ0:=zh hz0;clear hW0 x1 x2 hmk nq hz0
 go_loopw [25] (fun i wr=>∃j:Nat,j<=m/\i=.int .i64 j/\Hid (Below W0.heap.size W0 wr)/\∃fc,Hid (Rws wr (W.heap.size+1) (zlE (.slice (some ⟨W.heap.size+1,0,none⟩) m m) fc S.state.cells j))) (fun i _=>m-(intOf i).toNat)
 case atStart=>exact⟨0,Nat.zero_le _,rfl,zh (zkb zr _),_,HRW0⟩
 case round =>
  obtain⟨j,hj,rfl,af,fc,HRW⟩:=hrel;have uB:=zh ((HS.out.later HB0.out).later af.out);by_cases hlt:j<m
  ·obtain⟨hj',hj2,hjc⟩:=HSG.out j hlt;obtain⟨id,hid⟩:=zX (S.base.cs[j]);have aI:id<S.nc:=by rw[<-hid];exact HNUM.out _ (List.getElem_mem hj')
   obtain⟨gc,c2,hcc,-,-,hcell⟩:=zk7 (uB.out.rws.row .bc) (by show 0<S.base.cs.length;omega);change P.vC=.slice _ S.base.cs.length c2 at hcc;have y0:wr.cell? ⟨P.sb,1,none⟩=some (.slice (some ⟨gc,0,none⟩) (m+lc) c2):=by rw[<-HM.out,<-hcc];exact zc uB.out.box rfl
   have y1:wr.cell? ⟨gc,j,none⟩=some (.pointer (some ⟨P.cb id,0,none⟩)):=by rw[hcell j (by show j<S.base.cs.length*1;omega)];simp[rows,ptrs,hj',hid]
   obtain⟨A3,c3,hci,hc3,aX⟩:=uB.out.items aI;have y2:wr.cell? ⟨P.cb id,0,none⟩=some (.slice A3 (S.cell id).length c3):=by rw[<-hci];exact zc (uB.out.cbox aI) rfl
   obtain⟨l,hl⟩:=zX (S.cell id);rw[hl]at y2 aX;have HL:=zh (show S.state.cells[j]=l by rw[hjc,hid,hl]);have hll:l.length<=1000:=by rw[<-HL.out];exact HL2.out _ (List.getElem_mem hj2)
   have dR:=zh (zkQ l A3 c3 Any wr aX (by unfold LI;omega));have hj1:(j:Int)<(m:Int):=by omega
   have qH:(j:Int)<(m:Int)+(lc:Int):=by omega
   have H2:=zh hj2;clear hcell hcc hci aX hc3 hid hl hjc hj';go_wp2_with fail;refine dR.out.mono ?_;rintro e9 w2 ⟨v2,rfl,ho2,-,hb2⟩;obtain⟨A4,c4,rfl,-,-⟩:=zkg ho2;have hrl:=HRW.out.later hb2;have u0:w2.cell? ⟨W.heap.size+1,j,none⟩=some (.slice none 0 0):=hrl.cell none rfl (by have:=HST.out;simp[zlE,this,hlt]);have u1:w2.frozen? ⟨W.heap.size+1,j,none⟩=false:=hrl.frozen none rfl j;have s1:=zsy HRW.out hb2 H2.out l HL.out _ ho2;have HR2:=zh s1.rws;have HB2:=zh (show Below W0.heap.size W0 (w2.setCell ⟨W.heap.size+1,j,none⟩ (.slice A4 l.length c4))from af.out.trans (s1.chg.below af.out.size fun b ⟨q,hq⟩=>by have:=(HRW.out.lt q b hq).1;have:=HZ0.out;omega));clear ho2 hb2 s1 hrl;go_wp2_with fail
   go_roundw
   case rel=>exact⟨j+1,by omega,by go_num,HB2,_,HR2⟩
   case measure=>simp[intOf];omega
  ·obtain rfl:j=m:=by omega
   have hj1:¬ (j:Int)<(j:Int):=by omega
   have y4:wr.cell? ⟨P.sb,4,none⟩=some (.pointer (some ⟨P.tb,0,none⟩)):=zc uB.out.box rfl;have hbss:=zyP;go_upto_region 10 with fail;obtain⟨S1,hS1⟩:∃S1:World->Prop,S1=fun w':World=>w'.cell? ⟨P.sb,4,none⟩=some (.pointer (some ⟨P.tb,0,none⟩)):=⟨_,rfl⟩
   have wE:=zh (show ∀W W',S1 W->Below W.heap.size W W'->S1 W' by rw[hS1];exact fun W W' h hb=>zb hb h);have hSS:zW S1 zU wr.drew:=⟨by rw[hS1];exact y4,trivial⟩
   refine wp_region_noPanic ?_;refine zG hSS 12 ?_;subst hS1;refine zT 0 hSS ?_;refine zT 1 hSS ?_;refine zT 2 hSS ?_;refine zT 3 hSS ?_;refine zT 4 hSS ?_;refine zT 6 hSS ?_;refine zT 7 hSS ?_;refine zT 8 hSS ?_;refine zT 9 hSS ?_;have had:Calls prog 109 [.pointer (some ⟨P.tb,0,none⟩)].toArray wr.drew fun e w'=>∃u,e=.returned u/\w'.ownsRow wr.drew.heap.size 3 1 u S.tin.length (zki S.tin)/\Below wr.drew.heap.size wr.drew w' :=
    (zy8 (uB.out.later zr.drew)).mono fun e w' ⟨u,hu,h1,_,h2⟩=>⟨u,hu,h1,h2⟩
   refine zo 5 fun K hK=>?_;refine zke (by rfl) (.func 109) [.tmp 48] _ (by rfl) 109 _ zKz (by rfl) _ (by rfl) _ had ?_;rintro v4 w4 ⟨eY,hb4⟩;obtain⟨A4,c4,rfl,-,-⟩:=zkg eY;have iZ:=zh eY;have ax:=zh hb4;have jK:=zh (wE.out _ _ hSS.1 hb4);refine hK.out _ _ ⟨jK.out,trivial⟩ ?_;clear hK K hSS had eY hb4;(try simp only[zQ]);have had:Calls prog 110 [.pointer (some ⟨P.tb,0,none⟩)].toArray w4 fun e w'=>∃u,e=.returned u/\w'.ownsRow w4.heap.size 3 1 u S.tout.length (zki S.tout)/\Below w4.heap.size w4 w' :=
    (zxg ((uB.out.later zr.drew).later ax.out)).mono fun e w' ⟨u,hu,h1,_,h2⟩=>⟨u,hu,h1,h2⟩
   refine zo 10 fun K hK=>?_;refine zke (by rfl) (.func 110) [.tmp 53] _ (by rfl) 110 _ zzF (by rfl) _ (by rfl) _ had ?_;rintro v5 w5 ⟨iW,hb5⟩;obtain⟨A5,c5,rfl,-,-⟩:=zkg iW;have iK:=zh iW;have aO:=zh hb5;have wF:=zh (wE.out _ _ jK.out hb5);refine hK.out _ _ ⟨wF.out,trivial⟩ ?_;clear hK K had iW hb5;(try simp only[zQ]);refine zo 11 fun K hK=>?_;(try simp only[zA,zB,zC]);go_simp;refine hK.out _ _ ⟨wF.out,trivial⟩ ?_;clear hK K;(try simp only[zQ]);have hb5:Below W0.heap.size W0 w5:=zka (zka af.out.drew ax.out) aO.out;have kI:=zkc oF.out hb5;have r0:w5.cell? ⟨W.heap.size,0,none⟩=some (.slice none 0 0):=zc kI rfl;have r1:w5.cell? ⟨W.heap.size,1,none⟩=some (.slice none 0 0):=zc kI rfl;have r2:w5.cell? ⟨W.heap.size,2,none⟩=some (.slice none 0 0):=zc kI rfl;have rf:∀o,w5.frozen? ⟨W.heap.size,o,none⟩=false:=fun o=>zf kI;refine zp 12 fun K hK=>?_
   (try simp only[zA,zB,zC]);go_simp;have hc6:Chg (fun b=>b=W.heap.size) w5 (((w5.setCell ⟨W.heap.size,0,none⟩ (.slice (some ⟨W.heap.size+1,0,none⟩) j j)).setCell ⟨W.heap.size,1,none⟩ (.slice A4 S.tin.length c4)).setCell ⟨W.heap.size,2,none⟩ (.slice A5 S.tout.length c5)) :=
    (((Chg.refl (fun b=>b=W.heap.size) w5).setCell (p:=⟨W.heap.size,0,none⟩) (.inl rfl) _).setCell (p:=⟨W.heap.size,1,none⟩) (.inl rfl) _).setCell (p:=⟨W.heap.size,2,none⟩) (.inl rfl) _
   have ou:=heap_setCell_same _ W.heap.size 2 _ _ (.slice A5 S.tout.length c5) (heap_setCell_same _ W.heap.size 1 _ _ (.slice A4 S.tin.length c4) (heap_setCell_same w5 W.heap.size 0 _ _ (.slice (some ⟨W.heap.size+1,0,none⟩) j j) kI));obtain⟨w6,jV⟩:=zX (((w5.setCell ⟨W.heap.size,0,none⟩ (.slice (some ⟨W.heap.size+1,0,none⟩) j j)).setCell ⟨W.heap.size,1,none⟩ (.slice A4 S.tin.length c4)).setCell ⟨W.heap.size,2,none⟩ (.slice A5 S.tout.length c5));rw[jV]at hc6 ou ⊢;have hsb:P.sb<W.heap.size:=(HS.out.rws.lt .sb P.sb rfl).2;have z0:w6.cell? ⟨W.heap.size,0,none⟩=some (.slice (some ⟨W.heap.size+1,0,none⟩) j j):=zc ou rfl;have z1:w6.cell? ⟨W.heap.size,1,none⟩=some (.slice A4 S.tin.length c4):=zc ou rfl;have z2:w6.cell? ⟨W.heap.size,2,none⟩=some (.slice A5 S.tout.length c5):=zc ou rfl;have hZ:=HZ0.out
   have dx:Rws w6 (W.heap.size+1) (znM (.slice (some ⟨W.heap.size+1,0,none⟩) j j) (.slice A4 S.tin.length c4) (.slice A5 S.tout.length c5) fc S.state):=by
    have hrw:Rws wr (W.heap.size+1) (zlE (.slice (some ⟨W.heap.size+1,0,none⟩) j j) fc S.state.cells S.state.cells.length):=by rw[HST.out];exact HRW.out
    have h5:=zvY (s:=S.state) (vi:=.slice A4 S.tin.length c4) (vo:=.slice A5 S.tout.length c5) (hrw.later zr.drew) (by have:=af.out.size;simp;omega) ax.out iZ.out aO.out iK.out;exact h5.chg hc6 fun i b hb e=>by have:=(h5.lt i b hb).1;omega
   have aW:=zh (show OwnS w6 W.heap.size S.state (.agg #[.slice (some ⟨W.heap.size+1,0,none⟩) j j,.slice A4 S.tin.length c4,.slice A5 S.tout.length c5])from⟨_,_,_,fc,rfl,dx.mono (Nat.le_succ _),HI.out⟩);have dK:=zh (show Below W.heap.size W w6 by
    have b5:Below W.heap.size W w5:=HB0.out.trans (hb5.mono (by omega));exact b5.trans (hc6.below b5.size fun b hb=>by omega))
   refine hK.out _ _ (zkX hc6 wF.out fun e=>by have h9:P.sb=W.heap.size:=e;omega) ?_;clear hK K hc6 ou jV dx kI r0 r1 r2 rf hb5;(try simp only[zQ]);refine zd ?_;refine NoPanic.normal ?_;go_wp2_with fail;exact bodyPost_ret (v:=.agg #[.slice (some ⟨W.heap.size+1,0,none⟩) j j,.slice A4 S.tin.length c4,.slice A5 S.tout.length c5]) (by simp[results,results77,go_sem,z0,z1,z2]) rfl ⟨_,rfl,aW.out,dK.out⟩
def zzr:Go.Shelf.Ren:=⟨fun|23=>193|n=>n,fun|22=>42|3=>3|4=>4|0=>0|n=>n,fun|n=>n⟩
theorem zyl:Go.Proofs.Lays2.n23 prog zzr:={
 mixed:=by kernel_rfl
 f23:=func193.trans (congrArg some (by kernel_rfl))
 t0:=underlying0
 a0:=isAgg0
 z0:=sizeOf0
 v0:=zeroValue0
 t3:=underlying3
 a3:=isAgg3
 z3:=sizeOf3
 v3:=zeroValue3
 t4:=underlying4
 a4:=isAgg4
 z4:=sizeOf4
 v4:=zeroValue4
 t22:=underlying42
 a22:=isAgg42
 z22:=sizeOf42
 v22:=zeroValue42
 i3:=by kernel_rfl }
def zqe:Go.Shelf.Ren:=⟨fun|21=>194|27=>195|28=>196|35=>197|39=>198|n=>n,fun|22=>42|3=>3|4=>4|0=>0|n=>n,fun|n=>n⟩
theorem zpI:Go.Proofs.Lays2.n21 prog zqe:={
 mixed:=by kernel_rfl
 f21:=func194.trans (congrArg some (by kernel_rfl))
 f27:=func195.trans (congrArg some (by kernel_rfl))
 f28:=func196.trans (congrArg some (by kernel_rfl))
 f35:=func197.trans (congrArg some (by kernel_rfl))
 f39:=func198.trans (congrArg some (by kernel_rfl))
 t0:=underlying0
 a0:=isAgg0
 z0:=sizeOf0
 v0:=zeroValue0
 t3:=underlying3
 a3:=isAgg3
 z3:=sizeOf3
 v3:=zeroValue3
 t4:=underlying4
 a4:=isAgg4
 z4:=sizeOf4
 v4:=zeroValue4
 t22:=underlying42
 a22:=isAgg42
 z22:=sizeOf42
 v22:=zeroValue42
 i3:=by kernel_rfl }
theorem zk4{g:Nat}{e:TypeId}:∀(vs:List Value) (o:Nat) (w:World) (cur:Array Value),w.heap[g]?=some (.cells cur e (0,0))->∃cur',(w.setCells g o vs).heap[g]?=some (.cells cur' e (0,0))/\cur'.size=cur.size
 | [],_,_,cur,h=>⟨cur,h,rfl⟩
 | v::vs,o,w,cur,h=>by
  obtain⟨cur',h1,h2⟩:=zk4 vs (o+1) (w.setCell ⟨g,o,none⟩ v) _ (heap_setCell_same w g o cur _ v h);exact⟨cur',h1,by rw[h2];simp⟩
theorem zk3(g:Nat):∀(vs:List Value) (o:Nat) (w:World),Chg (fun b=>b=g) w (w.setCells g o vs)
 | [],_,w=>Chg.refl _ w
 | v::vs,o,w=>((Chg.refl (fun b=>b=g) w).setCell (p:=⟨g,o,none⟩) (.inl rfl) v).trans (zk3 g vs (o+1) (w.setCell ⟨g,o,none⟩ v))
theorem zlw{W:World}{base g cap n:Nat}{e:TypeId}{cur:Array Value}{xs:List Value}(hb:base<=g)(hg:W.heap[g]?=some (.cells cur e (0,0)))(hs:cur.size=cap)(hn:n<=cap)(hm:cap<=maxLen)(hx:xs.length=n)(hc:∀j u,xs[j]?=some u->W.cell? ⟨g,j,none⟩=some u) :
  W.ownsRow base e 1 (.slice (some ⟨g,0,none⟩) n cap) n xs:=by
 refine⟨by omega,.inr ⟨g,cap,cur,rfl,hb,hg,hn,hm,by omega,?_⟩⟩;refine List.ext_getElem (by simp;omega) fun j h1 h2=>?_;have:=hc j xs[j] (List.getElem?_eq_getElem h2);simp only[World.cell?,hg]at this;simp at this;rw[List.getElem_take];have h3:j<cur.size:=by omega
 rw[Array.getElem?_eq_getElem h3]at this;simpa using this
theorem zmL{w:World}{g o:Nat}{vs:List Value}(h:∀j,j<vs.length->(w.cell? ⟨g,o+j,none⟩).isSome=true){k:Nat}{u:Value}(hk:o<=k)(hu:vs[k-o]?=some u):(w.setCells g o vs).cell? ⟨g,k,none⟩=some u:=by
 obtain⟨h1,h2⟩:=List.getElem?_eq_some_iff.1 hu;have:=World.cell?_setCells_in g vs o w h (k-o) h1;rw[show o+(k-o)=k by omega]at this;rw[this,h2]
theorem zlO{w:World}{g o:Nat}{vs:List Value}{k:Nat}(hk:k<o\/o+vs.length<=k):(w.setCells g o vs).cell? ⟨g,k,none⟩=w.cell? ⟨g,k,none⟩:=World.cell?_setCells_out g vs o w ⟨g,k,none⟩ fun _ _=>hk
theorem zm0{w:World}{g o:Nat}{vs:List Value}(k:Nat)(hk:(w.cell? ⟨g,k,none⟩).isSome=true):((w.setCells g o vs).cell? ⟨g,k,none⟩).isSome=true:=by
 induction vs generalizing w o with
 | nil=>exact hk
 | cons v vs ih =>
  refine ih ?_;by_cases e:o=k
  ·subst e;obtain⟨u,hu⟩:=Option.isSome_iff_exists.1 hk;rw[World.cell?_setCell_same _ _ _ hu];rfl
  ·rw[World.cell?_setCell_other]
   ·exact hk
   ·intro h;injection h;omega
theorem zsj(w:World)(cs:Array Value)(E:TypeId)(j:Nat):(w.alloc (.cells cs E)).cell? ⟨w.heap.size,j,none⟩=cs[j]?:=by
 have h:=heap_alloc_new w (.cells cs E);simp only[World.cell?,h];simp
def InsP(W:World)(n0:Nat)(v:Value)(ys:List Int)(e:Ending)(W':World):Prop:=∃v',e=.returned v'/\W'.ownsRow n0 3 1 v' ys.length (zki ys)/\Chg (fun b=>v.ownBlock=some b) W W'/\∀b,v'.ownBlock=some b->v.ownBlock=some b\/W.heap.size<=b
theorem zqx(xs:List Int):∀u∈zki xs,u.oneCell'=true:=fun u hu=>by
 simp only[zki,List.mem_map]at hu;obtain⟨x,_,rfl⟩:=hu;rfl
theorem zkt(xs:List Int):(zki xs).length=xs.length:=by simp[zki]
theorem zmy(xs ys:List Int):zki (xs++ys)=zki xs++zki ys:=by simp[zki]
theorem ztb{W:World}{n0:Nat}{v:Value}{xs:List Int}(h:W.ownsRow n0 3 1 v xs.length (zki xs))(i:Nat)(hi:i<=xs.length)(hl:xs.length<=4096)(hn0:n0<=W.heap.size)(x:Int)(vb:Nat)(hvb:W.heap[vb]?=some (.cells #[.int .i64 x] 3 (0,0)))(hne:v.ownBlock≠some vb) :
  Calls prog 194 #[v,.int .i64 i,.slice (some ⟨vb,0,none⟩) 1 1] W (InsP W n0 v (xs.take i++x::xs.drop i)):=by
 have hvs:∀j u,[Value.int .i64 x][j]?=some u->W.cell? ⟨vb,0+j,none⟩=some u:=fun j u hj=>by
  rw[Nat.zero_add];simp only[World.cell?,hvb];simpa using hj
 have hv1:∀u∈[Value.int .i64 x],u.oneCell'=true:=fun u hu=>by simp at hu;subst hu;rfl
 have hys:(xs.take i++x::xs.drop i).length=xs.length+1:=by simp;omega
 have hmax:maxLen=9223372036854775807:=rfl;have grow_end:∀(base:Option Addr) (c:Nat),xs.length<=c->c<xs.length+1->(base=none->xs.length=0)->(∀a,base=some a->∀j u,(zki xs)[j]?=some u->W.cell? (a.add j)=some u)->i=xs.length->v=.slice base xs.length c ->
   Calls prog 194 #[.slice base xs.length c,.int .i64 i,.slice (some ⟨vb,0,none⟩) 1 1] W (InsP W n0 v (xs.take i++x::xs.drop i)):=fun base c h1 h2 h3 h4 hie _=>by
  subst hie;refine(Any2.slices_Insert_int_end_grow zpI base xs.length c vb 0 1 1 (zki xs) [.int .i64 x] W (by omega) h1 h2 (by omega) (zkt xs) rfl h3 h4 hvs hv1).mono ?_;rintro e W' ⟨rfl,rfl⟩;refine⟨_,rfl,?_,(Chg.refl _ W).drew.alloc _,fun b hb=>.inr ?_⟩
  ·rw[hys];have hge:=grownCap_ge W (xs.length+1) c (zqe.t 3);refine zlw (e:=3) hn0 (heap_alloc_new W.drew _) ?_ hge (grownCap_le_maxLen _ _ _ _ (by omega)) (by rw[zkt,hys]) ?_
   ·rw[Array.size_append,size_zeroCells,List.size_toArray,List.length_append,zkt,show(Value.int .i64 0).cells.size=1 from rfl];simp only[List.length_singleton,Nat.mul_one];omega
   ·intro j u hj;rw[List.take_of_length_le zl,List.drop_eq_nil_of_le zl,zmy]at hj;rw[show W.heap.size=W.drew.heap.size from rfl,zsj];obtain⟨h5,h6⟩:=List.getElem?_eq_some_iff.1 hj;rw[Array.getElem?_append_left (by simpa[zki]using h5)];simpa[zki]using hj
  ·simp[Value.ownBlock]at hb;omega
 rcases h.2 with⟨rfl,h0⟩|⟨g,cap,cur,rfl,hb,hg,hnc,hcm,hz,hx⟩
 ·have h0':xs.length=0:=h0;have hi0:i=xs.length:=by omega
  have:=grow_end none 0 (by omega) (by omega) (fun _=>h0') (fun a e=>by cases e) hi0 (by rw[h0']);rw[h0']at this;exact this
 ·have hcs:∀j u,(zki xs)[j]?=some u->W.cell? ⟨g,j,none⟩=some u:=fun j u hj=>by
   have hj':=(List.getElem?_eq_some_iff.1 hj).1;rw[zkt]at hj';exact(h.cellAt j (by omega)).trans hj
  have hgv:g≠vb:=fun e=>hne (by rw[e];rfl);have hsp:∀j,j<cap->(W.cell? ⟨g,j,none⟩).isSome=true:=fun j hj=>by
   simp only[World.cell?,hg];have:j<cur.size:=by omega
   simp[this]
  have hfz:∀j,W.frozen? ⟨g,j,none⟩=false:=fun j=>zf hg;rcases Nat.lt_or_ge cap (xs.length+1)with hroom|hroom
  ·rcases Nat.lt_or_ge i xs.length with hlt|hge
   ·refine(Any2.slices_Insert_int_grow zpI g 0 xs.length cap i vb 0 1 1 (zki xs) [.int .i64 x] W hlt (by omega) hnc hroom (by omega) (zkt xs) rfl (fun j u hj=>by rw[Nat.zero_add];exact hcs j u hj) hvs (zqx xs) hv1).mono ?_;rintro e W' ⟨rfl,rfl⟩;have hge:=grownCap_ge W (xs.length+1) cap (zqe.t 3);obtain⟨G,hG⟩:=zX (grownCap W (xs.length+1) cap (zqe.t 3));have hGm:G<=maxLen:=hG▸grownCap_le_maxLen W _ _ _ (by omega);rw[hG]at hge ⊢;obtain⟨C,hC⟩:=zX ((((zki xs).take i).toArray++Builtin.zeroCells (Value.int .i64 0).cells (xs.length+1-i)++Builtin.zeroCells (Value.int .i64 0).cells (G-(xs.length+1))));have hCs:C.size=G:=by
     rw[<-hC,Array.size_append,Array.size_append,size_zeroCells,size_zeroCells,show(Value.int .i64 0).cells.size=1 from rfl,List.size_toArray,List.length_take,zkt];omega
    have hC0:∀j,j<i->C[j]?=(zki xs)[j]?:=fun j hj=>by
     rw[<-hC,Array.getElem?_append_left (by simp[zki];omega),Array.getElem?_append_left (by simp[zki];omega)];simp[List.getElem?_take_of_lt hj]
    rw[hC];obtain⟨W1,hW1⟩:=zX (W.alloc (.cells C 3));have e1:W.alloc (.cells C (zqe.t 3))=W1:=hW1;rw[e1];have hh:W1.heap[W.heap.size]?=some (.cells C 3 (0,0)):=hW1▸heap_alloc_new W _;have hcell:∀j,W1.cell? ⟨W.heap.size,j,none⟩=C[j]?:=fun j=>by rw[<-hW1];exact zsj W C _ j
    have hb1:Below W.heap.size W W1:=hW1▸zkb zr _;have hdl:((zki xs).drop i).length=xs.length-i:=by rw[List.length_drop,zkt]
    obtain⟨mZ,k1,k2⟩:=zk4 [.int .i64 x] i W1.drew C hh;obtain⟨cur2,k3,k4⟩:=zk4 ((zki xs).drop i) (i+1) (W1.drew.setCells W.heap.size i [.int .i64 x]).drew mZ k1;have hsp0:∀j,j<G->(W1.drew.cell? ⟨W.heap.size,j,none⟩).isSome=true:=fun j hj=>by
     have h9:W1.drew.cell? ⟨W.heap.size,j,none⟩=C[j]?:=hcell j;rw[h9,Array.getElem?_eq_getElem (by omega)];rfl
    have hsp1:∀j,j<G->((W1.drew.setCells W.heap.size i [.int .i64 x]).drew.cell? ⟨W.heap.size,j,none⟩).isSome=true:=fun j hj=>zm0 j (hsp0 j hj);refine⟨_,rfl,?_,?_,fun b hb=>.inr (by simp[Value.ownBlock]at hb;omega)⟩
    ·rw[hys];refine zlw hn0 k3 (by omega) hge hGm (by rw[zkt,hys]) ?_;intro j u hj;rw[zmy]at hj;have hti:(zki (xs.take i)).length=i:=by rw[zkt,List.length_take];omega
     rcases Nat.lt_trichotomy j i with hji|hji|hji
     ·rw[zlO (.inl (by omega))]
      show(W1.drew.setCells W.heap.size i [.int .i64 x]).cell? ⟨W.heap.size,j,none⟩=_
      rw[zlO (.inl hji)]
      show W1.cell? ⟨W.heap.size,j,none⟩=_
      rw[hcell j,hC0 j hji];rw[List.getElem?_append_left (by omega)]at hj;rw[zki,List.map_take,List.getElem?_take_of_lt hji]at hj;exact hj
     ·subst hji;rw[zlO (.inl (by omega))]
      show(W1.drew.setCells W.heap.size j [.int .i64 x]).cell? ⟨W.heap.size,j,none⟩=_
      refine zmL (fun q hq=>hsp0 (j+q) (by simp at hq;omega)) zl ?_;rw[List.getElem?_append_right (by omega),hti]at hj;simpa[zki]using hj
     ·refine zmL (fun q hq=>hsp1 (i+1+q) (by rw[hdl]at hq;omega)) (by omega) ?_;rw[List.getElem?_append_right (by omega),hti,show j-i=(j-(i+1))+1 by omega]at hj;simpa[zki]using hj
    ·have c1:Chg (fun b=>b=W.heap.size) W (((W1.drew.setCells W.heap.size i [.int .i64 x]).drew).setCells W.heap.size (i+1) ((zki xs).drop i)) :=
      (((Chg.of_below hb1).drew.trans (zk3 W.heap.size _ _ _)).drew).trans (zk3 W.heap.size _ _ _)
     exact c1.mono fun b hb e=>by omega
   ·exact grow_end (some ⟨g,0,none⟩) cap hnc hroom (fun e=>by cases e) (fun a e j u hj=>by injection e with e;subst e;rw[Addr.add_lit,Nat.zero_add];exact hcs j u hj) (by omega) rfl
  ·rcases Nat.lt_or_ge i xs.length with hlt|hge
   ·refine(Any2.slices_Insert_int_shift zpI g 0 xs.length cap i vb 0 1 1 (zki xs) [.int .i64 x] W hlt (by omega) hroom (by omega) (Ne.symm hgv) (zkt xs) rfl (fun j u hj=>by rw[Nat.zero_add];exact hcs j u hj) (fun j hj=>by rw[Nat.zero_add];exact hsp j (by omega)) (fun j _=>hfz _) hvs (zqx xs) hv1 3 3 1 cur.size (by simp[World.shape?,hvb]) (by simp[World.shape?,hg]) (by omega) (zf hvb) (zf hvb)).mono ?_;rintro e W' ⟨rfl,rfl⟩;simp only[Nat.zero_add];have hdl:((zki xs).drop i).length=xs.length-i:=by rw[List.length_drop,zkt]
    obtain⟨mZ,k1,k2⟩:=zk4 ((zki xs).drop i) (i+1) W.drew cur hg;obtain⟨cur2,k3,k4⟩:=zk4 [.int .i64 x] i _ mZ k1;have hsp1:∀j,j<cap->((W.drew.setCells g (i+1) ((zki xs).drop i)).cell? ⟨g,j,none⟩).isSome=true:=fun j hj=>zm0 j (hsp j hj);refine⟨_,rfl,?_,((Chg.of_below (Below.refl _ W).drew).trans ((zk3 g _ _ _).trans (zk3 g _ _ _))).mono fun b _ e=>by rw[e];rfl,fun b hb=>.inl hb⟩;rw[hys];refine zlw hb k3 (by omega) hroom hcm (by rw[zkt,hys]) ?_;intro j u hj;rw[zmy]at hj;have hti:(zki (xs.take i)).length=i:=by rw[zkt,List.length_take];omega
    rcases Nat.lt_trichotomy j i with hji|hji|hji
    ·rw[zlO (.inl hji),zlO (.inl (by omega))];rw[List.getElem?_append_left (by omega)]at hj;refine hcs j u ?_;rw[zki,List.map_take,List.getElem?_take_of_lt hji]at hj;exact hj
    ·subst hji;refine zmL (fun q hq=>hsp1 _ (by simp at hq;omega)) zl ?_;rw[List.getElem?_append_right (by omega),hti]at hj;simpa[zki]using hj
    ·rw[zlO (.inr (by simp;omega))];refine zmL (w:=W.drew) (o:=i+1) (fun q hq=>hsp (i+1+q) (by rw[hdl]at hq;omega)) (by omega) ?_;rw[List.getElem?_append_right (by omega),hti,show j-i=(j-(i+1))+1 by omega]at hj;simpa[zki]using hj
   ·have hie:i=xs.length:=by omega
    subst hie;refine(Any2.slices_Insert_int_end_room zpI g 0 xs.length cap vb 0 1 1 [.int .i64 x] W (by omega) hroom (by omega) rfl (fun j hj=>by rw[Nat.zero_add];exact hsp _ (by omega)) (fun j _=>hfz _) hvs hv1).mono ?_;rintro e W' ⟨rfl,rfl⟩;simp only[Nat.zero_add];obtain⟨mZ,k1,k2⟩:=zk4 [.int .i64 x] xs.length W cur hg;refine⟨_,rfl,?_,(zk3 g _ _ _).mono fun b _ e=>by rw[e];rfl,fun b hb=>.inl hb⟩;rw[hys];refine zlw hb k1 (by omega) hroom hcm (by rw[zkt,hys]) ?_;intro j u hj;rw[List.take_of_length_le zl,List.drop_eq_nil_of_le zl,zmy]at hj;rcases Nat.lt_or_ge j xs.length with hji|hji
    ·rw[zlO (.inl hji)];rw[List.getElem?_append_left (by rw[zkt];exact hji)]at hj;exact hcs j u hj
    ·refine zmL (fun q hq=>hsp _ (by simp at hq;omega)) hji ?_;rw[List.getElem?_append_right (by rw[zkt];exact hji),zkt]at hj;exact hj
theorem ztc{W:World}{n0:Nat}{v:Value}{xs:List Int}(h:W.ownsRow n0 3 1 v xs.length (zki xs))(i:Nat)(hi:i<xs.length)(hl:xs.length<=4096) :
  Calls prog 193 #[v,.int .i64 i,.int .i64 ((i:Int)+1)] W (InsP W n0 v (xs.take i++xs.drop (i+1))):=by
 rcases h.2 with⟨rfl,h0⟩|⟨g,cap,cur,rfl,hb,hg,hnc,hcm,hz,hx⟩
 ·omega
 ·have hcs:∀j u,(zki xs)[j]?=some u->W.cell? ⟨g,j,none⟩=some u:=fun j u hj=>by
   have hj':=(List.getElem?_eq_some_iff.1 hj).1;rw[zkt]at hj';exact(h.cellAt j (by omega)).trans hj
  have hsp:∀j,j<cap->(W.cell? ⟨g,j,none⟩).isSome=true:=fun j hj=>by
   simp only[World.cell?,hg];have:j<cur.size:=by omega
   simp[this]
  have hmax:maxLen=9223372036854775807:=rfl;refine(Any.slices_Delete_int_cells zyl g 0 xs.length cap i (i+1) xs W zl hnc (by omega) (by omega) (by omega) (fun j hj=>by rw[Nat.zero_add];exact hcs j _ (by simp[zki,hj])) (fun j _=>zf hg)).mono ?_;rintro e W' ⟨rfl,q,rfl⟩;have hys:(xs.take i++xs.drop (i+1)).length=xs.length-1:=by simp;omega
  rw[List.take_of_length_le zl];obtain⟨mZ,k1,k2⟩:=zk4 ((xs.take i++xs.drop (i+1)++List.replicate (i+1-i) 0).map (Value.int .i64)) 0 (W.drewN q) cur hg;have hlen:((xs.take i++xs.drop (i+1)++List.replicate (i+1-i) (0:Int)).map (Value.int .i64)).length=xs.length:=by simp;omega
  refine⟨_,rfl,?_,((Chg.of_below (zkL (Below.refl _ W) q)).trans (zk3 g _ _ _)).mono fun b _ e=>by rw[e];rfl,fun b hb=>.inl hb⟩;rw[show xs.length-(i+1-i)=xs.length-1 by omega,hys];refine zlw hb k1 (by omega) (by omega) hcm (by rw[zkt,hys]) ?_;intro j u hj;have hj':=(List.getElem?_eq_some_iff.1 hj).1;rw[zkt,hys]at hj';refine zmL (w:=W.drewN q) (o:=0) (fun k hk=>by rw[Nat.zero_add];exact hsp k (by omega)) (Nat.zero_le _) ?_;rw[Nat.sub_zero,List.map_append,List.getElem?_append_left (by rw[List.length_map,hys];exact hj')];exact hj
section
variable {I:Type} [DecidableEq I] {n0:Nat} {d:I->RowD} {W:World}
theorem zn7(h:Rws W n0 d)(i0 iv:I)(h01:i0≠iv)(b o:Nat)(hb:(d i0).v.ownBlock=some b)(hov:(d i0).xs[o]?=some (d iv).v)(xs:List Int)(bK:d iv=⟨(d iv).v,3,1,xs.length,zki xs⟩)(hl:xs.length<=4096)(i:Nat)(hi:i<=xs.length)(x:Int) :
  Calls prog 190 #[.pointer (some ⟨b,o,none⟩),.int .i64 i,.int .i64 x] W fun e W'=>(4096<=xs.length/\e=.returned (.int .i64 5)/\Below W.heap.size W W') \/
   (xs.length<4096/\e=.returned (.int .i64 0)/\∃vv,Stp n0 d W (updR (updR d iv ⟨vv,3,1,xs.length+1,zki (xs.take i++x::xs.drop i)⟩) i0 { d i0 with xs:=(d i0).xs.set o vv }) W'):=by
 have fU:=h.row iv;rw[bK]at fU;obtain⟨A1,c1,e1,-⟩:=zkg fU;dsimp only at e1 fU;have x0:W.cell? ⟨b,o,none⟩=some (.slice A1 xs.length c1):=by rw[<-e1];exact h.cell i0 hb hov
 have HX0:=zh x0;have HR:=zh h;have hn0:=h.lt i0 b hb;obtain⟨n,hn⟩:=zX (xs.length);have HN:=zh hn;have ky:=zh e1;have wM:=zh fU;rw[hn]at x0 hl;have hbi:=zoD;clear h fU hn e1;by_cases hfull:4096<=n
 ·obtain rfl:n=4096:=by omega
  go_enter func190,ntmps190;go_wp2_with fail;go_ret;exact .inl ⟨by rw[HN.out];exact zl,rfl,zr⟩
 ·have hnf:¬ (4096:Int)<=(n:Int):=by omega
  have hbl:Below W.heap.size W (W.alloc (.cells #[.int .i64 x] 3)):=zkb zr _;have hnw:∀b',(d iv).v.ownBlock=some b'->b'<W.heap.size:=fun b' e=>(HR.out.lt iv b' e).2;have kv:=zh (ztb (zkJ wM.out hbl) i hi (by rw[HN.out];exact hl) (by simp;omega) x W.heap.size (heap_alloc_new W _) (fun e=>by have:=hnw _ e;omega));rw[ky.out,HN.out]at kv;have hcb:=zb hbl HX0.out;go_enter func190,ntmps190;go_wp2_with fail;refine kv.out.mono ?_;rintro e w2 ⟨v',rfl,ho,hc,aY⟩;have hys:(xs.take i++x::xs.drop i).length=n+1:=by rw[<-HN.out];simp;have:=HN.out;omega
  rw[hys]at ho;obtain⟨g8,aA,rfl⟩:=ownsRow_succ ho;have HR1:=HR.out.later hbl;have st1:Stp n0 d (W.alloc (.cells #[.int .i64 x] 3)) (updR d iv ⟨.slice (some ⟨g8,0,none⟩) (n+1) aA,3,1,n+1,zki (xs.take i++x::xs.drop i)⟩) w2 :=
   Stp.upd (i:=iv) HR1 (hc.mono fun b' _ hb'=>by rw[ky.out,HN.out];exact hb') ho (fun b' hb'=>by rw[ky.out,HN.out];exact aY b' hb')
  have hd0:updR d iv ⟨.slice (some ⟨g8,0,none⟩) (n+1) aA,3,1,n+1,zki (xs.take i++x::xs.drop i)⟩ i0=d i0:=zkl h01;have z0:w2.cell? ⟨b,o,none⟩=some (.slice A1 n c1):=by rw[<-HN.out,<-ky.out];exact st1.rws.cell i0 (by rw[hd0];exact hb) (by rw[hd0];exact hov)
  have zf:w2.frozen? ⟨b,o,none⟩=false:=st1.rws.frozen i0 (by rw[hd0];exact hb) o;have st2:=Stp.set (i:=i0) st1.rws (g:=b) (by rw[hd0];exact hb) (o:=o) (by rw[hd0];exact(List.getElem?_eq_some_iff.1 hov).1) (.slice (some ⟨g8,0,none⟩) (n+1) aA);rw[hd0]at st2;have qY:=zh ((st1.trans st2).after hbl HR.out);clear st1 st2 ho hc aY kv hcb;go_wp2_with fail;go_ret;refine .inr ⟨by rw[HN.out];omega,rfl,.slice (some ⟨g8,0,none⟩) (n+1) aA,?_⟩;rw[HN.out];exact qY.out
theorem zn6(h:Rws W n0 d)(i0 iv:I)(h01:i0≠iv)(b o:Nat)(hb:(d i0).v.ownBlock=some b)(hov:(d i0).xs[o]?=some (d iv).v)(xs:List Int)(bK:d iv=⟨(d iv).v,3,1,xs.length,zki xs⟩)(hl:xs.length<=4096)(k:Int)(i:Nat)(hi:0<xs.length->k=i/\i<xs.length) :
  Calls prog 189 #[.pointer (some ⟨b,o,none⟩),.int .i64 k] W fun e W'=>(xs.length=0/\e=.returned (.tuple #[.int .i64 0,.int .i64 17])/\Below W.heap.size W W') \/
   (0<xs.length/\e=.returned (.tuple #[.int .i64 (xs.getD i 0),.int .i64 0])/\∃vv,Stp n0 d W (updR (updR d iv ⟨vv,3,1,xs.length-1,zki (xs.take i++xs.drop (i+1))⟩) i0 { d i0 with xs:=(d i0).xs.set o vv }) W'):=by
 have fU:=h.row iv;rw[bK]at fU;obtain⟨A1,c1,e1,-⟩:=zkg fU;dsimp only at e1 fU;have x0:W.cell? ⟨b,o,none⟩=some (.slice A1 xs.length c1):=by rw[<-e1];exact h.cell i0 hb hov
 have HX0:=zh x0;have HR:=zh h;obtain⟨n,hn⟩:=zX (xs.length);have HN:=zh hn;have ky:=zh e1;have wM:=zh fU;rw[hn]at x0 hl hi;clear h hn e1;rcases Nat.eq_zero_or_pos n with h0|h0
 ·subst h0;clear fU;go_enter func189,ntmps189;go_wp2_with fail;go_ret2;exact .inl ⟨HN.out,rfl,zr⟩
 ·obtain⟨rfl,hin⟩:=hi h0;obtain⟨g,c2,hv2,-,-,hcell⟩:=zk7 fU (by rw[HN.out];exact h0);rw[ky.out]at hv2;injection hv2 with a1 a2 a3;subst a1 a3;obtain⟨y,hy⟩:=zX (xs.getD i 0);have x1:W.cell? ⟨g,i,none⟩=some (.int .i64 y):=by
   rw[hcell i (by rw[HN.out];omega),<-hy];have:i<xs.length:=by rw[HN.out];exact hin
   simp[zki,this]
  have hn0:¬ (n:Int)=0:=by omega
  have hn1:((n:Int)==0)=false:=by simpa using hn0
  have hin':(i:Int)<(n:Int):=by omega
  have kv:=zh (ztc wM.out i (by rw[HN.out];exact hin) (by rw[HN.out];exact hl));rw[ky.out,HN.out]at kv;have HY:=zh hy;clear fU hcell hy hi;go_enter func189,ntmps189;go_wp2_with fail;refine kv.out.mono ?_;rintro e w2 ⟨v',rfl,ho,hc,aY⟩;have hys:(xs.take i++xs.drop (i+1)).length=n-1:=by rw[<-HN.out];simp;have:=HN.out;omega
  rw[hys]at ho;obtain⟨A8,aA,rfl,-,-⟩:=zkg ho;have st1:Stp n0 d W (updR d iv ⟨.slice A8 (n-1) aA,3,1,n-1,zki (xs.take i++xs.drop (i+1))⟩) w2 :=
   Stp.upd (i:=iv) HR.out (hc.mono fun b' _ hb'=>by rw[ky.out,HN.out];exact hb') ho (fun b' hb'=>by rw[ky.out,HN.out];exact aY b' hb')
  have hd0:updR d iv ⟨.slice A8 (n-1) aA,3,1,n-1,zki (xs.take i++xs.drop (i+1))⟩ i0=d i0:=zkl h01;have z0:w2.cell? ⟨b,o,none⟩=some (.slice (some ⟨g,0,none⟩) n c1):=by rw[<-HN.out,<-ky.out];exact st1.rws.cell i0 (by rw[hd0];exact hb) (by rw[hd0];exact hov)
  have zf:w2.frozen? ⟨b,o,none⟩=false:=st1.rws.frozen i0 (by rw[hd0];exact hb) o;have st2:=Stp.set (i:=i0) st1.rws (g:=b) (by rw[hd0];exact hb) (o:=o) (by rw[hd0];exact(List.getElem?_eq_some_iff.1 hov).1) (.slice A8 (n-1) aA);rw[hd0]at st2;have qY:=zh (st1.trans st2);clear st1 st2 ho hc aY kv;go_wp2_with fail;go_ret2;refine .inr ⟨by rw[HN.out];omega,by rw[HY.out];rfl,.slice A8 (n-1) aA,?_⟩;rw[HN.out];exact qY.out
end
theorem zrS(P:Ph)(S:ST)(vv:Value)(ys:List Int):rows { P with vI:=vv } { S with tin:=ys }=updR (updR (rows P S) .tin ⟨vv,3,1,ys.length,zki ys⟩) .tb { rows P S .tb with xs:=(rows P S .tb).xs.set 0 vv }:=by
 funext r
 cases r with
 | calls=>simp only[updR,reduceCtorEq,if_false,rows];rw[zln (P:=P) (P':={ P with vI:=vv }) rfl rfl]
 | _=>simp[updR,rows]
theorem zqb(P:Ph)(S:ST)(vv:Value)(ys:List Int):rows { P with vO:=vv } { S with tout:=ys }=updR (updR (rows P S) .tout ⟨vv,3,1,ys.length,zki ys⟩) .tb { rows P S .tb with xs:=(rows P S .tb).xs.set 1 vv }:=by
 funext r
 cases r with
 | calls=>simp only[updR,reduceCtorEq,if_false,rows];rw[zln (P:=P) (P':={ P with vO:=vv }) rfl rfl]
 | _=>simp[updR,rows]
theorem zxM{S:ST}(h:S.WF)(ys:List Int)(hl:ys.length<=4096)(hy:∀x∈ys,I64 x):({ S with tin:=ys }:ST).WF:=⟨h.ex,h.ncalls,h.cells,⟨hl,hy⟩,h.tout⟩
theorem zu8{S:ST}(h:S.WF)(ys:List Int)(hl:ys.length<=4096)(hy:∀x∈ys,I64 x):({ S with tout:=ys }:ST).WF:=⟨h.ex,h.ncalls,h.cells,h.tin,⟨hl,hy⟩⟩
theorem zxk{W:World}{n0:Nat}{P:Ph}{S:ST}(h:SR W n0 P S):Calls prog 182 #[.pointer (some ⟨P.tb,0,none⟩)] W fun e W' =>
  (S.tin=[]/\e=.returned (.tuple #[.int .i64 0,.int .i64 17])/\Below W.heap.size W W')\/(∃x r,S.tin=x::r/\e=.returned (.tuple #[.int .i64 x,.int .i64 0])/\∃vv,SStp n0 P S W { P with vI:=vv } { S with tin:=r } W'):=by
 have qh:=zh (zn6 h.rws .tb .tin (by simp) P.tb 0 rfl rfl S.tin rfl h.wf.tin.1 0 0 (fun h=>⟨rfl,h⟩));have eH:=zh h.wf;clear h;go_enter func182,ntmps182;go_wp2_with fail;refine qh.out.mono ?_;rintro e w1 hh;rcases hh with⟨h0,rfl,hb⟩|⟨h0,rfl,vv,hst⟩
 ·have HH:=zh h0;have HB:=zh hb;clear h0 hb;go_wp2_with fail;go_ret2;exact .inl ⟨List.length_eq_zero_iff.1 HH.out,rfl,HB.out⟩
 ·have HH:=zh h0;have HST:=zh hst;clear h0 hst;go_wp2_with fail;go_ret2;refine .inr ?_;obtain⟨x,r,yB⟩:∃x r,S.tin=x::r:=by
   cases hc:S.tin with
   | nil=>have:=HH.out;rw[hc]at this;simp at this
   | cons x r=>exact⟨x,r,rfl⟩
  have ht:=eH.out.tin;rw[yB]at ht;refine⟨x,r,yB,by rw[yB];rfl,vv,⟨HST.out.cast ?_,zxM eH.out r (by have:=ht.1;simp at this;omega) fun y hy=>ht.2 y (List.mem_cons_of_mem _ hy)⟩⟩;rw[zrS P S vv r,yB];simp
theorem zpq{W:World}{n0:Nat}{P:Ph}{S:ST}(h:SR W n0 P S)(x:Int)(hx:I64 x):Calls prog 183 #[.pointer (some ⟨P.tb,0,none⟩),.int .i64 x] W fun e W' =>
  (4096<=S.tin.length/\e=.returned (.int .i64 5)/\Below W.heap.size W W')\/(S.tin.length<4096/\e=.returned (.int .i64 0)/\∃vv,SStp n0 P S W { P with vI:=vv } { S with tin:=x::S.tin } W'):=by
 have qh:=zh (zn7 h.rws .tb .tin (by simp) P.tb 0 rfl rfl S.tin rfl h.wf.tin.1 0 (Nat.zero_le _) x);have eH:=zh h.wf;clear h;go_enter func183,ntmps183;go_wp2_with fail;refine qh.out.mono ?_;rintro e w1 hh;rcases hh with⟨h0,rfl,hb⟩|⟨h0,rfl,vv,hst⟩
 ·have HH:=zh h0;have HB:=zh hb;clear h0 hb;go_wp2_with fail;go_ret;exact .inl ⟨HH.out,rfl,HB.out⟩
 ·have HH:=zh h0;have HST:=zh hst;clear h0 hst;go_wp2_with fail;go_ret;have ht:=eH.out.tin;refine .inr ⟨HH.out,rfl,vv,⟨HST.out.cast ?_,zxM eH.out _ (by have:=HH.out;simp;omega) fun y hy=>?_⟩⟩
  ·rw[zrS P S vv (x::S.tin)];simp
  ·rcases List.mem_cons.1 hy with rfl|hy
   ·exact hx
   ·exact ht.2 y hy
theorem zuv:IsFn prog 190 f190:=⟨func190,by kernel_rfl,by kernel_rfl⟩
theorem zuu:IsFn prog 189 f189:=⟨func189,by kernel_rfl,by kernel_rfl⟩
theorem zqL{W:World}{n0:Nat}{P:Ph}{S:ST}(h:SR W n0 P S)(x:Int)(hx:I64 x):Calls prog 185 #[.pointer (some ⟨P.tb,0,none⟩),.int .i64 x] W fun e W' =>
  (4096<=S.tout.length/\e=.returned (.int .i64 5)/\Below W.heap.size W W')\/(S.tout.length<4096/\e=.returned (.int .i64 0)/\∃vv,SStp n0 P S W { P with vO:=vv } { S with tout:=S.tout++[x] } W'):=by
 have qh:=zh (zn7 (h.later zr.drew).rws .tb .tout (by simp) P.tb 1 rfl rfl S.tout rfl h.wf.tout.1 S.tout.length zl x);have eH:=zh h.wf;have HS:=zh h;obtain⟨A,c,hv,hc,-⟩:=zkg (h.rws.row .tout);change P.vO=.slice A S.tout.length c at hv;have x0:W.cell? ⟨P.tb,1,none⟩=some (.slice A S.tout.length c):=by rw[<-hv];exact zc h.tbox rfl
 obtain⟨n,hn⟩:=zX (S.tout.length);rw[hn]at x0;have HN:=zh hn;have had:Calls prog 190 [.pointer (some ⟨P.tb,1,none⟩),.int .i64 n,.int .i64 x].toArray W.drew fun e W'=>∃u,e=.returned u /\
   ((4096<=n/\u=.int .i64 5/\Below W.heap.size W W')\/(n<4096/\u=.int .i64 0/\∃vv,SStp n0 P S W { P with vO:=vv } { S with tout:=S.tout++[x] } W')):=by
  rw[<-hn];refine qh.out.mono ?_;rintro e W' hh;rcases hh with⟨h0,rfl,hb⟩|⟨h0,rfl,vv,hst⟩
  ·exact⟨_,rfl,.inl ⟨h0,rfl,zka zr.drew hb⟩⟩
  ·have ht:=eH.out.tout;refine⟨_,rfl,.inr ⟨h0,rfl,vv,⟨((Stp.after hst zr.drew HS.out.rws).cast ?_),zu8 eH.out _ (by simp;omega) fun y hy=>?_⟩⟩⟩
   ·rw[zqb P S vv (S.tout++[x]),List.take_of_length_le zl,List.drop_eq_nil_of_le zl];simp
   ·simp only[List.mem_append,List.mem_singleton]at hy;rcases hy with hy|rfl
    ·exact ht.2 y hy
    ·exact hx
 clear h hv hc hn qh;go_enter func185,ntmps185;go_upto_region 3 with fail;have hSS:zU W.drew/\(fun w':World=>zv w' P.tb 1 (.slice A n c)) W.drew:=⟨trivial,x0⟩
 refine wp_region_noPanic ?_;refine zkk zU (fun w':World=>zv w' P.tb 1 (.slice A n c)) 9 (by kernel_rfl) ?_;refine zT 0 hSS ?_;refine zT 1 hSS ?_;refine zT 2 hSS ?_;refine zT 3 hSS ?_;refine zT 4 hSS ?_;refine zT 5 hSS ?_;refine zL 6 [7] hSS ?_;refine zT 7 hSS ?_;refine zT 8 hSS ?_;refine zp 9 fun K hK=>?_;refine zke (by rfl) (.func 190) [.tmp 9,.tmp 14,.tmp 15] _ (by rfl) 190 _ zuv (by rfl) _ (by rfl) _ had ?_;rintro v4 w4 hh;have HH:=zh hh;have hv4:∃y,v4=.int .i64 y:=by rcases hh with⟨_,rfl,_⟩|⟨_,rfl,_⟩<;>exact⟨_,rfl⟩
 obtain⟨y,rfl⟩:=hv4;refine hK.out _ _ trivial ?_;clear hK K hSS had hh;(try simp only[zQ]);refine zp 10 fun K hK=>?_;(try simp only[zA,zB,zC]);go_simp;refine hK.out _ _ trivial ?_;clear hK K;(try simp only[zQ]);refine zd ?_;refine NoPanic.normal ?_;go_wp2_with fail;go_ret;rcases HH.out with⟨h0,h1,h2⟩|⟨h0,h1,h2⟩
 ·exact .inl ⟨by rw[HN.out];exact h0,by rw[<-h1];rfl,h2⟩
 ·exact .inr ⟨by rw[HN.out];exact h0,by rw[<-h1];rfl,h2⟩
theorem zrv{W:World}{n0:Nat}{P:Ph}{S:ST}(h:SR W n0 P S):Calls prog 184 #[.pointer (some ⟨P.tb,0,none⟩)] W fun e W' =>
  (S.tout=[]/\e=.returned (.tuple #[.int .i64 0,.int .i64 17])/\Below W.heap.size W W')\/(∃r x,S.tout=r++[x]/\e=.returned (.tuple #[.int .i64 x,.int .i64 0])/\∃vv,SStp n0 P S W { P with vO:=vv } { S with tout:=r } W'):=by
 have qh:=zh (zn6 (h.later zr.drew).rws .tb .tout (by simp) P.tb 1 rfl rfl S.tout rfl h.wf.tout.1 ((S.tout.length:Int)-1) (S.tout.length-1) (fun h=>⟨by omega,by omega⟩));have eH:=zh h.wf;have HS:=zh h;obtain⟨A,c,hv,hc,-⟩:=zkg (h.rws.row .tout);change P.vO=.slice A S.tout.length c at hv;have x0:W.cell? ⟨P.tb,1,none⟩=some (.slice A S.tout.length c):=by rw[<-hv];exact zc h.tbox rfl
 have hlen:=h.wf.tout.1;obtain⟨n,hn⟩:=zX (S.tout.length);rw[hn]at x0 hlen;have had:Calls prog 189 [.pointer (some ⟨P.tb,1,none⟩),.int .i64 ((n:Int)-1)].toArray W.drew fun e W'=>∃u,e=.returned u/\∃a1 a2,u=.tuple #[.int .i64 a1,.int .i64 a2] /\
   ((S.tout=[]/\(a1,a2)=((0:Int),(17:Int))/\Below W.heap.size W W')\/(∃r x,S.tout=r++[x]/\(a1,a2)=(x,0)/\∃vv,SStp n0 P S W { P with vO:=vv } { S with tout:=r } W')):=by
  rw[<-hn];refine qh.out.mono ?_;rintro e W' hh;rcases hh with⟨h0,rfl,hb⟩|⟨h0,rfl,vv,hst⟩
  ·exact⟨_,rfl,_,_,rfl,.inl ⟨List.length_eq_zero_iff.1 h0,rfl,zka zr.drew hb⟩⟩
  ·have ht:=eH.out.tout;obtain⟨r,x,hrx⟩:∃r x,S.tout=r++[x]:=⟨S.tout.dropLast,S.tout.getLast (by intro e;rw[e]at h0;simp at h0),(List.dropLast_concat_getLast _).symm⟩
   rw[hrx]at ht;refine⟨_,rfl,_,_,rfl,.inr ⟨r,x,hrx,?_,vv,⟨((Stp.after hst zr.drew HS.out.rws).cast ?_),zu8 eH.out _ (by have:=ht.1;simp at this;omega) fun y hy=>ht.2 y (List.mem_append_left _ hy)⟩⟩⟩
   ·rw[hrx];simp
   ·rw[zqb P S vv r,hrx];simp
 clear h hv hc hn qh;have hw1:IntKind.i64.wrap ((n:Int)-1)=(n:Int)-1:=IntWalk.i64_in _ (by omega);go_enter func184,ntmps184;go_upto_region 3 with fail;have hSS:zU W.drew/\(fun w':World=>zv w' P.tb 1 (.slice A n c)) W.drew:=⟨trivial,x0⟩
 refine wp_region_noPanic ?_;refine zkk zU (fun w':World=>zv w' P.tb 1 (.slice A n c)) 9 (by kernel_rfl) ?_;refine zT 0 hSS ?_;refine zT 1 hSS ?_;refine zT 2 hSS ?_;refine zT 3 hSS ?_;refine zT 4 hSS ?_;refine zT 5 hSS ?_;refine zL 6 [7,8] hSS ?_;refine zT 7 hSS ?_;refine zT 8 hSS ?_;refine zp 9 fun K hK=>?_;refine zke (by rfl) (.func 189) [.tmp 8,.tmp 14] _ (by rfl) 189 _ zuu (by rfl) _ (by rfl) _ had ?_;rintro v4 w4 ⟨a1,a2,rfl,hh⟩;have HH:=zh hh;refine hK.out _ _ trivial ?_;clear hK K hSS had hh;(try simp only[zQ]);refine zM 10 trivial ?_;refine zM 11 trivial ?_;refine zp 12 fun K hK=>?_;(try simp only[zA,zB,zC]);go_simp;refine hK.out _ _ trivial ?_;clear hK K;(try simp only[zQ]);refine zp 13 fun K hK=>?_;(try simp only[zA,zB,zC]);go_simp;refine hK.out _ _ trivial ?_;clear hK K;(try simp only[zQ]);refine zd ?_;refine NoPanic.normal ?_;go_wp2_with fail;go_ret2
 rcases HH.out with⟨h0,h1,h2⟩|⟨r,x,h0,h1,h2⟩
 ·injection h1 with e1 e2;subst e1 e2;exact .inl ⟨h0,rfl,h2⟩
 ·injection h1 with e1 e2;subst e1 e2;exact .inr ⟨r,a1,h0,rfl,h2⟩
def ownE(vs:List VD)(k:Int)(s:ByteArray):Int:=if zpE k=0 then 0 else match zlo vs s with
 | none=>6
 | some v=>if v.k=zpE k then 0 else 7
mutual
/-- frame.fault: the first fault in pre-order. -/
def fltE(vs:List VD):T->Int
 | .nd k _ s ks=>if ownE vs k s≠0 then ownE vs k s else zlB vs ks
def zlB(vs:List VD):List T->Int
 | []=>0
 | t::ts=>if fltE vs t≠0 then fltE vs t else zlB vs ts
end
theorem zmI{vs:List VD}:∀ {ks:List T} {j:Nat} (h:j<ks.length),zlB vs (ks.take j)=0->zlB vs (ks.take (j+1))=fltE vs ks[j]
 | t::ts,0,_,_=>by simp only[List.take,zlB,List.getElem_cons_zero];split<;>simp_all
 | t::ts,j+1,h,h0=>by
  simp only[List.take,zlB,List.getElem_cons_succ]at h0 ⊢
  split at h0
  ·contradiction
  ·rename_i h1;rw[if_neg h1];exact zmI (by simpa using h) h0
theorem zmJ{vs:List VD}:∀ {ks:List T} {j:Nat} (h:j<ks.length),zlB vs (ks.take j)=0->fltE vs ks[j]≠0->zlB vs ks=fltE vs ks[j]
 | t::ts,0,_,_,h1=>by simp only[zlB,List.getElem_cons_zero]at *;rw[if_pos h1]
 | t::ts,j+1,h,h0,h1=>by
  simp only[List.take,zlB,List.getElem_cons_succ]at h0 h1 ⊢
  split at h0
  ·contradiction
  ·rename_i h2;rw[if_neg h2];exact zmJ (by simpa using h) h0 h1
theorem zsW(vs:List VD)(A:Option Addr)(c:Nat)(fp:Addr)(hl:vs.length<=4398046511000)(t:T):∀(v:Value) (w:World),NV w Any t v->w.cell? fp=some (.slice A vs.length c)->RowV w Any A vs ->
  Calls prog 162 #[.pointer (some fp),v] w fun e w'=>e=.returned (.int .i64 (fltE vs t))/\Below w.heap.size w w':=by
 induction t using T.ind with
 | _ k n s ks ih =>
  intro v w hv hc hrow;obtain⟨B,d,rfl,hf,hlk,hlc,hks⟩:=hv.open_;simp only[T.k_nd,T.n_nd,T.s_nd,T.ks_nd]at *
  have au:=zkx hlk;have qz:=zh ih;have uR:=zh hks;have HC:=zh hc;have ae:=zh hrow;obtain⟨R,hR⟩:=zX (fltE vs (.nd k n s ks));rw[hR];rw[fltE]at hR;have HR:=zh hR;obtain⟨nk,hnk⟩:=zX (zpE k);have HNE:=zh (hnk▸zt1 k);have nL:=zh hnk;obtain⟨VL,yN⟩:=zX (vs.length);have dW:=zh (show ∀w',Below w.heap.size w w'->Calls prog 85 #[.slice A VL c,.string s] w' fun e w''=>e=.returned (fdV (zlo vs s))/\Below w'.heap.size w' w'' from fun w' hb=>yN▸zn4 vs A c s Any w' (hrow.later hb) (by unfold LV;omega));rw[yN]at HC;have hc':=fun o=>zkj (o:=o) HC.out;have BS:=zh yN;clear ih hv hf hlk hlc hks hc hrow hR hnk yN;go_enter func162,ntmps162;go_wp2_with fail;refine(HNE.out _).mono ?_;rintro e w1 ⟨rfl,rfl⟩;have hbx:=heap_alloc_new w (.cells #[.int .u8 k,.int .i64 n,.string s,.slice B ks.length d] 28)
  have q1:Below w.heap.size w (w.alloc (.cells #[.int .u8 k,.int .i64 n,.string s,.slice B ks.length d] 28)):=zkb zr _;obtain⟨W1,hW1⟩:=zX (w.alloc (.cells #[.int .u8 k,.int .i64 n,.string s,.slice B ks.length d] 28));have hcW:=hc' (.cells #[.int .u8 k,.int .i64 n,.string s,.slice B ks.length d] 28);rw[hW1]at hbx q1 hcW ⊢;have aS:=zh hbx;have bL:=zh q1;have HCW:=zh hcW;obtain⟨m0,m1,m2,m3⟩:=box4 hbx;clear hbx q1 hW1 hc';by_cases hn0:nk=0
  ·subst hn0;have HRR:=zh (show zlB vs ks=R by rw[<-HR.out,ownE,if_pos nL.out];simp);have qQ:=bL;have qN:=aS;obtain⟨WX,lM⟩:=zX (W1);rw[lM]at m0 m1 m2 m3 qQ qN hcW ⊢;clear lM HR nL HNE dW;go_wp2_with fail
   go_loopw [10,35] (fun _ i wr=>∃j:Nat,j<=ks.length/\i=.int .i64 j/\Below w.heap.size w wr/\wr.heap[w.heap.size]?=some (.cells #[.int .u8 k,.int .i64 n,.string s,.slice B ks.length d] 28 (0,0))/\Hid (zlB vs (ks.take j)=0)) (fun _ i _=>ks.length-(intOf i).toNat)
   case atStart=>exact⟨0,Nat.zero_le _,rfl,qQ.out,qN.out,zh (by simp[zlB])⟩
   case round =>
    obtain⟨j,hj,rfl,hbl,hbx,HJ⟩:=hrel;have af:=zh hbl;have xL:=zh hbx;by_cases hlt:j<ks.length
    ·obtain⟨a,t,A1,c1,rfl,_,Ht,⟨y0,y1,y2,y3⟩,hn⟩:=(uR.out.later hbl).nd hlt;obtain⟨re,hre⟩:=zX (fltE vs t);have dR:=zh (show ∀(v:Value) (w:World),NV w Any t v->w.cell? fp=some (.slice A VL c)->RowV w Any A vs->Calls prog 162 #[.pointer (some fp),v] w fun e w'=>e=.returned (.int .i64 re)/\Below w.heap.size w w' from by
      have h1:=qz.out t (by rw[<-Ht.out];exact List.getElem_mem hlt);rw[hre,BS.out]at h1;exact h1)
     have gK:=zh hre;have HN:=zh hn;have hal:=zkb hbl (.cells #[.int .u8 t.k,.int .i64 t.n,.string t.s,.slice A1 t.ks.length c1] 28);have rF:=zh (dR.out _ _ (HN.out.later (zkb zr (.cells #[.int .u8 t.k,.int .i64 t.n,.string t.s,.slice A1 t.ks.length c1] 28))) (zb hal HC.out) (ae.out.later hal));clear hn hbl hbx hre hal;go_wp2_with fail;refine rF.out.mono ?_;rintro e w5 ⟨rfl,dU⟩;have aO:=zh (zka (zkb af.out _) dU);have uu:=zh (zkc (zkd xL.out _) dU);clear dU y0 y1 y2 y3;by_cases hr0:re=0
     ·subst hr0;have HJ2:Hid (zlB vs (ks.take (j+1))=0):=zh (by rw[zmI hlt HJ.out,Ht.out];exact gK.out);go_wp2_with fail
      go_roundw
      case rel=>exact⟨j+1,by omega,by go_num,aO.out,uu.out,HJ2⟩
      case measure=>simp[intOf];omega
     ·have e1:(re==0)=false:=by simpa using hr0
      have e2:(re != 0)=true:=by simpa using hr0
      have HF:=zh (show R=re by rw[<-HRR.out,zmJ hlt HJ.out (by rw[Ht.out,gK.out];exact hr0),Ht.out,gK.out]);clear hr0;go_wp2_with fail;go_ret;exact⟨by rw[HF.out];rfl,aO.out⟩
    ·obtain rfl:j=ks.length:=by omega
     have HF:=zh (show R=0 by
      have:=HJ.out;rw[List.take_of_length_le zl]at this;rw[<-HRR.out];exact this)
     clear hbl hbx;go_wp2_with fail;go_ret;exact⟨by rw[HF.out];rfl,af.out⟩
  ·have e1:(nk==0)=false:=by simpa using hn0
   have e2:(nk != 0)=true:=by simpa using hn0
   obtain⟨fd,Bp⟩:=zX (zlo vs s);rw[Bp]at dW;have vz:=zh Bp;have aB:=zh (show ∀w',Below W1.heap.size W1 w'->w'.cell? fp=some (.slice A VL c)/\w'.cell? ⟨w.heap.size,2,none⟩=some (.string s)from fun w' hb=>⟨zb hb hcW,zb hb m2⟩);have aH:=zh (aB.out _ zr.drew);clear hcW m0 m1 m2 m3 Bp
   cases fd with
   | none =>
    go_upto_region 3 with fail
    go_region_held3 (fun w':World=>w'.cell? fp=some (.slice A VL c)/\zv w' w.heap.size 2 (.string s))
     (first|with_reducible exact aD.out|with_reducible exact aH.out|(exact aB.out _ (zkb zr _).drew)|(exact aB.out _ (zkb b1 _))|(exact aB.out _ (((b1.setCell (by simp) _).setCell (by simp) _).setCell (by simp) _)))
     (first
      | (go_at_call 85;refine(dW.out _ (zka bL.out (by first|exact zr.drew|exact(zkb zr _).drew))).mono ?_;rintro e y1 ⟨rfl,bG⟩;have b1:Below W1.heap.size W1 y1:=zka (by first|exact zr.drew|exact(zkb zr _).drew) bG;have aD:=zh (aB.out _ b1);(try (have hz:=zkc (show(W1.alloc (.cells #[.string ⟨#[]⟩,.int .u8 0,.int .i64 0] 38)).drew.heap[W1.heap.size]?=some (.cells #[.string ⟨#[]⟩,.int .u8 0,.int .i64 0] 38 (0,0))from heap_alloc_new W1 _) bG;have hz0:y1.cell? ⟨W1.heap.size,0,none⟩=some (.string ⟨#[]⟩):=zc hz rfl;have hz1:y1.cell? ⟨W1.heap.size,1,none⟩=some (.int .u8 0):=zc hz rfl;have hz2:y1.cell? ⟨W1.heap.size,2,none⟩=some (.int .i64 0):=zc hz rfl;have og:∀i,y1.frozen? ⟨W1.heap.size,i,none⟩=false:=fun i=>zf hz)))
      | fail)
    all_goals
     have HRR:=zh (show R=6 by
      have:ownE vs k s=6:=by rw[ownE,if_neg (by rw[nL.out];exact hn0),vz.out]
      rw[<-HR.out,this];rfl)
     have HB1:=zh (zka bL.out b1);have dK:=zh (show Below W1.heap.size W1 _ from b1);(try clear hz hz0 hz1 hz2 og);clear b1 bG aD HR hn0;go_wp2_with fail;go_ret
     first
      | exact⟨by rw[HRR.out];rfl,zkb HB1.out _⟩
      | exact⟨by rw[HRR.out];rfl,zka bL.out (((dK.out.setCell (by simp) _).setCell (by simp) _).setCell (by simp) _)⟩
   | some vd =>
    obtain⟨vm,vk,vl⟩:=vd;go_upto_region 3 with fail
    go_region_held3 (fun w':World=>w'.cell? fp=some (.slice A VL c)/\zv w' w.heap.size 2 (.string s))
     (first|with_reducible exact aD.out|with_reducible exact aH.out|(exact aB.out _ (zkb zr _).drew)|(exact aB.out _ (zkb b1 _))|(exact aB.out _ (((b1.setCell (by simp) _).setCell (by simp) _).setCell (by simp) _)))
     (first
      | (go_at_call 85;refine(dW.out _ (zka bL.out (by first|exact zr.drew|exact(zkb zr _).drew))).mono ?_;rintro e y1 ⟨rfl,bG⟩;have b1:Below W1.heap.size W1 y1:=zka (by first|exact zr.drew|exact(zkb zr _).drew) bG;have aD:=zh (aB.out _ b1);(try (have hz:=zkc (show(W1.alloc (.cells #[.string ⟨#[]⟩,.int .u8 0,.int .i64 0] 38)).drew.heap[W1.heap.size]?=some (.cells #[.string ⟨#[]⟩,.int .u8 0,.int .i64 0] 38 (0,0))from heap_alloc_new W1 _) bG;have hz0:y1.cell? ⟨W1.heap.size,0,none⟩=some (.string ⟨#[]⟩):=zc hz rfl;have hz1:y1.cell? ⟨W1.heap.size,1,none⟩=some (.int .u8 0):=zc hz rfl;have hz2:y1.cell? ⟨W1.heap.size,2,none⟩=some (.int .i64 0):=zc hz rfl;have og:∀i,y1.frozen? ⟨W1.heap.size,i,none⟩=false:=fun i=>zf hz)))
      | fail)
    ·obtain⟨WX,lM⟩:=zX (y1.alloc (.cells #[.string vm,.int .u8 vk,.int .i64 vl] 38));have hbX:Below W1.heap.size W1 WX:=lM▸zkb b1 _;have hvk:WX.cell? ⟨y1.heap.size,1,none⟩=some (.int .u8 vk):=by rw[<-lM];simp
     rw[lM];have qQ:=zh (zka bL.out hbX);have qN:=zh (zkc aS.out hbX);obtain⟨m0,m1,m2,m3⟩:=box4 qN.out;clear b1 bG aD hbX lM;by_cases hk:vk=nk
     ·have HRR:=zh (show zlB vs ks=R by
       have:ownE vs k s=0:=by rw[ownE,if_neg (by rw[nL.out];exact hn0),vz.out];simp[nL.out,hk]
       rw[<-HR.out,this];simp)
      have e1:(vk==nk)=true:=by simpa using hk
      have e2:(vk != nk)=false:=by simpa using hk
      clear hn0 hk;go_wp2_with fail
      go_loopw [10,35] (fun _ i wr=>∃j:Nat,j<=ks.length/\i=.int .i64 j/\Below w.heap.size w wr/\wr.heap[w.heap.size]?=some (.cells #[.int .u8 k,.int .i64 n,.string s,.slice B ks.length d] 28 (0,0))/\Hid (zlB vs (ks.take j)=0)) (fun _ i _=>ks.length-(intOf i).toNat)
      case atStart=>exact⟨0,Nat.zero_le _,rfl,qQ.out,qN.out,zh (by simp[zlB])⟩
      case round =>
       obtain⟨j,hj,rfl,hbl,hbx,HJ⟩:=hrel;have af:=zh hbl;have xL:=zh hbx;by_cases hlt:j<ks.length
       ·obtain⟨a,t,A1,c1,rfl,_,Ht,⟨y0,y1,y2,y3⟩,hn⟩:=(uR.out.later hbl).nd hlt;obtain⟨re,hre⟩:=zX (fltE vs t);have dR:=zh (show ∀(v:Value) (w:World),NV w Any t v->w.cell? fp=some (.slice A VL c)->RowV w Any A vs->Calls prog 162 #[.pointer (some fp),v] w fun e w'=>e=.returned (.int .i64 re)/\Below w.heap.size w w' from by
         have h1:=qz.out t (by rw[<-Ht.out];exact List.getElem_mem hlt);rw[hre,BS.out]at h1;exact h1)
        have gK:=zh hre;have HN:=zh hn;have hal:=zkb hbl (.cells #[.int .u8 t.k,.int .i64 t.n,.string t.s,.slice A1 t.ks.length c1] 28);have rF:=zh (dR.out _ _ (HN.out.later (zkb zr (.cells #[.int .u8 t.k,.int .i64 t.n,.string t.s,.slice A1 t.ks.length c1] 28))) (zb hal HC.out) (ae.out.later hal));clear hn hbl hbx hre hal;go_wp2_with fail;refine rF.out.mono ?_;rintro e w5 ⟨rfl,dU⟩;have aO:=zh (zka (zkb af.out _) dU);have uu:=zh (zkc (zkd xL.out _) dU);clear dU y0 y1 y2 y3;by_cases hr0:re=0
        ·subst hr0;have HJ2:Hid (zlB vs (ks.take (j+1))=0):=zh (by rw[zmI hlt HJ.out,Ht.out];exact gK.out);go_wp2_with fail
         go_roundw
         case rel=>exact⟨j+1,by omega,by go_num,aO.out,uu.out,HJ2⟩
         case measure=>simp[intOf];omega
        ·have e1:(re==0)=false:=by simpa using hr0
         have e2:(re != 0)=true:=by simpa using hr0
         have HF:=zh (show R=re by rw[<-HRR.out,zmJ hlt HJ.out (by rw[Ht.out,gK.out];exact hr0),Ht.out,gK.out]);clear hr0;go_wp2_with fail;go_ret;exact⟨by rw[HF.out];rfl,aO.out⟩
       ·obtain rfl:j=ks.length:=by omega
        have HF:=zh (show R=0 by
         have:=HJ.out;rw[List.take_of_length_le zl]at this;rw[<-HRR.out];exact this)
        clear hbl hbx;go_wp2_with fail;go_ret;exact⟨by rw[HF.out];rfl,af.out⟩
     ·have HRR:=zh (show R=7 by
       have:ownE vs k s=7:=by rw[ownE,if_neg (by rw[nL.out];exact hn0),vz.out];simp[nL.out,hk]
       rw[<-HR.out,this];rfl)
      have e1:(vk==nk)=false:=by simpa using hk
      have e2:(vk != nk)=true:=by simpa using hk
      clear hn0 hk;go_wp2_with fail;go_ret;exact⟨by rw[HRR.out];rfl,qQ.out⟩
    ·obtain⟨WX,lM⟩:=zX (((y1.setCell ⟨W1.heap.size,0,none⟩ (.string vm)).setCell ⟨W1.heap.size,1,none⟩ (.int .u8 vk)).setCell ⟨W1.heap.size,2,none⟩ (.int .i64 vl));have hbX:Below W1.heap.size W1 WX:=lM▸((b1.setCell (by simp) _).setCell (by simp) _).setCell (by simp) _;have hvk:WX.cell? ⟨W1.heap.size,1,none⟩=some (.int .u8 vk):=by rw[<-lM];exact zc (heap_setCell_same _ W1.heap.size 2 _ _ (.int .i64 vl) (heap_setCell_same _ W1.heap.size 1 _ _ (.int .u8 vk) (heap_setCell_same y1 W1.heap.size 0 _ _ (.string vm) hz))) (by simp)
     rw[lM];have qQ:=zh (zka bL.out hbX);have qN:=zh (zkc aS.out hbX);obtain⟨m0,m1,m2,m3⟩:=box4 qN.out;clear hz hz0 hz1 hz2 og;clear b1 bG aD hbX lM;by_cases hk:vk=nk
     ·have HRR:=zh (show zlB vs ks=R by
       have:ownE vs k s=0:=by rw[ownE,if_neg (by rw[nL.out];exact hn0),vz.out];simp[nL.out,hk]
       rw[<-HR.out,this];simp)
      have e1:(vk==nk)=true:=by simpa using hk
      have e2:(vk != nk)=false:=by simpa using hk
      clear hn0 hk;go_wp2_with fail
      go_loopw [10,35] (fun _ i wr=>∃j:Nat,j<=ks.length/\i=.int .i64 j/\Below w.heap.size w wr/\wr.heap[w.heap.size]?=some (.cells #[.int .u8 k,.int .i64 n,.string s,.slice B ks.length d] 28 (0,0))/\Hid (zlB vs (ks.take j)=0)) (fun _ i _=>ks.length-(intOf i).toNat)
      case atStart=>exact⟨0,Nat.zero_le _,rfl,qQ.out,qN.out,zh (by simp[zlB])⟩
      case round =>
       obtain⟨j,hj,rfl,hbl,hbx,HJ⟩:=hrel;have af:=zh hbl;have xL:=zh hbx;by_cases hlt:j<ks.length
       ·obtain⟨a,t,A1,c1,rfl,_,Ht,⟨y0,y1,y2,y3⟩,hn⟩:=(uR.out.later hbl).nd hlt;obtain⟨re,hre⟩:=zX (fltE vs t);have dR:=zh (show ∀(v:Value) (w:World),NV w Any t v->w.cell? fp=some (.slice A VL c)->RowV w Any A vs->Calls prog 162 #[.pointer (some fp),v] w fun e w'=>e=.returned (.int .i64 re)/\Below w.heap.size w w' from by
         have h1:=qz.out t (by rw[<-Ht.out];exact List.getElem_mem hlt);rw[hre,BS.out]at h1;exact h1)
        have gK:=zh hre;have HN:=zh hn;have hal:=zkb hbl (.cells #[.int .u8 t.k,.int .i64 t.n,.string t.s,.slice A1 t.ks.length c1] 28);have rF:=zh (dR.out _ _ (HN.out.later (zkb zr (.cells #[.int .u8 t.k,.int .i64 t.n,.string t.s,.slice A1 t.ks.length c1] 28))) (zb hal HC.out) (ae.out.later hal));clear hn hbl hbx hre hal;go_wp2_with fail;refine rF.out.mono ?_;rintro e w5 ⟨rfl,dU⟩;have aO:=zh (zka (zkb af.out _) dU);have uu:=zh (zkc (zkd xL.out _) dU);clear dU y0 y1 y2 y3;by_cases hr0:re=0
        ·subst hr0;have HJ2:Hid (zlB vs (ks.take (j+1))=0):=zh (by rw[zmI hlt HJ.out,Ht.out];exact gK.out);go_wp2_with fail
         go_roundw
         case rel=>exact⟨j+1,by omega,by go_num,aO.out,uu.out,HJ2⟩
         case measure=>simp[intOf];omega
        ·have e1:(re==0)=false:=by simpa using hr0
         have e2:(re != 0)=true:=by simpa using hr0
         have HF:=zh (show R=re by rw[<-HRR.out,zmJ hlt HJ.out (by rw[Ht.out,gK.out];exact hr0),Ht.out,gK.out]);clear hr0;go_wp2_with fail;go_ret;exact⟨by rw[HF.out];rfl,aO.out⟩
       ·obtain rfl:j=ks.length:=by omega
        have HF:=zh (show R=0 by
         have:=HJ.out;rw[List.take_of_length_le zl]at this;rw[<-HRR.out];exact this)
        clear hbl hbx;go_wp2_with fail;go_ret;exact⟨by rw[HF.out];rfl,af.out⟩
     ·have HRR:=zh (show R=7 by
       have:ownE vs k s=7:=by rw[ownE,if_neg (by rw[nL.out];exact hn0),vz.out];simp[nL.out,hk]
       rw[<-HR.out,this];rfl)
      have e1:(vk==nk)=false:=by simpa using hk
      have e2:(vk != nk)=true:=by simpa using hk
      clear hn0 hk;go_wp2_with fail;go_ret;exact⟨by rw[HRR.out];rfl,qQ.out⟩
def ST.setL(S:ST)(id:Nat)(l:List Int):ST:={ S with cell:=fun j=>if j=id then l else S.cell j }
def ST.el(S:ST)(id i:Nat):Int:=(S.cell id).getD i 0
def ST.put(S:ST)(id i:Nat)(x:Int):ST:=S.setL id ((S.cell id).set i x)
def updE(k x y:Int):Int:=if k=40 then wrap64 (x+y)else if k=41 then wrap64 (x-y)else bits BinOp.xor IntKind.i64 x y
def znN(S:ST)(k:Int)(id i aj:Nat):Int×ST :=
 if k=44 then(if 1000<=(S.cell aj).length then(5,S)else(0,(S.setL aj (S.cell aj++[S.el id i])).put id i 0))
 else if (S.cell aj).length=0 then(13,S)
 else if S.el id i≠0 then(14,S)
 else(0,(S.put id i (S.el aj ((S.cell aj).length-1))).setL aj ((S.cell aj).take ((S.cell aj).length-1)))
def zlv(S:ST)(k:Int)(id i:Nat):Int×ST :=
 if k=46 then match S.tin with
  | []=>(17,S)
  | y::r=>if S.el id i≠0 then(14,S)else(0,({ S with tin:=r }:ST).put id i y)
 else if k=49 then(if S.tout=[]then(17,S)else if S.el id i≠0 then(14,S)else(0,({ S with tout:=S.tout.dropLast }:ST).put id i (S.tout.getLast?.getD 0)))
 else if k=47 then(if 4096<=S.tin.length then(5,S)else(0,({ S with tin:=S.el id i::S.tin }:ST).put id i 0))
 else(if 4096<=S.tout.length then(5,S)else(0,({ S with tout:=S.tout++[S.el id i] }:ST).put id i 0))
def CurK(S:ST)(id:Nat)(k:Int):Prop:=∃(i:Nat) (v:VD),S.cur.vs[i]?=some v/\S.cur.cs[i]?=some id/\v.k=k
theorem CurK.kd{S:ST}{id:Nat}{k:Int}(h:CurK S id k){kd:Nat->Int×Int}(hw:S.cur.WF kd S.nc):(kd id).1=k/\id<S.nc:=by
 obtain⟨i,v,h1,h2,h3⟩:=h;obtain⟨a1,a2⟩:=List.getElem?_eq_some_iff.1 h1;obtain⟨b1,b2⟩:=List.getElem?_eq_some_iff.1 h2;have:=hw.kind i a1 b1;rw[b2,a2]at this;exact⟨by rw[this];exact h3,b2▸hw.num _ (List.getElem_mem b1)⟩
theorem CurK.lt{S:ST}{id:Nat}{k:Int}(h:CurK S id k)(hw:S.WF):id<S.nc:=by
 obtain⟨kd,h1⟩:=hw.cur;exact(h.kd h1).2
theorem CurK.ne{S:ST}{id id':Nat}{k k':Int}(h:CurK S id k)(h':CurK S id' k')(hw:S.WF)(hk:k≠k'):id≠id':=fun e=>by
 obtain⟨kd,h1⟩:=hw.cur;subst e;exact hk ((h.kd h1).1.symm.trans (h'.kd h1).1)
theorem zy6{S:ST}(h:S.WF)(id:Nat)(l:List Int)(hl:l.length=(S.cell id).length)(hx:∀x∈l,I64 x):(S.setL id l).WF:=by
 obtain⟨kd,h1,h2,h3⟩:=h.ex;refine⟨⟨kd,h1,h2,fun i hi=>?_⟩,h.ncalls,fun i hi=>?_,h.tin,h.tout⟩
 ·have:=h3 i hi;simp only[ST.setL];by_cases e:i=id
  ·subst e;rw[if_pos rfl,hl];exact this
  ·rw[if_neg e];exact this
 ·have:=h.cells i hi;simp only[ST.setL];by_cases e:i=id
  ·subst e;rw[if_pos rfl,hl];exact⟨this.1,hx⟩
  ·rw[if_neg e];exact this
theorem zz6{S:ST}(h:S.WF)(id:Nat)(hk:CurK S id 3)(l:List Int)(hl:l.length<=1000)(hx:∀x∈l,I64 x):(S.setL id l).WF:=by
 obtain⟨kd,h1,h2,h3⟩:=h.ex;have hc:S.cur.WF kd S.nc:=by
  rcases Nat.eq_zero_or_pos S.calls.length with h0|h0
  ·rw[zne h0];exact h1
  ·rw[znd h0];exact h2 _ (List.getElem_mem _)
 have hk3:=(hk.kd hc).1;refine⟨⟨kd,h1,h2,fun i hi=>?_⟩,h.ncalls,fun i hi=>?_,h.tin,h.tout⟩
 ·have:=h3 i hi;simp only[ST.setL];by_cases e:i=id
  ·subst e;rw[if_pos rfl];exact⟨fun e=>by omega,fun e=>by omega,.inr (.inr hk3)⟩
  ·rw[if_neg e];exact this
 ·have:=h.cells i hi;simp only[ST.setL];by_cases e:i=id
  ·subst e;rw[if_pos rfl];exact⟨hl,hx⟩
  ·rw[if_neg e];exact this
theorem zqD{S:ST}(h:S.WF){id:Nat}(hid:id<S.nc)(i:Nat):I64 (S.el id i):=by
 unfold ST.el;rcases Nat.lt_or_ge i (S.cell id).length with hi|hi
 ·rw[List.getD_eq_getElem?_getD,List.getElem?_eq_getElem hi];exact(h.cells id hid).2 _ (List.getElem_mem hi)
 ·rw[List.getD_eq_getElem?_getD,List.getElem?_eq_none hi];exact⟨by decide,by decide⟩
theorem zz7{S:ST}(h:S.WF){id:Nat}(hid:id<S.nc)(i:Nat)(x:Int)(hx:I64 x):(S.put id i x).WF :=
 zy6 h id _ (by simp) fun y hy=>by
  rcases List.mem_or_eq_of_mem_set hy with hy|rfl
  ·exact(h.cells id hid).2 y hy
  ·exact hx
def Ph.gI(P:Ph)(id:Nat):Nat:=(P.ci id).ownBlock.getD 0
def Ph.setI(P:Ph)(id:Nat)(vv:Value):Ph:={ P with ci:=fun j=>if j=id then vv else P.ci j }
theorem zuD(l:List Int)(i:Nat)(x:Int):zki (l.set i x)=(zki l).set i (.int .i64 x):=by simp[zki,List.map_set]
theorem zrT(P:Ph)(S:ST)(id i:Nat)(x:Int)(hid:id<S.nc):rows P (S.put id i x)=updR (rows P S) (.ci id) { rows P S (.ci id)with xs:=(rows P S (.ci id)).xs.set i (.int .i64 x) }:=by
 funext r
 cases r with
 | ci j =>
  by_cases e:j=id
  ·subst e;simp[updR,rows,ST.put,ST.setL,hid,zuD]
  ·simp[updR,rows,ST.put,ST.setL,e]
 | cb j=>rfl
 | _=>simp[updR,rows,ST.put,ST.setL]
theorem ztC(P:Ph)(S:ST)(id:Nat)(vv:Value)(l:List Int)(hid:id<S.nc):rows (P.setI id vv) (S.setL id l)=updR (updR (rows P S) (.ci id) ⟨vv,3,1,l.length,zki l⟩) (.cb id) { rows P S (.cb id)with xs:=(rows P S (.cb id)).xs.set 0 vv }:=by
 funext r
 cases r with
 | ci j =>
  by_cases e:j=id
  ·subst e;simp[updR,rows,Ph.setI,ST.setL,hid]
  ·simp[updR,rows,Ph.setI,ST.setL,e]
 | cb j =>
  by_cases e:j=id
  ·subst e;simp[updR,rows,Ph.setI,ST.setL,hid]
  ·simp[updR,rows,Ph.setI,ST.setL,e]
 | calls=>simp only[updR,reduceCtorEq,if_false,rows,ST.setL];rw[zln (P:=P) (P':=P.setI id vv) rfl rfl];rfl
 | _=>simp[updR,rows,Ph.setI,ST.setL]
section
variable {W:World} {n0:Nat} {P:Ph} {S:ST}
theorem SR.plc(h:SR W n0 P S){id i:Nat}(hid:id<S.nc)(hi:i<(S.cell id).length):(∃c,P.ci id=.slice (some ⟨P.gI id,0,none⟩) (S.cell id).length c/\(S.cell id).length<=c)/\W.cell? ⟨P.gI id,i,none⟩=some (.int .i64 (S.el id i))/\W.frozen? ⟨P.gI id,i,none⟩=false:=by
 have hr:=h.rws.row (.ci id);simp only[rows,hid,if_true]at hr;obtain⟨g,c,hv,hc,_,hcell⟩:=zk7 hr (by omega);have hg:P.gI id=g:=by simp[Ph.gI,hv,Value.ownBlock]
 refine⟨⟨c,by rw[hg];exact hv,hc⟩,?_,?_⟩
 ·rw[hg,hcell i (by omega)];simp[zki,ST.el,hi]
 ·exact h.rws.frozen (.ci id) (by simp only[rows,hid,if_true];rw[hv,hg];rfl) i
theorem SR.own(h:SR W n0 P S){id i:Nat}(hid:id<S.nc)(hi:i<(S.cell id).length):(rows P S (.ci id)).v.ownBlock=some (P.gI id):=by
 obtain⟨⟨c,hv,_⟩,_⟩:=h.plc hid hi;simp only[rows,hid,if_true];rw[hv];rfl
theorem SR.put(h:SR W n0 P S){id i:Nat}(hid:id<S.nc)(hi:i<(S.cell id).length)(x:Int)(hx:I64 x):SStp n0 P S W P (S.put id i x) (W.setCell ⟨P.gI id,i,none⟩ (.int .i64 x)):=by
 refine⟨?_,zz7 h.wf hid i x hx⟩;have:=Stp.set (i:=Res.ci id) h.rws (g:=P.gI id) (h.own hid hi) (o:=i) (by simp only[rows,hid,if_true,zkt];exact hi) (.int .i64 x);exact this.cast (zrT P S id i x hid).symm
end
theorem SR.stk{W W2:World}{n0:Nat}{P:Ph}{S:ST}(h:SR W n0 P S)(aj:Nat)(hs:CurK S aj 3)(l:List Int)(vv:Value)(hl:l.length<=1000)(hx:∀x∈l,I64 x)(hc:Chg (fun b=>(P.ci aj).ownBlock=some b) W W2)(ho:W2.ownsRow n0 3 1 vv l.length (zki l))(aY:∀b,vv.ownBlock=some b->(P.ci aj).ownBlock=some b\/W.heap.size<=b) :
  W2.cell? ⟨P.cb aj,0,none⟩=some (P.ci aj)/\W2.frozen? ⟨P.cb aj,0,none⟩=false/\SStp n0 P S W (P.setI aj vv) (S.setL aj l) (W2.setCell ⟨P.cb aj,0,none⟩ vv):=by
 have hid:=hs.lt h.wf;have ev:(rows P S (.ci aj)).v=P.ci aj:=by simp only[rows,hid,if_true]
 have s1:=Stp.upd (i:=Res.ci aj) (r:=⟨vv,3,1,l.length,zki l⟩) h.rws (hc.mono fun b _ hb=>by rw[ev];exact hb) ho (fun b hb=>by rw[ev];exact aY b hb);have eb:updR (rows P S) (.ci aj) ⟨vv,3,1,l.length,zki l⟩ (.cb aj)=rows P S (.cb aj):=zkl (by simp);have xI:rows P S (.cb aj)=⟨boxV (P.cb aj),171,1,1,[P.ci aj]⟩:=by simp only[rows,hid,if_true]
 have s2:=Stp.set (i:=Res.cb aj) s1.rws (g:=P.cb aj) (by rw[eb,xI];rfl) (o:=0) (by rw[eb,xI];exact Nat.one_pos) vv;rw[eb]at s2;refine⟨s1.rws.cell (.cb aj) (g:=P.cb aj) (o:=0) (by rw[eb,xI];rfl) (by rw[eb,xI];rfl),s1.rws.frozen (.cb aj) (g:=P.cb aj) (by rw[eb,xI];rfl) 0,⟨(s1.trans s2).cast (ztC P S aj vv l hid).symm,zz6 h.wf aj hs l hl hx⟩⟩
theorem zzB:(prog.info? 3).map (fun i=>(i.zero,i.size,i.bytes))=some (some (.int .i64 0),1,8):=znA
theorem zwi{W:World}{n0:Nat}{P:Ph}{S:ST}(h:SR W n0 P S)(k:Int)(hk:k=44\/k=45)(id i aj:Nat)(hid:id<S.nc)(hi:i<(S.cell id).length)(hs:CurK S aj 3)(hne:id≠aj) :
  Calls prog 174 #[.int .u8 k,.pointer (some ⟨P.gI id,i,none⟩),.pointer (some ⟨P.cb aj,0,none⟩)] W fun e W'=>e=.returned (.int .i64 (znN S k id i aj).1)/\∃P',SStp n0 P S W P' (znN S k id i aj).2 W'/\P'.sb=P.sb:=by
 have dZ:=hs.lt h.wf;obtain⟨R,hR⟩:=zX (znN S k id i aj);rw[hR];have HRR:=zh hR;have HS:=zh h;have HK:=zh hs;obtain⟨A,c,hci,hc,aX⟩:=h.items dZ;have hcs:=h.wf.cells aj dZ;have x0:W.cell? ⟨P.cb aj,0,none⟩=some (.slice A (S.cell aj).length c):=by rw[<-hci];exact zc (h.cbox dZ) rfl
 obtain⟨-,p0,p1⟩:=h.plc hid hi;obtain⟨x,hx⟩:=zX (S.el id i);rw[hx]at p0;have HX:=zh hx;obtain⟨L,hL⟩:=zX ((S.cell aj).length);rw[hL]at x0;have HL:=zh hL;have hL1:L<=1000:=by rw[<-hL];exact hcs.1
 have yw:=zh hci;have bZ:=zh aX;clear h hs hci aX hx hL hR hc;rcases hk with rfl|rfl
 ·by_cases hf:1000<=L
  ·have HN:=zh (show R=(5,S) by rw[<-HRR.out,znN,if_pos rfl,if_pos (by rw[HL.out];exact hf)]);obtain rfl:L=1000:=by omega
   go_enter func174,ntmps174;go_wp2_with fail;go_ret;exact⟨by rw[HN.out];rfl,P,by rw[HN.out];exact SStp.refl HS.out zr,rfl⟩
  ·have HN:=zh (show R=(0,(S.setL aj (S.cell aj++[x])).put id i 0) by rw[<-HRR.out,znN,if_pos rfl,if_neg (by rw[HL.out];exact hf),HX.out]);have hf1:¬ (1000:Int)<=(L:Int):=by omega
   obtain⟨i1,hi1,hz0,hz1,hz2⟩:=info_parts zzB;have hbi:=zoD;have yC:I64 x:=by rw[<-HX.out];exact zqD HS.out.wf hid i
   clear HRR;go_enter func174,ntmps174;go_upto_region 7 with fail;have hSS:(fun w':World=>zv w' (P.gI id) i (.int .i64 x)) W.drew/\(fun w':World=>zv w' (P.cb aj) 0 (.slice A L c)) W.drew:=⟨p0,x0⟩
   refine wp_region_noPanic ?_;refine zkk (fun w':World=>zv w' (P.gI id) i (.int .i64 x)) (fun w':World=>zv w' (P.cb aj) 0 (.slice A L c)) 9 (by kernel_rfl) ?_;refine zT 0 hSS ?_;refine zT 1 hSS ?_;refine zT 2 hSS ?_;refine zT 3 hSS ?_;refine zJ 4 hSS ?_;refine zT 5 hSS ?_;refine zT 6 hSS ?_;refine zT 7 hSS ?_;refine zo 8 fun K hK=>?_;(try simp only[zA,zB,zC]);go_simp;refine hK.out _ _ ⟨zkj p0 _,zkj x0 _⟩ ?_;clear hK K hSS;(try simp only[zQ]);obtain⟨W2,hW2⟩:=zX ((W.alloc (.cells #[.int .i64 x] 3)).drew);have hb2:Below W.heap.size W W2:=hW2▸(zkb zr _).drew;have aG:=zh (show ∀j u,[Value.int .i64 x][j]?=some u->W2.cell? ((⟨W.heap.size,0,none⟩:Addr).add j)=some u from hW2▸zkR W 3 [.int .i64 x]);have wX:W2.ownsRow n0 3 1 (.slice A L c) L (zki (S.cell aj)):=by
    have:=zkJ (HS.out.rws.row (.ci aj)) hb2;simp only[rows,dZ,if_true]at this;rw[yw.out,HL.out]at this;exact this
   have hs2:=hb2.size;have d0:=zb hb2 p0;have hn0:=(HS.out.rws.lt .sb P.sb rfl)
   have HST:=zh (fun w3 vv=>SR.stk (W2:=w3) (HS.out.later hb2) aj HK.out (S.cell aj++[x]) vv (by rw[List.length_append,HL.out];simp;omega) (fun y hy=>by
    simp only[List.mem_append,List.mem_singleton]at hy;rcases hy with hy|rfl
    ·exact(hcs.2 y hy)
    ·exact yC))
   rw[hW2];have hnb:∀b,(P.ci aj).ownBlock=some b->b≠P.gI id:=fun b hb e=>by
    have h1:=HS.out.own hid hi;rw[<-e]at h1;exact HS.out.rws.sep (.ci id) (.ci aj) b (by simpa using hne) h1 (by simp only[rows,dZ,if_true];exact hb)
   rw[yw.out]at HST hnb;rw[HL.out]at HST hnb;have qw:=zh hnb;have dE:=zh hb2;clear hW2 hnb hb2;refine zp 9 fun K hK=>?_;refine zkT (by rfl) (.tmp 47) (.tmp 51) 42 (by rfl) n0 3 i1 _ 1 8 underlying42 hi1 hz0 hz1 hz2 rfl (by decide) (.slice A L c) L (zki (S.cell aj)) (by rfl) wX ⟨W.heap.size,0,none⟩ 1 1 [.int .i64 x] (by rfl) rfl aG.out (by intro u hu;simp at hu;subst hu;rfl) (by unfold maxLen;omega) (by omega) (by omega) ?_;intro v' w3 h2 h3 h5;obtain⟨g8,aA,rfl⟩:=ownsRow_succ h2;have hll:(S.cell aj++[x]).length=L+1:=by rw[List.length_append,HL.out];rfl
   obtain⟨z0,zf,hfin⟩:=HST.out w3 _ (Chg.row h3) (by rw[hll,zmy];exact h2) (fun b hb=>by
    rcases h5 with h5|h5
    ·exact .inl (h5▸hb)
    ·exact .inr (by rw[h5]at hb;injection hb with hb;omega))
   have y0:w3.cell? ⟨P.gI id,i,none⟩=some (.int .i64 x):=zkX (Chg.row h3) d0 (fun e=>qw.out _ e rfl);have hput:=SR.put (hfin.sr) (id:=id) (i:=i) hid (by show i<((S.setL aj _).cell id).length;simp only[ST.setL,if_neg hne];exact hi) 0 ⟨by decide,by decide⟩;have hgi:(P.setI aj (.slice (some ⟨g8,0,none⟩) (L+1) aA)).gI id=P.gI id:=by simp[Ph.gI,Ph.setI,hne]
   rw[hgi]at hput;have mQ:P.cb aj≠P.gI id:=fun e=>by
    have h1:=HS.out.own hid hi;exact HS.out.rws.sep (.ci id) (.cb aj) (P.gI id) (by simp) h1 (by simp only[rows,dZ,if_true];rw[e];rfl)
   have y1:(w3.setCell ⟨P.cb aj,0,none⟩ (.slice (some ⟨g8,0,none⟩) (L+1) aA)).cell? ⟨P.gI id,i,none⟩=some (.int .i64 x):=(World.cell?_setCell_far _ _ _ _ mQ).trans y0;have aW:=zh (hfin.trans hput);have hfr:=hfin.sr.plc (id:=id) (i:=i) hid (by show i<((S.setL aj _).cell id).length;simp only[ST.setL,if_neg hne];exact hi);rw[hgi]at hfr;have yf:=hfr.2.2;refine hK.out _ _ y0 ?_;clear hK K h2 h3 h5 hfin hput wX aG d0 hfr;(try simp only[zQ]);refine zp 10 fun K hK=>?_;(try simp only[zA,zB,zC]);go_simp;refine hK.out _ _ y0 ?_;clear hK K;(try simp only[zQ]);refine zp 11 fun K hK=>?_;(try simp only[zA,zB,zC]);go_simp;refine hK.out _ _ y0 ?_;clear hK K;(try simp only[zQ]);refine zp 12 fun K hK=>?_;(try simp only[zA,zB,zC]);go_simp;refine hK.out _ _ y1 ?_;clear hK K;(try simp only[zQ]);refine zd ?_;refine NoPanic.normal ?_
   obtain⟨w4,hw4⟩:=zX (w3.setCell ⟨P.cb aj,0,none⟩ (.slice (some ⟨g8,0,none⟩) (L+1) aA));rw[hw4]at y1 yf aW ⊢;clear hw4 z0 zf y0;go_wp2_with fail;go_ret;refine⟨by rw[HN.out];rfl,P.setI aj (.slice (some ⟨g8,0,none⟩) (L+1) aA),?_,rfl⟩;rw[HN.out];exact⟨aW.out.st.after dE.out HS.out.rws,aW.out.wf⟩
 ·rcases Nat.eq_zero_or_pos L with h0|h0
  ·subst h0;have HN:=zh (show R=(13,S) by rw[<-HRR.out,znN,if_neg (by decide),if_pos HL.out]);go_enter func174,ntmps174;go_wp2_with fail;go_ret;exact⟨by rw[HN.out];rfl,P,by rw[HN.out];exact SStp.refl HS.out zr,rfl⟩
  ·obtain⟨m,rfl⟩:∃m,L=m+1:=⟨L-1,by omega⟩
   have hm0:¬ ((m:Int)+1=0):=by omega
   have hm1:(((m:Int)+1)==0)=false:=by simpa using hm0
   by_cases hx0:x=0
   ·subst hx0;obtain⟨a,rfl,hz⟩:=bZ.out.nd (i:=m) (by rw[HL.out];omega);obtain⟨y,hy⟩:=zX ((S.cell aj).getD m 0);rw[hy]at hz;have HN:=zh (show R=(0,(S.put id i y).setL aj ((S.cell aj).take m)) by
     rw[<-HRR.out,znN,if_neg (by decide),if_neg (by rw[HL.out];omega),if_neg (by rw[HX.out];simp),HL.out];rw[show S.el aj (m+1-1)=y from hy];rfl)
    have rM:I64 y:=by rw[<-hy];exact zqD HS.out.wf dZ m
    have s1:=HS.out.put hid hi y rM;obtain⟨g,c2,hv2,hc2,hm2,hcell2⟩:=zk7 (HS.out.rws.row (.ci aj)) (by simp only[rows,dZ,if_true];rw[HL.out];omega);simp only[rows,dZ,if_true]at hv2 hc2;rw[HL.out]at hc2;rw[yw.out]at hv2;injection hv2 with a1 a2 a3;injection a1 with a1;subst a1 a3;rw[Addr.add_lit,Nat.zero_add]at hz;have mQ:P.cb aj≠P.gI id:=fun e=>by
     have h1:=HS.out.own hid hi;exact HS.out.rws.sep (.ci id) (.cb aj) (P.gI id) (by simp) h1 (by simp only[rows,dZ,if_true];rw[e];rfl)
    have x1:(W.setCell ⟨P.gI id,i,none⟩ (.int .i64 y)).cell? ⟨P.cb aj,0,none⟩=some (.slice (some ⟨g,0,none⟩) (m+1) c):=(World.cell?_setCell_far _ _ _ _ (Ne.symm mQ)).trans x0;have hrow1:(W.setCell ⟨P.gI id,i,none⟩ (.int .i64 y)).ownsRow n0 3 1 (.slice (some ⟨g,0,none⟩) m c) m (zki ((S.cell aj).take m)):=by
     have:=s1.st.rws.row (.ci aj);have e1:rows P (S.put id i y) (.ci aj)=⟨.slice (some ⟨g,0,none⟩) (m+1) c,3,1,m+1,zki (S.cell aj)⟩:=by
      rw[zrT P S id i y hid,zkl (by simpa using Ne.symm hne)];simp only[rows,dZ,if_true];rw[yw.out,HL.out]
     rw[e1]at this;have e2:zki (S.cell aj)=zki ((S.cell aj).take m)++(zki (S.cell aj)).drop (m*1):=by rw[Nat.mul_one,zki,zki,List.map_take,List.take_append_drop]
     dsimp only at this;rw[e2]at this;exact ownsRow_pop (by rw[zkt,List.length_take,HL.out];omega) this
    have hltm:((S.cell aj).take m).length=m:=by rw[List.length_take,HL.out];omega
    have hcell1:(S.put id i y).cell aj=S.cell aj:=by simp[ST.put,ST.setL,Ne.symm hne]
    obtain⟨z0,zf,hfin⟩:=SR.stk (W2:=W.setCell ⟨P.gI id,i,none⟩ (.int .i64 y)) s1.sr aj HK.out ((S.cell aj).take m) (.slice (some ⟨g,0,none⟩) m c) (by omega) (fun q hq=>hcs.2 q (List.mem_of_mem_take hq)) (Chg.refl _ _) (by rw[hltm];exact hrow1) (fun b hb=>.inl (by rw[yw.out];exact hb));have aW:=zh (s1.trans hfin);have hw1:IntKind.i64.wrap (m:Int)=(m:Int):=IntWalk.i64_in _ (by omega);have hmc:(m:Int)<=(c:Int):=by omega
    have hmm:(m:Int)<(m:Int)+1:=by omega
    clear s1 hfin hrow1 z0 hcell2 HRR;go_enter func174,ntmps174;go_wp2_with fail;go_ret;refine⟨by rw[HN.out];rfl,P.setI aj (.slice (some ⟨g,0,none⟩) m c),?_,rfl⟩;rw[HN.out];exact aW.out
   ·have HN:=zh (show R=(14,S) by rw[<-HRR.out,znN,if_neg (by decide),if_neg (by rw[HL.out];omega),if_pos (by rw[HX.out];exact hx0)]);have hx1:(x != 0)=true:=by simpa using hx0
    have hx2:(x==0)=false:=by simpa using hx0
    go_enter func174,ntmps174;go_wp2_with fail;go_ret;exact⟨by rw[HN.out];rfl,P,by rw[HN.out];exact SStp.refl HS.out zr,rfl⟩
theorem zuw:IsFn prog 183 f183:=⟨func183,by kernel_rfl,by kernel_rfl⟩
theorem zwz:IsFn prog 185 f185:=⟨func185,by kernel_rfl,by kernel_rfl⟩
theorem SR.tp{W:World}{n0:Nat}{P:Ph}{S:ST}(h:SR W n0 P S):W.cell? ⟨P.sb,4,none⟩=some (.pointer (some ⟨P.tb,0,none⟩)):=zc h.box rfl
theorem zp8{W:World}{n0:Nat}{P:Ph}{S:ST}(h:SR W n0 P S)(k:Int)(hk:k=46\/k=49\/k=47\/k=48)(id i:Nat)(hid:id<S.nc)(hi:i<(S.cell id).length) :
  Calls prog 175 #[.pointer (some ⟨P.sb,0,none⟩),.int .u8 k,.pointer (some ⟨P.gI id,i,none⟩)] W fun e W'=>e=.returned (.int .i64 (zlv S k id i).1)/\∃P',SStp n0 P S W P' (zlv S k id i).2 W'/\P'.sb=P.sb:=by
 obtain⟨R,hR⟩:=zX (zlv S k id i);rw[hR];have HRR:=zh hR;have HS:=zh h;have x4:=h.tp;obtain⟨-,p0,p1⟩:=h.plc hid hi;obtain⟨x,hx⟩:=zX (S.el id i);rw[hx]at p0;have HX:=zh hx;have yC:I64 x:=by rw[<-hx];exact zqD h.wf hid i
 clear hR hx h;rcases hk with rfl|rfl|rfl|rfl
 ·have oz:=zh (zxk HS.out);go_enter func175,ntmps175;go_wp2_with fail;refine oz.out.mono ?_;rintro e w1 hh;rcases hh with⟨h0,rfl,hb⟩|⟨y,r,h0,rfl,vv,hst⟩
  ·have HN:=zh (show R=(17,S) by rw[<-HRR.out,zlv,if_pos rfl,h0]);have HB:=zh hb;clear h0 hb;go_wp2_with fail;go_ret;exact⟨by rw[HN.out];rfl,P,by rw[HN.out];exact SStp.refl HS.out HB.out,rfl⟩
  ·have ht:=HS.out.wf.tin;rw[h0]at ht;have rM:I64 y:=ht.2 y (List.mem_cons_self ..);have y4:w1.cell? ⟨P.sb,4,none⟩=some (.pointer (some ⟨P.tb,0,none⟩)):=hst.sr.tp;obtain⟨-,r0,r1⟩:=hst.sr.plc (id:=id) (i:=i) hid hi;have r0':w1.cell? ⟨P.gI id,i,none⟩=some (.int .i64 x):=by rw[<-HX.out];exact r0
   have r1':w1.frozen? ⟨P.gI id,i,none⟩=false:=r1;by_cases hx0:x=0
   ·subst hx0;have HN:=zh (show R=(0,({ S with tin:=r }:ST).put id i y) by rw[<-HRR.out,zlv,if_pos rfl,h0];dsimp only;rw[HX.out];simp);have nK:=zh (hst.trans (hst.sr.put (id:=id) (i:=i) hid hi y rM));clear h0 hst ht r0 r1;go_wp2_with fail;go_ret;exact⟨by rw[HN.out];rfl,{ P with vI:=vv },by rw[HN.out];exact nK.out,rfl⟩
   ·have HN:=zh (show R=(14,S) by rw[<-HRR.out,zlv,if_pos rfl,h0];dsimp only;rw[HX.out,if_pos hx0]);have hx1:(x != 0)=true:=by simpa using hx0
    have hx2:(x==0)=false:=by simpa using hx0
    have BU:=zh (zpq hst.sr y rM);have hrl:¬ 4096<=r.length:=by have:=ht.1;simp at this;omega
    have HST:=zh hst;have H0:=zh h0;clear h0 hst ht r0 r1;go_wp2_with fail;refine BU.out.mono ?_;rintro e w2 hh;rcases hh with⟨h1,rfl,hb⟩|⟨h1,rfl,zY,iy⟩
    ·exact absurd h1 hrl
    ·have HS2:=zh iy;clear h1 iy;go_wp2_with fail;go_ret;refine⟨by rw[HN.out];rfl,{ P with vI:=zY },?_,rfl⟩;rw[HN.out];have h3:=HST.out.trans HS2.out;have e3:({ { S with tin:=r } with tin:=y::({ S with tin:=r }:ST).tin }:ST)=S:=by
      show({ S with tin:=y::r }:ST)=S
      rw[<-H0.out]
     rw[e3]at h3;exact h3
 ·have oz:=zh (zrv HS.out);go_enter func175,ntmps175;go_wp2_with fail;refine oz.out.mono ?_;rintro e w1 hh;rcases hh with⟨h0,rfl,hb⟩|⟨r,y,h0,rfl,vv,hst⟩
  ·have HN:=zh (show R=(17,S) by rw[<-HRR.out,zlv,if_neg (by decide),if_pos rfl,if_pos h0]);have HB:=zh hb;clear h0 hb;go_wp2_with fail;go_ret;exact⟨by rw[HN.out];rfl,P,by rw[HN.out];exact SStp.refl HS.out HB.out,rfl⟩
  ·have ht:=HS.out.wf.tout;rw[h0]at ht;have rM:I64 y:=ht.2 y (by simp);have hne:S.tout≠[]:=by rw[h0];simp
   have hdl:S.tout.dropLast=r:=by rw[h0];simp
   have hgl:S.tout.getLast?.getD 0=y:=by rw[h0];simp
   have y4:w1.cell? ⟨P.sb,4,none⟩=some (.pointer (some ⟨P.tb,0,none⟩)):=hst.sr.tp;obtain⟨-,r0,r1⟩:=hst.sr.plc (id:=id) (i:=i) hid hi;have r0':w1.cell? ⟨P.gI id,i,none⟩=some (.int .i64 x):=by rw[<-HX.out];exact r0
   have r1':w1.frozen? ⟨P.gI id,i,none⟩=false:=r1;by_cases hx0:x=0
   ·subst hx0;have HN:=zh (show R=(0,({ S with tout:=r }:ST).put id i y) by rw[<-HRR.out,zlv,if_neg (by decide),if_pos rfl,if_neg hne,hdl,hgl,HX.out];simp);have nK:=zh (hst.trans (hst.sr.put (id:=id) (i:=i) hid hi y rM));clear h0 hst ht r0 r1 hne hdl hgl;go_wp2_with fail;go_ret;exact⟨by rw[HN.out];rfl,{ P with vO:=vv },by rw[HN.out];exact nK.out,rfl⟩
   ·have HN:=zh (show R=(14,S) by rw[<-HRR.out,zlv,if_neg (by decide),if_pos rfl,if_neg hne,HX.out,if_pos hx0]);have hx1:(x != 0)=true:=by simpa using hx0
    have hx2:(x==0)=false:=by simpa using hx0
    have BU:=zh (zqL hst.sr y rM);have hrl:¬ 4096<=r.length:=by have:=ht.1;simp at this;omega
    have HST:=zh hst;have H0:=zh h0;clear h0 hst ht r0 r1 hne hdl hgl;go_wp2_with fail;refine BU.out.mono ?_;rintro e w2 hh;rcases hh with⟨h1,rfl,hb⟩|⟨h1,rfl,zY,iy⟩
    ·exact absurd h1 hrl
    ·have HS2:=zh iy;clear h1 iy;go_wp2_with fail;go_ret;refine⟨by rw[HN.out];rfl,{ P with vO:=zY },?_,rfl⟩;rw[HN.out];have h3:=HST.out.trans HS2.out;have e3:({ { S with tout:=r } with tout:=({ S with tout:=r }:ST).tout++[y] }:ST)=S:=by
      show({ S with tout:=r++[y] }:ST)=S
      rw[<-H0.out]
     rw[e3]at h3;exact h3
 ·skip
  have had:Calls prog 183 [.pointer (some ⟨P.tb,0,none⟩),.int .i64 x].toArray W.drew fun e W'=>∃u,e=.returned u/\∃y,u=.int .i64 y /\
    ((y=5/\R=(5,S)/\Below W.heap.size W W')\/(y=0/\R=(0,({ S with tin:=x::S.tin }:ST).put id i 0)/\∃vv,SStp n0 P S W { P with vI:=vv } ({ S with tin:=x::S.tin }:ST) W')):=by
   refine(zpq (HS.out.later zr.drew) x yC).mono ?_;rintro e W' hh;rcases hh with⟨h0,rfl,hb⟩|⟨h0,rfl,vv,hst⟩
   ·exact⟨_,rfl,5,rfl,.inl ⟨rfl,by rw[<-HRR.out,zlv,if_neg (by decide),if_neg (by decide),if_pos rfl,if_pos h0],zka zr.drew hb⟩⟩
   ·exact⟨_,rfl,0,rfl,.inr ⟨rfl,by rw[<-HRR.out,zlv,if_neg (by decide),if_neg (by decide),if_pos rfl,if_neg (by omega),HX.out],vv,⟨hst.st.after zr.drew HS.out.rws,hst.wf⟩⟩⟩
  go_enter func175,ntmps175;go_upto_region 17 with fail;have hSS:zW (fun w':World=>zv w' P.sb 4 (.pointer (some ⟨P.tb,0,none⟩))/\zv w' (P.gI id) i (.int .i64 x)) zU W.drew:=⟨⟨x4,p0⟩,trivial⟩
  refine wp_region_noPanic ?_;refine zG hSS 7 ?_;refine zT 0 hSS ?_;refine zT 1 hSS ?_;refine zT 2 hSS ?_;refine zT 3 hSS ?_;refine zT 4 hSS ?_;refine zT 5 hSS ?_;refine zT 6 hSS ?_;refine zp 7 fun K hK=>?_;refine zke (by rfl) (.func 183) [.tmp 72,.tmp 75] _ (by rfl) 183 _ zuw (by rfl) _ (by rfl) _ had ?_;rintro v4 w4 ⟨y,rfl,hh⟩;have HH:=zh hh;have mU:w4.cell? ⟨P.sb,4,none⟩=some (.pointer (some ⟨P.tb,0,none⟩))/\w4.cell? ⟨P.gI id,i,none⟩=some (.int .i64 x)/\w4.frozen? ⟨P.gI id,i,none⟩=false:=by
   rcases hh with⟨_,_,hb⟩|⟨_,_,vv,hst⟩
   ·exact⟨zb hb x4,zb hb p0,((HS.out.later hb).plc hid hi).2.2⟩
   ·have h9:=hst.sr.plc (id:=id) (i:=i) hid hi;exact⟨hst.sr.tp,by rw[<-HX.out];exact h9.2.1,h9.2.2⟩
  obtain⟨b4,b5,b6⟩:=mU;refine hK.out _ _ ⟨b4,b5⟩ ?_;clear hK K hSS had hh;(try simp only[zQ]);refine zp 8 fun K hK=>?_;(try simp only[zA,zB,zC]);go_simp;refine hK.out _ _ ⟨b4,b5⟩ ?_;clear hK K;(try simp only[zQ]);refine zd ?_;refine NoPanic.normal ?_;rcases HH.out with⟨rfl,h1,hb⟩|⟨rfl,h1,vv,hst⟩
  ·have HN:=zh h1;have HB:=zh hb;clear HH h1 hb;go_wp2_with fail;go_ret;exact⟨by rw[HN.out];rfl,P,by rw[HN.out];exact SStp.refl HS.out HB.out,rfl⟩
  ·have HN:=zh h1;have nK:=zh (hst.trans (hst.sr.put (id:=id) (i:=i) hid hi 0 ⟨by decide,by decide⟩));clear HH h1 hst;go_wp2_with fail;go_ret;exact⟨by rw[HN.out];rfl,{ P with vI:=vv },by rw[HN.out];exact nK.out,rfl⟩
 ·skip
  have had:Calls prog 185 [.pointer (some ⟨P.tb,0,none⟩),.int .i64 x].toArray W.drew fun e W'=>∃u,e=.returned u/\∃y,u=.int .i64 y /\
    ((y=5/\R=(5,S)/\Below W.heap.size W W')\/(y=0/\R=(0,({ S with tout:=S.tout++[x] }:ST).put id i 0)/\∃vv,SStp n0 P S W { P with vO:=vv } ({ S with tout:=S.tout++[x] }:ST) W')):=by
   refine(zqL (HS.out.later zr.drew) x yC).mono ?_;rintro e W' hh;rcases hh with⟨h0,rfl,hb⟩|⟨h0,rfl,vv,hst⟩
   ·exact⟨_,rfl,5,rfl,.inl ⟨rfl,by rw[<-HRR.out,zlv,if_neg (by decide),if_neg (by decide),if_neg (by decide),if_pos h0],zka zr.drew hb⟩⟩
   ·exact⟨_,rfl,0,rfl,.inr ⟨rfl,by rw[<-HRR.out,zlv,if_neg (by decide),if_neg (by decide),if_neg (by decide),if_neg (by omega),HX.out],vv,⟨hst.st.after zr.drew HS.out.rws,hst.wf⟩⟩⟩
  go_enter func175,ntmps175;go_upto_region 19 with fail;have hSS:zW (fun w':World=>zv w' P.sb 4 (.pointer (some ⟨P.tb,0,none⟩))/\zv w' (P.gI id) i (.int .i64 x)) zU W.drew:=⟨⟨x4,p0⟩,trivial⟩
  refine wp_region_noPanic ?_;refine zG hSS 7 ?_;refine zT 0 hSS ?_;refine zT 1 hSS ?_;refine zT 2 hSS ?_;refine zT 3 hSS ?_;refine zT 4 hSS ?_;refine zT 5 hSS ?_;refine zT 6 hSS ?_;refine zp 7 fun K hK=>?_;refine zke (by rfl) (.func 185) [.tmp 82,.tmp 85] _ (by rfl) 185 _ zwz (by rfl) _ (by rfl) _ had ?_;rintro v4 w4 ⟨y,rfl,hh⟩;have HH:=zh hh;have mU:w4.cell? ⟨P.sb,4,none⟩=some (.pointer (some ⟨P.tb,0,none⟩))/\w4.cell? ⟨P.gI id,i,none⟩=some (.int .i64 x)/\w4.frozen? ⟨P.gI id,i,none⟩=false:=by
   rcases hh with⟨_,_,hb⟩|⟨_,_,vv,hst⟩
   ·exact⟨zb hb x4,zb hb p0,((HS.out.later hb).plc hid hi).2.2⟩
   ·have h9:=hst.sr.plc (id:=id) (i:=i) hid hi;exact⟨hst.sr.tp,by rw[<-HX.out];exact h9.2.1,h9.2.2⟩
  obtain⟨b4,b5,b6⟩:=mU;refine hK.out _ _ ⟨b4,b5⟩ ?_;clear hK K hSS had hh;(try simp only[zQ]);refine zp 8 fun K hK=>?_;(try simp only[zA,zB,zC]);go_simp;refine hK.out _ _ ⟨b4,b5⟩ ?_;clear hK K;(try simp only[zQ]);refine zd ?_;refine NoPanic.normal ?_;rcases HH.out with⟨rfl,h1,hb⟩|⟨rfl,h1,vv,hst⟩
  ·have HN:=zh h1;have HB:=zh hb;clear HH h1 hb;go_wp2_with fail;go_ret;exact⟨by rw[HN.out];rfl,P,by rw[HN.out];exact SStp.refl HS.out HB.out,rfl⟩
  ·have HN:=zh h1;have nK:=zh (hst.trans (hst.sr.put (id:=id) (i:=i) hid hi 0 ⟨by decide,by decide⟩));clear HH h1 hst;go_wp2_with fail;go_ret;exact⟨by rw[HN.out];rfl,{ P with vO:=vv },by rw[HN.out];exact nK.out,rfl⟩
theorem zs0(k x y:Int)(hk:k=40\/k=41\/k=42)(w:World):Calls prog 173 #[.int .u8 k,.int .i64 x,.int .i64 y] w fun e w'=>e=.returned (.tuple #[.int .i64 (updE k x y),.int .i64 0])/\w'=w:=by
 rcases hk with rfl|rfl|rfl
 ·rw[show updE 40 x y=wrap64 (x+y) by simp[updE]];go_enter func173,ntmps173;go_wp2_with fail;go_ret2;exact⟨rfl,rfl⟩
 ·rw[show updE 41 x y=wrap64 (x-y) by simp[updE]];go_enter func173,ntmps173;go_wp2_with fail;go_ret2;exact⟨rfl,rfl⟩
 ·rw[show updE 42 x y=bits BinOp.xor IntKind.i64 x y by simp[updE]];go_enter func173,ntmps173;go_wp2_with fail;go_ret2;exact⟨rfl,rfl⟩
theorem ztd(x:Int):I64 (IntKind.i64.wrap x):=by
 rw[IntKind.wrap_i64];unfold I64;omega
theorem zxW(k x y:Int):I64 (updE k x y):=by
 unfold updE
 split
 ·unfold wrap64 I64;omega
 ·split
  ·unfold wrap64 I64;omega
  ·exact ztd _
theorem zpi:∀(vs:List VD) (s:ByteArray) (j:Nat),j<=vs.length->zlo (vs.take j) s=(zmn vs s j).bind fun i=>vs[i]?
 | vs,s,0,_=>by simp[zlo,zmn]
 | vs,s,j+1,h=>by
  rw[zph (by omega),zo6 (by omega),zpi vs s j (by omega)];by_cases e:vs[j].s.toList=s.toList
  ·have e':(vs[j].s.toList==s.toList)=true:=by simpa using e
   have hj:j<vs.length:=by omega
   rw[if_pos e,if_pos e'];simp[hj]
  ·have e':¬ (vs[j].s.toList==s.toList)=true:=by simpa using e
   rw[if_neg e,if_neg e']
theorem zwL(f:FR)(s:ByteArray):zlo f.vs s=(f.at s).bind fun i=>f.vs[i]?:=by
 have:=zpi f.vs s f.vs.length zl;rw[List.take_of_length_le zl]at this;exact this
theorem ztX{S:ST}(h:S.WF){s:ByteArray}{v:VD}(hv:zlo S.cur.vs s=some v):∃id,S.num s=some id/\CurK S id v.k:=by
 rw[zwL,Option.bind_eq_some_iff]at hv;obtain⟨i,h1,h2⟩:=hv;obtain⟨kd,hw⟩:=h.cur;have hi:=FR.at_lt h1;have hc:i<S.cur.cs.length:=by rw[hw.len];exact hi
 refine⟨S.cur.cs[i],by rw[ST.num,h1];simp[hc],i,v,h2,List.getElem?_eq_getElem hc,rfl⟩
theorem zuB{vs:List VD}{k n:Int}{s:ByteArray}{ks:List T}(h:fltE vs (.nd k n s ks)=0):ownE vs k s=0/\zlB vs ks=0:=by
 rw[fltE]at h
 split at h
 ·contradiction
 ·next h1=>exact⟨Classical.not_not.1 h1,h⟩
theorem zna{vs:List VD}:∀ {ks:List T},zlB vs ks=0->∀t∈ks,fltE vs t=0
 | t::ts,h,u,hu=>by
  rw[zlB]at h
  split at h
  ·contradiction
  ·next h1 =>
   rcases List.mem_cons.1 hu with rfl|hu
   ·exact Classical.not_not.1 h1
   ·exact zna h u hu
theorem zpB{vs:List VD}{k:Int}{s:ByteArray}(h:ownE vs k s=0)(hn:zpE k≠0):∃v,zlo vs s=some v/\v.k=zpE k:=by
 rw[ownE,if_neg hn]at h
 cases hf:zlo vs s with
 | none=>rw[hf]at h;cases h
 | some v =>
  rw[hf]at h;dsimp only at h
  split at h
  ·next h1=>exact⟨v,rfl,h1⟩
  ·cases h
theorem zpA{S:ST}(h:S.WF){p:T}(hp:isP p=true)(hf:fltE S.cur.vs p=0):∃id k,S.num p.s=some id/\CurK S id k/\k≠3:=by
 obtain⟨k,n,s,ks⟩:=p;simp only[isP,T.k_nd,Bool.and_eq_true,Bool.or_eq_true,beq_iff_eq]at hp;obtain⟨h1,_⟩:=zuB hf;rcases hp.1 with rfl|rfl
 ·obtain⟨v,h2,h3⟩:=zpB h1 (by decide);obtain⟨id,h4,h5⟩:=ztX h h2;exact⟨id,v.k,h4,h5,by rw[h3];decide⟩
 ·obtain⟨v,h2,h3⟩:=zpB h1 (by decide);obtain⟨id,h4,h5⟩:=ztX h h2;exact⟨id,v.k,h4,h5,by rw[h3];decide⟩
def zvP(S:ST)(id i jd j:Nat):ST:=(S.put id i (S.el jd j)).put jd j (S.el id i)
def zou(S:ST)(k:Int)(s qs:ByteArray)(r2:Int)(id i:Nat):Int×ST :=
 if k=40\/k=41\/k=42 then(0,S.put id i (updE k (S.el id i) r2))
 else if k=43 then match S.num qs with
  | none=>(0,S)
  | some jd=>if 0<=r2/\r2<(S.cell jd).length then(0,zvP S id i jd r2.toNat)else(12,S)
 else if k=44\/k=45 then match S.num s with
  | none=>(0,S)
  | some aj=>znN S k id i aj
 else zlv S k id i
def zoa(S:ST)(k:Int)(q:T):Int×Int:=if k=43 then indE S.look q else if k=40\/k=41\/k=42 then zl1 S.look q else(0,0)
def zov(S:ST)(k:Int)(s ps qs:ByteArray)(r1:Int)(r2:Int×Int):Int×ST :=
 if r2.2≠0 then(r2.2,S)else match S.num ps with
  | none=>(0,S)
  | some id=>if 0<=r1/\r1<(S.cell id).length then zou S k s qs r2.1 id r1.toNat else(12,S)
def zlp(S:ST)(k:Int)(s:ByteArray)(p q:T)(r1 r2:Int×Int):Int×ST:=if r1.2≠0 then(r1.2,S)else zov S k s p.s q.s r1.1 r2
def nil0:T:=.nd 0 0 ⟨#[]⟩ []
def zqC(S:ST):T->Int×ST
 | .nd k _ s ks=>zlp S k s (ks.getD 0 nil0) (ks.getD 1 nil0) (indE S.look (ks.getD 0 nil0)) (zoa S k (ks.getD 1 nil0))
def doE(S:ST)(t:T):Int×ST :=
 if isS t=false then(3,S)else if t.k=56 then(9,S)else if basB t.k=false then(7,S)else if fltE S.cur.vs t≠0 then(fltE S.cur.vs t,S)else zqC S t
def zoK(S:ST):T->Int×ST
 | .nd k n s ks=>doE S (.nd (zsM k) n s ks)
theorem zux:IsFn prog 172 f172:=⟨func172,by kernel_rfl,by kernel_rfl⟩
theorem zxE:IsFn prog 174 f174:=⟨func174,by kernel_rfl,by kernel_rfl⟩
theorem zwO{W:World}{n0:Nat}{P:Ph}{S:ST}(h:SR W n0 P S)(k n:Int)(s:ByteArray)(p:T)(v:Value)(hv:NV W Any (.nd k n s [p]) v)(hk:44<=k/\k<=49)(id:Nat)(hid:S.num p.s=some id)(kp:Int)(hck:CurK S id kp)(hkp:kp≠3)
  (hst:k=44\/k=45->∃aj,S.num s=some aj/\CurK S aj 3) :
  Calls prog 163 #[.pointer (some ⟨P.sb,0,none⟩),v] W fun e W'=>e=.returned (.int .i64 (zlp S k s p nil0 (indE S.look p) (0,0)).1)/\∃P',SStp n0 P S W P' (zlp S k s p nil0 (indE S.look p) (0,0)).2 W'/\P'.sb=P.sb:=by
 obtain⟨A,c,rfl,hf,hlk,hlc,hrow⟩:=hv.open_;simp only[T.k_nd,T.n_nd,T.s_nd,T.ks_nd]at *
 obtain⟨R,hR⟩:=zX (zlp S k s p nil0 (indE S.look p) (0,0));rw[hR];have HRR:=zh hR;have HS:=zh h;have HL:=zh (zt4 n0 P S h.wf);obtain⟨a,t0,A2,c2,rfl,_,Ht,⟨y0,y1,y2,y3⟩,hn0⟩:=hrow.nd (i:=0) (by simp);simp only[Nat.zero_mul,Addr.add_zero',List.length_cons,List.length_nil,Nat.zero_add]at *
 have ht0:t0=p:=Ht.out.symm;subst ht0;have hbx:=box4 (heap_alloc_new W (.cells #[.int .u8 k,.int .i64 n,.string s,.slice (some a) 1 c] 28));have av:=zh (heap_alloc_new W (.cells #[.int .u8 k,.int .i64 n,.string s,.slice (some a) 1 c] 28));obtain⟨W0,hW0⟩:=zX (W.alloc (.cells #[.int .u8 k,.int .i64 n,.string s,.slice (some a) 1 c] 28));have q0:Below W.heap.size W W0:=hW0▸zkb zr _;rw[hW0]at hbx av;have ig:=zh q0;have z0:=zb q0 y0;have z1:=zb q0 y1;have z2:=zb q0 y2;have z3:=zb q0 y3;obtain⟨⟨iv,ie⟩,bK⟩:=zX (indE S.look t0);have qX:=zh (znj HL.out t0 _ W0 (hn0.later q0) (h.later q0));rw[bK]at qX;have dV:=zh (show R=zlp S k s t0 nil0 (iv,ie) (0,0) by rw[<-hR,bK]);have ma:=zh (fun W' (hb:Below W.heap.size W W')=>zmq (h.later hb) t0.s id hid);obtain⟨x0,x1,x2,x3⟩:=hbx;have aI:=hck.lt h.wf;have bN:=zh hck;have wO:=zh hid
 clear hR bK h hv hn0 hrow hlk hlc y0 y1 y2 y3 q0 hf hck hid;have k40:(k==40)=false:=by simp;omega
 have k41:(k==41)=false:=by simp;omega
 have k42:(k==42)=false:=by simp;omega
 have k43:(k==43)=false:=by simp;omega
 go_enter func163,ntmps163;go_wp2_with fail;refine qX.out.mono ?_;rintro e w1 ⟨rfl,aa⟩;have HB1:=zh (zka ig.out aa);have aD:=zh (zkc av.out aa);have u0:=zb aa z0;have u1:=zb aa z1;have u2:=zb aa z2;have u3:=zb aa z3;have v0:=zb aa x0;have v2:=zb aa x2;have v3:=zb aa x3;clear aa z0 z1 z2 z3 x0 x1 x2 x3;dsimp only;by_cases he:ie=0
 ·subst he;have HR1:=zh (show R=zov S k s t0.s nil0.s iv (0,0) by rw[dV.out,zlp,if_neg (by simp)]);go_wp2_with fail;refine(ma.out _ HB1.out).mono ?_;rintro e w2 ⟨rfl,ah⟩;have HB2:=zh (zka HB1.out ah);have aQ:=zh (zkc aD.out ah);have r0:=zb ah v0;have r2:=zb ah v2;have HS2:=zh (HS.out.later HB2.out);clear u0 u1 u2 u3 v0 v2 v3 ah;have HR2:=zh (show R=if 0<=iv/\iv<(S.cell id).length then zou S k s nil0.s 0 id iv.toNat else(12,S) by
   rw[HR1.out,zov,if_neg (by simp),wO.out])
  by_cases hr:0<=iv/\iv<((S.cell id).length:Int)
  ·obtain⟨i,rfl⟩:∃i:Nat,iv=i:=⟨iv.toNat,by omega⟩
   have hi:i<(S.cell id).length:=by omega
   have HR3:=zh (show R=zou S k s nil0.s 0 id i by rw[HR2.out,if_pos hr];rfl);obtain⟨⟨c3,hci,hc3⟩,p0,p1⟩:=HS2.out.plc aI hi;have w0:w2.cell? ⟨P.cb id,0,none⟩=some (.slice (some ⟨P.gI id,0,none⟩) (S.cell id).length c3):=by rw[<-hci];exact zc (HS2.out.cbox aI) rfl
   obtain⟨m,hm⟩:=zX ((S.cell id).length);have HM:=zh hm;rw[hm]at w0;have hi1:¬ (i:Int)<0:=by omega
   have hi2:¬ (m:Int)<=(i:Int):=by omega
   have hi3:(i:Int)<(m:Int):=by omega
   clear HR1 HR2 hr hci hc3 hm;by_cases h45:k=44\/k=45
   ·obtain⟨aj,hs1,hs2⟩:=hst h45;have hne:=bN.out.ne hs2 HS.out.wf hkp;have HR4:=zh (show R=znN S k id i aj by
     rw[HR3.out,zou,if_neg (by omega),if_neg (by omega),if_pos h45,hs1])
    have HMV:=zh (fun W' (hb:Below W.heap.size W W')=>zwi (HS.out.later hb) k h45 id i aj aI hi hs2 hne);have gZ:=zh (fun W' (hb:Below W.heap.size W W')=>zmq (HS.out.later hb) s aj hs1);have kk:(k==44||k==45)=true:=by rcases h45 with rfl|rfl<;>rfl
    clear hs1 hs2 HR3 wO;rcases h45 with rfl|rfl
    ·skip
     go_upto_region 34 with fail;have hSS:zW (fun w':World=>zv w' W.heap.size 0 (.int .u8 44)/\zv w' W.heap.size 2 (.string s)) zU w2.drew:=⟨⟨r0,r2⟩,trivial⟩
     refine wp_region_noPanic ?_;refine zG hSS 7 ?_;refine zT 0 hSS ?_;refine zT 1 hSS ?_;refine zT 2 hSS ?_;refine zT 3 hSS ?_;refine zT 4 hSS ?_;refine zT 5 hSS ?_;have had:Calls prog 172 [.pointer (some ⟨P.sb,0,none⟩),.string s].toArray w2.drew fun e W'=>∃u,e=.returned u/\u=.pointer (some ⟨P.cb aj,0,none⟩)/\Below w2.drew.heap.size w2.drew W' :=
      (gZ.out _ HB2.out.drew).mono fun e W' hh=>⟨_,hh.1,rfl,hh.2⟩
     refine zo 6 fun K hK=>?_;refine zke (by rfl) (.func 172) [.tmp 138,.tmp 140] _ (by rfl) 172 _ zux (by rfl) _ (by rfl) _ had ?_;rintro v4 w4 ⟨rfl,hb4⟩;have ax:=zh (zka HB2.out.drew hb4);have t0':=zb hb4 (show w2.drew.cell? _=_ from r0);have t2':=zb hb4 (show w2.drew.cell? _=_ from r2);refine hK.out _ _ ⟨⟨t0',t2'⟩,trivial⟩ ?_;clear hK K hSS had hb4;(try simp only[zQ]);have had:Calls prog 174 [.int .u8 44,.pointer (some ⟨P.gI id,i,none⟩),.pointer (some ⟨P.cb aj,0,none⟩)].toArray w4 fun e W'=>∃u,e=.returned u/\u=.int .i64 R.1/\∃P',SStp n0 P S w4 P' R.2 W'/\P'.sb=P.sb:=by
      refine(HMV.out _ ax.out).mono ?_;rintro e W' ⟨h1,h2⟩;rw[<-HR4.out]at h1 h2;exact⟨_,h1,rfl,h2⟩
     refine zp 7 fun K hK=>?_;refine zke (by rfl) (.func 174) [.tmp 136,.tmp 137,.tmp 141] _ (by rfl) 174 _ zxE (by rfl) _ (by rfl) _ had ?_;rintro v5 w5 ⟨rfl,P',hs5,xc⟩;have hno:¬ OwnB (rows P S) W.heap.size:=fun⟨q,hq⟩=>by have:=(HS.out.rws.lt q _ hq).2;omega
     have HF:=zh hs5;have HP:=zh xc;have b0:=zkX hs5.st.chg t0' hno;have b2:=zkX hs5.st.chg t2' hno;refine hK.out _ _ ⟨b0,b2⟩ ?_;clear hK K had hs5 xc;(try simp only[zQ]);refine zp 8 fun K hK=>?_;(try simp only[zA,zB,zC]);go_simp;refine hK.out _ _ ⟨b0,b2⟩ ?_;clear hK K;(try simp only[zQ]);refine zd ?_;refine NoPanic.normal ?_;go_wp2_with fail;go_ret;exact⟨rfl,P',⟨HF.out.st.after ax.out HS.out.rws,HF.out.wf⟩,HP.out⟩
    ·skip
     go_upto_region 34 with fail;have hSS:zW (fun w':World=>zv w' W.heap.size 0 (.int .u8 45)/\zv w' W.heap.size 2 (.string s)) zU w2.drew:=⟨⟨r0,r2⟩,trivial⟩
     refine wp_region_noPanic ?_;refine zG hSS 7 ?_;refine zT 0 hSS ?_;refine zT 1 hSS ?_;refine zT 2 hSS ?_;refine zT 3 hSS ?_;refine zT 4 hSS ?_;refine zT 5 hSS ?_;have had:Calls prog 172 [.pointer (some ⟨P.sb,0,none⟩),.string s].toArray w2.drew fun e W'=>∃u,e=.returned u/\u=.pointer (some ⟨P.cb aj,0,none⟩)/\Below w2.drew.heap.size w2.drew W' :=
      (gZ.out _ HB2.out.drew).mono fun e W' hh=>⟨_,hh.1,rfl,hh.2⟩
     refine zo 6 fun K hK=>?_;refine zke (by rfl) (.func 172) [.tmp 138,.tmp 140] _ (by rfl) 172 _ zux (by rfl) _ (by rfl) _ had ?_;rintro v4 w4 ⟨rfl,hb4⟩;have ax:=zh (zka HB2.out.drew hb4);have t0':=zb hb4 (show w2.drew.cell? _=_ from r0);have t2':=zb hb4 (show w2.drew.cell? _=_ from r2);refine hK.out _ _ ⟨⟨t0',t2'⟩,trivial⟩ ?_;clear hK K hSS had hb4;(try simp only[zQ]);have had:Calls prog 174 [.int .u8 45,.pointer (some ⟨P.gI id,i,none⟩),.pointer (some ⟨P.cb aj,0,none⟩)].toArray w4 fun e W'=>∃u,e=.returned u/\u=.int .i64 R.1/\∃P',SStp n0 P S w4 P' R.2 W'/\P'.sb=P.sb:=by
      refine(HMV.out _ ax.out).mono ?_;rintro e W' ⟨h1,h2⟩;rw[<-HR4.out]at h1 h2;exact⟨_,h1,rfl,h2⟩
     refine zp 7 fun K hK=>?_;refine zke (by rfl) (.func 174) [.tmp 136,.tmp 137,.tmp 141] _ (by rfl) 174 _ zxE (by rfl) _ (by rfl) _ had ?_;rintro v5 w5 ⟨rfl,P',hs5,xc⟩;have hno:¬ OwnB (rows P S) W.heap.size:=fun⟨q,hq⟩=>by have:=(HS.out.rws.lt q _ hq).2;omega
     have HF:=zh hs5;have HP:=zh xc;have b0:=zkX hs5.st.chg t0' hno;have b2:=zkX hs5.st.chg t2' hno;refine hK.out _ _ ⟨b0,b2⟩ ?_;clear hK K had hs5 xc;(try simp only[zQ]);refine zp 8 fun K hK=>?_;(try simp only[zA,zB,zC]);go_simp;refine hK.out _ _ ⟨b0,b2⟩ ?_;clear hK K;(try simp only[zQ]);refine zd ?_;refine NoPanic.normal ?_;go_wp2_with fail;go_ret;exact⟨rfl,P',⟨HF.out.st.after ax.out HS.out.rws,HF.out.wf⟩,HP.out⟩
   ·have yT:k=46\/k=49\/k=47\/k=48:=by omega
    have k44:(k==44)=false:=by simp;omega
    have k45:(k==45)=false:=by simp;omega
    have HR4:=zh (show R=zlv S k id i by rw[HR3.out,zou,if_neg (by omega),if_neg (by omega),if_neg h45]);have yY:=zh (zp8 HS2.out k yT id i aI hi);rw[<-HR4.out]at yY;clear HR3 p0 p1;go_wp2_with fail;refine yY.out.mono ?_;rintro e w3 ⟨rfl,P',hs3,hp3⟩;have HF:=zh hs3;have HP:=zh hp3;clear hs3 hp3;go_wp2_with fail;go_ret;exact⟨rfl,P',⟨HF.out.st.after HB2.out HS.out.rws,HF.out.wf⟩,HP.out⟩
  ·have HN:=zh (show R=(12,S) by rw[HR2.out,if_neg hr]);obtain⟨A3,c3,hci,hc3,aX⟩:=HS2.out.items aI;have w0:w2.cell? ⟨P.cb id,0,none⟩=some (.slice A3 (S.cell id).length c3):=by rw[<-hci];exact zc (HS2.out.cbox aI) rfl
   obtain⟨m,hm⟩:=zX ((S.cell id).length);rw[hm]at w0 hr;clear HR1 HR2 hci hc3 aX hm;by_cases hneg:iv<0
   ·go_wp2_with fail;go_ret;exact⟨by rw[HN.out];rfl,P,by rw[HN.out];exact SStp.refl HS.out HB2.out,rfl⟩
   ·have hge:(m:Int)<=iv:=by omega
    go_wp2_with fail;go_ret;exact⟨by rw[HN.out];rfl,P,by rw[HN.out];exact SStp.refl HS.out HB2.out,rfl⟩
 ·have HN:=zh (show R=(ie,S) by rw[dV.out,zlp,if_pos he]);have e1:(ie==0)=false:=by simpa using he
  have e2:(ie != 0)=true:=by simpa using he
  clear he;go_wp2_with fail;go_ret;exact⟨by rw[HN.out];rfl,P,by rw[HN.out];exact SStp.refl HS.out HB1.out,rfl⟩
theorem zwy:IsFn prog 173 f173:=⟨func173,by kernel_rfl,by kernel_rfl⟩
theorem zz3(a:Addr):a.add (1*4)=⟨a.block,a.off+4,none⟩:=by unfold Addr.add;split<;>simp_all
theorem zwN{W:World}{n0:Nat}{P:Ph}{S:ST}(h:SR W n0 P S)(k n:Int)(s:ByteArray)(p q:T)(v:Value)(hv:NV W Any (.nd k n s [p,q]) v)(hk:k=40\/k=41\/k=42)(id:Nat)(hid:S.num p.s=some id)(kp:Int)(hck:CurK S id kp) :
  Calls prog 163 #[.pointer (some ⟨P.sb,0,none⟩),v] W fun e W'=>e=.returned (.int .i64 (zlp S k s p q (indE S.look p) (zl1 S.look q)).1)/\∃P',SStp n0 P S W P' (zlp S k s p q (indE S.look p) (zl1 S.look q)).2 W'/\P'.sb=P.sb:=by
 obtain⟨A,c,rfl,hf,hlk,hlc,hrow⟩:=hv.open_;simp only[T.k_nd,T.n_nd,T.s_nd,T.ks_nd]at *
 obtain⟨R,hR⟩:=zX (zlp S k s p q (indE S.look p) (zl1 S.look q));rw[hR];have HRR:=zh hR;have HS:=zh h;have HL:=zh (zt4 n0 P S h.wf);obtain⟨a,t0,A2,c2,rfl,_,Ht,h4,hn0⟩:=hrow.nd (i:=0) (by simp);obtain⟨a',t1,A3,c3,ea,_,Hu,h5,hn1⟩:=hrow.nd (i:=1) (by simp);injection ea with ea;subst ea;have ha:a.add (1*4)=⟨a.block,a.off+4,none⟩:=zz3 a;rw[ha]at h5;have ht0:t0=p:=Ht.out.symm;subst ht0;have ht1:t1=q:=Hu.out.symm;subst ht1;simp only[Nat.zero_mul,Nat.one_mul,Addr.add_zero',List.length_cons,List.length_nil,Nat.zero_add,Nat.reduceAdd]at *
 have hbx:=box4 (heap_alloc_new W (.cells #[.int .u8 k,.int .i64 n,.string s,.slice (some a) 2 c] 28));have av:=zh (heap_alloc_new W (.cells #[.int .u8 k,.int .i64 n,.string s,.slice (some a) 2 c] 28));obtain⟨W0,hW0⟩:=zX (W.alloc (.cells #[.int .u8 k,.int .i64 n,.string s,.slice (some a) 2 c] 28));have q0:Below W.heap.size W W0:=hW0▸zkb zr _;rw[hW0]at hbx av;have ig:=zh q0;have H4:=zh h4;have H5:=zh h5;have g4:=zlR q0 h4;obtain⟨z0,z1,z2,z3⟩:=g4;obtain⟨⟨iv,ie⟩,bK⟩:=zX (indE S.look t0);obtain⟨⟨jv,je⟩,dG⟩:=zX (zl1 S.look t1);have qX:=zh (znj HL.out t0 _ W0 (hn0.later q0) (h.later q0));rw[bK]at qX;have yn:=zh (show ∀W',Below W.heap.size W W'->Calls prog 168 #[nv t1.k t1.n t1.s A3 t1.ks.length c3,.func (.func 171) #[.pointer (some ⟨P.sb,0,none⟩)] #[]] W' (NumE (jv,je) W')from fun W' hb=>dG▸zp0 HL.out t1 _ W' (hn1.later hb) (h.later hb))
 have dV:=zh (show R=zlp S k s t0 t1 (iv,ie) (jv,je) by rw[<-hR,bK,dG]);have ma:=zh (fun W' (hb:Below W.heap.size W W')=>zmq (h.later hb) t0.s id hid);obtain⟨x0,x1,x2,x3⟩:=hbx;have aI:=hck.lt h.wf;have wO:=zh hid;clear hR bK dG hv hn0 hn1 hrow hlk hlc q0 hf hck hid h4 h5;clear h;have k43:(k==43)=false:=by simp;omega
 obtain⟨kk,hkk⟩:∃x,x=k:=⟨_,rfl⟩
 have wC:=zh (fun x w=>zs0 kk x jv (hkk▸hk) w);go_enter func163,ntmps163;go_wp2_with fail;refine qX.out.mono ?_;rintro e w1 ⟨rfl,aa⟩;have HB1:=zh (zka ig.out aa);have aD:=zh (zkc av.out aa);have v0:=zb aa x0;have v3:=zb aa x3;obtain⟨y0,y1,y2,y3⟩:=zlR HB1.out H5.out;clear aa z0 z1 z2 z3 x0 x1 x2 x3;dsimp only;by_cases he:ie=0
 ·subst he;have HR1:=zh (show R=zov S k s t0.s t1.s iv (jv,je) by rw[dV.out,zlp,if_neg (by simp)]);rcases hk with rfl|rfl|rfl
  all_goals
    go_wp2_with fail;refine(yn.out _ HB1.out).mono ?_;rintro e w2 ⟨rfl,ah⟩;have HB2:=zh (zka HB1.out ah);have aQ:=zh (zkc aD.out ah);have r0:=zb ah v0;have r3:=zb ah v3;obtain⟨z0,z1,z2,z3⟩:=zlR HB2.out H4.out;clear ah y0 y1 y2 y3 v0 v3;dsimp only;by_cases mJ:je=0
    ·subst mJ;go_wp2_with fail;refine(ma.out _ HB2.out).mono ?_;rintro e w3 ⟨rfl,aN⟩;have HB3:=zh (zka HB2.out aN);have Hkk:=zh (zkc aQ.out aN);have s0:=zb aN r0;have s3:=zb aN r3;have HS2:=zh (HS.out.later HB3.out);clear r0 r3 aN z0 z1 z2 z3;have HR2:=zh (show R=if 0<=iv/\iv<(S.cell id).length then zou S kk s t1.s jv id iv.toNat else(12,S) by
      rw[HR1.out,zov,if_neg (by simp),wO.out,hkk])
     by_cases hr:0<=iv/\iv<((S.cell id).length:Int)
     ·obtain⟨i,rfl⟩:∃i:Nat,iv=i:=⟨iv.toNat,by omega⟩
      have hi:i<(S.cell id).length:=by omega
      have HR3:=zh (show R=(0,S.put id i (updE kk (S.el id i) jv)) by rw[HR2.out,if_pos hr,zou,if_pos (by omega)];rfl);obtain⟨⟨c4,hci,hc4⟩,p0,p1⟩:=HS2.out.plc aI hi;have w0:w3.cell? ⟨P.cb id,0,none⟩=some (.slice (some ⟨P.gI id,0,none⟩) (S.cell id).length c4):=by rw[<-hci];exact zc (HS2.out.cbox aI) rfl
      have nK:=zh (fun W' (hb:Below W.heap.size W W')=>(HS.out.later hb).put aI hi (updE kk (S.el id i) jv) (zxW _ _ _));obtain⟨x,hx⟩:=zX (S.el id i);rw[hx]at p0 HR3 nK;obtain⟨m,hm⟩:=zX ((S.cell id).length);rw[hm]at w0;have hi1:¬ (i:Int)<0:=by omega
      have hi2:¬ (m:Int)<=(i:Int):=by omega
      have hi3:(i:Int)<(m:Int):=by omega
      clear HR1 HR2 hr hci hc4 hm hx;obtain⟨U,hU⟩:=zX (updE kk x jv);rw[hU]at HR3 nK;have HUU:=zh (hU▸wC.out x);clear hU;have s0':w3.cell? ⟨W.heap.size,0,none⟩=some (.int .u8 kk):=by rw[hkk];exact s0
      clear hkk;go_upto_region 22 with fail;have hSS:zW (fun w':World=>zv w' W.heap.size 0 (.int .u8 kk)/\zv w' (P.gI id) i (.int .i64 x)) zU w3.drew:=⟨⟨s0',p0⟩,trivial⟩
      refine wp_region_noPanic ?_;refine zG hSS 11 ?_;refine zT 0 hSS ?_;refine zT 1 hSS ?_;refine zT 2 hSS ?_;refine zT 3 hSS ?_;refine zT 4 hSS ?_;refine zT 5 hSS ?_;have had:Calls prog 173 [.int .u8 kk,.int .i64 x,.int .i64 jv].toArray w3.drew fun e W'=>∃u,e=.returned u/\u=.tuple #[.int .i64 U,.int .i64 0]/\W'=w3.drew :=
       (HUU.out w3.drew).mono fun e W' hh=>⟨_,hh.1,rfl,hh.2⟩
      refine zo 6 fun K hK=>?_;refine zke (by rfl) (.func 173) [.tmp 86,.tmp 89,.tmp 90] _ (by rfl) 173 _ zwy (by rfl) _ (by rfl) _ had ?_;rintro v4 w4 ⟨rfl,rfl⟩;refine hK.out _ _ hSS ?_;clear hK K had;(try simp only[zQ]);refine zT 7 hSS ?_;refine zT 8 hSS ?_;refine zT 9 hSS ?_;refine zT 10 hSS ?_;refine zp 11 fun K hK=>?_;(try simp only[zA,zB,zC]);go_simp;refine hK.out _ _ hSS.1 ?_;clear hK K hSS;(try simp only[zQ]);refine zd ?_;refine NoPanic.normal ?_;go_wp2_with fail;go_ret;refine⟨by rw[HR3.out];rfl,P,?_,rfl⟩;rw[HR3.out];have:=nK.out _ HB3.out.drew;exact⟨this.st.after HB3.out.drew HS.out.rws,this.wf⟩
     ·skip
      have HN:=zh (show R=(12,S) by rw[HR2.out,if_neg hr]);obtain⟨A3,c3,hci,hc3,aX⟩:=HS2.out.items aI;have w0:w3.cell? ⟨P.cb id,0,none⟩=some (.slice A3 (S.cell id).length c3):=by rw[<-hci];exact zc (HS2.out.cbox aI) rfl
      obtain⟨m,hm⟩:=zX ((S.cell id).length);rw[hm]at w0 hr;clear HR2 hci hc3 aX hm;by_cases hneg:iv<0
      ·go_wp2_with fail;go_ret;exact⟨by rw[HN.out];rfl,P,by rw[HN.out];exact SStp.refl HS.out HB3.out,rfl⟩
      ·have hge:(m:Int)<=iv:=by omega
       go_wp2_with fail;go_ret;exact⟨by rw[HN.out];rfl,P,by rw[HN.out];exact SStp.refl HS.out HB3.out,rfl⟩
    ·skip
     have HN:=zh (show R=(je,S) by rw[HR1.out,zov,if_pos mJ]);have e1:(je==0)=false:=by simpa using mJ
     have e2:(je != 0)=true:=by simpa using mJ
     clear mJ;go_wp2_with fail;go_ret;exact⟨by rw[HN.out];rfl,P,by rw[HN.out];exact SStp.refl HS.out HB2.out,rfl⟩
 ·skip
  have HN:=zh (show R=(ie,S) by rw[dV.out,zlp,if_pos he]);have e1:(ie==0)=false:=by simpa using he
  have e2:(ie != 0)=true:=by simpa using he
  clear he;go_wp2_with fail;go_ret;exact⟨by rw[HN.out];rfl,P,by rw[HN.out];exact SStp.refl HS.out HB1.out,rfl⟩
theorem zuG{W:World}{n0:Nat}{P:Ph}{S:ST}(h:SR W n0 P S)(k n:Int)(s:ByteArray)(p q:T)(v:Value)(hv:NV W Any (.nd k n s [p,q]) v)(hk:k=43)(id:Nat)(hid:S.num p.s=some id)(kp:Int)(hck:CurK S id kp)(jd:Nat)(hjd:S.num q.s=some jd)(kq:Int)(hcq:CurK S jd kq) :
  Calls prog 163 #[.pointer (some ⟨P.sb,0,none⟩),v] W fun e W'=>e=.returned (.int .i64 (zlp S k s p q (indE S.look p) (indE S.look q)).1)/\∃P',SStp n0 P S W P' (zlp S k s p q (indE S.look p) (indE S.look q)).2 W'/\P'.sb=P.sb:=by
 obtain⟨A,c,rfl,hf,hlk,hlc,hrow⟩:=hv.open_;simp only[T.k_nd,T.n_nd,T.s_nd,T.ks_nd]at *
 obtain⟨R,hR⟩:=zX (zlp S k s p q (indE S.look p) (indE S.look q));rw[hR];have HRR:=zh hR;have HS:=zh h;have HL:=zh (zt4 n0 P S h.wf);obtain⟨a,t0,A2,c2,rfl,_,Ht,h4,hn0⟩:=hrow.nd (i:=0) (by simp);obtain⟨a',t1,A3,c3,ea,_,Hu,h5,hn1⟩:=hrow.nd (i:=1) (by simp);injection ea with ea;subst ea;have ha:a.add (1*4)=⟨a.block,a.off+4,none⟩:=zz3 a;rw[ha]at h5;have ht0:t0=p:=Ht.out.symm;subst ht0;have ht1:t1=q:=Hu.out.symm;subst ht1;simp only[Nat.zero_mul,Nat.one_mul,Addr.add_zero',List.length_cons,List.length_nil,Nat.zero_add,Nat.reduceAdd]at *
 have hbx:=box4 (heap_alloc_new W (.cells #[.int .u8 k,.int .i64 n,.string s,.slice (some a) 2 c] 28));have av:=zh (heap_alloc_new W (.cells #[.int .u8 k,.int .i64 n,.string s,.slice (some a) 2 c] 28));obtain⟨W0,hW0⟩:=zX (W.alloc (.cells #[.int .u8 k,.int .i64 n,.string s,.slice (some a) 2 c] 28));have q0:Below W.heap.size W W0:=hW0▸zkb zr _;rw[hW0]at hbx av;have ig:=zh q0;have H4:=zh h4;have H5:=zh h5;have g4:=zlR q0 h4;obtain⟨z0,z1,z2,z3⟩:=g4;obtain⟨⟨iv,ie⟩,bK⟩:=zX (indE S.look t0);obtain⟨⟨jv,je⟩,dG⟩:=zX (indE S.look t1);have qX:=zh (znj HL.out t0 _ W0 (hn0.later q0) (h.later q0));rw[bK]at qX;have yn:=zh (show ∀W',Below W.heap.size W W'->Calls prog 170 #[nv t1.k t1.n t1.s A3 t1.ks.length c3,.func (.func 171) #[.pointer (some ⟨P.sb,0,none⟩)] #[]] W' (NumE (jv,je) W')from fun W' hb=>dG▸znj HL.out t1 _ W' (hn1.later hb) (h.later hb))
 have dV:=zh (show R=zlp S k s t0 t1 (iv,ie) (jv,je) by rw[<-hR,bK,dG]);have ma:=zh (fun W' (hb:Below W.heap.size W W')=>zmq (h.later hb) t0.s id hid);obtain⟨x0,x1,x2,x3⟩:=hbx;have aI:=hck.lt h.wf;have wO:=zh hid;clear hR bK dG hv hn0 hn1 hrow hlk hlc q0 hf hck hid h4 h5;have jw:=hcq.lt h.wf;have HCQ:=zh (fun W' (hb:Below W.heap.size W W')=>zmq (h.later hb) t1.s jd hjd);have HJD:=zh hjd;subst hk;clear h hcq hjd;go_enter func163,ntmps163;go_wp2_with fail;refine qX.out.mono ?_;rintro e w1 ⟨rfl,aa⟩;have HB1:=zh (zka ig.out aa);have aD:=zh (zkc av.out aa);have v0:=zb aa x0;have v3:=zb aa x3;obtain⟨y0,y1,y2,y3⟩:=zlR HB1.out H5.out;clear aa z0 z1 z2 z3 x0 x1 x2 x3;dsimp only;by_cases he:ie=0
 ·subst he;have HR1:=zh (show R=zov S 43 s t0.s t1.s iv (jv,je) by rw[dV.out,zlp,if_neg (by simp)]);go_wp2_with fail;refine(yn.out _ HB1.out).mono ?_;rintro e w2 ⟨rfl,ah⟩;have HB2:=zh (zka HB1.out ah);have aQ:=zh (zkc aD.out ah);have r0:=zb ah v0;have r3:=zb ah v3;obtain⟨z0,z1,z2,z3⟩:=zlR HB2.out H4.out;clear ah y0 y1 y2 y3 v0 v3;dsimp only;by_cases mJ:je=0
  ·subst mJ;go_wp2_with fail;refine(ma.out _ HB2.out).mono ?_;rintro e w3 ⟨rfl,aN⟩;have HB3:=zh (zka HB2.out aN);have H43:=zh (zkc aQ.out aN);have s0:=zb aN r0;have s3:=zb aN r3;have HS2:=zh (HS.out.later HB3.out);clear r0 r3 aN z0 z1 z2 z3;have HR2:=zh (show R=if 0<=iv/\iv<(S.cell id).length then zou S 43 s t1.s jv id iv.toNat else(12,S) by
    rw[HR1.out,zov,if_neg (by simp),wO.out])
   by_cases hr:0<=iv/\iv<((S.cell id).length:Int)
   ·obtain⟨i,rfl⟩:∃i:Nat,iv=i:=⟨iv.toNat,by omega⟩
    have hi:i<(S.cell id).length:=by omega
    have HR3:=zh (show R=if 0<=jv/\jv<(S.cell jd).length then(0,zvP S id i jd jv.toNat)else(12,S) by
     rw[HR2.out,if_pos hr,zou,if_neg (by decide),if_pos rfl,HJD.out];rfl)
    obtain⟨⟨c4,hci,hc4⟩,p0,p1⟩:=HS2.out.plc aI hi;have w0:w3.cell? ⟨P.cb id,0,none⟩=some (.slice (some ⟨P.gI id,0,none⟩) (S.cell id).length c4):=by rw[<-hci];exact zc (HS2.out.cbox aI) rfl
    obtain⟨m,hm⟩:=zX ((S.cell id).length);rw[hm]at w0;have hi1:¬ (i:Int)<0:=by omega
    have hi2:¬ (m:Int)<=(i:Int):=by omega
    have hi3:(i:Int)<(m:Int):=by omega
    obtain⟨y0,y1,y2,y3⟩:=zlR HB3.out H5.out;clear HR1 HR2 hr hci hc4 hm p0 p1;go_wp2_with fail;refine(HCQ.out _ HB3.out).mono ?_;rintro e w4 ⟨rfl,iX⟩;have ax:=zh (zka HB3.out iX);have jK:=zh (HS.out.later ax.out);clear iX y0 y1 y2 y3 w0;by_cases hr2:0<=jv/\jv<((S.cell jd).length:Int)
    ·obtain⟨j,rfl⟩:∃j:Nat,jv=j:=⟨jv.toNat,by omega⟩
     have hj:j<(S.cell jd).length:=by omega
     have HR4:=zh (show R=(0,zvP S id i jd j) by rw[HR3.out,if_pos hr2];rfl);obtain⟨-,p0,p1⟩:=jK.out.plc aI hi;obtain⟨⟨c5,hcj,dH⟩,q0,q1⟩:=jK.out.plc jw hj;have w5:w4.cell? ⟨P.cb jd,0,none⟩=some (.slice (some ⟨P.gI jd,0,none⟩) (S.cell jd).length c5):=by rw[<-hcj];exact zc (jK.out.cbox jw) rfl
     have s1:=(jK.out.later zr.drew).put aI hi (S.el jd j) (zqD HS.out.wf jw j);have hj':j<((S.put id i (S.el jd j)).cell jd).length:=by
      simp only[ST.put,ST.setL]
      split
      ·next e=>rw[List.length_set,<-e];exact hj
      ·exact hj
     obtain⟨-,g0,g1⟩:=s1.sr.plc (id:=jd) (i:=j) jw hj';have s2:=s1.sr.put (id:=jd) (i:=j) jw hj' (S.el id i) (zqD HS.out.wf aI i);have aW:=zh (s1.trans s2);obtain⟨xi,hxi⟩:=zX (S.el id i);obtain⟨xj,hxj⟩:=zX (S.el jd j);rw[hxi]at p0 aW;rw[hxj]at q0 g0 g1 aW;have fM:=zh (show R=(0,(S.put id i xj).put jd j xi) by rw[HR4.out,zvP,hxi,hxj]);obtain⟨y,hy⟩:=zX ((S.put id i xj).el jd j);rw[hy]at g0;obtain⟨m2,hm2⟩:=zX ((S.cell jd).length);rw[hm2]at w5;have hj1:¬ (j:Int)<0:=by omega
     have hj2:¬ (m2:Int)<=(j:Int):=by omega
     have qH:(j:Int)<(m2:Int):=by omega
     clear HR3 HR4 hr2 hcj dH hm2 s1 s2 hxi hxj hy;go_upto_region 30 with fail;have hSS:zU w4.drew/\(fun w':World=>zv w' (P.gI id) i (.int .i64 xi)/\zv w' (P.gI jd) j (.int .i64 xj)) w4.drew:=⟨trivial,p0,q0⟩
     refine wp_region_noPanic ?_;refine zkk zU (fun w':World=>zv w' (P.gI id) i (.int .i64 xi)/\zv w' (P.gI jd) j (.int .i64 xj)) 11 (by kernel_rfl) ?_;refine zT 0 hSS ?_;refine zT 1 hSS ?_;refine zT 2 hSS ?_;refine zT 3 hSS ?_;refine zT 4 hSS ?_;refine zT 5 hSS ?_;refine zJ 6 hSS ?_;refine zT 7 hSS ?_;refine zT 8 hSS ?_;refine zJ 9 hSS ?_;refine zo 10 fun K hK=>?_;(try simp only[zA,zB,zC]);go_simp;refine hK.out _ _ hSS ?_;clear hK K;(try simp only[zQ]);refine zp 11 fun K hK=>?_;(try simp only[zA,zB,zC]);have p1':w4.drew.frozen? ⟨P.gI id,i,none⟩=false:=p1;have p0':w4.drew.cell? ⟨P.gI id,i,none⟩=some (.int .i64 xi):=p0;go_simp;refine hK.out _ _ trivial ?_;clear hK K hSS;(try simp only[zQ]);have g0':(w4.setCell ⟨P.gI id,i,none⟩ (.int .i64 xj)).cell? ⟨P.gI jd,j,none⟩=some (.int .i64 y):=g0;have g1':(w4.setCell ⟨P.gI id,i,none⟩ (.int .i64 xj)).frozen? ⟨P.gI jd,j,none⟩=false:=g1
     refine zp 12 fun K hK=>?_;(try simp only[zA,zB,zC]);go_simp;refine hK.out _ _ trivial ?_;clear hK K;(try simp only[zQ]);refine zp 13 fun K hK=>?_;(try simp only[zA,zB,zC]);go_simp;refine hK.out _ _ trivial ?_;clear hK K;(try simp only[zQ]);refine zd ?_;refine NoPanic.normal ?_;clear p0 p1 p0' p1' q0 q1 g0 g1 g0' g1';go_wp2_with fail;go_ret;refine⟨by rw[fM.out];rfl,P,?_,rfl⟩;rw[fM.out];exact⟨aW.out.st.after ax.out.drew HS.out.rws,aW.out.wf⟩
    ·have HN:=zh (show R=(12,S) by rw[HR3.out,if_neg hr2]);obtain⟨A5,c5,hcj,dH,AZ⟩:=jK.out.items jw;have w5:w4.cell? ⟨P.cb jd,0,none⟩=some (.slice A5 (S.cell jd).length c5):=by rw[<-hcj];exact zc (jK.out.cbox jw) rfl
     obtain⟨m2,hm2⟩:=zX ((S.cell jd).length);rw[hm2]at w5 hr2;clear HR3 hcj dH AZ hm2;by_cases hneg:jv<0
     ·go_wp2_with fail;go_ret;exact⟨by rw[HN.out];rfl,P,by rw[HN.out];exact SStp.refl HS.out ax.out,rfl⟩
     ·have hge:(m2:Int)<=jv:=by omega
      go_wp2_with fail;go_ret;exact⟨by rw[HN.out];rfl,P,by rw[HN.out];exact SStp.refl HS.out ax.out,rfl⟩
   ·skip
    have HN:=zh (show R=(12,S) by rw[HR2.out,if_neg hr]);obtain⟨A3,c3,hci,hc3,aX⟩:=HS2.out.items aI;have w0:w3.cell? ⟨P.cb id,0,none⟩=some (.slice A3 (S.cell id).length c3):=by rw[<-hci];exact zc (HS2.out.cbox aI) rfl
    obtain⟨m,hm⟩:=zX ((S.cell id).length);rw[hm]at w0 hr;clear HR2 hci hc3 aX hm;by_cases hneg:iv<0
    ·go_wp2_with fail;go_ret;exact⟨by rw[HN.out];rfl,P,by rw[HN.out];exact SStp.refl HS.out HB3.out,rfl⟩
    ·have hge:(m:Int)<=iv:=by omega
     go_wp2_with fail;go_ret;exact⟨by rw[HN.out];rfl,P,by rw[HN.out];exact SStp.refl HS.out HB3.out,rfl⟩
  ·skip
   have HN:=zh (show R=(je,S) by rw[HR1.out,zov,if_pos mJ]);have e1:(je==0)=false:=by simpa using mJ
   have e2:(je != 0)=true:=by simpa using mJ
   clear mJ;go_wp2_with fail;go_ret;exact⟨by rw[HN.out];rfl,P,by rw[HN.out];exact SStp.refl HS.out HB2.out,rfl⟩
 ·skip
  have HN:=zh (show R=(ie,S) by rw[dV.out,zlp,if_pos he]);have e1:(ie==0)=false:=by simpa using he
  have e2:(ie != 0)=true:=by simpa using he
  clear he;go_wp2_with fail;go_ret;exact⟨by rw[HN.out];rfl,P,by rw[HN.out];exact SStp.refl HS.out HB1.out,rfl⟩
theorem zxC{f:Nat->T->Bool}{ks:List T}(h:zkC 1 f ks=true):∃p,ks=[p]/\f 0 p=true:=by
 match ks with
 | [p]=>simp[zkC,zkv]at h;exact⟨p,rfl,h⟩
 | []=>simp[zkC]at h
 | a::b::l=>simp[zkC]at h
theorem zxB{f:Nat->T->Bool}{ks:List T}(h:zkC 2 f ks=true):∃p q,ks=[p,q]/\f 0 p=true/\f 1 q=true:=by
 match ks with
 | [p,q]=>simp[zkC,zkv]at h;exact⟨p,q,rfl,h⟩
 | []=>simp[zkC]at h
 | [a]=>simp[zkC]at h
 | a::b::c::l=>simp[zkC]at h
theorem zuh{k n:Int}{s:ByteArray}{ks:List T}(h:isS (.nd k n s ks)=true)(hb:basB k=true) :
  ((k=40\/k=41\/k=42)/\∃p q,ks=[p,q]/\isP p=true/\isE q=true)\/(k=43/\∃p q,ks=[p,q]/\isP p=true/\isP q=true)\/((44<=k/\k<=49)/\∃p,ks=[p]/\isP p=true):=by
 have hr:=of_decide_eq_true hb;rw[isS]at h;by_cases h1:k=40\/k=41\/k=42\/k=56
 ·rw[if_pos h1,Bool.and_eq_true]at h;obtain⟨p,q,e,a,b⟩:=zxB h.2;exact .inl ⟨by omega,p,q,e,by simpa using a,by simpa using b⟩
 ·rw[if_neg h1]at h;by_cases h2:k=43
  ·rw[if_pos h2,Bool.and_eq_true]at h;obtain⟨p,q,e,a,b⟩:=zxB h.2;exact .inr (.inl ⟨h2,p,q,e,a,b⟩)
  ·rw[if_neg h2]at h;by_cases h3:k=44\/k=45
   ·rw[if_pos h3,Bool.and_eq_true]at h;obtain⟨p,e,a⟩:=zxC h.2;exact .inr (.inr ⟨by omega,p,e,a⟩)
   ·rw[if_neg h3,if_pos (by omega),Bool.and_eq_true]at h;obtain⟨p,e,a⟩:=zxC h.2;exact .inr (.inr ⟨by omega,p,e,a⟩)
def DoP(n0:Nat)(P:Ph)(S:ST)(W:World)(R:Int×ST)(e:Ending)(W':World):Prop:=e=.returned (.int .i64 R.1)/\∃P',SStp n0 P S W P' R.2 W'/\P'.sb=P.sb
theorem zro{W:World}{n0:Nat}{P:Ph}{S:ST}(h:SR W n0 P S)(t:T)(v:Value)(hv:NV W Any t v)(hs:isS t=true)(hb:basB t.k=true)(hf:fltE S.cur.vs t=0) :
  Calls prog 163 #[.pointer (some ⟨P.sb,0,none⟩),v] W (DoP n0 P S W (zqC S t)):=by
 obtain⟨k,n,s,ks⟩:=t;obtain⟨fo,fk⟩:=zuB hf;rcases zuh hs hb with⟨hk,p,q,rfl,hp,hq⟩|⟨rfl,p,q,rfl,hp,hq⟩|⟨hk,p,rfl,hp⟩
 ·obtain⟨id,kp,h1,h2,h3⟩:=zpA h.wf hp (zna fk p (by simp));have:=zwN h k n s p q v hv hk id h1 kp h2;have e:zqC S (.nd k n s [p,q])=zlp S k s p q (indE S.look p) (zl1 S.look q):=by
   show zlp S k s p q (indE S.look p) (zoa S k q)=_
   rw[zoa,if_neg (by omega),if_pos hk]
  unfold DoP;rw[e];exact this
 ·obtain⟨id,kp,h1,h2,h3⟩:=zpA h.wf hp (zna fk p (by simp));obtain⟨jd,kq,h4,h5,h6⟩:=zpA h.wf hq (zna fk q (by simp));have:=zuG h 43 n s p q v hv rfl id h1 kp h2 jd h4 kq h5;have e:zqC S (.nd 43 n s [p,q])=zlp S 43 s p q (indE S.look p) (indE S.look q):=by
   show zlp S 43 s p q (indE S.look p) (zoa S 43 q)=_
   rw[zoa,if_pos rfl]
  unfold DoP;rw[e];exact this
 ·obtain⟨id,kp,h1,h2,h3⟩:=zpA h.wf hp (zna fk p (by simp));have hst:k=44\/k=45->∃aj,S.num s=some aj/\CurK S aj 3:=fun h45=>by
   have hn:zpE k=3:=by rcases h45 with rfl|rfl<;>rfl
   obtain⟨u,h4,h5⟩:=zpB fo (by rw[hn];decide);obtain⟨aj,h6,h7⟩:=ztX h.wf h4;exact⟨aj,h6,by rw[h5,hn]at h7;exact h7⟩
  have:=zwO h k n s p v hv hk id h1 kp h2 h3 hst;have e:zqC S (.nd k n s [p])=zlp S k s p nil0 (indE S.look p) (0,0):=by
   show zlp S k s p nil0 (indE S.look p) (zoa S k nil0)=_
   rw[zoa,if_neg (by omega),if_neg (by omega)]
  unfold DoP;rw[e];exact this
theorem zuA:IsFn prog 156 f156:=⟨func156,by kernel_rfl,by kernel_rfl⟩
theorem zwH:IsFn prog 162 f162:=⟨func162,by kernel_rfl,by kernel_rfl⟩
theorem zxP{W:World}{n0:Nat}{P:Ph}{S:ST}(h:SR W n0 P S)(t:T)(v:Value)(hv:NV W Any t v) :
  Calls prog 141 #[.pointer (some ⟨P.sb,0,none⟩),v] W (DoP n0 P S W (doE S t)):=by
 obtain⟨R,hR⟩:=zX (doE S t);rw[hR];have HRR:=zh hR;have HS:=zh h;have HV:=zh hv;obtain⟨A,c,rfl,-,-,-,-⟩:=hv.open_;obtain⟨b,hb⟩:=zX (isS t);have HIS:=zh (show ∀(v:Value) (w:World),NV w Any t v->Calls prog 113 #[v] w fun e w'=>e=.returned (.bool b)/\Below w.heap.size w w' from fun v w h=>hb▸zs7 t v w h);have yz:=zh hb;have q9:=zh (show ∀(v:Value) (W':World),NV W' Any t v->Below W.heap.size W W'->isS t=true->basB t.k=true->fltE S.cur.vs t=0->doE S t=zqC S t->Calls prog 163 #[.pointer (some ⟨P.sb,0,none⟩),v] W' (DoP n0 P S W R)from fun v W' hv' hbl h1 h2 h3 h4=>by
  refine(zro (h.later hbl) t v hv' h1 h2 h3).mono ?_;rintro e W2 ⟨a1,P',a2,a3⟩;rw[<-h4,hR]at a1 a2;exact⟨a1,P',⟨a2.st.after hbl h.rws,a2.wf⟩,a3⟩)
 obtain⟨kd,hw⟩:=h.curWF;obtain⟨A0,c0,hcv,hc,hrow⟩:=h.curVs;obtain⟨h3,h4,h5⟩:=h.cur3;rw[hcv]at h3;have dm:=zh (fun W' (hb:Below W.heap.size W W')=>zlb (h.later hb));have Cw:=zh (fun(v:Value) W' (hb:Below W.heap.size W W') (hv':NV W' Any t v)=>zsW S.cur.vs A0 c0 (curP P S) hw.lim t v W' hv' (zb hb h3) (hrow.later hb));obtain⟨cp,hcp⟩:=zX (curP P S);rw[hcp]at dm Cw;obtain⟨fe,hfe⟩:=zX (fltE S.cur.vs t);rw[hfe]at Cw q9;have rE:=zh (fun w=>zu3 t.k w);obtain⟨bb,hbb⟩:=zX (basB t.k);rw[hbb]at rE q9;have HD:=zh (show R=if b=false then(3,S)else if t.k=56 then(9,S)else if bb=false then(7,S)else if fe≠0 then(fe,S)else zqC S t by rw[<-hR,doE,hb,hbb,hfe]);have HDE:=zh (show doE S t=R from hR);obtain⟨k,hk⟩:=zX (t.k);obtain⟨n,hn⟩:=zX (t.n);obtain⟨s,hs⟩:=zX (t.s);obtain⟨m,hm⟩:=zX (t.ks.length);rw[hk,hn,hs,hm]at HV ⊢;rw[hk]at rE HD
 clear h hv hR hb hw hcv hc hrow h3 h4 h5 hcp hfe hbb hk hn hs hm;have hbx:=box4 (heap_alloc_new W (.cells #[.int .u8 k,.int .i64 n,.string s,.slice A m c] 28));have av:=zh (heap_alloc_new W (.cells #[.int .u8 k,.int .i64 n,.string s,.slice A m c] 28));obtain⟨W0,hW0⟩:=zX (W.alloc (.cells #[.int .u8 k,.int .i64 n,.string s,.slice A m c] 28));have q0:Below W.heap.size W W0:=hW0▸zkb zr _;rw[hW0]at hbx av;have ig:=zh q0;obtain⟨x0,x1,x2,x3⟩:=hbx;clear q0;go_enter func141,ntmps141;go_wp2_with fail;refine(HIS.out _ _ (HV.out.later ig.out)).mono ?_;rintro e w1 ⟨rfl,aa⟩;have HB1:=zh (zka ig.out aa);have aD:=zh (zkc av.out aa);obtain⟨y0,y1,y2,y3⟩:=box4 aD.out;clear aa x0 x1 x2 x3
 cases b
 ·have HN:=zh (show R=(3,S) by rw[HD.out,if_pos rfl]);go_wp2_with fail;go_ret;exact⟨by rw[HN.out];rfl,P,by rw[HN.out];exact SStp.refl HS.out HB1.out,rfl⟩
 ·by_cases qK:k=56
  ·have HN:=zh (show R=(9,S) by rw[HD.out,if_neg (by decide),if_pos qK]);subst qK;go_wp2_with fail;go_ret;exact⟨by rw[HN.out];rfl,P,by rw[HN.out];exact SStp.refl HS.out HB1.out,rfl⟩
  ·have k56:(k==56)=false:=by simpa using qK
   go_wp2_with fail;refine(rE.out _).mono ?_;rintro e w2 ⟨rfl,rfl⟩
   cases bb
   ·have HN:=zh (show R=(7,S) by rw[HD.out,if_neg (by decide),if_neg qK,if_pos rfl]);go_wp2_with fail;go_ret;exact⟨by rw[HN.out];rfl,P,by rw[HN.out];exact SStp.refl HS.out HB1.out,rfl⟩
   ·have HD2:=zh (show R=if fe≠0 then(fe,S)else zqC S t by rw[HD.out,if_neg (by decide),if_neg qK,if_neg (by decide)]);clear HD rE;go_upto_region 9 with fail;have hSS:zW (fun w':World=>zN4 w' W.heap.size (.int .u8 k) (.int .i64 n) (.string s) (.slice A m c)) zU w2.drew:=⟨⟨y0,y1,y2,y3⟩,trivial⟩
    refine wp_region_noPanic ?_;refine zG hSS 3 ?_;refine zT 0 hSS ?_;refine zT 2 hSS ?_;have had:Calls prog 156 [.pointer (some ⟨P.sb,0,none⟩)].toArray w2.drew fun e W'=>∃u,e=.returned u/\u=.pointer (some cp)/\W'=w2.drew :=
     (dm.out _ HB1.out.drew).mono fun e W' hh=>⟨_,hh.1,rfl,hh.2⟩
    refine zo 1 fun K hK=>?_;refine zke (by rfl) (.func 156) [.tmp 22] _ (by rfl) 156 _ zuA (by rfl) _ (by rfl) _ had ?_;rintro v4 w4 ⟨rfl,rfl⟩;refine hK.out _ _ hSS ?_;clear hK K had;(try simp only[zQ]);have had:Calls prog 162 [.pointer (some cp),nv k n s A m c].toArray w2.drew fun e W'=>∃u,e=.returned u/\u=.int .i64 fe/\Below w2.drew.heap.size w2.drew W' :=
     (Cw.out _ _ HB1.out.drew ((HV.out.later HB1.out).later zr.drew)).mono fun e W' hh=>⟨_,hh.1,rfl,hh.2⟩
    refine zp 3 fun K hK=>?_;refine zke (by rfl) (.func 162) [.tmp 23,.tmp 24] _ (by rfl) 162 _ zwH (by rfl) _ (by rfl) _ had ?_;rintro v5 w5 ⟨rfl,hb5⟩;have aO:=zh (zka HB1.out.drew hb5);have fO:=zh (zkc (show w2.drew.heap[W.heap.size]?=_ from aD.out) hb5);obtain⟨u0,u1,u2,u3⟩:=box4 fO.out;refine hK.out _ _ ⟨u0,u1,u2,u3⟩ ?_;clear hK K had hb5 hSS y0 y1 y2 y3;(try simp only[zQ]);refine zp 4 fun K hK=>?_;(try simp only[zA,zB,zC]);go_simp;refine hK.out _ _ ⟨u0,u1,u2,u3⟩ ?_;clear hK K;(try simp only[zQ]);refine zd ?_;refine NoPanic.normal ?_;by_cases hfe:fe=0
    ·subst hfe;have lT:=zh (q9.out (nv k n s A m c) w5 (HV.out.later aO.out) aO.out yz.out (by first|rfl|trivial) (by first|rfl|trivial) (by rw[HDE.out,HD2.out];simp));clear HD2 q9;go_wp2_with fail;refine lT.out.mono ?_;rintro e w6 ⟨rfl,hh⟩;have HH:=zh hh;clear hh;go_wp2_with fail;go_ret;exact⟨rfl,HH.out⟩
    ·have HN:=zh (show R=(fe,S) by rw[HD2.out,if_pos hfe]);have e1:(fe==0)=false:=by simpa using hfe
     have e2:(fe != 0)=true:=by simpa using hfe
     clear HD2;go_wp2_with fail;go_ret;exact⟨by rw[HN.out];rfl,P,by rw[HN.out];exact SStp.refl HS.out aO.out,rfl⟩
theorem zxe{W:World}{n0:Nat}{P:Ph}{S:ST}(h:SR W n0 P S)(t:T)(v:Value)(hv:NV W Any t v) :
  Calls prog 140 #[.pointer (some ⟨P.sb,0,none⟩),v] W (DoP n0 P S W (zoK S t)):=by
 obtain⟨k,n,s,ks⟩:=t;obtain⟨A,c,rfl,hf,hlk,hlc,hrow⟩:=hv.open_;simp only[T.k_nd,T.n_nd,T.s_nd,T.ks_nd]at *
 obtain⟨k',hk'⟩:∃k',zsM k=k':=⟨_,rfl⟩
 have hf':Fld k' n s:=by
  refine⟨?_,hf.2⟩;rw[<-hk'];unfold zsM;have:=hf.1
  split
  ·omega
  ·split
   ·omega
   ·split
    ·omega
    ·split
     ·omega
     ·split
      ·omega
      ·split
       ·omega
       ·split
        ·omega
        ·split
         ·omega
         ·exact this
 obtain⟨R,hR⟩:=zX (zoK S (.nd k n s ks));rw[hR];have bM:=zh (show ∀W',Below W.heap.size W W'->Calls prog 141 #[.pointer (some ⟨P.sb,0,none⟩),nv k' n s A ks.length c] W' (DoP n0 P S W R)from fun W' hb=>by
  have e:doE S (.nd k' n s ks)=R:=by rw[<-hR,<-hk'];rfl
  have:=zxP (h.later hb) (.nd k' n s ks) (nv k' n s A ks.length c) (NV.shut hf' hlk hlc (hrow.later hb));rw[e]at this;refine this.mono ?_;rintro e W2 ⟨a1,P',a2,a3⟩;exact⟨a1,P',⟨a2.st.after hb h.rws,a2.wf⟩,a3⟩)
 have kv:=zh (fun w=>hk'▸zrj k w);obtain⟨m,hm⟩:=zX (ks.length);rw[hm]at bM ⊢;clear h hv hR hf hf' hrow hlk hlc hm hk';go_enter func140,ntmps140;go_wp2_with fail;refine(kv.out _).mono ?_;rintro e w1 ⟨rfl,rfl⟩;go_wp2_with fail;refine(bM.out _ (zkb zr _)).mono ?_;rintro e w6 ⟨rfl,hh⟩;have HH:=zh hh;clear hh;go_wp2_with fail;go_ret;exact⟨rfl,HH.out⟩
end
end Go.Proofs.YthjinpodhacleaaGreat
