/-
  Texts of the proof, put together without their remarks: Si, Sj, Ast3, Sk, Kg.
-/
import Derived.Test.YtckhofdinldhpaaGreatR4
set_option linter.unusedSimpArgs false
set_option linter.unusedVariables false
set_option maxHeartbeats 8000000
set_option maxRecDepth 100000
namespace Go.Proofs.YtckhofdinldhpaaGreat
open Go Go.RowKit
def ST.setL (S:ST) (id:Nat) (l:List Int):ST:={ S with cell:=fun j=>if j=id then l else S.cell j }
def ST.el (S:ST) (id i:Nat):Int:=(S.cell id).getD i 0
def ST.put (S:ST) (id i:Nat) (x:Int):ST:=S.setL id ((S.cell id).set i x)
def updE (k x y:Int):Int:=if k=40 then wrap64 (x+y) else if k=41 then wrap64 (x-y) else bits BinOp.xor IntKind.i64 x y
def zlH (S:ST) (k:Int) (id i af:Nat):Int×ST :=
 if k=44 then (if 1000<=(S.cell af).length then (5,S) else (0,(S.setL af (S.cell af++[S.el id i])).put id i 0))
 else if (S.cell af).length=0 then (13,S)
 else if S.el id i≠0 then (14,S)
 else (0,(S.put id i (S.el af ((S.cell af).length-1))).setL af ((S.cell af).take ((S.cell af).length-1)))
def zkt (S:ST) (k:Int) (id i:Nat):Int×ST :=
 if k=46 then match S.tin with
  | []=>(17,S)
  | y::r=>if S.el id i≠0 then (14,S) else (0,({ S with tin:=r }:ST).put id i y)
 else if k=49 then (if S.tout=[] then (17,S) else if S.el id i≠0 then (14,S) else (0,({ S with tout:=S.tout.dropLast }:ST).put id i (S.tout.getLast?.getD 0)))
 else if k=47 then (if 4096<=S.tin.length then (5,S) else (0,({ S with tin:=S.el id i::S.tin }:ST).put id i 0))
 else (if 4096<=S.tout.length then (5,S) else (0,({ S with tout:=S.tout++[S.el id i] }:ST).put id i 0))
def CurK (S:ST) (id:Nat) (k:Int):Prop:=∃ (i:Nat) (v:VD),S.cur.vs[i]?=some v/\S.cur.cs[i]?=some id/\v.k=k
theorem CurK.kd {S:ST} {id:Nat} {k:Int} (h:CurK S id k) {kd:Nat->Int×Int} (hw:S.cur.WF kd S.nc):(kd id).1=k/\id<S.nc:=by
 obtain⟨i,v,h1,h2,h3⟩:=h;obtain⟨a1,a2⟩:=List.getElem?_eq_some_iff.1 h1;obtain⟨b1,b2⟩:=List.getElem?_eq_some_iff.1 h2;have:=hw.kind i a1 b1;rw[b2,a2] at this;exact⟨by rw[this];exact h3,b2▸hw.num _ (List.getElem_mem b1)⟩
theorem CurK.lt {S:ST} {id:Nat} {k:Int} (h:CurK S id k) (hw:S.WF):id<S.nc:=by
 obtain⟨kd,h1⟩:=hw.cur;exact(h.kd h1).2
theorem CurK.ne {S:ST} {id id':Nat} {k k':Int} (h:CurK S id k) (h':CurK S id' k') (hw:S.WF) (hk:k≠k'):id≠id':=fun e=>by
 obtain⟨kd,h1⟩:=hw.cur;subst e;exact hk ((h.kd h1).1.symm.trans (h'.kd h1).1)
theorem zKy {S:ST} (h:S.WF) (id:Nat) (l:List Int) (hl:l.length=(S.cell id).length) (hx:∀ x∈l,I64 x):(S.setL id l).WF:=by
 obtain⟨kd,h1,h2,h3⟩:=h.ex;refine⟨⟨kd,h1,h2,fun i hi=>?_⟩,h.ncalls,fun i hi=>?_,h.tin,h.tout⟩
 ·have:=h3 i hi;simp only[ST.setL];by_cases e:i=id
  ·subst e;rw[if_pos rfl,hl];exact this
  ·rw[if_neg e];exact this
 ·have:=h.cells i hi;simp only[ST.setL];by_cases e:i=id
  ·subst e;rw[if_pos rfl,hl];exact⟨this.1,hx⟩
  ·rw[if_neg e];exact this
theorem zwJ {S:ST} (h:S.WF) (id:Nat) (hk:CurK S id 3) (l:List Int) (hl:l.length<=1000) (hx:∀ x∈l,I64 x):(S.setL id l).WF:=by
 obtain⟨kd,h1,h2,h3⟩:=h.ex;have hc:S.cur.WF kd S.nc:=by
  rcases Nat.eq_zero_or_pos S.calls.length with h0|h0
  ·rw[zmj h0];exact h1
  ·rw[zmC h0];exact h2 _ (List.getElem_mem _)
 have hk3:=(hk.kd hc).1;refine⟨⟨kd,h1,h2,fun i hi=>?_⟩,h.ncalls,fun i hi=>?_,h.tin,h.tout⟩
 ·have:=h3 i hi;simp only[ST.setL];by_cases e:i=id
  ·subst e;rw[if_pos rfl];exact⟨fun e=>by omega,fun e=>by omega,.inr (.inr hk3)⟩
  ·rw[if_neg e];exact this
 ·have:=h.cells i hi;simp only[ST.setL];by_cases e:i=id
  ·subst e;rw[if_pos rfl];exact⟨hl,hx⟩
  ·rw[if_neg e];exact this
theorem zmS {S:ST} (h:S.WF) {id:Nat} (hid:id<S.nc) (i:Nat):I64 (S.el id i):=by
 unfold ST.el;rcases Nat.lt_or_ge i (S.cell id).length with hi|hi
 ·rw[List.getD_eq_getElem?_getD,List.getElem?_eq_getElem hi];exact(h.cells id hid).2 _ (List.getElem_mem hi)
 ·rw[List.getD_eq_getElem?_getD,List.getElem?_eq_none hi];exact⟨by decide,by decide⟩
theorem znE {S:ST} (h:S.WF) {id:Nat} (hid:id<S.nc) (i:Nat) (x:Int) (hx:I64 x):(S.put id i x).WF :=
 zKy h id _ (by simp) fun y hy=>by
  rcases List.mem_or_eq_of_mem_set hy with hy|rfl
  ·exact(h.cells id hid).2 y hy
  ·exact hx
def Ph.gI (P:Ph) (id:Nat):Nat:=(P.ci id).ownBlock.getD 0
def Ph.setI (P:Ph) (id:Nat) (vv:Value):Ph:={ P with ci:=fun j=>if j=id then vv else P.ci j }
theorem zv8 (l:List Int) (i:Nat) (x:Int):zkj (l.set i x)=(zkj l).set i (.int .i64 x):=by simp[zkj,List.map_set]
theorem ztl (P:Ph) (S:ST) (id i:Nat) (x:Int) (hid:id<S.nc):rows P (S.put id i x)=updR (rows P S) (.ci id) { rows P S (.ci id) with xs:=(rows P S (.ci id)).xs.set i (.int .i64 x) }:=by
 funext r
 cases r with
 | ci j =>
  by_cases e:j=id
  ·subst e;simp[updR,rows,ST.put,ST.setL,hid,zv8]
  ·simp[updR,rows,ST.put,ST.setL,e]
 | cb j=>rfl
 | _=>simp[updR,rows,ST.put,ST.setL]
theorem zve (P:Ph) (S:ST) (id:Nat) (vv:Value) (l:List Int) (hid:id<S.nc):rows (P.setI id vv) (S.setL id l)=updR (updR (rows P S) (.ci id) ⟨vv,3,1,l.length,zkj l⟩) (.cb id) { rows P S (.cb id) with xs:=(rows P S (.cb id)).xs.set 0 vv }:=by
 funext r
 cases r with
 | ci j =>
  by_cases e:j=id
  ·subst e;simp[updR,rows,Ph.setI,ST.setL,hid]
  ·simp[updR,rows,Ph.setI,ST.setL,e]
 | cb j =>
  by_cases e:j=id
  ·subst e;simp[updR,rows,Ph.setI,ST.setL,hid]
  ·simp[updR,rows,Ph.setI,ST.setL,e]
 | calls=>simp only[updR,reduceCtorEq,if_false,rows,ST.setL];rw[zlN (P:=P) (P':=P.setI id vv) rfl rfl];rfl
 | _=>simp[updR,rows,Ph.setI,ST.setL]
section
variable {W:World} {n0:Nat} {P:Ph} {S:ST}
theorem SR.plc (h:SR W n0 P S) {id i:Nat} (hid:id<S.nc) (hi:i<(S.cell id).length):(∃ c,P.ci id=.slice (some ⟨P.gI id,0,none⟩) (S.cell id).length c/\(S.cell id).length<=c)/\W.cell? ⟨P.gI id,i,none⟩=some (.int .i64 (S.el id i))/\W.frozen? ⟨P.gI id,i,none⟩=false:=by
 have hr:=h.rws.row (.ci id);simp only[rows,hid,if_true] at hr;obtain⟨g,c,hv,hc,_,hcell⟩:=zlt hr (by omega);have hg:P.gI id=g:=by simp[Ph.gI,hv,Value.ownBlock]
 refine⟨⟨c,by rw[hg];exact hv,hc⟩,?_,?_⟩
 ·rw[hg,hcell i (by omega)];simp[zkj,ST.el,hi]
 ·exact h.rws.frozen (.ci id) (by simp only[rows,hid,if_true];rw[hv,hg];rfl) i
theorem SR.own (h:SR W n0 P S) {id i:Nat} (hid:id<S.nc) (hi:i<(S.cell id).length):(rows P S (.ci id)).v.ownBlock=some (P.gI id):=by
 obtain⟨⟨c,hv,_⟩,_⟩:=h.plc hid hi;simp only[rows,hid,if_true];rw[hv];rfl
theorem SR.put (h:SR W n0 P S) {id i:Nat} (hid:id<S.nc) (hi:i<(S.cell id).length) (x:Int) (hx:I64 x):SStp n0 P S W P (S.put id i x) (W.setCell ⟨P.gI id,i,none⟩ (.int .i64 x)):=by
 refine⟨?_,znE h.wf hid i x hx⟩;have:=Stp.set (i:=Res.ci id) h.rws (g:=P.gI id) (h.own hid hi) (o:=i) (by simp only[rows,hid,if_true,zkB];exact hi) (.int .i64 x);exact this.cast (ztl P S id i x hid).symm
end
theorem SR.stk {W W2:World} {n0:Nat} {P:Ph} {S:ST} (h:SR W n0 P S) (af:Nat) (hs:CurK S af 3) (l:List Int) (vv:Value) (hl:l.length<=1000) (hx:∀ x∈l,I64 x) (hc:Chg (fun b=>(P.ci af).ownBlock=some b) W W2) (ho:W2.ownsRow n0 3 1 vv l.length (zkj l)) (aR:∀ b,vv.ownBlock=some b->(P.ci af).ownBlock=some b\/W.heap.size<=b) :
  W2.cell? ⟨P.cb af,0,none⟩=some (P.ci af)/\W2.frozen? ⟨P.cb af,0,none⟩=false/\SStp n0 P S W (P.setI af vv) (S.setL af l) (W2.setCell ⟨P.cb af,0,none⟩ vv):=by
 have hid:=hs.lt h.wf;have ev:(rows P S (.ci af)).v=P.ci af:=by simp only[rows,hid,if_true]
 have s1:=Stp.upd (i:=Res.ci af) (r:=⟨vv,3,1,l.length,zkj l⟩) h.rws (hc.mono fun b _ hb=>by rw[ev];exact hb) ho (fun b hb=>by rw[ev];exact aR b hb);have eb:updR (rows P S) (.ci af) ⟨vv,3,1,l.length,zkj l⟩ (.cb af)=rows P S (.cb af):=zko (by simp);have tT:rows P S (.cb af)=⟨boxV (P.cb af),100,1,1,[P.ci af]⟩:=by simp only[rows,hid,if_true]
 have s2:=Stp.set (i:=Res.cb af) s1.rws (g:=P.cb af) (by rw[eb,tT];rfl) (o:=0) (by rw[eb,tT];exact Nat.one_pos) vv;rw[eb] at s2;refine⟨s1.rws.cell (.cb af) (g:=P.cb af) (o:=0) (by rw[eb,tT];rfl) (by rw[eb,tT];rfl),s1.rws.frozen (.cb af) (g:=P.cb af) (by rw[eb,tT];rfl) 0,⟨(s1.trans s2).cast (zve P S af vv l hid).symm,zwJ h.wf af hs l hl hx⟩⟩
theorem zKU:(Tryz.prog.info? 3).map (fun i=>(i.zero,i.size,i.bytes))=some (some (.int .i64 0),1,8):=zpy
theorem zxN {W:World} {n0:Nat} {P:Ph} {S:ST} (h:SR W n0 P S) (k:Int) (hk:k=44\/k=45) (id i af:Nat) (hid:id<S.nc) (hi:i<(S.cell id).length) (hs:CurK S af 3) (hne:id≠af) :
  Calls Tryz.prog 113 #[.int .u8 k,.pointer (some ⟨P.gI id,i,none⟩),.pointer (some ⟨P.cb af,0,none⟩)] W fun e W'=>e=.returned (.int .i64 (zlH S k id i af).1)/\∃ P',SStp n0 P S W P' (zlH S k id i af).2 W'/\P'.sb=P.sb:=by
 have bP:=hs.lt h.wf;obtain⟨R,hR⟩:∃ R,zlH S k id i af=R:=⟨_,rfl⟩
 rw[hR];have HRR:=zh hR;have HS:=zh h;have HK:=zh hs;obtain⟨A,c,hci,hc,aU⟩:=h.items bP;have hcs:=h.wf.cells af bP;have x0:W.cell? ⟨P.cb af,0,none⟩=some (.slice A (S.cell af).length c):=by rw[<-hci];exact zc (h.cbox bP) rfl
 obtain⟨-,p0,p1⟩:=h.plc hid hi;obtain⟨x,hx⟩:∃ x,S.el id i=x:=⟨_,rfl⟩
 rw[hx] at p0;have HX:=zh hx;obtain⟨L,hL⟩:∃ L,(S.cell af).length=L:=⟨_,rfl⟩
 rw[hL] at x0;have HL:=zh hL;have hL1:L<=1000:=by rw[<-hL];exact hcs.1
 have uy:=zh hci;have dM:=zh aU;clear h hs hci aU hx hL hR hc;rcases hk with rfl|rfl
 ·by_cases hf:1000<=L
  ·have HN:=zh (show R=(5,S) by rw[<-HRR.out,zlH,if_pos rfl,if_pos (by rw[HL.out];exact hf)]);obtain rfl:L=1000:=by omega
   go_enter Tryz.func113,Tryz.ntmps113;go_wp2_with fail;go_ret;exact⟨by rw[HN.out];rfl,P,by rw[HN.out];exact SStp.refl HS.out (Below.refl _ _),rfl⟩
  ·have HN:=zh (show R=(0,(S.setL af (S.cell af++[x])).put id i 0) by rw[<-HRR.out,zlH,if_pos rfl,if_neg (by rw[HL.out];exact hf),HX.out]);have hf1:¬ (1000:Int)<=(L:Int):=by omega
   obtain⟨i1,hi1,hz0,hz1,hz2⟩:=info_parts zKU;have hbi:=zpQ;have uI:I64 x:=by rw[<-HX.out];exact zmS HS.out.wf hid i
   clear HRR;go_enter Tryz.func113,Tryz.ntmps113;go_upto_region 7 with fail;have hSS:(fun w':World=>w'.cell? ⟨P.gI id,i,none⟩=some (.int .i64 x)) W.drew/\(fun w':World=>w'.cell? ⟨P.cb af,0,none⟩=some (.slice A L c)) W.drew:=⟨p0,x0⟩
   refine wp_region_noPanic ?_;refine zkc (fun w':World=>w'.cell? ⟨P.gI id,i,none⟩=some (.int .i64 x)) (fun w':World=>w'.cell? ⟨P.cb af,0,none⟩=some (.slice A L c)) 9 (by kernel_rfl) ?_;refine zT 0 hSS ?_;(try simp only[zQ]);refine zT 1 hSS ?_;(try simp only[zQ]);refine zT 2 hSS ?_;(try simp only[zQ]);refine zT 3 hSS ?_;(try simp only[zQ]);refine zkV (i:=4) (v:=?_) rfl (by kernel_rfl) (by kernel_rfl) (by kernel_rfl) (by decide) rfl (by kernel_rfl) (by kernel_rfl) (fun _ _ _ h=>h) (Or.inl ⟨by rfl,?_⟩) hSS ?_;rotate_left 1
   ·(intro w hSw;(try dsimp only at hSw);(try simp only[zA,zB,zC]);go_simp;(try with_reducible rfl))
   (try simp only[zQ]);refine zT 5 hSS ?_;(try simp only[zQ]);refine zT 6 hSS ?_;(try simp only[zQ]);refine zT 7 hSS ?_;(try simp only[zQ]);refine zo 8 fun K hK=>?_;(try simp only[zA,zB,zC]);go_simp;refine hK.out _ _ ⟨zke p0 _,zke x0 _⟩ ?_;clear hK K hSS;(try simp only[zQ]);obtain⟨W2,hW2⟩:∃ W2,(W.alloc (.cells #[.int .i64 x] 3)).drew=W2:=⟨_,rfl⟩
   have hb2:Below W.heap.size W W2:=hW2▸(zkb (Below.refl _ _) _).drew;have aF:=zh (show ∀ j u,[Value.int .i64 x][j]?=some u->W2.cell? ((⟨W.heap.size,0,none⟩:Addr).add j)=some u from hW2▸zk3 W 3 [.int .i64 x]);have sW:W2.ownsRow n0 3 1 (.slice A L c) L (zkj (S.cell af)):=by
    have:=zk7 (HS.out.rws.row (.ci af)) hb2;simp only[rows,bP,if_true] at this;rw[uy.out,HL.out] at this;exact this
   have hs2:=hb2.size;have d0:=zb hb2 p0;have hn0:=(HS.out.rws.lt .sb P.sb rfl)
   have HST:=zh (fun w3 vv=>SR.stk (W2:=w3) (HS.out.later hb2) af HK.out (S.cell af++[x]) vv (by rw[List.length_append,HL.out];simp;omega) (fun y hy=>by
    simp only[List.mem_append,List.mem_singleton] at hy;rcases hy with hy|rfl
    ·exact(hcs.2 y hy)
    ·exact uI))
   rw[hW2];have hnb:∀ b,(P.ci af).ownBlock=some b->b≠P.gI id:=fun b hb e=>by
    have h1:=HS.out.own hid hi;rw[<-e] at h1;exact HS.out.rws.sep (.ci id) (.ci af) b (by simpa using hne) h1 (by simp only[rows,bP,if_true];exact hb)
   rw[uy.out] at HST hnb;rw[HL.out] at HST hnb;have sI:=zh hnb;have iV:=zh hb2;clear hW2 hnb hb2;refine zp 9 fun K hK=>?_;refine zlh (by rfl) (.tmp 47) (.tmp 51) 24 (by rfl) n0 3 i1 _ 1 8 Tryz.underlying24 hi1 hz0 hz1 hz2 rfl (by decide) (.slice A L c) L (zkj (S.cell af)) (by rfl) sW ⟨W.heap.size,0,none⟩ 1 1 [.int .i64 x] (by rfl) rfl aF.out (by intro u hu;simp at hu;subst hu;rfl) (by unfold maxLen;omega) (by omega) (by omega) ?_;intro v' w3 h2 h3 h5;obtain⟨g8,ay,rfl⟩:=ownsRow_succ h2;have hll:(S.cell af++[x]).length=L+1:=by rw[List.length_append,HL.out];rfl
   obtain⟨z0,zf,hfin⟩:=HST.out w3 _ (Chg.row h3) (by rw[hll,znb];exact h2) (fun b hb=>by
    rcases h5 with h5|h5
    ·exact .inl (h5▸hb)
    ·exact .inr (by rw[h5] at hb;injection hb with hb;omega))
   have y0:w3.cell? ⟨P.gI id,i,none⟩=some (.int .i64 x):=zlc (Chg.row h3) d0 (fun e=>sI.out _ e rfl);have hput:=SR.put (hfin.sr) (id:=id) (i:=i) hid (by show i<((S.setL af _).cell id).length;simp only[ST.setL,if_neg hne];exact hi) 0 ⟨by decide,by decide⟩;have hgi:(P.setI af (.slice (some ⟨g8,0,none⟩) (L+1) ay)).gI id=P.gI id:=by simp[Ph.gI,Ph.setI,hne]
   rw[hgi] at hput;have kH:P.cb af≠P.gI id:=fun e=>by
    have h1:=HS.out.own hid hi;exact HS.out.rws.sep (.ci id) (.cb af) (P.gI id) (by simp) h1 (by simp only[rows,bP,if_true];rw[e];rfl)
   have y1:(w3.setCell ⟨P.cb af,0,none⟩ (.slice (some ⟨g8,0,none⟩) (L+1) ay)).cell? ⟨P.gI id,i,none⟩=some (.int .i64 x):=(World.cell?_setCell_far _ _ _ _ kH).trans y0;have aS:=zh (hfin.trans hput);have hfr:=hfin.sr.plc (id:=id) (i:=i) hid (by show i<((S.setL af _).cell id).length;simp only[ST.setL,if_neg hne];exact hi);rw[hgi] at hfr;have yf:=hfr.2.2;refine hK.out _ _ y0 ?_;clear hK K h2 h3 h5 hfin hput sW aF d0 hfr;(try simp only[zQ]);refine zp 10 fun K hK=>?_;(try simp only[zA,zB,zC]);go_simp;refine hK.out _ _ y0 ?_;clear hK K;(try simp only[zQ]);refine zp 11 fun K hK=>?_;(try simp only[zA,zB,zC]);go_simp;refine hK.out _ _ y0 ?_;clear hK K;(try simp only[zQ]);refine zp 12 fun K hK=>?_;(try simp only[zA,zB,zC]);go_simp;refine hK.out _ _ y1 ?_;clear hK K;(try simp only[zQ]);refine zd ?_;refine NoPanic.normal ?_
   obtain⟨w4,hw4⟩:∃ w4,w3.setCell ⟨P.cb af,0,none⟩ (.slice (some ⟨g8,0,none⟩) (L+1) ay)=w4:=⟨_,rfl⟩
   rw[hw4] at y1 yf aS ⊢;clear hw4 z0 zf y0;go_wp2_with fail;go_ret;refine⟨by rw[HN.out];rfl,P.setI af (.slice (some ⟨g8,0,none⟩) (L+1) ay),?_,rfl⟩;rw[HN.out];exact⟨aS.out.st.after iV.out HS.out.rws,aS.out.wf⟩
 ·rcases Nat.eq_zero_or_pos L with h0|h0
  ·subst h0;have HN:=zh (show R=(13,S) by rw[<-HRR.out,zlH,if_neg (by decide),if_pos HL.out]);go_enter Tryz.func113,Tryz.ntmps113;go_wp2_with fail;go_ret;exact⟨by rw[HN.out];rfl,P,by rw[HN.out];exact SStp.refl HS.out (Below.refl _ _),rfl⟩
  ·obtain⟨m,rfl⟩:∃ m,L=m+1:=⟨L-1,by omega⟩
   have hm0:¬ ((m:Int)+1=0):=by omega
   have hm1:(((m:Int)+1)==0)=false:=by simpa using hm0
   by_cases hx0:x=0
   ·subst hx0;obtain⟨a,rfl,hz⟩:=dM.out.nd (i:=m) (by rw[HL.out];omega);obtain⟨y,hy⟩:∃ y,(S.cell af).getD m 0=y:=⟨_,rfl⟩
    rw[hy] at hz;have HN:=zh (show R=(0,(S.put id i y).setL af ((S.cell af).take m)) by
     rw[<-HRR.out,zlH,if_neg (by decide),if_neg (by rw[HL.out];omega),if_neg (by rw[HX.out];simp),HL.out];rw[show S.el af (m+1-1)=y from hy];rfl)
    have oU:I64 y:=by rw[<-hy];exact zmS HS.out.wf bP m
    have s1:=HS.out.put hid hi y oU;obtain⟨g,c2,hv2,hc2,hm2,hcell2⟩:=zlt (HS.out.rws.row (.ci af)) (by simp only[rows,bP,if_true];rw[HL.out];omega);simp only[rows,bP,if_true] at hv2 hc2;rw[HL.out] at hc2;rw[uy.out] at hv2;injection hv2 with a1 a2 a3;injection a1 with a1;subst a1 a3;rw[Addr.add_lit,Nat.zero_add] at hz;have kH:P.cb af≠P.gI id:=fun e=>by
     have h1:=HS.out.own hid hi;exact HS.out.rws.sep (.ci id) (.cb af) (P.gI id) (by simp) h1 (by simp only[rows,bP,if_true];rw[e];rfl)
    have x1:(W.setCell ⟨P.gI id,i,none⟩ (.int .i64 y)).cell? ⟨P.cb af,0,none⟩=some (.slice (some ⟨g,0,none⟩) (m+1) c):=(World.cell?_setCell_far _ _ _ _ (Ne.symm kH)).trans x0;have hrow1:(W.setCell ⟨P.gI id,i,none⟩ (.int .i64 y)).ownsRow n0 3 1 (.slice (some ⟨g,0,none⟩) m c) m (zkj ((S.cell af).take m)):=by
     have:=s1.st.rws.row (.ci af);have e1:rows P (S.put id i y) (.ci af)=⟨.slice (some ⟨g,0,none⟩) (m+1) c,3,1,m+1,zkj (S.cell af)⟩:=by
      rw[ztl P S id i y hid,zko (by simpa using Ne.symm hne)];simp only[rows,bP,if_true];rw[uy.out,HL.out]
     rw[e1] at this;have e2:zkj (S.cell af)=zkj ((S.cell af).take m)++(zkj (S.cell af)).drop (m*1):=by rw[Nat.mul_one,zkj,zkj,List.map_take,List.take_append_drop]
     dsimp only at this;rw[e2] at this;exact ownsRow_pop (by rw[zkB,List.length_take,HL.out];omega) this
    have hltm:((S.cell af).take m).length=m:=by rw[List.length_take,HL.out];omega
    have hcell1:(S.put id i y).cell af=S.cell af:=by simp[ST.put,ST.setL,Ne.symm hne]
    obtain⟨z0,zf,hfin⟩:=SR.stk (W2:=W.setCell ⟨P.gI id,i,none⟩ (.int .i64 y)) s1.sr af HK.out ((S.cell af).take m) (.slice (some ⟨g,0,none⟩) m c) (by omega) (fun q hq=>hcs.2 q (List.mem_of_mem_take hq)) (Chg.refl _ _) (by rw[hltm];exact hrow1) (fun b hb=>.inl (by rw[uy.out];exact hb));have aS:=zh (s1.trans hfin);have hw1:IntKind.i64.wrap (m:Int)=(m:Int):=IntWalk.i64_in _ (by omega);have hmc:(m:Int)<=(c:Int):=by omega
    have hmm:(m:Int)<(m:Int)+1:=by omega
    clear s1 hfin hrow1 z0 hcell2 HRR;go_enter Tryz.func113,Tryz.ntmps113;go_wp2_with fail;go_ret;refine⟨by rw[HN.out];rfl,P.setI af (.slice (some ⟨g,0,none⟩) m c),?_,rfl⟩;rw[HN.out];exact aS.out
   ·have HN:=zh (show R=(14,S) by rw[<-HRR.out,zlH,if_neg (by decide),if_neg (by rw[HL.out];omega),if_pos (by rw[HX.out];exact hx0)]);have hx1:(x != 0)=true:=by simpa using hx0
    have hx2:(x==0)=false:=by simpa using hx0
    go_enter Tryz.func113,Tryz.ntmps113;go_wp2_with fail;go_ret;exact⟨by rw[HN.out];rfl,P,by rw[HN.out];exact SStp.refl HS.out (Below.refl _ _),rfl⟩
theorem zv1:IsFn Tryz.prog 146 Tryz.f146:=⟨Tryz.func146,by kernel_rfl,by kernel_rfl⟩
theorem zx3:IsFn Tryz.prog 148 Tryz.f148:=⟨Tryz.func148,by kernel_rfl,by kernel_rfl⟩
theorem SR.tp {W:World} {n0:Nat} {P:Ph} {S:ST} (h:SR W n0 P S):W.cell? ⟨P.sb,4,none⟩=some (.pointer (some ⟨P.tb,0,none⟩)):=zc h.box rfl
theorem zro {W:World} {n0:Nat} {P:Ph} {S:ST} (h:SR W n0 P S) (k:Int) (hk:k=46\/k=49\/k=47\/k=48) (id i:Nat) (hid:id<S.nc) (hi:i<(S.cell id).length) :
  Calls Tryz.prog 114 #[.pointer (some ⟨P.sb,0,none⟩),.int .u8 k,.pointer (some ⟨P.gI id,i,none⟩)] W fun e W'=>e=.returned (.int .i64 (zkt S k id i).1)/\∃ P',SStp n0 P S W P' (zkt S k id i).2 W'/\P'.sb=P.sb:=by
 obtain⟨R,hR⟩:∃ R,zkt S k id i=R:=⟨_,rfl⟩
 rw[hR];have HRR:=zh hR;have HS:=zh h;have x4:=h.tp;obtain⟨-,p0,p1⟩:=h.plc hid hi;obtain⟨x,hx⟩:∃ x,S.el id i=x:=⟨_,rfl⟩
 rw[hx] at p0;have HX:=zh hx;have uI:I64 x:=by rw[<-hx];exact zmS h.wf hid i
 clear hR hx h;rcases hk with rfl|rfl|rfl|rfl
 ·have lW:=zh (zyR HS.out);go_enter Tryz.func114,Tryz.ntmps114;go_wp2_with fail;refine lW.out.mono ?_;rintro e w1 hh;rcases hh with⟨h0,rfl,hb⟩|⟨y,r,h0,rfl,vv,hst⟩
  ·have HN:=zh (show R=(17,S) by rw[<-HRR.out,zkt,if_pos rfl,h0]);have HB:=zh hb;clear h0 hb;go_wp2_with fail;go_ret;exact⟨by rw[HN.out];rfl,P,by rw[HN.out];exact SStp.refl HS.out HB.out,rfl⟩
  ·have ht:=HS.out.wf.tin;rw[h0] at ht;have oU:I64 y:=ht.2 y (List.mem_cons_self ..);have y4:w1.cell? ⟨P.sb,4,none⟩=some (.pointer (some ⟨P.tb,0,none⟩)):=hst.sr.tp;obtain⟨-,r0,r1⟩:=hst.sr.plc (id:=id) (i:=i) hid hi;have r0':w1.cell? ⟨P.gI id,i,none⟩=some (.int .i64 x):=by rw[<-HX.out];exact r0
   have r1':w1.frozen? ⟨P.gI id,i,none⟩=false:=r1;by_cases hx0:x=0
   ·subst hx0;have HN:=zh (show R=(0,({ S with tin:=r }:ST).put id i y) by rw[<-HRR.out,zkt,if_pos rfl,h0];dsimp only;rw[HX.out];simp);have fJ:=zh (hst.trans (hst.sr.put (id:=id) (i:=i) hid hi y oU));clear h0 hst ht r0 r1;go_wp2_with fail;go_ret;exact⟨by rw[HN.out];rfl,{ P with vI:=vv },by rw[HN.out];exact fJ.out,rfl⟩
   ·have HN:=zh (show R=(14,S) by rw[<-HRR.out,zkt,if_pos rfl,h0];dsimp only;rw[HX.out,if_pos hx0]);have hx1:(x != 0)=true:=by simpa using hx0
    have hx2:(x==0)=false:=by simpa using hx0
    have xw:=zh (zqF hst.sr y oU);have hrl:¬ 4096<=r.length:=by have:=ht.1;simp at this;omega
    have HST:=zh hst;have H0:=zh h0;clear h0 hst ht r0 r1;go_wp2_with fail;refine xw.out.mono ?_;rintro e w2 hh;rcases hh with⟨h1,rfl,hb⟩|⟨h1,rfl,vR,gK⟩
    ·exact absurd h1 hrl
    ·have HS2:=zh gK;clear h1 gK;go_wp2_with fail;go_ret;refine⟨by rw[HN.out];rfl,{ P with vI:=vR },?_,rfl⟩;rw[HN.out];have h3:=HST.out.trans HS2.out;have e3:({ { S with tin:=r } with tin:=y::({ S with tin:=r }:ST).tin }:ST)=S:=by
      show({ S with tin:=y::r }:ST)=S
      rw[<-H0.out]
     rw[e3] at h3;exact h3
 ·have lW:=zh (zs2 HS.out);go_enter Tryz.func114,Tryz.ntmps114;go_wp2_with fail;refine lW.out.mono ?_;rintro e w1 hh;rcases hh with⟨h0,rfl,hb⟩|⟨r,y,h0,rfl,vv,hst⟩
  ·have HN:=zh (show R=(17,S) by rw[<-HRR.out,zkt,if_neg (by decide),if_pos rfl,if_pos h0]);have HB:=zh hb;clear h0 hb;go_wp2_with fail;go_ret;exact⟨by rw[HN.out];rfl,P,by rw[HN.out];exact SStp.refl HS.out HB.out,rfl⟩
  ·have ht:=HS.out.wf.tout;rw[h0] at ht;have oU:I64 y:=ht.2 y (by simp);have hne:S.tout≠[]:=by rw[h0];simp
   have hdl:S.tout.dropLast=r:=by rw[h0];simp
   have hgl:S.tout.getLast?.getD 0=y:=by rw[h0];simp
   have y4:w1.cell? ⟨P.sb,4,none⟩=some (.pointer (some ⟨P.tb,0,none⟩)):=hst.sr.tp;obtain⟨-,r0,r1⟩:=hst.sr.plc (id:=id) (i:=i) hid hi;have r0':w1.cell? ⟨P.gI id,i,none⟩=some (.int .i64 x):=by rw[<-HX.out];exact r0
   have r1':w1.frozen? ⟨P.gI id,i,none⟩=false:=r1;by_cases hx0:x=0
   ·subst hx0;have HN:=zh (show R=(0,({ S with tout:=r }:ST).put id i y) by rw[<-HRR.out,zkt,if_neg (by decide),if_pos rfl,if_neg hne,hdl,hgl,HX.out];simp);have fJ:=zh (hst.trans (hst.sr.put (id:=id) (i:=i) hid hi y oU));clear h0 hst ht r0 r1 hne hdl hgl;go_wp2_with fail;go_ret;exact⟨by rw[HN.out];rfl,{ P with vO:=vv },by rw[HN.out];exact fJ.out,rfl⟩
   ·have HN:=zh (show R=(14,S) by rw[<-HRR.out,zkt,if_neg (by decide),if_pos rfl,if_neg hne,HX.out,if_pos hx0]);have hx1:(x != 0)=true:=by simpa using hx0
    have hx2:(x==0)=false:=by simpa using hx0
    have xw:=zh (zsb hst.sr y oU);have hrl:¬ 4096<=r.length:=by have:=ht.1;simp at this;omega
    have HST:=zh hst;have H0:=zh h0;clear h0 hst ht r0 r1 hne hdl hgl;go_wp2_with fail;refine xw.out.mono ?_;rintro e w2 hh;rcases hh with⟨h1,rfl,hb⟩|⟨h1,rfl,vR,gK⟩
    ·exact absurd h1 hrl
    ·have HS2:=zh gK;clear h1 gK;go_wp2_with fail;go_ret;refine⟨by rw[HN.out];rfl,{ P with vO:=vR },?_,rfl⟩;rw[HN.out];have h3:=HST.out.trans HS2.out;have e3:({ { S with tout:=r } with tout:=({ S with tout:=r }:ST).tout++[y] }:ST)=S:=by
      show({ S with tout:=r++[y] }:ST)=S
      rw[<-H0.out]
     rw[e3] at h3;exact h3
 ·skip
  have had:Calls Tryz.prog 146 [.pointer (some ⟨P.tb,0,none⟩),.int .i64 x].toArray W.drew fun e W'=>∃ u,e=.returned u/\∃ y,u=.int .i64 y /\
    ((y=5/\R=(5,S)/\Below W.heap.size W W')\/(y=0/\R=(0,({ S with tin:=x::S.tin }:ST).put id i 0)/\∃ vv,SStp n0 P S W { P with vI:=vv } ({ S with tin:=x::S.tin }:ST) W')):=by
   refine(zqF (HS.out.later (Below.refl _ _).drew) x uI).mono ?_;rintro e W' hh;rcases hh with⟨h0,rfl,hb⟩|⟨h0,rfl,vv,hst⟩
   ·exact⟨_,rfl,5,rfl,.inl ⟨rfl,by rw[<-HRR.out,zkt,if_neg (by decide),if_neg (by decide),if_pos rfl,if_pos h0],zka (Below.refl _ _).drew hb⟩⟩
   ·exact⟨_,rfl,0,rfl,.inr ⟨rfl,by rw[<-HRR.out,zkt,if_neg (by decide),if_neg (by decide),if_pos rfl,if_neg (by omega),HX.out],vv,⟨hst.st.after (Below.refl _ _).drew HS.out.rws,hst.wf⟩⟩⟩
  go_enter Tryz.func114,Tryz.ntmps114;go_upto_region 17 with fail;have hSS:(fun w':World=>w'.cell? ⟨P.sb,4,none⟩=some (.pointer (some ⟨P.tb,0,none⟩))/\w'.cell? ⟨P.gI id,i,none⟩=some (.int .i64 x)) W.drew/\(fun _:World=>True) W.drew:=⟨⟨x4,p0⟩,trivial⟩
  refine wp_region_noPanic ?_;refine zkc (fun w':World=>w'.cell? ⟨P.sb,4,none⟩=some (.pointer (some ⟨P.tb,0,none⟩))/\w'.cell? ⟨P.gI id,i,none⟩=some (.int .i64 x)) (fun _:World=>True) 7 (by kernel_rfl) ?_;refine zT 0 hSS ?_;(try simp only[zQ]);refine zT 1 hSS ?_;(try simp only[zQ]);refine zT 2 hSS ?_;(try simp only[zQ]);refine zT 3 hSS ?_;(try simp only[zQ]);refine zT 4 hSS ?_;(try simp only[zQ]);refine zT 5 hSS ?_;(try simp only[zQ]);refine zT 6 hSS ?_;(try simp only[zQ]);refine zp 7 fun K hK=>?_;refine zkh (by rfl) (.func 146) [.tmp 72,.tmp 75] _ (by rfl) 146 _ zv1 (by rfl) _ (by rfl) _ had ?_;rintro v4 w4 ⟨y,rfl,hh⟩;have HH:=zh hh;have rW:w4.cell? ⟨P.sb,4,none⟩=some (.pointer (some ⟨P.tb,0,none⟩))/\w4.cell? ⟨P.gI id,i,none⟩=some (.int .i64 x)/\w4.frozen? ⟨P.gI id,i,none⟩=false:=by
   rcases hh with⟨_,_,hb⟩|⟨_,_,vv,hst⟩
   ·exact⟨zb hb x4,zb hb p0,((HS.out.later hb).plc hid hi).2.2⟩
   ·have h9:=hst.sr.plc (id:=id) (i:=i) hid hi;exact⟨hst.sr.tp,by rw[<-HX.out];exact h9.2.1,h9.2.2⟩
  obtain⟨b4,b5,b6⟩:=rW;refine hK.out _ _ ⟨b4,b5⟩ ?_;clear hK K hSS had hh;(try simp only[zQ]);refine zp 8 fun K hK=>?_;(try simp only[zA,zB,zC]);go_simp;refine hK.out _ _ ⟨b4,b5⟩ ?_;clear hK K;(try simp only[zQ]);refine zd ?_;refine NoPanic.normal ?_;rcases HH.out with⟨rfl,h1,hb⟩|⟨rfl,h1,vv,hst⟩
  ·have HN:=zh h1;have HB:=zh hb;clear HH h1 hb;go_wp2_with fail;go_ret;exact⟨by rw[HN.out];rfl,P,by rw[HN.out];exact SStp.refl HS.out HB.out,rfl⟩
  ·have HN:=zh h1;have fJ:=zh (hst.trans (hst.sr.put (id:=id) (i:=i) hid hi 0 ⟨by decide,by decide⟩));clear HH h1 hst;go_wp2_with fail;go_ret;exact⟨by rw[HN.out];rfl,{ P with vI:=vv },by rw[HN.out];exact fJ.out,rfl⟩
 ·skip
  have had:Calls Tryz.prog 148 [.pointer (some ⟨P.tb,0,none⟩),.int .i64 x].toArray W.drew fun e W'=>∃ u,e=.returned u/\∃ y,u=.int .i64 y /\
    ((y=5/\R=(5,S)/\Below W.heap.size W W')\/(y=0/\R=(0,({ S with tout:=S.tout++[x] }:ST).put id i 0)/\∃ vv,SStp n0 P S W { P with vO:=vv } ({ S with tout:=S.tout++[x] }:ST) W')):=by
   refine(zsb (HS.out.later (Below.refl _ _).drew) x uI).mono ?_;rintro e W' hh;rcases hh with⟨h0,rfl,hb⟩|⟨h0,rfl,vv,hst⟩
   ·exact⟨_,rfl,5,rfl,.inl ⟨rfl,by rw[<-HRR.out,zkt,if_neg (by decide),if_neg (by decide),if_neg (by decide),if_pos h0],zka (Below.refl _ _).drew hb⟩⟩
   ·exact⟨_,rfl,0,rfl,.inr ⟨rfl,by rw[<-HRR.out,zkt,if_neg (by decide),if_neg (by decide),if_neg (by decide),if_neg (by omega),HX.out],vv,⟨hst.st.after (Below.refl _ _).drew HS.out.rws,hst.wf⟩⟩⟩
  go_enter Tryz.func114,Tryz.ntmps114;go_upto_region 19 with fail;have hSS:(fun w':World=>w'.cell? ⟨P.sb,4,none⟩=some (.pointer (some ⟨P.tb,0,none⟩))/\w'.cell? ⟨P.gI id,i,none⟩=some (.int .i64 x)) W.drew/\(fun _:World=>True) W.drew:=⟨⟨x4,p0⟩,trivial⟩
  refine wp_region_noPanic ?_;refine zkc (fun w':World=>w'.cell? ⟨P.sb,4,none⟩=some (.pointer (some ⟨P.tb,0,none⟩))/\w'.cell? ⟨P.gI id,i,none⟩=some (.int .i64 x)) (fun _:World=>True) 7 (by kernel_rfl) ?_;refine zT 0 hSS ?_;(try simp only[zQ]);refine zT 1 hSS ?_;(try simp only[zQ]);refine zT 2 hSS ?_;(try simp only[zQ]);refine zT 3 hSS ?_;(try simp only[zQ]);refine zT 4 hSS ?_;(try simp only[zQ]);refine zT 5 hSS ?_;(try simp only[zQ]);refine zT 6 hSS ?_;(try simp only[zQ]);refine zp 7 fun K hK=>?_;refine zkh (by rfl) (.func 148) [.tmp 82,.tmp 85] _ (by rfl) 148 _ zx3 (by rfl) _ (by rfl) _ had ?_;rintro v4 w4 ⟨y,rfl,hh⟩;have HH:=zh hh;have rW:w4.cell? ⟨P.sb,4,none⟩=some (.pointer (some ⟨P.tb,0,none⟩))/\w4.cell? ⟨P.gI id,i,none⟩=some (.int .i64 x)/\w4.frozen? ⟨P.gI id,i,none⟩=false:=by
   rcases hh with⟨_,_,hb⟩|⟨_,_,vv,hst⟩
   ·exact⟨zb hb x4,zb hb p0,((HS.out.later hb).plc hid hi).2.2⟩
   ·have h9:=hst.sr.plc (id:=id) (i:=i) hid hi;exact⟨hst.sr.tp,by rw[<-HX.out];exact h9.2.1,h9.2.2⟩
  obtain⟨b4,b5,b6⟩:=rW;refine hK.out _ _ ⟨b4,b5⟩ ?_;clear hK K hSS had hh;(try simp only[zQ]);refine zp 8 fun K hK=>?_;(try simp only[zA,zB,zC]);go_simp;refine hK.out _ _ ⟨b4,b5⟩ ?_;clear hK K;(try simp only[zQ]);refine zd ?_;refine NoPanic.normal ?_;rcases HH.out with⟨rfl,h1,hb⟩|⟨rfl,h1,vv,hst⟩
  ·have HN:=zh h1;have HB:=zh hb;clear HH h1 hb;go_wp2_with fail;go_ret;exact⟨by rw[HN.out];rfl,P,by rw[HN.out];exact SStp.refl HS.out HB.out,rfl⟩
  ·have HN:=zh h1;have fJ:=zh (hst.trans (hst.sr.put (id:=id) (i:=i) hid hi 0 ⟨by decide,by decide⟩));clear HH h1 hst;go_wp2_with fail;go_ret;exact⟨by rw[HN.out];rfl,{ P with vO:=vv },by rw[HN.out];exact fJ.out,rfl⟩
theorem zuH (k x y:Int) (hk:k=40\/k=41\/k=42) (w:World):Calls Tryz.prog 112 #[.int .u8 k,.int .i64 x,.int .i64 y] w fun e w'=>e=.returned (.tuple #[.int .i64 (updE k x y),.int .i64 0])/\w'=w:=by
 rcases hk with rfl|rfl|rfl
 ·rw[show updE 40 x y=wrap64 (x+y) by simp[updE]];go_enter Tryz.func112,Tryz.ntmps112;go_wp2_with fail;go_ret2;exact⟨rfl,rfl⟩
 ·rw[show updE 41 x y=wrap64 (x-y) by simp[updE]];go_enter Tryz.func112,Tryz.ntmps112;go_wp2_with fail;go_ret2;exact⟨rfl,rfl⟩
 ·rw[show updE 42 x y=bits BinOp.xor IntKind.i64 x y by simp[updE]];go_enter Tryz.func112,Tryz.ntmps112;go_wp2_with fail;go_ret2;exact⟨rfl,rfl⟩
theorem zsg (x:Int):I64 (IntKind.i64.wrap x):=by
 rw[IntKind.wrap_i64];unfold I64;omega
theorem zsj (k x y:Int):I64 (updE k x y):=by
 unfold updE
 split
 ·unfold wrap64 I64;omega
 ·split
  ·unfold wrap64 I64;omega
  ·exact zsg _
theorem zqx:∀ (vs:List VD) (s:ByteArray) (j:Nat),j<=vs.length->zlj (vs.take j) s=(zlv vs s j).bind fun i=>vs[i]?
 | vs,s,0,_=>by simp[zlj,zlv]
 | vs,s,j+1,h=>by
  rw[zqv (by omega),zov (by omega),zqx vs s j (by omega)];by_cases e:vs[j].s.toList=s.toList
  ·have e':(vs[j].s.toList==s.toList)=true:=by simpa using e
   have hj:j<vs.length:=by omega
   rw[if_pos e,if_pos e'];simp[hj]
  ·have e':¬ (vs[j].s.toList==s.toList)=true:=by simpa using e
   rw[if_neg e,if_neg e']
theorem zyf (f:FR) (s:ByteArray):zlj f.vs s=(f.at s).bind fun i=>f.vs[i]?:=by
 have:=zqx f.vs s f.vs.length (Nat.le_refl _);rw[List.take_of_length_le (Nat.le_refl _)] at this;exact this
theorem ztv {S:ST} (h:S.WF) {s:ByteArray} {v:VD} (hv:zlj S.cur.vs s=some v):∃ id,S.num s=some id/\CurK S id v.k:=by
 rw[zyf,Option.bind_eq_some_iff] at hv;obtain⟨i,h1,h2⟩:=hv;obtain⟨kd,hw⟩:=h.cur;have hi:=FR.at_lt h1;have hc:i<S.cur.cs.length:=by rw[hw.len];exact hi
 refine⟨S.cur.cs[i],by rw[ST.num,h1];simp[hc],i,v,h2,List.getElem?_eq_getElem hc,rfl⟩
theorem zpD {vs:List VD} {k n:Int} {s:ByteArray} {ks:List T} (h:fltE vs (.nd k n s ks)=0):ownE vs k s=0/\zl5 vs ks=0:=by
 rw[fltE] at h
 split at h
 ·contradiction
 ·next h1=>exact⟨Classical.not_not.1 h1,h⟩
theorem zma {vs:List VD}:∀ {ks:List T},zl5 vs ks=0->∀ t∈ks,fltE vs t=0
 | t::ts,h,u,hu=>by
  rw[zl5] at h
  split at h
  ·contradiction
  ·next h1 =>
   rcases List.mem_cons.1 hu with rfl|hu
   ·exact Classical.not_not.1 h1
   ·exact zma h u hu
theorem zoV {vs:List VD} {k:Int} {s:ByteArray} (h:ownE vs k s=0) (hn:zoR k≠0):∃ v,zlj vs s=some v/\v.k=zoR k:=by
 rw[ownE,if_neg hn] at h
 cases hf:zlj vs s with
 | none=>rw[hf] at h;cases h
 | some v =>
  rw[hf] at h;dsimp only at h
  split at h
  ·next h1=>exact⟨v,rfl,h1⟩
  ·cases h
theorem zm3 {S:ST} (h:S.WF) {p:T} (hp:isP p=true) (hf:fltE S.cur.vs p=0):∃ id k,S.num p.s=some id/\CurK S id k/\k≠3:=by
 obtain⟨k,n,s,ks⟩:=p;simp only[isP,T.k_nd,Bool.and_eq_true,Bool.or_eq_true,beq_iff_eq] at hp;obtain⟨h1,_⟩:=zpD hf;rcases hp.1 with rfl|rfl
 ·obtain⟨v,h2,h3⟩:=zoV h1 (by decide);obtain⟨id,h4,h5⟩:=ztv h h2;exact⟨id,v.k,h4,h5,by rw[h3];decide⟩
 ·obtain⟨v,h2,h3⟩:=zoV h1 (by decide);obtain⟨id,h4,h5⟩:=ztv h h2;exact⟨id,v.k,h4,h5,by rw[h3];decide⟩
def znF (S:ST) (id i jd j:Nat):ST:=(S.put id i (S.el jd j)).put jd j (S.el id i)
def zkC (S:ST) (k:Int) (s qs:ByteArray) (r2:Int) (id i:Nat):Int×ST :=
 if k=40\/k=41\/k=42 then (0,S.put id i (updE k (S.el id i) r2))
 else if k=43 then match S.num qs with
  | none=>(0,S)
  | some jd=>if 0<=r2/\r2<(S.cell jd).length then (0,znF S id i jd r2.toNat) else (12,S)
 else if k=44\/k=45 then match S.num s with
  | none=>(0,S)
  | some af=>zlH S k id i af
 else zkt S k id i
def zk6 (S:ST) (k:Int) (q:T):Int×Int:=if k=43 then indE S.look q else if k=40\/k=41\/k=42 then zkH S.look q else (0,0)
def zmO (S:ST) (k:Int) (s ps qs:ByteArray) (r1:Int) (r2:Int×Int):Int×ST :=
 if r2.2≠0 then (r2.2,S) else match S.num ps with
  | none=>(0,S)
  | some id=>if 0<=r1/\r1<(S.cell id).length then zkC S k s qs r2.1 id r1.toNat else (12,S)
def zlk (S:ST) (k:Int) (s:ByteArray) (p q:T) (r1 r2:Int×Int):Int×ST:=if r1.2≠0 then (r1.2,S) else zmO S k s p.s q.s r1.1 r2
def nil0:T:=.nd 0 0 ⟨#[]⟩ []
def zq6 (S:ST):T->Int×ST
 | .nd k _ s ks=>zlk S k s (ks.getD 0 nil0) (ks.getD 1 nil0) (indE S.look (ks.getD 0 nil0)) (zk6 S k (ks.getD 1 nil0))
def doE (S:ST) (t:T):Int×ST :=
 if isS t=false then (3,S) else if t.k=56 then (9,S) else if basB t.k=false then (7,S) else if fltE S.cur.vs t≠0 then (fltE S.cur.vs t,S) else zq6 S t
def zlp (S:ST):T->Int×ST
 | .nd k n s ks=>doE S (.nd (zkL k) n s ks)
theorem zv2:IsFn Tryz.prog 111 Tryz.f111:=⟨Tryz.func111,by kernel_rfl,by kernel_rfl⟩
theorem zzg:IsFn Tryz.prog 113 Tryz.f113:=⟨Tryz.func113,by kernel_rfl,by kernel_rfl⟩
theorem zyi {W:World} {n0:Nat} {P:Ph} {S:ST} (h:SR W n0 P S) (k n:Int) (s:ByteArray) (p:T) (v:Value) (hv:NV W Any (.nd k n s [p]) v) (hk:44<=k/\k<=49) (id:Nat) (hid:S.num p.s=some id) (kp:Int) (hck:CurK S id kp) (hkp:kp≠3)
  (hst:k=44\/k=45->∃ af,S.num s=some af/\CurK S af 3) :
  Calls Tryz.prog 60 #[.pointer (some ⟨P.sb,0,none⟩),v] W fun e W'=>e=.returned (.int .i64 (zlk S k s p nil0 (indE S.look p) (0,0)).1)/\∃ P',SStp n0 P S W P' (zlk S k s p nil0 (indE S.look p) (0,0)).2 W'/\P'.sb=P.sb:=by
 obtain⟨A,c,rfl,hf,hlk,hlc,hrow⟩:=hv.open_;simp only[T.k_nd,T.n_nd,T.s_nd,T.ks_nd] at *
 obtain⟨R,hR⟩:∃ R,zlk S k s p nil0 (indE S.look p) (0,0)=R:=⟨_,rfl⟩
 rw[hR];have HRR:=zh hR;have HS:=zh h;have HL:=zh (zvD n0 P S h.wf);obtain⟨a,t0,A2,c2,rfl,_,Ht,⟨y0,y1,y2,y3⟩,hn0⟩:=hrow.nd (i:=0) (by simp);simp only[Nat.zero_mul,Addr.add_zero',List.length_cons,List.length_nil,Nat.zero_add] at *
 have ht0:t0=p:=Ht.out.symm;subst ht0;have hbx:=box4 (heap_alloc_new W (.cells #[.int .u8 k,.int .i64 n,.string s,.slice (some a) 1 c] 29));have ax:=zh (heap_alloc_new W (.cells #[.int .u8 k,.int .i64 n,.string s,.slice (some a) 1 c] 29));obtain⟨W0,hW0⟩:∃ W0,W.alloc (.cells #[.int .u8 k,.int .i64 n,.string s,.slice (some a) 1 c] 29)=W0:=⟨_,rfl⟩
 have q0:Below W.heap.size W W0:=hW0▸zkb (Below.refl _ _) _;rw[hW0] at hbx ax;have gD:=zh q0;have z0:=zb q0 y0;have z1:=zb q0 y1;have z2:=zb q0 y2;have z3:=zb q0 y3;obtain⟨⟨iv,ie⟩,hiv⟩:∃ r,indE S.look t0=r:=⟨_,rfl⟩
 have oF:=zh (zol HL.out t0 _ W0 (hn0.later q0) (h.later q0));rw[hiv] at oF;have ou:=zh (show R=zlk S k s t0 nil0 (iv,ie) (0,0) by rw[<-hR,hiv]);have rG:=zh (fun W' (hb:Below W.heap.size W W')=>zmZ (h.later hb) t0.s id hid);obtain⟨x0,x1,x2,x3⟩:=hbx;have av:=hck.lt h.wf;have bO:=zh hck;have oG:=zh hid;clear hR hiv h hv hn0 hrow hlk hlc y0 y1 y2 y3 q0 hf hck hid;have k40:(k==40)=false:=by simp;omega
 have k41:(k==41)=false:=by simp;omega
 have k42:(k==42)=false:=by simp;omega
 have k43:(k==43)=false:=by simp;omega
 go_enter Tryz.func60,Tryz.ntmps60;go_wp2_with fail;refine oF.out.mono ?_;rintro e w1 ⟨rfl,aa⟩;have HB1:=zh (zka gD.out aa);have aD:=zh (zkd ax.out aa);have u0:=zb aa z0;have u1:=zb aa z1;have u2:=zb aa z2;have u3:=zb aa z3;have v0:=zb aa x0;have v2:=zb aa x2;have v3:=zb aa x3;clear aa z0 z1 z2 z3 x0 x1 x2 x3;dsimp only;by_cases he:ie=0
 ·subst he;have HR1:=zh (show R=zmO S k s t0.s nil0.s iv (0,0) by rw[ou.out,zlk,if_neg (by simp)]);go_wp2_with fail;refine(rG.out _ HB1.out).mono ?_;rintro e w2 ⟨rfl,ag⟩;have HB2:=zh (zka HB1.out ag);have bg:=zh (zkd aD.out ag);have r0:=zb ag v0;have r2:=zb ag v2;have HS2:=zh (HS.out.later HB2.out);clear u0 u1 u2 u3 v0 v2 v3 ag;have HR2:=zh (show R=if 0<=iv/\iv<(S.cell id).length then zkC S k s nil0.s 0 id iv.toNat else (12,S) by
   rw[HR1.out,zmO,if_neg (by simp),oG.out])
  by_cases hr:0<=iv/\iv<((S.cell id).length:Int)
  ·obtain⟨i,rfl⟩:∃ i:Nat,iv=i:=⟨iv.toNat,by omega⟩
   have hi:i<(S.cell id).length:=by omega
   have HR3:=zh (show R=zkC S k s nil0.s 0 id i by rw[HR2.out,if_pos hr];rfl);obtain⟨⟨c3,hci,hc3⟩,p0,p1⟩:=HS2.out.plc av hi;have w0:w2.cell? ⟨P.cb id,0,none⟩=some (.slice (some ⟨P.gI id,0,none⟩) (S.cell id).length c3):=by rw[<-hci];exact zc (HS2.out.cbox av) rfl
   obtain⟨m,hm⟩:∃ m,(S.cell id).length=m:=⟨_,rfl⟩
   have HM:=zh hm;rw[hm] at w0;have hi1:¬ (i:Int)<0:=by omega
   have hi2:¬ (m:Int)<=(i:Int):=by omega
   have hi3:(i:Int)<(m:Int):=by omega
   clear HR1 HR2 hr hci hc3 hm;by_cases h45:k=44\/k=45
   ·obtain⟨af,hs1,hs2⟩:=hst h45;have hne:=bO.out.ne hs2 HS.out.wf hkp;have HR4:=zh (show R=zlH S k id i af by
     rw[HR3.out,zkC,if_neg (by omega),if_neg (by omega),if_pos h45,hs1])
    have HMV:=zh (fun W' (hb:Below W.heap.size W W')=>zxN (HS.out.later hb) k h45 id i af av hi hs2 hne);have nA:=zh (fun W' (hb:Below W.heap.size W W')=>zmZ (HS.out.later hb) s af hs1);have kk:(k==44||k==45)=true:=by rcases h45 with rfl|rfl<;>rfl
    clear hs1 hs2 HR3 oG;rcases h45 with rfl|rfl
    ·skip
     go_upto_region 34 with fail;have hSS:(fun w':World=>w'.cell? ⟨W.heap.size,0,none⟩=some (.int .u8 44)/\w'.cell? ⟨W.heap.size,2,none⟩=some (.string s)) w2.drew/\(fun _:World=>True) w2.drew:=⟨⟨r0,r2⟩,trivial⟩
     refine wp_region_noPanic ?_;refine zkc (fun w':World=>w'.cell? ⟨W.heap.size,0,none⟩=some (.int .u8 44)/\w'.cell? ⟨W.heap.size,2,none⟩=some (.string s)) (fun _:World=>True) 7 (by kernel_rfl) ?_;refine zT 0 hSS ?_;(try simp only[zQ]);refine zT 1 hSS ?_;(try simp only[zQ]);refine zT 2 hSS ?_;(try simp only[zQ]);refine zT 3 hSS ?_;(try simp only[zQ]);refine zT 4 hSS ?_;(try simp only[zQ]);refine zT 5 hSS ?_;(try simp only[zQ]);have had:Calls Tryz.prog 111 [.pointer (some ⟨P.sb,0,none⟩),.string s].toArray w2.drew fun e W'=>∃ u,e=.returned u/\u=.pointer (some ⟨P.cb af,0,none⟩)/\Below w2.drew.heap.size w2.drew W' :=
      (nA.out _ HB2.out.drew).mono fun e W' hh=>⟨_,hh.1,rfl,hh.2⟩
     refine zo 6 fun K hK=>?_;refine zkh (by rfl) (.func 111) [.tmp 138,.tmp 140] _ (by rfl) 111 _ zv2 (by rfl) _ (by rfl) _ had ?_;rintro v4 w4 ⟨rfl,hb4⟩;have aC:=zh (zka HB2.out.drew hb4);have t0':=zb hb4 (show w2.drew.cell? _=_ from r0);have t2':=zb hb4 (show w2.drew.cell? _=_ from r2);refine hK.out _ _ ⟨⟨t0',t2'⟩,trivial⟩ ?_;clear hK K hSS had hb4;(try simp only[zQ]);have had:Calls Tryz.prog 113 [.int .u8 44,.pointer (some ⟨P.gI id,i,none⟩),.pointer (some ⟨P.cb af,0,none⟩)].toArray w4 fun e W'=>∃ u,e=.returned u/\u=.int .i64 R.1/\∃ P',SStp n0 P S w4 P' R.2 W'/\P'.sb=P.sb:=by
      refine(HMV.out _ aC.out).mono ?_;rintro e W' ⟨h1,h2⟩;rw[<-HR4.out] at h1 h2;exact⟨_,h1,rfl,h2⟩
     refine zp 7 fun K hK=>?_;refine zkh (by rfl) (.func 113) [.tmp 136,.tmp 137,.tmp 141] _ (by rfl) 113 _ zzg (by rfl) _ (by rfl) _ had ?_;rintro v5 w5 ⟨rfl,P',hs5,tq⟩;have hno:¬ OwnB (rows P S) W.heap.size:=fun⟨q,hq⟩=>by have:=(HS.out.rws.lt q _ hq).2;omega
     have HF:=zh hs5;have HP:=zh tq;have b0:=zlc hs5.st.chg t0' hno;have b2:=zlc hs5.st.chg t2' hno;refine hK.out _ _ ⟨b0,b2⟩ ?_;clear hK K had hs5 tq;(try simp only[zQ]);refine zp 8 fun K hK=>?_;(try simp only[zA,zB,zC]);go_simp;refine hK.out _ _ ⟨b0,b2⟩ ?_;clear hK K;(try simp only[zQ]);refine zd ?_;refine NoPanic.normal ?_;go_wp2_with fail;go_ret;exact⟨rfl,P',⟨HF.out.st.after aC.out HS.out.rws,HF.out.wf⟩,HP.out⟩
    ·skip
     go_upto_region 34 with fail;have hSS:(fun w':World=>w'.cell? ⟨W.heap.size,0,none⟩=some (.int .u8 45)/\w'.cell? ⟨W.heap.size,2,none⟩=some (.string s)) w2.drew/\(fun _:World=>True) w2.drew:=⟨⟨r0,r2⟩,trivial⟩
     refine wp_region_noPanic ?_;refine zkc (fun w':World=>w'.cell? ⟨W.heap.size,0,none⟩=some (.int .u8 45)/\w'.cell? ⟨W.heap.size,2,none⟩=some (.string s)) (fun _:World=>True) 7 (by kernel_rfl) ?_;refine zT 0 hSS ?_;(try simp only[zQ]);refine zT 1 hSS ?_;(try simp only[zQ]);refine zT 2 hSS ?_;(try simp only[zQ]);refine zT 3 hSS ?_;(try simp only[zQ]);refine zT 4 hSS ?_;(try simp only[zQ]);refine zT 5 hSS ?_;(try simp only[zQ]);have had:Calls Tryz.prog 111 [.pointer (some ⟨P.sb,0,none⟩),.string s].toArray w2.drew fun e W'=>∃ u,e=.returned u/\u=.pointer (some ⟨P.cb af,0,none⟩)/\Below w2.drew.heap.size w2.drew W' :=
      (nA.out _ HB2.out.drew).mono fun e W' hh=>⟨_,hh.1,rfl,hh.2⟩
     refine zo 6 fun K hK=>?_;refine zkh (by rfl) (.func 111) [.tmp 138,.tmp 140] _ (by rfl) 111 _ zv2 (by rfl) _ (by rfl) _ had ?_;rintro v4 w4 ⟨rfl,hb4⟩;have aC:=zh (zka HB2.out.drew hb4);have t0':=zb hb4 (show w2.drew.cell? _=_ from r0);have t2':=zb hb4 (show w2.drew.cell? _=_ from r2);refine hK.out _ _ ⟨⟨t0',t2'⟩,trivial⟩ ?_;clear hK K hSS had hb4;(try simp only[zQ]);have had:Calls Tryz.prog 113 [.int .u8 45,.pointer (some ⟨P.gI id,i,none⟩),.pointer (some ⟨P.cb af,0,none⟩)].toArray w4 fun e W'=>∃ u,e=.returned u/\u=.int .i64 R.1/\∃ P',SStp n0 P S w4 P' R.2 W'/\P'.sb=P.sb:=by
      refine(HMV.out _ aC.out).mono ?_;rintro e W' ⟨h1,h2⟩;rw[<-HR4.out] at h1 h2;exact⟨_,h1,rfl,h2⟩
     refine zp 7 fun K hK=>?_;refine zkh (by rfl) (.func 113) [.tmp 136,.tmp 137,.tmp 141] _ (by rfl) 113 _ zzg (by rfl) _ (by rfl) _ had ?_;rintro v5 w5 ⟨rfl,P',hs5,tq⟩;have hno:¬ OwnB (rows P S) W.heap.size:=fun⟨q,hq⟩=>by have:=(HS.out.rws.lt q _ hq).2;omega
     have HF:=zh hs5;have HP:=zh tq;have b0:=zlc hs5.st.chg t0' hno;have b2:=zlc hs5.st.chg t2' hno;refine hK.out _ _ ⟨b0,b2⟩ ?_;clear hK K had hs5 tq;(try simp only[zQ]);refine zp 8 fun K hK=>?_;(try simp only[zA,zB,zC]);go_simp;refine hK.out _ _ ⟨b0,b2⟩ ?_;clear hK K;(try simp only[zQ]);refine zd ?_;refine NoPanic.normal ?_;go_wp2_with fail;go_ret;exact⟨rfl,P',⟨HF.out.st.after aC.out HS.out.rws,HF.out.wf⟩,HP.out⟩
   ·have qf:k=46\/k=49\/k=47\/k=48:=by omega
    have k44:(k==44)=false:=by simp;omega
    have k45:(k==45)=false:=by simp;omega
    have HR4:=zh (show R=zkt S k id i by rw[HR3.out,zkC,if_neg (by omega),if_neg (by omega),if_neg h45]);have HTR:=zh (zro HS2.out k qf id i av hi);rw[<-HR4.out] at HTR;clear HR3 p0 p1;go_wp2_with fail;refine HTR.out.mono ?_;rintro e w3 ⟨rfl,P',hs3,hp3⟩;have HF:=zh hs3;have HP:=zh hp3;clear hs3 hp3;go_wp2_with fail;go_ret;exact⟨rfl,P',⟨HF.out.st.after HB2.out HS.out.rws,HF.out.wf⟩,HP.out⟩
  ·have HN:=zh (show R=(12,S) by rw[HR2.out,if_neg hr]);obtain⟨A3,c3,hci,hc3,aU⟩:=HS2.out.items av;have w0:w2.cell? ⟨P.cb id,0,none⟩=some (.slice A3 (S.cell id).length c3):=by rw[<-hci];exact zc (HS2.out.cbox av) rfl
   obtain⟨m,hm⟩:∃ m,(S.cell id).length=m:=⟨_,rfl⟩
   rw[hm] at w0 hr;clear HR1 HR2 hci hc3 aU hm;by_cases hneg:iv<0
   ·go_wp2_with fail;go_ret;exact⟨by rw[HN.out];rfl,P,by rw[HN.out];exact SStp.refl HS.out HB2.out,rfl⟩
   ·have hge:(m:Int)<=iv:=by omega
    go_wp2_with fail;go_ret;exact⟨by rw[HN.out];rfl,P,by rw[HN.out];exact SStp.refl HS.out HB2.out,rfl⟩
 ·have HN:=zh (show R=(ie,S) by rw[ou.out,zlk,if_pos he]);have e1:(ie==0)=false:=by simpa using he
  have e2:(ie != 0)=true:=by simpa using he
  clear he;go_wp2_with fail;go_ret;exact⟨by rw[HN.out];rfl,P,by rw[HN.out];exact SStp.refl HS.out HB1.out,rfl⟩
theorem zq2:IsFn Tryz.prog 112 Tryz.f112:=⟨Tryz.func112,by kernel_rfl,by kernel_rfl⟩
theorem zLg (a:Addr):a.add (1*4)=⟨a.block,a.off+4,none⟩:=by unfold Addr.add;split<;>simp_all
theorem zyh {W:World} {n0:Nat} {P:Ph} {S:ST} (h:SR W n0 P S) (k n:Int) (s:ByteArray) (p q:T) (v:Value) (hv:NV W Any (.nd k n s [p,q]) v) (hk:k=40\/k=41\/k=42) (id:Nat) (hid:S.num p.s=some id) (kp:Int) (hck:CurK S id kp) :
  Calls Tryz.prog 60 #[.pointer (some ⟨P.sb,0,none⟩),v] W fun e W'=>e=.returned (.int .i64 (zlk S k s p q (indE S.look p) (zkH S.look q)).1)/\∃ P',SStp n0 P S W P' (zlk S k s p q (indE S.look p) (zkH S.look q)).2 W'/\P'.sb=P.sb:=by
 obtain⟨A,c,rfl,hf,hlk,hlc,hrow⟩:=hv.open_;simp only[T.k_nd,T.n_nd,T.s_nd,T.ks_nd] at *
 obtain⟨R,hR⟩:∃ R,zlk S k s p q (indE S.look p) (zkH S.look q)=R:=⟨_,rfl⟩
 rw[hR];have HRR:=zh hR;have HS:=zh h;have HL:=zh (zvD n0 P S h.wf);obtain⟨a,t0,A2,c2,rfl,_,Ht,h4,hn0⟩:=hrow.nd (i:=0) (by simp);obtain⟨a',t1,A3,c3,ea,_,Hu,h5,hn1⟩:=hrow.nd (i:=1) (by simp);injection ea with ea;subst ea;have ha:a.add (1*4)=⟨a.block,a.off+4,none⟩:=zLg a;rw[ha] at h5;have ht0:t0=p:=Ht.out.symm;subst ht0;have ht1:t1=q:=Hu.out.symm;subst ht1;simp only[Nat.zero_mul,Nat.one_mul,Addr.add_zero',List.length_cons,List.length_nil,Nat.zero_add,Nat.reduceAdd] at *
 have hbx:=box4 (heap_alloc_new W (.cells #[.int .u8 k,.int .i64 n,.string s,.slice (some a) 2 c] 29));have ax:=zh (heap_alloc_new W (.cells #[.int .u8 k,.int .i64 n,.string s,.slice (some a) 2 c] 29));obtain⟨W0,hW0⟩:∃ W0,W.alloc (.cells #[.int .u8 k,.int .i64 n,.string s,.slice (some a) 2 c] 29)=W0:=⟨_,rfl⟩
 have q0:Below W.heap.size W W0:=hW0▸zkb (Below.refl _ _) _;rw[hW0] at hbx ax;have gD:=zh q0;have H4:=zh h4;have H5:=zh h5;have g4:=zl3 q0 h4;obtain⟨z0,z1,z2,z3⟩:=g4;obtain⟨⟨iv,ie⟩,hiv⟩:∃ r,indE S.look t0=r:=⟨_,rfl⟩
 obtain⟨⟨jv,je⟩,hjv⟩:∃ r,zkH S.look t1=r:=⟨_,rfl⟩
 have oF:=zh (zol HL.out t0 _ W0 (hn0.later q0) (h.later q0));rw[hiv] at oF;have qV:=zh (show ∀ W',Below W.heap.size W W'->Calls Tryz.prog 110 #[nv t1.k t1.n t1.s A3 t1.ks.length c3,.func (.func 109) #[.pointer (some ⟨P.sb,0,none⟩)] #[]] W' (NumE (jv,je) W') from fun W' hb=>hjv▸zrg HL.out t1 _ W' (hn1.later hb) (h.later hb));have ou:=zh (show R=zlk S k s t0 t1 (iv,ie) (jv,je) by rw[<-hR,hiv,hjv]);have rG:=zh (fun W' (hb:Below W.heap.size W W')=>zmZ (h.later hb) t0.s id hid);obtain⟨x0,x1,x2,x3⟩:=hbx;have av:=hck.lt h.wf;have oG:=zh hid;clear hR hiv hjv hv hn0 hn1 hrow hlk hlc q0 hf hck hid h4 h5;clear h;have k43:(k==43)=false:=by simp;omega
 have ui:=zh (fun x w=>zuH k x jv hk w);go_enter Tryz.func60,Tryz.ntmps60;go_wp2_with fail;refine oF.out.mono ?_;rintro e w1 ⟨rfl,aa⟩;have HB1:=zh (zka gD.out aa);have aD:=zh (zkd ax.out aa);have v0:=zb aa x0;have v3:=zb aa x3;obtain⟨y0,y1,y2,y3⟩:=zl3 HB1.out H5.out;clear aa z0 z1 z2 z3 x0 x1 x2 x3;dsimp only;by_cases he:ie=0
 ·subst he;have HR1:=zh (show R=zmO S k s t0.s t1.s iv (jv,je) by rw[ou.out,zlk,if_neg (by simp)]);rcases hk with rfl|rfl|rfl
  ·skip
   go_wp2_with fail;refine(qV.out _ HB1.out).mono ?_;rintro e w2 ⟨rfl,ag⟩;have HB2:=zh (zka HB1.out ag);have bg:=zh (zkd aD.out ag);have r0:=zb ag v0;have r3:=zb ag v3;obtain⟨z0,z1,z2,z3⟩:=zl3 HB2.out H4.out;clear ag y0 y1 y2 y3 v0 v3;dsimp only;by_cases dG:je=0
   ·subst dG;go_wp2_with fail;refine(rG.out _ HB2.out).mono ?_;rintro e w3 ⟨rfl,az⟩;have HB3:=zh (zka HB2.out az);have H40:=zh (zkd bg.out az);have s0:=zb az r0;have s3:=zb az r3;have HS2:=zh (HS.out.later HB3.out);clear r0 r3 az z0 z1 z2 z3;have HR2:=zh (show R=if 0<=iv/\iv<(S.cell id).length then zkC S 40 s t1.s jv id iv.toNat else (12,S) by
     rw[HR1.out,zmO,if_neg (by simp),oG.out])
    by_cases hr:0<=iv/\iv<((S.cell id).length:Int)
    ·obtain⟨i,rfl⟩:∃ i:Nat,iv=i:=⟨iv.toNat,by omega⟩
     have hi:i<(S.cell id).length:=by omega
     have HR3:=zh (show R=(0,S.put id i (updE 40 (S.el id i) jv)) by rw[HR2.out,if_pos hr,zkC,if_pos (by omega)];rfl);obtain⟨⟨c4,hci,hc4⟩,p0,p1⟩:=HS2.out.plc av hi;have w0:w3.cell? ⟨P.cb id,0,none⟩=some (.slice (some ⟨P.gI id,0,none⟩) (S.cell id).length c4):=by rw[<-hci];exact zc (HS2.out.cbox av) rfl
     have fJ:=zh (fun W' (hb:Below W.heap.size W W')=>(HS.out.later hb).put av hi (updE 40 (S.el id i) jv) (zsj _ _ _));obtain⟨x,hx⟩:∃ x,S.el id i=x:=⟨_,rfl⟩
     rw[hx] at p0 HR3 fJ;obtain⟨m,hm⟩:∃ m,(S.cell id).length=m:=⟨_,rfl⟩
     rw[hm] at w0;have hi1:¬ (i:Int)<0:=by omega
     have hi2:¬ (m:Int)<=(i:Int):=by omega
     have hi3:(i:Int)<(m:Int):=by omega
     clear HR1 HR2 hr hci hc4 hm hx;obtain⟨U,hU⟩:∃ U,updE 40 x jv=U:=⟨_,rfl⟩
     rw[hU] at HR3 fJ;have uh:=zh (hU▸ui.out x);clear hU;go_upto_region 22 with fail;have hSS:(fun w':World=>w'.cell? ⟨W.heap.size,0,none⟩=some (.int .u8 40)/\w'.cell? ⟨P.gI id,i,none⟩=some (.int .i64 x)) w3.drew/\(fun _:World=>True) w3.drew:=⟨⟨s0,p0⟩,trivial⟩
     refine wp_region_noPanic ?_;refine zkc (fun w':World=>w'.cell? ⟨W.heap.size,0,none⟩=some (.int .u8 40)/\w'.cell? ⟨P.gI id,i,none⟩=some (.int .i64 x)) (fun _:World=>True) 11 (by kernel_rfl) ?_;refine zT 0 hSS ?_;(try simp only[zQ]);refine zT 1 hSS ?_;(try simp only[zQ]);refine zT 2 hSS ?_;(try simp only[zQ]);refine zT 3 hSS ?_;(try simp only[zQ]);refine zT 4 hSS ?_;(try simp only[zQ]);refine zT 5 hSS ?_;(try simp only[zQ]);have had:Calls Tryz.prog 112 [.int .u8 40,.int .i64 x,.int .i64 jv].toArray w3.drew fun e W'=>∃ u,e=.returned u/\u=.tuple #[.int .i64 U,.int .i64 0]/\W'=w3.drew :=
      (uh.out w3.drew).mono fun e W' hh=>⟨_,hh.1,rfl,hh.2⟩
     refine zo 6 fun K hK=>?_;refine zkh (by rfl) (.func 112) [.tmp 86,.tmp 89,.tmp 90] _ (by rfl) 112 _ zq2 (by rfl) _ (by rfl) _ had ?_;rintro v4 w4 ⟨rfl,rfl⟩;refine hK.out _ _ hSS ?_;clear hK K had;(try simp only[zQ]);refine zT 7 hSS ?_;(try simp only[zQ]);refine zT 8 hSS ?_;(try simp only[zQ]);refine zT 9 hSS ?_;(try simp only[zQ]);refine zT 10 hSS ?_;(try simp only[zQ]);refine zp 11 fun K hK=>?_;(try simp only[zA,zB,zC]);go_simp;refine hK.out _ _ hSS.1 ?_;clear hK K hSS;(try simp only[zQ]);refine zd ?_;refine NoPanic.normal ?_;go_wp2_with fail;go_ret;refine⟨by rw[HR3.out];rfl,P,?_,rfl⟩;rw[HR3.out];have:=fJ.out _ HB3.out.drew;exact⟨this.st.after HB3.out.drew HS.out.rws,this.wf⟩
    ·skip
     have HN:=zh (show R=(12,S) by rw[HR2.out,if_neg hr]);obtain⟨A3,c3,hci,hc3,aU⟩:=HS2.out.items av;have w0:w3.cell? ⟨P.cb id,0,none⟩=some (.slice A3 (S.cell id).length c3):=by rw[<-hci];exact zc (HS2.out.cbox av) rfl
     obtain⟨m,hm⟩:∃ m,(S.cell id).length=m:=⟨_,rfl⟩
     rw[hm] at w0 hr;clear HR2 hci hc3 aU hm;by_cases hneg:iv<0
     ·go_wp2_with fail;go_ret;exact⟨by rw[HN.out];rfl,P,by rw[HN.out];exact SStp.refl HS.out HB3.out,rfl⟩
     ·have hge:(m:Int)<=iv:=by omega
      go_wp2_with fail;go_ret;exact⟨by rw[HN.out];rfl,P,by rw[HN.out];exact SStp.refl HS.out HB3.out,rfl⟩
   ·skip
    have HN:=zh (show R=(je,S) by rw[HR1.out,zmO,if_pos dG]);have e1:(je==0)=false:=by simpa using dG
    have e2:(je != 0)=true:=by simpa using dG
    clear dG;go_wp2_with fail;go_ret;exact⟨by rw[HN.out];rfl,P,by rw[HN.out];exact SStp.refl HS.out HB2.out,rfl⟩
  ·skip
   go_wp2_with fail;refine(qV.out _ HB1.out).mono ?_;rintro e w2 ⟨rfl,ag⟩;have HB2:=zh (zka HB1.out ag);have bg:=zh (zkd aD.out ag);have r0:=zb ag v0;have r3:=zb ag v3;obtain⟨z0,z1,z2,z3⟩:=zl3 HB2.out H4.out;clear ag y0 y1 y2 y3 v0 v3;dsimp only;by_cases dG:je=0
   ·subst dG;go_wp2_with fail;refine(rG.out _ HB2.out).mono ?_;rintro e w3 ⟨rfl,az⟩;have HB3:=zh (zka HB2.out az);have H41:=zh (zkd bg.out az);have s0:=zb az r0;have s3:=zb az r3;have HS2:=zh (HS.out.later HB3.out);clear r0 r3 az z0 z1 z2 z3;have HR2:=zh (show R=if 0<=iv/\iv<(S.cell id).length then zkC S 41 s t1.s jv id iv.toNat else (12,S) by
     rw[HR1.out,zmO,if_neg (by simp),oG.out])
    by_cases hr:0<=iv/\iv<((S.cell id).length:Int)
    ·obtain⟨i,rfl⟩:∃ i:Nat,iv=i:=⟨iv.toNat,by omega⟩
     have hi:i<(S.cell id).length:=by omega
     have HR3:=zh (show R=(0,S.put id i (updE 41 (S.el id i) jv)) by rw[HR2.out,if_pos hr,zkC,if_pos (by omega)];rfl);obtain⟨⟨c4,hci,hc4⟩,p0,p1⟩:=HS2.out.plc av hi;have w0:w3.cell? ⟨P.cb id,0,none⟩=some (.slice (some ⟨P.gI id,0,none⟩) (S.cell id).length c4):=by rw[<-hci];exact zc (HS2.out.cbox av) rfl
     have fJ:=zh (fun W' (hb:Below W.heap.size W W')=>(HS.out.later hb).put av hi (updE 41 (S.el id i) jv) (zsj _ _ _));obtain⟨x,hx⟩:∃ x,S.el id i=x:=⟨_,rfl⟩
     rw[hx] at p0 HR3 fJ;obtain⟨m,hm⟩:∃ m,(S.cell id).length=m:=⟨_,rfl⟩
     rw[hm] at w0;have hi1:¬ (i:Int)<0:=by omega
     have hi2:¬ (m:Int)<=(i:Int):=by omega
     have hi3:(i:Int)<(m:Int):=by omega
     clear HR1 HR2 hr hci hc4 hm hx;obtain⟨U,hU⟩:∃ U,updE 41 x jv=U:=⟨_,rfl⟩
     rw[hU] at HR3 fJ;have uh:=zh (hU▸ui.out x);clear hU;go_upto_region 22 with fail;have hSS:(fun w':World=>w'.cell? ⟨W.heap.size,0,none⟩=some (.int .u8 41)/\w'.cell? ⟨P.gI id,i,none⟩=some (.int .i64 x)) w3.drew/\(fun _:World=>True) w3.drew:=⟨⟨s0,p0⟩,trivial⟩
     refine wp_region_noPanic ?_;refine zkc (fun w':World=>w'.cell? ⟨W.heap.size,0,none⟩=some (.int .u8 41)/\w'.cell? ⟨P.gI id,i,none⟩=some (.int .i64 x)) (fun _:World=>True) 11 (by kernel_rfl) ?_;refine zT 0 hSS ?_;(try simp only[zQ]);refine zT 1 hSS ?_;(try simp only[zQ]);refine zT 2 hSS ?_;(try simp only[zQ]);refine zT 3 hSS ?_;(try simp only[zQ]);refine zT 4 hSS ?_;(try simp only[zQ]);refine zT 5 hSS ?_;(try simp only[zQ]);have had:Calls Tryz.prog 112 [.int .u8 41,.int .i64 x,.int .i64 jv].toArray w3.drew fun e W'=>∃ u,e=.returned u/\u=.tuple #[.int .i64 U,.int .i64 0]/\W'=w3.drew :=
      (uh.out w3.drew).mono fun e W' hh=>⟨_,hh.1,rfl,hh.2⟩
     refine zo 6 fun K hK=>?_;refine zkh (by rfl) (.func 112) [.tmp 86,.tmp 89,.tmp 90] _ (by rfl) 112 _ zq2 (by rfl) _ (by rfl) _ had ?_;rintro v4 w4 ⟨rfl,rfl⟩;refine hK.out _ _ hSS ?_;clear hK K had;(try simp only[zQ]);refine zT 7 hSS ?_;(try simp only[zQ]);refine zT 8 hSS ?_;(try simp only[zQ]);refine zT 9 hSS ?_;(try simp only[zQ]);refine zT 10 hSS ?_;(try simp only[zQ]);refine zp 11 fun K hK=>?_;(try simp only[zA,zB,zC]);go_simp;refine hK.out _ _ hSS.1 ?_;clear hK K hSS;(try simp only[zQ]);refine zd ?_;refine NoPanic.normal ?_;go_wp2_with fail;go_ret;refine⟨by rw[HR3.out];rfl,P,?_,rfl⟩;rw[HR3.out];have:=fJ.out _ HB3.out.drew;exact⟨this.st.after HB3.out.drew HS.out.rws,this.wf⟩
    ·skip
     have HN:=zh (show R=(12,S) by rw[HR2.out,if_neg hr]);obtain⟨A3,c3,hci,hc3,aU⟩:=HS2.out.items av;have w0:w3.cell? ⟨P.cb id,0,none⟩=some (.slice A3 (S.cell id).length c3):=by rw[<-hci];exact zc (HS2.out.cbox av) rfl
     obtain⟨m,hm⟩:∃ m,(S.cell id).length=m:=⟨_,rfl⟩
     rw[hm] at w0 hr;clear HR2 hci hc3 aU hm;by_cases hneg:iv<0
     ·go_wp2_with fail;go_ret;exact⟨by rw[HN.out];rfl,P,by rw[HN.out];exact SStp.refl HS.out HB3.out,rfl⟩
     ·have hge:(m:Int)<=iv:=by omega
      go_wp2_with fail;go_ret;exact⟨by rw[HN.out];rfl,P,by rw[HN.out];exact SStp.refl HS.out HB3.out,rfl⟩
   ·skip
    have HN:=zh (show R=(je,S) by rw[HR1.out,zmO,if_pos dG]);have e1:(je==0)=false:=by simpa using dG
    have e2:(je != 0)=true:=by simpa using dG
    clear dG;go_wp2_with fail;go_ret;exact⟨by rw[HN.out];rfl,P,by rw[HN.out];exact SStp.refl HS.out HB2.out,rfl⟩
  ·skip
   go_wp2_with fail;refine(qV.out _ HB1.out).mono ?_;rintro e w2 ⟨rfl,ag⟩;have HB2:=zh (zka HB1.out ag);have bg:=zh (zkd aD.out ag);have r0:=zb ag v0;have r3:=zb ag v3;obtain⟨z0,z1,z2,z3⟩:=zl3 HB2.out H4.out;clear ag y0 y1 y2 y3 v0 v3;dsimp only;by_cases dG:je=0
   ·subst dG;go_wp2_with fail;refine(rG.out _ HB2.out).mono ?_;rintro e w3 ⟨rfl,az⟩;have HB3:=zh (zka HB2.out az);have H42:=zh (zkd bg.out az);have s0:=zb az r0;have s3:=zb az r3;have HS2:=zh (HS.out.later HB3.out);clear r0 r3 az z0 z1 z2 z3;have HR2:=zh (show R=if 0<=iv/\iv<(S.cell id).length then zkC S 42 s t1.s jv id iv.toNat else (12,S) by
     rw[HR1.out,zmO,if_neg (by simp),oG.out])
    by_cases hr:0<=iv/\iv<((S.cell id).length:Int)
    ·obtain⟨i,rfl⟩:∃ i:Nat,iv=i:=⟨iv.toNat,by omega⟩
     have hi:i<(S.cell id).length:=by omega
     have HR3:=zh (show R=(0,S.put id i (updE 42 (S.el id i) jv)) by rw[HR2.out,if_pos hr,zkC,if_pos (by omega)];rfl);obtain⟨⟨c4,hci,hc4⟩,p0,p1⟩:=HS2.out.plc av hi;have w0:w3.cell? ⟨P.cb id,0,none⟩=some (.slice (some ⟨P.gI id,0,none⟩) (S.cell id).length c4):=by rw[<-hci];exact zc (HS2.out.cbox av) rfl
     have fJ:=zh (fun W' (hb:Below W.heap.size W W')=>(HS.out.later hb).put av hi (updE 42 (S.el id i) jv) (zsj _ _ _));obtain⟨x,hx⟩:∃ x,S.el id i=x:=⟨_,rfl⟩
     rw[hx] at p0 HR3 fJ;obtain⟨m,hm⟩:∃ m,(S.cell id).length=m:=⟨_,rfl⟩
     rw[hm] at w0;have hi1:¬ (i:Int)<0:=by omega
     have hi2:¬ (m:Int)<=(i:Int):=by omega
     have hi3:(i:Int)<(m:Int):=by omega
     clear HR1 HR2 hr hci hc4 hm hx;obtain⟨U,hU⟩:∃ U,updE 42 x jv=U:=⟨_,rfl⟩
     rw[hU] at HR3 fJ;have uh:=zh (hU▸ui.out x);clear hU;go_upto_region 22 with fail;have hSS:(fun w':World=>w'.cell? ⟨W.heap.size,0,none⟩=some (.int .u8 42)/\w'.cell? ⟨P.gI id,i,none⟩=some (.int .i64 x)) w3.drew/\(fun _:World=>True) w3.drew:=⟨⟨s0,p0⟩,trivial⟩
     refine wp_region_noPanic ?_;refine zkc (fun w':World=>w'.cell? ⟨W.heap.size,0,none⟩=some (.int .u8 42)/\w'.cell? ⟨P.gI id,i,none⟩=some (.int .i64 x)) (fun _:World=>True) 11 (by kernel_rfl) ?_;refine zT 0 hSS ?_;(try simp only[zQ]);refine zT 1 hSS ?_;(try simp only[zQ]);refine zT 2 hSS ?_;(try simp only[zQ]);refine zT 3 hSS ?_;(try simp only[zQ]);refine zT 4 hSS ?_;(try simp only[zQ]);refine zT 5 hSS ?_;(try simp only[zQ]);have had:Calls Tryz.prog 112 [.int .u8 42,.int .i64 x,.int .i64 jv].toArray w3.drew fun e W'=>∃ u,e=.returned u/\u=.tuple #[.int .i64 U,.int .i64 0]/\W'=w3.drew :=
      (uh.out w3.drew).mono fun e W' hh=>⟨_,hh.1,rfl,hh.2⟩
     refine zo 6 fun K hK=>?_;refine zkh (by rfl) (.func 112) [.tmp 86,.tmp 89,.tmp 90] _ (by rfl) 112 _ zq2 (by rfl) _ (by rfl) _ had ?_;rintro v4 w4 ⟨rfl,rfl⟩;refine hK.out _ _ hSS ?_;clear hK K had;(try simp only[zQ]);refine zT 7 hSS ?_;(try simp only[zQ]);refine zT 8 hSS ?_;(try simp only[zQ]);refine zT 9 hSS ?_;(try simp only[zQ]);refine zT 10 hSS ?_;(try simp only[zQ]);refine zp 11 fun K hK=>?_;(try simp only[zA,zB,zC]);go_simp;refine hK.out _ _ hSS.1 ?_;clear hK K hSS;(try simp only[zQ]);refine zd ?_;refine NoPanic.normal ?_;go_wp2_with fail;go_ret;refine⟨by rw[HR3.out];rfl,P,?_,rfl⟩;rw[HR3.out];have:=fJ.out _ HB3.out.drew;exact⟨this.st.after HB3.out.drew HS.out.rws,this.wf⟩
    ·skip
     have HN:=zh (show R=(12,S) by rw[HR2.out,if_neg hr]);obtain⟨A3,c3,hci,hc3,aU⟩:=HS2.out.items av;have w0:w3.cell? ⟨P.cb id,0,none⟩=some (.slice A3 (S.cell id).length c3):=by rw[<-hci];exact zc (HS2.out.cbox av) rfl
     obtain⟨m,hm⟩:∃ m,(S.cell id).length=m:=⟨_,rfl⟩
     rw[hm] at w0 hr;clear HR2 hci hc3 aU hm;by_cases hneg:iv<0
     ·go_wp2_with fail;go_ret;exact⟨by rw[HN.out];rfl,P,by rw[HN.out];exact SStp.refl HS.out HB3.out,rfl⟩
     ·have hge:(m:Int)<=iv:=by omega
      go_wp2_with fail;go_ret;exact⟨by rw[HN.out];rfl,P,by rw[HN.out];exact SStp.refl HS.out HB3.out,rfl⟩
   ·skip
    have HN:=zh (show R=(je,S) by rw[HR1.out,zmO,if_pos dG]);have e1:(je==0)=false:=by simpa using dG
    have e2:(je != 0)=true:=by simpa using dG
    clear dG;go_wp2_with fail;go_ret;exact⟨by rw[HN.out];rfl,P,by rw[HN.out];exact SStp.refl HS.out HB2.out,rfl⟩
 ·skip
  have HN:=zh (show R=(ie,S) by rw[ou.out,zlk,if_pos he]);have e1:(ie==0)=false:=by simpa using he
  have e2:(ie != 0)=true:=by simpa using he
  clear he;go_wp2_with fail;go_ret;exact⟨by rw[HN.out];rfl,P,by rw[HN.out];exact SStp.refl HS.out HB1.out,rfl⟩
theorem zwb {W:World} {n0:Nat} {P:Ph} {S:ST} (h:SR W n0 P S) (k n:Int) (s:ByteArray) (p q:T) (v:Value) (hv:NV W Any (.nd k n s [p,q]) v) (hk:k=43) (id:Nat) (hid:S.num p.s=some id) (kp:Int) (hck:CurK S id kp) (jd:Nat) (hjd:S.num q.s=some jd) (kq:Int) (hcq:CurK S jd kq) :
  Calls Tryz.prog 60 #[.pointer (some ⟨P.sb,0,none⟩),v] W fun e W'=>e=.returned (.int .i64 (zlk S k s p q (indE S.look p) (indE S.look q)).1)/\∃ P',SStp n0 P S W P' (zlk S k s p q (indE S.look p) (indE S.look q)).2 W'/\P'.sb=P.sb:=by
 obtain⟨A,c,rfl,hf,hlk,hlc,hrow⟩:=hv.open_;simp only[T.k_nd,T.n_nd,T.s_nd,T.ks_nd] at *
 obtain⟨R,hR⟩:∃ R,zlk S k s p q (indE S.look p) (indE S.look q)=R:=⟨_,rfl⟩
 rw[hR];have HRR:=zh hR;have HS:=zh h;have HL:=zh (zvD n0 P S h.wf);obtain⟨a,t0,A2,c2,rfl,_,Ht,h4,hn0⟩:=hrow.nd (i:=0) (by simp);obtain⟨a',t1,A3,c3,ea,_,Hu,h5,hn1⟩:=hrow.nd (i:=1) (by simp);injection ea with ea;subst ea;have ha:a.add (1*4)=⟨a.block,a.off+4,none⟩:=zLg a;rw[ha] at h5;have ht0:t0=p:=Ht.out.symm;subst ht0;have ht1:t1=q:=Hu.out.symm;subst ht1;simp only[Nat.zero_mul,Nat.one_mul,Addr.add_zero',List.length_cons,List.length_nil,Nat.zero_add,Nat.reduceAdd] at *
 have hbx:=box4 (heap_alloc_new W (.cells #[.int .u8 k,.int .i64 n,.string s,.slice (some a) 2 c] 29));have ax:=zh (heap_alloc_new W (.cells #[.int .u8 k,.int .i64 n,.string s,.slice (some a) 2 c] 29));obtain⟨W0,hW0⟩:∃ W0,W.alloc (.cells #[.int .u8 k,.int .i64 n,.string s,.slice (some a) 2 c] 29)=W0:=⟨_,rfl⟩
 have q0:Below W.heap.size W W0:=hW0▸zkb (Below.refl _ _) _;rw[hW0] at hbx ax;have gD:=zh q0;have H4:=zh h4;have H5:=zh h5;have g4:=zl3 q0 h4;obtain⟨z0,z1,z2,z3⟩:=g4;obtain⟨⟨iv,ie⟩,hiv⟩:∃ r,indE S.look t0=r:=⟨_,rfl⟩
 obtain⟨⟨jv,je⟩,hjv⟩:∃ r,indE S.look t1=r:=⟨_,rfl⟩
 have oF:=zh (zol HL.out t0 _ W0 (hn0.later q0) (h.later q0));rw[hiv] at oF;have qV:=zh (show ∀ W',Below W.heap.size W W'->Calls Tryz.prog 108 #[nv t1.k t1.n t1.s A3 t1.ks.length c3,.func (.func 109) #[.pointer (some ⟨P.sb,0,none⟩)] #[]] W' (NumE (jv,je) W') from fun W' hb=>hjv▸zol HL.out t1 _ W' (hn1.later hb) (h.later hb));have ou:=zh (show R=zlk S k s t0 t1 (iv,ie) (jv,je) by rw[<-hR,hiv,hjv]);have rG:=zh (fun W' (hb:Below W.heap.size W W')=>zmZ (h.later hb) t0.s id hid);obtain⟨x0,x1,x2,x3⟩:=hbx;have av:=hck.lt h.wf;have oG:=zh hid;clear hR hiv hjv hv hn0 hn1 hrow hlk hlc q0 hf hck hid h4 h5;have iE:=hcq.lt h.wf;have HCQ:=zh (fun W' (hb:Below W.heap.size W W')=>zmZ (h.later hb) t1.s jd hjd);have HJD:=zh hjd;subst hk;clear h hcq hjd;go_enter Tryz.func60,Tryz.ntmps60;go_wp2_with fail;refine oF.out.mono ?_;rintro e w1 ⟨rfl,aa⟩
 have HB1:=zh (zka gD.out aa);have aD:=zh (zkd ax.out aa);have v0:=zb aa x0;have v3:=zb aa x3;obtain⟨y0,y1,y2,y3⟩:=zl3 HB1.out H5.out;clear aa z0 z1 z2 z3 x0 x1 x2 x3;dsimp only;by_cases he:ie=0
 ·subst he;have HR1:=zh (show R=zmO S 43 s t0.s t1.s iv (jv,je) by rw[ou.out,zlk,if_neg (by simp)]);go_wp2_with fail;refine(qV.out _ HB1.out).mono ?_;rintro e w2 ⟨rfl,ag⟩;have HB2:=zh (zka HB1.out ag);have bg:=zh (zkd aD.out ag);have r0:=zb ag v0;have r3:=zb ag v3;obtain⟨z0,z1,z2,z3⟩:=zl3 HB2.out H4.out;clear ag y0 y1 y2 y3 v0 v3;dsimp only;by_cases dG:je=0
  ·subst dG;go_wp2_with fail;refine(rG.out _ HB2.out).mono ?_;rintro e w3 ⟨rfl,az⟩;have HB3:=zh (zka HB2.out az);have H43:=zh (zkd bg.out az);have s0:=zb az r0;have s3:=zb az r3;have HS2:=zh (HS.out.later HB3.out);clear r0 r3 az z0 z1 z2 z3;have HR2:=zh (show R=if 0<=iv/\iv<(S.cell id).length then zkC S 43 s t1.s jv id iv.toNat else (12,S) by
    rw[HR1.out,zmO,if_neg (by simp),oG.out])
   by_cases hr:0<=iv/\iv<((S.cell id).length:Int)
   ·obtain⟨i,rfl⟩:∃ i:Nat,iv=i:=⟨iv.toNat,by omega⟩
    have hi:i<(S.cell id).length:=by omega
    have HR3:=zh (show R=if 0<=jv/\jv<(S.cell jd).length then (0,znF S id i jd jv.toNat) else (12,S) by
     rw[HR2.out,if_pos hr,zkC,if_neg (by decide),if_pos rfl,HJD.out];rfl)
    obtain⟨⟨c4,hci,hc4⟩,p0,p1⟩:=HS2.out.plc av hi;have w0:w3.cell? ⟨P.cb id,0,none⟩=some (.slice (some ⟨P.gI id,0,none⟩) (S.cell id).length c4):=by rw[<-hci];exact zc (HS2.out.cbox av) rfl
    obtain⟨m,hm⟩:∃ m,(S.cell id).length=m:=⟨_,rfl⟩
    rw[hm] at w0;have hi1:¬ (i:Int)<0:=by omega
    have hi2:¬ (m:Int)<=(i:Int):=by omega
    have hi3:(i:Int)<(m:Int):=by omega
    obtain⟨y0,y1,y2,y3⟩:=zl3 HB3.out H5.out;clear HR1 HR2 hr hci hc4 hm p0 p1;go_wp2_with fail;refine(HCQ.out _ HB3.out).mono ?_;rintro e w4 ⟨rfl,dn⟩;have aC:=zh (zka HB3.out dn);have jG:=zh (HS.out.later aC.out);clear dn y0 y1 y2 y3 w0;by_cases hr2:0<=jv/\jv<((S.cell jd).length:Int)
    ·obtain⟨j,rfl⟩:∃ j:Nat,jv=j:=⟨jv.toNat,by omega⟩
     have hj:j<(S.cell jd).length:=by omega
     have HR4:=zh (show R=(0,znF S id i jd j) by rw[HR3.out,if_pos hr2];rfl);obtain⟨-,p0,p1⟩:=jG.out.plc av hi;obtain⟨⟨c5,hcj,wQ⟩,q0,q1⟩:=jG.out.plc iE hj;have w5:w4.cell? ⟨P.cb jd,0,none⟩=some (.slice (some ⟨P.gI jd,0,none⟩) (S.cell jd).length c5):=by rw[<-hcj];exact zc (jG.out.cbox iE) rfl
     have s1:=(jG.out.later (Below.refl _ _).drew).put av hi (S.el jd j) (zmS HS.out.wf iE j);have hj':j<((S.put id i (S.el jd j)).cell jd).length:=by
      simp only[ST.put,ST.setL]
      split
      ·next e=>rw[List.length_set,<-e];exact hj
      ·exact hj
     obtain⟨-,g0,g1⟩:=s1.sr.plc (id:=jd) (i:=j) iE hj';have s2:=s1.sr.put (id:=jd) (i:=j) iE hj' (S.el id i) (zmS HS.out.wf av i);have aS:=zh (s1.trans s2);obtain⟨xi,hxi⟩:∃ x,S.el id i=x:=⟨_,rfl⟩
     obtain⟨xj,hxj⟩:∃ x,S.el jd j=x:=⟨_,rfl⟩
     rw[hxi] at p0 aS;rw[hxj] at q0 g0 g1 aS;have sF:=zh (show R=(0,(S.put id i xj).put jd j xi) by rw[HR4.out,znF,hxi,hxj]);obtain⟨y,hy⟩:∃ y,(S.put id i xj).el jd j=y:=⟨_,rfl⟩
     rw[hy] at g0;obtain⟨m2,hm2⟩:∃ m,(S.cell jd).length=m:=⟨_,rfl⟩
     rw[hm2] at w5;have hj1:¬ (j:Int)<0:=by omega
     have hj2:¬ (m2:Int)<=(j:Int):=by omega
     have tF:(j:Int)<(m2:Int):=by omega
     clear HR3 HR4 hr2 hcj wQ hm2 s1 s2 hxi hxj hy;go_upto_region 30 with fail;have hSS:(fun _:World=>True) w4.drew/\(fun w':World=>w'.cell? ⟨P.gI id,i,none⟩=some (.int .i64 xi)/\w'.cell? ⟨P.gI jd,j,none⟩=some (.int .i64 xj)) w4.drew:=⟨trivial,p0,q0⟩
     refine wp_region_noPanic ?_;refine zkc (fun _:World=>True) (fun w':World=>w'.cell? ⟨P.gI id,i,none⟩=some (.int .i64 xi)/\w'.cell? ⟨P.gI jd,j,none⟩=some (.int .i64 xj)) 11 (by kernel_rfl) ?_;refine zT 0 hSS ?_;(try simp only[zQ]);refine zT 1 hSS ?_;(try simp only[zQ]);refine zT 2 hSS ?_;(try simp only[zQ]);refine zT 3 hSS ?_;(try simp only[zQ]);refine zT 4 hSS ?_;(try simp only[zQ]);refine zT 5 hSS ?_;(try simp only[zQ]);refine zkV (i:=6) (v:=?_) rfl (by kernel_rfl) (by kernel_rfl) (by kernel_rfl) (by decide) rfl (by kernel_rfl) (by kernel_rfl) (fun _ _ _ h=>h) (Or.inl ⟨by rfl,?_⟩) hSS ?_;rotate_left 1
     ·(intro w hSw;(try dsimp only at hSw);(try simp only[zA,zB,zC]);go_simp;(try with_reducible rfl))
     (try simp only[zQ]);refine zT 7 hSS ?_;(try simp only[zQ]);refine zT 8 hSS ?_;(try simp only[zQ]);refine zkV (i:=9) (v:=?_) rfl (by kernel_rfl) (by kernel_rfl) (by kernel_rfl) (by decide) rfl (by kernel_rfl) (by kernel_rfl) (fun _ _ _ h=>h) (Or.inl ⟨by rfl,?_⟩) hSS ?_;rotate_left 1
     ·(intro w hSw;(try dsimp only at hSw);(try simp only[zA,zB,zC]);go_simp;(try with_reducible rfl))
     (try simp only[zQ]);refine zo 10 fun K hK=>?_;(try simp only[zA,zB,zC]);go_simp;refine hK.out _ _ hSS ?_;clear hK K;(try simp only[zQ]);refine zp 11 fun K hK=>?_;(try simp only[zA,zB,zC]);have p1':w4.drew.frozen? ⟨P.gI id,i,none⟩=false:=p1;have p0':w4.drew.cell? ⟨P.gI id,i,none⟩=some (.int .i64 xi):=p0;go_simp;refine hK.out _ _ trivial ?_;clear hK K hSS;(try simp only[zQ]);have g0':(w4.setCell ⟨P.gI id,i,none⟩ (.int .i64 xj)).cell? ⟨P.gI jd,j,none⟩=some (.int .i64 y):=g0;have g1':(w4.setCell ⟨P.gI id,i,none⟩ (.int .i64 xj)).frozen? ⟨P.gI jd,j,none⟩=false:=g1;refine zp 12 fun K hK=>?_;(try simp only[zA,zB,zC]);go_simp;refine hK.out _ _ trivial ?_;clear hK K;(try simp only[zQ]);refine zp 13 fun K hK=>?_;(try simp only[zA,zB,zC]);go_simp;refine hK.out _ _ trivial ?_;clear hK K;(try simp only[zQ]);refine zd ?_;refine NoPanic.normal ?_;clear p0 p1 p0' p1' q0 q1 g0 g1 g0' g1'
     go_wp2_with fail;go_ret;refine⟨by rw[sF.out];rfl,P,?_,rfl⟩;rw[sF.out];exact⟨aS.out.st.after aC.out.drew HS.out.rws,aS.out.wf⟩
    ·have HN:=zh (show R=(12,S) by rw[HR3.out,if_neg hr2]);obtain⟨A5,c5,hcj,wQ,gM⟩:=jG.out.items iE;have w5:w4.cell? ⟨P.cb jd,0,none⟩=some (.slice A5 (S.cell jd).length c5):=by rw[<-hcj];exact zc (jG.out.cbox iE) rfl
     obtain⟨m2,hm2⟩:∃ m,(S.cell jd).length=m:=⟨_,rfl⟩
     rw[hm2] at w5 hr2;clear HR3 hcj wQ gM hm2;by_cases hneg:jv<0
     ·go_wp2_with fail;go_ret;exact⟨by rw[HN.out];rfl,P,by rw[HN.out];exact SStp.refl HS.out aC.out,rfl⟩
     ·have hge:(m2:Int)<=jv:=by omega
      go_wp2_with fail;go_ret;exact⟨by rw[HN.out];rfl,P,by rw[HN.out];exact SStp.refl HS.out aC.out,rfl⟩
   ·skip
    have HN:=zh (show R=(12,S) by rw[HR2.out,if_neg hr]);obtain⟨A3,c3,hci,hc3,aU⟩:=HS2.out.items av;have w0:w3.cell? ⟨P.cb id,0,none⟩=some (.slice A3 (S.cell id).length c3):=by rw[<-hci];exact zc (HS2.out.cbox av) rfl
    obtain⟨m,hm⟩:∃ m,(S.cell id).length=m:=⟨_,rfl⟩
    rw[hm] at w0 hr;clear HR2 hci hc3 aU hm;by_cases hneg:iv<0
    ·go_wp2_with fail;go_ret;exact⟨by rw[HN.out];rfl,P,by rw[HN.out];exact SStp.refl HS.out HB3.out,rfl⟩
    ·have hge:(m:Int)<=iv:=by omega
     go_wp2_with fail;go_ret;exact⟨by rw[HN.out];rfl,P,by rw[HN.out];exact SStp.refl HS.out HB3.out,rfl⟩
  ·skip
   have HN:=zh (show R=(je,S) by rw[HR1.out,zmO,if_pos dG]);have e1:(je==0)=false:=by simpa using dG
   have e2:(je != 0)=true:=by simpa using dG
   clear dG;go_wp2_with fail;go_ret;exact⟨by rw[HN.out];rfl,P,by rw[HN.out];exact SStp.refl HS.out HB2.out,rfl⟩
 ·skip
  have HN:=zh (show R=(ie,S) by rw[ou.out,zlk,if_pos he]);have e1:(ie==0)=false:=by simpa using he
  have e2:(ie != 0)=true:=by simpa using he
  clear he;go_wp2_with fail;go_ret;exact⟨by rw[HN.out];rfl,P,by rw[HN.out];exact SStp.refl HS.out HB1.out,rfl⟩
end Go.Proofs.YtckhofdinldhpaaGreat
namespace Go.Proofs.YtckhofdinldhpaaGreat
open Go.RowKit
def zmk (t:T):Prop:=∀ (v:Value) (w:World),NV w Any t v->Calls Tryz.prog 56 #[v] w fun e w'=>e=.returned (.bool (isS t))/\Below w.heap.size w w'
def zlI (t:T):Prop:=∀ (v:Value) (w:World),NV w Any t v->Calls Tryz.prog 91 #[v] w fun e w'=>e=.returned (.bool (isB t))/\Below w.heap.size w w'
theorem zw9 (n:Int) (s:ByteArray) (ks:List T) (aG:∀ t∈ks,zlI t):zmk (.nd 40 n s ks):=by
 intro v w hv;have HX:=zh (show isS (.nd 40 n s ks)=(zks n s&&zkN 2 (fun i=>if i=0 then isP else isE) ks) by simp[isS]);have IH:=zh aG;have HV:=zh hv;obtain⟨Ad,c,rfl,hf,hlk,hlc,hrow⟩:=hv.open_;simp only[T.k_nd,T.n_nd,T.s_nd,T.ks_nd] at *
 have ak:=zkx hlk;clear hf hv hlk hrow hlc aG;by_cases hnb:zks n s=true
 ·go_enter Tryz.func56,Tryz.ntmps56;go_wp2_with fail;refine(zkr _ _ _ _ _ _ _).mono ?_;rintro e w1 ⟨rfl,hb1⟩;obtain⟨hc1,hf1⟩:=zlf hb1;have hbb:Below w.heap.size w w1:=((Below.refl _ _).alloc (Nat.le_refl _) _).trans (hb1.mono (by simp));go_wp2_with fail;refine(zkY (.nd 40 n s ks) _ _ (HV.out.later (hbb.alloc hbb.size _)) _ 2 (fun i=>if i=0 then 101 else 102) (fun i=>if i=0 then Tryz.f101 else Tryz.f102) (fun i=>if i=0 then isP else isE) (by decide) (by simp) (fun i hi=>zmN (by rcases i with _|_|_|_|i<;>first|omega|rfl)) (fun i hi=>by rcases i with _|i;exact zli;exact zlg) (fun hl i hi=>by rcases i with _|i;exact zkU _;exact zkO _)).mono ?_;rintro e w2 ⟨rfl,hb2⟩;have hbc:Below w.heap.size w w2:=(hbb.alloc hbb.size _).trans (hb2.mono (by have:=hbb.size;simp;omega));go_wp2_with fail;go_ret;exact⟨by rw[HX.out];simp[*],hbc⟩
 ·have hnb':zks n s=false:=by simpa using hnb
  clear hnb;go_enter Tryz.func56,Tryz.ntmps56;go_wp2_with fail;refine(zkr _ _ _ _ _ _ _).mono ?_;rintro e w1 ⟨rfl,hb1⟩;have hbb:Below w.heap.size w w1:=((Below.refl _ _).alloc (Nat.le_refl _) _).trans (hb1.mono (by simp));go_wp2_with fail;go_ret;exact⟨by rw[HX.out];simp[*],hbb⟩
theorem zw8 (n:Int) (s:ByteArray) (ks:List T) (aG:∀ t∈ks,zlI t):zmk (.nd 41 n s ks):=by
 intro v w hv;have HX:=zh (show isS (.nd 41 n s ks)=(zks n s&&zkN 2 (fun i=>if i=0 then isP else isE) ks) by simp[isS]);have IH:=zh aG;have HV:=zh hv;obtain⟨Ad,c,rfl,hf,hlk,hlc,hrow⟩:=hv.open_;simp only[T.k_nd,T.n_nd,T.s_nd,T.ks_nd] at *
 have ak:=zkx hlk;clear hf hv hlk hrow hlc aG;by_cases hnb:zks n s=true
 ·go_enter Tryz.func56,Tryz.ntmps56;go_wp2_with fail;refine(zkr _ _ _ _ _ _ _).mono ?_;rintro e w1 ⟨rfl,hb1⟩;obtain⟨hc1,hf1⟩:=zlf hb1;have hbb:Below w.heap.size w w1:=((Below.refl _ _).alloc (Nat.le_refl _) _).trans (hb1.mono (by simp));go_wp2_with fail;refine(zkY (.nd 41 n s ks) _ _ (HV.out.later (hbb.alloc hbb.size _)) _ 2 (fun i=>if i=0 then 101 else 102) (fun i=>if i=0 then Tryz.f101 else Tryz.f102) (fun i=>if i=0 then isP else isE) (by decide) (by simp) (fun i hi=>zmN (by rcases i with _|_|_|_|i<;>first|omega|rfl)) (fun i hi=>by rcases i with _|i;exact zli;exact zlg) (fun hl i hi=>by rcases i with _|i;exact zkU _;exact zkO _)).mono ?_;rintro e w2 ⟨rfl,hb2⟩;have hbc:Below w.heap.size w w2:=(hbb.alloc hbb.size _).trans (hb2.mono (by have:=hbb.size;simp;omega));go_wp2_with fail;go_ret;exact⟨by rw[HX.out];simp[*],hbc⟩
 ·have hnb':zks n s=false:=by simpa using hnb
  clear hnb;go_enter Tryz.func56,Tryz.ntmps56;go_wp2_with fail;refine(zkr _ _ _ _ _ _ _).mono ?_;rintro e w1 ⟨rfl,hb1⟩;have hbb:Below w.heap.size w w1:=((Below.refl _ _).alloc (Nat.le_refl _) _).trans (hb1.mono (by simp));go_wp2_with fail;go_ret;exact⟨by rw[HX.out];simp[*],hbb⟩
theorem zw7 (n:Int) (s:ByteArray) (ks:List T) (aG:∀ t∈ks,zlI t):zmk (.nd 42 n s ks):=by
 intro v w hv;have HX:=zh (show isS (.nd 42 n s ks)=(zks n s&&zkN 2 (fun i=>if i=0 then isP else isE) ks) by simp[isS]);have IH:=zh aG;have HV:=zh hv;obtain⟨Ad,c,rfl,hf,hlk,hlc,hrow⟩:=hv.open_;simp only[T.k_nd,T.n_nd,T.s_nd,T.ks_nd] at *
 have ak:=zkx hlk;clear hf hv hlk hrow hlc aG;by_cases hnb:zks n s=true
 ·go_enter Tryz.func56,Tryz.ntmps56;go_wp2_with fail;refine(zkr _ _ _ _ _ _ _).mono ?_;rintro e w1 ⟨rfl,hb1⟩;obtain⟨hc1,hf1⟩:=zlf hb1;have hbb:Below w.heap.size w w1:=((Below.refl _ _).alloc (Nat.le_refl _) _).trans (hb1.mono (by simp));go_wp2_with fail;refine(zkY (.nd 42 n s ks) _ _ (HV.out.later (hbb.alloc hbb.size _)) _ 2 (fun i=>if i=0 then 101 else 102) (fun i=>if i=0 then Tryz.f101 else Tryz.f102) (fun i=>if i=0 then isP else isE) (by decide) (by simp) (fun i hi=>zmN (by rcases i with _|_|_|_|i<;>first|omega|rfl)) (fun i hi=>by rcases i with _|i;exact zli;exact zlg) (fun hl i hi=>by rcases i with _|i;exact zkU _;exact zkO _)).mono ?_;rintro e w2 ⟨rfl,hb2⟩;have hbc:Below w.heap.size w w2:=(hbb.alloc hbb.size _).trans (hb2.mono (by have:=hbb.size;simp;omega));go_wp2_with fail;go_ret;exact⟨by rw[HX.out];simp[*],hbc⟩
 ·have hnb':zks n s=false:=by simpa using hnb
  clear hnb;go_enter Tryz.func56,Tryz.ntmps56;go_wp2_with fail;refine(zkr _ _ _ _ _ _ _).mono ?_;rintro e w1 ⟨rfl,hb1⟩;have hbb:Below w.heap.size w w1:=((Below.refl _ _).alloc (Nat.le_refl _) _).trans (hb1.mono (by simp));go_wp2_with fail;go_ret;exact⟨by rw[HX.out];simp[*],hbb⟩
theorem zwT (n:Int) (s:ByteArray) (ks:List T) (aG:∀ t∈ks,zlI t):zmk (.nd 56 n s ks):=by
 intro v w hv;have HX:=zh (show isS (.nd 56 n s ks)=(zks n s&&zkN 2 (fun i=>if i=0 then isP else isE) ks) by simp[isS]);have IH:=zh aG;have HV:=zh hv;obtain⟨Ad,c,rfl,hf,hlk,hlc,hrow⟩:=hv.open_;simp only[T.k_nd,T.n_nd,T.s_nd,T.ks_nd] at *
 have ak:=zkx hlk;clear hf hv hlk hrow hlc aG;by_cases hnb:zks n s=true
 ·go_enter Tryz.func56,Tryz.ntmps56;go_wp2_with fail;refine(zkr _ _ _ _ _ _ _).mono ?_;rintro e w1 ⟨rfl,hb1⟩;obtain⟨hc1,hf1⟩:=zlf hb1;have hbb:Below w.heap.size w w1:=((Below.refl _ _).alloc (Nat.le_refl _) _).trans (hb1.mono (by simp));go_wp2_with fail;refine(zkY (.nd 56 n s ks) _ _ (HV.out.later (hbb.alloc hbb.size _)) _ 2 (fun i=>if i=0 then 101 else 102) (fun i=>if i=0 then Tryz.f101 else Tryz.f102) (fun i=>if i=0 then isP else isE) (by decide) (by simp) (fun i hi=>zmN (by rcases i with _|_|_|_|i<;>first|omega|rfl)) (fun i hi=>by rcases i with _|i;exact zli;exact zlg) (fun hl i hi=>by rcases i with _|i;exact zkU _;exact zkO _)).mono ?_;rintro e w2 ⟨rfl,hb2⟩;have hbc:Below w.heap.size w w2:=(hbb.alloc hbb.size _).trans (hb2.mono (by have:=hbb.size;simp;omega));go_wp2_with fail;go_ret;exact⟨by rw[HX.out];simp[*],hbc⟩
 ·have hnb':zks n s=false:=by simpa using hnb
  clear hnb;go_enter Tryz.func56,Tryz.ntmps56;go_wp2_with fail;refine(zkr _ _ _ _ _ _ _).mono ?_;rintro e w1 ⟨rfl,hb1⟩;have hbb:Below w.heap.size w w1:=((Below.refl _ _).alloc (Nat.le_refl _) _).trans (hb1.mono (by simp));go_wp2_with fail;go_ret;exact⟨by rw[HX.out];simp[*],hbb⟩
theorem zw6 (n:Int) (s:ByteArray) (ks:List T) (aG:∀ t∈ks,zlI t):zmk (.nd 43 n s ks):=by
 intro v w hv;have HX:=zh (show isS (.nd 43 n s ks)=(zks n s&&zkN 2 (fun _=>isP) ks) by simp[isS]);have IH:=zh aG;have HV:=zh hv;obtain⟨Ad,c,rfl,hf,hlk,hlc,hrow⟩:=hv.open_;simp only[T.k_nd,T.n_nd,T.s_nd,T.ks_nd] at *
 have ak:=zkx hlk;clear hf hv hlk hrow hlc aG;by_cases hnb:zks n s=true
 ·go_enter Tryz.func56,Tryz.ntmps56;go_wp2_with fail;refine(zkr _ _ _ _ _ _ _).mono ?_;rintro e w1 ⟨rfl,hb1⟩;obtain⟨hc1,hf1⟩:=zlf hb1;have hbb:Below w.heap.size w w1:=((Below.refl _ _).alloc (Nat.le_refl _) _).trans (hb1.mono (by simp));go_wp2_with fail;refine(zkY (.nd 43 n s ks) _ _ (HV.out.later (hbb.alloc hbb.size _)) _ 2 (fun _=>101) (fun _=>Tryz.f101) (fun _=>isP) (by decide) (by simp) (fun i hi=>zmN (by rcases i with _|_|_|_|i<;>first|omega|rfl)) (fun _ _=>zli) (fun hl i hi=>zkU _)).mono ?_;rintro e w2 ⟨rfl,hb2⟩;have hbc:Below w.heap.size w w2:=(hbb.alloc hbb.size _).trans (hb2.mono (by have:=hbb.size;simp;omega));go_wp2_with fail;go_ret;exact⟨by rw[HX.out];simp[*],hbc⟩
 ·have hnb':zks n s=false:=by simpa using hnb
  clear hnb;go_enter Tryz.func56,Tryz.ntmps56;go_wp2_with fail;refine(zkr _ _ _ _ _ _ _).mono ?_;rintro e w1 ⟨rfl,hb1⟩;have hbb:Below w.heap.size w w1:=((Below.refl _ _).alloc (Nat.le_refl _) _).trans (hb1.mono (by simp));go_wp2_with fail;go_ret;exact⟨by rw[HX.out];simp[*],hbb⟩
theorem zw5 (n:Int) (s:ByteArray) (ks:List T) (aG:∀ t∈ks,zlI t):zmk (.nd 44 n s ks):=by
 intro v w hv;have HX:=zh (show isS (.nd 44 n s ks)=(zkG n s&&zkN 1 (fun _=>isP) ks) by simp[isS]);have IH:=zh aG;have HV:=zh hv;obtain⟨Ad,c,rfl,hf,hlk,hlc,hrow⟩:=hv.open_;simp only[T.k_nd,T.n_nd,T.s_nd,T.ks_nd] at *
 have ak:=zkx hlk;clear hf hv hlk hrow hlc aG;by_cases hnb:zkG n s=true
 ·go_enter Tryz.func56,Tryz.ntmps56;go_wp2_with fail;refine(zkA _ _ _ _ _ _ _).mono ?_;rintro e w1 ⟨rfl,hb1⟩;obtain⟨hc1,hf1⟩:=zlf hb1;have hbb:Below w.heap.size w w1:=((Below.refl _ _).alloc (Nat.le_refl _) _).trans (hb1.mono (by simp));go_wp2_with fail;refine(zkY (.nd 44 n s ks) _ _ (HV.out.later (hbb.alloc hbb.size _)) _ 1 (fun _=>101) (fun _=>Tryz.f101) (fun _=>isP) (by decide) (by simp) (fun i hi=>zmN (by rcases i with _|_|_|_|i<;>first|omega|rfl)) (fun _ _=>zli) (fun hl i hi=>zkU _)).mono ?_;rintro e w2 ⟨rfl,hb2⟩;have hbc:Below w.heap.size w w2:=(hbb.alloc hbb.size _).trans (hb2.mono (by have:=hbb.size;simp;omega));go_wp2_with fail;go_ret;exact⟨by rw[HX.out];simp[*],hbc⟩
 ·have hnb':zkG n s=false:=by simpa using hnb
  clear hnb;go_enter Tryz.func56,Tryz.ntmps56;go_wp2_with fail;refine(zkA _ _ _ _ _ _ _).mono ?_;rintro e w1 ⟨rfl,hb1⟩;have hbb:Below w.heap.size w w1:=((Below.refl _ _).alloc (Nat.le_refl _) _).trans (hb1.mono (by simp));go_wp2_with fail;go_ret;exact⟨by rw[HX.out];simp[*],hbb⟩
theorem zw4 (n:Int) (s:ByteArray) (ks:List T) (aG:∀ t∈ks,zlI t):zmk (.nd 45 n s ks):=by
 intro v w hv;have HX:=zh (show isS (.nd 45 n s ks)=(zkG n s&&zkN 1 (fun _=>isP) ks) by simp[isS]);have IH:=zh aG;have HV:=zh hv;obtain⟨Ad,c,rfl,hf,hlk,hlc,hrow⟩:=hv.open_;simp only[T.k_nd,T.n_nd,T.s_nd,T.ks_nd] at *
 have ak:=zkx hlk;clear hf hv hlk hrow hlc aG;by_cases hnb:zkG n s=true
 ·go_enter Tryz.func56,Tryz.ntmps56;go_wp2_with fail;refine(zkA _ _ _ _ _ _ _).mono ?_;rintro e w1 ⟨rfl,hb1⟩;obtain⟨hc1,hf1⟩:=zlf hb1;have hbb:Below w.heap.size w w1:=((Below.refl _ _).alloc (Nat.le_refl _) _).trans (hb1.mono (by simp));go_wp2_with fail;refine(zkY (.nd 45 n s ks) _ _ (HV.out.later (hbb.alloc hbb.size _)) _ 1 (fun _=>101) (fun _=>Tryz.f101) (fun _=>isP) (by decide) (by simp) (fun i hi=>zmN (by rcases i with _|_|_|_|i<;>first|omega|rfl)) (fun _ _=>zli) (fun hl i hi=>zkU _)).mono ?_;rintro e w2 ⟨rfl,hb2⟩;have hbc:Below w.heap.size w w2:=(hbb.alloc hbb.size _).trans (hb2.mono (by have:=hbb.size;simp;omega));go_wp2_with fail;go_ret;exact⟨by rw[HX.out];simp[*],hbc⟩
 ·have hnb':zkG n s=false:=by simpa using hnb
  clear hnb;go_enter Tryz.func56,Tryz.ntmps56;go_wp2_with fail;refine(zkA _ _ _ _ _ _ _).mono ?_;rintro e w1 ⟨rfl,hb1⟩;have hbb:Below w.heap.size w w1:=((Below.refl _ _).alloc (Nat.le_refl _) _).trans (hb1.mono (by simp));go_wp2_with fail;go_ret;exact⟨by rw[HX.out];simp[*],hbb⟩
theorem zw3 (n:Int) (s:ByteArray) (ks:List T) (aG:∀ t∈ks,zlI t):zmk (.nd 46 n s ks):=by
 intro v w hv;have HX:=zh (show isS (.nd 46 n s ks)=(zks n s&&zkN 1 (fun _=>isP) ks) by simp[isS]);have IH:=zh aG;have HV:=zh hv;obtain⟨Ad,c,rfl,hf,hlk,hlc,hrow⟩:=hv.open_;simp only[T.k_nd,T.n_nd,T.s_nd,T.ks_nd] at *
 have ak:=zkx hlk;clear hf hv hlk hrow hlc aG;by_cases hnb:zks n s=true
 ·go_enter Tryz.func56,Tryz.ntmps56;go_wp2_with fail;refine(zkr _ _ _ _ _ _ _).mono ?_;rintro e w1 ⟨rfl,hb1⟩;obtain⟨hc1,hf1⟩:=zlf hb1;have hbb:Below w.heap.size w w1:=((Below.refl _ _).alloc (Nat.le_refl _) _).trans (hb1.mono (by simp));go_wp2_with fail;refine(zkY (.nd 46 n s ks) _ _ (HV.out.later (hbb.alloc hbb.size _)) _ 1 (fun _=>101) (fun _=>Tryz.f101) (fun _=>isP) (by decide) (by simp) (fun i hi=>zmN (by rcases i with _|_|_|_|i<;>first|omega|rfl)) (fun _ _=>zli) (fun hl i hi=>zkU _)).mono ?_;rintro e w2 ⟨rfl,hb2⟩;have hbc:Below w.heap.size w w2:=(hbb.alloc hbb.size _).trans (hb2.mono (by have:=hbb.size;simp;omega));go_wp2_with fail;go_ret;exact⟨by rw[HX.out];simp[*],hbc⟩
 ·have hnb':zks n s=false:=by simpa using hnb
  clear hnb;go_enter Tryz.func56,Tryz.ntmps56;go_wp2_with fail;refine(zkr _ _ _ _ _ _ _).mono ?_;rintro e w1 ⟨rfl,hb1⟩;have hbb:Below w.heap.size w w1:=((Below.refl _ _).alloc (Nat.le_refl _) _).trans (hb1.mono (by simp));go_wp2_with fail;go_ret;exact⟨by rw[HX.out];simp[*],hbb⟩
theorem zw2 (n:Int) (s:ByteArray) (ks:List T) (aG:∀ t∈ks,zlI t):zmk (.nd 47 n s ks):=by
 intro v w hv;have HX:=zh (show isS (.nd 47 n s ks)=(zks n s&&zkN 1 (fun _=>isP) ks) by simp[isS]);have IH:=zh aG;have HV:=zh hv;obtain⟨Ad,c,rfl,hf,hlk,hlc,hrow⟩:=hv.open_;simp only[T.k_nd,T.n_nd,T.s_nd,T.ks_nd] at *
 have ak:=zkx hlk;clear hf hv hlk hrow hlc aG;by_cases hnb:zks n s=true
 ·go_enter Tryz.func56,Tryz.ntmps56;go_wp2_with fail;refine(zkr _ _ _ _ _ _ _).mono ?_;rintro e w1 ⟨rfl,hb1⟩;obtain⟨hc1,hf1⟩:=zlf hb1;have hbb:Below w.heap.size w w1:=((Below.refl _ _).alloc (Nat.le_refl _) _).trans (hb1.mono (by simp));go_wp2_with fail;refine(zkY (.nd 47 n s ks) _ _ (HV.out.later (hbb.alloc hbb.size _)) _ 1 (fun _=>101) (fun _=>Tryz.f101) (fun _=>isP) (by decide) (by simp) (fun i hi=>zmN (by rcases i with _|_|_|_|i<;>first|omega|rfl)) (fun _ _=>zli) (fun hl i hi=>zkU _)).mono ?_;rintro e w2 ⟨rfl,hb2⟩;have hbc:Below w.heap.size w w2:=(hbb.alloc hbb.size _).trans (hb2.mono (by have:=hbb.size;simp;omega));go_wp2_with fail;go_ret;exact⟨by rw[HX.out];simp[*],hbc⟩
 ·have hnb':zks n s=false:=by simpa using hnb
  clear hnb;go_enter Tryz.func56,Tryz.ntmps56;go_wp2_with fail;refine(zkr _ _ _ _ _ _ _).mono ?_;rintro e w1 ⟨rfl,hb1⟩;have hbb:Below w.heap.size w w1:=((Below.refl _ _).alloc (Nat.le_refl _) _).trans (hb1.mono (by simp));go_wp2_with fail;go_ret;exact⟨by rw[HX.out];simp[*],hbb⟩
theorem zw1 (n:Int) (s:ByteArray) (ks:List T) (aG:∀ t∈ks,zlI t):zmk (.nd 48 n s ks):=by
 intro v w hv;have HX:=zh (show isS (.nd 48 n s ks)=(zks n s&&zkN 1 (fun _=>isP) ks) by simp[isS]);have IH:=zh aG;have HV:=zh hv;obtain⟨Ad,c,rfl,hf,hlk,hlc,hrow⟩:=hv.open_;simp only[T.k_nd,T.n_nd,T.s_nd,T.ks_nd] at *
 have ak:=zkx hlk;clear hf hv hlk hrow hlc aG;by_cases hnb:zks n s=true
 ·go_enter Tryz.func56,Tryz.ntmps56;go_wp2_with fail;refine(zkr _ _ _ _ _ _ _).mono ?_;rintro e w1 ⟨rfl,hb1⟩;obtain⟨hc1,hf1⟩:=zlf hb1;have hbb:Below w.heap.size w w1:=((Below.refl _ _).alloc (Nat.le_refl _) _).trans (hb1.mono (by simp));go_wp2_with fail;refine(zkY (.nd 48 n s ks) _ _ (HV.out.later (hbb.alloc hbb.size _)) _ 1 (fun _=>101) (fun _=>Tryz.f101) (fun _=>isP) (by decide) (by simp) (fun i hi=>zmN (by rcases i with _|_|_|_|i<;>first|omega|rfl)) (fun _ _=>zli) (fun hl i hi=>zkU _)).mono ?_;rintro e w2 ⟨rfl,hb2⟩;have hbc:Below w.heap.size w w2:=(hbb.alloc hbb.size _).trans (hb2.mono (by have:=hbb.size;simp;omega));go_wp2_with fail;go_ret;exact⟨by rw[HX.out];simp[*],hbc⟩
 ·have hnb':zks n s=false:=by simpa using hnb
  clear hnb;go_enter Tryz.func56,Tryz.ntmps56;go_wp2_with fail;refine(zkr _ _ _ _ _ _ _).mono ?_;rintro e w1 ⟨rfl,hb1⟩;have hbb:Below w.heap.size w w1:=((Below.refl _ _).alloc (Nat.le_refl _) _).trans (hb1.mono (by simp));go_wp2_with fail;go_ret;exact⟨by rw[HX.out];simp[*],hbb⟩
theorem zw0 (n:Int) (s:ByteArray) (ks:List T) (aG:∀ t∈ks,zlI t):zmk (.nd 49 n s ks):=by
 intro v w hv;have HX:=zh (show isS (.nd 49 n s ks)=(zks n s&&zkN 1 (fun _=>isP) ks) by simp[isS]);have IH:=zh aG;have HV:=zh hv;obtain⟨Ad,c,rfl,hf,hlk,hlc,hrow⟩:=hv.open_;simp only[T.k_nd,T.n_nd,T.s_nd,T.ks_nd] at *
 have ak:=zkx hlk;clear hf hv hlk hrow hlc aG;by_cases hnb:zks n s=true
 ·go_enter Tryz.func56,Tryz.ntmps56;go_wp2_with fail;refine(zkr _ _ _ _ _ _ _).mono ?_;rintro e w1 ⟨rfl,hb1⟩;obtain⟨hc1,hf1⟩:=zlf hb1;have hbb:Below w.heap.size w w1:=((Below.refl _ _).alloc (Nat.le_refl _) _).trans (hb1.mono (by simp));go_wp2_with fail;refine(zkY (.nd 49 n s ks) _ _ (HV.out.later (hbb.alloc hbb.size _)) _ 1 (fun _=>101) (fun _=>Tryz.f101) (fun _=>isP) (by decide) (by simp) (fun i hi=>zmN (by rcases i with _|_|_|_|i<;>first|omega|rfl)) (fun _ _=>zli) (fun hl i hi=>zkU _)).mono ?_;rintro e w2 ⟨rfl,hb2⟩;have hbc:Below w.heap.size w w2:=(hbb.alloc hbb.size _).trans (hb2.mono (by have:=hbb.size;simp;omega));go_wp2_with fail;go_ret;exact⟨by rw[HX.out];simp[*],hbc⟩
 ·have hnb':zks n s=false:=by simpa using hnb
  clear hnb;go_enter Tryz.func56,Tryz.ntmps56;go_wp2_with fail;refine(zkr _ _ _ _ _ _ _).mono ?_;rintro e w1 ⟨rfl,hb1⟩;have hbb:Below w.heap.size w w1:=((Below.refl _ _).alloc (Nat.le_refl _) _).trans (hb1.mono (by simp));go_wp2_with fail;go_ret;exact⟨by rw[HX.out];simp[*],hbb⟩
theorem zwX (n:Int) (s:ByteArray) (ks:List T) (aG:∀ t∈ks,zlI t):zmk (.nd 52 n s ks):=by
 intro v w hv;have HX:=zh (show isS (.nd 52 n s ks)=(zks n s&&zkN 4 (pEB 0) ks) by simp[isS,zkN,<-zmK]);have IH:=zh aG;have HV:=zh hv;obtain⟨Ad,c,rfl,hf,hlk,hlc,hrow⟩:=hv.open_;simp only[T.k_nd,T.n_nd,T.s_nd,T.ks_nd] at *
 have ak:=zkx hlk;clear hf hv hlk hrow hlc aG;by_cases hnb:zks n s=true
 ·go_enter Tryz.func56,Tryz.ntmps56;go_wp2_with fail;refine(zkr _ _ _ _ _ _ _).mono ?_;rintro e w1 ⟨rfl,hb1⟩;obtain⟨hc1,hf1⟩:=zlf hb1;have hbb:Below w.heap.size w w1:=((Below.refl _ _).alloc (Nat.le_refl _) _).trans (hb1.mono (by simp));go_wp2_with fail;refine(zkY (.nd 52 n s ks) _ _ (HV.out.later (hbb.alloc hbb.size _)) _ 4 (fun i=>if i=0\/i=3 then 102 else 91) (fun i=>if i=0\/i=3 then Tryz.f102 else Tryz.f91) (pEB 0) (by decide) (by simp) (fun i hi=>zmN (by rcases i with _|_|_|_|i<;>first|omega|rfl)) (fun i hi=>by rcases i with _|_|_|_|i;exact zlg;exact zmA;exact zmA;exact zlg;omega) (fun hl i hi=>by rcases i with _|_|_|_|i;exact zkO _;exact IH.out _ (List.getElem_mem hi);exact IH.out _ (List.getElem_mem hi);exact zkO _;exact absurd hi (by simp only[T.ks_nd] at hl ⊢;omega))).mono ?_;rintro e w2 ⟨rfl,hb2⟩
  have hbc:Below w.heap.size w w2:=(hbb.alloc hbb.size _).trans (hb2.mono (by have:=hbb.size;simp;omega));go_wp2_with fail;go_ret;exact⟨by rw[HX.out];simp[*],hbc⟩
 ·have hnb':zks n s=false:=by simpa using hnb
  clear hnb;go_enter Tryz.func56,Tryz.ntmps56;go_wp2_with fail;refine(zkr _ _ _ _ _ _ _).mono ?_;rintro e w1 ⟨rfl,hb1⟩;have hbb:Below w.heap.size w w1:=((Below.refl _ _).alloc (Nat.le_refl _) _).trans (hb1.mono (by simp));go_wp2_with fail;go_ret;exact⟨by rw[HX.out];simp[*],hbb⟩
theorem zwW (n:Int) (s:ByteArray) (ks:List T) (aG:∀ t∈ks,zlI t):zmk (.nd 53 n s ks):=by
 intro v w hv;have HX:=zh (show isS (.nd 53 n s ks)=(zks n s&&zkN 4 (pEB 0) ks) by simp[isS,zkN,<-zmK]);have IH:=zh aG;have HV:=zh hv;obtain⟨Ad,c,rfl,hf,hlk,hlc,hrow⟩:=hv.open_;simp only[T.k_nd,T.n_nd,T.s_nd,T.ks_nd] at *
 have ak:=zkx hlk;clear hf hv hlk hrow hlc aG;by_cases hnb:zks n s=true
 ·go_enter Tryz.func56,Tryz.ntmps56;go_wp2_with fail;refine(zkr _ _ _ _ _ _ _).mono ?_;rintro e w1 ⟨rfl,hb1⟩;obtain⟨hc1,hf1⟩:=zlf hb1;have hbb:Below w.heap.size w w1:=((Below.refl _ _).alloc (Nat.le_refl _) _).trans (hb1.mono (by simp));go_wp2_with fail;refine(zkY (.nd 53 n s ks) _ _ (HV.out.later (hbb.alloc hbb.size _)) _ 4 (fun i=>if i=0\/i=3 then 102 else 91) (fun i=>if i=0\/i=3 then Tryz.f102 else Tryz.f91) (pEB 0) (by decide) (by simp) (fun i hi=>zmN (by rcases i with _|_|_|_|i<;>first|omega|rfl)) (fun i hi=>by rcases i with _|_|_|_|i;exact zlg;exact zmA;exact zmA;exact zlg;omega) (fun hl i hi=>by rcases i with _|_|_|_|i;exact zkO _;exact IH.out _ (List.getElem_mem hi);exact IH.out _ (List.getElem_mem hi);exact zkO _;exact absurd hi (by simp only[T.ks_nd] at hl ⊢;omega))).mono ?_;rintro e w2 ⟨rfl,hb2⟩
  have hbc:Below w.heap.size w w2:=(hbb.alloc hbb.size _).trans (hb2.mono (by have:=hbb.size;simp;omega));go_wp2_with fail;go_ret;exact⟨by rw[HX.out];simp[*],hbc⟩
 ·have hnb':zks n s=false:=by simpa using hnb
  clear hnb;go_enter Tryz.func56,Tryz.ntmps56;go_wp2_with fail;refine(zkr _ _ _ _ _ _ _).mono ?_;rintro e w1 ⟨rfl,hb1⟩;have hbb:Below w.heap.size w w1:=((Below.refl _ _).alloc (Nat.le_refl _) _).trans (hb1.mono (by simp));go_wp2_with fail;go_ret;exact⟨by rw[HX.out];simp[*],hbb⟩
theorem zwV (n:Int) (s:ByteArray) (ks:List T) (aG:∀ t∈ks,zlI t):zmk (.nd 54 n s ks):=by
 intro v w hv;have HX:=zh (show isS (.nd 54 n s ks)=(zkG n s&&zkN 3 (pEB 4) ks) by simp[isS,zkN,<-zmK]);have IH:=zh aG;have HV:=zh hv;obtain⟨Ad,c,rfl,hf,hlk,hlc,hrow⟩:=hv.open_;simp only[T.k_nd,T.n_nd,T.s_nd,T.ks_nd] at *
 have ak:=zkx hlk;clear hf hv hlk hrow hlc aG;by_cases hnb:zkG n s=true
 ·go_enter Tryz.func56,Tryz.ntmps56;go_wp2_with fail;refine(zkA _ _ _ _ _ _ _).mono ?_;rintro e w1 ⟨rfl,hb1⟩;obtain⟨hc1,hf1⟩:=zlf hb1;have hbb:Below w.heap.size w w1:=((Below.refl _ _).alloc (Nat.le_refl _) _).trans (hb1.mono (by simp));go_wp2_with fail;refine(zkY (.nd 54 n s ks) _ _ (HV.out.later (hbb.alloc hbb.size _)) _ 3 (fun i=>if i=1 then 91 else 102) (fun i=>if i=1 then Tryz.f91 else Tryz.f102) (pEB 4) (by decide) (by simp) (fun i hi=>zmN (by rcases i with _|_|_|_|i<;>first|omega|rfl)) (fun i hi=>by rcases i with _|_|_|i;exact zlg;exact zmA;exact zlg;omega) (fun hl i hi=>by rcases i with _|_|_|i;exact zkO _;exact IH.out _ (List.getElem_mem hi);exact zkO _;exact absurd hi (by simp only[T.ks_nd] at hl ⊢;omega))).mono ?_;rintro e w2 ⟨rfl,hb2⟩
  have hbc:Below w.heap.size w w2:=(hbb.alloc hbb.size _).trans (hb2.mono (by have:=hbb.size;simp;omega));go_wp2_with fail;go_ret;exact⟨by rw[HX.out];simp[*],hbc⟩
 ·have hnb':zkG n s=false:=by simpa using hnb
  clear hnb;go_enter Tryz.func56,Tryz.ntmps56;go_wp2_with fail;refine(zkA _ _ _ _ _ _ _).mono ?_;rintro e w1 ⟨rfl,hb1⟩;have hbb:Below w.heap.size w w1:=((Below.refl _ _).alloc (Nat.le_refl _) _).trans (hb1.mono (by simp));go_wp2_with fail;go_ret;exact⟨by rw[HX.out];simp[*],hbb⟩
theorem zwU (n:Int) (s:ByteArray) (ks:List T) (aG:∀ t∈ks,zlI t):zmk (.nd 55 n s ks):=by
 intro v w hv;have HX:=zh (show isS (.nd 55 n s ks)=(zkG n s&&zkN 1 (pEB 7) ks) by simp[isS,zkN,<-zmK]);have IH:=zh aG;have HV:=zh hv;obtain⟨Ad,c,rfl,hf,hlk,hlc,hrow⟩:=hv.open_;simp only[T.k_nd,T.n_nd,T.s_nd,T.ks_nd] at *
 have ak:=zkx hlk;clear hf hv hlk hrow hlc aG;by_cases hnb:zkG n s=true
 ·go_enter Tryz.func56,Tryz.ntmps56;go_wp2_with fail;refine(zkA _ _ _ _ _ _ _).mono ?_;rintro e w1 ⟨rfl,hb1⟩;obtain⟨hc1,hf1⟩:=zlf hb1;have hbb:Below w.heap.size w w1:=((Below.refl _ _).alloc (Nat.le_refl _) _).trans (hb1.mono (by simp));go_wp2_with fail;refine(zkY (.nd 55 n s ks) _ _ (HV.out.later (hbb.alloc hbb.size _)) _ 1 (fun _=>91) (fun _=>Tryz.f91) (pEB 7) (by decide) (by simp) (fun i hi=>zmN (by rcases i with _|_|_|_|i<;>first|omega|rfl)) (fun _ _=>zmA) (fun hl i hi=>by rcases i with _|i;exact IH.out _ (List.getElem_mem hi);exact absurd hi (by simp only[T.ks_nd] at hl ⊢;omega))).mono ?_;rintro e w2 ⟨rfl,hb2⟩;have hbc:Below w.heap.size w w2:=(hbb.alloc hbb.size _).trans (hb2.mono (by have:=hbb.size;simp;omega));go_wp2_with fail;go_ret;exact⟨by rw[HX.out];simp[*],hbc⟩
 ·have hnb':zkG n s=false:=by simpa using hnb
  clear hnb;go_enter Tryz.func56,Tryz.ntmps56;go_wp2_with fail;refine(zkA _ _ _ _ _ _ _).mono ?_;rintro e w1 ⟨rfl,hb1⟩;have hbb:Below w.heap.size w w1:=((Below.refl _ _).alloc (Nat.le_refl _) _).trans (hb1.mono (by simp));go_wp2_with fail;go_ret;exact⟨by rw[HX.out];simp[*],hbb⟩
theorem zwZ (n:Int) (s:ByteArray) (ks:List T):zmk (.nd 50 n s ks):=by
 intro v w hv;have HX:=zh (show isS (.nd 50 n s ks)=(zkG n s&&decide (ks.length<=8)&&zkD (fun _=>isV) 0 ks) by simp[isS]);have HV:=zh hv;obtain⟨Ad,c,rfl,hf,hlk,hlc,hrow⟩:=hv.open_;simp only[T.k_nd,T.n_nd,T.s_nd,T.ks_nd] at *
 have ak:=zkx hlk;clear hf hv hlc;by_cases hnb:zkG n s=true
 ·by_cases rT:ks.length<=8
  ·go_enter Tryz.func56,Tryz.ntmps56;go_wp2_with fail;refine(zkA _ _ _ _ _ _ _).mono ?_;rintro e w1 ⟨rfl,hb1⟩;obtain⟨hc1,hf1⟩:=zlf hb1;have hbb:Below w.heap.size w w1:=((Below.refl _ _).alloc (Nat.le_refl _) _).trans (hb1.mono (by simp));go_wp2_with fail;refine(zpI ks _ _ _ (hrow.later hbb) hlk _ _ zv4 isV (fun i hi=>zrI _)).mono ?_;rintro e w2 ⟨rfl,hb2⟩;have hbc:Below w.heap.size w w2:=hbb.trans (hb2.mono hbb.size);go_wp2_with fail;go_ret;exact⟨by rw[HX.out];simp[*],hbc⟩
  ·have hl9:8<ks.length:=by omega
   clear rT;go_enter Tryz.func56,Tryz.ntmps56;go_wp2_with fail;refine(zkA _ _ _ _ _ _ _).mono ?_;rintro e w1 ⟨rfl,hb1⟩;obtain⟨hc1,hf1⟩:=zlf hb1;have hbb:Below w.heap.size w w1:=((Below.refl _ _).alloc (Nat.le_refl _) _).trans (hb1.mono (by simp));go_wp2_with fail;go_ret;exact⟨by rw[HX.out];simp[show ¬ ks.length<=8 by omega],hbb⟩
 ·have hnb':zkG n s=false:=by simpa using hnb
  clear hnb;go_enter Tryz.func56,Tryz.ntmps56;go_wp2_with fail;refine(zkA _ _ _ _ _ _ _).mono ?_;rintro e w1 ⟨rfl,hb1⟩;have hbb:Below w.heap.size w w1:=((Below.refl _ _).alloc (Nat.le_refl _) _).trans (hb1.mono (by simp));go_wp2_with fail;go_ret;exact⟨by rw[HX.out];simp[*],hbb⟩
theorem zwY (n:Int) (s:ByteArray) (ks:List T):zmk (.nd 51 n s ks):=by
 intro v w hv;have HX:=zh (show isS (.nd 51 n s ks)=(zkG n s&&decide (ks.length<=8)&&zkD (fun _=>isV) 0 ks) by simp[isS]);have HV:=zh hv;obtain⟨Ad,c,rfl,hf,hlk,hlc,hrow⟩:=hv.open_;simp only[T.k_nd,T.n_nd,T.s_nd,T.ks_nd] at *
 have ak:=zkx hlk;clear hf hv hlc;by_cases hnb:zkG n s=true
 ·by_cases rT:ks.length<=8
  ·go_enter Tryz.func56,Tryz.ntmps56;go_wp2_with fail;refine(zkA _ _ _ _ _ _ _).mono ?_;rintro e w1 ⟨rfl,hb1⟩;obtain⟨hc1,hf1⟩:=zlf hb1;have hbb:Below w.heap.size w w1:=((Below.refl _ _).alloc (Nat.le_refl _) _).trans (hb1.mono (by simp));go_wp2_with fail;refine(zpI ks _ _ _ (hrow.later hbb) hlk _ _ zv4 isV (fun i hi=>zrI _)).mono ?_;rintro e w2 ⟨rfl,hb2⟩;have hbc:Below w.heap.size w w2:=hbb.trans (hb2.mono hbb.size);go_wp2_with fail;go_ret;exact⟨by rw[HX.out];simp[*],hbc⟩
  ·have hl9:8<ks.length:=by omega
   clear rT;go_enter Tryz.func56,Tryz.ntmps56;go_wp2_with fail;refine(zkA _ _ _ _ _ _ _).mono ?_;rintro e w1 ⟨rfl,hb1⟩;obtain⟨hc1,hf1⟩:=zlf hb1;have hbb:Below w.heap.size w w1:=((Below.refl _ _).alloc (Nat.le_refl _) _).trans (hb1.mono (by simp));go_wp2_with fail;go_ret;exact⟨by rw[HX.out];simp[show ¬ ks.length<=8 by omega],hbb⟩
 ·have hnb':zkG n s=false:=by simpa using hnb
  clear hnb;go_enter Tryz.func56,Tryz.ntmps56;go_wp2_with fail;refine(zkA _ _ _ _ _ _ _).mono ?_;rintro e w1 ⟨rfl,hb1⟩;have hbb:Below w.heap.size w w1:=((Below.refl _ _).alloc (Nat.le_refl _) _).trans (hb1.mono (by simp));go_wp2_with fail;go_ret;exact⟨by rw[HX.out];simp[*],hbb⟩
theorem zuJ (k n:Int) (s:ByteArray) (ks:List T) (n40:(k==40)=false) (n41:(k==41)=false) (n42:(k==42)=false) (n43:(k==43)=false) (n44:(k==44)=false) (n45:(k==45)=false) (n46:(k==46)=false) (n47:(k==47)=false) (n48:(k==48)=false) (n49:(k==49)=false) (n50:(k==50)=false) (n51:(k==51)=false) (n52:(k==52)=false) (n53:(k==53)=false) (n54:(k==54)=false) (n55:(k==55)=false) (n56:(k==56)=false):zmk (.nd k n s ks):=by
 intro v w hv;obtain⟨Ad,c,rfl,hf,hlk,hlc,hrow⟩:=hv.open_;simp only[T.k_nd,T.n_nd,T.s_nd,T.ks_nd] at *
 have ak:=zkx hlk;have HX:=zh (show isS (.nd k n s ks)=false by
  simp only[beq_eq_false_iff_ne,ne_eq] at n40 n41 n42 n43 n44 n45 n46 n47 n48 n49 n50 n51 n52 n53 n54 n55 n56;rw[isS,if_neg (by omega),if_neg (by omega),if_neg (by omega),if_neg (by omega),if_neg (by omega),if_neg (by omega),if_neg (by omega),if_neg (by omega)])
 clear hf hv hlk hrow hlc;go_enter Tryz.func56,Tryz.ntmps56;go_wp2;go_ret;exact⟨by rw[HX.out];rfl,(Below.refl _ _).alloc (Nat.le_refl _) _⟩
theorem zuM (k n:Int) (s:ByteArray) (ks:List T) (ih:∀ t∈ks,zmk t):zlI (.nd k n s ks):=by
 intro v w hv;have HX:=zh (show isB (.nd k n s ks)=((k==57)&&zks n s&&zkD (fun _=>isS) 0 ks) by rw[isB,zqY 0];rfl);have IH:=zh ih;obtain⟨Ad,c,rfl,hf,hlk,hlc,hrow⟩:=hv.open_;simp only[T.k_nd,T.n_nd,T.s_nd,T.ks_nd] at *
 have ak:=zkx hlk;clear hf hv hlc ih;by_cases hk:(k==57)=true
 ·by_cases hnb:zks n s=true
  ·go_enter Tryz.func91,Tryz.ntmps91;go_wp2_with fail;refine(zkr _ _ _ _ _ _ _).mono ?_;rintro e w1 ⟨rfl,hb1⟩;obtain⟨hc1,hf1⟩:=zlf hb1;have hbb:Below w.heap.size w w1:=((Below.refl _ _).alloc (Nat.le_refl _) _).trans (hb1.mono (by simp));go_wp2_with fail;refine(zpI ks _ _ _ (hrow.later hbb) hlk _ _ zx8 isS (fun i hi=>IH.out _ (List.getElem_mem hi))).mono ?_;rintro e w2 ⟨rfl,hb2⟩;have hbc:Below w.heap.size w w2:=hbb.trans (hb2.mono hbb.size);go_wp2_with fail;go_ret;exact⟨by rw[HX.out];simp[*],hbc⟩
  ·have hnb':zks n s=false:=by simpa using hnb
   clear hnb;go_enter Tryz.func91,Tryz.ntmps91;go_wp2_with fail;refine(zkr _ _ _ _ _ _ _).mono ?_;rintro e w1 ⟨rfl,hb1⟩;have hbb:Below w.heap.size w w1:=((Below.refl _ _).alloc (Nat.le_refl _) _).trans (hb1.mono (by simp));go_wp2_with fail;go_ret;exact⟨by rw[HX.out];simp[*],hbb⟩
 ·have hk':(k==57)=false:=by simpa using hk
  clear hk;go_enter Tryz.func91,Tryz.ntmps91;go_wp2_with fail;go_ret;exact⟨by rw[HX.out];simp[*],(Below.refl _ _).alloc (Nat.le_refl _) _⟩
theorem zt3 (t:T):zmk t/\zlI t:=by
 induction t using T.ind with
 | _ k n s ks ih =>
 have ihS:∀ t∈ks,zmk t:=fun t ht=>(ih t ht).1;have aG:∀ t∈ks,zlI t:=fun t ht=>(ih t ht).2;refine⟨?_,zuM k n s ks ihS⟩;by_cases tQ:k=40
 ·subst tQ;exact zw9 n s ks aG
 by_cases tO:k=41
 ·subst tO;exact zw8 n s ks aG
 by_cases h42:k=42
 ·subst h42;exact zw7 n s ks aG
 by_cases h43:k=43
 ·subst h43;exact zw6 n s ks aG
 by_cases lU:k=44
 ·subst lU;exact zw5 n s ks aG
 by_cases h45:k=45
 ·subst h45;exact zw4 n s ks aG
 by_cases h46:k=46
 ·subst h46;exact zw3 n s ks aG
 by_cases h47:k=47
 ·subst h47;exact zw2 n s ks aG
 by_cases h48:k=48
 ·subst h48;exact zw1 n s ks aG
 by_cases qf:k=49
 ·subst qf;exact zw0 n s ks aG
 by_cases h50:k=50
 ·subst h50;exact zwZ n s ks
 by_cases iH:k=51
 ·subst iH;exact zwY n s ks
 by_cases dL:k=52
 ·subst dL;exact zwX n s ks aG
 by_cases eD:k=53
 ·subst eD;exact zwW n s ks aG
 by_cases bu:k=54
 ·subst bu;exact zwV n s ks aG
 by_cases cK:k=55
 ·subst cK;exact zwU n s ks aG
 by_cases gU:k=56
 ·subst gU;exact zwT n s ks aG
 exact zuJ k n s ks (by simpa using tQ) (by simpa using tO) (by simpa using h42) (by simpa using h43) (by simpa using lU) (by simpa using h45) (by simpa using h46) (by simpa using h47) (by simpa using h48) (by simpa using qf) (by simpa using h50) (by simpa using iH) (by simpa using dL) (by simpa using eD) (by simpa using bu) (by simpa using cK) (by simpa using gU)
theorem zle (t:T):zmk t:=(zt3 t).1
theorem znW (t:T):zlI t:=(zt3 t).2
end Go.Proofs.YtckhofdinldhpaaGreat
namespace Go.Proofs.YtckhofdinldhpaaGreat
open Go Go.RowKit
theorem zzc {f:Nat->T->Bool} {ks:List T} (h:zkN 1 f ks=true):∃ p,ks=[p]/\f 0 p=true:=by
 match ks with
 | [p]=>simp[zkN,zkD] at h;exact⟨p,rfl,h⟩
 | []=>simp[zkN] at h
 | a::b::l=>simp[zkN] at h
theorem zzb {f:Nat->T->Bool} {ks:List T} (h:zkN 2 f ks=true):∃ p q,ks=[p,q]/\f 0 p=true/\f 1 q=true:=by
 match ks with
 | [p,q]=>simp[zkN,zkD] at h;exact⟨p,q,rfl,h⟩
 | []=>simp[zkN] at h
 | [a]=>simp[zkN] at h
 | a::b::c::l=>simp[zkN] at h
theorem zpx {k n:Int} {s:ByteArray} {ks:List T} (h:isS (.nd k n s ks)=true) (hb:basB k=true) :
  ((k=40\/k=41\/k=42)/\∃ p q,ks=[p,q]/\isP p=true/\isE q=true)\/(k=43/\∃ p q,ks=[p,q]/\isP p=true/\isP q=true)\/((44<=k/\k<=49)/\∃ p,ks=[p]/\isP p=true):=by
 have hr:=of_decide_eq_true hb;rw[isS] at h;by_cases h1:k=40\/k=41\/k=42\/k=56
 ·rw[if_pos h1,Bool.and_eq_true] at h;obtain⟨p,q,e,a,b⟩:=zzb h.2;exact .inl ⟨by omega,p,q,e,by simpa using a,by simpa using b⟩
 ·rw[if_neg h1] at h;by_cases h2:k=43
  ·rw[if_pos h2,Bool.and_eq_true] at h;obtain⟨p,q,e,a,b⟩:=zzb h.2;exact .inr (.inl ⟨h2,p,q,e,a,b⟩)
  ·rw[if_neg h2] at h;by_cases h3:k=44\/k=45
   ·rw[if_pos h3,Bool.and_eq_true] at h;obtain⟨p,e,a⟩:=zzc h.2;exact .inr (.inr ⟨by omega,p,e,a⟩)
   ·rw[if_neg h3,if_pos (by omega),Bool.and_eq_true] at h;obtain⟨p,e,a⟩:=zzc h.2;exact .inr (.inr ⟨by omega,p,e,a⟩)
def DoP (n0:Nat) (P:Ph) (S:ST) (W:World) (R:Int×ST) (e:Ending) (W':World):Prop:=e=.returned (.int .i64 R.1)/\∃ P',SStp n0 P S W P' R.2 W'/\P'.sb=P.sb
theorem zsQ {W:World} {n0:Nat} {P:Ph} {S:ST} (h:SR W n0 P S) (t:T) (v:Value) (hv:NV W Any t v) (hs:isS t=true) (hb:basB t.k=true) (hf:fltE S.cur.vs t=0) :
  Calls Tryz.prog 60 #[.pointer (some ⟨P.sb,0,none⟩),v] W (DoP n0 P S W (zq6 S t)):=by
 obtain⟨k,n,s,ks⟩:=t;obtain⟨fo,fk⟩:=zpD hf;rcases zpx hs hb with⟨hk,p,q,rfl,hp,hq⟩|⟨rfl,p,q,rfl,hp,hq⟩|⟨hk,p,rfl,hp⟩
 ·obtain⟨id,kp,h1,h2,h3⟩:=zm3 h.wf hp (zma fk p (by simp));have:=zyh h k n s p q v hv hk id h1 kp h2;have e:zq6 S (.nd k n s [p,q])=zlk S k s p q (indE S.look p) (zkH S.look q):=by
   show zlk S k s p q (indE S.look p) (zk6 S k q)=_
   rw[zk6,if_neg (by omega),if_pos hk]
  unfold DoP;rw[e];exact this
 ·obtain⟨id,kp,h1,h2,h3⟩:=zm3 h.wf hp (zma fk p (by simp));obtain⟨jd,kq,h4,h5,h6⟩:=zm3 h.wf hq (zma fk q (by simp));have:=zwb h 43 n s p q v hv rfl id h1 kp h2 jd h4 kq h5;have e:zq6 S (.nd 43 n s [p,q])=zlk S 43 s p q (indE S.look p) (indE S.look q):=by
   show zlk S 43 s p q (indE S.look p) (zk6 S 43 q)=_
   rw[zk6,if_pos rfl]
  unfold DoP;rw[e];exact this
 ·obtain⟨id,kp,h1,h2,h3⟩:=zm3 h.wf hp (zma fk p (by simp));have hst:k=44\/k=45->∃ af,S.num s=some af/\CurK S af 3:=fun h45=>by
   have hn:zoR k=3:=by rcases h45 with rfl|rfl<;>rfl
   obtain⟨u,h4,h5⟩:=zoV fo (by rw[hn];decide);obtain⟨af,h6,h7⟩:=ztv h.wf h4;exact⟨af,h6,by rw[h5,hn] at h7;exact h7⟩
  have:=zyi h k n s p v hv hk id h1 kp h2 h3 hst;have e:zq6 S (.nd k n s [p])=zlk S k s p nil0 (indE S.look p) (0,0):=by
   show zlk S k s p nil0 (indE S.look p) (zk6 S k nil0)=_
   rw[zk6,if_neg (by omega),if_neg (by omega)]
  unfold DoP;rw[e];exact this
theorem zv5:IsFn Tryz.prog 58 Tryz.f58:=⟨Tryz.func58,by kernel_rfl,by kernel_rfl⟩
theorem zyb:IsFn Tryz.prog 59 Tryz.f59:=⟨Tryz.func59,by kernel_rfl,by kernel_rfl⟩
theorem zzp {W:World} {n0:Nat} {P:Ph} {S:ST} (h:SR W n0 P S) (t:T) (v:Value) (hv:NV W Any t v) :
  Calls Tryz.prog 20 #[.pointer (some ⟨P.sb,0,none⟩),v] W (DoP n0 P S W (doE S t)):=by
 obtain⟨R,hR⟩:∃ R,doE S t=R:=⟨_,rfl⟩
 rw[hR];have HRR:=zh hR;have HS:=zh h;have HV:=zh hv;obtain⟨A,c,rfl,-,-,-,-⟩:=hv.open_;obtain⟨b,hb⟩:∃ b,isS t=b:=⟨_,rfl⟩
 have HIS:=zh (show ∀ (v:Value) (w:World),NV w Any t v->Calls Tryz.prog 56 #[v] w fun e w'=>e=.returned (.bool b)/\Below w.heap.size w w' from fun v w h=>hb▸zle t v w h);have xW:=zh hb;have oJ:=zh (show ∀ (v:Value) (W':World),NV W' Any t v->Below W.heap.size W W'->isS t=true->basB t.k=true->fltE S.cur.vs t=0->doE S t=zq6 S t->Calls Tryz.prog 60 #[.pointer (some ⟨P.sb,0,none⟩),v] W' (DoP n0 P S W R) from fun v W' hv' hbl h1 h2 h3 h4=>by
  refine(zsQ (h.later hbl) t v hv' h1 h2 h3).mono ?_;rintro e W2 ⟨a1,P',a2,a3⟩;rw[<-h4,hR] at a1 a2;exact⟨a1,P',⟨a2.st.after hbl h.rws,a2.wf⟩,a3⟩)
 obtain⟨kd,hw⟩:=h.curWF;obtain⟨A0,c0,hcv,hc,hrow⟩:=h.curVs;obtain⟨h3,h4,h5⟩:=h.cur3;rw[hcv] at h3;have bV:=zh (fun W' (hb:Below W.heap.size W W')=>zlw (h.later hb));have xP:=zh (fun(v:Value) W' (hb:Below W.heap.size W W') (hv':NV W' Any t v)=>zuB S.cur.vs A0 c0 (curP P S) hw.lim t v W' hv' (zb hb h3) (hrow.later hb));obtain⟨cp,hcp⟩:∃ cp,curP P S=cp:=⟨_,rfl⟩
 rw[hcp] at bV xP;obtain⟨fe,hfe⟩:∃ fe,fltE S.cur.vs t=fe:=⟨_,rfl⟩
 rw[hfe] at xP oJ;have oK:=zh (fun w=>zwC t.k w);obtain⟨bb,hbb⟩:∃ b,basB t.k=b:=⟨_,rfl⟩
 rw[hbb] at oK oJ;have HD:=zh (show R=if b=false then (3,S) else if t.k=56 then (9,S) else if bb=false then (7,S) else if fe≠0 then (fe,S) else zq6 S t by rw[<-hR,doE,hb,hbb,hfe]);have HDE:=zh (show doE S t=R from hR);obtain⟨k,hk⟩:∃ k,t.k=k:=⟨_,rfl⟩
 obtain⟨n,hn⟩:∃ n,t.n=n:=⟨_,rfl⟩
 obtain⟨s,hs⟩:∃ s,t.s=s:=⟨_,rfl⟩
 obtain⟨m,hm⟩:∃ m,t.ks.length=m:=⟨_,rfl⟩
 rw[hk,hn,hs,hm] at HV ⊢;rw[hk] at oK HD;clear h hv hR hb hw hcv hc hrow h3 h4 h5 hcp hfe hbb hk hn hs hm;have hbx:=box4 (heap_alloc_new W (.cells #[.int .u8 k,.int .i64 n,.string s,.slice A m c] 29));have ax:=zh (heap_alloc_new W (.cells #[.int .u8 k,.int .i64 n,.string s,.slice A m c] 29));obtain⟨W0,hW0⟩:∃ W0,W.alloc (.cells #[.int .u8 k,.int .i64 n,.string s,.slice A m c] 29)=W0:=⟨_,rfl⟩
 have q0:Below W.heap.size W W0:=hW0▸zkb (Below.refl _ _) _;rw[hW0] at hbx ax;have gD:=zh q0;obtain⟨x0,x1,x2,x3⟩:=hbx;clear q0;go_enter Tryz.func20,Tryz.ntmps20;go_wp2_with fail;refine(HIS.out _ _ (HV.out.later gD.out)).mono ?_;rintro e w1 ⟨rfl,aa⟩;have HB1:=zh (zka gD.out aa);have aD:=zh (zkd ax.out aa);obtain⟨y0,y1,y2,y3⟩:=box4 aD.out;clear aa x0 x1 x2 x3
 cases b
 ·have HN:=zh (show R=(3,S) by rw[HD.out,if_pos rfl]);go_wp2_with fail;go_ret;exact⟨by rw[HN.out];rfl,P,by rw[HN.out];exact SStp.refl HS.out HB1.out,rfl⟩
 ·by_cases gU:k=56
  ·have HN:=zh (show R=(9,S) by rw[HD.out,if_neg (by decide),if_pos gU]);subst gU;go_wp2_with fail;go_ret;exact⟨by rw[HN.out];rfl,P,by rw[HN.out];exact SStp.refl HS.out HB1.out,rfl⟩
  ·have k56:(k==56)=false:=by simpa using gU
   go_wp2_with fail;refine(oK.out _).mono ?_;rintro e w2 ⟨rfl,rfl⟩
   cases bb
   ·have HN:=zh (show R=(7,S) by rw[HD.out,if_neg (by decide),if_neg gU,if_pos rfl]);go_wp2_with fail;go_ret;exact⟨by rw[HN.out];rfl,P,by rw[HN.out];exact SStp.refl HS.out HB1.out,rfl⟩
   ·have HD2:=zh (show R=if fe≠0 then (fe,S) else zq6 S t by rw[HD.out,if_neg (by decide),if_neg gU,if_neg (by decide)]);clear HD oK;go_upto_region 9 with fail;have hSS:(fun w':World=>w'.cell? ⟨W.heap.size,0,none⟩=some (.int .u8 k)/\w'.cell? ⟨W.heap.size,1,none⟩=some (.int .i64 n)/\w'.cell? ⟨W.heap.size,2,none⟩=some (.string s)/\w'.cell? ⟨W.heap.size,3,none⟩=some (.slice A m c)) w2.drew/\(fun _:World=>True) w2.drew:=⟨⟨y0,y1,y2,y3⟩,trivial⟩
    refine wp_region_noPanic ?_;refine zkc (fun w':World=>w'.cell? ⟨W.heap.size,0,none⟩=some (.int .u8 k)/\w'.cell? ⟨W.heap.size,1,none⟩=some (.int .i64 n)/\w'.cell? ⟨W.heap.size,2,none⟩=some (.string s)/\w'.cell? ⟨W.heap.size,3,none⟩=some (.slice A m c)) (fun _:World=>True) 3 (by kernel_rfl) ?_;refine zT 0 hSS ?_;(try simp only[zQ]);refine zT 2 hSS ?_;(try simp only[zQ]);have had:Calls Tryz.prog 58 [.pointer (some ⟨P.sb,0,none⟩)].toArray w2.drew fun e W'=>∃ u,e=.returned u/\u=.pointer (some cp)/\W'=w2.drew :=
     (bV.out _ HB1.out.drew).mono fun e W' hh=>⟨_,hh.1,rfl,hh.2⟩
    refine zo 1 fun K hK=>?_;refine zkh (by rfl) (.func 58) [.tmp 22] _ (by rfl) 58 _ zv5 (by rfl) _ (by rfl) _ had ?_;rintro v4 w4 ⟨rfl,rfl⟩;refine hK.out _ _ hSS ?_;clear hK K had;(try simp only[zQ]);have had:Calls Tryz.prog 59 [.pointer (some cp),nv k n s A m c].toArray w2.drew fun e W'=>∃ u,e=.returned u/\u=.int .i64 fe/\Below w2.drew.heap.size w2.drew W' :=
     (xP.out _ _ HB1.out.drew ((HV.out.later HB1.out).later (Below.refl _ _).drew)).mono fun e W' hh=>⟨_,hh.1,rfl,hh.2⟩
    refine zp 3 fun K hK=>?_;refine zkh (by rfl) (.func 59) [.tmp 23,.tmp 24] _ (by rfl) 59 _ zyb (by rfl) _ (by rfl) _ had ?_;rintro v5 w5 ⟨rfl,hb5⟩;have bB:=zh (zka HB1.out.drew hb5);have eP:=zh (zkd (show w2.drew.heap[W.heap.size]?=_ from aD.out) hb5);obtain⟨u0,u1,u2,u3⟩:=box4 eP.out;refine hK.out _ _ ⟨u0,u1,u2,u3⟩ ?_;clear hK K had hb5 hSS y0 y1 y2 y3;(try simp only[zQ]);refine zp 4 fun K hK=>?_;(try simp only[zA,zB,zC]);go_simp;refine hK.out _ _ ⟨u0,u1,u2,u3⟩ ?_;clear hK K;(try simp only[zQ]);refine zd ?_;refine NoPanic.normal ?_;by_cases hfe:fe=0
    ·subst hfe;have jR:=zh (oJ.out (nv k n s A m c) w5 (HV.out.later bB.out) bB.out xW.out (by first|rfl|trivial) (by first|rfl|trivial) (by rw[HDE.out,HD2.out];simp));clear HD2 oJ;go_wp2_with fail;refine jR.out.mono ?_;rintro e w6 ⟨rfl,hh⟩;have HH:=zh hh;clear hh;go_wp2_with fail;go_ret;exact⟨rfl,HH.out⟩
    ·have HN:=zh (show R=(fe,S) by rw[HD2.out,if_pos hfe]);have e1:(fe==0)=false:=by simpa using hfe
     have e2:(fe != 0)=true:=by simpa using hfe
     clear HD2;go_wp2_with fail;go_ret;exact⟨by rw[HN.out];rfl,P,by rw[HN.out];exact SStp.refl HS.out bB.out,rfl⟩
theorem zyL {W:World} {n0:Nat} {P:Ph} {S:ST} (h:SR W n0 P S) (t:T) (v:Value) (hv:NV W Any t v) :
  Calls Tryz.prog 19 #[.pointer (some ⟨P.sb,0,none⟩),v] W (DoP n0 P S W (zlp S t)):=by
 obtain⟨k,n,s,ks⟩:=t;obtain⟨A,c,rfl,hf,hlk,hlc,hrow⟩:=hv.open_;simp only[T.k_nd,T.n_nd,T.s_nd,T.ks_nd] at *
 obtain⟨k',hk'⟩:∃ k',zkL k=k':=⟨_,rfl⟩
 have hf':Fld k' n s:=by
  refine⟨?_,hf.2⟩;rw[<-hk'];unfold zkL;have:=hf.1
  split
  ·omega
  ·split
   ·omega
   ·split
    ·omega
    ·split
     ·omega
     ·split
      ·omega
      ·split
       ·omega
       ·split
        ·omega
        ·split
         ·omega
         ·exact this
 obtain⟨R,hR⟩:∃ R,zlp S (.nd k n s ks)=R:=⟨_,rfl⟩
 rw[hR];have HDO:=zh (show ∀ W',Below W.heap.size W W'->Calls Tryz.prog 20 #[.pointer (some ⟨P.sb,0,none⟩),nv k' n s A ks.length c] W' (DoP n0 P S W R) from fun W' hb=>by
  have e:doE S (.nd k' n s ks)=R:=by rw[<-hR,<-hk'];rfl
  have:=zzp (h.later hb) (.nd k' n s ks) (nv k' n s A ks.length c) (NV.shut hf' hlk hlc (hrow.later hb));rw[e] at this;refine this.mono ?_;rintro e W2 ⟨a1,P',a2,a3⟩;exact⟨a1,P',⟨a2.st.after hb h.rws,a2.wf⟩,a3⟩)
 have nJ:=zh (fun w=>hk'▸zsK k w);obtain⟨m,hm⟩:∃ m,ks.length=m:=⟨_,rfl⟩
 rw[hm] at HDO ⊢;clear h hv hR hf hf' hrow hlk hlc hm hk';go_enter Tryz.func19,Tryz.ntmps19;go_wp2_with fail;refine(nJ.out _).mono ?_;rintro e w1 ⟨rfl,rfl⟩;go_wp2_with fail;refine(HDO.out _ (zkb (Below.refl _ _) _)).mono ?_;rintro e w6 ⟨rfl,hh⟩;have HH:=zh hh;clear hh;go_wp2_with fail;go_ret;exact⟨rfl,HH.out⟩
def FrK (S S':ST):Prop:=S'.base=S.base/\S'.calls=S.calls/\S'.nc=S.nc
theorem zty (S:ST) (k:Int) (id i af:Nat):FrK S (zlH S k id i af).2:=by
 unfold zlH
 repeat' split
 all_goals exact⟨rfl,rfl,rfl⟩
theorem zuY (S:ST) (k:Int) (id i:Nat):FrK S (zkt S k id i).2:=by
 unfold zkt
 repeat' split
 all_goals exact⟨rfl,rfl,rfl⟩
theorem zyj (S:ST) (k:Int) (s qs:ByteArray) (r2:Int) (id i:Nat):FrK S (zkC S k s qs r2 id i).2:=by
 unfold zkC
 repeat' split
 all_goals first|exact zty _ _ _ _ _|exact zuY _ _ _ _|exact⟨rfl,rfl,rfl⟩
theorem zyk (S:ST) (k:Int) (s ps qs:ByteArray) (r1:Int) (r2:Int×Int):FrK S (zmO S k s ps qs r1 r2).2:=by
 unfold zmO
 repeat' split
 all_goals first|exact zyj _ _ _ _ _ _ _|exact⟨rfl,rfl,rfl⟩
theorem zyl (S:ST) (k:Int) (s:ByteArray) (p q:T) (r1 r2:Int×Int):FrK S (zlk S k s p q r1 r2).2:=by
 unfold zlk;by_cases h:r1.2≠0
 ·rw[if_pos h];exact⟨rfl,rfl,rfl⟩
 ·rw[if_neg h];exact zyk _ _ _ _ _ _ _
theorem zwo (S:ST) (t:T):FrK S (doE S t).2:=by
 unfold doE
 repeat' split
 all_goals first|exact⟨rfl,rfl,rfl⟩|skip
 obtain⟨k,n,s,ks⟩:=t;exact zyl _ _ _ _ _ _ _
theorem zxm (S:ST) (t:T):FrK S (zlp S t).2:=by
 obtain⟨k,n,s,ks⟩:=t;exact zwo _ _
theorem ztP {f:FR}:∀ (l:List (VD×ByteArray)) (acc g:FR),entL f acc l=.ok g->g.vs.length=acc.vs.length+l.length
 | [],acc,g,h=>by rw[entL] at h;injection h with h;subst h;simp
 | (v,a)::r,acc,g,h=>by
  rw[entL] at h
  split at h
  ·cases h
  ·split at h
   ·have:=ztP r _ _ h;simp at this ⊢;omega
   ·cases h
theorem zLE {w:World} {b:Nat} {E:TypeId} {u0 u1 u2:Value} (h:w.heap[b]?=some (.cells #[u0,u1,u2] E (0,0))):w.cell? ⟨b,0,none⟩=some u0/\w.cell? ⟨b,1,none⟩=some u1/\w.cell? ⟨b,2,none⟩=some u2 :=
 ⟨zc h rfl,zc h rfl,zc h rfl⟩
theorem zKK {W:World} {n0:Nat} {E:TypeId} {v:Value} {l:List Int} (h:W.ownsRow n0 E 1 v l.length (zkj l)) (hf:∀ x∈l,I64 x):∃ A c,v=.slice A l.length c/\l.length<=c/\RowI W (fun b=>n0<=b) A l:=by
 obtain⟨A,c,e,hc,hr⟩:=zly (xs:=l) h hf;exact⟨A,c,e,hc,hr.keep (fun b hb _=>(h.lt b hb).1) (fun _ _ _=>rfl)⟩
theorem SR.n0le {W:World} {n0:Nat} {P:Ph} {S:ST} (h:SR W n0 P S):n0<=W.heap.size:=by have:=h.rws.lt .sb _ rfl;omega
theorem SR.own_lt {W:World} {n0:Nat} {P:Ph} {S:ST} (h:SR W n0 P S) {b:Nat} (hb:OwnB (rows P S) b):n0<=b/\b<W.heap.size:=by
 obtain⟨q,hq⟩:=hb;exact h.rws.lt q b hq
theorem SStp.frame {w W W':World} {n0:Nat} {P P':Ph} {S S':ST} (hst:SStp n0 P S W P' S' W') (hs:SR W n0 P S) (hb:Below w.heap.size w W) (hn:w.heap.size<=n0):Below w.heap.size w W' :=
 hb.trans (hst.st.chg.below (Nat.le_trans hn hs.n0le) fun _ ho=>Nat.le_trans hn (hs.own_lt ho).1)
theorem SStp.no {W W':World} {n0:Nat} {P P':Ph} {S S':ST} {b:Nat} (hst:SStp n0 P S W P' S' W') (hlt:b<W.heap.size) (hno:¬ OwnB (rows P S) b):¬ OwnB (rows P' S') b:=fun ho=>by
 rcases hst.st.own _ ho with h|h
 ·exact hno h
 ·omega
theorem zlK {P:Program} {ops:Array Oper} {o:Oper} {a:Act} {w:World} {K:Act->World->Prop} {Q:Exit->Act->World->Prop} {F:Prop} (hw:Region.wanted o (yielded ops a.tmps)=true) (x:Operand) (xs:List Operand) (ats:Array TypeId)
  (ho:o.op=.call { callee:=.value x,args:=xs.toArray,argTypes:=ats }) (f:FuncId) (fn:Func) (hf:IsFn P f fn) (hv:a.eval x=.func (.func f) #[] #[]) (l:List Value) (hargs:xs.map a.eval=l) (R:Value->World->Prop)
  (hc:Calls P f l.toArray w fun e w'=>∃ v,e=.returned v/\R v w') (h:∀ v w',R v w'->K (a.put o.dst v) w') :
  if Region.wanted o (yielded ops a.tmps)=true then Oper.wp P o a w K Q else F:=by
 rw[if_pos hw];subst hargs;have e:(execOp a.eval o).run P w=.ok (.enter f (xs.map a.eval).toArray) w:=by
  unfold execOp;simp only[ho,resolve,hv,Deferred.ofValue,Sem.run_bind,Sem.run_pure,Result.andThen_ok,invoke,zkP hf,Array.empty_append,List.map_toArray,Array.append_empty]
 unfold Oper.wp;rw[e,Oper.upon_enter];refine hc.mono ?_;rintro e w' ⟨v,rfl,hR⟩;exact h v w' hR
structure KS (w:World) (n0 sb:Nat) (kb:Nat->Prop) (W:World) (S:ST):Prop where
 bl:Below w.heap.size w W
 hn:w.heap.size<=n0
 sr:∃ P,SR W n0 P S/\P.sb=sb/\∀ b,kb b->b<W.heap.size/\¬ OwnB (rows P S) b
structure Kpt (n0:Nat) (kb:Nat->Prop) (W W':World):Prop where
 size:W.heap.size<=W'.heap.size
 kept:∀ b,b<W.heap.size->(b<n0\/kb b)->W'.heap[b]?=W.heap[b]?
section
variable {w W W' W'':World} {n0 sb:Nat} {kb kb':Nat->Prop} {S S':ST}
theorem Kpt.refl (n0:Nat) (kb:Nat->Prop) (W:World):Kpt n0 kb W W:=⟨Nat.le_refl _,fun _ _ _=>rfl⟩
theorem Kpt.trans (h:Kpt n0 kb W W') (h':Kpt n0 kb W' W''):Kpt n0 kb W W'':=⟨Nat.le_trans h.size h'.size,fun b hb hk=>(h'.kept b (Nat.lt_of_lt_of_le hb h.size) hk).trans (h.kept b hb hk)⟩
theorem Kpt.of_below (h:Below W.heap.size W W'):Kpt n0 kb W W':=⟨h.size,fun b hb _=>h.block b hb⟩
theorem Kpt.cell {b o:Nat} {u:Value} (h:Kpt n0 kb W W') (hk:b<n0\/kb b) (hc:W.cell? ⟨b,o,none⟩=some u):W'.cell? ⟨b,o,none⟩=some u :=
 zlP hc (h.kept b (World.block_lt_of_cell? W _ hc) hk)
theorem Kpt.blk {b:Nat} {o:Obj} (h:Kpt n0 kb W W') (hk:b<n0\/kb b) (hc:W.heap[b]?=some o):W'.heap[b]?=some o:=(h.kept b (zki hc) hk).trans hc
theorem KS.wf (h:KS w n0 sb kb W S):S.WF:=by obtain⟨P,hs,_⟩:=h.sr;exact hs.wf
theorem KS.later (h:KS w n0 sb kb W S) (hb:Below W.heap.size W W'):KS w n0 sb kb W' S:=by
 obtain⟨P,hs,e,hk⟩:=h.sr;exact⟨zka h.bl hb,h.hn,P,hs.later hb,e,fun b hb'=>⟨Nat.lt_of_lt_of_le (hk b hb').1 hb.size,(hk b hb').2⟩⟩
theorem KS.also (h:KS w n0 sb kb W S) (hb:Below W.heap.size W W') (hkb:∀ b,kb' b->kb b\/(W.heap.size<=b/\b<W'.heap.size)):KS w n0 sb kb' W' S:=by
 obtain⟨P,hs,e,hk⟩:=h.sr;refine⟨zka h.bl hb,h.hn,P,hs.later hb,e,fun b hb'=>?_⟩;rcases hkb b hb' with h1|⟨h1,h2⟩
 ·exact⟨Nat.lt_of_lt_of_le (hk b h1).1 hb.size,(hk b h1).2⟩
 ·exact⟨h2,fun ho=>by have:=(hs.own_lt ho).2;omega⟩
theorem KS.less (h:KS w n0 sb kb W S) (hkb:∀ b,kb' b->kb b):KS w n0 sb kb' W S:=h.also (Below.refl _ _) fun b hb=>.inl (hkb b hb)
theorem KS.new {P:Ph} {vs:List VD} {s:SS} {W0:World} (h0:Below w.heap.size w W0) (hb:Below W0.heap.size W0 W) (hs:SR W W0.heap.size P (newS vs s)):KS w W0.heap.size P.sb (fun _=>False) W (newS vs s) :=
 ⟨zka h0 hb,h0.size,P,hs,rfl,fun _ h=>h.elim⟩
def KP (w:World) (n0 sb:Nat) (kb:Nat->Prop) (W:World) (R:Int×ST) (e:Ending) (W':World):Prop:=e=.returned (.int .i64 R.1)/\KS w n0 sb kb W' R.2/\Kpt n0 kb W W'
theorem KS.stp {P P':Ph} (hbl:Below w.heap.size w W) (hn0:w.heap.size<=n0) (hs:SR W n0 P S) (hk:∀ b,kb b->b<W.heap.size/\¬ OwnB (rows P S) b) (hst:SStp n0 P S W P' S' W') (hsb:P'.sb=sb):KS w n0 sb kb W' S'/\Kpt n0 kb W W':=by
 refine⟨⟨hst.frame hs hbl hn0,hn0,P',hst.sr,hsb,fun b hb=>⟨Nat.lt_of_lt_of_le (hk b hb).1 hst.st.chg.size,hst.no (hk b hb).1 (hk b hb).2⟩⟩,hst.st.chg.size,fun b hlt hb=>hst.st.chg.block b hlt fun ho=>?_⟩;rcases hb with hb|hb
 ·have:=(hs.own_lt ho).1;omega
 ·exact(hk b hb).2 ho
theorem KS.dop (h:KS w n0 sb kb W S) {f:FuncId} {args:Array Value} {R:Int×ST} (hc:∀ P,SR W n0 P S->P.sb=sb->Calls Tryz.prog f args W (DoP n0 P S W R)):Calls Tryz.prog f args W (KP w n0 sb kb W R):=by
 obtain⟨P,hs,e,hk⟩:=h.sr;refine(hc P hs e).mono ?_;rintro e' W2 ⟨a1,P',a2,a3⟩;exact⟨a1,KS.stp h.bl h.hn hs hk a2 (a3.trans e)⟩
theorem KS.do_ (h:KS w n0 sb kb W S) (t:T) (v:Value) (hv:NV W Any t v):Calls Tryz.prog 20 #[.pointer (some ⟨sb,0,none⟩),v] W (KP w n0 sb kb W (doE S t)) :=
 h.dop fun _ hs e=>e▸zzp hs t v hv
theorem KS.undo (h:KS w n0 sb kb W S) (t:T) (v:Value) (hv:NV W Any t v):Calls Tryz.prog 19 #[.pointer (some ⟨sb,0,none⟩),v] W (KP w n0 sb kb W (zlp S t)) :=
 h.dop fun _ hs e=>e▸zyL hs t v hv
theorem KS.open_ (h:KS w n0 sb kb W S) (v:VD) (ky:FldV v) (x:Int) (hx:I64 x) (hlim:S.cur.vs.length+1<=4398046511000):Calls Tryz.prog 185 #[.pointer (some ⟨sb,0,none⟩),.agg #[.string v.s,.int .u8 v.k,.int .i64 v.n],.int .i64 x] W (KP w n0 sb kb W (zkv S v x)) :=
 h.dop fun _ hs e=>e▸zyS hs v ky x hx hlim
theorem KS.close (h:KS w n0 sb kb W S) (s:ByteArray) (x:Int):Calls Tryz.prog 186 #[.pointer (some ⟨sb,0,none⟩),.string s,.int .i64 x] W (KP w n0 sb kb W (zku S s x)) :=
 h.dop fun _ hs e=>e▸zxd hs s x
theorem KS.enter (h:KS w n0 sb kb W S) (ps:List VD) (ss:List ByteArray) (A D:Option Addr) (c d:Nat) (hp:RowV W Any A ps) (hs:RowS W D ss) (hlp:ps.length<=4398046511000) (hls:ss.length<=17592186044416):Calls Tryz.prog 187 #[.pointer (some ⟨sb,0,none⟩),.slice A ps.length c,.slice D ss.length d] W (KP w n0 sb kb W (zkT S ps ss)) :=
 h.dop fun _ hs' e=>e▸zxb hs' ps ss A D c d hp hs hlp hls
theorem KS.leave (h:KS w n0 sb kb W S):Calls Tryz.prog 188 #[.pointer (some ⟨sb,0,none⟩)] W (KP w n0 sb kb W (zla S)) :=
 h.dop fun _ hs e=>e▸zwR hs
theorem KS.cell (h:KS w n0 sb kb W S) (s:ByteArray):Calls Tryz.prog 184 #[.pointer (some ⟨sb,0,none⟩),.string s] W (zLm W S s):=by
 obtain⟨P,hs,rfl,-⟩:=h.sr;exact zwN hs s
theorem KS.state (h:KS w n0 sb kb W S):Calls Tryz.prog 22 #[.pointer (some ⟨sb,0,none⟩)] W fun e W'=>∃ v,e=.returned v/\OwnS W' W.heap.size S.state v/\Below W.heap.size W W':=by
 obtain⟨P,hs,rfl,-⟩:=h.sr;exact zwM hs
end
theorem KS.chg {w W W':World} {n0 sb:Nat} {kb C:Nat->Prop} {S:ST} (h:KS w n0 sb kb W S) (hc:Chg C W W') (hC:∀ b,b<W.heap.size->C b->w.heap.size<=b/\(b<n0\/kb b)):KS w n0 sb kb W' S:=by
 obtain⟨P,hs,e,hk⟩:=h.sr;have hno:∀ b,OwnB (rows P S) b->¬ C b:=fun b ho hcb=>by
  obtain⟨-,h2⟩:=hC b (hs.own_lt ho).2 hcb;rcases h2 with h2|h2
  ·have:=(hs.own_lt ho).1;omega
  ·exact(hk b h2).2 ho
 refine⟨?_,h.hn,P,⟨hs.rws.chg hc fun i b hb=>hno b ⟨i,hb⟩,hs.wf⟩,e,fun b hb=>⟨Nat.lt_of_lt_of_le (hk b hb).1 hc.size,(hk b hb).2⟩⟩;exact⟨hc.os.trans h.bl.os,hc.tape.trans h.bl.tape,hc.output.trans h.bl.output,Nat.le_trans h.bl.size hc.size,fun b hb=>by
  rw[hc.block b (Nat.lt_of_lt_of_le hb h.bl.size) fun hcb=>by have:=(hC b (Nat.lt_of_lt_of_le hb h.bl.size) hcb).1;omega];exact h.bl.block b hb⟩
theorem SS.Sm.lim {s:SS} (h:s.Sm):s.Lim:=by
 obtain⟨h1,h2,h3,h4⟩:=h;unfold SS.Lim LI;exact⟨by omega,fun l hl=>by have:=h2 l hl;omega,by omega,by omega⟩
end Go.Proofs.YtckhofdinldhpaaGreat
