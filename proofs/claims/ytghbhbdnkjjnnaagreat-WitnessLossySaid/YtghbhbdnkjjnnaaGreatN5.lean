/-
  Texts of the proof, put together without their remarks: Si, Sj, Ast3, Sk, Kg.
-/
import Derived.Test.YtghbhbdnkjjnnaaGreatN4
set_option linter.unusedSimpArgs false
set_option linter.unusedVariables false
set_option maxHeartbeats 8000000
set_option maxRecDepth 100000
namespace Go.Proofs.YtghbhbdnkjjnnaaGreat
open Go Go.RowKit
def ST.setL (S:ST) (id:Nat) (l:List Int):ST:={ S with cell:=fun j=>if j=id then l else S.cell j }
def ST.el (S:ST) (id i:Nat):Int:=(S.cell id).getD i 0
def ST.put (S:ST) (id i:Nat) (x:Int):ST:=S.setL id ((S.cell id).set i x)
def updE (k x y:Int):Int:=if k=40 then wrap64 (x+y) else if k=41 then wrap64 (x-y) else bits BinOp.xor IntKind.i64 x y
def znk (S:ST) (k:Int) (id i ah:Nat):Int×ST :=
 if k=44 then (if 1000<=(S.cell ah).length then (5,S) else (0,(S.setL ah (S.cell ah++[S.el id i])).put id i 0))
 else if (S.cell ah).length=0 then (13,S)
 else if S.el id i≠0 then (14,S)
 else (0,(S.put id i (S.el ah ((S.cell ah).length-1))).setL ah ((S.cell ah).take ((S.cell ah).length-1)))
def zlq (S:ST) (k:Int) (id i:Nat):Int×ST :=
 if k=46 then match S.tin with
  | []=>(17,S)
  | y::r=>if S.el id i≠0 then (14,S) else (0,({ S with tin:=r }:ST).put id i y)
 else if k=49 then (if S.tout=[] then (17,S) else if S.el id i≠0 then (14,S) else (0,({ S with tout:=S.tout.dropLast }:ST).put id i (S.tout.getLast?.getD 0)))
 else if k=47 then (if 4096<=S.tin.length then (5,S) else (0,({ S with tin:=S.el id i::S.tin }:ST).put id i 0))
 else (if 4096<=S.tout.length then (5,S) else (0,({ S with tout:=S.tout++[S.el id i] }:ST).put id i 0))
def CurK (S:ST) (id:Nat) (k:Int):Prop:=∃ (i:Nat) (v:VD),S.cur.vs[i]?=some v/\S.cur.cs[i]?=some id/\v.k=k
theorem CurK.kd {S:ST} {id:Nat} {k:Int} (h:CurK S id k) {kd:Nat->Int×Int} (hw:S.cur.WF kd S.nc):(kd id).1=k/\id<S.nc:=by
 obtain⟨i,v,h1,h2,h3⟩:=h;obtain⟨a1,a2⟩:=List.getElem?_eq_some_iff.1 h1;obtain⟨b1,b2⟩:=List.getElem?_eq_some_iff.1 h2;have:=hw.kind i a1 b1;rw[b2,a2] at this;exact⟨by rw[this];exact h3,b2▸hw.num _ (List.getElem_mem b1)⟩
theorem CurK.lt {S:ST} {id:Nat} {k:Int} (h:CurK S id k) (hw:S.WF):id<S.nc:=by
 obtain⟨kd,h1⟩:=hw.cur;exact(h.kd h1).2
theorem CurK.ne {S:ST} {id id':Nat} {k k':Int} (h:CurK S id k) (h':CurK S id' k') (hw:S.WF) (hk:k≠k'):id≠id':=fun e=>by
 obtain⟨kd,h1⟩:=hw.cur;subst e;exact hk ((h.kd h1).1.symm.trans (h'.kd h1).1)
theorem zwp {S:ST} (h:S.WF) (id:Nat) (l:List Int) (hl:l.length=(S.cell id).length) (hx:∀ x∈l,I64 x):(S.setL id l).WF:=by
 obtain⟨kd,h1,h2,h3⟩:=h.ex;refine⟨⟨kd,h1,h2,fun i hi=>?_⟩,h.ncalls,fun i hi=>?_,h.tin,h.tout⟩
 ·have:=h3 i hi;simp only[ST.setL];by_cases e:i=id
  ·subst e;rw[if_pos rfl,hl];exact this
  ·rw[if_neg e];exact this
 ·have:=h.cells i hi;simp only[ST.setL];by_cases e:i=id
  ·subst e;rw[if_pos rfl,hl];exact⟨this.1,hx⟩
  ·rw[if_neg e];exact this
theorem zw6 {S:ST} (h:S.WF) (id:Nat) (hk:CurK S id 3) (l:List Int) (hl:l.length<=1000) (hx:∀ x∈l,I64 x):(S.setL id l).WF:=by
 obtain⟨kd,h1,h2,h3⟩:=h.ex;have hc:S.cur.WF kd S.nc:=by
  rcases Nat.eq_zero_or_pos S.calls.length with h0|h0
  ·rw[zmX h0];exact h1
  ·rw[zmW h0];exact h2 _ (List.getElem_mem _)
 have hk3:=(hk.kd hc).1;refine⟨⟨kd,h1,h2,fun i hi=>?_⟩,h.ncalls,fun i hi=>?_,h.tin,h.tout⟩
 ·have:=h3 i hi;simp only[ST.setL];by_cases e:i=id
  ·subst e;rw[if_pos rfl];exact⟨fun e=>by omega,fun e=>by omega,.inr (.inr hk3)⟩
  ·rw[if_neg e];exact this
 ·have:=h.cells i hi;simp only[ST.setL];by_cases e:i=id
  ·subst e;rw[if_pos rfl];exact⟨hl,hx⟩
  ·rw[if_neg e];exact this
theorem zpu {S:ST} (h:S.WF) {id:Nat} (hid:id<S.nc) (i:Nat):I64 (S.el id i):=by
 unfold ST.el;rcases Nat.lt_or_ge i (S.cell id).length with hi|hi
 ·rw[List.getD_eq_getElem?_getD,List.getElem?_eq_getElem hi];exact(h.cells id hid).2 _ (List.getElem_mem hi)
 ·rw[List.getD_eq_getElem?_getD,List.getElem?_eq_none hi];exact⟨by decide,by decide⟩
theorem zw7 {S:ST} (h:S.WF) {id:Nat} (hid:id<S.nc) (i:Nat) (x:Int) (hx:I64 x):(S.put id i x).WF :=
 zwp h id _ (by simp) fun y hy=>by
  rcases List.mem_or_eq_of_mem_set hy with hy|rfl
  ·exact(h.cells id hid).2 y hy
  ·exact hx
def Ph.gI (P:Ph) (id:Nat):Nat:=(P.ci id).ownBlock.getD 0
def Ph.setI (P:Ph) (id:Nat) (vv:Value):Ph:={ P with ci:=fun j=>if j=id then vv else P.ci j }
theorem zsz (l:List Int) (i:Nat) (x:Int):zki (l.set i x)=(zki l).set i (.int .i64 x):=by simp[zki,List.map_set]
theorem zqs (P:Ph) (S:ST) (id i:Nat) (x:Int) (hid:id<S.nc):rows P (S.put id i x)=updR (rows P S) (.ci id) { rows P S (.ci id) with xs:=(rows P S (.ci id)).xs.set i (.int .i64 x) }:=by
 funext r
 cases r with
 | ci j =>
  by_cases e:j=id
  ·subst e;simp[updR,rows,ST.put,ST.setL,hid,zsz]
  ·simp[updR,rows,ST.put,ST.setL,e]
 | cb j=>rfl
 | _=>simp[updR,rows,ST.put,ST.setL]
theorem zrO (P:Ph) (S:ST) (id:Nat) (vv:Value) (l:List Int) (hid:id<S.nc):rows (P.setI id vv) (S.setL id l)=updR (updR (rows P S) (.ci id) ⟨vv,3,1,l.length,zki l⟩) (.cb id) { rows P S (.cb id) with xs:=(rows P S (.cb id)).xs.set 0 vv }:=by
 funext r
 cases r with
 | ci j =>
  by_cases e:j=id
  ·subst e;simp[updR,rows,Ph.setI,ST.setL,hid]
  ·simp[updR,rows,Ph.setI,ST.setL,e]
 | cb j =>
  by_cases e:j=id
  ·subst e;simp[updR,rows,Ph.setI,ST.setL,hid]
  ·simp[updR,rows,Ph.setI,ST.setL,e]
 | calls=>simp only[updR,reduceCtorEq,if_false,rows,ST.setL];rw[zll (P:=P) (P':=P.setI id vv) rfl rfl];rfl
 | _=>simp[updR,rows,Ph.setI,ST.setL]
section
variable {W:World} {n0:Nat} {P:Ph} {S:ST}
theorem SR.plc (h:SR W n0 P S) {id i:Nat} (hid:id<S.nc) (hi:i<(S.cell id).length):(∃ c,P.ci id=.slice (some ⟨P.gI id,0,none⟩) (S.cell id).length c/\(S.cell id).length<=c)/\W.cell? ⟨P.gI id,i,none⟩=some (.int .i64 (S.el id i))/\W.frozen? ⟨P.gI id,i,none⟩=false:=by
 have hr:=h.rws.row (.ci id);simp only[rows,hid,if_true] at hr;obtain⟨g,c,hv,hc,_,hcell⟩:=zk5 hr (by omega);have hg:P.gI id=g:=by simp[Ph.gI,hv,Value.ownBlock]
 refine⟨⟨c,by rw[hg];exact hv,hc⟩,?_,?_⟩
 ·rw[hg,hcell i (by omega)];simp[zki,ST.el,hi]
 ·exact h.rws.frozen (.ci id) (by simp only[rows,hid,if_true];rw[hv,hg];rfl) i
theorem SR.own (h:SR W n0 P S) {id i:Nat} (hid:id<S.nc) (hi:i<(S.cell id).length):(rows P S (.ci id)).v.ownBlock=some (P.gI id):=by
 obtain⟨⟨c,hv,_⟩,_⟩:=h.plc hid hi;simp only[rows,hid,if_true];rw[hv];rfl
theorem SR.put (h:SR W n0 P S) {id i:Nat} (hid:id<S.nc) (hi:i<(S.cell id).length) (x:Int) (hx:I64 x):SStp n0 P S W P (S.put id i x) (W.setCell ⟨P.gI id,i,none⟩ (.int .i64 x)):=by
 refine⟨?_,zw7 h.wf hid i x hx⟩;have:=Stp.set (i:=Res.ci id) h.rws (g:=P.gI id) (h.own hid hi) (o:=i) (by simp only[rows,hid,if_true,zkv];exact hi) (.int .i64 x);exact this.cast (zqs P S id i x hid).symm
end
theorem SR.stk {W W2:World} {n0:Nat} {P:Ph} {S:ST} (h:SR W n0 P S) (ah:Nat) (hs:CurK S ah 3) (l:List Int) (vv:Value) (hl:l.length<=1000) (hx:∀ x∈l,I64 x) (hc:Chg (fun b=>(P.ci ah).ownBlock=some b) W W2) (ho:W2.ownsRow n0 3 1 vv l.length (zki l)) (bQ:∀ b,vv.ownBlock=some b->(P.ci ah).ownBlock=some b\/W.heap.size<=b) :
  W2.cell? ⟨P.cb ah,0,none⟩=some (P.ci ah)/\W2.frozen? ⟨P.cb ah,0,none⟩=false/\SStp n0 P S W (P.setI ah vv) (S.setL ah l) (W2.setCell ⟨P.cb ah,0,none⟩ vv):=by
 have hid:=hs.lt h.wf;have ev:(rows P S (.ci ah)).v=P.ci ah:=by simp only[rows,hid,if_true]
 have s1:=Stp.upd (i:=Res.ci ah) (r:=⟨vv,3,1,l.length,zki l⟩) h.rws (hc.mono fun b _ hb=>by rw[ev];exact hb) ho (fun b hb=>by rw[ev];exact bQ b hb);have eb:updR (rows P S) (.ci ah) ⟨vv,3,1,l.length,zki l⟩ (.cb ah)=rows P S (.cb ah):=zkk (by simp);have uK:rows P S (.cb ah)=⟨boxV (P.cb ah),117,1,1,[P.ci ah]⟩:=by simp only[rows,hid,if_true]
 have s2:=Stp.set (i:=Res.cb ah) s1.rws (g:=P.cb ah) (by rw[eb,uK];rfl) (o:=0) (by rw[eb,uK];exact Nat.one_pos) vv;rw[eb] at s2;refine⟨s1.rws.cell (.cb ah) (g:=P.cb ah) (o:=0) (by rw[eb,uK];rfl) (by rw[eb,uK];rfl),s1.rws.frozen (.cb ah) (g:=P.cb ah) (by rw[eb,uK];rfl) 0,⟨(s1.trans s2).cast (zrO P S ah vv l hid).symm,zw6 h.wf ah hs l hl hx⟩⟩
theorem zwM:(Tryz.prog.info? 3).map (fun i=>(i.zero,i.size,i.bytes))=some (some (.int .i64 0),1,8):=znM
theorem ztW {W:World} {n0:Nat} {P:Ph} {S:ST} (h:SR W n0 P S) (k:Int) (hk:k=44\/k=45) (id i ah:Nat) (hid:id<S.nc) (hi:i<(S.cell id).length) (hs:CurK S ah 3) (hne:id≠ah) :
  Calls Tryz.prog 92 #[.int .u8 k,.pointer (some ⟨P.gI id,i,none⟩),.pointer (some ⟨P.cb ah,0,none⟩)] W fun e W'=>e=.returned (.int .i64 (znk S k id i ah).1)/\∃ P',SStp n0 P S W P' (znk S k id i ah).2 W'/\P'.sb=P.sb:=by
 have dN:=hs.lt h.wf;obtain⟨R,hR⟩:∃ R,znk S k id i ah=R:=⟨_,rfl⟩
 rw[hR];have HRR:=zh hR;have HS:=zh h;have HK:=zh hs;obtain⟨A,c,hci,hc,aS⟩:=h.items dN;have hcs:=h.wf.cells ah dN;have x0:W.cell? ⟨P.cb ah,0,none⟩=some (.slice A (S.cell ah).length c):=by rw[<-hci];exact zc (h.cbox dN) rfl
 obtain⟨-,p0,p1⟩:=h.plc hid hi;obtain⟨x,hx⟩:∃ x,S.el id i=x:=⟨_,rfl⟩
 rw[hx] at p0;have HX:=zh hx;obtain⟨L,hL⟩:∃ L,(S.cell ah).length=L:=⟨_,rfl⟩
 rw[hL] at x0;have HL:=zh hL;have hL1:L<=1000:=by rw[<-hL];exact hcs.1
 have vE:=zh hci;have bV:=zh aS;clear h hs hci aS hx hL hR hc;rcases hk with rfl|rfl
 ·by_cases hf:1000<=L
  ·have HN:=zh (show R=(5,S) by rw[<-HRR.out,znk,if_pos rfl,if_pos (by rw[HL.out];exact hf)]);obtain rfl:L=1000:=by omega
   go_enter Tryz.func92,Tryz.ntmps92;go_wp2_with fail;go_ret;exact⟨by rw[HN.out];rfl,P,by rw[HN.out];exact SStp.refl HS.out (Below.refl _ _),rfl⟩
  ·have HN:=zh (show R=(0,(S.setL ah (S.cell ah++[x])).put id i 0) by rw[<-HRR.out,znk,if_pos rfl,if_neg (by rw[HL.out];exact hf),HX.out]);have hf1:¬ (1000:Int)<=(L:Int):=by omega
   obtain⟨i1,hi1,hz0,hz1,hz2⟩:=info_parts zwM;have hbi:=zo3;have sG:I64 x:=by rw[<-HX.out];exact zpu HS.out.wf hid i
   clear HRR;go_enter Tryz.func92,Tryz.ntmps92;go_upto_region 7 with fail;have hSS:(fun w':World=>w'.cell? ⟨P.gI id,i,none⟩=some (.int .i64 x)) W.drew/\(fun w':World=>w'.cell? ⟨P.cb ah,0,none⟩=some (.slice A L c)) W.drew:=⟨p0,x0⟩
   refine wp_region_noPanic ?_;refine zkd (fun w':World=>w'.cell? ⟨P.gI id,i,none⟩=some (.int .i64 x)) (fun w':World=>w'.cell? ⟨P.cb ah,0,none⟩=some (.slice A L c)) 9 (by kernel_rfl) ?_;refine zT 0 hSS ?_;(try simp only[zQ]);refine zT 1 hSS ?_;(try simp only[zQ]);refine zT 2 hSS ?_;(try simp only[zQ]);refine zT 3 hSS ?_;(try simp only[zQ]);refine zkN (i:=4) (v:=?_) rfl (by kernel_rfl) (by kernel_rfl) (by kernel_rfl) (by decide) rfl (by kernel_rfl) (by kernel_rfl) (fun _ _ _ h=>h) (Or.inl ⟨by rfl,?_⟩) hSS ?_;rotate_left 1
   ·(intro w hSw;(try dsimp only at hSw);(try simp only[zA,zB,zC]);go_simp;(try with_reducible rfl))
   (try simp only[zQ]);refine zT 5 hSS ?_;(try simp only[zQ]);refine zT 6 hSS ?_;(try simp only[zQ]);refine zT 7 hSS ?_;(try simp only[zQ]);refine zo 8 fun K hK=>?_;(try simp only[zA,zB,zC]);go_simp;refine hK.out _ _ ⟨zkq p0 _,zkq x0 _⟩ ?_;clear hK K hSS;(try simp only[zQ]);obtain⟨W2,hW2⟩:∃ W2,(W.alloc (.cells #[.int .i64 x] 3)).drew=W2:=⟨_,rfl⟩
   have hb2:Below W.heap.size W W2:=hW2▸(zkc (Below.refl _ _) _).drew;have aI:=zh (show ∀ j u,[Value.int .i64 x][j]?=some u->W2.cell? ((⟨W.heap.size,0,none⟩:Addr).add j)=some u from hW2▸zlt W 3 [.int .i64 x]);have uh:W2.ownsRow n0 3 1 (.slice A L c) L (zki (S.cell ah)):=by
    have:=zkI (HS.out.rws.row (.ci ah)) hb2;simp only[rows,dN,if_true] at this;rw[vE.out,HL.out] at this;exact this
   have hs2:=hb2.size;have d0:=zb hb2 p0;have hn0:=(HS.out.rws.lt .sb P.sb rfl)
   have HST:=zh (fun w3 vv=>SR.stk (W2:=w3) (HS.out.later hb2) ah HK.out (S.cell ah++[x]) vv (by rw[List.length_append,HL.out];simp;omega) (fun y hy=>by
    simp only[List.mem_append,List.mem_singleton] at hy;rcases hy with hy|rfl
    ·exact(hcs.2 y hy)
    ·exact sG))
   rw[hW2];have hnb:∀ b,(P.ci ah).ownBlock=some b->b≠P.gI id:=fun b hb e=>by
    have h1:=HS.out.own hid hi;rw[<-e] at h1;exact HS.out.rws.sep (.ci id) (.ci ah) b (by simpa using hne) h1 (by simp only[rows,dN,if_true];exact hb)
   rw[vE.out] at HST hnb;rw[HL.out] at HST hnb;have HNB:=zh hnb;have dH:=zh hb2;clear hW2 hnb hb2;refine zp 9 fun K hK=>?_;refine zkT (by rfl) (.tmp 47) (.tmp 51) 32 (by rfl) n0 3 i1 _ 1 8 Tryz.underlying32 hi1 hz0 hz1 hz2 rfl (by decide) (.slice A L c) L (zki (S.cell ah)) (by rfl) uh ⟨W.heap.size,0,none⟩ 1 1 [.int .i64 x] (by rfl) rfl aI.out (by intro u hu;simp at hu;subst hu;rfl) (by unfold maxLen;omega) (by omega) (by omega) ?_;intro v' w3 h2 h3 h5;obtain⟨g8,aF,rfl⟩:=ownsRow_succ h2;have hll:(S.cell ah++[x]).length=L+1:=by rw[List.length_append,HL.out];rfl
   obtain⟨z0,zf,hfin⟩:=HST.out w3 _ (Chg.row h3) (by rw[hll,zmk];exact h2) (fun b hb=>by
    rcases h5 with h5|h5
    ·exact .inl (h5▸hb)
    ·exact .inr (by rw[h5] at hb;injection hb with hb;omega))
   have y0:w3.cell? ⟨P.gI id,i,none⟩=some (.int .i64 x):=zkU (Chg.row h3) d0 (fun e=>HNB.out _ e rfl);have hput:=SR.put (hfin.sr) (id:=id) (i:=i) hid (by show i<((S.setL ah _).cell id).length;simp only[ST.setL,if_neg hne];exact hi) 0 ⟨by decide,by decide⟩;have hgi:(P.setI ah (.slice (some ⟨g8,0,none⟩) (L+1) aF)).gI id=P.gI id:=by simp[Ph.gI,Ph.setI,hne]
   rw[hgi] at hput;have lF:P.cb ah≠P.gI id:=fun e=>by
    have h1:=HS.out.own hid hi;exact HS.out.rws.sep (.ci id) (.cb ah) (P.gI id) (by simp) h1 (by simp only[rows,dN,if_true];rw[e];rfl)
   have y1:(w3.setCell ⟨P.cb ah,0,none⟩ (.slice (some ⟨g8,0,none⟩) (L+1) aF)).cell? ⟨P.gI id,i,none⟩=some (.int .i64 x):=(World.cell?_setCell_far _ _ _ _ lF).trans y0;have aC:=zh (hfin.trans hput);have hfr:=hfin.sr.plc (id:=id) (i:=i) hid (by show i<((S.setL ah _).cell id).length;simp only[ST.setL,if_neg hne];exact hi);rw[hgi] at hfr;have yf:=hfr.2.2;refine hK.out _ _ y0 ?_;clear hK K h2 h3 h5 hfin hput uh aI d0 hfr;(try simp only[zQ]);refine zp 10 fun K hK=>?_;(try simp only[zA,zB,zC]);go_simp;refine hK.out _ _ y0 ?_;clear hK K;(try simp only[zQ]);refine zp 11 fun K hK=>?_;(try simp only[zA,zB,zC]);go_simp;refine hK.out _ _ y0 ?_;clear hK K;(try simp only[zQ]);refine zp 12 fun K hK=>?_;(try simp only[zA,zB,zC]);go_simp;refine hK.out _ _ y1 ?_;clear hK K;(try simp only[zQ]);refine zd ?_;refine NoPanic.normal ?_
   obtain⟨w4,hw4⟩:∃ w4,w3.setCell ⟨P.cb ah,0,none⟩ (.slice (some ⟨g8,0,none⟩) (L+1) aF)=w4:=⟨_,rfl⟩
   rw[hw4] at y1 yf aC ⊢;clear hw4 z0 zf y0;go_wp2_with fail;go_ret;refine⟨by rw[HN.out];rfl,P.setI ah (.slice (some ⟨g8,0,none⟩) (L+1) aF),?_,rfl⟩;rw[HN.out];exact⟨aC.out.st.after dH.out HS.out.rws,aC.out.wf⟩
 ·rcases Nat.eq_zero_or_pos L with h0|h0
  ·subst h0;have HN:=zh (show R=(13,S) by rw[<-HRR.out,znk,if_neg (by decide),if_pos HL.out]);go_enter Tryz.func92,Tryz.ntmps92;go_wp2_with fail;go_ret;exact⟨by rw[HN.out];rfl,P,by rw[HN.out];exact SStp.refl HS.out (Below.refl _ _),rfl⟩
  ·obtain⟨m,rfl⟩:∃ m,L=m+1:=⟨L-1,by omega⟩
   have hm0:¬ ((m:Int)+1=0):=by omega
   have hm1:(((m:Int)+1)==0)=false:=by simpa using hm0
   by_cases hx0:x=0
   ·subst hx0;obtain⟨a,rfl,hz⟩:=bV.out.nd (i:=m) (by rw[HL.out];omega);obtain⟨y,hy⟩:∃ y,(S.cell ah).getD m 0=y:=⟨_,rfl⟩
    rw[hy] at hz;have HN:=zh (show R=(0,(S.put id i y).setL ah ((S.cell ah).take m)) by
     rw[<-HRR.out,znk,if_neg (by decide),if_neg (by rw[HL.out];omega),if_neg (by rw[HX.out];simp),HL.out];rw[show S.el ah (m+1-1)=y from hy];rfl)
    have qa:I64 y:=by rw[<-hy];exact zpu HS.out.wf dN m
    have s1:=HS.out.put hid hi y qa;obtain⟨g,c2,hv2,hc2,hm2,hcell2⟩:=zk5 (HS.out.rws.row (.ci ah)) (by simp only[rows,dN,if_true];rw[HL.out];omega);simp only[rows,dN,if_true] at hv2 hc2;rw[HL.out] at hc2;rw[vE.out] at hv2;injection hv2 with a1 a2 a3;injection a1 with a1;subst a1 a3;rw[Addr.add_lit,Nat.zero_add] at hz;have lF:P.cb ah≠P.gI id:=fun e=>by
     have h1:=HS.out.own hid hi;exact HS.out.rws.sep (.ci id) (.cb ah) (P.gI id) (by simp) h1 (by simp only[rows,dN,if_true];rw[e];rfl)
    have x1:(W.setCell ⟨P.gI id,i,none⟩ (.int .i64 y)).cell? ⟨P.cb ah,0,none⟩=some (.slice (some ⟨g,0,none⟩) (m+1) c):=(World.cell?_setCell_far _ _ _ _ (Ne.symm lF)).trans x0;have hrow1:(W.setCell ⟨P.gI id,i,none⟩ (.int .i64 y)).ownsRow n0 3 1 (.slice (some ⟨g,0,none⟩) m c) m (zki ((S.cell ah).take m)):=by
     have:=s1.st.rws.row (.ci ah);have e1:rows P (S.put id i y) (.ci ah)=⟨.slice (some ⟨g,0,none⟩) (m+1) c,3,1,m+1,zki (S.cell ah)⟩:=by
      rw[zqs P S id i y hid,zkk (by simpa using Ne.symm hne)];simp only[rows,dN,if_true];rw[vE.out,HL.out]
     rw[e1] at this;have e2:zki (S.cell ah)=zki ((S.cell ah).take m)++(zki (S.cell ah)).drop (m*1):=by rw[Nat.mul_one,zki,zki,List.map_take,List.take_append_drop]
     dsimp only at this;rw[e2] at this;exact ownsRow_pop (by rw[zkv,List.length_take,HL.out];omega) this
    have hltm:((S.cell ah).take m).length=m:=by rw[List.length_take,HL.out];omega
    have hcell1:(S.put id i y).cell ah=S.cell ah:=by simp[ST.put,ST.setL,Ne.symm hne]
    obtain⟨z0,zf,hfin⟩:=SR.stk (W2:=W.setCell ⟨P.gI id,i,none⟩ (.int .i64 y)) s1.sr ah HK.out ((S.cell ah).take m) (.slice (some ⟨g,0,none⟩) m c) (by omega) (fun q hq=>hcs.2 q (List.mem_of_mem_take hq)) (Chg.refl _ _) (by rw[hltm];exact hrow1) (fun b hb=>.inl (by rw[vE.out];exact hb));have aC:=zh (s1.trans hfin);have hw1:IntKind.i64.wrap (m:Int)=(m:Int):=IntWalk.i64_in _ (by omega);have hmc:(m:Int)<=(c:Int):=by omega
    have hmm:(m:Int)<(m:Int)+1:=by omega
    clear s1 hfin hrow1 z0 hcell2 HRR;go_enter Tryz.func92,Tryz.ntmps92;go_wp2_with fail;go_ret;refine⟨by rw[HN.out];rfl,P.setI ah (.slice (some ⟨g,0,none⟩) m c),?_,rfl⟩;rw[HN.out];exact aC.out
   ·have HN:=zh (show R=(14,S) by rw[<-HRR.out,znk,if_neg (by decide),if_neg (by rw[HL.out];omega),if_pos (by rw[HX.out];exact hx0)]);have hx1:(x != 0)=true:=by simpa using hx0
    have hx2:(x==0)=false:=by simpa using hx0
    go_enter Tryz.func92,Tryz.ntmps92;go_wp2_with fail;go_ret;exact⟨by rw[HN.out];rfl,P,by rw[HN.out];exact SStp.refl HS.out (Below.refl _ _),rfl⟩
theorem zss:IsFn Tryz.prog 122 Tryz.f122:=⟨Tryz.func122,by kernel_rfl,by kernel_rfl⟩
theorem zuc:IsFn Tryz.prog 124 Tryz.f124:=⟨Tryz.func124,by kernel_rfl,by kernel_rfl⟩
theorem SR.tp {W:World} {n0:Nat} {P:Ph} {S:ST} (h:SR W n0 P S):W.cell? ⟨P.sb,4,none⟩=some (.pointer (some ⟨P.tb,0,none⟩)):=zc h.box rfl
theorem zpc {W:World} {n0:Nat} {P:Ph} {S:ST} (h:SR W n0 P S) (k:Int) (hk:k=46\/k=49\/k=47\/k=48) (id i:Nat) (hid:id<S.nc) (hi:i<(S.cell id).length) :
  Calls Tryz.prog 93 #[.pointer (some ⟨P.sb,0,none⟩),.int .u8 k,.pointer (some ⟨P.gI id,i,none⟩)] W fun e W'=>e=.returned (.int .i64 (zlq S k id i).1)/\∃ P',SStp n0 P S W P' (zlq S k id i).2 W'/\P'.sb=P.sb:=by
 obtain⟨R,hR⟩:∃ R,zlq S k id i=R:=⟨_,rfl⟩
 rw[hR];have HRR:=zh hR;have HS:=zh h;have x4:=h.tp;obtain⟨-,p0,p1⟩:=h.plc hid hi;obtain⟨x,hx⟩:∃ x,S.el id i=x:=⟨_,rfl⟩
 rw[hx] at p0;have HX:=zh hx;have sG:I64 x:=by rw[<-hx];exact zpu h.wf hid i
 clear hR hx h;rcases hk with rfl|rfl|rfl|rfl
 ·have kT:=zh (zu0 HS.out);go_enter Tryz.func93,Tryz.ntmps93;go_wp2_with fail;refine kT.out.mono ?_;rintro e w1 hh;rcases hh with⟨h0,rfl,hb⟩|⟨y,r,h0,rfl,vv,hst⟩
  ·have HN:=zh (show R=(17,S) by rw[<-HRR.out,zlq,if_pos rfl,h0]);have HB:=zh hb;clear h0 hb;go_wp2_with fail;go_ret;exact⟨by rw[HN.out];rfl,P,by rw[HN.out];exact SStp.refl HS.out HB.out,rfl⟩
  ·have ht:=HS.out.wf.tin;rw[h0] at ht;have qa:I64 y:=ht.2 y (List.mem_cons_self ..);have y4:w1.cell? ⟨P.sb,4,none⟩=some (.pointer (some ⟨P.tb,0,none⟩)):=hst.sr.tp;obtain⟨-,r0,r1⟩:=hst.sr.plc (id:=id) (i:=i) hid hi;have r0':w1.cell? ⟨P.gI id,i,none⟩=some (.int .i64 x):=by rw[<-HX.out];exact r0
   have r1':w1.frozen? ⟨P.gI id,i,none⟩=false:=r1;by_cases hx0:x=0
   ·subst hx0;have HN:=zh (show R=(0,({ S with tin:=r }:ST).put id i y) by rw[<-HRR.out,zlq,if_pos rfl,h0];dsimp only;rw[HX.out];simp);have lY:=zh (hst.trans (hst.sr.put (id:=id) (i:=i) hid hi y qa));clear h0 hst ht r0 r1;go_wp2_with fail;go_ret;exact⟨by rw[HN.out];rfl,{ P with vI:=vv },by rw[HN.out];exact lY.out,rfl⟩
   ·have HN:=zh (show R=(14,S) by rw[<-HRR.out,zlq,if_pos rfl,h0];dsimp only;rw[HX.out,if_pos hx0]);have hx1:(x != 0)=true:=by simpa using hx0
    have hx2:(x==0)=false:=by simpa using hx0
    have xN:=zh (zoD hst.sr y qa);have hrl:¬ 4096<=r.length:=by have:=ht.1;simp at this;omega
    have HST:=zh hst;have H0:=zh h0;clear h0 hst ht r0 r1;go_wp2_with fail;refine xN.out.mono ?_;rintro e w2 hh;rcases hh with⟨h1,rfl,hb⟩|⟨h1,rfl,wT,kZ⟩
    ·exact absurd h1 hrl
    ·have HS2:=zh kZ;clear h1 kZ;go_wp2_with fail;go_ret;refine⟨by rw[HN.out];rfl,{ P with vI:=wT },?_,rfl⟩;rw[HN.out];have h3:=HST.out.trans HS2.out;have e3:({ { S with tin:=r } with tin:=y::({ S with tin:=r }:ST).tin }:ST)=S:=by
      show({ S with tin:=y::r }:ST)=S
      rw[<-H0.out]
     rw[e3] at h3;exact h3
 ·have kT:=zh (zqd HS.out);go_enter Tryz.func93,Tryz.ntmps93;go_wp2_with fail;refine kT.out.mono ?_;rintro e w1 hh;rcases hh with⟨h0,rfl,hb⟩|⟨r,y,h0,rfl,vv,hst⟩
  ·have HN:=zh (show R=(17,S) by rw[<-HRR.out,zlq,if_neg (by decide),if_pos rfl,if_pos h0]);have HB:=zh hb;clear h0 hb;go_wp2_with fail;go_ret;exact⟨by rw[HN.out];rfl,P,by rw[HN.out];exact SStp.refl HS.out HB.out,rfl⟩
  ·have ht:=HS.out.wf.tout;rw[h0] at ht;have qa:I64 y:=ht.2 y (by simp);have hne:S.tout≠[]:=by rw[h0];simp
   have hdl:S.tout.dropLast=r:=by rw[h0];simp
   have hgl:S.tout.getLast?.getD 0=y:=by rw[h0];simp
   have y4:w1.cell? ⟨P.sb,4,none⟩=some (.pointer (some ⟨P.tb,0,none⟩)):=hst.sr.tp;obtain⟨-,r0,r1⟩:=hst.sr.plc (id:=id) (i:=i) hid hi;have r0':w1.cell? ⟨P.gI id,i,none⟩=some (.int .i64 x):=by rw[<-HX.out];exact r0
   have r1':w1.frozen? ⟨P.gI id,i,none⟩=false:=r1;by_cases hx0:x=0
   ·subst hx0;have HN:=zh (show R=(0,({ S with tout:=r }:ST).put id i y) by rw[<-HRR.out,zlq,if_neg (by decide),if_pos rfl,if_neg hne,hdl,hgl,HX.out];simp);have lY:=zh (hst.trans (hst.sr.put (id:=id) (i:=i) hid hi y qa));clear h0 hst ht r0 r1 hne hdl hgl;go_wp2_with fail;go_ret;exact⟨by rw[HN.out];rfl,{ P with vO:=vv },by rw[HN.out];exact lY.out,rfl⟩
   ·have HN:=zh (show R=(14,S) by rw[<-HRR.out,zlq,if_neg (by decide),if_pos rfl,if_neg hne,HX.out,if_pos hx0]);have hx1:(x != 0)=true:=by simpa using hx0
    have hx2:(x==0)=false:=by simpa using hx0
    have xN:=zh (zpD hst.sr y qa);have hrl:¬ 4096<=r.length:=by have:=ht.1;simp at this;omega
    have HST:=zh hst;have H0:=zh h0;clear h0 hst ht r0 r1 hne hdl hgl;go_wp2_with fail;refine xN.out.mono ?_;rintro e w2 hh;rcases hh with⟨h1,rfl,hb⟩|⟨h1,rfl,wT,kZ⟩
    ·exact absurd h1 hrl
    ·have HS2:=zh kZ;clear h1 kZ;go_wp2_with fail;go_ret;refine⟨by rw[HN.out];rfl,{ P with vO:=wT },?_,rfl⟩;rw[HN.out];have h3:=HST.out.trans HS2.out;have e3:({ { S with tout:=r } with tout:=({ S with tout:=r }:ST).tout++[y] }:ST)=S:=by
      show({ S with tout:=r++[y] }:ST)=S
      rw[<-H0.out]
     rw[e3] at h3;exact h3
 ·skip
  have had:Calls Tryz.prog 122 [.pointer (some ⟨P.tb,0,none⟩),.int .i64 x].toArray W.drew fun e W'=>∃ u,e=.returned u/\∃ y,u=.int .i64 y /\
    ((y=5/\R=(5,S)/\Below W.heap.size W W')\/(y=0/\R=(0,({ S with tin:=x::S.tin }:ST).put id i 0)/\∃ vv,SStp n0 P S W { P with vI:=vv } ({ S with tin:=x::S.tin }:ST) W')):=by
   refine(zoD (HS.out.later (Below.refl _ _).drew) x sG).mono ?_;rintro e W' hh;rcases hh with⟨h0,rfl,hb⟩|⟨h0,rfl,vv,hst⟩
   ·exact⟨_,rfl,5,rfl,.inl ⟨rfl,by rw[<-HRR.out,zlq,if_neg (by decide),if_neg (by decide),if_pos rfl,if_pos h0],zka (Below.refl _ _).drew hb⟩⟩
   ·exact⟨_,rfl,0,rfl,.inr ⟨rfl,by rw[<-HRR.out,zlq,if_neg (by decide),if_neg (by decide),if_pos rfl,if_neg (by omega),HX.out],vv,⟨hst.st.after (Below.refl _ _).drew HS.out.rws,hst.wf⟩⟩⟩
  go_enter Tryz.func93,Tryz.ntmps93;go_upto_region 17 with fail;have hSS:(fun w':World=>w'.cell? ⟨P.sb,4,none⟩=some (.pointer (some ⟨P.tb,0,none⟩))/\w'.cell? ⟨P.gI id,i,none⟩=some (.int .i64 x)) W.drew/\(fun _:World=>True) W.drew:=⟨⟨x4,p0⟩,trivial⟩
  refine wp_region_noPanic ?_;refine zkd (fun w':World=>w'.cell? ⟨P.sb,4,none⟩=some (.pointer (some ⟨P.tb,0,none⟩))/\w'.cell? ⟨P.gI id,i,none⟩=some (.int .i64 x)) (fun _:World=>True) 7 (by kernel_rfl) ?_;refine zT 0 hSS ?_;(try simp only[zQ]);refine zT 1 hSS ?_;(try simp only[zQ]);refine zT 2 hSS ?_;(try simp only[zQ]);refine zT 3 hSS ?_;(try simp only[zQ]);refine zT 4 hSS ?_;(try simp only[zQ]);refine zT 5 hSS ?_;(try simp only[zQ]);refine zT 6 hSS ?_;(try simp only[zQ]);refine zp 7 fun K hK=>?_;refine zke (by rfl) (.func 122) [.tmp 72,.tmp 75] _ (by rfl) 122 _ zss (by rfl) _ (by rfl) _ had ?_;rintro v4 w4 ⟨y,rfl,hh⟩;have HH:=zh hh;have lH:w4.cell? ⟨P.sb,4,none⟩=some (.pointer (some ⟨P.tb,0,none⟩))/\w4.cell? ⟨P.gI id,i,none⟩=some (.int .i64 x)/\w4.frozen? ⟨P.gI id,i,none⟩=false:=by
   rcases hh with⟨_,_,hb⟩|⟨_,_,vv,hst⟩
   ·exact⟨zb hb x4,zb hb p0,((HS.out.later hb).plc hid hi).2.2⟩
   ·have h9:=hst.sr.plc (id:=id) (i:=i) hid hi;exact⟨hst.sr.tp,by rw[<-HX.out];exact h9.2.1,h9.2.2⟩
  obtain⟨b4,b5,b6⟩:=lH;refine hK.out _ _ ⟨b4,b5⟩ ?_;clear hK K hSS had hh;(try simp only[zQ]);refine zp 8 fun K hK=>?_;(try simp only[zA,zB,zC]);go_simp;refine hK.out _ _ ⟨b4,b5⟩ ?_;clear hK K;(try simp only[zQ]);refine zd ?_;refine NoPanic.normal ?_;rcases HH.out with⟨rfl,h1,hb⟩|⟨rfl,h1,vv,hst⟩
  ·have HN:=zh h1;have HB:=zh hb;clear HH h1 hb;go_wp2_with fail;go_ret;exact⟨by rw[HN.out];rfl,P,by rw[HN.out];exact SStp.refl HS.out HB.out,rfl⟩
  ·have HN:=zh h1;have lY:=zh (hst.trans (hst.sr.put (id:=id) (i:=i) hid hi 0 ⟨by decide,by decide⟩));clear HH h1 hst;go_wp2_with fail;go_ret;exact⟨by rw[HN.out];rfl,{ P with vI:=vv },by rw[HN.out];exact lY.out,rfl⟩
 ·skip
  have had:Calls Tryz.prog 124 [.pointer (some ⟨P.tb,0,none⟩),.int .i64 x].toArray W.drew fun e W'=>∃ u,e=.returned u/\∃ y,u=.int .i64 y /\
    ((y=5/\R=(5,S)/\Below W.heap.size W W')\/(y=0/\R=(0,({ S with tout:=S.tout++[x] }:ST).put id i 0)/\∃ vv,SStp n0 P S W { P with vO:=vv } ({ S with tout:=S.tout++[x] }:ST) W')):=by
   refine(zpD (HS.out.later (Below.refl _ _).drew) x sG).mono ?_;rintro e W' hh;rcases hh with⟨h0,rfl,hb⟩|⟨h0,rfl,vv,hst⟩
   ·exact⟨_,rfl,5,rfl,.inl ⟨rfl,by rw[<-HRR.out,zlq,if_neg (by decide),if_neg (by decide),if_neg (by decide),if_pos h0],zka (Below.refl _ _).drew hb⟩⟩
   ·exact⟨_,rfl,0,rfl,.inr ⟨rfl,by rw[<-HRR.out,zlq,if_neg (by decide),if_neg (by decide),if_neg (by decide),if_neg (by omega),HX.out],vv,⟨hst.st.after (Below.refl _ _).drew HS.out.rws,hst.wf⟩⟩⟩
  go_enter Tryz.func93,Tryz.ntmps93;go_upto_region 19 with fail;have hSS:(fun w':World=>w'.cell? ⟨P.sb,4,none⟩=some (.pointer (some ⟨P.tb,0,none⟩))/\w'.cell? ⟨P.gI id,i,none⟩=some (.int .i64 x)) W.drew/\(fun _:World=>True) W.drew:=⟨⟨x4,p0⟩,trivial⟩
  refine wp_region_noPanic ?_;refine zkd (fun w':World=>w'.cell? ⟨P.sb,4,none⟩=some (.pointer (some ⟨P.tb,0,none⟩))/\w'.cell? ⟨P.gI id,i,none⟩=some (.int .i64 x)) (fun _:World=>True) 7 (by kernel_rfl) ?_;refine zT 0 hSS ?_;(try simp only[zQ]);refine zT 1 hSS ?_;(try simp only[zQ]);refine zT 2 hSS ?_;(try simp only[zQ]);refine zT 3 hSS ?_;(try simp only[zQ]);refine zT 4 hSS ?_;(try simp only[zQ]);refine zT 5 hSS ?_;(try simp only[zQ]);refine zT 6 hSS ?_;(try simp only[zQ]);refine zp 7 fun K hK=>?_;refine zke (by rfl) (.func 124) [.tmp 82,.tmp 85] _ (by rfl) 124 _ zuc (by rfl) _ (by rfl) _ had ?_;rintro v4 w4 ⟨y,rfl,hh⟩;have HH:=zh hh;have lH:w4.cell? ⟨P.sb,4,none⟩=some (.pointer (some ⟨P.tb,0,none⟩))/\w4.cell? ⟨P.gI id,i,none⟩=some (.int .i64 x)/\w4.frozen? ⟨P.gI id,i,none⟩=false:=by
   rcases hh with⟨_,_,hb⟩|⟨_,_,vv,hst⟩
   ·exact⟨zb hb x4,zb hb p0,((HS.out.later hb).plc hid hi).2.2⟩
   ·have h9:=hst.sr.plc (id:=id) (i:=i) hid hi;exact⟨hst.sr.tp,by rw[<-HX.out];exact h9.2.1,h9.2.2⟩
  obtain⟨b4,b5,b6⟩:=lH;refine hK.out _ _ ⟨b4,b5⟩ ?_;clear hK K hSS had hh;(try simp only[zQ]);refine zp 8 fun K hK=>?_;(try simp only[zA,zB,zC]);go_simp;refine hK.out _ _ ⟨b4,b5⟩ ?_;clear hK K;(try simp only[zQ]);refine zd ?_;refine NoPanic.normal ?_;rcases HH.out with⟨rfl,h1,hb⟩|⟨rfl,h1,vv,hst⟩
  ·have HN:=zh h1;have HB:=zh hb;clear HH h1 hb;go_wp2_with fail;go_ret;exact⟨by rw[HN.out];rfl,P,by rw[HN.out];exact SStp.refl HS.out HB.out,rfl⟩
  ·have HN:=zh h1;have lY:=zh (hst.trans (hst.sr.put (id:=id) (i:=i) hid hi 0 ⟨by decide,by decide⟩));clear HH h1 hst;go_wp2_with fail;go_ret;exact⟨by rw[HN.out];rfl,{ P with vO:=vv },by rw[HN.out];exact lY.out,rfl⟩
theorem zrj (k x y:Int) (hk:k=40\/k=41\/k=42) (w:World):Calls Tryz.prog 91 #[.int .u8 k,.int .i64 x,.int .i64 y] w fun e w'=>e=.returned (.tuple #[.int .i64 (updE k x y),.int .i64 0])/\w'=w:=by
 rcases hk with rfl|rfl|rfl
 ·rw[show updE 40 x y=wrap64 (x+y) by simp[updE]];go_enter Tryz.func91,Tryz.ntmps91;go_wp2_with fail;go_ret2;exact⟨rfl,rfl⟩
 ·rw[show updE 41 x y=wrap64 (x-y) by simp[updE]];go_enter Tryz.func91,Tryz.ntmps91;go_wp2_with fail;go_ret2;exact⟨rfl,rfl⟩
 ·rw[show updE 42 x y=bits BinOp.xor IntKind.i64 x y by simp[updE]];go_enter Tryz.func91,Tryz.ntmps91;go_wp2_with fail;go_ret2;exact⟨rfl,rfl⟩
theorem zrx (x:Int):I64 (IntKind.i64.wrap x):=by
 rw[IntKind.wrap_i64];unfold I64;omega
theorem zvy (k x y:Int):I64 (updE k x y):=by
 unfold updE
 split
 ·unfold wrap64 I64;omega
 ·split
  ·unfold wrap64 I64;omega
  ·exact zrx _
theorem zoz:∀ (vs:List VD) (s:ByteArray) (j:Nat),j<=vs.length->zlm (vs.take j) s=(zlD vs s j).bind fun i=>vs[i]?
 | vs,s,0,_=>by simp[zlm,zlD]
 | vs,s,j+1,h=>by
  rw[zoy (by omega),zm6 (by omega),zoz vs s j (by omega)];by_cases e:vs[j].s.toList=s.toList
  ·have e':(vs[j].s.toList==s.toList)=true:=by simpa using e
   have hj:j<vs.length:=by omega
   rw[if_pos e,if_pos e'];simp[hj]
  ·have e':¬ (vs[j].s.toList==s.toList)=true:=by simpa using e
   rw[if_neg e,if_neg e']
theorem zun (f:FR) (s:ByteArray):zlm f.vs s=(f.at s).bind fun i=>f.vs[i]?:=by
 have:=zoz f.vs s f.vs.length (Nat.le_refl _);rw[List.take_of_length_le (Nat.le_refl _)] at this;exact this
theorem zr3 {S:ST} (h:S.WF) {s:ByteArray} {v:VD} (hv:zlm S.cur.vs s=some v):∃ id,S.num s=some id/\CurK S id v.k:=by
 rw[zun,Option.bind_eq_some_iff] at hv;obtain⟨i,h1,h2⟩:=hv;obtain⟨kd,hw⟩:=h.cur;have hi:=FR.at_lt h1;have hc:i<S.cur.cs.length:=by rw[hw.len];exact hi
 refine⟨S.cur.cs[i],by rw[ST.num,h1];simp[hc],i,v,h2,List.getElem?_eq_getElem hc,rfl⟩
theorem zp3 {vs:List VD} {k n:Int} {s:ByteArray} {ks:List T} (h:fltE vs (.nd k n s ks)=0):ownE vs k s=0/\zly vs ks=0:=by
 rw[fltE] at h
 split at h
 ·contradiction
 ·next h1=>exact⟨Classical.not_not.1 h1,h⟩
theorem zms {vs:List VD}:∀ {ks:List T},zly vs ks=0->∀ t∈ks,fltE vs t=0
 | t::ts,h,u,hu=>by
  rw[zly] at h
  split at h
  ·contradiction
  ·next h1 =>
   rcases List.mem_cons.1 hu with rfl|hu
   ·exact Classical.not_not.1 h1
   ·exact zms h u hu
theorem zoM {vs:List VD} {k:Int} {s:ByteArray} (h:ownE vs k s=0) (hn:zoO k≠0):∃ v,zlm vs s=some v/\v.k=zoO k:=by
 rw[ownE,if_neg hn] at h
 cases hf:zlm vs s with
 | none=>rw[hf] at h;cases h
 | some v =>
  rw[hf] at h;dsimp only at h
  split at h
  ·next h1=>exact⟨v,rfl,h1⟩
  ·cases h
theorem znF {S:ST} (h:S.WF) {p:T} (hp:isP p=true) (hf:fltE S.cur.vs p=0):∃ id k,S.num p.s=some id/\CurK S id k/\k≠3:=by
 obtain⟨k,n,s,ks⟩:=p;simp only[isP,T.k_nd,Bool.and_eq_true,Bool.or_eq_true,beq_iff_eq] at hp;obtain⟨h1,_⟩:=zp3 hf;rcases hp.1 with rfl|rfl
 ·obtain⟨v,h2,h3⟩:=zoM h1 (by decide);obtain⟨id,h4,h5⟩:=zr3 h h2;exact⟨id,v.k,h4,h5,by rw[h3];decide⟩
 ·obtain⟨v,h2,h3⟩:=zoM h1 (by decide);obtain⟨id,h4,h5⟩:=zr3 h h2;exact⟨id,v.k,h4,h5,by rw[h3];decide⟩
def ztB (S:ST) (id i jd j:Nat):ST:=(S.put id i (S.el jd j)).put jd j (S.el id i)
def znm (S:ST) (k:Int) (s qs:ByteArray) (r2:Int) (id i:Nat):Int×ST :=
 if k=40\/k=41\/k=42 then (0,S.put id i (updE k (S.el id i) r2))
 else if k=43 then match S.num qs with
  | none=>(0,S)
  | some jd=>if 0<=r2/\r2<(S.cell jd).length then (0,ztB S id i jd r2.toNat) else (12,S)
 else if k=44\/k=45 then match S.num s with
  | none=>(0,S)
  | some ah=>znk S k id i ah
 else zlq S k id i
def zmO (S:ST) (k:Int) (q:T):Int×Int:=if k=43 then indE S.look q else if k=40\/k=41\/k=42 then zlz S.look q else (0,0)
def znn (S:ST) (k:Int) (s ps qs:ByteArray) (r1:Int) (r2:Int×Int):Int×ST :=
 if r2.2≠0 then (r2.2,S) else match S.num ps with
  | none=>(0,S)
  | some id=>if 0<=r1/\r1<(S.cell id).length then znm S k s qs r2.1 id r1.toNat else (12,S)
def zlh (S:ST) (k:Int) (s:ByteArray) (p q:T) (r1 r2:Int×Int):Int×ST:=if r1.2≠0 then (r1.2,S) else znn S k s p.s q.s r1.1 r2
def nil0:T:=.nd 0 0 ⟨#[]⟩ []
def zoX (S:ST):T->Int×ST
 | .nd k _ s ks=>zlh S k s (ks.getD 0 nil0) (ks.getD 1 nil0) (indE S.look (ks.getD 0 nil0)) (zmO S k (ks.getD 1 nil0))
def doE (S:ST) (t:T):Int×ST :=
 if isS t=false then (3,S) else if t.k=56 then (9,S) else if basB t.k=false then (7,S) else if fltE S.cur.vs t≠0 then (fltE S.cur.vs t,S) else zoX S t
def zn1 (S:ST):T->Int×ST
 | .nd k n s ks=>doE S (.nd (zra k) n s ks)
theorem zst:IsFn Tryz.prog 90 Tryz.f90:=⟨Tryz.func90,by kernel_rfl,by kernel_rfl⟩
theorem zvj:IsFn Tryz.prog 92 Tryz.f92:=⟨Tryz.func92,by kernel_rfl,by kernel_rfl⟩
theorem zup {W:World} {n0:Nat} {P:Ph} {S:ST} (h:SR W n0 P S) (k n:Int) (s:ByteArray) (p:T) (v:Value) (hv:NV W Any (.nd k n s [p]) v) (hk:44<=k/\k<=49) (id:Nat) (hid:S.num p.s=some id) (kp:Int) (hck:CurK S id kp) (hkp:kp≠3)
  (hst:k=44\/k=45->∃ ah,S.num s=some ah/\CurK S ah 3) :
  Calls Tryz.prog 64 #[.pointer (some ⟨P.sb,0,none⟩),v] W fun e W'=>e=.returned (.int .i64 (zlh S k s p nil0 (indE S.look p) (0,0)).1)/\∃ P',SStp n0 P S W P' (zlh S k s p nil0 (indE S.look p) (0,0)).2 W'/\P'.sb=P.sb:=by
 obtain⟨A,c,rfl,hf,hlk,hlc,hrow⟩:=hv.open_;simp only[T.k_nd,T.n_nd,T.s_nd,T.ks_nd] at *
 obtain⟨R,hR⟩:∃ R,zlh S k s p nil0 (indE S.look p) (0,0)=R:=⟨_,rfl⟩
 rw[hR];have HRR:=zh hR;have HS:=zh h;have HL:=zh (zsa n0 P S h.wf);obtain⟨a,t0,A2,c2,rfl,_,Ht,⟨y0,y1,y2,y3⟩,hn0⟩:=hrow.nd (i:=0) (by simp);simp only[Nat.zero_mul,Addr.add_zero',List.length_cons,List.length_nil,Nat.zero_add] at *
 have ht0:t0=p:=Ht.out.symm;subst ht0;have hbx:=box4 (heap_alloc_new W (.cells #[.int .u8 k,.int .i64 n,.string s,.slice (some a) 1 c] 24));have aA:=zh (heap_alloc_new W (.cells #[.int .u8 k,.int .i64 n,.string s,.slice (some a) 1 c] 24));obtain⟨W0,hW0⟩:∃ W0,W.alloc (.cells #[.int .u8 k,.int .i64 n,.string s,.slice (some a) 1 c] 24)=W0:=⟨_,rfl⟩
 have q0:Below W.heap.size W W0:=hW0▸zkc (Below.refl _ _) _;rw[hW0] at hbx aA;have gD:=zh q0;have z0:=zb q0 y0;have z1:=zb q0 y1;have z2:=zb q0 y2;have z3:=zb q0 y3;obtain⟨⟨iv,ie⟩,hiv⟩:∃ r,indE S.look t0=r:=⟨_,rfl⟩
 have kC:=zh (zml HL.out t0 _ W0 (hn0.later q0) (h.later q0));rw[hiv] at kC;have pF:=zh (show R=zlh S k s t0 nil0 (iv,ie) (0,0) by rw[<-hR,hiv]);have oP:=zh (fun W' (hb:Below W.heap.size W W')=>zmd (h.later hb) t0.s id hid);obtain⟨x0,x1,x2,x3⟩:=hbx;have aJ:=hck.lt h.wf;have bI:=zh hck;have tN:=zh hid;clear hR hiv h hv hn0 hrow hlk hlc y0 y1 y2 y3 q0 hf hck hid;have k40:(k==40)=false:=by simp;omega
 have k41:(k==41)=false:=by simp;omega
 have k42:(k==42)=false:=by simp;omega
 have k43:(k==43)=false:=by simp;omega
 go_enter Tryz.func64,Tryz.ntmps64;go_wp2_with fail;refine kC.out.mono ?_;rintro e w1 ⟨rfl,aa⟩;have HB1:=zh (zka gD.out aa);have aB:=zh (zkb aA.out aa);have u0:=zb aa z0;have u1:=zb aa z1;have u2:=zb aa z2;have u3:=zb aa z3;have v0:=zb aa x0;have v2:=zb aa x2;have v3:=zb aa x3;clear aa z0 z1 z2 z3 x0 x1 x2 x3;dsimp only;by_cases he:ie=0
 ·subst he;have HR1:=zh (show R=znn S k s t0.s nil0.s iv (0,0) by rw[pF.out,zlh,if_neg (by simp)]);go_wp2_with fail;refine(oP.out _ HB1.out).mono ?_;rintro e w2 ⟨rfl,aj⟩;have HB2:=zh (zka HB1.out aj);have aK:=zh (zkb aB.out aj);have r0:=zb aj v0;have r2:=zb aj v2;have HS2:=zh (HS.out.later HB2.out);clear u0 u1 u2 u3 v0 v2 v3 aj;have HR2:=zh (show R=if 0<=iv/\iv<(S.cell id).length then znm S k s nil0.s 0 id iv.toNat else (12,S) by
   rw[HR1.out,znn,if_neg (by simp),tN.out])
  by_cases hr:0<=iv/\iv<((S.cell id).length:Int)
  ·obtain⟨i,rfl⟩:∃ i:Nat,iv=i:=⟨iv.toNat,by omega⟩
   have hi:i<(S.cell id).length:=by omega
   have HR3:=zh (show R=znm S k s nil0.s 0 id i by rw[HR2.out,if_pos hr];rfl);obtain⟨⟨c3,hci,hc3⟩,p0,p1⟩:=HS2.out.plc aJ hi;have w0:w2.cell? ⟨P.cb id,0,none⟩=some (.slice (some ⟨P.gI id,0,none⟩) (S.cell id).length c3):=by rw[<-hci];exact zc (HS2.out.cbox aJ) rfl
   obtain⟨m,hm⟩:∃ m,(S.cell id).length=m:=⟨_,rfl⟩
   have HM:=zh hm;rw[hm] at w0;have hi1:¬ (i:Int)<0:=by omega
   have hi2:¬ (m:Int)<=(i:Int):=by omega
   have hi3:(i:Int)<(m:Int):=by omega
   clear HR1 HR2 hr hci hc3 hm;by_cases h45:k=44\/k=45
   ·obtain⟨ah,hs1,hs2⟩:=hst h45;have hne:=bI.out.ne hs2 HS.out.wf hkp;have HR4:=zh (show R=znk S k id i ah by
     rw[HR3.out,znm,if_neg (by omega),if_neg (by omega),if_pos h45,hs1])
    have HMV:=zh (fun W' (hb:Below W.heap.size W W')=>ztW (HS.out.later hb) k h45 id i ah aJ hi hs2 hne);have HSC:=zh (fun W' (hb:Below W.heap.size W W')=>zmd (HS.out.later hb) s ah hs1);have kk:(k==44||k==45)=true:=by rcases h45 with rfl|rfl<;>rfl
    clear hs1 hs2 HR3 tN;rcases h45 with rfl|rfl
    ·skip
     go_upto_region 34 with fail;have hSS:(fun w':World=>w'.cell? ⟨W.heap.size,0,none⟩=some (.int .u8 44)/\w'.cell? ⟨W.heap.size,2,none⟩=some (.string s)) w2.drew/\(fun _:World=>True) w2.drew:=⟨⟨r0,r2⟩,trivial⟩
     refine wp_region_noPanic ?_;refine zkd (fun w':World=>w'.cell? ⟨W.heap.size,0,none⟩=some (.int .u8 44)/\w'.cell? ⟨W.heap.size,2,none⟩=some (.string s)) (fun _:World=>True) 7 (by kernel_rfl) ?_;refine zT 0 hSS ?_;(try simp only[zQ]);refine zT 1 hSS ?_;(try simp only[zQ]);refine zT 2 hSS ?_;(try simp only[zQ]);refine zT 3 hSS ?_;(try simp only[zQ]);refine zT 4 hSS ?_;(try simp only[zQ]);refine zT 5 hSS ?_;(try simp only[zQ]);have had:Calls Tryz.prog 90 [.pointer (some ⟨P.sb,0,none⟩),.string s].toArray w2.drew fun e W'=>∃ u,e=.returned u/\u=.pointer (some ⟨P.cb ah,0,none⟩)/\Below w2.drew.heap.size w2.drew W' :=
      (HSC.out _ HB2.out.drew).mono fun e W' hh=>⟨_,hh.1,rfl,hh.2⟩
     refine zo 6 fun K hK=>?_;refine zke (by rfl) (.func 90) [.tmp 138,.tmp 140] _ (by rfl) 90 _ zst (by rfl) _ (by rfl) _ had ?_;rintro v4 w4 ⟨rfl,hb4⟩;have ak:=zh (zka HB2.out.drew hb4);have t0':=zb hb4 (show w2.drew.cell? _=_ from r0);have t2':=zb hb4 (show w2.drew.cell? _=_ from r2);refine hK.out _ _ ⟨⟨t0',t2'⟩,trivial⟩ ?_;clear hK K hSS had hb4;(try simp only[zQ]);have had:Calls Tryz.prog 92 [.int .u8 44,.pointer (some ⟨P.gI id,i,none⟩),.pointer (some ⟨P.cb ah,0,none⟩)].toArray w4 fun e W'=>∃ u,e=.returned u/\u=.int .i64 R.1/\∃ P',SStp n0 P S w4 P' R.2 W'/\P'.sb=P.sb:=by
      refine(HMV.out _ ak.out).mono ?_;rintro e W' ⟨h1,h2⟩;rw[<-HR4.out] at h1 h2;exact⟨_,h1,rfl,h2⟩
     refine zp 7 fun K hK=>?_;refine zke (by rfl) (.func 92) [.tmp 136,.tmp 137,.tmp 141] _ (by rfl) 92 _ zvj (by rfl) _ (by rfl) _ had ?_;rintro v5 w5 ⟨rfl,P',hs5,uj⟩;have hno:¬ OwnB (rows P S) W.heap.size:=fun⟨q,hq⟩=>by have:=(HS.out.rws.lt q _ hq).2;omega
     have HF:=zh hs5;have HP:=zh uj;have b0:=zkU hs5.st.chg t0' hno;have b2:=zkU hs5.st.chg t2' hno;refine hK.out _ _ ⟨b0,b2⟩ ?_;clear hK K had hs5 uj;(try simp only[zQ]);refine zp 8 fun K hK=>?_;(try simp only[zA,zB,zC]);go_simp;refine hK.out _ _ ⟨b0,b2⟩ ?_;clear hK K;(try simp only[zQ]);refine zd ?_;refine NoPanic.normal ?_;go_wp2_with fail;go_ret;exact⟨rfl,P',⟨HF.out.st.after ak.out HS.out.rws,HF.out.wf⟩,HP.out⟩
    ·skip
     go_upto_region 34 with fail;have hSS:(fun w':World=>w'.cell? ⟨W.heap.size,0,none⟩=some (.int .u8 45)/\w'.cell? ⟨W.heap.size,2,none⟩=some (.string s)) w2.drew/\(fun _:World=>True) w2.drew:=⟨⟨r0,r2⟩,trivial⟩
     refine wp_region_noPanic ?_;refine zkd (fun w':World=>w'.cell? ⟨W.heap.size,0,none⟩=some (.int .u8 45)/\w'.cell? ⟨W.heap.size,2,none⟩=some (.string s)) (fun _:World=>True) 7 (by kernel_rfl) ?_;refine zT 0 hSS ?_;(try simp only[zQ]);refine zT 1 hSS ?_;(try simp only[zQ]);refine zT 2 hSS ?_;(try simp only[zQ]);refine zT 3 hSS ?_;(try simp only[zQ]);refine zT 4 hSS ?_;(try simp only[zQ]);refine zT 5 hSS ?_;(try simp only[zQ]);have had:Calls Tryz.prog 90 [.pointer (some ⟨P.sb,0,none⟩),.string s].toArray w2.drew fun e W'=>∃ u,e=.returned u/\u=.pointer (some ⟨P.cb ah,0,none⟩)/\Below w2.drew.heap.size w2.drew W' :=
      (HSC.out _ HB2.out.drew).mono fun e W' hh=>⟨_,hh.1,rfl,hh.2⟩
     refine zo 6 fun K hK=>?_;refine zke (by rfl) (.func 90) [.tmp 138,.tmp 140] _ (by rfl) 90 _ zst (by rfl) _ (by rfl) _ had ?_;rintro v4 w4 ⟨rfl,hb4⟩;have ak:=zh (zka HB2.out.drew hb4);have t0':=zb hb4 (show w2.drew.cell? _=_ from r0);have t2':=zb hb4 (show w2.drew.cell? _=_ from r2);refine hK.out _ _ ⟨⟨t0',t2'⟩,trivial⟩ ?_;clear hK K hSS had hb4;(try simp only[zQ]);have had:Calls Tryz.prog 92 [.int .u8 45,.pointer (some ⟨P.gI id,i,none⟩),.pointer (some ⟨P.cb ah,0,none⟩)].toArray w4 fun e W'=>∃ u,e=.returned u/\u=.int .i64 R.1/\∃ P',SStp n0 P S w4 P' R.2 W'/\P'.sb=P.sb:=by
      refine(HMV.out _ ak.out).mono ?_;rintro e W' ⟨h1,h2⟩;rw[<-HR4.out] at h1 h2;exact⟨_,h1,rfl,h2⟩
     refine zp 7 fun K hK=>?_;refine zke (by rfl) (.func 92) [.tmp 136,.tmp 137,.tmp 141] _ (by rfl) 92 _ zvj (by rfl) _ (by rfl) _ had ?_;rintro v5 w5 ⟨rfl,P',hs5,uj⟩;have hno:¬ OwnB (rows P S) W.heap.size:=fun⟨q,hq⟩=>by have:=(HS.out.rws.lt q _ hq).2;omega
     have HF:=zh hs5;have HP:=zh uj;have b0:=zkU hs5.st.chg t0' hno;have b2:=zkU hs5.st.chg t2' hno;refine hK.out _ _ ⟨b0,b2⟩ ?_;clear hK K had hs5 uj;(try simp only[zQ]);refine zp 8 fun K hK=>?_;(try simp only[zA,zB,zC]);go_simp;refine hK.out _ _ ⟨b0,b2⟩ ?_;clear hK K;(try simp only[zQ]);refine zd ?_;refine NoPanic.normal ?_;go_wp2_with fail;go_ret;exact⟨rfl,P',⟨HF.out.st.after ak.out HS.out.rws,HF.out.wf⟩,HP.out⟩
   ·have wu:k=46\/k=49\/k=47\/k=48:=by omega
    have k44:(k==44)=false:=by simp;omega
    have k45:(k==45)=false:=by simp;omega
    have HR4:=zh (show R=zlq S k id i by rw[HR3.out,znm,if_neg (by omega),if_neg (by omega),if_neg h45]);have wH:=zh (zpc HS2.out k wu id i aJ hi);rw[<-HR4.out] at wH;clear HR3 p0 p1;go_wp2_with fail;refine wH.out.mono ?_;rintro e w3 ⟨rfl,P',hs3,hp3⟩;have HF:=zh hs3;have HP:=zh hp3;clear hs3 hp3;go_wp2_with fail;go_ret;exact⟨rfl,P',⟨HF.out.st.after HB2.out HS.out.rws,HF.out.wf⟩,HP.out⟩
  ·have HN:=zh (show R=(12,S) by rw[HR2.out,if_neg hr]);obtain⟨A3,c3,hci,hc3,aS⟩:=HS2.out.items aJ;have w0:w2.cell? ⟨P.cb id,0,none⟩=some (.slice A3 (S.cell id).length c3):=by rw[<-hci];exact zc (HS2.out.cbox aJ) rfl
   obtain⟨m,hm⟩:∃ m,(S.cell id).length=m:=⟨_,rfl⟩
   rw[hm] at w0 hr;clear HR1 HR2 hci hc3 aS hm;by_cases hneg:iv<0
   ·go_wp2_with fail;go_ret;exact⟨by rw[HN.out];rfl,P,by rw[HN.out];exact SStp.refl HS.out HB2.out,rfl⟩
   ·have hge:(m:Int)<=iv:=by omega
    go_wp2_with fail;go_ret;exact⟨by rw[HN.out];rfl,P,by rw[HN.out];exact SStp.refl HS.out HB2.out,rfl⟩
 ·have HN:=zh (show R=(ie,S) by rw[pF.out,zlh,if_pos he]);have e1:(ie==0)=false:=by simpa using he
  have e2:(ie != 0)=true:=by simpa using he
  clear he;go_wp2_with fail;go_ret;exact⟨by rw[HN.out];rfl,P,by rw[HN.out];exact SStp.refl HS.out HB1.out,rfl⟩
theorem zub:IsFn Tryz.prog 91 Tryz.f91:=⟨Tryz.func91,by kernel_rfl,by kernel_rfl⟩
theorem zw4 (a:Addr):a.add (1*4)=⟨a.block,a.off+4,none⟩:=by unfold Addr.add;split<;>simp_all
theorem zuo {W:World} {n0:Nat} {P:Ph} {S:ST} (h:SR W n0 P S) (k n:Int) (s:ByteArray) (p q:T) (v:Value) (hv:NV W Any (.nd k n s [p,q]) v) (hk:k=40\/k=41\/k=42) (id:Nat) (hid:S.num p.s=some id) (kp:Int) (hck:CurK S id kp) :
  Calls Tryz.prog 64 #[.pointer (some ⟨P.sb,0,none⟩),v] W fun e W'=>e=.returned (.int .i64 (zlh S k s p q (indE S.look p) (zlz S.look q)).1)/\∃ P',SStp n0 P S W P' (zlh S k s p q (indE S.look p) (zlz S.look q)).2 W'/\P'.sb=P.sb:=by
 obtain⟨A,c,rfl,hf,hlk,hlc,hrow⟩:=hv.open_;simp only[T.k_nd,T.n_nd,T.s_nd,T.ks_nd] at *
 obtain⟨R,hR⟩:∃ R,zlh S k s p q (indE S.look p) (zlz S.look q)=R:=⟨_,rfl⟩
 rw[hR];have HRR:=zh hR;have HS:=zh h;have HL:=zh (zsa n0 P S h.wf);obtain⟨a,t0,A2,c2,rfl,_,Ht,h4,hn0⟩:=hrow.nd (i:=0) (by simp);obtain⟨a',t1,A3,c3,ea,_,Hu,h5,hn1⟩:=hrow.nd (i:=1) (by simp);injection ea with ea;subst ea;have ha:a.add (1*4)=⟨a.block,a.off+4,none⟩:=zw4 a;rw[ha] at h5;have ht0:t0=p:=Ht.out.symm;subst ht0;have ht1:t1=q:=Hu.out.symm;subst ht1;simp only[Nat.zero_mul,Nat.one_mul,Addr.add_zero',List.length_cons,List.length_nil,Nat.zero_add,Nat.reduceAdd] at *
 have hbx:=box4 (heap_alloc_new W (.cells #[.int .u8 k,.int .i64 n,.string s,.slice (some a) 2 c] 24));have aA:=zh (heap_alloc_new W (.cells #[.int .u8 k,.int .i64 n,.string s,.slice (some a) 2 c] 24));obtain⟨W0,hW0⟩:∃ W0,W.alloc (.cells #[.int .u8 k,.int .i64 n,.string s,.slice (some a) 2 c] 24)=W0:=⟨_,rfl⟩
 have q0:Below W.heap.size W W0:=hW0▸zkc (Below.refl _ _) _;rw[hW0] at hbx aA;have gD:=zh q0;have H4:=zh h4;have H5:=zh h5;have g4:=zmZ q0 h4;obtain⟨z0,z1,z2,z3⟩:=g4;obtain⟨⟨iv,ie⟩,hiv⟩:∃ r,indE S.look t0=r:=⟨_,rfl⟩
 obtain⟨⟨jv,je⟩,hjv⟩:∃ r,zlz S.look t1=r:=⟨_,rfl⟩
 have kC:=zh (zml HL.out t0 _ W0 (hn0.later q0) (h.later q0));rw[hiv] at kC;have yh:=zh (show ∀ W',Below W.heap.size W W'->Calls Tryz.prog 29 #[nv t1.k t1.n t1.s A3 t1.ks.length c3,.func (.func 68) #[.pointer (some ⟨P.sb,0,none⟩)] #[]] W' (NumE (jv,je) W') from fun W' hb=>hjv▸znx HL.out t1 _ W' (hn1.later hb) (h.later hb));have pF:=zh (show R=zlh S k s t0 t1 (iv,ie) (jv,je) by rw[<-hR,hiv,hjv]);have oP:=zh (fun W' (hb:Below W.heap.size W W')=>zmd (h.later hb) t0.s id hid);obtain⟨x0,x1,x2,x3⟩:=hbx;have aJ:=hck.lt h.wf;have tN:=zh hid;clear hR hiv hjv hv hn0 hn1 hrow hlk hlc q0 hf hck hid h4 h5;clear h;have k43:(k==43)=false:=by simp;omega
 obtain⟨kk,hkk⟩:∃ x,x=k:=⟨_,rfl⟩
 have xO:=zh (fun x w=>zrj kk x jv (hkk▸hk) w);go_enter Tryz.func64,Tryz.ntmps64;go_wp2_with fail;refine kC.out.mono ?_;rintro e w1 ⟨rfl,aa⟩;have HB1:=zh (zka gD.out aa);have aB:=zh (zkb aA.out aa);have v0:=zb aa x0;have v3:=zb aa x3;obtain⟨y0,y1,y2,y3⟩:=zmZ HB1.out H5.out;clear aa z0 z1 z2 z3 x0 x1 x2 x3;dsimp only;by_cases he:ie=0
 ·subst he;have HR1:=zh (show R=znn S k s t0.s t1.s iv (jv,je) by rw[pF.out,zlh,if_neg (by simp)]);rcases hk with rfl|rfl|rfl
  all_goals
    go_wp2_with fail;refine(yh.out _ HB1.out).mono ?_;rintro e w2 ⟨rfl,aj⟩;have HB2:=zh (zka HB1.out aj);have aK:=zh (zkb aB.out aj);have r0:=zb aj v0;have r3:=zb aj v3;obtain⟨z0,z1,z2,z3⟩:=zmZ HB2.out H4.out;clear aj y0 y1 y2 y3 v0 v3;dsimp only;by_cases lu:je=0
    ·subst lu;go_wp2_with fail;refine(oP.out _ HB2.out).mono ?_;rintro e w3 ⟨rfl,bP⟩;have HB3:=zh (zka HB2.out bP);have Hkk:=zh (zkb aK.out bP);have s0:=zb bP r0;have s3:=zb bP r3;have HS2:=zh (HS.out.later HB3.out);clear r0 r3 bP z0 z1 z2 z3;have HR2:=zh (show R=if 0<=iv/\iv<(S.cell id).length then znm S kk s t1.s jv id iv.toNat else (12,S) by
      rw[HR1.out,znn,if_neg (by simp),tN.out,hkk])
     by_cases hr:0<=iv/\iv<((S.cell id).length:Int)
     ·obtain⟨i,rfl⟩:∃ i:Nat,iv=i:=⟨iv.toNat,by omega⟩
      have hi:i<(S.cell id).length:=by omega
      have HR3:=zh (show R=(0,S.put id i (updE kk (S.el id i) jv)) by rw[HR2.out,if_pos hr,znm,if_pos (by omega)];rfl);obtain⟨⟨c4,hci,hc4⟩,p0,p1⟩:=HS2.out.plc aJ hi;have w0:w3.cell? ⟨P.cb id,0,none⟩=some (.slice (some ⟨P.gI id,0,none⟩) (S.cell id).length c4):=by rw[<-hci];exact zc (HS2.out.cbox aJ) rfl
      have lY:=zh (fun W' (hb:Below W.heap.size W W')=>(HS.out.later hb).put aJ hi (updE kk (S.el id i) jv) (zvy _ _ _));obtain⟨x,hx⟩:∃ x,S.el id i=x:=⟨_,rfl⟩
      rw[hx] at p0 HR3 lY;obtain⟨m,hm⟩:∃ m,(S.cell id).length=m:=⟨_,rfl⟩
      rw[hm] at w0;have hi1:¬ (i:Int)<0:=by omega
      have hi2:¬ (m:Int)<=(i:Int):=by omega
      have hi3:(i:Int)<(m:Int):=by omega
      clear HR1 HR2 hr hci hc4 hm hx;obtain⟨U,hU⟩:∃ U,updE kk x jv=U:=⟨_,rfl⟩
      rw[hU] at HR3 lY;have HUU:=zh (hU▸xO.out x);clear hU;have s0':w3.cell? ⟨W.heap.size,0,none⟩=some (.int .u8 kk):=by rw[hkk];exact s0
      clear hkk;go_upto_region 22 with fail;have hSS:(fun w':World=>w'.cell? ⟨W.heap.size,0,none⟩=some (.int .u8 kk)/\w'.cell? ⟨P.gI id,i,none⟩=some (.int .i64 x)) w3.drew/\(fun _:World=>True) w3.drew:=⟨⟨s0',p0⟩,trivial⟩
      refine wp_region_noPanic ?_;refine zkd (fun w':World=>w'.cell? ⟨W.heap.size,0,none⟩=some (.int .u8 kk)/\w'.cell? ⟨P.gI id,i,none⟩=some (.int .i64 x)) (fun _:World=>True) 11 (by kernel_rfl) ?_;refine zT 0 hSS ?_;(try simp only[zQ]);refine zT 1 hSS ?_;(try simp only[zQ]);refine zT 2 hSS ?_;(try simp only[zQ]);refine zT 3 hSS ?_;(try simp only[zQ]);refine zT 4 hSS ?_;(try simp only[zQ]);refine zT 5 hSS ?_;(try simp only[zQ]);have had:Calls Tryz.prog 91 [.int .u8 kk,.int .i64 x,.int .i64 jv].toArray w3.drew fun e W'=>∃ u,e=.returned u/\u=.tuple #[.int .i64 U,.int .i64 0]/\W'=w3.drew :=
       (HUU.out w3.drew).mono fun e W' hh=>⟨_,hh.1,rfl,hh.2⟩
      refine zo 6 fun K hK=>?_;refine zke (by rfl) (.func 91) [.tmp 86,.tmp 89,.tmp 90] _ (by rfl) 91 _ zub (by rfl) _ (by rfl) _ had ?_;rintro v4 w4 ⟨rfl,rfl⟩;refine hK.out _ _ hSS ?_;clear hK K had;(try simp only[zQ]);refine zT 7 hSS ?_;(try simp only[zQ]);refine zT 8 hSS ?_;(try simp only[zQ]);refine zT 9 hSS ?_;(try simp only[zQ]);refine zT 10 hSS ?_;(try simp only[zQ]);refine zp 11 fun K hK=>?_;(try simp only[zA,zB,zC]);go_simp;refine hK.out _ _ hSS.1 ?_;clear hK K hSS;(try simp only[zQ]);refine zd ?_;refine NoPanic.normal ?_;go_wp2_with fail;go_ret;refine⟨by rw[HR3.out];rfl,P,?_,rfl⟩;rw[HR3.out];have:=lY.out _ HB3.out.drew;exact⟨this.st.after HB3.out.drew HS.out.rws,this.wf⟩
     ·skip
      have HN:=zh (show R=(12,S) by rw[HR2.out,if_neg hr]);obtain⟨A3,c3,hci,hc3,aS⟩:=HS2.out.items aJ;have w0:w3.cell? ⟨P.cb id,0,none⟩=some (.slice A3 (S.cell id).length c3):=by rw[<-hci];exact zc (HS2.out.cbox aJ) rfl
      obtain⟨m,hm⟩:∃ m,(S.cell id).length=m:=⟨_,rfl⟩
      rw[hm] at w0 hr;clear HR2 hci hc3 aS hm;by_cases hneg:iv<0
      ·go_wp2_with fail;go_ret;exact⟨by rw[HN.out];rfl,P,by rw[HN.out];exact SStp.refl HS.out HB3.out,rfl⟩
      ·have hge:(m:Int)<=iv:=by omega
       go_wp2_with fail;go_ret;exact⟨by rw[HN.out];rfl,P,by rw[HN.out];exact SStp.refl HS.out HB3.out,rfl⟩
    ·skip
     have HN:=zh (show R=(je,S) by rw[HR1.out,znn,if_pos lu]);have e1:(je==0)=false:=by simpa using lu
     have e2:(je != 0)=true:=by simpa using lu
     clear lu;go_wp2_with fail;go_ret;exact⟨by rw[HN.out];rfl,P,by rw[HN.out];exact SStp.refl HS.out HB2.out,rfl⟩
 ·skip
  have HN:=zh (show R=(ie,S) by rw[pF.out,zlh,if_pos he]);have e1:(ie==0)=false:=by simpa using he
  have e2:(ie != 0)=true:=by simpa using he
  clear he;go_wp2_with fail;go_ret;exact⟨by rw[HN.out];rfl,P,by rw[HN.out];exact SStp.refl HS.out HB1.out,rfl⟩
theorem zsB {W:World} {n0:Nat} {P:Ph} {S:ST} (h:SR W n0 P S) (k n:Int) (s:ByteArray) (p q:T) (v:Value) (hv:NV W Any (.nd k n s [p,q]) v) (hk:k=43) (id:Nat) (hid:S.num p.s=some id) (kp:Int) (hck:CurK S id kp) (jd:Nat) (hjd:S.num q.s=some jd) (kq:Int) (hcq:CurK S jd kq) :
  Calls Tryz.prog 64 #[.pointer (some ⟨P.sb,0,none⟩),v] W fun e W'=>e=.returned (.int .i64 (zlh S k s p q (indE S.look p) (indE S.look q)).1)/\∃ P',SStp n0 P S W P' (zlh S k s p q (indE S.look p) (indE S.look q)).2 W'/\P'.sb=P.sb:=by
 obtain⟨A,c,rfl,hf,hlk,hlc,hrow⟩:=hv.open_;simp only[T.k_nd,T.n_nd,T.s_nd,T.ks_nd] at *
 obtain⟨R,hR⟩:∃ R,zlh S k s p q (indE S.look p) (indE S.look q)=R:=⟨_,rfl⟩
 rw[hR];have HRR:=zh hR;have HS:=zh h;have HL:=zh (zsa n0 P S h.wf);obtain⟨a,t0,A2,c2,rfl,_,Ht,h4,hn0⟩:=hrow.nd (i:=0) (by simp);obtain⟨a',t1,A3,c3,ea,_,Hu,h5,hn1⟩:=hrow.nd (i:=1) (by simp);injection ea with ea;subst ea;have ha:a.add (1*4)=⟨a.block,a.off+4,none⟩:=zw4 a;rw[ha] at h5;have ht0:t0=p:=Ht.out.symm;subst ht0;have ht1:t1=q:=Hu.out.symm;subst ht1;simp only[Nat.zero_mul,Nat.one_mul,Addr.add_zero',List.length_cons,List.length_nil,Nat.zero_add,Nat.reduceAdd] at *
 have hbx:=box4 (heap_alloc_new W (.cells #[.int .u8 k,.int .i64 n,.string s,.slice (some a) 2 c] 24));have aA:=zh (heap_alloc_new W (.cells #[.int .u8 k,.int .i64 n,.string s,.slice (some a) 2 c] 24));obtain⟨W0,hW0⟩:∃ W0,W.alloc (.cells #[.int .u8 k,.int .i64 n,.string s,.slice (some a) 2 c] 24)=W0:=⟨_,rfl⟩
 have q0:Below W.heap.size W W0:=hW0▸zkc (Below.refl _ _) _;rw[hW0] at hbx aA;have gD:=zh q0;have H4:=zh h4;have H5:=zh h5;have g4:=zmZ q0 h4;obtain⟨z0,z1,z2,z3⟩:=g4;obtain⟨⟨iv,ie⟩,hiv⟩:∃ r,indE S.look t0=r:=⟨_,rfl⟩
 obtain⟨⟨jv,je⟩,hjv⟩:∃ r,indE S.look t1=r:=⟨_,rfl⟩
 have kC:=zh (zml HL.out t0 _ W0 (hn0.later q0) (h.later q0));rw[hiv] at kC;have yh:=zh (show ∀ W',Below W.heap.size W W'->Calls Tryz.prog 31 #[nv t1.k t1.n t1.s A3 t1.ks.length c3,.func (.func 68) #[.pointer (some ⟨P.sb,0,none⟩)] #[]] W' (NumE (jv,je) W') from fun W' hb=>hjv▸zml HL.out t1 _ W' (hn1.later hb) (h.later hb));have pF:=zh (show R=zlh S k s t0 t1 (iv,ie) (jv,je) by rw[<-hR,hiv,hjv]);have oP:=zh (fun W' (hb:Below W.heap.size W W')=>zmd (h.later hb) t0.s id hid);obtain⟨x0,x1,x2,x3⟩:=hbx;have aJ:=hck.lt h.wf;have tN:=zh hid;clear hR hiv hjv hv hn0 hn1 hrow hlk hlc q0 hf hck hid h4 h5;have iY:=hcq.lt h.wf;have HCQ:=zh (fun W' (hb:Below W.heap.size W W')=>zmd (h.later hb) t1.s jd hjd);have HJD:=zh hjd;subst hk;clear h hcq hjd;go_enter Tryz.func64,Tryz.ntmps64;go_wp2_with fail;refine kC.out.mono ?_;rintro e w1 ⟨rfl,aa⟩
 have HB1:=zh (zka gD.out aa);have aB:=zh (zkb aA.out aa);have v0:=zb aa x0;have v3:=zb aa x3;obtain⟨y0,y1,y2,y3⟩:=zmZ HB1.out H5.out;clear aa z0 z1 z2 z3 x0 x1 x2 x3;dsimp only;by_cases he:ie=0
 ·subst he;have HR1:=zh (show R=znn S 43 s t0.s t1.s iv (jv,je) by rw[pF.out,zlh,if_neg (by simp)]);go_wp2_with fail;refine(yh.out _ HB1.out).mono ?_;rintro e w2 ⟨rfl,aj⟩;have HB2:=zh (zka HB1.out aj);have aK:=zh (zkb aB.out aj);have r0:=zb aj v0;have r3:=zb aj v3;obtain⟨z0,z1,z2,z3⟩:=zmZ HB2.out H4.out;clear aj y0 y1 y2 y3 v0 v3;dsimp only;by_cases lu:je=0
  ·subst lu;go_wp2_with fail;refine(oP.out _ HB2.out).mono ?_;rintro e w3 ⟨rfl,bP⟩;have HB3:=zh (zka HB2.out bP);have H43:=zh (zkb aK.out bP);have s0:=zb bP r0;have s3:=zb bP r3;have HS2:=zh (HS.out.later HB3.out);clear r0 r3 bP z0 z1 z2 z3;have HR2:=zh (show R=if 0<=iv/\iv<(S.cell id).length then znm S 43 s t1.s jv id iv.toNat else (12,S) by
    rw[HR1.out,znn,if_neg (by simp),tN.out])
   by_cases hr:0<=iv/\iv<((S.cell id).length:Int)
   ·obtain⟨i,rfl⟩:∃ i:Nat,iv=i:=⟨iv.toNat,by omega⟩
    have hi:i<(S.cell id).length:=by omega
    have HR3:=zh (show R=if 0<=jv/\jv<(S.cell jd).length then (0,ztB S id i jd jv.toNat) else (12,S) by
     rw[HR2.out,if_pos hr,znm,if_neg (by decide),if_pos rfl,HJD.out];rfl)
    obtain⟨⟨c4,hci,hc4⟩,p0,p1⟩:=HS2.out.plc aJ hi;have w0:w3.cell? ⟨P.cb id,0,none⟩=some (.slice (some ⟨P.gI id,0,none⟩) (S.cell id).length c4):=by rw[<-hci];exact zc (HS2.out.cbox aJ) rfl
    obtain⟨m,hm⟩:∃ m,(S.cell id).length=m:=⟨_,rfl⟩
    rw[hm] at w0;have hi1:¬ (i:Int)<0:=by omega
    have hi2:¬ (m:Int)<=(i:Int):=by omega
    have hi3:(i:Int)<(m:Int):=by omega
    obtain⟨y0,y1,y2,y3⟩:=zmZ HB3.out H5.out;clear HR1 HR2 hr hci hc4 hm p0 p1;go_wp2_with fail;refine(HCQ.out _ HB3.out).mono ?_;rintro e w4 ⟨rfl,uL⟩;have ak:=zh (zka HB3.out uL);have iI:=zh (HS.out.later ak.out);clear uL y0 y1 y2 y3 w0;by_cases hr2:0<=jv/\jv<((S.cell jd).length:Int)
    ·obtain⟨j,rfl⟩:∃ j:Nat,jv=j:=⟨jv.toNat,by omega⟩
     have hj:j<(S.cell jd).length:=by omega
     have HR4:=zh (show R=(0,ztB S id i jd j) by rw[HR3.out,if_pos hr2];rfl);obtain⟨-,p0,p1⟩:=iI.out.plc aJ hi;obtain⟨⟨c5,hcj,di⟩,q0,q1⟩:=iI.out.plc iY hj;have w5:w4.cell? ⟨P.cb jd,0,none⟩=some (.slice (some ⟨P.gI jd,0,none⟩) (S.cell jd).length c5):=by rw[<-hcj];exact zc (iI.out.cbox iY) rfl
     have s1:=(iI.out.later (Below.refl _ _).drew).put aJ hi (S.el jd j) (zpu HS.out.wf iY j);have hj':j<((S.put id i (S.el jd j)).cell jd).length:=by
      simp only[ST.put,ST.setL]
      split
      ·next e=>rw[List.length_set,<-e];exact hj
      ·exact hj
     obtain⟨-,g0,g1⟩:=s1.sr.plc (id:=jd) (i:=j) iY hj';have s2:=s1.sr.put (id:=jd) (i:=j) iY hj' (S.el id i) (zpu HS.out.wf aJ i);have aC:=zh (s1.trans s2);obtain⟨xi,hxi⟩:∃ x,S.el id i=x:=⟨_,rfl⟩
     obtain⟨xj,hxj⟩:∃ x,S.el jd j=x:=⟨_,rfl⟩
     rw[hxi] at p0 aC;rw[hxj] at q0 g0 g1 aC;have lW:=zh (show R=(0,(S.put id i xj).put jd j xi) by rw[HR4.out,ztB,hxi,hxj]);obtain⟨y,hy⟩:∃ y,(S.put id i xj).el jd j=y:=⟨_,rfl⟩
     rw[hy] at g0;obtain⟨m2,hm2⟩:∃ m,(S.cell jd).length=m:=⟨_,rfl⟩
     rw[hm2] at w5;have hj1:¬ (j:Int)<0:=by omega
     have hj2:¬ (m2:Int)<=(j:Int):=by omega
     have mO:(j:Int)<(m2:Int):=by omega
     clear HR3 HR4 hr2 hcj di hm2 s1 s2 hxi hxj hy;go_upto_region 30 with fail;have hSS:(fun _:World=>True) w4.drew/\(fun w':World=>w'.cell? ⟨P.gI id,i,none⟩=some (.int .i64 xi)/\w'.cell? ⟨P.gI jd,j,none⟩=some (.int .i64 xj)) w4.drew:=⟨trivial,p0,q0⟩
     refine wp_region_noPanic ?_;refine zkd (fun _:World=>True) (fun w':World=>w'.cell? ⟨P.gI id,i,none⟩=some (.int .i64 xi)/\w'.cell? ⟨P.gI jd,j,none⟩=some (.int .i64 xj)) 11 (by kernel_rfl) ?_;refine zT 0 hSS ?_;(try simp only[zQ]);refine zT 1 hSS ?_;(try simp only[zQ]);refine zT 2 hSS ?_;(try simp only[zQ]);refine zT 3 hSS ?_;(try simp only[zQ]);refine zT 4 hSS ?_;(try simp only[zQ]);refine zT 5 hSS ?_;(try simp only[zQ]);refine zkN (i:=6) (v:=?_) rfl (by kernel_rfl) (by kernel_rfl) (by kernel_rfl) (by decide) rfl (by kernel_rfl) (by kernel_rfl) (fun _ _ _ h=>h) (Or.inl ⟨by rfl,?_⟩) hSS ?_;rotate_left 1
     ·(intro w hSw;(try dsimp only at hSw);(try simp only[zA,zB,zC]);go_simp;(try with_reducible rfl))
     (try simp only[zQ]);refine zT 7 hSS ?_;(try simp only[zQ]);refine zT 8 hSS ?_;(try simp only[zQ]);refine zkN (i:=9) (v:=?_) rfl (by kernel_rfl) (by kernel_rfl) (by kernel_rfl) (by decide) rfl (by kernel_rfl) (by kernel_rfl) (fun _ _ _ h=>h) (Or.inl ⟨by rfl,?_⟩) hSS ?_;rotate_left 1
     ·(intro w hSw;(try dsimp only at hSw);(try simp only[zA,zB,zC]);go_simp;(try with_reducible rfl))
     (try simp only[zQ]);refine zo 10 fun K hK=>?_;(try simp only[zA,zB,zC]);go_simp;refine hK.out _ _ hSS ?_;clear hK K;(try simp only[zQ]);refine zp 11 fun K hK=>?_;(try simp only[zA,zB,zC]);have p1':w4.drew.frozen? ⟨P.gI id,i,none⟩=false:=p1;have p0':w4.drew.cell? ⟨P.gI id,i,none⟩=some (.int .i64 xi):=p0;go_simp;refine hK.out _ _ trivial ?_;clear hK K hSS;(try simp only[zQ]);have g0':(w4.setCell ⟨P.gI id,i,none⟩ (.int .i64 xj)).cell? ⟨P.gI jd,j,none⟩=some (.int .i64 y):=g0;have g1':(w4.setCell ⟨P.gI id,i,none⟩ (.int .i64 xj)).frozen? ⟨P.gI jd,j,none⟩=false:=g1;refine zp 12 fun K hK=>?_;(try simp only[zA,zB,zC]);go_simp;refine hK.out _ _ trivial ?_;clear hK K;(try simp only[zQ]);refine zp 13 fun K hK=>?_;(try simp only[zA,zB,zC]);go_simp;refine hK.out _ _ trivial ?_;clear hK K;(try simp only[zQ]);refine zd ?_;refine NoPanic.normal ?_;clear p0 p1 p0' p1' q0 q1 g0 g1 g0' g1'
     go_wp2_with fail;go_ret;refine⟨by rw[lW.out];rfl,P,?_,rfl⟩;rw[lW.out];exact⟨aC.out.st.after ak.out.drew HS.out.rws,aC.out.wf⟩
    ·have HN:=zh (show R=(12,S) by rw[HR3.out,if_neg hr2]);obtain⟨A5,c5,hcj,di,hrj⟩:=iI.out.items iY;have w5:w4.cell? ⟨P.cb jd,0,none⟩=some (.slice A5 (S.cell jd).length c5):=by rw[<-hcj];exact zc (iI.out.cbox iY) rfl
     obtain⟨m2,hm2⟩:∃ m,(S.cell jd).length=m:=⟨_,rfl⟩
     rw[hm2] at w5 hr2;clear HR3 hcj di hrj hm2;by_cases hneg:jv<0
     ·go_wp2_with fail;go_ret;exact⟨by rw[HN.out];rfl,P,by rw[HN.out];exact SStp.refl HS.out ak.out,rfl⟩
     ·have hge:(m2:Int)<=jv:=by omega
      go_wp2_with fail;go_ret;exact⟨by rw[HN.out];rfl,P,by rw[HN.out];exact SStp.refl HS.out ak.out,rfl⟩
   ·skip
    have HN:=zh (show R=(12,S) by rw[HR2.out,if_neg hr]);obtain⟨A3,c3,hci,hc3,aS⟩:=HS2.out.items aJ;have w0:w3.cell? ⟨P.cb id,0,none⟩=some (.slice A3 (S.cell id).length c3):=by rw[<-hci];exact zc (HS2.out.cbox aJ) rfl
    obtain⟨m,hm⟩:∃ m,(S.cell id).length=m:=⟨_,rfl⟩
    rw[hm] at w0 hr;clear HR2 hci hc3 aS hm;by_cases hneg:iv<0
    ·go_wp2_with fail;go_ret;exact⟨by rw[HN.out];rfl,P,by rw[HN.out];exact SStp.refl HS.out HB3.out,rfl⟩
    ·have hge:(m:Int)<=iv:=by omega
     go_wp2_with fail;go_ret;exact⟨by rw[HN.out];rfl,P,by rw[HN.out];exact SStp.refl HS.out HB3.out,rfl⟩
  ·skip
   have HN:=zh (show R=(je,S) by rw[HR1.out,znn,if_pos lu]);have e1:(je==0)=false:=by simpa using lu
   have e2:(je != 0)=true:=by simpa using lu
   clear lu;go_wp2_with fail;go_ret;exact⟨by rw[HN.out];rfl,P,by rw[HN.out];exact SStp.refl HS.out HB2.out,rfl⟩
 ·skip
  have HN:=zh (show R=(ie,S) by rw[pF.out,zlh,if_pos he]);have e1:(ie==0)=false:=by simpa using he
  have e2:(ie != 0)=true:=by simpa using he
  clear he;go_wp2_with fail;go_ret;exact⟨by rw[HN.out];rfl,P,by rw[HN.out];exact SStp.refl HS.out HB1.out,rfl⟩
end Go.Proofs.YtghbhbdnkjjnnaaGreat
namespace Go.Proofs.YtghbhbdnkjjnnaaGreat
open Go.RowKit
def zlO (t:T):Prop:=∀ (v:Value) (w:World),NV w Any t v->Calls Tryz.prog 25 #[v] w fun e w'=>e=.returned (.bool (isS t))/\Below w.heap.size w w'
def zlg (t:T):Prop:=∀ (v:Value) (w:World),NV w Any t v->Calls Tryz.prog 58 #[v] w fun e w'=>e=.returned (.bool (isB t))/\Below w.heap.size w w'
theorem ztm (n:Int) (s:ByteArray) (ks:List T) (aL:∀ t∈ks,zlg t):zlO (.nd 40 n s ks):=by
 intro v w hv;have HX:=zh (show isS (.nd 40 n s ks)=(zkn n s&&zkG 2 (fun i=>if i=0 then isP else isE) ks) by simp[isS]);have IH:=zh aL;have HV:=zh hv;obtain⟨Ad,c,rfl,hf,hlk,hlc,hrow⟩:=hv.open_;simp only[T.k_nd,T.n_nd,T.s_nd,T.ks_nd] at *
 have az:=zkK hlk;clear hf hv hlk hrow hlc aL;by_cases hnb:zkn n s=true
 ·go_enter Tryz.func25,Tryz.ntmps25;go_wp2_with fail;refine(zkm _ _ _ _ _ _ _).mono ?_;rintro e w1 ⟨rfl,hb1⟩;obtain⟨hc1,hf1⟩:=zlo hb1;have hbb:Below w.heap.size w w1:=((Below.refl _ _).alloc (Nat.le_refl _) _).trans (hb1.mono (by simp));go_wp2_with fail;refine(zkO (.nd 40 n s ks) _ _ (HV.out.later (hbb.alloc hbb.size _)) _ 2 (fun i=>if i=0 then 53 else 54) (fun i=>if i=0 then Tryz.f53 else Tryz.f54) (fun i=>if i=0 then isP else isE) (by decide) (by simp) (fun i hi=>zl7 (by rcases i with _|_|_|_|i<;>first|omega|rfl)) (fun i hi=>by rcases i with _|i;exact zkY;exact zkV) (fun hl i hi=>by rcases i with _|i;exact zkM _;exact zkL _)).mono ?_;rintro e w2 ⟨rfl,hb2⟩;have hbc:Below w.heap.size w w2:=(hbb.alloc hbb.size _).trans (hb2.mono (by have:=hbb.size;simp;omega));go_wp2_with fail;go_ret;exact⟨by rw[HX.out];simp[*],hbc⟩
 ·have hnb':zkn n s=false:=by simpa using hnb
  clear hnb;go_enter Tryz.func25,Tryz.ntmps25;go_wp2_with fail;refine(zkm _ _ _ _ _ _ _).mono ?_;rintro e w1 ⟨rfl,hb1⟩;have hbb:Below w.heap.size w w1:=((Below.refl _ _).alloc (Nat.le_refl _) _).trans (hb1.mono (by simp));go_wp2_with fail;go_ret;exact⟨by rw[HX.out];simp[*],hbb⟩
theorem ztl (n:Int) (s:ByteArray) (ks:List T) (aL:∀ t∈ks,zlg t):zlO (.nd 41 n s ks):=by
 intro v w hv;have HX:=zh (show isS (.nd 41 n s ks)=(zkn n s&&zkG 2 (fun i=>if i=0 then isP else isE) ks) by simp[isS]);have IH:=zh aL;have HV:=zh hv;obtain⟨Ad,c,rfl,hf,hlk,hlc,hrow⟩:=hv.open_;simp only[T.k_nd,T.n_nd,T.s_nd,T.ks_nd] at *
 have az:=zkK hlk;clear hf hv hlk hrow hlc aL;by_cases hnb:zkn n s=true
 ·go_enter Tryz.func25,Tryz.ntmps25;go_wp2_with fail;refine(zkm _ _ _ _ _ _ _).mono ?_;rintro e w1 ⟨rfl,hb1⟩;obtain⟨hc1,hf1⟩:=zlo hb1;have hbb:Below w.heap.size w w1:=((Below.refl _ _).alloc (Nat.le_refl _) _).trans (hb1.mono (by simp));go_wp2_with fail;refine(zkO (.nd 41 n s ks) _ _ (HV.out.later (hbb.alloc hbb.size _)) _ 2 (fun i=>if i=0 then 53 else 54) (fun i=>if i=0 then Tryz.f53 else Tryz.f54) (fun i=>if i=0 then isP else isE) (by decide) (by simp) (fun i hi=>zl7 (by rcases i with _|_|_|_|i<;>first|omega|rfl)) (fun i hi=>by rcases i with _|i;exact zkY;exact zkV) (fun hl i hi=>by rcases i with _|i;exact zkM _;exact zkL _)).mono ?_;rintro e w2 ⟨rfl,hb2⟩;have hbc:Below w.heap.size w w2:=(hbb.alloc hbb.size _).trans (hb2.mono (by have:=hbb.size;simp;omega));go_wp2_with fail;go_ret;exact⟨by rw[HX.out];simp[*],hbc⟩
 ·have hnb':zkn n s=false:=by simpa using hnb
  clear hnb;go_enter Tryz.func25,Tryz.ntmps25;go_wp2_with fail;refine(zkm _ _ _ _ _ _ _).mono ?_;rintro e w1 ⟨rfl,hb1⟩;have hbb:Below w.heap.size w w1:=((Below.refl _ _).alloc (Nat.le_refl _) _).trans (hb1.mono (by simp));go_wp2_with fail;go_ret;exact⟨by rw[HX.out];simp[*],hbb⟩
theorem ztk (n:Int) (s:ByteArray) (ks:List T) (aL:∀ t∈ks,zlg t):zlO (.nd 42 n s ks):=by
 intro v w hv;have HX:=zh (show isS (.nd 42 n s ks)=(zkn n s&&zkG 2 (fun i=>if i=0 then isP else isE) ks) by simp[isS]);have IH:=zh aL;have HV:=zh hv;obtain⟨Ad,c,rfl,hf,hlk,hlc,hrow⟩:=hv.open_;simp only[T.k_nd,T.n_nd,T.s_nd,T.ks_nd] at *
 have az:=zkK hlk;clear hf hv hlk hrow hlc aL;by_cases hnb:zkn n s=true
 ·go_enter Tryz.func25,Tryz.ntmps25;go_wp2_with fail;refine(zkm _ _ _ _ _ _ _).mono ?_;rintro e w1 ⟨rfl,hb1⟩;obtain⟨hc1,hf1⟩:=zlo hb1;have hbb:Below w.heap.size w w1:=((Below.refl _ _).alloc (Nat.le_refl _) _).trans (hb1.mono (by simp));go_wp2_with fail;refine(zkO (.nd 42 n s ks) _ _ (HV.out.later (hbb.alloc hbb.size _)) _ 2 (fun i=>if i=0 then 53 else 54) (fun i=>if i=0 then Tryz.f53 else Tryz.f54) (fun i=>if i=0 then isP else isE) (by decide) (by simp) (fun i hi=>zl7 (by rcases i with _|_|_|_|i<;>first|omega|rfl)) (fun i hi=>by rcases i with _|i;exact zkY;exact zkV) (fun hl i hi=>by rcases i with _|i;exact zkM _;exact zkL _)).mono ?_;rintro e w2 ⟨rfl,hb2⟩;have hbc:Below w.heap.size w w2:=(hbb.alloc hbb.size _).trans (hb2.mono (by have:=hbb.size;simp;omega));go_wp2_with fail;go_ret;exact⟨by rw[HX.out];simp[*],hbc⟩
 ·have hnb':zkn n s=false:=by simpa using hnb
  clear hnb;go_enter Tryz.func25,Tryz.ntmps25;go_wp2_with fail;refine(zkm _ _ _ _ _ _ _).mono ?_;rintro e w1 ⟨rfl,hb1⟩;have hbb:Below w.heap.size w w1:=((Below.refl _ _).alloc (Nat.le_refl _) _).trans (hb1.mono (by simp));go_wp2_with fail;go_ret;exact⟨by rw[HX.out];simp[*],hbb⟩
theorem zs6 (n:Int) (s:ByteArray) (ks:List T) (aL:∀ t∈ks,zlg t):zlO (.nd 56 n s ks):=by
 intro v w hv;have HX:=zh (show isS (.nd 56 n s ks)=(zkn n s&&zkG 2 (fun i=>if i=0 then isP else isE) ks) by simp[isS]);have IH:=zh aL;have HV:=zh hv;obtain⟨Ad,c,rfl,hf,hlk,hlc,hrow⟩:=hv.open_;simp only[T.k_nd,T.n_nd,T.s_nd,T.ks_nd] at *
 have az:=zkK hlk;clear hf hv hlk hrow hlc aL;by_cases hnb:zkn n s=true
 ·go_enter Tryz.func25,Tryz.ntmps25;go_wp2_with fail;refine(zkm _ _ _ _ _ _ _).mono ?_;rintro e w1 ⟨rfl,hb1⟩;obtain⟨hc1,hf1⟩:=zlo hb1;have hbb:Below w.heap.size w w1:=((Below.refl _ _).alloc (Nat.le_refl _) _).trans (hb1.mono (by simp));go_wp2_with fail;refine(zkO (.nd 56 n s ks) _ _ (HV.out.later (hbb.alloc hbb.size _)) _ 2 (fun i=>if i=0 then 53 else 54) (fun i=>if i=0 then Tryz.f53 else Tryz.f54) (fun i=>if i=0 then isP else isE) (by decide) (by simp) (fun i hi=>zl7 (by rcases i with _|_|_|_|i<;>first|omega|rfl)) (fun i hi=>by rcases i with _|i;exact zkY;exact zkV) (fun hl i hi=>by rcases i with _|i;exact zkM _;exact zkL _)).mono ?_;rintro e w2 ⟨rfl,hb2⟩;have hbc:Below w.heap.size w w2:=(hbb.alloc hbb.size _).trans (hb2.mono (by have:=hbb.size;simp;omega));go_wp2_with fail;go_ret;exact⟨by rw[HX.out];simp[*],hbc⟩
 ·have hnb':zkn n s=false:=by simpa using hnb
  clear hnb;go_enter Tryz.func25,Tryz.ntmps25;go_wp2_with fail;refine(zkm _ _ _ _ _ _ _).mono ?_;rintro e w1 ⟨rfl,hb1⟩;have hbb:Below w.heap.size w w1:=((Below.refl _ _).alloc (Nat.le_refl _) _).trans (hb1.mono (by simp));go_wp2_with fail;go_ret;exact⟨by rw[HX.out];simp[*],hbb⟩
theorem ztj (n:Int) (s:ByteArray) (ks:List T) (aL:∀ t∈ks,zlg t):zlO (.nd 43 n s ks):=by
 intro v w hv;have HX:=zh (show isS (.nd 43 n s ks)=(zkn n s&&zkG 2 (fun _=>isP) ks) by simp[isS]);have IH:=zh aL;have HV:=zh hv;obtain⟨Ad,c,rfl,hf,hlk,hlc,hrow⟩:=hv.open_;simp only[T.k_nd,T.n_nd,T.s_nd,T.ks_nd] at *
 have az:=zkK hlk;clear hf hv hlk hrow hlc aL;by_cases hnb:zkn n s=true
 ·go_enter Tryz.func25,Tryz.ntmps25;go_wp2_with fail;refine(zkm _ _ _ _ _ _ _).mono ?_;rintro e w1 ⟨rfl,hb1⟩;obtain⟨hc1,hf1⟩:=zlo hb1;have hbb:Below w.heap.size w w1:=((Below.refl _ _).alloc (Nat.le_refl _) _).trans (hb1.mono (by simp));go_wp2_with fail;refine(zkO (.nd 43 n s ks) _ _ (HV.out.later (hbb.alloc hbb.size _)) _ 2 (fun _=>53) (fun _=>Tryz.f53) (fun _=>isP) (by decide) (by simp) (fun i hi=>zl7 (by rcases i with _|_|_|_|i<;>first|omega|rfl)) (fun _ _=>zkY) (fun hl i hi=>zkM _)).mono ?_;rintro e w2 ⟨rfl,hb2⟩;have hbc:Below w.heap.size w w2:=(hbb.alloc hbb.size _).trans (hb2.mono (by have:=hbb.size;simp;omega));go_wp2_with fail;go_ret;exact⟨by rw[HX.out];simp[*],hbc⟩
 ·have hnb':zkn n s=false:=by simpa using hnb
  clear hnb;go_enter Tryz.func25,Tryz.ntmps25;go_wp2_with fail;refine(zkm _ _ _ _ _ _ _).mono ?_;rintro e w1 ⟨rfl,hb1⟩;have hbb:Below w.heap.size w w1:=((Below.refl _ _).alloc (Nat.le_refl _) _).trans (hb1.mono (by simp));go_wp2_with fail;go_ret;exact⟨by rw[HX.out];simp[*],hbb⟩
theorem zti (n:Int) (s:ByteArray) (ks:List T) (aL:∀ t∈ks,zlg t):zlO (.nd 44 n s ks):=by
 intro v w hv;have HX:=zh (show isS (.nd 44 n s ks)=(zkz n s&&zkG 1 (fun _=>isP) ks) by simp[isS]);have IH:=zh aL;have HV:=zh hv;obtain⟨Ad,c,rfl,hf,hlk,hlc,hrow⟩:=hv.open_;simp only[T.k_nd,T.n_nd,T.s_nd,T.ks_nd] at *
 have az:=zkK hlk;clear hf hv hlk hrow hlc aL;by_cases hnb:zkz n s=true
 ·go_enter Tryz.func25,Tryz.ntmps25;go_wp2_with fail;refine(zku _ _ _ _ _ _ _).mono ?_;rintro e w1 ⟨rfl,hb1⟩;obtain⟨hc1,hf1⟩:=zlo hb1;have hbb:Below w.heap.size w w1:=((Below.refl _ _).alloc (Nat.le_refl _) _).trans (hb1.mono (by simp));go_wp2_with fail;refine(zkO (.nd 44 n s ks) _ _ (HV.out.later (hbb.alloc hbb.size _)) _ 1 (fun _=>53) (fun _=>Tryz.f53) (fun _=>isP) (by decide) (by simp) (fun i hi=>zl7 (by rcases i with _|_|_|_|i<;>first|omega|rfl)) (fun _ _=>zkY) (fun hl i hi=>zkM _)).mono ?_;rintro e w2 ⟨rfl,hb2⟩;have hbc:Below w.heap.size w w2:=(hbb.alloc hbb.size _).trans (hb2.mono (by have:=hbb.size;simp;omega));go_wp2_with fail;go_ret;exact⟨by rw[HX.out];simp[*],hbc⟩
 ·have hnb':zkz n s=false:=by simpa using hnb
  clear hnb;go_enter Tryz.func25,Tryz.ntmps25;go_wp2_with fail;refine(zku _ _ _ _ _ _ _).mono ?_;rintro e w1 ⟨rfl,hb1⟩;have hbb:Below w.heap.size w w1:=((Below.refl _ _).alloc (Nat.le_refl _) _).trans (hb1.mono (by simp));go_wp2_with fail;go_ret;exact⟨by rw[HX.out];simp[*],hbb⟩
theorem zth (n:Int) (s:ByteArray) (ks:List T) (aL:∀ t∈ks,zlg t):zlO (.nd 45 n s ks):=by
 intro v w hv;have HX:=zh (show isS (.nd 45 n s ks)=(zkz n s&&zkG 1 (fun _=>isP) ks) by simp[isS]);have IH:=zh aL;have HV:=zh hv;obtain⟨Ad,c,rfl,hf,hlk,hlc,hrow⟩:=hv.open_;simp only[T.k_nd,T.n_nd,T.s_nd,T.ks_nd] at *
 have az:=zkK hlk;clear hf hv hlk hrow hlc aL;by_cases hnb:zkz n s=true
 ·go_enter Tryz.func25,Tryz.ntmps25;go_wp2_with fail;refine(zku _ _ _ _ _ _ _).mono ?_;rintro e w1 ⟨rfl,hb1⟩;obtain⟨hc1,hf1⟩:=zlo hb1;have hbb:Below w.heap.size w w1:=((Below.refl _ _).alloc (Nat.le_refl _) _).trans (hb1.mono (by simp));go_wp2_with fail;refine(zkO (.nd 45 n s ks) _ _ (HV.out.later (hbb.alloc hbb.size _)) _ 1 (fun _=>53) (fun _=>Tryz.f53) (fun _=>isP) (by decide) (by simp) (fun i hi=>zl7 (by rcases i with _|_|_|_|i<;>first|omega|rfl)) (fun _ _=>zkY) (fun hl i hi=>zkM _)).mono ?_;rintro e w2 ⟨rfl,hb2⟩;have hbc:Below w.heap.size w w2:=(hbb.alloc hbb.size _).trans (hb2.mono (by have:=hbb.size;simp;omega));go_wp2_with fail;go_ret;exact⟨by rw[HX.out];simp[*],hbc⟩
 ·have hnb':zkz n s=false:=by simpa using hnb
  clear hnb;go_enter Tryz.func25,Tryz.ntmps25;go_wp2_with fail;refine(zku _ _ _ _ _ _ _).mono ?_;rintro e w1 ⟨rfl,hb1⟩;have hbb:Below w.heap.size w w1:=((Below.refl _ _).alloc (Nat.le_refl _) _).trans (hb1.mono (by simp));go_wp2_with fail;go_ret;exact⟨by rw[HX.out];simp[*],hbb⟩
theorem ztg (n:Int) (s:ByteArray) (ks:List T) (aL:∀ t∈ks,zlg t):zlO (.nd 46 n s ks):=by
 intro v w hv;have HX:=zh (show isS (.nd 46 n s ks)=(zkn n s&&zkG 1 (fun _=>isP) ks) by simp[isS]);have IH:=zh aL;have HV:=zh hv;obtain⟨Ad,c,rfl,hf,hlk,hlc,hrow⟩:=hv.open_;simp only[T.k_nd,T.n_nd,T.s_nd,T.ks_nd] at *
 have az:=zkK hlk;clear hf hv hlk hrow hlc aL;by_cases hnb:zkn n s=true
 ·go_enter Tryz.func25,Tryz.ntmps25;go_wp2_with fail;refine(zkm _ _ _ _ _ _ _).mono ?_;rintro e w1 ⟨rfl,hb1⟩;obtain⟨hc1,hf1⟩:=zlo hb1;have hbb:Below w.heap.size w w1:=((Below.refl _ _).alloc (Nat.le_refl _) _).trans (hb1.mono (by simp));go_wp2_with fail;refine(zkO (.nd 46 n s ks) _ _ (HV.out.later (hbb.alloc hbb.size _)) _ 1 (fun _=>53) (fun _=>Tryz.f53) (fun _=>isP) (by decide) (by simp) (fun i hi=>zl7 (by rcases i with _|_|_|_|i<;>first|omega|rfl)) (fun _ _=>zkY) (fun hl i hi=>zkM _)).mono ?_;rintro e w2 ⟨rfl,hb2⟩;have hbc:Below w.heap.size w w2:=(hbb.alloc hbb.size _).trans (hb2.mono (by have:=hbb.size;simp;omega));go_wp2_with fail;go_ret;exact⟨by rw[HX.out];simp[*],hbc⟩
 ·have hnb':zkn n s=false:=by simpa using hnb
  clear hnb;go_enter Tryz.func25,Tryz.ntmps25;go_wp2_with fail;refine(zkm _ _ _ _ _ _ _).mono ?_;rintro e w1 ⟨rfl,hb1⟩;have hbb:Below w.heap.size w w1:=((Below.refl _ _).alloc (Nat.le_refl _) _).trans (hb1.mono (by simp));go_wp2_with fail;go_ret;exact⟨by rw[HX.out];simp[*],hbb⟩
theorem ztf (n:Int) (s:ByteArray) (ks:List T) (aL:∀ t∈ks,zlg t):zlO (.nd 47 n s ks):=by
 intro v w hv;have HX:=zh (show isS (.nd 47 n s ks)=(zkn n s&&zkG 1 (fun _=>isP) ks) by simp[isS]);have IH:=zh aL;have HV:=zh hv;obtain⟨Ad,c,rfl,hf,hlk,hlc,hrow⟩:=hv.open_;simp only[T.k_nd,T.n_nd,T.s_nd,T.ks_nd] at *
 have az:=zkK hlk;clear hf hv hlk hrow hlc aL;by_cases hnb:zkn n s=true
 ·go_enter Tryz.func25,Tryz.ntmps25;go_wp2_with fail;refine(zkm _ _ _ _ _ _ _).mono ?_;rintro e w1 ⟨rfl,hb1⟩;obtain⟨hc1,hf1⟩:=zlo hb1;have hbb:Below w.heap.size w w1:=((Below.refl _ _).alloc (Nat.le_refl _) _).trans (hb1.mono (by simp));go_wp2_with fail;refine(zkO (.nd 47 n s ks) _ _ (HV.out.later (hbb.alloc hbb.size _)) _ 1 (fun _=>53) (fun _=>Tryz.f53) (fun _=>isP) (by decide) (by simp) (fun i hi=>zl7 (by rcases i with _|_|_|_|i<;>first|omega|rfl)) (fun _ _=>zkY) (fun hl i hi=>zkM _)).mono ?_;rintro e w2 ⟨rfl,hb2⟩;have hbc:Below w.heap.size w w2:=(hbb.alloc hbb.size _).trans (hb2.mono (by have:=hbb.size;simp;omega));go_wp2_with fail;go_ret;exact⟨by rw[HX.out];simp[*],hbc⟩
 ·have hnb':zkn n s=false:=by simpa using hnb
  clear hnb;go_enter Tryz.func25,Tryz.ntmps25;go_wp2_with fail;refine(zkm _ _ _ _ _ _ _).mono ?_;rintro e w1 ⟨rfl,hb1⟩;have hbb:Below w.heap.size w w1:=((Below.refl _ _).alloc (Nat.le_refl _) _).trans (hb1.mono (by simp));go_wp2_with fail;go_ret;exact⟨by rw[HX.out];simp[*],hbb⟩
theorem zte (n:Int) (s:ByteArray) (ks:List T) (aL:∀ t∈ks,zlg t):zlO (.nd 48 n s ks):=by
 intro v w hv;have HX:=zh (show isS (.nd 48 n s ks)=(zkn n s&&zkG 1 (fun _=>isP) ks) by simp[isS]);have IH:=zh aL;have HV:=zh hv;obtain⟨Ad,c,rfl,hf,hlk,hlc,hrow⟩:=hv.open_;simp only[T.k_nd,T.n_nd,T.s_nd,T.ks_nd] at *
 have az:=zkK hlk;clear hf hv hlk hrow hlc aL;by_cases hnb:zkn n s=true
 ·go_enter Tryz.func25,Tryz.ntmps25;go_wp2_with fail;refine(zkm _ _ _ _ _ _ _).mono ?_;rintro e w1 ⟨rfl,hb1⟩;obtain⟨hc1,hf1⟩:=zlo hb1;have hbb:Below w.heap.size w w1:=((Below.refl _ _).alloc (Nat.le_refl _) _).trans (hb1.mono (by simp));go_wp2_with fail;refine(zkO (.nd 48 n s ks) _ _ (HV.out.later (hbb.alloc hbb.size _)) _ 1 (fun _=>53) (fun _=>Tryz.f53) (fun _=>isP) (by decide) (by simp) (fun i hi=>zl7 (by rcases i with _|_|_|_|i<;>first|omega|rfl)) (fun _ _=>zkY) (fun hl i hi=>zkM _)).mono ?_;rintro e w2 ⟨rfl,hb2⟩;have hbc:Below w.heap.size w w2:=(hbb.alloc hbb.size _).trans (hb2.mono (by have:=hbb.size;simp;omega));go_wp2_with fail;go_ret;exact⟨by rw[HX.out];simp[*],hbc⟩
 ·have hnb':zkn n s=false:=by simpa using hnb
  clear hnb;go_enter Tryz.func25,Tryz.ntmps25;go_wp2_with fail;refine(zkm _ _ _ _ _ _ _).mono ?_;rintro e w1 ⟨rfl,hb1⟩;have hbb:Below w.heap.size w w1:=((Below.refl _ _).alloc (Nat.le_refl _) _).trans (hb1.mono (by simp));go_wp2_with fail;go_ret;exact⟨by rw[HX.out];simp[*],hbb⟩
theorem ztd (n:Int) (s:ByteArray) (ks:List T) (aL:∀ t∈ks,zlg t):zlO (.nd 49 n s ks):=by
 intro v w hv;have HX:=zh (show isS (.nd 49 n s ks)=(zkn n s&&zkG 1 (fun _=>isP) ks) by simp[isS]);have IH:=zh aL;have HV:=zh hv;obtain⟨Ad,c,rfl,hf,hlk,hlc,hrow⟩:=hv.open_;simp only[T.k_nd,T.n_nd,T.s_nd,T.ks_nd] at *
 have az:=zkK hlk;clear hf hv hlk hrow hlc aL;by_cases hnb:zkn n s=true
 ·go_enter Tryz.func25,Tryz.ntmps25;go_wp2_with fail;refine(zkm _ _ _ _ _ _ _).mono ?_;rintro e w1 ⟨rfl,hb1⟩;obtain⟨hc1,hf1⟩:=zlo hb1;have hbb:Below w.heap.size w w1:=((Below.refl _ _).alloc (Nat.le_refl _) _).trans (hb1.mono (by simp));go_wp2_with fail;refine(zkO (.nd 49 n s ks) _ _ (HV.out.later (hbb.alloc hbb.size _)) _ 1 (fun _=>53) (fun _=>Tryz.f53) (fun _=>isP) (by decide) (by simp) (fun i hi=>zl7 (by rcases i with _|_|_|_|i<;>first|omega|rfl)) (fun _ _=>zkY) (fun hl i hi=>zkM _)).mono ?_;rintro e w2 ⟨rfl,hb2⟩;have hbc:Below w.heap.size w w2:=(hbb.alloc hbb.size _).trans (hb2.mono (by have:=hbb.size;simp;omega));go_wp2_with fail;go_ret;exact⟨by rw[HX.out];simp[*],hbc⟩
 ·have hnb':zkn n s=false:=by simpa using hnb
  clear hnb;go_enter Tryz.func25,Tryz.ntmps25;go_wp2_with fail;refine(zkm _ _ _ _ _ _ _).mono ?_;rintro e w1 ⟨rfl,hb1⟩;have hbb:Below w.heap.size w w1:=((Below.refl _ _).alloc (Nat.le_refl _) _).trans (hb1.mono (by simp));go_wp2_with fail;go_ret;exact⟨by rw[HX.out];simp[*],hbb⟩
theorem zta (n:Int) (s:ByteArray) (ks:List T) (aL:∀ t∈ks,zlg t):zlO (.nd 52 n s ks):=by
 intro v w hv;have HX:=zh (show isS (.nd 52 n s ks)=(zkn n s&&zkG 4 (pEB 0) ks) by simp[isS,zkG,<-zm8]);have IH:=zh aL;have HV:=zh hv;obtain⟨Ad,c,rfl,hf,hlk,hlc,hrow⟩:=hv.open_;simp only[T.k_nd,T.n_nd,T.s_nd,T.ks_nd] at *
 have az:=zkK hlk;clear hf hv hlk hrow hlc aL;by_cases hnb:zkn n s=true
 ·go_enter Tryz.func25,Tryz.ntmps25;go_wp2_with fail;refine(zkm _ _ _ _ _ _ _).mono ?_;rintro e w1 ⟨rfl,hb1⟩;obtain⟨hc1,hf1⟩:=zlo hb1;have hbb:Below w.heap.size w w1:=((Below.refl _ _).alloc (Nat.le_refl _) _).trans (hb1.mono (by simp));go_wp2_with fail;refine(zkO (.nd 52 n s ks) _ _ (HV.out.later (hbb.alloc hbb.size _)) _ 4 (fun i=>if i=0\/i=3 then 54 else 58) (fun i=>if i=0\/i=3 then Tryz.f54 else Tryz.f58) (pEB 0) (by decide) (by simp) (fun i hi=>zl7 (by rcases i with _|_|_|_|i<;>first|omega|rfl)) (fun i hi=>by rcases i with _|_|_|_|i;exact zkV;exact zlY;exact zlY;exact zkV;omega) (fun hl i hi=>by rcases i with _|_|_|_|i;exact zkL _;exact IH.out _ (List.getElem_mem hi);exact IH.out _ (List.getElem_mem hi);exact zkL _;exact absurd hi (by simp only[T.ks_nd] at hl ⊢;omega))).mono ?_;rintro e w2 ⟨rfl,hb2⟩
  have hbc:Below w.heap.size w w2:=(hbb.alloc hbb.size _).trans (hb2.mono (by have:=hbb.size;simp;omega));go_wp2_with fail;go_ret;exact⟨by rw[HX.out];simp[*],hbc⟩
 ·have hnb':zkn n s=false:=by simpa using hnb
  clear hnb;go_enter Tryz.func25,Tryz.ntmps25;go_wp2_with fail;refine(zkm _ _ _ _ _ _ _).mono ?_;rintro e w1 ⟨rfl,hb1⟩;have hbb:Below w.heap.size w w1:=((Below.refl _ _).alloc (Nat.le_refl _) _).trans (hb1.mono (by simp));go_wp2_with fail;go_ret;exact⟨by rw[HX.out];simp[*],hbb⟩
theorem zs9 (n:Int) (s:ByteArray) (ks:List T) (aL:∀ t∈ks,zlg t):zlO (.nd 53 n s ks):=by
 intro v w hv;have HX:=zh (show isS (.nd 53 n s ks)=(zkn n s&&zkG 4 (pEB 0) ks) by simp[isS,zkG,<-zm8]);have IH:=zh aL;have HV:=zh hv;obtain⟨Ad,c,rfl,hf,hlk,hlc,hrow⟩:=hv.open_;simp only[T.k_nd,T.n_nd,T.s_nd,T.ks_nd] at *
 have az:=zkK hlk;clear hf hv hlk hrow hlc aL;by_cases hnb:zkn n s=true
 ·go_enter Tryz.func25,Tryz.ntmps25;go_wp2_with fail;refine(zkm _ _ _ _ _ _ _).mono ?_;rintro e w1 ⟨rfl,hb1⟩;obtain⟨hc1,hf1⟩:=zlo hb1;have hbb:Below w.heap.size w w1:=((Below.refl _ _).alloc (Nat.le_refl _) _).trans (hb1.mono (by simp));go_wp2_with fail;refine(zkO (.nd 53 n s ks) _ _ (HV.out.later (hbb.alloc hbb.size _)) _ 4 (fun i=>if i=0\/i=3 then 54 else 58) (fun i=>if i=0\/i=3 then Tryz.f54 else Tryz.f58) (pEB 0) (by decide) (by simp) (fun i hi=>zl7 (by rcases i with _|_|_|_|i<;>first|omega|rfl)) (fun i hi=>by rcases i with _|_|_|_|i;exact zkV;exact zlY;exact zlY;exact zkV;omega) (fun hl i hi=>by rcases i with _|_|_|_|i;exact zkL _;exact IH.out _ (List.getElem_mem hi);exact IH.out _ (List.getElem_mem hi);exact zkL _;exact absurd hi (by simp only[T.ks_nd] at hl ⊢;omega))).mono ?_;rintro e w2 ⟨rfl,hb2⟩
  have hbc:Below w.heap.size w w2:=(hbb.alloc hbb.size _).trans (hb2.mono (by have:=hbb.size;simp;omega));go_wp2_with fail;go_ret;exact⟨by rw[HX.out];simp[*],hbc⟩
 ·have hnb':zkn n s=false:=by simpa using hnb
  clear hnb;go_enter Tryz.func25,Tryz.ntmps25;go_wp2_with fail;refine(zkm _ _ _ _ _ _ _).mono ?_;rintro e w1 ⟨rfl,hb1⟩;have hbb:Below w.heap.size w w1:=((Below.refl _ _).alloc (Nat.le_refl _) _).trans (hb1.mono (by simp));go_wp2_with fail;go_ret;exact⟨by rw[HX.out];simp[*],hbb⟩
theorem zs8 (n:Int) (s:ByteArray) (ks:List T) (aL:∀ t∈ks,zlg t):zlO (.nd 54 n s ks):=by
 intro v w hv;have HX:=zh (show isS (.nd 54 n s ks)=(zkz n s&&zkG 3 (pEB 4) ks) by simp[isS,zkG,<-zm8]);have IH:=zh aL;have HV:=zh hv;obtain⟨Ad,c,rfl,hf,hlk,hlc,hrow⟩:=hv.open_;simp only[T.k_nd,T.n_nd,T.s_nd,T.ks_nd] at *
 have az:=zkK hlk;clear hf hv hlk hrow hlc aL;by_cases hnb:zkz n s=true
 ·go_enter Tryz.func25,Tryz.ntmps25;go_wp2_with fail;refine(zku _ _ _ _ _ _ _).mono ?_;rintro e w1 ⟨rfl,hb1⟩;obtain⟨hc1,hf1⟩:=zlo hb1;have hbb:Below w.heap.size w w1:=((Below.refl _ _).alloc (Nat.le_refl _) _).trans (hb1.mono (by simp));go_wp2_with fail;refine(zkO (.nd 54 n s ks) _ _ (HV.out.later (hbb.alloc hbb.size _)) _ 3 (fun i=>if i=1 then 58 else 54) (fun i=>if i=1 then Tryz.f58 else Tryz.f54) (pEB 4) (by decide) (by simp) (fun i hi=>zl7 (by rcases i with _|_|_|_|i<;>first|omega|rfl)) (fun i hi=>by rcases i with _|_|_|i;exact zkV;exact zlY;exact zkV;omega) (fun hl i hi=>by rcases i with _|_|_|i;exact zkL _;exact IH.out _ (List.getElem_mem hi);exact zkL _;exact absurd hi (by simp only[T.ks_nd] at hl ⊢;omega))).mono ?_;rintro e w2 ⟨rfl,hb2⟩
  have hbc:Below w.heap.size w w2:=(hbb.alloc hbb.size _).trans (hb2.mono (by have:=hbb.size;simp;omega));go_wp2_with fail;go_ret;exact⟨by rw[HX.out];simp[*],hbc⟩
 ·have hnb':zkz n s=false:=by simpa using hnb
  clear hnb;go_enter Tryz.func25,Tryz.ntmps25;go_wp2_with fail;refine(zku _ _ _ _ _ _ _).mono ?_;rintro e w1 ⟨rfl,hb1⟩;have hbb:Below w.heap.size w w1:=((Below.refl _ _).alloc (Nat.le_refl _) _).trans (hb1.mono (by simp));go_wp2_with fail;go_ret;exact⟨by rw[HX.out];simp[*],hbb⟩
theorem zs7 (n:Int) (s:ByteArray) (ks:List T) (aL:∀ t∈ks,zlg t):zlO (.nd 55 n s ks):=by
 intro v w hv;have HX:=zh (show isS (.nd 55 n s ks)=(zkz n s&&zkG 1 (pEB 7) ks) by simp[isS,zkG,<-zm8]);have IH:=zh aL;have HV:=zh hv;obtain⟨Ad,c,rfl,hf,hlk,hlc,hrow⟩:=hv.open_;simp only[T.k_nd,T.n_nd,T.s_nd,T.ks_nd] at *
 have az:=zkK hlk;clear hf hv hlk hrow hlc aL;by_cases hnb:zkz n s=true
 ·go_enter Tryz.func25,Tryz.ntmps25;go_wp2_with fail;refine(zku _ _ _ _ _ _ _).mono ?_;rintro e w1 ⟨rfl,hb1⟩;obtain⟨hc1,hf1⟩:=zlo hb1;have hbb:Below w.heap.size w w1:=((Below.refl _ _).alloc (Nat.le_refl _) _).trans (hb1.mono (by simp));go_wp2_with fail;refine(zkO (.nd 55 n s ks) _ _ (HV.out.later (hbb.alloc hbb.size _)) _ 1 (fun _=>58) (fun _=>Tryz.f58) (pEB 7) (by decide) (by simp) (fun i hi=>zl7 (by rcases i with _|_|_|_|i<;>first|omega|rfl)) (fun _ _=>zlY) (fun hl i hi=>by rcases i with _|i;exact IH.out _ (List.getElem_mem hi);exact absurd hi (by simp only[T.ks_nd] at hl ⊢;omega))).mono ?_;rintro e w2 ⟨rfl,hb2⟩;have hbc:Below w.heap.size w w2:=(hbb.alloc hbb.size _).trans (hb2.mono (by have:=hbb.size;simp;omega));go_wp2_with fail;go_ret;exact⟨by rw[HX.out];simp[*],hbc⟩
 ·have hnb':zkz n s=false:=by simpa using hnb
  clear hnb;go_enter Tryz.func25,Tryz.ntmps25;go_wp2_with fail;refine(zku _ _ _ _ _ _ _).mono ?_;rintro e w1 ⟨rfl,hb1⟩;have hbb:Below w.heap.size w w1:=((Below.refl _ _).alloc (Nat.le_refl _) _).trans (hb1.mono (by simp));go_wp2_with fail;go_ret;exact⟨by rw[HX.out];simp[*],hbb⟩
theorem ztc (n:Int) (s:ByteArray) (ks:List T):zlO (.nd 50 n s ks):=by
 intro v w hv;have HX:=zh (show isS (.nd 50 n s ks)=(zkz n s&&decide (ks.length<=8)&&zky (fun _=>isV) 0 ks) by simp[isS]);have HV:=zh hv;obtain⟨Ad,c,rfl,hf,hlk,hlc,hrow⟩:=hv.open_;simp only[T.k_nd,T.n_nd,T.s_nd,T.ks_nd] at *
 have az:=zkK hlk;clear hf hv hlc;by_cases hnb:zkz n s=true
 ·by_cases xq:ks.length<=8
  ·go_enter Tryz.func25,Tryz.ntmps25;go_wp2_with fail;refine(zku _ _ _ _ _ _ _).mono ?_;rintro e w1 ⟨rfl,hb1⟩;obtain⟨hc1,hf1⟩:=zlo hb1;have hbb:Below w.heap.size w w1:=((Below.refl _ _).alloc (Nat.le_refl _) _).trans (hb1.mono (by simp));go_wp2_with fail;refine(znV ks _ _ _ (hrow.later hbb) hlk _ _ zsw isV (fun i hi=>zpl _)).mono ?_;rintro e w2 ⟨rfl,hb2⟩;have hbc:Below w.heap.size w w2:=hbb.trans (hb2.mono hbb.size);go_wp2_with fail;go_ret;exact⟨by rw[HX.out];simp[*],hbc⟩
  ·have vU:8<ks.length:=by omega
   clear xq;go_enter Tryz.func25,Tryz.ntmps25;go_wp2_with fail;refine(zku _ _ _ _ _ _ _).mono ?_;rintro e w1 ⟨rfl,hb1⟩;obtain⟨hc1,hf1⟩:=zlo hb1;have hbb:Below w.heap.size w w1:=((Below.refl _ _).alloc (Nat.le_refl _) _).trans (hb1.mono (by simp));go_wp2_with fail;go_ret;exact⟨by rw[HX.out];simp[show ¬ ks.length<=8 by omega],hbb⟩
 ·have hnb':zkz n s=false:=by simpa using hnb
  clear hnb;go_enter Tryz.func25,Tryz.ntmps25;go_wp2_with fail;refine(zku _ _ _ _ _ _ _).mono ?_;rintro e w1 ⟨rfl,hb1⟩;have hbb:Below w.heap.size w w1:=((Below.refl _ _).alloc (Nat.le_refl _) _).trans (hb1.mono (by simp));go_wp2_with fail;go_ret;exact⟨by rw[HX.out];simp[*],hbb⟩
theorem ztb (n:Int) (s:ByteArray) (ks:List T):zlO (.nd 51 n s ks):=by
 intro v w hv;have HX:=zh (show isS (.nd 51 n s ks)=(zkz n s&&decide (ks.length<=8)&&zky (fun _=>isV) 0 ks) by simp[isS]);have HV:=zh hv;obtain⟨Ad,c,rfl,hf,hlk,hlc,hrow⟩:=hv.open_;simp only[T.k_nd,T.n_nd,T.s_nd,T.ks_nd] at *
 have az:=zkK hlk;clear hf hv hlc;by_cases hnb:zkz n s=true
 ·by_cases xq:ks.length<=8
  ·go_enter Tryz.func25,Tryz.ntmps25;go_wp2_with fail;refine(zku _ _ _ _ _ _ _).mono ?_;rintro e w1 ⟨rfl,hb1⟩;obtain⟨hc1,hf1⟩:=zlo hb1;have hbb:Below w.heap.size w w1:=((Below.refl _ _).alloc (Nat.le_refl _) _).trans (hb1.mono (by simp));go_wp2_with fail;refine(znV ks _ _ _ (hrow.later hbb) hlk _ _ zsw isV (fun i hi=>zpl _)).mono ?_;rintro e w2 ⟨rfl,hb2⟩;have hbc:Below w.heap.size w w2:=hbb.trans (hb2.mono hbb.size);go_wp2_with fail;go_ret;exact⟨by rw[HX.out];simp[*],hbc⟩
  ·have vU:8<ks.length:=by omega
   clear xq;go_enter Tryz.func25,Tryz.ntmps25;go_wp2_with fail;refine(zku _ _ _ _ _ _ _).mono ?_;rintro e w1 ⟨rfl,hb1⟩;obtain⟨hc1,hf1⟩:=zlo hb1;have hbb:Below w.heap.size w w1:=((Below.refl _ _).alloc (Nat.le_refl _) _).trans (hb1.mono (by simp));go_wp2_with fail;go_ret;exact⟨by rw[HX.out];simp[show ¬ ks.length<=8 by omega],hbb⟩
 ·have hnb':zkz n s=false:=by simpa using hnb
  clear hnb;go_enter Tryz.func25,Tryz.ntmps25;go_wp2_with fail;refine(zku _ _ _ _ _ _ _).mono ?_;rintro e w1 ⟨rfl,hb1⟩;have hbb:Below w.heap.size w w1:=((Below.refl _ _).alloc (Nat.le_refl _) _).trans (hb1.mono (by simp));go_wp2_with fail;go_ret;exact⟨by rw[HX.out];simp[*],hbb⟩
theorem zrn (k n:Int) (s:ByteArray) (ks:List T) (n40:(k==40)=false) (n41:(k==41)=false) (n42:(k==42)=false) (n43:(k==43)=false) (n44:(k==44)=false) (n45:(k==45)=false) (n46:(k==46)=false) (n47:(k==47)=false) (n48:(k==48)=false) (n49:(k==49)=false) (n50:(k==50)=false) (n51:(k==51)=false) (n52:(k==52)=false) (n53:(k==53)=false) (n54:(k==54)=false) (n55:(k==55)=false) (n56:(k==56)=false):zlO (.nd k n s ks):=by
 intro v w hv;obtain⟨Ad,c,rfl,hf,hlk,hlc,hrow⟩:=hv.open_;simp only[T.k_nd,T.n_nd,T.s_nd,T.ks_nd] at *
 have az:=zkK hlk;have HX:=zh (show isS (.nd k n s ks)=false by
  simp only[beq_eq_false_iff_ne,ne_eq] at n40 n41 n42 n43 n44 n45 n46 n47 n48 n49 n50 n51 n52 n53 n54 n55 n56;rw[isS,if_neg (by omega),if_neg (by omega),if_neg (by omega),if_neg (by omega),if_neg (by omega),if_neg (by omega),if_neg (by omega),if_neg (by omega)])
 clear hf hv hlk hrow hlc;go_enter Tryz.func25,Tryz.ntmps25;go_wp2;go_ret;exact⟨by rw[HX.out];rfl,(Below.refl _ _).alloc (Nat.le_refl _) _⟩
theorem zrq (k n:Int) (s:ByteArray) (ks:List T) (ih:∀ t∈ks,zlO t):zlg (.nd k n s ks):=by
 intro v w hv;have HX:=zh (show isB (.nd k n s ks)=((k==57)&&zkn n s&&zky (fun _=>isS) 0 ks) by rw[isB,zoT 0];rfl);have IH:=zh ih;obtain⟨Ad,c,rfl,hf,hlk,hlc,hrow⟩:=hv.open_;simp only[T.k_nd,T.n_nd,T.s_nd,T.ks_nd] at *
 have az:=zkK hlk;clear hf hv hlc ih;by_cases hk:(k==57)=true
 ·by_cases hnb:zkn n s=true
  ·go_enter Tryz.func58,Tryz.ntmps58;go_wp2_with fail;refine(zkm _ _ _ _ _ _ _).mono ?_;rintro e w1 ⟨rfl,hb1⟩;obtain⟨hc1,hf1⟩:=zlo hb1;have hbb:Below w.heap.size w w1:=((Below.refl _ _).alloc (Nat.le_refl _) _).trans (hb1.mono (by simp));go_wp2_with fail;refine(znV ks _ _ _ (hrow.later hbb) hlk _ _ zuh isS (fun i hi=>IH.out _ (List.getElem_mem hi))).mono ?_;rintro e w2 ⟨rfl,hb2⟩;have hbc:Below w.heap.size w w2:=hbb.trans (hb2.mono hbb.size);go_wp2_with fail;go_ret;exact⟨by rw[HX.out];simp[*],hbc⟩
  ·have hnb':zkn n s=false:=by simpa using hnb
   clear hnb;go_enter Tryz.func58,Tryz.ntmps58;go_wp2_with fail;refine(zkm _ _ _ _ _ _ _).mono ?_;rintro e w1 ⟨rfl,hb1⟩;have hbb:Below w.heap.size w w1:=((Below.refl _ _).alloc (Nat.le_refl _) _).trans (hb1.mono (by simp));go_wp2_with fail;go_ret;exact⟨by rw[HX.out];simp[*],hbb⟩
 ·have hk':(k==57)=false:=by simpa using hk
  clear hk;go_enter Tryz.func58,Tryz.ntmps58;go_wp2_with fail;go_ret;exact⟨by rw[HX.out];simp[*],(Below.refl _ _).alloc (Nat.le_refl _) _⟩
theorem zqQ (t:T):zlO t/\zlg t:=by
 induction t using T.ind with
 | _ k n s ks ih =>
 have ihS:∀ t∈ks,zlO t:=fun t ht=>(ih t ht).1;have aL:∀ t∈ks,zlg t:=fun t ht=>(ih t ht).2;refine⟨?_,zrq k n s ks ihS⟩;by_cases xE:k=40
 ·subst xE;exact ztm n s ks aL
 by_cases h41:k=41
 ·subst h41;exact ztl n s ks aL
 by_cases h42:k=42
 ·subst h42;exact ztk n s ks aL
 by_cases h43:k=43
 ·subst h43;exact ztj n s ks aL
 by_cases qV:k=44
 ·subst qV;exact zti n s ks aL
 by_cases h45:k=45
 ·subst h45;exact zth n s ks aL
 by_cases h46:k=46
 ·subst h46;exact ztg n s ks aL
 by_cases h47:k=47
 ·subst h47;exact ztf n s ks aL
 by_cases h48:k=48
 ·subst h48;exact zte n s ks aL
 by_cases wu:k=49
 ·subst wu;exact ztd n s ks aL
 by_cases h50:k=50
 ·subst h50;exact ztc n s ks
 by_cases kQ:k=51
 ·subst kQ;exact ztb n s ks
 by_cases kP:k=52
 ·subst kP;exact zta n s ks aL
 by_cases lM:k=53
 ·subst lM;exact zs9 n s ks aL
 by_cases dX:k=54
 ·subst dX;exact zs8 n s ks aL
 by_cases eF:k=55
 ·subst eF;exact zs7 n s ks aL
 by_cases eY:k=56
 ·subst eY;exact zs6 n s ks aL
 exact zrn k n s ks (by simpa using xE) (by simpa using h41) (by simpa using h42) (by simpa using h43) (by simpa using qV) (by simpa using h45) (by simpa using h46) (by simpa using h47) (by simpa using h48) (by simpa using wu) (by simpa using h50) (by simpa using kQ) (by simpa using kP) (by simpa using lM) (by simpa using dX) (by simpa using eF) (by simpa using eY)
theorem zoF (t:T):zlO t:=(zqQ t).1
theorem zqh (t:T):zlg t:=(zqQ t).2
end Go.Proofs.YtghbhbdnkjjnnaaGreat
namespace Go.Proofs.YtghbhbdnkjjnnaaGreat
open Go Go.RowKit
theorem zvg {f:Nat->T->Bool} {ks:List T} (h:zkG 1 f ks=true):∃ p,ks=[p]/\f 0 p=true:=by
 match ks with
 | [p]=>simp[zkG,zky] at h;exact⟨p,rfl,h⟩
 | []=>simp[zkG] at h
 | a::b::l=>simp[zkG] at h
theorem zsl {f:Nat->T->Bool} {ks:List T} (h:zkG 2 f ks=true):∃ p q,ks=[p,q]/\f 0 p=true/\f 1 q=true:=by
 match ks with
 | [p,q]=>simp[zkG,zky] at h;exact⟨p,q,rfl,h⟩
 | []=>simp[zkG] at h
 | [a]=>simp[zkG] at h
 | a::b::c::l=>simp[zkG] at h
theorem zsn {k n:Int} {s:ByteArray} {ks:List T} (h:isS (.nd k n s ks)=true) (hb:basB k=true) :
  ((k=40\/k=41\/k=42)/\∃ p q,ks=[p,q]/\isP p=true/\isE q=true)\/(k=43/\∃ p q,ks=[p,q]/\isP p=true/\isP q=true)\/((44<=k/\k<=49)/\∃ p,ks=[p]/\isP p=true):=by
 have hr:=of_decide_eq_true hb;rw[isS] at h;by_cases h1:k=40\/k=41\/k=42\/k=56
 ·rw[if_pos h1,Bool.and_eq_true] at h;obtain⟨p,q,e,a,b⟩:=zsl h.2;exact .inl ⟨by omega,p,q,e,by simpa using a,by simpa using b⟩
 ·rw[if_neg h1] at h;by_cases h2:k=43
  ·rw[if_pos h2,Bool.and_eq_true] at h;obtain⟨p,q,e,a,b⟩:=zsl h.2;exact .inr (.inl ⟨h2,p,q,e,a,b⟩)
  ·rw[if_neg h2] at h;by_cases h3:k=44\/k=45
   ·rw[if_pos h3,Bool.and_eq_true] at h;obtain⟨p,e,a⟩:=zvg h.2;exact .inr (.inr ⟨by omega,p,e,a⟩)
   ·rw[if_neg h3,if_pos (by omega),Bool.and_eq_true] at h;obtain⟨p,e,a⟩:=zvg h.2;exact .inr (.inr ⟨by omega,p,e,a⟩)
def DoP (n0:Nat) (P:Ph) (S:ST) (W:World) (R:Int×ST) (e:Ending) (W':World):Prop:=e=.returned (.int .i64 R.1)/\∃ P',SStp n0 P S W P' R.2 W'/\P'.sb=P.sb
theorem zp6 {W:World} {n0:Nat} {P:Ph} {S:ST} (h:SR W n0 P S) (t:T) (v:Value) (hv:NV W Any t v) (hs:isS t=true) (hb:basB t.k=true) (hf:fltE S.cur.vs t=0) :
  Calls Tryz.prog 64 #[.pointer (some ⟨P.sb,0,none⟩),v] W (DoP n0 P S W (zoX S t)):=by
 obtain⟨k,n,s,ks⟩:=t;obtain⟨fo,fk⟩:=zp3 hf;rcases zsn hs hb with⟨hk,p,q,rfl,hp,hq⟩|⟨rfl,p,q,rfl,hp,hq⟩|⟨hk,p,rfl,hp⟩
 ·obtain⟨id,kp,h1,h2,h3⟩:=znF h.wf hp (zms fk p (by simp));have:=zuo h k n s p q v hv hk id h1 kp h2;have e:zoX S (.nd k n s [p,q])=zlh S k s p q (indE S.look p) (zlz S.look q):=by
   show zlh S k s p q (indE S.look p) (zmO S k q)=_
   rw[zmO,if_neg (by omega),if_pos hk]
  unfold DoP;rw[e];exact this
 ·obtain⟨id,kp,h1,h2,h3⟩:=znF h.wf hp (zms fk p (by simp));obtain⟨jd,kq,h4,h5,h6⟩:=znF h.wf hq (zms fk q (by simp));have:=zsB h 43 n s p q v hv rfl id h1 kp h2 jd h4 kq h5;have e:zoX S (.nd 43 n s [p,q])=zlh S 43 s p q (indE S.look p) (indE S.look q):=by
   show zlh S 43 s p q (indE S.look p) (zmO S 43 q)=_
   rw[zmO,if_pos rfl]
  unfold DoP;rw[e];exact this
 ·obtain⟨id,kp,h1,h2,h3⟩:=znF h.wf hp (zms fk p (by simp));have hst:k=44\/k=45->∃ ah,S.num s=some ah/\CurK S ah 3:=fun h45=>by
   have hn:zoO k=3:=by rcases h45 with rfl|rfl<;>rfl
   obtain⟨u,h4,h5⟩:=zoM fo (by rw[hn];decide);obtain⟨ah,h6,h7⟩:=zr3 h.wf h4;exact⟨ah,h6,by rw[h5,hn] at h7;exact h7⟩
  have:=zup h k n s p v hv hk id h1 kp h2 h3 hst;have e:zoX S (.nd k n s [p])=zlh S k s p nil0 (indE S.look p) (0,0):=by
   show zlh S k s p nil0 (indE S.look p) (zmO S k nil0)=_
   rw[zmO,if_neg (by omega),if_neg (by omega)]
  unfold DoP;rw[e];exact this
theorem zsx:IsFn Tryz.prog 62 Tryz.f62:=⟨Tryz.func62,by kernel_rfl,by kernel_rfl⟩
theorem zuk:IsFn Tryz.prog 63 Tryz.f63:=⟨Tryz.func63,by kernel_rfl,by kernel_rfl⟩
theorem zvu {W:World} {n0:Nat} {P:Ph} {S:ST} (h:SR W n0 P S) (t:T) (v:Value) (hv:NV W Any t v) :
  Calls Tryz.prog 27 #[.pointer (some ⟨P.sb,0,none⟩),v] W (DoP n0 P S W (doE S t)):=by
 obtain⟨R,hR⟩:∃ R,doE S t=R:=⟨_,rfl⟩
 rw[hR];have HRR:=zh hR;have HS:=zh h;have HV:=zh hv;obtain⟨A,c,rfl,-,-,-,-⟩:=hv.open_;obtain⟨b,hb⟩:∃ b,isS t=b:=⟨_,rfl⟩
 have HIS:=zh (show ∀ (v:Value) (w:World),NV w Any t v->Calls Tryz.prog 25 #[v] w fun e w'=>e=.returned (.bool b)/\Below w.heap.size w w' from fun v w h=>hb▸zoF t v w h);have vG:=zh hb;have kD:=zh (show ∀ (v:Value) (W':World),NV W' Any t v->Below W.heap.size W W'->isS t=true->basB t.k=true->fltE S.cur.vs t=0->doE S t=zoX S t->Calls Tryz.prog 64 #[.pointer (some ⟨P.sb,0,none⟩),v] W' (DoP n0 P S W R) from fun v W' hv' hbl h1 h2 h3 h4=>by
  refine(zp6 (h.later hbl) t v hv' h1 h2 h3).mono ?_;rintro e W2 ⟨a1,P',a2,a3⟩;rw[<-h4,hR] at a1 a2;exact⟨a1,P',⟨a2.st.after hbl h.rws,a2.wf⟩,a3⟩)
 obtain⟨kd,hw⟩:=h.curWF;obtain⟨A0,c0,hcv,hc,hrow⟩:=h.curVs;obtain⟨h3,h4,h5⟩:=h.cur3;rw[hcv] at h3;have bX:=zh (fun W' (hb:Below W.heap.size W W')=>zk7 (h.later hb));have yw:=zh (fun(v:Value) W' (hb:Below W.heap.size W W') (hv':NV W' Any t v)=>zrg S.cur.vs A0 c0 (curP P S) hw.lim t v W' hv' (zb hb h3) (hrow.later hb));obtain⟨cp,hcp⟩:∃ cp,curP P S=cp:=⟨_,rfl⟩
 rw[hcp] at bX yw;obtain⟨fe,hfe⟩:∃ fe,fltE S.cur.vs t=fe:=⟨_,rfl⟩
 rw[hfe] at yw kD;have gL:=zh (fun w=>zsR t.k w);obtain⟨bb,hbb⟩:∃ b,basB t.k=b:=⟨_,rfl⟩
 rw[hbb] at gL kD;have HD:=zh (show R=if b=false then (3,S) else if t.k=56 then (9,S) else if bb=false then (7,S) else if fe≠0 then (fe,S) else zoX S t by rw[<-hR,doE,hb,hbb,hfe]);have HDE:=zh (show doE S t=R from hR);obtain⟨k,hk⟩:∃ k,t.k=k:=⟨_,rfl⟩
 obtain⟨n,hn⟩:∃ n,t.n=n:=⟨_,rfl⟩
 obtain⟨s,hs⟩:∃ s,t.s=s:=⟨_,rfl⟩
 obtain⟨m,hm⟩:∃ m,t.ks.length=m:=⟨_,rfl⟩
 rw[hk,hn,hs,hm] at HV ⊢;rw[hk] at gL HD;clear h hv hR hb hw hcv hc hrow h3 h4 h5 hcp hfe hbb hk hn hs hm;have hbx:=box4 (heap_alloc_new W (.cells #[.int .u8 k,.int .i64 n,.string s,.slice A m c] 24));have aA:=zh (heap_alloc_new W (.cells #[.int .u8 k,.int .i64 n,.string s,.slice A m c] 24));obtain⟨W0,hW0⟩:∃ W0,W.alloc (.cells #[.int .u8 k,.int .i64 n,.string s,.slice A m c] 24)=W0:=⟨_,rfl⟩
 have q0:Below W.heap.size W W0:=hW0▸zkc (Below.refl _ _) _;rw[hW0] at hbx aA;have gD:=zh q0;obtain⟨x0,x1,x2,x3⟩:=hbx;clear q0;go_enter Tryz.func27,Tryz.ntmps27;go_wp2_with fail;refine(HIS.out _ _ (HV.out.later gD.out)).mono ?_;rintro e w1 ⟨rfl,aa⟩;have HB1:=zh (zka gD.out aa);have aB:=zh (zkb aA.out aa);obtain⟨y0,y1,y2,y3⟩:=box4 aB.out;clear aa x0 x1 x2 x3
 cases b
 ·have HN:=zh (show R=(3,S) by rw[HD.out,if_pos rfl]);go_wp2_with fail;go_ret;exact⟨by rw[HN.out];rfl,P,by rw[HN.out];exact SStp.refl HS.out HB1.out,rfl⟩
 ·by_cases eY:k=56
  ·have HN:=zh (show R=(9,S) by rw[HD.out,if_neg (by decide),if_pos eY]);subst eY;go_wp2_with fail;go_ret;exact⟨by rw[HN.out];rfl,P,by rw[HN.out];exact SStp.refl HS.out HB1.out,rfl⟩
  ·have k56:(k==56)=false:=by simpa using eY
   go_wp2_with fail;refine(gL.out _).mono ?_;rintro e w2 ⟨rfl,rfl⟩
   cases bb
   ·have HN:=zh (show R=(7,S) by rw[HD.out,if_neg (by decide),if_neg eY,if_pos rfl]);go_wp2_with fail;go_ret;exact⟨by rw[HN.out];rfl,P,by rw[HN.out];exact SStp.refl HS.out HB1.out,rfl⟩
   ·have HD2:=zh (show R=if fe≠0 then (fe,S) else zoX S t by rw[HD.out,if_neg (by decide),if_neg eY,if_neg (by decide)]);clear HD gL;go_upto_region 9 with fail;have hSS:(fun w':World=>w'.cell? ⟨W.heap.size,0,none⟩=some (.int .u8 k)/\w'.cell? ⟨W.heap.size,1,none⟩=some (.int .i64 n)/\w'.cell? ⟨W.heap.size,2,none⟩=some (.string s)/\w'.cell? ⟨W.heap.size,3,none⟩=some (.slice A m c)) w2.drew/\(fun _:World=>True) w2.drew:=⟨⟨y0,y1,y2,y3⟩,trivial⟩
    refine wp_region_noPanic ?_;refine zkd (fun w':World=>w'.cell? ⟨W.heap.size,0,none⟩=some (.int .u8 k)/\w'.cell? ⟨W.heap.size,1,none⟩=some (.int .i64 n)/\w'.cell? ⟨W.heap.size,2,none⟩=some (.string s)/\w'.cell? ⟨W.heap.size,3,none⟩=some (.slice A m c)) (fun _:World=>True) 3 (by kernel_rfl) ?_;refine zT 0 hSS ?_;(try simp only[zQ]);refine zT 2 hSS ?_;(try simp only[zQ]);have had:Calls Tryz.prog 62 [.pointer (some ⟨P.sb,0,none⟩)].toArray w2.drew fun e W'=>∃ u,e=.returned u/\u=.pointer (some cp)/\W'=w2.drew :=
     (bX.out _ HB1.out.drew).mono fun e W' hh=>⟨_,hh.1,rfl,hh.2⟩
    refine zo 1 fun K hK=>?_;refine zke (by rfl) (.func 62) [.tmp 22] _ (by rfl) 62 _ zsx (by rfl) _ (by rfl) _ had ?_;rintro v4 w4 ⟨rfl,rfl⟩;refine hK.out _ _ hSS ?_;clear hK K had;(try simp only[zQ]);have had:Calls Tryz.prog 63 [.pointer (some cp),nv k n s A m c].toArray w2.drew fun e W'=>∃ u,e=.returned u/\u=.int .i64 fe/\Below w2.drew.heap.size w2.drew W' :=
     (yw.out _ _ HB1.out.drew ((HV.out.later HB1.out).later (Below.refl _ _).drew)).mono fun e W' hh=>⟨_,hh.1,rfl,hh.2⟩
    refine zp 3 fun K hK=>?_;refine zke (by rfl) (.func 63) [.tmp 23,.tmp 24] _ (by rfl) 63 _ zuk (by rfl) _ (by rfl) _ had ?_;rintro v5 w5 ⟨rfl,hb5⟩;have av:=zh (zka HB1.out.drew hb5);have dF:=zh (zkb (show w2.drew.heap[W.heap.size]?=_ from aB.out) hb5);obtain⟨u0,u1,u2,u3⟩:=box4 dF.out;refine hK.out _ _ ⟨u0,u1,u2,u3⟩ ?_;clear hK K had hb5 hSS y0 y1 y2 y3;(try simp only[zQ]);refine zp 4 fun K hK=>?_;(try simp only[zA,zB,zC]);go_simp;refine hK.out _ _ ⟨u0,u1,u2,u3⟩ ?_;clear hK K;(try simp only[zQ]);refine zd ?_;refine NoPanic.normal ?_;by_cases hfe:fe=0
    ·subst hfe;have ik:=zh (kD.out (nv k n s A m c) w5 (HV.out.later av.out) av.out vG.out (by first|rfl|trivial) (by first|rfl|trivial) (by rw[HDE.out,HD2.out];simp));clear HD2 kD;go_wp2_with fail;refine ik.out.mono ?_;rintro e w6 ⟨rfl,hh⟩;have HH:=zh hh;clear hh;go_wp2_with fail;go_ret;exact⟨rfl,HH.out⟩
    ·have HN:=zh (show R=(fe,S) by rw[HD2.out,if_pos hfe]);have e1:(fe==0)=false:=by simpa using hfe
     have e2:(fe != 0)=true:=by simpa using hfe
     clear HD2;go_wp2_with fail;go_ret;exact⟨by rw[HN.out];rfl,P,by rw[HN.out];exact SStp.refl HS.out av.out,rfl⟩
theorem zuU {W:World} {n0:Nat} {P:Ph} {S:ST} (h:SR W n0 P S) (t:T) (v:Value) (hv:NV W Any t v) :
  Calls Tryz.prog 172 #[.pointer (some ⟨P.sb,0,none⟩),v] W (DoP n0 P S W (zn1 S t)):=by
 obtain⟨k,n,s,ks⟩:=t;obtain⟨A,c,rfl,hf,hlk,hlc,hrow⟩:=hv.open_;simp only[T.k_nd,T.n_nd,T.s_nd,T.ks_nd] at *
 obtain⟨k',hk'⟩:∃ k',zra k=k':=⟨_,rfl⟩
 have hf':Fld k' n s:=by
  refine⟨?_,hf.2⟩;rw[<-hk'];unfold zra;have:=hf.1
  split
  ·omega
  ·split
   ·omega
   ·split
    ·omega
    ·split
     ·omega
     ·split
      ·omega
      ·split
       ·omega
       ·split
        ·omega
        ·split
         ·omega
         ·exact this
 obtain⟨R,hR⟩:∃ R,zn1 S (.nd k n s ks)=R:=⟨_,rfl⟩
 rw[hR];have oN:=zh (show ∀ W',Below W.heap.size W W'->Calls Tryz.prog 27 #[.pointer (some ⟨P.sb,0,none⟩),nv k' n s A ks.length c] W' (DoP n0 P S W R) from fun W' hb=>by
  have e:doE S (.nd k' n s ks)=R:=by rw[<-hR,<-hk'];rfl
  have:=zvu (h.later hb) (.nd k' n s ks) (nv k' n s A ks.length c) (NV.shut hf' hlk hlc (hrow.later hb));rw[e] at this;refine this.mono ?_;rintro e W2 ⟨a1,P',a2,a3⟩;exact⟨a1,P',⟨a2.st.after hb h.rws,a2.wf⟩,a3⟩)
 have oH:=zh (fun w=>hk'▸zp1 k w);obtain⟨m,hm⟩:∃ m,ks.length=m:=⟨_,rfl⟩
 rw[hm] at oN ⊢;clear h hv hR hf hf' hrow hlk hlc hm hk';go_enter Tryz.func172,Tryz.ntmps172;go_wp2_with fail;refine(oH.out _).mono ?_;rintro e w1 ⟨rfl,rfl⟩;go_wp2_with fail;refine(oN.out _ (zkc (Below.refl _ _) _)).mono ?_;rintro e w6 ⟨rfl,hh⟩;have HH:=zh hh;clear hh;go_wp2_with fail;go_ret;exact⟨rfl,HH.out⟩
def FrK (S S':ST):Prop:=S'.base=S.base/\S'.calls=S.calls/\S'.nc=S.nc
theorem ztX (S:ST) (k:Int) (id i ah:Nat):FrK S (znk S k id i ah).2:=by
 unfold znk
 repeat' split
 all_goals exact⟨rfl,rfl,rfl⟩
theorem zrF (S:ST) (k:Int) (id i:Nat):FrK S (zlq S k id i).2:=by
 unfold zlq
 repeat' split
 all_goals exact⟨rfl,rfl,rfl⟩
theorem zuq (S:ST) (k:Int) (s qs:ByteArray) (r2:Int) (id i:Nat):FrK S (znm S k s qs r2 id i).2:=by
 unfold znm
 repeat' split
 all_goals first|exact ztX _ _ _ _ _|exact zrF _ _ _ _|exact⟨rfl,rfl,rfl⟩
theorem zur (S:ST) (k:Int) (s ps qs:ByteArray) (r1:Int) (r2:Int×Int):FrK S (znn S k s ps qs r1 r2).2:=by
 unfold znn
 repeat' split
 all_goals first|exact zuq _ _ _ _ _ _ _|exact⟨rfl,rfl,rfl⟩
theorem zus (S:ST) (k:Int) (s:ByteArray) (p q:T) (r1 r2:Int×Int):FrK S (zlh S k s p q r1 r2).2:=by
 unfold zlh;by_cases h:r1.2≠0
 ·rw[if_pos h];exact⟨rfl,rfl,rfl⟩
 ·rw[if_neg h];exact zur _ _ _ _ _ _ _
theorem zvo (S:ST) (t:T):FrK S (doE S t).2:=by
 unfold doE
 repeat' split
 all_goals first|exact⟨rfl,rfl,rfl⟩|skip
 obtain⟨k,n,s,ks⟩:=t;exact zus _ _ _ _ _ _ _
theorem ztA (S:ST) (t:T):FrK S (zn1 S t).2:=by
 obtain⟨k,n,s,ks⟩:=t;exact zvo _ _
theorem zqJ {f:FR}:∀ (l:List (VD×ByteArray)) (acc g:FR),entL f acc l=.ok g->g.vs.length=acc.vs.length+l.length
 | [],acc,g,h=>by rw[entL] at h;injection h with h;subst h;simp
 | (v,a)::r,acc,g,h=>by
  rw[entL] at h
  split at h
  ·cases h
  ·split at h
   ·have:=zqJ r _ _ h;simp at this ⊢;omega
   ·cases h
theorem zmK (w:World) (S:Nat->Prop) {k n:Int} {s:ByteArray} (hf:Fld k n s):NV w S (.nd k n s []) (nv k n s none 0 0):=NV.shut (ks:=[]) hf (by simp) (Nat.le_refl _) (fun i hi=>by simp at hi)
theorem zxb (W:World) (E:TypeId) {S:Nat->Prop} (hS:S W.heap.size) {t1 t2:T} {k n k1 n1 k2 n2:Int} {s s1 s2:ByteArray} {A1 A2:Option Addr} {l1 c1 l2 c2:Nat} (hf:Fld k n s) (h1:NV W S t1 (nv k1 n1 s1 A1 l1 c1)) (h2:NV W S t2 (nv k2 n2 s2 A2 l2 c2)) :
  NV (W.alloc (.cells #[.int .u8 k1,.int .i64 n1,.string s1,.slice A1 l1 c1,.int .u8 k2,.int .i64 n2,.string s2,.slice A2 l2 c2] E)) S (.nd k n s [t1,t2]) (nv k n s (some ⟨W.heap.size,0,none⟩) 2 2):=by
 refine NV.shut (ks:=[t1,t2]) hf (by simp[LK]) (by simp) fun i hi=>?_;have hb:=zkc (Below.refl W.heap.size W) (.cells #[.int .u8 k1,.int .i64 n1,.string s1,.slice A1 l1 c1,.int .u8 k2,.int .i64 n2,.string s2,.slice A2 l2 c2] E);have hx:=heap_alloc_new W (.cells #[.int .u8 k1,.int .i64 n1,.string s1,.slice A1 l1 c1,.int .u8 k2,.int .i64 n2,.string s2,.slice A2 l2 c2] E)
 match i,hi with
 | 0,_=>exact⟨⟨W.heap.size,0,none⟩,_,_,_,_,rfl,hS,⟨zc hx rfl,zc hx rfl,zc hx rfl,zc hx rfl⟩,h1.later hb⟩
 | 1,_=>exact⟨⟨W.heap.size,0,none⟩,_,_,_,_,rfl,hS,⟨zc hx rfl,zc hx rfl,zc hx rfl,zc hx rfl⟩,h2.later hb⟩
theorem ztL {W:World} {b:Nat} {E:TypeId} {xs:List Int} (h:W.heap[b]?=some (.cells (zki xs).toArray E (0,0))) (hx:∀ x∈xs,I64 x):RowI W Any (some ⟨b,0,none⟩) xs:=fun i hi=>by
 have ha:(⟨b,0,none⟩:Addr).add i=⟨b,i,none⟩:=by rw[Addr.add_lit,Nat.zero_add]
 refine⟨⟨b,0,none⟩,rfl,trivial,?_,hx _ (List.getElem_mem hi)⟩;rw[ha];simp only[World.cell?,h];simp[zki,hi]
theorem ztK {W:World} {b:Nat} {E:TypeId} {vs:List VD} (h:W.heap[b]?=some (.cells (zkQ vs).toArray E (0,0))) (hx:∀ v∈vs,FldV v):RowV W Any (some ⟨b,0,none⟩) vs:=fun i hi=>by
 have ha:(⟨b,0,none⟩:Addr).add (i*3)=⟨b,i*3,none⟩:=by rw[Addr.add_lit,Nat.zero_add]
 obtain⟨g1,g2,g3⟩:=znR vs i hi;refine⟨⟨b,0,none⟩,rfl,trivial,?_,hx _ (List.getElem_mem hi)⟩;rw[ha];have key:∀ o u,(zkQ vs)[o]?=some u->W.cell? ⟨b,o,none⟩=some u:=fun o u ho=>by
  simp only[World.cell?,h];simpa using ho
 exact⟨key _ _ g1,key _ _ g2,key _ _ g3⟩
theorem zkr {w:World} {b:Nat} {E:TypeId} {u0 u1 u2:Value} (h:w.heap[b]?=some (.cells #[u0,u1,u2] E (0,0))):w.cell? ⟨b,0,none⟩=some u0/\w.cell? ⟨b,1,none⟩=some u1/\w.cell? ⟨b,2,none⟩=some u2 :=
 ⟨zc h rfl,zc h rfl,zc h rfl⟩
theorem zqt {W:World} {n0:Nat} {E:TypeId} {v:Value} {l:List Int} (h:W.ownsRow n0 E 1 v l.length (zki l)) (hf:∀ x∈l,I64 x):∃ A c,v=.slice A l.length c/\l.length<=c/\RowI W (fun b=>n0<=b) A l:=by
 obtain⟨A,c,e,hc,hr⟩:=zlR (xs:=l) h hf;exact⟨A,c,e,hc,hr.keep (fun b hb _=>(h.lt b hb).1) (fun _ _ _=>rfl)⟩
theorem OwnS.svR {W:World} {n0:Nat} {s:SS} {v:Value} (h:OwnS W n0 s v) (hl:s.Lim):SV W (fun b=>n0<=b) s v:=by
 obtain⟨vc,vi,vo,fc,rfl,hr,h1,h2,h3⟩:=h;obtain⟨AI,cI,e2,k2,r2⟩:=zqt (hr.row .inp) h2;obtain⟨AO,cO,e3,k3,r3⟩:=zqt (hr.row .out) h3;change vi=_ at e2;change vo=_ at e3;have key:∃ A c,vc=.slice A s.cells.length c/\s.cells.length<=c/\zne W (fun b=>n0<=b) A s.cells:=by
  rcases Nat.eq_zero_or_pos s.cells.length with h0|h0
  ·obtain⟨A,c,e1,hc,_⟩:=zkg (hr.row .all);exact⟨A,c,e1,hc,fun i hi=>by omega⟩
  ·obtain⟨g,c,e1,hc,_,hcell⟩:=zk5 (hr.row .all) h0;change vc=_ at e1;have hg:n0<=g:=(hr.lt .all g (by show vc.ownBlock=some g;rw[e1];rfl)).1;refine⟨_,c,e1,hc,fun i hi=>?_⟩;have aS:=hr.row (.el i);simp only[zk3,hi,if_true,List.getD_eq_getElem?_getD,List.getElem?_eq_getElem hi,Option.getD_some] at aS;obtain⟨A',c',e4,k4,r4⟩:=zqt aS (h1 _ (List.getElem_mem hi));have ha:(⟨g,0,none⟩:Addr).add i=⟨g,i,none⟩:=by rw[Addr.add_lit,Nat.zero_add]
   refine⟨⟨g,0,none⟩,A',c',rfl,hg,?_,k4,r4⟩;rw[ha,<-e4,hcell i (by show i<s.cells.length*1;omega)];simp[zk3,hi]
 obtain⟨A,c,e1,k1,r1⟩:=key;exact⟨A,c,AI,cI,AO,cO,by rw[e1,e2,e3],r1,r2,r3,k1,k2,k3,hl⟩
theorem SV.any {W:World} {S:Nat->Prop} {s:SS} {v:Value} (h:SV W S s v):SV W Any s v:=h.keep (fun _ _ _=>trivial) fun _ _ _=>rfl
theorem SR.n0le {W:World} {n0:Nat} {P:Ph} {S:ST} (h:SR W n0 P S):n0<=W.heap.size:=by have:=h.rws.lt .sb _ rfl;omega
theorem SR.own_lt {W:World} {n0:Nat} {P:Ph} {S:ST} (h:SR W n0 P S) {b:Nat} (hb:OwnB (rows P S) b):n0<=b/\b<W.heap.size:=by
 obtain⟨q,hq⟩:=hb;exact h.rws.lt q b hq
theorem SStp.frame {w W W':World} {n0:Nat} {P P':Ph} {S S':ST} (hst:SStp n0 P S W P' S' W') (hs:SR W n0 P S) (hb:Below w.heap.size w W) (hn:w.heap.size<=n0):Below w.heap.size w W' :=
 hb.trans (hst.st.chg.below (Nat.le_trans hn hs.n0le) fun _ ho=>Nat.le_trans hn (hs.own_lt ho).1)
theorem SStp.no {W W':World} {n0:Nat} {P P':Ph} {S S':ST} {b:Nat} (hst:SStp n0 P S W P' S' W') (hlt:b<W.heap.size) (hno:¬ OwnB (rows P S) b):¬ OwnB (rows P' S') b:=fun ho=>by
 rcases hst.st.own _ ho with h|h
 ·exact hno h
 ·omega
theorem zlj {P:Program} {ops:Array Oper} {o:Oper} {a:Act} {w:World} {K:Act->World->Prop} {Q:Exit->Act->World->Prop} {F:Prop} (hw:Region.wanted o (yielded ops a.tmps)=true) (x:Operand) (xs:List Operand) (ats:Array TypeId)
  (ho:o.op=.call { callee:=.value x,args:=xs.toArray,argTypes:=ats }) (f:FuncId) (fn:Func) (hf:IsFn P f fn) (hv:a.eval x=.func (.func f) #[] #[]) (l:List Value) (hargs:xs.map a.eval=l) (R:Value->World->Prop)
  (hc:Calls P f l.toArray w fun e w'=>∃ v,e=.returned v/\R v w') (h:∀ v w',R v w'->K (a.put o.dst v) w') :
  if Region.wanted o (yielded ops a.tmps)=true then Oper.wp P o a w K Q else F:=by
 rw[if_pos hw];subst hargs;have e:(execOp a.eval o).run P w=.ok (.enter f (xs.map a.eval).toArray) w:=by
  unfold execOp;simp only[ho,resolve,hv,Deferred.ofValue,Sem.run_bind,Sem.run_pure,Result.andThen_ok,invoke,zkC hf,Array.empty_append,List.map_toArray,Array.append_empty]
 unfold Oper.wp;rw[e,Oper.upon_enter];refine hc.mono ?_;rintro e w' ⟨v,rfl,hR⟩;exact h v w' hR
structure KS (w:World) (n0 sb:Nat) (kb:Nat->Prop) (W:World) (S:ST):Prop where
 bl:Below w.heap.size w W
 hn:w.heap.size<=n0
 sr:∃ P,SR W n0 P S/\P.sb=sb/\∀ b,kb b->b<W.heap.size/\¬ OwnB (rows P S) b
structure Kpt (n0:Nat) (kb:Nat->Prop) (W W':World):Prop where
 size:W.heap.size<=W'.heap.size
 kept:∀ b,b<W.heap.size->(b<n0\/kb b)->W'.heap[b]?=W.heap[b]?
section
variable {w W W' W'':World} {n0 sb:Nat} {kb kb':Nat->Prop} {S S':ST}
theorem Kpt.refl (n0:Nat) (kb:Nat->Prop) (W:World):Kpt n0 kb W W:=⟨Nat.le_refl _,fun _ _ _=>rfl⟩
theorem Kpt.trans (h:Kpt n0 kb W W') (h':Kpt n0 kb W' W''):Kpt n0 kb W W'':=⟨Nat.le_trans h.size h'.size,fun b hb hk=>(h'.kept b (Nat.lt_of_lt_of_le hb h.size) hk).trans (h.kept b hb hk)⟩
theorem Kpt.of_below (h:Below W.heap.size W W'):Kpt n0 kb W W':=⟨h.size,fun b hb _=>h.block b hb⟩
theorem Kpt.cell {b o:Nat} {u:Value} (h:Kpt n0 kb W W') (hk:b<n0\/kb b) (hc:W.cell? ⟨b,o,none⟩=some u):W'.cell? ⟨b,o,none⟩=some u :=
 zkp hc (h.kept b (World.block_lt_of_cell? W _ hc) hk)
theorem Kpt.blk {b:Nat} {o:Obj} (h:Kpt n0 kb W W') (hk:b<n0\/kb b) (hc:W.heap[b]?=some o):W'.heap[b]?=some o:=(h.kept b (zkj hc) hk).trans hc
theorem KS.n0le (h:KS w n0 sb kb W S):n0<=W.heap.size:=by obtain⟨P,hs,_⟩:=h.sr;exact hs.n0le
theorem KS.wf (h:KS w n0 sb kb W S):S.WF:=by obtain⟨P,hs,_⟩:=h.sr;exact hs.wf
theorem KS.later (h:KS w n0 sb kb W S) (hb:Below W.heap.size W W'):KS w n0 sb kb W' S:=by
 obtain⟨P,hs,e,hk⟩:=h.sr;exact⟨zka h.bl hb,h.hn,P,hs.later hb,e,fun b hb'=>⟨Nat.lt_of_lt_of_le (hk b hb').1 hb.size,(hk b hb').2⟩⟩
theorem KS.also (h:KS w n0 sb kb W S) (hb:Below W.heap.size W W') (hkb:∀ b,kb' b->kb b\/(W.heap.size<=b/\b<W'.heap.size)):KS w n0 sb kb' W' S:=by
 obtain⟨P,hs,e,hk⟩:=h.sr;refine⟨zka h.bl hb,h.hn,P,hs.later hb,e,fun b hb'=>?_⟩;rcases hkb b hb' with h1|⟨h1,h2⟩
 ·exact⟨Nat.lt_of_lt_of_le (hk b h1).1 hb.size,(hk b h1).2⟩
 ·exact⟨h2,fun ho=>by have:=(hs.own_lt ho).2;omega⟩
theorem KS.less (h:KS w n0 sb kb W S) (hkb:∀ b,kb' b->kb b):KS w n0 sb kb' W S:=h.also (Below.refl _ _) fun b hb=>.inl (hkb b hb)
theorem KS.new {P:Ph} {vs:List VD} {s:SS} {W0:World} (h0:Below w.heap.size w W0) (hb:Below W0.heap.size W0 W) (hs:SR W W0.heap.size P (newS vs s)):KS w W0.heap.size P.sb (fun _=>False) W (newS vs s) :=
 ⟨zka h0 hb,h0.size,P,hs,rfl,fun _ h=>h.elim⟩
def KP (w:World) (n0 sb:Nat) (kb:Nat->Prop) (W:World) (R:Int×ST) (e:Ending) (W':World):Prop:=e=.returned (.int .i64 R.1)/\KS w n0 sb kb W' R.2/\Kpt n0 kb W W'
theorem KS.stp {P P':Ph} (hbl:Below w.heap.size w W) (hn0:w.heap.size<=n0) (hs:SR W n0 P S) (hk:∀ b,kb b->b<W.heap.size/\¬ OwnB (rows P S) b) (hst:SStp n0 P S W P' S' W') (hsb:P'.sb=sb):KS w n0 sb kb W' S'/\Kpt n0 kb W W':=by
 refine⟨⟨hst.frame hs hbl hn0,hn0,P',hst.sr,hsb,fun b hb=>⟨Nat.lt_of_lt_of_le (hk b hb).1 hst.st.chg.size,hst.no (hk b hb).1 (hk b hb).2⟩⟩,hst.st.chg.size,fun b hlt hb=>hst.st.chg.block b hlt fun ho=>?_⟩;rcases hb with hb|hb
 ·have:=(hs.own_lt ho).1;omega
 ·exact(hk b hb).2 ho
theorem KS.dop (h:KS w n0 sb kb W S) {f:FuncId} {args:Array Value} {R:Int×ST} (hc:∀ P,SR W n0 P S->P.sb=sb->Calls Tryz.prog f args W (DoP n0 P S W R)):Calls Tryz.prog f args W (KP w n0 sb kb W R):=by
 obtain⟨P,hs,e,hk⟩:=h.sr;refine(hc P hs e).mono ?_;rintro e' W2 ⟨a1,P',a2,a3⟩;exact⟨a1,KS.stp h.bl h.hn hs hk a2 (a3.trans e)⟩
theorem KS.do_ (h:KS w n0 sb kb W S) (t:T) (v:Value) (hv:NV W Any t v):Calls Tryz.prog 27 #[.pointer (some ⟨sb,0,none⟩),v] W (KP w n0 sb kb W (doE S t)) :=
 h.dop fun _ hs e=>e▸zvu hs t v hv
theorem KS.undo (h:KS w n0 sb kb W S) (t:T) (v:Value) (hv:NV W Any t v):Calls Tryz.prog 172 #[.pointer (some ⟨sb,0,none⟩),v] W (KP w n0 sb kb W (zn1 S t)) :=
 h.dop fun _ hs e=>e▸zuU hs t v hv
theorem KS.open_ (h:KS w n0 sb kb W S) (v:VD) (hfv:FldV v) (x:Int) (hx:I64 x) (hlim:S.cur.vs.length+1<=4398046511000):Calls Tryz.prog 169 #[.pointer (some ⟨sb,0,none⟩),.agg #[.string v.s,.int .u8 v.k,.int .i64 v.n],.int .i64 x] W (KP w n0 sb kb W (zlX S v x)) :=
 h.dop fun _ hs e=>e▸zu1 hs v hfv x hx hlim
theorem KS.close (h:KS w n0 sb kb W S) (s:ByteArray) (x:Int):Calls Tryz.prog 170 #[.pointer (some ⟨sb,0,none⟩),.string s,.int .i64 x] W (KP w n0 sb kb W (zk9 S s x)) :=
 h.dop fun _ hs e=>e▸ztp hs s x
theorem KS.enter (h:KS w n0 sb kb W S) (ps:List VD) (ss:List ByteArray) (A D:Option Addr) (c d:Nat) (hp:RowV W Any A ps) (hs:RowS W D ss) (hlp:ps.length<=4398046511000) (hls:ss.length<=17592186044416):Calls Tryz.prog 184 #[.pointer (some ⟨sb,0,none⟩),.slice A ps.length c,.slice D ss.length d] W (KP w n0 sb kb W (zl0 S ps ss)) :=
 h.dop fun _ hs' e=>e▸zto hs' ps ss A D c d hp hs hlp hls
theorem KS.leave (h:KS w n0 sb kb W S):Calls Tryz.prog 185 #[.pointer (some ⟨sb,0,none⟩)] W (KP w n0 sb kb W (zl8 S)) :=
 h.dop fun _ hs e=>e▸zs5 hs
theorem KS.cell (h:KS w n0 sb kb W S) (s:ByteArray):Calls Tryz.prog 30 #[.pointer (some ⟨sb,0,none⟩),.string s] W (zxg W S s):=by
 obtain⟨P,hs,rfl,-⟩:=h.sr;exact zs1 hs s
theorem KS.state (h:KS w n0 sb kb W S):Calls Tryz.prog 28 #[.pointer (some ⟨sb,0,none⟩)] W fun e W'=>∃ v,e=.returned v/\OwnS W' W.heap.size S.state v/\Below W.heap.size W W':=by
 obtain⟨P,hs,rfl,-⟩:=h.sr;exact zs0 hs
end
theorem KS.chg {w W W':World} {n0 sb:Nat} {kb C:Nat->Prop} {S:ST} (h:KS w n0 sb kb W S) (hc:Chg C W W') (hC:∀ b,b<W.heap.size->C b->w.heap.size<=b/\(b<n0\/kb b)):KS w n0 sb kb W' S:=by
 obtain⟨P,hs,e,hk⟩:=h.sr;have hno:∀ b,OwnB (rows P S) b->¬ C b:=fun b ho hcb=>by
  obtain⟨-,h2⟩:=hC b (hs.own_lt ho).2 hcb;rcases h2 with h2|h2
  ·have:=(hs.own_lt ho).1;omega
  ·exact(hk b h2).2 ho
 refine⟨?_,h.hn,P,⟨hs.rws.chg hc fun i b hb=>hno b ⟨i,hb⟩,hs.wf⟩,e,fun b hb=>⟨Nat.lt_of_lt_of_le (hk b hb).1 hc.size,(hk b hb).2⟩⟩;exact⟨hc.os.trans h.bl.os,hc.tape.trans h.bl.tape,hc.output.trans h.bl.output,Nat.le_trans h.bl.size hc.size,fun b hb=>by
  rw[hc.block b (Nat.lt_of_lt_of_le hb h.bl.size) fun hcb=>by have:=(hC b (Nat.lt_of_lt_of_le hb h.bl.size) hcb).1;omega];exact h.bl.block b hb⟩
end Go.Proofs.YtghbhbdnkjjnnaaGreat
