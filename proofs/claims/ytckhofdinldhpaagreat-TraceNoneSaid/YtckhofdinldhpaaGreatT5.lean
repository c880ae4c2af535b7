/-
  Texts of the proof, put together without their remarks: Si, Sj, Ast3, Sk.
-/
import Derived.Test.YtckhofdinldhpaaGreatT4
set_option linter.unusedSimpArgs false
set_option linter.unusedVariables false
set_option maxHeartbeats 8000000
set_option maxRecDepth 100000
namespace Go.Proofs.YtckhofdinldhpaaGreat
open Go Go.RowKit
def ST.setL (S:ST) (id:Nat) (l:List Int):ST:={ S with cell:=fun j=>if j=id then l else S.cell j }
def ST.el (S:ST) (id i:Nat):Int:=(S.cell id).getD i 0
def ST.put (S:ST) (id i:Nat) (x:Int):ST:=S.setL id ((S.cell id).set i x)
def updE (k x y:Int):Int:=if k=40 then wrap64 (x+y) else if k=41 then wrap64 (x-y) else bits BinOp.xor IntKind.i64 x y
def moveE (S:ST) (k:Int) (id i sid:Nat):Int×ST :=
 if k=44 then (if 1000<=(S.cell sid).length then (5,S) else (0,(S.setL sid (S.cell sid++[S.el id i])).put id i 0))
 else if (S.cell sid).length=0 then (13,S)
 else if S.el id i≠0 then (14,S)
 else (0,(S.put id i (S.el sid ((S.cell sid).length-1))).setL sid ((S.cell sid).take ((S.cell sid).length-1)))
def transE (S:ST) (k:Int) (id i:Nat):Int×ST :=
 if k=46 then match S.tin with
  | []=>(17,S)
  | y::r=>if S.el id i≠0 then (14,S) else (0,({ S with tin:=r }:ST).put id i y)
 else if k=49 then (if S.tout=[] then (17,S) else if S.el id i≠0 then (14,S) else (0,({ S with tout:=S.tout.dropLast }:ST).put id i (S.tout.getLast?.getD 0)))
 else if k=47 then (if 4096<=S.tin.length then (5,S) else (0,({ S with tin:=S.el id i::S.tin }:ST).put id i 0))
 else (if 4096<=S.tout.length then (5,S) else (0,({ S with tout:=S.tout++[S.el id i] }:ST).put id i 0))
def CurK (S:ST) (id:Nat) (k:Int):Prop:=∃ (i:Nat) (v:VD),S.cur.vs[i]?=some v/\S.cur.cs[i]?=some id/\v.k=k
theorem CurK.kd {S:ST} {id:Nat} {k:Int} (h:CurK S id k) {kd:Nat->Int×Int} (hw:S.cur.WF kd S.nc):(kd id).1=k/\id<S.nc:=by
 obtain ⟨i,v,h1,h2,h3⟩:=h
 obtain ⟨a1,a2⟩:=List.getElem?_eq_some_iff.1 h1
 obtain ⟨b1,b2⟩:=List.getElem?_eq_some_iff.1 h2
 have:=hw.kind i a1 b1
 rw [b2,a2] at this
 exact ⟨by rw [this]; exact h3,b2▸hw.num _ (List.getElem_mem b1)⟩
theorem CurK.lt {S:ST} {id:Nat} {k:Int} (h:CurK S id k) (hw:S.WF):id<S.nc:=by
 obtain ⟨kd,h1⟩:=hw.cur
 exact (h.kd h1).2
theorem CurK.ne {S:ST} {id id':Nat} {k k':Int} (h:CurK S id k) (h':CurK S id' k') (hw:S.WF) (hk:k≠k'):id≠id':=fun e=>by
 obtain ⟨kd,h1⟩:=hw.cur
 subst e
 exact hk ((h.kd h1).1.symm.trans (h'.kd h1).1)
theorem WF_setL {S:ST} (h:S.WF) (id:Nat) (l:List Int) (hl:l.length=(S.cell id).length) (hx:∀ x∈l,I64 x):(S.setL id l).WF:=by
 obtain ⟨kd,h1,h2,h3⟩:=h.ex
 refine ⟨⟨kd,h1,h2,fun i hi=>?_⟩,h.ncalls,fun i hi=>?_,h.tin,h.tout⟩
 ·have:=h3 i hi
  simp only [ST.setL]
  by_cases e:i=id
  ·subst e; rw [if_pos rfl,hl]; exact this
  ·rw [if_neg e]; exact this
 ·have:=h.cells i hi
  simp only [ST.setL]
  by_cases e:i=id
  ·subst e; rw [if_pos rfl,hl]; exact ⟨this.1,hx⟩
  ·rw [if_neg e]; exact this
theorem WF_stk {S:ST} (h:S.WF) (id:Nat) (hk:CurK S id 3) (l:List Int) (hl:l.length<=1000) (hx:∀ x∈l,I64 x):(S.setL id l).WF:=by
 obtain ⟨kd,h1,h2,h3⟩:=h.ex
 have hc:S.cur.WF kd S.nc:=by
  rcases Nat.eq_zero_or_pos S.calls.length with h0|h0
  ·rw [cur_0 h0]; exact h1
  ·rw [cur_1 h0]; exact h2 _ (List.getElem_mem _)
 have hk3:=(hk.kd hc).1
 refine ⟨⟨kd,h1,h2,fun i hi=>?_⟩,h.ncalls,fun i hi=>?_,h.tin,h.tout⟩
 ·have:=h3 i hi
  simp only [ST.setL]
  by_cases e:i=id
  ·subst e; rw [if_pos rfl]; exact ⟨fun e=>by omega,fun e=>by omega,.inr (.inr hk3)⟩
  ·rw [if_neg e]; exact this
 ·have:=h.cells i hi
  simp only [ST.setL]
  by_cases e:i=id
  ·subst e; rw [if_pos rfl]; exact ⟨hl,hx⟩
  ·rw [if_neg e]; exact this
theorem el_I64 {S:ST} (h:S.WF) {id:Nat} (hid:id<S.nc) (i:Nat):I64 (S.el id i):=by
 unfold ST.el
 rcases Nat.lt_or_ge i (S.cell id).length with hi|hi
 ·rw [List.getD_eq_getElem?_getD,List.getElem?_eq_getElem hi]
  exact (h.cells id hid).2 _ (List.getElem_mem hi)
 ·rw [List.getD_eq_getElem?_getD,List.getElem?_eq_none hi]
  exact ⟨by decide,by decide⟩
theorem WF_put {S:ST} (h:S.WF) {id:Nat} (hid:id<S.nc) (i:Nat) (x:Int) (hx:I64 x):(S.put id i x).WF :=
 WF_setL h id _ (by simp) fun y hy=>by
  rcases List.mem_or_eq_of_mem_set hy with hy|rfl
  ·exact (h.cells id hid).2 y hy
  ·exact hx
def Ph.gI (P:Ph) (id:Nat):Nat:=(P.ci id).ownBlock.getD 0
def Ph.setI (P:Ph) (id:Nat) (vv:Value):Ph:={ P with ci:=fun j=>if j=id then vv else P.ci j }
theorem flatI_set (l:List Int) (i:Nat) (x:Int):flatI (l.set i x)=(flatI l).set i (.int .i64 x):=by simp [flatI,List.map_set]
theorem rows_put (P:Ph) (S:ST) (id i:Nat) (x:Int) (hid:id<S.nc):rows P (S.put id i x)=updR (rows P S) (.ci id) { rows P S (.ci id) with xs:=(rows P S (.ci id)).xs.set i (.int .i64 x) }:=by
 funext r
 cases r with
 | ci j =>
  by_cases e:j=id
  ·subst e
   simp [updR,rows,ST.put,ST.setL,hid,flatI_set]
  ·simp [updR,rows,ST.put,ST.setL,e]
 | cb j=>rfl
 | _=>simp [updR,rows,ST.put,ST.setL]
theorem rows_setI (P:Ph) (S:ST) (id:Nat) (vv:Value) (l:List Int) (hid:id<S.nc):rows (P.setI id vv) (S.setL id l)=updR (updR (rows P S) (.ci id) ⟨vv,3,1,l.length,flatI l⟩) (.cb id) { rows P S (.cb id) with xs:=(rows P S (.cb id)).xs.set 0 vv }:=by
 funext r
 cases r with
 | ci j =>
  by_cases e:j=id
  ·subst e
   simp [updR,rows,Ph.setI,ST.setL,hid]
  ·simp [updR,rows,Ph.setI,ST.setL,e]
 | cb j =>
  by_cases e:j=id
  ·subst e
   simp [updR,rows,Ph.setI,ST.setL,hid]
  ·simp [updR,rows,Ph.setI,ST.setL,e]
 | calls=>simp only [updR,reduceCtorEq,if_false,rows,ST.setL]; rw [flatF_congr (P:=P) (P':=P.setI id vv) rfl rfl]; rfl
 | _=>simp [updR,rows,Ph.setI,ST.setL]
section
variable {W:World} {n0:Nat} {P:Ph} {S:ST}
theorem SR.plc (h:SR W n0 P S) {id i:Nat} (hid:id<S.nc) (hi:i<(S.cell id).length):(∃ c,P.ci id=.slice (some ⟨P.gI id,0,none⟩) (S.cell id).length c/\(S.cell id).length<=c)/\W.cell? ⟨P.gI id,i,none⟩=some (.int .i64 (S.el id i))/\W.frozen? ⟨P.gI id,i,none⟩=false:=by
 have hr:=h.rws.row (.ci id)
 simp only [rows,hid,if_true] at hr
 obtain ⟨g,c,hv,hc,_,hcell⟩:=row_some hr (by omega)
 have hg:P.gI id=g:=by simp [Ph.gI,hv,Value.ownBlock]
 refine ⟨⟨c,by rw [hg]; exact hv,hc⟩,?_,?_⟩
 ·rw [hg,hcell i (by omega)]
  simp [flatI,ST.el,hi]
 ·exact h.rws.frozen (.ci id) (by simp only [rows,hid,if_true]; rw [hv,hg]; rfl) i
theorem SR.own (h:SR W n0 P S) {id i:Nat} (hid:id<S.nc) (hi:i<(S.cell id).length):(rows P S (.ci id)).v.ownBlock=some (P.gI id):=by
 obtain ⟨⟨c,hv,_⟩,_⟩:=h.plc hid hi
 simp only [rows,hid,if_true]
 rw [hv]; rfl
theorem SR.put (h:SR W n0 P S) {id i:Nat} (hid:id<S.nc) (hi:i<(S.cell id).length) (x:Int) (hx:I64 x):SStp n0 P S W P (S.put id i x) (W.setCell ⟨P.gI id,i,none⟩ (.int .i64 x)):=by
 refine ⟨?_,WF_put h.wf hid i x hx⟩
 have:=Stp.set (i:=Res.ci id) h.rws (g:=P.gI id) (h.own hid hi) (o:=i) (by simp only [rows,hid,if_true,flatI_len]; exact hi) (.int .i64 x)
 exact this.cast (rows_put P S id i x hid).symm
end
theorem SR.stk {W W2:World} {n0:Nat} {P:Ph} {S:ST} (h:SR W n0 P S) (sid:Nat) (hs:CurK S sid 3) (l:List Int) (vv:Value) (hl:l.length<=1000) (hx:∀ x∈l,I64 x) (hc:Chg (fun b=>(P.ci sid).ownBlock=some b) W W2) (ho:W2.ownsRow n0 3 1 vv l.length (flatI l)) (hob:∀ b,vv.ownBlock=some b->(P.ci sid).ownBlock=some b\/W.heap.size<=b) :
  W2.cell? ⟨P.cb sid,0,none⟩=some (P.ci sid)/\W2.frozen? ⟨P.cb sid,0,none⟩=false/\SStp n0 P S W (P.setI sid vv) (S.setL sid l) (W2.setCell ⟨P.cb sid,0,none⟩ vv):=by
 have hid:=hs.lt h.wf
 have ev:(rows P S (.ci sid)).v=P.ci sid:=by simp only [rows,hid,if_true]
 have s1:=Stp.upd (i:=Res.ci sid) (r:=⟨vv,3,1,l.length,flatI l⟩) h.rws (hc.mono fun b _ hb=>by rw [ev]; exact hb) ho (fun b hb=>by rw [ev]; exact hob b hb)
 have eb:updR (rows P S) (.ci sid) ⟨vv,3,1,l.length,flatI l⟩ (.cb sid)=rows P S (.cb sid):=updR_other (by simp)
 have eb2:rows P S (.cb sid)=⟨boxV (P.cb sid),100,1,1,[P.ci sid]⟩:=by simp only [rows,hid,if_true]
 have s2:=Stp.set (i:=Res.cb sid) s1.rws (g:=P.cb sid) (by rw [eb,eb2]; rfl) (o:=0) (by rw [eb,eb2]; exact Nat.one_pos) vv
 rw [eb] at s2
 refine ⟨s1.rws.cell (.cb sid) (g:=P.cb sid) (o:=0) (by rw [eb,eb2]; rfl) (by rw [eb,eb2]; rfl),s1.rws.frozen (.cb sid) (g:=P.cb sid) (by rw [eb,eb2]; rfl) 0,⟨(s1.trans s2).cast (rows_setI P S sid vv l hid).symm,WF_stk h.wf sid hs l hl hx⟩⟩
theorem intInf:(Tryz.prog.info? 3).map (fun i=>(i.zero,i.size,i.bytes))=some (some (.int .i64 0),1,8):=intInfo
theorem move_any {W:World} {n0:Nat} {P:Ph} {S:ST} (h:SR W n0 P S) (k:Int) (hk:k=44\/k=45) (id i sid:Nat) (hid:id<S.nc) (hi:i<(S.cell id).length) (hs:CurK S sid 3) (hne:id≠sid) :
  Calls Tryz.prog 113 #[.int .u8 k,.pointer (some ⟨P.gI id,i,none⟩),.pointer (some ⟨P.cb sid,0,none⟩)] W fun e W'=>e=.returned (.int .i64 (moveE S k id i sid).1)/\∃ P',SStp n0 P S W P' (moveE S k id i sid).2 W'/\P'.sb=P.sb:=by
 have hsid:=hs.lt h.wf
 obtain ⟨R,hR⟩:∃ R,moveE S k id i sid=R:=⟨_,rfl⟩
 rw [hR]
 have HRR:=zh hR
 have HS:=zh h
 have HK:=zh hs
 obtain ⟨A,c,hci,hc,hri⟩:=h.items hsid
 have hcs:=h.wf.cells sid hsid
 have x0:W.cell? ⟨P.cb sid,0,none⟩=some (.slice A (S.cell sid).length c):=by rw [<-hci]; exact zc (h.cbox hsid) rfl
 obtain ⟨-,p0,p1⟩:=h.plc hid hi
 obtain ⟨x,hx⟩:∃ x,S.el id i=x:=⟨_,rfl⟩
 rw [hx] at p0
 have HX:=zh hx
 obtain ⟨L,hL⟩:∃ L,(S.cell sid).length=L:=⟨_,rfl⟩
 rw [hL] at x0
 have HL:=zh hL
 have hL1:L<=1000:=by rw [<-hL]; exact hcs.1
 have HCI:=zh hci
 have HRI:=zh hri
 clear h hs hci hri hx hL hR hc
 rcases hk with rfl|rfl
 ·by_cases hf:1000<=L
  ·have HN:=zh (show R=(5,S) by rw [<-HRR.out,moveE,if_pos rfl,if_pos (by rw [HL.out]; exact hf)])
   obtain rfl:L=1000:=by omega
   go_enter Tryz.func113,Tryz.ntmps113
   go_wp2_with fail
   go_ret
   exact ⟨by rw [HN.out]; rfl,P,by rw [HN.out]; exact SStp.refl HS.out (Below.refl _ _),rfl⟩
  ·have HN:=zh (show R=(0,(S.setL sid (S.cell sid++[x])).put id i 0) by rw [<-HRR.out,moveE,if_pos rfl,if_neg (by rw [HL.out]; exact hf),HX.out])
   have hf1:¬ (1000:Int)<=(L:Int):=by omega
   obtain ⟨i1,hi1,hz0,hz1,hz2⟩:=info_parts intInf
   have hbi:=buildI1
   have hxI:I64 x:=by rw [<-HX.out]; exact el_I64 HS.out.wf hid i
   clear HRR
   go_enter Tryz.func113,Tryz.ntmps113
   go_upto_region 7 with fail
   have hSS:(fun w':World=>w'.cell? ⟨P.gI id,i,none⟩=some (.int .i64 x)) W.drew/\(fun w':World=>w'.cell? ⟨P.cb sid,0,none⟩=some (.slice A L c)) W.drew:=⟨p0,x0⟩
   refine wp_region_noPanic ?_
   refine wp_region_G (fun w':World=>w'.cell? ⟨P.gI id,i,none⟩=some (.int .i64 x)) (fun w':World=>w'.cell? ⟨P.cb sid,0,none⟩=some (.slice A L c)) 9 (by kernel_rfl) ?_
   refine zT 0 hSS ?_
   (try simp only [Act.put,zP])
   refine zT 1 hSS ?_
   (try simp only [Act.put,zP])
   refine zT 2 hSS ?_
   (try simp only [Act.put,zP])
   refine zT 3 hSS ?_
   (try simp only [Act.put,zP])
   refine wpG_take2 (i:=4) (v:=?_) rfl (by kernel_rfl) (by kernel_rfl) (by kernel_rfl) (by decide) rfl (by kernel_rfl) (by kernel_rfl) (fun _ _ _ h=>h) (Or.inl ⟨by rfl,?_⟩) hSS ?_
   rotate_left 1
   ·(intro w hSw; (try dsimp only at hSw); (try simp only [zA,zB,zC]); go_simp; (try with_reducible rfl))
   (try simp only [Act.put,zP])
   refine zT 5 hSS ?_
   (try simp only [Act.put,zP])
   refine zT 6 hSS ?_
   (try simp only [Act.put,zP])
   refine zT 7 hSS ?_
   (try simp only [Act.put,zP])
   refine wpG_one (i:=8) (by kernel_rfl) rfl (fun K hK=>?_)
   (try simp only [zA,zB,zC])
   go_simp
   refine hK.out _ _ ⟨cell_al p0 _,cell_al x0 _⟩ ?_
   clear hK K hSS
   (try simp only [Act.put,zP])
   obtain ⟨W2,hW2⟩:∃ W2,(W.alloc (.cells #[.int .i64 x] 3)).drew=W2:=⟨_,rfl⟩
   have hb2:Below W.heap.size W W2:=hW2▸(bl_al (Below.refl _ _) _).drew
   have HN2:=zh (show ∀ j u,[Value.int .i64 x][j]?=some u->W2.cell? ((⟨W.heap.size,0,none⟩:Addr).add j)=some u from hW2▸news_newN W 3 [.int .i64 x])
   have hrF:W2.ownsRow n0 3 1 (.slice A L c) L (flatI (S.cell sid)):=by
    have:=own_later (HS.out.rws.row (.ci sid)) hb2
    simp only [rows,hsid,if_true] at this
    rw [HCI.out,HL.out] at this
    exact this
   have hs2:=hb2.size
   have d0:=zb hb2 p0
   have hn0:=(HS.out.rws.lt .sb P.sb rfl)
   have HST:=zh (fun w3 vv=>SR.stk (W2:=w3) (HS.out.later hb2) sid HK.out (S.cell sid++[x]) vv (by rw [List.length_append,HL.out]; simp; omega) (fun y hy=>by
    simp only [List.mem_append,List.mem_singleton] at hy
    rcases hy with hy|rfl
    ·exact (hcs.2 y hy)
    ·exact hxI))
   rw [hW2]
   have hnb:∀ b,(P.ci sid).ownBlock=some b->b≠P.gI id:=fun b hb e=>by
    have h1:=HS.out.own hid hi
    rw [<-e] at h1
    exact HS.out.rws.sep (.ci id) (.ci sid) b (by simpa using hne) h1 (by simp only [rows,hsid,if_true]; exact hb)
   rw [HCI.out] at HST hnb
   rw [HL.out] at HST hnb
   have HNB:=zh hnb
   have HBB:=zh hb2
   clear hW2 hnb hb2
   refine wpG_past (i:=9) (by kernel_rfl) rfl (by kernel_rfl) (fun K hK=>?_)
   refine step_append_own (by rfl) (.tmp 47) (.tmp 51) 24 (by rfl) n0 3 i1 _ 1 8 Tryz.underlying24 hi1 hz0 hz1 hz2 rfl (by decide) (.slice A L c) L (flatI (S.cell sid)) (by rfl) hrF ⟨W.heap.size,0,none⟩ 1 1 [.int .i64 x] (by rfl) rfl HN2.out (by intro u hu; simp at hu; subst hu; rfl) (by unfold maxLen; omega) (by omega) (by omega) ?_
   intro v' w3 h2 h3 h5
   obtain ⟨g8,cap8,rfl⟩:=ownsRow_succ h2
   have hll:(S.cell sid++[x]).length=L+1:=by rw [List.length_append,HL.out]; rfl
   obtain ⟨z0,zf,hfin⟩:=HST.out w3 _ (Chg.row h3) (by rw [hll,flatI_app]; exact h2) (fun b hb=>by
    rcases h5 with h5|h5
    ·exact .inl (h5▸hb)
    ·exact .inr (by rw [h5] at hb; injection hb with hb; omega))
   have y0:w3.cell? ⟨P.gI id,i,none⟩=some (.int .i64 x):=chg_cell (Chg.row h3) d0 (fun e=>HNB.out _ e rfl)
   have hput:=SR.put (hfin.sr) (id:=id) (i:=i) hid (by show i<((S.setL sid _).cell id).length; simp only [ST.setL,if_neg hne]; exact hi) 0 ⟨by decide,by decide⟩
   have hgi:(P.setI sid (.slice (some ⟨g8,0,none⟩) (L+1) cap8)).gI id=P.gI id:=by simp [Ph.gI,Ph.setI,hne]
   rw [hgi] at hput
   have hcbne:P.cb sid≠P.gI id:=fun e=>by
    have h1:=HS.out.own hid hi
    exact HS.out.rws.sep (.ci id) (.cb sid) (P.gI id) (by simp) h1 (by simp only [rows,hsid,if_true]; rw [e]; rfl)
   have y1:(w3.setCell ⟨P.cb sid,0,none⟩ (.slice (some ⟨g8,0,none⟩) (L+1) cap8)).cell? ⟨P.gI id,i,none⟩=some (.int .i64 x):=(World.cell?_setCell_far _ _ _ _ hcbne).trans y0
   have HFIN:=zh (hfin.trans hput)
   have hfr:=hfin.sr.plc (id:=id) (i:=i) hid (by show i<((S.setL sid _).cell id).length; simp only [ST.setL,if_neg hne]; exact hi)
   rw [hgi] at hfr
   have yf:=hfr.2.2
   refine hK.out _ _ y0 ?_
   clear hK K h2 h3 h5 hfin hput hrF HN2 d0 hfr
   (try simp only [Act.put,zP])
   refine wpG_past (i:=10) (by kernel_rfl) rfl (by kernel_rfl) (fun K hK=>?_)
   (try simp only [zA,zB,zC])
   go_simp
   refine hK.out _ _ y0 ?_
   clear hK K
   (try simp only [Act.put,zP])
   refine wpG_past (i:=11) (by kernel_rfl) rfl (by kernel_rfl) (fun K hK=>?_)
   (try simp only [zA,zB,zC])
   go_simp
   refine hK.out _ _ y0 ?_
   clear hK K
   (try simp only [Act.put,zP])
   refine wpG_past (i:=12) (by kernel_rfl) rfl (by kernel_rfl) (fun K hK=>?_)
   (try simp only [zA,zB,zC])
   go_simp
   refine hK.out _ _ y1 ?_
   clear hK K
   (try simp only [Act.put,zP])
   refine wpG_done (by kernel_rfl) ?_
   refine NoPanic.normal ?_
   obtain ⟨w4,hw4⟩:∃ w4,w3.setCell ⟨P.cb sid,0,none⟩ (.slice (some ⟨g8,0,none⟩) (L+1) cap8)=w4:=⟨_,rfl⟩
   rw [hw4] at y1 yf HFIN ⊢
   clear hw4 z0 zf y0
   go_wp2_with fail
   go_ret
   refine ⟨by rw [HN.out]; rfl,P.setI sid (.slice (some ⟨g8,0,none⟩) (L+1) cap8),?_,rfl⟩
   rw [HN.out]
   exact ⟨HFIN.out.st.after HBB.out HS.out.rws,HFIN.out.wf⟩
 ·rcases Nat.eq_zero_or_pos L with h0|h0
  ·subst h0
   have HN:=zh (show R=(13,S) by rw [<-HRR.out,moveE,if_neg (by decide),if_pos HL.out])
   go_enter Tryz.func113,Tryz.ntmps113
   go_wp2_with fail
   go_ret
   exact ⟨by rw [HN.out]; rfl,P,by rw [HN.out]; exact SStp.refl HS.out (Below.refl _ _),rfl⟩
  ·obtain ⟨m,rfl⟩:∃ m,L=m+1:=⟨L-1,by omega⟩
   have hm0:¬ ((m:Int)+1=0):=by omega
   have hm1:(((m:Int)+1)==0)=false:=by simpa using hm0
   by_cases hx0:x=0
   ·subst hx0
    obtain ⟨a,rfl,hz⟩:=HRI.out.nd (i:=m) (by rw [HL.out]; omega)
    obtain ⟨y,hy⟩:∃ y,(S.cell sid).getD m 0=y:=⟨_,rfl⟩
    rw [hy] at hz
    have HN:=zh (show R=(0,(S.put id i y).setL sid ((S.cell sid).take m)) by
     rw [<-HRR.out,moveE,if_neg (by decide),if_neg (by rw [HL.out]; omega),if_neg (by rw [HX.out]; simp),HL.out]
     rw [show S.el sid (m+1-1)=y from hy]
     rfl)
    have hyI:I64 y:=by rw [<-hy]; exact el_I64 HS.out.wf hsid m
    have s1:=HS.out.put hid hi y hyI
    obtain ⟨g,c2,hv2,hc2,hm2,hcell2⟩:=row_some (HS.out.rws.row (.ci sid)) (by simp only [rows,hsid,if_true]; rw [HL.out]; omega)
    simp only [rows,hsid,if_true] at hv2 hc2
    rw [HL.out] at hc2
    rw [HCI.out] at hv2
    injection hv2 with a1 a2 a3
    injection a1 with a1
    subst a1 a3
    rw [Addr.add_lit,Nat.zero_add] at hz
    have hcbne:P.cb sid≠P.gI id:=fun e=>by
     have h1:=HS.out.own hid hi
     exact HS.out.rws.sep (.ci id) (.cb sid) (P.gI id) (by simp) h1 (by simp only [rows,hsid,if_true]; rw [e]; rfl)
    have x1:(W.setCell ⟨P.gI id,i,none⟩ (.int .i64 y)).cell? ⟨P.cb sid,0,none⟩=some (.slice (some ⟨g,0,none⟩) (m+1) c):=(World.cell?_setCell_far _ _ _ _ (Ne.symm hcbne)).trans x0
    have hrow1:(W.setCell ⟨P.gI id,i,none⟩ (.int .i64 y)).ownsRow n0 3 1 (.slice (some ⟨g,0,none⟩) m c) m (flatI ((S.cell sid).take m)):=by
     have:=s1.st.rws.row (.ci sid)
     have e1:rows P (S.put id i y) (.ci sid)=⟨.slice (some ⟨g,0,none⟩) (m+1) c,3,1,m+1,flatI (S.cell sid)⟩:=by
      rw [rows_put P S id i y hid,updR_other (by simpa using Ne.symm hne)]
      simp only [rows,hsid,if_true]
      rw [HCI.out,HL.out]
     rw [e1] at this
     have e2:flatI (S.cell sid)=flatI ((S.cell sid).take m)++(flatI (S.cell sid)).drop (m*1):=by rw [Nat.mul_one,flatI,flatI,List.map_take,List.take_append_drop]
     dsimp only at this
     rw [e2] at this
     exact ownsRow_pop (by rw [flatI_len,List.length_take,HL.out]; omega) this
    have hltm:((S.cell sid).take m).length=m:=by rw [List.length_take,HL.out]; omega
    have hcell1:(S.put id i y).cell sid=S.cell sid:=by simp [ST.put,ST.setL,Ne.symm hne]
    obtain ⟨z0,zf,hfin⟩:=SR.stk (W2:=W.setCell ⟨P.gI id,i,none⟩ (.int .i64 y)) s1.sr sid HK.out ((S.cell sid).take m) (.slice (some ⟨g,0,none⟩) m c) (by omega) (fun q hq=>hcs.2 q (List.mem_of_mem_take hq)) (Chg.refl _ _) (by rw [hltm]; exact hrow1) (fun b hb=>.inl (by rw [HCI.out]; exact hb))
    have HFIN:=zh (s1.trans hfin)
    have hw1:IntKind.i64.wrap (m:Int)=(m:Int):=IntWalk.i64_in _ (by omega)
    have hmc:(m:Int)<=(c:Int):=by omega
    have hmm:(m:Int)<(m:Int)+1:=by omega
    clear s1 hfin hrow1 z0 hcell2 HRR
    go_enter Tryz.func113,Tryz.ntmps113
    go_wp2_with fail
    go_ret
    refine ⟨by rw [HN.out]; rfl,P.setI sid (.slice (some ⟨g,0,none⟩) m c),?_,rfl⟩
    rw [HN.out]
    exact HFIN.out
   ·have HN:=zh (show R=(14,S) by rw [<-HRR.out,moveE,if_neg (by decide),if_neg (by rw [HL.out]; omega),if_pos (by rw [HX.out]; exact hx0)])
    have hx1:(x != 0)=true:=by simpa using hx0
    have hx2:(x==0)=false:=by simpa using hx0
    go_enter Tryz.func113,Tryz.ntmps113
    go_wp2_with fail
    go_ret
    exact ⟨by rw [HN.out]; rfl,P,by rw [HN.out]; exact SStp.refl HS.out (Below.refl _ _),rfl⟩
theorem fnTUnread:IsFn Tryz.prog 146 Tryz.f146:=⟨Tryz.func146,by kernel_rfl,by kernel_rfl⟩
theorem fnTWrite:IsFn Tryz.prog 148 Tryz.f148:=⟨Tryz.func148,by kernel_rfl,by kernel_rfl⟩
theorem SR.tp {W:World} {n0:Nat} {P:Ph} {S:ST} (h:SR W n0 P S):W.cell? ⟨P.sb,4,none⟩=some (.pointer (some ⟨P.tb,0,none⟩)):=zc h.box rfl
theorem transfer_any {W:World} {n0:Nat} {P:Ph} {S:ST} (h:SR W n0 P S) (k:Int) (hk:k=46\/k=49\/k=47\/k=48) (id i:Nat) (hid:id<S.nc) (hi:i<(S.cell id).length) :
  Calls Tryz.prog 114 #[.pointer (some ⟨P.sb,0,none⟩),.int .u8 k,.pointer (some ⟨P.gI id,i,none⟩)] W fun e W'=>e=.returned (.int .i64 (transE S k id i).1)/\∃ P',SStp n0 P S W P' (transE S k id i).2 W'/\P'.sb=P.sb:=by
 obtain ⟨R,hR⟩:∃ R,transE S k id i=R:=⟨_,rfl⟩
 rw [hR]
 have HRR:=zh hR
 have HS:=zh h
 have x4:=h.tp
 obtain ⟨-,p0,p1⟩:=h.plc hid hi
 obtain ⟨x,hx⟩:∃ x,S.el id i=x:=⟨_,rfl⟩
 rw [hx] at p0
 have HX:=zh hx
 have hxI:I64 x:=by rw [<-hx]; exact el_I64 h.wf hid i
 clear hR hx h
 rcases hk with rfl|rfl|rfl|rfl
 ·have HRD:=zh (Read_any HS.out)
  go_enter Tryz.func114,Tryz.ntmps114
  go_wp2_with fail
  refine HRD.out.mono ?_
  rintro e w1 hh
  rcases hh with ⟨h0,rfl,hb⟩|⟨y,r,h0,rfl,vv,hst⟩
  ·have HN:=zh (show R=(17,S) by rw [<-HRR.out,transE,if_pos rfl,h0])
   have HB:=zh hb
   clear h0 hb
   go_wp2_with fail
   go_ret
   exact ⟨by rw [HN.out]; rfl,P,by rw [HN.out]; exact SStp.refl HS.out HB.out,rfl⟩
  ·have ht:=HS.out.wf.tin
   rw [h0] at ht
   have hyI:I64 y:=ht.2 y (List.mem_cons_self ..)
   have y4:w1.cell? ⟨P.sb,4,none⟩=some (.pointer (some ⟨P.tb,0,none⟩)):=hst.sr.tp
   obtain ⟨-,r0,r1⟩:=hst.sr.plc (id:=id) (i:=i) hid hi
   have r0':w1.cell? ⟨P.gI id,i,none⟩=some (.int .i64 x):=by rw [<-HX.out]; exact r0
   have r1':w1.frozen? ⟨P.gI id,i,none⟩=false:=r1
   by_cases hx0:x=0
   ·subst hx0
    have HN:=zh (show R=(0,({ S with tin:=r }:ST).put id i y) by rw [<-HRR.out,transE,if_pos rfl,h0]; dsimp only; rw [HX.out]; simp)
    have HPT:=zh (hst.trans (hst.sr.put (id:=id) (i:=i) hid hi y hyI))
    clear h0 hst ht r0 r1
    go_wp2_with fail
    go_ret
    exact ⟨by rw [HN.out]; rfl,{ P with vI:=vv },by rw [HN.out]; exact HPT.out,rfl⟩
   ·have HN:=zh (show R=(14,S) by rw [<-HRR.out,transE,if_pos rfl,h0]; dsimp only; rw [HX.out,if_pos hx0])
    have hx1:(x != 0)=true:=by simpa using hx0
    have hx2:(x==0)=false:=by simpa using hx0
    have HUR:=zh (Unread_any hst.sr y hyI)
    have hrl:¬ 4096<=r.length:=by have:=ht.1; simp at this; omega
    have HST:=zh hst
    have H0:=zh h0
    clear h0 hst ht r0 r1
    go_wp2_with fail
    refine HUR.out.mono ?_
    rintro e w2 hh
    rcases hh with ⟨h1,rfl,hb⟩|⟨h1,rfl,vv2,hst2⟩
    ·exact absurd h1 hrl
    ·have HS2:=zh hst2
     clear h1 hst2
     go_wp2_with fail
     go_ret
     refine ⟨by rw [HN.out]; rfl,{ P with vI:=vv2 },?_,rfl⟩
     rw [HN.out]
     have h3:=HST.out.trans HS2.out
     have e3:({ { S with tin:=r } with tin:=y::({ S with tin:=r }:ST).tin }:ST)=S:=by
      show ({ S with tin:=y::r }:ST)=S
      rw [<-H0.out]
     rw [e3] at h3
     exact h3
 ·have HRD:=zh (Unwrite_any HS.out)
  go_enter Tryz.func114,Tryz.ntmps114
  go_wp2_with fail
  refine HRD.out.mono ?_
  rintro e w1 hh
  rcases hh with ⟨h0,rfl,hb⟩|⟨r,y,h0,rfl,vv,hst⟩
  ·have HN:=zh (show R=(17,S) by rw [<-HRR.out,transE,if_neg (by decide),if_pos rfl,if_pos h0])
   have HB:=zh hb
   clear h0 hb
   go_wp2_with fail
   go_ret
   exact ⟨by rw [HN.out]; rfl,P,by rw [HN.out]; exact SStp.refl HS.out HB.out,rfl⟩
  ·have ht:=HS.out.wf.tout
   rw [h0] at ht
   have hyI:I64 y:=ht.2 y (by simp)
   have hne:S.tout≠[]:=by rw [h0]; simp
   have hdl:S.tout.dropLast=r:=by rw [h0]; simp
   have hgl:S.tout.getLast?.getD 0=y:=by rw [h0]; simp
   have y4:w1.cell? ⟨P.sb,4,none⟩=some (.pointer (some ⟨P.tb,0,none⟩)):=hst.sr.tp
   obtain ⟨-,r0,r1⟩:=hst.sr.plc (id:=id) (i:=i) hid hi
   have r0':w1.cell? ⟨P.gI id,i,none⟩=some (.int .i64 x):=by rw [<-HX.out]; exact r0
   have r1':w1.frozen? ⟨P.gI id,i,none⟩=false:=r1
   by_cases hx0:x=0
   ·subst hx0
    have HN:=zh (show R=(0,({ S with tout:=r }:ST).put id i y) by rw [<-HRR.out,transE,if_neg (by decide),if_pos rfl,if_neg hne,hdl,hgl,HX.out]; simp)
    have HPT:=zh (hst.trans (hst.sr.put (id:=id) (i:=i) hid hi y hyI))
    clear h0 hst ht r0 r1 hne hdl hgl
    go_wp2_with fail
    go_ret
    exact ⟨by rw [HN.out]; rfl,{ P with vO:=vv },by rw [HN.out]; exact HPT.out,rfl⟩
   ·have HN:=zh (show R=(14,S) by rw [<-HRR.out,transE,if_neg (by decide),if_pos rfl,if_neg hne,HX.out,if_pos hx0])
    have hx1:(x != 0)=true:=by simpa using hx0
    have hx2:(x==0)=false:=by simpa using hx0
    have HUR:=zh (Write_any hst.sr y hyI)
    have hrl:¬ 4096<=r.length:=by have:=ht.1; simp at this; omega
    have HST:=zh hst
    have H0:=zh h0
    clear h0 hst ht r0 r1 hne hdl hgl
    go_wp2_with fail
    refine HUR.out.mono ?_
    rintro e w2 hh
    rcases hh with ⟨h1,rfl,hb⟩|⟨h1,rfl,vv2,hst2⟩
    ·exact absurd h1 hrl
    ·have HS2:=zh hst2
     clear h1 hst2
     go_wp2_with fail
     go_ret
     refine ⟨by rw [HN.out]; rfl,{ P with vO:=vv2 },?_,rfl⟩
     rw [HN.out]
     have h3:=HST.out.trans HS2.out
     have e3:({ { S with tout:=r } with tout:=({ S with tout:=r }:ST).tout++[y] }:ST)=S:=by
      show ({ S with tout:=r++[y] }:ST)=S
      rw [<-H0.out]
     rw [e3] at h3
     exact h3
 ·skip
  have had:Calls Tryz.prog 146 [.pointer (some ⟨P.tb,0,none⟩),.int .i64 x].toArray W.drew fun e W'=>∃ u,e=.returned u/\∃ y,u=.int .i64 y /\
    ((y=5/\R=(5,S)/\Below W.heap.size W W')\/(y=0/\R=(0,({ S with tin:=x::S.tin }:ST).put id i 0)/\∃ vv,SStp n0 P S W { P with vI:=vv } ({ S with tin:=x::S.tin }:ST) W')):=by
   refine (Unread_any (HS.out.later (Below.refl _ _).drew) x hxI).mono ?_
   rintro e W' hh
   rcases hh with ⟨h0,rfl,hb⟩|⟨h0,rfl,vv,hst⟩
   ·exact ⟨_,rfl,5,rfl,.inl ⟨rfl,by rw [<-HRR.out,transE,if_neg (by decide),if_neg (by decide),if_pos rfl,if_pos h0],bl_tt (Below.refl _ _).drew hb⟩⟩
   ·exact ⟨_,rfl,0,rfl,.inr ⟨rfl,by rw [<-HRR.out,transE,if_neg (by decide),if_neg (by decide),if_pos rfl,if_neg (by omega),HX.out],vv,⟨hst.st.after (Below.refl _ _).drew HS.out.rws,hst.wf⟩⟩⟩
  go_enter Tryz.func114,Tryz.ntmps114
  go_upto_region 17 with fail
  have hSS:(fun w':World=>w'.cell? ⟨P.sb,4,none⟩=some (.pointer (some ⟨P.tb,0,none⟩))/\w'.cell? ⟨P.gI id,i,none⟩=some (.int .i64 x)) W.drew/\(fun _:World=>True) W.drew:=⟨⟨x4,p0⟩,trivial⟩
  refine wp_region_noPanic ?_
  refine wp_region_G (fun w':World=>w'.cell? ⟨P.sb,4,none⟩=some (.pointer (some ⟨P.tb,0,none⟩))/\w'.cell? ⟨P.gI id,i,none⟩=some (.int .i64 x)) (fun _:World=>True) 7 (by kernel_rfl) ?_
  refine zT 0 hSS ?_
  (try simp only [Act.put,zP])
  refine zT 1 hSS ?_
  (try simp only [Act.put,zP])
  refine zT 2 hSS ?_
  (try simp only [Act.put,zP])
  refine zT 3 hSS ?_
  (try simp only [Act.put,zP])
  refine zT 4 hSS ?_
  (try simp only [Act.put,zP])
  refine zT 5 hSS ?_
  (try simp only [Act.put,zP])
  refine zT 6 hSS ?_
  (try simp only [Act.put,zP])
  refine wpG_past (i:=7) (by kernel_rfl) rfl (by kernel_rfl) (fun K hK=>?_)
  refine step_callL (by rfl) (.func 146) [.tmp 72,.tmp 75] _ (by rfl) 146 _ fnTUnread (by rfl) _ (by rfl) _ had ?_
  rintro v4 w4 ⟨y,rfl,hh⟩
  have HH:=zh hh
  have hS4:w4.cell? ⟨P.sb,4,none⟩=some (.pointer (some ⟨P.tb,0,none⟩))/\w4.cell? ⟨P.gI id,i,none⟩=some (.int .i64 x)/\w4.frozen? ⟨P.gI id,i,none⟩=false:=by
   rcases hh with ⟨_,_,hb⟩|⟨_,_,vv,hst⟩
   ·exact ⟨zb hb x4,zb hb p0,((HS.out.later hb).plc hid hi).2.2⟩
   ·have h9:=hst.sr.plc (id:=id) (i:=i) hid hi
    exact ⟨hst.sr.tp,by rw [<-HX.out]; exact h9.2.1,h9.2.2⟩
  obtain ⟨b4,b5,b6⟩:=hS4
  refine hK.out _ _ ⟨b4,b5⟩ ?_
  clear hK K hSS had hh
  (try simp only [Act.put,zP])
  refine wpG_past (i:=8) (by kernel_rfl) rfl (by kernel_rfl) (fun K hK=>?_)
  (try simp only [zA,zB,zC])
  go_simp
  refine hK.out _ _ ⟨b4,b5⟩ ?_
  clear hK K
  (try simp only [Act.put,zP])
  refine wpG_done (by kernel_rfl) ?_
  refine NoPanic.normal ?_
  rcases HH.out with ⟨rfl,h1,hb⟩|⟨rfl,h1,vv,hst⟩
  ·have HN:=zh h1
   have HB:=zh hb
   clear HH h1 hb
   go_wp2_with fail
   go_ret
   exact ⟨by rw [HN.out]; rfl,P,by rw [HN.out]; exact SStp.refl HS.out HB.out,rfl⟩
  ·have HN:=zh h1
   have HPT:=zh (hst.trans (hst.sr.put (id:=id) (i:=i) hid hi 0 ⟨by decide,by decide⟩))
   clear HH h1 hst
   go_wp2_with fail
   go_ret
   exact ⟨by rw [HN.out]; rfl,{ P with vI:=vv },by rw [HN.out]; exact HPT.out,rfl⟩
 ·skip
  have had:Calls Tryz.prog 148 [.pointer (some ⟨P.tb,0,none⟩),.int .i64 x].toArray W.drew fun e W'=>∃ u,e=.returned u/\∃ y,u=.int .i64 y /\
    ((y=5/\R=(5,S)/\Below W.heap.size W W')\/(y=0/\R=(0,({ S with tout:=S.tout++[x] }:ST).put id i 0)/\∃ vv,SStp n0 P S W { P with vO:=vv } ({ S with tout:=S.tout++[x] }:ST) W')):=by
   refine (Write_any (HS.out.later (Below.refl _ _).drew) x hxI).mono ?_
   rintro e W' hh
   rcases hh with ⟨h0,rfl,hb⟩|⟨h0,rfl,vv,hst⟩
   ·exact ⟨_,rfl,5,rfl,.inl ⟨rfl,by rw [<-HRR.out,transE,if_neg (by decide),if_neg (by decide),if_neg (by decide),if_pos h0],bl_tt (Below.refl _ _).drew hb⟩⟩
   ·exact ⟨_,rfl,0,rfl,.inr ⟨rfl,by rw [<-HRR.out,transE,if_neg (by decide),if_neg (by decide),if_neg (by decide),if_neg (by omega),HX.out],vv,⟨hst.st.after (Below.refl _ _).drew HS.out.rws,hst.wf⟩⟩⟩
  go_enter Tryz.func114,Tryz.ntmps114
  go_upto_region 19 with fail
  have hSS:(fun w':World=>w'.cell? ⟨P.sb,4,none⟩=some (.pointer (some ⟨P.tb,0,none⟩))/\w'.cell? ⟨P.gI id,i,none⟩=some (.int .i64 x)) W.drew/\(fun _:World=>True) W.drew:=⟨⟨x4,p0⟩,trivial⟩
  refine wp_region_noPanic ?_
  refine wp_region_G (fun w':World=>w'.cell? ⟨P.sb,4,none⟩=some (.pointer (some ⟨P.tb,0,none⟩))/\w'.cell? ⟨P.gI id,i,none⟩=some (.int .i64 x)) (fun _:World=>True) 7 (by kernel_rfl) ?_
  refine zT 0 hSS ?_
  (try simp only [Act.put,zP])
  refine zT 1 hSS ?_
  (try simp only [Act.put,zP])
  refine zT 2 hSS ?_
  (try simp only [Act.put,zP])
  refine zT 3 hSS ?_
  (try simp only [Act.put,zP])
  refine zT 4 hSS ?_
  (try simp only [Act.put,zP])
  refine zT 5 hSS ?_
  (try simp only [Act.put,zP])
  refine zT 6 hSS ?_
  (try simp only [Act.put,zP])
  refine wpG_past (i:=7) (by kernel_rfl) rfl (by kernel_rfl) (fun K hK=>?_)
  refine step_callL (by rfl) (.func 148) [.tmp 82,.tmp 85] _ (by rfl) 148 _ fnTWrite (by rfl) _ (by rfl) _ had ?_
  rintro v4 w4 ⟨y,rfl,hh⟩
  have HH:=zh hh
  have hS4:w4.cell? ⟨P.sb,4,none⟩=some (.pointer (some ⟨P.tb,0,none⟩))/\w4.cell? ⟨P.gI id,i,none⟩=some (.int .i64 x)/\w4.frozen? ⟨P.gI id,i,none⟩=false:=by
   rcases hh with ⟨_,_,hb⟩|⟨_,_,vv,hst⟩
   ·exact ⟨zb hb x4,zb hb p0,((HS.out.later hb).plc hid hi).2.2⟩
   ·have h9:=hst.sr.plc (id:=id) (i:=i) hid hi
    exact ⟨hst.sr.tp,by rw [<-HX.out]; exact h9.2.1,h9.2.2⟩
  obtain ⟨b4,b5,b6⟩:=hS4
  refine hK.out _ _ ⟨b4,b5⟩ ?_
  clear hK K hSS had hh
  (try simp only [Act.put,zP])
  refine wpG_past (i:=8) (by kernel_rfl) rfl (by kernel_rfl) (fun K hK=>?_)
  (try simp only [zA,zB,zC])
  go_simp
  refine hK.out _ _ ⟨b4,b5⟩ ?_
  clear hK K
  (try simp only [Act.put,zP])
  refine wpG_done (by kernel_rfl) ?_
  refine NoPanic.normal ?_
  rcases HH.out with ⟨rfl,h1,hb⟩|⟨rfl,h1,vv,hst⟩
  ·have HN:=zh h1
   have HB:=zh hb
   clear HH h1 hb
   go_wp2_with fail
   go_ret
   exact ⟨by rw [HN.out]; rfl,P,by rw [HN.out]; exact SStp.refl HS.out HB.out,rfl⟩
  ·have HN:=zh h1
   have HPT:=zh (hst.trans (hst.sr.put (id:=id) (i:=i) hid hi 0 ⟨by decide,by decide⟩))
   clear HH h1 hst
   go_wp2_with fail
   go_ret
   exact ⟨by rw [HN.out]; rfl,{ P with vO:=vv },by rw [HN.out]; exact HPT.out,rfl⟩
theorem Update_any (k x y:Int) (hk:k=40\/k=41\/k=42) (w:World):Calls Tryz.prog 112 #[.int .u8 k,.int .i64 x,.int .i64 y] w fun e w'=>e=.returned (.tuple #[.int .i64 (updE k x y),.int .i64 0])/\w'=w:=by
 rcases hk with rfl|rfl|rfl
 ·rw [show updE 40 x y=wrap64 (x+y) by simp [updE]]
  go_enter Tryz.func112,Tryz.ntmps112
  go_wp2_with fail
  go_ret2
  exact ⟨rfl,rfl⟩
 ·rw [show updE 41 x y=wrap64 (x-y) by simp [updE]]
  go_enter Tryz.func112,Tryz.ntmps112
  go_wp2_with fail
  go_ret2
  exact ⟨rfl,rfl⟩
 ·rw [show updE 42 x y=bits BinOp.xor IntKind.i64 x y by simp [updE]]
  go_enter Tryz.func112,Tryz.ntmps112
  go_wp2_with fail
  go_ret2
  exact ⟨rfl,rfl⟩
theorem wrapI64 (x:Int):I64 (IntKind.i64.wrap x):=by
 rw [IntKind.wrap_i64]
 unfold I64
 omega
theorem upd_I64 (k x y:Int):I64 (updE k x y):=by
 unfold updE
 split
 ·unfold wrap64 I64; omega
 ·split
  ·unfold wrap64 I64; omega
  ·exact wrapI64 _
theorem findV_last:∀ (vs:List VD) (s:ByteArray) (j:Nat),j<=vs.length->findV (vs.take j) s=(lastI vs s j).bind fun i=>vs[i]?
 | vs,s,0,_=>by simp [findV,lastI]
 | vs,s,j+1,h=>by
  rw [findV_take (by omega),lastI_succ (by omega),findV_last vs s j (by omega)]
  by_cases e:vs[j].s.toList=s.toList
  ·have e':(vs[j].s.toList==s.toList)=true:=by simpa using e
   have hj:j<vs.length:=by omega
   rw [if_pos e,if_pos e']
   simp [hj]
  ·have e':¬ (vs[j].s.toList==s.toList)=true:=by simpa using e
   rw [if_neg e,if_neg e']
theorem findV_at (f:FR) (s:ByteArray):findV f.vs s=(f.at s).bind fun i=>f.vs[i]?:=by
 have:=findV_last f.vs s f.vs.length (Nat.le_refl _)
 rw [List.take_of_length_le (Nat.le_refl _)] at this
 exact this
theorem num_of {S:ST} (h:S.WF) {s:ByteArray} {v:VD} (hv:findV S.cur.vs s=some v):∃ id,S.num s=some id/\CurK S id v.k:=by
 rw [findV_at,Option.bind_eq_some_iff] at hv
 obtain ⟨i,h1,h2⟩:=hv
 obtain ⟨kd,hw⟩:=h.cur
 have hi:=FR.at_lt h1
 have hc:i<S.cur.cs.length:=by rw [hw.len]; exact hi
 refine ⟨S.cur.cs[i],by rw [ST.num,h1]; simp [hc],i,v,h2,List.getElem?_eq_getElem hc,rfl⟩
theorem flt_own {vs:List VD} {k n:Int} {s:ByteArray} {ks:List T} (h:fltE vs (.nd k n s ks)=0):ownE vs k s=0/\fltEs vs ks=0:=by
 rw [fltE] at h
 split at h
 ·contradiction
 ·next h1=>exact ⟨Classical.not_not.1 h1,h⟩
theorem flts_mem {vs:List VD}:∀ {ks:List T},fltEs vs ks=0->∀ t∈ks,fltE vs t=0
 | t::ts,h,u,hu=>by
  rw [fltEs] at h
  split at h
  ·contradiction
  ·next h1 =>
   rcases List.mem_cons.1 hu with rfl|hu
   ·exact Classical.not_not.1 h1
   ·exact flts_mem h u hu
theorem own_find {vs:List VD} {k:Int} {s:ByteArray} (h:ownE vs k s=0) (hn:needE k≠0):∃ v,findV vs s=some v/\v.k=needE k:=by
 rw [ownE,if_neg hn] at h
 cases hf:findV vs s with
 | none=>rw [hf] at h; cases h
 | some v =>
  rw [hf] at h
  dsimp only at h
  split at h
  ·next h1=>exact ⟨v,rfl,h1⟩
  ·cases h
theorem plc_num {S:ST} (h:S.WF) {p:T} (hp:isP p=true) (hf:fltE S.cur.vs p=0):∃ id k,S.num p.s=some id/\CurK S id k/\k≠3:=by
 obtain ⟨k,n,s,ks⟩:=p
 simp only [isP,T.k_nd,Bool.and_eq_true,Bool.or_eq_true,beq_iff_eq] at hp
 obtain ⟨h1,_⟩:=flt_own hf
 rcases hp.1 with rfl|rfl
 ·obtain ⟨v,h2,h3⟩:=own_find h1 (by decide)
  obtain ⟨id,h4,h5⟩:=num_of h h2
  exact ⟨id,v.k,h4,h5,by rw [h3]; decide⟩
 ·obtain ⟨v,h2,h3⟩:=own_find h1 (by decide)
  obtain ⟨id,h4,h5⟩:=num_of h h2
  exact ⟨id,v.k,h4,h5,by rw [h3]; decide⟩
def swapS (S:ST) (id i jd j:Nat):ST:=(S.put id i (S.el jd j)).put jd j (S.el id i)
def exec3 (S:ST) (k:Int) (s qs:ByteArray) (r2:Int) (id i:Nat):Int×ST :=
 if k=40\/k=41\/k=42 then (0,S.put id i (updE k (S.el id i) r2))
 else if k=43 then match S.num qs with
  | none=>(0,S)
  | some jd=>if 0<=r2/\r2<(S.cell jd).length then (0,swapS S id i jd r2.toNat) else (12,S)
 else if k=44\/k=45 then match S.num s with
  | none=>(0,S)
  | some sid=>moveE S k id i sid
 else transE S k id i
def rightE (S:ST) (k:Int) (q:T):Int×Int:=if k=43 then indE S.look q else if k=40\/k=41\/k=42 then exprE S.look q else (0,0)
def exec2 (S:ST) (k:Int) (s ps qs:ByteArray) (r1:Int) (r2:Int×Int):Int×ST :=
 if r2.2≠0 then (r2.2,S) else match S.num ps with
  | none=>(0,S)
  | some id=>if 0<=r1/\r1<(S.cell id).length then exec3 S k s qs r2.1 id r1.toNat else (12,S)
def exec1 (S:ST) (k:Int) (s:ByteArray) (p q:T) (r1 r2:Int×Int):Int×ST:=if r1.2≠0 then (r1.2,S) else exec2 S k s p.s q.s r1.1 r2
def nil0:T:=.nd 0 0 ⟨#[]⟩ []
def execE (S:ST):T->Int×ST
 | .nd k _ s ks=>exec1 S k s (ks.getD 0 nil0) (ks.getD 1 nil0) (indE S.look (ks.getD 0 nil0)) (rightE S k (ks.getD 1 nil0))
def doE (S:ST) (t:T):Int×ST :=
 if isS t=false then (3,S) else if t.k=56 then (9,S) else if basB t.k=false then (7,S) else if fltE S.cur.vs t≠0 then (fltE S.cur.vs t,S) else execE S t
def undoE (S:ST):T->Int×ST
 | .nd k n s ks=>doE S (.nd (invK1 k) n s ks)
theorem fnSCell:IsFn Tryz.prog 111 Tryz.f111:=⟨Tryz.func111,by kernel_rfl,by kernel_rfl⟩
theorem fnMove:IsFn Tryz.prog 113 Tryz.f113:=⟨Tryz.func113,by kernel_rfl,by kernel_rfl⟩
theorem exec_one {W:World} {n0:Nat} {P:Ph} {S:ST} (h:SR W n0 P S) (k n:Int) (s:ByteArray) (p:T) (v:Value) (hv:NV W Any (.nd k n s [p]) v) (hk:44<=k/\k<=49) (id:Nat) (hid:S.num p.s=some id) (kp:Int) (hck:CurK S id kp) (hkp:kp≠3)
  (hst:k=44\/k=45->∃ sid,S.num s=some sid/\CurK S sid 3) :
  Calls Tryz.prog 60 #[.pointer (some ⟨P.sb,0,none⟩),v] W fun e W'=>e=.returned (.int .i64 (exec1 S k s p nil0 (indE S.look p) (0,0)).1)/\∃ P',SStp n0 P S W P' (exec1 S k s p nil0 (indE S.look p) (0,0)).2 W'/\P'.sb=P.sb:=by
 obtain ⟨A,c,rfl,hf,hlk,hlc,hrow⟩:=hv.open_
 simp only [T.k_nd,T.n_nd,T.s_nd,T.ks_nd] at *
 obtain ⟨R,hR⟩:∃ R,exec1 S k s p nil0 (indE S.look p) (0,0)=R:=⟨_,rfl⟩
 rw [hR]
 have HRR:=zh hR
 have HS:=zh h
 have HL:=zh (lookC n0 P S h.wf)
 obtain ⟨a,t0,A2,c2,rfl,_,Ht,⟨y0,y1,y2,y3⟩,hn0⟩:=hrow.nd (i:=0) (by simp)
 simp only [Nat.zero_mul,Addr.add_zero',List.length_cons,List.length_nil,Nat.zero_add] at *
 have ht0:t0=p:=Ht.out.symm
 subst ht0
 have hbx:=box4 (heap_alloc_new W (.cells #[.int .u8 k,.int .i64 n,.string s,.slice (some a) 1 c] 29))
 have HBK:=zh (heap_alloc_new W (.cells #[.int .u8 k,.int .i64 n,.string s,.slice (some a) 1 c] 29))
 obtain ⟨W0,hW0⟩:∃ W0,W.alloc (.cells #[.int .u8 k,.int .i64 n,.string s,.slice (some a) 1 c] 29)=W0:=⟨_,rfl⟩
 have q0:Below W.heap.size W W0:=hW0▸bl_al (Below.refl _ _) _
 rw [hW0] at hbx HBK
 have HQ0:=zh q0
 have z0:=zb q0 y0
 have z1:=zb q0 y1
 have z2:=zb q0 y2
 have z3:=zb q0 y3
 obtain ⟨⟨iv,ie⟩,hiv⟩:∃ r,indE S.look t0=r:=⟨_,rfl⟩
 have HIX:=zh (Index_any HL.out t0 _ W0 (hn0.later q0) (h.later q0))
 rw [hiv] at HIX
 have HRX:=zh (show R=exec1 S k s t0 nil0 (iv,ie) (0,0) by rw [<-hR,hiv])
 have HCE:=zh (fun W' (hb:Below W.heap.size W W')=>scell_any (h.later hb) t0.s id hid)
 obtain ⟨x0,x1,x2,x3⟩:=hbx
 have hidn:=hck.lt h.wf
 have HCK:=zh hck
 have HID:=zh hid
 clear hR hiv h hv hn0 hrow hlk hlc y0 y1 y2 y3 q0 hf hck hid
 have k40:(k==40)=false:=by simp; omega
 have k41:(k==41)=false:=by simp; omega
 have k42:(k==42)=false:=by simp; omega
 have k43:(k==43)=false:=by simp; omega
 go_enter Tryz.func60,Tryz.ntmps60
 go_wp2_with fail
 refine HIX.out.mono ?_
 rintro e w1 ⟨rfl,bw1⟩
 have HB1:=zh (bl_tt HQ0.out bw1)
 have HK1:=zh (blk_bl HBK.out bw1)
 have u0:=zb bw1 z0
 have u1:=zb bw1 z1
 have u2:=zb bw1 z2
 have u3:=zb bw1 z3
 have v0:=zb bw1 x0
 have v2:=zb bw1 x2
 have v3:=zb bw1 x3
 clear bw1 z0 z1 z2 z3 x0 x1 x2 x3
 dsimp only
 by_cases he:ie=0
 ·subst he
  have HR1:=zh (show R=exec2 S k s t0.s nil0.s iv (0,0) by rw [HRX.out,exec1,if_neg (by simp)])
  go_wp2_with fail
  refine (HCE.out _ HB1.out).mono ?_
  rintro e w2 ⟨rfl,bw2⟩
  have HB2:=zh (bl_tt HB1.out bw2)
  have HK2:=zh (blk_bl HK1.out bw2)
  have r0:=zb bw2 v0
  have r2:=zb bw2 v2
  have HS2:=zh (HS.out.later HB2.out)
  clear u0 u1 u2 u3 v0 v2 v3 bw2
  have HR2:=zh (show R=if 0<=iv/\iv<(S.cell id).length then exec3 S k s nil0.s 0 id iv.toNat else (12,S) by
   rw [HR1.out,exec2,if_neg (by simp),HID.out])
  by_cases hr:0<=iv/\iv<((S.cell id).length:Int)
  ·obtain ⟨i,rfl⟩:∃ i:Nat,iv=i:=⟨iv.toNat,by omega⟩
   have hi:i<(S.cell id).length:=by omega
   have HR3:=zh (show R=exec3 S k s nil0.s 0 id i by rw [HR2.out,if_pos hr]; rfl)
   obtain ⟨⟨c3,hci,hc3⟩,p0,p1⟩:=HS2.out.plc hidn hi
   have w0:w2.cell? ⟨P.cb id,0,none⟩=some (.slice (some ⟨P.gI id,0,none⟩) (S.cell id).length c3):=by rw [<-hci]; exact zc (HS2.out.cbox hidn) rfl
   obtain ⟨m,hm⟩:∃ m,(S.cell id).length=m:=⟨_,rfl⟩
   have HM:=zh hm
   rw [hm] at w0
   have hi1:¬ (i:Int)<0:=by omega
   have hi2:¬ (m:Int)<=(i:Int):=by omega
   have hi3:(i:Int)<(m:Int):=by omega
   clear HR1 HR2 hr hci hc3 hm
   by_cases h45:k=44\/k=45
   ·obtain ⟨sid,hs1,hs2⟩:=hst h45
    have hne:=HCK.out.ne hs2 HS.out.wf hkp
    have HR4:=zh (show R=moveE S k id i sid by
     rw [HR3.out,exec3,if_neg (by omega),if_neg (by omega),if_pos h45,hs1])
    have HMV:=zh (fun W' (hb:Below W.heap.size W W')=>move_any (HS.out.later hb) k h45 id i sid hidn hi hs2 hne)
    have HSC:=zh (fun W' (hb:Below W.heap.size W W')=>scell_any (HS.out.later hb) s sid hs1)
    have kk:(k==44||k==45)=true:=by rcases h45 with rfl|rfl<;>rfl
    clear hs1 hs2 HR3 HID
    rcases h45 with rfl|rfl
    ·skip
     go_upto_region 34 with fail
     have hSS:(fun w':World=>w'.cell? ⟨W.heap.size,0,none⟩=some (.int .u8 44)/\w'.cell? ⟨W.heap.size,2,none⟩=some (.string s)) w2.drew/\(fun _:World=>True) w2.drew:=⟨⟨r0,r2⟩,trivial⟩
     refine wp_region_noPanic ?_
     refine wp_region_G (fun w':World=>w'.cell? ⟨W.heap.size,0,none⟩=some (.int .u8 44)/\w'.cell? ⟨W.heap.size,2,none⟩=some (.string s)) (fun _:World=>True) 7 (by kernel_rfl) ?_
     refine zT 0 hSS ?_
     (try simp only [Act.put,zP])
     refine zT 1 hSS ?_
     (try simp only [Act.put,zP])
     refine zT 2 hSS ?_
     (try simp only [Act.put,zP])
     refine zT 3 hSS ?_
     (try simp only [Act.put,zP])
     refine zT 4 hSS ?_
     (try simp only [Act.put,zP])
     refine zT 5 hSS ?_
     (try simp only [Act.put,zP])
     have had:Calls Tryz.prog 111 [.pointer (some ⟨P.sb,0,none⟩),.string s].toArray w2.drew fun e W'=>∃ u,e=.returned u/\u=.pointer (some ⟨P.cb sid,0,none⟩)/\Below w2.drew.heap.size w2.drew W' :=
      (HSC.out _ HB2.out.drew).mono fun e W' hh=>⟨_,hh.1,rfl,hh.2⟩
     refine wpG_one (i:=6) (by kernel_rfl) rfl (fun K hK=>?_)
     refine step_callL (by rfl) (.func 111) [.tmp 138,.tmp 140] _ (by rfl) 111 _ fnSCell (by rfl) _ (by rfl) _ had ?_
     rintro v4 w4 ⟨rfl,hb4⟩
     have HB4:=zh (bl_tt HB2.out.drew hb4)
     have t0':=zb hb4 (show w2.drew.cell? _=_ from r0)
     have t2':=zb hb4 (show w2.drew.cell? _=_ from r2)
     refine hK.out _ _ ⟨⟨t0',t2'⟩,trivial⟩ ?_
     clear hK K hSS had hb4
     (try simp only [Act.put,zP])
     have had:Calls Tryz.prog 113 [.int .u8 44,.pointer (some ⟨P.gI id,i,none⟩),.pointer (some ⟨P.cb sid,0,none⟩)].toArray w4 fun e W'=>∃ u,e=.returned u/\u=.int .i64 R.1/\∃ P',SStp n0 P S w4 P' R.2 W'/\P'.sb=P.sb:=by
      refine (HMV.out _ HB4.out).mono ?_
      rintro e W' ⟨h1,h2⟩
      rw [<-HR4.out] at h1 h2
      exact ⟨_,h1,rfl,h2⟩
     refine wpG_past (i:=7) (by kernel_rfl) rfl (by kernel_rfl) (fun K hK=>?_)
     refine step_callL (by rfl) (.func 113) [.tmp 136,.tmp 137,.tmp 141] _ (by rfl) 113 _ fnMove (by rfl) _ (by rfl) _ had ?_
     rintro v5 w5 ⟨rfl,P',hs5,hp5⟩
     have hno:¬ OwnB (rows P S) W.heap.size:=fun ⟨q,hq⟩=>by have:=(HS.out.rws.lt q _ hq).2; omega
     have HF:=zh hs5
     have HP:=zh hp5
     have b0:=chg_cell hs5.st.chg t0' hno
     have b2:=chg_cell hs5.st.chg t2' hno
     refine hK.out _ _ ⟨b0,b2⟩ ?_
     clear hK K had hs5 hp5
     (try simp only [Act.put,zP])
     refine wpG_past (i:=8) (by kernel_rfl) rfl (by kernel_rfl) (fun K hK=>?_)
     (try simp only [zA,zB,zC])
     go_simp
     refine hK.out _ _ ⟨b0,b2⟩ ?_
     clear hK K
     (try simp only [Act.put,zP])
     refine wpG_done (by kernel_rfl) ?_
     refine NoPanic.normal ?_
     go_wp2_with fail
     go_ret
     exact ⟨rfl,P',⟨HF.out.st.after HB4.out HS.out.rws,HF.out.wf⟩,HP.out⟩
    ·skip
     go_upto_region 34 with fail
     have hSS:(fun w':World=>w'.cell? ⟨W.heap.size,0,none⟩=some (.int .u8 45)/\w'.cell? ⟨W.heap.size,2,none⟩=some (.string s)) w2.drew/\(fun _:World=>True) w2.drew:=⟨⟨r0,r2⟩,trivial⟩
     refine wp_region_noPanic ?_
     refine wp_region_G (fun w':World=>w'.cell? ⟨W.heap.size,0,none⟩=some (.int .u8 45)/\w'.cell? ⟨W.heap.size,2,none⟩=some (.string s)) (fun _:World=>True) 7 (by kernel_rfl) ?_
     refine zT 0 hSS ?_
     (try simp only [Act.put,zP])
     refine zT 1 hSS ?_
     (try simp only [Act.put,zP])
     refine zT 2 hSS ?_
     (try simp only [Act.put,zP])
     refine zT 3 hSS ?_
     (try simp only [Act.put,zP])
     refine zT 4 hSS ?_
     (try simp only [Act.put,zP])
     refine zT 5 hSS ?_
     (try simp only [Act.put,zP])
     have had:Calls Tryz.prog 111 [.pointer (some ⟨P.sb,0,none⟩),.string s].toArray w2.drew fun e W'=>∃ u,e=.returned u/\u=.pointer (some ⟨P.cb sid,0,none⟩)/\Below w2.drew.heap.size w2.drew W' :=
      (HSC.out _ HB2.out.drew).mono fun e W' hh=>⟨_,hh.1,rfl,hh.2⟩
     refine wpG_one (i:=6) (by kernel_rfl) rfl (fun K hK=>?_)
     refine step_callL (by rfl) (.func 111) [.tmp 138,.tmp 140] _ (by rfl) 111 _ fnSCell (by rfl) _ (by rfl) _ had ?_
     rintro v4 w4 ⟨rfl,hb4⟩
     have HB4:=zh (bl_tt HB2.out.drew hb4)
     have t0':=zb hb4 (show w2.drew.cell? _=_ from r0)
     have t2':=zb hb4 (show w2.drew.cell? _=_ from r2)
     refine hK.out _ _ ⟨⟨t0',t2'⟩,trivial⟩ ?_
     clear hK K hSS had hb4
     (try simp only [Act.put,zP])
     have had:Calls Tryz.prog 113 [.int .u8 45,.pointer (some ⟨P.gI id,i,none⟩),.pointer (some ⟨P.cb sid,0,none⟩)].toArray w4 fun e W'=>∃ u,e=.returned u/\u=.int .i64 R.1/\∃ P',SStp n0 P S w4 P' R.2 W'/\P'.sb=P.sb:=by
      refine (HMV.out _ HB4.out).mono ?_
      rintro e W' ⟨h1,h2⟩
      rw [<-HR4.out] at h1 h2
      exact ⟨_,h1,rfl,h2⟩
     refine wpG_past (i:=7) (by kernel_rfl) rfl (by kernel_rfl) (fun K hK=>?_)
     refine step_callL (by rfl) (.func 113) [.tmp 136,.tmp 137,.tmp 141] _ (by rfl) 113 _ fnMove (by rfl) _ (by rfl) _ had ?_
     rintro v5 w5 ⟨rfl,P',hs5,hp5⟩
     have hno:¬ OwnB (rows P S) W.heap.size:=fun ⟨q,hq⟩=>by have:=(HS.out.rws.lt q _ hq).2; omega
     have HF:=zh hs5
     have HP:=zh hp5
     have b0:=chg_cell hs5.st.chg t0' hno
     have b2:=chg_cell hs5.st.chg t2' hno
     refine hK.out _ _ ⟨b0,b2⟩ ?_
     clear hK K had hs5 hp5
     (try simp only [Act.put,zP])
     refine wpG_past (i:=8) (by kernel_rfl) rfl (by kernel_rfl) (fun K hK=>?_)
     (try simp only [zA,zB,zC])
     go_simp
     refine hK.out _ _ ⟨b0,b2⟩ ?_
     clear hK K
     (try simp only [Act.put,zP])
     refine wpG_done (by kernel_rfl) ?_
     refine NoPanic.normal ?_
     go_wp2_with fail
     go_ret
     exact ⟨rfl,P',⟨HF.out.st.after HB4.out HS.out.rws,HF.out.wf⟩,HP.out⟩
   ·have h49:k=46\/k=49\/k=47\/k=48:=by omega
    have k44:(k==44)=false:=by simp; omega
    have k45:(k==45)=false:=by simp; omega
    have HR4:=zh (show R=transE S k id i by rw [HR3.out,exec3,if_neg (by omega),if_neg (by omega),if_neg h45])
    have HTR:=zh (transfer_any HS2.out k h49 id i hidn hi)
    rw [<-HR4.out] at HTR
    clear HR3 p0 p1
    go_wp2_with fail
    refine HTR.out.mono ?_
    rintro e w3 ⟨rfl,P',hs3,hp3⟩
    have HF:=zh hs3
    have HP:=zh hp3
    clear hs3 hp3
    go_wp2_with fail
    go_ret
    exact ⟨rfl,P',⟨HF.out.st.after HB2.out HS.out.rws,HF.out.wf⟩,HP.out⟩
  ·have HN:=zh (show R=(12,S) by rw [HR2.out,if_neg hr])
   obtain ⟨A3,c3,hci,hc3,hri⟩:=HS2.out.items hidn
   have w0:w2.cell? ⟨P.cb id,0,none⟩=some (.slice A3 (S.cell id).length c3):=by rw [<-hci]; exact zc (HS2.out.cbox hidn) rfl
   obtain ⟨m,hm⟩:∃ m,(S.cell id).length=m:=⟨_,rfl⟩
   rw [hm] at w0 hr
   clear HR1 HR2 hci hc3 hri hm
   by_cases hneg:iv<0
   ·go_wp2_with fail
    go_ret
    exact ⟨by rw [HN.out]; rfl,P,by rw [HN.out]; exact SStp.refl HS.out HB2.out,rfl⟩
   ·have hge:(m:Int)<=iv:=by omega
    go_wp2_with fail
    go_ret
    exact ⟨by rw [HN.out]; rfl,P,by rw [HN.out]; exact SStp.refl HS.out HB2.out,rfl⟩
 ·have HN:=zh (show R=(ie,S) by rw [HRX.out,exec1,if_pos he])
  have e1:(ie==0)=false:=by simpa using he
  have e2:(ie != 0)=true:=by simpa using he
  clear he
  go_wp2_with fail
  go_ret
  exact ⟨by rw [HN.out]; rfl,P,by rw [HN.out]; exact SStp.refl HS.out HB1.out,rfl⟩
theorem fnUpdate:IsFn Tryz.prog 112 Tryz.f112:=⟨Tryz.func112,by kernel_rfl,by kernel_rfl⟩
theorem add_4 (a:Addr):a.add (1*4)=⟨a.block,a.off+4,none⟩:=by unfold Addr.add; split<;>simp_all
theorem exec_upd {W:World} {n0:Nat} {P:Ph} {S:ST} (h:SR W n0 P S) (k n:Int) (s:ByteArray) (p q:T) (v:Value) (hv:NV W Any (.nd k n s [p,q]) v) (hk:k=40\/k=41\/k=42) (id:Nat) (hid:S.num p.s=some id) (kp:Int) (hck:CurK S id kp) :
  Calls Tryz.prog 60 #[.pointer (some ⟨P.sb,0,none⟩),v] W fun e W'=>e=.returned (.int .i64 (exec1 S k s p q (indE S.look p) (exprE S.look q)).1)/\∃ P',SStp n0 P S W P' (exec1 S k s p q (indE S.look p) (exprE S.look q)).2 W'/\P'.sb=P.sb:=by
 obtain ⟨A,c,rfl,hf,hlk,hlc,hrow⟩:=hv.open_
 simp only [T.k_nd,T.n_nd,T.s_nd,T.ks_nd] at *
 obtain ⟨R,hR⟩:∃ R,exec1 S k s p q (indE S.look p) (exprE S.look q)=R:=⟨_,rfl⟩
 rw [hR]
 have HRR:=zh hR
 have HS:=zh h
 have HL:=zh (lookC n0 P S h.wf)
 obtain ⟨a,t0,A2,c2,rfl,_,Ht,h4,hn0⟩:=hrow.nd (i:=0) (by simp)
 obtain ⟨a',t1,A3,c3,ea,_,Hu,h5,hn1⟩:=hrow.nd (i:=1) (by simp)
 injection ea with ea
 subst ea
 have ha:a.add (1*4)=⟨a.block,a.off+4,none⟩:=add_4 a
 rw [ha] at h5
 have ht0:t0=p:=Ht.out.symm
 subst ht0
 have ht1:t1=q:=Hu.out.symm
 subst ht1
 simp only [Nat.zero_mul,Nat.one_mul,Addr.add_zero',List.length_cons,List.length_nil,Nat.zero_add,Nat.reduceAdd] at *
 have hbx:=box4 (heap_alloc_new W (.cells #[.int .u8 k,.int .i64 n,.string s,.slice (some a) 2 c] 29))
 have HBK:=zh (heap_alloc_new W (.cells #[.int .u8 k,.int .i64 n,.string s,.slice (some a) 2 c] 29))
 obtain ⟨W0,hW0⟩:∃ W0,W.alloc (.cells #[.int .u8 k,.int .i64 n,.string s,.slice (some a) 2 c] 29)=W0:=⟨_,rfl⟩
 have q0:Below W.heap.size W W0:=hW0▸bl_al (Below.refl _ _) _
 rw [hW0] at hbx HBK
 have HQ0:=zh q0
 have H4:=zh h4
 have H5:=zh h5
 have g4:=Nd4_bl q0 h4
 obtain ⟨z0,z1,z2,z3⟩:=g4
 obtain ⟨⟨iv,ie⟩,hiv⟩:∃ r,indE S.look t0=r:=⟨_,rfl⟩
 obtain ⟨⟨jv,je⟩,hjv⟩:∃ r,exprE S.look t1=r:=⟨_,rfl⟩
 have HIX:=zh (Index_any HL.out t0 _ W0 (hn0.later q0) (h.later q0))
 rw [hiv] at HIX
 have HJX:=zh (show ∀ W',Below W.heap.size W W'->Calls Tryz.prog 110 #[nv t1.k t1.n t1.s A3 t1.ks.length c3,.func (.func 109) #[.pointer (some ⟨P.sb,0,none⟩)] #[]] W' (NumE (jv,je) W') from fun W' hb=>hjv▸Expr_any HL.out t1 _ W' (hn1.later hb) (h.later hb))
 have HRX:=zh (show R=exec1 S k s t0 t1 (iv,ie) (jv,je) by rw [<-hR,hiv,hjv])
 have HCE:=zh (fun W' (hb:Below W.heap.size W W')=>scell_any (h.later hb) t0.s id hid)
 obtain ⟨x0,x1,x2,x3⟩:=hbx
 have hidn:=hck.lt h.wf
 have HID:=zh hid
 clear hR hiv hjv hv hn0 hn1 hrow hlk hlc q0 hf hck hid h4 h5
 clear h
 have k43:(k==43)=false:=by simp; omega
 have HUP:=zh (fun x w=>Update_any k x jv hk w)
 go_enter Tryz.func60,Tryz.ntmps60
 go_wp2_with fail
 refine HIX.out.mono ?_
 rintro e w1 ⟨rfl,bw1⟩
 have HB1:=zh (bl_tt HQ0.out bw1)
 have HK1:=zh (blk_bl HBK.out bw1)
 have v0:=zb bw1 x0
 have v3:=zb bw1 x3
 obtain ⟨y0,y1,y2,y3⟩:=Nd4_bl HB1.out H5.out
 clear bw1 z0 z1 z2 z3 x0 x1 x2 x3
 dsimp only
 by_cases he:ie=0
 ·subst he
  have HR1:=zh (show R=exec2 S k s t0.s t1.s iv (jv,je) by rw [HRX.out,exec1,if_neg (by simp)])
  rcases hk with rfl|rfl|rfl
  ·skip
   go_wp2_with fail
   refine (HJX.out _ HB1.out).mono ?_
   rintro e w2 ⟨rfl,bw2⟩
   have HB2:=zh (bl_tt HB1.out bw2)
   have HK2:=zh (blk_bl HK1.out bw2)
   have r0:=zb bw2 v0
   have r3:=zb bw2 v3
   obtain ⟨z0,z1,z2,z3⟩:=Nd4_bl HB2.out H4.out
   clear bw2 y0 y1 y2 y3 v0 v3
   dsimp only
   by_cases hje:je=0
   ·subst hje
    go_wp2_with fail
    refine (HCE.out _ HB2.out).mono ?_
    rintro e w3 ⟨rfl,bw3⟩
    have HB3:=zh (bl_tt HB2.out bw3)
    have H40:=zh (blk_bl HK2.out bw3)
    have s0:=zb bw3 r0
    have s3:=zb bw3 r3
    have HS2:=zh (HS.out.later HB3.out)
    clear r0 r3 bw3 z0 z1 z2 z3
    have HR2:=zh (show R=if 0<=iv/\iv<(S.cell id).length then exec3 S 40 s t1.s jv id iv.toNat else (12,S) by
     rw [HR1.out,exec2,if_neg (by simp),HID.out])
    by_cases hr:0<=iv/\iv<((S.cell id).length:Int)
    ·obtain ⟨i,rfl⟩:∃ i:Nat,iv=i:=⟨iv.toNat,by omega⟩
     have hi:i<(S.cell id).length:=by omega
     have HR3:=zh (show R=(0,S.put id i (updE 40 (S.el id i) jv)) by rw [HR2.out,if_pos hr,exec3,if_pos (by omega)]; rfl)
     obtain ⟨⟨c4,hci,hc4⟩,p0,p1⟩:=HS2.out.plc hidn hi
     have w0:w3.cell? ⟨P.cb id,0,none⟩=some (.slice (some ⟨P.gI id,0,none⟩) (S.cell id).length c4):=by rw [<-hci]; exact zc (HS2.out.cbox hidn) rfl
     have HPT:=zh (fun W' (hb:Below W.heap.size W W')=>(HS.out.later hb).put hidn hi (updE 40 (S.el id i) jv) (upd_I64 _ _ _))
     obtain ⟨x,hx⟩:∃ x,S.el id i=x:=⟨_,rfl⟩
     rw [hx] at p0 HR3 HPT
     obtain ⟨m,hm⟩:∃ m,(S.cell id).length=m:=⟨_,rfl⟩
     rw [hm] at w0
     have hi1:¬ (i:Int)<0:=by omega
     have hi2:¬ (m:Int)<=(i:Int):=by omega
     have hi3:(i:Int)<(m:Int):=by omega
     clear HR1 HR2 hr hci hc4 hm hx
     obtain ⟨U,hU⟩:∃ U,updE 40 x jv=U:=⟨_,rfl⟩
     rw [hU] at HR3 HPT
     have HUU:=zh (hU▸HUP.out x)
     clear hU
     go_upto_region 22 with fail
     have hSS:(fun w':World=>w'.cell? ⟨W.heap.size,0,none⟩=some (.int .u8 40)/\w'.cell? ⟨P.gI id,i,none⟩=some (.int .i64 x)) w3.drew/\(fun _:World=>True) w3.drew:=⟨⟨s0,p0⟩,trivial⟩
     refine wp_region_noPanic ?_
     refine wp_region_G (fun w':World=>w'.cell? ⟨W.heap.size,0,none⟩=some (.int .u8 40)/\w'.cell? ⟨P.gI id,i,none⟩=some (.int .i64 x)) (fun _:World=>True) 11 (by kernel_rfl) ?_
     refine zT 0 hSS ?_
     (try simp only [Act.put,zP])
     refine zT 1 hSS ?_
     (try simp only [Act.put,zP])
     refine zT 2 hSS ?_
     (try simp only [Act.put,zP])
     refine zT 3 hSS ?_
     (try simp only [Act.put,zP])
     refine zT 4 hSS ?_
     (try simp only [Act.put,zP])
     refine zT 5 hSS ?_
     (try simp only [Act.put,zP])
     have had:Calls Tryz.prog 112 [.int .u8 40,.int .i64 x,.int .i64 jv].toArray w3.drew fun e W'=>∃ u,e=.returned u/\u=.tuple #[.int .i64 U,.int .i64 0]/\W'=w3.drew :=
      (HUU.out w3.drew).mono fun e W' hh=>⟨_,hh.1,rfl,hh.2⟩
     refine wpG_one (i:=6) (by kernel_rfl) rfl (fun K hK=>?_)
     refine step_callL (by rfl) (.func 112) [.tmp 86,.tmp 89,.tmp 90] _ (by rfl) 112 _ fnUpdate (by rfl) _ (by rfl) _ had ?_
     rintro v4 w4 ⟨rfl,rfl⟩
     refine hK.out _ _ hSS ?_
     clear hK K had
     (try simp only [Act.put,zP])
     refine zT 7 hSS ?_
     (try simp only [Act.put,zP])
     refine zT 8 hSS ?_
     (try simp only [Act.put,zP])
     refine zT 9 hSS ?_
     (try simp only [Act.put,zP])
     refine zT 10 hSS ?_
     (try simp only [Act.put,zP])
     refine wpG_past (i:=11) (by kernel_rfl) rfl (by kernel_rfl) (fun K hK=>?_)
     (try simp only [zA,zB,zC])
     go_simp
     refine hK.out _ _ hSS.1 ?_
     clear hK K hSS
     (try simp only [Act.put,zP])
     refine wpG_done (by kernel_rfl) ?_
     refine NoPanic.normal ?_
     go_wp2_with fail
     go_ret
     refine ⟨by rw [HR3.out]; rfl,P,?_,rfl⟩
     rw [HR3.out]
     have:=HPT.out _ HB3.out.drew
     exact ⟨this.st.after HB3.out.drew HS.out.rws,this.wf⟩
    ·skip
     have HN:=zh (show R=(12,S) by rw [HR2.out,if_neg hr])
     obtain ⟨A3,c3,hci,hc3,hri⟩:=HS2.out.items hidn
     have w0:w3.cell? ⟨P.cb id,0,none⟩=some (.slice A3 (S.cell id).length c3):=by rw [<-hci]; exact zc (HS2.out.cbox hidn) rfl
     obtain ⟨m,hm⟩:∃ m,(S.cell id).length=m:=⟨_,rfl⟩
     rw [hm] at w0 hr
     clear HR2 hci hc3 hri hm
     by_cases hneg:iv<0
     ·go_wp2_with fail
      go_ret
      exact ⟨by rw [HN.out]; rfl,P,by rw [HN.out]; exact SStp.refl HS.out HB3.out,rfl⟩
     ·have hge:(m:Int)<=iv:=by omega
      go_wp2_with fail
      go_ret
      exact ⟨by rw [HN.out]; rfl,P,by rw [HN.out]; exact SStp.refl HS.out HB3.out,rfl⟩
   ·skip
    have HN:=zh (show R=(je,S) by rw [HR1.out,exec2,if_pos hje])
    have e1:(je==0)=false:=by simpa using hje
    have e2:(je != 0)=true:=by simpa using hje
    clear hje
    go_wp2_with fail
    go_ret
    exact ⟨by rw [HN.out]; rfl,P,by rw [HN.out]; exact SStp.refl HS.out HB2.out,rfl⟩
  ·skip
   go_wp2_with fail
   refine (HJX.out _ HB1.out).mono ?_
   rintro e w2 ⟨rfl,bw2⟩
   have HB2:=zh (bl_tt HB1.out bw2)
   have HK2:=zh (blk_bl HK1.out bw2)
   have r0:=zb bw2 v0
   have r3:=zb bw2 v3
   obtain ⟨z0,z1,z2,z3⟩:=Nd4_bl HB2.out H4.out
   clear bw2 y0 y1 y2 y3 v0 v3
   dsimp only
   by_cases hje:je=0
   ·subst hje
    go_wp2_with fail
    refine (HCE.out _ HB2.out).mono ?_
    rintro e w3 ⟨rfl,bw3⟩
    have HB3:=zh (bl_tt HB2.out bw3)
    have H41:=zh (blk_bl HK2.out bw3)
    have s0:=zb bw3 r0
    have s3:=zb bw3 r3
    have HS2:=zh (HS.out.later HB3.out)
    clear r0 r3 bw3 z0 z1 z2 z3
    have HR2:=zh (show R=if 0<=iv/\iv<(S.cell id).length then exec3 S 41 s t1.s jv id iv.toNat else (12,S) by
     rw [HR1.out,exec2,if_neg (by simp),HID.out])
    by_cases hr:0<=iv/\iv<((S.cell id).length:Int)
    ·obtain ⟨i,rfl⟩:∃ i:Nat,iv=i:=⟨iv.toNat,by omega⟩
     have hi:i<(S.cell id).length:=by omega
     have HR3:=zh (show R=(0,S.put id i (updE 41 (S.el id i) jv)) by rw [HR2.out,if_pos hr,exec3,if_pos (by omega)]; rfl)
     obtain ⟨⟨c4,hci,hc4⟩,p0,p1⟩:=HS2.out.plc hidn hi
     have w0:w3.cell? ⟨P.cb id,0,none⟩=some (.slice (some ⟨P.gI id,0,none⟩) (S.cell id).length c4):=by rw [<-hci]; exact zc (HS2.out.cbox hidn) rfl
     have HPT:=zh (fun W' (hb:Below W.heap.size W W')=>(HS.out.later hb).put hidn hi (updE 41 (S.el id i) jv) (upd_I64 _ _ _))
     obtain ⟨x,hx⟩:∃ x,S.el id i=x:=⟨_,rfl⟩
     rw [hx] at p0 HR3 HPT
     obtain ⟨m,hm⟩:∃ m,(S.cell id).length=m:=⟨_,rfl⟩
     rw [hm] at w0
     have hi1:¬ (i:Int)<0:=by omega
     have hi2:¬ (m:Int)<=(i:Int):=by omega
     have hi3:(i:Int)<(m:Int):=by omega
     clear HR1 HR2 hr hci hc4 hm hx
     obtain ⟨U,hU⟩:∃ U,updE 41 x jv=U:=⟨_,rfl⟩
     rw [hU] at HR3 HPT
     have HUU:=zh (hU▸HUP.out x)
     clear hU
     go_upto_region 22 with fail
     have hSS:(fun w':World=>w'.cell? ⟨W.heap.size,0,none⟩=some (.int .u8 41)/\w'.cell? ⟨P.gI id,i,none⟩=some (.int .i64 x)) w3.drew/\(fun _:World=>True) w3.drew:=⟨⟨s0,p0⟩,trivial⟩
     refine wp_region_noPanic ?_
     refine wp_region_G (fun w':World=>w'.cell? ⟨W.heap.size,0,none⟩=some (.int .u8 41)/\w'.cell? ⟨P.gI id,i,none⟩=some (.int .i64 x)) (fun _:World=>True) 11 (by kernel_rfl) ?_
     refine zT 0 hSS ?_
     (try simp only [Act.put,zP])
     refine zT 1 hSS ?_
     (try simp only [Act.put,zP])
     refine zT 2 hSS ?_
     (try simp only [Act.put,zP])
     refine zT 3 hSS ?_
     (try simp only [Act.put,zP])
     refine zT 4 hSS ?_
     (try simp only [Act.put,zP])
     refine zT 5 hSS ?_
     (try simp only [Act.put,zP])
     have had:Calls Tryz.prog 112 [.int .u8 41,.int .i64 x,.int .i64 jv].toArray w3.drew fun e W'=>∃ u,e=.returned u/\u=.tuple #[.int .i64 U,.int .i64 0]/\W'=w3.drew :=
      (HUU.out w3.drew).mono fun e W' hh=>⟨_,hh.1,rfl,hh.2⟩
     refine wpG_one (i:=6) (by kernel_rfl) rfl (fun K hK=>?_)
     refine step_callL (by rfl) (.func 112) [.tmp 86,.tmp 89,.tmp 90] _ (by rfl) 112 _ fnUpdate (by rfl) _ (by rfl) _ had ?_
     rintro v4 w4 ⟨rfl,rfl⟩
     refine hK.out _ _ hSS ?_
     clear hK K had
     (try simp only [Act.put,zP])
     refine zT 7 hSS ?_
     (try simp only [Act.put,zP])
     refine zT 8 hSS ?_
     (try simp only [Act.put,zP])
     refine zT 9 hSS ?_
     (try simp only [Act.put,zP])
     refine zT 10 hSS ?_
     (try simp only [Act.put,zP])
     refine wpG_past (i:=11) (by kernel_rfl) rfl (by kernel_rfl) (fun K hK=>?_)
     (try simp only [zA,zB,zC])
     go_simp
     refine hK.out _ _ hSS.1 ?_
     clear hK K hSS
     (try simp only [Act.put,zP])
     refine wpG_done (by kernel_rfl) ?_
     refine NoPanic.normal ?_
     go_wp2_with fail
     go_ret
     refine ⟨by rw [HR3.out]; rfl,P,?_,rfl⟩
     rw [HR3.out]
     have:=HPT.out _ HB3.out.drew
     exact ⟨this.st.after HB3.out.drew HS.out.rws,this.wf⟩
    ·skip
     have HN:=zh (show R=(12,S) by rw [HR2.out,if_neg hr])
     obtain ⟨A3,c3,hci,hc3,hri⟩:=HS2.out.items hidn
     have w0:w3.cell? ⟨P.cb id,0,none⟩=some (.slice A3 (S.cell id).length c3):=by rw [<-hci]; exact zc (HS2.out.cbox hidn) rfl
     obtain ⟨m,hm⟩:∃ m,(S.cell id).length=m:=⟨_,rfl⟩
     rw [hm] at w0 hr
     clear HR2 hci hc3 hri hm
     by_cases hneg:iv<0
     ·go_wp2_with fail
      go_ret
      exact ⟨by rw [HN.out]; rfl,P,by rw [HN.out]; exact SStp.refl HS.out HB3.out,rfl⟩
     ·have hge:(m:Int)<=iv:=by omega
      go_wp2_with fail
      go_ret
      exact ⟨by rw [HN.out]; rfl,P,by rw [HN.out]; exact SStp.refl HS.out HB3.out,rfl⟩
   ·skip
    have HN:=zh (show R=(je,S) by rw [HR1.out,exec2,if_pos hje])
    have e1:(je==0)=false:=by simpa using hje
    have e2:(je != 0)=true:=by simpa using hje
    clear hje
    go_wp2_with fail
    go_ret
    exact ⟨by rw [HN.out]; rfl,P,by rw [HN.out]; exact SStp.refl HS.out HB2.out,rfl⟩
  ·skip
   go_wp2_with fail
   refine (HJX.out _ HB1.out).mono ?_
   rintro e w2 ⟨rfl,bw2⟩
   have HB2:=zh (bl_tt HB1.out bw2)
   have HK2:=zh (blk_bl HK1.out bw2)
   have r0:=zb bw2 v0
   have r3:=zb bw2 v3
   obtain ⟨z0,z1,z2,z3⟩:=Nd4_bl HB2.out H4.out
   clear bw2 y0 y1 y2 y3 v0 v3
   dsimp only
   by_cases hje:je=0
   ·subst hje
    go_wp2_with fail
    refine (HCE.out _ HB2.out).mono ?_
    rintro e w3 ⟨rfl,bw3⟩
    have HB3:=zh (bl_tt HB2.out bw3)
    have H42:=zh (blk_bl HK2.out bw3)
    have s0:=zb bw3 r0
    have s3:=zb bw3 r3
    have HS2:=zh (HS.out.later HB3.out)
    clear r0 r3 bw3 z0 z1 z2 z3
    have HR2:=zh (show R=if 0<=iv/\iv<(S.cell id).length then exec3 S 42 s t1.s jv id iv.toNat else (12,S) by
     rw [HR1.out,exec2,if_neg (by simp),HID.out])
    by_cases hr:0<=iv/\iv<((S.cell id).length:Int)
    ·obtain ⟨i,rfl⟩:∃ i:Nat,iv=i:=⟨iv.toNat,by omega⟩
     have hi:i<(S.cell id).length:=by omega
     have HR3:=zh (show R=(0,S.put id i (updE 42 (S.el id i) jv)) by rw [HR2.out,if_pos hr,exec3,if_pos (by omega)]; rfl)
     obtain ⟨⟨c4,hci,hc4⟩,p0,p1⟩:=HS2.out.plc hidn hi
     have w0:w3.cell? ⟨P.cb id,0,none⟩=some (.slice (some ⟨P.gI id,0,none⟩) (S.cell id).length c4):=by rw [<-hci]; exact zc (HS2.out.cbox hidn) rfl
     have HPT:=zh (fun W' (hb:Below W.heap.size W W')=>(HS.out.later hb).put hidn hi (updE 42 (S.el id i) jv) (upd_I64 _ _ _))
     obtain ⟨x,hx⟩:∃ x,S.el id i=x:=⟨_,rfl⟩
     rw [hx] at p0 HR3 HPT
     obtain ⟨m,hm⟩:∃ m,(S.cell id).length=m:=⟨_,rfl⟩
     rw [hm] at w0
     have hi1:¬ (i:Int)<0:=by omega
     have hi2:¬ (m:Int)<=(i:Int):=by omega
     have hi3:(i:Int)<(m:Int):=by omega
     clear HR1 HR2 hr hci hc4 hm hx
     obtain ⟨U,hU⟩:∃ U,updE 42 x jv=U:=⟨_,rfl⟩
     rw [hU] at HR3 HPT
     have HUU:=zh (hU▸HUP.out x)
     clear hU
     go_upto_region 22 with fail
     have hSS:(fun w':World=>w'.cell? ⟨W.heap.size,0,none⟩=some (.int .u8 42)/\w'.cell? ⟨P.gI id,i,none⟩=some (.int .i64 x)) w3.drew/\(fun _:World=>True) w3.drew:=⟨⟨s0,p0⟩,trivial⟩
     refine wp_region_noPanic ?_
     refine wp_region_G (fun w':World=>w'.cell? ⟨W.heap.size,0,none⟩=some (.int .u8 42)/\w'.cell? ⟨P.gI id,i,none⟩=some (.int .i64 x)) (fun _:World=>True) 11 (by kernel_rfl) ?_
     refine zT 0 hSS ?_
     (try simp only [Act.put,zP])
     refine zT 1 hSS ?_
     (try simp only [Act.put,zP])
     refine zT 2 hSS ?_
     (try simp only [Act.put,zP])
     refine zT 3 hSS ?_
     (try simp only [Act.put,zP])
     refine zT 4 hSS ?_
     (try simp only [Act.put,zP])
     refine zT 5 hSS ?_
     (try simp only [Act.put,zP])
     have had:Calls Tryz.prog 112 [.int .u8 42,.int .i64 x,.int .i64 jv].toArray w3.drew fun e W'=>∃ u,e=.returned u/\u=.tuple #[.int .i64 U,.int .i64 0]/\W'=w3.drew :=
      (HUU.out w3.drew).mono fun e W' hh=>⟨_,hh.1,rfl,hh.2⟩
     refine wpG_one (i:=6) (by kernel_rfl) rfl (fun K hK=>?_)
     refine step_callL (by rfl) (.func 112) [.tmp 86,.tmp 89,.tmp 90] _ (by rfl) 112 _ fnUpdate (by rfl) _ (by rfl) _ had ?_
     rintro v4 w4 ⟨rfl,rfl⟩
     refine hK.out _ _ hSS ?_
     clear hK K had
     (try simp only [Act.put,zP])
     refine zT 7 hSS ?_
     (try simp only [Act.put,zP])
     refine zT 8 hSS ?_
     (try simp only [Act.put,zP])
     refine zT 9 hSS ?_
     (try simp only [Act.put,zP])
     refine zT 10 hSS ?_
     (try simp only [Act.put,zP])
     refine wpG_past (i:=11) (by kernel_rfl) rfl (by kernel_rfl) (fun K hK=>?_)
     (try simp only [zA,zB,zC])
     go_simp
     refine hK.out _ _ hSS.1 ?_
     clear hK K hSS
     (try simp only [Act.put,zP])
     refine wpG_done (by kernel_rfl) ?_
     refine NoPanic.normal ?_
     go_wp2_with fail
     go_ret
     refine ⟨by rw [HR3.out]; rfl,P,?_,rfl⟩
     rw [HR3.out]
     have:=HPT.out _ HB3.out.drew
     exact ⟨this.st.after HB3.out.drew HS.out.rws,this.wf⟩
    ·skip
     have HN:=zh (show R=(12,S) by rw [HR2.out,if_neg hr])
     obtain ⟨A3,c3,hci,hc3,hri⟩:=HS2.out.items hidn
     have w0:w3.cell? ⟨P.cb id,0,none⟩=some (.slice A3 (S.cell id).length c3):=by rw [<-hci]; exact zc (HS2.out.cbox hidn) rfl
     obtain ⟨m,hm⟩:∃ m,(S.cell id).length=m:=⟨_,rfl⟩
     rw [hm] at w0 hr
     clear HR2 hci hc3 hri hm
     by_cases hneg:iv<0
     ·go_wp2_with fail
      go_ret
      exact ⟨by rw [HN.out]; rfl,P,by rw [HN.out]; exact SStp.refl HS.out HB3.out,rfl⟩
     ·have hge:(m:Int)<=iv:=by omega
      go_wp2_with fail
      go_ret
      exact ⟨by rw [HN.out]; rfl,P,by rw [HN.out]; exact SStp.refl HS.out HB3.out,rfl⟩
   ·skip
    have HN:=zh (show R=(je,S) by rw [HR1.out,exec2,if_pos hje])
    have e1:(je==0)=false:=by simpa using hje
    have e2:(je != 0)=true:=by simpa using hje
    clear hje
    go_wp2_with fail
    go_ret
    exact ⟨by rw [HN.out]; rfl,P,by rw [HN.out]; exact SStp.refl HS.out HB2.out,rfl⟩
 ·skip
  have HN:=zh (show R=(ie,S) by rw [HRX.out,exec1,if_pos he])
  have e1:(ie==0)=false:=by simpa using he
  have e2:(ie != 0)=true:=by simpa using he
  clear he
  go_wp2_with fail
  go_ret
  exact ⟨by rw [HN.out]; rfl,P,by rw [HN.out]; exact SStp.refl HS.out HB1.out,rfl⟩
theorem exec_swap {W:World} {n0:Nat} {P:Ph} {S:ST} (h:SR W n0 P S) (k n:Int) (s:ByteArray) (p q:T) (v:Value) (hv:NV W Any (.nd k n s [p,q]) v) (hk:k=43) (id:Nat) (hid:S.num p.s=some id) (kp:Int) (hck:CurK S id kp) (jd:Nat) (hjd:S.num q.s=some jd) (kq:Int) (hcq:CurK S jd kq) :
  Calls Tryz.prog 60 #[.pointer (some ⟨P.sb,0,none⟩),v] W fun e W'=>e=.returned (.int .i64 (exec1 S k s p q (indE S.look p) (indE S.look q)).1)/\∃ P',SStp n0 P S W P' (exec1 S k s p q (indE S.look p) (indE S.look q)).2 W'/\P'.sb=P.sb:=by
 obtain ⟨A,c,rfl,hf,hlk,hlc,hrow⟩:=hv.open_
 simp only [T.k_nd,T.n_nd,T.s_nd,T.ks_nd] at *
 obtain ⟨R,hR⟩:∃ R,exec1 S k s p q (indE S.look p) (indE S.look q)=R:=⟨_,rfl⟩
 rw [hR]
 have HRR:=zh hR
 have HS:=zh h
 have HL:=zh (lookC n0 P S h.wf)
 obtain ⟨a,t0,A2,c2,rfl,_,Ht,h4,hn0⟩:=hrow.nd (i:=0) (by simp)
 obtain ⟨a',t1,A3,c3,ea,_,Hu,h5,hn1⟩:=hrow.nd (i:=1) (by simp)
 injection ea with ea
 subst ea
 have ha:a.add (1*4)=⟨a.block,a.off+4,none⟩:=add_4 a
 rw [ha] at h5
 have ht0:t0=p:=Ht.out.symm
 subst ht0
 have ht1:t1=q:=Hu.out.symm
 subst ht1
 simp only [Nat.zero_mul,Nat.one_mul,Addr.add_zero',List.length_cons,List.length_nil,Nat.zero_add,Nat.reduceAdd] at *
 have hbx:=box4 (heap_alloc_new W (.cells #[.int .u8 k,.int .i64 n,.string s,.slice (some a) 2 c] 29))
 have HBK:=zh (heap_alloc_new W (.cells #[.int .u8 k,.int .i64 n,.string s,.slice (some a) 2 c] 29))
 obtain ⟨W0,hW0⟩:∃ W0,W.alloc (.cells #[.int .u8 k,.int .i64 n,.string s,.slice (some a) 2 c] 29)=W0:=⟨_,rfl⟩
 have q0:Below W.heap.size W W0:=hW0▸bl_al (Below.refl _ _) _
 rw [hW0] at hbx HBK
 have HQ0:=zh q0
 have H4:=zh h4
 have H5:=zh h5
 have g4:=Nd4_bl q0 h4
 obtain ⟨z0,z1,z2,z3⟩:=g4
 obtain ⟨⟨iv,ie⟩,hiv⟩:∃ r,indE S.look t0=r:=⟨_,rfl⟩
 obtain ⟨⟨jv,je⟩,hjv⟩:∃ r,indE S.look t1=r:=⟨_,rfl⟩
 have HIX:=zh (Index_any HL.out t0 _ W0 (hn0.later q0) (h.later q0))
 rw [hiv] at HIX
 have HJX:=zh (show ∀ W',Below W.heap.size W W'->Calls Tryz.prog 108 #[nv t1.k t1.n t1.s A3 t1.ks.length c3,.func (.func 109) #[.pointer (some ⟨P.sb,0,none⟩)] #[]] W' (NumE (jv,je) W') from fun W' hb=>hjv▸Index_any HL.out t1 _ W' (hn1.later hb) (h.later hb))
 have HRX:=zh (show R=exec1 S k s t0 t1 (iv,ie) (jv,je) by rw [<-hR,hiv,hjv])
 have HCE:=zh (fun W' (hb:Below W.heap.size W W')=>scell_any (h.later hb) t0.s id hid)
 obtain ⟨x0,x1,x2,x3⟩:=hbx
 have hidn:=hck.lt h.wf
 have HID:=zh hid
 clear hR hiv hjv hv hn0 hn1 hrow hlk hlc q0 hf hck hid h4 h5
 have hjdn:=hcq.lt h.wf
 have HCQ:=zh (fun W' (hb:Below W.heap.size W W')=>scell_any (h.later hb) t1.s jd hjd)
 have HJD:=zh hjd
 subst hk
 clear h hcq hjd
 go_enter Tryz.func60,Tryz.ntmps60
 go_wp2_with fail
 refine HIX.out.mono ?_
 rintro e w1 ⟨rfl,bw1⟩
 have HB1:=zh (bl_tt HQ0.out bw1)
 have HK1:=zh (blk_bl HBK.out bw1)
 have v0:=zb bw1 x0
 have v3:=zb bw1 x3
 obtain ⟨y0,y1,y2,y3⟩:=Nd4_bl HB1.out H5.out
 clear bw1 z0 z1 z2 z3 x0 x1 x2 x3
 dsimp only
 by_cases he:ie=0
 ·subst he
  have HR1:=zh (show R=exec2 S 43 s t0.s t1.s iv (jv,je) by rw [HRX.out,exec1,if_neg (by simp)])
  go_wp2_with fail
  refine (HJX.out _ HB1.out).mono ?_
  rintro e w2 ⟨rfl,bw2⟩
  have HB2:=zh (bl_tt HB1.out bw2)
  have HK2:=zh (blk_bl HK1.out bw2)
  have r0:=zb bw2 v0
  have r3:=zb bw2 v3
  obtain ⟨z0,z1,z2,z3⟩:=Nd4_bl HB2.out H4.out
  clear bw2 y0 y1 y2 y3 v0 v3
  dsimp only
  by_cases hje:je=0
  ·subst hje
   go_wp2_with fail
   refine (HCE.out _ HB2.out).mono ?_
   rintro e w3 ⟨rfl,bw3⟩
   have HB3:=zh (bl_tt HB2.out bw3)
   have H43:=zh (blk_bl HK2.out bw3)
   have s0:=zb bw3 r0
   have s3:=zb bw3 r3
   have HS2:=zh (HS.out.later HB3.out)
   clear r0 r3 bw3 z0 z1 z2 z3
   have HR2:=zh (show R=if 0<=iv/\iv<(S.cell id).length then exec3 S 43 s t1.s jv id iv.toNat else (12,S) by
    rw [HR1.out,exec2,if_neg (by simp),HID.out])
   by_cases hr:0<=iv/\iv<((S.cell id).length:Int)
   ·obtain ⟨i,rfl⟩:∃ i:Nat,iv=i:=⟨iv.toNat,by omega⟩
    have hi:i<(S.cell id).length:=by omega
    have HR3:=zh (show R=if 0<=jv/\jv<(S.cell jd).length then (0,swapS S id i jd jv.toNat) else (12,S) by
     rw [HR2.out,if_pos hr,exec3,if_neg (by decide),if_pos rfl,HJD.out]
     rfl)
    obtain ⟨⟨c4,hci,hc4⟩,p0,p1⟩:=HS2.out.plc hidn hi
    have w0:w3.cell? ⟨P.cb id,0,none⟩=some (.slice (some ⟨P.gI id,0,none⟩) (S.cell id).length c4):=by rw [<-hci]; exact zc (HS2.out.cbox hidn) rfl
    obtain ⟨m,hm⟩:∃ m,(S.cell id).length=m:=⟨_,rfl⟩
    rw [hm] at w0
    have hi1:¬ (i:Int)<0:=by omega
    have hi2:¬ (m:Int)<=(i:Int):=by omega
    have hi3:(i:Int)<(m:Int):=by omega
    obtain ⟨y0,y1,y2,y3⟩:=Nd4_bl HB3.out H5.out
    clear HR1 HR2 hr hci hc4 hm p0 p1
    go_wp2_with fail
    refine (HCQ.out _ HB3.out).mono ?_
    rintro e w4 ⟨rfl,bw4⟩
    have HB4:=zh (bl_tt HB3.out bw4)
    have HS4:=zh (HS.out.later HB4.out)
    clear bw4 y0 y1 y2 y3 w0
    by_cases hr2:0<=jv/\jv<((S.cell jd).length:Int)
    ·obtain ⟨j,rfl⟩:∃ j:Nat,jv=j:=⟨jv.toNat,by omega⟩
     have hj:j<(S.cell jd).length:=by omega
     have HR4:=zh (show R=(0,swapS S id i jd j) by rw [HR3.out,if_pos hr2]; rfl)
     obtain ⟨-,p0,p1⟩:=HS4.out.plc hidn hi
     obtain ⟨⟨c5,hcj,hc5⟩,q0,q1⟩:=HS4.out.plc hjdn hj
     have w5:w4.cell? ⟨P.cb jd,0,none⟩=some (.slice (some ⟨P.gI jd,0,none⟩) (S.cell jd).length c5):=by rw [<-hcj]; exact zc (HS4.out.cbox hjdn) rfl
     have s1:=(HS4.out.later (Below.refl _ _).drew).put hidn hi (S.el jd j) (el_I64 HS.out.wf hjdn j)
     have hj':j<((S.put id i (S.el jd j)).cell jd).length:=by
      simp only [ST.put,ST.setL]
      split
      ·next e=>rw [List.length_set,<-e]; exact hj
      ·exact hj
     obtain ⟨-,g0,g1⟩:=s1.sr.plc (id:=jd) (i:=j) hjdn hj'
     have s2:=s1.sr.put (id:=jd) (i:=j) hjdn hj' (S.el id i) (el_I64 HS.out.wf hidn i)
     have HFIN:=zh (s1.trans s2)
     obtain ⟨xi,hxi⟩:∃ x,S.el id i=x:=⟨_,rfl⟩
     obtain ⟨xj,hxj⟩:∃ x,S.el jd j=x:=⟨_,rfl⟩
     rw [hxi] at p0 HFIN
     rw [hxj] at q0 g0 g1 HFIN
     have HR5:=zh (show R=(0,(S.put id i xj).put jd j xi) by rw [HR4.out,swapS,hxi,hxj])
     obtain ⟨y,hy⟩:∃ y,(S.put id i xj).el jd j=y:=⟨_,rfl⟩
     rw [hy] at g0
     obtain ⟨m2,hm2⟩:∃ m,(S.cell jd).length=m:=⟨_,rfl⟩
     rw [hm2] at w5
     have hj1:¬ (j:Int)<0:=by omega
     have hj2:¬ (m2:Int)<=(j:Int):=by omega
     have hj3:(j:Int)<(m2:Int):=by omega
     clear HR3 HR4 hr2 hcj hc5 hm2 s1 s2 hxi hxj hy
     go_upto_region 30 with fail
     have hSS:(fun _:World=>True) w4.drew/\(fun w':World=>w'.cell? ⟨P.gI id,i,none⟩=some (.int .i64 xi)/\w'.cell? ⟨P.gI jd,j,none⟩=some (.int .i64 xj)) w4.drew:=⟨trivial,p0,q0⟩
     refine wp_region_noPanic ?_
     refine wp_region_G (fun _:World=>True) (fun w':World=>w'.cell? ⟨P.gI id,i,none⟩=some (.int .i64 xi)/\w'.cell? ⟨P.gI jd,j,none⟩=some (.int .i64 xj)) 11 (by kernel_rfl) ?_
     refine zT 0 hSS ?_
     (try simp only [Act.put,zP])
     refine zT 1 hSS ?_
     (try simp only [Act.put,zP])
     refine zT 2 hSS ?_
     (try simp only [Act.put,zP])
     refine zT 3 hSS ?_
     (try simp only [Act.put,zP])
     refine zT 4 hSS ?_
     (try simp only [Act.put,zP])
     refine zT 5 hSS ?_
     (try simp only [Act.put,zP])
     refine wpG_take2 (i:=6) (v:=?_) rfl (by kernel_rfl) (by kernel_rfl) (by kernel_rfl) (by decide) rfl (by kernel_rfl) (by kernel_rfl) (fun _ _ _ h=>h) (Or.inl ⟨by rfl,?_⟩) hSS ?_
     rotate_left 1
     ·(intro w hSw; (try dsimp only at hSw); (try simp only [zA,zB,zC]); go_simp; (try with_reducible rfl))
     (try simp only [Act.put,zP])
     refine zT 7 hSS ?_
     (try simp only [Act.put,zP])
     refine zT 8 hSS ?_
     (try simp only [Act.put,zP])
     refine wpG_take2 (i:=9) (v:=?_) rfl (by kernel_rfl) (by kernel_rfl) (by kernel_rfl) (by decide) rfl (by kernel_rfl) (by kernel_rfl) (fun _ _ _ h=>h) (Or.inl ⟨by rfl,?_⟩) hSS ?_
     rotate_left 1
     ·(intro w hSw; (try dsimp only at hSw); (try simp only [zA,zB,zC]); go_simp; (try with_reducible rfl))
     (try simp only [Act.put,zP])
     refine wpG_one (i:=10) (by kernel_rfl) rfl (fun K hK=>?_)
     (try simp only [zA,zB,zC])
     go_simp
     refine hK.out _ _ hSS ?_
     clear hK K
     (try simp only [Act.put,zP])
     refine wpG_past (i:=11) (by kernel_rfl) rfl (by kernel_rfl) (fun K hK=>?_)
     (try simp only [zA,zB,zC])
     have p1':w4.drew.frozen? ⟨P.gI id,i,none⟩=false:=p1
     have p0':w4.drew.cell? ⟨P.gI id,i,none⟩=some (.int .i64 xi):=p0
     go_simp
     refine hK.out _ _ trivial ?_
     clear hK K hSS
     (try simp only [Act.put,zP])
     have g0':(w4.setCell ⟨P.gI id,i,none⟩ (.int .i64 xj)).cell? ⟨P.gI jd,j,none⟩=some (.int .i64 y):=g0
     have g1':(w4.setCell ⟨P.gI id,i,none⟩ (.int .i64 xj)).frozen? ⟨P.gI jd,j,none⟩=false:=g1
     refine wpG_past (i:=12) (by kernel_rfl) rfl (by kernel_rfl) (fun K hK=>?_)
     (try simp only [zA,zB,zC])
     go_simp
     refine hK.out _ _ trivial ?_
     clear hK K
     (try simp only [Act.put,zP])
     refine wpG_past (i:=13) (by kernel_rfl) rfl (by kernel_rfl) (fun K hK=>?_)
     (try simp only [zA,zB,zC])
     go_simp
     refine hK.out _ _ trivial ?_
     clear hK K
     (try simp only [Act.put,zP])
     refine wpG_done (by kernel_rfl) ?_
     refine NoPanic.normal ?_
     clear p0 p1 p0' p1' q0 q1 g0 g1 g0' g1'
     go_wp2_with fail
     go_ret
     refine ⟨by rw [HR5.out]; rfl,P,?_,rfl⟩
     rw [HR5.out]
     exact ⟨HFIN.out.st.after HB4.out.drew HS.out.rws,HFIN.out.wf⟩
    ·have HN:=zh (show R=(12,S) by rw [HR3.out,if_neg hr2])
     obtain ⟨A5,c5,hcj,hc5,hrj⟩:=HS4.out.items hjdn
     have w5:w4.cell? ⟨P.cb jd,0,none⟩=some (.slice A5 (S.cell jd).length c5):=by rw [<-hcj]; exact zc (HS4.out.cbox hjdn) rfl
     obtain ⟨m2,hm2⟩:∃ m,(S.cell jd).length=m:=⟨_,rfl⟩
     rw [hm2] at w5 hr2
     clear HR3 hcj hc5 hrj hm2
     by_cases hneg:jv<0
     ·go_wp2_with fail
      go_ret
      exact ⟨by rw [HN.out]; rfl,P,by rw [HN.out]; exact SStp.refl HS.out HB4.out,rfl⟩
     ·have hge:(m2:Int)<=jv:=by omega
      go_wp2_with fail
      go_ret
      exact ⟨by rw [HN.out]; rfl,P,by rw [HN.out]; exact SStp.refl HS.out HB4.out,rfl⟩
   ·skip
    have HN:=zh (show R=(12,S) by rw [HR2.out,if_neg hr])
    obtain ⟨A3,c3,hci,hc3,hri⟩:=HS2.out.items hidn
    have w0:w3.cell? ⟨P.cb id,0,none⟩=some (.slice A3 (S.cell id).length c3):=by rw [<-hci]; exact zc (HS2.out.cbox hidn) rfl
    obtain ⟨m,hm⟩:∃ m,(S.cell id).length=m:=⟨_,rfl⟩
    rw [hm] at w0 hr
    clear HR2 hci hc3 hri hm
    by_cases hneg:iv<0
    ·go_wp2_with fail
     go_ret
     exact ⟨by rw [HN.out]; rfl,P,by rw [HN.out]; exact SStp.refl HS.out HB3.out,rfl⟩
    ·have hge:(m:Int)<=iv:=by omega
     go_wp2_with fail
     go_ret
     exact ⟨by rw [HN.out]; rfl,P,by rw [HN.out]; exact SStp.refl HS.out HB3.out,rfl⟩
  ·skip
   have HN:=zh (show R=(je,S) by rw [HR1.out,exec2,if_pos hje])
   have e1:(je==0)=false:=by simpa using hje
   have e2:(je != 0)=true:=by simpa using hje
   clear hje
   go_wp2_with fail
   go_ret
   exact ⟨by rw [HN.out]; rfl,P,by rw [HN.out]; exact SStp.refl HS.out HB2.out,rfl⟩
 ·skip
  have HN:=zh (show R=(ie,S) by rw [HRX.out,exec1,if_pos he])
  have e1:(ie==0)=false:=by simpa using he
  have e2:(ie != 0)=true:=by simpa using he
  clear he
  go_wp2_with fail
  go_ret
  exact ⟨by rw [HN.out]; rfl,P,by rw [HN.out]; exact SStp.refl HS.out HB1.out,rfl⟩
end Go.Proofs.YtckhofdinldhpaaGreat
namespace Go.Proofs.YtckhofdinldhpaaGreat
open Go.RowKit
def StmtC (t:T):Prop:=∀ (v:Value) (w:World),NV w Any t v->Calls Tryz.prog 56 #[v] w fun e w'=>e=.returned (.bool (isS t))/\Below w.heap.size w w'
def BlockC (t:T):Prop:=∀ (v:Value) (w:World),NV w Any t v->Calls Tryz.prog 91 #[v] w fun e w'=>e=.returned (.bool (isB t))/\Below w.heap.size w w'
theorem IsStmt_40 (n:Int) (s:ByteArray) (ks:List T) (ihB:∀ t∈ks,BlockC t):StmtC (.nd 40 n s ks):=by
 intro v w hv
 have HX:=zh (show isS (.nd 40 n s ks)=(plainB n s&&kidsB 2 (fun i=>if i=0 then isP else isE) ks) by simp [isS])
 have IH:=zh ihB
 have HV:=zh hv
 obtain ⟨Ad,c,rfl,hf,hlk,hlc,hrow⟩:=hv.open_
 simp only [T.k_nd,T.n_nd,T.s_nd,T.ks_nd] at *
 have hlk':=LK_int hlk
 clear hf hv hlk hrow hlc ihB
 by_cases hnb:plainB n s=true
 ·go_enter Tryz.func56,Tryz.ntmps56
  go_wp2_with fail
  refine (plain_any _ _ _ _ _ _ _).mono ?_
  rintro e w1 ⟨rfl,hb1⟩
  obtain ⟨hc1,hf1⟩:=bcell hb1
  have hbb:Below w.heap.size w w1:=((Below.refl _ _).alloc (Nat.le_refl _) _).trans (hb1.mono (by simp))
  go_wp2_with fail
  refine (kids_any (.nd 40 n s ks) _ _ (HV.out.later (hbb.alloc hbb.size _)) _ 2 (fun i=>if i=0 then 101 else 102) (fun i=>if i=0 then Tryz.f101 else Tryz.f102) (fun i=>if i=0 then isP else isE) (by decide) (by simp) (fun i hi=>fcell (by rcases i with _|_|_|_|i<;>first|omega|rfl)) (fun i hi=>by rcases i with _|i; exact fnIsPlace; exact fnIsExpr) (fun hl i hi=>by rcases i with _|i; exact IsPlace_any _; exact IsExpr_any _)).mono ?_
  rintro e w2 ⟨rfl,hb2⟩
  have hbc:Below w.heap.size w w2:=(hbb.alloc hbb.size _).trans (hb2.mono (by have:=hbb.size; simp; omega))
  go_wp2_with fail
  go_ret
  exact ⟨by rw [HX.out]; simp [*],hbc⟩
 ·have hnb':plainB n s=false:=by simpa using hnb
  clear hnb
  go_enter Tryz.func56,Tryz.ntmps56
  go_wp2_with fail
  refine (plain_any _ _ _ _ _ _ _).mono ?_
  rintro e w1 ⟨rfl,hb1⟩
  have hbb:Below w.heap.size w w1:=((Below.refl _ _).alloc (Nat.le_refl _) _).trans (hb1.mono (by simp))
  go_wp2_with fail
  go_ret
  exact ⟨by rw [HX.out]; simp [*],hbb⟩
theorem IsStmt_41 (n:Int) (s:ByteArray) (ks:List T) (ihB:∀ t∈ks,BlockC t):StmtC (.nd 41 n s ks):=by
 intro v w hv
 have HX:=zh (show isS (.nd 41 n s ks)=(plainB n s&&kidsB 2 (fun i=>if i=0 then isP else isE) ks) by simp [isS])
 have IH:=zh ihB
 have HV:=zh hv
 obtain ⟨Ad,c,rfl,hf,hlk,hlc,hrow⟩:=hv.open_
 simp only [T.k_nd,T.n_nd,T.s_nd,T.ks_nd] at *
 have hlk':=LK_int hlk
 clear hf hv hlk hrow hlc ihB
 by_cases hnb:plainB n s=true
 ·go_enter Tryz.func56,Tryz.ntmps56
  go_wp2_with fail
  refine (plain_any _ _ _ _ _ _ _).mono ?_
  rintro e w1 ⟨rfl,hb1⟩
  obtain ⟨hc1,hf1⟩:=bcell hb1
  have hbb:Below w.heap.size w w1:=((Below.refl _ _).alloc (Nat.le_refl _) _).trans (hb1.mono (by simp))
  go_wp2_with fail
  refine (kids_any (.nd 41 n s ks) _ _ (HV.out.later (hbb.alloc hbb.size _)) _ 2 (fun i=>if i=0 then 101 else 102) (fun i=>if i=0 then Tryz.f101 else Tryz.f102) (fun i=>if i=0 then isP else isE) (by decide) (by simp) (fun i hi=>fcell (by rcases i with _|_|_|_|i<;>first|omega|rfl)) (fun i hi=>by rcases i with _|i; exact fnIsPlace; exact fnIsExpr) (fun hl i hi=>by rcases i with _|i; exact IsPlace_any _; exact IsExpr_any _)).mono ?_
  rintro e w2 ⟨rfl,hb2⟩
  have hbc:Below w.heap.size w w2:=(hbb.alloc hbb.size _).trans (hb2.mono (by have:=hbb.size; simp; omega))
  go_wp2_with fail
  go_ret
  exact ⟨by rw [HX.out]; simp [*],hbc⟩
 ·have hnb':plainB n s=false:=by simpa using hnb
  clear hnb
  go_enter Tryz.func56,Tryz.ntmps56
  go_wp2_with fail
  refine (plain_any _ _ _ _ _ _ _).mono ?_
  rintro e w1 ⟨rfl,hb1⟩
  have hbb:Below w.heap.size w w1:=((Below.refl _ _).alloc (Nat.le_refl _) _).trans (hb1.mono (by simp))
  go_wp2_with fail
  go_ret
  exact ⟨by rw [HX.out]; simp [*],hbb⟩
theorem IsStmt_42 (n:Int) (s:ByteArray) (ks:List T) (ihB:∀ t∈ks,BlockC t):StmtC (.nd 42 n s ks):=by
 intro v w hv
 have HX:=zh (show isS (.nd 42 n s ks)=(plainB n s&&kidsB 2 (fun i=>if i=0 then isP else isE) ks) by simp [isS])
 have IH:=zh ihB
 have HV:=zh hv
 obtain ⟨Ad,c,rfl,hf,hlk,hlc,hrow⟩:=hv.open_
 simp only [T.k_nd,T.n_nd,T.s_nd,T.ks_nd] at *
 have hlk':=LK_int hlk
 clear hf hv hlk hrow hlc ihB
 by_cases hnb:plainB n s=true
 ·go_enter Tryz.func56,Tryz.ntmps56
  go_wp2_with fail
  refine (plain_any _ _ _ _ _ _ _).mono ?_
  rintro e w1 ⟨rfl,hb1⟩
  obtain ⟨hc1,hf1⟩:=bcell hb1
  have hbb:Below w.heap.size w w1:=((Below.refl _ _).alloc (Nat.le_refl _) _).trans (hb1.mono (by simp))
  go_wp2_with fail
  refine (kids_any (.nd 42 n s ks) _ _ (HV.out.later (hbb.alloc hbb.size _)) _ 2 (fun i=>if i=0 then 101 else 102) (fun i=>if i=0 then Tryz.f101 else Tryz.f102) (fun i=>if i=0 then isP else isE) (by decide) (by simp) (fun i hi=>fcell (by rcases i with _|_|_|_|i<;>first|omega|rfl)) (fun i hi=>by rcases i with _|i; exact fnIsPlace; exact fnIsExpr) (fun hl i hi=>by rcases i with _|i; exact IsPlace_any _; exact IsExpr_any _)).mono ?_
  rintro e w2 ⟨rfl,hb2⟩
  have hbc:Below w.heap.size w w2:=(hbb.alloc hbb.size _).trans (hb2.mono (by have:=hbb.size; simp; omega))
  go_wp2_with fail
  go_ret
  exact ⟨by rw [HX.out]; simp [*],hbc⟩
 ·have hnb':plainB n s=false:=by simpa using hnb
  clear hnb
  go_enter Tryz.func56,Tryz.ntmps56
  go_wp2_with fail
  refine (plain_any _ _ _ _ _ _ _).mono ?_
  rintro e w1 ⟨rfl,hb1⟩
  have hbb:Below w.heap.size w w1:=((Below.refl _ _).alloc (Nat.le_refl _) _).trans (hb1.mono (by simp))
  go_wp2_with fail
  go_ret
  exact ⟨by rw [HX.out]; simp [*],hbb⟩
theorem IsStmt_56 (n:Int) (s:ByteArray) (ks:List T) (ihB:∀ t∈ks,BlockC t):StmtC (.nd 56 n s ks):=by
 intro v w hv
 have HX:=zh (show isS (.nd 56 n s ks)=(plainB n s&&kidsB 2 (fun i=>if i=0 then isP else isE) ks) by simp [isS])
 have IH:=zh ihB
 have HV:=zh hv
 obtain ⟨Ad,c,rfl,hf,hlk,hlc,hrow⟩:=hv.open_
 simp only [T.k_nd,T.n_nd,T.s_nd,T.ks_nd] at *
 have hlk':=LK_int hlk
 clear hf hv hlk hrow hlc ihB
 by_cases hnb:plainB n s=true
 ·go_enter Tryz.func56,Tryz.ntmps56
  go_wp2_with fail
  refine (plain_any _ _ _ _ _ _ _).mono ?_
  rintro e w1 ⟨rfl,hb1⟩
  obtain ⟨hc1,hf1⟩:=bcell hb1
  have hbb:Below w.heap.size w w1:=((Below.refl _ _).alloc (Nat.le_refl _) _).trans (hb1.mono (by simp))
  go_wp2_with fail
  refine (kids_any (.nd 56 n s ks) _ _ (HV.out.later (hbb.alloc hbb.size _)) _ 2 (fun i=>if i=0 then 101 else 102) (fun i=>if i=0 then Tryz.f101 else Tryz.f102) (fun i=>if i=0 then isP else isE) (by decide) (by simp) (fun i hi=>fcell (by rcases i with _|_|_|_|i<;>first|omega|rfl)) (fun i hi=>by rcases i with _|i; exact fnIsPlace; exact fnIsExpr) (fun hl i hi=>by rcases i with _|i; exact IsPlace_any _; exact IsExpr_any _)).mono ?_
  rintro e w2 ⟨rfl,hb2⟩
  have hbc:Below w.heap.size w w2:=(hbb.alloc hbb.size _).trans (hb2.mono (by have:=hbb.size; simp; omega))
  go_wp2_with fail
  go_ret
  exact ⟨by rw [HX.out]; simp [*],hbc⟩
 ·have hnb':plainB n s=false:=by simpa using hnb
  clear hnb
  go_enter Tryz.func56,Tryz.ntmps56
  go_wp2_with fail
  refine (plain_any _ _ _ _ _ _ _).mono ?_
  rintro e w1 ⟨rfl,hb1⟩
  have hbb:Below w.heap.size w w1:=((Below.refl _ _).alloc (Nat.le_refl _) _).trans (hb1.mono (by simp))
  go_wp2_with fail
  go_ret
  exact ⟨by rw [HX.out]; simp [*],hbb⟩
theorem IsStmt_43 (n:Int) (s:ByteArray) (ks:List T) (ihB:∀ t∈ks,BlockC t):StmtC (.nd 43 n s ks):=by
 intro v w hv
 have HX:=zh (show isS (.nd 43 n s ks)=(plainB n s&&kidsB 2 (fun _=>isP) ks) by simp [isS])
 have IH:=zh ihB
 have HV:=zh hv
 obtain ⟨Ad,c,rfl,hf,hlk,hlc,hrow⟩:=hv.open_
 simp only [T.k_nd,T.n_nd,T.s_nd,T.ks_nd] at *
 have hlk':=LK_int hlk
 clear hf hv hlk hrow hlc ihB
 by_cases hnb:plainB n s=true
 ·go_enter Tryz.func56,Tryz.ntmps56
  go_wp2_with fail
  refine (plain_any _ _ _ _ _ _ _).mono ?_
  rintro e w1 ⟨rfl,hb1⟩
  obtain ⟨hc1,hf1⟩:=bcell hb1
  have hbb:Below w.heap.size w w1:=((Below.refl _ _).alloc (Nat.le_refl _) _).trans (hb1.mono (by simp))
  go_wp2_with fail
  refine (kids_any (.nd 43 n s ks) _ _ (HV.out.later (hbb.alloc hbb.size _)) _ 2 (fun _=>101) (fun _=>Tryz.f101) (fun _=>isP) (by decide) (by simp) (fun i hi=>fcell (by rcases i with _|_|_|_|i<;>first|omega|rfl)) (fun _ _=>fnIsPlace) (fun hl i hi=>IsPlace_any _)).mono ?_
  rintro e w2 ⟨rfl,hb2⟩
  have hbc:Below w.heap.size w w2:=(hbb.alloc hbb.size _).trans (hb2.mono (by have:=hbb.size; simp; omega))
  go_wp2_with fail
  go_ret
  exact ⟨by rw [HX.out]; simp [*],hbc⟩
 ·have hnb':plainB n s=false:=by simpa using hnb
  clear hnb
  go_enter Tryz.func56,Tryz.ntmps56
  go_wp2_with fail
  refine (plain_any _ _ _ _ _ _ _).mono ?_
  rintro e w1 ⟨rfl,hb1⟩
  have hbb:Below w.heap.size w w1:=((Below.refl _ _).alloc (Nat.le_refl _) _).trans (hb1.mono (by simp))
  go_wp2_with fail
  go_ret
  exact ⟨by rw [HX.out]; simp [*],hbb⟩
theorem IsStmt_44 (n:Int) (s:ByteArray) (ks:List T) (ihB:∀ t∈ks,BlockC t):StmtC (.nd 44 n s ks):=by
 intro v w hv
 have HX:=zh (show isS (.nd 44 n s ks)=(namedB n s&&kidsB 1 (fun _=>isP) ks) by simp [isS])
 have IH:=zh ihB
 have HV:=zh hv
 obtain ⟨Ad,c,rfl,hf,hlk,hlc,hrow⟩:=hv.open_
 simp only [T.k_nd,T.n_nd,T.s_nd,T.ks_nd] at *
 have hlk':=LK_int hlk
 clear hf hv hlk hrow hlc ihB
 by_cases hnb:namedB n s=true
 ·go_enter Tryz.func56,Tryz.ntmps56
  go_wp2_with fail
  refine (named_any _ _ _ _ _ _ _).mono ?_
  rintro e w1 ⟨rfl,hb1⟩
  obtain ⟨hc1,hf1⟩:=bcell hb1
  have hbb:Below w.heap.size w w1:=((Below.refl _ _).alloc (Nat.le_refl _) _).trans (hb1.mono (by simp))
  go_wp2_with fail
  refine (kids_any (.nd 44 n s ks) _ _ (HV.out.later (hbb.alloc hbb.size _)) _ 1 (fun _=>101) (fun _=>Tryz.f101) (fun _=>isP) (by decide) (by simp) (fun i hi=>fcell (by rcases i with _|_|_|_|i<;>first|omega|rfl)) (fun _ _=>fnIsPlace) (fun hl i hi=>IsPlace_any _)).mono ?_
  rintro e w2 ⟨rfl,hb2⟩
  have hbc:Below w.heap.size w w2:=(hbb.alloc hbb.size _).trans (hb2.mono (by have:=hbb.size; simp; omega))
  go_wp2_with fail
  go_ret
  exact ⟨by rw [HX.out]; simp [*],hbc⟩
 ·have hnb':namedB n s=false:=by simpa using hnb
  clear hnb
  go_enter Tryz.func56,Tryz.ntmps56
  go_wp2_with fail
  refine (named_any _ _ _ _ _ _ _).mono ?_
  rintro e w1 ⟨rfl,hb1⟩
  have hbb:Below w.heap.size w w1:=((Below.refl _ _).alloc (Nat.le_refl _) _).trans (hb1.mono (by simp))
  go_wp2_with fail
  go_ret
  exact ⟨by rw [HX.out]; simp [*],hbb⟩
theorem IsStmt_45 (n:Int) (s:ByteArray) (ks:List T) (ihB:∀ t∈ks,BlockC t):StmtC (.nd 45 n s ks):=by
 intro v w hv
 have HX:=zh (show isS (.nd 45 n s ks)=(namedB n s&&kidsB 1 (fun _=>isP) ks) by simp [isS])
 have IH:=zh ihB
 have HV:=zh hv
 obtain ⟨Ad,c,rfl,hf,hlk,hlc,hrow⟩:=hv.open_
 simp only [T.k_nd,T.n_nd,T.s_nd,T.ks_nd] at *
 have hlk':=LK_int hlk
 clear hf hv hlk hrow hlc ihB
 by_cases hnb:namedB n s=true
 ·go_enter Tryz.func56,Tryz.ntmps56
  go_wp2_with fail
  refine (named_any _ _ _ _ _ _ _).mono ?_
  rintro e w1 ⟨rfl,hb1⟩
  obtain ⟨hc1,hf1⟩:=bcell hb1
  have hbb:Below w.heap.size w w1:=((Below.refl _ _).alloc (Nat.le_refl _) _).trans (hb1.mono (by simp))
  go_wp2_with fail
  refine (kids_any (.nd 45 n s ks) _ _ (HV.out.later (hbb.alloc hbb.size _)) _ 1 (fun _=>101) (fun _=>Tryz.f101) (fun _=>isP) (by decide) (by simp) (fun i hi=>fcell (by rcases i with _|_|_|_|i<;>first|omega|rfl)) (fun _ _=>fnIsPlace) (fun hl i hi=>IsPlace_any _)).mono ?_
  rintro e w2 ⟨rfl,hb2⟩
  have hbc:Below w.heap.size w w2:=(hbb.alloc hbb.size _).trans (hb2.mono (by have:=hbb.size; simp; omega))
  go_wp2_with fail
  go_ret
  exact ⟨by rw [HX.out]; simp [*],hbc⟩
 ·have hnb':namedB n s=false:=by simpa using hnb
  clear hnb
  go_enter Tryz.func56,Tryz.ntmps56
  go_wp2_with fail
  refine (named_any _ _ _ _ _ _ _).mono ?_
  rintro e w1 ⟨rfl,hb1⟩
  have hbb:Below w.heap.size w w1:=((Below.refl _ _).alloc (Nat.le_refl _) _).trans (hb1.mono (by simp))
  go_wp2_with fail
  go_ret
  exact ⟨by rw [HX.out]; simp [*],hbb⟩
theorem IsStmt_46 (n:Int) (s:ByteArray) (ks:List T) (ihB:∀ t∈ks,BlockC t):StmtC (.nd 46 n s ks):=by
 intro v w hv
 have HX:=zh (show isS (.nd 46 n s ks)=(plainB n s&&kidsB 1 (fun _=>isP) ks) by simp [isS])
 have IH:=zh ihB
 have HV:=zh hv
 obtain ⟨Ad,c,rfl,hf,hlk,hlc,hrow⟩:=hv.open_
 simp only [T.k_nd,T.n_nd,T.s_nd,T.ks_nd] at *
 have hlk':=LK_int hlk
 clear hf hv hlk hrow hlc ihB
 by_cases hnb:plainB n s=true
 ·go_enter Tryz.func56,Tryz.ntmps56
  go_wp2_with fail
  refine (plain_any _ _ _ _ _ _ _).mono ?_
  rintro e w1 ⟨rfl,hb1⟩
  obtain ⟨hc1,hf1⟩:=bcell hb1
  have hbb:Below w.heap.size w w1:=((Below.refl _ _).alloc (Nat.le_refl _) _).trans (hb1.mono (by simp))
  go_wp2_with fail
  refine (kids_any (.nd 46 n s ks) _ _ (HV.out.later (hbb.alloc hbb.size _)) _ 1 (fun _=>101) (fun _=>Tryz.f101) (fun _=>isP) (by decide) (by simp) (fun i hi=>fcell (by rcases i with _|_|_|_|i<;>first|omega|rfl)) (fun _ _=>fnIsPlace) (fun hl i hi=>IsPlace_any _)).mono ?_
  rintro e w2 ⟨rfl,hb2⟩
  have hbc:Below w.heap.size w w2:=(hbb.alloc hbb.size _).trans (hb2.mono (by have:=hbb.size; simp; omega))
  go_wp2_with fail
  go_ret
  exact ⟨by rw [HX.out]; simp [*],hbc⟩
 ·have hnb':plainB n s=false:=by simpa using hnb
  clear hnb
  go_enter Tryz.func56,Tryz.ntmps56
  go_wp2_with fail
  refine (plain_any _ _ _ _ _ _ _).mono ?_
  rintro e w1 ⟨rfl,hb1⟩
  have hbb:Below w.heap.size w w1:=((Below.refl _ _).alloc (Nat.le_refl _) _).trans (hb1.mono (by simp))
  go_wp2_with fail
  go_ret
  exact ⟨by rw [HX.out]; simp [*],hbb⟩
theorem IsStmt_47 (n:Int) (s:ByteArray) (ks:List T) (ihB:∀ t∈ks,BlockC t):StmtC (.nd 47 n s ks):=by
 intro v w hv
 have HX:=zh (show isS (.nd 47 n s ks)=(plainB n s&&kidsB 1 (fun _=>isP) ks) by simp [isS])
 have IH:=zh ihB
 have HV:=zh hv
 obtain ⟨Ad,c,rfl,hf,hlk,hlc,hrow⟩:=hv.open_
 simp only [T.k_nd,T.n_nd,T.s_nd,T.ks_nd] at *
 have hlk':=LK_int hlk
 clear hf hv hlk hrow hlc ihB
 by_cases hnb:plainB n s=true
 ·go_enter Tryz.func56,Tryz.ntmps56
  go_wp2_with fail
  refine (plain_any _ _ _ _ _ _ _).mono ?_
  rintro e w1 ⟨rfl,hb1⟩
  obtain ⟨hc1,hf1⟩:=bcell hb1
  have hbb:Below w.heap.size w w1:=((Below.refl _ _).alloc (Nat.le_refl _) _).trans (hb1.mono (by simp))
  go_wp2_with fail
  refine (kids_any (.nd 47 n s ks) _ _ (HV.out.later (hbb.alloc hbb.size _)) _ 1 (fun _=>101) (fun _=>Tryz.f101) (fun _=>isP) (by decide) (by simp) (fun i hi=>fcell (by rcases i with _|_|_|_|i<;>first|omega|rfl)) (fun _ _=>fnIsPlace) (fun hl i hi=>IsPlace_any _)).mono ?_
  rintro e w2 ⟨rfl,hb2⟩
  have hbc:Below w.heap.size w w2:=(hbb.alloc hbb.size _).trans (hb2.mono (by have:=hbb.size; simp; omega))
  go_wp2_with fail
  go_ret
  exact ⟨by rw [HX.out]; simp [*],hbc⟩
 ·have hnb':plainB n s=false:=by simpa using hnb
  clear hnb
  go_enter Tryz.func56,Tryz.ntmps56
  go_wp2_with fail
  refine (plain_any _ _ _ _ _ _ _).mono ?_
  rintro e w1 ⟨rfl,hb1⟩
  have hbb:Below w.heap.size w w1:=((Below.refl _ _).alloc (Nat.le_refl _) _).trans (hb1.mono (by simp))
  go_wp2_with fail
  go_ret
  exact ⟨by rw [HX.out]; simp [*],hbb⟩
theorem IsStmt_48 (n:Int) (s:ByteArray) (ks:List T) (ihB:∀ t∈ks,BlockC t):StmtC (.nd 48 n s ks):=by
 intro v w hv
 have HX:=zh (show isS (.nd 48 n s ks)=(plainB n s&&kidsB 1 (fun _=>isP) ks) by simp [isS])
 have IH:=zh ihB
 have HV:=zh hv
 obtain ⟨Ad,c,rfl,hf,hlk,hlc,hrow⟩:=hv.open_
 simp only [T.k_nd,T.n_nd,T.s_nd,T.ks_nd] at *
 have hlk':=LK_int hlk
 clear hf hv hlk hrow hlc ihB
 by_cases hnb:plainB n s=true
 ·go_enter Tryz.func56,Tryz.ntmps56
  go_wp2_with fail
  refine (plain_any _ _ _ _ _ _ _).mono ?_
  rintro e w1 ⟨rfl,hb1⟩
  obtain ⟨hc1,hf1⟩:=bcell hb1
  have hbb:Below w.heap.size w w1:=((Below.refl _ _).alloc (Nat.le_refl _) _).trans (hb1.mono (by simp))
  go_wp2_with fail
  refine (kids_any (.nd 48 n s ks) _ _ (HV.out.later (hbb.alloc hbb.size _)) _ 1 (fun _=>101) (fun _=>Tryz.f101) (fun _=>isP) (by decide) (by simp) (fun i hi=>fcell (by rcases i with _|_|_|_|i<;>first|omega|rfl)) (fun _ _=>fnIsPlace) (fun hl i hi=>IsPlace_any _)).mono ?_
  rintro e w2 ⟨rfl,hb2⟩
  have hbc:Below w.heap.size w w2:=(hbb.alloc hbb.size _).trans (hb2.mono (by have:=hbb.size; simp; omega))
  go_wp2_with fail
  go_ret
  exact ⟨by rw [HX.out]; simp [*],hbc⟩
 ·have hnb':plainB n s=false:=by simpa using hnb
  clear hnb
  go_enter Tryz.func56,Tryz.ntmps56
  go_wp2_with fail
  refine (plain_any _ _ _ _ _ _ _).mono ?_
  rintro e w1 ⟨rfl,hb1⟩
  have hbb:Below w.heap.size w w1:=((Below.refl _ _).alloc (Nat.le_refl _) _).trans (hb1.mono (by simp))
  go_wp2_with fail
  go_ret
  exact ⟨by rw [HX.out]; simp [*],hbb⟩
theorem IsStmt_49 (n:Int) (s:ByteArray) (ks:List T) (ihB:∀ t∈ks,BlockC t):StmtC (.nd 49 n s ks):=by
 intro v w hv
 have HX:=zh (show isS (.nd 49 n s ks)=(plainB n s&&kidsB 1 (fun _=>isP) ks) by simp [isS])
 have IH:=zh ihB
 have HV:=zh hv
 obtain ⟨Ad,c,rfl,hf,hlk,hlc,hrow⟩:=hv.open_
 simp only [T.k_nd,T.n_nd,T.s_nd,T.ks_nd] at *
 have hlk':=LK_int hlk
 clear hf hv hlk hrow hlc ihB
 by_cases hnb:plainB n s=true
 ·go_enter Tryz.func56,Tryz.ntmps56
  go_wp2_with fail
  refine (plain_any _ _ _ _ _ _ _).mono ?_
  rintro e w1 ⟨rfl,hb1⟩
  obtain ⟨hc1,hf1⟩:=bcell hb1
  have hbb:Below w.heap.size w w1:=((Below.refl _ _).alloc (Nat.le_refl _) _).trans (hb1.mono (by simp))
  go_wp2_with fail
  refine (kids_any (.nd 49 n s ks) _ _ (HV.out.later (hbb.alloc hbb.size _)) _ 1 (fun _=>101) (fun _=>Tryz.f101) (fun _=>isP) (by decide) (by simp) (fun i hi=>fcell (by rcases i with _|_|_|_|i<;>first|omega|rfl)) (fun _ _=>fnIsPlace) (fun hl i hi=>IsPlace_any _)).mono ?_
  rintro e w2 ⟨rfl,hb2⟩
  have hbc:Below w.heap.size w w2:=(hbb.alloc hbb.size _).trans (hb2.mono (by have:=hbb.size; simp; omega))
  go_wp2_with fail
  go_ret
  exact ⟨by rw [HX.out]; simp [*],hbc⟩
 ·have hnb':plainB n s=false:=by simpa using hnb
  clear hnb
  go_enter Tryz.func56,Tryz.ntmps56
  go_wp2_with fail
  refine (plain_any _ _ _ _ _ _ _).mono ?_
  rintro e w1 ⟨rfl,hb1⟩
  have hbb:Below w.heap.size w w1:=((Below.refl _ _).alloc (Nat.le_refl _) _).trans (hb1.mono (by simp))
  go_wp2_with fail
  go_ret
  exact ⟨by rw [HX.out]; simp [*],hbb⟩
theorem IsStmt_52 (n:Int) (s:ByteArray) (ks:List T) (ihB:∀ t∈ks,BlockC t):StmtC (.nd 52 n s ks):=by
 intro v w hv
 have HX:=zh (show isS (.nd 52 n s ks)=(plainB n s&&kidsB 4 (pEB 0) ks) by simp [isS,kidsB,<-isEB_eq])
 have IH:=zh ihB
 have HV:=zh hv
 obtain ⟨Ad,c,rfl,hf,hlk,hlc,hrow⟩:=hv.open_
 simp only [T.k_nd,T.n_nd,T.s_nd,T.ks_nd] at *
 have hlk':=LK_int hlk
 clear hf hv hlk hrow hlc ihB
 by_cases hnb:plainB n s=true
 ·go_enter Tryz.func56,Tryz.ntmps56
  go_wp2_with fail
  refine (plain_any _ _ _ _ _ _ _).mono ?_
  rintro e w1 ⟨rfl,hb1⟩
  obtain ⟨hc1,hf1⟩:=bcell hb1
  have hbb:Below w.heap.size w w1:=((Below.refl _ _).alloc (Nat.le_refl _) _).trans (hb1.mono (by simp))
  go_wp2_with fail
  refine (kids_any (.nd 52 n s ks) _ _ (HV.out.later (hbb.alloc hbb.size _)) _ 4 (fun i=>if i=0\/i=3 then 102 else 91) (fun i=>if i=0\/i=3 then Tryz.f102 else Tryz.f91) (pEB 0) (by decide) (by simp) (fun i hi=>fcell (by rcases i with _|_|_|_|i<;>first|omega|rfl)) (fun i hi=>by rcases i with _|_|_|_|i; exact fnIsExpr; exact fnIsBlock; exact fnIsBlock; exact fnIsExpr; omega) (fun hl i hi=>by rcases i with _|_|_|_|i; exact IsExpr_any _; exact IH.out _ (List.getElem_mem hi); exact IH.out _ (List.getElem_mem hi); exact IsExpr_any _; exact absurd hi (by simp only [T.ks_nd] at hl ⊢; omega))).mono ?_
  rintro e w2 ⟨rfl,hb2⟩
  have hbc:Below w.heap.size w w2:=(hbb.alloc hbb.size _).trans (hb2.mono (by have:=hbb.size; simp; omega))
  go_wp2_with fail
  go_ret
  exact ⟨by rw [HX.out]; simp [*],hbc⟩
 ·have hnb':plainB n s=false:=by simpa using hnb
  clear hnb
  go_enter Tryz.func56,Tryz.ntmps56
  go_wp2_with fail
  refine (plain_any _ _ _ _ _ _ _).mono ?_
  rintro e w1 ⟨rfl,hb1⟩
  have hbb:Below w.heap.size w w1:=((Below.refl _ _).alloc (Nat.le_refl _) _).trans (hb1.mono (by simp))
  go_wp2_with fail
  go_ret
  exact ⟨by rw [HX.out]; simp [*],hbb⟩
theorem IsStmt_53 (n:Int) (s:ByteArray) (ks:List T) (ihB:∀ t∈ks,BlockC t):StmtC (.nd 53 n s ks):=by
 intro v w hv
 have HX:=zh (show isS (.nd 53 n s ks)=(plainB n s&&kidsB 4 (pEB 0) ks) by simp [isS,kidsB,<-isEB_eq])
 have IH:=zh ihB
 have HV:=zh hv
 obtain ⟨Ad,c,rfl,hf,hlk,hlc,hrow⟩:=hv.open_
 simp only [T.k_nd,T.n_nd,T.s_nd,T.ks_nd] at *
 have hlk':=LK_int hlk
 clear hf hv hlk hrow hlc ihB
 by_cases hnb:plainB n s=true
 ·go_enter Tryz.func56,Tryz.ntmps56
  go_wp2_with fail
  refine (plain_any _ _ _ _ _ _ _).mono ?_
  rintro e w1 ⟨rfl,hb1⟩
  obtain ⟨hc1,hf1⟩:=bcell hb1
  have hbb:Below w.heap.size w w1:=((Below.refl _ _).alloc (Nat.le_refl _) _).trans (hb1.mono (by simp))
  go_wp2_with fail
  refine (kids_any (.nd 53 n s ks) _ _ (HV.out.later (hbb.alloc hbb.size _)) _ 4 (fun i=>if i=0\/i=3 then 102 else 91) (fun i=>if i=0\/i=3 then Tryz.f102 else Tryz.f91) (pEB 0) (by decide) (by simp) (fun i hi=>fcell (by rcases i with _|_|_|_|i<;>first|omega|rfl)) (fun i hi=>by rcases i with _|_|_|_|i; exact fnIsExpr; exact fnIsBlock; exact fnIsBlock; exact fnIsExpr; omega) (fun hl i hi=>by rcases i with _|_|_|_|i; exact IsExpr_any _; exact IH.out _ (List.getElem_mem hi); exact IH.out _ (List.getElem_mem hi); exact IsExpr_any _; exact absurd hi (by simp only [T.ks_nd] at hl ⊢; omega))).mono ?_
  rintro e w2 ⟨rfl,hb2⟩
  have hbc:Below w.heap.size w w2:=(hbb.alloc hbb.size _).trans (hb2.mono (by have:=hbb.size; simp; omega))
  go_wp2_with fail
  go_ret
  exact ⟨by rw [HX.out]; simp [*],hbc⟩
 ·have hnb':plainB n s=false:=by simpa using hnb
  clear hnb
  go_enter Tryz.func56,Tryz.ntmps56
  go_wp2_with fail
  refine (plain_any _ _ _ _ _ _ _).mono ?_
  rintro e w1 ⟨rfl,hb1⟩
  have hbb:Below w.heap.size w w1:=((Below.refl _ _).alloc (Nat.le_refl _) _).trans (hb1.mono (by simp))
  go_wp2_with fail
  go_ret
  exact ⟨by rw [HX.out]; simp [*],hbb⟩
theorem IsStmt_54 (n:Int) (s:ByteArray) (ks:List T) (ihB:∀ t∈ks,BlockC t):StmtC (.nd 54 n s ks):=by
 intro v w hv
 have HX:=zh (show isS (.nd 54 n s ks)=(namedB n s&&kidsB 3 (pEB 4) ks) by simp [isS,kidsB,<-isEB_eq])
 have IH:=zh ihB
 have HV:=zh hv
 obtain ⟨Ad,c,rfl,hf,hlk,hlc,hrow⟩:=hv.open_
 simp only [T.k_nd,T.n_nd,T.s_nd,T.ks_nd] at *
 have hlk':=LK_int hlk
 clear hf hv hlk hrow hlc ihB
 by_cases hnb:namedB n s=true
 ·go_enter Tryz.func56,Tryz.ntmps56
  go_wp2_with fail
  refine (named_any _ _ _ _ _ _ _).mono ?_
  rintro e w1 ⟨rfl,hb1⟩
  obtain ⟨hc1,hf1⟩:=bcell hb1
  have hbb:Below w.heap.size w w1:=((Below.refl _ _).alloc (Nat.le_refl _) _).trans (hb1.mono (by simp))
  go_wp2_with fail
  refine (kids_any (.nd 54 n s ks) _ _ (HV.out.later (hbb.alloc hbb.size _)) _ 3 (fun i=>if i=1 then 91 else 102) (fun i=>if i=1 then Tryz.f91 else Tryz.f102) (pEB 4) (by decide) (by simp) (fun i hi=>fcell (by rcases i with _|_|_|_|i<;>first|omega|rfl)) (fun i hi=>by rcases i with _|_|_|i; exact fnIsExpr; exact fnIsBlock; exact fnIsExpr; omega) (fun hl i hi=>by rcases i with _|_|_|i; exact IsExpr_any _; exact IH.out _ (List.getElem_mem hi); exact IsExpr_any _; exact absurd hi (by simp only [T.ks_nd] at hl ⊢; omega))).mono ?_
  rintro e w2 ⟨rfl,hb2⟩
  have hbc:Below w.heap.size w w2:=(hbb.alloc hbb.size _).trans (hb2.mono (by have:=hbb.size; simp; omega))
  go_wp2_with fail
  go_ret
  exact ⟨by rw [HX.out]; simp [*],hbc⟩
 ·have hnb':namedB n s=false:=by simpa using hnb
  clear hnb
  go_enter Tryz.func56,Tryz.ntmps56
  go_wp2_with fail
  refine (named_any _ _ _ _ _ _ _).mono ?_
  rintro e w1 ⟨rfl,hb1⟩
  have hbb:Below w.heap.size w w1:=((Below.refl _ _).alloc (Nat.le_refl _) _).trans (hb1.mono (by simp))
  go_wp2_with fail
  go_ret
  exact ⟨by rw [HX.out]; simp [*],hbb⟩
theorem IsStmt_55 (n:Int) (s:ByteArray) (ks:List T) (ihB:∀ t∈ks,BlockC t):StmtC (.nd 55 n s ks):=by
 intro v w hv
 have HX:=zh (show isS (.nd 55 n s ks)=(namedB n s&&kidsB 1 (pEB 7) ks) by simp [isS,kidsB,<-isEB_eq])
 have IH:=zh ihB
 have HV:=zh hv
 obtain ⟨Ad,c,rfl,hf,hlk,hlc,hrow⟩:=hv.open_
 simp only [T.k_nd,T.n_nd,T.s_nd,T.ks_nd] at *
 have hlk':=LK_int hlk
 clear hf hv hlk hrow hlc ihB
 by_cases hnb:namedB n s=true
 ·go_enter Tryz.func56,Tryz.ntmps56
  go_wp2_with fail
  refine (named_any _ _ _ _ _ _ _).mono ?_
  rintro e w1 ⟨rfl,hb1⟩
  obtain ⟨hc1,hf1⟩:=bcell hb1
  have hbb:Below w.heap.size w w1:=((Below.refl _ _).alloc (Nat.le_refl _) _).trans (hb1.mono (by simp))
  go_wp2_with fail
  refine (kids_any (.nd 55 n s ks) _ _ (HV.out.later (hbb.alloc hbb.size _)) _ 1 (fun _=>91) (fun _=>Tryz.f91) (pEB 7) (by decide) (by simp) (fun i hi=>fcell (by rcases i with _|_|_|_|i<;>first|omega|rfl)) (fun _ _=>fnIsBlock) (fun hl i hi=>by rcases i with _|i; exact IH.out _ (List.getElem_mem hi); exact absurd hi (by simp only [T.ks_nd] at hl ⊢; omega))).mono ?_
  rintro e w2 ⟨rfl,hb2⟩
  have hbc:Below w.heap.size w w2:=(hbb.alloc hbb.size _).trans (hb2.mono (by have:=hbb.size; simp; omega))
  go_wp2_with fail
  go_ret
  exact ⟨by rw [HX.out]; simp [*],hbc⟩
 ·have hnb':namedB n s=false:=by simpa using hnb
  clear hnb
  go_enter Tryz.func56,Tryz.ntmps56
  go_wp2_with fail
  refine (named_any _ _ _ _ _ _ _).mono ?_
  rintro e w1 ⟨rfl,hb1⟩
  have hbb:Below w.heap.size w w1:=((Below.refl _ _).alloc (Nat.le_refl _) _).trans (hb1.mono (by simp))
  go_wp2_with fail
  go_ret
  exact ⟨by rw [HX.out]; simp [*],hbb⟩
theorem IsStmt_50 (n:Int) (s:ByteArray) (ks:List T):StmtC (.nd 50 n s ks):=by
 intro v w hv
 have HX:=zh (show isS (.nd 50 n s ks)=(namedB n s&&decide (ks.length<=8)&&kidsFrom (fun _=>isV) 0 ks) by simp [isS])
 have HV:=zh hv
 obtain ⟨Ad,c,rfl,hf,hlk,hlc,hrow⟩:=hv.open_
 simp only [T.k_nd,T.n_nd,T.s_nd,T.ks_nd] at *
 have hlk':=LK_int hlk
 clear hf hv hlc
 by_cases hnb:namedB n s=true
 ·by_cases hl8:ks.length<=8
  ·go_enter Tryz.func56,Tryz.ntmps56
   go_wp2_with fail
   refine (named_any _ _ _ _ _ _ _).mono ?_
   rintro e w1 ⟨rfl,hb1⟩
   obtain ⟨hc1,hf1⟩:=bcell hb1
   have hbb:Below w.heap.size w w1:=((Below.refl _ _).alloc (Nat.le_refl _) _).trans (hb1.mono (by simp))
   go_wp2_with fail
   refine (every_any ks _ _ _ (hrow.later hbb) hlk _ _ fnIsVar isV (fun i hi=>isVar_any _)).mono ?_
   rintro e w2 ⟨rfl,hb2⟩
   have hbc:Below w.heap.size w w2:=hbb.trans (hb2.mono hbb.size)
   go_wp2_with fail
   go_ret
   exact ⟨by rw [HX.out]; simp [*],hbc⟩
  ·have hl9:8<ks.length:=by omega
   clear hl8
   go_enter Tryz.func56,Tryz.ntmps56
   go_wp2_with fail
   refine (named_any _ _ _ _ _ _ _).mono ?_
   rintro e w1 ⟨rfl,hb1⟩
   obtain ⟨hc1,hf1⟩:=bcell hb1
   have hbb:Below w.heap.size w w1:=((Below.refl _ _).alloc (Nat.le_refl _) _).trans (hb1.mono (by simp))
   go_wp2_with fail
   go_ret
   exact ⟨by rw [HX.out]; simp [show ¬ ks.length<=8 by omega],hbb⟩
 ·have hnb':namedB n s=false:=by simpa using hnb
  clear hnb
  go_enter Tryz.func56,Tryz.ntmps56
  go_wp2_with fail
  refine (named_any _ _ _ _ _ _ _).mono ?_
  rintro e w1 ⟨rfl,hb1⟩
  have hbb:Below w.heap.size w w1:=((Below.refl _ _).alloc (Nat.le_refl _) _).trans (hb1.mono (by simp))
  go_wp2_with fail
  go_ret
  exact ⟨by rw [HX.out]; simp [*],hbb⟩
theorem IsStmt_51 (n:Int) (s:ByteArray) (ks:List T):StmtC (.nd 51 n s ks):=by
 intro v w hv
 have HX:=zh (show isS (.nd 51 n s ks)=(namedB n s&&decide (ks.length<=8)&&kidsFrom (fun _=>isV) 0 ks) by simp [isS])
 have HV:=zh hv
 obtain ⟨Ad,c,rfl,hf,hlk,hlc,hrow⟩:=hv.open_
 simp only [T.k_nd,T.n_nd,T.s_nd,T.ks_nd] at *
 have hlk':=LK_int hlk
 clear hf hv hlc
 by_cases hnb:namedB n s=true
 ·by_cases hl8:ks.length<=8
  ·go_enter Tryz.func56,Tryz.ntmps56
   go_wp2_with fail
   refine (named_any _ _ _ _ _ _ _).mono ?_
   rintro e w1 ⟨rfl,hb1⟩
   obtain ⟨hc1,hf1⟩:=bcell hb1
   have hbb:Below w.heap.size w w1:=((Below.refl _ _).alloc (Nat.le_refl _) _).trans (hb1.mono (by simp))
   go_wp2_with fail
   refine (every_any ks _ _ _ (hrow.later hbb) hlk _ _ fnIsVar isV (fun i hi=>isVar_any _)).mono ?_
   rintro e w2 ⟨rfl,hb2⟩
   have hbc:Below w.heap.size w w2:=hbb.trans (hb2.mono hbb.size)
   go_wp2_with fail
   go_ret
   exact ⟨by rw [HX.out]; simp [*],hbc⟩
  ·have hl9:8<ks.length:=by omega
   clear hl8
   go_enter Tryz.func56,Tryz.ntmps56
   go_wp2_with fail
   refine (named_any _ _ _ _ _ _ _).mono ?_
   rintro e w1 ⟨rfl,hb1⟩
   obtain ⟨hc1,hf1⟩:=bcell hb1
   have hbb:Below w.heap.size w w1:=((Below.refl _ _).alloc (Nat.le_refl _) _).trans (hb1.mono (by simp))
   go_wp2_with fail
   go_ret
   exact ⟨by rw [HX.out]; simp [show ¬ ks.length<=8 by omega],hbb⟩
 ·have hnb':namedB n s=false:=by simpa using hnb
  clear hnb
  go_enter Tryz.func56,Tryz.ntmps56
  go_wp2_with fail
  refine (named_any _ _ _ _ _ _ _).mono ?_
  rintro e w1 ⟨rfl,hb1⟩
  have hbb:Below w.heap.size w w1:=((Below.refl _ _).alloc (Nat.le_refl _) _).trans (hb1.mono (by simp))
  go_wp2_with fail
  go_ret
  exact ⟨by rw [HX.out]; simp [*],hbb⟩
theorem IsStmt_not (k n:Int) (s:ByteArray) (ks:List T) (n40:(k==40)=false) (n41:(k==41)=false) (n42:(k==42)=false) (n43:(k==43)=false) (n44:(k==44)=false) (n45:(k==45)=false) (n46:(k==46)=false) (n47:(k==47)=false) (n48:(k==48)=false) (n49:(k==49)=false) (n50:(k==50)=false) (n51:(k==51)=false) (n52:(k==52)=false) (n53:(k==53)=false) (n54:(k==54)=false) (n55:(k==55)=false) (n56:(k==56)=false):StmtC (.nd k n s ks):=by
 intro v w hv
 obtain ⟨Ad,c,rfl,hf,hlk,hlc,hrow⟩:=hv.open_
 simp only [T.k_nd,T.n_nd,T.s_nd,T.ks_nd] at *
 have hlk':=LK_int hlk
 have HX:=zh (show isS (.nd k n s ks)=false by
  simp only [beq_eq_false_iff_ne,ne_eq] at n40 n41 n42 n43 n44 n45 n46 n47 n48 n49 n50 n51 n52 n53 n54 n55 n56
  rw [isS,if_neg (by omega),if_neg (by omega),if_neg (by omega),if_neg (by omega),if_neg (by omega),if_neg (by omega),if_neg (by omega),if_neg (by omega)])
 clear hf hv hlk hrow hlc
 go_enter Tryz.func56,Tryz.ntmps56
 go_wp2
 go_ret
 exact ⟨by rw [HX.out]; rfl,(Below.refl _ _).alloc (Nat.le_refl _) _⟩
theorem IsBlock_of (k n:Int) (s:ByteArray) (ks:List T) (ih:∀ t∈ks,StmtC t):BlockC (.nd k n s ks):=by
 intro v w hv
 have HX:=zh (show isB (.nd k n s ks)=((k==57)&&plainB n s&&kidsFrom (fun _=>isS) 0 ks) by rw [isB,isSs_eq 0]; rfl)
 have IH:=zh ih
 obtain ⟨Ad,c,rfl,hf,hlk,hlc,hrow⟩:=hv.open_
 simp only [T.k_nd,T.n_nd,T.s_nd,T.ks_nd] at *
 have hlk':=LK_int hlk
 clear hf hv hlc ih
 by_cases hk:(k==57)=true
 ·by_cases hnb:plainB n s=true
  ·go_enter Tryz.func91,Tryz.ntmps91
   go_wp2_with fail
   refine (plain_any _ _ _ _ _ _ _).mono ?_
   rintro e w1 ⟨rfl,hb1⟩
   obtain ⟨hc1,hf1⟩:=bcell hb1
   have hbb:Below w.heap.size w w1:=((Below.refl _ _).alloc (Nat.le_refl _) _).trans (hb1.mono (by simp))
   go_wp2_with fail
   refine (every_any ks _ _ _ (hrow.later hbb) hlk _ _ fnIsStmt isS (fun i hi=>IH.out _ (List.getElem_mem hi))).mono ?_
   rintro e w2 ⟨rfl,hb2⟩
   have hbc:Below w.heap.size w w2:=hbb.trans (hb2.mono hbb.size)
   go_wp2_with fail
   go_ret
   exact ⟨by rw [HX.out]; simp [*],hbc⟩
  ·have hnb':plainB n s=false:=by simpa using hnb
   clear hnb
   go_enter Tryz.func91,Tryz.ntmps91
   go_wp2_with fail
   refine (plain_any _ _ _ _ _ _ _).mono ?_
   rintro e w1 ⟨rfl,hb1⟩
   have hbb:Below w.heap.size w w1:=((Below.refl _ _).alloc (Nat.le_refl _) _).trans (hb1.mono (by simp))
   go_wp2_with fail
   go_ret
   exact ⟨by rw [HX.out]; simp [*],hbb⟩
 ·have hk':(k==57)=false:=by simpa using hk
  clear hk
  go_enter Tryz.func91,Tryz.ntmps91
  go_wp2_with fail
  go_ret
  exact ⟨by rw [HX.out]; simp [*],(Below.refl _ _).alloc (Nat.le_refl _) _⟩
theorem both_any (t:T):StmtC t/\BlockC t:=by
 induction t using T.ind with
 | _ k n s ks ih =>
 have ihS:∀ t∈ks,StmtC t:=fun t ht=>(ih t ht).1
 have ihB:∀ t∈ks,BlockC t:=fun t ht=>(ih t ht).2
 refine ⟨?_,IsBlock_of k n s ks ihS⟩
 by_cases h40:k=40
 ·subst h40; exact IsStmt_40 n s ks ihB
 by_cases h41:k=41
 ·subst h41; exact IsStmt_41 n s ks ihB
 by_cases h42:k=42
 ·subst h42; exact IsStmt_42 n s ks ihB
 by_cases h43:k=43
 ·subst h43; exact IsStmt_43 n s ks ihB
 by_cases h44:k=44
 ·subst h44; exact IsStmt_44 n s ks ihB
 by_cases h45:k=45
 ·subst h45; exact IsStmt_45 n s ks ihB
 by_cases h46:k=46
 ·subst h46; exact IsStmt_46 n s ks ihB
 by_cases h47:k=47
 ·subst h47; exact IsStmt_47 n s ks ihB
 by_cases h48:k=48
 ·subst h48; exact IsStmt_48 n s ks ihB
 by_cases h49:k=49
 ·subst h49; exact IsStmt_49 n s ks ihB
 by_cases h50:k=50
 ·subst h50; exact IsStmt_50 n s ks
 by_cases h51:k=51
 ·subst h51; exact IsStmt_51 n s ks
 by_cases h52:k=52
 ·subst h52; exact IsStmt_52 n s ks ihB
 by_cases h53:k=53
 ·subst h53; exact IsStmt_53 n s ks ihB
 by_cases h54:k=54
 ·subst h54; exact IsStmt_54 n s ks ihB
 by_cases h55:k=55
 ·subst h55; exact IsStmt_55 n s ks ihB
 by_cases h56:k=56
 ·subst h56; exact IsStmt_56 n s ks ihB
 exact IsStmt_not k n s ks (by simpa using h40) (by simpa using h41) (by simpa using h42) (by simpa using h43) (by simpa using h44) (by simpa using h45) (by simpa using h46) (by simpa using h47) (by simpa using h48) (by simpa using h49) (by simpa using h50) (by simpa using h51) (by simpa using h52) (by simpa using h53) (by simpa using h54) (by simpa using h55) (by simpa using h56)
theorem IsStmt_any (t:T):StmtC t:=(both_any t).1
theorem IsBlock_any (t:T):BlockC t:=(both_any t).2
end Go.Proofs.YtckhofdinldhpaaGreat
namespace Go.Proofs.YtckhofdinldhpaaGreat
open Go Go.RowKit
theorem kidsB1 {f:Nat->T->Bool} {ks:List T} (h:kidsB 1 f ks=true):∃ p,ks=[p]/\f 0 p=true:=by
 match ks with
 | [p]=>simp [kidsB,kidsFrom] at h; exact ⟨p,rfl,h⟩
 | []=>simp [kidsB] at h
 | a::b::l=>simp [kidsB] at h
theorem kidsB2 {f:Nat->T->Bool} {ks:List T} (h:kidsB 2 f ks=true):∃ p q,ks=[p,q]/\f 0 p=true/\f 1 q=true:=by
 match ks with
 | [p,q]=>simp [kidsB,kidsFrom] at h; exact ⟨p,q,rfl,h⟩
 | []=>simp [kidsB] at h
 | [a]=>simp [kidsB] at h
 | a::b::c::l=>simp [kidsB] at h
theorem isS_basic {k n:Int} {s:ByteArray} {ks:List T} (h:isS (.nd k n s ks)=true) (hb:basB k=true) :
  ((k=40\/k=41\/k=42)/\∃ p q,ks=[p,q]/\isP p=true/\isE q=true)\/(k=43/\∃ p q,ks=[p,q]/\isP p=true/\isP q=true)\/((44<=k/\k<=49)/\∃ p,ks=[p]/\isP p=true):=by
 have hr:=of_decide_eq_true hb
 rw [isS] at h
 by_cases h1:k=40\/k=41\/k=42\/k=56
 ·rw [if_pos h1,Bool.and_eq_true] at h
  obtain ⟨p,q,e,a,b⟩:=kidsB2 h.2
  exact .inl ⟨by omega,p,q,e,by simpa using a,by simpa using b⟩
 ·rw [if_neg h1] at h
  by_cases h2:k=43
  ·rw [if_pos h2,Bool.and_eq_true] at h
   obtain ⟨p,q,e,a,b⟩:=kidsB2 h.2
   exact .inr (.inl ⟨h2,p,q,e,a,b⟩)
  ·rw [if_neg h2] at h
   by_cases h3:k=44\/k=45
   ·rw [if_pos h3,Bool.and_eq_true] at h
    obtain ⟨p,e,a⟩:=kidsB1 h.2
    exact .inr (.inr ⟨by omega,p,e,a⟩)
   ·rw [if_neg h3,if_pos (by omega),Bool.and_eq_true] at h
    obtain ⟨p,e,a⟩:=kidsB1 h.2
    exact .inr (.inr ⟨by omega,p,e,a⟩)
def DoP (n0:Nat) (P:Ph) (S:ST) (W:World) (R:Int×ST) (e:Ending) (W':World):Prop:=e=.returned (.int .i64 R.1)/\∃ P',SStp n0 P S W P' R.2 W'/\P'.sb=P.sb
theorem execute_any {W:World} {n0:Nat} {P:Ph} {S:ST} (h:SR W n0 P S) (t:T) (v:Value) (hv:NV W Any t v) (hs:isS t=true) (hb:basB t.k=true) (hf:fltE S.cur.vs t=0) :
  Calls Tryz.prog 60 #[.pointer (some ⟨P.sb,0,none⟩),v] W (DoP n0 P S W (execE S t)):=by
 obtain ⟨k,n,s,ks⟩:=t
 obtain ⟨fo,fk⟩:=flt_own hf
 rcases isS_basic hs hb with ⟨hk,p,q,rfl,hp,hq⟩|⟨rfl,p,q,rfl,hp,hq⟩|⟨hk,p,rfl,hp⟩
 ·obtain ⟨id,kp,h1,h2,h3⟩:=plc_num h.wf hp (flts_mem fk p (by simp))
  have:=exec_upd h k n s p q v hv hk id h1 kp h2
  have e:execE S (.nd k n s [p,q])=exec1 S k s p q (indE S.look p) (exprE S.look q):=by
   show exec1 S k s p q (indE S.look p) (rightE S k q)=_
   rw [rightE,if_neg (by omega),if_pos hk]
  unfold DoP
  rw [e]
  exact this
 ·obtain ⟨id,kp,h1,h2,h3⟩:=plc_num h.wf hp (flts_mem fk p (by simp))
  obtain ⟨jd,kq,h4,h5,h6⟩:=plc_num h.wf hq (flts_mem fk q (by simp))
  have:=exec_swap h 43 n s p q v hv rfl id h1 kp h2 jd h4 kq h5
  have e:execE S (.nd 43 n s [p,q])=exec1 S 43 s p q (indE S.look p) (indE S.look q):=by
   show exec1 S 43 s p q (indE S.look p) (rightE S 43 q)=_
   rw [rightE,if_pos rfl]
  unfold DoP
  rw [e]
  exact this
 ·obtain ⟨id,kp,h1,h2,h3⟩:=plc_num h.wf hp (flts_mem fk p (by simp))
  have hst:k=44\/k=45->∃ sid,S.num s=some sid/\CurK S sid 3:=fun h45=>by
   have hn:needE k=3:=by rcases h45 with rfl|rfl<;>rfl
   obtain ⟨u,h4,h5⟩:=own_find fo (by rw [hn]; decide)
   obtain ⟨sid,h6,h7⟩:=num_of h.wf h4
   exact ⟨sid,h6,by rw [h5,hn] at h7; exact h7⟩
  have:=exec_one h k n s p v hv hk id h1 kp h2 h3 hst
  have e:execE S (.nd k n s [p])=exec1 S k s p nil0 (indE S.look p) (0,0):=by
   show exec1 S k s p nil0 (indE S.look p) (rightE S k nil0)=_
   rw [rightE,if_neg (by omega),if_neg (by omega)]
  unfold DoP
  rw [e]
  exact this
theorem fnCurrent:IsFn Tryz.prog 58 Tryz.f58:=⟨Tryz.func58,by kernel_rfl,by kernel_rfl⟩
theorem fnFFault:IsFn Tryz.prog 59 Tryz.f59:=⟨Tryz.func59,by kernel_rfl,by kernel_rfl⟩
theorem Do_any {W:World} {n0:Nat} {P:Ph} {S:ST} (h:SR W n0 P S) (t:T) (v:Value) (hv:NV W Any t v) :
  Calls Tryz.prog 20 #[.pointer (some ⟨P.sb,0,none⟩),v] W (DoP n0 P S W (doE S t)):=by
 obtain ⟨R,hR⟩:∃ R,doE S t=R:=⟨_,rfl⟩
 rw [hR]
 have HRR:=zh hR
 have HS:=zh h
 have HV:=zh hv
 obtain ⟨A,c,rfl,-,-,-,-⟩:=hv.open_
 obtain ⟨b,hb⟩:∃ b,isS t=b:=⟨_,rfl⟩
 have HIS:=zh (show ∀ (v:Value) (w:World),NV w Any t v->Calls Tryz.prog 56 #[v] w fun e w'=>e=.returned (.bool b)/\Below w.heap.size w w' from fun v w h=>hb▸IsStmt_any t v w h)
 have HBE:=zh hb
 have HEX:=zh (show ∀ (v:Value) (W':World),NV W' Any t v->Below W.heap.size W W'->isS t=true->basB t.k=true->fltE S.cur.vs t=0->doE S t=execE S t->Calls Tryz.prog 60 #[.pointer (some ⟨P.sb,0,none⟩),v] W' (DoP n0 P S W R) from fun v W' hv' hbl h1 h2 h3 h4=>by
  refine (execute_any (h.later hbl) t v hv' h1 h2 h3).mono ?_
  rintro e W2 ⟨a1,P',a2,a3⟩
  rw [<-h4,hR] at a1 a2
  exact ⟨a1,P',⟨a2.st.after hbl h.rws,a2.wf⟩,a3⟩)
 obtain ⟨kd,hw⟩:=h.curWF
 obtain ⟨A0,c0,hcv,hc,hrow⟩:=h.curVs
 obtain ⟨h3,h4,h5⟩:=h.cur3
 rw [hcv] at h3
 have HCU:=zh (fun W' (hb:Below W.heap.size W W')=>current_any (h.later hb))
 have HFF:=zh (fun (v:Value) W' (hb:Below W.heap.size W W') (hv':NV W' Any t v)=>ffault_any S.cur.vs A0 c0 (curP P S) hw.lim t v W' hv' (zb hb h3) (hrow.later hb))
 obtain ⟨cp,hcp⟩:∃ cp,curP P S=cp:=⟨_,rfl⟩
 rw [hcp] at HCU HFF
 obtain ⟨fe,hfe⟩:∃ fe,fltE S.cur.vs t=fe:=⟨_,rfl⟩
 rw [hfe] at HFF HEX
 have HBA:=zh (fun w=>basic_any t.k w)
 obtain ⟨bb,hbb⟩:∃ b,basB t.k=b:=⟨_,rfl⟩
 rw [hbb] at HBA HEX
 have HD:=zh (show R=if b=false then (3,S) else if t.k=56 then (9,S) else if bb=false then (7,S) else if fe≠0 then (fe,S) else execE S t by rw [<-hR,doE,hb,hbb,hfe])
 have HDE:=zh (show doE S t=R from hR)
 obtain ⟨k,hk⟩:∃ k,t.k=k:=⟨_,rfl⟩
 obtain ⟨n,hn⟩:∃ n,t.n=n:=⟨_,rfl⟩
 obtain ⟨s,hs⟩:∃ s,t.s=s:=⟨_,rfl⟩
 obtain ⟨m,hm⟩:∃ m,t.ks.length=m:=⟨_,rfl⟩
 rw [hk,hn,hs,hm] at HV ⊢
 rw [hk] at HBA HD
 clear h hv hR hb hw hcv hc hrow h3 h4 h5 hcp hfe hbb hk hn hs hm
 have hbx:=box4 (heap_alloc_new W (.cells #[.int .u8 k,.int .i64 n,.string s,.slice A m c] 29))
 have HBK:=zh (heap_alloc_new W (.cells #[.int .u8 k,.int .i64 n,.string s,.slice A m c] 29))
 obtain ⟨W0,hW0⟩:∃ W0,W.alloc (.cells #[.int .u8 k,.int .i64 n,.string s,.slice A m c] 29)=W0:=⟨_,rfl⟩
 have q0:Below W.heap.size W W0:=hW0▸bl_al (Below.refl _ _) _
 rw [hW0] at hbx HBK
 have HQ0:=zh q0
 obtain ⟨x0,x1,x2,x3⟩:=hbx
 clear q0
 go_enter Tryz.func20,Tryz.ntmps20
 go_wp2_with fail
 refine (HIS.out _ _ (HV.out.later HQ0.out)).mono ?_
 rintro e w1 ⟨rfl,bw1⟩
 have HB1:=zh (bl_tt HQ0.out bw1)
 have HK1:=zh (blk_bl HBK.out bw1)
 obtain ⟨y0,y1,y2,y3⟩:=box4 HK1.out
 clear bw1 x0 x1 x2 x3
 cases b
 ·have HN:=zh (show R=(3,S) by rw [HD.out,if_pos rfl])
  go_wp2_with fail
  go_ret
  exact ⟨by rw [HN.out]; rfl,P,by rw [HN.out]; exact SStp.refl HS.out HB1.out,rfl⟩
 ·by_cases h56:k=56
  ·have HN:=zh (show R=(9,S) by rw [HD.out,if_neg (by decide),if_pos h56])
   subst h56
   go_wp2_with fail
   go_ret
   exact ⟨by rw [HN.out]; rfl,P,by rw [HN.out]; exact SStp.refl HS.out HB1.out,rfl⟩
  ·have k56:(k==56)=false:=by simpa using h56
   go_wp2_with fail
   refine (HBA.out _).mono ?_
   rintro e w2 ⟨rfl,rfl⟩
   cases bb
   ·have HN:=zh (show R=(7,S) by rw [HD.out,if_neg (by decide),if_neg h56,if_pos rfl])
    go_wp2_with fail
    go_ret
    exact ⟨by rw [HN.out]; rfl,P,by rw [HN.out]; exact SStp.refl HS.out HB1.out,rfl⟩
   ·have HD2:=zh (show R=if fe≠0 then (fe,S) else execE S t by rw [HD.out,if_neg (by decide),if_neg h56,if_neg (by decide)])
    clear HD HBA
    go_upto_region 9 with fail
    have hSS:(fun w':World=>w'.cell? ⟨W.heap.size,0,none⟩=some (.int .u8 k)/\w'.cell? ⟨W.heap.size,1,none⟩=some (.int .i64 n)/\w'.cell? ⟨W.heap.size,2,none⟩=some (.string s)/\w'.cell? ⟨W.heap.size,3,none⟩=some (.slice A m c)) w2.drew/\(fun _:World=>True) w2.drew:=⟨⟨y0,y1,y2,y3⟩,trivial⟩
    refine wp_region_noPanic ?_
    refine wp_region_G (fun w':World=>w'.cell? ⟨W.heap.size,0,none⟩=some (.int .u8 k)/\w'.cell? ⟨W.heap.size,1,none⟩=some (.int .i64 n)/\w'.cell? ⟨W.heap.size,2,none⟩=some (.string s)/\w'.cell? ⟨W.heap.size,3,none⟩=some (.slice A m c)) (fun _:World=>True) 3 (by kernel_rfl) ?_
    refine zT 0 hSS ?_
    (try simp only [Act.put,zP])
    refine zT 2 hSS ?_
    (try simp only [Act.put,zP])
    have had:Calls Tryz.prog 58 [.pointer (some ⟨P.sb,0,none⟩)].toArray w2.drew fun e W'=>∃ u,e=.returned u/\u=.pointer (some cp)/\W'=w2.drew :=
     (HCU.out _ HB1.out.drew).mono fun e W' hh=>⟨_,hh.1,rfl,hh.2⟩
    refine wpG_one (i:=1) (by kernel_rfl) rfl (fun K hK=>?_)
    refine step_callL (by rfl) (.func 58) [.tmp 22] _ (by rfl) 58 _ fnCurrent (by rfl) _ (by rfl) _ had ?_
    rintro v4 w4 ⟨rfl,rfl⟩
    refine hK.out _ _ hSS ?_
    clear hK K had
    (try simp only [Act.put,zP])
    have had:Calls Tryz.prog 59 [.pointer (some cp),nv k n s A m c].toArray w2.drew fun e W'=>∃ u,e=.returned u/\u=.int .i64 fe/\Below w2.drew.heap.size w2.drew W' :=
     (HFF.out _ _ HB1.out.drew ((HV.out.later HB1.out).later (Below.refl _ _).drew)).mono fun e W' hh=>⟨_,hh.1,rfl,hh.2⟩
    refine wpG_past (i:=3) (by kernel_rfl) rfl (by kernel_rfl) (fun K hK=>?_)
    refine step_callL (by rfl) (.func 59) [.tmp 23,.tmp 24] _ (by rfl) 59 _ fnFFault (by rfl) _ (by rfl) _ had ?_
    rintro v5 w5 ⟨rfl,hb5⟩
    have HB5:=zh (bl_tt HB1.out.drew hb5)
    have HK5:=zh (blk_bl (show w2.drew.heap[W.heap.size]?=_ from HK1.out) hb5)
    obtain ⟨u0,u1,u2,u3⟩:=box4 HK5.out
    refine hK.out _ _ ⟨u0,u1,u2,u3⟩ ?_
    clear hK K had hb5 hSS y0 y1 y2 y3
    (try simp only [Act.put,zP])
    refine wpG_past (i:=4) (by kernel_rfl) rfl (by kernel_rfl) (fun K hK=>?_)
    (try simp only [zA,zB,zC])
    go_simp
    refine hK.out _ _ ⟨u0,u1,u2,u3⟩ ?_
    clear hK K
    (try simp only [Act.put,zP])
    refine wpG_done (by kernel_rfl) ?_
    refine NoPanic.normal ?_
    by_cases hfe:fe=0
    ·subst hfe
     have HXX:=zh (HEX.out (nv k n s A m c) w5 (HV.out.later HB5.out) HB5.out HBE.out (by first|rfl|trivial) (by first|rfl|trivial) (by rw [HDE.out,HD2.out]; simp))
     clear HD2 HEX
     go_wp2_with fail
     refine HXX.out.mono ?_
     rintro e w6 ⟨rfl,hh⟩
     have HH:=zh hh
     clear hh
     go_wp2_with fail
     go_ret
     exact ⟨rfl,HH.out⟩
    ·have HN:=zh (show R=(fe,S) by rw [HD2.out,if_pos hfe])
     have e1:(fe==0)=false:=by simpa using hfe
     have e2:(fe != 0)=true:=by simpa using hfe
     clear HD2
     go_wp2_with fail
     go_ret
     exact ⟨by rw [HN.out]; rfl,P,by rw [HN.out]; exact SStp.refl HS.out HB5.out,rfl⟩
theorem Undo_any {W:World} {n0:Nat} {P:Ph} {S:ST} (h:SR W n0 P S) (t:T) (v:Value) (hv:NV W Any t v) :
  Calls Tryz.prog 19 #[.pointer (some ⟨P.sb,0,none⟩),v] W (DoP n0 P S W (undoE S t)):=by
 obtain ⟨k,n,s,ks⟩:=t
 obtain ⟨A,c,rfl,hf,hlk,hlc,hrow⟩:=hv.open_
 simp only [T.k_nd,T.n_nd,T.s_nd,T.ks_nd] at *
 obtain ⟨k',hk'⟩:∃ k',invK1 k=k':=⟨_,rfl⟩
 have hf':Fld k' n s:=by
  refine ⟨?_,hf.2⟩
  rw [<-hk']
  unfold invK1
  have:=hf.1
  split
  ·omega
  ·split
   ·omega
   ·split
    ·omega
    ·split
     ·omega
     ·split
      ·omega
      ·split
       ·omega
       ·split
        ·omega
        ·split
         ·omega
         ·exact this
 obtain ⟨R,hR⟩:∃ R,undoE S (.nd k n s ks)=R:=⟨_,rfl⟩
 rw [hR]
 have HDO:=zh (show ∀ W',Below W.heap.size W W'->Calls Tryz.prog 20 #[.pointer (some ⟨P.sb,0,none⟩),nv k' n s A ks.length c] W' (DoP n0 P S W R) from fun W' hb=>by
  have e:doE S (.nd k' n s ks)=R:=by rw [<-hR,<-hk']; rfl
  have:=Do_any (h.later hb) (.nd k' n s ks) (nv k' n s A ks.length c) (NV.shut hf' hlk hlc (hrow.later hb))
  rw [e] at this
  refine this.mono ?_
  rintro e W2 ⟨a1,P',a2,a3⟩
  exact ⟨a1,P',⟨a2.st.after hb h.rws,a2.wf⟩,a3⟩)
 have HIN:=zh (fun w=>hk'▸inverse_any k w)
 obtain ⟨m,hm⟩:∃ m,ks.length=m:=⟨_,rfl⟩
 rw [hm] at HDO ⊢
 clear h hv hR hf hf' hrow hlk hlc hm hk'
 go_enter Tryz.func19,Tryz.ntmps19
 go_wp2_with fail
 refine (HIN.out _).mono ?_
 rintro e w1 ⟨rfl,rfl⟩
 go_wp2_with fail
 refine (HDO.out _ (bl_al (Below.refl _ _) _)).mono ?_
 rintro e w6 ⟨rfl,hh⟩
 have HH:=zh hh
 clear hh
 go_wp2_with fail
 go_ret
 exact ⟨rfl,HH.out⟩
end Go.Proofs.YtckhofdinldhpaaGreat
