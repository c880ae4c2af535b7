/-
  Texts of the proof, put together without their remarks: Sp, Sn, Sv, Nw.
-/
import Derived.Test.YthjinpodhacleaaGreatR5
set_option linter.unusedSimpArgs false
set_option linter.unusedVariables false
set_option maxHeartbeats 8000000
set_option maxRecDepth 100000
namespace Go.Proofs.YthjinpodhacleaaGreat
open Tryz
section
open Go Go.RowKit
theorem zyN(a0 a1:Value)(w:World)(h0:∃A l c,a0=.slice A l c)(h1:∃A l c,a1=.slice A l c):(Instr.build 188 #[(0,a0),(1,a1)]).run prog w=.ok (.agg #[a0,a1]) w:=by
 obtain⟨A,l,c,rfl⟩:=h0;obtain⟨A',l',c',rfl⟩:=h1
 kernel_rfl
theorem zxh(xs ys:List Int)(A B:Option Addr)(c d:Nat)(w:World)(hx:RowI w Any A xs)(hy:RowI w Any B ys)(hl:xs.length<=4096)(hm:ys.length<=4096) :
  Calls prog 103 #[.slice A xs.length c,.slice B ys.length d] w fun e w'=>∃tb vI vO,e=.returned (.tuple #[.pointer (some ⟨tb,0,none⟩),.int .i64 0])/\w.heap.size<=tb/\w'.heap[tb]?=some (.cells #[vI,vO] 188 (0,0)) /\
   w'.ownsRow w.heap.size 3 1 vI xs.length (zki xs)/\w'.ownsRow w.heap.size 3 1 vO ys.length (zki ys)/\vI.ownBlock≠some tb/\vO.ownBlock≠some tb/\(∀b,vI.ownBlock=some b->vO.ownBlock≠some b)/\Below w.heap.size w w':=by
 have hxl:¬ (4096:Int)<(xs.length:Int):=by omega
 have hyl:¬ (4096:Int)<(ys.length:Int):=by omega
 have HX:=zh (fun w' (hb:Below w.heap.size w w')=>zkQ xs A c Any w' (hx.later hb) (by unfold LI;omega));have HY:=zh (fun w' (hb:Below w.heap.size w w')=>zkQ ys B d Any w' (hy.later hb) (by unfold LI;omega));obtain⟨n,hn⟩:=zX (xs.length);obtain⟨m,hm'⟩:=zX (ys.length);rw[hn,hm'];rw[hn]at hxl HX;rw[hm']at hyl HY;have HN:=zh hn;have HM:=zh hm';clear hx hy hn hm' hl hm;go_enter func103,ntmps103;go_wp2_with fail;refine(HX.out _ zr).mono ?_;rintro e w1 ⟨v1,rfl,ho1,hf1,aa⟩;rw[HN.out]at ho1;obtain⟨A1,c1,rfl,-⟩:=zkg ho1;have HO1:=zh ho1;have HB1:=zh aa;clear ho1 aa;go_wp2_with fail;refine(HY.out _ HB1.out).mono ?_;rintro e w2 ⟨v2,rfl,ho2,hf2,ah⟩;rw[HM.out]at ho2;obtain⟨A2,c2,rfl,-⟩:=zkg ho2;have Ci:=zh ho2;have HB2:=zh ah;have hbt:=fun w=>zyN (.slice A1 n c1) (.slice A2 m c2) w ⟨_,_,_,rfl⟩ ⟨_,_,_,rfl⟩;clear ho2 ah;go_wp2_with fail;go_ret2
 have h1:=zkJ HO1.out HB2.out;have hs1:=HB1.out.size;have hs2:=HB2.out.size;refine⟨w2.heap.size,.slice A1 n c1,.slice A2 m c2,rfl,by omega,heap_alloc_new w2 _,?_,?_,fun e=>?_,fun e=>?_,fun b e1 e2=>?_,zkb (zka HB1.out HB2.out) _⟩
 ·exact h1.alloc _
 ·obtain⟨x1,x2⟩:=Ci.out.alloc (.cells #[.slice A1 n c1,.slice A2 m c2] 188);refine⟨x1,?_⟩;rcases x2 with x2|⟨g,cap,cur,y1,y2,y3⟩
  ·exact .inl x2
  ·exact .inr ⟨g,cap,cur,y1,by omega,y3⟩
 ·have:=(h1.lt _ e).2;omega
 ·have:=(Ci.out.lt _ e).2;omega
 ·have:=(HO1.out.lt _ e1).2;have:=(Ci.out.lt _ e2).1;omega
theorem zy8{W:World}{n0:Nat}{P:Ph}{S:ST}(h:SR W n0 P S):Calls prog 109 #[.pointer (some ⟨P.tb,0,none⟩)] W (OwnI W S.tin):=by
 obtain⟨A,c,hv,hc,hr⟩:=zq5 (h.rws.row .tin) h.wf.tin.2;have hv':P.vI=.slice A S.tin.length c:=hv;have x0:W.cell? ⟨P.tb,0,none⟩=some (.slice A S.tin.length c):=by rw[<-hv'];exact zc h.tbox rfl
 have HC:=zh (zkQ S.tin A c Any W hr (by have:=h.wf.tin.1;unfold LI;omega));obtain⟨n,hn⟩:=zX (S.tin.length);rw[hn]at x0 HC;clear h hv hv' hr hn hc;go_enter func109,ntmps109;go_wp2_with fail;refine HC.out.mono ?_;rintro e w1 ⟨v1,rfl,h1⟩;have H1:=zh h1;obtain⟨A1,c1,rfl,-⟩:=zkg h1.1;clear h1;go_wp2_with fail;go_ret;exact⟨_,rfl,H1.out⟩
theorem zxg{W:World}{n0:Nat}{P:Ph}{S:ST}(h:SR W n0 P S):Calls prog 110 #[.pointer (some ⟨P.tb,0,none⟩)] W (OwnI W S.tout):=by
 obtain⟨A,c,hv,hc,hr⟩:=zq5 (h.rws.row .tout) h.wf.tout.2;have hv':P.vO=.slice A S.tout.length c:=hv;have x0:W.cell? ⟨P.tb,1,none⟩=some (.slice A S.tout.length c):=by rw[<-hv'];exact zc h.tbox rfl
 have HC:=zh (zkQ S.tout A c Any W hr (by have:=h.wf.tout.1;unfold LI;omega));obtain⟨n,hn⟩:=zX (S.tout.length);rw[hn]at x0 HC;clear h hv hv' hr hn hc;go_enter func110,ntmps110;go_wp2_with fail;refine HC.out.mono ?_;rintro e w1 ⟨v1,rfl,h1⟩;have H1:=zh h1;obtain⟨A1,c1,rfl,-⟩:=zkg h1.1;clear h1;go_wp2_with fail;go_ret;exact⟨_,rfl,H1.out⟩
def zKe(W:World)(S:ST)(s:ByteArray)(e:Ending)(W':World):Prop:=∃v l b,e=.returned (.tuple #[v,.bool b])/\S.look s=(if b=true then some l else none)/\(b=false->l=[])/\W'.ownsRow W.heap.size 3 1 v l.length (zki l)/\(∀x∈l,I64 x)/\Below W.heap.size W W'
theorem zve{W:World}{n0:Nat}{P:Ph}{S:ST}(h:SR W n0 P S)(s:ByteArray):Calls prog 167 #[.pointer (some ⟨P.sb,0,none⟩),.string s] W (zKe W S s):=by
 have zk:=zh (zo5 h s);have lZ:=zh ((zt4 n0 P S h.wf).fits s);clear h;go_enter func167,ntmps167;go_wp2_with fail;refine zk.out.mono ?_;rintro e w1 ⟨aa,hr⟩;have HB1:=zh aa;clear aa;rcases hr with⟨hno,A,c,rfl⟩|⟨l,A,c,hso,rfl,aX⟩
 ·have bW:=zh hno;have dR:=zh (zkQ [] A c Any w1 (fun i hi=>by simp at hi) (by simp[LI]));clear hno;simp only[List.length_nil]at dR;go_wp2_with fail;refine dR.out.mono ?_;rintro e w2 ⟨v2,rfl,ho2,hf2,ah⟩;obtain⟨A2,c2,rfl,-⟩:=zkg ho2;have HO:=zh ho2;have HB2:=zh ah;clear ho2 ah;go_wp2_with fail;go_ret2;refine⟨.slice A2 0 c2,[],false,rfl,bW.out,fun _=>rfl,?_,by simp,zka HB1.out HB2.out⟩;obtain⟨x1,x2⟩:=HO.out;refine⟨x1,?_⟩;rcases x2 with x2|⟨g,cap,cur,y1,y2,y3⟩
  ·exact .inl x2
  ·exact .inr ⟨g,cap,cur,y1,by have:=HB1.out.size;omega,y3⟩
 ·have hll:=lZ.out l hso;have nG:=zh hso;have dR:=zh (zkQ l A c Any w1 aX (by unfold LI;omega));clear hso aX;go_wp2_with fail;refine dR.out.mono ?_;rintro e w2 ⟨v2,rfl,ho2,hf2,ah⟩;obtain⟨A2,c2,rfl,-⟩:=zkg ho2;have HO:=zh ho2;have vB:=zh hf2;have HB2:=zh ah;clear ho2 ah hf2;go_wp2_with fail;go_ret2;refine⟨.slice A2 l.length c2,l,true,rfl,nG.out,(fun h=>by cases h),?_,vB.out,zka HB1.out HB2.out⟩;obtain⟨x1,x2⟩:=HO.out;refine⟨x1,?_⟩;rcases x2 with x2|⟨g,cap,cur,y1,y2,y3⟩
  ·exact .inl x2
  ·exact .inr ⟨g,cap,cur,y1,by have:=HB1.out.size;omega,y3⟩
structure SStp(n0:Nat)(P:Ph)(S:ST)(W:World)(P':Ph)(S':ST)(W':World):Prop where
 st:Stp n0 (rows P S) W (rows P' S') W'
 wf:S'.WF
theorem SStp.sr{n0:Nat}{P P':Ph}{S S':ST}{W W':World}(h:SStp n0 P S W P' S' W'):SR W' n0 P' S':=⟨h.st.rws,h.wf⟩
theorem SStp.trans{n0:Nat}{P P' P'':Ph}{S S' S'':ST}{W W' W'':World}(h:SStp n0 P S W P' S' W')(h':SStp n0 P' S' W' P'' S'' W''):SStp n0 P S W P'' S'' W'':=⟨h.st.trans h'.st,h'.wf⟩
theorem SStp.refl{n0:Nat}{P:Ph}{S:ST}{W W':World}(h:SR W n0 P S)(hb:Below W.heap.size W W'):SStp n0 P S W P S W':=⟨(Stp.refl h.rws).below hb,h.wf⟩
theorem zlY(w:World)(n0:Nat):w.ownsRow n0 nilR.E nilR.sz nilR.v nilR.n nilR.xs:=⟨rfl,.inl ⟨rfl,rfl⟩⟩
theorem Stp.drop{I:Type}[DecidableEq I]{n0:Nat}{d:I->RowD}{W:World}(h:Rws W n0 d)(i:I):Stp n0 d W (updR d i nilR) W :=
 Stp.upd h (Chg.refl _ _) (zlY W n0) (fun b hb=>by simp[nilR,Value.ownBlock]at hb)
theorem zln{P P':Ph}(h1:P'.fV=P.fV)(h2:P'.fC=P.fC):∀(fs:List FR) (i:Nat),zkS P' i fs=zkS P i fs
 | [],_=>rfl
 | f::fs,i=>by simp[zkS,h1,h2,zln h1 h2 fs]
theorem zpd(P:Ph):∀(fs:List FR) (i m:Nat),(zkS P i fs).take (m*3)=zkS P i (fs.take m)
 | [],i,m=>by simp[zkS]
 | f::fs,i,0=>by simp[zkS]
 | f::fs,i,m+1=>by
  rw[show(m+1)*3=m*3+1+1+1 by omega];simp only[zkS,List.take_succ_cons,zpd P fs (i+1) m]
def zml(S:ST):Int×ST:=if S.calls.length=0\/0<S.cur.loc then(20,S)else(0,{ S with calls:=S.calls.take (S.calls.length-1) })
theorem zxb{S:ST}(h:S.WF):({ S with calls:=S.calls.take (S.calls.length-1) }:ST).WF:=by
 obtain⟨kd,h1,h2,h3⟩:=h.ex;exact⟨⟨kd,h1,fun f hf=>h2 f (List.mem_of_mem_take hf),h3⟩,by have:=h.ncalls;simp;omega,h.cells,h.tin,h.tout⟩
theorem zsJ{W:World}{n0:Nat}{P:Ph}{S:ST}(h:SR W n0 P S)(m c:Nat)(hm:S.calls.length=m+1)(hv:P.vF=.slice (some ⟨P.gF,0,none⟩) (m+1) c) :
  SStp n0 P S W { P with vF:=.slice (some ⟨P.gF,0,none⟩) m c } { S with calls:=S.calls.take (S.calls.length-1) } (W.setCell ⟨P.sb,3,none⟩ (.slice (some ⟨P.gF,0,none⟩) m c)):=by
 refine⟨?_,zxb h.wf⟩;have hrow:W.ownsRow n0 164 3 P.vF S.calls.length (zkS P 0 S.calls):=h.rws.row .calls;have oZ:W.ownsRow n0 164 3 (.slice (some ⟨P.gF,0,none⟩) m c) m (zkS P 0 (S.calls.take m)):=by
  rw[hv,hm]at hrow;have e1:zkS P 0 S.calls=zkS P 0 (S.calls.take m)++(zkS P 0 S.calls).drop (m*3):=by rw[<-zpd,List.take_append_drop]
  rw[e1]at hrow;exact ownsRow_pop (by rw[zor];simp[hm]) hrow
 have st1:Stp n0 (rows P S) W (updR (rows P S) .calls ⟨.slice (some ⟨P.gF,0,none⟩) m c,164,3,m,zkS P 0 (S.calls.take m)⟩) W :=
  Stp.upd h.rws (Chg.refl _ _) oZ (fun b hb=>.inl (by show P.vF.ownBlock=some b;rw[hv];exact hb))
 have st2:=Stp.set (i:=Res.sb) st1.rws (g:=P.sb) (by rw[zkl (by simp)];rfl) (o:=3) (by rw[zkl (by simp)];simp[rows]) (.slice (some ⟨P.gF,0,none⟩) m c);have st3:=Stp.drop st2.rws (Res.fv m);have st4:=Stp.drop st3.rws (Res.fc m);refine(((st1.trans st2).trans st3).trans st4).cast ?_;have hm1:S.calls.length-1=m:=by omega
 funext r
 cases r with
 | fv i =>
  by_cases e:i=m
  ·subst e;have h2:(S.calls.take (S.calls.length-1))[i]?=none:=List.getElem?_eq_none (by rw[List.length_take];omega);simp[updR,rows,nilR,h2]
  ·simp only[updR,Res.fv.injEq,e,reduceCtorEq,if_false,rows,hm1];by_cases hi:i<m
   ·simp[hi]
   ·have h1:S.calls[i]?=none:=List.getElem?_eq_none (by omega);have h2:(S.calls.take m)[i]?=none:=List.getElem?_eq_none (by rw[List.length_take];omega);rw[h1,h2]
 | fc i =>
  by_cases e:i=m
  ·subst e;have h2:(S.calls.take (S.calls.length-1))[i]?=none:=List.getElem?_eq_none (by rw[List.length_take];omega);simp[updR,rows,nilR,h2]
  ·simp only[updR,Res.fc.injEq,e,reduceCtorEq,if_false,rows,hm1];by_cases hi:i<m
   ·simp[hi]
   ·have h1:S.calls[i]?=none:=List.getElem?_eq_none (by omega);have h2:(S.calls.take m)[i]?=none:=List.getElem?_eq_none (by rw[List.length_take];omega);rw[h1,h2]
 | calls =>
  simp only[updR,reduceCtorEq,if_false,if_true,rows,hm1];simp only[List.length_take,hm];rw[zln (P:=P) (P':={ P with vF:=.slice (some ⟨P.gF,0,none⟩) m c }) rfl rfl];simp
 | sb=>simp[updR,rows]
 | tb=>simp[updR,rows]
 | tin=>simp[updR,rows]
 | tout=>simp[updR,rows]
 | bv=>simp[updR,rows]
 | bc=>simp[updR,rows]
 | cb i=>simp[updR,rows]
 | ci i=>simp[updR,rows]
 | x i=>simp[updR,rows]
theorem zvh{W:World}{n0:Nat}{P:Ph}{S:ST}(h:SR W n0 P S):Calls prog 159 #[.pointer (some ⟨P.sb,0,none⟩)] W fun e W'=>e=.returned (.int .i64 (zml S).1)/\∃P',SStp n0 P S W P' (zml S).2 W'/\P'.sb=P.sb:=by
 obtain⟨A,c,oo,hc,h2⟩:=h.calls;have hx:W.cell? ⟨P.sb,3,none⟩=some (.slice A S.calls.length c):=by rw[<-oo];exact zc h.box rfl
 have hfz:W.frozen? ⟨P.sb,3,none⟩=false:=zf h.box;have sV:=h.wf.ncalls;have HS:=zh h;have dm:=zh (zlb h);obtain⟨h3,h4,h5⟩:=h.cur3;obtain⟨L,hL⟩:=zX (S.calls.length);obtain⟨lc,hlc⟩:=zX (S.cur.loc);obtain⟨cp,hcp⟩:=zX (curP P S);rw[hcp]at h5 dm;rw[hlc]at h5;obtain⟨R,hR⟩:=zX (zml S);rw[hR];have HR:=zh (show R=if L=0\/0<lc then(20,S)else(0,{ S with calls:=S.calls.take (S.calls.length-1) }) by rw[<-hR,zml,hL,hlc]);have nz:=zh oo;have HL:=zh hL;have H2:=zh h2;rw[hL]at hx sV;rw[hL]at hc;clear h oo h2 h3 h4 hL hlc hcp hR;rcases Nat.eq_zero_or_pos L with h0|h0
 ·subst h0;have HX:=zh (show R=(20,S) by rw[HR.out,if_pos (.inl rfl)]);clear HR;go_enter func159,ntmps159;go_wp2_with fail;go_ret;exact⟨by rw[HX.out];rfl,P,by rw[HX.out];exact SStp.refl HS.out zr,rfl⟩
 ·obtain⟨m,rfl⟩:∃m,L=m+1:=⟨L-1,by omega⟩
  obtain⟨rfl,-⟩:=H2.out (by rw[HL.out];exact h0);by_cases hl:0<lc
  ·have HX:=zh (show R=(20,S) by rw[HR.out,if_pos (.inr hl)]);have hl':(0:Int)<(lc:Int):=by omega
   clear HR;go_enter func159,ntmps159;go_wp2_with fail;refine dm.out.mono ?_;rintro e w1 ⟨rfl,rfl⟩;go_wp2_with fail;go_ret;exact⟨by rw[HX.out];rfl,P,by rw[HX.out];exact SStp.refl HS.out zr,rfl⟩
  ·obtain rfl:lc=0:=by omega
   have HX:=zh (show R=(0,{ S with calls:=S.calls.take (S.calls.length-1) }) by rw[HR.out,if_neg (by omega)]);have qY:=zh (zsJ (HS.out.later zr.drew) m c HL.out (by rw[nz.out,HL.out]));clear HR;go_enter func159,ntmps159;go_wp2_with fail;refine dm.out.mono ?_;rintro e w1 ⟨rfl,rfl⟩;go_upto_region 5 with fail;have hSS:zU w1.drew/\(fun w':World=>zv w' P.sb 3 (.slice (some ⟨P.gF,0,none⟩) (m+1) c)) w1.drew:=⟨trivial,hx⟩
   have hm1:(m:Int)<=(c:Int):=by omega
   have hm0:(0:Int)<=(m:Int):=by omega
   have hw1:IntKind.i64.wrap (m:Int)=(m:Int):=IntWalk.i64_in _ (by omega);refine wp_region_noPanic ?_;refine zkk zU (fun w':World=>zv w' P.sb 3 (.slice (some ⟨P.gF,0,none⟩) (m+1) c)) 14 (by kernel_rfl) ?_;refine zT 0 hSS ?_;refine zT 1 hSS ?_;refine zT 2 hSS ?_;refine zT 3 hSS ?_;refine zJ 4 hSS ?_;refine zT 5 hSS ?_;refine zT 6 hSS ?_;refine zT 7 hSS ?_;refine zJ 8 hSS ?_;refine zT 9 hSS ?_;refine zT 10 hSS ?_;refine zT 11 hSS ?_;refine zT 12 hSS ?_;refine zT 13 hSS ?_;refine zp 14 fun K hK=>?_;(try simp only[zA,zB,zC]);have hx1:w1.drew.cell? ⟨P.sb,3,none⟩=some (.slice (some ⟨P.gF,0,none⟩) (m+1) c):=hx;have hfz1:w1.drew.frozen? ⟨P.sb,3,none⟩=false:=hfz;go_simp;refine hK.out _ _ trivial ?_;clear hK K hSS hx1 hfz1;(try simp only[zQ]);refine zd ?_;refine NoPanic.normal ?_;clear hx hfz;go_wp2_with fail;go_ret
   refine⟨by rw[HX.out];rfl,{ P with vF:=.slice (some ⟨P.gF,0,none⟩) m c },?_,rfl⟩;rw[HX.out];exact⟨qY.out.st.after zr.drew HS.out.rws,qY.out.wf⟩
def ST.setCur(S:ST)(f:FR):ST:=if S.calls.length=0 then { S with base:=f } else { S with calls:=S.calls.set (S.calls.length-1) f }
def hI(S:ST):Res:=if S.calls.length=0 then .sb else .calls
def oI(S:ST):Nat:=if S.calls.length=0 then 0 else(S.calls.length-1)*3
def vI(S:ST):Res:=if S.calls.length=0 then .bv else .fv (S.calls.length-1)
def cI(S:ST):Res:=if S.calls.length=0 then .bc else .fc (S.calls.length-1)
def Ph.setCur(P:Ph)(S:ST)(vv vc:Value):Ph:=if S.calls.length=0 then { P with vV:=vv,vC:=vc } else { P with fV:=fun i=>if i=S.calls.length-1 then vv else P.fV i,fC:=fun i=>if i=S.calls.length-1 then vc else P.fC i }
theorem zqy{P P':Ph}{vv vc:Value}{f:FR}:∀(fs:List FR) (i j:Nat),j<fs.length->(∀q,q≠i+j->P'.fV q=P.fV q/\P'.fC q=P.fC q)->P'.fV (i+j)=vv->P'.fC (i+j)=vc ->
  zkS P' i (fs.set j f)=(((zkS P i fs).set (j*3) vv).set (j*3+1) vc).set (j*3+2) (.int .i64 f.loc)
 | g::fs,i,0,_,h,h1,h2=>by
  have hr:zkS P' (i+1) fs=zkS P (i+1) fs:=by
   have key:∀(l:List FR) (q:Nat),i<q->zkS P' q l=zkS P q l:=by
    intro l
    induction l with
    | nil=>intro q _;rfl
    | cons a l ih=>intro q hq;simp[zkS,(h q (by omega)).1,(h q (by omega)).2,ih (q+1) (by omega)]
   exact key fs (i+1) (by omega)
  simp only[Nat.add_zero]at h1 h2;simp[zkS,h1,h2,hr]
 | g::fs,i,j+1,hj,h,h1,h2=>by
  have ih:=zqy (P:=P) (P':=P') (vv:=vv) (vc:=vc) (f:=f) fs (i+1) j (by simpa using hj) (fun q hq=>h q (by omega)) (by rw[show i+1+j=i+(j+1) by omega];exact h1) (by rw[show i+1+j=i+(j+1) by omega];exact h2);rw[show(j+1)*3=j*3+1+1+1 by omega];simp only[List.set_cons_succ,zkS,(h i (by omega)).1,(h i (by omega)).2,ih]
theorem zmQ(P:Ph)(S:ST)(f:FR)(vv vc:Value):rows (P.setCur S vv vc) (S.setCur f) =
  updR (updR (updR (rows P S) (vI S) ⟨vv,38,3,f.vs.length,zkD f.vs⟩) (cI S) ⟨vc,169,1,f.cs.length,ptrs P.cb f.cs⟩) (hI S)
   { rows P S (hI S)with xs:=(((rows P S (hI S)).xs.set (oI S) vv).set (oI S+1) vc).set (oI S+2) (.int .i64 f.loc) }:=by
 by_cases h0:S.calls.length=0
 ·simp only[Ph.setCur,ST.setCur,hI,vI,cI,oI,h0,if_true];have hc:S.calls=[]:=List.length_eq_zero_iff.1 h0;funext r
  cases r<;>simp[updR,rows,hc,zkS]
 ·obtain⟨m,hm⟩:∃m,S.calls.length=m+1:=⟨S.calls.length-1,by omega⟩
  have hm1:S.calls.length-1=m:=by omega
  simp only[Ph.setCur,ST.setCur,hI,vI,cI,oI,h0,if_false,hm1];funext r
  cases r with
  | calls =>
   have hq:∀q,q≠0+m->({ P with fV:=fun i=>if i=m then vv else P.fV i,fC:=fun i=>if i=m then vc else P.fC i }:Ph).fV q=P.fV q/\({ P with fV:=fun i=>if i=m then vv else P.fV i,fC:=fun i=>if i=m then vc else P.fC i }:Ph).fC q=P.fC q:=fun q h=>by
    have h':q≠m:=by omega
    simp[h']
   have:=zqy (P:=P) (P':={ P with fV:=fun i=>if i=m then vv else P.fV i,fC:=fun i=>if i=m then vc else P.fC i }) (vv:=vv) (vc:=vc) (f:=f) S.calls 0 m (by omega) hq (by simp) (by simp);simp only[updR,if_true,rows,List.length_set,this]
  | fv i =>
   by_cases e:i=m
   ·subst e;simp[updR,rows,hm]
   ·have e':m≠i:=Ne.symm e;simp[updR,rows,e,e']
  | fc i =>
   by_cases e:i=m
   ·subst e;simp[updR,rows,hm]
   ·have e':m≠i:=Ne.symm e;simp[updR,rows,e,e']
  | sb=>simp[updR,rows]
  | tb=>simp[updR,rows]
  | tin=>simp[updR,rows]
  | tout=>simp[updR,rows]
  | bv=>simp[updR,rows]
  | bc=>simp[updR,rows]
  | cb i=>simp[updR,rows]
  | ci i=>simp[updR,rows]
  | x i=>simp[updR,rows]
def zud(f:FR):VD:=f.vs.getD (f.vs.length-1) ⟨⟨#[]⟩,0,0⟩
def zwp(f:FR):Nat:=f.cs.getD (f.vs.length-1) 0
def FR.pop(f:FR):FR:=⟨f.vs.take (f.vs.length-1),f.cs.take (f.vs.length-1),f.loc-1⟩
def zlf(S:ST)(name:ByteArray)(x:Int):Int×ST :=
 if S.cur.loc=0\/((zud S.cur).s.toList==name.toList)=false then(6,S)
 else if ((zud S.cur).k=1/\(S.cell (zwp S.cur)).getD 0 0≠x)\/((zud S.cur).k=3/\0<(S.cell (zwp S.cur)).length)then(16,S)
 else(0,S.setCur S.cur.pop)
theorem ST.WF.cur2{S:ST}(h:S.WF):∃kd:Nat->Int×Int,S.cur.WF kd S.nc/\∀i,i<S.nc->((kd i).1=1->(S.cell i).length=1)/\((kd i).1=2->((S.cell i).length:Int)=(kd i).2)/\((kd i).1=1\/(kd i).1=2\/(kd i).1=3):=by
 obtain⟨kd,h1,h2,h3⟩:=h.ex;refine⟨kd,?_,h3⟩;rcases Nat.eq_zero_or_pos S.calls.length with h0|h0
 ·rw[zne h0];exact h1
 ·rw[znd h0];exact h2 _ (List.getElem_mem _)
theorem zuc{S:ST}(h:S.WF){m:Nat}(hm:m<S.cur.vs.length)(hc:m<S.cur.cs.length)(hk:S.cur.vs[m].k=1):(S.cell S.cur.cs[m]).length=1:=by
 obtain⟨kd,h1,h2⟩:=h.cur2;refine(h2 _ (h1.num _ (List.getElem_mem hc))).1 ?_;rw[h1.kind m hm hc];exact hk
theorem zlq{W:World}{n0:Nat}{P:Ph}{S:ST}(h:SR W n0 P S):curP P S=⟨(curP P S).block,oI S,none⟩/\(rows P S (hI S)).v.ownBlock=some (curP P S).block/\oI S+2<(rows P S (hI S)).xs.length:=by
 by_cases h0:S.calls.length=0
 ·simp[curP,oI,hI,h0,rows,Value.ownBlock]
 ·obtain⟨A,c,hv,_,h2⟩:=h.calls;obtain⟨rfl,-⟩:=h2 (by omega);simp only[curP,oI,hI,h0,if_false,rows];refine⟨by first|rfl|trivial,by rw[hv];rfl,?_⟩;rw[zor];omega
theorem ztK(cb:Nat->Nat)(cs:List Nat)(m:Nat):ptrs cb (cs.take m)=(ptrs cb cs).take m:=by simp[ptrs]
theorem zpb:∀(vs:List VD) (m:Nat),zkD (vs.take m)=(zkD vs).take (m*3)
 | [],m=>by simp[zkD]
 | v::vs,0=>by simp[zkD]
 | v::vs,m+1=>by
  have:=zpb vs m;rw[show(m+1)*3=m*3+1+1+1 by omega];simp only[zkD,List.take_succ_cons,List.flatMap_cons,List.cons_append,List.nil_append]at *
  rw[this]
theorem zq3(P:Ph)(S:ST):rows P S (vI S)=⟨curV P S,38,3,S.cur.vs.length,zkD S.cur.vs⟩/\rows P S (cI S)=⟨curC P S,169,1,S.cur.cs.length,ptrs P.cb S.cur.cs⟩:=by
 by_cases h0:S.calls.length=0
 ·simp[vI,cI,curV,curC,h0,rows,zne h0]
 ·have hl:S.calls.length-1<S.calls.length:=by omega
  simp[vI,cI,curV,curC,h0,rows,znd (show 0<S.calls.length by omega),List.getElem?_eq_getElem hl]
theorem zyr(S:ST):hI S≠vI S/\hI S≠cI S/\vI S≠cI S:=by
 unfold hI vI cI
 split<;>simp
theorem zwT{W:World}{n0:Nat}{P:Ph}{S:ST}(h:SR W n0 P S)(f:FR)(hwf:(S.setCur f).WF)(W2:World)(vv vc:Value)
  (hst:Stp n0 (rows P S) W (updR (updR (rows P S) (vI S) ⟨vv,38,3,f.vs.length,zkD f.vs⟩) (cI S) ⟨vc,169,1,f.cs.length,ptrs P.cb f.cs⟩) W2) :
  SStp n0 P S W (P.setCur S vv vc) (S.setCur f) (((W2.setCell ⟨(curP P S).block,oI S,none⟩ vv).setCell ⟨(curP P S).block,oI S+1,none⟩ vc).setCell ⟨(curP P S).block,oI S+2,none⟩ (.int .i64 f.loc)):=by
 refine⟨?_,hwf⟩;obtain⟨_,hb,ho⟩:=zlq h;obtain⟨n1,n2,_⟩:=zyr S;have hd:updR (updR (rows P S) (vI S) ⟨vv,38,3,f.vs.length,zkD f.vs⟩) (cI S) ⟨vc,169,1,f.cs.length,ptrs P.cb f.cs⟩ (hI S)=rows P S (hI S):=by rw[zkl n2,zkl n1]
 have s1:=Stp.set (i:=hI S) hst.rws (g:=(curP P S).block) (by rw[hd];exact hb) (o:=oI S) (by rw[hd];omega) vv;rw[hd]at s1;have s2:=Stp.set (i:=hI S) s1.rws (g:=(curP P S).block) (by rw[zkw];exact hb) (o:=oI S+1) (by rw[zkw];simp;omega) vc;rw[zkw]at s2;have s3:=Stp.set (i:=hI S) s2.rws (g:=(curP P S).block) (by rw[zkw];exact hb) (o:=oI S+2) (by rw[zkw];simp;omega) (.int .i64 f.loc);rw[zkw]at s3;refine((((hst.trans s1).trans s2).trans s3)).cast ?_;rw[zmQ];funext r;by_cases e:r=hI S
 ·subst e;simp
 ·simp only[updR,e,if_false]
theorem zu9{S:ST}(h:S.WF)(f:FR)(hf:∀kd,S.cur.WF kd S.nc->f.WF kd S.nc):(S.setCur f).WF:=by
 obtain⟨kd,h1,h2,h3⟩:=h.ex;by_cases h0:S.calls.length=0
 ·have hc:S.calls=[]:=List.length_eq_zero_iff.1 h0;simp only[ST.setCur,h0,if_true];refine⟨⟨kd,hf kd (by rw[zne h0];exact h1),fun g hg=>?_,h3⟩,h.ncalls,h.cells,h.tin,h.tout⟩;rw[hc]at hg
  cases hg
 ·simp only[ST.setCur,h0,if_false];refine⟨⟨kd,h1,fun g hg=>?_,h3⟩,by simpa using h.ncalls,h.cells,h.tin,h.tout⟩;rcases List.mem_or_eq_of_mem_set hg with hg|rfl
  ·exact h2 g hg
  ·exact hf kd (by rw[znd (by omega)];exact h2 _ (List.getElem_mem _))
theorem zz8{f:FR}{kd:Nat->Int×Int}{nc:Nat}(h:f.WF kd nc):f.pop.WF kd nc:=by
 refine⟨?_,?_,?_,fun v hv=>h.fld v (List.mem_of_mem_take hv),fun c hc=>h.num c (List.mem_of_mem_take hc),fun i hi hi'=>?_⟩
 ·have:=h.len;simp[FR.pop,this]
 ·have:=h.loc;simp[FR.pop];omega
 ·have:=h.lim;simp[FR.pop];omega
 ·have h1:i<f.vs.length:=by simp[FR.pop]at hi;omega
  have h2:i<f.cs.length:=by rw[h.len];exact h1
  have:=h.kind i h1 h2;simpa[FR.pop]using this
theorem zv7{W:World}{n0:Nat}{P:Ph}{S:ST}(h:SR W n0 P S)(m:Nat)(hm:S.cur.vs.length=m+1)(ga c g c2:Nat)(hv:curV P S=.slice (some ⟨ga,0,none⟩) (m+1) c)(hc:curC P S=.slice (some ⟨g,0,none⟩) (m+1) c2) :
  Stp n0 (rows P S) W (updR (updR (rows P S) (vI S) ⟨.slice (some ⟨ga,0,none⟩) m c,38,3,S.cur.pop.vs.length,zkD S.cur.pop.vs⟩) (cI S) ⟨.slice (some ⟨g,0,none⟩) m c2,169,1,S.cur.pop.cs.length,ptrs P.cb S.cur.pop.cs⟩) W:=by
 obtain⟨kd,hw⟩:=h.curWF;have hcl:S.cur.cs.length=m+1:=by rw[hw.len];exact hm
 obtain⟨r1,r2⟩:=zq3 P S;obtain⟨n1,n2,n3⟩:=zyr S;have e1:S.cur.pop.vs.length=m:=by simp[FR.pop,hm]
 have e2:S.cur.pop.cs.length=m:=by simp[FR.pop,hm,hcl]
 have o1:W.ownsRow n0 38 3 (.slice (some ⟨ga,0,none⟩) m c) m (zkD S.cur.pop.vs):=by
  have:=h.rws.row (vI S);rw[r1,hv,hm]at this;have e:zkD S.cur.vs=zkD S.cur.pop.vs++(zkD S.cur.vs).drop (m*3):=by
   simp only[FR.pop,hm,Nat.add_sub_cancel];rw[zpb,List.take_append_drop]
  dsimp only at this;rw[e]at this;exact ownsRow_pop (by rw[zoq,e1]) this
 have o2:W.ownsRow n0 169 1 (.slice (some ⟨g,0,none⟩) m c2) m (ptrs P.cb S.cur.pop.cs):=by
  have:=h.rws.row (cI S);rw[r2,hc,hcl]at this;have e:ptrs P.cb S.cur.cs=ptrs P.cb S.cur.pop.cs++(ptrs P.cb S.cur.cs).drop m:=by
   simp only[FR.pop,hm,Nat.add_sub_cancel];rw[ztK,List.take_append_drop]
  dsimp only at this;rw[e]at this;exact ownsRow_pop (by simp[ptrs,e2]) this
 rw[e1,e2];have s1:=Stp.upd (i:=vI S) (r:=⟨.slice (some ⟨ga,0,none⟩) m c,38,3,m,zkD S.cur.pop.vs⟩) h.rws (Chg.refl _ _) o1 (fun b hb=>.inl (by rw[r1];show(curV P S).ownBlock=some b;rw[hv];exact hb));refine s1.trans (Stp.upd (i:=cI S) s1.rws (Chg.refl _ _) o2 (fun b hb=>.inl ?_));rw[zkl (Ne.symm n3),r2]
 show(curC P S).ownBlock=some b
 rw[hc];exact hb
theorem zoB{W:World}{n0:Nat}{P:Ph}{S:ST}(h:SR W n0 P S)(m c g c2 lc B O:Nat)(a:Addr)(hm:S.cur.vs.length=m+1)(hv:curV P S=.slice (some a) (m+1) c)(hc:curC P S=.slice (some ⟨g,0,none⟩) (m+1) c2)(hB:(curP P S).block=B)(hO:oI S=O)(hlc:S.cur.loc=lc)(h0:lc≠0) :
  ∃P',SStp n0 P S W P' (S.setCur S.cur.pop) (((W.setCell ⟨B,O,none⟩ (.slice (some a) m c)).setCell ⟨B,O+1,none⟩ (.slice (some ⟨g,0,none⟩) m c2)).setCell ⟨B,O+2,none⟩ (.int .i64 ((lc:Int)-1))).drew/\P'.sb=P.sb:=by
 have hr:=h.rws.row (vI S);rw[(zq3 P S).1]at hr;obtain⟨ga,ca,hga,_⟩:=zk7 hr (by dsimp only;omega);dsimp only at hga;have ha:a=⟨ga,0,none⟩:=by
  have:=hv.symm.trans hga;injection this with e1;injection e1
 subst ha;have key:=zwT h S.cur.pop (zu9 h.wf _ fun kd hk=>zz8 hk) W _ _ (zv7 h m hm ga c g c2 hv hc);have el:((S.cur.pop.loc:Nat):Int)=(lc:Int)-1:=by simp only[FR.pop,hlc];omega
 rw[hB,hO,el]at key;exact⟨_,⟨key.st.below zr.drew,key.wf⟩,by unfold Ph.setCur;split<;>rfl⟩
theorem zvC{W:World}{n0:Nat}{P:Ph}{S:ST}(h:SR W n0 P S)(name:ByteArray)(x:Int):Calls prog 138 #[.pointer (some ⟨P.sb,0,none⟩),.string name,.int .i64 x] W fun e W'=>e=.returned (.int .i64 (zlf S name x).1)/\∃P',SStp n0 P S W P' (zlf S name x).2 W'/\P'.sb=P.sb:=by
 have HS:=zh h;have dm:=zh (zlb h);obtain⟨kd,hw⟩:=h.curWF;obtain⟨A,c,hcv,hc,hrow⟩:=h.curVs;obtain⟨h3,h4,h5⟩:=h.cur3;obtain⟨A2,c2,hcc,hc2,_⟩:=zkg h.curCs;rw[hcv]at h3;rw[hcc,hw.len]at h4;obtain⟨hh1,vQ,hh3⟩:=zlq h;obtain⟨B,hB⟩:=zX ((curP P S).block);obtain⟨O,hO⟩:=zX (oI S);have hcp:curP P S=⟨B,O,none⟩:=by rw[hh1,hB,hO]
 have bE:=zh hB;have eF:=zh hO;rw[hcp]at h3 h4 h5 dm;dsimp only at h3 h4 h5;obtain⟨R,hR⟩:=zX (zlf S name x);rw[hR];obtain⟨lc,hlc⟩:=zX (S.cur.loc);obtain⟨L,hL⟩:=zX (S.cur.vs.length);have hlim:=hw.lim;have hloc:=hw.loc;rw[hlc]at h5 hloc;rw[hL]at h3 h4 hlim hloc;have ae:=zh hrow;have eH:=zh hw;have jc:=zh hlc;have HL:=zh hL;have HRR:=zh hR;have aJ:=zh hcc;have kC:=zh hcv;have bH:=zh hc2;have hfz:∀i,W.frozen? ⟨B,i,none⟩=false:=fun i=>h.rws.frozen (hI S) (by rw[<-hB];exact vQ) i;clear h hw hcv hrow hcp hR hlc hL hcc hc2 hh1 vQ hh3 hB hO;by_cases hl0:lc=0
 ·subst hl0;have HX:=zh (show R=(6,S) by rw[<-HRR.out,zlf,if_pos (.inl jc.out)]);go_enter func138,ntmps138;go_wp2_with fail;refine dm.out.mono ?_;rintro e w1 ⟨rfl,rfl⟩;go_wp2_with fail;go_ret;exact⟨by rw[HX.out];rfl,P,by rw[HX.out];exact SStp.refl HS.out zr,rfl⟩
 ·obtain⟨m,rfl⟩:∃m,L=m+1:=⟨L-1,by omega⟩
  have sF:m<S.cur.vs.length:=by rw[HL.out];omega
  obtain⟨a,rfl,-,⟨y0,y1,y2⟩,-⟩:=ae.out m sF;obtain⟨v,hv⟩:=zX (S.cur.vs[m]);rw[hv]at y0 y1 y2;have hlv:zud S.cur=v:=by rw[<-hv,zud,HL.out];simp[sF]
  have uP:=zh hlv;obtain⟨b,hb⟩:=zX ((v.s.toList==name.toList));have e1:((lc:Int)==0)=false:=by simp;omega
  have HB:=zh hb;have hml2:(m:Int)<((m+1:Nat):Int):=by omega
  clear hlv hb
  cases b
  ·have HX:=zh (show R=(6,S) by rw[<-HRR.out,zlf,if_pos (.inr (by rw[uP.out];exact HB.out))]);have hbn:=HB.out;clear hv;go_enter func138,ntmps138;go_wp2_with fail;refine dm.out.mono ?_;rintro e w1 ⟨rfl,rfl⟩;go_wp2_with fail;go_ret;exact⟨by rw[HX.out];rfl,P,by rw[HX.out];exact SStp.refl HS.out zr,rfl⟩
  ·have hbn:=HB.out;have hmc:m<S.cur.cs.length:=by rw[eH.out.len];exact sF
   obtain⟨id,hid⟩:=zX (S.cur.cs[m]);have aI:id<S.nc:=by rw[<-hid];exact eH.out.num _ (List.getElem_mem hmc)
   have hlcc:zwp S.cur=id:=by rw[<-hid,zwp,HL.out];simp[hmc]
   obtain⟨g,c2',hcc',_,_,hcell⟩:=zk7 HS.out.curCs (by omega);obtain⟨rfl,rfl⟩:A2=some ⟨g,0,none⟩/\c2=c2':=by
    have:=aJ.out.symm.trans hcc';injection this with e1 _ e3;exact⟨e1,e3⟩
   have z0:W.cell? ⟨g,m,none⟩=some (.pointer (some ⟨P.cb id,0,none⟩)):=by rw[hcell m (by omega)];simp[ptrs,hmc,hid]
   obtain⟨A3,c3,hci,hc3,aX⟩:=HS.out.items aI;have z1:W.cell? ⟨P.cb id,0,none⟩=some (.slice A3 (S.cell id).length c3):=by rw[<-hci];exact zc (HS.out.cbox aI) rfl
   obtain⟨l,hl⟩:=zX (S.cell id);have hll:=(HS.out.wf.cells id aI).1;have hk1:v.k=1->l.length=1:=fun hk=>by
    have:=zuc HS.out.wf sF hmc (by rw[hv];exact hk);rw[hid,hl]at this;exact this
   rw[hl]at z1 aX hll;have dR:=zh hl;have HR2:=zh (show R=if (v.k=1/\l.getD 0 0≠x)\/(v.k=3/\0<l.length)then(16,S)else(0,S.setCur S.cur.pop) by
    rw[<-HRR.out,zlf,if_neg (by rw[uP.out,HB.out,jc.out];simp;omega),uP.out,hlcc,hl])
   have bZ:=zh aX;clear hcell hcc' hci aX hl hlcc hid HRR hv;by_cases k1:v.k=1
   ·have hl1:=hk1 k1;obtain⟨a3,rfl,hx0⟩:=bZ.out.nd (i:=0) (by omega);simp only[Addr.add_zero']at hx0;obtain⟨x0,hx0'⟩:=zX (l.getD 0 0);rw[hx0']at hx0 HR2;rw[k1]at y1 HR2;rw[hl1]at z1;by_cases oO:x0=x
    ·subst oO;have HX:=zh (show R=(0,S.setCur S.cur.pop) by rw[HR2.out,if_neg (by simp)]);have aW:=zh (zoB HS.out m c g c2 lc B O a HL.out (by rw[kC.out,HL.out]) (by rw[aJ.out,eH.out.len,HL.out]) bE.out eF.out jc.out hl0);clear HR2 hx0' hk1 k1 hl1;go_enter func138,ntmps138;go_wp2_with fail;refine dm.out.mono ?_;rintro e w1 ⟨rfl,rfl⟩;go_upto_region 10 with fail;have hSS:zU w1.drew/\(fun w':World=>zv w' B O (.slice (some a) (m+1) c)/\zv w' B (O+1) (.slice (some ⟨g,0,none⟩) (m+1) c2)) w1.drew:=⟨trivial,h3,h4⟩
     have hm1:(m:Int)<=(c:Int):=by omega
     have hm2:(m:Int)<=(c2:Int):=by omega
     have hm0:(0:Int)<=(m:Int):=by omega
     refine wp_region_noPanic ?_;refine zkk zU (fun w':World=>zv w' B O (.slice (some a) (m+1) c)/\zv w' B (O+1) (.slice (some ⟨g,0,none⟩) (m+1) c2)) 16 (by kernel_rfl) ?_;refine zT 0 hSS ?_;refine zT 1 hSS ?_;refine zT 2 hSS ?_;refine zT 3 hSS ?_;refine zT 4 hSS ?_;refine zJ 5 hSS ?_;refine zT 6 hSS ?_;refine zT 7 hSS ?_;refine zT 8 hSS ?_;refine zT 9 hSS ?_;refine zT 10 hSS ?_;refine zJ 11 hSS ?_;refine zT 12 hSS ?_;refine zT 13 hSS ?_;refine zT 14 hSS ?_;refine zT 15 hSS ?_;refine zp 16 fun K hK=>?_;(try simp only[zA,zB,zC]);have g3:w1.drew.cell? ⟨B,O,none⟩=some (.slice (some a) (m+1) c):=h3;have gf:w1.drew.frozen? ⟨B,O,none⟩=false:=hfz O;go_simp;refine hK.out _ _ trivial ?_;clear hK K hSS;(try simp only[zQ])
     have j4:(w1.setCell ⟨B,O,none⟩ (.slice (some a) m c)).drew.cell? ⟨B,O+1,none⟩=some (.slice (some ⟨g,0,none⟩) (m+1) c2):=(World.cell?_setCell_other w1 ⟨B,O,none⟩ ⟨B,O+1,none⟩ _ (by simp)).trans h4;have j5:((w1.setCell ⟨B,O,none⟩ (.slice (some a) m c)).setCell ⟨B,O+1,none⟩ (.slice (some ⟨g,0,none⟩) m c2)).cell? ⟨B,O+2,none⟩=some (.int .i64 lc):=(World.cell?_setCell_other _ ⟨B,O+1,none⟩ ⟨B,O+2,none⟩ _ (by simp)).trans ((World.cell?_setCell_other w1 ⟨B,O,none⟩ ⟨B,O+2,none⟩ _ (by simp)).trans h5);refine zp 17 fun K hK=>?_;(try simp only[zA,zB,zC]);go_simp;refine hK.out _ _ trivial ?_;clear hK K;(try simp only[zQ]);refine zp 18 fun K hK=>?_;(try simp only[zA,zB,zC]);go_simp;refine hK.out _ _ trivial ?_;clear hK K;(try simp only[zQ]);refine zp 19 fun K hK=>?_;(try simp only[zA,zB,zC]);go_simp;refine hK.out _ _ trivial ?_;clear hK K;(try simp only[zQ]);refine zd ?_;refine NoPanic.normal ?_
     clear g3 gf h3 h4 h5;go_wp2_with fail;go_ret;refine⟨by rw[HX.out];rfl,?_⟩;rw[HX.out];exact aW.out
    ·have HX:=zh (show R=(16,S) by rw[HR2.out,if_pos (.inl ⟨rfl,oO⟩)]);have e5:(x0==x)=false:=by simpa using oO
     have e6:(x0 != x)=true:=by simpa using oO
     clear HR2 oO hx0' hk1 k1 hl1;go_enter func138,ntmps138;go_wp2_with fail;refine dm.out.mono ?_;rintro e w1 ⟨rfl,rfl⟩;go_wp2_with fail;go_ret;exact⟨by rw[HX.out];rfl,P,by rw[HX.out];exact SStp.refl HS.out zr,rfl⟩
   ·have x1:(v.k==1)=false:=by simpa using k1
    have sK:=k1;by_cases k3:v.k=3
    ·rw[k3]at y1 HR2 x1;have hk3:True:=trivial;by_cases hl0':l.length=0
     ·have HX:=zh (show R=(0,S.setCur S.cur.pop) by rw[HR2.out,if_neg (by simp[hl0'])]);rw[hl0']at z1;have aW:=zh (zoB HS.out m c g c2 lc B O a HL.out (by rw[kC.out,HL.out]) (by rw[aJ.out,eH.out.len,HL.out]) bE.out eF.out jc.out hl0);clear HR2 hk1 k1 sK k3 hl0' x1;go_enter func138,ntmps138;go_wp2_with fail;refine dm.out.mono ?_;rintro e w1 ⟨rfl,rfl⟩;go_upto_region 10 with fail;have hSS:zU w1.drew/\(fun w':World=>zv w' B O (.slice (some a) (m+1) c)/\zv w' B (O+1) (.slice (some ⟨g,0,none⟩) (m+1) c2)) w1.drew:=⟨trivial,h3,h4⟩
      have hm1:(m:Int)<=(c:Int):=by omega
      have hm2:(m:Int)<=(c2:Int):=by omega
      have hm0:(0:Int)<=(m:Int):=by omega
      refine wp_region_noPanic ?_;refine zkk zU (fun w':World=>zv w' B O (.slice (some a) (m+1) c)/\zv w' B (O+1) (.slice (some ⟨g,0,none⟩) (m+1) c2)) 16 (by kernel_rfl) ?_;refine zT 0 hSS ?_;refine zT 1 hSS ?_;refine zT 2 hSS ?_;refine zT 3 hSS ?_;refine zT 4 hSS ?_;refine zJ 5 hSS ?_;refine zT 6 hSS ?_;refine zT 7 hSS ?_;refine zT 8 hSS ?_;refine zT 9 hSS ?_;refine zT 10 hSS ?_;refine zJ 11 hSS ?_;refine zT 12 hSS ?_;refine zT 13 hSS ?_;refine zT 14 hSS ?_;refine zT 15 hSS ?_;refine zp 16 fun K hK=>?_;(try simp only[zA,zB,zC]);have g3:w1.drew.cell? ⟨B,O,none⟩=some (.slice (some a) (m+1) c):=h3;have gf:w1.drew.frozen? ⟨B,O,none⟩=false:=hfz O;go_simp;refine hK.out _ _ trivial ?_;clear hK K hSS;(try simp only[zQ])
      have j4:(w1.setCell ⟨B,O,none⟩ (.slice (some a) m c)).drew.cell? ⟨B,O+1,none⟩=some (.slice (some ⟨g,0,none⟩) (m+1) c2):=(World.cell?_setCell_other w1 ⟨B,O,none⟩ ⟨B,O+1,none⟩ _ (by simp)).trans h4;have j5:((w1.setCell ⟨B,O,none⟩ (.slice (some a) m c)).setCell ⟨B,O+1,none⟩ (.slice (some ⟨g,0,none⟩) m c2)).cell? ⟨B,O+2,none⟩=some (.int .i64 lc):=(World.cell?_setCell_other _ ⟨B,O+1,none⟩ ⟨B,O+2,none⟩ _ (by simp)).trans ((World.cell?_setCell_other w1 ⟨B,O,none⟩ ⟨B,O+2,none⟩ _ (by simp)).trans h5);refine zp 17 fun K hK=>?_;(try simp only[zA,zB,zC]);go_simp;refine hK.out _ _ trivial ?_;clear hK K;(try simp only[zQ]);refine zp 18 fun K hK=>?_;(try simp only[zA,zB,zC]);go_simp;refine hK.out _ _ trivial ?_;clear hK K;(try simp only[zQ]);refine zp 19 fun K hK=>?_;(try simp only[zA,zB,zC]);go_simp;refine hK.out _ _ trivial ?_;clear hK K;(try simp only[zQ]);refine zd ?_;refine NoPanic.normal ?_
      clear g3 gf h3 h4 h5;go_wp2_with fail;go_ret;refine⟨by rw[HX.out];rfl,?_⟩;rw[HX.out];exact aW.out
     ·have HX:=zh (show R=(16,S) by rw[HR2.out,if_pos (.inr ⟨rfl,by omega⟩)]);have e5:(0:Int)<(l.length:Int):=by omega
      clear HR2 hk1 k1 sK k3 hl0' x1;go_enter func138,ntmps138;go_wp2_with fail;refine dm.out.mono ?_;rintro e w1 ⟨rfl,rfl⟩;go_wp2_with fail;go_ret;exact⟨by rw[HX.out];rfl,P,by rw[HX.out];exact SStp.refl HS.out zr,rfl⟩
    ·have x3:(v.k==3)=false:=by simpa using k3
     have HX:=zh (show R=(0,S.setCur S.cur.pop) by rw[HR2.out,if_neg (by simp[k1,k3])]);have aW:=zh (zoB HS.out m c g c2 lc B O a HL.out (by rw[kC.out,HL.out]) (by rw[aJ.out,eH.out.len,HL.out]) bE.out eF.out jc.out hl0);clear HR2 hk1 k1 sK k3;go_enter func138,ntmps138;go_wp2_with fail;refine dm.out.mono ?_;rintro e w1 ⟨rfl,rfl⟩;go_upto_region 10 with fail;have hSS:zU w1.drew/\(fun w':World=>zv w' B O (.slice (some a) (m+1) c)/\zv w' B (O+1) (.slice (some ⟨g,0,none⟩) (m+1) c2)) w1.drew:=⟨trivial,h3,h4⟩
     have hm1:(m:Int)<=(c:Int):=by omega
     have hm2:(m:Int)<=(c2:Int):=by omega
     have hm0:(0:Int)<=(m:Int):=by omega
     refine wp_region_noPanic ?_;refine zkk zU (fun w':World=>zv w' B O (.slice (some a) (m+1) c)/\zv w' B (O+1) (.slice (some ⟨g,0,none⟩) (m+1) c2)) 16 (by kernel_rfl) ?_;refine zT 0 hSS ?_;refine zT 1 hSS ?_;refine zT 2 hSS ?_;refine zT 3 hSS ?_;refine zT 4 hSS ?_;refine zJ 5 hSS ?_;refine zT 6 hSS ?_;refine zT 7 hSS ?_;refine zT 8 hSS ?_;refine zT 9 hSS ?_;refine zT 10 hSS ?_;refine zJ 11 hSS ?_;refine zT 12 hSS ?_;refine zT 13 hSS ?_;refine zT 14 hSS ?_;refine zT 15 hSS ?_;refine zp 16 fun K hK=>?_;(try simp only[zA,zB,zC]);have g3:w1.drew.cell? ⟨B,O,none⟩=some (.slice (some a) (m+1) c):=h3;have gf:w1.drew.frozen? ⟨B,O,none⟩=false:=hfz O;go_simp;refine hK.out _ _ trivial ?_;clear hK K hSS;(try simp only[zQ])
     have j4:(w1.setCell ⟨B,O,none⟩ (.slice (some a) m c)).drew.cell? ⟨B,O+1,none⟩=some (.slice (some ⟨g,0,none⟩) (m+1) c2):=(World.cell?_setCell_other w1 ⟨B,O,none⟩ ⟨B,O+1,none⟩ _ (by simp)).trans h4;have j5:((w1.setCell ⟨B,O,none⟩ (.slice (some a) m c)).setCell ⟨B,O+1,none⟩ (.slice (some ⟨g,0,none⟩) m c2)).cell? ⟨B,O+2,none⟩=some (.int .i64 lc):=(World.cell?_setCell_other _ ⟨B,O+1,none⟩ ⟨B,O+2,none⟩ _ (by simp)).trans ((World.cell?_setCell_other w1 ⟨B,O,none⟩ ⟨B,O+2,none⟩ _ (by simp)).trans h5);refine zp 17 fun K hK=>?_;(try simp only[zA,zB,zC]);go_simp;refine hK.out _ _ trivial ?_;clear hK K;(try simp only[zQ]);refine zp 18 fun K hK=>?_;(try simp only[zA,zB,zC]);go_simp;refine hK.out _ _ trivial ?_;clear hK K;(try simp only[zQ]);refine zp 19 fun K hK=>?_;(try simp only[zA,zB,zC]);go_simp;refine hK.out _ _ trivial ?_;clear hK K;(try simp only[zQ]);refine zd ?_;refine NoPanic.normal ?_
     clear g3 gf h3 h4 h5;go_wp2_with fail;go_ret;refine⟨by rw[HX.out];rfl,?_⟩;rw[HX.out];exact aW.out
def ST.newCell(S:ST)(l:List Int):ST:={ S with cell:=fun i=>if i=S.nc then l else S.cell i,nc:=S.nc+1 }
def Ph.newCell(P:Ph)(S:ST)(b:Nat)(v:Value):Ph:={ P with cb:=fun i=>if i=S.nc then b else P.cb i,ci:=fun i=>if i=S.nc then v else P.ci i }
theorem zrX{cb:Nat->Nat}{nc b:Nat}{cs:List Nat}(h:∀c∈cs,c<nc):ptrs (fun i=>if i=nc then b else cb i) cs=ptrs cb cs:=by
 unfold ptrs;refine List.map_congr_left fun c hc=>?_;have:=h c hc;have e:c≠nc:=by omega
 simp[e]
theorem zmr{S:ST}(hw:S.WF)(P:Ph)(b:Nat)(v:Value)(l:List Int):rows (P.newCell S b v) (S.newCell l) =
  updR (updR (rows P S) (.cb S.nc) ⟨boxV b,171,1,1,[v]⟩) (.ci S.nc) ⟨v,3,1,l.length,zki l⟩:=by
 obtain⟨kd,h1,h2,_⟩:=hw.ex;funext r
 cases r with
 | cb i =>
  by_cases e:i=S.nc
  ·subst e;simp[updR,rows,Ph.newCell,ST.newCell]
  ·have:(i<S.nc+1)=(i<S.nc):=by simp;omega
   simp[updR,rows,Ph.newCell,ST.newCell,e,this]
 | ci i =>
  by_cases e:i=S.nc
  ·subst e;simp[updR,rows,Ph.newCell,ST.newCell]
  ·have:(i<S.nc+1)=(i<S.nc):=by simp;omega
   simp[updR,rows,Ph.newCell,ST.newCell,e,this]
 | bc=>simp[updR,rows,Ph.newCell,ST.newCell,zrX h1.num]
 | fc i =>
  simp only[updR,reduceCtorEq,if_false,rows,ST.newCell,Ph.newCell]
  cases hi:S.calls[i]? with
  | none=>rfl
  | some f=>simp only[zrX (h2 f (List.mem_of_getElem? hi)).num]
 | calls =>
  simp only[updR,reduceCtorEq,if_false,rows,ST.newCell];rw[zln (P:=P) (P':=P.newCell S b v) rfl rfl];rfl
 | fv i=>simp[updR,rows,Ph.newCell,ST.newCell]
 | sb=>simp[updR,rows,Ph.newCell,ST.newCell]
 | tb=>simp[updR,rows,Ph.newCell,ST.newCell]
 | tin=>simp[updR,rows,Ph.newCell,ST.newCell]
 | tout=>simp[updR,rows,Ph.newCell,ST.newCell]
 | bv=>simp[updR,rows,Ph.newCell,ST.newCell]
 | x i=>simp[updR,rows]
theorem FR.WF.new{f:FR}{kd:Nat->Int×Int}{nc:Nat}(h:f.WF kd nc)(k:Int×Int):f.WF (fun i=>if i=nc then k else kd i) (nc+1):=by
 refine⟨h.len,h.loc,h.lim,h.fld,fun c hc=>by have:=h.num c hc;omega,fun i hi hi'=>?_⟩;have:=h.num _ (List.getElem_mem hi');rw[if_neg (by omega)];exact h.kind i hi hi'
theorem zmT(S:ST)(l:List Int):(S.newCell l).cur=S.cur:=rfl
theorem znC{S:ST}(h:S.WF)(l:List Int)(k:Int×Int)(hl:l.length<=1000)(hf:∀x∈l,I64 x)(hk:(k.1=1->l.length=1)/\(k.1=2->(l.length:Int)=k.2)/\(k.1=1\/k.1=2\/k.1=3)):(S.newCell l).WF:=by
 obtain⟨kd,h1,h2,h3⟩:=h.ex;refine⟨⟨fun i=>if i=S.nc then k else kd i,h1.new k,fun f hf=>(h2 f hf).new k,fun i hi=>?_⟩,h.ncalls,fun i hi=>?_,h.tin,h.tout⟩
 ·simp only[ST.newCell]at hi ⊢;by_cases e:i=S.nc
  ·subst e;simpa using hk
  ·simp only[e,if_false];exact h3 i (by omega)
 ·simp only[ST.newCell]at hi ⊢;by_cases e:i=S.nc
  ·subst e;simpa using⟨hl,hf⟩
  ·simp only[e,if_false];exact h.cells i (by omega)
theorem ztD(P:Ph)(S:ST):rows P S (.cb S.nc)=nilR/\rows P S (.ci S.nc)=nilR:=by simp[rows]
theorem znw{k:Nat}(w:World)(n0:Nat)(E:TypeId)(xs:List Value)(hn:n0<=w.heap.size)(hx:xs.length=k):(w.alloc (.cells xs.toArray E)).ownsRow n0 E k (.slice (some ⟨w.heap.size,0,none⟩) 1 1) 1 xs :=
 ⟨by omega,.inr ⟨w.heap.size,1,xs.toArray,rfl,hn,heap_alloc_new w _,zl,by decide,by simp[hx],by rw[Nat.one_mul,<-hx];simp⟩⟩
theorem zre{W w2:World}{n0:Nat}{P:Ph}{S:ST}(h:SR W n0 P S)(hb:Below W.heap.size W w2)(x:Int)(hx:I64 x) :
  SStp n0 P S W (P.newCell S w2.heap.size (.slice (some ⟨w2.heap.size+1,0,none⟩) 1 1)) (S.newCell [x]) ((w2.alloc (.cells #[.slice (some ⟨w2.heap.size+1,0,none⟩) 1 1] 171)).alloc (.cells #[.int .i64 x] 3)):=by
 have hn:n0<=w2.heap.size:=by
  have h1:=(h.rws.lt .sb P.sb rfl)
  have h2:=hb.size;omega
 obtain⟨r1,r2⟩:=ztD P S;have s0:=(Stp.refl h.rws).below hb;have s1:=Stp.upd (i:=Res.cb S.nc) (r:=⟨boxV w2.heap.size,171,1,1,[.slice (some ⟨w2.heap.size+1,0,none⟩) 1 1]⟩) s0.rws (Chg.of_below (zkb zr (.cells #[.slice (some ⟨w2.heap.size+1,0,none⟩) 1 1] 171))) (znw w2 n0 _ [_] hn rfl) (fun b hb=>.inr (by simp[Value.ownBlock]at hb;omega));have o2:=znw (k:=1) (w2.alloc (.cells #[.slice (some ⟨w2.heap.size+1,0,none⟩) 1 1] 171)) n0 3 [.int .i64 x] (by simp;omega) rfl;rw[World.size_alloc]at o2;have s2:=Stp.upd (i:=Res.ci S.nc) (r:=⟨.slice (some ⟨w2.heap.size+1,0,none⟩) 1 1,3,1,1,[.int .i64 x]⟩) s1.rws (Chg.of_below (zkb zr (.cells #[.int .i64 x] 3))) o2 (fun b hb=>.inr (by simp[Value.ownBlock]at hb;simp;omega));refine⟨((s0.trans s1).trans s2).cast ?_,znC h.wf [x] (1,0) (by simp) (by simpa using hx) (by simp)⟩;rw[zmr h.wf];rfl
theorem zpD{W w2:World}{n0:Nat}{P:Ph}{S:ST}(h:SR W n0 P S)(hb:Below W.heap.size W w2) :
  SStp n0 P S W (P.newCell S w2.heap.size (.slice none 0 0)) (S.newCell []) (w2.alloc (.cells #[.slice none 0 0] 171)):=by
 have hn:n0<=w2.heap.size:=by
  have h1:=(h.rws.lt .sb P.sb rfl)
  have h2:=hb.size;omega
 have s0:=(Stp.refl h.rws).below hb;have s1:=Stp.upd (i:=Res.cb S.nc) (r:=⟨boxV w2.heap.size,171,1,1,[.slice none 0 0]⟩) s0.rws (Chg.of_below (zkb zr (.cells #[.slice none 0 0] 171))) (znw w2 n0 _ [_] hn rfl) (fun b hb=>.inr (by simp[Value.ownBlock]at hb;omega));have s2:=Stp.upd (i:=Res.ci S.nc) (r:=⟨.slice none 0 0,3,1,0,[]⟩) s1.rws (Chg.refl _ _) (World.ownsRow_nil _ _ _ _) (fun b hb=>by simp[Value.ownBlock]at hb);refine⟨((s0.trans s1).trans s2).cast ?_,znC h.wf [] (3,0) (by simp) (by simp) (by simp)⟩;rw[zmr h.wf];rfl
theorem zpM(P:Ph)(S:ST):(rows P S (hI S)).xs[oI S]?=some (curV P S)/\(rows P S (hI S)).xs[oI S+1]?=some (curC P S)/\(rows P S (hI S)).xs[oI S+2]?=some (.int .i64 S.cur.loc):=by
 by_cases h0:S.calls.length=0
 ·simp[hI,oI,curV,curC,h0,rows,zne h0]
 ·obtain⟨g1,g2,g3⟩:=zos P S.calls 0 (S.calls.length-1) (by omega);simp only[Nat.zero_add]at g1 g2;simp only[hI,oI,curV,curC,h0,if_false,rows,znd (show 0<S.calls.length by omega)];exact⟨g1,g2,g3⟩
theorem zy2{W:World}{n0:Nat}{P:Ph}{S:ST}(h:SR W n0 P S)(v:VD)(q:Option Addr)(hlim:S.cur.vs.length<=4398046511000) :
  Calls prog 104 #[.pointer (some ⟨(curP P S).block,oI S,none⟩),.agg #[.string v.s,.int .u8 v.k,.int .i64 v.n],.pointer q] W fun e W'=>(∃u,e=.returned u)/\∃vv vc,
   Stp n0 (rows P S) W (updR (updR (updR (rows P S) (vI S) ⟨vv,38,3,S.cur.vs.length+1,zkD S.cur.vs++[.string v.s,.int .u8 v.k,.int .i64 v.n]⟩) (cI S) ⟨vc,169,1,S.cur.vs.length+1,ptrs P.cb S.cur.cs++[.pointer q]⟩) (hI S) { rows P S (hI S)with xs:=((rows P S (hI S)).xs.set (oI S) vv).set (oI S+1) vc }) W':=by
 obtain⟨n1,n2,n3⟩:=zyr S;obtain⟨r1,r2⟩:=zq3 P S;obtain⟨g1,g2,_⟩:=zpM P S;obtain⟨_,hb,_⟩:=zlq h;obtain⟨kd,hw⟩:=h.curWF;refine zru h.rws (hI S) (vI S) (cI S) n1 n2 n3 _ _ hb (by rw[g1,r1]) (by rw[g2,r2]) (zkD S.cur.vs) (ptrs P.cb S.cur.cs) S.cur.vs.length (by rw[r1]) (by rw[r2,hw.len]) hlim v q
def FR.push(f:FR)(v:VD)(id:Nat):FR:=⟨f.vs++[v],f.cs++[id],f.loc+1⟩
theorem zpc(vs:List VD)(v:VD):zkD (vs++[v])=zkD vs++[.string v.s,.int .u8 v.k,.int .i64 v.n]:=by simp[zkD]
theorem zv6{W W':World}{n0:Nat}{P:Ph}{S:ST}(h:SR W n0 P S)(v:VD)(id:Nat)(vv vc:Value)(hwf:(S.setCur (S.cur.push v id)).WF)
  (hst:Stp n0 (rows P S) W (updR (updR (updR (rows P S) (vI S) ⟨vv,38,3,S.cur.vs.length+1,zkD S.cur.vs++[.string v.s,.int .u8 v.k,.int .i64 v.n]⟩) (cI S) ⟨vc,169,1,S.cur.vs.length+1,ptrs P.cb S.cur.cs++[.pointer (some ⟨P.cb id,0,none⟩)]⟩) (hI S) { rows P S (hI S)with xs:=((rows P S (hI S)).xs.set (oI S) vv).set (oI S+1) vc }) W') :
  SStp n0 P S W (P.setCur S vv vc) (S.setCur (S.cur.push v id)) (W'.setCell ⟨(curP P S).block,oI S+2,none⟩ (.int .i64 ((S.cur.loc:Int)+1))):=by
 refine⟨?_,hwf⟩;obtain⟨_,hb,ho⟩:=zlq h;obtain⟨kd,hw⟩:=h.curWF;have s3:=Stp.set (i:=hI S) hst.rws (g:=(curP P S).block) (by rw[zkw];exact hb) (o:=oI S+2) (by rw[zkw];simp;omega) (.int .i64 ((S.cur.loc:Int)+1));rw[zkw]at s3;refine(hst.trans s3).cast ?_;rw[zmQ];have e1:(S.cur.push v id).vs.length=S.cur.vs.length+1:=by simp[FR.push]
 have e2:(S.cur.push v id).cs.length=S.cur.vs.length+1:=by simp[FR.push,hw.len]
 have e3:zkD (S.cur.push v id).vs=zkD S.cur.vs++[.string v.s,.int .u8 v.k,.int .i64 v.n]:=zpc _ _;have e4:ptrs P.cb (S.cur.push v id).cs=ptrs P.cb S.cur.cs++[.pointer (some ⟨P.cb id,0,none⟩)]:=by simp[FR.push,ptrs]
 have e5:(((S.cur.push v id).loc:Nat):Int)=(S.cur.loc:Int)+1:=by simp[FR.push]
 rw[e1,e2,e3,e4,e5];funext r;by_cases e:r=hI S
 ·subst e;simp
 ·simp only[updR,e,if_false]
theorem zva{f:FR}{kd:Nat->Int×Int}{nc:Nat}(h:f.WF kd nc)(v:VD)(hv:FldV v)(hlim:f.vs.length+1<=4398046511000):(f.push v nc).WF (fun i=>if i=nc then(v.k,v.n)else kd i) (nc+1):=by
 have hl:=h.len;refine⟨by simp[FR.push,hl],by have:=h.loc;simp[FR.push];omega,by simpa[FR.push]using hlim,fun u hu=>?_,fun c hc=>?_,fun i hi hi'=>?_⟩
 ·simp only[FR.push,List.mem_append,List.mem_singleton]at hu;rcases hu with hu|rfl
  ·exact h.fld u hu
  ·exact hv
 ·simp only[FR.push,List.mem_append,List.mem_singleton]at hc;rcases hc with hc|rfl
  ·have:=h.num c hc;omega
  ·omega
 ·by_cases e:i<f.vs.length
  ·have e':i<f.cs.length:=by omega
   have a1:(f.push v nc).vs[i]=f.vs[i]:=List.getElem_append_left e;have a2:(f.push v nc).cs[i]=f.cs[i]:=List.getElem_append_left e';rw[a1];generalize (f.push v nc).cs[i]=ci at a2 ⊢;subst a2;have:=h.num _ (List.getElem_mem e');rw[if_neg (by omega)];exact h.kind i e e'
  ·have hi2:i=f.vs.length:=by simp[FR.push]at hi;omega
   have a1:(f.push v nc).vs[i]=v:=by simp[FR.push,hi2]
   have a2:(f.push v nc).cs[i]=nc:=by simp[FR.push,hi2,<-hl]
   rw[a1];generalize (f.push v nc).cs[i]=ci at a2 ⊢;subst a2;simp
theorem zvb{S:ST}(h:S.WF)(v:VD)(hv:FldV v)(l:List Int)(hl:l.length<=1000)(hf:∀x∈l,I64 x)(hk:(v.k=1->l.length=1)/\(v.k=2->(l.length:Int)=v.n)/\(v.k=1\/v.k=2\/v.k=3))(hlim:S.cur.vs.length+1<=4398046511000) :
  ((S.newCell l).setCur (S.cur.push v S.nc)).WF:=by
 obtain⟨kd,h1,h2,h3⟩:=h.ex;have hn:=znC h l (v.k,v.n) hl hf hk;have hkd:∀i,i<S.nc+1->(((fun i=>if i=S.nc then(v.k,v.n)else kd i) i).1=1->((S.newCell l).cell i).length=1)/\(((fun i=>if i=S.nc then(v.k,v.n)else kd i) i).1=2->(((S.newCell l).cell i).length:Int)=((fun i=>if i=S.nc then(v.k,v.n)else kd i) i).2)/\(((fun i=>if i=S.nc then(v.k,v.n)else kd i) i).1=1\/((fun i=>if i=S.nc then(v.k,v.n)else kd i) i).1=2\/((fun i=>if i=S.nc then(v.k,v.n)else kd i) i).1=3):=fun i hi=>by
  simp only[ST.newCell];by_cases e:i=S.nc
  ·subst e;simpa using hk
  ·simp only[e,if_false];exact h3 i (by omega)
 by_cases h0:S.calls.length=0
 ·have hc:S.calls=[]:=List.length_eq_zero_iff.1 h0;have h0':(S.newCell l).calls.length=0:=h0;rw[zne h0]at hlim ⊢;simp only[ST.setCur,h0',if_true];refine⟨⟨_,zva h1 v hv hlim,fun g hg=>?_,hkd⟩,hn.ncalls,hn.cells,hn.tin,hn.tout⟩;have:g∈S.calls:=hg;rw[hc]at this
  cases this
 ·have h0':¬ (S.newCell l).calls.length=0:=h0;have hcu:S.cur.WF kd S.nc:=by rw[znd (by omega)];exact h2 _ (List.getElem_mem _)
  simp only[ST.setCur,h0',if_false];refine⟨⟨_,h1.new (v.k,v.n),fun g hg=>?_,hkd⟩,by simpa using hn.ncalls,hn.cells,hn.tin,hn.tout⟩;rcases List.mem_or_eq_of_mem_set hg with hg|rfl
  ·exact(h2 g hg).new _
  ·exact zva hcu v hv hlim
def zl4(S:ST)(v:VD)(x:Int):Int×ST :=
 if ¬ ((v.k=1\/v.k=3)/\v.n=0)then(7,S)
 else if (S.cur.at v.s).isSome=true then(22,S)
 else(0,(S.newCell (if v.k=1 then [x]else [])).setCur (S.cur.push v S.nc))
theorem zqK{W:World}{n0:Nat}{P:Ph}{S:ST}(h:SR W n0 P S)(v:VD)(id b B O:Nat)(hb:P.cb id=b)(hcp:curP P S=⟨B,O,none⟩)(hlim:S.cur.vs.length<=4398046511000)(hwf:(S.setCur (S.cur.push v id)).WF) :
  Calls prog 104 #[.pointer (some ⟨B,O,none⟩),.agg #[.string v.s,.int .u8 v.k,.int .i64 v.n],.pointer (some ⟨b,0,none⟩)] W fun e W'=>(∃u,e=.returned u) /\
   W'.cell? ⟨B,O+2,none⟩=some (.int .i64 S.cur.loc)/\W'.frozen? ⟨B,O+2,none⟩=false/\∃P',SStp n0 P S W P' (S.setCur (S.cur.push v id)) (W'.setCell ⟨B,O+2,none⟩ (.int .i64 ((S.cur.loc:Int)+1)))/\P'.sb=P.sb:=by
 obtain⟨e0,aY,ho⟩:=zlq h;obtain⟨g1,g2,g3⟩:=zpM P S;rw[hcp]at e0 aY;dsimp only at e0 aY;have eO:O=oI S:=by injection e0
 subst eO;have hadd:=zy2 h v (some ⟨P.cb id,0,none⟩) hlim;rw[hcp,hb]at hadd;refine hadd.mono ?_;rintro e W' ⟨hu,vv,vc,hst⟩;have hr:=hst.rws;refine⟨hu,hr.cell (hI S) (by rw[zkw];exact aY) ?_,hr.frozen (hI S) (by rw[zkw];exact aY) _,P.setCur S vv vc,?_,?_⟩
 ·rw[zkw]
  show(((rows P S (hI S)).xs.set (oI S) vv).set (oI S+1) vc)[oI S+2]?=_
  rw[List.getElem?_set_ne (by omega),List.getElem?_set_ne (by omega)];exact g3
 ·have:=zv6 h v id vv vc hwf (by rw[hb];exact hst);rw[hcp]at this;exact this
 ·unfold Ph.setCur;split<;>rfl
theorem zxl{W:World}{n0:Nat}{P:Ph}{S:ST}(h:SR W n0 P S)(v:VD)(hfv:FldV v)(x:Int)(hx:I64 x)(hlim:S.cur.vs.length+1<=4398046511000):Calls prog 137 #[.pointer (some ⟨P.sb,0,none⟩),.agg #[.string v.s,.int .u8 v.k,.int .i64 v.n],.int .i64 x] W fun e W'=>e=.returned (.int .i64 (zl4 S v x).1)/\∃P',SStp n0 P S W P' (zl4 S v x).2 W'/\P'.sb=P.sb:=by
 have HS:=zh h;obtain⟨kd,hw⟩:=h.curWF;obtain⟨A,c,hcv,hc,hrow⟩:=h.curVs;obtain⟨h3,h4,h5⟩:=h.cur3;rw[hcv]at h3;have HLOC:=zh (show S.cur.loc<=4398046511000 by have:=hw.loc;have:=hw.lim;omega);obtain⟨R,hR⟩:=zX (zl4 S v x);rw[hR];have HRR:=zh hR;have dm:=zh (fun W' (hb:Below W.heap.size W W')=>zlb (h.later hb));have dW:=zh (fun W' (hb:Below W.heap.size W W')=>znV S.cur.vs A c v.s (curP P S) W' (zb hb h3) (hrow.later hb) hw.lim);obtain⟨vm,vk,vn⟩:=v;dsimp only at dW ⊢;clear h hw hcv hrow h3 h4 h5 hR;by_cases k13:vk=1\/vk=3
 ·by_cases hn:vn=0
  ·subst hn;obtain⟨r,hr⟩:=zX (S.cur.at vm);have hr':zmn S.cur.vs vm S.cur.vs.length=r:=hr;rw[hr']at dW;have HR2:=zh (show R=if r.isSome=true then(22,S)else(0,(S.newCell (if vk=1 then [x]else [])).setCur (S.cur.push ⟨vm,vk,0⟩ S.nc)) by
    rw[<-HRR.out,zl4,if_neg (by simp[k13]),hr])
   obtain⟨B,O,hcp⟩:∃B O,curP P S=⟨B,O,none⟩:=⟨_,_,(zlq HS.out).1⟩
   rw[hcp]at dW dm;have vG:=zh hcp;clear HRR hr hr' hcp;rcases r with _|i
   ·rcases k13 with rfl|rfl
    ·simp only[idxZ]at dW;go_enter func137,ntmps137;go_wp2_with fail;refine(dm.out _ (zkb zr _)).mono ?_;rintro e w1 ⟨rfl,rfl⟩;go_wp2_with fail;refine(dW.out _ (zkb zr _)).mono ?_;rintro e w2 ⟨rfl,ah⟩;have hvb:=zkc (heap_alloc_new W (.cells #[.string vm,.int .u8 1,.int .i64 0] 38)) ah;have hva:=fun o=>zkd hvb o;have u0:∀o,(w2.alloc o).cell? ⟨W.heap.size,0,none⟩=some (.string vm):=fun o=>zc (hva o) rfl;have u1:∀o,(w2.alloc o).cell? ⟨W.heap.size,1,none⟩=some (.int .u8 1):=fun o=>zc (hva o) rfl;have u2:∀o,(w2.alloc o).cell? ⟨W.heap.size,2,none⟩=some (.int .i64 0):=fun o=>zc (hva o) rfl;have dw:=fun o o'=>zkd (hva o) o';have t0:∀o o',((w2.alloc o).alloc o').cell? ⟨W.heap.size,0,none⟩=some (.string vm):=fun o o'=>zc (dw o o') rfl;have t1:∀o o',((w2.alloc o).alloc o').cell? ⟨W.heap.size,1,none⟩=some (.int .u8 1):=fun o o'=>zc (dw o o') rfl
     have t2:∀o o',((w2.alloc o).alloc o').cell? ⟨W.heap.size,2,none⟩=some (.int .i64 0):=fun o o'=>zc (dw o o') rfl;have s1:=zre HS.out (zka (zkb zr _) ah) x hx;have hwf:=zvb HS.out.wf ⟨vm,1,0⟩ hfv [x] (by simp) (by simpa using hx) (by simp) hlim;have HX:=zh (show R=(0,(S.newCell [x]).setCur (S.cur.push ⟨vm,1,0⟩ S.nc)) by rw[HR2.out];simp);have HAD:=zh (zqK s1.sr ⟨vm,1,0⟩ S.nc w2.heap.size B O (by simp[Ph.newCell]) vG.out (by show S.cur.vs.length<=_;omega) hwf);have bT:=zh s1;dsimp only[zmT]at HAD;have hl1:=HLOC.out;clear hva dw s1 hwf HR2;go_wp2_with fail;refine HAD.out.mono ?_;rintro e w4 ⟨⟨u,rfl⟩,y0,y1,P2,hs2,hp2⟩;have HS2:=zh hs2;have lX:=zh hp2;obtain⟨lc,hlc⟩:=zX (S.cur.loc);rw[hlc]at y0 HS2 hl1;clear hs2 hp2 hlc;go_wp2_with fail;go_ret;refine⟨by rw[HX.out];rfl,P2,?_,lX.out⟩;rw[HX.out];exact bT.out.trans HS2.out
    ·simp only[idxZ]at dW;go_enter func137,ntmps137;go_wp2_with fail;refine(dm.out _ (zkb zr _)).mono ?_;rintro e w1 ⟨rfl,rfl⟩;go_wp2_with fail;refine(dW.out _ (zkb zr _)).mono ?_;rintro e w2 ⟨rfl,ah⟩;have hvb:=zkc (heap_alloc_new W (.cells #[.string vm,.int .u8 3,.int .i64 0] 38)) ah;have hva:=fun o=>zkd hvb o;have u0:∀o,(w2.alloc o).cell? ⟨W.heap.size,0,none⟩=some (.string vm):=fun o=>zc (hva o) rfl;have u1:∀o,(w2.alloc o).cell? ⟨W.heap.size,1,none⟩=some (.int .u8 3):=fun o=>zc (hva o) rfl;have u2:∀o,(w2.alloc o).cell? ⟨W.heap.size,2,none⟩=some (.int .i64 0):=fun o=>zc (hva o) rfl;have dw:=fun o o'=>zkd (hva o) o';have t0:∀o o',((w2.alloc o).alloc o').cell? ⟨W.heap.size,0,none⟩=some (.string vm):=fun o o'=>zc (dw o o') rfl;have t1:∀o o',((w2.alloc o).alloc o').cell? ⟨W.heap.size,1,none⟩=some (.int .u8 3):=fun o o'=>zc (dw o o') rfl
     have t2:∀o o',((w2.alloc o).alloc o').cell? ⟨W.heap.size,2,none⟩=some (.int .i64 0):=fun o o'=>zc (dw o o') rfl;have s1:=zpD HS.out (zka (zkb zr _) ah);have hwf:=zvb HS.out.wf ⟨vm,3,0⟩ hfv [] (by simp) (by simp) (by simp) hlim;have HX:=zh (show R=(0,(S.newCell []).setCur (S.cur.push ⟨vm,3,0⟩ S.nc)) by rw[HR2.out];simp);have HAD:=zh (zqK s1.sr ⟨vm,3,0⟩ S.nc w2.heap.size B O (by simp[Ph.newCell]) vG.out (by show S.cur.vs.length<=_;omega) hwf);have bT:=zh s1;dsimp only[zmT]at HAD;have hl1:=HLOC.out;clear hva dw s1 hwf HR2;go_wp2_with fail;refine HAD.out.mono ?_;rintro e w4 ⟨⟨u,rfl⟩,y0,y1,P2,hs2,hp2⟩;have HS2:=zh hs2;have lX:=zh hp2;obtain⟨lc,hlc⟩:=zX (S.cur.loc);rw[hlc]at y0 HS2 hl1;clear hs2 hp2 hlc;go_wp2_with fail;go_ret;refine⟨by rw[HX.out];rfl,P2,?_,lX.out⟩;rw[HX.out];exact bT.out.trans HS2.out
   ·have HX:=zh (show R=(22,S) by rw[HR2.out];rfl);simp only[idxZ]at dW;have hi0:¬ (i:Int)<0:=by omega
    clear HR2;rcases k13 with rfl|rfl
    all_goals
     go_enter func137,ntmps137;go_wp2_with fail;refine(dm.out _ (zkb zr _)).mono ?_;rintro e w1 ⟨rfl,rfl⟩;go_wp2_with fail;refine(dW.out _ (zkb zr _)).mono ?_;rintro e w2 ⟨rfl,ah⟩;have q2:=zka (zkb zr _) ah;clear ah;go_wp2_with fail;go_ret;exact⟨by rw[HX.out];rfl,P,by rw[HX.out];exact SStp.refl HS.out q2,rfl⟩
  ·have HX:=zh (show R=(7,S) by rw[<-HRR.out,zl4,if_pos (by simp[hn])]);have e1:(vn==0)=false:=by simpa using hn
   have e2:(vn != 0)=true:=by simpa using hn
   clear hn HRR;rcases k13 with rfl|rfl
   all_goals
    go_enter func137,ntmps137;go_wp2_with fail;go_ret;exact⟨by rw[HX.out];rfl,P,by rw[HX.out];exact SStp.refl HS.out (zkb zr _),rfl⟩
 ·have HX:=zh (show R=(7,S) by rw[<-HRR.out,zl4,if_pos (by simp[k13])]);have x1:(vk==1)=false:=by simp;omega
  have x3:(vk==3)=false:=by simp;omega
  have y1:(vk != 1)=true:=by simp;omega
  have y3:(vk != 3)=true:=by simp;omega
  clear k13 HRR;go_enter func137,ntmps137;go_wp2_with fail;go_ret;exact⟨by rw[HX.out];rfl,P,by rw[HX.out];exact SStp.refl HS.out (zkb zr _),rfl⟩
def entL(f:FR)(acc:FR):List (VD×ByteArray)->Except Int FR
 | []=>.ok acc
 | (v,a)::r=>match f.at a with
  | none=>.error 6
  | some i=>if (f.vs.getD i ⟨⟨#[]⟩,0,0⟩).k=v.k/\(f.vs.getD i ⟨⟨#[]⟩,0,0⟩).n=v.n then entL f ⟨acc.vs++[v],acc.cs++[f.cs.getD i 0],0⟩ r else .error 7
def entR(S:ST):Except Int FR->Int×ST
 | .error e=>(e,S)
 | .ok f=>if 100<=S.calls.length then(19,S)else(0,{ S with calls:=S.calls++[f] })
def zl8(S:ST)(ps:List VD)(ss:List ByteArray):Int×ST :=
 if ps.length≠ss.length then(7,S)else entR S (entL S.cur ⟨[],[],0⟩ (ps.zip ss))
def bldF(cb:Nat->Nat)(nb:Nat)(vv vc:Value)(f:FR):Fin 3->RowD
 | 0=>⟨boxV nb,164,3,1,[vv,vc,.int .i64 f.loc]⟩
 | 1=>⟨vv,38,3,f.vs.length,zkD f.vs⟩
 | 2=>⟨vc,169,1,f.vs.length,ptrs cb f.cs⟩
theorem zw3(cb:Nat->Nat)(w:World):Rws (w.alloc (.cells #[.slice none 0 0,.slice none 0 0,.int .i64 0] 164)) w.heap.size (bldF cb w.heap.size (.slice none 0 0) (.slice none 0 0) ⟨[],[],0⟩):=by
 refine⟨fun i=>?_,fun i j b hij hi hj=>?_⟩
 ·match i with
  | 0=>exact znw (k:=3) w w.heap.size _ [_,_,_] zl rfl
  | 1=>exact World.ownsRow_nil _ _ _ _
  | 2=>exact World.ownsRow_nil _ _ _ _
 ·match i,j with
  | 0,0=>exact hij rfl
  | 0,1=>simp[bldF,Value.ownBlock]at hj
  | 0,2=>simp[bldF,Value.ownBlock]at hj
  | 1,_=>simp[bldF,Value.ownBlock]at hi
  | 2,_=>simp[bldF,Value.ownBlock]at hi
theorem zkX{C:Nat->Prop}{w w':World}(h:Chg C w w'){p:Addr}{u:Value}(hp:w.cell? p=some u)(hc:¬ C p.block):w'.cell? p=some u:=(World.cell?_of_block (a:=p) (h.block _ (World.block_lt_of_cell? w p hp) hc)).trans hp
theorem zy3{cb:Nat->Nat}{W:World}{n1 nb:Nat}{vv vc:Value}{f:FR}(h:Rws W n1 (bldF cb nb vv vc f))(hlim:f.vs.length<=4398046511000)(v:VD)(id:Nat) :
  Calls prog 104 #[.pointer (some ⟨nb,0,none⟩),.agg #[.string v.s,.int .u8 v.k,.int .i64 v.n],.pointer (some ⟨cb id,0,none⟩)] W fun e W'=>(∃u,e=.returned u)/\∃rG iU,Rws W' n1 (bldF cb nb rG iU ⟨f.vs++[v],f.cs++[id],f.loc⟩)/\Chg (OwnB (bldF cb nb vv vc f)) W W':=by
 have hadd:=zru h (0:Fin 3) 1 2 (by decide) (by decide) (by decide) nb 0 rfl rfl rfl (zkD f.vs) (ptrs cb f.cs) f.vs.length rfl rfl hlim v (some ⟨cb id,0,none⟩);refine hadd.mono ?_;rintro e W' ⟨hu,rG,iU,hst⟩;refine⟨hu,rG,iU,?_,hst.chg⟩;have:=hst.rws;refine(Stp.refl this).cast ?_ |>.rws
 funext i
 match i with
 | 0=>simp[updR,bldF]
 | 1=>simp[updR,bldF,zkD]
 | 2=>simp[updR,bldF,ptrs]
theorem Stp.take2{I:Type}[DecidableEq I]{n0:Nat}{d:I->RowD}{W W':World}(h:Rws W n0 d)(hb:Below W.heap.size W W')(i j:I)(hij:i≠j)(r1 r2:RowD)(o1:W'.ownsRow n0 r1.E r1.sz r1.v r1.n r1.xs)(o2:W'.ownsRow n0 r2.E r2.sz r2.v r2.n r2.xs)
  (n1:∀b,r1.v.ownBlock=some b->W.heap.size<=b)(n2:∀b,r2.v.ownBlock=some b->W.heap.size<=b)(hs:∀b,r1.v.ownBlock=some b->r2.v.ownBlock≠some b):Stp n0 d W (updR (updR d i r1) j r2) W':=by
 have hl:=h.later hb;have key:∀q,(q=j/\updR (updR d i r1) j r2 q=r2)\/(q≠j/\q=i/\updR (updR d i r1) j r2 q=r1)\/(q≠j/\q≠i/\updR (updR d i r1) j r2 q=d q):=fun q=>by
  by_cases e:q=j
  ·subst e;exact .inl ⟨rfl,zkw⟩
  ·by_cases e2:q=i
   ·subst e2;exact .inr (.inl ⟨e,rfl,by rw[zkl e,zkw]⟩)
   ·exact .inr (.inr ⟨e,e2,by rw[zkl e,zkl e2]⟩)
 have hlt:∀q b,(d q).v.ownBlock=some b->b<W.heap.size:=fun q b hq=>(h.lt q b hq).2;refine⟨⟨fun q=>?_,fun p q b hpq h1 h2=>?_⟩,Chg.of_below hb,fun b ⟨q,hq⟩=>?_⟩
 ·rcases key q with⟨_,e⟩|⟨_,_,e⟩|⟨_,_,e⟩
  ·rw[e];exact o2
  ·rw[e];exact o1
  ·rw[e];exact hl.row q
 ·rcases key p with⟨ep,e⟩|⟨_,ep,e⟩|⟨_,_,e⟩<;>rcases key q with⟨eq,e'⟩|⟨_,eq,e'⟩|⟨_,_,e'⟩<;>rw[e]at h1<;>rw[e']at h2
  ·exact hpq (ep.trans eq.symm)
  ·exact hs b h2 h1
  ·have:=n2 b h1;have:=hlt _ b h2;omega
  ·exact hs b h1 h2
  ·exact hpq (ep.trans eq.symm)
  ·have:=n1 b h1;have:=hlt _ b h2;omega
  ·have:=n2 b h2;have:=hlt _ b h1;omega
  ·have:=n1 b h2;have:=hlt _ b h1;omega
  ·exact h.sep p q b hpq h1 h2
 ·rcases key q with⟨_,e⟩|⟨_,_,e⟩|⟨_,_,e⟩<;>rw[e]at hq
  ·exact .inr (n2 b hq)
  ·exact .inr (n1 b hq)
  ·exact .inl ⟨q,hq⟩
theorem zuL{f:FR}{kd:Nat->Int×Int}{nc:Nat}(h:f.WF kd nc):∀(l:List (VD×ByteArray)) (acc g:FR),acc.WF kd nc->acc.loc=0->(∀p∈l,FldV p.1)->acc.vs.length+l.length<=4398046511000->entL f acc l=.ok g->g.WF kd nc/\g.loc=0
 | [],acc,g,ha,h0,_,_,he=>by simp only[entL,Except.ok.injEq]at he;subst he;exact⟨ha,h0⟩
 | (v,a)::r,acc,g,ha,h0,hf,hl,he=>by
  rw[entL]at he
  split at he
  ·cases he
  ·next i hi =>
   have hil:=FR.at_lt hi;have hic:i<f.cs.length:=by rw[h.len];exact hil
   split at he
   ·next hk =>
    simp only[List.getD_eq_getElem?_getD,List.getElem?_eq_getElem hil,List.getElem?_eq_getElem hic,Option.getD_some]at hk he;refine zuL h r _ g ?_ rfl (fun p hp=>hf p (List.mem_cons_of_mem _ hp)) (by simp at hl ⊢;omega) he;refine⟨by simp[ha.len],by simp,by simp at hl ⊢;omega,fun u hu=>?_,fun c hc=>?_,fun q hq hq'=>?_⟩
    ·simp only[List.mem_append,List.mem_singleton]at hu;rcases hu with hu|rfl
     ·exact ha.fld u hu
     ·exact hf _ (List.mem_cons_self ..)
    ·simp only[List.mem_append,List.mem_singleton]at hc;rcases hc with hc|rfl
     ·exact ha.num c hc
     ·exact h.num _ (List.getElem_mem hic)
    ·have hal:=ha.len;dsimp only at hq hq' ⊢;by_cases e:q<acc.vs.length
     ·have e':q<acc.cs.length:=by omega
      simp only[List.getElem_append_left e,List.getElem_append_left e'];exact ha.kind q e e'
     ·have e2:q=acc.vs.length:=by simp at hq;omega
      have e3:(acc.vs++[v])[q]=v:=by simp[e2]
      have e4:(acc.cs++[f.cs[i]])[q]=f.cs[i]:=by simp[e2,<-hal]
      rw[e3,e4,h.kind i hil hic,hk.1,hk.2]
   ·cases he
theorem zxc{S:ST}(h:S.WF)(ps:List VD)(ss:List ByteArray)(g:FR)(hf:∀v∈ps,FldV v)(hl:ps.length<=4398046511000)(he:entL S.cur ⟨[],[],0⟩ (ps.zip ss)=.ok g)(hn:S.calls.length<100):({ S with calls:=S.calls++[g] }:ST).WF/\g.loc=0/\g.cs.length=g.vs.length:=by
 obtain⟨kd,h1,h2,h3⟩:=h.ex;have hc:S.cur.WF kd S.nc:=by
  rcases Nat.eq_zero_or_pos S.calls.length with h0|h0
  ·rw[zne h0];exact h1
  ·rw[znd h0];exact h2 _ (List.getElem_mem _)
 have:=zuL hc (ps.zip ss) ⟨[],[],0⟩ g ⟨rfl,zl,by simp,by simp,by simp,by simp⟩ rfl (fun p hp=>hf _ (List.of_mem_zip hp).1) (by simp;omega) he;refine⟨⟨⟨kd,h1,fun f hf=>?_,h3⟩,by simp;omega,h.cells,h.tin,h.tout⟩,this.2,this.1.len⟩;simp only[List.mem_append,List.mem_singleton]at hf;rcases hf with hf|rfl
 ·exact h2 f hf
 ·exact this.1
theorem zpe{P P':Ph}{g:FR}:∀(fs:List FR) (i:Nat),(∀q,q<i+fs.length->P'.fV q=P.fV q/\P'.fC q=P.fC q)->zkS P' i (fs++[g])=zkS P i fs++[P'.fV (i+fs.length),P'.fC (i+fs.length),.int .i64 g.loc]
 | [],i,_=>by simp[zkS]
 | f::fs,i,h=>by
  have:=zpe (P:=P) (P':=P') (g:=g) fs (i+1) (fun q hq=>h q (by simp;omega));have h0:=h i (by simp);simp only[List.cons_append,zkS,this,h0.1,h0.2,List.length_cons];rw[show i+1+fs.length=i+(fs.length+1) by omega]
def Ph.enter(P:Ph)(m:Nat)(vf vv vc:Value):Ph:={ P with vF:=vf,fV:=fun i=>if i=m then vv else P.fV i,fC:=fun i=>if i=m then vc else P.fC i }
theorem zsx(P:Ph)(S:ST)(g:FR)(vf vv vc:Value)(hg:g.loc=0)(hgl:g.cs.length=g.vs.length):rows (P.enter S.calls.length vf vv vc) { S with calls:=S.calls++[g] } =
  updR (updR (updR (updR (rows P S) (.fv S.calls.length) ⟨vv,38,3,g.vs.length,zkD g.vs⟩) (.fc S.calls.length) ⟨vc,169,1,g.vs.length,ptrs P.cb g.cs⟩) .calls ⟨vf,164,3,S.calls.length+1,zkS P 0 S.calls++[vv,vc,.int .i64 0]⟩) .sb
   { rows P S .sb with xs:=(rows P S .sb).xs.set 3 vf }:=by
 funext r
 cases r with
 | calls =>
  have:=zpe (P:=P) (P':=P.enter S.calls.length vf vv vc) (g:=g) S.calls 0 (fun q hq=>by
   have:q≠S.calls.length:=by omega
   simp[Ph.enter,this])
  simp only[updR,reduceCtorEq,if_false,if_true,rows,this];simp[Ph.enter,hg]
 | fv i =>
  by_cases e:i=S.calls.length
  ·subst e;simp[updR,rows,Ph.enter]
  ·simp only[updR,Res.fv.injEq,e,reduceCtorEq,if_false,rows,Ph.enter];by_cases hi:i<S.calls.length
   ·rw[List.getElem?_append_left hi]
   ·rw[List.getElem?_eq_none (show(S.calls++[g]).length<=i by simp;omega),List.getElem?_eq_none (by omega)]
 | fc i =>
  by_cases e:i=S.calls.length
  ·subst e;simp[updR,rows,Ph.enter,hgl]
  ·simp only[updR,Res.fc.injEq,e,reduceCtorEq,if_false,rows,Ph.enter];by_cases hi:i<S.calls.length
   ·rw[List.getElem?_append_left hi]
   ·rw[List.getElem?_eq_none (show(S.calls++[g]).length<=i by simp;omega),List.getElem?_eq_none (by omega)]
 | sb=>simp[updR,rows,Ph.enter]
 | tb=>simp[updR,rows,Ph.enter]
 | tin=>simp[updR,rows,Ph.enter]
 | tout=>simp[updR,rows,Ph.enter]
 | bv=>simp[updR,rows,Ph.enter]
 | bc=>simp[updR,rows,Ph.enter]
 | cb i=>simp[updR,rows,Ph.enter]
 | ci i=>simp[updR,rows,Ph.enter]
 | x i=>simp[updR,rows]
theorem zli{w:World}{n0 n1:Nat}{E:TypeId}{size:Nat}{v:Value}{n:Nat}{xs:List Value}(h:w.ownsRow n1 E size v n xs)(hn:n0<=n1):w.ownsRow n0 E size v n xs:=by
 obtain⟨x1,x2⟩:=h;refine⟨x1,?_⟩;rcases x2 with x2|⟨g,cap,cur,y1,y2,y3⟩
 ·exact .inl x2
 ·exact .inr ⟨g,cap,cur,y1,by omega,y3⟩
theorem zuK{W W1 W2 w3:World}{n0:Nat}{P:Ph}{S:ST}(h:SR W n0 P S)(hb:Below W.heap.size W W1)(nb:Nat)(vv vc:Value)(g:FR)(hr:Rws W1 W.heap.size (bldF P.cb nb vv vc g))(hg:g.loc=0)(hgl:g.cs.length=g.vs.length)(hwf:({ S with calls:=S.calls++[g] }:ST).WF)
  (hb2:Below W1.heap.size W1 W2)(v':Value)(h2:w3.ownsRow n0 164 3 v' (S.calls.length+1) (zkS P 0 S.calls++[vv,vc,.int .i64 0]))(h3:W2.grownBy w3 P.vF.ownBlock)(h5:v'.ownBlock=P.vF.ownBlock\/v'.ownBlock=some W2.heap.size) :
  w3.cell? ⟨P.sb,3,none⟩=some P.vF/\w3.frozen? ⟨P.sb,3,none⟩=false/\SStp n0 P S W (P.enter S.calls.length v' vv vc) { S with calls:=S.calls++[g] } (w3.setCell ⟨P.sb,3,none⟩ v'):=by
 have hn:n0<=W.heap.size:=by have:=h.rws.lt .sb P.sb rfl;omega
 have s1:=Stp.take2 h.rws hb (.fv S.calls.length) (.fc S.calls.length) (by simp) ⟨vv,38,3,g.vs.length,zkD g.vs⟩ ⟨vc,169,1,g.vs.length,ptrs P.cb g.cs⟩
  (zli (hr.row 1) hn) (zli (hr.row 2) hn) (fun b e=>(hr.lt 1 b e).1) (fun b e=>(hr.lt 2 b e).1) (fun b e=>hr.sep 1 2 b (by decide) e)
 have s2:=s1.below hb2;have hc:updR (updR (rows P S) (.fv S.calls.length) ⟨vv,38,3,g.vs.length,zkD g.vs⟩) (.fc S.calls.length) ⟨vc,169,1,g.vs.length,ptrs P.cb g.cs⟩ .calls=rows P S .calls:=rfl;have s3:=Stp.upd (i:=Res.calls) (r:=⟨v',164,3,S.calls.length+1,zkS P 0 S.calls++[vv,vc,.int .i64 0]⟩) s2.rws ((Chg.row h3).mono fun b _ hb=>hb) h2 (fun b hb=>by
  rcases h5 with h5|h5
  ·exact .inl (h5▸hb)
  ·exact .inr (by rw[h5]at hb;injection hb with hb;omega))
 have s4:=Stp.set (i:=Res.sb) s3.rws (g:=P.sb) rfl (o:=3) (by show 3<5;decide) v';refine⟨s3.rws.cell .sb (g:=P.sb) (o:=3) rfl rfl,s3.rws.frozen .sb (g:=P.sb) rfl 3,⟨?_,hwf⟩⟩;refine((s2.trans s3).trans s4).cast ?_;rw[zsx P S g v' vv vc hg hgl];rfl
theorem zzM:IsFn prog 104 f104:=⟨func104,by kernel_rfl,by kernel_rfl⟩
theorem zzD:(prog.info? 164).map (fun i=>(i.zero,i.size,i.bytes))=some (some (.agg #[.slice none 0 0,.slice none 0 0,.int .i64 0]),3,56):=by kernel_rfl
theorem zw2(A0 A1:Option Addr)(l0 c0 l1 c1:Nat)(x:Int)(w:World):(Instr.buildSlice 165 1 #[(0,.agg #[.slice A0 l0 c0,.slice A1 l1 c1,.int .i64 x])]).run prog w=.ok (.slice (some ⟨w.heap.size,0,none⟩) 1 1) (w.alloc (.cells #[.slice A0 l0 c0,.slice A1 l1 c1,.int .i64 x] 164)):=by kernel_rfl
theorem zvz{W:World}{n0:Nat}{P:Ph}{S:ST}(h:SR W n0 P S)(ps:List VD)(ss:List ByteArray)(A D:Option Addr)(c d:Nat)(hp:RowV W Any A ps)(hs:RowS W D ss)(hlp:ps.length<=4398046511000)(_hls:ss.length<=17592186044416) :
  Calls prog 158 #[.pointer (some ⟨P.sb,0,none⟩),.slice A ps.length c,.slice D ss.length d] W fun e W'=>e=.returned (.int .i64 (zl8 S ps ss).1)/\∃P',SStp n0 P S W P' (zl8 S ps ss).2 W'/\P'.sb=P.sb:=by
 obtain⟨R,hR⟩:=zX (zl8 S ps ss);rw[hR];have HS:=zh h;have HP:=zh hp;have aB:=zh hs;have HRR:=zh hR;clear hR hp hs;by_cases hlen:ps.length=ss.length
 ·rw[<-hlen];obtain⟨kd,hw⟩:=h.curWF;obtain⟨A0,c0,hcv,hc,hrow⟩:=h.curVs;obtain⟨h3,h4,h5⟩:=h.cur3;rw[hcv]at h3;obtain⟨B,O,hcp⟩:∃B O,curP P S=⟨B,O,none⟩:=⟨_,_,(zlq h).1⟩
  have dm:=zh (fun W' (hb:Below W.heap.size W W')=>zlb (h.later hb));have dW:=zh (fun(s:ByteArray) W' (hb:Below W.heap.size W W')=>znV S.cur.vs A0 c0 s (curP P S) W' (zb hb h3) (hrow.later hb) hw.lim);rw[hcp]at h3 h4 dm dW;dsimp only at h3 h4;have ae:=zh hrow;have CE:=zh h.curCs;have eH:=zh hw;have HL:=zh hlen;have H3:=zh h3;have H4:=zh h4;obtain⟨E,hE⟩:=zX (entL S.cur ⟨[],[],0⟩ (ps.zip ss));have HE:=zh (show R=entR S E by rw[<-HRR.out,zl8,if_neg (by simp[hlen]),hE]);have vD:=zh hE;have hn0:=HS.out.wf.ncalls;clear h hw hcv hrow h3 h4 h5 HRR hlen hE;go_enter func158,ntmps158;go_wp2_with fail;refine(dm.out _ (zkb zr _)).mono ?_;rintro e w1 ⟨rfl,rfl⟩;go_wp2_with fail
  go_loopw [23] (fun i wr=>∃j:Nat,j<=ps.length/\i=.int .i64 j/\Hid (Below W.heap.size W wr)/\∃vv vc acc,Hid (Rws wr W.heap.size (bldF P.cb W.heap.size vv vc acc))/\Hid (acc.vs.length=j)/\Hid (acc.loc=0)/\Hid (entL S.cur acc ((ps.zip ss).drop j)=E)) (fun i _=>ps.length-(intOf i).toNat)
  case atStart=>exact⟨0,Nat.zero_le _,rfl,zh (zkb zr _),.slice none 0 0,.slice none 0 0,⟨[],[],0⟩,zh (zw3 P.cb W),zh rfl,zh rfl,vD⟩
  case round =>
   obtain⟨j,hj,rfl,af,vv,vc,acc,HRW,jU,HA0,zw⟩:=hrel;by_cases hlt:j<ps.length
   ·have hlt2:j<ss.length:=by rw[<-HL.out];exact hlt
    obtain⟨a,rfl,-,⟨y0,y1,y2⟩,hfv⟩:=(HP.out.later af.out) j hlt;obtain⟨b,s,rfl,Hs,x0⟩:=(aB.out.later af.out).nd hlt2;obtain⟨v,hv⟩:=zX (ps[j]);rw[hv]at y0 y1 y2 hfv;obtain⟨vm,vk,vn⟩:=v;dsimp only at y0 y1 y2;have hd:(ps.zip ss).drop j=(⟨vm,vk,vn⟩,s)::(ps.zip ss).drop (j+1):=by
     have hz:j<(ps.zip ss).length:=by rw[List.length_zip];omega
     rw[List.drop_eq_getElem_cons hz,List.getElem_zip,hv,Hs.out]
    have HD:=zh (hd▸zw.out);have hj1:(j:Int)<(ps.length:Int):=by omega
    obtain⟨r,hr⟩:=zX (S.cur.at s);have qZ:=zh (dW.out s);have hr':zmn S.cur.vs s S.cur.vs.length=r:=hr;rw[hr']at qZ;have Hr:=zh hr;clear hr hr' hv hd zw;have z0:=fun o=>zkj x0 o;go_wp2_with fail;refine(qZ.out _ (zkb af.out _)).mono ?_;rintro e w2 ⟨rfl,ah⟩;have HB2:=zh (zka (zkb af.out (.cells #[.string vm,.int .u8 vk,.int .i64 vn] 38)) ah);have lG:=zh (zka (zkb (zs wr) (.cells #[.string vm,.int .u8 vk,.int .i64 vn] 38)) ah);have hvb:=zkc (heap_alloc_new wr (.cells #[.string vm,.int .u8 vk,.int .i64 vn] 38)) ah;have q0:w2.cell? ⟨wr.heap.size,0,none⟩=some (.string vm):=zc hvb rfl;have q1:w2.cell? ⟨wr.heap.size,1,none⟩=some (.int .u8 vk):=zc hvb rfl;have q2:w2.cell? ⟨wr.heap.size,2,none⟩=some (.int .i64 vn):=zc hvb rfl;clear ah hvb;rcases r with _|i
    ·have HX:=zh (show R=(6,S) by
      have h1:=HD.out;rw[entL,Hr.out]at h1;rw[HE.out,<-h1];rfl)
     simp only[idxZ];go_wp2_with fail;go_ret;exact⟨by rw[HX.out];rfl,P,by rw[HX.out];exact SStp.refl HS.out HB2.out,rfl⟩
    ·have hil:i<S.cur.vs.length:=FR.at_lt Hr.out;have hic:i<S.cur.cs.length:=by rw[eH.out.len];exact hil
     obtain⟨a0,rfl,-,⟨f0,f1,f2⟩,-⟩:=(ae.out.later HB2.out) i hil;obtain⟨u,hu⟩:=zX (S.cur.vs[i]);rw[hu]at f0 f1 f2;obtain⟨um,uk,un⟩:=u;dsimp only at f0 f1 f2;obtain⟨id,hid⟩:=zX (S.cur.cs[i]);have g3:=zb HB2.out H3.out;have g4:=zb HB2.out H4.out;obtain⟨gc,c2,hcc,hc2,hm2,hcell⟩:=zk7 (zkJ CE.out HB2.out) (by omega);have HGC:=zh (show gc<W.heap.size from(CE.out.lt gc (by rw[hcc];rfl)).2);rw[hcc]at g4;have hz:w2.cell? ⟨gc,i,none⟩=some (.pointer (some ⟨P.cb id,0,none⟩)):=by rw[hcell i (by omega)];simp[ptrs,hic,hid]
     have HD2:=zh (show(if uk=vk/\un=vn then entL S.cur ⟨acc.vs++[⟨vm,vk,vn⟩],acc.cs++[id],0⟩ ((ps.zip ss).drop (j+1))else .error 7)=E by
      have h1:=HD.out;rw[entL,Hr.out]at h1;simp only[List.getD_eq_getElem?_getD,List.getElem?_eq_getElem hil,List.getElem?_eq_getElem hic,Option.getD_some,hu,hid]at h1;exact h1)
     have hi1:(i:Int)<(S.cur.vs.length:Int):=by omega
     have hi2:¬ (i:Int)<0:=by omega
     have hi3:(i:Int)<(S.cur.cs.length:Int):=by omega
     simp only[idxZ];clear hcell hcc hu hid HD y0 y1 y2 x0 z0;obtain⟨nV,hnV⟩:=zX (S.cur.vs.length);obtain⟨nC,hnC⟩:=zX (S.cur.cs.length);rw[hnV]at g3 hi1;rw[hnC]at g4 hi3;clear hnV hnC hil hic;by_cases hk:uk=vk
     ·subst hk;by_cases hn:un=vn
      ·subst hn;have HE2:=zh (show entL S.cur ⟨acc.vs++[⟨vm,uk,un⟩],acc.cs++[id],0⟩ ((ps.zip ss).drop (j+1))=E by have:=HD2.out;simpa using this);clear HD2;go_wp2_with fail
       go_quiet (fail)
       go_wp2_with fail;obtain⟨w3,hw3⟩:=zX (w2.drewN nq);have hb3:Below w2.heap.size w2 w3:=hw3▸zkL zr nq;rw[hw3];have p0:=zb hb3 q0;have p1:=zb hb3 q1;have p2:=zb hb3 q2;have p4:=zb hb3 g4;have p5:=zb hb3 hz;have HB3:=zh (zka HB2.out hb3);have HW3:=zh (HRW.out.later (zka lG.out hb3));clear q0 q1 q2 g3 g4 hz hw3 hb3 f0 f1 f2 nq;have hSS:zW (fun w':World=>zv w' wr.heap.size 0 (.string vm)/\zv w' wr.heap.size 1 (.int .u8 uk)/\zv w' wr.heap.size 2 (.int .i64 un)/\zv w' B (O+1) (.slice (some ⟨gc,0,none⟩) nC c2)/\zv w' gc i (.pointer (some ⟨P.cb id,0,none⟩))) zU w3.drew:=⟨⟨p0,p1,p2,p4,p5⟩,trivial⟩
       refine wp_region_noPanic ?_;refine zG hSS 8 ?_;refine zT 0 hSS ?_;refine zT 1 hSS ?_;refine zT 2 hSS ?_;refine zT 3 hSS ?_;refine zT 4 hSS ?_;refine zT 5 hSS ?_;refine zT 6 hSS ?_;refine zT 7 hSS ?_;refine zp 8 fun K hK=>?_;have hne:∀b,OwnB (bldF P.cb W.heap.size vv vc acc) b->W.heap.size<=b/\b<wr.heap.size:=fun b ⟨q,hq⟩=>HRW.out.lt q b hq;have hBs:B<W.heap.size:=World.block_lt_of_cell? W _ H3.out;have hgs:gc<W.heap.size:=HGC.out;have had:Calls prog 104 [.pointer (some ⟨W.heap.size,0,none⟩),.agg #[.string vm,.int .u8 uk,.int .i64 un],.pointer (some ⟨P.cb id,0,none⟩)].toArray w3.drew fun e W'=>∃u,e=.returned u/\∃rG iU,Rws W' W.heap.size (bldF P.cb W.heap.size rG iU ⟨acc.vs++[⟨vm,uk,un⟩],acc.cs++[id],acc.loc⟩)/\Chg (OwnB (bldF P.cb W.heap.size vv vc acc)) w3.drew W' :=
        (zy3 (HW3.out.later zr.drew) (by rw[jU.out];omega) ⟨vm,uk,un⟩ id).mono fun e W' hh=>hh.1.elim fun u hu=>⟨u,hu,hh.2⟩
       refine zke (by rfl) (.func 104) [.tmp 7,.tmp 60,.tmp 67] _ (by rfl) 104 _ zzM (by rfl) _ (by rfl) _ had ?_;rintro v4 w4 ⟨rG,iU,hr4,hc4⟩;have HR4:=zh hr4;have ax:=zh (HB3.out.drew.trans (hc4.below (B:=W.heap.size) (by have:=HB3.out.size;simp;omega) fun b hb=>(hne b hb).1));have n1:¬ OwnB (bldF P.cb W.heap.size vv vc acc) wr.heap.size:=fun hb=>by have:=hne _ hb;omega
       have n2:¬ OwnB (bldF P.cb W.heap.size vv vc acc) B:=fun hb=>by have:=hne _ hb;omega
       have n3:¬ OwnB (bldF P.cb W.heap.size vv vc acc) gc:=fun hb=>by have:=hne _ hb;omega
       refine hK.out _ _ ⟨zkX hc4 p0 n1,zkX hc4 p1 n1,zkX hc4 p2 n1,zkX hc4 p4 n2,zkX hc4 p5 n3⟩ ?_;clear hK K hSS hr4 hc4 had;(try simp only[zQ]);refine zd ?_;refine NoPanic.normal ?_;clear p0 p1 p2 p4 p5;go_wp2_with fail
       go_roundw
       case rel=>exact⟨j+1,by omega,by go_num,ax,rG,iU,_,HR4,zh (by simp[jU.out]),HA0,by have h0:=HA0.out;rw[h0]at HR4 ⊢;exact HE2⟩
       case measure=>simp[intOf];omega
      ·have HX:=zh (show R=(7,S) by
        have h1:=HD2.out;rw[if_neg (by simp[hn])]at h1;rw[HE.out,<-h1];rfl)
       have n1:(un != vn)=true:=by simpa using hn
       clear HD2;go_wp2_with fail
       go_quiet (fail)
       go_wp2_with fail;go_ret;exact⟨by rw[HX.out];rfl,P,by rw[HX.out];exact SStp.refl HS.out (zkL HB2.out nq),rfl⟩
     ·have HX:=zh (show R=(7,S) by
       have h1:=HD2.out;rw[if_neg (by simp[hk])]at h1;rw[HE.out,<-h1];rfl)
      have n1:(uk != vk)=true:=by simpa using hk
      clear HD2;go_wp2_with fail
      go_quiet (fail)
      go_wp2_with fail;go_ret;exact⟨by rw[HX.out];rfl,P,by rw[HX.out];exact SStp.refl HS.out (zkL HB2.out nq),rfl⟩
   ·obtain rfl:j=ps.length:=by omega
    have Cy:=zh (show E=.ok acc by
     have h1:=zw.out;rw[List.drop_eq_nil_of_le (by rw[List.length_zip];omega)]at h1;rw[<-h1];rfl)
    have bT:=zh (HS.out.later af.out);obtain⟨AF,cF,oo,hcF,-⟩:=bT.out.calls;have x3:wr.cell? ⟨P.sb,3,none⟩=some (.slice AF S.calls.length cF):=by rw[<-oo];exact zc bT.out.box rfl
    have nz:=zh oo;obtain⟨L,hL⟩:=zX (S.calls.length);rw[hL]at x3 hn0;have gM:=zh hL;have hj2:¬ (ps.length:Int)<(ps.length:Int):=by omega
    clear oo hL hcF zw;by_cases h100:100<=L
    ·have HX:=zh (show R=(19,S) by rw[HE.out,Cy.out,entR,if_pos (by rw[gM.out];exact h100)]);obtain rfl:L=100:=by omega
     go_wp2_with fail;go_ret;exact⟨by rw[HX.out];rfl,P,by rw[HX.out];exact SStp.refl HS.out af.out,rfl⟩
    ·have HX:=zh (show R=(0,{ S with calls:=S.calls++[acc] }) by rw[HE.out,Cy.out,entR,if_neg (by rw[gM.out];exact h100)]);obtain⟨hwf,hg0,hgl⟩:=zxc HS.out.wf ps ss acc (fun v hv=>by
      obtain⟨q,hq,rfl⟩:=List.mem_iff_getElem.1 hv;obtain⟨_,_,_,_,xq⟩:=HP.out q hq;exact xq) hlp (vD.out.trans Cy.out) (by rw[gM.out];omega)
     have HW:=zh hwf;have HGL:=zh hgl;obtain⟨A1,c1,hvv,-,-⟩:=zkg (HRW.out.row 1);obtain⟨A2,c2,dw,-,-⟩:=zkg (HRW.out.row 2);change vv=.slice A1 acc.vs.length c1 at hvv;change vc=.slice A2 acc.vs.length c2 at dw;obtain⟨nv,kK⟩:=zX (acc.vs.length);rw[kK]at hvv dw;subst hvv dw;have b0:wr.cell? ⟨W.heap.size,0,none⟩=some (.slice A1 nv c1):=HRW.out.cell 0 rfl rfl;have b1:wr.cell? ⟨W.heap.size,1,none⟩=some (.slice A2 nv c2):=HRW.out.cell 0 rfl rfl;have b2:wr.cell? ⟨W.heap.size,2,none⟩=some (.int .i64 0):=by
      have:=HRW.out.cell 0 (g:=W.heap.size) (o:=2) (u:=.int .i64 acc.loc) rfl rfl;rw[hg0]at this;exact this
     have hsbl:P.sb<W.heap.size:=(HS.out.rws.lt .sb P.sb rfl).2;have hn00:n0<=W.heap.size:=by have:=HS.out.rws.lt .sb P.sb rfl;omega
     have hL1:¬ (100:Int)<=(L:Int):=by omega
     have aW:=zh (fun W2 w3 hb2 v' h2 h3 h5=>zuK (W2:=W2) (w3:=w3) HS.out af.out W.heap.size _ _ acc HRW.out hg0 hgl hwf hb2 v' h2 h3 h5);obtain⟨i1,hi1,hz0,hz1,hz2⟩:=info_parts zzD;have hbs:=zw2;clear hwf hgl kK;go_upto_region 19 with fail;have hSS:(fun w':World=>zN3 w' W.heap.size (.slice A1 nv c1) (.slice A2 nv c2) (.int .i64 0)) wr.drew/\(fun w':World=>zv w' P.sb 3 (.slice AF L cF)) wr.drew:=⟨⟨b0,b1,b2⟩,x3⟩
     refine wp_region_noPanic ?_;refine zkk (fun w':World=>zN3 w' W.heap.size (.slice A1 nv c1) (.slice A2 nv c2) (.int .i64 0)) (fun w':World=>zv w' P.sb 3 (.slice AF L cF)) 7 (by kernel_rfl) ?_;refine zT 0 hSS ?_;refine zT 1 hSS ?_;refine zT 2 hSS ?_;refine zT 3 hSS ?_;refine zJ 4 hSS ?_;refine zT 5 hSS ?_;refine zo 6 fun K hK=>?_;(try simp only[zA,zB,zC]);go_simp;refine hK.out _ _ ⟨⟨zkj b0 _,zkj b1 _,zkj b2 _⟩,zkj x3 _⟩ ?_;clear hK K hSS;(try simp only[zQ]);obtain⟨W2,hW2⟩:=zX ((wr.alloc (.cells #[.slice A1 nv c1,.slice A2 nv c2,.int .i64 0] 164)).drew);have hb2:Below wr.heap.size wr W2:=hW2▸(zkb zr _).drew;have aG:=zh (show ∀j u,[Value.slice A1 nv c1,.slice A2 nv c2,.int .i64 0][j]?=some u->W2.cell? ((⟨wr.heap.size,0,none⟩:Addr).add j)=some u from hW2▸zkR wr 164 [.slice A1 nv c1,.slice A2 nv c2,.int .i64 0])
     have wX:W2.ownsRow n0 164 3 (.slice AF L cF) L (zkS P 0 S.calls):=by
      have:=zkJ (bT.out.rws.row .calls) hb2;have e1:(rows P S .calls).v=.slice AF L cF:=by show P.vF=_;rw[nz.out,gM.out]
      rw[e1]at this;rw[<-gM.out]at this ⊢;exact this
     have hs2:=hb2.size;have AU:=af.out.size;have d0:=zb hb2 b0;have d1:=zb hb2 b1;have d2:=zb hb2 b2;have vB:=zh (fun w3 v'=>aW.out W2 w3 hb2 v');have rT:P.vF=.slice AF L cF:=by rw[nz.out,gM.out]
     have aS:=zh (show ∀b,(Value.slice AF L cF).ownBlock=some b->b≠W.heap.size from fun b hb e=>by
      have:=(HS.out.rws.lt .calls b (by show P.vF.ownBlock=_;rw[rT];exact hb)).2;omega)
     rw[gM.out,rT]at vB;rw[hW2];clear hW2 b0 b1 b2 x3 hb2 aW rT;refine zp 7 fun K hK=>?_;refine zkT (by rfl) (.tmp 80) (.tmp 82) 165 (by rfl) n0 164 i1 _ 3 56 underlying165 hi1 hz0 hz1 hz2 rfl (by decide) (.slice AF L cF) L (zkS P 0 S.calls) (by rfl) wX ⟨wr.heap.size,0,none⟩ 1 1 [.slice A1 nv c1,.slice A2 nv c2,.int .i64 0] (by rfl) rfl aG.out (by intro u hu;simp at hu;rcases hu with rfl|rfl|rfl<;>rfl) (by unfold maxLen;omega) (by omega) (by omega) ?_;intro v' w3 h2 h3 h5;obtain⟨g8,aA,rfl⟩:=ownsRow_succ h2;obtain⟨z0,zf,hfin⟩:=vB.out w3 _ h2 h3 h5;have jh:∀i u,W2.cell? ⟨W.heap.size,i,none⟩=some u->w3.cell? ⟨W.heap.size,i,none⟩=some u:=fun i u hu=>(World.cell?_of_block (a:=⟨W.heap.size,i,none⟩) (h3.block _ (World.block_lt_of_cell? W2 _ hu) (fun e=>aS.out _ e.symm rfl))).trans hu
     have HY:=zh (show(fun w':World=>zN3 w' W.heap.size (.slice A1 nv c1) (.slice A2 nv c2) (.int .i64 0)) w3 from⟨jh _ _ d0,jh _ _ d1,jh _ _ d2⟩);have xK:=zh (show(fun w':World=>zN3 w' W.heap.size (.slice A1 nv c1) (.slice A2 nv c2) (.int .i64 0)) (w3.setCell ⟨P.sb,3,none⟩ (.slice (some ⟨g8,0,none⟩) (L+1) aA))from by
      have key:∀i u,w3.cell? ⟨W.heap.size,i,none⟩=some u->(w3.setCell ⟨P.sb,3,none⟩ (.slice (some ⟨g8,0,none⟩) (L+1) aA)).cell? ⟨W.heap.size,i,none⟩=some u:=fun i u hu=>(World.cell?_of_block (a:=⟨W.heap.size,i,none⟩) (Below.heap_setCell _ _ _ _ (show P.sb≠W.heap.size by omega).symm)).trans hu;exact⟨key _ _ (jh _ _ d0),key _ _ (jh _ _ d1),key _ _ (jh _ _ d2)⟩)
     have qY:=zh hfin;refine hK.out _ _ HY.out ?_;clear hK K h2 h3 h5 hfin d0 d1 d2 wX aG vB jh;(try simp only[zQ]);refine zp 8 fun K hK=>?_;(try simp only[zA,zB,zC]);go_simp;refine hK.out _ _ HY.out ?_;clear hK K;(try simp only[zQ]);refine zp 9 fun K hK=>?_;(try simp only[zA,zB,zC]);go_simp;refine hK.out _ _ HY.out ?_;clear hK K;(try simp only[zQ]);refine zp 10 fun K hK=>?_;(try simp only[zA,zB,zC]);go_simp;refine hK.out _ _ xK.out ?_;clear hK K;(try simp only[zQ]);refine zd ?_;refine NoPanic.normal ?_;clear HY xK z0 zf;go_wp2_with fail;go_ret;refine⟨by rw[HX.out];rfl,P.enter L (.slice (some ⟨g8,0,none⟩) (L+1) aA) (.slice A1 nv c1) (.slice A2 nv c2),?_,rfl⟩;rw[HX.out];exact qY.out
 ·have HX:=zh (show R=(7,S) by rw[<-HRR.out,zl8,if_pos (by simpa using hlen)]);have e1:((ps.length:Int)==(ss.length:Int))=false:=by simp;omega
  have e2:((ps.length:Int) != (ss.length:Int))=true:=by simp;omega
  go_enter func158,ntmps158;go_wp2_with fail;go_ret;exact⟨by rw[HX.out];rfl,P,by rw[HX.out];exact SStp.refl HS.out zr,rfl⟩
theorem znD(xs ys:List Int)(A B:Option Addr)(c d:Nat)(w:World)(hx:RowI w Any A xs)(hy:RowI w Any B ys)(hl:xs.length<=17592186044416)(hm:ys.length<=17592186044416) :
  Calls prog 33 #[.slice A xs.length c,.slice B ys.length d] w fun e w'=>e=.returned (.bool (decide (xs=ys)))/\Below w.heap.size w w':=by
 obtain⟨R,hR⟩:=zX (decide (xs=ys));rw[hR];have HR:=zh hR;have HX:=zh hx;have HY:=zh hy;clear hR hx hy;by_cases hlen:xs.length=ys.length
 ·have HL:=zh hlen;rw[<-hlen];clear hlen;go_enter func33,ntmps33;go_wp2_with fail
  go_loopw [5,13] (fun _ i wr=>∃j:Nat,j<=xs.length/\i=.int .i64 j/\Below w.heap.size w wr/\Hid (xs.take j=ys.take j)) (fun _ i _=>xs.length-(intOf i).toNat)
  case atStart=>exact⟨0,Nat.zero_le _,rfl,zr,zh rfl⟩
  case round =>
   obtain⟨j,hj,rfl,hbl,HJ⟩:=hrel;have af:=zh hbl;by_cases hlt:j<xs.length
   ·have hlt2:j<ys.length:=by rw[<-HL.out];exact hlt
    obtain⟨a,rfl,h1⟩:=(HX.out.later hbl).nd hlt;obtain⟨b,rfl,h2⟩:=(HY.out.later hbl).nd hlt2;obtain⟨x,hx⟩:=zX (xs.getD j 0);obtain⟨y,hy⟩:=zX (ys.getD j 0);rw[hx]at h1;rw[hy]at h2;have hx':xs[j]=x:=by rw[<-hx];simp[hlt]
    have hy':ys[j]=y:=by rw[<-hy];simp[hlt2]
    have HS:=zh (show(fun w':World=>w'.cell? (a.add j)=some (.int .i64 x)/\w'.cell? (b.add j)=some (.int .i64 y)) wr.drew from⟨h1,h2⟩);have hj1:(j:Int)<(xs.length:Int):=by omega
    have HXJ:=zh hx';have HYJ:=zh hy';clear hbl hx hy hx' hy' h1 h2;go_upto_region 6 with fail
    go_region_held3 (fun w':World=>w'.cell? (a.add j)=some (.int .i64 x)/\w'.cell? (b.add j)=some (.int .i64 y))
     (with_reducible exact HS.out)
     (first|fail)
    by_cases hxy:x=y
    ·subst hxy;have HJ2:Hid (xs.take (j+1)=ys.take (j+1)):=zh (by rw[List.take_succ_eq_append_getElem hlt,List.take_succ_eq_append_getElem hlt2,HJ.out,HXJ.out,HYJ.out]);go_wp2_with fail
     go_roundw
     case rel=>exact⟨j+1,by omega,by go_num,af.out.drew,HJ2⟩
     case measure=>simp[intOf];omega
    ·have e1:(x==y)=false:=by simpa using hxy
     have e2:(x != y)=true:=by simpa using hxy
     have HF:=zh (show R=false by rw[<-HR.out];exact decide_eq_false fun h=>hxy (by subst h;rw[<-HXJ.out,<-HYJ.out]));clear hxy;go_wp2_with fail;go_ret;exact⟨by rw[HF.out];rfl,af.out.drew⟩
   ·obtain rfl:j=xs.length:=by omega
    have HF:=zh (show R=true by
     have h1:=HJ.out;rw[List.take_of_length_le zl,List.take_of_length_le (by rw[HL.out];exact zl)]at h1;rw[<-HR.out];exact decide_eq_true h1)
    clear hbl;go_wp2_with fail;go_ret;exact⟨by rw[HF.out];rfl,af.out⟩
 ·have HF:=zh (show R=false by rw[<-HR.out];exact decide_eq_false fun h=>hlen (by rw[h]));have e1:((xs.length:Int)==(ys.length:Int))=false:=by simp;omega
  have e2:((xs.length:Int) != (ys.length:Int))=true:=by simp;omega
  go_enter func33,ntmps33;go_wp2_with fail;go_ret;exact⟨by rw[HF.out];rfl,zr⟩
def znh(w:World)(S:Nat->Prop)(A:Option Addr)(ls:List (List Int)):Prop :=
 ∀i (hi:i<ls.length),∃(a:Addr) (A':Option Addr) (c':Nat),A=some a/\S a.block/\w.cell? (a.add i)=some (.slice A' ls[i].length c')/\ls[i].length<=c'/\RowI w S A' ls[i]
structure SS where
 cells:List (List Int)
 tin:List Int
 tout:List Int
def SS.Lim(s:SS):Prop:=s.cells.length<=LI/\(∀l∈s.cells,l.length<=LI)/\s.tin.length<=LI/\s.tout.length<=LI
def SV(w:World)(S:Nat->Prop)(s:SS)(v:Value):Prop :=
 ∃A c B d D e,v=.agg #[.slice A s.cells.length c,.slice B s.tin.length d,.slice D s.tout.length e]/\znh w S A s.cells/\RowI w S B s.tin/\RowI w S D s.tout/\s.cells.length<=c/\s.tin.length<=d/\s.tout.length<=e/\s.Lim
section
variable {w w':World} {S S':Nat->Prop} {A:Option Addr} {ls:List (List Int)}
theorem znh.keep(h:znh w S A ls)(hS:∀b,S b->b<w.heap.size->S' b)(hk:∀b,S b->b<w.heap.size->w'.heap[b]?=w.heap[b]?):znh w' S' A ls:=fun i hi=>by
 obtain⟨a,A',c',hA,iF,h0,hc,hr⟩:=h i hi;have hlt:a.block<w.heap.size:=by have:=World.block_lt_of_cell? w _ h0;rwa[zkE]at this
 refine⟨a,A',c',hA,hS _ iF hlt,zkM h0 ?_,hc,hr.keep hS hk⟩;simp only[zkE];exact hk _ iF hlt
theorem znh.later(h:znh w S A ls)(hb:Below w.heap.size w w'):znh w' S A ls:=h.keep (fun _ h _=>h) fun b _ hlt=>hb.block b hlt
theorem SV.keep{s:SS}{v:Value}(h:SV w S s v)(hS:∀b,S b->b<w.heap.size->S' b)(hk:∀b,S b->b<w.heap.size->w'.heap[b]?=w.heap[b]?):SV w' S' s v:=by
 obtain⟨A,c,B,d,D,e,rfl,h1,h2,h3,h4⟩:=h;exact⟨A,c,B,d,D,e,rfl,h1.keep hS hk,h2.keep hS hk,h3.keep hS hk,h4⟩
theorem SV.later{s:SS}{v:Value}(h:SV w S s v)(hb:Below w.heap.size w w'):SV w' S s v:=h.keep (fun _ h _=>h) fun b _ hlt=>hb.block b hlt
theorem znh.nd(h:znh w Any A ls){i:Nat}(hi:i<ls.length):∃(a:Addr) (l:List Int) (A':Option Addr) (c':Nat),A=some a/\Hid (ls[i]=l)/\w.cell? (a.add i)=some (.slice A' l.length c')/\l.length<=c'/\RowI w Any A' l :=
 let ⟨a,A',c',h1,_,h3,h4,h5⟩:=h i hi;⟨a,ls[i],A',c',h1,rfl,h3,h4,h5⟩
end
theorem zoS(xs ys:List (List Int))(A B:Option Addr)(c d:Nat)(w:World)(hx:znh w Any A xs)(hy:znh w Any B ys)(hl:xs.length<=17592186044416)(hm:ys.length<=17592186044416)(hbx:∀l∈xs,l.length<=17592186044416)(hby:∀l∈ys,l.length<=17592186044416) :
  Calls prog 32 #[.slice A xs.length c,.slice B ys.length d,.func (.func 33) #[] #[]] w fun e w'=>e=.returned (.bool (decide (xs=ys)))/\Below w.heap.size w w':=by
 obtain⟨R,hR⟩:=zX (decide (xs=ys));rw[hR];have HR:=zh hR;have HX:=zh hx;have HY:=zh hy;have aS:=zh hbx;have HBY:=zh hby;clear hR hx hy hbx hby;by_cases hlen:xs.length=ys.length
 ·have HL:=zh hlen;rw[<-hlen];clear hlen;go_enter func32,ntmps32;go_wp2_with fail
  go_loopw [17] (fun i wr=>∃j:Nat,j<=xs.length/\i=.int .i64 j/\Below w.heap.size w wr/\Hid (xs.take j=ys.take j)) (fun i _=>xs.length-(intOf i).toNat)
  case atStart=>exact⟨0,Nat.zero_le _,rfl,zr,zh rfl⟩
  case round =>
   obtain⟨j,hj,rfl,hbl,HJ⟩:=hrel;have af:=zh hbl;by_cases hlt:j<xs.length
   ·have hlt2:j<ys.length:=by rw[<-HL.out];exact hlt
    obtain⟨a,x,A1,c1,rfl,Hx,h1,_,hr1⟩:=(HX.out.later hbl).nd hlt;obtain⟨b,y,B1,d1,rfl,Hy,h2,_,hr2⟩:=(HY.out.later hbl).nd hlt2;have hlx:x.length<=17592186044416:=by rw[<-Hx.out];exact aS.out _ (List.getElem_mem hlt)
    have hly:y.length<=17592186044416:=by rw[<-Hy.out];exact HBY.out _ (List.getElem_mem hlt2)
    obtain⟨b0,hb0⟩:=zX (decide (x=y));have HCA:=zh (hb0▸znD x y A1 B1 c1 d1 wr hr1 hr2 hlx hly);have HB0:=zh hb0;have hj1:(j:Int)<(xs.length:Int):=by omega
    clear hbl hr1 hr2 hb0;go_wp2_with fail;refine HCA.out.mono ?_;rintro e w2 ⟨rfl,ah⟩;have HB2:=zh (zka af.out ah);clear ah h1 h2
    cases b0
    ·have HF:=zh (show R=false by
      rw[<-HR.out];refine decide_eq_false fun h=>of_decide_eq_false HB0.out ?_;subst h;rw[<-Hx.out,<-Hy.out])
     go_wp2_with fail;go_ret;exact⟨by rw[HF.out];rfl,HB2.out⟩
    ·have HJ2:Hid (xs.take (j+1)=ys.take (j+1)):=zh (by rw[List.take_succ_eq_append_getElem hlt,List.take_succ_eq_append_getElem hlt2,HJ.out,Hx.out,Hy.out,of_decide_eq_true HB0.out]);go_wp2_with fail
     go_roundw
     case rel=>exact⟨j+1,by omega,by go_num,HB2.out,HJ2⟩
     case measure=>simp[intOf];omega
   ·obtain rfl:j=xs.length:=by omega
    have HF:=zh (show R=true by
     have h1:=HJ.out;rw[List.take_of_length_le zl,List.take_of_length_le (by rw[HL.out];exact zl)]at h1;rw[<-HR.out];exact decide_eq_true h1)
    clear hbl;go_wp2_with fail;go_ret;exact⟨by rw[HF.out];rfl,af.out⟩
 ·have HF:=zh (show R=false by rw[<-HR.out];exact decide_eq_false fun h=>hlen (by rw[h]));have e1:((xs.length:Int)==(ys.length:Int))=false:=by simp;omega
  have e2:((xs.length:Int) != (ys.length:Int))=true:=by simp;omega
  go_enter func32,ntmps32;go_wp2_with fail;go_ret;exact⟨by rw[HF.out];rfl,zr⟩
def eqS(s t:SS):Bool:=decide (s.cells=t.cells)&&decide (s.tin=t.tin)&&decide (s.tout=t.tout)
theorem zvd(s t:SS)(v1 v2:Value)(w:World)(h1:SV w Any s v1)(h2:SV w Any t v2):Calls prog 14 #[v1,v2] w fun e w'=>e=.returned (.bool (eqS s t))/\Below w.heap.size w w':=by
 obtain⟨A,c,B,d,D,e,rfl,hr1,hr2,hr3,-,-,-,hs⟩:=h1;obtain⟨A',c',B',d',D',e',rfl,hq1,hq2,hq3,-,-,-,ht⟩:=h2;obtain⟨b1,hb1⟩:=zX (decide (s.cells=t.cells));obtain⟨b2,hb2⟩:=zX (decide (s.tin=t.tin));obtain⟨b3,hb3⟩:=zX (decide (s.tout=t.tout));have hR:eqS s t=(b1&&b2&&b3):=by rw[<-hb1,<-hb2,<-hb3];rfl
 obtain⟨R,hRR⟩:=zX (eqS s t);have HRR:=zh (show R=(b1&&b2&&b3) by rw[<-hRR];exact hR);rw[hRR];have H1:=zh (show ∀w',Below w.heap.size w w'->Calls prog 32 #[.slice A s.cells.length c,.slice A' t.cells.length c',.func (.func 33) #[] #[]] w' fun e w''=>e=.returned (.bool b1)/\Below w'.heap.size w' w'' from fun w' hb=>hb1▸zoS s.cells t.cells A A' c c' w' (hr1.later hb) (hq1.later hb) hs.1 ht.1 hs.2.1 ht.2.1);have H2:=zh (show ∀w',Below w.heap.size w w'->Calls prog 33 #[.slice B s.tin.length d,.slice B' t.tin.length d'] w' fun e w''=>e=.returned (.bool b2)/\Below w'.heap.size w' w'' from fun w' hb=>hb2▸znD s.tin t.tin B B' d d' w' (hr2.later hb) (hq2.later hb) hs.2.2.1 ht.2.2.1)
 have H3:=zh (show ∀w',Below w.heap.size w w'->Calls prog 33 #[.slice D s.tout.length e,.slice D' t.tout.length e'] w' fun e w''=>e=.returned (.bool b3)/\Below w'.heap.size w' w'' from fun w' hb=>hb3▸znD s.tout t.tout D D' e e' w' (hr3.later hb) (hq3.later hb) hs.2.2.2 ht.2.2.2);generalize s.cells.length=l1,s.tin.length=l2,s.tout.length=l3,t.cells.length=m1,t.tin.length=m2,t.tout.length=m3 at *
 clear hr1 hr2 hr3 hq1 hq2 hq3 hs ht hb1 hb2 hb3 hR hRR;go_enter func14,ntmps14;go_wp2_with fail;have q0:Below w.heap.size w ((w.alloc (.cells #[.slice A l1 c,.slice B l2 d,.slice D l3 e] 44)).alloc (.cells #[.slice A' m1 c',.slice B' m2 d',.slice D' m3 e'] 44)):=zkb (zkb zr _) _;have hP:=zkd (heap_alloc_new w (.cells #[.slice A l1 c,.slice B l2 d,.slice D l3 e] 44)) (.cells #[.slice A' m1 c',.slice B' m2 d',.slice D' m3 e'] 44);have hQ:=heap_alloc_new (w.alloc (.cells #[.slice A l1 c,.slice B l2 d,.slice D l3 e] 44)) (.cells #[.slice A' m1 c',.slice B' m2 d',.slice D' m3 e'] 44);simp only[World.size_alloc]at hQ;refine(H1.out _ q0).mono ?_;rintro e9 w1 ⟨rfl,aa⟩;have q1:=zka q0 aa;have hP1:=zkc hP aa;have vW:=zkc hQ aa;have x1:w1.cell? ⟨w.heap.size,1,none⟩=some (.slice B l2 d):=zc hP1 rfl;have x2:w1.cell? ⟨w.heap.size,2,none⟩=some (.slice D l3 e):=zc hP1 rfl
 have y1:w1.cell? ⟨w.heap.size+1,1,none⟩=some (.slice B' m2 d'):=zc vW rfl;have y2:w1.cell? ⟨w.heap.size+1,2,none⟩=some (.slice D' m3 e'):=zc vW rfl;clear hP hQ hP1 vW q0 aa
 cases b1
 ·have HX:=zh (show R=false by rw[HRR.out];rfl);go_wp2_with fail;go_ret;exact⟨by rw[HX.out];rfl,q1⟩
 ·go_wp2_with fail;refine(H2.out _ q1).mono ?_;rintro e9 w2 ⟨rfl,ah⟩;have q2:=zka q1 ah;have z2:=zb ah x2;have u2:=zb ah y2;clear ah x1 x2 y1 y2
  cases b2
  ·have HX:=zh (show R=false by rw[HRR.out];rfl);go_wp2_with fail;go_ret;exact⟨by rw[HX.out];rfl,q2⟩
  ·go_wp2_with fail;refine(H3.out _ q2).mono ?_;rintro e9 w3 ⟨rfl,aN⟩;have q3:=zka q2 aN;have HX:=zh (show R=b3 by rw[HRR.out];simp);clear aN z2 u2;go_wp2_with fail;go_ret;exact⟨by rw[HX.out];rfl,q3⟩
def vdB(v:VD):Bool:=if v.k=1\/v.k=3 then v.n==0 else if v.k=2 then decide (1<=v.n/\v.n<=16)else false
def svB(vs:List VD):Bool:=decide (vs.length<=32)&&vs.all vdB
def fixE(v:VD):Int:=if v.k=1 then 1 else v.n
theorem zqA(v:VD)(w:World):Calls prog 79 #[.agg #[.string v.s,.int .u8 v.k,.int .i64 v.n]] w fun e w'=>e=.returned (.int .i64 (fixE v))/\Below w.heap.size w w':=by
 obtain⟨s,k,n⟩:=v;dsimp only;by_cases h:k=1
 ·subst h;go_enter func79,ntmps79;go_wp2_with fail;go_ret;exact⟨rfl,zkb zr _⟩
 ·have e1:(k==1)=false:=by simpa using h
  have HX:=zh (show fixE ⟨s,k,n⟩=n by simp[fixE,h]);obtain⟨R,hR⟩:=zX (fixE ⟨s,k,n⟩);rw[hR]at HX ⊢;clear h hR;go_enter func79,ntmps79;go_wp2_with fail;go_ret;exact⟨by rw[HX.out];rfl,zkb zr _⟩
theorem zoY(vs:List VD)(A:Option Addr)(c:Nat)(w:World)(hrow:RowV w Any A vs)(hl:vs.length<=LV):Calls prog 78 #[.slice A vs.length c] w fun e w'=>e=.returned (.bool (svB vs))/\Below w.heap.size w w':=by
 have hl':=zkW hl;obtain⟨R,hR⟩:=zX (svB vs);rw[hR];have HR:=zh hR;have ae:=zh hrow;clear hR hrow hl;by_cases h32:vs.length<=32
 ·have HN:=zh (show R=vs.all vdB by rw[<-HR.out,svB,decide_eq_true h32];rfl);clear HR;go_enter func78,ntmps78;go_wp2_with fail
  go_loopw [10] (fun i wr=>∃j:Nat,j<=vs.length/\i=.int .i64 j/\Below w.heap.size w wr/\Hid ((vs.take j).all vdB=true)) (fun i _=>vs.length-(intOf i).toNat)
  case atStart=>exact⟨0,Nat.zero_le _,rfl,zr,zh rfl⟩
  case round =>
   obtain⟨j,hj,rfl,hbl,HJ⟩:=hrel;have af:=zh hbl;by_cases hlt:j<vs.length
   ·obtain⟨a,rfl,-,⟨y0,y1,y2⟩,-⟩:=(ae.out.later hbl) j hlt;obtain⟨v,hv⟩:=zX (vs[j]);rw[hv]at y0 y1 y2;obtain⟨vm,vk,vn⟩:=v;have Hv:=zh hv;have eT:=zh (show vdB ⟨vm,vk,vn⟩=true->(vs.take (j+1)).all vdB=true from fun h=>by rw[List.take_succ_eq_append_getElem hlt,List.all_append,HJ.out,hv];simp[h]);have bW:=zh (show vdB ⟨vm,vk,vn⟩=false->R=false from fun h=>by
     rw[HN.out];exact Bool.eq_false_iff.2 fun h'=>by
      have:=List.all_eq_true.1 h' _ (List.getElem_mem hlt);rw[hv,h]at this
      cases this)
    dsimp only at y0 y1 y2;clear hbl hv;have hb0:∀b,vdB ⟨vm,vk,vn⟩=b->True:=fun _ _=>trivial;by_cases k13:vk=1\/vk=3
    ·by_cases hn:vn=0
     ·have HJ2:=zh (eT.out (by simp[vdB,k13,hn]));subst hn;clear eT bW hb0;rcases k13 with rfl|rfl
      all_goals
       go_wp2_with fail
       go_roundw
       case rel=>exact⟨j+1,by omega,by go_num,zkb af.out _,HJ2⟩
       case measure=>simp[intOf];omega
     ·have HX:=zh (bW.out (by simp[vdB,k13,hn]));have e1:(vn==0)=false:=by simpa using hn
      have e2:(vn != 0)=true:=by simpa using hn
      clear eT bW hb0 hn;rcases k13 with rfl|rfl
      all_goals
       go_wp2_with fail;go_ret;exact⟨by rw[HX.out];rfl,zkb af.out _⟩
    ·by_cases k2:vk=2
     ·subst k2;by_cases h1:vn<1
      ·have HX:=zh (bW.out (by simp[vdB];omega));clear eT bW hb0 k13;go_wp2_with fail;go_ret;exact⟨by rw[HX.out];rfl,zkb af.out _⟩
      ·by_cases h16:16<vn
       ·have HX:=zh (bW.out (by simp[vdB];omega));clear eT bW hb0 k13;go_wp2_with fail;go_ret;exact⟨by rw[HX.out];rfl,zkb af.out _⟩
       ·have HJ2:=zh (eT.out (by simp[vdB];omega));clear eT bW hb0 k13;go_wp2_with fail
        go_roundw
        case rel=>exact⟨j+1,by omega,by go_num,zkb af.out _,HJ2⟩
        case measure=>simp[intOf];omega
     ·have HX:=zh (bW.out (by simp[vdB,k13,k2]));have x1:(vk==1)=false:=by simp;omega
      have x2:(vk==2)=false:=by simp;omega
      have x3:(vk==3)=false:=by simp;omega
      clear eT bW hb0 k13 k2;go_wp2_with fail;go_ret;exact⟨by rw[HX.out];rfl,zkb af.out _⟩
   ·obtain rfl:j=vs.length:=by omega
    have HX:=zh (show R=true by
     have:=HJ.out;rw[List.take_of_length_le zl]at this;rw[HN.out];exact this)
    clear hbl;go_wp2_with fail;go_ret;exact⟨by rw[HX.out];rfl,af.out⟩
 ·have HX:=zh (show R=false by rw[<-HR.out,svB,decide_eq_false h32];rfl);have h33:(32:Int)<(vs.length:Int):=by omega
  clear h32;go_enter func78,ntmps78;go_wp2_with fail;go_ret;exact⟨by rw[HX.out];rfl,zr⟩
def fit1(v:VD)(l:List Int):Bool:=if v.k=3 then decide (l.length<=1000)else decide ((l.length:Int)=fixE v)
def zmz:List VD->List (List Int)->Bool
 | v::vs,l::ls=>fit1 v l&&zmz vs ls
 | _,_=>true
def fitB(vs:List VD)(s:SS):Bool:=svB vs&&decide (s.cells.length=vs.length)&&decide (s.tin.length<=4096)&&decide (s.tout.length<=4096)&&zmz vs s.cells
theorem zpf:∀ {vs:List VD} {ls:List (List Int)} {j:Nat} (h:j<vs.length) (h':j<ls.length),zmz (vs.take (j+1)) (ls.take (j+1))=(zmz (vs.take j) (ls.take j)&&fit1 vs[j] ls[j])
 | v::vs,l::ls,0,_,_=>by simp[zmz]
 | v::vs,l::ls,j+1,h,h'=>by
  have:=zpf (vs:=vs) (ls:=ls) (j:=j) (by simpa using h) (by simpa using h');simp only[List.take,zmz,List.getElem_cons_succ]at this ⊢;rw[this,Bool.and_assoc]
theorem zsc:∀ {vs:List VD} {ls:List (List Int)} {j:Nat} (h:j<vs.length) (h':j<ls.length),fit1 vs[j] ls[j]=false->zmz vs ls=false
 | v::vs,l::ls,0,_,_,h=>by simp only[zmz,List.getElem_cons_zero]at *;simp[h]
 | v::vs,l::ls,j+1,h,h',h0=>by
  have:=zsc (vs:=vs) (ls:=ls) (j:=j) (by simpa using h) (by simpa using h') (by simpa using h0);simp[zmz,this]
theorem zso(vs:List VD)(s:SS)(A0:Option Addr)(c0:Nat)(v:Value)(w:World)(hrow:RowV w Any A0 vs)(hl:vs.length<=LV)(hv:SV w Any s v):Calls prog 43 #[.slice A0 vs.length c0,v] w fun e w'=>e=.returned (.bool (fitB vs s))/\Below w.heap.size w w':=by
 obtain⟨A,c,B,d,D,e,rfl,hr1,hr2,hr3,hc1,hc2,hc3,hl1,hl2,hl3,hl4⟩:=hv;have hl':=zkW hl;have sI:=zpr hl1;have hl3':=zpr hl3;have hl4':=zpr hl4;obtain⟨R,hR⟩:=zX (fitB vs s);rw[hR];have HR:=zh hR;have ae:=zh hrow;have HR1:=zh hr1;have HL2:=zh hl2;obtain⟨b0,hb0⟩:=zX (svB vs);have HV:=zh (show ∀w',Below w.heap.size w w'->Calls prog 78 #[.slice A0 vs.length c0] w' fun e w''=>e=.returned (.bool b0)/\Below w'.heap.size w' w'' from fun w' hb=>hb0▸zoY vs A0 c0 w' (hrow.later hb) hl);have HB0:=zh hb0;obtain⟨n1,hn1⟩:=zX (s.cells.length);obtain⟨n2,hn2⟩:=zX (s.tin.length);obtain⟨n3,dB⟩:=zX (s.tout.length);have fE:=zh hn1;have HN:=zh (show R=(b0&&decide (n1=vs.length)&&decide (n2<=4096)&&decide (n3<=4096)&&zmz vs s.cells) by rw[<-hR,<-hb0,<-hn1,<-hn2,<-dB];rfl);rw[hn1,hn2,dB];rw[hn1]at sI;rw[hn2]at hl3';rw[dB]at hl4'
 clear hR hrow hr1 hr2 hr3 hc1 hc2 hc3 hl1 hl2 hl3 hl4 hl hb0 hn1 hn2 dB HR;go_enter func43,ntmps43;go_wp2_with fail;refine(HV.out _ (zkb zr _)).mono ?_;rintro e9 w1 ⟨rfl,aa⟩;have q1:=zka (zkb (zs w) _) aa;have hP:=zkc (heap_alloc_new w (.cells #[.slice A n1 c,.slice B n2 d,.slice D n3 e] 44)) aa;have x0:w1.cell? ⟨w.heap.size,0,none⟩=some (.slice A n1 c):=zc hP rfl;have x1:w1.cell? ⟨w.heap.size,1,none⟩=some (.slice B n2 d):=zc hP rfl;have x2:w1.cell? ⟨w.heap.size,2,none⟩=some (.slice D n3 e):=zc hP rfl;have HP:=zh hP;have bL:=zh q1;clear hP q1 aa
 cases b0
 ·have HX:=zh (show R=false by rw[HN.out];simp);clear HN;go_wp2_with fail;go_ret;exact⟨by rw[HX.out];rfl,bL.out⟩
 by_cases k1:n1=vs.length
 case neg =>
  have HX:=zh (show R=false by rw[HN.out];simp[k1]);have e1:((n1:Int)==(vs.length:Int))=false:=by simp;omega
  have e2:((n1:Int) != (vs.length:Int))=true:=by simp;omega
  clear HN k1;go_wp2_with fail;go_ret;exact⟨by rw[HX.out];rfl,bL.out⟩
 by_cases k2:n2<=4096
 case neg =>
  have HX:=zh (show R=false by rw[HN.out];simp[k2]);have e1:((n1:Int)==(vs.length:Int))=true:=by simp;omega
  have e2:((n1:Int) != (vs.length:Int))=false:=by simp;omega
  have e3:(4096:Int)<(n2:Int):=by omega
  clear HN k1 k2;go_wp2_with fail;go_ret;exact⟨by rw[HX.out];rfl,bL.out⟩
 by_cases k3:n3<=4096
 case neg =>
  have HX:=zh (show R=false by rw[HN.out];simp[k3]);have e1:((n1:Int)==(vs.length:Int))=true:=by simp;omega
  have e2:((n1:Int) != (vs.length:Int))=false:=by simp;omega
  have e3:¬ (4096:Int)<(n2:Int):=by omega
  have e4:(4096:Int)<(n3:Int):=by omega
  clear HN k1 k2 k3;go_wp2_with fail;go_ret;exact⟨by rw[HX.out];rfl,bL.out⟩
 subst k1;have HX:=zh (show R=zmz vs s.cells by rw[HN.out];simp[k2,k3]);have e3:¬ (4096:Int)<(n2:Int):=by omega
 have e4:¬ (4096:Int)<(n3:Int):=by omega
 clear HN k2 k3 HV;go_wp2_with fail;clear x0 x1 x2
 go_loopw [32] (fun i wr=>∃j:Nat,j<=vs.length/\i=.int .i64 j/\Below w.heap.size w wr/\wr.heap[w.heap.size]?=some (.cells #[.slice A vs.length c,.slice B n2 d,.slice D n3 e] 44 (0,0))/\Hid (zmz (vs.take j) (s.cells.take j)=true)) (fun i _=>vs.length-(intOf i).toNat)
 case atStart=>exact⟨0,Nat.zero_le _,rfl,bL.out,HP.out,zh (by simp[zmz])⟩
 case round =>
  obtain⟨j,hj,rfl,hbl,hbx,HJ⟩:=hrel;have af:=zh hbl;have aS:=zh hbx;by_cases hlt:j<vs.length
  ·have hlt2:j<s.cells.length:=by rw[fE.out];exact hlt
   obtain⟨a,rfl,-,⟨y0,y1,y2⟩,-⟩:=(ae.out.later hbl) j hlt;obtain⟨a',l,A',c',rfl,Hl,z0,_,-⟩:=(HR1.out.later hbl).nd hlt2;have hll:l.length<=LI:=by rw[<-Hl.out];exact HL2.out _ (List.getElem_mem hlt2)
   have hll':=zpr hll;obtain⟨v,hv⟩:=zX (vs[j]);rw[hv]at y0 y1 y2;have x0:wr.cell? ⟨w.heap.size,0,none⟩=some (.slice (some a') vs.length c):=zc hbx rfl;have x0':=fun o=>zkj (o:=o) x0;have z0':=fun o=>zkj (o:=o) z0;have eT:=zh (show fit1 v l=true->zmz (vs.take (j+1)) (s.cells.take (j+1))=true from fun h=>by rw[zpf hlt hlt2,HJ.out,hv,Hl.out,h];rfl);have bW:=zh (show fit1 v l=false->R=false from fun h=>by rw[HX.out];exact zsc hlt hlt2 (by rw[hv,Hl.out];exact h));have vw:=zh (zqA v);have hj1:(j:Int)<(vs.length:Int):=by omega
   obtain⟨vm,vk,vn⟩:=v;dsimp only at y0 y1 y2 vw;clear hbl hbx hv hll;by_cases k3:vk=3
   ·subst k3;by_cases h1:l.length<=1000
    ·have HJ2:=zh (eT.out (by simp[fit1,h1]));have e5:¬ (1000:Int)<(l.length:Int):=by omega
     clear eT bW h1;go_wp2_with fail
     go_roundw
     case rel=>exact⟨j+1,by omega,by go_num,zkb af.out _,zkd aS.out _,HJ2⟩
     case measure=>simp[intOf];omega
    ·have bY:=zh (bW.out (by simp[fit1];omega));have e5:(1000:Int)<(l.length:Int):=by omega
     clear eT bW h1;go_wp2_with fail;go_ret;exact⟨by rw[bY.out];rfl,zkb af.out _⟩
   ·have x3:(vk==3)=false:=by simpa using k3
    obtain⟨fx,hfx⟩:=zX (fixE ⟨vm,vk,vn⟩);rw[hfx]at vw;have fH:=zh k3;have zt:=zh hfx;clear k3 hfx;obtain⟨W6,Bt⟩:=zX (wr.alloc (.cells #[.string vm,.int .u8 vk,.int .i64 vn] 38));have pR:=heap_alloc_new wr (.cells #[.string vm,.int .u8 vk,.int .i64 vn] 38);have hx6:=x0' (.cells #[.string vm,.int .u8 vk,.int .i64 vn] 38);have eU:=z0' (.cells #[.string vm,.int .u8 vk,.int .i64 vn] 38);have q6:Below wr.heap.size wr W6:=Bt▸zkb zr _;rw[Bt]at pR hx6 eU;have aB:=zh (show ∀w',Below W6.heap.size W6 w'->(fun w':World=>zv w' w.heap.size 0 (.slice (some a') vs.length c)/\w'.cell? (a'.add j)=some (.slice A' l.length c')/\zN3 w' wr.heap.size (.string vm) (.int .u8 vk) (.int .i64 vn)) w' from fun w' hb=>⟨zb hb hx6,zb hb eU,zc (zkc pR hb) rfl,zc (zkc pR hb) rfl,zc (zkc pR hb) rfl⟩);have aH:=zh (aB.out _ zr.drew);have qi:=zh (zka af.out q6);have HX6:=zh (zkc aS.out q6)
    clear q6 hx6 eU x0 x0' z0 z0';have bJ:W6.cell? ⟨wr.heap.size,1,none⟩=some (.int .u8 vk):=zc pR rfl;go_upto_region 9 with fail;clear bJ
    go_region_held3 (fun w':World=>zv w' w.heap.size 0 (.slice (some a') vs.length c)/\w'.cell? (a'.add j)=some (.slice A' l.length c')/\zN3 w' wr.heap.size (.string vm) (.int .u8 vk) (.int .i64 vn))
     (first|with_reducible exact aD.out|with_reducible exact aH.out)
     (first
      | (go_at_call 79;refine(vw.out _).mono ?_;rintro e7 y7 ⟨rfl,by7⟩;have b7:=zka (zs W6).drew by7;have aD:=zh (aB.out _ b7))
      | fail)
    have HQ7:=zh (zka qi.out b7);have HX7:=zh (zkc HX6.out b7);clear b7 by7 aD aH pR y0 y1 y2 Bt;by_cases hf:(l.length:Int)=fx
    ·have HJ2:=zh (eT.out (by rw[fit1,if_neg fH.out,zt.out];exact decide_eq_true hf));have e5:((l.length:Int)==fx)=true:=by simpa using hf
     have e6:((l.length:Int) != fx)=false:=by simpa using hf
     clear eT bW hf;go_wp2_with fail
     go_roundw
     case rel=>exact⟨j+1,by omega,by go_num,HQ7.out,HX7.out,HJ2⟩
     case measure=>simp[intOf];omega
    ·have bY:=zh (bW.out (by rw[fit1,if_neg fH.out,zt.out];exact decide_eq_false hf));have e5:((l.length:Int)==fx)=false:=by simpa using hf
     have e6:((l.length:Int) != fx)=true:=by simpa using hf
     clear eT bW hf;go_wp2_with fail;go_ret;exact⟨by rw[bY.out];rfl,HQ7.out⟩
  ·obtain rfl:j=vs.length:=by omega
   have bY:=zh (show R=true by
    have:=HJ.out;rw[List.take_of_length_le zl,List.take_of_length_le (by rw[fE.out];exact zl)]at this;rw[HX.out];exact this)
   clear hbl hbx;go_wp2_with fail;go_ret;exact⟨by rw[bY.out];rfl,af.out⟩
def newS(vs:List VD)(s:SS):ST:=⟨⟨vs,List.range vs.length,0⟩,[],fun i=>s.cells.getD i [],vs.length,s.tin,s.tout⟩
def FR.snoc(f:FR)(v:VD)(id:Nat):FR:=⟨f.vs++[v],f.cs++[id],f.loc⟩
theorem ztY(vs:List VD)(s:SS)(j:Nat)(hj:j<vs.length)(l:List Int)(hl:s.cells.getD j []=l) :
  ((newS (vs.take j) s).newCell l).setCur ((newS (vs.take j) s).base.snoc vs[j] j)=newS (vs.take (j+1)) s:=by
 have h0:((newS (vs.take j) s).newCell l).calls.length=0:=rfl;have e1:(vs.take j).length=j:=by rw[List.length_take];omega
 have e2:(vs.take (j+1)).length=j+1:=by rw[List.length_take];omega
 have e3:vs.take (j+1)=vs.take j++[vs[j]]:=List.take_succ_eq_append_getElem hj;simp only[ST.setCur,h0,if_true];simp only[newS,ST.newCell,FR.snoc,e1,e3];congr 1
 ·rw[<-e3,e2,List.range_succ]
 ·funext i;by_cases e:i=j
  ·subst e;simp[<-hl]
  ·simp[e]
 ·rw[<-e3,e2]
theorem zqB:∀ {vs:List VD} {ls:List (List Int)} (i:Nat) (h:i<vs.length) (h':i<ls.length),zmz vs ls=true->fit1 vs[i] ls[i]=true
 | v::vs,l::ls,0,_,_,h=>by simp only[zmz,Bool.and_eq_true]at h;exact h.1
 | v::vs,l::ls,i+1,h,h',h0=>by
  simp only[zmz,Bool.and_eq_true]at h0;exact zqB i (by simpa using h) (by simpa using h') h0.2
theorem zsd{vs:List VD}{s:SS}(h:fitB vs s=true):vs.length<=32/\s.cells.length=vs.length/\s.tin.length<=4096/\s.tout.length<=4096/\∀i (hi:i<vs.length) (hi':i<s.cells.length),vdB vs[i]=true/\fit1 vs[i] s.cells[i]=true:=by
 simp only[fitB,svB,Bool.and_eq_true,decide_eq_true_eq]at h;obtain⟨⟨⟨⟨⟨h1,h2⟩,h3⟩,h4⟩,h5⟩,h6⟩:=h;exact⟨h1,h3,h4,h5,fun i hi hi'=>⟨List.all_eq_true.1 h2 _ (List.getElem_mem hi),zqB i hi hi' h6⟩⟩
theorem ztZ{vs:List VD}{s:SS}(h:fitB vs s=true)(hf:∀v∈vs,FldV v)(hc:∀l∈s.cells,∀x∈l,I64 x)(hi:∀x∈s.tin,I64 x)(ho:∀x∈s.tout,I64 x)(j:Nat)(hj:j<=vs.length):(newS (vs.take j) s).WF:=by
 obtain⟨h32,hlen,h1,h2,hall⟩:=zsd h;have e1:(vs.take j).length=j:=by rw[List.length_take];omega
 refine⟨⟨fun i=>((vs.getD i ⟨⟨#[]⟩,0,0⟩).k,(vs.getD i ⟨⟨#[]⟩,0,0⟩).n),⟨by simp[newS],by simp[newS],by simp only[newS,e1];omega,fun v hv=>hf v (List.mem_of_mem_take hv),fun c hc=>by simpa[newS]using hc,fun i hi hi'=>?_⟩,by simp[newS],fun i hi=>?_⟩,by simp[newS],fun i hi=>?_,⟨h1,hi⟩,⟨h2,ho⟩⟩
 ·simp only[newS,e1]at hi hi' ⊢;have:i<vs.length:=by omega
  simp[this]
 ·simp only[newS,e1]at hi ⊢;have hv:i<vs.length:=by omega
  have hv':i<s.cells.length:=by omega
  obtain⟨a1,a2⟩:=hall i hv hv';simp only[List.getD_eq_getElem?_getD,List.getElem?_eq_getElem hv,List.getElem?_eq_getElem hv',Option.getD_some];unfold vdB at a1;unfold fit1 at a2;refine⟨fun hk=>?_,fun hk=>?_,?_⟩
  ·rw[if_neg (by omega)]at a2;have:=of_decide_eq_true a2;simp only[fixE,hk,if_true]at this;omega
  ·rw[if_neg (by omega)]at a2;have:=of_decide_eq_true a2;simp only[fixE,hk]at this;simpa using this
  ·split at a1
   ·next h=>rcases h with h|h<;>simp[h]
   ·split at a1
    ·next h=>simp[h]
    ·cases a1
 ·simp only[newS,e1]at hi ⊢;have hv:i<vs.length:=by omega
  have hv':i<s.cells.length:=by omega
  obtain⟨a1,a2⟩:=hall i hv hv';simp only[List.getD_eq_getElem?_getD,List.getElem?_eq_getElem hv',Option.getD_some];refine⟨?_,hc _ (List.getElem_mem hv')⟩;unfold vdB at a1;unfold fit1 at a2
  split at a2
  ·exact of_decide_eq_true a2
  ·have:=of_decide_eq_true a2;unfold fixE at this
   split at this
   ·omega
   ·next hk hk1 =>
    rw[if_neg (by omega)]at a1
    split at a1
    ·have:=of_decide_eq_true a1;omega
    ·cases a1
theorem zrd{W w2:World}{n0:Nat}{P:Ph}{S:ST}(h:SR W n0 P S)(hb:Below W.heap.size W w2)(v:Value)(l:List Int)(ho:w2.ownsRow W.heap.size 3 1 v l.length (zki l)) :
  Stp n0 (rows P S) W (rows (P.newCell S w2.heap.size v) (S.newCell l)) (w2.alloc (.cells #[v] 171)):=by
 have hn:n0<=W.heap.size:=by have:=h.rws.lt .sb P.sb rfl;omega
 have hs:=hb.size;have s1:=Stp.take2 (W':=w2.alloc (.cells #[v] 171)) h.rws (zkb hb _) (.cb S.nc) (.ci S.nc) (by simp) ⟨boxV w2.heap.size,171,1,1,[v]⟩ ⟨v,3,1,l.length,zki l⟩
  (znw w2 n0 _ [_] (by omega) rfl) (zli (ho.alloc _) hn) (fun b e=>by simp[Value.ownBlock]at e;omega) (fun b e=>(ho.lt b e).1) (fun b e e2=>by simp[Value.ownBlock]at e;have:=(ho.lt b e2).2;omega)
 exact s1.cast (zmr h.wf P w2.heap.size v l).symm
theorem zvU{W W':World}{n0:Nat}{P:Ph}{S:ST}(v:VD)(id:Nat)(vv vc:Value)(hlen:S.cur.cs.length=S.cur.vs.length)
  (hst:Stp n0 (rows P S) W (updR (updR (updR (rows P S) (vI S) ⟨vv,38,3,S.cur.vs.length+1,zkD S.cur.vs++[.string v.s,.int .u8 v.k,.int .i64 v.n]⟩) (cI S) ⟨vc,169,1,S.cur.vs.length+1,ptrs P.cb S.cur.cs++[.pointer (some ⟨P.cb id,0,none⟩)]⟩) (hI S) { rows P S (hI S)with xs:=((rows P S (hI S)).xs.set (oI S) vv).set (oI S+1) vc }) W') :
  Stp n0 (rows P S) W (rows (P.setCur S vv vc) (S.setCur (S.cur.snoc v id))) W':=by
 refine hst.cast ?_;rw[zmQ];obtain⟨_,_,g3⟩:=zpM P S;have e1:(S.cur.snoc v id).vs.length=S.cur.vs.length+1:=by simp[FR.snoc]
 have e2:(S.cur.snoc v id).cs.length=S.cur.vs.length+1:=by simp[FR.snoc,hlen]
 have e3:zkD (S.cur.snoc v id).vs=zkD S.cur.vs++[.string v.s,.int .u8 v.k,.int .i64 v.n]:=zpc _ _;have e4:ptrs P.cb (S.cur.snoc v id).cs=ptrs P.cb S.cur.cs++[.pointer (some ⟨P.cb id,0,none⟩)]:=by simp[FR.snoc,ptrs]
 rw[e1,e2,e3,e4];have e5:(((rows P S (hI S)).xs.set (oI S) vv).set (oI S+1) vc).set (oI S+2) (.int .i64 (S.cur.snoc v id).loc)=((rows P S (hI S)).xs.set (oI S) vv).set (oI S+1) vc:=by
  have hl:oI S+2<(rows P S (hI S)).xs.length:=(List.getElem?_eq_some_iff.1 g3).1;refine List.ext_getElem? fun q=>?_;by_cases e:q=oI S+2
  ·subst e;rw[List.getElem?_set_self (by simpa using hl),List.getElem?_set_ne (by omega),List.getElem?_set_ne (by omega),g3];rfl
  ·rw[List.getElem?_set_ne (by omega)]
 rw[e5]
theorem zsI{W w2 w3:World}{vI vO:Value}{tb:Nat}{s:SS}(hwf:(newS [] s).WF)(hb:Below W.heap.size W w2)(h1:w2.heap[tb]?=some (.cells #[vI,vO] 188 (0,0)))(ht:W.heap.size<=tb)
  (o1:w2.ownsRow W.heap.size 3 1 vI s.tin.length (zki s.tin))(o2:w2.ownsRow W.heap.size 3 1 vO s.tout.length (zki s.tout))(n1:vI.ownBlock≠some tb)(n2:vO.ownBlock≠some tb)(n3:∀b,vI.ownBlock=some b->vO.ownBlock≠some b)
  (hw:w3=w2.alloc (.cells #[.slice none 0 0,.slice none 0 0,.int .i64 0,.slice none 0 0,.pointer (some ⟨tb,0,none⟩)] 167)) :
  SR w3 W.heap.size ⟨w2.heap.size,tb,vI,vO,.slice none 0 0,.slice none 0 0,.slice none 0 0,fun _=>.slice none 0 0,fun _=>.slice none 0 0,fun _=>0,fun _=>.slice none 0 0⟩ (newS [] s):=by
 subst hw;have hs:=hb.size;have htb:=zkf h1;refine⟨⟨fun i=>?_,?_⟩,hwf⟩
 ·cases i with
  | sb=>exact znw w2 W.heap.size _ [_,_,_,_,_] hs rfl
  | tb=>exact⟨rfl,.inr ⟨tb,1,#[vI,vO],rfl,ht,zkd h1 _,zl,by decide,rfl,rfl⟩⟩
  | tin=>exact o1.alloc _
  | tout=>exact o2.alloc _
  | bv=>exact World.ownsRow_nil _ _ _ _
  | bc=>exact World.ownsRow_nil _ _ _ _
  | calls=>exact World.ownsRow_nil _ _ _ _
  | fv i=>exact World.ownsRow_nil _ _ _ _
  | fc i=>exact World.ownsRow_nil _ _ _ _
  | cb i=>simp only[rows,newS,List.length_nil,Nat.not_lt_zero,if_false];exact World.ownsRow_nil _ _ _ _
  | ci i=>simp only[rows,newS,List.length_nil,Nat.not_lt_zero,if_false];exact World.ownsRow_nil _ _ _ _
  | x i=>exact World.ownsRow_nil _ _ _ _
 ·have key:∀(i:Res) b,(rows ⟨w2.heap.size,tb,vI,vO,.slice none 0 0,.slice none 0 0,.slice none 0 0,fun _=>.slice none 0 0,fun _=>.slice none 0 0,fun _=>0,fun _=>.slice none 0 0⟩ (newS [] s) i).v.ownBlock=some b->(i=.sb/\b=w2.heap.size)\/(i=.tb/\b=tb)\/(i=.tin/\vI.ownBlock=some b)\/(i=.tout/\vO.ownBlock=some b):=fun i b hb=>by
   cases i with
   | sb=>simp[rows,Value.ownBlock]at hb;exact .inl ⟨rfl,hb.symm⟩
   | tb=>simp[rows,Value.ownBlock]at hb;exact .inr (.inl ⟨rfl,hb.symm⟩)
   | tin=>exact .inr (.inr (.inl ⟨rfl,hb⟩))
   | tout=>exact .inr (.inr (.inr ⟨rfl,hb⟩))
   | bv=>simp[rows,Value.ownBlock]at hb
   | bc=>simp[rows,Value.ownBlock]at hb
   | calls=>simp[rows,Value.ownBlock]at hb
   | fv i=>simp[rows,newS,nilR,Value.ownBlock]at hb
   | fc i=>simp[rows,newS,nilR,Value.ownBlock]at hb
   | cb i=>simp[rows,newS,nilR,Value.ownBlock]at hb
   | ci i=>simp[rows,newS,nilR,Value.ownBlock]at hb
   | x i=>simp[rows,nilR,Value.ownBlock]at hb
  intro i j b hij h1 h2;have l1:=fun b (e:vI.ownBlock=some b)=>(o1.lt b e).2;have l2:=fun b (e:vO.ownBlock=some b)=>(o2.lt b e).2;rcases key i b h1 with⟨e1,a1⟩|⟨e1,a1⟩|⟨e1,a1⟩|⟨e1,a1⟩<;>rcases key j b h2 with⟨e2,a2⟩|⟨e2,a2⟩|⟨e2,a2⟩|⟨e2,a2⟩
  ·exact hij (e1.trans e2.symm)
  ·omega
  ·have:=l1 b a2;omega
  ·have:=l2 b a2;omega
  ·omega
  ·exact hij (e1.trans e2.symm)
  ·subst a1;exact n1 a2
  ·subst a1;exact n2 a2
  ·have:=l1 b a1;omega
  ·subst a2;exact n1 a1
  ·exact hij (e1.trans e2.symm)
  ·exact n3 b a1 a2
  ·have:=l2 b a1;omega
  ·subst a2;exact n2 a1
  ·exact n3 b a2 a1
  ·exact hij (e1.trans e2.symm)
theorem Rws.mono{I:Type}{W:World}{n0 n1:Nat}{d:I->RowD}(h:Rws W n1 d)(hn:n0<=n1):Rws W n0 d:=⟨fun i=>zli (h.row i) hn,h.sep⟩
theorem SR.mono{W:World}{n0 n1:Nat}{P:Ph}{S:ST}(h:SR W n1 P S)(hn:n0<=n1):SR W n0 P S:=⟨h.rws.mono hn,h.wf⟩
theorem zy1{vs:List VD}{s:SS}{j:Nat}{hj:j<vs.length}{l:List Int}{hl:s.cells.getD j []=l}{W:World}{n1:Nat}{P:Ph}(h:Rws W n1 (rows P ((newS (vs.take j) s).newCell l)))(hm:j<=1000)(sb b:Nat)(hsb:P.sb=sb)(hb:P.cb j=b)(v:VD)(hv:vs[j]=v) :
  Calls prog 104 [.pointer (some ⟨sb,0,none⟩),.agg #[.string v.s,.int .u8 v.k,.int .i64 v.n],.pointer (some ⟨b,0,none⟩)].toArray W fun e W'=>∃u,e=.returned u/\∃P',Stp n1 (rows P ((newS (vs.take j) s).newCell l)) W (rows P' (newS (vs.take (j+1)) s)) W'/\P'.sb=sb:=by
 subst hsb hb hv;have e1:(vs.take j).length=j:=by rw[List.length_take];omega
 have hadd:=zru h .sb .bv .bc (by simp) (by simp) (by simp) P.sb 0 rfl rfl rfl (zkD (vs.take j)) (ptrs P.cb (List.range j)) j (by simp[rows,newS,ST.newCell,e1]) (by simp[rows,newS,ST.newCell,e1]) (by omega) vs[j] (some ⟨P.cb j,0,none⟩);refine hadd.mono ?_;rintro e W' ⟨⟨u,hu⟩,vv,vc,hst⟩;refine⟨u,hu,P.setCur ((newS (vs.take j) s).newCell l) vv vc,?_,?_⟩
 ·have:=zvU (P:=P) (S:=(newS (vs.take j) s).newCell l) (W:=W) (W':=W') (n0:=n1) vs[j] j vv vc (by simp[ST.cur,newS,ST.newCell]) (by
   have e2:((newS (vs.take j) s).newCell l).cur.vs.length=j:=e1;have e3:((newS (vs.take j) s).newCell l).cur.cs=List.range j:=by show List.range (vs.take j).length=_;rw[e1]
   rw[e2,e3];exact hst)
  rw[show((newS (vs.take j) s).newCell l).setCur (((newS (vs.take j) s).newCell l).cur.snoc vs[j] j)=newS (vs.take (j+1)) s from ztY vs s j hj l hl]at this;exact this
 ·unfold Ph.setCur;split<;>rfl
theorem zyO(p:Option Addr)(w:World):(Instr.build 167 #[(2,.pointer p)]).run prog w=.ok (.agg #[.slice none 0 0,.slice none 0 0,.int .i64 0,.slice none 0 0,.pointer p]) w:=by kernel_rfl
theorem zyW(A:Option Addr)(l c:Nat)(w:World):(Instr.build 171 #[(0,.slice A l c)]).run prog w=.ok (.agg #[.slice A l c]) w:=by kernel_rfl
def NewP(vs:List VD)(s:SS)(w:World)(e:Ending)(w':World):Prop:=Below w.heap.size w w' /\
 ((fitB vs s=false/\e=.returned (.tuple #[.pointer none,.int .i64 3]))\/(fitB vs s=true/\∃P:Ph,e=.returned (.tuple #[.pointer (some ⟨P.sb,0,none⟩),.int .i64 0])/\SR w' w.heap.size P (newS vs s)))
theorem zzb(vs:List VD)(s:SS)(A:Option Addr)(c:Nat)(v:Value)(w:World)(hrow:RowV w Any A vs)(hl:vs.length<=LV)(hv:SV w Any s v):Calls prog 73 #[.slice A vs.length c,v] w (NewP vs s w):=by
 have lZ:=zh (fun w' (hb:Below w.heap.size w w')=>zso vs s A c v w' (hrow.later hb) hl (hv.later hb));obtain⟨AC,cC,AI,BP,AO,cO,rfl,hr1,hr2,hr3,hc1,hc2,hc3,hl1,hl2,hl3,hl4⟩:=hv;have hl':=zkW hl;have HF:=zh (show ∀u∈vs,FldV u from fun u hu=>by
  obtain⟨q,hq,rfl⟩:=List.mem_iff_getElem.1 hu;obtain⟨_,_,_,_,xq⟩:=hrow q hq;exact xq)
 have zz:=zh (show ∀l∈s.cells,∀x∈l,I64 x from fun l hl=>by
  obtain⟨q,hq,rfl⟩:=List.mem_iff_getElem.1 hl;obtain⟨_,_,_,_,_,_,_,hr⟩:=hr1 q hq;exact hr.fits)
 have HIF:=zh hr2.fits;have HOF:=zh hr3.fits;have ae:=zh hrow;have HR1:=zh hr1;have HR2:=zh hr2;have HR3:=zh hr3;have HL2:=zh hl2;obtain⟨R,hR⟩:=zX (fitB vs s);have HR:=zh hR;rw[hR]at lZ;obtain⟨n1,hn1⟩:=zX (s.cells.length);obtain⟨n2,hn2⟩:=zX (s.tin.length);obtain⟨n3,dB⟩:=zX (s.tout.length);have fE:=zh hn1;have aG:=zh hn2;have dA:=zh dB;rw[hn1,hn2,dB]at lZ;rw[hn1,hn2,dB];clear hrow hr1 hr2 hr3 hc1 hc2 hc3 hl1 hl2 hl3 hl4 hl hR hn1 hn2 dB;go_enter func73,ntmps73;go_wp2_with fail;refine(lZ.out _ (zkb zr _)).mono ?_;rintro e9 w1 ⟨rfl,aa⟩;have HB1:=zh (zka (zkb (zs w) _) aa);have hP:=zkc (heap_alloc_new w (.cells #[.slice AC n1 cC,.slice AI n2 BP,.slice AO n3 cO] 44)) aa;clear aa
 cases R
 ·go_wp2_with fail;go_ret2;exact⟨HB1.out,.inl ⟨HR.out,rfl⟩⟩
 ·obtain⟨h32,hlen,h4i,h4o,hall⟩:=zsd HR.out;have bR:=zh hall;have HLEN:=zh hlen;have HTN:=zh (zxh s.tin s.tout AI AO BP cO w1 (HR2.out.later HB1.out) (HR3.out.later HB1.out) h4i h4o);rw[aG.out,dA.out]at HTN;have x1:w1.cell? ⟨w.heap.size,1,none⟩=some (.slice AI n2 BP):=zc hP rfl;have x2:w1.cell? ⟨w.heap.size,2,none⟩=some (.slice AO n3 cO):=zc hP rfl;have HP0:=zh hP;have hbst:=zyO;clear hlen h4i h4o hall hP;go_wp2_with fail;refine HTN.out.mono ?_;rintro e9 w2 ⟨tb,vI,vO,rfl,ht,h1,o1,o2,t1,t2,t3,ah⟩;rw[<-aG.out]at o1;rw[<-dA.out]at o2;have Cb:=zh (zsI (ztZ HR.out HF.out zz.out HIF.out HOF.out 0 (Nat.zero_le _)) ah h1 ht o1 o2 t1 t2 t3 rfl);have HB2:=zh ah;clear ht h1 o1 o2 t1 t2 t3 ah x1 x2;go_wp2_with fail
  go_loopw [30] (fun i wr=>∃j:Nat,j<=vs.length/\i=.int .i64 j/\Hid (Below w1.heap.size w1 wr)/\∃P:Ph,Hid (SR wr w1.heap.size P (newS (vs.take j) s))/\Hid (P.sb=w2.heap.size)) (fun i _=>vs.length-(intOf i).toNat)
  case atStart=>exact⟨0,Nat.zero_le _,rfl,zh (zkb HB2.out _),_,Cb,zh rfl⟩
  case round =>
   obtain⟨j,hj,rfl,af,P,HS,kr⟩:=hrel;by_cases hlt:j<vs.length
   ·have hlc:j<s.cells.length:=by rw[HLEN.out];exact hlt
    obtain⟨a,rfl,-,⟨y0,y1,y2⟩,-⟩:=((ae.out.later HB1.out).later af.out) j hlt;obtain⟨b,l,A',c',rfl,Hl,x0,-,aX⟩:=((HR1.out.later HB1.out).later af.out).nd hlc;have dE:=zh (show b.block<w.heap.size by
     obtain⟨a',_,_,hA,_,hcw,_⟩:=HR1.out j hlc;injection hA with hA;have:=World.block_lt_of_cell? w _ hcw;rw[zkE,<-hA]at this;exact this)
    obtain⟨v,hv⟩:=zX (vs[j]);rw[hv]at y0 y1 y2;have Hv:=zh hv;have hll:l.length<=LI:=by rw[<-Hl.out];exact HL2.out _ (List.getElem_mem hlc)
    have Hgd:=zh (show s.cells.getD j []=l by rw[<-Hl.out];simp[hlc]);obtain⟨vm,vk,vn⟩:=v;dsimp only at y0 y1 y2;have hj1:(j:Int)<(vs.length:Int):=by omega
    have hj2:(j:Int)<(n1:Int):=by have:=fE.out;have:=HLEN.out;omega
    have bZ:=zh aX;have z0:wr.cell? ⟨w.heap.size,0,none⟩=some (.slice (some b) n1 cC):=zb af.out (zc HP0.out rfl);have hbx:=zyW;clear aX hv;go_upto_region 10 with fail;obtain⟨wa,yD⟩:=zX (wr.alloc (.cells #[.string vm,.int .u8 vk,.int .i64 vn] 38));have yL:Below wr.heap.size wr wa:=yD▸zkb zr _;have hvb:wa.heap[wr.heap.size]?=some (.cells #[.string vm,.int .u8 vk,.int .i64 vn] 38 (0,0)):=yD▸heap_alloc_new wr _;rw[yD];have q0:wa.cell? ⟨wr.heap.size,0,none⟩=some (.string vm):=zc hvb rfl;have q1:wa.cell? ⟨wr.heap.size,1,none⟩=some (.int .u8 vk):=zc hvb rfl;have q2:wa.cell? ⟨wr.heap.size,2,none⟩=some (.int .i64 vn):=zc hvb rfl;have q3:=zb yL z0;have q4:=zb yL x0;have rE:=zh yL;clear yD yL hvb y0 y1 y2 x0 z0
    obtain⟨S1,hS1⟩:∃S1:World->Prop,S1=fun w':World=>w'.cell? ⟨wr.heap.size,0,none⟩=some (.string vm)/\w'.cell? ⟨wr.heap.size,1,none⟩=some (.int .u8 vk)/\w'.cell? ⟨wr.heap.size,2,none⟩=some (.int .i64 vn)/\w'.cell? ⟨w.heap.size,0,none⟩=some (.slice (some b) n1 cC)/\w'.cell? (b.add j)=some (.slice A' l.length c'):=⟨_,rfl⟩
    have HSa:=zh (show S1 wa by rw[hS1];exact⟨q0,q1,q2,q3,q4⟩);have HSk:=zh (show ∀W W',S1 W->(∀p u,W.cell? p=some u->(p.block=wr.heap.size\/p.block=w.heap.size\/p.block=b.block)->W'.cell? p=some u)->S1 W' by
     rw[hS1];rintro W W' ⟨a0,a1,a2,a3,a4⟩ hk;exact⟨hk _ _ a0 (.inl rfl),hk _ _ a1 (.inl rfl),hk _ _ a2 (.inl rfl),hk _ _ a3 (.inr (.inl rfl)),hk _ _ a4 (.inr (.inr (zkE b j)))⟩)
    have wE:=zh (show ∀W W',S1 W->Below W.heap.size W W'->S1 W' from fun W W' h hb=>HSk.out W W' h fun p u hp _=>zb hb hp);have hSS:zW S1 zU wa.drew:=⟨wE.out _ _ HSa.out zr.drew,trivial⟩
    refine wp_region_noPanic ?_;refine zG hSS 12 ?_;subst hS1;refine zT 0 hSS ?_;refine zT 1 hSS ?_;refine zT 2 hSS ?_;refine zT 3 hSS ?_;refine zT 4 hSS ?_;refine zT 5 hSS ?_;refine zT 6 hSS ?_;refine zT 7 hSS ?_;refine zT 8 hSS ?_;have had:Calls prog 55 [.slice A' l.length c'].toArray wa.drew fun e w'=>∃u,e=.returned u/\w'.ownsRow wa.drew.heap.size 3 1 u l.length (zki l)/\Below wa.drew.heap.size wa.drew w' :=
     (zkQ l A' c' Any wa.drew ((bZ.out.later rE.out).later zr.drew) hll).mono fun e w' ⟨u,hu,h1,_,h2⟩=>⟨u,hu,h1,h2⟩
    refine zo 9 fun K hK=>?_;refine zke (by rfl) (.func 55) [.tmp 43] _ (by rfl) 55 _ zmH (by rfl) _ (by rfl) _ had ?_;rintro v4 w4 ⟨eY,hb4⟩;obtain⟨A4,c4,rfl,-,-⟩:=zkg eY;have iZ:=zh eY;have ax:=zh hb4;have jK:=zh (wE.out _ _ hSS.1 hb4);refine hK.out _ _ ⟨jK.out,trivial⟩ ?_;clear hK K hSS had eY hb4 q0 q1 q2 q3 q4;(try simp only[zQ]);refine zo 10 fun K hK=>?_;(try simp only[zA,zB,zC]);go_simp;refine hK.out _ _ ⟨jK.out,trivial⟩ ?_;clear hK K;(try simp only[zQ]);refine zo 11 fun K hK=>?_;(try simp only[zA,zB,zC]);go_simp;have wF:=zh (wE.out _ _ jK.out (zkb zr (.cells #[.slice A4 l.length c4] 171)));refine hK.out _ _ ⟨wF.out,trivial⟩ ?_;clear hK K;(try simp only[zQ]);have e1:(vs.take j).length=j:=by rw[List.length_take];omega
    have s1:=zrd ((HS.out.later rE.out).later zr.drew) ax.out (.slice A4 l.length c4) l iZ.out;have had:=zy1 (hj:=hlt) (hl:=Hgd.out) s1.rws (by omega) w2.heap.size w4.heap.size kr.out (by simp[Ph.newCell,newS,e1]) ⟨vm,vk,vn⟩ Hv.out;dsimp only at had;refine zp 12 fun K hK=>?_;refine zke (by rfl) (.func 104) [.tmp 37,.tmp 38,.tmp 46] _ (by rfl) 104 _ zzM (by rfl) _ (by rfl) _ had ?_;rintro v6 w6 ⟨P',hst,hsb'⟩;have hza:wr.heap.size<wa.drew.heap.size:=World.block_lt_of_cell? _ _ HSa.out.1;have yA:w.heap.size<w1.heap.size:=zkf HP0.out;have hBl:=af.out.size;have hown:∀b',OwnB (rows (P.newCell (newS (vs.take j) s) w4.heap.size (.slice A4 l.length c4)) ((newS (vs.take j) s).newCell l)) b'->w1.heap.size<=b'/\b'≠wr.heap.size:=fun b' hb'=>by
     rcases s1.own b' hb' with⟨q,hq⟩|hq
     ·have:=HS.out.rws.lt q b' hq;omega
     ·omega
    have hS6:=HSk.out _ _ wF.out fun p u hp hpb=>zkX hst.chg hp fun hb'=>by
     have h1:=hown _ hb';have h2:=dE.out;rcases hpb with e|e|e<;>rw[e]at h1<;>omega
    refine hK.out _ _ hS6 ?_;have HST:=zh (show SR w6 w1.heap.size P' (newS (vs.take (j+1)) s)from⟨hst.rws,ztZ HR.out HF.out zz.out HIF.out HOF.out (j+1) hlt⟩);have bC:=zh (show Below w1.heap.size w1 w6 by
     have b4:Below w1.heap.size w1 w4:=zka (zka af.out rE.out).drew ax.out;have b5:Below w1.heap.size w1 (w4.alloc (.cells #[.slice A4 l.length c4] 171)):=zkb b4 _;exact b5.trans (hst.chg.below b5.size fun b' hb'=>(hown b' hb').1))
    have HSB':=zh hsb';clear hK K hst had s1 hown hsb' hS6;(try simp only[zQ]);refine zd ?_;refine NoPanic.normal ?_;go_wp2_with fail
    go_roundw
    case rel=>exact⟨j+1,by omega,by go_num,bC,P',HST,HSB'⟩
    case measure=>simp[intOf];omega
   ·obtain rfl:j=vs.length:=by omega
    have hj1:¬ (vs.length:Int)<(vs.length:Int):=by omega
    go_wp2_with fail;go_ret2;refine⟨HB1.out.trans (af.out.mono ?_),.inr ⟨HR.out,P,by rw[kr.out];rfl,?_⟩⟩
    ·have:=HB1.out.size;omega
    ·have h1:=HS.out;rw[List.take_of_length_le zl]at h1;exact h1.mono HB1.out.size
end
end Go.Proofs.YthjinpodhacleaaGreat
