
/-
  Texts of the proof, put together without their remarks: Wk, Ck, Cm, Apq, Cp, ScV, ScK, Cq, Stp, Rws, Sr.
-/
import Derived.Test.YthjinpodhacleaaGreatM2
import Derived.Sort.CutIn
import Derived.IntWalk
set_option linter.unusedSimpArgs false
set_option linter.unusedVariables false
set_option maxHeartbeats 8000000
set_option maxRecDepth 100000
namespace Go.Proofs.YthjinpodhacleaaGreat
open Tryz
section
open Go Go.RowKit
structure It(C:Nat->Prop)(W:World)(n0 l yb pb vb:Nat)(pv:Value)(q:List Int):Prop where
 y:W.heap[yb]?=some (.cells #[.func (.yield l) #[] #[]] 180 (0,0))
 v:W.heap[vb]?=some (.cells #[.func (.func 118) #[] #[.pointer (some ⟨yb,0,none⟩),.pointer (some ⟨pb,0,none⟩),.pointer (some ⟨vb,0,none⟩)]] 102 (0,0))
 p:W.heap[pb]?=some (.cells #[pv] 42 (0,0))
 row:W.ownsRow n0 3 1 pv q.length (q.map fun x=>Value.int .i64 x)
 fits:∀x∈q,I64 x
 gy:n0<=yb
 gp:n0<=pb
 gv:n0<=vb
 nyp:yb≠pb
 nvp:vb≠pb
 ry:pv.ownBlock≠some yb
 rp:pv.ownBlock≠some pb
 rv:pv.ownBlock≠some vb
 cy:¬ C yb
 cp:¬ C pb
 cv:¬ C vb
 cr:∀b,pv.ownBlock=some b->¬ C b
section
variable {C C' D:Nat->Prop} {W W':World} {n0 l yb pb vb:Nat} {pv pv':Value} {q q':List Int}
theorem It.lt(h:It C W n0 l yb pb vb pv q):yb<W.heap.size/\pb<W.heap.size/\vb<W.heap.size/\∀b,pv.ownBlock=some b->n0<=b/\b<W.heap.size:=⟨zkf h.y,zkf h.p,zkf h.v,h.row.lt⟩
theorem It.chg(h:It C W n0 l yb pb vb pv q)(hc:Chg D W W')(hD:∀b,b=yb\/b=pb\/b=vb\/pv.ownBlock=some b->¬ D b)(hC:∀b,b=yb\/b=pb\/b=vb\/pv.ownBlock=some b->¬ C' b):It C' W' n0 l yb pb vb pv q :=
 { h with
  y:=hc.keep h.y (hD _ (.inl rfl))
  v:=hc.keep h.v (hD _ (.inr (.inr (.inl rfl))))
  p:=hc.keep h.p (hD _ (.inr (.inl rfl)))
  row:=by
   obtain⟨e1,h2⟩:=h.row;refine⟨e1,?_⟩;rcases h2 with h2|⟨g,cap,cur,rfl,hb,hg,h3⟩
   ·exact .inl h2
   ·exact .inr ⟨g,cap,cur,rfl,hb,hc.keep hg (hD _ (.inr (.inr (.inr rfl)))),h3⟩
  cy:=hC _ (.inl rfl)
  cp:=hC _ (.inr (.inl rfl))
  cv:=hC _ (.inr (.inr (.inl rfl)))
  cr:=fun b hb=>hC _ (.inr (.inr (.inr hb))) }
theorem It.later(h:It C W n0 l yb pb vb pv q)(hb:zw W W'):It C W' n0 l yb pb vb pv q :=
 h.chg (D:=fun _=>False) (Chg.of_below hb) (fun _ _ h=>h) (fun b hb=>by
  rcases hb with rfl|rfl|rfl|hb
  ·exact h.cy
  ·exact h.cp
  ·exact h.cv
  ·exact h.cr b hb)
theorem It.put(h:It C W n0 l yb pb vb pv q)(ho:W'.ownsRow n0 3 1 pv' q'.length (q'.map fun x=>Value.int .i64 x))(hq:∀x∈q',I64 x)(hg:W.grownBy W' pv.ownBlock)
  (aY:∀b,pv'.ownBlock=some b->pv.ownBlock=some b\/W.heap.size<=b)(hC:∀b,C b->b<W.heap.size):It C (W'.setCell ⟨pb,0,none⟩ pv') n0 l yb pb vb pv' q':=by
 have hlt:=h.lt;have hc:Chg (fun b=>b=pb\/pv.ownBlock=some b) W (W'.setCell ⟨pb,0,none⟩ pv'):=((Chg.row hg).mono fun _ _ h=>.inr h).setCell (.inl (.inl rfl)) _;have hp':W'.heap[pb]?=some (.cells #[pv] 42 (0,0)):=(hg.block _ (zkf h.p) (fun e=>h.rp e.symm)).trans h.p;have kJ:pv'.ownBlock≠some pb:=fun e=>by
  rcases aY _ e with e|e
  ·exact h.rp e
  ·have:=hlt.2.1;omega
 refine { h with
  y:=hc.keep h.y (fun hh=>by rcases hh with hh|hh;exact h.nyp hh;exact h.ry hh)
  v:=hc.keep h.v (fun hh=>by rcases hh with hh|hh;exact h.nvp hh;exact h.rv hh)
  p:=by have:=heap_setCell_same W' pb 0 _ _ pv' hp';simpa using this
  row:=?_
  fits:=hq
  ry:=fun e=>by
   rcases aY _ e with e|e
   ·exact h.ry e
   ·have:=hlt.1;omega
  rp:=kJ
  rv:=fun e=>by
   rcases aY _ e with e|e
   ·exact h.rv e
   ·have:=hlt.2.2.1;omega
  cr:=fun b hb hcb=>by
   rcases aY _ hb with e|e
   ·exact h.cr b e hcb
   ·have:=hC b hcb;omega }
 obtain⟨e1,h2⟩:=ho;refine⟨e1,?_⟩;rcases h2 with h2|⟨g,cap,cur,rfl,hb,hg',h3⟩
 ·exact .inl h2
 ·refine .inr ⟨g,cap,cur,rfl,hb,?_,h3⟩;rw[Below.heap_setCell _ _ _ _ (fun e=>kJ (by subst e;rfl))];exact hg'
end
def VisP(J Jx:List T->(Nat->Prop)->World->Prop)(n0 l yb pb vb:Nat)(pre xs:List T)(C:Nat->Prop)(pv:Value)(q:List Int)(W:World)(e:Ending)(W':World):Prop :=
 (e=.returned (.bool true)/\∃C' pv',J (pre++xs) C' W'/\It C' W' n0 l yb pb vb pv' q/\(∀b,C' b->C b\/W.heap.size<=b)/\(∀b,pv'.ownBlock=some b->pv.ownBlock=some b\/W.heap.size<=b)/\Chg (fun b=>C b\/b=pb\/pv.ownBlock=some b) W W') \/
 (e=.returned (.bool false)/\∃pre' C',Jx pre' C' W'/\Chg (fun b=>C b\/b=pb\/pv.ownBlock=some b) W W')
def VInv(J:List T->(Nat->Prop)->World->Prop)(n0 l yb pb vb:Nat)(pre:List T)(t:T)(done:List T)(C:Nat->Prop)(pv:Value)(q:List Int)(W0 wr:World)(C':Nat->Prop)(pv':Value):Prop :=
 J (pre++(t::done)) C' wr/\It C' wr n0 l yb pb vb pv' q/\(∀b,C' b->C b\/W0.heap.size<=b)/\(∀b,pv'.ownBlock=some b->pv.ownBlock=some b\/W0.heap.size<=b)/\Chg (fun b=>C b\/b=pb\/pv.ownBlock=some b) W0 wr
theorem zx4:IsFn prog 66 f66:=⟨func66,zK,zK⟩
theorem zut(n l n0 yb pb vb:Nat)(R:Nat->Prop)(xs:List T)(J Jx:List T->(Nat->Prop)->World->Prop)(hJ:∀pre C W W',J pre C W->Chg (fun b=>¬ C b) W W'->J pre C W')(iG:∀pre C W,J pre C W->∀b,C b->b<W.heap.size)
  (hR:∀b,R b->b<n0)(hl0:l<n0)
  (hY:∀pre x C W pv v,J pre C W->(pre++[x]) <+: xs->(∃A m c,pv=.slice A m c)->NV W (fun b=>l<b) x v ->
   YieldAt (Fw none) (n-1) prog l #[pv,v] W fun e W' =>
    (e=.returned (.bool true)/\∃C',J (pre++[x]) C' W'/\(∀b,C' b->C b\/W.heap.size<=b)/\Chg C W W') \/
    (e=.returned (.bool false)/\∃C',Jx (pre++[x]) C' W'/\Chg C W W')) (t:T) :
  ∀(pre:List T) (C:Nat->Prop) (W:World) (pv:Value) (q:List Int) (v:Value),J pre C W->It C W n0 l yb pb vb pv q->NV W R t v->(∀b,C b->¬ R b)->(pre++po t) <+: xs->q.length+dep t<=1000 ->
   Calls prog 118 #[v,.pointer (some ⟨yb,0,none⟩),.pointer (some ⟨pb,0,none⟩),.pointer (some ⟨vb,0,none⟩)] W (VisP J Jx n0 l yb pb vb pre (po t) C pv q W):=by
 have HJ:=zh hJ;have jP:=zh iG;have HY:=zh hY;have HRR:=zh hR;clear hJ iG hY hR;obtain⟨i0,hi0,hz0,hz1,hz2⟩:=info_parts zn0
 induction t using T.ind with
 | _ k nn s ks ih =>
 intro pre C W pv q v hj hit hv jF hpre hdep;have qy:=zh ih;have lh:=zh hj;have HIT:=zh hit;have HV:=zh hv;have HCR:=zh jF;have dH:=zh hpre;obtain⟨A,c,rfl,hf,hlk,hlc,hrow⟩:=hv.open_;simp only[T.k_nd,T.n_nd,T.s_nd,T.ks_nd]at *
 have av:=zkz hlk;have ae:=zh hrow;have hlts:=hit.lt;obtain⟨Ap,cp,rfl,hcp,aT⟩:=zlp hit.row hit.fits;have bU:=zh aT;have HLT:=zh hlts;have hly:=hlts.1;have hlp:=hlts.2.1;have hlv:=hlts.2.2.1;clear ih hj hit hv jF hpre hrow aT hlts hcp hlc;simp only[dep]at hdep;have lG:q.length<=1000:=by omega
 go_enter func118,ntmps118;go_upto_region 1 with fail;have hbW:=(zs W).alloc zl (.cells #[.int .u8 k,.int .i64 nn,.string s,.slice A ks.length c] 28);obtain⟨W0,hW0⟩:=zX (W.alloc (.cells #[.int .u8 k,.int .i64 nn,.string s,.slice A ks.length c] 28));rw[hW0]at hbW ⊢;have hnb:W0.heap[W.heap.size]?=some (.cells #[.int .u8 k,.int .i64 nn,.string s,.slice A ks.length c] 28 (0,0)):=by rw[<-hW0];exact heap_alloc_new W _
 have HZ0:=zh (show W0.heap.size=W.heap.size+1 by rw[<-hW0];simp);have aU:=zh hbW;have qo:=zh hnb;have gU:=zh (HIT.out.later hbW);have HS:=zh (show ∀w':World,w'.heap[yb]?=W0.heap[yb]?->w'.heap[pb]?=W0.heap[pb]?->w'.heap[W.heap.size]?=W0.heap[W.heap.size]?->(fun w':World=>(zv w' yb 0 (.func (.yield l) #[] #[]))/\(zv w' pb 0 (.slice Ap q.length cp))/\zN4 w' W.heap.size (.int .u8 k) (.int .i64 nn) (.string s) (.slice A ks.length c)) w' from fun w' h1 h2 h3=>⟨zc (h1.trans gU.out.y) rfl,zc (h2.trans gU.out.p) rfl,box4 (h3.trans hnb)⟩)
 have ko:=zh (show ∀w':World,Below W0.heap.size W0 w'->(fun w':World=>(zv w' yb 0 (.func (.yield l) #[] #[]))/\(zv w' pb 0 (.slice Ap q.length cp))/\zN4 w' W.heap.size (.int .u8 k) (.int .i64 nn) (.string s) (.slice A ks.length c)) w' from fun w' h=>HS.out w' (h.block _ (by have:=gU.out.lt.1;omega)) (h.block _ (by have:=gU.out.lt.2.1;omega)) (h.block _ (zkf hnb)));clear hW0 hbW hnb;have hdr:=(zs W0).drew;have hSS:(fun w':World=>(zv w' yb 0 (.func (.yield l) #[] #[]))/\(zv w' pb 0 (.slice Ap q.length cp))/\zN4 w' W.heap.size (.int .u8 k) (.int .i64 nn) (.string s) (.slice A ks.length c)) W0.drew:=ko.out _ hdr;refine wp_region_noPanic ?_;refine(wpIn_wide (n:=n)).1 ?_
 refine zms (ro:=none) (fun w':World=>(zv w' yb 0 (.func (.yield l) #[] #[]))/\(zv w' pb 0 (.slice Ap q.length cp))/\zN4 w' W.heap.size (.int .u8 k) (.int .i64 nn) (.string s) (.slice A ks.length c)) (by kernel_rfl) ?_;refine zI 0 hSS ?_;refine zI 1 hSS ?_;refine zI 3 hSS ?_;refine znM (i:=2) (by kernel_rfl) rfl (by kernel_rfl) (by rfl) (fun K hK=>?_);refine zmj (by rfl) (.func 55) (.tmp 9) _ (by rfl) 55 _ zm1 (by rfl) _ (by rfl) _ (znu (zp2 q Ap cp _ _ ((bU.out.later aU.out).later hdr) (by unfold LI;omega))) ?_;rintro v2 w2 ⟨A2,c2,rfl,_,_,aj⟩;have b2:=zka hdr aj;have aB:(fun w':World=>(zv w' yb 0 (.func (.yield l) #[] #[]))/\(zv w' pb 0 (.slice Ap q.length cp))/\zN4 w' W.heap.size (.int .u8 k) (.int .i64 nn) (.string s) (.slice A ks.length c)) w2:=ko.out _ b2;refine hK.out _ _ aB ?_;clear hK K hSS;(try simp only[zQ])
 refine znM (i:=4) (by kernel_rfl) rfl (by kernel_rfl) (by rfl) (fun K hK=>?_);refine zmj (by rfl) (.func 66) (.tmp 11) _ (by rfl) 66 _ zx4 (by rfl) _ (by rfl) _ (zzL (znL (.nd k nn s ks) _ _ ((HV.out.later aU.out).later b2).any)) ?_;rintro v3 w3 ⟨k3,n3,s3,A3,l3,c3,rfl,dm,aO⟩;have b3:=zka b2 aO;have aV:(fun w':World=>(zv w' yb 0 (.func (.yield l) #[] #[]))/\(zv w' pb 0 (.slice Ap q.length cp))/\zN4 w' W.heap.size (.int .u8 k) (.int .i64 nn) (.string s) (.slice A ks.length c)) w3:=ko.out _ b3;refine hK.out _ _ aV ?_;clear hK K aB;(try simp only[zQ]);have ow:=zka aU.out b3;have qI:=HJ.out _ _ _ _ lh.out (Chg.of_below ow);have hit3:=HIT.out.later ow;obtain⟨zN,lX,zP,zO,Ao,wX⟩:=HY.out pre (.nd k nn s ks) C w3 (.slice A2 q.length c2) (nv k3 n3 s3 A3 l3 c3) qI (by
  have:=dH.out;simp only[po]at this;exact(List.prefix_append_right_inj pre).2 ⟨_,rfl⟩ |>.trans this) ⟨_,_,_,rfl⟩ (dm.mono fun b hb=>by have h1:=HIT.out.gp;have h2:=b2.size;have h3:=HZ0.out;have h4:w2.heap.size<=b:=hb;omega)
 refine zqC (i:=5) (by kernel_rfl) rfl (by kernel_rfl) (by rfl) (l:=l) (f:=zN) (tmps:=lX) (assign:=zP) (body:=zO) ?_ wX ?_
 ·(try simp only[zA,zB,zC]);go_simp
 ·clear Ao wX;rintro e W1 (⟨rfl,C1,hj1,bz,dF⟩|⟨rfl,C1,o9,dF⟩)
  ·have dY:(fun w':World=>(zv w' yb 0 (.func (.yield l) #[] #[]))/\(zv w' pb 0 (.slice Ap q.length cp))/\zN4 w' W.heap.size (.int .u8 k) (.int .i64 nn) (.string s) (.slice A ks.length c)) W1:=HS.out _ ((dF.block _ (by have:=hit3.lt.1;omega) hit3.cy).trans (b3.block _ (by have:=gU.out.lt.1;omega))) ((dF.block _ (by have:=hit3.lt.2.1;omega) hit3.cp).trans (b3.block _ (by have:=gU.out.lt.2.1;omega))) ((dF.block _ (by have:=ow.size;have:=b3.size;have:=HZ0.out;omega) (fun h=>by have:=jP.out _ _ _ lh.out _ h;omega)).trans (b3.block _ (by have:=HZ0.out;omega)));refine⟨_,rfl,dY,?_⟩;(try simp only[zQ]);refine zI 6 dY ?_;refine zoh (by kernel_rfl) ?_;refine NoPanic.normal ?_;obtain⟨_,_,_,_,_,m3⟩:=dY;have hit1:It C1 W1 n0 l yb pb vb (.slice Ap q.length cp) q:=hit3.chg dF (fun b hb=>by
    rcases hb with rfl|rfl|rfl|hb
    ·exact hit3.cy
    ·exact hit3.cp
    ·exact hit3.cv
    ·exact hit3.cr b hb) (fun b hb hc=>by
    have hl3:=hit3.lt;rcases bz b hc with h|h
    ·rcases hb with rfl|rfl|rfl|hb
     ·exact hit3.cy h
     ·exact hit3.cp h
     ·exact hit3.cv h
     ·exact hit3.cr b hb h
    ·rcases hb with rfl|rfl|rfl|hb
     ·omega
     ·omega
     ·omega
     ·have:=hl3.2.2.2 b hb;omega)
   have HI0:=zh (show VInv J n0 l yb pb vb pre (.nd k nn s ks) [] C (.slice Ap q.length cp) q W0 W1 C1 (.slice Ap q.length cp)from⟨hj1,hit1,fun b hb=>by
    have:=b3.size;rcases bz b hb with h|h
    ·exact .inl h
    ·exact .inr (by omega),fun b hb=>.inl hb,(Chg.of_below b3).trans2 dF fun b _ h=>.inl h⟩)
   clear hj1 bz dF aV qI hit3 hit1 b3 b2 ow aj aO dm hdr lh gU ko HS bU;go_wp2_with fail
   go_loopw [18] (fun i wr=>∃(j:Nat) (C':Nat->Prop) (pv':Value),j<=ks.length/\i=.int .i64 j/\VInv J n0 l yb pb vb pre (.nd k nn s ks) (pos (ks.take j)) C (.slice Ap q.length cp) q W0 wr C' pv') (fun i _=>ks.length-(intOf i).toNat)
   case atStart=>exact⟨0,C1,_,Nat.zero_le _,rfl,HI0.out⟩
   case round =>
    obtain⟨j,C',pv',hj,rfl,hinv⟩:=hrel;have ah:=zh hinv;clear m3 HI0;by_cases hlt:j<ks.length
    ·obtain⟨hjj,hit,qL,aY,hch⟩:=hinv;have hn0p:=hit.gp;have hrow:=ae.out.keep (w':=wr) (S':=R) (fun b hb _=>hb) (fun b hb hblt=>by
      have hb0:=HRR.out b hb;rw[hch.block b (by have:=HZ0.out;omega) (fun h=>by
       rcases h with h|h|h
       ·exact HCR.out b h hb
       ·omega
       ·have:=HLT.out.2.2.2 b h;omega)]
      exact aU.out.block b hblt)
     obtain⟨a,u,A1,c1,rfl,_,Hu,⟨q0,q1,q2,q3⟩,hnu⟩:=hrow.nd hlt;obtain⟨Aq,cq,rfl,_,_⟩:=zlp hit.row hit.fits;have p1:wr.cell? ⟨pb,0,none⟩=some (.slice Aq q.length cq):=zc hit.p rfl;have sI:=hit.lt;have jE:=jP.out _ _ _ hjj;have hn0w:n0<=wr.heap.size:=by have:=sI.2.1;omega
     have hsz0:=hch.size;have bk:Below wr.heap.size wr ((wr.alloc (.cells #[.int .u8 u.k,.int .i64 u.n,.string u.s,.slice A1 u.ks.length c1] 28)).alloc (.cells #[.int .i64 (j:Int)] 3)):=(zr.alloc zl _).alloc (by simp) _;have pz:=hit.later bk;have hpk:=pz.p;have p2:(wr.alloc (.cells #[.int .u8 u.k,.int .i64 u.n,.string u.s,.slice A1 u.ks.length c1] 28)).cell? ⟨pb,0,none⟩=some (.slice Aq q.length cq):=zkj p1 _;have hm1:q.length+1<=maxLen:=by unfold maxLen;omega
     have hm2:(q.length+1)*8<=140737488355328:=by omega
     have HJJ:=zh hjj;have jQ:=zh pz;have vw:=zh hit;have uR:=zh hnu;have aI:=zh qL;have qh:=zh aY;have HCHR:=zh hch;have lU:=zh sI;have dJ:=zh jE;have hrowk:=pz.row;have hbI:=zpb;have hnew:∀(i:Nat) (u':Value),[Value.int .i64 (j:Int)][i]?=some u'->((wr.alloc (.cells #[.int .u8 u.k,.int .i64 u.n,.string u.s,.slice A1 u.ks.length c1] 28)).alloc (.cells #[.int .i64 (j:Int)] 3)).cell? ((⟨wr.heap.size+1,0,none⟩:Addr).add i)=some u':=fun i u' h=>by
      have:=zkU (wr.alloc (.cells #[.int .u8 u.k,.int .i64 u.n,.string u.s,.slice A1 u.ks.length c1] 28)) 3 [Value.int .i64 (j:Int)] i u' h;simpa using this
     clear hjj hit qL aY hch hrow hnu pz jE sI
     go_wp2_with (at_builtin;refine wpList_append_own_at (P:=prog) _ rfl (.tmp 23) (.tmp 25) 42 rfl n0 3 i0 _ 1 8 underlying42 hi0 hz0 hz1 hz2 rfl (by decide) (.slice Aq q.length cq) q.length _ rfl hrowk ⟨wr.heap.size+1,0,none⟩ 1 1 [.int .i64 (j:Int)] rfl rfl hnew (by intro u' hu';simp at hu';subst hu';rfl) hm1 hm2 (by simp;omega) ?_;intro v2 w2 h2 h3 h4 h5;obtain⟨g2,cap2,rfl⟩:=ownsRow_succ h2;have hbx:=(h3.block _ (zkf hpk) (fun e=>jQ.out.rp e.symm)).trans hpk;have hy0:w2.cell? ⟨pb,0,none⟩=some (.slice Aq q.length cq):=zc hbx rfl;have hy1:w2.frozen? ⟨pb,0,none⟩=false:=zf hbx;have jw:∀b,(Value.slice (some ⟨g2,0,none⟩) (q.length+1) cap2).ownBlock=some b->(Value.slice Aq q.length cq).ownBlock=some b\/((wr.alloc (.cells #[.int .u8 u.k,.int .i64 u.n,.string u.s,.slice A1 u.ks.length c1] 28)).alloc (.cells #[.int .i64 (j:Int)] 3)).heap.size<=b:=(fun b hb=>by rcases h5 with h5|h5;exact .inl (h5▸hb);exact .inr (by rw[hb]at h5;injection h5 with h5;omega));have hst:=jQ.out.put (q':=q++[(j:Int)]) (by simpa using h2) (by intro x hx;simp only[List.mem_append,List.mem_singleton]at hx;rcases hx with hx|rfl;exact jQ.out.fits x hx;exact⟨by omega,by omega⟩) h3 jw (fun b hb=>by have:=dJ.out b hb;simp;omega);have hkb:w2.heap[wr.heap.size]?=some (.cells #[.int .u8 u.k,.int .i64 u.n,.string u.s,.slice A1 u.ks.length c1] 28 (0,0)):=(h3.block _ (by simp;omega) (fun e=>by have:=lU.out.2.2.2 _ e.symm;omega)).trans (zkd (heap_alloc_new wr (.cells #[.int .u8 u.k,.int .i64 u.n,.string u.s,.slice A1 u.ks.length c1] 28)) _);have hvb:w2.heap[vb]?=some _:=(h3.block _ (zkf jQ.out.v) (fun e=>jQ.out.rv e.symm)).trans jQ.out.v;have y3:w2.cell? ⟨vb,0,none⟩=some (.func (.func 118) #[] #[.pointer (some ⟨yb,0,none⟩),.pointer (some ⟨pb,0,none⟩),.pointer (some ⟨vb,0,none⟩)]):=zc hvb rfl;obtain⟨k0,k1,k2,k3'⟩:=box4 hkb;have HST:=zh hst;have qz:=zh h3;have HOB2:=zh jw;have hne1:¬ wr.heap.size=pb:=(fun e=>by have:=lU.out.2.1;omega);have hne2:¬ pb=wr.heap.size:=(fun e=>hne1 e.symm);have hne3:¬ vb=pb:=jQ.out.nvp;have hne4:¬ pb=vb:=(fun e=>hne3 e.symm);clear h2 h3 h4 h5 hst hbx hkb hvb jw)
     have mJ:Chg (fun b=>b=pb\/(Value.slice Aq q.length cq).ownBlock=some b) wr (w2.setCell ⟨pb,0,none⟩ (.slice (some ⟨g2,0,none⟩) (q.length+1) cap2)):=((((Chg.refl _ wr).alloc _).alloc _).trans2 (Chg.row qz.out) (fun b _ h=>.inr h)).setCell (.inl (.inl rfl)) _;have hszA:=mJ.size;have hjA:J (pre++((.nd k nn s ks)::pos (ks.take j))) C' (w2.setCell ⟨pb,0,none⟩ (.slice (some ⟨g2,0,none⟩) (q.length+1) cap2)):=HJ.out _ _ _ _ HJJ.out (mJ.mono fun b _ hb hc=>by
      rcases hb with rfl|hb
      ·exact vw.out.cp hc
      ·exact vw.out.cr b hb hc)
     have hnA:NV (w2.setCell ⟨pb,0,none⟩ (.slice (some ⟨g2,0,none⟩) (q.length+1) cap2)) R u (nv u.k u.n u.s A1 u.ks.length c1):=uR.out.keep (fun b hb _=>hb) (fun b hb hblt=>mJ.block b hblt (fun h=>by
      have hb0:=HRR.out b hb;rcases h with h|h
      ·have:=vw.out.gp;omega
      ·have:=(lU.out.2.2.2 b h).1;omega))
     have hCRA:∀b,C' b->¬ R b:=fun b hb hr=>by
      rcases aI.out b hb with h|h
      ·exact HCR.out b h hr
      ·have:=HRR.out b hr;have:=HIT.out.gp;have:=HZ0.out;omega
     have hpreA:(pre++((.nd k nn s ks)::pos (ks.take j)))++po u <+: xs:=by
      have h:=dH.out;refine List.IsPrefix.trans ?_ h;rw[List.append_assoc];refine(List.prefix_append_right_inj pre).2 ?_;simp only[po,List.cons_append,List.prefix_cons_inj];rw[<-Hu.out];exact zzA hlt
     have hdA:(q++[(j:Int)]).length+dep u<=1000:=by
      have:dep u<=deps ks:=by rw[<-Hu.out];exact zpV (List.getElem_mem hlt)
      simp;omega
     have HC:=zh (qy.out u (by rw[<-Hu.out];exact List.getElem_mem hlt) _ C' _ _ _ _ hjA HST.out hnA hCRA hpreA hdA);have HCHA:=zh mJ;have HSZA:=zh hszA;have hE:=HST.out.lt.2.1;clear hjA hnA hCRA hpreA hdA mJ hszA;have HCHW:=zh (show Chg (fun b=>C b\/b=pb\/(Value.slice Ap q.length cp).ownBlock=some b) W0 (w2.setCell ⟨pb,0,none⟩ (.slice (some ⟨g2,0,none⟩) (q.length+1) cap2))from HCHR.out.trans2 HCHA.out fun b hb h=>by
      rcases h with h|h
      ·exact .inr (.inl h)
      ·rcases qh.out b h with h|h
       ·exact .inr (.inr h)
       ·omega)
     have uQ:=zh (show ∀b,(Value.slice (some ⟨g2,0,none⟩) (q.length+1) cap2).ownBlock=some b->(Value.slice Ap q.length cp).ownBlock=some b\/W0.heap.size<=b from fun b hb=>by
      rcases HOB2.out b hb with h|h
      ·exact qh.out b h
      ·exact .inr (by simp at h;omega))
     refine HC.out.mono ?_;rintro e W5 (⟨rfl,C2,Ah,hj2,hit2,hC2,hob3,bN⟩|⟨rfl,pre',C2,mD,bN⟩)
     ·have hrow2:=hit2.row;rw[show(q++[(j:Int)]).length=q.length+1 by simp]at hrow2;obtain⟨g3,jH,rfl⟩:=ownsRow_succ hrow2;have hcap3:q.length<=jH:=by
       rcases hrow2.2 with⟨h,_⟩|⟨g',cap',cur,hv',_,_,hc',_⟩
       ·cases h
       ·cases hv';omega
      have hcap4:(q.length:Int)<=(jH:Int):=by omega
      have hlt2:=hit2.lt;have x0:W5.cell? ⟨pb,0,none⟩=some (.slice (some ⟨g3,0,none⟩) (q.length+1) jH):=zc hit2.p rfl;have x1:W5.frozen? ⟨pb,0,none⟩=false:=zf hit2.p;have oU:=ownsRow_pop (size:=1) (n:=q.length) (xs:=q.map fun x=>Value.int .i64 x) (last:=[.int .i64 (j:Int)]) (by simp) (by simpa using hrow2);have hC2l:=jP.out _ _ _ hj2;have iy:=hit2.put (q':=q) oU HIT.out.fits (zlZ _ _) (fun b hb=>.inl hb) hC2l;have hjF:J (pre++((.nd k nn s ks)::pos (ks.take (j+1)))) C2 (W5.setCell ⟨pb,0,none⟩ (.slice (some ⟨g3,0,none⟩) q.length jH)):=by
       have:=HJ.out _ _ _ _ hj2 (((Chg.refl (fun b=>b=pb) W5).setCell (p:=⟨pb,0,none⟩) (.inl rfl) (.slice (some ⟨g3,0,none⟩) q.length jH)).mono fun b _ hb hc=>by rw[show b=pb from hb]at hc;exact hit2.cp hc);rw[zsR hlt,Hu.out];simpa using this
      have HF:=zh (show VInv J n0 l yb pb vb pre (.nd k nn s ks) (pos (ks.take (j+1))) C (.slice Ap q.length cp) q W0 (W5.setCell ⟨pb,0,none⟩ (.slice (some ⟨g3,0,none⟩) q.length jH)) C2 (.slice (some ⟨g3,0,none⟩) q.length jH)from⟨hjF,iy,fun b hb=>by
        rcases hC2 b hb with h|h
        ·exact aI.out b h
        ·exact .inr (by have:=HSZA.out;omega),fun b hb=>by
        rcases hob3 b hb with h|h
        ·exact uQ.out b h
        ·exact .inr (by have:=HSZA.out;omega),(HCHW.out.trans2 bN fun b hb h=>by
        rcases h with h|h|h
        ·rcases aI.out b h with h|h
         ·exact .inl h
         ·omega
        ·exact .inr (.inl h)
        ·rcases uQ.out b h with h|h
         ·exact .inr (.inr h)
         ·omega).setCell (.inl (.inr (.inl rfl))) _⟩)
      clear hrow2 hlt2 oU hC2l iy hjF hj2 hit2 hC2 hob3 bN;go_wp2_with fail
      go_roundw
      case rel=>exact⟨j+1,C2,_,by omega,by go_num,HF.out⟩
      case measure=>simp[intOf];omega
     ·have HX:=zh mD;have HF:=zh (show Chg (fun b=>C b\/b=pb\/(Value.slice Ap q.length cp).ownBlock=some b) W W5 from(Chg.of_below aU.out).trans2 (HCHW.out.trans2 bN fun b hb h=>by
        rcases h with h|h|h
        ·rcases aI.out b h with h|h
         ·exact .inl h
         ·omega
        ·exact .inr (.inl h)
        ·rcases uQ.out b h with h|h
         ·exact .inr (.inr h)
         ·omega) fun b _ h=>h)
      clear mD bN;go_wp2_with fail;go_ret;exact .inr ⟨rfl,_,_,HX.out,HF.out⟩
    ·obtain rfl:j=ks.length:=by omega
     clear hinv;go_wp2_with fail;go_ret;have hinv:=ah.out;rw[List.take_of_length_le zl]at hinv;obtain⟨hjj,hit,qL,aY,hch⟩:=hinv;refine .inl ⟨rfl,C',pv',by simpa[po]using hjj,hit,fun b hb=>(qL b hb).imp id fun h=>?_,fun b hb=>(aY b hb).imp id fun h=>?_,(Chg.of_below aU.out).trans2 hch fun b _ h=>h⟩
     ·have:=HZ0.out;omega
     ·have:=HZ0.out;omega
  ·have dY:(fun w':World=>(zv w' yb 0 (.func (.yield l) #[] #[]))/\(zv w' pb 0 (.slice Ap q.length cp))/\zN4 w' W.heap.size (.int .u8 k) (.int .i64 nn) (.string s) (.slice A ks.length c)) W1:=HS.out _ ((dF.block _ (by have:=hit3.lt.1;omega) hit3.cy).trans (b3.block _ (by have:=gU.out.lt.1;omega))) ((dF.block _ (by have:=hit3.lt.2.1;omega) hit3.cp).trans (b3.block _ (by have:=gU.out.lt.2.1;omega))) ((dF.block _ (by have:=ow.size;have:=b3.size;have:=HZ0.out;omega) (fun h=>by have:=jP.out _ _ _ lh.out _ h;omega)).trans (b3.block _ (by have:=HZ0.out;omega)));refine⟨_,rfl,dY,?_⟩;(try simp only[zQ]);refine zI 6 dY ?_;refine zoh (by kernel_rfl) ?_;refine NoPanic.normal ?_;have yo:=zh o9;have fP:=zh ((Chg.of_below (C:=fun b=>C b\/b=pb\/(Value.slice Ap q.length cp).ownBlock=some b) ow).trans2 dF fun b _ h=>.inl h);clear o9 dF dY aV qI hit3;go_wp2_with fail
   go_ret;exact .inr ⟨rfl,_,_,yo.out,fP.out⟩
theorem zpe(n gr:Nat)(t:T)(W:World)(S:Nat->Prop)(k nn:Int)(s:ByteArray)(A:Option Addr)(m c:Nat)(hgr:W.heap[gr]?=some (.cells #[zj k,zi nn,.string s,.slice A m c] 28 (0,0)))
  (hn:NV W S t (nv k nn s A m c))(hd:dep t<=1000):zLA n prog 117 #[.pointer (some ⟨gr,0,none⟩)] (po t) (fun b=>b=gr\/S b) W:=by
 intro l J Jx C W1 hl0 jF hch hJ iG hY h0;refine(callsIn_wide (n:=n)).2 ?_;have pE:=hch.keep hgr fun h=>jF _ h (.inl rfl);have hn1:NV W1 (fun b=>S b/\b<W1.heap.size) t (nv k nn s A m c):=hn.keep (fun b hb hlt=>⟨hb,Nat.lt_of_lt_of_le hlt hch.size⟩) fun b hb hlt=>hch.block b hlt fun h=>jF _ h (.inr hb);have hgl:=zkf pE;have HJ:=zh hJ;have jP:=zh iG;have HY:=zh hY;have H0:=zh h0;have HN:=zh hn1;have qz:=zh pE;have HC:=zh (show ∀b,C b->¬ (S b/\b<W1.heap.size)from fun b hb hs=>jF b hb (.inr hs.1));obtain⟨m0,m1,m2,m3⟩:=box4 pE;have z0:=fun o1 o2 o3=>zkj (zkj (zkj m0 o1) o2) o3;have z1:=fun o1 o2 o3=>zkj (zkj (zkj m1 o1) o2) o3;have z2:=fun o1 o2 o3=>zkj (zkj (zkj m2 o1) o2) o3;have z3:=fun o1 o2 o3=>zkj (zkj (zkj m3 o1) o2) o3;clear jF hch hJ iG hY h0 hgr hn hn1 pE m0 m1 m2 m3
 show Calls prog 117 #[.func (.yield l) #[] #[],.pointer (some ⟨gr,0,none⟩)] W1 _
 go_enter func117,ntmps117;go_wp2_with fail;obtain⟨Wv,xC⟩:=zX ((((W1.alloc (.cells #[.func (.yield l) #[] #[]] 180)).alloc (.cells #[zn] 42)).alloc (.cells #[.func (.func 118) #[] #[.pointer (some ⟨W1.heap.size,0,none⟩),.pointer (some ⟨W1.heap.size+1,0,none⟩),.pointer (some ⟨W1.heap.size+1+1,0,none⟩)]] 102)));have hb3:zw W1 Wv:=by rw[<-xC];exact zkb (zkb (zkb zr _) _) _
 have hit:It C Wv W1.heap.size l W1.heap.size (W1.heap.size+1) (W1.heap.size+1+1) zn []:=by
  have jE:=jP.out _ _ _ H0.out;have hy:=zkd (zkd (heap_alloc_new W1 (.cells #[.func (.yield l) #[] #[]] 180)) (.cells #[zn] 42)) (.cells #[.func (.func 118) #[] #[.pointer (some ⟨W1.heap.size,0,none⟩),.pointer (some ⟨W1.heap.size+1,0,none⟩),.pointer (some ⟨W1.heap.size+1+1,0,none⟩)]] 102);have hp:=zkd (heap_alloc_new (W1.alloc (.cells #[.func (.yield l) #[] #[]] 180)) (.cells #[zn] 42)) (.cells #[.func (.func 118) #[] #[.pointer (some ⟨W1.heap.size,0,none⟩),.pointer (some ⟨W1.heap.size+1,0,none⟩),.pointer (some ⟨W1.heap.size+1+1,0,none⟩)]] 102);have hv:=heap_alloc_new ((W1.alloc (.cells #[.func (.yield l) #[] #[]] 180)).alloc (.cells #[zn] 42)) (.cells #[.func (.func 118) #[] #[.pointer (some ⟨W1.heap.size,0,none⟩),.pointer (some ⟨W1.heap.size+1,0,none⟩),.pointer (some ⟨W1.heap.size+1+1,0,none⟩)]] 102);simp only[World.size_alloc]at hp hv
  rw[xC]at hy hp hv;exact⟨hy,hv,hp,World.ownsRow_nil _ _ _ _,zS,zO,zO,zO,zO,zO,by simp[Value.ownBlock],by simp[Value.ownBlock],by simp[Value.ownBlock],
   (fun h=>by have:=jE _ h;omega),(fun h=>by have:=jE _ h;omega),(fun h=>by have:=jE _ h;omega),(by simp[Value.ownBlock])⟩
 rw[xC];have hj:=HJ.out _ _ _ _ H0.out (Chg.of_below hb3);refine(zut n l W1.heap.size W1.heap.size (W1.heap.size+1) (W1.heap.size+1+1) (fun b=>S b/\b<W1.heap.size) (po t) J Jx HJ.out jP.out (fun b hb=>hb.2) hl0 HY.out t [] C Wv zn [] _ hj hit (HN.out.later hb3) HC.out zS (by simpa using hd)).mono ?_;rintro e W5 (⟨rfl,C2,Ah,hj2,-,-,-,bN⟩|⟨rfl,pre',C2,mD,bN⟩)
 ·have HF:=zh (show Chg C W1 W5 from(Chg.of_below hb3).trans2 bN fun b hb h=>by
   rcases h with h|h|h
   ·exact h
   ·omega
   ·simp[Value.ownBlock]at h)
  have HX:=zh hj2;clear hj2 bN z0 z1 z2 z3 xC hit hj;go_wp2_with fail;go_end0;exact⟨⟨_,rfl⟩,.inl ⟨C2,by simpa using HX.out,HF.out⟩⟩
 ·have HF:=zh (show Chg C W1 W5 from(Chg.of_below hb3).trans2 bN fun b hb h=>by
   rcases h with h|h|h
   ·exact h
   ·omega
   ·simp[Value.ownBlock]at h)
  have HX:=zh mD;clear mD bN z0 z1 z2 z3 xC hit hj;go_wp2_with fail;go_end0;exact⟨⟨_,rfl⟩,.inr ⟨pre',C2,HX.out,HF.out⟩⟩
theorem zts(t:T)(v:Value)(w:World)(hv:NV w Any t v):Calls prog 92 #[v] w fun e w'=>∃gr k n s A m c,e=.returned (.func (.func 117) #[] #[.pointer (some ⟨gr,0,none⟩)])/\w.heap.size<=gr /\
  w'.heap[gr]?=some (.cells #[zj k,zi n,.string s,.slice A m c] 28 (0,0))/\NV w' (fun b=>w.heap.size<=b/\b<w'.heap.size) t (nv k n s A m c)/\zw w w':=by
 have HV:=zh hv;obtain⟨A,c,rfl,-⟩:=hv.open_;clear hv;generalize t.k=k,t.n=n,t.s=s,t.ks.length=m at *
 go_enter func92,ntmps92;go_wp2_with fail;refine(znL t _ _ (HV.out.later (zr.alloc zl _))).mono ?_;rintro e w1 ⟨k1,n1,s1,A1,m1,c1,rfl,hn1,aa⟩;have hb:zw w (w1.alloc (.cells #[zj k1,zi n1,.string s1,.slice A1 m1 c1] 28)):=zkb (zka (zkb zr _) aa) _;have HB:=zh hb;have HZ:=zh (show w.heap.size<=w1.heap.size by have:=aa.size;simp at this;omega);have HN:=zh hn1;clear aa hn1 hb;go_wp2_with fail;go_ret;refine⟨w1.heap.size,k1,n1,s1,A1,m1,c1,rfl,HZ.out,heap_alloc_new w1 _,HN.out.keep (fun b hb hlt=>⟨?_,by simp;omega⟩) (fun b _ hlt=>Below.heap_alloc w1 _ b hlt),HB.out⟩;have hb':w.heap.size+1<=b:=by simpa using hb
 omega
theorem zvE:IsFn prog 117 f117:=⟨func117,zK,zK⟩
attribute [local go_sem] Oper.semAt_some
def conB(t:T):Bool:=isE t&&(zlT t).c
theorem zwT(t:T)(v:Value)(w:World)(hv:NV w Any t v):Calls prog 148 #[v] w fun e w'=>∃x:Int,e=.returned (.tuple #[zi x,.bool (conB t)])/\zw w w':=by
 have HV:=zh hv;obtain⟨A,c,rfl,-⟩:=hv.open_;clear hv
 cases hE:isE t
 ·have hc:conB t=false:=by simp[conB,hE]
  rw[hc];have HE:=zh hE;generalize t.k=k,t.n=n,t.s=s,t.ks.length=m at *
  clear hE hc;go_enter func148,ntmps148;go_wp2_with fail;refine(zkG t _ _ (HV.out.later (zkb zr _))).mono ?_;rintro e w1 ⟨rfl,aa⟩;have q1:=zka (zkb zr _) aa;rw[HE.out];clear aa;go_wp2_with fail;go_ret2;exact⟨_,rfl,q1⟩
 ·have hc:conB t=(zlT t).c:=by simp[conB,hE]
  rw[hc];have HE:=zh hE;obtain⟨⟨gv,gc⟩,hf⟩:=zX (zlT t);have HFO:=zh (show ∀(v:Value) (w:World),NV w Any t v->Calls prog 164 #[v] w (NewF w ⟨gv,gc⟩)from hf▸zxQ t hE);rw[hf];generalize t.k=k,t.n=n,t.s=s,t.ks.length=m at *
  clear hE hc hf;go_enter func148,ntmps148;go_wp2_with fail;refine(zkG t _ _ (HV.out.later (zkb zr _))).mono ?_;rintro e w1 ⟨rfl,aa⟩;have q1:=zka (zkb zr _) aa;have hN:=zkc (heap_alloc_new w (.cells #[zj k,zi n,.string s,.slice A m c] 28)) aa;obtain⟨a0,a1,a2,a3⟩:=box4 hN;rw[HE.out];clear aa hN;go_wp2_with fail;refine(HFO.out _ _ (HV.out.later q1)).mono ?_;rintro e w2 ⟨k2,n2,s2,A2,l2,c2,rfl,-,aj⟩;have q2:=zka q1 aj;clear aj a0 a1 a2 a3;obtain⟨-,-,-,-,y4,y5⟩:=box6 (heap_alloc_new w2 (.cells #[zj k2,zi n2,.string s2,.slice A2 l2 c2,zi gv,.bool gc] 208));have HS:=zh (show(fun w':World=>zv w' w2.heap.size 4 (zi gv)/\zv w' w2.heap.size 5 (.bool gc)) (w2.alloc (.cells #[zj k2,zi n2,.string s2,.slice A2 l2 c2,zi gv,.bool gc] 208)).drew from⟨y4,y5⟩);clear y4 y5;go_upto_region 4 with fail
  go_region_held3 (fun w':World=>zv w' w2.heap.size 4 (zi gv)/\zv w' w2.heap.size 5 (.bool gc))
   (with_reducible exact HS.out)
   (first|fail)
  go_wp2_with fail;refine bodyPost_ret (v:=.tuple #[zi gv,.bool gc]) (by simp[results,results148,go_sem]) rfl ⟨gv,rfl,(zkb q2 _).drew⟩
theorem zmT(t:T)(v:Value)(w:World)(hv:NV w Any t v):Calls prog 124 #[v] w (zu (.bool (conB t)) w):=by
 have HV:=zh hv;obtain⟨A,c,rfl,-⟩:=hv.open_;clear hv;obtain⟨b,hb⟩:=zX (conB t);rw[hb];have HB:=zh hb;clear hb;generalize t.k=k,t.n=n,t.s=s,t.ks.length=m at *
 go_enter func124,ntmps124;go_wp2_with fail;refine(zwT t _ _ (HV.out.later (zkb zr _))).mono ?_;rintro e w1 ⟨x,rfl,aa⟩;have q1:=zka (zkb zr _) aa;rw[HB.out];clear aa;go_wp2_with fail;go_ret;exact⟨rfl,q1⟩
def zmn(s:ByteArray)(x:T):Bool:=(x.k==2||x.k==3||x.k==4||x.k==5)&&x.s.toList==s.toList
def menB(t:T)(s:ByteArray):Bool:=(po t).any (zmn s)
def MenI(nm:ByteArray)(N:Nat)(r:Bool)(q:Prop)(C:Nat->Prop)(W:World):Prop :=
 (∀b,C b↔b=N+1\/b=N+1+1)/\W.heap[N+1]?=some (.cells #[.string nm] 9 (0,0))/\W.heap[N+1+1]?=some (.cells #[.bool r] 4 (0,0))/\q
theorem zn7(t:T)(nm:ByteArray)(v:Value)(w:World)(hv:NV w Any t v)(hd:dep t<=1000):Calls prog 120 #[v,.string nm] w (zu (.bool (menB t nm)) w):=by
 have HV:=zh hv;obtain⟨A,c,rfl,-⟩:=hv.open_;clear hv;obtain⟨b,hb⟩:=zX (menB t nm);rw[hb];have HB:=zh hb;have HD:=zh hd;clear hb hd;generalize t.k=k,t.n=n,t.s=s,t.ks.length=m at *
 refine(callsIn_wide (n:=3)).1 (callsIn_of_wp_marks func120 rfl trivial ((wpIn_wide (n:=3)).2 ?_));simp only[ntmps120,List.size_toArray,List.length_cons,List.length_nil,Nat.reduceAdd,Nat.reduceSub,Array.replicate_succ,Array.replicate_zero,List.push_toArray,List.append_toArray,List.nil_append,List.cons_append];go_wp2_with fail;refine(zts t _ _ (HV.out.later (zkb (zkb (zkb zr _) _) _))).mono ?_;rintro e x6 ⟨gr,k6,n6,s6,A6,m6,c6,rfl,hgr,hgb,iB,p9⟩;have q6:=zka (zkb (zkb (zkb (zs w) _) _) _) p9;have tZ:=zkc (zkd (heap_alloc_new (w.alloc (.cells #[zj k,zi n,.string s,.slice A m c] 28)) (.cells #[.string nm] 9)) (.cells #[.bool false] 4)) p9;have gK:=zkc (heap_alloc_new ((w.alloc (.cells #[zj k,zi n,.string s,.slice A m c] 28)).alloc (.cells #[.string nm] 9)) (.cells #[.bool false] 4)) p9
 simp only[World.size_alloc]at tZ gK hgr;have vG:=zh hgb;have iL:=zh iB;have qg:=zh q6;have cB:=zh gK;have qo:=zh tZ;have qz:=zh hgr;clear p9 hgb iB q6 gK tZ hgr;go_wp2_with fail;refine(wpIn_wide (n:=3)).1 ?_;refine zpx (n:=3) (gf:=117) (lb := #[.pointer (some ⟨gr,0,none⟩)]) rfl (zkH zvE) (zpe (3-1) gr t x6 _ k6 n6 s6 A6 m6 c6 vG.out iL.out HD.out) rfl
  (fun pre C W=>MenI nm w.heap.size false (pre.any (zmn nm)=false) C W)
  (fun _ C W=>MenI nm w.heap.size true ((po t).any (zmn nm)=true) C W)
  (fun b=>b=w.heap.size+1\/b=w.heap.size+1+1)
  (fun pre C W W' ⟨h1,h2,h3,h4⟩ hc=>⟨h1,hc.keep h2 (fun h=>h ((h1 _).2 (.inl rfl))),hc.keep h3 (fun h=>h ((h1 _).2 (.inr rfl))),h4⟩)
  (fun pre C W W' ⟨h1,h2,h3,h4⟩ hc=>⟨h1,hc.keep h2 (fun h=>h ((h1 _).2 (.inl rfl))),hc.keep h3 (fun h=>h ((h1 _).2 (.inr rfl))),h4⟩)
  (fun pre C W ⟨h1,h2,h3,_⟩ b hb=>by rcases(h1 b).1 hb with rfl|rfl;exact zkf h2;exact zkf h3)
  (fun pre C W ⟨h1,h2,h3,_⟩ b hb=>by rcases(h1 b).1 hb with rfl|rfl;exact zkf h2;exact zkf h3)
  (fun b hb hr=>by have:=qz.out;rcases hr with hr|hr<;>rcases hb with hb|hb<;>first|omega|(have:=hr.1;simp at this;omega)) ?_ ⟨fun _=>Iff.rfl,qo.out,cB.out,rfl⟩ ?_ ?_ ?_
 ·rintro b (rfl|hb)
  ·exact zkf vG.out
  ·exact hb.2
 ·rintro l pre x C W pv v ⟨hC,hnb,hrb,hno⟩ jE hl xu hpre ⟨Ap,mp,cp,rfl⟩ hnx;obtain⟨Ax,cx,rfl,hfx,hlx,hlcx,hrx⟩:=hnx.open_;change Code.wpIn (Fence.wide.inRound l) (3-1-1) prog _ _ _ _
  gi_wp2
  refine⟨(Chg.refl _ _).alloc _,fun W2 hW2=>?_⟩;have hwl:=zkf hnb;have hwl2:=zkf hrb;have hbx:=hW2.keep (heap_alloc_new W (.cells #[zj x.k,zi x.n,.string x.s,.slice Ax x.ks.length cx] 28)) (show ¬ W.heap.size=l by omega);have sD:=hW2.keep (zkd hnb (.cells #[zj x.k,zi x.n,.string x.s,.slice Ax x.ks.length cx] 28)) (fun h=>jE ((hC _).2 (.inl h.symm)));have oQ:=hW2.keep (zkd hrb (.cells #[zj x.k,zi x.n,.string x.s,.slice Ax x.ks.length cx] 28)) (fun h=>jE ((hC _).2 (.inr h.symm)));have hx0:W2.cell? ⟨W.heap.size,0,none⟩=some (zj x.k):=zc hbx rfl;have hx2:W2.cell? ⟨W.heap.size,2,none⟩=some (.string x.s):=zc hbx rfl;have hy0:W2.cell? ⟨w.heap.size+1,0,none⟩=some (.string nm):=zc sD rfl;have hz0:W2.cell? ⟨w.heap.size+1+1,0,none⟩=some (.bool false):=zc oQ rfl;have vY:W2.frozen? ⟨w.heap.size+1+1,0,none⟩=false:=zf oQ
  have hxm:x∈po t:=by
   obtain⟨ys,hys⟩:=hpre;rw[<-hys];simp
  have HXM:=zh hxm;have bS:=zh hno;have aI:=zh hC;have HNB2:=zh sD;have HRB2:=zh oQ;obtain⟨nx,hnx'⟩:=zX (zmn nm x);have HNX:=zh hnx';obtain⟨kk,hkk⟩:=zX (x.k);obtain⟨ss,hss⟩:=zX (x.s);have uX:=zh (show zmn nm x=((kk==2||kk==3||kk==4||kk==5)&&ss.toList==nm.toList) by rw[<-hkk,<-hss];rfl);rw[hkk]at hx0 ⊢;rw[hss]at hx2 ⊢;clear hW2 hbx hrx hnx hfx hlcx hlx hxm hpre hkk hss hC sD oQ hno hnx';change Code.wpIn (Fence.wide.inRound l) (3-1-1) prog _ _ _ _;have eQ:=zh (show zmn nm x=false->∀ac,zK1
    (fun pre C W=>MenI nm w.heap.size false (pre.any (zmn nm)=false) C W)
    (fun _ C W=>MenI nm w.heap.size true ((po t).any (zmn nm)=true) C W)
    (pre++[x]) C W2 Exit.normal ac W2 from fun h _=>⟨C,⟨aI.out,HNB2.out,HRB2.out,by rw[List.any_append,bS.out];simp[h]⟩,fun b hb=>.inl hb,Chg.refl _ _⟩)
  cases hq:(ss.toList==nm.toList)
  ·have hnn:zmn nm x=false:=by rw[uX.out,hq];simp
   by_cases k2:kk=2
   ·subst k2;gi_wp2;exact eQ.out hnn _
   by_cases k3:kk=3
   ·subst k3;gi_wp2;exact eQ.out hnn _
   by_cases k4:kk=4
   ·subst k4;gi_wp2;exact eQ.out hnn _
   by_cases k5:kk=5
   ·subst k5;gi_wp2;exact eQ.out hnn _
   have x2:(kk==2)=false:=by simpa using k2
   have x3:(kk==3)=false:=by simpa using k3
   have x4:(kk==4)=false:=by simpa using k4
   have x5:(kk==5)=false:=by simpa using k5
   gi_wp2
   exact eQ.out hnn _
  ·have HST:=zh (show(kk==2||kk==3||kk==4||kk==5)=true->∃C',MenI nm w.heap.size true ((po t).any (zmn nm)=true) C' (W2.setCell ⟨w.heap.size+1+1,0,none⟩ (.bool true))/\(∀b,C' b->C b\/W2.heap.size<=b)/\Chg C W2 (W2.setCell ⟨w.heap.size+1+1,0,none⟩ (.bool true))from fun h=>by
    refine⟨C,⟨aI.out,?_,?_,?_⟩,fun b hb=>.inl hb,(Chg.refl _ _).setCell (.inl ((aI.out _).2 (.inr rfl))) _⟩
    ·rw[Below.heap_setCell _ _ _ _ zS];exact HNB2.out
    ·have:=heap_setCell_same W2 (w.heap.size+1+1) 0 _ _ (.bool true) HRB2.out;simpa using this
    ·rw[List.any_eq_true];exact⟨x,HXM.out,by rw[uX.out,h,hq];rfl⟩)
   by_cases k2:kk=2
   ·subst k2;gi_wp2;exact HST.out rfl
   by_cases k3:kk=3
   ·subst k3;gi_wp2;exact HST.out rfl
   by_cases k4:kk=4
   ·subst k4;gi_wp2;exact HST.out rfl
   by_cases k5:kk=5
   ·subst k5;gi_wp2;exact HST.out rfl
   have x2:(kk==2)=false:=by simpa using k2
   have x3:(kk==3)=false:=by simpa using k3
   have x4:(kk==4)=false:=by simpa using k4
   have x5:(kk==5)=false:=by simpa using k5
   have hnn:zmn nm x=false:=by rw[uX.out,x2,x3,x4,x5];rfl
   gi_wp2
   exact eQ.out hnn _
 ·intro D C W' hD hC hch hK;obtain⟨bz,sw,eT,hno⟩:=hC;have hbf:b=false:=by rw[<-HB.out];exact hno
  subst hbf;have r0:W'.cell? ⟨w.heap.size+1+1,0,none⟩=some (.bool false):=zc eT rfl;have rf:W'.frozen? ⟨w.heap.size+1+1,0,none⟩=false:=zf eT;have xm:=qg.out.size;have hlR:=zkf cB.out;have kD:=zh (show zw w W' from qg.out.trans (hch.below xm (fun b h=>zO)));have HK:=zh hK;have kr:=zh eT;clear hch hK eT bz sw hno;go_wp2_with fail;have hK':(W'.setCell ⟨w.heap.size+1+1,0,none⟩ (.bool false)).heap[D]?=some (.deferred (some [])):=(Below.heap_setCell _ _ _ _ (show D≠w.heap.size+1+1 by omega)).trans HK.out;refine⟨zS,.inl ⟨_,_,rfl,run_takeDeferred hK',?_⟩⟩;have hr8:=heap_setCell_same W' (w.heap.size+1+1) 0 _ _ (.bool false) kr.out
  have AU:((W'.setCell ⟨w.heap.size+1+1,0,none⟩ (.bool false)).putObj D (.deferred none)).heap[w.heap.size+1+1]?=some (.cells #[.bool false] 4 (0,0)):=(World.putObj_heap_other (show w.heap.size+1+1≠D by omega)).trans (by simpa using hr8);have r1:((W'.setCell ⟨w.heap.size+1+1,0,none⟩ (.bool false)).putObj D (.deferred none)).cell? ⟨w.heap.size+1+1,0,none⟩=some (.bool false):=zc AU rfl;have dM:=kD.out.setCell (p:=⟨w.heap.size+1+1,0,none⟩) (by simp;omega) (.bool false);have aP:=dM.trans ((Chg.putObj (W'.setCell ⟨w.heap.size+1+1,0,none⟩ (.bool false)) D (.deferred none)).below (B:=w.heap.size) dM.size (fun b hb=>by have:b=D:=hb;omega));exact⟨.bool false,by simp[results,results120,go_sem,r1],rfl,aP⟩
 ·intro D pre C W' hD hC hch hK;obtain⟨bz,sw,eT,hno⟩:=hC;have hbf:b=true:=by rw[<-HB.out];exact hno
  subst hbf;have r0:W'.cell? ⟨w.heap.size+1+1,0,none⟩=some (.bool true):=zc eT rfl;have xm:=qg.out.size;have hlR:=zkf cB.out;have kD:=zh (show zw w W' from qg.out.trans (hch.below xm (fun b h=>zO)));have HK:=zh hK;have kr:=zh eT;clear hch hK eT bz sw hno;refine(wpIn_wide (n:=3)).2 ?_;go_wp2_with fail;refine⟨zS,.inl ⟨_,_,rfl,run_takeDeferred HK.out,?_⟩⟩;have AU:(W'.putObj D (.deferred none)).heap[w.heap.size+1+1]?=some (.cells #[.bool true] 4 (0,0)):=(World.putObj_heap_other (show w.heap.size+1+1≠D by omega)).trans kr.out;have r1:(W'.putObj D (.deferred none)).cell? ⟨w.heap.size+1+1,0,none⟩=some (.bool true):=zc AU rfl;have aP:=kD.out.trans ((Chg.putObj W' D (.deferred none)).below (B:=w.heap.size) kD.out.size (fun b hb=>by have:b=D:=hb;omega));exact⟨.bool true,by simp[results,results120,go_sem,r1],rfl,aP⟩
end
section
open Go Go.RowKit
def kidC(t:T)(i:Nat):T:=t.ks.getD i (.nd 0 0 ⟨#[]⟩ [])
theorem zl0{t:T}{i:Nat}(h:i<t.ks.length):kidC t i=t.ks[i]:=by simp[kidC,h]
theorem zxJ{t:T}{i:Nat}(h:i<t.ks.length):dep (kidC t i)<=dep t:=by
 rw[zl0 h];have:=zpV (List.getElem_mem h)
 cases t with
 | nd k n s ks=>simp only[dep,T.ks_nd]at *;omega
def idxB(t:T)(s:ByteArray):Bool:=t.k==3&&menB (kidC t 0) s
theorem zoS(t:T)(nm:ByteArray)(v:Value)(w:World)(hv:NV w Any t v)(hd:dep t<=1000)(hk:t.k=3->1<=t.ks.length):Calls prog 119 #[v,.string nm] w (zu (.bool (idxB t nm)) w):=by
 have HV:=zh hv;obtain⟨A,c,rfl,hf,hlk,hlc,hrow⟩:=hv.open_;by_cases h3:t.k=3
 ·have hl:=hk h3;have hm:=zn7 (kidC t 0) nm;have hdd:=zxJ (t:=t) (i:=0) zO;have HM:=zh (fun v w h=>hm v w h zO);obtain⟨b,hb⟩:=zX (menB (kidC t 0) nm);have hi:idxB t nm=b:=by simp[idxB,h3,hb]
  rw[hb]at HM;obtain⟨a,t1,A1,c1,rfl,_,Ht,⟨q0,q1,q2,q3⟩,hn⟩:=(hrow.later (zkb zr (.cells #[zj t.k,zi t.n,.string t.s,.slice A t.ks.length c] 28))).nd (i:=0) zO;have ht1:kidC t 0=t1:=by rw[zl0 zO,Ht.out]
  rw[ht1]at HM;rw[hi,h3];rw[h3]at q0 q1 q2 q3;have HN:=zh hn;rw[h3]at HN;obtain⟨m,hm'⟩:=zX (t.ks.length);rw[hm']at HN hl q0 q1 q2 q3 ⊢;generalize t.n=n,t.s=s at *
  have hfl:(0:Int)<(m:Int):=zO
  have gH:0<m:=zO
  simp only[Nat.zero_mul,Addr.add_zero']at q0 q1 q2 q3;clear hv hrow hf hlk hlc hm hdd hb hi ht1 hn Ht HV hk hm' hd hl;go_enter func119,ntmps119;go_wp2_with fail;refine(HM.out _ _ HN.out).mono ?_;rintro e w1 ⟨rfl,aa⟩;have q1:=zka (zkb zr _) aa;go_wp2_with fail;go_ret;exact⟨rfl,q1⟩
 ·have hi:idxB t nm=false:=by simp[idxB,h3]
  have x3:(t.k==3)=false:=by simpa using h3
  rw[hi];generalize t.k=k,t.n=n,t.s=s,t.ks.length=m at *
  clear hv HV hrow hf hlk hlc hk hd h3 hi;go_enter func119,ntmps119;go_wp2_with fail;go_ret;exact⟨rfl,zkb zr _⟩
def aliB(ts:List T)(ss:List ByteArray):Bool:=ts.any fun t=>ss.any (idxB t)
def NmE(w:World)(x:Int)(e:Ending)(w':World):Prop:=∃s,e=.returned (.tuple #[.string s,zi x])/\zw w w'
theorem zpd(ts:List T)(ss:List ByteArray)(A:Option Addr)(c:Nat)(B:Option Addr)(d:Nat)(w:World)(hrow:zkS w Any A ts)(hss:RowS w B ss)(hl:ts.length<=LK)(hl2:ss.length<=100)(ht:∀t∈ts,dep t<=1000/\(t.k=3->1<=t.ks.length)) :
  Calls prog 121 #[.slice A ts.length c,.slice B ss.length d] w (NmE w (if aliB ts ss=true then 8 else 0)):=by
 have hl':=zkz hl;obtain⟨R,hR⟩:∃R:Int,(if aliB ts ss=true then 8 else 0)=R:=⟨_,rfl⟩
 rw[hR];have HR:=zh hR;have ae:=zh hrow;have az:=zh hss;have HT:=zh ht;clear hrow hss hl ht hR;go_enter func121,ntmps121;go_wp2_with fail
 go_loopw [12] (fun i wr=>∃j:Nat,j<=ts.length/\i=zi j/\zw w wr/\Hid (aliB (ts.take j) ss=false)) (fun i _=>ts.length-(intOf i).toNat)
 case atStart=>exact⟨0,Nat.zero_le _,rfl,zr,zh rfl⟩
 case round =>
  obtain⟨j,hj,rfl,hbl,HJ⟩:=hrel;by_cases hlt:j<ts.length
  ·obtain⟨a,t,A1,c1,rfl,_,Ht,⟨q0,q1,q2,q3⟩,hn⟩:=(ae.out.later hbl).nd hlt;have AJ:=HT.out ts[j] (List.getElem_mem hlt);rw[Ht.out]at AJ;have uC:=zh AJ;have HN:=zh hn;have ag:=zh hbl;clear AJ hn;go_wp2_with fail
   go_loopw [9,18] (fun _ i wi=>∃q:Nat,q<=ss.length/\i=zi q/\zw wr wi/\wi.heap[wr.heap.size]?=some (.cells #[zj t.k,zi t.n,.string t.s,.slice A1 t.ks.length c1] 28 (0,0))/\Hid ((ss.take q).any (idxB t)=false)) (fun _ i _=>ss.length-(intOf i).toNat)
   case atStart=>exact⟨0,Nat.zero_le _,rfl,zkb zr _,heap_alloc_new wr _,zh rfl⟩
   case round =>
    obtain⟨q,hq,rfl,hbi,hbx,HQ⟩:=hrel;have CP:=zh hbi;have aR:=zh hbx;obtain⟨m0,m1,m2,m3⟩:=box4 hbx;by_cases hlq:q<ss.length
    ·obtain⟨a2,s2,rfl,Hs2,y0⟩:=(az.out.later (zka hbl hbi)).nd hlq;obtain⟨b,hb⟩:=zX (idxB t s2);have HB:=zh hb;clear hb q0 q1 q2 q3 hbx hbi hbl;go_wp2_with fail;refine(zoS t s2 _ _ (HN.out.later CP.out) uC.out.1 uC.out.2).mono ?_;rintro e w3 ⟨rfl,aO⟩;rw[HB.out];have HB3:=zh (zka CP.out aO);have xS:=zh (zkc aR.out aO);clear aO m0 m1 m2 m3 y0
     cases b
     ·have uN:Hid ((ss.take (q+1)).any (idxB t)=false):=zh (by rw[List.take_succ_eq_append_getElem hlq,List.any_append,HQ.out,Hs2.out];simp[HB.out]);go_wp2_with fail
      go_roundw
      case rel=>exact⟨q+1,zO,by go_num,HB3.out,xS.out,uN⟩
      case measure=>simp[intOf];omega
     ·have hRR:R=8:=by
       rw[<-HR.out,if_pos];unfold aliB;rw[List.any_eq_true];refine⟨ts[j],List.getElem_mem hlt,?_⟩;rw[Ht.out,List.any_eq_true];exact⟨ss[q],List.getElem_mem hlq,by rw[Hs2.out];exact HB.out⟩
      have HRR:=zh hRR;clear hRR;go_wp2_with fail;go_ret2;exact⟨s2,by rw[HRR.out];rfl,zka ag.out HB3.out⟩
    ·obtain rfl:q=ss.length:=zO
     have HJ2:Hid (aliB (ts.take (j+1)) ss=false):=zh (by
      have h1:=HQ.out;rw[List.take_of_length_le zl]at h1;have h2:=HJ.out;unfold aliB at *
      rw[List.take_succ_eq_append_getElem hlt,List.any_append,h2,Ht.out];simp[h1])
     clear q0 q1 q2 q3 hbx hbi hbl m0 m1 m2 m3;go_wp2_with fail
     go_roundw
     case rel=>exact⟨j+1,zO,by go_num,zka ag.out CP.out,HJ2⟩
     case measure=>simp[intOf];omega
  ·obtain rfl:j=ts.length:=zO
   have hRR:R=0:=by
    rw[<-HR.out,if_neg];have:=HJ.out;rw[List.take_of_length_le zl]at this;simp[this]
   have HRR:=zh hRR;have ag:=zh hbl;clear hRR hbl;go_wp2_with fail;go_ret2;exact⟨_,by rw[HRR.out];rfl,ag.out⟩
theorem zr2(k n:Int)(rs:ByteArray)(u3:Value)(s:ByteArray)(nb:Nat)(w:World)(hc:w.cell? ⟨nb,2,none⟩=some (.string s)) :
  Calls prog 123 #[.agg #[zj k,zi n,.string rs,u3],.pointer (some ⟨nb,0,none⟩)] w (zu (.bool (rs.toList==s.toList)) w):=by
 have hc':=zkj hc;go_enter func123,ntmps123;go_wp2_with fail;go_ret;exact⟨rfl,zr.alloc zl _⟩
def hasN(ks:List T)(s:ByteArray):Bool:=ks.any fun t=>t.s.toList==s.toList
theorem zpl(ks:List T)(A:Option Addr)(c:Nat)(s:ByteArray)(nb:Nat)(w:World)(hrow:zkS w Any A ks)(hl:ks.length<=LK)(hc:w.cell? ⟨nb,2,none⟩=some (.string s)) :
  Calls prog 147 #[.slice A ks.length c,.func (.func 123) #[] #[.pointer (some ⟨nb,0,none⟩)]] w fun e w'=>∃x:Int,e=.returned (zi x)/\decide (0<=x)=hasN ks s/\zw w w':=by
 have hl':=zkz hl;have ae:=zh hrow;have HC:=zh hc;obtain⟨R,hR⟩:=zX (hasN ks s);rw[hR];have HR:=zh hR;clear hrow hl hc hR;go_enter func147,ntmps147;go_wp2_with fail
 go_loopw [8] (fun i wr=>∃j:Nat,j<=ks.length/\i=zi j/\zw w wr/\Hid (hasN (ks.take j) s=false)) (fun i _=>ks.length-(intOf i).toNat)
 case atStart=>exact⟨0,Nat.zero_le _,rfl,zr,zh rfl⟩
 case round =>
  obtain⟨j,hj,rfl,hbl,HJ⟩:=hrel;by_cases hlt:j<ks.length
  ·obtain⟨a,t,A1,c1,rfl,_,Ht,⟨q0,q1,q2,q3⟩,-⟩:=(ae.out.later hbl).nd hlt;obtain⟨b,hb⟩:=zX ((t.s.toList==s.toList));have HB:=zh hb;clear hb;go_wp2_with fail;refine(zr2 t.k t.n t.s _ s nb _ (zb hbl HC.out)).mono ?_;rintro e w1 ⟨rfl,aa⟩;rw[HB.out];have ag:=zh (zka hbl aa);clear aa q0 q1 q2 q3
   cases b
   ·have HJ2:Hid (hasN (ks.take (j+1)) s=false):=zh (by
     have:=HJ.out;unfold hasN at *
     rw[List.take_succ_eq_append_getElem hlt,List.any_append,this,Ht.out];simp[HB.out])
    go_wp2_with fail
    go_roundw
    case rel=>exact⟨j+1,zO,by go_num,ag.out,HJ2⟩
    case measure=>simp[intOf];omega
   ·have HN:=zh (show R=true by
     rw[<-HR.out];unfold hasN;rw[List.any_eq_true];exact⟨ks[j],List.getElem_mem hlt,by rw[Ht.out];exact HB.out⟩)
    go_wp2_with fail;go_ret;exact⟨j,rfl,by rw[HN.out];simp,ag.out⟩
  ·have HN:=zh (show R=false by
    rw[<-HR.out];have:=HJ.out;rwa[List.take_of_length_le zO]at this)
   have ag:=zh hbl;clear hbl;go_wp2_with fail;go_ret;exact⟨-1,rfl,by rw[HN.out];rfl,ag.out⟩
theorem znK(ks:List T)(A:Option Addr)(c:Nat)(s:ByteArray)(nb:Nat)(w:World)(hrow:zkS w Any A ks)(hl:ks.length<=LK)(hc:w.cell? ⟨nb,2,none⟩=some (.string s)) :
  Calls prog 122 #[.slice A ks.length c,.func (.func 123) #[] #[.pointer (some ⟨nb,0,none⟩)]] w (zu (.bool (hasN ks s)) w):=by
 have ae:=zh hrow;have HC:=zh hc;have HL:=zh hl;obtain⟨R,hR⟩:=zX (hasN ks s);rw[hR];have HR:=zh hR;obtain⟨L,hL⟩:=zX (ks.length);rw[hL];have gQ:=zh hL;clear hrow hl hc hR hL;go_enter func122,ntmps122;go_wp2_with fail;refine(gQ.out▸zpl ks A c s nb _ ae.out HL.out HC.out).mono ?_;rintro e w1 ⟨x,rfl,hx,aa⟩;rw[HR.out]at hx;go_wp2_with fail;go_ret;exact⟨by rw[<-hx];rfl,aa⟩
def dupB(ks:List T):Bool:=(List.range ks.length).any fun i=>hasN (ks.take i) (ks.getD i (.nd 0 0 ⟨#[]⟩ [])).s
theorem ztj{ks:List T}{j:Nat}(hj:j<ks.length)(h:hasN (ks.take j) ks[j].s=true):dupB ks=true:=by
 unfold dupB;rw[List.any_eq_true];exact⟨j,by simpa using hj,by simpa[hj]using h⟩
theorem zv5{ks:List T}(h:∀j (hj:j<ks.length),hasN (ks.take j) ks[j].s=false):dupB ks=false:=by
 unfold dupB;rw[List.any_eq_false];intro j hj;have hj':j<ks.length:=by simpa using hj
 simpa[hj']using h j hj'
structure zwx(t:T):Prop where
 d:dep t<=1000
 two:t.k=40\/t.k=41\/t.k=42\/t.k=43\/t.k=56->2<=t.ks.length
 one:44<=t.k/\t.k<=49->1<=t.ks.length
 four:t.k=52\/t.k=53->4<=t.ks.length
 pl:40<=t.k/\t.k<=49->∀x∈t.ks,x.k=3->1<=x.ks.length
def rejE(t:T):Int :=
 if t.k=56 then 9
 else if t.k=40\/t.k=41\/t.k=42 then if idxB (kidC t 0) (kidC t 0).s||menB (kidC t 1) (kidC t 0).s then 8 else 0
 else if t.k=43 then if aliB t.ks [(kidC t 0).s,(kidC t 1).s]then 8 else 0
 else if t.k=44\/t.k=45 then if aliB t.ks [(kidC t 0).s,t.s]then 8 else 0
 else if 46<=t.k/\t.k<=49 then if aliB t.ks [(kidC t 0).s]then 8 else 0
 else if t.k=50\/t.k=51 then if dupB t.ks then 8 else 0
 else if t.k=52 then if conB (kidC t 3) && !conB (kidC t 0)then 10 else 0
 else if t.k=53 then if conB (kidC t 0)then 10 else 0
 else 0
theorem row0{w:World}{ks:List T}{A:Option Addr}(h:zkS w Any A ks)(hl:0<ks.length):∃(a:Addr) (t:T) (A':Option Addr) (c':Nat),A=some a/\Hid (ks[0]=t)/\Nd4 w a t A' c'/\NV w Any t (nv t.k t.n t.s A' t.ks.length c'):=by
 obtain⟨a,t,A',c',rfl,_,Ht,h4,hn⟩:=h.nd hl;simp only[Nat.zero_mul,Addr.add_zero']at h4;exact⟨a,t,A',c',rfl,Ht,h4,hn⟩
theorem rowI{w:World}{ks:List T}{a:Addr}(h:zkS w Any (some a) ks)(i:Nat)(hl:i+1<ks.length):∃(t:T) (A':Option Addr) (c':Nat),Hid (ks[i+1]=t)/\Nd4 w ⟨a.block,a.off+(i+1)*4,none⟩ t A' c'/\NV w Any t (nv t.k t.n t.s A' t.ks.length c'):=by
 obtain⟨a',t,A',c',e,_,Ht,h4,hn⟩:=h.nd hl;injection e with e;subst e;have ha:a.add ((i+1)*4)=⟨a.block,a.off+(i+1)*4,none⟩:=by unfold Addr.add;split<;>simp_all
 rw[ha]at h4;exact⟨t,A',c',Ht,h4,hn⟩
theorem ztI(n:Int)(s:ByteArray)(ks:List T)(A:Option Addr)(c:Nat)(w:World)(hrow:zkS w Any A ks)(hl:2<=ks.length):Calls prog 93 #[nv 56 n s A ks.length c] w (NmE w 9):=by
 obtain⟨a,t0,A1,c1,rfl,gL,h4,-⟩:=row0 (hrow.later (zkb zr (.cells #[zj 56,zi n,.string s,.slice A ks.length c] 28))) zO;obtain⟨q0,q1,q2,q3⟩:=h4;clear gL;obtain⟨L,hL⟩:=zX (ks.length);rw[hL]at q0 q1 q2 q3 hl ⊢;have hfl:(0:Int)<(L:Int):=zO
 have gH:0<L:=zO
 clear hrow hL hl;go_enter func93,ntmps93;go_wp2_with fail;go_ret2;exact⟨_,rfl,zkb zr _⟩
theorem ztH(k n:Int)(s:ByteArray)(ks:List T)(A:Option Addr)(c:Nat)(w:World)(hk:k=40\/k=41\/k=42)(hrow:zkS w Any A ks)(hl:2<=ks.length)(hd:∀t∈ks,dep t<=1000)(hp:∀t∈ks,t.k=3->1<=t.ks.length) :
  Calls prog 93 #[nv k n s A ks.length c] w (NmE w (if idxB ks[0] ks[0].s||menB ks[1] ks[0].s then 8 else 0)):=by
 have hrow':=hrow.later (zkb zr (.cells #[zj k,zi n,.string s,.slice A ks.length c] 28));obtain⟨a,t0,A1,c1,rfl,gL,h4,hn0⟩:=row0 hrow' zO;obtain⟨t1,A2,c2,mZ,h5,hn1⟩:=rowI hrow' 0 zO;simp only[Nat.zero_add,Nat.one_mul]at mZ h5;have d0:=hd ks[0] (List.getElem_mem _);have d1:=hd ks[1] (List.getElem_mem _);have p0:=hp ks[0] (List.getElem_mem _);rw[gL.out]at d0 p0 ⊢;rw[mZ.out]at d1 ⊢;obtain⟨R,hR⟩:∃R:Int,(if (idxB t0 t0.s||menB t1 t0.s)=true then 8 else 0)=R:=⟨_,rfl⟩
 rw[hR];obtain⟨b0,hb0⟩:=zX (idxB t0 t0.s);obtain⟨b1,hb1⟩:=zX (menB t1 t0.s);have HI:=zh (show ∀v w,NV w Any t0 v->Calls prog 119 #[v,.string t0.s] w (zu (.bool b0) w) from fun v w h=>hb0▸zoS t0 t0.s v w h d0 p0);have HM:=zh (show ∀v w,NV w Any t1 v->Calls prog 120 #[v,.string t0.s] w (zu (.bool b1) w) from fun v w h=>hb1▸zn7 t1 t0.s v w h d1);rw[hb0,hb1]at hR;have HR:=zh hR;obtain⟨L,hL⟩:=zX (ks.length);have hfl:(0:Int)<(L:Int):=zO
 have gH:0<L:=zO
 have sS:(1:Int)<(L:Int):=zO
 have sQ:1<L:=zO
 have hbx:=box4 (heap_alloc_new w (.cells #[zj k,zi n,.string s,.slice (some a) ks.length c] 28));clear gL mZ hrow hrow' hR hb0 hb1 d0 d1 p0 hd hp;rw[hL]at h4 h5 hn0 hn1 hl hbx ⊢;obtain⟨W0,hW0⟩:=zX (w.alloc (.cells #[zj k,zi n,.string s,.slice (some a) L c] 28));have q0:zw w W0:=hW0▸zkb zr _;rw[hW0]at h4 h5 hn0 hn1 hbx;have fB:=zh hn0;have fA:=zh hn1;have bP:=zh (show ∀w',zw W0 w'->(Nd4 w' a t0 A1 c1/\Nd4 w' ⟨a.block,a.off+4,none⟩ t1 A2 c2)/\w'.cell? ⟨w.heap.size,0,none⟩=some (zj k)/\w'.cell? ⟨w.heap.size,3,none⟩=some (.slice (some a) L c)from fun w' h=>⟨⟨zl4 h h4,zl4 h h5⟩,zb h hbx.1,zb h hbx.2.2.2⟩);clear hn0 hn1 h4 h5 hbx hL hl;obtain⟨⟨⟨a0,a1,a2,a3⟩,⟨b0',b1',b2,b3⟩⟩,x0,x3⟩:=bP.out _ zr;rcases hk with rfl|rfl|rfl
 all_goals
  go_enter func93,ntmps93;go_wp2_with fail;refine(HI.out _ _ fB.out).mono ?_;rintro e w1 ⟨rfl,aa⟩;obtain⟨⟨⟨a0,a1,a2,a3⟩,⟨b0',b1',b2,b3⟩⟩,x0,x3⟩:=bP.out _ aa;have q1:=zka q0 aa;have aF:=zh (fA.out.later aa);clear aa
  cases b0
  ·go_wp2_with fail;refine(HM.out _ _ aF.out).mono ?_;rintro e w2 ⟨rfl,aj⟩;have q2:=zka q1 aj;clear aj
   cases b1
   ·go_wp2_with fail;go_ret2;exact⟨_,by rw[<-HR.out];rfl,q2⟩
   ·go_wp2_with fail;go_ret2;exact⟨_,by rw[<-HR.out];rfl,q2⟩
  ·go_wp2_with fail;go_ret2;exact⟨_,by rw[<-HR.out];rfl,q1⟩
theorem zyj(s:ByteArray)(w:World):(Instr.buildSlice 196 1 #[(0,.string s)]).run prog w=.ok (.slice (some ⟨w.heap.size,0,none⟩) 1 1) (w.alloc (.cells #[.string s] 9)):=zK
theorem zto(s s':ByteArray)(w:World):(Instr.buildSlice 196 2 #[(0,.string s),(1,.string s')]).run prog w=.ok (.slice (some ⟨w.heap.size,0,none⟩) 2 2) (w.alloc (.cells #[.string s,.string s'] 9)):=zK
theorem zoj(w:World)(E:TypeId)(ss:List ByteArray):RowS (w.alloc (.cells (ss.map Value.string).toArray E)) (some ⟨w.heap.size,0,none⟩) ss:=fun i hi=>by
 refine⟨_,rfl,?_⟩;have:=zkU w E (ss.map Value.string) i (.string ss[i]) (by simp[hi]);exact this
theorem zuS(k n:Int)(s:ByteArray)(ks:List T)(A:Option Addr)(c:Nat)(w:World)(hk:k=46\/k=47\/k=48\/k=49)(hrow:zkS w Any A ks)(hl:1<=ks.length)(hlk:ks.length<=LK)(hd:∀t∈ks,dep t<=1000)(hp:∀t∈ks,t.k=3->1<=t.ks.length) :
  Calls prog 93 #[nv k n s A ks.length c] w (NmE w (if aliB ks [ks[0].s]then 8 else 0)):=by
 have hrow':=hrow.later (zkb zr (.cells #[zj k,zi n,.string s,.slice A ks.length c] 28));obtain⟨a,t0,A1,c1,rfl,gL,h4,hn0⟩:=row0 hrow' zO;rw[gL.out];obtain⟨R,hR⟩:∃R:Int,(if aliB ks [t0.s]=true then 8 else 0)=R:=⟨_,rfl⟩
 rw[hR];obtain⟨L,hL⟩:=zX (ks.length);have jU:=zh (show ∀(B:Option Addr) (d:Nat) (w:World),zkS w Any (some a) ks->RowS w B [t0.s]->Calls prog 121 #[.slice (some a) L c,.slice B 1 d] w (NmE w R)from fun B d w h h'=>hL▸hR▸zpd ks [t0.s] (some a) c B d w h h' hlk zS (fun t ht=>⟨hd t ht,hp t ht⟩));have hfl:(0:Int)<(L:Int):=zO
 have gH:0<L:=zO
 have hbx:=box4 (heap_alloc_new w (.cells #[zj k,zi n,.string s,.slice (some a) ks.length c] 28));have ae:=zh hrow';clear gL hrow hrow' hR hd hp;rw[hL]at h4 hl hbx ae ⊢;obtain⟨W0,hW0⟩:=zX (w.alloc (.cells #[zj k,zi n,.string s,.slice (some a) L c] 28));have q0:zw w W0:=hW0▸zkb zr _;rw[hW0]at h4 hbx ae;obtain⟨x0,x1,x2,x3⟩:=hbx;obtain⟨a0,a1,a2,a3⟩:=h4;have hb1:=zyj;clear hn0 hL hl;have HS:=zh (show ∀w',zw W0 w'->w'.cell? ⟨w.heap.size,3,none⟩=some (.slice (some a) L c)/\w'.cell? ⟨a.block,a.off+2,none⟩=some (.string t0.s)from fun w' h=>⟨zb h x3,zb h a2⟩);have aG:=zh (HS.out _ zr.drew);have aC:=zh (HS.out _ (zkb zr (.cells #[.string t0.s] 9)).drew);have fJ:=zh (show RowS (W0.alloc (.cells #[.string t0.s] 9)).drew (some ⟨W0.heap.size,0,none⟩) [t0.s]from zoj W0 9 [t0.s])
 have HRW:=zh (ae.out.later (zkb zr (.cells #[.string t0.s] 9)).drew);clear x3 a0 a1 a2 a3 x1 x2;rcases hk with rfl|rfl|rfl|rfl
 all_goals
  go_enter func93,ntmps93;go_upto_region 20 with fail
  go_region_held3 (fun w':World=>zv w' w.heap.size 3 (.slice (some a) L c)/\zv w' a.block (a.off+2) (.string t0.s))
   (first|with_reducible exact aQ.out|with_reducible exact aC.out|with_reducible exact aG.out)
   (first
    | (go_at_call 121;refine(jU.out _ _ _ HRW.out fJ.out).mono ?_;rintro e y1 ⟨s1,rfl,bE⟩;have b1:=zka (zkb (zs W0) (.cells #[.string t0.s] 9)).drew bE;have aQ:=zh (HS.out _ b1))
    | fail)
  have HB1:=zh (zka q0 b1);clear bE b1 aQ;go_wp2_with fail;go_ret2;exact⟨s1,rfl,HB1.out⟩
theorem zuT(k n:Int)(s:ByteArray)(ks:List T)(A:Option Addr)(c:Nat)(w:World)(hk:k=44\/k=45)(hrow:zkS w Any A ks)(hl:1<=ks.length)(hlk:ks.length<=LK)(hd:∀t∈ks,dep t<=1000)(hp:∀t∈ks,t.k=3->1<=t.ks.length) :
  Calls prog 93 #[nv k n s A ks.length c] w (NmE w (if aliB ks [ks[0].s,s]then 8 else 0)):=by
 have hrow':=hrow.later (zkb zr (.cells #[zj k,zi n,.string s,.slice A ks.length c] 28));obtain⟨a,t0,A1,c1,rfl,gL,h4,hn0⟩:=row0 hrow' zO;rw[gL.out];obtain⟨R,hR⟩:∃R:Int,(if aliB ks [t0.s,s]=true then 8 else 0)=R:=⟨_,rfl⟩
 rw[hR];obtain⟨L,hL⟩:=zX (ks.length);have jU:=zh (show ∀(B:Option Addr) (d:Nat) (w:World),zkS w Any (some a) ks->RowS w B [t0.s,s]->Calls prog 121 #[.slice (some a) L c,.slice B 2 d] w (NmE w R)from fun B d w h h'=>hL▸hR▸zpd ks [t0.s,s] (some a) c B d w h h' hlk zS (fun t ht=>⟨hd t ht,hp t ht⟩));have hfl:(0:Int)<(L:Int):=zO
 have gH:0<L:=zO
 have hbx:=box4 (heap_alloc_new w (.cells #[zj k,zi n,.string s,.slice (some a) ks.length c] 28));have ae:=zh hrow';clear gL hrow hrow' hR hd hp;rw[hL]at h4 hl hbx ae ⊢;obtain⟨W0,hW0⟩:=zX (w.alloc (.cells #[zj k,zi n,.string s,.slice (some a) L c] 28));have q0:zw w W0:=hW0▸zkb zr _;rw[hW0]at h4 hbx ae;obtain⟨x0,x1,x2,x3⟩:=hbx;obtain⟨a0,a1,a2,a3⟩:=h4;have hb1:=zto;clear hn0 hL hl;have HS:=zh (show ∀w',zw W0 w'->w'.cell? ⟨w.heap.size,2,none⟩=some (.string s)/\w'.cell? ⟨w.heap.size,3,none⟩=some (.slice (some a) L c)/\w'.cell? ⟨a.block,a.off+2,none⟩=some (.string t0.s)from fun w' h=>⟨zb h x2,zb h x3,zb h a2⟩);have aG:=zh (HS.out _ zr.drew);have aC:=zh (HS.out _ (zkb zr (.cells #[.string t0.s,.string s] 9)).drew)
 have fJ:=zh (show RowS (W0.alloc (.cells #[.string t0.s,.string s] 9)).drew (some ⟨W0.heap.size,0,none⟩) [t0.s,s]from zoj W0 9 [t0.s,s]);have HRW:=zh (ae.out.later (zkb zr (.cells #[.string t0.s,.string s] 9)).drew);clear x3 a0 a1 a2 a3 x1 x2;rcases hk with rfl|rfl
 all_goals
  go_enter func93,ntmps93;go_upto_region 15 with fail
  go_region_held3 (fun w':World=>zv w' w.heap.size 2 (.string s)/\zv w' w.heap.size 3 (.slice (some a) L c)/\zv w' a.block (a.off+2) (.string t0.s))
   (first|with_reducible exact aQ.out|with_reducible exact aC.out|with_reducible exact aG.out)
   (first
    | (go_at_call 121;refine(jU.out _ _ _ HRW.out fJ.out).mono ?_;rintro e y1 ⟨s1,rfl,bE⟩;have b1:=zka (zkb (zs W0) (.cells #[.string t0.s,.string s] 9)).drew bE;have aQ:=zh (HS.out _ b1))
    | fail)
  have HB1:=zh (zka q0 b1);clear bE b1 aQ;go_wp2_with fail;go_ret2;exact⟨s1,rfl,HB1.out⟩
theorem zrY(n:Int)(s:ByteArray)(ks:List T)(A:Option Addr)(c:Nat)(w:World)(hrow:zkS w Any A ks)(hl:2<=ks.length)(hlk:ks.length<=LK)(hd:∀t∈ks,dep t<=1000)(hp:∀t∈ks,t.k=3->1<=t.ks.length) :
  Calls prog 93 #[nv 43 n s A ks.length c] w (NmE w (if aliB ks [ks[0].s,ks[1].s]then 8 else 0)):=by
 have hrow':=hrow.later (zkb zr (.cells #[zj 43,zi n,.string s,.slice A ks.length c] 28));obtain⟨a,t0,A1,c1,rfl,gL,h4,hn0⟩:=row0 hrow' zO;obtain⟨t1,A2,c2,mZ,h5,hn1⟩:=rowI hrow' 0 zO;simp only[Nat.zero_add,Nat.one_mul]at mZ h5;rw[gL.out,mZ.out];obtain⟨R,hR⟩:∃R:Int,(if aliB ks [t0.s,t1.s]=true then 8 else 0)=R:=⟨_,rfl⟩
 rw[hR];obtain⟨L,hL⟩:=zX (ks.length);have jU:=zh (show ∀(B:Option Addr) (d:Nat) (w:World),zkS w Any (some a) ks->RowS w B [t0.s,t1.s]->Calls prog 121 #[.slice (some a) L c,.slice B 2 d] w (NmE w R)from fun B d w h h'=>hL▸hR▸zpd ks [t0.s,t1.s] (some a) c B d w h h' hlk zS (fun t ht=>⟨hd t ht,hp t ht⟩));have hfl:(0:Int)<(L:Int):=zO
 have gH:0<L:=zO
 have sS:(1:Int)<(L:Int):=zO
 have sQ:1<L:=zO
 have hbx:=box4 (heap_alloc_new w (.cells #[zj 43,zi n,.string s,.slice (some a) ks.length c] 28));have ae:=zh hrow';clear gL mZ hrow hrow' hR hd hp;rw[hL]at h4 h5 hl hbx ae ⊢;obtain⟨W0,hW0⟩:=zX (w.alloc (.cells #[zj 43,zi n,.string s,.slice (some a) L c] 28));have q0:zw w W0:=hW0▸zkb zr _;rw[hW0]at h4 h5 hbx ae;obtain⟨x0,x1,x2,x3⟩:=hbx;obtain⟨a0,a1,a2,a3⟩:=h4;obtain⟨b0,b1,b2,b3⟩:=h5;have hb1:=zto;clear hn0 hn1 hL hl;go_enter func93,ntmps93;go_upto_region 11 with fail;have HS:=zh (show ∀w',zw W0 w'->w'.cell? ⟨w.heap.size,3,none⟩=some (.slice (some a) L c)/\Nd4 w' a t0 A1 c1/\Nd4 w' ⟨a.block,a.off+4,none⟩ t1 A2 c2 from fun w' h=>⟨zb h x3,zl4 h ⟨a0,a1,a2,a3⟩,zl4 h ⟨b0,b1,b2,b3⟩⟩);clear x3 a0 a1 a2 a3 b0 b1 b2 b3 x1 x2
 go_region_held3 (fun w':World=>zv w' w.heap.size 3 (.slice (some a) L c)/\(w'.cell? a=some (zj t0.k)/\zv w' a.block (a.off+1) (zi t0.n)/\zv w' a.block (a.off+2) (.string t0.s)/\zv w' a.block (a.off+3) (.slice A1 t0.ks.length c1))/\(zv w' a.block (a.off+4) (zj t1.k)/\zv w' a.block (a.off+4+1) (zi t1.n)/\zv w' a.block (a.off+4+2) (.string t1.s)/\zv w' a.block (a.off+4+3) (.slice A2 t1.ks.length c2)))
   (exact HS.out _ (by first|exact zr.drew|exact(zkb zr _).drew|exact(zkb (zkb zr _) _).drew|fail))
   (first|fail)
 ·have hrs:=zoj ((W0.alloc (.cells #[zj t0.k,zi t0.n,.string t0.s,.slice A1 t0.ks.length c1] 28)).alloc (.cells #[zj t1.k,zi t1.n,.string t1.s,.slice A2 t1.ks.length c2] 28)) 9 [t0.s,t1.s];simp only[World.size_alloc]at hrs;have fJ:=zh hrs;clear hrs;go_wp2_with fail;refine(jU.out _ _ _ (ae.out.later (zkb (zkb (zkb zr _) _) _).drew) fJ.out).mono ?_;rintro e y1 ⟨s1,rfl,bE⟩;have HB1:=zh (zka q0 (zka (zkb (zkb (zkb (zs W0) _) _) _).drew bE));clear bE;go_wp2_with fail;go_ret2;exact⟨s1,rfl,HB1.out⟩
 ·have hrs:=zoj ((W0.alloc (.cells #[zj t1.k,zi t1.n,.string t1.s,.slice A2 t1.ks.length c2] 28)).alloc (.cells #[zj t0.k,zi t0.n,.string t0.s,.slice A1 t0.ks.length c1] 28)) 9 [t0.s,t1.s];simp only[World.size_alloc]at hrs;have fJ:=zh hrs;clear hrs;go_wp2_with fail;refine(jU.out _ _ _ (ae.out.later (zkb (zkb (zkb zr _) _) _).drew) fJ.out).mono ?_;rintro e y1 ⟨s1,rfl,bE⟩;have HB1:=zh (zka q0 (zka (zkb (zkb (zkb (zs W0) _) _) _).drew bE));clear bE;go_wp2_with fail;go_ret2;exact⟨s1,rfl,HB1.out⟩
theorem zrZ(k n:Int)(s:ByteArray)(A:Option Addr)(l c:Nat)(w:World)(hk:k<40\/54<=k)(hk2:k≠56):Calls prog 93 #[nv k n s A l c] w (NmE w 0):=by
 have z56:(k==56)=false:=by simp;omega
 have z40:(k==40)=false:=by simp;omega
 have z41:(k==41)=false:=by simp;omega
 have z42:(k==42)=false:=by simp;omega
 have z43:(k==43)=false:=by simp;omega
 have z44:(k==44)=false:=by simp;omega
 have z45:(k==45)=false:=by simp;omega
 have z46:(k==46)=false:=by simp;omega
 have z47:(k==47)=false:=by simp;omega
 have z48:(k==48)=false:=by simp;omega
 have z49:(k==49)=false:=by simp;omega
 have z50:(k==50)=false:=by simp;omega
 have z51:(k==51)=false:=by simp;omega
 have z52:(k==52)=false:=by simp;omega
 have z53:(k==53)=false:=by simp;omega
 clear hk hk2;go_enter func93,ntmps93;go_wp2_with fail;go_ret2;exact⟨_,rfl,zkb zr _⟩
theorem zuU(n:Int)(s:ByteArray)(ks:List T)(A:Option Addr)(c:Nat)(w:World)(hrow:zkS w Any A ks)(hl:4<=ks.length) :
  Calls prog 93 #[nv 52 n s A ks.length c] w (NmE w (if conB ks[3] && !conB ks[0]then 10 else 0)):=by
 have hrow':=hrow.later (zkb zr (.cells #[zj 52,zi n,.string s,.slice A ks.length c] 28));obtain⟨a,t0,A1,c1,rfl,gL,h4,hn0⟩:=row0 hrow' zO;obtain⟨t1,A2,c2,mZ,h5,hn1⟩:=rowI hrow' 2 zO;simp only[Nat.reduceAdd,Nat.reduceMul]at mZ h5;rw[gL.out,mZ.out];obtain⟨R,hR⟩:∃R:Int,(if (conB t1 && !conB t0)=true then 10 else 0)=R:=⟨_,rfl⟩
 rw[hR];obtain⟨b0,hb0⟩:=zX (conB t0);obtain⟨b1,hb1⟩:=zX (conB t1);have H0:=zh (show ∀v w,NV w Any t0 v->Calls prog 124 #[v] w (zu (.bool b0) w) from fun v w h=>hb0▸zmT t0 v w h);have H1:=zh (show ∀v w,NV w Any t1 v->Calls prog 124 #[v] w (zu (.bool b1) w) from fun v w h=>hb1▸zmT t1 v w h);rw[hb0,hb1]at hR;have HR:=zh hR;obtain⟨L,hL⟩:=zX (ks.length);have hfl:(0:Int)<(L:Int):=zO
 have gH:0<L:=zO
 have sS:(3:Int)<(L:Int):=zO
 have sQ:3<L:=zO
 have hbx:=box4 (heap_alloc_new w (.cells #[zj 52,zi n,.string s,.slice (some a) ks.length c] 28));clear gL mZ hrow hrow' hR hb0 hb1;rw[hL]at h4 h5 hn0 hn1 hl hbx ⊢;obtain⟨W0,hW0⟩:=zX (w.alloc (.cells #[zj 52,zi n,.string s,.slice (some a) L c] 28));have q0:zw w W0:=hW0▸zkb zr _;rw[hW0]at h4 h5 hn0 hn1 hbx;have fB:=zh hn0;have fA:=zh hn1;have bP:=zh (show ∀w',zw W0 w'->(Nd4 w' a t0 A1 c1/\Nd4 w' ⟨a.block,a.off+12,none⟩ t1 A2 c2)/\w'.cell? ⟨w.heap.size,0,none⟩=some (zj 52)/\w'.cell? ⟨w.heap.size,3,none⟩=some (.slice (some a) L c)from fun w' h=>⟨⟨zl4 h h4,zl4 h h5⟩,zb h hbx.1,zb h hbx.2.2.2⟩);clear hn0 hn1 h4 h5 hbx hL hl;obtain⟨⟨⟨a0,a1,a2,a3⟩,⟨b0',b1',b2,b3⟩⟩,x0,x3⟩:=bP.out _ zr;go_enter func93,ntmps93;go_wp2_with fail;refine(H1.out _ _ fA.out).mono ?_;rintro e w1 ⟨rfl,aa⟩
 obtain⟨⟨⟨a0,a1,a2,a3⟩,⟨b0',b1',b2,b3⟩⟩,x0,x3⟩:=bP.out _ aa;have q1:=zka q0 aa;have aF:=zh (fB.out.later aa);clear aa
 cases b1
 ·go_wp2_with fail;go_ret2;exact⟨_,by rw[<-HR.out];rfl,q1⟩
 ·go_wp2_with fail;refine(H0.out _ _ aF.out).mono ?_;rintro e w2 ⟨rfl,aj⟩;have q2:=zka q1 aj;clear aj
  cases b0
  ·go_wp2_with fail;go_ret2;exact⟨_,by rw[<-HR.out];rfl,q2⟩
  ·go_wp2_with fail;go_ret2;exact⟨_,by rw[<-HR.out];rfl,q2⟩
theorem zr0(n:Int)(s:ByteArray)(ks:List T)(A:Option Addr)(c:Nat)(w:World)(hrow:zkS w Any A ks)(hl:4<=ks.length) :
  Calls prog 93 #[nv 53 n s A ks.length c] w (NmE w (if conB ks[0]then 10 else 0)):=by
 have hrow':=hrow.later (zkb zr (.cells #[zj 53,zi n,.string s,.slice A ks.length c] 28));obtain⟨a,t0,A1,c1,rfl,gL,h4,hn0⟩:=row0 hrow' zO;rw[gL.out];obtain⟨R,hR⟩:∃R:Int,(if conB t0=true then 10 else 0)=R:=⟨_,rfl⟩
 rw[hR];obtain⟨b0,hb0⟩:=zX (conB t0);have H0:=zh (show ∀v w,NV w Any t0 v->Calls prog 124 #[v] w (zu (.bool b0) w) from fun v w h=>hb0▸zmT t0 v w h);rw[hb0]at hR;have HR:=zh hR;obtain⟨L,hL⟩:=zX (ks.length);have hfl:(0:Int)<(L:Int):=zO
 have gH:0<L:=zO
 have hbx:=box4 (heap_alloc_new w (.cells #[zj 53,zi n,.string s,.slice (some a) ks.length c] 28));clear gL hrow hrow' hR hb0;rw[hL]at h4 hn0 hl hbx ⊢;obtain⟨W0,hW0⟩:=zX (w.alloc (.cells #[zj 53,zi n,.string s,.slice (some a) L c] 28));have q0:zw w W0:=hW0▸zkb zr _;rw[hW0]at h4 hn0 hbx;have fB:=zh hn0;obtain⟨a0,a1,a2,a3⟩:=h4;obtain⟨x0,x1,x2,x3⟩:=hbx;clear hn0 hL hl;go_enter func93,ntmps93;go_wp2_with fail;refine(H0.out _ _ fB.out).mono ?_;rintro e w1 ⟨rfl,aa⟩;have q1:=zka q0 aa;clear aa a0 a1 a2 a3 x0 x1 x2 x3
 cases b0
 ·go_wp2_with fail;go_ret2;exact⟨_,by rw[<-HR.out];rfl,q1⟩
 ·go_wp2_with fail;go_ret2;exact⟨_,by rw[<-HR.out];rfl,q1⟩
theorem zr1(k n:Int)(s:ByteArray)(ks:List T)(A:Option Addr)(c:Nat)(w:World)(hk:k=50\/k=51)(hrow:zkS w Any A ks)(hlk:ks.length<=LK)(hlc:ks.length<=c) :
  Calls prog 93 #[nv k n s A ks.length c] w (NmE w (if dupB ks then 8 else 0)):=by
 have hl':=zkz hlk;obtain⟨R,hR⟩:∃R:Int,(if dupB ks=true then 8 else 0)=R:=⟨_,rfl⟩
 rw[hR];have HR:=zh hR;have ae:=zh hrow;have zm:=zh hlk;clear hR hrow hlk;rcases hk with rfl|rfl
 ·go_enter func93,ntmps93;go_wp2_with fail
  go_loopw [100] (fun i wr=>∃j:Nat,j<=ks.length/\i=zi j/\zw w wr/\wr.heap[w.heap.size]?=some (.cells #[zj 50,zi n,.string s,.slice A ks.length c] 28 (0,0))/\Hid (∀q (hq:q<ks.length),q<j->hasN (ks.take q) ks[q].s=false)) (fun i _=>ks.length-(intOf i).toNat)
  case atStart=>exact⟨0,Nat.zero_le _,rfl,zkb zr _,heap_alloc_new w _,zh fun q _ h=>zO⟩
  case round =>
   obtain⟨j,hj,rfl,hbl,hbx,HJ⟩:=hrel;have aR:=zh hbx;have ag:=zh hbl;by_cases hlt:j<ks.length
   ·obtain⟨a,t,A1,c1,rfl,_,Ht,⟨q0,q1,q2,q3⟩,-⟩:=(ae.out.later hbl).nd hlt;obtain⟨m0,m1,m2,m3⟩:=box4 hbx;have Ai:=fun o=>zkj m3 o;obtain⟨b,hb⟩:=zX (hasN (ks.take j) t.s);have htl:(ks.take j).length=j:=by simp;omega
    have yw:=zh (show ∀(c:Nat) (nb:Nat) (w:World),zkS w Any (some a) (ks.take j)->w.cell? ⟨nb,2,none⟩=some (.string t.s)->Calls prog 122 #[.slice (some a) j c,.func (.func 123) #[] #[.pointer (some ⟨nb,0,none⟩)]] w (zu (.bool b) w) from fun c nb w h h'=>by
     have:=znK (ks.take j) (some a) c t.s nb w h (by have:=zm.out;omega) h';rwa[htl,hb]at this)
    have HB:=zh hb;have Ch:=zh (show zkS (wr.alloc (.cells #[zj t.k,zi t.n,.string t.s,.slice A1 t.ks.length c1] 28)) Any (some a) (ks.take j)from fun i hi=>by
     have hi':i<ks.length:=by simp at hi;omega
     have:=(ae.out.later (zkb hbl (.cells #[zj t.k,zi t.n,.string t.s,.slice A1 t.ks.length c1] 28))) i hi';simpa using this)
    have hjc:j<=c:=zO
    have hjc':(j:Int)<=(c:Int):=zO
    clear hb htl hbx hbl;go_wp2_with fail;refine(yw.out _ _ _ Ch.out zS).mono ?_;rintro e w1 ⟨rfl,aa⟩;have HB1:=zh (zka (zkb ag.out _) aa);have qa:=zh (zkc (zkd aR.out _) aa);have hy2:w1.cell? ⟨wr.heap.size,2,none⟩=some (.string t.s):=zb aa zS;clear aa q0 q1 q2 q3 m0 m1 m2 m3 Ai
    cases b
    ·have HJ2:Hid (∀q (hq:q<ks.length),q<j+1->hasN (ks.take q) ks[q].s=false):=zh fun q hq hqj=>by
      by_cases e:q<j
      ·exact HJ.out q hq e
      ·obtain rfl:q=j:=zO
       rw[Ht.out];exact HB.out
     go_wp2_with fail
     go_roundw
     case rel=>exact⟨j+1,zO,by go_num,HB1.out,qa.out,HJ2⟩
     case measure=>simp[intOf];omega
    ·have hRR:R=8:=by rw[<-HR.out,if_pos (ztj hlt (by rw[Ht.out];exact HB.out))]
     have HRR:=zh hRR;clear hRR;go_wp2_with fail;go_ret2;exact⟨_,by rw[HRR.out];rfl,HB1.out⟩
   ·have hRR:R=0:=by rw[<-HR.out,zv5 fun q hq=>HJ.out q hq zO];rfl
    have HRR:=zh hRR;clear hRR hbl hbx;go_wp2_with fail;go_ret2;exact⟨_,by rw[HRR.out];rfl,ag.out⟩
 ·go_enter func93,ntmps93;go_wp2_with fail
  go_loopw [100] (fun i wr=>∃j:Nat,j<=ks.length/\i=zi j/\zw w wr/\wr.heap[w.heap.size]?=some (.cells #[zj 51,zi n,.string s,.slice A ks.length c] 28 (0,0))/\Hid (∀q (hq:q<ks.length),q<j->hasN (ks.take q) ks[q].s=false)) (fun i _=>ks.length-(intOf i).toNat)
  case atStart=>exact⟨0,Nat.zero_le _,rfl,zkb zr _,heap_alloc_new w _,zh fun q _ h=>zO⟩
  case round =>
   obtain⟨j,hj,rfl,hbl,hbx,HJ⟩:=hrel;have aR:=zh hbx;have ag:=zh hbl;by_cases hlt:j<ks.length
   ·obtain⟨a,t,A1,c1,rfl,_,Ht,⟨q0,q1,q2,q3⟩,-⟩:=(ae.out.later hbl).nd hlt;obtain⟨m0,m1,m2,m3⟩:=box4 hbx;have Ai:=fun o=>zkj m3 o;obtain⟨b,hb⟩:=zX (hasN (ks.take j) t.s);have htl:(ks.take j).length=j:=by simp;omega
    have yw:=zh (show ∀(c:Nat) (nb:Nat) (w:World),zkS w Any (some a) (ks.take j)->w.cell? ⟨nb,2,none⟩=some (.string t.s)->Calls prog 122 #[.slice (some a) j c,.func (.func 123) #[] #[.pointer (some ⟨nb,0,none⟩)]] w (zu (.bool b) w) from fun c nb w h h'=>by
     have:=znK (ks.take j) (some a) c t.s nb w h (by have:=zm.out;omega) h';rwa[htl,hb]at this)
    have HB:=zh hb;have Ch:=zh (show zkS (wr.alloc (.cells #[zj t.k,zi t.n,.string t.s,.slice A1 t.ks.length c1] 28)) Any (some a) (ks.take j)from fun i hi=>by
     have hi':i<ks.length:=by simp at hi;omega
     have:=(ae.out.later (zkb hbl (.cells #[zj t.k,zi t.n,.string t.s,.slice A1 t.ks.length c1] 28))) i hi';simpa using this)
    have hjc:j<=c:=zO
    have hjc':(j:Int)<=(c:Int):=zO
    clear hb htl hbx hbl;go_wp2_with fail;refine(yw.out _ _ _ Ch.out zS).mono ?_;rintro e w1 ⟨rfl,aa⟩;have HB1:=zh (zka (zkb ag.out _) aa);have qa:=zh (zkc (zkd aR.out _) aa);have hy2:w1.cell? ⟨wr.heap.size,2,none⟩=some (.string t.s):=zb aa zS;clear aa q0 q1 q2 q3 m0 m1 m2 m3 Ai
    cases b
    ·have HJ2:Hid (∀q (hq:q<ks.length),q<j+1->hasN (ks.take q) ks[q].s=false):=zh fun q hq hqj=>by
      by_cases e:q<j
      ·exact HJ.out q hq e
      ·obtain rfl:q=j:=zO
       rw[Ht.out];exact HB.out
     go_wp2_with fail
     go_roundw
     case rel=>exact⟨j+1,zO,by go_num,HB1.out,qa.out,HJ2⟩
     case measure=>simp[intOf];omega
    ·have hRR:R=8:=by rw[<-HR.out,if_pos (ztj hlt (by rw[Ht.out];exact HB.out))]
     have HRR:=zh hRR;clear hRR;go_wp2_with fail;go_ret2;exact⟨_,by rw[HRR.out];rfl,HB1.out⟩
   ·have hRR:R=0:=by rw[<-HR.out,zv5 fun q hq=>HJ.out q hq zO];rfl
    have HRR:=zh hRR;clear hRR hbl hbx;go_wp2_with fail;go_ret2;exact⟨_,by rw[HRR.out];rfl,ag.out⟩
attribute [local go_sem] Oper.semAt_some
theorem zmF{F:Fence}{n:Nat}{P:Program}(w:World){ops:Array Oper}{rest:List Oper}{o:Oper}{a:Act}{Q:Exit->Act->World->Prop}
  (hg:o.guard=none)(s x:Operand)(t:TypeId)(hop:o.op=Op.call { callee:=Callee.builtin Builtin.append,args := #[s,x],argTypes := #[t,t] })
  (base:Nat)(e:TypeId)(i:TypeInfo)(z:Value)(size bytes:Nat)(h1:P.underlying t=some (.slice e))(h2:P.info? e=some i)(h3:i.zero=some z)(h4:i.size=size)(h5:i.bytes=bytes)(h6:z.cells.size=size)(h7:0<size)
  (v:Value)(k:Nat)(xs:List Value)(hs:a.eval s=v)(hown:w.ownsRow base e size v k xs)(ad:Addr)(m c:Nat)(news:List Value)(hx:a.eval x=.slice (some ad) m c)(hn:news.length=m*size)
  (hc:∀j u,news[j]?=some u->w.cell? (ad.add j)=some u)(h1c:∀u∈news,u.oneCell'=true)(b1:k+m<=maxLen)(b2:(k+m)*bytes<=140737488355328)(b3:base<=w.heap.size)
  (hK:∀v' w',w'.ownsRow base e size v' (k+m) (xs++news)->w.grownBy w' v.ownBlock->(v'.ownBlock=v.ownBlock\/v'.ownBlock=some w.heap.size)->wpListIn F n P ops Q rest (a.put o.dst v') w') :
  wpListIn F n P ops Q (o::rest) a w:=by
 refine wpListIn_plain hg fun K hK'=>?_;obtain⟨v',w',hrun,r1,r2,_,r4⟩:=run_append_own_at (P:=P) w base t o.type e i z size bytes h1 h2 h3 h4 h5 h6 h7 v k xs hown ad m c news hn hc h1c b1 b2 b3;unfold Oper.wpIn;refine⟨?_,?_⟩
 ·simp[Oper.about,hop,resolve,Target.leads,Sem.run_pure]
 ·rw[Oper.semAt_plain F _ _ (by rw[hop];intro c hc';cases hc')];simp[execOp,hop,resolve,invoke,builtin,hs,hx,hrun,Result.andThen];exact hK' _ _ (hK v' w' r1 r2 r4)
end
section
open Go Go.RowKit
theorem zuX(k n:Int)(s:ByteArray)(ks:List T):rejE (.nd k n s ks)=(if k=56 then 9
 else if k=40\/k=41\/k=42 then if idxB (kidC (.nd k n s ks) 0) (kidC (.nd k n s ks) 0).s||menB (kidC (.nd k n s ks) 1) (kidC (.nd k n s ks) 0).s then 8 else 0
 else if k=43 then if aliB ks [(kidC (.nd k n s ks) 0).s,(kidC (.nd k n s ks) 1).s]then 8 else 0
 else if k=44\/k=45 then if aliB ks [(kidC (.nd k n s ks) 0).s,s]then 8 else 0
 else if 46<=k/\k<=49 then if aliB ks [(kidC (.nd k n s ks) 0).s]then 8 else 0
 else if k=50\/k=51 then if dupB ks then 8 else 0
 else if k=52 then if conB (kidC (.nd k n s ks) 3) && !conB (kidC (.nd k n s ks) 0)then 10 else 0
 else if k=53 then if conB (kidC (.nd k n s ks) 0)then 10 else 0
 else 0):=rfl
theorem ztJ(t:T)(v:Value)(w:World)(hv:NV w Any t v)(h:zwx t):Calls prog 93 #[v] w (NmE w (rejE t)):=by
 obtain⟨A,c,rfl,hf,hlk,hlc,hrow⟩:=hv.open_;have hd:∀x∈t.ks,dep x<=1000:=fun x hx=>by
  have h1:=zpV hx;have h2:=h.d
  cases t with
  | nd k n s ks=>simp only[dep,T.ks_nd]at *;omega
 obtain⟨hdd,h2,h1,h4,hp⟩:=h;obtain⟨k,n,s,ks⟩:=t;simp only[zND]at *
 rw[zuX];by_cases e1:k=56
 ·subst e1;rw[if_pos rfl];exact ztI n s ks A c w hrow (h2 zO)
 rw[if_neg e1];by_cases e2:k=40\/k=41\/k=42
 ·rw[if_pos e2];have hl:=h2 zO;rw[zl0 (t:=.nd k n s ks) (i:=0) (by simp;omega),zl0 (t:=.nd k n s ks) (i:=1) (by simp;omega)];exact ztH k n s ks A c w e2 hrow hl hd (hp zO)
 rw[if_neg e2];by_cases e3:k=43
 ·subst e3;rw[if_pos rfl];have hl:=h2 zO;rw[zl0 (t:=.nd 43 n s ks) (i:=0) (by simp;omega),zl0 (t:=.nd 43 n s ks) (i:=1) (by simp;omega)];exact zrY n s ks A c w hrow hl hlk hd (hp zO)
 rw[if_neg e3];by_cases e4:k=44\/k=45
 ·rw[if_pos e4];have hl:=h1 zO;rw[zl0 (t:=.nd k n s ks) (i:=0) (by simp;omega)];exact zuT k n s ks A c w e4 hrow hl hlk hd (hp zO)
 rw[if_neg e4];by_cases e5:46<=k/\k<=49
 ·rw[if_pos e5];have hl:=h1 zO;rw[zl0 (t:=.nd k n s ks) (i:=0) (by simp;omega)];exact zuS k n s ks A c w zO hrow hl hlk hd (hp zO)
 rw[if_neg e5];by_cases e6:k=50\/k=51
 ·rw[if_pos e6];exact zr1 k n s ks A c w e6 hrow hlk hlc
 rw[if_neg e6];by_cases e7:k=52
 ·subst e7;rw[if_pos rfl];have hl:=h4 zO;rw[zl0 (t:=.nd 52 n s ks) (i:=0) (by simp;omega),zl0 (t:=.nd 52 n s ks) (i:=3) (by simp;omega)];exact zuU n s ks A c w hrow hl
 rw[if_neg e7];by_cases e8:k=53
 ·subst e8;rw[if_pos rfl];have hl:=h4 zO;rw[zl0 (t:=.nd 53 n s ks) (i:=0) (by simp;omega)];exact zr0 n s ks A c w hrow hl
 rw[if_neg e8];exact zrZ k n s A ks.length c w zO e1
def zud(t:T):Prop:=isE t=true\/isS t=true\/isB t=true
theorem zvv{t:T}(h:isP t=true):t.k=3->1<=t.ks.length:=by
 intro h3;have hE:=zvx h;obtain⟨k,n,s,ks⟩:=t;simp only[T.k_nd,T.ks_nd]at *
 subst h3;rw[isE]at hE;simp at hE;omega
theorem zq7{k n:Int}{s:ByteArray}{ks:List T}(h:isS (.nd k n s ks)=true) :
  (k=40\/k=41\/k=42\/k=43\/k=56->2<=ks.length)/\(44<=k/\k<=49->1<=ks.length)/\(k=52\/k=53->4<=ks.length)/\40<=k/\k<=56:=by
 rw[isS]at h
 repeat' split at h
 all_goals first
  | cases h
  | (simp only[zkE,Bool.and_eq_true,decide_eq_true_eq]at h;omega)
theorem zpz{k n:Int}{s:ByteArray}{ks:List T}(h:zud (.nd k n s ks)):∀t∈ks,zud t:=by
 intro t ht;rcases h with h|h|h
 ·exact .inl (zqh h t ht)
 ·rcases(zs9 h).2 t ht with h|h
  ·exact .inl h
  ·exact .inr (.inr h)
 ·exact .inr (.inl (((zsc _ _ _ _).1 h).2.2 t ht))
theorem zxy(t:T):zud t->∀x∈po t,zud x/\dep x<=dep t:=by
 induction t using T.ind with
 | _ k n s ks ih =>
  intro h x hx;rw[po,List.mem_cons]at hx;rcases hx with rfl|hx
  ·exact⟨h,zl⟩
  ·obtain⟨t,ht,hx⟩:=zlP.1 hx;obtain⟨h1,h2⟩:=ih t ht (zpz h t ht) x hx;have:=zpV ht;exact⟨h1,by simp only[dep];omega⟩
theorem zxL{t:T}(h:isE t=true):t.k=3->1<=t.ks.length:=fun h3=>zvv (t:=t) (by simp[isP,h3,h]) h3
theorem zxm{t:T}(h:zud t)(hd:dep t<=1000):zwx t:=by
 obtain⟨k,n,s,ks⟩:=t;have hpl:∀x∈ks,40<=k/\k<=49->x.k=3->1<=x.ks.length:=fun x hx hk h3=>by
  rcases zpz h x hx with h'|h'|h'
  ·exact zxL h' h3
  ·obtain⟨k',n',s',ks'⟩:=x;have:=(zq7 h').2.2.2;simp only[T.k_nd]at h3;omega
  ·have:=zxM h';omega
 rcases h with h'|h'|h'
 ·have:=zq8 h';exact⟨hd,fun h=>by simp at h;omega,fun h=>by simp at h;omega,fun h=>by simp at h;omega,fun h x hx=>hpl x hx h⟩
 ·have:=zq7 h';exact⟨hd,this.1,this.2.1,this.2.2.1,fun h x hx=>hpl x hx h⟩
 ·have:=zxM h';simp only[T.k_nd]at this;exact⟨hd,fun h=>by simp at h;omega,fun h=>by simp at h;omega,fun h=>by simp at h;omega,fun h x hx=>hpl x hx h⟩
theorem zxl{t:T}(h:zud t)(hd:dep t<=1000):∀x∈po t,zwx x:=fun x hx =>
 have ⟨h1,h2⟩:=zxy t h x hx
 zxm h1 zO
attribute [local go_sem] Oper.semAt_some
theorem zuW:(prog.info? 73).map (fun i=>(i.zero,i.size,i.bytes))=some (some (.agg #[zi 0,zn,zi 0,.string ⟨#[]⟩]),4,56):=zK
theorem zKp(p:Int)(A:Option Addr)(l c:Nat)(e:Int)(s:ByteArray)(w:World):(Instr.build 73 #[(0,zi p),(1,.slice A l c),(2,zi e),(3,.string s)]).run prog w=.ok (.agg #[zi p,.slice A l c,zi e,.string s]) w:=zK
theorem zyk(a0 a1 a2 a3:Value)(w:World):(Instr.buildSlice 70 1 #[(0,.agg #[a0,a1,a2,a3])]).run prog w=.ok (.slice (some ⟨w.heap.size,0,none⟩) 1 1) (w.alloc (.cells #[a0,a1,a2,a3] 73)):=zK
def rejN(l:List T):Nat:=(l.filter fun x=>rejE x != 0).length
def rejL(l:List T):List Int:=(l.map rejE).filter fun e=>e != 0
theorem zqT(l:List T)(x:T):rejL (l++[x])=rejL l++(if rejE x=0 then []else [rejE x]):=by
 unfold rejL;rw[List.map_append,List.filter_append];by_cases h:rejE x=0
 ·simp[h]
 ·simp[h]
theorem zsN(l:List T):(rejL l).length=rejN l:=by
 unfold rejL rejN;rw[List.filter_map,List.length_map];rfl
def er4:List Value->List Value
 | _::_::c::_::r=>c::er4 r
 | _=>[]
theorem zvW:∀(n:Nat) (xs ys:List Value),xs.length=n*4->er4 (xs++ys)=er4 xs++er4 ys
 | 0,xs,ys,h=>by
  rw[List.eq_nil_of_length_eq_zero (by omega:xs.length=0)];rfl
 | n+1,xs,ys,h=>by
  match xs,h with
  | a::b::c::d::r,h =>
   have:=zvW n r ys (by simp only[List.length_cons]at h;omega);simp only[List.cons_append,er4,this]
  | [],h=>simp at h
  | [_],h=>simp at h;omega
  | [_,_],h=>simp at h;omega
  | [_,_,_],h=>simp at h;omega
def RjO(es:List Int)(xs:List Value):Prop:=(∀u∈xs,u.oneCell'=true)/\er4 xs=es.map (Value.int .i64)
theorem RjO.app{es fs:List Int}{xs ys:List Value}{n:Nat}(h:RjO es xs)(hl:xs.length=n*4)(k:RjO fs ys):RjO (es++fs) (xs++ys) :=
 ⟨fun u hu=>(List.mem_append.1 hu).elim (h.1 u) (k.1 u),by rw[zvW n xs ys hl,h.2,k.2,List.map_append]⟩
theorem RjO.nil:RjO [] []:=⟨fun u hu=>(by cases hu),rfl⟩
structure RjS(W:World)(n0 fb N:Nat)(es:List Int)(pv:Value):Prop where
 box:W.heap[fb]?=some (.cells #[pv] 70 (0,0))
 row:∃xs,W.ownsRow n0 73 4 pv N xs/\RjO es xs
 ge:n0<=fb
 ne:pv.ownBlock≠some fb
section
variable {W W':World} {n0 fb N N':Nat} {es es':List Int} {pv pv':Value}
theorem RjS.lt(h:RjS W n0 fb N es pv):fb<W.heap.size/\∀b,pv.ownBlock=some b->n0<=b/\b<W.heap.size:=⟨zkf h.box,let ⟨_,hr,_⟩:=h.row;hr.lt⟩
theorem RjS.chg{C:Nat->Prop}(h:RjS W n0 fb N es pv)(hc:Chg C W W')(hC:∀b,b=fb\/pv.ownBlock=some b->¬ C b):RjS W' n0 fb N es pv:=by
 refine⟨hc.keep h.box (hC _ (.inl rfl)),?_,h.ge,h.ne⟩;obtain⟨xs,⟨e1,h2⟩,h9⟩:=h.row;refine⟨xs,⟨e1,?_⟩,h9⟩;rcases h2 with h2|⟨g,cap,cur,rfl,hb,hg,h3⟩
 ·exact .inl h2
 ·exact .inr ⟨g,cap,cur,rfl,hb,hc.keep hg (hC _ (.inr rfl)),h3⟩
theorem RjS.later(h:RjS W n0 fb N es pv)(hb:zw W W'):RjS W' n0 fb N es pv:=h.chg (C:=fun _=>False) (Chg.of_below hb) (fun _ _ h=>h)
theorem RjS.put(h:RjS W n0 fb N es pv)(ho:∃xs,W'.ownsRow n0 73 4 pv' N' xs/\RjO es' xs)(hg:W.grownBy W' pv.ownBlock)(aY:∀b,pv'.ownBlock=some b->pv.ownBlock=some b\/W.heap.size<=b) :
  RjS (W'.setCell ⟨fb,0,none⟩ pv') n0 fb N' es' pv':=by
 have hp':W'.heap[fb]?=some (.cells #[pv] 70 (0,0)):=(hg.block _ (zkf h.box) (fun e=>h.ne e.symm)).trans h.box;have kJ:pv'.ownBlock≠some fb:=fun e=>by
  rcases aY _ e with e|e
  ·exact h.ne e
  ·have:=zkf h.box;omega
 refine⟨by have:=heap_setCell_same W' fb 0 _ _ pv' hp';simpa using this,?_,h.ge,kJ⟩;obtain⟨xs,⟨e1,h2⟩,h9⟩:=ho;refine⟨xs,⟨e1,?_⟩,h9⟩;rcases h2 with h2|⟨g,cap,cur,rfl,hb,hg',h3⟩
 ·exact .inl h2
 ·refine .inr ⟨g,cap,cur,rfl,hb,?_,h3⟩;rw[Below.heap_setCell _ _ _ _ (fun e=>kJ (by subst e;rfl))];exact hg'
theorem RjS.slice(h:RjS W n0 fb N es pv):∃A c,pv=.slice A N c:=by
 obtain⟨xs,⟨e1,h2⟩,_⟩:=h.row;rcases h2 with⟨rfl,rfl⟩|⟨g,cap,cur,rfl,_⟩
 ·exact⟨_,_,rfl⟩
 ·exact⟨_,_,rfl⟩
end
theorem zqS(l:List T)(x:T):rejN (l++[x])=rejN l+one1 (rejE x):=by
 unfold rejN one1;rw[List.filter_append,List.length_append];by_cases h:rejE x=0
 ·simp[h]
 ·simp[h]
theorem zp7(l:List T):rejN l<=l.length:=List.length_filter_le _ _
def ChkI(p:Int)(N:Nat)(pre:List T)(C:Nat->Prop)(W:World):Prop :=
 ∃pv,(∀b,C b↔b=N\/b=N+1+1\/pv.ownBlock=some b)/\W.heap[N]?=some (.cells #[zi p] 3 (0,0))/\RjS W (N+1+1) (N+1+1) (rejN pre) (rejL pre) pv
theorem zpX(t:T)(p:Int)(v:Value)(w:World)(hv:NV w Any t v)(hd:dep t<=1000)(hsz:(po t).length<=100000)(hok:∀x∈po t,zwx x):Calls prog 61 #[zi p,v] w fun e w'=>∃pv xs,e=.returned pv/\w'.ownsRow w.heap.size 73 4 pv (rejN (po t)) xs/\RjO (rejL (po t)) xs/\zw w w':=by
 have HV:=zh hv;obtain⟨A,c,rfl,-⟩:=hv.open_;clear hv;have HD:=zh hd;have fw:=zh hok;have ny:=zh hsz;clear hok hd hsz;generalize t.k=k,t.n=n,t.s=s,t.ks.length=m at *
 refine(callsIn_wide (n:=3)).1 (callsIn_of_wp_marks func61 rfl trivial ((wpIn_wide (n:=3)).2 ?_));simp only[ntmps61,List.size_toArray,List.length_cons,List.length_nil,Nat.reduceAdd,Nat.reduceSub,Array.replicate_succ,Array.replicate_zero,List.push_toArray,List.append_toArray,List.nil_append,List.cons_append];go_wp2_with fail;refine(zts t _ _ (HV.out.later (zkb (zkb (zkb zr _) _) _))).mono ?_;rintro e x6 ⟨gr,k6,n6,s6,A6,m6,c6,rfl,hgr,hgb,iB,p9⟩;have q6:=zka (zkb (zkb (zkb (zs w) _) _) _) p9;have j3:=zkc (zkd (zkd (heap_alloc_new w (.cells #[zi p] 3)) (.cells #[zj k,zi n,.string s,.slice A m c] 28)) (.cells #[zn] 70)) p9;have BG:=zkc (heap_alloc_new ((w.alloc (.cells #[zi p] 3)).alloc (.cells #[zj k,zi n,.string s,.slice A m c] 28)) (.cells #[zn] 70)) p9
 simp only[World.size_alloc]at j3 BG hgr;have vG:=zh hgb;have iL:=zh iB;have qg:=zh q6;have uP:=zh j3;have HLB:=zh BG;have qz:=zh hgr;clear p9 hgb iB q6 j3 BG hgr;go_wp2_with fail;refine(wpIn_wide (n:=3)).1 ?_;refine zpx (n:=3) (gf:=117) (lb := #[.pointer (some ⟨gr,0,none⟩)]) rfl (zkH zvE) (zpe (3-1) gr t x6 _ k6 n6 s6 A6 m6 c6 vG.out iL.out HD.out) rfl
  (ChkI p w.heap.size) (fun _ _ _=>False) (fun b=>b=w.heap.size\/b=w.heap.size+1+1)
  (fun pre C W W' ⟨pv,h1,h2,h3⟩ hc=>⟨pv,h1,hc.keep h2 (fun h=>h ((h1 _).2 (.inl rfl))),h3.chg hc (fun b hb h=>h ((h1 _).2 (.inr hb)))⟩)
  (fun _ _ _ _ h _=>h)
  (fun pre C W ⟨pv,h1,h2,h3⟩ b hb=>by rcases(h1 b).1 hb with rfl|rfl|h;exact zkf h2;exact h3.lt.1;exact(h3.lt.2 b h).2)
  (fun _ _ _ h=>h.elim)
  (fun b hb hr=>by have:=qz.out;rcases hr with hr|hr<;>rcases hb with hb|hb<;>first|omega|(have:=hr.1;simp at this;omega)) ?_
  ⟨zn,fun b=>by simp[Value.ownBlock],uP.out,⟨HLB.out,⟨[],World.ownsRow_nil _ _ _ _,RjO.nil⟩,zl,by simp[Value.ownBlock]⟩⟩ ?_ ?_ ?_
 ·rintro b (rfl|hb)
  ·exact zkf vG.out
  ·exact hb.2
 ·rintro l pre x C W pv' v ⟨pv,hC,hpb,hrs⟩ jE hl xu hpre ⟨Ap,mp,cp,rfl⟩ hnx;have hxm:x∈po t:=by
   obtain⟨ys,hys⟩:=hpre;rw[<-hys];simp
  have HRJ:=zh (fw.out x hxm);have yj:=zh (show rejN pre<=100000 from by
   have h1:=zp7 pre;have h2:=ny.out;have h3:=hpre.length_le;simp at h3;omega)
  have HNX:=zh hnx;obtain⟨Ax,cx,rfl,-⟩:=hnx.open_;change Code.wpIn (Fence.wide.inRound l) (3-1-1) prog _ _ _ _
  gi_wp2
  refine⟨(Chg.refl _ _).alloc _,fun W2 hW2=>?_⟩;have hwl:=zkf hpb;have hbx:=hW2.keep (heap_alloc_new W (.cells #[zj x.k,zi x.n,.string x.s,.slice Ax x.ks.length cx] 28)) (show ¬ W.heap.size=l by omega);have hpb2:=hW2.keep (zkd hpb (.cells #[zj x.k,zi x.n,.string x.s,.slice Ax x.ks.length cx] 28)) (fun h=>jE ((hC _).2 (.inl h.symm)));have jm:=(hrs.later (zkb zr (.cells #[zj x.k,zi x.n,.string x.s,.slice Ax x.ks.length cx] 28))).chg hW2 (fun b hb h=>jE ((hC _).2 (.inr (by rcases hb with rfl|hb;exact .inl h.symm;exact .inr (h▸hb)))));have hnx2:NV W2 Any x (nv x.k x.n x.s Ax x.ks.length cx):=HNX.out.keep (fun _ _ _=>trivial) fun b hb hlt=>by
   rw[hW2.block b (by simp;omega) (show ¬ b=l by omega)];exact Below.heap_alloc W _ b hlt
  obtain⟨m0,m1,m2,m3⟩:=box4 hbx;have aI:=zh hC;have HPB2:=zh hpb2;have HRS2:=zh jm;have HNX2:=zh hnx2;have lU:=zh xu;clear hW2 hbx hpre hC hpb2 hrs jm hnx hnx2 hxm hpb;change Code.wpIn (Fence.wide.inRound l) (3-1-1) prog _ _ _ _;obtain⟨er,her⟩:=zX (rejE x);have HRJC:=zh (her▸ztJ x _ _ HNX2.out HRJ.out);have zx:=zh her;clear her
  gi_wp2
  refine⟨trivial,CallsIn.inRound l (callsIn_wide.2 ?_)⟩;refine HRJC.out.mono ?_;rintro e w3 ⟨s3,rfl,aO⟩;have uO:=zh (zkc HPB2.out aO);have fZ:=HRS2.out.later aO;have HB3:=zh aO;clear aO m0 m1 m2 m3;by_cases he0:er=0
  ·subst he0;have nG:=zh fZ;clear fZ
   gi_wp2
   refine⟨C,⟨pv,aI.out,uO.out,?_⟩,fun b hb=>.inl hb,Chg.of_below HB3.out⟩;rw[zqS,zqT,zx.out,if_pos rfl,List.append_nil];exact nG.out
  ·have e1:(er==0)=false:=by simpa using he0
   have e2:(er != 0)=true:=by simpa using he0
   obtain⟨vW,uo,rfl⟩:=fZ.slice;have y0:w3.cell? ⟨w.heap.size,0,none⟩=some (zi p):=zc uO.out rfl;have y1:w3.cell? ⟨w.heap.size+1+1,0,none⟩=some (.slice vW (rejN pre) uo):=zc fZ.box rfl;obtain⟨xs,hown,h1c⟩:=fZ.row;have hl3:=fZ.lt;have hge:=fZ.ge;have nG:=zh fZ;have hown':=hown.alloc (.cells #[zi p,.slice Ap mp cp,zi er,.string s3] 73);have hnl:=yj.out;have fA:=zh (zkU w3 73 [zi p,.slice Ap mp cp,zi er,.string s3]);have hbb:=zKp;have hbs:=zyk;obtain⟨i0,hi0,hz0,hz1,hz2⟩:=info_parts zuW;clear fZ hown
   gi_wp2_with (gi_at_builtin;refine zmF (P:=prog) _ rfl (.tmp 21) (.tmp 27) 70 rfl (w.heap.size+1+1) 73 i0 _ 4 56 underlying70 hi0 hz0 hz1 hz2 rfl zY (.slice vW (rejN pre) uo) (rejN pre) xs rfl hown' ⟨w3.heap.size,0,none⟩ 1 1 [zi p,.slice Ap mp cp,zi er,.string s3] rfl rfl fA.out (by intro u hu;simp at hu;rcases hu with rfl|rfl|rfl|rfl<;>rfl) (by unfold maxLen;omega) zO (by simp;omega) ?_;intro v' w' h2 h3 h5;have hbx:=(h3.block _ (by simp;omega) (fun e=>nG.out.ne e.symm)).trans (zkd nG.out.box _);have z0:w'.cell? ⟨w.heap.size+1+1,0,none⟩=some (.slice vW (rejN pre) uo):=zc hbx rfl;have z1:w'.frozen? ⟨w.heap.size+1+1,0,none⟩=false:=zf hbx;clear hbx;obtain⟨g8,aA,rfl⟩:=ownsRow_succ h2)
   have aY:∀b,(Value.slice (some ⟨g8,0,none⟩) (rejN pre+1) aA).ownBlock=some b->(Value.slice vW (rejN pre) uo).ownBlock=some b\/w3.heap.size<=b:=fun b hb=>by
    rcases h5 with h5|h5
    ·exact .inl (h5▸hb)
    ·exact .inr (by rw[h5]at hb;injection hb with hb;simp at hb;omega)
   have hput:=nG.out.put (W':=w') (pv':=.slice (some ⟨g8,0,none⟩) (rejN pre+1) aA) (N':=rejN pre+1) (es':=rejL pre++[er]) ⟨_,h2,h1c.app hown'.1 ⟨fun u hu=>by simp at hu;rcases hu with rfl|rfl|rfl|rfl<;>rfl,rfl⟩⟩ ⟨h3.os,h3.tape,h3.output,Nat.le_trans zS h3.size,fun b hb hne=>(h3.block b (by simp;omega) hne).trans (Below.heap_alloc w3 _ b hb)⟩ aY;have hch:Chg C W2 (w'.setCell ⟨w.heap.size+1+1,0,none⟩ (.slice (some ⟨g8,0,none⟩) (rejN pre+1) aA)) :=
    (((Chg.of_below HB3.out).alloc _).trans2 (Chg.row h3) (fun b _ h=>(aI.out b).2 (.inr (.inr h)))).setCell (.inl ((aI.out _).2 (.inr (.inl rfl)))) _
   have hpb4:(w'.setCell ⟨w.heap.size+1+1,0,none⟩ (.slice (some ⟨g8,0,none⟩) (rejN pre+1) aA)).heap[w.heap.size]?=some (.cells #[zi p] 3 (0,0)):=by
    rw[Below.heap_setCell _ _ _ _ (by simp;omega),h3.block _ (by simp;omega) (fun e=>by have:=(hl3.2 _ e.symm).1;omega)];exact zkd uO.out _
   refine⟨fun b=>b=w.heap.size\/b=w.heap.size+1+1\/(Value.slice (some ⟨g8,0,none⟩) (rejN pre+1) aA).ownBlock=some b,⟨_,fun _=>Iff.rfl,hpb4,?_⟩,fun b hb=>?_,hch⟩
   ·rw[zqS,zqT,zx.out,one1,if_neg he0,if_neg he0];exact hput
   ·rcases hb with hb|hb|hb
    ·exact .inl ((aI.out _).2 (.inl hb))
    ·exact .inl ((aI.out _).2 (.inr (.inl hb)))
    ·rcases aY b hb with h|h
     ·exact .inl ((aI.out _).2 (.inr (.inr h)))
     ·exact .inr (Nat.le_trans HB3.out.size h)
 ·intro D C W' hD hC hch hK;obtain⟨pv,bz,hpb7,eT⟩:=hC;obtain⟨vW,uo,rfl⟩:=eT.slice;have r0:W'.cell? ⟨w.heap.size+1+1,0,none⟩=some (.slice vW (rejN (po t)) uo):=zc eT.box rfl;have xm:=qg.out.size;have hlR:=zkf HLB.out;have kD:=zh (show zw w W' from qg.out.trans (hch.below xm (fun b h=>zO)));have HK:=zh hK;have kr:=zh eT;clear hch hK eT bz hpb7;go_wp2_with fail;refine⟨zS,.inl ⟨_,_,rfl,run_takeDeferred HK.out,?_⟩⟩;have aP:=kD.out.trans ((Chg.putObj W' D (.deferred none)).below (B:=w.heap.size) kD.out.size (fun b hb=>by have:b=D:=hb;omega));obtain⟨xs,⟨e1,h2⟩,h9⟩:=kr.out.row;refine⟨.slice vW (rejN (po t)) uo,by simp[results,results61,go_sem],_,xs,rfl,⟨e1,?_⟩,h9,aP⟩;rcases h2 with h2|⟨g,cap,cur,h8,hb,hg,h3⟩
  ·exact .inl h2
  ·refine .inr ⟨g,cap,cur,h8,zO,(World.putObj_heap_other (fun e=>?_)).trans hg,h3⟩;subst e;rw[HK.out]at hg
   cases hg
 ·intro D pre C W' hD hC;exact hC.elim
end
section
open Go Go.RowKit
def cntA(ps:List PR)(s:ByteArray)(l:Nat):Nat->List T->List VD->Nat
 | _,[],_=>0
 | i,t::ts,vs=>one1 (argE ps s l i t.s vs)+cntA ps s l (i+1) ts vs
mutual
/-- How many faults scope.visit reports. -/
def cntV(ps:List PR):T->List VD->Nat
 | .nd k _ s ks,vs=>one1 (zlr ps k s ks.length vs)+(if k=50\/k=51 then cntA ps s ks.length 0 ks vs else cntK ps k s 0 ks vs)
def cntK(ps:List PR)(k:Int)(s:ByteArray):Nat->List T->List VD->Nat
 | _,[],_=>0
 | i,t::ts,vs=>cntV ps t (zmc k s i vs)+cntK ps k s (i+1) ts vs
end
theorem zo7(ps:List PR)(s:ByteArray)(l:Nat)(vs:List VD):∀(a b:List T) (i:Nat),cntA ps s l i (a++b) vs=cntA ps s l i a vs+cntA ps s l (i+a.length) b vs
 | [],b,i=>by simp[cntA]
 | t::ts,b,i=>by simp[cntA,zo7 ps s l vs ts b (i+1),Nat.add_assoc,Nat.add_comm 1 ts.length]
theorem zo6(ps:List PR)(k:Int)(s:ByteArray)(vs:List VD):∀(a b:List T) (i:Nat),cntK ps k s i (a++b) vs=cntK ps k s i a vs+cntK ps k s (i+a.length) b vs
 | [],b,i=>by simp[cntK]
 | t::ts,b,i=>by simp[cntK,zo6 ps k s vs ts b (i+1),Nat.add_assoc,Nat.add_comm 1 ts.length]
theorem zrm(ps:List PR)(s:ByteArray)(l:Nat)(vs:List VD){ks:List T}{j:Nat}(h:j<ks.length):cntA ps s l 0 (ks.take (j+1)) vs=cntA ps s l 0 (ks.take j) vs+one1 (argE ps s l j ks[j].s vs):=by
 rw[List.take_succ_eq_append_getElem h,zo7];have:(ks.take j).length=j:=by simp;omega
 simp[cntA,this]
theorem zwc(ps:List PR)(k:Int)(s:ByteArray)(vs:List VD){ks:List T}{j:Nat}(h:j<ks.length):cntK ps k s 0 (ks.take (j+1)) vs=cntK ps k s 0 (ks.take j) vs+cntV ps ks[j] (zmc k s j vs):=by
 rw[List.take_succ_eq_append_getElem h,zo6];have:(ks.take j).length=j:=by simp;omega
 simp[cntK,this]
theorem zng(e:Int):one1 e<=1:=by unfold one1;split<;>omega
theorem zsI(t:T):1<=size t:=by cases t;rw[size];omega
theorem zqr(ps:List PR)(s:ByteArray)(l:Nat)(vs:List VD):∀(ks:List T) (i:Nat),cntA ps s l i ks vs<=zk0 ks
 | [],i=>by simp[cntA]
 | t::ts,i=>by
  have h1:=zqr ps s l vs ts (i+1);have h2:=zng (argE ps s l i t.s vs);have h3:=zsI t;simp only[cntA,zk0];omega
theorem zsk(ps:List PR)(k:Int)(s:ByteArray):∀(ks:List T),(∀t∈ks,∀vs,cntV ps t vs<=size t)->∀(i:Nat) (vs:List VD),cntK ps k s i ks vs<=zk0 ks
 | [],_,i,vs=>by simp[cntK]
 | t::ts,h,i,vs=>by
  have h1:=zsk ps k s ts (fun u hu=>h u (by simp[hu])) (i+1) vs;have h2:=h t zS (zmc k s i vs);simp only[cntK,zk0];omega
theorem zwb(ps:List PR)(t:T):∀vs,cntV ps t vs<=size t:=by
 induction t using T.ind with
 | _ k n s ks ih =>
 intro vs;rw[cntV,size];have h1:=zng (zlr ps k s ks.length vs);have h2:=zqr ps s ks.length vs ks 0;have h3:=zsk ps k s ks ih 0 vs
 split<;>omega
theorem zlQ:∀(ks:List T) (j:Nat),zk0 (ks.take j)<=zk0 ks
 | [],j=>by simp[zk0]
 | t::ts,0=>by simp[zk0]
 | t::ts,j+1=>by have:=zlQ ts j;simp only[List.take_succ_cons,zk0];omega
theorem ztV(k:Int)(s:ByteArray)(i:Nat)(vs:List VD):(zmc k s i vs).length<=vs.length+1:=by unfold zmc;split;simp;split<;>simp
theorem PV.keep{w w':World}{S S':Nat->Prop}{p:PG}{v:Value}(h:PV w S p v)(hS:∀b,S b->b<w.heap.size->S' b)(hk:∀b,S b->b<w.heap.size->w'.heap[b]?=w.heap[b]?):PV w' S' p v :=
 let ⟨A1,c1,A2,c2,A3,c3,e,h⟩:=h;⟨A1,c1,A2,c2,A3,c3,e,h.keep hS hk⟩
structure VsI(Rd:World->Prop)(n0 fb:Nat)(Wb:World)(pv:Value)(N:Nat)(wr:World)(pv':Value):Prop where
 rd:Rd wr
 fs:FS wr n0 fb N pv'
 own:∀b,pv'.ownBlock=some b->pv.ownBlock=some b\/Wb.heap.size<=b
 chg:Chg (fun b=>b=fb\/pv.ownBlock=some b) Wb wr
theorem VsI.step{f:FuncId}{cap:Array Value}{Rd:World->Prop}{n0 fb:Nat}{Wb wr w5 W6:World}{pv pv':Value}{N N':Nat}{e:Ending}(hr:RepC f cap Rd n0 fb)(h:VsI Rd n0 fb Wb pv N wr pv')(hb:zw wr w5)(hp:RepP w5 n0 fb pv' N' e W6) :
  ∃jh,VsI Rd n0 fb Wb pv N' W6 jh:=by
 obtain⟨_,jh,hfs,aY,hc⟩:=hp;have sP:=h.fs.later hb;have hz:=h.chg.size;have qE:=hb.size;refine⟨jh,hr.keep w5 W6 pv' N (hr.keep wr w5 pv' N h.rd h.fs (Chg.of_below hb)) sP hc,hfs,fun b hb'=>?_,(h.chg.trans (Chg.of_below hb)).trans2 hc fun b hlt hh=>?_⟩
 ·rcases aY b hb' with h1|h1
  ·exact h.own b h1
  ·exact .inr zO
 ·rcases hh with hh|hh
  ·exact .inl hh
  ·rcases h.own b hh with h1|h1
   ·exact .inr h1
   ·omega
theorem VsI.rep{Rd:World->Prop}{n0 fb:Nat}{W Wb w:World}{pw pv':Value}{N':Nat}{e:Ending}(h:VsI Rd n0 fb Wb pw N' w pv')(hb:zw W Wb)(he:∃v,e=.returned v):RepP W n0 fb pw N' e w :=
 ⟨he,pv',h.fs,fun b hh=>(h.own b hh).imp id fun h1=>by have:=hb.size;omega,(Chg.of_below hb).trans h.chg⟩
def IsW(x:Value)(w:World)(v:Value)(w':World):Prop:=v=x/\zw w w'
theorem zn8{P:Program}{f:FuncId}{args:Array Value}{w:World}{x:Value}(h:Calls P f args w (zu x w)):Calls P f args w fun e w'=>∃v,e=.returned v/\IsW x w v w' :=
 h.mono fun _ _ ⟨he,hb⟩=>⟨_,he,rfl,hb⟩
def RepV(W:World)(n0 fb:Nat)(pv:Value)(N':Nat)(_:Value)(W':World):Prop:=RepP W n0 fb pv N' (.returned undef) W'
theorem zmL{P:Program}{f:FuncId}{args:Array Value}{W:World}{n0 fb N':Nat}{pv:Value}(h:Calls P f args W (RepP W n0 fb pv N')):Calls P f args W fun e w'=>∃v,e=.returned v/\RepV W n0 fb pv N' v w' :=
 h.mono fun _ _ ⟨⟨v,he⟩,hp⟩=>⟨v,he,⟨_,rfl⟩,hp⟩
def zLB(w:World)(S:Nat->Prop)(vs:List VD)(v:Value)(w':World):Prop:=∃A' c',v=.slice A' vs.length c'/\RowV w' (fun b=>S b\/w.heap.size<=b) A' vs/\vs.length<=c'/\zw w w'
theorem zuK{P:Program}{f:FuncId}{args:Array Value}{w:World}{S:Nat->Prop}{vs:List VD}(h:Calls P f args w (zyB w S vs)):Calls P f args w fun e w'=>∃v,e=.returned v/\zLB w S vs v w' :=
 h.mono fun _ _ ⟨A,c,he,hn⟩=>⟨_,he,A,c,rfl,hn⟩
theorem zz2:IsFn prog 88 f88:=⟨func88,zK,zK⟩
theorem zpJ:IsFn prog 90 f90:=⟨func90,zK,zK⟩
theorem zsf:IsFn prog 89 f89:=⟨func89,zK,zK⟩
theorem zz0:IsFn prog 91 f91:=⟨func91,zK,zK⟩
theorem zzX:IsFn prog 58 f58:=⟨func58,zK,zK⟩
theorem znQ(f:FuncId)(cap:Array Value)(Rd:World->Prop)(n0 fb:Nat)(hrep:RepC f cap Rd n0 fb)(p:PG)(t:T) :
  ∀(S:Nat->Prop) (vs:List VD) (A:Option Addr) (c:Nat) (q:List Int) (Aq:Option Addr) (cq N:Nat) (pw:Value) (W:World) (v1 v2:Value),Rd W->FS W n0 fb N pw->PV W S p v1->NV W S t v2->RowV W S A vs->vs.length<=c->RowI W S Aq q->q.length<=cq ->
   (∀b,S b->b<W.heap.size->¬ (b=fb\/pw.ownBlock=some b))->q.length+dep t<=50000->vs.length+dep t<=50000->N+size t<=1000000 ->
   Calls prog 58 #[v1,v2,.slice Aq q.length cq,.slice A vs.length c,.func (.func f) #[] cap] W (RepP W n0 fb pw (N+cntV p.prs t vs)):=by
 obtain⟨fn,hfn⟩:=hrep.fn;have bq:=zh hrep;clear hrep
 induction t using T.ind with
 | _ tk tn ts ks ih =>
 intro S vs A c q Aq cq N pw W v1 v2 hrd hfs hv1 hv2 hrow hlc jr hqc eX qJ hdv hN;have qy:=zh ih;have hvv:=hv1;obtain⟨A1,c1,A2,c2,A3,c3,rfl,-⟩:=hv1;obtain⟨L1,hL1⟩:=zX (p.vs.length);obtain⟨L2,hL2⟩:=zX (p.prs.length);obtain⟨k,hk⟩:=zX (p.m.k);obtain⟨n,hn⟩:=zX (p.m.n);obtain⟨s,hs⟩:=zX (p.m.s);obtain⟨l3,hl3⟩:=zX (p.m.ks.length);rw[hL1,hL2,hk,hn,hs,hl3];rw[hL1,hL2,hk,hn,hs,hl3]at hvv;have xW:=zh hvv;clear ih hvv hL1 hL2 hk hn hs hl3;have fB:=zh hv2;obtain⟨B,tc,rfl,_,hlk,_,gX⟩:=hv2.open_;simp only[zND]at *
 have av:=zkz hlk;rw[dep]at qJ hdv;rw[size]at hN;have hksz:ks.length<=1000000:=by
  have:∀l:List T,l.length<=zk0 l:=fun l=>by
   induction l with
   | nil=>simp
   | cons t ts ih=>have:=zsI t;simp only[List.length_cons,zk0];omega
  have:=this ks;omega
 have ze:=zh gX;have ae:=zh hrow;have jf:=zh hlc;have wO:=zh jr;have Ci:=zh hqc;have oz:=zh hrd;have qY:=zh hfs;have HFAR:=zh eX;have hlv:vs.length<=LV:=by unfold LV;omega
 have uU:=zh hlv;have hfl:=hfs.lt;have lV:=zh hfl;obtain⟨CC,qL⟩:=zX (cntV p.prs (.nd tk tn ts ks) vs);rw[qL];have aI:=zh qL;obtain⟨E0,hE0⟩:=zX (zlr p.prs tk ts ks.length vs);have vM:=zh hE0;have hE1:=zng E0;clear gX hrow hlc jr hqc hrd hfs eX hlk hlv hv2 hfl qL hE0;go_enter func58,ntmps58;go_upto_region 1 with fail;have hbw:zw W ((W.alloc (.cells #[.slice A1 L1 c1,.slice A2 L2 c2,zj k,zi n,.string s,.slice A3 l3 c3] 30)).alloc (.cells #[zj tk,zi tn,.string ts,.slice B ks.length tc] 28)):=zkb (zkb zr _) _;have pQ:=zkd (heap_alloc_new W (.cells #[.slice A1 L1 c1,.slice A2 L2 c2,zj k,zi n,.string s,.slice A3 l3 c3] 30)) (.cells #[zj tk,zi tn,.string ts,.slice B ks.length tc] 28)
 have hbN:=heap_alloc_new (W.alloc (.cells #[.slice A1 L1 c1,.slice A2 L2 c2,zj k,zi n,.string s,.slice A3 l3 c3] 30)) (.cells #[zj tk,zi tn,.string ts,.slice B ks.length tc] 28);simp only[World.size_alloc]at hbN;obtain⟨Wb,kS⟩:=zX ((W.alloc (.cells #[.slice A1 L1 c1,.slice A2 L2 c2,zj k,zi n,.string s,.slice A3 l3 c3] 30)).alloc (.cells #[zj tk,zi tn,.string ts,.slice B ks.length tc] 28));rw[kS]at hbw pQ hbN ⊢;have kT:=zh (show Wb.heap.size=W.heap.size+2 by rw[<-kS];simp);have aU:=zh hbw;have HBP:=zh pQ;have HBN:=zh hbN
 have ko:=zh (show ∀w':World,w'.heap[W.heap.size]?=Wb.heap[W.heap.size]?->w'.heap[W.heap.size+1]?=Wb.heap[W.heap.size+1]?->(fun w':World=>(zN6 w' W.heap.size (.slice A1 L1 c1) (.slice A2 L2 c2) (zj k) (zi n) (.string s) (.slice A3 l3 c3))/\zN4 w' (W.heap.size+1) (zj tk) (zi tn) (.string ts) (.slice B ks.length tc)) w' from fun w' h1 h2=>⟨box6 (h1.trans pQ),box4 (h2.trans hbN)⟩)
 have qC:=zh (show ∀w':World,Chg (fun b=>b=fb\/pw.ownBlock=some b) Wb w'->(fun w':World=>(zN6 w' W.heap.size (.slice A1 L1 c1) (.slice A2 L2 c2) (zj k) (zi n) (.string s) (.slice A3 l3 c3))/\zN4 w' (W.heap.size+1) (zj tk) (zi tn) (.string ts) (.slice B ks.length tc)) w' from fun w' h=>ko.out w' (h.block _ (by have:=kT.out;omega) (fun hh=>by rcases hh with hh|hh;(have:=lV.out.1;omega);(have:=(lV.out.2 _ hh).2;omega))) (h.block _ (by have:=kT.out;omega) (fun hh=>by rcases hh with hh|hh;(have:=lV.out.1;omega);(have:=(lV.out.2 _ hh).2;omega))));have oK:=zh (show ∀w':World,Chg (fun b=>b=fb\/pw.ownBlock=some b) Wb w'->∀b,S b->b<W.heap.size->w'.heap[b]?=W.heap[b]? from fun w' h b hb hlt=>(h.block b (by have:=kT.out;omega) (HFAR.out b hb hlt)).trans (aU.out.block b hlt))
 have hi0:VsI Rd n0 fb Wb pw N Wb pw:=⟨bq.out.keep W Wb pw N oz.out qY.out (Chg.of_below hbw),qY.out.later hbw,fun b hb=>.inl hb,Chg.refl _ _⟩
 have HI0:=zh hi0;clear kS hbw pQ hbN hi0;have hdr:=(zs Wb).drew;have hSS:zW (fun w':World=>(zN6 w' W.heap.size (.slice A1 L1 c1) (.slice A2 L2 c2) (zj k) (zi n) (.string s) (.slice A3 l3 c3))/\zN4 w' (W.heap.size+1) (zj tk) (zi tn) (.string ts) (.slice B ks.length tc)) zU Wb.drew:=⟨qC.out _ (Chg.of_below hdr),trivial⟩
 refine wp_region_noPanic ?_;refine zG hSS 20 ?_;refine zT 0 hSS ?_;refine zT 1 hSS ?_;refine zT 2 hSS ?_;refine zT 3 hSS ?_;refine zT 4 hSS ?_;refine zT 5 hSS ?_;refine zT 6 hSS ?_;refine zo 7 fun K hK=>?_;refine zke zR (.func 88) [.tmp 18,.tmp 19,.tmp 20] _ zR 88 _ zz2 zR _ zR _ (zn8 (zvS p (.nd tk tn ts ks) vs A c S S S _ _ _ (xW.out.later (zka aU.out hdr)) (fB.out.later (zka aU.out hdr)) (ae.out.later (zka aU.out hdr)) uU.out)) ?_;rintro vq w2 ⟨rfl,aj⟩;simp only[T.k_nd,T.s_nd,T.ks_nd];rw[vM.out];have b2:=zka hdr aj;have aB:=zV hSS (qC.out _ (Chg.of_below b2)) trivial;refine hK.out _ _ aB ?_;clear hK K hSS;(try simp only[zQ]);refine zo 8 fun K hK=>?_
 refine zlo zR (.tmp 14) [.tmp 15,.tmp 17,.tmp 21] _ zR f fn hfn cap zR _ zR _ (zmL (bq.out.call N pw E0 q Aq cq ts S w2 (bq.out.keep Wb w2 pw N HI0.out.rd HI0.out.fs (Chg.of_below b2)) (HI0.out.fs.later b2) ((wO.out.later aU.out).later b2) zO zO)) ?_;rintro vq W3 hp3;obtain⟨Ah,hi3⟩:=HI0.out.step bq.out b2 hp3;have aV:=zV aB (qC.out _ hi3.chg) trivial;refine hK.out _ _ aV ?_;clear hK K aB;(try simp only[zQ]);refine zd ?_;refine NoPanic.normal ?_;obtain⟨⟨a0,a1,a2,a3,a4,a5⟩,b0,b1,b2',b3⟩:=aV.1;have HI3:=zh hi3;clear aV hi3 hp3 b2 aj hdr HI0
 have HD:=zh (show ∀w':World,Chg (fun b=>b=fb\/pw.ownBlock=some b) Wb w'->PV w' (fun b=>S b/\b<W.heap.size) p _/\NV w' (fun b=>S b/\b<W.heap.size) (.nd tk tn ts ks) _/\RowV w' (fun b=>S b/\b<W.heap.size) A vs/\RowI w' (fun b=>S b/\b<W.heap.size) Aq q/\zkS w' (fun b=>S b/\b<W.heap.size) B ks from fun w' h=>⟨xW.out.keep (fun b hb hlt=>⟨hb,hlt⟩) (oK.out w' h),fB.out.keep (fun b hb hlt=>⟨hb,hlt⟩) (oK.out w' h),ae.out.keep (fun b hb hlt=>⟨hb,hlt⟩) (oK.out w' h),wO.out.keep (fun b hb hlt=>⟨hb,hlt⟩) (oK.out w' h),ze.out.keep (fun b hb hlt=>⟨hb,hlt⟩) (oK.out w' h)⟩);by_cases hcall:tk=50\/tk=51
 ·rcases hcall with rfl|rfl
  ·go_wp2_with fail
   go_loopw [34] (fun i wr=>∃(j:Nat) (pv':Value),j<=ks.length/\i=zi j/\VsI Rd n0 fb Wb pw (N+one1 E0+cntA p.prs ts ks.length 0 (ks.take j) vs) wr pv') (fun i _=>ks.length-(intOf i).toNat)
   case atStart=>exact⟨0,_,Nat.zero_le _,rfl,by simpa[cntA]using HI3.out⟩
   case round =>
    obtain⟨j,pv',hj,rfl,hinv⟩:=hrel;have ah:=zh hinv;clear HI3;by_cases hlt:j<ks.length
    ·obtain⟨-,-,-,-,gX⟩:=HD.out wr hinv.chg;obtain⟨a,u,A4,c4,rfl,hsa,Hu,⟨q0,q1,q2,q3⟩,hnu⟩:=gX.nd hlt;have uR:=zh hnu;clear hinv gX hnu hsa;go_upto_region 6 with fail;have hbk:zw wr (wr.alloc (.cells #[zj u.k,zi u.n,.string u.s,.slice A4 u.ks.length c4] 28)):=zkb zr _;have dX:=heap_alloc_new wr (.cells #[zj u.k,zi u.n,.string u.s,.slice A4 u.ks.length c4] 28);obtain⟨wk,hwk⟩:=zX (wr.alloc (.cells #[zj u.k,zi u.n,.string u.s,.slice A4 u.ks.length c4] 28));rw[hwk]at hbk dX ⊢;have fq:=zh (show wk.heap.size=wr.heap.size+1 by rw[<-hwk];simp);have ax:=zh hbk;have iq:=zh dX;clear hwk hbk dX
     have bJ:=zh (show ∀w':World,zw wk w'->(fun w':World=>(zN6 w' W.heap.size (.slice A1 L1 c1) (.slice A2 L2 c2) (zj k) (zi n) (.string s) (.slice A3 l3 c3)/\zN4 w' (W.heap.size+1) (zj 50) (zi tn) (.string ts) (.slice (some a) ks.length tc))/\zN4 w' wr.heap.size (zj u.k) (zi u.n) (.string u.s) (.slice A4 u.ks.length c4)) w'/\zU w' from fun w' h=>⟨⟨qC.out w' (ah.out.chg.trans (Chg.of_below (zka ax.out h))),box4 ((h.block _ (by have:=fq.out;omega)).trans iq.out)⟩,trivial⟩);have hdr:=(zs wk).drew;have hSS:=bJ.out _ hdr;refine wp_region_noPanic ?_
     refine zkl (fun w':World=>(zN6 w' W.heap.size (.slice A1 L1 c1) (.slice A2 L2 c2) (zj k) (zi n) (.string s) (.slice A3 l3 c3)/\zN4 w' (W.heap.size+1) (zj 50) (zi tn) (.string ts) (.slice (some a) ks.length tc))/\zN4 w' wr.heap.size (zj u.k) (zi u.n) (.string u.s) (.slice A4 u.ks.length c4)) zU 40 zK ?_;refine zT 0 hSS ?_;refine zT 1 hSS ?_;refine zT 2 hSS ?_;refine zT 4 hSS ?_;refine zT 5 hSS ?_;refine zT 6 hSS ?_;refine zT 7 hSS ?_;refine zT 8 hSS ?_;refine zT 9 hSS ?_;refine zo 3 fun K hK=>?_;refine zke zR (.func 89) [.tmp 40,.tmp 41] _ zR 89 _ zsf zR _ zR _ (znu (zpa q Aq cq (j:Int) ⟨zO,zO⟩ _ _ (HD.out _ (ah.out.chg.trans (Chg.of_below (zka ax.out hdr)))).2.2.2.1 Ci.out zO)) ?_;rintro vq w2 ⟨Ac,cc,rfl,hrc,hcc,aj⟩;have b2:=zka hdr aj
     have aB:=bJ.out _ b2;refine hK.out _ _ aB ?_;clear hK K hSS;(try simp only[zQ]);refine zo 10 fun K hK=>?_;refine zke zR (.func 90) [.tmp 45,.tmp 46,.tmp 47,.tmp 48] _ zR 90 _ zpJ zR _ zR _ (zn8 (zoc p (.nd 50 tn ts ks) j hlt vs A c _ _ _ _ _ _ (HD.out _ (ah.out.chg.trans (Chg.of_below (zka ax.out b2)))).1 (HD.out _ (ah.out.chg.trans (Chg.of_below (zka ax.out b2)))).2.1 (HD.out _ (ah.out.chg.trans (Chg.of_below (zka ax.out b2)))).2.2.1 uU.out)) ?_;rintro vq w3 ⟨rfl,aO⟩;simp only[T.k_nd,T.s_nd,T.ks_nd];have b3:=zka b2 aO;have aV:=bJ.out _ b3;refine hK.out _ _ aV ?_;clear hK K aB;(try simp only[zQ]);refine zo 11 fun K hK=>?_;have hcl:cntA p.prs ts ks.length 0 (ks.take j) vs<=zk0 ks:=Nat.le_trans (zqr _ _ _ _ _ _) (zlQ _ _);have hF:=ah.out.fs.later (zka ax.out b3)
     have hR:=bq.out.keep _ _ _ _ ah.out.rd ah.out.fs (Chg.of_below (zka ax.out b3));refine zlo zR (.tmp 39) [.tmp 42,.tmp 44,.tmp 49] _ zR f fn hfn cap zR _ zR _ (zmL (bq.out.call _ pv' _ (q++[(j:Int)]) Ac cc u.s _ w3 hR hF (hrc.later aO) (by simp;omega) zO)) ?_;rintro vq W6 hp;obtain⟨iT,bQ⟩:=ah.out.step bq.out (zka ax.out b3) hp;have bM:VsI Rd n0 fb Wb pw (N+one1 E0+cntA p.prs ts ks.length 0 (ks.take (j+1)) vs) W6 iT:=by rw[zrm p.prs ts ks.length vs hlt];simpa[Nat.add_assoc]using bQ
     have au:zW (fun w':World=>(zN6 w' W.heap.size (.slice A1 L1 c1) (.slice A2 L2 c2) (zj k) (zi n) (.string s) (.slice A3 l3 c3)/\zN4 w' (W.heap.size+1) (zj 50) (zi tn) (.string ts) (.slice (some a) ks.length tc))/\zN4 w' wr.heap.size (zj u.k) (zi u.n) (.string u.s) (.slice A4 u.ks.length c4)) zU W6:=⟨⟨qC.out _ bM.chg,box4 ((hp.2.elim fun _ h=>h.2.2.block _ (by have:=(zka ax.out b3).size;have:=b3.size;have:=fq.out;omega) (fun hh=>by have hl:=ah.out.fs.lt;rcases hh with hh|hh;(have:=hl.1;omega);(have:=(hl.2 _ hh).2;omega))).trans ((b3.block _ (by have:=fq.out;omega)).trans iq.out))⟩,trivial⟩
     refine hK.out _ _ au ?_;clear hK K aV;(try simp only[zQ]);refine zd ?_;refine NoPanic.normal ?_;have ll:=zh bM;clear bM bQ hp au hF hR;go_wp2_with fail
     go_roundw
     case rel=>exact⟨j+1,_,zO,by go_num,ll.out⟩
     case measure=>simp[intOf];omega
    ·obtain rfl:j=ks.length:=zO
     clear hinv;go_wp2_with fail;(try simp only[Exit.inBlock,Exit.then]);refine bodyPost_ret (results_none rfl _ _ _) rfl ?_;have hinv:=ah.out;rw[List.take_of_length_le zl]at hinv;have hcc:=aI.out;rw[cntV,vM.out,if_pos zY]at hcc;rw[<-hcc,<-Nat.add_assoc];exact hinv.rep aU.out ⟨_,rfl⟩
  ·go_wp2_with fail
   go_loopw [34] (fun i wr=>∃(j:Nat) (pv':Value),j<=ks.length/\i=zi j/\VsI Rd n0 fb Wb pw (N+one1 E0+cntA p.prs ts ks.length 0 (ks.take j) vs) wr pv') (fun i _=>ks.length-(intOf i).toNat)
   case atStart=>exact⟨0,_,Nat.zero_le _,rfl,by simpa[cntA]using HI3.out⟩
   case round =>
    obtain⟨j,pv',hj,rfl,hinv⟩:=hrel;have ah:=zh hinv;clear HI3;by_cases hlt:j<ks.length
    ·obtain⟨-,-,-,-,gX⟩:=HD.out wr hinv.chg;obtain⟨a,u,A4,c4,rfl,hsa,Hu,⟨q0,q1,q2,q3⟩,hnu⟩:=gX.nd hlt;have uR:=zh hnu;clear hinv gX hnu hsa;go_upto_region 6 with fail;have hbk:zw wr (wr.alloc (.cells #[zj u.k,zi u.n,.string u.s,.slice A4 u.ks.length c4] 28)):=zkb zr _;have dX:=heap_alloc_new wr (.cells #[zj u.k,zi u.n,.string u.s,.slice A4 u.ks.length c4] 28);obtain⟨wk,hwk⟩:=zX (wr.alloc (.cells #[zj u.k,zi u.n,.string u.s,.slice A4 u.ks.length c4] 28));rw[hwk]at hbk dX ⊢;have fq:=zh (show wk.heap.size=wr.heap.size+1 by rw[<-hwk];simp);have ax:=zh hbk;have iq:=zh dX;clear hwk hbk dX
     have bJ:=zh (show ∀w':World,zw wk w'->(fun w':World=>(zN6 w' W.heap.size (.slice A1 L1 c1) (.slice A2 L2 c2) (zj k) (zi n) (.string s) (.slice A3 l3 c3)/\zN4 w' (W.heap.size+1) (zj 51) (zi tn) (.string ts) (.slice (some a) ks.length tc))/\zN4 w' wr.heap.size (zj u.k) (zi u.n) (.string u.s) (.slice A4 u.ks.length c4)) w'/\zU w' from fun w' h=>⟨⟨qC.out w' (ah.out.chg.trans (Chg.of_below (zka ax.out h))),box4 ((h.block _ (by have:=fq.out;omega)).trans iq.out)⟩,trivial⟩);have hdr:=(zs wk).drew;have hSS:=bJ.out _ hdr;refine wp_region_noPanic ?_
     refine zkl (fun w':World=>(zN6 w' W.heap.size (.slice A1 L1 c1) (.slice A2 L2 c2) (zj k) (zi n) (.string s) (.slice A3 l3 c3)/\zN4 w' (W.heap.size+1) (zj 51) (zi tn) (.string ts) (.slice (some a) ks.length tc))/\zN4 w' wr.heap.size (zj u.k) (zi u.n) (.string u.s) (.slice A4 u.ks.length c4)) zU 40 zK ?_;refine zT 0 hSS ?_;refine zT 1 hSS ?_;refine zT 2 hSS ?_;refine zT 4 hSS ?_;refine zT 5 hSS ?_;refine zT 6 hSS ?_;refine zT 7 hSS ?_;refine zT 8 hSS ?_;refine zT 9 hSS ?_;refine zo 3 fun K hK=>?_;refine zke zR (.func 89) [.tmp 40,.tmp 41] _ zR 89 _ zsf zR _ zR _ (znu (zpa q Aq cq (j:Int) ⟨zO,zO⟩ _ _ (HD.out _ (ah.out.chg.trans (Chg.of_below (zka ax.out hdr)))).2.2.2.1 Ci.out zO)) ?_;rintro vq w2 ⟨Ac,cc,rfl,hrc,hcc,aj⟩;have b2:=zka hdr aj
     have aB:=bJ.out _ b2;refine hK.out _ _ aB ?_;clear hK K hSS;(try simp only[zQ]);refine zo 10 fun K hK=>?_;refine zke zR (.func 90) [.tmp 45,.tmp 46,.tmp 47,.tmp 48] _ zR 90 _ zpJ zR _ zR _ (zn8 (zoc p (.nd 51 tn ts ks) j hlt vs A c _ _ _ _ _ _ (HD.out _ (ah.out.chg.trans (Chg.of_below (zka ax.out b2)))).1 (HD.out _ (ah.out.chg.trans (Chg.of_below (zka ax.out b2)))).2.1 (HD.out _ (ah.out.chg.trans (Chg.of_below (zka ax.out b2)))).2.2.1 uU.out)) ?_;rintro vq w3 ⟨rfl,aO⟩;simp only[T.k_nd,T.s_nd,T.ks_nd];have b3:=zka b2 aO;have aV:=bJ.out _ b3;refine hK.out _ _ aV ?_;clear hK K aB;(try simp only[zQ]);refine zo 11 fun K hK=>?_;have hcl:cntA p.prs ts ks.length 0 (ks.take j) vs<=zk0 ks:=Nat.le_trans (zqr _ _ _ _ _ _) (zlQ _ _);have hF:=ah.out.fs.later (zka ax.out b3)
     have hR:=bq.out.keep _ _ _ _ ah.out.rd ah.out.fs (Chg.of_below (zka ax.out b3));refine zlo zR (.tmp 39) [.tmp 42,.tmp 44,.tmp 49] _ zR f fn hfn cap zR _ zR _ (zmL (bq.out.call _ pv' _ (q++[(j:Int)]) Ac cc u.s _ w3 hR hF (hrc.later aO) (by simp;omega) zO)) ?_;rintro vq W6 hp;obtain⟨iT,bQ⟩:=ah.out.step bq.out (zka ax.out b3) hp;have bM:VsI Rd n0 fb Wb pw (N+one1 E0+cntA p.prs ts ks.length 0 (ks.take (j+1)) vs) W6 iT:=by rw[zrm p.prs ts ks.length vs hlt];simpa[Nat.add_assoc]using bQ
     have au:zW (fun w':World=>(zN6 w' W.heap.size (.slice A1 L1 c1) (.slice A2 L2 c2) (zj k) (zi n) (.string s) (.slice A3 l3 c3)/\zN4 w' (W.heap.size+1) (zj 51) (zi tn) (.string ts) (.slice (some a) ks.length tc))/\zN4 w' wr.heap.size (zj u.k) (zi u.n) (.string u.s) (.slice A4 u.ks.length c4)) zU W6:=⟨⟨qC.out _ bM.chg,box4 ((hp.2.elim fun _ h=>h.2.2.block _ (by have:=(zka ax.out b3).size;have:=b3.size;have:=fq.out;omega) (fun hh=>by have hl:=ah.out.fs.lt;rcases hh with hh|hh;(have:=hl.1;omega);(have:=(hl.2 _ hh).2;omega))).trans ((b3.block _ (by have:=fq.out;omega)).trans iq.out))⟩,trivial⟩
     refine hK.out _ _ au ?_;clear hK K aV;(try simp only[zQ]);refine zd ?_;refine NoPanic.normal ?_;have ll:=zh bM;clear bM bQ hp au hF hR;go_wp2_with fail
     go_roundw
     case rel=>exact⟨j+1,_,zO,by go_num,ll.out⟩
     case measure=>simp[intOf];omega
    ·obtain rfl:j=ks.length:=zO
     clear hinv;go_wp2_with fail;(try simp only[Exit.inBlock,Exit.then]);refine bodyPost_ret (results_none rfl _ _ _) rfl ?_;have hinv:=ah.out;rw[List.take_of_length_le zl]at hinv;have hcc:=aI.out;rw[cntV,vM.out,if_pos zY]at hcc;rw[<-hcc,<-Nat.add_assoc];exact hinv.rep aU.out ⟨_,rfl⟩
 ·obtain⟨h50,lN⟩:=not_or.1 hcall;have hd50:(tk==50)=false:=beq_false_of_ne h50;have hd51:(tk==51)=false:=beq_false_of_ne lN;go_wp2_with fail
  go_loopw [55] (fun i wr=>∃(j:Nat) (pv':Value),j<=ks.length/\i=zi j/\VsI Rd n0 fb Wb pw (N+one1 E0+cntK p.prs tk ts 0 (ks.take j) vs) wr pv') (fun i _=>ks.length-(intOf i).toNat)
  case atStart=>exact⟨0,_,Nat.zero_le _,rfl,by simpa[cntK]using HI3.out⟩
  case round =>
   obtain⟨j,pv',hj,rfl,hinv⟩:=hrel;have ah:=zh hinv;clear HI3;by_cases hlt:j<ks.length
   ·obtain⟨-,-,-,-,gX⟩:=HD.out wr hinv.chg;obtain⟨a,u,A4,c4,rfl,hsa,Hu,⟨q0,q1,q2,q3⟩,hnu⟩:=gX.nd hlt;have uR:=zh hnu;clear hinv gX hnu hsa;go_upto_region 11 with fail;have hbk:zw wr (wr.alloc (.cells #[zj u.k,zi u.n,.string u.s,.slice A4 u.ks.length c4] 28)):=zkb zr _;have dX:=heap_alloc_new wr (.cells #[zj u.k,zi u.n,.string u.s,.slice A4 u.ks.length c4] 28);obtain⟨wk,hwk⟩:=zX (wr.alloc (.cells #[zj u.k,zi u.n,.string u.s,.slice A4 u.ks.length c4] 28));rw[hwk]at hbk dX ⊢;have fq:=zh (show wk.heap.size=wr.heap.size+1 by rw[<-hwk];simp);have ax:=zh hbk;have iq:=zh dX;clear hwk hbk dX
    have bJ:=zh (show ∀w':World,zw wk w'->(fun w':World=>(zN6 w' W.heap.size (.slice A1 L1 c1) (.slice A2 L2 c2) (zj k) (zi n) (.string s) (.slice A3 l3 c3)/\zN4 w' (W.heap.size+1) (zj tk) (zi tn) (.string ts) (.slice (some a) ks.length tc))/\zN4 w' wr.heap.size (zj u.k) (zi u.n) (.string u.s) (.slice A4 u.ks.length c4)) w'/\zU w' from fun w' h=>⟨⟨qC.out w' (ah.out.chg.trans (Chg.of_below (zka ax.out h))),box4 ((h.block _ (by have:=fq.out;omega)).trans iq.out)⟩,trivial⟩);have hdr:=(zs wk).drew;have hSS:=bJ.out _ hdr;refine wp_region_noPanic ?_
    refine zkl (fun w':World=>(zN6 w' W.heap.size (.slice A1 L1 c1) (.slice A2 L2 c2) (zj k) (zi n) (.string s) (.slice A3 l3 c3)/\zN4 w' (W.heap.size+1) (zj tk) (zi tn) (.string ts) (.slice (some a) ks.length tc))/\zN4 w' wr.heap.size (zj u.k) (zi u.n) (.string u.s) (.slice A4 u.ks.length c4)) zU 40 zK ?_;refine zT 0 hSS ?_;refine zT 1 hSS ?_;refine zT 2 hSS ?_;refine zT 3 hSS ?_;refine zT 5 hSS ?_;refine zT 6 hSS ?_;refine zT 7 hSS ?_;refine zT 9 hSS ?_;refine zo 4 fun K hK=>?_;refine zke zR (.func 89) [.tmp 62,.tmp 63] _ zR 89 _ zsf zR _ zR _ (znu (zpa q Aq cq (j:Int) ⟨zO,zO⟩ _ _ (HD.out _ (ah.out.chg.trans (Chg.of_below (zka ax.out hdr)))).2.2.2.1 Ci.out zO)) ?_;rintro vq w2 ⟨Ac,cc,rfl,hrc,hcc,aj⟩;have b2:=zka hdr aj;have aB:=bJ.out _ b2
    refine hK.out _ _ aB ?_;clear hK K hSS;(try simp only[zQ]);refine zo 8 fun K hK=>?_;refine zke zR (.func 91) [.tmp 65,.tmp 66,.tmp 67] _ zR 91 _ zz0 zR _ zR _ (zuK (zvz (.nd tk tn ts ks) j zO vs A c _ _ _ _ (HD.out _ (ah.out.chg.trans (Chg.of_below (zka ax.out b2)))).2.1 (HD.out _ (ah.out.chg.trans (Chg.of_below (zka ax.out b2)))).2.2.1 jf.out zO)) ?_;simp only[T.k_nd,T.s_nd,T.ks_nd];rintro vq w3 ⟨Av,cv,rfl,fU,hcv,aO⟩;have b3:=zka b2 aO;have aV:=bJ.out _ b3;refine hK.out _ _ aV ?_;clear hK K aB;(try simp only[zQ]);refine zo 10 fun K hK=>?_;have hcl:cntK p.prs tk ts 0 (ks.take j) vs<=zk0 (ks.take j):=zsk _ _ _ _ (fun t _ vs=>zwb _ t vs) _ _;have hsz:=zlQ ks (j+1);rw[ztB ks j hlt,Hu.out]at hsz;have hmem:u∈ks:=by rw[<-Hu.out];exact List.getElem_mem hlt
    have hdu:=zpV hmem;have hil:=ztV tk ts j vs;have hzb:=ah.out.chg.size;have hz0:=kT.out;have hzk:=fq.out;have hfl:=ah.out.fs.lt;have hF:=ah.out.fs.later (zka ax.out b3);have hR:=bq.out.keep _ _ _ _ ah.out.rd ah.out.fs (Chg.of_below (zka ax.out b3));have hzz:=hdr.size;have yD:=aj.size;have hzw2:=b2.size
    refine zke zR (.func 58) [.tmp 60,.tmp 61,.tmp 64,.tmp 68,.tmp 69] _ zR 58 _ zzX zR _ zR _ (zmL (qy.out u hmem (fun b=>(S b/\b<W.heap.size)\/wk.heap.size<=b) (zmc tk ts j vs) Av cv (q++[(j:Int)]) Ac cc (N+one1 E0+cntK p.prs tk ts 0 (ks.take j) vs) pv' w3 _ _ hR hF ((HD.out _ (ah.out.chg.trans (Chg.of_below (zka ax.out b3)))).1.keep (fun b hb _=>.inl hb) (fun _ _ _=>rfl)) ((uR.out.later (zka ax.out b3)).keep (fun b hb _=>.inl hb) (fun _ _ _=>rfl)) (fU.mono fun b hb=>by rcases hb with hb|hb;exact .inl hb;exact .inr zO) hcv ((hrc.later aO).mono fun b hb=>.inr (by have:_<=b:=hb;omega)) hcc (fun b hb hlt' hh=>?_) (by simp;omega) zO zO)) ?_
    ·rcases hb with⟨hb,hbl⟩|hb
     ·refine HFAR.out b hb hbl (hh.imp id fun h=>?_);rcases ah.out.own b h with h1|h1
      ·exact h1
      ·omega
     ·rcases hh with rfl|hh
      ·omega
      ·have:=hfl.2 b hh;omega
    rintro vq W6 hp;obtain⟨iT,bQ⟩:=ah.out.step bq.out (zka ax.out b3) hp;have bM:VsI Rd n0 fb Wb pw (N+one1 E0+cntK p.prs tk ts 0 (ks.take (j+1)) vs) W6 iT:=by rw[zwc p.prs tk ts vs hlt,Hu.out];simpa[Nat.add_assoc]using bQ
    have au:zW (fun w':World=>(zN6 w' W.heap.size (.slice A1 L1 c1) (.slice A2 L2 c2) (zj k) (zi n) (.string s) (.slice A3 l3 c3)/\zN4 w' (W.heap.size+1) (zj tk) (zi tn) (.string ts) (.slice (some a) ks.length tc))/\zN4 w' wr.heap.size (zj u.k) (zi u.n) (.string u.s) (.slice A4 u.ks.length c4)) zU W6:=⟨⟨qC.out _ bM.chg,box4 ((hp.2.elim fun _ h=>h.2.2.block _ (by have:=(zka ax.out b3).size;have:=b3.size;have:=fq.out;omega) (fun hh=>by have hl:=ah.out.fs.lt;rcases hh with hh|hh;(have:=hl.1;omega);(have:=(hl.2 _ hh).2;omega))).trans ((b3.block _ (by have:=fq.out;omega)).trans iq.out))⟩,trivial⟩
    refine hK.out _ _ au ?_;clear hK K aV;(try simp only[zQ]);refine zd ?_;refine NoPanic.normal ?_;have ll:=zh bM;clear bM bQ hp au hF hR;go_wp2_with fail
    go_roundw
    case rel=>exact⟨j+1,_,zO,by go_num,ll.out⟩
    case measure=>simp[intOf];omega
   ·obtain rfl:j=ks.length:=zO
    clear hinv;go_wp2_with fail;go_end0;have hinv:=ah.out;rw[List.take_of_length_le zl]at hinv;have hcc:=aI.out;rw[cntV,vM.out,if_neg hcall]at hcc;rw[<-hcc,<-Nat.add_assoc];exact hinv.rep aU.out ⟨_,rfl⟩
section
variable {P:Program} {ops:Array Oper} {Q:Exit->Act->World->Prop} {md:Region.Mode} {S1 S2:World->Prop} {k:Nat}
theorem zzd{i j:Nat}{o o':Oper}{fuel:Nat}{listed:Array Bool}{a:Act}{w:World}(hr:Region.ready md ops listed=[i,j])(ho:ops[i]?=some o)(ho':ops[j]?=some o')
  (h:∀K':Act->World->Prop,Shut (∀a w,S1 w/\S2 w->wpG P md ops Q S1 S2 k fuel (listed.setIfInBounds i true) a w->K' a w)->if Region.wanted o (yielded ops a.tmps)=true then Oper.wp P o a w K' Q else K' (a.put o.dst undef) w)
  (h':∀K':Act->World->Prop,Shut (∀a w,S1 w/\S2 w->wpG P md ops Q S1 S2 k fuel (listed.setIfInBounds j true) a w->K' a w)->if Region.wanted o' (yielded ops a.tmps)=true then Oper.wp P o' a w K' Q else K' (a.put o'.dst undef) w) :
  wpG P md ops Q S1 S2 k (fuel+1) listed a w:=by
 refine⟨(fun h0=>by rw[hr]at h0;cases h0),fun x hx=>?_⟩;rw[hr]at hx;simp only[List.mem_cons,List.not_mem_nil,or_false]at hx;rcases hx with rfl|rfl
 ·exact wpOp_step ho fun K' hK=>h K' fun a w hS hW=>hK a w ⟨⟨hS.1,fun _=>hS.2⟩,hW⟩
 ·exact wpOp_step ho' fun K' hK=>h' K' fun a w hS hW=>hK a w ⟨⟨hS.1,fun _=>hS.2⟩,hW⟩
end
def frsN(vs:List VD):Nat->Nat
 | 0=>0
 | j+1=>frsN vs j+(if h:j<vs.length then one1 (zmP (vs.take j) vs[j].s)else 0)
theorem znA{vs:List VD}{j:Nat}(h:j<vs.length):frsN vs (j+1)=frsN vs j+one1 (zmP (vs.take j) vs[j].s):=by simp[frsN,h]
theorem zmO(vs:List VD):∀j,frsN vs j<=j
 | 0=>by simp[frsN]
 | j+1=>by
  have h:=zmO vs j;rw[frsN]
  split
  ·have:=zng (zmP (vs.take j) vs[j].s);omega
  ·omega
def prcE(ps:List PR)(j:Nat)(r:PR):Nat:=one1 (if zlO ps r.s<(j:Int)then 22 else 0)+frsN r.ps r.ps.length+cntV ps r.b r.ps
def prcN(ps:List PR):Nat->Nat
 | 0=>0
 | j+1=>prcN ps j+(if h:j<ps.length then prcE ps j ps[j]else 0)
theorem zoL{ps:List PR}{j:Nat}(h:j<ps.length):prcN ps (j+1)=prcN ps j+prcE ps j ps[j]:=by simp[prcN,h]
def chkN(p:PG):Nat:=frsN p.vs p.vs.length+prcN p.prs p.prs.length+cntV p.prs p.m p.vs
theorem zpr{t:T}(h:zk4 t=true):dep t<=80/\size t<=2000:=by
 simp only[zk4,Bool.and_eq_true]at h;have h1:=h.1;rw[zyV]at h1
 split at h1
 ·assumption
 ·simp at h1
theorem zla{p:PG}(h:zkx p=true):p.vs.length<=32/\p.prs.length<=64/\(∀r∈p.prs,r.ps.length<=8/\dep r.b<=80/\size r.b<=2000)/\dep p.m<=80/\size p.m<=2000:=by
 simp only[zkx,Bool.and_eq_true,decide_eq_true_eq,List.all_eq_true]at h;refine⟨h.1.1.1.1,h.1.1.1.2,fun r hr=>?_,zpr h.2⟩;have:=h.1.2 r hr;simp only[zoJ,Bool.and_eq_true,decide_eq_true_eq]at this;exact⟨this.1.1.2,zpr this.2⟩
theorem zr3(ps:List PR)(h:∀r∈ps,r.ps.length<=8/\dep r.b<=80/\size r.b<=2000):∀j,prcN ps j<=j*2009
 | 0=>by simp[prcN]
 | j+1=>by
  have h1:=zr3 ps h j;rw[prcN]
  split
  ·rename_i hj;have h2:=h _ (List.getElem_mem hj);have h3:=zng (if zlO ps ps[j].s<(j:Int)then 22 else 0);have h4:=zmO ps[j].ps ps[j].ps.length;have h5:=zwb ps ps[j].b ps[j].ps;unfold prcE;omega
  ·omega
theorem RowV.take{w:World}{S:Nat->Prop}{A:Option Addr}{vs:List VD}(h:RowV w S A vs)(j:Nat):RowV w S A (vs.take j):=fun i hi=>by
 have h1:i<vs.length:=by simp at hi;omega
 obtain⟨a,h2,h3,h4,h5⟩:=h i h1;exact⟨a,h2,h3,by simpa using h4,by simpa using h5⟩
theorem RowI.nil{w:World}{S:Nat->Prop}{A:Option Addr}:RowI w S A []:=fun i hi=>by simp at hi
theorem zqQ(w:World)(j:Int)(hj:I64 j):RowI (w.alloc (.cells #[zi j] 3)) Any (some ⟨w.heap.size,0,none⟩) [j]:=fun i hi=>by
 simp only[List.length_singleton,Nat.lt_one_iff]at hi;subst hi;exact⟨_,rfl,trivial,zkU w 3 [zi j] 0 _ rfl,hj⟩
theorem zmW(n0 fb N:Nat)(pv:Value)(pr er:Int)(q:List Int)(A:Option Addr)(c:Nat)(s:ByteArray)(S:Nat->Prop)(W:World)(hfs:FS W n0 fb N pv)(hq:RowI W S A q)(lG:q.length<=100000)(hN:N<=1000000) :
  Calls prog 54 ([zi pr,.slice A q.length c,.string s,zi er].toArray ++ #[.pointer (some ⟨fb,0,none⟩)]) W (RepP W n0 fb pv (N+one1 er)):=by
 simpa using zmX n0 fb N pv pr er q A c s S W hfs hq lG hN
theorem VsI.chg2{Rd:World->Prop}{n0 fb:Nat}{Wb wr wk w':World}{pv pv':Value}{N:Nat}(h:VsI Rd n0 fb Wb pv N wr pv')(hb:zw wr wk)(hc:Chg (fun b=>b=fb\/pv'.ownBlock=some b) wk w'):Chg (fun b=>b=fb\/pv.ownBlock=some b) Wb w' :=
 (h.chg.trans (Chg.of_below hb)).trans2 hc fun b hlt hh=>by
  rcases hh with hh|hh
  ·exact .inl hh
  ·rcases h.own b hh with h1|h1
   ·exact .inr h1
   ·omega
theorem VsI.stepK{Rd:World->Prop}{n0 fb:Nat}{Wb wr w5 W6:World}{pv pv':Value}{N N':Nat}{e:Ending}(hk:∀W W' pv N,Rd W->FS W n0 fb N pv->Chg (fun b=>b=fb\/pv.ownBlock=some b) W W'->Rd W')(h:VsI Rd n0 fb Wb pv N wr pv')(hb:zw wr w5)(hp:RepP w5 n0 fb pv' N' e W6) :
  ∃jh,VsI Rd n0 fb Wb pv N' W6 jh:=by
 obtain⟨_,jh,hfs,aY,hc⟩:=hp;have sP:=h.fs.later hb;have hz:=h.chg.size;have qE:=hb.size;refine⟨jh,hk w5 W6 pv' N (hk wr w5 pv' N h.rd h.fs (Chg.of_below hb)) sP hc,hfs,fun b hb'=>?_,h.chg2 hb hc⟩;rcases aY b hb' with h1|h1
 ·exact h.own b h1
 ·exact .inr zO
theorem zm0(vs:List VD)(j:Nat)(hj:j<=vs.length)(A:Option Addr)(c:Nat)(s:ByteArray)(S:Nat->Prop)(w:World)(hrow:RowV w S A vs)(hl:vs.length<=LV) :
  Calls prog 56 #[.slice A j c,.string s] w (zu (zi (zmP (vs.take j) s)) w):=by
 have h:=zoX (vs.take j) A c s S w (hrow.take j) (by simp;omega);rwa[show(vs.take j).length=j by simp;omega]at h
theorem zql:IsFn prog 56 f56:=⟨func56,zK,zK⟩
theorem zzZ:IsFn prog 57 f57:=⟨func57,zK,zK⟩
theorem ztc:IsFn prog 54 Tryz.f54:=⟨func54,zK,zK⟩
theorem zlV(p:PG)(S:Nat->Prop)(v:Value)(W:World)(hv:PV W S p v):Calls prog 26 #[v] W fun e w'=>∃A c,e=.returned (.slice A (if zkx p=true then chkN p else 0) c)/\Below W.heap.size W w':=by
 obtain⟨NN,mR⟩:=zX ((if zkx p=true then chkN p else 0));rw[mR];have oG:=zh mR;clear mR;have hvv:=hv;obtain⟨A1,c1,A2,c2,A3,c3,rfl,hr⟩:=hv;have hlv:=zk1 hr.lv;have hlp:=zk1 hr.lp;obtain⟨L1,hL1⟩:=zX (p.vs.length);obtain⟨L2,hL2⟩:=zX (p.prs.length);obtain⟨k,hk⟩:=zX (p.m.k);obtain⟨n,hn⟩:=zX (p.m.n);obtain⟨s,hs⟩:=zX (p.m.s);obtain⟨l3,hl3⟩:=zX (p.m.ks.length);rw[hL1,hL2,hk,hn,hs,hl3];rw[hL1,hL2,hk,hn,hs,hl3]at hvv;rw[hL1]at hlv;rw[hL2]at hlp;have xW:=zh hvv;have HR:=zh hr;have lg:=zh hL1;have HL2:=zh hL2;have wR:=zh (show p.m.k=k/\p.m.n=n/\p.m.s=s/\p.m.ks.length=l3 from⟨hk,hn,hs,hl3⟩);clear hvv hr hL1 hL2 hk hn hs hl3;go_enter func26,ntmps26;go_wp2_with fail;refine(zlN p S _ _ (xW.out.later (zkb zr _))).mono ?_;rintro e w1 ⟨rfl,aa⟩;have b1:Below W.heap.size W w1:=zka (zkb zr _) aa
 have hp1:=(aa.block W.heap.size zS).trans (heap_alloc_new W (.cells #[.slice A1 L1 c1,.slice A2 L2 c2,.int .u8 k,.int .i64 n,.string s,.slice A3 l3 c3] 30));have hz1:=aa.size;simp only[World.size_alloc]at hz1;have HB1:=zh b1;have HP1:=zh hp1;have HZ1:=zh hz1;obtain⟨a0,a1,a2,a3,a4,a5⟩:=box6 hp1;clear aa b1 hp1
 cases hvb:zkx p
 ·have hN0:NN=0:=by rw[<-oG.out,hvb];rfl
  subst hN0;go_wp2_with fail;go_ret;exact⟨none,0,rfl,HB1.out⟩
 ·have bg:=zh (zla hvb);have HNN2:=zh (show chkN p=NN by rw[<-oG.out,hvb];rfl);clear hvb oG;go_upto_region 5 with fail;obtain⟨fb,yO⟩:=zX (w1.heap.size);rw[yO];have vY:W.heap.size+1<=fb:=zO
  have hbw:Below W.heap.size W ((w1.alloc (.cells #[.slice none 0 0] 68)).alloc (.cells #[.func (.func 54) #[] #[.pointer (some ⟨fb,0,none⟩)]] 105)):=zkb (zkb HB1.out _) _;have yQ:=zkd (heap_alloc_new w1 (.cells #[.slice none 0 0] 68)) (.cells #[.func (.func 54) #[] #[.pointer (some ⟨fb,0,none⟩)]] 105);have hbR:=heap_alloc_new (w1.alloc (.cells #[.slice none 0 0] 68)) (.cells #[.func (.func 54) #[] #[.pointer (some ⟨fb,0,none⟩)]] 105);simp only[World.size_alloc]at hbR;rw[yO]at yQ hbR;have pQ:=zkd (zkd HP1.out (.cells #[.slice none 0 0] 68)) (.cells #[.func (.func 54) #[] #[.pointer (some ⟨fb,0,none⟩)]] 105);obtain⟨Wb,kS⟩:=zX ((w1.alloc (.cells #[.slice none 0 0] 68)).alloc (.cells #[.func (.func 54) #[] #[.pointer (some ⟨fb,0,none⟩)]] 105));rw[kS]at hbw yQ hbR pQ ⊢;have kT:=zh (show Wb.heap.size=fb+2 by rw[<-kS,<-yO];simp);have aU:=zh hbw;have HZF:=zh vY
  clear kS yO a0 a1 a2 a3 a4 a5 HP1 HZ1 HB1 hz1;have hrep:=zyP fb fb (fb+1) W.heap.size A1 L1 c1 A2 L2 c2 k n s A3 l3 c3;obtain⟨Rd,yT⟩:∃Rd:World->Prop,(fun W':World=>W'.heap[fb+1]?=some (.cells #[.func (.func 54) #[] #[.pointer (some ⟨fb,0,none⟩)]] 105 (0,0))/\W'.heap[W.heap.size]?=some (.cells #[.slice A1 L1 c1,.slice A2 L2 c2,.int .u8 k,.int .i64 n,.string s,.slice A3 l3 c3] 30 (0,0)))=Rd:=⟨_,rfl⟩
  rw[yT]at hrep;have bq:=zh hrep;have oz:=zh (show ∀w':World,Rd w'->w'.heap[fb+1]?=some (.cells #[.func (.func 54) #[] #[.pointer (some ⟨fb,0,none⟩)]] 105 (0,0))/\w'.heap[W.heap.size]?=some (.cells #[.slice A1 L1 c1,.slice A2 L2 c2,.int .u8 k,.int .i64 n,.string s,.slice A3 l3 c3] 30 (0,0))from fun w' h=>by rw[<-yT]at h;exact h);have aI:=zh (show ∀w':World,Rd w'->(fun w':World=>(zN6 w' W.heap.size (.slice A1 L1 c1) (.slice A2 L2 c2) (.int .u8 k) (.int .i64 n) (.string s) (.slice A3 l3 c3))/\(zv w' (fb+1) 0 (.func (.func 54) #[] #[.pointer (some ⟨fb,0,none⟩)]))) w' from fun w' h=>⟨box6 (oz.out w' h).2,zc (oz.out w' h).1 rfl⟩);have HI0:=zh (show VsI Rd fb fb Wb (.slice none 0 0) 0 Wb (.slice none 0 0)from⟨by rw[<-yT];exact⟨hbR,pQ⟩,⟨yQ,⟨[],World.ownsRow_nil _ _ _ _⟩,zl,by simp[Value.ownBlock]⟩,fun b hb=>.inl hb,Chg.refl _ _⟩)
  have oK:=zh (show ∀w':World,Chg (fun b=>b=fb\/(Value.slice none 0 0).ownBlock=some b) Wb w'->∀b,S b->b<W.heap.size->w'.heap[b]?=W.heap[b]? from fun w' h b hb hlt=>(h.block b (by have:=kT.out;omega) (fun hh=>by rcases hh with hh|hh;omega;simp[Value.ownBlock]at hh)).trans (aU.out.block b hlt));have HD:=zh (show ∀w':World,Chg (fun b=>b=fb\/(Value.slice none 0 0).ownBlock=some b) Wb w'->PV w' (fun b=>S b/\b<W.heap.size) p _/\PgR w' (fun b=>S b/\b<W.heap.size) p A1 c1 A2 c2 A3 c3 from fun w' h=>⟨xW.out.keep (fun b hb hlt=>⟨hb,hlt⟩) (oK.out w' h),HR.out.keep (fun b hb hlt=>⟨hb,hlt⟩) (oK.out w' h)⟩);have hl32:L1<=32:=by have:=bg.out.1;rw[lg.out]at this;exact this
  have hl64:L2<=64:=by have:=bg.out.2.1;rw[HL2.out]at this;exact this
  have hlc1:L1<=c1:=by have:=HR.out.lvc;rw[lg.out]at this;exact this
  have oZ:L2<=c2:=by have:=HR.out.lpc;rw[HL2.out]at this;exact this
  obtain⟨⟨a0,a1,a2,a3,a4,a5⟩,ar⟩:=aI.out _ HI0.out.rd;clear hrep yT hbR pQ yQ hbw;go_wp2_with fail
  go_loopw [18] (fun i wr=>∃(j:Nat) (pv':Value),j<=L1/\i=.int .i64 j/\VsI Rd fb fb Wb (.slice none 0 0) (frsN p.vs j) wr pv') (fun i _=>L1-(intOf i).toNat)
  case atStart=>exact⟨0,_,Nat.zero_le _,rfl,HI0.out⟩
  case round =>
   obtain⟨j,pv',hj,rfl,hinv⟩:=hrel;have ah:=zh hinv;clear HI0 a0 a1 a2 a3 a4 a5 ar;by_cases hlt:j<L1
   ·have dU:j<p.vs.length:=by rw[lg.out];exact hlt
    obtain⟨a,u,rfl,hsa,Hu,⟨q0,q1,q2⟩,hfu⟩:=(HD.out wr hinv.chg).2.vars.nd dU;have hjc:(j:Int)<=(c1:Int):=zO
    have hj0:(0:Int)<=(j:Int):=zO
    obtain⟨⟨a0,a1,a2,a3,a4,a5⟩,ar⟩:=aI.out _ hinv.rd;clear hinv hsa hfu;go_upto_region 8 with fail;have hbk:Below wr.heap.size wr (wr.alloc (.cells #[.string u.s,.int .u8 u.k,.int .i64 u.n] 38)):=zkb zr _;have dX:=heap_alloc_new wr (.cells #[.string u.s,.int .u8 u.k,.int .i64 u.n] 38);obtain⟨wk,hwk⟩:=zX (wr.alloc (.cells #[.string u.s,.int .u8 u.k,.int .i64 u.n] 38));rw[hwk]at hbk dX ⊢;have fq:=zh (show wk.heap.size=wr.heap.size+1 by rw[<-hwk];simp);have ax:=zh hbk;have iq:=zh dX;clear hwk hbk dX a0 a1 a2 a3 a4 a5 ar q0 q1 q2;have HRW:=zh (show ∀w':World,Below wk.heap.size wk w'->Rd w' from fun w' h=>bq.out.keep _ _ _ _ ah.out.rd ah.out.fs (Chg.of_below (zka ax.out h)))
    have bJ:=zh (show ∀w':World,Below wk.heap.size wk w'->(fun w':World=>(zN6 w' W.heap.size (.slice (some a) L1 c1) (.slice A2 L2 c2) (.int .u8 k) (.int .i64 n) (.string s) (.slice A3 l3 c3)/\(zv w' (fb+1) 0 (.func (.func 54) #[] #[.pointer (some ⟨fb,0,none⟩)])))/\zN3 w' wr.heap.size (.string u.s) (.int .u8 u.k) (.int .i64 u.n)) w'/\zU w' from fun w' h=>⟨⟨aI.out _ (HRW.out w' h),box3 ((h.block _ (by have:=fq.out;omega)).trans iq.out)⟩,trivial⟩);have hdr:=(zs wk).drew;have hSS:=bJ.out _ hdr;have hbI:=zpb;have hN:=zmO p.vs j;refine wp_region_noPanic ?_;refine zkl (fun w':World=>(zN6 w' W.heap.size (.slice (some a) L1 c1) (.slice A2 L2 c2) (.int .u8 k) (.int .i64 n) (.string s) (.slice A3 l3 c3)/\(zv w' (fb+1) 0 (.func (.func 54) #[] #[.pointer (some ⟨fb,0,none⟩)])))/\zN3 w' wr.heap.size (.string u.s) (.int .u8 u.k) (.int .i64 u.n)) zU 40 zK ?_
    refine zT 0 hSS ?_;refine zT 1 hSS ?_;refine zT 3 hSS ?_;refine zT 4 hSS ?_;refine zT 5 hSS ?_;refine zT 6 hSS ?_;refine zT 7 hSS ?_;refine zT 8 hSS ?_;refine zT 9 hSS ?_;refine zT 10 hSS ?_;refine zzd (i:=2) (j:=11) zK rfl rfl (fun K hK=>?_) (fun K hK=>?_)
    ·(try simp only[zA,zB,zC]);go_simp;have b2:=zkb hdr (.cells #[.int .i64 (j:Int)] 3);refine hK.out _ _ (bJ.out _ b2) ?_;clear hK K;(try simp only[zQ]);refine zo 11 fun K hK=>?_;refine zke zR (.func 56) [.tmp 31,.tmp 33] _ zR 56 _ zql zR _ zR _ (zn8 (zm0 p.vs j zO (some a) c1 u.s _ _ (HD.out _ (ah.out.chg.trans (Chg.of_below (zka ax.out b2)))).2.vars HR.out.lv)) ?_;rintro vq w3 ⟨rfl,aO⟩;have b3:=zka b2 aO;refine hK.out _ _ (bJ.out _ b3) ?_;clear hK K;(try simp only[zQ]);refine zo 12 fun K hK=>?_
     refine zlo zR (.tmp 23) [.const (.int .i64 (-1)),.tmp 25,.tmp 27,.tmp 34] _ zR 54 _ ztc #[.pointer (some ⟨fb,0,none⟩)] zR _ zR _ (zmL (zmW fb fb _ pv' (-1) _ [(j:Int)] (some ⟨wk.heap.size,0,none⟩) 1 u.s _ _ (ah.out.fs.later (zka ax.out b3)) (((zqQ _ (j:Int) ⟨zO,zO⟩).later zr.drew).later aO) zS zO)) ?_;rintro vq W6 hp;obtain⟨iT,bQ⟩:=ah.out.step bq.out (zka ax.out b3) hp;have bM:VsI Rd fb fb Wb (.slice none 0 0) (frsN p.vs (j+1)) W6 iT:=by rw[znA dU,Hu.out];exact bQ
     have au:zW (fun w':World=>(zN6 w' W.heap.size (.slice (some a) L1 c1) (.slice A2 L2 c2) (.int .u8 k) (.int .i64 n) (.string s) (.slice A3 l3 c3)/\(zv w' (fb+1) 0 (.func (.func 54) #[] #[.pointer (some ⟨fb,0,none⟩)])))/\zN3 w' wr.heap.size (.string u.s) (.int .u8 u.k) (.int .i64 u.n)) zU W6:=⟨⟨aI.out _ bM.rd,box3 ((hp.2.elim fun _ h=>h.2.2.block _ (by have:=(zka ax.out b3).size;have:=(b3).size;have:=fq.out;omega) (fun hh=>by have hl:=ah.out.fs.lt;rcases hh with hh|hh;(have:=hl.1;omega);(have:=(hl.2 _ hh).2;omega))).trans (((b3).block _ (by have:=fq.out;omega)).trans iq.out))⟩,trivial⟩
     refine hK.out _ _ au ?_;clear hK K;(try simp only[zQ]);refine zd ?_;refine NoPanic.normal ?_;have ll:=zh bM;clear bM bQ hp au;go_wp2_with fail
     go_roundw
     case rel=>exact⟨j+1,_,zO,by go_num,ll.out⟩
     case measure=>simp[intOf];omega
    ·skip
     refine zke zR (.func 56) [.tmp 31,.tmp 33] _ zR 56 _ zql zR _ zR _ (zn8 (zm0 p.vs j zO (some a) c1 u.s _ _ (HD.out _ (ah.out.chg.trans (Chg.of_below (zka ax.out hdr)))).2.vars HR.out.lv)) ?_;rintro vq w2 ⟨rfl,aj⟩;have b2:=zka hdr aj;refine hK.out _ _ (bJ.out _ b2) ?_;clear hK K;(try simp only[zQ]);refine zo 2 fun K hK=>?_;(try simp only[zA,zB,zC]);go_simp;have b3:=zkb b2 (.cells #[.int .i64 (j:Int)] 3);refine hK.out _ _ (bJ.out _ b3) ?_;clear hK K;(try simp only[zQ]);refine zo 12 fun K hK=>?_
     refine zlo zR (.tmp 23) [.const (.int .i64 (-1)),.tmp 25,.tmp 27,.tmp 34] _ zR 54 _ ztc #[.pointer (some ⟨fb,0,none⟩)] zR _ zR _ (zmL (zmW fb fb _ pv' (-1) _ [(j:Int)] (some ⟨w2.heap.size,0,none⟩) 1 u.s _ _ (ah.out.fs.later (zka ax.out b3)) (zqQ _ (j:Int) ⟨zO,zO⟩) zS zO)) ?_;rintro vq W6 hp;obtain⟨iT,bQ⟩:=ah.out.step bq.out (zka ax.out b3) hp;have bM:VsI Rd fb fb Wb (.slice none 0 0) (frsN p.vs (j+1)) W6 iT:=by rw[znA dU,Hu.out];exact bQ
     have au:zW (fun w':World=>(zN6 w' W.heap.size (.slice (some a) L1 c1) (.slice A2 L2 c2) (.int .u8 k) (.int .i64 n) (.string s) (.slice A3 l3 c3)/\(zv w' (fb+1) 0 (.func (.func 54) #[] #[.pointer (some ⟨fb,0,none⟩)])))/\zN3 w' wr.heap.size (.string u.s) (.int .u8 u.k) (.int .i64 u.n)) zU W6:=⟨⟨aI.out _ bM.rd,box3 ((hp.2.elim fun _ h=>h.2.2.block _ (by have:=(zka ax.out b3).size;have:=(b3).size;have:=fq.out;omega) (fun hh=>by have hl:=ah.out.fs.lt;rcases hh with hh|hh;(have:=hl.1;omega);(have:=(hl.2 _ hh).2;omega))).trans (((b3).block _ (by have:=fq.out;omega)).trans iq.out))⟩,trivial⟩
     refine hK.out _ _ au ?_;clear hK K;(try simp only[zQ]);refine zd ?_;refine NoPanic.normal ?_;have ll:=zh bM;clear bM bQ hp au;go_wp2_with fail
     go_roundw
     case rel=>exact⟨j+1,_,zO,by go_num,ll.out⟩
     case measure=>simp[intOf];omega
   ·obtain rfl:L1=j:=zO
    have q9:=zh (show VsI Rd fb fb Wb (.slice none 0 0) (frsN p.vs p.vs.length) wr pv' by rw[lg.out];exact ah.out);obtain⟨⟨a0,a1,a2,a3,a4,a5⟩,ar⟩:=aI.out _ hinv.rd;obtain⟨F1,hF1⟩:=zX (frsN p.vs p.vs.length);have hF32:F1<=32:=by have:=zmO p.vs p.vs.length;have:=bg.out.1;omega
    have zu:=zh hF1;rw[hF1]at q9;clear hinv ah hF1 hj hlt;go_wp2_with fail
    go_loopw [40] (fun i wr=>∃(j:Nat) (pv':Value),j<=L2/\i=.int .i64 j/\VsI Rd fb fb Wb (.slice none 0 0) (F1+prcN p.prs j) wr pv') (fun i _=>L2-(intOf i).toNat)
    case atStart=>exact⟨0,_,Nat.zero_le _,rfl,q9.out⟩
    case round =>
     clear q9 a0 a1 a2 a3 a4 a5 ar;obtain⟨j,pv',hj,rfl,hinv⟩:=hrel;obtain⟨w0,rfl⟩:∃w0,w0=wr:=⟨_,rfl⟩
     have ah:=zh hinv;by_cases hlt:j<L2
     ·have dU:j<p.prs.length:=by rw[HL2.out];exact hlt
      obtain⟨a,r,P1,d1,P2,d2,rfl,hsa,Hr,⟨q0,q1,q2,q3,q4,q5⟩,hpr⟩:=(HD.out w0 hinv.chg).2.procs.nd dU;obtain⟨⟨a0,a1,a2,a3,a4,a5⟩,ar⟩:=aI.out _ hinv.rd;have bV:=zh hpr;clear hinv hsa hpr;go_upto_region 13 with fail;have hbk:Below w0.heap.size w0 ((w0.alloc (.cells #[.int .i64 (j:Int)] 3)).alloc (.cells #[.string r.s,.slice P1 r.ps.length d1,.int .u8 r.b.k,.int .i64 r.b.n,.string r.b.s,.slice P2 r.b.ks.length d2] 100)):=zkb (zkb zr _) _;have tH:=zkd (heap_alloc_new w0 (.cells #[.int .i64 (j:Int)] 3)) (.cells #[.string r.s,.slice P1 r.ps.length d1,.int .u8 r.b.k,.int .i64 r.b.n,.string r.b.s,.slice P2 r.b.ks.length d2] 100);have pO:=heap_alloc_new (w0.alloc (.cells #[.int .i64 (j:Int)] 3)) (.cells #[.string r.s,.slice P1 r.ps.length d1,.int .u8 r.b.k,.int .i64 r.b.n,.string r.b.s,.slice P2 r.b.ks.length d2] 100);simp only[World.size_alloc]at pO
      obtain⟨wk,hwk⟩:=zX ((w0.alloc (.cells #[.int .i64 (j:Int)] 3)).alloc (.cells #[.string r.s,.slice P1 r.ps.length d1,.int .u8 r.b.k,.int .i64 r.b.n,.string r.b.s,.slice P2 r.b.ks.length d2] 100));rw[hwk]at hbk tH pO ⊢;have fq:=zh (show wk.heap.size=w0.heap.size+2 by rw[<-hwk];simp);have ax:=zh hbk;obtain⟨jI,pY⟩:∃jI:World->Prop,(fun W':World=>(Rd W'/\W'.heap[w0.heap.size]?=some (.cells #[.int .i64 (j:Int)] 3 (0,0)))/\W'.heap[w0.heap.size+1]?=some (.cells #[.string r.s,.slice P1 r.ps.length d1,.int .u8 r.b.k,.int .i64 r.b.n,.string r.b.s,.slice P2 r.b.ks.length d2] 100 (0,0)))=jI:=⟨_,rfl⟩
      have jM:=zh (show ∀w':World,jI w'->(fun W':World=>(Rd W'/\W'.heap[w0.heap.size]?=some (.cells #[.int .i64 (j:Int)] 3 (0,0)))/\W'.heap[w0.heap.size+1]?=some (.cells #[.string r.s,.slice P1 r.ps.length d1,.int .u8 r.b.k,.int .i64 r.b.n,.string r.b.s,.slice P2 r.b.ks.length d2] 100 (0,0))) w' from fun w' h=>by rw[<-pY]at h;exact h);have aQ:=zh (show ∀(W W':World) (pv:Value) (N:Nat),jI W->FS W fb fb N pv->Chg (fun b=>b=fb\/pv.ownBlock=some b) W W'->jI W' from fun W W' pv N h hfs hc=>by rw[<-pY]at h ⊢;exact⟨⟨bq.out.keep _ _ _ _ h.1.1 hfs hc,hc.keep h.1.2 (hfs.other h.1.2 zY zY)⟩,hc.keep h.2 (hfs.other h.2 zY zY)⟩);have HI2:=zh (show VsI jI fb fb wk pv' (F1+prcN p.prs j) wk pv' from⟨by rw[<-pY];exact⟨⟨bq.out.keep _ _ _ _ ah.out.rd ah.out.fs (Chg.of_below hbk),tH⟩,pO⟩,ah.out.fs.later hbk,fun b hb=>.inl hb,Chg.refl _ _⟩)
      have bT:=zh (show ∀w':World,jI w'->(fun w':World=>(zN6 w' W.heap.size (.slice A1 L1 c1) (.slice (some a) L2 c2) (.int .u8 k) (.int .i64 n) (.string s) (.slice A3 l3 c3)/\(zv w' (fb+1) 0 (.func (.func 54) #[] #[.pointer (some ⟨fb,0,none⟩)])))/\(zv w' w0.heap.size 0 (.int .i64 (j:Int)))/\zN6 w' (w0.heap.size+1) (.string r.s) (.slice P1 r.ps.length d1) (.int .u8 r.b.k) (.int .i64 r.b.n) (.string r.b.s) (.slice P2 r.b.ks.length d2)) w' from fun w' h=>⟨aI.out w' (jM.out w' h).1.1,zc (jM.out w' h).1.2 rfl,box6 (jM.out w' h).2⟩)
      have HD2:=zh (show ∀w':World,Chg (fun b=>b=fb\/pv'.ownBlock=some b) wk w'->PV w' (fun b=>S b/\b<W.heap.size) p _/\PrR w' (fun b=>S b/\b<W.heap.size) r P1 d1 P2 d2 from fun w' h=>⟨(HD.out w' (ah.out.chg2 ax.out h)).1,bV.out.keep (fun b hb _=>hb) fun b hb _=>(oK.out w' (ah.out.chg2 ax.out h) b hb.1 hb.2).trans (oK.out w0 ah.out.chg b hb.1 hb.2).symm⟩)
      have bJ:=zh (show ∀w':World,Below wk.heap.size wk w'->(fun w':World=>(zN6 w' W.heap.size (.slice A1 L1 c1) (.slice (some a) L2 c2) (.int .u8 k) (.int .i64 n) (.string s) (.slice A3 l3 c3)/\(zv w' (fb+1) 0 (.func (.func 54) #[] #[.pointer (some ⟨fb,0,none⟩)])))/\(zv w' w0.heap.size 0 (.int .i64 (j:Int)))/\zN6 w' (w0.heap.size+1) (.string r.s) (.slice P1 r.ps.length d1) (.int .u8 r.b.k) (.int .i64 r.b.n) (.string r.b.s) (.slice P2 r.b.ks.length d2)) w'/\zU w' from fun w' h=>⟨bT.out w' (aQ.out _ _ _ _ HI2.out.rd HI2.out.fs (Chg.of_below h)),trivial⟩);clear hwk hbk tH pO pY a0 a1 a2 a3 a4 a5 ar q0 q1 q2 q3 q4 q5;have hdr:=(zs wk).drew;have hSS:=bJ.out _ hdr;have hrb:=bg.out.2.2.1 r (by rw[<-Hr.out];exact List.getElem_mem dU);have hpN:=zr3 p.prs bg.out.2.2.1 j;obtain⟨rb1,rb2,rb3⟩:=hrb;refine wp_region_noPanic ?_
      refine zkl (fun w':World=>(zN6 w' W.heap.size (.slice A1 L1 c1) (.slice (some a) L2 c2) (.int .u8 k) (.int .i64 n) (.string s) (.slice A3 l3 c3)/\(zv w' (fb+1) 0 (.func (.func 54) #[] #[.pointer (some ⟨fb,0,none⟩)])))/\(zv w' w0.heap.size 0 (.int .i64 (j:Int)))/\zN6 w' (w0.heap.size+1) (.string r.s) (.slice P1 r.ps.length d1) (.int .u8 r.b.k) (.int .i64 r.b.n) (.string r.b.s) (.slice P2 r.b.ks.length d2)) zU 40 zK ?_;refine zT 0 hSS ?_;refine zT 1 hSS ?_;refine zT 2 hSS ?_;refine zT 4 hSS ?_;refine zo 3 fun K hK=>?_;refine zke zR (.func 57) [.tmp 45,.tmp 47] _ zR 57 _ zzZ zR _ zR _ (zn8 (znH p _ _ r.s _ (HD2.out _ (Chg.of_below hdr)).1)) ?_;rintro vq w2 ⟨rfl,aj⟩;have b2:=zka hdr aj;have aB:=bJ.out _ b2;obtain⟨PE,BA⟩:=zX (zlO p.prs r.s);rw[BA];have HPE:=zh BA;refine hK.out _ _ aB ?_;clear hK K hSS BA
      (try simp only[zQ]);have vB:=zh (show VsI jI fb fb wk pv' (F1+prcN p.prs j) w2 pv' from⟨aQ.out _ _ _ _ HI2.out.rd HI2.out.fs (Chg.of_below b2),HI2.out.fs.later b2,fun b hb=>.inl hb,Chg.of_below b2⟩);by_cases hpe:PE<(j:Int)
      ·have hd:decide (PE<(j:Int))=true:=decide_eq_true hpe;obtain⟨E1,hE1⟩:=zX (one1 (22));have hE2:E1<=1:=by rw[<-hE1];exact zng _
       have kv:=zh (show one1 (if zlO p.prs r.s<(j:Int)then 22 else 0)=E1 by rw[HPE.out,if_pos hpe];exact hE1);refine zT 5 aB ?_;refine zd ?_;refine NoPanic.normal ?_;obtain⟨⟨⟨a0,a1,a2,a3,a4,a5⟩,ar⟩,ai,r0,r1,r2,r3,r4,r5⟩:=aB.1;clear aB;go_wp2_with fail;refine(zmX fb fb _ pv' (j:Int) 22 [] none 0 r.s Any w2 vB.out.fs RowI.nil zS zO).mono ?_;rintro e w3 hp;obtain⟨v3,rfl⟩:=hp.1;obtain⟨Ah,hi3⟩:=vB.out.stepK aQ.out zr hp;rw[hE1]at hi3;have HI3:=zh hi3;clear hp a0 a1 a2 a3 a4 a5 ar ai r0 r1 r2 r3 r4 r5;obtain⟨⟨⟨a0,a1,a2,a3,a4,a5⟩,ar⟩,ai,r0,r1,r2,r3,r4,r5⟩:=bT.out _ hi3.rd;clear hi3 hE1;go_wp2_with fail
       go_loopw [59] (fun x w'=>∃(i:Nat) (lY:Value),i<=r.ps.length/\x=.int .i64 i/\VsI jI fb fb wk pv' (F1+prcN p.prs j+E1+frsN r.ps i) w' lY) (fun x _=>r.ps.length-(intOf x).toNat)
       case atStart=>exact⟨0,_,Nat.zero_le _,rfl,HI3.out⟩
       case round =>
        clear HI3 a0 a1 a2 a3 a4 a5 ar ai r0 r1 r2 r3 r4 r5;obtain⟨i,lY,hi,rfl,hinv⟩:=hrel;have bF:=zh hinv;by_cases sJ:i<r.ps.length
        ·obtain⟨a',u,rfl,hsa,Hu,⟨q0,q1,q2⟩,hfu⟩:=(HD2.out wr hinv.chg).2.row.nd sJ;have hic:(i:Int)<=(d1:Int):=by have:=bV.out.lc;omega
         have hi0:(0:Int)<=(i:Int):=zO
         obtain⟨⟨⟨a0,a1,a2,a3,a4,a5⟩,ar⟩,ai,r0,r1,r2,r3,r4,r5⟩:=bT.out _ hinv.rd;clear hinv hsa hfu;go_upto_region 18 with fail;have hbk:Below wr.heap.size wr (wr.alloc (.cells #[.string u.s,.int .u8 u.k,.int .i64 u.n] 38)):=zkb zr _;have dX:=heap_alloc_new wr (.cells #[.string u.s,.int .u8 u.k,.int .i64 u.n] 38);obtain⟨wv,hwv⟩:=zX (wr.alloc (.cells #[.string u.s,.int .u8 u.k,.int .i64 u.n] 38));rw[hwv]at hbk dX ⊢;have uq:=zh (show wv.heap.size=wr.heap.size+1 by rw[<-hwv];simp);have nS:=zh hbk;have iq:=zh dX;clear hwv hbk dX a0 a1 a2 a3 a4 a5 ar ai r0 r1 r2 r3 r4 r5 q0 q1 q2
         have ky:=zh (show ∀w':World,Below wv.heap.size wv w'->(fun w':World=>(fun w':World=>(zN6 w' W.heap.size (.slice A1 L1 c1) (.slice (some a) L2 c2) (.int .u8 k) (.int .i64 n) (.string s) (.slice A3 l3 c3)/\(zv w' (fb+1) 0 (.func (.func 54) #[] #[.pointer (some ⟨fb,0,none⟩)])))/\(zv w' w0.heap.size 0 (.int .i64 (j:Int)))/\zN6 w' (w0.heap.size+1) (.string r.s) (.slice (some a') r.ps.length d1) (.int .u8 r.b.k) (.int .i64 r.b.n) (.string r.b.s) (.slice P2 r.b.ks.length d2)) w'/\zN3 w' wr.heap.size (.string u.s) (.int .u8 u.k) (.int .i64 u.n)) w'/\zU w' from fun w' h=>⟨⟨bT.out _ (aQ.out _ _ _ _ bF.out.rd bF.out.fs (Chg.of_below (zka nS.out h))),box3 ((h.block _ (by have:=uq.out;omega)).trans iq.out)⟩,trivial⟩);have hdv:=(zs wv).drew;have hSS:=ky.out _ hdv;have Bp:=zmO r.ps i;refine wp_region_noPanic ?_
         refine zkl (fun w':World=>(fun w':World=>(zN6 w' W.heap.size (.slice A1 L1 c1) (.slice (some a) L2 c2) (.int .u8 k) (.int .i64 n) (.string s) (.slice A3 l3 c3)/\(zv w' (fb+1) 0 (.func (.func 54) #[] #[.pointer (some ⟨fb,0,none⟩)])))/\(zv w' w0.heap.size 0 (.int .i64 (j:Int)))/\zN6 w' (w0.heap.size+1) (.string r.s) (.slice (some a') r.ps.length d1) (.int .u8 r.b.k) (.int .i64 r.b.n) (.string r.b.s) (.slice P2 r.b.ks.length d2)) w'/\zN3 w' wr.heap.size (.string u.s) (.int .u8 u.k) (.int .i64 u.n)) zU 40 zK ?_;refine zT 0 hSS ?_;refine zT 1 hSS ?_;refine zT 2 hSS ?_;refine zT 3 hSS ?_;refine zT 4 hSS ?_;refine zT 5 hSS ?_;refine zT 6 hSS ?_;refine zT 7 hSS ?_;refine zT 8 hSS ?_;refine zT 9 hSS ?_;refine zo 10 fun K hK=>?_
         refine zke zR (.func 56) [.tmp 71,.tmp 73] _ zR 56 _ zql zR _ zR _ (zn8 (zm0 r.ps i zO (some a') d1 u.s _ _ (HD2.out _ (bF.out.chg.trans (Chg.of_below (zka nS.out hdv)))).2.row bV.out.lp)) ?_;rintro vq w5 ⟨rfl,dO⟩;have b5:=zka hdv dO;refine hK.out _ _ (ky.out _ b5) ?_;clear hK K hSS;(try simp only[zQ]);refine zo 11 fun K hK=>?_;refine zlo zR (.tmp 64) [.tmp 65,.const (.slice none 0 0),.tmp 67,.tmp 74] _ zR 54 _ ztc #[.pointer (some ⟨fb,0,none⟩)] zR _ zR _ (zmL (zmW fb fb _ lY (j:Int) _ [] none 0 u.s Any _ (bF.out.fs.later (zka nS.out b5)) RowI.nil zS zO)) ?_;rintro vq W6 hp;obtain⟨iT,bQ⟩:=bF.out.stepK aQ.out (zka nS.out b5) hp
         have bM:VsI jI fb fb wk pv' (F1+prcN p.prs j+E1+frsN r.ps (i+1)) W6 iT:=by rw[znA sJ,Hu.out,<-Nat.add_assoc];exact bQ
         have au:zW (fun w':World=>(fun w':World=>(zN6 w' W.heap.size (.slice A1 L1 c1) (.slice (some a) L2 c2) (.int .u8 k) (.int .i64 n) (.string s) (.slice A3 l3 c3)/\(zv w' (fb+1) 0 (.func (.func 54) #[] #[.pointer (some ⟨fb,0,none⟩)])))/\(zv w' w0.heap.size 0 (.int .i64 (j:Int)))/\zN6 w' (w0.heap.size+1) (.string r.s) (.slice (some a') r.ps.length d1) (.int .u8 r.b.k) (.int .i64 r.b.n) (.string r.b.s) (.slice P2 r.b.ks.length d2)) w'/\zN3 w' wr.heap.size (.string u.s) (.int .u8 u.k) (.int .i64 u.n)) zU W6:=⟨⟨bT.out _ bM.rd,box3 ((hp.2.elim fun _ h=>h.2.2.block _ (by have:=(zka nS.out b5).size;have:=b5.size;have:=uq.out;omega) (fun hh=>by have hl:=bF.out.fs.lt;rcases hh with hh|hh;(have:=hl.1;omega);(have:=(hl.2 _ hh).2;omega))).trans ((b5.block _ (by have:=uq.out;omega)).trans iq.out))⟩,trivial⟩
         refine hK.out _ _ au ?_;clear hK K;(try simp only[zQ]);refine zd ?_;refine NoPanic.normal ?_;have ll:=zh bM;clear bM bQ hp au;go_wp2_with fail
         go_roundw
         case rel=>exact⟨i+1,_,zO,by go_num,ll.out⟩
         case measure=>simp[intOf];omega
        ·have hil:i=r.ps.length:=zO
         obtain⟨⟨⟨a0,a1,a2,a3,a4,a5⟩,ar⟩,ai,r0,r1,r2,r3,r4,r5⟩:=bT.out _ hinv.rd;have hge:¬ ((i:Int)<(r.ps.length:Int)):=zO
         clear hinv;go_wp2_with fail;have Bp:=zmO r.ps r.ps.length;have aF:=zh (show VsI jI fb fb wk pv' (F1+prcN p.prs j+E1+frsN r.ps r.ps.length) wr lY by rw[<-hil];exact bF.out);have yD:=bF.out.chg.size;have hzk:=fq.out;have hz0:=ah.out.chg.size;have hzb:=kT.out;refine(znQ 59 _ _ fb fb (ztv fb fb (fb+1) w0.heap.size (j:Int)) p r.b (fun b=>S b/\b<W.heap.size) r.ps P1 d1 [] none 0 (F1+prcN p.prs j+E1+frsN r.ps r.ps.length) lY wr _ _ ⟨(oz.out _ (jM.out _ aF.out.rd).1.1).1,(jM.out _ aF.out.rd).1.2⟩ aF.out.fs (HD2.out _ aF.out.chg).1 (HD2.out _ aF.out.chg).2.body (HD2.out _ aF.out.chg).2.row bV.out.lc RowI.nil (Nat.zero_le _) (fun b hb hbl hh=>?_) (by simp;omega) zO zO).mono ?_
         ·rcases hh with hh|hh
          ·have:=hb.2;omega
          ·rcases aF.out.own b hh with h1|h1
           ·have:=(ah.out.fs.lt.2 b h1).1;have:=hb.2;omega
           ·have:=hb.2;omega
         rintro e W6 hp;obtain⟨v6,rfl⟩:=hp.1;obtain⟨iT,bQ⟩:=aF.out.stepK aQ.out zr hp;obtain⟨zZ,bM⟩:=ah.out.step bq.out ax.out (bQ.rep zr (e:=.returned undef) ⟨_,rfl⟩);have Cy:=zh (show VsI Rd fb fb Wb (.slice none 0 0) (F1+prcN p.prs (j+1)) W6 zZ by rw[zoL dU,Hr.out,prcE,kv.out];simpa only[Nat.add_assoc]using bM);clear bM bQ hp a0 a1 a2 a3 a4 a5 ar ai r0 r1 r2 r3 r4 r5;go_wp2_with fail
         go_roundw
         case rel=>exact⟨j+1,_,zO,by go_num,Cy.out⟩
         case measure=>simp[intOf];omega
      ·have hd:decide (PE<(j:Int))=false:=decide_eq_false hpe;obtain⟨E1,hE1⟩:=zX (one1 (0));have hE2:E1<=1:=by rw[<-hE1];exact zng _
       have kv:=zh (show one1 (if zlO p.prs r.s<(j:Int)then 22 else 0)=E1 by rw[HPE.out,if_neg hpe];exact hE1);refine zT 5 aB ?_;refine zd ?_;refine NoPanic.normal ?_;obtain⟨⟨⟨a0,a1,a2,a3,a4,a5⟩,ar⟩,ai,r0,r1,r2,r3,r4,r5⟩:=aB.1;clear aB;go_wp2_with fail;have HI3:=zh (show VsI jI fb fb wk pv' (F1+prcN p.prs j+E1) w2 pv' by rw[<-hE1];exact vB.out);clear hE1
       go_loopw [59] (fun x w'=>∃(i:Nat) (lY:Value),i<=r.ps.length/\x=.int .i64 i/\VsI jI fb fb wk pv' (F1+prcN p.prs j+E1+frsN r.ps i) w' lY) (fun x _=>r.ps.length-(intOf x).toNat)
       case atStart=>exact⟨0,_,Nat.zero_le _,rfl,HI3.out⟩
       case round =>
        clear HI3 a0 a1 a2 a3 a4 a5 ar ai r0 r1 r2 r3 r4 r5;obtain⟨i,lY,hi,rfl,hinv⟩:=hrel;have bF:=zh hinv;by_cases sJ:i<r.ps.length
        ·obtain⟨a',u,rfl,hsa,Hu,⟨q0,q1,q2⟩,hfu⟩:=(HD2.out wr hinv.chg).2.row.nd sJ;have hic:(i:Int)<=(d1:Int):=by have:=bV.out.lc;omega
         have hi0:(0:Int)<=(i:Int):=zO
         obtain⟨⟨⟨a0,a1,a2,a3,a4,a5⟩,ar⟩,ai,r0,r1,r2,r3,r4,r5⟩:=bT.out _ hinv.rd;clear hinv hsa hfu;go_upto_region 18 with fail;have hbk:Below wr.heap.size wr (wr.alloc (.cells #[.string u.s,.int .u8 u.k,.int .i64 u.n] 38)):=zkb zr _;have dX:=heap_alloc_new wr (.cells #[.string u.s,.int .u8 u.k,.int .i64 u.n] 38);obtain⟨wv,hwv⟩:=zX (wr.alloc (.cells #[.string u.s,.int .u8 u.k,.int .i64 u.n] 38));rw[hwv]at hbk dX ⊢;have uq:=zh (show wv.heap.size=wr.heap.size+1 by rw[<-hwv];simp);have nS:=zh hbk;have iq:=zh dX;clear hwv hbk dX a0 a1 a2 a3 a4 a5 ar ai r0 r1 r2 r3 r4 r5 q0 q1 q2
         have ky:=zh (show ∀w':World,Below wv.heap.size wv w'->(fun w':World=>(fun w':World=>(zN6 w' W.heap.size (.slice A1 L1 c1) (.slice (some a) L2 c2) (.int .u8 k) (.int .i64 n) (.string s) (.slice A3 l3 c3)/\(zv w' (fb+1) 0 (.func (.func 54) #[] #[.pointer (some ⟨fb,0,none⟩)])))/\(zv w' w0.heap.size 0 (.int .i64 (j:Int)))/\zN6 w' (w0.heap.size+1) (.string r.s) (.slice (some a') r.ps.length d1) (.int .u8 r.b.k) (.int .i64 r.b.n) (.string r.b.s) (.slice P2 r.b.ks.length d2)) w'/\zN3 w' wr.heap.size (.string u.s) (.int .u8 u.k) (.int .i64 u.n)) w'/\zU w' from fun w' h=>⟨⟨bT.out _ (aQ.out _ _ _ _ bF.out.rd bF.out.fs (Chg.of_below (zka nS.out h))),box3 ((h.block _ (by have:=uq.out;omega)).trans iq.out)⟩,trivial⟩);have hdv:=(zs wv).drew;have hSS:=ky.out _ hdv;have Bp:=zmO r.ps i;refine wp_region_noPanic ?_
         refine zkl (fun w':World=>(fun w':World=>(zN6 w' W.heap.size (.slice A1 L1 c1) (.slice (some a) L2 c2) (.int .u8 k) (.int .i64 n) (.string s) (.slice A3 l3 c3)/\(zv w' (fb+1) 0 (.func (.func 54) #[] #[.pointer (some ⟨fb,0,none⟩)])))/\(zv w' w0.heap.size 0 (.int .i64 (j:Int)))/\zN6 w' (w0.heap.size+1) (.string r.s) (.slice (some a') r.ps.length d1) (.int .u8 r.b.k) (.int .i64 r.b.n) (.string r.b.s) (.slice P2 r.b.ks.length d2)) w'/\zN3 w' wr.heap.size (.string u.s) (.int .u8 u.k) (.int .i64 u.n)) zU 40 zK ?_;refine zT 0 hSS ?_;refine zT 1 hSS ?_;refine zT 2 hSS ?_;refine zT 3 hSS ?_;refine zT 4 hSS ?_;refine zT 5 hSS ?_;refine zT 6 hSS ?_;refine zT 7 hSS ?_;refine zT 8 hSS ?_;refine zT 9 hSS ?_;refine zo 10 fun K hK=>?_
         refine zke zR (.func 56) [.tmp 71,.tmp 73] _ zR 56 _ zql zR _ zR _ (zn8 (zm0 r.ps i zO (some a') d1 u.s _ _ (HD2.out _ (bF.out.chg.trans (Chg.of_below (zka nS.out hdv)))).2.row bV.out.lp)) ?_;rintro vq w5 ⟨rfl,dO⟩;have b5:=zka hdv dO;refine hK.out _ _ (ky.out _ b5) ?_;clear hK K hSS;(try simp only[zQ]);refine zo 11 fun K hK=>?_;refine zlo zR (.tmp 64) [.tmp 65,.const (.slice none 0 0),.tmp 67,.tmp 74] _ zR 54 _ ztc #[.pointer (some ⟨fb,0,none⟩)] zR _ zR _ (zmL (zmW fb fb _ lY (j:Int) _ [] none 0 u.s Any _ (bF.out.fs.later (zka nS.out b5)) RowI.nil zS zO)) ?_;rintro vq W6 hp;obtain⟨iT,bQ⟩:=bF.out.stepK aQ.out (zka nS.out b5) hp
         have bM:VsI jI fb fb wk pv' (F1+prcN p.prs j+E1+frsN r.ps (i+1)) W6 iT:=by rw[znA sJ,Hu.out,<-Nat.add_assoc];exact bQ
         have au:zW (fun w':World=>(fun w':World=>(zN6 w' W.heap.size (.slice A1 L1 c1) (.slice (some a) L2 c2) (.int .u8 k) (.int .i64 n) (.string s) (.slice A3 l3 c3)/\(zv w' (fb+1) 0 (.func (.func 54) #[] #[.pointer (some ⟨fb,0,none⟩)])))/\(zv w' w0.heap.size 0 (.int .i64 (j:Int)))/\zN6 w' (w0.heap.size+1) (.string r.s) (.slice (some a') r.ps.length d1) (.int .u8 r.b.k) (.int .i64 r.b.n) (.string r.b.s) (.slice P2 r.b.ks.length d2)) w'/\zN3 w' wr.heap.size (.string u.s) (.int .u8 u.k) (.int .i64 u.n)) zU W6:=⟨⟨bT.out _ bM.rd,box3 ((hp.2.elim fun _ h=>h.2.2.block _ (by have:=(zka nS.out b5).size;have:=b5.size;have:=uq.out;omega) (fun hh=>by have hl:=bF.out.fs.lt;rcases hh with hh|hh;(have:=hl.1;omega);(have:=(hl.2 _ hh).2;omega))).trans ((b5.block _ (by have:=uq.out;omega)).trans iq.out))⟩,trivial⟩
         refine hK.out _ _ au ?_;clear hK K;(try simp only[zQ]);refine zd ?_;refine NoPanic.normal ?_;have ll:=zh bM;clear bM bQ hp au;go_wp2_with fail
         go_roundw
         case rel=>exact⟨i+1,_,zO,by go_num,ll.out⟩
         case measure=>simp[intOf];omega
        ·have hil:i=r.ps.length:=zO
         obtain⟨⟨⟨a0,a1,a2,a3,a4,a5⟩,ar⟩,ai,r0,r1,r2,r3,r4,r5⟩:=bT.out _ hinv.rd;have hge:¬ ((i:Int)<(r.ps.length:Int)):=zO
         clear hinv;go_wp2_with fail;have Bp:=zmO r.ps r.ps.length;have aF:=zh (show VsI jI fb fb wk pv' (F1+prcN p.prs j+E1+frsN r.ps r.ps.length) wr lY by rw[<-hil];exact bF.out);have yD:=bF.out.chg.size;have hzk:=fq.out;have hz0:=ah.out.chg.size;have hzb:=kT.out;refine(znQ 59 _ _ fb fb (ztv fb fb (fb+1) w0.heap.size (j:Int)) p r.b (fun b=>S b/\b<W.heap.size) r.ps P1 d1 [] none 0 (F1+prcN p.prs j+E1+frsN r.ps r.ps.length) lY wr _ _ ⟨(oz.out _ (jM.out _ aF.out.rd).1.1).1,(jM.out _ aF.out.rd).1.2⟩ aF.out.fs (HD2.out _ aF.out.chg).1 (HD2.out _ aF.out.chg).2.body (HD2.out _ aF.out.chg).2.row bV.out.lc RowI.nil (Nat.zero_le _) (fun b hb hbl hh=>?_) (by simp;omega) zO zO).mono ?_
         ·rcases hh with hh|hh
          ·have:=hb.2;omega
          ·rcases aF.out.own b hh with h1|h1
           ·have:=(ah.out.fs.lt.2 b h1).1;have:=hb.2;omega
           ·have:=hb.2;omega
         rintro e W6 hp;obtain⟨v6,rfl⟩:=hp.1;obtain⟨iT,bQ⟩:=aF.out.stepK aQ.out zr hp;obtain⟨zZ,bM⟩:=ah.out.step bq.out ax.out (bQ.rep zr (e:=.returned undef) ⟨_,rfl⟩);have Cy:=zh (show VsI Rd fb fb Wb (.slice none 0 0) (F1+prcN p.prs (j+1)) W6 zZ by rw[zoL dU,Hr.out,prcE,kv.out];simpa only[Nat.add_assoc]using bM);clear bM bQ hp a0 a1 a2 a3 a4 a5 ar ai r0 r1 r2 r3 r4 r5;go_wp2_with fail
         go_roundw
         case rel=>exact⟨j+1,_,zO,by go_num,Cy.out⟩
         case measure=>simp[intOf];omega
     ·have hjl:j=L2:=zO
      obtain⟨⟨a0,a1,a2,a3,a4,a5⟩,ar⟩:=aI.out _ hinv.rd;have hge:¬ ((j:Int)<(L2:Int)):=zO
      have di:=zh (show VsI Rd fb fb Wb (.slice none 0 0) (F1+prcN p.prs p.prs.length) w0 pv' by rw[HL2.out,<-hjl];exact ah.out);clear hinv;go_wp2_with fail;have hpN:=zr3 p.prs bg.out.2.2.1 p.prs.length;have hvb:=bg.out;have yD:=ah.out.chg.size;have hzb:=kT.out;have yL:=(HD.out _ di.out.chg).2.main;rw[wR.out.1,wR.out.2.1,wR.out.2.2.1,wR.out.2.2.2]at yL;have hcall:=znQ _ _ Rd fb fb bq.out p p.m (fun b=>S b/\b<W.heap.size) p.vs A1 c1 [] none 0 (F1+prcN p.prs p.prs.length) pv' w0 _ _ di.out.rd di.out.fs (HD.out _ di.out.chg).1 yL (HD.out _ di.out.chg).2.vars HR.out.lvc RowI.nil (Nat.zero_le _) (fun b hb hbl hh=>by rcases hh with hh|hh;(have:=hb.2;omega);(rcases di.out.own b hh with h1|h1;(simp[Value.ownBlock]at h1);(have:=hb.2;omega))) (by simp;omega) zO zO;rw[lg.out]at hcall;refine hcall.mono ?_;clear hcall;rintro e W6 hp
      obtain⟨v6,rfl⟩:=hp.1;obtain⟨iT,bQ⟩:=di.out.step bq.out zr hp;rw[show F1+prcN p.prs p.prs.length+cntV p.prs p.m p.vs=NN by rw[<-HNN2.out,chkN,zu.out]]at bQ;obtain⟨A6,c6,rfl⟩:=bQ.fs.slice;have hf6:W6.cell? ⟨fb,0,none⟩=some (.slice A6 NN c6):=zc bQ.fs.box rfl;have zH:=zh (show Below W.heap.size W W6 from aU.out.trans (bQ.chg.below zO (fun b hb=>by rcases hb with hb|hb;omega;simp[Value.ownBlock]at hb)));clear bQ hp yL hvb a0 a1 a2 a3 a4 a5 ar;go_wp2_with fail;go_ret;exact⟨A6,c6,rfl,zH.out⟩
mutual
theorem zyT:∀t:T,(po t).length=size t
 | .nd k n s ks=>by rw[po,size,List.length_cons,zu0 ks];omega
theorem zu0:∀ks:List T,(pos ks).length=zk0 ks
 | []=>by simp[pos,zk0]
 | t::ts=>by rw[pos,zk0,List.length_append,zyT t,zu0 ts]
end
def rjP(ps:List PR):Nat:=(ps.map fun r=>rejN (po r.b)).sum
def rjT(p:PG):Nat:=rjP p.prs+rejN (po p.m)
def rjQ(ps:List PR):List Int:=(ps.map fun r=>rejL (po r.b)).flatten
def rjA(p:PG):List Int:=rjQ p.prs++rejL (po p.m)
theorem zxj{ps:List PR}{j:Nat}(h:j<ps.length):rjQ (ps.take (j+1))=rjQ (ps.take j)++rejL (po ps[j].b):=by
 unfold rjQ;rw[List.take_succ_eq_append_getElem h,List.map_append,List.flatten_append];simp
theorem zsl{t:T}(h:zk4 t=true):dep t<=1000/\(po t).length<=2000/\∀x∈po t,zwx x:=by
 obtain⟨⟨h1,h2⟩,h3⟩:=(zsb t).1 h;exact⟨zO,by rw[zyT];exact h2,zxl (.inr (.inr h3)) zO⟩
theorem zxk{ps:List PR}{j:Nat}(h:j<ps.length):rjP (ps.take (j+1))=rjP (ps.take j)+rejN (po ps[j].b):=by
 unfold rjP;rw[List.take_succ_eq_append_getElem h,List.map_append,List.sum_append];simp
theorem zKX{ps:List PR}(h:∀r∈ps,zk4 r.b=true):rjP ps<=ps.length*2000:=by
 induction ps with
 | nil=>simp[rjP]
 | cons r rs ih =>
  have h1:=ih fun r hr=>h r (List.mem_cons_of_mem _ hr);have h2:=(zsl (h r List.mem_cons_self)).2.1;have h3:=zp7 (po r.b);simp only[rjP,List.map_cons,List.sum_cons,List.length_cons]at *
  omega
theorem zqF{p:PG}(h:zkx p=true):(∀r∈p.prs,zk4 r.b=true)/\zk4 p.m=true/\p.prs.length<=64:=by
 unfold zkx at h;simp only[Bool.and_eq_true,List.all_eq_true,decide_eq_true_eq]at h;refine⟨fun r hr=>?_,h.2,h.1.1.1.2⟩;have:=h.1.2 r hr;unfold zoJ at this;simp only[Bool.and_eq_true]at this;exact this.2
theorem zrB(p:PG)(v:Value)(w:World)(hv:PV w Any p v)(hval:zkx p=true)(hch:chkN p=0):Calls prog 27 #[v] w fun e w'=>∃A c,e=.returned (.slice A (rjT p) c)/\(∃xs,w'.ownsRow (w.heap.size+1) 73 4 (.slice A (rjT p) c) (rjT p) xs/\RjO (rjA p) xs)/\zw w w':=by
 have HV:=zh hv;obtain⟨A1,c1,A2,c2,A3,c3,rfl,hr⟩:=hv;have HR:=zh hr;have kX:=zh (zru hval (HV.out.later (zkb zr (.cells #[.slice A1 p.vs.length c1,.slice A2 p.prs.length c2,zj p.m.k,zi p.m.n,.string p.m.s,.slice A3 p.m.ks.length c3] 30))));have gZ:=zh (show ∀w,PV w Any p (pv A1 p.vs.length c1 A2 p.prs.length c2 p.m.k p.m.n p.m.s A3 p.m.ks.length c3)->Calls prog 26 #[pv A1 p.vs.length c1 A2 p.prs.length c2 p.m.k p.m.n p.m.s A3 p.m.ks.length c3] w fun e w'=>∃A c,e=.returned (.slice A 0 c)/\zw w w' from fun w h=>by
  have:=zlV p Any _ w h;rwa[if_pos hval,hch]at this)
 have bW:=zh (zqF hval);obtain⟨L1,hL1⟩:=zX (p.vs.length);obtain⟨k,hk⟩:=zX (p.m.k);obtain⟨n,hn⟩:=zX (p.m.n);obtain⟨s,hs⟩:=zX (p.m.s);obtain⟨l3,hl3⟩:=zX (p.m.ks.length);rw[hL1,hk,hn,hs,hl3]at HV kX gZ ⊢;have HM:=zh hr.main;rw[hk,hn,hs,hl3]at HM;have hlp:=zk1 hr.lp;clear hr hL1 hk hn hs hl3 hval hch;go_enter func27,ntmps27;go_wp2_with fail;refine kX.out.mono ?_;rintro e w1 ⟨rfl,aa⟩;have q1:=zka (zkb (zs w) _) aa;have hP:=zkc (heap_alloc_new w (.cells #[.slice A1 L1 c1,.slice A2 p.prs.length c2,zj k,zi n,.string s,.slice A3 l3 c3] 30)) aa;obtain⟨a0,a1,a2,a3,a4,a5⟩:=box6 hP;have HP:=zh hP;clear aa hP;go_wp2_with fail;refine(gZ.out _ (HV.out.later q1)).mono ?_;rintro e w2 ⟨B0,d0,rfl,aj⟩;have q2:=zka q1 aj;have hP:=zkc HP.out aj;clear a0 a1 a2 a3 a4 a5 HP aj q1;obtain⟨a0,a1,a2,a3,a4,a5⟩:=box6 hP;have HP:=zh hP;have uN:=zh q2
 clear hP q2;go_wp2_with fail;obtain⟨i0,hi0,hz0,hz1,hz2⟩:=info_parts zuW;clear a0 a1 a2 a3 a4 a5
 go_loopw [3,18] (fun x i wr=>∃(j:Nat) (xs:List Value),j<=p.prs.length/\i=zi j/\wr.ownsRow (w.heap.size+1) 73 4 x (rjP (p.prs.take j)) xs/\RjO (rjQ (p.prs.take j)) xs/\zw w wr/\wr.heap[w.heap.size]?=some (.cells #[.slice A1 L1 c1,.slice A2 p.prs.length c2,zj k,zi n,.string s,.slice A3 l3 c3] 30 (0,0))) (fun _ i _=>p.prs.length-(intOf i).toNat)
 case atStart=>exact⟨0,[],Nat.zero_le _,rfl,by simpa[rjP]using World.ownsRow_nil _ _ _ _,RjO.nil,uN.out,HP.out⟩
 case round =>
  obtain⟨j,xs,hj,rfl,hown,h1c,hbw,hbx⟩:=hrel;have mg:∃B3 d3,u3=.slice B3 (rjP (p.prs.take j)) d3:=by
   rcases hown.2 with⟨rfl,h0⟩|⟨g,cap,cur,rfl,_⟩
   ·exact⟨_,_,by rw[h0]⟩
   ·exact⟨_,_,rfl⟩
  obtain⟨B3,d3,rfl⟩:=mg;have HOWN:=zh hown;have CQ:=zh h1c;have aU:=zh hbw;have aR:=zh hbx;have hwr:=zkf hbx;have iA:rjP (p.prs.take j)<=128000:=by
   have h1:=zKX (ps:=p.prs.take j) (fun r hr=>bW.out.1 r (List.mem_of_mem_take hr));have h2:=bW.out.2.2;simp at h1;omega
  clear hown h1c hbx;by_cases hlt:j<p.prs.length
  ·obtain⟨a,r,D1,e1,D2,e2,rfl,_,Hr,⟨y0,y1,y2,y3,y4,y5⟩,hpr⟩:=(HR.out.procs.later hbw).nd hlt;have hbd:=zsl (bW.out.1 p.prs[j] (List.getElem_mem hlt));rw[Hr.out]at hbd;have vU:=zh hbd;have bV:=zh hpr.body;have hrl:rejN (po r.b)<=2000:=Nat.le_trans (zp7 _) hbd.2.1;have wL:=zh (show rjP (p.prs.take (j+1))=rjP (p.prs.take j)+rejN (po r.b) by rw[zxk hlt,Hr.out]);have HTQ:=zh (show rjQ (p.prs.take (j+1))=rjQ (p.prs.take j)++rejL (po r.b) by rw[zxj hlt,Hr.out]);obtain⟨NN,mR⟩:=zX (rejN (po r.b));rw[mR]at hrl wL;have oG:=zh mR;clear hbd hpr hbw mR;go_wp2_with fail;refine(zpX r.b _ _ _ (bV.out.later (zkb zr _)) vU.out.1 (by have:=vU.out.2.1;omega) vU.out.2.2).mono ?_;rintro e w4 ⟨Af,ys,rfl,fI,xN,iY⟩;rw[oG.out]at fI;have hb4:=zka (zkb (zs wr) _) iY;have hs4:=hb4.size;have hown5:=zkK HOWN.out hb4;have ay:=zh hb4
   have HX4:=zh (zkc aR.out hb4);clear iY hb4 y0 y1 y2 y3 y4 y5;go_wp2_with (at_builtin;refine zl8 (P:=prog) rfl (.tmp 23) (.tmp 27) 70 rfl (w.heap.size+1) _ 73 i0 _ 4 56 underlying70 hi0 hz0 hz1 hz2 rfl zY (.slice B3 (rjP (p.prs.take j)) d3) (rjP (p.prs.take j)) xs rfl hown5 Af NN ys rfl fI xN.1 (by unfold maxLen;omega) zO zO ?_;intro v' w' h2 h3 h5)
   refine⟨⟨j+1,_,zO,rfl,by rw[wL.out];exact h2,by rw[HTQ.out];exact CQ.out.app hown5.1 xN,(zka aU.out ay.out).grown h3 (by have:=aU.out.size;omega) (fun g e=>by have:=(hown5.lt g e).1;omega),?_⟩,by simp[intOf];omega⟩
   ·exact(h3.block _ zO (fun e=>by have:=(hown5.lt _ e.symm).1;omega)).trans HX4.out
  ·obtain rfl:j=p.prs.length:=zO
   have hmb:=zsl bW.out.2.1;have Cq:=zh hmb;have hrl:rejN (po p.m)<=2000:=Nat.le_trans (zp7 _) hmb.2.1;have Bv:rjT p=rjP p.prs+rejN (po p.m):=rfl;have e3:p.prs.take p.prs.length=p.prs:=List.take_of_length_le zl;rw[e3]at HOWN CQ iA ⊢;clear e3;obtain⟨NN,mR⟩:=zX (rejN (po p.m));rw[mR]at hrl Bv;have oG:=zh mR;have uC:=zh Bv;obtain⟨a0,a1,a2,a3,a4,a5⟩:=box6 aR.out;clear hmb mR Bv hbw;go_wp2_with fail;refine(zpX p.m _ _ _ ((HM.out.later aU.out).any) Cq.out.1 (by have:=Cq.out.2.1;omega) Cq.out.2.2).mono ?_;rintro e w4 ⟨Af,ys,rfl,fI,xN,iY⟩;rw[oG.out]at fI;have hs4:=iY.size;have hown5:=zkK HOWN.out iY;have ay:=zh iY;clear iY a0 a1 a2 a3 a4 a5
   go_wp2_with (at_builtin;refine zl8 (P:=prog) rfl (.tmp 30) (.tmp 33) 70 rfl (w.heap.size+1) _ 73 i0 _ 4 56 underlying70 hi0 hz0 hz1 hz2 rfl zY (.slice B3 (rjP p.prs) d3) (rjP p.prs) xs rfl hown5 Af NN ys rfl fI xN.1 (by unfold maxLen;omega) zO zO ?_;intro v' w' h2 h3 h5)
   have hvs:∃B d,v'=.slice B (rjP p.prs+NN) d:=by
    rcases h2.2 with⟨rfl,h0⟩|⟨g,cap,cur,rfl,_⟩
    ·exact⟨_,_,by rw[h0]⟩
    ·exact⟨_,_,rfl⟩
   obtain⟨B,d,rfl⟩:=hvs;have jg:=zh (show zw w w' from(zka aU.out ay.out).grown h3 (by have:=aU.out.size;omega) (fun g e=>by have:=(hown5.lt g e).1;omega));have HRO:=zh (show ∃xs,w'.ownsRow (w.heap.size+1) 73 4 (.slice B (rjT p) d) (rjT p) xs/\RjO (rjA p) xs from⟨_,by rw[uC.out];exact h2,CQ.out.app hown5.1 xN⟩);clear h2 h3 h5 hown5 fI;go_wp2_with fail;go_ret;exact⟨B,d,by rw[uC.out];rfl,HRO.out,jg.out⟩
def okB(p:PG):Bool:=zkx p&&decide (chkN p=0)&&decide (rjT p=0)
theorem zy9(p:PG)(v:Value)(w:World)(hv:PV w Any p v):Calls prog 35 #[v] w (zu (.bool (okB p)) w):=by
 have HV:=zh hv;obtain⟨A1,c1,A2,c2,A3,c3,rfl,hr⟩:=hv;obtain⟨b,hb⟩:=zX (okB p);obtain⟨vb,hvb⟩:=zX (zkx p);obtain⟨N1,hN1⟩:=zX (chkN p);obtain⟨N2,uf⟩:=zX (rjT p);have hbb:b=(vb&&decide (N1=0)&&decide (N2=0)):=by rw[<-hb,<-hvb,<-hN1,<-uf];rfl
 rw[hb];have dG:=zh (show ∀w,PV w Any p (pv A1 p.vs.length c1 A2 p.prs.length c2 p.m.k p.m.n p.m.s A3 p.m.ks.length c3)->Calls prog 25 #[pv A1 p.vs.length c1 A2 p.prs.length c2 p.m.k p.m.n p.m.s A3 p.m.ks.length c3] w (zu (.bool vb) w) from fun w h=>hvb▸zlN p Any _ w h);have gZ:=zh (show vb=true->∀w,PV w Any p (pv A1 p.vs.length c1 A2 p.prs.length c2 p.m.k p.m.n p.m.s A3 p.m.ks.length c3)->Calls prog 26 #[pv A1 p.vs.length c1 A2 p.prs.length c2 p.m.k p.m.n p.m.s A3 p.m.ks.length c3] w fun e w'=>∃A c,e=.returned (.slice A N1 c)/\zw w w' from fun h0 w h=>by
  have:=zlV p Any _ w h;rwa[if_pos (hvb.trans h0),hN1]at this)
 have bJ:=zh (show vb=true->N1=0->∀w,PV w Any p (pv A1 p.vs.length c1 A2 p.prs.length c2 p.m.k p.m.n p.m.s A3 p.m.ks.length c3)->Calls prog 27 #[pv A1 p.vs.length c1 A2 p.prs.length c2 p.m.k p.m.n p.m.s A3 p.m.ks.length c3] w fun e w'=>∃A c,e=.returned (.slice A N2 c)/\zw w w' from fun h0 h1 w h=>uf▸(zrB p _ w h (hvb.trans h0) (hN1.trans h1)).mono fun _ _ ⟨A,c,h1,_,h2⟩=>⟨A,c,h1,h2⟩);have dK:=zh hbb;obtain⟨L1,hL1⟩:=zX (p.vs.length);obtain⟨L2,hL2⟩:=zX (p.prs.length);obtain⟨k,hk⟩:=zX (p.m.k);obtain⟨n,hn⟩:=zX (p.m.n);obtain⟨s,hs⟩:=zX (p.m.s);obtain⟨l3,hl3⟩:=zX (p.m.ks.length);rw[hL1,hL2,hk,hn,hs,hl3]at HV dG gZ bJ ⊢;clear hr hL1 hL2 hk hn hs hl3 hb hvb hN1 uf hbb;go_enter func35,ntmps35;go_wp2_with fail;refine(dG.out _ (HV.out.later (zkb zr _))).mono ?_;rintro e w1 ⟨rfl,aa⟩;have q1:=zka (zkb (zs w) _) aa
 have hP:=zkc (heap_alloc_new w (.cells #[.slice A1 L1 c1,.slice A2 L2 c2,zj k,zi n,.string s,.slice A3 l3 c3] 30)) aa;obtain⟨a0,a1,a2,a3,a4,a5⟩:=box6 hP;have HP:=zh hP;clear aa hP
 cases vb
 ·have HX:=zh (show b=false by rw[dK.out];rfl);go_wp2_with fail;go_ret;exact⟨by rw[HX.out];rfl,q1⟩
 ·have HSC1:=zh (gZ.out rfl);have HCK1:=zh (bJ.out rfl);clear gZ bJ;go_wp2_with fail;refine(HSC1.out _ (HV.out.later q1)).mono ?_;rintro e w2 ⟨B0,d0,rfl,aj⟩;have q2:=zka q1 aj;have hP:=zkc HP.out aj;clear a0 a1 a2 a3 a4 a5 HP aj q1;obtain⟨a0,a1,a2,a3,a4,a5⟩:=box6 hP;clear hP;by_cases hN:N1=0
  ·have HCK2:=zh (HCK1.out hN);clear HCK1 HSC1;subst hN;go_wp2_with fail;refine(HCK2.out _ (HV.out.later q2)).mono ?_;rintro e w3 ⟨B1,d1,rfl,aO⟩;have q3:=zka q2 aO;clear a0 a1 a2 a3 a4 a5 aO;by_cases hM:N2=0
   ·subst hM;have HX:=zh (show b=true by rw[dK.out];rfl);go_wp2_with fail;go_ret;exact⟨by rw[HX.out];rfl,q3⟩
   ·have hM1:((N2:Int)==0)=false:=by simpa using hM
    have HX:=zh (show b=false by rw[dK.out];simp[hM]);clear hM;go_wp2_with fail;go_ret;exact⟨by rw[HX.out];rfl,q3⟩
  ·have hM1:((N1:Int)==0)=false:=by simpa using hN
   have HX:=zh (show b=false by rw[dK.out];simp[hN]);clear hN;go_wp2_with fail;go_ret;exact⟨by rw[HX.out];rfl,q2⟩
structure FR where
 vs:List VD
 cs:List Nat
 loc:Nat
structure ST where
 base:FR
 calls:List FR
 cell:Nat->List Int
 nc:Nat
 tin:List Int
 tout:List Int
def zmg(vs:List VD)(s:ByteArray):Nat->Option Nat
 | 0=>none
 | j+1=>if (vs[j]?.elim false fun v=>v.s.toList==s.toList)then some j else zmg vs s j
theorem zpE{vs:List VD}{j:Nat}(h:j<vs.length)(s:ByteArray):zmg vs s (j+1)=if vs[j].s.toList==s.toList then some j else zmg vs s j:=by simp[zmg,h]
theorem zs7{vs:List VD}{s:ByteArray}:∀ {j i:Nat},zmg vs s j=some i->i<j
 | 0,_,h=>by simp[zmg]at h
 | j+1,i,h=>by
  rw[zmg]at h
  split at h
  ·injection h with h;omega
  ·have:=zs7 h;omega
def FR.at(f:FR)(s:ByteArray):Option Nat:=zmg f.vs s f.vs.length
theorem FR.at_lt{f:FR}{s:ByteArray}{i:Nat}(h:f.at s=some i):i<f.vs.length:=zs7 h
def ST.cur(S:ST):FR:=S.calls.getLast?.getD S.base
def ST.num(S:ST)(s:ByteArray):Option Nat:=(S.cur.at s).bind fun i=>S.cur.cs[i]?
def ST.look(S:ST)(s:ByteArray):Option (List Int):=(S.num s).map S.cell
structure FR.WF(kd:Nat->Int×Int)(nc:Nat)(f:FR):Prop where
 len:f.cs.length=f.vs.length
 loc:f.loc<=f.vs.length
 lim:f.vs.length<=4398046511000
 fld:∀v∈f.vs,FldV v
 num:∀c∈f.cs,c<nc
 kind:∀i (h:i<f.vs.length) (h':i<f.cs.length),kd f.cs[i]=(f.vs[i].k,f.vs[i].n)
structure ST.WF(S:ST):Prop where
 ex:∃kd:Nat->Int×Int,S.base.WF kd S.nc/\(∀f∈S.calls,f.WF kd S.nc)/\∀i,i<S.nc->((kd i).1=1->(S.cell i).length=1)/\((kd i).1=2->((S.cell i).length:Int)=(kd i).2)/\((kd i).1=1\/(kd i).1=2\/(kd i).1=3)
 ncalls:S.calls.length<=100
 cells:∀i,i<S.nc->(S.cell i).length<=1000/\∀x∈S.cell i,I64 x
 tin:S.tin.length<=4096/\∀x∈S.tin,I64 x
 tout:S.tout.length<=4096/\∀x∈S.tout,I64 x
structure RowD where
 v:Value
 E:TypeId
 sz:Nat
 n:Nat
 xs:List Value
structure Rws{I:Type}(W:World)(n0:Nat)(d:I->RowD):Prop where
 row:∀i,W.ownsRow n0 (d i).E (d i).sz (d i).v (d i).n (d i).xs
 sep:∀i j b,i≠j->(d i).v.ownBlock=some b->(d j).v.ownBlock≠some b
def updR{I:Type}[DecidableEq I](d:I->RowD)(i:I)(r:RowD):I->RowD:=fun j=>if j=i then r else d j
section
variable {I:Type} [DecidableEq I] {W W':World} {n0:Nat} {d:I->RowD} {i j:I} {r:RowD}
@[simp] theorem zky:updR d i r i=r:=by simp[updR]
theorem zkm(h:j≠i):updR d i r j=d j:=by simp[updR,h]
omit [DecidableEq I] in
theorem Rws.chg{C:Nat->Prop}(h:Rws W n0 d)(hc:Chg C W W')(hC:∀i b,(d i).v.ownBlock=some b->¬ C b):Rws W' n0 d:=by
 refine⟨fun i=>?_,h.sep⟩;obtain⟨e1,h2⟩:=h.row i;refine⟨e1,?_⟩;rcases h2 with h2|⟨g,cap,cur,hv,hb,hg,h3⟩
 ·exact .inl h2
 ·exact .inr ⟨g,cap,cur,hv,hb,hc.keep hg (hC i g (by rw[hv];rfl)),h3⟩
omit [DecidableEq I] in
theorem Rws.later(h:Rws W n0 d)(hb:zw W W'):Rws W' n0 d:=h.chg (C:=fun _=>False) (Chg.of_below hb) (fun _ _ _ h=>h)
omit [DecidableEq I] in
theorem Rws.lt(h:Rws W n0 d)(i:I):∀b,(d i).v.ownBlock=some b->n0<=b/\b<W.heap.size:=(h.row i).lt
theorem Rws.upd(h:Rws W n0 d)(i:I)(hc:Chg (fun b=>(d i).v.ownBlock=some b) W W')(ho:W'.ownsRow n0 r.E r.sz r.v r.n r.xs)(aY:∀b,r.v.ownBlock=some b->(d i).v.ownBlock=some b\/W.heap.size<=b):Rws W' n0 (updR d i r):=by
 have key:∀j,j≠i->∀b,(d j).v.ownBlock=some b->r.v.ownBlock≠some b:=fun j hj b hb hr=>by
  rcases aY b hr with h1|h1
  ·exact h.sep j i b hj hb h1
  ·have:=(h.lt j b hb).2;omega
 refine⟨fun j=>?_,fun j k b hjk hb=>?_⟩
 ·by_cases hj:j=i
  ·subst hj;simpa using ho
  ·rw[zkm hj];obtain⟨e1,h2⟩:=h.row j;refine⟨e1,?_⟩;rcases h2 with h2|⟨g,cap,cur,hv,hb,hg,h3⟩
   ·exact .inl h2
   ·exact .inr ⟨g,cap,cur,hv,hb,hc.keep hg (h.sep j i g hj (by rw[hv];rfl)),h3⟩
 ·by_cases hj:j=i
  ·subst hj;rw[zkm (Ne.symm hjk)];rw[zky]at hb;exact fun hk=>key k (Ne.symm hjk) b hk hb
  ·rw[zkm hj]at hb;by_cases hk:k=i
   ·subst hk;rw[zky];exact key j hj b hb
   ·rw[zkm hk];exact h.sep j k b hjk hb
omit [DecidableEq I] in
theorem Rws.cell(h:Rws W n0 d)(i:I){g:Nat}{u:Value}(hg:(d i).v.ownBlock=some g){o:Nat}(ho:(d i).xs[o]?=some u):W.cell? ⟨g,o,none⟩=some u:=by
 have hr:=h.row i;obtain⟨e1,h2⟩:=hr;rcases h2 with⟨h2,_⟩|⟨g',cap,cur,hv,hb,hg',hn,hm,hz,hx⟩
 ·rw[h2]at hg;simp[Value.ownBlock]at hg
 ·rw[hv]at hg;simp[Value.ownBlock]at hg;subst hg;refine zc hg' ?_;have hlt:o<(d i).xs.length:=(List.getElem?_eq_some_iff.1 ho).1;rw[<-hx]at ho;rw[List.getElem?_take_of_lt (by rw[e1]at hlt;exact hlt)]at ho;simpa using ho
omit [DecidableEq I] in
theorem Rws.frozen(h:Rws W n0 d)(i:I){g:Nat}(hg:(d i).v.ownBlock=some g)(o:Nat):W.frozen? ⟨g,o,none⟩=false:=by
 obtain⟨e1,h2⟩:=h.row i;rcases h2 with⟨h2,_⟩|⟨g',cap,cur,hv,hb,hg',_⟩
 ·rw[h2]at hg;simp[Value.ownBlock]at hg
 ·rw[hv]at hg;simp[Value.ownBlock]at hg;subst hg;exact zf hg'
theorem Rws.set(h:Rws W n0 d)(i:I){g:Nat}(hg:(d i).v.ownBlock=some g){o:Nat}(ho:o<(d i).xs.length)(u:Value) :
  Rws (W.setCell ⟨g,o,none⟩ u) n0 (updR d i { d i with xs:=(d i).xs.set o u }):=by
 have hc:Chg (fun b=>(d i).v.ownBlock=some b) W (W.setCell ⟨g,o,none⟩ u):=(Chg.refl _ _).setCell (.inl hg) u;refine h.upd i hc ?_ (fun b hb=>.inl hb);obtain⟨e1,h2⟩:=h.row i;rcases h2 with⟨h2,_⟩|⟨g',cap,cur,hv,hb,hg',hn,hm,hz,hx⟩
 ·rw[h2]at hg;simp[Value.ownBlock]at hg
 ·have hgg:g=g':=by rw[hv]at hg;simp[Value.ownBlock]at hg;exact hg.symm
  subst hgg;refine⟨by simpa using e1,.inr ⟨g,cap,cur.setIfInBounds o u,hv,hb,heap_setCell_same W g o cur _ u hg',hn,hm,by simpa using hz,?_⟩⟩;rw[Array.toList_setIfInBounds,<-hx,List.take_set]
end
inductive Res where
 | sb|tb|tin|tout|bv|bc|calls
 | fv (i:Nat)|fc (i:Nat)|cb (i:Nat)|ci (i:Nat)|x (i:Nat)
 deriving DecidableEq
structure Ph where
 sb:Nat
 tb:Nat
 vI:Value
 vO:Value
 vV:Value
 vC:Value
 vF:Value
 fV:Nat->Value
 fC:Nat->Value
 cb:Nat->Nat
 ci:Nat->Value
def zkX(vs:List VD):List Value:=vs.flatMap fun v=>[.string v.s,zj v.k,zi v.n]
def zki(l:List Int):List Value:=l.map (Value.int .i64)
def ptrs(cb:Nat->Nat)(cs:List Nat):List Value:=cs.map fun i=>.pointer (some ⟨cb i,0,none⟩)
def zkV(P:Ph):Nat->List FR->List Value
 | _,[]=>[]
 | i,f::fs=>P.fV i::P.fC i :: zi f.loc::zkV P (i+1) fs
def nilR:RowD:=⟨zn,0,1,0,[]⟩
abbrev boxV(b:Nat):Value:=.slice (some ⟨b,0,none⟩) 1 1
def rows(P:Ph)(S:ST):Res->RowD
 | .sb=>⟨boxV P.sb,167,5,1,[P.vV,P.vC,zi S.base.loc,P.vF,.pointer (some ⟨P.tb,0,none⟩)]⟩
 | .tb=>⟨boxV P.tb,188,2,1,[P.vI,P.vO]⟩
 | .tin=>⟨P.vI,3,1,S.tin.length,zki S.tin⟩
 | .tout=>⟨P.vO,3,1,S.tout.length,zki S.tout⟩
 | .bv=>⟨P.vV,38,3,S.base.vs.length,zkX S.base.vs⟩
 | .bc=>⟨P.vC,169,1,S.base.cs.length,ptrs P.cb S.base.cs⟩
 | .calls=>⟨P.vF,164,3,S.calls.length,zkV P 0 S.calls⟩
 | .fv i=>match S.calls[i]? with
  | none=>nilR
  | some f=>⟨P.fV i,38,3,f.vs.length,zkX f.vs⟩
 | .fc i=>match S.calls[i]? with
  | none=>nilR
  | some f=>⟨P.fC i,169,1,f.cs.length,ptrs P.cb f.cs⟩
 | .cb i=>if i<S.nc then⟨boxV (P.cb i),171,1,1,[P.ci i]⟩else nilR
 | .ci i=>if i<S.nc then⟨P.ci i,3,1,(S.cell i).length,zki (S.cell i)⟩else nilR
 | .x _=>nilR
structure SR(W:World)(n0:Nat)(P:Ph)(S:ST):Prop where
 rws:Rws W n0 (rows P S)
 wf:S.WF
theorem zoZ(P:Ph):∀(i:Nat) (fs:List FR),(zkV P i fs).length=fs.length*3
 | _,[]=>rfl
 | i,f::fs=>by simp[zkV,zoZ P (i+1) fs];omega
theorem zo0(P:Ph):∀(fs:List FR) (i j:Nat) (h:j<fs.length),(zkV P i fs)[j*3]?=some (P.fV (i+j))/\(zkV P i fs)[j*3+1]?=some (P.fC (i+j))/\(zkV P i fs)[j*3+2]?=some (zi fs[j].loc)
 | f::fs,i,0,_=>by simp[zkV]
 | f::fs,i,j+1,h=>by
  have:=zo0 P fs (i+1) j (by simpa using h);rw[show(j+1)*3=j*3+1+1+1 by omega,show i+(j+1)=i+1+j by omega];simp only[zkV,List.getElem?_cons_succ,List.getElem_cons_succ];exact this
theorem zvP(vs:List VD):(zkX vs).length=vs.length*3:=by
 induction vs with
 | nil=>rfl
 | cons v vs ih=>simp[zkX]at *;omega
theorem zrf:∀(vs:List VD) (i:Nat) (h:i<vs.length),(zkX vs)[i*3]?=some (.string vs[i].s)/\(zkX vs)[i*3+1]?=some (zj vs[i].k)/\(zkX vs)[i*3+2]?=some (zi vs[i].n)
 | v::vs,0,_=>by simp[zkX]
 | v::vs,i+1,h=>by
  have:=zrf vs i (by simpa using h);rw[show(i+1)*3=i*3+1+1+1 by omega];simp only[zkX,List.flatMap_cons,List.cons_append,List.nil_append,List.getElem?_cons_succ,List.getElem_cons_succ];exact this
end
end Go.Proofs.YthjinpodhacleaaGreat
