/-
  Texts of the proof, put together without their remarks: Wk, Ck, Cm, Apq, Cp, ScV.
-/
import Derived.Test.YthjinpodhacleaaGreatR3
import Derived.Sort.CutIn
import Derived.IntWalk
set_option linter.unusedSimpArgs false
set_option linter.unusedVariables false
set_option maxHeartbeats 8000000
set_option maxRecDepth 100000
namespace Go.Proofs.YthjinpodhacleaaGreat
open Tryz
section
open Go Go.RowKit
structure It(C:Nat->Prop)(W:World)(n0 l yb pb vb:Nat)(pv:Value)(q:List Int):Prop where
 y:W.heap[yb]?=some (.cells #[.func (.yield l) #[] #[]] 180 (0,0))
 v:W.heap[vb]?=some (.cells #[.func (.func 118) #[] #[.pointer (some ⟨yb,0,none⟩),.pointer (some ⟨pb,0,none⟩),.pointer (some ⟨vb,0,none⟩)]] 102 (0,0))
 p:W.heap[pb]?=some (.cells #[pv] 42 (0,0))
 row:W.ownsRow n0 3 1 pv q.length (q.map fun x=>Value.int .i64 x)
 fits:∀x∈q,I64 x
 gy:n0<=yb
 gp:n0<=pb
 gv:n0<=vb
 nyp:yb≠pb
 nvp:vb≠pb
 ry:pv.ownBlock≠some yb
 rp:pv.ownBlock≠some pb
 rv:pv.ownBlock≠some vb
 cy:¬ C yb
 cp:¬ C pb
 cv:¬ C vb
 cr:∀b,pv.ownBlock=some b->¬ C b
section
variable {C C' D:Nat->Prop} {W W':World} {n0 l yb pb vb:Nat} {pv pv':Value} {q q':List Int}
theorem It.lt(h:It C W n0 l yb pb vb pv q):yb<W.heap.size/\pb<W.heap.size/\vb<W.heap.size/\∀b,pv.ownBlock=some b->n0<=b/\b<W.heap.size:=⟨zkf h.y,zkf h.p,zkf h.v,h.row.lt⟩
theorem It.chg(h:It C W n0 l yb pb vb pv q)(hc:Chg D W W')(hD:∀b,b=yb\/b=pb\/b=vb\/pv.ownBlock=some b->¬ D b)(hC:∀b,b=yb\/b=pb\/b=vb\/pv.ownBlock=some b->¬ C' b):It C' W' n0 l yb pb vb pv q :=
 { h with
  y:=hc.keep h.y (hD _ (.inl rfl))
  v:=hc.keep h.v (hD _ (.inr (.inr (.inl rfl))))
  p:=hc.keep h.p (hD _ (.inr (.inl rfl)))
  row:=by
   obtain⟨e1,h2⟩:=h.row;refine⟨e1,?_⟩;rcases h2 with h2|⟨g,cap,cur,rfl,hb,hg,h3⟩
   ·exact .inl h2
   ·exact .inr ⟨g,cap,cur,rfl,hb,hc.keep hg (hD _ (.inr (.inr (.inr rfl)))),h3⟩
  cy:=hC _ (.inl rfl)
  cp:=hC _ (.inr (.inl rfl))
  cv:=hC _ (.inr (.inr (.inl rfl)))
  cr:=fun b hb=>hC _ (.inr (.inr (.inr hb))) }
theorem It.later(h:It C W n0 l yb pb vb pv q)(hb:Below W.heap.size W W'):It C W' n0 l yb pb vb pv q :=
 h.chg (D:=fun _=>False) (Chg.of_below hb) (fun _ _ h=>h) (fun b hb=>by
  rcases hb with rfl|rfl|rfl|hb
  ·exact h.cy
  ·exact h.cp
  ·exact h.cv
  ·exact h.cr b hb)
theorem It.put(h:It C W n0 l yb pb vb pv q)(ho:W'.ownsRow n0 3 1 pv' q'.length (q'.map fun x=>Value.int .i64 x))(hq:∀x∈q',I64 x)(hg:W.grownBy W' pv.ownBlock)
  (aY:∀b,pv'.ownBlock=some b->pv.ownBlock=some b\/W.heap.size<=b)(hC:∀b,C b->b<W.heap.size):It C (W'.setCell ⟨pb,0,none⟩ pv') n0 l yb pb vb pv' q':=by
 have hlt:=h.lt;have hc:Chg (fun b=>b=pb\/pv.ownBlock=some b) W (W'.setCell ⟨pb,0,none⟩ pv'):=((Chg.row hg).mono fun _ _ h=>.inr h).setCell (.inl (.inl rfl)) _;have hp':W'.heap[pb]?=some (.cells #[pv] 42 (0,0)):=(hg.block _ (zkf h.p) (fun e=>h.rp e.symm)).trans h.p;have kL:pv'.ownBlock≠some pb:=fun e=>by
  rcases aY _ e with e|e
  ·exact h.rp e
  ·have:=hlt.2.1;omega
 refine { h with
  y:=hc.keep h.y (fun hh=>by rcases hh with hh|hh;exact h.nyp hh;exact h.ry hh)
  v:=hc.keep h.v (fun hh=>by rcases hh with hh|hh;exact h.nvp hh;exact h.rv hh)
  p:=by have:=heap_setCell_same W' pb 0 _ _ pv' hp';simpa using this
  row:=?_
  fits:=hq
  ry:=fun e=>by
   rcases aY _ e with e|e
   ·exact h.ry e
   ·have:=hlt.1;omega
  rp:=kL
  rv:=fun e=>by
   rcases aY _ e with e|e
   ·exact h.rv e
   ·have:=hlt.2.2.1;omega
  cr:=fun b hb hcb=>by
   rcases aY _ hb with e|e
   ·exact h.cr b e hcb
   ·have:=hC b hcb;omega }
 obtain⟨e1,h2⟩:=ho;refine⟨e1,?_⟩;rcases h2 with h2|⟨g,cap,cur,rfl,hb,hg',h3⟩
 ·exact .inl h2
 ·refine .inr ⟨g,cap,cur,rfl,hb,?_,h3⟩;rw[Below.heap_setCell _ _ _ _ (fun e=>kL (by subst e;rfl))];exact hg'
end
def VisP(J Jx:List T->(Nat->Prop)->World->Prop)(n0 l yb pb vb:Nat)(pre xs:List T)(C:Nat->Prop)(pv:Value)(q:List Int)(W:World)(e:Ending)(W':World):Prop :=
 (e=.returned (.bool true)/\∃C' pv',J (pre++xs) C' W'/\It C' W' n0 l yb pb vb pv' q/\(∀b,C' b->C b\/W.heap.size<=b)/\(∀b,pv'.ownBlock=some b->pv.ownBlock=some b\/W.heap.size<=b)/\Chg (fun b=>C b\/b=pb\/pv.ownBlock=some b) W W') \/
 (e=.returned (.bool false)/\∃pre' C',Jx pre' C' W'/\Chg (fun b=>C b\/b=pb\/pv.ownBlock=some b) W W')
def VInv(J:List T->(Nat->Prop)->World->Prop)(n0 l yb pb vb:Nat)(pre:List T)(t:T)(done:List T)(C:Nat->Prop)(pv:Value)(q:List Int)(W0 wr:World)(C':Nat->Prop)(pv':Value):Prop :=
 J (pre++(t::done)) C' wr/\It C' wr n0 l yb pb vb pv' q/\(∀b,C' b->C b\/W0.heap.size<=b)/\(∀b,pv'.ownBlock=some b->pv.ownBlock=some b\/W0.heap.size<=b)/\Chg (fun b=>C b\/b=pb\/pv.ownBlock=some b) W0 wr
theorem zwK:IsFn prog 66 f66:=⟨func66,by kernel_rfl,by kernel_rfl⟩
theorem ztk(n l n0 yb pb vb:Nat)(R:Nat->Prop)(xs:List T)(J Jx:List T->(Nat->Prop)->World->Prop)(hJ:∀pre C W W',J pre C W->Chg (fun b=>¬ C b) W W'->J pre C W')(iG:∀pre C W,J pre C W->∀b,C b->b<W.heap.size)
  (hR:∀b,R b->b<n0)(hl0:l<n0)
  (hY:∀pre x C W pv v,J pre C W->(pre++[x]) <+: xs->(∃A m c,pv=.slice A m c)->NV W (fun b=>l<b) x v ->
   YieldAt (Fw none) (n-1) prog l #[pv,v] W fun e W' =>
    (e=.returned (.bool true)/\∃C',J (pre++[x]) C' W'/\(∀b,C' b->C b\/W.heap.size<=b)/\Chg C W W') \/
    (e=.returned (.bool false)/\∃C',Jx (pre++[x]) C' W'/\Chg C W W')) (t:T) :
  ∀(pre:List T) (C:Nat->Prop) (W:World) (pv:Value) (q:List Int) (v:Value),J pre C W->It C W n0 l yb pb vb pv q->NV W R t v->(∀b,C b->¬ R b)->(pre++po t) <+: xs->q.length+dep t<=1000 ->
   Calls prog 118 #[v,.pointer (some ⟨yb,0,none⟩),.pointer (some ⟨pb,0,none⟩),.pointer (some ⟨vb,0,none⟩)] W (VisP J Jx n0 l yb pb vb pre (po t) C pv q W):=by
 have HJ:=zh hJ;have jO:=zh iG;have HY:=zh hY;have HRR:=zh hR;clear hJ iG hY hR;obtain⟨i0,hi0,hz0,hz1,hz2⟩:=info_parts znA
 induction t using T.ind with
 | _ k nn s ks ih =>
 intro pre C W pv q v hj hit hv jF hpre hdep;have qz:=zh ih;have lC:=zh hj;have HIT:=zh hit;have HV:=zh hv;have HCR:=zh jF;have dP:=zh hpre;obtain⟨A,c,rfl,hf,hlk,hlc,hrow⟩:=hv.open_;simp only[T.k_nd,T.n_nd,T.s_nd,T.ks_nd]at *
 have au:=zkx hlk;have ae:=zh hrow;have hlts:=hit.lt;obtain⟨Ap,cp,rfl,hcp,aX⟩:=zld hit.row hit.fits;have bZ:=zh aX;have HLT:=zh hlts;have hly:=hlts.1;have hlp:=hlts.2.1;have hlv:=hlts.2.2.1;clear ih hj hit hv jF hpre hrow aX hlts hcp hlc;simp only[dep]at hdep;have lJ:q.length<=1000:=by omega
 go_enter func118,ntmps118;go_upto_region 1 with fail;have hbW:=(zs W).alloc zl (.cells #[.int .u8 k,.int .i64 nn,.string s,.slice A ks.length c] 28);obtain⟨W0,hW0⟩:=zX (W.alloc (.cells #[.int .u8 k,.int .i64 nn,.string s,.slice A ks.length c] 28));rw[hW0]at hbW ⊢;have hnb:W0.heap[W.heap.size]?=some (.cells #[.int .u8 k,.int .i64 nn,.string s,.slice A ks.length c] 28 (0,0)):=by rw[<-hW0];exact heap_alloc_new W _
 have HZ0:=zh (show W0.heap.size=W.heap.size+1 by rw[<-hW0];simp);have aU:=zh hbW;have qw:=zh hnb;have gQ:=zh (HIT.out.later hbW);have HS:=zh (show ∀w':World,w'.heap[yb]?=W0.heap[yb]?->w'.heap[pb]?=W0.heap[pb]?->w'.heap[W.heap.size]?=W0.heap[W.heap.size]?->(fun w':World=>(zv w' yb 0 (.func (.yield l) #[] #[]))/\(zv w' pb 0 (.slice Ap q.length cp))/\zN4 w' W.heap.size (.int .u8 k) (.int .i64 nn) (.string s) (.slice A ks.length c)) w' from fun w' h1 h2 h3=>⟨zc (h1.trans gQ.out.y) rfl,zc (h2.trans gQ.out.p) rfl,box4 (h3.trans hnb)⟩)
 have kr:=zh (show ∀w':World,Below W0.heap.size W0 w'->(fun w':World=>(zv w' yb 0 (.func (.yield l) #[] #[]))/\(zv w' pb 0 (.slice Ap q.length cp))/\zN4 w' W.heap.size (.int .u8 k) (.int .i64 nn) (.string s) (.slice A ks.length c)) w' from fun w' h=>HS.out w' (h.block _ (by have:=gQ.out.lt.1;omega)) (h.block _ (by have:=gQ.out.lt.2.1;omega)) (h.block _ (zkf hnb)));clear hW0 hbW hnb;have hdr:=(zs W0).drew;have hSS:(fun w':World=>(zv w' yb 0 (.func (.yield l) #[] #[]))/\(zv w' pb 0 (.slice Ap q.length cp))/\zN4 w' W.heap.size (.int .u8 k) (.int .i64 nn) (.string s) (.slice A ks.length c)) W0.drew:=kr.out _ hdr;refine wp_region_noPanic ?_;refine(wpIn_wide (n:=n)).1 ?_
 refine zl9 (ro:=none) (fun w':World=>(zv w' yb 0 (.func (.yield l) #[] #[]))/\(zv w' pb 0 (.slice Ap q.length cp))/\zN4 w' W.heap.size (.int .u8 k) (.int .i64 nn) (.string s) (.slice A ks.length c)) (by kernel_rfl) ?_;refine zI 0 hSS ?_;refine zI 1 hSS ?_;refine zI 3 hSS ?_;refine zno (i:=2) (by kernel_rfl) rfl (by kernel_rfl) (by rfl) (fun K hK=>?_);refine zl2 (by rfl) (.func 55) (.tmp 9) _ (by rfl) 55 _ zmH (by rfl) _ (by rfl) _ (zm2 (zpt q Ap cp _ _ ((bZ.out.later aU.out).later hdr) (by unfold LI;omega))) ?_;rintro v2 w2 ⟨A2,c2,rfl,_,_,ah⟩;have b2:=zka hdr ah;have aC:(fun w':World=>(zv w' yb 0 (.func (.yield l) #[] #[]))/\(zv w' pb 0 (.slice Ap q.length cp))/\zN4 w' W.heap.size (.int .u8 k) (.int .i64 nn) (.string s) (.slice A ks.length c)) w2:=kr.out _ b2;refine hK.out _ _ aC ?_;clear hK K hSS;(try simp only[zQ])
 refine zno (i:=4) (by kernel_rfl) rfl (by kernel_rfl) (by rfl) (fun K hK=>?_);refine zl2 (by rfl) (.func 66) (.tmp 11) _ (by rfl) 66 _ zwK (by rfl) _ (by rfl) _ (zyi (znm (.nd k nn s ks) _ _ ((HV.out.later aU.out).later b2).any)) ?_;rintro v3 w3 ⟨k3,n3,s3,A3,l3,c3,rfl,dB,aN⟩;have b3:=zka b2 aN;have aV:(fun w':World=>(zv w' yb 0 (.func (.yield l) #[] #[]))/\(zv w' pb 0 (.slice Ap q.length cp))/\zN4 w' W.heap.size (.int .u8 k) (.int .i64 nn) (.string s) (.slice A ks.length c)) w3:=kr.out _ b3;refine hK.out _ _ aV ?_;clear hK K aC;(try simp only[zQ]);have ow:=zka aU.out b3;have qH:=HJ.out _ _ _ _ lC.out (Chg.of_below ow);have hit3:=HIT.out.later ow;obtain⟨zO,mg,zR,zP,Aw,wS⟩:=HY.out pre (.nd k nn s ks) C w3 (.slice A2 q.length c2) (nv k3 n3 s3 A3 l3 c3) qH (by
  have:=dP.out;simp only[po]at this;exact(List.prefix_append_right_inj pre).2 ⟨_,rfl⟩ |>.trans this) ⟨_,_,_,rfl⟩ (dB.mono fun b hb=>by have h1:=HIT.out.gp;have h2:=b2.size;have h3:=HZ0.out;have h4:w2.heap.size<=b:=hb;omega)
 refine zp2 (i:=5) (by kernel_rfl) rfl (by kernel_rfl) (by rfl) (l:=l) (f:=zO) (tmps:=mg) (assign:=zR) (body:=zP) ?_ wS ?_
 ·(try simp only[zA,zB,zC]);go_simp
 ·clear Aw wS;rintro e W1 (⟨rfl,C1,hj1,bA,dM⟩|⟨rfl,C1,pF,dM⟩)
  ·have eD:(fun w':World=>(zv w' yb 0 (.func (.yield l) #[] #[]))/\(zv w' pb 0 (.slice Ap q.length cp))/\zN4 w' W.heap.size (.int .u8 k) (.int .i64 nn) (.string s) (.slice A ks.length c)) W1:=HS.out _ ((dM.block _ (by have:=hit3.lt.1;omega) hit3.cy).trans (b3.block _ (by have:=gQ.out.lt.1;omega))) ((dM.block _ (by have:=hit3.lt.2.1;omega) hit3.cp).trans (b3.block _ (by have:=gQ.out.lt.2.1;omega))) ((dM.block _ (by have:=ow.size;have:=b3.size;have:=HZ0.out;omega) (fun h=>by have:=jO.out _ _ _ lC.out _ h;omega)).trans (b3.block _ (by have:=HZ0.out;omega)));refine⟨_,rfl,eD,?_⟩;(try simp only[zQ]);refine zI 6 eD ?_;refine znP (by kernel_rfl) ?_;refine NoPanic.normal ?_;obtain⟨_,_,_,_,_,m3⟩:=eD;have hit1:It C1 W1 n0 l yb pb vb (.slice Ap q.length cp) q:=hit3.chg dM (fun b hb=>by
    rcases hb with rfl|rfl|rfl|hb
    ·exact hit3.cy
    ·exact hit3.cp
    ·exact hit3.cv
    ·exact hit3.cr b hb) (fun b hb hc=>by
    have hl3:=hit3.lt;rcases bA b hc with h|h
    ·rcases hb with rfl|rfl|rfl|hb
     ·exact hit3.cy h
     ·exact hit3.cp h
     ·exact hit3.cv h
     ·exact hit3.cr b hb h
    ·rcases hb with rfl|rfl|rfl|hb
     ·omega
     ·omega
     ·omega
     ·have:=hl3.2.2.2 b hb;omega)
   have HI0:=zh (show VInv J n0 l yb pb vb pre (.nd k nn s ks) [] C (.slice Ap q.length cp) q W0 W1 C1 (.slice Ap q.length cp)from⟨hj1,hit1,fun b hb=>by
    have:=b3.size;rcases bA b hb with h|h
    ·exact .inl h
    ·exact .inr (by omega),fun b hb=>.inl hb,(Chg.of_below b3).trans2 dM fun b _ h=>.inl h⟩)
   clear hj1 bA dM aV qH hit3 hit1 b3 b2 ow ah aN dB hdr lC gQ kr HS bZ;go_wp2_with fail
   go_loopw [18] (fun i wr=>∃(j:Nat) (C':Nat->Prop) (pv':Value),j<=ks.length/\i=.int .i64 j/\VInv J n0 l yb pb vb pre (.nd k nn s ks) (pos (ks.take j)) C (.slice Ap q.length cp) q W0 wr C' pv') (fun i _=>ks.length-(intOf i).toNat)
   case atStart=>exact⟨0,C1,_,Nat.zero_le _,rfl,HI0.out⟩
   case round =>
    obtain⟨j,C',pv',hj,rfl,hinv⟩:=hrel;have ag:=zh hinv;clear m3 HI0;by_cases hlt:j<ks.length
    ·obtain⟨hjj,hit,qJ,aY,hch⟩:=hinv;have hn0p:=hit.gp;have hrow:=ae.out.keep (w':=wr) (S':=R) (fun b hb _=>hb) (fun b hb hblt=>by
      have hb0:=HRR.out b hb;rw[hch.block b (by have:=HZ0.out;omega) (fun h=>by
       rcases h with h|h|h
       ·exact HCR.out b h hb
       ·omega
       ·have:=HLT.out.2.2.2 b h;omega)]
      exact aU.out.block b hblt)
     obtain⟨a,u,A1,c1,rfl,_,Hu,⟨q0,q1,q2,q3⟩,hnu⟩:=hrow.nd hlt;obtain⟨Aq,cq,rfl,_,_⟩:=zld hit.row hit.fits;have p1:wr.cell? ⟨pb,0,none⟩=some (.slice Aq q.length cq):=zc hit.p rfl;have sH:=hit.lt;have jE:=jO.out _ _ _ hjj;have hn0w:n0<=wr.heap.size:=by have:=sH.2.1;omega
     have hsz0:=hch.size;have bk:Below wr.heap.size wr ((wr.alloc (.cells #[.int .u8 u.k,.int .i64 u.n,.string u.s,.slice A1 u.ks.length c1] 28)).alloc (.cells #[.int .i64 (j:Int)] 3)):=(zr.alloc zl _).alloc (by simp) _;have pI:=hit.later bk;have hpk:=pI.p;have p2:(wr.alloc (.cells #[.int .u8 u.k,.int .i64 u.n,.string u.s,.slice A1 u.ks.length c1] 28)).cell? ⟨pb,0,none⟩=some (.slice Aq q.length cq):=zkj p1 _;have hm1:q.length+1<=maxLen:=by unfold maxLen;omega
     have hm2:(q.length+1)*8<=140737488355328:=by omega
     have HJJ:=zh hjj;have jP:=zh pI;have uW:=zh hit;have uN:=zh hnu;have aJ:=zh qJ;have qo:=zh aY;have HCHR:=zh hch;have lY:=zh sH;have dR:=zh jE;have hrowk:=pI.row;have hbI:=zoD;have hnew:∀(i:Nat) (u':Value),[Value.int .i64 (j:Int)][i]?=some u'->((wr.alloc (.cells #[.int .u8 u.k,.int .i64 u.n,.string u.s,.slice A1 u.ks.length c1] 28)).alloc (.cells #[.int .i64 (j:Int)] 3)).cell? ((⟨wr.heap.size+1,0,none⟩:Addr).add i)=some u':=fun i u' h=>by
      have:=zkR (wr.alloc (.cells #[.int .u8 u.k,.int .i64 u.n,.string u.s,.slice A1 u.ks.length c1] 28)) 3 [Value.int .i64 (j:Int)] i u' h;simpa using this
     clear hjj hit qJ aY hch hrow hnu pI jE sH
     go_wp2_with (at_builtin;refine wpList_append_own_at (P:=prog) _ rfl (.tmp 23) (.tmp 25) 42 rfl n0 3 i0 _ 1 8 underlying42 hi0 hz0 hz1 hz2 rfl (by decide) (.slice Aq q.length cq) q.length _ rfl hrowk ⟨wr.heap.size+1,0,none⟩ 1 1 [.int .i64 (j:Int)] rfl rfl hnew (by intro u' hu';simp at hu';subst hu';rfl) hm1 hm2 (by simp;omega) ?_;intro v2 w2 h2 h3 h4 h5;obtain⟨g2,cap2,rfl⟩:=ownsRow_succ h2;have hbx:=(h3.block _ (zkf hpk) (fun e=>jP.out.rp e.symm)).trans hpk;have hy0:w2.cell? ⟨pb,0,none⟩=some (.slice Aq q.length cq):=zc hbx rfl;have hy1:w2.frozen? ⟨pb,0,none⟩=false:=zf hbx;have jr:∀b,(Value.slice (some ⟨g2,0,none⟩) (q.length+1) cap2).ownBlock=some b->(Value.slice Aq q.length cq).ownBlock=some b\/((wr.alloc (.cells #[.int .u8 u.k,.int .i64 u.n,.string u.s,.slice A1 u.ks.length c1] 28)).alloc (.cells #[.int .i64 (j:Int)] 3)).heap.size<=b:=(fun b hb=>by rcases h5 with h5|h5;exact .inl (h5▸hb);exact .inr (by rw[hb]at h5;injection h5 with h5;omega));have hst:=jP.out.put (q':=q++[(j:Int)]) (by simpa using h2) (by intro x hx;simp only[List.mem_append,List.mem_singleton]at hx;rcases hx with hx|rfl;exact jP.out.fits x hx;exact⟨by omega,by omega⟩) h3 jr (fun b hb=>by have:=dR.out b hb;simp;omega);have hkb:w2.heap[wr.heap.size]?=some (.cells #[.int .u8 u.k,.int .i64 u.n,.string u.s,.slice A1 u.ks.length c1] 28 (0,0)):=(h3.block _ (by simp;omega) (fun e=>by have:=lY.out.2.2.2 _ e.symm;omega)).trans (zkd (heap_alloc_new wr (.cells #[.int .u8 u.k,.int .i64 u.n,.string u.s,.slice A1 u.ks.length c1] 28)) _);have hvb:w2.heap[vb]?=some _:=(h3.block _ (zkf jP.out.v) (fun e=>jP.out.rv e.symm)).trans jP.out.v;have y3:w2.cell? ⟨vb,0,none⟩=some (.func (.func 118) #[] #[.pointer (some ⟨yb,0,none⟩),.pointer (some ⟨pb,0,none⟩),.pointer (some ⟨vb,0,none⟩)]):=zc hvb rfl;obtain⟨k0,k1,k2,k3'⟩:=box4 hkb;have HST:=zh hst;have oM:=zh h3;have HOB2:=zh jr;have hne1:¬ wr.heap.size=pb:=(fun e=>by have:=lY.out.2.1;omega);have hne2:¬ pb=wr.heap.size:=(fun e=>hne1 e.symm);have hne3:¬ vb=pb:=jP.out.nvp;have hne4:¬ pb=vb:=(fun e=>hne3 e.symm);clear h2 h3 h4 h5 hst hbx hkb hvb jr)
     have mO:Chg (fun b=>b=pb\/(Value.slice Aq q.length cq).ownBlock=some b) wr (w2.setCell ⟨pb,0,none⟩ (.slice (some ⟨g2,0,none⟩) (q.length+1) cap2)):=((((Chg.refl _ wr).alloc _).alloc _).trans2 (Chg.row oM.out) (fun b _ h=>.inr h)).setCell (.inl (.inl rfl)) _;have hszA:=mO.size;have hjA:J (pre++((.nd k nn s ks)::pos (ks.take j))) C' (w2.setCell ⟨pb,0,none⟩ (.slice (some ⟨g2,0,none⟩) (q.length+1) cap2)):=HJ.out _ _ _ _ HJJ.out (mO.mono fun b _ hb hc=>by
      rcases hb with rfl|hb
      ·exact uW.out.cp hc
      ·exact uW.out.cr b hb hc)
     have hnA:NV (w2.setCell ⟨pb,0,none⟩ (.slice (some ⟨g2,0,none⟩) (q.length+1) cap2)) R u (nv u.k u.n u.s A1 u.ks.length c1):=uN.out.keep (fun b hb _=>hb) (fun b hb hblt=>mO.block b hblt (fun h=>by
      have hb0:=HRR.out b hb;rcases h with h|h
      ·have:=uW.out.gp;omega
      ·have:=(lY.out.2.2.2 b h).1;omega))
     have hCRA:∀b,C' b->¬ R b:=fun b hb hr=>by
      rcases aJ.out b hb with h|h
      ·exact HCR.out b h hr
      ·have:=HRR.out b hr;have:=HIT.out.gp;have:=HZ0.out;omega
     have hpreA:(pre++((.nd k nn s ks)::pos (ks.take j)))++po u <+: xs:=by
      have h:=dP.out;refine List.IsPrefix.trans ?_ h;rw[List.append_assoc];refine(List.prefix_append_right_inj pre).2 ?_;simp only[po,List.cons_append,List.prefix_cons_inj];rw[<-Hu.out];exact zyb hlt
     have hdA:(q++[(j:Int)]).length+dep u<=1000:=by
      have:dep u<=deps ks:=by rw[<-Hu.out];exact zpm (List.getElem_mem hlt)
      simp;omega
     have HC:=zh (qz.out u (by rw[<-Hu.out];exact List.getElem_mem hlt) _ C' _ _ _ _ hjA HST.out hnA hCRA hpreA hdA);have HCHA:=zh mO;have HSZA:=zh hszA;have hE:=HST.out.lt.2.1;clear hjA hnA hCRA hpreA hdA mO hszA;have HCHW:=zh (show Chg (fun b=>C b\/b=pb\/(Value.slice Ap q.length cp).ownBlock=some b) W0 (w2.setCell ⟨pb,0,none⟩ (.slice (some ⟨g2,0,none⟩) (q.length+1) cap2))from HCHR.out.trans2 HCHA.out fun b hb h=>by
      rcases h with h|h
      ·exact .inr (.inl h)
      ·rcases qo.out b h with h|h
       ·exact .inr (.inr h)
       ·omega)
     have uM:=zh (show ∀b,(Value.slice (some ⟨g2,0,none⟩) (q.length+1) cap2).ownBlock=some b->(Value.slice Ap q.length cp).ownBlock=some b\/W0.heap.size<=b from fun b hb=>by
      rcases HOB2.out b hb with h|h
      ·exact qo.out b h
      ·exact .inr (by simp at h;omega))
     refine HC.out.mono ?_;rintro e W5 (⟨rfl,C2,Ai,hj2,hit2,hC2,hob3,bP⟩|⟨rfl,pre',C2,mI,bP⟩)
     ·have hrow2:=hit2.row;rw[show(q++[(j:Int)]).length=q.length+1 by simp]at hrow2;obtain⟨g3,jH,rfl⟩:=ownsRow_succ hrow2;have hcap3:q.length<=jH:=by
       rcases hrow2.2 with⟨h,_⟩|⟨g',cap',cur,hv',_,_,hc',_⟩
       ·cases h
       ·cases hv';omega
      have hcap4:(q.length:Int)<=(jH:Int):=by omega
      have hlt2:=hit2.lt;have x0:W5.cell? ⟨pb,0,none⟩=some (.slice (some ⟨g3,0,none⟩) (q.length+1) jH):=zc hit2.p rfl;have x1:W5.frozen? ⟨pb,0,none⟩=false:=zf hit2.p;have oZ:=ownsRow_pop (size:=1) (n:=q.length) (xs:=q.map fun x=>Value.int .i64 x) (last:=[.int .i64 (j:Int)]) (by simp) (by simpa using hrow2);have hC2l:=jO.out _ _ _ hj2;have iy:=hit2.put (q':=q) oZ HIT.out.fits (zlM _ _) (fun b hb=>.inl hb) hC2l;have hjF:J (pre++((.nd k nn s ks)::pos (ks.take (j+1)))) C2 (W5.setCell ⟨pb,0,none⟩ (.slice (some ⟨g3,0,none⟩) q.length jH)):=by
       have:=HJ.out _ _ _ _ hj2 (((Chg.refl (fun b=>b=pb) W5).setCell (p:=⟨pb,0,none⟩) (.inl rfl) (.slice (some ⟨g3,0,none⟩) q.length jH)).mono fun b _ hb hc=>by rw[show b=pb from hb]at hc;exact hit2.cp hc);rw[zrY hlt,Hu.out];simpa using this
      have HF:=zh (show VInv J n0 l yb pb vb pre (.nd k nn s ks) (pos (ks.take (j+1))) C (.slice Ap q.length cp) q W0 (W5.setCell ⟨pb,0,none⟩ (.slice (some ⟨g3,0,none⟩) q.length jH)) C2 (.slice (some ⟨g3,0,none⟩) q.length jH)from⟨hjF,iy,fun b hb=>by
        rcases hC2 b hb with h|h
        ·exact aJ.out b h
        ·exact .inr (by have:=HSZA.out;omega),fun b hb=>by
        rcases hob3 b hb with h|h
        ·exact uM.out b h
        ·exact .inr (by have:=HSZA.out;omega),(HCHW.out.trans2 bP fun b hb h=>by
        rcases h with h|h|h
        ·rcases aJ.out b h with h|h
         ·exact .inl h
         ·omega
        ·exact .inr (.inl h)
        ·rcases uM.out b h with h|h
         ·exact .inr (.inr h)
         ·omega).setCell (.inl (.inr (.inl rfl))) _⟩)
      clear hrow2 hlt2 oZ hC2l iy hjF hj2 hit2 hC2 hob3 bP;go_wp2_with fail
      go_roundw
      case rel=>exact⟨j+1,C2,_,by omega,by go_num,HF.out⟩
      case measure=>simp[intOf];omega
     ·have HX:=zh mI;have HF:=zh (show Chg (fun b=>C b\/b=pb\/(Value.slice Ap q.length cp).ownBlock=some b) W W5 from(Chg.of_below aU.out).trans2 (HCHW.out.trans2 bP fun b hb h=>by
        rcases h with h|h|h
        ·rcases aJ.out b h with h|h
         ·exact .inl h
         ·omega
        ·exact .inr (.inl h)
        ·rcases uM.out b h with h|h
         ·exact .inr (.inr h)
         ·omega) fun b _ h=>h)
      clear mI bP;go_wp2_with fail;go_ret;exact .inr ⟨rfl,_,_,HX.out,HF.out⟩
    ·obtain rfl:j=ks.length:=by omega
     clear hinv;go_wp2_with fail;go_ret;have hinv:=ag.out;rw[List.take_of_length_le zl]at hinv;obtain⟨hjj,hit,qJ,aY,hch⟩:=hinv;refine .inl ⟨rfl,C',pv',by simpa[po]using hjj,hit,fun b hb=>(qJ b hb).imp id fun h=>?_,fun b hb=>(aY b hb).imp id fun h=>?_,(Chg.of_below aU.out).trans2 hch fun b _ h=>h⟩
     ·have:=HZ0.out;omega
     ·have:=HZ0.out;omega
  ·have eD:(fun w':World=>(zv w' yb 0 (.func (.yield l) #[] #[]))/\(zv w' pb 0 (.slice Ap q.length cp))/\zN4 w' W.heap.size (.int .u8 k) (.int .i64 nn) (.string s) (.slice A ks.length c)) W1:=HS.out _ ((dM.block _ (by have:=hit3.lt.1;omega) hit3.cy).trans (b3.block _ (by have:=gQ.out.lt.1;omega))) ((dM.block _ (by have:=hit3.lt.2.1;omega) hit3.cp).trans (b3.block _ (by have:=gQ.out.lt.2.1;omega))) ((dM.block _ (by have:=ow.size;have:=b3.size;have:=HZ0.out;omega) (fun h=>by have:=jO.out _ _ _ lC.out _ h;omega)).trans (b3.block _ (by have:=HZ0.out;omega)));refine⟨_,rfl,eD,?_⟩;(try simp only[zQ]);refine zI 6 eD ?_;refine znP (by kernel_rfl) ?_;refine NoPanic.normal ?_;have yn:=zh pF;have fQ:=zh ((Chg.of_below (C:=fun b=>C b\/b=pb\/(Value.slice Ap q.length cp).ownBlock=some b) ow).trans2 dM fun b _ h=>.inl h);clear pF dM eD aV qH hit3;go_wp2_with fail
   go_ret;exact .inr ⟨rfl,_,_,yn.out,fQ.out⟩
theorem zoI(n gr:Nat)(t:T)(W:World)(S:Nat->Prop)(k nn:Int)(s:ByteArray)(A:Option Addr)(m c:Nat)(hgr:W.heap[gr]?=some (.cells #[.int .u8 k,.int .i64 nn,.string s,.slice A m c] 28 (0,0)))
  (hn:NV W S t (nv k nn s A m c))(hd:dep t<=1000):zz5 n prog 117 #[.pointer (some ⟨gr,0,none⟩)] (po t) (fun b=>b=gr\/S b) W:=by
 intro l J Jx C W1 hl0 jF hch hJ iG hY h0;refine(callsIn_wide (n:=n)).2 ?_;have pJ:=hch.keep hgr fun h=>jF _ h (.inl rfl);have hn1:NV W1 (fun b=>S b/\b<W1.heap.size) t (nv k nn s A m c):=hn.keep (fun b hb hlt=>⟨hb,Nat.lt_of_lt_of_le hlt hch.size⟩) fun b hb hlt=>hch.block b hlt fun h=>jF _ h (.inr hb);have hgl:=zkf pJ;have HJ:=zh hJ;have jO:=zh iG;have HY:=zh hY;have H0:=zh h0;have HN:=zh hn1;have oM:=zh pJ;have HC:=zh (show ∀b,C b->¬ (S b/\b<W1.heap.size)from fun b hb hs=>jF b hb (.inr hs.1));obtain⟨m0,m1,m2,m3⟩:=box4 pJ;have z0:=fun o1 o2 o3=>zkj (zkj (zkj m0 o1) o2) o3;have z1:=fun o1 o2 o3=>zkj (zkj (zkj m1 o1) o2) o3;have z2:=fun o1 o2 o3=>zkj (zkj (zkj m2 o1) o2) o3;have z3:=fun o1 o2 o3=>zkj (zkj (zkj m3 o1) o2) o3;clear jF hch hJ iG hY h0 hgr hn hn1 pJ m0 m1 m2 m3
 show Calls prog 117 #[.func (.yield l) #[] #[],.pointer (some ⟨gr,0,none⟩)] W1 _
 go_enter func117,ntmps117;go_wp2_with fail;obtain⟨Wv,xw⟩:=zX ((((W1.alloc (.cells #[.func (.yield l) #[] #[]] 180)).alloc (.cells #[.slice none 0 0] 42)).alloc (.cells #[.func (.func 118) #[] #[.pointer (some ⟨W1.heap.size,0,none⟩),.pointer (some ⟨W1.heap.size+1,0,none⟩),.pointer (some ⟨W1.heap.size+1+1,0,none⟩)]] 102)));have hb3:Below W1.heap.size W1 Wv:=by rw[<-xw];exact zkb (zkb (zkb zr _) _) _
 have hit:It C Wv W1.heap.size l W1.heap.size (W1.heap.size+1) (W1.heap.size+1+1) (.slice none 0 0) []:=by
  have jE:=jO.out _ _ _ H0.out;have hy:=zkd (zkd (heap_alloc_new W1 (.cells #[.func (.yield l) #[] #[]] 180)) (.cells #[.slice none 0 0] 42)) (.cells #[.func (.func 118) #[] #[.pointer (some ⟨W1.heap.size,0,none⟩),.pointer (some ⟨W1.heap.size+1,0,none⟩),.pointer (some ⟨W1.heap.size+1+1,0,none⟩)]] 102);have hp:=zkd (heap_alloc_new (W1.alloc (.cells #[.func (.yield l) #[] #[]] 180)) (.cells #[.slice none 0 0] 42)) (.cells #[.func (.func 118) #[] #[.pointer (some ⟨W1.heap.size,0,none⟩),.pointer (some ⟨W1.heap.size+1,0,none⟩),.pointer (some ⟨W1.heap.size+1+1,0,none⟩)]] 102);have hv:=heap_alloc_new ((W1.alloc (.cells #[.func (.yield l) #[] #[]] 180)).alloc (.cells #[.slice none 0 0] 42)) (.cells #[.func (.func 118) #[] #[.pointer (some ⟨W1.heap.size,0,none⟩),.pointer (some ⟨W1.heap.size+1,0,none⟩),.pointer (some ⟨W1.heap.size+1+1,0,none⟩)]] 102);simp only[World.size_alloc]at hp hv
  rw[xw]at hy hp hv;exact⟨hy,hv,hp,World.ownsRow_nil _ _ _ _,(by simp),by omega,by omega,by omega,by omega,by omega,by simp[Value.ownBlock],by simp[Value.ownBlock],by simp[Value.ownBlock],
   (fun h=>by have:=jE _ h;omega),(fun h=>by have:=jE _ h;omega),(fun h=>by have:=jE _ h;omega),(by simp[Value.ownBlock])⟩
 rw[xw];have hj:=HJ.out _ _ _ _ H0.out (Chg.of_below hb3);refine(ztk n l W1.heap.size W1.heap.size (W1.heap.size+1) (W1.heap.size+1+1) (fun b=>S b/\b<W1.heap.size) (po t) J Jx HJ.out jO.out (fun b hb=>hb.2) hl0 HY.out t [] C Wv (.slice none 0 0) [] _ hj hit (HN.out.later hb3) HC.out (by simp) (by simpa using hd)).mono ?_;rintro e W5 (⟨rfl,C2,Ai,hj2,-,-,-,bP⟩|⟨rfl,pre',C2,mI,bP⟩)
 ·have HF:=zh (show Chg C W1 W5 from(Chg.of_below hb3).trans2 bP fun b hb h=>by
   rcases h with h|h|h
   ·exact h
   ·omega
   ·simp[Value.ownBlock]at h)
  have HX:=zh hj2;clear hj2 bP z0 z1 z2 z3 xw hit hj;go_wp2_with fail;go_end0;exact⟨⟨_,rfl⟩,.inl ⟨C2,by simpa using HX.out,HF.out⟩⟩
 ·have HF:=zh (show Chg C W1 W5 from(Chg.of_below hb3).trans2 bP fun b hb h=>by
   rcases h with h|h|h
   ·exact h
   ·omega
   ·simp[Value.ownBlock]at h)
  have HX:=zh mI;clear mI bP z0 z1 z2 z3 xw hit hj;go_wp2_with fail;go_end0;exact⟨⟨_,rfl⟩,.inr ⟨pre',C2,HX.out,HF.out⟩⟩
theorem zsn(t:T)(v:Value)(w:World)(hv:NV w Any t v):Calls prog 92 #[v] w fun e w'=>∃gr k n s A m c,e=.returned (.func (.func 117) #[] #[.pointer (some ⟨gr,0,none⟩)])/\w.heap.size<=gr /\
  w'.heap[gr]?=some (.cells #[.int .u8 k,.int .i64 n,.string s,.slice A m c] 28 (0,0))/\NV w' (fun b=>w.heap.size<=b/\b<w'.heap.size) t (nv k n s A m c)/\Below w.heap.size w w':=by
 have HV:=zh hv;obtain⟨A,c,rfl,-⟩:=hv.open_;clear hv;generalize t.k=k,t.n=n,t.s=s,t.ks.length=m at *
 go_enter func92,ntmps92;go_wp2_with fail;refine(znm t _ _ (HV.out.later (zr.alloc zl _))).mono ?_;rintro e w1 ⟨k1,n1,s1,A1,m1,c1,rfl,hn1,aa⟩;have hb:Below w.heap.size w (w1.alloc (.cells #[.int .u8 k1,.int .i64 n1,.string s1,.slice A1 m1 c1] 28)):=zkb (zka (zkb zr _) aa) _;have HB:=zh hb;have HZ:=zh (show w.heap.size<=w1.heap.size by have:=aa.size;simp at this;omega);have HN:=zh hn1;clear aa hn1 hb;go_wp2_with fail;go_ret;refine⟨w1.heap.size,k1,n1,s1,A1,m1,c1,rfl,HZ.out,heap_alloc_new w1 _,HN.out.keep (fun b hb hlt=>⟨?_,by simp;omega⟩) (fun b _ hlt=>Below.heap_alloc w1 _ b hlt),HB.out⟩;have hb':w.heap.size+1<=b:=by simpa using hb
 omega
theorem zus:IsFn prog 117 f117:=⟨func117,by kernel_rfl,by kernel_rfl⟩
attribute [local go_sem] Oper.semAt_some
def conB(t:T):Bool:=isE t&&(zlF t).c
theorem zvB(t:T)(v:Value)(w:World)(hv:NV w Any t v):Calls prog 148 #[v] w fun e w'=>∃x:Int,e=.returned (.tuple #[.int .i64 x,.bool (conB t)])/\Below w.heap.size w w':=by
 have HV:=zh hv;obtain⟨A,c,rfl,-⟩:=hv.open_;clear hv
 cases hE:isE t
 ·have hc:conB t=false:=by simp[conB,hE]
  rw[hc];have HE:=zh hE;generalize t.k=k,t.n=n,t.s=s,t.ks.length=m at *
  clear hE hc;go_enter func148,ntmps148;go_wp2_with fail;refine(zkF t _ _ (HV.out.later (zkb zr _))).mono ?_;rintro e w1 ⟨rfl,aa⟩;have q1:=zka (zkb zr _) aa;rw[HE.out];clear aa;go_wp2_with fail;go_ret2;exact⟨_,rfl,q1⟩
 ·have hc:conB t=(zlF t).c:=by simp[conB,hE]
  rw[hc];have HE:=zh hE;obtain⟨⟨gv,gc⟩,hf⟩:=zX (zlF t);have HFO:=zh (show ∀(v:Value) (w:World),NV w Any t v->Calls prog 164 #[v] w (NewF w ⟨gv,gc⟩)from hf▸zww t hE);rw[hf];generalize t.k=k,t.n=n,t.s=s,t.ks.length=m at *
  clear hE hc hf;go_enter func148,ntmps148;go_wp2_with fail;refine(zkF t _ _ (HV.out.later (zkb zr _))).mono ?_;rintro e w1 ⟨rfl,aa⟩;have q1:=zka (zkb zr _) aa;have hN:=zkc (heap_alloc_new w (.cells #[.int .u8 k,.int .i64 n,.string s,.slice A m c] 28)) aa;obtain⟨a0,a1,a2,a3⟩:=box4 hN;rw[HE.out];clear aa hN;go_wp2_with fail;refine(HFO.out _ _ (HV.out.later q1)).mono ?_;rintro e w2 ⟨k2,n2,s2,A2,l2,c2,rfl,-,ah⟩;have q2:=zka q1 ah;clear ah a0 a1 a2 a3;obtain⟨-,-,-,-,y4,y5⟩:=box6 (heap_alloc_new w2 (.cells #[.int .u8 k2,.int .i64 n2,.string s2,.slice A2 l2 c2,.int .i64 gv,.bool gc] 208));have HS:=zh (show(fun w':World=>zv w' w2.heap.size 4 (.int .i64 gv)/\zv w' w2.heap.size 5 (.bool gc)) (w2.alloc (.cells #[.int .u8 k2,.int .i64 n2,.string s2,.slice A2 l2 c2,.int .i64 gv,.bool gc] 208)).drew from⟨y4,y5⟩);clear y4 y5;go_upto_region 4 with fail
  go_region_held3 (fun w':World=>zv w' w2.heap.size 4 (.int .i64 gv)/\zv w' w2.heap.size 5 (.bool gc))
   (with_reducible exact HS.out)
   (first|fail)
  go_wp2_with fail;refine bodyPost_ret (v:=.tuple #[.int .i64 gv,.bool gc]) (by simp[results,results148,go_sem]) rfl ⟨gv,rfl,(zkb q2 _).drew⟩
theorem zmB(t:T)(v:Value)(w:World)(hv:NV w Any t v):Calls prog 124 #[v] w fun e w'=>e=.returned (.bool (conB t))/\Below w.heap.size w w':=by
 have HV:=zh hv;obtain⟨A,c,rfl,-⟩:=hv.open_;clear hv;obtain⟨b,hb⟩:=zX (conB t);rw[hb];have HB:=zh hb;clear hb;generalize t.k=k,t.n=n,t.s=s,t.ks.length=m at *
 go_enter func124,ntmps124;go_wp2_with fail;refine(zvB t _ _ (HV.out.later (zkb zr _))).mono ?_;rintro e w1 ⟨x,rfl,aa⟩;have q1:=zka (zkb zr _) aa;rw[HB.out];clear aa;go_wp2_with fail;go_ret;exact⟨rfl,q1⟩
def zmt(s:ByteArray)(x:T):Bool:=(x.k==2||x.k==3||x.k==4||x.k==5)&&x.s.toList==s.toList
def menB(t:T)(s:ByteArray):Bool:=(po t).any (zmt s)
def MenI(nm:ByteArray)(N:Nat)(r:Bool)(q:Prop)(C:Nat->Prop)(W:World):Prop :=
 (∀b,C b↔b=N+1\/b=N+1+1)/\W.heap[N+1]?=some (.cells #[.string nm] 9 (0,0))/\W.heap[N+1+1]?=some (.cells #[.bool r] 4 (0,0))/\q
theorem znF(t:T)(nm:ByteArray)(v:Value)(w:World)(hv:NV w Any t v)(hd:dep t<=1000):Calls prog 120 #[v,.string nm] w fun e w'=>e=.returned (.bool (menB t nm))/\Below w.heap.size w w':=by
 have HV:=zh hv;obtain⟨A,c,rfl,-⟩:=hv.open_;clear hv;obtain⟨b,hb⟩:=zX (menB t nm);rw[hb];have HB:=zh hb;have HD:=zh hd;clear hb hd;generalize t.k=k,t.n=n,t.s=s,t.ks.length=m at *
 refine(callsIn_wide (n:=3)).1 (callsIn_of_wp_marks func120 rfl trivial ((wpIn_wide (n:=3)).2 ?_));simp only[ntmps120,List.size_toArray,List.length_cons,List.length_nil,Nat.reduceAdd,Nat.reduceSub,Array.replicate_succ,Array.replicate_zero,List.push_toArray,List.append_toArray,List.nil_append,List.cons_append];go_wp2_with fail;refine(zsn t _ _ (HV.out.later (zkb (zkb (zkb zr _) _) _))).mono ?_;rintro e x6 ⟨gr,k6,n6,s6,A6,m6,c6,rfl,hgr,hgb,iB,qf⟩;have q6:=zka (zkb (zkb (zkb (zs w) _) _) _) qf;have tX:=zkc (zkd (heap_alloc_new (w.alloc (.cells #[.int .u8 k,.int .i64 n,.string s,.slice A m c] 28)) (.cells #[.string nm] 9)) (.cells #[.bool false] 4)) qf;have jC:=zkc (heap_alloc_new ((w.alloc (.cells #[.int .u8 k,.int .i64 n,.string s,.slice A m c] 28)).alloc (.cells #[.string nm] 9)) (.cells #[.bool false] 4)) qf
 simp only[World.size_alloc]at tX jC hgr;have ve:=zh hgb;have iM:=zh iB;have qi:=zh q6;have dJ:=zh jC;have qw:=zh tX;have oM:=zh hgr;clear qf hgb iB q6 jC tX hgr;go_wp2_with fail;refine(wpIn_wide (n:=3)).1 ?_;refine zo2 (n:=3) (gf:=117) (lb := #[.pointer (some ⟨gr,0,none⟩)]) rfl (zkG zus) (zoI (3-1) gr t x6 _ k6 n6 s6 A6 m6 c6 ve.out iM.out HD.out) rfl
  (fun pre C W=>MenI nm w.heap.size false (pre.any (zmt nm)=false) C W)
  (fun _ C W=>MenI nm w.heap.size true ((po t).any (zmt nm)=true) C W)
  (fun b=>b=w.heap.size+1\/b=w.heap.size+1+1)
  (fun pre C W W' ⟨h1,h2,h3,h4⟩ hc=>⟨h1,hc.keep h2 (fun h=>h ((h1 _).2 (.inl rfl))),hc.keep h3 (fun h=>h ((h1 _).2 (.inr rfl))),h4⟩)
  (fun pre C W W' ⟨h1,h2,h3,h4⟩ hc=>⟨h1,hc.keep h2 (fun h=>h ((h1 _).2 (.inl rfl))),hc.keep h3 (fun h=>h ((h1 _).2 (.inr rfl))),h4⟩)
  (fun pre C W ⟨h1,h2,h3,_⟩ b hb=>by rcases(h1 b).1 hb with rfl|rfl;exact zkf h2;exact zkf h3)
  (fun pre C W ⟨h1,h2,h3,_⟩ b hb=>by rcases(h1 b).1 hb with rfl|rfl;exact zkf h2;exact zkf h3)
  (fun b hb hr=>by have:=oM.out;rcases hr with hr|hr<;>rcases hb with hb|hb<;>first|omega|(have:=hr.1;simp at this;omega)) ?_ ⟨fun _=>Iff.rfl,qw.out,dJ.out,rfl⟩ ?_ ?_ ?_
 ·rintro b (rfl|hb)
  ·exact zkf ve.out
  ·exact hb.2
 ·rintro l pre x C W pv v ⟨hC,hnb,hrb,hno⟩ jE hl xg hpre ⟨Ap,mp,cp,rfl⟩ hnx;obtain⟨Ax,cx,rfl,hfx,hlx,hlcx,hrx⟩:=hnx.open_;change Code.wpIn (Fence.wide.inRound l) (3-1-1) prog _ _ _ _
  gi_wp2
  refine⟨(Chg.refl _ _).alloc _,fun W2 hW2=>?_⟩;have hwl:=zkf hnb;have hwl2:=zkf hrb;have hbx:=hW2.keep (heap_alloc_new W (.cells #[.int .u8 x.k,.int .i64 x.n,.string x.s,.slice Ax x.ks.length cx] 28)) (show ¬ W.heap.size=l by omega);have sw:=hW2.keep (zkd hnb (.cells #[.int .u8 x.k,.int .i64 x.n,.string x.s,.slice Ax x.ks.length cx] 28)) (fun h=>jE ((hC _).2 (.inl h.symm)));have oW:=hW2.keep (zkd hrb (.cells #[.int .u8 x.k,.int .i64 x.n,.string x.s,.slice Ax x.ks.length cx] 28)) (fun h=>jE ((hC _).2 (.inr h.symm)));have hx0:W2.cell? ⟨W.heap.size,0,none⟩=some (.int .u8 x.k):=zc hbx rfl;have hx2:W2.cell? ⟨W.heap.size,2,none⟩=some (.string x.s):=zc hbx rfl;have hy0:W2.cell? ⟨w.heap.size+1,0,none⟩=some (.string nm):=zc sw rfl;have hz0:W2.cell? ⟨w.heap.size+1+1,0,none⟩=some (.bool false):=zc oW rfl;have og:W2.frozen? ⟨w.heap.size+1+1,0,none⟩=false:=zf oW
  have hxm:x∈po t:=by
   obtain⟨ys,hys⟩:=hpre;rw[<-hys];simp
  have HXM:=zh hxm;have bW:=zh hno;have aJ:=zh hC;have HNB2:=zh sw;have HRB2:=zh oW;obtain⟨nx,hnx'⟩:=zX (zmt nm x);have HNX:=zh hnx';obtain⟨kk,hkk⟩:=zX (x.k);obtain⟨ss,hss⟩:=zX (x.s);have uR:=zh (show zmt nm x=((kk==2||kk==3||kk==4||kk==5)&&ss.toList==nm.toList) by rw[<-hkk,<-hss];rfl);rw[hkk]at hx0 ⊢;rw[hss]at hx2 ⊢;clear hW2 hbx hrx hnx hfx hlcx hlx hxm hpre hkk hss hC sw oW hno hnx';change Code.wpIn (Fence.wide.inRound l) (3-1-1) prog _ _ _ _;have eT:=zh (show zmt nm x=false->∀ac,zzu
    (fun pre C W=>MenI nm w.heap.size false (pre.any (zmt nm)=false) C W)
    (fun _ C W=>MenI nm w.heap.size true ((po t).any (zmt nm)=true) C W)
    (pre++[x]) C W2 Exit.normal ac W2 from fun h _=>⟨C,⟨aJ.out,HNB2.out,HRB2.out,by rw[List.any_append,bW.out];simp[h]⟩,fun b hb=>.inl hb,Chg.refl _ _⟩)
  cases hq:(ss.toList==nm.toList)
  ·have hnn:zmt nm x=false:=by rw[uR.out,hq];simp
   by_cases k2:kk=2
   ·subst k2;gi_wp2;exact eT.out hnn _
   by_cases k3:kk=3
   ·subst k3;gi_wp2;exact eT.out hnn _
   by_cases k4:kk=4
   ·subst k4;gi_wp2;exact eT.out hnn _
   by_cases k5:kk=5
   ·subst k5;gi_wp2;exact eT.out hnn _
   have x2:(kk==2)=false:=by simpa using k2
   have x3:(kk==3)=false:=by simpa using k3
   have x4:(kk==4)=false:=by simpa using k4
   have x5:(kk==5)=false:=by simpa using k5
   gi_wp2
   exact eT.out hnn _
  ·have HST:=zh (show(kk==2||kk==3||kk==4||kk==5)=true->∃C',MenI nm w.heap.size true ((po t).any (zmt nm)=true) C' (W2.setCell ⟨w.heap.size+1+1,0,none⟩ (.bool true))/\(∀b,C' b->C b\/W2.heap.size<=b)/\Chg C W2 (W2.setCell ⟨w.heap.size+1+1,0,none⟩ (.bool true))from fun h=>by
    refine⟨C,⟨aJ.out,?_,?_,?_⟩,fun b hb=>.inl hb,(Chg.refl _ _).setCell (.inl ((aJ.out _).2 (.inr rfl))) _⟩
    ·rw[Below.heap_setCell _ _ _ _ (by simp)];exact HNB2.out
    ·have:=heap_setCell_same W2 (w.heap.size+1+1) 0 _ _ (.bool true) HRB2.out;simpa using this
    ·rw[List.any_eq_true];exact⟨x,HXM.out,by rw[uR.out,h,hq];rfl⟩)
   by_cases k2:kk=2
   ·subst k2;gi_wp2;exact HST.out rfl
   by_cases k3:kk=3
   ·subst k3;gi_wp2;exact HST.out rfl
   by_cases k4:kk=4
   ·subst k4;gi_wp2;exact HST.out rfl
   by_cases k5:kk=5
   ·subst k5;gi_wp2;exact HST.out rfl
   have x2:(kk==2)=false:=by simpa using k2
   have x3:(kk==3)=false:=by simpa using k3
   have x4:(kk==4)=false:=by simpa using k4
   have x5:(kk==5)=false:=by simpa using k5
   have hnn:zmt nm x=false:=by rw[uR.out,x2,x3,x4,x5];rfl
   gi_wp2
   exact eT.out hnn _
 ·intro D C W' hD hC hch hK;obtain⟨bA,su,eX,hno⟩:=hC;have hbf:b=false:=by rw[<-HB.out];exact hno
  subst hbf;have r0:W'.cell? ⟨w.heap.size+1+1,0,none⟩=some (.bool false):=zc eX rfl;have rf:W'.frozen? ⟨w.heap.size+1+1,0,none⟩=false:=zf eX;have wY:=qi.out.size;have hlR:=zkf dJ.out;have kG:=zh (show Below w.heap.size w W' from qi.out.trans (hch.below wY (fun b h=>by omega)));have HK:=zh hK;have eP:=zh eX;clear hch hK eX bA su hno;go_wp2_with fail;have hK':(W'.setCell ⟨w.heap.size+1+1,0,none⟩ (.bool false)).heap[D]?=some (.deferred (some [])):=(Below.heap_setCell _ _ _ _ (show D≠w.heap.size+1+1 by omega)).trans HK.out;refine⟨by simp,.inl ⟨_,_,rfl,run_takeDeferred hK',?_⟩⟩;have hr8:=heap_setCell_same W' (w.heap.size+1+1) 0 _ _ (.bool false) eP.out
  have Bd:((W'.setCell ⟨w.heap.size+1+1,0,none⟩ (.bool false)).putObj D (.deferred none)).heap[w.heap.size+1+1]?=some (.cells #[.bool false] 4 (0,0)):=(World.putObj_heap_other (show w.heap.size+1+1≠D by omega)).trans (by simpa using hr8);have r1:((W'.setCell ⟨w.heap.size+1+1,0,none⟩ (.bool false)).putObj D (.deferred none)).cell? ⟨w.heap.size+1+1,0,none⟩=some (.bool false):=zc Bd rfl;have eZ:=kG.out.setCell (p:=⟨w.heap.size+1+1,0,none⟩) (by simp;omega) (.bool false);have aT:=eZ.trans ((Chg.putObj (W'.setCell ⟨w.heap.size+1+1,0,none⟩ (.bool false)) D (.deferred none)).below (B:=w.heap.size) eZ.size (fun b hb=>by have:b=D:=hb;omega));exact⟨.bool false,by simp[results,results120,go_sem,r1],rfl,aT⟩
 ·intro D pre C W' hD hC hch hK;obtain⟨bA,su,eX,hno⟩:=hC;have hbf:b=true:=by rw[<-HB.out];exact hno
  subst hbf;have r0:W'.cell? ⟨w.heap.size+1+1,0,none⟩=some (.bool true):=zc eX rfl;have wY:=qi.out.size;have hlR:=zkf dJ.out;have kG:=zh (show Below w.heap.size w W' from qi.out.trans (hch.below wY (fun b h=>by omega)));have HK:=zh hK;have eP:=zh eX;clear hch hK eX bA su hno;refine(wpIn_wide (n:=3)).2 ?_;go_wp2_with fail;refine⟨by simp,.inl ⟨_,_,rfl,run_takeDeferred HK.out,?_⟩⟩;have Bd:(W'.putObj D (.deferred none)).heap[w.heap.size+1+1]?=some (.cells #[.bool true] 4 (0,0)):=(World.putObj_heap_other (show w.heap.size+1+1≠D by omega)).trans eP.out;have r1:(W'.putObj D (.deferred none)).cell? ⟨w.heap.size+1+1,0,none⟩=some (.bool true):=zc Bd rfl;have aT:=kG.out.trans ((Chg.putObj W' D (.deferred none)).below (B:=w.heap.size) kG.out.size (fun b hb=>by have:b=D:=hb;omega));exact⟨.bool true,by simp[results,results120,go_sem,r1],rfl,aT⟩
end
section
open Go Go.RowKit
def kidC(t:T)(i:Nat):T:=t.ks.getD i (.nd 0 0 ⟨#[]⟩ [])
theorem zlN{t:T}{i:Nat}(h:i<t.ks.length):kidC t i=t.ks[i]:=by simp[kidC,h]
theorem zwr{t:T}{i:Nat}(h:i<t.ks.length):dep (kidC t i)<=dep t:=by
 rw[zlN h];have:=zpm (List.getElem_mem h)
 cases t with
 | nd k n s ks=>simp only[dep,T.ks_nd]at *;omega
def idxB(t:T)(s:ByteArray):Bool:=t.k==3&&menB (kidC t 0) s
theorem zok(t:T)(nm:ByteArray)(v:Value)(w:World)(hv:NV w Any t v)(hd:dep t<=1000)(hk:t.k=3->1<=t.ks.length):Calls prog 119 #[v,.string nm] w fun e w'=>e=.returned (.bool (idxB t nm))/\Below w.heap.size w w':=by
 have HV:=zh hv;obtain⟨A,c,rfl,hf,hlk,hlc,hrow⟩:=hv.open_;by_cases h3:t.k=3
 ·have hl:=hk h3;have hm:=znF (kidC t 0) nm;have hdd:=zwr (t:=t) (i:=0) (by omega);have HM:=zh (fun v w h=>hm v w h (by omega));obtain⟨b,hb⟩:=zX (menB (kidC t 0) nm);have hi:idxB t nm=b:=by simp[idxB,h3,hb]
  rw[hb]at HM;obtain⟨a,t1,A1,c1,rfl,_,Ht,⟨q0,q1,q2,q3⟩,hn⟩:=(hrow.later (zkb zr (.cells #[.int .u8 t.k,.int .i64 t.n,.string t.s,.slice A t.ks.length c] 28))).nd (i:=0) (by omega);have ht1:kidC t 0=t1:=by rw[zlN (by omega),Ht.out]
  rw[ht1]at HM;rw[hi,h3];rw[h3]at q0 q1 q2 q3;have HN:=zh hn;rw[h3]at HN;obtain⟨m,hm'⟩:=zX (t.ks.length);rw[hm']at HN hl q0 q1 q2 q3 ⊢;generalize t.n=n,t.s=s at *
  have hfl:(0:Int)<(m:Int):=by omega
  have gG:0<m:=by omega
  simp only[Nat.zero_mul,Addr.add_zero']at q0 q1 q2 q3;clear hv hrow hf hlk hlc hm hdd hb hi ht1 hn Ht HV hk hm' hd hl;go_enter func119,ntmps119;go_wp2_with fail;refine(HM.out _ _ HN.out).mono ?_;rintro e w1 ⟨rfl,aa⟩;have q1:=zka (zkb zr _) aa;go_wp2_with fail;go_ret;exact⟨rfl,q1⟩
 ·have hi:idxB t nm=false:=by simp[idxB,h3]
  have x3:(t.k==3)=false:=by simpa using h3
  rw[hi];generalize t.k=k,t.n=n,t.s=s,t.ks.length=m at *
  clear hv HV hrow hf hlk hlc hk hd h3 hi;go_enter func119,ntmps119;go_wp2_with fail;go_ret;exact⟨rfl,zkb zr _⟩
def aliB(ts:List T)(ss:List ByteArray):Bool:=ts.any fun t=>ss.any (idxB t)
def NmE(w:World)(x:Int)(e:Ending)(w':World):Prop:=∃s,e=.returned (.tuple #[.string s,.int .i64 x])/\Below w.heap.size w w'
theorem zoG(ts:List T)(ss:List ByteArray)(A:Option Addr)(c:Nat)(B:Option Addr)(d:Nat)(w:World)(hrow:zkP w Any A ts)(hss:RowS w B ss)(hl:ts.length<=LK)(hl2:ss.length<=100)(ht:∀t∈ts,dep t<=1000/\(t.k=3->1<=t.ks.length)) :
  Calls prog 121 #[.slice A ts.length c,.slice B ss.length d] w (NmE w (if aliB ts ss=true then 8 else 0)):=by
 have hl':=zkx hl;obtain⟨R,hR⟩:∃R:Int,(if aliB ts ss=true then 8 else 0)=R:=⟨_,rfl⟩
 rw[hR];have HR:=zh hR;have ae:=zh hrow;have aB:=zh hss;have HT:=zh ht;clear hrow hss hl ht hR;go_enter func121,ntmps121;go_wp2_with fail
 go_loopw [12] (fun i wr=>∃j:Nat,j<=ts.length/\i=.int .i64 j/\Below w.heap.size w wr/\Hid (aliB (ts.take j) ss=false)) (fun i _=>ts.length-(intOf i).toNat)
 case atStart=>exact⟨0,Nat.zero_le _,rfl,zr,zh rfl⟩
 case round =>
  obtain⟨j,hj,rfl,hbl,HJ⟩:=hrel;by_cases hlt:j<ts.length
  ·obtain⟨a,t,A1,c1,rfl,_,Ht,⟨q0,q1,q2,q3⟩,hn⟩:=(ae.out.later hbl).nd hlt;have AP:=HT.out ts[j] (List.getElem_mem hlt);rw[Ht.out]at AP;have uz:=zh AP;have HN:=zh hn;have af:=zh hbl;clear AP hn;go_wp2_with fail
   go_loopw [9,18] (fun _ i wi=>∃q:Nat,q<=ss.length/\i=.int .i64 q/\Below wr.heap.size wr wi/\wi.heap[wr.heap.size]?=some (.cells #[.int .u8 t.k,.int .i64 t.n,.string t.s,.slice A1 t.ks.length c1] 28 (0,0))/\Hid ((ss.take q).any (idxB t)=false)) (fun _ i _=>ss.length-(intOf i).toNat)
   case atStart=>exact⟨0,Nat.zero_le _,rfl,zkb zr _,heap_alloc_new wr _,zh rfl⟩
   case round =>
    obtain⟨q,hq,rfl,hbi,hbx,HQ⟩:=hrel;have yx:=zh hbi;have aS:=zh hbx;obtain⟨m0,m1,m2,m3⟩:=box4 hbx;by_cases hlq:q<ss.length
    ·obtain⟨a2,s2,rfl,Hs2,y0⟩:=(aB.out.later (zka hbl hbi)).nd hlq;obtain⟨b,hb⟩:=zX (idxB t s2);have HB:=zh hb;clear hb q0 q1 q2 q3 hbx hbi hbl;go_wp2_with fail;refine(zok t s2 _ _ (HN.out.later yx.out) uz.out.1 uz.out.2).mono ?_;rintro e w3 ⟨rfl,aN⟩;rw[HB.out];have HB3:=zh (zka yx.out aN);have xN:=zh (zkc aS.out aN);clear aN m0 m1 m2 m3 y0
     cases b
     ·have uJ:Hid ((ss.take (q+1)).any (idxB t)=false):=zh (by rw[List.take_succ_eq_append_getElem hlq,List.any_append,HQ.out,Hs2.out];simp[HB.out]);go_wp2_with fail
      go_roundw
      case rel=>exact⟨q+1,by omega,by go_num,HB3.out,xN.out,uJ⟩
      case measure=>simp[intOf];omega
     ·have hRR:R=8:=by
       rw[<-HR.out,if_pos];unfold aliB;rw[List.any_eq_true];refine⟨ts[j],List.getElem_mem hlt,?_⟩;rw[Ht.out,List.any_eq_true];exact⟨ss[q],List.getElem_mem hlq,by rw[Hs2.out];exact HB.out⟩
      have HRR:=zh hRR;clear hRR;go_wp2_with fail;go_ret2;exact⟨s2,by rw[HRR.out];rfl,zka af.out HB3.out⟩
    ·obtain rfl:q=ss.length:=by omega
     have HJ2:Hid (aliB (ts.take (j+1)) ss=false):=zh (by
      have h1:=HQ.out;rw[List.take_of_length_le zl]at h1;have h2:=HJ.out;unfold aliB at *
      rw[List.take_succ_eq_append_getElem hlt,List.any_append,h2,Ht.out];simp[h1])
     clear q0 q1 q2 q3 hbx hbi hbl m0 m1 m2 m3;go_wp2_with fail
     go_roundw
     case rel=>exact⟨j+1,by omega,by go_num,zka af.out yx.out,HJ2⟩
     case measure=>simp[intOf];omega
  ·obtain rfl:j=ts.length:=by omega
   have hRR:R=0:=by
    rw[<-HR.out,if_neg];have:=HJ.out;rw[List.take_of_length_le zl]at this;simp[this]
   have HRR:=zh hRR;have af:=zh hbl;clear hRR hbl;go_wp2_with fail;go_ret2;exact⟨_,by rw[HRR.out];rfl,af.out⟩
theorem zra(k n:Int)(rs:ByteArray)(u3:Value)(s:ByteArray)(nb:Nat)(w:World)(hc:w.cell? ⟨nb,2,none⟩=some (.string s)) :
  Calls prog 123 #[.agg #[.int .u8 k,.int .i64 n,.string rs,u3],.pointer (some ⟨nb,0,none⟩)] w fun e w'=>e=.returned (.bool (rs.toList==s.toList))/\Below w.heap.size w w':=by
 have hc':=zkj hc;go_enter func123,ntmps123;go_wp2_with fail;go_ret;exact⟨rfl,zr.alloc zl _⟩
def hasN(ks:List T)(s:ByteArray):Bool:=ks.any fun t=>t.s.toList==s.toList
theorem zoR(ks:List T)(A:Option Addr)(c:Nat)(s:ByteArray)(nb:Nat)(w:World)(hrow:zkP w Any A ks)(hl:ks.length<=LK)(hc:w.cell? ⟨nb,2,none⟩=some (.string s)) :
  Calls prog 147 #[.slice A ks.length c,.func (.func 123) #[] #[.pointer (some ⟨nb,0,none⟩)]] w fun e w'=>∃x:Int,e=.returned (.int .i64 x)/\decide (0<=x)=hasN ks s/\Below w.heap.size w w':=by
 have hl':=zkx hl;have ae:=zh hrow;have HC:=zh hc;obtain⟨R,hR⟩:=zX (hasN ks s);rw[hR];have HR:=zh hR;clear hrow hl hc hR;go_enter func147,ntmps147;go_wp2_with fail
 go_loopw [8] (fun i wr=>∃j:Nat,j<=ks.length/\i=.int .i64 j/\Below w.heap.size w wr/\Hid (hasN (ks.take j) s=false)) (fun i _=>ks.length-(intOf i).toNat)
 case atStart=>exact⟨0,Nat.zero_le _,rfl,zr,zh rfl⟩
 case round =>
  obtain⟨j,hj,rfl,hbl,HJ⟩:=hrel;by_cases hlt:j<ks.length
  ·obtain⟨a,t,A1,c1,rfl,_,Ht,⟨q0,q1,q2,q3⟩,-⟩:=(ae.out.later hbl).nd hlt;obtain⟨b,hb⟩:=zX ((t.s.toList==s.toList));have HB:=zh hb;clear hb;go_wp2_with fail;refine(zra t.k t.n t.s _ s nb _ (zb hbl HC.out)).mono ?_;rintro e w1 ⟨rfl,aa⟩;rw[HB.out];have af:=zh (zka hbl aa);clear aa q0 q1 q2 q3
   cases b
   ·have HJ2:Hid (hasN (ks.take (j+1)) s=false):=zh (by
     have:=HJ.out;unfold hasN at *
     rw[List.take_succ_eq_append_getElem hlt,List.any_append,this,Ht.out];simp[HB.out])
    go_wp2_with fail
    go_roundw
    case rel=>exact⟨j+1,by omega,by go_num,af.out,HJ2⟩
    case measure=>simp[intOf];omega
   ·have HN:=zh (show R=true by
     rw[<-HR.out];unfold hasN;rw[List.any_eq_true];exact⟨ks[j],List.getElem_mem hlt,by rw[Ht.out];exact HB.out⟩)
    go_wp2_with fail;go_ret;exact⟨j,rfl,by rw[HN.out];simp,af.out⟩
  ·have HN:=zh (show R=false by
    rw[<-HR.out];have:=HJ.out;rwa[List.take_of_length_le (by omega)]at this)
   have af:=zh hbl;clear hbl;go_wp2_with fail;go_ret;exact⟨-1,rfl,by rw[HN.out];rfl,af.out⟩
theorem znl(ks:List T)(A:Option Addr)(c:Nat)(s:ByteArray)(nb:Nat)(w:World)(hrow:zkP w Any A ks)(hl:ks.length<=LK)(hc:w.cell? ⟨nb,2,none⟩=some (.string s)) :
  Calls prog 122 #[.slice A ks.length c,.func (.func 123) #[] #[.pointer (some ⟨nb,0,none⟩)]] w fun e w'=>e=.returned (.bool (hasN ks s))/\Below w.heap.size w w':=by
 have ae:=zh hrow;have HC:=zh hc;have HL:=zh hl;obtain⟨R,hR⟩:=zX (hasN ks s);rw[hR];have HR:=zh hR;obtain⟨L,hL⟩:=zX (ks.length);rw[hL];have gM:=zh hL;clear hrow hl hc hR hL;go_enter func122,ntmps122;go_wp2_with fail;refine(gM.out▸zoR ks A c s nb _ ae.out HL.out HC.out).mono ?_;rintro e w1 ⟨x,rfl,hx,aa⟩;rw[HR.out]at hx;go_wp2_with fail;go_ret;exact⟨by rw[<-hx];rfl,aa⟩
def dupB(ks:List T):Bool:=(List.range ks.length).any fun i=>hasN (ks.take i) (ks.getD i (.nd 0 0 ⟨#[]⟩ [])).s
theorem zsf{ks:List T}{j:Nat}(hj:j<ks.length)(h:hasN (ks.take j) ks[j].s=true):dupB ks=true:=by
 unfold dupB;rw[List.any_eq_true];exact⟨j,by simpa using hj,by simpa[hj]using h⟩
theorem zuO{ks:List T}(h:∀j (hj:j<ks.length),hasN (ks.take j) ks[j].s=false):dupB ks=false:=by
 unfold dupB;rw[List.any_eq_false];intro j hj;have hj':j<ks.length:=by simpa using hj
 simpa[hj']using h j hj'
structure zvf(t:T):Prop where
 d:dep t<=1000
 two:t.k=40\/t.k=41\/t.k=42\/t.k=43\/t.k=56->2<=t.ks.length
 one:44<=t.k/\t.k<=49->1<=t.ks.length
 four:t.k=52\/t.k=53->4<=t.ks.length
 pl:40<=t.k/\t.k<=49->∀x∈t.ks,x.k=3->1<=x.ks.length
def rejE(t:T):Int :=
 if t.k=56 then 9
 else if t.k=40\/t.k=41\/t.k=42 then if idxB (kidC t 0) (kidC t 0).s||menB (kidC t 1) (kidC t 0).s then 8 else 0
 else if t.k=43 then if aliB t.ks [(kidC t 0).s,(kidC t 1).s]then 8 else 0
 else if t.k=44\/t.k=45 then if aliB t.ks [(kidC t 0).s,t.s]then 8 else 0
 else if 46<=t.k/\t.k<=49 then if aliB t.ks [(kidC t 0).s]then 8 else 0
 else if t.k=50\/t.k=51 then if dupB t.ks then 8 else 0
 else if t.k=52 then if conB (kidC t 3) && !conB (kidC t 0)then 10 else 0
 else if t.k=53 then if conB (kidC t 0)then 10 else 0
 else 0
theorem row0{w:World}{ks:List T}{A:Option Addr}(h:zkP w Any A ks)(hl:0<ks.length):∃(a:Addr) (t:T) (A':Option Addr) (c':Nat),A=some a/\Hid (ks[0]=t)/\Nd4 w a t A' c'/\NV w Any t (nv t.k t.n t.s A' t.ks.length c'):=by
 obtain⟨a,t,A',c',rfl,_,Ht,h4,hn⟩:=h.nd hl;simp only[Nat.zero_mul,Addr.add_zero']at h4;exact⟨a,t,A',c',rfl,Ht,h4,hn⟩
theorem rowI{w:World}{ks:List T}{a:Addr}(h:zkP w Any (some a) ks)(i:Nat)(hl:i+1<ks.length):∃(t:T) (A':Option Addr) (c':Nat),Hid (ks[i+1]=t)/\Nd4 w ⟨a.block,a.off+(i+1)*4,none⟩ t A' c'/\NV w Any t (nv t.k t.n t.s A' t.ks.length c'):=by
 obtain⟨a',t,A',c',e,_,Ht,h4,hn⟩:=h.nd hl;injection e with e;subst e;have ha:a.add ((i+1)*4)=⟨a.block,a.off+(i+1)*4,none⟩:=by unfold Addr.add;split<;>simp_all
 rw[ha]at h4;exact⟨t,A',c',Ht,h4,hn⟩
theorem zsB(n:Int)(s:ByteArray)(ks:List T)(A:Option Addr)(c:Nat)(w:World)(hrow:zkP w Any A ks)(hl:2<=ks.length):Calls prog 93 #[nv 56 n s A ks.length c] w (NmE w 9):=by
 obtain⟨a,t0,A1,c1,rfl,gH,h4,-⟩:=row0 (hrow.later (zkb zr (.cells #[.int .u8 56,.int .i64 n,.string s,.slice A ks.length c] 28))) (by omega);obtain⟨q0,q1,q2,q3⟩:=h4;clear gH;obtain⟨L,hL⟩:=zX (ks.length);rw[hL]at q0 q1 q2 q3 hl ⊢;have hfl:(0:Int)<(L:Int):=by omega
 have gG:0<L:=by omega
 clear hrow hL hl;go_enter func93,ntmps93;go_wp2_with fail;go_ret2;exact⟨_,rfl,zkb zr _⟩
theorem zsA(k n:Int)(s:ByteArray)(ks:List T)(A:Option Addr)(c:Nat)(w:World)(hk:k=40\/k=41\/k=42)(hrow:zkP w Any A ks)(hl:2<=ks.length)(hd:∀t∈ks,dep t<=1000)(hp:∀t∈ks,t.k=3->1<=t.ks.length) :
  Calls prog 93 #[nv k n s A ks.length c] w (NmE w (if idxB ks[0] ks[0].s||menB ks[1] ks[0].s then 8 else 0)):=by
 have hrow':=hrow.later (zkb zr (.cells #[.int .u8 k,.int .i64 n,.string s,.slice A ks.length c] 28));obtain⟨a,t0,A1,c1,rfl,gH,h4,hn0⟩:=row0 hrow' (by omega);obtain⟨t1,A2,c2,ny,h5,hn1⟩:=rowI hrow' 0 (by omega);simp only[Nat.zero_add,Nat.one_mul]at ny h5;have d0:=hd ks[0] (List.getElem_mem _);have d1:=hd ks[1] (List.getElem_mem _);have p0:=hp ks[0] (List.getElem_mem _);rw[gH.out]at d0 p0 ⊢;rw[ny.out]at d1 ⊢;obtain⟨R,hR⟩:∃R:Int,(if (idxB t0 t0.s||menB t1 t0.s)=true then 8 else 0)=R:=⟨_,rfl⟩
 rw[hR];obtain⟨b0,hb0⟩:=zX (idxB t0 t0.s);obtain⟨b1,hb1⟩:=zX (menB t1 t0.s);have HI:=zh (show ∀v w,NV w Any t0 v->Calls prog 119 #[v,.string t0.s] w fun e w'=>e=.returned (.bool b0)/\Below w.heap.size w w' from fun v w h=>hb0▸zok t0 t0.s v w h d0 p0);have HM:=zh (show ∀v w,NV w Any t1 v->Calls prog 120 #[v,.string t0.s] w fun e w'=>e=.returned (.bool b1)/\Below w.heap.size w w' from fun v w h=>hb1▸znF t1 t0.s v w h d1);rw[hb0,hb1]at hR;have HR:=zh hR;obtain⟨L,hL⟩:=zX (ks.length);have hfl:(0:Int)<(L:Int):=by omega
 have gG:0<L:=by omega
 have sP:(1:Int)<(L:Int):=by omega
 have sO:1<L:=by omega
 have hbx:=box4 (heap_alloc_new w (.cells #[.int .u8 k,.int .i64 n,.string s,.slice (some a) ks.length c] 28));clear gH ny hrow hrow' hR hb0 hb1 d0 d1 p0 hd hp;rw[hL]at h4 h5 hn0 hn1 hl hbx ⊢;obtain⟨W0,hW0⟩:=zX (w.alloc (.cells #[.int .u8 k,.int .i64 n,.string s,.slice (some a) L c] 28));have q0:Below w.heap.size w W0:=hW0▸zkb zr _;rw[hW0]at h4 h5 hn0 hn1 hbx;have fF:=zh hn0;have fE:=zh hn1;have bR:=zh (show ∀w',Below W0.heap.size W0 w'->(Nd4 w' a t0 A1 c1/\Nd4 w' ⟨a.block,a.off+4,none⟩ t1 A2 c2)/\w'.cell? ⟨w.heap.size,0,none⟩=some (.int .u8 k)/\w'.cell? ⟨w.heap.size,3,none⟩=some (.slice (some a) L c)from fun w' h=>⟨⟨zlR h h4,zlR h h5⟩,zb h hbx.1,zb h hbx.2.2.2⟩);clear hn0 hn1 h4 h5 hbx hL hl;obtain⟨⟨⟨a0,a1,a2,a3⟩,⟨b0',b1',b2,b3⟩⟩,x0,x3⟩:=bR.out _ zr;rcases hk with rfl|rfl|rfl
 all_goals
  go_enter func93,ntmps93;go_wp2_with fail;refine(HI.out _ _ fF.out).mono ?_;rintro e w1 ⟨rfl,aa⟩;obtain⟨⟨⟨a0,a1,a2,a3⟩,⟨b0',b1',b2,b3⟩⟩,x0,x3⟩:=bR.out _ aa;have q1:=zka q0 aa;have aG:=zh (fE.out.later aa);clear aa
  cases b0
  ·go_wp2_with fail;refine(HM.out _ _ aG.out).mono ?_;rintro e w2 ⟨rfl,ah⟩;have q2:=zka q1 ah;clear ah
   cases b1
   ·go_wp2_with fail;go_ret2;exact⟨_,by rw[<-HR.out];rfl,q2⟩
   ·go_wp2_with fail;go_ret2;exact⟨_,by rw[<-HR.out];rfl,q2⟩
  ·go_wp2_with fail;go_ret2;exact⟨_,by rw[<-HR.out];rfl,q1⟩
theorem zwY(s:ByteArray)(w:World):(Instr.buildSlice 196 1 #[(0,.string s)]).run prog w=.ok (.slice (some ⟨w.heap.size,0,none⟩) 1 1) (w.alloc (.cells #[.string s] 9)):=by kernel_rfl
theorem zsk(s s':ByteArray)(w:World):(Instr.buildSlice 196 2 #[(0,.string s),(1,.string s')]).run prog w=.ok (.slice (some ⟨w.heap.size,0,none⟩) 2 2) (w.alloc (.cells #[.string s,.string s'] 9)):=by kernel_rfl
theorem znR(w:World)(E:TypeId)(ss:List ByteArray):RowS (w.alloc (.cells (ss.map Value.string).toArray E)) (some ⟨w.heap.size,0,none⟩) ss:=fun i hi=>by
 refine⟨_,rfl,?_⟩;have:=zkR w E (ss.map Value.string) i (.string ss[i]) (by simp[hi]);exact this
theorem ztF(k n:Int)(s:ByteArray)(ks:List T)(A:Option Addr)(c:Nat)(w:World)(hk:k=46\/k=47\/k=48\/k=49)(hrow:zkP w Any A ks)(hl:1<=ks.length)(hlk:ks.length<=LK)(hd:∀t∈ks,dep t<=1000)(hp:∀t∈ks,t.k=3->1<=t.ks.length) :
  Calls prog 93 #[nv k n s A ks.length c] w (NmE w (if aliB ks [ks[0].s]then 8 else 0)):=by
 have hrow':=hrow.later (zkb zr (.cells #[.int .u8 k,.int .i64 n,.string s,.slice A ks.length c] 28));obtain⟨a,t0,A1,c1,rfl,gH,h4,hn0⟩:=row0 hrow' (by omega);rw[gH.out];obtain⟨R,hR⟩:∃R:Int,(if aliB ks [t0.s]=true then 8 else 0)=R:=⟨_,rfl⟩
 rw[hR];obtain⟨L,hL⟩:=zX (ks.length);have jU:=zh (show ∀(B:Option Addr) (d:Nat) (w:World),zkP w Any (some a) ks->RowS w B [t0.s]->Calls prog 121 #[.slice (some a) L c,.slice B 1 d] w (NmE w R)from fun B d w h h'=>hL▸hR▸zoG ks [t0.s] (some a) c B d w h h' hlk (by simp) (fun t ht=>⟨hd t ht,hp t ht⟩));have hfl:(0:Int)<(L:Int):=by omega
 have gG:0<L:=by omega
 have hbx:=box4 (heap_alloc_new w (.cells #[.int .u8 k,.int .i64 n,.string s,.slice (some a) ks.length c] 28));have ae:=zh hrow';clear gH hrow hrow' hR hd hp;rw[hL]at h4 hl hbx ae ⊢;obtain⟨W0,hW0⟩:=zX (w.alloc (.cells #[.int .u8 k,.int .i64 n,.string s,.slice (some a) L c] 28));have q0:Below w.heap.size w W0:=hW0▸zkb zr _;rw[hW0]at h4 hbx ae;obtain⟨x0,x1,x2,x3⟩:=hbx;obtain⟨a0,a1,a2,a3⟩:=h4;have hb1:=zwY;clear hn0 hL hl;have HS:=zh (show ∀w',Below W0.heap.size W0 w'->w'.cell? ⟨w.heap.size,3,none⟩=some (.slice (some a) L c)/\w'.cell? ⟨a.block,a.off+2,none⟩=some (.string t0.s)from fun w' h=>⟨zb h x3,zb h a2⟩);have aH:=zh (HS.out _ zr.drew);have aD:=zh (HS.out _ (zkb zr (.cells #[.string t0.s] 9)).drew);have fK:=zh (show RowS (W0.alloc (.cells #[.string t0.s] 9)).drew (some ⟨W0.heap.size,0,none⟩) [t0.s]from znR W0 9 [t0.s])
 have HRW:=zh (ae.out.later (zkb zr (.cells #[.string t0.s] 9)).drew);clear x3 a0 a1 a2 a3 x1 x2;rcases hk with rfl|rfl|rfl|rfl
 all_goals
  go_enter func93,ntmps93;go_upto_region 20 with fail
  go_region_held3 (fun w':World=>zv w' w.heap.size 3 (.slice (some a) L c)/\zv w' a.block (a.off+2) (.string t0.s))
   (first|with_reducible exact aQ.out|with_reducible exact aD.out|with_reducible exact aH.out)
   (first
    | (go_at_call 121;refine(jU.out _ _ _ HRW.out fK.out).mono ?_;rintro e y1 ⟨s1,rfl,bG⟩;have b1:=zka (zkb (zs W0) (.cells #[.string t0.s] 9)).drew bG;have aQ:=zh (HS.out _ b1))
    | fail)
  have HB1:=zh (zka q0 b1);clear bG b1 aQ;go_wp2_with fail;go_ret2;exact⟨s1,rfl,HB1.out⟩
theorem ztG(k n:Int)(s:ByteArray)(ks:List T)(A:Option Addr)(c:Nat)(w:World)(hk:k=44\/k=45)(hrow:zkP w Any A ks)(hl:1<=ks.length)(hlk:ks.length<=LK)(hd:∀t∈ks,dep t<=1000)(hp:∀t∈ks,t.k=3->1<=t.ks.length) :
  Calls prog 93 #[nv k n s A ks.length c] w (NmE w (if aliB ks [ks[0].s,s]then 8 else 0)):=by
 have hrow':=hrow.later (zkb zr (.cells #[.int .u8 k,.int .i64 n,.string s,.slice A ks.length c] 28));obtain⟨a,t0,A1,c1,rfl,gH,h4,hn0⟩:=row0 hrow' (by omega);rw[gH.out];obtain⟨R,hR⟩:∃R:Int,(if aliB ks [t0.s,s]=true then 8 else 0)=R:=⟨_,rfl⟩
 rw[hR];obtain⟨L,hL⟩:=zX (ks.length);have jU:=zh (show ∀(B:Option Addr) (d:Nat) (w:World),zkP w Any (some a) ks->RowS w B [t0.s,s]->Calls prog 121 #[.slice (some a) L c,.slice B 2 d] w (NmE w R)from fun B d w h h'=>hL▸hR▸zoG ks [t0.s,s] (some a) c B d w h h' hlk (by simp) (fun t ht=>⟨hd t ht,hp t ht⟩));have hfl:(0:Int)<(L:Int):=by omega
 have gG:0<L:=by omega
 have hbx:=box4 (heap_alloc_new w (.cells #[.int .u8 k,.int .i64 n,.string s,.slice (some a) ks.length c] 28));have ae:=zh hrow';clear gH hrow hrow' hR hd hp;rw[hL]at h4 hl hbx ae ⊢;obtain⟨W0,hW0⟩:=zX (w.alloc (.cells #[.int .u8 k,.int .i64 n,.string s,.slice (some a) L c] 28));have q0:Below w.heap.size w W0:=hW0▸zkb zr _;rw[hW0]at h4 hbx ae;obtain⟨x0,x1,x2,x3⟩:=hbx;obtain⟨a0,a1,a2,a3⟩:=h4;have hb1:=zsk;clear hn0 hL hl;have HS:=zh (show ∀w',Below W0.heap.size W0 w'->w'.cell? ⟨w.heap.size,2,none⟩=some (.string s)/\w'.cell? ⟨w.heap.size,3,none⟩=some (.slice (some a) L c)/\w'.cell? ⟨a.block,a.off+2,none⟩=some (.string t0.s)from fun w' h=>⟨zb h x2,zb h x3,zb h a2⟩);have aH:=zh (HS.out _ zr.drew);have aD:=zh (HS.out _ (zkb zr (.cells #[.string t0.s,.string s] 9)).drew)
 have fK:=zh (show RowS (W0.alloc (.cells #[.string t0.s,.string s] 9)).drew (some ⟨W0.heap.size,0,none⟩) [t0.s,s]from znR W0 9 [t0.s,s]);have HRW:=zh (ae.out.later (zkb zr (.cells #[.string t0.s,.string s] 9)).drew);clear x3 a0 a1 a2 a3 x1 x2;rcases hk with rfl|rfl
 all_goals
  go_enter func93,ntmps93;go_upto_region 15 with fail
  go_region_held3 (fun w':World=>zv w' w.heap.size 2 (.string s)/\zv w' w.heap.size 3 (.slice (some a) L c)/\zv w' a.block (a.off+2) (.string t0.s))
   (first|with_reducible exact aQ.out|with_reducible exact aD.out|with_reducible exact aH.out)
   (first
    | (go_at_call 121;refine(jU.out _ _ _ HRW.out fK.out).mono ?_;rintro e y1 ⟨s1,rfl,bG⟩;have b1:=zka (zkb (zs W0) (.cells #[.string t0.s,.string s] 9)).drew bG;have aQ:=zh (HS.out _ b1))
    | fail)
  have HB1:=zh (zka q0 b1);clear bG b1 aQ;go_wp2_with fail;go_ret2;exact⟨s1,rfl,HB1.out⟩
theorem zq6(n:Int)(s:ByteArray)(ks:List T)(A:Option Addr)(c:Nat)(w:World)(hrow:zkP w Any A ks)(hl:2<=ks.length)(hlk:ks.length<=LK)(hd:∀t∈ks,dep t<=1000)(hp:∀t∈ks,t.k=3->1<=t.ks.length) :
  Calls prog 93 #[nv 43 n s A ks.length c] w (NmE w (if aliB ks [ks[0].s,ks[1].s]then 8 else 0)):=by
 have hrow':=hrow.later (zkb zr (.cells #[.int .u8 43,.int .i64 n,.string s,.slice A ks.length c] 28));obtain⟨a,t0,A1,c1,rfl,gH,h4,hn0⟩:=row0 hrow' (by omega);obtain⟨t1,A2,c2,ny,h5,hn1⟩:=rowI hrow' 0 (by omega);simp only[Nat.zero_add,Nat.one_mul]at ny h5;rw[gH.out,ny.out];obtain⟨R,hR⟩:∃R:Int,(if aliB ks [t0.s,t1.s]=true then 8 else 0)=R:=⟨_,rfl⟩
 rw[hR];obtain⟨L,hL⟩:=zX (ks.length);have jU:=zh (show ∀(B:Option Addr) (d:Nat) (w:World),zkP w Any (some a) ks->RowS w B [t0.s,t1.s]->Calls prog 121 #[.slice (some a) L c,.slice B 2 d] w (NmE w R)from fun B d w h h'=>hL▸hR▸zoG ks [t0.s,t1.s] (some a) c B d w h h' hlk (by simp) (fun t ht=>⟨hd t ht,hp t ht⟩));have hfl:(0:Int)<(L:Int):=by omega
 have gG:0<L:=by omega
 have sP:(1:Int)<(L:Int):=by omega
 have sO:1<L:=by omega
 have hbx:=box4 (heap_alloc_new w (.cells #[.int .u8 43,.int .i64 n,.string s,.slice (some a) ks.length c] 28));have ae:=zh hrow';clear gH ny hrow hrow' hR hd hp;rw[hL]at h4 h5 hl hbx ae ⊢;obtain⟨W0,hW0⟩:=zX (w.alloc (.cells #[.int .u8 43,.int .i64 n,.string s,.slice (some a) L c] 28));have q0:Below w.heap.size w W0:=hW0▸zkb zr _;rw[hW0]at h4 h5 hbx ae;obtain⟨x0,x1,x2,x3⟩:=hbx;obtain⟨a0,a1,a2,a3⟩:=h4;obtain⟨b0,b1,b2,b3⟩:=h5;have hb1:=zsk;clear hn0 hn1 hL hl;go_enter func93,ntmps93;go_upto_region 11 with fail;have HS:=zh (show ∀w',Below W0.heap.size W0 w'->w'.cell? ⟨w.heap.size,3,none⟩=some (.slice (some a) L c)/\Nd4 w' a t0 A1 c1/\Nd4 w' ⟨a.block,a.off+4,none⟩ t1 A2 c2 from fun w' h=>⟨zb h x3,zlR h ⟨a0,a1,a2,a3⟩,zlR h ⟨b0,b1,b2,b3⟩⟩);clear x3 a0 a1 a2 a3 b0 b1 b2 b3 x1 x2
 go_region_held3 (fun w':World=>zv w' w.heap.size 3 (.slice (some a) L c)/\(w'.cell? a=some (.int .u8 t0.k)/\zv w' a.block (a.off+1) (.int .i64 t0.n)/\zv w' a.block (a.off+2) (.string t0.s)/\zv w' a.block (a.off+3) (.slice A1 t0.ks.length c1))/\(zv w' a.block (a.off+4) (.int .u8 t1.k)/\zv w' a.block (a.off+4+1) (.int .i64 t1.n)/\zv w' a.block (a.off+4+2) (.string t1.s)/\zv w' a.block (a.off+4+3) (.slice A2 t1.ks.length c2)))
   (exact HS.out _ (by first|exact zr.drew|exact(zkb zr _).drew|exact(zkb (zkb zr _) _).drew|fail))
   (first|fail)
 ·have hrs:=znR ((W0.alloc (.cells #[.int .u8 t0.k,.int .i64 t0.n,.string t0.s,.slice A1 t0.ks.length c1] 28)).alloc (.cells #[.int .u8 t1.k,.int .i64 t1.n,.string t1.s,.slice A2 t1.ks.length c2] 28)) 9 [t0.s,t1.s];simp only[World.size_alloc]at hrs;have fK:=zh hrs;clear hrs;go_wp2_with fail;refine(jU.out _ _ _ (ae.out.later (zkb (zkb (zkb zr _) _) _).drew) fK.out).mono ?_;rintro e y1 ⟨s1,rfl,bG⟩;have HB1:=zh (zka q0 (zka (zkb (zkb (zkb (zs W0) _) _) _).drew bG));clear bG;go_wp2_with fail;go_ret2;exact⟨s1,rfl,HB1.out⟩
 ·have hrs:=znR ((W0.alloc (.cells #[.int .u8 t1.k,.int .i64 t1.n,.string t1.s,.slice A2 t1.ks.length c2] 28)).alloc (.cells #[.int .u8 t0.k,.int .i64 t0.n,.string t0.s,.slice A1 t0.ks.length c1] 28)) 9 [t0.s,t1.s];simp only[World.size_alloc]at hrs;have fK:=zh hrs;clear hrs;go_wp2_with fail;refine(jU.out _ _ _ (ae.out.later (zkb (zkb (zkb zr _) _) _).drew) fK.out).mono ?_;rintro e y1 ⟨s1,rfl,bG⟩;have HB1:=zh (zka q0 (zka (zkb (zkb (zkb (zs W0) _) _) _).drew bG));clear bG;go_wp2_with fail;go_ret2;exact⟨s1,rfl,HB1.out⟩
theorem zq7(k n:Int)(s:ByteArray)(A:Option Addr)(l c:Nat)(w:World)(hk:k<40\/54<=k)(hk2:k≠56):Calls prog 93 #[nv k n s A l c] w (NmE w 0):=by
 have z56:(k==56)=false:=by simp;omega
 have z40:(k==40)=false:=by simp;omega
 have z41:(k==41)=false:=by simp;omega
 have z42:(k==42)=false:=by simp;omega
 have z43:(k==43)=false:=by simp;omega
 have z44:(k==44)=false:=by simp;omega
 have z45:(k==45)=false:=by simp;omega
 have z46:(k==46)=false:=by simp;omega
 have z47:(k==47)=false:=by simp;omega
 have z48:(k==48)=false:=by simp;omega
 have z49:(k==49)=false:=by simp;omega
 have z50:(k==50)=false:=by simp;omega
 have z51:(k==51)=false:=by simp;omega
 have z52:(k==52)=false:=by simp;omega
 have z53:(k==53)=false:=by simp;omega
 clear hk hk2;go_enter func93,ntmps93;go_wp2_with fail;go_ret2;exact⟨_,rfl,zkb zr _⟩
theorem ztH(n:Int)(s:ByteArray)(ks:List T)(A:Option Addr)(c:Nat)(w:World)(hrow:zkP w Any A ks)(hl:4<=ks.length) :
  Calls prog 93 #[nv 52 n s A ks.length c] w (NmE w (if conB ks[3] && !conB ks[0]then 10 else 0)):=by
 have hrow':=hrow.later (zkb zr (.cells #[.int .u8 52,.int .i64 n,.string s,.slice A ks.length c] 28));obtain⟨a,t0,A1,c1,rfl,gH,h4,hn0⟩:=row0 hrow' (by omega);obtain⟨t1,A2,c2,ny,h5,hn1⟩:=rowI hrow' 2 (by omega);simp only[Nat.reduceAdd,Nat.reduceMul]at ny h5;rw[gH.out,ny.out];obtain⟨R,hR⟩:∃R:Int,(if (conB t1 && !conB t0)=true then 10 else 0)=R:=⟨_,rfl⟩
 rw[hR];obtain⟨b0,hb0⟩:=zX (conB t0);obtain⟨b1,hb1⟩:=zX (conB t1);have H0:=zh (show ∀v w,NV w Any t0 v->Calls prog 124 #[v] w fun e w'=>e=.returned (.bool b0)/\Below w.heap.size w w' from fun v w h=>hb0▸zmB t0 v w h);have H1:=zh (show ∀v w,NV w Any t1 v->Calls prog 124 #[v] w fun e w'=>e=.returned (.bool b1)/\Below w.heap.size w w' from fun v w h=>hb1▸zmB t1 v w h);rw[hb0,hb1]at hR;have HR:=zh hR;obtain⟨L,hL⟩:=zX (ks.length);have hfl:(0:Int)<(L:Int):=by omega
 have gG:0<L:=by omega
 have sP:(3:Int)<(L:Int):=by omega
 have sO:3<L:=by omega
 have hbx:=box4 (heap_alloc_new w (.cells #[.int .u8 52,.int .i64 n,.string s,.slice (some a) ks.length c] 28));clear gH ny hrow hrow' hR hb0 hb1;rw[hL]at h4 h5 hn0 hn1 hl hbx ⊢;obtain⟨W0,hW0⟩:=zX (w.alloc (.cells #[.int .u8 52,.int .i64 n,.string s,.slice (some a) L c] 28));have q0:Below w.heap.size w W0:=hW0▸zkb zr _;rw[hW0]at h4 h5 hn0 hn1 hbx;have fF:=zh hn0;have fE:=zh hn1;have bR:=zh (show ∀w',Below W0.heap.size W0 w'->(Nd4 w' a t0 A1 c1/\Nd4 w' ⟨a.block,a.off+12,none⟩ t1 A2 c2)/\w'.cell? ⟨w.heap.size,0,none⟩=some (.int .u8 52)/\w'.cell? ⟨w.heap.size,3,none⟩=some (.slice (some a) L c)from fun w' h=>⟨⟨zlR h h4,zlR h h5⟩,zb h hbx.1,zb h hbx.2.2.2⟩);clear hn0 hn1 h4 h5 hbx hL hl;obtain⟨⟨⟨a0,a1,a2,a3⟩,⟨b0',b1',b2,b3⟩⟩,x0,x3⟩:=bR.out _ zr;go_enter func93,ntmps93;go_wp2_with fail;refine(H1.out _ _ fE.out).mono ?_;rintro e w1 ⟨rfl,aa⟩
 obtain⟨⟨⟨a0,a1,a2,a3⟩,⟨b0',b1',b2,b3⟩⟩,x0,x3⟩:=bR.out _ aa;have q1:=zka q0 aa;have aG:=zh (fF.out.later aa);clear aa
 cases b1
 ·go_wp2_with fail;go_ret2;exact⟨_,by rw[<-HR.out];rfl,q1⟩
 ·go_wp2_with fail;refine(H0.out _ _ aG.out).mono ?_;rintro e w2 ⟨rfl,ah⟩;have q2:=zka q1 ah;clear ah
  cases b0
  ·go_wp2_with fail;go_ret2;exact⟨_,by rw[<-HR.out];rfl,q2⟩
  ·go_wp2_with fail;go_ret2;exact⟨_,by rw[<-HR.out];rfl,q2⟩
theorem zq8(n:Int)(s:ByteArray)(ks:List T)(A:Option Addr)(c:Nat)(w:World)(hrow:zkP w Any A ks)(hl:4<=ks.length) :
  Calls prog 93 #[nv 53 n s A ks.length c] w (NmE w (if conB ks[0]then 10 else 0)):=by
 have hrow':=hrow.later (zkb zr (.cells #[.int .u8 53,.int .i64 n,.string s,.slice A ks.length c] 28));obtain⟨a,t0,A1,c1,rfl,gH,h4,hn0⟩:=row0 hrow' (by omega);rw[gH.out];obtain⟨R,hR⟩:∃R:Int,(if conB t0=true then 10 else 0)=R:=⟨_,rfl⟩
 rw[hR];obtain⟨b0,hb0⟩:=zX (conB t0);have H0:=zh (show ∀v w,NV w Any t0 v->Calls prog 124 #[v] w fun e w'=>e=.returned (.bool b0)/\Below w.heap.size w w' from fun v w h=>hb0▸zmB t0 v w h);rw[hb0]at hR;have HR:=zh hR;obtain⟨L,hL⟩:=zX (ks.length);have hfl:(0:Int)<(L:Int):=by omega
 have gG:0<L:=by omega
 have hbx:=box4 (heap_alloc_new w (.cells #[.int .u8 53,.int .i64 n,.string s,.slice (some a) ks.length c] 28));clear gH hrow hrow' hR hb0;rw[hL]at h4 hn0 hl hbx ⊢;obtain⟨W0,hW0⟩:=zX (w.alloc (.cells #[.int .u8 53,.int .i64 n,.string s,.slice (some a) L c] 28));have q0:Below w.heap.size w W0:=hW0▸zkb zr _;rw[hW0]at h4 hn0 hbx;have fF:=zh hn0;obtain⟨a0,a1,a2,a3⟩:=h4;obtain⟨x0,x1,x2,x3⟩:=hbx;clear hn0 hL hl;go_enter func93,ntmps93;go_wp2_with fail;refine(H0.out _ _ fF.out).mono ?_;rintro e w1 ⟨rfl,aa⟩;have q1:=zka q0 aa;clear aa a0 a1 a2 a3 x0 x1 x2 x3
 cases b0
 ·go_wp2_with fail;go_ret2;exact⟨_,by rw[<-HR.out];rfl,q1⟩
 ·go_wp2_with fail;go_ret2;exact⟨_,by rw[<-HR.out];rfl,q1⟩
theorem zq9(k n:Int)(s:ByteArray)(ks:List T)(A:Option Addr)(c:Nat)(w:World)(hk:k=50\/k=51)(hrow:zkP w Any A ks)(hlk:ks.length<=LK)(hlc:ks.length<=c) :
  Calls prog 93 #[nv k n s A ks.length c] w (NmE w (if dupB ks then 8 else 0)):=by
 have hl':=zkx hlk;obtain⟨R,hR⟩:∃R:Int,(if dupB ks=true then 8 else 0)=R:=⟨_,rfl⟩
 rw[hR];have HR:=zh hR;have ae:=zh hrow;have zk:=zh hlk;clear hR hrow hlk;rcases hk with rfl|rfl
 ·go_enter func93,ntmps93;go_wp2_with fail
  go_loopw [100] (fun i wr=>∃j:Nat,j<=ks.length/\i=.int .i64 j/\Below w.heap.size w wr/\wr.heap[w.heap.size]?=some (.cells #[.int .u8 50,.int .i64 n,.string s,.slice A ks.length c] 28 (0,0))/\Hid (∀q (hq:q<ks.length),q<j->hasN (ks.take q) ks[q].s=false)) (fun i _=>ks.length-(intOf i).toNat)
  case atStart=>exact⟨0,Nat.zero_le _,rfl,zkb zr _,heap_alloc_new w _,zh fun q _ h=>by omega⟩
  case round =>
   obtain⟨j,hj,rfl,hbl,hbx,HJ⟩:=hrel;have aS:=zh hbx;have af:=zh hbl;by_cases hlt:j<ks.length
   ·obtain⟨a,t,A1,c1,rfl,_,Ht,⟨q0,q1,q2,q3⟩,-⟩:=(ae.out.later hbl).nd hlt;obtain⟨m0,m1,m2,m3⟩:=box4 hbx;have Aj:=fun o=>zkj m3 o;obtain⟨b,hb⟩:=zX (hasN (ks.take j) t.s);have htl:(ks.take j).length=j:=by simp;omega
    have yu:=zh (show ∀(c:Nat) (nb:Nat) (w:World),zkP w Any (some a) (ks.take j)->w.cell? ⟨nb,2,none⟩=some (.string t.s)->Calls prog 122 #[.slice (some a) j c,.func (.func 123) #[] #[.pointer (some ⟨nb,0,none⟩)]] w fun e w'=>e=.returned (.bool b)/\Below w.heap.size w w' from fun c nb w h h'=>by
     have:=znl (ks.take j) (some a) c t.s nb w h (by have:=zk.out;omega) h';rwa[htl,hb]at this)
    have HB:=zh hb;have Ce:=zh (show zkP (wr.alloc (.cells #[.int .u8 t.k,.int .i64 t.n,.string t.s,.slice A1 t.ks.length c1] 28)) Any (some a) (ks.take j)from fun i hi=>by
     have hi':i<ks.length:=by simp at hi;omega
     have:=(ae.out.later (zkb hbl (.cells #[.int .u8 t.k,.int .i64 t.n,.string t.s,.slice A1 t.ks.length c1] 28))) i hi';simpa using this)
    have hjc:j<=c:=by omega
    have hjc':(j:Int)<=(c:Int):=by omega
    clear hb htl hbx hbl;go_wp2_with fail;refine(yu.out _ _ _ Ce.out (by simp)).mono ?_;rintro e w1 ⟨rfl,aa⟩;have HB1:=zh (zka (zkb af.out _) aa);have jJ:=zh (zkc (zkd aS.out _) aa);have hy2:w1.cell? ⟨wr.heap.size,2,none⟩=some (.string t.s):=zb aa (by simp);clear aa q0 q1 q2 q3 m0 m1 m2 m3 Aj
    cases b
    ·have HJ2:Hid (∀q (hq:q<ks.length),q<j+1->hasN (ks.take q) ks[q].s=false):=zh fun q hq hqj=>by
      by_cases e:q<j
      ·exact HJ.out q hq e
      ·obtain rfl:q=j:=by omega
       rw[Ht.out];exact HB.out
     go_wp2_with fail
     go_roundw
     case rel=>exact⟨j+1,by omega,by go_num,HB1.out,jJ.out,HJ2⟩
     case measure=>simp[intOf];omega
    ·have hRR:R=8:=by rw[<-HR.out,if_pos (zsf hlt (by rw[Ht.out];exact HB.out))]
     have HRR:=zh hRR;clear hRR;go_wp2_with fail;go_ret2;exact⟨_,by rw[HRR.out];rfl,HB1.out⟩
   ·have hRR:R=0:=by rw[<-HR.out,zuO fun q hq=>HJ.out q hq (by omega)];rfl
    have HRR:=zh hRR;clear hRR hbl hbx;go_wp2_with fail;go_ret2;exact⟨_,by rw[HRR.out];rfl,af.out⟩
 ·go_enter func93,ntmps93;go_wp2_with fail
  go_loopw [100] (fun i wr=>∃j:Nat,j<=ks.length/\i=.int .i64 j/\Below w.heap.size w wr/\wr.heap[w.heap.size]?=some (.cells #[.int .u8 51,.int .i64 n,.string s,.slice A ks.length c] 28 (0,0))/\Hid (∀q (hq:q<ks.length),q<j->hasN (ks.take q) ks[q].s=false)) (fun i _=>ks.length-(intOf i).toNat)
  case atStart=>exact⟨0,Nat.zero_le _,rfl,zkb zr _,heap_alloc_new w _,zh fun q _ h=>by omega⟩
  case round =>
   obtain⟨j,hj,rfl,hbl,hbx,HJ⟩:=hrel;have aS:=zh hbx;have af:=zh hbl;by_cases hlt:j<ks.length
   ·obtain⟨a,t,A1,c1,rfl,_,Ht,⟨q0,q1,q2,q3⟩,-⟩:=(ae.out.later hbl).nd hlt;obtain⟨m0,m1,m2,m3⟩:=box4 hbx;have Aj:=fun o=>zkj m3 o;obtain⟨b,hb⟩:=zX (hasN (ks.take j) t.s);have htl:(ks.take j).length=j:=by simp;omega
    have yu:=zh (show ∀(c:Nat) (nb:Nat) (w:World),zkP w Any (some a) (ks.take j)->w.cell? ⟨nb,2,none⟩=some (.string t.s)->Calls prog 122 #[.slice (some a) j c,.func (.func 123) #[] #[.pointer (some ⟨nb,0,none⟩)]] w fun e w'=>e=.returned (.bool b)/\Below w.heap.size w w' from fun c nb w h h'=>by
     have:=znl (ks.take j) (some a) c t.s nb w h (by have:=zk.out;omega) h';rwa[htl,hb]at this)
    have HB:=zh hb;have Ce:=zh (show zkP (wr.alloc (.cells #[.int .u8 t.k,.int .i64 t.n,.string t.s,.slice A1 t.ks.length c1] 28)) Any (some a) (ks.take j)from fun i hi=>by
     have hi':i<ks.length:=by simp at hi;omega
     have:=(ae.out.later (zkb hbl (.cells #[.int .u8 t.k,.int .i64 t.n,.string t.s,.slice A1 t.ks.length c1] 28))) i hi';simpa using this)
    have hjc:j<=c:=by omega
    have hjc':(j:Int)<=(c:Int):=by omega
    clear hb htl hbx hbl;go_wp2_with fail;refine(yu.out _ _ _ Ce.out (by simp)).mono ?_;rintro e w1 ⟨rfl,aa⟩;have HB1:=zh (zka (zkb af.out _) aa);have jJ:=zh (zkc (zkd aS.out _) aa);have hy2:w1.cell? ⟨wr.heap.size,2,none⟩=some (.string t.s):=zb aa (by simp);clear aa q0 q1 q2 q3 m0 m1 m2 m3 Aj
    cases b
    ·have HJ2:Hid (∀q (hq:q<ks.length),q<j+1->hasN (ks.take q) ks[q].s=false):=zh fun q hq hqj=>by
      by_cases e:q<j
      ·exact HJ.out q hq e
      ·obtain rfl:q=j:=by omega
       rw[Ht.out];exact HB.out
     go_wp2_with fail
     go_roundw
     case rel=>exact⟨j+1,by omega,by go_num,HB1.out,jJ.out,HJ2⟩
     case measure=>simp[intOf];omega
    ·have hRR:R=8:=by rw[<-HR.out,if_pos (zsf hlt (by rw[Ht.out];exact HB.out))]
     have HRR:=zh hRR;clear hRR;go_wp2_with fail;go_ret2;exact⟨_,by rw[HRR.out];rfl,HB1.out⟩
   ·have hRR:R=0:=by rw[<-HR.out,zuO fun q hq=>HJ.out q hq (by omega)];rfl
    have HRR:=zh hRR;clear hRR hbl hbx;go_wp2_with fail;go_ret2;exact⟨_,by rw[HRR.out];rfl,af.out⟩
attribute [local go_sem] Oper.semAt_some
theorem zmm{F:Fence}{n:Nat}{P:Program}(w:World){ops:Array Oper}{rest:List Oper}{o:Oper}{a:Act}{Q:Exit->Act->World->Prop}
  (hg:o.guard=none)(s x:Operand)(t:TypeId)(hop:o.op=Op.call { callee:=Callee.builtin Builtin.append,args := #[s,x],argTypes := #[t,t] })
  (base:Nat)(e:TypeId)(i:TypeInfo)(z:Value)(size bytes:Nat)(h1:P.underlying t=some (.slice e))(h2:P.info? e=some i)(h3:i.zero=some z)(h4:i.size=size)(h5:i.bytes=bytes)(h6:z.cells.size=size)(h7:0<size)
  (v:Value)(k:Nat)(xs:List Value)(hs:a.eval s=v)(hown:w.ownsRow base e size v k xs)(ad:Addr)(m c:Nat)(news:List Value)(hx:a.eval x=.slice (some ad) m c)(hn:news.length=m*size)
  (hc:∀j u,news[j]?=some u->w.cell? (ad.add j)=some u)(h1c:∀u∈news,u.oneCell'=true)(b1:k+m<=maxLen)(b2:(k+m)*bytes<=140737488355328)(b3:base<=w.heap.size)
  (hK:∀v' w',w'.ownsRow base e size v' (k+m) (xs++news)->w.grownBy w' v.ownBlock->(v'.ownBlock=v.ownBlock\/v'.ownBlock=some w.heap.size)->wpListIn F n P ops Q rest (a.put o.dst v') w') :
  wpListIn F n P ops Q (o::rest) a w:=by
 refine wpListIn_plain hg fun K hK'=>?_;obtain⟨v',w',hrun,r1,r2,_,r4⟩:=run_append_own_at (P:=P) w base t o.type e i z size bytes h1 h2 h3 h4 h5 h6 h7 v k xs hown ad m c news hn hc h1c b1 b2 b3;unfold Oper.wpIn;refine⟨?_,?_⟩
 ·simp[Oper.about,hop,resolve,Target.leads,Sem.run_pure]
 ·rw[Oper.semAt_plain F _ _ (by rw[hop];intro c hc';cases hc')];simp[execOp,hop,resolve,invoke,builtin,hs,hx,hrun,Result.andThen];exact hK' _ _ (hK v' w' r1 r2 r4)
end
section
open Go Go.RowKit
theorem zx8(k n:Int)(s:ByteArray)(ks:List T):rejE (.nd k n s ks)=(if k=56 then 9
 else if k=40\/k=41\/k=42 then if idxB (kidC (.nd k n s ks) 0) (kidC (.nd k n s ks) 0).s||menB (kidC (.nd k n s ks) 1) (kidC (.nd k n s ks) 0).s then 8 else 0
 else if k=43 then if aliB ks [(kidC (.nd k n s ks) 0).s,(kidC (.nd k n s ks) 1).s]then 8 else 0
 else if k=44\/k=45 then if aliB ks [(kidC (.nd k n s ks) 0).s,s]then 8 else 0
 else if 46<=k/\k<=49 then if aliB ks [(kidC (.nd k n s ks) 0).s]then 8 else 0
 else if k=50\/k=51 then if dupB ks then 8 else 0
 else if k=52 then if conB (kidC (.nd k n s ks) 3) && !conB (kidC (.nd k n s ks) 0)then 10 else 0
 else if k=53 then if conB (kidC (.nd k n s ks) 0)then 10 else 0
 else 0):=rfl
theorem zsC(t:T)(v:Value)(w:World)(hv:NV w Any t v)(h:zvf t):Calls prog 93 #[v] w (NmE w (rejE t)):=by
 obtain⟨A,c,rfl,hf,hlk,hlc,hrow⟩:=hv.open_;have hd:∀x∈t.ks,dep x<=1000:=fun x hx=>by
  have h1:=zpm hx;have h2:=h.d
  cases t with
  | nd k n s ks=>simp only[dep,T.ks_nd]at *;omega
 obtain⟨hdd,h2,h1,h4,hp⟩:=h;obtain⟨k,n,s,ks⟩:=t;simp only[T.k_nd,T.n_nd,T.s_nd,T.ks_nd]at *
 rw[zx8];by_cases e1:k=56
 ·subst e1;rw[if_pos rfl];exact zsB n s ks A c w hrow (h2 (by omega))
 rw[if_neg e1];by_cases e2:k=40\/k=41\/k=42
 ·rw[if_pos e2];have hl:=h2 (by omega);rw[zlN (t:=.nd k n s ks) (i:=0) (by simp;omega),zlN (t:=.nd k n s ks) (i:=1) (by simp;omega)];exact zsA k n s ks A c w e2 hrow hl hd (hp (by omega))
 rw[if_neg e2];by_cases e3:k=43
 ·subst e3;rw[if_pos rfl];have hl:=h2 (by omega);rw[zlN (t:=.nd 43 n s ks) (i:=0) (by simp;omega),zlN (t:=.nd 43 n s ks) (i:=1) (by simp;omega)];exact zq6 n s ks A c w hrow hl hlk hd (hp (by omega))
 rw[if_neg e3];by_cases e4:k=44\/k=45
 ·rw[if_pos e4];have hl:=h1 (by omega);rw[zlN (t:=.nd k n s ks) (i:=0) (by simp;omega)];exact ztG k n s ks A c w e4 hrow hl hlk hd (hp (by omega))
 rw[if_neg e4];by_cases e5:46<=k/\k<=49
 ·rw[if_pos e5];have hl:=h1 (by omega);rw[zlN (t:=.nd k n s ks) (i:=0) (by simp;omega)];exact ztF k n s ks A c w (by omega) hrow hl hlk hd (hp (by omega))
 rw[if_neg e5];by_cases e6:k=50\/k=51
 ·rw[if_pos e6];exact zq9 k n s ks A c w e6 hrow hlk hlc
 rw[if_neg e6];by_cases e7:k=52
 ·subst e7;rw[if_pos rfl];have hl:=h4 (by omega);rw[zlN (t:=.nd 52 n s ks) (i:=0) (by simp;omega),zlN (t:=.nd 52 n s ks) (i:=3) (by simp;omega)];exact ztH n s ks A c w hrow hl
 rw[if_neg e7];by_cases e8:k=53
 ·subst e8;rw[if_pos rfl];have hl:=h4 (by omega);rw[zlN (t:=.nd 53 n s ks) (i:=0) (by simp;omega)];exact zq8 n s ks A c w hrow hl
 rw[if_neg e8];exact zq7 k n s A ks.length c w (by omega) e1
def zs4(t:T):Prop:=isE t=true\/isS t=true\/isB t=true
theorem zuj{t:T}(h:isP t=true):t.k=3->1<=t.ks.length:=by
 intro h3;have hE:=zul h;obtain⟨k,n,s,ks⟩:=t;simp only[T.k_nd,T.ks_nd]at *
 subst h3;rw[isE]at hE;simp at hE;omega
theorem zqr{k n:Int}{s:ByteArray}{ks:List T}(h:isS (.nd k n s ks)=true) :
  (k=40\/k=41\/k=42\/k=43\/k=56->2<=ks.length)/\(44<=k/\k<=49->1<=ks.length)/\(k=52\/k=53->4<=ks.length)/\40<=k/\k<=56:=by
 rw[isS]at h
 repeat' split at h
 all_goals first
  | cases h
  | (simp only[zkC,Bool.and_eq_true,decide_eq_true_eq]at h;omega)
theorem zo3{k n:Int}{s:ByteArray}{ks:List T}(h:zs4 (.nd k n s ks)):∀t∈ks,zs4 t:=by
 intro t ht;rcases h with h|h|h
 ·exact .inl (zpK h t ht)
 ·rcases(zui h).2 t ht with h|h
  ·exact .inl h
  ·exact .inr (.inr h)
 ·exact .inr (.inl (((zun _ _ _ _).1 h).2.2 t ht))
theorem zwf(t:T):zs4 t->∀x∈po t,zs4 x/\dep x<=dep t:=by
 induction t using T.ind with
 | _ k n s ks ih =>
  intro h x hx;rw[po,List.mem_cons]at hx;rcases hx with rfl|hx
  ·exact⟨h,zl⟩
  ·obtain⟨t,ht,hx⟩:=zmU.1 hx;obtain⟨h1,h2⟩:=ih t ht (zo3 h t ht) x hx;have:=zpm ht;exact⟨h1,by simp only[dep];omega⟩
theorem zwt{t:T}(h:isE t=true):t.k=3->1<=t.ks.length:=fun h3=>zuj (t:=t) (by simp[isP,h3,h]) h3
theorem zv5{t:T}(h:zs4 t)(hd:dep t<=1000):zvf t:=by
 obtain⟨k,n,s,ks⟩:=t;have hpl:∀x∈ks,40<=k/\k<=49->x.k=3->1<=x.ks.length:=fun x hx hk h3=>by
  rcases zo3 h x hx with h'|h'|h'
  ·exact zwt h' h3
  ·obtain⟨k',n',s',ks'⟩:=x;have:=(zqr h').2.2.2;simp only[T.k_nd]at h3;omega
  ·have:=zyo h';omega
 rcases h with h'|h'|h'
 ·have:=zqs h';exact⟨hd,fun h=>by simp at h;omega,fun h=>by simp at h;omega,fun h=>by simp at h;omega,fun h x hx=>hpl x hx h⟩
 ·have:=zqr h';exact⟨hd,this.1,this.2.1,this.2.2.1,fun h x hx=>hpl x hx h⟩
 ·have:=zyo h';simp only[T.k_nd]at this;exact⟨hd,fun h=>by simp at h;omega,fun h=>by simp at h;omega,fun h=>by simp at h;omega,fun h x hx=>hpl x hx h⟩
theorem zv4{t:T}(h:zs4 t)(hd:dep t<=1000):∀x∈po t,zvf x:=fun x hx =>
 have ⟨h1,h2⟩:=zwf t h x hx
 zv5 h1 (by omega)
attribute [local go_sem] Oper.semAt_some
theorem ztJ:(prog.info? 73).map (fun i=>(i.zero,i.size,i.bytes))=some (some (.agg #[.int .i64 0,.slice none 0 0,.int .i64 0,.string ⟨#[]⟩]),4,56):=by kernel_rfl
theorem zyS(p:Int)(A:Option Addr)(l c:Nat)(e:Int)(s:ByteArray)(w:World):(Instr.build 73 #[(0,.int .i64 p),(1,.slice A l c),(2,.int .i64 e),(3,.string s)]).run prog w=.ok (.agg #[.int .i64 p,.slice A l c,.int .i64 e,.string s]) w:=by kernel_rfl
theorem zwZ(a0 a1 a2 a3:Value)(w:World):(Instr.buildSlice 70 1 #[(0,.agg #[a0,a1,a2,a3])]).run prog w=.ok (.slice (some ⟨w.heap.size,0,none⟩) 1 1) (w.alloc (.cells #[a0,a1,a2,a3] 73)):=by kernel_rfl
def rejN(l:List T):Nat:=(l.filter fun x=>rejE x != 0).length
def rejL(l:List T):List Int:=(l.map rejE).filter fun e=>e != 0
theorem zqg(l:List T)(x:T):rejL (l++[x])=rejL l++(if rejE x=0 then []else [rejE x]):=by
 unfold rejL;rw[List.map_append,List.filter_append];by_cases h:rejE x=0
 ·simp[h]
 ·simp[h]
theorem zrW(l:List T):(rejL l).length=rejN l:=by
 unfold rejL rejN;rw[List.filter_map,List.length_map];rfl
def er4:List Value->List Value
 | _::_::c::_::r=>c::er4 r
 | _=>[]
theorem zuI:∀(n:Nat) (xs ys:List Value),xs.length=n*4->er4 (xs++ys)=er4 xs++er4 ys
 | 0,xs,ys,h=>by
  rw[List.eq_nil_of_length_eq_zero (by omega:xs.length=0)];rfl
 | n+1,xs,ys,h=>by
  match xs,h with
  | a::b::c::d::r,h =>
   have:=zuI n r ys (by simp only[List.length_cons]at h;omega);simp only[List.cons_append,er4,this]
  | [],h=>simp at h
  | [_],h=>simp at h;omega
  | [_,_],h=>simp at h;omega
  | [_,_,_],h=>simp at h;omega
def RjO(es:List Int)(xs:List Value):Prop:=(∀u∈xs,u.oneCell'=true)/\er4 xs=es.map (Value.int .i64)
theorem RjO.app{es fs:List Int}{xs ys:List Value}{n:Nat}(h:RjO es xs)(hl:xs.length=n*4)(k:RjO fs ys):RjO (es++fs) (xs++ys) :=
 ⟨fun u hu=>(List.mem_append.1 hu).elim (h.1 u) (k.1 u),by rw[zuI n xs ys hl,h.2,k.2,List.map_append]⟩
theorem RjO.nil:RjO [] []:=⟨fun u hu=>(by cases hu),rfl⟩
structure RjS(W:World)(n0 fb N:Nat)(es:List Int)(pv:Value):Prop where
 box:W.heap[fb]?=some (.cells #[pv] 70 (0,0))
 row:∃xs,W.ownsRow n0 73 4 pv N xs/\RjO es xs
 ge:n0<=fb
 ne:pv.ownBlock≠some fb
section
variable {W W':World} {n0 fb N N':Nat} {es es':List Int} {pv pv':Value}
theorem RjS.lt(h:RjS W n0 fb N es pv):fb<W.heap.size/\∀b,pv.ownBlock=some b->n0<=b/\b<W.heap.size:=⟨zkf h.box,let ⟨_,hr,_⟩:=h.row;hr.lt⟩
theorem RjS.chg{C:Nat->Prop}(h:RjS W n0 fb N es pv)(hc:Chg C W W')(hC:∀b,b=fb\/pv.ownBlock=some b->¬ C b):RjS W' n0 fb N es pv:=by
 refine⟨hc.keep h.box (hC _ (.inl rfl)),?_,h.ge,h.ne⟩;obtain⟨xs,⟨e1,h2⟩,h9⟩:=h.row;refine⟨xs,⟨e1,?_⟩,h9⟩;rcases h2 with h2|⟨g,cap,cur,rfl,hb,hg,h3⟩
 ·exact .inl h2
 ·exact .inr ⟨g,cap,cur,rfl,hb,hc.keep hg (hC _ (.inr rfl)),h3⟩
theorem RjS.later(h:RjS W n0 fb N es pv)(hb:Below W.heap.size W W'):RjS W' n0 fb N es pv:=h.chg (C:=fun _=>False) (Chg.of_below hb) (fun _ _ h=>h)
theorem RjS.put(h:RjS W n0 fb N es pv)(ho:∃xs,W'.ownsRow n0 73 4 pv' N' xs/\RjO es' xs)(hg:W.grownBy W' pv.ownBlock)(aY:∀b,pv'.ownBlock=some b->pv.ownBlock=some b\/W.heap.size<=b) :
  RjS (W'.setCell ⟨fb,0,none⟩ pv') n0 fb N' es' pv':=by
 have hp':W'.heap[fb]?=some (.cells #[pv] 70 (0,0)):=(hg.block _ (zkf h.box) (fun e=>h.ne e.symm)).trans h.box;have kL:pv'.ownBlock≠some fb:=fun e=>by
  rcases aY _ e with e|e
  ·exact h.ne e
  ·have:=zkf h.box;omega
 refine⟨by have:=heap_setCell_same W' fb 0 _ _ pv' hp';simpa using this,?_,h.ge,kL⟩;obtain⟨xs,⟨e1,h2⟩,h9⟩:=ho;refine⟨xs,⟨e1,?_⟩,h9⟩;rcases h2 with h2|⟨g,cap,cur,rfl,hb,hg',h3⟩
 ·exact .inl h2
 ·refine .inr ⟨g,cap,cur,rfl,hb,?_,h3⟩;rw[Below.heap_setCell _ _ _ _ (fun e=>kL (by subst e;rfl))];exact hg'
theorem RjS.slice(h:RjS W n0 fb N es pv):∃A c,pv=.slice A N c:=by
 obtain⟨xs,⟨e1,h2⟩,_⟩:=h.row;rcases h2 with⟨rfl,rfl⟩|⟨g,cap,cur,rfl,_⟩
 ·exact⟨_,_,rfl⟩
 ·exact⟨_,_,rfl⟩
end
theorem zqf(l:List T)(x:T):rejN (l++[x])=rejN l+one1 (rejE x):=by
 unfold rejN one1;rw[List.filter_append,List.length_append];by_cases h:rejE x=0
 ·simp[h]
 ·simp[h]
theorem zpy(l:List T):rejN l<=l.length:=List.length_filter_le _ _
def ChkI(p:Int)(N:Nat)(pre:List T)(C:Nat->Prop)(W:World):Prop :=
 ∃pv,(∀b,C b↔b=N\/b=N+1+1\/pv.ownBlock=some b)/\W.heap[N]?=some (.cells #[.int .i64 p] 3 (0,0))/\RjS W (N+1+1) (N+1+1) (rejN pre) (rejL pre) pv
theorem zpo(t:T)(p:Int)(v:Value)(w:World)(hv:NV w Any t v)(hd:dep t<=1000)(hsz:(po t).length<=100000)(hok:∀x∈po t,zvf x):Calls prog 61 #[.int .i64 p,v] w fun e w'=>∃pv xs,e=.returned pv/\w'.ownsRow w.heap.size 73 4 pv (rejN (po t)) xs/\RjO (rejL (po t)) xs/\Below w.heap.size w w':=by
 have HV:=zh hv;obtain⟨A,c,rfl,-⟩:=hv.open_;clear hv;have HD:=zh hd;have fB:=zh hok;have nD:=zh hsz;clear hok hd hsz;generalize t.k=k,t.n=n,t.s=s,t.ks.length=m at *
 refine(callsIn_wide (n:=3)).1 (callsIn_of_wp_marks func61 rfl trivial ((wpIn_wide (n:=3)).2 ?_));simp only[ntmps61,List.size_toArray,List.length_cons,List.length_nil,Nat.reduceAdd,Nat.reduceSub,Array.replicate_succ,Array.replicate_zero,List.push_toArray,List.append_toArray,List.nil_append,List.cons_append];go_wp2_with fail;refine(zsn t _ _ (HV.out.later (zkb (zkb (zkb zr _) _) _))).mono ?_;rintro e x6 ⟨gr,k6,n6,s6,A6,m6,c6,rfl,hgr,hgb,iB,qf⟩;have q6:=zka (zkb (zkb (zkb (zs w) _) _) _) qf;have kg:=zkc (zkd (zkd (heap_alloc_new w (.cells #[.int .i64 p] 3)) (.cells #[.int .u8 k,.int .i64 n,.string s,.slice A m c] 28)) (.cells #[.slice none 0 0] 70)) qf;have BH:=zkc (heap_alloc_new ((w.alloc (.cells #[.int .i64 p] 3)).alloc (.cells #[.int .u8 k,.int .i64 n,.string s,.slice A m c] 28)) (.cells #[.slice none 0 0] 70)) qf
 simp only[World.size_alloc]at kg BH hgr;have ve:=zh hgb;have iM:=zh iB;have qi:=zh q6;have uL:=zh kg;have HLB:=zh BH;have oM:=zh hgr;clear qf hgb iB q6 kg BH hgr;go_wp2_with fail;refine(wpIn_wide (n:=3)).1 ?_;refine zo2 (n:=3) (gf:=117) (lb := #[.pointer (some ⟨gr,0,none⟩)]) rfl (zkG zus) (zoI (3-1) gr t x6 _ k6 n6 s6 A6 m6 c6 ve.out iM.out HD.out) rfl
  (ChkI p w.heap.size) (fun _ _ _=>False) (fun b=>b=w.heap.size\/b=w.heap.size+1+1)
  (fun pre C W W' ⟨pv,h1,h2,h3⟩ hc=>⟨pv,h1,hc.keep h2 (fun h=>h ((h1 _).2 (.inl rfl))),h3.chg hc (fun b hb h=>h ((h1 _).2 (.inr hb)))⟩)
  (fun _ _ _ _ h _=>h)
  (fun pre C W ⟨pv,h1,h2,h3⟩ b hb=>by rcases(h1 b).1 hb with rfl|rfl|h;exact zkf h2;exact h3.lt.1;exact(h3.lt.2 b h).2)
  (fun _ _ _ h=>h.elim)
  (fun b hb hr=>by have:=oM.out;rcases hr with hr|hr<;>rcases hb with hb|hb<;>first|omega|(have:=hr.1;simp at this;omega)) ?_
  ⟨.slice none 0 0,fun b=>by simp[Value.ownBlock],uL.out,⟨HLB.out,⟨[],World.ownsRow_nil _ _ _ _,RjO.nil⟩,zl,by simp[Value.ownBlock]⟩⟩ ?_ ?_ ?_
 ·rintro b (rfl|hb)
  ·exact zkf ve.out
  ·exact hb.2
 ·rintro l pre x C W pv' v ⟨pv,hC,hpb,hrs⟩ jE hl xg hpre ⟨Ap,mp,cp,rfl⟩ hnx;have hxm:x∈po t:=by
   obtain⟨ys,hys⟩:=hpre;rw[<-hys];simp
  have HRJ:=zh (fB.out x hxm);have xZ:=zh (show rejN pre<=100000 from by
   have h1:=zpy pre;have h2:=nD.out;have h3:=hpre.length_le;simp at h3;omega)
  have HNX:=zh hnx;obtain⟨Ax,cx,rfl,-⟩:=hnx.open_;change Code.wpIn (Fence.wide.inRound l) (3-1-1) prog _ _ _ _
  gi_wp2
  refine⟨(Chg.refl _ _).alloc _,fun W2 hW2=>?_⟩;have hwl:=zkf hpb;have hbx:=hW2.keep (heap_alloc_new W (.cells #[.int .u8 x.k,.int .i64 x.n,.string x.s,.slice Ax x.ks.length cx] 28)) (show ¬ W.heap.size=l by omega);have hpb2:=hW2.keep (zkd hpb (.cells #[.int .u8 x.k,.int .i64 x.n,.string x.s,.slice Ax x.ks.length cx] 28)) (fun h=>jE ((hC _).2 (.inl h.symm)));have jl:=(hrs.later (zkb zr (.cells #[.int .u8 x.k,.int .i64 x.n,.string x.s,.slice Ax x.ks.length cx] 28))).chg hW2 (fun b hb h=>jE ((hC _).2 (.inr (by rcases hb with rfl|hb;exact .inl h.symm;exact .inr (h▸hb)))));have hnx2:NV W2 Any x (nv x.k x.n x.s Ax x.ks.length cx):=HNX.out.keep (fun _ _ _=>trivial) fun b hb hlt=>by
   rw[hW2.block b (by simp;omega) (show ¬ b=l by omega)];exact Below.heap_alloc W _ b hlt
  obtain⟨m0,m1,m2,m3⟩:=box4 hbx;have aJ:=zh hC;have HPB2:=zh hpb2;have HRS2:=zh jl;have HNX2:=zh hnx2;have lY:=zh xg;clear hW2 hbx hpre hC hpb2 hrs jl hnx hnx2 hxm hpb;change Code.wpIn (Fence.wide.inRound l) (3-1-1) prog _ _ _ _;obtain⟨er,her⟩:=zX (rejE x);have HRJC:=zh (her▸zsC x _ _ HNX2.out HRJ.out);have wP:=zh her;clear her
  gi_wp2
  refine⟨trivial,CallsIn.inRound l (callsIn_wide.2 ?_)⟩;refine HRJC.out.mono ?_;rintro e w3 ⟨s3,rfl,aN⟩;have uK:=zh (zkc HPB2.out aN);have fZ:=HRS2.out.later aN;have HB3:=zh aN;clear aN m0 m1 m2 m3;by_cases he0:er=0
  ·subst he0;have nI:=zh fZ;clear fZ
   gi_wp2
   refine⟨C,⟨pv,aJ.out,uK.out,?_⟩,fun b hb=>.inl hb,Chg.of_below HB3.out⟩;rw[zqf,zqg,wP.out,if_pos rfl,List.append_nil];exact nI.out
  ·have e1:(er==0)=false:=by simpa using he0
   have e2:(er != 0)=true:=by simpa using he0
   obtain⟨vL,ui,rfl⟩:=fZ.slice;have y0:w3.cell? ⟨w.heap.size,0,none⟩=some (.int .i64 p):=zc uK.out rfl;have y1:w3.cell? ⟨w.heap.size+1+1,0,none⟩=some (.slice vL (rejN pre) ui):=zc fZ.box rfl;obtain⟨xs,hown,h1c⟩:=fZ.row;have hl3:=fZ.lt;have hge:=fZ.ge;have nI:=zh fZ;have hown':=hown.alloc (.cells #[.int .i64 p,.slice Ap mp cp,.int .i64 er,.string s3] 73);have hnl:=xZ.out;have fE:=zh (zkR w3 73 [.int .i64 p,.slice Ap mp cp,.int .i64 er,.string s3]);have hbb:=zyS;have hbs:=zwZ;obtain⟨i0,hi0,hz0,hz1,hz2⟩:=info_parts ztJ;clear fZ hown
   gi_wp2_with (gi_at_builtin;refine zmm (P:=prog) _ rfl (.tmp 21) (.tmp 27) 70 rfl (w.heap.size+1+1) 73 i0 _ 4 56 underlying70 hi0 hz0 hz1 hz2 rfl (by decide) (.slice vL (rejN pre) ui) (rejN pre) xs rfl hown' ⟨w3.heap.size,0,none⟩ 1 1 [.int .i64 p,.slice Ap mp cp,.int .i64 er,.string s3] rfl rfl fE.out (by intro u hu;simp at hu;rcases hu with rfl|rfl|rfl|rfl<;>rfl) (by unfold maxLen;omega) (by omega) (by simp;omega) ?_;intro v' w' h2 h3 h5;have hbx:=(h3.block _ (by simp;omega) (fun e=>nI.out.ne e.symm)).trans (zkd nI.out.box _);have z0:w'.cell? ⟨w.heap.size+1+1,0,none⟩=some (.slice vL (rejN pre) ui):=zc hbx rfl;have z1:w'.frozen? ⟨w.heap.size+1+1,0,none⟩=false:=zf hbx;clear hbx;obtain⟨g8,aA,rfl⟩:=ownsRow_succ h2)
   have aY:∀b,(Value.slice (some ⟨g8,0,none⟩) (rejN pre+1) aA).ownBlock=some b->(Value.slice vL (rejN pre) ui).ownBlock=some b\/w3.heap.size<=b:=fun b hb=>by
    rcases h5 with h5|h5
    ·exact .inl (h5▸hb)
    ·exact .inr (by rw[h5]at hb;injection hb with hb;simp at hb;omega)
   have hput:=nI.out.put (W':=w') (pv':=.slice (some ⟨g8,0,none⟩) (rejN pre+1) aA) (N':=rejN pre+1) (es':=rejL pre++[er]) ⟨_,h2,h1c.app hown'.1 ⟨fun u hu=>by simp at hu;rcases hu with rfl|rfl|rfl|rfl<;>rfl,rfl⟩⟩ ⟨h3.os,h3.tape,h3.output,Nat.le_trans (by simp) h3.size,fun b hb hne=>(h3.block b (by simp;omega) hne).trans (Below.heap_alloc w3 _ b hb)⟩ aY;have hch:Chg C W2 (w'.setCell ⟨w.heap.size+1+1,0,none⟩ (.slice (some ⟨g8,0,none⟩) (rejN pre+1) aA)) :=
    (((Chg.of_below HB3.out).alloc _).trans2 (Chg.row h3) (fun b _ h=>(aJ.out b).2 (.inr (.inr h)))).setCell (.inl ((aJ.out _).2 (.inr (.inl rfl)))) _
   have hpb4:(w'.setCell ⟨w.heap.size+1+1,0,none⟩ (.slice (some ⟨g8,0,none⟩) (rejN pre+1) aA)).heap[w.heap.size]?=some (.cells #[.int .i64 p] 3 (0,0)):=by
    rw[Below.heap_setCell _ _ _ _ (by simp;omega),h3.block _ (by simp;omega) (fun e=>by have:=(hl3.2 _ e.symm).1;omega)];exact zkd uK.out _
   refine⟨fun b=>b=w.heap.size\/b=w.heap.size+1+1\/(Value.slice (some ⟨g8,0,none⟩) (rejN pre+1) aA).ownBlock=some b,⟨_,fun _=>Iff.rfl,hpb4,?_⟩,fun b hb=>?_,hch⟩
   ·rw[zqf,zqg,wP.out,one1,if_neg he0,if_neg he0];exact hput
   ·rcases hb with hb|hb|hb
    ·exact .inl ((aJ.out _).2 (.inl hb))
    ·exact .inl ((aJ.out _).2 (.inr (.inl hb)))
    ·rcases aY b hb with h|h
     ·exact .inl ((aJ.out _).2 (.inr (.inr h)))
     ·exact .inr (Nat.le_trans HB3.out.size h)
 ·intro D C W' hD hC hch hK;obtain⟨pv,bA,hpb7,eX⟩:=hC;obtain⟨vL,ui,rfl⟩:=eX.slice;have r0:W'.cell? ⟨w.heap.size+1+1,0,none⟩=some (.slice vL (rejN (po t)) ui):=zc eX.box rfl;have wY:=qi.out.size;have hlR:=zkf HLB.out;have kG:=zh (show Below w.heap.size w W' from qi.out.trans (hch.below wY (fun b h=>by omega)));have HK:=zh hK;have eP:=zh eX;clear hch hK eX bA hpb7;go_wp2_with fail;refine⟨by simp,.inl ⟨_,_,rfl,run_takeDeferred HK.out,?_⟩⟩;have aT:=kG.out.trans ((Chg.putObj W' D (.deferred none)).below (B:=w.heap.size) kG.out.size (fun b hb=>by have:b=D:=hb;omega));obtain⟨xs,⟨e1,h2⟩,h9⟩:=eP.out.row;refine⟨.slice vL (rejN (po t)) ui,by simp[results,results61,go_sem],_,xs,rfl,⟨e1,?_⟩,h9,aT⟩;rcases h2 with h2|⟨g,cap,cur,h8,hb,hg,h3⟩
  ·exact .inl h2
  ·refine .inr ⟨g,cap,cur,h8,by omega,(World.putObj_heap_other (fun e=>?_)).trans hg,h3⟩;subst e;rw[HK.out]at hg
   cases hg
 ·intro D pre C W' hD hC;exact hC.elim
end
section
open Go Go.RowKit
def cntA(ps:List PR)(s:ByteArray)(l:Nat):Nat->List T->List VD->Nat
 | _,[],_=>0
 | i,t::ts,vs=>one1 (argE ps s l i t.s vs)+cntA ps s l (i+1) ts vs
mutual
/-- How many faults scope.visit reports. -/
def cntV(ps:List PR):T->List VD->Nat
 | .nd k _ s ks,vs=>one1 (zll ps k s ks.length vs)+(if k=50\/k=51 then cntA ps s ks.length 0 ks vs else cntK ps k s 0 ks vs)
def cntK(ps:List PR)(k:Int)(s:ByteArray):Nat->List T->List VD->Nat
 | _,[],_=>0
 | i,t::ts,vs=>cntV ps t (zmu k s i vs)+cntK ps k s (i+1) ts vs
end
theorem zoA(ps:List PR)(s:ByteArray)(l:Nat)(vs:List VD):∀(a b:List T) (i:Nat),cntA ps s l i (a++b) vs=cntA ps s l i a vs+cntA ps s l (i+a.length) b vs
 | [],b,i=>by simp[cntA]
 | t::ts,b,i=>by simp[cntA,zoA ps s l vs ts b (i+1),Nat.add_assoc,Nat.add_comm 1 ts.length]
theorem zoz(ps:List PR)(k:Int)(s:ByteArray)(vs:List VD):∀(a b:List T) (i:Nat),cntK ps k s i (a++b) vs=cntK ps k s i a vs+cntK ps k s (i+a.length) b vs
 | [],b,i=>by simp[cntK]
 | t::ts,b,i=>by simp[cntK,zoz ps k s vs ts b (i+1),Nat.add_assoc,Nat.add_comm 1 ts.length]
theorem zqF(ps:List PR)(s:ByteArray)(l:Nat)(vs:List VD){ks:List T}{j:Nat}(h:j<ks.length):cntA ps s l 0 (ks.take (j+1)) vs=cntA ps s l 0 (ks.take j) vs+one1 (argE ps s l j ks[j].s vs):=by
 rw[List.take_succ_eq_append_getElem h,zoA];have:(ks.take j).length=j:=by simp;omega
 simp[cntA,this]
theorem zuS(ps:List PR)(k:Int)(s:ByteArray)(vs:List VD){ks:List T}{j:Nat}(h:j<ks.length):cntK ps k s 0 (ks.take (j+1)) vs=cntK ps k s 0 (ks.take j) vs+cntV ps ks[j] (zmu k s j vs):=by
 rw[List.take_succ_eq_append_getElem h,zoz];have:(ks.take j).length=j:=by simp;omega
 simp[cntK,this]
theorem zmS(e:Int):one1 e<=1:=by unfold one1;split<;>omega
theorem zrQ(t:T):1<=size t:=by cases t;rw[size];omega
theorem zpS(ps:List PR)(s:ByteArray)(l:Nat)(vs:List VD):∀(ks:List T) (i:Nat),cntA ps s l i ks vs<=zkU ks
 | [],i=>by simp[cntA]
 | t::ts,i=>by
  have h1:=zpS ps s l vs ts (i+1);have h2:=zmS (argE ps s l i t.s vs);have h3:=zrQ t;simp only[cntA,zkU];omega
theorem zrq(ps:List PR)(k:Int)(s:ByteArray):∀(ks:List T),(∀t∈ks,∀vs,cntV ps t vs<=size t)->∀(i:Nat) (vs:List VD),cntK ps k s i ks vs<=zkU ks
 | [],_,i,vs=>by simp[cntK]
 | t::ts,h,i,vs=>by
  have h1:=zrq ps k s ts (fun u hu=>h u (by simp[hu])) (i+1) vs;have h2:=h t (by simp) (zmu k s i vs);simp only[cntK,zkU];omega
theorem zuR(ps:List PR)(t:T):∀vs,cntV ps t vs<=size t:=by
 induction t using T.ind with
 | _ k n s ks ih =>
 intro vs;rw[cntV,size];have h1:=zmS (zll ps k s ks.length vs);have h2:=zpS ps s ks.length vs ks 0;have h3:=zrq ps k s ks ih 0 vs
 split<;>omega
theorem zlD:∀(ks:List T) (j:Nat),zkU (ks.take j)<=zkU ks
 | [],j=>by simp[zkU]
 | t::ts,0=>by simp[zkU]
 | t::ts,j+1=>by have:=zlD ts j;simp only[List.take_succ_cons,zkU];omega
theorem zsN(k:Int)(s:ByteArray)(i:Nat)(vs:List VD):(zmu k s i vs).length<=vs.length+1:=by unfold zmu;split;simp;split<;>simp
theorem PV.keep{w w':World}{S S':Nat->Prop}{p:PG}{v:Value}(h:PV w S p v)(hS:∀b,S b->b<w.heap.size->S' b)(hk:∀b,S b->b<w.heap.size->w'.heap[b]?=w.heap[b]?):PV w' S' p v :=
 let ⟨A1,c1,A2,c2,A3,c3,e,h⟩:=h;⟨A1,c1,A2,c2,A3,c3,e,h.keep hS hk⟩
structure VsI(Rd:World->Prop)(n0 fb:Nat)(Wb:World)(pv:Value)(N:Nat)(wr:World)(pv':Value):Prop where
 rd:Rd wr
 fs:FS wr n0 fb N pv'
 own:∀b,pv'.ownBlock=some b->pv.ownBlock=some b\/Wb.heap.size<=b
 chg:Chg (fun b=>b=fb\/pv.ownBlock=some b) Wb wr
theorem VsI.step{f:FuncId}{cap:Array Value}{Rd:World->Prop}{n0 fb:Nat}{Wb wr w5 W6:World}{pv pv':Value}{N N':Nat}{e:Ending}(hr:RepC f cap Rd n0 fb)(h:VsI Rd n0 fb Wb pv N wr pv')(hb:Below wr.heap.size wr w5)(hp:RepP w5 n0 fb pv' N' e W6) :
  ∃jg,VsI Rd n0 fb Wb pv N' W6 jg:=by
 obtain⟨_,jg,hfs,aY,hc⟩:=hp;have sN:=h.fs.later hb;have hz:=h.chg.size;have qE:=hb.size;refine⟨jg,hr.keep w5 W6 pv' N (hr.keep wr w5 pv' N h.rd h.fs (Chg.of_below hb)) sN hc,hfs,fun b hb'=>?_,(h.chg.trans (Chg.of_below hb)).trans2 hc fun b hlt hh=>?_⟩
 ·rcases aY b hb' with h1|h1
  ·exact h.own b h1
  ·exact .inr (by omega)
 ·rcases hh with hh|hh
  ·exact .inl hh
  ·rcases h.own b hh with h1|h1
   ·exact .inr h1
   ·omega
theorem VsI.rep{Rd:World->Prop}{n0 fb:Nat}{W Wb w:World}{pw pv':Value}{N':Nat}{e:Ending}(h:VsI Rd n0 fb Wb pw N' w pv')(hb:Below W.heap.size W Wb)(he:∃v,e=.returned v):RepP W n0 fb pw N' e w :=
 ⟨he,pv',h.fs,fun b hh=>(h.own b hh).imp id fun h1=>by have:=hb.size;omega,(Chg.of_below hb).trans h.chg⟩
def IsW(x:Value)(w:World)(v:Value)(w':World):Prop:=v=x/\Below w.heap.size w w'
theorem znG{P:Program}{f:FuncId}{args:Array Value}{w:World}{x:Value}(h:Calls P f args w fun e w'=>e=.returned x/\Below w.heap.size w w'):Calls P f args w fun e w'=>∃v,e=.returned v/\IsW x w v w' :=
 h.mono fun _ _ ⟨he,hb⟩=>⟨_,he,rfl,hb⟩
def RepV(W:World)(n0 fb:Nat)(pv:Value)(N':Nat)(_:Value)(W':World):Prop:=RepP W n0 fb pv N' (.returned undef) W'
theorem zms{P:Program}{f:FuncId}{args:Array Value}{W:World}{n0 fb N':Nat}{pv:Value}(h:Calls P f args W (RepP W n0 fb pv N')):Calls P f args W fun e w'=>∃v,e=.returned v/\RepV W n0 fb pv N' v w' :=
 h.mono fun _ _ ⟨⟨v,he⟩,hp⟩=>⟨v,he,⟨_,rfl⟩,hp⟩
def zz9(w:World)(S:Nat->Prop)(vs:List VD)(v:Value)(w':World):Prop:=∃A' c',v=.slice A' vs.length c'/\RowV w' (fun b=>S b\/w.heap.size<=b) A' vs/\vs.length<=c'/\Below w.heap.size w w'
theorem zty{P:Program}{f:FuncId}{args:Array Value}{w:World}{S:Nat->Prop}{vs:List VD}(h:Calls P f args w (zxi w S vs)):Calls P f args w fun e w'=>∃v,e=.returned v/\zz9 w S vs v w' :=
 h.mono fun _ _ ⟨A,c,he,hn⟩=>⟨_,he,A,c,rfl,hn⟩
theorem zyx:IsFn prog 88 f88:=⟨func88,by kernel_rfl,by kernel_rfl⟩
theorem zpa:IsFn prog 90 f90:=⟨func90,by kernel_rfl,by kernel_rfl⟩
theorem zrl:IsFn prog 89 f89:=⟨func89,by kernel_rfl,by kernel_rfl⟩
theorem zyv:IsFn prog 91 f91:=⟨func91,by kernel_rfl,by kernel_rfl⟩
theorem zys:IsFn prog 58 f58:=⟨func58,by kernel_rfl,by kernel_rfl⟩
theorem zns(f:FuncId)(cap:Array Value)(Rd:World->Prop)(n0 fb:Nat)(hrep:RepC f cap Rd n0 fb)(p:PG)(t:T) :
  ∀(S:Nat->Prop) (vs:List VD) (A:Option Addr) (c:Nat) (q:List Int) (Aq:Option Addr) (cq N:Nat) (pw:Value) (W:World) (v1 v2:Value),Rd W->FS W n0 fb N pw->PV W S p v1->NV W S t v2->RowV W S A vs->vs.length<=c->RowI W S Aq q->q.length<=cq ->
   (∀b,S b->b<W.heap.size->¬ (b=fb\/pw.ownBlock=some b))->q.length+dep t<=50000->vs.length+dep t<=50000->N+size t<=1000000 ->
   Calls prog 58 #[v1,v2,.slice Aq q.length cq,.slice A vs.length c,.func (.func f) #[] cap] W (RepP W n0 fb pw (N+cntV p.prs t vs)):=by
 obtain⟨fn,hfn⟩:=hrep.fn;have bg:=zh hrep;clear hrep
 induction t using T.ind with
 | _ tk tn ts ks ih =>
 intro S vs A c q Aq cq N pw W v1 v2 hrd hfs hv1 hv2 hrow hlc iA hqc kM hdq hdv hN;have qz:=zh ih;have hvv:=hv1;obtain⟨A1,c1,A2,c2,A3,c3,rfl,-⟩:=hv1;obtain⟨L1,hL1⟩:=zX (p.vs.length);obtain⟨L2,hL2⟩:=zX (p.prs.length);obtain⟨k,hk⟩:=zX (p.m.k);obtain⟨n,hn⟩:=zX (p.m.n);obtain⟨s,hs⟩:=zX (p.m.s);obtain⟨l3,hl3⟩:=zX (p.m.ks.length);rw[hL1,hL2,hk,hn,hs,hl3];rw[hL1,hL2,hk,hn,hs,hl3]at hvv;have xS:=zh hvv;clear ih hvv hL1 hL2 hk hn hs hl3;have fF:=zh hv2;obtain⟨B,tc,rfl,_,hlk,_,gX⟩:=hv2.open_;simp only[T.k_nd,T.n_nd,T.s_nd,T.ks_nd]at *
 have au:=zkx hlk;rw[dep]at hdq hdv;rw[size]at hN;have hksz:ks.length<=1000000:=by
  have:∀l:List T,l.length<=zkU l:=fun l=>by
   induction l with
   | nil=>simp
   | cons t ts ih=>have:=zrQ t;simp only[List.length_cons,zkU];omega
  have:=this ks;omega
 have za:=zh gX;have ae:=zh hrow;have jc:=zh hlc;have qR:=zh iA;have Cf:=zh hqc;have oz:=zh hrd;have yt:=zh hfs;have HFAR:=zh kM;have hlv:vs.length<=LV:=by unfold LV;omega
 have uP:=zh hlv;have hfl:=hfs.lt;have ik:=zh hfl;obtain⟨CC,qJ⟩:=zX (cntV p.prs (.nd tk tn ts ks) vs);rw[qJ];have aJ:=zh qJ;obtain⟨E0,hE0⟩:=zX (zll p.prs tk ts ks.length vs);have vD:=zh hE0;have hE1:=zmS E0;clear gX hrow hlc iA hqc hrd hfs kM hlk hlv hv2 hfl qJ hE0;go_enter func58,ntmps58;go_upto_region 1 with fail;have hbw:Below W.heap.size W ((W.alloc (.cells #[.slice A1 L1 c1,.slice A2 L2 c2,.int .u8 k,.int .i64 n,.string s,.slice A3 l3 c3] 30)).alloc (.cells #[.int .u8 tk,.int .i64 tn,.string ts,.slice B ks.length tc] 28)):=zkb (zkb zr _) _;have pX:=zkd (heap_alloc_new W (.cells #[.slice A1 L1 c1,.slice A2 L2 c2,.int .u8 k,.int .i64 n,.string s,.slice A3 l3 c3] 30)) (.cells #[.int .u8 tk,.int .i64 tn,.string ts,.slice B ks.length tc] 28)
 have hbN:=heap_alloc_new (W.alloc (.cells #[.slice A1 L1 c1,.slice A2 L2 c2,.int .u8 k,.int .i64 n,.string s,.slice A3 l3 c3] 30)) (.cells #[.int .u8 tk,.int .i64 tn,.string ts,.slice B ks.length tc] 28);simp only[World.size_alloc]at hbN;obtain⟨Wb,kW⟩:=zX ((W.alloc (.cells #[.slice A1 L1 c1,.slice A2 L2 c2,.int .u8 k,.int .i64 n,.string s,.slice A3 l3 c3] 30)).alloc (.cells #[.int .u8 tk,.int .i64 tn,.string ts,.slice B ks.length tc] 28));rw[kW]at hbw pX hbN ⊢;have kX:=zh (show Wb.heap.size=W.heap.size+2 by rw[<-kW];simp);have aU:=zh hbw;have HBP:=zh pX;have HBN:=zh hbN
 have kr:=zh (show ∀w':World,w'.heap[W.heap.size]?=Wb.heap[W.heap.size]?->w'.heap[W.heap.size+1]?=Wb.heap[W.heap.size+1]?->(fun w':World=>(zN6 w' W.heap.size (.slice A1 L1 c1) (.slice A2 L2 c2) (.int .u8 k) (.int .i64 n) (.string s) (.slice A3 l3 c3))/\zN4 w' (W.heap.size+1) (.int .u8 tk) (.int .i64 tn) (.string ts) (.slice B ks.length tc)) w' from fun w' h1 h2=>⟨box6 (h1.trans pX),box4 (h2.trans hbN)⟩)
 have qC:=zh (show ∀w':World,Chg (fun b=>b=fb\/pw.ownBlock=some b) Wb w'->(fun w':World=>(zN6 w' W.heap.size (.slice A1 L1 c1) (.slice A2 L2 c2) (.int .u8 k) (.int .i64 n) (.string s) (.slice A3 l3 c3))/\zN4 w' (W.heap.size+1) (.int .u8 tk) (.int .i64 tn) (.string ts) (.slice B ks.length tc)) w' from fun w' h=>kr.out w' (h.block _ (by have:=kX.out;omega) (fun hh=>by rcases hh with hh|hh;(have:=ik.out.1;omega);(have:=(ik.out.2 _ hh).2;omega))) (h.block _ (by have:=kX.out;omega) (fun hh=>by rcases hh with hh|hh;(have:=ik.out.1;omega);(have:=(ik.out.2 _ hh).2;omega))));have oL:=zh (show ∀w':World,Chg (fun b=>b=fb\/pw.ownBlock=some b) Wb w'->∀b,S b->b<W.heap.size->w'.heap[b]?=W.heap[b]? from fun w' h b hb hlt=>(h.block b (by have:=kX.out;omega) (HFAR.out b hb hlt)).trans (aU.out.block b hlt))
 have hi0:VsI Rd n0 fb Wb pw N Wb pw:=⟨bg.out.keep W Wb pw N oz.out yt.out (Chg.of_below hbw),yt.out.later hbw,fun b hb=>.inl hb,Chg.refl _ _⟩
 have HI0:=zh hi0;clear kW hbw pX hbN hi0;have hdr:=(zs Wb).drew;have hSS:zW (fun w':World=>(zN6 w' W.heap.size (.slice A1 L1 c1) (.slice A2 L2 c2) (.int .u8 k) (.int .i64 n) (.string s) (.slice A3 l3 c3))/\zN4 w' (W.heap.size+1) (.int .u8 tk) (.int .i64 tn) (.string ts) (.slice B ks.length tc)) zU Wb.drew:=⟨qC.out _ (Chg.of_below hdr),trivial⟩
 refine wp_region_noPanic ?_;refine zG hSS 20 ?_;refine zT 0 hSS ?_;refine zT 1 hSS ?_;refine zT 2 hSS ?_;refine zT 3 hSS ?_;refine zT 4 hSS ?_;refine zT 5 hSS ?_;refine zT 6 hSS ?_;refine zo 7 fun K hK=>?_;refine zke (by rfl) (.func 88) [.tmp 18,.tmp 19,.tmp 20] _ (by rfl) 88 _ zyx (by rfl) _ (by rfl) _ (znG (zuF p (.nd tk tn ts ks) vs A c S S S _ _ _ (xS.out.later (zka aU.out hdr)) (fF.out.later (zka aU.out hdr)) (ae.out.later (zka aU.out hdr)) uP.out)) ?_;rintro vq w2 ⟨rfl,ah⟩;simp only[T.k_nd,T.s_nd,T.ks_nd];rw[vD.out];have b2:=zka hdr ah;have aC:=zV hSS (qC.out _ (Chg.of_below b2)) trivial;refine hK.out _ _ aC ?_;clear hK K hSS;(try simp only[zQ]);refine zo 8 fun K hK=>?_
 refine zlm (by rfl) (.tmp 14) [.tmp 15,.tmp 17,.tmp 21] _ (by rfl) f fn hfn cap (by rfl) _ (by rfl) _ (zms (bg.out.call N pw E0 q Aq cq ts S w2 (bg.out.keep Wb w2 pw N HI0.out.rd HI0.out.fs (Chg.of_below b2)) (HI0.out.fs.later b2) ((qR.out.later aU.out).later b2) (by omega) (by omega))) ?_;rintro vq W3 hp3;obtain⟨Ai,hi3⟩:=HI0.out.step bg.out b2 hp3;have aV:=zV aC (qC.out _ hi3.chg) trivial;refine hK.out _ _ aV ?_;clear hK K aC;(try simp only[zQ]);refine zd ?_;refine NoPanic.normal ?_;obtain⟨⟨a0,a1,a2,a3,a4,a5⟩,b0,b1,b2',b3⟩:=aV.1;have HI3:=zh hi3;clear aV hi3 hp3 b2 ah hdr HI0
 have HD:=zh (show ∀w':World,Chg (fun b=>b=fb\/pw.ownBlock=some b) Wb w'->PV w' (fun b=>S b/\b<W.heap.size) p _/\NV w' (fun b=>S b/\b<W.heap.size) (.nd tk tn ts ks) _/\RowV w' (fun b=>S b/\b<W.heap.size) A vs/\RowI w' (fun b=>S b/\b<W.heap.size) Aq q/\zkP w' (fun b=>S b/\b<W.heap.size) B ks from fun w' h=>⟨xS.out.keep (fun b hb hlt=>⟨hb,hlt⟩) (oL.out w' h),fF.out.keep (fun b hb hlt=>⟨hb,hlt⟩) (oL.out w' h),ae.out.keep (fun b hb hlt=>⟨hb,hlt⟩) (oL.out w' h),qR.out.keep (fun b hb hlt=>⟨hb,hlt⟩) (oL.out w' h),za.out.keep (fun b hb hlt=>⟨hb,hlt⟩) (oL.out w' h)⟩);by_cases hcall:tk=50\/tk=51
 ·rcases hcall with rfl|rfl
  ·go_wp2_with fail
   go_loopw [34] (fun i wr=>∃(j:Nat) (pv':Value),j<=ks.length/\i=.int .i64 j/\VsI Rd n0 fb Wb pw (N+one1 E0+cntA p.prs ts ks.length 0 (ks.take j) vs) wr pv') (fun i _=>ks.length-(intOf i).toNat)
   case atStart=>exact⟨0,_,Nat.zero_le _,rfl,by simpa[cntA]using HI3.out⟩
   case round =>
    obtain⟨j,pv',hj,rfl,hinv⟩:=hrel;have ag:=zh hinv;clear HI3;by_cases hlt:j<ks.length
    ·obtain⟨-,-,-,-,gX⟩:=HD.out wr hinv.chg;obtain⟨a,u,A4,c4,rfl,hsa,Hu,⟨q0,q1,q2,q3⟩,hnu⟩:=gX.nd hlt;have uN:=zh hnu;clear hinv gX hnu hsa;go_upto_region 6 with fail;have hbk:Below wr.heap.size wr (wr.alloc (.cells #[.int .u8 u.k,.int .i64 u.n,.string u.s,.slice A4 u.ks.length c4] 28)):=zkb zr _;have eB:=heap_alloc_new wr (.cells #[.int .u8 u.k,.int .i64 u.n,.string u.s,.slice A4 u.ks.length c4] 28);obtain⟨wk,hwk⟩:=zX (wr.alloc (.cells #[.int .u8 u.k,.int .i64 u.n,.string u.s,.slice A4 u.ks.length c4] 28));rw[hwk]at hbk eB ⊢;have fA:=zh (show wk.heap.size=wr.heap.size+1 by rw[<-hwk];simp);have av:=zh hbk;have il:=zh eB;clear hwk hbk eB
     have bN:=zh (show ∀w':World,Below wk.heap.size wk w'->(fun w':World=>(zN6 w' W.heap.size (.slice A1 L1 c1) (.slice A2 L2 c2) (.int .u8 k) (.int .i64 n) (.string s) (.slice A3 l3 c3)/\zN4 w' (W.heap.size+1) (.int .u8 50) (.int .i64 tn) (.string ts) (.slice (some a) ks.length tc))/\zN4 w' wr.heap.size (.int .u8 u.k) (.int .i64 u.n) (.string u.s) (.slice A4 u.ks.length c4)) w'/\zU w' from fun w' h=>⟨⟨qC.out w' (ag.out.chg.trans (Chg.of_below (zka av.out h))),box4 ((h.block _ (by have:=fA.out;omega)).trans il.out)⟩,trivial⟩);have hdr:=(zs wk).drew;have hSS:=bN.out _ hdr;refine wp_region_noPanic ?_
     refine zkk (fun w':World=>(zN6 w' W.heap.size (.slice A1 L1 c1) (.slice A2 L2 c2) (.int .u8 k) (.int .i64 n) (.string s) (.slice A3 l3 c3)/\zN4 w' (W.heap.size+1) (.int .u8 50) (.int .i64 tn) (.string ts) (.slice (some a) ks.length tc))/\zN4 w' wr.heap.size (.int .u8 u.k) (.int .i64 u.n) (.string u.s) (.slice A4 u.ks.length c4)) zU 40 (by kernel_rfl) ?_;refine zT 0 hSS ?_;refine zT 1 hSS ?_;refine zT 2 hSS ?_;refine zT 4 hSS ?_;refine zT 5 hSS ?_;refine zT 6 hSS ?_;refine zT 7 hSS ?_;refine zT 8 hSS ?_;refine zT 9 hSS ?_;refine zo 3 fun K hK=>?_;refine zke (by rfl) (.func 89) [.tmp 40,.tmp 41] _ (by rfl) 89 _ zrl (by rfl) _ (by rfl) _ (zm2 (zoC q Aq cq (j:Int) ⟨by omega,by omega⟩ _ _ (HD.out _ (ag.out.chg.trans (Chg.of_below (zka av.out hdr)))).2.2.2.1 Cf.out (by omega))) ?_;rintro vq w2 ⟨Ac,cc,rfl,hrc,hcc,ah⟩;have b2:=zka hdr ah
     have aC:=bN.out _ b2;refine hK.out _ _ aC ?_;clear hK K hSS;(try simp only[zQ]);refine zo 10 fun K hK=>?_;refine zke (by rfl) (.func 90) [.tmp 45,.tmp 46,.tmp 47,.tmp 48] _ (by rfl) 90 _ zpa (by rfl) _ (by rfl) _ (znG (znJ p (.nd 50 tn ts ks) j hlt vs A c _ _ _ _ _ _ (HD.out _ (ag.out.chg.trans (Chg.of_below (zka av.out b2)))).1 (HD.out _ (ag.out.chg.trans (Chg.of_below (zka av.out b2)))).2.1 (HD.out _ (ag.out.chg.trans (Chg.of_below (zka av.out b2)))).2.2.1 uP.out)) ?_;rintro vq w3 ⟨rfl,aN⟩;simp only[T.k_nd,T.s_nd,T.ks_nd];have b3:=zka b2 aN;have aV:=bN.out _ b3;refine hK.out _ _ aV ?_;clear hK K aC;(try simp only[zQ]);refine zo 11 fun K hK=>?_;have hcl:cntA p.prs ts ks.length 0 (ks.take j) vs<=zkU ks:=Nat.le_trans (zpS _ _ _ _ _ _) (zlD _ _);have hF:=ag.out.fs.later (zka av.out b3)
     have hR:=bg.out.keep _ _ _ _ ag.out.rd ag.out.fs (Chg.of_below (zka av.out b3));refine zlm (by rfl) (.tmp 39) [.tmp 42,.tmp 44,.tmp 49] _ (by rfl) f fn hfn cap (by rfl) _ (by rfl) _ (zms (bg.out.call _ pv' _ (q++[(j:Int)]) Ac cc u.s _ w3 hR hF (hrc.later aN) (by simp;omega) (by omega))) ?_;rintro vq W6 hp;obtain⟨iV,bS⟩:=ag.out.step bg.out (zka av.out b3) hp;have bO:VsI Rd n0 fb Wb pw (N+one1 E0+cntA p.prs ts ks.length 0 (ks.take (j+1)) vs) W6 iV:=by rw[zqF p.prs ts ks.length vs hlt];simpa[Nat.add_assoc]using bS
     have ak:zW (fun w':World=>(zN6 w' W.heap.size (.slice A1 L1 c1) (.slice A2 L2 c2) (.int .u8 k) (.int .i64 n) (.string s) (.slice A3 l3 c3)/\zN4 w' (W.heap.size+1) (.int .u8 50) (.int .i64 tn) (.string ts) (.slice (some a) ks.length tc))/\zN4 w' wr.heap.size (.int .u8 u.k) (.int .i64 u.n) (.string u.s) (.slice A4 u.ks.length c4)) zU W6:=⟨⟨qC.out _ bO.chg,box4 ((hp.2.elim fun _ h=>h.2.2.block _ (by have:=(zka av.out b3).size;have:=b3.size;have:=fA.out;omega) (fun hh=>by have hl:=ag.out.fs.lt;rcases hh with hh|hh;(have:=hl.1;omega);(have:=(hl.2 _ hh).2;omega))).trans ((b3.block _ (by have:=fA.out;omega)).trans il.out))⟩,trivial⟩
     refine hK.out _ _ ak ?_;clear hK K aV;(try simp only[zQ]);refine zd ?_;refine NoPanic.normal ?_;have lD:=zh bO;clear bO bS hp ak hF hR;go_wp2_with fail
     go_roundw
     case rel=>exact⟨j+1,_,by omega,by go_num,lD.out⟩
     case measure=>simp[intOf];omega
    ·obtain rfl:j=ks.length:=by omega
     clear hinv;go_wp2_with fail;(try simp only[Exit.inBlock,Exit.then]);refine bodyPost_ret (results_none rfl _ _ _) rfl ?_;have hinv:=ag.out;rw[List.take_of_length_le zl]at hinv;have hcc:=aJ.out;rw[cntV,vD.out,if_pos (by decide)]at hcc;rw[<-hcc,<-Nat.add_assoc];exact hinv.rep aU.out ⟨_,rfl⟩
  ·go_wp2_with fail
   go_loopw [34] (fun i wr=>∃(j:Nat) (pv':Value),j<=ks.length/\i=.int .i64 j/\VsI Rd n0 fb Wb pw (N+one1 E0+cntA p.prs ts ks.length 0 (ks.take j) vs) wr pv') (fun i _=>ks.length-(intOf i).toNat)
   case atStart=>exact⟨0,_,Nat.zero_le _,rfl,by simpa[cntA]using HI3.out⟩
   case round =>
    obtain⟨j,pv',hj,rfl,hinv⟩:=hrel;have ag:=zh hinv;clear HI3;by_cases hlt:j<ks.length
    ·obtain⟨-,-,-,-,gX⟩:=HD.out wr hinv.chg;obtain⟨a,u,A4,c4,rfl,hsa,Hu,⟨q0,q1,q2,q3⟩,hnu⟩:=gX.nd hlt;have uN:=zh hnu;clear hinv gX hnu hsa;go_upto_region 6 with fail;have hbk:Below wr.heap.size wr (wr.alloc (.cells #[.int .u8 u.k,.int .i64 u.n,.string u.s,.slice A4 u.ks.length c4] 28)):=zkb zr _;have eB:=heap_alloc_new wr (.cells #[.int .u8 u.k,.int .i64 u.n,.string u.s,.slice A4 u.ks.length c4] 28);obtain⟨wk,hwk⟩:=zX (wr.alloc (.cells #[.int .u8 u.k,.int .i64 u.n,.string u.s,.slice A4 u.ks.length c4] 28));rw[hwk]at hbk eB ⊢;have fA:=zh (show wk.heap.size=wr.heap.size+1 by rw[<-hwk];simp);have av:=zh hbk;have il:=zh eB;clear hwk hbk eB
     have bN:=zh (show ∀w':World,Below wk.heap.size wk w'->(fun w':World=>(zN6 w' W.heap.size (.slice A1 L1 c1) (.slice A2 L2 c2) (.int .u8 k) (.int .i64 n) (.string s) (.slice A3 l3 c3)/\zN4 w' (W.heap.size+1) (.int .u8 51) (.int .i64 tn) (.string ts) (.slice (some a) ks.length tc))/\zN4 w' wr.heap.size (.int .u8 u.k) (.int .i64 u.n) (.string u.s) (.slice A4 u.ks.length c4)) w'/\zU w' from fun w' h=>⟨⟨qC.out w' (ag.out.chg.trans (Chg.of_below (zka av.out h))),box4 ((h.block _ (by have:=fA.out;omega)).trans il.out)⟩,trivial⟩);have hdr:=(zs wk).drew;have hSS:=bN.out _ hdr;refine wp_region_noPanic ?_
     refine zkk (fun w':World=>(zN6 w' W.heap.size (.slice A1 L1 c1) (.slice A2 L2 c2) (.int .u8 k) (.int .i64 n) (.string s) (.slice A3 l3 c3)/\zN4 w' (W.heap.size+1) (.int .u8 51) (.int .i64 tn) (.string ts) (.slice (some a) ks.length tc))/\zN4 w' wr.heap.size (.int .u8 u.k) (.int .i64 u.n) (.string u.s) (.slice A4 u.ks.length c4)) zU 40 (by kernel_rfl) ?_;refine zT 0 hSS ?_;refine zT 1 hSS ?_;refine zT 2 hSS ?_;refine zT 4 hSS ?_;refine zT 5 hSS ?_;refine zT 6 hSS ?_;refine zT 7 hSS ?_;refine zT 8 hSS ?_;refine zT 9 hSS ?_;refine zo 3 fun K hK=>?_;refine zke (by rfl) (.func 89) [.tmp 40,.tmp 41] _ (by rfl) 89 _ zrl (by rfl) _ (by rfl) _ (zm2 (zoC q Aq cq (j:Int) ⟨by omega,by omega⟩ _ _ (HD.out _ (ag.out.chg.trans (Chg.of_below (zka av.out hdr)))).2.2.2.1 Cf.out (by omega))) ?_;rintro vq w2 ⟨Ac,cc,rfl,hrc,hcc,ah⟩;have b2:=zka hdr ah
     have aC:=bN.out _ b2;refine hK.out _ _ aC ?_;clear hK K hSS;(try simp only[zQ]);refine zo 10 fun K hK=>?_;refine zke (by rfl) (.func 90) [.tmp 45,.tmp 46,.tmp 47,.tmp 48] _ (by rfl) 90 _ zpa (by rfl) _ (by rfl) _ (znG (znJ p (.nd 51 tn ts ks) j hlt vs A c _ _ _ _ _ _ (HD.out _ (ag.out.chg.trans (Chg.of_below (zka av.out b2)))).1 (HD.out _ (ag.out.chg.trans (Chg.of_below (zka av.out b2)))).2.1 (HD.out _ (ag.out.chg.trans (Chg.of_below (zka av.out b2)))).2.2.1 uP.out)) ?_;rintro vq w3 ⟨rfl,aN⟩;simp only[T.k_nd,T.s_nd,T.ks_nd];have b3:=zka b2 aN;have aV:=bN.out _ b3;refine hK.out _ _ aV ?_;clear hK K aC;(try simp only[zQ]);refine zo 11 fun K hK=>?_;have hcl:cntA p.prs ts ks.length 0 (ks.take j) vs<=zkU ks:=Nat.le_trans (zpS _ _ _ _ _ _) (zlD _ _);have hF:=ag.out.fs.later (zka av.out b3)
     have hR:=bg.out.keep _ _ _ _ ag.out.rd ag.out.fs (Chg.of_below (zka av.out b3));refine zlm (by rfl) (.tmp 39) [.tmp 42,.tmp 44,.tmp 49] _ (by rfl) f fn hfn cap (by rfl) _ (by rfl) _ (zms (bg.out.call _ pv' _ (q++[(j:Int)]) Ac cc u.s _ w3 hR hF (hrc.later aN) (by simp;omega) (by omega))) ?_;rintro vq W6 hp;obtain⟨iV,bS⟩:=ag.out.step bg.out (zka av.out b3) hp;have bO:VsI Rd n0 fb Wb pw (N+one1 E0+cntA p.prs ts ks.length 0 (ks.take (j+1)) vs) W6 iV:=by rw[zqF p.prs ts ks.length vs hlt];simpa[Nat.add_assoc]using bS
     have ak:zW (fun w':World=>(zN6 w' W.heap.size (.slice A1 L1 c1) (.slice A2 L2 c2) (.int .u8 k) (.int .i64 n) (.string s) (.slice A3 l3 c3)/\zN4 w' (W.heap.size+1) (.int .u8 51) (.int .i64 tn) (.string ts) (.slice (some a) ks.length tc))/\zN4 w' wr.heap.size (.int .u8 u.k) (.int .i64 u.n) (.string u.s) (.slice A4 u.ks.length c4)) zU W6:=⟨⟨qC.out _ bO.chg,box4 ((hp.2.elim fun _ h=>h.2.2.block _ (by have:=(zka av.out b3).size;have:=b3.size;have:=fA.out;omega) (fun hh=>by have hl:=ag.out.fs.lt;rcases hh with hh|hh;(have:=hl.1;omega);(have:=(hl.2 _ hh).2;omega))).trans ((b3.block _ (by have:=fA.out;omega)).trans il.out))⟩,trivial⟩
     refine hK.out _ _ ak ?_;clear hK K aV;(try simp only[zQ]);refine zd ?_;refine NoPanic.normal ?_;have lD:=zh bO;clear bO bS hp ak hF hR;go_wp2_with fail
     go_roundw
     case rel=>exact⟨j+1,_,by omega,by go_num,lD.out⟩
     case measure=>simp[intOf];omega
    ·obtain rfl:j=ks.length:=by omega
     clear hinv;go_wp2_with fail;(try simp only[Exit.inBlock,Exit.then]);refine bodyPost_ret (results_none rfl _ _ _) rfl ?_;have hinv:=ag.out;rw[List.take_of_length_le zl]at hinv;have hcc:=aJ.out;rw[cntV,vD.out,if_pos (by decide)]at hcc;rw[<-hcc,<-Nat.add_assoc];exact hinv.rep aU.out ⟨_,rfl⟩
 ·obtain⟨h50,lS⟩:=not_or.1 hcall;have hd50:(tk==50)=false:=beq_false_of_ne h50;have hd51:(tk==51)=false:=beq_false_of_ne lS;go_wp2_with fail
  go_loopw [55] (fun i wr=>∃(j:Nat) (pv':Value),j<=ks.length/\i=.int .i64 j/\VsI Rd n0 fb Wb pw (N+one1 E0+cntK p.prs tk ts 0 (ks.take j) vs) wr pv') (fun i _=>ks.length-(intOf i).toNat)
  case atStart=>exact⟨0,_,Nat.zero_le _,rfl,by simpa[cntK]using HI3.out⟩
  case round =>
   obtain⟨j,pv',hj,rfl,hinv⟩:=hrel;have ag:=zh hinv;clear HI3;by_cases hlt:j<ks.length
   ·obtain⟨-,-,-,-,gX⟩:=HD.out wr hinv.chg;obtain⟨a,u,A4,c4,rfl,hsa,Hu,⟨q0,q1,q2,q3⟩,hnu⟩:=gX.nd hlt;have uN:=zh hnu;clear hinv gX hnu hsa;go_upto_region 11 with fail;have hbk:Below wr.heap.size wr (wr.alloc (.cells #[.int .u8 u.k,.int .i64 u.n,.string u.s,.slice A4 u.ks.length c4] 28)):=zkb zr _;have eB:=heap_alloc_new wr (.cells #[.int .u8 u.k,.int .i64 u.n,.string u.s,.slice A4 u.ks.length c4] 28);obtain⟨wk,hwk⟩:=zX (wr.alloc (.cells #[.int .u8 u.k,.int .i64 u.n,.string u.s,.slice A4 u.ks.length c4] 28));rw[hwk]at hbk eB ⊢;have fA:=zh (show wk.heap.size=wr.heap.size+1 by rw[<-hwk];simp);have av:=zh hbk;have il:=zh eB;clear hwk hbk eB
    have bN:=zh (show ∀w':World,Below wk.heap.size wk w'->(fun w':World=>(zN6 w' W.heap.size (.slice A1 L1 c1) (.slice A2 L2 c2) (.int .u8 k) (.int .i64 n) (.string s) (.slice A3 l3 c3)/\zN4 w' (W.heap.size+1) (.int .u8 tk) (.int .i64 tn) (.string ts) (.slice (some a) ks.length tc))/\zN4 w' wr.heap.size (.int .u8 u.k) (.int .i64 u.n) (.string u.s) (.slice A4 u.ks.length c4)) w'/\zU w' from fun w' h=>⟨⟨qC.out w' (ag.out.chg.trans (Chg.of_below (zka av.out h))),box4 ((h.block _ (by have:=fA.out;omega)).trans il.out)⟩,trivial⟩);have hdr:=(zs wk).drew;have hSS:=bN.out _ hdr;refine wp_region_noPanic ?_
    refine zkk (fun w':World=>(zN6 w' W.heap.size (.slice A1 L1 c1) (.slice A2 L2 c2) (.int .u8 k) (.int .i64 n) (.string s) (.slice A3 l3 c3)/\zN4 w' (W.heap.size+1) (.int .u8 tk) (.int .i64 tn) (.string ts) (.slice (some a) ks.length tc))/\zN4 w' wr.heap.size (.int .u8 u.k) (.int .i64 u.n) (.string u.s) (.slice A4 u.ks.length c4)) zU 40 (by kernel_rfl) ?_;refine zT 0 hSS ?_;refine zT 1 hSS ?_;refine zT 2 hSS ?_;refine zT 3 hSS ?_;refine zT 5 hSS ?_;refine zT 6 hSS ?_;refine zT 7 hSS ?_;refine zT 9 hSS ?_;refine zo 4 fun K hK=>?_;refine zke (by rfl) (.func 89) [.tmp 62,.tmp 63] _ (by rfl) 89 _ zrl (by rfl) _ (by rfl) _ (zm2 (zoC q Aq cq (j:Int) ⟨by omega,by omega⟩ _ _ (HD.out _ (ag.out.chg.trans (Chg.of_below (zka av.out hdr)))).2.2.2.1 Cf.out (by omega))) ?_;rintro vq w2 ⟨Ac,cc,rfl,hrc,hcc,ah⟩;have b2:=zka hdr ah;have aC:=bN.out _ b2
    refine hK.out _ _ aC ?_;clear hK K hSS;(try simp only[zQ]);refine zo 8 fun K hK=>?_;refine zke (by rfl) (.func 91) [.tmp 65,.tmp 66,.tmp 67] _ (by rfl) 91 _ zyv (by rfl) _ (by rfl) _ (zty (zuo (.nd tk tn ts ks) j (by omega) vs A c _ _ _ _ (HD.out _ (ag.out.chg.trans (Chg.of_below (zka av.out b2)))).2.1 (HD.out _ (ag.out.chg.trans (Chg.of_below (zka av.out b2)))).2.2.1 jc.out (by omega))) ?_;simp only[T.k_nd,T.s_nd,T.ks_nd];rintro vq w3 ⟨Av,cv,rfl,fU,hcv,aN⟩;have b3:=zka b2 aN;have aV:=bN.out _ b3;refine hK.out _ _ aV ?_;clear hK K aC;(try simp only[zQ]);refine zo 10 fun K hK=>?_;have hcl:cntK p.prs tk ts 0 (ks.take j) vs<=zkU (ks.take j):=zrq _ _ _ _ (fun t _ vs=>zuR _ t vs) _ _;have hsz:=zlD ks (j+1);rw[zsv ks j hlt,Hu.out]at hsz;have hmem:u∈ks:=by rw[<-Hu.out];exact List.getElem_mem hlt
    have hdu:=zpm hmem;have hil:=zsN tk ts j vs;have hzb:=ag.out.chg.size;have hz0:=kX.out;have hzk:=fA.out;have hfl:=ag.out.fs.lt;have hF:=ag.out.fs.later (zka av.out b3);have hR:=bg.out.keep _ _ _ _ ag.out.rd ag.out.fs (Chg.of_below (zka av.out b3));have hzz:=hdr.size;have yA:=ah.size;have hzw2:=b2.size
    refine zke (by rfl) (.func 58) [.tmp 60,.tmp 61,.tmp 64,.tmp 68,.tmp 69] _ (by rfl) 58 _ zys (by rfl) _ (by rfl) _ (zms (qz.out u hmem (fun b=>(S b/\b<W.heap.size)\/wk.heap.size<=b) (zmu tk ts j vs) Av cv (q++[(j:Int)]) Ac cc (N+one1 E0+cntK p.prs tk ts 0 (ks.take j) vs) pv' w3 _ _ hR hF ((HD.out _ (ag.out.chg.trans (Chg.of_below (zka av.out b3)))).1.keep (fun b hb _=>.inl hb) (fun _ _ _=>rfl)) ((uN.out.later (zka av.out b3)).keep (fun b hb _=>.inl hb) (fun _ _ _=>rfl)) (fU.mono fun b hb=>by rcases hb with hb|hb;exact .inl hb;exact .inr (by omega)) hcv ((hrc.later aN).mono fun b hb=>.inr (by have:_<=b:=hb;omega)) hcc (fun b hb hlt' hh=>?_) (by simp;omega) (by omega) (by omega))) ?_
    ·rcases hb with⟨hb,hbl⟩|hb
     ·refine HFAR.out b hb hbl (hh.imp id fun h=>?_);rcases ag.out.own b h with h1|h1
      ·exact h1
      ·omega
     ·rcases hh with rfl|hh
      ·omega
      ·have:=hfl.2 b hh;omega
    rintro vq W6 hp;obtain⟨iV,bS⟩:=ag.out.step bg.out (zka av.out b3) hp;have bO:VsI Rd n0 fb Wb pw (N+one1 E0+cntK p.prs tk ts 0 (ks.take (j+1)) vs) W6 iV:=by rw[zuS p.prs tk ts vs hlt,Hu.out];simpa[Nat.add_assoc]using bS
    have ak:zW (fun w':World=>(zN6 w' W.heap.size (.slice A1 L1 c1) (.slice A2 L2 c2) (.int .u8 k) (.int .i64 n) (.string s) (.slice A3 l3 c3)/\zN4 w' (W.heap.size+1) (.int .u8 tk) (.int .i64 tn) (.string ts) (.slice (some a) ks.length tc))/\zN4 w' wr.heap.size (.int .u8 u.k) (.int .i64 u.n) (.string u.s) (.slice A4 u.ks.length c4)) zU W6:=⟨⟨qC.out _ bO.chg,box4 ((hp.2.elim fun _ h=>h.2.2.block _ (by have:=(zka av.out b3).size;have:=b3.size;have:=fA.out;omega) (fun hh=>by have hl:=ag.out.fs.lt;rcases hh with hh|hh;(have:=hl.1;omega);(have:=(hl.2 _ hh).2;omega))).trans ((b3.block _ (by have:=fA.out;omega)).trans il.out))⟩,trivial⟩
    refine hK.out _ _ ak ?_;clear hK K aV;(try simp only[zQ]);refine zd ?_;refine NoPanic.normal ?_;have lD:=zh bO;clear bO bS hp ak hF hR;go_wp2_with fail
    go_roundw
    case rel=>exact⟨j+1,_,by omega,by go_num,lD.out⟩
    case measure=>simp[intOf];omega
   ·obtain rfl:j=ks.length:=by omega
    clear hinv;go_wp2_with fail;go_end0;have hinv:=ag.out;rw[List.take_of_length_le zl]at hinv;have hcc:=aJ.out;rw[cntV,vD.out,if_neg hcall]at hcc;rw[<-hcc,<-Nat.add_assoc];exact hinv.rep aU.out ⟨_,rfl⟩
end
end Go.Proofs.YthjinpodhacleaaGreat
