/-
  Texts of the proof, put together without their remarks: Wk, ScR, ScV, Fa.
-/
import Derived.Test.YtckhofdinldhpaaGreatA6
set_option linter.unusedSimpArgs false
set_option linter.unusedVariables false
set_option maxHeartbeats 8000000
set_option maxRecDepth 100000
namespace Go.Proofs.YtckhofdinldhpaaGreat
open Go Go.RowKit
mutual
/-- The nodes of a tree,in pre-order. -/
def po:T->List T
 | .nd k n s ks=>.nd k n s ks::pos ks
def pos:List T->List T
 | []=>[]
 | t::ts=>po t++pos ts
end
theorem pos_append:∀ a b:List T,pos (a++b)=pos a++pos b
 | [],b=>by simp [pos]
 | t::ts,b=>by simp [pos,pos_append ts b]
theorem pos_take {ks:List T} {j:Nat} (h:j<ks.length):pos (ks.take (j+1))=pos (ks.take j)++po ks[j]:=by
 rw [List.take_succ_eq_append_getElem h,pos_append]; simp [pos]
theorem pos_pre {ks:List T} {j:Nat} (h:j<ks.length):pos (ks.take j)++po ks[j] <+: pos ks:=by
 have e:pos ks=pos (ks.take (j+1))++pos (ks.drop (j+1)):=by rw [<-pos_append,List.take_append_drop]
 rw [e,pos_take h]
 exact ⟨_,rfl⟩
mutual
/-- The depth of a tree. -/
def dep:T->Nat
 | .nd _ _ _ ks=>1+deps ks
def deps:List T->Nat
 | []=>0
 | t::ts=>max (dep t) (deps ts)
end
theorem dep_le {t:T}:∀ {ks:List T},t∈ks->dep t<=deps ks
 | u::us,h=>by
  simp only [List.mem_cons] at h
  rcases h with rfl|h
  ·simp only [deps]; omega
  ·have:=dep_le h; simp only [deps]; omega
structure It (C:Nat->Prop) (W:World) (n0 l yb pb vb:Nat) (pv:Value) (q:List Int):Prop where
 y:W.heap[yb]?=some (.cells #[.func (.yield l) #[] #[]] 218 (0,0))
 v:W.heap[vb]?=some (.cells #[.func (.func 168) #[] #[.pointer (some ⟨yb,0,none⟩),.pointer (some ⟨pb,0,none⟩),.pointer (some ⟨vb,0,none⟩)]] 105 (0,0))
 p:W.heap[pb]?=some (.cells #[pv] 24 (0,0))
 row:W.ownsRow n0 3 1 pv q.length (q.map fun x=>Value.int .i64 x)
 fits:∀ x∈q,I64 x
 gy:n0<=yb
 gp:n0<=pb
 gv:n0<=vb
 nyp:yb≠pb
 nvp:vb≠pb
 ry:pv.ownBlock≠some yb
 rp:pv.ownBlock≠some pb
 rv:pv.ownBlock≠some vb
 cy:¬ C yb
 cp:¬ C pb
 cv:¬ C vb
 cr:∀ b,pv.ownBlock=some b->¬ C b
section
variable {C C' D:Nat->Prop} {W W':World} {n0 l yb pb vb:Nat} {pv pv':Value} {q q':List Int}
theorem It.lt (h:It C W n0 l yb pb vb pv q):yb<W.heap.size/\pb<W.heap.size/\vb<W.heap.size/\∀ b,pv.ownBlock=some b->n0<=b/\b<W.heap.size:=⟨blk_lt h.y,blk_lt h.p,blk_lt h.v,h.row.lt⟩
theorem It.chg (h:It C W n0 l yb pb vb pv q) (hc:Chg D W W') (hD:∀ b,b=yb\/b=pb\/b=vb\/pv.ownBlock=some b->¬ D b) (hC:∀ b,b=yb\/b=pb\/b=vb\/pv.ownBlock=some b->¬ C' b):It C' W' n0 l yb pb vb pv q :=
 { h with
  y:=hc.keep h.y (hD _ (.inl rfl))
  v:=hc.keep h.v (hD _ (.inr (.inr (.inl rfl))))
  p:=hc.keep h.p (hD _ (.inr (.inl rfl)))
  row:=by
   obtain ⟨e1,h2⟩:=h.row
   refine ⟨e1,?_⟩
   rcases h2 with h2|⟨g,cap,cur,rfl,hb,hg,h3⟩
   ·exact .inl h2
   ·exact .inr ⟨g,cap,cur,rfl,hb,hc.keep hg (hD _ (.inr (.inr (.inr rfl)))),h3⟩
  cy:=hC _ (.inl rfl)
  cp:=hC _ (.inr (.inl rfl))
  cv:=hC _ (.inr (.inr (.inl rfl)))
  cr:=fun b hb=>hC _ (.inr (.inr (.inr hb))) }
theorem It.later (h:It C W n0 l yb pb vb pv q) (hb:Below W.heap.size W W'):It C W' n0 l yb pb vb pv q :=
 h.chg (D:=fun _=>False) (Chg.of_below hb) (fun _ _ h=>h) (fun b hb=>by
  rcases hb with rfl|rfl|rfl|hb
  ·exact h.cy
  ·exact h.cp
  ·exact h.cv
  ·exact h.cr b hb)
theorem It.put (h:It C W n0 l yb pb vb pv q) (ho:W'.ownsRow n0 3 1 pv' q'.length (q'.map fun x=>Value.int .i64 x)) (hq:∀ x∈q',I64 x) (hg:W.grownBy W' pv.ownBlock)
  (hob:∀ b,pv'.ownBlock=some b->pv.ownBlock=some b\/W.heap.size<=b) (hC:∀ b,C b->b<W.heap.size):It C (W'.setCell ⟨pb,0,none⟩ pv') n0 l yb pb vb pv' q':=by
 have hlt:=h.lt
 have hc:Chg (fun b=>b=pb\/pv.ownBlock=some b) W (W'.setCell ⟨pb,0,none⟩ pv'):=((Chg.row hg).mono fun _ _ h=>.inr h).setCell (.inl (.inl rfl)) _
 have hp':W'.heap[pb]?=some (.cells #[pv] 24 (0,0)):=(hg.block _ (blk_lt h.p) (fun e=>h.rp e.symm)).trans h.p
 have hnp:pv'.ownBlock≠some pb:=fun e=>by
  rcases hob _ e with e|e
  ·exact h.rp e
  ·have:=hlt.2.1; omega
 refine { h with
  y:=hc.keep h.y (fun hh=>by rcases hh with hh|hh; exact h.nyp hh; exact h.ry hh)
  v:=hc.keep h.v (fun hh=>by rcases hh with hh|hh; exact h.nvp hh; exact h.rv hh)
  p:=by have:=heap_setCell_same W' pb 0 _ _ pv' hp'; simpa using this
  row:=?_
  fits:=hq
  ry:=fun e=>by
   rcases hob _ e with e|e
   ·exact h.ry e
   ·have:=hlt.1; omega
  rp:=hnp
  rv:=fun e=>by
   rcases hob _ e with e|e
   ·exact h.rv e
   ·have:=hlt.2.2.1; omega
  cr:=fun b hb hcb=>by
   rcases hob _ hb with e|e
   ·exact h.cr b e hcb
   ·have:=hC b hcb; omega }
 obtain ⟨e1,h2⟩:=ho
 refine ⟨e1,?_⟩
 rcases h2 with h2|⟨g,cap,cur,rfl,hb,hg',h3⟩
 ·exact .inl h2
 ·refine .inr ⟨g,cap,cur,rfl,hb,?_,h3⟩
  rw [Below.heap_setCell _ _ _ _ (fun e=>hnp (by subst e; rfl))]
  exact hg'
end
def VisP (J Jx:List T->(Nat->Prop)->World->Prop) (n0 l yb pb vb:Nat) (pre xs:List T) (C:Nat->Prop) (pv:Value) (q:List Int) (W:World) (e:Ending) (W':World):Prop :=
 (e=.returned (.bool true)/\∃ C' pv',J (pre++xs) C' W'/\It C' W' n0 l yb pb vb pv' q/\(∀ b,C' b->C b\/W.heap.size<=b)/\(∀ b,pv'.ownBlock=some b->pv.ownBlock=some b\/W.heap.size<=b)/\Chg (fun b=>C b\/b=pb\/pv.ownBlock=some b) W W') \/
 (e=.returned (.bool false)/\∃ pre' C',Jx pre' C' W'/\Chg (fun b=>C b\/b=pb\/pv.ownBlock=some b) W W')
def VInv (J:List T->(Nat->Prop)->World->Prop) (n0 l yb pb vb:Nat) (pre:List T) (t:T) (done:List T) (C:Nat->Prop) (pv:Value) (q:List Int) (W0 wr:World) (C':Nat->Prop) (pv':Value):Prop :=
 J (pre++(t::done)) C' wr/\It C' wr n0 l yb pb vb pv' q/\(∀ b,C' b->C b\/W0.heap.size<=b)/\(∀ b,pv'.ownBlock=some b->pv.ownBlock=some b\/W0.heap.size<=b)/\Chg (fun b=>C b\/b=pb\/pv.ownBlock=some b) W0 wr
theorem fnCloneN:IsFn Tryz.prog 76 Tryz.f76:=⟨Tryz.func76,by kernel_rfl,by kernel_rfl⟩
def NewIV (w:World) (xs:List Int) (v:Value) (w':World):Prop:=∃ A' c',v=.slice A' xs.length c'/\RowI w' (From w.heap.size) A' xs/\xs.length<=c'/\Below w.heap.size w w'
theorem newIV_of {P:Program} {f:FuncId} {args:Array Value} {w:World} {xs:List Int} (h:Calls P f args w (NewI w xs)):Calls P f args w fun e w'=>∃ v,e=.returned v/\NewIV w xs v w' :=
 h.mono fun _ _ ⟨A,c,he,hn⟩=>⟨_,he,A,c,rfl,hn⟩
theorem visit_any (n l n0 yb pb vb:Nat) (R:Nat->Prop) (xs:List T) (J Jx:List T->(Nat->Prop)->World->Prop) (hJ:∀ pre C W W',J pre C W->Chg (fun b=>¬ C b) W W'->J pre C W') (hJlt:∀ pre C W,J pre C W->∀ b,C b->b<W.heap.size)
  (hR:∀ b,R b->b<n0) (hl0:l<n0)
  (hY:∀ pre x C W pv v,J pre C W->(pre++[x]) <+: xs->(∃ A m c,pv=.slice A m c)->NV W (fun b=>l<b) x v ->
   YieldAt (Fw none) (n-1) Tryz.prog l #[pv,v] W fun e W' =>
    (e=.returned (.bool true)/\∃ C',J (pre++[x]) C' W'/\(∀ b,C' b->C b\/W.heap.size<=b)/\Chg C W W') \/
    (e=.returned (.bool false)/\∃ C',Jx (pre++[x]) C' W'/\Chg C W W')) (t:T) :
  ∀ (pre:List T) (C:Nat->Prop) (W:World) (pv:Value) (q:List Int) (v:Value),J pre C W->It C W n0 l yb pb vb pv q->NV W R t v->(∀ b,C b->¬ R b)->(pre++po t) <+: xs->q.length+dep t<=1000 ->
   Calls Tryz.prog 168 #[v,.pointer (some ⟨yb,0,none⟩),.pointer (some ⟨pb,0,none⟩),.pointer (some ⟨vb,0,none⟩)] W (VisP J Jx n0 l yb pb vb pre (po t) C pv q W):=by
 have HJ:=zh hJ
 have HJLT:=zh hJlt
 have HY:=zh hY
 have HRR:=zh hR
 clear hJ hJlt hY hR
 obtain ⟨i0,hi0,hz0,hz1,hz2⟩:=info_parts intInfo
 induction t using T.ind with
 | _ k nn s ks ih =>
 intro pre C W pv q v hj hit hv hCR hpre hdep
 have HIH:=zh ih
 have HJ0:=zh hj
 have HIT:=zh hit
 have HV:=zh hv
 have HCR:=zh hCR
 have HPRE:=zh hpre
 obtain ⟨A,c,rfl,hf,hlk,hlc,hrow⟩:=hv.open_
 simp only [T.k_nd,T.n_nd,T.s_nd,T.ks_nd] at *
 have hlk':=LK_int hlk
 have HROW:=zh hrow
 have hlts:=hit.lt
 obtain ⟨Ap,cp,rfl,hcp,hri⟩:=ownsRow_rowI hit.row hit.fits
 have HRI:=zh hri
 have HLT:=zh hlts
 have hly:=hlts.1
 have hlp:=hlts.2.1
 have hlv:=hlts.2.2.1
 clear ih hj hit hv hCR hpre hrow hri hlts hcp hlc
 simp only [dep] at hdep
 have hql:q.length<=1000:=by omega
 go_enter Tryz.func168,Tryz.ntmps168
 go_upto_region 1 with fail
 have hbW:=(Below.refl W.heap.size W).alloc (Nat.le_refl _) (.cells #[.int .u8 k,.int .i64 nn,.string s,.slice A ks.length c] 29)
 obtain ⟨W0,hW0⟩:∃ W0,W.alloc (.cells #[.int .u8 k,.int .i64 nn,.string s,.slice A ks.length c] 29)=W0:=⟨_,rfl⟩
 rw [hW0] at hbW ⊢
 have hnb:W0.heap[W.heap.size]?=some (.cells #[.int .u8 k,.int .i64 nn,.string s,.slice A ks.length c] 29 (0,0)):=by rw [<-hW0]; exact heap_alloc_new W _
 have HZ0:=zh (show W0.heap.size=W.heap.size+1 by rw [<-hW0]; simp)
 have HBW:=zh hbW
 have HNB:=zh hnb
 have HIT0:=zh (HIT.out.later hbW)
 have HS:=zh (show ∀ w':World,w'.heap[yb]?=W0.heap[yb]?->w'.heap[pb]?=W0.heap[pb]?->w'.heap[W.heap.size]?=W0.heap[W.heap.size]?->(fun w':World=>(w'.cell? ⟨yb,0,none⟩=some (.func (.yield l) #[] #[]))/\(w'.cell? ⟨pb,0,none⟩=some (.slice Ap q.length cp))/\(w'.cell? ⟨W.heap.size,0,none⟩=some (.int .u8 k)/\w'.cell? ⟨W.heap.size,1,none⟩=some (.int .i64 nn)/\w'.cell? ⟨W.heap.size,2,none⟩=some (.string s)/\w'.cell? ⟨W.heap.size,3,none⟩=some (.slice A ks.length c))) w' from fun w' h1 h2 h3=>⟨zc (h1.trans HIT0.out.y) rfl,zc (h2.trans HIT0.out.p) rfl,box4 (h3.trans hnb)⟩)
 have HSB:=zh (show ∀ w':World,Below W0.heap.size W0 w'->(fun w':World=>(w'.cell? ⟨yb,0,none⟩=some (.func (.yield l) #[] #[]))/\(w'.cell? ⟨pb,0,none⟩=some (.slice Ap q.length cp))/\(w'.cell? ⟨W.heap.size,0,none⟩=some (.int .u8 k)/\w'.cell? ⟨W.heap.size,1,none⟩=some (.int .i64 nn)/\w'.cell? ⟨W.heap.size,2,none⟩=some (.string s)/\w'.cell? ⟨W.heap.size,3,none⟩=some (.slice A ks.length c))) w' from fun w' h=>HS.out w' (h.block _ (by have:=HIT0.out.lt.1; omega)) (h.block _ (by have:=HIT0.out.lt.2.1; omega)) (h.block _ (blk_lt hnb)))
 clear hW0 hbW hnb
 have hdr:=(Below.refl W0.heap.size W0).drew
 have hSS:(fun w':World=>(w'.cell? ⟨yb,0,none⟩=some (.func (.yield l) #[] #[]))/\(w'.cell? ⟨pb,0,none⟩=some (.slice Ap q.length cp))/\(w'.cell? ⟨W.heap.size,0,none⟩=some (.int .u8 k)/\w'.cell? ⟨W.heap.size,1,none⟩=some (.int .i64 nn)/\w'.cell? ⟨W.heap.size,2,none⟩=some (.string s)/\w'.cell? ⟨W.heap.size,3,none⟩=some (.slice A ks.length c))) W0.drew:=HSB.out _ hdr
 refine wp_region_noPanic ?_
 refine (wpIn_wide (n:=n)).1 ?_
 refine wpIn_region_I (ro:=none) (fun w':World=>(w'.cell? ⟨yb,0,none⟩=some (.func (.yield l) #[] #[]))/\(w'.cell? ⟨pb,0,none⟩=some (.slice Ap q.length cp))/\(w'.cell? ⟨W.heap.size,0,none⟩=some (.int .u8 k)/\w'.cell? ⟨W.heap.size,1,none⟩=some (.int .i64 nn)/\w'.cell? ⟨W.heap.size,2,none⟩=some (.string s)/\w'.cell? ⟨W.heap.size,3,none⟩=some (.slice A ks.length c))) (by kernel_rfl) ?_
 refine wpI_take (i:=0) (v:=?_) rfl (by kernel_rfl) (by kernel_rfl) (by kernel_rfl) (by kernel_rfl) (fun _ _ _ h=>h) (Or.inl ⟨by rfl,?_⟩) hSS ?_
 rotate_left 1
 ·(intro w hSw; (try dsimp only at hSw); (try simp only [zA,zB,zC]); go_simp; (try with_reducible rfl))
 (try simp only [Act.put,zP])
 refine wpI_take (i:=1) (v:=?_) rfl (by kernel_rfl) (by kernel_rfl) (by kernel_rfl) (by kernel_rfl) (fun _ _ _ h=>h) (Or.inl ⟨by rfl,?_⟩) hSS ?_
 rotate_left 1
 ·(intro w hSw; (try dsimp only at hSw); (try simp only [zA,zB,zC]); go_simp; (try with_reducible rfl))
 (try simp only [Act.put,zP])
 refine wpI_take (i:=3) (v:=?_) rfl (by kernel_rfl) (by kernel_rfl) (by kernel_rfl) (by kernel_rfl) (fun _ _ _ h=>h) (Or.inl ⟨by rfl,?_⟩) hSS ?_
 rotate_left 1
 ·(intro w hSw; (try dsimp only at hSw); (try simp only [zA,zB,zC]); go_simp; (try with_reducible rfl))
 (try simp only [Act.put,zP])
 refine wpI_one (i:=2) (by kernel_rfl) rfl (by kernel_rfl) (by rfl) (fun K hK=>?_)
 refine step_call1 (by rfl) (.func 49) (.tmp 9) _ (by rfl) 49 _ fnCloneI (by rfl) _ (by rfl) _ (newIV_of (CloneI_any q Ap cp _ _ ((HRI.out.later HBW.out).later hdr) (by unfold LI; omega))) ?_
 rintro v2 w2 ⟨A2,c2,rfl,_,_,bw2⟩
 have b2:=bl_tt hdr bw2
 have hSS2:(fun w':World=>(w'.cell? ⟨yb,0,none⟩=some (.func (.yield l) #[] #[]))/\(w'.cell? ⟨pb,0,none⟩=some (.slice Ap q.length cp))/\(w'.cell? ⟨W.heap.size,0,none⟩=some (.int .u8 k)/\w'.cell? ⟨W.heap.size,1,none⟩=some (.int .i64 nn)/\w'.cell? ⟨W.heap.size,2,none⟩=some (.string s)/\w'.cell? ⟨W.heap.size,3,none⟩=some (.slice A ks.length c))) w2:=HSB.out _ b2
 refine hK.out _ _ hSS2 ?_
 clear hK K hSS
 (try simp only [Act.put,zP])
 refine wpI_one (i:=4) (by kernel_rfl) rfl (by kernel_rfl) (by rfl) (fun K hK=>?_)
 refine step_call1 (by rfl) (.func 76) (.tmp 11) _ (by rfl) 76 _ fnCloneN (by rfl) _ (by rfl) _ (newV_of (Clone_any (.nd k nn s ks) _ _ ((HV.out.later HBW.out).later b2).any)) ?_
 rintro v3 w3 ⟨k3,n3,s3,A3,l3,c3,rfl,hn3,bw3⟩
 have b3:=bl_tt b2 bw3
 have hSS3:(fun w':World=>(w'.cell? ⟨yb,0,none⟩=some (.func (.yield l) #[] #[]))/\(w'.cell? ⟨pb,0,none⟩=some (.slice Ap q.length cp))/\(w'.cell? ⟨W.heap.size,0,none⟩=some (.int .u8 k)/\w'.cell? ⟨W.heap.size,1,none⟩=some (.int .i64 nn)/\w'.cell? ⟨W.heap.size,2,none⟩=some (.string s)/\w'.cell? ⟨W.heap.size,3,none⟩=some (.slice A ks.length c))) w3:=HSB.out _ b3
 refine hK.out _ _ hSS3 ?_
 clear hK K hSS2
 (try simp only [Act.put,zP])
 have bW3:=bl_tt HBW.out b3
 have hj3:=HJ.out _ _ _ _ HJ0.out (Chg.of_below bW3)
 have hit3:=HIT.out.later bW3
 obtain ⟨yfn,ytmps,yas,ybo,hyr,hyR⟩:=HY.out pre (.nd k nn s ks) C w3 (.slice A2 q.length c2) (nv k3 n3 s3 A3 l3 c3) hj3 (by
  have:=HPRE.out
  simp only [po] at this
  exact (List.prefix_append_right_inj pre).2 ⟨_,rfl⟩ |>.trans this) ⟨_,_,_,rfl⟩ (hn3.mono fun b hb=>by have h1:=HIT.out.gp; have h2:=b2.size; have h3:=HZ0.out; have h4:w2.heap.size<=b:=hb; omega)
 refine wpI_yield (i:=5) (by kernel_rfl) rfl (by kernel_rfl) (by rfl) (l:=l) (f:=yfn) (tmps:=ytmps) (assign:=yas) (body:=ybo) ?_ hyR ?_
 ·(try simp only [zA,zB,zC])
  go_simp
 ·clear hyr hyR
  rintro e W1 (⟨rfl,C1,hj1,hC1,hch1⟩|⟨rfl,C1,hjx1,hch1⟩)
  ·have hSS4:(fun w':World=>(w'.cell? ⟨yb,0,none⟩=some (.func (.yield l) #[] #[]))/\(w'.cell? ⟨pb,0,none⟩=some (.slice Ap q.length cp))/\(w'.cell? ⟨W.heap.size,0,none⟩=some (.int .u8 k)/\w'.cell? ⟨W.heap.size,1,none⟩=some (.int .i64 nn)/\w'.cell? ⟨W.heap.size,2,none⟩=some (.string s)/\w'.cell? ⟨W.heap.size,3,none⟩=some (.slice A ks.length c))) W1:=HS.out _ ((hch1.block _ (by have:=hit3.lt.1; omega) hit3.cy).trans (b3.block _ (by have:=HIT0.out.lt.1; omega))) ((hch1.block _ (by have:=hit3.lt.2.1; omega) hit3.cp).trans (b3.block _ (by have:=HIT0.out.lt.2.1; omega))) ((hch1.block _ (by have:=bW3.size; have:=b3.size; have:=HZ0.out; omega) (fun h=>by have:=HJLT.out _ _ _ HJ0.out _ h; omega)).trans (b3.block _ (by have:=HZ0.out; omega)))
   refine ⟨_,rfl,hSS4,?_⟩
   (try simp only [Act.put,zP])
   refine wpI_take (i:=6) (v:=?_) rfl (by kernel_rfl) (by kernel_rfl) (by kernel_rfl) (by kernel_rfl) (fun _ _ _ h=>h) (Or.inl ⟨by rfl,?_⟩) hSS4 ?_
   rotate_left 1
   ·(intro w hSw; (try dsimp only at hSw); (try simp only [zA,zB,zC]); go_simp; (try with_reducible rfl))
   (try simp only [Act.put,zP])
   refine wpI_done (by kernel_rfl) ?_
   refine NoPanic.normal ?_
   obtain ⟨_,_,_,_,_,m3⟩:=hSS4
   have hit1:It C1 W1 n0 l yb pb vb (.slice Ap q.length cp) q:=hit3.chg hch1 (fun b hb=>by
    rcases hb with rfl|rfl|rfl|hb
    ·exact hit3.cy
    ·exact hit3.cp
    ·exact hit3.cv
    ·exact hit3.cr b hb) (fun b hb hc=>by
    have hl3:=hit3.lt
    rcases hC1 b hc with h|h
    ·rcases hb with rfl|rfl|rfl|hb
     ·exact hit3.cy h
     ·exact hit3.cp h
     ·exact hit3.cv h
     ·exact hit3.cr b hb h
    ·rcases hb with rfl|rfl|rfl|hb
     ·omega
     ·omega
     ·omega
     ·have:=hl3.2.2.2 b hb; omega)
   have HI0:=zh (show VInv J n0 l yb pb vb pre (.nd k nn s ks) [] C (.slice Ap q.length cp) q W0 W1 C1 (.slice Ap q.length cp) from ⟨hj1,hit1,fun b hb=>by
    have:=b3.size
    rcases hC1 b hb with h|h
    ·exact .inl h
    ·exact .inr (by omega),fun b hb=>.inl hb,(Chg.of_below b3).trans2 hch1 fun b _ h=>.inl h⟩)
   clear hj1 hC1 hch1 hSS3 hj3 hit3 hit1 b3 b2 bW3 bw2 bw3 hn3 hdr HJ0 HIT0 HSB HS HRI
   go_wp2_with fail
   go_loopw [18] (fun i wr=>∃ (j:Nat) (C':Nat->Prop) (pv':Value),j<=ks.length/\i=.int .i64 j/\VInv J n0 l yb pb vb pre (.nd k nn s ks) (pos (ks.take j)) C (.slice Ap q.length cp) q W0 wr C' pv') (fun i _=>ks.length-(intOf i).toNat)
   case atStart=>exact ⟨0,C1,_,Nat.zero_le _,rfl,HI0.out⟩
   case round =>
    obtain ⟨j,C',pv',hj,rfl,hinv⟩:=hrel
    have HINV:=zh hinv
    clear m3 HI0
    by_cases hlt:j<ks.length
    ·obtain ⟨hjj,hit,hCC,hob,hch⟩:=hinv
     have hn0p:=hit.gp
     have hrow:=HROW.out.keep (w':=wr) (S':=R) (fun b hb _=>hb) (fun b hb hblt=>by
      have hb0:=HRR.out b hb
      rw [hch.block b (by have:=HZ0.out; omega) (fun h=>by
       rcases h with h|h|h
       ·exact HCR.out b h hb
       ·omega
       ·have:=HLT.out.2.2.2 b h; omega)]
      exact HBW.out.block b hblt)
     obtain ⟨a,u,A1,c1,rfl,_,Hu,⟨q0,q1,q2,q3⟩,hnu⟩:=hrow.nd hlt
     obtain ⟨Aq,cq,rfl,_,_⟩:=ownsRow_rowI hit.row hit.fits
     have p1:wr.cell? ⟨pb,0,none⟩=some (.slice Aq q.length cq):=zc hit.p rfl
     have hltw:=hit.lt
     have hCl:=HJLT.out _ _ _ hjj
     have hn0w:n0<=wr.heap.size:=by have:=hltw.2.1; omega
     have hsz0:=hch.size
     have bk:Below wr.heap.size wr ((wr.alloc (.cells #[.int .u8 u.k,.int .i64 u.n,.string u.s,.slice A1 u.ks.length c1] 29)).alloc (.cells #[.int .i64 (j:Int)] 3)):=((Below.refl _ _).alloc (Nat.le_refl _) _).alloc (by simp) _
     have hitk:=hit.later bk
     have hpk:=hitk.p
     have p2:(wr.alloc (.cells #[.int .u8 u.k,.int .i64 u.n,.string u.s,.slice A1 u.ks.length c1] 29)).cell? ⟨pb,0,none⟩=some (.slice Aq q.length cq):=cell_al p1 _
     have hm1:q.length+1<=maxLen:=by unfold maxLen; omega
     have hm2:(q.length+1)*8<=140737488355328:=by omega
     have HJJ:=zh hjj
     have HITK:=zh hitk
     have HITR:=zh hit
     have HNU:=zh hnu
     have HCC:=zh hCC
     have HOB:=zh hob
     have HCHR:=zh hch
     have HLW:=zh hltw
     have HCL:=zh hCl
     have hrowk:=hitk.row
     have hbI:=buildI1
     have hnew:∀ (i:Nat) (u':Value),[Value.int .i64 (j:Int)][i]?=some u'->((wr.alloc (.cells #[.int .u8 u.k,.int .i64 u.n,.string u.s,.slice A1 u.ks.length c1] 29)).alloc (.cells #[.int .i64 (j:Int)] 3)).cell? ((⟨wr.heap.size+1,0,none⟩:Addr).add i)=some u':=fun i u' h=>by
      have:=news_newN (wr.alloc (.cells #[.int .u8 u.k,.int .i64 u.n,.string u.s,.slice A1 u.ks.length c1] 29)) 3 [Value.int .i64 (j:Int)] i u' h
      simpa using this
     clear hjj hit hCC hob hch hrow hnu hitk hCl hltw
     go_wp2_with (at_builtin; refine wpList_append_own_at (P:=Tryz.prog) _ rfl (.tmp 23) (.tmp 25) 24 rfl n0 3 i0 _ 1 8 Tryz.underlying24 hi0 hz0 hz1 hz2 rfl (by decide) (.slice Aq q.length cq) q.length _ rfl hrowk ⟨wr.heap.size+1,0,none⟩ 1 1 [.int .i64 (j:Int)] rfl rfl hnew (by intro u' hu'; simp at hu'; subst hu'; rfl) hm1 hm2 (by simp; omega) ?_; intro v2 w2 h2 h3 h4 h5; obtain ⟨g2,cap2,rfl⟩:=ownsRow_succ h2; have hbx:=(h3.block _ (blk_lt hpk) (fun e=>HITK.out.rp e.symm)).trans hpk; have hy0:w2.cell? ⟨pb,0,none⟩=some (.slice Aq q.length cq):=zc hbx rfl; have hy1:w2.frozen? ⟨pb,0,none⟩=false:=zf hbx; have hob2:∀ b,(Value.slice (some ⟨g2,0,none⟩) (q.length+1) cap2).ownBlock=some b->(Value.slice Aq q.length cq).ownBlock=some b\/((wr.alloc (.cells #[.int .u8 u.k,.int .i64 u.n,.string u.s,.slice A1 u.ks.length c1] 29)).alloc (.cells #[.int .i64 (j:Int)] 3)).heap.size<=b:=(fun b hb=>by rcases h5 with h5|h5; exact .inl (h5▸hb); exact .inr (by rw [hb] at h5; injection h5 with h5; omega)); have hst:=HITK.out.put (q':=q++[(j:Int)]) (by simpa using h2) (by intro x hx; simp only [List.mem_append,List.mem_singleton] at hx; rcases hx with hx|rfl; exact HITK.out.fits x hx; exact ⟨by omega,by omega⟩) h3 hob2 (fun b hb=>by have:=HCL.out b hb; simp; omega); have hkb:w2.heap[wr.heap.size]?=some (.cells #[.int .u8 u.k,.int .i64 u.n,.string u.s,.slice A1 u.ks.length c1] 29 (0,0)):=(h3.block _ (by simp; omega) (fun e=>by have:=HLW.out.2.2.2 _ e.symm; omega)).trans (blk_al (heap_alloc_new wr (.cells #[.int .u8 u.k,.int .i64 u.n,.string u.s,.slice A1 u.ks.length c1] 29)) _); have hvb:w2.heap[vb]?=some _:=(h3.block _ (blk_lt HITK.out.v) (fun e=>HITK.out.rv e.symm)).trans HITK.out.v; have y3:w2.cell? ⟨vb,0,none⟩=some (.func (.func 168) #[] #[.pointer (some ⟨yb,0,none⟩),.pointer (some ⟨pb,0,none⟩),.pointer (some ⟨vb,0,none⟩)]):=zc hvb rfl; obtain ⟨k0,k1,k2,k3'⟩:=box4 hkb; have HST:=zh hst; have HGR:=zh h3; have HOB2:=zh hob2; have hne1:¬ wr.heap.size=pb:=(fun e=>by have:=HLW.out.2.1; omega); have hne2:¬ pb=wr.heap.size:=(fun e=>hne1 e.symm); have hne3:¬ vb=pb:=HITK.out.nvp; have hne4:¬ pb=vb:=(fun e=>hne3 e.symm); clear h2 h3 h4 h5 hst hbx hkb hvb hob2)
     have hchA:Chg (fun b=>b=pb\/(Value.slice Aq q.length cq).ownBlock=some b) wr (w2.setCell ⟨pb,0,none⟩ (.slice (some ⟨g2,0,none⟩) (q.length+1) cap2)):=((((Chg.refl _ wr).alloc _).alloc _).trans2 (Chg.row HGR.out) (fun b _ h=>.inr h)).setCell (.inl (.inl rfl)) _
     have hszA:=hchA.size
     have hjA:J (pre++((.nd k nn s ks)::pos (ks.take j))) C' (w2.setCell ⟨pb,0,none⟩ (.slice (some ⟨g2,0,none⟩) (q.length+1) cap2)):=HJ.out _ _ _ _ HJJ.out (hchA.mono fun b _ hb hc=>by
      rcases hb with rfl|hb
      ·exact HITR.out.cp hc
      ·exact HITR.out.cr b hb hc)
     have hnA:NV (w2.setCell ⟨pb,0,none⟩ (.slice (some ⟨g2,0,none⟩) (q.length+1) cap2)) R u (nv u.k u.n u.s A1 u.ks.length c1):=HNU.out.keep (fun b hb _=>hb) (fun b hb hblt=>hchA.block b hblt (fun h=>by
      have hb0:=HRR.out b hb
      rcases h with h|h
      ·have:=HITR.out.gp; omega
      ·have:=(HLW.out.2.2.2 b h).1; omega))
     have hCRA:∀ b,C' b->¬ R b:=fun b hb hr=>by
      rcases HCC.out b hb with h|h
      ·exact HCR.out b h hr
      ·have:=HRR.out b hr; have:=HIT.out.gp; have:=HZ0.out; omega
     have hpreA:(pre++((.nd k nn s ks)::pos (ks.take j)))++po u <+: xs:=by
      have h:=HPRE.out
      refine List.IsPrefix.trans ?_ h
      rw [List.append_assoc]
      refine (List.prefix_append_right_inj pre).2 ?_
      simp only [po,List.cons_append,List.prefix_cons_inj]
      rw [<-Hu.out]
      exact pos_pre hlt
     have hdA:(q++[(j:Int)]).length+dep u<=1000:=by
      have:dep u<=deps ks:=by rw [<-Hu.out]; exact dep_le (List.getElem_mem hlt)
      simp
      omega
     have HC:=zh (HIH.out u (by rw [<-Hu.out]; exact List.getElem_mem hlt) _ C' _ _ _ _ hjA HST.out hnA hCRA hpreA hdA)
     have HCHA:=zh hchA
     have HSZA:=zh hszA
     have hE:=HST.out.lt.2.1
     clear hjA hnA hCRA hpreA hdA hchA hszA
     have HCHW:=zh (show Chg (fun b=>C b\/b=pb\/(Value.slice Ap q.length cp).ownBlock=some b) W0 (w2.setCell ⟨pb,0,none⟩ (.slice (some ⟨g2,0,none⟩) (q.length+1) cap2)) from HCHR.out.trans2 HCHA.out fun b hb h=>by
      rcases h with h|h
      ·exact .inr (.inl h)
      ·rcases HOB.out b h with h|h
       ·exact .inr (.inr h)
       ·omega)
     have HOBW:=zh (show ∀ b,(Value.slice (some ⟨g2,0,none⟩) (q.length+1) cap2).ownBlock=some b->(Value.slice Ap q.length cp).ownBlock=some b\/W0.heap.size<=b from fun b hb=>by
      rcases HOB2.out b hb with h|h
      ·exact HOB.out b h
      ·exact .inr (by simp at h; omega))
     refine HC.out.mono ?_
     rintro e W5 (⟨rfl,C2,pv3,hj2,hit2,hC2,hob3,hch2⟩|⟨rfl,pre',C2,hjx2,hch2⟩)
     ·have hrow2:=hit2.row
      rw [show (q++[(j:Int)]).length=q.length+1 by simp] at hrow2
      obtain ⟨g3,cap3,rfl⟩:=ownsRow_succ hrow2
      have hcap3:q.length<=cap3:=by
       rcases hrow2.2 with ⟨h,_⟩|⟨g',cap',cur,hv',_,_,hc',_⟩
       ·cases h
       ·cases hv'; omega
      have hcap4:(q.length:Int)<=(cap3:Int):=by omega
      have hlt2:=hit2.lt
      have x0:W5.cell? ⟨pb,0,none⟩=some (.slice (some ⟨g3,0,none⟩) (q.length+1) cap3):=zc hit2.p rfl
      have x1:W5.frozen? ⟨pb,0,none⟩=false:=zf hit2.p
      have hpop:=ownsRow_pop (size:=1) (n:=q.length) (xs:=q.map fun x=>Value.int .i64 x) (last:=[.int .i64 (j:Int)]) (by simp) (by simpa using hrow2)
      have hC2l:=HJLT.out _ _ _ hj2
      have hst2:=hit2.put (q':=q) hpop HIT.out.fits (only_refl _ _) (fun b hb=>.inl hb) hC2l
      have hjF:J (pre++((.nd k nn s ks)::pos (ks.take (j+1)))) C2 (W5.setCell ⟨pb,0,none⟩ (.slice (some ⟨g3,0,none⟩) q.length cap3)):=by
       have:=HJ.out _ _ _ _ hj2 (((Chg.refl (fun b=>b=pb) W5).setCell (p:=⟨pb,0,none⟩) (.inl rfl) (.slice (some ⟨g3,0,none⟩) q.length cap3)).mono fun b _ hb hc=>by rw [show b=pb from hb] at hc; exact hit2.cp hc)
       rw [pos_take hlt,Hu.out]
       simpa using this
      have HF:=zh (show VInv J n0 l yb pb vb pre (.nd k nn s ks) (pos (ks.take (j+1))) C (.slice Ap q.length cp) q W0 (W5.setCell ⟨pb,0,none⟩ (.slice (some ⟨g3,0,none⟩) q.length cap3)) C2 (.slice (some ⟨g3,0,none⟩) q.length cap3) from ⟨hjF,hst2,fun b hb=>by
        rcases hC2 b hb with h|h
        ·exact HCC.out b h
        ·exact .inr (by have:=HSZA.out; omega),fun b hb=>by
        rcases hob3 b hb with h|h
        ·exact HOBW.out b h
        ·exact .inr (by have:=HSZA.out; omega),(HCHW.out.trans2 hch2 fun b hb h=>by
        rcases h with h|h|h
        ·rcases HCC.out b h with h|h
         ·exact .inl h
         ·omega
        ·exact .inr (.inl h)
        ·rcases HOBW.out b h with h|h
         ·exact .inr (.inr h)
         ·omega).setCell (.inl (.inr (.inl rfl))) _⟩)
      clear hrow2 hlt2 hpop hC2l hst2 hjF hj2 hit2 hC2 hob3 hch2
      go_wp2_with fail
      go_roundw
      case rel=>exact ⟨j+1,C2,_,by omega,by go_num,HF.out⟩
      case measure=>simp [intOf]; omega
     ·have HX:=zh hjx2
      have HF:=zh (show Chg (fun b=>C b\/b=pb\/(Value.slice Ap q.length cp).ownBlock=some b) W W5 from (Chg.of_below HBW.out).trans2 (HCHW.out.trans2 hch2 fun b hb h=>by
        rcases h with h|h|h
        ·rcases HCC.out b h with h|h
         ·exact .inl h
         ·omega
        ·exact .inr (.inl h)
        ·rcases HOBW.out b h with h|h
         ·exact .inr (.inr h)
         ·omega) fun b _ h=>h)
      clear hjx2 hch2
      go_wp2_with fail
      go_ret
      exact .inr ⟨rfl,_,_,HX.out,HF.out⟩
    ·obtain rfl:j=ks.length:=by omega
     clear hinv
     go_wp2_with fail
     go_ret
     have hinv:=HINV.out
     rw [List.take_of_length_le (Nat.le_refl _)] at hinv
     obtain ⟨hjj,hit,hCC,hob,hch⟩:=hinv
     refine .inl ⟨rfl,C',pv',by simpa [po] using hjj,hit,fun b hb=>(hCC b hb).imp id fun h=>?_,fun b hb=>(hob b hb).imp id fun h=>?_,(Chg.of_below HBW.out).trans2 hch fun b _ h=>h⟩
     ·have:=HZ0.out; omega
     ·have:=HZ0.out; omega
  ·have hSS4:(fun w':World=>(w'.cell? ⟨yb,0,none⟩=some (.func (.yield l) #[] #[]))/\(w'.cell? ⟨pb,0,none⟩=some (.slice Ap q.length cp))/\(w'.cell? ⟨W.heap.size,0,none⟩=some (.int .u8 k)/\w'.cell? ⟨W.heap.size,1,none⟩=some (.int .i64 nn)/\w'.cell? ⟨W.heap.size,2,none⟩=some (.string s)/\w'.cell? ⟨W.heap.size,3,none⟩=some (.slice A ks.length c))) W1:=HS.out _ ((hch1.block _ (by have:=hit3.lt.1; omega) hit3.cy).trans (b3.block _ (by have:=HIT0.out.lt.1; omega))) ((hch1.block _ (by have:=hit3.lt.2.1; omega) hit3.cp).trans (b3.block _ (by have:=HIT0.out.lt.2.1; omega))) ((hch1.block _ (by have:=bW3.size; have:=b3.size; have:=HZ0.out; omega) (fun h=>by have:=HJLT.out _ _ _ HJ0.out _ h; omega)).trans (b3.block _ (by have:=HZ0.out; omega)))
   refine ⟨_,rfl,hSS4,?_⟩
   (try simp only [Act.put,zP])
   refine wpI_take (i:=6) (v:=?_) rfl (by kernel_rfl) (by kernel_rfl) (by kernel_rfl) (by kernel_rfl) (fun _ _ _ h=>h) (Or.inl ⟨by rfl,?_⟩) hSS4 ?_
   rotate_left 1
   ·(intro w hSw; (try dsimp only at hSw); (try simp only [zA,zB,zC]); go_simp; (try with_reducible rfl))
   (try simp only [Act.put,zP])
   refine wpI_done (by kernel_rfl) ?_
   refine NoPanic.normal ?_
   have HJX:=zh hjx1
   have HCH:=zh ((Chg.of_below (C:=fun b=>C b\/b=pb\/(Value.slice Ap q.length cp).ownBlock=some b) bW3).trans2 hch1 fun b _ h=>.inl h)
   clear hjx1 hch1 hSS4 hSS3 hj3 hit3
   go_wp2_with fail
   go_ret
   exact .inr ⟨rfl,_,_,HJX.out,HCH.out⟩
theorem Walk1_stops (n gr:Nat) (t:T) (W:World) (S:Nat->Prop) (k nn:Int) (s:ByteArray) (A:Option Addr) (m c:Nat) (hgr:W.heap[gr]?=some (.cells #[.int .u8 k,.int .i64 nn,.string s,.slice A m c] 29 (0,0)))
  (hn:NV W S t (nv k nn s A m c)) (hd:dep t<=1000):WalkC n Tryz.prog 167 #[.pointer (some ⟨gr,0,none⟩)] (po t) (fun b=>b=gr\/S b) W:=by
 intro l J Jx C W1 hl0 hCR hch hJ hJlt hY h0
 refine (callsIn_wide (n:=n)).2 ?_
 have hgr1:=hch.keep hgr fun h=>hCR _ h (.inl rfl)
 have hn1:NV W1 (fun b=>S b/\b<W1.heap.size) t (nv k nn s A m c):=hn.keep (fun b hb hlt=>⟨hb,Nat.lt_of_lt_of_le hlt hch.size⟩) fun b hb hlt=>hch.block b hlt fun h=>hCR _ h (.inr hb)
 have hgl:=blk_lt hgr1
 have HJ:=zh hJ
 have HJLT:=zh hJlt
 have HY:=zh hY
 have H0:=zh h0
 have HN:=zh hn1
 have HGR:=zh hgr1
 have HC:=zh (show ∀ b,C b->¬ (S b/\b<W1.heap.size) from fun b hb hs=>hCR b hb (.inr hs.1))
 obtain ⟨m0,m1,m2,m3⟩:=box4 hgr1
 have z0:=fun o1 o2 o3=>cell_al (cell_al (cell_al m0 o1) o2) o3
 have z1:=fun o1 o2 o3=>cell_al (cell_al (cell_al m1 o1) o2) o3
 have z2:=fun o1 o2 o3=>cell_al (cell_al (cell_al m2 o1) o2) o3
 have z3:=fun o1 o2 o3=>cell_al (cell_al (cell_al m3 o1) o2) o3
 clear hCR hch hJ hJlt hY h0 hgr hn hn1 hgr1 m0 m1 m2 m3
 show Calls Tryz.prog 167 #[.func (.yield l) #[] #[],.pointer (some ⟨gr,0,none⟩)] W1 _
 go_enter Tryz.func167,Tryz.ntmps167
 go_wp2_with fail
 obtain ⟨Wv,hWv⟩:∃ Wv,(((W1.alloc (.cells #[.func (.yield l) #[] #[]] 218)).alloc (.cells #[.slice none 0 0] 24)).alloc (.cells #[.func (.func 168) #[] #[.pointer (some ⟨W1.heap.size,0,none⟩),.pointer (some ⟨W1.heap.size+1,0,none⟩),.pointer (some ⟨W1.heap.size+1+1,0,none⟩)]] 105))=Wv:=⟨_,rfl⟩
 have hb3:Below W1.heap.size W1 Wv:=by rw [<-hWv]; exact bl_al (bl_al (bl_al (Below.refl _ _) _) _) _
 have hit:It C Wv W1.heap.size l W1.heap.size (W1.heap.size+1) (W1.heap.size+1+1) (.slice none 0 0) []:=by
  have hCl:=HJLT.out _ _ _ H0.out
  have hy:=blk_al (blk_al (heap_alloc_new W1 (.cells #[.func (.yield l) #[] #[]] 218)) (.cells #[.slice none 0 0] 24)) (.cells #[.func (.func 168) #[] #[.pointer (some ⟨W1.heap.size,0,none⟩),.pointer (some ⟨W1.heap.size+1,0,none⟩),.pointer (some ⟨W1.heap.size+1+1,0,none⟩)]] 105)
  have hp:=blk_al (heap_alloc_new (W1.alloc (.cells #[.func (.yield l) #[] #[]] 218)) (.cells #[.slice none 0 0] 24)) (.cells #[.func (.func 168) #[] #[.pointer (some ⟨W1.heap.size,0,none⟩),.pointer (some ⟨W1.heap.size+1,0,none⟩),.pointer (some ⟨W1.heap.size+1+1,0,none⟩)]] 105)
  have hv:=heap_alloc_new ((W1.alloc (.cells #[.func (.yield l) #[] #[]] 218)).alloc (.cells #[.slice none 0 0] 24)) (.cells #[.func (.func 168) #[] #[.pointer (some ⟨W1.heap.size,0,none⟩),.pointer (some ⟨W1.heap.size+1,0,none⟩),.pointer (some ⟨W1.heap.size+1+1,0,none⟩)]] 105)
  simp only [World.size_alloc] at hp hv
  rw [hWv] at hy hp hv
  exact ⟨hy,hv,hp,World.ownsRow_nil _ _ _ _,(by simp),by omega,by omega,by omega,by omega,by omega,by simp [Value.ownBlock],by simp [Value.ownBlock],by simp [Value.ownBlock],
   (fun h=>by have:=hCl _ h; omega),(fun h=>by have:=hCl _ h; omega),(fun h=>by have:=hCl _ h; omega),(by simp [Value.ownBlock])⟩
 rw [hWv]
 have hj:=HJ.out _ _ _ _ H0.out (Chg.of_below hb3)
 refine (visit_any n l W1.heap.size W1.heap.size (W1.heap.size+1) (W1.heap.size+1+1) (fun b=>S b/\b<W1.heap.size) (po t) J Jx HJ.out HJLT.out (fun b hb=>hb.2) hl0 HY.out t [] C Wv (.slice none 0 0) [] _ hj hit (HN.out.later hb3) HC.out (by simp) (by simpa using hd)).mono ?_
 rintro e W5 (⟨rfl,C2,pv3,hj2,-,-,-,hch2⟩|⟨rfl,pre',C2,hjx2,hch2⟩)
 ·have HF:=zh (show Chg C W1 W5 from (Chg.of_below hb3).trans2 hch2 fun b hb h=>by
   rcases h with h|h|h
   ·exact h
   ·omega
   ·simp [Value.ownBlock] at h)
  have HX:=zh hj2
  clear hj2 hch2 z0 z1 z2 z3 hWv hit hj
  go_wp2_with fail
  go_end0
  exact ⟨⟨_,rfl⟩,.inl ⟨C2,by simpa using HX.out,HF.out⟩⟩
 ·have HF:=zh (show Chg C W1 W5 from (Chg.of_below hb3).trans2 hch2 fun b hb h=>by
   rcases h with h|h|h
   ·exact h
   ·omega
   ·simp [Value.ownBlock] at h)
  have HX:=zh hjx2
  clear hjx2 hch2 z0 z1 z2 z3 hWv hit hj
  go_wp2_with fail
  go_end0
  exact ⟨⟨_,rfl⟩,.inr ⟨pre',C2,HX.out,HF.out⟩⟩
theorem Walk_any (t:T) (v:Value) (w:World) (hv:NV w Any t v):Calls Tryz.prog 141 #[v] w fun e w'=>∃ gr k n s A m c,e=.returned (.func (.func 167) #[] #[.pointer (some ⟨gr,0,none⟩)])/\w.heap.size<=gr /\
  w'.heap[gr]?=some (.cells #[.int .u8 k,.int .i64 n,.string s,.slice A m c] 29 (0,0))/\NV w' (fun b=>w.heap.size<=b/\b<w'.heap.size) t (nv k n s A m c)/\Below w.heap.size w w':=by
 have HV:=zh hv
 obtain ⟨A,c,rfl,-⟩:=hv.open_
 clear hv
 generalize t.k=k,t.n=n,t.s=s,t.ks.length=m at *
 go_enter Tryz.func141,Tryz.ntmps141
 go_wp2_with fail
 refine (Clone_any t _ _ (HV.out.later ((Below.refl _ _).alloc (Nat.le_refl _) _))).mono ?_
 rintro e w1 ⟨k1,n1,s1,A1,m1,c1,rfl,hn1,bw1⟩
 have hb:Below w.heap.size w (w1.alloc (.cells #[.int .u8 k1,.int .i64 n1,.string s1,.slice A1 m1 c1] 29)):=bl_al (bl_tt (bl_al (Below.refl _ _) _) bw1) _
 have HB:=zh hb
 have HZ:=zh (show w.heap.size<=w1.heap.size by have:=bw1.size; simp at this; omega)
 have HN:=zh hn1
 clear bw1 hn1 hb
 go_wp2_with fail
 go_ret
 refine ⟨w1.heap.size,k1,n1,s1,A1,m1,c1,rfl,HZ.out,heap_alloc_new w1 _,HN.out.keep (fun b hb hlt=>⟨?_,by simp; omega⟩) (fun b _ hlt=>Below.heap_alloc w1 _ b hlt),HB.out⟩
 have hb':w.heap.size+1<=b:=by simpa using hb
 omega
theorem fnWalk1:IsFn Tryz.prog 167 Tryz.f167:=⟨Tryz.func167,by kernel_rfl,by kernel_rfl⟩
structure FS (W:World) (n0 fb N:Nat) (pv:Value):Prop where
 box:W.heap[fb]?=some (.cells #[pv] 106 (0,0))
 row:∃ xs,W.ownsRow n0 154 4 pv N xs
 ge:n0<=fb
 ne:pv.ownBlock≠some fb
section
variable {W W':World} {n0 fb N N':Nat} {pv pv':Value}
theorem FS.lt (h:FS W n0 fb N pv):fb<W.heap.size/\∀ b,pv.ownBlock=some b->n0<=b/\b<W.heap.size:=⟨blk_lt h.box,let ⟨_,hr⟩:=h.row; hr.lt⟩
theorem FS.chg {C:Nat->Prop} (h:FS W n0 fb N pv) (hc:Chg C W W') (hC:∀ b,b=fb\/pv.ownBlock=some b->¬ C b):FS W' n0 fb N pv:=by
 refine ⟨hc.keep h.box (hC _ (.inl rfl)),?_,h.ge,h.ne⟩
 obtain ⟨xs,e1,h2⟩:=h.row
 refine ⟨xs,e1,?_⟩
 rcases h2 with h2|⟨g,cap,cur,rfl,hb,hg,h3⟩
 ·exact .inl h2
 ·exact .inr ⟨g,cap,cur,rfl,hb,hc.keep hg (hC _ (.inr rfl)),h3⟩
theorem FS.later (h:FS W n0 fb N pv) (hb:Below W.heap.size W W'):FS W' n0 fb N pv:=h.chg (C:=fun _=>False) (Chg.of_below hb) (fun _ _ h=>h)
theorem FS.put (h:FS W n0 fb N pv) (ho:∃ xs,W'.ownsRow n0 154 4 pv' N' xs) (hg:W.grownBy W' pv.ownBlock) (hob:∀ b,pv'.ownBlock=some b->pv.ownBlock=some b\/W.heap.size<=b) :
  FS (W'.setCell ⟨fb,0,none⟩ pv') n0 fb N' pv':=by
 have hp':W'.heap[fb]?=some (.cells #[pv] 106 (0,0)):=(hg.block _ (blk_lt h.box) (fun e=>h.ne e.symm)).trans h.box
 have hnp:pv'.ownBlock≠some fb:=fun e=>by
  rcases hob _ e with e|e
  ·exact h.ne e
  ·have:=blk_lt h.box; omega
 refine ⟨by have:=heap_setCell_same W' fb 0 _ _ pv' hp'; simpa using this,?_,h.ge,hnp⟩
 obtain ⟨xs,e1,h2⟩:=ho
 refine ⟨xs,e1,?_⟩
 rcases h2 with h2|⟨g,cap,cur,rfl,hb,hg',h3⟩
 ·exact .inl h2
 ·refine .inr ⟨g,cap,cur,rfl,hb,?_,h3⟩
  rw [Below.heap_setCell _ _ _ _ (fun e=>hnp (by subst e; rfl))]
  exact hg'
theorem FS.slice (h:FS W n0 fb N pv):∃ A c,pv=.slice A N c:=by
 obtain ⟨xs,e1,h2⟩:=h.row
 rcases h2 with ⟨rfl,rfl⟩|⟨g,cap,cur,rfl,_⟩
 ·exact ⟨_,_,rfl⟩
 ·exact ⟨_,_,rfl⟩
end
def RepP (W:World) (n0 fb:Nat) (pv:Value) (N':Nat) (e:Ending) (W':World):Prop :=
 (∃ v,e=.returned v)/\∃ pv',FS W' n0 fb N' pv'/\(∀ b,pv'.ownBlock=some b->pv.ownBlock=some b\/W.heap.size<=b)/\Chg (fun b=>b=fb\/pv.ownBlock=some b) W W'
def one1 (e:Int):Nat:=if e=0 then 0 else 1
theorem fltInfo:(Tryz.prog.info? 154).map (fun i=>(i.zero,i.size,i.bytes))=some (some (.agg #[.int .i64 0,.slice none 0 0,.int .i64 0,.string ⟨#[]⟩]),4,56):=by kernel_rfl
theorem buildF (p:Int) (A:Option Addr) (l c:Nat) (e:Int) (s:ByteArray) (w:World):(Instr.build 154 #[(0,.int .i64 p),(1,.slice A l c),(2,.int .i64 e),(3,.string s)]).run Tryz.prog w=.ok (.agg #[.int .i64 p,.slice A l c,.int .i64 e,.string s]) w:=by kernel_rfl
theorem buildSF (a0 a1 a2 a3:Value) (w:World):(Instr.buildSlice 106 1 #[(0,.agg #[a0,a1,a2,a3])]).run Tryz.prog w=.ok (.slice (some ⟨w.heap.size,0,none⟩) 1 1) (w.alloc (.cells #[a0,a1,a2,a3] 154)):=by kernel_rfl
theorem report_any (n0 fb N:Nat) (pv:Value) (pr er:Int) (q:List Int) (A:Option Addr) (c:Nat) (s:ByteArray) (S:Nat->Prop) (W:World) (hfs:FS W n0 fb N pv) (hq:RowI W S A q) (hql:q.length<=100000) (hN:N<=1000000) :
  Calls Tryz.prog 92 #[.int .i64 pr,.slice A q.length c,.string s,.int .i64 er,.pointer (some ⟨fb,0,none⟩)] W (RepP W n0 fb pv (N+one1 er)):=by
 obtain ⟨i0,hi0,hz0,hz1,hz2⟩:=info_parts fltInfo
 obtain ⟨Ap,cp,rfl⟩:=hfs.slice
 have HFS:=zh hfs
 have HQ:=zh hq
 have hc0:W.cell? ⟨fb,0,none⟩=some (.slice Ap N cp):=zc hfs.box rfl
 have hbf:=buildF
 have hbs:=buildSF
 have hge:=hfs.ge
 have hlf:=hfs.lt.1
 clear hfs hq
 by_cases he:er=0
 ·subst he
  clear hc0
  go_enter Tryz.func92,Tryz.ntmps92
  go_wp2_with fail
  go_end0
  exact ⟨⟨_,rfl⟩,_,HFS.out,fun b hb=>.inl hb,Chg.refl _ _⟩
 ·have e1:(er==0)=false:=by simpa using he
  have e2:(er != 0)=true:=by simpa using he
  have HONE:=zh (show one1 er=1 by simp [one1,he])
  rw [HONE.out]
  clear he
  go_enter Tryz.func92,Tryz.ntmps92
  go_upto_region 1 with fail
  have hSS:(fun _:World=>True) W.drew/\(fun w':World=>w'.cell? ⟨fb,0,none⟩=some (.slice Ap N cp)) W.drew:=⟨trivial,hc0⟩
  refine wp_region_noPanic ?_
  refine wp_region_G (fun _:World=>True) (fun w':World=>w'.cell? ⟨fb,0,none⟩=some (.slice Ap N cp)) 8 (by kernel_rfl) ?_
  refine wpG_take2 (i:=0) (v:=?_) rfl (by kernel_rfl) (by kernel_rfl) (by kernel_rfl) (by decide) rfl (by kernel_rfl) (by kernel_rfl) (fun _ _ _ h=>h) (Or.inl ⟨by rfl,?_⟩) hSS ?_
  rotate_left 1
  ·(intro w hSw; (try dsimp only at hSw); (try simp only [zA,zB,zC]); go_simp; (try with_reducible rfl))
  (try simp only [Act.put,zP])
  refine zT 1 hSS ?_
  (try simp only [Act.put,zP])
  refine zT 2 hSS ?_
  (try simp only [Act.put,zP])
  refine zT 4 hSS ?_
  (try simp only [Act.put,zP])
  refine zT 5 hSS ?_
  (try simp only [Act.put,zP])
  refine wpG_one (i:=3) (by kernel_rfl) rfl (fun K hK=>?_)
  refine step_call1 (by rfl) (.func 49) (.tmp 13) _ (by rfl) 49 _ fnCloneI (by rfl) _ (by rfl) _ (newIV_of (CloneI_any q A c S _ (HQ.out.later (Below.refl _ _).drew) (by unfold LI; omega))) ?_
  rintro v2 w2 ⟨A2,c2,rfl,_,_,bw2⟩
  have b2:=bl_tt (Below.refl W.heap.size W).drew bw2
  have hfs2:=HFS.out.later b2
  have g2:w2.cell? ⟨fb,0,none⟩=some (.slice Ap N cp):=zc hfs2.box rfl
  have hSS2:(fun _:World=>True) w2/\(fun w':World=>w'.cell? ⟨fb,0,none⟩=some (.slice Ap N cp)) w2:=⟨trivial,g2⟩
  refine hK.out _ _ hSS2 ?_
  clear hK K hSS
  (try simp only [Act.put,zP])
  refine zT 6 hSS2 ?_
  (try simp only [Act.put,zP])
  refine wpG_one (i:=7) (by kernel_rfl) rfl (fun K hK=>?_)
  (try simp only [zA,zB,zC])
  go_simp
  refine hK.out _ _ ⟨trivial,cell_al g2 _⟩ ?_
  clear hK K hSS2
  (try simp only [Act.put,zP])
  obtain ⟨xs,hrow⟩:=hfs2.row
  have hl2:=hfs2.lt
  refine wpG_past (i:=8) (by kernel_rfl) rfl (by kernel_rfl) (fun K hK=>?_)
  refine step_append_own (by rfl) (.tmp 11) (.tmp 18) 106 (by rfl) n0 154 i0 _ 4 56 Tryz.underlying106 hi0 hz0 hz1 hz2 rfl (by decide) (.slice Ap N cp) N xs (by rfl) (hrow.alloc _) ⟨w2.heap.size,0,none⟩ 1 1 [.int .i64 pr,.slice A2 q.length c2,.int .i64 er,.string s] (by rfl) rfl (news_newN w2 _ _) (by intro u hu; simp at hu; rcases hu with rfl|rfl|rfl|rfl<;>rfl) (by unfold maxLen; omega) (by omega) (by simp; omega) ?_
  intro v' w' h2 h3 h5
  have hput:=hfs2.put (W':=w') (pv':=v') (N':=N+1) ⟨_,h2⟩ ⟨h3.os,h3.tape,h3.output,Nat.le_trans (by simp) h3.size,fun b hb hne=>(h3.block b (by simp; omega) hne).trans (Below.heap_alloc w2 _ b hb)⟩ (fun b hb=>by rcases h5 with h5|h5; exact .inl (h5▸hb); exact .inr (by rw [h5] at hb; injection hb with hb; simp at hb; omega))
  have hob':∀ b,v'.ownBlock=some b->(Value.slice Ap N cp).ownBlock=some b\/W.heap.size<=b:=fun b hb=>by
   have:=b2.size
   rcases h5 with h5|h5
   ·exact .inl (h5▸hb)
   ·exact .inr (by rw [h5] at hb; injection hb with hb; simp at hb; omega)
  have hch:Chg (fun b=>b=fb\/(Value.slice Ap N cp).ownBlock=some b) W (w'.setCell ⟨fb,0,none⟩ v'):=(((Chg.of_below b2).alloc _).trans2 (Chg.row h3) (fun b _ h=>.inr h)).setCell (.inl (.inl rfl)) _
  have hbx:=(h3.block _ (by have:=blk_lt hfs2.box; simp; omega) (fun e=>hfs2.ne e.symm)).trans (blk_al hfs2.box _)
  have hy0:w'.cell? ⟨fb,0,none⟩=some (.slice Ap N cp):=zc hbx rfl
  have hy1:w'.frozen? ⟨fb,0,none⟩=false:=zf hbx
  obtain ⟨g8,cap8,rfl⟩:=ownsRow_succ h2
  have HP:=zh hput
  have HO:=zh hob'
  have HCH:=zh hch
  clear hput hob' hch hbx h2 h3 h5 hrow hfs2
  refine hK.out _ _ trivial ?_
  clear hK K
  (try simp only [Act.put,zP])
  refine wpG_past (i:=9) (by kernel_rfl) rfl (by kernel_rfl) (fun K hK=>?_)
  (try simp only [zA,zB,zC])
  go_simp
  refine hK.out _ _ trivial ?_
  clear hK K
  (try simp only [Act.put,zP])
  refine wpG_done (by kernel_rfl) ?_
  refine NoPanic.normal ?_
  go_wp2_with fail
  go_end0
  exact ⟨⟨_,rfl⟩,_,HP.out,HO.out,HCH.out⟩
structure RepC (f:FuncId) (cap:Array Value) (Rd:World->Prop) (n0 fb:Nat):Prop where
 fn:∃ fn,IsFn Tryz.prog f fn
 keep:∀ W W' pv N,Rd W->FS W n0 fb N pv->Chg (fun b=>b=fb\/pv.ownBlock=some b) W W'->Rd W'
 call:∀ (N:Nat) (pv:Value) (er:Int) (q:List Int) (A:Option Addr) (c:Nat) (s:ByteArray) (S:Nat->Prop) (W:World),Rd W->FS W n0 fb N pv->RowI W S A q->q.length<=100000->N<=1000000 ->
  Calls Tryz.prog f (#[.slice A q.length c,.string s,.int .i64 er]++cap) W (RepP W n0 fb pv (N+one1 er))
theorem FS.other {W:World} {n0 fb N:Nat} {pv:Value} {b:Nat} {cs:Array Value} {E:TypeId} (h:FS W n0 fb N pv) (hb:W.heap[b]?=some (.cells cs E (0,0))) (h1:E≠106) (h2:E≠154):¬ (b=fb\/pv.ownBlock=some b):=by
 rintro (rfl|ho)
 ·have:=h.box
  rw [hb] at this
  injection this with this
  injection this with _ e
  exact h1 e
 ·obtain ⟨xs,e1,h2'⟩:=h.row
  rcases h2' with ⟨rfl,_⟩|⟨g,cap,cur,rfl,_,hg,_⟩
  ·simp [Value.ownBlock] at ho
  ·simp [Value.ownBlock] at ho
   subst ho
   rw [hb] at hg
   injection hg with hg
   injection hg with _ e
   exact h2 e
theorem fnChk2:IsFn Tryz.prog 96 Tryz.f96:=⟨Tryz.func96,by kernel_rfl,by kernel_rfl⟩
theorem fnChk3:IsFn Tryz.prog 97 Tryz.f97:=⟨Tryz.func97,by kernel_rfl,by kernel_rfl⟩
theorem Chk2_rep (n0 fb rb ib:Nat) (k:Int):RepC 96 #[.pointer (some ⟨rb,0,none⟩),.pointer (some ⟨ib,0,none⟩)]
  (fun W=>W.heap[rb]?=some (.cells #[.func (.func 92) #[] #[.pointer (some ⟨fb,0,none⟩)]] 155 (0,0))/\W.heap[ib]?=some (.cells #[.int .i64 k] 3 (0,0))) n0 fb where
 fn:=⟨_,fnChk2⟩
 keep W W' pv N h hfs hc:=⟨hc.keep h.1 (hfs.other h.1 (by decide) (by decide)),hc.keep h.2 (hfs.other h.2 (by decide) (by decide))⟩
 call N pv er q A c s S W h hfs hq hql hN:=by
  have x0:W.cell? ⟨rb,0,none⟩=some (.func (.func 92) #[] #[.pointer (some ⟨fb,0,none⟩)]):=zc h.1 rfl
  have x1:W.cell? ⟨ib,0,none⟩=some (.int .i64 k):=zc h.2 rfl
  have HC:=zh (report_any n0 fb N pv k er q A c s S W hfs hq hql hN)
  clear h hfs hq
  show Calls Tryz.prog 96 #[.slice A q.length c,.string s,.int .i64 er,.pointer (some ⟨rb,0,none⟩),.pointer (some ⟨ib,0,none⟩)] W _
  go_enter Tryz.func96,Tryz.ntmps96
  go_wp2_with fail
  refine HC.out.mono ?_
  rintro e W' ⟨⟨v,rfl⟩,hp⟩
  have HP:=zh hp
  clear hp
  go_wp2_with fail
  go_end0
  exact ⟨⟨_,rfl⟩,HP.out⟩
theorem Chk3_rep (n0 fb rb pb:Nat) (A1:Option Addr) (l1 c1:Nat) (A2:Option Addr) (l2 c2:Nat) (k n:Int) (sn:ByteArray) (A3:Option Addr) (l3 c3:Nat):RepC 97 #[.pointer (some ⟨rb,0,none⟩),.pointer (some ⟨pb,0,none⟩)]
  (fun W=>W.heap[rb]?=some (.cells #[.func (.func 92) #[] #[.pointer (some ⟨fb,0,none⟩)]] 155 (0,0))/\W.heap[pb]?=some (.cells #[.slice A1 l1 c1,.slice A2 l2 c2,.int .u8 k,.int .i64 n,.string sn,.slice A3 l3 c3] 35 (0,0))) n0 fb where
 fn:=⟨_,fnChk3⟩
 keep W W' pv N h hfs hc:=⟨hc.keep h.1 (hfs.other h.1 (by decide) (by decide)),hc.keep h.2 (hfs.other h.2 (by decide) (by decide))⟩
 call N pv er q A c s S W h hfs hq hql hN:=by
  have x0:W.cell? ⟨rb,0,none⟩=some (.func (.func 92) #[] #[.pointer (some ⟨fb,0,none⟩)]):=zc h.1 rfl
  have x1:W.cell? ⟨pb,1,none⟩=some (.slice A2 l2 c2):=zc h.2 rfl
  have HC:=zh (report_any n0 fb N pv l2 er q A c s S W hfs hq hql hN)
  clear h hfs hq
  show Calls Tryz.prog 97 #[.slice A q.length c,.string s,.int .i64 er,.pointer (some ⟨rb,0,none⟩),.pointer (some ⟨pb,0,none⟩)] W _
  go_enter Tryz.func97,Tryz.ntmps97
  go_wp2_with fail
  refine HC.out.mono ?_
  rintro e W' ⟨⟨v,rfl⟩,hp⟩
  have HP:=zh hp
  clear hp
  go_wp2_with fail
  go_end0
  exact ⟨⟨_,rfl⟩,HP.out⟩
def cntA (ps:List PR) (s:ByteArray) (l:Nat):Nat->List T->List VD->Nat
 | _,[],_=>0
 | i,t::ts,vs=>one1 (argE ps s l i t.s vs)+cntA ps s l (i+1) ts vs
mutual
/-- How many faults scope.visit reports. -/
def cntV (ps:List PR):T->List VD->Nat
 | .nd k _ s ks,vs=>one1 (faultE ps k s ks.length vs)+(if k=50\/k=51 then cntA ps s ks.length 0 ks vs else cntK ps k s 0 ks vs)
def cntK (ps:List PR) (k:Int) (s:ByteArray):Nat->List T->List VD->Nat
 | _,[],_=>0
 | i,t::ts,vs=>cntV ps t (innerV k s i vs)+cntK ps k s (i+1) ts vs
end
theorem cntA_append (ps:List PR) (s:ByteArray) (l:Nat) (vs:List VD):∀ (a b:List T) (i:Nat),cntA ps s l i (a++b) vs=cntA ps s l i a vs+cntA ps s l (i+a.length) b vs
 | [],b,i=>by simp [cntA]
 | t::ts,b,i=>by simp [cntA,cntA_append ps s l vs ts b (i+1),Nat.add_assoc,Nat.add_comm 1 ts.length]
theorem cntK_append (ps:List PR) (k:Int) (s:ByteArray) (vs:List VD):∀ (a b:List T) (i:Nat),cntK ps k s i (a++b) vs=cntK ps k s i a vs+cntK ps k s (i+a.length) b vs
 | [],b,i=>by simp [cntK]
 | t::ts,b,i=>by simp [cntK,cntK_append ps k s vs ts b (i+1),Nat.add_assoc,Nat.add_comm 1 ts.length]
theorem cntA_take (ps:List PR) (s:ByteArray) (l:Nat) (vs:List VD) {ks:List T} {j:Nat} (h:j<ks.length):cntA ps s l 0 (ks.take (j+1)) vs=cntA ps s l 0 (ks.take j) vs+one1 (argE ps s l j ks[j].s vs):=by
 rw [List.take_succ_eq_append_getElem h,cntA_append]
 have:(ks.take j).length=j:=by simp; omega
 simp [cntA,this]
theorem cntK_take (ps:List PR) (k:Int) (s:ByteArray) (vs:List VD) {ks:List T} {j:Nat} (h:j<ks.length):cntK ps k s 0 (ks.take (j+1)) vs=cntK ps k s 0 (ks.take j) vs+cntV ps ks[j] (innerV k s j vs):=by
 rw [List.take_succ_eq_append_getElem h,cntK_append]
 have:(ks.take j).length=j:=by simp; omega
 simp [cntK,this]
theorem one1_le (e:Int):one1 e<=1:=by unfold one1; split<;>omega
theorem size_pos (t:T):1<=size t:=by cases t; rw [size]; omega
theorem cntA_le (ps:List PR) (s:ByteArray) (l:Nat) (vs:List VD):∀ (ks:List T) (i:Nat),cntA ps s l i ks vs<=sizes ks
 | [],i=>by simp [cntA]
 | t::ts,i=>by
  have h1:=cntA_le ps s l vs ts (i+1)
  have h2:=one1_le (argE ps s l i t.s vs)
  have h3:=size_pos t
  simp only [cntA,sizes]
  omega
theorem cntK_le (ps:List PR) (k:Int) (s:ByteArray):∀ (ks:List T),(∀ t∈ks,∀ vs,cntV ps t vs<=size t)->∀ (i:Nat) (vs:List VD),cntK ps k s i ks vs<=sizes ks
 | [],_,i,vs=>by simp [cntK]
 | t::ts,h,i,vs=>by
  have h1:=cntK_le ps k s ts (fun u hu=>h u (by simp [hu])) (i+1) vs
  have h2:=h t (by simp) (innerV k s i vs)
  simp only [cntK,sizes]
  omega
theorem cntV_le (ps:List PR) (t:T):∀ vs,cntV ps t vs<=size t:=by
 induction t using T.ind with
 | _ k n s ks ih =>
 intro vs
 rw [cntV,size]
 have h1:=one1_le (faultE ps k s ks.length vs)
 have h2:=cntA_le ps s ks.length vs ks 0
 have h3:=cntK_le ps k s ks ih 0 vs
 split<;>omega
theorem sizes_take_le:∀ (ks:List T) (j:Nat),sizes (ks.take j)<=sizes ks
 | [],j=>by simp [sizes]
 | t::ts,0=>by simp [sizes]
 | t::ts,j+1=>by have:=sizes_take_le ts j; simp only [List.take_succ_cons,sizes]; omega
theorem innerV_len (k:Int) (s:ByteArray) (i:Nat) (vs:List VD):(innerV k s i vs).length<=vs.length+1:=by unfold innerV; split; simp; split<;>simp
theorem PV.keep {w w':World} {S S':Nat->Prop} {p:PG} {v:Value} (h:PV w S p v) (hS:∀ b,S b->b<w.heap.size->S' b) (hk:∀ b,S b->b<w.heap.size->w'.heap[b]?=w.heap[b]?):PV w' S' p v :=
 let ⟨A1,c1,A2,c2,A3,c3,e,h⟩:=h; ⟨A1,c1,A2,c2,A3,c3,e,h.keep hS hk⟩
structure VsI (Rd:World->Prop) (n0 fb:Nat) (Wb:World) (pv:Value) (N:Nat) (wr:World) (pv':Value):Prop where
 rd:Rd wr
 fs:FS wr n0 fb N pv'
 own:∀ b,pv'.ownBlock=some b->pv.ownBlock=some b\/Wb.heap.size<=b
 chg:Chg (fun b=>b=fb\/pv.ownBlock=some b) Wb wr
theorem VsI.step {f:FuncId} {cap:Array Value} {Rd:World->Prop} {n0 fb:Nat} {Wb wr w5 W6:World} {pv pv':Value} {N N':Nat} {e:Ending} (hr:RepC f cap Rd n0 fb) (h:VsI Rd n0 fb Wb pv N wr pv') (hb:Below wr.heap.size wr w5) (hp:RepP w5 n0 fb pv' N' e W6) :
  ∃ pv'',VsI Rd n0 fb Wb pv N' W6 pv'':=by
 obtain ⟨_,pv'',hfs,hob,hc⟩:=hp
 have hfs5:=h.fs.later hb
 have hz:=h.chg.size
 have hz5:=hb.size
 refine ⟨pv'',hr.keep w5 W6 pv' N (hr.keep wr w5 pv' N h.rd h.fs (Chg.of_below hb)) hfs5 hc,hfs,fun b hb'=>?_,(h.chg.trans (Chg.of_below hb)).trans2 hc fun b hlt hh=>?_⟩
 ·rcases hob b hb' with h1|h1
  ·exact h.own b h1
  ·exact .inr (by omega)
 ·rcases hh with hh|hh
  ·exact .inl hh
  ·rcases h.own b hh with h1|h1
   ·exact .inr h1
   ·omega
theorem VsI.rep {Rd:World->Prop} {n0 fb:Nat} {W Wb w:World} {pw pv':Value} {N':Nat} {e:Ending} (h:VsI Rd n0 fb Wb pw N' w pv') (hb:Below W.heap.size W Wb) (he:∃ v,e=.returned v):RepP W n0 fb pw N' e w :=
 ⟨he,pv',h.fs,fun b hh=>(h.own b hh).imp id fun h1=>by have:=hb.size; omega,(Chg.of_below hb).trans h.chg⟩
def IsW (x:Value) (w:World) (v:Value) (w':World):Prop:=v=x/\Below w.heap.size w w'
theorem isW_of {P:Program} {f:FuncId} {args:Array Value} {w:World} {x:Value} (h:Calls P f args w fun e w'=>e=.returned x/\Below w.heap.size w w'):Calls P f args w fun e w'=>∃ v,e=.returned v/\IsW x w v w' :=
 h.mono fun _ _ ⟨he,hb⟩=>⟨_,he,rfl,hb⟩
def RepV (W:World) (n0 fb:Nat) (pv:Value) (N':Nat) (_:Value) (W':World):Prop:=RepP W n0 fb pv N' (.returned undef) W'
theorem repV_of {P:Program} {f:FuncId} {args:Array Value} {W:World} {n0 fb N':Nat} {pv:Value} (h:Calls P f args W (RepP W n0 fb pv N')):Calls P f args W fun e w'=>∃ v,e=.returned v/\RepV W n0 fb pv N' v w' :=
 h.mono fun _ _ ⟨⟨v,he⟩,hp⟩=>⟨v,he,⟨_,rfl⟩,hp⟩
def ShRowV (w:World) (S:Nat->Prop) (vs:List VD) (v:Value) (w':World):Prop:=∃ A' c',v=.slice A' vs.length c'/\RowV w' (fun b=>S b\/w.heap.size<=b) A' vs/\vs.length<=c'/\Below w.heap.size w w'
theorem shRowV_of {P:Program} {f:FuncId} {args:Array Value} {w:World} {S:Nat->Prop} {vs:List VD} (h:Calls P f args w (ShRow w S vs)):Calls P f args w fun e w'=>∃ v,e=.returned v/\ShRowV w S vs v w' :=
 h.mono fun _ _ ⟨A,c,he,hn⟩=>⟨_,he,A,c,rfl,hn⟩
theorem fnFault:IsFn Tryz.prog 137 Tryz.f137:=⟨Tryz.func137,by kernel_rfl,by kernel_rfl⟩
theorem fnArgument:IsFn Tryz.prog 139 Tryz.f139:=⟨Tryz.func139,by kernel_rfl,by kernel_rfl⟩
theorem fnChild:IsFn Tryz.prog 138 Tryz.f138:=⟨Tryz.func138,by kernel_rfl,by kernel_rfl⟩
theorem fnInner:IsFn Tryz.prog 140 Tryz.f140:=⟨Tryz.func140,by kernel_rfl,by kernel_rfl⟩
theorem fnVisit:IsFn Tryz.prog 95 Tryz.f95:=⟨Tryz.func95,by kernel_rfl,by kernel_rfl⟩
theorem svisit_any (f:FuncId) (cap:Array Value) (Rd:World->Prop) (n0 fb:Nat) (hrep:RepC f cap Rd n0 fb) (p:PG) (t:T) :
  ∀ (S:Nat->Prop) (vs:List VD) (A:Option Addr) (c:Nat) (q:List Int) (Aq:Option Addr) (cq N:Nat) (pw:Value) (W:World) (v1 v2:Value),Rd W->FS W n0 fb N pw->PV W S p v1->NV W S t v2->RowV W S A vs->vs.length<=c->RowI W S Aq q->q.length<=cq ->
   (∀ b,S b->b<W.heap.size->¬ (b=fb\/pw.ownBlock=some b))->q.length+dep t<=50000->vs.length+dep t<=50000->N+size t<=1000000 ->
   Calls Tryz.prog 95 #[v1,v2,.slice Aq q.length cq,.slice A vs.length c,.func (.func f) #[] cap] W (RepP W n0 fb pw (N+cntV p.prs t vs)):=by
 obtain ⟨fn,hfn⟩:=hrep.fn
 have HREP:=zh hrep
 clear hrep
 induction t using T.ind with
 | _ tk tn ts ks ih =>
 intro S vs A c q Aq cq N pw W v1 v2 hrd hfs hv1 hv2 hrow hlc hqr hqc hfar hdq hdv hN
 have HIH:=zh ih
 have hvv:=hv1
 obtain ⟨A1,c1,A2,c2,A3,c3,rfl,-⟩:=hv1
 obtain ⟨L1,hL1⟩:∃ L,p.vs.length=L:=⟨_,rfl⟩
 obtain ⟨L2,hL2⟩:∃ L,p.prs.length=L:=⟨_,rfl⟩
 obtain ⟨k,hk⟩:∃ k,p.m.k=k:=⟨_,rfl⟩
 obtain ⟨n,hn⟩:∃ n,p.m.n=n:=⟨_,rfl⟩
 obtain ⟨s,hs⟩:∃ s,p.m.s=s:=⟨_,rfl⟩
 obtain ⟨l3,hl3⟩:∃ l,p.m.ks.length=l:=⟨_,rfl⟩
 rw [hL1,hL2,hk,hn,hs,hl3]
 rw [hL1,hL2,hk,hn,hs,hl3] at hvv
 have HV0:=zh hvv
 clear ih hvv hL1 hL2 hk hn hs hl3
 have HN0:=zh hv2
 obtain ⟨B,tc,rfl,_,hlk,_,hrk⟩:=hv2.open_
 simp only [T.k_nd,T.n_nd,T.s_nd,T.ks_nd] at *
 have hlk':=LK_int hlk
 rw [dep] at hdq hdv
 rw [size] at hN
 have hksz:ks.length<=1000000:=by
  have:∀ l:List T,l.length<=sizes l:=fun l=>by
   induction l with
   | nil=>simp
   | cons t ts ih=>have:=size_pos t; simp only [List.length_cons,sizes]; omega
  have:=this ks
  omega
 have HRK:=zh hrk
 have HROW:=zh hrow
 have HLC:=zh hlc
 have HQR:=zh hqr
 have HQC:=zh hqc
 have HRD:=zh hrd
 have HFS:=zh hfs
 have HFAR:=zh hfar
 have hlv:vs.length<=LV:=by unfold LV; omega
 have HLV:=zh hlv
 have hfl:=hfs.lt
 have HFL:=zh hfl
 obtain ⟨CC,hCC⟩:∃ CC,cntV p.prs (.nd tk tn ts ks) vs=CC:=⟨_,rfl⟩
 rw [hCC]
 have HCC:=zh hCC
 obtain ⟨E0,hE0⟩:∃ E0,faultE p.prs tk ts ks.length vs=E0:=⟨_,rfl⟩
 have HE0:=zh hE0
 have hE1:=one1_le E0
 clear hrk hrow hlc hqr hqc hrd hfs hfar hlk hlv hv2 hfl hCC hE0
 go_enter Tryz.func95,Tryz.ntmps95
 go_upto_region 1 with fail
 have hbw:Below W.heap.size W ((W.alloc (.cells #[.slice A1 L1 c1,.slice A2 L2 c2,.int .u8 k,.int .i64 n,.string s,.slice A3 l3 c3] 35)).alloc (.cells #[.int .u8 tk,.int .i64 tn,.string ts,.slice B ks.length tc] 29)):=bl_al (bl_al (Below.refl _ _) _) _
 have hbP:=blk_al (heap_alloc_new W (.cells #[.slice A1 L1 c1,.slice A2 L2 c2,.int .u8 k,.int .i64 n,.string s,.slice A3 l3 c3] 35)) (.cells #[.int .u8 tk,.int .i64 tn,.string ts,.slice B ks.length tc] 29)
 have hbN:=heap_alloc_new (W.alloc (.cells #[.slice A1 L1 c1,.slice A2 L2 c2,.int .u8 k,.int .i64 n,.string s,.slice A3 l3 c3] 35)) (.cells #[.int .u8 tk,.int .i64 tn,.string ts,.slice B ks.length tc] 29)
 simp only [World.size_alloc] at hbN
 obtain ⟨Wb,hWb⟩:∃ Wb,(W.alloc (.cells #[.slice A1 L1 c1,.slice A2 L2 c2,.int .u8 k,.int .i64 n,.string s,.slice A3 l3 c3] 35)).alloc (.cells #[.int .u8 tk,.int .i64 tn,.string ts,.slice B ks.length tc] 29)=Wb:=⟨_,rfl⟩
 rw [hWb] at hbw hbP hbN ⊢
 have HZB:=zh (show Wb.heap.size=W.heap.size+2 by rw [<-hWb]; simp)
 have HBW:=zh hbw
 have HBP:=zh hbP
 have HBN:=zh hbN
 have HSB:=zh (show ∀ w':World,w'.heap[W.heap.size]?=Wb.heap[W.heap.size]?->w'.heap[W.heap.size+1]?=Wb.heap[W.heap.size+1]?->(fun w':World=>(w'.cell? ⟨W.heap.size,0,none⟩=some (.slice A1 L1 c1)/\w'.cell? ⟨W.heap.size,1,none⟩=some (.slice A2 L2 c2)/\w'.cell? ⟨W.heap.size,2,none⟩=some (.int .u8 k)/\w'.cell? ⟨W.heap.size,3,none⟩=some (.int .i64 n)/\w'.cell? ⟨W.heap.size,4,none⟩=some (.string s)/\w'.cell? ⟨W.heap.size,5,none⟩=some (.slice A3 l3 c3))/\(w'.cell? ⟨W.heap.size+1,0,none⟩=some (.int .u8 tk)/\w'.cell? ⟨W.heap.size+1,1,none⟩=some (.int .i64 tn)/\w'.cell? ⟨W.heap.size+1,2,none⟩=some (.string ts)/\w'.cell? ⟨W.heap.size+1,3,none⟩=some (.slice B ks.length tc))) w' from fun w' h1 h2=>⟨box6 (h1.trans hbP),box4 (h2.trans hbN)⟩)
 have HCB:=zh (show ∀ w':World,Chg (fun b=>b=fb\/pw.ownBlock=some b) Wb w'->(fun w':World=>(w'.cell? ⟨W.heap.size,0,none⟩=some (.slice A1 L1 c1)/\w'.cell? ⟨W.heap.size,1,none⟩=some (.slice A2 L2 c2)/\w'.cell? ⟨W.heap.size,2,none⟩=some (.int .u8 k)/\w'.cell? ⟨W.heap.size,3,none⟩=some (.int .i64 n)/\w'.cell? ⟨W.heap.size,4,none⟩=some (.string s)/\w'.cell? ⟨W.heap.size,5,none⟩=some (.slice A3 l3 c3))/\(w'.cell? ⟨W.heap.size+1,0,none⟩=some (.int .u8 tk)/\w'.cell? ⟨W.heap.size+1,1,none⟩=some (.int .i64 tn)/\w'.cell? ⟨W.heap.size+1,2,none⟩=some (.string ts)/\w'.cell? ⟨W.heap.size+1,3,none⟩=some (.slice B ks.length tc))) w' from fun w' h=>HSB.out w' (h.block _ (by have:=HZB.out; omega) (fun hh=>by rcases hh with hh|hh; (have:=HFL.out.1; omega); (have:=(HFL.out.2 _ hh).2; omega))) (h.block _ (by have:=HZB.out; omega) (fun hh=>by rcases hh with hh|hh; (have:=HFL.out.1; omega); (have:=(HFL.out.2 _ hh).2; omega))))
 have HKB:=zh (show ∀ w':World,Chg (fun b=>b=fb\/pw.ownBlock=some b) Wb w'->∀ b,S b->b<W.heap.size->w'.heap[b]?=W.heap[b]? from fun w' h b hb hlt=>(h.block b (by have:=HZB.out; omega) (HFAR.out b hb hlt)).trans (HBW.out.block b hlt))
 have hi0:VsI Rd n0 fb Wb pw N Wb pw:=⟨HREP.out.keep W Wb pw N HRD.out HFS.out (Chg.of_below hbw),HFS.out.later hbw,fun b hb=>.inl hb,Chg.refl _ _⟩
 have HI0:=zh hi0
 clear hWb hbw hbP hbN hi0
 have hdr:=(Below.refl Wb.heap.size Wb).drew
 have hSS:(fun w':World=>(w'.cell? ⟨W.heap.size,0,none⟩=some (.slice A1 L1 c1)/\w'.cell? ⟨W.heap.size,1,none⟩=some (.slice A2 L2 c2)/\w'.cell? ⟨W.heap.size,2,none⟩=some (.int .u8 k)/\w'.cell? ⟨W.heap.size,3,none⟩=some (.int .i64 n)/\w'.cell? ⟨W.heap.size,4,none⟩=some (.string s)/\w'.cell? ⟨W.heap.size,5,none⟩=some (.slice A3 l3 c3))/\(w'.cell? ⟨W.heap.size+1,0,none⟩=some (.int .u8 tk)/\w'.cell? ⟨W.heap.size+1,1,none⟩=some (.int .i64 tn)/\w'.cell? ⟨W.heap.size+1,2,none⟩=some (.string ts)/\w'.cell? ⟨W.heap.size+1,3,none⟩=some (.slice B ks.length tc))) Wb.drew/\(fun _:World=>True) Wb.drew:=⟨HCB.out _ (Chg.of_below hdr),trivial⟩
 refine wp_region_noPanic ?_
 refine wp_region_G (fun w':World=>(w'.cell? ⟨W.heap.size,0,none⟩=some (.slice A1 L1 c1)/\w'.cell? ⟨W.heap.size,1,none⟩=some (.slice A2 L2 c2)/\w'.cell? ⟨W.heap.size,2,none⟩=some (.int .u8 k)/\w'.cell? ⟨W.heap.size,3,none⟩=some (.int .i64 n)/\w'.cell? ⟨W.heap.size,4,none⟩=some (.string s)/\w'.cell? ⟨W.heap.size,5,none⟩=some (.slice A3 l3 c3))/\(w'.cell? ⟨W.heap.size+1,0,none⟩=some (.int .u8 tk)/\w'.cell? ⟨W.heap.size+1,1,none⟩=some (.int .i64 tn)/\w'.cell? ⟨W.heap.size+1,2,none⟩=some (.string ts)/\w'.cell? ⟨W.heap.size+1,3,none⟩=some (.slice B ks.length tc))) (fun _:World=>True) 20 (by kernel_rfl) ?_
 refine zT 0 hSS ?_
 (try simp only [Act.put,zP])
 refine zT 1 hSS ?_
 (try simp only [Act.put,zP])
 refine zT 2 hSS ?_
 (try simp only [Act.put,zP])
 refine zT 3 hSS ?_
 (try simp only [Act.put,zP])
 refine zT 4 hSS ?_
 (try simp only [Act.put,zP])
 refine zT 5 hSS ?_
 (try simp only [Act.put,zP])
 refine zT 6 hSS ?_
 (try simp only [Act.put,zP])
 refine wpG_one (i:=7) (by kernel_rfl) rfl (fun K hK=>?_)
 refine step_callL (by rfl) (.func 137) [.tmp 18,.tmp 19,.tmp 20] _ (by rfl) 137 _ fnFault (by rfl) _ (by rfl) _ (isW_of (fault_any p (.nd tk tn ts ks) vs A c S S S _ _ _ (HV0.out.later (bl_tt HBW.out hdr)) (HN0.out.later (bl_tt HBW.out hdr)) (HROW.out.later (bl_tt HBW.out hdr)) HLV.out)) ?_
 rintro vq w2 ⟨rfl,bw2⟩
 simp only [T.k_nd,T.s_nd,T.ks_nd]
 rw [HE0.out]
 have b2:=bl_tt hdr bw2
 have hSS2:(fun w':World=>(w'.cell? ⟨W.heap.size,0,none⟩=some (.slice A1 L1 c1)/\w'.cell? ⟨W.heap.size,1,none⟩=some (.slice A2 L2 c2)/\w'.cell? ⟨W.heap.size,2,none⟩=some (.int .u8 k)/\w'.cell? ⟨W.heap.size,3,none⟩=some (.int .i64 n)/\w'.cell? ⟨W.heap.size,4,none⟩=some (.string s)/\w'.cell? ⟨W.heap.size,5,none⟩=some (.slice A3 l3 c3))/\(w'.cell? ⟨W.heap.size+1,0,none⟩=some (.int .u8 tk)/\w'.cell? ⟨W.heap.size+1,1,none⟩=some (.int .i64 tn)/\w'.cell? ⟨W.heap.size+1,2,none⟩=some (.string ts)/\w'.cell? ⟨W.heap.size+1,3,none⟩=some (.slice B ks.length tc))) w2/\(fun _:World=>True) w2:=⟨HCB.out _ (Chg.of_below b2),trivial⟩
 refine hK.out _ _ hSS2 ?_
 clear hK K hSS
 (try simp only [Act.put,zP])
 refine wpG_one (i:=8) (by kernel_rfl) rfl (fun K hK=>?_)
 refine step_callC (by rfl) (.tmp 14) [.tmp 15,.tmp 17,.tmp 21] _ (by rfl) f fn hfn cap (by rfl) _ (by rfl) _ (repV_of (HREP.out.call N pw E0 q Aq cq ts S w2 (HREP.out.keep Wb w2 pw N HI0.out.rd HI0.out.fs (Chg.of_below b2)) (HI0.out.fs.later b2) ((HQR.out.later HBW.out).later b2) (by omega) (by omega))) ?_
 rintro vq W3 hp3
 obtain ⟨pv3,hi3⟩:=HI0.out.step HREP.out b2 hp3
 have hSS3:(fun w':World=>(w'.cell? ⟨W.heap.size,0,none⟩=some (.slice A1 L1 c1)/\w'.cell? ⟨W.heap.size,1,none⟩=some (.slice A2 L2 c2)/\w'.cell? ⟨W.heap.size,2,none⟩=some (.int .u8 k)/\w'.cell? ⟨W.heap.size,3,none⟩=some (.int .i64 n)/\w'.cell? ⟨W.heap.size,4,none⟩=some (.string s)/\w'.cell? ⟨W.heap.size,5,none⟩=some (.slice A3 l3 c3))/\(w'.cell? ⟨W.heap.size+1,0,none⟩=some (.int .u8 tk)/\w'.cell? ⟨W.heap.size+1,1,none⟩=some (.int .i64 tn)/\w'.cell? ⟨W.heap.size+1,2,none⟩=some (.string ts)/\w'.cell? ⟨W.heap.size+1,3,none⟩=some (.slice B ks.length tc))) W3/\(fun _:World=>True) W3:=⟨HCB.out _ hi3.chg,trivial⟩
 refine hK.out _ _ hSS3 ?_
 clear hK K hSS2
 (try simp only [Act.put,zP])
 refine wpG_done (by kernel_rfl) ?_
 refine NoPanic.normal ?_
 obtain ⟨⟨a0,a1,a2,a3,a4,a5⟩,b0,b1,b2',b3⟩:=hSS3.1
 have HI3:=zh hi3
 clear hSS3 hi3 hp3 b2 bw2 hdr HI0
 have HD:=zh (show ∀ w':World,Chg (fun b=>b=fb\/pw.ownBlock=some b) Wb w'->PV w' (fun b=>S b/\b<W.heap.size) p _/\NV w' (fun b=>S b/\b<W.heap.size) (.nd tk tn ts ks) _/\RowV w' (fun b=>S b/\b<W.heap.size) A vs/\RowI w' (fun b=>S b/\b<W.heap.size) Aq q/\RowAt w' (fun b=>S b/\b<W.heap.size) B ks from fun w' h=>⟨HV0.out.keep (fun b hb hlt=>⟨hb,hlt⟩) (HKB.out w' h),HN0.out.keep (fun b hb hlt=>⟨hb,hlt⟩) (HKB.out w' h),HROW.out.keep (fun b hb hlt=>⟨hb,hlt⟩) (HKB.out w' h),HQR.out.keep (fun b hb hlt=>⟨hb,hlt⟩) (HKB.out w' h),HRK.out.keep (fun b hb hlt=>⟨hb,hlt⟩) (HKB.out w' h)⟩)
 by_cases hcall:tk=50\/tk=51
 ·rcases hcall with rfl|rfl
  ·go_wp2_with fail
   go_loopw [34] (fun i wr=>∃ (j:Nat) (pv':Value),j<=ks.length/\i=.int .i64 j/\VsI Rd n0 fb Wb pw (N+one1 E0+cntA p.prs ts ks.length 0 (ks.take j) vs) wr pv') (fun i _=>ks.length-(intOf i).toNat)
   case atStart=>exact ⟨0,_,Nat.zero_le _,rfl,by simpa [cntA] using HI3.out⟩
   case round =>
    obtain ⟨j,pv',hj,rfl,hinv⟩:=hrel
    have HINV:=zh hinv
    clear HI3
    by_cases hlt:j<ks.length
    ·obtain ⟨-,-,-,-,hrk⟩:=HD.out wr hinv.chg
     obtain ⟨a,u,A4,c4,rfl,hsa,Hu,⟨q0,q1,q2,q3⟩,hnu⟩:=hrk.nd hlt
     have HNU:=zh hnu
     clear hinv hrk hnu hsa
     go_upto_region 6 with fail
     have hbk:Below wr.heap.size wr (wr.alloc (.cells #[.int .u8 u.k,.int .i64 u.n,.string u.s,.slice A4 u.ks.length c4] 29)):=bl_al (Below.refl _ _) _
     have hbU:=heap_alloc_new wr (.cells #[.int .u8 u.k,.int .i64 u.n,.string u.s,.slice A4 u.ks.length c4] 29)
     obtain ⟨wk,hwk⟩:∃ wk,wr.alloc (.cells #[.int .u8 u.k,.int .i64 u.n,.string u.s,.slice A4 u.ks.length c4] 29)=wk:=⟨_,rfl⟩
     rw [hwk] at hbk hbU ⊢
     have HZK:=zh (show wk.heap.size=wr.heap.size+1 by rw [<-hwk]; simp)
     have HBK:=zh hbk
     have HBU:=zh hbU
     clear hwk hbk hbU
     have HCK:=zh (show ∀ w':World,Below wk.heap.size wk w'->(fun w':World=>((w'.cell? ⟨W.heap.size,0,none⟩=some (.slice A1 L1 c1)/\w'.cell? ⟨W.heap.size,1,none⟩=some (.slice A2 L2 c2)/\w'.cell? ⟨W.heap.size,2,none⟩=some (.int .u8 k)/\w'.cell? ⟨W.heap.size,3,none⟩=some (.int .i64 n)/\w'.cell? ⟨W.heap.size,4,none⟩=some (.string s)/\w'.cell? ⟨W.heap.size,5,none⟩=some (.slice A3 l3 c3))/\(w'.cell? ⟨W.heap.size+1,0,none⟩=some (.int .u8 50)/\w'.cell? ⟨W.heap.size+1,1,none⟩=some (.int .i64 tn)/\w'.cell? ⟨W.heap.size+1,2,none⟩=some (.string ts)/\w'.cell? ⟨W.heap.size+1,3,none⟩=some (.slice (some a) ks.length tc)))/\(w'.cell? ⟨wr.heap.size,0,none⟩=some (.int .u8 u.k)/\w'.cell? ⟨wr.heap.size,1,none⟩=some (.int .i64 u.n)/\w'.cell? ⟨wr.heap.size,2,none⟩=some (.string u.s)/\w'.cell? ⟨wr.heap.size,3,none⟩=some (.slice A4 u.ks.length c4))) w'/\(fun _:World=>True) w' from fun w' h=>⟨⟨HCB.out w' (HINV.out.chg.trans (Chg.of_below (bl_tt HBK.out h))),box4 ((h.block _ (by have:=HZK.out; omega)).trans HBU.out)⟩,trivial⟩)
     have hdr:=(Below.refl wk.heap.size wk).drew
     have hSS:=HCK.out _ hdr
     refine wp_region_noPanic ?_
     refine wp_region_G (fun w':World=>((w'.cell? ⟨W.heap.size,0,none⟩=some (.slice A1 L1 c1)/\w'.cell? ⟨W.heap.size,1,none⟩=some (.slice A2 L2 c2)/\w'.cell? ⟨W.heap.size,2,none⟩=some (.int .u8 k)/\w'.cell? ⟨W.heap.size,3,none⟩=some (.int .i64 n)/\w'.cell? ⟨W.heap.size,4,none⟩=some (.string s)/\w'.cell? ⟨W.heap.size,5,none⟩=some (.slice A3 l3 c3))/\(w'.cell? ⟨W.heap.size+1,0,none⟩=some (.int .u8 50)/\w'.cell? ⟨W.heap.size+1,1,none⟩=some (.int .i64 tn)/\w'.cell? ⟨W.heap.size+1,2,none⟩=some (.string ts)/\w'.cell? ⟨W.heap.size+1,3,none⟩=some (.slice (some a) ks.length tc)))/\(w'.cell? ⟨wr.heap.size,0,none⟩=some (.int .u8 u.k)/\w'.cell? ⟨wr.heap.size,1,none⟩=some (.int .i64 u.n)/\w'.cell? ⟨wr.heap.size,2,none⟩=some (.string u.s)/\w'.cell? ⟨wr.heap.size,3,none⟩=some (.slice A4 u.ks.length c4))) (fun _:World=>True) 40 (by kernel_rfl) ?_
     refine zT 0 hSS ?_
     (try simp only [Act.put,zP])
     refine zT 1 hSS ?_
     (try simp only [Act.put,zP])
     refine zT 2 hSS ?_
     (try simp only [Act.put,zP])
     refine zT 4 hSS ?_
     (try simp only [Act.put,zP])
     refine zT 5 hSS ?_
     (try simp only [Act.put,zP])
     refine zT 6 hSS ?_
     (try simp only [Act.put,zP])
     refine zT 7 hSS ?_
     (try simp only [Act.put,zP])
     refine zT 8 hSS ?_
     (try simp only [Act.put,zP])
     refine zT 9 hSS ?_
     (try simp only [Act.put,zP])
     refine wpG_one (i:=3) (by kernel_rfl) rfl (fun K hK=>?_)
     refine step_callL (by rfl) (.func 138) [.tmp 40,.tmp 41] _ (by rfl) 138 _ fnChild (by rfl) _ (by rfl) _ (newIV_of (child_any q Aq cq (j:Int) ⟨by omega,by omega⟩ _ _ (HD.out _ (HINV.out.chg.trans (Chg.of_below (bl_tt HBK.out hdr)))).2.2.2.1 HQC.out (by omega))) ?_
     rintro vq w2 ⟨Ac,cc,rfl,hrc,hcc,bw2⟩
     have b2:=bl_tt hdr bw2
     have hSS2:=HCK.out _ b2
     refine hK.out _ _ hSS2 ?_
     clear hK K hSS
     (try simp only [Act.put,zP])
     refine wpG_one (i:=10) (by kernel_rfl) rfl (fun K hK=>?_)
     refine step_callL (by rfl) (.func 139) [.tmp 45,.tmp 46,.tmp 47,.tmp 48] _ (by rfl) 139 _ fnArgument (by rfl) _ (by rfl) _ (isW_of (argument_any p (.nd 50 tn ts ks) j hlt vs A c _ _ _ _ _ _ (HD.out _ (HINV.out.chg.trans (Chg.of_below (bl_tt HBK.out b2)))).1 (HD.out _ (HINV.out.chg.trans (Chg.of_below (bl_tt HBK.out b2)))).2.1 (HD.out _ (HINV.out.chg.trans (Chg.of_below (bl_tt HBK.out b2)))).2.2.1 HLV.out)) ?_
     rintro vq w3 ⟨rfl,bw3⟩
     simp only [T.k_nd,T.s_nd,T.ks_nd]
     have b3:=bl_tt b2 bw3
     have hSS3:=HCK.out _ b3
     refine hK.out _ _ hSS3 ?_
     clear hK K hSS2
     (try simp only [Act.put,zP])
     refine wpG_one (i:=11) (by kernel_rfl) rfl (fun K hK=>?_)
     have hcl:cntA p.prs ts ks.length 0 (ks.take j) vs<=sizes ks:=Nat.le_trans (cntA_le _ _ _ _ _ _) (sizes_take_le _ _)
     have hF:=HINV.out.fs.later (bl_tt HBK.out b3)
     have hR:=HREP.out.keep _ _ _ _ HINV.out.rd HINV.out.fs (Chg.of_below (bl_tt HBK.out b3))
     refine step_callC (by rfl) (.tmp 39) [.tmp 42,.tmp 44,.tmp 49] _ (by rfl) f fn hfn cap (by rfl) _ (by rfl) _ (repV_of (HREP.out.call _ pv' _ (q++[(j:Int)]) Ac cc u.s _ w3 hR hF (hrc.later bw3) (by simp; omega) (by omega))) ?_
     rintro vq W6 hp
     obtain ⟨pv6,hi6⟩:=HINV.out.step HREP.out (bl_tt HBK.out b3) hp
     have hi7:VsI Rd n0 fb Wb pw (N+one1 E0+cntA p.prs ts ks.length 0 (ks.take (j+1)) vs) W6 pv6:=by rw [cntA_take p.prs ts ks.length vs hlt]; simpa [Nat.add_assoc] using hi6
     have hSS6:(fun w':World=>((w'.cell? ⟨W.heap.size,0,none⟩=some (.slice A1 L1 c1)/\w'.cell? ⟨W.heap.size,1,none⟩=some (.slice A2 L2 c2)/\w'.cell? ⟨W.heap.size,2,none⟩=some (.int .u8 k)/\w'.cell? ⟨W.heap.size,3,none⟩=some (.int .i64 n)/\w'.cell? ⟨W.heap.size,4,none⟩=some (.string s)/\w'.cell? ⟨W.heap.size,5,none⟩=some (.slice A3 l3 c3))/\(w'.cell? ⟨W.heap.size+1,0,none⟩=some (.int .u8 50)/\w'.cell? ⟨W.heap.size+1,1,none⟩=some (.int .i64 tn)/\w'.cell? ⟨W.heap.size+1,2,none⟩=some (.string ts)/\w'.cell? ⟨W.heap.size+1,3,none⟩=some (.slice (some a) ks.length tc)))/\(w'.cell? ⟨wr.heap.size,0,none⟩=some (.int .u8 u.k)/\w'.cell? ⟨wr.heap.size,1,none⟩=some (.int .i64 u.n)/\w'.cell? ⟨wr.heap.size,2,none⟩=some (.string u.s)/\w'.cell? ⟨wr.heap.size,3,none⟩=some (.slice A4 u.ks.length c4))) W6/\(fun _:World=>True) W6:=⟨⟨HCB.out _ hi7.chg,box4 ((hp.2.elim fun _ h=>h.2.2.block _ (by have:=(bl_tt HBK.out b3).size; have:=b3.size; have:=HZK.out; omega) (fun hh=>by have hl:=HINV.out.fs.lt; rcases hh with hh|hh; (have:=hl.1; omega); (have:=(hl.2 _ hh).2; omega))).trans ((b3.block _ (by have:=HZK.out; omega)).trans HBU.out))⟩,trivial⟩
     refine hK.out _ _ hSS6 ?_
     clear hK K hSS3
     (try simp only [Act.put,zP])
     refine wpG_done (by kernel_rfl) ?_
     refine NoPanic.normal ?_
     have HI7:=zh hi7
     clear hi7 hi6 hp hSS6 hF hR
     go_wp2_with fail
     go_roundw
     case rel=>exact ⟨j+1,_,by omega,by go_num,HI7.out⟩
     case measure=>simp [intOf]; omega
    ·obtain rfl:j=ks.length:=by omega
     clear hinv
     go_wp2_with fail
     (try simp only [Exit.inBlock,Exit.then]); refine bodyPost_ret (results_none rfl _ _ _) rfl ?_
     have hinv:=HINV.out
     rw [List.take_of_length_le (Nat.le_refl _)] at hinv
     have hcc:=HCC.out
     rw [cntV,HE0.out,if_pos (by decide)] at hcc
     rw [<-hcc,<-Nat.add_assoc]
     exact hinv.rep HBW.out ⟨_,rfl⟩
  ·go_wp2_with fail
   go_loopw [34] (fun i wr=>∃ (j:Nat) (pv':Value),j<=ks.length/\i=.int .i64 j/\VsI Rd n0 fb Wb pw (N+one1 E0+cntA p.prs ts ks.length 0 (ks.take j) vs) wr pv') (fun i _=>ks.length-(intOf i).toNat)
   case atStart=>exact ⟨0,_,Nat.zero_le _,rfl,by simpa [cntA] using HI3.out⟩
   case round =>
    obtain ⟨j,pv',hj,rfl,hinv⟩:=hrel
    have HINV:=zh hinv
    clear HI3
    by_cases hlt:j<ks.length
    ·obtain ⟨-,-,-,-,hrk⟩:=HD.out wr hinv.chg
     obtain ⟨a,u,A4,c4,rfl,hsa,Hu,⟨q0,q1,q2,q3⟩,hnu⟩:=hrk.nd hlt
     have HNU:=zh hnu
     clear hinv hrk hnu hsa
     go_upto_region 6 with fail
     have hbk:Below wr.heap.size wr (wr.alloc (.cells #[.int .u8 u.k,.int .i64 u.n,.string u.s,.slice A4 u.ks.length c4] 29)):=bl_al (Below.refl _ _) _
     have hbU:=heap_alloc_new wr (.cells #[.int .u8 u.k,.int .i64 u.n,.string u.s,.slice A4 u.ks.length c4] 29)
     obtain ⟨wk,hwk⟩:∃ wk,wr.alloc (.cells #[.int .u8 u.k,.int .i64 u.n,.string u.s,.slice A4 u.ks.length c4] 29)=wk:=⟨_,rfl⟩
     rw [hwk] at hbk hbU ⊢
     have HZK:=zh (show wk.heap.size=wr.heap.size+1 by rw [<-hwk]; simp)
     have HBK:=zh hbk
     have HBU:=zh hbU
     clear hwk hbk hbU
     have HCK:=zh (show ∀ w':World,Below wk.heap.size wk w'->(fun w':World=>((w'.cell? ⟨W.heap.size,0,none⟩=some (.slice A1 L1 c1)/\w'.cell? ⟨W.heap.size,1,none⟩=some (.slice A2 L2 c2)/\w'.cell? ⟨W.heap.size,2,none⟩=some (.int .u8 k)/\w'.cell? ⟨W.heap.size,3,none⟩=some (.int .i64 n)/\w'.cell? ⟨W.heap.size,4,none⟩=some (.string s)/\w'.cell? ⟨W.heap.size,5,none⟩=some (.slice A3 l3 c3))/\(w'.cell? ⟨W.heap.size+1,0,none⟩=some (.int .u8 51)/\w'.cell? ⟨W.heap.size+1,1,none⟩=some (.int .i64 tn)/\w'.cell? ⟨W.heap.size+1,2,none⟩=some (.string ts)/\w'.cell? ⟨W.heap.size+1,3,none⟩=some (.slice (some a) ks.length tc)))/\(w'.cell? ⟨wr.heap.size,0,none⟩=some (.int .u8 u.k)/\w'.cell? ⟨wr.heap.size,1,none⟩=some (.int .i64 u.n)/\w'.cell? ⟨wr.heap.size,2,none⟩=some (.string u.s)/\w'.cell? ⟨wr.heap.size,3,none⟩=some (.slice A4 u.ks.length c4))) w'/\(fun _:World=>True) w' from fun w' h=>⟨⟨HCB.out w' (HINV.out.chg.trans (Chg.of_below (bl_tt HBK.out h))),box4 ((h.block _ (by have:=HZK.out; omega)).trans HBU.out)⟩,trivial⟩)
     have hdr:=(Below.refl wk.heap.size wk).drew
     have hSS:=HCK.out _ hdr
     refine wp_region_noPanic ?_
     refine wp_region_G (fun w':World=>((w'.cell? ⟨W.heap.size,0,none⟩=some (.slice A1 L1 c1)/\w'.cell? ⟨W.heap.size,1,none⟩=some (.slice A2 L2 c2)/\w'.cell? ⟨W.heap.size,2,none⟩=some (.int .u8 k)/\w'.cell? ⟨W.heap.size,3,none⟩=some (.int .i64 n)/\w'.cell? ⟨W.heap.size,4,none⟩=some (.string s)/\w'.cell? ⟨W.heap.size,5,none⟩=some (.slice A3 l3 c3))/\(w'.cell? ⟨W.heap.size+1,0,none⟩=some (.int .u8 51)/\w'.cell? ⟨W.heap.size+1,1,none⟩=some (.int .i64 tn)/\w'.cell? ⟨W.heap.size+1,2,none⟩=some (.string ts)/\w'.cell? ⟨W.heap.size+1,3,none⟩=some (.slice (some a) ks.length tc)))/\(w'.cell? ⟨wr.heap.size,0,none⟩=some (.int .u8 u.k)/\w'.cell? ⟨wr.heap.size,1,none⟩=some (.int .i64 u.n)/\w'.cell? ⟨wr.heap.size,2,none⟩=some (.string u.s)/\w'.cell? ⟨wr.heap.size,3,none⟩=some (.slice A4 u.ks.length c4))) (fun _:World=>True) 40 (by kernel_rfl) ?_
     refine zT 0 hSS ?_
     (try simp only [Act.put,zP])
     refine zT 1 hSS ?_
     (try simp only [Act.put,zP])
     refine zT 2 hSS ?_
     (try simp only [Act.put,zP])
     refine zT 4 hSS ?_
     (try simp only [Act.put,zP])
     refine zT 5 hSS ?_
     (try simp only [Act.put,zP])
     refine zT 6 hSS ?_
     (try simp only [Act.put,zP])
     refine zT 7 hSS ?_
     (try simp only [Act.put,zP])
     refine zT 8 hSS ?_
     (try simp only [Act.put,zP])
     refine zT 9 hSS ?_
     (try simp only [Act.put,zP])
     refine wpG_one (i:=3) (by kernel_rfl) rfl (fun K hK=>?_)
     refine step_callL (by rfl) (.func 138) [.tmp 40,.tmp 41] _ (by rfl) 138 _ fnChild (by rfl) _ (by rfl) _ (newIV_of (child_any q Aq cq (j:Int) ⟨by omega,by omega⟩ _ _ (HD.out _ (HINV.out.chg.trans (Chg.of_below (bl_tt HBK.out hdr)))).2.2.2.1 HQC.out (by omega))) ?_
     rintro vq w2 ⟨Ac,cc,rfl,hrc,hcc,bw2⟩
     have b2:=bl_tt hdr bw2
     have hSS2:=HCK.out _ b2
     refine hK.out _ _ hSS2 ?_
     clear hK K hSS
     (try simp only [Act.put,zP])
     refine wpG_one (i:=10) (by kernel_rfl) rfl (fun K hK=>?_)
     refine step_callL (by rfl) (.func 139) [.tmp 45,.tmp 46,.tmp 47,.tmp 48] _ (by rfl) 139 _ fnArgument (by rfl) _ (by rfl) _ (isW_of (argument_any p (.nd 51 tn ts ks) j hlt vs A c _ _ _ _ _ _ (HD.out _ (HINV.out.chg.trans (Chg.of_below (bl_tt HBK.out b2)))).1 (HD.out _ (HINV.out.chg.trans (Chg.of_below (bl_tt HBK.out b2)))).2.1 (HD.out _ (HINV.out.chg.trans (Chg.of_below (bl_tt HBK.out b2)))).2.2.1 HLV.out)) ?_
     rintro vq w3 ⟨rfl,bw3⟩
     simp only [T.k_nd,T.s_nd,T.ks_nd]
     have b3:=bl_tt b2 bw3
     have hSS3:=HCK.out _ b3
     refine hK.out _ _ hSS3 ?_
     clear hK K hSS2
     (try simp only [Act.put,zP])
     refine wpG_one (i:=11) (by kernel_rfl) rfl (fun K hK=>?_)
     have hcl:cntA p.prs ts ks.length 0 (ks.take j) vs<=sizes ks:=Nat.le_trans (cntA_le _ _ _ _ _ _) (sizes_take_le _ _)
     have hF:=HINV.out.fs.later (bl_tt HBK.out b3)
     have hR:=HREP.out.keep _ _ _ _ HINV.out.rd HINV.out.fs (Chg.of_below (bl_tt HBK.out b3))
     refine step_callC (by rfl) (.tmp 39) [.tmp 42,.tmp 44,.tmp 49] _ (by rfl) f fn hfn cap (by rfl) _ (by rfl) _ (repV_of (HREP.out.call _ pv' _ (q++[(j:Int)]) Ac cc u.s _ w3 hR hF (hrc.later bw3) (by simp; omega) (by omega))) ?_
     rintro vq W6 hp
     obtain ⟨pv6,hi6⟩:=HINV.out.step HREP.out (bl_tt HBK.out b3) hp
     have hi7:VsI Rd n0 fb Wb pw (N+one1 E0+cntA p.prs ts ks.length 0 (ks.take (j+1)) vs) W6 pv6:=by rw [cntA_take p.prs ts ks.length vs hlt]; simpa [Nat.add_assoc] using hi6
     have hSS6:(fun w':World=>((w'.cell? ⟨W.heap.size,0,none⟩=some (.slice A1 L1 c1)/\w'.cell? ⟨W.heap.size,1,none⟩=some (.slice A2 L2 c2)/\w'.cell? ⟨W.heap.size,2,none⟩=some (.int .u8 k)/\w'.cell? ⟨W.heap.size,3,none⟩=some (.int .i64 n)/\w'.cell? ⟨W.heap.size,4,none⟩=some (.string s)/\w'.cell? ⟨W.heap.size,5,none⟩=some (.slice A3 l3 c3))/\(w'.cell? ⟨W.heap.size+1,0,none⟩=some (.int .u8 51)/\w'.cell? ⟨W.heap.size+1,1,none⟩=some (.int .i64 tn)/\w'.cell? ⟨W.heap.size+1,2,none⟩=some (.string ts)/\w'.cell? ⟨W.heap.size+1,3,none⟩=some (.slice (some a) ks.length tc)))/\(w'.cell? ⟨wr.heap.size,0,none⟩=some (.int .u8 u.k)/\w'.cell? ⟨wr.heap.size,1,none⟩=some (.int .i64 u.n)/\w'.cell? ⟨wr.heap.size,2,none⟩=some (.string u.s)/\w'.cell? ⟨wr.heap.size,3,none⟩=some (.slice A4 u.ks.length c4))) W6/\(fun _:World=>True) W6:=⟨⟨HCB.out _ hi7.chg,box4 ((hp.2.elim fun _ h=>h.2.2.block _ (by have:=(bl_tt HBK.out b3).size; have:=b3.size; have:=HZK.out; omega) (fun hh=>by have hl:=HINV.out.fs.lt; rcases hh with hh|hh; (have:=hl.1; omega); (have:=(hl.2 _ hh).2; omega))).trans ((b3.block _ (by have:=HZK.out; omega)).trans HBU.out))⟩,trivial⟩
     refine hK.out _ _ hSS6 ?_
     clear hK K hSS3
     (try simp only [Act.put,zP])
     refine wpG_done (by kernel_rfl) ?_
     refine NoPanic.normal ?_
     have HI7:=zh hi7
     clear hi7 hi6 hp hSS6 hF hR
     go_wp2_with fail
     go_roundw
     case rel=>exact ⟨j+1,_,by omega,by go_num,HI7.out⟩
     case measure=>simp [intOf]; omega
    ·obtain rfl:j=ks.length:=by omega
     clear hinv
     go_wp2_with fail
     (try simp only [Exit.inBlock,Exit.then]); refine bodyPost_ret (results_none rfl _ _ _) rfl ?_
     have hinv:=HINV.out
     rw [List.take_of_length_le (Nat.le_refl _)] at hinv
     have hcc:=HCC.out
     rw [cntV,HE0.out,if_pos (by decide)] at hcc
     rw [<-hcc,<-Nat.add_assoc]
     exact hinv.rep HBW.out ⟨_,rfl⟩
 ·obtain ⟨h50,h51⟩:=not_or.1 hcall
  have hd50:(tk==50)=false:=beq_false_of_ne h50
  have hd51:(tk==51)=false:=beq_false_of_ne h51
  go_wp2_with fail
  go_loopw [55] (fun i wr=>∃ (j:Nat) (pv':Value),j<=ks.length/\i=.int .i64 j/\VsI Rd n0 fb Wb pw (N+one1 E0+cntK p.prs tk ts 0 (ks.take j) vs) wr pv') (fun i _=>ks.length-(intOf i).toNat)
  case atStart=>exact ⟨0,_,Nat.zero_le _,rfl,by simpa [cntK] using HI3.out⟩
  case round =>
   obtain ⟨j,pv',hj,rfl,hinv⟩:=hrel
   have HINV:=zh hinv
   clear HI3
   by_cases hlt:j<ks.length
   ·obtain ⟨-,-,-,-,hrk⟩:=HD.out wr hinv.chg
    obtain ⟨a,u,A4,c4,rfl,hsa,Hu,⟨q0,q1,q2,q3⟩,hnu⟩:=hrk.nd hlt
    have HNU:=zh hnu
    clear hinv hrk hnu hsa
    go_upto_region 11 with fail
    have hbk:Below wr.heap.size wr (wr.alloc (.cells #[.int .u8 u.k,.int .i64 u.n,.string u.s,.slice A4 u.ks.length c4] 29)):=bl_al (Below.refl _ _) _
    have hbU:=heap_alloc_new wr (.cells #[.int .u8 u.k,.int .i64 u.n,.string u.s,.slice A4 u.ks.length c4] 29)
    obtain ⟨wk,hwk⟩:∃ wk,wr.alloc (.cells #[.int .u8 u.k,.int .i64 u.n,.string u.s,.slice A4 u.ks.length c4] 29)=wk:=⟨_,rfl⟩
    rw [hwk] at hbk hbU ⊢
    have HZK:=zh (show wk.heap.size=wr.heap.size+1 by rw [<-hwk]; simp)
    have HBK:=zh hbk
    have HBU:=zh hbU
    clear hwk hbk hbU
    have HCK:=zh (show ∀ w':World,Below wk.heap.size wk w'->(fun w':World=>((w'.cell? ⟨W.heap.size,0,none⟩=some (.slice A1 L1 c1)/\w'.cell? ⟨W.heap.size,1,none⟩=some (.slice A2 L2 c2)/\w'.cell? ⟨W.heap.size,2,none⟩=some (.int .u8 k)/\w'.cell? ⟨W.heap.size,3,none⟩=some (.int .i64 n)/\w'.cell? ⟨W.heap.size,4,none⟩=some (.string s)/\w'.cell? ⟨W.heap.size,5,none⟩=some (.slice A3 l3 c3))/\(w'.cell? ⟨W.heap.size+1,0,none⟩=some (.int .u8 tk)/\w'.cell? ⟨W.heap.size+1,1,none⟩=some (.int .i64 tn)/\w'.cell? ⟨W.heap.size+1,2,none⟩=some (.string ts)/\w'.cell? ⟨W.heap.size+1,3,none⟩=some (.slice (some a) ks.length tc)))/\(w'.cell? ⟨wr.heap.size,0,none⟩=some (.int .u8 u.k)/\w'.cell? ⟨wr.heap.size,1,none⟩=some (.int .i64 u.n)/\w'.cell? ⟨wr.heap.size,2,none⟩=some (.string u.s)/\w'.cell? ⟨wr.heap.size,3,none⟩=some (.slice A4 u.ks.length c4))) w'/\(fun _:World=>True) w' from fun w' h=>⟨⟨HCB.out w' (HINV.out.chg.trans (Chg.of_below (bl_tt HBK.out h))),box4 ((h.block _ (by have:=HZK.out; omega)).trans HBU.out)⟩,trivial⟩)
    have hdr:=(Below.refl wk.heap.size wk).drew
    have hSS:=HCK.out _ hdr
    refine wp_region_noPanic ?_
    refine wp_region_G (fun w':World=>((w'.cell? ⟨W.heap.size,0,none⟩=some (.slice A1 L1 c1)/\w'.cell? ⟨W.heap.size,1,none⟩=some (.slice A2 L2 c2)/\w'.cell? ⟨W.heap.size,2,none⟩=some (.int .u8 k)/\w'.cell? ⟨W.heap.size,3,none⟩=some (.int .i64 n)/\w'.cell? ⟨W.heap.size,4,none⟩=some (.string s)/\w'.cell? ⟨W.heap.size,5,none⟩=some (.slice A3 l3 c3))/\(w'.cell? ⟨W.heap.size+1,0,none⟩=some (.int .u8 tk)/\w'.cell? ⟨W.heap.size+1,1,none⟩=some (.int .i64 tn)/\w'.cell? ⟨W.heap.size+1,2,none⟩=some (.string ts)/\w'.cell? ⟨W.heap.size+1,3,none⟩=some (.slice (some a) ks.length tc)))/\(w'.cell? ⟨wr.heap.size,0,none⟩=some (.int .u8 u.k)/\w'.cell? ⟨wr.heap.size,1,none⟩=some (.int .i64 u.n)/\w'.cell? ⟨wr.heap.size,2,none⟩=some (.string u.s)/\w'.cell? ⟨wr.heap.size,3,none⟩=some (.slice A4 u.ks.length c4))) (fun _:World=>True) 40 (by kernel_rfl) ?_
    refine zT 0 hSS ?_
    (try simp only [Act.put,zP])
    refine zT 1 hSS ?_
    (try simp only [Act.put,zP])
    refine zT 2 hSS ?_
    (try simp only [Act.put,zP])
    refine zT 3 hSS ?_
    (try simp only [Act.put,zP])
    refine zT 5 hSS ?_
    (try simp only [Act.put,zP])
    refine zT 6 hSS ?_
    (try simp only [Act.put,zP])
    refine zT 7 hSS ?_
    (try simp only [Act.put,zP])
    refine zT 9 hSS ?_
    (try simp only [Act.put,zP])
    refine wpG_one (i:=4) (by kernel_rfl) rfl (fun K hK=>?_)
    refine step_callL (by rfl) (.func 138) [.tmp 62,.tmp 63] _ (by rfl) 138 _ fnChild (by rfl) _ (by rfl) _ (newIV_of (child_any q Aq cq (j:Int) ⟨by omega,by omega⟩ _ _ (HD.out _ (HINV.out.chg.trans (Chg.of_below (bl_tt HBK.out hdr)))).2.2.2.1 HQC.out (by omega))) ?_
    rintro vq w2 ⟨Ac,cc,rfl,hrc,hcc,bw2⟩
    have b2:=bl_tt hdr bw2
    have hSS2:=HCK.out _ b2
    refine hK.out _ _ hSS2 ?_
    clear hK K hSS
    (try simp only [Act.put,zP])
    refine wpG_one (i:=8) (by kernel_rfl) rfl (fun K hK=>?_)
    refine step_callL (by rfl) (.func 140) [.tmp 65,.tmp 66,.tmp 67] _ (by rfl) 140 _ fnInner (by rfl) _ (by rfl) _ (shRowV_of (inner_any (.nd tk tn ts ks) j (by omega) vs A c _ _ _ _ (HD.out _ (HINV.out.chg.trans (Chg.of_below (bl_tt HBK.out b2)))).2.1 (HD.out _ (HINV.out.chg.trans (Chg.of_below (bl_tt HBK.out b2)))).2.2.1 HLC.out (by omega))) ?_
    simp only [T.k_nd,T.s_nd,T.ks_nd]
    rintro vq w3 ⟨Av,cv,rfl,hrv,hcv,bw3⟩
    have b3:=bl_tt b2 bw3
    have hSS3:=HCK.out _ b3
    refine hK.out _ _ hSS3 ?_
    clear hK K hSS2
    (try simp only [Act.put,zP])
    refine wpG_one (i:=10) (by kernel_rfl) rfl (fun K hK=>?_)
    have hcl:cntK p.prs tk ts 0 (ks.take j) vs<=sizes (ks.take j):=cntK_le _ _ _ _ (fun t _ vs=>cntV_le _ t vs) _ _
    have hsz:=sizes_take_le ks (j+1)
    rw [sizes_take ks j hlt,Hu.out] at hsz
    have hmem:u∈ks:=by rw [<-Hu.out]; exact List.getElem_mem hlt
    have hdu:=dep_le hmem
    have hil:=innerV_len tk ts j vs
    have hzb:=HINV.out.chg.size
    have hz0:=HZB.out
    have hzk:=HZK.out
    have hfl:=HINV.out.fs.lt
    have hF:=HINV.out.fs.later (bl_tt HBK.out b3)
    have hR:=HREP.out.keep _ _ _ _ HINV.out.rd HINV.out.fs (Chg.of_below (bl_tt HBK.out b3))
    have hzz:=hdr.size
    have hzw:=bw2.size
    have hzw2:=b2.size
    refine step_callL (by rfl) (.func 95) [.tmp 60,.tmp 61,.tmp 64,.tmp 68,.tmp 69] _ (by rfl) 95 _ fnVisit (by rfl) _ (by rfl) _ (repV_of (HIH.out u hmem (fun b=>(S b/\b<W.heap.size)\/wk.heap.size<=b) (innerV tk ts j vs) Av cv (q++[(j:Int)]) Ac cc (N+one1 E0+cntK p.prs tk ts 0 (ks.take j) vs) pv' w3 _ _ hR hF ((HD.out _ (HINV.out.chg.trans (Chg.of_below (bl_tt HBK.out b3)))).1.keep (fun b hb _=>.inl hb) (fun _ _ _=>rfl)) ((HNU.out.later (bl_tt HBK.out b3)).keep (fun b hb _=>.inl hb) (fun _ _ _=>rfl)) (hrv.mono fun b hb=>by rcases hb with hb|hb; exact .inl hb; exact .inr (by omega)) hcv ((hrc.later bw3).mono fun b hb=>.inr (by have:_<=b:=hb; omega)) hcc (fun b hb hlt' hh=>?_) (by simp; omega) (by omega) (by omega))) ?_
    ·rcases hb with ⟨hb,hbl⟩|hb
     ·refine HFAR.out b hb hbl (hh.imp id fun h=>?_)
      rcases HINV.out.own b h with h1|h1
      ·exact h1
      ·omega
     ·rcases hh with rfl|hh
      ·omega
      ·have:=hfl.2 b hh; omega
    rintro vq W6 hp
    obtain ⟨pv6,hi6⟩:=HINV.out.step HREP.out (bl_tt HBK.out b3) hp
    have hi7:VsI Rd n0 fb Wb pw (N+one1 E0+cntK p.prs tk ts 0 (ks.take (j+1)) vs) W6 pv6:=by rw [cntK_take p.prs tk ts vs hlt,Hu.out]; simpa [Nat.add_assoc] using hi6
    have hSS6:(fun w':World=>((w'.cell? ⟨W.heap.size,0,none⟩=some (.slice A1 L1 c1)/\w'.cell? ⟨W.heap.size,1,none⟩=some (.slice A2 L2 c2)/\w'.cell? ⟨W.heap.size,2,none⟩=some (.int .u8 k)/\w'.cell? ⟨W.heap.size,3,none⟩=some (.int .i64 n)/\w'.cell? ⟨W.heap.size,4,none⟩=some (.string s)/\w'.cell? ⟨W.heap.size,5,none⟩=some (.slice A3 l3 c3))/\(w'.cell? ⟨W.heap.size+1,0,none⟩=some (.int .u8 tk)/\w'.cell? ⟨W.heap.size+1,1,none⟩=some (.int .i64 tn)/\w'.cell? ⟨W.heap.size+1,2,none⟩=some (.string ts)/\w'.cell? ⟨W.heap.size+1,3,none⟩=some (.slice (some a) ks.length tc)))/\(w'.cell? ⟨wr.heap.size,0,none⟩=some (.int .u8 u.k)/\w'.cell? ⟨wr.heap.size,1,none⟩=some (.int .i64 u.n)/\w'.cell? ⟨wr.heap.size,2,none⟩=some (.string u.s)/\w'.cell? ⟨wr.heap.size,3,none⟩=some (.slice A4 u.ks.length c4))) W6/\(fun _:World=>True) W6:=⟨⟨HCB.out _ hi7.chg,box4 ((hp.2.elim fun _ h=>h.2.2.block _ (by have:=(bl_tt HBK.out b3).size; have:=b3.size; have:=HZK.out; omega) (fun hh=>by have hl:=HINV.out.fs.lt; rcases hh with hh|hh; (have:=hl.1; omega); (have:=(hl.2 _ hh).2; omega))).trans ((b3.block _ (by have:=HZK.out; omega)).trans HBU.out))⟩,trivial⟩
    refine hK.out _ _ hSS6 ?_
    clear hK K hSS3
    (try simp only [Act.put,zP])
    refine wpG_done (by kernel_rfl) ?_
    refine NoPanic.normal ?_
    have HI7:=zh hi7
    clear hi7 hi6 hp hSS6 hF hR
    go_wp2_with fail
    go_roundw
    case rel=>exact ⟨j+1,_,by omega,by go_num,HI7.out⟩
    case measure=>simp [intOf]; omega
   ·obtain rfl:j=ks.length:=by omega
    clear hinv
    go_wp2_with fail
    go_end0
    have hinv:=HINV.out
    rw [List.take_of_length_le (Nat.le_refl _)] at hinv
    have hcc:=HCC.out
    rw [cntV,HE0.out,if_neg hcall] at hcc
    rw [<-hcc,<-Nat.add_assoc]
    exact hinv.rep HBW.out ⟨_,rfl⟩
theorem isB_iff (k n:Int) (s:ByteArray) (ks:List T):isB (.nd k n s ks)=true↔k=57/\plainB n s=true/\∀ t∈ks,isS t=true:=by
 rw [isB]
 simp only [Bool.and_eq_true,decide_eq_true_eq,and_assoc]
 refine and_congr Iff.rfl (and_congr Iff.rfl ?_)
 rw [isSs_eq 0,kidsFrom_iff]
 constructor
 ·intro h t ht
  obtain ⟨q,hq,rfl⟩:=List.getElem_of_mem ht
  exact h q hq
 ·intro h q hq
  exact h _ (List.getElem_mem hq)
theorem isB_k {t:T} (h:isB t=true):t.k=57:=by cases t; exact ((isB_iff _ _ _ _).1 h).1
theorem mem_pos {x:T}:∀ {l:List T},x∈pos l↔∃ t∈l,x∈po t
 | []=>by simp [pos]
 | t::ts=>by simp [pos,mem_pos (l:=ts)]
theorem lims_eq:∀ (ks:List T),(∀ t∈ks,∀ d l,lim t d l=if dep t<=d/\size t<=l then some (l-size t) else none)->∀ d l,lims ks d l=if deps ks<=d/\sizes ks<=l then some (l-sizes ks) else none
 | [],_,d,l=>by simp [lims,deps,sizes]
 | t::ts,h,d,l=>by
  have e1:deps (t::ts)=max (dep t) (deps ts):=by rw [deps]
  have e2:sizes (t::ts)=size t+sizes ts:=by rw [sizes]
  rw [lims,h t (by simp) d l]
  by_cases h1:dep t<=d/\size t<=l
  ·rw [if_pos h1]
   simp only
   rw [lims_eq ts (fun u hu=>h u (by simp [hu])) d (l-size t)]
   by_cases h2:deps ts<=d/\sizes ts<=l-size t
   ·rw [if_pos h2,if_pos ⟨by omega,by omega⟩]; congr 1; omega
   ·rw [if_neg h2,if_neg (by omega)]
  ·rw [if_neg h1]; simp only; rw [if_neg (by omega)]
theorem lim_eq (t:T):∀ d l,lim t d l=if dep t<=d/\size t<=l then some (l-size t) else none:=by
 induction t using T.ind with
 | _ k n s ks ih =>
 intro d l
 have e1:dep (.nd k n s ks)=1+deps ks:=by rw [dep]
 have e2:size (.nd k n s ks)=1+sizes ks:=by rw [size]
 rw [lim]
 by_cases h:d=0\/l=0
 ·rw [if_pos h,if_neg (by omega)]
 ·rw [if_neg h,lims_eq ks ih]
  by_cases h2:deps ks<=d-1/\sizes ks<=l-1
  ·rw [if_pos h2,if_pos ⟨by omega,by omega⟩]; congr 1; omega
  ·rw [if_neg h2,if_neg (by omega)]
theorem isBodyB_iff (t:T):isBodyB t=true↔(dep t<=80/\size t<=2000)/\isB t=true:=by
 unfold isBodyB
 rw [lim_eq,Bool.and_eq_true]
 by_cases h:dep t<=80/\size t<=2000
 ·rw [if_pos h]; simp [h]
 ·rw [if_neg h]; simp [h]
theorem isE_kids {k n:Int} {s:ByteArray} {ks:List T} (h:isE (.nd k n s ks)=true):∀ t∈ks,isE t=true:=by
 have key:isEs ks=true->∀ t∈ks,isE t=true:=by
  intro h t ht
  rw [isEs_eq 0,kidsFrom_iff] at h
  obtain ⟨i,hi,rfl⟩:=List.getElem_of_mem ht
  exact h i hi
 have nil:decide (ks.length=0)=true->∀ t∈ks,isE t=true:=by
  intro h t ht
  have:ks=[]:=by simpa using h
  rw [this] at ht; cases ht
 rw [isE] at h
 split at h
 ·simp only [Bool.and_eq_true] at h; exact nil h.2
 split at h
 ·simp only [Bool.and_eq_true] at h; exact nil h.2
 split at h
 ·simp only [Bool.and_eq_true] at h; exact key h.2.2
 split at h
 ·simp only [Bool.and_eq_true] at h; exact key h.2.2
 split at h
 ·simp only [Bool.and_eq_true] at h; exact key h.2.2
 ·cases h
theorem isP_E {t:T} (h:isP t=true):isE t=true:=by unfold isP at h; simp only [Bool.and_eq_true] at h; exact h.2
theorem isV_E {t:T} (h:isV t=true):isE t=true:=by unfold isV at h; simp only [Bool.and_eq_true] at h; exact h.2
theorem kidsB_mem {m:Nat} {p:Nat->T->Bool} {ks:List T} (h:kidsB m p ks=true) {t:T} (ht:t∈ks):∃ i,p i t=true:=by
 unfold kidsB at h
 simp only [Bool.and_eq_true] at h
 have:=(kidsFrom_iff p 0 ks).1 h.2
 obtain ⟨i,hi,rfl⟩:=List.getElem_of_mem ht
 exact ⟨0+i,this i hi⟩
theorem isEB_mem {d:Nat} {ks:List T} (h:isEB d ks=true) {t:T} (ht:t∈ks):isE t=true\/isB t=true:=by
 have h':isEB (d+0) ks=true:=h
 rw [isEB_eq d 0] at h'
 have:=(kidsFrom_iff _ 0 ks).1 h'
 obtain ⟨i,hi,rfl⟩:=List.getElem_of_mem ht
 have h2:=this i hi
 unfold pEB at h2
 split at h2
 ·exact .inl h2
 ·exact .inr h2
theorem isS_EB {k n:Int} {s:ByteArray} {ks:List T} (h:isS (.nd k n s ks)=true):k≠57/\∀ t∈ks,isE t=true\/isB t=true:=by
 rw [isS] at h
 split at h
 ·rename_i hk
  simp only [Bool.and_eq_true] at h
  refine ⟨by omega,fun t ht=>?_⟩
  obtain ⟨i,hi⟩:=kidsB_mem h.2 ht
  split at hi
  ·exact .inl (isP_E hi)
  ·exact .inl hi
 split at h
 ·rename_i hk
  simp only [Bool.and_eq_true] at h
  refine ⟨by omega,fun t ht=>?_⟩
  obtain ⟨i,hi⟩:=kidsB_mem h.2 ht
  exact .inl (isP_E hi)
 split at h
 ·rename_i hk
  simp only [Bool.and_eq_true] at h
  refine ⟨by omega,fun t ht=>?_⟩
  obtain ⟨i,hi⟩:=kidsB_mem h.2 ht
  exact .inl (isP_E hi)
 split at h
 ·rename_i hk
  simp only [Bool.and_eq_true] at h
  refine ⟨by omega,fun t ht=>?_⟩
  obtain ⟨i,hi⟩:=kidsB_mem h.2 ht
  exact .inl (isP_E hi)
 split at h
 ·rename_i hk
  simp only [Bool.and_eq_true] at h
  refine ⟨by omega,fun t ht=>?_⟩
  have:=(kidsFrom_iff _ 0 ks).1 h.2
  obtain ⟨i,hi,rfl⟩:=List.getElem_of_mem ht
  exact .inl (isV_E (this i hi))
 split at h
 ·rename_i hk
  simp only [Bool.and_eq_true] at h
  exact ⟨by omega,fun t ht=>isEB_mem h.2.2 ht⟩
 split at h
 ·rename_i hk
  simp only [Bool.and_eq_true] at h
  exact ⟨by omega,fun t ht=>isEB_mem h.2.2 ht⟩
 split at h
 ·rename_i hk
  simp only [Bool.and_eq_true] at h
  exact ⟨by omega,fun t ht=>isEB_mem h.2.2 ht⟩
 ·cases h
theorem isS_cases {k n:Int} {s:ByteArray} {ks:List T} (h:isS (.nd k n s ks)=true) :
  ((k≠52/\k≠53/\k≠54/\k≠55/\k≠57)/\∀ t∈ks,t.k≠57) \/
  ((k=52\/k=53)/\plainB n s=true/\∃ a b c d,ks=[a,b,c,d]/\isE a=true/\isB b=true/\isB c=true/\isE d=true) \/
  (k=54/\namedB n s=true/\∃ a b c,ks=[a,b,c]/\isE a=true/\isB b=true/\isE c=true) \/
  (k=55/\namedB n s=true/\∃ b,ks=[b]/\isB b=true):=by
 have key:∀ (p:Nat->T->Bool),(∀ j t,p j t=true->t.k≠57)->kidsFrom p 0 ks=true->∀ t∈ks,t.k≠57:=by
  intro p hp hk t ht
  obtain ⟨q,hq,rfl⟩:=List.getElem_of_mem ht
  exact hp _ _ ((kidsFrom_iff p 0 ks).1 hk q hq)
 have kE:∀ t,isE t=true->t.k≠57:=fun t h1=>by have:=isE_k t h1; omega
 rw [isS] at h
 repeat' split at h
 ·simp only [kidsB,Bool.and_eq_true] at h
  exact .inl ⟨by omega,key _ (fun j t hj=>by split at hj; exact isP_k t hj; exact kE t hj) h.2.2⟩
 ·simp only [kidsB,Bool.and_eq_true] at h; exact .inl ⟨by omega,key _ (fun j t=>isP_k t) h.2.2⟩
 ·simp only [kidsB,Bool.and_eq_true] at h; exact .inl ⟨by omega,key _ (fun j t=>isP_k t) h.2.2⟩
 ·simp only [kidsB,Bool.and_eq_true] at h; exact .inl ⟨by omega,key _ (fun j t=>isP_k t) h.2.2⟩
 ·simp only [Bool.and_eq_true] at h; exact .inl ⟨by omega,key _ (fun j t=>isV_k t) h.2⟩
 ·rename_i hk
  simp only [Bool.and_eq_true,decide_eq_true_eq] at h
  obtain ⟨h1,h2,h3⟩:=h
  match ks,h2 with
  | [a,b,c,d],_ =>
   simp only [isEB,Bool.and_eq_true,Bool.and_true] at h3
   simp at h3
   exact .inr (.inl ⟨hk,h1,a,b,c,d,rfl,h3.1,h3.2.1,h3.2.2.1,h3.2.2.2⟩)
 ·rename_i hk
  simp only [Bool.and_eq_true,decide_eq_true_eq] at h
  obtain ⟨h1,h2,h3⟩:=h
  match ks,h2 with
  | [a,b,c],_ =>
   simp only [isEB,Bool.and_eq_true,Bool.and_true] at h3
   simp at h3
   exact .inr (.inr (.inl ⟨hk,h1,a,b,c,rfl,h3.1,h3.2.1,h3.2.2⟩))
 ·rename_i hk
  simp only [Bool.and_eq_true,decide_eq_true_eq] at h
  obtain ⟨h1,h2,h3⟩:=h
  match ks,h2 with
  | [b],_ =>
   simp only [isEB,Bool.and_eq_true,Bool.and_true] at h3
   simp at h3
   exact .inr (.inr (.inr ⟨hk,h1,b,rfl,h3⟩))
 ·cases h
end Go.Proofs.YtckhofdinldhpaaGreat
