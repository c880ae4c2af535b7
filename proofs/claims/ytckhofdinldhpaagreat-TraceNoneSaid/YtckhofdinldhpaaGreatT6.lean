/-
  Texts of the proof, put together without their remarks: Kg, Ip, Trp, Ig, Eqv, Ir, Ie, Is.
-/
import Derived.Test.YtckhofdinldhpaaGreatT5
import Derived.Recover
set_option linter.unusedSimpArgs false
set_option linter.unusedVariables false
set_option maxHeartbeats 8000000
set_option maxRecDepth 100000
namespace Go.Proofs.YtckhofdinldhpaaGreat
open Go Go.RowKit
def FrK (S S':ST):Prop:=S'.base=S.base/\S'.calls=S.calls/\S'.nc=S.nc
theorem moveE_fr (S:ST) (k:Int) (id i sid:Nat):FrK S (moveE S k id i sid).2:=by
 unfold moveE
 repeat' split
 all_goals exact ⟨rfl,rfl,rfl⟩
theorem transE_fr (S:ST) (k:Int) (id i:Nat):FrK S (transE S k id i).2:=by
 unfold transE
 repeat' split
 all_goals exact ⟨rfl,rfl,rfl⟩
theorem exec3_fr (S:ST) (k:Int) (s qs:ByteArray) (r2:Int) (id i:Nat):FrK S (exec3 S k s qs r2 id i).2:=by
 unfold exec3
 repeat' split
 all_goals first|exact moveE_fr _ _ _ _ _|exact transE_fr _ _ _ _|exact ⟨rfl,rfl,rfl⟩
theorem exec2_fr (S:ST) (k:Int) (s ps qs:ByteArray) (r1:Int) (r2:Int×Int):FrK S (exec2 S k s ps qs r1 r2).2:=by
 unfold exec2
 repeat' split
 all_goals first|exact exec3_fr _ _ _ _ _ _ _|exact ⟨rfl,rfl,rfl⟩
theorem exec1_fr (S:ST) (k:Int) (s:ByteArray) (p q:T) (r1 r2:Int×Int):FrK S (exec1 S k s p q r1 r2).2:=by
 unfold exec1
 by_cases h:r1.2≠0
 ·rw [if_pos h]; exact ⟨rfl,rfl,rfl⟩
 ·rw [if_neg h]; exact exec2_fr _ _ _ _ _ _ _
theorem doE_fr (S:ST) (t:T):FrK S (doE S t).2:=by
 unfold doE
 repeat' split
 all_goals first|exact ⟨rfl,rfl,rfl⟩|skip
 obtain ⟨k,n,s,ks⟩:=t
 exact exec1_fr _ _ _ _ _ _ _
theorem undoE_fr (S:ST) (t:T):FrK S (undoE S t).2:=by
 obtain ⟨k,n,s,ks⟩:=t
 exact doE_fr _ _
def MV:Nat:=4398046510976
def Bnd (m j:Nat) (S:ST):Prop:=S.base.vs.length<=m+j/\∀ f∈S.calls,f.vs.length<=MV+j
theorem Bnd.mono {m j:Nat} {S:ST} (h:Bnd m j S):Bnd m (j+1) S:=⟨by have:=h.1; omega,fun f hf=>by have:=h.2 f hf; omega⟩
theorem Bnd.fr {m j:Nat} {S S':ST} (h:Bnd m j S) (hf:FrK S S'):Bnd m (j+1) S':=by
 obtain ⟨h1,h2,_⟩:=hf
 unfold Bnd
 rw [h1,h2]
 exact h.mono
theorem Bnd.cur {m j:Nat} {S:ST} (h:Bnd m j S) (hm:m<=MV):S.cur.vs.length<=MV+j:=by
 rcases Nat.eq_zero_or_pos S.calls.length with h0|h0
 ·rw [cur_0 h0]; have:=h.1; omega
 ·rw [cur_1 h0]; exact h.2 _ (List.getElem_mem _)
theorem Bnd.setCur {m j:Nat} {S:ST} (h:Bnd m j S) (f:FR) (hf:f.vs.length<=S.cur.vs.length+1):Bnd m (j+1) (S.setCur f):=by
 unfold ST.setCur
 by_cases h0:S.calls.length=0
 ·rw [if_pos h0]
  rw [cur_0 h0] at hf
  exact ⟨by have:=h.1; show f.vs.length<=_; omega,h.mono.2⟩
 ·rw [if_neg h0]
  refine ⟨h.mono.1,fun g hg=>?_⟩
  rw [cur_1 (by omega)] at hf
  rcases List.mem_or_eq_of_mem_set hg with hg|rfl
  ·exact h.mono.2 g hg
  ·have:=h.2 _ (List.getElem_mem (l:=S.calls) (n:=S.calls.length-1) (by omega)); omega
theorem entL_len {f:FR}:∀ (l:List (VD×ByteArray)) (acc g:FR),entL f acc l=.ok g->g.vs.length=acc.vs.length+l.length
 | [],acc,g,h=>by rw [entL] at h; injection h with h; subst h; simp
 | (v,a)::r,acc,g,h=>by
  rw [entL] at h
  split at h
  ·cases h
  ·split at h
   ·have:=entL_len r _ _ h
    simp at this ⊢
    omega
   ·cases h
theorem Bnd.open_ {m j:Nat} {S:ST} (h:Bnd m j S) (v:VD) (x:Int):Bnd m (j+1) (openE S v x).2:=by
 unfold openE
 repeat' split
 all_goals first|exact h.mono|exact Bnd.setCur (S:=S.newCell _) h _ (by rw [newCell_cur]; simp [FR.push])
theorem Bnd.close_ {m j:Nat} {S:ST} (h:Bnd m j S) (s:ByteArray) (x:Int):Bnd m (j+1) (closeE S s x).2:=by
 unfold closeE
 repeat' split
 all_goals first|exact h.mono|skip
 all_goals exact h.setCur _ (by simp [FR.pop]; omega)
theorem Bnd.enter {m j:Nat} {S:ST} (h:Bnd m j S) (ps:List VD) (ss:List ByteArray) (hp:ps.length<=MV):Bnd m (j+1) (enterE S ps ss).2:=by
 unfold enterE
 split
 ·exact h.mono
 ·rcases he:entL S.cur ⟨[],[],0⟩ (ps.zip ss) with e|f
  ·exact h.mono
  ·unfold entR
   dsimp only
   split
   ·exact h.mono
   ·refine ⟨h.mono.1,fun g hg=>?_⟩
    rcases List.mem_append.1 hg with hg|hg
    ·exact h.mono.2 g hg
    ·simp at hg
     subst hg
     have:=entL_len _ _ _ he
     simp at this
     omega
theorem Bnd.leave {m j:Nat} {S:ST} (h:Bnd m j S):Bnd m (j+1) (leaveE S).2:=by
 unfold leaveE
 split
 ·exact h.mono
 ·exact ⟨h.mono.1,fun g hg=>h.mono.2 g (List.mem_of_mem_take hg)⟩
theorem NV_two (W:World) (E:TypeId) {S:Nat->Prop} (hS:S W.heap.size) {t1 t2:T} {k n k1 n1 k2 n2:Int} {s s1 s2:ByteArray} {A1 A2:Option Addr} {l1 c1 l2 c2:Nat} (hf:Fld k n s) (h1:NV W S t1 (nv k1 n1 s1 A1 l1 c1)) (h2:NV W S t2 (nv k2 n2 s2 A2 l2 c2)) :
  NV (W.alloc (.cells #[.int .u8 k1,.int .i64 n1,.string s1,.slice A1 l1 c1,.int .u8 k2,.int .i64 n2,.string s2,.slice A2 l2 c2] E)) S (.nd k n s [t1,t2]) (nv k n s (some ⟨W.heap.size,0,none⟩) 2 2):=by
 refine NV.shut (ks:=[t1,t2]) hf (by simp [LK]) (by simp) fun i hi=>?_
 have hb:=bl_al (Below.refl W.heap.size W) (.cells #[.int .u8 k1,.int .i64 n1,.string s1,.slice A1 l1 c1,.int .u8 k2,.int .i64 n2,.string s2,.slice A2 l2 c2] E)
 have hx:=heap_alloc_new W (.cells #[.int .u8 k1,.int .i64 n1,.string s1,.slice A1 l1 c1,.int .u8 k2,.int .i64 n2,.string s2,.slice A2 l2 c2] E)
 match i,hi with
 | 0,_=>exact ⟨⟨W.heap.size,0,none⟩,_,_,_,_,rfl,hS,⟨zc hx rfl,zc hx rfl,zc hx rfl,zc hx rfl⟩,h1.later hb⟩
 | 1,_=>exact ⟨⟨W.heap.size,0,none⟩,_,_,_,_,rfl,hS,⟨zc hx rfl,zc hx rfl,zc hx rfl,zc hx rfl⟩,h2.later hb⟩
theorem rowI_blk {W:World} {b:Nat} {E:TypeId} {xs:List Int} (h:W.heap[b]?=some (.cells (flatI xs).toArray E (0,0))) (hx:∀ x∈xs,I64 x):RowI W Any (some ⟨b,0,none⟩) xs:=fun i hi=>by
 have ha:(⟨b,0,none⟩:Addr).add i=⟨b,i,none⟩:=by rw [Addr.add_lit,Nat.zero_add]
 refine ⟨⟨b,0,none⟩,rfl,trivial,?_,hx _ (List.getElem_mem hi)⟩
 rw [ha]
 simp only [World.cell?,h]
 simp [flatI,hi]
theorem rowV_blk {W:World} {b:Nat} {E:TypeId} {vs:List VD} (h:W.heap[b]?=some (.cells (flatV vs).toArray E (0,0))) (hx:∀ v∈vs,FldV v):RowV W Any (some ⟨b,0,none⟩) vs:=fun i hi=>by
 have ha:(⟨b,0,none⟩:Addr).add (i*3)=⟨b,i*3,none⟩:=by rw [Addr.add_lit,Nat.zero_add]
 obtain ⟨g1,g2,g3⟩:=flatV_get vs i hi
 refine ⟨⟨b,0,none⟩,rfl,trivial,?_,hx _ (List.getElem_mem hi)⟩
 rw [ha]
 have key:∀ o u,(flatV vs)[o]?=some u->W.cell? ⟨b,o,none⟩=some u:=fun o u ho=>by
  simp only [World.cell?,h]
  simpa using ho
 exact ⟨key _ _ g1,key _ _ g2,key _ _ g3⟩
theorem bV2 (s:ByteArray) (k:Int) (w:World):(Instr.build 83 #[(0,.string s),(1,.int .u8 k)]).run Tryz.prog w=.ok (.agg #[.string s,.int .u8 k,.int .i64 0]) w:=by kernel_rfl
theorem bI2 (x y:Int) (w:World):(Instr.buildSlice 24 2 #[(0,.int .i64 x),(1,.int .i64 y)]).run Tryz.prog w=.ok (.slice (some ⟨w.heap.size,0,none⟩) 2 2) (w.alloc (.cells #[.int .i64 x,.int .i64 y] 3)):=by kernel_rfl
theorem bS1 (A:Option Addr) (l c:Nat) (w:World):(Instr.build 26 #[(0,.slice A l c)]).run Tryz.prog w=.ok (.agg #[.slice A l c,.slice none 0 0,.slice none 0 0]) w:=by kernel_rfl
theorem box3o {w:World} {b:Nat} {E:TypeId} {u0 u1 u2:Value} (h:w.heap[b]?=some (.cells #[u0,u1,u2] E (0,0))):w.cell? ⟨b,0,none⟩=some u0/\w.cell? ⟨b,1,none⟩=some u1/\w.cell? ⟨b,2,none⟩=some u2 :=
 ⟨zc h rfl,zc h rfl,zc h rfl⟩
theorem row_IR {W:World} {n0:Nat} {E:TypeId} {v:Value} {l:List Int} (h:W.ownsRow n0 E 1 v l.length (flatI l)) (hf:∀ x∈l,I64 x):∃ A c,v=.slice A l.length c/\l.length<=c/\RowI W (fun b=>n0<=b) A l:=by
 obtain ⟨A,c,e,hc,hr⟩:=ownsRow_rowI (xs:=l) h hf
 exact ⟨A,c,e,hc,hr.keep (fun b hb _=>(h.lt b hb).1) (fun _ _ _=>rfl)⟩
theorem OwnS.svR {W:World} {n0:Nat} {s:SS} {v:Value} (h:OwnS W n0 s v) (hl:s.Lim):SV W (fun b=>n0<=b) s v:=by
 obtain ⟨vc,vi,vo,fc,rfl,hr,h1,h2,h3⟩:=h
 obtain ⟨AI,cI,e2,k2,r2⟩:=row_IR (hr.row .inp) h2
 obtain ⟨AO,cO,e3,k3,r3⟩:=row_IR (hr.row .out) h3
 change vi=_ at e2
 change vo=_ at e3
 have key:∃ A c,vc=.slice A s.cells.length c/\s.cells.length<=c/\RowII W (fun b=>n0<=b) A s.cells:=by
  rcases Nat.eq_zero_or_pos s.cells.length with h0|h0
  ·obtain ⟨A,c,e1,hc,_⟩:=row_slice (hr.row .all)
   exact ⟨A,c,e1,hc,fun i hi=>by omega⟩
  ·obtain ⟨g,c,e1,hc,_,hcell⟩:=row_some (hr.row .all) h0
   change vc=_ at e1
   have hg:n0<=g:=(hr.lt .all g (by show vc.ownBlock=some g; rw [e1]; rfl)).1
   refine ⟨_,c,e1,hc,fun i hi=>?_⟩
   have hri:=hr.row (.el i)
   simp only [rowsS,hi,if_true,List.getD_eq_getElem?_getD,List.getElem?_eq_getElem hi,Option.getD_some] at hri
   obtain ⟨A',c',e4,k4,r4⟩:=row_IR hri (h1 _ (List.getElem_mem hi))
   have ha:(⟨g,0,none⟩:Addr).add i=⟨g,i,none⟩:=by rw [Addr.add_lit,Nat.zero_add]
   refine ⟨⟨g,0,none⟩,A',c',rfl,hg,?_,k4,r4⟩
   rw [ha,<-e4,hcell i (by show i<s.cells.length*1; omega)]
   simp [rowsS,hi]
 obtain ⟨A,c,e1,k1,r1⟩:=key
 exact ⟨A,c,AI,cI,AO,cO,by rw [e1,e2,e3],r1,r2,r3,k1,k2,k3,hl⟩
theorem SV.stp {W W':World} {n0 lo:Nat} {P P':Ph} {S S':ST} {s:SS} {v:Value} (h:SV W (fun b=>lo<=b) s v) (hlo:∀ b,OwnB (rows P S) b->b<lo) (hst:SStp n0 P S W P' S' W'):SV W' (fun b=>lo<=b) s v :=
 h.keep (fun _ h _=>h) fun b hb hlt=>hst.st.chg.block b hlt fun ho=>by have:=hlo b ho; omega
theorem SV.any {W:World} {S:Nat->Prop} {s:SS} {v:Value} (h:SV W S s v):SV W Any s v:=h.keep (fun _ _ _=>trivial) fun _ _ _=>rfl
theorem SR.n0le {W:World} {n0:Nat} {P:Ph} {S:ST} (h:SR W n0 P S):n0<=W.heap.size:=by have:=h.rws.lt .sb _ rfl; omega
theorem SR.own_lt {W:World} {n0:Nat} {P:Ph} {S:ST} (h:SR W n0 P S) {b:Nat} (hb:OwnB (rows P S) b):n0<=b/\b<W.heap.size:=by
 obtain ⟨q,hq⟩:=hb; exact h.rws.lt q b hq
theorem SStp.frame {w W W':World} {n0:Nat} {P P':Ph} {S S':ST} (hst:SStp n0 P S W P' S' W') (hs:SR W n0 P S) (hb:Below w.heap.size w W) (hn:w.heap.size<=n0):Below w.heap.size w W' :=
 hb.trans (hst.st.chg.below (Nat.le_trans hn hs.n0le) fun _ ho=>Nat.le_trans hn (hs.own_lt ho).1)
theorem SStp.blk {W W':World} {n0:Nat} {P P':Ph} {S S':ST} {b:Nat} {o:Obj} (hst:SStp n0 P S W P' S' W') (hk:W.heap[b]?=some o) (hno:¬ OwnB (rows P S) b):W'.heap[b]?=some o:=hst.st.chg.keep hk hno
theorem SStp.no {W W':World} {n0:Nat} {P P':Ph} {S S':ST} {b:Nat} (hst:SStp n0 P S W P' S' W') (hlt:b<W.heap.size) (hno:¬ OwnB (rows P S) b):¬ OwnB (rows P' S') b:=fun ho=>by
 rcases hst.st.own _ ho with h|h
 ·exact hno h
 ·omega
theorem step_callG {P:Program} {ops:Array Oper} {o:Oper} {a:Act} {w:World} {K:Act->World->Prop} {Q:Exit->Act->World->Prop} {F:Prop} (hw:Region.wanted o (yielded ops a.tmps)=true) (x:Operand) (xs:List Operand) (ats:Array TypeId)
  (ho:o.op=.call { callee:=.value x,args:=xs.toArray,argTypes:=ats }) (f:FuncId) (fn:Func) (hf:IsFn P f fn) (hv:a.eval x=.func (.func f) #[] #[]) (l:List Value) (hargs:xs.map a.eval=l) (R:Value->World->Prop)
  (hc:Calls P f l.toArray w fun e w'=>∃ v,e=.returned v/\R v w') (h:∀ v w',R v w'->K (a.put o.dst v) w') :
  if Region.wanted o (yielded ops a.tmps)=true then Oper.wp P o a w K Q else F:=by
 rw [if_pos hw]
 subst hargs
 have e:(execOp a.eval o).run P w=.ok (.enter f (xs.map a.eval).toArray) w:=by
  unfold execOp
  simp only [ho,resolve,hv,Deferred.ofValue,Sem.run_bind,Sem.run_pure,Result.andThen_ok,invoke,run_callFunc hf,Array.empty_append,List.map_toArray,Array.append_empty]
 unfold Oper.wp
 rw [e,Oper.upon_enter]
 refine hc.mono ?_
 rintro e w' ⟨v,rfl,hR⟩
 exact h v w' hR
theorem newS_state {vs:List VD} {s:SS} (h:fitB vs s=true):(newS vs s).state=s:=by
 have hl:s.cells.length=vs.length:=(fitB_all h).2.1
 obtain ⟨c,i,o⟩:=s
 simp only [ST.state,newS,List.length_range,Nat.sub_zero]
 congr 1
 rw [List.take_of_length_le (by simp)]
 refine List.ext_getElem (by simpa using hl.symm) fun j h1 h2=>?_
 simp at h1 h2
 simp [h2]
theorem Bnd.new (vs:List VD) (s:SS) (h:vs.length<=12):Bnd 12 0 (newS vs s):=⟨h,fun f hf=>by simp [newS] at hf⟩
structure KS (w:World) (n0 sb:Nat) (kb:Nat->Prop) (W:World) (S:ST):Prop where
 bl:Below w.heap.size w W
 hn:w.heap.size<=n0
 sr:∃ P,SR W n0 P S/\P.sb=sb/\∀ b,kb b->b<W.heap.size/\¬ OwnB (rows P S) b
structure Kpt (n0:Nat) (kb:Nat->Prop) (W W':World):Prop where
 size:W.heap.size<=W'.heap.size
 kept:∀ b,b<W.heap.size->(b<n0\/kb b)->W'.heap[b]?=W.heap[b]?
section
variable {w W W' W'':World} {n0 sb:Nat} {kb kb':Nat->Prop} {S S':ST}
theorem Kpt.refl (n0:Nat) (kb:Nat->Prop) (W:World):Kpt n0 kb W W:=⟨Nat.le_refl _,fun _ _ _=>rfl⟩
theorem Kpt.trans (h:Kpt n0 kb W W') (h':Kpt n0 kb W' W''):Kpt n0 kb W W'':=⟨Nat.le_trans h.size h'.size,fun b hb hk=>(h'.kept b (Nat.lt_of_lt_of_le hb h.size) hk).trans (h.kept b hb hk)⟩
theorem Kpt.of_below (h:Below W.heap.size W W'):Kpt n0 kb W W':=⟨h.size,fun b hb _=>h.block b hb⟩
theorem Kpt.cell {b o:Nat} {u:Value} (h:Kpt n0 kb W W') (hk:b<n0\/kb b) (hc:W.cell? ⟨b,o,none⟩=some u):W'.cell? ⟨b,o,none⟩=some u :=
 cell_kp hc (h.kept b (World.block_lt_of_cell? W _ hc) hk)
theorem Kpt.blk {b:Nat} {o:Obj} (h:Kpt n0 kb W W') (hk:b<n0\/kb b) (hc:W.heap[b]?=some o):W'.heap[b]?=some o:=(h.kept b (blk_lt hc) hk).trans hc
theorem KS.n0le (h:KS w n0 sb kb W S):n0<=W.heap.size:=by obtain ⟨P,hs,_⟩:=h.sr; exact hs.n0le
theorem KS.wf (h:KS w n0 sb kb W S):S.WF:=by obtain ⟨P,hs,_⟩:=h.sr; exact hs.wf
theorem KS.later (h:KS w n0 sb kb W S) (hb:Below W.heap.size W W'):KS w n0 sb kb W' S:=by
 obtain ⟨P,hs,e,hk⟩:=h.sr
 exact ⟨bl_tt h.bl hb,h.hn,P,hs.later hb,e,fun b hb'=>⟨Nat.lt_of_lt_of_le (hk b hb').1 hb.size,(hk b hb').2⟩⟩
theorem KS.also (h:KS w n0 sb kb W S) (hb:Below W.heap.size W W') (hkb:∀ b,kb' b->kb b\/(W.heap.size<=b/\b<W'.heap.size)):KS w n0 sb kb' W' S:=by
 obtain ⟨P,hs,e,hk⟩:=h.sr
 refine ⟨bl_tt h.bl hb,h.hn,P,hs.later hb,e,fun b hb'=>?_⟩
 rcases hkb b hb' with h1|⟨h1,h2⟩
 ·exact ⟨Nat.lt_of_lt_of_le (hk b h1).1 hb.size,(hk b h1).2⟩
 ·exact ⟨h2,fun ho=>by have:=(hs.own_lt ho).2; omega⟩
theorem KS.less (h:KS w n0 sb kb W S) (hkb:∀ b,kb' b->kb b):KS w n0 sb kb' W S:=h.also (Below.refl _ _) fun b hb=>.inl (hkb b hb)
theorem KS.new {P:Ph} {vs:List VD} {s:SS} {W0:World} (h0:Below w.heap.size w W0) (hb:Below W0.heap.size W0 W) (hs:SR W W0.heap.size P (newS vs s)):KS w W0.heap.size P.sb (fun _=>False) W (newS vs s) :=
 ⟨bl_tt h0 hb,h0.size,P,hs,rfl,fun _ h=>h.elim⟩
def KP (w:World) (n0 sb:Nat) (kb:Nat->Prop) (W:World) (R:Int×ST) (e:Ending) (W':World):Prop:=e=.returned (.int .i64 R.1)/\KS w n0 sb kb W' R.2/\Kpt n0 kb W W'
theorem KS.stp {P P':Ph} (hbl:Below w.heap.size w W) (hn0:w.heap.size<=n0) (hs:SR W n0 P S) (hk:∀ b,kb b->b<W.heap.size/\¬ OwnB (rows P S) b) (hst:SStp n0 P S W P' S' W') (hsb:P'.sb=sb):KS w n0 sb kb W' S'/\Kpt n0 kb W W':=by
 refine ⟨⟨hst.frame hs hbl hn0,hn0,P',hst.sr,hsb,fun b hb=>⟨Nat.lt_of_lt_of_le (hk b hb).1 hst.st.chg.size,hst.no (hk b hb).1 (hk b hb).2⟩⟩,hst.st.chg.size,fun b hlt hb=>hst.st.chg.block b hlt fun ho=>?_⟩
 rcases hb with hb|hb
 ·have:=(hs.own_lt ho).1; omega
 ·exact (hk b hb).2 ho
theorem KS.dop (h:KS w n0 sb kb W S) {f:FuncId} {args:Array Value} {R:Int×ST} (hc:∀ P,SR W n0 P S->P.sb=sb->Calls Tryz.prog f args W (DoP n0 P S W R)):Calls Tryz.prog f args W (KP w n0 sb kb W R):=by
 obtain ⟨P,hs,e,hk⟩:=h.sr
 refine (hc P hs e).mono ?_
 rintro e' W2 ⟨a1,P',a2,a3⟩
 exact ⟨a1,KS.stp h.bl h.hn hs hk a2 (a3.trans e)⟩
theorem KS.do_ (h:KS w n0 sb kb W S) (t:T) (v:Value) (hv:NV W Any t v):Calls Tryz.prog 20 #[.pointer (some ⟨sb,0,none⟩),v] W (KP w n0 sb kb W (doE S t)) :=
 h.dop fun _ hs e=>e▸Do_any hs t v hv
theorem KS.undo (h:KS w n0 sb kb W S) (t:T) (v:Value) (hv:NV W Any t v):Calls Tryz.prog 19 #[.pointer (some ⟨sb,0,none⟩),v] W (KP w n0 sb kb W (undoE S t)) :=
 h.dop fun _ hs e=>e▸Undo_any hs t v hv
theorem KS.open_ (h:KS w n0 sb kb W S) (v:VD) (hfv:FldV v) (x:Int) (hx:I64 x) (hlim:S.cur.vs.length+1<=4398046511000):Calls Tryz.prog 185 #[.pointer (some ⟨sb,0,none⟩),.agg #[.string v.s,.int .u8 v.k,.int .i64 v.n],.int .i64 x] W (KP w n0 sb kb W (openE S v x)) :=
 h.dop fun _ hs e=>e▸Open_any hs v hfv x hx hlim
theorem KS.close (h:KS w n0 sb kb W S) (s:ByteArray) (x:Int):Calls Tryz.prog 186 #[.pointer (some ⟨sb,0,none⟩),.string s,.int .i64 x] W (KP w n0 sb kb W (closeE S s x)) :=
 h.dop fun _ hs e=>e▸Close_any hs s x
theorem KS.enter (h:KS w n0 sb kb W S) (ps:List VD) (ss:List ByteArray) (A D:Option Addr) (c d:Nat) (hp:RowV W Any A ps) (hs:RowS W D ss) (hlp:ps.length<=4398046511000) (hls:ss.length<=17592186044416):Calls Tryz.prog 187 #[.pointer (some ⟨sb,0,none⟩),.slice A ps.length c,.slice D ss.length d] W (KP w n0 sb kb W (enterE S ps ss)) :=
 h.dop fun _ hs' e=>e▸Enter_any hs' ps ss A D c d hp hs hlp hls
theorem KS.leave (h:KS w n0 sb kb W S):Calls Tryz.prog 188 #[.pointer (some ⟨sb,0,none⟩)] W (KP w n0 sb kb W (leaveE S)) :=
 h.dop fun _ hs e=>e▸Leave_any hs
theorem KS.cell (h:KS w n0 sb kb W S) (s:ByteArray):Calls Tryz.prog 184 #[.pointer (some ⟨sb,0,none⟩),.string s] W (CellP W S s):=by
 obtain ⟨P,hs,rfl,-⟩:=h.sr
 exact SCell_any hs s
theorem KS.state (h:KS w n0 sb kb W S):Calls Tryz.prog 22 #[.pointer (some ⟨sb,0,none⟩)] W fun e W'=>∃ v,e=.returned v/\OwnS W' W.heap.size S.state v/\Below W.heap.size W W':=by
 obtain ⟨P,hs,rfl,-⟩:=h.sr
 exact State_any hs
end
theorem KS.chg {w W W':World} {n0 sb:Nat} {kb C:Nat->Prop} {S:ST} (h:KS w n0 sb kb W S) (hc:Chg C W W') (hC:∀ b,b<W.heap.size->C b->w.heap.size<=b/\(b<n0\/kb b)):KS w n0 sb kb W' S:=by
 obtain ⟨P,hs,e,hk⟩:=h.sr
 have hno:∀ b,OwnB (rows P S) b->¬ C b:=fun b ho hcb=>by
  obtain ⟨-,h2⟩:=hC b (hs.own_lt ho).2 hcb
  rcases h2 with h2|h2
  ·have:=(hs.own_lt ho).1; omega
  ·exact (hk b h2).2 ho
 refine ⟨?_,h.hn,P,⟨hs.rws.chg hc fun i b hb=>hno b ⟨i,hb⟩,hs.wf⟩,e,fun b hb=>⟨Nat.lt_of_lt_of_le (hk b hb).1 hc.size,(hk b hb).2⟩⟩
 exact ⟨hc.os.trans h.bl.os,hc.tape.trans h.bl.tape,hc.output.trans h.bl.output,Nat.le_trans h.bl.size hc.size,fun b hb=>by
  rw [hc.block b (Nat.lt_of_lt_of_le hb h.bl.size) fun hcb=>by have:=(hC b (Nat.lt_of_lt_of_le hb h.bl.size) hcb).1; omega]
  exact h.bl.block b hb⟩
theorem SS.Sm.of {s:SS} (h1:s.cells.length<=12) (h2:s.tin.length<=60) (h3:s.tout.length<=60) (h4:∀ l∈s.cells,l.length<=60):s.Sm :=
 ⟨by omega,fun l hl=>by have:=h4 l hl; omega,by omega,by omega⟩
theorem SS.Sm.lim {s:SS} (h:s.Sm):s.Lim:=by
 obtain ⟨h1,h2,h3,h4⟩:=h
 unfold SS.Lim LI
 exact ⟨by omega,fun l hl=>by have:=h2 l hl; omega,by omega,by omega⟩
structure RS where
 S:ST
 n:Nat
 ent:List Nat
inductive Out where
 | gas
 | err (e:Int)
 | ok (r:RS)
def Out.bind:Out->(RS->Out)->Out
 | .ok r,f=>f r
 | .err e,_=>.err e
 | .gas,_=>.gas
def stepO (F:Int) (r:RS):Out:=if F<=r.n then .err 18 else .ok { r with n:=r.n+1 }
def storeO (r:RS) (R:Int×ST):Out:=if R.1≠0 then .err R.1 else .ok { r with S:=R.2 }
def valO (t:T) (r:RS) (f:Int->RS->Out):Out:=if (exprE r.S.look t).2≠0 then .err (exprE r.S.look t).2 else f (exprE r.S.look t).1 r
def holdsO (F:Int) (t:T) (r:RS) (f:Bool->RS->Out):Out:=(stepO F r).bind fun r=>valO t r fun x r=>f (decide (x≠0)) r
def assertO (F:Int) (t:T) (b:Bool) (r:RS):Out:=holdsO F t r fun b' r=>if b'=b then .ok r else .err 15
def bodyO (f:T->RS->Out):List T->RS->Out
 | [],r=>.ok r
 | t::ts,r=>(f t r).bind (bodyO f ts)
def blkL (back:Bool) (b:T):List T:=if back=true then b.ks.reverse else b.ks
def loopO (F:Int) (f:T->RS->Out) (entry test:T) (l1 l2:List T):Nat->RS->Out
 | 0,_=>.gas
 | m+1,r=>(bodyO f l1 r).bind fun r=>holdsO F test r fun b r=>if b=true then .ok r else (bodyO f l2 r).bind fun r=>(assertO F entry false r).bind (loopO F f entry test l1 l2 m)
def prcI:List PR->ByteArray->Option Nat
 | [],_=>none
 | q::qs,s=>if (q.s.toList==s.toList)=true then some 0 else (prcI qs s).map (· + 1)
def kid (t:T) (i:Nat):T:=t.ks.getD i nil0
def fstT (back:Bool) (t:T):T:=if back=true then kid t (t.ks.length-1) else kid t 0
def lstT (back:Bool) (t:T):T:=if back=true then kid t 0 else kid t (t.ks.length-1)
def execO (prs:List PR) (F:Int):Nat->Bool->T->RS->Out
 | 0,_,_,_=>.gas
 | g+1,back,t,r =>
  if t.k=52 then
   holdsO F (fstT back t) r fun yes r=>(bodyO (execO prs F g back) (blkL back (if yes=true then kid t 1 else kid t 2)) r).bind (assertO F (lstT back t) yes)
  else if t.k=53 then
   (assertO F (fstT back t) true r).bind (loopO F (execO prs F g back) (fstT back t) (lstT back t) (blkL back (kid t 1)) (blkL back (kid t 2)) g)
  else if t.k=54 then
   (stepO F r).bind fun r=>valO (fstT back t) r fun x r=>(storeO r (openE r.S ⟨t.s,1,0⟩ x)).bind fun r=>(bodyO (execO prs F g back) (blkL back (kid t 1)) r).bind fun r =>
    (stepO F r).bind fun r=>valO (lstT back t) r fun x r=>storeO r (closeE r.S t.s x)
  else if t.k=55 then
   (stepO F r).bind fun r=>(storeO r (openE r.S ⟨t.s,3,0⟩ 0)).bind fun r=>(bodyO (execO prs F g back) (blkL back (kid t 0)) r).bind fun r =>
    (stepO F r).bind fun r=>storeO r (closeE r.S t.s 0)
  else if t.k=50\/t.k=51 then
   match prcI prs t.s with
   | none=>.err 0
   | some i=>(stepO F r).bind fun r=>(storeO r (enterE r.S (prs.getD i ⟨⟨#[]⟩,[],nil0⟩).ps (t.ks.map (·.s)))).bind fun r =>
     (bodyO (execO prs F g (back != decide (t.k=51))) (blkL (back != decide (t.k=51)) (prs.getD i ⟨⟨#[]⟩,[],nil0⟩).b) { r with ent:=r.ent.set i (r.ent.getD i 0+1) }).bind fun r =>
      (stepO F r).bind fun r=>storeO r (leaveE r.S)
  else (stepO F r).bind fun r=>storeO r (if back=true then undoE r.S t else doE r.S t)
def runO (prs:List PR) (F:Int) (g:Nat) (back:Bool) (b:T) (r:RS):Out:=bodyO (execO prs F g back) (blkL back b) r
def Good (n:Nat) (o:Out):Prop:=o ≠ .gas/\∀ r,o=.ok r->n<=r.n
theorem Good.err (n:Nat) (e:Int):Good n (.err e):=⟨by simp,by simp⟩
theorem Good.ok {n:Nat} {r:RS} (h:n<=r.n):Good n (.ok r):=⟨by simp,fun r' e=>by injection e with e; subst e; exact h⟩
theorem Good.mono {m n:Nat} {o:Out} (h:Good n o) (hm:m<=n):Good m o:=⟨h.1,fun r e=>Nat.le_trans hm (h.2 r e)⟩
theorem Good.bind {m n:Nat} {o:Out} {f:RS->Out} (h:Good n o) (hmn:m<=n) (hf:∀ r,n<=r.n->o=.ok r->Good m (f r)):Good m (o.bind f):=by
 cases o with
 | gas=>exact absurd rfl h.1
 | err e=>exact Good.err _ _
 | ok r=>exact hf r (h.2 r rfl) rfl
theorem stepO_ok {F:Int} {r r':RS} (h:stepO F r=.ok r'):r'={ r with n:=r.n+1 }/\(r.n:Int)<F:=by
 unfold stepO at h
 split at h
 ·cases h
 ·injection h with h; exact ⟨h.symm,by omega⟩
theorem stepO_good (F:Int) (r:RS):Good (r.n+1) (stepO F r):=by
 unfold stepO
 split
 ·exact Good.err _ _
 ·exact Good.ok (Nat.le_refl _)
theorem storeO_good (r:RS) (R:Int×ST):Good r.n (storeO r R):=by
 unfold storeO
 split
 ·exact Good.err _ _
 ·exact Good.ok (Nat.le_refl _)
theorem valO_good {m:Nat} {t:T} {r:RS} {f:Int->RS->Out} (hf:∀ x,Good m (f x r)):Good m (valO t r f):=by
 unfold valO
 split
 ·exact Good.err _ _
 ·exact hf _
theorem holdsO_good {m:Nat} {F:Int} {t:T} {r:RS} {f:Bool->RS->Out} (hm:m<=r.n+1) (hf:∀ b,(r.n:Int)<F->Good m (f b { r with n:=r.n+1 })):Good m (holdsO F t r f):=by
 unfold holdsO
 refine (stepO_good F r).bind hm fun r' _ e=>?_
 obtain ⟨rfl,h⟩:=stepO_ok e
 exact valO_good fun x=>hf _ h
theorem assertO_good (F:Int) (t:T) (b:Bool) (r:RS):Good (r.n+1) (assertO F t b r):=by
 unfold assertO
 refine holdsO_good (Nat.le_refl _) fun b' _=>?_
 split
 ·exact Good.ok (Nat.le_refl _)
 ·exact Good.err _ _
theorem assertO_ok {F:Int} {t:T} {b:Bool} {r r':RS} (h:assertO F t b r=.ok r'):r'={ r with n:=r.n+1 }/\(r.n:Int)<F:=by
 unfold assertO holdsO at h
 cases hs:stepO F r with
 | gas=>rw [hs] at h; cases h
 | err e=>rw [hs] at h; cases h
 | ok r1 =>
  rw [hs] at h
  obtain ⟨rfl,hl⟩:=stepO_ok hs
  simp only [Out.bind,valO] at h
  split at h
  ·cases h
  ·split at h
   ·injection h with h; exact ⟨h.symm,hl⟩
   ·cases h
theorem bodyO_good {f:T->RS->Out}:∀ (l:List T) (r:RS),(∀ t∈l,∀ r',r.n<=r'.n->Good r'.n (f t r'))->Good r.n (bodyO f l r)
 | [],r,_=>Good.ok (Nat.le_refl _)
 | t::ts,r,h=>by
  rw [bodyO]
  refine (h t (List.mem_cons_self ..) r (Nat.le_refl _)).bind (Nat.le_refl _) fun r1 h1 _=>?_
  exact (bodyO_good ts r1 fun u hu r' hr'=>h u (List.mem_cons_of_mem _ hu) r' (Nat.le_trans h1 hr')).mono h1
theorem loopO_good {F:Int} {f:T->RS->Out} {entry test:T} {l1 l2:List T}:∀ (m:Nat) (r:RS),F.toNat-r.n<m->(∀ t∈l1,∀ r',r.n<=r'.n->Good r'.n (f t r'))->(∀ t∈l2,∀ r',r.n<=r'.n->Good r'.n (f t r'))->Good r.n (loopO F f entry test l1 l2 m r)
 | 0,_,h,_,_=>by omega
 | m+1,r,h,h1,h2=>by
  rw [loopO]
  refine (bodyO_good l1 r h1).bind (Nat.le_refl _) fun r1 hr1 _=>?_
  refine holdsO_good (by omega) fun b hF=>?_
  split
  ·exact Good.ok (by simp only; omega)
  ·refine (bodyO_good l2 { r1 with n:=r1.n+1 } fun t ht r' hr'=>h2 t ht r' (by simp only at hr'; omega)).bind (by simp only; omega) fun r2 hr2 _=>?_
   refine (assertO_good F entry false r2).bind (by simp only at hr2; omega) fun r3 hr3 e=>?_
   obtain ⟨rfl,hF2⟩:=assertO_ok e
   refine (loopO_good m _ ?_ (fun t ht r' hr'=>h1 t ht r' ?_) (fun t ht r' hr'=>h2 t ht r' ?_)).mono ?_
   all_goals (simp only at *; omega)
theorem size_mem_le:∀ {ts:List T} {u:T},u∈ts->size u<=sizes ts
 | t::ts,u,h=>by
  rw [sizes]
  rcases List.mem_cons.1 h with rfl|h
  ·omega
  ·have:=size_mem_le h; omega
theorem kid_size {t:T} {i:Nat} (h:i<t.ks.length):size (kid t i)<size t:=by
 obtain ⟨k,n,s,ks⟩:=t
 have h':i<ks.length:=h
 have:kid (.nd k n s ks) i=ks[i]:=by simp [kid,h']
 rw [this,size]
 have:=size_mem_le (List.getElem_mem h')
 omega
theorem mem_size {t u:T} (h:u∈t.ks):size u<size t:=by
 obtain ⟨k,n,s,ks⟩:=t
 rw [size]
 have:=size_mem_le (ts:=ks) h
 omega
theorem blkL_mem {back:Bool} {b u:T} (h:u∈blkL back b):u∈b.ks:=by
 unfold blkL at h
 split at h
 ·simpa using h
 ·exact h
theorem kid_le (t:T) (i:Nat):∀ u∈(kid t i).ks,size u+1<size t:=by
 intro u hu
 by_cases h:i<t.ks.length
 ·have:=kid_size h
  have:=mem_size hu
  omega
 ·have:kid t i=nil0:=by
   unfold kid
   rw [List.getD_eq_getElem?_getD,List.getElem?_eq_none (by omega)]
   rfl
  rw [this] at hu
  simp [nil0] at hu
theorem execO_good {prs:List PR} {F:Int} {M:Nat} (hM:∀ q∈prs,size q.b<=M) (hM1:1<=M):∀ (g:Nat) (back:Bool) (t:T) (r:RS),(F.toNat-r.n)*M+size t<=g->Good r.n (execO prs F g back t r)
 | 0,_,t,r,h=>by
  have:0<size t:=by obtain ⟨k,n,s,ks⟩:=t; rw [size]; omega
  omega
 | g+1,back,t,r,h=>by
  have hmul:∀ a b:Nat,a<=b->a*M<=b*M:=fun a b h=>Nat.mul_le_mul_right _ h
  have hone:F.toNat-r.n<=(F.toNat-r.n)*M:=Nat.le_mul_of_pos_right _ hM1
  have hb:∀ (back:Bool) i r1,r.n<=r1.n->Good r1.n (bodyO (execO prs F g back) (blkL back (kid t i)) r1):=fun back i r1 h1 =>
   bodyO_good _ _ fun u hu r2 h2=>execO_good hM hM1 g back u r2 (by
    have:=kid_le t i u (blkL_mem hu)
    have:=hmul (F.toNat-r2.n) (F.toNat-r.n) (by omega)
    omega)
  rw [execO]
  split
  ·refine holdsO_good (by omega) fun yes hF=>?_
   have:Good (r.n+1) (bodyO (execO prs F g back) (blkL back (if yes=true then kid t 1 else kid t 2)) { r with n:=r.n+1 }):=by
    split
    ·exact hb back 1 _ (by simp only; omega)
    ·exact hb back 2 _ (by simp only; omega)
   exact this.bind (by omega) fun r1 h1 _=>(assertO_good _ _ _ _).mono (by omega)
  ·split
   ·refine (assertO_good _ _ _ _).bind (by omega) fun r1 h1 e=>?_
    obtain ⟨rfl,hF⟩:=assertO_ok e
    have hs:0<size t:=by obtain ⟨k,n,s,ks⟩:=t; rw [size]; omega
    refine (loopO_good g _ (by simp only; omega) (fun u hu r' hr'=>?_) (fun u hu r' hr'=>?_)).mono (by simp only; omega)
    ·have:=kid_le t 1 u (blkL_mem hu)
     have:=hmul (F.toNat-r'.n) (F.toNat-r.n) (by simp only at hr'; omega)
     exact execO_good hM hM1 g back u r' (by omega)
    ·have:=kid_le t 2 u (blkL_mem hu)
     have:=hmul (F.toNat-r'.n) (F.toNat-r.n) (by simp only at hr'; omega)
     exact execO_good hM hM1 g back u r' (by omega)
   ·split
    ·refine (stepO_good F r).bind (by omega) fun r1 h1 _=>valO_good fun x=>?_
     refine (storeO_good r1 _).bind (by omega) fun r2 h2 _=>?_
     refine (hb back 1 r2 (by omega)).bind (by omega) fun r3 h3 _=>?_
     refine (stepO_good F r3).bind (by omega) fun r4 h4 _=>valO_good fun x=>?_
     exact (storeO_good r4 _).mono (by omega)
    ·split
     ·refine (stepO_good F r).bind (by omega) fun r1 h1 _=>?_
      refine (storeO_good r1 _).bind (by omega) fun r2 h2 _=>?_
      refine (hb back 0 r2 (by omega)).bind (by omega) fun r3 h3 _=>?_
      refine (stepO_good F r3).bind (by omega) fun r4 h4 _=>?_
      exact (storeO_good r4 _).mono (by omega)
     ·split
      ·split
       ·exact Good.err _ _
       ·rename_i i hi
        refine (stepO_good F r).bind (by omega) fun r1 h1 e1=>?_
        obtain ⟨rfl,hF⟩:=stepO_ok e1
        refine (storeO_good _ _).bind (by simp only; omega) fun r2 h2 _=>?_
        have hbody:Good r2.n (bodyO (execO prs F g (back != decide (t.k=51))) (blkL (back != decide (t.k=51)) (prs.getD i ⟨⟨#[]⟩,[],nil0⟩).b) { r2 with ent:=r2.ent.set i (r2.ent.getD i 0+1) }):=by
         refine bodyO_good _ _ fun u hu r3 h3=>execO_good hM hM1 g _ u r3 ?_
         have hu':=blkL_mem hu
         by_cases hi:i<prs.length
         ·have hq:prs.getD i ⟨⟨#[]⟩,[],nil0⟩=prs[i]:=by simp [hi]
          rw [hq] at hu'
          have hl:=mem_size hu'
          have hMq:=hM _ (List.getElem_mem hi)
          have hsub:F.toNat-r3.n+1<=F.toNat-r.n:=by simp only at h2 h3; omega
          have:=hmul _ _ hsub
          rw [Nat.add_mul,Nat.one_mul] at this
          omega
         ·have hq:prs.getD i ⟨⟨#[]⟩,[],nil0⟩=⟨⟨#[]⟩,[],nil0⟩:=by
           rw [List.getD_eq_getElem?_getD,List.getElem?_eq_none (by omega)]; rfl
          rw [hq] at hu'
          simp [nil0] at hu'
        refine hbody.bind (by simp only at h2; omega) fun r3 h3 _=>?_
        refine (stepO_good F r3).bind (by simp only at h2; omega) fun r4 h4 _=>?_
        exact (storeO_good r4 _).mono (by simp only at h2; omega)
      ·refine (stepO_good F r).bind (by omega) fun r1 h1 _=>?_
       exact (storeO_good r1 _).mono (by omega)
structure CH where
 cell:Int
 at':Int
 old:Int
 new:Int
deriving DecidableEq
def part (s:SS) (c:Int):List Int:=if c = -1 then s.tin.reverse else if c = -2 then s.tout else s.cells.getD c.toNat []
def comps (n:Nat):List Int:=(List.range n).map Int.ofNat++[-1,-2]
def chg1 (c:Int) (x y:List Int) (i:Nat):List CH:=if x.getD i 0≠y.getD i 0 then [⟨c,i,x.getD i 0,y.getD i 0⟩] else []
def chgL (c:Int) (x y:List Int):List CH:=if x.length≠y.length then [⟨c,-1,x.length,y.length⟩] else []
def dif1 (c:Int) (x y:List Int):List CH:=chgL c x y++(List.range (max x.length y.length)).flatMap (chg1 c x y)
def diffE (a b:SS):List CH:=if a.cells.length≠b.cells.length then [] else (comps a.cells.length).flatMap fun c=>dif1 c (part a c) (part b c)
def evsE:SS->List SS->List (List CH)
 | _,[]=>[]
 | s,x::l=>diffE s x::evsE x l
def lastS:SS->List SS->SS
 | s,[]=>s
 | _,x::l=>lastS x l
theorem evsE_snoc (x:SS):∀ (s:SS) (l:List SS),evsE s (l++[x])=evsE s l++[diffE (lastS s l) x]
 | s,[]=>rfl
 | s,y::l=>by simp only [List.cons_append,evsE,lastS,evsE_snoc x y l]
theorem lastS_snoc (x:SS):∀ (s:SS) (l:List SS),lastS s (l++[x])=x
 | s,[]=>rfl
 | s,y::l=>lastS_snoc x y l
theorem evsE_len:∀ (s:SS) (l:List SS),(evsE s l).length=l.length
 | s,[]=>rfl
 | s,y::l=>by simp only [evsE,List.length_cons,evsE_len y l]
inductive Tc where
 | blk (back:Bool) (l:List T)
 | stm (back:Bool) (t:T)
 | lop (back:Bool) (t:T)
inductive Tg (prs:List PR):Tc->ST->List SS->ST->Prop
 | nil (back:Bool) (S:ST):Tg prs (.blk back []) S [] S
 | cons {back:Bool} {t:T} {ts:List T} {S S1 S2:ST} {L1 L2:List SS} (h1:Tg prs (.stm back t) S L1 S1) (h2:Tg prs (.blk back ts) S1 L2 S2):Tg prs (.blk back (t::ts)) S (L1++L2) S2
 | bas {back:Bool} {t:T} {S:ST} (hk:¬ (50<=t.k/\t.k<=55)) (h0:(if back=true then undoE S t else doE S t).1=0):Tg prs (.stm back t) S [(if back=true then undoE S t else doE S t).2.state] (if back=true then undoE S t else doE S t).2
 | iff {back:Bool} {t:T} {S S1:ST} {L:List SS} (hk:t.k=52) (h1:(exprE S.look (fstT back t)).2=0) (h2:Tg prs (.blk back (blkL back (if (exprE S.look (fstT back t)).1≠0 then kid t 1 else kid t 2))) S L S1)
   (h3:(exprE S1.look (lstT back t)).2=0) (h4:(exprE S1.look (lstT back t)).1≠0↔(exprE S.look (fstT back t)).1≠0):Tg prs (.stm back t) S (S.state::L++[S1.state]) S1
 | frm {back:Bool} {t:T} {S S1:ST} {L:List SS} (hk:t.k=53) (h1:(exprE S.look (fstT back t)).1≠0) (h2:Tg prs (.lop back t) S L S1):Tg prs (.stm back t) S L S1
 | done {back:Bool} {t:T} {S S1:ST} {L:List SS} (h1:(exprE S.look (fstT back t)).2=0) (h2:Tg prs (.blk back (blkL back (kid t 1))) S L S1) (h3:(exprE S1.look (lstT back t)).2=0) (h4:(exprE S1.look (lstT back t)).1≠0):Tg prs (.lop back t) S (S.state::L++[S1.state]) S1
 | more {back:Bool} {t:T} {S S1 S2 S3:ST} {L L2 L3:List SS} (h1:(exprE S.look (fstT back t)).2=0) (h2:Tg prs (.blk back (blkL back (kid t 1))) S L S1) (h3:(exprE S1.look (lstT back t)).2=0) (h4:(exprE S1.look (lstT back t)).1=0)
   (h5:Tg prs (.blk back (blkL back (kid t 2))) S1 L2 S2) (h6:(exprE S2.look (fstT back t)).1=0) (h7:Tg prs (.lop back t) S2 L3 S3):Tg prs (.lop back t) S (S.state::L++S1.state::L2++L3) S3
 | loc {back:Bool} {t:T} {S S2:ST} {L:List SS} (hk:t.k=54) (h1:(exprE S.look (fstT back t)).2=0) (h2:(openE S ⟨t.s,1,0⟩ (exprE S.look (fstT back t)).1).1=0) (h3:Tg prs (.blk back (blkL back (kid t 1))) (openE S ⟨t.s,1,0⟩ (exprE S.look (fstT back t)).1).2 L S2)
   (h4:(exprE S2.look (lstT back t)).2=0) (h5:(closeE S2 t.s (exprE S2.look (lstT back t)).1).1=0):Tg prs (.stm back t) S ((openE S ⟨t.s,1,0⟩ (exprE S.look (fstT back t)).1).2.state::L++[(closeE S2 t.s (exprE S2.look (lstT back t)).1).2.state]) (closeE S2 t.s (exprE S2.look (lstT back t)).1).2
 | stk {back:Bool} {t:T} {S S2:ST} {L:List SS} (hk:t.k=55) (h2:(openE S ⟨t.s,3,0⟩ 0).1=0) (h3:Tg prs (.blk back (blkL back (kid t 0))) (openE S ⟨t.s,3,0⟩ 0).2 L S2) (h5:(closeE S2 t.s 0).1=0) :
   Tg prs (.stm back t) S ((openE S ⟨t.s,3,0⟩ 0).2.state::L++[(closeE S2 t.s 0).2.state]) (closeE S2 t.s 0).2
 | cal {back:Bool} {t:T} {S S2:ST} {L:List SS} {i:Nat} (hk:t.k=50\/t.k=51) (h1:prcI prs t.s=some i) (h2:(enterE S (prs.getD i ⟨⟨#[]⟩,[],nil0⟩).ps (t.ks.map (·.s))).1=0)
   (h3:Tg prs (.blk (back != decide (t.k=51)) (blkL (back != decide (t.k=51)) (prs.getD i ⟨⟨#[]⟩,[],nil0⟩).b)) (enterE S (prs.getD i ⟨⟨#[]⟩,[],nil0⟩).ps (t.ks.map (·.s))).2 L S2) (h4:(leaveE S2).1=0) :
   Tg prs (.stm back t) S ((enterE S (prs.getD i ⟨⟨#[]⟩,[],nil0⟩).ps (t.ks.map (·.s))).2.state::L++[(leaveE S2).2.state]) (leaveE S2).2
def OpS (E:Prop) (Q:ST->ST->Prop) (R R':Int×ST):Prop:=(R.1=0->R'.1=0/\Q R.2 R'.2)/\(E->R.1≠0->R'.1=R.1)
structure SimR (E:Prop) (F:Int) (Rl:Nat->ST->ST->Prop):Prop where
 look:∀ (n:Nat) S S',Rl n S S'->S'.look=S.look
 tick:∀ (n:Nat) S S',Rl n S S'->Rl (n+1) S S'
 do_:∀ (n:Nat) S S' t,(n:Int)<F->Rl n S S'->OpS E (Rl (n+1)) (doE S t) (doE S' t)
 undo:∀ (n:Nat) S S' t,(n:Int)<F->Rl n S S'->OpS E (Rl (n+1)) (undoE S t) (undoE S' t)
 open_:∀ (n:Nat) S S' v x,(n:Int)<F->Rl n S S'->OpS E (Rl (n+1)) (openE S v x) (openE S' v x)
 close:∀ (n:Nat) S S' s x,(n:Int)<F->Rl n S S'->OpS E (Rl (n+1)) (closeE S s x) (closeE S' s x)
 enter:∀ (n:Nat) S S' ps ss,(n:Int)<F->Rl n S S'->OpS E (Rl (n+1)) (enterE S ps ss) (enterE S' ps ss)
 leave:∀ (n:Nat) S S',(n:Int)<F->Rl n S S'->OpS E (Rl (n+1)) (leaveE S) (leaveE S')
structure SimS (Rl:Nat->ST->ST->Prop) (k:Int) (r r':RS):Prop where
 rl:Rl r.n r.S r'.S
 n:(r'.n:Int)=r.n+k
def SimO (E:Prop) (Rl:Nat->ST->ST->Prop) (F F' k:Int) (o o':Out):Prop:=(o'=.err 18/\F'<F+k)\/match o with
 | .gas=>True
 | .err e=>E->o'=.err e
 | .ok r=>∃ r',o'=.ok r'/\SimS Rl k r r'
section
variable {E:Prop} {Rl:Nat->ST->ST->Prop} {F F' k:Int} {o o':Out}
theorem SimO.bind {f f':RS->Out} (h:SimO E Rl F F' k o o') (hf:∀ r r',SimS Rl k r r'->SimO E Rl F F' k (f r) (f' r')):SimO E Rl F F' k (o.bind f) (o'.bind f'):=by
 rcases h with ⟨rfl,h⟩|h
 ·exact .inl ⟨rfl,h⟩
 ·cases o with
  | gas=>exact .inr trivial
  | err e=>exact .inr fun he=>by rw [h he]; rfl
  | ok r =>
   obtain ⟨r',rfl,hs⟩:=h
   exact hf r r' hs
theorem SimO.same {r r':RS} (h:SimS Rl k r r'):SimO E Rl F F' k (.ok r) (.ok r'):=.inr ⟨r',rfl,h⟩
theorem SimO.err {e:Int}:SimO E Rl F F' k (.err e) (.err e):=.inr fun _=>rfl
theorem SimO.step {r r':RS} {f f':RS->Out} (hF:F'<=F+k) (h:SimS Rl k r r') (hf:(r.n:Int)<F->SimO E Rl F F' k (f { r with n:=r.n+1 }) (f' { r' with n:=r'.n+1 })):SimO E Rl F F' k ((stepO F r).bind f) ((stepO F' r').bind f'):=by
 have hn:=h.n
 unfold stepO
 by_cases h1:F<=r.n
 ·rw [if_pos h1,if_pos (by omega)]; exact SimO.err
 ·rw [if_neg h1]
  by_cases h2:F'<=r'.n
  ·rw [if_pos h2]; exact .inl ⟨rfl,by omega⟩
  ·rw [if_neg h2]; exact hf (by omega)
theorem SimO.store {r r':RS} {R R':Int×ST} (hn:(r'.n:Int)=r.n+k) (h:OpS E (Rl r.n) R R'):SimO E Rl F F' k (storeO r R) (storeO r' R'):=by
 unfold storeO
 by_cases h0:R.1=0
 ·obtain ⟨h1,h2⟩:=h.1 h0
  rw [if_neg (by simp [h0]),if_neg (by simp [h1])]
  exact SimO.same ⟨h2,hn⟩
 ·rw [if_pos h0]
  refine .inr fun he=>?_
  have:=h.2 he h0
  rw [if_pos (by rw [this]; exact h0),this]
theorem SimO.val {r r':RS} {t:T} {f f':Int->RS->Out} (hl:r'.S.look=r.S.look) (h:∀ x,SimO E Rl F F' k (f x r) (f' x r')):SimO E Rl F F' k (valO t r f) (valO t r' f'):=by
 unfold valO
 rw [hl]
 split
 ·exact SimO.err
 ·exact h _
theorem SimO.holds (hR:SimR E F Rl) (hF:F'<=F+k) {r r':RS} {t:T} {f f':Bool->RS->Out} (h:SimS Rl k r r') (hf:∀ b r1 r1',SimS Rl k r1 r1'->SimO E Rl F F' k (f b r1) (f' b r1')):SimO E Rl F F' k (holdsO F t r f) (holdsO F' t r' f'):=by
 unfold holdsO
 refine SimO.step hF h fun _=>?_
 refine SimO.val (by exact hR.look _ _ _ h.rl) fun x=>?_
 exact hf _ _ _ ⟨hR.tick _ _ _ h.rl,by have:=h.n; simp only; omega⟩
theorem SimO.assert (hR:SimR E F Rl) (hF:F'<=F+k) {r r':RS} {t:T} {b:Bool} (h:SimS Rl k r r'):SimO E Rl F F' k (assertO F t b r) (assertO F' t b r'):=by
 unfold assertO
 refine SimO.holds hR hF h fun b1 r1 r1' h1=>?_
 split
 ·exact SimO.same h1
 ·exact SimO.err
theorem SimO.body {f f':T->RS->Out}:∀ (l:List T) (r r':RS),SimS Rl k r r'->(∀ t∈l,∀ r r',SimS Rl k r r'->SimO E Rl F F' k (f t r) (f' t r'))->SimO E Rl F F' k (bodyO f l r) (bodyO f' l r')
 | [],_,_,h,_=>SimO.same h
 | t::ts,r,r',h,hf=>by
  rw [bodyO,bodyO]
  exact (hf t (List.mem_cons_self ..) r r' h).bind fun r1 r1' h1=>SimO.body ts r1 r1' h1 fun u hu=>hf u (List.mem_cons_of_mem _ hu)
theorem SimO.loop (hR:SimR E F Rl) (hF:F'<=F+k) {f f':T->RS->Out} {entry test:T} {l1 l2:List T} (h1:∀ t∈l1,∀ r r',SimS Rl k r r'->SimO E Rl F F' k (f t r) (f' t r')) (h2:∀ t∈l2,∀ r r',SimS Rl k r r'->SimO E Rl F F' k (f t r) (f' t r')) :
  ∀ (m:Nat) (r r':RS),SimS Rl k r r'->SimO E Rl F F' k (loopO F f entry test l1 l2 m r) (loopO F' f' entry test l1 l2 m r')
 | 0,_,_,_=>.inr trivial
 | m+1,r,r',h=>by
  rw [loopO,loopO]
  refine (SimO.body l1 r r' h h1).bind fun r1 r1' g1=>SimO.holds hR hF g1 fun b r2 r2' g2=>?_
  split
  ·exact SimO.same g2
  ·exact (SimO.body l2 r2 r2' g2 h2).bind fun r3 r3' g3=>(SimO.assert hR hF g3).bind fun r4 r4' g4=>SimO.loop hR hF h1 h2 m r4 r4' g4
end
def ST.more (S:ST) (l:List Int):ST:={ S with tin:=S.tin++l }
section
variable {S:ST} {l:List Int}
def MoR (l:List Int) (m:Nat) (R R':Int×ST):Prop:=R.1=0->R'=(0,R.2.more l)/\R.2.tin.length<=m
end
def MoreR (m:Nat) (l:List Int) (n:Nat) (S S':ST):Prop:=S'=S.more l/\S.tin.length<=m+n
theorem MoR.op {l:List Int} {m n:Nat} {R R':Int×ST} {S:ST} (h:MoR l (S.tin.length+1) R R') (hm:S.tin.length<=m+n):OpS False (MoreR m l (n+1)) R R':=by
 refine ⟨fun h0=>?_,fun hf=>hf.elim⟩
 obtain ⟨h1,h2⟩:=h h0
 rw [h1]
 exact ⟨rfl,rfl,by omega⟩
structure FrR (ρ:Nat->Nat->Prop) (f g:FR):Prop where
 vs:f.vs=g.vs
 loc:f.loc=g.loc
 len:f.cs.length=g.cs.length
 full:f.cs.length=f.vs.length/\f.loc<=f.vs.length
 cs:∀ (i a b:Nat),f.cs[i]?=some a->g.cs[i]?=some b->ρ a b
structure EqR (ρ:Nat->Nat->Prop) (S S':ST):Prop where
 fn:∀ a b b',ρ a b->ρ a b'->b=b'
 inj:∀ a a' b,ρ a b->ρ a' b->a=a'
 lt:∀ a b,ρ a b->a<S.nc/\b<S'.nc
 cell:∀ a b,ρ a b->S'.cell b=S.cell a
 base:FrR ρ S.base S'.base
 ncalls:S.calls.length=S'.calls.length
 calls:∀ (i:Nat) (f g:FR),S.calls[i]?=some f->S'.calls[i]?=some g->FrR ρ f g
 tin:S'.tin=S.tin
 tout:S'.tout=S.tout
def Eqv (S S':ST):Prop:=∃ ρ,EqR ρ S S'
def OpE (ρ:Nat->Nat->Prop) (R R':Int×ST):Prop:=R'.1=R.1/\(R.1=0->EqR ρ R.2 R'.2)
section
variable {ρ ρ':Nat->Nat->Prop} {f g:FR} {S S' S'':ST} {a b:Nat}
theorem FrR.mono (h:FrR ρ f g) (hr:∀ a b,ρ a b->ρ' a b):FrR ρ' f g:=⟨h.vs,h.loc,h.len,h.full,fun i a b x y=>hr a b (h.cs i a b x y)⟩
theorem FrR.getD (h:FrR ρ f g) {i:Nat} (hi:i<f.vs.length):ρ (f.cs.getD i 0) (g.cs.getD i 0):=by
 have h1:i<f.cs.length:=by rw [h.full.1]; exact hi
 have h2:i<g.cs.length:=by rw [<-h.len]; exact h1
 refine h.cs i _ _ ?_ ?_
 ·rw [List.getD_eq_getElem?_getD,List.getElem?_eq_getElem h1]; rfl
 ·rw [List.getD_eq_getElem?_getD,List.getElem?_eq_getElem h2]; rfl
theorem FrR.snoc (h:FrR ρ f g) (v:VD) (hab:ρ a b) (l:Nat) (hl:l<=f.vs.length+1):FrR ρ ⟨f.vs++[v],f.cs++[a],l⟩ ⟨g.vs++[v],g.cs++[b],l⟩:=by
 refine ⟨by rw [h.vs],rfl,by simp [h.len],⟨by simp [h.full.1],by simpa using hl⟩,fun i x y hx hy=>?_⟩
 simp only at hx hy
 rcases Nat.lt_or_ge i f.cs.length with h1|h1
 ·rw [List.getElem?_append_left h1] at hx
  rw [List.getElem?_append_left (by rw [<-h.len]; exact h1)] at hy
  exact h.cs i x y hx hy
 ·rw [List.getElem?_append_right h1] at hx
  rw [List.getElem?_append_right (by rw [<-h.len]; exact h1)] at hy
  rw [<-h.len] at hy
  cases hi:i-f.cs.length with
  | zero =>
   rw [hi] at hx hy
   simp only [List.getElem?_cons_zero,Option.some.injEq] at hx hy
   subst hx hy
   exact hab
  | succ j =>
   rw [hi] at hx
   simp at hx
theorem FrR.pop (h:FrR ρ f g):FrR ρ f.pop g.pop:=by
 have h1:=h.full
 refine ⟨by simp only [FR.pop,h.vs],by simp only [FR.pop,h.loc],by simp only [FR.pop,List.length_take,h.len,h.vs],⟨by simp only [FR.pop,List.length_take,h1.1],by simp only [FR.pop,List.length_take]; omega⟩,fun i x y hx hy=>?_⟩
 simp only [FR.pop] at hx hy
 rw [List.getElem?_take] at hx hy
 split at hx
 ·split at hy
  ·exact h.cs i x y hx hy
  ·cases hy
 ·cases hx
theorem EqR.cur (h:EqR ρ S S'):FrR ρ S.cur S'.cur:=by
 rcases Nat.eq_zero_or_pos S.calls.length with h0|h0
 ·rw [cur_0 h0,cur_0 (by rw [<-h.ncalls]; exact h0)]; exact h.base
 ·have h1:0<S'.calls.length:=by rw [<-h.ncalls]; exact h0
  rw [cur_1 h0,cur_1 h1]
  refine h.calls (S.calls.length-1) _ _ (List.getElem?_eq_getElem (by omega)) ?_
  rw [List.getElem?_eq_getElem (by have:=h.ncalls; omega)]
  congr 1
  congr 1
  rw [h.ncalls]
theorem EqR.num (h:EqR ρ S S') (s:ByteArray):(S.num s=none/\S'.num s=none)\/∃ a b,S.num s=some a/\S'.num s=some b/\ρ a b:=by
 have hc:=h.cur
 unfold ST.num FR.at
 rw [<-hc.vs]
 cases hl:lastI S.cur.vs s S.cur.vs.length with
 | none=>exact .inl ⟨rfl,rfl⟩
 | some i =>
  simp only [Option.bind_some]
  have h1:i<S.cur.cs.length:=by rw [hc.full.1]; exact lastI_lt hl
  have h2:i<S'.cur.cs.length:=by rw [<-hc.len]; exact h1
  exact .inr ⟨_,_,List.getElem?_eq_getElem h1,List.getElem?_eq_getElem h2,hc.cs i _ _ (List.getElem?_eq_getElem h1) (List.getElem?_eq_getElem h2)⟩
theorem EqR.look (h:EqR ρ S S'):S'.look=S.look:=by
 funext s
 unfold ST.look
 rcases h.num s with ⟨h1,h2⟩|⟨a,b,h1,h2,h3⟩
 ·rw [h1,h2]; rfl
 ·rw [h1,h2]; simp [h.cell a b h3]
theorem EqR.el (h:EqR ρ S S') (hab:ρ a b) (i:Nat):S'.el b i=S.el a i:=by unfold ST.el; rw [h.cell a b hab]
theorem EqR.setL (h:EqR ρ S S') (hab:ρ a b) (l:List Int):EqR ρ (S.setL a l) (S'.setL b l) :=
 ⟨h.fn,h.inj,h.lt,fun c d hcd=>by
  simp only [ST.setL]
  by_cases e:c=a
  ·subst e
   rw [if_pos rfl,if_pos (h.fn _ _ _ hcd hab)]
  ·rw [if_neg e,if_neg (fun e'=>e (h.inj _ _ _ hcd (by rw [e']; exact hab)))]
   exact h.cell c d hcd,h.base,h.ncalls,h.calls,h.tin,h.tout⟩
theorem EqR.put (h:EqR ρ S S') (hab:ρ a b) (i:Nat) (x:Int):EqR ρ (S.put a i x) (S'.put b i x):=by
 unfold ST.put
 rw [h.cell a b hab]
 exact h.setL hab _
theorem EqR.setCur (h:EqR ρ S S') {f g:FR} (hf:FrR ρ f g):EqR ρ (S.setCur f) (S'.setCur g):=by
 unfold ST.setCur
 by_cases h0:S.calls.length=0
 ·rw [if_pos h0,if_pos (by rw [<-h.ncalls]; exact h0)]
  exact ⟨h.fn,h.inj,h.lt,h.cell,hf,h.ncalls,h.calls,h.tin,h.tout⟩
 ·rw [if_neg h0,if_neg (by rw [<-h.ncalls]; exact h0)]
  refine ⟨h.fn,h.inj,h.lt,h.cell,h.base,by simpa using h.ncalls,fun i x y hx hy=>?_,h.tin,h.tout⟩
  simp only at hx hy
  rw [<-h.ncalls] at hy
  by_cases e:S.calls.length-1=i
  ·subst e
   rw [List.getElem?_set_self (by omega)] at hx
   rw [List.getElem?_set_self (by have:=h.ncalls; omega)] at hy
   injection hx with hx
   injection hy with hy
   subst hx hy
   exact hf
  ·rw [List.getElem?_set_ne e] at hx hy
   exact h.calls i x y hx hy
theorem EqR.newCell (h:EqR ρ S S') (l:List Int):EqR (fun a b=>ρ a b\/(a=S.nc/\b=S'.nc)) (S.newCell l) (S'.newCell l):=by
 have hm:∀ a b,ρ a b->ρ a b\/(a=S.nc/\b=S'.nc):=fun _ _=>.inl
 refine ⟨fun a b b' h1 h2=>?_,fun a a' b h1 h2=>?_,fun a b h1=>?_,fun a b h1=>?_,h.base.mono hm,h.ncalls,fun i x y hx hy=>(h.calls i x y hx hy).mono hm,h.tin,h.tout⟩
 ·rcases h1 with h1|⟨h1,h1'⟩<;>rcases h2 with h2|⟨h2,h2'⟩
  ·exact h.fn _ _ _ h1 h2
  ·have:=(h.lt _ _ h1).1; omega
  ·have:=(h.lt _ _ h2).1; omega
  ·omega
 ·rcases h1 with h1|⟨h1,h1'⟩<;>rcases h2 with h2|⟨h2,h2'⟩
  ·exact h.inj _ _ _ h1 h2
  ·have:=(h.lt _ _ h1).2; omega
  ·have:=(h.lt _ _ h2).2; omega
  ·omega
 ·simp only [ST.newCell]
  rcases h1 with h1|⟨h1,h1'⟩
  ·have:=h.lt _ _ h1; omega
  ·omega
 ·simp only [ST.newCell]
  rcases h1 with h1|⟨rfl,rfl⟩
  ·have:=h.lt _ _ h1
   rw [if_neg (by omega),if_neg (by omega)]
   exact h.cell _ _ h1
  ·simp
theorem OpE.op {R R':Int×ST} (h:OpE ρ R R'):OpS True Eqv R R':=⟨fun h0=>⟨by rw [h.1]; exact h0,ρ,h.2 h0⟩,fun _ _=>h.1⟩
end
theorem Eqv.refl {S:ST} (h:S.WF):Eqv S S:=by
 obtain ⟨kd,h1,h2,-⟩:=h.ex
 have key:∀ f:FR,f.WF kd S.nc->FrR (fun a b=>a=b/\a<S.nc) f f:=fun f hf=>⟨rfl,rfl,rfl,⟨hf.len,hf.loc⟩,fun i a b ha hb=>by
  rw [ha] at hb
  injection hb with hb
  exact ⟨hb,hf.num a (List.mem_of_getElem? ha)⟩⟩
 exact ⟨fun a b=>a=b/\a<S.nc,by rintro a b b' ⟨rfl,_⟩ ⟨rfl,_⟩; rfl,by rintro a a' b ⟨rfl,_⟩ ⟨rfl,_⟩; rfl,by rintro a b ⟨rfl,h⟩; exact ⟨h,h⟩,by rintro a b ⟨rfl,_⟩; rfl,key _ h1,rfl,fun i f g hf hg=>by
  rw [hf] at hg
  injection hg with hg
  subst hg
  exact key f (h2 f (List.mem_of_getElem? hf)),rfl,rfl⟩
theorem FrR.symm {ρ:Nat->Nat->Prop} {f g:FR} (h:FrR ρ f g):FrR (fun a b=>ρ b a) g f:=⟨h.vs.symm,h.loc.symm,h.len.symm,by rw [<-h.vs,<-h.len,<-h.loc]; exact h.full,fun i a b ha hb=>h.cs i b a hb ha⟩
theorem Eqv.symm {S S':ST} (h:Eqv S S'):Eqv S' S:=by
 obtain ⟨ρ,h⟩:=h
 exact ⟨fun a b=>ρ b a,fun a b b' h1 h2=>h.inj _ _ _ h1 h2,fun a a' b h1 h2=>h.fn _ _ _ h1 h2,fun a b h1=>(h.lt _ _ h1).symm,fun a b h1=>(h.cell _ _ h1).symm,h.base.symm,h.ncalls.symm,fun i f g hf hg=>(h.calls i g f hg hf).symm,h.tin.symm,h.tout.symm⟩
theorem FrR.trans {ρ ρ':Nat->Nat->Prop} {f g k:FR} (h:FrR ρ f g) (h':FrR ρ' g k):FrR (fun a c=>∃ b,ρ a b/\ρ' b c) f k :=
 ⟨h.vs.trans h'.vs,h.loc.trans h'.loc,h.len.trans h'.len,h.full,fun i a c ha hc=>by
  have hi:i<g.cs.length:=by rw [<-h.len]; exact (List.getElem?_eq_some_iff.1 ha).1
  exact ⟨_,h.cs i a _ ha (List.getElem?_eq_getElem hi),h'.cs i _ c (List.getElem?_eq_getElem hi) hc⟩⟩
theorem Eqv.trans {S S' S'':ST} (h:Eqv S S') (h':Eqv S' S''):Eqv S S'':=by
 obtain ⟨ρ,h⟩:=h
 obtain ⟨ρ',h'⟩:=h'
 refine ⟨fun a c=>∃ b,ρ a b/\ρ' b c,?_,?_,?_,?_,h.base.trans h'.base,h.ncalls.trans h'.ncalls,fun i f k hf hk=>?_,h'.tin.trans h.tin,h'.tout.trans h.tout⟩
 ·rintro a c c' ⟨b,h1,h2⟩ ⟨b',h3,h4⟩
  have:=h.fn _ _ _ h1 h3
  subst this
  exact h'.fn _ _ _ h2 h4
 ·rintro a a' c ⟨b,h1,h2⟩ ⟨b',h3,h4⟩
  have:=h'.inj _ _ _ h2 h4
  subst this
  exact h.inj _ _ _ h1 h3
 ·rintro a c ⟨b,h1,h2⟩
  exact ⟨(h.lt _ _ h1).1,(h'.lt _ _ h2).2⟩
 ·rintro a c ⟨b,h1,h2⟩
  exact (h'.cell _ _ h2).trans (h.cell _ _ h1)
 ·have hi:i<S'.calls.length:=by rw [<-h.ncalls]; exact (List.getElem?_eq_some_iff.1 hf).1
  exact (h.calls i f _ hf (List.getElem?_eq_getElem hi)).trans (h'.calls i _ k (List.getElem?_eq_getElem hi) hk)
theorem FrR.map {ρ:Nat->Nat->Prop} {S S':ST} (h:EqR ρ S S') (n:Nat):(S'.base.cs.take n).map S'.cell=(S.base.cs.take n).map S.cell:=by
 refine List.ext_getElem? fun i=>?_
 rw [List.getElem?_map,List.getElem?_map,List.getElem?_take,List.getElem?_take]
 split
 ·rcases Nat.lt_or_ge i S.base.cs.length with hi|hi
  ·have hi':i<S'.base.cs.length:=by rw [<-h.base.len]; exact hi
   rw [List.getElem?_eq_getElem hi,List.getElem?_eq_getElem hi']
   simp only [Option.map_some,Option.some.injEq]
   exact h.cell _ _ (h.base.cs i _ _ (List.getElem?_eq_getElem hi) (List.getElem?_eq_getElem hi'))
  ·rw [List.getElem?_eq_none hi,List.getElem?_eq_none (by rw [<-h.base.len]; exact hi)]
   rfl
 ·rfl
theorem Eqv.state {S S':ST} (h:Eqv S S'):S'.state=S.state:=by
 obtain ⟨ρ,h⟩:=h
 unfold ST.state
 rw [h.tin,h.tout,<-h.base.len,<-h.base.loc,FrR.map h]
abbrev failE (x:Int):Ending:=.panicked [{ v:=.iface 210 (.agg #[.int .i64 x]),recovered:=false }]
theorem Fail_any (x:Int) (hx:x≠0) (w:World):Calls Tryz.prog 212 #[.int .i64 x] w fun e w'=>e=failE x/\w'=w:=by
 have e1:(x==0)=false:=by simpa using hx
 have hb:∀ w,(Instr.build 210 #[(0,.int .i64 x)]).run Tryz.prog w=.ok (.agg #[.int .i64 x]) w:=fun w=>by kernel_rfl
 go_enter Tryz.func212,Tryz.ntmps212
 go_wp2_with fail
 exact ⟨rfl,rfl,rfl⟩
theorem own_chg {W W':World} {base:Nat} {E:TypeId} {size:Nat} {v:Value} {n:Nat} {xs:List Value} (h:W.ownsRow base E size v n xs) (hk:∀ b,v.ownBlock=some b->W'.heap[b]?=W.heap[b]?):W'.ownsRow base E size v n xs:=by
 obtain ⟨e1,h2⟩:=h
 refine ⟨e1,?_⟩
 rcases h2 with h2|⟨g,cap,cur,rfl,hb,hg,rest⟩
 ·exact .inl h2
 ·exact .inr ⟨g,cap,cur,rfl,hb,(hk g rfl).trans hg,rest⟩
structure RC where
 w:World
 n0:Nat
 sb:Nat
 rb:Nat
 p:PG
 A1:Option Addr
 c1:Nat
 A2:Option Addr
 c2:Nat
 A3:Option Addr
 c3:Nat
 F:Int
 ev:Value
 kb:Nat->Prop
structure RC.Ok (C:RC):Prop where
 pg:PgR C.w Any C.p C.A1 C.c1 C.A2 C.c2 C.A3 C.c3
 F:I64 C.F
 F6:C.F<=1000000
 rb:C.n0<=C.rb/\¬ C.kb C.rb
 ev:C.ev.ownBlock≠some C.rb/\∀ b,C.ev.ownBlock=some b->¬ C.kb b
 ps:∀ q∈C.p.prs,q.ps.length<=1000
def RC.cells (C:RC) (n:Nat):Array Value := #[.slice C.A1 C.p.vs.length C.c1,.slice C.A2 C.p.prs.length C.c2,.int .u8 C.p.m.k,.int .i64 C.p.m.n,.string C.p.m.s,.slice C.A3 C.p.m.ks.length C.c3,.pointer (some ⟨C.sb,0,none⟩),.int .i64 n,.int .i64 C.F,C.ev]
def FB (j:Nat) (S:ST):Prop:=S.base.vs.length<=1000+j/\∀ f∈S.calls,f.vs.length<=1000+j
structure RI (C:RC) (W:World) (r:RS):Prop where
 ks:KS C.w C.n0 C.sb (fun b=>C.kb b\/b=C.rb\/C.ev.ownBlock=some b) W r.S
 box:W.heap[C.rb]?=some (.cells (C.cells r.n) 174 (0,0))
 ent:W.ownsRow C.n0 3 1 C.ev r.ent.length (flatI (r.ent.map Int.ofNat))
 el:r.ent.length=C.p.prs.length
 en:∀ c∈r.ent,c<=r.n
 n:(r.n:Int)<=1000000
 fb:FB r.n r.S
section
variable {C:RC} {W W' W'':World} {r r':RS}
theorem RI.below (h:RI C W r):Below C.w.heap.size C.w W:=h.ks.bl
theorem RI.later (h:RI C W r) (hb:Below W.heap.size W W'):RI C W' r:=⟨h.ks.later hb,blk_bl h.box hb,own_later h.ent hb,h.el,h.en,h.n,h.fb⟩
def RunP (C:RC) (W:World) (o:Out) (e:Ending) (W':World):Prop :=
 Kpt C.n0 C.kb W W'/\Below C.w.heap.size C.w W'/\match o with
 | .gas=>True
 | .err x=>e=failE x
 | .ok r=>(∃ u,e=.returned u)/\RI C W' r
theorem RI.cells (h:RI C W r):W.cell? ⟨C.rb,6,none⟩=some (.pointer (some ⟨C.sb,0,none⟩))/\W.cell? ⟨C.rb,7,none⟩=some (.int .i64 r.n)/\W.cell? ⟨C.rb,8,none⟩=some (.int .i64 C.F)/\W.cell? ⟨C.rb,9,none⟩=some C.ev/\∀ o,W.frozen? ⟨C.rb,o,none⟩=false :=
 ⟨zc h.box rfl,zc h.box rfl,zc h.box rfl,zc h.box rfl,fun _=>zf h.box⟩
theorem FB.mono {j k:Nat} {S:ST} (h:FB j S) (hk:j<=k):FB k S:=⟨by have:=h.1; omega,fun f hf=>by have:=h.2 f hf; omega⟩
theorem Kpt.chg {n0:Nat} {kb Cc:Nat->Prop} (h:Chg Cc W W') (hC:∀ b,Cc b->n0<=b/\¬ kb b):Kpt n0 kb W W' :=
 ⟨h.size,fun b hb hk=>h.block b hb fun hc=>by rcases hk with hk|hk; have:=(hC b hc).1; omega; exact (hC b hc).2 hk⟩
theorem RI.tick (hC:C.Ok) (h:RI C W r) (hF:(r.n:Int)<C.F):RI C (W.setCell ⟨C.rb,7,none⟩ (.int .i64 ((r.n:Int)+1))) { r with n:=r.n+1 }/\Kpt C.n0 C.kb W (W.setCell ⟨C.rb,7,none⟩ (.int .i64 ((r.n:Int)+1))):=by
 have hch:Chg (fun b=>b=C.rb) W (W.setCell ⟨C.rb,7,none⟩ (.int .i64 ((r.n:Int)+1))):=(Chg.refl (fun b=>b=C.rb) W).setCell (p:=⟨C.rb,7,none⟩) (.inl rfl) _
 have hn:=h.ks.hn
 refine ⟨⟨h.ks.chg hch fun b _ e=>⟨by have:=hC.rb.1; omega,.inr (.inr (.inl e))⟩,?_,own_chg h.ent fun b hb=>?_,h.el,fun c hc=>by have:=h.en c hc; simp only; omega,by have:=hC.F6; simp only; omega,h.fb.mono (Nat.le_succ _)⟩,Kpt.chg hch fun b e=>⟨by have:=hC.rb.1; omega,by rw [e]; exact hC.rb.2⟩⟩
 ·have:=heap_setCell_same W C.rb 7 _ _ (.int .i64 ((r.n:Int)+1)) h.box
  rw [this]
  simp [RC.cells]
 ·have hne:b≠C.rb:=fun e=>hC.ev.1 (by rw [hb,e])
  have hlt:=(h.ent.lt b hb).2
  exact hch.block b hlt hne
end
theorem step_any {C:RC} (hC:C.Ok) {W:World} {r:RS} (h:RI C W r):Calls Tryz.prog 196 #[.pointer (some ⟨C.rb,0,none⟩)] W (RunP C W (stepO C.F r)):=by
 obtain ⟨-,y7,y8,-,yf⟩:=h.cells
 have hn6:=h.n
 obtain ⟨rb,hrb⟩:∃ b,C.rb=b:=⟨_,rfl⟩
 obtain ⟨F,hF⟩:∃ b,C.F=b:=⟨_,rfl⟩
 obtain ⟨n,hn⟩:∃ b,r.n=b:=⟨_,rfl⟩
 have HS:=zh (show (fun w':World=>w'.cell? ⟨rb,7,none⟩=some (.int .i64 n)/\w'.cell? ⟨rb,8,none⟩=some (.int .i64 F)) W.drew from ⟨by rw [<-hrb,<-hn]; exact y7,by rw [<-hrb,<-hF]; exact y8⟩)
 have hd:Below W.heap.size W W.drew:=(Below.refl _ _).drew
 have HK:=zh (show Kpt C.n0 C.kb W W.drew/\Below C.w.heap.size C.w W.drew from ⟨Kpt.of_below hd,bl_tt h.below hd⟩)
 have HT:=zh (fun hlt=>RI.tick hC h hlt)
 have HBB:=zh h.below
 have yf':∀ o,W.drew.frozen? ⟨rb,o,none⟩=false:=by rw [<-hrb]; exact yf
 rw [hrb] at HT
 rw [hn] at HT hn6
 rw [hF] at HT
 by_cases hlt:F<=(n:Int)
 ·have HO:=zh (show stepO C.F r=.err 18 by unfold stepO; rw [if_pos (by rw [hF,hn]; exact hlt)])
  rw [hrb]
  clear h y7 y8 yf hrb hF hn HT
  go_enter Tryz.func196,Tryz.ntmps196
  go_upto_region 0 with fail
  go_region_held3 (fun w':World=>w'.cell? ⟨rb,7,none⟩=some (.int .i64 n)/\w'.cell? ⟨rb,8,none⟩=some (.int .i64 F))
   (with_reducible exact HS.out)
   (first|fail)
  go_wp2_with fail
  refine (Fail_any 18 (by decide) _).mono ?_
  rintro e w1 ⟨rfl,rfl⟩
  refine ⟨rfl,?_⟩
  rw [HO.out]
  exact ⟨HK.out.1,HK.out.2,rfl⟩
 ·have hw1:IntKind.i64.wrap ((n:Int)+1)=(n:Int)+1:=IntWalk.i64_in _ (by omega)
  have HO:=zh (show stepO C.F r=.ok { r with n:=n+1 } by unfold stepO; rw [if_neg (by rw [hF,hn]; exact hlt),hn])
  have HT2:=zh (HT.out (by omega))
  rw [hrb]
  have hlt':¬ F<=(n:Int):=hlt
  clear h y7 y8 yf hrb hF hn HT
  go_enter Tryz.func196,Tryz.ntmps196
  go_upto_region 0 with fail
  go_region_held3 (fun w':World=>w'.cell? ⟨rb,7,none⟩=some (.int .i64 n)/\w'.cell? ⟨rb,8,none⟩=some (.int .i64 F))
   (with_reducible exact HS.out)
   (first|fail)
  obtain ⟨z7,z8⟩:=HS.out
  go_wp2_with fail
  go_end0
  rw [HO.out]
  have hd2:∀ W:World,Below W.heap.size W W.drew:=fun W=>(Below.refl _ _).drew
  exact ⟨HT2.out.2.trans (Kpt.of_below (hd2 _)),(HT2.out.1.later (hd2 _)).below,⟨_,rfl⟩,HT2.out.1.later (hd2 _)⟩
theorem check_any (p:Addr) (x:Int) (w:World):Calls Tryz.prog 197 #[.pointer (some p),.int .i64 x] w fun e w'=>w'=w/\((x=0/\∃ u,e=.returned u)\/(x≠0/\e=failE x)):=by
 by_cases hx:x=0
 ·subst hx
  go_enter Tryz.func197,Tryz.ntmps197
  go_wp2_with fail
  go_end0
  exact ⟨rfl,.inl ⟨trivial,_,rfl⟩⟩
 ·have e1:(x != 0)=true:=by simpa using hx
  go_enter Tryz.func197,Tryz.ntmps197
  go_wp2_with fail
  refine (Fail_any x hx _).mono ?_
  rintro e w1 ⟨rfl,rfl⟩
  exact ⟨rfl,rfl,.inr ⟨hx,rfl⟩⟩
theorem fnSCellM:IsFn Tryz.prog 184 Tryz.f184:=⟨Tryz.func184,by kernel_rfl,by kernel_rfl⟩
theorem cellC (w:World) (n0 sb:Nat) (kb:Nat->Prop) (S:ST) (hw:S.WF):LookC 184 Tryz.f184 (.pointer (some ⟨sb,0,none⟩)) (fun W=>KS w n0 sb kb W S) S.look where
 isFn:=fnSCellM
 later:=fun _ _ h hb=>h.later hb
 fits:=(lookC 0 ⟨0,0,undef,undef,undef,undef,undef,fun _=>undef,fun _=>undef,fun _=>0,fun _=>undef⟩ S hw).fits
 call:=fun s W h=>by
  refine (h.cell s).mono ?_
  rintro e W' ⟨v,l,b,rfl,hlk,hl0,ho,hf,hb⟩
  refine ⟨hb,?_⟩
  cases b
  ·obtain rfl:=hl0 rfl
   obtain ⟨A,c,rfl,-⟩:=row_slice ho
   exact .inl ⟨by simpa using hlk,A,c,rfl⟩
  ·obtain ⟨A,c,rfl,-,hr⟩:=row_I ho hf
   exact .inr ⟨l,A,c,by simpa using hlk,rfl,hr⟩
theorem Test_any {f:FuncId} {fn:Func} {rv:Value} {Rd:World->Prop} {look:ByteArray->Option (List Int)} (hL:LookC f fn rv Rd look) (t:T) (v:Value) (w:World) (hv:NV w Any t v) (hR:Rd w) :
  Calls Tryz.prog 207 #[v,.func (.func f) #[rv] #[]] w fun e w'=>e=.returned (.tuple #[.bool (decide ((exprE look t).1≠0)),.int .i64 (exprE look t).2])/\Below w.heap.size w w':=by
 have HV:=zh hv
 obtain ⟨A,c,rfl,-⟩:=hv.open_
 have HEX:=zh (fun w' (hb:Below w.heap.size w w')=>Expr_any hL t _ w' (hv.later hb) (hL.later _ _ hR hb))
 obtain ⟨⟨x,y⟩,hx⟩:∃ x,exprE look t=x:=⟨_,rfl⟩
 rw [hx] at HEX ⊢
 dsimp only [NumE] at HEX ⊢
 clear hv hR hx
 go_enter Tryz.func207,Tryz.ntmps207
 have hb0:=bl_al (Below.refl w.heap.size w) (.cells #[.int .u8 t.k,.int .i64 t.n,.string t.s,.slice A t.ks.length c] 29)
 have HB0:=zh hb0
 obtain ⟨x0,x1,x2,x3⟩:=box4 (heap_alloc_new w (.cells #[.int .u8 t.k,.int .i64 t.n,.string t.s,.slice A t.ks.length c] 29))
 clear hb0
 go_wp2_with fail
 refine (HEX.out _ HB0.out).mono ?_
 rintro e w1 ⟨rfl,bw1⟩
 have HB1:=zh (bl_tt HB0.out bw1)
 clear bw1 x0 x1 x2 x3
 by_cases h0:x=0
 ·subst h0
  go_wp2_with fail
  go_ret2
  exact ⟨by simp,HB1.out⟩
 ·have e1:(x != 0)=true:=by simpa using h0
  go_wp2_with fail
  go_ret2
  exact ⟨by simp [h0],HB1.out⟩
def RC.plus (C:RC) (lo hi:Nat):RC:={ C with kb:=fun b=>C.kb b\/(lo<=b/\b<hi) }
section
variable {C:RC} {W W' W'':World} {r r':RS} {lo hi:Nat}
theorem RI.rlt (h:RI C W r):C.rb<W.heap.size:=blk_lt h.box
theorem RI.plus (hC:C.Ok) (h:RI C W r) (hb:Below W.heap.size W W'):(C.plus W.heap.size W'.heap.size).Ok/\RI (C.plus W.heap.size W'.heap.size) W' r:=by
 have h1:=h.rlt
 refine ⟨⟨hC.pg,hC.F,hC.F6,⟨hC.rb.1,fun hk=>?_⟩,⟨hC.ev.1,fun b hb' hk=>?_⟩,hC.ps⟩,⟨h.ks.also hb fun b hk=>?_,blk_bl h.box hb,own_later h.ent hb,h.el,h.en,h.n,h.fb⟩⟩
 ·rcases hk with hk|hk
  ·exact hC.rb.2 hk
  ·have:W.heap.size<=C.rb:=hk.1; omega
 ·rcases hk with hk|hk
  ·exact hC.ev.2 b hb' hk
  ·have:=(h.ent.lt b hb').2; have:=hk.1; omega
 ·rcases hk with (hk|hk)|hk|hk
  ·exact .inl (.inl hk)
  ·exact .inr hk
  ·exact .inl (.inr (.inl hk))
  ·exact .inl (.inr (.inr hk))
theorem RI.less (h:RI (C.plus lo hi) W r):RI C W r :=
 ⟨h.ks.less fun b hk=>hk.elim (fun hk=>.inl (.inl hk)) .inr,h.box,h.ent,h.el,h.en,h.n,h.fb⟩
theorem Kpt.less (h:Kpt C.n0 (C.plus lo hi).kb W W'):Kpt C.n0 C.kb W W':=⟨h.size,fun b hb hk=>h.kept b hb (hk.imp id .inl)⟩
theorem Kpt.plus {b o:Nat} {u:Value} (h:Kpt C.n0 (C.plus lo hi).kb W W') (hb:lo<=b/\b<hi) (hc:W.cell? ⟨b,o,none⟩=some u):W'.cell? ⟨b,o,none⟩=some u:=h.cell (.inr (.inr hb)) hc
end
def HoldP (C:RC) (W:World) (t:T) (r:RS) (e:Ending) (W':World):Prop :=
 Kpt C.n0 C.kb W W'/\Below C.w.heap.size C.w W'/\((∃ x,e=failE x/\∀ f,holdsO C.F t r f=.err x)\/∃ b r',e=.returned (.bool b)/\RI C W' r'/\∀ f,holdsO C.F t r f=f b r')
theorem holds_any {C:RC} (hC:C.Ok) {W:World} {r:RS} (h:RI C W r) (t:T) (v:Value) (hv:NV C.w Any t v):Calls Tryz.prog 209 #[.pointer (some ⟨C.rb,0,none⟩),v] W (HoldP C W t r):=by
 have HV:=zh hv
 obtain ⟨A,c,rfl,-⟩:=hv.open_
 have hmf:∀ (fn:Fn) (first cap:Array Value) (w:World),(Instr.makeFunc fn first cap).run Tryz.prog w=.ok (.func fn first cap) w:=fun _ _ _ _=>rfl
 have hb0:=bl_al (Below.refl W.heap.size W) (.cells #[.int .u8 t.k,.int .i64 t.n,.string t.s,.slice A t.ks.length c] 29)
 obtain ⟨hC1,h1⟩:=h.plus hC hb0
 have hz1:(W.alloc (.cells #[.int .u8 t.k,.int .i64 t.n,.string t.s,.slice A t.ks.length c] 29)).heap.size=W.heap.size+1:=by simp
 have hbx:=box4 (heap_alloc_new W (.cells #[.int .u8 t.k,.int .i64 t.n,.string t.s,.slice A t.ks.length c] 29))
 have HK0:=zh (Kpt.of_below (n0:=C.n0) (kb:=C.kb) hb0)
 obtain ⟨W1,hW1⟩:∃ x,W.alloc (.cells #[.int .u8 t.k,.int .i64 t.n,.string t.s,.slice A t.ks.length c] 29)=x:=⟨_,rfl⟩
 rw [hW1] at hC1 h1 hz1 hbx HK0
 have HC1:=zh hC1
 have H1:=zh h1
 have HST:=zh (step_any hC1 h1)
 obtain ⟨hi,hhi⟩:∃ x,W1.heap.size=x:=⟨_,rfl⟩
 rw [hhi] at HC1 H1 HST hz1
 have HBX:=zh hbx
 have HZ1:=zh (show W.heap.size<hi by omega)
 clear hv hC1 h1 hbx hb0 h hhi hz1
 go_enter Tryz.func209,Tryz.ntmps209
 go_wp2_with fail
 refine HST.out.mono ?_
 rintro e w1 ⟨hk1,hbl1,ho1⟩
 have HK1:=zh (HK0.out.trans (Kpt.less (C:=C) hk1))
 have HB1:=zh hbl1
 cases hs:stepO C.F r with
 | gas=>exact absurd hs (stepO_good _ _).1
 | err x =>
  rw [show stepO (C.plus W.heap.size hi).F r=stepO C.F r from rfl,hs] at ho1
  subst ho1
  exact ⟨rfl,HK1.out,HB1.out,.inl ⟨x,rfl,fun f=>by unfold holdsO; rw [hs]; rfl⟩⟩
 | ok r1 =>
  rw [show stepO (C.plus W.heap.size hi).F r=stepO C.F r from rfl,hs] at ho1
  obtain ⟨⟨u,rfl⟩,hr1⟩:=ho1
  have x0:=Kpt.plus (C:=C) hk1 (b:=W.heap.size) ⟨Nat.le_refl _,HZ1.out⟩ HBX.out.1
  have x1:=Kpt.plus (C:=C) hk1 (b:=W.heap.size) ⟨Nat.le_refl _,HZ1.out⟩ HBX.out.2.1
  have x2:=Kpt.plus (C:=C) hk1 (b:=W.heap.size) ⟨Nat.le_refl _,HZ1.out⟩ HBX.out.2.2.1
  have x3:=Kpt.plus (C:=C) hk1 (b:=W.heap.size) ⟨Nat.le_refl _,HZ1.out⟩ HBX.out.2.2.2
  have HS:=zh hs
  have HR1:=zh hr1.less
  obtain ⟨y6,-⟩:=hr1.cells
  have y6':w1.cell? ⟨C.rb,6,none⟩=some (.pointer (some ⟨C.sb,0,none⟩)):=y6
  have HTE:=zh (fun w' (hb:Below w1.heap.size w1 w')=>Test_any (cellC C.w C.n0 C.sb _ r1.S HR1.out.ks.wf) t _ w' (HV.out.later (bl_tt HR1.out.below hb)) (HR1.out.ks.later hb))
  obtain ⟨⟨x,y⟩,hx⟩:∃ x,exprE r1.S.look t=x:=⟨_,rfl⟩
  rw [hx] at HTE
  dsimp only at HTE
  obtain ⟨bb,hbb⟩:∃ b,decide (x≠0)=b:=⟨_,rfl⟩
  rw [hbb] at HTE
  have HXX:=zh hx
  have HBBB:=zh hbb
  clear hbb hk1 hbl1 hs hr1 y6 hx HST HBX
  have HSS:=zh (show ∀ w',Below w1.heap.size w1 w'->(fun w':World=>w'.cell? ⟨W.heap.size,0,none⟩=some (.int .u8 t.k)/\w'.cell? ⟨W.heap.size,1,none⟩=some (.int .i64 t.n)/\w'.cell? ⟨W.heap.size,2,none⟩=some (.string t.s)/\w'.cell? ⟨W.heap.size,3,none⟩=some (.slice A t.ks.length c)/\w'.cell? ⟨C.rb,6,none⟩=some (.pointer (some ⟨C.sb,0,none⟩))) w' from fun w' hb=>⟨zb hb x0,zb hb x1,zb hb x2,zb hb x3,zb hb y6'⟩)
  have HQ0:=zh (HSS.out _ (Below.refl _ _).drew)
  clear x0 x1 x2 x3 y6'
  go_upto_region 2 with fail
  go_region_held3 (fun w':World=>w'.cell? ⟨W.heap.size,0,none⟩=some (.int .u8 t.k)/\w'.cell? ⟨W.heap.size,1,none⟩=some (.int .i64 t.n)/\w'.cell? ⟨W.heap.size,2,none⟩=some (.string t.s)/\w'.cell? ⟨W.heap.size,3,none⟩=some (.slice A t.ks.length c)/\w'.cell? ⟨C.rb,6,none⟩=some (.pointer (some ⟨C.sb,0,none⟩)))
   (first|with_reducible exact HQ1.out|with_reducible exact HQ0.out)
   (first
    | (go_at_call 207; refine (HTE.out _ (Below.refl _ _).drew).mono ?_; rintro e y1 ⟨rfl,by1⟩; have b1:=bl_tt (Below.refl w1.heap.size w1).drew by1; have HQ1:=zh (HSS.out _ b1))
    | fail)
  have HB2:=zh b1
  clear b1 by1 HQ1
  go_wp2_with fail
  refine (check_any _ y _).mono ?_
  rintro e w3 ⟨rfl,hcs⟩
  rcases hcs with ⟨rfl,u2,rfl⟩|⟨hy,rfl⟩
  ·go_wp2_with fail
   go_ret
   refine ⟨HK1.out.trans (Kpt.of_below HB2.out),bl_tt HB1.out HB2.out,.inr ⟨bb,r1,rfl,HR1.out.later HB2.out,fun f=>?_⟩⟩
   unfold holdsO
   rw [HS.out]
   simp only [Out.bind,valO,HXX.out]
   simp [<-HBBB.out]
  ·refine ⟨rfl,HK1.out.trans (Kpt.of_below HB2.out),bl_tt HB1.out HB2.out,.inl ⟨y,rfl,fun f=>?_⟩⟩
   unfold holdsO
   rw [HS.out]
   simp only [Out.bind,valO,HXX.out]
   rw [if_pos hy]
theorem wrap64_I64 (x:Int):I64 (wrap64 x):=by
 unfold wrap64 I64
 constructor<;>omega
theorem numI_I64 (b:Bool):I64 (numI b):=by
 cases b
 ·exact ⟨by decide,by decide⟩
 ·exact ⟨by decide,by decide⟩
theorem zero_I64:I64 0:=⟨by decide,by decide⟩
theorem tmod_I64 {x y:Int} (h:I64 x):I64 (x.tmod y):=by
 obtain ⟨h1,h2⟩:=h
 rcases Int.le_total 0 x with h0|h0
 ·have a1:=Int.tmod_nonneg y h0
  have a2:(x.tmod y).natAbs<=x.natAbs:=by rw [Int.natAbs_tmod]; exact Nat.mod_le _ _
  exact ⟨by omega,by omega⟩
 ·have a1:=Int.tmod_nonneg y (show 0 <= -x by omega)
  rw [Int.neg_tmod] at a1
  have a2:(x.tmod y).natAbs<=x.natAbs:=by rw [Int.natAbs_tmod]; exact Nat.mod_le _ _
  exact ⟨by omega,by omega⟩
theorem divE_I64 {k x y:Int} (hx:I64 x):I64 (divE k x y).1:=by
 unfold divE
 repeat' split
 all_goals first|exact zero_I64|exact wrap64_I64 _|exact tmod_I64 hx
theorem unE_I64 (k x:Int):I64 (unE k x).1:=by
 unfold unE
 split
 ·exact wrap64_I64 _
 ·exact numI_I64 _
theorem ite_I64 {c:Prop} [Decidable c] {a b:Int×Int} (ha:I64 a.1) (hb:I64 b.1):I64 (if c then a else b).1:=by
 split
 ·exact ha
 ·exact hb
theorem apE_I64 {k x y:Int} (hx:I64 x):I64 (apE k x y).1:=by
 unfold apE
 repeat' apply ite_I64
 all_goals first|exact wrap64_I64 _|exact divE_I64 hx|exact tmod_I64 hx|exact wrapI64 _|exact numI_I64 _|exact zero_I64
theorem getD_I64 {l:List Int} (h:∀ x∈l,I64 x) (i:Nat):I64 (l.getD i 0):=by
 rw [List.getD_eq_getElem?_getD]
 rcases hx:l[i]? with _|x
 ·exact zero_I64
 ·exact h x (List.mem_of_getElem? hx)
theorem evK_I64 {look:ByteArray->Option (List Int)} (hl:∀ s l,look s=some l->l.length<=100000/\∀ x∈l,I64 x) {k n:Int} {s:ByteArray} {rs:List (Int×Int)} (hn:I64 n) (h0:I64 (rs.getD 0 (0,0)).1):I64 (evK look k n s rs).1:=by
 unfold evK
 split
 ·exact hn
 ·split
  ·unfold varE
   split
   ·exact zero_I64
   ·rename_i l hlk
    obtain ⟨h1,h2⟩:=hl s l hlk
    repeat' split
    all_goals first|exact getD_I64 h2 _|exact zero_I64|exact ⟨by simp only; omega,by simp only; omega⟩
  ·repeat' split
   all_goals first|exact unE_I64 _ _|exact apE_I64 h0|exact zero_I64
theorem evE_I64 {look:ByteArray->Option (List Int)} (hl:∀ s l,look s=some l->l.length<=100000/\∀ x∈l,I64 x) {w:World}:∀ (m:Nat) (t:T) (v:Value),size t<=m->NV w Any t v->I64 (evE look t).1
 | 0,t,_,h,_=>by obtain ⟨k,n,s,ks⟩:=t; rw [size] at h; omega
 | m+1,.nd k n s ks,v,h,hv=>by
  obtain ⟨A,c,-,hf,-,-,hrow⟩:=hv.open_
  rw [evE]
  refine evK_I64 hl hf.2.1 ?_
  rw [evEs_map,List.getD_eq_getElem?_getD,List.getElem?_map]
  rcases hk:ks[0]? with _|u
  ·exact zero_I64
  ·obtain ⟨h1,h2⟩:=List.getElem?_eq_some_iff.1 hk
   obtain ⟨a,u0,u1,u2,u3,-,-,-,hn⟩:=hrow 0 h1
   have hs:=size_mem_le (List.getElem_mem h1)
   rw [size] at h
   have:=evE_I64 hl m ks[0] _ (by omega) hn
   rw [h2] at this
   exact this
theorem look_I64 {S:ST} (h:S.WF):∀ s l,S.look s=some l->l.length<=100000/\∀ x∈l,I64 x:=fun s l hl=>by
 obtain ⟨i,id,h1,h2,rfl⟩:=ST.look_num hl
 obtain ⟨kd,hc⟩:=h.cur
 have:=h.cells id (hc.num id (List.mem_of_getElem? h2))
 exact ⟨by omega,this.2⟩
theorem expr_I64 {S:ST} (h:S.WF) {w:World} {t:T} {v:Value} (hv:NV w Any t v):I64 (exprE S.look t).1:=by
 unfold exprE
 split
 ·exact evE_I64 (look_I64 h) _ _ _ (Nat.le_refl _) hv
 ·exact zero_I64
def ValP (C:RC) (W:World) (t:T) (r:RS) (e:Ending) (W':World):Prop :=
 Below W.heap.size W W'/\((∃ x,e=failE x/\∀ f,valO t r f=.err x)\/∃ x,e=.returned (.int .i64 x)/\I64 x/\∀ f,valO t r f=f x r)
theorem value_any {C:RC} {W:World} {r:RS} (h:RI C W r) (t:T) (v:Value) (hv:NV C.w Any t v):Calls Tryz.prog 211 #[.pointer (some ⟨C.rb,0,none⟩),v] W (ValP C W t r):=by
 have HV:=zh hv
 obtain ⟨A,c,rfl,-⟩:=hv.open_
 have hmf:∀ (fn:Fn) (first cap:Array Value) (w:World),(Instr.makeFunc fn first cap).run Tryz.prog w=.ok (.func fn first cap) w:=fun _ _ _ _=>rfl
 have hb0:=bl_al (Below.refl W.heap.size W) (.cells #[.int .u8 t.k,.int .i64 t.n,.string t.s,.slice A t.ks.length c] 29)
 have hbx:=box4 (heap_alloc_new W (.cells #[.int .u8 t.k,.int .i64 t.n,.string t.s,.slice A t.ks.length c] 29))
 obtain ⟨y6,-⟩:=(h.later hb0).cells
 have HR:=zh (h.later hb0)
 have HB0:=zh hb0
 obtain ⟨w1,hW1⟩:∃ x,W.alloc (.cells #[.int .u8 t.k,.int .i64 t.n,.string t.s,.slice A t.ks.length c] 29)=x:=⟨_,rfl⟩
 rw [hW1] at hbx HR HB0 y6
 obtain ⟨x0,x1,x2,x3⟩:=hbx
 have HTE:=zh (fun w' (hb:Below w1.heap.size w1 w')=>Expr_any (cellC C.w C.n0 C.sb _ r.S HR.out.ks.wf) t _ w' (HV.out.later (bl_tt HR.out.below hb)) (HR.out.ks.later hb))
 obtain ⟨⟨x,y⟩,hx⟩:∃ x,exprE r.S.look t=x:=⟨_,rfl⟩
 rw [hx] at HTE
 have HXX:=zh hx
 have HSS:=zh (show ∀ w',Below w1.heap.size w1 w'->(fun w':World=>w'.cell? ⟨W.heap.size,0,none⟩=some (.int .u8 t.k)/\w'.cell? ⟨W.heap.size,1,none⟩=some (.int .i64 t.n)/\w'.cell? ⟨W.heap.size,2,none⟩=some (.string t.s)/\w'.cell? ⟨W.heap.size,3,none⟩=some (.slice A t.ks.length c)/\w'.cell? ⟨C.rb,6,none⟩=some (.pointer (some ⟨C.sb,0,none⟩))) w' from fun w' hb=>⟨zb hb x0,zb hb x1,zb hb x2,zb hb x3,zb hb y6⟩)
 have HQ0:=zh (HSS.out _ (Below.refl _ _).drew)
 clear hv hb0 hx x0 x1 x2 x3 y6 h
 go_enter Tryz.func211,Tryz.ntmps211
 go_upto_region 1 with fail
 clear hW1
 go_region_held3 (fun w':World=>w'.cell? ⟨W.heap.size,0,none⟩=some (.int .u8 t.k)/\w'.cell? ⟨W.heap.size,1,none⟩=some (.int .i64 t.n)/\w'.cell? ⟨W.heap.size,2,none⟩=some (.string t.s)/\w'.cell? ⟨W.heap.size,3,none⟩=some (.slice A t.ks.length c)/\w'.cell? ⟨C.rb,6,none⟩=some (.pointer (some ⟨C.sb,0,none⟩)))
  (first|with_reducible exact HQ1.out|with_reducible exact HQ0.out)
  (first
   | (go_at_call 110; refine (HTE.out _ (Below.refl _ _).drew).mono ?_; rintro e y1 ⟨rfl,by1⟩; have b1:=bl_tt (Below.refl w1.heap.size w1).drew by1; have HQ1:=zh (HSS.out _ b1))
   | fail)
 have HB2:=zh (bl_tt HB0.out b1)
 clear b1 by1 HQ1
 go_wp2_with fail
 refine (check_any _ y _).mono ?_
 rintro e w3 ⟨rfl,hcs⟩
 rcases hcs with ⟨rfl,u2,rfl⟩|⟨hy,rfl⟩
 ·go_wp2_with fail
  go_ret
  refine ⟨HB2.out,.inr ⟨x,rfl,?_,fun f=>?_⟩⟩
  ·have:=expr_I64 HR.out.ks.wf HV.out
   rw [HXX.out] at this
   exact this
  ·unfold valO
   rw [HXX.out]
   simp
 ·refine ⟨rfl,HB2.out,.inl ⟨y,rfl,fun f=>?_⟩⟩
  unfold valO
  rw [HXX.out,if_pos hy]
theorem assert_any {C:RC} (hC:C.Ok) {W:World} {r:RS} (h:RI C W r) (t:T) (v:Value) (hv:NV C.w Any t v) (b:Bool):Calls Tryz.prog 210 #[.pointer (some ⟨C.rb,0,none⟩),v,.bool b] W (RunP C W (assertO C.F t b r)):=by
 have HV:=zh hv
 obtain ⟨A,c,rfl,-⟩:=hv.open_
 have hb0:=bl_al (Below.refl W.heap.size W) (.cells #[.int .u8 t.k,.int .i64 t.n,.string t.s,.slice A t.ks.length c] 29)
 obtain ⟨x0,x1,x2,x3⟩:=box4 (heap_alloc_new W (.cells #[.int .u8 t.k,.int .i64 t.n,.string t.s,.slice A t.ks.length c] 29))
 have HK0:=zh (Kpt.of_below (n0:=C.n0) (kb:=C.kb) hb0)
 have HHO:=zh (holds_any hC (h.later hb0) t _ hv)
 clear hv hb0 h
 go_enter Tryz.func210,Tryz.ntmps210
 go_wp2_with fail
 refine HHO.out.mono ?_
 rintro e w1 ⟨hk1,hb1,ho⟩
 have HK1:=zh (HK0.out.trans hk1)
 have HB1:=zh hb1
 clear hk1 hb1 HHO x0 x1 x2 x3 HK0
 rcases ho with ⟨x,rfl,hx⟩|⟨b1,r1,rfl,hr1,hx⟩
 ·refine ⟨rfl,HK1.out,HB1.out,?_⟩
  rw [show assertO C.F t b r=.err x from hx _]
 ·have HX:=zh (show assertO C.F t b r=if b1=b then .ok r1 else .err 15 from hx _)
  have HR:=zh hr1
  clear hr1 hx
  by_cases hbb:b1=b
  ·subst hbb
   have HX2:=zh (show assertO C.F t b1 r=.ok r1 by rw [HX.out,if_pos rfl])
   clear HX
   go_wp2_with fail
   go_end0
   refine ⟨HK1.out,HB1.out,?_⟩
   rw [HX2.out]
   exact ⟨⟨_,rfl⟩,HR.out⟩
  ·have e1:(b1 != b)=true:=by simpa using hbb
   have e2:(b1==b)=false:=by simpa using hbb
   go_wp2_with fail
   refine (Fail_any 15 (by decide) _).mono ?_
   rintro e w2 ⟨rfl,rfl⟩
   refine ⟨rfl,HK1.out,HB1.out,?_⟩
   rw [HX.out,if_neg hbb]
section
variable {P:Program} {ops:Array Oper} {Q:Exit->Act->World->Prop} {md:Region.Mode} {S1 S2:World->Prop} {k:Nat}
theorem wpG_both {i j:Nat} {o o':Oper} {fuel:Nat} {listed:Array Bool} {a:Act} {w:World} (hr:Region.ready md ops listed=[i,j]) (ho:ops[i]?=some o) (ho':ops[j]?=some o')
  (h:∀ K':Act->World->Prop,Shut (∀ a w,S1 w/\S2 w->wpG P md ops Q S1 S2 k fuel (listed.setIfInBounds i true) a w->K' a w)->if Region.wanted o (yielded ops a.tmps)=true then Oper.wp P o a w K' Q else K' (a.put o.dst undef) w)
  (h':∀ K':Act->World->Prop,Shut (∀ a w,S1 w/\S2 w->wpG P md ops Q S1 S2 k fuel (listed.setIfInBounds j true) a w->K' a w)->if Region.wanted o' (yielded ops a.tmps)=true then Oper.wp P o' a w K' Q else K' (a.put o'.dst undef) w) :
  wpG P md ops Q S1 S2 k (fuel+1) listed a w:=by
 refine ⟨(fun h0=>by rw [hr] at h0; cases h0),fun x hx=>?_⟩
 rw [hr] at hx
 simp only [List.mem_cons,List.not_mem_nil,or_false] at hx
 rcases hx with rfl|rfl
 ·exact wpOp_step ho fun K' hK=>h K' fun a w hS hW=>hK a w ⟨⟨hS.1,fun _=>hS.2⟩,hW⟩
 ·exact wpOp_step ho' fun K' hK=>h' K' fun a w hS hW=>hK a w ⟨⟨hS.1,fun _=>hS.2⟩,hW⟩
end
theorem set4 {W:World} {b:Nat} {x0 x1 x2 x3 u0 u1 u2 u3:Value} {E:TypeId} (h:W.heap[b]?=some (.cells #[x0,x1,x2,x3] E (0,0))) :
  ((((W.setCell ⟨b,0,none⟩ u0).setCell ⟨b,1,none⟩ u1).setCell ⟨b,2,none⟩ u2).setCell ⟨b,3,none⟩ u3).heap[b]?=some (.cells #[u0,u1,u2,u3] E (0,0)) /\
   Chg (fun q=>q=b) W ((((W.setCell ⟨b,0,none⟩ u0).setCell ⟨b,1,none⟩ u1).setCell ⟨b,2,none⟩ u2).setCell ⟨b,3,none⟩ u3):=by
 refine ⟨?_,((((Chg.refl (fun q=>q=b) W).setCell (p:=⟨b,0,none⟩) (.inl rfl) _).setCell (p:=⟨b,1,none⟩) (.inl rfl) _).setCell (p:=⟨b,2,none⟩) (.inl rfl) _).setCell (p:=⟨b,3,none⟩) (.inl rfl) _⟩
 rw [heap_setCell_same _ b 3 _ _ u3 (heap_setCell_same _ b 2 _ _ u2 (heap_setCell_same _ b 1 _ _ u1 (heap_setCell_same W b 0 _ _ u0 h)))]
 simp
theorem ends_any (t:T) (v:Value) (back:Bool) (w0 w:World) (hB0:Below w0.heap.size w0 w) (hv:NV w0 Any t v) (hk:0<t.ks.length):Calls Tryz.prog 208 #[v,.bool back] w fun e W'=>∃ v1 v2,e=.returned (.tuple #[v1,v2])/\NV w0 Any (fstT back t) v1/\NV w0 Any (lstT back t) v2/\Below w.heap.size w W':=by
 have HV:=zh hv
 obtain ⟨A,c,rfl,hf,hlk,hlc,hrow⟩:=hv.open_
 obtain ⟨m,hm⟩:∃ m,t.ks.length=m+1:=⟨t.ks.length-1,by omega⟩
 obtain ⟨a,a0,a1,a2,a3,rfl,-,ha,hna⟩:=hrow 0 (by omega)
 obtain ⟨a',b0,b1,b2,b3,e',-,hb,hnb⟩:=hrow m (by omega)
 injection e' with e'
 subst e'
 obtain ⟨t6,ht6⟩:∃ x,t.ks[0]'(by omega)=x:=⟨_,rfl⟩
 obtain ⟨t7,ht7⟩:∃ x,t.ks[m]'(by omega)=x:=⟨_,rfl⟩
 rw [ht6] at hna
 rw [ht7] at hnb
 have HN6:=zh hna
 have HN7:=zh hnb
 have HT6:=zh (show kid t 0=t6 by simp [kid,show 0<t.ks.length by omega,ht6])
 have HT7:=zh (show kid t (t.ks.length-1)=t7 by simp [kid,hm,show m<t.ks.length by omega,ht7])
 obtain ⟨A6,c6,e6,-⟩:=hna.open_
 obtain ⟨A7,c7,e7,-⟩:=hnb.open_
 simp only [nv,Value.agg.injEq,Array.mk.injEq,List.cons.injEq,and_true] at e6 e7
 obtain ⟨rfl,rfl,rfl,rfl⟩:=e6
 obtain ⟨rfl,rfl,rfl,rfl⟩:=e7
 clear hna hnb ht6 ht7
 obtain ⟨ha0,ha1,ha2,ha3⟩:=ha
 obtain ⟨hb0,hb1,hb2,hb3⟩:=hb
 simp only [Nat.zero_mul,Addr.add_zero'] at ha0 ha1 ha2 ha3
 replace ha0:=zb hB0 ha0
 replace ha1:=zb hB0 ha1
 replace ha2:=zb hB0 ha2
 replace ha3:=zb hB0 ha3
 replace hb0:=zb hB0 hb0
 replace hb1:=zb hB0 hb1
 replace hb2:=zb hB0 hb2
 replace hb3:=zb hB0 hb3
 clear hB0
 have hwm:IntKind.i64.wrap (m:Int)=(m:Int):=IntWalk.i64_in _ (by unfold LK at hlk; omega)
 have hm0:(0:Int)<=(m:Int):=by omega
 have hm1:(m:Int)<((m:Int)+1):=by omega
 have hbl:Below w.heap.size w (((w.alloc (.cells #[.int .u8 t.k,.int .i64 t.n,.string t.s,.slice (some a) (m+1) c] 29)).alloc (.cells #[.int .u8 0,.int .i64 0,.string ⟨#[]⟩,.slice none 0 0] 29)).alloc (.cells #[.int .u8 0,.int .i64 0,.string ⟨#[]⟩,.slice none 0 0] 29)):=bl_al (bl_al (bl_al (Below.refl _ _) _) _) _
 have hk0:=blk_al (blk_al (heap_alloc_new w (.cells #[.int .u8 t.k,.int .i64 t.n,.string t.s,.slice (some a) (m+1) c] 29)) (.cells #[.int .u8 0,.int .i64 0,.string ⟨#[]⟩,.slice none 0 0] 29)) (.cells #[.int .u8 0,.int .i64 0,.string ⟨#[]⟩,.slice none 0 0] 29)
 have hk4:=blk_al (heap_alloc_new (w.alloc (.cells #[.int .u8 t.k,.int .i64 t.n,.string t.s,.slice (some a) (m+1) c] 29)) (.cells #[.int .u8 0,.int .i64 0,.string ⟨#[]⟩,.slice none 0 0] 29)) (.cells #[.int .u8 0,.int .i64 0,.string ⟨#[]⟩,.slice none 0 0] 29)
 have hk5:=heap_alloc_new ((w.alloc (.cells #[.int .u8 t.k,.int .i64 t.n,.string t.s,.slice (some a) (m+1) c] 29)).alloc (.cells #[.int .u8 0,.int .i64 0,.string ⟨#[]⟩,.slice none 0 0] 29)) (.cells #[.int .u8 0,.int .i64 0,.string ⟨#[]⟩,.slice none 0 0] 29)
 simp only [World.size_alloc] at hk4 hk5
 go_enter Tryz.func208,Tryz.ntmps208
 go_upto_region 1 with fail
 obtain ⟨w1,hw1⟩:∃ x,((w.alloc (.cells #[.int .u8 t.k,.int .i64 t.n,.string t.s,.slice (some a) (m+1) c] 29)).alloc (.cells #[.int .u8 0,.int .i64 0,.string ⟨#[]⟩,.slice none 0 0] 29)).alloc (.cells #[.int .u8 0,.int .i64 0,.string ⟨#[]⟩,.slice none 0 0] 29)=x:=⟨_,rfl⟩
 rw [hw1] at hbl hk0 hk4 hk5 ⊢
 have hSS:(fun w':World=>w'.cell? ⟨w.heap.size,3,none⟩=some (.slice (some a) (m+1) c)/\(w'.cell? a=some (.int .u8 t6.k)/\w'.cell? ⟨a.block,a.off+1,none⟩=some (.int .i64 t6.n)/\w'.cell? ⟨a.block,a.off+2,none⟩=some (.string t6.s)/\w'.cell? ⟨a.block,a.off+3,none⟩=some (.slice A6 t6.ks.length c6))/\(w'.cell? (a.add (m*4))=some (.int .u8 t7.k)/\w'.cell? ⟨(a.add (m*4)).block,(a.add (m*4)).off+1,none⟩=some (.int .i64 t7.n)/\w'.cell? ⟨(a.add (m*4)).block,(a.add (m*4)).off+2,none⟩=some (.string t7.s)/\w'.cell? ⟨(a.add (m*4)).block,(a.add (m*4)).off+3,none⟩=some (.slice A7 t7.ks.length c7))) w1.drew/\(fun _:World=>True) w1.drew:=⟨⟨zc hk0 rfl,⟨zb hbl.drew ha0,zb hbl.drew ha1,zb hbl.drew ha2,zb hbl.drew ha3⟩,⟨zb hbl.drew hb0,zb hbl.drew hb1,zb hbl.drew hb2,zb hbl.drew hb3⟩⟩,trivial⟩
 have HK4:=zh (show w1.heap[w.heap.size+1]?=some (.cells #[.int .u8 0,.int .i64 0,.string ⟨#[]⟩,.slice none 0 0] 29 (0,0)) from hk4)
 have HK5:=zh (show w1.heap[w.heap.size+1+1]?=some (.cells #[.int .u8 0,.int .i64 0,.string ⟨#[]⟩,.slice none 0 0] 29 (0,0)) from hk5)
 have HBL:=zh hbl
 clear hw1 hbl hk0 hk4 hk5 ha0 ha1 ha2 ha3 hb0 hb1 hb2 hb3 hrow HV
 refine wp_region_noPanic ?_
 refine wp_region_G (fun w':World=>w'.cell? ⟨w.heap.size,3,none⟩=some (.slice (some a) (m+1) c)/\(w'.cell? a=some (.int .u8 t6.k)/\w'.cell? ⟨a.block,a.off+1,none⟩=some (.int .i64 t6.n)/\w'.cell? ⟨a.block,a.off+2,none⟩=some (.string t6.s)/\w'.cell? ⟨a.block,a.off+3,none⟩=some (.slice A6 t6.ks.length c6))/\(w'.cell? (a.add (m*4))=some (.int .u8 t7.k)/\w'.cell? ⟨(a.add (m*4)).block,(a.add (m*4)).off+1,none⟩=some (.int .i64 t7.n)/\w'.cell? ⟨(a.add (m*4)).block,(a.add (m*4)).off+2,none⟩=some (.string t7.s)/\w'.cell? ⟨(a.add (m*4)).block,(a.add (m*4)).off+3,none⟩=some (.slice A7 t7.ks.length c7))) (fun _:World=>True) 15 (by kernel_rfl) ?_
 refine zT 0 hSS ?_
 (try simp only [Act.put,zP])
 refine zT 1 hSS ?_
 (try simp only [Act.put,zP])
 refine zT 2 hSS ?_
 (try simp only [Act.put,zP])
 refine zT 3 hSS ?_
 (try simp only [Act.put,zP])
 refine zT 4 hSS ?_
 (try simp only [Act.put,zP])
 refine zT 5 hSS ?_
 (try simp only [Act.put,zP])
 refine zT 6 hSS ?_
 (try simp only [Act.put,zP])
 refine zT 7 hSS ?_
 (try simp only [Act.put,zP])
 refine zT 8 hSS ?_
 (try simp only [Act.put,zP])
 refine zT 9 hSS ?_
 (try simp only [Act.put,zP])
 refine zT 10 hSS ?_
 (try simp only [Act.put,zP])
 refine zT 11 hSS ?_
 (try simp only [Act.put,zP])
 have HSK:=zh (show ∀ w',Below w1.heap.size w1 w'->(fun w':World=>w'.cell? ⟨w.heap.size,3,none⟩=some (.slice (some a) (m+1) c)/\(w'.cell? a=some (.int .u8 t6.k)/\w'.cell? ⟨a.block,a.off+1,none⟩=some (.int .i64 t6.n)/\w'.cell? ⟨a.block,a.off+2,none⟩=some (.string t6.s)/\w'.cell? ⟨a.block,a.off+3,none⟩=some (.slice A6 t6.ks.length c6))/\(w'.cell? (a.add (m*4))=some (.int .u8 t7.k)/\w'.cell? ⟨(a.add (m*4)).block,(a.add (m*4)).off+1,none⟩=some (.int .i64 t7.n)/\w'.cell? ⟨(a.add (m*4)).block,(a.add (m*4)).off+2,none⟩=some (.string t7.s)/\w'.cell? ⟨(a.add (m*4)).block,(a.add (m*4)).off+3,none⟩=some (.slice A7 t7.ks.length c7))) w' from fun w' hb=>by
  obtain ⟨⟨q0,⟨q1,q2,q3,q4⟩,q5,q6,q7,q8⟩,-⟩:=hSS
  exact ⟨zb hb q0,⟨zb hb q1,zb hb q2,zb hb q3,zb hb q4⟩,zb hb q5,zb hb q6,zb hb q7,zb hb q8⟩)
 clear hSS
 refine wpG_both (i:=12) (j:=13) (by kernel_rfl) rfl rfl (fun K hK=>?_) (fun K hK=>?_)
 ·skip
  (try simp only [zA,zB,zC])
  go_simp
  have hb2:=bl_al (Below.refl w1.heap.size w1) (.cells #[.int .u8 0,.int .i64 0,.string ⟨#[]⟩,.slice none 0 0] 29)
  refine hK.out _ _ ⟨HSK.out _ hb2.drew,trivial⟩ ?_
  clear hK K
  (try simp only [Act.put,zP])
  refine wpG_one (i:=13) (by kernel_rfl) rfl (fun K hK=>?_)
  (try simp only [zA,zB,zC])
  go_simp
  have hb3:Below w1.heap.size w1 ((w1.alloc (.cells #[.int .u8 0,.int .i64 0,.string ⟨#[]⟩,.slice none 0 0] 29)).alloc (.cells #[.int .u8 0,.int .i64 0,.string ⟨#[]⟩,.slice none 0 0] 29)):=bl_al hb2 (.cells #[.int .u8 0,.int .i64 0,.string ⟨#[]⟩,.slice none 0 0] 29)
  have hz6:=blk_al (heap_alloc_new w1 (.cells #[.int .u8 0,.int .i64 0,.string ⟨#[]⟩,.slice none 0 0] 29)) (.cells #[.int .u8 0,.int .i64 0,.string ⟨#[]⟩,.slice none 0 0] 29)
  have hz7:=heap_alloc_new (w1.alloc (.cells #[.int .u8 0,.int .i64 0,.string ⟨#[]⟩,.slice none 0 0] 29)) (.cells #[.int .u8 0,.int .i64 0,.string ⟨#[]⟩,.slice none 0 0] 29)
  rw [World.size_alloc] at hz7
  refine hK.out _ _ ⟨HSK.out _ hb3.drew,trivial⟩ ?_
  clear hK K
  (try simp only [Act.put,zP])
  obtain ⟨w3,hw3⟩:∃ x,(w1.alloc (.cells #[.int .u8 0,.int .i64 0,.string ⟨#[]⟩,.slice none 0 0] 29)).alloc (.cells #[.int .u8 0,.int .i64 0,.string ⟨#[]⟩,.slice none 0 0] 29)=x:=⟨_,rfl⟩
  rw [hw3] at hb3 hz6 hz7 ⊢
  clear hw3 hb2
  have HB3:=zh hb3
  have c0:w3.cell? ⟨w1.heap.size,0,none⟩=some (.int .u8 0):=zc hz6 rfl
  have c1:w3.cell? ⟨w1.heap.size,1,none⟩=some (.int .i64 0):=zc hz6 rfl
  have c2:w3.cell? ⟨w1.heap.size,2,none⟩=some (.string ⟨#[]⟩):=zc hz6 rfl
  have c3:w3.cell? ⟨w1.heap.size,3,none⟩=some (.slice none 0 0):=zc hz6 rfl
  have cf:∀ o,w3.frozen? ⟨w1.heap.size,o,none⟩=false:=fun _=>zf hz6
  refine wpG_one (i:=14) (by kernel_rfl) rfl (fun K hK=>?_)
  (try simp only [zA,zB,zC])
  go_simp
  obtain ⟨hh,hch⟩:=set4 (u0:=(.int .u8 t6.k)) (u1:=(.int .i64 t6.n)) (u2:=(.string t6.s)) (u3:=(.slice A6 t6.ks.length c6)) hz6
  obtain ⟨w4,hwn⟩:∃ x,(((w3.setCell ⟨w1.heap.size,0,none⟩ (.int .u8 t6.k)).setCell ⟨w1.heap.size,1,none⟩ (.int .i64 t6.n)).setCell ⟨w1.heap.size,2,none⟩ (.string t6.s)).setCell ⟨w1.heap.size,3,none⟩ (.slice A6 t6.ks.length c6)=x:=⟨_,rfl⟩
  rw [hwn] at hh hch ⊢
  have hb4:Below w1.heap.size w1 w4:=HB3.out.trans (hch.below HB3.out.size fun b e=>by omega)
  refine hK.out _ _ ⟨HSK.out _ hb4.drew,trivial⟩ ?_
  clear hK K c0 c1 c2 c3 cf hwn
  (try simp only [Act.put,zP])
  have HB4:=zh hb4
  have hz7':=hch.keep hz7 (by omega)
  have c0:w4.cell? ⟨(w1.heap.size+1),0,none⟩=some (.int .u8 0):=zc hz7' rfl
  have c1:w4.cell? ⟨(w1.heap.size+1),1,none⟩=some (.int .i64 0):=zc hz7' rfl
  have c2:w4.cell? ⟨(w1.heap.size+1),2,none⟩=some (.string ⟨#[]⟩):=zc hz7' rfl
  have c3:w4.cell? ⟨(w1.heap.size+1),3,none⟩=some (.slice none 0 0):=zc hz7' rfl
  have cf:∀ o,w4.frozen? ⟨(w1.heap.size+1),o,none⟩=false:=fun _=>zf hz7'
  refine wpG_past (i:=15) (by kernel_rfl) rfl (by kernel_rfl) (fun K hK=>?_)
  (try simp only [zA,zB,zC])
  go_simp
  obtain ⟨hh2,hch2⟩:=set4 (u0:=(.int .u8 t7.k)) (u1:=(.int .i64 t7.n)) (u2:=(.string t7.s)) (u3:=(.slice A7 t7.ks.length c7)) hz7'
  obtain ⟨w5,hwn⟩:∃ x,(((w4.setCell ⟨(w1.heap.size+1),0,none⟩ (.int .u8 t7.k)).setCell ⟨(w1.heap.size+1),1,none⟩ (.int .i64 t7.n)).setCell ⟨(w1.heap.size+1),2,none⟩ (.string t7.s)).setCell ⟨(w1.heap.size+1),3,none⟩ (.slice A7 t7.ks.length c7)=x:=⟨_,rfl⟩
  rw [hwn] at hh2 hch2 ⊢
  have hb5:Below w1.heap.size w1 w5:=HB4.out.trans (hch2.below HB4.out.size fun b e=>by omega)
  refine hK.out _ _ (HSK.out _ hb5.drew) ?_
  clear hK K c0 c1 c2 c3 cf hwn
  (try simp only [Act.put,zP])
  have HH6:=zh (hch2.keep hh (by omega))
  have HH7:=zh hh2
  have HB5:=zh (show Below w1.heap.size w1 w5 from hb5)
  clear hb3 hz6 hz7 hz7' hh hh2 hch hch2 hb4 hb5 HB4 HB3 HSK
  refine wpG_done (by kernel_rfl) ?_
  refine NoPanic.normal ?_
  have HZ4:=zh (blk_bl HK4.out HB5.out)
  have HZ5:=zh (blk_bl HK5.out HB5.out)
  cases back
  ·go_upto_region 4 with fail
   have hS5:(fun w':World=>(w'.cell? ⟨w1.heap.size,0,none⟩=some (.int .u8 t6.k)/\w'.cell? ⟨w1.heap.size,1,none⟩=some (.int .i64 t6.n)/\w'.cell? ⟨w1.heap.size,2,none⟩=some (.string t6.s)/\w'.cell? ⟨w1.heap.size,3,none⟩=some (.slice A6 t6.ks.length c6))/\(w'.cell? ⟨(w1.heap.size+1),0,none⟩=some (.int .u8 t7.k)/\w'.cell? ⟨(w1.heap.size+1),1,none⟩=some (.int .i64 t7.n)/\w'.cell? ⟨(w1.heap.size+1),2,none⟩=some (.string t7.s)/\w'.cell? ⟨(w1.heap.size+1),3,none⟩=some (.slice A7 t7.ks.length c7))) w5.drew:=⟨⟨zc HH6.out rfl,zc HH6.out rfl,zc HH6.out rfl,zc HH6.out rfl⟩,⟨zc HH7.out rfl,zc HH7.out rfl,zc HH7.out rfl,zc HH7.out rfl⟩⟩
   refine wp_region_noPanic ?_
   refine wp_region_G (fun w':World=>(w'.cell? ⟨w1.heap.size,0,none⟩=some (.int .u8 t6.k)/\w'.cell? ⟨w1.heap.size,1,none⟩=some (.int .i64 t6.n)/\w'.cell? ⟨w1.heap.size,2,none⟩=some (.string t6.s)/\w'.cell? ⟨w1.heap.size,3,none⟩=some (.slice A6 t6.ks.length c6))/\(w'.cell? ⟨(w1.heap.size+1),0,none⟩=some (.int .u8 t7.k)/\w'.cell? ⟨(w1.heap.size+1),1,none⟩=some (.int .i64 t7.n)/\w'.cell? ⟨(w1.heap.size+1),2,none⟩=some (.string t7.s)/\w'.cell? ⟨(w1.heap.size+1),3,none⟩=some (.slice A7 t7.ks.length c7))) (fun _:World=>True) 3 (by kernel_rfl) ?_
   refine wpG_take1 (i:=0) (v:=?_) rfl (by kernel_rfl) (by kernel_rfl) (by kernel_rfl) (by decide) (fun _ _ _ h=>h) (Or.inl ⟨by rfl,?_⟩) ⟨hS5,trivial⟩ ?_
   rotate_left 1
   ·(intro w hSw; (try dsimp only at hSw); (try simp only [zA,zC]); go_simp; (try with_reducible rfl))
   (try simp only [Act.put,zP])
   refine wpG_take1 (i:=1) (v:=?_) rfl (by kernel_rfl) (by kernel_rfl) (by kernel_rfl) (by decide) (fun _ _ _ h=>h) (Or.inl ⟨by rfl,?_⟩) ⟨hS5,trivial⟩ ?_
   rotate_left 1
   ·(intro w hSw; (try dsimp only at hSw); (try simp only [zA,zB,zC]); go_simp; (try with_reducible rfl))
   (try simp only [Act.put,zP])
   have hsz:w.heap.size+1+1<w1.heap.size:=(Array.getElem?_eq_some_iff.mp HK5.out).1
   have HBW:=zh (HBL.out.trans (HB5.out.mono (by omega)))
   have HC:=zh (show ∀ W':World,W'.heap[w1.heap.size]?=w5.heap[w1.heap.size]?->W'.heap[(w1.heap.size+1)]?=w5.heap[(w1.heap.size+1)]?->(fun w':World=>((w'.cell? ⟨w1.heap.size,0,none⟩=some (.int .u8 t6.k)/\w'.cell? ⟨w1.heap.size,1,none⟩=some (.int .i64 t6.n)/\w'.cell? ⟨w1.heap.size,2,none⟩=some (.string t6.s)/\w'.cell? ⟨w1.heap.size,3,none⟩=some (.slice A6 t6.ks.length c6))/\(w'.cell? ⟨(w1.heap.size+1),0,none⟩=some (.int .u8 t7.k)/\w'.cell? ⟨(w1.heap.size+1),1,none⟩=some (.int .i64 t7.n)/\w'.cell? ⟨(w1.heap.size+1),2,none⟩=some (.string t7.s)/\w'.cell? ⟨(w1.heap.size+1),3,none⟩=some (.slice A7 t7.ks.length c7)))) W'.drew from fun W' h6 h7=>⟨⟨zc (h6.trans HH6.out) rfl,zc (h6.trans HH6.out) rfl,zc (h6.trans HH6.out) rfl,zc (h6.trans HH6.out) rfl⟩,⟨zc (h7.trans HH7.out) rfl,zc (h7.trans HH7.out) rfl,zc (h7.trans HH7.out) rfl,zc (h7.trans HH7.out) rfl⟩⟩)
   have HZQ:=zh HZ4.out
   have HZ4K:=HZ4.out
   have HZ5K:=HZ5.out
   have c0:w5.cell? ⟨(w.heap.size+1),0,none⟩=some (.int .u8 0):=zc HZ4K rfl
   have c1:w5.cell? ⟨(w.heap.size+1),1,none⟩=some (.int .i64 0):=zc HZ4K rfl
   have c2:w5.cell? ⟨(w.heap.size+1),2,none⟩=some (.string ⟨#[]⟩):=zc HZ4K rfl
   have c3:w5.cell? ⟨(w.heap.size+1),3,none⟩=some (.slice none 0 0):=zc HZ4K rfl
   have cf:∀ o,w5.frozen? ⟨(w.heap.size+1),o,none⟩=false:=fun _=>zf HZ4K
   refine wpG_one (i:=2) (by kernel_rfl) rfl (fun K hK=>?_)
   (try simp only [zA,zB,zC])
   go_simp
   obtain ⟨hh,hch⟩:=set4 (u0:=(.int .u8 t6.k)) (u1:=(.int .i64 t6.n)) (u2:=(.string t6.s)) (u3:=(.slice A6 t6.ks.length c6)) HZ4K
   obtain ⟨w6,hwn⟩:∃ x,(((w5.setCell ⟨(w.heap.size+1),0,none⟩ (.int .u8 t6.k)).setCell ⟨(w.heap.size+1),1,none⟩ (.int .i64 t6.n)).setCell ⟨(w.heap.size+1),2,none⟩ (.string t6.s)).setCell ⟨(w.heap.size+1),3,none⟩ (.slice A6 t6.ks.length c6)=x:=⟨_,rfl⟩
   rw [hwn] at hh hch ⊢
   clear c0 c1 c2 c3 cf hwn
   have HBW6:=zh (HBW.out.trans (hch.below HBW.out.size fun b e=>by omega))
   have k6:=hch.block (w1.heap.size) (Array.getElem?_eq_some_iff.mp HH6.out).1 (by omega)
   have k7:=hch.block ((w1.heap.size+1)) (Array.getElem?_eq_some_iff.mp HH7.out).1 (by omega)
   have HZ5L:=hch.keep HZ5K (by omega)
   refine hK.out _ _ ⟨HC.out _ k6 k7,trivial⟩ ?_
   have HF4:=zh hh
   have K6:=zh k6
   have K7:=zh k7
   have HCH:=zh hch
   clear hK K k6 k7 hh hch
   (try simp only [Act.put,zP])
   have c0:w6.cell? ⟨(w.heap.size+1+1),0,none⟩=some (.int .u8 0):=zc HZ5L rfl
   have c1:w6.cell? ⟨(w.heap.size+1+1),1,none⟩=some (.int .i64 0):=zc HZ5L rfl
   have c2:w6.cell? ⟨(w.heap.size+1+1),2,none⟩=some (.string ⟨#[]⟩):=zc HZ5L rfl
   have c3:w6.cell? ⟨(w.heap.size+1+1),3,none⟩=some (.slice none 0 0):=zc HZ5L rfl
   have cf:∀ o,w6.frozen? ⟨(w.heap.size+1+1),o,none⟩=false:=fun _=>zf HZ5L
   refine wpG_past (i:=3) (by kernel_rfl) rfl (by kernel_rfl) (fun K hK=>?_)
   (try simp only [zA,zB,zC])
   go_simp
   obtain ⟨hh,hch⟩:=set4 (u0:=(.int .u8 t7.k)) (u1:=(.int .i64 t7.n)) (u2:=(.string t7.s)) (u3:=(.slice A7 t7.ks.length c7)) HZ5L
   obtain ⟨w7,hwn⟩:∃ x,(((w6.setCell ⟨(w.heap.size+1+1),0,none⟩ (.int .u8 t7.k)).setCell ⟨(w.heap.size+1+1),1,none⟩ (.int .i64 t7.n)).setCell ⟨(w.heap.size+1+1),2,none⟩ (.string t7.s)).setCell ⟨(w.heap.size+1+1),3,none⟩ (.slice A7 t7.ks.length c7)=x:=⟨_,rfl⟩
   rw [hwn] at hh hch ⊢
   clear c0 c1 c2 c3 cf hwn
   have HBW7:=zh (HBW6.out.trans (hch.below HBW6.out.size fun b e=>by omega))
   have k6:=hch.block (w1.heap.size) (by have:=(Array.getElem?_eq_some_iff.mp HH6.out).1; have:=HCH.out.size; omega) (by omega)
   have k7:=hch.block ((w1.heap.size+1)) (by have:=(Array.getElem?_eq_some_iff.mp HH7.out).1; have:=HCH.out.size; omega) (by omega)
   have HF4':=zh (hch.keep HF4.out (by omega))
   refine hK.out _ _ (HC.out _ (k6.trans K6.out) (k7.trans K7.out)) ?_
   have HF5:=zh hh
   clear hK K k6 k7 hh hch
   (try simp only [Act.put,zP])
   refine wpG_done (by kernel_rfl) ?_
   refine NoPanic.normal ?_
   have d4:=HF4'.out
   have d5:=HF5.out
   have g0:w7.drew.cell? ⟨w.heap.size+1,0,none⟩=some (.int .u8 t6.k):=zc d4 rfl
   have g1:w7.drew.cell? ⟨w.heap.size+1,1,none⟩=some (.int .i64 t6.n):=zc d4 rfl
   have g2:w7.drew.cell? ⟨w.heap.size+1,2,none⟩=some (.string t6.s):=zc d4 rfl
   have g3:w7.drew.cell? ⟨w.heap.size+1,3,none⟩=some (.slice A6 t6.ks.length c6):=zc d4 rfl
   have g4:w7.drew.cell? ⟨w.heap.size+1+1,0,none⟩=some (.int .u8 t7.k):=zc d5 rfl
   have g5:w7.drew.cell? ⟨w.heap.size+1+1,1,none⟩=some (.int .i64 t7.n):=zc d5 rfl
   have g6:w7.drew.cell? ⟨w.heap.size+1+1,2,none⟩=some (.string t7.s):=zc d5 rfl
   have g7:w7.drew.cell? ⟨w.heap.size+1+1,3,none⟩=some (.slice A7 t7.ks.length c7):=zc d5 rfl
   go_wp2_with fail
   refine bodyPost_ret (v:=.tuple #[.agg #[.int .u8 t6.k,.int .i64 t6.n,.string t6.s,.slice A6 t6.ks.length c6],.agg #[.int .u8 t7.k,.int .i64 t7.n,.string t7.s,.slice A7 t7.ks.length c7]]) (by simp [results,Tryz.results208,go_sem,g0,g1,g2,g3,g4,g5,g6,g7]) rfl ⟨_,_,rfl,?_,?_,HBW7.out.drew.drew⟩
   ·simp only [fstT,lstT,if_true,if_false,Bool.false_eq_true,HT6.out,HT7.out]
    exact HN6.out
   ·simp only [fstT,lstT,if_true,if_false,Bool.false_eq_true,HT6.out,HT7.out]
    exact HN7.out
  ·go_upto_region 3 with fail
   have hS5:(fun w':World=>(w'.cell? ⟨w1.heap.size,0,none⟩=some (.int .u8 t6.k)/\w'.cell? ⟨w1.heap.size,1,none⟩=some (.int .i64 t6.n)/\w'.cell? ⟨w1.heap.size,2,none⟩=some (.string t6.s)/\w'.cell? ⟨w1.heap.size,3,none⟩=some (.slice A6 t6.ks.length c6))/\(w'.cell? ⟨(w1.heap.size+1),0,none⟩=some (.int .u8 t7.k)/\w'.cell? ⟨(w1.heap.size+1),1,none⟩=some (.int .i64 t7.n)/\w'.cell? ⟨(w1.heap.size+1),2,none⟩=some (.string t7.s)/\w'.cell? ⟨(w1.heap.size+1),3,none⟩=some (.slice A7 t7.ks.length c7))) w5.drew:=⟨⟨zc HH6.out rfl,zc HH6.out rfl,zc HH6.out rfl,zc HH6.out rfl⟩,⟨zc HH7.out rfl,zc HH7.out rfl,zc HH7.out rfl,zc HH7.out rfl⟩⟩
   refine wp_region_noPanic ?_
   refine wp_region_G (fun w':World=>(w'.cell? ⟨w1.heap.size,0,none⟩=some (.int .u8 t6.k)/\w'.cell? ⟨w1.heap.size,1,none⟩=some (.int .i64 t6.n)/\w'.cell? ⟨w1.heap.size,2,none⟩=some (.string t6.s)/\w'.cell? ⟨w1.heap.size,3,none⟩=some (.slice A6 t6.ks.length c6))/\(w'.cell? ⟨(w1.heap.size+1),0,none⟩=some (.int .u8 t7.k)/\w'.cell? ⟨(w1.heap.size+1),1,none⟩=some (.int .i64 t7.n)/\w'.cell? ⟨(w1.heap.size+1),2,none⟩=some (.string t7.s)/\w'.cell? ⟨(w1.heap.size+1),3,none⟩=some (.slice A7 t7.ks.length c7))) (fun _:World=>True) 3 (by kernel_rfl) ?_
   refine wpG_take1 (i:=0) (v:=?_) rfl (by kernel_rfl) (by kernel_rfl) (by kernel_rfl) (by decide) (fun _ _ _ h=>h) (Or.inl ⟨by rfl,?_⟩) ⟨hS5,trivial⟩ ?_
   rotate_left 1
   ·(intro w hSw; (try dsimp only at hSw); (try simp only [zA,zC]); go_simp; (try with_reducible rfl))
   (try simp only [Act.put,zP])
   refine wpG_take1 (i:=1) (v:=?_) rfl (by kernel_rfl) (by kernel_rfl) (by kernel_rfl) (by decide) (fun _ _ _ h=>h) (Or.inl ⟨by rfl,?_⟩) ⟨hS5,trivial⟩ ?_
   rotate_left 1
   ·(intro w hSw; (try dsimp only at hSw); (try simp only [zA,zB,zC]); go_simp; (try with_reducible rfl))
   (try simp only [Act.put,zP])
   have hsz:w.heap.size+1+1<w1.heap.size:=(Array.getElem?_eq_some_iff.mp HK5.out).1
   have HBW:=zh (HBL.out.trans (HB5.out.mono (by omega)))
   have HC:=zh (show ∀ W':World,W'.heap[w1.heap.size]?=w5.heap[w1.heap.size]?->W'.heap[(w1.heap.size+1)]?=w5.heap[(w1.heap.size+1)]?->(fun w':World=>((w'.cell? ⟨w1.heap.size,0,none⟩=some (.int .u8 t6.k)/\w'.cell? ⟨w1.heap.size,1,none⟩=some (.int .i64 t6.n)/\w'.cell? ⟨w1.heap.size,2,none⟩=some (.string t6.s)/\w'.cell? ⟨w1.heap.size,3,none⟩=some (.slice A6 t6.ks.length c6))/\(w'.cell? ⟨(w1.heap.size+1),0,none⟩=some (.int .u8 t7.k)/\w'.cell? ⟨(w1.heap.size+1),1,none⟩=some (.int .i64 t7.n)/\w'.cell? ⟨(w1.heap.size+1),2,none⟩=some (.string t7.s)/\w'.cell? ⟨(w1.heap.size+1),3,none⟩=some (.slice A7 t7.ks.length c7)))) W'.drew from fun W' h6 h7=>⟨⟨zc (h6.trans HH6.out) rfl,zc (h6.trans HH6.out) rfl,zc (h6.trans HH6.out) rfl,zc (h6.trans HH6.out) rfl⟩,⟨zc (h7.trans HH7.out) rfl,zc (h7.trans HH7.out) rfl,zc (h7.trans HH7.out) rfl,zc (h7.trans HH7.out) rfl⟩⟩)
   have HZQ:=zh HZ4.out
   have HZ4K:=HZ4.out
   have HZ5K:=HZ5.out
   have c0:w5.cell? ⟨(w.heap.size+1),0,none⟩=some (.int .u8 0):=zc HZ4K rfl
   have c1:w5.cell? ⟨(w.heap.size+1),1,none⟩=some (.int .i64 0):=zc HZ4K rfl
   have c2:w5.cell? ⟨(w.heap.size+1),2,none⟩=some (.string ⟨#[]⟩):=zc HZ4K rfl
   have c3:w5.cell? ⟨(w.heap.size+1),3,none⟩=some (.slice none 0 0):=zc HZ4K rfl
   have cf:∀ o,w5.frozen? ⟨(w.heap.size+1),o,none⟩=false:=fun _=>zf HZ4K
   refine wpG_one (i:=2) (by kernel_rfl) rfl (fun K hK=>?_)
   (try simp only [zA,zB,zC])
   go_simp
   obtain ⟨hh,hch⟩:=set4 (u0:=(.int .u8 t7.k)) (u1:=(.int .i64 t7.n)) (u2:=(.string t7.s)) (u3:=(.slice A7 t7.ks.length c7)) HZ4K
   obtain ⟨w6,hwn⟩:∃ x,(((w5.setCell ⟨(w.heap.size+1),0,none⟩ (.int .u8 t7.k)).setCell ⟨(w.heap.size+1),1,none⟩ (.int .i64 t7.n)).setCell ⟨(w.heap.size+1),2,none⟩ (.string t7.s)).setCell ⟨(w.heap.size+1),3,none⟩ (.slice A7 t7.ks.length c7)=x:=⟨_,rfl⟩
   rw [hwn] at hh hch ⊢
   clear c0 c1 c2 c3 cf hwn
   have HBW6:=zh (HBW.out.trans (hch.below HBW.out.size fun b e=>by omega))
   have k6:=hch.block (w1.heap.size) (Array.getElem?_eq_some_iff.mp HH6.out).1 (by omega)
   have k7:=hch.block ((w1.heap.size+1)) (Array.getElem?_eq_some_iff.mp HH7.out).1 (by omega)
   have HZ5L:=hch.keep HZ5K (by omega)
   refine hK.out _ _ ⟨HC.out _ k6 k7,trivial⟩ ?_
   have HF4:=zh hh
   have K6:=zh k6
   have K7:=zh k7
   have HCH:=zh hch
   clear hK K k6 k7 hh hch
   (try simp only [Act.put,zP])
   have c0:w6.cell? ⟨(w.heap.size+1+1),0,none⟩=some (.int .u8 0):=zc HZ5L rfl
   have c1:w6.cell? ⟨(w.heap.size+1+1),1,none⟩=some (.int .i64 0):=zc HZ5L rfl
   have c2:w6.cell? ⟨(w.heap.size+1+1),2,none⟩=some (.string ⟨#[]⟩):=zc HZ5L rfl
   have c3:w6.cell? ⟨(w.heap.size+1+1),3,none⟩=some (.slice none 0 0):=zc HZ5L rfl
   have cf:∀ o,w6.frozen? ⟨(w.heap.size+1+1),o,none⟩=false:=fun _=>zf HZ5L
   refine wpG_past (i:=3) (by kernel_rfl) rfl (by kernel_rfl) (fun K hK=>?_)
   (try simp only [zA,zB,zC])
   go_simp
   obtain ⟨hh,hch⟩:=set4 (u0:=(.int .u8 t6.k)) (u1:=(.int .i64 t6.n)) (u2:=(.string t6.s)) (u3:=(.slice A6 t6.ks.length c6)) HZ5L
   obtain ⟨w7,hwn⟩:∃ x,(((w6.setCell ⟨(w.heap.size+1+1),0,none⟩ (.int .u8 t6.k)).setCell ⟨(w.heap.size+1+1),1,none⟩ (.int .i64 t6.n)).setCell ⟨(w.heap.size+1+1),2,none⟩ (.string t6.s)).setCell ⟨(w.heap.size+1+1),3,none⟩ (.slice A6 t6.ks.length c6)=x:=⟨_,rfl⟩
   rw [hwn] at hh hch ⊢
   clear c0 c1 c2 c3 cf hwn
   have HBW7:=zh (HBW6.out.trans (hch.below HBW6.out.size fun b e=>by omega))
   have k6:=hch.block (w1.heap.size) (by have:=(Array.getElem?_eq_some_iff.mp HH6.out).1; have:=HCH.out.size; omega) (by omega)
   have k7:=hch.block ((w1.heap.size+1)) (by have:=(Array.getElem?_eq_some_iff.mp HH7.out).1; have:=HCH.out.size; omega) (by omega)
   have HF4':=zh (hch.keep HF4.out (by omega))
   refine hK.out _ _ (HC.out _ (k6.trans K6.out) (k7.trans K7.out)) ?_
   have HF5:=zh hh
   clear hK K k6 k7 hh hch
   (try simp only [Act.put,zP])
   refine wpG_done (by kernel_rfl) ?_
   refine NoPanic.normal ?_
   have d4:=HF4'.out
   have d5:=HF5.out
   have g0:w7.drew.cell? ⟨w.heap.size+1,0,none⟩=some (.int .u8 t7.k):=zc d4 rfl
   have g1:w7.drew.cell? ⟨w.heap.size+1,1,none⟩=some (.int .i64 t7.n):=zc d4 rfl
   have g2:w7.drew.cell? ⟨w.heap.size+1,2,none⟩=some (.string t7.s):=zc d4 rfl
   have g3:w7.drew.cell? ⟨w.heap.size+1,3,none⟩=some (.slice A7 t7.ks.length c7):=zc d4 rfl
   have g4:w7.drew.cell? ⟨w.heap.size+1+1,0,none⟩=some (.int .u8 t6.k):=zc d5 rfl
   have g5:w7.drew.cell? ⟨w.heap.size+1+1,1,none⟩=some (.int .i64 t6.n):=zc d5 rfl
   have g6:w7.drew.cell? ⟨w.heap.size+1+1,2,none⟩=some (.string t6.s):=zc d5 rfl
   have g7:w7.drew.cell? ⟨w.heap.size+1+1,3,none⟩=some (.slice A6 t6.ks.length c6):=zc d5 rfl
   go_wp2_with fail
   refine bodyPost_ret (v:=.tuple #[.agg #[.int .u8 t7.k,.int .i64 t7.n,.string t7.s,.slice A7 t7.ks.length c7],.agg #[.int .u8 t6.k,.int .i64 t6.n,.string t6.s,.slice A6 t6.ks.length c6]]) (by simp [results,Tryz.results208,go_sem,g0,g1,g2,g3,g4,g5,g6,g7]) rfl ⟨_,_,rfl,?_,?_,HBW7.out.drew.drew⟩
   ·simp only [fstT,lstT,if_true,if_false,Bool.false_eq_true,HT7.out,HT6.out]
    exact HN7.out
   ·simp only [fstT,lstT,if_true,if_false,Bool.false_eq_true,HT7.out,HT6.out]
    exact HN6.out
 ·skip
  (try simp only [zA,zB,zC])
  go_simp
  have hb2:=bl_al (Below.refl w1.heap.size w1) (.cells #[.int .u8 0,.int .i64 0,.string ⟨#[]⟩,.slice none 0 0] 29)
  refine hK.out _ _ ⟨HSK.out _ hb2.drew,trivial⟩ ?_
  clear hK K
  (try simp only [Act.put,zP])
  refine wpG_one (i:=12) (by kernel_rfl) rfl (fun K hK=>?_)
  (try simp only [zA,zB,zC])
  go_simp
  have hb3:Below w1.heap.size w1 ((w1.alloc (.cells #[.int .u8 0,.int .i64 0,.string ⟨#[]⟩,.slice none 0 0] 29)).alloc (.cells #[.int .u8 0,.int .i64 0,.string ⟨#[]⟩,.slice none 0 0] 29)):=bl_al hb2 (.cells #[.int .u8 0,.int .i64 0,.string ⟨#[]⟩,.slice none 0 0] 29)
  have hz6:=blk_al (heap_alloc_new w1 (.cells #[.int .u8 0,.int .i64 0,.string ⟨#[]⟩,.slice none 0 0] 29)) (.cells #[.int .u8 0,.int .i64 0,.string ⟨#[]⟩,.slice none 0 0] 29)
  have hz7:=heap_alloc_new (w1.alloc (.cells #[.int .u8 0,.int .i64 0,.string ⟨#[]⟩,.slice none 0 0] 29)) (.cells #[.int .u8 0,.int .i64 0,.string ⟨#[]⟩,.slice none 0 0] 29)
  rw [World.size_alloc] at hz7
  refine hK.out _ _ ⟨HSK.out _ hb3.drew,trivial⟩ ?_
  clear hK K
  (try simp only [Act.put,zP])
  obtain ⟨w3,hw3⟩:∃ x,(w1.alloc (.cells #[.int .u8 0,.int .i64 0,.string ⟨#[]⟩,.slice none 0 0] 29)).alloc (.cells #[.int .u8 0,.int .i64 0,.string ⟨#[]⟩,.slice none 0 0] 29)=x:=⟨_,rfl⟩
  rw [hw3] at hb3 hz6 hz7 ⊢
  clear hw3 hb2
  have HB3:=zh hb3
  have c0:w3.cell? ⟨(w1.heap.size+1),0,none⟩=some (.int .u8 0):=zc hz7 rfl
  have c1:w3.cell? ⟨(w1.heap.size+1),1,none⟩=some (.int .i64 0):=zc hz7 rfl
  have c2:w3.cell? ⟨(w1.heap.size+1),2,none⟩=some (.string ⟨#[]⟩):=zc hz7 rfl
  have c3:w3.cell? ⟨(w1.heap.size+1),3,none⟩=some (.slice none 0 0):=zc hz7 rfl
  have cf:∀ o,w3.frozen? ⟨(w1.heap.size+1),o,none⟩=false:=fun _=>zf hz7
  refine wpG_one (i:=14) (by kernel_rfl) rfl (fun K hK=>?_)
  (try simp only [zA,zB,zC])
  go_simp
  obtain ⟨hh,hch⟩:=set4 (u0:=(.int .u8 t6.k)) (u1:=(.int .i64 t6.n)) (u2:=(.string t6.s)) (u3:=(.slice A6 t6.ks.length c6)) hz7
  obtain ⟨w4,hwn⟩:∃ x,(((w3.setCell ⟨(w1.heap.size+1),0,none⟩ (.int .u8 t6.k)).setCell ⟨(w1.heap.size+1),1,none⟩ (.int .i64 t6.n)).setCell ⟨(w1.heap.size+1),2,none⟩ (.string t6.s)).setCell ⟨(w1.heap.size+1),3,none⟩ (.slice A6 t6.ks.length c6)=x:=⟨_,rfl⟩
  rw [hwn] at hh hch ⊢
  have hb4:Below w1.heap.size w1 w4:=HB3.out.trans (hch.below HB3.out.size fun b e=>by omega)
  refine hK.out _ _ ⟨HSK.out _ hb4.drew,trivial⟩ ?_
  clear hK K c0 c1 c2 c3 cf hwn
  (try simp only [Act.put,zP])
  have HB4:=zh hb4
  have hz7':=hch.keep hz6 (by omega)
  have c0:w4.cell? ⟨w1.heap.size,0,none⟩=some (.int .u8 0):=zc hz7' rfl
  have c1:w4.cell? ⟨w1.heap.size,1,none⟩=some (.int .i64 0):=zc hz7' rfl
  have c2:w4.cell? ⟨w1.heap.size,2,none⟩=some (.string ⟨#[]⟩):=zc hz7' rfl
  have c3:w4.cell? ⟨w1.heap.size,3,none⟩=some (.slice none 0 0):=zc hz7' rfl
  have cf:∀ o,w4.frozen? ⟨w1.heap.size,o,none⟩=false:=fun _=>zf hz7'
  refine wpG_past (i:=15) (by kernel_rfl) rfl (by kernel_rfl) (fun K hK=>?_)
  (try simp only [zA,zB,zC])
  go_simp
  obtain ⟨hh2,hch2⟩:=set4 (u0:=(.int .u8 t7.k)) (u1:=(.int .i64 t7.n)) (u2:=(.string t7.s)) (u3:=(.slice A7 t7.ks.length c7)) hz7'
  obtain ⟨w5,hwn⟩:∃ x,(((w4.setCell ⟨w1.heap.size,0,none⟩ (.int .u8 t7.k)).setCell ⟨w1.heap.size,1,none⟩ (.int .i64 t7.n)).setCell ⟨w1.heap.size,2,none⟩ (.string t7.s)).setCell ⟨w1.heap.size,3,none⟩ (.slice A7 t7.ks.length c7)=x:=⟨_,rfl⟩
  rw [hwn] at hh2 hch2 ⊢
  have hb5:Below w1.heap.size w1 w5:=HB4.out.trans (hch2.below HB4.out.size fun b e=>by omega)
  refine hK.out _ _ (HSK.out _ hb5.drew) ?_
  clear hK K c0 c1 c2 c3 cf hwn
  (try simp only [Act.put,zP])
  have HH6:=zh (hch2.keep hh (by omega))
  have HH7:=zh hh2
  have HB5:=zh (show Below w1.heap.size w1 w5 from hb5)
  clear hb3 hz6 hz7 hz7' hh hh2 hch hch2 hb4 hb5 HB4 HB3 HSK
  refine wpG_done (by kernel_rfl) ?_
  refine NoPanic.normal ?_
  have HZ4:=zh (blk_bl HK4.out HB5.out)
  have HZ5:=zh (blk_bl HK5.out HB5.out)
  cases back
  ·go_upto_region 4 with fail
   have hS5:(fun w':World=>(w'.cell? ⟨(w1.heap.size+1),0,none⟩=some (.int .u8 t6.k)/\w'.cell? ⟨(w1.heap.size+1),1,none⟩=some (.int .i64 t6.n)/\w'.cell? ⟨(w1.heap.size+1),2,none⟩=some (.string t6.s)/\w'.cell? ⟨(w1.heap.size+1),3,none⟩=some (.slice A6 t6.ks.length c6))/\(w'.cell? ⟨w1.heap.size,0,none⟩=some (.int .u8 t7.k)/\w'.cell? ⟨w1.heap.size,1,none⟩=some (.int .i64 t7.n)/\w'.cell? ⟨w1.heap.size,2,none⟩=some (.string t7.s)/\w'.cell? ⟨w1.heap.size,3,none⟩=some (.slice A7 t7.ks.length c7))) w5.drew:=⟨⟨zc HH6.out rfl,zc HH6.out rfl,zc HH6.out rfl,zc HH6.out rfl⟩,⟨zc HH7.out rfl,zc HH7.out rfl,zc HH7.out rfl,zc HH7.out rfl⟩⟩
   refine wp_region_noPanic ?_
   refine wp_region_G (fun w':World=>(w'.cell? ⟨(w1.heap.size+1),0,none⟩=some (.int .u8 t6.k)/\w'.cell? ⟨(w1.heap.size+1),1,none⟩=some (.int .i64 t6.n)/\w'.cell? ⟨(w1.heap.size+1),2,none⟩=some (.string t6.s)/\w'.cell? ⟨(w1.heap.size+1),3,none⟩=some (.slice A6 t6.ks.length c6))/\(w'.cell? ⟨w1.heap.size,0,none⟩=some (.int .u8 t7.k)/\w'.cell? ⟨w1.heap.size,1,none⟩=some (.int .i64 t7.n)/\w'.cell? ⟨w1.heap.size,2,none⟩=some (.string t7.s)/\w'.cell? ⟨w1.heap.size,3,none⟩=some (.slice A7 t7.ks.length c7))) (fun _:World=>True) 3 (by kernel_rfl) ?_
   refine wpG_take1 (i:=0) (v:=?_) rfl (by kernel_rfl) (by kernel_rfl) (by kernel_rfl) (by decide) (fun _ _ _ h=>h) (Or.inl ⟨by rfl,?_⟩) ⟨hS5,trivial⟩ ?_
   rotate_left 1
   ·(intro w hSw; (try dsimp only at hSw); (try simp only [zA,zC]); go_simp; (try with_reducible rfl))
   (try simp only [Act.put,zP])
   refine wpG_take1 (i:=1) (v:=?_) rfl (by kernel_rfl) (by kernel_rfl) (by kernel_rfl) (by decide) (fun _ _ _ h=>h) (Or.inl ⟨by rfl,?_⟩) ⟨hS5,trivial⟩ ?_
   rotate_left 1
   ·(intro w hSw; (try dsimp only at hSw); (try simp only [zA,zB,zC]); go_simp; (try with_reducible rfl))
   (try simp only [Act.put,zP])
   have hsz:w.heap.size+1+1<w1.heap.size:=(Array.getElem?_eq_some_iff.mp HK5.out).1
   have HBW:=zh (HBL.out.trans (HB5.out.mono (by omega)))
   have HC:=zh (show ∀ W':World,W'.heap[(w1.heap.size+1)]?=w5.heap[(w1.heap.size+1)]?->W'.heap[w1.heap.size]?=w5.heap[w1.heap.size]?->(fun w':World=>((w'.cell? ⟨(w1.heap.size+1),0,none⟩=some (.int .u8 t6.k)/\w'.cell? ⟨(w1.heap.size+1),1,none⟩=some (.int .i64 t6.n)/\w'.cell? ⟨(w1.heap.size+1),2,none⟩=some (.string t6.s)/\w'.cell? ⟨(w1.heap.size+1),3,none⟩=some (.slice A6 t6.ks.length c6))/\(w'.cell? ⟨w1.heap.size,0,none⟩=some (.int .u8 t7.k)/\w'.cell? ⟨w1.heap.size,1,none⟩=some (.int .i64 t7.n)/\w'.cell? ⟨w1.heap.size,2,none⟩=some (.string t7.s)/\w'.cell? ⟨w1.heap.size,3,none⟩=some (.slice A7 t7.ks.length c7)))) W'.drew from fun W' h6 h7=>⟨⟨zc (h6.trans HH6.out) rfl,zc (h6.trans HH6.out) rfl,zc (h6.trans HH6.out) rfl,zc (h6.trans HH6.out) rfl⟩,⟨zc (h7.trans HH7.out) rfl,zc (h7.trans HH7.out) rfl,zc (h7.trans HH7.out) rfl,zc (h7.trans HH7.out) rfl⟩⟩)
   have HZQ:=zh HZ4.out
   have HZ4K:=HZ4.out
   have HZ5K:=HZ5.out
   have c0:w5.cell? ⟨(w.heap.size+1),0,none⟩=some (.int .u8 0):=zc HZ4K rfl
   have c1:w5.cell? ⟨(w.heap.size+1),1,none⟩=some (.int .i64 0):=zc HZ4K rfl
   have c2:w5.cell? ⟨(w.heap.size+1),2,none⟩=some (.string ⟨#[]⟩):=zc HZ4K rfl
   have c3:w5.cell? ⟨(w.heap.size+1),3,none⟩=some (.slice none 0 0):=zc HZ4K rfl
   have cf:∀ o,w5.frozen? ⟨(w.heap.size+1),o,none⟩=false:=fun _=>zf HZ4K
   refine wpG_one (i:=2) (by kernel_rfl) rfl (fun K hK=>?_)
   (try simp only [zA,zB,zC])
   go_simp
   obtain ⟨hh,hch⟩:=set4 (u0:=(.int .u8 t6.k)) (u1:=(.int .i64 t6.n)) (u2:=(.string t6.s)) (u3:=(.slice A6 t6.ks.length c6)) HZ4K
   obtain ⟨w6,hwn⟩:∃ x,(((w5.setCell ⟨(w.heap.size+1),0,none⟩ (.int .u8 t6.k)).setCell ⟨(w.heap.size+1),1,none⟩ (.int .i64 t6.n)).setCell ⟨(w.heap.size+1),2,none⟩ (.string t6.s)).setCell ⟨(w.heap.size+1),3,none⟩ (.slice A6 t6.ks.length c6)=x:=⟨_,rfl⟩
   rw [hwn] at hh hch ⊢
   clear c0 c1 c2 c3 cf hwn
   have HBW6:=zh (HBW.out.trans (hch.below HBW.out.size fun b e=>by omega))
   have k6:=hch.block ((w1.heap.size+1)) (Array.getElem?_eq_some_iff.mp HH6.out).1 (by omega)
   have k7:=hch.block (w1.heap.size) (Array.getElem?_eq_some_iff.mp HH7.out).1 (by omega)
   have HZ5L:=hch.keep HZ5K (by omega)
   refine hK.out _ _ ⟨HC.out _ k6 k7,trivial⟩ ?_
   have HF4:=zh hh
   have K6:=zh k6
   have K7:=zh k7
   have HCH:=zh hch
   clear hK K k6 k7 hh hch
   (try simp only [Act.put,zP])
   have c0:w6.cell? ⟨(w.heap.size+1+1),0,none⟩=some (.int .u8 0):=zc HZ5L rfl
   have c1:w6.cell? ⟨(w.heap.size+1+1),1,none⟩=some (.int .i64 0):=zc HZ5L rfl
   have c2:w6.cell? ⟨(w.heap.size+1+1),2,none⟩=some (.string ⟨#[]⟩):=zc HZ5L rfl
   have c3:w6.cell? ⟨(w.heap.size+1+1),3,none⟩=some (.slice none 0 0):=zc HZ5L rfl
   have cf:∀ o,w6.frozen? ⟨(w.heap.size+1+1),o,none⟩=false:=fun _=>zf HZ5L
   refine wpG_past (i:=3) (by kernel_rfl) rfl (by kernel_rfl) (fun K hK=>?_)
   (try simp only [zA,zB,zC])
   go_simp
   obtain ⟨hh,hch⟩:=set4 (u0:=(.int .u8 t7.k)) (u1:=(.int .i64 t7.n)) (u2:=(.string t7.s)) (u3:=(.slice A7 t7.ks.length c7)) HZ5L
   obtain ⟨w7,hwn⟩:∃ x,(((w6.setCell ⟨(w.heap.size+1+1),0,none⟩ (.int .u8 t7.k)).setCell ⟨(w.heap.size+1+1),1,none⟩ (.int .i64 t7.n)).setCell ⟨(w.heap.size+1+1),2,none⟩ (.string t7.s)).setCell ⟨(w.heap.size+1+1),3,none⟩ (.slice A7 t7.ks.length c7)=x:=⟨_,rfl⟩
   rw [hwn] at hh hch ⊢
   clear c0 c1 c2 c3 cf hwn
   have HBW7:=zh (HBW6.out.trans (hch.below HBW6.out.size fun b e=>by omega))
   have k6:=hch.block ((w1.heap.size+1)) (by have:=(Array.getElem?_eq_some_iff.mp HH6.out).1; have:=HCH.out.size; omega) (by omega)
   have k7:=hch.block (w1.heap.size) (by have:=(Array.getElem?_eq_some_iff.mp HH7.out).1; have:=HCH.out.size; omega) (by omega)
   have HF4':=zh (hch.keep HF4.out (by omega))
   refine hK.out _ _ (HC.out _ (k6.trans K6.out) (k7.trans K7.out)) ?_
   have HF5:=zh hh
   clear hK K k6 k7 hh hch
   (try simp only [Act.put,zP])
   refine wpG_done (by kernel_rfl) ?_
   refine NoPanic.normal ?_
   have d4:=HF4'.out
   have d5:=HF5.out
   have g0:w7.drew.cell? ⟨w.heap.size+1,0,none⟩=some (.int .u8 t6.k):=zc d4 rfl
   have g1:w7.drew.cell? ⟨w.heap.size+1,1,none⟩=some (.int .i64 t6.n):=zc d4 rfl
   have g2:w7.drew.cell? ⟨w.heap.size+1,2,none⟩=some (.string t6.s):=zc d4 rfl
   have g3:w7.drew.cell? ⟨w.heap.size+1,3,none⟩=some (.slice A6 t6.ks.length c6):=zc d4 rfl
   have g4:w7.drew.cell? ⟨w.heap.size+1+1,0,none⟩=some (.int .u8 t7.k):=zc d5 rfl
   have g5:w7.drew.cell? ⟨w.heap.size+1+1,1,none⟩=some (.int .i64 t7.n):=zc d5 rfl
   have g6:w7.drew.cell? ⟨w.heap.size+1+1,2,none⟩=some (.string t7.s):=zc d5 rfl
   have g7:w7.drew.cell? ⟨w.heap.size+1+1,3,none⟩=some (.slice A7 t7.ks.length c7):=zc d5 rfl
   go_wp2_with fail
   refine bodyPost_ret (v:=.tuple #[.agg #[.int .u8 t6.k,.int .i64 t6.n,.string t6.s,.slice A6 t6.ks.length c6],.agg #[.int .u8 t7.k,.int .i64 t7.n,.string t7.s,.slice A7 t7.ks.length c7]]) (by simp [results,Tryz.results208,go_sem,g0,g1,g2,g3,g4,g5,g6,g7]) rfl ⟨_,_,rfl,?_,?_,HBW7.out.drew.drew⟩
   ·simp only [fstT,lstT,if_true,if_false,Bool.false_eq_true,HT6.out,HT7.out]
    exact HN6.out
   ·simp only [fstT,lstT,if_true,if_false,Bool.false_eq_true,HT6.out,HT7.out]
    exact HN7.out
  ·go_upto_region 3 with fail
   have hS5:(fun w':World=>(w'.cell? ⟨(w1.heap.size+1),0,none⟩=some (.int .u8 t6.k)/\w'.cell? ⟨(w1.heap.size+1),1,none⟩=some (.int .i64 t6.n)/\w'.cell? ⟨(w1.heap.size+1),2,none⟩=some (.string t6.s)/\w'.cell? ⟨(w1.heap.size+1),3,none⟩=some (.slice A6 t6.ks.length c6))/\(w'.cell? ⟨w1.heap.size,0,none⟩=some (.int .u8 t7.k)/\w'.cell? ⟨w1.heap.size,1,none⟩=some (.int .i64 t7.n)/\w'.cell? ⟨w1.heap.size,2,none⟩=some (.string t7.s)/\w'.cell? ⟨w1.heap.size,3,none⟩=some (.slice A7 t7.ks.length c7))) w5.drew:=⟨⟨zc HH6.out rfl,zc HH6.out rfl,zc HH6.out rfl,zc HH6.out rfl⟩,⟨zc HH7.out rfl,zc HH7.out rfl,zc HH7.out rfl,zc HH7.out rfl⟩⟩
   refine wp_region_noPanic ?_
   refine wp_region_G (fun w':World=>(w'.cell? ⟨(w1.heap.size+1),0,none⟩=some (.int .u8 t6.k)/\w'.cell? ⟨(w1.heap.size+1),1,none⟩=some (.int .i64 t6.n)/\w'.cell? ⟨(w1.heap.size+1),2,none⟩=some (.string t6.s)/\w'.cell? ⟨(w1.heap.size+1),3,none⟩=some (.slice A6 t6.ks.length c6))/\(w'.cell? ⟨w1.heap.size,0,none⟩=some (.int .u8 t7.k)/\w'.cell? ⟨w1.heap.size,1,none⟩=some (.int .i64 t7.n)/\w'.cell? ⟨w1.heap.size,2,none⟩=some (.string t7.s)/\w'.cell? ⟨w1.heap.size,3,none⟩=some (.slice A7 t7.ks.length c7))) (fun _:World=>True) 3 (by kernel_rfl) ?_
   refine wpG_take1 (i:=0) (v:=?_) rfl (by kernel_rfl) (by kernel_rfl) (by kernel_rfl) (by decide) (fun _ _ _ h=>h) (Or.inl ⟨by rfl,?_⟩) ⟨hS5,trivial⟩ ?_
   rotate_left 1
   ·(intro w hSw; (try dsimp only at hSw); (try simp only [zA,zC]); go_simp; (try with_reducible rfl))
   (try simp only [Act.put,zP])
   refine wpG_take1 (i:=1) (v:=?_) rfl (by kernel_rfl) (by kernel_rfl) (by kernel_rfl) (by decide) (fun _ _ _ h=>h) (Or.inl ⟨by rfl,?_⟩) ⟨hS5,trivial⟩ ?_
   rotate_left 1
   ·(intro w hSw; (try dsimp only at hSw); (try simp only [zA,zB,zC]); go_simp; (try with_reducible rfl))
   (try simp only [Act.put,zP])
   have hsz:w.heap.size+1+1<w1.heap.size:=(Array.getElem?_eq_some_iff.mp HK5.out).1
   have HBW:=zh (HBL.out.trans (HB5.out.mono (by omega)))
   have HC:=zh (show ∀ W':World,W'.heap[(w1.heap.size+1)]?=w5.heap[(w1.heap.size+1)]?->W'.heap[w1.heap.size]?=w5.heap[w1.heap.size]?->(fun w':World=>((w'.cell? ⟨(w1.heap.size+1),0,none⟩=some (.int .u8 t6.k)/\w'.cell? ⟨(w1.heap.size+1),1,none⟩=some (.int .i64 t6.n)/\w'.cell? ⟨(w1.heap.size+1),2,none⟩=some (.string t6.s)/\w'.cell? ⟨(w1.heap.size+1),3,none⟩=some (.slice A6 t6.ks.length c6))/\(w'.cell? ⟨w1.heap.size,0,none⟩=some (.int .u8 t7.k)/\w'.cell? ⟨w1.heap.size,1,none⟩=some (.int .i64 t7.n)/\w'.cell? ⟨w1.heap.size,2,none⟩=some (.string t7.s)/\w'.cell? ⟨w1.heap.size,3,none⟩=some (.slice A7 t7.ks.length c7)))) W'.drew from fun W' h6 h7=>⟨⟨zc (h6.trans HH6.out) rfl,zc (h6.trans HH6.out) rfl,zc (h6.trans HH6.out) rfl,zc (h6.trans HH6.out) rfl⟩,⟨zc (h7.trans HH7.out) rfl,zc (h7.trans HH7.out) rfl,zc (h7.trans HH7.out) rfl,zc (h7.trans HH7.out) rfl⟩⟩)
   have HZQ:=zh HZ4.out
   have HZ4K:=HZ4.out
   have HZ5K:=HZ5.out
   have c0:w5.cell? ⟨(w.heap.size+1),0,none⟩=some (.int .u8 0):=zc HZ4K rfl
   have c1:w5.cell? ⟨(w.heap.size+1),1,none⟩=some (.int .i64 0):=zc HZ4K rfl
   have c2:w5.cell? ⟨(w.heap.size+1),2,none⟩=some (.string ⟨#[]⟩):=zc HZ4K rfl
   have c3:w5.cell? ⟨(w.heap.size+1),3,none⟩=some (.slice none 0 0):=zc HZ4K rfl
   have cf:∀ o,w5.frozen? ⟨(w.heap.size+1),o,none⟩=false:=fun _=>zf HZ4K
   refine wpG_one (i:=2) (by kernel_rfl) rfl (fun K hK=>?_)
   (try simp only [zA,zB,zC])
   go_simp
   obtain ⟨hh,hch⟩:=set4 (u0:=(.int .u8 t7.k)) (u1:=(.int .i64 t7.n)) (u2:=(.string t7.s)) (u3:=(.slice A7 t7.ks.length c7)) HZ4K
   obtain ⟨w6,hwn⟩:∃ x,(((w5.setCell ⟨(w.heap.size+1),0,none⟩ (.int .u8 t7.k)).setCell ⟨(w.heap.size+1),1,none⟩ (.int .i64 t7.n)).setCell ⟨(w.heap.size+1),2,none⟩ (.string t7.s)).setCell ⟨(w.heap.size+1),3,none⟩ (.slice A7 t7.ks.length c7)=x:=⟨_,rfl⟩
   rw [hwn] at hh hch ⊢
   clear c0 c1 c2 c3 cf hwn
   have HBW6:=zh (HBW.out.trans (hch.below HBW.out.size fun b e=>by omega))
   have k6:=hch.block ((w1.heap.size+1)) (Array.getElem?_eq_some_iff.mp HH6.out).1 (by omega)
   have k7:=hch.block (w1.heap.size) (Array.getElem?_eq_some_iff.mp HH7.out).1 (by omega)
   have HZ5L:=hch.keep HZ5K (by omega)
   refine hK.out _ _ ⟨HC.out _ k6 k7,trivial⟩ ?_
   have HF4:=zh hh
   have K6:=zh k6
   have K7:=zh k7
   have HCH:=zh hch
   clear hK K k6 k7 hh hch
   (try simp only [Act.put,zP])
   have c0:w6.cell? ⟨(w.heap.size+1+1),0,none⟩=some (.int .u8 0):=zc HZ5L rfl
   have c1:w6.cell? ⟨(w.heap.size+1+1),1,none⟩=some (.int .i64 0):=zc HZ5L rfl
   have c2:w6.cell? ⟨(w.heap.size+1+1),2,none⟩=some (.string ⟨#[]⟩):=zc HZ5L rfl
   have c3:w6.cell? ⟨(w.heap.size+1+1),3,none⟩=some (.slice none 0 0):=zc HZ5L rfl
   have cf:∀ o,w6.frozen? ⟨(w.heap.size+1+1),o,none⟩=false:=fun _=>zf HZ5L
   refine wpG_past (i:=3) (by kernel_rfl) rfl (by kernel_rfl) (fun K hK=>?_)
   (try simp only [zA,zB,zC])
   go_simp
   obtain ⟨hh,hch⟩:=set4 (u0:=(.int .u8 t6.k)) (u1:=(.int .i64 t6.n)) (u2:=(.string t6.s)) (u3:=(.slice A6 t6.ks.length c6)) HZ5L
   obtain ⟨w7,hwn⟩:∃ x,(((w6.setCell ⟨(w.heap.size+1+1),0,none⟩ (.int .u8 t6.k)).setCell ⟨(w.heap.size+1+1),1,none⟩ (.int .i64 t6.n)).setCell ⟨(w.heap.size+1+1),2,none⟩ (.string t6.s)).setCell ⟨(w.heap.size+1+1),3,none⟩ (.slice A6 t6.ks.length c6)=x:=⟨_,rfl⟩
   rw [hwn] at hh hch ⊢
   clear c0 c1 c2 c3 cf hwn
   have HBW7:=zh (HBW6.out.trans (hch.below HBW6.out.size fun b e=>by omega))
   have k6:=hch.block ((w1.heap.size+1)) (by have:=(Array.getElem?_eq_some_iff.mp HH6.out).1; have:=HCH.out.size; omega) (by omega)
   have k7:=hch.block (w1.heap.size) (by have:=(Array.getElem?_eq_some_iff.mp HH7.out).1; have:=HCH.out.size; omega) (by omega)
   have HF4':=zh (hch.keep HF4.out (by omega))
   refine hK.out _ _ (HC.out _ (k6.trans K6.out) (k7.trans K7.out)) ?_
   have HF5:=zh hh
   clear hK K k6 k7 hh hch
   (try simp only [Act.put,zP])
   refine wpG_done (by kernel_rfl) ?_
   refine NoPanic.normal ?_
   have d4:=HF4'.out
   have d5:=HF5.out
   have g0:w7.drew.cell? ⟨w.heap.size+1,0,none⟩=some (.int .u8 t7.k):=zc d4 rfl
   have g1:w7.drew.cell? ⟨w.heap.size+1,1,none⟩=some (.int .i64 t7.n):=zc d4 rfl
   have g2:w7.drew.cell? ⟨w.heap.size+1,2,none⟩=some (.string t7.s):=zc d4 rfl
   have g3:w7.drew.cell? ⟨w.heap.size+1,3,none⟩=some (.slice A7 t7.ks.length c7):=zc d4 rfl
   have g4:w7.drew.cell? ⟨w.heap.size+1+1,0,none⟩=some (.int .u8 t6.k):=zc d5 rfl
   have g5:w7.drew.cell? ⟨w.heap.size+1+1,1,none⟩=some (.int .i64 t6.n):=zc d5 rfl
   have g6:w7.drew.cell? ⟨w.heap.size+1+1,2,none⟩=some (.string t6.s):=zc d5 rfl
   have g7:w7.drew.cell? ⟨w.heap.size+1+1,3,none⟩=some (.slice A6 t6.ks.length c6):=zc d5 rfl
   go_wp2_with fail
   refine bodyPost_ret (v:=.tuple #[.agg #[.int .u8 t7.k,.int .i64 t7.n,.string t7.s,.slice A7 t7.ks.length c7],.agg #[.int .u8 t6.k,.int .i64 t6.n,.string t6.s,.slice A6 t6.ks.length c6]]) (by simp [results,Tryz.results208,go_sem,g0,g1,g2,g3,g4,g5,g6,g7]) rfl ⟨_,_,rfl,?_,?_,HBW7.out.drew.drew⟩
   ·simp only [fstT,lstT,if_true,if_false,Bool.false_eq_true,HT7.out,HT6.out]
    exact HN7.out
   ·simp only [fstT,lstT,if_true,if_false,Bool.false_eq_true,HT7.out,HT6.out]
    exact HN6.out
def IStC (G:List PR->T->Prop) (g:Nat):Prop:=∀ C:RC,C.Ok->∀ (W:World) (r:RS),RI C W r->∀ (t:T) (v:Value) (back:Bool),NV C.w Any t v->G C.p.prs t->execO C.p.prs C.F g back t r ≠ .gas ->
 Calls Tryz.prog 157 #[.pointer (some ⟨C.rb,0,none⟩),v,.bool back] W (RunP C W (execO C.p.prs C.F g back t r))
theorem iblock_any {G:List PR->T->Prop} {g:Nat} (hS:IStC G g) {C:RC} (hC:C.Ok) {W:World} {r:RS} (h:RI C W r) (t:T) (v:Value) (back:Bool) (hv:NV C.w Any t v) (hG:∀ u∈t.ks,G C.p.prs u) (hgas:runO C.p.prs C.F g back t r ≠ .gas) :
  Calls Tryz.prog 118 #[.pointer (some ⟨C.rb,0,none⟩),v,.bool back] W (RunP C W (runO C.p.prs C.F g back t r)):=by
 obtain ⟨A,c,rfl,-,hlk,hlc,hrow⟩:=hv.open_
 have HROW:=zh hrow
 have HS:=zh hS
 have HG:=zh hG
 have hb0:=bl_al (Below.refl W.heap.size W) (.cells #[.int .u8 t.k,.int .i64 t.n,.string t.s,.slice A t.ks.length c] 29)
 obtain ⟨hC1,h1⟩:=h.plus hC hb0
 have hz1:(W.alloc (.cells #[.int .u8 t.k,.int .i64 t.n,.string t.s,.slice A t.ks.length c] 29)).heap.size=W.heap.size+1:=by simp
 have hbx:=box4 (heap_alloc_new W (.cells #[.int .u8 t.k,.int .i64 t.n,.string t.s,.slice A t.ks.length c] 29))
 have HK0:=zh (Kpt.of_below (n0:=C.n0) (kb:=C.kb) hb0)
 obtain ⟨W1,hW1⟩:∃ x,W.alloc (.cells #[.int .u8 t.k,.int .i64 t.n,.string t.s,.slice A t.ks.length c] 29)=x:=⟨_,rfl⟩
 rw [hW1] at hC1 h1 hz1 hbx HK0
 obtain ⟨hi,hhi⟩:∃ x,W1.heap.size=x:=⟨_,rfl⟩
 rw [hhi] at hC1 h1 hz1
 have HC1:=zh hC1
 have H1:=zh h1
 have HBX:=zh hbx
 have hz2:W.heap.size<hi:=by omega
 have hwn:IntKind.i64.wrap ((t.ks.length:Int)-1)=(t.ks.length:Int)-1:=IntWalk.i64_in _ (by unfold LK at hlk; omega)
 have hwq:∀ j:Nat,j<t.ks.length->IntKind.i64.wrap ((t.ks.length:Int)-1-(j:Int))=((t.ks.length-1-j:Nat):Int):=fun j hj=>by rw [IntWalk.i64_in _ (by unfold LK at hlk; omega)]; omega
 obtain ⟨o,ho⟩:∃ o,runO C.p.prs C.F g back t r=o:=⟨_,rfl⟩
 have HO:=zh (show bodyO (execO C.p.prs C.F g back) ((blkL back t).drop 0) r=o by rw [List.drop_zero]; exact ho)
 have HGAS:=zh (show o ≠ .gas from ho▸hgas)
 have hLL:(blkL back t).length=t.ks.length:=by unfold blkL; split<;>simp
 rw [ho]
 have HLL:=zh hLL
 have hlk2:t.ks.length<=17592186044416:=by unfold LK at hlk; omega
 clear hLL hlk
 clear hv hC1 h1 hbx hb0 h hz1 hS hG hrow ho hgas
 obtain ⟨x0,x1,x2,x3⟩:=HBX.out
 go_enter Tryz.func118,Tryz.ntmps118
 go_wp2_with fail
 clear x0 x1 x2 x3 hW1
 go_loopw [15] (fun i wr=>∃ (j:Nat) (r1:RS),j<=t.ks.length/\i=.int .i64 j/\Hid (RI (C.plus W.heap.size hi) wr r1)/\Hid (Kpt C.n0 (C.plus W.heap.size hi).kb W1 wr)/\Hid (bodyO (execO C.p.prs C.F g back) ((blkL back t).drop j) r1=o)) (fun i _=>t.ks.length-(intOf i).toNat)
 case atStart=>exact ⟨0,r,Nat.zero_le _,rfl,H1,zh (Kpt.refl _ _ _),HO⟩
 case round =>
  obtain ⟨j,r1,hj,rfl,HR,HK,HB⟩:=hrel
  by_cases hlt:j<t.ks.length
  ·cases back
   ·skip
    have hj1:(j:Int)<(t.ks.length:Int):=by omega
    have hj0:(0:Int)<=(j:Int):=by omega
    have hqs:j<t.ks.length:=by omega
    have hqs1:(j:Int)<(t.ks.length:Int):=by omega
    have hqs0:(0:Int)<=(j:Int):=by omega
    have hblr:=HR.out.below
    obtain ⟨a,u,A1,c1,rfl,-,hu,⟨p0,p1,p2,p3⟩,hnu⟩:=HROW.out.nd hqs
    have hgu:=HG.out u (by rw [<-hu.out]; exact List.getElem_mem _)
    have hbs:bodyO (execO C.p.prs C.F g false) ((blkL false t).drop j) r1=(execO C.p.prs C.F g false u r1).bind (bodyO (execO C.p.prs C.F g false) ((blkL false t).drop (j+1))):=by
     rw [show (blkL false t).drop j=u::(blkL false t).drop (j+1) by rw [List.drop_eq_getElem_cons (by rw [HLL.out]; exact hlt),<-hu.out]; congr 1; all_goals simp [blkL,hlt]]
     rfl
    rw [HB.out] at hbs
    have HBS:=zh hbs
    have HSU:=zh (HS.out (C.plus W.heap.size hi) HC1.out wr r1 HR.out u _ false hnu hgu (fun e=>HGAS.out (by rw [hbs,show execO C.p.prs C.F g false u r1=.gas from e]; rfl)))
    have q0:=zb hblr p0
    have q1:=zb hblr p1
    have q2:=zb hblr p2
    have q3:=zb hblr p3
    have x3:wr.cell? ⟨W.heap.size,3,none⟩=some (.slice (some a) t.ks.length c):=HK.out.cell (.inr (.inr ⟨Nat.le_refl _,hz2⟩)) HBX.out.2.2.2
    clear hbs hblr hnu hgu p0 p1 p2 p3 hu
    go_wp2_with fail
    refine HSU.out.mono ?_
    rintro e w2 ⟨hk2,hb2,ho2⟩
    have ho2':match execO C.p.prs C.F g false u r1 with
     | .gas=>True
     | .err x=>e=failE x
     | .ok r=>(∃ u,e=.returned u)/\RI (C.plus W.heap.size hi) w2 r:=ho2
    have HK2:=zh (HK.out.trans hk2)
    clear ho2 hk2 HSU q0 q1 q2 q3 x3
    cases hx:execO C.p.prs C.F g false u r1 with
    | gas=>exact absurd (by rw [HBS.out,hx]; rfl) HGAS.out
    | err x =>
     rw [hx] at ho2'
     subst ho2'
     have ho3:o=.err x:=by rw [HBS.out,hx]; rfl
     dsimp only
     refine ⟨rfl,HK0.out.trans (Kpt.less HK2.out),hb2,?_⟩
     rw [ho3]
    | ok r2 =>
     rw [hx] at ho2'
     obtain ⟨⟨u2,rfl⟩,hr2⟩:=ho2'
     have HR2:=zh hr2
     have HB2:=zh (show bodyO (execO C.p.prs C.F g false) ((blkL false t).drop (j+1)) r2=o by rw [HBS.out,hx]; rfl)
     clear hr2 hx
     go_wp2_with fail
     go_roundw
     case rel=>exact ⟨j+1,r2,by omega,by go_num,HR2,HK2,HB2⟩
     case measure=>simp [intOf]; omega
   ·skip
    have hwq1:=hwq j hlt
    obtain ⟨q,hq⟩:∃ q,t.ks.length-1-j=q:=⟨_,rfl⟩
    rw [hq] at hwq1
    have hj1:(j:Int)<(t.ks.length:Int):=by omega
    have hj0:(0:Int)<=(j:Int):=by omega
    have hqs:q<t.ks.length:=by omega
    have hqs1:(q:Int)<(t.ks.length:Int):=by omega
    have hqs0:(0:Int)<=(q:Int):=by omega
    have hblr:=HR.out.below
    obtain ⟨a,u,A1,c1,rfl,-,hu,⟨p0,p1,p2,p3⟩,hnu⟩:=HROW.out.nd hqs
    have hgu:=HG.out u (by rw [<-hu.out]; exact List.getElem_mem _)
    have hbs:bodyO (execO C.p.prs C.F g true) ((blkL true t).drop j) r1=(execO C.p.prs C.F g true u r1).bind (bodyO (execO C.p.prs C.F g true) ((blkL true t).drop (j+1))):=by
     rw [show (blkL true t).drop j=u::(blkL true t).drop (j+1) by rw [List.drop_eq_getElem_cons (by rw [HLL.out]; exact hlt),<-hu.out]; congr 1; all_goals simp [blkL,hq]]
     rfl
    rw [HB.out] at hbs
    have HBS:=zh hbs
    have HSU:=zh (HS.out (C.plus W.heap.size hi) HC1.out wr r1 HR.out u _ true hnu hgu (fun e=>HGAS.out (by rw [hbs,show execO C.p.prs C.F g true u r1=.gas from e]; rfl)))
    have q0:=zb hblr p0
    have q1:=zb hblr p1
    have q2:=zb hblr p2
    have q3:=zb hblr p3
    have x3:wr.cell? ⟨W.heap.size,3,none⟩=some (.slice (some a) t.ks.length c):=HK.out.cell (.inr (.inr ⟨Nat.le_refl _,hz2⟩)) HBX.out.2.2.2
    clear hbs hblr hnu hgu p0 p1 p2 p3 hu
    go_wp2_with fail
    refine HSU.out.mono ?_
    rintro e w2 ⟨hk2,hb2,ho2⟩
    have ho2':match execO C.p.prs C.F g true u r1 with
     | .gas=>True
     | .err x=>e=failE x
     | .ok r=>(∃ u,e=.returned u)/\RI (C.plus W.heap.size hi) w2 r:=ho2
    have HK2:=zh (HK.out.trans hk2)
    clear ho2 hk2 HSU q0 q1 q2 q3 x3
    cases hx:execO C.p.prs C.F g true u r1 with
    | gas=>exact absurd (by rw [HBS.out,hx]; rfl) HGAS.out
    | err x =>
     rw [hx] at ho2'
     subst ho2'
     have ho3:o=.err x:=by rw [HBS.out,hx]; rfl
     dsimp only
     refine ⟨rfl,HK0.out.trans (Kpt.less HK2.out),hb2,?_⟩
     rw [ho3]
    | ok r2 =>
     rw [hx] at ho2'
     obtain ⟨⟨u2,rfl⟩,hr2⟩:=ho2'
     have HR2:=zh hr2
     have HB2:=zh (show bodyO (execO C.p.prs C.F g true) ((blkL true t).drop (j+1)) r2=o by rw [HBS.out,hx]; rfl)
     clear hr2 hx
     go_wp2_with fail
     go_roundw
     case rel=>exact ⟨j+1,r2,by omega,by go_num,HR2,HK2,HB2⟩
     case measure=>simp [intOf]; omega
  ·have ho3:o=.ok r1:=by
    rw [<-HB.out,show (blkL back t).drop j=[] by rw [List.drop_eq_nil_iff,HLL.out]; omega]; rfl
   have hbr:=HR.out.below
   have hj1:¬ (j:Int)<(t.ks.length:Int):=by omega
   go_wp2_with fail
   go_end0
   refine ⟨HK0.out.trans (Kpt.less HK.out),hbr,?_⟩
   try rw [ho3]
   exact ⟨⟨_,rfl⟩,HR.out.less⟩
end Go.Proofs.YtckhofdinldhpaaGreat
