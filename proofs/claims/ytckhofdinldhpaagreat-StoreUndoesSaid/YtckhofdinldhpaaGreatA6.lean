/-
  Texts of the proof, put together without their remarks: Kg, Ip, Ig, Eqv, Ir, Ie, Is, Ic, Iu, Iw, Ix, Iy, Il, Iv, Id, It, Lim, Val, Scp, Ik, Im, Iz, ScA, ClW, ScC, Clone.
-/
import Derived.Test.YtckhofdinldhpaaGreatA5
import Derived.Recover
import Derived.ArgAppend
set_option linter.unusedSimpArgs false
set_option linter.unusedVariables false
set_option maxHeartbeats 8000000
set_option maxRecDepth 100000
namespace Go.Proofs.YtckhofdinldhpaaGreat
open Go Go.RowKit
theorem moveE_no (S:ST) (k:Int) (id i sid:Nat):(moveE S k id i sid).1≠0->(moveE S k id i sid).2=S:=by
 unfold moveE
 repeat' split
 all_goals first|(intro _; rfl)|(intro h; exact absurd rfl h)
theorem transE_no (S:ST) (k:Int) (id i:Nat):(transE S k id i).1≠0->(transE S k id i).2=S:=by
 unfold transE
 repeat' split
 all_goals first|(intro _; rfl)|(intro h; exact absurd rfl h)
theorem exec3_no (S:ST) (k:Int) (s qs:ByteArray) (r2:Int) (id i:Nat):(exec3 S k s qs r2 id i).1≠0->(exec3 S k s qs r2 id i).2=S:=by
 unfold exec3
 repeat' split
 all_goals first|exact moveE_no _ _ _ _ _|exact transE_no _ _ _ _|(intro _; rfl)|(intro h; exact absurd rfl h)
theorem exec2_no (S:ST) (k:Int) (s ps qs:ByteArray) (r1:Int) (r2:Int×Int):(exec2 S k s ps qs r1 r2).1≠0->(exec2 S k s ps qs r1 r2).2=S:=by
 unfold exec2
 repeat' split
 all_goals first|exact exec3_no _ _ _ _ _ _ _|(intro _; rfl)|(intro h; exact absurd rfl h)
theorem exec1_no (S:ST) (k:Int) (s:ByteArray) (p q:T) (r1 r2:Int×Int):(exec1 S k s p q r1 r2).1≠0->(exec1 S k s p q r1 r2).2=S:=by
 obtain ⟨a,b⟩:=r1
 unfold exec1
 dsimp only
 by_cases h:b≠0
 ·rw [if_pos h]; intro _; rfl
 ·rw [if_neg h]; exact exec2_no _ _ _ _ _ _ _
theorem execE_no (S:ST) (t:T):(execE S t).1≠0->(execE S t).2=S:=by
 obtain ⟨k,n,s,ks⟩:=t
 exact exec1_no _ _ _ _ _ _ _
theorem doE_no (S:ST) (t:T):(doE S t).1≠0->(doE S t).2=S:=by
 unfold doE
 repeat' split
 all_goals first|exact execE_no _ _|(intro _; rfl)
theorem undoE_no (S:ST) (t:T):(undoE S t).1≠0->(undoE S t).2=S:=by
 obtain ⟨k,n,s,ks⟩:=t
 exact doE_no _ _
def FrK (S S':ST):Prop:=S'.base=S.base/\S'.calls=S.calls/\S'.nc=S.nc
theorem moveE_fr (S:ST) (k:Int) (id i sid:Nat):FrK S (moveE S k id i sid).2:=by
 unfold moveE
 repeat' split
 all_goals exact ⟨rfl,rfl,rfl⟩
theorem transE_fr (S:ST) (k:Int) (id i:Nat):FrK S (transE S k id i).2:=by
 unfold transE
 repeat' split
 all_goals exact ⟨rfl,rfl,rfl⟩
theorem exec3_fr (S:ST) (k:Int) (s qs:ByteArray) (r2:Int) (id i:Nat):FrK S (exec3 S k s qs r2 id i).2:=by
 unfold exec3
 repeat' split
 all_goals first|exact moveE_fr _ _ _ _ _|exact transE_fr _ _ _ _|exact ⟨rfl,rfl,rfl⟩
theorem exec2_fr (S:ST) (k:Int) (s ps qs:ByteArray) (r1:Int) (r2:Int×Int):FrK S (exec2 S k s ps qs r1 r2).2:=by
 unfold exec2
 repeat' split
 all_goals first|exact exec3_fr _ _ _ _ _ _ _|exact ⟨rfl,rfl,rfl⟩
theorem exec1_fr (S:ST) (k:Int) (s:ByteArray) (p q:T) (r1 r2:Int×Int):FrK S (exec1 S k s p q r1 r2).2:=by
 unfold exec1
 by_cases h:r1.2≠0
 ·rw [if_pos h]; exact ⟨rfl,rfl,rfl⟩
 ·rw [if_neg h]; exact exec2_fr _ _ _ _ _ _ _
theorem doE_fr (S:ST) (t:T):FrK S (doE S t).2:=by
 unfold doE
 repeat' split
 all_goals first|exact ⟨rfl,rfl,rfl⟩|skip
 obtain ⟨k,n,s,ks⟩:=t
 exact exec1_fr _ _ _ _ _ _ _
theorem undoE_fr (S:ST) (t:T):FrK S (undoE S t).2:=by
 obtain ⟨k,n,s,ks⟩:=t
 exact doE_fr _ _
def MV:Nat:=4398046510976
def Bnd (m j:Nat) (S:ST):Prop:=S.base.vs.length<=m+j/\∀ f∈S.calls,f.vs.length<=MV+j
theorem Bnd.mono {m j:Nat} {S:ST} (h:Bnd m j S):Bnd m (j+1) S:=⟨by have:=h.1; omega,fun f hf=>by have:=h.2 f hf; omega⟩
theorem Bnd.fr {m j:Nat} {S S':ST} (h:Bnd m j S) (hf:FrK S S'):Bnd m (j+1) S':=by
 obtain ⟨h1,h2,_⟩:=hf
 unfold Bnd
 rw [h1,h2]
 exact h.mono
theorem Bnd.cur {m j:Nat} {S:ST} (h:Bnd m j S) (hm:m<=MV):S.cur.vs.length<=MV+j:=by
 rcases Nat.eq_zero_or_pos S.calls.length with h0|h0
 ·rw [cur_0 h0]; have:=h.1; omega
 ·rw [cur_1 h0]; exact h.2 _ (List.getElem_mem _)
theorem Bnd.setCur {m j:Nat} {S:ST} (h:Bnd m j S) (f:FR) (hf:f.vs.length<=S.cur.vs.length+1):Bnd m (j+1) (S.setCur f):=by
 unfold ST.setCur
 by_cases h0:S.calls.length=0
 ·rw [if_pos h0]
  rw [cur_0 h0] at hf
  exact ⟨by have:=h.1; show f.vs.length<=_; omega,h.mono.2⟩
 ·rw [if_neg h0]
  refine ⟨h.mono.1,fun g hg=>?_⟩
  rw [cur_1 (by omega)] at hf
  rcases List.mem_or_eq_of_mem_set hg with hg|rfl
  ·exact h.mono.2 g hg
  ·have:=h.2 _ (List.getElem_mem (l:=S.calls) (n:=S.calls.length-1) (by omega)); omega
theorem entL_len {f:FR}:∀ (l:List (VD×ByteArray)) (acc g:FR),entL f acc l=.ok g->g.vs.length=acc.vs.length+l.length
 | [],acc,g,h=>by rw [entL] at h; injection h with h; subst h; simp
 | (v,a)::r,acc,g,h=>by
  rw [entL] at h
  split at h
  ·cases h
  ·split at h
   ·have:=entL_len r _ _ h
    simp at this ⊢
    omega
   ·cases h
theorem Bnd.open_ {m j:Nat} {S:ST} (h:Bnd m j S) (v:VD) (x:Int):Bnd m (j+1) (openE S v x).2:=by
 unfold openE
 repeat' split
 all_goals first|exact h.mono|exact Bnd.setCur (S:=S.newCell _) h _ (by rw [newCell_cur]; simp [FR.push])
theorem Bnd.close_ {m j:Nat} {S:ST} (h:Bnd m j S) (s:ByteArray) (x:Int):Bnd m (j+1) (closeE S s x).2:=by
 unfold closeE
 repeat' split
 all_goals first|exact h.mono|skip
 all_goals exact h.setCur _ (by simp [FR.pop]; omega)
theorem Bnd.enter {m j:Nat} {S:ST} (h:Bnd m j S) (ps:List VD) (ss:List ByteArray) (hp:ps.length<=MV):Bnd m (j+1) (enterE S ps ss).2:=by
 unfold enterE
 split
 ·exact h.mono
 ·rcases he:entL S.cur ⟨[],[],0⟩ (ps.zip ss) with e|f
  ·exact h.mono
  ·unfold entR
   dsimp only
   split
   ·exact h.mono
   ·refine ⟨h.mono.1,fun g hg=>?_⟩
    rcases List.mem_append.1 hg with hg|hg
    ·exact h.mono.2 g hg
    ·simp at hg
     subst hg
     have:=entL_len _ _ _ he
     simp at this
     omega
theorem Bnd.leave {m j:Nat} {S:ST} (h:Bnd m j S):Bnd m (j+1) (leaveE S).2:=by
 unfold leaveE
 split
 ·exact h.mono
 ·exact ⟨h.mono.1,fun g hg=>h.mono.2 g (List.mem_of_mem_take hg)⟩
structure STP where
 k:Int
 t:T
 v:VD
 x:Int
 ps:List VD
 ss:List ByteArray
def oneE (S:ST) (p:STP):Int×ST :=
 if p.k % 6=0 then doE S p.t else if p.k % 6=1 then undoE S p.t else if p.k % 6=2 then openE S p.v p.x else if p.k % 6=3 then closeE S p.v.s p.x else if p.k % 6=4 then enterE S p.ps p.ss else leaveE S
theorem Bnd.one {m j:Nat} {S:ST} (h:Bnd m j S) (p:STP) (hp:p.ps.length<=MV):Bnd m (j+1) (oneE S p).2:=by
 unfold oneE
 repeat' split
 ·exact h.fr (doE_fr _ _)
 ·exact h.fr (undoE_fr _ _)
 ·exact h.open_ _ _
 ·exact h.close_ _ _
 ·exact h.enter _ _ hp
 ·exact h.leave
theorem NV_leaf (w:World) (S:Nat->Prop) {k n:Int} {s:ByteArray} (hf:Fld k n s):NV w S (.nd k n s []) (nv k n s none 0 0):=NV.shut (ks:=[]) hf (by simp) (Nat.le_refl _) (fun i hi=>by simp at hi)
theorem NV_one (W:World) (E:TypeId) {S:Nat->Prop} (hS:S W.heap.size) {t1:T} {k n k1 n1:Int} {s s1:ByteArray} {A1:Option Addr} {l1 c1:Nat} (hf:Fld k n s) (h1:NV W S t1 (nv k1 n1 s1 A1 l1 c1)) :
  NV (W.alloc (.cells #[.int .u8 k1,.int .i64 n1,.string s1,.slice A1 l1 c1] E)) S (.nd k n s [t1]) (nv k n s (some ⟨W.heap.size,0,none⟩) 1 1):=by
 refine NV.shut (ks:=[t1]) hf (by simp [LK]) (by simp) fun i hi=>?_
 have hi0:i=0:=by simp at hi; exact hi
 subst hi0
 have hb:=bl_al (Below.refl W.heap.size W) (.cells #[.int .u8 k1,.int .i64 n1,.string s1,.slice A1 l1 c1] E)
 have hx:=heap_alloc_new W (.cells #[.int .u8 k1,.int .i64 n1,.string s1,.slice A1 l1 c1] E)
 exact ⟨⟨W.heap.size,0,none⟩,_,_,_,_,rfl,hS,⟨zc hx rfl,zc hx rfl,zc hx rfl,zc hx rfl⟩,h1.later hb⟩
theorem NV_two (W:World) (E:TypeId) {S:Nat->Prop} (hS:S W.heap.size) {t1 t2:T} {k n k1 n1 k2 n2:Int} {s s1 s2:ByteArray} {A1 A2:Option Addr} {l1 c1 l2 c2:Nat} (hf:Fld k n s) (h1:NV W S t1 (nv k1 n1 s1 A1 l1 c1)) (h2:NV W S t2 (nv k2 n2 s2 A2 l2 c2)) :
  NV (W.alloc (.cells #[.int .u8 k1,.int .i64 n1,.string s1,.slice A1 l1 c1,.int .u8 k2,.int .i64 n2,.string s2,.slice A2 l2 c2] E)) S (.nd k n s [t1,t2]) (nv k n s (some ⟨W.heap.size,0,none⟩) 2 2):=by
 refine NV.shut (ks:=[t1,t2]) hf (by simp [LK]) (by simp) fun i hi=>?_
 have hb:=bl_al (Below.refl W.heap.size W) (.cells #[.int .u8 k1,.int .i64 n1,.string s1,.slice A1 l1 c1,.int .u8 k2,.int .i64 n2,.string s2,.slice A2 l2 c2] E)
 have hx:=heap_alloc_new W (.cells #[.int .u8 k1,.int .i64 n1,.string s1,.slice A1 l1 c1,.int .u8 k2,.int .i64 n2,.string s2,.slice A2 l2 c2] E)
 match i,hi with
 | 0,_=>exact ⟨⟨W.heap.size,0,none⟩,_,_,_,_,rfl,hS,⟨zc hx rfl,zc hx rfl,zc hx rfl,zc hx rfl⟩,h1.later hb⟩
 | 1,_=>exact ⟨⟨W.heap.size,0,none⟩,_,_,_,_,rfl,hS,⟨zc hx rfl,zc hx rfl,zc hx rfl,zc hx rfl⟩,h2.later hb⟩
theorem rowI_blk {W:World} {b:Nat} {E:TypeId} {xs:List Int} (h:W.heap[b]?=some (.cells (flatI xs).toArray E (0,0))) (hx:∀ x∈xs,I64 x):RowI W Any (some ⟨b,0,none⟩) xs:=fun i hi=>by
 have ha:(⟨b,0,none⟩:Addr).add i=⟨b,i,none⟩:=by rw [Addr.add_lit,Nat.zero_add]
 refine ⟨⟨b,0,none⟩,rfl,trivial,?_,hx _ (List.getElem_mem hi)⟩
 rw [ha]
 simp only [World.cell?,h]
 simp [flatI,hi]
theorem rowV_blk {W:World} {b:Nat} {E:TypeId} {vs:List VD} (h:W.heap[b]?=some (.cells (flatV vs).toArray E (0,0))) (hx:∀ v∈vs,FldV v):RowV W Any (some ⟨b,0,none⟩) vs:=fun i hi=>by
 have ha:(⟨b,0,none⟩:Addr).add (i*3)=⟨b,i*3,none⟩:=by rw [Addr.add_lit,Nat.zero_add]
 obtain ⟨g1,g2,g3⟩:=flatV_get vs i hi
 refine ⟨⟨b,0,none⟩,rfl,trivial,?_,hx _ (List.getElem_mem hi)⟩
 rw [ha]
 have key:∀ o u,(flatV vs)[o]?=some u->W.cell? ⟨b,o,none⟩=some u:=fun o u ho=>by
  simp only [World.cell?,h]
  simpa using ho
 exact ⟨key _ _ g1,key _ _ g2,key _ _ g3⟩
theorem bV2 (s:ByteArray) (k:Int) (w:World):(Instr.build 83 #[(0,.string s),(1,.int .u8 k)]).run Tryz.prog w=.ok (.agg #[.string s,.int .u8 k,.int .i64 0]) w:=by kernel_rfl
theorem bV3 (s:ByteArray) (k n:Int) (w:World):(Instr.build 83 #[(0,.string s),(1,.int .u8 k),(2,.int .i64 n)]).run Tryz.prog w=.ok (.agg #[.string s,.int .u8 k,.int .i64 n]) w:=by kernel_rfl
theorem bSV3 (a0 a1 a2 b0 b1 b2 c0 c1 c2:Value) (w:World):(Instr.buildSlice 22 3 #[(0,.agg #[a0,a1,a2]),(1,.agg #[b0,b1,b2]),(2,.agg #[c0,c1,c2])]).run Tryz.prog w=.ok (.slice (some ⟨w.heap.size,0,none⟩) 3 3) (w.alloc (.cells #[a0,a1,a2,b0,b1,b2,c0,c1,c2] 83)):=by kernel_rfl
theorem bI2 (x y:Int) (w:World):(Instr.buildSlice 24 2 #[(0,.int .i64 x),(1,.int .i64 y)]).run Tryz.prog w=.ok (.slice (some ⟨w.heap.size,0,none⟩) 2 2) (w.alloc (.cells #[.int .i64 x,.int .i64 y] 3)):=by kernel_rfl
theorem bII3 (A B C:Option Addr) (l c m d n e:Nat) (w:World):(Instr.buildSlice 23 3 #[(0,.slice A l c),(1,.slice B m d),(2,.slice C n e)]).run Tryz.prog w=.ok (.slice (some ⟨w.heap.size,0,none⟩) 3 3) (w.alloc (.cells #[.slice A l c,.slice B m d,.slice C n e] 24)):=by kernel_rfl
theorem bS1 (A:Option Addr) (l c:Nat) (w:World):(Instr.build 26 #[(0,.slice A l c)]).run Tryz.prog w=.ok (.agg #[.slice A l c,.slice none 0 0,.slice none 0 0]) w:=by kernel_rfl
theorem bN4 (k:Int) (s:ByteArray) (A:Option Addr) (l c:Nat) (w:World):(Instr.build 29 #[(0,.int .u8 k),(2,.string s),(3,.slice A l c)]).run Tryz.prog w=.ok (nv k 0 s A l c) w:=by kernel_rfl
theorem bSN1 (a0 a1 a2 a3:Value) (w:World):(Instr.buildSlice 27 1 #[(0,.agg #[a0,a1,a2,a3])]).run Tryz.prog w=.ok (.slice (some ⟨w.heap.size,0,none⟩) 1 1) (w.alloc (.cells #[a0,a1,a2,a3] 29)):=by kernel_rfl
theorem rowII3 {W:World} {b:Nat} {E:TypeId} {l1 l2 l3:List Int} {A1 A2 A3:Option Addr} {c1 c2 c3:Nat} (h:W.heap[b]?=some (.cells #[.slice A1 l1.length c1,.slice A2 l2.length c2,.slice A3 l3.length c3] E (0,0)))
  (r1:RowI W Any A1 l1) (r2:RowI W Any A2 l2) (r3:RowI W Any A3 l3) (h1:l1.length<=c1) (h2:l2.length<=c2) (h3:l3.length<=c3):RowII W Any (some ⟨b,0,none⟩) [l1,l2,l3]:=fun i hi=>by
 match i,hi with
 | 0,_=>exact ⟨⟨b,0,none⟩,A1,c1,rfl,trivial,zc h rfl,h1,r1⟩
 | 1,_=>exact ⟨⟨b,0,none⟩,A2,c2,rfl,trivial,zc h rfl,h2,r2⟩
 | 2,_=>exact ⟨⟨b,0,none⟩,A3,c3,rfl,trivial,zc h rfl,h3,r3⟩
theorem box3o {w:World} {b:Nat} {E:TypeId} {u0 u1 u2:Value} (h:w.heap[b]?=some (.cells #[u0,u1,u2] E (0,0))):w.cell? ⟨b,0,none⟩=some u0/\w.cell? ⟨b,1,none⟩=some u1/\w.cell? ⟨b,2,none⟩=some u2 :=
 ⟨zc h rfl,zc h rfl,zc h rfl⟩
theorem SV.stp {W W':World} {n0 lo:Nat} {P P':Ph} {S S':ST} {s:SS} {v:Value} (h:SV W (fun b=>lo<=b) s v) (hlo:∀ b,OwnB (rows P S) b->b<lo) (hst:SStp n0 P S W P' S' W'):SV W' (fun b=>lo<=b) s v :=
 h.keep (fun _ h _=>h) fun b hb hlt=>hst.st.chg.block b hlt fun ho=>by have:=hlo b ho; omega
theorem SV.any {W:World} {S:Nat->Prop} {s:SS} {v:Value} (h:SV W S s v):SV W Any s v:=h.keep (fun _ _ _=>trivial) fun _ _ _=>rfl
theorem SR.n0le {W:World} {n0:Nat} {P:Ph} {S:ST} (h:SR W n0 P S):n0<=W.heap.size:=by have:=h.rws.lt .sb _ rfl; omega
theorem SR.own_lt {W:World} {n0:Nat} {P:Ph} {S:ST} (h:SR W n0 P S) {b:Nat} (hb:OwnB (rows P S) b):n0<=b/\b<W.heap.size:=by
 obtain ⟨q,hq⟩:=hb; exact h.rws.lt q b hq
theorem SStp.frame {w W W':World} {n0:Nat} {P P':Ph} {S S':ST} (hst:SStp n0 P S W P' S' W') (hs:SR W n0 P S) (hb:Below w.heap.size w W) (hn:w.heap.size<=n0):Below w.heap.size w W' :=
 hb.trans (hst.st.chg.below (Nat.le_trans hn hs.n0le) fun _ ho=>Nat.le_trans hn (hs.own_lt ho).1)
theorem SStp.blk {W W':World} {n0:Nat} {P P':Ph} {S S':ST} {b:Nat} {o:Obj} (hst:SStp n0 P S W P' S' W') (hk:W.heap[b]?=some o) (hno:¬ OwnB (rows P S) b):W'.heap[b]?=some o:=hst.st.chg.keep hk hno
theorem SStp.no {W W':World} {n0:Nat} {P P':Ph} {S S':ST} {b:Nat} (hst:SStp n0 P S W P' S' W') (hlt:b<W.heap.size) (hno:¬ OwnB (rows P S) b):¬ OwnB (rows P' S') b:=fun ho=>by
 rcases hst.st.own _ ho with h|h
 ·exact hno h
 ·omega
theorem step_callG {P:Program} {ops:Array Oper} {o:Oper} {a:Act} {w:World} {K:Act->World->Prop} {Q:Exit->Act->World->Prop} {F:Prop} (hw:Region.wanted o (yielded ops a.tmps)=true) (x:Operand) (xs:List Operand) (ats:Array TypeId)
  (ho:o.op=.call { callee:=.value x,args:=xs.toArray,argTypes:=ats }) (f:FuncId) (fn:Func) (hf:IsFn P f fn) (hv:a.eval x=.func (.func f) #[] #[]) (l:List Value) (hargs:xs.map a.eval=l) (R:Value->World->Prop)
  (hc:Calls P f l.toArray w fun e w'=>∃ v,e=.returned v/\R v w') (h:∀ v w',R v w'->K (a.put o.dst v) w') :
  if Region.wanted o (yielded ops a.tmps)=true then Oper.wp P o a w K Q else F:=by
 rw [if_pos hw]
 subst hargs
 have e:(execOp a.eval o).run P w=.ok (.enter f (xs.map a.eval).toArray) w:=by
  unfold execOp
  simp only [ho,resolve,hv,Deferred.ofValue,Sem.run_bind,Sem.run_pure,Result.andThen_ok,invoke,run_callFunc hf,Array.empty_append,List.map_toArray,Array.append_empty]
 unfold Oper.wp
 rw [e,Oper.upon_enter]
 refine hc.mono ?_
 rintro e w' ⟨v,rfl,hR⟩
 exact h v w' hR
theorem newS_state {vs:List VD} {s:SS} (h:fitB vs s=true):(newS vs s).state=s:=by
 have hl:s.cells.length=vs.length:=(fitB_all h).2.1
 obtain ⟨c,i,o⟩:=s
 simp only [ST.state,newS,List.length_range,Nat.sub_zero]
 congr 1
 rw [List.take_of_length_le (by simp)]
 refine List.ext_getElem (by simpa using hl.symm) fun j h1 h2=>?_
 simp at h1 h2
 simp [h2]
theorem Bnd.new (vs:List VD) (s:SS) (h:vs.length<=12):Bnd 12 0 (newS vs s):=⟨h,fun f hf=>by simp [newS] at hf⟩
structure KS (w:World) (n0 sb:Nat) (kb:Nat->Prop) (W:World) (S:ST):Prop where
 bl:Below w.heap.size w W
 hn:w.heap.size<=n0
 sr:∃ P,SR W n0 P S/\P.sb=sb/\∀ b,kb b->b<W.heap.size/\¬ OwnB (rows P S) b
structure Kpt (n0:Nat) (kb:Nat->Prop) (W W':World):Prop where
 size:W.heap.size<=W'.heap.size
 kept:∀ b,b<W.heap.size->(b<n0\/kb b)->W'.heap[b]?=W.heap[b]?
section
variable {w W W' W'':World} {n0 sb:Nat} {kb kb':Nat->Prop} {S S':ST}
theorem Kpt.refl (n0:Nat) (kb:Nat->Prop) (W:World):Kpt n0 kb W W:=⟨Nat.le_refl _,fun _ _ _=>rfl⟩
theorem Kpt.trans (h:Kpt n0 kb W W') (h':Kpt n0 kb W' W''):Kpt n0 kb W W'':=⟨Nat.le_trans h.size h'.size,fun b hb hk=>(h'.kept b (Nat.lt_of_lt_of_le hb h.size) hk).trans (h.kept b hb hk)⟩
theorem Kpt.of_below (h:Below W.heap.size W W'):Kpt n0 kb W W':=⟨h.size,fun b hb _=>h.block b hb⟩
theorem Kpt.cell {b o:Nat} {u:Value} (h:Kpt n0 kb W W') (hk:b<n0\/kb b) (hc:W.cell? ⟨b,o,none⟩=some u):W'.cell? ⟨b,o,none⟩=some u :=
 cell_kp hc (h.kept b (World.block_lt_of_cell? W _ hc) hk)
theorem Kpt.blk {b:Nat} {o:Obj} (h:Kpt n0 kb W W') (hk:b<n0\/kb b) (hc:W.heap[b]?=some o):W'.heap[b]?=some o:=(h.kept b (blk_lt hc) hk).trans hc
theorem KS.n0le (h:KS w n0 sb kb W S):n0<=W.heap.size:=by obtain ⟨P,hs,_⟩:=h.sr; exact hs.n0le
theorem KS.wf (h:KS w n0 sb kb W S):S.WF:=by obtain ⟨P,hs,_⟩:=h.sr; exact hs.wf
theorem KS.later (h:KS w n0 sb kb W S) (hb:Below W.heap.size W W'):KS w n0 sb kb W' S:=by
 obtain ⟨P,hs,e,hk⟩:=h.sr
 exact ⟨bl_tt h.bl hb,h.hn,P,hs.later hb,e,fun b hb'=>⟨Nat.lt_of_lt_of_le (hk b hb').1 hb.size,(hk b hb').2⟩⟩
theorem KS.new {P:Ph} {vs:List VD} {s:SS} {W0:World} (h0:Below w.heap.size w W0) (hb:Below W0.heap.size W0 W) (hs:SR W W0.heap.size P (newS vs s)):KS w W0.heap.size P.sb (fun _=>False) W (newS vs s) :=
 ⟨bl_tt h0 hb,h0.size,P,hs,rfl,fun _ h=>h.elim⟩
def KP (w:World) (n0 sb:Nat) (kb:Nat->Prop) (W:World) (R:Int×ST) (e:Ending) (W':World):Prop:=e=.returned (.int .i64 R.1)/\KS w n0 sb kb W' R.2/\Kpt n0 kb W W'
theorem KS.stp {P P':Ph} (hbl:Below w.heap.size w W) (hn0:w.heap.size<=n0) (hs:SR W n0 P S) (hk:∀ b,kb b->b<W.heap.size/\¬ OwnB (rows P S) b) (hst:SStp n0 P S W P' S' W') (hsb:P'.sb=sb):KS w n0 sb kb W' S'/\Kpt n0 kb W W':=by
 refine ⟨⟨hst.frame hs hbl hn0,hn0,P',hst.sr,hsb,fun b hb=>⟨Nat.lt_of_lt_of_le (hk b hb).1 hst.st.chg.size,hst.no (hk b hb).1 (hk b hb).2⟩⟩,hst.st.chg.size,fun b hlt hb=>hst.st.chg.block b hlt fun ho=>?_⟩
 rcases hb with hb|hb
 ·have:=(hs.own_lt ho).1; omega
 ·exact (hk b hb).2 ho
theorem KS.dop (h:KS w n0 sb kb W S) {f:FuncId} {args:Array Value} {R:Int×ST} (hc:∀ P,SR W n0 P S->P.sb=sb->Calls Tryz.prog f args W (DoP n0 P S W R)):Calls Tryz.prog f args W (KP w n0 sb kb W R):=by
 obtain ⟨P,hs,e,hk⟩:=h.sr
 refine (hc P hs e).mono ?_
 rintro e' W2 ⟨a1,P',a2,a3⟩
 exact ⟨a1,KS.stp h.bl h.hn hs hk a2 (a3.trans e)⟩
theorem KS.do_ (h:KS w n0 sb kb W S) (t:T) (v:Value) (hv:NV W Any t v):Calls Tryz.prog 20 #[.pointer (some ⟨sb,0,none⟩),v] W (KP w n0 sb kb W (doE S t)) :=
 h.dop fun _ hs e=>e▸Do_any hs t v hv
theorem KS.undo (h:KS w n0 sb kb W S) (t:T) (v:Value) (hv:NV W Any t v):Calls Tryz.prog 19 #[.pointer (some ⟨sb,0,none⟩),v] W (KP w n0 sb kb W (undoE S t)) :=
 h.dop fun _ hs e=>e▸Undo_any hs t v hv
theorem KS.open_ (h:KS w n0 sb kb W S) (v:VD) (hfv:FldV v) (x:Int) (hx:I64 x) (hlim:S.cur.vs.length+1<=4398046511000):Calls Tryz.prog 185 #[.pointer (some ⟨sb,0,none⟩),.agg #[.string v.s,.int .u8 v.k,.int .i64 v.n],.int .i64 x] W (KP w n0 sb kb W (openE S v x)) :=
 h.dop fun _ hs e=>e▸Open_any hs v hfv x hx hlim
theorem KS.close (h:KS w n0 sb kb W S) (s:ByteArray) (x:Int):Calls Tryz.prog 186 #[.pointer (some ⟨sb,0,none⟩),.string s,.int .i64 x] W (KP w n0 sb kb W (closeE S s x)) :=
 h.dop fun _ hs e=>e▸Close_any hs s x
theorem KS.enter (h:KS w n0 sb kb W S) (ps:List VD) (ss:List ByteArray) (A D:Option Addr) (c d:Nat) (hp:RowV W Any A ps) (hs:RowS W D ss) (hlp:ps.length<=4398046511000) (hls:ss.length<=17592186044416):Calls Tryz.prog 187 #[.pointer (some ⟨sb,0,none⟩),.slice A ps.length c,.slice D ss.length d] W (KP w n0 sb kb W (enterE S ps ss)) :=
 h.dop fun _ hs' e=>e▸Enter_any hs' ps ss A D c d hp hs hlp hls
theorem KS.leave (h:KS w n0 sb kb W S):Calls Tryz.prog 188 #[.pointer (some ⟨sb,0,none⟩)] W (KP w n0 sb kb W (leaveE S)) :=
 h.dop fun _ hs e=>e▸Leave_any hs
theorem KS.cell (h:KS w n0 sb kb W S) (s:ByteArray):Calls Tryz.prog 184 #[.pointer (some ⟨sb,0,none⟩),.string s] W (CellP W S s):=by
 obtain ⟨P,hs,rfl,-⟩:=h.sr
 exact SCell_any hs s
theorem KS.state (h:KS w n0 sb kb W S):Calls Tryz.prog 22 #[.pointer (some ⟨sb,0,none⟩)] W fun e W'=>∃ v,e=.returned v/\OwnS W' W.heap.size S.state v/\Below W.heap.size W W':=by
 obtain ⟨P,hs,rfl,-⟩:=h.sr
 exact State_any hs
end
theorem KS.chg {w W W':World} {n0 sb:Nat} {kb C:Nat->Prop} {S:ST} (h:KS w n0 sb kb W S) (hc:Chg C W W') (hC:∀ b,b<W.heap.size->C b->w.heap.size<=b/\(b<n0\/kb b)):KS w n0 sb kb W' S:=by
 obtain ⟨P,hs,e,hk⟩:=h.sr
 have hno:∀ b,OwnB (rows P S) b->¬ C b:=fun b ho hcb=>by
  obtain ⟨-,h2⟩:=hC b (hs.own_lt ho).2 hcb
  rcases h2 with h2|h2
  ·have:=(hs.own_lt ho).1; omega
  ·exact (hk b h2).2 ho
 refine ⟨?_,h.hn,P,⟨hs.rws.chg hc fun i b hb=>hno b ⟨i,hb⟩,hs.wf⟩,e,fun b hb=>⟨Nat.lt_of_lt_of_le (hk b hb).1 hc.size,(hk b hb).2⟩⟩
 exact ⟨hc.os.trans h.bl.os,hc.tape.trans h.bl.tape,hc.output.trans h.bl.output,Nat.le_trans h.bl.size hc.size,fun b hb=>by
  rw [hc.block b (Nat.lt_of_lt_of_le hb h.bl.size) fun hcb=>by have:=(hC b (Nat.lt_of_lt_of_le hb h.bl.size) hcb).1; omega]
  exact h.bl.block b hb⟩
theorem SS.Sm.of {s:SS} (h1:s.cells.length<=12) (h2:s.tin.length<=60) (h3:s.tout.length<=60) (h4:∀ l∈s.cells,l.length<=60):s.Sm :=
 ⟨by omega,fun l hl=>by have:=h4 l hl; omega,by omega,by omega⟩
theorem SS.Sm.lim {s:SS} (h:s.Sm):s.Lim:=by
 obtain ⟨h1,h2,h3,h4⟩:=h
 unfold SS.Lim LI
 exact ⟨by omega,fun l hl=>by have:=h2 l hl; omega,by omega,by omega⟩
structure RS where
 S:ST
 n:Nat
 ent:List Nat
inductive Out where
 | gas
 | err (e:Int)
 | ok (r:RS)
def Out.bind:Out->(RS->Out)->Out
 | .ok r,f=>f r
 | .err e,_=>.err e
 | .gas,_=>.gas
def stepO (F:Int) (r:RS):Out:=if F<=r.n then .err 18 else .ok { r with n:=r.n+1 }
def valO (t:T) (r:RS) (f:Int->RS->Out):Out:=if (exprE r.S.look t).2≠0 then .err (exprE r.S.look t).2 else f (exprE r.S.look t).1 r
def holdsO (F:Int) (t:T) (r:RS) (f:Bool->RS->Out):Out:=(stepO F r).bind fun r=>valO t r fun x r=>f (decide (x≠0)) r
def assertO (F:Int) (t:T) (b:Bool) (r:RS):Out:=holdsO F t r fun b' r=>if b'=b then .ok r else .err 15
def bodyO (f:T->RS->Out):List T->RS->Out
 | [],r=>.ok r
 | t::ts,r=>(f t r).bind (bodyO f ts)
def loopO (F:Int) (f:T->RS->Out) (entry test:T) (l1 l2:List T):Nat->RS->Out
 | 0,_=>.gas
 | m+1,r=>(bodyO f l1 r).bind fun r=>holdsO F test r fun b r=>if b=true then .ok r else (bodyO f l2 r).bind fun r=>(assertO F entry false r).bind (loopO F f entry test l1 l2 m)
def prcI:List PR->ByteArray->Option Nat
 | [],_=>none
 | q::qs,s=>if (q.s.toList==s.toList)=true then some 0 else (prcI qs s).map (· + 1)
def kid (t:T) (i:Nat):T:=t.ks.getD i nil0
def Good (n:Nat) (o:Out):Prop:=o ≠ .gas/\∀ r,o=.ok r->n<=r.n
theorem Good.err (n:Nat) (e:Int):Good n (.err e):=⟨by simp,by simp⟩
theorem Good.ok {n:Nat} {r:RS} (h:n<=r.n):Good n (.ok r):=⟨by simp,fun r' e=>by injection e with e; subst e; exact h⟩
theorem Good.mono {m n:Nat} {o:Out} (h:Good n o) (hm:m<=n):Good m o:=⟨h.1,fun r e=>Nat.le_trans hm (h.2 r e)⟩
theorem Good.bind {m n:Nat} {o:Out} {f:RS->Out} (h:Good n o) (hmn:m<=n) (hf:∀ r,n<=r.n->o=.ok r->Good m (f r)):Good m (o.bind f):=by
 cases o with
 | gas=>exact absurd rfl h.1
 | err e=>exact Good.err _ _
 | ok r=>exact hf r (h.2 r rfl) rfl
theorem stepO_ok {F:Int} {r r':RS} (h:stepO F r=.ok r'):r'={ r with n:=r.n+1 }/\(r.n:Int)<F:=by
 unfold stepO at h
 split at h
 ·cases h
 ·injection h with h; exact ⟨h.symm,by omega⟩
def OpS (E:Prop) (Q:ST->ST->Prop) (R R':Int×ST):Prop:=(R.1=0->R'.1=0/\Q R.2 R'.2)/\(E->R.1≠0->R'.1=R.1)
structure SimR (E:Prop) (F:Int) (Rl:Nat->ST->ST->Prop):Prop where
 look:∀ (n:Nat) S S',Rl n S S'->S'.look=S.look
 tick:∀ (n:Nat) S S',Rl n S S'->Rl (n+1) S S'
 do_:∀ (n:Nat) S S' t,(n:Int)<F->Rl n S S'->OpS E (Rl (n+1)) (doE S t) (doE S' t)
 undo:∀ (n:Nat) S S' t,(n:Int)<F->Rl n S S'->OpS E (Rl (n+1)) (undoE S t) (undoE S' t)
 open_:∀ (n:Nat) S S' v x,(n:Int)<F->Rl n S S'->OpS E (Rl (n+1)) (openE S v x) (openE S' v x)
 close:∀ (n:Nat) S S' s x,(n:Int)<F->Rl n S S'->OpS E (Rl (n+1)) (closeE S s x) (closeE S' s x)
 enter:∀ (n:Nat) S S' ps ss,(n:Int)<F->Rl n S S'->OpS E (Rl (n+1)) (enterE S ps ss) (enterE S' ps ss)
 leave:∀ (n:Nat) S S',(n:Int)<F->Rl n S S'->OpS E (Rl (n+1)) (leaveE S) (leaveE S')
structure SimS (Rl:Nat->ST->ST->Prop) (k:Int) (r r':RS):Prop where
 rl:Rl r.n r.S r'.S
 n:(r'.n:Int)=r.n+k
def SimO (E:Prop) (Rl:Nat->ST->ST->Prop) (F F' k:Int) (o o':Out):Prop:=(o'=.err 18/\F'<F+k)\/match o with
 | .gas=>True
 | .err e=>E->o'=.err e
 | .ok r=>∃ r',o'=.ok r'/\SimS Rl k r r'
section
variable {E:Prop} {Rl:Nat->ST->ST->Prop} {F F' k:Int} {o o':Out}
theorem SimO.bind {f f':RS->Out} (h:SimO E Rl F F' k o o') (hf:∀ r r',SimS Rl k r r'->SimO E Rl F F' k (f r) (f' r')):SimO E Rl F F' k (o.bind f) (o'.bind f'):=by
 rcases h with ⟨rfl,h⟩|h
 ·exact .inl ⟨rfl,h⟩
 ·cases o with
  | gas=>exact .inr trivial
  | err e=>exact .inr fun he=>by rw [h he]; rfl
  | ok r =>
   obtain ⟨r',rfl,hs⟩:=h
   exact hf r r' hs
theorem SimO.same {r r':RS} (h:SimS Rl k r r'):SimO E Rl F F' k (.ok r) (.ok r'):=.inr ⟨r',rfl,h⟩
theorem SimO.err {e:Int}:SimO E Rl F F' k (.err e) (.err e):=.inr fun _=>rfl
theorem SimO.step {r r':RS} {f f':RS->Out} (hF:F'<=F+k) (h:SimS Rl k r r') (hf:(r.n:Int)<F->SimO E Rl F F' k (f { r with n:=r.n+1 }) (f' { r' with n:=r'.n+1 })):SimO E Rl F F' k ((stepO F r).bind f) ((stepO F' r').bind f'):=by
 have hn:=h.n
 unfold stepO
 by_cases h1:F<=r.n
 ·rw [if_pos h1,if_pos (by omega)]; exact SimO.err
 ·rw [if_neg h1]
  by_cases h2:F'<=r'.n
  ·rw [if_pos h2]; exact .inl ⟨rfl,by omega⟩
  ·rw [if_neg h2]; exact hf (by omega)
theorem SimO.val {r r':RS} {t:T} {f f':Int->RS->Out} (hl:r'.S.look=r.S.look) (h:∀ x,SimO E Rl F F' k (f x r) (f' x r')):SimO E Rl F F' k (valO t r f) (valO t r' f'):=by
 unfold valO
 rw [hl]
 split
 ·exact SimO.err
 ·exact h _
theorem SimO.holds (hR:SimR E F Rl) (hF:F'<=F+k) {r r':RS} {t:T} {f f':Bool->RS->Out} (h:SimS Rl k r r') (hf:∀ b r1 r1',SimS Rl k r1 r1'->SimO E Rl F F' k (f b r1) (f' b r1')):SimO E Rl F F' k (holdsO F t r f) (holdsO F' t r' f'):=by
 unfold holdsO
 refine SimO.step hF h fun _=>?_
 refine SimO.val (by exact hR.look _ _ _ h.rl) fun x=>?_
 exact hf _ _ _ ⟨hR.tick _ _ _ h.rl,by have:=h.n; simp only; omega⟩
theorem SimO.assert (hR:SimR E F Rl) (hF:F'<=F+k) {r r':RS} {t:T} {b:Bool} (h:SimS Rl k r r'):SimO E Rl F F' k (assertO F t b r) (assertO F' t b r'):=by
 unfold assertO
 refine SimO.holds hR hF h fun b1 r1 r1' h1=>?_
 split
 ·exact SimO.same h1
 ·exact SimO.err
theorem SimO.body {f f':T->RS->Out}:∀ (l:List T) (r r':RS),SimS Rl k r r'->(∀ t∈l,∀ r r',SimS Rl k r r'->SimO E Rl F F' k (f t r) (f' t r'))->SimO E Rl F F' k (bodyO f l r) (bodyO f' l r')
 | [],_,_,h,_=>SimO.same h
 | t::ts,r,r',h,hf=>by
  rw [bodyO,bodyO]
  exact (hf t (List.mem_cons_self ..) r r' h).bind fun r1 r1' h1=>SimO.body ts r1 r1' h1 fun u hu=>hf u (List.mem_cons_of_mem _ hu)
theorem SimO.loop (hR:SimR E F Rl) (hF:F'<=F+k) {f f':T->RS->Out} {entry test:T} {l1 l2:List T} (h1:∀ t∈l1,∀ r r',SimS Rl k r r'->SimO E Rl F F' k (f t r) (f' t r')) (h2:∀ t∈l2,∀ r r',SimS Rl k r r'->SimO E Rl F F' k (f t r) (f' t r')) :
  ∀ (m:Nat) (r r':RS),SimS Rl k r r'->SimO E Rl F F' k (loopO F f entry test l1 l2 m r) (loopO F' f' entry test l1 l2 m r')
 | 0,_,_,_=>.inr trivial
 | m+1,r,r',h=>by
  rw [loopO,loopO]
  refine (SimO.body l1 r r' h h1).bind fun r1 r1' g1=>SimO.holds hR hF g1 fun b r2 r2' g2=>?_
  split
  ·exact SimO.same g2
  ·exact (SimO.body l2 r2 r2' g2 h2).bind fun r3 r3' g3=>(SimO.assert hR hF g3).bind fun r4 r4' g4=>SimO.loop hR hF h1 h2 m r4 r4' g4
end
def ST.more (S:ST) (l:List Int):ST:={ S with tin:=S.tin++l }
section
variable {S:ST} {l:List Int}
def MoR (l:List Int) (m:Nat) (R R':Int×ST):Prop:=R.1=0->R'=(0,R.2.more l)/\R.2.tin.length<=m
end
def MoreR (m:Nat) (l:List Int) (n:Nat) (S S':ST):Prop:=S'=S.more l/\S.tin.length<=m+n
theorem MoR.op {l:List Int} {m n:Nat} {R R':Int×ST} {S:ST} (h:MoR l (S.tin.length+1) R R') (hm:S.tin.length<=m+n):OpS False (MoreR m l (n+1)) R R':=by
 refine ⟨fun h0=>?_,fun hf=>hf.elim⟩
 obtain ⟨h1,h2⟩:=h h0
 rw [h1]
 exact ⟨rfl,rfl,by omega⟩
structure FrR (ρ:Nat->Nat->Prop) (f g:FR):Prop where
 vs:f.vs=g.vs
 loc:f.loc=g.loc
 len:f.cs.length=g.cs.length
 full:f.cs.length=f.vs.length/\f.loc<=f.vs.length
 cs:∀ (i a b:Nat),f.cs[i]?=some a->g.cs[i]?=some b->ρ a b
structure EqR (ρ:Nat->Nat->Prop) (S S':ST):Prop where
 fn:∀ a b b',ρ a b->ρ a b'->b=b'
 inj:∀ a a' b,ρ a b->ρ a' b->a=a'
 lt:∀ a b,ρ a b->a<S.nc/\b<S'.nc
 cell:∀ a b,ρ a b->S'.cell b=S.cell a
 base:FrR ρ S.base S'.base
 ncalls:S.calls.length=S'.calls.length
 calls:∀ (i:Nat) (f g:FR),S.calls[i]?=some f->S'.calls[i]?=some g->FrR ρ f g
 tin:S'.tin=S.tin
 tout:S'.tout=S.tout
def Eqv (S S':ST):Prop:=∃ ρ,EqR ρ S S'
def OpE (ρ:Nat->Nat->Prop) (R R':Int×ST):Prop:=R'.1=R.1/\(R.1=0->EqR ρ R.2 R'.2)
section
variable {ρ ρ':Nat->Nat->Prop} {f g:FR} {S S' S'':ST} {a b:Nat}
theorem FrR.mono (h:FrR ρ f g) (hr:∀ a b,ρ a b->ρ' a b):FrR ρ' f g:=⟨h.vs,h.loc,h.len,h.full,fun i a b x y=>hr a b (h.cs i a b x y)⟩
theorem FrR.getD (h:FrR ρ f g) {i:Nat} (hi:i<f.vs.length):ρ (f.cs.getD i 0) (g.cs.getD i 0):=by
 have h1:i<f.cs.length:=by rw [h.full.1]; exact hi
 have h2:i<g.cs.length:=by rw [<-h.len]; exact h1
 refine h.cs i _ _ ?_ ?_
 ·rw [List.getD_eq_getElem?_getD,List.getElem?_eq_getElem h1]; rfl
 ·rw [List.getD_eq_getElem?_getD,List.getElem?_eq_getElem h2]; rfl
theorem FrR.snoc (h:FrR ρ f g) (v:VD) (hab:ρ a b) (l:Nat) (hl:l<=f.vs.length+1):FrR ρ ⟨f.vs++[v],f.cs++[a],l⟩ ⟨g.vs++[v],g.cs++[b],l⟩:=by
 refine ⟨by rw [h.vs],rfl,by simp [h.len],⟨by simp [h.full.1],by simpa using hl⟩,fun i x y hx hy=>?_⟩
 simp only at hx hy
 rcases Nat.lt_or_ge i f.cs.length with h1|h1
 ·rw [List.getElem?_append_left h1] at hx
  rw [List.getElem?_append_left (by rw [<-h.len]; exact h1)] at hy
  exact h.cs i x y hx hy
 ·rw [List.getElem?_append_right h1] at hx
  rw [List.getElem?_append_right (by rw [<-h.len]; exact h1)] at hy
  rw [<-h.len] at hy
  cases hi:i-f.cs.length with
  | zero =>
   rw [hi] at hx hy
   simp only [List.getElem?_cons_zero,Option.some.injEq] at hx hy
   subst hx hy
   exact hab
  | succ j =>
   rw [hi] at hx
   simp at hx
theorem FrR.pop (h:FrR ρ f g):FrR ρ f.pop g.pop:=by
 have h1:=h.full
 refine ⟨by simp only [FR.pop,h.vs],by simp only [FR.pop,h.loc],by simp only [FR.pop,List.length_take,h.len,h.vs],⟨by simp only [FR.pop,List.length_take,h1.1],by simp only [FR.pop,List.length_take]; omega⟩,fun i x y hx hy=>?_⟩
 simp only [FR.pop] at hx hy
 rw [List.getElem?_take] at hx hy
 split at hx
 ·split at hy
  ·exact h.cs i x y hx hy
  ·cases hy
 ·cases hx
theorem EqR.cur (h:EqR ρ S S'):FrR ρ S.cur S'.cur:=by
 rcases Nat.eq_zero_or_pos S.calls.length with h0|h0
 ·rw [cur_0 h0,cur_0 (by rw [<-h.ncalls]; exact h0)]; exact h.base
 ·have h1:0<S'.calls.length:=by rw [<-h.ncalls]; exact h0
  rw [cur_1 h0,cur_1 h1]
  refine h.calls (S.calls.length-1) _ _ (List.getElem?_eq_getElem (by omega)) ?_
  rw [List.getElem?_eq_getElem (by have:=h.ncalls; omega)]
  congr 1
  congr 1
  rw [h.ncalls]
theorem EqR.num (h:EqR ρ S S') (s:ByteArray):(S.num s=none/\S'.num s=none)\/∃ a b,S.num s=some a/\S'.num s=some b/\ρ a b:=by
 have hc:=h.cur
 unfold ST.num FR.at
 rw [<-hc.vs]
 cases hl:lastI S.cur.vs s S.cur.vs.length with
 | none=>exact .inl ⟨rfl,rfl⟩
 | some i =>
  simp only [Option.bind_some]
  have h1:i<S.cur.cs.length:=by rw [hc.full.1]; exact lastI_lt hl
  have h2:i<S'.cur.cs.length:=by rw [<-hc.len]; exact h1
  exact .inr ⟨_,_,List.getElem?_eq_getElem h1,List.getElem?_eq_getElem h2,hc.cs i _ _ (List.getElem?_eq_getElem h1) (List.getElem?_eq_getElem h2)⟩
theorem EqR.look (h:EqR ρ S S'):S'.look=S.look:=by
 funext s
 unfold ST.look
 rcases h.num s with ⟨h1,h2⟩|⟨a,b,h1,h2,h3⟩
 ·rw [h1,h2]; rfl
 ·rw [h1,h2]; simp [h.cell a b h3]
theorem EqR.el (h:EqR ρ S S') (hab:ρ a b) (i:Nat):S'.el b i=S.el a i:=by unfold ST.el; rw [h.cell a b hab]
theorem EqR.setL (h:EqR ρ S S') (hab:ρ a b) (l:List Int):EqR ρ (S.setL a l) (S'.setL b l) :=
 ⟨h.fn,h.inj,h.lt,fun c d hcd=>by
  simp only [ST.setL]
  by_cases e:c=a
  ·subst e
   rw [if_pos rfl,if_pos (h.fn _ _ _ hcd hab)]
  ·rw [if_neg e,if_neg (fun e'=>e (h.inj _ _ _ hcd (by rw [e']; exact hab)))]
   exact h.cell c d hcd,h.base,h.ncalls,h.calls,h.tin,h.tout⟩
theorem EqR.put (h:EqR ρ S S') (hab:ρ a b) (i:Nat) (x:Int):EqR ρ (S.put a i x) (S'.put b i x):=by
 unfold ST.put
 rw [h.cell a b hab]
 exact h.setL hab _
theorem EqR.setCur (h:EqR ρ S S') {f g:FR} (hf:FrR ρ f g):EqR ρ (S.setCur f) (S'.setCur g):=by
 unfold ST.setCur
 by_cases h0:S.calls.length=0
 ·rw [if_pos h0,if_pos (by rw [<-h.ncalls]; exact h0)]
  exact ⟨h.fn,h.inj,h.lt,h.cell,hf,h.ncalls,h.calls,h.tin,h.tout⟩
 ·rw [if_neg h0,if_neg (by rw [<-h.ncalls]; exact h0)]
  refine ⟨h.fn,h.inj,h.lt,h.cell,h.base,by simpa using h.ncalls,fun i x y hx hy=>?_,h.tin,h.tout⟩
  simp only at hx hy
  rw [<-h.ncalls] at hy
  by_cases e:S.calls.length-1=i
  ·subst e
   rw [List.getElem?_set_self (by omega)] at hx
   rw [List.getElem?_set_self (by have:=h.ncalls; omega)] at hy
   injection hx with hx
   injection hy with hy
   subst hx hy
   exact hf
  ·rw [List.getElem?_set_ne e] at hx hy
   exact h.calls i x y hx hy
theorem EqR.newCell (h:EqR ρ S S') (l:List Int):EqR (fun a b=>ρ a b\/(a=S.nc/\b=S'.nc)) (S.newCell l) (S'.newCell l):=by
 have hm:∀ a b,ρ a b->ρ a b\/(a=S.nc/\b=S'.nc):=fun _ _=>.inl
 refine ⟨fun a b b' h1 h2=>?_,fun a a' b h1 h2=>?_,fun a b h1=>?_,fun a b h1=>?_,h.base.mono hm,h.ncalls,fun i x y hx hy=>(h.calls i x y hx hy).mono hm,h.tin,h.tout⟩
 ·rcases h1 with h1|⟨h1,h1'⟩<;>rcases h2 with h2|⟨h2,h2'⟩
  ·exact h.fn _ _ _ h1 h2
  ·have:=(h.lt _ _ h1).1; omega
  ·have:=(h.lt _ _ h2).1; omega
  ·omega
 ·rcases h1 with h1|⟨h1,h1'⟩<;>rcases h2 with h2|⟨h2,h2'⟩
  ·exact h.inj _ _ _ h1 h2
  ·have:=(h.lt _ _ h1).2; omega
  ·have:=(h.lt _ _ h2).2; omega
  ·omega
 ·simp only [ST.newCell]
  rcases h1 with h1|⟨h1,h1'⟩
  ·have:=h.lt _ _ h1; omega
  ·omega
 ·simp only [ST.newCell]
  rcases h1 with h1|⟨rfl,rfl⟩
  ·have:=h.lt _ _ h1
   rw [if_neg (by omega),if_neg (by omega)]
   exact h.cell _ _ h1
  ·simp
theorem OpE.op {R R':Int×ST} (h:OpE ρ R R'):OpS True Eqv R R':=⟨fun h0=>⟨by rw [h.1]; exact h0,ρ,h.2 h0⟩,fun _ _=>h.1⟩
end
theorem Eqv.refl {S:ST} (h:S.WF):Eqv S S:=by
 obtain ⟨kd,h1,h2,-⟩:=h.ex
 have key:∀ f:FR,f.WF kd S.nc->FrR (fun a b=>a=b/\a<S.nc) f f:=fun f hf=>⟨rfl,rfl,rfl,⟨hf.len,hf.loc⟩,fun i a b ha hb=>by
  rw [ha] at hb
  injection hb with hb
  exact ⟨hb,hf.num a (List.mem_of_getElem? ha)⟩⟩
 exact ⟨fun a b=>a=b/\a<S.nc,by rintro a b b' ⟨rfl,_⟩ ⟨rfl,_⟩; rfl,by rintro a a' b ⟨rfl,_⟩ ⟨rfl,_⟩; rfl,by rintro a b ⟨rfl,h⟩; exact ⟨h,h⟩,by rintro a b ⟨rfl,_⟩; rfl,key _ h1,rfl,fun i f g hf hg=>by
  rw [hf] at hg
  injection hg with hg
  subst hg
  exact key f (h2 f (List.mem_of_getElem? hf)),rfl,rfl⟩
theorem FrR.symm {ρ:Nat->Nat->Prop} {f g:FR} (h:FrR ρ f g):FrR (fun a b=>ρ b a) g f:=⟨h.vs.symm,h.loc.symm,h.len.symm,by rw [<-h.vs,<-h.len,<-h.loc]; exact h.full,fun i a b ha hb=>h.cs i b a hb ha⟩
theorem Eqv.symm {S S':ST} (h:Eqv S S'):Eqv S' S:=by
 obtain ⟨ρ,h⟩:=h
 exact ⟨fun a b=>ρ b a,fun a b b' h1 h2=>h.inj _ _ _ h1 h2,fun a a' b h1 h2=>h.fn _ _ _ h1 h2,fun a b h1=>(h.lt _ _ h1).symm,fun a b h1=>(h.cell _ _ h1).symm,h.base.symm,h.ncalls.symm,fun i f g hf hg=>(h.calls i g f hg hf).symm,h.tin.symm,h.tout.symm⟩
theorem FrR.trans {ρ ρ':Nat->Nat->Prop} {f g k:FR} (h:FrR ρ f g) (h':FrR ρ' g k):FrR (fun a c=>∃ b,ρ a b/\ρ' b c) f k :=
 ⟨h.vs.trans h'.vs,h.loc.trans h'.loc,h.len.trans h'.len,h.full,fun i a c ha hc=>by
  have hi:i<g.cs.length:=by rw [<-h.len]; exact (List.getElem?_eq_some_iff.1 ha).1
  exact ⟨_,h.cs i a _ ha (List.getElem?_eq_getElem hi),h'.cs i _ c (List.getElem?_eq_getElem hi) hc⟩⟩
theorem Eqv.trans {S S' S'':ST} (h:Eqv S S') (h':Eqv S' S''):Eqv S S'':=by
 obtain ⟨ρ,h⟩:=h
 obtain ⟨ρ',h'⟩:=h'
 refine ⟨fun a c=>∃ b,ρ a b/\ρ' b c,?_,?_,?_,?_,h.base.trans h'.base,h.ncalls.trans h'.ncalls,fun i f k hf hk=>?_,h'.tin.trans h.tin,h'.tout.trans h.tout⟩
 ·rintro a c c' ⟨b,h1,h2⟩ ⟨b',h3,h4⟩
  have:=h.fn _ _ _ h1 h3
  subst this
  exact h'.fn _ _ _ h2 h4
 ·rintro a a' c ⟨b,h1,h2⟩ ⟨b',h3,h4⟩
  have:=h'.inj _ _ _ h2 h4
  subst this
  exact h.inj _ _ _ h1 h3
 ·rintro a c ⟨b,h1,h2⟩
  exact ⟨(h.lt _ _ h1).1,(h'.lt _ _ h2).2⟩
 ·rintro a c ⟨b,h1,h2⟩
  exact (h'.cell _ _ h2).trans (h.cell _ _ h1)
 ·have hi:i<S'.calls.length:=by rw [<-h.ncalls]; exact (List.getElem?_eq_some_iff.1 hf).1
  exact (h.calls i f _ hf (List.getElem?_eq_getElem hi)).trans (h'.calls i _ k (List.getElem?_eq_getElem hi) hk)
theorem FrR.map {ρ:Nat->Nat->Prop} {S S':ST} (h:EqR ρ S S') (n:Nat):(S'.base.cs.take n).map S'.cell=(S.base.cs.take n).map S.cell:=by
 refine List.ext_getElem? fun i=>?_
 rw [List.getElem?_map,List.getElem?_map,List.getElem?_take,List.getElem?_take]
 split
 ·rcases Nat.lt_or_ge i S.base.cs.length with hi|hi
  ·have hi':i<S'.base.cs.length:=by rw [<-h.base.len]; exact hi
   rw [List.getElem?_eq_getElem hi,List.getElem?_eq_getElem hi']
   simp only [Option.map_some,Option.some.injEq]
   exact h.cell _ _ (h.base.cs i _ _ (List.getElem?_eq_getElem hi) (List.getElem?_eq_getElem hi'))
  ·rw [List.getElem?_eq_none hi,List.getElem?_eq_none (by rw [<-h.base.len]; exact hi)]
   rfl
 ·rfl
theorem Eqv.state {S S':ST} (h:Eqv S S'):S'.state=S.state:=by
 obtain ⟨ρ,h⟩:=h
 unfold ST.state
 rw [h.tin,h.tout,<-h.base.len,<-h.base.loc,FrR.map h]
theorem own_chg {W W':World} {base:Nat} {E:TypeId} {size:Nat} {v:Value} {n:Nat} {xs:List Value} (h:W.ownsRow base E size v n xs) (hk:∀ b,v.ownBlock=some b->W'.heap[b]?=W.heap[b]?):W'.ownsRow base E size v n xs:=by
 obtain ⟨e1,h2⟩:=h
 refine ⟨e1,?_⟩
 rcases h2 with h2|⟨g,cap,cur,rfl,hb,hg,rest⟩
 ·exact .inl h2
 ·exact .inr ⟨g,cap,cur,rfl,hb,(hk g rfl).trans hg,rest⟩
structure RC where
 w:World
 n0:Nat
 sb:Nat
 rb:Nat
 p:PG
 A1:Option Addr
 c1:Nat
 A2:Option Addr
 c2:Nat
 A3:Option Addr
 c3:Nat
 F:Int
 ev:Value
 kb:Nat->Prop
structure RC.Ok (C:RC):Prop where
 pg:PgR C.w Any C.p C.A1 C.c1 C.A2 C.c2 C.A3 C.c3
 F:I64 C.F
 F6:C.F<=1000000
 rb:C.n0<=C.rb/\¬ C.kb C.rb
 ev:C.ev.ownBlock≠some C.rb/\∀ b,C.ev.ownBlock=some b->¬ C.kb b
 ps:∀ q∈C.p.prs,q.ps.length<=1000
def RC.cells (C:RC) (n:Nat):Array Value := #[.slice C.A1 C.p.vs.length C.c1,.slice C.A2 C.p.prs.length C.c2,.int .u8 C.p.m.k,.int .i64 C.p.m.n,.string C.p.m.s,.slice C.A3 C.p.m.ks.length C.c3,.pointer (some ⟨C.sb,0,none⟩),.int .i64 n,.int .i64 C.F,C.ev]
def FB (j:Nat) (S:ST):Prop:=S.base.vs.length<=1000+j/\∀ f∈S.calls,f.vs.length<=1000+j
structure RI (C:RC) (W:World) (r:RS):Prop where
 ks:KS C.w C.n0 C.sb (fun b=>C.kb b\/b=C.rb\/C.ev.ownBlock=some b) W r.S
 box:W.heap[C.rb]?=some (.cells (C.cells r.n) 174 (0,0))
 ent:W.ownsRow C.n0 3 1 C.ev r.ent.length (flatI (r.ent.map Int.ofNat))
 el:r.ent.length=C.p.prs.length
 en:∀ c∈r.ent,c<=r.n
 n:(r.n:Int)<=1000000
 fb:FB r.n r.S
section
variable {C:RC} {W W' W'':World} {r r':RS}
theorem RI.below (h:RI C W r):Below C.w.heap.size C.w W:=h.ks.bl
theorem RI.later (h:RI C W r) (hb:Below W.heap.size W W'):RI C W' r:=⟨h.ks.later hb,blk_bl h.box hb,own_later h.ent hb,h.el,h.en,h.n,h.fb⟩
theorem RI.cells (h:RI C W r):W.cell? ⟨C.rb,6,none⟩=some (.pointer (some ⟨C.sb,0,none⟩))/\W.cell? ⟨C.rb,7,none⟩=some (.int .i64 r.n)/\W.cell? ⟨C.rb,8,none⟩=some (.int .i64 C.F)/\W.cell? ⟨C.rb,9,none⟩=some C.ev/\∀ o,W.frozen? ⟨C.rb,o,none⟩=false :=
 ⟨zc h.box rfl,zc h.box rfl,zc h.box rfl,zc h.box rfl,fun _=>zf h.box⟩
theorem FB.mono {j k:Nat} {S:ST} (h:FB j S) (hk:j<=k):FB k S:=⟨by have:=h.1; omega,fun f hf=>by have:=h.2 f hf; omega⟩
theorem Kpt.chg {n0:Nat} {kb Cc:Nat->Prop} (h:Chg Cc W W') (hC:∀ b,Cc b->n0<=b/\¬ kb b):Kpt n0 kb W W' :=
 ⟨h.size,fun b hb hk=>h.block b hb fun hc=>by rcases hk with hk|hk; have:=(hC b hc).1; omega; exact (hC b hc).2 hk⟩
theorem RI.tick (hC:C.Ok) (h:RI C W r) (hF:(r.n:Int)<C.F):RI C (W.setCell ⟨C.rb,7,none⟩ (.int .i64 ((r.n:Int)+1))) { r with n:=r.n+1 }/\Kpt C.n0 C.kb W (W.setCell ⟨C.rb,7,none⟩ (.int .i64 ((r.n:Int)+1))):=by
 have hch:Chg (fun b=>b=C.rb) W (W.setCell ⟨C.rb,7,none⟩ (.int .i64 ((r.n:Int)+1))):=(Chg.refl (fun b=>b=C.rb) W).setCell (p:=⟨C.rb,7,none⟩) (.inl rfl) _
 have hn:=h.ks.hn
 refine ⟨⟨h.ks.chg hch fun b _ e=>⟨by have:=hC.rb.1; omega,.inr (.inr (.inl e))⟩,?_,own_chg h.ent fun b hb=>?_,h.el,fun c hc=>by have:=h.en c hc; simp only; omega,by have:=hC.F6; simp only; omega,h.fb.mono (Nat.le_succ _)⟩,Kpt.chg hch fun b e=>⟨by have:=hC.rb.1; omega,by rw [e]; exact hC.rb.2⟩⟩
 ·have:=heap_setCell_same W C.rb 7 _ _ (.int .i64 ((r.n:Int)+1)) h.box
  rw [this]
  simp [RC.cells]
 ·have hne:b≠C.rb:=fun e=>hC.ev.1 (by rw [hb,e])
  have hlt:=(h.ent.lt b hb).2
  exact hch.block b hlt hne
end
section
variable {C:RC} {W W' W'':World} {r r':RS} {lo hi:Nat}
end
theorem wrap64_I64 (x:Int):I64 (wrap64 x):=by
 unfold wrap64 I64
 constructor<;>omega
theorem numI_I64 (b:Bool):I64 (numI b):=by
 cases b
 ·exact ⟨by decide,by decide⟩
 ·exact ⟨by decide,by decide⟩
theorem zero_I64:I64 0:=⟨by decide,by decide⟩
theorem tmod_I64 {x y:Int} (h:I64 x):I64 (x.tmod y):=by
 obtain ⟨h1,h2⟩:=h
 rcases Int.le_total 0 x with h0|h0
 ·have a1:=Int.tmod_nonneg y h0
  have a2:(x.tmod y).natAbs<=x.natAbs:=by rw [Int.natAbs_tmod]; exact Nat.mod_le _ _
  exact ⟨by omega,by omega⟩
 ·have a1:=Int.tmod_nonneg y (show 0 <= -x by omega)
  rw [Int.neg_tmod] at a1
  have a2:(x.tmod y).natAbs<=x.natAbs:=by rw [Int.natAbs_tmod]; exact Nat.mod_le _ _
  exact ⟨by omega,by omega⟩
theorem divE_I64 {k x y:Int} (hx:I64 x):I64 (divE k x y).1:=by
 unfold divE
 repeat' split
 all_goals first|exact zero_I64|exact wrap64_I64 _|exact tmod_I64 hx
theorem unE_I64 (k x:Int):I64 (unE k x).1:=by
 unfold unE
 split
 ·exact wrap64_I64 _
 ·exact numI_I64 _
theorem ite_I64 {c:Prop} [Decidable c] {a b:Int×Int} (ha:I64 a.1) (hb:I64 b.1):I64 (if c then a else b).1:=by
 split
 ·exact ha
 ·exact hb
theorem apE_I64 {k x y:Int} (hx:I64 x):I64 (apE k x y).1:=by
 unfold apE
 repeat' apply ite_I64
 all_goals first|exact wrap64_I64 _|exact divE_I64 hx|exact tmod_I64 hx|exact wrapI64 _|exact numI_I64 _|exact zero_I64
theorem getD_I64 {l:List Int} (h:∀ x∈l,I64 x) (i:Nat):I64 (l.getD i 0):=by
 rw [List.getD_eq_getElem?_getD]
 rcases hx:l[i]? with _|x
 ·exact zero_I64
 ·exact h x (List.mem_of_getElem? hx)
theorem evK_I64 {look:ByteArray->Option (List Int)} (hl:∀ s l,look s=some l->l.length<=100000/\∀ x∈l,I64 x) {k n:Int} {s:ByteArray} {rs:List (Int×Int)} (hn:I64 n) (h0:I64 (rs.getD 0 (0,0)).1):I64 (evK look k n s rs).1:=by
 unfold evK
 split
 ·exact hn
 ·split
  ·unfold varE
   split
   ·exact zero_I64
   ·rename_i l hlk
    obtain ⟨h1,h2⟩:=hl s l hlk
    repeat' split
    all_goals first|exact getD_I64 h2 _|exact zero_I64|exact ⟨by simp only; omega,by simp only; omega⟩
  ·repeat' split
   all_goals first|exact unE_I64 _ _|exact apE_I64 h0|exact zero_I64
section
variable {P:Program} {ops:Array Oper} {Q:Exit->Act->World->Prop} {md:Region.Mode} {S1 S2:World->Prop} {k:Nat}
end
def Up (n:Nat) (o:Out):Prop:=∀ r,o=.ok r->n<=r.n
section
variable {m n:Nat} {o:Out} {F:Int} {t:T} {r:RS}
theorem Up.of (h:Good n o):Up n o:=h.2
theorem Up.mono (h:Up n o) (hm:m<=n):Up m o:=fun r e=>Nat.le_trans hm (h r e)
theorem Up.bind {f:RS->Out} (h:Up n o) (hf:∀ r,n<=r.n->Up m (f r)):Up m (o.bind f):=by
 cases o with
 | gas=>intro r e; cases e
 | err x=>intro r e; cases e
 | ok r=>exact hf r (h r rfl)
end
def stp (rb:Nat) (W:World):Nat:=match W.cell? ⟨rb,7,none⟩ with
 | some (.int _ n)=>n.toNat
 | _=>0
section
variable {C:RC} {W W':World} {r:RS} {S':ST}
end
theorem FB.fr {j:Nat} {S S':ST} (h:FB j S) (hf:FrK S S'):FB (j+1) S':=by
 obtain ⟨h1,h2,_⟩:=hf
 unfold FB
 rw [h1,h2]
 exact h.mono (Nat.le_succ _)
theorem FB.cur {j:Nat} {S:ST} (h:FB j S):S.cur.vs.length<=1000+j:=by
 rcases Nat.eq_zero_or_pos S.calls.length with h0|h0
 ·rw [cur_0 h0]; have:=h.1; omega
 ·rw [cur_1 h0]; exact h.2 _ (List.getElem_mem _)
theorem FB.setCur {j:Nat} {S:ST} (h:FB j S) (f:FR) (hf:f.vs.length<=S.cur.vs.length+1):FB (j+1) (S.setCur f):=by
 unfold ST.setCur
 by_cases h0:S.calls.length=0
 ·rw [if_pos h0]
  rw [cur_0 h0] at hf
  exact ⟨by have:=h.1; show f.vs.length<=_; omega,(h.mono (Nat.le_succ _)).2⟩
 ·rw [if_neg h0]
  refine ⟨(h.mono (Nat.le_succ _)).1,fun g hg=>?_⟩
  rw [cur_1 (by omega)] at hf
  rcases List.mem_or_eq_of_mem_set hg with hg|rfl
  ·exact (h.mono (Nat.le_succ _)).2 g hg
  ·have:=h.2 _ (List.getElem_mem (l:=S.calls) (n:=S.calls.length-1) (by omega)); omega
theorem FB.open_ {j:Nat} {S:ST} (h:FB j S) (v:VD) (x:Int):FB (j+1) (openE S v x).2:=by
 unfold openE
 repeat' split
 all_goals first|exact h.mono (Nat.le_succ _)|exact FB.setCur (S:=S.newCell _) h _ (by rw [newCell_cur]; simp [FR.push])
theorem FB.close_ {j:Nat} {S:ST} (h:FB j S) (s:ByteArray) (x:Int):FB (j+1) (closeE S s x).2:=by
 unfold closeE
 repeat' split
 all_goals first|exact h.mono (Nat.le_succ _)|skip
 all_goals exact h.setCur _ (by simp [FR.pop]; omega)
theorem FB.enter {j:Nat} {S:ST} (h:FB j S) (ps:List VD) (ss:List ByteArray) (hp:ps.length<=1000):FB (j+1) (enterE S ps ss).2:=by
 unfold enterE
 split
 ·exact h.mono (Nat.le_succ _)
 ·rcases he:entL S.cur ⟨[],[],0⟩ (ps.zip ss) with e|f
  ·exact h.mono (Nat.le_succ _)
  ·unfold entR
   dsimp only
   split
   ·exact h.mono (Nat.le_succ _)
   ·refine ⟨(h.mono (Nat.le_succ _)).1,fun g hg=>?_⟩
    rcases List.mem_append.1 hg with hg|hg
    ·exact (h.mono (Nat.le_succ _)).2 g hg
    ·simp at hg
     subst hg
     have:=entL_len _ _ _ he
     simp at this
     omega
theorem FB.leave {j:Nat} {S:ST} (h:FB j S):FB (j+1) (leaveE S).2:=by
 unfold leaveE
 split
 ·exact h.mono (Nat.le_succ _)
 ·exact ⟨(h.mono (Nat.le_succ _)).1,fun g hg=>(h.mono (Nat.le_succ _)).2 g (List.mem_of_mem_take hg)⟩
theorem FB.do_ {j:Nat} {S:ST} (h:FB j S) (t:T):FB (j+1) (doE S t).2:=h.fr (doE_fr _ _)
theorem FB.undo {j:Nat} {S:ST} (h:FB j S) (t:T):FB (j+1) (undoE S t).2:=h.fr (undoE_fr _ _)
end Go.Proofs.YtckhofdinldhpaaGreat
namespace Go.Proofs.YtckhofdinldhpaaGreat
open Go.RowKit
mutual
/-- ast.limited: what is left of the count,or none. -/
def lim:T->Nat->Nat->Option Nat
 | .nd _ _ _ ks,d,l=>if d=0\/l=0 then none else lims ks (d-1) (l-1)
def lims:List T->Nat->Nat->Option Nat
 | [],_,l=>some l
 | t::ts,d,l=>match lim t d l with
  | none=>none
  | some l'=>lims ts d l'
end
theorem lims_append (ts us:List T) (d:Nat):∀ l,lims (ts++us) d l=(lims ts d l).bind fun r=>lims us d r:=by
 induction ts with
 | nil=>intro l; simp [lims]
 | cons t ts ih =>
  intro l
  simp only [List.cons_append,lims]
  cases lim t d l with
  | none=>rfl
  | some r=>exact ih r
theorem lims_one (t:T) (d l:Nat):lims [t] d l=lim t d l:=by
 simp only [lims]
 cases lim t d l<;>rfl
theorem lims_take {ks:List T} {d l r j:Nat} (hj:j<ks.length) (h:lims (ks.take j) d l=some r):lims (ks.take (j+1)) d l=lim ks[j] d r:=by
 rw [List.take_succ_eq_append_getElem hj,lims_append,h]
 exact lims_one _ _ _
theorem lims_none {ks:List T} {d l j:Nat} (h:lims (ks.take j) d l=none):lims ks d l=none:=by
 rw [<-List.take_append_drop j ks,lims_append,h]
 rfl
theorem lim_le (t:T):∀ d l r,lim t d l=some r->r<=l:=by
 induction t using T.ind with
 | _ k n s ks ih =>
 intro d l r h
 rw [lim] at h
 split at h
 ·cases h
 ·have key:∀ (us:List T),(∀ t∈us,∀ d l r,lim t d l=some r->r<=l)->∀ l r d,lims us d l=some r->r<=l:=by
   intro us
   induction us with
   | nil=>intro _ l r d h; simp [lims] at h; omega
   | cons t us ih2 =>
    intro hu l r d h
    simp only [lims] at h
    cases h1:lim t d l with
    | none=>rw [h1] at h; cases h
    | some r1 =>
     rw [h1] at h
     have:=hu t (by simp) d l r1 h1
     have:=ih2 (fun t ht=>hu t (by simp [ht])) r1 r d h
     omega
  have:=key ks ih _ _ _ h
  omega
def LimE (w:World) (b:Nat) (o:Option Nat) (e:Ending) (w':World):Prop :=
 e=.returned (.bool o.isSome)/\∃ l':Nat,w'.heap[b]?=some (.cells #[.int .i64 (l':Int)] 3 (0,0))/\(∀ r,o=some r->l'=r)/\w.grownBy w' (some b)
theorem grown_trans {a b c:World} {row:Option Nat} (h1:a.grownBy b row) (h2:b.grownBy c row):a.grownBy c row :=
 ⟨h2.os.trans h1.os,h2.tape.trans h1.tape,h2.output.trans h1.output,Nat.le_trans h1.size h2.size,fun i hi hne=>(h2.block i (Nat.lt_of_lt_of_le hi h1.size) hne).trans (h1.block i hi hne)⟩
theorem grown_alloc {w:World} (o:Obj) (row:Option Nat):w.grownBy (w.alloc o) row :=
 let h:=(Below.refl w.heap.size w).alloc (Nat.le_refl _) o
 ⟨h.os,h.tape,h.output,h.size,fun b hb _=>h.block b hb⟩
theorem NV.grown {w w':World} {S:Nat->Prop} {t:T} {v:Value} {b:Nat} (h:NV w S t v) (hg:w.grownBy w' (some b)) (hb:¬ S b):NV w' S t v :=
 h.keep (fun _ h _=>h) fun i hi hlt=>hg.block i hlt fun e=>by injection e with e; subst e; exact hb hi
theorem RowAt.grown {w w':World} {S:Nat->Prop} {A:Option Addr} {ts:List T} {b:Nat} (h:RowAt w S A ts) (hg:w.grownBy w' (some b)) (hb:¬ S b):RowAt w' S A ts :=
 h.keep (fun _ h _=>h) fun i hi hlt=>hg.block i hlt fun e=>by injection e with e; subst e; exact hb hi
theorem limited_any (t:T):∀ (d l:Nat) (S:Nat->Prop) (v:Value) (w:World) (b:Nat),NV w S t v->¬ S b->d<=80->l<=2000->w.heap[b]?=some (.cells #[.int .i64 (l:Int)] 3 (0,0)) ->
  Calls Tryz.prog 90 #[v,.int .i64 (d:Int),.pointer (some ⟨b,0,none⟩)] w (LimE w b (lim t d l)):=by
 induction t using T.ind with
 | _ k n s ks ih =>
 intro d l S v w b hv hSb hd hl hbx
 obtain ⟨A,c,rfl,hf,hlk,hlc,hrow⟩:=hv.open_
 simp only [T.k_nd,T.n_nd,T.s_nd,T.ks_nd] at *
 have hlk':=LK_int hlk
 have IH:=zh ih
 have HROW:=zh hrow
 have HSB:=zh hSb
 have HBX:=zh hbx
 have hbl:=blk_lt hbx
 have c0:=cell_al (zc (i:=0) (u:=.int .i64 (l:Int)) hbx rfl)
 have f0:∀ o:Obj,(w.alloc o).frozen? ⟨b,0,none⟩=false:=fun o=>by
  have:(w.alloc o).heap[b]?=some (.cells #[.int .i64 (l:Int)] 3 (0,0)):=(Below.heap_alloc w o b hbl).trans hbx
  exact zf this
 clear hv ih hrow hSb hf hlk hbx
 have hne:¬ b=w.heap.size:=by omega
 have hne':¬ w.heap.size=b:=by omega
 by_cases hd0:d=0
 ·subst hd0
  have HX:=zh (show lim (.nd k n s ks) 0 l=none by rw [lim]; simp)
  go_enter Tryz.func90,Tryz.ntmps90
  go_wp2_with fail
  go_ret
  rw [HX.out]
  exact ⟨rfl,l,(Below.heap_alloc w _ b hbl).trans HBX.out,(fun r h=>by cases h),grown_alloc _ _⟩
 by_cases hl0:l=0
 ·subst hl0
  have HX:=zh (show lim (.nd k n s ks) d 0=none by rw [lim]; simp)
  have fd:((d:Int)==0)=false:=by simpa using hd0
  go_enter Tryz.func90,Tryz.ntmps90
  go_wp2_with fail
  go_ret
  rw [HX.out]
  exact ⟨rfl,0,(Below.heap_alloc w _ b hbl).trans HBX.out,(fun r h=>by cases h),grown_alloc _ _⟩
 obtain ⟨d',rfl⟩:∃ d',d=d'+1:=⟨d-1,by omega⟩
 obtain ⟨l',rfl⟩:∃ l',l=l'+1:=⟨l-1,by omega⟩
 have HX:=zh (show lim (.nd k n s ks) (d'+1) (l'+1)=lims ks d' l' by rw [lim,if_neg (by omega)]; simp)
 rw [show ((d'+1:Nat):Int)=(d':Int)+1 from rfl]
 have fd:((d':Int)+1==0)=false:=by simp; omega
 have fl:((l':Int)+1==0)=false:=by simp; omega
 clear hd0 hl0
 have hb1:(w.setCell ⟨b,0,none⟩ (.int .i64 (l':Int))).heap[b]?=some (.cells #[.int .i64 (l':Int)] 3 (0,0)):=by
  have h1:=heap_setCell_same w b 0 _ 3 (.int .i64 (l':Int)) HBX.out
  simpa using h1
 have hz1:(w.setCell ⟨b,0,none⟩ (.int .i64 (l':Int))).heap.size=w.heap.size:=by simp [World.setCell]
 obtain ⟨W0,hW0⟩:∃ W0,(w.setCell ⟨b,0,none⟩ (.int .i64 (l':Int))).alloc (.cells #[.int .u8 k,.int .i64 n,.string s,.slice A ks.length c] 29)=W0:=⟨_,rfl⟩
 have H0:W0.heap[b]?=some (.cells #[.int .i64 (l':Int)] 3 (0,0)):=by
  rw [<-hW0,Below.heap_alloc _ _ b (by rw [hz1]; exact hbl)]; exact hb1
 have A0:W0.heap[w.heap.size]?=some (.cells #[.int .u8 k,.int .i64 n,.string s,.slice A ks.length c] 29 (0,0)):=by
  rw [<-hW0,<-hz1]; exact heap_alloc_new _ _
 have G0:w.grownBy W0 (some b):=by
  rw [<-hW0]
  refine grown_trans (only_set (only_refl w (some b)) (p:=⟨b,0,none⟩) rfl _) (grown_alloc _ _)
 have HH:=zh (And.intro H0 (And.intro A0 G0))
 have HW0:=zh hW0
 clear H0 G0 A0 hb1 hz1 hW0
 go_enter Tryz.func90,Tryz.ntmps90
 go_wp2_with fail
 rw [HW0.out]
 clear c0 f0
 go_loopw [25] (fun i wr=>∃ (j lc:Nat),j<=ks.length/\i=.int .i64 j/\lc<=2000/\Hid (lims (ks.take j) d' l'=some lc)/\wr.heap[b]?=some (.cells #[.int .i64 (lc:Int)] 3 (0,0))/\wr.heap[w.heap.size]?=some (.cells #[.int .u8 k,.int .i64 n,.string s,.slice A ks.length c] 29 (0,0))/\w.grownBy wr (some b)) (fun i _=>ks.length-(intOf i).toNat)
 case atStart=>exact ⟨0,l',Nat.zero_le _,rfl,by omega,zh (by simp [lims]),HH.out.1,HH.out.2.1,HH.out.2.2⟩
 case round =>
  obtain ⟨j,lc,hj,rfl,hlc2,HLI,hbx,hax,hg⟩:=hrel
  clear HH HW0
  by_cases hlt:j<ks.length
  ·obtain ⟨a,t,A1,c1,rfl,_,Ht,⟨q0,q1,q2,q3⟩,hn⟩:=(HROW.out.grown hg HSB.out).nd hlt
   have hI:=IH.out ks[j] (List.getElem_mem hlt)
   rw [Ht.out] at hI
   have hbl2:=blk_lt hbx
   have hal:∀ o:Obj,(wr.alloc o).heap[b]?=some (.cells #[.int .i64 (lc:Int)] 3 (0,0)):=fun o=>(Below.heap_alloc wr o b hbl2).trans hbx
   have HI1:=zh (hI d' lc S _ (wr.alloc (.cells #[.int .u8 t.k,.int .i64 t.n,.string t.s,.slice A1 t.ks.length c1] 29)) b (hn.later ((Below.refl _ _).alloc (Nat.le_refl _) _)) HSB.out (by omega) hlc2 (hal _))
   have HT:=zh (show lims (ks.take (j+1)) d' l'=lim t d' lc by rw [lims_take hlt HLI.out,Ht.out])
   have HG:=zh (grown_trans hg (grown_alloc (.cells #[.int .u8 t.k,.int .i64 t.n,.string t.s,.slice A1 t.ks.length c1] 29) _))
   have HAX:=zh (show ∀ o:Obj,(wr.alloc o).heap[w.heap.size]?=some (.cells #[.int .u8 k,.int .i64 n,.string s,.slice (some a) ks.length c] 29 (0,0)) from fun o=>(Below.heap_alloc wr o _ (blk_lt hax)).trans hax)
   clear hI hn hbx hax hal
   go_wp2_with fail
   refine HI1.out.mono ?_
   rintro e w1 ⟨rfl,l1,hb1,hl1,hg1⟩
   have HG1:=zh (grown_trans HG.out hg1)
   have HA1:=zh ((hg1.block _ (blk_lt (HAX.out _)) (fun e=>hne' (by injection e))).trans (HAX.out _))
   have HB1:=zh hb1
   clear hb1 hg1
   cases ho:lim t d' lc with
   | none =>
    have HX2:=zh (show lims ks d' l'=none from lims_none (j:=j+1) (by rw [HT.out,ho]))
    go_wp2_with fail
    go_ret
    rw [HX.out,HX2.out]
    exact ⟨rfl,l1,HB1.out,(fun r h=>by cases h),HG1.out⟩
   | some r =>
    have hr1:=hl1 r ho
    subst hr1
    have hle:l1<=2000:=by have:=lim_le t d' lc l1 ho; omega
    have HT2:=zh (show lims (ks.take (j+1)) d' l'=some l1 by rw [HT.out,ho])
    clear hl1 ho
    go_wp2_with fail
    go_roundw
    case rel=>exact ⟨j+1,l1,by omega,by go_num,hle,HT2,HB1.out,HA1.out,HG1.out⟩
    case measure=>simp [intOf]; omega
  ·obtain rfl:j=ks.length:=by omega
   have HL2:=zh (show lims ks d' l'=some lc by have:=HLI.out; rw [List.take_of_length_le (by omega)] at this; exact this)
   go_wp2_with fail
   go_ret
   rw [HX.out,HL2.out]
   exact ⟨rfl,lc,hbx,(fun r h=>by cases h; rfl),hg⟩
def isBodyB (t:T):Bool:=(lim t 80 2000).isSome&&isB t
theorem isBody_any (t:T) (v:Value) (w:World) (hv:NV w Any t v):Calls Tryz.prog 52 #[v] w fun e w'=>e=.returned (.bool (isBodyB t))/\Below w.heap.size w w':=by
 have HV:=zh hv
 have HX:=zh (show isBodyB t=((lim t 80 2000).isSome&&isB t) from rfl)
 obtain ⟨A,c,rfl,hf,hlk,hlc,hrow⟩:=hv.open_
 clear hf hlk hrow hv hlc
 generalize t.k=k,t.n=n,t.s=s,t.ks.length=l at *
 have HV2:=zh (show NV w (fun b=>b<w.heap.size) t (nv k n s A l c) from HV.out.keep (fun _ _ h=>h) fun _ _ _=>rfl)
 have hb2:∀ o o',Below w.heap.size w ((w.alloc o).alloc o'):=fun o o'=>((Below.refl _ _).alloc (Nat.le_refl _) _).alloc (by simp) _
 have HB2:=zh hb2
 have HBX:=zh (show ∀ o:Obj,((w.alloc o).alloc (.cells #[.int .i64 2000] 3)).heap[w.heap.size+1]?=some (.cells #[.int .i64 ((2000:Nat):Int)] 3 (0,0)) from fun o=>by
  have:=heap_alloc_new (w.alloc o) (.cells #[.int .i64 2000] 3)
  simpa using this)
 clear hb2
 go_enter Tryz.func52,Tryz.ntmps52
 go_wp2_with fail
 refine (limited_any t 80 2000 (fun b=>b<w.heap.size) _ _ (w.heap.size+1) (HV2.out.later (HB2.out _ _)) (fun h=>by have h':w.heap.size+1<w.heap.size:=h; omega) (by omega) (by omega) (HBX.out _)).mono ?_
 rintro e w1 ⟨rfl,l1,hb1,_,hg1⟩
 have q1:Below w.heap.size w w1:=by
  refine (HB2.out (.cells #[.int .u8 k,.int .i64 n,.string s,.slice A l c] 29) (.cells #[.int .i64 2000] 3)).grown hg1 (by simp; omega) ?_
  intro g e; injection e with e; omega
 have hc:∀ i,w1.cell? ⟨w.heap.size,i,none⟩=((w.alloc (.cells #[.int .u8 k,.int .i64 n,.string s,.slice A l c] 29)).alloc (.cells #[.int .i64 2000] 3)).cell? ⟨w.heap.size,i,none⟩:=fun i =>
  World.cell?_of_block (a:=⟨w.heap.size,i,none⟩) (hg1.block _ (by simp; omega) (fun e=>by simp at e))
 have x0:w1.cell? ⟨w.heap.size,0,none⟩=some (.int .u8 k):=(hc 0).trans (by simp)
 have x1:w1.cell? ⟨w.heap.size,1,none⟩=some (.int .i64 n):=(hc 1).trans (by simp)
 have x2:w1.cell? ⟨w.heap.size,2,none⟩=some (.string s):=(hc 2).trans (by simp)
 have x3:w1.cell? ⟨w.heap.size,3,none⟩=some (.slice A l c):=(hc 3).trans (by simp)
 have HX1:=HX.out
 clear hc hg1 hb1
 cases ho:(lim t 80 2000).isSome
 ·rw [ho] at HX1
  go_wp2_with fail
  go_ret
  exact ⟨by rw [HX1]; rfl,q1⟩
 ·rw [ho] at HX1
  have HX2:=zh HX1
  clear HX1
  go_wp2_with fail
  refine (IsBlock_any t _ _ (HV.out.later q1)).mono ?_
  rintro e w2 ⟨rfl,bw2⟩
  go_wp2_with fail
  go_ret
  exact ⟨by rw [HX2.out]; simp,q1.trans (bw2.mono q1.size)⟩
def declB (v:VD):Bool:=nameB v.s&&(if v.k=1\/v.k=3 then v.n==0 else if v.k=2 then decide (1<=v.n/\v.n<=16) else false)
theorem all_take {vs:List VD} {f:VD->Bool} {j:Nat} (hj:j<vs.length) (h:(vs.take j).all f=true):(vs.take (j+1)).all f=f vs[j]:=by
 rw [List.take_succ_eq_append_getElem hj,List.all_append,h]; simp
theorem all_none {vs:List VD} {f:VD->Bool} {j:Nat} (hj:j<vs.length) (h:f vs[j]=false):vs.all f=false:=by
 simp only [List.all_eq_false]
 exact ⟨vs[j],List.getElem_mem hj,by simp [h]⟩
theorem declared_any (vs:List VD) (A:Option Addr) (c:Nat) (S:Nat->Prop) (w:World) (hrow:RowV w S A vs) (hl:vs.length<=LV) (_hlc:vs.length<=c) :
  Calls Tryz.prog 50 #[.slice A vs.length c] w fun e w'=>e=.returned (.bool (vs.all declB))/\Below w.heap.size w w':=by
 have hl':=LV_int hl
 have HROW:=zh hrow
 clear hrow hl
 go_enter Tryz.func50,Tryz.ntmps50
 go_wp2_with fail
 go_loopw [7] (fun i wr=>∃ j:Nat,j<=vs.length/\i=.int .i64 j/\Below w.heap.size w wr/\Hid ((vs.take j).all declB=true)) (fun i _=>vs.length-(intOf i).toNat)
 case atStart=>exact ⟨0,Nat.zero_le _,rfl,Below.refl _ _,zh (by simp)⟩
 case round =>
  obtain ⟨j,hj,rfl,hb,HA⟩:=hrel
  by_cases hlt:j<vs.length
  ·obtain ⟨a,v,rfl,_,Hv,⟨q0,q1,q2⟩,hf⟩:=(HROW.out.later hb).nd hlt
   have HT:=zh (show (vs.take (j+1)).all declB=declB v by rw [all_take hlt HA.out,Hv.out])
   have HN:=zh (show declB v=false->vs.all declB=false from fun h=>all_none hlt (by rw [Hv.out]; exact h))
   have HD:=zh (show declB v=(nameB v.s&&(if v.k=1\/v.k=3 then v.n==0 else if v.k=2 then decide (1<=v.n/\v.n<=16) else false)) from rfl)
   obtain ⟨s,hs⟩:∃ s,v.s=s:=⟨_,rfl⟩
   obtain ⟨k,hk⟩:∃ k,v.k=k:=⟨_,rfl⟩
   obtain ⟨n,hn⟩:∃ n,v.n=n:=⟨_,rfl⟩
   have HD':=HD.out
   rw [hs,hk,hn] at HD'
   rw [hs] at q0
   rw [hk] at q1
   rw [hn] at q2
   clear HD hf hs hk hn
   have HD:=zh HD'
   clear HD'
   go_wp2_with fail
   refine (Name_any s _).mono ?_
   rintro e w1 ⟨rfl,bw1⟩
   have q1':Below w.heap.size w w1:=(hb.alloc hb.size _).trans (bw1.mono (by have:=hb.size; simp; omega))
   have x1:w1.cell? ⟨wr.heap.size,1,none⟩=some (.int .u8 k):=zb bw1 (by simp)
   have x2:w1.cell? ⟨wr.heap.size,2,none⟩=some (.int .i64 n):=zb bw1 (by simp)
   have HD':=HD.out
   clear bw1
   cases hnm:nameB s
   ·rw [hnm] at HD'
    have HR:=zh (HN.out (by rw [HD']; rfl))
    clear HD'
    go_wp2_with fail
    go_ret
    exact ⟨by rw [HR.out]; rfl,q1'⟩
   rw [hnm,Bool.true_and] at HD'
   by_cases h13:k=1\/k=3
   ·rw [if_pos h13] at HD'
    by_cases hn0:n=0
    ·subst hn0
     have HG:=zh (show (vs.take (j+1)).all declB=true by rw [HT.out,HD']; rfl)
     clear HD'
     rcases h13 with rfl|rfl
     ·go_wp2_with fail
      go_roundw
      case rel=>exact ⟨j+1,by omega,by go_num,q1',HG⟩
      case measure=>simp [intOf]; omega
     ·go_wp2_with fail
      go_roundw
      case rel=>exact ⟨j+1,by omega,by go_num,q1',HG⟩
      case measure=>simp [intOf]; omega
    ·have fn:(n != 0)=true:=by simpa using hn0
     have HR:=zh (HN.out (by rw [HD']; simpa using hn0))
     clear HD'
     rcases h13 with rfl|rfl
     ·go_wp2_with fail
      go_ret
      exact ⟨by rw [HR.out]; rfl,q1'⟩
     ·go_wp2_with fail
      go_ret
      exact ⟨by rw [HR.out]; rfl,q1'⟩
   ·rw [if_neg h13] at HD'
    have f1:(k==1)=false:=by simp; omega
    have f3:(k==3)=false:=by simp; omega
    by_cases h2:k=2
    ·subst h2
     rw [if_pos rfl] at HD'
     by_cases hl1:n<1
     ·have HR:=zh (HN.out (by rw [HD']; simp; omega))
      clear HD'
      go_wp2_with fail
      go_ret
      exact ⟨by rw [HR.out]; rfl,q1'⟩
     ·by_cases hg16:16<n
      ·have HR:=zh (HN.out (by rw [HD']; simp; omega))
       have hl1':1<=n:=by omega
       clear HD' hl1
       go_wp2_with fail
       go_ret
       exact ⟨by rw [HR.out]; rfl,q1'⟩
      ·have HG:=zh (show (vs.take (j+1)).all declB=true by rw [HT.out,HD']; simp; omega)
       have hl1':1<=n:=by omega
       have hg16':n<=16:=by omega
       clear HD' hl1 hg16
       go_wp2_with fail
       go_roundw
       case rel=>exact ⟨j+1,by omega,by go_num,q1',HG⟩
       case measure=>simp [intOf]; omega
    ·rw [if_neg h2] at HD'
     have f2:(k==2)=false:=by simpa using h2
     have HR:=zh (HN.out HD')
     clear HD'
     go_wp2_with fail
     go_ret
     exact ⟨by rw [HR.out]; rfl,q1'⟩
  ·obtain rfl:j=vs.length:=by omega
   have HR:=zh (show vs.all declB=true by have:=HA.out; rw [List.take_of_length_le (by omega)] at this; exact this)
   go_wp2_with fail
   go_ret
   exact ⟨by rw [HR.out]; rfl,hb⟩
def procB (r:PR):Bool:=nameB r.s&&decide (r.ps.length<=8)&&r.ps.all declB&&isBodyB r.b
def validB (p:PG):Bool:=decide (p.vs.length<=32)&&decide (p.prs.length<=64)&&p.vs.all declB&&p.prs.all procB&&isBodyB p.m
theorem pall_take {vs:List PR} {f:PR->Bool} {j:Nat} (hj:j<vs.length) (h:(vs.take j).all f=true):(vs.take (j+1)).all f=f vs[j]:=by
 rw [List.take_succ_eq_append_getElem hj,List.all_append,h]; simp
theorem pall_none {vs:List PR} {f:PR->Bool} {j:Nat} (hj:j<vs.length) (h:f vs[j]=false):vs.all f=false:=by
 simp only [List.all_eq_false]
 exact ⟨vs[j],List.getElem_mem hj,by simp [h]⟩
theorem Valid_any (p:PG) (S:Nat->Prop) (v:Value) (w:World) (hv:PV w S p v):Calls Tryz.prog 17 #[v] w fun e w'=>e=.returned (.bool (validB p))/\Below w.heap.size w w':=by
 obtain ⟨A1,c1,A2,c2,A3,c3,rfl,hr⟩:=hv
 have HR:=zh hr
 have hv1:=LV_int hr.lv
 have hv2:=LV_int hr.lp
 have HX:=zh (show validB p=(decide (p.vs.length<=32)&&decide (p.prs.length<=64)&&p.vs.all declB&&p.prs.all procB&&isBodyB p.m) from rfl)
 have hlc2:=hr.lpc
 obtain ⟨L1,hL1⟩:∃ L,p.vs.length=L:=⟨_,rfl⟩
 obtain ⟨L2,hL2⟩:∃ L,p.prs.length=L:=⟨_,rfl⟩
 obtain ⟨k,hk⟩:∃ k,p.m.k=k:=⟨_,rfl⟩
 obtain ⟨n,hn⟩:∃ n,p.m.n=n:=⟨_,rfl⟩
 obtain ⟨s,hs⟩:∃ s,p.m.s=s:=⟨_,rfl⟩
 obtain ⟨l3,hl3⟩:∃ l,p.m.ks.length=l:=⟨_,rfl⟩
 have HL1:=zh hL1
 have HL2:=zh hL2
 have hm:=hr.main
 rw [hk,hn,hs,hl3] at hm
 have HM:=zh hm
 have hx:=HX.out
 rw [hL1,hL2] at hx
 rw [hL1] at hv1
 rw [hL2] at hv2 hlc2
 rw [hL1,hL2,hk,hn,hs,hl3]
 clear hr hm HX hL1 hL2 hk hn hs hl3
 have HX:=zh hx
 clear hx
 have hb0:∀ o,Below w.heap.size w (w.alloc o):=fun o=>(Below.refl _ _).alloc (Nat.le_refl _) _
 have HB0:=zh hb0
 clear hb0
 have HDC:=zh (show ∀ w',Below w.heap.size w w'->Calls Tryz.prog 50 #[.slice A1 L1 c1] w' fun e w''=>e=.returned (.bool (p.vs.all declB))/\Below w'.heap.size w' w'' from fun w' h=>by
  have:=declared_any p.vs A1 c1 S w' (HR.out.vars.later h) HR.out.lv HR.out.lvc
  rw [HL1.out] at this
  exact this)
 by_cases h32:32<L1
 ·have HF:=zh (show validB p=false by rw [HX.out]; simp; intro h; omega)
  have h32':(32:Int)<(L1:Int):=by omega
  go_enter Tryz.func17,Tryz.ntmps17
  go_wp2_with fail
  go_ret
  exact ⟨by rw [HF.out]; rfl,HB0.out _⟩
 by_cases h64:64<L2
 ·have HF:=zh (show validB p=false by rw [HX.out]; simp; intro _ h; omega)
  have h32':(L1:Int)<=32:=by omega
  have h64':(64:Int)<(L2:Int):=by omega
  clear h32
  go_enter Tryz.func17,Tryz.ntmps17
  go_wp2_with fail
  go_ret
  exact ⟨by rw [HF.out]; rfl,HB0.out _⟩
 have h32':(L1:Int)<=32:=by omega
 have h64':(L2:Int)<=64:=by omega
 have hx:=HX.out
 have e1:L1<=32:=by omega
 have e2:L2<=64:=by omega
 rw [decide_eq_true e1,decide_eq_true e2] at hx
 simp only [Bool.true_and] at hx
 clear HX h32 h64 e1 e2
 have HX:=zh hx
 clear hx
 go_enter Tryz.func17,Tryz.ntmps17
 go_wp2_with fail
 refine (HDC.out _ (HB0.out _)).mono ?_
 rintro e w1 ⟨rfl,bw1⟩
 have q1:Below w.heap.size w w1:=(HB0.out _).trans (bw1.mono (by simp))
 have hbx:w1.heap[w.heap.size]?=some (.cells #[.slice A1 L1 c1,.slice A2 L2 c2,.int .u8 k,.int .i64 n,.string s,.slice A3 l3 c3] 35 (0,0)):=(bw1.block _ (by simp)).trans (heap_alloc_new w _)
 have x1:w1.cell? ⟨w.heap.size,1,none⟩=some (.slice A2 L2 c2):=zc hbx rfl
 have hx:=HX.out
 clear bw1 HDC
 cases hd:p.vs.all declB
 ·rw [hd] at hx
  have HF:=zh (show validB p=false by rw [hx]; rfl)
  clear hx
  go_wp2_with fail
  go_ret
  exact ⟨by rw [HF.out]; rfl,q1⟩
 rw [hd,Bool.true_and] at hx
 have HX2:=zh hx
 have HBX:=zh hbx
 clear hx HX hd hbx
 go_wp2_with fail
 go_loopw [24] (fun i wr=>∃ j:Nat,j<=L2/\i=.int .i64 j/\Below w1.heap.size w1 wr/\Hid ((p.prs.take j).all procB=true)) (fun i _=>L2-(intOf i).toNat)
 case atStart=>exact ⟨0,Nat.zero_le _,rfl,Below.refl _ _,zh (by simp)⟩
 case round =>
  obtain ⟨j,hj,rfl,hb,HA⟩:=hrel
  have hq:Below w.heap.size w wr:=q1.trans (hb.mono q1.size)
  by_cases hlt:j<L2
  ·have hlt':j<p.prs.length:=by rw [HL2.out]; exact hlt
   obtain ⟨a,r,B1,d1,B2,d2,rfl,_,Hr,⟨z0,z1,z2,z3,z4,z5⟩,hrr⟩:=(HR.out.procs.later hq).nd hlt'
   have HRR:=zh hrr
   have HT:=zh (show (p.prs.take (j+1)).all procB=procB r by rw [pall_take hlt' HA.out,Hr.out])
   have HN:=zh (show procB r=false->validB p=false from fun h=>by rw [HX2.out,pall_none hlt' (by rw [Hr.out]; exact h)]; rfl)
   have HPB:=zh (show procB r=(nameB r.s&&decide (r.ps.length<=8)&&r.ps.all declB&&isBodyB r.b) from rfl)
   have hd1:=LV_int hrr.lp
   clear hrr
   have HDC:=zh (show ∀ w',Below wr.heap.size wr w'->Calls Tryz.prog 50 #[.slice B1 r.ps.length d1] w' fun e w''=>e=.returned (.bool (r.ps.all declB))/\Below w'.heap.size w' w'' from fun w' h=>declared_any r.ps B1 d1 S w' (HRR.out.row.later h) HRR.out.lp HRR.out.lc)
   have HBD:=zh (show ∀ w',Below wr.heap.size wr w'->NV w' Any r.b (nv r.b.k r.b.n r.b.s B2 r.b.ks.length d2) from fun w' h=>(HRR.out.body.later h).any)
   obtain ⟨rs,hrs⟩:∃ s,r.s=s:=⟨_,rfl⟩
   obtain ⟨rl,hrl⟩:∃ l,r.ps.length=l:=⟨_,rfl⟩
   obtain ⟨bk,hbk⟩:∃ k,r.b.k=k:=⟨_,rfl⟩
   obtain ⟨bn,hbn⟩:∃ k,r.b.n=k:=⟨_,rfl⟩
   obtain ⟨bs,hbs⟩:∃ k,r.b.s=k:=⟨_,rfl⟩
   obtain ⟨bl,hbl⟩:∃ k,r.b.ks.length=k:=⟨_,rfl⟩
   have hpb:=HPB.out
   have hdc:=HDC.out
   have hbd:=HBD.out
   rw [hrs] at z0 hpb
   rw [hrl] at z1 hpb hdc hd1
   rw [hbk] at z2 hbd
   rw [hbn] at z3 hbd
   rw [hbs] at z4 hbd
   rw [hbl] at z5 hbd
   clear HPB HDC HBD HRR hrs hrl hbk hbn hbs hbl
   have HPB:=zh hpb
   have HDC:=zh hdc
   have HBD:=zh hbd
   clear hpb hdc hbd
   go_wp2_with fail
   refine (Name_any rs _).mono ?_
   rintro e w2 ⟨rfl,bw2⟩
   have b2:Below wr.heap.size wr w2:=((Below.refl _ _).alloc (Nat.le_refl _) _).trans (bw2.mono (by simp))
   have hbx:w2.heap[wr.heap.size]?=some (.cells #[.string rs,.slice B1 rl d1,.int .u8 bk,.int .i64 bn,.string bs,.slice B2 bl d2] 103 (0,0)):=(bw2.block _ (by simp)).trans (heap_alloc_new wr _)
   have u1:w2.cell? ⟨wr.heap.size,1,none⟩=some (.slice B1 rl d1):=zc hbx rfl
   have hpb:=HPB.out
   clear bw2
   cases hnm:nameB rs
   ·rw [hnm] at hpb
    have HF:=zh (HN.out (by rw [hpb]; rfl))
    clear hpb
    go_wp2_with fail
    go_ret
    exact ⟨by rw [HF.out]; rfl,hq.trans (b2.mono hq.size)⟩
   rw [hnm,Bool.true_and] at hpb
   by_cases h8:8<rl
   ·have HF:=zh (HN.out (by rw [hpb]; simp; intro h; omega))
    have h8':(8:Int)<(rl:Int):=by omega
    clear hpb
    go_wp2_with fail
    go_ret
    exact ⟨by rw [HF.out]; rfl,hq.trans (b2.mono hq.size)⟩
   rw [decide_eq_true (show rl<=8 by omega),Bool.true_and] at hpb
   have h8':(rl:Int)<=8:=by omega
   have HPC:=zh hpb
   have HBX2:=zh hbx
   clear hpb HPB h8 hbx
   go_wp2_with fail
   refine (HDC.out _ b2).mono ?_
   rintro e w3 ⟨rfl,bw3⟩
   have b3:=b2.trans (bw3.mono b2.size)
   have hbx:w3.heap[wr.heap.size]?=some (.cells #[.string rs,.slice B1 rl d1,.int .u8 bk,.int .i64 bn,.string bs,.slice B2 bl d2] 103 (0,0)):=(bw3.block _ (blk_lt HBX2.out)).trans HBX2.out
   have u2:w3.cell? ⟨wr.heap.size,2,none⟩=some (.int .u8 bk):=zc hbx rfl
   have u3:w3.cell? ⟨wr.heap.size,3,none⟩=some (.int .i64 bn):=zc hbx rfl
   have u4:w3.cell? ⟨wr.heap.size,4,none⟩=some (.string bs):=zc hbx rfl
   have u5:w3.cell? ⟨wr.heap.size,5,none⟩=some (.slice B2 bl d2):=zc hbx rfl
   have hpb:=HPC.out
   clear bw3 u1 hbx
   cases hdd:r.ps.all declB
   ·rw [hdd] at hpb
    have HF:=zh (HN.out (by rw [hpb]; rfl))
    clear hpb
    go_wp2_with fail
    go_ret
    exact ⟨by rw [HF.out]; rfl,hq.trans (b3.mono hq.size)⟩
   rw [hdd,Bool.true_and] at hpb
   have HPD:=zh hpb
   clear hpb HPC hdd
   go_wp2_with fail
   refine (isBody_any r.b _ _ (HBD.out _ b3)).mono ?_
   rintro e w4 ⟨rfl,bw4⟩
   have b4:=b3.trans (bw4.mono b3.size)
   have hpb:=HPD.out
   clear bw4 u2 u3 u4 u5
   cases hbb:isBodyB r.b
   ·rw [hbb] at hpb
    have HF:=zh (HN.out hpb)
    clear hpb
    go_wp2_with fail
    go_ret
    exact ⟨by rw [HF.out]; rfl,hq.trans (b4.mono hq.size)⟩
   ·rw [hbb] at hpb
    have HG:=zh (show (p.prs.take (j+1)).all procB=true by rw [HT.out]; exact hpb)
    have HQ4:=zh (hb.trans (b4.mono hb.size))
    clear hpb
    go_wp2_with fail
    go_roundw
    case rel=>exact ⟨j+1,by omega,by go_num,HQ4.out,HG⟩
    case measure=>simp [intOf]; omega
  ·obtain rfl:j=L2:=by omega
   have HF:=zh (show validB p=isBodyB p.m by rw [HX2.out]; have:=HA.out; rw [List.take_of_length_le (by rw [HL2.out]; omega)] at this; rw [this]; rfl)
   have hbx:wr.heap[w.heap.size]?=some (.cells #[.slice A1 L1 c1,.slice A2 j c2,.int .u8 k,.int .i64 n,.string s,.slice A3 l3 c3] 35 (0,0)):=(hb.block _ (blk_lt HBX.out)).trans HBX.out
   have y2:wr.cell? ⟨w.heap.size,2,none⟩=some (.int .u8 k):=zc hbx rfl
   have y3:wr.cell? ⟨w.heap.size,3,none⟩=some (.int .i64 n):=zc hbx rfl
   have y4:wr.cell? ⟨w.heap.size,4,none⟩=some (.string s):=zc hbx rfl
   have y5:wr.cell? ⟨w.heap.size,5,none⟩=some (.slice A3 l3 c3):=zc hbx rfl
   go_wp2_with fail
   refine (isBody_any p.m _ _ (HM.out.later hq).any).mono ?_
   rintro e w2 ⟨rfl,bw2⟩
   go_wp2_with fail
   go_ret
   exact ⟨by rw [HF.out]; rfl,hq.trans (bw2.mono hq.size)⟩
theorem Valid_yes {p:PG} {S:Nat->Prop} {v:Value} {w:World} (h:validB p=true) (hv:PV w S p v):Calls Tryz.prog 17 #[v] w fun e w'=>e=.returned (.bool true)/\Below w.heap.size w w' :=
 (Valid_any p S v w hv).mono fun e w' ⟨he,hb⟩=>⟨by rw [he,h],hb⟩
def freshE (vs:List VD) (s:ByteArray):Int:=if (findV vs s).isSome then 22 else 0
def useE (vs:List VD) (s:ByteArray) (k:Int):Int:=match findV vs s with
 | none=>6
 | some v=>if v.k=k then 0 else 7
theorem fresh_any (vs:List VD) (A:Option Addr) (c:Nat) (s:ByteArray) (S:Nat->Prop) (w:World) (hrow:RowV w S A vs) (hl:vs.length<=LV) :
  Calls Tryz.prog 93 #[.slice A vs.length c,.string s] w fun e w'=>e=.returned (.int .i64 (freshE vs s))/\Below w.heap.size w w':=by
 have HROW:=zh hrow
 have HL:=zh hl
 obtain ⟨E,hE⟩:∃ E,freshE vs s=E:=⟨_,rfl⟩
 rw [hE]
 have HE:=zh hE
 clear hrow hl hE
 go_enter Tryz.func93,Tryz.ntmps93
 go_wp2_with fail
 refine (Find_any vs A c s S _ HROW.out HL.out).mono ?_
 rintro e w1 ⟨rfl,bw1⟩
 cases hf:findV vs s with
 | none =>
  have HN:=zh (show E=0 by rw [<-HE.out]; simp [freshE,hf])
  have HB:=zh (show Below w.heap.size w (w1.alloc (.cells #[.string ⟨#[]⟩,.int .u8 0,.int .i64 0] 83)) from bw1.alloc bw1.size _)
  clear hf bw1
  go_wp2_with fail
  go_ret
  exact ⟨by rw [HN.out]; rfl,HB.out⟩
 | some v =>
  have HN:=zh (show E=22 by rw [<-HE.out]; simp [freshE,hf])
  have HB:=zh (show Below w.heap.size w (w1.alloc (.cells #[.string v.s,.int .u8 v.k,.int .i64 v.n] 83)) from bw1.alloc bw1.size _)
  clear hf bw1
  go_wp2_with fail
  go_ret
  exact ⟨by rw [HN.out]; rfl,HB.out⟩
theorem use_any (vs:List VD) (A:Option Addr) (c:Nat) (s:ByteArray) (k:Int) (S:Nat->Prop) (w:World) (hrow:RowV w S A vs) (hl:vs.length<=LV) :
  Calls Tryz.prog 164 #[.slice A vs.length c,.string s,.int .u8 k] w fun e w'=>e=.returned (.int .i64 (useE vs s k))/\Below w.heap.size w w':=by
 have HROW:=zh hrow
 have HL:=zh hl
 obtain ⟨E,hE⟩:∃ E,useE vs s k=E:=⟨_,rfl⟩
 rw [hE]
 have HE:=zh hE
 clear hrow hl hE
 go_enter Tryz.func164,Tryz.ntmps164
 go_wp2_with fail
 refine (Find_any vs A c s S _ HROW.out HL.out).mono ?_
 rintro e w1 ⟨rfl,bw1⟩
 cases hf:findV vs s with
 | none =>
  have HN:=zh (show E=6 by rw [<-HE.out]; simp [useE,hf])
  have HB:=zh (show Below w.heap.size w (w1.alloc (.cells #[.string ⟨#[]⟩,.int .u8 0,.int .i64 0] 83)) from bw1.alloc bw1.size _)
  clear hf bw1
  go_wp2_with fail
  go_ret
  exact ⟨by rw [HN.out]; rfl,HB.out⟩
 | some v =>
  obtain ⟨vm,vk,vl⟩:=v
  have HB2:=zh (show Below w.heap.size w (w1.alloc (.cells #[.string vm,.int .u8 vk,.int .i64 vl] 83)) from bw1.alloc bw1.size _)
  have HN:=zh (show E=if vk=k then 0 else 7 by rw [<-HE.out]; simp [useE,hf])
  clear hf bw1
  by_cases hk:vk=k
  ·have e1:(vk==k)=true:=by simpa using hk
   have e2:(vk != k)=false:=by simpa using hk
   have HN2:=zh (show E=0 by rw [HN.out,if_pos hk])
   clear hk
   go_wp2_with fail
   go_ret
   exact ⟨by rw [HN2.out]; rfl,HB2.out⟩
  ·have e1:(vk==k)=false:=by simpa using hk
   have e2:(vk != k)=true:=by simpa using hk
   have HN2:=zh (show E=7 by rw [HN.out,if_neg hk])
   clear hk
   go_wp2_with fail
   go_ret
   exact ⟨by rw [HN2.out]; rfl,HB2.out⟩
def idxP (ps:List PR) (s:ByteArray):Option Nat:=ps.findIdx? fun r=>r.s.toList==s.toList
def procE (ps:List PR) (s:ByteArray):Int:=match idxP ps s with
 | some i=>i
 | none => -1
theorem Proc1_any (rs:ByteArray) (u1 u2 u3 u4 u5:Value) (s:ByteArray) (nb:Nat) (w:World) (hc:w.cell? ⟨nb,0,none⟩=some (.string s)) :
  Calls Tryz.prog 136 #[.agg #[.string rs,u1,u2,u3,u4,u5],.pointer (some ⟨nb,0,none⟩)] w fun e w'=>e=.returned (.bool (rs.toList==s.toList))/\Below w.heap.size w w':=by
 have hc':=cell_al hc
 go_enter Tryz.func136,Tryz.ntmps136
 go_wp2_with fail
 go_ret
 exact ⟨rfl,(Below.refl _ _).alloc (Nat.le_refl _) _⟩
theorem IndexFuncP_any (ps:List PR) (A:Option Addr) (c:Nat) (s:ByteArray) (nb:Nat) (S:Nat->Prop) (w:World) (hrow:RowP w S A ps) (hl:ps.length<=LV) (hc:w.cell? ⟨nb,0,none⟩=some (.string s)) :
  Calls Tryz.prog 135 #[.slice A ps.length c,.func (.func 136) #[] #[.pointer (some ⟨nb,0,none⟩)]] w fun e w'=>e=.returned (.int .i64 (procE ps s))/\Below w.heap.size w w':=by
 have hl':=LV_int hl
 have HROW:=zh hrow
 have HC:=zh hc
 obtain ⟨R,hR⟩:∃ R,procE ps s=R:=⟨_,rfl⟩
 rw [hR]
 have HR:=zh hR
 clear hrow hl hc hR
 go_enter Tryz.func135,Tryz.ntmps135
 go_wp2_with fail
 go_loopw [8] (fun i wr=>∃ j:Nat,j<=ps.length/\i=.int .i64 j/\Below w.heap.size w wr/\Hid (∀ q (h:q<ps.length),q<j->(ps[q].s.toList==s.toList)=false)) (fun i _=>ps.length-(intOf i).toNat)
 case atStart=>exact ⟨0,Nat.zero_le _,rfl,Below.refl _ _,zh fun q _ h=>by omega⟩
 case round =>
  obtain ⟨j,hj,rfl,hbl,HJ⟩:=hrel
  by_cases hlt:j<ps.length
  ·obtain ⟨a,r,B1,f1,B2,f2,rfl,_,Hr,⟨q0,q1,q2,q3,q4,q5⟩,-⟩:=(HROW.out.later hbl).nd hlt
   obtain ⟨b,hb⟩:∃ b,(r.s.toList==s.toList)=b:=⟨_,rfl⟩
   have HB:=zh hb
   clear hb
   go_wp2_with fail
   refine (Proc1_any r.s _ _ _ _ _ s nb _ (zb hbl HC.out)).mono ?_
   rintro e w1 ⟨rfl,bw1⟩
   rw [HB.out]
   have HBL:=zh (bl_tt hbl bw1)
   clear bw1 q0 q1 q2 q3 q4 q5
   cases b
   ·have HJ2:=zh (show ∀ q (h:q<ps.length),q<j+1->(ps[q].s.toList==s.toList)=false from fun q h hq=>by
     by_cases e:q<j
     ·exact HJ.out q h e
     ·obtain rfl:q=j:=by omega
      rw [Hr.out]; exact HB.out)
    go_wp2_with fail
    go_roundw
    case rel=>exact ⟨j+1,by omega,by go_num,HBL.out,HJ2⟩
    case measure=>simp [intOf]; omega
   ·have HN:=zh (show R=j by
     rw [<-HR.out]
     have:idxP ps s=some j:=List.findIdx?_eq_some_iff_getElem.2 ⟨hlt,by rw [Hr.out]; exact HB.out,fun q hq=>by rw [HJ.out q (by omega) hq]; simp⟩
     simp [procE,this])
    go_wp2_with fail
    go_ret
    exact ⟨by rw [HN.out]; rfl,HBL.out⟩
  ·have HN:=zh (show R = -1 by
    rw [<-HR.out]
    have:idxP ps s=none:=List.findIdx?_eq_none_iff.2 fun r hr=>by
     obtain ⟨q,hq,rfl⟩:=List.getElem_of_mem hr
     exact HJ.out q hq (by omega)
    simp [procE,this])
   have HBL:=zh hbl
   clear hbl
   go_wp2_with fail
   go_ret
   exact ⟨by rw [HN.out]; rfl,HBL.out⟩
theorem Proc_any (p:PG) (S:Nat->Prop) (v:Value) (s:ByteArray) (w:World) (hv:PV w S p v):Calls Tryz.prog 94 #[v,.string s] w fun e w'=>e=.returned (.int .i64 (procE p.prs s))/\Below w.heap.size w w':=by
 obtain ⟨A1,c1,A2,c2,A3,c3,rfl,hr⟩:=hv
 have HR:=zh hr
 obtain ⟨L1,hL1⟩:∃ L,p.vs.length=L:=⟨_,rfl⟩
 rw [hL1]
 clear hr hL1
 go_enter Tryz.func94,Tryz.ntmps94
 go_wp2_with fail
 refine (IndexFuncP_any p.prs A2 c2 s (w.heap.size+1) S _ (HR.out.procs.later (bl_al (bl_al (Below.refl _ _) _) _)) HR.out.lp (by simp)).mono ?_
 rintro e w1 ⟨rfl,bw1⟩
 have HB:=zh (bl_tt (bl_al (bl_al (Below.refl w.heap.size w) _) _) bw1)
 clear bw1
 go_wp2_with fail
 go_ret
 exact ⟨rfl,HB.out⟩
end Go.Proofs.YtckhofdinldhpaaGreat
namespace Go.Proofs.YtckhofdinldhpaaGreat
open Go Go.RowKit
theorem prcI_idx:∀ (prs:List PR) (s:ByteArray) (i:Nat),prcI prs s=some i->procE prs s=(i:Int)/\i<prs.length
 | [],_,_,h=>by simp [prcI] at h
 | q::qs,s,i,h=>by
  unfold prcI at h
  unfold procE idxP
  rw [List.findIdx?_cons]
  split at h
  ·rename_i h0
   injection h with h
   subst h
   rw [if_pos h0]
   exact ⟨rfl,by simp⟩
  ·rename_i h0
   rw [if_neg h0]
   obtain ⟨j,hj,rfl⟩:=Option.map_eq_some_iff.1 h
   have h5:=prcI_idx qs s j hj
   unfold procE idxP at h5
   cases hf:List.findIdx? (fun r=>r.s.toList==s.toList) qs with
   | none =>
    rw [hf] at h5
    have h6:(-1:Int)=(j:Int):=h5.1
    omega
   | some m =>
    rw [hf] at h5
    have h6:(m:Int)=(j:Int):=h5.1
    exact ⟨by show ((m+1:Nat):Int)=((j+1:Nat):Int); omega,by have:=h5.2; simp; omega⟩
theorem RI.count {C:RC} (hC:C.Ok) {W:World} {r:RS} (h:RI C W r) {i:Nat} (hi:i<r.ent.length) (hn:r.ent.getD i 0+1<=r.n) :
  ∃ g c,C.ev=.slice (some ⟨g,0,none⟩) r.ent.length c/\W.cell? ⟨g,i,none⟩=some (.int .i64 (r.ent.getD i 0:Nat))/\W.frozen? ⟨g,i,none⟩=false /\
   RI C (W.setCell ⟨g,i,none⟩ (.int .i64 ((r.ent.getD i 0+1:Nat):Int))) { r with ent:=r.ent.set i (r.ent.getD i 0+1) }/\Kpt C.n0 C.kb W (W.setCell ⟨g,i,none⟩ (.int .i64 ((r.ent.getD i 0+1:Nat):Int))):=by
 obtain ⟨e1,h2⟩:=h.ent
 rcases h2 with h2|⟨g,cap,cur,hev,hb,hg,hcap,hlen,hsz,hcur⟩
 ·have hn0:r.ent.length=0:=h2.2
  omega
 ·have hcz:cur[i]?=some (.int .i64 (r.ent.getD i 0:Nat)):=by
   have h3:(flatI (r.ent.map Int.ofNat))[i]?=some (.int .i64 (r.ent.getD i 0:Nat)):=by simp [flatI,hi]
   rw [<-hcur,List.getElem?_take] at h3
   split at h3
   ·simpa using h3
   ·cases h3
  have hci:i<cur.size:=by
   rcases Nat.lt_or_ge i cur.size with h|h
   ·exact h
   ·rw [Array.getElem?_eq_none h] at hcz; cases hcz
  have hrb:g≠C.rb:=fun e=>hC.ev.1 (by rw [hev,<-e]; rfl)
  have hkb:¬ C.kb g:=hC.ev.2 g (by rw [hev]; rfl)
  have hch:Chg (fun b=>b=g) W (W.setCell ⟨g,i,none⟩ (.int .i64 ((r.ent.getD i 0+1:Nat):Int))):=(Chg.refl (fun b=>b=g) W).setCell (p:=⟨g,i,none⟩) (.inl rfl) _
  have hnn:=h.ks.hn
  refine ⟨g,cap,hev,zc hg hcz,zf hg,⟨h.ks.chg hch fun b _ e=>⟨by omega,.inr (.inr (.inr (by rw [hev,e]; rfl)))⟩,?_,?_,by simp [h.el],?_,h.n,h.fb⟩,Kpt.chg hch fun b e=>⟨by omega,by rw [e]; exact hkb⟩⟩
  ·rw [Below.heap_setCell _ _ _ _ (fun e=>hrb (by simpa using e.symm))]
   exact h.box
  ·have hs:=heap_setCell_same W g i _ _ (.int .i64 ((r.ent.getD i 0+1:Nat):Int)) hg
   refine ⟨by simp [flatI],.inr ⟨g,cap,_,by rw [hev]; simp,hb,hs,by simpa using hcap,by simpa using hlen,by simpa using hsz,?_⟩⟩
   have e2:((cur.setIfInBounds i (.int .i64 ((r.ent.getD i 0+1:Nat):Int))).toList.take ((r.ent.set i (r.ent.getD i 0+1)).length*1))=(cur.toList.take (r.ent.length*1)).set i (.int .i64 ((r.ent.getD i 0+1:Nat):Int)):=by
    rw [Array.toList_setIfInBounds,List.length_set,List.take_set]
   rw [e2,hcur]
   simp [flatI,List.map_set]
  ·intro c hc
   rcases List.mem_or_eq_of_mem_set hc with hc|rfl
   ·exact h.en c hc
   ·exact hn
structure GC (G:List PR->T->Prop):Prop where
 two:∀ prs t,G prs t->(t.k=52\/t.k=53)->t.ks.length=4/\(∀ u∈(kid t 1).ks,G prs u)/\∀ u∈(kid t 2).ks,G prs u
 loc:∀ prs t,G prs t->t.k=54->t.ks.length=3/\∀ u∈(kid t 1).ks,G prs u
 stk:∀ prs t,G prs t->t.k=55->t.ks.length=1/\∀ u∈(kid t 0).ks,G prs u
 cal:∀ prs t,G prs t->(t.k=50\/t.k=51)->∃ i q,prcI prs t.s=some i/\prs[i]?=some q/\∀ u∈q.b.ks,G prs u
theorem getD_some {prs:List PR} {i:Nat} {q:PR} (h:prs[i]?=some q):prs.getD i ⟨⟨#[]⟩,[],nil0⟩=q:=by
 rw [List.getD_eq_getElem?_getD,h]; rfl
end Go.Proofs.YtckhofdinldhpaaGreat
namespace Go.Proofs.YtckhofdinldhpaaGreat
open Go.RowKit
def faultE (ps:List PR) (k:Int) (s:ByteArray) (l:Nat) (vs:List VD):Int :=
 if k=2 then useE vs s 1 else if k=3 then useE vs s 2 else if k=4\/k=5\/k=44\/k=45 then useE vs s 3 else if k=54\/k=55 then freshE vs s
 else if k=50\/k=51 then (match idxP ps s with
  | none=>6
  | some i=>match ps[i]? with
   | none=>6
   | some r=>if l=r.ps.length then 0 else 7)
 else 0
theorem fault_any (p:PG) (t:T) (vs:List VD) (A:Option Addr) (c:Nat) (S S' S'':Nat->Prop) (v1 v2:Value) (w:World) (hv1:PV w S p v1) (hv2:NV w S' t v2) (hrow:RowV w S'' A vs) (hl:vs.length<=LV) :
  Calls Tryz.prog 137 #[v1,v2,.slice A vs.length c] w fun e w'=>e=.returned (.int .i64 (faultE p.prs t.k t.s t.ks.length vs))/\Below w.heap.size w w':=by
 have hvv:=hv1
 obtain ⟨A1,c1,A2,c2,A3,c3,rfl,hr⟩:=hv1
 have HPR:=zh hr.procs
 have hlp:=LV_int hr.lp
 obtain ⟨L1,hL1⟩:∃ L,p.vs.length=L:=⟨_,rfl⟩
 obtain ⟨L2,hL2⟩:∃ L,p.prs.length=L:=⟨_,rfl⟩
 obtain ⟨k,hk⟩:∃ k,p.m.k=k:=⟨_,rfl⟩
 obtain ⟨n,hn⟩:∃ n,p.m.n=n:=⟨_,rfl⟩
 obtain ⟨s,hs⟩:∃ s,p.m.s=s:=⟨_,rfl⟩
 obtain ⟨l3,hl3⟩:∃ l,p.m.ks.length=l:=⟨_,rfl⟩
 rw [hL1,hL2,hk,hn,hs,hl3]
 rw [hL1,hL2,hk,hn,hs,hl3] at hvv
 rw [hL2] at hlp
 have HL2:=zh hL2
 have HV:=zh hvv
 clear hr hvv hL1 hL2 hk hn hs hl3
 obtain ⟨B,tc,rfl,_,hlk,_,_⟩:=hv2.open_
 have hlk':=LK_int hlk
 have HROW:=zh hrow
 have HL:=zh hl
 clear hrow hl hv2 hlk
 generalize t.k=tk,t.n=tn,t.s=ts,t.ks.length=tl at *
 obtain ⟨R,hR⟩:∃ R,faultE p.prs tk ts tl vs=R:=⟨_,rfl⟩
 rw [hR]
 have HR:=zh hR
 clear hR
 have hb0:∀ o o',Below w.heap.size w ((w.alloc o).alloc o'):=fun o o'=>((Below.refl _ _).alloc (Nat.le_refl _) _).alloc (by simp) _
 have HB0:=zh hb0
 clear hb0
 by_cases h2:tk=2
 ·subst h2
  have HN:=zh (show R=useE vs ts 1 by rw [<-HR.out]; simp [faultE])
  go_enter Tryz.func137,Tryz.ntmps137
  go_wp2_with fail
  refine (use_any vs A c ts 1 S'' _ (HROW.out.later (HB0.out _ _)) HL.out).mono ?_
  rintro e w1 ⟨rfl,bw1⟩
  rw [<-HN.out]
  have HB:=zh (bl_tt (HB0.out _ _) bw1)
  clear bw1
  go_wp2_with fail
  go_ret
  exact ⟨rfl,HB.out⟩
 have f2:(tk==2)=false:=by simpa using h2
 by_cases h3:tk=3
 ·subst h3
  have HN:=zh (show R=useE vs ts 2 by rw [<-HR.out]; simp [faultE])
  go_enter Tryz.func137,Tryz.ntmps137
  go_wp2_with fail
  refine (use_any vs A c ts 2 S'' _ (HROW.out.later (HB0.out _ _)) HL.out).mono ?_
  rintro e w1 ⟨rfl,bw1⟩
  rw [<-HN.out]
  have HB:=zh (bl_tt (HB0.out _ _) bw1)
  clear bw1
  go_wp2_with fail
  go_ret
  exact ⟨rfl,HB.out⟩
 have f3:(tk==3)=false:=by simpa using h3
 by_cases h4:tk=4
 ·subst h4
  have HN:=zh (show R=useE vs ts 3 by rw [<-HR.out]; simp [faultE])
  go_enter Tryz.func137,Tryz.ntmps137
  go_wp2_with fail
  refine (use_any vs A c ts 3 S'' _ (HROW.out.later (HB0.out _ _)) HL.out).mono ?_
  rintro e w1 ⟨rfl,bw1⟩
  rw [<-HN.out]
  have HB:=zh (bl_tt (HB0.out _ _) bw1)
  clear bw1
  go_wp2_with fail
  go_ret
  exact ⟨rfl,HB.out⟩
 have f4:(tk==4)=false:=by simpa using h4
 by_cases h5:tk=5
 ·subst h5
  have HN:=zh (show R=useE vs ts 3 by rw [<-HR.out]; simp [faultE])
  go_enter Tryz.func137,Tryz.ntmps137
  go_wp2_with fail
  refine (use_any vs A c ts 3 S'' _ (HROW.out.later (HB0.out _ _)) HL.out).mono ?_
  rintro e w1 ⟨rfl,bw1⟩
  rw [<-HN.out]
  have HB:=zh (bl_tt (HB0.out _ _) bw1)
  clear bw1
  go_wp2_with fail
  go_ret
  exact ⟨rfl,HB.out⟩
 have f5:(tk==5)=false:=by simpa using h5
 by_cases h44:tk=44
 ·subst h44
  have HN:=zh (show R=useE vs ts 3 by rw [<-HR.out]; simp [faultE])
  go_enter Tryz.func137,Tryz.ntmps137
  go_wp2_with fail
  refine (use_any vs A c ts 3 S'' _ (HROW.out.later (HB0.out _ _)) HL.out).mono ?_
  rintro e w1 ⟨rfl,bw1⟩
  rw [<-HN.out]
  have HB:=zh (bl_tt (HB0.out _ _) bw1)
  clear bw1
  go_wp2_with fail
  go_ret
  exact ⟨rfl,HB.out⟩
 have f44:(tk==44)=false:=by simpa using h44
 by_cases h45:tk=45
 ·subst h45
  have HN:=zh (show R=useE vs ts 3 by rw [<-HR.out]; simp [faultE])
  go_enter Tryz.func137,Tryz.ntmps137
  go_wp2_with fail
  refine (use_any vs A c ts 3 S'' _ (HROW.out.later (HB0.out _ _)) HL.out).mono ?_
  rintro e w1 ⟨rfl,bw1⟩
  rw [<-HN.out]
  have HB:=zh (bl_tt (HB0.out _ _) bw1)
  clear bw1
  go_wp2_with fail
  go_ret
  exact ⟨rfl,HB.out⟩
 have f45:(tk==45)=false:=by simpa using h45
 by_cases h54:tk=54
 ·subst h54
  have HN:=zh (show R=freshE vs ts by rw [<-HR.out]; simp [faultE])
  go_enter Tryz.func137,Tryz.ntmps137
  go_wp2_with fail
  refine (fresh_any vs A c ts S'' _ (HROW.out.later (HB0.out _ _)) HL.out).mono ?_
  rintro e w1 ⟨rfl,bw1⟩
  rw [<-HN.out]
  have HB:=zh (bl_tt (HB0.out _ _) bw1)
  clear bw1
  go_wp2_with fail
  go_ret
  exact ⟨rfl,HB.out⟩
 have f54:(tk==54)=false:=by simpa using h54
 by_cases h55:tk=55
 ·subst h55
  have HN:=zh (show R=freshE vs ts by rw [<-HR.out]; simp [faultE])
  go_enter Tryz.func137,Tryz.ntmps137
  go_wp2_with fail
  refine (fresh_any vs A c ts S'' _ (HROW.out.later (HB0.out _ _)) HL.out).mono ?_
  rintro e w1 ⟨rfl,bw1⟩
  rw [<-HN.out]
  have HB:=zh (bl_tt (HB0.out _ _) bw1)
  clear bw1
  go_wp2_with fail
  go_ret
  exact ⟨rfl,HB.out⟩
 have f55:(tk==55)=false:=by simpa using h55
 by_cases h50:tk=50
 ·subst h50
  have HN:=zh (show R=(match idxP p.prs ts with|none=>6|some i=>match p.prs[i]? with|none=>6|some r=>if tl=r.ps.length then 0 else 7) by rw [<-HR.out]; simp [faultE])
  go_enter Tryz.func137,Tryz.ntmps137
  go_wp2_with fail
  refine (Proc_any p S _ ts _ (HV.out.later (HB0.out _ _))).mono ?_
  rintro e w1 ⟨rfl,bw1⟩
  have hbl:=bl_tt (HB0.out _ _) bw1
  have hP:=blk_bl (blk_al (heap_alloc_new w (.cells #[.slice A1 L1 c1,.slice A2 L2 c2,.int .u8 k,.int .i64 n,.string s,.slice A3 l3 c3] 35)) _) bw1
  have hN:=blk_bl (heap_alloc_new (w.alloc (.cells #[.slice A1 L1 c1,.slice A2 L2 c2,.int .u8 k,.int .i64 n,.string s,.slice A3 l3 c3] 35)) (.cells #[.int .u8 50,.int .i64 tn,.string ts,.slice B tl tc] 29)) bw1
  simp only [World.size_alloc] at hN
  cases hi:idxP p.prs ts with
  | none =>
   have e1:procE p.prs ts = -1:=by simp [procE,hi]
   rw [e1]
   have HN2:=zh (show R=6 by rw [HN.out,hi])
   have HB:=zh hbl
   clear bw1 hi e1 hP hN hbl
   go_wp2_with fail
   go_ret
   exact ⟨by rw [HN2.out]; rfl,HB.out⟩
  | some i =>
   have e1:procE p.prs ts=i:=by simp [procE,hi]
   rw [e1]
   have hi2:i<p.prs.length:=(List.findIdx?_eq_some_iff_getElem.1 hi).1
   have hiL:i<L2:=by rw [<-HL2.out]; exact hi2
   obtain ⟨a,r,P1,d1,P2,d2,rfl,_,Hr,⟨_,q1,_⟩,hpr⟩:=(HPR.out.later hbl).nd hi2
   obtain ⟨rl,hrl⟩:∃ l,r.ps.length=l:=⟨_,rfl⟩
   have hlr:=LV_int hpr.lp
   rw [hrl] at q1 hlr
   have HN2:=zh (show R=if tl=rl then 0 else 7 by rw [HN.out,hi]; simp only; rw [List.getElem?_eq_getElem hi2,Hr.out,<-hrl])
   obtain ⟨a0,a1,a2,a3,a4,a5⟩:=box6 hP
   obtain ⟨b0,b1,b2,b3⟩:=box4 hN
   have HB:=zh hbl
   clear bw1 hi e1 hP hN hbl hrl hpr
   go_wp2_with fail
   go_region_held3 (fun w'=>(w'.cell? ⟨w.heap.size+1,3,none⟩=some (.slice B tl tc)/\w'.cell? ⟨w.heap.size,1,none⟩=some (.slice (some a) L2 c2)/\w'.cell? ⟨(a.add (i*6)).block,(a.add (i*6)).off+1,none⟩=some (.slice P1 rl d1))) (exact ⟨b3,a1,q1⟩) (fail)
   by_cases hq:tl=rl
   ·have g1:(tl==rl)=true:=by simpa using hq
    have g2:(tl != rl)=false:=by simpa using hq
    have g3:((tl:Int)==(rl:Int))=true:=by simp; omega
    have g4:((tl:Int) != (rl:Int))=false:=by simp; omega
    have HN3:=zh (show R=0 by rw [HN2.out,if_pos hq])
    clear hq
    go_wp2_with fail
    go_ret
    exact ⟨by rw [HN3.out]; rfl,HB.out.drew⟩
   ·have g1:(tl==rl)=false:=by simpa using hq
    have g2:(tl != rl)=true:=by simpa using hq
    have g3:((tl:Int)==(rl:Int))=false:=by simp; omega
    have g4:((tl:Int) != (rl:Int))=true:=by simp; omega
    have HN3:=zh (show R=7 by rw [HN2.out,if_neg hq])
    clear hq
    go_wp2_with fail
    go_ret
    exact ⟨by rw [HN3.out]; rfl,HB.out.drew⟩
 have f50:(tk==50)=false:=by simpa using h50
 by_cases h51:tk=51
 ·subst h51
  have HN:=zh (show R=(match idxP p.prs ts with|none=>6|some i=>match p.prs[i]? with|none=>6|some r=>if tl=r.ps.length then 0 else 7) by rw [<-HR.out]; simp [faultE])
  go_enter Tryz.func137,Tryz.ntmps137
  go_wp2_with fail
  refine (Proc_any p S _ ts _ (HV.out.later (HB0.out _ _))).mono ?_
  rintro e w1 ⟨rfl,bw1⟩
  have hbl:=bl_tt (HB0.out _ _) bw1
  have hP:=blk_bl (blk_al (heap_alloc_new w (.cells #[.slice A1 L1 c1,.slice A2 L2 c2,.int .u8 k,.int .i64 n,.string s,.slice A3 l3 c3] 35)) _) bw1
  have hN:=blk_bl (heap_alloc_new (w.alloc (.cells #[.slice A1 L1 c1,.slice A2 L2 c2,.int .u8 k,.int .i64 n,.string s,.slice A3 l3 c3] 35)) (.cells #[.int .u8 51,.int .i64 tn,.string ts,.slice B tl tc] 29)) bw1
  simp only [World.size_alloc] at hN
  cases hi:idxP p.prs ts with
  | none =>
   have e1:procE p.prs ts = -1:=by simp [procE,hi]
   rw [e1]
   have HN2:=zh (show R=6 by rw [HN.out,hi])
   have HB:=zh hbl
   clear bw1 hi e1 hP hN hbl
   go_wp2_with fail
   go_ret
   exact ⟨by rw [HN2.out]; rfl,HB.out⟩
  | some i =>
   have e1:procE p.prs ts=i:=by simp [procE,hi]
   rw [e1]
   have hi2:i<p.prs.length:=(List.findIdx?_eq_some_iff_getElem.1 hi).1
   have hiL:i<L2:=by rw [<-HL2.out]; exact hi2
   obtain ⟨a,r,P1,d1,P2,d2,rfl,_,Hr,⟨_,q1,_⟩,hpr⟩:=(HPR.out.later hbl).nd hi2
   obtain ⟨rl,hrl⟩:∃ l,r.ps.length=l:=⟨_,rfl⟩
   have hlr:=LV_int hpr.lp
   rw [hrl] at q1 hlr
   have HN2:=zh (show R=if tl=rl then 0 else 7 by rw [HN.out,hi]; simp only; rw [List.getElem?_eq_getElem hi2,Hr.out,<-hrl])
   obtain ⟨a0,a1,a2,a3,a4,a5⟩:=box6 hP
   obtain ⟨b0,b1,b2,b3⟩:=box4 hN
   have HB:=zh hbl
   clear bw1 hi e1 hP hN hbl hrl hpr
   go_wp2_with fail
   go_region_held3 (fun w'=>(w'.cell? ⟨w.heap.size+1,3,none⟩=some (.slice B tl tc)/\w'.cell? ⟨w.heap.size,1,none⟩=some (.slice (some a) L2 c2)/\w'.cell? ⟨(a.add (i*6)).block,(a.add (i*6)).off+1,none⟩=some (.slice P1 rl d1))) (exact ⟨b3,a1,q1⟩) (fail)
   by_cases hq:tl=rl
   ·have g1:(tl==rl)=true:=by simpa using hq
    have g2:(tl != rl)=false:=by simpa using hq
    have g3:((tl:Int)==(rl:Int))=true:=by simp; omega
    have g4:((tl:Int) != (rl:Int))=false:=by simp; omega
    have HN3:=zh (show R=0 by rw [HN2.out,if_pos hq])
    clear hq
    go_wp2_with fail
    go_ret
    exact ⟨by rw [HN3.out]; rfl,HB.out.drew⟩
   ·have g1:(tl==rl)=false:=by simpa using hq
    have g2:(tl != rl)=true:=by simpa using hq
    have g3:((tl:Int)==(rl:Int))=false:=by simp; omega
    have g4:((tl:Int) != (rl:Int))=true:=by simp; omega
    have HN3:=zh (show R=7 by rw [HN2.out,if_neg hq])
    clear hq
    go_wp2_with fail
    go_ret
    exact ⟨by rw [HN3.out]; rfl,HB.out.drew⟩
 have f51:(tk==51)=false:=by simpa using h51
 have HN:=zh (show R=0 by rw [<-HR.out]; simp [faultE,h2,h3,h4,h5,h44,h45,h54,h55,h50,h51])
 clear h2 h3 h4 h5 h44 h45 h54 h55 h50 h51
 go_enter Tryz.func137,Tryz.ntmps137
 go_wp2_with fail
 go_ret
 exact ⟨by rw [HN.out]; rfl,HB0.out _ _⟩
def argE (ps:List PR) (s:ByteArray) (l i:Nat) (m:ByteArray) (vs:List VD):Int:=match findV vs m with
 | none=>6
 | some v=>match idxP ps s with
  | none=>0
  | some j=>match ps[j]? with
   | none=>0
   | some r=>if l=r.ps.length then (match r.ps[i]? with
    | none=>0
    | some q=>if v.k=q.k/\v.n=q.n then 0 else 7) else 0
theorem box3 {w:World} {b:Nat} {E:TypeId} {u0 u1 u2:Value} (h:w.heap[b]?=some (.cells #[u0,u1,u2] E (0,0))):w.cell? ⟨b,0,none⟩=some u0/\w.cell? ⟨b,1,none⟩=some u1/\w.cell? ⟨b,2,none⟩=some u2 :=
 ⟨zc h rfl,zc h rfl,zc h rfl⟩
theorem argument_any (p:PG) (t:T) (i:Nat) (hi:i<t.ks.length) (vs:List VD) (A:Option Addr) (c:Nat) (S S' S'':Nat->Prop) (v1 v2:Value) (w:World) (hv1:PV w S p v1) (hv2:NV w S' t v2) (hrow:RowV w S'' A vs) (hl:vs.length<=LV) :
  Calls Tryz.prog 139 #[v1,v2,.int .i64 i,.slice A vs.length c] w fun e w'=>e=.returned (.int .i64 (argE p.prs t.s t.ks.length i t.ks[i].s vs))/\Below w.heap.size w w':=by
 have hvv:=hv1
 obtain ⟨A1,c1,A2,c2,A3,c3,rfl,hr⟩:=hv1
 have HPR:=zh hr.procs
 have hlp:=LV_int hr.lp
 obtain ⟨L1,hL1⟩:∃ L,p.vs.length=L:=⟨_,rfl⟩
 obtain ⟨L2,hL2⟩:∃ L,p.prs.length=L:=⟨_,rfl⟩
 obtain ⟨k,hk⟩:∃ k,p.m.k=k:=⟨_,rfl⟩
 obtain ⟨n,hn⟩:∃ n,p.m.n=n:=⟨_,rfl⟩
 obtain ⟨s,hs⟩:∃ s,p.m.s=s:=⟨_,rfl⟩
 obtain ⟨l3,hl3⟩:∃ l,p.m.ks.length=l:=⟨_,rfl⟩
 rw [hL1,hL2,hk,hn,hs,hl3]
 rw [hL1,hL2,hk,hn,hs,hl3] at hvv
 rw [hL2] at hlp
 have HL2:=zh hL2
 have HV:=zh hvv
 clear hr hvv hL1 hL2 hk hn hs hl3
 obtain ⟨B,tc,rfl,_,hlk,_,hrk⟩:=hv2.open_
 have hlk':=LK_int hlk
 have HROW:=zh hrow
 have HL:=zh hl
 obtain ⟨b,u,B1,f1,rfl,_,Hu,⟨z0,z1,z2,z3⟩,-⟩:=hrk.nd hi
 rw [Hu.out]
 clear hrow hl hv2 hlk hrk z0 z1 z3
 obtain ⟨us,hus⟩:∃ us,u.s=us:=⟨_,rfl⟩
 rw [hus] at z2 ⊢
 clear hus Hu
 generalize t.k=tk,t.n=tn,t.s=ts,t.ks.length=tl at *
 obtain ⟨R,hR⟩:∃ R,argE p.prs ts tl i us vs=R:=⟨_,rfl⟩
 rw [hR]
 have HR:=zh hR
 clear hR
 have hb0:∀ o o',Below w.heap.size w ((w.alloc o).alloc o'):=fun o o'=>((Below.refl _ _).alloc (Nat.le_refl _) _).alloc (by simp) _
 have HB0:=zh hb0
 have z2':=fun o o'=>cell_al (cell_al z2 o) o'
 clear hb0 z2
 go_enter Tryz.func139,Tryz.ntmps139
 go_wp2_with fail
 refine (Find_any vs A c us S'' _ (HROW.out.later (HB0.out _ _)) HL.out).mono ?_
 rintro e w1 ⟨rfl,bw1⟩
 have hbl:=bl_tt (HB0.out _ _) bw1
 have hP:=blk_bl (blk_al (heap_alloc_new w (.cells #[.slice A1 L1 c1,.slice A2 L2 c2,.int .u8 k,.int .i64 n,.string s,.slice A3 l3 c3] 35)) _) bw1
 have hN:=blk_bl (heap_alloc_new (w.alloc (.cells #[.slice A1 L1 c1,.slice A2 L2 c2,.int .u8 k,.int .i64 n,.string s,.slice A3 l3 c3] 35)) (.cells #[.int .u8 tk,.int .i64 tn,.string ts,.slice (some b) tl tc] 29)) bw1
 simp only [World.size_alloc] at hN
 cases hf:findV vs us with
 | none =>
  have HN:=zh (show R=6 by rw [<-HR.out]; simp [argE,hf])
  have HB:=zh (bl_al hbl (.cells #[.string ⟨#[]⟩,.int .u8 0,.int .i64 0] 83))
  clear hf bw1 hP hN hbl z2'
  go_wp2_with fail
  go_ret
  exact ⟨by rw [HN.out]; rfl,HB.out⟩
 | some v =>
  obtain ⟨vm,vk,vl⟩:=v
  have hq2:=bl_al hbl (.cells #[.string vm,.int .u8 vk,.int .i64 vl] 83)
  have hP2:=blk_al hP (.cells #[.string vm,.int .u8 vk,.int .i64 vl] 83)
  have hN2:=blk_al hN (.cells #[.string vm,.int .u8 vk,.int .i64 vl] 83)
  have hV2:=heap_alloc_new w1 (.cells #[.string vm,.int .u8 vk,.int .i64 vl] 83)
  have HR2:=zh (show R=(match idxP p.prs ts with
   | none=>0
   | some j=>match p.prs[j]? with
    | none=>0
    | some r=>if tl=r.ps.length then (match r.ps[i]? with
     | none=>0
     | some q=>if vk=q.k/\vl=q.n then 0 else 7) else 0) by rw [<-HR.out]; simp [argE,hf])
  obtain ⟨a0,a1,a2,a3,a4,a5⟩:=box6 hP2
  obtain ⟨b0,b1,b2,b3⟩:=box4 hN2
  have HP2:=zh hP2
  have HN2:=zh hN2
  have HV2:=zh hV2
  have HQ2:=zh hq2
  clear hf bw1 hP hN hbl z2' hP2 hN2 hV2 hq2 HR
  go_wp2_with fail
  refine (Proc_any p S _ ts _ (HV.out.later HQ2.out)).mono ?_
  rintro e w2 ⟨rfl,bw2⟩
  have hbl:=bl_tt HQ2.out bw2
  have hP:=blk_bl HP2.out bw2
  have hN:=blk_bl HN2.out bw2
  have hV:=blk_bl HV2.out bw2
  clear a0 a1 a2 a3 a4 a5 b0 b1 b2 b3 HP2 HN2 HV2 HQ2 bw2
  cases hi2:idxP p.prs ts with
  | none =>
   have e1:procE p.prs ts = -1:=by simp [procE,hi2]
   rw [e1]
   have HN3:=zh (show R=0 by rw [HR2.out,hi2])
   have HB:=zh hbl
   clear hi2 e1 hP hN hV hbl
   go_wp2_with fail
   refine wp_region_noPanic ?_
   refine wp_region_G (fun _=>True) (fun _=>True) 20 (by kernel_rfl) ?_
   have hSS:(fun _:World=>True) w2.drew/\(fun _:World=>True) w2.drew:=⟨trivial,trivial⟩
   refine zT 0 hSS ?_
   (try simp only [Act.put,zP])
   refine zT 1 hSS ?_
   (try simp only [Act.put,zP])
   refine zT 2 hSS ?_
   (try simp only [Act.put,zP])
   refine wpG_take1 (i:=3) (v:=undef) rfl (by kernel_rfl) (by kernel_rfl) (by kernel_rfl) (by decide) (fun _ _ _ h=>h) (Or.inr ⟨by rfl,rfl⟩) hSS ?_
   (try simp only [Act.put,zP])
   refine wpG_take1 (i:=4) (v:=undef) rfl (by kernel_rfl) (by kernel_rfl) (by kernel_rfl) (by decide) (fun _ _ _ h=>h) (Or.inr ⟨by rfl,rfl⟩) hSS ?_
   (try simp only [Act.put,zP])
   refine wpG_take1 (i:=5) (v:=undef) rfl (by kernel_rfl) (by kernel_rfl) (by kernel_rfl) (by decide) (fun _ _ _ h=>h) (Or.inr ⟨by rfl,rfl⟩) hSS ?_
   (try simp only [Act.put,zP])
   refine wpG_take1 (i:=6) (v:=undef) rfl (by kernel_rfl) (by kernel_rfl) (by kernel_rfl) (by decide) (fun _ _ _ h=>h) (Or.inr ⟨by rfl,rfl⟩) hSS ?_
   (try simp only [Act.put,zP])
   refine wpG_take1 (i:=7) (v:=undef) rfl (by kernel_rfl) (by kernel_rfl) (by kernel_rfl) (by decide) (fun _ _ _ h=>h) (Or.inr ⟨by rfl,rfl⟩) hSS ?_
   (try simp only [Act.put,zP])
   refine wpG_take1 (i:=8) (v:=undef) rfl (by kernel_rfl) (by kernel_rfl) (by kernel_rfl) (by decide) (fun _ _ _ h=>h) (Or.inr ⟨by rfl,rfl⟩) hSS ?_
   (try simp only [Act.put,zP])
   refine wpG_take1 (i:=9) (v:=undef) rfl (by kernel_rfl) (by kernel_rfl) (by kernel_rfl) (by decide) (fun _ _ _ h=>h) (Or.inr ⟨by rfl,rfl⟩) hSS ?_
   (try simp only [Act.put,zP])
   refine wpG_take1 (i:=10) (v:=undef) rfl (by kernel_rfl) (by kernel_rfl) (by kernel_rfl) (by decide) (fun _ _ _ h=>h) (Or.inr ⟨by rfl,rfl⟩) hSS ?_
   (try simp only [Act.put,zP])
   refine wpG_take1 (i:=11) (v:=undef) rfl (by kernel_rfl) (by kernel_rfl) (by kernel_rfl) (by decide) (fun _ _ _ h=>h) (Or.inr ⟨by rfl,rfl⟩) hSS ?_
   (try simp only [Act.put,zP])
   refine wpG_take1 (i:=12) (v:=undef) rfl (by kernel_rfl) (by kernel_rfl) (by kernel_rfl) (by decide) (fun _ _ _ h=>h) (Or.inr ⟨by rfl,rfl⟩) hSS ?_
   (try simp only [Act.put,zP])
   refine wpG_take1 (i:=13) (v:=undef) rfl (by kernel_rfl) (by kernel_rfl) (by kernel_rfl) (by decide) (fun _ _ _ h=>h) (Or.inr ⟨by rfl,rfl⟩) hSS ?_
   (try simp only [Act.put,zP])
   refine zT 14 hSS ?_
   (try simp only [Act.put,zP])
   refine wpG_done (by kernel_rfl) ?_
   refine NoPanic.normal ?_
   clear hSS
   go_wp2_with fail
   go_ret
   exact ⟨by rw [HN3.out]; rfl,HB.out.drew⟩
  | some j =>
   have e1:procE p.prs ts=j:=by simp [procE,hi2]
   rw [e1]
   have hj2:j<p.prs.length:=(List.findIdx?_eq_some_iff_getElem.1 hi2).1
   have hjL:j<L2:=by rw [<-HL2.out]; exact hj2
   obtain ⟨a,r,P1,d1,P2,d2,rfl,_,Hr,⟨_,q1,_⟩,hpr⟩:=(HPR.out.later hbl).nd hj2
   obtain ⟨rl,hrl⟩:∃ l,r.ps.length=l:=⟨_,rfl⟩
   have hlr:=LV_int hpr.lp
   have HPW:=zh hpr.row
   rw [hrl] at q1 hlr
   have HR3:=zh (show R=if tl=rl then (match r.ps[i]? with
     | none=>0
     | some q=>if vk=q.k/\vl=q.n then 0 else 7) else 0 by rw [HR2.out,hi2]; simp only; rw [List.getElem?_eq_getElem hj2,Hr.out,<-hrl])
   have HRL:=zh hrl
   obtain ⟨a0,a1,a2,a3,a4,a5⟩:=box6 hP
   obtain ⟨b0,b1,b2,b3⟩:=box4 hN
   have HVB:=zh hV
   have HB:=zh hbl
   have hj0:decide ((j:Int)<0)=false:=by simp
   clear hi2 e1 hP hN hbl hrl hpr hV
   go_wp2_with fail
   go_region_held3 (fun w'=>(w'.cell? ⟨w.heap.size+1,3,none⟩=some (.slice (some b) tl tc)/\w'.cell? ⟨w.heap.size,1,none⟩=some (.slice (some a) L2 c2)/\w'.cell? ⟨(a.add (j*6)).block,(a.add (j*6)).off+1,none⟩=some (.slice P1 rl d1))) (exact ⟨b3,a1,q1⟩) (fail)
   by_cases hq:tl=rl
   ·have g1:(tl==rl)=true:=by simpa using hq
    have g2:(tl != rl)=false:=by simpa using hq
    have g3:((tl:Int)==(rl:Int))=true:=by simp; omega
    have g4:((tl:Int) != (rl:Int))=false:=by simp; omega
    have hir:i<r.ps.length:=by rw [HRL.out]; omega
    have hir':i<rl:=by omega
    obtain ⟨e,q,rfl,_,Hq,⟨y0,y1,y2⟩,hfq⟩:=(HPW.out.later (Below.refl _ _).drew).nd hir
    have HR4:=zh (show R=if vk=q.k/\vl=q.n then 0 else 7 by rw [HR3.out,if_pos hq,List.getElem?_eq_getElem hir,Hq.out])
    obtain ⟨qm,qk,ql⟩:=q
    simp only at y0 y1 y2 HR4
    have hV3:=box3 HVB.out
    obtain ⟨x0,x1,x2⟩:=hV3
    have HB9:=zh (bl_al HB.out.drew (.cells #[.string qm,.int .u8 qk,.int .i64 ql] 83))
    have hlt9:=blk_lt HVB.out
    clear hq Hq hfq HPW HVB
    by_cases hk1:vk=qk
    ·have k1:(vk==qk)=true:=by simpa using hk1
     have k2:(vk != qk)=false:=by simpa using hk1
     by_cases hk2:vl=ql
     ·have k3:(vl==ql)=true:=by simpa using hk2
      have k4:(vl != ql)=false:=by simpa using hk2
      have HN3:=zh (show R=0 by rw [HR4.out,if_pos ⟨hk1,hk2⟩])
      clear hk1 hk2
      go_wp2_with fail
      go_ret
      exact ⟨by rw [HN3.out]; rfl,HB9.out⟩
     ·have k3:(vl==ql)=false:=by simpa using hk2
      have k4:(vl != ql)=true:=by simpa using hk2
      have HN3:=zh (show R=7 by rw [HR4.out,if_neg (fun h=>hk2 h.2)])
      clear hk1 hk2
      go_wp2_with fail
      go_ret
      exact ⟨by rw [HN3.out]; rfl,HB9.out⟩
    ·have k1:(vk==qk)=false:=by simpa using hk1
     have k2:(vk != qk)=true:=by simpa using hk1
     have HN3:=zh (show R=7 by rw [HR4.out,if_neg (fun h=>hk1 h.1)])
     clear hk1
     go_wp2_with fail
     go_ret
     exact ⟨by rw [HN3.out]; rfl,HB9.out⟩
   ·have g1:(tl==rl)=false:=by simpa using hq
    have g2:(tl != rl)=true:=by simpa using hq
    have g3:((tl:Int)==(rl:Int))=false:=by simp; omega
    have g4:((tl:Int) != (rl:Int))=true:=by simp; omega
    have HN3:=zh (show R=0 by rw [HR3.out,if_neg hq])
    clear hq
    go_wp2_with fail
    go_ret
    exact ⟨by rw [HN3.out]; rfl,HB.out.drew⟩
theorem RowV.news {w:World} {S:Nat->Prop} {a:Addr}:∀ {vs:List VD},RowV w S (some a) vs->∃ news:List Value,news.length=vs.length*3/\(∀ j u,news[j]?=some u->w.cell? (a.add j)=some u)/\(∀ u∈news,u.oneCell'=true) /\
  ∀ i (hi:i<vs.length),news[i*3]?=some (.string vs[i].s)/\news[i*3+1]?=some (.int .u8 vs[i].k)/\news[i*3+2]?=some (.int .i64 vs[i].n):=by
 intro vs
 induction vs generalizing a with
 | nil=>exact fun _=>⟨[],rfl,fun j u h=>by simp at h,fun u h=>by simp at h,fun i hi=>absurd hi (by simp)⟩
 | cons t us ih =>
  intro h
  obtain ⟨a',e,hS,hc,_⟩:=h 0 (by simp)
  injection e with e
  subst e
  obtain ⟨news,hl,hcell,h1,hns⟩:=ih (a:=a.add 3) (fun i hi=>by
   obtain ⟨a'',e,hS',hc,hf⟩:=h (i+1) (by simpa using hi)
   injection e with e
   subst e
   refine ⟨_,rfl,by rw [block_add]; exact hS',?_,by simpa using hf⟩
   rw [add_add,show 3+i*3=(i+1)*3 by omega]
   simpa using hc)
  obtain ⟨c0,c1,c2⟩:=hc
  simp only [Nat.zero_mul] at c0 c1 c2
  refine ⟨.string t.s :: .int .u8 t.k :: .int .i64 t.n::news,by simp [hl]; omega,fun j u hj=>?_,fun u hu=>?_,fun i hi=>?_⟩
  ·rcases j with _|_|_|j
   ·simp at hj; subst hj; exact c0
   ·simp at hj; subst hj; exact c1
   ·simp at hj; subst hj; exact c2
   ·have:=hcell j u (by simpa using hj)
    rw [add_add] at this
    rw [show j+1+1+1=3+j by omega]
    exact this
  ·simp only [List.mem_cons] at hu
   rcases hu with rfl|rfl|rfl|hu
   ·rfl
   ·rfl
   ·rfl
   ·exact h1 u hu
  ·rcases i with _|i
   ·exact ⟨rfl,rfl,rfl⟩
   ·obtain ⟨e0,e1,e2⟩:=hns i (by simpa using hi)
    refine ⟨?_,?_,?_⟩
    ·rw [show (i+1)*3=i*3+1+1+1 by omega]; simpa using e0
    ·rw [show (i+1)*3+1=i*3+1+1+1+1 by omega]; simpa using e1
    ·rw [show (i+1)*3+2=i*3+2+1+1+1 by omega]; simpa using e2
theorem ClipI_any (A:Option Addr) (l c:Nat) (hlc:l<=c) (hl:l<=LI) (w:World):Calls Tryz.prog 165 #[.slice A l c] w fun e w'=>e=.returned (.slice A l l)/\w=w':=by
 have hl':=LI_int hl
 have h1:(l:Int)<=(c:Int):=by omega
 clear hl
 go_enter Tryz.func165,Tryz.ntmps165
 go_wp2_with fail
 go_ret
 exact ⟨rfl,rfl⟩
theorem ClipV_any (A:Option Addr) (l c:Nat) (hlc:l<=c) (hl:l<=LV) (w:World):Calls Tryz.prog 166 #[.slice A l c] w fun e w'=>e=.returned (.slice A l l)/\w=w':=by
 have hl':=LV_int hl
 have h1:(l:Int)<=(c:Int):=by omega
 clear hl
 go_enter Tryz.func166,Tryz.ntmps166
 go_wp2_with fail
 go_ret
 exact ⟨rfl,rfl⟩
theorem step_append_grows {P:Program} {w:World} {ops:Array Oper} {o:Oper} {a:Act} {K:Act->World->Prop} {Q:Exit->Act->World->Prop} {F:Prop} (hgd:o.guard=none) (s x:Operand) (t:TypeId)
  (hop:o.op=Op.call { callee:=Callee.builtin Builtin.append,args := #[s,x],argTypes := #[t,t] }) (e:TypeId) (i:TypeInfo) (z:Value) (size bytes:Nat) (h1:P.underlying t=some (.slice e)) (h2:P.info? e=some i) (h3:i.zero=some z) (h4:i.size=size) (h5:i.bytes=bytes) (h6:z.cells.size=size) (h7:0<size)
  (ao:Option Addr) (n cap:Nat) (olds:List Value) (hs:a.eval s=.slice ao n cap) (hnone:ao=none->n=0/\cap=0) (hlo:olds.length=n*size) (holds:∀ b,ao=some b->∀ j u,olds[j]?=some u->w.cell? (b.add j)=some u)
  (ad:Addr) (m c:Nat) (news:List Value) (hx:a.eval x=.slice (some ad) m c) (hn:news.length=m*size) (hc:∀ j u,news[j]?=some u->w.cell? (ad.add j)=some u) (h1c:∀ u∈news,u.oneCell'=true)
  (hfull:cap<n+m) (b1:n+m<=maxLen) (b2:(n+m)*bytes<=140737488355328)
  (hK:∀ v' w',w'.ownsRow w.heap.size e size v' (n+m) (olds++news)->w.grownBy w' none->K (a.put o.dst v') w') :
  if Region.wanted o (yielded ops a.tmps)=true then Oper.wp P o a w K Q else F:=by
 have hw:Region.wanted o (yielded ops a.tmps)=true:=by simp [Region.wanted,hgd]
 rw [if_pos hw]
 cases ao with
 | some b =>
  obtain ⟨v',w',hrun,r1,r2⟩:=run_append_arg_grows (P:=P) w t o.type e i z size bytes h1 h2 h3 h4 h5 h6 h7 b n cap olds hlo (holds b rfl) ad m c news hn hc hfull b1 b2
  unfold Oper.wp
  simp [execOp,hop,resolve,invoke,builtin,hs,hx,hrun,Result.andThen]
  exact hK v' w' r1 r2
 | none =>
  obtain ⟨rfl,rfl⟩:=hnone rfl
  obtain rfl:olds=[]:=List.eq_nil_of_length_eq_zero (by simpa using hlo)
  obtain ⟨v',w',hrun,r1,r2,_⟩:=run_append_own (P:=P) w w.heap.size t o.type e i z size bytes h1 h2 h3 h4 h5 h6 h7 (.slice none 0 0) 0 [] (World.ownsRow_nil w _ e size) ad m c news hn hc h1c b1 b2 (Nat.le_refl _)
  unfold Oper.wp
  simp [execOp,hop,resolve,invoke,builtin,hs,hx,hrun,Result.andThen]
  exact hK v' w' r1 r2
theorem child_any (q:List Int) (A:Option Addr) (c:Nat) (i:Int) (hi:I64 i) (S:Nat->Prop) (w:World) (hrow:RowI w S A q) (hlc:q.length<=c) (hl:q.length<=100000) :
  Calls Tryz.prog 138 #[.slice A q.length c,.int .i64 i] w (NewI w (q++[i])):=by
 obtain ⟨i0,hi0,hz0,hz1,hz2⟩:=info_parts intInfo
 have HROW:=zh hrow
 have HI:=zh hi
 have hbI:=buildI1
 have hm1:q.length+1<=maxLen:=by unfold maxLen; omega
 have hm2:(q.length+1)*8<=140737488355328:=by omega
 have hnone:A=none->q.length=0/\q.length=0:=fun h=>by
  subst h
  cases q with
  | nil=>simp
  | cons x xs=>obtain ⟨_,h,_⟩:=hrow 0 (by simp); cases h
 have hold:∀ b,A=some b->∀ (j:Nat) u,(q.map fun x=>Value.int .i64 x)[j]?=some u->(w.alloc (.cells #[.int .i64 i] 3)).cell? (b.add j)=some u:=fun b hb j u hj=>by
  subst hb
  exact cell_al (hrow.news.1 j u hj) _
 have hnew:∀ (j:Nat) (u:Value),[Value.int .i64 i][j]?=some u->(w.alloc (.cells #[.int .i64 i] 3)).cell? ((⟨w.heap.size,0,none⟩:Addr).add j)=some u:=fun j u h=>by
  have:=news_newN w 3 [Value.int .i64 i] j u h
  simpa using this
 clear hrow hi
 go_enter Tryz.func138,Tryz.ntmps138
 go_wp2_with fail
 refine (ClipI_any A q.length c hlc (by unfold LI; omega) _).mono ?_
 rintro e w' ⟨rfl,rfl⟩
 go_wp2_with (at_builtin; refine wpList_append_grows (P:=Tryz.prog) _ rfl (.tmp 6) (.tmp 8) 24 rfl 3 i0 _ 1 8 Tryz.underlying24 hi0 hz0 hz1 hz2 rfl (by decide) A q.length q.length _ rfl hnone (by simp) hold ⟨w.heap.size,0,none⟩ 1 1 [.int .i64 i] rfl rfl hnew (by intro u hu; simp at hu; subst hu; rfl) (by omega) hm1 hm2 ?_; intro v' w' h2 h3)
 have h2':w'.ownsRow (w.heap.size+1) 3 1 v' (q++[i]).length ((q++[i]).map (fun x=>Value.int .i64 x)):=by
  have:=h2
  simp only [World.size_alloc] at this
  simpa using this
 have hbl:Below w.heap.size w w':=((Below.refl w.heap.size w).alloc (Nat.le_refl _) _).grown h3 (by simp) (fun g e=>by cases e)
 obtain ⟨A',c',rfl,hcc,hri⟩:=ownsRow_rowI h2' (by
  intro x hx
  simp only [List.mem_append,List.mem_singleton] at hx
  rcases hx with hx|rfl
  ·exact HROW.out.fits x hx
  ·exact HI.out)
 have HRI:=zh (hri.mono (S':=From w.heap.size) fun b hb=>by have:=(h2'.lt b hb).1; show w.heap.size<=b; omega)
 have HB:=zh hbl
 have HC:=zh hcc
 clear h2 h2' h3 hbl hold hnew hri hcc hnone
 go_wp2_with fail
 go_ret
 exact ⟨A',c',rfl,HRI.out,HC.out,HB.out⟩
theorem buildV2 (s:ByteArray) (k:Int) (w:World):(Instr.build 83 #[(0,.string s),(1,.int .u8 k)]).run Tryz.prog w=.ok (.agg #[.string s,.int .u8 k,.int .i64 0]) w:=by kernel_rfl
theorem buildSV1 (a0 a1 a2:Value) (w:World):(Instr.buildSlice 22 1 #[(0,.agg #[a0,a1,a2])]).run Tryz.prog w=.ok (.slice (some ⟨w.heap.size,0,none⟩) 1 1) (w.alloc (.cells #[a0,a1,a2] 83)):=by kernel_rfl
def innerV (k:Int) (s:ByteArray) (i:Nat) (vs:List VD):List VD:=if k=54/\i=1 then vs++[⟨s,1,0⟩] else if k=55/\i=0 then vs++[⟨s,3,0⟩] else vs
def ShRow (w:World) (S:Nat->Prop) (vs:List VD) (e:Ending) (w':World):Prop:=∃ A' c',e=.returned (.slice A' vs.length c')/\RowV w' (fun b=>S b\/w.heap.size<=b) A' vs/\vs.length<=c'/\Below w.heap.size w w'
theorem ownsRow_rowV {w w':World} {base:Nat} {E:TypeId} {v:Value} {vs:List VD} {u:VD} {news:List Value} (hn:∀ i (hi:i<vs.length),news[i*3]?=some (.string vs[i].s)/\news[i*3+1]?=some (.int .u8 vs[i].k)/\news[i*3+2]?=some (.int .i64 vs[i].n))
  (hl:news.length=vs.length*3) (hf:∀ i (hi:i<vs.length),FldV vs[i]) (hu:FldV u) (h:w'.ownsRow base E 3 v (vs.length+1) (news++[.string u.s,.int .u8 u.k,.int .i64 u.n])) :
  ∃ A c,v=.slice A (vs++[u]).length c/\(vs++[u]).length<=c/\RowV w' (fun b=>base<=b) A (vs++[u]):=by
 rcases h.2 with ⟨_,h0⟩|⟨g,cap,cur,rfl,hb,hg,hc,hm,hz,hx⟩
 ·omega
 ·refine ⟨some ⟨g,0,none⟩,cap,by simp,by simpa using hc,fun i hi=>?_⟩
  have ha:(⟨g,0,none⟩:Addr).add (i*3)=⟨g,i*3,none⟩:=by unfold Addr.add; split<;>simp_all
  have hcell:∀ j x,(news++[Value.string u.s,.int .u8 u.k,.int .i64 u.n])[j]?=some x->w'.cell? ⟨g,j,none⟩=some x:=fun j x hj=>by
   have hlt:=(List.getElem?_eq_some_iff.1 hj).1
   rw [h.cellAt j (by simp at hlt; omega)]; exact hj
  refine ⟨⟨g,0,none⟩,rfl,hb,?_,?_⟩
  ·rw [ha]
   by_cases e:i<vs.length
   ·obtain ⟨e0,e1,e2⟩:=hn i e
    rw [List.getElem_append_left e]
    exact ⟨hcell (i*3) _ (by rw [List.getElem?_append_left (by omega)]; exact e0),hcell (i*3+1) _ (by rw [List.getElem?_append_left (by omega)]; exact e1),hcell (i*3+2) _ (by rw [List.getElem?_append_left (by omega)]; exact e2)⟩
   ·have e':i=vs.length:=by simp at hi; omega
    subst e'
    simp only [List.getElem_append_right (Nat.le_refl _),Nat.sub_self,List.getElem_cons_zero]
    exact ⟨hcell (vs.length*3) _ (by rw [List.getElem?_append_right (by omega)]; simp [hl]),hcell (vs.length*3+1) _ (by rw [List.getElem?_append_right (by omega)]; simp [hl]),hcell (vs.length*3+2) _ (by rw [List.getElem?_append_right (by omega)]; simp [hl])⟩
  ·by_cases e:i<vs.length
   ·rw [List.getElem_append_left e]; exact hf i e
   ·have e':i=vs.length:=by simp at hi; omega
    subst e'
    simpa using hu
theorem inner_any (t:T) (i:Nat) (hi64:i<=4000000000) (vs:List VD) (A:Option Addr) (c:Nat) (S S':Nat->Prop) (v:Value) (w:World) (hv:NV w S' t v) (hrow:RowV w S A vs) (hlc:vs.length<=c) (hl:vs.length<=100000) :
  Calls Tryz.prog 140 #[v,.int .i64 i,.slice A vs.length c] w (ShRow w S (innerV t.k t.s i vs)):=by
 obtain ⟨i0,hi0,hz0,hz1,hz2⟩:=info_parts vdInfo
 obtain ⟨B,tc,rfl,hft,-⟩:=hv.open_
 have HROW:=zh hrow
 have HLC:=zh hlc
 have HFT:=zh hft
 have hb2:=buildV2
 have hbs:=buildSV1
 have hm1:vs.length+1<=maxLen:=by unfold maxLen; omega
 have hm2:(vs.length+1)*32<=140737488355328:=by omega
 have hlv:vs.length<=LV:=by unfold LV; omega
 obtain ⟨news,hnl,hnc,hn1,hnv⟩:∃ news:List Value,news.length=vs.length*3/\(∀ b,A=some b->∀ (j:Nat) u,news[j]?=some u->w.cell? (b.add j)=some u)/\(A=none->vs.length=0/\vs.length=0)/\(∀ i (hi:i<vs.length),news[i*3]?=some (.string vs[i].s)/\news[i*3+1]?=some (.int .u8 vs[i].k)/\news[i*3+2]?=some (.int .i64 vs[i].n)):=by
  cases A with
  | none =>
   have h0:vs=[]:=by
    cases vs with
    | nil=>rfl
    | cons x xs=>obtain ⟨_,h,_⟩:=hrow 0 (by simp); cases h
   subst h0
   exact ⟨[],rfl,(fun b h=>by cases h),(fun _=>⟨rfl,rfl⟩),fun i hi=>absurd hi (by simp)⟩
  | some a =>
   obtain ⟨news,h1,h2,_,h4⟩:=hrow.news
   exact ⟨news,h1,(fun b h=>by injection h with h; subst h; exact h2),(fun h=>by cases h),h4⟩
 have HNV:=zh hnv
 have HFV:=zh (show ∀ i (hi:i<vs.length),FldV vs[i] from fun i hi=>(hrow i hi).choose_spec.2.2.2)
 clear hrow hlc hft hv hnv
 generalize t.k=tk,t.n=tn,t.s=ts,t.ks.length=tl at *
 obtain ⟨V,hV⟩:∃ V,innerV tk ts i vs=V:=⟨_,rfl⟩
 rw [hV]
 have HV:=zh hV
 clear hV
 have key:∀ (kd:Int) (hkd:kd=1\/kd=3) (W':World) (v':Value),(((w.alloc (.cells #[.int .u8 tk,.int .i64 tn,.string ts,.slice B tl tc] 29)).alloc (.cells #[.string ts,.int .u8 kd,.int .i64 0] 83)).drew).grownBy W' none ->
   W'.ownsRow ((w.alloc (.cells #[.int .u8 tk,.int .i64 tn,.string ts,.slice B tl tc] 29)).alloc (.cells #[.string ts,.int .u8 kd,.int .i64 0] 83)).drew.heap.size 83 3 v' (vs.length+1) (news++[.string ts,.int .u8 kd,.int .i64 0])->V=vs++[⟨ts,kd,0⟩]->ShRow w S V (.returned v') W':=by
  intro kd hkd W' v' hg ho hVV
  subst hVV
  obtain ⟨A',c',rfl,hcc,hrr⟩:=ownsRow_rowV (w:=w) (u:=⟨ts,kd,0⟩) HNV.out hnl HFV.out ⟨HFT.out.2.2,(show (0:Int)<=kd/\kd<256 by rcases hkd with rfl|rfl<;>decide),(by decide:(-9223372036854775808:Int)<=0/\(0:Int)<=9223372036854775807)⟩ ho
  refine ⟨A',c',rfl,hrr.mono fun b hb=>.inr ?_,hcc,?_⟩
  ·simp at hb; omega
  ·exact ((((Below.refl w.heap.size w).alloc (Nat.le_refl _) _).alloc (by simp) _).drew).grown hg (by simp; omega) (fun g e=>by cases e)
 have HKEY:=zh key
 have hnc':∀ o o' b,A=some b->∀ (j:Nat) u,news[j]?=some u->((w.alloc o).alloc o').drew.cell? (b.add j)=some u:=fun o o' b hb j u hj=>cell_al (cell_al (hnc b hb j u hj) o) o'
 have hnw:∀ (kd:Int) (j:Nat) (u:Value),[Value.string ts,.int .u8 kd,.int .i64 0][j]?=some u->((w.alloc (.cells #[.int .u8 tk,.int .i64 tn,.string ts,.slice B tl tc] 29)).alloc (.cells #[.string ts,.int .u8 kd,.int .i64 0] 83)).drew.cell? ((⟨w.heap.size+1,0,none⟩:Addr).add j)=some u:=fun kd j u h=>by
  have:=news_newN (w.alloc (.cells #[.int .u8 tk,.int .i64 tn,.string ts,.slice B tl tc] 29)) 83 [Value.string ts,.int .u8 kd,.int .i64 0] j u h
  simpa using this
 have HNC:=zh hnc'
 have HNW:=zh hnw
 clear key hnc hnc' hnw
 by_cases h54:tk=54/\i=1
 ·obtain ⟨rfl,rfl⟩:=h54
  have HVV:=zh (show V=vs++[⟨ts,1,0⟩] by rw [<-HV.out]; simp [innerV])
  go_enter Tryz.func140,Tryz.ntmps140
  go_wp2_with fail
  go_region_held3 (fun w'=>w'.cell? ⟨w.heap.size,2,none⟩=some (.string ts))
   (first|exact hk5|(simp; done))
   (first
    | (refine step_append_grows (by rfl) (.tmp 16) (.tmp 20) 22 (by rfl) 83 i0 _ 3 32 Tryz.underlying22 hi0 hz0 hz1 hz2 rfl (by decide) A vs.length vs.length news (by rfl) hn1 hnl (HNC.out _ _) ⟨w.heap.size+1,0,none⟩ 1 1 [.string ts,.int .u8 1,.int .i64 0] (by rfl) rfl (HNW.out 1) (by intro u hu; simp at hu; rcases hu with rfl|rfl|rfl<;>rfl) (by omega) hm1 hm2 ?_; intro v' w' h2 h3; have HF:=zh (HKEY.out 1 (.inl rfl) w' v' h3 h2 HVV.out); have hk5:w'.cell? ⟨w.heap.size,2,none⟩=some (.string ts):=(World.cell?_of_block (a:=⟨w.heap.size,2,none⟩) (h3.block _ (by simp; omega) (by simp))).trans (by simp); clear h2 h3)
    | (go_at_call 166; refine (ClipV_any A vs.length c HLC.out hlv _).mono ?_; rintro e wq ⟨rfl,rfl⟩)
    | fail)
  all_goals
   clear hk5
   go_wp2_with fail
   go_ret
   exact HF.out
 by_cases h55:tk=55/\i=0
 ·obtain ⟨rfl,rfl⟩:=h55
  have HVV:=zh (show V=vs++[⟨ts,3,0⟩] by rw [<-HV.out]; simp [innerV])
  go_enter Tryz.func140,Tryz.ntmps140
  go_wp2_with fail
  go_region_held3 (fun w'=>w'.cell? ⟨w.heap.size,2,none⟩=some (.string ts))
   (first|exact hk5|(simp; done))
   (first
    | (refine step_append_grows (by rfl) (.tmp 31) (.tmp 35) 22 (by rfl) 83 i0 _ 3 32 Tryz.underlying22 hi0 hz0 hz1 hz2 rfl (by decide) A vs.length vs.length news (by rfl) hn1 hnl (HNC.out _ _) ⟨w.heap.size+1,0,none⟩ 1 1 [.string ts,.int .u8 3,.int .i64 0] (by rfl) rfl (HNW.out 3) (by intro u hu; simp at hu; rcases hu with rfl|rfl|rfl<;>rfl) (by omega) hm1 hm2 ?_; intro v' w' h2 h3; have HF:=zh (HKEY.out 3 (.inr rfl) w' v' h3 h2 HVV.out); have hk5:w'.cell? ⟨w.heap.size,2,none⟩=some (.string ts):=(World.cell?_of_block (a:=⟨w.heap.size,2,none⟩) (h3.block _ (by simp; omega) (by simp))).trans (by simp); clear h2 h3)
    | (go_at_call 166; refine (ClipV_any A vs.length c HLC.out hlv _).mono ?_; rintro e wq ⟨rfl,rfl⟩)
    | fail)
  all_goals
   clear hk5
   go_wp2_with fail
   go_ret
   exact HF.out
 have HVV:=zh (show V=vs by rw [<-HV.out]; unfold innerV; rw [if_neg h54,if_neg h55])
 have HF:=zh (show ∀ o,ShRow w S V (.returned (.slice A vs.length c)) (w.alloc o) from fun o=>by
  rw [HVV.out]
  exact ⟨A,c,rfl,(HROW.out.later ((Below.refl _ _).alloc (Nat.le_refl _) _)).mono fun b hb=>.inl hb,HLC.out,(Below.refl _ _).alloc (Nat.le_refl _) _⟩)
 by_cases k54:tk=54
 ·subst k54
  have hne:¬ i=1:=fun e=>h54 ⟨rfl,e⟩
  have e1:(i==1)=false:=by simpa using hne
  have e2:((i:Int)==1)=false:=by simp; omega
  clear h54 h55 hne
  go_enter Tryz.func140,Tryz.ntmps140
  go_wp2_with fail
  go_ret
  exact HF.out _
 have f54:(tk==54)=false:=by simpa using k54
 by_cases k55:tk=55
 ·subst k55
  have hne:¬ i=0:=fun e=>h55 ⟨rfl,e⟩
  have e1:(i==0)=false:=by simpa using hne
  have e2:((i:Int)==0)=false:=by simp; omega
  clear h54 h55 hne
  go_enter Tryz.func140,Tryz.ntmps140
  go_wp2_with fail
  go_ret
  exact HF.out _
 have f55:(tk==55)=false:=by simpa using k55
 clear h54 h55 k54 k55
 go_enter Tryz.func140,Tryz.ntmps140
 go_wp2_with fail
 go_ret
 exact HF.out _
theorem Clone_any (t:T):∀ (v:Value) (w:World),NV w Any t v->Calls Tryz.prog 76 #[v] w (NewNode w t):=by
 obtain ⟨i0,hi0,hz0,hz1,hz2⟩:=info_parts nodeInfo
 induction t using T.ind with
 | _ k n s ks ih =>
 intro v w hv
 obtain ⟨A,c,rfl,hf,hlk,hlc,hrow⟩:=hv.open_
 simp only [T.k_nd,T.n_nd,T.s_nd,T.ks_nd] at *
 have hlk':=LK_int hlk
 generalize hlen:ks.length=l at *
 have HL:=zh hlen
 clear hlen hv
 have hbs:=build1
 go_enter Tryz.func76,Tryz.ntmps76
 go_wp2
 go_loopw [3,9] (fun x i wr=>∃ j:Nat,j<=l/\i=.int .i64 j/\OwnN wr (w.heap.size+2) 29 (From (w.heap.size+2)) x (ks.take j) /\
   Below (w.heap.size+2) ((w.alloc (.cells #[.int .u8 k,.int .i64 n,.string s,.slice A l c] 29)).alloc (.cells #[.int .u8 0,.int .i64 0,.string ⟨#[]⟩,.slice none 0 0] 29)) wr) (fun _ i _=>l-(intOf i).toNat)
 case atStart=>exact ⟨0,Nat.zero_le _,rfl,OwnN.nil _ _ _ _,Below.refl _ _⟩
 case round =>
  obtain ⟨j,hj,rfl,hown,hb⟩:=hrel
  have hb0:Below w.heap.size w wr:=(((Below.refl _ _).alloc (Nat.le_refl _) _).alloc (by simp) _).trans (hb.mono (by omega))
  have hsz:w.heap.size+2<=wr.heap.size:=by have:=hb.size; simpa using this
  by_cases hlt:j<l
  ·have hi:j<ks.length:=by rw [HL.out]; exact hlt
   obtain ⟨a,t,A',c',rfl,_,Ht,c0,c1,c2,c3,hn⟩:=(hrow.later hb0).get hi
   have ih1:=zh (ih ks[j] (List.getElem_mem hi))
   rw [Ht.out] at ih1
   clear ih hrow
   go_wp2_with fail
   refine (ih1.out _ _ ?_).mono ?_
   ·exact hn.later ((Below.refl _ _).alloc (Nat.le_refl _) _)
   rintro e w1 ⟨k1,n1,s1,A1,l1,c1',rfl,hn1,hb1⟩
   have hb2:Below wr.heap.size wr w1:=((Below.refl _ _).alloc (Nat.le_refl _) _).trans (hb1.mono (by simp))
   have hb3:=hb.trans (hb2.mono hsz)
   have hown1:=hown.later hb2
   have hA:NV w1 (fun b=>From (w.heap.size+2) b/\some b≠u3.ownBlock) t (nv k1 n1 s1 A1 l1 c1'):=hn1.mono fun b hb=>by
    have hb':wr.heap.size+1<=b:=by simpa using hb
    refine ⟨by show w.heap.size+2<=b; omega,fun e=>?_⟩
    have:=(hown.block b e.symm).2
    omega
   have hlen1:(ks.take j).length+1<=LK:=by rw [List.length_take]; exact Nat.le_trans (by omega) hlk
   have hbase:w.heap.size+2<=w1.heap.size:=Nat.le_trans hsz hb2.size
   have htk:ks.take (j+1)=ks.take j++[t]:=by rw [List.take_succ_eq_append_getElem hi,Ht.out]
   have HT:=zh htk
   have hblk:=hown.block
   have HB:=zh hblk
   clear htk hown hb1 hblk
   go_wp2_with (at_builtin; refine wpList_append_node rfl (.tmp 13) (.tmp 16) 27 rfl 29 i0 _ Tryz.underlying27 hi0 hz0 hz1 hz2 rfl (w.heap.size+2) (From (w.heap.size+2)) u3 _ rfl hown1 t k1 n1 s1 A1 l1 c1' rfl hA hlen1 hbase ?_; intro v' w' hown' hg' hob')
   go_roundw
   case rel=>exact ⟨j+1,by omega,by go_num,by rw [HT.out]; exact hown',hb3.grown hg' hbase (fun g hg=>(HB.out g hg).1)⟩
   case measure=>simp [intOf]; omega
  ·have hj':j=l:=by omega
   subst hj'
   have hl:ks.length=j:=HL.out
   rw [List.take_of_length_le (by omega)] at hown
   obtain ⟨A2,c2,hv2,hc2,hr2,ha2⟩:=hown.row
   rw [hl] at hv2
   have HR:=zh (hr2.mono (S':=From (w.heap.size+2)) fun b hb=>by
    rcases hb with hb|hb
    ·exact hb
    ·exact (hown.block b hb).1)
   have HC:=zh hc2
   have HF:=zh hf
   subst hv2
   clear ha2 hr2 hown hc2 hl ih hrow hf
   have g0:wr.cell? ⟨w.heap.size,0,none⟩=some (.int .u8 k):=(hb.cell (p:=⟨w.heap.size,0,none⟩) (by simp)).trans (by simp)
   have g1:wr.cell? ⟨w.heap.size,1,none⟩=some (.int .i64 n):=(hb.cell (p:=⟨w.heap.size,1,none⟩) (by simp)).trans (by simp)
   have g2:wr.cell? ⟨w.heap.size,2,none⟩=some (.string s):=(hb.cell (p:=⟨w.heap.size,2,none⟩) (by simp)).trans (by simp)
   have g3:wr.cell? ⟨w.heap.size,3,none⟩=some (.slice A j c):=(hb.cell (p:=⟨w.heap.size,3,none⟩) (by simp)).trans (by simp)
   have f3:wr.frozen? ⟨w.heap.size,3,none⟩=false:=(hb.frozen (p:=⟨w.heap.size,3,none⟩) (by simp)).trans (by simp)
   have r0:wr.cell? ⟨w.heap.size+1,0,none⟩=some (.int .u8 0):=(hb.cell (p:=⟨w.heap.size+1,0,none⟩) (by simp)).trans (by simp)
   have r1:wr.cell? ⟨w.heap.size+1,1,none⟩=some (.int .i64 0):=(hb.cell (p:=⟨w.heap.size+1,1,none⟩) (by simp)).trans (by simp)
   have r2:wr.cell? ⟨w.heap.size+1,2,none⟩=some (.string ⟨#[]⟩):=(hb.cell (p:=⟨w.heap.size+1,2,none⟩) (by simp)).trans (by simp)
   have r3:wr.cell? ⟨w.heap.size+1,3,none⟩=some (.slice none 0 0):=(hb.cell (p:=⟨w.heap.size+1,3,none⟩) (by simp)).trans (by simp)
   have q0:wr.frozen? ⟨w.heap.size+1,0,none⟩=false:=(hb.frozen (p:=⟨w.heap.size+1,0,none⟩) (by simp)).trans (by simp)
   have q1:wr.frozen? ⟨w.heap.size+1,1,none⟩=false:=(hb.frozen (p:=⟨w.heap.size+1,1,none⟩) (by simp)).trans (by simp)
   have q2:wr.frozen? ⟨w.heap.size+1,2,none⟩=false:=(hb.frozen (p:=⟨w.heap.size+1,2,none⟩) (by simp)).trans (by simp)
   have q3:wr.frozen? ⟨w.heap.size+1,3,none⟩=false:=(hb.frozen (p:=⟨w.heap.size+1,3,none⟩) (by simp)).trans (by simp)
   go_wp2_with fail
   refine bodyPost_ret (v:=nv k n s A2 j c2) (by simp [results,Tryz.results76,go_sem,r0,r1,r2,r3]) rfl ⟨k,n,s,A2,j,c2,rfl,?_,?_⟩
   ·rw [<-HL.out]
    refine NV.shut HF.out (by rw [HL.out]; exact hlk) HC.out (HR.out.keep (fun b hb _=>Nat.le_trans (Nat.le_add_right _ 2) hb) fun b hb _=>?_)
    have hb':w.heap.size+2<=b:=hb
    rw [Below.heap_setCell _ _ _ _ (by simp; omega),Below.heap_setCell _ _ _ _ (by simp; omega),Below.heap_setCell _ _ _ _ (by simp; omega),Below.heap_setCell _ _ _ _ (by simp; omega),Below.heap_setCell _ _ _ _ (by simp; omega)]
   ·exact ((((hb0.setCell (by simp) _).setCell (by simp) _).setCell (by simp) _).setCell (by simp) _).setCell (by simp) _
end Go.Proofs.YtckhofdinldhpaaGreat
