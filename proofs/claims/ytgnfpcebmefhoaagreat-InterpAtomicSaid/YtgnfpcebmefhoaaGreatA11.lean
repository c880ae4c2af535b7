/-
  Texts of the proof, put together without their remarks: If, Lfp, Lap, Spg, Lau, Altb, Lat, Lift, LiftV, LiftS, LiftP.
-/
import Derived.Test.YtgnfpcebmefhoaaGreatA10
import Derived.Test.YtgnfpcebmefhoaaGreatRows
import Derived.ProofKit
import Derived.SizedLaws
import Derived.Deep.Slices
import Derived.Deep.Fields
import Derived.Lib.SmallJoins
import Derived.ChangeSlices
set_option linter.unusedSimpArgs false
set_option linter.unusedVariables false
set_option maxHeartbeats 8000000
set_option maxRecDepth 100000
namespace Go.Proofs.YtgnfpcebmefhoaaGreat
open Go Go.RowKit
def Fl (F':Int) (n:Nat) (o o':Out):Prop:=∀ r',o=.ok r'->n<=r'.n/\((r'.n:Int)<=F'\/r'.n=n->o'=.ok r')/\(F'<(r'.n:Int)->n<r'.n->o'=.err 18)
theorem Fl.bind {F':Int} {n:Nat} {o o':Out} {f f':RS->Out} (h:Fl F' n o o') (hf:∀ r,n<=r.n->Fl F' r.n (f r) (f' r)):Fl F' n (o.bind f) (o'.bind f'):=by
 intro r2 e
 cases o with
 | gas=>cases e
 | err x=>cases e
 | ok r1 =>
  obtain ⟨h1,h2,h3⟩:=h r1 rfl
  obtain ⟨g1,g2,g3⟩:=hf r1 h1 r2 e
  refine ⟨by omega,fun hc=>?_,fun a b=>?_⟩
  ·rw [h2 (by omega)]; exact g2 (by omega)
  ·by_cases hc:(r1.n:Int)<=F'\/r1.n=n
   ·rw [h2 hc]; exact g3 a (by omega)
   ·rw [h3 (by omega) (by omega)]; rfl
theorem Fl.err {F':Int} {n:Nat} {x:Int} {o':Out}:Fl F' n (.err x) o':=fun _ e=>by cases e
theorem Fl.gas {F':Int} {n:Nat} {o':Out}:Fl F' n .gas o':=fun _ e=>by cases e
theorem Fl.same {F':Int} {r:RS}:Fl F' r.n (.ok r) (.ok r):=fun r' e=>by
 injection e with e
 subst e
 exact ⟨Nat.le_refl _,fun _=>rfl,fun _ h=>absurd h (Nat.lt_irrefl _)⟩
theorem Fl.step (F F':Int) (r:RS):Fl F' r.n (stepO F r) (stepO F' r):=fun r' e=>by
 obtain ⟨rfl,-⟩:=stepO_ok e
 refine ⟨by simp only; omega,fun h=>?_,fun h _=>?_⟩
 ·unfold stepO; rw [if_neg (by simp only at h; omega)]
 ·unfold stepO; rw [if_pos (by simp only at h; omega)]
theorem Fl.store {F':Int} {r:RS} (R:Int×ST):Fl F' r.n (storeO r R) (storeO r R):=by
 unfold storeO
 split
 ·exact Fl.err
 ·intro r' e
  injection e with e
  subst e
  exact ⟨Nat.le_refl _,fun _=>rfl,fun _ h=>absurd h (Nat.lt_irrefl _)⟩
theorem Fl.val {F':Int} {n:Nat} {t:T} {r:RS} {f f':Int->RS->Out} (h:∀ x,Fl F' n (f x r) (f' x r)):Fl F' n (valO t r f) (valO t r f'):=by
 unfold valO
 split
 ·exact Fl.err
 ·exact h _
theorem Fl.holds {F F':Int} {t:T} {r:RS} {f f':Bool->RS->Out} (h:∀ b r1,r.n<=r1.n->Fl F' r1.n (f b r1) (f' b r1)):Fl F' r.n (holdsO F t r f) (holdsO F' t r f'):=by
 unfold holdsO
 exact (Fl.step F F' r).bind fun r1 h1=>Fl.val fun x=>h _ _ h1
theorem Fl.assert {F F':Int} {t:T} {b:Bool} {r:RS}:Fl F' r.n (assertO F t b r) (assertO F' t b r):=by
 unfold assertO
 refine Fl.holds fun b1 r1 _=>?_
 split
 ·exact Fl.same
 ·exact Fl.err
theorem Fl.body {F':Int} {f f':T->RS->Out}:∀ (l:List T) (r:RS),(∀ t∈l,∀ r',Fl F' r'.n (f t r') (f' t r'))->Fl F' r.n (bodyO f l r) (bodyO f' l r)
 | [],r,_=>Fl.same
 | t::ts,r,h=>by
  rw [bodyO,bodyO]
  exact (h t (List.mem_cons_self ..) r).bind fun r1 _=>Fl.body ts r1 fun u hu r'=>h u (List.mem_cons_of_mem _ hu) r'
theorem Fl.loop {F F':Int} {f f':T->RS->Out} {entry test:T} {l1 l2:List T} (h1:∀ t∈l1,∀ r',Fl F' r'.n (f t r') (f' t r')) (h2:∀ t∈l2,∀ r',Fl F' r'.n (f t r') (f' t r')):∀ (m:Nat) (r:RS),Fl F' r.n (loopO F f entry test l1 l2 m r) (loopO F' f' entry test l1 l2 m r)
 | 0,r=>Fl.gas
 | m+1,r=>by
  rw [loopO,loopO]
  refine (Fl.body l1 r h1).bind fun r1 _=>Fl.holds fun b r2 _=>?_
  split
  ·exact Fl.same
  ·exact (Fl.body l2 r2 h2).bind fun r3 _=>Fl.assert.bind fun r4 _=>Fl.loop h1 h2 m r4
theorem execO_fuel {prs:List PR} {F F':Int}:∀ (g:Nat) (back:Bool) (t:T) (r:RS),Fl F' r.n (execO prs F g back t r) (execO prs F' g back t r)
 | 0,_,_,_=>Fl.gas
 | g+1,back,t,r=>by
  have hb:∀ back (l:List T) r1,Fl F' r1.n (bodyO (execO prs F g back) l r1) (bodyO (execO prs F' g back) l r1):=fun back l r1=>Fl.body l r1 fun u _ r'=>execO_fuel g back u r'
  rw [execO,execO]
  split
  ·exact Fl.holds fun yes r1 _=>(hb _ _ r1).bind fun r2 _=>Fl.assert
  ·split
   ·exact Fl.assert.bind fun r1 _=>Fl.loop (fun u _ r'=>execO_fuel g back u r') (fun u _ r'=>execO_fuel g back u r') g r1
   ·split
    ·refine (Fl.step F F' r).bind fun r1 _=>Fl.val fun x=>(Fl.store _).bind fun r2 _=>(hb _ _ r2).bind fun r3 _=>(Fl.step F F' r3).bind fun r4 _=>Fl.val fun x=>Fl.store _
    ·split
     ·exact (Fl.step F F' r).bind fun r1 _=>(Fl.store _).bind fun r2 _=>(hb _ _ r2).bind fun r3 _=>(Fl.step F F' r3).bind fun r4 _=>Fl.store _
     ·split
      ·split
       ·exact Fl.err
       ·exact (Fl.step F F' r).bind fun r1 _=>(Fl.store _).bind fun r2 _=>Fl.bind (hb _ _ { r2 with ent:=_ }) fun r3 _=>(Fl.step F F' r3).bind fun r4 _=>Fl.store _
      ·exact (Fl.step F F' r).bind fun r1 _=>Fl.store _
theorem runO_fuel {prs:List PR} {F F':Int} (g:Nat) (back:Bool) (b:T) (r:RS):Fl F' r.n (runO prs F g back b r) (runO prs F' g back b r):=Fl.body _ _ fun u _ r'=>execO_fuel g back u r'
theorem resO_ok {p:PG} {s:SS} {F:Int} {g:Nat} {back:Bool} (hg:F.toNat*2000+2000<=g) (h:(resO p s F g back).2.2.1=0) :
  validB p=true/\chkN p=0/\fitB p.vs s=true/\∃ r,runO p.prs F g back p.m ⟨newS p.vs s,0,List.replicate p.prs.length 0⟩=.ok r/\resO p s F g back=(r.S.state,r.n,0,r.ent):=by
 unfold resO at h ⊢
 split at h
 ·simp at h
 ·rename_i h1
  rw [if_neg h1]
  simp only [not_or,Bool.not_eq_false,Decidable.not_not] at h1
  split at h
  ·simp at h
  ·rename_i h2
   rw [if_neg h2]
   simp only [Bool.not_eq_false] at h2
   refine ⟨h1.1,by simpa using h1.2,h2,?_⟩
   have hz:Nz (runO p.prs F g back p.m ⟨newS p.vs s,0,List.replicate p.prs.length 0⟩):=runO_nz GP_GC (GP_main h1.1 (by simpa using h1.2))
   have hg0:=(run_good (F:=F) (g:=g) h1.1 hg back (newS p.vs s) (List.replicate p.prs.length 0)).1
   cases ho:runO p.prs F g back p.m ⟨newS p.vs s,0,List.replicate p.prs.length 0⟩ with
   | gas=>exact absurd ho hg0
   | err e =>
    rw [ho] at h hz
    simp only [outR] at h
    rw [h] at hz
    exact absurd rfl hz
   | ok r=>exact ⟨r,rfl,rfl⟩
theorem resO_run {p:PG} {s:SS} {F:Int} {g:Nat} {back:Bool} (h1:validB p=true) (h2:chkN p=0) (h3:fitB p.vs s=true) :
  resO p s F g back=outR s (runO p.prs F g back p.m ⟨newS p.vs s,0,List.replicate p.prs.length 0⟩):=by
 unfold resO
 rw [if_neg (by rw [h1,h2]; simp),if_neg (by rw [h3]; simp)]
theorem fuel_law {p:PG} {s:SS} {F:Int} {g:Nat} {back:Bool} (hg:F.toNat*2000+2000<=g) (h:(resO p s F g back).2.2.1=0) :
  ((resO p s F g back).2.1:Int)<=max F 0/\(∀ F':Int,((resO p s F g back).2.1:Int)<=F'->resO p s F' g back=resO p s F g back) /\
   ∀ F':Int,F'<((resO p s F g back).2.1:Int)->0<(resO p s F g back).2.1->(resO p s F' g back).2.2.1=18:=by
 obtain ⟨h1,h2,h3,r,hr,he⟩:=resO_ok hg h
 rw [he]
 simp only
 have key:=fun F'=>runO_fuel (prs:=p.prs) (F:=F) (F':=F') g back p.m ⟨newS p.vs s,0,List.replicate p.prs.length 0⟩ r hr
 refine ⟨?_,fun F' hF=>?_,fun F' hF h0=>?_⟩
 ·rcases Int.lt_or_le (max F 0) (r.n:Int) with hlt|hle
  ·have:=(key F).2.2 (by omega) (by simp only; omega)
   rw [hr] at this
   cases this
  ·exact hle
 ·rw [resO_run h1 h2 h3,(key F').2.1 (.inl hF)]; rfl
 ·rw [resO_run h1 h2 h3,(key F').2.2 hF h0]; rfl
theorem resO_fail {p:PG} {s:SS} {F:Int} {g:Nat} {back:Bool} (h:(resO p s F g back).2.2.1≠0):(resO p s F g back).1=s/\(resO p s F g back).2.1=0:=by
 revert h
 unfold resO
 by_cases h1:validB p=false\/chkN p≠0
 ·rw [if_pos h1]
  exact fun _=>⟨rfl,rfl⟩
 ·rw [if_neg h1]
  by_cases h2:fitB p.vs s=false
  ·rw [if_pos h2]
   exact fun _=>⟨rfl,rfl⟩
  ·rw [if_neg h2]
   cases runO p.prs F g back p.m ⟨newS p.vs s,0,List.replicate p.prs.length 0⟩ with
   | ok r=>exact fun h=>absurd rfl h
   | err e=>exact fun _=>⟨rfl,rfl⟩
   | gas=>exact fun _=>⟨rfl,rfl⟩
structure SpG {I:Type} (P:I->Prop) (n0:Nat) (d0:I->RowD) (W0 W:World):Prop where
 ex:∃ d,Rws W n0 d/\(∀ q,(d q).v=(d0 q).v/\(d q).n=(d0 q).n/\(d q).xs.length=(d0 q).xs.length)/\(∀ q,¬ P q->d q=d0 q)/\∀ q,P q->∀ u∈(d q).xs,∃ n:Int,u=.int .i64 n
 chg:Chg (OwnB d0) W0 W
section
variable {I:Type} {P:I->Prop} {n0:Nat} {d0:I->RowD} {W0 W:World}
theorem SpG.new (h:Rws W n0 d0) (hi:∀ q,P q->∀ u∈(d0 q).xs,∃ n:Int,u=.int .i64 n):SpG P n0 d0 W W:=⟨⟨d0,h,fun _=>⟨rfl,rfl,rfl⟩,fun _ _=>rfl,hi⟩,Chg.refl _ _⟩
theorem SpG.drew (h:SpG P n0 d0 W0 W):SpG P n0 d0 W0 W.drew:=by
 obtain ⟨d,h1,h2⟩:=h.ex
 exact ⟨⟨d,h1.later (Below.refl _ _).drew,h2⟩,h.chg.drew⟩
theorem SpG.alloc (h:SpG P n0 d0 W0 W) (o:Obj):SpG P n0 d0 W0 (W.alloc o):=by
 obtain ⟨d,h1,h2⟩:=h.ex
 exact ⟨⟨d,h1.later (bl_al (Below.refl _ _) o),h2⟩,h.chg.alloc o⟩
theorem SpG.read (h:SpG P n0 d0 W0 W) {q:I} (hq:P q) {g o:Nat} (hg:(d0 q).v.ownBlock=some g) (ho:o<(d0 q).xs.length):(∃ n:Int,W.cell? ⟨g,o,none⟩=some (.int .i64 n))/\W.frozen? ⟨g,o,none⟩=false:=by
 obtain ⟨d,h1,h2,-,h4⟩:=h.ex
 have hl:o<(d q).xs.length:=by rw [(h2 q).2.2]; exact ho
 obtain ⟨n,hn⟩:=h4 q hq _ (List.getElem_mem hl)
 refine ⟨⟨n,h1.cell q (by rw [(h2 q).1]; exact hg) (by rw [List.getElem?_eq_getElem hl,hn])⟩,h1.frozen q (by rw [(h2 q).1]; exact hg) o⟩
theorem SpG.all (h:SpG P n0 d0 W0 W) {q:I} (hq:¬ P q) {g o:Nat} {u:Value} (hg:(d0 q).v.ownBlock=some g) (ho:(d0 q).xs[o]?=some u):W.cell? ⟨g,o,none⟩=some u:=by
 obtain ⟨d,h1,h2,h3,-⟩:=h.ex
 exact h1.cell q (by rw [(h2 q).1]; exact hg) (by rw [h3 q hq]; exact ho)
theorem SpG.set [DecidableEq I] (h:SpG P n0 d0 W0 W) {q:I} (hq:P q) {g o:Nat} (hg:(d0 q).v.ownBlock=some g) (ho:o<(d0 q).xs.length) (y:Int):SpG P n0 d0 W0 (W.setCell ⟨g,o,none⟩ (.int .i64 y)):=by
 obtain ⟨d,h1,h2,h3,h4⟩:=h.ex
 have hg':(d q).v.ownBlock=some g:=by rw [(h2 q).1]; exact hg
 have hl:o<(d q).xs.length:=by rw [(h2 q).2.2]; exact ho
 refine ⟨⟨_,h1.set q hg' hl (.int .i64 y),fun r=>?_,fun r hr=>?_,fun r hr u hu=>?_⟩,h.chg.setCell (.inl ⟨q,hg⟩) _⟩
 ·by_cases e:r=q
  ·subst e; rw [updR_same]; exact ⟨(h2 r).1,(h2 r).2.1,by simp [(h2 r).2.2]⟩
  ·rw [updR_other e]; exact h2 r
 ·rw [updR_other (fun e=>hr (by rw [e]; exact hq))]; exact h3 r hr
 ·by_cases e:r=q
  ·subst e
   rw [updR_same] at hu
   rcases List.mem_or_eq_of_mem_set hu with hu|rfl
   ·exact h4 r hr u hu
   ·exact ⟨y,rfl⟩
  ·rw [updR_other e] at hu; exact h4 r hr u hu
end
def two {I:Type} (d e:I->RowD):Bool×I->RowD
 | (false,i)=>d i
 | (true,i)=>e i
theorem two_rws {I:Type} {W:World} {n0 n1:Nat} {d e:I->RowD} (h1:Rws W n0 d) (h2:Rws W n1 e) (hn:n0<=n1) (hd:∀ i b,(d i).v.ownBlock=some b->b<n1):Rws W n0 (two d e):=by
 refine ⟨fun q=>?_,fun q r b hqr hb=>?_⟩
 ·obtain ⟨_|_,i⟩:=q
  ·exact h1.row i
  ·exact (h2.mono hn).row i
 ·obtain ⟨_|_,i⟩:=q<;>obtain ⟨_|_,j⟩:=r
  ·exact h1.sep i j b (fun e=>hqr (by rw [e])) hb
  ·intro hr
   have:=hd i b hb
   have:=(h2.lt j b hr).1
   omega
  ·intro hr
   have:=hd j b hr
   have:=(h2.lt i b hb).1
   omega
  ·exact h2.sep i j b (fun e=>hqr (by rw [e])) hb
theorem bR0 (w:World):(Instr.buildSlice 29 0 #[]).run Tryz.prog w=.ok (.slice (some ⟨w.heap.size,0,none⟩) 0 0) (w.alloc (.cells #[] 30)):=by kernel_rfl
theorem bR2 (A B:Option Addr) (l c m d:Nat) (w:World):(Instr.buildSlice 29 2 #[(0,.slice A l c),(1,.slice B m d)]).run Tryz.prog w=.ok (.slice (some ⟨w.heap.size,0,none⟩) 2 2) (w.alloc (.cells #[.slice A l c,.slice B m d] 30)):=by kernel_rfl
theorem bS2 (A B D A' B' D':Option Addr) (l c m d n e l' c' m' d' n' e':Nat) (w:World):(Instr.buildSlice 43 2 #[(0,.agg #[.slice A l c,.slice B m d,.slice D n e]),(1,.agg #[.slice A' l' c',.slice B' m' d',.slice D' n' e'])]).run Tryz.prog w =
  .ok (.slice (some ⟨w.heap.size,0,none⟩) 2 2) (w.alloc (.cells #[.slice A l c,.slice B m d,.slice D n e,.slice A' l' c',.slice B' m' d',.slice D' n' e'] 32)):=by kernel_rfl
theorem rowInfo:(Tryz.prog.info? 30).map (fun i=>(i.zero,i.size,i.bytes))=some (some (.slice none 0 0),1,24):=by kernel_rfl
theorem step_append_Z {ops:Array Oper} {o:Oper} {a:Act} {W:World} {K:Act->World->Prop} {Q:Exit->Act->World->Prop} {F:Prop} (hgd:o.guard=none) (s x:Operand)
  (ho:o.op=.call { callee:=.builtin .append,args := #[s,x],argTypes := #[29,29] }) (g:Nat) (hg:W.heap[g]?=some (.cells #[] 30 (0,0))) (hs:a.eval s=.slice (some ⟨g,0,none⟩) 0 0)
  (A:Option Addr) (m c:Nat) (news:List Value) (hx:a.eval x=.slice A m c) (hn:news.length=m) (hA:A=none->m=0) (hc:∀ ad,A=some ad->∀ j u,news[j]?=some u->W.cell? (ad.add j)=some u) (h1c:∀ u∈news,u.oneCell'=true) (hl:m<=1000000)
  (h:∀ v' w',w'.ownsRow g 30 1 v' m news->Below W.heap.size W w'->K (a.put o.dst v') w') :
  if Region.wanted o (yielded ops a.tmps)=true then Oper.wp Tryz.prog o a W K Q else F:=by
 obtain ⟨i,hi,hz0,hz1,hz2⟩:=info_parts rowInfo
 have hglt:=blk_lt hg
 rcases Nat.eq_zero_or_pos m with h0|h0
 ·subst h0
  have hnil:news=[]:=List.length_eq_zero_iff.1 hn
  subst hnil
  have hw:Region.wanted o (yielded ops a.tmps)=true:=by simp [Region.wanted,hgd]
  rw [if_pos hw]
  have hrun:(Builtin.append_ #[29,29] o.type #[.slice (some ⟨g,0,none⟩) 0 0,.slice A 0 c]).run Tryz.prog W=.ok (.slice (some ⟨g,0,none⟩) 0 0) W:=by
   cases A<;>simp [Builtin.append_,run_underlying Tryz.underlying29,sizeOf,typeInfo,hi,Builtin.lenOf,Builtin.firstCells,storeCells,loadCells,loadCellsFrom]
  unfold Oper.wp execOp
  simp only [ho,resolve,invoke,builtin,Sem.run_bind,Sem.run_pure,Result.andThen_ok,List.map_toArray,List.map_cons,List.map_nil,hs,hx,hrun]
  exact h _ W ⟨rfl,.inr ⟨g,0,#[],rfl,Nat.le_refl _,hg,Nat.le_refl _,Nat.zero_le _,rfl,rfl⟩⟩ (Below.refl _ _)
 ·rcases A with _|ad
  ·exact absurd (hA rfl) (by omega)
  ·refine step_append_grows hgd s x 29 ho 30 i _ 1 24 Tryz.underlying29 hi hz0 hz1 hz2 rfl (by decide) (some ⟨g,0,none⟩) 0 0 [] hs (by simp) (by simp) (fun b hb j u hu=>by simp at hu) ad m c news hx (by simpa using hn) (fun j u hj=>hc ad rfl j u hj) h1c (by omega) (by unfold maxLen; omega) (by omega) ?_
   intro v' w' hr hgr
   rw [Nat.zero_add,List.nil_append] at hr
   refine h v' w' ⟨hr.1,?_⟩ ⟨hgr.os,hgr.tape,hgr.output,hgr.size,fun b hb=>hgr.block b hb (by simp)⟩
   rcases hr.2 with h1|⟨g',cap,cur,e1,e2,e3⟩
   ·exact .inl h1
   ·exact .inr ⟨g',cap,cur,e1,by omega,e3⟩
theorem Rws.fst {I:Type} {W:World} {n0:Nat} {d e:I->RowD} (h:Rws W n0 (two d e)):Rws W n0 d:=⟨fun i=>h.row (false,i),fun i j b hij=>h.sep (false,i) (false,j) b (fun q=>hij (by injection q))⟩
theorem Rws.snd {I:Type} {W:World} {n0:Nat} {d e:I->RowD} (h:Rws W n0 (two d e)):Rws W n0 e:=⟨fun i=>h.row (true,i),fun i j b hij=>h.sep (true,i) (true,j) b (fun q=>hij (by injection q))⟩
section
variable {I:Type} {P:I->Prop} {C:Nat->Prop} {n0:Nat} {d0:I->RowD} {W0 W W':World}
theorem SpG.put (h:SpG P n0 d0 W0 W) (hc:Chg C W W') (hC:∀ b,C b->¬ OwnB d0 b) (hC2:∀ b,b<W0.heap.size->C b->OwnB d0 b):SpG P n0 d0 W0 W':=by
 obtain ⟨d,h1,h2,h3⟩:=h.ex
 exact ⟨⟨d,h1.chg hc fun i b hb hcb=>hC b hcb ⟨i,by rw [<-(h2 i).1]; exact hb⟩,h2,h3⟩,h.chg.trans2 hc hC2⟩
theorem SpG.later (h:SpG P n0 d0 W0 W) (hb:Below W.heap.size W W'):SpG P n0 d0 W0 W':=h.put (C:=fun _=>False) (Chg.of_below hb) (fun _ h=>h.elim) fun _ _ h=>h.elim
theorem SpG.again (h:SpG P n0 d0 W0 W):SpG P n0 d0 W W:=⟨h.ex,Chg.refl _ _⟩
theorem SpG.trans (h:SpG P n0 d0 W0 W) (h':SpG P n0 d0 W W'):SpG P n0 d0 W0 W':=⟨h'.ex,h.chg.trans h'.chg⟩
theorem SpG.row (h:SpG P n0 d0 W0 W) (q:I):∃ E sz xs,W.ownsRow n0 E sz (d0 q).v (d0 q).n xs:=by
 obtain ⟨d,h1,h2,h3⟩:=h.ex
 exact ⟨_,_,_,by rw [<-(h2 q).1,<-(h2 q).2.1]; exact h1.row q⟩
theorem SpG.same (h:SpG P n0 d0 W0 W) {q:I} (hq:¬ P q):W.ownsRow n0 (d0 q).E (d0 q).sz (d0 q).v (d0 q).n (d0 q).xs:=by
 obtain ⟨d,h1,h2,h3,-⟩:=h.ex
 have:=h1.row q
 rw [h3 q hq] at this
 exact this
end
theorem row_reads {W:World} {n0 n c:Nat} {E:TypeId} {A:Option Addr} {xs:List Value} (h:W.ownsRow n0 E 1 (.slice A n c) n xs):(A=none->n=0)/\∀ ad,A=some ad->∀ j u,xs[j]?=some u->W.cell? (ad.add j)=some u:=by
 have hl:=h.1
 rcases h.2 with ⟨e,h0⟩|⟨g,cap,cur,e,-⟩
 ·simp only [Value.slice.injEq] at e
  obtain ⟨rfl,rfl,rfl⟩:=e
  exact ⟨fun _=>rfl,nofun⟩
 ·simp only [Value.slice.injEq] at e
  obtain ⟨rfl,-,rfl⟩:=e
  refine ⟨nofun,fun ad had j u hj=>?_⟩
  injection had with had
  subst had
  have hj':=(List.getElem?_eq_some_iff.1 hj).1
  rw [Addr.add_lit,Nat.zero_add,h.cellAt j (by omega)]
  exact hj
theorem row_ge {W:World} {n0 n sz b:Nat} {E:TypeId} {v:Value} {xs:List Value} (h:W.ownsRow n0 E sz v n xs) (hb:v.ownBlock=some b):n0<=b:=by
 rcases h.2 with ⟨rfl,-⟩|⟨g,cap,cur,rfl,hg,-⟩
 ·cases hb
 ·injection hb with hb
  have hb:g=b:=hb
  omega
theorem rowsS_list {W:World} {n0:Nat} {d0:Bool×SI->RowD} {qb:Bool} {st:SS} {vc:Value} {Bq Dq:Option Addr} {dq gq:Nat} {fq:Nat->Value} (hrw:∀ i,d0 (qb,i)=rowsS vc (.slice Bq st.tin.length dq) (.slice Dq st.tout.length gq) fq st i)
  (hr:∀ q,∃ E sz xs,W.ownsRow n0 E sz (d0 q).v (d0 q).n xs):∀ j,j<st.cells.length+2->∃ (q:Bool×SI) (Aj:Option Addr) (nj cj:Nat),q.2 ≠ .all/\((List.range st.cells.length).map fq++[.slice Bq st.tin.length dq,.slice Dq st.tout.length gq])[j]?=some (.slice Aj nj cj)/\(d0 q).v=.slice Aj nj cj/\(d0 q).n=nj/\(d0 q).xs.length=nj:=by
 intro j hj
 rcases (show j<st.cells.length\/j=st.cells.length\/j=st.cells.length+1 by omega) with h|rfl|rfl
 ·obtain ⟨E,sz,xs,ho⟩:=hr (qb,.el j)
  have e:d0 (qb,.el j)=⟨fq j,3,1,(st.cells.getD j []).length,flatI (st.cells.getD j [])⟩:=by rw [hrw]; simp only [rowsS,if_pos h]
  rw [e] at ho
  obtain ⟨A,c,hv,-⟩:=row_slice ho
  dsimp only at hv
  refine ⟨(qb,.el j),A,(st.cells.getD j []).length,c,by simp,?_,by rw [e]; exact hv,by rw [e],by rw [e]; simp [flatI]⟩
  rw [List.getElem?_append_left (by simpa using h),List.getElem?_map,List.getElem?_range h,<-hv]
  rfl
 ·refine ⟨(qb,.inp),Bq,st.tin.length,dq,by simp,?_,by rw [hrw]; rfl,by rw [hrw]; rfl,by rw [hrw]; simp [rowsS,flatI]⟩
  rw [List.getElem?_append_right (by simp)]
  simp
 ·refine ⟨(qb,.out),Dq,st.tout.length,gq,by simp,?_,by rw [hrw]; rfl,by rw [hrw]; rfl,by rw [hrw]; simp [rowsS,flatI]⟩
  rw [List.getElem?_append_right (by simp)]
  simp
theorem rowsS_one {W:World} {n0:Nat} {d0:Bool×SI->RowD} {qb:Bool} {st:SS} {vc vi vo:Value} {fq:Nat->Value} (hrw:∀ i,d0 (qb,i)=rowsS vc vi vo fq st i) (hr:∀ q,∃ E sz xs,W.ownsRow n0 E sz (d0 q).v (d0 q).n xs):∀ u∈(List.range st.cells.length).map fq,u.oneCell'=true:=by
 intro u hu
 obtain ⟨j,hj,rfl⟩:=List.mem_map.1 hu
 have h:j<st.cells.length:=by simpa using hj
 obtain ⟨E,sz,xs,ho⟩:=hr (qb,.el j)
 have e:d0 (qb,.el j)=⟨fq j,3,1,(st.cells.getD j []).length,flatI (st.cells.getD j [])⟩:=by rw [hrw]; simp only [rowsS,if_pos h]
 rw [e] at ho
 obtain ⟨A,c,hv,-⟩:=row_slice ho
 dsimp only at hv
 rw [hv]
 rfl
theorem rowsS_nums (vc vi vo:Value) (fc:Nat->Value) (s:SS):∀ q,q ≠ .all->∀ u∈(rowsS vc vi vo fc s q).xs,∃ n:Int,u=.int .i64 n:=by
 intro q hq u hu
 cases q with
 | all=>exact absurd rfl hq
 | el i =>
  simp only [rowsS] at hu
  split at hu
  ·simp only [flatI,List.mem_map] at hu; obtain ⟨n,_,rfl⟩:=hu; exact ⟨n,rfl⟩
  ·simp [nilR] at hu
 | inp=>simp only [rowsS,flatI,List.mem_map] at hu; obtain ⟨n,_,rfl⟩:=hu; exact ⟨n,rfl⟩
 | out=>simp only [rowsS,flatI,List.mem_map] at hu; obtain ⟨n,_,rfl⟩:=hu; exact ⟨n,rfl⟩
theorem two_nums {va vi vo wa wi wo:Value} {fc gc:Nat->Value} {s t:SS}:∀ q:Bool×SI,q.2 ≠ .all->∀ u∈(two (rowsS va vi vo fc s) (rowsS wa wi wo gc t) q).xs,∃ n:Int,u=.int .i64 n:=by
 rintro ⟨_|_,i⟩ hq
 ·exact rowsS_nums _ _ _ _ _ _ hq
 ·exact rowsS_nums _ _ _ _ _ _ hq
section
variable {P:Program} {md:Region.Mode} {ops:Array Oper} {Q:Exit->Act->World->Prop} {S1 S2:World->Prop} {k:Nat}
theorem wpG_alt0 {i j:Nat} {oi oj:Oper} (si sj:Option Nat) (n:Nat) (L:Bool->Bool->Array Bool) (a0:Act) (Inv:World->Prop) (Al Fact:Value->World->Prop)
  (hoi:ops[i]?=some oi) (hoj:ops[j]?=some oj) (hdi:oi.dst=si) (hdj:oj.dst=sj) (hr0:Region.ready md ops (L false false)=[i,j]) (hr1:Region.ready md ops (L false true)=[i])
  (hLi:∀ l4,(L false l4).setIfInBounds i true=L true l4) (hLj:(L false false).setIfInBounds j true=L false true)
  (hS:∀ w,Inv w->S1 w/\S2 w) (hInv:∀ w w',Inv w->Below w.heap.size w w'->Inv w') (hAl:∀ u w w',Al u w->Below w.heap.size w w'->Al u w')
  (hi:∀ (v4:Value) (K:Act->World->Prop) (w:World),Inv w->Shut (∀ v w',Below w.heap.size w w'->Fact v w'->K ((a0.put sj v4).put si v) w')->if Region.wanted oi (yielded ops (a0.put sj v4).tmps)=true then Oper.wp P oi (a0.put sj v4) w K Q else K ((a0.put sj v4).put si undef) w)
  (hj:∀ (v4:Value) (K:Act->World->Prop) (w:World),Inv w->Shut (∀ v w',Below w.heap.size w w'->Al v w'->K ((a0.put sj v4).put sj v) w')->if Region.wanted oj (yielded ops (a0.put sj v4).tmps)=true then Oper.wp P oj (a0.put sj v4) w K Q else K ((a0.put sj v4).put sj undef) w)
  (hpp:∀ u v,(a0.put sj u).put sj v=a0.put sj v)
  (hc:∀ (l4:Bool) (v4 v:Value) (w:World),Inv w->Fact v w->(l4=true->Al v4 w)->wpG P md ops Q S1 S2 k (n+(!l4).toNat) (L true l4) ((a0.put sj v4).put si v) w) :
  ∀ (l4:Bool) (v4:Value) (w:World),Inv w->(l4=true->Al v4 w)->a0.put sj v4=a0->wpG P md ops Q S1 S2 k (n+1+(!l4).toNat) (L false l4) a0 w:=by
 subst hdi hdj
 have h1:∀ (v4:Value) (w:World),Inv w->Al v4 w->wpG P md ops Q S1 S2 k (n+1) (L false true) (a0.put oj.dst v4) w:=by
  intro v4 w hI hA
  refine ⟨(fun h0=>by rw [hr1] at h0; cases h0),fun q hq=>?_⟩
  rw [hr1] at hq
  simp only [List.mem_singleton] at hq
  subst hq
  refine wpOp_step hoi fun K' hK=>hi v4 K' w hI ?_
  intro v w' hb hF
  have hI':=hInv _ _ hI hb
  refine hK _ _ ⟨⟨(hS _ hI').1,fun _=>(hS _ hI').2⟩,?_⟩
  rw [hLi]
  exact hc true v4 v w' hI' hF (fun _=>hAl _ _ _ hA hb)
 intro l4 v4 w hI hA ha
 cases l4
 ·refine ⟨(fun h0=>by rw [hr0] at h0; cases h0),fun q hq=>?_⟩
  rw [hr0] at hq
  simp only [List.mem_cons,List.not_mem_nil,or_false] at hq
  rcases hq with rfl|rfl
  ·refine wpOp_step hoi fun K' hK=>?_
   rw [<-ha]
   refine hi v4 K' w hI ?_
   intro v w' hb hF
   have hI':=hInv _ _ hI hb
   refine hK _ _ ⟨⟨(hS _ hI').1,fun _=>(hS _ hI').2⟩,?_⟩
   rw [hLi]
   exact hc false v4 v w' hI' hF (fun h=>by cases h)
  ·refine wpOp_step hoj fun K' hK=>?_
   rw [<-ha]
   refine hj v4 K' w hI ?_
   intro v w' hb hF
   have hI':=hInv _ _ hI hb
   refine hK _ _ ⟨⟨(hS _ hI').1,fun _=>(hS _ hI').2⟩,?_⟩
   rw [hLj,hpp]
   exact h1 v w' hI' hF
 ·rw [<-ha]
  exact h1 v4 w hI (hA rfl)
end
section
variable {P:Program} {md:Region.Mode} {ops:Array Oper} {Q:Exit->Act->World->Prop} {S1 S2:World->Prop} {k:Nat}
theorem wpG_alt2 {i j1 j2:Nat} {oi o1 o2:Oper} (si s1 s2:Option Nat) (n:Nat) (L:Bool->Bool->Bool->Array Bool) (a0:Act) (Inv:World->Prop) (J:Bool->Bool->Value->Value->World->Prop) (Fact:Value->World->Prop)
  (hoi:ops[i]?=some oi) (ho1:ops[j1]?=some o1) (ho2:ops[j2]?=some o2) (hdi:oi.dst=si) (hd1:o1.dst=s1) (hd2:o2.dst=s2)
  (h00:Region.ready md ops (L false false false)=[i,j1,j2]) (h01:Region.ready md ops (L false false true)=[i,j1]) (h10:Region.ready md ops (L false true false)=[i,j2]) (h11:Region.ready md ops (L false true true)=[i])
  (hLi:∀ la lb,(L false la lb).setIfInBounds i true=L true la lb) (hL1:∀ lb,(L false false lb).setIfInBounds j1 true=L false true lb) (hL2:∀ la,(L false la false).setIfInBounds j2 true=L false la true)
  (hS:∀ w,Inv w->S1 w/\S2 w) (hInv:∀ w w',Inv w->Below w.heap.size w w'->Inv w') (hJ:∀ la lb u v w w',J la lb u v w->Below w.heap.size w w'->J la lb u v w')
  (hi:∀ (u v:Value) (K:Act->World->Prop) (w:World),Inv w->Shut (∀ x w',Below w.heap.size w w'->Fact x w'->K (((a0.put s1 u).put s2 v).put si x) w')->if Region.wanted oi (yielded ops ((a0.put s1 u).put s2 v).tmps)=true then Oper.wp P oi ((a0.put s1 u).put s2 v) w K Q else K (((a0.put s1 u).put s2 v).put si undef) w)
  (h1:∀ (lb:Bool) (u v:Value) (K:Act->World->Prop) (w:World),Inv w->J false lb u v w->Shut (∀ x w',Below w.heap.size w w'->J true lb x v w'->K (((a0.put s1 u).put s2 v).put s1 x) w')->if Region.wanted o1 (yielded ops ((a0.put s1 u).put s2 v).tmps)=true then Oper.wp P o1 ((a0.put s1 u).put s2 v) w K Q else K (((a0.put s1 u).put s2 v).put s1 undef) w)
  (h2:∀ (la:Bool) (u v:Value) (K:Act->World->Prop) (w:World),Inv w->J la false u v w->Shut (∀ x w',Below w.heap.size w w'->J la true u x w'->K (((a0.put s1 u).put s2 v).put s2 x) w')->if Region.wanted o2 (yielded ops ((a0.put s1 u).put s2 v).tmps)=true then Oper.wp P o2 ((a0.put s1 u).put s2 v) w K Q else K (((a0.put s1 u).put s2 v).put s2 undef) w)
  (hp1:∀ u v x,((a0.put s1 u).put s2 v).put s1 x=(a0.put s1 x).put s2 v) (hp2:∀ u v x,((a0.put s1 u).put s2 v).put s2 x=(a0.put s1 u).put s2 x)
  (hc:∀ (la lb:Bool) (u v x:Value) (w:World),Inv w->Fact x w->J la lb u v w->wpG P md ops Q S1 S2 k (n+(!la).toNat+(!lb).toNat) (L true la lb) (((a0.put s1 u).put s2 v).put si x) w) :
  ∀ (la lb:Bool) (u v:Value) (w:World),Inv w->J la lb u v w->(a0.put s1 u).put s2 v=a0->wpG P md ops Q S1 S2 k (n+1+(!la).toNat+(!lb).toNat) (L false la lb) a0 w:=by
 subst hdi hd1 hd2
 have hmem:∀ la lb q,q∈Region.ready md ops (L false la lb)->q=i\/(q=j1/\la=false)\/(q=j2/\lb=false):=by
  intro la lb q hq
  cases la<;>cases lb
  ·rw [h00] at hq; simp at hq; rcases hq with h|h|h<;>simp [h]
  ·rw [h01] at hq; simp at hq; rcases hq with h|h<;>simp [h]
  ·rw [h10] at hq; simp at hq; rcases hq with h|h<;>simp [h]
  ·rw [h11] at hq; simp at hq; simp [hq]
 have hne:∀ la lb,Region.ready md ops (L false la lb)≠[]:=by
  intro la lb
  cases la<;>cases lb
  ·rw [h00]; simp
  ·rw [h01]; simp
  ·rw [h10]; simp
  ·rw [h11]; simp
 let Pp:Bool->Bool->Prop:=fun la lb=>∀ (u v:Value) (w:World),Inv w->J la lb u v w->wpG P md ops Q S1 S2 k (n+1+(!la).toNat+(!lb).toNat) (L false la lb) ((a0.put o1.dst u).put o2.dst v) w
 have step:∀ la lb,(la=false->Pp true lb)->(lb=false->Pp la true)->Pp la lb:=by
  intro la lb ia ib u v w hI hj
  rw [show n+1+(!la).toNat+(!lb).toNat=(n+(!la).toNat+(!lb).toNat)+1 by omega]
  refine ⟨(fun h0=>absurd h0 (hne la lb)),fun q hq=>?_⟩
  rcases hmem la lb q hq with rfl|⟨rfl,rfl⟩|⟨rfl,rfl⟩
  ·refine wpOp_step hoi fun K' hK=>hi u v K' w hI ?_
   intro x w' hbl hF
   have hI':=hInv _ _ hI hbl
   refine hK _ _ ⟨⟨(hS _ hI').1,fun _=>(hS _ hI').2⟩,?_⟩
   rw [hLi]
   exact hc la lb u v x w' hI' hF (hJ _ _ _ _ _ _ hj hbl)
  ·refine wpOp_step ho1 fun K' hK=>h1 lb u v K' w hI hj ?_
   intro x w' hbl hF
   have hI':=hInv _ _ hI hbl
   refine hK _ _ ⟨⟨(hS _ hI').1,fun _=>(hS _ hI').2⟩,?_⟩
   rw [hL1,hp1]
   have:=ia rfl x v w' hI' hF
   simpa using this
  ·refine wpOp_step ho2 fun K' hK=>h2 la u v K' w hI hj ?_
   intro x w' hbl hF
   have hI':=hInv _ _ hI hbl
   refine hK _ _ ⟨⟨(hS _ hI').1,fun _=>(hS _ hI').2⟩,?_⟩
   rw [hL2,hp2]
   have:=ib rfl u x w' hI' hF
   have e:n+1+(!la).toNat+(!true).toNat=n+(!la).toNat+(!false).toNat:=by simp; omega
   rw [e] at this
   exact this
 have ptt:Pp true true:=step _ _ (fun h=>by cases h) (fun h=>by cases h)
 have ptf:Pp true false:=step _ _ (fun h=>by cases h) (fun _=>ptt)
 have pft:Pp false true:=step _ _ (fun _=>ptt) (fun h=>by cases h)
 have pff:Pp false false:=step _ _ (fun _=>ptf) (fun _=>pft)
 intro la lb u v w hI hj he
 have:Pp la lb:=by cases la<;>cases lb<;>assumption
 rw [<-he]
 exact this u v w hI hj
theorem wpG_free2 {j1 j2:Nat} {o1 o2:Oper} (s1 s2:Option Nat) (n:Nat) (L:Bool->Bool->Array Bool) (a0:Act) (Inv:World->Prop) (J:Bool->Bool->Value->Value->World->Prop)
  (ho1:ops[j1]?=some o1) (ho2:ops[j2]?=some o2) (hd1:o1.dst=s1) (hd2:o2.dst=s2)
  (h00:Region.ready md ops (L false false)=[j1,j2]) (h01:Region.ready md ops (L false true)=[j1]) (h10:Region.ready md ops (L true false)=[j2])
  (hL1:∀ lb,(L false lb).setIfInBounds j1 true=L true lb) (hL2:∀ la,(L la false).setIfInBounds j2 true=L la true)
  (hS:∀ w,Inv w->S1 w/\S2 w) (hInv:∀ w w',Inv w->Below w.heap.size w w'->Inv w')
  (h1:∀ (lb:Bool) (u v:Value) (K:Act->World->Prop) (w:World),Inv w->J false lb u v w->Shut (∀ x w',Below w.heap.size w w'->J true lb x v w'->K (((a0.put s1 u).put s2 v).put s1 x) w')->if Region.wanted o1 (yielded ops ((a0.put s1 u).put s2 v).tmps)=true then Oper.wp P o1 ((a0.put s1 u).put s2 v) w K Q else K (((a0.put s1 u).put s2 v).put s1 undef) w)
  (h2:∀ (la:Bool) (u v:Value) (K:Act->World->Prop) (w:World),Inv w->J la false u v w->Shut (∀ x w',Below w.heap.size w w'->J la true u x w'->K (((a0.put s1 u).put s2 v).put s2 x) w')->if Region.wanted o2 (yielded ops ((a0.put s1 u).put s2 v).tmps)=true then Oper.wp P o2 ((a0.put s1 u).put s2 v) w K Q else K (((a0.put s1 u).put s2 v).put s2 undef) w)
  (hp1:∀ u v x,((a0.put s1 u).put s2 v).put s1 x=(a0.put s1 x).put s2 v) (hp2:∀ u v x,((a0.put s1 u).put s2 v).put s2 x=(a0.put s1 u).put s2 x)
  (hc:∀ (u v:Value) (w:World),Inv w->J true true u v w->wpG P md ops Q S1 S2 k n (L true true) ((a0.put s1 u).put s2 v) w) :
  ∀ (la lb:Bool) (u v:Value) (w:World),Inv w->J la lb u v w->(a0.put s1 u).put s2 v=a0->wpG P md ops Q S1 S2 k (n+(!la).toNat+(!lb).toNat) (L la lb) a0 w:=by
 subst hd1 hd2
 let Pp:Bool->Bool->Prop:=fun la lb=>∀ (u v:Value) (w:World),Inv w->J la lb u v w->wpG P md ops Q S1 S2 k (n+(!la).toNat+(!lb).toNat) (L la lb) ((a0.put o1.dst u).put o2.dst v) w
 have ptt:Pp true true:=fun u v w hI hj=>hc u v w hI hj
 have s1:∀ lb (u v:Value) (w:World),Inv w->J false lb u v w->Pp true lb->wpOp P ops Q j1 (fun a' w'=>(S1 w'/\(((L false lb).setIfInBounds j1 true).getD k true=false->S2 w'))/\wpG P md ops Q S1 S2 k (n+(!lb).toNat) ((L false lb).setIfInBounds j1 true) a' w') ((a0.put o1.dst u).put o2.dst v) w:=by
  intro lb u v w hI hj hP
  refine wpOp_step ho1 fun K' hK=>h1 lb u v K' w hI hj ?_
  intro x w' hbl hF
  have hI':=hInv _ _ hI hbl
  refine hK _ _ ⟨⟨(hS _ hI').1,fun _=>(hS _ hI').2⟩,?_⟩
  rw [hL1,hp1]
  have:=hP x v w' hI' hF
  simpa using this
 have s2:∀ la (u v:Value) (w:World),Inv w->J la false u v w->Pp la true->wpOp P ops Q j2 (fun a' w'=>(S1 w'/\(((L la false).setIfInBounds j2 true).getD k true=false->S2 w'))/\wpG P md ops Q S1 S2 k (n+(!la).toNat) ((L la false).setIfInBounds j2 true) a' w') ((a0.put o1.dst u).put o2.dst v) w:=by
  intro la u v w hI hj hP
  refine wpOp_step ho2 fun K' hK=>h2 la u v K' w hI hj ?_
  intro x w' hbl hF
  have hI':=hInv _ _ hI hbl
  refine hK _ _ ⟨⟨(hS _ hI').1,fun _=>(hS _ hI').2⟩,?_⟩
  rw [hL2,hp2]
  have:=hP u x w' hI' hF
  simpa using this
 have pft:Pp false true:=fun u v w hI hj=>by
  show wpG P md ops Q S1 S2 k (n+1+0) _ _ w
  refine ⟨(fun h0=>by rw [h01] at h0; cases h0),fun q hq=>?_⟩
  rw [h01] at hq
  simp only [List.mem_singleton] at hq
  subst hq
  exact s1 true u v w hI hj ptt
 have ptf:Pp true false:=fun u v w hI hj=>by
  show wpG P md ops Q S1 S2 k (n+0+1) _ _ w
  refine ⟨(fun h0=>by rw [h10] at h0; cases h0),fun q hq=>?_⟩
  rw [h10] at hq
  simp only [List.mem_singleton] at hq
  subst hq
  exact s2 true u v w hI hj ptt
 have pff:Pp false false:=fun u v w hI hj=>by
  show wpG P md ops Q S1 S2 k (n+1+1) _ _ w
  refine ⟨(fun h0=>by rw [h00] at h0; cases h0),fun q hq=>?_⟩
  rw [h00] at hq
  simp only [List.mem_cons,List.not_mem_nil,or_false] at hq
  rcases hq with rfl|rfl
  ·exact s1 false u v w hI hj ptf
  ·exact s2 false u v w hI hj pft
 intro la lb u v w hI hj he
 have:Pp la lb:=by cases la<;>cases lb<;>assumption
 rw [<-he]
 exact this u v w hI hj
end
def J2 (o:Obj) (n:Nat) (la lb:Bool) (u v:Value) (w:World):Prop :=
 (la=true->∃ b,u=.pointer (some ⟨b,0,none⟩)/\n<=b/\w.heap[b]?=some o)/\(lb=true->∃ b,v=.pointer (some ⟨b,0,none⟩)/\n<=b/\w.heap[b]?=some o)/\(la=true->lb=true->u≠v)
theorem J2.later {o:Obj} {n:Nat} {la lb:Bool} {u v:Value} {w w':World} (h:J2 o n la lb u v w) (hb:Below w.heap.size w w'):J2 o n la lb u v w':=by
 obtain ⟨h1,h2,h3⟩:=h
 refine ⟨fun e=>?_,fun e=>?_,h3⟩
 ·obtain ⟨b,e1,e2,e3⟩:=h1 e
  exact ⟨b,e1,e2,blk_bl e3 hb⟩
 ·obtain ⟨b,e1,e2,e3⟩:=h2 e
  exact ⟨b,e1,e2,blk_bl e3 hb⟩
theorem J2.one {o:Obj} {n:Nat} {lb:Bool} {u v:Value} {w:World} (h:J2 o n false lb u v w) (hn:n<=w.heap.size):J2 o n true lb (.pointer (some ⟨w.heap.size,0,none⟩)) v (w.alloc o):=by
 have hl:=h.later (bl_al (Below.refl _ _) o)
 refine ⟨fun _=>⟨_,rfl,hn,heap_alloc_new w o⟩,hl.2.1,fun _ e=>?_⟩
 obtain ⟨b,rfl,-,e3⟩:=h.2.1 e
 intro hh
 injection hh with hh
 injection hh with hh
 injection hh with hh
 have:=blk_lt e3
 omega
theorem J2.two {o:Obj} {n:Nat} {la:Bool} {u v:Value} {w:World} (h:J2 o n la false u v w) (hn:n<=w.heap.size):J2 o n la true u (.pointer (some ⟨w.heap.size,0,none⟩)) (w.alloc o):=by
 have hl:=h.later (bl_al (Below.refl _ _) o)
 refine ⟨hl.1,fun _=>⟨_,rfl,hn,heap_alloc_new w o⟩,fun e _=>?_⟩
 obtain ⟨b,rfl,-,e3⟩:=h.1 e
 intro hh
 injection hh with hh
 injection hh with hh
 injection hh with hh
 have:=blk_lt e3
 omega
theorem J2.boxes {o:Obj} {n:Nat} {u v:Value} {w:World} (h:J2 o n true true u v w):∃ b c,u=.pointer (some ⟨b,0,none⟩)/\v=.pointer (some ⟨c,0,none⟩)/\n<=b/\n<=c/\b≠c/\w.heap[b]?=some o/\w.heap[c]?=some o:=by
 obtain ⟨b,rfl,e2,e3⟩:=h.1 rfl
 obtain ⟨c,rfl,f2,f3⟩:=h.2.1 rfl
 exact ⟨b,c,rfl,rfl,e2,f2,fun e=>h.2.2 rfl rfl (by rw [e]),e3,f3⟩
theorem fnFwdA:IsFn Tryz.prog 15 Tryz.f15:=⟨Tryz.func15,by kernel_rfl,by kernel_rfl⟩
theorem fnBwdA:IsFn Tryz.prog 18 Tryz.f18:=⟨Tryz.func18,by kernel_rfl,by kernel_rfl⟩
def FwR (n:Nat) (R:SS×Nat×Int×List Nat) (e:Ending) (w:World):Prop:=∃ A c B d D g fc,e=.returned (.agg #[.slice A R.1.cells.length c,.slice B R.1.tin.length d,.slice D R.1.tout.length g,.int .i64 (R.2.1:Int),.int .i64 R.2.2.1]) /\
 Rws w n (rowsS (.slice A R.1.cells.length c) (.slice B R.1.tin.length d) (.slice D R.1.tout.length g) fc R.1)/\R.1.I/\LimR R
theorem Rws.chgT {I:Type} {W W':World} {n0 ba:Nat} {d:I->RowD} {xs:Array Value} (h:Rws W n0 d) (hE:∀ i,(d i).v.ownBlock≠none->(d i).E≠37) (hc:Chg (fun b=>b=ba) W W') (hz:W.heap[ba]?=some (.cells xs 37 (0,0))):Rws W' n0 d:=by
 refine h.chg hc fun i b hb hcb=>?_
 have hcb:b=ba:=hcb
 subst hcb
 have hne:(d i).v.ownBlock≠none:=by rw [hb]; simp
 obtain ⟨-,⟨hv,-⟩|⟨g,cap,cur,hv,-,hg,-⟩⟩:=h.row i
 ·rw [hv] at hb
  cases hb
 ·rw [hv] at hb
  injection hb with hb
  have hb:g=b:=hb
  subst hb
  rw [hz] at hg
  injection hg with hg
  injection hg with _ hE2
  exact hE i hne hE2.symm
theorem rowsE (vc vi vo:Value) (fc:Nat->Value) (s:SS) (q:SI) (h:(rowsS vc vi vo fc s q).v.ownBlock≠none):(rowsS vc vi vo fc s q).E≠37:=by
 cases q with
 | all=>simp [rowsS]
 | inp=>simp [rowsS]
 | out=>simp [rowsS]
 | el i =>
  simp only [rowsS] at h ⊢
  split
  ·simp
  ·rename_i hn
   rw [if_neg hn] at h
   exact absurd rfl h
theorem twoE {va vi vo wa wi wo:Value} {fc gc:Nat->Value} {s t:SS} (q:Bool×SI) (h:(two (rowsS va vi vo fc s) (rowsS wa wi wo gc t) q).v.ownBlock≠none):(two (rowsS va vi vo fc s) (rowsS wa wi wo gc t) q).E≠37:=by
 obtain ⟨_|_,i⟩:=q
 ·exact rowsE _ _ _ _ _ _ h
 ·exact rowsE _ _ _ _ _ _ h
theorem FwP.rows {W W':World} {R:SS×Nat×Int×List Nat} {e:Ending} (h:FwP W R e W'):FwR W.heap.size R e W'/\Below W.heap.size W W':=by
 obtain ⟨v1,v2,v3,rfl,ho,hb,hl⟩:=h
 obtain ⟨A,c,B,d,D,g,hv⟩:=ho.slices
 injection hv with hv
 simp only [Array.mk.injEq,List.cons.injEq,and_true] at hv
 obtain ⟨rfl,rfl,rfl⟩:=hv
 obtain ⟨vc,vi,vo,fc,hv,hr,hi⟩:=ho
 injection hv with hv
 simp only [Array.mk.injEq,List.cons.injEq,and_true] at hv
 obtain ⟨rfl,rfl,rfl⟩:=hv
 exact ⟨⟨A,c,B,d,D,g,fc,rfl,hr,hi,hl⟩,hb⟩
theorem Atomic_walk (p:PG) (s:SS) (F:Int) (v sv:Value) (W:World) (hp:PV W Any p v) (hs:SV W Any s sv) (hF:I64 F) :
  Calls Tryz.prog 5 #[v,sv,.int .i64 F] W fun e W'=>e=.returned (.bool true)/\Below W.heap.size W W':=by
 have HPV:=zh hp
 have HSV:=zh hs
 obtain ⟨A1,c1,A2,c2,A3,c3,rfl,hpg⟩:=hp
 obtain ⟨A,c,B,d,D,e,rfl,hr1,hr2,hr3,hc1,hc2,hc3,hl1,hl2,hl3,hl4⟩:=hs
 have hb2:=bl_al (bl_al (Below.refl W.heap.size W) (.cells #[.slice A1 p.vs.length c1,.slice A2 p.prs.length c2,.int .u8 p.m.k,.int .i64 p.m.n,.string p.m.s,.slice A3 p.m.ks.length c3] 28)) (.cells #[.slice A s.cells.length c,.slice B s.tin.length d,.slice D s.tout.length e] 32)
 have k0:=blk_al (heap_alloc_new W (.cells #[.slice A1 p.vs.length c1,.slice A2 p.prs.length c2,.int .u8 p.m.k,.int .i64 p.m.n,.string p.m.s,.slice A3 p.m.ks.length c3] 28)) (.cells #[.slice A s.cells.length c,.slice B s.tin.length d,.slice D s.tout.length e] 32)
 have k1:=heap_alloc_new (W.alloc (.cells #[.slice A1 p.vs.length c1,.slice A2 p.prs.length c2,.int .u8 p.m.k,.int .i64 p.m.n,.string p.m.s,.slice A3 p.m.ks.length c3] 28)) (.cells #[.slice A s.cells.length c,.slice B s.tin.length d,.slice D s.tout.length e] 32)
 rw [World.size_alloc] at k1
 obtain ⟨w2,hw2⟩:∃ x,(W.alloc (.cells #[.slice A1 p.vs.length c1,.slice A2 p.prs.length c2,.int .u8 p.m.k,.int .i64 p.m.n,.string p.m.s,.slice A3 p.m.ks.length c3] 28)).alloc (.cells #[.slice A s.cells.length c,.slice B s.tin.length d,.slice D s.tout.length e] 32)=x:=⟨_,rfl⟩
 rw [hw2] at hb2 k0 k1
 have HB2:=zh hb2
 have HK0:=zh k0
 have HK1:=zh k1
 clear hpg hr1 hr2 hr3 hb2 k0 k1 hc1 hc2 hc3 hl1 hl2 hl3 hl4
 have HAW:=zh (awake_any w2)
 have HGR:=zh (fun w' (hb:Below w2.heap.size w2 w')=>great_any p s F _ _ w' (HPV.out.later (bl_tt HB2.out hb)) (HSV.out.later (bl_tt HB2.out hb)) hF)
 go_enter Tryz.func5,Tryz.ntmps5
 go_wp2_with fail
 refine HAW.out.mono ?_
 rintro e3 w3 ⟨rfl,b3⟩
 clear hw2 HAW
 have hPq:=blk_bl HK0.out b3
 have hSq:=blk_bl HK1.out b3
 have p0:w3.cell? ⟨W.heap.size,0,none⟩=some (.slice A1 p.vs.length c1):=zc hPq rfl
 have p1:w3.cell? ⟨W.heap.size,1,none⟩=some (.slice A2 p.prs.length c2):=zc hPq rfl
 have p2:w3.cell? ⟨W.heap.size,2,none⟩=some (.int .u8 p.m.k):=zc hPq rfl
 have p3:w3.cell? ⟨W.heap.size,3,none⟩=some (.int .i64 p.m.n):=zc hPq rfl
 have p4:w3.cell? ⟨W.heap.size,4,none⟩=some (.string p.m.s):=zc hPq rfl
 have p5:w3.cell? ⟨W.heap.size,5,none⟩=some (.slice A3 p.m.ks.length c3):=zc hPq rfl
 have s0:w3.cell? ⟨W.heap.size+1,0,none⟩=some (.slice A s.cells.length c):=zc hSq rfl
 have s1:w3.cell? ⟨W.heap.size+1,1,none⟩=some (.slice B s.tin.length d):=zc hSq rfl
 have s2:w3.cell? ⟨W.heap.size+1,2,none⟩=some (.slice D s.tout.length e):=zc hSq rfl
 clear hPq hSq
 go_wp2_with fail
 refine (HGR.out _ b3).mono ?_
 rintro e4 w4 ⟨gb,rfl,hgb,b4⟩
 have b24:=bl_tt b3 b4
 clear p0 p1 p2 p3 p4 p5 s0 s1 s2 b3 b4 HGR
 cases gb
 ·have HSM:=zh (hgb rfl)
  have HCL:=zh (show s.cells.length<=1000000 by have:=HSM.out.cells; omega)
  have hF6:F<=1000000:=by have:=HSM.out.F; omega
  have hFG:F.toNat*2000+2000<=5000000:=by have:=HSM.out.F; omega
  clear hgb
  have HCN:=zh (Clone_st s _ w4 (HSV.out.later (bl_tt HB2.out b24)) HCL.out)
  have hPq:=blk_bl HK0.out b24
  have hSq:=blk_bl HK1.out b24
  have p0:w4.cell? ⟨W.heap.size,0,none⟩=some (.slice A1 p.vs.length c1):=zc hPq rfl
  have p1:w4.cell? ⟨W.heap.size,1,none⟩=some (.slice A2 p.prs.length c2):=zc hPq rfl
  have p2:w4.cell? ⟨W.heap.size,2,none⟩=some (.int .u8 p.m.k):=zc hPq rfl
  have p3:w4.cell? ⟨W.heap.size,3,none⟩=some (.int .i64 p.m.n):=zc hPq rfl
  have p4:w4.cell? ⟨W.heap.size,4,none⟩=some (.string p.m.s):=zc hPq rfl
  have p5:w4.cell? ⟨W.heap.size,5,none⟩=some (.slice A3 p.m.ks.length c3):=zc hPq rfl
  have s0:w4.cell? ⟨W.heap.size+1,0,none⟩=some (.slice A s.cells.length c):=zc hSq rfl
  have s1:w4.cell? ⟨W.heap.size+1,1,none⟩=some (.slice B s.tin.length d):=zc hSq rfl
  have s2:w4.cell? ⟨W.heap.size+1,2,none⟩=some (.slice D s.tout.length e):=zc hSq rfl
  clear hPq hSq
  go_upto_region 3 with fail
  go_wp2_with fail
  refine HCN.out.mono ?_
  rintro e5 w5 ⟨vb,rfl,hob,b5⟩
  have b25:=bl_tt b24 b5
  clear HCN p0 p1 p2 p3 p4 p5 s0 s1 s2
  obtain ⟨A9,c9,B9,d9,D9,g9,rfl⟩:=hob.slices
  go_upto_region 4 with fail
  have ka:=heap_alloc_new w5 (.cells #[.slice A9 s.cells.length c9,.slice B9 s.tin.length d9,.slice D9 s.tout.length g9] 32)
  have hba:=bl_al (Below.refl w5.heap.size w5) (.cells #[.slice A9 s.cells.length c9,.slice B9 s.tin.length d9,.slice D9 s.tout.length g9] 32)
  obtain ⟨w6,hqx⟩:∃ x,w5.alloc (.cells #[.slice A9 s.cells.length c9,.slice B9 s.tin.length d9,.slice D9 s.tout.length g9] 32)=x:=⟨_,rfl⟩
  obtain ⟨cb,hqy⟩:∃ x,w5.heap.size=x:=⟨_,rfl⟩
  rw [hqx] at ka hba ⊢
  rw [hqy] at ka ⊢
  have b26:=bl_tt b25 hba
  have HO6:=zh (hob.later hba)
  have HCB:=zh ka
  have HKP:=zh (blk_bl HK0.out b26)
  have HKS:=zh (blk_bl HK1.out b26)
  have HW6:=zh (bl_tt HB2.out b26)
  have HP6:=zh (HPV.out.later HW6.out)
  have HS6:=zh (HSV.out.later HW6.out)
  clear hqx hqy ka hba hob
  obtain ⟨R1,hR1⟩:∃ R,resO p s F 5000000 false=R:=⟨_,rfl⟩
  obtain ⟨R2,hR2⟩:∃ R,resO p s F 5000000 true=R:=⟨_,rfl⟩
  have HSS:=zh (show ∀ w',Below w6.heap.size w6 w'->(fun w':World=>w'.cell? ⟨W.heap.size,0,none⟩=some (.slice A1 p.vs.length c1)/\w'.cell? ⟨W.heap.size,1,none⟩=some (.slice A2 p.prs.length c2)/\w'.cell? ⟨W.heap.size,2,none⟩=some (.int .u8 p.m.k)/\w'.cell? ⟨W.heap.size,3,none⟩=some (.int .i64 p.m.n)/\w'.cell? ⟨W.heap.size,4,none⟩=some (.string p.m.s)/\w'.cell? ⟨W.heap.size,5,none⟩=some (.slice A3 p.m.ks.length c3)/\w'.cell? ⟨W.heap.size+1,0,none⟩=some (.slice A s.cells.length c)/\w'.cell? ⟨W.heap.size+1,1,none⟩=some (.slice B s.tin.length d)/\w'.cell? ⟨W.heap.size+1,2,none⟩=some (.slice D s.tout.length e)) w' from fun w' hb=>⟨zb hb (zc HKP.out rfl),zb hb (zc HKP.out rfl),zb hb (zc HKP.out rfl),zb hb (zc HKP.out rfl),zb hb (zc HKP.out rfl),zb hb (zc HKP.out rfl),zb hb (zc HKS.out rfl),zb hb (zc HKS.out rfl),zb hb (zc HKS.out rfl)⟩)
  have hSS:(fun w':World=>w'.cell? ⟨W.heap.size,0,none⟩=some (.slice A1 p.vs.length c1)/\w'.cell? ⟨W.heap.size,1,none⟩=some (.slice A2 p.prs.length c2)/\w'.cell? ⟨W.heap.size,2,none⟩=some (.int .u8 p.m.k)/\w'.cell? ⟨W.heap.size,3,none⟩=some (.int .i64 p.m.n)/\w'.cell? ⟨W.heap.size,4,none⟩=some (.string p.m.s)/\w'.cell? ⟨W.heap.size,5,none⟩=some (.slice A3 p.m.ks.length c3)/\w'.cell? ⟨W.heap.size+1,0,none⟩=some (.slice A s.cells.length c)/\w'.cell? ⟨W.heap.size+1,1,none⟩=some (.slice B s.tin.length d)/\w'.cell? ⟨W.heap.size+1,2,none⟩=some (.slice D s.tout.length e)) w6.drew/\(fun _:World=>True) w6.drew:=⟨HSS.out _ (Below.refl _ _).drew,trivial⟩
  refine wp_region_noPanic ?_
  refine wp_region_G (fun w':World=>w'.cell? ⟨W.heap.size,0,none⟩=some (.slice A1 p.vs.length c1)/\w'.cell? ⟨W.heap.size,1,none⟩=some (.slice A2 p.prs.length c2)/\w'.cell? ⟨W.heap.size,2,none⟩=some (.int .u8 p.m.k)/\w'.cell? ⟨W.heap.size,3,none⟩=some (.int .i64 p.m.n)/\w'.cell? ⟨W.heap.size,4,none⟩=some (.string p.m.s)/\w'.cell? ⟨W.heap.size,5,none⟩=some (.slice A3 p.m.ks.length c3)/\w'.cell? ⟨W.heap.size+1,0,none⟩=some (.slice A s.cells.length c)/\w'.cell? ⟨W.heap.size+1,1,none⟩=some (.slice B s.tin.length d)/\w'.cell? ⟨W.heap.size+1,2,none⟩=some (.slice D s.tout.length e)) (fun _:World=>True) 10 (by kernel_rfl) ?_
  refine zT 0 hSS ?_
  (try simp only [Act.put,zP])
  refine zT 1 hSS ?_
  (try simp only [Act.put,zP])
  refine zT 2 hSS ?_
  (try simp only [Act.put,zP])
  refine zT 4 hSS ?_
  (try simp only [Act.put,zP])
  refine zT 5 hSS ?_
  (try simp only [Act.put,zP])
  refine zT 6 hSS ?_
  (try simp only [Act.put,zP])
  have hI:(fun w=>Below w6.heap.size w6 w) w6.drew:=(Below.refl _ _).drew
  clear hSS
  refine wpG_alt2 (i:=3) (j1:=8) (j2:=9) (some 29) (some 8) (some 9) 3 (fun li la lb => #[true,true,true,li,true,true,true,false,la,lb,false,false]) _ (fun w=>Below w6.heap.size w6 w) (J2 (.cells #[.slice none 0 0,.slice none 0 0,.slice none 0 0,.int .i64 0,.int .i64 0] 37 (0,0)) w6.heap.size) (fun x w=>∃ fA fc fB fd fD fg fe,x=.agg #[.slice fA R1.1.cells.length fc,.slice fB R1.1.tin.length fd,.slice fD R1.1.tout.length fg,.int .i64 (R1.2.1:Int),.int .i64 R1.2.2.1]/\Rws w w6.heap.size (rowsS (.slice fA R1.1.cells.length fc) (.slice fB R1.1.tin.length fd) (.slice fD R1.1.tout.length fg) fe R1.1)/\R1.1.I/\LimR R1) rfl rfl rfl rfl rfl rfl (by kernel_rfl) (by kernel_rfl) (by kernel_rfl) (by kernel_rfl) (fun la lb=>by cases la<;>cases lb<;>rfl) (fun lb=>by cases lb<;>rfl) (fun la=>by cases la<;>rfl) (fun w h=>⟨HSS.out _ h,trivial⟩) (fun w w' h hb=>?_) (fun la lb u v w w' h hb=>h.later hb) (fun u v K w h hK0=>?_) (fun lb u v K w h hj hK0=>?_) (fun la u v K w h hj hK0=>?_) (fun u v x=>?_) (fun u v x=>?_) (fun la lb u v x wc h hF hj=>?_) false false undef undef w6.drew hI ⟨nofun,nofun,nofun⟩ ?_
  ·have hb0:=h
   exact bl_tt hb0 hb
  ·have hb0:=h
   have hK:=zh hK0
   clear hK0
   have hcon:=Forward_any p s F 5000000 _ _ w (HP6.out.later hb0) (HS6.out.later hb0) HCL.out hF hF6 hFG
   rw [hR1] at hcon
   refine step_callL (by rfl) (.func 15) [.tmp 26,.tmp 27,.tmp 28] _ (by rfl) 15 _ fnFwdA (by rfl) [.agg #[.slice A1 p.vs.length c1,.slice A2 p.prs.length c2,.int .u8 p.m.k,.int .i64 p.m.n,.string p.m.s,.slice A3 p.m.ks.length c3],.agg #[.slice A s.cells.length c,.slice B s.tin.length d,.slice D s.tout.length e],.int .i64 F] (by rfl) (fun x w'=>FwR w.heap.size R1 (.returned x) w'/\Below w.heap.size w w') (hcon.mono fun e w' h=>by obtain ⟨⟨A,c,B,d,D,g,fc,rfl,h2⟩,h3⟩:=h.rows; exact ⟨_,rfl,⟨A,c,B,d,D,g,fc,rfl,h2⟩,h3⟩) ?_
   rintro x w' ⟨⟨fA,fc,fB,fd,fD,fg,fe,he,hr,hi,hl⟩,hb⟩
   injection he with he
   exact hK.out _ _ hb ⟨fA,fc,fB,fd,fD,fg,fe,he,hr.mono hb0.size,hi,hl⟩
  ·have hb0:=h
   have hK:=zh hK0
   clear hK0
   (try simp only [Act.put,zP])
   (try simp only [zA,zB,zC])
   go_simp
   exact hK.out _ _ (bl_al (Below.refl _ _) _) (hj.one hb0.size)
  ·have hb0:=h
   have hK:=zh hK0
   clear hK0
   (try simp only [Act.put,zP])
   (try simp only [zA,zB,zC])
   go_simp
   exact hK.out _ _ (bl_al (Below.refl _ _) _) (hj.two hb0.size)
  ·simp only [Act.put,zD,zE,zF]
  ·simp only [Act.put,zD,zE,zF]
  rotate_left 1
  ·simp only [Act.put,zD,zE,zF]
  (try simp only [Act.put,zP])
  obtain ⟨fA,fc,fB,fd,fD,fg,fe,rfl,hra,hia,hla⟩:=hF
  clear hI
  have HIA:=zh hia
  have HLA:=zh hla
  have hI:(fun w=>Below w6.heap.size w6 w/\Rws w w6.heap.size (rowsS (.slice fA R1.1.cells.length fc) (.slice fB R1.1.tin.length fd) (.slice fD R1.1.tout.length fg) fe R1.1)) wc:=⟨h,hra⟩
  clear hra h hia hla
  refine wpG_alt2 (i:=7) (j1:=8) (j2:=9) (some 33) (some 8) (some 9) 2 (fun li la lb => #[true,true,true,true,true,true,true,li,la,lb,false,false]) _ (fun w=>Below w6.heap.size w6 w/\Rws w w6.heap.size (rowsS (.slice fA R1.1.cells.length fc) (.slice fB R1.1.tin.length fd) (.slice fD R1.1.tout.length fg) fe R1.1)) (J2 (.cells #[.slice none 0 0,.slice none 0 0,.slice none 0 0,.int .i64 0,.int .i64 0] 37 (0,0)) w6.heap.size) (fun x w=>∃ gA gc gB gd gD gg ge,x=.agg #[.slice gA R2.1.cells.length gc,.slice gB R2.1.tin.length gd,.slice gD R2.1.tout.length gg,.int .i64 (R2.2.1:Int),.int .i64 R2.2.2.1]/\Rws w w6.heap.size (two (rowsS (.slice fA R1.1.cells.length fc) (.slice fB R1.1.tin.length fd) (.slice fD R1.1.tout.length fg) fe R1.1) (rowsS (.slice gA R2.1.cells.length gc) (.slice gB R2.1.tin.length gd) (.slice gD R2.1.tout.length gg) ge R2.1))/\R2.1.I/\LimR R2) rfl rfl rfl rfl rfl rfl (by kernel_rfl) (by kernel_rfl) (by kernel_rfl) (by kernel_rfl) (fun la lb=>by cases la<;>cases lb<;>rfl) (fun lb=>by cases lb<;>rfl) (fun la=>by cases la<;>rfl) (fun w h=>⟨HSS.out _ h.1,trivial⟩) (fun w w' h hb=>⟨bl_tt h.1 hb,h.2.later hb⟩) (fun la lb u v w w' h hb=>h.later hb) (fun u v K w h hK0=>?_) (fun lb u v K w h hj hK0=>?_) (fun la u v K w h hj hK0=>?_) (fun u v x=>?_) (fun u v x=>?_) (fun la lb u v x wc h hF hj=>?_) la lb u v wc hI hj ?_
  ·obtain ⟨hb0,hra⟩:=h
   have hK:=zh hK0
   clear hK0
   have hcon:=Backward_any p s F 5000000 _ _ w (HP6.out.later hb0) (HS6.out.later hb0) HCL.out hF hF6 hFG
   rw [hR2] at hcon
   refine step_callL (by rfl) (.func 18) [.tmp 30,.tmp 31,.tmp 32] _ (by rfl) 18 _ fnBwdA (by rfl) [.agg #[.slice A1 p.vs.length c1,.slice A2 p.prs.length c2,.int .u8 p.m.k,.int .i64 p.m.n,.string p.m.s,.slice A3 p.m.ks.length c3],.agg #[.slice A s.cells.length c,.slice B s.tin.length d,.slice D s.tout.length e],.int .i64 F] (by rfl) (fun x w'=>FwR w.heap.size R2 (.returned x) w'/\Below w.heap.size w w') (hcon.mono fun e w' h=>by obtain ⟨⟨A,c,B,d,D,g,fc,rfl,h2⟩,h3⟩:=h.rows; exact ⟨_,rfl,⟨A,c,B,d,D,g,fc,rfl,h2⟩,h3⟩) ?_
   rintro x w' ⟨⟨gA,gc,gB,gd,gD,gg,ge,he,hr,hi,hl⟩,hb⟩
   injection he with he
   exact hK.out _ _ hb ⟨gA,gc,gB,gd,gD,gg,ge,he,two_rws (hra.later hb) hr hb0.size (fun i b hi=>(hra.lt i b hi).2),hi,hl⟩
  ·have hb0:=h.1
   have hK:=zh hK0
   clear hK0
   (try simp only [Act.put,zP])
   (try simp only [zA,zB,zC])
   go_simp
   exact hK.out _ _ (bl_al (Below.refl _ _) _) (hj.one hb0.size)
  ·have hb0:=h.1
   have hK:=zh hK0
   clear hK0
   (try simp only [Act.put,zP])
   (try simp only [zA,zB,zC])
   go_simp
   exact hK.out _ _ (bl_al (Below.refl _ _) _) (hj.two hb0.size)
  ·simp only [Act.put,zD,zE,zF]
  ·simp only [Act.put,zD,zE,zF]
  rotate_left 1
  ·simp only [Act.put,zD,zE,zF]
  (try simp only [Act.put,zP])
  obtain ⟨gA,gc,gB,gd,gD,gg,ge,rfl,hrb,hib,hlb⟩:=hF
  clear hI
  have HIB:=zh hib
  have HLB:=zh hlb
  have hI:(fun w=>Below w6.heap.size w6 w/\Rws w w6.heap.size (two (rowsS (.slice fA R1.1.cells.length fc) (.slice fB R1.1.tin.length fd) (.slice fD R1.1.tout.length fg) fe R1.1) (rowsS (.slice gA R2.1.cells.length gc) (.slice gB R2.1.tin.length gd) (.slice gD R2.1.tout.length gg) ge R2.1))) wc:=⟨h.1,hrb⟩
  clear hrb h hib hlb
  refine wpG_free2 (j1:=8) (j2:=9) (some 8) (some 9) 2 (fun la lb => #[true,true,true,true,true,true,true,true,la,lb,false,false]) _ (fun w=>Below w6.heap.size w6 w/\Rws w w6.heap.size (two (rowsS (.slice fA R1.1.cells.length fc) (.slice fB R1.1.tin.length fd) (.slice fD R1.1.tout.length fg) fe R1.1) (rowsS (.slice gA R2.1.cells.length gc) (.slice gB R2.1.tin.length gd) (.slice gD R2.1.tout.length gg) ge R2.1))) (J2 (.cells #[.slice none 0 0,.slice none 0 0,.slice none 0 0,.int .i64 0,.int .i64 0] 37 (0,0)) w6.heap.size) rfl rfl rfl rfl (by kernel_rfl) (by kernel_rfl) (by kernel_rfl) (fun lb=>by cases lb<;>rfl) (fun la=>by cases la<;>rfl) (fun w h=>⟨HSS.out _ h.1,trivial⟩) (fun w w' h hb=>⟨bl_tt h.1 hb,h.2.later hb⟩) (fun lb u v K w h hj hK0=>?_) (fun la u v K w h hj hK0=>?_) (fun u v x=>?_) (fun u v x=>?_) (fun u v wd h hj=>?_) la lb u v wc hI hj ?_
  ·have hb0:=h.1
   have hK:=zh hK0
   clear hK0
   (try simp only [Act.put,zP])
   (try simp only [zA,zB,zC])
   go_simp
   exact hK.out _ _ (bl_al (Below.refl _ _) _) (hj.one hb0.size)
  ·have hb0:=h.1
   have hK:=zh hK0
   clear hK0
   (try simp only [Act.put,zP])
   (try simp only [zA,zB,zC])
   go_simp
   exact hK.out _ _ (bl_al (Below.refl _ _) _) (hj.two hb0.size)
  ·simp only [Act.put,zD,zE,zF]
  ·simp only [Act.put,zD,zE,zF]
  rotate_left 1
  ·simp only [Act.put,zD,zE,zF]
  (try simp only [Act.put,zP])
  obtain ⟨ba,bb,rfl,rfl,hla,hlb,hne,hza,hzb⟩:=hj.boxes
  obtain ⟨hb0,hrr⟩:=h
  clear hI hj
  have x0:wd.cell? ⟨ba,0,none⟩=some (.slice none 0 0):=zc hza rfl
  have x1:wd.cell? ⟨ba,1,none⟩=some (.slice none 0 0):=zc hza rfl
  have x2:wd.cell? ⟨ba,2,none⟩=some (.slice none 0 0):=zc hza rfl
  have x3:wd.cell? ⟨ba,3,none⟩=some (.int .i64 0):=zc hza rfl
  have x4:wd.cell? ⟨ba,4,none⟩=some (.int .i64 0):=zc hza rfl
  have xf:∀ o,wd.frozen? ⟨ba,o,none⟩=false:=fun _=>zf hza
  have HZA:=zh hza
  have HZB:=zh hzb
  have HB0:=zh hb0
  have HRR:=zh hrr
  clear hza hzb hb0 hrr
  refine wpG_past (i:=10) (by kernel_rfl) rfl (by kernel_rfl) (fun K hK=>?_)
  (try simp only [zA,zB,zC])
  go_simp
  obtain ⟨hh,hch⟩:=set5 (u0:=.slice fA R1.1.cells.length fc) (u1:=.slice fB R1.1.tin.length fd) (u2:=.slice fD R1.1.tout.length fg) (u3:=.int .i64 (R1.2.1:Int)) (u4:=.int .i64 R1.2.2.1) HZA.out
  have hb1:=HB0.out.trans (hch.below HB0.out.size fun b e=>by omega)
  have hrr:=HRR.out.chgT (fun q=>twoE q) hch HZA.out
  have hzb:=hch.keep HZB.out (by show ¬ (bb=ba); omega)
  obtain ⟨we,hwe⟩:∃ x,(((((wd.setCell ⟨ba,0,none⟩ (.slice fA R1.1.cells.length fc)).setCell ⟨ba,1,none⟩ (.slice fB R1.1.tin.length fd)).setCell ⟨ba,2,none⟩ (.slice fD R1.1.tout.length fg)).setCell ⟨ba,3,none⟩ (.int .i64 (R1.2.1:Int))).setCell ⟨ba,4,none⟩ (.int .i64 R1.2.2.1))=x:=⟨_,rfl⟩
  rw [hwe] at hh hch hb1 hrr hzb ⊢
  refine hK.out _ _ (HSS.out _ hb1) ?_
  clear hK K x0 x1 x2 x3 x4 xf hwe hch HZA HZB HB0 HRR
  (try simp only [Act.put,zP])
  have x0:we.cell? ⟨bb,0,none⟩=some (.slice none 0 0):=zc hzb rfl
  have x1:we.cell? ⟨bb,1,none⟩=some (.slice none 0 0):=zc hzb rfl
  have x2:we.cell? ⟨bb,2,none⟩=some (.slice none 0 0):=zc hzb rfl
  have x3:we.cell? ⟨bb,3,none⟩=some (.int .i64 0):=zc hzb rfl
  have x4:we.cell? ⟨bb,4,none⟩=some (.int .i64 0):=zc hzb rfl
  have xf:∀ o,we.frozen? ⟨bb,o,none⟩=false:=fun _=>zf hzb
  have HZA:=zh hh
  have HZB:=zh hzb
  have HB0:=zh hb1
  have HRR:=zh hrr
  clear hh hzb hb1 hrr
  refine wpG_past (i:=11) (by kernel_rfl) rfl (by kernel_rfl) (fun K hK=>?_)
  (try simp only [zA,zB,zC])
  go_simp
  obtain ⟨hh,hch⟩:=set5 (u0:=.slice gA R2.1.cells.length gc) (u1:=.slice gB R2.1.tin.length gd) (u2:=.slice gD R2.1.tout.length gg) (u3:=.int .i64 (R2.2.1:Int)) (u4:=.int .i64 R2.2.2.1) HZB.out
  have hb1:=HB0.out.trans (hch.below HB0.out.size fun b e=>by omega)
  have hrr:=HRR.out.chgT (fun q=>twoE q) hch HZB.out
  have hza:=hch.keep HZA.out (by show ¬ (ba=bb); omega)
  obtain ⟨wf,hwf⟩:∃ x,(((((we.setCell ⟨bb,0,none⟩ (.slice gA R2.1.cells.length gc)).setCell ⟨bb,1,none⟩ (.slice gB R2.1.tin.length gd)).setCell ⟨bb,2,none⟩ (.slice gD R2.1.tout.length gg)).setCell ⟨bb,3,none⟩ (.int .i64 (R2.2.1:Int))).setCell ⟨bb,4,none⟩ (.int .i64 R2.2.2.1))=x:=⟨_,rfl⟩
  rw [hwf] at hh hch hb1 hrr hza ⊢
  refine hK.out _ _ (HSS.out _ hb1) ?_
  clear hK K x0 x1 x2 x3 x4 xf hwf hch HZA HZB HB0 HRR
  (try simp only [Act.put,zP])
  refine wpG_done (by kernel_rfl) ?_
  refine NoPanic.normal ?_
  have HZA:=zh hza
  have HZB:=zh hh
  have HB0:=zh hb1
  have HRR:=zh hrr
  clear hza hh hb1 hrr
  have HSX:=zh (show s.Sm from ⟨by have:=HSM.out.cells; omega,fun l hl=>by have:=HSM.out.row l hl; omega,by have:=HSM.out.tin; omega,by have:=HSM.out.tout; omega⟩)
  have HEE:=zh (show eqS s s=true by simp [eqS])
  have HFA:=zh (show R1.2.2.1≠0->R1.1=s/\R1.2.1=0 from fun h=>by rw [<-hR1] at h ⊢; exact resO_fail h)
  have HFB:=zh (show R2.2.2.1≠0->R2.1=s/\R2.2.1=0 from fun h=>by rw [<-hR2] at h ⊢; exact resO_fail h)
  have HCA:=zh (show R1.1.cells.length<=3000 by
   by_cases h0:R1.2.2.1=0
   ·have h1:=(HLA.out.2 h0).1
    have h2:=(fuel_law (p:=p) (s:=s) (F:=F) (g:=5000000) (back:=false) hFG (by rw [hR1]; exact h0)).1
    rw [hR1] at h2
    have:=HSM.out.F
    omega
   ·rw [(HFA.out h0).1]; have:=HSM.out.cells; omega)
  have HCB2:=zh (show R2.1.cells.length<=3000 by
   by_cases h0:R2.2.2.1=0
   ·have h1:=(HLB.out.2 h0).1
    have h2:=(fuel_law (p:=p) (s:=s) (F:=F) (g:=5000000) (back:=true) hFG (by rw [hR2]; exact h0)).1
    rw [hR2] at h2
    have:=HSM.out.F
    omega
   ·rw [(HFB.out h0).1]; have:=HSM.out.cells; omega)
  clear hR1 hR2 hF6 hFG hF hla hlb
  go_upto_region 5 with fail
  go_cut [71] from 34 to 71 (fun s71 wx=>s71=.bool false/\Hid (Below wf.heap.size wf wx))
  case first =>
   have hks:=blk_bl HKS.out HB0.out
   have hkb:=blk_bl HCB.out HB0.out
   have s0:wf.cell? ⟨W.heap.size+1,0,none⟩=some (.slice A s.cells.length c):=zc hks rfl
   have s1:wf.cell? ⟨W.heap.size+1,1,none⟩=some (.slice B s.tin.length d):=zc hks rfl
   have s2:wf.cell? ⟨W.heap.size+1,2,none⟩=some (.slice D s.tout.length e):=zc hks rfl
   have z0:wf.cell? ⟨cb,0,none⟩=some (.slice A9 s.cells.length c9):=zc hkb rfl
   have z1:wf.cell? ⟨cb,1,none⟩=some (.slice B9 s.tin.length d9):=zc hkb rfl
   have z2:wf.cell? ⟨cb,2,none⟩=some (.slice D9 s.tout.length g9):=zc hkb rfl
   have HQ1:=zh (StEqual_any s s _ _ wf (HS6.out.later HB0.out) ((HO6.out.later HB0.out).sv HSX.out.lim) HSX.out HSX.out)
   rw [HEE.out] at HQ1
   clear hks hkb
   go_wp2_with fail
   refine HQ1.out.mono ?_
   rintro e7 w7 ⟨rfl,b7⟩
   clear s0 s1 s2 z0 z1 z2 HQ1
   obtain ⟨e1,he1⟩:∃ e,R1.2.2.1=e:=⟨_,rfl⟩
   have x4:w7.cell? ⟨ba,4,none⟩=some (.int .i64 e1):=by rw [<-he1]; exact zc (blk_bl HZA.out b7) rfl
   have HEQ1:=zh he1
   clear he1
   by_cases h1:e1=0
   ·subst h1
    obtain ⟨e2,he2⟩:∃ e,R2.2.2.1=e:=⟨_,rfl⟩
    have y4:w7.cell? ⟨bb,4,none⟩=some (.int .i64 e2):=by rw [<-he2]; exact zc (blk_bl HZB.out b7) rfl
    have HEQ2:=zh he2
    clear he2
    by_cases h2:e2=0
    ·subst h2
     go_wp2_with fail
     go_meet
     exact ⟨rfl,zh b7⟩
    ·obtain ⟨q1,q2⟩:=HFB.out (by rw [HEQ2.out]; exact h2)
     have hsv:=(show OwnS w7 w6.heap.size R2.1 _ from ⟨_,_,_,ge,rfl,HRR.out.snd.later b7,HIB.out⟩).sv HLB.out.1
     have kz:=blk_bl HZB.out b7
     rw [q1] at hsv kz
     rw [q2] at kz
     have y0:w7.cell? ⟨bb,0,none⟩=some (.slice gA s.cells.length gc):=zc kz rfl
     have y1:w7.cell? ⟨bb,1,none⟩=some (.slice gB s.tin.length gd):=zc kz rfl
     have y2:w7.cell? ⟨bb,2,none⟩=some (.slice gD s.tout.length gg):=zc kz rfl
     have y3:w7.cell? ⟨bb,3,none⟩=some (.int .i64 0):=zc kz rfl
     have hks:=blk_bl HKS.out (bl_tt HB0.out b7)
     have s0:w7.cell? ⟨W.heap.size+1,0,none⟩=some (.slice A s.cells.length c):=zc hks rfl
     have s1:w7.cell? ⟨W.heap.size+1,1,none⟩=some (.slice B s.tin.length d):=zc hks rfl
     have s2:w7.cell? ⟨W.heap.size+1,2,none⟩=some (.slice D s.tout.length e):=zc hks rfl
     have HQ3:=zh (StEqual_any s s _ _ w7 hsv (HS6.out.later (bl_tt HB0.out b7)) HSX.out HSX.out)
     rw [HEE.out] at HQ3
     clear hsv kz hks q1 q2
     go_wp2_with fail
     refine HQ3.out.mono ?_
     rintro e9 w9 ⟨rfl,b9⟩
     go_wp2_with fail
     go_meet
     exact ⟨rfl,zh (bl_tt b7 b9)⟩
   ·obtain ⟨q1,q2⟩:=HFA.out (by rw [HEQ1.out]; exact h1)
    have hsv:=(show OwnS w7 w6.heap.size R1.1 _ from ⟨_,_,_,fe,rfl,HRR.out.fst.later b7,HIA.out⟩).sv HLA.out.1
    have kz:=blk_bl HZA.out b7
    rw [q1] at hsv kz
    rw [q2] at kz
    have x0:w7.cell? ⟨ba,0,none⟩=some (.slice fA s.cells.length fc):=zc kz rfl
    have x1:w7.cell? ⟨ba,1,none⟩=some (.slice fB s.tin.length fd):=zc kz rfl
    have x2:w7.cell? ⟨ba,2,none⟩=some (.slice fD s.tout.length fg):=zc kz rfl
    have x3:w7.cell? ⟨ba,3,none⟩=some (.int .i64 0):=zc kz rfl
    have hks:=blk_bl HKS.out (bl_tt HB0.out b7)
    have s0:w7.cell? ⟨W.heap.size+1,0,none⟩=some (.slice A s.cells.length c):=zc hks rfl
    have s1:w7.cell? ⟨W.heap.size+1,1,none⟩=some (.slice B s.tin.length d):=zc hks rfl
    have s2:w7.cell? ⟨W.heap.size+1,2,none⟩=some (.slice D s.tout.length e):=zc hks rfl
    have HQ2:=zh (StEqual_any s s _ _ w7 hsv (HS6.out.later (bl_tt HB0.out b7)) HSX.out HSX.out)
    rw [HEE.out] at HQ2
    clear hsv kz hks q1 q2
    go_wp2_with fail
    refine HQ2.out.mono ?_
    rintro e8 w8 ⟨rfl,b8⟩
    have b78:=bl_tt b7 b8
    clear x0 x1 x2 x3 x4 s0 s1 s2 HQ2 b7 b8
    obtain ⟨e2,he2⟩:∃ e,R2.2.2.1=e:=⟨_,rfl⟩
    have y4:w8.cell? ⟨bb,4,none⟩=some (.int .i64 e2):=by rw [<-he2]; exact zc (blk_bl HZB.out b78) rfl
    have HEQ2:=zh he2
    clear he2
    by_cases h2:e2=0
    ·subst h2
     go_wp2_with fail
     go_meet
     exact ⟨rfl,zh b78⟩
    ·obtain ⟨q1,q2⟩:=HFB.out (by rw [HEQ2.out]; exact h2)
     have hsv:=(show OwnS w8 w6.heap.size R2.1 _ from ⟨_,_,_,ge,rfl,HRR.out.snd.later b78,HIB.out⟩).sv HLB.out.1
     have kz:=blk_bl HZB.out b78
     rw [q1] at hsv kz
     rw [q2] at kz
     have y0:w8.cell? ⟨bb,0,none⟩=some (.slice gA s.cells.length gc):=zc kz rfl
     have y1:w8.cell? ⟨bb,1,none⟩=some (.slice gB s.tin.length gd):=zc kz rfl
     have y2:w8.cell? ⟨bb,2,none⟩=some (.slice gD s.tout.length gg):=zc kz rfl
     have y3:w8.cell? ⟨bb,3,none⟩=some (.int .i64 0):=zc kz rfl
     have hks:=blk_bl HKS.out (bl_tt HB0.out b78)
     have s0:w8.cell? ⟨W.heap.size+1,0,none⟩=some (.slice A s.cells.length c):=zc hks rfl
     have s1:w8.cell? ⟨W.heap.size+1,1,none⟩=some (.slice B s.tin.length d):=zc hks rfl
     have s2:w8.cell? ⟨W.heap.size+1,2,none⟩=some (.slice D s.tout.length e):=zc hks rfl
     have HQ3:=zh (StEqual_any s s _ _ w8 hsv (HS6.out.later (bl_tt HB0.out b78)) HSX.out HSX.out)
     rw [HEE.out] at HQ3
     clear hsv kz hks q1 q2
     go_wp2_with fail
     refine HQ3.out.mono ?_
     rintro e9 w9 ⟨rfl,b9⟩
     go_wp2_with fail
     go_meet
     exact ⟨rfl,zh (bl_tt b78 b9)⟩
  case rest =>
   obtain ⟨rfl,HBC⟩:=hcut
   have bc:=HBC.out
   have kza:=blk_bl HZA.out bc
   have kzb:=blk_bl HZB.out bc
   have x0:wc.cell? ⟨ba,0,none⟩=some (.slice fA R1.1.cells.length fc):=zc kza rfl
   have x1:wc.cell? ⟨ba,1,none⟩=some (.slice fB R1.1.tin.length fd):=zc kza rfl
   have x2:wc.cell? ⟨ba,2,none⟩=some (.slice fD R1.1.tout.length fg):=zc kza rfl
   have y0:wc.cell? ⟨bb,0,none⟩=some (.slice gA R2.1.cells.length gc):=zc kzb rfl
   have y1:wc.cell? ⟨bb,1,none⟩=some (.slice gB R2.1.tin.length gd):=zc kzb rfl
   have y2:wc.cell? ⟨bb,2,none⟩=some (.slice gD R2.1.tout.length gg):=zc kzb rfl
   have hbs:=bS2 fA fB fD gA gB gD R1.1.cells.length fc R1.1.tin.length fd R1.1.tout.length fg R2.1.cells.length gc R2.1.tin.length gd R2.1.tout.length gg
   clear bc kza kzb HFA HFB HSM
   go_wp2_with fail
   have hk6:=heap_alloc_new wc (.cells #[.slice fA R1.1.cells.length fc,.slice fB R1.1.tin.length fd,.slice fD R1.1.tout.length fg,.slice gA R2.1.cells.length gc,.slice gB R2.1.tin.length gd,.slice gD R2.1.tout.length gg] 32)
   have hbW:=bl_al (Below.refl wc.heap.size wc) (.cells #[.slice fA R1.1.cells.length fc,.slice fB R1.1.tin.length fd,.slice fD R1.1.tout.length fg,.slice gA R2.1.cells.length gc,.slice gB R2.1.tin.length gd,.slice gD R2.1.tout.length gg] 32)
   obtain ⟨W1,hW1⟩:∃ x,wc.alloc (.cells #[.slice fA R1.1.cells.length fc,.slice fB R1.1.tin.length fd,.slice fD R1.1.tout.length fg,.slice gA R2.1.cells.length gc,.slice gB R2.1.tin.length gd,.slice gD R2.1.tout.length gg] 32)=x:=⟨_,rfl⟩
   obtain ⟨b6,hb6⟩:∃ x,wc.heap.size=x:=⟨_,rfl⟩
   rw [hW1] at hk6 hbW ⊢
   rw [hb6] at hk6 ⊢
   have hB61:Below w6.heap.size w6 W1:=bl_tt HB0.out (bl_tt HBC.out hbW)
   have hrc:=HRR.out.later HBC.out
   have HNO6:=zh (show ¬ OwnB (two (rowsS (.slice fA R1.1.cells.length fc) (.slice fB R1.1.tin.length fd) (.slice fD R1.1.tout.length fg) fe R1.1) (rowsS (.slice gA R2.1.cells.length gc) (.slice gB R2.1.tin.length gd) (.slice gD R2.1.tout.length gg) ge R2.1)) b6 from fun ⟨q,hq⟩=>by have:=(hrc.lt q _ hq).2; omega)
   have HOW:=zh (show ∀ b,OwnB (two (rowsS (.slice fA R1.1.cells.length fc) (.slice fB R1.1.tin.length fd) (.slice fD R1.1.tout.length fg) fe R1.1) (rowsS (.slice gA R2.1.cells.length gc) (.slice gB R2.1.tin.length gd) (.slice gD R2.1.tout.length gg) ge R2.1)) b->w6.heap.size<=b/\b<W1.heap.size from fun b ⟨q,hq⟩=>by have:=hrc.lt q _ hq; have:=hbW.size; omega)
   have HSP:=zh (SpG.new (P:=fun q:Bool×SI=>q.2 ≠ .all) (hrc.later hbW) two_nums)
   have HB61:=zh hB61
   have HK6:=zh hk6
   have HST:=zh (show ∀ k:Nat,k<2->∃ (qb:Bool) (st:SS) (Aq:Option Addr) (cq:Nat) (Bq:Option Addr) (dq:Nat) (Dq:Option Addr) (gq:Nat) (fq:Nat->Value),(∀ i,(two (rowsS (.slice fA R1.1.cells.length fc) (.slice fB R1.1.tin.length fd) (.slice fD R1.1.tout.length fg) fe R1.1) (rowsS (.slice gA R2.1.cells.length gc) (.slice gB R2.1.tin.length gd) (.slice gD R2.1.tout.length gg) ge R2.1)) (qb,i)=rowsS (.slice Aq st.cells.length cq) (.slice Bq st.tin.length dq) (.slice Dq st.tout.length gq) fq st i)/\st.cells.length<=3000/\st.Lim /\
    ∀ wr:World,wr.heap[b6]?=some (.cells #[.slice fA R1.1.cells.length fc,.slice fB R1.1.tin.length fd,.slice fD R1.1.tout.length fg,.slice gA R2.1.cells.length gc,.slice gB R2.1.tin.length gd,.slice gD R2.1.tout.length gg] 32 (0,0))->wr.cell? ⟨b6,k*3,none⟩=some (.slice Aq st.cells.length cq)/\wr.cell? ⟨b6,k*3+1,none⟩=some (.slice Bq st.tin.length dq)/\wr.cell? ⟨b6,k*3+2,none⟩=some (.slice Dq st.tout.length gq) from fun k hk=>by
    rcases (show k=0\/k=1 by omega) with rfl|rfl
    ·exact ⟨false,R1.1,fA,fc,fB,fd,fD,fg,fe,fun _=>rfl,HCA.out,HLA.out.1,fun wr h=>⟨zc h rfl,zc h rfl,zc h rfl⟩⟩
    ·exact ⟨true,R2.1,gA,gc,gB,gd,gD,gg,ge,fun _=>rfl,HCB2.out,HLB.out.1,fun wr h=>⟨zc h rfl,zc h rfl,zc h rfl⟩⟩)
   clear hW1 hb6 hk6 hbW hB61 hrc hbs x0 x1 x2 y0 y1 y2 HZA HZB HBC HRR HIA HIB HLA HLB HCA HCB2
   obtain ⟨d0,hd0⟩:∃ d,(two (rowsS (.slice fA R1.1.cells.length fc) (.slice fB R1.1.tin.length fd) (.slice fD R1.1.tout.length fg) fe R1.1) (rowsS (.slice gA R2.1.cells.length gc) (.slice gB R2.1.tin.length gd) (.slice gD R2.1.tout.length gg) ge R2.1))=d:=⟨_,rfl⟩
   rw [hd0] at HNO6 HOW HSP HST
   clear hd0
   go_loopw [78] (fun i wr=>∃ k:Nat,k<=2/\i=.int .i64 k/\Hid (SpG (fun q:Bool×SI=>q.2 ≠ .all) w6.heap.size d0 W1 wr)) (fun i _=>2-(intOf i).toNat)
   case atStart=>exact ⟨0,by omega,rfl,HSP⟩
   case round =>
    clear HSP
    obtain ⟨k,hk,rfl,HSP⟩:=hrel
    by_cases hlt:k<2
    ·have hk1:(k:Int)<2:=by omega
     have hk0:(0:Int)<=(k:Int):=by omega
     obtain ⟨qb,st,Aq,cq,Bq,dq,Dq,gq,fq,hrw,hst,hli,hcl⟩:=HST.out k hlt
     obtain ⟨u0,u1,u2⟩:=hcl wr (HSP.out.chg.keep HK6.out HNO6.out)
     have HRW:=zh hrw
     have HLI:=zh hli
     clear hcl hrw hli
     go_upto_region 10 with fail
     have kt:=heap_alloc_new wr (.cells #[.slice Aq st.cells.length cq,.slice Bq st.tin.length dq,.slice Dq st.tout.length gq] 32)
     have hsp2:=HSP.out.alloc (.cells #[.slice Aq st.cells.length cq,.slice Bq st.tin.length dq,.slice Dq st.tout.length gq] 32)
     have hszr:=HSP.out.chg.size
     obtain ⟨wt,hwt⟩:∃ x,wr.alloc (.cells #[.slice Aq st.cells.length cq,.slice Bq st.tin.length dq,.slice Dq st.tout.length gq] 32)=x:=⟨_,rfl⟩
     obtain ⟨bt,hbt⟩:∃ x,wr.heap.size=x:=⟨_,rfl⟩
     rw [hwt] at kt hsp2 ⊢
     rw [hbt] at kt hszr ⊢
     have hbl:=blk_lt kt
     have HKT:=zh kt
     have HSP2:=zh hsp2
     have hall:=hsp2.same (q:=(qb,.all)) (by simp)
     rw [HRW.out .all] at hall
     have HNW:=zh (row_reads (xs:=((List.range st.cells.length).map fq)) hall)
     have HNC:=zh (rowsS_one HRW.out hsp2.row)
     have HRL:=zh (rowsS_list HRW.out hsp2.row)
     obtain ⟨irow,hirow,hz0,hz1,hz2⟩:=info_parts rowInfo
     clear hsp2 hall kt hwt hbt u0 u1 u2
     have HSS:=zh (show ∀ w',Below wt.heap.size wt w'->(fun w':World=>w'.cell? ⟨bt,0,none⟩=some (.slice Aq st.cells.length cq)/\w'.cell? ⟨bt,1,none⟩=some (.slice Bq st.tin.length dq)/\w'.cell? ⟨bt,2,none⟩=some (.slice Dq st.tout.length gq)) w' from fun w' hb=>⟨zb hb (zc HKT.out rfl),zb hb (zc HKT.out rfl),zb hb (zc HKT.out rfl)⟩)
     have hSS:(fun w':World=>w'.cell? ⟨bt,0,none⟩=some (.slice Aq st.cells.length cq)/\w'.cell? ⟨bt,1,none⟩=some (.slice Bq st.tin.length dq)/\w'.cell? ⟨bt,2,none⟩=some (.slice Dq st.tout.length gq)) wt.drew/\(fun _:World=>True) wt.drew:=⟨HSS.out _ (Below.refl _ _).drew,trivial⟩
     refine wp_region_noPanic ?_
     refine wp_region_G (fun w':World=>w'.cell? ⟨bt,0,none⟩=some (.slice Aq st.cells.length cq)/\w'.cell? ⟨bt,1,none⟩=some (.slice Bq st.tin.length dq)/\w'.cell? ⟨bt,2,none⟩=some (.slice Dq st.tout.length gq)) (fun _:World=>True) 9 (by kernel_rfl) ?_
     refine zT 1 hSS ?_
     (try simp only [Act.put,zP])
     refine zT 2 hSS ?_
     (try simp only [Act.put,zP])
     refine zT 4 hSS ?_
     (try simp only [Act.put,zP])
     refine zT 5 hSS ?_
     (try simp only [Act.put,zP])
     refine zT 6 hSS ?_
     (try simp only [Act.put,zP])
     refine zT 7 hSS ?_
     (try simp only [Act.put,zP])
     refine zT 11 hSS ?_
     (try simp only [Act.put,zP])
     have hI:(fun w=>Below wt.heap.size wt w) wt.drew:=(Below.refl _ _).drew
     clear hSS
     have hb0r:=bR0
     have hb2r:=bR2 Bq Dq st.tin.length dq st.tout.length gq
     refine wpG_alt0 (i:=0) (j:=8) (some 82) (some 90) 3 (fun li l8 => #[li,true,true,false,true,true,true,true,l8,false,false,true]) _ (fun w=>Below wt.heap.size wt w) (fun u w=>∃ b,u=.slice (some ⟨b,0,none⟩) 2 2/\wt.heap.size<=b/\w.heap[b]?=some (.cells #[.slice Bq st.tin.length dq,.slice Dq st.tout.length gq] 30 (0,0))) (fun v w=>∃ b,v=.slice (some ⟨b,0,none⟩) 0 0/\wt.heap.size<=b/\w.heap[b]?=some (.cells #[] 30 (0,0))) rfl rfl rfl rfl (by kernel_rfl) (by kernel_rfl) (fun l8=>by cases l8<;>rfl) rfl (fun w h=>⟨HSS.out _ h,trivial⟩) (fun w w' h hb=>?_) (fun u w w' h hb=>?_) (fun v4 K w h hK0=>?_) (fun v4 K w h hK0=>?_) (fun u v=>?_) (fun l8 v8 v wx h hF hA=>?_) false u90 wt.drew hI (fun h=>by cases h) ?_
     ·have hb0:=h
      exact bl_tt hb0 hb
     ·obtain ⟨b,e1,e2,e3⟩:=h
      exact ⟨b,e1,e2,blk_bl e3 hb⟩
     ·have hb0:=h
      have hK:=zh hK0
      clear hK0
      (try simp only [Act.put,zP])
      (try simp only [zA,zB,zC])
      go_simp
      exact hK.out _ _ (bl_al (Below.refl _ _) _) ⟨_,rfl,hb0.size,heap_alloc_new w _⟩
     ·have hb0:=h
      have hK:=zh hK0
      clear hK0
      (try simp only [Act.put,zP])
      (try simp only [zA,zB,zC])
      go_simp
      exact hK.out _ _ (bl_al (Below.refl _ _) _) ⟨_,rfl,hb0.size,heap_alloc_new w _⟩
     ·simp only [Act.put,zD,zE,zF]
     rotate_left 1
     ·simp only [Act.put,zD,zE,zF]
     (try simp only [Act.put,zP])
     obtain ⟨gz,rfl,hgz,kgz⟩:=hF
     clear hI
     have hb0:=h
     have hI:(fun w=>Below wt.heap.size wt w/\w.heap[gz]?=some (.cells #[] 30 (0,0))) wx:=⟨hb0,kgz⟩
     have hA8:=hA
     clear hA hb0 h
     refine wpG_alt0 (i:=3) (j:=8) (some 85) (some 90) 2 (fun li l8 => #[true,true,true,li,true,true,true,true,l8,false,false,true]) _ (fun w=>Below wt.heap.size wt w/\w.heap[gz]?=some (.cells #[] 30 (0,0))) (fun u w=>∃ b,u=.slice (some ⟨b,0,none⟩) 2 2/\wt.heap.size<=b/\w.heap[b]?=some (.cells #[.slice Bq st.tin.length dq,.slice Dq st.tout.length gq] 30 (0,0))) (fun v w=>w.ownsRow gz 30 1 v st.cells.length ((List.range st.cells.length).map fq)) rfl rfl rfl rfl (by kernel_rfl) (by kernel_rfl) (fun l8=>by cases l8<;>rfl) rfl (fun w h=>⟨HSS.out _ h.1,trivial⟩) (fun w w' h hb=>?_) (fun u w w' h hb=>?_) (fun v4 K w h hK0=>?_) (fun v4 K w h hK0=>?_) (fun u v=>?_) (fun l8 v8 v wx h hF hA=>?_) l8 v8 wx hI hA8 ?_
     ·obtain ⟨hb0,hg⟩:=h
      exact ⟨bl_tt hb0 hb,blk_bl hg hb⟩
     ·obtain ⟨b,e1,e2,e3⟩:=h
      exact ⟨b,e1,e2,blk_bl e3 hb⟩
     ·obtain ⟨hb0,hg⟩:=h
      have hK:=zh hK0
      clear hK0
      refine step_append_Z (by rfl) (.tmp 82) (.tmp 84) (by rfl) gz hg (by rfl) Aq st.cells.length cq ((List.range st.cells.length).map fq) (by rfl) (by simp) HNW.out.1 (fun ad had j u hj=>zb hb0 (HNW.out.2 ad had j u hj)) HNC.out (by omega) ?_
      intro v' w' hr hb
      exact hK.out _ _ hb hr
     ·obtain ⟨hb0,hg⟩:=h
      have hK:=zh hK0
      clear hK0
      (try simp only [Act.put,zP])
      (try simp only [zA,zB,zC])
      go_simp
      exact hK.out _ _ (bl_al (Below.refl _ _) _) ⟨_,rfl,hb0.size,heap_alloc_new w _⟩
     ·simp only [Act.put,zD,zE,zF]
     rotate_left 1
     ·simp only [Act.put,zD,zE,zF]
     (try simp only [Act.put,zP])
     clear hI hA8
     obtain ⟨hb0,hg⟩:=h
     have hI:(fun w=>(Below wt.heap.size wt w/\w.heap[gz]?=some (.cells #[] 30 (0,0)))/\w.ownsRow gz 30 1 v st.cells.length ((List.range st.cells.length).map fq)) wx:=⟨⟨hb0,hg⟩,hF⟩
     have hA8:=hA
     clear hA hb0 hg hF
     refine wpG_free (j:=8) (some 90) 2 (fun l8 => #[true,true,true,true,true,true,true,true,l8,false,false,true]) _ (fun w=>(Below wt.heap.size wt w/\w.heap[gz]?=some (.cells #[] 30 (0,0)))/\w.ownsRow gz 30 1 v st.cells.length ((List.range st.cells.length).map fq)) (fun u w=>∃ b,u=.slice (some ⟨b,0,none⟩) 2 2/\wt.heap.size<=b/\w.heap[b]?=some (.cells #[.slice Bq st.tin.length dq,.slice Dq st.tout.length gq] 30 (0,0))) rfl rfl (by kernel_rfl) rfl (fun w h=>⟨HSS.out _ h.1.1,trivial⟩) (fun w w' h hb=>?_) (fun v4 K w h hK0=>?_) (fun u v=>?_) (fun v8 wx h hA=>?_) l8 v8 wx hI hA8 ?_
     ·obtain ⟨⟨hb0,hg⟩,hr⟩:=h
      exact ⟨⟨bl_tt hb0 hb,blk_bl hg hb⟩,own_later hr hb⟩
     ·obtain ⟨⟨hb0,hg⟩,hr⟩:=h
      have hK:=zh hK0
      clear hK0
      (try simp only [Act.put,zP])
      (try simp only [zA,zB,zC])
      go_simp
      exact hK.out _ _ (bl_al (Below.refl _ _) _) ⟨_,rfl,hb0.size,heap_alloc_new w _⟩
     ·simp only [Act.put,zD,zE,zF]
     rotate_left 1
     ·simp only [Act.put,zD,zE,zF]
     (try simp only [Act.put,zP])
     clear hI hA8
     obtain ⟨⟨hb0,kgz⟩,hr⟩:=h
     obtain ⟨b90,rfl,hb90,k90⟩:=hA
     have hgzlt:gz<=wx.heap.size:=Nat.le_of_lt (blk_lt kgz)
     refine wpG_past (i:=9) (by kernel_rfl) rfl (by kernel_rfl) (fun K hK=>?_)
     refine step_append_own (by rfl) (.tmp 85) (.tmp 90) 29 (by rfl) gz 30 irow _ 1 24 Tryz.underlying29 hirow hz0 hz1 hz2 rfl (by decide) v st.cells.length ((List.range st.cells.length).map fq) (by rfl) hr ⟨b90,0,none⟩ 2 2 [.slice Bq st.tin.length dq,.slice Dq st.tout.length gq] (by rfl) rfl (fun j u hj=>by
      rw [Addr.add_lit,Nat.zero_add]
      exact zc k90 (by simpa using hj)) (by intro u hu; simp at hu; rcases hu with rfl|rfl<;>rfl) (by unfold maxLen; omega) (by omega) hgzlt ?_
     intro v' wz h2 h3 h5
     have hkt:wz.heap[bt]?=some (.cells #[.slice Aq st.cells.length cq,.slice Bq st.tin.length dq,.slice Dq st.tout.length gq] 32 (0,0)):=(Chg.row h3).keep (blk_bl HKT.out hb0) (fun e=>by have:=row_ge hr e; omega)
     have hspz:=(HSP2.out.later hb0).put (Chg.row h3) (fun b hb hob=>by have:=row_ge hr hb; have:=HOW.out b hob; omega) (fun b hb1 hb=>by have:=row_ge hr hb; omega)
     refine hK.out _ _ ⟨zc hkt rfl,zc hkt rfl,zc hkt rfl⟩ ?_
     have HKT2:=zh hkt
     clear hK K hkt hb0 hr k90 hb90 h3 h5 kgz hgzlt
     (try simp only [Act.put,zP])
     obtain ⟨g91,c91,rfl⟩:=ownsRow_succ h2
     refine wpG_past (i:=10) (by kernel_rfl) rfl (by kernel_rfl) (fun K hK=>?_)
     (try simp only [zA,zB,zC])
     go_simp
     refine hK.out _ _ ⟨zc HKT2.out rfl,zc HKT2.out rfl,zc HKT2.out rfl⟩ ?_
     clear hK K
     (try simp only [Act.put,zP])
     refine wpG_done (by kernel_rfl) ?_
     refine NoPanic.normal ?_
     have hL:(((List.range st.cells.length).map fq)++[Value.slice Bq st.tin.length dq,Value.slice Dq st.tout.length gq]).length=st.cells.length+2:=by simp
     have HC91:=zh (show ∀ wr',Chg (OwnB d0) wz wr'->∀ j u,(((List.range st.cells.length).map fq)++[Value.slice Bq st.tin.length dq,.slice Dq st.tout.length gq])[j]?=some u->wr'.cell? ⟨g91,j,none⟩=some u from fun wr' hc j u hj=>by
      have hjl:=(List.getElem?_eq_some_iff.1 hj).1
      refine chg_cell hc (by rw [h2.cellAt j (by omega)]; exact hj) fun hob=>?_
      have h8:=HOW.out _ hob
      have h9:=row_ge h2 rfl
      simp only at h8 h9
      omega)
     have HSPZ:=zh hspz
     clear h2 hspz hL HKT2 HKT HSP2 HNW HNC HSS hz0 hz1 hz2 hirow
     go_wp2_with fail
     go_loopw [93] (fun i wr'=>∃ j:Nat,j<=st.cells.length+2/\i=.int .i64 j/\Hid (SpG (fun q:Bool×SI=>q.2 ≠ .all) w6.heap.size d0 wz wr')) (fun i _=>st.cells.length+2-(intOf i).toNat)
     case atStart=>exact ⟨0,Nat.zero_le _,rfl,zh HSPZ.out.again⟩
     case round =>
      obtain ⟨j,hj,rfl,HSJ⟩:=hrel
      by_cases hlt2:j<st.cells.length+2
      ·obtain ⟨q,Aj,nj,cj,hq,hl,hv,hn,hx⟩:=HRL.out j hlt2
       have z0:=HC91.out _ HSJ.out.chg j _ hl
       have hj1:(j:Int)<(st.cells.length:Int)+1+1:=by omega
       have hj2:(j:Int)<((st.cells.length+1+1:Nat):Int):=by omega
       have hj3:(j:Int)<((st.cells.length+2:Nat):Int):=by omega
       have hj0:(0:Int)<=(j:Int):=by omega
       have HV:=zh hv
       have HN:=zh hn
       have HX:=zh hx
       clear hl hv hn hx
       go_wp2_with fail
       clear z0 hj1 hj2 hj3
       go_loopw [99] (fun i wr'=>∃ x:Nat,x<=nj/\i=.int .i64 x/\Hid (SpG (fun q:Bool×SI=>q.2 ≠ .all) w6.heap.size d0 wz wr')) (fun i _=>nj-(intOf i).toNat)
       case atStart=>exact ⟨0,Nat.zero_le _,rfl,HSJ⟩
       case round =>
        clear HSJ
        obtain ⟨x,hx,rfl,HSX2⟩:=hrel
        by_cases hlt3:x<nj
        ·have hk3:(x:Int)<(nj:Int):=by omega
         have hk4:(0:Int)<=(x:Int):=by omega
         obtain ⟨E9,sz9,xs9,ho9⟩:=HSX2.out.row q
         rw [HN.out] at ho9
         obtain ⟨gg9,c9',hv9,hle1,hle2,-⟩:=row_some ho9 (by omega)
         unfold maxLen at hle2
         have hk5:(x:Int)+1<=9223372036854775807:=by omega
         clear hle1 hle2
         rw [HV.out] at hv9
         injection hv9 with hv9
         subst hv9
         have hgb:(d0 q).v.ownBlock=some gg9:=by rw [HV.out]; rfl
         obtain ⟨⟨n9,hn9⟩,hfz⟩:=HSX2.out.read hq hgb (o:=x) (by rw [HX.out]; exact hlt3)
         have HSN:=zh (fun y=>HSX2.out.set hq hgb (o:=x) (by rw [HX.out]; exact hlt3) y)
         clear hgb ho9
         go_wp2_with fail
         exact ⟨⟨x+1,by omega,by go_num,zh (HSN.out _)⟩,by simp [intOf]; omega⟩
        ·obtain rfl:x=nj:=by omega
         have hk3:¬ (x:Int)<(x:Int):=by omega
         go_wp2_with fail
         exact ⟨⟨j+1,by omega,by go_num,HSX2⟩,by simp [intOf]; omega⟩
      ·obtain rfl:j=st.cells.length+2:=by omega
       have hj1:¬ (st.cells.length:Int)+1+1<(st.cells.length:Int)+1+1:=by omega
       have hj2:¬ ((st.cells.length+2:Nat):Int)<((st.cells.length+1+1:Nat):Int):=by omega
       have hj3:¬ ((st.cells.length+2:Nat):Int)<((st.cells.length+2:Nat):Int):=by omega
       go_wp2_with fail
       exact ⟨⟨k+1,by omega,by go_num,zh (HSPZ.out.trans HSJ.out)⟩,by simp [intOf]; omega⟩
    ·obtain rfl:k=2:=by omega
     have hk1:¬ (2:Int)<2:=by omega
     have hb:=HB61.out.trans (HSP.out.chg.below HB61.out.size fun b hb=>(HOW.out b hb).1)
     have hks:=blk_bl HKS.out hb
     have hkb:=blk_bl HCB.out hb
     have s0:wr.cell? ⟨W.heap.size+1,0,none⟩=some (.slice A s.cells.length c):=zc hks rfl
     have s1:wr.cell? ⟨W.heap.size+1,1,none⟩=some (.slice B s.tin.length d):=zc hks rfl
     have s2:wr.cell? ⟨W.heap.size+1,2,none⟩=some (.slice D s.tout.length e):=zc hks rfl
     have z0:wr.cell? ⟨cb,0,none⟩=some (.slice A9 s.cells.length c9):=zc hkb rfl
     have z1:wr.cell? ⟨cb,1,none⟩=some (.slice B9 s.tin.length d9):=zc hkb rfl
     have z2:wr.cell? ⟨cb,2,none⟩=some (.slice D9 s.tout.length g9):=zc hkb rfl
     have HQ9:=zh (StEqual_any s s _ _ wr (HS6.out.later hb) ((HO6.out.later hb).sv HSX.out.lim) HSX.out HSX.out)
     rw [HEE.out] at HQ9
     have HBR:=zh hb
     clear hks hkb hb
     go_wp2_with fail
     refine HQ9.out.mono ?_
     rintro e10 w10 ⟨rfl,b10⟩
     go_wp2_with fail
     go_ret
     exact ⟨rfl,bl_tt HW6.out (bl_tt HBR.out b10)⟩
 ·go_wp2_with fail
  refine (awake_any w4).mono ?_
  rintro e5 w5 ⟨rfl,b5⟩
  clear hgb
  go_wp2_with fail
  go_ret
  exact ⟨rfl,bl_tt HB2.out (bl_tt b24 b5)⟩
end Go.Proofs.YtgnfpcebmefhoaaGreat
namespace Go.Proofs.YtgnfpcebmefhoaaGreat
open Go.RowKit Go.ChangeShapes Go.WideShapes Go.ChangeAt Go.Deep
theorem cellsNode:Tryz.prog.cellsOf 26=4:=by kernel_rfl
theorem bytesNode:Tryz.prog.bytesOf 26=56:=by kernel_rfl
theorem cellsU8:Tryz.prog.cellsOf 5=1:=by kernel_rfl
theorem cellsI64:Tryz.prog.cellsOf 3=1:=by kernel_rfl
theorem cellsStr:Tryz.prog.cellsOf 9=1:=by kernel_rfl
theorem cellsKids:Tryz.prog.cellsOf 24=1:=by kernel_rfl
theorem weightsAll_mem {H:Type} {P:Program} {e:TypeId}:∀ {l:List (DataW H)} {d:DataW H},d∈l->∀ n∈d.weights P e,n∈DataW.weightsAll P e l
 | d0::l,d,hd,n,hn=>by
  simp only [DataW.weightsAll,List.mem_append]
  rcases List.mem_cons.1 hd with rfl|hd
  ·exact .inl hn
  ·exact .inr (weightsAll_mem hd n hn)
theorem sizes_le_bulk {H:Type}:∀ (ks:List T) (ds:List (DataW H)),ks.length=ds.length->(∀ i (h:i<ks.length) (h':i<ds.length),size ks[i]<=Rows.uptoBulk ds[i])->sizes ks<=Rows.uptoBulkAll ds
 | [],[],_,_=>by simp [sizes]
 | t::ts,d::ds,hl,h=>by
  have h0:=h 0 (Nat.zero_lt_succ _) (Nat.zero_lt_succ _)
  have h1:=sizes_le_bulk ts ds (by simpa using hl) (fun i hi hi'=>h (i+1) (Nat.succ_lt_succ hi) (Nat.succ_lt_succ hi'))
  simp only [List.getElem_cons_zero] at h0
  simp only [sizes,Rows.uptoBulkAll]
  omega
 | [],_::_,hl,_=>by simp at hl
 | _::_,[],hl,_=>by simp at hl
section
variable {H:Type} {enc:TypeId×Value->H} {w:World} {held:Bool}
def zeroT':T:=.nd 0 0 ⟨#[]⟩ []
theorem open_node:∀ (fuel:Nat) (cs:List Value) (x:DataW H×List MemPlace),DataW.trod enc Tryz.prog w 0 (fun _=>true) held fuel 26 cs=some x ->
  (∀ n∈x.1.weights Tryz.prog 26,n<=reachBytes) ->
  ∃ t u0 u1 u2 u3,cs=[u0,u1,u2,u3]/\NV w Any t (.agg #[u0,u1,u2,u3])/\t.ks.length*56<=reachBytes/\size t<=Rows.uptoBulk x.1:=by
 intro fuel
 induction fuel using Nat.strongRecOn with
 | _ fuel ih =>
 intro cs x h hw
 have hts:=DataW.trod_struct Tryz.underlying26 h
 obtain ⟨xs,n,hfu,hx,hcl,hxl,hg⟩:=hts
 subst hx
 rw [cellsNode] at hcl
 match cs,hcl with
 | [c0,c1,c2,c3],_ =>
 match xs,hxl with
 | [y0,y1,y2,y3],_ =>
 have g0:=hg 0 _ rfl
 have g1:=hg 1 _ rfl
 have g2:=hg 2 _ rfl
 have g3:=hg 3 _ rfl
 simp only [cellsU8,cellsI64,cellsStr,cellsKids,List.drop_zero,List.take_succ_cons,List.take_zero,List.drop_succ_cons,List.getElem?_cons_zero,List.getElem?_cons_succ] at g0 g1 g2 g3
 obtain ⟨k,e0,e0',wk⟩:=DataW.trod_int Tryz.underlying5 g0
 obtain ⟨m,e1,e1',wm⟩:=DataW.trod_int Tryz.underlying3 g1
 obtain ⟨s,e2,e2',ws⟩:=DataW.trod_string Tryz.underlying9 g2
 injection e0 with e0
 injection e1 with e1
 injection e2 with e2
 subst e0 e1 e2 e0' e1' e2'
 have hf:Fld k m s:=by
  refine ⟨?_,?_,ws⟩
  ·have:=wk; simp [Lit.wf,IntKind.min,IntKind.max,IntKind.signed,IntKind.bits] at this; omega
  ·have:=wm; simp [Lit.wf,IntKind.min,IntKind.max,IntKind.signed,IntKind.bits] at this; omega
 have hsl:=DataW.trod_slice Tryz.underlying24 g3
 rcases hsl with ⟨e3,e3'⟩|⟨a,len,cap,elems,rest,n',hn',e3,e3',_,hl,hm,hel,hat,hsp,_⟩
 ·injection e3 with e3
  subst e3 e3'
  refine ⟨.nd k m s [],_,_,_,_,rfl,NV.shut (ks:=[]) hf (Nat.zero_le _) (Nat.zero_le _) RowAt.nil,by simp,?_⟩
  simp only [size,sizes,List.map_cons,List.map_nil,Rows.uptoBulk]
  omega
 ·injection e3 with e3
  subst e3 e3'
  obtain ⟨hrl,_⟩:=hsp rfl
  rw [cellsNode] at hat
  -- what the reach says of this slice,and of its elements
  have hws:∀ q∈DataW.weights Tryz.prog 24 (.slice (elems.map (·.1)) (rest.map (·.1)):DataW H),q<=reachBytes:=by
   intro q hq
   refine hw q ?_
   simp only [List.map_cons,List.map_nil,DataW.weights,Tryz.underlying26]
   simp only [DataW.weightsEach,List.map_cons,List.map_nil,List.mem_append]
   exact .inr (.inr (.inr (.inl hq)))
  simp only [DataW.weights,Tryz.underlying24,bytesNode] at hws
  have hcap:cap*56<=reachBytes:=by
   have:=hws _ (List.mem_cons_self ..)
   simp only [List.length_map] at this
   rw [hel,hrl] at this
   rw [show cap=len+(cap-len) by omega]
   exact this
  have hwe:∀ y∈elems,∀ q∈y.1.weights Tryz.prog 26,q<=reachBytes:=fun y hy q hq =>
   hws q (List.mem_cons_of_mem _ (List.mem_append_left _ (weightsAll_mem (List.mem_map_of_mem hy) q hq)))
  have key:∀ i (hi:i<elems.length),∃ t u0 u1 u2 u3,w.cells? 0 (a.add (i*4)) 4=some [u0,u1,u2,u3]/\NV w Any t (.agg #[u0,u1,u2,u3])/\size t<=Rows.uptoBulk elems[i].1:=by
   intro i hi
   have h1:=hat i (by omega)
   rw [List.getElem?_eq_getElem hi] at h1
   obtain ⟨cs',hcs,ht⟩:=Option.bind_eq_some_iff.1 h1
   obtain ⟨t,u0,u1,u2,u3,rfl,hn,_,hb⟩:=ih n' (by omega) cs' elems[i] ht (hwe _ (List.getElem_mem hi))
   exact ⟨t,u0,u1,u2,u3,hcs,hn,hb⟩
  have hex:∃ ks:List T,ks.length=elems.length/\∀ i (h:i<ks.length) (h':i<elems.length),(∃ u0 u1 u2 u3,w.cells? 0 (a.add (i*4)) 4=some [u0,u1,u2,u3]/\NV w Any ks[i] (.agg #[u0,u1,u2,u3]))/\size ks[i]<=Rows.uptoBulk elems[i].1:=by
   classical
   refine ⟨(List.range elems.length).map fun i=>if h:i<elems.length then (key i h).choose else zeroT',by simp,fun i h h'=>?_⟩
   simp only [List.getElem_map,List.getElem_range,h',dif_pos]
   obtain ⟨u0,u1,u2,u3,h1,h2,h3⟩:=(key i h').choose_spec
   exact ⟨⟨u0,u1,u2,u3,h1,h2⟩,h3⟩
  obtain ⟨ks,hkl,hks⟩:=hex
  have hlen:ks.length=len:=by omega
  have hLK:ks.length<=LK:=by unfold LK; unfold reachBytes at hcap; omega
  refine ⟨.nd k m s ks,_,_,_,_,rfl,?_,?_,?_⟩
  ·rw [<-hlen]
   refine NV.shut hf hLK (by omega) fun i hi=>?_
   obtain ⟨⟨u0,u1,u2,u3,hc,hn⟩,_⟩:=hks i hi (by omega)
   obtain ⟨_,_,hcell⟩:=World.cells?_some hc
   refine ⟨a,u0,u1,u2,u3,rfl,trivial,⟨?_,?_,?_,?_⟩,hn⟩
   ·have:=hcell 0 (by omega); simpa [Addr.add] using this
   ·have:=hcell 1 (by omega); simpa [Addr.add] using this
   ·have:=hcell 2 (by omega); simpa [Addr.add] using this
   ·have:=hcell 3 (by omega); simpa [Addr.add] using this
  ·simp only [T.ks_nd]; omega
  ·have hb:=sizes_le_bulk ks (elems.map (·.1)) (by simp [hkl]) (fun i h h'=>by
    have:=(hks i h (by simpa using h')).2
    simpa using this)
   simp only [size,List.map_cons,List.map_nil,Rows.uptoBulk,Rows.uptoBulkAll]
   omega
end
theorem Tryz.own:ownKnob Tryz.prog.godebug=none:=by kernel_rfl
theorem Tryz.laidOut:laidOutB Tryz.prog=true:=by kernel_rfl
theorem cellsVd:Tryz.prog.cellsOf 58=3:=by kernel_rfl
theorem bytesVd:Tryz.prog.bytesOf 58=32:=by kernel_rfl
section
variable {H:Type} {enc:TypeId×Value->H} {w:World} {held:Bool}
theorem open_row {ty E:TypeId} {n b:Nat} (ht:Tryz.prog.underlying ty=some (.slice E)) (hc:Tryz.prog.cellsOf E=n) (hb:Tryz.prog.bytesOf E=b) {fuel:Nat} {cs:List Value} {x:DataW H×List MemPlace}
  (h:DataW.trod enc Tryz.prog w 0 (fun _=>true) held fuel ty cs=some x) (hw:∀ q∈x.1.weights Tryz.prog ty,q<=reachBytes) :
  cs=[.slice none 0 0]\/∃ a len cap,cs=[.slice (some a) len cap]/\len<=cap/\cap*b<=reachBytes/\∀ i,i<len->∃ cs' y n',w.cells? 0 (a.add (i*n)) n=some cs'/\DataW.trod enc Tryz.prog w 0 (fun _=>true) held n' E cs'=some y/\∀ q∈y.1.weights Tryz.prog E,q<=reachBytes:=by
 have hsl:=DataW.trod_slice ht h
 rcases hsl with ⟨e3,e3'⟩|⟨a,len,cap,elems,rest,n',hn',e3,e3',_,hl,hm,hel,hat,hsp,_⟩
 ·exact .inl e3
 ·refine .inr ⟨a,len,cap,e3,hl,?_,?_⟩
  ·obtain ⟨hrl,_⟩:=hsp rfl
   subst e3'
   simp only [DataW.weights,ht,hb] at hw
   have:=hw _ (List.mem_cons_self ..)
   simp only [List.length_map] at this
   rw [hel,hrl] at this
   rw [show cap=len+(cap-len) by omega]
   exact this
  ·intro i hi
   subst e3'
   simp only [DataW.weights,ht,hb] at hw
   have hi':i<elems.length:=by omega
   have h1:=hat i (by omega)
   rw [List.getElem?_eq_getElem hi',hc] at h1
   obtain ⟨cs',hcs,ht'⟩:=Option.bind_eq_some_iff.1 h1
   exact ⟨cs',elems[i],n',hcs,ht',fun q hq=>hw q (List.mem_cons_of_mem _ (List.mem_append_left _ (weightsAll_mem (List.mem_map_of_mem (List.getElem_mem hi')) q hq)))⟩
theorem open_vd {fuel:Nat} {cs:List Value} {x:DataW H×List MemPlace} (h:DataW.trod enc Tryz.prog w 0 (fun _=>true) held fuel 58 cs=some x) :
  ∃ v:VD,cs=[.string v.s,.int .u8 v.k,.int .i64 v.n]/\FldV v:=by
 have hts:=DataW.trod_struct Tryz.underlying58 h
 obtain ⟨xs,n,hfu,hx,hcl,hxl,hg⟩:=hts
 rw [cellsVd] at hcl
 match cs,hcl with
 | [c0,c1,c2],_ =>
 match xs,hxl with
 | [y0,y1,y2],_ =>
 have g0:=hg 0 _ rfl
 have g1:=hg 1 _ rfl
 have g2:=hg 2 _ rfl
 obtain ⟨s,e2,e2',ws⟩:=DataW.trod_string Tryz.underlying9 g0
 obtain ⟨k,e0,e0',wk⟩:=DataW.trod_int Tryz.underlying5 g1
 obtain ⟨m,e1,e1',wm⟩:=DataW.trod_int Tryz.underlying3 g2
 injection e0 with e0
 injection e1 with e1
 injection e2 with e2
 subst e0 e1 e2
 refine ⟨⟨s,k,m⟩,rfl,ws,?_,?_⟩
 ·have:=wk; simp [Lit.wf,IntKind.min,IntKind.max,IntKind.signed,IntKind.bits] at this; constructor<;>simp only<;>omega
 ·have:=wm; simp [Lit.wf,IntKind.min,IntKind.max,IntKind.signed,IntKind.bits] at this; constructor<;>simp only<;>omega
theorem choose_list {α:Type} [Inhabited α] {n:Nat} {P:Nat->α->Prop} (h:∀ i,i<n->∃ x,P i x):∃ l:List α,l.length=n/\∀ i (hi:i<l.length),P i l[i]:=by
 obtain ⟨f,hf⟩:=choose_lt h
 exact ⟨(List.range n).map f,by simp,fun i hi=>by simp only [List.getElem_map,List.getElem_range]; exact hf i (by simpa using hi)⟩
instance:Inhabited VD:=⟨⟨⟨#[]⟩,0,0⟩⟩
theorem open_varsW {fuel:Nat} {cs:List Value} {x:DataW H×List MemPlace} (h:DataW.trod enc Tryz.prog w 0 (fun _=>true) held fuel 22 cs=some x) (hw:∀ q∈x.1.weights Tryz.prog 22,q<=reachBytes) :
  ∃ (A:Option Addr) (vs:List VD) (c:Nat),cs=[.slice A vs.length c]/\RowV w Any A vs/\vs.length<=4398046510976/\vs.length<=c:=by
 rcases open_row Tryz.underlying22 cellsVd bytesVd h hw with rfl|⟨a,len,cap,rfl,hl,hcap,hat⟩
 ·exact ⟨none,[],0,rfl,fun i hi=>absurd hi (by simp),Nat.zero_le _,Nat.zero_le _⟩
 ·obtain ⟨vs,hvl,hvs⟩:=choose_list (n:=len) (P:=fun i (v:VD)=>w.cells? 0 (a.add (i*3)) 3=some [.string v.s,.int .u8 v.k,.int .i64 v.n]/\FldV v) fun i hi=>by
   obtain ⟨cs',y,n',hcs,ht,_⟩:=hat i hi
   obtain ⟨v,rfl,hf⟩:=open_vd ht
   exact ⟨v,hcs,hf⟩
  refine ⟨some a,vs,cap,by rw [hvl],fun i hi=>?_,by unfold reachBytes at hcap; omega,by omega⟩
  obtain ⟨hc,hf⟩:=hvs i hi
  obtain ⟨_,_,hcell⟩:=World.cells?_some hc
  refine ⟨a,rfl,trivial,⟨?_,?_,?_⟩,hf⟩
  ·have:=hcell 0 (by omega); simpa [Addr.add] using this
  ·have:=hcell 1 (by omega); simpa [Addr.add] using this
  ·have:=hcell 2 (by omega); simpa [Addr.add] using this
theorem open_vars {fuel:Nat} {cs:List Value} {x:DataW H×List MemPlace} (h:DataW.trod enc Tryz.prog w 0 (fun _=>true) held fuel 22 cs=some x) (hw:∀ q∈x.1.weights Tryz.prog 22,q<=reachBytes) :
  ∃ (A:Option Addr) (vs:List VD) (c:Nat),cs=[.slice A vs.length c]/\RowV w Any A vs/\vs.length<=LV/\vs.length<=c:=by
 obtain ⟨A,vs,c,h1,h2,h3,h4⟩:=open_varsW h hw
 exact ⟨A,vs,c,h1,h2,by unfold LV; omega,h4⟩
instance:Inhabited T:=⟨zeroT'⟩
theorem nv_parts {t:T} {u0 u1 u2 u3:Value} (h:NV w Any t (.agg #[u0,u1,u2,u3])):∃ A c,u0=.int .u8 t.k/\u1=.int .i64 t.n/\u2=.string t.s/\u3=.slice A t.ks.length c/\NV w Any t (nv t.k t.n t.s A t.ks.length c):=by
 obtain ⟨A,c,e,_⟩:=h.open_
 have e':=e
 simp only [nv,Value.agg.injEq,Array.mk.injEq,List.cons.injEq,and_true] at e
 exact ⟨A,c,e.1,e.2.1,e.2.2.1,e.2.2.2,e'▸h⟩
end
theorem cellsI:Tryz.prog.cellsOf 30=1:=by kernel_rfl
theorem bytesI64:Tryz.prog.bytesOf 3=8:=by kernel_rfl
theorem bytesI:Tryz.prog.bytesOf 30=24:=by kernel_rfl
theorem cellsState:Tryz.prog.cellsOf 32=3:=by kernel_rfl
section
variable {H:Type} {enc:TypeId×Value->H} {w:World} {held:Bool}
theorem cell0 {a:Addr} {u:Value} (h:w.cells? 0 a 1=some [u]):w.cell? a=some u:=by
 obtain ⟨_,_,hcell⟩:=World.cells?_some h
 have:=hcell 0 (by omega)
 have e:a.add 0=a:=by
  obtain ⟨b,o,l⟩:=a
  rcases l with _|⟨l1,l2⟩<;>simp [Addr.add]
 rw [e] at this
 simpa using this
theorem open_rowI {fuel:Nat} {cs:List Value} {x:DataW H×List MemPlace} (h:DataW.trod enc Tryz.prog w 0 (fun _=>true) held fuel 30 cs=some x) (hw:∀ q∈x.1.weights Tryz.prog 30,q<=reachBytes) :
  ∃ (A:Option Addr) (l:List Int) (c:Nat),cs=[.slice A l.length c]/\RowI w Any A l/\l.length<=LI/\l.length<=c:=by
 rcases open_row Tryz.underlying30 cellsI64 bytesI64 h hw with rfl|⟨a,len,cap,rfl,hl,hcap,hat⟩
 ·exact ⟨none,[],0,rfl,fun i hi=>absurd hi (by simp),Nat.zero_le _,Nat.zero_le _⟩
 ·obtain ⟨l,hvl,hvs⟩:=choose_list (n:=len) (P:=fun i (x:Int)=>w.cells? 0 (a.add (i*1)) 1=some [.int .i64 x]/\I64 x) fun i hi=>by
   obtain ⟨cs',y,n',hcs,ht,_⟩:=hat i hi
   obtain ⟨m,e1,e1',wm⟩:=DataW.trod_int Tryz.underlying3 ht
   refine ⟨m,by rw [hcs,e1],?_⟩
   have:=wm
   simp [Lit.wf,IntKind.min,IntKind.max,IntKind.signed,IntKind.bits] at this
   constructor<;>omega
  refine ⟨some a,l,cap,by rw [hvl],fun i hi=>?_,by unfold LI; unfold reachBytes at hcap; omega,by omega⟩
  obtain ⟨hc,hf⟩:=hvs i hi
  rw [Nat.mul_one] at hc
  exact ⟨a,rfl,trivial,cell0 hc,hf⟩
instance:Inhabited (List Int):=⟨[]⟩
theorem open_rowII {fuel:Nat} {cs:List Value} {x:DataW H×List MemPlace} (h:DataW.trod enc Tryz.prog w 0 (fun _=>true) held fuel 29 cs=some x) (hw:∀ q∈x.1.weights Tryz.prog 29,q<=reachBytes) :
  ∃ (A:Option Addr) (ls:List (List Int)) (c:Nat),cs=[.slice A ls.length c]/\RowII w Any A ls/\ls.length<=LI/\(∀ l∈ls,l.length<=LI)/\ls.length<=c:=by
 rcases open_row Tryz.underlying29 cellsI bytesI h hw with rfl|⟨a,len,cap,rfl,hl,hcap,hat⟩
 ·exact ⟨none,[],0,rfl,fun i hi=>absurd hi (by simp),Nat.zero_le _,by simp,Nat.zero_le _⟩
 ·obtain ⟨ls,hvl,hvs⟩:=choose_list (n:=len) (P:=fun i (l:List Int)=>∃ A' c',w.cells? 0 (a.add (i*1)) 1=some [.slice A' l.length c']/\RowI w Any A' l/\l.length<=LI/\l.length<=c') fun i hi=>by
   obtain ⟨cs',y,n',hcs,ht,hwy⟩:=hat i hi
   obtain ⟨A',l,c',e,hr,h1,h2⟩:=open_rowI ht hwy
   exact ⟨l,A',c',by rw [hcs,e],hr,h1,h2⟩
  refine ⟨some a,ls,cap,by rw [hvl],fun i hi=>?_,by unfold LI; unfold reachBytes at hcap; omega,fun l hl=>?_,by omega⟩
  ·obtain ⟨A',c',hc,hr,h1,h2⟩:=hvs i hi
   rw [Nat.mul_one] at hc
   exact ⟨a,A',c',rfl,trivial,cell0 hc,h2,hr⟩
  ·obtain ⟨i,hi,rfl⟩:=List.mem_iff_getElem.1 hl
   obtain ⟨A',c',hc,hr,h1,h2⟩:=hvs i hi
   exact h1
theorem open_state {fuel:Nat} {cs:List Value} {x:DataW H×List MemPlace} (h:DataW.trod enc Tryz.prog w 0 (fun _=>true) held fuel 32 cs=some x) (hw:∀ q∈x.1.weights Tryz.prog 32,q<=reachBytes) :
  ∃ (s:SS) (u0 u1 u2:Value),cs=[u0,u1,u2]/\SV w Any s (.agg #[u0,u1,u2]):=by
 have hts:=DataW.trod_struct Tryz.underlying32 h
 obtain ⟨xs,n,hfu,hx,hcl,hxl,hg⟩:=hts
 subst hx
 rw [cellsState] at hcl
 match cs,hcl with
 | [c0,c1,c2],_ =>
 match xs,hxl with
 | [y0,y1,y2],_ =>
 have g0:=hg 0 _ rfl
 have g1:=hg 1 _ rfl
 have g2:=hg 2 _ rfl
 have hw0:∀ q∈y0.1.weights Tryz.prog 29,q<=reachBytes:=fun q hq=>by
  refine hw q ?_
  simp only [List.map_cons,List.map_nil,DataW.weights,Tryz.underlying32]
  simp only [DataW.weightsEach,List.mem_append]
  exact .inl hq
 have hw1:∀ q∈y1.1.weights Tryz.prog 30,q<=reachBytes:=fun q hq=>by
  refine hw q ?_
  simp only [List.map_cons,List.map_nil,DataW.weights,Tryz.underlying32]
  simp only [DataW.weightsEach,List.mem_append]
  exact .inr (.inl hq)
 have hw2:∀ q∈y2.1.weights Tryz.prog 30,q<=reachBytes:=fun q hq=>by
  refine hw q ?_
  simp only [List.map_cons,List.map_nil,DataW.weights,Tryz.underlying32]
  simp only [DataW.weightsEach,List.mem_append]
  exact .inr (.inr (.inl hq))
 obtain ⟨A0,ls,k0,e0,hr0,hl0,hl0',hc0⟩:=open_rowII g0 hw0
 obtain ⟨A1,l1,k1,e1,hr1,hl1,hc1⟩:=open_rowI g1 hw1
 obtain ⟨A2,l2,k2,e2,hr2,hl2,hc2⟩:=open_rowI g2 hw2
 injection e0 with e0
 injection e1 with e1
 injection e2 with e2
 subst e0 e1 e2
 exact ⟨⟨ls,l1,l2⟩,_,_,_,rfl,A0,k0,A1,k1,A2,k2,rfl,hr0,hr1,hr2,hc0,hc1,hc2,hl0,hl0',hl1,hl2⟩
theorem state_in {W:World} {base:Nat} {v:Value} {d:DataW H} {p:List MemPlace} (hok:Value.okWide Tryz.prog W .any base 32 v)
  (h:DataW.Trod enc Tryz.prog W 0 (fun _=>true) true 32 v d p) (hw:∀ n∈d.weights Tryz.prog 32,n<=reachBytes):∃ s,SV W Any s v:=by
 obtain ⟨cs,rfl,hcs⟩:=okWide_struct Tryz.underlying32 hok
 obtain ⟨fuel,hf⟩:=h
 obtain ⟨s,u0,u1,u2,e,hs⟩:=open_state hf hw
 refine ⟨s,?_⟩
 have:cs = #[u0,u1,u2]:=by
  apply Array.ext'
  simpa [Value.cells] using e
 rw [this]
 exact hs
end
theorem cellsPr:Tryz.prog.cellsOf 61=6:=by kernel_rfl
theorem bytesPr:Tryz.prog.bytesOf 61=96:=by kernel_rfl
theorem cellsPg:Tryz.prog.cellsOf 28=6:=by kernel_rfl
section
variable {H:Type} {enc:TypeId×Value->H} {w:World} {held:Bool}
instance:Inhabited PR:=⟨⟨⟨#[]⟩,[],zeroT'⟩⟩
theorem open_proc {fuel:Nat} {cs:List Value} {x:DataW H×List MemPlace} (h:DataW.trod enc Tryz.prog w 0 (fun _=>true) held fuel 61 cs=some x) (hw:∀ q∈x.1.weights Tryz.prog 61,q<=reachBytes) :
  ∃ (r:PR) (A1:Option Addr) (c1:Nat) (A2:Option Addr) (c2:Nat),cs=[.string r.s,.slice A1 r.ps.length c1,.int .u8 r.b.k,.int .i64 r.b.n,.string r.b.s,.slice A2 r.b.ks.length c2]/\PrR w Any r A1 c1 A2 c2:=by
 have hts:=DataW.trod_struct Tryz.underlying61 h
 obtain ⟨xs,n,hfu,hx,hcl,hxl,hg⟩:=hts
 subst hx
 rw [cellsPr] at hcl
 match cs,hcl with
 | [c0,c1,c2,c3,c4,c5],_ =>
 match xs,hxl with
 | [y0,y1,y2],_ =>
 have g0:=hg 0 _ rfl
 have g1:=hg 1 _ rfl
 have g2:=hg 2 _ rfl
 have hw1:∀ q∈y1.1.weights Tryz.prog 22,q<=reachBytes:=fun q hq=>by
  refine hw q ?_
  simp only [List.map_cons,List.map_nil,DataW.weights,Tryz.underlying61]
  simp only [DataW.weightsEach,List.map_cons,List.map_nil,List.mem_append]
  exact .inr (.inl hq)
 have hw2:∀ q∈y2.1.weights Tryz.prog 26,q<=reachBytes:=fun q hq=>by
  refine hw q ?_
  simp only [List.map_cons,List.map_nil,DataW.weights,Tryz.underlying61]
  simp only [DataW.weightsEach,List.map_cons,List.map_nil,List.mem_append]
  exact .inr (.inr (.inl hq))
 obtain ⟨s,e0,_,ws⟩:=DataW.trod_string Tryz.underlying9 g0
 obtain ⟨A1,ps,k1,e1,hrow,hlp,hlc⟩:=open_vars g1 hw1
 obtain ⟨t,u0,u1,u2,u3,e2,hn,_,_⟩:=open_node _ _ _ g2 hw2
 obtain ⟨A2,k2,rfl,rfl,rfl,rfl,hn'⟩:=nv_parts hn
 injection e0 with e0
 injection e1 with e1
 change List.take (Tryz.prog.cellsOf 26) [c2,c3,c4,c5]=_ at e2
 rw [cellsNode] at e2
 simp only [List.take_succ_cons,List.take_zero,List.cons.injEq,and_true] at e2
 obtain ⟨rfl,rfl,rfl,rfl⟩:=e2
 subst e0 e1
 exact ⟨⟨s,ps,t⟩,A1,k1,A2,k2,rfl,ws,hrow,hlp,hlc,hn'⟩
theorem open_procs {fuel:Nat} {cs:List Value} {x:DataW H×List MemPlace} (h:DataW.trod enc Tryz.prog w 0 (fun _=>true) held fuel 23 cs=some x) (hw:∀ q∈x.1.weights Tryz.prog 23,q<=reachBytes) :
  ∃ (A:Option Addr) (ps:List PR) (c:Nat),cs=[.slice A ps.length c]/\RowP w Any A ps/\ps.length<=LV/\ps.length<=c:=by
 rcases open_row Tryz.underlying23 cellsPr bytesPr h hw with rfl|⟨a,len,cap,rfl,hl,hcap,hat⟩
 ·exact ⟨none,[],0,rfl,fun i hi=>absurd hi (by simp),Nat.zero_le _,Nat.zero_le _⟩
 ·obtain ⟨ps,hvl,hvs⟩:=choose_list (n:=len) (P:=fun i (r:PR)=>∃ A1 c1 A2 c2,w.cells? 0 (a.add (i*6)) 6=some [.string r.s,.slice A1 r.ps.length c1,.int .u8 r.b.k,.int .i64 r.b.n,.string r.b.s,.slice A2 r.b.ks.length c2]/\PrR w Any r A1 c1 A2 c2) fun i hi=>by
   obtain ⟨cs',y,n',hcs,ht,hwy⟩:=hat i hi
   obtain ⟨r,A1,c1,A2,c2,rfl,hr⟩:=open_proc ht hwy
   exact ⟨r,A1,c1,A2,c2,hcs,hr⟩
  refine ⟨some a,ps,cap,by rw [hvl],fun i hi=>?_,by unfold LV; unfold reachBytes at hcap; omega,by omega⟩
  obtain ⟨A1,c1,A2,c2,hc,hr⟩:=hvs i hi
  obtain ⟨_,_,hcell⟩:=World.cells?_some hc
  refine ⟨a,A1,c1,A2,c2,rfl,trivial,⟨?_,?_,?_,?_,?_,?_⟩,hr⟩
  ·have:=hcell 0 (by omega); simpa [Addr.add] using this
  ·have:=hcell 1 (by omega); simpa [Addr.add] using this
  ·have:=hcell 2 (by omega); simpa [Addr.add] using this
  ·have:=hcell 3 (by omega); simpa [Addr.add] using this
  ·have:=hcell 4 (by omega); simpa [Addr.add] using this
  ·have:=hcell 5 (by omega); simpa [Addr.add] using this
theorem open_prog {fuel:Nat} {cs:List Value} {x:DataW H×List MemPlace} (h:DataW.trod enc Tryz.prog w 0 (fun _=>true) held fuel 28 cs=some x) (hw:∀ q∈x.1.weights Tryz.prog 28,q<=reachBytes) :
  ∃ (p:PG) (A1:Option Addr) (c1:Nat) (A2:Option Addr) (c2:Nat) (A3:Option Addr) (c3:Nat),cs=[.slice A1 p.vs.length c1,.slice A2 p.prs.length c2,.int .u8 p.m.k,.int .i64 p.m.n,.string p.m.s,.slice A3 p.m.ks.length c3]/\PgR w Any p A1 c1 A2 c2 A3 c3:=by
 have hts:=DataW.trod_struct Tryz.underlying28 h
 obtain ⟨xs,n,hfu,hx,hcl,hxl,hg⟩:=hts
 subst hx
 rw [cellsPg] at hcl
 match cs,hcl with
 | [c0,c1,c2,c3,c4,c5],_ =>
 match xs,hxl with
 | [y0,y1,y2],_ =>
 have g0:=hg 0 _ rfl
 have g1:=hg 1 _ rfl
 have g2:=hg 2 _ rfl
 have hw0:∀ q∈y0.1.weights Tryz.prog 22,q<=reachBytes:=fun q hq=>by
  refine hw q ?_
  simp only [List.map_cons,List.map_nil,DataW.weights,Tryz.underlying28]
  simp only [DataW.weightsEach,List.map_cons,List.map_nil,List.mem_append]
  exact .inl hq
 have hw1:∀ q∈y1.1.weights Tryz.prog 23,q<=reachBytes:=fun q hq=>by
  refine hw q ?_
  simp only [List.map_cons,List.map_nil,DataW.weights,Tryz.underlying28]
  simp only [DataW.weightsEach,List.map_cons,List.map_nil,List.mem_append]
  exact .inr (.inl hq)
 have hw2:∀ q∈y2.1.weights Tryz.prog 26,q<=reachBytes:=fun q hq=>by
  refine hw q ?_
  simp only [List.map_cons,List.map_nil,DataW.weights,Tryz.underlying28]
  simp only [DataW.weightsEach,List.map_cons,List.map_nil,List.mem_append]
  exact .inr (.inr (.inl hq))
 obtain ⟨A1,vs,k1,e0,hrow,hlv,hlvc⟩:=open_vars g0 hw0
 obtain ⟨A2,ps,k2,e1,hrp,hlp,hlpc⟩:=open_procs g1 hw1
 obtain ⟨t,u0,u1,u2,u3,e2,hn,_,_⟩:=open_node _ _ _ g2 hw2
 obtain ⟨A3,k3,rfl,rfl,rfl,rfl,hn'⟩:=nv_parts hn
 injection e0 with e0
 injection e1 with e1
 change List.take (Tryz.prog.cellsOf 26) [c2,c3,c4,c5]=_ at e2
 rw [cellsNode] at e2
 simp only [List.take_succ_cons,List.take_zero,List.cons.injEq,and_true] at e2
 obtain ⟨rfl,rfl,rfl,rfl⟩:=e2
 subst e0 e1
 exact ⟨⟨vs,ps,t⟩,A1,k1,A2,k2,A3,k3,rfl,hrow,hlv,hlvc,hrp,hlp,hlpc,hn'⟩
end
theorem prog_in {H:Type} {enc:TypeId×Value->H} {W:World} {base:Nat} {v:Value} {d:DataW H} {p:List MemPlace} (hok:Value.okWide Tryz.prog W .any base 28 v)
  (h:DataW.Trod enc Tryz.prog W 0 (fun _=>true) true 28 v d p) (hw:∀ n∈d.weights Tryz.prog 28,n<=reachBytes):∃ g,PV W Any g v:=by
 obtain ⟨cs,rfl,hcs⟩:=okWide_struct Tryz.underlying28 hok
 obtain ⟨fuel,hf⟩:=h
 obtain ⟨g,A1,c1,A2,c2,A3,c3,e,hr⟩:=open_prog hf hw
 refine ⟨g,A1,c1,A2,c2,A3,c3,?_,hr⟩
 have:cs = #[.slice A1 g.vs.length c1,.slice A2 g.prs.length c2,.int .u8 g.m.k,.int .i64 g.m.n,.string g.m.s,.slice A3 g.m.ks.length c3]:=by
  apply Array.ext'
  simpa [Value.cells] using e
 rw [this]
end Go.Proofs.YtgnfpcebmefhoaaGreat
