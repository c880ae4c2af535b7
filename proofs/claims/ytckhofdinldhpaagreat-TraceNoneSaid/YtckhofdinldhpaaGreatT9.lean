/-
  Texts of the proof, put together without their remarks: Fa, ScK, Gf, Wfp, Trq, Rcp, Scl, Tri, Apn, Tel.
-/
import Derived.Test.YtckhofdinldhpaaGreatT8
set_option linter.unusedSimpArgs false
set_option linter.unusedVariables false
set_option maxHeartbeats 8000000
set_option maxRecDepth 100000
namespace Go.Proofs.YtckhofdinldhpaaGreat
open Go Go.RowKit
theorem isB_iff (k n:Int) (s:ByteArray) (ks:List T):isB (.nd k n s ks)=true↔k=57/\plainB n s=true/\∀ t∈ks,isS t=true:=by
 rw [isB]
 simp only [Bool.and_eq_true,decide_eq_true_eq,and_assoc]
 refine and_congr Iff.rfl (and_congr Iff.rfl ?_)
 rw [isSs_eq 0,kidsFrom_iff]
 constructor
 ·intro h t ht
  obtain ⟨q,hq,rfl⟩:=List.getElem_of_mem ht
  exact h q hq
 ·intro h q hq
  exact h _ (List.getElem_mem hq)
theorem isB_k {t:T} (h:isB t=true):t.k=57:=by cases t; exact ((isB_iff _ _ _ _).1 h).1
theorem mem_pos {x:T}:∀ {l:List T},x∈pos l↔∃ t∈l,x∈po t
 | []=>by simp [pos]
 | t::ts=>by simp [pos,mem_pos (l:=ts)]
theorem lims_eq:∀ (ks:List T),(∀ t∈ks,∀ d l,lim t d l=if dep t<=d/\size t<=l then some (l-size t) else none)->∀ d l,lims ks d l=if deps ks<=d/\sizes ks<=l then some (l-sizes ks) else none
 | [],_,d,l=>by simp [lims,deps,sizes]
 | t::ts,h,d,l=>by
  have e1:deps (t::ts)=max (dep t) (deps ts):=by rw [deps]
  have e2:sizes (t::ts)=size t+sizes ts:=by rw [sizes]
  rw [lims,h t (by simp) d l]
  by_cases h1:dep t<=d/\size t<=l
  ·rw [if_pos h1]
   simp only
   rw [lims_eq ts (fun u hu=>h u (by simp [hu])) d (l-size t)]
   by_cases h2:deps ts<=d/\sizes ts<=l-size t
   ·rw [if_pos h2,if_pos ⟨by omega,by omega⟩]; congr 1; omega
   ·rw [if_neg h2,if_neg (by omega)]
  ·rw [if_neg h1]; simp only; rw [if_neg (by omega)]
theorem lim_eq (t:T):∀ d l,lim t d l=if dep t<=d/\size t<=l then some (l-size t) else none:=by
 induction t using T.ind with
 | _ k n s ks ih =>
 intro d l
 have e1:dep (.nd k n s ks)=1+deps ks:=by rw [dep]
 have e2:size (.nd k n s ks)=1+sizes ks:=by rw [size]
 rw [lim]
 by_cases h:d=0\/l=0
 ·rw [if_pos h,if_neg (by omega)]
 ·rw [if_neg h,lims_eq ks ih]
  by_cases h2:deps ks<=d-1/\sizes ks<=l-1
  ·rw [if_pos h2,if_pos ⟨by omega,by omega⟩]; congr 1; omega
  ·rw [if_neg h2,if_neg (by omega)]
theorem isE_kids {k n:Int} {s:ByteArray} {ks:List T} (h:isE (.nd k n s ks)=true):∀ t∈ks,isE t=true:=by
 have key:isEs ks=true->∀ t∈ks,isE t=true:=by
  intro h t ht
  rw [isEs_eq 0,kidsFrom_iff] at h
  obtain ⟨i,hi,rfl⟩:=List.getElem_of_mem ht
  exact h i hi
 have nil:decide (ks.length=0)=true->∀ t∈ks,isE t=true:=by
  intro h t ht
  have:ks=[]:=by simpa using h
  rw [this] at ht; cases ht
 rw [isE] at h
 split at h
 ·simp only [Bool.and_eq_true] at h; exact nil h.2
 split at h
 ·simp only [Bool.and_eq_true] at h; exact nil h.2
 split at h
 ·simp only [Bool.and_eq_true] at h; exact key h.2.2
 split at h
 ·simp only [Bool.and_eq_true] at h; exact key h.2.2
 split at h
 ·simp only [Bool.and_eq_true] at h; exact key h.2.2
 ·cases h
theorem isP_E {t:T} (h:isP t=true):isE t=true:=by unfold isP at h; simp only [Bool.and_eq_true] at h; exact h.2
theorem isV_E {t:T} (h:isV t=true):isE t=true:=by unfold isV at h; simp only [Bool.and_eq_true] at h; exact h.2
theorem kidsB_mem {m:Nat} {p:Nat->T->Bool} {ks:List T} (h:kidsB m p ks=true) {t:T} (ht:t∈ks):∃ i,p i t=true:=by
 unfold kidsB at h
 simp only [Bool.and_eq_true] at h
 have:=(kidsFrom_iff p 0 ks).1 h.2
 obtain ⟨i,hi,rfl⟩:=List.getElem_of_mem ht
 exact ⟨0+i,this i hi⟩
theorem isEB_mem {d:Nat} {ks:List T} (h:isEB d ks=true) {t:T} (ht:t∈ks):isE t=true\/isB t=true:=by
 have h':isEB (d+0) ks=true:=h
 rw [isEB_eq d 0] at h'
 have:=(kidsFrom_iff _ 0 ks).1 h'
 obtain ⟨i,hi,rfl⟩:=List.getElem_of_mem ht
 have h2:=this i hi
 unfold pEB at h2
 split at h2
 ·exact .inl h2
 ·exact .inr h2
theorem isS_EB {k n:Int} {s:ByteArray} {ks:List T} (h:isS (.nd k n s ks)=true):k≠57/\∀ t∈ks,isE t=true\/isB t=true:=by
 rw [isS] at h
 split at h
 ·rename_i hk
  simp only [Bool.and_eq_true] at h
  refine ⟨by omega,fun t ht=>?_⟩
  obtain ⟨i,hi⟩:=kidsB_mem h.2 ht
  split at hi
  ·exact .inl (isP_E hi)
  ·exact .inl hi
 split at h
 ·rename_i hk
  simp only [Bool.and_eq_true] at h
  refine ⟨by omega,fun t ht=>?_⟩
  obtain ⟨i,hi⟩:=kidsB_mem h.2 ht
  exact .inl (isP_E hi)
 split at h
 ·rename_i hk
  simp only [Bool.and_eq_true] at h
  refine ⟨by omega,fun t ht=>?_⟩
  obtain ⟨i,hi⟩:=kidsB_mem h.2 ht
  exact .inl (isP_E hi)
 split at h
 ·rename_i hk
  simp only [Bool.and_eq_true] at h
  refine ⟨by omega,fun t ht=>?_⟩
  obtain ⟨i,hi⟩:=kidsB_mem h.2 ht
  exact .inl (isP_E hi)
 split at h
 ·rename_i hk
  simp only [Bool.and_eq_true] at h
  refine ⟨by omega,fun t ht=>?_⟩
  have:=(kidsFrom_iff _ 0 ks).1 h.2
  obtain ⟨i,hi,rfl⟩:=List.getElem_of_mem ht
  exact .inl (isV_E (this i hi))
 split at h
 ·rename_i hk
  simp only [Bool.and_eq_true] at h
  exact ⟨by omega,fun t ht=>isEB_mem h.2.2 ht⟩
 split at h
 ·rename_i hk
  simp only [Bool.and_eq_true] at h
  exact ⟨by omega,fun t ht=>isEB_mem h.2.2 ht⟩
 split at h
 ·rename_i hk
  simp only [Bool.and_eq_true] at h
  exact ⟨by omega,fun t ht=>isEB_mem h.2.2 ht⟩
 ·cases h
theorem isS_cases {k n:Int} {s:ByteArray} {ks:List T} (h:isS (.nd k n s ks)=true) :
  ((k≠52/\k≠53/\k≠54/\k≠55/\k≠57)/\∀ t∈ks,t.k≠57) \/
  ((k=52\/k=53)/\plainB n s=true/\∃ a b c d,ks=[a,b,c,d]/\isE a=true/\isB b=true/\isB c=true/\isE d=true) \/
  (k=54/\namedB n s=true/\∃ a b c,ks=[a,b,c]/\isE a=true/\isB b=true/\isE c=true) \/
  (k=55/\namedB n s=true/\∃ b,ks=[b]/\isB b=true):=by
 have key:∀ (p:Nat->T->Bool),(∀ j t,p j t=true->t.k≠57)->kidsFrom p 0 ks=true->∀ t∈ks,t.k≠57:=by
  intro p hp hk t ht
  obtain ⟨q,hq,rfl⟩:=List.getElem_of_mem ht
  exact hp _ _ ((kidsFrom_iff p 0 ks).1 hk q hq)
 have kE:∀ t,isE t=true->t.k≠57:=fun t h1=>by have:=isE_k t h1; omega
 rw [isS] at h
 repeat' split at h
 ·simp only [kidsB,Bool.and_eq_true] at h
  exact .inl ⟨by omega,key _ (fun j t hj=>by split at hj; exact isP_k t hj; exact kE t hj) h.2.2⟩
 ·simp only [kidsB,Bool.and_eq_true] at h; exact .inl ⟨by omega,key _ (fun j t=>isP_k t) h.2.2⟩
 ·simp only [kidsB,Bool.and_eq_true] at h; exact .inl ⟨by omega,key _ (fun j t=>isP_k t) h.2.2⟩
 ·simp only [kidsB,Bool.and_eq_true] at h; exact .inl ⟨by omega,key _ (fun j t=>isP_k t) h.2.2⟩
 ·simp only [Bool.and_eq_true] at h; exact .inl ⟨by omega,key _ (fun j t=>isV_k t) h.2⟩
 ·rename_i hk
  simp only [Bool.and_eq_true,decide_eq_true_eq] at h
  obtain ⟨h1,h2,h3⟩:=h
  match ks,h2 with
  | [a,b,c,d],_ =>
   simp only [isEB,Bool.and_eq_true,Bool.and_true] at h3
   simp at h3
   exact .inr (.inl ⟨hk,h1,a,b,c,d,rfl,h3.1,h3.2.1,h3.2.2.1,h3.2.2.2⟩)
 ·rename_i hk
  simp only [Bool.and_eq_true,decide_eq_true_eq] at h
  obtain ⟨h1,h2,h3⟩:=h
  match ks,h2 with
  | [a,b,c],_ =>
   simp only [isEB,Bool.and_eq_true,Bool.and_true] at h3
   simp at h3
   exact .inr (.inr (.inl ⟨hk,h1,a,b,c,rfl,h3.1,h3.2.1,h3.2.2⟩))
 ·rename_i hk
  simp only [Bool.and_eq_true,decide_eq_true_eq] at h
  obtain ⟨h1,h2,h3⟩:=h
  match ks,h2 with
  | [b],_ =>
   simp only [isEB,Bool.and_eq_true,Bool.and_true] at h3
   simp at h3
   exact .inr (.inr (.inr ⟨hk,h1,b,rfl,h3⟩))
 ·cases h
section
variable {P:Program} {ops:Array Oper} {Q:Exit->Act->World->Prop} {md:Region.Mode} {S1 S2:World->Prop} {k:Nat}
theorem wpG_two {i j:Nat} {o o':Oper} {fuel:Nat} {listed:Array Bool} {a:Act} {w:World} (hr:Region.ready md ops listed=[i,j]) (ho:ops[i]?=some o) (ho':ops[j]?=some o')
  (h:∀ K':Act->World->Prop,Shut (∀ a w,S1 w/\S2 w->wpG P md ops Q S1 S2 k fuel (listed.setIfInBounds i true) a w->K' a w)->if Region.wanted o (yielded ops a.tmps)=true then Oper.wp P o a w K' Q else K' (a.put o.dst undef) w)
  (h':∀ K':Act->World->Prop,Shut (∀ a w,S1 w/\S2 w->wpG P md ops Q S1 S2 k fuel (listed.setIfInBounds j true) a w->K' a w)->if Region.wanted o' (yielded ops a.tmps)=true then Oper.wp P o' a w K' Q else K' (a.put o'.dst undef) w) :
  wpG P md ops Q S1 S2 k (fuel+1) listed a w:=by
 refine ⟨(fun h0=>by rw [hr] at h0; cases h0),fun x hx=>?_⟩
 rw [hr] at hx
 simp only [List.mem_cons,List.not_mem_nil,or_false] at hx
 rcases hx with rfl|rfl
 ·exact wpOp_step ho fun K' hK=>h K' fun a w hS hW=>hK a w ⟨⟨hS.1,fun _=>hS.2⟩,hW⟩
 ·exact wpOp_step ho' fun K' hK=>h' K' fun a w hS hW=>hK a w ⟨⟨hS.1,fun _=>hS.2⟩,hW⟩
end
def frsN (vs:List VD):Nat->Nat
 | 0=>0
 | j+1=>frsN vs j+(if h:j<vs.length then one1 (freshE (vs.take j) vs[j].s) else 0)
theorem frsN_succ {vs:List VD} {j:Nat} (h:j<vs.length):frsN vs (j+1)=frsN vs j+one1 (freshE (vs.take j) vs[j].s):=by simp [frsN,h]
theorem frsN_le (vs:List VD):∀ j,frsN vs j<=j
 | 0=>by simp [frsN]
 | j+1=>by
  have h:=frsN_le vs j
  rw [frsN]
  split
  ·have:=one1_le (freshE (vs.take j) vs[j].s); omega
  ·omega
def prcE (ps:List PR) (j:Nat) (r:PR):Nat:=one1 (if procE ps r.s<(j:Int) then 22 else 0)+frsN r.ps r.ps.length+cntV ps r.b r.ps
def prcN (ps:List PR):Nat->Nat
 | 0=>0
 | j+1=>prcN ps j+(if h:j<ps.length then prcE ps j ps[j] else 0)
theorem prcN_succ {ps:List PR} {j:Nat} (h:j<ps.length):prcN ps (j+1)=prcN ps j+prcE ps j ps[j]:=by simp [prcN,h]
def chkN (p:PG):Nat:=frsN p.vs p.vs.length+prcN p.prs p.prs.length+cntV p.prs p.m p.vs
theorem valid_body {t:T} (h:isBodyB t=true):dep t<=80/\size t<=2000:=by
 simp only [isBodyB,Bool.and_eq_true] at h
 have h1:=h.1
 rw [lim_eq] at h1
 split at h1
 ·assumption
 ·simp at h1
theorem valid_bounds {p:PG} (h:validB p=true):p.vs.length<=32/\p.prs.length<=64/\(∀ r∈p.prs,r.ps.length<=8/\dep r.b<=80/\size r.b<=2000)/\dep p.m<=80/\size p.m<=2000:=by
 simp only [validB,Bool.and_eq_true,decide_eq_true_eq,List.all_eq_true] at h
 refine ⟨h.1.1.1.1,h.1.1.1.2,fun r hr=>?_,valid_body h.2⟩
 have:=h.1.2 r hr
 simp only [procB,Bool.and_eq_true,decide_eq_true_eq] at this
 exact ⟨this.1.1.2,valid_body this.2⟩
theorem prcN_le (ps:List PR) (h:∀ r∈ps,r.ps.length<=8/\dep r.b<=80/\size r.b<=2000):∀ j,prcN ps j<=j*2009
 | 0=>by simp [prcN]
 | j+1=>by
  have h1:=prcN_le ps h j
  rw [prcN]
  split
  ·rename_i hj
   have h2:=h _ (List.getElem_mem hj)
   have h3:=one1_le (if procE ps ps[j].s<(j:Int) then 22 else 0)
   have h4:=frsN_le ps[j].ps ps[j].ps.length
   have h5:=cntV_le ps ps[j].b ps[j].ps
   unfold prcE
   omega
  ·omega
theorem RowV.take {w:World} {S:Nat->Prop} {A:Option Addr} {vs:List VD} (h:RowV w S A vs) (j:Nat):RowV w S A (vs.take j):=fun i hi=>by
 have h1:i<vs.length:=by simp at hi; omega
 obtain ⟨a,h2,h3,h4,h5⟩:=h i h1
 exact ⟨a,h2,h3,by simpa using h4,by simpa using h5⟩
theorem RowI.nil {w:World} {S:Nat->Prop} {A:Option Addr}:RowI w S A []:=fun i hi=>by simp at hi
theorem rowI_new1 (w:World) (j:Int) (hj:I64 j):RowI (w.alloc (.cells #[.int .i64 j] 3)) Any (some ⟨w.heap.size,0,none⟩) [j]:=fun i hi=>by
 simp only [List.length_singleton,Nat.lt_one_iff] at hi
 subst hi
 exact ⟨_,rfl,trivial,news_newN w 3 [.int .i64 j] 0 _ rfl,hj⟩
theorem report_cat (n0 fb N:Nat) (pv:Value) (pr er:Int) (q:List Int) (A:Option Addr) (c:Nat) (s:ByteArray) (S:Nat->Prop) (W:World) (hfs:FS W n0 fb N pv) (hq:RowI W S A q) (hql:q.length<=100000) (hN:N<=1000000) :
  Calls Tryz.prog 92 ([.int .i64 pr,.slice A q.length c,.string s,.int .i64 er].toArray ++ #[.pointer (some ⟨fb,0,none⟩)]) W (RepP W n0 fb pv (N+one1 er)):=by
 simpa using report_any n0 fb N pv pr er q A c s S W hfs hq hql hN
theorem VsI.chg2 {Rd:World->Prop} {n0 fb:Nat} {Wb wr wk w':World} {pv pv':Value} {N:Nat} (h:VsI Rd n0 fb Wb pv N wr pv') (hb:Below wr.heap.size wr wk) (hc:Chg (fun b=>b=fb\/pv'.ownBlock=some b) wk w'):Chg (fun b=>b=fb\/pv.ownBlock=some b) Wb w' :=
 (h.chg.trans (Chg.of_below hb)).trans2 hc fun b hlt hh=>by
  rcases hh with hh|hh
  ·exact .inl hh
  ·rcases h.own b hh with h1|h1
   ·exact .inr h1
   ·omega
theorem VsI.stepK {Rd:World->Prop} {n0 fb:Nat} {Wb wr w5 W6:World} {pv pv':Value} {N N':Nat} {e:Ending} (hk:∀ W W' pv N,Rd W->FS W n0 fb N pv->Chg (fun b=>b=fb\/pv.ownBlock=some b) W W'->Rd W') (h:VsI Rd n0 fb Wb pv N wr pv') (hb:Below wr.heap.size wr w5) (hp:RepP w5 n0 fb pv' N' e W6) :
  ∃ pv'',VsI Rd n0 fb Wb pv N' W6 pv'':=by
 obtain ⟨_,pv'',hfs,hob,hc⟩:=hp
 have hfs5:=h.fs.later hb
 have hz:=h.chg.size
 have hz5:=hb.size
 refine ⟨pv'',hk w5 W6 pv' N (hk wr w5 pv' N h.rd h.fs (Chg.of_below hb)) hfs5 hc,hfs,fun b hb'=>?_,h.chg2 hb hc⟩
 rcases hob b hb' with h1|h1
 ·exact h.own b h1
 ·exact .inr (by omega)
theorem fresh_take (vs:List VD) (j:Nat) (hj:j<=vs.length) (A:Option Addr) (c:Nat) (s:ByteArray) (S:Nat->Prop) (w:World) (hrow:RowV w S A vs) (hl:vs.length<=LV) :
  Calls Tryz.prog 93 #[.slice A j c,.string s] w fun e w'=>e=.returned (.int .i64 (freshE (vs.take j) s))/\Below w.heap.size w w':=by
 have h:=fresh_any (vs.take j) A c s S w (hrow.take j) (by simp; omega)
 rwa [show (vs.take j).length=j by simp; omega] at h
theorem fnFresh:IsFn Tryz.prog 93 Tryz.f93:=⟨Tryz.func93,by kernel_rfl,by kernel_rfl⟩
theorem fnSProc:IsFn Tryz.prog 94 Tryz.f94:=⟨Tryz.func94,by kernel_rfl,by kernel_rfl⟩
theorem fnChk1:IsFn Tryz.prog 92 Tryz.f92:=⟨Tryz.func92,by kernel_rfl,by kernel_rfl⟩
theorem SCheck_any (p:PG) (S:Nat->Prop) (v:Value) (W:World) (hv:PV W S p v):Calls Tryz.prog 53 #[v] W fun e w'=>∃ A c,e=.returned (.slice A (if validB p=true then chkN p else 0) c)/\Below W.heap.size W w':=by
 obtain ⟨NN,hNN⟩:∃ NN,(if validB p=true then chkN p else 0)=NN:=⟨_,rfl⟩
 rw [hNN]
 have HNN:=zh hNN
 clear hNN
 have hvv:=hv
 obtain ⟨A1,c1,A2,c2,A3,c3,rfl,hr⟩:=hv
 have hlv:=LV_int hr.lv
 have hlp:=LV_int hr.lp
 obtain ⟨L1,hL1⟩:∃ L,p.vs.length=L:=⟨_,rfl⟩
 obtain ⟨L2,hL2⟩:∃ L,p.prs.length=L:=⟨_,rfl⟩
 obtain ⟨k,hk⟩:∃ k,p.m.k=k:=⟨_,rfl⟩
 obtain ⟨n,hn⟩:∃ n,p.m.n=n:=⟨_,rfl⟩
 obtain ⟨s,hs⟩:∃ s,p.m.s=s:=⟨_,rfl⟩
 obtain ⟨l3,hl3⟩:∃ l,p.m.ks.length=l:=⟨_,rfl⟩
 rw [hL1,hL2,hk,hn,hs,hl3]
 rw [hL1,hL2,hk,hn,hs,hl3] at hvv
 rw [hL1] at hlv
 rw [hL2] at hlp
 have HV0:=zh hvv
 have HR:=zh hr
 have HL1:=zh hL1
 have HL2:=zh hL2
 have HMM:=zh (show p.m.k=k/\p.m.n=n/\p.m.s=s/\p.m.ks.length=l3 from ⟨hk,hn,hs,hl3⟩)
 clear hvv hr hL1 hL2 hk hn hs hl3
 go_enter Tryz.func53,Tryz.ntmps53
 go_wp2_with fail
 refine (Valid_any p S _ _ (HV0.out.later (bl_al (Below.refl _ _) _))).mono ?_
 rintro e w1 ⟨rfl,bw1⟩
 have b1:Below W.heap.size W w1:=bl_tt (bl_al (Below.refl _ _) _) bw1
 have hp1:=(bw1.block W.heap.size (by simp)).trans (heap_alloc_new W (.cells #[.slice A1 L1 c1,.slice A2 L2 c2,.int .u8 k,.int .i64 n,.string s,.slice A3 l3 c3] 35))
 have hz1:=bw1.size
 simp only [World.size_alloc] at hz1
 have HB1:=zh b1
 have HP1:=zh hp1
 have HZ1:=zh hz1
 obtain ⟨a0,a1,a2,a3,a4,a5⟩:=box6 hp1
 clear bw1 b1 hp1
 cases hvb:validB p
 ·have hN0:NN=0:=by rw [<-HNN.out,hvb]; rfl
  subst hN0
  go_wp2_with fail
  go_ret
  exact ⟨none,0,rfl,HB1.out⟩
 ·have HVB:=zh (valid_bounds hvb)
  have HNN2:=zh (show chkN p=NN by rw [<-HNN.out,hvb]; rfl)
  clear hvb HNN
  go_upto_region 5 with fail
  obtain ⟨fb,hfb⟩:∃ fb,w1.heap.size=fb:=⟨_,rfl⟩
  rw [hfb]
  have hzf:W.heap.size+1<=fb:=by omega
  have hbw:Below W.heap.size W ((w1.alloc (.cells #[.slice none 0 0] 106)).alloc (.cells #[.func (.func 92) #[] #[.pointer (some ⟨fb,0,none⟩)]] 155)):=bl_al (bl_al HB1.out _) _
  have hbF:=blk_al (heap_alloc_new w1 (.cells #[.slice none 0 0] 106)) (.cells #[.func (.func 92) #[] #[.pointer (some ⟨fb,0,none⟩)]] 155)
  have hbR:=heap_alloc_new (w1.alloc (.cells #[.slice none 0 0] 106)) (.cells #[.func (.func 92) #[] #[.pointer (some ⟨fb,0,none⟩)]] 155)
  simp only [World.size_alloc] at hbR
  rw [hfb] at hbF hbR
  have hbP:=blk_al (blk_al HP1.out (.cells #[.slice none 0 0] 106)) (.cells #[.func (.func 92) #[] #[.pointer (some ⟨fb,0,none⟩)]] 155)
  obtain ⟨Wb,hWb⟩:∃ Wb,(w1.alloc (.cells #[.slice none 0 0] 106)).alloc (.cells #[.func (.func 92) #[] #[.pointer (some ⟨fb,0,none⟩)]] 155)=Wb:=⟨_,rfl⟩
  rw [hWb] at hbw hbF hbR hbP ⊢
  have HZB:=zh (show Wb.heap.size=fb+2 by rw [<-hWb,<-hfb]; simp)
  have HBW:=zh hbw
  have HZF:=zh hzf
  clear hWb hfb a0 a1 a2 a3 a4 a5 HP1 HZ1 HB1 hz1
  have hrep:=Chk3_rep fb fb (fb+1) W.heap.size A1 L1 c1 A2 L2 c2 k n s A3 l3 c3
  obtain ⟨Rd,hRd⟩:∃ Rd:World->Prop,(fun W':World=>W'.heap[fb+1]?=some (.cells #[.func (.func 92) #[] #[.pointer (some ⟨fb,0,none⟩)]] 155 (0,0))/\W'.heap[W.heap.size]?=some (.cells #[.slice A1 L1 c1,.slice A2 L2 c2,.int .u8 k,.int .i64 n,.string s,.slice A3 l3 c3] 35 (0,0)))=Rd:=⟨_,rfl⟩
  rw [hRd] at hrep
  have HREP:=zh hrep
  have HRD:=zh (show ∀ w':World,Rd w'->w'.heap[fb+1]?=some (.cells #[.func (.func 92) #[] #[.pointer (some ⟨fb,0,none⟩)]] 155 (0,0))/\w'.heap[W.heap.size]?=some (.cells #[.slice A1 L1 c1,.slice A2 L2 c2,.int .u8 k,.int .i64 n,.string s,.slice A3 l3 c3] 35 (0,0)) from fun w' h=>by rw [<-hRd] at h; exact h)
  have HCC:=zh (show ∀ w':World,Rd w'->(fun w':World=>(w'.cell? ⟨W.heap.size,0,none⟩=some (.slice A1 L1 c1)/\w'.cell? ⟨W.heap.size,1,none⟩=some (.slice A2 L2 c2)/\w'.cell? ⟨W.heap.size,2,none⟩=some (.int .u8 k)/\w'.cell? ⟨W.heap.size,3,none⟩=some (.int .i64 n)/\w'.cell? ⟨W.heap.size,4,none⟩=some (.string s)/\w'.cell? ⟨W.heap.size,5,none⟩=some (.slice A3 l3 c3))/\(w'.cell? ⟨fb+1,0,none⟩=some (.func (.func 92) #[] #[.pointer (some ⟨fb,0,none⟩)]))) w' from fun w' h=>⟨box6 (HRD.out w' h).2,zc (HRD.out w' h).1 rfl⟩)
  have HI0:=zh (show VsI Rd fb fb Wb (.slice none 0 0) 0 Wb (.slice none 0 0) from ⟨by rw [<-hRd]; exact ⟨hbR,hbP⟩,⟨hbF,⟨[],World.ownsRow_nil _ _ _ _⟩,Nat.le_refl _,by simp [Value.ownBlock]⟩,fun b hb=>.inl hb,Chg.refl _ _⟩)
  have HKB:=zh (show ∀ w':World,Chg (fun b=>b=fb\/(Value.slice none 0 0).ownBlock=some b) Wb w'->∀ b,S b->b<W.heap.size->w'.heap[b]?=W.heap[b]? from fun w' h b hb hlt=>(h.block b (by have:=HZB.out; omega) (fun hh=>by rcases hh with hh|hh; omega; simp [Value.ownBlock] at hh)).trans (HBW.out.block b hlt))
  have HD:=zh (show ∀ w':World,Chg (fun b=>b=fb\/(Value.slice none 0 0).ownBlock=some b) Wb w'->PV w' (fun b=>S b/\b<W.heap.size) p _/\PgR w' (fun b=>S b/\b<W.heap.size) p A1 c1 A2 c2 A3 c3 from fun w' h=>⟨HV0.out.keep (fun b hb hlt=>⟨hb,hlt⟩) (HKB.out w' h),HR.out.keep (fun b hb hlt=>⟨hb,hlt⟩) (HKB.out w' h)⟩)
  have hl32:L1<=32:=by have:=HVB.out.1; rw [HL1.out] at this; exact this
  have hl64:L2<=64:=by have:=HVB.out.2.1; rw [HL2.out] at this; exact this
  have hlc1:L1<=c1:=by have:=HR.out.lvc; rw [HL1.out] at this; exact this
  have hlc2:L2<=c2:=by have:=HR.out.lpc; rw [HL2.out] at this; exact this
  obtain ⟨⟨a0,a1,a2,a3,a4,a5⟩,ar⟩:=HCC.out _ HI0.out.rd
  clear hrep hRd hbR hbP hbF hbw
  go_wp2_with fail
  go_loopw [18] (fun i wr=>∃ (j:Nat) (pv':Value),j<=L1/\i=.int .i64 j/\VsI Rd fb fb Wb (.slice none 0 0) (frsN p.vs j) wr pv') (fun i _=>L1-(intOf i).toNat)
  case atStart=>exact ⟨0,_,Nat.zero_le _,rfl,HI0.out⟩
  case round =>
   obtain ⟨j,pv',hj,rfl,hinv⟩:=hrel
   have HINV:=zh hinv
   clear HI0 a0 a1 a2 a3 a4 a5 ar
   by_cases hlt:j<L1
   ·have hltp:j<p.vs.length:=by rw [HL1.out]; exact hlt
    obtain ⟨a,u,rfl,hsa,Hu,⟨q0,q1,q2⟩,hfu⟩:=(HD.out wr hinv.chg).2.vars.nd hltp
    have hjc:(j:Int)<=(c1:Int):=by omega
    have hj0:(0:Int)<=(j:Int):=by omega
    obtain ⟨⟨a0,a1,a2,a3,a4,a5⟩,ar⟩:=HCC.out _ hinv.rd
    clear hinv hsa hfu
    go_upto_region 8 with fail
    have hbk:Below wr.heap.size wr (wr.alloc (.cells #[.string u.s,.int .u8 u.k,.int .i64 u.n] 83)):=bl_al (Below.refl _ _) _
    have hbU:=heap_alloc_new wr (.cells #[.string u.s,.int .u8 u.k,.int .i64 u.n] 83)
    obtain ⟨wk,hwk⟩:∃ wk,wr.alloc (.cells #[.string u.s,.int .u8 u.k,.int .i64 u.n] 83)=wk:=⟨_,rfl⟩
    rw [hwk] at hbk hbU ⊢
    have HZK:=zh (show wk.heap.size=wr.heap.size+1 by rw [<-hwk]; simp)
    have HBK:=zh hbk
    have HBU:=zh hbU
    clear hwk hbk hbU a0 a1 a2 a3 a4 a5 ar q0 q1 q2
    have HRW:=zh (show ∀ w':World,Below wk.heap.size wk w'->Rd w' from fun w' h=>HREP.out.keep _ _ _ _ HINV.out.rd HINV.out.fs (Chg.of_below (bl_tt HBK.out h)))
    have HCK:=zh (show ∀ w':World,Below wk.heap.size wk w'->(fun w':World=>((w'.cell? ⟨W.heap.size,0,none⟩=some (.slice (some a) L1 c1)/\w'.cell? ⟨W.heap.size,1,none⟩=some (.slice A2 L2 c2)/\w'.cell? ⟨W.heap.size,2,none⟩=some (.int .u8 k)/\w'.cell? ⟨W.heap.size,3,none⟩=some (.int .i64 n)/\w'.cell? ⟨W.heap.size,4,none⟩=some (.string s)/\w'.cell? ⟨W.heap.size,5,none⟩=some (.slice A3 l3 c3))/\(w'.cell? ⟨fb+1,0,none⟩=some (.func (.func 92) #[] #[.pointer (some ⟨fb,0,none⟩)])))/\(w'.cell? ⟨wr.heap.size,0,none⟩=some (.string u.s)/\w'.cell? ⟨wr.heap.size,1,none⟩=some (.int .u8 u.k)/\w'.cell? ⟨wr.heap.size,2,none⟩=some (.int .i64 u.n))) w'/\(fun _:World=>True) w' from fun w' h=>⟨⟨HCC.out _ (HRW.out w' h),box3 ((h.block _ (by have:=HZK.out; omega)).trans HBU.out)⟩,trivial⟩)
    have hdr:=(Below.refl wk.heap.size wk).drew
    have hSS:=HCK.out _ hdr
    have hbI:=buildI1
    have hN:=frsN_le p.vs j
    refine wp_region_noPanic ?_
    refine wp_region_G (fun w':World=>((w'.cell? ⟨W.heap.size,0,none⟩=some (.slice (some a) L1 c1)/\w'.cell? ⟨W.heap.size,1,none⟩=some (.slice A2 L2 c2)/\w'.cell? ⟨W.heap.size,2,none⟩=some (.int .u8 k)/\w'.cell? ⟨W.heap.size,3,none⟩=some (.int .i64 n)/\w'.cell? ⟨W.heap.size,4,none⟩=some (.string s)/\w'.cell? ⟨W.heap.size,5,none⟩=some (.slice A3 l3 c3))/\(w'.cell? ⟨fb+1,0,none⟩=some (.func (.func 92) #[] #[.pointer (some ⟨fb,0,none⟩)])))/\(w'.cell? ⟨wr.heap.size,0,none⟩=some (.string u.s)/\w'.cell? ⟨wr.heap.size,1,none⟩=some (.int .u8 u.k)/\w'.cell? ⟨wr.heap.size,2,none⟩=some (.int .i64 u.n))) (fun _:World=>True) 40 (by kernel_rfl) ?_
    refine zT 0 hSS ?_
    (try simp only [Act.put,zP])
    refine zT 1 hSS ?_
    (try simp only [Act.put,zP])
    refine zT 3 hSS ?_
    (try simp only [Act.put,zP])
    refine zT 4 hSS ?_
    (try simp only [Act.put,zP])
    refine zT 5 hSS ?_
    (try simp only [Act.put,zP])
    refine zT 6 hSS ?_
    (try simp only [Act.put,zP])
    refine zT 7 hSS ?_
    (try simp only [Act.put,zP])
    refine zT 8 hSS ?_
    (try simp only [Act.put,zP])
    refine zT 9 hSS ?_
    (try simp only [Act.put,zP])
    refine zT 10 hSS ?_
    (try simp only [Act.put,zP])
    refine wpG_two (i:=2) (j:=11) (by kernel_rfl) rfl rfl (fun K hK=>?_) (fun K hK=>?_)
    ·(try simp only [zA,zB,zC])
     go_simp
     have b2:=bl_al hdr (.cells #[.int .i64 (j:Int)] 3)
     refine hK.out _ _ (HCK.out _ b2) ?_
     clear hK K
     (try simp only [Act.put,zP])
     refine wpG_one (i:=11) (by kernel_rfl) rfl (fun K hK=>?_)
     refine step_callL (by rfl) (.func 93) [.tmp 31,.tmp 33] _ (by rfl) 93 _ fnFresh (by rfl) _ (by rfl) _ (isW_of (fresh_take p.vs j (by omega) (some a) c1 u.s _ _ (HD.out _ (HINV.out.chg.trans (Chg.of_below (bl_tt HBK.out b2)))).2.vars HR.out.lv)) ?_
     rintro vq w3 ⟨rfl,bw3⟩
     have b3:=bl_tt b2 bw3
     refine hK.out _ _ (HCK.out _ b3) ?_
     clear hK K
     (try simp only [Act.put,zP])
     refine wpG_one (i:=12) (by kernel_rfl) rfl (fun K hK=>?_)
     refine step_callC (by rfl) (.tmp 23) [.const (.int .i64 (-1)),.tmp 25,.tmp 27,.tmp 34] _ (by rfl) 92 _ fnChk1 #[.pointer (some ⟨fb,0,none⟩)] (by rfl) _ (by rfl) _ (repV_of (report_cat fb fb _ pv' (-1) _ [(j:Int)] (some ⟨wk.heap.size,0,none⟩) 1 u.s _ _ (HINV.out.fs.later (bl_tt HBK.out b3)) (((rowI_new1 _ (j:Int) ⟨by omega,by omega⟩).later (Below.refl _ _).drew).later bw3) (by simp) (by omega))) ?_
     rintro vq W6 hp
     obtain ⟨pv6,hi6⟩:=HINV.out.step HREP.out (bl_tt HBK.out b3) hp
     have hi7:VsI Rd fb fb Wb (.slice none 0 0) (frsN p.vs (j+1)) W6 pv6:=by rw [frsN_succ hltp,Hu.out]; exact hi6
     have hSS6:(fun w':World=>((w'.cell? ⟨W.heap.size,0,none⟩=some (.slice (some a) L1 c1)/\w'.cell? ⟨W.heap.size,1,none⟩=some (.slice A2 L2 c2)/\w'.cell? ⟨W.heap.size,2,none⟩=some (.int .u8 k)/\w'.cell? ⟨W.heap.size,3,none⟩=some (.int .i64 n)/\w'.cell? ⟨W.heap.size,4,none⟩=some (.string s)/\w'.cell? ⟨W.heap.size,5,none⟩=some (.slice A3 l3 c3))/\(w'.cell? ⟨fb+1,0,none⟩=some (.func (.func 92) #[] #[.pointer (some ⟨fb,0,none⟩)])))/\(w'.cell? ⟨wr.heap.size,0,none⟩=some (.string u.s)/\w'.cell? ⟨wr.heap.size,1,none⟩=some (.int .u8 u.k)/\w'.cell? ⟨wr.heap.size,2,none⟩=some (.int .i64 u.n))) W6/\(fun _:World=>True) W6:=⟨⟨HCC.out _ hi7.rd,box3 ((hp.2.elim fun _ h=>h.2.2.block _ (by have:=(bl_tt HBK.out b3).size; have:=(b3).size; have:=HZK.out; omega) (fun hh=>by have hl:=HINV.out.fs.lt; rcases hh with hh|hh; (have:=hl.1; omega); (have:=(hl.2 _ hh).2; omega))).trans (((b3).block _ (by have:=HZK.out; omega)).trans HBU.out))⟩,trivial⟩
     refine hK.out _ _ hSS6 ?_
     clear hK K
     (try simp only [Act.put,zP])
     refine wpG_done (by kernel_rfl) ?_
     refine NoPanic.normal ?_
     have HI7:=zh hi7
     clear hi7 hi6 hp hSS6
     go_wp2_with fail
     go_roundw
     case rel=>exact ⟨j+1,_,by omega,by go_num,HI7.out⟩
     case measure=>simp [intOf]; omega
    ·skip
     refine step_callL (by rfl) (.func 93) [.tmp 31,.tmp 33] _ (by rfl) 93 _ fnFresh (by rfl) _ (by rfl) _ (isW_of (fresh_take p.vs j (by omega) (some a) c1 u.s _ _ (HD.out _ (HINV.out.chg.trans (Chg.of_below (bl_tt HBK.out hdr)))).2.vars HR.out.lv)) ?_
     rintro vq w2 ⟨rfl,bw2⟩
     have b2:=bl_tt hdr bw2
     refine hK.out _ _ (HCK.out _ b2) ?_
     clear hK K
     (try simp only [Act.put,zP])
     refine wpG_one (i:=2) (by kernel_rfl) rfl (fun K hK=>?_)
     (try simp only [zA,zB,zC])
     go_simp
     have b3:=bl_al b2 (.cells #[.int .i64 (j:Int)] 3)
     refine hK.out _ _ (HCK.out _ b3) ?_
     clear hK K
     (try simp only [Act.put,zP])
     refine wpG_one (i:=12) (by kernel_rfl) rfl (fun K hK=>?_)
     refine step_callC (by rfl) (.tmp 23) [.const (.int .i64 (-1)),.tmp 25,.tmp 27,.tmp 34] _ (by rfl) 92 _ fnChk1 #[.pointer (some ⟨fb,0,none⟩)] (by rfl) _ (by rfl) _ (repV_of (report_cat fb fb _ pv' (-1) _ [(j:Int)] (some ⟨w2.heap.size,0,none⟩) 1 u.s _ _ (HINV.out.fs.later (bl_tt HBK.out b3)) (rowI_new1 _ (j:Int) ⟨by omega,by omega⟩) (by simp) (by omega))) ?_
     rintro vq W6 hp
     obtain ⟨pv6,hi6⟩:=HINV.out.step HREP.out (bl_tt HBK.out b3) hp
     have hi7:VsI Rd fb fb Wb (.slice none 0 0) (frsN p.vs (j+1)) W6 pv6:=by rw [frsN_succ hltp,Hu.out]; exact hi6
     have hSS6:(fun w':World=>((w'.cell? ⟨W.heap.size,0,none⟩=some (.slice (some a) L1 c1)/\w'.cell? ⟨W.heap.size,1,none⟩=some (.slice A2 L2 c2)/\w'.cell? ⟨W.heap.size,2,none⟩=some (.int .u8 k)/\w'.cell? ⟨W.heap.size,3,none⟩=some (.int .i64 n)/\w'.cell? ⟨W.heap.size,4,none⟩=some (.string s)/\w'.cell? ⟨W.heap.size,5,none⟩=some (.slice A3 l3 c3))/\(w'.cell? ⟨fb+1,0,none⟩=some (.func (.func 92) #[] #[.pointer (some ⟨fb,0,none⟩)])))/\(w'.cell? ⟨wr.heap.size,0,none⟩=some (.string u.s)/\w'.cell? ⟨wr.heap.size,1,none⟩=some (.int .u8 u.k)/\w'.cell? ⟨wr.heap.size,2,none⟩=some (.int .i64 u.n))) W6/\(fun _:World=>True) W6:=⟨⟨HCC.out _ hi7.rd,box3 ((hp.2.elim fun _ h=>h.2.2.block _ (by have:=(bl_tt HBK.out b3).size; have:=(b3).size; have:=HZK.out; omega) (fun hh=>by have hl:=HINV.out.fs.lt; rcases hh with hh|hh; (have:=hl.1; omega); (have:=(hl.2 _ hh).2; omega))).trans (((b3).block _ (by have:=HZK.out; omega)).trans HBU.out))⟩,trivial⟩
     refine hK.out _ _ hSS6 ?_
     clear hK K
     (try simp only [Act.put,zP])
     refine wpG_done (by kernel_rfl) ?_
     refine NoPanic.normal ?_
     have HI7:=zh hi7
     clear hi7 hi6 hp hSS6
     go_wp2_with fail
     go_roundw
     case rel=>exact ⟨j+1,_,by omega,by go_num,HI7.out⟩
     case measure=>simp [intOf]; omega
   ·obtain rfl:L1=j:=by omega
    have HF1:=zh (show VsI Rd fb fb Wb (.slice none 0 0) (frsN p.vs p.vs.length) wr pv' by rw [HL1.out]; exact HINV.out)
    obtain ⟨⟨a0,a1,a2,a3,a4,a5⟩,ar⟩:=HCC.out _ hinv.rd
    obtain ⟨F1,hF1⟩:∃ F,frsN p.vs p.vs.length=F:=⟨_,rfl⟩
    have hF32:F1<=32:=by have:=frsN_le p.vs p.vs.length; have:=HVB.out.1; omega
    have HFE:=zh hF1
    rw [hF1] at HF1
    clear hinv HINV hF1 hj hlt
    go_wp2_with fail
    go_loopw [40] (fun i wr=>∃ (j:Nat) (pv':Value),j<=L2/\i=.int .i64 j/\VsI Rd fb fb Wb (.slice none 0 0) (F1+prcN p.prs j) wr pv') (fun i _=>L2-(intOf i).toNat)
    case atStart=>exact ⟨0,_,Nat.zero_le _,rfl,HF1.out⟩
    case round =>
     clear HF1 a0 a1 a2 a3 a4 a5 ar
     obtain ⟨j,pv',hj,rfl,hinv⟩:=hrel
     obtain ⟨w0,rfl⟩:∃ w0,w0=wr:=⟨_,rfl⟩
     have HINV:=zh hinv
     by_cases hlt:j<L2
     ·have hltp:j<p.prs.length:=by rw [HL2.out]; exact hlt
      obtain ⟨a,r,P1,d1,P2,d2,rfl,hsa,Hr,⟨q0,q1,q2,q3,q4,q5⟩,hpr⟩:=(HD.out w0 hinv.chg).2.procs.nd hltp
      obtain ⟨⟨a0,a1,a2,a3,a4,a5⟩,ar⟩:=HCC.out _ hinv.rd
      have HPR:=zh hpr
      clear hinv hsa hpr
      go_upto_region 13 with fail
      have hbk:Below w0.heap.size w0 ((w0.alloc (.cells #[.int .i64 (j:Int)] 3)).alloc (.cells #[.string r.s,.slice P1 r.ps.length d1,.int .u8 r.b.k,.int .i64 r.b.n,.string r.b.s,.slice P2 r.b.ks.length d2] 103)):=bl_al (bl_al (Below.refl _ _) _) _
      have hbI1:=blk_al (heap_alloc_new w0 (.cells #[.int .i64 (j:Int)] 3)) (.cells #[.string r.s,.slice P1 r.ps.length d1,.int .u8 r.b.k,.int .i64 r.b.n,.string r.b.s,.slice P2 r.b.ks.length d2] 103)
      have hbR1:=heap_alloc_new (w0.alloc (.cells #[.int .i64 (j:Int)] 3)) (.cells #[.string r.s,.slice P1 r.ps.length d1,.int .u8 r.b.k,.int .i64 r.b.n,.string r.b.s,.slice P2 r.b.ks.length d2] 103)
      simp only [World.size_alloc] at hbR1
      obtain ⟨wk,hwk⟩:∃ wk,(w0.alloc (.cells #[.int .i64 (j:Int)] 3)).alloc (.cells #[.string r.s,.slice P1 r.ps.length d1,.int .u8 r.b.k,.int .i64 r.b.n,.string r.b.s,.slice P2 r.b.ks.length d2] 103)=wk:=⟨_,rfl⟩
      rw [hwk] at hbk hbI1 hbR1 ⊢
      have HZK:=zh (show wk.heap.size=w0.heap.size+2 by rw [<-hwk]; simp)
      have HBK:=zh hbk
      obtain ⟨Rd2,hRd2⟩:∃ Rd2:World->Prop,(fun W':World=>(Rd W'/\W'.heap[w0.heap.size]?=some (.cells #[.int .i64 (j:Int)] 3 (0,0)))/\W'.heap[w0.heap.size+1]?=some (.cells #[.string r.s,.slice P1 r.ps.length d1,.int .u8 r.b.k,.int .i64 r.b.n,.string r.b.s,.slice P2 r.b.ks.length d2] 103 (0,0)))=Rd2:=⟨_,rfl⟩
      have HRD2:=zh (show ∀ w':World,Rd2 w'->(fun W':World=>(Rd W'/\W'.heap[w0.heap.size]?=some (.cells #[.int .i64 (j:Int)] 3 (0,0)))/\W'.heap[w0.heap.size+1]?=some (.cells #[.string r.s,.slice P1 r.ps.length d1,.int .u8 r.b.k,.int .i64 r.b.n,.string r.b.s,.slice P2 r.b.ks.length d2] 103 (0,0))) w' from fun w' h=>by rw [<-hRd2] at h; exact h)
      have HK2:=zh (show ∀ (W W':World) (pv:Value) (N:Nat),Rd2 W->FS W fb fb N pv->Chg (fun b=>b=fb\/pv.ownBlock=some b) W W'->Rd2 W' from fun W W' pv N h hfs hc=>by rw [<-hRd2] at h ⊢; exact ⟨⟨HREP.out.keep _ _ _ _ h.1.1 hfs hc,hc.keep h.1.2 (hfs.other h.1.2 (by decide) (by decide))⟩,hc.keep h.2 (hfs.other h.2 (by decide) (by decide))⟩)
      have HI2:=zh (show VsI Rd2 fb fb wk pv' (F1+prcN p.prs j) wk pv' from ⟨by rw [<-hRd2]; exact ⟨⟨HREP.out.keep _ _ _ _ HINV.out.rd HINV.out.fs (Chg.of_below hbk),hbI1⟩,hbR1⟩,HINV.out.fs.later hbk,fun b hb=>.inl hb,Chg.refl _ _⟩)
      have HC2:=zh (show ∀ w':World,Rd2 w'->(fun w':World=>((w'.cell? ⟨W.heap.size,0,none⟩=some (.slice A1 L1 c1)/\w'.cell? ⟨W.heap.size,1,none⟩=some (.slice (some a) L2 c2)/\w'.cell? ⟨W.heap.size,2,none⟩=some (.int .u8 k)/\w'.cell? ⟨W.heap.size,3,none⟩=some (.int .i64 n)/\w'.cell? ⟨W.heap.size,4,none⟩=some (.string s)/\w'.cell? ⟨W.heap.size,5,none⟩=some (.slice A3 l3 c3))/\(w'.cell? ⟨fb+1,0,none⟩=some (.func (.func 92) #[] #[.pointer (some ⟨fb,0,none⟩)])))/\(w'.cell? ⟨w0.heap.size,0,none⟩=some (.int .i64 (j:Int)))/\(w'.cell? ⟨w0.heap.size+1,0,none⟩=some (.string r.s)/\w'.cell? ⟨w0.heap.size+1,1,none⟩=some (.slice P1 r.ps.length d1)/\w'.cell? ⟨w0.heap.size+1,2,none⟩=some (.int .u8 r.b.k)/\w'.cell? ⟨w0.heap.size+1,3,none⟩=some (.int .i64 r.b.n)/\w'.cell? ⟨w0.heap.size+1,4,none⟩=some (.string r.b.s)/\w'.cell? ⟨w0.heap.size+1,5,none⟩=some (.slice P2 r.b.ks.length d2))) w' from fun w' h=>⟨HCC.out w' (HRD2.out w' h).1.1,zc (HRD2.out w' h).1.2 rfl,box6 (HRD2.out w' h).2⟩)
      have HD2:=zh (show ∀ w':World,Chg (fun b=>b=fb\/pv'.ownBlock=some b) wk w'->PV w' (fun b=>S b/\b<W.heap.size) p _/\PrR w' (fun b=>S b/\b<W.heap.size) r P1 d1 P2 d2 from fun w' h=>⟨(HD.out w' (HINV.out.chg2 HBK.out h)).1,HPR.out.keep (fun b hb _=>hb) fun b hb _=>(HKB.out w' (HINV.out.chg2 HBK.out h) b hb.1 hb.2).trans (HKB.out w0 HINV.out.chg b hb.1 hb.2).symm⟩)
      have HCK:=zh (show ∀ w':World,Below wk.heap.size wk w'->(fun w':World=>((w'.cell? ⟨W.heap.size,0,none⟩=some (.slice A1 L1 c1)/\w'.cell? ⟨W.heap.size,1,none⟩=some (.slice (some a) L2 c2)/\w'.cell? ⟨W.heap.size,2,none⟩=some (.int .u8 k)/\w'.cell? ⟨W.heap.size,3,none⟩=some (.int .i64 n)/\w'.cell? ⟨W.heap.size,4,none⟩=some (.string s)/\w'.cell? ⟨W.heap.size,5,none⟩=some (.slice A3 l3 c3))/\(w'.cell? ⟨fb+1,0,none⟩=some (.func (.func 92) #[] #[.pointer (some ⟨fb,0,none⟩)])))/\(w'.cell? ⟨w0.heap.size,0,none⟩=some (.int .i64 (j:Int)))/\(w'.cell? ⟨w0.heap.size+1,0,none⟩=some (.string r.s)/\w'.cell? ⟨w0.heap.size+1,1,none⟩=some (.slice P1 r.ps.length d1)/\w'.cell? ⟨w0.heap.size+1,2,none⟩=some (.int .u8 r.b.k)/\w'.cell? ⟨w0.heap.size+1,3,none⟩=some (.int .i64 r.b.n)/\w'.cell? ⟨w0.heap.size+1,4,none⟩=some (.string r.b.s)/\w'.cell? ⟨w0.heap.size+1,5,none⟩=some (.slice P2 r.b.ks.length d2))) w'/\(fun _:World=>True) w' from fun w' h=>⟨HC2.out w' (HK2.out _ _ _ _ HI2.out.rd HI2.out.fs (Chg.of_below h)),trivial⟩)
      clear hwk hbk hbI1 hbR1 hRd2 a0 a1 a2 a3 a4 a5 ar q0 q1 q2 q3 q4 q5
      have hdr:=(Below.refl wk.heap.size wk).drew
      have hSS:=HCK.out _ hdr
      have hrb:=HVB.out.2.2.1 r (by rw [<-Hr.out]; exact List.getElem_mem hltp)
      have hpN:=prcN_le p.prs HVB.out.2.2.1 j
      obtain ⟨rb1,rb2,rb3⟩:=hrb
      refine wp_region_noPanic ?_
      refine wp_region_G (fun w':World=>((w'.cell? ⟨W.heap.size,0,none⟩=some (.slice A1 L1 c1)/\w'.cell? ⟨W.heap.size,1,none⟩=some (.slice (some a) L2 c2)/\w'.cell? ⟨W.heap.size,2,none⟩=some (.int .u8 k)/\w'.cell? ⟨W.heap.size,3,none⟩=some (.int .i64 n)/\w'.cell? ⟨W.heap.size,4,none⟩=some (.string s)/\w'.cell? ⟨W.heap.size,5,none⟩=some (.slice A3 l3 c3))/\(w'.cell? ⟨fb+1,0,none⟩=some (.func (.func 92) #[] #[.pointer (some ⟨fb,0,none⟩)])))/\(w'.cell? ⟨w0.heap.size,0,none⟩=some (.int .i64 (j:Int)))/\(w'.cell? ⟨w0.heap.size+1,0,none⟩=some (.string r.s)/\w'.cell? ⟨w0.heap.size+1,1,none⟩=some (.slice P1 r.ps.length d1)/\w'.cell? ⟨w0.heap.size+1,2,none⟩=some (.int .u8 r.b.k)/\w'.cell? ⟨w0.heap.size+1,3,none⟩=some (.int .i64 r.b.n)/\w'.cell? ⟨w0.heap.size+1,4,none⟩=some (.string r.b.s)/\w'.cell? ⟨w0.heap.size+1,5,none⟩=some (.slice P2 r.b.ks.length d2))) (fun _:World=>True) 40 (by kernel_rfl) ?_
      refine zT 0 hSS ?_
      (try simp only [Act.put,zP])
      refine zT 1 hSS ?_
      (try simp only [Act.put,zP])
      refine zT 2 hSS ?_
      (try simp only [Act.put,zP])
      refine zT 4 hSS ?_
      (try simp only [Act.put,zP])
      refine wpG_one (i:=3) (by kernel_rfl) rfl (fun K hK=>?_)
      refine step_callL (by rfl) (.func 94) [.tmp 45,.tmp 47] _ (by rfl) 94 _ fnSProc (by rfl) _ (by rfl) _ (isW_of (Proc_any p _ _ r.s _ (HD2.out _ (Chg.of_below hdr)).1)) ?_
      rintro vq w2 ⟨rfl,bw2⟩
      have b2:=bl_tt hdr bw2
      have hSS2:=HCK.out _ b2
      obtain ⟨PE,hPE⟩:∃ PE,procE p.prs r.s=PE:=⟨_,rfl⟩
      rw [hPE]
      have HPE:=zh hPE
      refine hK.out _ _ hSS2 ?_
      clear hK K hSS hPE
      (try simp only [Act.put,zP])
      have HI2b:=zh (show VsI Rd2 fb fb wk pv' (F1+prcN p.prs j) w2 pv' from ⟨HK2.out _ _ _ _ HI2.out.rd HI2.out.fs (Chg.of_below b2),HI2.out.fs.later b2,fun b hb=>.inl hb,Chg.of_below b2⟩)
      by_cases hpe:PE<(j:Int)
      ·have hd:decide (PE<(j:Int))=true:=decide_eq_true hpe
       obtain ⟨E1,hE1⟩:∃ E1,one1 (22)=E1:=⟨_,rfl⟩
       have hE2:E1<=1:=by rw [<-hE1]; exact one1_le _
       have HE1:=zh (show one1 (if procE p.prs r.s<(j:Int) then 22 else 0)=E1 by rw [HPE.out,if_pos hpe]; exact hE1)
       refine zT 5 hSS2 ?_
       (try simp only [Act.put,zP])
       refine wpG_done (by kernel_rfl) ?_
       refine NoPanic.normal ?_
       obtain ⟨⟨⟨a0,a1,a2,a3,a4,a5⟩,ar⟩,ai,r0,r1,r2,r3,r4,r5⟩:=hSS2.1
       clear hSS2
       go_wp2_with fail
       refine (report_any fb fb _ pv' (j:Int) 22 [] none 0 r.s Any w2 HI2b.out.fs RowI.nil (by simp) (by omega)).mono ?_
       rintro e w3 hp
       obtain ⟨v3,rfl⟩:=hp.1
       obtain ⟨pv3,hi3⟩:=HI2b.out.stepK HK2.out (Below.refl _ _) hp
       rw [hE1] at hi3
       have HI3:=zh hi3
       clear hp a0 a1 a2 a3 a4 a5 ar ai r0 r1 r2 r3 r4 r5
       obtain ⟨⟨⟨a0,a1,a2,a3,a4,a5⟩,ar⟩,ai,r0,r1,r2,r3,r4,r5⟩:=HC2.out _ hi3.rd
       clear hi3 hE1
       go_wp2_with fail
       go_loopw [59] (fun x w'=>∃ (i:Nat) (pv2:Value),i<=r.ps.length/\x=.int .i64 i/\VsI Rd2 fb fb wk pv' (F1+prcN p.prs j+E1+frsN r.ps i) w' pv2) (fun x _=>r.ps.length-(intOf x).toNat)
       case atStart=>exact ⟨0,_,Nat.zero_le _,rfl,HI3.out⟩
       case round =>
        clear HI3 a0 a1 a2 a3 a4 a5 ar ai r0 r1 r2 r3 r4 r5
        obtain ⟨i,pv2,hi,rfl,hinv⟩:=hrel
        have HIN2:=zh hinv
        by_cases hli:i<r.ps.length
        ·obtain ⟨a',u,rfl,hsa,Hu,⟨q0,q1,q2⟩,hfu⟩:=(HD2.out wr hinv.chg).2.row.nd hli
         have hic:(i:Int)<=(d1:Int):=by have:=HPR.out.lc; omega
         have hi0:(0:Int)<=(i:Int):=by omega
         obtain ⟨⟨⟨a0,a1,a2,a3,a4,a5⟩,ar⟩,ai,r0,r1,r2,r3,r4,r5⟩:=HC2.out _ hinv.rd
         clear hinv hsa hfu
         go_upto_region 18 with fail
         have hbk:Below wr.heap.size wr (wr.alloc (.cells #[.string u.s,.int .u8 u.k,.int .i64 u.n] 83)):=bl_al (Below.refl _ _) _
         have hbU:=heap_alloc_new wr (.cells #[.string u.s,.int .u8 u.k,.int .i64 u.n] 83)
         obtain ⟨wv,hwv⟩:∃ wv,wr.alloc (.cells #[.string u.s,.int .u8 u.k,.int .i64 u.n] 83)=wv:=⟨_,rfl⟩
         rw [hwv] at hbk hbU ⊢
         have HZV:=zh (show wv.heap.size=wr.heap.size+1 by rw [<-hwv]; simp)
         have HBV:=zh hbk
         have HBU:=zh hbU
         clear hwv hbk hbU a0 a1 a2 a3 a4 a5 ar ai r0 r1 r2 r3 r4 r5 q0 q1 q2
         have HCV:=zh (show ∀ w':World,Below wv.heap.size wv w'->(fun w':World=>(fun w':World=>((w'.cell? ⟨W.heap.size,0,none⟩=some (.slice A1 L1 c1)/\w'.cell? ⟨W.heap.size,1,none⟩=some (.slice (some a) L2 c2)/\w'.cell? ⟨W.heap.size,2,none⟩=some (.int .u8 k)/\w'.cell? ⟨W.heap.size,3,none⟩=some (.int .i64 n)/\w'.cell? ⟨W.heap.size,4,none⟩=some (.string s)/\w'.cell? ⟨W.heap.size,5,none⟩=some (.slice A3 l3 c3))/\(w'.cell? ⟨fb+1,0,none⟩=some (.func (.func 92) #[] #[.pointer (some ⟨fb,0,none⟩)])))/\(w'.cell? ⟨w0.heap.size,0,none⟩=some (.int .i64 (j:Int)))/\(w'.cell? ⟨w0.heap.size+1,0,none⟩=some (.string r.s)/\w'.cell? ⟨w0.heap.size+1,1,none⟩=some (.slice (some a') r.ps.length d1)/\w'.cell? ⟨w0.heap.size+1,2,none⟩=some (.int .u8 r.b.k)/\w'.cell? ⟨w0.heap.size+1,3,none⟩=some (.int .i64 r.b.n)/\w'.cell? ⟨w0.heap.size+1,4,none⟩=some (.string r.b.s)/\w'.cell? ⟨w0.heap.size+1,5,none⟩=some (.slice P2 r.b.ks.length d2))) w'/\(w'.cell? ⟨wr.heap.size,0,none⟩=some (.string u.s)/\w'.cell? ⟨wr.heap.size,1,none⟩=some (.int .u8 u.k)/\w'.cell? ⟨wr.heap.size,2,none⟩=some (.int .i64 u.n))) w'/\(fun _:World=>True) w' from fun w' h=>⟨⟨HC2.out _ (HK2.out _ _ _ _ HIN2.out.rd HIN2.out.fs (Chg.of_below (bl_tt HBV.out h))),box3 ((h.block _ (by have:=HZV.out; omega)).trans HBU.out)⟩,trivial⟩)
         have hdv:=(Below.refl wv.heap.size wv).drew
         have hSS:=HCV.out _ hdv
         have hfN:=frsN_le r.ps i
         refine wp_region_noPanic ?_
         refine wp_region_G (fun w':World=>(fun w':World=>((w'.cell? ⟨W.heap.size,0,none⟩=some (.slice A1 L1 c1)/\w'.cell? ⟨W.heap.size,1,none⟩=some (.slice (some a) L2 c2)/\w'.cell? ⟨W.heap.size,2,none⟩=some (.int .u8 k)/\w'.cell? ⟨W.heap.size,3,none⟩=some (.int .i64 n)/\w'.cell? ⟨W.heap.size,4,none⟩=some (.string s)/\w'.cell? ⟨W.heap.size,5,none⟩=some (.slice A3 l3 c3))/\(w'.cell? ⟨fb+1,0,none⟩=some (.func (.func 92) #[] #[.pointer (some ⟨fb,0,none⟩)])))/\(w'.cell? ⟨w0.heap.size,0,none⟩=some (.int .i64 (j:Int)))/\(w'.cell? ⟨w0.heap.size+1,0,none⟩=some (.string r.s)/\w'.cell? ⟨w0.heap.size+1,1,none⟩=some (.slice (some a') r.ps.length d1)/\w'.cell? ⟨w0.heap.size+1,2,none⟩=some (.int .u8 r.b.k)/\w'.cell? ⟨w0.heap.size+1,3,none⟩=some (.int .i64 r.b.n)/\w'.cell? ⟨w0.heap.size+1,4,none⟩=some (.string r.b.s)/\w'.cell? ⟨w0.heap.size+1,5,none⟩=some (.slice P2 r.b.ks.length d2))) w'/\(w'.cell? ⟨wr.heap.size,0,none⟩=some (.string u.s)/\w'.cell? ⟨wr.heap.size,1,none⟩=some (.int .u8 u.k)/\w'.cell? ⟨wr.heap.size,2,none⟩=some (.int .i64 u.n))) (fun _:World=>True) 40 (by kernel_rfl) ?_
         refine zT 0 hSS ?_
         (try simp only [Act.put,zP])
         refine zT 1 hSS ?_
         (try simp only [Act.put,zP])
         refine zT 2 hSS ?_
         (try simp only [Act.put,zP])
         refine zT 3 hSS ?_
         (try simp only [Act.put,zP])
         refine zT 4 hSS ?_
         (try simp only [Act.put,zP])
         refine zT 5 hSS ?_
         (try simp only [Act.put,zP])
         refine zT 6 hSS ?_
         (try simp only [Act.put,zP])
         refine zT 7 hSS ?_
         (try simp only [Act.put,zP])
         refine zT 8 hSS ?_
         (try simp only [Act.put,zP])
         refine zT 9 hSS ?_
         (try simp only [Act.put,zP])
         refine wpG_one (i:=10) (by kernel_rfl) rfl (fun K hK=>?_)
         refine step_callL (by rfl) (.func 93) [.tmp 71,.tmp 73] _ (by rfl) 93 _ fnFresh (by rfl) _ (by rfl) _ (isW_of (fresh_take r.ps i (by omega) (some a') d1 u.s _ _ (HD2.out _ (HIN2.out.chg.trans (Chg.of_below (bl_tt HBV.out hdv)))).2.row HPR.out.lp)) ?_
         rintro vq w5 ⟨rfl,bw5⟩
         have b5:=bl_tt hdv bw5
         refine hK.out _ _ (HCV.out _ b5) ?_
         clear hK K hSS
         (try simp only [Act.put,zP])
         refine wpG_one (i:=11) (by kernel_rfl) rfl (fun K hK=>?_)
         refine step_callC (by rfl) (.tmp 64) [.tmp 65,.const (.slice none 0 0),.tmp 67,.tmp 74] _ (by rfl) 92 _ fnChk1 #[.pointer (some ⟨fb,0,none⟩)] (by rfl) _ (by rfl) _ (repV_of (report_cat fb fb _ pv2 (j:Int) _ [] none 0 u.s Any _ (HIN2.out.fs.later (bl_tt HBV.out b5)) RowI.nil (by simp) (by omega))) ?_
         rintro vq W6 hp
         obtain ⟨pv6,hi6⟩:=HIN2.out.stepK HK2.out (bl_tt HBV.out b5) hp
         have hi7:VsI Rd2 fb fb wk pv' (F1+prcN p.prs j+E1+frsN r.ps (i+1)) W6 pv6:=by rw [frsN_succ hli,Hu.out,<-Nat.add_assoc]; exact hi6
         have hSS6:(fun w':World=>(fun w':World=>((w'.cell? ⟨W.heap.size,0,none⟩=some (.slice A1 L1 c1)/\w'.cell? ⟨W.heap.size,1,none⟩=some (.slice (some a) L2 c2)/\w'.cell? ⟨W.heap.size,2,none⟩=some (.int .u8 k)/\w'.cell? ⟨W.heap.size,3,none⟩=some (.int .i64 n)/\w'.cell? ⟨W.heap.size,4,none⟩=some (.string s)/\w'.cell? ⟨W.heap.size,5,none⟩=some (.slice A3 l3 c3))/\(w'.cell? ⟨fb+1,0,none⟩=some (.func (.func 92) #[] #[.pointer (some ⟨fb,0,none⟩)])))/\(w'.cell? ⟨w0.heap.size,0,none⟩=some (.int .i64 (j:Int)))/\(w'.cell? ⟨w0.heap.size+1,0,none⟩=some (.string r.s)/\w'.cell? ⟨w0.heap.size+1,1,none⟩=some (.slice (some a') r.ps.length d1)/\w'.cell? ⟨w0.heap.size+1,2,none⟩=some (.int .u8 r.b.k)/\w'.cell? ⟨w0.heap.size+1,3,none⟩=some (.int .i64 r.b.n)/\w'.cell? ⟨w0.heap.size+1,4,none⟩=some (.string r.b.s)/\w'.cell? ⟨w0.heap.size+1,5,none⟩=some (.slice P2 r.b.ks.length d2))) w'/\(w'.cell? ⟨wr.heap.size,0,none⟩=some (.string u.s)/\w'.cell? ⟨wr.heap.size,1,none⟩=some (.int .u8 u.k)/\w'.cell? ⟨wr.heap.size,2,none⟩=some (.int .i64 u.n))) W6/\(fun _:World=>True) W6:=⟨⟨HC2.out _ hi7.rd,box3 ((hp.2.elim fun _ h=>h.2.2.block _ (by have:=(bl_tt HBV.out b5).size; have:=b5.size; have:=HZV.out; omega) (fun hh=>by have hl:=HIN2.out.fs.lt; rcases hh with hh|hh; (have:=hl.1; omega); (have:=(hl.2 _ hh).2; omega))).trans ((b5.block _ (by have:=HZV.out; omega)).trans HBU.out))⟩,trivial⟩
         refine hK.out _ _ hSS6 ?_
         clear hK K
         (try simp only [Act.put,zP])
         refine wpG_done (by kernel_rfl) ?_
         refine NoPanic.normal ?_
         have HI7:=zh hi7
         clear hi7 hi6 hp hSS6
         go_wp2_with fail
         go_roundw
         case rel=>exact ⟨i+1,_,by omega,by go_num,HI7.out⟩
         case measure=>simp [intOf]; omega
        ·have hil:i=r.ps.length:=by omega
         obtain ⟨⟨⟨a0,a1,a2,a3,a4,a5⟩,ar⟩,ai,r0,r1,r2,r3,r4,r5⟩:=HC2.out _ hinv.rd
         have hge:¬ ((i:Int)<(r.ps.length:Int)):=by omega
         clear hinv
         go_wp2_with fail
         have hfN:=frsN_le r.ps r.ps.length
         have HN2:=zh (show VsI Rd2 fb fb wk pv' (F1+prcN p.prs j+E1+frsN r.ps r.ps.length) wr pv2 by rw [<-hil]; exact HIN2.out)
         have hzw:=HIN2.out.chg.size
         have hzk:=HZK.out
         have hz0:=HINV.out.chg.size
         have hzb:=HZB.out
         refine (svisit_any 96 _ _ fb fb (Chk2_rep fb fb (fb+1) w0.heap.size (j:Int)) p r.b (fun b=>S b/\b<W.heap.size) r.ps P1 d1 [] none 0 (F1+prcN p.prs j+E1+frsN r.ps r.ps.length) pv2 wr _ _ ⟨(HRD.out _ (HRD2.out _ HN2.out.rd).1.1).1,(HRD2.out _ HN2.out.rd).1.2⟩ HN2.out.fs (HD2.out _ HN2.out.chg).1 (HD2.out _ HN2.out.chg).2.body (HD2.out _ HN2.out.chg).2.row HPR.out.lc RowI.nil (Nat.zero_le _) (fun b hb hbl hh=>?_) (by simp; omega) (by omega) (by omega)).mono ?_
         ·rcases hh with hh|hh
          ·have:=hb.2; omega
          ·rcases HN2.out.own b hh with h1|h1
           ·have:=(HINV.out.fs.lt.2 b h1).1; have:=hb.2; omega
           ·have:=hb.2; omega
         rintro e W6 hp
         obtain ⟨v6,rfl⟩:=hp.1
         obtain ⟨pv6,hi6⟩:=HN2.out.stepK HK2.out (Below.refl _ _) hp
         obtain ⟨pv7,hi7⟩:=HINV.out.step HREP.out HBK.out (hi6.rep (Below.refl _ _) (e:=.returned undef) ⟨_,rfl⟩)
         have HI8:=zh (show VsI Rd fb fb Wb (.slice none 0 0) (F1+prcN p.prs (j+1)) W6 pv7 by rw [prcN_succ hltp,Hr.out,prcE,HE1.out]; simpa only [Nat.add_assoc] using hi7)
         clear hi7 hi6 hp a0 a1 a2 a3 a4 a5 ar ai r0 r1 r2 r3 r4 r5
         go_wp2_with fail
         go_roundw
         case rel=>exact ⟨j+1,_,by omega,by go_num,HI8.out⟩
         case measure=>simp [intOf]; omega
      ·have hd:decide (PE<(j:Int))=false:=decide_eq_false hpe
       obtain ⟨E1,hE1⟩:∃ E1,one1 (0)=E1:=⟨_,rfl⟩
       have hE2:E1<=1:=by rw [<-hE1]; exact one1_le _
       have HE1:=zh (show one1 (if procE p.prs r.s<(j:Int) then 22 else 0)=E1 by rw [HPE.out,if_neg hpe]; exact hE1)
       refine zT 5 hSS2 ?_
       (try simp only [Act.put,zP])
       refine wpG_done (by kernel_rfl) ?_
       refine NoPanic.normal ?_
       obtain ⟨⟨⟨a0,a1,a2,a3,a4,a5⟩,ar⟩,ai,r0,r1,r2,r3,r4,r5⟩:=hSS2.1
       clear hSS2
       go_wp2_with fail
       have HI3:=zh (show VsI Rd2 fb fb wk pv' (F1+prcN p.prs j+E1) w2 pv' by rw [<-hE1]; exact HI2b.out)
       clear hE1
       go_loopw [59] (fun x w'=>∃ (i:Nat) (pv2:Value),i<=r.ps.length/\x=.int .i64 i/\VsI Rd2 fb fb wk pv' (F1+prcN p.prs j+E1+frsN r.ps i) w' pv2) (fun x _=>r.ps.length-(intOf x).toNat)
       case atStart=>exact ⟨0,_,Nat.zero_le _,rfl,HI3.out⟩
       case round =>
        clear HI3 a0 a1 a2 a3 a4 a5 ar ai r0 r1 r2 r3 r4 r5
        obtain ⟨i,pv2,hi,rfl,hinv⟩:=hrel
        have HIN2:=zh hinv
        by_cases hli:i<r.ps.length
        ·obtain ⟨a',u,rfl,hsa,Hu,⟨q0,q1,q2⟩,hfu⟩:=(HD2.out wr hinv.chg).2.row.nd hli
         have hic:(i:Int)<=(d1:Int):=by have:=HPR.out.lc; omega
         have hi0:(0:Int)<=(i:Int):=by omega
         obtain ⟨⟨⟨a0,a1,a2,a3,a4,a5⟩,ar⟩,ai,r0,r1,r2,r3,r4,r5⟩:=HC2.out _ hinv.rd
         clear hinv hsa hfu
         go_upto_region 18 with fail
         have hbk:Below wr.heap.size wr (wr.alloc (.cells #[.string u.s,.int .u8 u.k,.int .i64 u.n] 83)):=bl_al (Below.refl _ _) _
         have hbU:=heap_alloc_new wr (.cells #[.string u.s,.int .u8 u.k,.int .i64 u.n] 83)
         obtain ⟨wv,hwv⟩:∃ wv,wr.alloc (.cells #[.string u.s,.int .u8 u.k,.int .i64 u.n] 83)=wv:=⟨_,rfl⟩
         rw [hwv] at hbk hbU ⊢
         have HZV:=zh (show wv.heap.size=wr.heap.size+1 by rw [<-hwv]; simp)
         have HBV:=zh hbk
         have HBU:=zh hbU
         clear hwv hbk hbU a0 a1 a2 a3 a4 a5 ar ai r0 r1 r2 r3 r4 r5 q0 q1 q2
         have HCV:=zh (show ∀ w':World,Below wv.heap.size wv w'->(fun w':World=>(fun w':World=>((w'.cell? ⟨W.heap.size,0,none⟩=some (.slice A1 L1 c1)/\w'.cell? ⟨W.heap.size,1,none⟩=some (.slice (some a) L2 c2)/\w'.cell? ⟨W.heap.size,2,none⟩=some (.int .u8 k)/\w'.cell? ⟨W.heap.size,3,none⟩=some (.int .i64 n)/\w'.cell? ⟨W.heap.size,4,none⟩=some (.string s)/\w'.cell? ⟨W.heap.size,5,none⟩=some (.slice A3 l3 c3))/\(w'.cell? ⟨fb+1,0,none⟩=some (.func (.func 92) #[] #[.pointer (some ⟨fb,0,none⟩)])))/\(w'.cell? ⟨w0.heap.size,0,none⟩=some (.int .i64 (j:Int)))/\(w'.cell? ⟨w0.heap.size+1,0,none⟩=some (.string r.s)/\w'.cell? ⟨w0.heap.size+1,1,none⟩=some (.slice (some a') r.ps.length d1)/\w'.cell? ⟨w0.heap.size+1,2,none⟩=some (.int .u8 r.b.k)/\w'.cell? ⟨w0.heap.size+1,3,none⟩=some (.int .i64 r.b.n)/\w'.cell? ⟨w0.heap.size+1,4,none⟩=some (.string r.b.s)/\w'.cell? ⟨w0.heap.size+1,5,none⟩=some (.slice P2 r.b.ks.length d2))) w'/\(w'.cell? ⟨wr.heap.size,0,none⟩=some (.string u.s)/\w'.cell? ⟨wr.heap.size,1,none⟩=some (.int .u8 u.k)/\w'.cell? ⟨wr.heap.size,2,none⟩=some (.int .i64 u.n))) w'/\(fun _:World=>True) w' from fun w' h=>⟨⟨HC2.out _ (HK2.out _ _ _ _ HIN2.out.rd HIN2.out.fs (Chg.of_below (bl_tt HBV.out h))),box3 ((h.block _ (by have:=HZV.out; omega)).trans HBU.out)⟩,trivial⟩)
         have hdv:=(Below.refl wv.heap.size wv).drew
         have hSS:=HCV.out _ hdv
         have hfN:=frsN_le r.ps i
         refine wp_region_noPanic ?_
         refine wp_region_G (fun w':World=>(fun w':World=>((w'.cell? ⟨W.heap.size,0,none⟩=some (.slice A1 L1 c1)/\w'.cell? ⟨W.heap.size,1,none⟩=some (.slice (some a) L2 c2)/\w'.cell? ⟨W.heap.size,2,none⟩=some (.int .u8 k)/\w'.cell? ⟨W.heap.size,3,none⟩=some (.int .i64 n)/\w'.cell? ⟨W.heap.size,4,none⟩=some (.string s)/\w'.cell? ⟨W.heap.size,5,none⟩=some (.slice A3 l3 c3))/\(w'.cell? ⟨fb+1,0,none⟩=some (.func (.func 92) #[] #[.pointer (some ⟨fb,0,none⟩)])))/\(w'.cell? ⟨w0.heap.size,0,none⟩=some (.int .i64 (j:Int)))/\(w'.cell? ⟨w0.heap.size+1,0,none⟩=some (.string r.s)/\w'.cell? ⟨w0.heap.size+1,1,none⟩=some (.slice (some a') r.ps.length d1)/\w'.cell? ⟨w0.heap.size+1,2,none⟩=some (.int .u8 r.b.k)/\w'.cell? ⟨w0.heap.size+1,3,none⟩=some (.int .i64 r.b.n)/\w'.cell? ⟨w0.heap.size+1,4,none⟩=some (.string r.b.s)/\w'.cell? ⟨w0.heap.size+1,5,none⟩=some (.slice P2 r.b.ks.length d2))) w'/\(w'.cell? ⟨wr.heap.size,0,none⟩=some (.string u.s)/\w'.cell? ⟨wr.heap.size,1,none⟩=some (.int .u8 u.k)/\w'.cell? ⟨wr.heap.size,2,none⟩=some (.int .i64 u.n))) (fun _:World=>True) 40 (by kernel_rfl) ?_
         refine zT 0 hSS ?_
         (try simp only [Act.put,zP])
         refine zT 1 hSS ?_
         (try simp only [Act.put,zP])
         refine zT 2 hSS ?_
         (try simp only [Act.put,zP])
         refine zT 3 hSS ?_
         (try simp only [Act.put,zP])
         refine zT 4 hSS ?_
         (try simp only [Act.put,zP])
         refine zT 5 hSS ?_
         (try simp only [Act.put,zP])
         refine zT 6 hSS ?_
         (try simp only [Act.put,zP])
         refine zT 7 hSS ?_
         (try simp only [Act.put,zP])
         refine zT 8 hSS ?_
         (try simp only [Act.put,zP])
         refine zT 9 hSS ?_
         (try simp only [Act.put,zP])
         refine wpG_one (i:=10) (by kernel_rfl) rfl (fun K hK=>?_)
         refine step_callL (by rfl) (.func 93) [.tmp 71,.tmp 73] _ (by rfl) 93 _ fnFresh (by rfl) _ (by rfl) _ (isW_of (fresh_take r.ps i (by omega) (some a') d1 u.s _ _ (HD2.out _ (HIN2.out.chg.trans (Chg.of_below (bl_tt HBV.out hdv)))).2.row HPR.out.lp)) ?_
         rintro vq w5 ⟨rfl,bw5⟩
         have b5:=bl_tt hdv bw5
         refine hK.out _ _ (HCV.out _ b5) ?_
         clear hK K hSS
         (try simp only [Act.put,zP])
         refine wpG_one (i:=11) (by kernel_rfl) rfl (fun K hK=>?_)
         refine step_callC (by rfl) (.tmp 64) [.tmp 65,.const (.slice none 0 0),.tmp 67,.tmp 74] _ (by rfl) 92 _ fnChk1 #[.pointer (some ⟨fb,0,none⟩)] (by rfl) _ (by rfl) _ (repV_of (report_cat fb fb _ pv2 (j:Int) _ [] none 0 u.s Any _ (HIN2.out.fs.later (bl_tt HBV.out b5)) RowI.nil (by simp) (by omega))) ?_
         rintro vq W6 hp
         obtain ⟨pv6,hi6⟩:=HIN2.out.stepK HK2.out (bl_tt HBV.out b5) hp
         have hi7:VsI Rd2 fb fb wk pv' (F1+prcN p.prs j+E1+frsN r.ps (i+1)) W6 pv6:=by rw [frsN_succ hli,Hu.out,<-Nat.add_assoc]; exact hi6
         have hSS6:(fun w':World=>(fun w':World=>((w'.cell? ⟨W.heap.size,0,none⟩=some (.slice A1 L1 c1)/\w'.cell? ⟨W.heap.size,1,none⟩=some (.slice (some a) L2 c2)/\w'.cell? ⟨W.heap.size,2,none⟩=some (.int .u8 k)/\w'.cell? ⟨W.heap.size,3,none⟩=some (.int .i64 n)/\w'.cell? ⟨W.heap.size,4,none⟩=some (.string s)/\w'.cell? ⟨W.heap.size,5,none⟩=some (.slice A3 l3 c3))/\(w'.cell? ⟨fb+1,0,none⟩=some (.func (.func 92) #[] #[.pointer (some ⟨fb,0,none⟩)])))/\(w'.cell? ⟨w0.heap.size,0,none⟩=some (.int .i64 (j:Int)))/\(w'.cell? ⟨w0.heap.size+1,0,none⟩=some (.string r.s)/\w'.cell? ⟨w0.heap.size+1,1,none⟩=some (.slice (some a') r.ps.length d1)/\w'.cell? ⟨w0.heap.size+1,2,none⟩=some (.int .u8 r.b.k)/\w'.cell? ⟨w0.heap.size+1,3,none⟩=some (.int .i64 r.b.n)/\w'.cell? ⟨w0.heap.size+1,4,none⟩=some (.string r.b.s)/\w'.cell? ⟨w0.heap.size+1,5,none⟩=some (.slice P2 r.b.ks.length d2))) w'/\(w'.cell? ⟨wr.heap.size,0,none⟩=some (.string u.s)/\w'.cell? ⟨wr.heap.size,1,none⟩=some (.int .u8 u.k)/\w'.cell? ⟨wr.heap.size,2,none⟩=some (.int .i64 u.n))) W6/\(fun _:World=>True) W6:=⟨⟨HC2.out _ hi7.rd,box3 ((hp.2.elim fun _ h=>h.2.2.block _ (by have:=(bl_tt HBV.out b5).size; have:=b5.size; have:=HZV.out; omega) (fun hh=>by have hl:=HIN2.out.fs.lt; rcases hh with hh|hh; (have:=hl.1; omega); (have:=(hl.2 _ hh).2; omega))).trans ((b5.block _ (by have:=HZV.out; omega)).trans HBU.out))⟩,trivial⟩
         refine hK.out _ _ hSS6 ?_
         clear hK K
         (try simp only [Act.put,zP])
         refine wpG_done (by kernel_rfl) ?_
         refine NoPanic.normal ?_
         have HI7:=zh hi7
         clear hi7 hi6 hp hSS6
         go_wp2_with fail
         go_roundw
         case rel=>exact ⟨i+1,_,by omega,by go_num,HI7.out⟩
         case measure=>simp [intOf]; omega
        ·have hil:i=r.ps.length:=by omega
         obtain ⟨⟨⟨a0,a1,a2,a3,a4,a5⟩,ar⟩,ai,r0,r1,r2,r3,r4,r5⟩:=HC2.out _ hinv.rd
         have hge:¬ ((i:Int)<(r.ps.length:Int)):=by omega
         clear hinv
         go_wp2_with fail
         have hfN:=frsN_le r.ps r.ps.length
         have HN2:=zh (show VsI Rd2 fb fb wk pv' (F1+prcN p.prs j+E1+frsN r.ps r.ps.length) wr pv2 by rw [<-hil]; exact HIN2.out)
         have hzw:=HIN2.out.chg.size
         have hzk:=HZK.out
         have hz0:=HINV.out.chg.size
         have hzb:=HZB.out
         refine (svisit_any 96 _ _ fb fb (Chk2_rep fb fb (fb+1) w0.heap.size (j:Int)) p r.b (fun b=>S b/\b<W.heap.size) r.ps P1 d1 [] none 0 (F1+prcN p.prs j+E1+frsN r.ps r.ps.length) pv2 wr _ _ ⟨(HRD.out _ (HRD2.out _ HN2.out.rd).1.1).1,(HRD2.out _ HN2.out.rd).1.2⟩ HN2.out.fs (HD2.out _ HN2.out.chg).1 (HD2.out _ HN2.out.chg).2.body (HD2.out _ HN2.out.chg).2.row HPR.out.lc RowI.nil (Nat.zero_le _) (fun b hb hbl hh=>?_) (by simp; omega) (by omega) (by omega)).mono ?_
         ·rcases hh with hh|hh
          ·have:=hb.2; omega
          ·rcases HN2.out.own b hh with h1|h1
           ·have:=(HINV.out.fs.lt.2 b h1).1; have:=hb.2; omega
           ·have:=hb.2; omega
         rintro e W6 hp
         obtain ⟨v6,rfl⟩:=hp.1
         obtain ⟨pv6,hi6⟩:=HN2.out.stepK HK2.out (Below.refl _ _) hp
         obtain ⟨pv7,hi7⟩:=HINV.out.step HREP.out HBK.out (hi6.rep (Below.refl _ _) (e:=.returned undef) ⟨_,rfl⟩)
         have HI8:=zh (show VsI Rd fb fb Wb (.slice none 0 0) (F1+prcN p.prs (j+1)) W6 pv7 by rw [prcN_succ hltp,Hr.out,prcE,HE1.out]; simpa only [Nat.add_assoc] using hi7)
         clear hi7 hi6 hp a0 a1 a2 a3 a4 a5 ar ai r0 r1 r2 r3 r4 r5
         go_wp2_with fail
         go_roundw
         case rel=>exact ⟨j+1,_,by omega,by go_num,HI8.out⟩
         case measure=>simp [intOf]; omega
     ·have hjl:j=L2:=by omega
      obtain ⟨⟨a0,a1,a2,a3,a4,a5⟩,ar⟩:=HCC.out _ hinv.rd
      have hge:¬ ((j:Int)<(L2:Int)):=by omega
      have HN3:=zh (show VsI Rd fb fb Wb (.slice none 0 0) (F1+prcN p.prs p.prs.length) w0 pv' by rw [HL2.out,<-hjl]; exact HINV.out)
      clear hinv
      go_wp2_with fail
      have hpN:=prcN_le p.prs HVB.out.2.2.1 p.prs.length
      have hvb:=HVB.out
      have hzw:=HINV.out.chg.size
      have hzb:=HZB.out
      have hmn:=(HD.out _ HN3.out.chg).2.main
      rw [HMM.out.1,HMM.out.2.1,HMM.out.2.2.1,HMM.out.2.2.2] at hmn
      have hcall:=svisit_any _ _ Rd fb fb HREP.out p p.m (fun b=>S b/\b<W.heap.size) p.vs A1 c1 [] none 0 (F1+prcN p.prs p.prs.length) pv' w0 _ _ HN3.out.rd HN3.out.fs (HD.out _ HN3.out.chg).1 hmn (HD.out _ HN3.out.chg).2.vars HR.out.lvc RowI.nil (Nat.zero_le _) (fun b hb hbl hh=>by rcases hh with hh|hh; (have:=hb.2; omega); (rcases HN3.out.own b hh with h1|h1; (simp [Value.ownBlock] at h1); (have:=hb.2; omega))) (by simp; omega) (by omega) (by omega)
      rw [HL1.out] at hcall
      refine hcall.mono ?_
      clear hcall
      rintro e W6 hp
      obtain ⟨v6,rfl⟩:=hp.1
      obtain ⟨pv6,hi6⟩:=HN3.out.step HREP.out (Below.refl _ _) hp
      rw [show F1+prcN p.prs p.prs.length+cntV p.prs p.m p.vs=NN by rw [<-HNN2.out,chkN,HFE.out]] at hi6
      obtain ⟨A6,c6,rfl⟩:=hi6.fs.slice
      have hf6:W6.cell? ⟨fb,0,none⟩=some (.slice A6 NN c6):=zc hi6.fs.box rfl
      have HBZ:=zh (show Below W.heap.size W W6 from HBW.out.trans (hi6.chg.below (by omega) (fun b hb=>by rcases hb with hb|hb; omega; simp [Value.ownBlock] at hb)))
      clear hi6 hp hmn hvb a0 a1 a2 a3 a4 a5 ar
      go_wp2_with fail
      go_ret
      exact ⟨A6,c6,rfl,HBZ.out⟩
theorem prcI_eq:∀ (prs:List PR) (s:ByteArray),prcI prs s=idxP prs s
 | [],_=>rfl
 | q::qs,s=>by
  unfold prcI
  rw [prcI_eq qs s]
  unfold idxP
  rw [List.findIdx?_cons]
def CalB (prs:List PR) (t:T):Prop:=∀ u∈po t,(u.k=50\/u.k=51)->∃ i,prcI prs u.s=some i
theorem isE_poE:∀ (t:T),isE t=true->∀ x∈po t,isE x=true:=by
 intro t
 induction t using T.ind with
 | _ k n s ks ih =>
  intro h x hx
  simp only [po,List.mem_cons] at hx
  rcases hx with rfl|hx
  ·exact h
  ·obtain ⟨t,ht,hx⟩:=mem_pos.1 hx
   exact ih t ht (isE_kids h t ht) x hx
theorem CalB.expr {prs:List PR} {t:T} (h:isE t=true):CalB prs t:=fun u hu hk=>by
 have:=isE_k u (isE_poE t h u hu)
 omega
theorem CalB.kid {prs:List PR} {k n:Int} {s:ByteArray} {ks:List T} (h:CalB prs (.nd k n s ks)) {t:T} (ht:t∈ks):CalB prs t:=fun u hu=>h u (by simp only [po,List.mem_cons]; exact .inr (mem_pos.2 ⟨t,ht,hu⟩))
theorem cntK_zero {prs:List PR} {k:Int} {s:ByteArray} {vs:List VD}:∀ {ks:List T} {i:Nat},cntK prs k s i ks vs=0->∀ t∈ks,∃ vs',cntV prs t vs'=0
 | [],_,_,t,ht=>by cases ht
 | u::us,i,h,t,ht=>by
  rw [cntK] at h
  obtain ⟨h1,h2⟩:=Nat.add_eq_zero_iff.1 h
  rcases List.mem_cons.1 ht with rfl|ht
  ·exact ⟨_,h1⟩
  ·exact cntK_zero h2 t ht
theorem one1_zero {e:Int} (h:one1 e=0):e=0:=by
 unfold one1 at h
 split at h
 ·assumption
 ·omega
theorem cal_of:∀ (t:T) (prs:List PR) (vs:List VD),(isS t=true\/isB t=true\/isE t=true)->cntV prs t vs=0->CalB prs t:=by
 intro t
 induction t using T.ind with
 | _ k n s ks ih =>
  intro prs vs ht h
  rcases ht with hs|hb|he
  ·rw [cntV] at h
   intro u hu hk
   simp only [po,List.mem_cons] at hu
   by_cases hc:k=50\/k=51
   ·rcases hu with rfl|hu
    ·have h0:=one1_zero (e:=faultE prs k s ks.length vs) (by omega)
     unfold faultE at h0
     rw [if_neg (by omega),if_neg (by omega),if_neg (by omega),if_neg (by omega),if_pos hc] at h0
     rw [prcI_eq]
     cases hi:idxP prs s with
     | none=>rw [hi] at h0; simp at h0
     | some i=>exact ⟨i,hi⟩
    ·obtain ⟨t,ht,hx⟩:=mem_pos.1 hu
     have h57:t.k≠57:=by
      rcases isS_cases hs with ⟨_,h1⟩|⟨h1,_⟩|⟨h1,_⟩|⟨h1,_⟩
      ·exact h1 t ht
      all_goals omega
     rcases (isS_EB hs).2 t ht with h1|h1
     ·exact CalB.expr h1 u hx hk
     ·exact absurd (isB_k h1) h57
   ·rw [if_neg hc] at h
    rcases hu with rfl|hu
    ·exact absurd hk hc
    ·obtain ⟨t,ht,hx⟩:=mem_pos.1 hu
     obtain ⟨vs',hv⟩:=cntK_zero (Nat.add_eq_zero_iff.1 h).2 t ht
     rcases (isS_EB hs).2 t ht with h1|h1
     ·exact CalB.expr h1 u hx hk
     ·exact ih t ht prs vs' (.inr (.inl h1)) hv u hx hk
  ·obtain ⟨h57,hks⟩:=isB_kids _ _ _ _ hb
   rw [cntV,if_neg (by omega)] at h
   intro u hu hk
   simp only [po,List.mem_cons] at hu
   rcases hu with rfl|hu
   ·simp only [T.k_nd] at hk; omega
   ·obtain ⟨t,ht,hx⟩:=mem_pos.1 hu
    obtain ⟨vs',hv⟩:=cntK_zero (Nat.add_eq_zero_iff.1 h).2 t ht
    exact ih t ht prs vs' (.inl (hks t ht)) hv u hx hk
  ·exact CalB.expr he
def GP (prs:List PR) (t:T):Prop:=isS t=true/\CalB prs t/\∀ q∈prs,isB q.b=true/\CalB prs q.b
theorem GP.block {prs:List PR} {b:T} (hb:isB b=true) (hc:CalB prs b) (hq:∀ q∈prs,isB q.b=true/\CalB prs q.b):∀ u∈b.ks,GP prs u:=by
 obtain ⟨k,n,s,ks⟩:=b
 exact fun u hu=>⟨(isB_kids _ _ _ _ hb).2 u hu,hc.kid hu,hq⟩
theorem GP_GC:GC GP where
 two:=fun prs t h hk=>by
  obtain ⟨k,n,s,ks⟩:=t
  obtain ⟨hs,hc,hq⟩:=h
  simp only [T.k_nd] at hk
  rcases isS_cases hs with ⟨h1,_⟩|⟨_,_,a,b,c,d,rfl,_,hb1,hb2,_⟩|⟨h1,_⟩|⟨h1,_⟩
  ·omega
  ·exact ⟨rfl,GP.block hb1 (hc.kid (t:=b) (by simp)) hq,GP.block hb2 (hc.kid (t:=c) (by simp)) hq⟩
  ·omega
  ·omega
 loc:=fun prs t h hk=>by
  obtain ⟨k,n,s,ks⟩:=t
  obtain ⟨hs,hc,hq⟩:=h
  simp only [T.k_nd] at hk
  rcases isS_cases hs with ⟨h1,_⟩|⟨h1,_⟩|⟨_,_,a,b,c,rfl,_,hb1,_⟩|⟨h1,_⟩
  ·omega
  ·omega
  ·exact ⟨rfl,GP.block hb1 (hc.kid (t:=b) (by simp)) hq⟩
  ·omega
 stk:=fun prs t h hk=>by
  obtain ⟨k,n,s,ks⟩:=t
  obtain ⟨hs,hc,hq⟩:=h
  simp only [T.k_nd] at hk
  rcases isS_cases hs with ⟨h1,_⟩|⟨h1,_⟩|⟨h1,_⟩|⟨_,_,b,rfl,hb1⟩
  ·omega
  ·omega
  ·omega
  ·exact ⟨rfl,GP.block hb1 (hc.kid (t:=b) (by simp)) hq⟩
 cal:=fun prs t h hk=>by
  obtain ⟨hs,hc,hq⟩:=h
  have hm:t∈po t:=by obtain ⟨k,n,s,ks⟩:=t; simp [po]
  obtain ⟨i,hi⟩:=hc t hm hk
  obtain ⟨-,hl⟩:=prcI_idx _ _ _ hi
  exact ⟨i,prs[i],hi,List.getElem?_eq_getElem hl,GP.block (hq _ (List.getElem_mem hl)).1 (hq _ (List.getElem_mem hl)).2 hq⟩
theorem prcN_zero {ps:List PR}:∀ {j:Nat},j<=ps.length->prcN ps j=0->∀ i (h:i<ps.length),i<j->prcE ps i ps[i]=0
 | 0,_,_,i,_,hi=>by omega
 | j+1,hj,h,i,hl,hi=>by
  rw [prcN_succ (by omega)] at h
  by_cases e:i=j
  ·subst e; omega
  ·exact prcN_zero (j:=j) (by omega) (by omega) i hl (by omega)
theorem valid_isB {p:PG} (h:validB p=true):isB p.m=true/\∀ r∈p.prs,isB r.b=true:=by
 simp only [validB,Bool.and_eq_true,decide_eq_true_eq,List.all_eq_true] at h
 refine ⟨?_,fun r hr=>?_⟩
 ·have:=h.2
  simp only [isBodyB,Bool.and_eq_true] at this
  exact this.2
 ·have:=h.1.2 r hr
  simp only [procB,isBodyB,Bool.and_eq_true] at this
  exact this.2.2
theorem GP_main {p:PG} (hv:validB p=true) (hc:chkN p=0):∀ u∈p.m.ks,GP p.prs u:=by
 obtain ⟨h1,h2⟩:=valid_isB hv
 unfold chkN at hc
 refine GP.block h1 (cal_of _ _ p.vs (.inr (.inl h1)) (by omega)) fun q hq=>⟨h2 q hq,?_⟩
 obtain ⟨i,hi,rfl⟩:=List.getElem_of_mem hq
 have:=prcN_zero (Nat.le_refl _) (show prcN p.prs p.prs.length=0 by omega) i hi hi
 unfold prcE at this
 exact cal_of _ _ _ (.inr (.inl (h2 _ hq))) (show cntV p.prs p.prs[i].b p.prs[i].ps=0 by omega)
theorem gas_le (M a b r s g:Nat) (h1:a<=b) (h2:s<=r) (hg:b*M+r<=g):a*M+s<=g:=by have:=Nat.mul_le_mul_right M h1; omega
theorem run_good {p:PG} {F:Int} {g:Nat} (hv:validB p=true) (hg:F.toNat*2000+2000<=g) (back:Bool) (S:ST) (e:List Nat):Good 0 (runO p.prs F g back p.m ⟨S,0,e⟩):=by
 obtain ⟨_,_,h3,_,h5⟩:=valid_bounds hv
 refine bodyO_good _ _ fun u hu r hr=>execO_good (M:=2000) (fun q hq=>(h3 q hq).2.2) (by omega) g back u r ?_
 have h6:=mem_size (blkL_mem hu)
 exact gas_le 2000 (F.toNat-r.n) F.toNat 2000 _ g (by omega) (by omega) hg
def LitB (t:T):Prop:=∀ u∈po t,Fld u.k u.n u.s
theorem LitB.kid {k n:Int} {s:ByteArray} {ks:List T} (h:LitB (.nd k n s ks)) {t:T} (ht:t∈ks):LitB t:=fun u hu=>h u (by simp only [po,List.mem_cons]; exact .inr (mem_pos.2 ⟨t,ht,hu⟩))
theorem LitB.own {t:T} (h:LitB t):Fld t.k t.n t.s:=h t (by obtain ⟨k,n,s,ks⟩:=t; simp [po])
theorem LitB.ev {look:ByteArray->Option (List Int)} (hl:∀ s l,look s=some l->l.length<=100000/\∀ x∈l,I64 x):∀ t,LitB t->I64 (evE look t).1:=by
 intro t
 induction t using T.ind with
 | _ k n s ks ih =>
  intro h
  rw [evE]
  refine evK_I64 hl h.own.2.1 ?_
  rw [evEs_map,List.getD_eq_getElem?_getD,List.getElem?_map]
  rcases hk:ks[0]? with _|u
  ·exact zero_I64
  ·exact ih u (List.mem_of_getElem? hk) (h.kid (List.mem_of_getElem? hk))
theorem LitB.expr {S:ST} (h:S.WF) {t:T} (ht:LitB t):I64 (exprE S.look t).1:=by
 unfold exprE
 split
 ·exact LitB.ev (look_I64 h) _ ht
 ·exact zero_I64
theorem LitB.block {t:T} (h:LitB t) {u:T} (hu:u∈t.ks):LitB u:=by
 obtain ⟨k,n,s,ks⟩:=t
 exact h.kid hu
section
variable {S:ST}
end
section
variable {o:Out} {f:RS->Out} {r r':RS} {F:Int} {t:T}
theorem bind_ok (h:o.bind f=.ok r'):∃ r1,o=.ok r1/\f r1=.ok r':=by
 cases o with
 | gas=>cases h
 | err e=>cases h
 | ok r1=>exact ⟨r1,rfl,h⟩
theorem storeO_ok {R:Int×ST} (h:storeO r R=.ok r'):R.1=0/\r'={ r with S:=R.2 }:=by
 unfold storeO at h
 split at h
 ·cases h
 ·rename_i h0
  injection h with h
  exact ⟨by simpa using h0,h.symm⟩
theorem valO_ok {f:Int->RS->Out} (h:valO t r f=.ok r'):(exprE r.S.look t).2=0/\f (exprE r.S.look t).1 r=.ok r':=by
 unfold valO at h
 split at h
 ·cases h
 ·rename_i h0
  exact ⟨by simpa using h0,h⟩
theorem holdsO_ok {f:Bool->RS->Out} (h:holdsO F t r f=.ok r'):(r.n:Int)<F/\(exprE r.S.look t).2=0/\f (decide ((exprE r.S.look t).1≠0)) { r with n:=r.n+1 }=.ok r':=by
 unfold holdsO at h
 obtain ⟨r1,h1,h2⟩:=bind_ok h
 obtain ⟨rfl,h3⟩:=stepO_ok h1
 obtain ⟨h4,h5⟩:=valO_ok h2
 exact ⟨h3,h4,h5⟩
theorem assertO_ok2 {b:Bool} (h:assertO F t b r=.ok r'):(r.n:Int)<F/\(exprE r.S.look t).2=0/\decide ((exprE r.S.look t).1≠0)=b/\r'={ r with n:=r.n+1 }:=by
 unfold assertO at h
 obtain ⟨h1,h2,h3⟩:=holdsO_ok h
 split at h3
 ·rename_i hb
  injection h3 with h3
  exact ⟨h1,h2,hb,h3.symm⟩
 ·cases h3
end
structure RInv (r:RS):Prop where
 wf:r.S.WF
 fb:FB r.n r.S
 n:r.n<=1000000
structure Keep (r r':RS):Prop where
 base:r'.S.base=r.S.base
 calls:r'.S.calls=r.S.calls
 nc:r.S.nc<=r'.S.nc
section
variable {r r1 r':RS} {F:Int}
theorem Keep.refl (r:RS):Keep r r:=⟨rfl,rfl,Nat.le_refl _⟩
theorem Keep.trans (h:Keep r r1) (h':Keep r1 r'):Keep r r':=⟨h'.base.trans h.base,h'.calls.trans h.calls,Nat.le_trans h.nc h'.nc⟩
theorem Keep.cur (h:Keep r r'):r'.S.cur=r.S.cur:=by unfold ST.cur; rw [h.base,h.calls]
theorem RInv.tick (h:RInv r) (hF:F<=1000000) (hn:(r.n:Int)<F):RInv { r with n:=r.n+1 }:=⟨h.wf,h.fb.mono (Nat.le_succ _),by simp only; omega⟩
def PrB (prs:List PR):Prop:=∀ q∈prs,LitB q.b/\(∀ v∈q.ps,FldV v)/\q.ps.length<=1000
theorem PrB.getD {prs:List PR} (h:PrB prs) (i:Nat):LitB (prs.getD i ⟨⟨#[]⟩,[],nil0⟩).b/\(∀ v∈(prs.getD i ⟨⟨#[]⟩,[],nil0⟩).ps,FldV v)/\(prs.getD i ⟨⟨#[]⟩,[],nil0⟩).ps.length<=1000:=by
 rw [List.getD_eq_getElem?_getD]
 rcases hk:prs[i]? with _|q
 ·refine ⟨fun v hv=>?_,by simp,by simp⟩
  have:v=nil0:=by simpa [nil0,po,pos] using hv
  subst this
  exact ⟨⟨by decide,by decide⟩,⟨by decide,by decide⟩,Nat.zero_le _⟩
 ·exact h q (List.mem_of_getElem? hk)
theorem RInv.store {R:Int×ST} (h:RInv r) (hF:F<=1000000) (hn:(r.n:Int)<F) (hw:R.2.WF) (hf:FB (r.n+1) R.2):RInv { r with n:=r.n+1,S:=R.2 }:=⟨hw,hf,by simp only; omega⟩
end
theorem bodyO_tg {prs:List PR} {f:T->RS->Out} {back:Bool}:∀ (l:List T) (r r':RS),(∀ t∈l,∀ r r',f t r=.ok r'->∃ L,Tg prs (.stm back t) r.S L r'.S/\r'.n=r.n+L.length)->bodyO f l r=.ok r'->∃ L,Tg prs (.blk back l) r.S L r'.S/\r'.n=r.n+L.length
 | [],r,r',_,h=>by
  injection h with h
  subst h
  exact ⟨[],.nil back _,rfl⟩
 | t::ts,r,r',hf,h=>by
  rw [bodyO] at h
  obtain ⟨r1,h1,h2⟩:=bind_ok h
  obtain ⟨L1,a1,a2⟩:=hf t (List.mem_cons_self ..) r r1 h1
  obtain ⟨L2,b1,b2⟩:=bodyO_tg ts r1 r' (fun u hu=>hf u (List.mem_cons_of_mem _ hu)) h2
  exact ⟨L1++L2,.cons a1 b1,by rw [List.length_append]; omega⟩
theorem loopO_tg {prs:List PR} {F:Int} {f:T->RS->Out} {back:Bool} {t:T} (hf1:∀ u∈blkL back (kid t 1),∀ r r',f u r=.ok r'->∃ L,Tg prs (.stm back u) r.S L r'.S/\r'.n=r.n+L.length)
  (hf2:∀ u∈blkL back (kid t 2),∀ r r',f u r=.ok r'->∃ L,Tg prs (.stm back u) r.S L r'.S/\r'.n=r.n+L.length):∀ (m:Nat) (r r':RS),(exprE r.S.look (fstT back t)).2=0 ->
  loopO F f (fstT back t) (lstT back t) (blkL back (kid t 1)) (blkL back (kid t 2)) m { r with n:=r.n+1 }=.ok r'->∃ L,Tg prs (.lop back t) r.S L r'.S/\r'.n=r.n+L.length
 | 0,_,_,_,h=>by cases h
 | m+1,r,r',he,h=>by
  rw [loopO] at h
  obtain ⟨ra,ha,h⟩:=bind_ok h
  obtain ⟨L1,a1,a2⟩:=bodyO_tg _ _ ra hf1 ha
  simp only at a1 a2
  obtain ⟨-,h2,h⟩:=holdsO_ok h
  by_cases hx:(exprE ra.S.look (lstT back t)).1≠0
  ·rw [if_pos (by simpa using hx)] at h
   injection h with h
   subst h
   exact ⟨_,.done he a1 h2 hx,by simp only [List.length_append,List.length_cons,List.length_nil]; omega⟩
  ·rw [if_neg (by simpa using hx)] at h
   obtain ⟨rb,hb,h⟩:=bind_ok h
   obtain ⟨L2,b1,b2⟩:=bodyO_tg _ _ rb hf2 hb
   simp only at b1 b2
   obtain ⟨rc,hc,h⟩:=bind_ok h
   obtain ⟨-,h3,h4,rfl⟩:=assertO_ok2 hc
   obtain ⟨L3,c1,c2⟩:=loopO_tg hf1 hf2 m rb r' h3 h
   exact ⟨_,.more he a1 h2 (by simpa using hx) b1 (by simpa using h4) c1,by simp only [List.length_append,List.length_cons]; omega⟩
theorem execO_tg {prs:List PR} {F:Int}:∀ (g:Nat) (back:Bool) (t:T) (r r':RS),execO prs F g back t r=.ok r'->∃ L,Tg prs (.stm back t) r.S L r'.S/\r'.n=r.n+L.length
 | 0,_,_,_,_,h=>by cases h
 | g+1,back,t,r,r',h=>by
  have hb:∀ back l r r',bodyO (execO prs F g back) l r=.ok r'->∃ L,Tg prs (.blk back l) r.S L r'.S/\r'.n=r.n+L.length:=fun back l r r' h =>
   bodyO_tg _ r r' (fun u hu r r' h=>execO_tg g back u r r' h) h
  rw [execO] at h
  split at h
  ·rename_i hk
   obtain ⟨-,e1,h⟩:=holdsO_ok h
   obtain ⟨r1,h1,h⟩:=bind_ok h
   obtain ⟨L,a1,a2⟩:=hb back _ _ r1 h1
   obtain ⟨-,e2,e3,rfl⟩:=assertO_ok2 h
   simp only at a1 a2
   refine ⟨_,.iff (L:=L) hk e1 ?_ e2 ?_,by simp only [List.length_append,List.length_cons,List.length_nil]; omega⟩
   ·simpa using a1
   ·have:=decide_eq_decide.1 e3
    exact this
  split at h
  ·rename_i hk
   obtain ⟨r1,h1,h⟩:=bind_ok h
   obtain ⟨-,e1,e2,rfl⟩:=assertO_ok2 h1
   obtain ⟨L,a1,a2⟩:=loopO_tg (fun u hu r r' h=>execO_tg g back u r r' h) (fun u hu r r' h=>execO_tg g back u r r' h) g r r' e1 h
   exact ⟨L,.frm hk (by simpa using e2) a1,a2⟩
  split at h
  ·rename_i hk
   obtain ⟨r1,h1,h⟩:=bind_ok h
   obtain ⟨rfl,hn⟩:=stepO_ok h1
   obtain ⟨v1,h⟩:=valO_ok h
   obtain ⟨r2,h2,h⟩:=bind_ok h
   obtain ⟨e0,rfl⟩:=storeO_ok h2
   obtain ⟨r3,h3,h⟩:=bind_ok h
   obtain ⟨L,a1,a2⟩:=hb back _ _ r3 h3
   obtain ⟨r4,h4,h⟩:=bind_ok h
   obtain ⟨rfl,hn2⟩:=stepO_ok h4
   obtain ⟨v2,h⟩:=valO_ok h
   obtain ⟨e1,rfl⟩:=storeO_ok h
   simp only at a1 a2
   exact ⟨_,.loc hk v1 e0 a1 v2 e1,by simp only [List.length_append,List.length_cons,List.length_nil]; omega⟩
  split at h
  ·rename_i hk
   obtain ⟨r1,h1,h⟩:=bind_ok h
   obtain ⟨rfl,hn⟩:=stepO_ok h1
   obtain ⟨r2,h2,h⟩:=bind_ok h
   obtain ⟨e0,rfl⟩:=storeO_ok h2
   obtain ⟨r3,h3,h⟩:=bind_ok h
   obtain ⟨L,a1,a2⟩:=hb back _ _ r3 h3
   obtain ⟨r4,h4,h⟩:=bind_ok h
   obtain ⟨rfl,hn2⟩:=stepO_ok h4
   obtain ⟨e1,rfl⟩:=storeO_ok h
   simp only at a1 a2
   exact ⟨_,.stk hk e0 a1 e1,by simp only [List.length_append,List.length_cons,List.length_nil]; omega⟩
  split at h
  ·rename_i hk
   split at h
   ·cases h
   ·rename_i i hi
    obtain ⟨r1,h1,h⟩:=bind_ok h
    obtain ⟨rfl,hn⟩:=stepO_ok h1
    obtain ⟨r2,h2,h⟩:=bind_ok h
    obtain ⟨e0,rfl⟩:=storeO_ok h2
    obtain ⟨r3,h3,h⟩:=bind_ok h
    obtain ⟨L,a1,a2⟩:=hb _ _ _ r3 h3
    obtain ⟨r4,h4,h⟩:=bind_ok h
    obtain ⟨rfl,hn2⟩:=stepO_ok h4
    obtain ⟨e1,rfl⟩:=storeO_ok h
    simp only at a1 a2
    exact ⟨_,.cal hk hi e0 a1 e1,by simp only [List.length_append,List.length_cons,List.length_nil]; omega⟩
  ·obtain ⟨r1,h1,h⟩:=bind_ok h
   obtain ⟨rfl,hn⟩:=stepO_ok h1
   obtain ⟨e0,rfl⟩:=storeO_ok h
   exact ⟨_,.bas (by omega) e0,rfl⟩
theorem runO_tg {prs:List PR} {F:Int} {g:Nat} {back:Bool} {b:T} {r r':RS} (h:runO prs F g back b r=.ok r'):∃ L,Tg prs (.blk back (blkL back b)) r.S L r'.S/\r'.n=r.n+L.length :=
 bodyO_tg _ r r' (fun u hu r r' h=>execO_tg g back u r r' h) h
theorem bII1' (A:Option Addr) (l c:Nat) (w:World):(Instr.buildSlice 23 1 #[(0,.slice A l c)]).run Tryz.prog w=.ok (.slice (some ⟨w.heap.size,0,none⟩) 1 1) (w.alloc (.cells #[.slice A l c] 24)):=by kernel_rfl
theorem bS12 (B C:Option Addr) (m d n e:Nat) (w:World):(Instr.build 26 #[(1,.slice B m d),(2,.slice C n e)]).run Tryz.prog w=.ok (.agg #[.slice none 0 0,.slice B m d,.slice C n e]) w:=by kernel_rfl
section
variable {P:Program} {ops:Array Oper} {Q:Exit->Act->World->Prop} {md:Region.Mode} {S1 S2:World->Prop} {k:Nat}
theorem wpG_invS' (I:Nat->Array Bool->Act->World->Prop) (hS:∀ f l a w,I f l a w->S1 w/\S2 w)
  (h:∀ f l a w,I f l a w->wpG P md ops Q S1 S2 k f l a w\/∃ f',f=f'+1/\Region.ready md ops l≠[]/\∀ i∈Region.ready md ops l,wpOp P ops Q i (fun a' w'=>I f' (l.setIfInBounds i true) a' w') a w) :
  ∀ f l a w,I f l a w->wpG P md ops Q S1 S2 k f l a w
 | 0,l,a,w,hi=>by
  rcases h 0 l a w hi with h1|⟨f',h1,_⟩
  ·exact h1
  ·omega
 | f+1,l,a,w,hi=>by
  rcases h (f+1) l a w hi with h1|⟨f',h1,h2,h3⟩
  ·exact h1
  ·obtain rfl:f=f':=by omega
   exact ⟨fun h0=>absurd h0 h2,fun i hm=>wpOp_mono (fun a' w' h'=>⟨⟨(hS _ _ _ _ h').1,fun _=>(hS _ _ _ _ h').2⟩,wpG_invS' I hS h f _ a' w' h'⟩) (h3 i hm)⟩
theorem wpG_invS {a0:Act} {f0:Nat} {l0:Array Bool} {w0:World} (I:Act->Nat->Array Bool->Act->World->Prop) (hS:∀ A f l a w,I A f l a w->S1 w/\S2 w)
  (h:∀ A,A=a0->∀ f l a w,I A f l a w->wpG P md ops Q S1 S2 k f l a w\/∃ f',f=f'+1/\Region.ready md ops l≠[]/\∀ i∈Region.ready md ops l,wpOp P ops Q i (fun a' w'=>I A f' (l.setIfInBounds i true) a' w') a w)
  (h0:I a0 f0 l0 a0 w0):wpG P md ops Q S1 S2 k f0 l0 a0 w0:=wpG_invS' (I a0) (hS a0) (h a0 rfl) _ _ _ _ h0
end
def rows1 (l0 l3 l4 l7 l9:Bool) (v5 v8 v9 v12:Value) (b3:Nat) (s:SS):Option SI->RowD
 | none=>if l9=true then ⟨boxV b3,26,3,1,[.slice none 0 0,.slice none 0 0,.slice none 0 0]⟩ else nilR
 | some .inp=>if l3=true then ⟨v8,3,1,s.tin.length,flatI s.tin⟩ else if l0=true then ⟨v5,3,1,0,[]⟩ else nilR
 | some .out=>if l7=true then ⟨v12,3,1,s.tout.length,flatI s.tout⟩ else if l4=true then ⟨v9,3,1,0,[]⟩ else nilR
 | some _=>nilR
def rowsC (vc vi vo:Value) (fc:Nat->Value) (b3:Nat) (s:SS) (j:Nat):Option SI->RowD
 | none=>⟨boxV b3,26,3,1,[vc,vi,vo]⟩
 | some .all=>⟨vc,24,1,j,(List.range j).map fc⟩
 | some (.el i)=>if i<j then ⟨fc i,3,1,(s.cells.getD i []).length,flatI (s.cells.getD i [])⟩ else nilR
 | some .inp=>⟨vi,3,1,s.tin.length,flatI s.tin⟩
 | some .out=>⟨vo,3,1,s.tout.length,flatI s.tout⟩
theorem nil_rws (w:World) (n0:Nat) (v5 v8 v9 v12:Value) (b3:Nat) (s:SS):Rws w n0 (rows1 false false false false false v5 v8 v9 v12 b3 s):=by
 have e:∀ i,rows1 false false false false false v5 v8 v9 v12 b3 s i=nilR:=by
  intro i
  rcases i with _|i
  ·rfl
  ·cases i<;>rfl
 refine ⟨fun i=>by rw [e]; exact ownsRow_nilR w n0,fun i j b _ hi _=>?_⟩
 rw [e] at hi
 simp [nilR,Value.ownBlock] at hi
theorem own_box3 (w:World) (n0:Nat) (h:n0<=w.heap.size) (a b c:Value) (E:TypeId):(w.alloc (.cells #[a,b,c] E)).ownsRow n0 E 3 (boxV w.heap.size) 1 [a,b,c] :=
 ⟨rfl,.inr ⟨w.heap.size,1,#[a,b,c],rfl,h,heap_alloc_new w _,Nat.le_refl _,by unfold maxLen; omega,rfl,rfl⟩⟩
theorem rowsC_step (vc vc' vi vo:Value) (fc:Nat->Value) (b3:Nat) (s:SS) (j:Nat) (l:List Int) (v8 r5:Value) (hl:s.cells.getD j []=l) :
  updR (updR (updR (updR (rowsC vc vi vo fc b3 s j) (some (.el j)) ⟨r5,3,1,0,[]⟩) (some (.el j)) ⟨v8,3,1,l.length,flatI l⟩) (some .all) ⟨vc',24,1,j+1,(List.range j).map fc++[v8]⟩) none ⟨boxV b3,26,3,1,[vc',vi,vo]⟩=rowsC vc' vi vo (fun i=>if i=j then v8 else fc i) b3 s (j+1):=by
 funext i
 rcases i with _|i
 ·rfl
 ·cases i with
  | all =>
   simp only [updR,rowsC,reduceCtorEq,if_false,if_true,RowD.mk.injEq,true_and]
   rw [List.range_succ,List.map_append]
   congr 1
   ·refine List.map_congr_left fun i hi=>?_
    have:i≠j:=by have:=List.mem_range.1 hi; omega
    simp [this]
   ·simp
  | inp=>rfl
  | out=>rfl
  | el i =>
   by_cases e:i=j
   ·subst e
    simp [updR,rowsC,<-hl]
   ·have e2:(i<j+1)↔(i<j):=by omega
    simp [updR,rowsC,e,e2]
theorem rowsC_end {W:World} {n0:Nat} {vc vi vo:Value} {fc:Nat->Value} {b3:Nat} {s:SS} (h:Rws W n0 (rowsC vc vi vo fc b3 s s.cells.length)):Rws W n0 (rowsS vc vi vo fc s):=by
 have e:∀ i,rowsS vc vi vo fc s i=rowsC vc vi vo fc b3 s s.cells.length (some i):=fun i=>by cases i<;>rfl
 refine ⟨fun i=>by rw [e]; exact h.row (some i),fun i j b hij hi hj=>?_⟩
 rw [e] at hi hj
 exact h.sep (some i) (some j) b (fun e'=>hij (by injection e')) hi hj
theorem own_of3 {w:World} {n0 b:Nat} {x y z:Value} {E:TypeId} (hn:n0<=b) (h:w.heap[b]?=some (.cells #[x,y,z] E (0,0))):w.ownsRow n0 E 3 (boxV b) 1 [x,y,z] :=
 ⟨rfl,.inr ⟨b,1,#[x,y,z],rfl,hn,h,Nat.le_refl _,by unfold maxLen; omega,rfl,rfl⟩⟩
theorem own_nil (w:World) (n0:Nat) (E:TypeId):w.ownsRow n0 E 1 (.slice none 0 0) 0 []:=⟨rfl,.inl ⟨rfl,rfl⟩⟩
theorem k_2 (l5 l9:Bool) (v5 v8 v8' v9 v12:Value) (b3:Nat) (s:SS):updR (rows1 false false false l5 l9 v5 v8' v9 v12 b3 s) (some .inp) ⟨v8,3,1,s.tin.length,flatI s.tin⟩=rows1 false true false l5 l9 v5 v8 v9 v12 b3 s:=by
 funext i
 rcases i with _|i
 ·rfl
 ·cases i<;>rfl
theorem k_5 (l2 l9:Bool) (v5 v8 v9 v12 v12':Value) (b3:Nat) (s:SS):updR (rows1 false l2 false false l9 v5 v8 v9 v12' b3 s) (some .out) ⟨v12,3,1,s.tout.length,flatI s.tout⟩=rows1 false l2 false true l9 v5 v8 v9 v12 b3 s:=by
 funext i
 rcases i with _|i
 ·rfl
 ·cases i<;>rfl
theorem k_7 (l2 l5:Bool) (v5 v8 v9 v12:Value) (b3 b3':Nat) (s:SS):updR (rows1 false l2 false l5 false v5 v8 v9 v12 b3' s) none ⟨boxV b3,26,3,1,[.slice none 0 0,.slice none 0 0,.slice none 0 0]⟩=rows1 false l2 false l5 true v5 v8 v9 v12 b3 s:=by
 funext i
 rcases i with _|i
 ·rfl
 ·cases i<;>rfl
theorem k_end (vi vo v5 v9:Value) (fc:Nat->Value) (b3:Nat) (s:SS):updR (updR (rows1 false true false true true v5 vi v9 vo b3 s) none ⟨boxV b3,26,3,1,[.slice none 0 0,vi,vo]⟩) (some .all) ⟨.slice none 0 0,24,1,0,[]⟩=rowsC (.slice none 0 0) vi vo fc b3 s 0:=by
 funext i
 rcases i with _|i
 ·rfl
 ·cases i<;>rfl
theorem k_step (vc vc' vi vo:Value) (fc:Nat->Value) (b3:Nat) (s:SS) (j:Nat) (l:List Int) (v8:Value) (hl:s.cells.getD j []=l) :
  updR (updR (updR (rowsC vc vi vo fc b3 s j) (some (.el j)) ⟨v8,3,1,l.length,flatI l⟩) (some .all) ⟨vc',24,1,j+1,(List.range j).map fc++[v8]⟩) none ⟨boxV b3,26,3,1,[vc',vi,vo]⟩=rowsC vc' vi vo (fun i=>if i=j then v8 else fc i) b3 s (j+1):=by
 rw [<-rowsC_step vc vc' vi vo fc b3 s j l v8 v8 hl]
 congr 2
 funext i
 by_cases e:i=some (.el j)
 ·subst e; simp [updR]
 ·simp [updR,e]
theorem Clone_st (s:SS) (v:Value) (w:World) (hv:SV w Any s v) (hcl:s.cells.length<=5864062014800):Calls Tryz.prog 79 #[v] w fun e W'=>∃ v',e=.returned v'/\OwnS W' w.heap.size s v'/\Below w.heap.size w W':=by
 have h1:=bS12
 have HV:=zh hv
 obtain ⟨A,c,B,d,D,e,rfl,hr1,hr2,hr3,hc1,hc2,hc3,hl1,hl2,hl3,hl4⟩:=hv
 have hk:=heap_alloc_new w (.cells #[.slice A s.cells.length c,.slice B s.tin.length d,.slice D s.tout.length e] 26)
 have hbw:Below w.heap.size w ((w.alloc (.cells #[.slice A s.cells.length c,.slice B s.tin.length d,.slice D s.tout.length e] 26)).alloc (.cells #[.slice none 0 0,.slice none 0 0,.slice none 0 0] 26)):=bl_al (bl_al (Below.refl _ _) _) _
 have hk2:=blk_al hk (.cells #[.slice none 0 0,.slice none 0 0,.slice none 0 0] 26)
 have hz1:((w.alloc (.cells #[.slice A s.cells.length c,.slice B s.tin.length d,.slice D s.tout.length e] 26)).alloc (.cells #[.slice none 0 0,.slice none 0 0,.slice none 0 0] 26)).heap.size=w.heap.size+1+1:=by simp
 have hk3:=heap_alloc_new (w.alloc (.cells #[.slice A s.cells.length c,.slice B s.tin.length d,.slice D s.tout.length e] 26)) (.cells #[.slice none 0 0,.slice none 0 0,.slice none 0 0] 26)
 rw [World.size_alloc] at hk3
 have HI:=zh (show s.I from ⟨fun l hl=>by
  obtain ⟨i,hi,rfl⟩:=List.mem_iff_getElem.1 hl
  obtain ⟨_,_,_,_,_,_,_,hr⟩:=hr1 i hi
  exact hr.fits,hr2.fits,hr3.fits⟩)
 go_enter Tryz.func79,Tryz.ntmps79
 go_upto_region 1 with fail
 obtain ⟨w1,hw1⟩:∃ x,(w.alloc (.cells #[.slice A s.cells.length c,.slice B s.tin.length d,.slice D s.tout.length e] 26)).alloc (.cells #[.slice none 0 0,.slice none 0 0,.slice none 0 0] 26)=x:=⟨_,rfl⟩
 rw [hw1] at hbw hk2 hk3 hz1 ⊢
 have HB1:=zh hbw
 have HK1:=zh hk2
 have HK3:=zh hk3
 have HR1:=zh (hr1.later hbw)
 have HR2:=zh (hr2.later hbw)
 have HR3:=zh (hr3.later hbw)
 have HL:=zh (show s.Lim from ⟨hl1,hl2,hl3,hl4⟩)
 clear hk hbw hk2 hk3 hw1 hr1 hr2 hr3 hl1 hl2 hl3 hl4 HV
 obtain ⟨z0,z1,z2⟩:=box3o HK1.out
 have hSS:(fun w':World=>w'.cell? ⟨w.heap.size,1,none⟩=some (.slice B s.tin.length d)/\w'.cell? ⟨w.heap.size,2,none⟩=some (.slice D s.tout.length e)) w1.drew/\(fun _:World=>True) w1.drew:=⟨⟨z1,z2⟩,trivial⟩
 refine wp_region_noPanic ?_
 refine wp_region_G (fun w':World=>w'.cell? ⟨w.heap.size,1,none⟩=some (.slice B s.tin.length d)/\w'.cell? ⟨w.heap.size,2,none⟩=some (.slice D s.tout.length e)) (fun _:World=>True) 8 (by kernel_rfl) ?_
 refine zT 0 hSS ?_
 (try simp only [Act.put,zP])
 refine zT 1 hSS ?_
 (try simp only [Act.put,zP])
 refine zT 3 hSS ?_
 (try simp only [Act.put,zP])
 refine zT 4 hSS ?_
 (try simp only [Act.put,zP])
 refine wpG_invS (fun A f l a wr=>∃ (l2 l5 l6 l7:Bool) (v8 v12 v13 v3:Value) (b3:Nat),f=(!l2).toNat+(!l5).toNat+(!l6).toNat+(!l7).toNat+1/\l = #[true,true,l2,true,true,l5,l6,l7,false] /\
  a=(((A.put (some 8) v8).put (some 11) v12).put (some 12) v13).put (some 3) v3/\Hid (Below w1.heap.size w1 wr)/\Hid (Rws wr w1.heap.size (rows1 false l2 false l5 l7 undef v8 undef v12 b3 s))/\Hid ((l5=true->l2=true)/\(l6=true->v13=.agg #[.slice none 0 0,v8,v12]/\l2=true/\l5=true)/\(l7=true->v3=.pointer (some ⟨b3,0,none⟩)))/\Hid (l7=false->v3=undef)) (fun A f l a wr h=>?_) ?_ ⟨false,false,false,false,undef,undef,undef,undef,0,rfl,rfl,(by simp only [Act.put,zD,zE,zF]),zh (Below.refl _ _).drew,zh (nil_rws _ _ _ _ _ _ _ _),zh ⟨fun h=>(by cases h),fun h=>(by cases h),fun h=>(by cases h)⟩,zh (fun _=>rfl)⟩
 ·obtain ⟨_,_,_,_,_,_,_,_,_,_,_,_,hb,_⟩:=h
  exact ⟨⟨zb hb.out z1,zb hb.out z2⟩,trivial⟩
 rintro A' hA f l a wr ⟨l2,l5,l6,l7,v8,v12,v13,v3,b3,hf,rfl,ha,HBL,HRW,HC,HU⟩
 by_cases hall:(l2&&l5&&l6&&l7)=true
 ·left
  simp only [Bool.and_eq_true] at hall
  obtain ⟨⟨⟨rfl,rfl⟩,rfl⟩,rfl⟩:=hall
  obtain ⟨-,h13,h3⟩:=HC.out
  obtain ⟨rfl,-,-⟩:=h13 rfl
  obtain rfl:=h3 rfl
  subst hf ha hA
  have hrow:=HRW.out.row none
  obtain ⟨B8,c8,e8,-,-⟩:=row_slice (HRW.out.row (some .inp))
  change v8=.slice B8 s.tin.length c8 at e8
  obtain ⟨B12,c12,e12,-,-⟩:=row_slice (HRW.out.row (some .out))
  change v12=.slice B12 s.tout.length c12 at e12
  subst e8 e12
  have hbx:=box_row hrow
  have c0:wr.cell? ⟨b3,0,none⟩=some (.slice none 0 0):=zc hbx rfl
  have c1:wr.cell? ⟨b3,1,none⟩=some (.slice none 0 0):=zc hbx rfl
  have c2:wr.cell? ⟨b3,2,none⟩=some (.slice none 0 0):=zc hbx rfl
  have cf:∀ j,wr.frozen? ⟨b3,j,none⟩=false:=fun j=>zf hbx
  refine wpG_past (i:=8) (by kernel_rfl) rfl (by kernel_rfl) (fun K hK=>?_)
  (try simp only [Act.put,zP])
  go_simp
  have hb3:w1.heap.size<=b3/\b3<wr.heap.size:=hrow.lt b3 rfl
  have hch:Chg (fun b=>b=b3) wr (((wr.setCell ⟨b3,0,none⟩ (.slice none 0 0)).setCell ⟨b3,1,none⟩ (.slice B8 s.tin.length c8)).setCell ⟨b3,2,none⟩ (.slice B12 s.tout.length c12)) :=
   (((Chg.refl (fun b=>b=b3) wr).setCell (p:=⟨b3,0,none⟩) (.inl rfl) _).setCell (p:=⟨b3,1,none⟩) (.inl rfl) _).setCell (p:=⟨b3,2,none⟩) (.inl rfl) _
  have hh:=heap_setCell_same _ b3 2 _ _ (.slice B12 s.tout.length c12) (heap_setCell_same _ b3 1 _ _ (.slice B8 s.tin.length c8) (heap_setCell_same wr b3 0 _ _ (.slice none 0 0) hbx))
  have HBX:=zh (HBL.out.trans (hch.below HBL.out.size fun b e=>by omega))
  have hrw:=(HRW.out.upd none (r:=⟨boxV b3,26,3,1,[.slice none 0 0,.slice B8 s.tin.length c8,.slice B12 s.tout.length c12]⟩) (hch.mono fun b _ e=>by subst e; rfl) (own_of3 hb3.1 hh) (fun b hb=>.inl hb)).upd (some .all) (r:=⟨.slice none 0 0,24,1,0,[]⟩) (Chg.refl _ _) (own_nil _ _ _) (fun b hb=>by simp [Value.ownBlock] at hb)
  rw [k_end (fc:=fun _=>.slice none 0 0)] at hrw
  have HRC:=zh hrw
  obtain ⟨w2,hw2⟩:∃ x,((wr.setCell ⟨b3,0,none⟩ (.slice none 0 0)).setCell ⟨b3,1,none⟩ (.slice B8 s.tin.length c8)).setCell ⟨b3,2,none⟩ (.slice B12 s.tout.length c12)=x:=⟨_,rfl⟩
  rw [hw2] at HBX HRC ⊢
  have hSS2:(fun w':World=>w'.cell? ⟨w.heap.size,1,none⟩=some (.slice B s.tin.length d)/\w'.cell? ⟨w.heap.size,2,none⟩=some (.slice D s.tout.length e)) w2:=⟨zb HBX.out z1,zb HBX.out z2⟩
  refine hK.out _ _ hSS2 ?_
  clear hK K hSS hSS2 hch hh hrw hw2 hbx c0 c1 c2 cf hrow HRW HBL HU HC h13 h3 h1
  refine wpG_done (by kernel_rfl) ?_
  refine NoPanic.normal ?_
  obtain ⟨vi,hvi⟩:∃ x,Value.slice B8 s.tin.length c8=x:=⟨_,rfl⟩
  obtain ⟨vo,hvo⟩:∃ x,Value.slice B12 s.tout.length c12=x:=⟨_,rfl⟩
  rw [hvi,hvo] at HRC
  have HVI:=zh hvi
  have HVO:=zh hvo
  clear hvi hvo
  have q0:=zb HBX.out z0
  go_wp2_with fail
  clear q0
  go_loopw [16] (fun i wr=>∃ j:Nat,j<=s.cells.length/\i=.int .i64 j/\Hid (Below w1.heap.size w1 wr)/\∃ vc fc,Hid (Rws wr w1.heap.size (rowsC vc vi vo fc b3 s j))) (fun i _=>s.cells.length-(intOf i).toNat)
  case atStart=>exact ⟨0,Nat.zero_le _,rfl,HBX,_,_,HRC⟩
  case round =>
   clear HBX HRC
   obtain ⟨j,hj,rfl,HBL,vc,fc,HRW⟩:=hrel
   have y0:=zb HBL.out z0
   by_cases hlt:j<s.cells.length
   ·have hj1:(j:Int)<(s.cells.length:Int):=by omega
    have hj0:(0:Int)<=(j:Int):=by omega
    obtain ⟨a,l,Al,cl,rfl,Hl,hcl0,hlc,hrl⟩:=(HR1.out.later HBL.out).nd hlt
    have HRL:=zh hrl
    have HLL:=zh (show l.length<=LI by rw [<-Hl.out]; exact HL.out.2.1 _ (List.getElem_mem hlt))
    have hbx:=box_row (HRW.out.row none)
    have x0:wr.cell? ⟨b3,0,none⟩=some vc:=zc hbx rfl
    have hz0:wr.frozen? ⟨b3,0,none⟩=false:=zf hbx
    obtain ⟨Av,cv,hvc,-⟩:=row_slice (HRW.out.row (some .all))
    change vc=.slice Av j cv at hvc
    subst hvc
    have hS0:(fun _:World=>True) wr.drew/\(fun w':World=>w'.cell? ⟨b3,0,none⟩=some (.slice Av j cv)) wr.drew:=⟨trivial,x0⟩
    obtain ⟨i0,hi0,hq0,hq1,hq2⟩:=info_parts sIInfo
    have HCL:=zh (CloneI_own l Al cl Any wr.drew (HRL.out.later (Below.refl _ _).drew) HLL.out)
    go_upto_region 5 with fail
    refine wp_region_noPanic ?_
    refine wp_region_G (fun _:World=>True) (fun w':World=>w'.cell? ⟨b3,0,none⟩=some (.slice Av j cv)) 7 (by kernel_rfl) ?_
    refine zT 0 hS0 ?_
    (try simp only [Act.put,zP])
    refine wpG_take2 (i:=1) (v:=?_) rfl (by kernel_rfl) (by kernel_rfl) (by kernel_rfl) (by decide) rfl (by kernel_rfl) (by kernel_rfl) (fun _ _ _ h=>h) (Or.inl ⟨by rfl,?_⟩) hS0 ?_
    rotate_left 1
    ·(intro w hSw; (try dsimp only at hSw); (try simp only [zA,zB,zC]); go_simp; (try with_reducible rfl))
    (try simp only [Act.put,zP])
    refine zT 2 hS0 ?_
    (try simp only [Act.put,zP])
    have hsz:=HBL.out.size
    have had:Calls Tryz.prog 49 [.slice Al l.length cl].toArray wr.drew fun e w'=>∃ v,e=.returned v/\(w'.ownsRow wr.heap.size 3 1 v l.length (flatI l)/\Below wr.heap.size wr w') :=
     HCL.out.mono fun e w' ⟨v,h1,h2,_,h4⟩=>⟨v,h1,h2,bl_tt (Below.refl wr.heap.size wr).drew h4⟩
    refine wpG_one (i:=3) (by kernel_rfl) rfl (fun K hK=>?_)
    refine step_callL (by rfl) (.func 49) [.tmp 22] _ (by rfl) 49 _ fnCloneI (by rfl) _ (by rfl) _ had ?_
    rintro v8 wb ⟨ho,hbb⟩
    have hd1:=HRW.out.upd (some (.el j)) (r:=⟨v8,3,1,l.length,flatI l⟩) (Chg.of_below hbb) (own_mono ho hsz) (fun b hb=>.inr (ho.lt b hb).1)
    have HD1:=zh hd1
    have HBB:=zh hbb
    have hS2:(fun _:World=>True) wb/\(fun w':World=>w'.cell? ⟨b3,0,none⟩=some (.slice Av j cv)) wb:=⟨trivial,zb HBB.out x0⟩
    obtain ⟨A8,c8',rfl,-⟩:=row_slice ho
    refine hK.out _ _ hS2 ?_
    clear hK K hd1 ho hS0 hbb had
    (try simp only [Act.put,zP])
    have h1:=bII1'
    refine wpG_one (i:=4) (by kernel_rfl) rfl (fun K hK=>?_)
    (try simp only [zA,zB,zC])
    go_simp
    have HBC:=zh (show Below wr.heap.size wr (wb.alloc (.cells #[.slice A8 l.length c8'] 24)) from bl_al HBB.out _)
    have HD2:=zh (HD1.out.later (show Below wb.heap.size wb (wb.alloc (.cells #[.slice A8 l.length c8'] 24)) from bl_al (Below.refl _ _) _))
    have HN2:=zh (show (wb.alloc (.cells #[.slice A8 l.length c8'] 24)).heap[wb.heap.size]?=some (.cells #[.slice A8 l.length c8'] 24 (0,0)) from heap_alloc_new wb _)
    have hS3:(fun _:World=>True) (wb.alloc (.cells #[.slice A8 l.length c8'] 24))/\(fun w':World=>w'.cell? ⟨b3,0,none⟩=some (.slice Av j cv)) (wb.alloc (.cells #[.slice A8 l.length c8'] 24)):=⟨trivial,zb HBC.out x0⟩
    obtain ⟨wc,hwc⟩:∃ x,(wb.alloc (.cells #[.slice A8 l.length c8'] 24))=x:=⟨_,rfl⟩
    rw [hwc] at HBC HD2 HN2 hS3 ⊢
    refine hK.out _ _ hS3 ?_
    clear hK K hwc hS2 HD1
    (try simp only [Act.put,zP])
    have hszC:=(bl_tt HBL.out HBC.out).size
    have hrow:=HD2.out.row (some .all)
    rw [updR_other (by simp)] at hrow
    change wc.ownsRow w1.heap.size 24 1 (.slice Av j cv) j ((List.range j).map fc) at hrow
    refine wpG_one (i:=5) (by kernel_rfl) rfl (fun K hK=>?_)
    refine step_append_own (by rfl) (.tmp 21) (.tmp 24) 23 (by rfl) w1.heap.size 24 i0 _ 1 24 Tryz.underlying23 hi0 hq0 hq1 hq2 rfl (by decide) (.slice Av j cv) j ((List.range j).map fc) (by rfl) hrow ⟨wb.heap.size,0,none⟩ 1 1 [.slice A8 l.length c8'] (by rfl) rfl (fun q u hq=>by
     match q,hq with
     | 0,hq=>injection hq with hq; subst hq; exact zc HN2.out rfl) (fun u hu=>by simp at hu; subst hu; rfl) (by unfold maxLen; omega) (by omega) hszC (fun vd wd ho hg hob=>?_)
    have hd3:=HD2.out.upd (some .all) (r:=⟨vd,24,1,j+1,(List.range j).map fc++[.slice A8 l.length c8']⟩) ((Chg.row hg).mono fun b _ hb=>hb) ho (fun b hb=>by
     rcases hob with h5|h5
     ·exact .inl (h5▸hb)
     ·exact .inr (by rw [h5] at hb; injection hb with hb; omega))
    have HD3:=zh hd3
    have hav:∀ g,(Value.slice Av j cv).ownBlock=some g->(rowsC (.slice Av j cv) vi vo fc b3 s j (some .all)).v.ownBlock=some g:=fun g e=>e
    have hsep:∀ g,(Value.slice Av j cv).ownBlock=some g->g≠b3:=fun g e h=>HRW.out.sep (some .all) none g (by simp) e (by rw [h]; rfl)
    have hlo:∀ g,(Value.slice Av j cv).ownBlock=some g->w1.heap.size<=g:=fun g e=>(HRW.out.lt (some .all) g e).1
    have hchg:Chg (fun b=>(Value.slice Av j cv).ownBlock=some b) wc wd:=Chg.row hg
    have HBD:=zh (show Below w1.heap.size w1 wd from (bl_tt HBL.out HBC.out).grown hg hszC (fun g e=>hlo g e))
    have hbx3:=box_row (HD3.out.row none)
    have e0:wd.cell? ⟨b3,0,none⟩=some (.slice Av j cv):=zc hbx3 rfl
    have ez:wd.frozen? ⟨b3,0,none⟩=false:=zf hbx3
    have hab:a.block<w1.heap.size:=by
     obtain ⟨a',_,_,e',_,hc',_⟩:=HR1.out j hlt
     injection e' with e'
     subst e'
     have:=World.block_lt_of_cell? w1 _ hc'
     rwa [block_add] at this
    have hS4:(fun _:World=>True) wd/\(fun w':World=>w'.cell? ⟨b3,0,none⟩=some (.slice Av j cv)) wd:=⟨trivial,e0⟩
    have hd4:=HD3.out.set none (g:=b3) (o:=0) (by rfl) (by show 0<3; decide) vd
    have hd5:Rws (wd.setCell ⟨b3,0,none⟩ vd) w1.heap.size (rowsC vd vi vo (fun i=>if i=j then .slice A8 l.length c8' else fc i) b3 s (j+1)):=by
     rw [<-k_step (.slice Av j cv) vd vi vo fc b3 s j l (.slice A8 l.length c8') (by rw [List.getD_eq_getElem?_getD,List.getElem?_eq_getElem hlt]; exact Hl.out)]
     exact hd4
    have HD5:=zh hd5
    have hb3lt:=(HD3.out.lt none b3 rfl)
    have HBE:=zh (show Below w1.heap.size w1 (wd.setCell ⟨b3,0,none⟩ vd) from HBD.out.trans ((((Chg.refl (fun b=>b=b3) wd).setCell (p:=⟨b3,0,none⟩) (.inl rfl) vd)).below HBD.out.size fun b e=>by omega))
    obtain ⟨Ad,cd',rfl,-⟩:=row_slice ho
    refine hK.out _ _ hS4 ?_
    clear hK K hd3 hd4 hd5 ho hg hob hrow hS3 hchg hav hsep hlo hbx3
    (try simp only [Act.put,zP])
    refine wpG_one (i:=6) (by kernel_rfl) rfl (fun K hK=>?_)
    (try simp only [zA,zB,zC])
    go_simp
    refine hK.out _ _ hS4 ?_
    clear hK K
    (try simp only [Act.put,zP])
    refine wpG_past (i:=7) (by kernel_rfl) rfl (by kernel_rfl) (fun K hK=>?_)
    (try simp only [zA,zB,zC])
    go_simp
    refine hK.out _ _ trivial ?_
    clear hK K
    (try simp only [Act.put,zP])
    refine wpG_done (by kernel_rfl) ?_
    refine NoPanic.normal ?_
    go_wp2_with fail
    go_roundw
    case rel=>exact ⟨j+1,by omega,by go_num,HBE,_,_,HD5⟩
    case measure=>simp [intOf]; omega
   ·obtain rfl:j=s.cells.length:=by omega
    have hj1:¬ (s.cells.length:Int)<(s.cells.length:Int):=by omega
    have hbx:=box_row (HRW.out.row none)
    have x0:wr.cell? ⟨b3,0,none⟩=some vc:=zc hbx rfl
    have x1:wr.cell? ⟨b3,1,none⟩=some vi:=zc hbx rfl
    have x2:wr.cell? ⟨b3,2,none⟩=some vo:=zc hbx rfl
    obtain ⟨Av,cv,hvc,-⟩:=row_slice (HRW.out.row (some .all))
    change vc=.slice Av s.cells.length cv at hvc
    subst hvc
    rw [<-HVI.out] at x1
    rw [<-HVO.out] at x2
    have hk3:=blk_bl HK3.out HBL.out
    have q0:wr.cell? ⟨w.heap.size+1,0,none⟩=some (.slice none 0 0):=zc hk3 rfl
    have q1:wr.cell? ⟨w.heap.size+1,1,none⟩=some (.slice none 0 0):=zc hk3 rfl
    have q2:wr.cell? ⟨w.heap.size+1,2,none⟩=some (.slice none 0 0):=zc hk3 rfl
    have cf:∀ j,wr.frozen? ⟨w.heap.size+1,j,none⟩=false:=fun j=>zf hk3
    have HRE:=zh (rowsC_end HRW.out)
    have HK3E:=zh hk3
    clear hbx hk3 HRW
    go_wp2_with fail
    have hch:Chg (fun b=>b=w.heap.size+1) wr (((wr.setCell ⟨w.heap.size+1,0,none⟩ (.slice Av s.cells.length cv)).setCell ⟨w.heap.size+1,1,none⟩ (.slice B8 s.tin.length c8)).setCell ⟨w.heap.size+1,2,none⟩ (.slice B12 s.tout.length c12)) :=
     (((Chg.refl (fun b=>b=w.heap.size+1) wr).setCell (p:=⟨w.heap.size+1,0,none⟩) (.inl rfl) _).setCell (p:=⟨w.heap.size+1,1,none⟩) (.inl rfl) _).setCell (p:=⟨w.heap.size+1,2,none⟩) (.inl rfl) _
    have hh:=heap_setCell_same _ (w.heap.size+1) 2 _ _ (.slice B12 s.tout.length c12) (heap_setCell_same _ (w.heap.size+1) 1 _ _ (.slice B8 s.tin.length c8) (heap_setCell_same wr (w.heap.size+1) 0 _ _ (.slice Av s.cells.length cv) HK3E.out))
    obtain ⟨w9,hw9⟩:∃ x,((wr.setCell ⟨w.heap.size+1,0,none⟩ (.slice Av s.cells.length cv)).setCell ⟨w.heap.size+1,1,none⟩ (.slice B8 s.tin.length c8)).setCell ⟨w.heap.size+1,2,none⟩ (.slice B12 s.tout.length c12)=x:=⟨_,rfl⟩
    rw [hw9] at hch hh ⊢
    have t0:w9.cell? ⟨w.heap.size+1,0,none⟩=some (.slice Av s.cells.length cv):=zc hh (by simp)
    have t1:w9.cell? ⟨w.heap.size+1,1,none⟩=some (.slice B8 s.tin.length c8):=zc hh (by simp)
    have t2:w9.cell? ⟨w.heap.size+1,2,none⟩=some (.slice B12 s.tout.length c12):=zc hh (by simp)
    refine bodyPost_ret (v:=.agg #[.slice Av s.cells.length cv,.slice B8 s.tin.length c8,.slice B12 s.tout.length c12]) (by simp [results,Tryz.results79,go_sem,t0,t1,t2]) rfl ⟨_,rfl,?_,(bl_tt HB1.out HBL.out).trans (hch.below (bl_tt HB1.out HBL.out).size fun b e=>by omega)⟩
    have hrw:=HRE.out.chg hch (fun i b hb e=>by have:=(HRE.out.lt i b hb).1; omega)
    rw [<-HVI.out,<-HVO.out] at hrw
    exact ⟨_,_,_,_,rfl,hrw.mono (by omega),HI.out⟩
 ·right
  have HC0:=HC.out
  have hcc:(l5=true->l2=true)/\(l6=true->l2=true/\l5=true):=⟨HC0.1,fun h=>(HC0.2.1 h).2⟩
  refine ⟨f-1,?_,?_,?_⟩
  ·clear HC HC0 HRW HU ha HBL hcc
   subst hf
   revert hall
   revert l2 l5 l6 l7
   decide
  ·clear HC HC0 HRW HU ha HBL hf
   revert hall hcc
   revert l2 l5 l6 l7
   decide +kernel
  intro i hi
  have hcase:(i=2/\l2=false)\/(i=5/\l5=false/\l2=true)\/(i=6/\l6=false/\l2=true/\l5=true)\/(i=7/\l7=false):=by
   refine of_decide_eq_true ((List.all_eq_true (p:=fun i=>decide ((i=2/\l2=false)\/(i=5/\l5=false/\l2=true)\/(i=6/\l6=false/\l2=true/\l5=true)\/(i=7/\l7=false)))).1 ?_ i hi)
   clear HC HC0 HRW HU ha HBL hf hi
   revert hall hcc
   revert l2 l5 l6 l7
   decide +kernel
  clear hi hall
  subst ha hA
  rcases hcase with ⟨rfl,rfl⟩|⟨rfl,rfl,rfl⟩|⟨rfl,rfl,rfl,rfl⟩|⟨rfl,rfl⟩
  ·refine wpOp_step rfl (fun K' hK0=>?_)
   have hK:=zh hK0
   clear hK0
   have hsz:=HBL.out.size
   have had:Calls Tryz.prog 49 [.slice B s.tin.length d].toArray wr fun e w'=>∃ v,e=.returned v/\(w'.ownsRow wr.heap.size 3 1 v s.tin.length (flatI s.tin)/\Below wr.heap.size wr w') :=
    (CloneI_own s.tin B d Any wr (HR2.out.later HBL.out) HL.out.2.2.1).mono fun e w' ⟨v,h1,h2,_,h4⟩=>⟨v,h1,h2,h4⟩
   refine step_callL (by rfl) (.func 49) [.tmp 7] _ (by rfl) 49 _ fnCloneI (by rfl) _ (by rfl) _ had ?_
   rintro v' w' ⟨ho,hb⟩
   obtain rfl:l6=false:=by
    rcases l6 with _|_
    ·rfl
    ·exact absurd (hcc.2 rfl).1 (by decide)
   obtain rfl:l5=false:=by
    rcases l5 with _|_
    ·rfl
    ·exact absurd (hcc.1 rfl) (by decide)
   have hrw:=HRW.out.upd (some .inp) (r:=⟨v',3,1,s.tin.length,flatI s.tin⟩) (Chg.of_below hb) (own_mono ho hsz) (fun b hb=>.inr (ho.lt b hb).1)
   rw [k_2] at hrw
   exact hK.out _ _ ⟨true,false,false,l7,_,v12,v13,v3,b3,(by subst hf; simp<;>omega),rfl,(by simp only [Act.put,zP]),zh (bl_tt HBL.out hb),zh hrw,zh ⟨fun h=>(by cases h),fun h=>(by cases h),HC0.2.2⟩,HU⟩
  ·refine wpOp_step rfl (fun K' hK0=>?_)
   have hK:=zh hK0
   clear hK0
   have hsz:=HBL.out.size
   have had:Calls Tryz.prog 49 [.slice D s.tout.length e].toArray wr fun e w'=>∃ v,e=.returned v/\(w'.ownsRow wr.heap.size 3 1 v s.tout.length (flatI s.tout)/\Below wr.heap.size wr w') :=
    (CloneI_own s.tout D e Any wr (HR3.out.later HBL.out) HL.out.2.2.2).mono fun e w' ⟨v,h1,h2,_,h4⟩=>⟨v,h1,h2,h4⟩
   refine step_callL (by rfl) (.func 49) [.tmp 10] _ (by rfl) 49 _ fnCloneI (by rfl) _ (by rfl) _ had ?_
   rintro v' w' ⟨ho,hb⟩
   obtain rfl:l6=false:=by
    rcases l6 with _|_
    ·rfl
    ·exact absurd (hcc.2 rfl).2 (by decide)
   have hrw:=HRW.out.upd (some .out) (r:=⟨v',3,1,s.tout.length,flatI s.tout⟩) (Chg.of_below hb) (own_mono ho hsz) (fun b hb=>.inr (ho.lt b hb).1)
   rw [k_5] at hrw
   exact hK.out _ _ ⟨true,true,false,l7,v8,_,v13,v3,b3,(by subst hf; simp<;>omega),rfl,(by simp only [Act.put,zP]),zh (bl_tt HBL.out hb),zh hrw,zh ⟨fun _=>rfl,fun h=>(by cases h),HC0.2.2⟩,HU⟩
  ·refine wpOp_step rfl (fun K' hK0=>?_)
   have hK:=zh hK0
   clear hK0
   obtain ⟨B8,c8,e8,-,-⟩:=row_slice (HRW.out.row (some .inp))
   change v8=.slice B8 s.tin.length c8 at e8
   obtain ⟨B12,c12,e12,-,-⟩:=row_slice (HRW.out.row (some .out))
   change v12=.slice B12 s.tout.length c12 at e12
   subst e8 e12
   (try simp only [Act.put,zP])
   go_simp
   exact hK.out _ _ ⟨true,true,true,l7,_,_,_,v3,b3,(by subst hf; simp<;>omega),rfl,(by simp only [Act.put,zD,zE,zF]),HBL,HRW,zh ⟨fun _=>rfl,fun _=>⟨rfl,rfl,rfl⟩,HC0.2.2⟩,HU⟩
  ·refine wpOp_step rfl (fun K' hK0=>?_)
   have hK:=zh hK0
   clear hK0
   obtain rfl:=HU.out rfl
   (try simp only [Act.put,zP])
   go_simp
   have hsz:=HBL.out.size
   have hrw:=HRW.out.upd none (r:=⟨boxV wr.heap.size,26,3,1,[.slice none 0 0,.slice none 0 0,.slice none 0 0]⟩) (W':=wr.alloc (.cells #[.slice none 0 0,.slice none 0 0,.slice none 0 0] 26)) (Chg.of_below (bl_al (Below.refl _ _) _)) (own_box3 wr _ hsz _ _ _ _) (fun b hb=>.inr (by simp [Value.ownBlock] at hb; omega))
   rw [k_7] at hrw
   exact hK.out _ _ ⟨l2,l5,l6,true,v8,v12,v13,_,wr.heap.size,(by subst hf; simp<;>omega),rfl,(by simp only [Act.put,zD,zE,zF]),zh (bl_al HBL.out _),zh hrw,zh ⟨HC0.1,HC0.2.1,fun _=>rfl⟩,zh (fun h=>(by cases h))⟩
def CH.nums (c:CH):List Value:=[.int .i64 c.cell,.int .i64 c.at',.int .i64 c.old,.int .i64 c.new]
def flatC (l:List CH):List Value:=l.flatMap CH.nums
def CH.I (c:CH):Prop:=I64 c.cell/\I64 c.at'/\I64 c.old/\I64 c.new
def RowC (w:World) (S:Nat->Prop) (A:Option Addr) (l:List CH):Prop :=
 ∀ i (hi:i<l.length),∃ a:Addr,A=some a/\S a.block/\Cell4 w (a.add (i*4)) (.int .i64 l[i].cell) (.int .i64 l[i].at') (.int .i64 l[i].old) (.int .i64 l[i].new)
theorem RowC.keep {w w':World} {S S':Nat->Prop} {A:Option Addr} {l:List CH} (h:RowC w S A l) (hS:∀ b,S b->b<w.heap.size->S' b) (hk:∀ b,S b->b<w.heap.size->w'.heap[b]?=w.heap[b]?):RowC w' S' A l:=fun i hi=>by
 obtain ⟨a,hA,hSa,h0,h1,h2,h3⟩:=h i hi
 have hlt:a.block<w.heap.size:=by have:=World.block_lt_of_cell? w _ h0; rwa [block_add] at this
 have hb:=hk _ hSa hlt
 refine ⟨a,hA,hS _ hSa hlt,cell_kp h0 ?_,cell_kp h1 ?_,cell_kp h2 ?_,cell_kp h3 ?_⟩<;>simp only [block_add]<;>exact hb
theorem RowC.later {w w':World} {S:Nat->Prop} {A:Option Addr} {l:List CH} (h:RowC w S A l) (hb:Below w.heap.size w w'):RowC w' S A l:=h.keep (fun _ hb _=>hb) fun b _ hlt=>hb.block b hlt
def EvR (w:World) (n0:Nat) (O:Nat->Prop) (v:Value) (es:List (List CH)):Prop :=
 ∃ xs,w.ownsRow n0 55 1 v es.length xs/\(∀ b,v.ownBlock=some b->O b)/\∀ i (hi:i<es.length),∃ A c,xs[i]?=some (.slice A es[i].length c)/\es[i].length<=c/\RowC w (fun b=>O b/\v.ownBlock≠some b) A es[i]
structure TC where
 w:World
 n0:Nat
 sb:Nat
 tb:Nat
 p:PG
 A1:Option Addr
 c1:Nat
 A2:Option Addr
 c2:Nat
 A3:Option Addr
 c3:Nat
 s0:SS
 kb:Nat->Prop
structure TC.Ok (C:TC):Prop where
 pg:PgR C.w Any C.p C.A1 C.c1 C.A2 C.c2 C.A3 C.c3
 tb:C.n0<=C.tb/\¬ C.kb C.tb
 ps:∀ q∈C.p.prs,q.ps.length<=1000
def TC.cells (C:TC) (v1 v2 v3 ev:Value):Array Value := #[.slice C.A1 C.p.vs.length C.c1,.slice C.A2 C.p.prs.length C.c2,.int .u8 C.p.m.k,.int .i64 C.p.m.n,.string C.p.m.s,.slice C.A3 C.p.m.ks.length C.c3,.pointer (some ⟨C.sb,0,none⟩),v1,v2,v3,ev]
def TX (C:TC) (W:World) (S:ST) (L:List SS):Prop :=
 ∃ (O:Nat->Prop) (v1 v2 v3 ev:Value),KS C.w C.n0 C.sb (fun b=>C.kb b\/b=C.tb\/O b) W S/\(∀ b,O b->C.n0<=b/\¬ C.kb b/\b≠C.tb)/\W.heap[C.tb]?=some (.cells (C.cells v1 v2 v3 ev) 119 (0,0)) /\
  SV W (fun b=>O b/\ev.ownBlock≠some b) (lastS C.s0 L) (.agg #[v1,v2,v3])/\EvR W C.n0 O ev (evsE C.s0 L)/\(lastS C.s0 L).Sm/\L.length<=1000000
structure TI (C:TC) (W:World) (S:ST) (L:List SS):Prop where
 ex:TX C W S L
 fb:FB L.length S
theorem own_kept {w w':World} {base:Nat} {E:TypeId} {size:Nat} {v:Value} {n:Nat} {xs:List Value} (h:w.ownsRow base E size v n xs) (hk:∀ b,v.ownBlock=some b->w'.heap[b]?=w.heap[b]?):w'.ownsRow base E size v n xs:=by
 obtain ⟨e1,h2⟩:=h
 refine ⟨e1,?_⟩
 rcases h2 with h2|⟨g,cap,cur,rfl,h3,hg,h4⟩
 ·exact .inl h2
 ·exact .inr ⟨g,cap,cur,rfl,h3,(hk g rfl).trans hg,h4⟩
def TrP (C:TC) (W:World) (S:ST) (L:List SS) (W':World):Prop:=Kpt C.n0 C.kb W W'/\Below C.w.heap.size C.w W'/\TI C W' S L
section
variable {C:TC} {W W':World} {S:ST} {L:List SS}
theorem TX.ks (h:TX C W S L):KS C.w C.n0 C.sb (fun b=>C.kb b\/b=C.tb) W S:=by
 obtain ⟨O,v1,v2,v3,ev,h1,-⟩:=h
 exact h1.less fun b hb=>hb.elim .inl fun h=>.inr (.inl h)
theorem TX.len (h:TX C W S L):L.length<=1000000:=by
 obtain ⟨O,v1,v2,v3,ev,-,-,-,-,-,-,h⟩:=h
 exact h
theorem TI.below (h:TI C W S L):Below C.w.heap.size C.w W:=h.ex.ks.bl
theorem TI.wf (h:TI C W S L):S.WF:=h.ex.ks.wf
theorem TI.ks (h:TI C W S L):KS C.w C.n0 C.sb (fun b=>C.kb b\/b=C.tb) W S:=h.ex.ks
theorem EvR.later {n0:Nat} {O:Nat->Prop} {v:Value} {es:List (List CH)} (h:EvR W n0 O v es) (hb:Below W.heap.size W W'):EvR W' n0 O v es:=by
 obtain ⟨xs,h1,h2,h3⟩:=h
 refine ⟨xs,own_later h1 hb,h2,fun i hi=>?_⟩
 obtain ⟨A,c,e1,e2,e3⟩:=h3 i hi
 exact ⟨A,c,e1,e2,e3.later hb⟩
theorem TX.later (h:TX C W S L) (hb:Below W.heap.size W W'):TX C W' S L:=by
 obtain ⟨O,v1,v2,v3,ev,h1,h2,h3,h4,h5,h6⟩:=h
 exact ⟨O,v1,v2,v3,ev,h1.later hb,h2,blk_bl h3 hb,h4.later hb,h5.later hb,h6⟩
theorem TI.later (h:TI C W S L) (hb:Below W.heap.size W W'):TI C W' S L:=⟨h.ex.later hb,h.fb⟩
theorem TX.cells (h:TX C W S L):W.cell? ⟨C.tb,6,none⟩=some (.pointer (some ⟨C.sb,0,none⟩))/\∀ o,W.frozen? ⟨C.tb,o,none⟩=false:=by
 obtain ⟨O,v1,v2,v3,ev,h1,h2,h3,h4,h5,-⟩:=h
 exact ⟨zc h3 rfl,fun _=>zf h3⟩
theorem TX.op (h:TX C W S L) {R:Int×ST} {e:Ending} (hk:∀ kb,KS C.w C.n0 C.sb kb W S->KP C.w C.n0 C.sb kb W R e W'):TX C W' R.2 L/\Kpt C.n0 C.kb W W'/\e=.returned (.int .i64 R.1):=by
 obtain ⟨O,v1,v2,v3,ev,h1,h2,h3,h4,h5,h6⟩:=h
 obtain ⟨e1,e2,e3⟩:=hk _ h1
 have hkp:∀ b,O b->b<W.heap.size->W'.heap[b]?=W.heap[b]?:=fun b hb hlt=>e3.kept b hlt (.inr (.inr (.inr hb)))
 refine ⟨⟨O,v1,v2,v3,ev,e2,h2,e3.blk (.inr (.inr (.inl rfl))) h3,h4.keep (fun b hb _=>hb) (fun b hb hlt=>hkp b hb.1 hlt),?_,h6⟩,⟨e3.size,fun b hb hh=>e3.kept b hb (hh.elim .inl fun h=>.inr (.inl h))⟩,e1⟩
 obtain ⟨xs,g1,g2,g3⟩:=h5
 refine ⟨xs,own_kept g1 fun b hb=>hkp b (g2 b hb) (g1.lt b hb).2,g2,fun i hi=>?_⟩
 obtain ⟨A,c,f1,f2,f3⟩:=g3 i hi
 exact ⟨A,c,f1,f2,f3.keep (fun b hb _=>hb) fun b hb hlt=>hkp b hb.1 hlt⟩
theorem TX.kb_lt (h:TX C W S L) {b:Nat} (hb:C.kb b\/b=C.tb):b<W.heap.size:=by
 obtain ⟨P,-,-,hk⟩:=h.ks.sr
 exact (hk b hb).1
def TC.plus (C:TC) (lo hi:Nat):TC:={ C with kb:=fun b=>C.kb b\/(lo<=b/\b<hi) }
theorem TI.plus (hC:C.Ok) (h:TI C W S L) (hb:Below W.heap.size W W'):(C.plus W.heap.size W'.heap.size).Ok/\TI (C.plus W.heap.size W'.heap.size) W' S L:=by
 have hlt:=h.ex.kb_lt (.inr rfl)
 obtain ⟨O,v1,v2,v3,ev,h1,h2,h3,h4,h5,h6⟩:=h.ex
 obtain ⟨P,-,-,hk⟩:=h1.sr
 refine ⟨⟨hC.pg,⟨hC.tb.1,fun hh=>?_⟩,hC.ps⟩,⟨⟨O,v1,v2,v3,ev,h1.also hb fun b hh=>?_,fun b hh=>⟨(h2 b hh).1,fun hk2=>?_,(h2 b hh).2.2⟩,blk_bl h3 hb,h4.later hb,h5.later hb,h6⟩,h.fb⟩⟩
 ·rcases hh with hh|hh
  ·exact hC.tb.2 hh
  ·have hh:W.heap.size<=C.tb/\C.tb<W'.heap.size:=hh
   omega
 ·rcases hh with (hh|hh)|hh
  ·exact .inl (.inl hh)
  ·exact .inr hh
  ·exact .inl (.inr hh)
 ·rcases hk2 with hk2|hk2
  ·exact (h2 b hh).2.1 hk2
  ·have:=(hk b (.inr (.inr hh))).1
   have hk2:W.heap.size<=b/\b<W'.heap.size:=hk2
   omega
theorem TI.less {lo hi:Nat} (h:TI (C.plus lo hi) W S L):TI C W S L:=by
 obtain ⟨O,v1,v2,v3,ev,h1,h2,h3,h4,h5,h6⟩:=h.ex
 refine ⟨⟨O,v1,v2,v3,ev,h1.less fun b hh=>?_,fun b hh=>⟨(h2 b hh).1,fun hk=>(h2 b hh).2.1 (.inl hk),(h2 b hh).2.2⟩,h3,h4,h5,h6⟩,h.fb⟩
 rcases hh with hh|hh
 ·exact .inl (.inl hh)
 ·exact .inr hh
theorem TrP.less {lo hi:Nat} (h:TrP (C.plus lo hi) W S L W'):TrP C W S L W':=⟨⟨h.1.size,fun b hb hk=>h.1.kept b hb (hk.elim .inl fun h=>.inr (.inl h))⟩,h.2.1,h.2.2.less⟩
end
theorem wpList_append_I {ops:Array Oper} {rest:List Oper} {o:Oper} {a:Act} {W:World} {Q:Exit->Act->World->Prop} (hgd:o.guard=none) (s x:Operand)
  (ho:o.op=.call { callee:=.builtin .append,args := #[s,x],argTypes := #[24,24] }) (base:Nat) (v:Value) (n:Nat) (xs:List Value) (hs:a.eval s=v) (hrow:W.ownsRow base 3 1 v n xs)
  (A:Option Addr) (l:List Int) (c:Nat) (hx:a.eval x=.slice A l.length c) (hr:RowI W Any A l) (hl:n+l.length<=17592186044416) (hb:base<=W.heap.size)
  (h:∀ v' w',w'.ownsRow base 3 1 v' (n+l.length) (xs++flatI l)->W.grownBy w' v.ownBlock->(v'.ownBlock=v.ownBlock\/v'.ownBlock=some W.heap.size)->wpList Tryz.prog ops Q rest (a.put o.dst v') w') :
  wpList Tryz.prog ops Q (o::rest) a W:=by
 obtain ⟨i,hi,hz0,hz1,hz2⟩:=info_parts intInfo
 rcases A with _|ad
 ·have hl0:l=[]:=by
   rcases l with _|⟨y,l⟩
   ·rfl
   ·obtain ⟨_,h0,_⟩:=hr 0 (by simp); cases h0
  subst hl0
  refine wpList_plain hgd fun K hK=>?_
  have hrun:(Builtin.append_ #[24,24] o.type #[v,.slice none 0 c]).run Tryz.prog W=.ok v W:=by
   rcases hrow.2 with ⟨rfl,h0⟩|⟨g,cap,cur,rfl,_,_,hnc,_⟩
   ·simp [Builtin.append_,run_underlying Tryz.underlying24,sizeOf,typeInfo,hi,Builtin.lenOf,Builtin.firstCells]
   ·simp [Builtin.append_,run_underlying Tryz.underlying24,sizeOf,typeInfo,hi,Builtin.lenOf,Builtin.firstCells,hnc,storeCells]
  unfold Oper.wp execOp
  simp only [ho,resolve,invoke,builtin,Sem.run_bind,Sem.run_pure,Result.andThen_ok,List.map_toArray,List.map_cons,List.map_nil,hs,hx,List.length_nil,hrun]
  exact hK _ _ (h v W (by simpa [flatI] using hrow) (only_refl _ _) (.inl rfl))
 ·refine wpList_append_own_at (P:=Tryz.prog) _ hgd s x 24 ho base 3 i _ 1 8 Tryz.underlying24 hi hz0 hz1 hz2 rfl (by decide) v n xs hs hrow ad l.length c (flatI l) hx (by simp [flatI]) (fun j u hj=>?_) (fun u hu=>?_) (by unfold maxLen; omega) (by omega) hb (fun v' w' h1 h2 _ h4=>h v' w' h1 h2 h4)
  ·have hjl:j<l.length:=by have:=(List.getElem?_eq_some_iff.1 hj).1; simpa [flatI] using this
   obtain ⟨a',h0,_,h2,_⟩:=hr j hjl
   injection h0 with h0
   subst h0
   rw [h2]
   simp [flatI,hjl] at hj ⊢
   exact hj
  ·simp only [flatI,List.mem_map] at hu
   obtain ⟨y,_,rfl⟩:=hu
   rfl
def revI (xs:List Int) (i:Nat):List Int:=(List.range xs.length).map fun k=>if k<i\/xs.length-i<=k then xs.getD (xs.length-1-k) 0 else xs.getD k 0
theorem revI_len (xs:List Int) (i:Nat):(revI xs i).length=xs.length:=by simp [revI]
theorem revI_get (xs:List Int) (i:Nat) {k:Nat} (h:k<xs.length):(revI xs i)[k]'(by rw [revI_len]; exact h)=if k<i\/xs.length-i<=k then xs.getD (xs.length-1-k) 0 else xs.getD k 0:=by simp [revI]
theorem revI_zero (xs:List Int):revI xs 0=xs:=by
 refine List.ext_getElem (revI_len _ _) fun k h1 h2=>?_
 rw [revI_get xs 0 h2,if_neg (by omega),List.getD_eq_getElem?_getD,List.getElem?_eq_getElem h2]
 rfl
theorem revI_step (xs:List Int) {i:Nat} (h:i<xs.length-1-i):((revI xs i).set i (xs.getD (xs.length-1-i) 0)).set (xs.length-1-i) (xs.getD i 0)=revI xs (i+1):=by
 refine List.ext_getElem (by simp [revI_len]) fun k h1 h2=>?_
 have hk:k<xs.length:=by rw [revI_len] at h2; exact h2
 rw [revI_get xs (i+1) hk,List.getElem_set,List.getElem_set]
 by_cases e1:xs.length-1-i=k
 ·rw [if_pos e1,if_pos (by omega),<-e1]
  congr 1
  omega
 ·rw [if_neg e1]
  by_cases e2:i=k
  ·rw [if_pos e2,if_pos (by omega),e2]
  ·rw [if_neg e2,revI_get xs i hk]
   by_cases e3:k<i\/xs.length-i<=k
   ·rw [if_pos e3,if_pos (by omega)]
   ·rw [if_neg e3,if_neg (by omega)]
theorem revI_end (xs:List Int) {i:Nat} (h:¬ (i:Int)<(xs.length:Int)-1-i) (hi:(i:Int)<=(xs.length:Int)-i):revI xs i=xs.reverse:=by
 refine List.ext_getElem (by simp [revI_len]) fun k h1 h2=>?_
 have hk:k<xs.length:=by rw [revI_len] at h1; exact h1
 have hr:xs.reverse[k]=xs.getD (xs.length-1-k) 0:=by
  rw [List.getElem_reverse,List.getD_eq_getElem?_getD,List.getElem?_eq_getElem (by omega)]
  rfl
 rw [revI_get xs i hk,hr]
 split
 ·rfl
 ·rw [show xs.length-1-k=k by omega]
def oneI (v:Value) (l:List Int):Unit->RowD:=fun _=>⟨v,3,1,l.length,flatI l⟩
theorem oneI_rws {W:World} {n0:Nat} {v:Value} {l:List Int} (h:W.ownsRow n0 3 1 v l.length (flatI l)):Rws W n0 (oneI v l):=⟨fun _=>h,fun i j b hij=>absurd rfl hij⟩
theorem oneI_set {W:World} {n0 g:Nat} {v:Value} {l:List Int} (h:Rws W n0 (oneI v l)) (hg:v.ownBlock=some g) {o:Nat} (ho:o<l.length) (x:Int):Rws (W.setCell ⟨g,o,none⟩ (.int .i64 x)) n0 (oneI v (l.set o x)):=by
 have:=h.set () hg (o:=o) (by simp [oneI,flatI,ho]) (.int .i64 x)
 refine ⟨fun _=>?_,fun i j b hij=>absurd rfl hij⟩
 have h2:=this.row ()
 simp only [updR_same] at h2
 have e:(oneI v (l.set o x)) ()=⟨v,3,1,l.length,(flatI l).set o (.int .i64 x)⟩:=by simp [oneI,flatI,List.map_set]
 rw [e]
 exact h2
theorem oneI_cell {W:World} {n0 g:Nat} {v:Value} {l:List Int} (h:Rws W n0 (oneI v l)) (hg:v.ownBlock=some g) {o:Nat} (ho:o<l.length):W.cell? ⟨g,o,none⟩=some (.int .i64 (l.getD o 0))/\W.frozen? ⟨g,o,none⟩=false :=
 ⟨h.cell () hg (by simp [oneI,flatI,ho,List.getD_eq_getElem?_getD]),h.frozen () hg o⟩
theorem Reverse_any {n0:Nat} {v:Value} {xs:List Int} (w:World) (h:w.ownsRow n0 3 1 v xs.length (flatI xs)) (hl:xs.length<=LI):Calls Tryz.prog 71 #[v] w fun e w' =>
  (∃ u,e=.returned u)/\w'.ownsRow n0 3 1 v xs.reverse.length (flatI xs.reverse)/\Chg (fun b=>v.ownBlock=some b) w w':=by
 have hl':=LI_int hl
 obtain ⟨A,c,rfl,hlc,-⟩:=row_slice h
 have HR:=zh (show Rws w n0 (oneI (.slice A xs.length c) (revI xs 0)) by rw [revI_zero]; exact oneI_rws h)
 have HG:=zh (show 0<xs.length->∃ g,A=some ⟨g,0,none⟩ from fun h0=>by
  rcases h.2 with ⟨e1,e2⟩|⟨g,cap,cur,e1,-⟩
  ·omega
  ·injection e1 with e1; exact ⟨g,e1⟩)
 have hwn:IntKind.i64.wrap ((xs.length:Int)-1)=(xs.length:Int)-1:=IntWalk.i64_in _ (by omega)
 clear h
 go_enter Tryz.func71,Tryz.ntmps71
 go_wp2_with fail
 go_loopw [2,3] (fun i j wr=>∃ k:Nat,i=.int .i64 k/\j=.int .i64 ((xs.length:Int)-1-k)/\Hid ((k:Int)<=(xs.length:Int)-k)/\Hid (Rws wr n0 (oneI (.slice A xs.length c) (revI xs k)))/\Hid (Chg (fun b=>(Value.slice A xs.length c).ownBlock=some b) w wr)) (fun i j _=>xs.length-(intOf i).toNat)
 case atStart=>exact ⟨0,rfl,by simp,zh (by omega),HR,zh (Chg.refl _ _)⟩
 case round =>
  obtain ⟨k,rfl,rfl,HKL,HRK,HCH⟩:=hrel
  by_cases hlt:(k:Int)<(xs.length:Int)-1-k
  ·have hkl:=HKL.out
   obtain ⟨g,rfl⟩:=HG.out (by omega)
   have hj:k<xs.length-1-k:=by omega
   have ejn:((xs.length-1-k:Nat):Int)=(xs.length:Int)-1-k:=by omega
   obtain ⟨j,hjj⟩:∃ j:Nat,xs.length-1-k=j:=⟨_,rfl⟩
   rw [hjj] at ejn hj
   rw [<-ejn] at hlt ⊢
   have hstep:=revI_step xs (i:=k) (by omega)
   rw [hjj] at hstep
   have hki:k<(revI xs k).length:=by rw [revI_len]; omega
   have hji:j<(revI xs k).length:=by rw [revI_len]; omega
   have hg:(Value.slice (some ⟨g,0,none⟩) xs.length c).ownBlock=some g:=rfl
   obtain ⟨p0,p1⟩:=oneI_cell HRK.out hg hki
   obtain ⟨q0,q1⟩:=oneI_cell HRK.out hg hji
   have ek:(revI xs k).getD k 0=xs.getD k 0:=by rw [List.getD_eq_getElem?_getD,List.getElem?_eq_getElem hki,Option.getD_some,revI_get xs k (by omega),if_neg (by omega)]
   have ej:(revI xs k).getD j 0=xs.getD j 0:=by rw [List.getD_eq_getElem?_getD,List.getElem?_eq_getElem hji,Option.getD_some,revI_get xs k (by omega),if_neg (by omega)]
   rw [ek] at p0
   rw [ej] at q0
   obtain ⟨x,hx⟩:∃ x,xs.getD k 0=x:=⟨_,rfl⟩
   obtain ⟨y,hy⟩:∃ y,xs.getD j 0=y:=⟨_,rfl⟩
   rw [hx] at p0 hstep
   rw [hy] at q0 hstep
   have hk1:(k:Int)<(xs.length:Int):=by omega
   have hj1:(j:Int)<(xs.length:Int):=by omega
   have hk0:(0:Int)<=(k:Int):=by omega
   have hj0:(0:Int)<=(j:Int):=by omega
   have s1:=oneI_set HRK.out hg hki y
   have s2:=oneI_set s1 hg (o:=j) (by rw [List.length_set]; exact hji) x
   rw [hstep] at s2
   have hne:k≠j:=by omega
   obtain ⟨r0,r1⟩:=oneI_cell s1 hg (o:=j) (by rw [List.length_set]; exact hji)
   have HS2:=zh s2
   have hc2:=(HCH.out.setCell (p:=⟨g,k,none⟩) (.inl rfl) (.int .i64 y)).setCell (p:=⟨g,j,none⟩) (.inl rfl) (.int .i64 x)
   have HC2:=zh hc2
   have HEJ:=zh ejn
   have HJJ:=zh hjj
   clear s1 s2 hstep HRK hki hji ek ej hc2 ejn hjj
   go_upto_region 3 with fail
   have hSS:(fun _:World=>True) wr.drew/\(fun w':World=>w'.cell? ⟨g,k,none⟩=some (.int .i64 x)/\w'.cell? ⟨g,j,none⟩=some (.int .i64 y)) wr.drew:=⟨trivial,p0,q0⟩
   refine wp_region_noPanic ?_
   refine wp_region_G (fun _:World=>True) (fun w':World=>w'.cell? ⟨g,k,none⟩=some (.int .i64 x)/\w'.cell? ⟨g,j,none⟩=some (.int .i64 y)) 13 (by kernel_rfl) ?_
   refine zT 0 hSS ?_
   (try simp only [Act.put,zP])
   refine zT 1 hSS ?_
   (try simp only [Act.put,zP])
   refine zT 2 hSS ?_
   (try simp only [Act.put,zP])
   refine zT 3 hSS ?_
   (try simp only [Act.put,zP])
   refine zT 4 hSS ?_
   (try simp only [Act.put,zP])
   refine zT 5 hSS ?_
   (try simp only [Act.put,zP])
   refine zT 6 hSS ?_
   (try simp only [Act.put,zP])
   refine wpG_take2 (i:=7) (v:=?_) rfl (by kernel_rfl) (by kernel_rfl) (by kernel_rfl) (by decide) rfl (by kernel_rfl) (by kernel_rfl) (fun _ _ _ h=>h) (Or.inl ⟨by rfl,?_⟩) hSS ?_
   rotate_left 1
   ·(intro w hSw; (try dsimp only at hSw); (try simp only [zA,zB,zC]); go_simp; (try with_reducible rfl))
   (try simp only [Act.put,zP])
   refine zT 8 hSS ?_
   (try simp only [Act.put,zP])
   refine zT 9 hSS ?_
   (try simp only [Act.put,zP])
   refine zT 10 hSS ?_
   (try simp only [Act.put,zP])
   refine wpG_take2 (i:=11) (v:=?_) rfl (by kernel_rfl) (by kernel_rfl) (by kernel_rfl) (by decide) rfl (by kernel_rfl) (by kernel_rfl) (fun _ _ _ h=>h) (Or.inl ⟨by rfl,?_⟩) hSS ?_
   rotate_left 1
   ·(intro w hSw; (try dsimp only at hSw); (try simp only [zA,zB,zC]); go_simp; (try with_reducible rfl))
   (try simp only [Act.put,zP])
   have p1':wr.drew.frozen? ⟨g,k,none⟩=false:=p1
   have p0':wr.drew.cell? ⟨g,k,none⟩=some (.int .i64 x):=p0
   refine wpG_one (i:=12) (by kernel_rfl) rfl (fun K hK=>?_)
   (try simp only [zA,zB,zC])
   go_simp
   refine hK.out _ _ hSS ?_
   clear hK K
   (try simp only [Act.put,zP])
   refine wpG_past (i:=13) (by kernel_rfl) rfl (by kernel_rfl) (fun K hK=>?_)
   (try simp only [zA,zB,zC])
   go_simp
   refine hK.out _ _ trivial ?_
   clear hK K hSS
   (try simp only [Act.put,zP])
   have r0':(wr.drew.setCell ⟨g,k,none⟩ (.int .i64 y)).cell? ⟨g,j,none⟩=some (.int .i64 (((revI xs k).set k y).getD j 0)):=r0
   have r1':(wr.drew.setCell ⟨g,k,none⟩ (.int .i64 y)).frozen? ⟨g,j,none⟩=false:=r1
   refine wpG_past (i:=14) (by kernel_rfl) rfl (by kernel_rfl) (fun K hK=>?_)
   (try simp only [zA,zB,zC])
   go_simp
   refine hK.out _ _ trivial ?_
   clear hK K
   (try simp only [Act.put,zP])
   refine wpG_past (i:=15) (by kernel_rfl) rfl (by kernel_rfl) (fun K hK=>?_)
   (try simp only [zA,zB,zC])
   go_simp
   refine hK.out _ _ trivial ?_
   clear hK K
   (try simp only [Act.put,zP])
   refine wpG_done (by kernel_rfl) ?_
   refine NoPanic.normal ?_
   clear p0 p1 q0 q1 r0 r1 p0' p1' r0' r1'
   go_wp2_with fail
   go_roundw
   case rel=>exact ⟨k+1,by go_num,by have:=HEJ.out; have:=HJJ.out; simp; omega,zh (by have:=HEJ.out; omega),zh (HS2.out.later (Below.refl _ _).drew),zh ⟨HC2.out.os,HC2.out.tape,HC2.out.output,HC2.out.size,HC2.out.block⟩⟩
   case measure=>simp [intOf]; omega
  ·have hrev:=revI_end xs hlt HKL.out
   have HRE:=zh (HRK.out.row ())
   go_wp2_with fail
   go_end0
   refine ⟨⟨_,rfl⟩,?_,HCH.out⟩
   have:=HRE.out
   rw [hrev] at this
   simpa [oneI] using this
theorem buildI1x (x:Int) (w:World):(Instr.buildSlice 24 1 #[(0,.int .i64 x)]).run Tryz.prog w=.ok (.slice (some ⟨w.heap.size,0,none⟩) 1 1) (w.alloc (.cells #[.int .i64 x] 3)):=by kernel_rfl
theorem components_any (n:Nat) (hn:n<=5864062014800) (w:World):Calls Tryz.prog 68 #[.int .i64 (n:Int)] w fun e w' =>
  ∃ v,e=.returned v/\w'.ownsRow w.heap.size 3 1 v (comps n).length (flatI (comps n))/\Below w.heap.size w w':=by
 have h1:=buildI1x
 have h2:=bI2
 go_enter Tryz.func68,Tryz.ntmps68
 go_wp2_with fail
 go_loopw [3,6] (fun v i wr=>∃ j:Nat,j<=n/\i=.int .i64 j/\(∃ A c,v=.slice A j c)/\Hid (wr.ownsRow w.heap.size 3 1 v j (flatI ((List.range j).map Int.ofNat)))/\Hid (Below w.heap.size w wr)) (fun _ i _=>n-(intOf i).toNat)
 case atStart=>exact ⟨0,Nat.zero_le _,rfl,⟨none,0,rfl⟩,zh (World.ownsRow_nil w _ _ _),zh (Below.refl _ _)⟩
 case round =>
  obtain ⟨j,hj,rfl,⟨A,c,rfl⟩,HO,HB⟩:=hrel
  by_cases hlt:j<n
  ·have hj1:(j:Int)<(n:Int):=by omega
   have hbz:=bl_al (Below.refl wr.heap.size wr) (.cells #[.int .i64 (j:Int)] 3)
   have hrow:=own_later HO.out hbz
   have hri:RowI (wr.alloc (.cells #[.int .i64 (j:Int)] 3)) Any (some ⟨wr.heap.size,0,none⟩) [(j:Int)]:=rowI_blk (xs:=[(j:Int)]) (heap_alloc_new wr _) (by intro x hx; simp at hx; subst hx; exact ⟨by omega,by omega⟩)
   have hln:j+1<=5864062014801:=by omega
   have hsz:w.heap.size<=(wr.alloc (.cells #[.int .i64 (j:Int)] 3)).heap.size:=Nat.le_trans HB.out.size hbz.size
   have HX:=zh (show ∀ v' w',w'.ownsRow w.heap.size 3 1 v' (j+[(j:Int)].length) (flatI ((List.range j).map Int.ofNat)++flatI [(j:Int)])->(wr.alloc (.cells #[.int .i64 (j:Int)] 3)).grownBy w' (Value.slice A j c).ownBlock->(∃ A c,v'=.slice A (j+1) c)/\w'.ownsRow w.heap.size 3 1 v' (j+1) (flatI ((List.range (j+1)).map Int.ofNat))/\Below w.heap.size w w' from fun v' w' ho hg=>by
    have hx:=(Chg.row hg).below (B:=w.heap.size) hsz (fun b e=>(HO.out.lt b e).1)
    have e:flatI ((List.range j).map Int.ofNat)++flatI [(j:Int)]=flatI ((List.range (j+1)).map Int.ofNat):=by rw [<-flatI_app,List.range_succ,List.map_append]; rfl
    rw [e] at ho
    obtain ⟨A',c',e',-⟩:=row_slice ho
    exact ⟨⟨A',c',e'⟩,ho,(bl_tt HB.out hbz).trans hx⟩)
   go_wp2_with (at_builtin; refine wpList_append_I rfl (.tmp 9) (.tmp 11) rfl w.heap.size (.slice A j c) j (flatI ((List.range j).map Int.ofNat)) rfl hrow (some ⟨wr.heap.size,0,none⟩) [(j:Int)] 1 rfl hri (by simp; omega) hsz ?_; intro v' w' ho hg hob; obtain ⟨⟨A',c',rfl⟩,ho2,hb2⟩:=HX.out _ _ ho hg; clear ho hg hob)
   exact ⟨⟨j+1,by omega,by go_num,⟨A',c',rfl⟩,zh ho2,zh hb2⟩,by simp [intOf]; omega⟩
  ·obtain rfl:j=n:=by omega
   have hj1:¬ (j:Int)<(j:Int):=by omega
   have hbz:=bl_al (Below.refl wr.heap.size wr) (.cells #[.int .i64 (-1),.int .i64 (-2)] 3)
   have hrow:=own_later HO.out hbz
   have hri:RowI (wr.alloc (.cells #[.int .i64 (-1),.int .i64 (-2)] 3)) Any (some ⟨wr.heap.size,0,none⟩) [-1,-2]:=rowI_blk (xs:=[-1,-2]) (heap_alloc_new wr _) (by intro x hx; simp at hx; rcases hx with rfl|rfl<;>exact ⟨by decide,by decide⟩)
   have hln:j+2<=5864062014802:=by omega
   have hsz:w.heap.size<=(wr.alloc (.cells #[.int .i64 (-1),.int .i64 (-2)] 3)).heap.size:=Nat.le_trans HB.out.size hbz.size
   have HX:=zh (show ∀ v' w',w'.ownsRow w.heap.size 3 1 v' (j+[(-1:Int),-2].length) (flatI ((List.range j).map Int.ofNat)++flatI [-1,-2])->(wr.alloc (.cells #[.int .i64 (-1),.int .i64 (-2)] 3)).grownBy w' (Value.slice A j c).ownBlock->w'.ownsRow w.heap.size 3 1 v' (comps j).length (flatI (comps j))/\Below w.heap.size w w' from fun v' w' ho hg=>by
    have hx:=(Chg.row hg).below (B:=w.heap.size) hsz (fun b e=>(HO.out.lt b e).1)
    rw [<-flatI_app] at ho
    have el:(comps j).length=j+[(-1:Int),-2].length:=by simp [comps]
    rw [el]
    exact ⟨ho,(bl_tt HB.out hbz).trans hx⟩)
   go_wp2_with (at_builtin; refine wpList_append_I rfl (.tmp 14) (.tmp 15) rfl w.heap.size (.slice A j c) j (flatI ((List.range j).map Int.ofNat)) rfl hrow (some ⟨wr.heap.size,0,none⟩) [-1,-2] 2 rfl hri (by simp; omega) hsz ?_; intro v' w' ho hg hob; obtain ⟨ho2,hb2⟩:=HX.out _ _ ho hg; clear ho hg hob)
   go_ret
   exact ⟨_,rfl,ho2,hb2⟩
theorem element_any (l:List Int) (A:Option Addr) (c:Nat) (i:Nat) (w:World) (hr:RowI w Any A l) (hl:l.length<=LI):Calls Tryz.prog 120 #[.slice A l.length c,.int .i64 (i:Int)] w fun e w'=>e=.returned (.int .i64 (l.getD i 0))/\w'=w:=by
 have hl':=LI_int hl
 by_cases h:i<l.length
 ·obtain ⟨a,rfl,h0⟩:=hr.nd h
  have hi:(i:Int)<(l.length:Int):=by omega
  have hi0:(0:Int)<=(i:Int):=by omega
  obtain ⟨x,hx⟩:∃ x,l.getD i 0=x:=⟨_,rfl⟩
  rw [hx] at h0 ⊢
  clear hr
  go_enter Tryz.func120,Tryz.ntmps120
  go_wp2_with fail
  go_ret
  exact ⟨rfl,rfl⟩
 ·have hi:¬ (i:Int)<(l.length:Int):=by omega
  have e:l.getD i 0=0:=by rw [List.getD_eq_getElem?_getD,List.getElem?_eq_none (by omega)]; rfl
  rw [e]
  clear hr
  go_enter Tryz.func120,Tryz.ntmps120
  go_wp2_with fail
  go_ret
  exact ⟨rfl,rfl⟩
theorem elements_any (A B D:Option Addr) (l c m d n e:Nat) (w:World):Calls Tryz.prog 67 #[.agg #[.slice A l c,.slice B m d,.slice D n e]] w fun e' w' =>
  e'=.returned (.func (.func 119) #[] #[.pointer (some ⟨w.heap.size,0,none⟩)])/\w'=w.alloc (.cells #[.slice A l c,.slice B m d,.slice D n e] 26):=by
 have hmf:∀ (fn:Fn) (first cap:Array Value) (w:World),(Instr.makeFunc fn first cap).run Tryz.prog w=.ok (.func fn first cap) w:=fun _ _ _ _=>rfl
 go_enter Tryz.func67,Tryz.ntmps67
 go_wp2_with fail
 go_ret
 exact ⟨rfl,rfl⟩
def PartP (s:SS) (cc:Int) (w:World) (e:Ending) (w':World):Prop:=∃ v,e=.returned v/\w'.ownsRow w.heap.size 3 1 v (part s cc).length (flatI (part s cc))/\Below w.heap.size w w'
theorem elements1_any (s:SS) (A B D:Option Addr) (c d e b:Nat) (cc:Int) (w:World) (hb:w.heap[b]?=some (.cells #[.slice A s.cells.length c,.slice B s.tin.length d,.slice D s.tout.length e] 26 (0,0))) (hs:SV w Any s (.agg #[.slice A s.cells.length c,.slice B s.tin.length d,.slice D s.tout.length e])) (hc:cc∈comps s.cells.length) :
  Calls Tryz.prog 119 #[.int .i64 cc,.pointer (some ⟨b,0,none⟩)] w (PartP s cc w):=by
 obtain ⟨A2,c2,B2,d2,D2,e2,he,r1,r2,r3,l1,l2,l3,m1,m2,m3,m4⟩:=hs
 injection he with he
 simp only [Array.mk.injEq,List.cons.injEq,Value.slice.injEq,and_true,true_and] at he
 obtain ⟨⟨rfl,rfl⟩,⟨rfl,rfl⟩,⟨rfl,rfl⟩⟩:=he
 obtain ⟨x0,x1,x2⟩:=box3o hb
 by_cases h1:cc = -1
 ·subst h1
  have HCL:=zh (CloneI_own s.tin B d Any w r2 m3)
  have hp:part s (-1)=s.tin.reverse:=by unfold part; rw [if_pos rfl]
  unfold PartP
  rw [hp]
  clear hb r1 r2 r3 hp
  go_enter Tryz.func119,Tryz.ntmps119
  go_wp2_with fail
  refine HCL.out.mono ?_
  rintro e1 w1 ⟨v1,rfl,ho1,hf1,hb1⟩
  have HRV:=zh (Reverse_any (n0:=w.heap.size) (v:=v1) (xs:=s.tin) w1 (by simpa [flatI] using ho1) m3)
  have HO1:=zh ho1
  have HB1:=zh hb1
  obtain ⟨A1,k1,rfl,-⟩:=row_slice ho1
  clear ho1 hb1 hf1 x0 x1 x2 HCL
  go_wp2_with fail
  refine HRV.out.mono ?_
  rintro e2' w2 ⟨⟨u,rfl⟩,ho2,hc2⟩
  have HO2:=zh ho2
  have HB2:=zh (HB1.out.trans (hc2.below HB1.out.size fun b e=>(HO1.out.lt b e).1))
  clear ho2 hc2
  go_wp2_with fail
  go_ret
  exact ⟨_,rfl,HO2.out,HB2.out⟩
 ·by_cases h2:cc = -2
  ·subst h2
   have HCL:=zh (CloneI_own s.tout D e Any w r3 m4)
   have hp:part s (-2)=s.tout:=by unfold part; rw [if_neg (by omega),if_pos rfl]
   unfold PartP
   rw [hp]
   clear hb r1 r2 r3 hp
   go_enter Tryz.func119,Tryz.ntmps119
   go_wp2_with fail
   refine HCL.out.mono ?_
   rintro e1 w1 ⟨v1,rfl,ho1,hf1,hb1⟩
   have HO1:=zh ho1
   have HB1:=zh hb1
   clear ho1 hb1 hf1 x0 x1 x2 HCL
   go_wp2_with fail
   go_ret
   exact ⟨_,rfl,by simpa [flatI] using HO1.out,HB1.out⟩
  ·obtain ⟨i,hi,rfl⟩:∃ i:Nat,i<s.cells.length/\cc=(i:Int):=by
    unfold comps at hc
    rcases List.mem_append.1 hc with h|h
    ·obtain ⟨i,hi,rfl⟩:=List.mem_map.1 h
     exact ⟨i,List.mem_range.1 hi,rfl⟩
    ·simp at h; omega
   obtain ⟨a,A',c',rfl,-,h0,hcl,hr⟩:=r1 i hi
   have HCL:=zh (CloneI_own s.cells[i] A' c' Any w hr (m2 _ (List.getElem_mem hi)))
   have hp:part s (i:Int)=s.cells[i]:=by unfold part; rw [if_neg (by omega),if_neg (by omega),Int.toNat_natCast,List.getD_eq_getElem?_getD,List.getElem?_eq_getElem hi]; rfl
   have e1:((i:Int) == -1)=false:=by simp
   have e2:((i:Int) == -2)=false:=by simp
   have hi1:(i:Int)<(s.cells.length:Int):=by omega
   have hi0:(0:Int)<=(i:Int):=by omega
   unfold PartP
   rw [hp]
   obtain ⟨l,hle⟩:∃ l,s.cells[i]=l:=⟨_,rfl⟩
   rw [hle] at h0 HCL ⊢
   have hl':=LI_int m1
   clear hb r2 r3 hp hr r1 hle
   go_enter Tryz.func119,Tryz.ntmps119
   go_wp2_with fail
   refine HCL.out.mono ?_
   rintro e1 w1 ⟨v1,rfl,ho1,hf1,hb1⟩
   have HO1:=zh ho1
   have HB1:=zh hb1
   clear ho1 hb1 hf1 x0 x1 x2 HCL
   go_wp2_with fail
   go_ret
   exact ⟨_,rfl,by simpa [flatI] using HO1.out,HB1.out⟩
end Go.Proofs.YtckhofdinldhpaaGreat
