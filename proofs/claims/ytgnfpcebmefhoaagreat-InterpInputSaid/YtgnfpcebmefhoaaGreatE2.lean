/-
  Texts of the proof, put together without their remarks: Ipt, Lpt.
-/
import Derived.Test.YtgnfpcebmefhoaaGreatE1
set_option linter.unusedSimpArgs false
set_option linter.unusedVariables false
set_option maxHeartbeats 8000000
set_option maxRecDepth 100000
namespace Go.Proofs.YtgnfpcebmefhoaaGreat
open Go Go.RowKit
def PG.part (p:PG) (l:List T):PG:={ p with m:=.nd p.m.k p.m.n p.m.s l }
section
variable {p:PG} {a b:List T}
theorem deps_app:∀ a b:List T,deps (a++b)=max (deps a) (deps b)
 | [],b=>by simp [deps]
 | t::ts,b=>by simp only [List.cons_append,deps,deps_app ts b]; omega
theorem sizes_app:∀ a b:List T,sizes (a++b)=sizes a+sizes b
 | [],b=>by simp [sizes]
 | t::ts,b=>by simp only [List.cons_append,sizes,sizes_app ts b]; omega
theorem part_valid {l:List T} (h:validB p=true) (hl:∀ t∈l,t∈p.m.ks) (hd:deps l<=deps p.m.ks) (hs:sizes l<=sizes p.m.ks):validB (p.part l)=true:=by
 obtain ⟨vs,prs,⟨k,n,s,ks⟩⟩:=p
 change validB ⟨vs,prs,.nd k n s l⟩=true
 change ∀ t∈l,t∈ks at hl
 change deps l<=deps ks at hd
 change sizes l<=sizes ks at hs
 unfold validB at h ⊢
 rw [Bool.and_eq_true] at h ⊢
 refine ⟨h.1,?_⟩
 have h2:isBodyB (.nd k n s ks)=true:=h.2
 have h3:=valid_body h2
 change isBodyB (.nd k n s l)=true
 unfold isBodyB at h2 ⊢
 rw [Bool.and_eq_true] at h2 ⊢
 rw [lim_eq]
 have e1:dep (.nd k n s ks)=1+deps ks:=rfl
 have e2:size (.nd k n s ks)=1+sizes ks:=rfl
 have e3:dep (.nd k n s l)=1+deps l:=rfl
 have e4:size (.nd k n s l)=1+sizes l:=rfl
 rw [if_pos ⟨by omega,by omega⟩]
 have hb:=(isB_iff _ _ _ _).1 h2.2
 exact ⟨rfl,(isB_iff _ _ _ _).2 ⟨hb.1,hb.2.1,fun t ht=>hb.2.2 t (hl t ht)⟩⟩
theorem cntK_57 {prs:List PR} {s:ByteArray} {vs:List VD}:∀ {ks:List T} (i j:Nat),cntK prs 57 s i ks vs=cntK prs 57 s j ks vs
 | [],i,j=>rfl
 | t::ts,i,j=>by
  simp only [cntK]
  rw [cntK_57 (ks:=ts) (i+1) (j+1)]
  have:∀ i,innerV 57 s i vs=vs:=fun i=>by unfold innerV; rw [if_neg (by omega),if_neg (by omega)]
  rw [this i,this j]
theorem faultE_57 (prs:List PR) (s:ByteArray) (l:Nat) (vs:List VD):faultE prs 57 s l vs=0:=by
 unfold faultE
 repeat' rw [if_neg (by omega)]
theorem part_chk (h0:p.m.k=57) (hab:p.m.ks=a++b) (h:chkN p=0):chkN (p.part a)=0/\chkN (p.part b)=0:=by
 obtain ⟨vs,prs,⟨k,n,s,ks⟩⟩:=p
 change k=57 at h0
 change ks=a++b at hab
 subst h0 hab
 have e:∀ l,chkN ⟨vs,prs,.nd 57 n s l⟩=frsN vs vs.length+prcN prs prs.length+cntK prs 57 s 0 l vs:=fun l=>by
  have:cntV prs (.nd 57 n s l) vs=cntK prs 57 s 0 l vs:=by
   rw [cntV,if_neg (by omega),faultE_57]
   simp [one1]
  show frsN vs vs.length+prcN prs prs.length+cntV prs (.nd 57 n s l) vs=_
  rw [this]
 change chkN ⟨vs,prs,.nd 57 n s a⟩=0/\chkN ⟨vs,prs,.nd 57 n s b⟩=0
 rw [e,cntK_append] at h
 rw [e,e]
 have:=cntK_57 (prs:=prs) (s:=s) (vs:=vs) (ks:=b) (0+a.length) 0
 omega
theorem bodyO_append {f:T->RS->Out}:∀ (a b:List T) (r:RS),bodyO f (a++b) r=(bodyO f a r).bind (bodyO f b)
 | [],b,r=>rfl
 | t::ts,b,r=>by
  rw [List.cons_append,bodyO,bodyO]
  cases f t r with
  | ok r1=>exact bodyO_append ts b r1
  | err e=>rfl
  | gas=>rfl
theorem parts_law {p:PG} {s:SS} {F:Int} {g:Nat} {a b:List T} (hF:F<=1000000) (hF0:0<=F) (hg:F.toNat*2000+2000<=g) (h57:p.m.k=57) (hab:p.m.ks=a++b) (hl:LitB p.m) (hp:PrB p.prs) (hf:∀ u∈p.vs,FldV u) (hI:s.I)
  (h3:(resO p s F g false).2.2.1≠3) (h20:(resO p s F g false).2.2.1≠20) (h18:(resO p s F g false).2.2.1≠18) :
  ((resO (p.part a) s F g false).2.2.1≠0->(resO (p.part a) s F g false).2.2.1=(resO p s F g false).2.2.1) /\
  ((resO (p.part a) s F g false).2.2.1=0->((resO (p.part b) (resO (p.part a) s F g false).1 F g false).2.2.1≠0->(resO (p.part b) (resO (p.part a) s F g false).1 F g false).2.2.1=(resO p s F g false).2.2.1) /\
   ((resO (p.part b) (resO (p.part a) s F g false).1 F g false).2.2.1=0->(resO p s F g false).2.2.1=0/\(resO p s F g false).2.1=(resO (p.part a) s F g false).2.1+(resO (p.part b) (resO (p.part a) s F g false).1 F g false).2.1 /\
    (resO p s F g false).1=(resO (p.part b) (resO (p.part a) s F g false).1 F g false).1)):=by
 have hv:validB p=true:=by
  cases h:validB p with
  | true=>rfl
  | false=>exact absurd (by unfold resO; rw [if_pos (.inl h)]) h3
 have hc:chkN p=0:=by
  by_cases h:chkN p=0
  ·exact h
  ·exact absurd (by unfold resO; rw [if_pos (.inr h)]) h3
 have hfi:fitB p.vs s=true:=by
  cases h:fitB p.vs s with
  | true=>rfl
  | false=>exact absurd (by unfold resO; rw [if_neg (by rw [hv,hc]; simp),if_pos h]) h20
 have hd:=deps_app a b
 have hsz:=sizes_app a b
 have hva:validB (p.part a)=true:=part_valid hv (fun t ht=>by rw [hab]; exact List.mem_append_left _ ht) (by rw [hab]; omega) (by rw [hab]; omega)
 have hvb:validB (p.part b)=true:=part_valid hv (fun t ht=>by rw [hab]; exact List.mem_append_right _ ht) (by rw [hab]; omega) (by rw [hab]; omega)
 obtain ⟨hca,hcb⟩:=part_chk h57 hab hc
 have hW:=resO_run (F:=F) (g:=g) (back:=false) hv hc hfi
 have hA:resO (p.part a) s F g false=outR s (runO p.prs F g false (p.part a).m ⟨newS p.vs s,0,List.replicate p.prs.length 0⟩):=resO_run (p:=p.part a) (F:=F) (g:=g) (back:=false) hva hca hfi
 have hWr:runO p.prs F g false p.m ⟨newS p.vs s,0,List.replicate p.prs.length 0⟩=(runO p.prs F g false (p.part a).m ⟨newS p.vs s,0,List.replicate p.prs.length 0⟩).bind (runO p.prs F g false (p.part b).m):=by
  have e1:∀ r,runO p.prs F g false p.m r=bodyO (execO p.prs F g false) (a++b) r:=fun r=>by unfold runO blkL; rw [hab]; rfl
  rw [e1,bodyO_append]
  rfl
 have hga:=(run_good (p:=p.part a) (F:=F) hva hg false (newS p.vs s) (List.replicate p.prs.length 0)).1
 have hza:Nz (runO p.prs F g false (p.part a).m ⟨newS p.vs s,0,List.replicate p.prs.length 0⟩):=runO_nz GP_GC (GP_main hva hca)
 change runO p.prs F g false (p.part a).m ⟨newS p.vs s,0,List.replicate p.prs.length 0⟩≠_ at hga
 obtain ⟨hi,-⟩:=start_inv (e:=List.replicate p.prs.length 0) (by have:=(valid_bounds hv).1; omega) hfi hf hI
 have hla:LitB (p.part a).m:=fun u hu=>by
  unfold PG.part at hu
  simp only [po,List.mem_cons] at hu
  rcases hu with rfl|hu
  ·exact hl.own
  ·obtain ⟨t,ht,hx⟩:=mem_pos.1 hu
   exact hl.block (by rw [hab]; exact List.mem_append_left _ ht) u hx
 rw [hA]
 rw [hW,hWr] at h3 h20 h18 ⊢
 cases hoa:runO p.prs F g false (p.part a).m ⟨newS p.vs s,0,List.replicate p.prs.length 0⟩ with
 | gas=>exact absurd hoa hga
 | err e =>
  rw [hoa] at hza
  simp only [Out.bind,outR]
  refine ⟨fun _=>trivial,fun h=>?_⟩
  subst h
  exact absurd rfl hza
 | ok r =>
  rw [hoa] at h3 h20 h18
  simp only [Out.bind,outR] at h3 h20 h18 ⊢
  refine ⟨fun h=>absurd rfl h,fun _=>?_⟩
  obtain ⟨hri,hk⟩:=runO_keep hF hp g false (p.part a).m _ r hla hi hoa
  have hfb:fitB p.vs r.S.state=true:=end_fit hfi hri.wf hk
  have hB:resO (p.part b) r.S.state F g false=outR r.S.state (runO p.prs F g false (p.part b).m ⟨newS p.vs r.S.state,0,List.replicate p.prs.length 0⟩):=resO_run (p:=p.part b) (F:=F) (g:=g) (back:=false) hvb hcb hfb
  have hgb:=(run_good (p:=p.part b) (F:=F) hvb hg false (newS p.vs r.S.state) (List.replicate p.prs.length 0)).1
  change runO p.prs F g false (p.part b).m ⟨newS p.vs r.S.state,0,List.replicate p.prs.length 0⟩≠_ at hgb
  have hsim:=runO_sim (k:=(r.n:Int)) (F':=F) (eqv_sim F) (by omega) (prs:=p.prs) g false (p.part b).m ⟨newS p.vs r.S.state,0,List.replicate p.prs.length 0⟩ r ⟨(end_eqv hk).symm,by simp only; omega⟩
  have hzb:Nz (runO p.prs F g false (p.part b).m ⟨newS p.vs r.S.state,0,List.replicate p.prs.length 0⟩):=runO_nz GP_GC (GP_main hvb hcb)
  rw [hB]
  rcases hsim with ⟨h1,-⟩|h1
  ·rw [h1] at h18
   exact absurd rfl h18
  ·cases hob:runO p.prs F g false (p.part b).m ⟨newS p.vs r.S.state,0,List.replicate p.prs.length 0⟩ with
   | gas=>exact absurd hob hgb
   | err e =>
    rw [hob] at h1 hzb
    simp only at h1
    rw [h1 trivial]
    refine ⟨fun _=>rfl,fun h=>?_⟩
    simp only [outR] at h
    subst h
    exact absurd rfl hzb
   | ok r2 =>
    rw [hob] at h1
    simp only at h1
    obtain ⟨r',hr',hs⟩:=h1
    rw [hr']
    simp only [outR]
    refine ⟨fun h=>absurd rfl h,fun _=>⟨trivial,by have:=hs.n; omega,?_⟩⟩
    exact hs.rl.state
end
theorem set5' {W:World} {b:Nat} {x0 x1 x2 x3 x4 x5 u0 u1 u2 u3 u4:Value} {E:TypeId} (h:W.heap[b]?=some (.cells #[x0,x1,x2,x3,x4,x5] E (0,0))) :
  (((((W.setCell ⟨b,0,none⟩ u0).setCell ⟨b,1,none⟩ u1).setCell ⟨b,2,none⟩ u2).setCell ⟨b,3,none⟩ u3).setCell ⟨b,4,none⟩ u4).heap[b]?=some (.cells #[u0,u1,u2,u3,u4,x5] E (0,0)) /\
   Chg (fun q=>q=b) W (((((W.setCell ⟨b,0,none⟩ u0).setCell ⟨b,1,none⟩ u1).setCell ⟨b,2,none⟩ u2).setCell ⟨b,3,none⟩ u3).setCell ⟨b,4,none⟩ u4):=by
 refine ⟨?_,(((((Chg.refl (fun q=>q=b) W).setCell (p:=⟨b,0,none⟩) (.inl rfl) _).setCell (p:=⟨b,1,none⟩) (.inl rfl) _).setCell (p:=⟨b,2,none⟩) (.inl rfl) _).setCell (p:=⟨b,3,none⟩) (.inl rfl) _).setCell (p:=⟨b,4,none⟩) (.inl rfl) _⟩
 rw [heap_setCell_same _ b 4 _ _ u4 (heap_setCell_same _ b 3 _ _ u3 (heap_setCell_same _ b 2 _ _ u2 (heap_setCell_same _ b 1 _ _ u1 (heap_setCell_same W b 0 _ _ u0 h))))]
 simp
theorem set6 {W:World} {b:Nat} {x0 x1 x2 x3 x4 x5 u0 u1 u2 u3 u4 u5:Value} {E:TypeId} (h:W.heap[b]?=some (.cells #[x0,x1,x2,x3,x4,x5] E (0,0))) :
  ((((((W.setCell ⟨b,0,none⟩ u0).setCell ⟨b,1,none⟩ u1).setCell ⟨b,2,none⟩ u2).setCell ⟨b,3,none⟩ u3).setCell ⟨b,4,none⟩ u4).setCell ⟨b,5,none⟩ u5).heap[b]?=some (.cells #[u0,u1,u2,u3,u4,u5] E (0,0)) /\
   Chg (fun q=>q=b) W ((((((W.setCell ⟨b,0,none⟩ u0).setCell ⟨b,1,none⟩ u1).setCell ⟨b,2,none⟩ u2).setCell ⟨b,3,none⟩ u3).setCell ⟨b,4,none⟩ u4).setCell ⟨b,5,none⟩ u5):=by
 obtain ⟨h1,h2⟩:=set5' h
 refine ⟨?_,h2.setCell (p:=⟨b,5,none⟩) (.inl rfl) _⟩
 rw [heap_setCell_same _ b 5 _ _ u5 h1]
 simp
theorem PV.cap {w:World} {S:Nat->Prop} {p:PG} {A1 A2 A3:Option Addr} {l1 c1 l2 c2 l3 c3:Nat} {k n:Int} {s:ByteArray} (h:PV w S p (pv A1 l1 c1 A2 l2 c2 k n s A3 l3 c3)):p.m.ks.length<=c3:=by
 obtain ⟨B1,d1,B2,d2,B3,d3,he,hpg⟩:=h
 injection he with he
 simp only [Array.mk.injEq,List.cons.injEq,Value.slice.injEq,and_true,true_and] at he
 obtain ⟨-,-,-,-,-,-,-,rfl⟩:=he
 obtain ⟨A',c',he,hf,hlk,hlc,hr⟩:=hpg.main.open_
 injection he with he
 simp only [Array.mk.injEq,List.cons.injEq,Value.slice.injEq,and_true,true_and] at he
 obtain ⟨rfl,rfl⟩:=he
 exact hlc
theorem resO_valid {p:PG} {s:SS} {F:Int} {g:Nat} {back:Bool} (h:(resO p s F g back).2.2.1≠3):validB p=true:=by
 cases hv:validB p with
 | true=>rfl
 | false=>exact absurd (by unfold resO; rw [if_pos (.inl hv)]) h
theorem RowAt.take {w:World} {S:Nat->Prop} {A:Option Addr} {ts:List T} (h:RowAt w S A ts) (k:Nat):RowAt w S A (ts.take k):=fun i hi=>by
 have hi':i<ts.length:=by simp at hi; omega
 obtain ⟨a,u0,u1,u2,u3,h1,h2,h3,h4⟩:=h i hi'
 exact ⟨a,u0,u1,u2,u3,h1,h2,h3,by rw [List.getElem_take]; exact h4⟩
theorem PV.takeK {w:World} {S:Nat->Prop} {p:PG} {A1 A2 A3:Option Addr} {c1 c2 c3 k:Nat} (h:PV w S p (pv A1 p.vs.length c1 A2 p.prs.length c2 p.m.k p.m.n p.m.s A3 p.m.ks.length c3)) (hk:k<=p.m.ks.length) :
  PV w S (p.part (p.m.ks.take k)) (pv A1 p.vs.length c1 A2 p.prs.length c2 p.m.k p.m.n p.m.s A3 k c3):=by
 obtain ⟨B1,d1,B2,d2,B3,d3,he,hpg⟩:=h
 injection he with he
 simp only [Array.mk.injEq,List.cons.injEq,Value.slice.injEq,and_true,true_and] at he
 obtain ⟨⟨rfl,rfl⟩,⟨rfl,rfl⟩,⟨rfl,rfl⟩⟩:=he
 obtain ⟨A',c',he,hf,hlk,hlc,hr⟩:=hpg.main.open_
 injection he with he
 simp only [Array.mk.injEq,List.cons.injEq,Value.slice.injEq,and_true,true_and] at he
 obtain ⟨rfl,rfl⟩:=he
 have hl:(p.m.ks.take k).length=k:=by simp; omega
 have hm:=NV.shut (ks:=p.m.ks.take k) (A:=A3) (c:=c3) hf (by omega) (by omega) (hr.take k)
 rw [hl] at hm
 exact ⟨A1,c1,A2,c2,A3,c3,by simp only [PG.part,T.k_nd,T.n_nd,T.s_nd,T.ks_nd,hl],hpg.vars,hpg.lv,hpg.lvc,hpg.procs,hpg.lp,hpg.lpc,by simp only [PG.part,T.k_nd,T.n_nd,T.s_nd,T.ks_nd,hl]; exact hm⟩
theorem PV.dropK {w:World} {S:Nat->Prop} {p:PG} {A1 A2 A3:Option Addr} {c1 c2 c3 k:Nat} (h:PV w S p (pv A1 p.vs.length c1 A2 p.prs.length c2 p.m.k p.m.n p.m.s A3 p.m.ks.length c3)) (hk:k<=p.m.ks.length) (A':Option Addr) (c':Nat) (hc:p.m.ks.length-k<=c') (hA:∀ a,A3=some a->k<p.m.ks.length->A'=some (a.add (k*4))) :
  PV w S (p.part (p.m.ks.drop k)) (pv A1 p.vs.length c1 A2 p.prs.length c2 p.m.k p.m.n p.m.s A' (p.m.ks.length-k) c'):=by
 obtain ⟨B1,d1,B2,d2,B3,d3,he,hpg⟩:=h
 injection he with he
 simp only [Array.mk.injEq,List.cons.injEq,Value.slice.injEq,and_true,true_and] at he
 obtain ⟨⟨rfl,rfl⟩,⟨rfl,rfl⟩,⟨rfl,rfl⟩⟩:=he
 obtain ⟨A9,c9,he,hf,hlk,hlc,hr⟩:=hpg.main.open_
 injection he with he
 simp only [Array.mk.injEq,List.cons.injEq,Value.slice.injEq,and_true,true_and] at he
 obtain ⟨rfl,rfl⟩:=he
 have hl:(p.m.ks.drop k).length=p.m.ks.length-k:=by simp
 have hr':RowAt w S A' (p.m.ks.drop k):=fun i hi=>by
  have hi':k+i<p.m.ks.length:=by rw [hl] at hi; omega
  obtain ⟨a,u0,u1,u2,u3,h1,h2,h3,h4⟩:=hr (k+i) hi'
  have e:(a.add (k*4)).add (i*4)=a.add ((k+i)*4):=by rw [Addr.add_add]; congr 1; omega
  exact ⟨a.add (k*4),u0,u1,u2,u3,hA a h1 (by omega),by rw [block_add]; exact h2,by rw [e]; exact h3,by rw [List.getElem_drop]; exact h4⟩
 have hm:=NV.shut (ks:=p.m.ks.drop k) (A:=A') (c:=c') hf (by omega) (by omega) hr'
 rw [hl] at hm
 exact ⟨A1,c1,A2,c2,A',c',by simp only [PG.part,T.k_nd,T.n_nd,T.s_nd,T.ks_nd,hl],hpg.vars,hpg.lv,hpg.lvc,hpg.procs,hpg.lp,hpg.lpc,by simp only [PG.part,T.k_nd,T.n_nd,T.s_nd,T.ks_nd,hl]; exact hm⟩
theorem Parts_walk (p:PG) (s:SS) (at':Int) (ha:0<=at'/\at'<=255) (v sv:Value) (W:World) (hp:PV W Any p v) (hs:SV W Any s sv) :
  Calls Tryz.prog 7 #[v,sv,.int .u8 at'] W fun e W'=>e=.returned (.bool true)/\Below W.heap.size W W':=by
 have HLT:=zh (show p.m.ks.length<=LK by
  obtain ⟨A1,c1,A2,c2,A3,c3,-,hpg⟩:=hp
  obtain ⟨_,_,_,_,h,_⟩:=hpg.main.open_
  exact h)
 have HPV:=zh hp
 have HSV:=zh hs
 obtain ⟨A1,c1,A2,c2,A3,c3,rfl,hpg⟩:=hp
 obtain ⟨A,c,B,d,D,e,rfl,hr1,hr2,hr3,hc1,hc2,hc3,hl1,hl2,hl3,hl4⟩:=hs
 have hb2:=bl_al (bl_al (Below.refl W.heap.size W) (.cells #[.slice A1 p.vs.length c1,.slice A2 p.prs.length c2,.int .u8 p.m.k,.int .i64 p.m.n,.string p.m.s,.slice A3 p.m.ks.length c3] 28)) (.cells #[.slice A s.cells.length c,.slice B s.tin.length d,.slice D s.tout.length e] 32)
 have k0:=blk_al (heap_alloc_new W (.cells #[.slice A1 p.vs.length c1,.slice A2 p.prs.length c2,.int .u8 p.m.k,.int .i64 p.m.n,.string p.m.s,.slice A3 p.m.ks.length c3] 28)) (.cells #[.slice A s.cells.length c,.slice B s.tin.length d,.slice D s.tout.length e] 32)
 have k1:=heap_alloc_new (W.alloc (.cells #[.slice A1 p.vs.length c1,.slice A2 p.prs.length c2,.int .u8 p.m.k,.int .i64 p.m.n,.string p.m.s,.slice A3 p.m.ks.length c3] 28)) (.cells #[.slice A s.cells.length c,.slice B s.tin.length d,.slice D s.tout.length e] 32)
 rw [World.size_alloc] at k1
 obtain ⟨w2,hw2⟩:∃ x,(W.alloc (.cells #[.slice A1 p.vs.length c1,.slice A2 p.prs.length c2,.int .u8 p.m.k,.int .i64 p.m.n,.string p.m.s,.slice A3 p.m.ks.length c3] 28)).alloc (.cells #[.slice A s.cells.length c,.slice B s.tin.length d,.slice D s.tout.length e] 32)=x:=⟨_,rfl⟩
 rw [hw2] at hb2 k0 k1
 have HB2:=zh hb2
 have HK0:=zh k0
 have HK1:=zh k1
 clear hpg hr1 hr2 hr3 hb2 k0 k1 hc1 hc2 hc3 hl1 hl2 hl3 hl4
 have HAW:=zh (awake_any w2)
 have HGR:=zh (fun w' (hb:Below w2.heap.size w2 w')=>great_any p s 0 _ _ w' (HPV.out.later (bl_tt HB2.out hb)) (HSV.out.later (bl_tt HB2.out hb)) ⟨by decide,by decide⟩)
 go_enter Tryz.func7,Tryz.ntmps7
 go_wp2_with fail
 refine HAW.out.mono ?_
 rintro e3 w3 ⟨rfl,b3⟩
 clear hw2 HAW
 have hPq:=blk_bl HK0.out b3
 have hSq:=blk_bl HK1.out b3
 have p0:w3.cell? ⟨W.heap.size,0,none⟩=some (.slice A1 p.vs.length c1):=zc hPq rfl
 have p1:w3.cell? ⟨W.heap.size,1,none⟩=some (.slice A2 p.prs.length c2):=zc hPq rfl
 have p2:w3.cell? ⟨W.heap.size,2,none⟩=some (.int .u8 p.m.k):=zc hPq rfl
 have p3:w3.cell? ⟨W.heap.size,3,none⟩=some (.int .i64 p.m.n):=zc hPq rfl
 have p4:w3.cell? ⟨W.heap.size,4,none⟩=some (.string p.m.s):=zc hPq rfl
 have p5:w3.cell? ⟨W.heap.size,5,none⟩=some (.slice A3 p.m.ks.length c3):=zc hPq rfl
 have s0:w3.cell? ⟨W.heap.size+1,0,none⟩=some (.slice A s.cells.length c):=zc hSq rfl
 have s1:w3.cell? ⟨W.heap.size+1,1,none⟩=some (.slice B s.tin.length d):=zc hSq rfl
 have s2:w3.cell? ⟨W.heap.size+1,2,none⟩=some (.slice D s.tout.length e):=zc hSq rfl
 clear hPq hSq
 go_wp2_with fail
 refine (HGR.out _ b3).mono ?_
 rintro e4 w4 ⟨gb,rfl,hgb,b4⟩
 have b24:=bl_tt b3 b4
 clear p0 p1 p2 p3 p4 p5 s0 s1 s2 b3 b4 HGR
 cases gb
 ·have HSM:=zh (hgb rfl)
  have HCL:=zh (show s.cells.length<=1000000 by have:=HSM.out.cells; omega)
  clear hgb
  have hPq:=blk_bl HK0.out b24
  have hSq:=blk_bl HK1.out b24
  have p0:w4.cell? ⟨W.heap.size,0,none⟩=some (.slice A1 p.vs.length c1):=zc hPq rfl
  have p1:w4.cell? ⟨W.heap.size,1,none⟩=some (.slice A2 p.prs.length c2):=zc hPq rfl
  have p2:w4.cell? ⟨W.heap.size,2,none⟩=some (.int .u8 p.m.k):=zc hPq rfl
  have p3:w4.cell? ⟨W.heap.size,3,none⟩=some (.int .i64 p.m.n):=zc hPq rfl
  have p4:w4.cell? ⟨W.heap.size,4,none⟩=some (.string p.m.s):=zc hPq rfl
  have p5:w4.cell? ⟨W.heap.size,5,none⟩=some (.slice A3 p.m.ks.length c3):=zc hPq rfl
  have s0:w4.cell? ⟨W.heap.size+1,0,none⟩=some (.slice A s.cells.length c):=zc hSq rfl
  have s1:w4.cell? ⟨W.heap.size+1,1,none⟩=some (.slice B s.tin.length d):=zc hSq rfl
  have s2:w4.cell? ⟨W.heap.size+1,2,none⟩=some (.slice D s.tout.length e):=zc hSq rfl
  clear hPq hSq
  by_cases h57:p.m.k=57
  ·have H57:=zh h57
   have hlk1:(p.m.ks.length:Int)+1<=9223372036854775807:=by have:=HLT.out; unfold LK at this; omega
   have hlk2:¬ ((p.m.ks.length:Int)+1=0):=by omega
   rw [h57] at p2
   clear h57
   go_upto_region 4 with fail
   obtain ⟨kk,hkk,hkl⟩:∃ kk:Nat,at' % ((p.m.ks.length:Int)+1)=(kk:Int)/\kk<=p.m.ks.length:=by
    have h1:=Int.emod_nonneg at' (show (p.m.ks.length:Int)+1≠0 by omega)
    have h2:=Int.emod_lt_of_pos at' (show (0:Int)<(p.m.ks.length:Int)+1 by omega)
    exact ⟨(at' % ((p.m.ks.length:Int)+1)).toNat,by omega,by omega⟩
   rw [hkk]
   clear hkk hlk1 hlk2 p0 p1 p2 p3 p4 p5 s0 s1 s2
   have HKP:=zh (blk_bl HK0.out b24)
   rw [H57.out] at HKP
   have HSS:=zh (show ∀ w',Below w4.heap.size w4 w'->(fun w':World=>w'.cell? ⟨W.heap.size,0,none⟩=some (.slice A1 p.vs.length c1)/\w'.cell? ⟨W.heap.size,1,none⟩=some (.slice A2 p.prs.length c2)/\w'.cell? ⟨W.heap.size,2,none⟩=some (.int .u8 57)/\w'.cell? ⟨W.heap.size,3,none⟩=some (.int .i64 p.m.n)/\w'.cell? ⟨W.heap.size,4,none⟩=some (.string p.m.s)/\w'.cell? ⟨W.heap.size,5,none⟩=some (.slice A3 p.m.ks.length c3)) w' from fun w' hb=>⟨zb hb (zc HKP.out rfl),zb hb (zc HKP.out rfl),zb hb (zc HKP.out rfl),zb hb (zc HKP.out rfl),zb hb (zc HKP.out rfl),zb hb (zc HKP.out rfl)⟩)
   have hSS:(fun w':World=>w'.cell? ⟨W.heap.size,0,none⟩=some (.slice A1 p.vs.length c1)/\w'.cell? ⟨W.heap.size,1,none⟩=some (.slice A2 p.prs.length c2)/\w'.cell? ⟨W.heap.size,2,none⟩=some (.int .u8 57)/\w'.cell? ⟨W.heap.size,3,none⟩=some (.int .i64 p.m.n)/\w'.cell? ⟨W.heap.size,4,none⟩=some (.string p.m.s)/\w'.cell? ⟨W.heap.size,5,none⟩=some (.slice A3 p.m.ks.length c3)) w4.drew/\(fun _:World=>True) w4.drew:=⟨HSS.out _ (Below.refl _ _).drew,trivial⟩
   refine wp_region_noPanic ?_
   refine wp_region_G (fun w':World=>w'.cell? ⟨W.heap.size,0,none⟩=some (.slice A1 p.vs.length c1)/\w'.cell? ⟨W.heap.size,1,none⟩=some (.slice A2 p.prs.length c2)/\w'.cell? ⟨W.heap.size,2,none⟩=some (.int .u8 57)/\w'.cell? ⟨W.heap.size,3,none⟩=some (.int .i64 p.m.n)/\w'.cell? ⟨W.heap.size,4,none⟩=some (.string p.m.s)/\w'.cell? ⟨W.heap.size,5,none⟩=some (.slice A3 p.m.ks.length c3)) (fun _:World=>True) 4 (by kernel_rfl) ?_
   refine zT 0 hSS ?_
   (try simp only [Act.put,zP])
   refine zT 1 hSS ?_
   (try simp only [Act.put,zP])
   have hI:(fun w=>Below w4.heap.size w4 w) w4.drew:=(Below.refl _ _).drew
   clear hSS
   refine wpG_free2 (j1:=2) (j2:=3) (some 8) (some 9) 2 (fun la lb => #[true,true,la,lb,false,false]) _ (fun w=>Below w4.heap.size w4 w) (J2 (.cells #[.slice none 0 0,.slice none 0 0,.int .u8 0,.int .i64 0,.string ⟨#[]⟩,.slice none 0 0] 28 (0,0)) w4.heap.size) rfl rfl rfl rfl (by kernel_rfl) (by kernel_rfl) (by kernel_rfl) (fun lb=>by cases lb<;>rfl) (fun la=>by cases la<;>rfl) (fun w h=>⟨HSS.out _ h,trivial⟩) (fun w w' h hb=>?_) (fun lb u v K w h hj hK0=>?_) (fun la u v K w h hj hK0=>?_) (fun u v x=>?_) (fun u v x=>?_) (fun u v wd h hj=>?_) false false undef undef w4.drew hI ⟨nofun,nofun,nofun⟩ ?_
   ·have hb0:=h
    exact bl_tt hb0 hb
   ·have hb0:=h
    have hK:=zh hK0
    clear hK0
    (try simp only [Act.put,zP])
    (try simp only [zA,zB,zC])
    go_simp
    exact hK.out _ _ (bl_al (Below.refl _ _) _) (hj.one hb0.size)
   ·have hb0:=h
    have hK:=zh hK0
    clear hK0
    (try simp only [Act.put,zP])
    (try simp only [zA,zB,zC])
    go_simp
    exact hK.out _ _ (bl_al (Below.refl _ _) _) (hj.two hb0.size)
   ·simp only [Act.put,zD,zE,zF]
   ·simp only [Act.put,zD,zE,zF]
   rotate_left 1
   ·simp only [Act.put,zD,zE,zF]
   (try simp only [Act.put,zP])
   obtain ⟨ba,bb,rfl,rfl,hla,hlb,hne,hza,hzb⟩:=hj.boxes
   have hb0:=h
   clear hI hj h
   have x0:wd.cell? ⟨ba,0,none⟩=some (.slice none 0 0):=zc hza rfl
   have x1:wd.cell? ⟨ba,1,none⟩=some (.slice none 0 0):=zc hza rfl
   have x2:wd.cell? ⟨ba,2,none⟩=some (.int .u8 0):=zc hza rfl
   have x3:wd.cell? ⟨ba,3,none⟩=some (.int .i64 0):=zc hza rfl
   have x4:wd.cell? ⟨ba,4,none⟩=some (.string ⟨#[]⟩):=zc hza rfl
   have x5:wd.cell? ⟨ba,5,none⟩=some (.slice none 0 0):=zc hza rfl
   have xf:∀ o,wd.frozen? ⟨ba,o,none⟩=false:=fun _=>zf hza
   have HZA:=zh hza
   have HZB:=zh hzb
   have HB0:=zh hb0
   clear hza hzb hb0
   refine wpG_past (i:=4) (by kernel_rfl) rfl (by kernel_rfl) (fun K hK=>?_)
   (try simp only [zA,zB,zC])
   go_simp
   obtain ⟨hh,hch⟩:=set6 (u0:=.slice A1 p.vs.length c1) (u1:=.slice A2 p.prs.length c2) (u2:=.int .u8 57) (u3:=.int .i64 p.m.n) (u4:=.string p.m.s) (u5:=.slice A3 p.m.ks.length c3) HZA.out
   have hb1:=HB0.out.trans (hch.below HB0.out.size fun b e=>by omega)
   have hzb:=hch.keep HZB.out (by show ¬ (bb=ba); omega)
   obtain ⟨we,hwe⟩:∃ x,((((((wd.setCell ⟨ba,0,none⟩ (.slice A1 p.vs.length c1)).setCell ⟨ba,1,none⟩ (.slice A2 p.prs.length c2)).setCell ⟨ba,2,none⟩ (.int .u8 57)).setCell ⟨ba,3,none⟩ (.int .i64 p.m.n)).setCell ⟨ba,4,none⟩ (.string p.m.s)).setCell ⟨ba,5,none⟩ (.slice A3 p.m.ks.length c3))=x:=⟨_,rfl⟩
   rw [hwe] at hh hch hb1 hzb ⊢
   refine hK.out _ _ (HSS.out _ hb1) ?_
   clear hK K x0 x1 x2 x3 x4 x5 xf hwe hch HZA HZB HB0
   (try simp only [Act.put,zP])
   have x0:we.cell? ⟨bb,0,none⟩=some (.slice none 0 0):=zc hzb rfl
   have x1:we.cell? ⟨bb,1,none⟩=some (.slice none 0 0):=zc hzb rfl
   have x2:we.cell? ⟨bb,2,none⟩=some (.int .u8 0):=zc hzb rfl
   have x3:we.cell? ⟨bb,3,none⟩=some (.int .i64 0):=zc hzb rfl
   have x4:we.cell? ⟨bb,4,none⟩=some (.string ⟨#[]⟩):=zc hzb rfl
   have x5:we.cell? ⟨bb,5,none⟩=some (.slice none 0 0):=zc hzb rfl
   have xf:∀ o,we.frozen? ⟨bb,o,none⟩=false:=fun _=>zf hzb
   have HZA:=zh hh
   have HZB:=zh hzb
   have HB0:=zh hb1
   clear hh hzb hb1
   refine wpG_past (i:=5) (by kernel_rfl) rfl (by kernel_rfl) (fun K hK=>?_)
   (try simp only [zA,zB,zC])
   go_simp
   obtain ⟨hh,hch⟩:=set6 (u0:=.slice A1 p.vs.length c1) (u1:=.slice A2 p.prs.length c2) (u2:=.int .u8 57) (u3:=.int .i64 p.m.n) (u4:=.string p.m.s) (u5:=.slice A3 p.m.ks.length c3) HZB.out
   have hb1:=HB0.out.trans (hch.below HB0.out.size fun b e=>by omega)
   have hza:=hch.keep HZA.out (by show ¬ (ba=bb); omega)
   obtain ⟨wf,hwe⟩:∃ x,((((((we.setCell ⟨bb,0,none⟩ (.slice A1 p.vs.length c1)).setCell ⟨bb,1,none⟩ (.slice A2 p.prs.length c2)).setCell ⟨bb,2,none⟩ (.int .u8 57)).setCell ⟨bb,3,none⟩ (.int .i64 p.m.n)).setCell ⟨bb,4,none⟩ (.string p.m.s)).setCell ⟨bb,5,none⟩ (.slice A3 p.m.ks.length c3))=x:=⟨_,rfl⟩
   rw [hwe] at hh hch hb1 hza ⊢
   refine hK.out _ _ (HSS.out _ hb1) ?_
   clear hK K x0 x1 x2 x3 x4 x5 xf hwe hch HZA HZB HB0
   (try simp only [Act.put,zP])
   refine wpG_done (by kernel_rfl) ?_
   refine NoPanic.normal ?_
   have HZA:=zh hza
   have HZB:=zh hh
   have HB0:=zh hb1
   clear hza hh hb1
   go_upto_region 5 with fail
   have HLC:=zh (HPV.out.cap)
   have hkc:kk<=c3:=Nat.le_trans hkl HLC.out
   have hkc':(kk:Int)<=(c3:Int):=by omega
   have hkl':(kk:Int)<=(p.m.ks.length:Int):=by omega
   have hk0:(0:Int)<=(kk:Int):=by omega
   have hSS:(fun w':World=>w'.cell? ⟨W.heap.size,5,none⟩=some (.slice A3 p.m.ks.length c3)) wf.drew/\(fun _:World=>True) wf.drew:=⟨(HSS.out _ HB0.out.drew).2.2.2.2.2,trivial⟩
   refine wp_region_noPanic ?_
   refine wp_region_G (fun w':World=>w'.cell? ⟨W.heap.size,5,none⟩=some (.slice A3 p.m.ks.length c3)) (fun _:World=>True) 12 (by kernel_rfl) ?_
   refine zT 0 hSS ?_
   (try simp only [Act.put,zP])
   refine zT 1 hSS ?_
   (try simp only [Act.put,zP])
   refine zT 2 hSS ?_
   (try simp only [Act.put,zP])
   refine zT 3 hSS ?_
   (try simp only [Act.put,zP])
   refine zT 4 hSS ?_
   (try simp only [Act.put,zP])
   refine zT 5 hSS ?_
   (try simp only [Act.put,zP])
   refine zT 6 hSS ?_
   (try simp only [Act.put,zP])
   refine zT 7 hSS ?_
   (try simp only [Act.put,zP])
   refine zT 8 hSS ?_
   (try simp only [Act.put,zP])
   refine zT 9 hSS ?_
   (try simp only [Act.put,zP])
   refine zT 10 hSS ?_
   (try simp only [Act.put,zP])
   refine zT 11 hSS ?_
   (try simp only [Act.put,zP])
   obtain ⟨A5,hA5⟩:∃ x,(if c3=kk then A3 else Option.map (fun x=>x.add (kk*4)) A3)=x:=⟨_,rfl⟩
   rw [hA5]
   have x5:wf.drew.cell? ⟨ba,5,none⟩=some (.slice A3 p.m.ks.length c3):=zc (blk_bl HZA.out (Below.refl _ _).drew) rfl
   have xf:∀ o,wf.drew.frozen? ⟨ba,o,none⟩=false:=fun _=>zf (blk_bl HZA.out (Below.refl _ _).drew)
   have hza:=blk_bl HZA.out (Below.refl _ _).drew
   have hzb:=blk_bl HZB.out (Below.refl _ _).drew
   obtain ⟨wd2,hwd2⟩:∃ x,wf.drew=x:=⟨_,rfl⟩
   have hbd:Below w4.heap.size w4 wd2:=by rw [<-hwd2]; exact HB0.out.drew
   rw [hwd2] at x5 hza hzb hSS ⊢
   simp only [hwd2] at xf
   refine wpG_past (i:=12) (by kernel_rfl) rfl (by kernel_rfl) (fun K hK=>?_)
   (try simp only [zA,zB,zC])
   go_simp
   have hch:=(Chg.refl (fun q=>q=ba) wd2).setCell (p:=⟨ba,5,none⟩) (.inl rfl) (.slice A3 kk c3)
   have hh:=heap_setCell_same wd2 ba 5 _ _ (.slice A3 kk c3) hza
   simp only [List.setIfInBounds_toArray,List.set_cons_zero,List.set_cons_succ] at hh
   have hb1:=hbd.trans (hch.below hbd.size fun b e=>by have e:b=ba:=e; omega)
   have hzb2:=hch.keep hzb (by show ¬ (bb=ba); omega)
   obtain ⟨wg,hwg⟩:∃ x,wd2.setCell ⟨ba,5,none⟩ (.slice A3 kk c3)=x:=⟨_,rfl⟩
   rw [hwg] at hch hh hb1 hzb2 ⊢
   refine hK.out _ _ (HSS.out _ hb1).2.2.2.2.2 ?_
   clear hK K x5 xf hza hzb hwg hwd2 hch hSS
   (try simp only [Act.put,zP])
   have hSS:(fun w':World=>w'.cell? ⟨W.heap.size,5,none⟩=some (.slice A3 p.m.ks.length c3)) wg/\(fun _:World=>True) wg:=⟨(HSS.out _ hb1).2.2.2.2.2,trivial⟩
   refine wpG_takeP (i:=13) (v:=?_) rfl (by kernel_rfl) (by kernel_rfl) (by kernel_rfl) (by decide) (by kernel_rfl) (fun _ _ _ h=>h) (Or.inl ⟨by rfl,?_⟩) hSS.1 ?_
   rotate_left 1
   ·(intro w hSw; (try dsimp only at hSw); (try simp only [zA,zB,zC]); go_simp; (try with_reducible rfl))
   (try simp only [Act.put,zP])
   refine wpG_takeP (i:=14) (v:=?_) rfl (by kernel_rfl) (by kernel_rfl) (by kernel_rfl) (by decide) (by kernel_rfl) (fun _ _ _ h=>h) (Or.inl ⟨by rfl,?_⟩) hSS.1 ?_
   rotate_left 1
   ·(intro w hSw; (try dsimp only at hSw); (try simp only [zA,zB,zC]); go_simp; (try with_reducible rfl))
   (try simp only [Act.put,zP])
   have x5:wg.cell? ⟨bb,5,none⟩=some (.slice A3 p.m.ks.length c3):=zc hzb2 rfl
   have xf:∀ o,wg.frozen? ⟨bb,o,none⟩=false:=fun _=>zf hzb2
   refine wpG_past (i:=15) (by kernel_rfl) rfl (by kernel_rfl) (fun K hK=>?_)
   (try simp only [zA,zB,zC])
   go_simp
   have hch:=(Chg.refl (fun q=>q=bb) wg).setCell (p:=⟨bb,5,none⟩) (.inl rfl) (.slice A5 (p.m.ks.length-kk) (c3-kk))
   have hh2:=heap_setCell_same wg bb 5 _ _ (.slice A5 (p.m.ks.length-kk) (c3-kk)) hzb2
   simp only [List.setIfInBounds_toArray,List.set_cons_zero,List.set_cons_succ] at hh2
   have hb2:=hb1.trans (hch.below hb1.size fun b e=>by have e:b=bb:=e; omega)
   have hza2:=hch.keep hh (by show ¬ (ba=bb); omega)
   obtain ⟨wh,hwh⟩:∃ x,wg.setCell ⟨bb,5,none⟩ (.slice A5 (p.m.ks.length-kk) (c3-kk))=x:=⟨_,rfl⟩
   rw [hwh] at hch hh2 hb2 hza2 ⊢
   refine hK.out _ _ (HSS.out _ hb2).2.2.2.2.2 ?_
   clear hK K x5 xf hwh hch hh hzb2 hb1 hSS hbd HZA HZB HB0
   (try simp only [Act.put,zP])
   refine wpG_done (by kernel_rfl) ?_
   refine NoPanic.normal ?_
   have HZA:=zh hza2
   have HZB:=zh hh2
   have HB0:=zh (HB2.out.trans ((bl_tt b24 hb2).mono HB2.out.size))
   have HW8:=zh (bl_tt b24 hb2)
   have hlc:=HLC.out
   have HPA:=zh ((HPV.out.takeK hkl).later HB0.out)
   have HPB:=zh ((HPV.out.dropK hkl A5 (c3-kk) (by omega) (fun a ha hlt=>by rw [<-hA5,if_neg (by omega),ha]; rfl)).later HB0.out)
   clear hza2 hh2 hb2 b24 hA5 hkc hkc' hkl' hk0 HSS HKP
   rw [H57.out] at HPA HPB
   have hF2:I64 (2000:Int):=⟨by decide,by decide⟩
   have hF6:(2000:Int)<=1000000:=by decide
   have hFG:(2000:Int).toNat*2000+2000<=5000000:=by decide
   go_upto_region 6 with fail
   obtain ⟨R0,hR0⟩:∃ R,resO p s 2000 5000000 false=R:=⟨_,rfl⟩
   have HR0:=zh hR0
   have hPq:=blk_bl HK0.out HW8.out
   have hSq:=blk_bl HK1.out HW8.out
   have p0:wh.cell? ⟨W.heap.size,0,none⟩=some (.slice A1 p.vs.length c1):=zc hPq rfl
   have p1:wh.cell? ⟨W.heap.size,1,none⟩=some (.slice A2 p.prs.length c2):=zc hPq rfl
   have p2:wh.cell? ⟨W.heap.size,2,none⟩=some (.int .u8 p.m.k):=zc hPq rfl
   have p3:wh.cell? ⟨W.heap.size,3,none⟩=some (.int .i64 p.m.n):=zc hPq rfl
   have p4:wh.cell? ⟨W.heap.size,4,none⟩=some (.string p.m.s):=zc hPq rfl
   have p5:wh.cell? ⟨W.heap.size,5,none⟩=some (.slice A3 p.m.ks.length c3):=zc hPq rfl
   have s0:wh.cell? ⟨W.heap.size+1,0,none⟩=some (.slice A s.cells.length c):=zc hSq rfl
   have s1:wh.cell? ⟨W.heap.size+1,1,none⟩=some (.slice B s.tin.length d):=zc hSq rfl
   have s2:wh.cell? ⟨W.heap.size+1,2,none⟩=some (.slice D s.tout.length e):=zc hSq rfl
   clear hPq hSq
   have hcon:=Forward_any p s 2000 5000000 _ _ _ (HPV.out.later (bl_tt HB2.out HW8.out)) (HSV.out.later (bl_tt HB2.out HW8.out)) HCL.out hF2 hF6 hFG
   rw [hR0] at hcon
   have HCON:=zh hcon
   clear hcon
   go_wp2_with fail
   refine HCON.out.mono ?_
   rintro e6 w6 ⟨v1,v2,v3,rfl,ho6,hbQ6,hl6⟩
   obtain ⟨A6,c6,B6,d6,D6,g6,hv⟩:=ho6.slices
   injection hv with hv
   simp only [Array.mk.injEq,List.cons.injEq,and_true] at hv
   obtain ⟨rfl,rfl,rfl⟩:=hv
   have HO6:=zh ho6
   have HL6:=zh hl6
   have hq6:=bl_tt HW8.out hbQ6
   clear p0 p1 p2 p3 p4 p5 s0 s1 s2 ho6 hl6 HCON
   obtain ⟨S0,n0,e0,l0⟩:=R0
   dsimp only at HO6 HL6 HR0 ⊢
   clear hR0
   go_upto_region 7 with fail
   have ka:=heap_alloc_new w6 (.cells #[.slice A6 S0.cells.length c6,.slice B6 S0.tin.length d6,.slice D6 S0.tout.length g6,.int .i64 (n0:Int),.int .i64 e0] 37)
   have hba:=bl_al (Below.refl w6.heap.size w6) (.cells #[.slice A6 S0.cells.length c6,.slice B6 S0.tin.length d6,.slice D6 S0.tout.length g6,.int .i64 (n0:Int),.int .i64 e0] 37)
   obtain ⟨w7,hqx⟩:∃ x,w6.alloc (.cells #[.slice A6 S0.cells.length c6,.slice B6 S0.tin.length d6,.slice D6 S0.tout.length g6,.int .i64 (n0:Int),.int .i64 e0] 37)=x:=⟨_,rfl⟩
   obtain ⟨rb6,hqy⟩:∃ x,w6.heap.size=x:=⟨_,rfl⟩
   rw [hqx] at ka hba
   rw [hqy] at ka
   rw [hqx,hqy]
   clear hqx hqy
   have hq7:=bl_tt hq6 hba
   have h87:=bl_tt hbQ6 hba
   have HO7:=zh (HO6.out.later hba)
   have HK6:=zh ka
   clear ka hba HO6
   have x4:w7.cell? ⟨rb6,4,none⟩=some (.int .i64 e0):=zc HK6.out rfl
   by_cases hbad:e0=3\/e0=20\/e0=18
   ·have hq9:=bl_tt HB2.out hq7
    rcases hbad with rfl|rfl|rfl
    ·go_wp2_with fail
     go_ret
     exact ⟨rfl,hq9⟩
    ·go_wp2_with fail
     go_ret
     exact ⟨rfl,hq9⟩
    ·go_wp2_with fail
     go_ret
     exact ⟨rfl,hq9⟩
   ·simp only [not_or] at hbad
    obtain ⟨hb3,hb20,hb18⟩:=hbad
    have hvv:validB p=true:=resO_valid (s:=s) (F:=2000) (g:=5000000) (back:=false) (by rw [HR0.out]; exact hb3)
    obtain ⟨t1,t2,t3⟩:=HPV.out.lit hvv
    have hpl:=parts_law (s:=s) (F:=2000) (g:=5000000) (a:=p.m.ks.take kk) (b:=p.m.ks.drop kk) hF6 (by decide) hFG H57.out (List.take_append_drop kk p.m.ks).symm t1 t2 t3 HSV.out.nums (by rw [HR0.out]; exact hb3) (by rw [HR0.out]; exact hb20) (by rw [HR0.out]; exact hb18)
    rw [HR0.out] at hpl
    have q3:(e0==3)=false:=by simp [hb3]
    have q20:(e0==20)=false:=by simp [hb20]
    have q18:(e0==18)=false:=by simp [hb18]
    go_upto_region 9 with fail
    clear x4 q3 q20 q18
    obtain ⟨R1,hR1⟩:∃ R,resO (p.part (p.m.ks.take kk)) s 2000 5000000 false=R:=⟨_,rfl⟩
    rw [hR1] at hpl
    have hcon:=Forward_any (p.part (p.m.ks.take kk)) s 2000 5000000 _ _ w7 (HPA.out.later h87) (HSV.out.later (bl_tt HB2.out hq7)) HCL.out hF2 hF6 hFG
    rw [hR1] at hcon
    obtain ⟨S1,n1,e1,l1⟩:=R1
    dsimp only at hpl
    have HPL:=zh hpl
    have HCON:=zh hcon
    have HR1:=zh hR1
    clear hcon hpl t1 t2 t3 hR1
    have hza:=blk_bl HZA.out h87
    have p0:w7.cell? ⟨ba,0,none⟩=some (.slice A1 p.vs.length c1):=zc hza rfl
    have p1:w7.cell? ⟨ba,1,none⟩=some (.slice A2 p.prs.length c2):=zc hza rfl
    have p2:w7.cell? ⟨ba,2,none⟩=some (.int .u8 57):=zc hza rfl
    have p3:w7.cell? ⟨ba,3,none⟩=some (.int .i64 p.m.n):=zc hza rfl
    have p4:w7.cell? ⟨ba,4,none⟩=some (.string p.m.s):=zc hza rfl
    have p5:w7.cell? ⟨ba,5,none⟩=some (.slice A3 kk c3):=zc hza rfl
    have hSq:=blk_bl HK1.out hq7
    have s0:w7.cell? ⟨W.heap.size+1,0,none⟩=some (.slice A s.cells.length c):=zc hSq rfl
    have s1:w7.cell? ⟨W.heap.size+1,1,none⟩=some (.slice B s.tin.length d):=zc hSq rfl
    have s2:w7.cell? ⟨W.heap.size+1,2,none⟩=some (.slice D s.tout.length e):=zc hSq rfl
    clear hza hSq
    go_wp2_with fail
    refine HCON.out.mono ?_
    rintro e8 w8 ⟨v1,v2,v3,rfl,ho8,hb8,hl8⟩
    obtain ⟨A8,c8,B8,d8,D8,g8,hv⟩:=ho8.slices
    injection hv with hv
    simp only [Array.mk.injEq,List.cons.injEq,and_true] at hv
    obtain ⟨rfl,rfl,rfl⟩:=hv
    have HO8:=zh ho8
    have HL8:=zh hl8
    have hq8:=bl_tt hq7 hb8
    clear p0 p1 p2 p3 p4 p5 s0 s1 s2 ho8 hl8 HCON
    dsimp only at HO8 HL8 ⊢
    go_upto_region 10 with fail
    have ka:=heap_alloc_new w8 (.cells #[.slice A8 S1.cells.length c8,.slice B8 S1.tin.length d8,.slice D8 S1.tout.length g8,.int .i64 (n1:Int),.int .i64 e1] 37)
    have hba:=bl_al (Below.refl w8.heap.size w8) (.cells #[.slice A8 S1.cells.length c8,.slice B8 S1.tin.length d8,.slice D8 S1.tout.length g8,.int .i64 (n1:Int),.int .i64 e1] 37)
    obtain ⟨w9,hqx⟩:∃ x,w8.alloc (.cells #[.slice A8 S1.cells.length c8,.slice B8 S1.tin.length d8,.slice D8 S1.tout.length g8,.int .i64 (n1:Int),.int .i64 e1] 37)=x:=⟨_,rfl⟩
    obtain ⟨rb8,hqy⟩:∃ x,w8.heap.size=x:=⟨_,rfl⟩
    rw [hqx] at ka hba
    rw [hqy] at ka
    rw [hqx,hqy]
    clear hqx hqy
    have hq9:=bl_tt hq8 hba
    have h79:=bl_tt hb8 hba
    have h89:=bl_tt h87 h79
    have HO9:=zh (HO8.out.later hba)
    have HK8:=zh ka
    have HK6':=zh (blk_bl HK6.out h79)
    have HO6':=zh (HO7.out.later h79)
    clear ka hba HO8 HK6 HO7
    by_cases he1:e1=0
    ·subst he1
     have x4:w9.cell? ⟨rb8,4,none⟩=some (.int .i64 0):=zc HK8.out rfl
     go_upto_region 12 with fail
     clear x4
     have hpl:=HPL.out.2 rfl
     have hcs:S1.cells.length<=1000000:=by
      have h1:=(HL8.out.2 rfl).1
      have h2:=(fuel_law (p:=p.part (p.m.ks.take kk)) (s:=s) (F:=2000) (g:=5000000) (back:=false) hFG (by rw [HR1.out])).1
      rw [HR1.out] at h2
      simp only at h1 h2
      omega
     obtain ⟨R2,hR2⟩:∃ R,resO (p.part (p.m.ks.drop kk)) S1 2000 5000000 false=R:=⟨_,rfl⟩
     rw [hR2] at hpl
     have hcon:=Forward_any (p.part (p.m.ks.drop kk)) S1 2000 5000000 _ _ w9 (HPB.out.later h89) (HO9.out.sv HL8.out.1) hcs hF2 hF6 hFG
     rw [hR2] at hcon
     obtain ⟨S2,n2,e2,l2⟩:=R2
     dsimp only at hpl
     have HPL2:=zh hpl
     have HCON:=zh hcon
     have HR2:=zh hR2
     clear hcon hpl hR2
     have hzb:=blk_bl HZB.out h89
     have p0:w9.cell? ⟨bb,0,none⟩=some (.slice A1 p.vs.length c1):=zc hzb rfl
     have p1:w9.cell? ⟨bb,1,none⟩=some (.slice A2 p.prs.length c2):=zc hzb rfl
     have p2:w9.cell? ⟨bb,2,none⟩=some (.int .u8 57):=zc hzb rfl
     have p3:w9.cell? ⟨bb,3,none⟩=some (.int .i64 p.m.n):=zc hzb rfl
     have p4:w9.cell? ⟨bb,4,none⟩=some (.string p.m.s):=zc hzb rfl
     have p5:w9.cell? ⟨bb,5,none⟩=some (.slice A5 (p.m.ks.length-kk) (c3-kk)):=zc hzb rfl
     have s0:w9.cell? ⟨rb8,0,none⟩=some (.slice A8 S1.cells.length c8):=zc HK8.out rfl
     have s1:w9.cell? ⟨rb8,1,none⟩=some (.slice B8 S1.tin.length d8):=zc HK8.out rfl
     have s2:w9.cell? ⟨rb8,2,none⟩=some (.slice D8 S1.tout.length g8):=zc HK8.out rfl
     clear hzb
     go_wp2_with fail
     refine HCON.out.mono ?_
     rintro e10 w10 ⟨v1,v2,v3,rfl,ho10,hb10,hl10⟩
     obtain ⟨A10,c10,B10,d10,D10,g10,hv⟩:=ho10.slices
     injection hv with hv
     simp only [Array.mk.injEq,List.cons.injEq,and_true] at hv
     obtain ⟨rfl,rfl,rfl⟩:=hv
     have HO10:=zh ho10
     have HL10:=zh hl10
     have hq10:=bl_tt hq9 hb10
     clear p0 p1 p2 p3 p4 p5 s0 s1 s2 ho10 hl10 HCON
     dsimp only at HO10 HL10 ⊢
     go_upto_region 13 with fail
     have ka:=heap_alloc_new w10 (.cells #[.slice A10 S2.cells.length c10,.slice B10 S2.tin.length d10,.slice D10 S2.tout.length g10,.int .i64 (n2:Int),.int .i64 e2] 37)
     have hba:=bl_al (Below.refl w10.heap.size w10) (.cells #[.slice A10 S2.cells.length c10,.slice B10 S2.tin.length d10,.slice D10 S2.tout.length g10,.int .i64 (n2:Int),.int .i64 e2] 37)
     obtain ⟨w11,hqx⟩:∃ x,w10.alloc (.cells #[.slice A10 S2.cells.length c10,.slice B10 S2.tin.length d10,.slice D10 S2.tout.length g10,.int .i64 (n2:Int),.int .i64 e2] 37)=x:=⟨_,rfl⟩
     obtain ⟨rb10,hqy⟩:∃ x,w10.heap.size=x:=⟨_,rfl⟩
     rw [hqx] at ka hba
     rw [hqy] at ka
     rw [hqx,hqy]
     clear hqx hqy
     have hq11:=bl_tt hq10 hba
     have h9b:=bl_tt hb10 hba
     have k6:=blk_bl HK6'.out h9b
     have k8:=blk_bl HK8.out h9b
     have y4:w11.cell? ⟨rb6,4,none⟩=some (.int .i64 e0):=zc k6 rfl
     by_cases he2:e2=0
     ·subst he2
      obtain ⟨u1,u2,u3⟩:=HPL2.out.2 rfl
      subst u1 u2 u3
      have x4:w11.cell? ⟨rb10,4,none⟩=some (.int .i64 0):=zc ka rfl
      have x0:w11.cell? ⟨rb10,0,none⟩=some (.slice A10 S0.cells.length c10):=zc ka rfl
      have x1:w11.cell? ⟨rb10,1,none⟩=some (.slice B10 S0.tin.length d10):=zc ka rfl
      have x2:w11.cell? ⟨rb10,2,none⟩=some (.slice D10 S0.tout.length g10):=zc ka rfl
      have x3:w11.cell? ⟨rb10,3,none⟩=some (.int .i64 (n2:Int)):=zc ka rfl
      have y0:w11.cell? ⟨rb6,0,none⟩=some (.slice A6 S0.cells.length c6):=zc k6 rfl
      have y1:w11.cell? ⟨rb6,1,none⟩=some (.slice B6 S0.tin.length d6):=zc k6 rfl
      have y2:w11.cell? ⟨rb6,2,none⟩=some (.slice D6 S0.tout.length g6):=zc k6 rfl
      have y3:w11.cell? ⟨rb6,3,none⟩=some (.int .i64 ((n1+n2:Nat):Int)):=zc k6 rfl
      have z3:w11.cell? ⟨rb8,3,none⟩=some (.int .i64 (n1:Int)):=zc k8 rfl
      have hn12:((n1+n2:Nat):Int)=(n1:Int)+(n2:Int):=by omega
      have h0n:=(fuel_law (p:=p) (s:=s) (F:=2000) (g:=5000000) (back:=false) hFG (by rw [HR0.out])).1
      rw [HR0.out] at h0n
      simp only at h0n
      have hnn:(n1:Int)+(n2:Int)<=9223372036854775807:=by omega
      rw [hn12] at y3
      have hsx:S0.Sm:=⟨by have:=(HL6.out.2 rfl).1; simp only at this; omega,fun l hl=>by have:=(HL6.out.2 rfl).2.1 l hl; omega,by have:=(HL6.out.2 rfl).2.2.1; simp only at this; omega,by have:=(HL6.out.2 rfl).2.2.2; simp only at this; omega⟩
      have HQE:=zh (StEqual_any S0 S0 _ _ w11 ((HO6'.out.later h9b).sv hsx.lim) ((HO10.out.later hba).sv hsx.lim) hsx hsx)
      rw [show eqS S0 S0=true by simp [eqS]] at HQE
      have HB11:=zh hq11
      clear ka hba k6 k8 hsx hq11 h9b h0n hn12
      go_wp2_with fail
      refine HQE.out.mono ?_
      rintro e12 w12 ⟨rfl,b12⟩
      clear x0 x1 x2 x3 x4 y0 y1 y2 y3 y4 z3
      go_wp2_with fail
      go_ret
      exact ⟨rfl,bl_tt HB2.out (bl_tt HB11.out b12)⟩
     ·have hee:=HPL2.out.1 he2
      subst hee
      have x4:w11.cell? ⟨rb10,4,none⟩=some (.int .i64 e2):=zc ka rfl
      have hqz:=bl_tt HB2.out hq11
      clear ka hba k6 k8
      go_wp2_with fail
      go_ret
      exact ⟨rfl,hqz⟩
    ·have hee:=HPL.out.1 he1
     subst hee
     have x4:w9.cell? ⟨rb8,4,none⟩=some (.int .i64 e1):=zc HK8.out rfl
     have y4:w9.cell? ⟨rb6,4,none⟩=some (.int .i64 e1):=zc HK6'.out rfl
     have hqz:=bl_tt HB2.out hq9
     go_wp2_with fail
     go_ret
     exact ⟨rfl,hqz⟩
  ·go_wp2_with fail
   refine (awake_any w4).mono ?_
   rintro e5 w5 ⟨rfl,b5⟩
   go_wp2_with fail
   go_ret
   exact ⟨rfl,bl_tt HB2.out (bl_tt b24 b5)⟩
 ·go_wp2_with fail
  refine (awake_any w4).mono ?_
  rintro e5 w5 ⟨rfl,b5⟩
  clear hgb
  go_wp2_with fail
  go_ret
  exact ⟨rfl,bl_tt HB2.out (bl_tt b24 b5)⟩
end Go.Proofs.YtgnfpcebmefhoaaGreat
