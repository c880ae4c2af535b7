/-
  Texts of the proof, put together without their remarks: ScK, Gf, Rcp, Scl, Nz.
-/
import Derived.Test.YtgnfpcebmefhoaaGreatA8
set_option linter.unusedSimpArgs false
set_option linter.unusedVariables false
set_option maxHeartbeats 8000000
set_option maxRecDepth 100000
namespace Go.Proofs.YtgnfpcebmefhoaaGreat
open Go Go.RowKit
section
variable {P:Program} {ops:Array Oper} {Q:Exit->Act->World->Prop} {md:Region.Mode} {S1 S2:World->Prop} {k:Nat}
theorem wpG_two {i j:Nat} {o o':Oper} {fuel:Nat} {listed:Array Bool} {a:Act} {w:World} (hr:Region.ready md ops listed=[i,j]) (ho:ops[i]?=some o) (ho':ops[j]?=some o')
  (h:∀ K':Act->World->Prop,Shut (∀ a w,S1 w/\S2 w->wpG P md ops Q S1 S2 k fuel (listed.setIfInBounds i true) a w->K' a w)->if Region.wanted o (yielded ops a.tmps)=true then Oper.wp P o a w K' Q else K' (a.put o.dst undef) w)
  (h':∀ K':Act->World->Prop,Shut (∀ a w,S1 w/\S2 w->wpG P md ops Q S1 S2 k fuel (listed.setIfInBounds j true) a w->K' a w)->if Region.wanted o' (yielded ops a.tmps)=true then Oper.wp P o' a w K' Q else K' (a.put o'.dst undef) w) :
  wpG P md ops Q S1 S2 k (fuel+1) listed a w:=by
 refine ⟨(fun h0=>by rw [hr] at h0; cases h0),fun x hx=>?_⟩
 rw [hr] at hx
 simp only [List.mem_cons,List.not_mem_nil,or_false] at hx
 rcases hx with rfl|rfl
 ·exact wpOp_step ho fun K' hK=>h K' fun a w hS hW=>hK a w ⟨⟨hS.1,fun _=>hS.2⟩,hW⟩
 ·exact wpOp_step ho' fun K' hK=>h' K' fun a w hS hW=>hK a w ⟨⟨hS.1,fun _=>hS.2⟩,hW⟩
end
def frsN (vs:List VD):Nat->Nat
 | 0=>0
 | j+1=>frsN vs j+(if h:j<vs.length then one1 (freshE (vs.take j) vs[j].s) else 0)
theorem frsN_succ {vs:List VD} {j:Nat} (h:j<vs.length):frsN vs (j+1)=frsN vs j+one1 (freshE (vs.take j) vs[j].s):=by simp [frsN,h]
theorem frsN_le (vs:List VD):∀ j,frsN vs j<=j
 | 0=>by simp [frsN]
 | j+1=>by
  have h:=frsN_le vs j
  rw [frsN]
  split
  ·have:=one1_le (freshE (vs.take j) vs[j].s); omega
  ·omega
def prcE (ps:List PR) (j:Nat) (r:PR):Nat:=one1 (if procE ps r.s<(j:Int) then 22 else 0)+frsN r.ps r.ps.length+cntV ps r.b r.ps
def prcN (ps:List PR):Nat->Nat
 | 0=>0
 | j+1=>prcN ps j+(if h:j<ps.length then prcE ps j ps[j] else 0)
theorem prcN_succ {ps:List PR} {j:Nat} (h:j<ps.length):prcN ps (j+1)=prcN ps j+prcE ps j ps[j]:=by simp [prcN,h]
def chkN (p:PG):Nat:=frsN p.vs p.vs.length+prcN p.prs p.prs.length+cntV p.prs p.m p.vs
theorem valid_body {t:T} (h:isBodyB t=true):dep t<=80/\size t<=2000:=by
 simp only [isBodyB,Bool.and_eq_true] at h
 have h1:=h.1
 rw [lim_eq] at h1
 split at h1
 ·assumption
 ·simp at h1
theorem valid_bounds {p:PG} (h:validB p=true):p.vs.length<=32/\p.prs.length<=64/\(∀ r∈p.prs,r.ps.length<=8/\dep r.b<=80/\size r.b<=2000)/\dep p.m<=80/\size p.m<=2000:=by
 simp only [validB,Bool.and_eq_true,decide_eq_true_eq,List.all_eq_true] at h
 refine ⟨h.1.1.1.1,h.1.1.1.2,fun r hr=>?_,valid_body h.2⟩
 have:=h.1.2 r hr
 simp only [procB,Bool.and_eq_true,decide_eq_true_eq] at this
 exact ⟨this.1.1.2,valid_body this.2⟩
theorem prcN_le (ps:List PR) (h:∀ r∈ps,r.ps.length<=8/\dep r.b<=80/\size r.b<=2000):∀ j,prcN ps j<=j*2009
 | 0=>by simp [prcN]
 | j+1=>by
  have h1:=prcN_le ps h j
  rw [prcN]
  split
  ·rename_i hj
   have h2:=h _ (List.getElem_mem hj)
   have h3:=one1_le (if procE ps ps[j].s<(j:Int) then 22 else 0)
   have h4:=frsN_le ps[j].ps ps[j].ps.length
   have h5:=cntV_le ps ps[j].b ps[j].ps
   unfold prcE
   omega
  ·omega
theorem RowV.take {w:World} {S:Nat->Prop} {A:Option Addr} {vs:List VD} (h:RowV w S A vs) (j:Nat):RowV w S A (vs.take j):=fun i hi=>by
 have h1:i<vs.length:=by simp at hi; omega
 obtain ⟨a,h2,h3,h4,h5⟩:=h i h1
 exact ⟨a,h2,h3,by simpa using h4,by simpa using h5⟩
theorem RowI.nil {w:World} {S:Nat->Prop} {A:Option Addr}:RowI w S A []:=fun i hi=>by simp at hi
theorem rowI_new1 (w:World) (j:Int) (hj:I64 j):RowI (w.alloc (.cells #[.int .i64 j] 3)) Any (some ⟨w.heap.size,0,none⟩) [j]:=fun i hi=>by
 simp only [List.length_singleton,Nat.lt_one_iff] at hi
 subst hi
 exact ⟨_,rfl,trivial,news_newN w 3 [.int .i64 j] 0 _ rfl,hj⟩
theorem report_cat (n0 fb N:Nat) (pv:Value) (pr er:Int) (q:List Int) (A:Option Addr) (c:Nat) (s:ByteArray) (S:Nat->Prop) (W:World) (hfs:FS W n0 fb N pv) (hq:RowI W S A q) (hql:q.length<=100000) (hN:N<=1000000) :
  Calls Tryz.prog 38 ([.int .i64 pr,.slice A q.length c,.string s,.int .i64 er].toArray ++ #[.pointer (some ⟨fb,0,none⟩)]) W (RepP W n0 fb pv (N+one1 er)):=by
 simpa using report_any n0 fb N pv pr er q A c s S W hfs hq hql hN
theorem VsI.chg2 {Rd:World->Prop} {n0 fb:Nat} {Wb wr wk w':World} {pv pv':Value} {N:Nat} (h:VsI Rd n0 fb Wb pv N wr pv') (hb:Below wr.heap.size wr wk) (hc:Chg (fun b=>b=fb\/pv'.ownBlock=some b) wk w'):Chg (fun b=>b=fb\/pv.ownBlock=some b) Wb w' :=
 (h.chg.trans (Chg.of_below hb)).trans2 hc fun b hlt hh=>by
  rcases hh with hh|hh
  ·exact .inl hh
  ·rcases h.own b hh with h1|h1
   ·exact .inr h1
   ·omega
theorem VsI.stepK {Rd:World->Prop} {n0 fb:Nat} {Wb wr w5 W6:World} {pv pv':Value} {N N':Nat} {e:Ending} (hk:∀ W W' pv N,Rd W->FS W n0 fb N pv->Chg (fun b=>b=fb\/pv.ownBlock=some b) W W'->Rd W') (h:VsI Rd n0 fb Wb pv N wr pv') (hb:Below wr.heap.size wr w5) (hp:RepP w5 n0 fb pv' N' e W6) :
  ∃ pv'',VsI Rd n0 fb Wb pv N' W6 pv'':=by
 obtain ⟨_,pv'',hfs,hob,hc⟩:=hp
 have hfs5:=h.fs.later hb
 have hz:=h.chg.size
 have hz5:=hb.size
 refine ⟨pv'',hk w5 W6 pv' N (hk wr w5 pv' N h.rd h.fs (Chg.of_below hb)) hfs5 hc,hfs,fun b hb'=>?_,h.chg2 hb hc⟩
 rcases hob b hb' with h1|h1
 ·exact h.own b h1
 ·exact .inr (by omega)
theorem fresh_take (vs:List VD) (j:Nat) (hj:j<=vs.length) (A:Option Addr) (c:Nat) (s:ByteArray) (S:Nat->Prop) (w:World) (hrow:RowV w S A vs) (hl:vs.length<=LV) :
  Calls Tryz.prog 39 #[.slice A j c,.string s] w fun e w'=>e=.returned (.int .i64 (freshE (vs.take j) s))/\Below w.heap.size w w':=by
 have h:=fresh_any (vs.take j) A c s S w (hrow.take j) (by simp; omega)
 rwa [show (vs.take j).length=j by simp; omega] at h
theorem fnFresh:IsFn Tryz.prog 39 Tryz.f39:=⟨Tryz.func39,by kernel_rfl,by kernel_rfl⟩
theorem fnSProc:IsFn Tryz.prog 40 Tryz.f40:=⟨Tryz.func40,by kernel_rfl,by kernel_rfl⟩
theorem fnChk1:IsFn Tryz.prog 38 Tryz.f38:=⟨Tryz.func38,by kernel_rfl,by kernel_rfl⟩
theorem SCheck_any (p:PG) (S:Nat->Prop) (v:Value) (W:World) (hv:PV W S p v):Calls Tryz.prog 21 #[v] W fun e w'=>∃ A c,e=.returned (.slice A (if validB p=true then chkN p else 0) c)/\Below W.heap.size W w':=by
 obtain ⟨NN,hNN⟩:∃ NN,(if validB p=true then chkN p else 0)=NN:=⟨_,rfl⟩
 rw [hNN]
 have HNN:=zh hNN
 clear hNN
 have hvv:=hv
 obtain ⟨A1,c1,A2,c2,A3,c3,rfl,hr⟩:=hv
 have hlv:=LV_int hr.lv
 have hlp:=LV_int hr.lp
 obtain ⟨L1,hL1⟩:∃ L,p.vs.length=L:=⟨_,rfl⟩
 obtain ⟨L2,hL2⟩:∃ L,p.prs.length=L:=⟨_,rfl⟩
 obtain ⟨k,hk⟩:∃ k,p.m.k=k:=⟨_,rfl⟩
 obtain ⟨n,hn⟩:∃ n,p.m.n=n:=⟨_,rfl⟩
 obtain ⟨s,hs⟩:∃ s,p.m.s=s:=⟨_,rfl⟩
 obtain ⟨l3,hl3⟩:∃ l,p.m.ks.length=l:=⟨_,rfl⟩
 rw [hL1,hL2,hk,hn,hs,hl3]
 rw [hL1,hL2,hk,hn,hs,hl3] at hvv
 rw [hL1] at hlv
 rw [hL2] at hlp
 have HV0:=zh hvv
 have HR:=zh hr
 have HL1:=zh hL1
 have HL2:=zh hL2
 have HMM:=zh (show p.m.k=k/\p.m.n=n/\p.m.s=s/\p.m.ks.length=l3 from ⟨hk,hn,hs,hl3⟩)
 clear hvv hr hL1 hL2 hk hn hs hl3
 go_enter Tryz.func21,Tryz.ntmps21
 go_wp2_with fail
 refine (Valid_any p S _ _ (HV0.out.later (bl_al (Below.refl _ _) _))).mono ?_
 rintro e w1 ⟨rfl,bw1⟩
 have b1:Below W.heap.size W w1:=bl_tt (bl_al (Below.refl _ _) _) bw1
 have hp1:=(bw1.block W.heap.size (by simp)).trans (heap_alloc_new W (.cells #[.slice A1 L1 c1,.slice A2 L2 c2,.int .u8 k,.int .i64 n,.string s,.slice A3 l3 c3] 28))
 have hz1:=bw1.size
 simp only [World.size_alloc] at hz1
 have HB1:=zh b1
 have HP1:=zh hp1
 have HZ1:=zh hz1
 obtain ⟨a0,a1,a2,a3,a4,a5⟩:=box6 hp1
 clear bw1 b1 hp1
 cases hvb:validB p
 ·have hN0:NN=0:=by rw [<-HNN.out,hvb]; rfl
  subst hN0
  go_wp2_with fail
  go_ret
  exact ⟨none,0,rfl,HB1.out⟩
 ·have HVB:=zh (valid_bounds hvb)
  have HNN2:=zh (show chkN p=NN by rw [<-HNN.out,hvb]; rfl)
  clear hvb HNN
  go_upto_region 5 with fail
  obtain ⟨fb,hfb⟩:∃ fb,w1.heap.size=fb:=⟨_,rfl⟩
  rw [hfb]
  have hzf:W.heap.size+1<=fb:=by omega
  have hbw:Below W.heap.size W ((w1.alloc (.cells #[.slice none 0 0] 48)).alloc (.cells #[.func (.func 38) #[] #[.pointer (some ⟨fb,0,none⟩)]] 73)):=bl_al (bl_al HB1.out _) _
  have hbF:=blk_al (heap_alloc_new w1 (.cells #[.slice none 0 0] 48)) (.cells #[.func (.func 38) #[] #[.pointer (some ⟨fb,0,none⟩)]] 73)
  have hbR:=heap_alloc_new (w1.alloc (.cells #[.slice none 0 0] 48)) (.cells #[.func (.func 38) #[] #[.pointer (some ⟨fb,0,none⟩)]] 73)
  simp only [World.size_alloc] at hbR
  rw [hfb] at hbF hbR
  have hbP:=blk_al (blk_al HP1.out (.cells #[.slice none 0 0] 48)) (.cells #[.func (.func 38) #[] #[.pointer (some ⟨fb,0,none⟩)]] 73)
  obtain ⟨Wb,hWb⟩:∃ Wb,(w1.alloc (.cells #[.slice none 0 0] 48)).alloc (.cells #[.func (.func 38) #[] #[.pointer (some ⟨fb,0,none⟩)]] 73)=Wb:=⟨_,rfl⟩
  rw [hWb] at hbw hbF hbR hbP ⊢
  have HZB:=zh (show Wb.heap.size=fb+2 by rw [<-hWb,<-hfb]; simp)
  have HBW:=zh hbw
  have HZF:=zh hzf
  clear hWb hfb a0 a1 a2 a3 a4 a5 HP1 HZ1 HB1 hz1
  have hrep:=Chk3_rep fb fb (fb+1) W.heap.size A1 L1 c1 A2 L2 c2 k n s A3 l3 c3
  obtain ⟨Rd,hRd⟩:∃ Rd:World->Prop,(fun W':World=>W'.heap[fb+1]?=some (.cells #[.func (.func 38) #[] #[.pointer (some ⟨fb,0,none⟩)]] 73 (0,0))/\W'.heap[W.heap.size]?=some (.cells #[.slice A1 L1 c1,.slice A2 L2 c2,.int .u8 k,.int .i64 n,.string s,.slice A3 l3 c3] 28 (0,0)))=Rd:=⟨_,rfl⟩
  rw [hRd] at hrep
  have HREP:=zh hrep
  have HRD:=zh (show ∀ w':World,Rd w'->w'.heap[fb+1]?=some (.cells #[.func (.func 38) #[] #[.pointer (some ⟨fb,0,none⟩)]] 73 (0,0))/\w'.heap[W.heap.size]?=some (.cells #[.slice A1 L1 c1,.slice A2 L2 c2,.int .u8 k,.int .i64 n,.string s,.slice A3 l3 c3] 28 (0,0)) from fun w' h=>by rw [<-hRd] at h; exact h)
  have HCC:=zh (show ∀ w':World,Rd w'->(fun w':World=>(w'.cell? ⟨W.heap.size,0,none⟩=some (.slice A1 L1 c1)/\w'.cell? ⟨W.heap.size,1,none⟩=some (.slice A2 L2 c2)/\w'.cell? ⟨W.heap.size,2,none⟩=some (.int .u8 k)/\w'.cell? ⟨W.heap.size,3,none⟩=some (.int .i64 n)/\w'.cell? ⟨W.heap.size,4,none⟩=some (.string s)/\w'.cell? ⟨W.heap.size,5,none⟩=some (.slice A3 l3 c3))/\(w'.cell? ⟨fb+1,0,none⟩=some (.func (.func 38) #[] #[.pointer (some ⟨fb,0,none⟩)]))) w' from fun w' h=>⟨box6 (HRD.out w' h).2,zc (HRD.out w' h).1 rfl⟩)
  have HI0:=zh (show VsI Rd fb fb Wb (.slice none 0 0) 0 Wb (.slice none 0 0) from ⟨by rw [<-hRd]; exact ⟨hbR,hbP⟩,⟨hbF,⟨[],World.ownsRow_nil _ _ _ _⟩,Nat.le_refl _,by simp [Value.ownBlock]⟩,fun b hb=>.inl hb,Chg.refl _ _⟩)
  have HKB:=zh (show ∀ w':World,Chg (fun b=>b=fb\/(Value.slice none 0 0).ownBlock=some b) Wb w'->∀ b,S b->b<W.heap.size->w'.heap[b]?=W.heap[b]? from fun w' h b hb hlt=>(h.block b (by have:=HZB.out; omega) (fun hh=>by rcases hh with hh|hh; omega; simp [Value.ownBlock] at hh)).trans (HBW.out.block b hlt))
  have HD:=zh (show ∀ w':World,Chg (fun b=>b=fb\/(Value.slice none 0 0).ownBlock=some b) Wb w'->PV w' (fun b=>S b/\b<W.heap.size) p _/\PgR w' (fun b=>S b/\b<W.heap.size) p A1 c1 A2 c2 A3 c3 from fun w' h=>⟨HV0.out.keep (fun b hb hlt=>⟨hb,hlt⟩) (HKB.out w' h),HR.out.keep (fun b hb hlt=>⟨hb,hlt⟩) (HKB.out w' h)⟩)
  have hl32:L1<=32:=by have:=HVB.out.1; rw [HL1.out] at this; exact this
  have hl64:L2<=64:=by have:=HVB.out.2.1; rw [HL2.out] at this; exact this
  have hlc1:L1<=c1:=by have:=HR.out.lvc; rw [HL1.out] at this; exact this
  have hlc2:L2<=c2:=by have:=HR.out.lpc; rw [HL2.out] at this; exact this
  obtain ⟨⟨a0,a1,a2,a3,a4,a5⟩,ar⟩:=HCC.out _ HI0.out.rd
  clear hrep hRd hbR hbP hbF hbw
  go_wp2_with fail
  go_loopw [18] (fun i wr=>∃ (j:Nat) (pv':Value),j<=L1/\i=.int .i64 j/\VsI Rd fb fb Wb (.slice none 0 0) (frsN p.vs j) wr pv') (fun i _=>L1-(intOf i).toNat)
  case atStart=>exact ⟨0,_,Nat.zero_le _,rfl,HI0.out⟩
  case round =>
   obtain ⟨j,pv',hj,rfl,hinv⟩:=hrel
   have HINV:=zh hinv
   clear HI0 a0 a1 a2 a3 a4 a5 ar
   by_cases hlt:j<L1
   ·have hltp:j<p.vs.length:=by rw [HL1.out]; exact hlt
    obtain ⟨a,u,rfl,hsa,Hu,⟨q0,q1,q2⟩,hfu⟩:=(HD.out wr hinv.chg).2.vars.nd hltp
    have hjc:(j:Int)<=(c1:Int):=by omega
    have hj0:(0:Int)<=(j:Int):=by omega
    obtain ⟨⟨a0,a1,a2,a3,a4,a5⟩,ar⟩:=HCC.out _ hinv.rd
    clear hinv hsa hfu
    go_upto_region 8 with fail
    have hbk:Below wr.heap.size wr (wr.alloc (.cells #[.string u.s,.int .u8 u.k,.int .i64 u.n] 58)):=bl_al (Below.refl _ _) _
    have hbU:=heap_alloc_new wr (.cells #[.string u.s,.int .u8 u.k,.int .i64 u.n] 58)
    obtain ⟨wk,hwk⟩:∃ wk,wr.alloc (.cells #[.string u.s,.int .u8 u.k,.int .i64 u.n] 58)=wk:=⟨_,rfl⟩
    rw [hwk] at hbk hbU ⊢
    have HZK:=zh (show wk.heap.size=wr.heap.size+1 by rw [<-hwk]; simp)
    have HBK:=zh hbk
    have HBU:=zh hbU
    clear hwk hbk hbU a0 a1 a2 a3 a4 a5 ar q0 q1 q2
    have HRW:=zh (show ∀ w':World,Below wk.heap.size wk w'->Rd w' from fun w' h=>HREP.out.keep _ _ _ _ HINV.out.rd HINV.out.fs (Chg.of_below (bl_tt HBK.out h)))
    have HCK:=zh (show ∀ w':World,Below wk.heap.size wk w'->(fun w':World=>((w'.cell? ⟨W.heap.size,0,none⟩=some (.slice (some a) L1 c1)/\w'.cell? ⟨W.heap.size,1,none⟩=some (.slice A2 L2 c2)/\w'.cell? ⟨W.heap.size,2,none⟩=some (.int .u8 k)/\w'.cell? ⟨W.heap.size,3,none⟩=some (.int .i64 n)/\w'.cell? ⟨W.heap.size,4,none⟩=some (.string s)/\w'.cell? ⟨W.heap.size,5,none⟩=some (.slice A3 l3 c3))/\(w'.cell? ⟨fb+1,0,none⟩=some (.func (.func 38) #[] #[.pointer (some ⟨fb,0,none⟩)])))/\(w'.cell? ⟨wr.heap.size,0,none⟩=some (.string u.s)/\w'.cell? ⟨wr.heap.size,1,none⟩=some (.int .u8 u.k)/\w'.cell? ⟨wr.heap.size,2,none⟩=some (.int .i64 u.n))) w'/\(fun _:World=>True) w' from fun w' h=>⟨⟨HCC.out _ (HRW.out w' h),box3 ((h.block _ (by have:=HZK.out; omega)).trans HBU.out)⟩,trivial⟩)
    have hdr:=(Below.refl wk.heap.size wk).drew
    have hSS:=HCK.out _ hdr
    have hbI:=buildI1
    have hN:=frsN_le p.vs j
    refine wp_region_noPanic ?_
    refine wp_region_G (fun w':World=>((w'.cell? ⟨W.heap.size,0,none⟩=some (.slice (some a) L1 c1)/\w'.cell? ⟨W.heap.size,1,none⟩=some (.slice A2 L2 c2)/\w'.cell? ⟨W.heap.size,2,none⟩=some (.int .u8 k)/\w'.cell? ⟨W.heap.size,3,none⟩=some (.int .i64 n)/\w'.cell? ⟨W.heap.size,4,none⟩=some (.string s)/\w'.cell? ⟨W.heap.size,5,none⟩=some (.slice A3 l3 c3))/\(w'.cell? ⟨fb+1,0,none⟩=some (.func (.func 38) #[] #[.pointer (some ⟨fb,0,none⟩)])))/\(w'.cell? ⟨wr.heap.size,0,none⟩=some (.string u.s)/\w'.cell? ⟨wr.heap.size,1,none⟩=some (.int .u8 u.k)/\w'.cell? ⟨wr.heap.size,2,none⟩=some (.int .i64 u.n))) (fun _:World=>True) 40 (by kernel_rfl) ?_
    refine zT 0 hSS ?_
    (try simp only [Act.put,zP])
    refine zT 1 hSS ?_
    (try simp only [Act.put,zP])
    refine zT 3 hSS ?_
    (try simp only [Act.put,zP])
    refine zT 4 hSS ?_
    (try simp only [Act.put,zP])
    refine zT 5 hSS ?_
    (try simp only [Act.put,zP])
    refine zT 6 hSS ?_
    (try simp only [Act.put,zP])
    refine zT 7 hSS ?_
    (try simp only [Act.put,zP])
    refine zT 8 hSS ?_
    (try simp only [Act.put,zP])
    refine zT 9 hSS ?_
    (try simp only [Act.put,zP])
    refine zT 10 hSS ?_
    (try simp only [Act.put,zP])
    refine wpG_two (i:=2) (j:=11) (by kernel_rfl) rfl rfl (fun K hK=>?_) (fun K hK=>?_)
    ·(try simp only [zA,zB,zC])
     go_simp
     have b2:=bl_al hdr (.cells #[.int .i64 (j:Int)] 3)
     refine hK.out _ _ (HCK.out _ b2) ?_
     clear hK K
     (try simp only [Act.put,zP])
     refine wpG_one (i:=11) (by kernel_rfl) rfl (fun K hK=>?_)
     refine step_callL (by rfl) (.func 39) [.tmp 31,.tmp 33] _ (by rfl) 39 _ fnFresh (by rfl) _ (by rfl) _ (isW_of (fresh_take p.vs j (by omega) (some a) c1 u.s _ _ (HD.out _ (HINV.out.chg.trans (Chg.of_below (bl_tt HBK.out b2)))).2.vars HR.out.lv)) ?_
     rintro vq w3 ⟨rfl,bw3⟩
     have b3:=bl_tt b2 bw3
     refine hK.out _ _ (HCK.out _ b3) ?_
     clear hK K
     (try simp only [Act.put,zP])
     refine wpG_one (i:=12) (by kernel_rfl) rfl (fun K hK=>?_)
     refine step_callC (by rfl) (.tmp 23) [.const (.int .i64 (-1)),.tmp 25,.tmp 27,.tmp 34] _ (by rfl) 38 _ fnChk1 #[.pointer (some ⟨fb,0,none⟩)] (by rfl) _ (by rfl) _ (repV_of (report_cat fb fb _ pv' (-1) _ [(j:Int)] (some ⟨wk.heap.size,0,none⟩) 1 u.s _ _ (HINV.out.fs.later (bl_tt HBK.out b3)) (((rowI_new1 _ (j:Int) ⟨by omega,by omega⟩).later (Below.refl _ _).drew).later bw3) (by simp) (by omega))) ?_
     rintro vq W6 hp
     obtain ⟨pv6,hi6⟩:=HINV.out.step HREP.out (bl_tt HBK.out b3) hp
     have hi7:VsI Rd fb fb Wb (.slice none 0 0) (frsN p.vs (j+1)) W6 pv6:=by rw [frsN_succ hltp,Hu.out]; exact hi6
     have hSS6:(fun w':World=>((w'.cell? ⟨W.heap.size,0,none⟩=some (.slice (some a) L1 c1)/\w'.cell? ⟨W.heap.size,1,none⟩=some (.slice A2 L2 c2)/\w'.cell? ⟨W.heap.size,2,none⟩=some (.int .u8 k)/\w'.cell? ⟨W.heap.size,3,none⟩=some (.int .i64 n)/\w'.cell? ⟨W.heap.size,4,none⟩=some (.string s)/\w'.cell? ⟨W.heap.size,5,none⟩=some (.slice A3 l3 c3))/\(w'.cell? ⟨fb+1,0,none⟩=some (.func (.func 38) #[] #[.pointer (some ⟨fb,0,none⟩)])))/\(w'.cell? ⟨wr.heap.size,0,none⟩=some (.string u.s)/\w'.cell? ⟨wr.heap.size,1,none⟩=some (.int .u8 u.k)/\w'.cell? ⟨wr.heap.size,2,none⟩=some (.int .i64 u.n))) W6/\(fun _:World=>True) W6:=⟨⟨HCC.out _ hi7.rd,box3 ((hp.2.elim fun _ h=>h.2.2.block _ (by have:=(bl_tt HBK.out b3).size; have:=(b3).size; have:=HZK.out; omega) (fun hh=>by have hl:=HINV.out.fs.lt; rcases hh with hh|hh; (have:=hl.1; omega); (have:=(hl.2 _ hh).2; omega))).trans (((b3).block _ (by have:=HZK.out; omega)).trans HBU.out))⟩,trivial⟩
     refine hK.out _ _ hSS6 ?_
     clear hK K
     (try simp only [Act.put,zP])
     refine wpG_done (by kernel_rfl) ?_
     refine NoPanic.normal ?_
     have HI7:=zh hi7
     clear hi7 hi6 hp hSS6
     go_wp2_with fail
     go_roundw
     case rel=>exact ⟨j+1,_,by omega,by go_num,HI7.out⟩
     case measure=>simp [intOf]; omega
    ·skip
     refine step_callL (by rfl) (.func 39) [.tmp 31,.tmp 33] _ (by rfl) 39 _ fnFresh (by rfl) _ (by rfl) _ (isW_of (fresh_take p.vs j (by omega) (some a) c1 u.s _ _ (HD.out _ (HINV.out.chg.trans (Chg.of_below (bl_tt HBK.out hdr)))).2.vars HR.out.lv)) ?_
     rintro vq w2 ⟨rfl,bw2⟩
     have b2:=bl_tt hdr bw2
     refine hK.out _ _ (HCK.out _ b2) ?_
     clear hK K
     (try simp only [Act.put,zP])
     refine wpG_one (i:=2) (by kernel_rfl) rfl (fun K hK=>?_)
     (try simp only [zA,zB,zC])
     go_simp
     have b3:=bl_al b2 (.cells #[.int .i64 (j:Int)] 3)
     refine hK.out _ _ (HCK.out _ b3) ?_
     clear hK K
     (try simp only [Act.put,zP])
     refine wpG_one (i:=12) (by kernel_rfl) rfl (fun K hK=>?_)
     refine step_callC (by rfl) (.tmp 23) [.const (.int .i64 (-1)),.tmp 25,.tmp 27,.tmp 34] _ (by rfl) 38 _ fnChk1 #[.pointer (some ⟨fb,0,none⟩)] (by rfl) _ (by rfl) _ (repV_of (report_cat fb fb _ pv' (-1) _ [(j:Int)] (some ⟨w2.heap.size,0,none⟩) 1 u.s _ _ (HINV.out.fs.later (bl_tt HBK.out b3)) (rowI_new1 _ (j:Int) ⟨by omega,by omega⟩) (by simp) (by omega))) ?_
     rintro vq W6 hp
     obtain ⟨pv6,hi6⟩:=HINV.out.step HREP.out (bl_tt HBK.out b3) hp
     have hi7:VsI Rd fb fb Wb (.slice none 0 0) (frsN p.vs (j+1)) W6 pv6:=by rw [frsN_succ hltp,Hu.out]; exact hi6
     have hSS6:(fun w':World=>((w'.cell? ⟨W.heap.size,0,none⟩=some (.slice (some a) L1 c1)/\w'.cell? ⟨W.heap.size,1,none⟩=some (.slice A2 L2 c2)/\w'.cell? ⟨W.heap.size,2,none⟩=some (.int .u8 k)/\w'.cell? ⟨W.heap.size,3,none⟩=some (.int .i64 n)/\w'.cell? ⟨W.heap.size,4,none⟩=some (.string s)/\w'.cell? ⟨W.heap.size,5,none⟩=some (.slice A3 l3 c3))/\(w'.cell? ⟨fb+1,0,none⟩=some (.func (.func 38) #[] #[.pointer (some ⟨fb,0,none⟩)])))/\(w'.cell? ⟨wr.heap.size,0,none⟩=some (.string u.s)/\w'.cell? ⟨wr.heap.size,1,none⟩=some (.int .u8 u.k)/\w'.cell? ⟨wr.heap.size,2,none⟩=some (.int .i64 u.n))) W6/\(fun _:World=>True) W6:=⟨⟨HCC.out _ hi7.rd,box3 ((hp.2.elim fun _ h=>h.2.2.block _ (by have:=(bl_tt HBK.out b3).size; have:=(b3).size; have:=HZK.out; omega) (fun hh=>by have hl:=HINV.out.fs.lt; rcases hh with hh|hh; (have:=hl.1; omega); (have:=(hl.2 _ hh).2; omega))).trans (((b3).block _ (by have:=HZK.out; omega)).trans HBU.out))⟩,trivial⟩
     refine hK.out _ _ hSS6 ?_
     clear hK K
     (try simp only [Act.put,zP])
     refine wpG_done (by kernel_rfl) ?_
     refine NoPanic.normal ?_
     have HI7:=zh hi7
     clear hi7 hi6 hp hSS6
     go_wp2_with fail
     go_roundw
     case rel=>exact ⟨j+1,_,by omega,by go_num,HI7.out⟩
     case measure=>simp [intOf]; omega
   ·obtain rfl:L1=j:=by omega
    have HF1:=zh (show VsI Rd fb fb Wb (.slice none 0 0) (frsN p.vs p.vs.length) wr pv' by rw [HL1.out]; exact HINV.out)
    obtain ⟨⟨a0,a1,a2,a3,a4,a5⟩,ar⟩:=HCC.out _ hinv.rd
    obtain ⟨F1,hF1⟩:∃ F,frsN p.vs p.vs.length=F:=⟨_,rfl⟩
    have hF32:F1<=32:=by have:=frsN_le p.vs p.vs.length; have:=HVB.out.1; omega
    have HFE:=zh hF1
    rw [hF1] at HF1
    clear hinv HINV hF1 hj hlt
    go_wp2_with fail
    go_loopw [40] (fun i wr=>∃ (j:Nat) (pv':Value),j<=L2/\i=.int .i64 j/\VsI Rd fb fb Wb (.slice none 0 0) (F1+prcN p.prs j) wr pv') (fun i _=>L2-(intOf i).toNat)
    case atStart=>exact ⟨0,_,Nat.zero_le _,rfl,HF1.out⟩
    case round =>
     clear HF1 a0 a1 a2 a3 a4 a5 ar
     obtain ⟨j,pv',hj,rfl,hinv⟩:=hrel
     obtain ⟨w0,rfl⟩:∃ w0,w0=wr:=⟨_,rfl⟩
     have HINV:=zh hinv
     by_cases hlt:j<L2
     ·have hltp:j<p.prs.length:=by rw [HL2.out]; exact hlt
      obtain ⟨a,r,P1,d1,P2,d2,rfl,hsa,Hr,⟨q0,q1,q2,q3,q4,q5⟩,hpr⟩:=(HD.out w0 hinv.chg).2.procs.nd hltp
      obtain ⟨⟨a0,a1,a2,a3,a4,a5⟩,ar⟩:=HCC.out _ hinv.rd
      have HPR:=zh hpr
      clear hinv hsa hpr
      go_upto_region 13 with fail
      have hbk:Below w0.heap.size w0 ((w0.alloc (.cells #[.int .i64 (j:Int)] 3)).alloc (.cells #[.string r.s,.slice P1 r.ps.length d1,.int .u8 r.b.k,.int .i64 r.b.n,.string r.b.s,.slice P2 r.b.ks.length d2] 61)):=bl_al (bl_al (Below.refl _ _) _) _
      have hbI1:=blk_al (heap_alloc_new w0 (.cells #[.int .i64 (j:Int)] 3)) (.cells #[.string r.s,.slice P1 r.ps.length d1,.int .u8 r.b.k,.int .i64 r.b.n,.string r.b.s,.slice P2 r.b.ks.length d2] 61)
      have hbR1:=heap_alloc_new (w0.alloc (.cells #[.int .i64 (j:Int)] 3)) (.cells #[.string r.s,.slice P1 r.ps.length d1,.int .u8 r.b.k,.int .i64 r.b.n,.string r.b.s,.slice P2 r.b.ks.length d2] 61)
      simp only [World.size_alloc] at hbR1
      obtain ⟨wk,hwk⟩:∃ wk,(w0.alloc (.cells #[.int .i64 (j:Int)] 3)).alloc (.cells #[.string r.s,.slice P1 r.ps.length d1,.int .u8 r.b.k,.int .i64 r.b.n,.string r.b.s,.slice P2 r.b.ks.length d2] 61)=wk:=⟨_,rfl⟩
      rw [hwk] at hbk hbI1 hbR1 ⊢
      have HZK:=zh (show wk.heap.size=w0.heap.size+2 by rw [<-hwk]; simp)
      have HBK:=zh hbk
      obtain ⟨Rd2,hRd2⟩:∃ Rd2:World->Prop,(fun W':World=>(Rd W'/\W'.heap[w0.heap.size]?=some (.cells #[.int .i64 (j:Int)] 3 (0,0)))/\W'.heap[w0.heap.size+1]?=some (.cells #[.string r.s,.slice P1 r.ps.length d1,.int .u8 r.b.k,.int .i64 r.b.n,.string r.b.s,.slice P2 r.b.ks.length d2] 61 (0,0)))=Rd2:=⟨_,rfl⟩
      have HRD2:=zh (show ∀ w':World,Rd2 w'->(fun W':World=>(Rd W'/\W'.heap[w0.heap.size]?=some (.cells #[.int .i64 (j:Int)] 3 (0,0)))/\W'.heap[w0.heap.size+1]?=some (.cells #[.string r.s,.slice P1 r.ps.length d1,.int .u8 r.b.k,.int .i64 r.b.n,.string r.b.s,.slice P2 r.b.ks.length d2] 61 (0,0))) w' from fun w' h=>by rw [<-hRd2] at h; exact h)
      have HK2:=zh (show ∀ (W W':World) (pv:Value) (N:Nat),Rd2 W->FS W fb fb N pv->Chg (fun b=>b=fb\/pv.ownBlock=some b) W W'->Rd2 W' from fun W W' pv N h hfs hc=>by rw [<-hRd2] at h ⊢; exact ⟨⟨HREP.out.keep _ _ _ _ h.1.1 hfs hc,hc.keep h.1.2 (hfs.other h.1.2 (by decide) (by decide))⟩,hc.keep h.2 (hfs.other h.2 (by decide) (by decide))⟩)
      have HI2:=zh (show VsI Rd2 fb fb wk pv' (F1+prcN p.prs j) wk pv' from ⟨by rw [<-hRd2]; exact ⟨⟨HREP.out.keep _ _ _ _ HINV.out.rd HINV.out.fs (Chg.of_below hbk),hbI1⟩,hbR1⟩,HINV.out.fs.later hbk,fun b hb=>.inl hb,Chg.refl _ _⟩)
      have HC2:=zh (show ∀ w':World,Rd2 w'->(fun w':World=>((w'.cell? ⟨W.heap.size,0,none⟩=some (.slice A1 L1 c1)/\w'.cell? ⟨W.heap.size,1,none⟩=some (.slice (some a) L2 c2)/\w'.cell? ⟨W.heap.size,2,none⟩=some (.int .u8 k)/\w'.cell? ⟨W.heap.size,3,none⟩=some (.int .i64 n)/\w'.cell? ⟨W.heap.size,4,none⟩=some (.string s)/\w'.cell? ⟨W.heap.size,5,none⟩=some (.slice A3 l3 c3))/\(w'.cell? ⟨fb+1,0,none⟩=some (.func (.func 38) #[] #[.pointer (some ⟨fb,0,none⟩)])))/\(w'.cell? ⟨w0.heap.size,0,none⟩=some (.int .i64 (j:Int)))/\(w'.cell? ⟨w0.heap.size+1,0,none⟩=some (.string r.s)/\w'.cell? ⟨w0.heap.size+1,1,none⟩=some (.slice P1 r.ps.length d1)/\w'.cell? ⟨w0.heap.size+1,2,none⟩=some (.int .u8 r.b.k)/\w'.cell? ⟨w0.heap.size+1,3,none⟩=some (.int .i64 r.b.n)/\w'.cell? ⟨w0.heap.size+1,4,none⟩=some (.string r.b.s)/\w'.cell? ⟨w0.heap.size+1,5,none⟩=some (.slice P2 r.b.ks.length d2))) w' from fun w' h=>⟨HCC.out w' (HRD2.out w' h).1.1,zc (HRD2.out w' h).1.2 rfl,box6 (HRD2.out w' h).2⟩)
      have HD2:=zh (show ∀ w':World,Chg (fun b=>b=fb\/pv'.ownBlock=some b) wk w'->PV w' (fun b=>S b/\b<W.heap.size) p _/\PrR w' (fun b=>S b/\b<W.heap.size) r P1 d1 P2 d2 from fun w' h=>⟨(HD.out w' (HINV.out.chg2 HBK.out h)).1,HPR.out.keep (fun b hb _=>hb) fun b hb _=>(HKB.out w' (HINV.out.chg2 HBK.out h) b hb.1 hb.2).trans (HKB.out w0 HINV.out.chg b hb.1 hb.2).symm⟩)
      have HCK:=zh (show ∀ w':World,Below wk.heap.size wk w'->(fun w':World=>((w'.cell? ⟨W.heap.size,0,none⟩=some (.slice A1 L1 c1)/\w'.cell? ⟨W.heap.size,1,none⟩=some (.slice (some a) L2 c2)/\w'.cell? ⟨W.heap.size,2,none⟩=some (.int .u8 k)/\w'.cell? ⟨W.heap.size,3,none⟩=some (.int .i64 n)/\w'.cell? ⟨W.heap.size,4,none⟩=some (.string s)/\w'.cell? ⟨W.heap.size,5,none⟩=some (.slice A3 l3 c3))/\(w'.cell? ⟨fb+1,0,none⟩=some (.func (.func 38) #[] #[.pointer (some ⟨fb,0,none⟩)])))/\(w'.cell? ⟨w0.heap.size,0,none⟩=some (.int .i64 (j:Int)))/\(w'.cell? ⟨w0.heap.size+1,0,none⟩=some (.string r.s)/\w'.cell? ⟨w0.heap.size+1,1,none⟩=some (.slice P1 r.ps.length d1)/\w'.cell? ⟨w0.heap.size+1,2,none⟩=some (.int .u8 r.b.k)/\w'.cell? ⟨w0.heap.size+1,3,none⟩=some (.int .i64 r.b.n)/\w'.cell? ⟨w0.heap.size+1,4,none⟩=some (.string r.b.s)/\w'.cell? ⟨w0.heap.size+1,5,none⟩=some (.slice P2 r.b.ks.length d2))) w'/\(fun _:World=>True) w' from fun w' h=>⟨HC2.out w' (HK2.out _ _ _ _ HI2.out.rd HI2.out.fs (Chg.of_below h)),trivial⟩)
      clear hwk hbk hbI1 hbR1 hRd2 a0 a1 a2 a3 a4 a5 ar q0 q1 q2 q3 q4 q5
      have hdr:=(Below.refl wk.heap.size wk).drew
      have hSS:=HCK.out _ hdr
      have hrb:=HVB.out.2.2.1 r (by rw [<-Hr.out]; exact List.getElem_mem hltp)
      have hpN:=prcN_le p.prs HVB.out.2.2.1 j
      obtain ⟨rb1,rb2,rb3⟩:=hrb
      refine wp_region_noPanic ?_
      refine wp_region_G (fun w':World=>((w'.cell? ⟨W.heap.size,0,none⟩=some (.slice A1 L1 c1)/\w'.cell? ⟨W.heap.size,1,none⟩=some (.slice (some a) L2 c2)/\w'.cell? ⟨W.heap.size,2,none⟩=some (.int .u8 k)/\w'.cell? ⟨W.heap.size,3,none⟩=some (.int .i64 n)/\w'.cell? ⟨W.heap.size,4,none⟩=some (.string s)/\w'.cell? ⟨W.heap.size,5,none⟩=some (.slice A3 l3 c3))/\(w'.cell? ⟨fb+1,0,none⟩=some (.func (.func 38) #[] #[.pointer (some ⟨fb,0,none⟩)])))/\(w'.cell? ⟨w0.heap.size,0,none⟩=some (.int .i64 (j:Int)))/\(w'.cell? ⟨w0.heap.size+1,0,none⟩=some (.string r.s)/\w'.cell? ⟨w0.heap.size+1,1,none⟩=some (.slice P1 r.ps.length d1)/\w'.cell? ⟨w0.heap.size+1,2,none⟩=some (.int .u8 r.b.k)/\w'.cell? ⟨w0.heap.size+1,3,none⟩=some (.int .i64 r.b.n)/\w'.cell? ⟨w0.heap.size+1,4,none⟩=some (.string r.b.s)/\w'.cell? ⟨w0.heap.size+1,5,none⟩=some (.slice P2 r.b.ks.length d2))) (fun _:World=>True) 40 (by kernel_rfl) ?_
      refine zT 0 hSS ?_
      (try simp only [Act.put,zP])
      refine zT 1 hSS ?_
      (try simp only [Act.put,zP])
      refine zT 2 hSS ?_
      (try simp only [Act.put,zP])
      refine zT 4 hSS ?_
      (try simp only [Act.put,zP])
      refine wpG_one (i:=3) (by kernel_rfl) rfl (fun K hK=>?_)
      refine step_callL (by rfl) (.func 40) [.tmp 45,.tmp 47] _ (by rfl) 40 _ fnSProc (by rfl) _ (by rfl) _ (isW_of (Proc_any p _ _ r.s _ (HD2.out _ (Chg.of_below hdr)).1)) ?_
      rintro vq w2 ⟨rfl,bw2⟩
      have b2:=bl_tt hdr bw2
      have hSS2:=HCK.out _ b2
      obtain ⟨PE,hPE⟩:∃ PE,procE p.prs r.s=PE:=⟨_,rfl⟩
      rw [hPE]
      have HPE:=zh hPE
      refine hK.out _ _ hSS2 ?_
      clear hK K hSS hPE
      (try simp only [Act.put,zP])
      have HI2b:=zh (show VsI Rd2 fb fb wk pv' (F1+prcN p.prs j) w2 pv' from ⟨HK2.out _ _ _ _ HI2.out.rd HI2.out.fs (Chg.of_below b2),HI2.out.fs.later b2,fun b hb=>.inl hb,Chg.of_below b2⟩)
      by_cases hpe:PE<(j:Int)
      ·have hd:decide (PE<(j:Int))=true:=decide_eq_true hpe
       obtain ⟨E1,hE1⟩:∃ E1,one1 (22)=E1:=⟨_,rfl⟩
       have hE2:E1<=1:=by rw [<-hE1]; exact one1_le _
       have HE1:=zh (show one1 (if procE p.prs r.s<(j:Int) then 22 else 0)=E1 by rw [HPE.out,if_pos hpe]; exact hE1)
       refine zT 5 hSS2 ?_
       (try simp only [Act.put,zP])
       refine wpG_done (by kernel_rfl) ?_
       refine NoPanic.normal ?_
       obtain ⟨⟨⟨a0,a1,a2,a3,a4,a5⟩,ar⟩,ai,r0,r1,r2,r3,r4,r5⟩:=hSS2.1
       clear hSS2
       go_wp2_with fail
       refine (report_any fb fb _ pv' (j:Int) 22 [] none 0 r.s Any w2 HI2b.out.fs RowI.nil (by simp) (by omega)).mono ?_
       rintro e w3 hp
       obtain ⟨v3,rfl⟩:=hp.1
       obtain ⟨pv3,hi3⟩:=HI2b.out.stepK HK2.out (Below.refl _ _) hp
       rw [hE1] at hi3
       have HI3:=zh hi3
       clear hp a0 a1 a2 a3 a4 a5 ar ai r0 r1 r2 r3 r4 r5
       obtain ⟨⟨⟨a0,a1,a2,a3,a4,a5⟩,ar⟩,ai,r0,r1,r2,r3,r4,r5⟩:=HC2.out _ hi3.rd
       clear hi3 hE1
       go_wp2_with fail
       go_loopw [59] (fun x w'=>∃ (i:Nat) (pv2:Value),i<=r.ps.length/\x=.int .i64 i/\VsI Rd2 fb fb wk pv' (F1+prcN p.prs j+E1+frsN r.ps i) w' pv2) (fun x _=>r.ps.length-(intOf x).toNat)
       case atStart=>exact ⟨0,_,Nat.zero_le _,rfl,HI3.out⟩
       case round =>
        clear HI3 a0 a1 a2 a3 a4 a5 ar ai r0 r1 r2 r3 r4 r5
        obtain ⟨i,pv2,hi,rfl,hinv⟩:=hrel
        have HIN2:=zh hinv
        by_cases hli:i<r.ps.length
        ·obtain ⟨a',u,rfl,hsa,Hu,⟨q0,q1,q2⟩,hfu⟩:=(HD2.out wr hinv.chg).2.row.nd hli
         have hic:(i:Int)<=(d1:Int):=by have:=HPR.out.lc; omega
         have hi0:(0:Int)<=(i:Int):=by omega
         obtain ⟨⟨⟨a0,a1,a2,a3,a4,a5⟩,ar⟩,ai,r0,r1,r2,r3,r4,r5⟩:=HC2.out _ hinv.rd
         clear hinv hsa hfu
         go_upto_region 18 with fail
         have hbk:Below wr.heap.size wr (wr.alloc (.cells #[.string u.s,.int .u8 u.k,.int .i64 u.n] 58)):=bl_al (Below.refl _ _) _
         have hbU:=heap_alloc_new wr (.cells #[.string u.s,.int .u8 u.k,.int .i64 u.n] 58)
         obtain ⟨wv,hwv⟩:∃ wv,wr.alloc (.cells #[.string u.s,.int .u8 u.k,.int .i64 u.n] 58)=wv:=⟨_,rfl⟩
         rw [hwv] at hbk hbU ⊢
         have HZV:=zh (show wv.heap.size=wr.heap.size+1 by rw [<-hwv]; simp)
         have HBV:=zh hbk
         have HBU:=zh hbU
         clear hwv hbk hbU a0 a1 a2 a3 a4 a5 ar ai r0 r1 r2 r3 r4 r5 q0 q1 q2
         have HCV:=zh (show ∀ w':World,Below wv.heap.size wv w'->(fun w':World=>(fun w':World=>((w'.cell? ⟨W.heap.size,0,none⟩=some (.slice A1 L1 c1)/\w'.cell? ⟨W.heap.size,1,none⟩=some (.slice (some a) L2 c2)/\w'.cell? ⟨W.heap.size,2,none⟩=some (.int .u8 k)/\w'.cell? ⟨W.heap.size,3,none⟩=some (.int .i64 n)/\w'.cell? ⟨W.heap.size,4,none⟩=some (.string s)/\w'.cell? ⟨W.heap.size,5,none⟩=some (.slice A3 l3 c3))/\(w'.cell? ⟨fb+1,0,none⟩=some (.func (.func 38) #[] #[.pointer (some ⟨fb,0,none⟩)])))/\(w'.cell? ⟨w0.heap.size,0,none⟩=some (.int .i64 (j:Int)))/\(w'.cell? ⟨w0.heap.size+1,0,none⟩=some (.string r.s)/\w'.cell? ⟨w0.heap.size+1,1,none⟩=some (.slice (some a') r.ps.length d1)/\w'.cell? ⟨w0.heap.size+1,2,none⟩=some (.int .u8 r.b.k)/\w'.cell? ⟨w0.heap.size+1,3,none⟩=some (.int .i64 r.b.n)/\w'.cell? ⟨w0.heap.size+1,4,none⟩=some (.string r.b.s)/\w'.cell? ⟨w0.heap.size+1,5,none⟩=some (.slice P2 r.b.ks.length d2))) w'/\(w'.cell? ⟨wr.heap.size,0,none⟩=some (.string u.s)/\w'.cell? ⟨wr.heap.size,1,none⟩=some (.int .u8 u.k)/\w'.cell? ⟨wr.heap.size,2,none⟩=some (.int .i64 u.n))) w'/\(fun _:World=>True) w' from fun w' h=>⟨⟨HC2.out _ (HK2.out _ _ _ _ HIN2.out.rd HIN2.out.fs (Chg.of_below (bl_tt HBV.out h))),box3 ((h.block _ (by have:=HZV.out; omega)).trans HBU.out)⟩,trivial⟩)
         have hdv:=(Below.refl wv.heap.size wv).drew
         have hSS:=HCV.out _ hdv
         have hfN:=frsN_le r.ps i
         refine wp_region_noPanic ?_
         refine wp_region_G (fun w':World=>(fun w':World=>((w'.cell? ⟨W.heap.size,0,none⟩=some (.slice A1 L1 c1)/\w'.cell? ⟨W.heap.size,1,none⟩=some (.slice (some a) L2 c2)/\w'.cell? ⟨W.heap.size,2,none⟩=some (.int .u8 k)/\w'.cell? ⟨W.heap.size,3,none⟩=some (.int .i64 n)/\w'.cell? ⟨W.heap.size,4,none⟩=some (.string s)/\w'.cell? ⟨W.heap.size,5,none⟩=some (.slice A3 l3 c3))/\(w'.cell? ⟨fb+1,0,none⟩=some (.func (.func 38) #[] #[.pointer (some ⟨fb,0,none⟩)])))/\(w'.cell? ⟨w0.heap.size,0,none⟩=some (.int .i64 (j:Int)))/\(w'.cell? ⟨w0.heap.size+1,0,none⟩=some (.string r.s)/\w'.cell? ⟨w0.heap.size+1,1,none⟩=some (.slice (some a') r.ps.length d1)/\w'.cell? ⟨w0.heap.size+1,2,none⟩=some (.int .u8 r.b.k)/\w'.cell? ⟨w0.heap.size+1,3,none⟩=some (.int .i64 r.b.n)/\w'.cell? ⟨w0.heap.size+1,4,none⟩=some (.string r.b.s)/\w'.cell? ⟨w0.heap.size+1,5,none⟩=some (.slice P2 r.b.ks.length d2))) w'/\(w'.cell? ⟨wr.heap.size,0,none⟩=some (.string u.s)/\w'.cell? ⟨wr.heap.size,1,none⟩=some (.int .u8 u.k)/\w'.cell? ⟨wr.heap.size,2,none⟩=some (.int .i64 u.n))) (fun _:World=>True) 40 (by kernel_rfl) ?_
         refine zT 0 hSS ?_
         (try simp only [Act.put,zP])
         refine zT 1 hSS ?_
         (try simp only [Act.put,zP])
         refine zT 2 hSS ?_
         (try simp only [Act.put,zP])
         refine zT 3 hSS ?_
         (try simp only [Act.put,zP])
         refine zT 4 hSS ?_
         (try simp only [Act.put,zP])
         refine zT 5 hSS ?_
         (try simp only [Act.put,zP])
         refine zT 6 hSS ?_
         (try simp only [Act.put,zP])
         refine zT 7 hSS ?_
         (try simp only [Act.put,zP])
         refine zT 8 hSS ?_
         (try simp only [Act.put,zP])
         refine zT 9 hSS ?_
         (try simp only [Act.put,zP])
         refine wpG_one (i:=10) (by kernel_rfl) rfl (fun K hK=>?_)
         refine step_callL (by rfl) (.func 39) [.tmp 71,.tmp 73] _ (by rfl) 39 _ fnFresh (by rfl) _ (by rfl) _ (isW_of (fresh_take r.ps i (by omega) (some a') d1 u.s _ _ (HD2.out _ (HIN2.out.chg.trans (Chg.of_below (bl_tt HBV.out hdv)))).2.row HPR.out.lp)) ?_
         rintro vq w5 ⟨rfl,bw5⟩
         have b5:=bl_tt hdv bw5
         refine hK.out _ _ (HCV.out _ b5) ?_
         clear hK K hSS
         (try simp only [Act.put,zP])
         refine wpG_one (i:=11) (by kernel_rfl) rfl (fun K hK=>?_)
         refine step_callC (by rfl) (.tmp 64) [.tmp 65,.const (.slice none 0 0),.tmp 67,.tmp 74] _ (by rfl) 38 _ fnChk1 #[.pointer (some ⟨fb,0,none⟩)] (by rfl) _ (by rfl) _ (repV_of (report_cat fb fb _ pv2 (j:Int) _ [] none 0 u.s Any _ (HIN2.out.fs.later (bl_tt HBV.out b5)) RowI.nil (by simp) (by omega))) ?_
         rintro vq W6 hp
         obtain ⟨pv6,hi6⟩:=HIN2.out.stepK HK2.out (bl_tt HBV.out b5) hp
         have hi7:VsI Rd2 fb fb wk pv' (F1+prcN p.prs j+E1+frsN r.ps (i+1)) W6 pv6:=by rw [frsN_succ hli,Hu.out,<-Nat.add_assoc]; exact hi6
         have hSS6:(fun w':World=>(fun w':World=>((w'.cell? ⟨W.heap.size,0,none⟩=some (.slice A1 L1 c1)/\w'.cell? ⟨W.heap.size,1,none⟩=some (.slice (some a) L2 c2)/\w'.cell? ⟨W.heap.size,2,none⟩=some (.int .u8 k)/\w'.cell? ⟨W.heap.size,3,none⟩=some (.int .i64 n)/\w'.cell? ⟨W.heap.size,4,none⟩=some (.string s)/\w'.cell? ⟨W.heap.size,5,none⟩=some (.slice A3 l3 c3))/\(w'.cell? ⟨fb+1,0,none⟩=some (.func (.func 38) #[] #[.pointer (some ⟨fb,0,none⟩)])))/\(w'.cell? ⟨w0.heap.size,0,none⟩=some (.int .i64 (j:Int)))/\(w'.cell? ⟨w0.heap.size+1,0,none⟩=some (.string r.s)/\w'.cell? ⟨w0.heap.size+1,1,none⟩=some (.slice (some a') r.ps.length d1)/\w'.cell? ⟨w0.heap.size+1,2,none⟩=some (.int .u8 r.b.k)/\w'.cell? ⟨w0.heap.size+1,3,none⟩=some (.int .i64 r.b.n)/\w'.cell? ⟨w0.heap.size+1,4,none⟩=some (.string r.b.s)/\w'.cell? ⟨w0.heap.size+1,5,none⟩=some (.slice P2 r.b.ks.length d2))) w'/\(w'.cell? ⟨wr.heap.size,0,none⟩=some (.string u.s)/\w'.cell? ⟨wr.heap.size,1,none⟩=some (.int .u8 u.k)/\w'.cell? ⟨wr.heap.size,2,none⟩=some (.int .i64 u.n))) W6/\(fun _:World=>True) W6:=⟨⟨HC2.out _ hi7.rd,box3 ((hp.2.elim fun _ h=>h.2.2.block _ (by have:=(bl_tt HBV.out b5).size; have:=b5.size; have:=HZV.out; omega) (fun hh=>by have hl:=HIN2.out.fs.lt; rcases hh with hh|hh; (have:=hl.1; omega); (have:=(hl.2 _ hh).2; omega))).trans ((b5.block _ (by have:=HZV.out; omega)).trans HBU.out))⟩,trivial⟩
         refine hK.out _ _ hSS6 ?_
         clear hK K
         (try simp only [Act.put,zP])
         refine wpG_done (by kernel_rfl) ?_
         refine NoPanic.normal ?_
         have HI7:=zh hi7
         clear hi7 hi6 hp hSS6
         go_wp2_with fail
         go_roundw
         case rel=>exact ⟨i+1,_,by omega,by go_num,HI7.out⟩
         case measure=>simp [intOf]; omega
        ·have hil:i=r.ps.length:=by omega
         obtain ⟨⟨⟨a0,a1,a2,a3,a4,a5⟩,ar⟩,ai,r0,r1,r2,r3,r4,r5⟩:=HC2.out _ hinv.rd
         have hge:¬ ((i:Int)<(r.ps.length:Int)):=by omega
         clear hinv
         go_wp2_with fail
         have hfN:=frsN_le r.ps r.ps.length
         have HN2:=zh (show VsI Rd2 fb fb wk pv' (F1+prcN p.prs j+E1+frsN r.ps r.ps.length) wr pv2 by rw [<-hil]; exact HIN2.out)
         have hzw:=HIN2.out.chg.size
         have hzk:=HZK.out
         have hz0:=HINV.out.chg.size
         have hzb:=HZB.out
         refine (svisit_any 42 _ _ fb fb (Chk2_rep fb fb (fb+1) w0.heap.size (j:Int)) p r.b (fun b=>S b/\b<W.heap.size) r.ps P1 d1 [] none 0 (F1+prcN p.prs j+E1+frsN r.ps r.ps.length) pv2 wr _ _ ⟨(HRD.out _ (HRD2.out _ HN2.out.rd).1.1).1,(HRD2.out _ HN2.out.rd).1.2⟩ HN2.out.fs (HD2.out _ HN2.out.chg).1 (HD2.out _ HN2.out.chg).2.body (HD2.out _ HN2.out.chg).2.row HPR.out.lc RowI.nil (Nat.zero_le _) (fun b hb hbl hh=>?_) (by simp; omega) (by omega) (by omega)).mono ?_
         ·rcases hh with hh|hh
          ·have:=hb.2; omega
          ·rcases HN2.out.own b hh with h1|h1
           ·have:=(HINV.out.fs.lt.2 b h1).1; have:=hb.2; omega
           ·have:=hb.2; omega
         rintro e W6 hp
         obtain ⟨v6,rfl⟩:=hp.1
         obtain ⟨pv6,hi6⟩:=HN2.out.stepK HK2.out (Below.refl _ _) hp
         obtain ⟨pv7,hi7⟩:=HINV.out.step HREP.out HBK.out (hi6.rep (Below.refl _ _) (e:=.returned undef) ⟨_,rfl⟩)
         have HI8:=zh (show VsI Rd fb fb Wb (.slice none 0 0) (F1+prcN p.prs (j+1)) W6 pv7 by rw [prcN_succ hltp,Hr.out,prcE,HE1.out]; simpa only [Nat.add_assoc] using hi7)
         clear hi7 hi6 hp a0 a1 a2 a3 a4 a5 ar ai r0 r1 r2 r3 r4 r5
         go_wp2_with fail
         go_roundw
         case rel=>exact ⟨j+1,_,by omega,by go_num,HI8.out⟩
         case measure=>simp [intOf]; omega
      ·have hd:decide (PE<(j:Int))=false:=decide_eq_false hpe
       obtain ⟨E1,hE1⟩:∃ E1,one1 (0)=E1:=⟨_,rfl⟩
       have hE2:E1<=1:=by rw [<-hE1]; exact one1_le _
       have HE1:=zh (show one1 (if procE p.prs r.s<(j:Int) then 22 else 0)=E1 by rw [HPE.out,if_neg hpe]; exact hE1)
       refine zT 5 hSS2 ?_
       (try simp only [Act.put,zP])
       refine wpG_done (by kernel_rfl) ?_
       refine NoPanic.normal ?_
       obtain ⟨⟨⟨a0,a1,a2,a3,a4,a5⟩,ar⟩,ai,r0,r1,r2,r3,r4,r5⟩:=hSS2.1
       clear hSS2
       go_wp2_with fail
       have HI3:=zh (show VsI Rd2 fb fb wk pv' (F1+prcN p.prs j+E1) w2 pv' by rw [<-hE1]; exact HI2b.out)
       clear hE1
       go_loopw [59] (fun x w'=>∃ (i:Nat) (pv2:Value),i<=r.ps.length/\x=.int .i64 i/\VsI Rd2 fb fb wk pv' (F1+prcN p.prs j+E1+frsN r.ps i) w' pv2) (fun x _=>r.ps.length-(intOf x).toNat)
       case atStart=>exact ⟨0,_,Nat.zero_le _,rfl,HI3.out⟩
       case round =>
        clear HI3 a0 a1 a2 a3 a4 a5 ar ai r0 r1 r2 r3 r4 r5
        obtain ⟨i,pv2,hi,rfl,hinv⟩:=hrel
        have HIN2:=zh hinv
        by_cases hli:i<r.ps.length
        ·obtain ⟨a',u,rfl,hsa,Hu,⟨q0,q1,q2⟩,hfu⟩:=(HD2.out wr hinv.chg).2.row.nd hli
         have hic:(i:Int)<=(d1:Int):=by have:=HPR.out.lc; omega
         have hi0:(0:Int)<=(i:Int):=by omega
         obtain ⟨⟨⟨a0,a1,a2,a3,a4,a5⟩,ar⟩,ai,r0,r1,r2,r3,r4,r5⟩:=HC2.out _ hinv.rd
         clear hinv hsa hfu
         go_upto_region 18 with fail
         have hbk:Below wr.heap.size wr (wr.alloc (.cells #[.string u.s,.int .u8 u.k,.int .i64 u.n] 58)):=bl_al (Below.refl _ _) _
         have hbU:=heap_alloc_new wr (.cells #[.string u.s,.int .u8 u.k,.int .i64 u.n] 58)
         obtain ⟨wv,hwv⟩:∃ wv,wr.alloc (.cells #[.string u.s,.int .u8 u.k,.int .i64 u.n] 58)=wv:=⟨_,rfl⟩
         rw [hwv] at hbk hbU ⊢
         have HZV:=zh (show wv.heap.size=wr.heap.size+1 by rw [<-hwv]; simp)
         have HBV:=zh hbk
         have HBU:=zh hbU
         clear hwv hbk hbU a0 a1 a2 a3 a4 a5 ar ai r0 r1 r2 r3 r4 r5 q0 q1 q2
         have HCV:=zh (show ∀ w':World,Below wv.heap.size wv w'->(fun w':World=>(fun w':World=>((w'.cell? ⟨W.heap.size,0,none⟩=some (.slice A1 L1 c1)/\w'.cell? ⟨W.heap.size,1,none⟩=some (.slice (some a) L2 c2)/\w'.cell? ⟨W.heap.size,2,none⟩=some (.int .u8 k)/\w'.cell? ⟨W.heap.size,3,none⟩=some (.int .i64 n)/\w'.cell? ⟨W.heap.size,4,none⟩=some (.string s)/\w'.cell? ⟨W.heap.size,5,none⟩=some (.slice A3 l3 c3))/\(w'.cell? ⟨fb+1,0,none⟩=some (.func (.func 38) #[] #[.pointer (some ⟨fb,0,none⟩)])))/\(w'.cell? ⟨w0.heap.size,0,none⟩=some (.int .i64 (j:Int)))/\(w'.cell? ⟨w0.heap.size+1,0,none⟩=some (.string r.s)/\w'.cell? ⟨w0.heap.size+1,1,none⟩=some (.slice (some a') r.ps.length d1)/\w'.cell? ⟨w0.heap.size+1,2,none⟩=some (.int .u8 r.b.k)/\w'.cell? ⟨w0.heap.size+1,3,none⟩=some (.int .i64 r.b.n)/\w'.cell? ⟨w0.heap.size+1,4,none⟩=some (.string r.b.s)/\w'.cell? ⟨w0.heap.size+1,5,none⟩=some (.slice P2 r.b.ks.length d2))) w'/\(w'.cell? ⟨wr.heap.size,0,none⟩=some (.string u.s)/\w'.cell? ⟨wr.heap.size,1,none⟩=some (.int .u8 u.k)/\w'.cell? ⟨wr.heap.size,2,none⟩=some (.int .i64 u.n))) w'/\(fun _:World=>True) w' from fun w' h=>⟨⟨HC2.out _ (HK2.out _ _ _ _ HIN2.out.rd HIN2.out.fs (Chg.of_below (bl_tt HBV.out h))),box3 ((h.block _ (by have:=HZV.out; omega)).trans HBU.out)⟩,trivial⟩)
         have hdv:=(Below.refl wv.heap.size wv).drew
         have hSS:=HCV.out _ hdv
         have hfN:=frsN_le r.ps i
         refine wp_region_noPanic ?_
         refine wp_region_G (fun w':World=>(fun w':World=>((w'.cell? ⟨W.heap.size,0,none⟩=some (.slice A1 L1 c1)/\w'.cell? ⟨W.heap.size,1,none⟩=some (.slice (some a) L2 c2)/\w'.cell? ⟨W.heap.size,2,none⟩=some (.int .u8 k)/\w'.cell? ⟨W.heap.size,3,none⟩=some (.int .i64 n)/\w'.cell? ⟨W.heap.size,4,none⟩=some (.string s)/\w'.cell? ⟨W.heap.size,5,none⟩=some (.slice A3 l3 c3))/\(w'.cell? ⟨fb+1,0,none⟩=some (.func (.func 38) #[] #[.pointer (some ⟨fb,0,none⟩)])))/\(w'.cell? ⟨w0.heap.size,0,none⟩=some (.int .i64 (j:Int)))/\(w'.cell? ⟨w0.heap.size+1,0,none⟩=some (.string r.s)/\w'.cell? ⟨w0.heap.size+1,1,none⟩=some (.slice (some a') r.ps.length d1)/\w'.cell? ⟨w0.heap.size+1,2,none⟩=some (.int .u8 r.b.k)/\w'.cell? ⟨w0.heap.size+1,3,none⟩=some (.int .i64 r.b.n)/\w'.cell? ⟨w0.heap.size+1,4,none⟩=some (.string r.b.s)/\w'.cell? ⟨w0.heap.size+1,5,none⟩=some (.slice P2 r.b.ks.length d2))) w'/\(w'.cell? ⟨wr.heap.size,0,none⟩=some (.string u.s)/\w'.cell? ⟨wr.heap.size,1,none⟩=some (.int .u8 u.k)/\w'.cell? ⟨wr.heap.size,2,none⟩=some (.int .i64 u.n))) (fun _:World=>True) 40 (by kernel_rfl) ?_
         refine zT 0 hSS ?_
         (try simp only [Act.put,zP])
         refine zT 1 hSS ?_
         (try simp only [Act.put,zP])
         refine zT 2 hSS ?_
         (try simp only [Act.put,zP])
         refine zT 3 hSS ?_
         (try simp only [Act.put,zP])
         refine zT 4 hSS ?_
         (try simp only [Act.put,zP])
         refine zT 5 hSS ?_
         (try simp only [Act.put,zP])
         refine zT 6 hSS ?_
         (try simp only [Act.put,zP])
         refine zT 7 hSS ?_
         (try simp only [Act.put,zP])
         refine zT 8 hSS ?_
         (try simp only [Act.put,zP])
         refine zT 9 hSS ?_
         (try simp only [Act.put,zP])
         refine wpG_one (i:=10) (by kernel_rfl) rfl (fun K hK=>?_)
         refine step_callL (by rfl) (.func 39) [.tmp 71,.tmp 73] _ (by rfl) 39 _ fnFresh (by rfl) _ (by rfl) _ (isW_of (fresh_take r.ps i (by omega) (some a') d1 u.s _ _ (HD2.out _ (HIN2.out.chg.trans (Chg.of_below (bl_tt HBV.out hdv)))).2.row HPR.out.lp)) ?_
         rintro vq w5 ⟨rfl,bw5⟩
         have b5:=bl_tt hdv bw5
         refine hK.out _ _ (HCV.out _ b5) ?_
         clear hK K hSS
         (try simp only [Act.put,zP])
         refine wpG_one (i:=11) (by kernel_rfl) rfl (fun K hK=>?_)
         refine step_callC (by rfl) (.tmp 64) [.tmp 65,.const (.slice none 0 0),.tmp 67,.tmp 74] _ (by rfl) 38 _ fnChk1 #[.pointer (some ⟨fb,0,none⟩)] (by rfl) _ (by rfl) _ (repV_of (report_cat fb fb _ pv2 (j:Int) _ [] none 0 u.s Any _ (HIN2.out.fs.later (bl_tt HBV.out b5)) RowI.nil (by simp) (by omega))) ?_
         rintro vq W6 hp
         obtain ⟨pv6,hi6⟩:=HIN2.out.stepK HK2.out (bl_tt HBV.out b5) hp
         have hi7:VsI Rd2 fb fb wk pv' (F1+prcN p.prs j+E1+frsN r.ps (i+1)) W6 pv6:=by rw [frsN_succ hli,Hu.out,<-Nat.add_assoc]; exact hi6
         have hSS6:(fun w':World=>(fun w':World=>((w'.cell? ⟨W.heap.size,0,none⟩=some (.slice A1 L1 c1)/\w'.cell? ⟨W.heap.size,1,none⟩=some (.slice (some a) L2 c2)/\w'.cell? ⟨W.heap.size,2,none⟩=some (.int .u8 k)/\w'.cell? ⟨W.heap.size,3,none⟩=some (.int .i64 n)/\w'.cell? ⟨W.heap.size,4,none⟩=some (.string s)/\w'.cell? ⟨W.heap.size,5,none⟩=some (.slice A3 l3 c3))/\(w'.cell? ⟨fb+1,0,none⟩=some (.func (.func 38) #[] #[.pointer (some ⟨fb,0,none⟩)])))/\(w'.cell? ⟨w0.heap.size,0,none⟩=some (.int .i64 (j:Int)))/\(w'.cell? ⟨w0.heap.size+1,0,none⟩=some (.string r.s)/\w'.cell? ⟨w0.heap.size+1,1,none⟩=some (.slice (some a') r.ps.length d1)/\w'.cell? ⟨w0.heap.size+1,2,none⟩=some (.int .u8 r.b.k)/\w'.cell? ⟨w0.heap.size+1,3,none⟩=some (.int .i64 r.b.n)/\w'.cell? ⟨w0.heap.size+1,4,none⟩=some (.string r.b.s)/\w'.cell? ⟨w0.heap.size+1,5,none⟩=some (.slice P2 r.b.ks.length d2))) w'/\(w'.cell? ⟨wr.heap.size,0,none⟩=some (.string u.s)/\w'.cell? ⟨wr.heap.size,1,none⟩=some (.int .u8 u.k)/\w'.cell? ⟨wr.heap.size,2,none⟩=some (.int .i64 u.n))) W6/\(fun _:World=>True) W6:=⟨⟨HC2.out _ hi7.rd,box3 ((hp.2.elim fun _ h=>h.2.2.block _ (by have:=(bl_tt HBV.out b5).size; have:=b5.size; have:=HZV.out; omega) (fun hh=>by have hl:=HIN2.out.fs.lt; rcases hh with hh|hh; (have:=hl.1; omega); (have:=(hl.2 _ hh).2; omega))).trans ((b5.block _ (by have:=HZV.out; omega)).trans HBU.out))⟩,trivial⟩
         refine hK.out _ _ hSS6 ?_
         clear hK K
         (try simp only [Act.put,zP])
         refine wpG_done (by kernel_rfl) ?_
         refine NoPanic.normal ?_
         have HI7:=zh hi7
         clear hi7 hi6 hp hSS6
         go_wp2_with fail
         go_roundw
         case rel=>exact ⟨i+1,_,by omega,by go_num,HI7.out⟩
         case measure=>simp [intOf]; omega
        ·have hil:i=r.ps.length:=by omega
         obtain ⟨⟨⟨a0,a1,a2,a3,a4,a5⟩,ar⟩,ai,r0,r1,r2,r3,r4,r5⟩:=HC2.out _ hinv.rd
         have hge:¬ ((i:Int)<(r.ps.length:Int)):=by omega
         clear hinv
         go_wp2_with fail
         have hfN:=frsN_le r.ps r.ps.length
         have HN2:=zh (show VsI Rd2 fb fb wk pv' (F1+prcN p.prs j+E1+frsN r.ps r.ps.length) wr pv2 by rw [<-hil]; exact HIN2.out)
         have hzw:=HIN2.out.chg.size
         have hzk:=HZK.out
         have hz0:=HINV.out.chg.size
         have hzb:=HZB.out
         refine (svisit_any 42 _ _ fb fb (Chk2_rep fb fb (fb+1) w0.heap.size (j:Int)) p r.b (fun b=>S b/\b<W.heap.size) r.ps P1 d1 [] none 0 (F1+prcN p.prs j+E1+frsN r.ps r.ps.length) pv2 wr _ _ ⟨(HRD.out _ (HRD2.out _ HN2.out.rd).1.1).1,(HRD2.out _ HN2.out.rd).1.2⟩ HN2.out.fs (HD2.out _ HN2.out.chg).1 (HD2.out _ HN2.out.chg).2.body (HD2.out _ HN2.out.chg).2.row HPR.out.lc RowI.nil (Nat.zero_le _) (fun b hb hbl hh=>?_) (by simp; omega) (by omega) (by omega)).mono ?_
         ·rcases hh with hh|hh
          ·have:=hb.2; omega
          ·rcases HN2.out.own b hh with h1|h1
           ·have:=(HINV.out.fs.lt.2 b h1).1; have:=hb.2; omega
           ·have:=hb.2; omega
         rintro e W6 hp
         obtain ⟨v6,rfl⟩:=hp.1
         obtain ⟨pv6,hi6⟩:=HN2.out.stepK HK2.out (Below.refl _ _) hp
         obtain ⟨pv7,hi7⟩:=HINV.out.step HREP.out HBK.out (hi6.rep (Below.refl _ _) (e:=.returned undef) ⟨_,rfl⟩)
         have HI8:=zh (show VsI Rd fb fb Wb (.slice none 0 0) (F1+prcN p.prs (j+1)) W6 pv7 by rw [prcN_succ hltp,Hr.out,prcE,HE1.out]; simpa only [Nat.add_assoc] using hi7)
         clear hi7 hi6 hp a0 a1 a2 a3 a4 a5 ar ai r0 r1 r2 r3 r4 r5
         go_wp2_with fail
         go_roundw
         case rel=>exact ⟨j+1,_,by omega,by go_num,HI8.out⟩
         case measure=>simp [intOf]; omega
     ·have hjl:j=L2:=by omega
      obtain ⟨⟨a0,a1,a2,a3,a4,a5⟩,ar⟩:=HCC.out _ hinv.rd
      have hge:¬ ((j:Int)<(L2:Int)):=by omega
      have HN3:=zh (show VsI Rd fb fb Wb (.slice none 0 0) (F1+prcN p.prs p.prs.length) w0 pv' by rw [HL2.out,<-hjl]; exact HINV.out)
      clear hinv
      go_wp2_with fail
      have hpN:=prcN_le p.prs HVB.out.2.2.1 p.prs.length
      have hvb:=HVB.out
      have hzw:=HINV.out.chg.size
      have hzb:=HZB.out
      have hmn:=(HD.out _ HN3.out.chg).2.main
      rw [HMM.out.1,HMM.out.2.1,HMM.out.2.2.1,HMM.out.2.2.2] at hmn
      have hcall:=svisit_any _ _ Rd fb fb HREP.out p p.m (fun b=>S b/\b<W.heap.size) p.vs A1 c1 [] none 0 (F1+prcN p.prs p.prs.length) pv' w0 _ _ HN3.out.rd HN3.out.fs (HD.out _ HN3.out.chg).1 hmn (HD.out _ HN3.out.chg).2.vars HR.out.lvc RowI.nil (Nat.zero_le _) (fun b hb hbl hh=>by rcases hh with hh|hh; (have:=hb.2; omega); (rcases HN3.out.own b hh with h1|h1; (simp [Value.ownBlock] at h1); (have:=hb.2; omega))) (by simp; omega) (by omega) (by omega)
      rw [HL1.out] at hcall
      refine hcall.mono ?_
      clear hcall
      rintro e W6 hp
      obtain ⟨v6,rfl⟩:=hp.1
      obtain ⟨pv6,hi6⟩:=HN3.out.step HREP.out (Below.refl _ _) hp
      rw [show F1+prcN p.prs p.prs.length+cntV p.prs p.m p.vs=NN by rw [<-HNN2.out,chkN,HFE.out]] at hi6
      obtain ⟨A6,c6,rfl⟩:=hi6.fs.slice
      have hf6:W6.cell? ⟨fb,0,none⟩=some (.slice A6 NN c6):=zc hi6.fs.box rfl
      have HBZ:=zh (show Below W.heap.size W W6 from HBW.out.trans (hi6.chg.below (by omega) (fun b hb=>by rcases hb with hb|hb; omega; simp [Value.ownBlock] at hb)))
      clear hi6 hp hmn hvb a0 a1 a2 a3 a4 a5 ar
      go_wp2_with fail
      go_ret
      exact ⟨A6,c6,rfl,HBZ.out⟩
theorem prcI_eq:∀ (prs:List PR) (s:ByteArray),prcI prs s=idxP prs s
 | [],_=>rfl
 | q::qs,s=>by
  unfold prcI
  rw [prcI_eq qs s]
  unfold idxP
  rw [List.findIdx?_cons]
def CalB (prs:List PR) (t:T):Prop:=∀ u∈po t,(u.k=50\/u.k=51)->∃ i,prcI prs u.s=some i
theorem isE_poE:∀ (t:T),isE t=true->∀ x∈po t,isE x=true:=by
 intro t
 induction t using T.ind with
 | _ k n s ks ih =>
  intro h x hx
  simp only [po,List.mem_cons] at hx
  rcases hx with rfl|hx
  ·exact h
  ·obtain ⟨t,ht,hx⟩:=mem_pos.1 hx
   exact ih t ht (isE_kids h t ht) x hx
theorem CalB.expr {prs:List PR} {t:T} (h:isE t=true):CalB prs t:=fun u hu hk=>by
 have:=isE_k u (isE_poE t h u hu)
 omega
theorem CalB.kid {prs:List PR} {k n:Int} {s:ByteArray} {ks:List T} (h:CalB prs (.nd k n s ks)) {t:T} (ht:t∈ks):CalB prs t:=fun u hu=>h u (by simp only [po,List.mem_cons]; exact .inr (mem_pos.2 ⟨t,ht,hu⟩))
theorem cntK_zero {prs:List PR} {k:Int} {s:ByteArray} {vs:List VD}:∀ {ks:List T} {i:Nat},cntK prs k s i ks vs=0->∀ t∈ks,∃ vs',cntV prs t vs'=0
 | [],_,_,t,ht=>by cases ht
 | u::us,i,h,t,ht=>by
  rw [cntK] at h
  obtain ⟨h1,h2⟩:=Nat.add_eq_zero_iff.1 h
  rcases List.mem_cons.1 ht with rfl|ht
  ·exact ⟨_,h1⟩
  ·exact cntK_zero h2 t ht
theorem one1_zero {e:Int} (h:one1 e=0):e=0:=by
 unfold one1 at h
 split at h
 ·assumption
 ·omega
theorem cal_of:∀ (t:T) (prs:List PR) (vs:List VD),(isS t=true\/isB t=true\/isE t=true)->cntV prs t vs=0->CalB prs t:=by
 intro t
 induction t using T.ind with
 | _ k n s ks ih =>
  intro prs vs ht h
  rcases ht with hs|hb|he
  ·rw [cntV] at h
   intro u hu hk
   simp only [po,List.mem_cons] at hu
   by_cases hc:k=50\/k=51
   ·rcases hu with rfl|hu
    ·have h0:=one1_zero (e:=faultE prs k s ks.length vs) (by omega)
     unfold faultE at h0
     rw [if_neg (by omega),if_neg (by omega),if_neg (by omega),if_neg (by omega),if_pos hc] at h0
     rw [prcI_eq]
     cases hi:idxP prs s with
     | none=>rw [hi] at h0; simp at h0
     | some i=>exact ⟨i,hi⟩
    ·obtain ⟨t,ht,hx⟩:=mem_pos.1 hu
     have h57:t.k≠57:=by
      rcases isS_cases hs with ⟨_,h1⟩|⟨h1,_⟩|⟨h1,_⟩|⟨h1,_⟩
      ·exact h1 t ht
      all_goals omega
     rcases (isS_EB hs).2 t ht with h1|h1
     ·exact CalB.expr h1 u hx hk
     ·exact absurd (isB_k h1) h57
   ·rw [if_neg hc] at h
    rcases hu with rfl|hu
    ·exact absurd hk hc
    ·obtain ⟨t,ht,hx⟩:=mem_pos.1 hu
     obtain ⟨vs',hv⟩:=cntK_zero (Nat.add_eq_zero_iff.1 h).2 t ht
     rcases (isS_EB hs).2 t ht with h1|h1
     ·exact CalB.expr h1 u hx hk
     ·exact ih t ht prs vs' (.inr (.inl h1)) hv u hx hk
  ·obtain ⟨h57,hks⟩:=isB_kids _ _ _ _ hb
   rw [cntV,if_neg (by omega)] at h
   intro u hu hk
   simp only [po,List.mem_cons] at hu
   rcases hu with rfl|hu
   ·simp only [T.k_nd] at hk; omega
   ·obtain ⟨t,ht,hx⟩:=mem_pos.1 hu
    obtain ⟨vs',hv⟩:=cntK_zero (Nat.add_eq_zero_iff.1 h).2 t ht
    exact ih t ht prs vs' (.inl (hks t ht)) hv u hx hk
  ·exact CalB.expr he
def GP (prs:List PR) (t:T):Prop:=isS t=true/\CalB prs t/\∀ q∈prs,isB q.b=true/\CalB prs q.b
theorem GP.block {prs:List PR} {b:T} (hb:isB b=true) (hc:CalB prs b) (hq:∀ q∈prs,isB q.b=true/\CalB prs q.b):∀ u∈b.ks,GP prs u:=by
 obtain ⟨k,n,s,ks⟩:=b
 exact fun u hu=>⟨(isB_kids _ _ _ _ hb).2 u hu,hc.kid hu,hq⟩
theorem GP_GC:GC GP where
 two:=fun prs t h hk=>by
  obtain ⟨k,n,s,ks⟩:=t
  obtain ⟨hs,hc,hq⟩:=h
  simp only [T.k_nd] at hk
  rcases isS_cases hs with ⟨h1,_⟩|⟨_,_,a,b,c,d,rfl,_,hb1,hb2,_⟩|⟨h1,_⟩|⟨h1,_⟩
  ·omega
  ·exact ⟨rfl,GP.block hb1 (hc.kid (t:=b) (by simp)) hq,GP.block hb2 (hc.kid (t:=c) (by simp)) hq⟩
  ·omega
  ·omega
 loc:=fun prs t h hk=>by
  obtain ⟨k,n,s,ks⟩:=t
  obtain ⟨hs,hc,hq⟩:=h
  simp only [T.k_nd] at hk
  rcases isS_cases hs with ⟨h1,_⟩|⟨h1,_⟩|⟨_,_,a,b,c,rfl,_,hb1,_⟩|⟨h1,_⟩
  ·omega
  ·omega
  ·exact ⟨rfl,GP.block hb1 (hc.kid (t:=b) (by simp)) hq⟩
  ·omega
 stk:=fun prs t h hk=>by
  obtain ⟨k,n,s,ks⟩:=t
  obtain ⟨hs,hc,hq⟩:=h
  simp only [T.k_nd] at hk
  rcases isS_cases hs with ⟨h1,_⟩|⟨h1,_⟩|⟨h1,_⟩|⟨_,_,b,rfl,hb1⟩
  ·omega
  ·omega
  ·omega
  ·exact ⟨rfl,GP.block hb1 (hc.kid (t:=b) (by simp)) hq⟩
 cal:=fun prs t h hk=>by
  obtain ⟨hs,hc,hq⟩:=h
  have hm:t∈po t:=by obtain ⟨k,n,s,ks⟩:=t; simp [po]
  obtain ⟨i,hi⟩:=hc t hm hk
  obtain ⟨-,hl⟩:=prcI_idx _ _ _ hi
  exact ⟨i,prs[i],hi,List.getElem?_eq_getElem hl,GP.block (hq _ (List.getElem_mem hl)).1 (hq _ (List.getElem_mem hl)).2 hq⟩
theorem prcN_zero {ps:List PR}:∀ {j:Nat},j<=ps.length->prcN ps j=0->∀ i (h:i<ps.length),i<j->prcE ps i ps[i]=0
 | 0,_,_,i,_,hi=>by omega
 | j+1,hj,h,i,hl,hi=>by
  rw [prcN_succ (by omega)] at h
  by_cases e:i=j
  ·subst e; omega
  ·exact prcN_zero (j:=j) (by omega) (by omega) i hl (by omega)
theorem valid_isB {p:PG} (h:validB p=true):isB p.m=true/\∀ r∈p.prs,isB r.b=true:=by
 simp only [validB,Bool.and_eq_true,decide_eq_true_eq,List.all_eq_true] at h
 refine ⟨?_,fun r hr=>?_⟩
 ·have:=h.2
  simp only [isBodyB,Bool.and_eq_true] at this
  exact this.2
 ·have:=h.1.2 r hr
  simp only [procB,isBodyB,Bool.and_eq_true] at this
  exact this.2.2
theorem GP_main {p:PG} (hv:validB p=true) (hc:chkN p=0):∀ u∈p.m.ks,GP p.prs u:=by
 obtain ⟨h1,h2⟩:=valid_isB hv
 unfold chkN at hc
 refine GP.block h1 (cal_of _ _ p.vs (.inr (.inl h1)) (by omega)) fun q hq=>⟨h2 q hq,?_⟩
 obtain ⟨i,hi,rfl⟩:=List.getElem_of_mem hq
 have:=prcN_zero (Nat.le_refl _) (show prcN p.prs p.prs.length=0 by omega) i hi hi
 unfold prcE at this
 exact cal_of _ _ _ (.inr (.inl (h2 _ hq))) (show cntV p.prs p.prs[i].b p.prs[i].ps=0 by omega)
theorem gas_le (M a b r s g:Nat) (h1:a<=b) (h2:s<=r) (hg:b*M+r<=g):a*M+s<=g:=by have:=Nat.mul_le_mul_right M h1; omega
theorem run_good {p:PG} {F:Int} {g:Nat} (hv:validB p=true) (hg:F.toNat*2000+2000<=g) (back:Bool) (S:ST) (e:List Nat):Good 0 (runO p.prs F g back p.m ⟨S,0,e⟩):=by
 obtain ⟨_,_,h3,_,h5⟩:=valid_bounds hv
 refine bodyO_good _ _ fun u hu r hr=>execO_good (M:=2000) (fun q hq=>(h3 q hq).2.2) (by omega) g back u r ?_
 have h6:=mem_size (blkL_mem hu)
 exact gas_le 2000 (F.toNat-r.n) F.toNat 2000 _ g (by omega) (by omega) hg
theorem bII1' (A:Option Addr) (l c:Nat) (w:World):(Instr.buildSlice 29 1 #[(0,.slice A l c)]).run Tryz.prog w=.ok (.slice (some ⟨w.heap.size,0,none⟩) 1 1) (w.alloc (.cells #[.slice A l c] 30)):=by kernel_rfl
theorem bS12 (B C:Option Addr) (m d n e:Nat) (w:World):(Instr.build 32 #[(1,.slice B m d),(2,.slice C n e)]).run Tryz.prog w=.ok (.agg #[.slice none 0 0,.slice B m d,.slice C n e]) w:=by kernel_rfl
section
variable {P:Program} {ops:Array Oper} {Q:Exit->Act->World->Prop} {md:Region.Mode} {S1 S2:World->Prop} {k:Nat}
theorem wpG_invS' (I:Nat->Array Bool->Act->World->Prop) (hS:∀ f l a w,I f l a w->S1 w/\S2 w)
  (h:∀ f l a w,I f l a w->wpG P md ops Q S1 S2 k f l a w\/∃ f',f=f'+1/\Region.ready md ops l≠[]/\∀ i∈Region.ready md ops l,wpOp P ops Q i (fun a' w'=>I f' (l.setIfInBounds i true) a' w') a w) :
  ∀ f l a w,I f l a w->wpG P md ops Q S1 S2 k f l a w
 | 0,l,a,w,hi=>by
  rcases h 0 l a w hi with h1|⟨f',h1,_⟩
  ·exact h1
  ·omega
 | f+1,l,a,w,hi=>by
  rcases h (f+1) l a w hi with h1|⟨f',h1,h2,h3⟩
  ·exact h1
  ·obtain rfl:f=f':=by omega
   exact ⟨fun h0=>absurd h0 h2,fun i hm=>wpOp_mono (fun a' w' h'=>⟨⟨(hS _ _ _ _ h').1,fun _=>(hS _ _ _ _ h').2⟩,wpG_invS' I hS h f _ a' w' h'⟩) (h3 i hm)⟩
theorem wpG_invS {a0:Act} {f0:Nat} {l0:Array Bool} {w0:World} (I:Act->Nat->Array Bool->Act->World->Prop) (hS:∀ A f l a w,I A f l a w->S1 w/\S2 w)
  (h:∀ A,A=a0->∀ f l a w,I A f l a w->wpG P md ops Q S1 S2 k f l a w\/∃ f',f=f'+1/\Region.ready md ops l≠[]/\∀ i∈Region.ready md ops l,wpOp P ops Q i (fun a' w'=>I A f' (l.setIfInBounds i true) a' w') a w)
  (h0:I a0 f0 l0 a0 w0):wpG P md ops Q S1 S2 k f0 l0 a0 w0:=wpG_invS' (I a0) (hS a0) (h a0 rfl) _ _ _ _ h0
end
def rows1 (l0 l3 l4 l7 l9:Bool) (v5 v8 v9 v12:Value) (b3:Nat) (s:SS):Option SI->RowD
 | none=>if l9=true then ⟨boxV b3,32,3,1,[.slice none 0 0,.slice none 0 0,.slice none 0 0]⟩ else nilR
 | some .inp=>if l3=true then ⟨v8,3,1,s.tin.length,flatI s.tin⟩ else if l0=true then ⟨v5,3,1,0,[]⟩ else nilR
 | some .out=>if l7=true then ⟨v12,3,1,s.tout.length,flatI s.tout⟩ else if l4=true then ⟨v9,3,1,0,[]⟩ else nilR
 | some _=>nilR
def rowsC (vc vi vo:Value) (fc:Nat->Value) (b3:Nat) (s:SS) (j:Nat):Option SI->RowD
 | none=>⟨boxV b3,32,3,1,[vc,vi,vo]⟩
 | some .all=>⟨vc,30,1,j,(List.range j).map fc⟩
 | some (.el i)=>if i<j then ⟨fc i,3,1,(s.cells.getD i []).length,flatI (s.cells.getD i [])⟩ else nilR
 | some .inp=>⟨vi,3,1,s.tin.length,flatI s.tin⟩
 | some .out=>⟨vo,3,1,s.tout.length,flatI s.tout⟩
theorem nil_rws (w:World) (n0:Nat) (v5 v8 v9 v12:Value) (b3:Nat) (s:SS):Rws w n0 (rows1 false false false false false v5 v8 v9 v12 b3 s):=by
 have e:∀ i,rows1 false false false false false v5 v8 v9 v12 b3 s i=nilR:=by
  intro i
  rcases i with _|i
  ·rfl
  ·cases i<;>rfl
 refine ⟨fun i=>by rw [e]; exact ownsRow_nilR w n0,fun i j b _ hi _=>?_⟩
 rw [e] at hi
 simp [nilR,Value.ownBlock] at hi
theorem own_box3 (w:World) (n0:Nat) (h:n0<=w.heap.size) (a b c:Value) (E:TypeId):(w.alloc (.cells #[a,b,c] E)).ownsRow n0 E 3 (boxV w.heap.size) 1 [a,b,c] :=
 ⟨rfl,.inr ⟨w.heap.size,1,#[a,b,c],rfl,h,heap_alloc_new w _,Nat.le_refl _,by unfold maxLen; omega,rfl,rfl⟩⟩
theorem rowsC_step (vc vc' vi vo:Value) (fc:Nat->Value) (b3:Nat) (s:SS) (j:Nat) (l:List Int) (v8 r5:Value) (hl:s.cells.getD j []=l) :
  updR (updR (updR (updR (rowsC vc vi vo fc b3 s j) (some (.el j)) ⟨r5,3,1,0,[]⟩) (some (.el j)) ⟨v8,3,1,l.length,flatI l⟩) (some .all) ⟨vc',30,1,j+1,(List.range j).map fc++[v8]⟩) none ⟨boxV b3,32,3,1,[vc',vi,vo]⟩=rowsC vc' vi vo (fun i=>if i=j then v8 else fc i) b3 s (j+1):=by
 funext i
 rcases i with _|i
 ·rfl
 ·cases i with
  | all =>
   simp only [updR,rowsC,reduceCtorEq,if_false,if_true,RowD.mk.injEq,true_and]
   rw [List.range_succ,List.map_append]
   congr 1
   ·refine List.map_congr_left fun i hi=>?_
    have:i≠j:=by have:=List.mem_range.1 hi; omega
    simp [this]
   ·simp
  | inp=>rfl
  | out=>rfl
  | el i =>
   by_cases e:i=j
   ·subst e
    simp [updR,rowsC,<-hl]
   ·have e2:(i<j+1)↔(i<j):=by omega
    simp [updR,rowsC,e,e2]
theorem rowsC_end {W:World} {n0:Nat} {vc vi vo:Value} {fc:Nat->Value} {b3:Nat} {s:SS} (h:Rws W n0 (rowsC vc vi vo fc b3 s s.cells.length)):Rws W n0 (rowsS vc vi vo fc s):=by
 have e:∀ i,rowsS vc vi vo fc s i=rowsC vc vi vo fc b3 s s.cells.length (some i):=fun i=>by cases i<;>rfl
 refine ⟨fun i=>by rw [e]; exact h.row (some i),fun i j b hij hi hj=>?_⟩
 rw [e] at hi hj
 exact h.sep (some i) (some j) b (fun e'=>hij (by injection e')) hi hj
theorem own_of3 {w:World} {n0 b:Nat} {x y z:Value} {E:TypeId} (hn:n0<=b) (h:w.heap[b]?=some (.cells #[x,y,z] E (0,0))):w.ownsRow n0 E 3 (boxV b) 1 [x,y,z] :=
 ⟨rfl,.inr ⟨b,1,#[x,y,z],rfl,hn,h,Nat.le_refl _,by unfold maxLen; omega,rfl,rfl⟩⟩
theorem own_nil (w:World) (n0:Nat) (E:TypeId):w.ownsRow n0 E 1 (.slice none 0 0) 0 []:=⟨rfl,.inl ⟨rfl,rfl⟩⟩
theorem k_2 (l5 l9:Bool) (v5 v8 v8' v9 v12:Value) (b3:Nat) (s:SS):updR (rows1 false false false l5 l9 v5 v8' v9 v12 b3 s) (some .inp) ⟨v8,3,1,s.tin.length,flatI s.tin⟩=rows1 false true false l5 l9 v5 v8 v9 v12 b3 s:=by
 funext i
 rcases i with _|i
 ·rfl
 ·cases i<;>rfl
theorem k_5 (l2 l9:Bool) (v5 v8 v9 v12 v12':Value) (b3:Nat) (s:SS):updR (rows1 false l2 false false l9 v5 v8 v9 v12' b3 s) (some .out) ⟨v12,3,1,s.tout.length,flatI s.tout⟩=rows1 false l2 false true l9 v5 v8 v9 v12 b3 s:=by
 funext i
 rcases i with _|i
 ·rfl
 ·cases i<;>rfl
theorem k_7 (l2 l5:Bool) (v5 v8 v9 v12:Value) (b3 b3':Nat) (s:SS):updR (rows1 false l2 false l5 false v5 v8 v9 v12 b3' s) none ⟨boxV b3,32,3,1,[.slice none 0 0,.slice none 0 0,.slice none 0 0]⟩=rows1 false l2 false l5 true v5 v8 v9 v12 b3 s:=by
 funext i
 rcases i with _|i
 ·rfl
 ·cases i<;>rfl
theorem k_end (vi vo v5 v9:Value) (fc:Nat->Value) (b3:Nat) (s:SS):updR (updR (rows1 false true false true true v5 vi v9 vo b3 s) none ⟨boxV b3,32,3,1,[.slice none 0 0,vi,vo]⟩) (some .all) ⟨.slice none 0 0,30,1,0,[]⟩=rowsC (.slice none 0 0) vi vo fc b3 s 0:=by
 funext i
 rcases i with _|i
 ·rfl
 ·cases i<;>rfl
theorem k_step (vc vc' vi vo:Value) (fc:Nat->Value) (b3:Nat) (s:SS) (j:Nat) (l:List Int) (v8:Value) (hl:s.cells.getD j []=l) :
  updR (updR (updR (rowsC vc vi vo fc b3 s j) (some (.el j)) ⟨v8,3,1,l.length,flatI l⟩) (some .all) ⟨vc',30,1,j+1,(List.range j).map fc++[v8]⟩) none ⟨boxV b3,32,3,1,[vc',vi,vo]⟩=rowsC vc' vi vo (fun i=>if i=j then v8 else fc i) b3 s (j+1):=by
 rw [<-rowsC_step vc vc' vi vo fc b3 s j l v8 v8 hl]
 congr 2
 funext i
 by_cases e:i=some (.el j)
 ·subst e; simp [updR]
 ·simp [updR,e]
theorem Clone_st (s:SS) (v:Value) (w:World) (hv:SV w Any s v) (hcl:s.cells.length<=1000000):Calls Tryz.prog 19 #[v] w fun e W'=>∃ v',e=.returned v'/\OwnS W' w.heap.size s v'/\Below w.heap.size w W':=by
 have h1:=bS12
 have HV:=zh hv
 obtain ⟨A,c,B,d,D,e,rfl,hr1,hr2,hr3,hc1,hc2,hc3,hl1,hl2,hl3,hl4⟩:=hv
 have hk:=heap_alloc_new w (.cells #[.slice A s.cells.length c,.slice B s.tin.length d,.slice D s.tout.length e] 32)
 have hbw:Below w.heap.size w ((w.alloc (.cells #[.slice A s.cells.length c,.slice B s.tin.length d,.slice D s.tout.length e] 32)).alloc (.cells #[.slice none 0 0,.slice none 0 0,.slice none 0 0] 32)):=bl_al (bl_al (Below.refl _ _) _) _
 have hk2:=blk_al hk (.cells #[.slice none 0 0,.slice none 0 0,.slice none 0 0] 32)
 have hz1:((w.alloc (.cells #[.slice A s.cells.length c,.slice B s.tin.length d,.slice D s.tout.length e] 32)).alloc (.cells #[.slice none 0 0,.slice none 0 0,.slice none 0 0] 32)).heap.size=w.heap.size+1+1:=by simp
 have hk3:=heap_alloc_new (w.alloc (.cells #[.slice A s.cells.length c,.slice B s.tin.length d,.slice D s.tout.length e] 32)) (.cells #[.slice none 0 0,.slice none 0 0,.slice none 0 0] 32)
 rw [World.size_alloc] at hk3
 have HI:=zh (show s.I from ⟨fun l hl=>by
  obtain ⟨i,hi,rfl⟩:=List.mem_iff_getElem.1 hl
  obtain ⟨_,_,_,_,_,_,_,hr⟩:=hr1 i hi
  exact hr.fits,hr2.fits,hr3.fits⟩)
 go_enter Tryz.func19,Tryz.ntmps19
 go_upto_region 1 with fail
 obtain ⟨w1,hw1⟩:∃ x,(w.alloc (.cells #[.slice A s.cells.length c,.slice B s.tin.length d,.slice D s.tout.length e] 32)).alloc (.cells #[.slice none 0 0,.slice none 0 0,.slice none 0 0] 32)=x:=⟨_,rfl⟩
 rw [hw1] at hbw hk2 hk3 hz1 ⊢
 have HB1:=zh hbw
 have HK1:=zh hk2
 have HK3:=zh hk3
 have HR1:=zh (hr1.later hbw)
 have HR2:=zh (hr2.later hbw)
 have HR3:=zh (hr3.later hbw)
 have HL:=zh (show s.Lim from ⟨hl1,hl2,hl3,hl4⟩)
 clear hk hbw hk2 hk3 hw1 hr1 hr2 hr3 hl1 hl2 hl3 hl4 HV
 obtain ⟨z0,z1,z2⟩:=box3o HK1.out
 have hSS:(fun w':World=>w'.cell? ⟨w.heap.size,1,none⟩=some (.slice B s.tin.length d)/\w'.cell? ⟨w.heap.size,2,none⟩=some (.slice D s.tout.length e)) w1.drew/\(fun _:World=>True) w1.drew:=⟨⟨z1,z2⟩,trivial⟩
 refine wp_region_noPanic ?_
 refine wp_region_G (fun w':World=>w'.cell? ⟨w.heap.size,1,none⟩=some (.slice B s.tin.length d)/\w'.cell? ⟨w.heap.size,2,none⟩=some (.slice D s.tout.length e)) (fun _:World=>True) 8 (by kernel_rfl) ?_
 refine zT 0 hSS ?_
 (try simp only [Act.put,zP])
 refine zT 1 hSS ?_
 (try simp only [Act.put,zP])
 refine zT 3 hSS ?_
 (try simp only [Act.put,zP])
 refine zT 4 hSS ?_
 (try simp only [Act.put,zP])
 refine wpG_invS (fun A f l a wr=>∃ (l2 l5 l6 l7:Bool) (v8 v12 v13 v3:Value) (b3:Nat),f=(!l2).toNat+(!l5).toNat+(!l6).toNat+(!l7).toNat+1/\l = #[true,true,l2,true,true,l5,l6,l7,false] /\
  a=(((A.put (some 8) v8).put (some 11) v12).put (some 12) v13).put (some 3) v3/\Hid (Below w1.heap.size w1 wr)/\Hid (Rws wr w1.heap.size (rows1 false l2 false l5 l7 undef v8 undef v12 b3 s))/\Hid ((l5=true->l2=true)/\(l6=true->v13=.agg #[.slice none 0 0,v8,v12]/\l2=true/\l5=true)/\(l7=true->v3=.pointer (some ⟨b3,0,none⟩)))/\Hid (l7=false->v3=undef)) (fun A f l a wr h=>?_) ?_ ⟨false,false,false,false,undef,undef,undef,undef,0,rfl,rfl,(by simp only [Act.put,zD,zE,zF]),zh (Below.refl _ _).drew,zh (nil_rws _ _ _ _ _ _ _ _),zh ⟨fun h=>(by cases h),fun h=>(by cases h),fun h=>(by cases h)⟩,zh (fun _=>rfl)⟩
 ·obtain ⟨_,_,_,_,_,_,_,_,_,_,_,_,hb,_⟩:=h
  exact ⟨⟨zb hb.out z1,zb hb.out z2⟩,trivial⟩
 rintro A' hA f l a wr ⟨l2,l5,l6,l7,v8,v12,v13,v3,b3,hf,rfl,ha,HBL,HRW,HC,HU⟩
 by_cases hall:(l2&&l5&&l6&&l7)=true
 ·left
  simp only [Bool.and_eq_true] at hall
  obtain ⟨⟨⟨rfl,rfl⟩,rfl⟩,rfl⟩:=hall
  obtain ⟨-,h13,h3⟩:=HC.out
  obtain ⟨rfl,-,-⟩:=h13 rfl
  obtain rfl:=h3 rfl
  subst hf ha hA
  have hrow:=HRW.out.row none
  obtain ⟨B8,c8,e8,-,-⟩:=row_slice (HRW.out.row (some .inp))
  change v8=.slice B8 s.tin.length c8 at e8
  obtain ⟨B12,c12,e12,-,-⟩:=row_slice (HRW.out.row (some .out))
  change v12=.slice B12 s.tout.length c12 at e12
  subst e8 e12
  have hbx:=box_row hrow
  have c0:wr.cell? ⟨b3,0,none⟩=some (.slice none 0 0):=zc hbx rfl
  have c1:wr.cell? ⟨b3,1,none⟩=some (.slice none 0 0):=zc hbx rfl
  have c2:wr.cell? ⟨b3,2,none⟩=some (.slice none 0 0):=zc hbx rfl
  have cf:∀ j,wr.frozen? ⟨b3,j,none⟩=false:=fun j=>zf hbx
  refine wpG_past (i:=8) (by kernel_rfl) rfl (by kernel_rfl) (fun K hK=>?_)
  (try simp only [Act.put,zP])
  go_simp
  have hb3:w1.heap.size<=b3/\b3<wr.heap.size:=hrow.lt b3 rfl
  have hch:Chg (fun b=>b=b3) wr (((wr.setCell ⟨b3,0,none⟩ (.slice none 0 0)).setCell ⟨b3,1,none⟩ (.slice B8 s.tin.length c8)).setCell ⟨b3,2,none⟩ (.slice B12 s.tout.length c12)) :=
   (((Chg.refl (fun b=>b=b3) wr).setCell (p:=⟨b3,0,none⟩) (.inl rfl) _).setCell (p:=⟨b3,1,none⟩) (.inl rfl) _).setCell (p:=⟨b3,2,none⟩) (.inl rfl) _
  have hh:=heap_setCell_same _ b3 2 _ _ (.slice B12 s.tout.length c12) (heap_setCell_same _ b3 1 _ _ (.slice B8 s.tin.length c8) (heap_setCell_same wr b3 0 _ _ (.slice none 0 0) hbx))
  have HBX:=zh (HBL.out.trans (hch.below HBL.out.size fun b e=>by omega))
  have hrw:=(HRW.out.upd none (r:=⟨boxV b3,32,3,1,[.slice none 0 0,.slice B8 s.tin.length c8,.slice B12 s.tout.length c12]⟩) (hch.mono fun b _ e=>by subst e; rfl) (own_of3 hb3.1 hh) (fun b hb=>.inl hb)).upd (some .all) (r:=⟨.slice none 0 0,30,1,0,[]⟩) (Chg.refl _ _) (own_nil _ _ _) (fun b hb=>by simp [Value.ownBlock] at hb)
  rw [k_end (fc:=fun _=>.slice none 0 0)] at hrw
  have HRC:=zh hrw
  obtain ⟨w2,hw2⟩:∃ x,((wr.setCell ⟨b3,0,none⟩ (.slice none 0 0)).setCell ⟨b3,1,none⟩ (.slice B8 s.tin.length c8)).setCell ⟨b3,2,none⟩ (.slice B12 s.tout.length c12)=x:=⟨_,rfl⟩
  rw [hw2] at HBX HRC ⊢
  have hSS2:(fun w':World=>w'.cell? ⟨w.heap.size,1,none⟩=some (.slice B s.tin.length d)/\w'.cell? ⟨w.heap.size,2,none⟩=some (.slice D s.tout.length e)) w2:=⟨zb HBX.out z1,zb HBX.out z2⟩
  refine hK.out _ _ hSS2 ?_
  clear hK K hSS hSS2 hch hh hrw hw2 hbx c0 c1 c2 cf hrow HRW HBL HU HC h13 h3 h1
  refine wpG_done (by kernel_rfl) ?_
  refine NoPanic.normal ?_
  obtain ⟨vi,hvi⟩:∃ x,Value.slice B8 s.tin.length c8=x:=⟨_,rfl⟩
  obtain ⟨vo,hvo⟩:∃ x,Value.slice B12 s.tout.length c12=x:=⟨_,rfl⟩
  rw [hvi,hvo] at HRC
  have HVI:=zh hvi
  have HVO:=zh hvo
  clear hvi hvo
  have q0:=zb HBX.out z0
  go_wp2_with fail
  clear q0
  go_loopw [16] (fun i wr=>∃ j:Nat,j<=s.cells.length/\i=.int .i64 j/\Hid (Below w1.heap.size w1 wr)/\∃ vc fc,Hid (Rws wr w1.heap.size (rowsC vc vi vo fc b3 s j))) (fun i _=>s.cells.length-(intOf i).toNat)
  case atStart=>exact ⟨0,Nat.zero_le _,rfl,HBX,_,_,HRC⟩
  case round =>
   clear HBX HRC
   obtain ⟨j,hj,rfl,HBL,vc,fc,HRW⟩:=hrel
   have y0:=zb HBL.out z0
   by_cases hlt:j<s.cells.length
   ·have hj1:(j:Int)<(s.cells.length:Int):=by omega
    have hj0:(0:Int)<=(j:Int):=by omega
    obtain ⟨a,l,Al,cl,rfl,Hl,hcl0,hlc,hrl⟩:=(HR1.out.later HBL.out).nd hlt
    have HRL:=zh hrl
    have HLL:=zh (show l.length<=LI by rw [<-Hl.out]; exact HL.out.2.1 _ (List.getElem_mem hlt))
    have hbx:=box_row (HRW.out.row none)
    have x0:wr.cell? ⟨b3,0,none⟩=some vc:=zc hbx rfl
    have hz0:wr.frozen? ⟨b3,0,none⟩=false:=zf hbx
    obtain ⟨Av,cv,hvc,-⟩:=row_slice (HRW.out.row (some .all))
    change vc=.slice Av j cv at hvc
    subst hvc
    have hS0:(fun _:World=>True) wr.drew/\(fun w':World=>w'.cell? ⟨b3,0,none⟩=some (.slice Av j cv)) wr.drew:=⟨trivial,x0⟩
    obtain ⟨i0,hi0,hq0,hq1,hq2⟩:=info_parts sIInfo
    have HCL:=zh (CloneI_own l Al cl Any wr.drew (HRL.out.later (Below.refl _ _).drew) HLL.out)
    go_upto_region 5 with fail
    refine wp_region_noPanic ?_
    refine wp_region_G (fun _:World=>True) (fun w':World=>w'.cell? ⟨b3,0,none⟩=some (.slice Av j cv)) 7 (by kernel_rfl) ?_
    refine zT 0 hS0 ?_
    (try simp only [Act.put,zP])
    refine wpG_take2 (i:=1) (v:=?_) rfl (by kernel_rfl) (by kernel_rfl) (by kernel_rfl) (by decide) rfl (by kernel_rfl) (by kernel_rfl) (fun _ _ _ h=>h) (Or.inl ⟨by rfl,?_⟩) hS0 ?_
    rotate_left 1
    ·(intro w hSw; (try dsimp only at hSw); (try simp only [zA,zB,zC]); go_simp; (try with_reducible rfl))
    (try simp only [Act.put,zP])
    refine zT 2 hS0 ?_
    (try simp only [Act.put,zP])
    have hsz:=HBL.out.size
    have had:Calls Tryz.prog 34 [.slice Al l.length cl].toArray wr.drew fun e w'=>∃ v,e=.returned v/\(w'.ownsRow wr.heap.size 3 1 v l.length (flatI l)/\Below wr.heap.size wr w') :=
     HCL.out.mono fun e w' ⟨v,h1,h2,_,h4⟩=>⟨v,h1,h2,bl_tt (Below.refl wr.heap.size wr).drew h4⟩
    refine wpG_one (i:=3) (by kernel_rfl) rfl (fun K hK=>?_)
    refine step_callL (by rfl) (.func 34) [.tmp 22] _ (by rfl) 34 _ fnCloneI (by rfl) _ (by rfl) _ had ?_
    rintro v8 wb ⟨ho,hbb⟩
    have hd1:=HRW.out.upd (some (.el j)) (r:=⟨v8,3,1,l.length,flatI l⟩) (Chg.of_below hbb) (own_mono ho hsz) (fun b hb=>.inr (ho.lt b hb).1)
    have HD1:=zh hd1
    have HBB:=zh hbb
    have hS2:(fun _:World=>True) wb/\(fun w':World=>w'.cell? ⟨b3,0,none⟩=some (.slice Av j cv)) wb:=⟨trivial,zb HBB.out x0⟩
    obtain ⟨A8,c8',rfl,-⟩:=row_slice ho
    refine hK.out _ _ hS2 ?_
    clear hK K hd1 ho hS0 hbb had
    (try simp only [Act.put,zP])
    have h1:=bII1'
    refine wpG_one (i:=4) (by kernel_rfl) rfl (fun K hK=>?_)
    (try simp only [zA,zB,zC])
    go_simp
    have HBC:=zh (show Below wr.heap.size wr (wb.alloc (.cells #[.slice A8 l.length c8'] 30)) from bl_al HBB.out _)
    have HD2:=zh (HD1.out.later (show Below wb.heap.size wb (wb.alloc (.cells #[.slice A8 l.length c8'] 30)) from bl_al (Below.refl _ _) _))
    have HN2:=zh (show (wb.alloc (.cells #[.slice A8 l.length c8'] 30)).heap[wb.heap.size]?=some (.cells #[.slice A8 l.length c8'] 30 (0,0)) from heap_alloc_new wb _)
    have hS3:(fun _:World=>True) (wb.alloc (.cells #[.slice A8 l.length c8'] 30))/\(fun w':World=>w'.cell? ⟨b3,0,none⟩=some (.slice Av j cv)) (wb.alloc (.cells #[.slice A8 l.length c8'] 30)):=⟨trivial,zb HBC.out x0⟩
    obtain ⟨wc,hwc⟩:∃ x,(wb.alloc (.cells #[.slice A8 l.length c8'] 30))=x:=⟨_,rfl⟩
    rw [hwc] at HBC HD2 HN2 hS3 ⊢
    refine hK.out _ _ hS3 ?_
    clear hK K hwc hS2 HD1
    (try simp only [Act.put,zP])
    have hszC:=(bl_tt HBL.out HBC.out).size
    have hrow:=HD2.out.row (some .all)
    rw [updR_other (by simp)] at hrow
    change wc.ownsRow w1.heap.size 30 1 (.slice Av j cv) j ((List.range j).map fc) at hrow
    refine wpG_one (i:=5) (by kernel_rfl) rfl (fun K hK=>?_)
    refine step_append_own (by rfl) (.tmp 21) (.tmp 24) 29 (by rfl) w1.heap.size 30 i0 _ 1 24 Tryz.underlying29 hi0 hq0 hq1 hq2 rfl (by decide) (.slice Av j cv) j ((List.range j).map fc) (by rfl) hrow ⟨wb.heap.size,0,none⟩ 1 1 [.slice A8 l.length c8'] (by rfl) rfl (fun q u hq=>by
     match q,hq with
     | 0,hq=>injection hq with hq; subst hq; exact zc HN2.out rfl) (fun u hu=>by simp at hu; subst hu; rfl) (by unfold maxLen; omega) (by omega) hszC (fun vd wd ho hg hob=>?_)
    have hd3:=HD2.out.upd (some .all) (r:=⟨vd,30,1,j+1,(List.range j).map fc++[.slice A8 l.length c8']⟩) ((Chg.row hg).mono fun b _ hb=>hb) ho (fun b hb=>by
     rcases hob with h5|h5
     ·exact .inl (h5▸hb)
     ·exact .inr (by rw [h5] at hb; injection hb with hb; omega))
    have HD3:=zh hd3
    have hav:∀ g,(Value.slice Av j cv).ownBlock=some g->(rowsC (.slice Av j cv) vi vo fc b3 s j (some .all)).v.ownBlock=some g:=fun g e=>e
    have hsep:∀ g,(Value.slice Av j cv).ownBlock=some g->g≠b3:=fun g e h=>HRW.out.sep (some .all) none g (by simp) e (by rw [h]; rfl)
    have hlo:∀ g,(Value.slice Av j cv).ownBlock=some g->w1.heap.size<=g:=fun g e=>(HRW.out.lt (some .all) g e).1
    have hchg:Chg (fun b=>(Value.slice Av j cv).ownBlock=some b) wc wd:=Chg.row hg
    have HBD:=zh (show Below w1.heap.size w1 wd from (bl_tt HBL.out HBC.out).grown hg hszC (fun g e=>hlo g e))
    have hbx3:=box_row (HD3.out.row none)
    have e0:wd.cell? ⟨b3,0,none⟩=some (.slice Av j cv):=zc hbx3 rfl
    have ez:wd.frozen? ⟨b3,0,none⟩=false:=zf hbx3
    have hab:a.block<w1.heap.size:=by
     obtain ⟨a',_,_,e',_,hc',_⟩:=HR1.out j hlt
     injection e' with e'
     subst e'
     have:=World.block_lt_of_cell? w1 _ hc'
     rwa [block_add] at this
    have hS4:(fun _:World=>True) wd/\(fun w':World=>w'.cell? ⟨b3,0,none⟩=some (.slice Av j cv)) wd:=⟨trivial,e0⟩
    have hd4:=HD3.out.set none (g:=b3) (o:=0) (by rfl) (by show 0<3; decide) vd
    have hd5:Rws (wd.setCell ⟨b3,0,none⟩ vd) w1.heap.size (rowsC vd vi vo (fun i=>if i=j then .slice A8 l.length c8' else fc i) b3 s (j+1)):=by
     rw [<-k_step (.slice Av j cv) vd vi vo fc b3 s j l (.slice A8 l.length c8') (by rw [List.getD_eq_getElem?_getD,List.getElem?_eq_getElem hlt]; exact Hl.out)]
     exact hd4
    have HD5:=zh hd5
    have hb3lt:=(HD3.out.lt none b3 rfl)
    have HBE:=zh (show Below w1.heap.size w1 (wd.setCell ⟨b3,0,none⟩ vd) from HBD.out.trans ((((Chg.refl (fun b=>b=b3) wd).setCell (p:=⟨b3,0,none⟩) (.inl rfl) vd)).below HBD.out.size fun b e=>by omega))
    obtain ⟨Ad,cd',rfl,-⟩:=row_slice ho
    refine hK.out _ _ hS4 ?_
    clear hK K hd3 hd4 hd5 ho hg hob hrow hS3 hchg hav hsep hlo hbx3
    (try simp only [Act.put,zP])
    refine wpG_one (i:=6) (by kernel_rfl) rfl (fun K hK=>?_)
    (try simp only [zA,zB,zC])
    go_simp
    refine hK.out _ _ hS4 ?_
    clear hK K
    (try simp only [Act.put,zP])
    refine wpG_past (i:=7) (by kernel_rfl) rfl (by kernel_rfl) (fun K hK=>?_)
    (try simp only [zA,zB,zC])
    go_simp
    refine hK.out _ _ trivial ?_
    clear hK K
    (try simp only [Act.put,zP])
    refine wpG_done (by kernel_rfl) ?_
    refine NoPanic.normal ?_
    go_wp2_with fail
    go_roundw
    case rel=>exact ⟨j+1,by omega,by go_num,HBE,_,_,HD5⟩
    case measure=>simp [intOf]; omega
   ·obtain rfl:j=s.cells.length:=by omega
    have hj1:¬ (s.cells.length:Int)<(s.cells.length:Int):=by omega
    have hbx:=box_row (HRW.out.row none)
    have x0:wr.cell? ⟨b3,0,none⟩=some vc:=zc hbx rfl
    have x1:wr.cell? ⟨b3,1,none⟩=some vi:=zc hbx rfl
    have x2:wr.cell? ⟨b3,2,none⟩=some vo:=zc hbx rfl
    obtain ⟨Av,cv,hvc,-⟩:=row_slice (HRW.out.row (some .all))
    change vc=.slice Av s.cells.length cv at hvc
    subst hvc
    rw [<-HVI.out] at x1
    rw [<-HVO.out] at x2
    have hk3:=blk_bl HK3.out HBL.out
    have q0:wr.cell? ⟨w.heap.size+1,0,none⟩=some (.slice none 0 0):=zc hk3 rfl
    have q1:wr.cell? ⟨w.heap.size+1,1,none⟩=some (.slice none 0 0):=zc hk3 rfl
    have q2:wr.cell? ⟨w.heap.size+1,2,none⟩=some (.slice none 0 0):=zc hk3 rfl
    have cf:∀ j,wr.frozen? ⟨w.heap.size+1,j,none⟩=false:=fun j=>zf hk3
    have HRE:=zh (rowsC_end HRW.out)
    have HK3E:=zh hk3
    clear hbx hk3 HRW
    go_wp2_with fail
    have hch:Chg (fun b=>b=w.heap.size+1) wr (((wr.setCell ⟨w.heap.size+1,0,none⟩ (.slice Av s.cells.length cv)).setCell ⟨w.heap.size+1,1,none⟩ (.slice B8 s.tin.length c8)).setCell ⟨w.heap.size+1,2,none⟩ (.slice B12 s.tout.length c12)) :=
     (((Chg.refl (fun b=>b=w.heap.size+1) wr).setCell (p:=⟨w.heap.size+1,0,none⟩) (.inl rfl) _).setCell (p:=⟨w.heap.size+1,1,none⟩) (.inl rfl) _).setCell (p:=⟨w.heap.size+1,2,none⟩) (.inl rfl) _
    have hh:=heap_setCell_same _ (w.heap.size+1) 2 _ _ (.slice B12 s.tout.length c12) (heap_setCell_same _ (w.heap.size+1) 1 _ _ (.slice B8 s.tin.length c8) (heap_setCell_same wr (w.heap.size+1) 0 _ _ (.slice Av s.cells.length cv) HK3E.out))
    obtain ⟨w9,hw9⟩:∃ x,((wr.setCell ⟨w.heap.size+1,0,none⟩ (.slice Av s.cells.length cv)).setCell ⟨w.heap.size+1,1,none⟩ (.slice B8 s.tin.length c8)).setCell ⟨w.heap.size+1,2,none⟩ (.slice B12 s.tout.length c12)=x:=⟨_,rfl⟩
    rw [hw9] at hch hh ⊢
    have t0:w9.cell? ⟨w.heap.size+1,0,none⟩=some (.slice Av s.cells.length cv):=zc hh (by simp)
    have t1:w9.cell? ⟨w.heap.size+1,1,none⟩=some (.slice B8 s.tin.length c8):=zc hh (by simp)
    have t2:w9.cell? ⟨w.heap.size+1,2,none⟩=some (.slice B12 s.tout.length c12):=zc hh (by simp)
    refine bodyPost_ret (v:=.agg #[.slice Av s.cells.length cv,.slice B8 s.tin.length c8,.slice B12 s.tout.length c12]) (by simp [results,Tryz.results19,go_sem,t0,t1,t2]) rfl ⟨_,rfl,?_,(bl_tt HB1.out HBL.out).trans (hch.below (bl_tt HB1.out HBL.out).size fun b e=>by omega)⟩
    have hrw:=HRE.out.chg hch (fun i b hb e=>by have:=(HRE.out.lt i b hb).1; omega)
    rw [<-HVI.out,<-HVO.out] at hrw
    exact ⟨_,_,_,_,rfl,hrw.mono (by omega),HI.out⟩
 ·right
  have HC0:=HC.out
  have hcc:(l5=true->l2=true)/\(l6=true->l2=true/\l5=true):=⟨HC0.1,fun h=>(HC0.2.1 h).2⟩
  refine ⟨f-1,?_,?_,?_⟩
  ·clear HC HC0 HRW HU ha HBL hcc
   subst hf
   revert hall
   revert l2 l5 l6 l7
   decide
  ·clear HC HC0 HRW HU ha HBL hf
   revert hall hcc
   revert l2 l5 l6 l7
   decide +kernel
  intro i hi
  have hcase:(i=2/\l2=false)\/(i=5/\l5=false/\l2=true)\/(i=6/\l6=false/\l2=true/\l5=true)\/(i=7/\l7=false):=by
   refine of_decide_eq_true ((List.all_eq_true (p:=fun i=>decide ((i=2/\l2=false)\/(i=5/\l5=false/\l2=true)\/(i=6/\l6=false/\l2=true/\l5=true)\/(i=7/\l7=false)))).1 ?_ i hi)
   clear HC HC0 HRW HU ha HBL hf hi
   revert hall hcc
   revert l2 l5 l6 l7
   decide +kernel
  clear hi hall
  subst ha hA
  rcases hcase with ⟨rfl,rfl⟩|⟨rfl,rfl,rfl⟩|⟨rfl,rfl,rfl,rfl⟩|⟨rfl,rfl⟩
  ·refine wpOp_step rfl (fun K' hK0=>?_)
   have hK:=zh hK0
   clear hK0
   have hsz:=HBL.out.size
   have had:Calls Tryz.prog 34 [.slice B s.tin.length d].toArray wr fun e w'=>∃ v,e=.returned v/\(w'.ownsRow wr.heap.size 3 1 v s.tin.length (flatI s.tin)/\Below wr.heap.size wr w') :=
    (CloneI_own s.tin B d Any wr (HR2.out.later HBL.out) HL.out.2.2.1).mono fun e w' ⟨v,h1,h2,_,h4⟩=>⟨v,h1,h2,h4⟩
   refine step_callL (by rfl) (.func 34) [.tmp 7] _ (by rfl) 34 _ fnCloneI (by rfl) _ (by rfl) _ had ?_
   rintro v' w' ⟨ho,hb⟩
   obtain rfl:l6=false:=by
    rcases l6 with _|_
    ·rfl
    ·exact absurd (hcc.2 rfl).1 (by decide)
   obtain rfl:l5=false:=by
    rcases l5 with _|_
    ·rfl
    ·exact absurd (hcc.1 rfl) (by decide)
   have hrw:=HRW.out.upd (some .inp) (r:=⟨v',3,1,s.tin.length,flatI s.tin⟩) (Chg.of_below hb) (own_mono ho hsz) (fun b hb=>.inr (ho.lt b hb).1)
   rw [k_2] at hrw
   exact hK.out _ _ ⟨true,false,false,l7,_,v12,v13,v3,b3,(by subst hf; simp<;>omega),rfl,(by simp only [Act.put,zP]),zh (bl_tt HBL.out hb),zh hrw,zh ⟨fun h=>(by cases h),fun h=>(by cases h),HC0.2.2⟩,HU⟩
  ·refine wpOp_step rfl (fun K' hK0=>?_)
   have hK:=zh hK0
   clear hK0
   have hsz:=HBL.out.size
   have had:Calls Tryz.prog 34 [.slice D s.tout.length e].toArray wr fun e w'=>∃ v,e=.returned v/\(w'.ownsRow wr.heap.size 3 1 v s.tout.length (flatI s.tout)/\Below wr.heap.size wr w') :=
    (CloneI_own s.tout D e Any wr (HR3.out.later HBL.out) HL.out.2.2.2).mono fun e w' ⟨v,h1,h2,_,h4⟩=>⟨v,h1,h2,h4⟩
   refine step_callL (by rfl) (.func 34) [.tmp 10] _ (by rfl) 34 _ fnCloneI (by rfl) _ (by rfl) _ had ?_
   rintro v' w' ⟨ho,hb⟩
   obtain rfl:l6=false:=by
    rcases l6 with _|_
    ·rfl
    ·exact absurd (hcc.2 rfl).2 (by decide)
   have hrw:=HRW.out.upd (some .out) (r:=⟨v',3,1,s.tout.length,flatI s.tout⟩) (Chg.of_below hb) (own_mono ho hsz) (fun b hb=>.inr (ho.lt b hb).1)
   rw [k_5] at hrw
   exact hK.out _ _ ⟨true,true,false,l7,v8,_,v13,v3,b3,(by subst hf; simp<;>omega),rfl,(by simp only [Act.put,zP]),zh (bl_tt HBL.out hb),zh hrw,zh ⟨fun _=>rfl,fun h=>(by cases h),HC0.2.2⟩,HU⟩
  ·refine wpOp_step rfl (fun K' hK0=>?_)
   have hK:=zh hK0
   clear hK0
   obtain ⟨B8,c8,e8,-,-⟩:=row_slice (HRW.out.row (some .inp))
   change v8=.slice B8 s.tin.length c8 at e8
   obtain ⟨B12,c12,e12,-,-⟩:=row_slice (HRW.out.row (some .out))
   change v12=.slice B12 s.tout.length c12 at e12
   subst e8 e12
   (try simp only [Act.put,zP])
   go_simp
   exact hK.out _ _ ⟨true,true,true,l7,_,_,_,v3,b3,(by subst hf; simp<;>omega),rfl,(by simp only [Act.put,zD,zE,zF]),HBL,HRW,zh ⟨fun _=>rfl,fun _=>⟨rfl,rfl,rfl⟩,HC0.2.2⟩,HU⟩
  ·refine wpOp_step rfl (fun K' hK0=>?_)
   have hK:=zh hK0
   clear hK0
   obtain rfl:=HU.out rfl
   (try simp only [Act.put,zP])
   go_simp
   have hsz:=HBL.out.size
   have hrw:=HRW.out.upd none (r:=⟨boxV wr.heap.size,32,3,1,[.slice none 0 0,.slice none 0 0,.slice none 0 0]⟩) (W':=wr.alloc (.cells #[.slice none 0 0,.slice none 0 0,.slice none 0 0] 32)) (Chg.of_below (bl_al (Below.refl _ _) _)) (own_box3 wr _ hsz _ _ _ _) (fun b hb=>.inr (by simp [Value.ownBlock] at hb; omega))
   rw [k_7] at hrw
   exact hK.out _ _ ⟨l2,l5,l6,true,v8,v12,v13,_,wr.heap.size,(by subst hf; simp<;>omega),rfl,(by simp only [Act.put,zD,zE,zF]),zh (bl_al HBL.out _),zh hrw,zh ⟨HC0.1,HC0.2.1,fun _=>rfl⟩,zh (fun h=>(by cases h))⟩
def Nz (o:Out):Prop:=o ≠ .err 0
theorem Nz.bind {o:Out} {f:RS->Out} (h:Nz o) (hf:∀ r,Nz (f r)):Nz (o.bind f):=by
 cases o with
 | gas=>exact fun e=>by cases e
 | err x=>exact h
 | ok r=>exact hf r
theorem Nz.ok (r:RS):Nz (.ok r):=fun e=>by cases e
theorem Nz.gas:Nz .gas:=fun e=>by cases e
theorem Nz.step (F:Int) (r:RS):Nz (stepO F r):=by
 unfold stepO
 split
 ·intro e; injection e with e; omega
 ·exact Nz.ok _
theorem Nz.store (r:RS) (R:Int×ST):Nz (storeO r R):=by
 unfold storeO
 split
 ·rename_i h; intro e; injection e with e; exact h e
 ·exact Nz.ok _
theorem Nz.val {t:T} {r:RS} {f:Int->RS->Out} (hf:∀ x,Nz (f x r)):Nz (valO t r f):=by
 unfold valO
 split
 ·rename_i h; intro e; injection e with e; exact h e
 ·exact hf _
theorem Nz.holds {F:Int} {t:T} {r:RS} {f:Bool->RS->Out} (hf:∀ b r,Nz (f b r)):Nz (holdsO F t r f):=(Nz.step F r).bind fun r=>Nz.val fun x=>hf _ _
theorem Nz.assert (F:Int) (t:T) (b:Bool) (r:RS):Nz (assertO F t b r):=Nz.holds fun b' r=>by
 split
 ·exact Nz.ok _
 ·intro e; injection e with e; omega
theorem Nz.body {f:T->RS->Out}:∀ (l:List T) (r:RS),(∀ t∈l,∀ r,Nz (f t r))->Nz (bodyO f l r)
 | [],r,_=>Nz.ok r
 | t::ts,r,h=>(h t (List.mem_cons_self ..) r).bind fun r=>Nz.body ts r fun u hu=>h u (List.mem_cons_of_mem _ hu)
theorem Nz.loop {F:Int} {f:T->RS->Out} {entry test:T} {l1 l2:List T} (h1:∀ t∈l1,∀ r,Nz (f t r)) (h2:∀ t∈l2,∀ r,Nz (f t r)):∀ (m:Nat) (r:RS),Nz (loopO F f entry test l1 l2 m r)
 | 0,_=>Nz.gas
 | m+1,r=>by
  rw [loopO]
  refine (Nz.body l1 r h1).bind fun r=>Nz.holds fun b r=>?_
  split
  ·exact Nz.ok _
  ·exact (Nz.body l2 r h2).bind fun r=>(Nz.assert F entry false r).bind fun r=>Nz.loop h1 h2 m r
theorem execO_nz {G:List PR->T->Prop} (hG:GC G) {prs:List PR} {F:Int}:∀ (g:Nat) (back:Bool) (t:T) (r:RS),G prs t->Nz (execO prs F g back t r)
 | 0,_,_,_,_=>Nz.gas
 | g+1,back,t,r,h=>by
  have hb:∀ back (b:T) r,(∀ u∈b.ks,G prs u)->Nz (bodyO (execO prs F g back) (blkL back b) r):=fun back b r hu=>Nz.body _ r fun u hm r=>execO_nz hG g back u r (hu u (blkL_mem hm))
  rw [execO]
  split
  ·rename_i hk
   obtain ⟨-,h1,h2⟩:=hG.two _ _ h (.inl hk)
   refine Nz.holds fun yes r=>Nz.bind ?_ fun r=>Nz.assert _ _ _ _
   split
   ·exact hb _ _ _ h1
   ·exact hb _ _ _ h2
  ·split
   ·rename_i hk
    obtain ⟨-,h1,h2⟩:=hG.two _ _ h (.inr hk)
    exact (Nz.assert _ _ _ _).bind fun r=>Nz.loop (fun u hm r=>execO_nz hG g back u r (h1 u (blkL_mem hm))) (fun u hm r=>execO_nz hG g back u r (h2 u (blkL_mem hm))) g r
   ·split
    ·rename_i hk
     obtain ⟨-,h1⟩:=hG.loc _ _ h hk
     exact (Nz.step _ _).bind fun r=>Nz.val fun x=>(Nz.store _ _).bind fun r=>(hb _ _ _ h1).bind fun r=>(Nz.step _ _).bind fun r=>Nz.val fun x=>Nz.store _ _
    ·split
     ·rename_i hk
      obtain ⟨-,h1⟩:=hG.stk _ _ h hk
      exact (Nz.step _ _).bind fun r=>(Nz.store _ _).bind fun r=>(hb _ _ _ h1).bind fun r=>(Nz.step _ _).bind fun r=>Nz.store _ _
     ·split
      ·rename_i hk
       obtain ⟨i,q,hi,hq,h1⟩:=hG.cal _ _ h hk
       rw [hi]
       dsimp only
       rw [getD_some hq]
       exact (Nz.step _ _).bind fun r=>(Nz.store _ _).bind fun r=>(hb _ _ _ h1).bind fun r=>(Nz.step _ _).bind fun r=>Nz.store _ _
      ·exact (Nz.step _ _).bind fun r=>Nz.store _ _
theorem runO_nz {G:List PR->T->Prop} (hG:GC G) {prs:List PR} {F:Int} {g:Nat} {back:Bool} {b:T} {r:RS} (h:∀ u∈b.ks,G prs u):Nz (runO prs F g back b r):=Nz.body _ r fun u hm r=>execO_nz hG g back u r (h u (blkL_mem hm))
theorem RI.chgK {C:RC} {lo hi:Nat} {W W':World} {r:RS} (hC:(C.plus lo hi).Ok) (h:RI (C.plus lo hi) W r) (hc:Chg (fun b=>lo<=b/\b<hi) W W') (hlo:C.w.heap.size<=lo):RI (C.plus lo hi) W' r:=by
 have hkb:∀ b,lo<=b/\b<hi->(C.plus lo hi).kb b:=fun b hb=>.inr hb
 refine ⟨h.ks.chg hc fun b _ hb=>⟨Nat.le_trans hlo hb.1,.inr (.inl (hkb b hb))⟩,hc.keep h.box fun hb=>hC.rb.2 (hkb _ hb),own_chg h.ent fun b hb=>?_,h.el,h.en,h.n,h.fb⟩
 exact hc.block b (h.ent.lt b hb).2 fun hb'=>hC.ev.2 b hb (hkb _ hb')
end Go.Proofs.YtgnfpcebmefhoaaGreat
