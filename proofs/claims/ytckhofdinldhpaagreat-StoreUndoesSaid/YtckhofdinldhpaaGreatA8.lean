/-
  Texts of the proof, put together without their remarks: ScK, Gf, Wfp, Cz, Ce, Ck.
-/
import Derived.Test.YtckhofdinldhpaaGreatA7
import Derived.Laws.Closers25b
import Derived.Deep.Cut
import Derived.Deep.RegionLaw
import Derived.Sort.CutIn
set_option linter.unusedSimpArgs false
set_option linter.unusedVariables false
set_option maxHeartbeats 8000000
set_option maxRecDepth 100000
namespace Go.Proofs.YtckhofdinldhpaaGreat
open Go Go.RowKit
section
variable {P:Program} {ops:Array Oper} {Q:Exit->Act->World->Prop} {md:Region.Mode} {S1 S2:World->Prop} {k:Nat}
theorem wpG_two {i j:Nat} {o o':Oper} {fuel:Nat} {listed:Array Bool} {a:Act} {w:World} (hr:Region.ready md ops listed=[i,j]) (ho:ops[i]?=some o) (ho':ops[j]?=some o')
  (h:∀ K':Act->World->Prop,Shut (∀ a w,S1 w/\S2 w->wpG P md ops Q S1 S2 k fuel (listed.setIfInBounds i true) a w->K' a w)->if Region.wanted o (yielded ops a.tmps)=true then Oper.wp P o a w K' Q else K' (a.put o.dst undef) w)
  (h':∀ K':Act->World->Prop,Shut (∀ a w,S1 w/\S2 w->wpG P md ops Q S1 S2 k fuel (listed.setIfInBounds j true) a w->K' a w)->if Region.wanted o' (yielded ops a.tmps)=true then Oper.wp P o' a w K' Q else K' (a.put o'.dst undef) w) :
  wpG P md ops Q S1 S2 k (fuel+1) listed a w:=by
 refine ⟨(fun h0=>by rw [hr] at h0; cases h0),fun x hx=>?_⟩
 rw [hr] at hx
 simp only [List.mem_cons,List.not_mem_nil,or_false] at hx
 rcases hx with rfl|rfl
 ·exact wpOp_step ho fun K' hK=>h K' fun a w hS hW=>hK a w ⟨⟨hS.1,fun _=>hS.2⟩,hW⟩
 ·exact wpOp_step ho' fun K' hK=>h' K' fun a w hS hW=>hK a w ⟨⟨hS.1,fun _=>hS.2⟩,hW⟩
end
def frsN (vs:List VD):Nat->Nat
 | 0=>0
 | j+1=>frsN vs j+(if h:j<vs.length then one1 (freshE (vs.take j) vs[j].s) else 0)
theorem frsN_succ {vs:List VD} {j:Nat} (h:j<vs.length):frsN vs (j+1)=frsN vs j+one1 (freshE (vs.take j) vs[j].s):=by simp [frsN,h]
theorem frsN_le (vs:List VD):∀ j,frsN vs j<=j
 | 0=>by simp [frsN]
 | j+1=>by
  have h:=frsN_le vs j
  rw [frsN]
  split
  ·have:=one1_le (freshE (vs.take j) vs[j].s); omega
  ·omega
def prcE (ps:List PR) (j:Nat) (r:PR):Nat:=one1 (if procE ps r.s<(j:Int) then 22 else 0)+frsN r.ps r.ps.length+cntV ps r.b r.ps
def prcN (ps:List PR):Nat->Nat
 | 0=>0
 | j+1=>prcN ps j+(if h:j<ps.length then prcE ps j ps[j] else 0)
theorem prcN_succ {ps:List PR} {j:Nat} (h:j<ps.length):prcN ps (j+1)=prcN ps j+prcE ps j ps[j]:=by simp [prcN,h]
def chkN (p:PG):Nat:=frsN p.vs p.vs.length+prcN p.prs p.prs.length+cntV p.prs p.m p.vs
theorem valid_body {t:T} (h:isBodyB t=true):dep t<=80/\size t<=2000:=by
 simp only [isBodyB,Bool.and_eq_true] at h
 have h1:=h.1
 rw [lim_eq] at h1
 split at h1
 ·assumption
 ·simp at h1
theorem valid_bounds {p:PG} (h:validB p=true):p.vs.length<=32/\p.prs.length<=64/\(∀ r∈p.prs,r.ps.length<=8/\dep r.b<=80/\size r.b<=2000)/\dep p.m<=80/\size p.m<=2000:=by
 simp only [validB,Bool.and_eq_true,decide_eq_true_eq,List.all_eq_true] at h
 refine ⟨h.1.1.1.1,h.1.1.1.2,fun r hr=>?_,valid_body h.2⟩
 have:=h.1.2 r hr
 simp only [procB,Bool.and_eq_true,decide_eq_true_eq] at this
 exact ⟨this.1.1.2,valid_body this.2⟩
theorem prcN_le (ps:List PR) (h:∀ r∈ps,r.ps.length<=8/\dep r.b<=80/\size r.b<=2000):∀ j,prcN ps j<=j*2009
 | 0=>by simp [prcN]
 | j+1=>by
  have h1:=prcN_le ps h j
  rw [prcN]
  split
  ·rename_i hj
   have h2:=h _ (List.getElem_mem hj)
   have h3:=one1_le (if procE ps ps[j].s<(j:Int) then 22 else 0)
   have h4:=frsN_le ps[j].ps ps[j].ps.length
   have h5:=cntV_le ps ps[j].b ps[j].ps
   unfold prcE
   omega
  ·omega
theorem RowV.take {w:World} {S:Nat->Prop} {A:Option Addr} {vs:List VD} (h:RowV w S A vs) (j:Nat):RowV w S A (vs.take j):=fun i hi=>by
 have h1:i<vs.length:=by simp at hi; omega
 obtain ⟨a,h2,h3,h4,h5⟩:=h i h1
 exact ⟨a,h2,h3,by simpa using h4,by simpa using h5⟩
theorem RowI.nil {w:World} {S:Nat->Prop} {A:Option Addr}:RowI w S A []:=fun i hi=>by simp at hi
theorem rowI_new1 (w:World) (j:Int) (hj:I64 j):RowI (w.alloc (.cells #[.int .i64 j] 3)) Any (some ⟨w.heap.size,0,none⟩) [j]:=fun i hi=>by
 simp only [List.length_singleton,Nat.lt_one_iff] at hi
 subst hi
 exact ⟨_,rfl,trivial,news_newN w 3 [.int .i64 j] 0 _ rfl,hj⟩
theorem report_cat (n0 fb N:Nat) (pv:Value) (pr er:Int) (q:List Int) (A:Option Addr) (c:Nat) (s:ByteArray) (S:Nat->Prop) (W:World) (hfs:FS W n0 fb N pv) (hq:RowI W S A q) (hql:q.length<=100000) (hN:N<=1000000) :
  Calls Tryz.prog 92 ([.int .i64 pr,.slice A q.length c,.string s,.int .i64 er].toArray ++ #[.pointer (some ⟨fb,0,none⟩)]) W (RepP W n0 fb pv (N+one1 er)):=by
 simpa using report_any n0 fb N pv pr er q A c s S W hfs hq hql hN
theorem VsI.chg2 {Rd:World->Prop} {n0 fb:Nat} {Wb wr wk w':World} {pv pv':Value} {N:Nat} (h:VsI Rd n0 fb Wb pv N wr pv') (hb:Below wr.heap.size wr wk) (hc:Chg (fun b=>b=fb\/pv'.ownBlock=some b) wk w'):Chg (fun b=>b=fb\/pv.ownBlock=some b) Wb w' :=
 (h.chg.trans (Chg.of_below hb)).trans2 hc fun b hlt hh=>by
  rcases hh with hh|hh
  ·exact .inl hh
  ·rcases h.own b hh with h1|h1
   ·exact .inr h1
   ·omega
theorem VsI.stepK {Rd:World->Prop} {n0 fb:Nat} {Wb wr w5 W6:World} {pv pv':Value} {N N':Nat} {e:Ending} (hk:∀ W W' pv N,Rd W->FS W n0 fb N pv->Chg (fun b=>b=fb\/pv.ownBlock=some b) W W'->Rd W') (h:VsI Rd n0 fb Wb pv N wr pv') (hb:Below wr.heap.size wr w5) (hp:RepP w5 n0 fb pv' N' e W6) :
  ∃ pv'',VsI Rd n0 fb Wb pv N' W6 pv'':=by
 obtain ⟨_,pv'',hfs,hob,hc⟩:=hp
 have hfs5:=h.fs.later hb
 have hz:=h.chg.size
 have hz5:=hb.size
 refine ⟨pv'',hk w5 W6 pv' N (hk wr w5 pv' N h.rd h.fs (Chg.of_below hb)) hfs5 hc,hfs,fun b hb'=>?_,h.chg2 hb hc⟩
 rcases hob b hb' with h1|h1
 ·exact h.own b h1
 ·exact .inr (by omega)
theorem fresh_take (vs:List VD) (j:Nat) (hj:j<=vs.length) (A:Option Addr) (c:Nat) (s:ByteArray) (S:Nat->Prop) (w:World) (hrow:RowV w S A vs) (hl:vs.length<=LV) :
  Calls Tryz.prog 93 #[.slice A j c,.string s] w fun e w'=>e=.returned (.int .i64 (freshE (vs.take j) s))/\Below w.heap.size w w':=by
 have h:=fresh_any (vs.take j) A c s S w (hrow.take j) (by simp; omega)
 rwa [show (vs.take j).length=j by simp; omega] at h
theorem fnFresh:IsFn Tryz.prog 93 Tryz.f93:=⟨Tryz.func93,by kernel_rfl,by kernel_rfl⟩
theorem fnSProc:IsFn Tryz.prog 94 Tryz.f94:=⟨Tryz.func94,by kernel_rfl,by kernel_rfl⟩
theorem fnChk1:IsFn Tryz.prog 92 Tryz.f92:=⟨Tryz.func92,by kernel_rfl,by kernel_rfl⟩
theorem SCheck_any (p:PG) (S:Nat->Prop) (v:Value) (W:World) (hv:PV W S p v):Calls Tryz.prog 53 #[v] W fun e w'=>∃ A c,e=.returned (.slice A (if validB p=true then chkN p else 0) c)/\Below W.heap.size W w':=by
 obtain ⟨NN,hNN⟩:∃ NN,(if validB p=true then chkN p else 0)=NN:=⟨_,rfl⟩
 rw [hNN]
 have HNN:=zh hNN
 clear hNN
 have hvv:=hv
 obtain ⟨A1,c1,A2,c2,A3,c3,rfl,hr⟩:=hv
 have hlv:=LV_int hr.lv
 have hlp:=LV_int hr.lp
 obtain ⟨L1,hL1⟩:∃ L,p.vs.length=L:=⟨_,rfl⟩
 obtain ⟨L2,hL2⟩:∃ L,p.prs.length=L:=⟨_,rfl⟩
 obtain ⟨k,hk⟩:∃ k,p.m.k=k:=⟨_,rfl⟩
 obtain ⟨n,hn⟩:∃ n,p.m.n=n:=⟨_,rfl⟩
 obtain ⟨s,hs⟩:∃ s,p.m.s=s:=⟨_,rfl⟩
 obtain ⟨l3,hl3⟩:∃ l,p.m.ks.length=l:=⟨_,rfl⟩
 rw [hL1,hL2,hk,hn,hs,hl3]
 rw [hL1,hL2,hk,hn,hs,hl3] at hvv
 rw [hL1] at hlv
 rw [hL2] at hlp
 have HV0:=zh hvv
 have HR:=zh hr
 have HL1:=zh hL1
 have HL2:=zh hL2
 have HMM:=zh (show p.m.k=k/\p.m.n=n/\p.m.s=s/\p.m.ks.length=l3 from ⟨hk,hn,hs,hl3⟩)
 clear hvv hr hL1 hL2 hk hn hs hl3
 go_enter Tryz.func53,Tryz.ntmps53
 go_wp2_with fail
 refine (Valid_any p S _ _ (HV0.out.later (bl_al (Below.refl _ _) _))).mono ?_
 rintro e w1 ⟨rfl,bw1⟩
 have b1:Below W.heap.size W w1:=bl_tt (bl_al (Below.refl _ _) _) bw1
 have hp1:=(bw1.block W.heap.size (by simp)).trans (heap_alloc_new W (.cells #[.slice A1 L1 c1,.slice A2 L2 c2,.int .u8 k,.int .i64 n,.string s,.slice A3 l3 c3] 35))
 have hz1:=bw1.size
 simp only [World.size_alloc] at hz1
 have HB1:=zh b1
 have HP1:=zh hp1
 have HZ1:=zh hz1
 obtain ⟨a0,a1,a2,a3,a4,a5⟩:=box6 hp1
 clear bw1 b1 hp1
 cases hvb:validB p
 ·have hN0:NN=0:=by rw [<-HNN.out,hvb]; rfl
  subst hN0
  go_wp2_with fail
  go_ret
  exact ⟨none,0,rfl,HB1.out⟩
 ·have HVB:=zh (valid_bounds hvb)
  have HNN2:=zh (show chkN p=NN by rw [<-HNN.out,hvb]; rfl)
  clear hvb HNN
  go_upto_region 5 with fail
  obtain ⟨fb,hfb⟩:∃ fb,w1.heap.size=fb:=⟨_,rfl⟩
  rw [hfb]
  have hzf:W.heap.size+1<=fb:=by omega
  have hbw:Below W.heap.size W ((w1.alloc (.cells #[.slice none 0 0] 106)).alloc (.cells #[.func (.func 92) #[] #[.pointer (some ⟨fb,0,none⟩)]] 155)):=bl_al (bl_al HB1.out _) _
  have hbF:=blk_al (heap_alloc_new w1 (.cells #[.slice none 0 0] 106)) (.cells #[.func (.func 92) #[] #[.pointer (some ⟨fb,0,none⟩)]] 155)
  have hbR:=heap_alloc_new (w1.alloc (.cells #[.slice none 0 0] 106)) (.cells #[.func (.func 92) #[] #[.pointer (some ⟨fb,0,none⟩)]] 155)
  simp only [World.size_alloc] at hbR
  rw [hfb] at hbF hbR
  have hbP:=blk_al (blk_al HP1.out (.cells #[.slice none 0 0] 106)) (.cells #[.func (.func 92) #[] #[.pointer (some ⟨fb,0,none⟩)]] 155)
  obtain ⟨Wb,hWb⟩:∃ Wb,(w1.alloc (.cells #[.slice none 0 0] 106)).alloc (.cells #[.func (.func 92) #[] #[.pointer (some ⟨fb,0,none⟩)]] 155)=Wb:=⟨_,rfl⟩
  rw [hWb] at hbw hbF hbR hbP ⊢
  have HZB:=zh (show Wb.heap.size=fb+2 by rw [<-hWb,<-hfb]; simp)
  have HBW:=zh hbw
  have HZF:=zh hzf
  clear hWb hfb a0 a1 a2 a3 a4 a5 HP1 HZ1 HB1 hz1
  have hrep:=Chk3_rep fb fb (fb+1) W.heap.size A1 L1 c1 A2 L2 c2 k n s A3 l3 c3
  obtain ⟨Rd,hRd⟩:∃ Rd:World->Prop,(fun W':World=>W'.heap[fb+1]?=some (.cells #[.func (.func 92) #[] #[.pointer (some ⟨fb,0,none⟩)]] 155 (0,0))/\W'.heap[W.heap.size]?=some (.cells #[.slice A1 L1 c1,.slice A2 L2 c2,.int .u8 k,.int .i64 n,.string s,.slice A3 l3 c3] 35 (0,0)))=Rd:=⟨_,rfl⟩
  rw [hRd] at hrep
  have HREP:=zh hrep
  have HRD:=zh (show ∀ w':World,Rd w'->w'.heap[fb+1]?=some (.cells #[.func (.func 92) #[] #[.pointer (some ⟨fb,0,none⟩)]] 155 (0,0))/\w'.heap[W.heap.size]?=some (.cells #[.slice A1 L1 c1,.slice A2 L2 c2,.int .u8 k,.int .i64 n,.string s,.slice A3 l3 c3] 35 (0,0)) from fun w' h=>by rw [<-hRd] at h; exact h)
  have HCC:=zh (show ∀ w':World,Rd w'->(fun w':World=>(w'.cell? ⟨W.heap.size,0,none⟩=some (.slice A1 L1 c1)/\w'.cell? ⟨W.heap.size,1,none⟩=some (.slice A2 L2 c2)/\w'.cell? ⟨W.heap.size,2,none⟩=some (.int .u8 k)/\w'.cell? ⟨W.heap.size,3,none⟩=some (.int .i64 n)/\w'.cell? ⟨W.heap.size,4,none⟩=some (.string s)/\w'.cell? ⟨W.heap.size,5,none⟩=some (.slice A3 l3 c3))/\(w'.cell? ⟨fb+1,0,none⟩=some (.func (.func 92) #[] #[.pointer (some ⟨fb,0,none⟩)]))) w' from fun w' h=>⟨box6 (HRD.out w' h).2,zc (HRD.out w' h).1 rfl⟩)
  have HI0:=zh (show VsI Rd fb fb Wb (.slice none 0 0) 0 Wb (.slice none 0 0) from ⟨by rw [<-hRd]; exact ⟨hbR,hbP⟩,⟨hbF,⟨[],World.ownsRow_nil _ _ _ _⟩,Nat.le_refl _,by simp [Value.ownBlock]⟩,fun b hb=>.inl hb,Chg.refl _ _⟩)
  have HKB:=zh (show ∀ w':World,Chg (fun b=>b=fb\/(Value.slice none 0 0).ownBlock=some b) Wb w'->∀ b,S b->b<W.heap.size->w'.heap[b]?=W.heap[b]? from fun w' h b hb hlt=>(h.block b (by have:=HZB.out; omega) (fun hh=>by rcases hh with hh|hh; omega; simp [Value.ownBlock] at hh)).trans (HBW.out.block b hlt))
  have HD:=zh (show ∀ w':World,Chg (fun b=>b=fb\/(Value.slice none 0 0).ownBlock=some b) Wb w'->PV w' (fun b=>S b/\b<W.heap.size) p _/\PgR w' (fun b=>S b/\b<W.heap.size) p A1 c1 A2 c2 A3 c3 from fun w' h=>⟨HV0.out.keep (fun b hb hlt=>⟨hb,hlt⟩) (HKB.out w' h),HR.out.keep (fun b hb hlt=>⟨hb,hlt⟩) (HKB.out w' h)⟩)
  have hl32:L1<=32:=by have:=HVB.out.1; rw [HL1.out] at this; exact this
  have hl64:L2<=64:=by have:=HVB.out.2.1; rw [HL2.out] at this; exact this
  have hlc1:L1<=c1:=by have:=HR.out.lvc; rw [HL1.out] at this; exact this
  have hlc2:L2<=c2:=by have:=HR.out.lpc; rw [HL2.out] at this; exact this
  obtain ⟨⟨a0,a1,a2,a3,a4,a5⟩,ar⟩:=HCC.out _ HI0.out.rd
  clear hrep hRd hbR hbP hbF hbw
  go_wp2_with fail
  go_loopw [18] (fun i wr=>∃ (j:Nat) (pv':Value),j<=L1/\i=.int .i64 j/\VsI Rd fb fb Wb (.slice none 0 0) (frsN p.vs j) wr pv') (fun i _=>L1-(intOf i).toNat)
  case atStart=>exact ⟨0,_,Nat.zero_le _,rfl,HI0.out⟩
  case round =>
   obtain ⟨j,pv',hj,rfl,hinv⟩:=hrel
   have HINV:=zh hinv
   clear HI0 a0 a1 a2 a3 a4 a5 ar
   by_cases hlt:j<L1
   ·have hltp:j<p.vs.length:=by rw [HL1.out]; exact hlt
    obtain ⟨a,u,rfl,hsa,Hu,⟨q0,q1,q2⟩,hfu⟩:=(HD.out wr hinv.chg).2.vars.nd hltp
    have hjc:(j:Int)<=(c1:Int):=by omega
    have hj0:(0:Int)<=(j:Int):=by omega
    obtain ⟨⟨a0,a1,a2,a3,a4,a5⟩,ar⟩:=HCC.out _ hinv.rd
    clear hinv hsa hfu
    go_upto_region 8 with fail
    have hbk:Below wr.heap.size wr (wr.alloc (.cells #[.string u.s,.int .u8 u.k,.int .i64 u.n] 83)):=bl_al (Below.refl _ _) _
    have hbU:=heap_alloc_new wr (.cells #[.string u.s,.int .u8 u.k,.int .i64 u.n] 83)
    obtain ⟨wk,hwk⟩:∃ wk,wr.alloc (.cells #[.string u.s,.int .u8 u.k,.int .i64 u.n] 83)=wk:=⟨_,rfl⟩
    rw [hwk] at hbk hbU ⊢
    have HZK:=zh (show wk.heap.size=wr.heap.size+1 by rw [<-hwk]; simp)
    have HBK:=zh hbk
    have HBU:=zh hbU
    clear hwk hbk hbU a0 a1 a2 a3 a4 a5 ar q0 q1 q2
    have HRW:=zh (show ∀ w':World,Below wk.heap.size wk w'->Rd w' from fun w' h=>HREP.out.keep _ _ _ _ HINV.out.rd HINV.out.fs (Chg.of_below (bl_tt HBK.out h)))
    have HCK:=zh (show ∀ w':World,Below wk.heap.size wk w'->(fun w':World=>((w'.cell? ⟨W.heap.size,0,none⟩=some (.slice (some a) L1 c1)/\w'.cell? ⟨W.heap.size,1,none⟩=some (.slice A2 L2 c2)/\w'.cell? ⟨W.heap.size,2,none⟩=some (.int .u8 k)/\w'.cell? ⟨W.heap.size,3,none⟩=some (.int .i64 n)/\w'.cell? ⟨W.heap.size,4,none⟩=some (.string s)/\w'.cell? ⟨W.heap.size,5,none⟩=some (.slice A3 l3 c3))/\(w'.cell? ⟨fb+1,0,none⟩=some (.func (.func 92) #[] #[.pointer (some ⟨fb,0,none⟩)])))/\(w'.cell? ⟨wr.heap.size,0,none⟩=some (.string u.s)/\w'.cell? ⟨wr.heap.size,1,none⟩=some (.int .u8 u.k)/\w'.cell? ⟨wr.heap.size,2,none⟩=some (.int .i64 u.n))) w'/\(fun _:World=>True) w' from fun w' h=>⟨⟨HCC.out _ (HRW.out w' h),box3 ((h.block _ (by have:=HZK.out; omega)).trans HBU.out)⟩,trivial⟩)
    have hdr:=(Below.refl wk.heap.size wk).drew
    have hSS:=HCK.out _ hdr
    have hbI:=buildI1
    have hN:=frsN_le p.vs j
    refine wp_region_noPanic ?_
    refine wp_region_G (fun w':World=>((w'.cell? ⟨W.heap.size,0,none⟩=some (.slice (some a) L1 c1)/\w'.cell? ⟨W.heap.size,1,none⟩=some (.slice A2 L2 c2)/\w'.cell? ⟨W.heap.size,2,none⟩=some (.int .u8 k)/\w'.cell? ⟨W.heap.size,3,none⟩=some (.int .i64 n)/\w'.cell? ⟨W.heap.size,4,none⟩=some (.string s)/\w'.cell? ⟨W.heap.size,5,none⟩=some (.slice A3 l3 c3))/\(w'.cell? ⟨fb+1,0,none⟩=some (.func (.func 92) #[] #[.pointer (some ⟨fb,0,none⟩)])))/\(w'.cell? ⟨wr.heap.size,0,none⟩=some (.string u.s)/\w'.cell? ⟨wr.heap.size,1,none⟩=some (.int .u8 u.k)/\w'.cell? ⟨wr.heap.size,2,none⟩=some (.int .i64 u.n))) (fun _:World=>True) 40 (by kernel_rfl) ?_
    refine zT 0 hSS ?_
    (try simp only [Act.put,zP])
    refine zT 1 hSS ?_
    (try simp only [Act.put,zP])
    refine zT 3 hSS ?_
    (try simp only [Act.put,zP])
    refine zT 4 hSS ?_
    (try simp only [Act.put,zP])
    refine zT 5 hSS ?_
    (try simp only [Act.put,zP])
    refine zT 6 hSS ?_
    (try simp only [Act.put,zP])
    refine zT 7 hSS ?_
    (try simp only [Act.put,zP])
    refine zT 8 hSS ?_
    (try simp only [Act.put,zP])
    refine zT 9 hSS ?_
    (try simp only [Act.put,zP])
    refine zT 10 hSS ?_
    (try simp only [Act.put,zP])
    refine wpG_two (i:=2) (j:=11) (by kernel_rfl) rfl rfl (fun K hK=>?_) (fun K hK=>?_)
    ·(try simp only [zA,zB,zC])
     go_simp
     have b2:=bl_al hdr (.cells #[.int .i64 (j:Int)] 3)
     refine hK.out _ _ (HCK.out _ b2) ?_
     clear hK K
     (try simp only [Act.put,zP])
     refine wpG_one (i:=11) (by kernel_rfl) rfl (fun K hK=>?_)
     refine step_callL (by rfl) (.func 93) [.tmp 31,.tmp 33] _ (by rfl) 93 _ fnFresh (by rfl) _ (by rfl) _ (isW_of (fresh_take p.vs j (by omega) (some a) c1 u.s _ _ (HD.out _ (HINV.out.chg.trans (Chg.of_below (bl_tt HBK.out b2)))).2.vars HR.out.lv)) ?_
     rintro vq w3 ⟨rfl,bw3⟩
     have b3:=bl_tt b2 bw3
     refine hK.out _ _ (HCK.out _ b3) ?_
     clear hK K
     (try simp only [Act.put,zP])
     refine wpG_one (i:=12) (by kernel_rfl) rfl (fun K hK=>?_)
     refine step_callC (by rfl) (.tmp 23) [.const (.int .i64 (-1)),.tmp 25,.tmp 27,.tmp 34] _ (by rfl) 92 _ fnChk1 #[.pointer (some ⟨fb,0,none⟩)] (by rfl) _ (by rfl) _ (repV_of (report_cat fb fb _ pv' (-1) _ [(j:Int)] (some ⟨wk.heap.size,0,none⟩) 1 u.s _ _ (HINV.out.fs.later (bl_tt HBK.out b3)) (((rowI_new1 _ (j:Int) ⟨by omega,by omega⟩).later (Below.refl _ _).drew).later bw3) (by simp) (by omega))) ?_
     rintro vq W6 hp
     obtain ⟨pv6,hi6⟩:=HINV.out.step HREP.out (bl_tt HBK.out b3) hp
     have hi7:VsI Rd fb fb Wb (.slice none 0 0) (frsN p.vs (j+1)) W6 pv6:=by rw [frsN_succ hltp,Hu.out]; exact hi6
     have hSS6:(fun w':World=>((w'.cell? ⟨W.heap.size,0,none⟩=some (.slice (some a) L1 c1)/\w'.cell? ⟨W.heap.size,1,none⟩=some (.slice A2 L2 c2)/\w'.cell? ⟨W.heap.size,2,none⟩=some (.int .u8 k)/\w'.cell? ⟨W.heap.size,3,none⟩=some (.int .i64 n)/\w'.cell? ⟨W.heap.size,4,none⟩=some (.string s)/\w'.cell? ⟨W.heap.size,5,none⟩=some (.slice A3 l3 c3))/\(w'.cell? ⟨fb+1,0,none⟩=some (.func (.func 92) #[] #[.pointer (some ⟨fb,0,none⟩)])))/\(w'.cell? ⟨wr.heap.size,0,none⟩=some (.string u.s)/\w'.cell? ⟨wr.heap.size,1,none⟩=some (.int .u8 u.k)/\w'.cell? ⟨wr.heap.size,2,none⟩=some (.int .i64 u.n))) W6/\(fun _:World=>True) W6:=⟨⟨HCC.out _ hi7.rd,box3 ((hp.2.elim fun _ h=>h.2.2.block _ (by have:=(bl_tt HBK.out b3).size; have:=(b3).size; have:=HZK.out; omega) (fun hh=>by have hl:=HINV.out.fs.lt; rcases hh with hh|hh; (have:=hl.1; omega); (have:=(hl.2 _ hh).2; omega))).trans (((b3).block _ (by have:=HZK.out; omega)).trans HBU.out))⟩,trivial⟩
     refine hK.out _ _ hSS6 ?_
     clear hK K
     (try simp only [Act.put,zP])
     refine wpG_done (by kernel_rfl) ?_
     refine NoPanic.normal ?_
     have HI7:=zh hi7
     clear hi7 hi6 hp hSS6
     go_wp2_with fail
     go_roundw
     case rel=>exact ⟨j+1,_,by omega,by go_num,HI7.out⟩
     case measure=>simp [intOf]; omega
    ·skip
     refine step_callL (by rfl) (.func 93) [.tmp 31,.tmp 33] _ (by rfl) 93 _ fnFresh (by rfl) _ (by rfl) _ (isW_of (fresh_take p.vs j (by omega) (some a) c1 u.s _ _ (HD.out _ (HINV.out.chg.trans (Chg.of_below (bl_tt HBK.out hdr)))).2.vars HR.out.lv)) ?_
     rintro vq w2 ⟨rfl,bw2⟩
     have b2:=bl_tt hdr bw2
     refine hK.out _ _ (HCK.out _ b2) ?_
     clear hK K
     (try simp only [Act.put,zP])
     refine wpG_one (i:=2) (by kernel_rfl) rfl (fun K hK=>?_)
     (try simp only [zA,zB,zC])
     go_simp
     have b3:=bl_al b2 (.cells #[.int .i64 (j:Int)] 3)
     refine hK.out _ _ (HCK.out _ b3) ?_
     clear hK K
     (try simp only [Act.put,zP])
     refine wpG_one (i:=12) (by kernel_rfl) rfl (fun K hK=>?_)
     refine step_callC (by rfl) (.tmp 23) [.const (.int .i64 (-1)),.tmp 25,.tmp 27,.tmp 34] _ (by rfl) 92 _ fnChk1 #[.pointer (some ⟨fb,0,none⟩)] (by rfl) _ (by rfl) _ (repV_of (report_cat fb fb _ pv' (-1) _ [(j:Int)] (some ⟨w2.heap.size,0,none⟩) 1 u.s _ _ (HINV.out.fs.later (bl_tt HBK.out b3)) (rowI_new1 _ (j:Int) ⟨by omega,by omega⟩) (by simp) (by omega))) ?_
     rintro vq W6 hp
     obtain ⟨pv6,hi6⟩:=HINV.out.step HREP.out (bl_tt HBK.out b3) hp
     have hi7:VsI Rd fb fb Wb (.slice none 0 0) (frsN p.vs (j+1)) W6 pv6:=by rw [frsN_succ hltp,Hu.out]; exact hi6
     have hSS6:(fun w':World=>((w'.cell? ⟨W.heap.size,0,none⟩=some (.slice (some a) L1 c1)/\w'.cell? ⟨W.heap.size,1,none⟩=some (.slice A2 L2 c2)/\w'.cell? ⟨W.heap.size,2,none⟩=some (.int .u8 k)/\w'.cell? ⟨W.heap.size,3,none⟩=some (.int .i64 n)/\w'.cell? ⟨W.heap.size,4,none⟩=some (.string s)/\w'.cell? ⟨W.heap.size,5,none⟩=some (.slice A3 l3 c3))/\(w'.cell? ⟨fb+1,0,none⟩=some (.func (.func 92) #[] #[.pointer (some ⟨fb,0,none⟩)])))/\(w'.cell? ⟨wr.heap.size,0,none⟩=some (.string u.s)/\w'.cell? ⟨wr.heap.size,1,none⟩=some (.int .u8 u.k)/\w'.cell? ⟨wr.heap.size,2,none⟩=some (.int .i64 u.n))) W6/\(fun _:World=>True) W6:=⟨⟨HCC.out _ hi7.rd,box3 ((hp.2.elim fun _ h=>h.2.2.block _ (by have:=(bl_tt HBK.out b3).size; have:=(b3).size; have:=HZK.out; omega) (fun hh=>by have hl:=HINV.out.fs.lt; rcases hh with hh|hh; (have:=hl.1; omega); (have:=(hl.2 _ hh).2; omega))).trans (((b3).block _ (by have:=HZK.out; omega)).trans HBU.out))⟩,trivial⟩
     refine hK.out _ _ hSS6 ?_
     clear hK K
     (try simp only [Act.put,zP])
     refine wpG_done (by kernel_rfl) ?_
     refine NoPanic.normal ?_
     have HI7:=zh hi7
     clear hi7 hi6 hp hSS6
     go_wp2_with fail
     go_roundw
     case rel=>exact ⟨j+1,_,by omega,by go_num,HI7.out⟩
     case measure=>simp [intOf]; omega
   ·obtain rfl:L1=j:=by omega
    have HF1:=zh (show VsI Rd fb fb Wb (.slice none 0 0) (frsN p.vs p.vs.length) wr pv' by rw [HL1.out]; exact HINV.out)
    obtain ⟨⟨a0,a1,a2,a3,a4,a5⟩,ar⟩:=HCC.out _ hinv.rd
    obtain ⟨F1,hF1⟩:∃ F,frsN p.vs p.vs.length=F:=⟨_,rfl⟩
    have hF32:F1<=32:=by have:=frsN_le p.vs p.vs.length; have:=HVB.out.1; omega
    have HFE:=zh hF1
    rw [hF1] at HF1
    clear hinv HINV hF1 hj hlt
    go_wp2_with fail
    go_loopw [40] (fun i wr=>∃ (j:Nat) (pv':Value),j<=L2/\i=.int .i64 j/\VsI Rd fb fb Wb (.slice none 0 0) (F1+prcN p.prs j) wr pv') (fun i _=>L2-(intOf i).toNat)
    case atStart=>exact ⟨0,_,Nat.zero_le _,rfl,HF1.out⟩
    case round =>
     clear HF1 a0 a1 a2 a3 a4 a5 ar
     obtain ⟨j,pv',hj,rfl,hinv⟩:=hrel
     obtain ⟨w0,rfl⟩:∃ w0,w0=wr:=⟨_,rfl⟩
     have HINV:=zh hinv
     by_cases hlt:j<L2
     ·have hltp:j<p.prs.length:=by rw [HL2.out]; exact hlt
      obtain ⟨a,r,P1,d1,P2,d2,rfl,hsa,Hr,⟨q0,q1,q2,q3,q4,q5⟩,hpr⟩:=(HD.out w0 hinv.chg).2.procs.nd hltp
      obtain ⟨⟨a0,a1,a2,a3,a4,a5⟩,ar⟩:=HCC.out _ hinv.rd
      have HPR:=zh hpr
      clear hinv hsa hpr
      go_upto_region 13 with fail
      have hbk:Below w0.heap.size w0 ((w0.alloc (.cells #[.int .i64 (j:Int)] 3)).alloc (.cells #[.string r.s,.slice P1 r.ps.length d1,.int .u8 r.b.k,.int .i64 r.b.n,.string r.b.s,.slice P2 r.b.ks.length d2] 103)):=bl_al (bl_al (Below.refl _ _) _) _
      have hbI1:=blk_al (heap_alloc_new w0 (.cells #[.int .i64 (j:Int)] 3)) (.cells #[.string r.s,.slice P1 r.ps.length d1,.int .u8 r.b.k,.int .i64 r.b.n,.string r.b.s,.slice P2 r.b.ks.length d2] 103)
      have hbR1:=heap_alloc_new (w0.alloc (.cells #[.int .i64 (j:Int)] 3)) (.cells #[.string r.s,.slice P1 r.ps.length d1,.int .u8 r.b.k,.int .i64 r.b.n,.string r.b.s,.slice P2 r.b.ks.length d2] 103)
      simp only [World.size_alloc] at hbR1
      obtain ⟨wk,hwk⟩:∃ wk,(w0.alloc (.cells #[.int .i64 (j:Int)] 3)).alloc (.cells #[.string r.s,.slice P1 r.ps.length d1,.int .u8 r.b.k,.int .i64 r.b.n,.string r.b.s,.slice P2 r.b.ks.length d2] 103)=wk:=⟨_,rfl⟩
      rw [hwk] at hbk hbI1 hbR1 ⊢
      have HZK:=zh (show wk.heap.size=w0.heap.size+2 by rw [<-hwk]; simp)
      have HBK:=zh hbk
      obtain ⟨Rd2,hRd2⟩:∃ Rd2:World->Prop,(fun W':World=>(Rd W'/\W'.heap[w0.heap.size]?=some (.cells #[.int .i64 (j:Int)] 3 (0,0)))/\W'.heap[w0.heap.size+1]?=some (.cells #[.string r.s,.slice P1 r.ps.length d1,.int .u8 r.b.k,.int .i64 r.b.n,.string r.b.s,.slice P2 r.b.ks.length d2] 103 (0,0)))=Rd2:=⟨_,rfl⟩
      have HRD2:=zh (show ∀ w':World,Rd2 w'->(fun W':World=>(Rd W'/\W'.heap[w0.heap.size]?=some (.cells #[.int .i64 (j:Int)] 3 (0,0)))/\W'.heap[w0.heap.size+1]?=some (.cells #[.string r.s,.slice P1 r.ps.length d1,.int .u8 r.b.k,.int .i64 r.b.n,.string r.b.s,.slice P2 r.b.ks.length d2] 103 (0,0))) w' from fun w' h=>by rw [<-hRd2] at h; exact h)
      have HK2:=zh (show ∀ (W W':World) (pv:Value) (N:Nat),Rd2 W->FS W fb fb N pv->Chg (fun b=>b=fb\/pv.ownBlock=some b) W W'->Rd2 W' from fun W W' pv N h hfs hc=>by rw [<-hRd2] at h ⊢; exact ⟨⟨HREP.out.keep _ _ _ _ h.1.1 hfs hc,hc.keep h.1.2 (hfs.other h.1.2 (by decide) (by decide))⟩,hc.keep h.2 (hfs.other h.2 (by decide) (by decide))⟩)
      have HI2:=zh (show VsI Rd2 fb fb wk pv' (F1+prcN p.prs j) wk pv' from ⟨by rw [<-hRd2]; exact ⟨⟨HREP.out.keep _ _ _ _ HINV.out.rd HINV.out.fs (Chg.of_below hbk),hbI1⟩,hbR1⟩,HINV.out.fs.later hbk,fun b hb=>.inl hb,Chg.refl _ _⟩)
      have HC2:=zh (show ∀ w':World,Rd2 w'->(fun w':World=>((w'.cell? ⟨W.heap.size,0,none⟩=some (.slice A1 L1 c1)/\w'.cell? ⟨W.heap.size,1,none⟩=some (.slice (some a) L2 c2)/\w'.cell? ⟨W.heap.size,2,none⟩=some (.int .u8 k)/\w'.cell? ⟨W.heap.size,3,none⟩=some (.int .i64 n)/\w'.cell? ⟨W.heap.size,4,none⟩=some (.string s)/\w'.cell? ⟨W.heap.size,5,none⟩=some (.slice A3 l3 c3))/\(w'.cell? ⟨fb+1,0,none⟩=some (.func (.func 92) #[] #[.pointer (some ⟨fb,0,none⟩)])))/\(w'.cell? ⟨w0.heap.size,0,none⟩=some (.int .i64 (j:Int)))/\(w'.cell? ⟨w0.heap.size+1,0,none⟩=some (.string r.s)/\w'.cell? ⟨w0.heap.size+1,1,none⟩=some (.slice P1 r.ps.length d1)/\w'.cell? ⟨w0.heap.size+1,2,none⟩=some (.int .u8 r.b.k)/\w'.cell? ⟨w0.heap.size+1,3,none⟩=some (.int .i64 r.b.n)/\w'.cell? ⟨w0.heap.size+1,4,none⟩=some (.string r.b.s)/\w'.cell? ⟨w0.heap.size+1,5,none⟩=some (.slice P2 r.b.ks.length d2))) w' from fun w' h=>⟨HCC.out w' (HRD2.out w' h).1.1,zc (HRD2.out w' h).1.2 rfl,box6 (HRD2.out w' h).2⟩)
      have HD2:=zh (show ∀ w':World,Chg (fun b=>b=fb\/pv'.ownBlock=some b) wk w'->PV w' (fun b=>S b/\b<W.heap.size) p _/\PrR w' (fun b=>S b/\b<W.heap.size) r P1 d1 P2 d2 from fun w' h=>⟨(HD.out w' (HINV.out.chg2 HBK.out h)).1,HPR.out.keep (fun b hb _=>hb) fun b hb _=>(HKB.out w' (HINV.out.chg2 HBK.out h) b hb.1 hb.2).trans (HKB.out w0 HINV.out.chg b hb.1 hb.2).symm⟩)
      have HCK:=zh (show ∀ w':World,Below wk.heap.size wk w'->(fun w':World=>((w'.cell? ⟨W.heap.size,0,none⟩=some (.slice A1 L1 c1)/\w'.cell? ⟨W.heap.size,1,none⟩=some (.slice (some a) L2 c2)/\w'.cell? ⟨W.heap.size,2,none⟩=some (.int .u8 k)/\w'.cell? ⟨W.heap.size,3,none⟩=some (.int .i64 n)/\w'.cell? ⟨W.heap.size,4,none⟩=some (.string s)/\w'.cell? ⟨W.heap.size,5,none⟩=some (.slice A3 l3 c3))/\(w'.cell? ⟨fb+1,0,none⟩=some (.func (.func 92) #[] #[.pointer (some ⟨fb,0,none⟩)])))/\(w'.cell? ⟨w0.heap.size,0,none⟩=some (.int .i64 (j:Int)))/\(w'.cell? ⟨w0.heap.size+1,0,none⟩=some (.string r.s)/\w'.cell? ⟨w0.heap.size+1,1,none⟩=some (.slice P1 r.ps.length d1)/\w'.cell? ⟨w0.heap.size+1,2,none⟩=some (.int .u8 r.b.k)/\w'.cell? ⟨w0.heap.size+1,3,none⟩=some (.int .i64 r.b.n)/\w'.cell? ⟨w0.heap.size+1,4,none⟩=some (.string r.b.s)/\w'.cell? ⟨w0.heap.size+1,5,none⟩=some (.slice P2 r.b.ks.length d2))) w'/\(fun _:World=>True) w' from fun w' h=>⟨HC2.out w' (HK2.out _ _ _ _ HI2.out.rd HI2.out.fs (Chg.of_below h)),trivial⟩)
      clear hwk hbk hbI1 hbR1 hRd2 a0 a1 a2 a3 a4 a5 ar q0 q1 q2 q3 q4 q5
      have hdr:=(Below.refl wk.heap.size wk).drew
      have hSS:=HCK.out _ hdr
      have hrb:=HVB.out.2.2.1 r (by rw [<-Hr.out]; exact List.getElem_mem hltp)
      have hpN:=prcN_le p.prs HVB.out.2.2.1 j
      obtain ⟨rb1,rb2,rb3⟩:=hrb
      refine wp_region_noPanic ?_
      refine wp_region_G (fun w':World=>((w'.cell? ⟨W.heap.size,0,none⟩=some (.slice A1 L1 c1)/\w'.cell? ⟨W.heap.size,1,none⟩=some (.slice (some a) L2 c2)/\w'.cell? ⟨W.heap.size,2,none⟩=some (.int .u8 k)/\w'.cell? ⟨W.heap.size,3,none⟩=some (.int .i64 n)/\w'.cell? ⟨W.heap.size,4,none⟩=some (.string s)/\w'.cell? ⟨W.heap.size,5,none⟩=some (.slice A3 l3 c3))/\(w'.cell? ⟨fb+1,0,none⟩=some (.func (.func 92) #[] #[.pointer (some ⟨fb,0,none⟩)])))/\(w'.cell? ⟨w0.heap.size,0,none⟩=some (.int .i64 (j:Int)))/\(w'.cell? ⟨w0.heap.size+1,0,none⟩=some (.string r.s)/\w'.cell? ⟨w0.heap.size+1,1,none⟩=some (.slice P1 r.ps.length d1)/\w'.cell? ⟨w0.heap.size+1,2,none⟩=some (.int .u8 r.b.k)/\w'.cell? ⟨w0.heap.size+1,3,none⟩=some (.int .i64 r.b.n)/\w'.cell? ⟨w0.heap.size+1,4,none⟩=some (.string r.b.s)/\w'.cell? ⟨w0.heap.size+1,5,none⟩=some (.slice P2 r.b.ks.length d2))) (fun _:World=>True) 40 (by kernel_rfl) ?_
      refine zT 0 hSS ?_
      (try simp only [Act.put,zP])
      refine zT 1 hSS ?_
      (try simp only [Act.put,zP])
      refine zT 2 hSS ?_
      (try simp only [Act.put,zP])
      refine zT 4 hSS ?_
      (try simp only [Act.put,zP])
      refine wpG_one (i:=3) (by kernel_rfl) rfl (fun K hK=>?_)
      refine step_callL (by rfl) (.func 94) [.tmp 45,.tmp 47] _ (by rfl) 94 _ fnSProc (by rfl) _ (by rfl) _ (isW_of (Proc_any p _ _ r.s _ (HD2.out _ (Chg.of_below hdr)).1)) ?_
      rintro vq w2 ⟨rfl,bw2⟩
      have b2:=bl_tt hdr bw2
      have hSS2:=HCK.out _ b2
      obtain ⟨PE,hPE⟩:∃ PE,procE p.prs r.s=PE:=⟨_,rfl⟩
      rw [hPE]
      have HPE:=zh hPE
      refine hK.out _ _ hSS2 ?_
      clear hK K hSS hPE
      (try simp only [Act.put,zP])
      have HI2b:=zh (show VsI Rd2 fb fb wk pv' (F1+prcN p.prs j) w2 pv' from ⟨HK2.out _ _ _ _ HI2.out.rd HI2.out.fs (Chg.of_below b2),HI2.out.fs.later b2,fun b hb=>.inl hb,Chg.of_below b2⟩)
      by_cases hpe:PE<(j:Int)
      ·have hd:decide (PE<(j:Int))=true:=decide_eq_true hpe
       obtain ⟨E1,hE1⟩:∃ E1,one1 (22)=E1:=⟨_,rfl⟩
       have hE2:E1<=1:=by rw [<-hE1]; exact one1_le _
       have HE1:=zh (show one1 (if procE p.prs r.s<(j:Int) then 22 else 0)=E1 by rw [HPE.out,if_pos hpe]; exact hE1)
       refine zT 5 hSS2 ?_
       (try simp only [Act.put,zP])
       refine wpG_done (by kernel_rfl) ?_
       refine NoPanic.normal ?_
       obtain ⟨⟨⟨a0,a1,a2,a3,a4,a5⟩,ar⟩,ai,r0,r1,r2,r3,r4,r5⟩:=hSS2.1
       clear hSS2
       go_wp2_with fail
       refine (report_any fb fb _ pv' (j:Int) 22 [] none 0 r.s Any w2 HI2b.out.fs RowI.nil (by simp) (by omega)).mono ?_
       rintro e w3 hp
       obtain ⟨v3,rfl⟩:=hp.1
       obtain ⟨pv3,hi3⟩:=HI2b.out.stepK HK2.out (Below.refl _ _) hp
       rw [hE1] at hi3
       have HI3:=zh hi3
       clear hp a0 a1 a2 a3 a4 a5 ar ai r0 r1 r2 r3 r4 r5
       obtain ⟨⟨⟨a0,a1,a2,a3,a4,a5⟩,ar⟩,ai,r0,r1,r2,r3,r4,r5⟩:=HC2.out _ hi3.rd
       clear hi3 hE1
       go_wp2_with fail
       go_loopw [59] (fun x w'=>∃ (i:Nat) (pv2:Value),i<=r.ps.length/\x=.int .i64 i/\VsI Rd2 fb fb wk pv' (F1+prcN p.prs j+E1+frsN r.ps i) w' pv2) (fun x _=>r.ps.length-(intOf x).toNat)
       case atStart=>exact ⟨0,_,Nat.zero_le _,rfl,HI3.out⟩
       case round =>
        clear HI3 a0 a1 a2 a3 a4 a5 ar ai r0 r1 r2 r3 r4 r5
        obtain ⟨i,pv2,hi,rfl,hinv⟩:=hrel
        have HIN2:=zh hinv
        by_cases hli:i<r.ps.length
        ·obtain ⟨a',u,rfl,hsa,Hu,⟨q0,q1,q2⟩,hfu⟩:=(HD2.out wr hinv.chg).2.row.nd hli
         have hic:(i:Int)<=(d1:Int):=by have:=HPR.out.lc; omega
         have hi0:(0:Int)<=(i:Int):=by omega
         obtain ⟨⟨⟨a0,a1,a2,a3,a4,a5⟩,ar⟩,ai,r0,r1,r2,r3,r4,r5⟩:=HC2.out _ hinv.rd
         clear hinv hsa hfu
         go_upto_region 18 with fail
         have hbk:Below wr.heap.size wr (wr.alloc (.cells #[.string u.s,.int .u8 u.k,.int .i64 u.n] 83)):=bl_al (Below.refl _ _) _
         have hbU:=heap_alloc_new wr (.cells #[.string u.s,.int .u8 u.k,.int .i64 u.n] 83)
         obtain ⟨wv,hwv⟩:∃ wv,wr.alloc (.cells #[.string u.s,.int .u8 u.k,.int .i64 u.n] 83)=wv:=⟨_,rfl⟩
         rw [hwv] at hbk hbU ⊢
         have HZV:=zh (show wv.heap.size=wr.heap.size+1 by rw [<-hwv]; simp)
         have HBV:=zh hbk
         have HBU:=zh hbU
         clear hwv hbk hbU a0 a1 a2 a3 a4 a5 ar ai r0 r1 r2 r3 r4 r5 q0 q1 q2
         have HCV:=zh (show ∀ w':World,Below wv.heap.size wv w'->(fun w':World=>(fun w':World=>((w'.cell? ⟨W.heap.size,0,none⟩=some (.slice A1 L1 c1)/\w'.cell? ⟨W.heap.size,1,none⟩=some (.slice (some a) L2 c2)/\w'.cell? ⟨W.heap.size,2,none⟩=some (.int .u8 k)/\w'.cell? ⟨W.heap.size,3,none⟩=some (.int .i64 n)/\w'.cell? ⟨W.heap.size,4,none⟩=some (.string s)/\w'.cell? ⟨W.heap.size,5,none⟩=some (.slice A3 l3 c3))/\(w'.cell? ⟨fb+1,0,none⟩=some (.func (.func 92) #[] #[.pointer (some ⟨fb,0,none⟩)])))/\(w'.cell? ⟨w0.heap.size,0,none⟩=some (.int .i64 (j:Int)))/\(w'.cell? ⟨w0.heap.size+1,0,none⟩=some (.string r.s)/\w'.cell? ⟨w0.heap.size+1,1,none⟩=some (.slice (some a') r.ps.length d1)/\w'.cell? ⟨w0.heap.size+1,2,none⟩=some (.int .u8 r.b.k)/\w'.cell? ⟨w0.heap.size+1,3,none⟩=some (.int .i64 r.b.n)/\w'.cell? ⟨w0.heap.size+1,4,none⟩=some (.string r.b.s)/\w'.cell? ⟨w0.heap.size+1,5,none⟩=some (.slice P2 r.b.ks.length d2))) w'/\(w'.cell? ⟨wr.heap.size,0,none⟩=some (.string u.s)/\w'.cell? ⟨wr.heap.size,1,none⟩=some (.int .u8 u.k)/\w'.cell? ⟨wr.heap.size,2,none⟩=some (.int .i64 u.n))) w'/\(fun _:World=>True) w' from fun w' h=>⟨⟨HC2.out _ (HK2.out _ _ _ _ HIN2.out.rd HIN2.out.fs (Chg.of_below (bl_tt HBV.out h))),box3 ((h.block _ (by have:=HZV.out; omega)).trans HBU.out)⟩,trivial⟩)
         have hdv:=(Below.refl wv.heap.size wv).drew
         have hSS:=HCV.out _ hdv
         have hfN:=frsN_le r.ps i
         refine wp_region_noPanic ?_
         refine wp_region_G (fun w':World=>(fun w':World=>((w'.cell? ⟨W.heap.size,0,none⟩=some (.slice A1 L1 c1)/\w'.cell? ⟨W.heap.size,1,none⟩=some (.slice (some a) L2 c2)/\w'.cell? ⟨W.heap.size,2,none⟩=some (.int .u8 k)/\w'.cell? ⟨W.heap.size,3,none⟩=some (.int .i64 n)/\w'.cell? ⟨W.heap.size,4,none⟩=some (.string s)/\w'.cell? ⟨W.heap.size,5,none⟩=some (.slice A3 l3 c3))/\(w'.cell? ⟨fb+1,0,none⟩=some (.func (.func 92) #[] #[.pointer (some ⟨fb,0,none⟩)])))/\(w'.cell? ⟨w0.heap.size,0,none⟩=some (.int .i64 (j:Int)))/\(w'.cell? ⟨w0.heap.size+1,0,none⟩=some (.string r.s)/\w'.cell? ⟨w0.heap.size+1,1,none⟩=some (.slice (some a') r.ps.length d1)/\w'.cell? ⟨w0.heap.size+1,2,none⟩=some (.int .u8 r.b.k)/\w'.cell? ⟨w0.heap.size+1,3,none⟩=some (.int .i64 r.b.n)/\w'.cell? ⟨w0.heap.size+1,4,none⟩=some (.string r.b.s)/\w'.cell? ⟨w0.heap.size+1,5,none⟩=some (.slice P2 r.b.ks.length d2))) w'/\(w'.cell? ⟨wr.heap.size,0,none⟩=some (.string u.s)/\w'.cell? ⟨wr.heap.size,1,none⟩=some (.int .u8 u.k)/\w'.cell? ⟨wr.heap.size,2,none⟩=some (.int .i64 u.n))) (fun _:World=>True) 40 (by kernel_rfl) ?_
         refine zT 0 hSS ?_
         (try simp only [Act.put,zP])
         refine zT 1 hSS ?_
         (try simp only [Act.put,zP])
         refine zT 2 hSS ?_
         (try simp only [Act.put,zP])
         refine zT 3 hSS ?_
         (try simp only [Act.put,zP])
         refine zT 4 hSS ?_
         (try simp only [Act.put,zP])
         refine zT 5 hSS ?_
         (try simp only [Act.put,zP])
         refine zT 6 hSS ?_
         (try simp only [Act.put,zP])
         refine zT 7 hSS ?_
         (try simp only [Act.put,zP])
         refine zT 8 hSS ?_
         (try simp only [Act.put,zP])
         refine zT 9 hSS ?_
         (try simp only [Act.put,zP])
         refine wpG_one (i:=10) (by kernel_rfl) rfl (fun K hK=>?_)
         refine step_callL (by rfl) (.func 93) [.tmp 71,.tmp 73] _ (by rfl) 93 _ fnFresh (by rfl) _ (by rfl) _ (isW_of (fresh_take r.ps i (by omega) (some a') d1 u.s _ _ (HD2.out _ (HIN2.out.chg.trans (Chg.of_below (bl_tt HBV.out hdv)))).2.row HPR.out.lp)) ?_
         rintro vq w5 ⟨rfl,bw5⟩
         have b5:=bl_tt hdv bw5
         refine hK.out _ _ (HCV.out _ b5) ?_
         clear hK K hSS
         (try simp only [Act.put,zP])
         refine wpG_one (i:=11) (by kernel_rfl) rfl (fun K hK=>?_)
         refine step_callC (by rfl) (.tmp 64) [.tmp 65,.const (.slice none 0 0),.tmp 67,.tmp 74] _ (by rfl) 92 _ fnChk1 #[.pointer (some ⟨fb,0,none⟩)] (by rfl) _ (by rfl) _ (repV_of (report_cat fb fb _ pv2 (j:Int) _ [] none 0 u.s Any _ (HIN2.out.fs.later (bl_tt HBV.out b5)) RowI.nil (by simp) (by omega))) ?_
         rintro vq W6 hp
         obtain ⟨pv6,hi6⟩:=HIN2.out.stepK HK2.out (bl_tt HBV.out b5) hp
         have hi7:VsI Rd2 fb fb wk pv' (F1+prcN p.prs j+E1+frsN r.ps (i+1)) W6 pv6:=by rw [frsN_succ hli,Hu.out,<-Nat.add_assoc]; exact hi6
         have hSS6:(fun w':World=>(fun w':World=>((w'.cell? ⟨W.heap.size,0,none⟩=some (.slice A1 L1 c1)/\w'.cell? ⟨W.heap.size,1,none⟩=some (.slice (some a) L2 c2)/\w'.cell? ⟨W.heap.size,2,none⟩=some (.int .u8 k)/\w'.cell? ⟨W.heap.size,3,none⟩=some (.int .i64 n)/\w'.cell? ⟨W.heap.size,4,none⟩=some (.string s)/\w'.cell? ⟨W.heap.size,5,none⟩=some (.slice A3 l3 c3))/\(w'.cell? ⟨fb+1,0,none⟩=some (.func (.func 92) #[] #[.pointer (some ⟨fb,0,none⟩)])))/\(w'.cell? ⟨w0.heap.size,0,none⟩=some (.int .i64 (j:Int)))/\(w'.cell? ⟨w0.heap.size+1,0,none⟩=some (.string r.s)/\w'.cell? ⟨w0.heap.size+1,1,none⟩=some (.slice (some a') r.ps.length d1)/\w'.cell? ⟨w0.heap.size+1,2,none⟩=some (.int .u8 r.b.k)/\w'.cell? ⟨w0.heap.size+1,3,none⟩=some (.int .i64 r.b.n)/\w'.cell? ⟨w0.heap.size+1,4,none⟩=some (.string r.b.s)/\w'.cell? ⟨w0.heap.size+1,5,none⟩=some (.slice P2 r.b.ks.length d2))) w'/\(w'.cell? ⟨wr.heap.size,0,none⟩=some (.string u.s)/\w'.cell? ⟨wr.heap.size,1,none⟩=some (.int .u8 u.k)/\w'.cell? ⟨wr.heap.size,2,none⟩=some (.int .i64 u.n))) W6/\(fun _:World=>True) W6:=⟨⟨HC2.out _ hi7.rd,box3 ((hp.2.elim fun _ h=>h.2.2.block _ (by have:=(bl_tt HBV.out b5).size; have:=b5.size; have:=HZV.out; omega) (fun hh=>by have hl:=HIN2.out.fs.lt; rcases hh with hh|hh; (have:=hl.1; omega); (have:=(hl.2 _ hh).2; omega))).trans ((b5.block _ (by have:=HZV.out; omega)).trans HBU.out))⟩,trivial⟩
         refine hK.out _ _ hSS6 ?_
         clear hK K
         (try simp only [Act.put,zP])
         refine wpG_done (by kernel_rfl) ?_
         refine NoPanic.normal ?_
         have HI7:=zh hi7
         clear hi7 hi6 hp hSS6
         go_wp2_with fail
         go_roundw
         case rel=>exact ⟨i+1,_,by omega,by go_num,HI7.out⟩
         case measure=>simp [intOf]; omega
        ·have hil:i=r.ps.length:=by omega
         obtain ⟨⟨⟨a0,a1,a2,a3,a4,a5⟩,ar⟩,ai,r0,r1,r2,r3,r4,r5⟩:=HC2.out _ hinv.rd
         have hge:¬ ((i:Int)<(r.ps.length:Int)):=by omega
         clear hinv
         go_wp2_with fail
         have hfN:=frsN_le r.ps r.ps.length
         have HN2:=zh (show VsI Rd2 fb fb wk pv' (F1+prcN p.prs j+E1+frsN r.ps r.ps.length) wr pv2 by rw [<-hil]; exact HIN2.out)
         have hzw:=HIN2.out.chg.size
         have hzk:=HZK.out
         have hz0:=HINV.out.chg.size
         have hzb:=HZB.out
         refine (svisit_any 96 _ _ fb fb (Chk2_rep fb fb (fb+1) w0.heap.size (j:Int)) p r.b (fun b=>S b/\b<W.heap.size) r.ps P1 d1 [] none 0 (F1+prcN p.prs j+E1+frsN r.ps r.ps.length) pv2 wr _ _ ⟨(HRD.out _ (HRD2.out _ HN2.out.rd).1.1).1,(HRD2.out _ HN2.out.rd).1.2⟩ HN2.out.fs (HD2.out _ HN2.out.chg).1 (HD2.out _ HN2.out.chg).2.body (HD2.out _ HN2.out.chg).2.row HPR.out.lc RowI.nil (Nat.zero_le _) (fun b hb hbl hh=>?_) (by simp; omega) (by omega) (by omega)).mono ?_
         ·rcases hh with hh|hh
          ·have:=hb.2; omega
          ·rcases HN2.out.own b hh with h1|h1
           ·have:=(HINV.out.fs.lt.2 b h1).1; have:=hb.2; omega
           ·have:=hb.2; omega
         rintro e W6 hp
         obtain ⟨v6,rfl⟩:=hp.1
         obtain ⟨pv6,hi6⟩:=HN2.out.stepK HK2.out (Below.refl _ _) hp
         obtain ⟨pv7,hi7⟩:=HINV.out.step HREP.out HBK.out (hi6.rep (Below.refl _ _) (e:=.returned undef) ⟨_,rfl⟩)
         have HI8:=zh (show VsI Rd fb fb Wb (.slice none 0 0) (F1+prcN p.prs (j+1)) W6 pv7 by rw [prcN_succ hltp,Hr.out,prcE,HE1.out]; simpa only [Nat.add_assoc] using hi7)
         clear hi7 hi6 hp a0 a1 a2 a3 a4 a5 ar ai r0 r1 r2 r3 r4 r5
         go_wp2_with fail
         go_roundw
         case rel=>exact ⟨j+1,_,by omega,by go_num,HI8.out⟩
         case measure=>simp [intOf]; omega
      ·have hd:decide (PE<(j:Int))=false:=decide_eq_false hpe
       obtain ⟨E1,hE1⟩:∃ E1,one1 (0)=E1:=⟨_,rfl⟩
       have hE2:E1<=1:=by rw [<-hE1]; exact one1_le _
       have HE1:=zh (show one1 (if procE p.prs r.s<(j:Int) then 22 else 0)=E1 by rw [HPE.out,if_neg hpe]; exact hE1)
       refine zT 5 hSS2 ?_
       (try simp only [Act.put,zP])
       refine wpG_done (by kernel_rfl) ?_
       refine NoPanic.normal ?_
       obtain ⟨⟨⟨a0,a1,a2,a3,a4,a5⟩,ar⟩,ai,r0,r1,r2,r3,r4,r5⟩:=hSS2.1
       clear hSS2
       go_wp2_with fail
       have HI3:=zh (show VsI Rd2 fb fb wk pv' (F1+prcN p.prs j+E1) w2 pv' by rw [<-hE1]; exact HI2b.out)
       clear hE1
       go_loopw [59] (fun x w'=>∃ (i:Nat) (pv2:Value),i<=r.ps.length/\x=.int .i64 i/\VsI Rd2 fb fb wk pv' (F1+prcN p.prs j+E1+frsN r.ps i) w' pv2) (fun x _=>r.ps.length-(intOf x).toNat)
       case atStart=>exact ⟨0,_,Nat.zero_le _,rfl,HI3.out⟩
       case round =>
        clear HI3 a0 a1 a2 a3 a4 a5 ar ai r0 r1 r2 r3 r4 r5
        obtain ⟨i,pv2,hi,rfl,hinv⟩:=hrel
        have HIN2:=zh hinv
        by_cases hli:i<r.ps.length
        ·obtain ⟨a',u,rfl,hsa,Hu,⟨q0,q1,q2⟩,hfu⟩:=(HD2.out wr hinv.chg).2.row.nd hli
         have hic:(i:Int)<=(d1:Int):=by have:=HPR.out.lc; omega
         have hi0:(0:Int)<=(i:Int):=by omega
         obtain ⟨⟨⟨a0,a1,a2,a3,a4,a5⟩,ar⟩,ai,r0,r1,r2,r3,r4,r5⟩:=HC2.out _ hinv.rd
         clear hinv hsa hfu
         go_upto_region 18 with fail
         have hbk:Below wr.heap.size wr (wr.alloc (.cells #[.string u.s,.int .u8 u.k,.int .i64 u.n] 83)):=bl_al (Below.refl _ _) _
         have hbU:=heap_alloc_new wr (.cells #[.string u.s,.int .u8 u.k,.int .i64 u.n] 83)
         obtain ⟨wv,hwv⟩:∃ wv,wr.alloc (.cells #[.string u.s,.int .u8 u.k,.int .i64 u.n] 83)=wv:=⟨_,rfl⟩
         rw [hwv] at hbk hbU ⊢
         have HZV:=zh (show wv.heap.size=wr.heap.size+1 by rw [<-hwv]; simp)
         have HBV:=zh hbk
         have HBU:=zh hbU
         clear hwv hbk hbU a0 a1 a2 a3 a4 a5 ar ai r0 r1 r2 r3 r4 r5 q0 q1 q2
         have HCV:=zh (show ∀ w':World,Below wv.heap.size wv w'->(fun w':World=>(fun w':World=>((w'.cell? ⟨W.heap.size,0,none⟩=some (.slice A1 L1 c1)/\w'.cell? ⟨W.heap.size,1,none⟩=some (.slice (some a) L2 c2)/\w'.cell? ⟨W.heap.size,2,none⟩=some (.int .u8 k)/\w'.cell? ⟨W.heap.size,3,none⟩=some (.int .i64 n)/\w'.cell? ⟨W.heap.size,4,none⟩=some (.string s)/\w'.cell? ⟨W.heap.size,5,none⟩=some (.slice A3 l3 c3))/\(w'.cell? ⟨fb+1,0,none⟩=some (.func (.func 92) #[] #[.pointer (some ⟨fb,0,none⟩)])))/\(w'.cell? ⟨w0.heap.size,0,none⟩=some (.int .i64 (j:Int)))/\(w'.cell? ⟨w0.heap.size+1,0,none⟩=some (.string r.s)/\w'.cell? ⟨w0.heap.size+1,1,none⟩=some (.slice (some a') r.ps.length d1)/\w'.cell? ⟨w0.heap.size+1,2,none⟩=some (.int .u8 r.b.k)/\w'.cell? ⟨w0.heap.size+1,3,none⟩=some (.int .i64 r.b.n)/\w'.cell? ⟨w0.heap.size+1,4,none⟩=some (.string r.b.s)/\w'.cell? ⟨w0.heap.size+1,5,none⟩=some (.slice P2 r.b.ks.length d2))) w'/\(w'.cell? ⟨wr.heap.size,0,none⟩=some (.string u.s)/\w'.cell? ⟨wr.heap.size,1,none⟩=some (.int .u8 u.k)/\w'.cell? ⟨wr.heap.size,2,none⟩=some (.int .i64 u.n))) w'/\(fun _:World=>True) w' from fun w' h=>⟨⟨HC2.out _ (HK2.out _ _ _ _ HIN2.out.rd HIN2.out.fs (Chg.of_below (bl_tt HBV.out h))),box3 ((h.block _ (by have:=HZV.out; omega)).trans HBU.out)⟩,trivial⟩)
         have hdv:=(Below.refl wv.heap.size wv).drew
         have hSS:=HCV.out _ hdv
         have hfN:=frsN_le r.ps i
         refine wp_region_noPanic ?_
         refine wp_region_G (fun w':World=>(fun w':World=>((w'.cell? ⟨W.heap.size,0,none⟩=some (.slice A1 L1 c1)/\w'.cell? ⟨W.heap.size,1,none⟩=some (.slice (some a) L2 c2)/\w'.cell? ⟨W.heap.size,2,none⟩=some (.int .u8 k)/\w'.cell? ⟨W.heap.size,3,none⟩=some (.int .i64 n)/\w'.cell? ⟨W.heap.size,4,none⟩=some (.string s)/\w'.cell? ⟨W.heap.size,5,none⟩=some (.slice A3 l3 c3))/\(w'.cell? ⟨fb+1,0,none⟩=some (.func (.func 92) #[] #[.pointer (some ⟨fb,0,none⟩)])))/\(w'.cell? ⟨w0.heap.size,0,none⟩=some (.int .i64 (j:Int)))/\(w'.cell? ⟨w0.heap.size+1,0,none⟩=some (.string r.s)/\w'.cell? ⟨w0.heap.size+1,1,none⟩=some (.slice (some a') r.ps.length d1)/\w'.cell? ⟨w0.heap.size+1,2,none⟩=some (.int .u8 r.b.k)/\w'.cell? ⟨w0.heap.size+1,3,none⟩=some (.int .i64 r.b.n)/\w'.cell? ⟨w0.heap.size+1,4,none⟩=some (.string r.b.s)/\w'.cell? ⟨w0.heap.size+1,5,none⟩=some (.slice P2 r.b.ks.length d2))) w'/\(w'.cell? ⟨wr.heap.size,0,none⟩=some (.string u.s)/\w'.cell? ⟨wr.heap.size,1,none⟩=some (.int .u8 u.k)/\w'.cell? ⟨wr.heap.size,2,none⟩=some (.int .i64 u.n))) (fun _:World=>True) 40 (by kernel_rfl) ?_
         refine zT 0 hSS ?_
         (try simp only [Act.put,zP])
         refine zT 1 hSS ?_
         (try simp only [Act.put,zP])
         refine zT 2 hSS ?_
         (try simp only [Act.put,zP])
         refine zT 3 hSS ?_
         (try simp only [Act.put,zP])
         refine zT 4 hSS ?_
         (try simp only [Act.put,zP])
         refine zT 5 hSS ?_
         (try simp only [Act.put,zP])
         refine zT 6 hSS ?_
         (try simp only [Act.put,zP])
         refine zT 7 hSS ?_
         (try simp only [Act.put,zP])
         refine zT 8 hSS ?_
         (try simp only [Act.put,zP])
         refine zT 9 hSS ?_
         (try simp only [Act.put,zP])
         refine wpG_one (i:=10) (by kernel_rfl) rfl (fun K hK=>?_)
         refine step_callL (by rfl) (.func 93) [.tmp 71,.tmp 73] _ (by rfl) 93 _ fnFresh (by rfl) _ (by rfl) _ (isW_of (fresh_take r.ps i (by omega) (some a') d1 u.s _ _ (HD2.out _ (HIN2.out.chg.trans (Chg.of_below (bl_tt HBV.out hdv)))).2.row HPR.out.lp)) ?_
         rintro vq w5 ⟨rfl,bw5⟩
         have b5:=bl_tt hdv bw5
         refine hK.out _ _ (HCV.out _ b5) ?_
         clear hK K hSS
         (try simp only [Act.put,zP])
         refine wpG_one (i:=11) (by kernel_rfl) rfl (fun K hK=>?_)
         refine step_callC (by rfl) (.tmp 64) [.tmp 65,.const (.slice none 0 0),.tmp 67,.tmp 74] _ (by rfl) 92 _ fnChk1 #[.pointer (some ⟨fb,0,none⟩)] (by rfl) _ (by rfl) _ (repV_of (report_cat fb fb _ pv2 (j:Int) _ [] none 0 u.s Any _ (HIN2.out.fs.later (bl_tt HBV.out b5)) RowI.nil (by simp) (by omega))) ?_
         rintro vq W6 hp
         obtain ⟨pv6,hi6⟩:=HIN2.out.stepK HK2.out (bl_tt HBV.out b5) hp
         have hi7:VsI Rd2 fb fb wk pv' (F1+prcN p.prs j+E1+frsN r.ps (i+1)) W6 pv6:=by rw [frsN_succ hli,Hu.out,<-Nat.add_assoc]; exact hi6
         have hSS6:(fun w':World=>(fun w':World=>((w'.cell? ⟨W.heap.size,0,none⟩=some (.slice A1 L1 c1)/\w'.cell? ⟨W.heap.size,1,none⟩=some (.slice (some a) L2 c2)/\w'.cell? ⟨W.heap.size,2,none⟩=some (.int .u8 k)/\w'.cell? ⟨W.heap.size,3,none⟩=some (.int .i64 n)/\w'.cell? ⟨W.heap.size,4,none⟩=some (.string s)/\w'.cell? ⟨W.heap.size,5,none⟩=some (.slice A3 l3 c3))/\(w'.cell? ⟨fb+1,0,none⟩=some (.func (.func 92) #[] #[.pointer (some ⟨fb,0,none⟩)])))/\(w'.cell? ⟨w0.heap.size,0,none⟩=some (.int .i64 (j:Int)))/\(w'.cell? ⟨w0.heap.size+1,0,none⟩=some (.string r.s)/\w'.cell? ⟨w0.heap.size+1,1,none⟩=some (.slice (some a') r.ps.length d1)/\w'.cell? ⟨w0.heap.size+1,2,none⟩=some (.int .u8 r.b.k)/\w'.cell? ⟨w0.heap.size+1,3,none⟩=some (.int .i64 r.b.n)/\w'.cell? ⟨w0.heap.size+1,4,none⟩=some (.string r.b.s)/\w'.cell? ⟨w0.heap.size+1,5,none⟩=some (.slice P2 r.b.ks.length d2))) w'/\(w'.cell? ⟨wr.heap.size,0,none⟩=some (.string u.s)/\w'.cell? ⟨wr.heap.size,1,none⟩=some (.int .u8 u.k)/\w'.cell? ⟨wr.heap.size,2,none⟩=some (.int .i64 u.n))) W6/\(fun _:World=>True) W6:=⟨⟨HC2.out _ hi7.rd,box3 ((hp.2.elim fun _ h=>h.2.2.block _ (by have:=(bl_tt HBV.out b5).size; have:=b5.size; have:=HZV.out; omega) (fun hh=>by have hl:=HIN2.out.fs.lt; rcases hh with hh|hh; (have:=hl.1; omega); (have:=(hl.2 _ hh).2; omega))).trans ((b5.block _ (by have:=HZV.out; omega)).trans HBU.out))⟩,trivial⟩
         refine hK.out _ _ hSS6 ?_
         clear hK K
         (try simp only [Act.put,zP])
         refine wpG_done (by kernel_rfl) ?_
         refine NoPanic.normal ?_
         have HI7:=zh hi7
         clear hi7 hi6 hp hSS6
         go_wp2_with fail
         go_roundw
         case rel=>exact ⟨i+1,_,by omega,by go_num,HI7.out⟩
         case measure=>simp [intOf]; omega
        ·have hil:i=r.ps.length:=by omega
         obtain ⟨⟨⟨a0,a1,a2,a3,a4,a5⟩,ar⟩,ai,r0,r1,r2,r3,r4,r5⟩:=HC2.out _ hinv.rd
         have hge:¬ ((i:Int)<(r.ps.length:Int)):=by omega
         clear hinv
         go_wp2_with fail
         have hfN:=frsN_le r.ps r.ps.length
         have HN2:=zh (show VsI Rd2 fb fb wk pv' (F1+prcN p.prs j+E1+frsN r.ps r.ps.length) wr pv2 by rw [<-hil]; exact HIN2.out)
         have hzw:=HIN2.out.chg.size
         have hzk:=HZK.out
         have hz0:=HINV.out.chg.size
         have hzb:=HZB.out
         refine (svisit_any 96 _ _ fb fb (Chk2_rep fb fb (fb+1) w0.heap.size (j:Int)) p r.b (fun b=>S b/\b<W.heap.size) r.ps P1 d1 [] none 0 (F1+prcN p.prs j+E1+frsN r.ps r.ps.length) pv2 wr _ _ ⟨(HRD.out _ (HRD2.out _ HN2.out.rd).1.1).1,(HRD2.out _ HN2.out.rd).1.2⟩ HN2.out.fs (HD2.out _ HN2.out.chg).1 (HD2.out _ HN2.out.chg).2.body (HD2.out _ HN2.out.chg).2.row HPR.out.lc RowI.nil (Nat.zero_le _) (fun b hb hbl hh=>?_) (by simp; omega) (by omega) (by omega)).mono ?_
         ·rcases hh with hh|hh
          ·have:=hb.2; omega
          ·rcases HN2.out.own b hh with h1|h1
           ·have:=(HINV.out.fs.lt.2 b h1).1; have:=hb.2; omega
           ·have:=hb.2; omega
         rintro e W6 hp
         obtain ⟨v6,rfl⟩:=hp.1
         obtain ⟨pv6,hi6⟩:=HN2.out.stepK HK2.out (Below.refl _ _) hp
         obtain ⟨pv7,hi7⟩:=HINV.out.step HREP.out HBK.out (hi6.rep (Below.refl _ _) (e:=.returned undef) ⟨_,rfl⟩)
         have HI8:=zh (show VsI Rd fb fb Wb (.slice none 0 0) (F1+prcN p.prs (j+1)) W6 pv7 by rw [prcN_succ hltp,Hr.out,prcE,HE1.out]; simpa only [Nat.add_assoc] using hi7)
         clear hi7 hi6 hp a0 a1 a2 a3 a4 a5 ar ai r0 r1 r2 r3 r4 r5
         go_wp2_with fail
         go_roundw
         case rel=>exact ⟨j+1,_,by omega,by go_num,HI8.out⟩
         case measure=>simp [intOf]; omega
     ·have hjl:j=L2:=by omega
      obtain ⟨⟨a0,a1,a2,a3,a4,a5⟩,ar⟩:=HCC.out _ hinv.rd
      have hge:¬ ((j:Int)<(L2:Int)):=by omega
      have HN3:=zh (show VsI Rd fb fb Wb (.slice none 0 0) (F1+prcN p.prs p.prs.length) w0 pv' by rw [HL2.out,<-hjl]; exact HINV.out)
      clear hinv
      go_wp2_with fail
      have hpN:=prcN_le p.prs HVB.out.2.2.1 p.prs.length
      have hvb:=HVB.out
      have hzw:=HINV.out.chg.size
      have hzb:=HZB.out
      have hmn:=(HD.out _ HN3.out.chg).2.main
      rw [HMM.out.1,HMM.out.2.1,HMM.out.2.2.1,HMM.out.2.2.2] at hmn
      have hcall:=svisit_any _ _ Rd fb fb HREP.out p p.m (fun b=>S b/\b<W.heap.size) p.vs A1 c1 [] none 0 (F1+prcN p.prs p.prs.length) pv' w0 _ _ HN3.out.rd HN3.out.fs (HD.out _ HN3.out.chg).1 hmn (HD.out _ HN3.out.chg).2.vars HR.out.lvc RowI.nil (Nat.zero_le _) (fun b hb hbl hh=>by rcases hh with hh|hh; (have:=hb.2; omega); (rcases HN3.out.own b hh with h1|h1; (simp [Value.ownBlock] at h1); (have:=hb.2; omega))) (by simp; omega) (by omega) (by omega)
      rw [HL1.out] at hcall
      refine hcall.mono ?_
      clear hcall
      rintro e W6 hp
      obtain ⟨v6,rfl⟩:=hp.1
      obtain ⟨pv6,hi6⟩:=HN3.out.step HREP.out (Below.refl _ _) hp
      rw [show F1+prcN p.prs p.prs.length+cntV p.prs p.m p.vs=NN by rw [<-HNN2.out,chkN,HFE.out]] at hi6
      obtain ⟨A6,c6,rfl⟩:=hi6.fs.slice
      have hf6:W6.cell? ⟨fb,0,none⟩=some (.slice A6 NN c6):=zc hi6.fs.box rfl
      have HBZ:=zh (show Below W.heap.size W W6 from HBW.out.trans (hi6.chg.below (by omega) (fun b hb=>by rcases hb with hb|hb; omega; simp [Value.ownBlock] at hb)))
      clear hi6 hp hmn hvb a0 a1 a2 a3 a4 a5 ar
      go_wp2_with fail
      go_ret
      exact ⟨A6,c6,rfl,HBZ.out⟩
def CalB (prs:List PR) (t:T):Prop:=∀ u∈po t,(u.k=50\/u.k=51)->∃ i,prcI prs u.s=some i
theorem CalB.kid {prs:List PR} {k n:Int} {s:ByteArray} {ks:List T} (h:CalB prs (.nd k n s ks)) {t:T} (ht:t∈ks):CalB prs t:=fun u hu=>h u (by simp only [po,List.mem_cons]; exact .inr (mem_pos.2 ⟨t,ht,hu⟩))
def GP (prs:List PR) (t:T):Prop:=isS t=true/\CalB prs t/\∀ q∈prs,isB q.b=true/\CalB prs q.b
theorem GP.block {prs:List PR} {b:T} (hb:isB b=true) (hc:CalB prs b) (hq:∀ q∈prs,isB q.b=true/\CalB prs q.b):∀ u∈b.ks,GP prs u:=by
 obtain ⟨k,n,s,ks⟩:=b
 exact fun u hu=>⟨(isB_kids _ _ _ _ hb).2 u hu,hc.kid hu,hq⟩
theorem GP_GC:GC GP where
 two:=fun prs t h hk=>by
  obtain ⟨k,n,s,ks⟩:=t
  obtain ⟨hs,hc,hq⟩:=h
  simp only [T.k_nd] at hk
  rcases isS_cases hs with ⟨h1,_⟩|⟨_,_,a,b,c,d,rfl,_,hb1,hb2,_⟩|⟨h1,_⟩|⟨h1,_⟩
  ·omega
  ·exact ⟨rfl,GP.block hb1 (hc.kid (t:=b) (by simp)) hq,GP.block hb2 (hc.kid (t:=c) (by simp)) hq⟩
  ·omega
  ·omega
 loc:=fun prs t h hk=>by
  obtain ⟨k,n,s,ks⟩:=t
  obtain ⟨hs,hc,hq⟩:=h
  simp only [T.k_nd] at hk
  rcases isS_cases hs with ⟨h1,_⟩|⟨h1,_⟩|⟨_,_,a,b,c,rfl,_,hb1,_⟩|⟨h1,_⟩
  ·omega
  ·omega
  ·exact ⟨rfl,GP.block hb1 (hc.kid (t:=b) (by simp)) hq⟩
  ·omega
 stk:=fun prs t h hk=>by
  obtain ⟨k,n,s,ks⟩:=t
  obtain ⟨hs,hc,hq⟩:=h
  simp only [T.k_nd] at hk
  rcases isS_cases hs with ⟨h1,_⟩|⟨h1,_⟩|⟨h1,_⟩|⟨_,_,b,rfl,hb1⟩
  ·omega
  ·omega
  ·omega
  ·exact ⟨rfl,GP.block hb1 (hc.kid (t:=b) (by simp)) hq⟩
 cal:=fun prs t h hk=>by
  obtain ⟨hs,hc,hq⟩:=h
  have hm:t∈po t:=by obtain ⟨k,n,s,ks⟩:=t; simp [po]
  obtain ⟨i,hi⟩:=hc t hm hk
  obtain ⟨-,hl⟩:=prcI_idx _ _ _ hi
  exact ⟨i,prs[i],hi,List.getElem?_eq_getElem hl,GP.block (hq _ (List.getElem_mem hl)).1 (hq _ (List.getElem_mem hl)).2 hq⟩
def LitB (t:T):Prop:=∀ u∈po t,Fld u.k u.n u.s
theorem LitB.kid {k n:Int} {s:ByteArray} {ks:List T} (h:LitB (.nd k n s ks)) {t:T} (ht:t∈ks):LitB t:=fun u hu=>h u (by simp only [po,List.mem_cons]; exact .inr (mem_pos.2 ⟨t,ht,hu⟩))
theorem LitB.own {t:T} (h:LitB t):Fld t.k t.n t.s:=h t (by obtain ⟨k,n,s,ks⟩:=t; simp [po])
theorem LitB.ev {look:ByteArray->Option (List Int)} (hl:∀ s l,look s=some l->l.length<=100000/\∀ x∈l,I64 x):∀ t,LitB t->I64 (evE look t).1:=by
 intro t
 induction t using T.ind with
 | _ k n s ks ih =>
  intro h
  rw [evE]
  refine evK_I64 hl h.own.2.1 ?_
  rw [evEs_map,List.getD_eq_getElem?_getD,List.getElem?_map]
  rcases hk:ks[0]? with _|u
  ·exact zero_I64
  ·exact ih u (List.mem_of_getElem? hk) (h.kid (List.mem_of_getElem? hk))
theorem LitB.block {t:T} (h:LitB t) {u:T} (hu:u∈t.ks):LitB u:=by
 obtain ⟨k,n,s,ks⟩:=t
 exact h.kid hu
section
variable {S:ST}
theorem doE_ok {t:T} (h:(doE S t).1=0):isS t=true/\t.k≠56/\basB t.k=true/\fltE S.cur.vs t=0/\doE S t=execE S t:=by
 unfold doE at h ⊢
 split at h
 ·cases h
 rename_i h1
 split at h
 ·cases h
 rename_i h2
 split at h
 ·cases h
 rename_i h3
 split at h
 ·rename_i h4; exact absurd h h4
 rename_i h4
 rw [if_neg h1,if_neg h2,if_neg h3,if_neg h4]
 exact ⟨by simpa using h1,h2,by simpa using h3,by simpa using h4,rfl⟩
theorem stk_num (h:S.WF) {k n:Int} {s:ByteArray} {ks:List T} (hf:fltE S.cur.vs (.nd k n s ks)=0) (hk:k=44\/k=45):∃ sid,S.num s=some sid/\CurK S sid 3:=by
 have hn:needE k=3:=by rcases hk with rfl|rfl<;>rfl
 obtain ⟨u,h4,h5⟩:=own_find (flt_own hf).1 (by rw [hn]; decide)
 obtain ⟨sid,h6,h7⟩:=num_of h h4
 exact ⟨sid,h6,by rw [h5,hn] at h7; exact h7⟩
end
section
variable {o:Out} {f:RS->Out} {r r':RS} {F:Int} {t:T}
end
structure RInv (r:RS):Prop where
 wf:r.S.WF
 fb:FB r.n r.S
 n:r.n<=1000000
structure Keep (r r':RS):Prop where
 base:r'.S.base=r.S.base
 calls:r'.S.calls=r.S.calls
 nc:r.S.nc<=r'.S.nc
section
variable {r r1 r':RS} {F:Int}
theorem Keep.refl (r:RS):Keep r r:=⟨rfl,rfl,Nat.le_refl _⟩
theorem Keep.trans (h:Keep r r1) (h':Keep r1 r'):Keep r r':=⟨h'.base.trans h.base,h'.calls.trans h.calls,Nat.le_trans h.nc h'.nc⟩
theorem Keep.cur (h:Keep r r'):r'.S.cur=r.S.cur:=by unfold ST.cur; rw [h.base,h.calls]
theorem RInv.tick (h:RInv r) (hF:F<=1000000) (hn:(r.n:Int)<F):RInv { r with n:=r.n+1 }:=⟨h.wf,h.fb.mono (Nat.le_succ _),by simp only; omega⟩
theorem doE_frames {S:ST} (t:T):(doE S t).2.base=S.base/\(doE S t).2.calls=S.calls/\(doE S t).2.nc=S.nc:=by
 obtain ⟨h1,h2,h3⟩:=doE_fr S t
 exact ⟨h1,h2,h3⟩
def PrB (prs:List PR):Prop:=∀ q∈prs,LitB q.b/\(∀ v∈q.ps,FldV v)/\q.ps.length<=1000
theorem PrB.getD {prs:List PR} (h:PrB prs) (i:Nat):LitB (prs.getD i ⟨⟨#[]⟩,[],nil0⟩).b/\(∀ v∈(prs.getD i ⟨⟨#[]⟩,[],nil0⟩).ps,FldV v)/\(prs.getD i ⟨⟨#[]⟩,[],nil0⟩).ps.length<=1000:=by
 rw [List.getD_eq_getElem?_getD]
 rcases hk:prs[i]? with _|q
 ·refine ⟨fun v hv=>?_,by simp,by simp⟩
  have:v=nil0:=by simpa [nil0,po,pos] using hv
  subst this
  exact ⟨⟨by decide,by decide⟩,⟨by decide,by decide⟩,Nat.zero_le _⟩
 ·exact h q (List.mem_of_getElem? hk)
end
def SomeN (w:World) (e:Ending) (w':World):Prop:=∃ k n s A l c,e=.returned (nv k n s A l c)/\Below w.heap.size w w'
theorem buildL (k n:Int) (w:World):(Instr.build 29 #[(0,.int .u8 k),(1,.int .i64 n)]).run Tryz.prog w=.ok (nv k n ⟨#[]⟩ none 0 0) w:=by kernel_rfl
theorem literal_nonneg (v:Int) (hv:0<=v) (w:World):Calls Tryz.prog 219 #[.int .i64 v] w (SomeN w):=by
 have hd:decide (0<=v)=true:=decide_eq_true hv
 have hb:=buildL
 go_enter Tryz.func219,Tryz.ntmps219
 go_wp2_with fail
 (try simp only [Exit.inBlock,Exit.then])
 refine bodyPost_ret (v:=nv 1 v ⟨#[]⟩ none 0 0) (by simp [results,Tryz.results219,go_sem]) rfl ⟨_,_,_,_,_,_,rfl,bl_al (Below.refl _ _) _⟩
theorem literal_any (v:Int) (hv : -9223372036854775808<=v/\v<=9223372036854775807) (w:World):Calls Tryz.prog 219 #[.int .i64 v] w (SomeN w):=by
 by_cases h0:0<=v
 ·exact literal_nonneg v h0 w
 ·have hd:decide (0<=v)=false:=decide_eq_false h0
  have hb:=buildOp
  have hb2:=buildS2
  have hb1:=build1
  by_cases hm:v = -9223372036854775808
  ·subst hm
   go_enter Tryz.func219,Tryz.ntmps219
   go_wp2_with fail
   refine (literal_nonneg _ (by omega) _).mono ?_
   rintro e w1 ⟨k1,n1,s1,A1,l1,c1,rfl,b1⟩
   have b1':Below w.heap.size w w1:=bl_tt (bl_al (Below.refl _ _) _) b1
   go_wp2_with fail
   refine (literal_nonneg _ (by omega) _).mono ?_
   rintro e w2 ⟨k2,n2,s2,A2,l2,c2,rfl,b2⟩
   have b2':=bl_tt b1' b2
   have hbx:w2.heap[w.heap.size]?=some (.cells #[.int .u8 0,.int .i64 0,.string ⟨#[]⟩,.slice none 0 0] 29 (0,0)):=((b2.block _ (by have:=b1.size; simp at this; omega)).trans (b1.block _ (by simp))).trans (heap_alloc_new w _)
   obtain ⟨m0,m1,m2,m3⟩:=box4 hbx
   have f0:∀ i,w2.frozen? ⟨w.heap.size,i,none⟩=false:=fun i=>zf hbx
   have hlt:=blk_lt hbx
   have hne:¬ w.heap.size=w2.heap.size:=by omega
   have hne2:¬ w2.heap.size=w.heap.size:=by omega
   clear hbx
   go_wp2_with fail
   (try simp only [Exit.inBlock,Exit.then])
   refine bodyPost_ret (v:=nv 8 0 ⟨#[]⟩ (some ⟨w2.heap.size,0,none⟩) 2 2) (by simp [results,Tryz.results219,go_sem,m0,m1,m2,m3,hne,hne2,hlt]) rfl ⟨_,_,_,_,_,_,rfl,bl_al ((((b2'.setCell (by simp) _).setCell (by simp) _).setCell (by simp) _).setCell (by simp) _) _⟩
  ·have hm':(v == -9223372036854775808)=false:=by simpa using hm
   go_enter Tryz.func219,Tryz.ntmps219
   go_wp2_with fail
   refine (literal_nonneg _ (by omega) _).mono ?_
   rintro e w1 ⟨k1,n1,s1,A1,l1,c1,rfl,b1⟩
   have b1':Below w.heap.size w w1:=bl_tt (bl_al (Below.refl _ _) _) b1
   have hbx:w1.heap[w.heap.size]?=some (.cells #[.int .u8 0,.int .i64 0,.string ⟨#[]⟩,.slice none 0 0] 29 (0,0)):=(b1.block _ (by simp)).trans (heap_alloc_new w _)
   obtain ⟨m0,m1,m2,m3⟩:=box4 hbx
   have f0:∀ i,w1.frozen? ⟨w.heap.size,i,none⟩=false:=fun i=>zf hbx
   have hlt:=blk_lt hbx
   have hne:¬ w.heap.size=w1.heap.size:=by omega
   have hne2:¬ w1.heap.size=w.heap.size:=by omega
   clear hbx
   go_wp2_with fail
   (try simp only [Exit.inBlock,Exit.then])
   refine bodyPost_ret (v:=nv 6 0 ⟨#[]⟩ (some ⟨w1.heap.size,0,none⟩) 1 1) (by simp [results,Tryz.results219,go_sem,m0,m1,m2,m3,hne,hne2,hlt]) rfl ⟨_,_,_,_,_,_,rfl,bl_al ((((b1'.setCell (by simp) _).setCell (by simp) _).setCell (by simp) _).setCell (by simp) _) _⟩
theorem numI_64 (b:Bool):I64 (numI b):=by cases b<;>simp [numI,I64]
theorem wrap64_64 (x:Int):I64 (wrap64 x):=by unfold I64 wrap64; omega
theorem bits_64 (op:BinOp) (a b:Int):I64 (bits op .i64 a b):=⟨bits_lo_i64 _ _ _,bits_hi_i64 _ _ _⟩
theorem tmod_64 {x y:Int} (hx:I64 x):I64 (x.tmod y):=by
 have h:(x.tmod y).natAbs<=x.natAbs:=by rw [Int.natAbs_tmod]; exact Nat.mod_le _ _
 have hs:0<=x->0<=x.tmod y:=fun h0=>Int.tmod_nonneg y h0
 have hn:x<=0->x.tmod y<=0:=fun h0=>by
  have h1:=Int.tmod_nonneg (a := -x) y (by omega)
  rw [Int.neg_tmod] at h1
  omega
 unfold I64 at *
 omega
theorem divE_64 {k x y:Int} (hx:I64 x):I64 (divE k x y).1:=by
 unfold divE
 split
 ·simp [I64]
 ·split
  ·exact wrap64_64 _
  ·exact tmod_64 hx
theorem unE_64 {k x:Int}:I64 (unE k x).1:=by
 unfold unE
 split
 ·exact wrap64_64 _
 ·exact numI_64 _
theorem apE_64 {k x y:Int} (hx:I64 x):I64 (apE k x y).1:=by
 unfold apE
 by_cases h:k=8
 ·rw [if_pos h]; dsimp only; exact wrap64_64 _
 rw [if_neg h]
 clear h
 by_cases h:k=9
 ·rw [if_pos h]; dsimp only; exact wrap64_64 _
 rw [if_neg h]
 clear h
 by_cases h:k=10
 ·rw [if_pos h]; dsimp only; exact wrap64_64 _
 rw [if_neg h]
 clear h
 by_cases h:k=11
 ·rw [if_pos h]; exact divE_64 hx
 rw [if_neg h]
 clear h
 by_cases h:k=12
 ·rw [if_pos h]; exact divE_64 hx
 rw [if_neg h]
 clear h
 by_cases h:k=13
 ·rw [if_pos h]; dsimp only; exact bits_64 _ _ _
 rw [if_neg h]
 clear h
 by_cases h:k=14
 ·rw [if_pos h]; dsimp only; exact bits_64 _ _ _
 rw [if_neg h]
 clear h
 by_cases h:k=15
 ·rw [if_pos h]; dsimp only; exact bits_64 _ _ _
 rw [if_neg h]
 clear h
 by_cases h:k=16
 ·rw [if_pos h]; dsimp only; exact numI_64 _
 rw [if_neg h]
 clear h
 by_cases h:k=17
 ·rw [if_pos h]; dsimp only; exact numI_64 _
 rw [if_neg h]
 clear h
 by_cases h:k=18
 ·rw [if_pos h]; dsimp only; exact numI_64 _
 rw [if_neg h]
 clear h
 by_cases h:k=19
 ·rw [if_pos h]; dsimp only; exact numI_64 _
 rw [if_neg h]
 clear h
 by_cases h:k=20
 ·rw [if_pos h]; dsimp only; exact numI_64 _
 rw [if_neg h]
 clear h
 by_cases h:k=21
 ·rw [if_pos h]; dsimp only; exact numI_64 _
 rw [if_neg h]
 clear h
 by_cases h:k=22
 ·rw [if_pos h]; dsimp only; exact numI_64 _
 rw [if_neg h]
 clear h
 by_cases h:k=23
 ·rw [if_pos h]; dsimp only; exact numI_64 _
 rw [if_neg h]
 clear h
 exact numI_64 false
structure FO where
 v:Int
 c:Bool
def Fo6 (w:World) (p:Addr) (f:FO):Prop:=∃ k n s A l c,w.cell? p=some (.int .u8 k)/\w.cell? ⟨p.block,p.off+1,none⟩=some (.int .i64 n)/\w.cell? ⟨p.block,p.off+2,none⟩=some (.string s)/\w.cell? ⟨p.block,p.off+3,none⟩=some (.slice A l c)/\w.cell? ⟨p.block,p.off+4,none⟩=some (.int .i64 f.v)/\w.cell? ⟨p.block,p.off+5,none⟩=some (.bool f.c)
def RowF (w:World) (S:Nat->Prop) (A:Option Addr) (fs:List FO):Prop :=
 ∀ i (hi:i<fs.length),∃ a:Addr,A=some a/\S a.block/\Fo6 w (a.add (i*6)) fs[i]/\I64 fs[i].v
def valE (k n:Int) (fs:List FO):FO :=
 if fs.all (·.c) then
  if k=1 then ⟨n,true⟩ else if 2<=k/\k<=5 then ⟨0,false⟩ else
  if k=6\/k=7 then ⟨(unE k (fs[0]?.elim 0 (·.v))).1,(unE k (fs[0]?.elim 0 (·.v))).2==0⟩ else
  ⟨(apE k (fs[0]?.elim 0 (·.v)) (fs[1]?.elim 0 (·.v))).1,(apE k (fs[0]?.elim 0 (·.v)) (fs[1]?.elim 0 (·.v))).2==0⟩
 else ⟨0,false⟩
def nrm (f:FO):FO:=if f.c=true then f else ⟨0,false⟩
mutual
/-- Value and constancy of a folded tree. -/
def foldE:T->FO
 | .nd k n _ ks=>nrm (valE k n (foldEs ks))
def foldEs:List T->List FO
 | []=>[]
 | t::ts=>foldE t::foldEs ts
end
theorem foldEs_map:∀ ks:List T,foldEs ks=ks.map foldE
 | []=>by simp [foldEs]
 | t::ts=>by simp [foldEs,foldEs_map ts]
theorem RowF.later {w w':World} {S:Nat->Prop} {A:Option Addr} {fs:List FO} (h:RowF w S A fs) (hb:Below w.heap.size w w'):RowF w' S A fs:=fun i hi=>by
 obtain ⟨a,h1,h2,⟨k,n,s,A',l,c,q0,q1,q2,q3,q4,q5⟩,h4⟩:=h i hi
 have kp:∀ {p:Addr} {v:Value},w.cell? p=some v->w'.cell? p=some v:=fun {p v} hq=>cell_kp hq (hb.block _ (World.block_lt_of_cell? w _ hq))
 exact ⟨a,h1,h2,⟨k,n,s,A',l,c,kp q0,kp q1,kp q2,kp q3,kp q4,kp q5⟩,h4⟩
theorem RowF.nd {w:World} {S:Nat->Prop} {A:Option Addr} {fs:List FO} (h:RowF w S A fs) {i:Nat} (hi:i<fs.length):∃ (a:Addr) (f:FO),A=some a/\Hid (fs[i]=f)/\Fo6 w (a.add (i*6)) f/\I64 f.v :=
 let ⟨a,h1,_,h3,h4⟩:=h i hi; ⟨a,fs[i],h1,rfl,h3,h4⟩
theorem cvalue_any (t:T) (fs:List FO) (A:Option Addr) (c:Nat) (S:Nat->Prop) (v:Value) (w:World) (hv:NV w Any t v) (hrow:RowF w S A fs) (hl:fs.length<=100000) (h1:t.k=6\/t.k=7->1<=fs.length) (h2:8<=t.k->t.k<=23/\2<=fs.length) (h0:1<=t.k) :
  Calls Tryz.prog 218 #[v,.slice A fs.length c] w fun e w'=>e=.returned (.tuple #[.int .i64 (valE t.k t.n fs).v,.bool (valE t.k t.n fs).c])/\Below w.heap.size w w':=by
 obtain ⟨B,tc,rfl,hf,hlk,-,-⟩:=hv.open_
 obtain ⟨k,hk⟩:∃ k,t.k=k:=⟨_,rfl⟩
 obtain ⟨n,hn⟩:∃ n,t.n=n:=⟨_,rfl⟩
 obtain ⟨s,hs⟩:∃ s,t.s=s:=⟨_,rfl⟩
 obtain ⟨l,hlks⟩:∃ l,t.ks.length=l:=⟨_,rfl⟩
 rw [hk,hn,hs,hlks]
 rw [hk] at h0 h1 h2
 clear hv hf hlk hk hn hs hlks
 obtain ⟨F,hF⟩:∃ F,valE k n fs=F:=⟨_,rfl⟩
 rw [hF]
 have HF:=zh hF
 have HROW:=zh hrow
 have H1:=zh h1
 have H2:=zh h2
 clear hF hrow h1 h2
 go_enter Tryz.func218,Tryz.ntmps218
 go_wp2_with fail
 go_loopw [12] (fun i wr=>∃ j:Nat,j<=fs.length/\i=.int .i64 j/\(fs.take j).all (·.c)=true/\Below w.heap.size w wr/\wr.heap[w.heap.size]?=some (.cells #[.int .u8 k,.int .i64 n,.string s,.slice B l tc] 29 (0,0))) (fun i _=>fs.length-(intOf i).toNat)
 case atStart=>exact ⟨0,Nat.zero_le _,rfl,by simp,bl_al (Below.refl _ _) _,heap_alloc_new w _⟩
 case round =>
  obtain ⟨j,hj,rfl,hall,hbw,hbx⟩:=hrel
  have HBW:=zh hbw
  have HBX:=zh hbx
  have HALL:=zh hall
  by_cases hlt:j<fs.length
  ·obtain ⟨a,f,rfl,Hf,⟨k1,n1,s1,A1,l1,c1,q0,q1,q2,q3,q4,q5⟩,-⟩:=(HROW.out.later hbw).nd hlt
   obtain ⟨fv,fc⟩:=f
   clear hbw hbx hall
   dsimp only at q4 q5
   cases fc
   ·go_wp2_with fail
    go_ret2
    have hF0:F=⟨0,false⟩:=by
     rw [<-HF.out,valE,if_neg]
     intro h
     have:=List.all_eq_true.1 h _ (List.getElem_mem hlt)
     rw [Hf.out] at this
     cases this
    subst hF0
    exact ⟨rfl,bl_al HBW.out _⟩
   ·go_wp2_with fail
    go_roundw
    case rel=>exact ⟨j+1,by omega,by go_num,by rw [List.take_succ_eq_append_getElem hlt,List.all_append,HALL.out,Hf.out]; rfl,bl_al HBW.out _,blk_al HBX.out _⟩
    case measure=>simp [intOf]; omega
  ·have hjl:j=fs.length:=by omega
   have hallf:fs.all (·.c)=true:=by have:=HALL.out; rwa [hjl,List.take_of_length_le (Nat.le_refl _)] at this
   have hge:¬ ((j:Int)<(fs.length:Int)):=by omega
   have HAF:=zh hallf
   obtain ⟨m0,m1,m2,m3⟩:=box4 hbx
   clear hbw hbx hall hallf
   by_cases k1:k=1
   ·subst k1
    go_wp2_with fail
    go_ret2
    have hF0:F=⟨n,true⟩:=by rw [<-HF.out,valE,if_pos HAF.out]; simp
    subst hF0
    exact ⟨rfl,HBW.out⟩
   ·by_cases k2:k=2\/k=3\/k=4\/k=5
    ·have hF0:F=⟨0,false⟩:=by rw [<-HF.out,valE,if_pos HAF.out,if_neg k1,if_pos (by omega)]
     subst hF0
     rcases k2 with rfl|rfl|rfl|rfl
     all_goals (go_wp2_with fail; go_ret2; exact ⟨rfl,HBW.out⟩)
    ·by_cases k6:k=6\/k=7
     ·have hl1:=H1.out k6
      obtain ⟨a,f,rfl,Hf,⟨k1',n1',s1',A1',l1',c1',q0,q1,q2,q3,q4,q5⟩,-⟩:=(HROW.out.later HBW.out).nd (show 0<fs.length by omega)
      have hfl:(0:Int)<(fs.length:Int):=by omega
      have hfl0:0<fs.length:=by omega
      have hF0:F=⟨(unE k f.v).1,(unE k f.v).2==0⟩:=by
       have e0:fs[0]?=some f:=by rw [List.getElem?_eq_getElem (by omega),Hf.out]
       rw [<-HF.out,valE,if_pos HAF.out,if_neg k1,if_neg (by omega),if_pos k6,e0]; rfl
      have HUN:=zh (Unary_any k f.v k6)
      obtain ⟨⟨uv,ue⟩,hU⟩:∃ p,unE k f.v=p:=⟨_,rfl⟩
      rw [hU] at HUN hF0
      dsimp only at HUN hF0
      have HF0:=zh hF0
      clear hU hF0
      rcases k6 with rfl|rfl
      ·have HS:=zh (show (fun w':World=>w'.cell? ⟨w.heap.size,0,none⟩=some (.int .u8 6)/\w'.cell? ⟨a.block,a.off+4,none⟩=some (.int .i64 f.v)) wr.drew from ⟨m0,by simpa [Addr.add_zero'] using q4⟩)
       clear q0 q1 q2 q3 q4 q5
       go_upto_region 20 with fail
       go_region_held3 (fun w':World=>w'.cell? ⟨w.heap.size,0,none⟩=some (.int .u8 6)/\w'.cell? ⟨a.block,a.off+4,none⟩=some (.int .i64 f.v))
        (with_reducible exact HS.out)
        (first
         | (go_at_call 176; refine (HUN.out _).mono ?_; rintro e x1 ⟨rfl,rfl⟩)
         | fail)
       go_wp2_with fail
       go_ret2
       exact ⟨by rw [HF0.out]; rfl,HBW.out.drew⟩
      ·have HS:=zh (show (fun w':World=>w'.cell? ⟨w.heap.size,0,none⟩=some (.int .u8 7)/\w'.cell? ⟨a.block,a.off+4,none⟩=some (.int .i64 f.v)) wr.drew from ⟨m0,by simpa [Addr.add_zero'] using q4⟩)
       clear q0 q1 q2 q3 q4 q5
       go_upto_region 20 with fail
       go_region_held3 (fun w':World=>w'.cell? ⟨w.heap.size,0,none⟩=some (.int .u8 7)/\w'.cell? ⟨a.block,a.off+4,none⟩=some (.int .i64 f.v))
        (with_reducible exact HS.out)
        (first
         | (go_at_call 176; refine (HUN.out _).mono ?_; rintro e x1 ⟨rfl,rfl⟩)
         | fail)
       go_wp2_with fail
       go_ret2
       exact ⟨by rw [HF0.out]; rfl,HBW.out.drew⟩
     ·have hl2:=H2.out (by omega)
      have hl2':=hl2.2
      obtain ⟨a,f,rfl,Hf,⟨k1',n1',s1',A1',l1',c1',q0,q1,q2,q3,q4,q5⟩,-⟩:=(HROW.out.later HBW.out).nd (show 0<fs.length by omega)
      obtain ⟨a',f',ea,Hf',⟨k2',n2',s2',A2',l2',c2',y0,y1,y2,y3,y4,y5⟩,-⟩:=(HROW.out.later HBW.out).nd (show 1<fs.length by omega)
      injection ea with ea
      subst ea
      have hfl:(0:Int)<(fs.length:Int):=by omega
      have hfl0:0<fs.length:=by omega
      have hfl1:(1:Int)<(fs.length:Int):=by omega
      have hfl2:1<fs.length:=by omega
      have hF0:F=⟨(apE k f.v f'.v).1,(apE k f.v f'.v).2==0⟩:=by
       have e0:fs[0]?=some f:=by rw [List.getElem?_eq_getElem (by omega),Hf.out]
       have e1:fs[1]?=some f':=by rw [List.getElem?_eq_getElem (by omega),Hf'.out]
       rw [<-HF.out,valE,if_pos HAF.out,if_neg k1,if_neg (by omega),if_neg k6,e0,e1]; rfl
      have HUN:=zh (Apply_any k f.v f'.v (by omega))
      obtain ⟨⟨uv,ue⟩,hU⟩:∃ p,apE k f.v f'.v=p:=⟨_,rfl⟩
      rw [hU] at HUN hF0
      dsimp only at HUN hF0
      have HF0:=zh hF0
      have x1:(k==1)=false:=by simp; omega
      have x2:(k==2)=false:=by simp; omega
      have x3:(k==3)=false:=by simp; omega
      have x4:(k==4)=false:=by simp; omega
      have x5:(k==5)=false:=by simp; omega
      have x6:(k==6)=false:=by simp; omega
      have x7:(k==7)=false:=by simp; omega
      have HS:=zh (show (fun w':World=>w'.cell? ⟨w.heap.size,0,none⟩=some (.int .u8 k)/\w'.cell? ⟨a.block,a.off+4,none⟩=some (.int .i64 f.v)/\w'.cell? ⟨a.block,a.off+6+4,none⟩=some (.int .i64 f'.v)) wr.drew from ⟨m0,by simpa [Addr.add_zero'] using q4,by simpa [Addr.add] using y4⟩)
      clear hU hF0 q0 q1 q2 q3 q4 q5 y0 y1 y2 y3 y4 y5 k1 k2 k6
      go_upto_region 10 with fail
      go_region_held3 (fun w':World=>w'.cell? ⟨w.heap.size,0,none⟩=some (.int .u8 k)/\w'.cell? ⟨a.block,a.off+4,none⟩=some (.int .i64 f.v)/\w'.cell? ⟨a.block,a.off+6+4,none⟩=some (.int .i64 f'.v))
       (with_reducible exact HS.out)
       (first
        | (go_at_call 177; refine (HUN.out _).mono ?_; rintro e x1 ⟨rfl,rfl⟩)
        | fail)
      go_wp2_with fail
      go_ret2
      exact ⟨by rw [HF0.out]; rfl,HBW.out.drew⟩
def Chunk (f:FO) (us:List Value):Prop:=∃ k n s A l c,us=[.int .u8 k,.int .i64 n,.string s,.slice A l c,.int .i64 f.v,.bool f.c]
inductive FlatF:List FO->List Value->Prop
 | nil:FlatF [] []
 | snoc {fs:List FO} {xs:List Value} {f:FO} {us:List Value}:FlatF fs xs->Chunk f us->FlatF (fs++[f]) (xs++us)
theorem FlatF.len {fs:List FO} {xs:List Value} (h:FlatF fs xs):xs.length=fs.length*6:=by
 induction h with
 | nil=>rfl
 | snoc _ hc ih=>obtain ⟨_,_,_,_,_,_,rfl⟩:=hc; simp [ih]; omega
theorem FlatF.get {fs:List FO} {xs:List Value} (h:FlatF fs xs):∀ i (hi:i<fs.length),∃ us,Chunk fs[i] us/\∀ j,j<6->xs[i*6+j]?=us[j]?:=by
 induction h with
 | nil=>intro i hi; simp at hi
 | @snoc fs xs f us h hc ih =>
  intro i hi
  have hl:=h.len
  by_cases hlt:i<fs.length
  ·obtain ⟨us',h1,h2⟩:=ih i hlt
   rw [List.getElem_append_left hlt]
   refine ⟨us',h1,fun j hj=>?_⟩
   rw [List.getElem?_append_left (by omega)]
   exact h2 j hj
  ·obtain rfl:i=fs.length:=by simp at hi; omega
   refine ⟨us,by simpa using hc,fun j hj=>?_⟩
   rw [List.getElem?_append_right (by omega),show fs.length*6+j-xs.length=j by omega]
theorem ownsRow_rowF {w:World} {base:Nat} {E:TypeId} {v:Value} {fs:List FO} {xs:List Value} (h:w.ownsRow base E 6 v fs.length xs) (hx:FlatF fs xs) (hf:∀ f∈fs,I64 f.v):∃ A c,v=.slice A fs.length c/\fs.length<=c/\RowF w Any A fs:=by
 rcases h.2 with ⟨rfl,h0⟩|⟨g,cap,cur,rfl,hb,hg,hc,hm,hz,hx'⟩
 ·exact ⟨none,0,by rw [h0],by omega,fun i hi=>absurd hi (by omega)⟩
 ·refine ⟨some ⟨g,0,none⟩,cap,rfl,hc,fun i hi=>?_⟩
  have ha:(⟨g,0,none⟩:Addr).add (i*6)=⟨g,i*6,none⟩:=by unfold Addr.add; split<;>simp_all
  obtain ⟨us,⟨k,n,s,A,l,c,rfl⟩,h2⟩:=hx.get i hi
  have cc:∀ j,j<6->w.cell? ⟨g,i*6+j,none⟩=([.int .u8 k,.int .i64 n,.string s,.slice A l c,.int .i64 fs[i].v,.bool fs[i].c]:List Value)[j]?:=fun j hj=>by
   rw [h.cellAt _ (by omega),h2 j hj]
  refine ⟨⟨g,0,none⟩,rfl,trivial,?_,hf _ (List.getElem_mem hi)⟩
  rw [ha]
  exact ⟨k,n,s,A,l,c,by simpa using cc 0 (by omega),by simpa using cc 1 (by omega),by simpa using cc 2 (by omega),by simpa using cc 3 (by omega),by simpa using cc 4 (by omega),by simpa using cc 5 (by omega)⟩
abbrev fv (k n:Int) (s:ByteArray) (A:Option Addr) (l c:Nat) (f:FO):Value:=.agg #[.int .u8 k,.int .i64 n,.string s,.slice A l c,.int .i64 f.v,.bool f.c]
def NewF (w:World) (f:FO) (e:Ending) (w':World):Prop:=∃ k n s A l c,e=.returned (fv k n s A l c f)/\I64 f.v/\Below w.heap.size w w'
def FoldC (t:T):Prop:=∀ (v:Value) (w:World),NV w Any t v->Calls Tryz.prog 214 #[v] w (NewF w (foldE t))
theorem foldInfo:(Tryz.prog.info? 246).map (fun i=>(i.zero,i.size,i.bytes))=some (some (.agg #[.int .u8 0,.int .i64 0,.string ⟨#[]⟩,.slice none 0 0,.int .i64 0,.bool false]),6,72):=by kernel_rfl
theorem buildSFo (a0 a1 a2 a3 a4 a5:Value) (w:World):(Instr.buildSlice 249 1 #[(0,.agg #[a0,a1,a2,a3,a4,a5])]).run Tryz.prog w=.ok (.slice (some ⟨w.heap.size,0,none⟩) 1 1) (w.alloc (.cells #[a0,a1,a2,a3,a4,a5] 246)):=by kernel_rfl
theorem eachF_any (ks:List T) (A:Option Addr) (c:Nat) (w:World) (hrow:RowAt w Any A ks) (hl:ks.length<=8) (hF:∀ kid∈ks,FoldC kid) :
  Calls Tryz.prog 217 #[.slice A ks.length c,.func (.func 214) #[] #[]] w fun e w'=>∃ A' c',e=.returned (.slice A' ks.length c')/\RowF w' Any A' (ks.map foldE)/\Below w.heap.size w w':=by
 obtain ⟨i0,hi0,hz0,hz1,hz2⟩:=info_parts foldInfo
 have HF:=zh hF
 have HROW:=zh hrow
 clear hF hrow
 have hbs:=buildSFo
 go_enter Tryz.func217,Tryz.ntmps217
 go_wp2_with fail
 go_loopw [5,10] (fun x i wr=>∃ (j:Nat) (xs:List Value),j<=ks.length/\i=.int .i64 j/\wr.ownsRow w.heap.size 246 6 x j xs/\FlatF ((ks.take j).map foldE) xs/\(∀ f∈(ks.take j).map foldE,I64 f.v)/\Below w.heap.size w wr) (fun _ i _=>ks.length-(intOf i).toNat)
 case atStart=>exact ⟨0,[],Nat.zero_le _,rfl,World.ownsRow_nil _ _ _ _,.nil,by simp,Below.refl _ _⟩
 case round =>
  obtain ⟨j,xs,hj,rfl,hown,hfl,hf64,hbw⟩:=hrel
  have hxsl:∃ A3 c3,u5=.slice A3 j c3:=by
   rcases hown.2 with ⟨rfl,rfl⟩|⟨g,cap,cur,rfl,_⟩
   ·exact ⟨_,_,rfl⟩
   ·exact ⟨_,_,rfl⟩
  obtain ⟨A3,c3,rfl⟩:=hxsl
  have HOWN:=zh hown
  have HFL:=zh hfl
  have HF64:=zh hf64
  have HBW:=zh hbw
  clear hown hfl hf64
  by_cases hlt:j<ks.length
  ·obtain ⟨a,t,A1,c1,rfl,_,Ht,⟨q0,q1,q2,q3⟩,hn⟩:=(HROW.out.later hbw).nd hlt
   have hF1:=HF.out ks[j] (List.getElem_mem hlt)
   rw [Ht.out] at hF1
   have HF1:=zh hF1
   have HN:=zh hn
   clear hF1 hn hbw
   go_wp2_with fail
   refine (HF1.out _ _ (HN.out.later ((Below.refl _ _).alloc (Nat.le_refl _) _))).mono ?_
   rintro e w1 ⟨k',n',s',A',l',c',rfl,h64,bw1⟩
   have hb1:Below wr.heap.size wr w1:=bl_tt (bl_al (Below.refl _ _) _) bw1
   have hown1:=(own_later HOWN.out hb1).alloc (.cells #[.int .u8 k',.int .i64 n',.string s',.slice A' l' c',.int .i64 (foldE t).v,.bool (foldE t).c] 246)
   have HB1:=zh hb1
   have hbz:=HBW.out.size
   have hbz1:=hb1.size
   have HN1:=zh (news_newN w1 246 [.int .u8 k',.int .i64 n',.string s',.slice A' l' c',.int .i64 (foldE t).v,.bool (foldE t).c])
   clear q0 q1 q2 q3 bw1
   go_wp2_with (at_builtin; refine wpList_append_own_at (P:=Tryz.prog) _ rfl (.tmp 14) (.tmp 18) 249 rfl w.heap.size 246 i0 _ 6 72 Tryz.underlying249 hi0 hz0 hz1 hz2 rfl (by decide) (.slice A3 j c3) j xs rfl hown1 ⟨w1.heap.size,0,none⟩ 1 1 [.int .u8 k',.int .i64 n',.string s',.slice A' l' c',.int .i64 (foldE t).v,.bool (foldE t).c] rfl rfl HN1.out (by intro u hu; simp at hu; rcases hu with rfl|rfl|rfl|rfl|rfl|rfl<;>rfl) (by unfold maxLen; omega) (by omega) (by simp; omega) ?_; intro v' w' h2 h3 h4 h5)
   have hbl:Below w.heap.size w w':=(bl_al (bl_tt HBW.out HB1.out) _).grown h3 (by simp; omega) (fun g e=>(hown1.lt g e).1)
   have e2:(ks.take (j+1)).map foldE=(ks.take j).map foldE++[foldE t]:=by rw [List.take_succ_eq_append_getElem hlt,Ht.out]; simp
   refine ⟨⟨j+1,_,by omega,rfl,h2,?_,?_,hbl⟩,by simp [intOf]; omega⟩
   ·rw [e2]; exact HFL.out.snoc ⟨_,_,_,_,_,_,rfl⟩
   ·intro f hf
    rw [e2,List.mem_append] at hf
    rcases hf with hf|hf
    ·exact HF64.out f hf
    ·simp at hf; rw [hf]; exact h64
  ·obtain rfl:j=ks.length:=by omega
   have e3:ks.take ks.length=ks:=List.take_of_length_le (Nat.le_refl _)
   have h1:=HFL.out
   have h2:=HF64.out
   rw [e3] at h1 h2
   have h3:=HOWN.out
   rw [show ks.length=(ks.map foldE).length by simp] at h3
   obtain ⟨A4,c4,e4,hc4,hrf⟩:=ownsRow_rowF h3 h1 h2
   have e5:A4=A3:=by injection e4 with e _ _; exact e.symm
   subst e5
   have HRF:=zh hrf
   clear hbw h1 h2 h3 e4 hrf
   go_wp2_with fail
   go_ret
   exact ⟨_,_,rfl,HRF.out,HBW.out⟩
theorem fold1_any (k n:Int) (s:ByteArray) (A:Option Addr) (l c:Nat) (f:FO) (w:World):Calls Tryz.prog 221 #[fv k n s A l c f] w (SomeN w):=by
 go_enter Tryz.func221,Tryz.ntmps221
 go_wp2_with fail
 exact bodyPost_ret (v:=nv k n s A l c) (by simp [results,Tryz.results221,go_sem]) rfl ⟨_,_,_,_,_,_,rfl,bl_al (bl_al (Below.refl _ _) _) _⟩
theorem eachN_any (fs:List FO) (A:Option Addr) (c:Nat) (S:Nat->Prop) (w:World) (hrow:RowF w S A fs) (hl:fs.length<=8) :
  Calls Tryz.prog 220 #[.slice A fs.length c,.func (.func 221) #[] #[]] w fun e w'=>∃ A' l' c',e=.returned (.slice A' l' c')/\Below w.heap.size w w':=by
 obtain ⟨i0,hi0,hz0,hz1,hz2⟩:=info_parts nodeInfo
 have HROW:=zh hrow
 clear hrow
 have hbs:=build1
 go_enter Tryz.func220,Tryz.ntmps220
 go_wp2_with fail
 go_loopw [5,10] (fun x i wr=>∃ (j:Nat) (xs:List Value),j<=fs.length/\i=.int .i64 j/\wr.ownsRow w.heap.size 29 4 x j xs/\Below w.heap.size w wr) (fun _ i _=>fs.length-(intOf i).toNat)
 case atStart=>exact ⟨0,[],Nat.zero_le _,rfl,World.ownsRow_nil _ _ _ _,Below.refl _ _⟩
 case round =>
  obtain ⟨j,xs,hj,rfl,hown,hbw⟩:=hrel
  have hxsl:∃ A3 c3,u5=.slice A3 j c3:=by
   rcases hown.2 with ⟨rfl,rfl⟩|⟨g,cap,cur,rfl,_⟩
   ·exact ⟨_,_,rfl⟩
   ·exact ⟨_,_,rfl⟩
  obtain ⟨A3,c3,rfl⟩:=hxsl
  have HOWN:=zh hown
  have HBW:=zh hbw
  clear hown
  by_cases hlt:j<fs.length
  ·obtain ⟨a,f,rfl,Hf,⟨k1,n1,s1,A1,l1,c1,q0,q1,q2,q3,q4,q5⟩,-⟩:=(HROW.out.later hbw).nd hlt
   clear hbw
   go_wp2_with fail
   refine (fold1_any k1 n1 s1 A1 l1 c1 f _).mono ?_
   rintro e w1 ⟨k',n',s',A',l',c',rfl,bw1⟩
   have hb1:Below wr.heap.size wr w1:=bl_tt (bl_al (Below.refl _ _) _) bw1
   have hown1:=(own_later HOWN.out hb1).alloc (.cells #[.int .u8 k',.int .i64 n',.string s',.slice A' l' c'] 29)
   have HB1:=zh hb1
   have hbz:=HBW.out.size
   have hbz1:=hb1.size
   have HN1:=zh (news_newN w1 29 [.int .u8 k',.int .i64 n',.string s',.slice A' l' c'])
   clear q0 q1 q2 q3 q4 q5 bw1
   go_wp2_with (at_builtin; refine wpList_append_own_at (P:=Tryz.prog) _ rfl (.tmp 14) (.tmp 18) 27 rfl w.heap.size 29 i0 _ 4 56 Tryz.underlying27 hi0 hz0 hz1 hz2 rfl (by decide) (.slice A3 j c3) j xs rfl hown1 ⟨w1.heap.size,0,none⟩ 1 1 [.int .u8 k',.int .i64 n',.string s',.slice A' l' c'] rfl rfl HN1.out (by intro u hu; simp at hu; rcases hu with rfl|rfl|rfl|rfl<;>rfl) (by unfold maxLen; omega) (by omega) (by simp; omega) ?_; intro v' w' h2 h3 h4 h5)
   have hbl:Below w.heap.size w w':=(bl_al (bl_tt HBW.out HB1.out) _).grown h3 (by simp; omega) (fun g e=>(hown1.lt g e).1)
   exact ⟨⟨j+1,_,by omega,rfl,h2,hbl⟩,by simp [intOf]; omega⟩
  ·obtain rfl:j=fs.length:=by omega
   clear hbw
   go_wp2_with fail
   go_ret
   exact ⟨_,_,_,rfl,HBW.out⟩
theorem value_L (t:T) (fs:List FO) (L:Nat) (hL:fs.length=L) (A:Option Addr) (c:Nat) (S:Nat->Prop) (v:Value) (w:World) (hv:NV w Any t v) (hrow:RowF w S A fs) (hl:L<=100000) (h1:t.k=6\/t.k=7->1<=L) (h2:8<=t.k->t.k<=23/\2<=L) (h0:1<=t.k) (g:FO) (hg:valE t.k t.n fs=g) :
  Calls Tryz.prog 218 #[v,.slice A L c] w fun e w'=>e=.returned (.tuple #[.int .i64 g.v,.bool g.c])/\Below w.heap.size w w':=by
 subst hL hg
 exact cvalue_any t fs A c S v w hv hrow hl h1 h2 h0
theorem eachN_L (fs:List FO) (L:Nat) (hL:fs.length=L) (A:Option Addr) (c:Nat) (S:Nat->Prop) (w:World) (hrow:RowF w S A fs) (hl:L<=8) :
  Calls Tryz.prog 220 #[.slice A L c,.func (.func 221) #[] #[]] w fun e w'=>∃ A' l' c',e=.returned (.slice A' l' c')/\Below w.heap.size w w':=by
 subst hL
 exact eachN_any fs A c S w hrow hl
theorem valE_64 {k n:Int} {fs:List FO} (hn:I64 n) (hf:∀ f∈fs,I64 f.v):I64 (valE k n fs).v:=by
 have h0:I64 (fs[0]?.elim 0 (·.v)):=by
  cases fs with
  | nil=>simp [I64]
  | cons f fs=>simpa using hf f (by simp)
 unfold valE
 split
 ·split
  ·exact hn
  ·split
   ·simp [I64]
   ·split
    ·exact unE_64
    ·exact apE_64 h0
 ·simp [I64]
theorem RowF.fits {w:World} {S:Nat->Prop} {A:Option Addr} {fs:List FO} (h:RowF w S A fs):∀ f∈fs,I64 f.v:=fun f hf=>by
 obtain ⟨i,hi,rfl⟩:=List.getElem_of_mem hf
 obtain ⟨_,_,_,_,h⟩:=h i hi
 exact h
theorem isE_shape {k n:Int} {s:ByteArray} {ks:List T} (h:isE (.nd k n s ks)=true):1<=k/\k<=23/\ks.length<=2/\(k=6\/k=7->1<=ks.length)/\(8<=k->2<=ks.length):=by
 rw [isE] at h
 split at h
 ·simp only [Bool.and_eq_true,decide_eq_true_eq] at h; omega
 ·split at h
  ·simp only [Bool.and_eq_true,decide_eq_true_eq] at h; omega
  ·split at h
   ·simp only [Bool.and_eq_true,decide_eq_true_eq] at h; omega
   ·split at h
    ·simp only [Bool.and_eq_true,decide_eq_true_eq] at h; omega
    ·split at h
     ·simp only [Bool.and_eq_true,decide_eq_true_eq] at h; omega
     ·cases h
theorem fold_any (t:T) (hE:isE t=true):FoldC t:=by
 revert hE
 refine T.ind (p:=fun t=>isE t=true->FoldC t) ?_ t
 intro k n s ks ih hE v w hv
 have hk:=isE_kids hE
 have hsh:=isE_shape hE
 have HV:=zh hv
 obtain ⟨A,c,rfl,hf,hlk,hlc,hrow⟩:=hv.open_
 simp only [T.k_nd,T.n_nd,T.s_nd,T.ks_nd] at *
 have HIH:=zh (fun t ht=>ih t ht (hk t ht))
 have HROW:=zh hrow
 obtain ⟨g,hg⟩:∃ g,valE k n (ks.map foldE)=g:=⟨_,rfl⟩
 have hff:foldE (.nd k n s ks)=nrm g:=by rw [foldE,foldEs_map,hg]
 rw [hff]
 have HG:=zh hg
 have HSH:=zh hsh
 have HFD:=zh hf
 clear ih hk hrow hg hff hsh hE hlk hlc hf
 go_enter Tryz.func214,Tryz.ntmps214
 go_wp2_with fail
 refine (eachF_any ks A c _ (HROW.out.later (bl_al (bl_al (Below.refl _ _) _) _)) (by have:=HSH.out; omega) HIH.out).mono ?_
 rintro e w1 ⟨A1,c1,rfl,hrf,bw1⟩
 have q1:Below w.heap.size w w1:=bl_tt (bl_al (bl_al (Below.refl _ _) _) _) bw1
 have hN:=blk_bl (blk_al (heap_alloc_new w (.cells #[.int .u8 k,.int .i64 n,.string s,.slice A ks.length c] 29)) _) bw1
 have hR:=blk_bl (heap_alloc_new (w.alloc (.cells #[.int .u8 k,.int .i64 n,.string s,.slice A ks.length c] 29)) (.cells #[.int .u8 0,.int .i64 0,.string ⟨#[]⟩,.slice none 0 0,.int .i64 0,.bool false] 246)) bw1
 simp only [World.size_alloc] at hR
 obtain ⟨a0,a1,a2,a3⟩:=box4 hN
 have HG64:=zh (show I64 g.v from HG.out▸valE_64 HFD.out.2.1 hrf.fits)
 have HN:=zh hN
 have HR:=zh hR
 have HRF:=zh hrf
 clear bw1 hN hR hrf
 go_wp2_with fail
 refine (value_L (.nd k n s ks) (ks.map foldE) ks.length (by simp) A1 c1 Any _ _ (HV.out.later q1) HRF.out (by have:=HSH.out; omega) HSH.out.2.2.2.1 (fun h=>⟨HSH.out.2.1,HSH.out.2.2.2.2 h⟩) HSH.out.1 g HG.out).mono ?_
 rintro e w2 ⟨rfl,bw2⟩
 have q2:=bl_tt q1 bw2
 have hN:=blk_bl HN.out bw2
 have hR:=blk_bl HR.out bw2
 obtain ⟨gv,gc⟩:=g
 dsimp only at *
 cases gc
 ·clear a0 a1 a2 a3
  obtain ⟨a0,a1,a2,a3⟩:=box4 hN
  have HN:=zh hN
  have HR:=zh hR
  have HRF2:=zh (HRF.out.later bw2)
  clear hN hR bw2
  go_wp2_with fail
  refine (eachN_L (ks.map foldE) ks.length (by simp) A1 c1 Any _ HRF2.out (by have:=HSH.out; omega)).mono ?_
  rintro e w3 ⟨A3,l3,c3,rfl,bw3⟩
  have q3:=bl_tt q2 bw3
  have hN:=blk_bl HN.out bw3
  have hR:=blk_bl HR.out bw3
  have hz:w3.frozen? ⟨w.heap.size,3,none⟩=false:=zf hN
  clear a0 a1 a2 a3
  obtain ⟨a0,a1,a2,a3⟩:=box4 hN
  obtain ⟨r0,r1,r2,r3,r4,r5⟩:=box6 hR
  have rz:∀ i,w3.frozen? ⟨w.heap.size+1,i,none⟩=false:=fun i=>zf hR
  clear hN hR bw3
  go_wp2_with fail
  refine bodyPost_ret (v:=fv k n s A3 l3 c3 ⟨0,false⟩) (by simp [results,Tryz.results214,go_sem,r0,r1,r2,r3,r4,r5]) rfl ⟨_,_,_,_,_,_,rfl,by simp [nrm,I64],?_⟩
  exact (((((((q3.setCell (by simp) _).setCell (by simp) _).setCell (by simp) _).setCell (by simp) _).setCell (by simp) _).setCell (by simp) _).setCell (by simp) _)
 ·clear a0 a1 a2 a3
  obtain ⟨r0,r1,r2,r3,r4,r5⟩:=box6 hR
  have HN:=zh hN
  have HR:=zh hR
  clear hN hR bw2
  go_wp2_with fail
  refine (literal_any gv HG64.out _).mono ?_
  rintro e w3 ⟨k3,n3,s3,A3,l3,c3,rfl,bw3⟩
  have q3:=bl_tt q2 bw3
  have hR:=blk_bl HR.out bw3
  clear r0 r1 r2 r3 r4 r5
  obtain ⟨r0,r1,r2,r3,r4,r5⟩:=box6 hR
  have rz:∀ i,w3.frozen? ⟨w.heap.size+1,i,none⟩=false:=fun i=>zf hR
  clear hR bw3
  go_wp2_with fail
  refine bodyPost_ret (v:=fv k3 n3 s3 A3 l3 c3 ⟨gv,true⟩) (by simp [results,Tryz.results214,go_sem,r0,r1,r2,r3,r4,r5]) rfl ⟨_,_,_,_,_,_,rfl,HG64.out,?_⟩
  exact ((((((q3.setCell (by simp) _).setCell (by simp) _).setCell (by simp) _).setCell (by simp) _).setCell (by simp) _).setCell (by simp) _)
attribute [local go_sem] Oper.semAt_some
def conB (t:T):Bool:=isE t&&(foldE t).c
theorem Const_any (t:T) (v:Value) (w:World) (hv:NV w Any t v):Calls Tryz.prog 202 #[v] w fun e w'=>∃ x:Int,e=.returned (.tuple #[.int .i64 x,.bool (conB t)])/\Below w.heap.size w w':=by
 have HV:=zh hv
 obtain ⟨A,c,rfl,-⟩:=hv.open_
 clear hv
 cases hE:isE t
 ·have hc:conB t=false:=by simp [conB,hE]
  rw [hc]
  have HE:=zh hE
  generalize t.k=k,t.n=n,t.s=s,t.ks.length=m at *
  clear hE hc
  go_enter Tryz.func202,Tryz.ntmps202
  go_wp2_with fail
  refine (IsExpr_any t _ _ (HV.out.later (bl_al (Below.refl _ _) _))).mono ?_
  rintro e w1 ⟨rfl,bw1⟩
  have q1:=bl_tt (bl_al (Below.refl _ _) _) bw1
  rw [HE.out]
  clear bw1
  go_wp2_with fail
  go_ret2
  exact ⟨_,rfl,q1⟩
 ·have hc:conB t=(foldE t).c:=by simp [conB,hE]
  rw [hc]
  have HE:=zh hE
  obtain ⟨⟨gv,gc⟩,hf⟩:∃ f,foldE t=f:=⟨_,rfl⟩
  have HFO:=zh (show ∀ (v:Value) (w:World),NV w Any t v->Calls Tryz.prog 214 #[v] w (NewF w ⟨gv,gc⟩) from hf▸fold_any t hE)
  rw [hf]
  generalize t.k=k,t.n=n,t.s=s,t.ks.length=m at *
  clear hE hc hf
  go_enter Tryz.func202,Tryz.ntmps202
  go_wp2_with fail
  refine (IsExpr_any t _ _ (HV.out.later (bl_al (Below.refl _ _) _))).mono ?_
  rintro e w1 ⟨rfl,bw1⟩
  have q1:=bl_tt (bl_al (Below.refl _ _) _) bw1
  have hN:=blk_bl (heap_alloc_new w (.cells #[.int .u8 k,.int .i64 n,.string s,.slice A m c] 29)) bw1
  obtain ⟨a0,a1,a2,a3⟩:=box4 hN
  rw [HE.out]
  clear bw1 hN
  go_wp2_with fail
  refine (HFO.out _ _ (HV.out.later q1)).mono ?_
  rintro e w2 ⟨k2,n2,s2,A2,l2,c2,rfl,-,bw2⟩
  have q2:=bl_tt q1 bw2
  clear bw2 a0 a1 a2 a3
  obtain ⟨-,-,-,-,y4,y5⟩:=box6 (heap_alloc_new w2 (.cells #[.int .u8 k2,.int .i64 n2,.string s2,.slice A2 l2 c2,.int .i64 gv,.bool gc] 246))
  have HS:=zh (show (fun w':World=>w'.cell? ⟨w2.heap.size,4,none⟩=some (.int .i64 gv)/\w'.cell? ⟨w2.heap.size,5,none⟩=some (.bool gc)) (w2.alloc (.cells #[.int .u8 k2,.int .i64 n2,.string s2,.slice A2 l2 c2,.int .i64 gv,.bool gc] 246)).drew from ⟨y4,y5⟩)
  clear y4 y5
  go_upto_region 4 with fail
  go_region_held3 (fun w':World=>w'.cell? ⟨w2.heap.size,4,none⟩=some (.int .i64 gv)/\w'.cell? ⟨w2.heap.size,5,none⟩=some (.bool gc))
   (with_reducible exact HS.out)
   (first|fail)
  go_wp2_with fail
  refine bodyPost_ret (v:=.tuple #[.int .i64 gv,.bool gc]) (by simp [results,Tryz.results202,go_sem]) rfl ⟨gv,rfl,(bl_al q2 _).drew⟩
theorem constant_any (t:T) (v:Value) (w:World) (hv:NV w Any t v):Calls Tryz.prog 174 #[v] w fun e w'=>e=.returned (.bool (conB t))/\Below w.heap.size w w':=by
 have HV:=zh hv
 obtain ⟨A,c,rfl,-⟩:=hv.open_
 clear hv
 obtain ⟨b,hb⟩:∃ b,conB t=b:=⟨_,rfl⟩
 rw [hb]
 have HB:=zh hb
 clear hb
 generalize t.k=k,t.n=n,t.s=s,t.ks.length=m at *
 go_enter Tryz.func174,Tryz.ntmps174
 go_wp2_with fail
 refine (Const_any t _ _ (HV.out.later (bl_al (Below.refl _ _) _))).mono ?_
 rintro e w1 ⟨x,rfl,bw1⟩
 have q1:=bl_tt (bl_al (Below.refl _ _) _) bw1
 rw [HB.out]
 clear bw1
 go_wp2_with fail
 go_ret
 exact ⟨rfl,q1⟩
def naming (s:ByteArray) (x:T):Bool:=(x.k==2||x.k==3||x.k==4||x.k==5)&&x.s.toList==s.toList
def menB (t:T) (s:ByteArray):Bool:=(po t).any (naming s)
def MenI (nm:ByteArray) (N:Nat) (r:Bool) (q:Prop) (C:Nat->Prop) (W:World):Prop :=
 (∀ b,C b↔b=N+1\/b=N+1+1)/\W.heap[N+1]?=some (.cells #[.string nm] 9 (0,0))/\W.heap[N+1+1]?=some (.cells #[.bool r] 4 (0,0))/\q
theorem mentions_any (t:T) (nm:ByteArray) (v:Value) (w:World) (hv:NV w Any t v) (hd:dep t<=1000):Calls Tryz.prog 170 #[v,.string nm] w fun e w'=>e=.returned (.bool (menB t nm))/\Below w.heap.size w w':=by
 have HV:=zh hv
 obtain ⟨A,c,rfl,-⟩:=hv.open_
 clear hv
 obtain ⟨b,hb⟩:∃ b,menB t nm=b:=⟨_,rfl⟩
 rw [hb]
 have HB:=zh hb
 have HD:=zh hd
 clear hb hd
 generalize t.k=k,t.n=n,t.s=s,t.ks.length=m at *
 refine (callsIn_wide (n:=3)).1 (callsIn_of_wp_marks Tryz.func170 rfl trivial ((wpIn_wide (n:=3)).2 ?_))
 simp only [Tryz.ntmps170,List.size_toArray,List.length_cons,List.length_nil,Nat.reduceAdd,Nat.reduceSub,Array.replicate_succ,Array.replicate_zero,List.push_toArray,List.append_toArray,List.nil_append,List.cons_append]
 go_wp2_with fail
 refine (Walk_any t _ _ (HV.out.later (bl_al (bl_al (bl_al (Below.refl _ _) _) _) _))).mono ?_
 rintro e x6 ⟨gr,k6,n6,s6,A6,m6,c6,rfl,hgr,hgb,hn6,bx6⟩
 have q6:=bl_tt (bl_al (bl_al (bl_al (Below.refl w.heap.size w) _) _) _) bx6
 have hNB:=blk_bl (blk_al (heap_alloc_new (w.alloc (.cells #[.int .u8 k,.int .i64 n,.string s,.slice A m c] 29)) (.cells #[.string nm] 9)) (.cells #[.bool false] 4)) bx6
 have hRB:=blk_bl (heap_alloc_new ((w.alloc (.cells #[.int .u8 k,.int .i64 n,.string s,.slice A m c] 29)).alloc (.cells #[.string nm] 9)) (.cells #[.bool false] 4)) bx6
 simp only [World.size_alloc] at hNB hRB hgr
 have HGB:=zh hgb
 have HN6:=zh hn6
 have HQ6:=zh q6
 have HRB:=zh hRB
 have HNB:=zh hNB
 have HGR:=zh hgr
 clear bx6 hgb hn6 q6 hRB hNB hgr
 go_wp2_with fail
 refine (wpIn_wide (n:=3)).1 ?_
 refine range_walk (n:=3) (gf:=167) (lb := #[.pointer (some ⟨gr,0,none⟩)]) rfl (run_callFunc fnWalk1) (Walk1_stops (3-1) gr t x6 _ k6 n6 s6 A6 m6 c6 HGB.out HN6.out HD.out) rfl
  (fun pre C W=>MenI nm w.heap.size false (pre.any (naming nm)=false) C W)
  (fun _ C W=>MenI nm w.heap.size true ((po t).any (naming nm)=true) C W)
  (fun b=>b=w.heap.size+1\/b=w.heap.size+1+1)
  (fun pre C W W' ⟨h1,h2,h3,h4⟩ hc=>⟨h1,hc.keep h2 (fun h=>h ((h1 _).2 (.inl rfl))),hc.keep h3 (fun h=>h ((h1 _).2 (.inr rfl))),h4⟩)
  (fun pre C W W' ⟨h1,h2,h3,h4⟩ hc=>⟨h1,hc.keep h2 (fun h=>h ((h1 _).2 (.inl rfl))),hc.keep h3 (fun h=>h ((h1 _).2 (.inr rfl))),h4⟩)
  (fun pre C W ⟨h1,h2,h3,_⟩ b hb=>by rcases (h1 b).1 hb with rfl|rfl; exact blk_lt h2; exact blk_lt h3)
  (fun pre C W ⟨h1,h2,h3,_⟩ b hb=>by rcases (h1 b).1 hb with rfl|rfl; exact blk_lt h2; exact blk_lt h3)
  (fun b hb hr=>by have:=HGR.out; rcases hr with hr|hr<;>rcases hb with hb|hb<;>first|omega|(have:=hr.1; simp at this; omega)) ?_ ⟨fun _=>Iff.rfl,HNB.out,HRB.out,rfl⟩ ?_ ?_ ?_
 ·rintro b (rfl|hb)
  ·exact blk_lt HGB.out
  ·exact hb.2
 ·rintro l pre x C W pv v ⟨hC,hnb,hrb,hno⟩ hCl hl hlW hpre ⟨Ap,mp,cp,rfl⟩ hnx
  obtain ⟨Ax,cx,rfl,hfx,hlx,hlcx,hrx⟩:=hnx.open_
  change Code.wpIn (Fence.wide.inRound l) (3-1-1) Tryz.prog _ _ _ _
  gi_wp2
  refine ⟨(Chg.refl _ _).alloc _,fun W2 hW2=>?_⟩
  have hwl:=blk_lt hnb
  have hwl2:=blk_lt hrb
  have hbx:=hW2.keep (heap_alloc_new W (.cells #[.int .u8 x.k,.int .i64 x.n,.string x.s,.slice Ax x.ks.length cx] 29)) (show ¬ W.heap.size=l by omega)
  have hnb2:=hW2.keep (blk_al hnb (.cells #[.int .u8 x.k,.int .i64 x.n,.string x.s,.slice Ax x.ks.length cx] 29)) (fun h=>hCl ((hC _).2 (.inl h.symm)))
  have hrb2:=hW2.keep (blk_al hrb (.cells #[.int .u8 x.k,.int .i64 x.n,.string x.s,.slice Ax x.ks.length cx] 29)) (fun h=>hCl ((hC _).2 (.inr h.symm)))
  have hx0:W2.cell? ⟨W.heap.size,0,none⟩=some (.int .u8 x.k):=zc hbx rfl
  have hx2:W2.cell? ⟨W.heap.size,2,none⟩=some (.string x.s):=zc hbx rfl
  have hy0:W2.cell? ⟨w.heap.size+1,0,none⟩=some (.string nm):=zc hnb2 rfl
  have hz0:W2.cell? ⟨w.heap.size+1+1,0,none⟩=some (.bool false):=zc hrb2 rfl
  have hzf:W2.frozen? ⟨w.heap.size+1+1,0,none⟩=false:=zf hrb2
  have hxm:x∈po t:=by
   obtain ⟨ys,hys⟩:=hpre
   rw [<-hys]; simp
  have HXM:=zh hxm
  have HNO:=zh hno
  have HCC:=zh hC
  have HNB2:=zh hnb2
  have HRB2:=zh hrb2
  obtain ⟨nx,hnx'⟩:∃ z,naming nm x=z:=⟨_,rfl⟩
  have HNX:=zh hnx'
  obtain ⟨kk,hkk⟩:∃ kk,x.k=kk:=⟨_,rfl⟩
  obtain ⟨ss,hss⟩:∃ ss,x.s=ss:=⟨_,rfl⟩
  have HKS:=zh (show naming nm x=((kk==2||kk==3||kk==4||kk==5)&&ss.toList==nm.toList) by rw [<-hkk,<-hss]; rfl)
  rw [hkk] at hx0 ⊢
  rw [hss] at hx2 ⊢
  clear hW2 hbx hrx hnx hfx hlcx hlx hxm hpre hkk hss hC hnb2 hrb2 hno hnx'
  change Code.wpIn (Fence.wide.inRound l) (3-1-1) Tryz.prog _ _ _ _
  have HGO:=zh (show naming nm x=false->∀ ac,rPost
    (fun pre C W=>MenI nm w.heap.size false (pre.any (naming nm)=false) C W)
    (fun _ C W=>MenI nm w.heap.size true ((po t).any (naming nm)=true) C W)
    (pre++[x]) C W2 Exit.normal ac W2 from fun h _=>⟨C,⟨HCC.out,HNB2.out,HRB2.out,by rw [List.any_append,HNO.out]; simp [h]⟩,fun b hb=>.inl hb,Chg.refl _ _⟩)
  cases hq:(ss.toList==nm.toList)
  ·have hnn:naming nm x=false:=by rw [HKS.out,hq]; simp
   by_cases k2:kk=2
   ·subst k2; gi_wp2; exact HGO.out hnn _
   by_cases k3:kk=3
   ·subst k3; gi_wp2; exact HGO.out hnn _
   by_cases k4:kk=4
   ·subst k4; gi_wp2; exact HGO.out hnn _
   by_cases k5:kk=5
   ·subst k5; gi_wp2; exact HGO.out hnn _
   have x2:(kk==2)=false:=by simpa using k2
   have x3:(kk==3)=false:=by simpa using k3
   have x4:(kk==4)=false:=by simpa using k4
   have x5:(kk==5)=false:=by simpa using k5
   gi_wp2
   exact HGO.out hnn _
  ·have HST:=zh (show (kk==2||kk==3||kk==4||kk==5)=true->∃ C',MenI nm w.heap.size true ((po t).any (naming nm)=true) C' (W2.setCell ⟨w.heap.size+1+1,0,none⟩ (.bool true))/\(∀ b,C' b->C b\/W2.heap.size<=b)/\Chg C W2 (W2.setCell ⟨w.heap.size+1+1,0,none⟩ (.bool true)) from fun h=>by
    refine ⟨C,⟨HCC.out,?_,?_,?_⟩,fun b hb=>.inl hb,(Chg.refl _ _).setCell (.inl ((HCC.out _).2 (.inr rfl))) _⟩
    ·rw [Below.heap_setCell _ _ _ _ (by simp)]; exact HNB2.out
    ·have:=heap_setCell_same W2 (w.heap.size+1+1) 0 _ _ (.bool true) HRB2.out
     simpa using this
    ·rw [List.any_eq_true]; exact ⟨x,HXM.out,by rw [HKS.out,h,hq]; rfl⟩)
   by_cases k2:kk=2
   ·subst k2; gi_wp2; exact HST.out rfl
   by_cases k3:kk=3
   ·subst k3; gi_wp2; exact HST.out rfl
   by_cases k4:kk=4
   ·subst k4; gi_wp2; exact HST.out rfl
   by_cases k5:kk=5
   ·subst k5; gi_wp2; exact HST.out rfl
   have x2:(kk==2)=false:=by simpa using k2
   have x3:(kk==3)=false:=by simpa using k3
   have x4:(kk==4)=false:=by simpa using k4
   have x5:(kk==5)=false:=by simpa using k5
   have hnn:naming nm x=false:=by rw [HKS.out,x2,x3,x4,x5]; rfl
   gi_wp2
   exact HGO.out hnn _
 ·intro D C W' hD hC hch hK
  obtain ⟨hC1,hnb7,hr7,hno⟩:=hC
  have hbf:b=false:=by rw [<-HB.out]; exact hno
  subst hbf
  have r0:W'.cell? ⟨w.heap.size+1+1,0,none⟩=some (.bool false):=zc hr7 rfl
  have rf:W'.frozen? ⟨w.heap.size+1+1,0,none⟩=false:=zf hr7
  have hq6:=HQ6.out.size
  have hlR:=blk_lt HRB.out
  have HB7:=zh (show Below w.heap.size w W' from HQ6.out.trans (hch.below hq6 (fun b h=>by omega)))
  have HK:=zh hK
  have HR7:=zh hr7
  clear hch hK hr7 hC1 hnb7 hno
  go_wp2_with fail
  have hK':(W'.setCell ⟨w.heap.size+1+1,0,none⟩ (.bool false)).heap[D]?=some (.deferred (some [])):=(Below.heap_setCell _ _ _ _ (show D≠w.heap.size+1+1 by omega)).trans HK.out
  refine ⟨by simp,.inl ⟨_,_,rfl,run_takeDeferred hK',?_⟩⟩
  have hr8:=heap_setCell_same W' (w.heap.size+1+1) 0 _ _ (.bool false) HR7.out
  have hr9:((W'.setCell ⟨w.heap.size+1+1,0,none⟩ (.bool false)).putObj D (.deferred none)).heap[w.heap.size+1+1]?=some (.cells #[.bool false] 4 (0,0)):=(World.putObj_heap_other (show w.heap.size+1+1≠D by omega)).trans (by simpa using hr8)
  have r1:((W'.setCell ⟨w.heap.size+1+1,0,none⟩ (.bool false)).putObj D (.deferred none)).cell? ⟨w.heap.size+1+1,0,none⟩=some (.bool false):=zc hr9 rfl
  have hb8:=HB7.out.setCell (p:=⟨w.heap.size+1+1,0,none⟩) (by simp; omega) (.bool false)
  have hb9:=hb8.trans ((Chg.putObj (W'.setCell ⟨w.heap.size+1+1,0,none⟩ (.bool false)) D (.deferred none)).below (B:=w.heap.size) hb8.size (fun b hb=>by have:b=D:=hb; omega))
  exact ⟨.bool false,by simp [results,Tryz.results170,go_sem,r1],rfl,hb9⟩
 ·intro D pre C W' hD hC hch hK
  obtain ⟨hC1,hnb7,hr7,hno⟩:=hC
  have hbf:b=true:=by rw [<-HB.out]; exact hno
  subst hbf
  have r0:W'.cell? ⟨w.heap.size+1+1,0,none⟩=some (.bool true):=zc hr7 rfl
  have hq6:=HQ6.out.size
  have hlR:=blk_lt HRB.out
  have HB7:=zh (show Below w.heap.size w W' from HQ6.out.trans (hch.below hq6 (fun b h=>by omega)))
  have HK:=zh hK
  have HR7:=zh hr7
  clear hch hK hr7 hC1 hnb7 hno
  refine (wpIn_wide (n:=3)).2 ?_
  go_wp2_with fail
  refine ⟨by simp,.inl ⟨_,_,rfl,run_takeDeferred HK.out,?_⟩⟩
  have hr9:(W'.putObj D (.deferred none)).heap[w.heap.size+1+1]?=some (.cells #[.bool true] 4 (0,0)):=(World.putObj_heap_other (show w.heap.size+1+1≠D by omega)).trans HR7.out
  have r1:(W'.putObj D (.deferred none)).cell? ⟨w.heap.size+1+1,0,none⟩=some (.bool true):=zc hr9 rfl
  have hb9:=HB7.out.trans ((Chg.putObj W' D (.deferred none)).below (B:=w.heap.size) HB7.out.size (fun b hb=>by have:b=D:=hb; omega))
  exact ⟨.bool true,by simp [results,Tryz.results170,go_sem,r1],rfl,hb9⟩
def kidC (t:T) (i:Nat):T:=t.ks.getD i (.nd 0 0 ⟨#[]⟩ [])
theorem kidC_eq {t:T} {i:Nat} (h:i<t.ks.length):kidC t i=t.ks[i]:=by simp [kidC,h]
theorem kidC_dep {t:T} {i:Nat} (h:i<t.ks.length):dep (kidC t i)<=dep t:=by
 rw [kidC_eq h]
 have:=dep_le (List.getElem_mem h)
 cases t with
 | nd k n s ks=>simp only [dep,T.ks_nd] at *; omega
def idxB (t:T) (s:ByteArray):Bool:=t.k==3&&menB (kidC t 0) s
theorem indexed_any (t:T) (nm:ByteArray) (v:Value) (w:World) (hv:NV w Any t v) (hd:dep t<=1000) (hk:t.k=3->1<=t.ks.length):Calls Tryz.prog 169 #[v,.string nm] w fun e w'=>e=.returned (.bool (idxB t nm))/\Below w.heap.size w w':=by
 have HV:=zh hv
 obtain ⟨A,c,rfl,hf,hlk,hlc,hrow⟩:=hv.open_
 by_cases h3:t.k=3
 ·have hl:=hk h3
  have hm:=mentions_any (kidC t 0) nm
  have hdd:=kidC_dep (t:=t) (i:=0) (by omega)
  have HM:=zh (fun v w h=>hm v w h (by omega))
  obtain ⟨b,hb⟩:∃ b,menB (kidC t 0) nm=b:=⟨_,rfl⟩
  have hi:idxB t nm=b:=by simp [idxB,h3,hb]
  rw [hb] at HM
  obtain ⟨a,t1,A1,c1,rfl,_,Ht,⟨q0,q1,q2,q3⟩,hn⟩:=(hrow.later (bl_al (Below.refl _ _) (.cells #[.int .u8 t.k,.int .i64 t.n,.string t.s,.slice A t.ks.length c] 29))).nd (i:=0) (by omega)
  have ht1:kidC t 0=t1:=by rw [kidC_eq (by omega),Ht.out]
  rw [ht1] at HM
  rw [hi,h3]
  rw [h3] at q0 q1 q2 q3
  have HN:=zh hn
  rw [h3] at HN
  obtain ⟨m,hm'⟩:∃ m,t.ks.length=m:=⟨_,rfl⟩
  rw [hm'] at HN hl q0 q1 q2 q3 ⊢
  generalize t.n=n,t.s=s at *
  have hfl:(0:Int)<(m:Int):=by omega
  have hfl0:0<m:=by omega
  simp only [Nat.zero_mul,Addr.add_zero'] at q0 q1 q2 q3
  clear hv hrow hf hlk hlc hm hdd hb hi ht1 hn Ht HV hk hm' hd hl
  go_enter Tryz.func169,Tryz.ntmps169
  go_wp2_with fail
  refine (HM.out _ _ HN.out).mono ?_
  rintro e w1 ⟨rfl,bw1⟩
  have q1:=bl_tt (bl_al (Below.refl _ _) _) bw1
  go_wp2_with fail
  go_ret
  exact ⟨rfl,q1⟩
 ·have hi:idxB t nm=false:=by simp [idxB,h3]
  have x3:(t.k==3)=false:=by simpa using h3
  rw [hi]
  generalize t.k=k,t.n=n,t.s=s,t.ks.length=m at *
  clear hv HV hrow hf hlk hlc hk hd h3 hi
  go_enter Tryz.func169,Tryz.ntmps169
  go_wp2_with fail
  go_ret
  exact ⟨rfl,bl_al (Below.refl _ _) _⟩
def aliB (ts:List T) (ss:List ByteArray):Bool:=ts.any fun t=>ss.any (idxB t)
def NmE (w:World) (x:Int) (e:Ending) (w':World):Prop:=∃ s,e=.returned (.tuple #[.string s,.int .i64 x])/\Below w.heap.size w w'
theorem alias_any (ts:List T) (ss:List ByteArray) (A:Option Addr) (c:Nat) (B:Option Addr) (d:Nat) (w:World) (hrow:RowAt w Any A ts) (hss:RowS w B ss) (hl:ts.length<=LK) (hl2:ss.length<=100) (ht:∀ t∈ts,dep t<=1000/\(t.k=3->1<=t.ks.length)) :
  Calls Tryz.prog 171 #[.slice A ts.length c,.slice B ss.length d] w (NmE w (if aliB ts ss=true then 8 else 0)):=by
 have hl':=LK_int hl
 obtain ⟨R,hR⟩:∃ R:Int,(if aliB ts ss=true then 8 else 0)=R:=⟨_,rfl⟩
 rw [hR]
 have HR:=zh hR
 have HROW:=zh hrow
 have HSS:=zh hss
 have HT:=zh ht
 clear hrow hss hl ht hR
 go_enter Tryz.func171,Tryz.ntmps171
 go_wp2_with fail
 go_loopw [12] (fun i wr=>∃ j:Nat,j<=ts.length/\i=.int .i64 j/\Below w.heap.size w wr/\Hid (aliB (ts.take j) ss=false)) (fun i _=>ts.length-(intOf i).toNat)
 case atStart=>exact ⟨0,Nat.zero_le _,rfl,Below.refl _ _,zh rfl⟩
 case round =>
  obtain ⟨j,hj,rfl,hbl,HJ⟩:=hrel
  by_cases hlt:j<ts.length
  ·obtain ⟨a,t,A1,c1,rfl,_,Ht,⟨q0,q1,q2,q3⟩,hn⟩:=(HROW.out.later hbl).nd hlt
   have htt:=HT.out ts[j] (List.getElem_mem hlt)
   rw [Ht.out] at htt
   have HTT:=zh htt
   have HN:=zh hn
   have HBL:=zh hbl
   clear htt hn
   go_wp2_with fail
   go_loopw [9,18] (fun _ i wi=>∃ q:Nat,q<=ss.length/\i=.int .i64 q/\Below wr.heap.size wr wi/\wi.heap[wr.heap.size]?=some (.cells #[.int .u8 t.k,.int .i64 t.n,.string t.s,.slice A1 t.ks.length c1] 29 (0,0))/\Hid ((ss.take q).any (idxB t)=false)) (fun _ i _=>ss.length-(intOf i).toNat)
   case atStart=>exact ⟨0,Nat.zero_le _,rfl,bl_al (Below.refl _ _) _,heap_alloc_new wr _,zh rfl⟩
   case round =>
    obtain ⟨q,hq,rfl,hbi,hbx,HQ⟩:=hrel
    have HBI:=zh hbi
    have HBX:=zh hbx
    obtain ⟨m0,m1,m2,m3⟩:=box4 hbx
    by_cases hlq:q<ss.length
    ·obtain ⟨a2,s2,rfl,Hs2,y0⟩:=(HSS.out.later (bl_tt hbl hbi)).nd hlq
     obtain ⟨b,hb⟩:∃ b,idxB t s2=b:=⟨_,rfl⟩
     have HB:=zh hb
     clear hb q0 q1 q2 q3 hbx hbi hbl
     go_wp2_with fail
     refine (indexed_any t s2 _ _ (HN.out.later HBI.out) HTT.out.1 HTT.out.2).mono ?_
     rintro e w3 ⟨rfl,bw3⟩
     rw [HB.out]
     have HB3:=zh (bl_tt HBI.out bw3)
     have HX3:=zh (blk_bl HBX.out bw3)
     clear bw3 m0 m1 m2 m3 y0
     cases b
     ·have HQ2:Hid ((ss.take (q+1)).any (idxB t)=false):=zh (by rw [List.take_succ_eq_append_getElem hlq,List.any_append,HQ.out,Hs2.out]; simp [HB.out])
      go_wp2_with fail
      go_roundw
      case rel=>exact ⟨q+1,by omega,by go_num,HB3.out,HX3.out,HQ2⟩
      case measure=>simp [intOf]; omega
     ·have hRR:R=8:=by
       rw [<-HR.out,if_pos]
       unfold aliB
       rw [List.any_eq_true]
       refine ⟨ts[j],List.getElem_mem hlt,?_⟩
       rw [Ht.out,List.any_eq_true]
       exact ⟨ss[q],List.getElem_mem hlq,by rw [Hs2.out]; exact HB.out⟩
      have HRR:=zh hRR
      clear hRR
      go_wp2_with fail
      go_ret2
      exact ⟨s2,by rw [HRR.out]; rfl,bl_tt HBL.out HB3.out⟩
    ·obtain rfl:q=ss.length:=by omega
     have HJ2:Hid (aliB (ts.take (j+1)) ss=false):=zh (by
      have h1:=HQ.out
      rw [List.take_of_length_le (Nat.le_refl _)] at h1
      have h2:=HJ.out
      unfold aliB at *
      rw [List.take_succ_eq_append_getElem hlt,List.any_append,h2,Ht.out]
      simp [h1])
     clear q0 q1 q2 q3 hbx hbi hbl m0 m1 m2 m3
     go_wp2_with fail
     go_roundw
     case rel=>exact ⟨j+1,by omega,by go_num,bl_tt HBL.out HBI.out,HJ2⟩
     case measure=>simp [intOf]; omega
  ·obtain rfl:j=ts.length:=by omega
   have hRR:R=0:=by
    rw [<-HR.out,if_neg]
    have:=HJ.out
    rw [List.take_of_length_le (Nat.le_refl _)] at this
    simp [this]
   have HRR:=zh hRR
   have HBL:=zh hbl
   clear hRR hbl
   go_wp2_with fail
   go_ret2
   exact ⟨_,by rw [HRR.out]; rfl,HBL.out⟩
theorem reject1_any (k n:Int) (rs:ByteArray) (u3:Value) (s:ByteArray) (nb:Nat) (w:World) (hc:w.cell? ⟨nb,2,none⟩=some (.string s)) :
  Calls Tryz.prog 173 #[.agg #[.int .u8 k,.int .i64 n,.string rs,u3],.pointer (some ⟨nb,0,none⟩)] w fun e w'=>e=.returned (.bool (rs.toList==s.toList))/\Below w.heap.size w w':=by
 have hc':=cell_al hc
 go_enter Tryz.func173,Tryz.ntmps173
 go_wp2_with fail
 go_ret
 exact ⟨rfl,(Below.refl _ _).alloc (Nat.le_refl _) _⟩
def hasN (ks:List T) (s:ByteArray):Bool:=ks.any fun t=>t.s.toList==s.toList
theorem IndexFuncN_any (ks:List T) (A:Option Addr) (c:Nat) (s:ByteArray) (nb:Nat) (w:World) (hrow:RowAt w Any A ks) (hl:ks.length<=LK) (hc:w.cell? ⟨nb,2,none⟩=some (.string s)) :
  Calls Tryz.prog 201 #[.slice A ks.length c,.func (.func 173) #[] #[.pointer (some ⟨nb,0,none⟩)]] w fun e w'=>∃ x:Int,e=.returned (.int .i64 x)/\decide (0<=x)=hasN ks s/\Below w.heap.size w w':=by
 have hl':=LK_int hl
 have HROW:=zh hrow
 have HC:=zh hc
 obtain ⟨R,hR⟩:∃ R,hasN ks s=R:=⟨_,rfl⟩
 rw [hR]
 have HR:=zh hR
 clear hrow hl hc hR
 go_enter Tryz.func201,Tryz.ntmps201
 go_wp2_with fail
 go_loopw [8] (fun i wr=>∃ j:Nat,j<=ks.length/\i=.int .i64 j/\Below w.heap.size w wr/\Hid (hasN (ks.take j) s=false)) (fun i _=>ks.length-(intOf i).toNat)
 case atStart=>exact ⟨0,Nat.zero_le _,rfl,Below.refl _ _,zh rfl⟩
 case round =>
  obtain ⟨j,hj,rfl,hbl,HJ⟩:=hrel
  by_cases hlt:j<ks.length
  ·obtain ⟨a,t,A1,c1,rfl,_,Ht,⟨q0,q1,q2,q3⟩,-⟩:=(HROW.out.later hbl).nd hlt
   obtain ⟨b,hb⟩:∃ b,(t.s.toList==s.toList)=b:=⟨_,rfl⟩
   have HB:=zh hb
   clear hb
   go_wp2_with fail
   refine (reject1_any t.k t.n t.s _ s nb _ (zb hbl HC.out)).mono ?_
   rintro e w1 ⟨rfl,bw1⟩
   rw [HB.out]
   have HBL:=zh (bl_tt hbl bw1)
   clear bw1 q0 q1 q2 q3
   cases b
   ·have HJ2:Hid (hasN (ks.take (j+1)) s=false):=zh (by
     have:=HJ.out
     unfold hasN at *
     rw [List.take_succ_eq_append_getElem hlt,List.any_append,this,Ht.out]
     simp [HB.out])
    go_wp2_with fail
    go_roundw
    case rel=>exact ⟨j+1,by omega,by go_num,HBL.out,HJ2⟩
    case measure=>simp [intOf]; omega
   ·have HN:=zh (show R=true by
     rw [<-HR.out]
     unfold hasN
     rw [List.any_eq_true]
     exact ⟨ks[j],List.getElem_mem hlt,by rw [Ht.out]; exact HB.out⟩)
    go_wp2_with fail
    go_ret
    exact ⟨j,rfl,by rw [HN.out]; simp,HBL.out⟩
  ·have HN:=zh (show R=false by
    rw [<-HR.out]
    have:=HJ.out
    rwa [List.take_of_length_le (by omega)] at this)
   have HBL:=zh hbl
   clear hbl
   go_wp2_with fail
   go_ret
   exact ⟨-1,rfl,by rw [HN.out]; rfl,HBL.out⟩
theorem ContainsN_any (ks:List T) (A:Option Addr) (c:Nat) (s:ByteArray) (nb:Nat) (w:World) (hrow:RowAt w Any A ks) (hl:ks.length<=LK) (hc:w.cell? ⟨nb,2,none⟩=some (.string s)) :
  Calls Tryz.prog 172 #[.slice A ks.length c,.func (.func 173) #[] #[.pointer (some ⟨nb,0,none⟩)]] w fun e w'=>e=.returned (.bool (hasN ks s))/\Below w.heap.size w w':=by
 have HROW:=zh hrow
 have HC:=zh hc
 have HL:=zh hl
 obtain ⟨R,hR⟩:∃ R,hasN ks s=R:=⟨_,rfl⟩
 rw [hR]
 have HR:=zh hR
 obtain ⟨L,hL⟩:∃ L,ks.length=L:=⟨_,rfl⟩
 rw [hL]
 have HLL:=zh hL
 clear hrow hl hc hR hL
 go_enter Tryz.func172,Tryz.ntmps172
 go_wp2_with fail
 refine (HLL.out▸IndexFuncN_any ks A c s nb _ HROW.out HL.out HC.out).mono ?_
 rintro e w1 ⟨x,rfl,hx,bw1⟩
 rw [HR.out] at hx
 go_wp2_with fail
 go_ret
 exact ⟨by rw [<-hx]; rfl,bw1⟩
end Go.Proofs.YtckhofdinldhpaaGreat
