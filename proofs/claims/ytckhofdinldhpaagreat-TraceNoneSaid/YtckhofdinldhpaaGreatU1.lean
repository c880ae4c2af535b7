/-
  Texts of the proof, put together without their remarks: RgI, Rf, Sv, Ltn.
-/
import Derived.Test.YtckhofdinldhpaaGreatT12
import Derived.RangeFuncNested
import Derived.RangeFuncBound
import Derived.RangeFuncCalls
import Derived.RangeFuncLeaves
import Derived.OwnWalkIn
import Derived.TacticsInMore
import Derived.LoopNIn
import Derived.LoopIn
import Derived.OrdersIn
import Derived.Deep.RegionHeld3
import Derived.Deep.DeepCutAuto
set_option linter.unusedSimpArgs false
set_option linter.unusedVariables false
set_option maxHeartbeats 8000000
set_option maxRecDepth 100000
namespace Go.Proofs.YtckhofdinldhpaaGreat
open Go
abbrev Fw (ro:Option Nat):Fence:={ Fence.wide with round:=ro }
section
variable {ro:Option Nat} {n:Nat} {P:Program} {ops:Array Oper} {Q:Exit->Act->World->Prop} {md:Region.Mode}
variable {S:World->Prop}
end
end Go.Proofs.YtckhofdinldhpaaGreat
namespace Go.Proofs.YtckhofdinldhpaaGreat
open Go Go.RowKit
section
variable {C C':Nat->Prop} {w w' w'':World}
theorem Chg.putObj (w:World) (l:Nat) (o:Obj):Chg (· = l) w (w.putObj l o) :=
 ⟨rfl,rfl,rfl,by simp [World.putObj],fun b _ hc=>World.putObj_heap_other hc⟩
end
theorem SEqual_any (xs ys:List Int) (A B:Option Addr) (c d:Nat) (w:World) (hx:RowI w Any A xs) (hy:RowI w Any B ys) (hl:xs.length<=1000000) (hm:ys.length<=1000000) :
  Calls Tryz.prog 62 #[.slice A xs.length c,.slice B ys.length d] w fun e w'=>e=.returned (.bool (decide (xs=ys)))/\Below w.heap.size w w':=by
 obtain ⟨R,hR⟩:∃ R,decide (xs=ys)=R:=⟨_,rfl⟩
 rw [hR]
 have HR:=zh hR
 have HX:=zh hx
 have HY:=zh hy
 clear hR hx hy
 by_cases hlen:xs.length=ys.length
 ·have HL:=zh hlen
  rw [<-hlen]
  clear hlen
  go_enter Tryz.func62,Tryz.ntmps62
  go_wp2_with fail
  go_loopw [5,13] (fun _ i wr=>∃ j:Nat,j<=xs.length/\i=.int .i64 j/\Below w.heap.size w wr/\Hid (xs.take j=ys.take j)) (fun _ i _=>xs.length-(intOf i).toNat)
  case atStart=>exact ⟨0,Nat.zero_le _,rfl,Below.refl _ _,zh rfl⟩
  case round =>
   obtain ⟨j,hj,rfl,hbl,HJ⟩:=hrel
   have HBL:=zh hbl
   by_cases hlt:j<xs.length
   ·have hlt2:j<ys.length:=by rw [<-HL.out]; exact hlt
    obtain ⟨a,rfl,h1⟩:=(HX.out.later hbl).nd hlt
    obtain ⟨b,rfl,h2⟩:=(HY.out.later hbl).nd hlt2
    obtain ⟨x,hx⟩:∃ x,xs.getD j 0=x:=⟨_,rfl⟩
    obtain ⟨y,hy⟩:∃ y,ys.getD j 0=y:=⟨_,rfl⟩
    rw [hx] at h1
    rw [hy] at h2
    have hx':xs[j]=x:=by rw [<-hx]; simp [hlt]
    have hy':ys[j]=y:=by rw [<-hy]; simp [hlt2]
    have HS:=zh (show (fun w':World=>w'.cell? (a.add j)=some (.int .i64 x)/\w'.cell? (b.add j)=some (.int .i64 y)) wr.drew from ⟨h1,h2⟩)
    have hj1:(j:Int)<(xs.length:Int):=by omega
    have HXJ:=zh hx'
    have HYJ:=zh hy'
    clear hbl hx hy hx' hy' h1 h2
    go_upto_region 6 with fail
    go_region_held3 (fun w':World=>w'.cell? (a.add j)=some (.int .i64 x)/\w'.cell? (b.add j)=some (.int .i64 y))
     (with_reducible exact HS.out)
     (first|fail)
    by_cases hxy:x=y
    ·subst hxy
     have HJ2:Hid (xs.take (j+1)=ys.take (j+1)):=zh (by rw [List.take_succ_eq_append_getElem hlt,List.take_succ_eq_append_getElem hlt2,HJ.out,HXJ.out,HYJ.out])
     go_wp2_with fail
     go_roundw
     case rel=>exact ⟨j+1,by omega,by go_num,HBL.out.drew,HJ2⟩
     case measure=>simp [intOf]; omega
    ·have e1:(x==y)=false:=by simpa using hxy
     have e2:(x != y)=true:=by simpa using hxy
     have HF:=zh (show R=false by rw [<-HR.out]; exact decide_eq_false fun h=>hxy (by subst h; rw [<-HXJ.out,<-HYJ.out]))
     clear hxy
     go_wp2_with fail
     go_ret
     exact ⟨by rw [HF.out]; rfl,HBL.out.drew⟩
   ·obtain rfl:j=xs.length:=by omega
    have HF:=zh (show R=true by
     have h1:=HJ.out
     rw [List.take_of_length_le (Nat.le_refl _),List.take_of_length_le (by rw [HL.out]; exact Nat.le_refl _)] at h1
     rw [<-HR.out]
     exact decide_eq_true h1)
    clear hbl
    go_wp2_with fail
    go_ret
    exact ⟨by rw [HF.out]; rfl,HBL.out⟩
 ·have HF:=zh (show R=false by rw [<-HR.out]; exact decide_eq_false fun h=>hlen (by rw [h]))
  have e1:((xs.length:Int)==(ys.length:Int))=false:=by simp; omega
  have e2:((xs.length:Int) != (ys.length:Int))=true:=by simp; omega
  go_enter Tryz.func62,Tryz.ntmps62
  go_wp2_with fail
  go_ret
  exact ⟨by rw [HF.out]; rfl,Below.refl _ _⟩
section
variable {w w':World} {S S':Nat->Prop} {A:Option Addr} {ls:List (List Int)}
end
theorem EqualFuncI_any (xs ys:List (List Int)) (A B:Option Addr) (c d:Nat) (w:World) (hx:RowII w Any A xs) (hy:RowII w Any B ys) (hl:xs.length<=1000000) (hm:ys.length<=1000000) (hbx:∀ l∈xs,l.length<=1000000) (hby:∀ l∈ys,l.length<=1000000) :
  Calls Tryz.prog 61 #[.slice A xs.length c,.slice B ys.length d,.func (.func 62) #[] #[]] w fun e w'=>e=.returned (.bool (decide (xs=ys)))/\Below w.heap.size w w':=by
 obtain ⟨R,hR⟩:∃ R,decide (xs=ys)=R:=⟨_,rfl⟩
 rw [hR]
 have HR:=zh hR
 have HX:=zh hx
 have HY:=zh hy
 have HBX:=zh hbx
 have HBY:=zh hby
 clear hR hx hy hbx hby
 by_cases hlen:xs.length=ys.length
 ·have HL:=zh hlen
  rw [<-hlen]
  clear hlen
  go_enter Tryz.func61,Tryz.ntmps61
  go_wp2_with fail
  go_loopw [17] (fun i wr=>∃ j:Nat,j<=xs.length/\i=.int .i64 j/\Below w.heap.size w wr/\Hid (xs.take j=ys.take j)) (fun i _=>xs.length-(intOf i).toNat)
  case atStart=>exact ⟨0,Nat.zero_le _,rfl,Below.refl _ _,zh rfl⟩
  case round =>
   obtain ⟨j,hj,rfl,hbl,HJ⟩:=hrel
   have HBL:=zh hbl
   by_cases hlt:j<xs.length
   ·have hlt2:j<ys.length:=by rw [<-HL.out]; exact hlt
    obtain ⟨a,x,A1,c1,rfl,Hx,h1,_,hr1⟩:=(HX.out.later hbl).nd hlt
    obtain ⟨b,y,B1,d1,rfl,Hy,h2,_,hr2⟩:=(HY.out.later hbl).nd hlt2
    have hlx:x.length<=1000000:=by rw [<-Hx.out]; exact HBX.out _ (List.getElem_mem hlt)
    have hly:y.length<=1000000:=by rw [<-Hy.out]; exact HBY.out _ (List.getElem_mem hlt2)
    obtain ⟨b0,hb0⟩:∃ b0,decide (x=y)=b0:=⟨_,rfl⟩
    have HCA:=zh (hb0▸SEqual_any x y A1 B1 c1 d1 wr hr1 hr2 hlx hly)
    have HB0:=zh hb0
    have hj1:(j:Int)<(xs.length:Int):=by omega
    clear hbl hr1 hr2 hb0
    go_wp2_with fail
    refine HCA.out.mono ?_
    rintro e w2 ⟨rfl,bw2⟩
    have HB2:=zh (bl_tt HBL.out bw2)
    clear bw2 h1 h2
    cases b0
    ·have HF:=zh (show R=false by
      rw [<-HR.out]
      refine decide_eq_false fun h=>of_decide_eq_false HB0.out ?_
      subst h
      rw [<-Hx.out,<-Hy.out])
     go_wp2_with fail
     go_ret
     exact ⟨by rw [HF.out]; rfl,HB2.out⟩
    ·have HJ2:Hid (xs.take (j+1)=ys.take (j+1)):=zh (by rw [List.take_succ_eq_append_getElem hlt,List.take_succ_eq_append_getElem hlt2,HJ.out,Hx.out,Hy.out,of_decide_eq_true HB0.out])
     go_wp2_with fail
     go_roundw
     case rel=>exact ⟨j+1,by omega,by go_num,HB2.out,HJ2⟩
     case measure=>simp [intOf]; omega
   ·obtain rfl:j=xs.length:=by omega
    have HF:=zh (show R=true by
     have h1:=HJ.out
     rw [List.take_of_length_le (Nat.le_refl _),List.take_of_length_le (by rw [HL.out]; exact Nat.le_refl _)] at h1
     rw [<-HR.out]
     exact decide_eq_true h1)
    clear hbl
    go_wp2_with fail
    go_ret
    exact ⟨by rw [HF.out]; rfl,HBL.out⟩
 ·have HF:=zh (show R=false by rw [<-HR.out]; exact decide_eq_false fun h=>hlen (by rw [h]))
  have e1:((xs.length:Int)==(ys.length:Int))=false:=by simp; omega
  have e2:((xs.length:Int) != (ys.length:Int))=true:=by simp; omega
  go_enter Tryz.func61,Tryz.ntmps61
  go_wp2_with fail
  go_ret
  exact ⟨by rw [HF.out]; rfl,Below.refl _ _⟩
def eqS (s t:SS):Bool:=decide (s.cells=t.cells)&&decide (s.tin=t.tin)&&decide (s.tout=t.tout)
theorem StEqual_any (s t:SS) (v1 v2:Value) (w:World) (h1:SV w Any s v1) (h2:SV w Any t v2) (hs:s.Sm) (ht:t.Sm):Calls Tryz.prog 21 #[v1,v2] w fun e w'=>e=.returned (.bool (eqS s t))/\Below w.heap.size w w':=by
 obtain ⟨A,c,B,d,D,e,rfl,hr1,hr2,hr3,-⟩:=h1
 obtain ⟨A',c',B',d',D',e',rfl,hq1,hq2,hq3,-⟩:=h2
 obtain ⟨b1,hb1⟩:∃ b,decide (s.cells=t.cells)=b:=⟨_,rfl⟩
 obtain ⟨b2,hb2⟩:∃ b,decide (s.tin=t.tin)=b:=⟨_,rfl⟩
 obtain ⟨b3,hb3⟩:∃ b,decide (s.tout=t.tout)=b:=⟨_,rfl⟩
 have hR:eqS s t=(b1&&b2&&b3):=by rw [<-hb1,<-hb2,<-hb3]; rfl
 obtain ⟨R,hRR⟩:∃ R,eqS s t=R:=⟨_,rfl⟩
 have HRR:=zh (show R=(b1&&b2&&b3) by rw [<-hRR]; exact hR)
 rw [hRR]
 have H1:=zh (show ∀ w',Below w.heap.size w w'->Calls Tryz.prog 61 #[.slice A s.cells.length c,.slice A' t.cells.length c',.func (.func 62) #[] #[]] w' fun e w''=>e=.returned (.bool b1)/\Below w'.heap.size w' w'' from fun w' hb=>hb1▸EqualFuncI_any s.cells t.cells A A' c c' w' (hr1.later hb) (hq1.later hb) hs.1 ht.1 hs.2.1 ht.2.1)
 have H2:=zh (show ∀ w',Below w.heap.size w w'->Calls Tryz.prog 62 #[.slice B s.tin.length d,.slice B' t.tin.length d'] w' fun e w''=>e=.returned (.bool b2)/\Below w'.heap.size w' w'' from fun w' hb=>hb2▸SEqual_any s.tin t.tin B B' d d' w' (hr2.later hb) (hq2.later hb) hs.2.2.1 ht.2.2.1)
 have H3:=zh (show ∀ w',Below w.heap.size w w'->Calls Tryz.prog 62 #[.slice D s.tout.length e,.slice D' t.tout.length e'] w' fun e w''=>e=.returned (.bool b3)/\Below w'.heap.size w' w'' from fun w' hb=>hb3▸SEqual_any s.tout t.tout D D' e e' w' (hr3.later hb) (hq3.later hb) hs.2.2.2 ht.2.2.2)
 generalize s.cells.length=l1,s.tin.length=l2,s.tout.length=l3,t.cells.length=m1,t.tin.length=m2,t.tout.length=m3 at *
 clear hr1 hr2 hr3 hq1 hq2 hq3 hs ht hb1 hb2 hb3 hR hRR
 go_enter Tryz.func21,Tryz.ntmps21
 go_wp2_with fail
 have q0:Below w.heap.size w ((w.alloc (.cells #[.slice A l1 c,.slice B l2 d,.slice D l3 e] 26)).alloc (.cells #[.slice A' m1 c',.slice B' m2 d',.slice D' m3 e'] 26)):=bl_al (bl_al (Below.refl _ _) _) _
 have hP:=blk_al (heap_alloc_new w (.cells #[.slice A l1 c,.slice B l2 d,.slice D l3 e] 26)) (.cells #[.slice A' m1 c',.slice B' m2 d',.slice D' m3 e'] 26)
 have hQ:=heap_alloc_new (w.alloc (.cells #[.slice A l1 c,.slice B l2 d,.slice D l3 e] 26)) (.cells #[.slice A' m1 c',.slice B' m2 d',.slice D' m3 e'] 26)
 simp only [World.size_alloc] at hQ
 refine (H1.out _ q0).mono ?_
 rintro e9 w1 ⟨rfl,bw1⟩
 have q1:=bl_tt q0 bw1
 have hP1:=blk_bl hP bw1
 have hQ1:=blk_bl hQ bw1
 have x1:w1.cell? ⟨w.heap.size,1,none⟩=some (.slice B l2 d):=zc hP1 rfl
 have x2:w1.cell? ⟨w.heap.size,2,none⟩=some (.slice D l3 e):=zc hP1 rfl
 have y1:w1.cell? ⟨w.heap.size+1,1,none⟩=some (.slice B' m2 d'):=zc hQ1 rfl
 have y2:w1.cell? ⟨w.heap.size+1,2,none⟩=some (.slice D' m3 e'):=zc hQ1 rfl
 clear hP hQ hP1 hQ1 q0 bw1
 cases b1
 ·have HX:=zh (show R=false by rw [HRR.out]; rfl)
  go_wp2_with fail
  go_ret
  exact ⟨by rw [HX.out]; rfl,q1⟩
 ·go_wp2_with fail
  refine (H2.out _ q1).mono ?_
  rintro e9 w2 ⟨rfl,bw2⟩
  have q2:=bl_tt q1 bw2
  have z2:=zb bw2 x2
  have u2:=zb bw2 y2
  clear bw2 x1 x2 y1 y2
  cases b2
  ·have HX:=zh (show R=false by rw [HRR.out]; rfl)
   go_wp2_with fail
   go_ret
   exact ⟨by rw [HX.out]; rfl,q2⟩
  ·go_wp2_with fail
   refine (H3.out _ q2).mono ?_
   rintro e9 w3 ⟨rfl,bw3⟩
   have q3:=bl_tt q2 bw3
   have HX:=zh (show R=b3 by rw [HRR.out]; simp)
   clear bw3 z2 u2
   go_wp2_with fail
   go_ret
   exact ⟨by rw [HX.out]; rfl,q3⟩
attribute [local go_sem] Oper.semAt_some
theorem range_none {n:Nat} {P:Program} {g:Operand} {ps:Array Tmp} {assign body:Code} {Q:Exit->Act->World->Prop} {a:Act} {w:World} {gf:FuncId} {lb:Array Value}
  (hg:a.eval g=.func (.func gf) #[] lb) (eg:∀ args w,(callFunc gf args).run P w=.ok (.enter gf args) w) (hseq:∀ l W,CallsIn (Fw none) (n-1) P gf (#[.func (.yield l) #[] #[]]++lb) W fun e W'=>(∃ v,e=.returned v)/\W'=W)
  (hdone:∀ D W',w.heap.size<=D->Below w.heap.size w W'->W'.heap[D]?=some (.deferred (some []))->Q .normal { a with defers:={ target:=.collected D,args := #[] }::a.defers } W') :
  (Code.rangeFunc g ps assign body).wpIn (Fw none) n P Q a w:=by
 refine wpIn_rangeFunc ?_
 intro fn hfn
 obtain ⟨rec,hrec⟩:∃ rec:LoopState->Option Code->Loop,rec=fun st pe=>{ state:=st,pending:=pe,fn,tmps:=a.tmps,params:=ps,assign,body,defers:=w.heap.size }:=⟨_,rfl⟩
 obtain ⟨W1,hW1⟩:∃ W1,(w.alloc (.deferred (some []))).alloc (.loop (rec .ready none))=W1:=⟨_,rfl⟩
 have hL1:W1.heap[w.heap.size+1]?=some (.loop (rec .ready none)):=by
  rw [<-hW1]; have:=World.alloc_heap_new (w.alloc (.deferred (some []))) (.loop (rec .ready none)); rwa [World.size_alloc] at this
 have hK1:W1.heap[w.heap.size]?=some (.deferred (some [])):=by
  rw [<-hW1]; exact (Below.heap_alloc _ _ _ (by simp)).trans (World.alloc_heap_new w _)
 have hb1:Below w.heap.size w W1:=by rw [<-hW1]; exact ((Below.refl _ w).alloc (Nat.le_refl _) _).alloc (by simp) _
 refine ⟨w.heap.size+1,[{ target:=.collected w.heap.size,args := #[] }],W1,{ target:=.fn (.func gf) lb,args := #[.func (.yield (w.heap.size+1)) #[] #[]] },W1,gf,
  #[.func (.yield (w.heap.size+1)) #[] #[]]++lb,W1,?_,?_,(fun _ _=>trivial),?_,(fun e=>by cases e),?_⟩
 ·rw [<-hW1,hrec]; exact run_enterLoop_outer _ _ _ _ _
 ·simp only [resolve,hg]
  simp [go_sem]
 ·simp [invoke,go_sem,eg]
 ·refine (hseq (w.heap.size+1) W1).mono ?_
  rintro e W2 ⟨⟨v,rfl⟩,rfl⟩
  refine ⟨none,_,by have:=run_endLoop (P:=P) hL1 (by rw [hrec]; simp); rw [hrec] at this; exact this,?_⟩
  refine hdone _ _ (Nat.le_refl _) ?_ ((World.putObj_heap_other (by omega)).trans hK1)
  exact hb1.trans ((Chg.putObj W2 (w.heap.size+1) _).below (B:=w.heap.size) hb1.size (fun b hb=>by have:b=w.heap.size+1:=hb; omega))
theorem bS0 (w:World):(Instr.build 26 #[]).run Tryz.prog w=.ok (.agg #[.slice none 0 0,.slice none 0 0,.slice none 0 0]) w:=by kernel_rfl
theorem nRest_any (w:World):Calls Tryz.prog 40 #[.pointer none] w fun e w'=>e=.returned (.func (.func 83) #[] #[])/\w'=w:=by
 go_enter Tryz.func40,Tryz.ntmps40
 go_wp2_with fail
 go_ret
 exact ⟨rfl,rfl⟩
theorem nRest1_any (v:Value) (w:World):Calls Tryz.prog 83 #[v] w fun e w'=>(∃ u,e=.returned u)/\w'=w:=by
 go_enter Tryz.func83,Tryz.ntmps83
 go_wp2_with fail
 go_end0
 exact ⟨⟨_,rfl⟩,rfl⟩
theorem nNext_any (w:World):Calls Tryz.prog 37 #[.pointer none] w fun e w'=>e=.returned (.bool false)/\Below w.heap.size w w':=by
 go_enter Tryz.func37,Tryz.ntmps37
 go_upto_region 1 with fail
 go_quiet (fail)
 go_wp2_with fail
 go_ret
 exact ⟨rfl,drewN_below (Below.refl _ _) nq⟩
theorem nPrev_any (w:World):Calls Tryz.prog 38 #[.pointer none] w fun e w'=>e=.returned (.bool false)/\w'=w:=by
 go_enter Tryz.func38,Tryz.ntmps38
 go_wp2_with fail
 go_ret
 exact ⟨rfl,rfl⟩
theorem nPos_any (w:World):Calls Tryz.prog 39 #[.pointer none] w fun e w'=>e=.returned (.int .i64 0)/\w'=w:=by
 go_enter Tryz.func39,Tryz.ntmps39
 go_wp2_with fail
 go_ret
 exact ⟨rfl,rfl⟩
theorem nState_any (w:World):Calls Tryz.prog 34 #[.pointer none] w fun e w'=>e=.returned (.agg #[.slice none 0 0,.slice none 0 0,.slice none 0 0])/\Below w.heap.size w w':=by
 have h1:=bS0
 go_enter Tryz.func34,Tryz.ntmps34
 go_wp2_with fail
 exact bodyPost_ret (v:=.agg #[.slice none 0 0,.slice none 0 0,.slice none 0 0]) (by simp [results,Tryz.results34,go_sem]) rfl ⟨rfl,bl_al (Below.refl _ _) _⟩
theorem nSeek_any (x:Int) (w:World):Calls Tryz.prog 35 #[.pointer none,.int .i64 x] w fun e w'=>e=.returned (.int .i64 1)/\w'=w:=by
 go_enter Tryz.func35,Tryz.ntmps35
 go_wp2_with fail
 go_ret
 exact ⟨rfl,rfl⟩
theorem sv_nil (w:World):SV w Any ⟨[],[],[]⟩ (.agg #[.slice none 0 0,.slice none 0 0,.slice none 0 0]) :=
 ⟨none,0,none,0,none,0,rfl,fun i hi=>by simp at hi,fun i hi=>by simp at hi,fun i hi=>by simp at hi,by simp,by simp,by simp,by simp,by simp,by simp,by simp⟩
theorem sm_nil:(⟨[],[],[]⟩:SS).Sm:=⟨by simp,by simp,by simp,by simp⟩
theorem feqT (w:World):(binOp .eql 75 (.func (.func 83) #[] #[]) .nilFunc).run Tryz.prog w=.ok (.bool false) w:=by kernel_rfl
theorem TNone_walk (x:Int) (W:World):Calls Tryz.prog 10 #[.int .i64 x] W fun e W'=>e=.returned (.bool true)/\Below W.heap.size W W':=by
 have h1:=bS0
 have h2:=feqT
 have hb1:=bl_al (Below.refl W.heap.size W) (.cells #[.bool false] 4)
 have k1:=heap_alloc_new W (.cells #[.bool false] 4)
 obtain ⟨w1,hw1⟩:∃ x,W.alloc (.cells #[.bool false] 4)=x:=⟨_,rfl⟩
 rw [hw1] at hb1 k1
 have HB1:=zh hb1
 have K1:=zh k1
 have HAW:=zh (awakeT_any w1)
 clear hb1 k1
 refine (callsIn_wide (n:=3)).1 (callsIn_of_wp_marks Tryz.func10 rfl trivial ((wpIn_wide (n:=3)).2 ?_))
 simp only [Tryz.ntmps10,List.size_toArray,List.length_cons,List.length_nil,Nat.reduceAdd,Nat.reduceSub,Array.replicate_succ,Array.replicate_zero,List.push_toArray,List.append_toArray,List.nil_append,List.cons_append]
 go_wp2_with fail
 refine HAW.out.mono ?_
 rintro e3 w3 ⟨rfl,b3⟩
 clear hw1 HAW
 go_wp2_with fail
 refine (nRest_any w3).mono ?_
 rintro e4 w4 ⟨rfl,rfl⟩
 go_wp2_with fail
 refine (wpIn_wide (n:=3)).1 ?_
 refine range_none (n:=3) (gf:=83) (lb := #[]) rfl (run_callFunc ⟨Tryz.func83,by kernel_rfl,by kernel_rfl⟩) (fun l W=>callsIn_wide.2 (nRest1_any _ _)) ?_
 intro D w5 hD b5 hK
 have hWl:=blk_lt (blk_bl K1.out b3)
 have HK:=zh hK
 have K5:=zh (blk_bl (blk_bl K1.out b3) b5)
 have HB5:=zh (bl_tt HB1.out (bl_tt b3 b5))
 clear hK b3 b5
 go_wp2_with fail
 refine (nNext_any w5).mono ?_
 rintro e6 w6 ⟨rfl,b6⟩
 go_wp2_with fail
 refine (nPrev_any w6).mono ?_
 rintro e7 w7 ⟨rfl,rfl⟩
 go_wp2_with fail
 refine (nPos_any _).mono ?_
 rintro e8 w8 ⟨rfl,rfl⟩
 go_wp2_with fail
 refine (nState_any w8).mono ?_
 rintro e9 w9 ⟨rfl,b9⟩
 go_wp2_with fail
 refine (StEqual_any ⟨[],[],[]⟩ ⟨[],[],[]⟩ _ _ w9 (sv_nil w9) (sv_nil w9) sm_nil sm_nil).mono ?_
 rintro e10 w10 ⟨rfl,b10⟩
 rw [show eqS ⟨[],[],[]⟩ ⟨[],[],[]⟩=true by decide]
 go_wp2_with fail
 refine (nSeek_any x w10).mono ?_
 rintro e11 w11 ⟨rfl,rfl⟩
 have b11:=bl_tt (bl_tt b6 b9) b10
 have KR:=zh (blk_bl K5.out b11)
 have KD:=zh (HK.out)
 have HB6:=zh (bl_tt HB5.out b11)
 have hwl:=blk_lt KR.out
 have hDl:D≠W.heap.size:=by omega
 have hKD:w11.heap[D]?=some (.deferred (some [])):=by
  rw [b11.block D (by
   rcases Nat.lt_or_ge D w5.heap.size with h|h
   ·exact h
   ·have:=HK.out; rw [Array.getElem?_eq_none h] at this; cases this)]
  exact HK.out
 have HKD:=zh hKD
 have r0:w11.cell? ⟨W.heap.size,0,none⟩=some (.bool false):=zc KR.out rfl
 have rf:w11.frozen? ⟨W.heap.size,0,none⟩=false:=zf KR.out
 clear b6 b9 b10 b11 hKD
 go_wp2_with fail
 have hK':(w11.setCell ⟨W.heap.size,0,none⟩ (.bool true)).heap[D]?=some (.deferred (some [])):=(Below.heap_setCell _ _ _ _ hDl).trans HKD.out
 refine ⟨by simp,.inl ⟨_,_,rfl,run_takeDeferred hK',?_⟩⟩
 have hr8:=heap_setCell_same w11 W.heap.size 0 _ _ (.bool true) KR.out
 have hr9:((w11.setCell ⟨W.heap.size,0,none⟩ (.bool true)).putObj D (.deferred none)).heap[W.heap.size]?=some (.cells #[.bool true] 4 (0,0)):=(World.putObj_heap_other (Ne.symm hDl)).trans (by simpa using hr8)
 have r1:((w11.setCell ⟨W.heap.size,0,none⟩ (.bool true)).putObj D (.deferred none)).cell? ⟨W.heap.size,0,none⟩=some (.bool true):=zc hr9 rfl
 have hb8:=HB6.out.setCell (p:=⟨W.heap.size,0,none⟩) (Nat.le_refl _) (.bool true)
 have hb9:=hb8.trans ((Chg.putObj (w11.setCell ⟨W.heap.size,0,none⟩ (.bool true)) D (.deferred none)).below (B:=W.heap.size) hb8.size (fun b hb=>by have:b=D:=hb; omega))
 exact ⟨.bool true,by simp [results,Tryz.results10,go_sem,r1],rfl,hb9⟩
end Go.Proofs.YtckhofdinldhpaaGreat
