/-
  Texts of the proof, put together without their remarks: Lsu, Lift, LiftV, LiftS, LiftW.
-/
import Derived.Test.YtckhofdinldhpaaGreatA9
import Derived.Test.YtckhofdinldhpaaGreatRows
import Derived.ProofKit
import Derived.SizedLaws
import Derived.Deep.Slices
import Derived.Deep.Fields
import Derived.Lib.SmallJoins
import Derived.ChangeSlices
set_option linter.unusedSimpArgs false
set_option linter.unusedVariables false
set_option maxHeartbeats 8000000
set_option maxRecDepth 100000
namespace Go.Proofs.YtckhofdinldhpaaGreat
open Go Go.RowKit
theorem bNb (A:Option Addr) (l c:Nat) (w:World):(Instr.build 29 #[(0,.int .u8 57),(3,.slice A l c)]).run Tryz.prog w=.ok (nv 57 0 ⟨#[]⟩ A l c) w:=by kernel_rfl
theorem bPm (A:Option Addr) (l c:Nat) (k n:Int) (s:ByteArray) (A3:Option Addr) (l3 c3:Nat) (w:World):(Instr.build 35 #[(0,.slice A l c),(2,.agg #[.int .u8 k,.int .i64 n,.string s,.slice A3 l3 c3])]).run Tryz.prog w=.ok (.agg #[.slice A l c,.slice none 0 0,.int .u8 k,.int .i64 n,.string s,.slice A3 l3 c3]) w:=by kernel_rfl
theorem Undoes_walk (vs:List VD) (s:SS) (t:T) (back:Bool) (A0:Option Addr) (c0:Nat) (v nvv:Value) (w:World) (hrow:RowV w Any A0 vs) (hl:vs.length<=LV) (hc0:vs.length<=c0) (hv:SV w Any s v) (hn:NV w Any t nvv) :
  Calls Tryz.prog 3 #[.slice A0 vs.length c0,v,nvv,.bool back] w fun e w'=>e=.returned (.bool true)/\Below w.heap.size w w':=by
 have h1:=bSN1
 have h2:=bNb
 have h3:=bPm
 have HV:=zh hv
 have HN:=zh hn
 have HROW:=zh hrow
 have HNI:=zh hv.nums
 have HFV:=zh (show ∀ u∈vs,FldV u from fun u hu=>by
  obtain ⟨j,hj,rfl⟩:=List.getElem_of_mem hu
  obtain ⟨-,-,-,-,hf⟩:=hrow j hj
  exact hf)
 obtain ⟨A,c,B,d,D,e,rfl⟩:=hv.parts
 obtain ⟨NA,nc,rfl,hfld,-⟩:=hn.open_
 have HSM:=zh (fun w' (hb:Below w.heap.size w w')=>lsmall_any vs s A0 c0 _ w' hl (hv.later hb))
 obtain ⟨z,hz⟩:∃ z,smlB vs s=z:=⟨_,rfl⟩
 rw [hz] at HSM
 have HZ:=zh (hz▸smlB_one:z=0\/(z=1/\vs.length<=12/\s.cells.length<=12/\s.tin.length<=60/\s.tout.length<=60/\∀ l∈s.cells,l.length<=60))
 have hk0:=blk_al (heap_alloc_new w (.cells #[.slice A s.cells.length c,.slice B s.tin.length d,.slice D s.tout.length e] 26)) (.cells #[.int .u8 t.k,.int .i64 t.n,.string t.s,.slice NA t.ks.length nc] 29)
 have hk1:=heap_alloc_new (w.alloc (.cells #[.slice A s.cells.length c,.slice B s.tin.length d,.slice D s.tout.length e] 26)) (.cells #[.int .u8 t.k,.int .i64 t.n,.string t.s,.slice NA t.ks.length nc] 29)
 rw [World.size_alloc] at hk1
 have hb0:=bl_al (bl_al (Below.refl w.heap.size w) (.cells #[.slice A s.cells.length c,.slice B s.tin.length d,.slice D s.tout.length e] 26)) (.cells #[.int .u8 t.k,.int .i64 t.n,.string t.s,.slice NA t.ks.length nc] 29)
 obtain ⟨w0,hw0⟩:∃ x,(w.alloc (.cells #[.slice A s.cells.length c,.slice B s.tin.length d,.slice D s.tout.length e] 26)).alloc (.cells #[.int .u8 t.k,.int .i64 t.n,.string t.s,.slice NA t.ks.length nc] 29)=x:=⟨_,rfl⟩
 rw [hw0] at hk0 hk1 hb0
 have HK0:=zh hk0
 have HK1:=zh hk1
 have HB0:=zh hb0
 clear hrow hv hn hk0 hk1 hb0 hz
 go_enter Tryz.func3,Tryz.ntmps3
 go_wp2_with fail
 refine (awake_any w0).mono ?_
 rintro e1 w1 ⟨rfl,bw1⟩
 have HB1:=zh (bl_tt HB0.out bw1)
 obtain ⟨x0,x1,x2⟩:=box3o (blk_bl HK0.out bw1)
 have HK1a:=zh (blk_bl HK1.out bw1)
 have HK0a:=zh (blk_bl HK0.out bw1)
 clear bw1 HK0 HK1 hw0
 go_wp2_with fail
 refine (HSM.out w1 HB1.out).mono ?_
 rintro e2 w2 ⟨rfl,bw2⟩
 have HB2:=zh (bl_tt HB1.out bw2)
 have HKX2:=zh (blk_bl HK0a.out bw2)
 have HKN2:=zh (blk_bl HK1a.out bw2)
 clear bw2 x0 x1 x2 HK0a HK1a
 rcases HZ.out with rfl|⟨rfl,hz1,hz2,hz3,hz4,hz5⟩
 ·go_wp2_with fail
  go_ret
  exact ⟨rfl,HB2.out⟩
 ·have HSS:=zh (SS.Sm.of hz2 hz3 hz4 hz5)
  clear HZ HSM hz5
  obtain ⟨q0,q1,q2,q3⟩:=box4 HKN2.out
  have HSZ:=zh (Size_any t _ w2 (HN.out.later HB2.out))
  go_wp2_with fail
  refine HSZ.out.mono ?_
  rintro e3 w3 ⟨rfl,bw3⟩
  have HB3:=zh (bl_tt HB2.out bw3)
  have HKX3:=zh (blk_bl HKX2.out bw3)
  have HKN3:=zh (blk_bl HKN2.out bw3)
  clear q0 q1 q2 q3 bw3 HKX2 HKN2 HSZ
  by_cases hbig:60<wrap64 (size t)
  ·go_wp2_with fail
   go_ret
   exact ⟨rfl,HB3.out⟩
  ·obtain ⟨q0,q1,q2,q3⟩:=box4 HKN3.out
   go_upto_region 6 with fail
   clear q0 q1 q2 q3
   have ka:=heap_alloc_new w3 (.cells #[.int .u8 t.k,.int .i64 t.n,.string t.s,.slice NA t.ks.length nc] 29)
   have hbA:=bl_al (Below.refl w3.heap.size w3) (.cells #[.int .u8 t.k,.int .i64 t.n,.string t.s,.slice NA t.ks.length nc] 29)
   have hNN:=NV_one w3 29 (S:=Any) trivial (t1:=t) (k:=57) (n:=0) (s:=⟨#[]⟩) ⟨⟨by decide,by decide⟩,⟨by decide,by decide⟩,by decide⟩ (HN.out.later HB3.out)
   obtain ⟨w4,hw4⟩:∃ x,w3.alloc (.cells #[.int .u8 t.k,.int .i64 t.n,.string t.s,.slice NA t.ks.length nc] 29)=x:=⟨_,rfl⟩
   obtain ⟨nb,hnb⟩:∃ x,w3.heap.size=x:=⟨_,rfl⟩
   rw [hw4] at ka hbA hNN ⊢
   rw [hnb] at ka hNN ⊢
   have kp:=heap_alloc_new w4 (.cells #[.slice A0 vs.length c0,.slice none 0 0,.int .u8 57,.int .i64 0,.string ⟨#[]⟩,.slice (some ⟨nb,0,none⟩) 1 1] 35)
   have hbP:=bl_al (Below.refl w4.heap.size w4) (.cells #[.slice A0 vs.length c0,.slice none 0 0,.int .u8 57,.int .i64 0,.string ⟨#[]⟩,.slice (some ⟨nb,0,none⟩) 1 1] 35)
   obtain ⟨w5,hw5⟩:∃ x,w4.alloc (.cells #[.slice A0 vs.length c0,.slice none 0 0,.int .u8 57,.int .i64 0,.string ⟨#[]⟩,.slice (some ⟨nb,0,none⟩) 1 1] 35)=x:=⟨_,rfl⟩
   have hpb:w4.heap.size=nb+1:=by rw [<-hw4,World.size_alloc,hnb]
   rw [hw5] at kp hbP ⊢
   rw [hpb] at kp
   have h35:=bl_tt hbA hbP
   have HB5:=zh (bl_tt HB3.out h35)
   have HKX5:=zh (blk_bl HKX3.out h35)
   have HKN5:=zh (blk_bl HKN3.out h35)
   have HKP5:=zh kp
   have HPV:=zh (show PV w5 Any (oneP vs t) (.agg #[.slice A0 vs.length c0,.slice none 0 0,.int .u8 57,.int .i64 0,.string ⟨#[]⟩,.slice (some ⟨nb,0,none⟩) 1 1]) from
    ⟨A0,c0,none,0,some ⟨nb,0,none⟩,1,rfl,HROW.out.later HB5.out,hl,hc0,fun i hi=>by simp [oneP] at hi,by simp [oneP],by simp [oneP],hNN.later hbP⟩)
   clear ka hbA hNN hw4 hnb kp hbP hw5 hpb h35 HKX3 HKN3 h1 h2 h3
   have HNW:=zh (New_any vs s A0 c0 _ w5 (HROW.out.later HB5.out) hl (HV.out.later HB5.out))
   obtain ⟨x0,x1,x2⟩:=box3o HKX5.out
   obtain ⟨nv',hnv⟩:∃ n,vs.length=n:=⟨_,rfl⟩
   rw [hnv] at HNW ⊢
   go_wp2_with fail
   refine HNW.out.mono ?_
   rintro e6 w6 ⟨bw6,hh⟩
   have HB6:=zh (bl_tt HB5.out bw6)
   have HKX6:=zh (blk_bl HKX5.out bw6)
   have HKN6:=zh (blk_bl HKN5.out bw6)
   have HKP6:=zh (blk_bl HKP5.out bw6)
   have HPV6:=zh (HPV.out.later bw6)
   have HN0:=zh (show w.heap.size<w5.heap.size from blk_lt HKX5.out)
   have HN1:=zh (show w.heap.size+1<w5.heap.size from blk_lt HKN5.out)
   have HBW6:=zh bw6
   clear bw6 HNW x0 x1 x2 HKX5 HKN5 HKP5 HPV
   rcases hh with ⟨hno,rfl⟩|⟨hfit,P,rfl,hsr⟩
   ·go_wp2_with fail
    go_ret
    exact ⟨rfl,HB6.out⟩
   ·have HKS1:=zh (KS.new HB5.out HBW6.out hsr)
    obtain ⟨sb,hsb⟩:∃ x,P.sb=x:=⟨_,rfl⟩
    rw [hsb] at HKS1 ⊢
    have HFIT:=zh hfit
    obtain ⟨vb,hvb⟩:∃ b,validB (oneP vs t)=b:=⟨_,rfl⟩
    have HVA:=zh (Valid_any (oneP vs t) Any _ w6 HPV6.out)
    rw [hvb] at HVA
    obtain ⟨x0,x1,x2,x3,x4,x5⟩:=box6 HKP6.out
    clear hsr hsb hfit hvb
    subst hnv
    go_wp2_with fail
    refine HVA.out.mono ?_
    rintro e7 w7 ⟨rfl,bw7⟩
    clear HVA x0 x1 x2 x3 x4 x5
    cases vb
    ·have hbz:=bl_tt HB6.out bw7
     go_wp2_with fail
     go_ret
     exact ⟨rfl,hbz⟩
    ·obtain ⟨ob,hob⟩:∃ b,okB (oneP vs t)=b:=⟨_,rfl⟩
     have HOA:=zh (OK_any (oneP vs t) _ w7 (HPV6.out.later bw7))
     rw [hob] at HOA
     obtain ⟨x0,x1,x2,x3,x4,x5⟩:=box6 (blk_bl HKP6.out bw7)
     have HBW7:=zh bw7
     have HOB:=zh hob
     clear bw7 hob
     go_wp2_with fail
     refine HOA.out.mono ?_
     rintro e8 w8 ⟨rfl,bw8⟩
     clear HOA x0 x1 x2 x3 x4 x5
     have h68:=bl_tt HBW7.out bw8
     cases ob
     ·have hbz:=bl_tt HB6.out h68
      go_wp2_with fail
      go_ret
      exact ⟨rfl,hbz⟩
     ·have HOK:=HOB
      have HKS0:=zh (HKS1.out.later h68)
      have HKX0:=zh (blk_bl HKX6.out h68)
      have HKN:=zh (blk_bl HKN6.out h68)
      clear h68 bw8 HKX6 HKN6 HKS1 HBW7 HBW6 HPV6 HKP6
      cases back
      rotate_left 1
      ·have hlaw:=undoes_law (t:=t) true (by omega) HFIT.out HFV.out HNI.out HOK.out
       simp only [if_true,if_false,Bool.false_eq_true] at hlaw
       have HLW:=zh hlaw
       clear hlaw
       obtain ⟨q0,q1,q2,q3⟩:=box4 HKN.out
       have HOP:=zh (HKS0.out.undo t _ (HN.out.later HKS0.out.bl))
       go_wp2_with fail
       refine HOP.out.mono ?_
       rintro e9 w9 ⟨rfl,hks9,hkp9⟩
       have HKS:=zh hks9
       have HKX:=zh (hkp9.blk (.inl HN0.out) HKX0.out)
       have HKN9:=zh (hkp9.blk (.inl HN1.out) HKN.out)
       clear q0 q1 q2 q3 hks9 hkp9 HOP
       by_cases h9:(undoE (newS vs s) t).1=0
       ·have e9:((undoE (newS vs s) t).1 != 0)=false:=by simp [h9]
        obtain ⟨q0,q1,q2,q3⟩:=box4 HKN9.out
        have hr2:=HLW.out.2 h9
        have hop2:=HKS.out.do_ t _ (HN.out.later HKS.out.bl)
        rw [hr2] at hop2
        have HOP2:=zh hop2
        clear hop2 hr2
        go_wp2_with fail
        refine HOP2.out.mono ?_
        rintro e10 w10 ⟨rfl,hks10,hkp10⟩
        have HKX2:=zh (hkp10.blk (.inl HN0.out) HKX.out)
        clear q0 q1 q2 q3 HKS HKX HKN9 e9 HOP2
        have HKS:=zh hks10
        have HKX:=HKX2
        have HSTT:=zh (newS_state HFIT.out)
        clear hks10 hkp10
        obtain ⟨z0,z1,z2⟩:=box3o HKX.out
        have HBT:=zh HKS.out.bl
        have HST:=zh ((HKS.out.later (Below.refl _ _).drew).state)
        rw [HSTT.out] at HST
        have HEQ:=zh (fun (v8:Value) w' (hb:Below w.heap.size w w') (h8:SV w' Any s v8)=>StEqual_any s s v8 _ w' h8 (HV.out.later hb) HSS.out HSS.out)
        simp only [eqS_refl] at HEQ
        go_upto_region 18 with fail
        have hSS:(fun w':World=>w'.cell? ⟨w.heap.size,0,none⟩=some (.slice A s.cells.length c)/\w'.cell? ⟨w.heap.size,1,none⟩=some (.slice B s.tin.length d)/\w'.cell? ⟨w.heap.size,2,none⟩=some (.slice D s.tout.length e)) w10.drew/\(fun _:World=>True) w10.drew:=⟨⟨z0,z1,z2⟩,trivial⟩
        refine wp_region_noPanic ?_
        refine wp_region_G (fun w':World=>w'.cell? ⟨w.heap.size,0,none⟩=some (.slice A s.cells.length c)/\w'.cell? ⟨w.heap.size,1,none⟩=some (.slice B s.tin.length d)/\w'.cell? ⟨w.heap.size,2,none⟩=some (.slice D s.tout.length e)) (fun _:World=>True) 6 (by kernel_rfl) ?_
        refine zT 0 hSS ?_
        (try simp only [Act.put,zP])
        refine zT 1 hSS ?_
        (try simp only [Act.put,zP])
        refine zT 2 hSS ?_
        (try simp only [Act.put,zP])
        refine zT 3 hSS ?_
        (try simp only [Act.put,zP])
        refine zT 5 hSS ?_
        (try simp only [Act.put,zP])
        have had:Calls Tryz.prog 22 [.pointer (some ⟨sb,0,none⟩)].toArray w10.drew fun e W'=>∃ u,e=.returned u/\(OwnS W' w10.drew.heap.size s u/\Below w10.drew.heap.size w10.drew W') :=
         HST.out.mono fun e W' ⟨v,h1,h2,h3⟩=>⟨v,h1,h2,h3⟩
        refine wpG_one (i:=4) (by kernel_rfl) rfl (fun K hK=>?_)
        refine step_callG (by rfl) (.func 22) [.tmp 75] _ (by rfl) 22 _ fnState (by rfl) _ (by rfl) _ had ?_
        rintro v95 w95 ⟨ho95,hb95⟩
        have HB95:=zh (show Below w10.heap.size w10 w95 from (Below.refl _ _).drew.trans hb95)
        have hS95:(fun w':World=>w'.cell? ⟨w.heap.size,0,none⟩=some (.slice A s.cells.length c)/\w'.cell? ⟨w.heap.size,1,none⟩=some (.slice B s.tin.length d)/\w'.cell? ⟨w.heap.size,2,none⟩=some (.slice D s.tout.length e)) w95/\(fun _:World=>True) w95:=⟨⟨zb HB95.out z0,zb HB95.out z1,zb HB95.out z2⟩,trivial⟩
        have HO95:=zh (ho95.sv HSS.out.lim)
        refine hK.out _ _ hS95 ?_
        clear hK K had ho95 hb95 hSS HST
        (try simp only [Act.put,zP])
        have had:Calls Tryz.prog 21 [v95,.agg #[.slice A s.cells.length c,.slice B s.tin.length d,.slice D s.tout.length e]].toArray w95 fun e W'=>∃ u,e=.returned u/\(u=.bool true/\Below w95.heap.size w95 W') :=
         (HEQ.out v95 w95 (bl_tt HBT.out HB95.out) HO95.out).mono fun e W' ⟨h1,h2⟩=>⟨_,h1,rfl,h2⟩
        refine wpG_past (i:=6) (by kernel_rfl) rfl (by kernel_rfl) (fun K hK=>?_)
        refine step_callG (by rfl) (.func 21) [.tmp 76,.tmp 77] _ (by rfl) 21 _ fnStEqual (by rfl) _ (by rfl) _ had ?_
        rintro v96 w96 ⟨rfl,hb96⟩
        have HB96:=zh (bl_tt HB95.out hb96)
        have hS96:(fun w':World=>w'.cell? ⟨w.heap.size,0,none⟩=some (.slice A s.cells.length c)/\w'.cell? ⟨w.heap.size,1,none⟩=some (.slice B s.tin.length d)/\w'.cell? ⟨w.heap.size,2,none⟩=some (.slice D s.tout.length e)) w96:=⟨zb HB96.out z0,zb HB96.out z1,zb HB96.out z2⟩
        refine hK.out _ _ hS96 ?_
        clear hK K had hb96 hS95
        (try simp only [Act.put,zP])
        refine wpG_past (i:=7) (by kernel_rfl) rfl (by kernel_rfl) (fun K hK=>?_)
        (try simp only [zA,zB,zC])
        go_simp
        refine hK.out _ _ hS96 ?_
        clear hK K
        (try simp only [Act.put,zP])
        refine wpG_past (i:=8) (by kernel_rfl) rfl (by kernel_rfl) (fun K hK=>?_)
        (try simp only [zA,zB,zC])
        go_simp
        refine hK.out _ _ hS96 ?_
        clear hK K
        (try simp only [Act.put,zP])
        refine wpG_done (by kernel_rfl) ?_
        refine NoPanic.normal ?_
        go_wp2_with fail
        go_ret
        exact ⟨rfl,bl_tt HBT.out HB96.out⟩
       ·have e9:((undoE (newS vs s) t).1 != 0)=true:=by simp [h9]
        have HSTT:=zh (HLW.out.1 h9)
        obtain ⟨z0,z1,z2⟩:=box3o HKX.out
        have HBT:=zh HKS.out.bl
        have HST:=zh ((HKS.out.later (Below.refl _ _).drew).state)
        rw [HSTT.out] at HST
        have HEQ:=zh (fun (v8:Value) w' (hb:Below w.heap.size w w') (h8:SV w' Any s v8)=>StEqual_any s s v8 _ w' h8 (HV.out.later hb) HSS.out HSS.out)
        simp only [eqS_refl] at HEQ
        go_upto_region 14 with fail
        have hSS:(fun w':World=>w'.cell? ⟨w.heap.size,0,none⟩=some (.slice A s.cells.length c)/\w'.cell? ⟨w.heap.size,1,none⟩=some (.slice B s.tin.length d)/\w'.cell? ⟨w.heap.size,2,none⟩=some (.slice D s.tout.length e)) w9.drew/\(fun _:World=>True) w9.drew:=⟨⟨z0,z1,z2⟩,trivial⟩
        refine wp_region_noPanic ?_
        refine wp_region_G (fun w':World=>w'.cell? ⟨w.heap.size,0,none⟩=some (.slice A s.cells.length c)/\w'.cell? ⟨w.heap.size,1,none⟩=some (.slice B s.tin.length d)/\w'.cell? ⟨w.heap.size,2,none⟩=some (.slice D s.tout.length e)) (fun _:World=>True) 3 (by kernel_rfl) ?_
        refine zT 0 hSS ?_
        (try simp only [Act.put,zP])
        refine zT 2 hSS ?_
        (try simp only [Act.put,zP])
        have had:Calls Tryz.prog 22 [.pointer (some ⟨sb,0,none⟩)].toArray w9.drew fun e W'=>∃ u,e=.returned u/\(OwnS W' w9.drew.heap.size s u/\Below w9.drew.heap.size w9.drew W') :=
         HST.out.mono fun e W' ⟨v,h1,h2,h3⟩=>⟨v,h1,h2,h3⟩
        refine wpG_one (i:=1) (by kernel_rfl) rfl (fun K hK=>?_)
        refine step_callL (by rfl) (.func 22) [.tmp 61] _ (by rfl) 22 _ fnState (by rfl) _ (by rfl) _ had ?_
        rintro v95 w95 ⟨ho95,hb95⟩
        have HB95:=zh (show Below w9.heap.size w9 w95 from (Below.refl _ _).drew.trans hb95)
        have hS95:(fun w':World=>w'.cell? ⟨w.heap.size,0,none⟩=some (.slice A s.cells.length c)/\w'.cell? ⟨w.heap.size,1,none⟩=some (.slice B s.tin.length d)/\w'.cell? ⟨w.heap.size,2,none⟩=some (.slice D s.tout.length e)) w95/\(fun _:World=>True) w95:=⟨⟨zb HB95.out z0,zb HB95.out z1,zb HB95.out z2⟩,trivial⟩
        have HO95:=zh (ho95.sv HSS.out.lim)
        refine hK.out _ _ hS95 ?_
        clear hK K had ho95 hb95 hSS HST
        (try simp only [Act.put,zP])
        have had:Calls Tryz.prog 21 [v95,.agg #[.slice A s.cells.length c,.slice B s.tin.length d,.slice D s.tout.length e]].toArray w95 fun e W'=>∃ u,e=.returned u/\(u=.bool true/\Below w95.heap.size w95 W') :=
         (HEQ.out v95 w95 (bl_tt HBT.out HB95.out) HO95.out).mono fun e W' ⟨h1,h2⟩=>⟨_,h1,rfl,h2⟩
        refine wpG_past (i:=3) (by kernel_rfl) rfl (by kernel_rfl) (fun K hK=>?_)
        refine step_callL (by rfl) (.func 21) [.tmp 62,.tmp 63] _ (by rfl) 21 _ fnStEqual (by rfl) _ (by rfl) _ had ?_
        rintro v96 w96 ⟨rfl,hb96⟩
        have HB96:=zh (bl_tt HB95.out hb96)
        have hS96:(fun w':World=>w'.cell? ⟨w.heap.size,0,none⟩=some (.slice A s.cells.length c)/\w'.cell? ⟨w.heap.size,1,none⟩=some (.slice B s.tin.length d)/\w'.cell? ⟨w.heap.size,2,none⟩=some (.slice D s.tout.length e)) w96:=⟨zb HB96.out z0,zb HB96.out z1,zb HB96.out z2⟩
        refine hK.out _ _ hS96 ?_
        clear hK K had hb96 hS95
        (try simp only [Act.put,zP])
        refine wpG_past (i:=4) (by kernel_rfl) rfl (by kernel_rfl) (fun K hK=>?_)
        (try simp only [zA,zB,zC])
        go_simp
        refine hK.out _ _ hS96 ?_
        clear hK K
        (try simp only [Act.put,zP])
        refine wpG_done (by kernel_rfl) ?_
        refine NoPanic.normal ?_
        go_wp2_with fail
        go_ret
        exact ⟨rfl,bl_tt HBT.out HB96.out⟩
      ·have hlaw:=undoes_law (t:=t) false (by omega) HFIT.out HFV.out HNI.out HOK.out
       simp only [if_true,if_false,Bool.false_eq_true] at hlaw
       have HLW:=zh hlaw
       clear hlaw
       obtain ⟨q0,q1,q2,q3⟩:=box4 HKN.out
       have HOP:=zh (HKS0.out.do_ t _ (HN.out.later HKS0.out.bl))
       go_wp2_with fail
       refine HOP.out.mono ?_
       rintro e9 w9 ⟨rfl,hks9,hkp9⟩
       have HKS:=zh hks9
       have HKX:=zh (hkp9.blk (.inl HN0.out) HKX0.out)
       have HKN9:=zh (hkp9.blk (.inl HN1.out) HKN.out)
       clear q0 q1 q2 q3 hks9 hkp9 HOP
       by_cases h9:(doE (newS vs s) t).1=0
       ·have e9:((doE (newS vs s) t).1 != 0)=false:=by simp [h9]
        obtain ⟨q0,q1,q2,q3⟩:=box4 HKN9.out
        have hr2:=HLW.out.2 h9
        have hop2:=HKS.out.undo t _ (HN.out.later HKS.out.bl)
        rw [hr2] at hop2
        have HOP2:=zh hop2
        clear hop2 hr2
        go_wp2_with fail
        refine HOP2.out.mono ?_
        rintro e10 w10 ⟨rfl,hks10,hkp10⟩
        have HKX2:=zh (hkp10.blk (.inl HN0.out) HKX.out)
        clear q0 q1 q2 q3 HKS HKX HKN9 e9 HOP2
        have HKS:=zh hks10
        have HKX:=HKX2
        have HSTT:=zh (newS_state HFIT.out)
        clear hks10 hkp10
        obtain ⟨z0,z1,z2⟩:=box3o HKX.out
        have HBT:=zh HKS.out.bl
        have HST:=zh ((HKS.out.later (Below.refl _ _).drew).state)
        rw [HSTT.out] at HST
        have HEQ:=zh (fun (v8:Value) w' (hb:Below w.heap.size w w') (h8:SV w' Any s v8)=>StEqual_any s s v8 _ w' h8 (HV.out.later hb) HSS.out HSS.out)
        simp only [eqS_refl] at HEQ
        go_upto_region 18 with fail
        have hSS:(fun w':World=>w'.cell? ⟨w.heap.size,0,none⟩=some (.slice A s.cells.length c)/\w'.cell? ⟨w.heap.size,1,none⟩=some (.slice B s.tin.length d)/\w'.cell? ⟨w.heap.size,2,none⟩=some (.slice D s.tout.length e)) w10.drew/\(fun _:World=>True) w10.drew:=⟨⟨z0,z1,z2⟩,trivial⟩
        refine wp_region_noPanic ?_
        refine wp_region_G (fun w':World=>w'.cell? ⟨w.heap.size,0,none⟩=some (.slice A s.cells.length c)/\w'.cell? ⟨w.heap.size,1,none⟩=some (.slice B s.tin.length d)/\w'.cell? ⟨w.heap.size,2,none⟩=some (.slice D s.tout.length e)) (fun _:World=>True) 6 (by kernel_rfl) ?_
        refine zT 0 hSS ?_
        (try simp only [Act.put,zP])
        refine zT 1 hSS ?_
        (try simp only [Act.put,zP])
        refine zT 2 hSS ?_
        (try simp only [Act.put,zP])
        refine zT 3 hSS ?_
        (try simp only [Act.put,zP])
        refine zT 5 hSS ?_
        (try simp only [Act.put,zP])
        have had:Calls Tryz.prog 22 [.pointer (some ⟨sb,0,none⟩)].toArray w10.drew fun e W'=>∃ u,e=.returned u/\(OwnS W' w10.drew.heap.size s u/\Below w10.drew.heap.size w10.drew W') :=
         HST.out.mono fun e W' ⟨v,h1,h2,h3⟩=>⟨v,h1,h2,h3⟩
        refine wpG_one (i:=4) (by kernel_rfl) rfl (fun K hK=>?_)
        refine step_callG (by rfl) (.func 22) [.tmp 75] _ (by rfl) 22 _ fnState (by rfl) _ (by rfl) _ had ?_
        rintro v95 w95 ⟨ho95,hb95⟩
        have HB95:=zh (show Below w10.heap.size w10 w95 from (Below.refl _ _).drew.trans hb95)
        have hS95:(fun w':World=>w'.cell? ⟨w.heap.size,0,none⟩=some (.slice A s.cells.length c)/\w'.cell? ⟨w.heap.size,1,none⟩=some (.slice B s.tin.length d)/\w'.cell? ⟨w.heap.size,2,none⟩=some (.slice D s.tout.length e)) w95/\(fun _:World=>True) w95:=⟨⟨zb HB95.out z0,zb HB95.out z1,zb HB95.out z2⟩,trivial⟩
        have HO95:=zh (ho95.sv HSS.out.lim)
        refine hK.out _ _ hS95 ?_
        clear hK K had ho95 hb95 hSS HST
        (try simp only [Act.put,zP])
        have had:Calls Tryz.prog 21 [v95,.agg #[.slice A s.cells.length c,.slice B s.tin.length d,.slice D s.tout.length e]].toArray w95 fun e W'=>∃ u,e=.returned u/\(u=.bool true/\Below w95.heap.size w95 W') :=
         (HEQ.out v95 w95 (bl_tt HBT.out HB95.out) HO95.out).mono fun e W' ⟨h1,h2⟩=>⟨_,h1,rfl,h2⟩
        refine wpG_past (i:=6) (by kernel_rfl) rfl (by kernel_rfl) (fun K hK=>?_)
        refine step_callG (by rfl) (.func 21) [.tmp 76,.tmp 77] _ (by rfl) 21 _ fnStEqual (by rfl) _ (by rfl) _ had ?_
        rintro v96 w96 ⟨rfl,hb96⟩
        have HB96:=zh (bl_tt HB95.out hb96)
        have hS96:(fun w':World=>w'.cell? ⟨w.heap.size,0,none⟩=some (.slice A s.cells.length c)/\w'.cell? ⟨w.heap.size,1,none⟩=some (.slice B s.tin.length d)/\w'.cell? ⟨w.heap.size,2,none⟩=some (.slice D s.tout.length e)) w96:=⟨zb HB96.out z0,zb HB96.out z1,zb HB96.out z2⟩
        refine hK.out _ _ hS96 ?_
        clear hK K had hb96 hS95
        (try simp only [Act.put,zP])
        refine wpG_past (i:=7) (by kernel_rfl) rfl (by kernel_rfl) (fun K hK=>?_)
        (try simp only [zA,zB,zC])
        go_simp
        refine hK.out _ _ hS96 ?_
        clear hK K
        (try simp only [Act.put,zP])
        refine wpG_past (i:=8) (by kernel_rfl) rfl (by kernel_rfl) (fun K hK=>?_)
        (try simp only [zA,zB,zC])
        go_simp
        refine hK.out _ _ hS96 ?_
        clear hK K
        (try simp only [Act.put,zP])
        refine wpG_done (by kernel_rfl) ?_
        refine NoPanic.normal ?_
        go_wp2_with fail
        go_ret
        exact ⟨rfl,bl_tt HBT.out HB96.out⟩
       ·have e9:((doE (newS vs s) t).1 != 0)=true:=by simp [h9]
        have HSTT:=zh (HLW.out.1 h9)
        obtain ⟨z0,z1,z2⟩:=box3o HKX.out
        have HBT:=zh HKS.out.bl
        have HST:=zh ((HKS.out.later (Below.refl _ _).drew).state)
        rw [HSTT.out] at HST
        have HEQ:=zh (fun (v8:Value) w' (hb:Below w.heap.size w w') (h8:SV w' Any s v8)=>StEqual_any s s v8 _ w' h8 (HV.out.later hb) HSS.out HSS.out)
        simp only [eqS_refl] at HEQ
        go_upto_region 14 with fail
        have hSS:(fun w':World=>w'.cell? ⟨w.heap.size,0,none⟩=some (.slice A s.cells.length c)/\w'.cell? ⟨w.heap.size,1,none⟩=some (.slice B s.tin.length d)/\w'.cell? ⟨w.heap.size,2,none⟩=some (.slice D s.tout.length e)) w9.drew/\(fun _:World=>True) w9.drew:=⟨⟨z0,z1,z2⟩,trivial⟩
        refine wp_region_noPanic ?_
        refine wp_region_G (fun w':World=>w'.cell? ⟨w.heap.size,0,none⟩=some (.slice A s.cells.length c)/\w'.cell? ⟨w.heap.size,1,none⟩=some (.slice B s.tin.length d)/\w'.cell? ⟨w.heap.size,2,none⟩=some (.slice D s.tout.length e)) (fun _:World=>True) 3 (by kernel_rfl) ?_
        refine zT 0 hSS ?_
        (try simp only [Act.put,zP])
        refine zT 2 hSS ?_
        (try simp only [Act.put,zP])
        have had:Calls Tryz.prog 22 [.pointer (some ⟨sb,0,none⟩)].toArray w9.drew fun e W'=>∃ u,e=.returned u/\(OwnS W' w9.drew.heap.size s u/\Below w9.drew.heap.size w9.drew W') :=
         HST.out.mono fun e W' ⟨v,h1,h2,h3⟩=>⟨v,h1,h2,h3⟩
        refine wpG_one (i:=1) (by kernel_rfl) rfl (fun K hK=>?_)
        refine step_callL (by rfl) (.func 22) [.tmp 61] _ (by rfl) 22 _ fnState (by rfl) _ (by rfl) _ had ?_
        rintro v95 w95 ⟨ho95,hb95⟩
        have HB95:=zh (show Below w9.heap.size w9 w95 from (Below.refl _ _).drew.trans hb95)
        have hS95:(fun w':World=>w'.cell? ⟨w.heap.size,0,none⟩=some (.slice A s.cells.length c)/\w'.cell? ⟨w.heap.size,1,none⟩=some (.slice B s.tin.length d)/\w'.cell? ⟨w.heap.size,2,none⟩=some (.slice D s.tout.length e)) w95/\(fun _:World=>True) w95:=⟨⟨zb HB95.out z0,zb HB95.out z1,zb HB95.out z2⟩,trivial⟩
        have HO95:=zh (ho95.sv HSS.out.lim)
        refine hK.out _ _ hS95 ?_
        clear hK K had ho95 hb95 hSS HST
        (try simp only [Act.put,zP])
        have had:Calls Tryz.prog 21 [v95,.agg #[.slice A s.cells.length c,.slice B s.tin.length d,.slice D s.tout.length e]].toArray w95 fun e W'=>∃ u,e=.returned u/\(u=.bool true/\Below w95.heap.size w95 W') :=
         (HEQ.out v95 w95 (bl_tt HBT.out HB95.out) HO95.out).mono fun e W' ⟨h1,h2⟩=>⟨_,h1,rfl,h2⟩
        refine wpG_past (i:=3) (by kernel_rfl) rfl (by kernel_rfl) (fun K hK=>?_)
        refine step_callL (by rfl) (.func 21) [.tmp 62,.tmp 63] _ (by rfl) 21 _ fnStEqual (by rfl) _ (by rfl) _ had ?_
        rintro v96 w96 ⟨rfl,hb96⟩
        have HB96:=zh (bl_tt HB95.out hb96)
        have hS96:(fun w':World=>w'.cell? ⟨w.heap.size,0,none⟩=some (.slice A s.cells.length c)/\w'.cell? ⟨w.heap.size,1,none⟩=some (.slice B s.tin.length d)/\w'.cell? ⟨w.heap.size,2,none⟩=some (.slice D s.tout.length e)) w96:=⟨zb HB96.out z0,zb HB96.out z1,zb HB96.out z2⟩
        refine hK.out _ _ hS96 ?_
        clear hK K had hb96 hS95
        (try simp only [Act.put,zP])
        refine wpG_past (i:=4) (by kernel_rfl) rfl (by kernel_rfl) (fun K hK=>?_)
        (try simp only [zA,zB,zC])
        go_simp
        refine hK.out _ _ hS96 ?_
        clear hK K
        (try simp only [Act.put,zP])
        refine wpG_done (by kernel_rfl) ?_
        refine NoPanic.normal ?_
        go_wp2_with fail
        go_ret
        exact ⟨rfl,bl_tt HBT.out HB96.out⟩
end Go.Proofs.YtckhofdinldhpaaGreat
namespace Go.Proofs.YtckhofdinldhpaaGreat
open Go.RowKit Go.ChangeShapes Go.WideShapes Go.ChangeAt Go.Deep
theorem cellsNode:Tryz.prog.cellsOf 29=4:=by kernel_rfl
theorem bytesNode:Tryz.prog.bytesOf 29=56:=by kernel_rfl
theorem cellsU8:Tryz.prog.cellsOf 5=1:=by kernel_rfl
theorem cellsI64:Tryz.prog.cellsOf 3=1:=by kernel_rfl
theorem cellsStr:Tryz.prog.cellsOf 9=1:=by kernel_rfl
theorem cellsKids:Tryz.prog.cellsOf 27=1:=by kernel_rfl
theorem weightsAll_mem {H:Type} {P:Program} {e:TypeId}:∀ {l:List (DataW H)} {d:DataW H},d∈l->∀ n∈d.weights P e,n∈DataW.weightsAll P e l
 | d0::l,d,hd,n,hn=>by
  simp only [DataW.weightsAll,List.mem_append]
  rcases List.mem_cons.1 hd with rfl|hd
  ·exact .inl hn
  ·exact .inr (weightsAll_mem hd n hn)
theorem sizes_le_bulk {H:Type}:∀ (ks:List T) (ds:List (DataW H)),ks.length=ds.length->(∀ i (h:i<ks.length) (h':i<ds.length),size ks[i]<=Rows.uptoBulk ds[i])->sizes ks<=Rows.uptoBulkAll ds
 | [],[],_,_=>by simp [sizes]
 | t::ts,d::ds,hl,h=>by
  have h0:=h 0 (Nat.zero_lt_succ _) (Nat.zero_lt_succ _)
  have h1:=sizes_le_bulk ts ds (by simpa using hl) (fun i hi hi'=>h (i+1) (Nat.succ_lt_succ hi) (Nat.succ_lt_succ hi'))
  simp only [List.getElem_cons_zero] at h0
  simp only [sizes,Rows.uptoBulkAll]
  omega
 | [],_::_,hl,_=>by simp at hl
 | _::_,[],hl,_=>by simp at hl
section
variable {H:Type} {enc:TypeId×Value->H} {w:World} {held:Bool}
def zeroT':T:=.nd 0 0 ⟨#[]⟩ []
theorem open_node:∀ (fuel:Nat) (cs:List Value) (x:DataW H×List MemPlace),DataW.trod enc Tryz.prog w 0 (fun _=>true) held fuel 29 cs=some x ->
  (∀ n∈x.1.weights Tryz.prog 29,n<=reachBytes) ->
  ∃ t u0 u1 u2 u3,cs=[u0,u1,u2,u3]/\NV w Any t (.agg #[u0,u1,u2,u3])/\t.ks.length*56<=reachBytes/\size t<=Rows.uptoBulk x.1:=by
 intro fuel
 induction fuel using Nat.strongRecOn with
 | _ fuel ih =>
 intro cs x h hw
 have hts:=DataW.trod_struct Tryz.underlying29 h
 obtain ⟨xs,n,hfu,hx,hcl,hxl,hg⟩:=hts
 subst hx
 rw [cellsNode] at hcl
 match cs,hcl with
 | [c0,c1,c2,c3],_ =>
 match xs,hxl with
 | [y0,y1,y2,y3],_ =>
 have g0:=hg 0 _ rfl
 have g1:=hg 1 _ rfl
 have g2:=hg 2 _ rfl
 have g3:=hg 3 _ rfl
 simp only [cellsU8,cellsI64,cellsStr,cellsKids,List.drop_zero,List.take_succ_cons,List.take_zero,List.drop_succ_cons,List.getElem?_cons_zero,List.getElem?_cons_succ] at g0 g1 g2 g3
 obtain ⟨k,e0,e0',wk⟩:=DataW.trod_int Tryz.underlying5 g0
 obtain ⟨m,e1,e1',wm⟩:=DataW.trod_int Tryz.underlying3 g1
 obtain ⟨s,e2,e2',ws⟩:=DataW.trod_string Tryz.underlying9 g2
 injection e0 with e0
 injection e1 with e1
 injection e2 with e2
 subst e0 e1 e2 e0' e1' e2'
 have hf:Fld k m s:=by
  refine ⟨?_,?_,ws⟩
  ·have:=wk; simp [Lit.wf,IntKind.min,IntKind.max,IntKind.signed,IntKind.bits] at this; omega
  ·have:=wm; simp [Lit.wf,IntKind.min,IntKind.max,IntKind.signed,IntKind.bits] at this; omega
 have hsl:=DataW.trod_slice Tryz.underlying27 g3
 rcases hsl with ⟨e3,e3'⟩|⟨a,len,cap,elems,rest,n',hn',e3,e3',_,hl,hm,hel,hat,hsp,_⟩
 ·injection e3 with e3
  subst e3 e3'
  refine ⟨.nd k m s [],_,_,_,_,rfl,NV.shut (ks:=[]) hf (Nat.zero_le _) (Nat.zero_le _) RowAt.nil,by simp,?_⟩
  simp only [size,sizes,List.map_cons,List.map_nil,Rows.uptoBulk]
  omega
 ·injection e3 with e3
  subst e3 e3'
  obtain ⟨hrl,_⟩:=hsp rfl
  rw [cellsNode] at hat
  -- what the reach says of this slice,and of its elements
  have hws:∀ q∈DataW.weights Tryz.prog 27 (.slice (elems.map (·.1)) (rest.map (·.1)):DataW H),q<=reachBytes:=by
   intro q hq
   refine hw q ?_
   simp only [List.map_cons,List.map_nil,DataW.weights,Tryz.underlying29]
   simp only [DataW.weightsEach,List.map_cons,List.map_nil,List.mem_append]
   exact .inr (.inr (.inr (.inl hq)))
  simp only [DataW.weights,Tryz.underlying27,bytesNode] at hws
  have hcap:cap*56<=reachBytes:=by
   have:=hws _ (List.mem_cons_self ..)
   simp only [List.length_map] at this
   rw [hel,hrl] at this
   rw [show cap=len+(cap-len) by omega]
   exact this
  have hwe:∀ y∈elems,∀ q∈y.1.weights Tryz.prog 29,q<=reachBytes:=fun y hy q hq =>
   hws q (List.mem_cons_of_mem _ (List.mem_append_left _ (weightsAll_mem (List.mem_map_of_mem hy) q hq)))
  have key:∀ i (hi:i<elems.length),∃ t u0 u1 u2 u3,w.cells? 0 (a.add (i*4)) 4=some [u0,u1,u2,u3]/\NV w Any t (.agg #[u0,u1,u2,u3])/\size t<=Rows.uptoBulk elems[i].1:=by
   intro i hi
   have h1:=hat i (by omega)
   rw [List.getElem?_eq_getElem hi] at h1
   obtain ⟨cs',hcs,ht⟩:=Option.bind_eq_some_iff.1 h1
   obtain ⟨t,u0,u1,u2,u3,rfl,hn,_,hb⟩:=ih n' (by omega) cs' elems[i] ht (hwe _ (List.getElem_mem hi))
   exact ⟨t,u0,u1,u2,u3,hcs,hn,hb⟩
  have hex:∃ ks:List T,ks.length=elems.length/\∀ i (h:i<ks.length) (h':i<elems.length),(∃ u0 u1 u2 u3,w.cells? 0 (a.add (i*4)) 4=some [u0,u1,u2,u3]/\NV w Any ks[i] (.agg #[u0,u1,u2,u3]))/\size ks[i]<=Rows.uptoBulk elems[i].1:=by
   classical
   refine ⟨(List.range elems.length).map fun i=>if h:i<elems.length then (key i h).choose else zeroT',by simp,fun i h h'=>?_⟩
   simp only [List.getElem_map,List.getElem_range,h',dif_pos]
   obtain ⟨u0,u1,u2,u3,h1,h2,h3⟩:=(key i h').choose_spec
   exact ⟨⟨u0,u1,u2,u3,h1,h2⟩,h3⟩
  obtain ⟨ks,hkl,hks⟩:=hex
  have hlen:ks.length=len:=by omega
  have hLK:ks.length<=LK:=by unfold LK; unfold reachBytes at hcap; omega
  refine ⟨.nd k m s ks,_,_,_,_,rfl,?_,?_,?_⟩
  ·rw [<-hlen]
   refine NV.shut hf hLK (by omega) fun i hi=>?_
   obtain ⟨⟨u0,u1,u2,u3,hc,hn⟩,_⟩:=hks i hi (by omega)
   obtain ⟨_,_,hcell⟩:=World.cells?_some hc
   refine ⟨a,u0,u1,u2,u3,rfl,trivial,⟨?_,?_,?_,?_⟩,hn⟩
   ·have:=hcell 0 (by omega); simpa [Addr.add] using this
   ·have:=hcell 1 (by omega); simpa [Addr.add] using this
   ·have:=hcell 2 (by omega); simpa [Addr.add] using this
   ·have:=hcell 3 (by omega); simpa [Addr.add] using this
  ·simp only [T.ks_nd]; omega
  ·have hb:=sizes_le_bulk ks (elems.map (·.1)) (by simp [hkl]) (fun i h h'=>by
    have:=(hks i h (by simpa using h')).2
    simpa using this)
   simp only [size,List.map_cons,List.map_nil,Rows.uptoBulk,Rows.uptoBulkAll]
   omega
end
theorem Tryz.own:ownKnob Tryz.prog.godebug=none:=by kernel_rfl
theorem Tryz.laidOut:laidOutB Tryz.prog=true:=by kernel_rfl
theorem node_in {H:Type} {enc:TypeId×Value->H} {W:World} {base:Nat} {v:Value} {d:DataW H} {p:List MemPlace} (hok:Value.okWide Tryz.prog W .any base 29 v)
  (h:DataW.Trod enc Tryz.prog W 0 (fun _=>true) true 29 v d p) (hw:∀ n∈d.weights Tryz.prog 29,n<=reachBytes) :
  ∃ t,NV W Any t v/\t.ks.length*56<=reachBytes/\size t<=Rows.uptoBulk d:=by
 obtain ⟨cs,rfl,hcs⟩:=okWide_struct Tryz.underlying29 hok
 obtain ⟨fuel,hf⟩:=h
 obtain ⟨t,u0,u1,u2,u3,e,hn,h1,h2⟩:=open_node fuel _ _ hf hw
 refine ⟨t,?_,h1,h2⟩
 have:cs = #[u0,u1,u2,u3]:=by
  apply Array.ext'
  simpa [Value.cells] using e
 rw [this]
 exact hn
theorem cellsVd:Tryz.prog.cellsOf 83=3:=by kernel_rfl
theorem bytesVd:Tryz.prog.bytesOf 83=32:=by kernel_rfl
section
variable {H:Type} {enc:TypeId×Value->H} {w:World} {held:Bool}
theorem open_row {ty E:TypeId} {n b:Nat} (ht:Tryz.prog.underlying ty=some (.slice E)) (hc:Tryz.prog.cellsOf E=n) (hb:Tryz.prog.bytesOf E=b) {fuel:Nat} {cs:List Value} {x:DataW H×List MemPlace}
  (h:DataW.trod enc Tryz.prog w 0 (fun _=>true) held fuel ty cs=some x) (hw:∀ q∈x.1.weights Tryz.prog ty,q<=reachBytes) :
  cs=[.slice none 0 0]\/∃ a len cap,cs=[.slice (some a) len cap]/\len<=cap/\cap*b<=reachBytes/\∀ i,i<len->∃ cs' y n',w.cells? 0 (a.add (i*n)) n=some cs'/\DataW.trod enc Tryz.prog w 0 (fun _=>true) held n' E cs'=some y/\∀ q∈y.1.weights Tryz.prog E,q<=reachBytes:=by
 have hsl:=DataW.trod_slice ht h
 rcases hsl with ⟨e3,e3'⟩|⟨a,len,cap,elems,rest,n',hn',e3,e3',_,hl,hm,hel,hat,hsp,_⟩
 ·exact .inl e3
 ·refine .inr ⟨a,len,cap,e3,hl,?_,?_⟩
  ·obtain ⟨hrl,_⟩:=hsp rfl
   subst e3'
   simp only [DataW.weights,ht,hb] at hw
   have:=hw _ (List.mem_cons_self ..)
   simp only [List.length_map] at this
   rw [hel,hrl] at this
   rw [show cap=len+(cap-len) by omega]
   exact this
  ·intro i hi
   subst e3'
   simp only [DataW.weights,ht,hb] at hw
   have hi':i<elems.length:=by omega
   have h1:=hat i (by omega)
   rw [List.getElem?_eq_getElem hi',hc] at h1
   obtain ⟨cs',hcs,ht'⟩:=Option.bind_eq_some_iff.1 h1
   exact ⟨cs',elems[i],n',hcs,ht',fun q hq=>hw q (List.mem_cons_of_mem _ (List.mem_append_left _ (weightsAll_mem (List.mem_map_of_mem (List.getElem_mem hi')) q hq)))⟩
theorem open_vd {fuel:Nat} {cs:List Value} {x:DataW H×List MemPlace} (h:DataW.trod enc Tryz.prog w 0 (fun _=>true) held fuel 83 cs=some x) :
  ∃ v:VD,cs=[.string v.s,.int .u8 v.k,.int .i64 v.n]/\FldV v:=by
 have hts:=DataW.trod_struct Tryz.underlying83 h
 obtain ⟨xs,n,hfu,hx,hcl,hxl,hg⟩:=hts
 rw [cellsVd] at hcl
 match cs,hcl with
 | [c0,c1,c2],_ =>
 match xs,hxl with
 | [y0,y1,y2],_ =>
 have g0:=hg 0 _ rfl
 have g1:=hg 1 _ rfl
 have g2:=hg 2 _ rfl
 obtain ⟨s,e2,e2',ws⟩:=DataW.trod_string Tryz.underlying9 g0
 obtain ⟨k,e0,e0',wk⟩:=DataW.trod_int Tryz.underlying5 g1
 obtain ⟨m,e1,e1',wm⟩:=DataW.trod_int Tryz.underlying3 g2
 injection e0 with e0
 injection e1 with e1
 injection e2 with e2
 subst e0 e1 e2
 refine ⟨⟨s,k,m⟩,rfl,ws,?_,?_⟩
 ·have:=wk; simp [Lit.wf,IntKind.min,IntKind.max,IntKind.signed,IntKind.bits] at this; constructor<;>simp only<;>omega
 ·have:=wm; simp [Lit.wf,IntKind.min,IntKind.max,IntKind.signed,IntKind.bits] at this; constructor<;>simp only<;>omega
theorem choose_list {α:Type} [Inhabited α] {n:Nat} {P:Nat->α->Prop} (h:∀ i,i<n->∃ x,P i x):∃ l:List α,l.length=n/\∀ i (hi:i<l.length),P i l[i]:=by
 obtain ⟨f,hf⟩:=choose_lt h
 exact ⟨(List.range n).map f,by simp,fun i hi=>by simp only [List.getElem_map,List.getElem_range]; exact hf i (by simpa using hi)⟩
instance:Inhabited VD:=⟨⟨⟨#[]⟩,0,0⟩⟩
theorem open_varsW {fuel:Nat} {cs:List Value} {x:DataW H×List MemPlace} (h:DataW.trod enc Tryz.prog w 0 (fun _=>true) held fuel 22 cs=some x) (hw:∀ q∈x.1.weights Tryz.prog 22,q<=reachBytes) :
  ∃ (A:Option Addr) (vs:List VD) (c:Nat),cs=[.slice A vs.length c]/\RowV w Any A vs/\vs.length<=4398046510976/\vs.length<=c:=by
 rcases open_row Tryz.underlying22 cellsVd bytesVd h hw with rfl|⟨a,len,cap,rfl,hl,hcap,hat⟩
 ·exact ⟨none,[],0,rfl,fun i hi=>absurd hi (by simp),Nat.zero_le _,Nat.zero_le _⟩
 ·obtain ⟨vs,hvl,hvs⟩:=choose_list (n:=len) (P:=fun i (v:VD)=>w.cells? 0 (a.add (i*3)) 3=some [.string v.s,.int .u8 v.k,.int .i64 v.n]/\FldV v) fun i hi=>by
   obtain ⟨cs',y,n',hcs,ht,_⟩:=hat i hi
   obtain ⟨v,rfl,hf⟩:=open_vd ht
   exact ⟨v,hcs,hf⟩
  refine ⟨some a,vs,cap,by rw [hvl],fun i hi=>?_,by unfold reachBytes at hcap; omega,by omega⟩
  obtain ⟨hc,hf⟩:=hvs i hi
  obtain ⟨_,_,hcell⟩:=World.cells?_some hc
  refine ⟨a,rfl,trivial,⟨?_,?_,?_⟩,hf⟩
  ·have:=hcell 0 (by omega); simpa [Addr.add] using this
  ·have:=hcell 1 (by omega); simpa [Addr.add] using this
  ·have:=hcell 2 (by omega); simpa [Addr.add] using this
theorem open_vars {fuel:Nat} {cs:List Value} {x:DataW H×List MemPlace} (h:DataW.trod enc Tryz.prog w 0 (fun _=>true) held fuel 22 cs=some x) (hw:∀ q∈x.1.weights Tryz.prog 22,q<=reachBytes) :
  ∃ (A:Option Addr) (vs:List VD) (c:Nat),cs=[.slice A vs.length c]/\RowV w Any A vs/\vs.length<=LV/\vs.length<=c:=by
 obtain ⟨A,vs,c,h1,h2,h3,h4⟩:=open_varsW h hw
 exact ⟨A,vs,c,h1,h2,by unfold LV; omega,h4⟩
instance:Inhabited T:=⟨zeroT'⟩
end
theorem cellsI:Tryz.prog.cellsOf 24=1:=by kernel_rfl
theorem bytesI64:Tryz.prog.bytesOf 3=8:=by kernel_rfl
theorem bytesI:Tryz.prog.bytesOf 24=24:=by kernel_rfl
theorem cellsState:Tryz.prog.cellsOf 26=3:=by kernel_rfl
section
variable {H:Type} {enc:TypeId×Value->H} {w:World} {held:Bool}
theorem cell0 {a:Addr} {u:Value} (h:w.cells? 0 a 1=some [u]):w.cell? a=some u:=by
 obtain ⟨_,_,hcell⟩:=World.cells?_some h
 have:=hcell 0 (by omega)
 have e:a.add 0=a:=by
  obtain ⟨b,o,l⟩:=a
  rcases l with _|⟨l1,l2⟩<;>simp [Addr.add]
 rw [e] at this
 simpa using this
theorem open_rowI {fuel:Nat} {cs:List Value} {x:DataW H×List MemPlace} (h:DataW.trod enc Tryz.prog w 0 (fun _=>true) held fuel 24 cs=some x) (hw:∀ q∈x.1.weights Tryz.prog 24,q<=reachBytes) :
  ∃ (A:Option Addr) (l:List Int) (c:Nat),cs=[.slice A l.length c]/\RowI w Any A l/\l.length<=LI/\l.length<=c:=by
 rcases open_row Tryz.underlying24 cellsI64 bytesI64 h hw with rfl|⟨a,len,cap,rfl,hl,hcap,hat⟩
 ·exact ⟨none,[],0,rfl,fun i hi=>absurd hi (by simp),Nat.zero_le _,Nat.zero_le _⟩
 ·obtain ⟨l,hvl,hvs⟩:=choose_list (n:=len) (P:=fun i (x:Int)=>w.cells? 0 (a.add (i*1)) 1=some [.int .i64 x]/\I64 x) fun i hi=>by
   obtain ⟨cs',y,n',hcs,ht,_⟩:=hat i hi
   obtain ⟨m,e1,e1',wm⟩:=DataW.trod_int Tryz.underlying3 ht
   refine ⟨m,by rw [hcs,e1],?_⟩
   have:=wm
   simp [Lit.wf,IntKind.min,IntKind.max,IntKind.signed,IntKind.bits] at this
   constructor<;>omega
  refine ⟨some a,l,cap,by rw [hvl],fun i hi=>?_,by unfold LI; unfold reachBytes at hcap; omega,by omega⟩
  obtain ⟨hc,hf⟩:=hvs i hi
  rw [Nat.mul_one] at hc
  exact ⟨a,rfl,trivial,cell0 hc,hf⟩
instance:Inhabited (List Int):=⟨[]⟩
theorem open_rowII {fuel:Nat} {cs:List Value} {x:DataW H×List MemPlace} (h:DataW.trod enc Tryz.prog w 0 (fun _=>true) held fuel 23 cs=some x) (hw:∀ q∈x.1.weights Tryz.prog 23,q<=reachBytes) :
  ∃ (A:Option Addr) (ls:List (List Int)) (c:Nat),cs=[.slice A ls.length c]/\RowII w Any A ls/\ls.length<=LI/\(∀ l∈ls,l.length<=LI)/\ls.length<=c:=by
 rcases open_row Tryz.underlying23 cellsI bytesI h hw with rfl|⟨a,len,cap,rfl,hl,hcap,hat⟩
 ·exact ⟨none,[],0,rfl,fun i hi=>absurd hi (by simp),Nat.zero_le _,by simp,Nat.zero_le _⟩
 ·obtain ⟨ls,hvl,hvs⟩:=choose_list (n:=len) (P:=fun i (l:List Int)=>∃ A' c',w.cells? 0 (a.add (i*1)) 1=some [.slice A' l.length c']/\RowI w Any A' l/\l.length<=LI/\l.length<=c') fun i hi=>by
   obtain ⟨cs',y,n',hcs,ht,hwy⟩:=hat i hi
   obtain ⟨A',l,c',e,hr,h1,h2⟩:=open_rowI ht hwy
   exact ⟨l,A',c',by rw [hcs,e],hr,h1,h2⟩
  refine ⟨some a,ls,cap,by rw [hvl],fun i hi=>?_,by unfold LI; unfold reachBytes at hcap; omega,fun l hl=>?_,by omega⟩
  ·obtain ⟨A',c',hc,hr,h1,h2⟩:=hvs i hi
   rw [Nat.mul_one] at hc
   exact ⟨a,A',c',rfl,trivial,cell0 hc,h2,hr⟩
  ·obtain ⟨i,hi,rfl⟩:=List.mem_iff_getElem.1 hl
   obtain ⟨A',c',hc,hr,h1,h2⟩:=hvs i hi
   exact h1
theorem open_state {fuel:Nat} {cs:List Value} {x:DataW H×List MemPlace} (h:DataW.trod enc Tryz.prog w 0 (fun _=>true) held fuel 26 cs=some x) (hw:∀ q∈x.1.weights Tryz.prog 26,q<=reachBytes) :
  ∃ (s:SS) (u0 u1 u2:Value),cs=[u0,u1,u2]/\SV w Any s (.agg #[u0,u1,u2]):=by
 have hts:=DataW.trod_struct Tryz.underlying26 h
 obtain ⟨xs,n,hfu,hx,hcl,hxl,hg⟩:=hts
 subst hx
 rw [cellsState] at hcl
 match cs,hcl with
 | [c0,c1,c2],_ =>
 match xs,hxl with
 | [y0,y1,y2],_ =>
 have g0:=hg 0 _ rfl
 have g1:=hg 1 _ rfl
 have g2:=hg 2 _ rfl
 have hw0:∀ q∈y0.1.weights Tryz.prog 23,q<=reachBytes:=fun q hq=>by
  refine hw q ?_
  simp only [List.map_cons,List.map_nil,DataW.weights,Tryz.underlying26]
  simp only [DataW.weightsEach,List.mem_append]
  exact .inl hq
 have hw1:∀ q∈y1.1.weights Tryz.prog 24,q<=reachBytes:=fun q hq=>by
  refine hw q ?_
  simp only [List.map_cons,List.map_nil,DataW.weights,Tryz.underlying26]
  simp only [DataW.weightsEach,List.mem_append]
  exact .inr (.inl hq)
 have hw2:∀ q∈y2.1.weights Tryz.prog 24,q<=reachBytes:=fun q hq=>by
  refine hw q ?_
  simp only [List.map_cons,List.map_nil,DataW.weights,Tryz.underlying26]
  simp only [DataW.weightsEach,List.mem_append]
  exact .inr (.inr (.inl hq))
 obtain ⟨A0,ls,k0,e0,hr0,hl0,hl0',hc0⟩:=open_rowII g0 hw0
 obtain ⟨A1,l1,k1,e1,hr1,hl1,hc1⟩:=open_rowI g1 hw1
 obtain ⟨A2,l2,k2,e2,hr2,hl2,hc2⟩:=open_rowI g2 hw2
 injection e0 with e0
 injection e1 with e1
 injection e2 with e2
 subst e0 e1 e2
 exact ⟨⟨ls,l1,l2⟩,_,_,_,rfl,A0,k0,A1,k1,A2,k2,rfl,hr0,hr1,hr2,hc0,hc1,hc2,hl0,hl0',hl1,hl2⟩
theorem state_in {W:World} {base:Nat} {v:Value} {d:DataW H} {p:List MemPlace} (hok:Value.okWide Tryz.prog W .any base 26 v)
  (h:DataW.Trod enc Tryz.prog W 0 (fun _=>true) true 26 v d p) (hw:∀ n∈d.weights Tryz.prog 26,n<=reachBytes):∃ s,SV W Any s v:=by
 obtain ⟨cs,rfl,hcs⟩:=okWide_struct Tryz.underlying26 hok
 obtain ⟨fuel,hf⟩:=h
 obtain ⟨s,u0,u1,u2,e,hs⟩:=open_state hf hw
 refine ⟨s,?_⟩
 have:cs = #[u0,u1,u2]:=by
  apply Array.ext'
  simpa [Value.cells] using e
 rw [this]
 exact hs
end
theorem vars_in2 {H:Type} {enc:TypeId×Value->H} {W:World} {base:Nat} {v:Value} {d:DataW H} {p:List MemPlace} (hok:Value.okWide Tryz.prog W .any base 22 v)
  (h:DataW.Trod enc Tryz.prog W 0 (fun _=>true) true 22 v d p) (hw:∀ n∈d.weights Tryz.prog 22,n<=reachBytes):∃ (A:Option Addr) (vs:List VD) (c:Nat),v=.slice A vs.length c/\RowV W Any A vs/\vs.length<=LV/\vs.length<=c:=by
 obtain ⟨a,len,cap,rfl⟩:=okWide_slice Tryz.underlying22 hok
 obtain ⟨fuel,hf⟩:=h
 obtain ⟨A,vs,c,e,hr,h1,h2⟩:=open_vars hf hw
 refine ⟨A,vs,c,?_,hr,h1,h2⟩
 simpa [Value.cells] using e
end Go.Proofs.YtckhofdinldhpaaGreat
