/-
  Texts of the proof, put together without their remarks: Im, Iz, ScA, ClW, ScC, Clone, Wk, ScR, ScV.
-/
import Derived.Test.YtckhofdinldhpaaGreatT7
import Derived.ArgAppend
set_option linter.unusedSimpArgs false
set_option linter.unusedVariables false
set_option maxHeartbeats 8000000
set_option maxRecDepth 100000
namespace Go.Proofs.YtckhofdinldhpaaGreat
open Go Go.RowKit
theorem fnEnterI:IsFn Tryz.prog 187 Tryz.f187:=⟨Tryz.func187,by kernel_rfl,by kernel_rfl⟩
theorem fnProcI:IsFn Tryz.prog 94 Tryz.f94:=⟨Tryz.func94,by kernel_rfl,by kernel_rfl⟩
def caR (prs:List PR) (F:Int) (g:Nat) (back:Bool) (i:Nat) (b:T) (r:RS):Out :=
 (bodyO (execO prs F g back) (blkL back b) { r with ent:=r.ent.set i (r.ent.getD i 0+1) }).bind fun r=>(stepO F r).bind fun r=>storeO r (leaveE r.S)
def caO (prs:List PR) (F:Int) (g:Nat) (back:Bool) (i:Nat) (q:PR) (ss:List ByteArray) (r:RS):Out :=
 (stepO F r).bind fun r=>(storeO r (enterE r.S q.ps ss)).bind (caR prs F g back i q.b)
theorem call_any {G:List PR->T->Prop} {g:Nat} (hS:IStC G g) {C:RC} (hC:C.Ok) {W:World} {r:RS} (h:RI C W r) (t:T) (v:Value) (back:Bool) (hv:NV C.w Any t v) (i:Nat) (hi:prcI C.p.prs t.s=some i) (q:PR) (hq:C.p.prs[i]?=some q) (hG1:∀ u∈q.b.ks,G C.p.prs u)
  (hgas:caO C.p.prs C.F g back i q (t.ks.map (·.s)) r ≠ .gas) :
  Calls Tryz.prog 198 #[.pointer (some ⟨C.rb,0,none⟩),v,.bool back] W (RunP C W (caO C.p.prs C.F g back i q (t.ks.map (·.s)) r)):=by
 have HV:=zh hv
 have H:=zh h
 have HS:=zh hS
 have HC:=zh hC
 obtain ⟨hpi,hil⟩:=prcI_idx _ _ _ hi
 obtain ⟨A,c,rfl,-,hlk,hlc,hrow⟩:=hv.open_
 have HROW:=zh hrow
 have hb0:=bl_al (Below.refl W.heap.size W) (.cells #[.int .u8 t.k,.int .i64 t.n,.string t.s,.slice A t.ks.length c] 29)
 have k0:=heap_alloc_new W (.cells #[.int .u8 t.k,.int .i64 t.n,.string t.s,.slice A t.ks.length c] 29)
 obtain ⟨x0,x1,x2,x3⟩:=box4 k0
 have HBC:=zh h.below
 obtain ⟨w1,hw1⟩:∃ x,W.alloc (.cells #[.int .u8 t.k,.int .i64 t.n,.string t.s,.slice A t.ks.length c] 29)=x:=⟨_,rfl⟩
 have hz1:w1.heap.size=W.heap.size+1:=by rw [<-hw1]; simp
 rw [hw1] at hb0 k0 x0 x1 x2 x3
 have hmk:=bMakeS t.ks.length (by unfold LK at hlk; omega)
 have hb1:=bl_al hb0 (.cells (strA (List.replicate t.ks.length ⟨#[]⟩)) 9)
 have k1:=heap_alloc_new w1 (.cells (strA (List.replicate t.ks.length ⟨#[]⟩)) 9)
 have j0:=blk_al k0 (.cells (strA (List.replicate t.ks.length ⟨#[]⟩)) 9)
 rw [hz1] at k1
 rw [<-argL_0] at hmk
 have hz2:(w1.alloc (.cells (strA (argL t.ks 0)) 9)).heap.size=W.heap.size+2:=by simp [hz1]
 rw [<-argL_0] at hb1 k1 j0
 have HB1:=zh hb1
 have K1:=zh k1
 have J0:=zh j0
 obtain ⟨o,ho⟩:∃ o,caO C.p.prs C.F g back i q (t.ks.map (·.s)) r=o:=⟨_,rfl⟩
 have HLP:=zh ho
 have HO:=zh (show (stepO C.F r).bind (fun r=>(storeO r (enterE r.S q.ps (t.ks.map (·.s)))).bind (caR C.p.prs C.F g back i q.b))=o from ho)
 rw [ho] at hgas ⊢
 have HGA:=zh hgas
 have HPI:=zh hpi
 have HIL:=zh hil
 have HQ:=zh hq
 have hlk2:t.ks.length<=17592186044416:=by unfold LK at hlk; omega
 have HZ2:=zh hz2
 clear hv hb0 k0 h ho hgas hrow hS hC hlk hpi hil hq hi hb1 k1 j0 hz2
 go_enter Tryz.func198,Tryz.ntmps198
 go_wp2_with fail
 clear x0 x1 x2 x3 hw1 hmk
 have HAL:=zh (fun j (hj:j<t.ks.length)=>argL_set t.ks hj)
 have HAN:=zh (fun j (hj:j<=t.ks.length)=>argL_len t.ks hj)
 go_loopw [18] (fun x wr=>∃ j:Nat,j<=t.ks.length/\x=.int .i64 j/\Hid (Below W.heap.size W wr)/\Hid (wr.heap[W.heap.size]?=some (.cells #[.int .u8 t.k,.int .i64 t.n,.string t.s,.slice A t.ks.length c] 29 (0,0)))/\Hid (wr.heap[W.heap.size+1]?=some (.cells (strA (argL t.ks j)) 9 (0,0)))) (fun x _=>t.ks.length-(intOf x).toNat)
 case atStart=>exact ⟨0,Nat.zero_le _,rfl,HB1,J0,K1⟩
 case round =>
  obtain ⟨j,hj,rfl,HBL,HJ,HK⟩:=hrel
  clear HB1 J0 K1
  by_cases hlt:j<t.ks.length
  ·obtain ⟨a,u,Au,cu,rfl,-,Hu,⟨p0,p1,p2,p3⟩,-⟩:=HROW.out.nd hlt
   have hbb:=bl_tt HBC.out HBL.out
   have q0:=zb hbb p0
   have q1:=zb hbb p1
   have q2:=zb hbb p2
   have q3:=zb hbb p3
   have hj1:(j:Int)<(t.ks.length:Int):=by omega
   have hj0:(0:Int)<=(j:Int):=by omega
   have kz:=blk_al HK.out (.cells #[.int .u8 u.k,.int .i64 u.n,.string u.s,.slice Au u.ks.length cu] 29)
   have jz:=blk_al HJ.out (.cells #[.int .u8 u.k,.int .i64 u.n,.string u.s,.slice Au u.ks.length cu] 29)
   have hbz:=bl_al HBL.out (.cells #[.int .u8 u.k,.int .i64 u.n,.string u.s,.slice Au u.ks.length cu] 29)
   have zc:∃ y,(strA (argL t.ks j))[j]?=some y:=⟨_,Array.getElem?_eq_getElem (by simp [strA,HAN.out j hj]; exact hlt)⟩
   obtain ⟨y,hy⟩:=zc
   have zy:=zc kz hy
   have zf:(wr.alloc (.cells #[.int .u8 u.k,.int .i64 u.n,.string u.s,.slice Au u.ks.length cu] 29)).frozen? ⟨W.heap.size+1,j,none⟩=false:=zf kz
   have HBZ:=zh hbz
   have HKZ:=zh kz
   have HJZ:=zh jz
   have hwlt:W.heap.size+1<wr.heap.size:=blk_lt HK.out
   clear hbb p0 p1 p2 p3 kz jz hbz hy
   go_wp2_with fail
   go_roundw
   case rel =>
    have hch:=(Chg.refl (fun b=>b=W.heap.size+1) wr).setCell (p:=⟨W.heap.size+1,j,none⟩) (.inl rfl) (.string u.s)
    refine ⟨j+1,by omega,by go_num,zh (bl_al (HBL.out.trans (hch.below HBL.out.size fun b e=>by omega)) _),zh (blk_al (hch.keep HJ.out (by omega)) _),zh ?_⟩
    have:=heap_setCell_same _ (W.heap.size+1) j _ _ (.string u.s) HK.out
    refine blk_al ?_ _
    rw [this,<-HAL.out j hlt,Hu.out]
   case measure=>simp [intOf]; omega
  ·obtain rfl:j=t.ks.length:=by omega
   rw [argL_all] at HK
   have hj1:¬ (t.ks.length:Int)<(t.ks.length:Int):=by omega
   have hrn:=H.out.n
   have hel:=H.out.el
   obtain ⟨pa,q1,B1,d1,B2,d2,hA2,-,Hq1,⟨p0,p1,p2,p3,p4,p5⟩,hpr⟩:=HC.out.pg.procs.nd HIL.out
   obtain rfl:q=q1:=by
    have e:=HQ.out
    rw [List.getElem?_eq_getElem HIL.out,Hq1.out] at e
    injection e with e
    exact e.symm
   have HPRR:=zh hpr
   have hbb:=bl_tt HBC.out HBL.out
   have HBB:=zh hbb
   have HPR:=zh (fun w' (hb:Below wr.heap.size wr w')=>Proc_any C.p Any (pv C.A1 C.p.vs.length C.c1 C.A2 C.p.prs.length C.c2 C.p.m.k C.p.m.n C.p.m.s C.A3 C.p.m.ks.length C.c3) t.s w' ⟨_,_,_,_,_,_,rfl,HC.out.pg.later (bl_tt HBB.out hb)⟩)
   rw [HPI.out] at HPR
   have HXB:=zh (blk_bl H.out.box HBL.out)
   rw [hA2] at HPR
   have HXX:Hid (wr.cell? ⟨C.rb,0,none⟩=some (.slice C.A1 C.p.vs.length C.c1)/\wr.cell? ⟨C.rb,1,none⟩=some (.slice (some pa) C.p.prs.length C.c2)/\wr.cell? ⟨C.rb,2,none⟩=some (.int .u8 C.p.m.k)/\wr.cell? ⟨C.rb,3,none⟩=some (.int .i64 C.p.m.n)/\wr.cell? ⟨C.rb,4,none⟩=some (.string C.p.m.s)/\wr.cell? ⟨C.rb,5,none⟩=some (.slice C.A3 C.p.m.ks.length C.c3)) :=
    zh ⟨zc HXB.out rfl,by rw [<-hA2]; exact zc HXB.out rfl,zc HXB.out rfl,zc HXB.out rfl,zc HXB.out rfl,zc HXB.out rfl⟩
   have HIL2:=zh (show (i:Int)<(C.p.prs.length:Int) by have:=HIL.out; omega)
   obtain ⟨rb,hrb⟩:∃ b,C.rb=b:=⟨_,rfl⟩
   obtain ⟨z1,hz1⟩:∃ b,C.A1=b:=⟨_,rfl⟩
   obtain ⟨z2,hz2⟩:∃ b,C.p.vs.length=b:=⟨_,rfl⟩
   obtain ⟨z3,hz3⟩:∃ b,C.c1=b:=⟨_,rfl⟩
   obtain ⟨z5,hz5⟩:∃ b,C.p.prs.length=b:=⟨_,rfl⟩
   obtain ⟨z6,hz6⟩:∃ b,C.c2=b:=⟨_,rfl⟩
   obtain ⟨z7,hz7⟩:∃ b,C.p.m.k=b:=⟨_,rfl⟩
   obtain ⟨z8,hz8⟩:∃ b,C.p.m.n=b:=⟨_,rfl⟩
   obtain ⟨z9,hz9⟩:∃ b,C.p.m.s=b:=⟨_,rfl⟩
   obtain ⟨z10,hz10⟩:∃ b,C.A3=b:=⟨_,rfl⟩
   obtain ⟨z11,hz11⟩:∃ b,C.p.m.ks.length=b:=⟨_,rfl⟩
   obtain ⟨z12,hz12⟩:∃ b,C.c3=b:=⟨_,rfl⟩
   rw [hz1,hz2,hz3,hz5,hz6,hz7,hz8,hz9,hz10,hz11,hz12] at HPR
   rw [hrb,hz1,hz2,hz3,hz5,hz6,hz7,hz8,hz9,hz10,hz11,hz12] at HXX
   have HSS:=zh (show ∀ w',Below wr.heap.size wr w'->(fun w':World=>w'.cell? ⟨rb,0,none⟩=some (.slice z1 z2 z3)/\w'.cell? ⟨rb,1,none⟩=some (.slice (some pa) z5 z6)/\w'.cell? ⟨rb,2,none⟩=some (.int .u8 z7)/\w'.cell? ⟨rb,3,none⟩=some (.int .i64 z8)/\w'.cell? ⟨rb,4,none⟩=some (.string z9)/\w'.cell? ⟨rb,5,none⟩=some (.slice z10 z11 z12)/\w'.cell? ⟨W.heap.size,2,none⟩=some (.string t.s)) w' from fun w' hb=>by
    obtain ⟨y0,y1,y2,y3,y4,y5⟩:=HXX.out
    exact ⟨zb hb y0,zb hb y1,zb hb y2,zb hb y3,zb hb y4,zb hb y5,zb hb (zc HJ.out rfl)⟩)
   have HQ0:=zh (HSS.out _ (Below.refl _ _).drew)
   have HPC:=zh (show C.w.cell? (pa.add (i*6))=_/\_/\_/\_/\_/\_ from ⟨p0,p1,p2,p3,p4,p5⟩)
   clear p0 p1 p2 p3 p4 p5 hpr hbb hz1 hz2 hz3 hz6 hz7 hz8 hz9 hz10 hz11 hz12 hel hrn hj1
   have HZ5:=zh hz5
   rw [hz5] at HIL2
   clear hz5
   have HRB:=zh hrb
   clear hrb hA2
   rw [HRB.out]
   have hj1:¬ (t.ks.length:Int)<(t.ks.length:Int):=by omega
   go_upto_region 7 with fail
   go_region_held3 (fun w':World=>w'.cell? ⟨rb,0,none⟩=some (.slice z1 z2 z3)/\w'.cell? ⟨rb,1,none⟩=some (.slice (some pa) z5 z6)/\w'.cell? ⟨rb,2,none⟩=some (.int .u8 z7)/\w'.cell? ⟨rb,3,none⟩=some (.int .i64 z8)/\w'.cell? ⟨rb,4,none⟩=some (.string z9)/\w'.cell? ⟨rb,5,none⟩=some (.slice z10 z11 z12)/\w'.cell? ⟨W.heap.size,2,none⟩=some (.string t.s))
    (first|with_reducible exact HQ1.out|with_reducible exact HQ0.out)
    (first
     | (go_at_call 94; refine (HPR.out _ (Below.refl _ _).drew).mono ?_; rintro e y1 ⟨rfl,by1⟩; have b1:=bl_tt (Below.refl wr.heap.size wr).drew by1; have HQ1:=zh (HSS.out _ b1))
     | fail)
   have hb1:=bl_tt HBB.out b1
   have p0:=zb hb1 HPC.out.1
   have p1:=zb hb1 HPC.out.2.1
   have p2:=zb hb1 HPC.out.2.2.1
   have p3:=zb hb1 HPC.out.2.2.2.1
   have p4:=zb hb1 HPC.out.2.2.2.2.1
   have p5:=zb hb1 HPC.out.2.2.2.2.2
   obtain ⟨-,e1,-⟩:=HQ1.out
   have hi1:=HIL2.out
   have hi0:(0:Int)<=(i:Int):=by omega
   have bw5:=bl_al (bl_tt HBL.out b1) (.cells #[.string q.s,.slice B1 q.ps.length d1,.int .u8 q.b.k,.int .i64 q.b.n,.string q.b.s,.slice B2 q.b.ks.length d2] 103)
   have k0:=blk_al (blk_bl HJ.out b1) (.cells #[.string q.s,.slice B1 q.ps.length d1,.int .u8 q.b.k,.int .i64 q.b.n,.string q.b.s,.slice B2 q.b.ks.length d2] 103)
   have k1:=blk_al (blk_bl HK.out b1) (.cells #[.string q.s,.slice B1 q.ps.length d1,.int .u8 q.b.k,.int .i64 q.b.n,.string q.b.s,.slice B2 q.b.ks.length d2] 103)
   have k2:=heap_alloc_new y1 (.cells #[.string q.s,.slice B1 q.ps.length d1,.int .u8 q.b.k,.int .i64 q.b.n,.string q.b.s,.slice B2 q.b.ks.length d2] 103)
   obtain ⟨pb,hpb⟩:∃ x,y1.heap.size=x:=⟨_,rfl⟩
   have hpl:W.heap.size<=pb:=by rw [<-hpb]; exact (bl_tt HBL.out b1).size
   obtain ⟨w5,hw5⟩:∃ x,y1.alloc (.cells #[.string q.s,.slice B1 q.ps.length d1,.int .u8 q.b.k,.int .i64 q.b.n,.string q.b.s,.slice B2 q.b.ks.length d2] 103)=x:=⟨_,rfl⟩
   rw [hw5] at bw5 k0 k1
   rw [hpb,hw5] at k2
   have HP3:=zh (Kpt.of_below (n0:=C.n0) (kb:=C.kb) bw5)
   obtain ⟨hC5,h5⟩:=H.out.plus HC.out bw5
   have l0:=blk_lt k0
   have l1:=blk_lt k1
   have l2:=blk_lt k2
   obtain ⟨hi,hhi⟩:∃ x,w5.heap.size=x:=⟨_,rfl⟩
   rw [hhi] at hC5 h5 l0 l1 l2
   have HC5:=zh hC5
   have K0:=zh k0
   have K1:=zh k1
   have K2:=zh k2
   have HST:=zh (step_any hC5 h5)
   rw [show (C.plus W.heap.size hi).rb=rb from HRB.out] at HST
   have HPL:=zh hpl
   obtain ⟨ss,hss⟩:∃ ss,t.ks.map (·.s)=ss:=⟨_,rfl⟩
   have HSL:=zh (show ss.length=t.ks.length by rw [<-hss]; simp)
   rw [hss] at HO K1
   clear hb1 b1 by1 HQ1 HSS HQ0 bw5 k0 k1 k2 hC5 h5 HPC hpl HXX HPR HAL HAN HK HJ hss
   go_upto_region 9 with fail
   clear p0 p1 p2 p3 p4 p5 e1 hw5 hpb
   go_wp2_with fail
   refine HST.out.mono ?_
   rintro e w6 ⟨hk6,hb6,ho6⟩
   have HK6:=zh (HP3.out.trans (Kpt.less (C:=C) hk6))
   have HB6:=zh (show Below C.w.heap.size C.w w6 from hb6)
   have ho6':match stepO C.F r with
    | .gas=>True
    | .err x=>e=failE x
    | .ok r=>(∃ u,e=.returned u)/\RI (C.plus W.heap.size hi) w6 r:=ho6
   have HK56:=zh hk6
   clear HST hk6 hb6 ho6
   cases hy:stepO C.F r with
   | gas=>exact absurd (by rw [<-HO.out,hy]; rfl) HGA.out
   | err x =>
    rw [hy] at ho6'
    subst ho6'
    refine ⟨rfl,HK6.out,HB6.out,?_⟩
    try rw [HLP.out]
    rw [<-HO.out,hy]
    rfl
   | ok r1 =>
    rw [hy] at ho6'
    obtain ⟨⟨u3,rfl⟩,hr1⟩:=ho6'
    have HR6:=zh hr1
    have HO6:=zh (show (storeO r1 (enterE r1.S q.ps ss)).bind (caR C.p.prs C.F g back i q.b)=o by rw [<-HO.out,hy]; rfl)
    have HFB:=zh (show FB r.n r1.S/\r1.n=r.n+1/\r1.ent=r.ent by obtain ⟨rfl,-⟩:=stepO_ok hy; exact ⟨H.out.fb,rfl,rfl⟩)
    have j2:=HK56.out.blk (.inr (.inr ⟨HPL.out,l2⟩)) K2.out
    have hSS:(fun w':World=>w'.cell? ⟨rb,6,none⟩=some (.pointer (some ⟨C.sb,0,none⟩))/\w'.cell? ⟨pb,1,none⟩=some (.slice B1 q.ps.length d1)) w6.drew/\(fun _:World=>True) w6.drew:=⟨⟨by rw [<-HRB.out]; exact hr1.cells.1,zc j2 rfl⟩,trivial⟩
    clear hr1 hy j2
    go_upto_region 10 with fail
    refine wp_region_G (fun w':World=>w'.cell? ⟨rb,6,none⟩=some (.pointer (some ⟨C.sb,0,none⟩))/\w'.cell? ⟨pb,1,none⟩=some (.slice B1 q.ps.length d1)) (fun _:World=>True) 9 (by kernel_rfl) ?_
    refine zT 0 hSS ?_
    (try simp only [Act.put,zP])
    refine zT 1 hSS ?_
    (try simp only [Act.put,zP])
    refine zT 2 hSS ?_
    (try simp only [Act.put,zP])
    refine zT 3 hSS ?_
    (try simp only [Act.put,zP])
    refine zT 4 hSS ?_
    (try simp only [Act.put,zP])
    refine zT 5 hSS ?_
    (try simp only [Act.put,zP])
    refine zT 6 hSS ?_
    (try simp only [Act.put,zP])
    refine zT 7 hSS ?_
    (try simp only [Act.put,zP])
    obtain ⟨R,hR⟩:∃ R,enterE r1.S q.ps ss=R:=⟨_,rfl⟩
    have HRR:=zh hR
    have hbd:Below w6.heap.size w6 w6.drew:=(Below.refl _ _).drew
    have hpq:q.ps.length<=1000:=HC.out.ps q (List.mem_of_getElem? HQ.out)
    have hen:=(HR6.out.later hbd).ks.enter q.ps ss B1 (some ⟨W.heap.size+1,0,none⟩) d1 t.ks.length (HPRR.out.row.later (bl_tt HB6.out hbd)) ((strA_row (HK56.out.blk (.inr (.inr ⟨Nat.le_succ _,l1⟩)) K1.out)).later hbd) (by omega) (by rw [HSL.out]; exact hlk2)
    rw [HSL.out] at hen
    have had:Calls Tryz.prog 187 [.pointer (some ⟨C.sb,0,none⟩),.slice B1 q.ps.length d1,.slice (some ⟨W.heap.size+1,0,none⟩) t.ks.length t.ks.length].toArray w6.drew fun e w'=>∃ v,e=.returned v/\(v=.int .i64 R.1/\RI (C.plus W.heap.size hi) w' { r1 with S:=R.2 }/\Kpt C.n0 (C.plus W.heap.size hi).kb w6 w') :=
     hen.mono fun e w' ⟨h1,h2,h3⟩=>by
      have hs:=RI.store (C:=C.plus W.heap.size hi) (HR6.out.later hbd) (hR▸h2) h3 (by rw [HFB.out.2.1,<-hR]; exact HFB.out.1.enter _ _ hpq)
      exact ⟨_,h1,by rw [hR],hs.1,(Kpt.of_below hbd).trans hs.2⟩
    refine wpG_one (i:=8) (by kernel_rfl) rfl (fun K hK=>?_)
    refine step_callG (by rfl) (.func 187) [.tmp 50,.tmp 52,.tmp 53] _ (by rfl) 187 _ fnEnterI (by rfl) _ (by rfl) _ had ?_
    rintro v7 w7 ⟨rfl,hr7,hk7⟩
    have HK57:=zh (HK56.out.trans hk7)
    have j2:=HK57.out.blk (.inr (.inr ⟨HPL.out,l2⟩)) K2.out
    have HR7:=zh hr7
    have hSS7:(fun w':World=>w'.cell? ⟨rb,6,none⟩=some (.pointer (some ⟨C.sb,0,none⟩))/\w'.cell? ⟨pb,1,none⟩=some (.slice B1 q.ps.length d1)) w7:=⟨by rw [<-HRB.out]; exact hr7.cells.1,zc j2 rfl⟩
    refine hK.out _ _ ⟨hSS7,trivial⟩ ?_
    have HS7:=zh hSS7
    have HB7:=zh hr7.below
    clear hK K had hr7 hk7 j2 hSS7 hSS hen
    (try simp only [Act.put,zP])
    have HK7:=zh (HP3.out.trans (Kpt.less (C:=C) HK57.out))
    rw [hR] at HO6
    have had:=check_any ⟨rb,0,none⟩ R.1 w7
    refine wpG_past (i:=9) (by kernel_rfl) rfl (by kernel_rfl) (fun K hK=>?_)
    refine step_callP (by rfl) (.func 197) [.tmp 46,.tmp 54] _ (by rfl) 197 _ fnCheckI (by rfl) _ (by rfl) (fun v w'=>w'=w7/\R.1=0) (had.mono ?_) ?_
    ·rintro e y1 ⟨rfl,hv1⟩
     rcases hv1 with ⟨h0,u0,rfl⟩|⟨h0,rfl⟩
     ·exact .inl ⟨_,rfl,rfl,h0⟩
     ·refine .inr ⟨_,rfl,?_⟩
      refine ⟨rfl,HK7.out,HB7.out,?_⟩
      try rw [HLP.out]
      rw [<-HO6.out,show storeO r1 R=.err R.1 by unfold storeO; rw [if_pos h0]]
      rfl
    rintro v8 w8 ⟨rfl,h0⟩
    have HO7:=zh (show caR C.p.prs C.F g back i q.b { r1 with S:=R.2 }=o by rw [<-HO6.out,show storeO r1 R=.ok { r1 with S:=R.2 } by unfold storeO; rw [if_neg (by simpa using h0)]]; rfl)
    refine hK.out _ _ HS7.out ?_
    clear hK K had h0
    (try simp only [Act.put,zP])
    refine wpG_done (by kernel_rfl) ?_
    obtain ⟨r2,hr2⟩:∃ x,({ r1 with S:=R.2 }:RS)=x:=⟨_,rfl⟩
    rw [hr2] at HR7 HO7
    have he2:r2.ent.length=C.p.prs.length:=HR7.out.el
    have hi2:i<r2.ent.length:=by rw [he2]; exact HIL.out
    have hn2:r2.ent.getD i 0+1<=r2.n:=by
     rw [<-hr2]
     simp only
     rw [HFB.out.2.2,HFB.out.2.1,List.getD_eq_getElem?_getD,List.getElem?_eq_getElem (by rw [H.out.el]; exact HIL.out)]
     have:=H.out.en _ (List.getElem_mem (l:=r.ent) (n:=i) (by rw [H.out.el]; exact HIL.out))
     simp only [Option.getD_some]
     omega
    obtain ⟨eg,ec,hev,hcz,hcf,hrc,hkc⟩:=HR7.out.count HC5.out hi2 hn2
    have hev':C.ev=.slice (some ⟨eg,0,none⟩) r2.ent.length ec:=hev
    obtain ⟨-,-,-,e9,-⟩:=HR7.out.cells
    have e9':w8.cell? ⟨rb,9,none⟩=some (.slice (some ⟨eg,0,none⟩) z5 ec):=by
     rw [<-HRB.out,<-HZ5.out,<-he2,<-hev']; exact e9
    have hnn:=HR7.out.n
    have hww:IntKind.i64.wrap ((r2.ent.getD i 0:Nat)+1:Int)=((r2.ent.getD i 0+1:Nat):Int):=by rw [IntWalk.i64_in _ (by omega)]; omega
    have HO8:=zh (show (runO C.p.prs C.F g back q.b { r2 with ent:=r2.ent.set i (r2.ent.getD i 0+1) }).bind (fun r=>(stepO C.F r).bind fun r=>storeO r (leaveE r.S))=o from HO7.out)
    obtain ⟨e0,he0⟩:∃ e,r2.ent.getD i 0=e:=⟨_,rfl⟩
    rw [he0] at hcz hrc hkc hww HO8
    obtain ⟨w9,hw9⟩:∃ x,w8.setCell ⟨eg,i,none⟩ (.int .i64 ((e0+1:Nat):Int))=x:=⟨_,rfl⟩
    rw [hw9] at hrc hkc
    obtain ⟨r3,hr3⟩:∃ x,({ r2 with ent:=r2.ent.set i (e0+1) }:RS)=x:=⟨_,rfl⟩
    rw [hr3] at hrc HO8
    have HR9:=zh hrc
    have HK59:=zh (HK57.out.trans hkc)
    have HK9:=zh (HP3.out.trans (Kpt.less (C:=C) HK59.out))
    have HB9:=zh (show Below C.w.heap.size C.w w9 from hrc.below)
    have j2:=HK59.out.blk (.inr (.inr ⟨HPL.out,l2⟩)) K2.out
    have hgu:runO C.p.prs C.F g back q.b r3 ≠ .gas:=fun e=>HGA.out (by rw [<-HO8.out,e]; rfl)
    have HBK:=zh (iblock_any HS.out HC5.out HR9.out q.b _ back HPRR.out.body hG1 hgu)
    rw [show (C.plus W.heap.size hi).rb=rb from HRB.out] at HBK
    have HJ2:=zh j2
    have hi1:=HIL2.out
    have hi0:(0:Int)<=(i:Int):=by omega
    rw [show ((e0+1:Nat):Int)=(e0:Int)+1 by omega] at hww hw9
    clear hr2 he2 hi2 hn2 hev hev' e9 hnn he0 hr3 hrc hkc j2 hgu hG1 HO7 HS7 hbd hpq hR
    go_upto_region 12 with fail
    clear hw9 hcz hcf e9' hww
    have q2:w9.cell? ⟨pb,2,none⟩=some (.int .u8 q.b.k):=zc HJ2.out rfl
    have q3:w9.cell? ⟨pb,3,none⟩=some (.int .i64 q.b.n):=zc HJ2.out rfl
    have q4:w9.cell? ⟨pb,4,none⟩=some (.string q.b.s):=zc HJ2.out rfl
    have q5:w9.cell? ⟨pb,5,none⟩=some (.slice B2 q.b.ks.length d2):=zc HJ2.out rfl
    go_wp2_with fail
    refine HBK.out.mono ?_
    rintro e w10 ⟨hk10,hb10,ho10⟩
    have HK510:=zh (HK59.out.trans hk10)
    have HK10:=zh (HP3.out.trans (Kpt.less (C:=C) HK510.out))
    have HB10:=zh (show Below C.w.heap.size C.w w10 from hb10)
    have ho10':match runO C.p.prs C.F g back q.b r3 with
     | .gas=>True
     | .err x=>e=failE x
     | .ok r=>(∃ u,e=.returned u)/\RI (C.plus W.heap.size hi) w10 r:=ho10
    clear q2 q3 q4 q5 hk10 hb10 ho10 HBK
    cases hx:runO C.p.prs C.F g back q.b r3 with
    | gas=>exact absurd (by rw [<-HO8.out,hx]; rfl) HGA.out
    | err x =>
     rw [hx] at ho10'
     subst ho10'
     refine ⟨rfl,HK10.out,HB10.out,?_⟩
     try rw [HLP.out]
     rw [<-HO8.out,hx]
     rfl
    | ok r4 =>
     rw [hx] at ho10'
     obtain ⟨⟨u9,rfl⟩,hr4⟩:=ho10'
     have HST:=zh (step_any HC5.out hr4)
     rw [show (C.plus W.heap.size hi).rb=rb from HRB.out] at HST
     have HO9:=zh (show ((stepO C.F r4).bind fun r=>storeO r (leaveE r.S))=o by rw [<-HO8.out,hx]; rfl)
     have HR10:=zh hr4
     clear hx hr4
     go_wp2_with fail
     refine HST.out.mono ?_
     rintro e w11 ⟨hk11,hb11,ho11⟩
     have HK511:=zh (HK510.out.trans hk11)
     have HK11:=zh (HP3.out.trans (Kpt.less (C:=C) HK511.out))
     have HB11:=zh (show Below C.w.heap.size C.w w11 from hb11)
     have ho11':match stepO C.F r4 with
      | .gas=>True
      | .err x=>e=failE x
      | .ok r=>(∃ u,e=.returned u)/\RI (C.plus W.heap.size hi) w11 r:=ho11
     clear hk11 hb11 ho11 HST
     cases hy:stepO C.F r4 with
     | gas=>exact absurd (by rw [<-HO9.out,hy]; rfl) HGA.out
     | err x =>
      rw [hy] at ho11'
      subst ho11'
      refine ⟨rfl,HK11.out,HB11.out,?_⟩
      try rw [HLP.out]
      rw [<-HO9.out,hy]
      rfl
     | ok r5 =>
      rw [hy] at ho11'
      obtain ⟨⟨u9,rfl⟩,hr5⟩:=ho11'
      have HR11:=zh hr5
      have HFB9:=zh (show FB r4.n r5.S/\r5.n=r4.n+1 by obtain ⟨rfl,-⟩:=stepO_ok hy; exact ⟨HR10.out.fb,rfl⟩)
      obtain ⟨Rc,hRc⟩:∃ R,leaveE r5.S=R:=⟨_,rfl⟩
      have HO10:=zh (show storeO r5 Rc=o by rw [<-HO9.out,hy,<-hRc]; rfl)
      have y6:w11.cell? ⟨rb,6,none⟩=some (.pointer (some ⟨C.sb,0,none⟩)):=by rw [<-HRB.out]; exact hr5.cells.1
      clear hr5 hy
      go_wp2_with fail
      refine (HR11.out.ks.leave).mono ?_
      rintro e w12 ⟨rfl,h2,h3⟩
      have hs:=RI.store (C:=C.plus W.heap.size hi) HR11.out h2 h3 (by rw [HFB9.out.2]; exact HFB9.out.1.leave)
      rw [hRc] at hs ⊢
      have HR12:=zh hs.1
      have HK512:=zh (HK511.out.trans hs.2)
      have HB12:=zh hs.1.below
      have HK12:=zh (HP3.out.trans (Kpt.less (C:=C) HK512.out))
      clear hs h2 h3 y6
      go_wp2_with fail
      refine (check_any ⟨rb,0,none⟩ Rc.1 w12).mono ?_
      rintro e y1 ⟨rfl,hv1⟩
      rcases hv1 with ⟨h0,u0,rfl⟩|⟨h0,rfl⟩
      ·have HO11:=zh (show o=.ok { r5 with S:=Rc.2 } by rw [<-HO10.out]; unfold storeO; rw [if_neg (by simpa using h0)])
       have HR13:=zh HR12.out.less
       clear h0
       go_wp2_with fail
       go_end0
       refine ⟨HK12.out,HB12.out,?_⟩
       try rw [HLP.out]
       rw [HO11.out]
       exact ⟨⟨_,rfl⟩,HR13.out⟩
      ·refine ⟨rfl,HK12.out,HB12.out,?_⟩
       try rw [HLP.out]
       rw [<-HO10.out,show storeO r5 Rc=.err Rc.1 by unfold storeO; rw [if_pos h0]]
theorem stmt_call50 {G:List PR->T->Prop} {g:Nat} (hS:IStC G g) {C:RC} (hC:C.Ok) {W:World} {r:RS} (h:RI C W r) (t:T) (v:Value) (back:Bool) (hv:NV C.w Any t v) (hk0:t.k=50) (i:Nat) (hi:prcI C.p.prs t.s=some i) (q:PR) (hq:C.p.prs[i]?=some q) (hG1:∀ u∈q.b.ks,G C.p.prs u)
  (o:Out) (ho:caO C.p.prs C.F g back i q (t.ks.map (·.s)) r=o) (hog:o ≠ .gas) :
  Calls Tryz.prog 157 #[.pointer (some ⟨C.rb,0,none⟩),v,.bool back] W (RunP C W o):=by
 have hgas:=hog
 cases back
 ·skip
  obtain ⟨k,n,s,ks⟩:=t
  obtain rfl:k=50:=hk0
  obtain ⟨A,c,rfl,-,hlk,hlc,-⟩:=hv.open_
  have hb0:=bl_al (Below.refl W.heap.size W) (.cells #[.int .u8 50,.int .i64 n,.string s,.slice A ks.length c] 29)
  obtain ⟨x0,x1,x2,x3⟩:=box4 (heap_alloc_new W (.cells #[.int .u8 50,.int .i64 n,.string s,.slice A ks.length c] 29))
  have HK0:=zh (Kpt.of_below (n0:=C.n0) (kb:=C.kb) hb0)
  have HCC:=zh (show Calls Tryz.prog 198 #[.pointer (some ⟨C.rb,0,none⟩),.agg #[.int .u8 50,.int .i64 n,.string s,.slice A ks.length c],.bool false] (W.alloc (.cells #[.int .u8 50,.int .i64 n,.string s,.slice A ks.length c] 29)) (RunP C _ o) from ho▸(call_any hS hC (h.later hb0) _ _ false hv i hi q hq hG1 (ho▸hog)))
  clear hv hb0 h hgas hG1 ho hi hq
  go_enter Tryz.func157,Tryz.ntmps157
  go_wp2_with fail
  refine HCC.out.mono ?_
  rintro e w1 ⟨hk1,hb1,ho1⟩
  cases o with
  | gas=>exact absurd rfl hog
  | err x =>
   subst ho1
   exact ⟨rfl,HK0.out.trans hk1,hb1,rfl⟩
  | ok r1 =>
   obtain ⟨⟨u,rfl⟩,hr1⟩:=ho1
   have HR:=zh hr1
   have HK1:=zh (HK0.out.trans hk1)
   have HB1:=zh hb1
   clear x0 x1 x2 x3 hr1 hk1 hb1
   go_wp2_with fail
   go_end0
   exact ⟨HK1.out,HB1.out,⟨_,rfl⟩,HR.out⟩
 ·skip
  obtain ⟨k,n,s,ks⟩:=t
  obtain rfl:k=50:=hk0
  obtain ⟨A,c,rfl,-,hlk,hlc,-⟩:=hv.open_
  have hb0:=bl_al (Below.refl W.heap.size W) (.cells #[.int .u8 50,.int .i64 n,.string s,.slice A ks.length c] 29)
  obtain ⟨x0,x1,x2,x3⟩:=box4 (heap_alloc_new W (.cells #[.int .u8 50,.int .i64 n,.string s,.slice A ks.length c] 29))
  have HK0:=zh (Kpt.of_below (n0:=C.n0) (kb:=C.kb) hb0)
  have HCC:=zh (show Calls Tryz.prog 198 #[.pointer (some ⟨C.rb,0,none⟩),.agg #[.int .u8 50,.int .i64 n,.string s,.slice A ks.length c],.bool true] (W.alloc (.cells #[.int .u8 50,.int .i64 n,.string s,.slice A ks.length c] 29)) (RunP C _ o) from ho▸(call_any hS hC (h.later hb0) _ _ true hv i hi q hq hG1 (ho▸hog)))
  clear hv hb0 h hgas hG1 ho hi hq
  go_enter Tryz.func157,Tryz.ntmps157
  go_wp2_with fail
  refine HCC.out.mono ?_
  rintro e w1 ⟨hk1,hb1,ho1⟩
  cases o with
  | gas=>exact absurd rfl hog
  | err x =>
   subst ho1
   exact ⟨rfl,HK0.out.trans hk1,hb1,rfl⟩
  | ok r1 =>
   obtain ⟨⟨u,rfl⟩,hr1⟩:=ho1
   have HR:=zh hr1
   have HK1:=zh (HK0.out.trans hk1)
   have HB1:=zh hb1
   clear x0 x1 x2 x3 hr1 hk1 hb1
   go_wp2_with fail
   go_end0
   exact ⟨HK1.out,HB1.out,⟨_,rfl⟩,HR.out⟩
theorem stmt_call51 {G:List PR->T->Prop} {g:Nat} (hS:IStC G g) {C:RC} (hC:C.Ok) {W:World} {r:RS} (h:RI C W r) (t:T) (v:Value) (back:Bool) (hv:NV C.w Any t v) (hk0:t.k=51) (i:Nat) (hi:prcI C.p.prs t.s=some i) (q:PR) (hq:C.p.prs[i]?=some q) (hG1:∀ u∈q.b.ks,G C.p.prs u)
  (o:Out) (ho:caO C.p.prs C.F g (!back) i q (t.ks.map (·.s)) r=o) (hog:o ≠ .gas) :
  Calls Tryz.prog 157 #[.pointer (some ⟨C.rb,0,none⟩),v,.bool back] W (RunP C W o):=by
 have hgas:=hog
 cases back
 ·skip
  change caO C.p.prs C.F g true i q (t.ks.map (·.s)) r=o at ho
  obtain ⟨k,n,s,ks⟩:=t
  obtain rfl:k=51:=hk0
  obtain ⟨A,c,rfl,-,hlk,hlc,-⟩:=hv.open_
  have hb0:=bl_al (Below.refl W.heap.size W) (.cells #[.int .u8 51,.int .i64 n,.string s,.slice A ks.length c] 29)
  obtain ⟨x0,x1,x2,x3⟩:=box4 (heap_alloc_new W (.cells #[.int .u8 51,.int .i64 n,.string s,.slice A ks.length c] 29))
  have HK0:=zh (Kpt.of_below (n0:=C.n0) (kb:=C.kb) hb0)
  have HCC:=zh (show Calls Tryz.prog 198 #[.pointer (some ⟨C.rb,0,none⟩),.agg #[.int .u8 51,.int .i64 n,.string s,.slice A ks.length c],.bool true] (W.alloc (.cells #[.int .u8 51,.int .i64 n,.string s,.slice A ks.length c] 29)) (RunP C _ o) from ho▸(call_any hS hC (h.later hb0) _ _ true hv i hi q hq hG1 (ho▸hog)))
  clear hv hb0 h hgas hG1 ho hi hq
  go_enter Tryz.func157,Tryz.ntmps157
  go_wp2_with fail
  refine HCC.out.mono ?_
  rintro e w1 ⟨hk1,hb1,ho1⟩
  cases o with
  | gas=>exact absurd rfl hog
  | err x =>
   subst ho1
   exact ⟨rfl,HK0.out.trans hk1,hb1,rfl⟩
  | ok r1 =>
   obtain ⟨⟨u,rfl⟩,hr1⟩:=ho1
   have HR:=zh hr1
   have HK1:=zh (HK0.out.trans hk1)
   have HB1:=zh hb1
   clear x0 x1 x2 x3 hr1 hk1 hb1
   go_wp2_with fail
   go_end0
   exact ⟨HK1.out,HB1.out,⟨_,rfl⟩,HR.out⟩
 ·skip
  change caO C.p.prs C.F g false i q (t.ks.map (·.s)) r=o at ho
  obtain ⟨k,n,s,ks⟩:=t
  obtain rfl:k=51:=hk0
  obtain ⟨A,c,rfl,-,hlk,hlc,-⟩:=hv.open_
  have hb0:=bl_al (Below.refl W.heap.size W) (.cells #[.int .u8 51,.int .i64 n,.string s,.slice A ks.length c] 29)
  obtain ⟨x0,x1,x2,x3⟩:=box4 (heap_alloc_new W (.cells #[.int .u8 51,.int .i64 n,.string s,.slice A ks.length c] 29))
  have HK0:=zh (Kpt.of_below (n0:=C.n0) (kb:=C.kb) hb0)
  have HCC:=zh (show Calls Tryz.prog 198 #[.pointer (some ⟨C.rb,0,none⟩),.agg #[.int .u8 51,.int .i64 n,.string s,.slice A ks.length c],.bool false] (W.alloc (.cells #[.int .u8 51,.int .i64 n,.string s,.slice A ks.length c] 29)) (RunP C _ o) from ho▸(call_any hS hC (h.later hb0) _ _ false hv i hi q hq hG1 (ho▸hog)))
  clear hv hb0 h hgas hG1 ho hi hq
  go_enter Tryz.func157,Tryz.ntmps157
  go_wp2_with fail
  refine HCC.out.mono ?_
  rintro e w1 ⟨hk1,hb1,ho1⟩
  cases o with
  | gas=>exact absurd rfl hog
  | err x =>
   subst ho1
   exact ⟨rfl,HK0.out.trans hk1,hb1,rfl⟩
  | ok r1 =>
   obtain ⟨⟨u,rfl⟩,hr1⟩:=ho1
   have HR:=zh hr1
   have HK1:=zh (HK0.out.trans hk1)
   have HB1:=zh hb1
   clear x0 x1 x2 x3 hr1 hk1 hb1
   go_wp2_with fail
   go_end0
   exact ⟨HK1.out,HB1.out,⟨_,rfl⟩,HR.out⟩
structure GC (G:List PR->T->Prop):Prop where
 two:∀ prs t,G prs t->(t.k=52\/t.k=53)->t.ks.length=4/\(∀ u∈(kid t 1).ks,G prs u)/\∀ u∈(kid t 2).ks,G prs u
 loc:∀ prs t,G prs t->t.k=54->t.ks.length=3/\∀ u∈(kid t 1).ks,G prs u
 stk:∀ prs t,G prs t->t.k=55->t.ks.length=1/\∀ u∈(kid t 0).ks,G prs u
 cal:∀ prs t,G prs t->(t.k=50\/t.k=51)->∃ i q,prcI prs t.s=some i/\prs[i]?=some q/\∀ u∈q.b.ks,G prs u
theorem getD_some {prs:List PR} {i:Nat} {q:PR} (h:prs[i]?=some q):prs.getD i ⟨⟨#[]⟩,[],nil0⟩=q:=by
 rw [List.getD_eq_getElem?_getD,h]; rfl
theorem stmt_all {G:List PR->T->Prop} (hG:GC G):∀ g,IStC G g
 | 0=>fun C hC W r h t v back hv hGt hg=>absurd rfl hg
 | g+1=>fun C hC W r h t v back hv hGt hg=>by
  have hS:=stmt_all hG g
  by_cases h52:t.k=52
  ·obtain ⟨h1,h2,h3⟩:=hG.two _ _ hGt (.inl h52)
   have e:execO C.p.prs C.F (g+1) back t r=brO C.p.prs C.F g back t r:=by rw [execO,if_pos h52]; rfl
   rw [e] at hg ⊢
   exact stmt_if hS hC h t v back hv h52 h1 h2 h3 _ rfl hg
  by_cases h53:t.k=53
  ·obtain ⟨h1,h2,h3⟩:=hG.two _ _ hGt (.inr h53)
   have e:execO C.p.prs C.F (g+1) back t r=lpO C.p.prs C.F g back t r:=by rw [execO,if_neg h52,if_pos h53]; rfl
   rw [e] at hg ⊢
   exact stmt_from hS hC h t v back hv h53 h1 h2 h3 _ rfl hg
  by_cases h54:t.k=54
  ·obtain ⟨h1,h2⟩:=hG.loc _ _ hGt h54
   have e:execO C.p.prs C.F (g+1) back t r=loO C.p.prs C.F g back t r:=by rw [execO,if_neg h52,if_neg h53,if_pos h54]; rfl
   rw [e] at hg ⊢
   exact stmt_local hS hC h t v back hv h54 h1 h2 _ rfl hg
  by_cases h55:t.k=55
  ·obtain ⟨h1,h2⟩:=hG.stk _ _ hGt h55
   have e:execO C.p.prs C.F (g+1) back t r=lsO C.p.prs C.F g back t r:=by rw [execO,if_neg h52,if_neg h53,if_neg h54,if_pos h55]; rfl
   rw [e] at hg ⊢
   exact stmt_ls hS hC h t v back hv h55 h1 h2 hg
  by_cases h5:t.k=50\/t.k=51
  ·obtain ⟨i,q,hi,hq,hb⟩:=hG.cal _ _ hGt h5
   have e:execO C.p.prs C.F (g+1) back t r=caO C.p.prs C.F g (back != decide (t.k=51)) i q (t.ks.map (·.s)) r:=by
    rw [execO,if_neg h52,if_neg h53,if_neg h54,if_neg h55,if_pos h5,hi]
    dsimp only
    rw [getD_some hq]
    rfl
   rw [e] at hg ⊢
   rcases h5 with h50|h51
   ·have e2:(back != decide (t.k=51))=back:=by rw [show decide (t.k=51)=false by simp [h50]]; cases back<;>rfl
    rw [e2] at hg ⊢
    exact stmt_call50 hS hC h t v back hv h50 i hi q hq hb _ rfl hg
   ·have e2:(back != decide (t.k=51)) = !back:=by rw [show decide (t.k=51)=true by simp [h51]]; cases back<;>rfl
    rw [e2] at hg ⊢
    exact stmt_call51 hS hC h t v back hv h51 i hi q hq hb _ rfl hg
  ·have e:execO C.p.prs C.F (g+1) back t r=basO C.F back t r:=by
    rw [execO,if_neg h52,if_neg h53,if_neg h54,if_neg h55,if_neg h5]; rfl
   rw [e]
   exact stmt_bas hC h t v back hv ⟨h52,h53,h54,h55,fun h=>h5 (.inl h),fun h=>h5 (.inr h)⟩
theorem block_all {G:List PR->T->Prop} (hG:GC G) (g:Nat) {C:RC} (hC:C.Ok) {W:World} {r:RS} (h:RI C W r) (t:T) (v:Value) (back:Bool) (hv:NV C.w Any t v) (hGt:∀ u∈t.ks,G C.p.prs u) (hgas:runO C.p.prs C.F g back t r ≠ .gas) :
  Calls Tryz.prog 118 #[.pointer (some ⟨C.rb,0,none⟩),v,.bool back] W (RunP C W (runO C.p.prs C.F g back t r)) :=
 iblock_any (stmt_all hG g) hC h t v back hv hGt hgas
end Go.Proofs.YtckhofdinldhpaaGreat
namespace Go.Proofs.YtckhofdinldhpaaGreat
open Go.RowKit
def faultE (ps:List PR) (k:Int) (s:ByteArray) (l:Nat) (vs:List VD):Int :=
 if k=2 then useE vs s 1 else if k=3 then useE vs s 2 else if k=4\/k=5\/k=44\/k=45 then useE vs s 3 else if k=54\/k=55 then freshE vs s
 else if k=50\/k=51 then (match idxP ps s with
  | none=>6
  | some i=>match ps[i]? with
   | none=>6
   | some r=>if l=r.ps.length then 0 else 7)
 else 0
theorem fault_any (p:PG) (t:T) (vs:List VD) (A:Option Addr) (c:Nat) (S S' S'':Nat->Prop) (v1 v2:Value) (w:World) (hv1:PV w S p v1) (hv2:NV w S' t v2) (hrow:RowV w S'' A vs) (hl:vs.length<=LV) :
  Calls Tryz.prog 137 #[v1,v2,.slice A vs.length c] w fun e w'=>e=.returned (.int .i64 (faultE p.prs t.k t.s t.ks.length vs))/\Below w.heap.size w w':=by
 have hvv:=hv1
 obtain ⟨A1,c1,A2,c2,A3,c3,rfl,hr⟩:=hv1
 have HPR:=zh hr.procs
 have hlp:=LV_int hr.lp
 obtain ⟨L1,hL1⟩:∃ L,p.vs.length=L:=⟨_,rfl⟩
 obtain ⟨L2,hL2⟩:∃ L,p.prs.length=L:=⟨_,rfl⟩
 obtain ⟨k,hk⟩:∃ k,p.m.k=k:=⟨_,rfl⟩
 obtain ⟨n,hn⟩:∃ n,p.m.n=n:=⟨_,rfl⟩
 obtain ⟨s,hs⟩:∃ s,p.m.s=s:=⟨_,rfl⟩
 obtain ⟨l3,hl3⟩:∃ l,p.m.ks.length=l:=⟨_,rfl⟩
 rw [hL1,hL2,hk,hn,hs,hl3]
 rw [hL1,hL2,hk,hn,hs,hl3] at hvv
 rw [hL2] at hlp
 have HL2:=zh hL2
 have HV:=zh hvv
 clear hr hvv hL1 hL2 hk hn hs hl3
 obtain ⟨B,tc,rfl,_,hlk,_,_⟩:=hv2.open_
 have hlk':=LK_int hlk
 have HROW:=zh hrow
 have HL:=zh hl
 clear hrow hl hv2 hlk
 generalize t.k=tk,t.n=tn,t.s=ts,t.ks.length=tl at *
 obtain ⟨R,hR⟩:∃ R,faultE p.prs tk ts tl vs=R:=⟨_,rfl⟩
 rw [hR]
 have HR:=zh hR
 clear hR
 have hb0:∀ o o',Below w.heap.size w ((w.alloc o).alloc o'):=fun o o'=>((Below.refl _ _).alloc (Nat.le_refl _) _).alloc (by simp) _
 have HB0:=zh hb0
 clear hb0
 by_cases h2:tk=2
 ·subst h2
  have HN:=zh (show R=useE vs ts 1 by rw [<-HR.out]; simp [faultE])
  go_enter Tryz.func137,Tryz.ntmps137
  go_wp2_with fail
  refine (use_any vs A c ts 1 S'' _ (HROW.out.later (HB0.out _ _)) HL.out).mono ?_
  rintro e w1 ⟨rfl,bw1⟩
  rw [<-HN.out]
  have HB:=zh (bl_tt (HB0.out _ _) bw1)
  clear bw1
  go_wp2_with fail
  go_ret
  exact ⟨rfl,HB.out⟩
 have f2:(tk==2)=false:=by simpa using h2
 by_cases h3:tk=3
 ·subst h3
  have HN:=zh (show R=useE vs ts 2 by rw [<-HR.out]; simp [faultE])
  go_enter Tryz.func137,Tryz.ntmps137
  go_wp2_with fail
  refine (use_any vs A c ts 2 S'' _ (HROW.out.later (HB0.out _ _)) HL.out).mono ?_
  rintro e w1 ⟨rfl,bw1⟩
  rw [<-HN.out]
  have HB:=zh (bl_tt (HB0.out _ _) bw1)
  clear bw1
  go_wp2_with fail
  go_ret
  exact ⟨rfl,HB.out⟩
 have f3:(tk==3)=false:=by simpa using h3
 by_cases h4:tk=4
 ·subst h4
  have HN:=zh (show R=useE vs ts 3 by rw [<-HR.out]; simp [faultE])
  go_enter Tryz.func137,Tryz.ntmps137
  go_wp2_with fail
  refine (use_any vs A c ts 3 S'' _ (HROW.out.later (HB0.out _ _)) HL.out).mono ?_
  rintro e w1 ⟨rfl,bw1⟩
  rw [<-HN.out]
  have HB:=zh (bl_tt (HB0.out _ _) bw1)
  clear bw1
  go_wp2_with fail
  go_ret
  exact ⟨rfl,HB.out⟩
 have f4:(tk==4)=false:=by simpa using h4
 by_cases h5:tk=5
 ·subst h5
  have HN:=zh (show R=useE vs ts 3 by rw [<-HR.out]; simp [faultE])
  go_enter Tryz.func137,Tryz.ntmps137
  go_wp2_with fail
  refine (use_any vs A c ts 3 S'' _ (HROW.out.later (HB0.out _ _)) HL.out).mono ?_
  rintro e w1 ⟨rfl,bw1⟩
  rw [<-HN.out]
  have HB:=zh (bl_tt (HB0.out _ _) bw1)
  clear bw1
  go_wp2_with fail
  go_ret
  exact ⟨rfl,HB.out⟩
 have f5:(tk==5)=false:=by simpa using h5
 by_cases h44:tk=44
 ·subst h44
  have HN:=zh (show R=useE vs ts 3 by rw [<-HR.out]; simp [faultE])
  go_enter Tryz.func137,Tryz.ntmps137
  go_wp2_with fail
  refine (use_any vs A c ts 3 S'' _ (HROW.out.later (HB0.out _ _)) HL.out).mono ?_
  rintro e w1 ⟨rfl,bw1⟩
  rw [<-HN.out]
  have HB:=zh (bl_tt (HB0.out _ _) bw1)
  clear bw1
  go_wp2_with fail
  go_ret
  exact ⟨rfl,HB.out⟩
 have f44:(tk==44)=false:=by simpa using h44
 by_cases h45:tk=45
 ·subst h45
  have HN:=zh (show R=useE vs ts 3 by rw [<-HR.out]; simp [faultE])
  go_enter Tryz.func137,Tryz.ntmps137
  go_wp2_with fail
  refine (use_any vs A c ts 3 S'' _ (HROW.out.later (HB0.out _ _)) HL.out).mono ?_
  rintro e w1 ⟨rfl,bw1⟩
  rw [<-HN.out]
  have HB:=zh (bl_tt (HB0.out _ _) bw1)
  clear bw1
  go_wp2_with fail
  go_ret
  exact ⟨rfl,HB.out⟩
 have f45:(tk==45)=false:=by simpa using h45
 by_cases h54:tk=54
 ·subst h54
  have HN:=zh (show R=freshE vs ts by rw [<-HR.out]; simp [faultE])
  go_enter Tryz.func137,Tryz.ntmps137
  go_wp2_with fail
  refine (fresh_any vs A c ts S'' _ (HROW.out.later (HB0.out _ _)) HL.out).mono ?_
  rintro e w1 ⟨rfl,bw1⟩
  rw [<-HN.out]
  have HB:=zh (bl_tt (HB0.out _ _) bw1)
  clear bw1
  go_wp2_with fail
  go_ret
  exact ⟨rfl,HB.out⟩
 have f54:(tk==54)=false:=by simpa using h54
 by_cases h55:tk=55
 ·subst h55
  have HN:=zh (show R=freshE vs ts by rw [<-HR.out]; simp [faultE])
  go_enter Tryz.func137,Tryz.ntmps137
  go_wp2_with fail
  refine (fresh_any vs A c ts S'' _ (HROW.out.later (HB0.out _ _)) HL.out).mono ?_
  rintro e w1 ⟨rfl,bw1⟩
  rw [<-HN.out]
  have HB:=zh (bl_tt (HB0.out _ _) bw1)
  clear bw1
  go_wp2_with fail
  go_ret
  exact ⟨rfl,HB.out⟩
 have f55:(tk==55)=false:=by simpa using h55
 by_cases h50:tk=50
 ·subst h50
  have HN:=zh (show R=(match idxP p.prs ts with|none=>6|some i=>match p.prs[i]? with|none=>6|some r=>if tl=r.ps.length then 0 else 7) by rw [<-HR.out]; simp [faultE])
  go_enter Tryz.func137,Tryz.ntmps137
  go_wp2_with fail
  refine (Proc_any p S _ ts _ (HV.out.later (HB0.out _ _))).mono ?_
  rintro e w1 ⟨rfl,bw1⟩
  have hbl:=bl_tt (HB0.out _ _) bw1
  have hP:=blk_bl (blk_al (heap_alloc_new w (.cells #[.slice A1 L1 c1,.slice A2 L2 c2,.int .u8 k,.int .i64 n,.string s,.slice A3 l3 c3] 35)) _) bw1
  have hN:=blk_bl (heap_alloc_new (w.alloc (.cells #[.slice A1 L1 c1,.slice A2 L2 c2,.int .u8 k,.int .i64 n,.string s,.slice A3 l3 c3] 35)) (.cells #[.int .u8 50,.int .i64 tn,.string ts,.slice B tl tc] 29)) bw1
  simp only [World.size_alloc] at hN
  cases hi:idxP p.prs ts with
  | none =>
   have e1:procE p.prs ts = -1:=by simp [procE,hi]
   rw [e1]
   have HN2:=zh (show R=6 by rw [HN.out,hi])
   have HB:=zh hbl
   clear bw1 hi e1 hP hN hbl
   go_wp2_with fail
   go_ret
   exact ⟨by rw [HN2.out]; rfl,HB.out⟩
  | some i =>
   have e1:procE p.prs ts=i:=by simp [procE,hi]
   rw [e1]
   have hi2:i<p.prs.length:=(List.findIdx?_eq_some_iff_getElem.1 hi).1
   have hiL:i<L2:=by rw [<-HL2.out]; exact hi2
   obtain ⟨a,r,P1,d1,P2,d2,rfl,_,Hr,⟨_,q1,_⟩,hpr⟩:=(HPR.out.later hbl).nd hi2
   obtain ⟨rl,hrl⟩:∃ l,r.ps.length=l:=⟨_,rfl⟩
   have hlr:=LV_int hpr.lp
   rw [hrl] at q1 hlr
   have HN2:=zh (show R=if tl=rl then 0 else 7 by rw [HN.out,hi]; simp only; rw [List.getElem?_eq_getElem hi2,Hr.out,<-hrl])
   obtain ⟨a0,a1,a2,a3,a4,a5⟩:=box6 hP
   obtain ⟨b0,b1,b2,b3⟩:=box4 hN
   have HB:=zh hbl
   clear bw1 hi e1 hP hN hbl hrl hpr
   go_wp2_with fail
   go_region_held3 (fun w'=>(w'.cell? ⟨w.heap.size+1,3,none⟩=some (.slice B tl tc)/\w'.cell? ⟨w.heap.size,1,none⟩=some (.slice (some a) L2 c2)/\w'.cell? ⟨(a.add (i*6)).block,(a.add (i*6)).off+1,none⟩=some (.slice P1 rl d1))) (exact ⟨b3,a1,q1⟩) (fail)
   by_cases hq:tl=rl
   ·have g1:(tl==rl)=true:=by simpa using hq
    have g2:(tl != rl)=false:=by simpa using hq
    have g3:((tl:Int)==(rl:Int))=true:=by simp; omega
    have g4:((tl:Int) != (rl:Int))=false:=by simp; omega
    have HN3:=zh (show R=0 by rw [HN2.out,if_pos hq])
    clear hq
    go_wp2_with fail
    go_ret
    exact ⟨by rw [HN3.out]; rfl,HB.out.drew⟩
   ·have g1:(tl==rl)=false:=by simpa using hq
    have g2:(tl != rl)=true:=by simpa using hq
    have g3:((tl:Int)==(rl:Int))=false:=by simp; omega
    have g4:((tl:Int) != (rl:Int))=true:=by simp; omega
    have HN3:=zh (show R=7 by rw [HN2.out,if_neg hq])
    clear hq
    go_wp2_with fail
    go_ret
    exact ⟨by rw [HN3.out]; rfl,HB.out.drew⟩
 have f50:(tk==50)=false:=by simpa using h50
 by_cases h51:tk=51
 ·subst h51
  have HN:=zh (show R=(match idxP p.prs ts with|none=>6|some i=>match p.prs[i]? with|none=>6|some r=>if tl=r.ps.length then 0 else 7) by rw [<-HR.out]; simp [faultE])
  go_enter Tryz.func137,Tryz.ntmps137
  go_wp2_with fail
  refine (Proc_any p S _ ts _ (HV.out.later (HB0.out _ _))).mono ?_
  rintro e w1 ⟨rfl,bw1⟩
  have hbl:=bl_tt (HB0.out _ _) bw1
  have hP:=blk_bl (blk_al (heap_alloc_new w (.cells #[.slice A1 L1 c1,.slice A2 L2 c2,.int .u8 k,.int .i64 n,.string s,.slice A3 l3 c3] 35)) _) bw1
  have hN:=blk_bl (heap_alloc_new (w.alloc (.cells #[.slice A1 L1 c1,.slice A2 L2 c2,.int .u8 k,.int .i64 n,.string s,.slice A3 l3 c3] 35)) (.cells #[.int .u8 51,.int .i64 tn,.string ts,.slice B tl tc] 29)) bw1
  simp only [World.size_alloc] at hN
  cases hi:idxP p.prs ts with
  | none =>
   have e1:procE p.prs ts = -1:=by simp [procE,hi]
   rw [e1]
   have HN2:=zh (show R=6 by rw [HN.out,hi])
   have HB:=zh hbl
   clear bw1 hi e1 hP hN hbl
   go_wp2_with fail
   go_ret
   exact ⟨by rw [HN2.out]; rfl,HB.out⟩
  | some i =>
   have e1:procE p.prs ts=i:=by simp [procE,hi]
   rw [e1]
   have hi2:i<p.prs.length:=(List.findIdx?_eq_some_iff_getElem.1 hi).1
   have hiL:i<L2:=by rw [<-HL2.out]; exact hi2
   obtain ⟨a,r,P1,d1,P2,d2,rfl,_,Hr,⟨_,q1,_⟩,hpr⟩:=(HPR.out.later hbl).nd hi2
   obtain ⟨rl,hrl⟩:∃ l,r.ps.length=l:=⟨_,rfl⟩
   have hlr:=LV_int hpr.lp
   rw [hrl] at q1 hlr
   have HN2:=zh (show R=if tl=rl then 0 else 7 by rw [HN.out,hi]; simp only; rw [List.getElem?_eq_getElem hi2,Hr.out,<-hrl])
   obtain ⟨a0,a1,a2,a3,a4,a5⟩:=box6 hP
   obtain ⟨b0,b1,b2,b3⟩:=box4 hN
   have HB:=zh hbl
   clear bw1 hi e1 hP hN hbl hrl hpr
   go_wp2_with fail
   go_region_held3 (fun w'=>(w'.cell? ⟨w.heap.size+1,3,none⟩=some (.slice B tl tc)/\w'.cell? ⟨w.heap.size,1,none⟩=some (.slice (some a) L2 c2)/\w'.cell? ⟨(a.add (i*6)).block,(a.add (i*6)).off+1,none⟩=some (.slice P1 rl d1))) (exact ⟨b3,a1,q1⟩) (fail)
   by_cases hq:tl=rl
   ·have g1:(tl==rl)=true:=by simpa using hq
    have g2:(tl != rl)=false:=by simpa using hq
    have g3:((tl:Int)==(rl:Int))=true:=by simp; omega
    have g4:((tl:Int) != (rl:Int))=false:=by simp; omega
    have HN3:=zh (show R=0 by rw [HN2.out,if_pos hq])
    clear hq
    go_wp2_with fail
    go_ret
    exact ⟨by rw [HN3.out]; rfl,HB.out.drew⟩
   ·have g1:(tl==rl)=false:=by simpa using hq
    have g2:(tl != rl)=true:=by simpa using hq
    have g3:((tl:Int)==(rl:Int))=false:=by simp; omega
    have g4:((tl:Int) != (rl:Int))=true:=by simp; omega
    have HN3:=zh (show R=7 by rw [HN2.out,if_neg hq])
    clear hq
    go_wp2_with fail
    go_ret
    exact ⟨by rw [HN3.out]; rfl,HB.out.drew⟩
 have f51:(tk==51)=false:=by simpa using h51
 have HN:=zh (show R=0 by rw [<-HR.out]; simp [faultE,h2,h3,h4,h5,h44,h45,h54,h55,h50,h51])
 clear h2 h3 h4 h5 h44 h45 h54 h55 h50 h51
 go_enter Tryz.func137,Tryz.ntmps137
 go_wp2_with fail
 go_ret
 exact ⟨by rw [HN.out]; rfl,HB0.out _ _⟩
def argE (ps:List PR) (s:ByteArray) (l i:Nat) (m:ByteArray) (vs:List VD):Int:=match findV vs m with
 | none=>6
 | some v=>match idxP ps s with
  | none=>0
  | some j=>match ps[j]? with
   | none=>0
   | some r=>if l=r.ps.length then (match r.ps[i]? with
    | none=>0
    | some q=>if v.k=q.k/\v.n=q.n then 0 else 7) else 0
theorem box3 {w:World} {b:Nat} {E:TypeId} {u0 u1 u2:Value} (h:w.heap[b]?=some (.cells #[u0,u1,u2] E (0,0))):w.cell? ⟨b,0,none⟩=some u0/\w.cell? ⟨b,1,none⟩=some u1/\w.cell? ⟨b,2,none⟩=some u2 :=
 ⟨zc h rfl,zc h rfl,zc h rfl⟩
theorem argument_any (p:PG) (t:T) (i:Nat) (hi:i<t.ks.length) (vs:List VD) (A:Option Addr) (c:Nat) (S S' S'':Nat->Prop) (v1 v2:Value) (w:World) (hv1:PV w S p v1) (hv2:NV w S' t v2) (hrow:RowV w S'' A vs) (hl:vs.length<=LV) :
  Calls Tryz.prog 139 #[v1,v2,.int .i64 i,.slice A vs.length c] w fun e w'=>e=.returned (.int .i64 (argE p.prs t.s t.ks.length i t.ks[i].s vs))/\Below w.heap.size w w':=by
 have hvv:=hv1
 obtain ⟨A1,c1,A2,c2,A3,c3,rfl,hr⟩:=hv1
 have HPR:=zh hr.procs
 have hlp:=LV_int hr.lp
 obtain ⟨L1,hL1⟩:∃ L,p.vs.length=L:=⟨_,rfl⟩
 obtain ⟨L2,hL2⟩:∃ L,p.prs.length=L:=⟨_,rfl⟩
 obtain ⟨k,hk⟩:∃ k,p.m.k=k:=⟨_,rfl⟩
 obtain ⟨n,hn⟩:∃ n,p.m.n=n:=⟨_,rfl⟩
 obtain ⟨s,hs⟩:∃ s,p.m.s=s:=⟨_,rfl⟩
 obtain ⟨l3,hl3⟩:∃ l,p.m.ks.length=l:=⟨_,rfl⟩
 rw [hL1,hL2,hk,hn,hs,hl3]
 rw [hL1,hL2,hk,hn,hs,hl3] at hvv
 rw [hL2] at hlp
 have HL2:=zh hL2
 have HV:=zh hvv
 clear hr hvv hL1 hL2 hk hn hs hl3
 obtain ⟨B,tc,rfl,_,hlk,_,hrk⟩:=hv2.open_
 have hlk':=LK_int hlk
 have HROW:=zh hrow
 have HL:=zh hl
 obtain ⟨b,u,B1,f1,rfl,_,Hu,⟨z0,z1,z2,z3⟩,-⟩:=hrk.nd hi
 rw [Hu.out]
 clear hrow hl hv2 hlk hrk z0 z1 z3
 obtain ⟨us,hus⟩:∃ us,u.s=us:=⟨_,rfl⟩
 rw [hus] at z2 ⊢
 clear hus Hu
 generalize t.k=tk,t.n=tn,t.s=ts,t.ks.length=tl at *
 obtain ⟨R,hR⟩:∃ R,argE p.prs ts tl i us vs=R:=⟨_,rfl⟩
 rw [hR]
 have HR:=zh hR
 clear hR
 have hb0:∀ o o',Below w.heap.size w ((w.alloc o).alloc o'):=fun o o'=>((Below.refl _ _).alloc (Nat.le_refl _) _).alloc (by simp) _
 have HB0:=zh hb0
 have z2':=fun o o'=>cell_al (cell_al z2 o) o'
 clear hb0 z2
 go_enter Tryz.func139,Tryz.ntmps139
 go_wp2_with fail
 refine (Find_any vs A c us S'' _ (HROW.out.later (HB0.out _ _)) HL.out).mono ?_
 rintro e w1 ⟨rfl,bw1⟩
 have hbl:=bl_tt (HB0.out _ _) bw1
 have hP:=blk_bl (blk_al (heap_alloc_new w (.cells #[.slice A1 L1 c1,.slice A2 L2 c2,.int .u8 k,.int .i64 n,.string s,.slice A3 l3 c3] 35)) _) bw1
 have hN:=blk_bl (heap_alloc_new (w.alloc (.cells #[.slice A1 L1 c1,.slice A2 L2 c2,.int .u8 k,.int .i64 n,.string s,.slice A3 l3 c3] 35)) (.cells #[.int .u8 tk,.int .i64 tn,.string ts,.slice (some b) tl tc] 29)) bw1
 simp only [World.size_alloc] at hN
 cases hf:findV vs us with
 | none =>
  have HN:=zh (show R=6 by rw [<-HR.out]; simp [argE,hf])
  have HB:=zh (bl_al hbl (.cells #[.string ⟨#[]⟩,.int .u8 0,.int .i64 0] 83))
  clear hf bw1 hP hN hbl z2'
  go_wp2_with fail
  go_ret
  exact ⟨by rw [HN.out]; rfl,HB.out⟩
 | some v =>
  obtain ⟨vm,vk,vl⟩:=v
  have hq2:=bl_al hbl (.cells #[.string vm,.int .u8 vk,.int .i64 vl] 83)
  have hP2:=blk_al hP (.cells #[.string vm,.int .u8 vk,.int .i64 vl] 83)
  have hN2:=blk_al hN (.cells #[.string vm,.int .u8 vk,.int .i64 vl] 83)
  have hV2:=heap_alloc_new w1 (.cells #[.string vm,.int .u8 vk,.int .i64 vl] 83)
  have HR2:=zh (show R=(match idxP p.prs ts with
   | none=>0
   | some j=>match p.prs[j]? with
    | none=>0
    | some r=>if tl=r.ps.length then (match r.ps[i]? with
     | none=>0
     | some q=>if vk=q.k/\vl=q.n then 0 else 7) else 0) by rw [<-HR.out]; simp [argE,hf])
  obtain ⟨a0,a1,a2,a3,a4,a5⟩:=box6 hP2
  obtain ⟨b0,b1,b2,b3⟩:=box4 hN2
  have HP2:=zh hP2
  have HN2:=zh hN2
  have HV2:=zh hV2
  have HQ2:=zh hq2
  clear hf bw1 hP hN hbl z2' hP2 hN2 hV2 hq2 HR
  go_wp2_with fail
  refine (Proc_any p S _ ts _ (HV.out.later HQ2.out)).mono ?_
  rintro e w2 ⟨rfl,bw2⟩
  have hbl:=bl_tt HQ2.out bw2
  have hP:=blk_bl HP2.out bw2
  have hN:=blk_bl HN2.out bw2
  have hV:=blk_bl HV2.out bw2
  clear a0 a1 a2 a3 a4 a5 b0 b1 b2 b3 HP2 HN2 HV2 HQ2 bw2
  cases hi2:idxP p.prs ts with
  | none =>
   have e1:procE p.prs ts = -1:=by simp [procE,hi2]
   rw [e1]
   have HN3:=zh (show R=0 by rw [HR2.out,hi2])
   have HB:=zh hbl
   clear hi2 e1 hP hN hV hbl
   go_wp2_with fail
   refine wp_region_noPanic ?_
   refine wp_region_G (fun _=>True) (fun _=>True) 20 (by kernel_rfl) ?_
   have hSS:(fun _:World=>True) w2.drew/\(fun _:World=>True) w2.drew:=⟨trivial,trivial⟩
   refine zT 0 hSS ?_
   (try simp only [Act.put,zP])
   refine zT 1 hSS ?_
   (try simp only [Act.put,zP])
   refine zT 2 hSS ?_
   (try simp only [Act.put,zP])
   refine wpG_take1 (i:=3) (v:=undef) rfl (by kernel_rfl) (by kernel_rfl) (by kernel_rfl) (by decide) (fun _ _ _ h=>h) (Or.inr ⟨by rfl,rfl⟩) hSS ?_
   (try simp only [Act.put,zP])
   refine wpG_take1 (i:=4) (v:=undef) rfl (by kernel_rfl) (by kernel_rfl) (by kernel_rfl) (by decide) (fun _ _ _ h=>h) (Or.inr ⟨by rfl,rfl⟩) hSS ?_
   (try simp only [Act.put,zP])
   refine wpG_take1 (i:=5) (v:=undef) rfl (by kernel_rfl) (by kernel_rfl) (by kernel_rfl) (by decide) (fun _ _ _ h=>h) (Or.inr ⟨by rfl,rfl⟩) hSS ?_
   (try simp only [Act.put,zP])
   refine wpG_take1 (i:=6) (v:=undef) rfl (by kernel_rfl) (by kernel_rfl) (by kernel_rfl) (by decide) (fun _ _ _ h=>h) (Or.inr ⟨by rfl,rfl⟩) hSS ?_
   (try simp only [Act.put,zP])
   refine wpG_take1 (i:=7) (v:=undef) rfl (by kernel_rfl) (by kernel_rfl) (by kernel_rfl) (by decide) (fun _ _ _ h=>h) (Or.inr ⟨by rfl,rfl⟩) hSS ?_
   (try simp only [Act.put,zP])
   refine wpG_take1 (i:=8) (v:=undef) rfl (by kernel_rfl) (by kernel_rfl) (by kernel_rfl) (by decide) (fun _ _ _ h=>h) (Or.inr ⟨by rfl,rfl⟩) hSS ?_
   (try simp only [Act.put,zP])
   refine wpG_take1 (i:=9) (v:=undef) rfl (by kernel_rfl) (by kernel_rfl) (by kernel_rfl) (by decide) (fun _ _ _ h=>h) (Or.inr ⟨by rfl,rfl⟩) hSS ?_
   (try simp only [Act.put,zP])
   refine wpG_take1 (i:=10) (v:=undef) rfl (by kernel_rfl) (by kernel_rfl) (by kernel_rfl) (by decide) (fun _ _ _ h=>h) (Or.inr ⟨by rfl,rfl⟩) hSS ?_
   (try simp only [Act.put,zP])
   refine wpG_take1 (i:=11) (v:=undef) rfl (by kernel_rfl) (by kernel_rfl) (by kernel_rfl) (by decide) (fun _ _ _ h=>h) (Or.inr ⟨by rfl,rfl⟩) hSS ?_
   (try simp only [Act.put,zP])
   refine wpG_take1 (i:=12) (v:=undef) rfl (by kernel_rfl) (by kernel_rfl) (by kernel_rfl) (by decide) (fun _ _ _ h=>h) (Or.inr ⟨by rfl,rfl⟩) hSS ?_
   (try simp only [Act.put,zP])
   refine wpG_take1 (i:=13) (v:=undef) rfl (by kernel_rfl) (by kernel_rfl) (by kernel_rfl) (by decide) (fun _ _ _ h=>h) (Or.inr ⟨by rfl,rfl⟩) hSS ?_
   (try simp only [Act.put,zP])
   refine zT 14 hSS ?_
   (try simp only [Act.put,zP])
   refine wpG_done (by kernel_rfl) ?_
   refine NoPanic.normal ?_
   clear hSS
   go_wp2_with fail
   go_ret
   exact ⟨by rw [HN3.out]; rfl,HB.out.drew⟩
  | some j =>
   have e1:procE p.prs ts=j:=by simp [procE,hi2]
   rw [e1]
   have hj2:j<p.prs.length:=(List.findIdx?_eq_some_iff_getElem.1 hi2).1
   have hjL:j<L2:=by rw [<-HL2.out]; exact hj2
   obtain ⟨a,r,P1,d1,P2,d2,rfl,_,Hr,⟨_,q1,_⟩,hpr⟩:=(HPR.out.later hbl).nd hj2
   obtain ⟨rl,hrl⟩:∃ l,r.ps.length=l:=⟨_,rfl⟩
   have hlr:=LV_int hpr.lp
   have HPW:=zh hpr.row
   rw [hrl] at q1 hlr
   have HR3:=zh (show R=if tl=rl then (match r.ps[i]? with
     | none=>0
     | some q=>if vk=q.k/\vl=q.n then 0 else 7) else 0 by rw [HR2.out,hi2]; simp only; rw [List.getElem?_eq_getElem hj2,Hr.out,<-hrl])
   have HRL:=zh hrl
   obtain ⟨a0,a1,a2,a3,a4,a5⟩:=box6 hP
   obtain ⟨b0,b1,b2,b3⟩:=box4 hN
   have HVB:=zh hV
   have HB:=zh hbl
   have hj0:decide ((j:Int)<0)=false:=by simp
   clear hi2 e1 hP hN hbl hrl hpr hV
   go_wp2_with fail
   go_region_held3 (fun w'=>(w'.cell? ⟨w.heap.size+1,3,none⟩=some (.slice (some b) tl tc)/\w'.cell? ⟨w.heap.size,1,none⟩=some (.slice (some a) L2 c2)/\w'.cell? ⟨(a.add (j*6)).block,(a.add (j*6)).off+1,none⟩=some (.slice P1 rl d1))) (exact ⟨b3,a1,q1⟩) (fail)
   by_cases hq:tl=rl
   ·have g1:(tl==rl)=true:=by simpa using hq
    have g2:(tl != rl)=false:=by simpa using hq
    have g3:((tl:Int)==(rl:Int))=true:=by simp; omega
    have g4:((tl:Int) != (rl:Int))=false:=by simp; omega
    have hir:i<r.ps.length:=by rw [HRL.out]; omega
    have hir':i<rl:=by omega
    obtain ⟨e,q,rfl,_,Hq,⟨y0,y1,y2⟩,hfq⟩:=(HPW.out.later (Below.refl _ _).drew).nd hir
    have HR4:=zh (show R=if vk=q.k/\vl=q.n then 0 else 7 by rw [HR3.out,if_pos hq,List.getElem?_eq_getElem hir,Hq.out])
    obtain ⟨qm,qk,ql⟩:=q
    simp only at y0 y1 y2 HR4
    have hV3:=box3 HVB.out
    obtain ⟨x0,x1,x2⟩:=hV3
    have HB9:=zh (bl_al HB.out.drew (.cells #[.string qm,.int .u8 qk,.int .i64 ql] 83))
    have hlt9:=blk_lt HVB.out
    clear hq Hq hfq HPW HVB
    by_cases hk1:vk=qk
    ·have k1:(vk==qk)=true:=by simpa using hk1
     have k2:(vk != qk)=false:=by simpa using hk1
     by_cases hk2:vl=ql
     ·have k3:(vl==ql)=true:=by simpa using hk2
      have k4:(vl != ql)=false:=by simpa using hk2
      have HN3:=zh (show R=0 by rw [HR4.out,if_pos ⟨hk1,hk2⟩])
      clear hk1 hk2
      go_wp2_with fail
      go_ret
      exact ⟨by rw [HN3.out]; rfl,HB9.out⟩
     ·have k3:(vl==ql)=false:=by simpa using hk2
      have k4:(vl != ql)=true:=by simpa using hk2
      have HN3:=zh (show R=7 by rw [HR4.out,if_neg (fun h=>hk2 h.2)])
      clear hk1 hk2
      go_wp2_with fail
      go_ret
      exact ⟨by rw [HN3.out]; rfl,HB9.out⟩
    ·have k1:(vk==qk)=false:=by simpa using hk1
     have k2:(vk != qk)=true:=by simpa using hk1
     have HN3:=zh (show R=7 by rw [HR4.out,if_neg (fun h=>hk1 h.1)])
     clear hk1
     go_wp2_with fail
     go_ret
     exact ⟨by rw [HN3.out]; rfl,HB9.out⟩
   ·have g1:(tl==rl)=false:=by simpa using hq
    have g2:(tl != rl)=true:=by simpa using hq
    have g3:((tl:Int)==(rl:Int))=false:=by simp; omega
    have g4:((tl:Int) != (rl:Int))=true:=by simp; omega
    have HN3:=zh (show R=0 by rw [HR3.out,if_neg hq])
    clear hq
    go_wp2_with fail
    go_ret
    exact ⟨by rw [HN3.out]; rfl,HB.out.drew⟩
theorem RowV.news {w:World} {S:Nat->Prop} {a:Addr}:∀ {vs:List VD},RowV w S (some a) vs->∃ news:List Value,news.length=vs.length*3/\(∀ j u,news[j]?=some u->w.cell? (a.add j)=some u)/\(∀ u∈news,u.oneCell'=true) /\
  ∀ i (hi:i<vs.length),news[i*3]?=some (.string vs[i].s)/\news[i*3+1]?=some (.int .u8 vs[i].k)/\news[i*3+2]?=some (.int .i64 vs[i].n):=by
 intro vs
 induction vs generalizing a with
 | nil=>exact fun _=>⟨[],rfl,fun j u h=>by simp at h,fun u h=>by simp at h,fun i hi=>absurd hi (by simp)⟩
 | cons t us ih =>
  intro h
  obtain ⟨a',e,hS,hc,_⟩:=h 0 (by simp)
  injection e with e
  subst e
  obtain ⟨news,hl,hcell,h1,hns⟩:=ih (a:=a.add 3) (fun i hi=>by
   obtain ⟨a'',e,hS',hc,hf⟩:=h (i+1) (by simpa using hi)
   injection e with e
   subst e
   refine ⟨_,rfl,by rw [block_add]; exact hS',?_,by simpa using hf⟩
   rw [add_add,show 3+i*3=(i+1)*3 by omega]
   simpa using hc)
  obtain ⟨c0,c1,c2⟩:=hc
  simp only [Nat.zero_mul] at c0 c1 c2
  refine ⟨.string t.s :: .int .u8 t.k :: .int .i64 t.n::news,by simp [hl]; omega,fun j u hj=>?_,fun u hu=>?_,fun i hi=>?_⟩
  ·rcases j with _|_|_|j
   ·simp at hj; subst hj; exact c0
   ·simp at hj; subst hj; exact c1
   ·simp at hj; subst hj; exact c2
   ·have:=hcell j u (by simpa using hj)
    rw [add_add] at this
    rw [show j+1+1+1=3+j by omega]
    exact this
  ·simp only [List.mem_cons] at hu
   rcases hu with rfl|rfl|rfl|hu
   ·rfl
   ·rfl
   ·rfl
   ·exact h1 u hu
  ·rcases i with _|i
   ·exact ⟨rfl,rfl,rfl⟩
   ·obtain ⟨e0,e1,e2⟩:=hns i (by simpa using hi)
    refine ⟨?_,?_,?_⟩
    ·rw [show (i+1)*3=i*3+1+1+1 by omega]; simpa using e0
    ·rw [show (i+1)*3+1=i*3+1+1+1+1 by omega]; simpa using e1
    ·rw [show (i+1)*3+2=i*3+2+1+1+1 by omega]; simpa using e2
theorem ClipI_any (A:Option Addr) (l c:Nat) (hlc:l<=c) (hl:l<=LI) (w:World):Calls Tryz.prog 165 #[.slice A l c] w fun e w'=>e=.returned (.slice A l l)/\w=w':=by
 have hl':=LI_int hl
 have h1:(l:Int)<=(c:Int):=by omega
 clear hl
 go_enter Tryz.func165,Tryz.ntmps165
 go_wp2_with fail
 go_ret
 exact ⟨rfl,rfl⟩
theorem ClipV_any (A:Option Addr) (l c:Nat) (hlc:l<=c) (hl:l<=LV) (w:World):Calls Tryz.prog 166 #[.slice A l c] w fun e w'=>e=.returned (.slice A l l)/\w=w':=by
 have hl':=LV_int hl
 have h1:(l:Int)<=(c:Int):=by omega
 clear hl
 go_enter Tryz.func166,Tryz.ntmps166
 go_wp2_with fail
 go_ret
 exact ⟨rfl,rfl⟩
theorem step_append_grows {P:Program} {w:World} {ops:Array Oper} {o:Oper} {a:Act} {K:Act->World->Prop} {Q:Exit->Act->World->Prop} {F:Prop} (hgd:o.guard=none) (s x:Operand) (t:TypeId)
  (hop:o.op=Op.call { callee:=Callee.builtin Builtin.append,args := #[s,x],argTypes := #[t,t] }) (e:TypeId) (i:TypeInfo) (z:Value) (size bytes:Nat) (h1:P.underlying t=some (.slice e)) (h2:P.info? e=some i) (h3:i.zero=some z) (h4:i.size=size) (h5:i.bytes=bytes) (h6:z.cells.size=size) (h7:0<size)
  (ao:Option Addr) (n cap:Nat) (olds:List Value) (hs:a.eval s=.slice ao n cap) (hnone:ao=none->n=0/\cap=0) (hlo:olds.length=n*size) (holds:∀ b,ao=some b->∀ j u,olds[j]?=some u->w.cell? (b.add j)=some u)
  (ad:Addr) (m c:Nat) (news:List Value) (hx:a.eval x=.slice (some ad) m c) (hn:news.length=m*size) (hc:∀ j u,news[j]?=some u->w.cell? (ad.add j)=some u) (h1c:∀ u∈news,u.oneCell'=true)
  (hfull:cap<n+m) (b1:n+m<=maxLen) (b2:(n+m)*bytes<=140737488355328)
  (hK:∀ v' w',w'.ownsRow w.heap.size e size v' (n+m) (olds++news)->w.grownBy w' none->K (a.put o.dst v') w') :
  if Region.wanted o (yielded ops a.tmps)=true then Oper.wp P o a w K Q else F:=by
 have hw:Region.wanted o (yielded ops a.tmps)=true:=by simp [Region.wanted,hgd]
 rw [if_pos hw]
 cases ao with
 | some b =>
  obtain ⟨v',w',hrun,r1,r2⟩:=run_append_arg_grows (P:=P) w t o.type e i z size bytes h1 h2 h3 h4 h5 h6 h7 b n cap olds hlo (holds b rfl) ad m c news hn hc hfull b1 b2
  unfold Oper.wp
  simp [execOp,hop,resolve,invoke,builtin,hs,hx,hrun,Result.andThen]
  exact hK v' w' r1 r2
 | none =>
  obtain ⟨rfl,rfl⟩:=hnone rfl
  obtain rfl:olds=[]:=List.eq_nil_of_length_eq_zero (by simpa using hlo)
  obtain ⟨v',w',hrun,r1,r2,_⟩:=run_append_own (P:=P) w w.heap.size t o.type e i z size bytes h1 h2 h3 h4 h5 h6 h7 (.slice none 0 0) 0 [] (World.ownsRow_nil w _ e size) ad m c news hn hc h1c b1 b2 (Nat.le_refl _)
  unfold Oper.wp
  simp [execOp,hop,resolve,invoke,builtin,hs,hx,hrun,Result.andThen]
  exact hK v' w' r1 r2
theorem child_any (q:List Int) (A:Option Addr) (c:Nat) (i:Int) (hi:I64 i) (S:Nat->Prop) (w:World) (hrow:RowI w S A q) (hlc:q.length<=c) (hl:q.length<=100000) :
  Calls Tryz.prog 138 #[.slice A q.length c,.int .i64 i] w (NewI w (q++[i])):=by
 obtain ⟨i0,hi0,hz0,hz1,hz2⟩:=info_parts intInfo
 have HROW:=zh hrow
 have HI:=zh hi
 have hbI:=buildI1
 have hm1:q.length+1<=maxLen:=by unfold maxLen; omega
 have hm2:(q.length+1)*8<=140737488355328:=by omega
 have hnone:A=none->q.length=0/\q.length=0:=fun h=>by
  subst h
  cases q with
  | nil=>simp
  | cons x xs=>obtain ⟨_,h,_⟩:=hrow 0 (by simp); cases h
 have hold:∀ b,A=some b->∀ (j:Nat) u,(q.map fun x=>Value.int .i64 x)[j]?=some u->(w.alloc (.cells #[.int .i64 i] 3)).cell? (b.add j)=some u:=fun b hb j u hj=>by
  subst hb
  exact cell_al (hrow.news.1 j u hj) _
 have hnew:∀ (j:Nat) (u:Value),[Value.int .i64 i][j]?=some u->(w.alloc (.cells #[.int .i64 i] 3)).cell? ((⟨w.heap.size,0,none⟩:Addr).add j)=some u:=fun j u h=>by
  have:=news_newN w 3 [Value.int .i64 i] j u h
  simpa using this
 clear hrow hi
 go_enter Tryz.func138,Tryz.ntmps138
 go_wp2_with fail
 refine (ClipI_any A q.length c hlc (by unfold LI; omega) _).mono ?_
 rintro e w' ⟨rfl,rfl⟩
 go_wp2_with (at_builtin; refine wpList_append_grows (P:=Tryz.prog) _ rfl (.tmp 6) (.tmp 8) 24 rfl 3 i0 _ 1 8 Tryz.underlying24 hi0 hz0 hz1 hz2 rfl (by decide) A q.length q.length _ rfl hnone (by simp) hold ⟨w.heap.size,0,none⟩ 1 1 [.int .i64 i] rfl rfl hnew (by intro u hu; simp at hu; subst hu; rfl) (by omega) hm1 hm2 ?_; intro v' w' h2 h3)
 have h2':w'.ownsRow (w.heap.size+1) 3 1 v' (q++[i]).length ((q++[i]).map (fun x=>Value.int .i64 x)):=by
  have:=h2
  simp only [World.size_alloc] at this
  simpa using this
 have hbl:Below w.heap.size w w':=((Below.refl w.heap.size w).alloc (Nat.le_refl _) _).grown h3 (by simp) (fun g e=>by cases e)
 obtain ⟨A',c',rfl,hcc,hri⟩:=ownsRow_rowI h2' (by
  intro x hx
  simp only [List.mem_append,List.mem_singleton] at hx
  rcases hx with hx|rfl
  ·exact HROW.out.fits x hx
  ·exact HI.out)
 have HRI:=zh (hri.mono (S':=From w.heap.size) fun b hb=>by have:=(h2'.lt b hb).1; show w.heap.size<=b; omega)
 have HB:=zh hbl
 have HC:=zh hcc
 clear h2 h2' h3 hbl hold hnew hri hcc hnone
 go_wp2_with fail
 go_ret
 exact ⟨A',c',rfl,HRI.out,HC.out,HB.out⟩
theorem buildV2 (s:ByteArray) (k:Int) (w:World):(Instr.build 83 #[(0,.string s),(1,.int .u8 k)]).run Tryz.prog w=.ok (.agg #[.string s,.int .u8 k,.int .i64 0]) w:=by kernel_rfl
theorem buildSV1 (a0 a1 a2:Value) (w:World):(Instr.buildSlice 22 1 #[(0,.agg #[a0,a1,a2])]).run Tryz.prog w=.ok (.slice (some ⟨w.heap.size,0,none⟩) 1 1) (w.alloc (.cells #[a0,a1,a2] 83)):=by kernel_rfl
def innerV (k:Int) (s:ByteArray) (i:Nat) (vs:List VD):List VD:=if k=54/\i=1 then vs++[⟨s,1,0⟩] else if k=55/\i=0 then vs++[⟨s,3,0⟩] else vs
def ShRow (w:World) (S:Nat->Prop) (vs:List VD) (e:Ending) (w':World):Prop:=∃ A' c',e=.returned (.slice A' vs.length c')/\RowV w' (fun b=>S b\/w.heap.size<=b) A' vs/\vs.length<=c'/\Below w.heap.size w w'
theorem ownsRow_rowV {w w':World} {base:Nat} {E:TypeId} {v:Value} {vs:List VD} {u:VD} {news:List Value} (hn:∀ i (hi:i<vs.length),news[i*3]?=some (.string vs[i].s)/\news[i*3+1]?=some (.int .u8 vs[i].k)/\news[i*3+2]?=some (.int .i64 vs[i].n))
  (hl:news.length=vs.length*3) (hf:∀ i (hi:i<vs.length),FldV vs[i]) (hu:FldV u) (h:w'.ownsRow base E 3 v (vs.length+1) (news++[.string u.s,.int .u8 u.k,.int .i64 u.n])) :
  ∃ A c,v=.slice A (vs++[u]).length c/\(vs++[u]).length<=c/\RowV w' (fun b=>base<=b) A (vs++[u]):=by
 rcases h.2 with ⟨_,h0⟩|⟨g,cap,cur,rfl,hb,hg,hc,hm,hz,hx⟩
 ·omega
 ·refine ⟨some ⟨g,0,none⟩,cap,by simp,by simpa using hc,fun i hi=>?_⟩
  have ha:(⟨g,0,none⟩:Addr).add (i*3)=⟨g,i*3,none⟩:=by unfold Addr.add; split<;>simp_all
  have hcell:∀ j x,(news++[Value.string u.s,.int .u8 u.k,.int .i64 u.n])[j]?=some x->w'.cell? ⟨g,j,none⟩=some x:=fun j x hj=>by
   have hlt:=(List.getElem?_eq_some_iff.1 hj).1
   rw [h.cellAt j (by simp at hlt; omega)]; exact hj
  refine ⟨⟨g,0,none⟩,rfl,hb,?_,?_⟩
  ·rw [ha]
   by_cases e:i<vs.length
   ·obtain ⟨e0,e1,e2⟩:=hn i e
    rw [List.getElem_append_left e]
    exact ⟨hcell (i*3) _ (by rw [List.getElem?_append_left (by omega)]; exact e0),hcell (i*3+1) _ (by rw [List.getElem?_append_left (by omega)]; exact e1),hcell (i*3+2) _ (by rw [List.getElem?_append_left (by omega)]; exact e2)⟩
   ·have e':i=vs.length:=by simp at hi; omega
    subst e'
    simp only [List.getElem_append_right (Nat.le_refl _),Nat.sub_self,List.getElem_cons_zero]
    exact ⟨hcell (vs.length*3) _ (by rw [List.getElem?_append_right (by omega)]; simp [hl]),hcell (vs.length*3+1) _ (by rw [List.getElem?_append_right (by omega)]; simp [hl]),hcell (vs.length*3+2) _ (by rw [List.getElem?_append_right (by omega)]; simp [hl])⟩
  ·by_cases e:i<vs.length
   ·rw [List.getElem_append_left e]; exact hf i e
   ·have e':i=vs.length:=by simp at hi; omega
    subst e'
    simpa using hu
theorem inner_any (t:T) (i:Nat) (hi64:i<=4000000000) (vs:List VD) (A:Option Addr) (c:Nat) (S S':Nat->Prop) (v:Value) (w:World) (hv:NV w S' t v) (hrow:RowV w S A vs) (hlc:vs.length<=c) (hl:vs.length<=100000) :
  Calls Tryz.prog 140 #[v,.int .i64 i,.slice A vs.length c] w (ShRow w S (innerV t.k t.s i vs)):=by
 obtain ⟨i0,hi0,hz0,hz1,hz2⟩:=info_parts vdInfo
 obtain ⟨B,tc,rfl,hft,-⟩:=hv.open_
 have HROW:=zh hrow
 have HLC:=zh hlc
 have HFT:=zh hft
 have hb2:=buildV2
 have hbs:=buildSV1
 have hm1:vs.length+1<=maxLen:=by unfold maxLen; omega
 have hm2:(vs.length+1)*32<=140737488355328:=by omega
 have hlv:vs.length<=LV:=by unfold LV; omega
 obtain ⟨news,hnl,hnc,hn1,hnv⟩:∃ news:List Value,news.length=vs.length*3/\(∀ b,A=some b->∀ (j:Nat) u,news[j]?=some u->w.cell? (b.add j)=some u)/\(A=none->vs.length=0/\vs.length=0)/\(∀ i (hi:i<vs.length),news[i*3]?=some (.string vs[i].s)/\news[i*3+1]?=some (.int .u8 vs[i].k)/\news[i*3+2]?=some (.int .i64 vs[i].n)):=by
  cases A with
  | none =>
   have h0:vs=[]:=by
    cases vs with
    | nil=>rfl
    | cons x xs=>obtain ⟨_,h,_⟩:=hrow 0 (by simp); cases h
   subst h0
   exact ⟨[],rfl,(fun b h=>by cases h),(fun _=>⟨rfl,rfl⟩),fun i hi=>absurd hi (by simp)⟩
  | some a =>
   obtain ⟨news,h1,h2,_,h4⟩:=hrow.news
   exact ⟨news,h1,(fun b h=>by injection h with h; subst h; exact h2),(fun h=>by cases h),h4⟩
 have HNV:=zh hnv
 have HFV:=zh (show ∀ i (hi:i<vs.length),FldV vs[i] from fun i hi=>(hrow i hi).choose_spec.2.2.2)
 clear hrow hlc hft hv hnv
 generalize t.k=tk,t.n=tn,t.s=ts,t.ks.length=tl at *
 obtain ⟨V,hV⟩:∃ V,innerV tk ts i vs=V:=⟨_,rfl⟩
 rw [hV]
 have HV:=zh hV
 clear hV
 have key:∀ (kd:Int) (hkd:kd=1\/kd=3) (W':World) (v':Value),(((w.alloc (.cells #[.int .u8 tk,.int .i64 tn,.string ts,.slice B tl tc] 29)).alloc (.cells #[.string ts,.int .u8 kd,.int .i64 0] 83)).drew).grownBy W' none ->
   W'.ownsRow ((w.alloc (.cells #[.int .u8 tk,.int .i64 tn,.string ts,.slice B tl tc] 29)).alloc (.cells #[.string ts,.int .u8 kd,.int .i64 0] 83)).drew.heap.size 83 3 v' (vs.length+1) (news++[.string ts,.int .u8 kd,.int .i64 0])->V=vs++[⟨ts,kd,0⟩]->ShRow w S V (.returned v') W':=by
  intro kd hkd W' v' hg ho hVV
  subst hVV
  obtain ⟨A',c',rfl,hcc,hrr⟩:=ownsRow_rowV (w:=w) (u:=⟨ts,kd,0⟩) HNV.out hnl HFV.out ⟨HFT.out.2.2,(show (0:Int)<=kd/\kd<256 by rcases hkd with rfl|rfl<;>decide),(by decide:(-9223372036854775808:Int)<=0/\(0:Int)<=9223372036854775807)⟩ ho
  refine ⟨A',c',rfl,hrr.mono fun b hb=>.inr ?_,hcc,?_⟩
  ·simp at hb; omega
  ·exact ((((Below.refl w.heap.size w).alloc (Nat.le_refl _) _).alloc (by simp) _).drew).grown hg (by simp; omega) (fun g e=>by cases e)
 have HKEY:=zh key
 have hnc':∀ o o' b,A=some b->∀ (j:Nat) u,news[j]?=some u->((w.alloc o).alloc o').drew.cell? (b.add j)=some u:=fun o o' b hb j u hj=>cell_al (cell_al (hnc b hb j u hj) o) o'
 have hnw:∀ (kd:Int) (j:Nat) (u:Value),[Value.string ts,.int .u8 kd,.int .i64 0][j]?=some u->((w.alloc (.cells #[.int .u8 tk,.int .i64 tn,.string ts,.slice B tl tc] 29)).alloc (.cells #[.string ts,.int .u8 kd,.int .i64 0] 83)).drew.cell? ((⟨w.heap.size+1,0,none⟩:Addr).add j)=some u:=fun kd j u h=>by
  have:=news_newN (w.alloc (.cells #[.int .u8 tk,.int .i64 tn,.string ts,.slice B tl tc] 29)) 83 [Value.string ts,.int .u8 kd,.int .i64 0] j u h
  simpa using this
 have HNC:=zh hnc'
 have HNW:=zh hnw
 clear key hnc hnc' hnw
 by_cases h54:tk=54/\i=1
 ·obtain ⟨rfl,rfl⟩:=h54
  have HVV:=zh (show V=vs++[⟨ts,1,0⟩] by rw [<-HV.out]; simp [innerV])
  go_enter Tryz.func140,Tryz.ntmps140
  go_wp2_with fail
  go_region_held3 (fun w'=>w'.cell? ⟨w.heap.size,2,none⟩=some (.string ts))
   (first|exact hk5|(simp; done))
   (first
    | (refine step_append_grows (by rfl) (.tmp 16) (.tmp 20) 22 (by rfl) 83 i0 _ 3 32 Tryz.underlying22 hi0 hz0 hz1 hz2 rfl (by decide) A vs.length vs.length news (by rfl) hn1 hnl (HNC.out _ _) ⟨w.heap.size+1,0,none⟩ 1 1 [.string ts,.int .u8 1,.int .i64 0] (by rfl) rfl (HNW.out 1) (by intro u hu; simp at hu; rcases hu with rfl|rfl|rfl<;>rfl) (by omega) hm1 hm2 ?_; intro v' w' h2 h3; have HF:=zh (HKEY.out 1 (.inl rfl) w' v' h3 h2 HVV.out); have hk5:w'.cell? ⟨w.heap.size,2,none⟩=some (.string ts):=(World.cell?_of_block (a:=⟨w.heap.size,2,none⟩) (h3.block _ (by simp; omega) (by simp))).trans (by simp); clear h2 h3)
    | (go_at_call 166; refine (ClipV_any A vs.length c HLC.out hlv _).mono ?_; rintro e wq ⟨rfl,rfl⟩)
    | fail)
  all_goals
   clear hk5
   go_wp2_with fail
   go_ret
   exact HF.out
 by_cases h55:tk=55/\i=0
 ·obtain ⟨rfl,rfl⟩:=h55
  have HVV:=zh (show V=vs++[⟨ts,3,0⟩] by rw [<-HV.out]; simp [innerV])
  go_enter Tryz.func140,Tryz.ntmps140
  go_wp2_with fail
  go_region_held3 (fun w'=>w'.cell? ⟨w.heap.size,2,none⟩=some (.string ts))
   (first|exact hk5|(simp; done))
   (first
    | (refine step_append_grows (by rfl) (.tmp 31) (.tmp 35) 22 (by rfl) 83 i0 _ 3 32 Tryz.underlying22 hi0 hz0 hz1 hz2 rfl (by decide) A vs.length vs.length news (by rfl) hn1 hnl (HNC.out _ _) ⟨w.heap.size+1,0,none⟩ 1 1 [.string ts,.int .u8 3,.int .i64 0] (by rfl) rfl (HNW.out 3) (by intro u hu; simp at hu; rcases hu with rfl|rfl|rfl<;>rfl) (by omega) hm1 hm2 ?_; intro v' w' h2 h3; have HF:=zh (HKEY.out 3 (.inr rfl) w' v' h3 h2 HVV.out); have hk5:w'.cell? ⟨w.heap.size,2,none⟩=some (.string ts):=(World.cell?_of_block (a:=⟨w.heap.size,2,none⟩) (h3.block _ (by simp; omega) (by simp))).trans (by simp); clear h2 h3)
    | (go_at_call 166; refine (ClipV_any A vs.length c HLC.out hlv _).mono ?_; rintro e wq ⟨rfl,rfl⟩)
    | fail)
  all_goals
   clear hk5
   go_wp2_with fail
   go_ret
   exact HF.out
 have HVV:=zh (show V=vs by rw [<-HV.out]; unfold innerV; rw [if_neg h54,if_neg h55])
 have HF:=zh (show ∀ o,ShRow w S V (.returned (.slice A vs.length c)) (w.alloc o) from fun o=>by
  rw [HVV.out]
  exact ⟨A,c,rfl,(HROW.out.later ((Below.refl _ _).alloc (Nat.le_refl _) _)).mono fun b hb=>.inl hb,HLC.out,(Below.refl _ _).alloc (Nat.le_refl _) _⟩)
 by_cases k54:tk=54
 ·subst k54
  have hne:¬ i=1:=fun e=>h54 ⟨rfl,e⟩
  have e1:(i==1)=false:=by simpa using hne
  have e2:((i:Int)==1)=false:=by simp; omega
  clear h54 h55 hne
  go_enter Tryz.func140,Tryz.ntmps140
  go_wp2_with fail
  go_ret
  exact HF.out _
 have f54:(tk==54)=false:=by simpa using k54
 by_cases k55:tk=55
 ·subst k55
  have hne:¬ i=0:=fun e=>h55 ⟨rfl,e⟩
  have e1:(i==0)=false:=by simpa using hne
  have e2:((i:Int)==0)=false:=by simp; omega
  clear h54 h55 hne
  go_enter Tryz.func140,Tryz.ntmps140
  go_wp2_with fail
  go_ret
  exact HF.out _
 have f55:(tk==55)=false:=by simpa using k55
 clear h54 h55 k54 k55
 go_enter Tryz.func140,Tryz.ntmps140
 go_wp2_with fail
 go_ret
 exact HF.out _
end Go.Proofs.YtckhofdinldhpaaGreat
namespace Go.Proofs.YtckhofdinldhpaaGreat
open Go Go.RowKit
mutual
/-- The nodes of a tree,in pre-order. -/
def po:T->List T
 | .nd k n s ks=>.nd k n s ks::pos ks
def pos:List T->List T
 | []=>[]
 | t::ts=>po t++pos ts
end
mutual
/-- The depth of a tree. -/
def dep:T->Nat
 | .nd _ _ _ ks=>1+deps ks
def deps:List T->Nat
 | []=>0
 | t::ts=>max (dep t) (deps ts)
end
theorem dep_le {t:T}:∀ {ks:List T},t∈ks->dep t<=deps ks
 | u::us,h=>by
  simp only [List.mem_cons] at h
  rcases h with rfl|h
  ·simp only [deps]; omega
  ·have:=dep_le h; simp only [deps]; omega
structure It (C:Nat->Prop) (W:World) (n0 l yb pb vb:Nat) (pv:Value) (q:List Int):Prop where
 y:W.heap[yb]?=some (.cells #[.func (.yield l) #[] #[]] 218 (0,0))
 v:W.heap[vb]?=some (.cells #[.func (.func 168) #[] #[.pointer (some ⟨yb,0,none⟩),.pointer (some ⟨pb,0,none⟩),.pointer (some ⟨vb,0,none⟩)]] 105 (0,0))
 p:W.heap[pb]?=some (.cells #[pv] 24 (0,0))
 row:W.ownsRow n0 3 1 pv q.length (q.map fun x=>Value.int .i64 x)
 fits:∀ x∈q,I64 x
 gy:n0<=yb
 gp:n0<=pb
 gv:n0<=vb
 nyp:yb≠pb
 nvp:vb≠pb
 ry:pv.ownBlock≠some yb
 rp:pv.ownBlock≠some pb
 rv:pv.ownBlock≠some vb
 cy:¬ C yb
 cp:¬ C pb
 cv:¬ C vb
 cr:∀ b,pv.ownBlock=some b->¬ C b
section
variable {C C' D:Nat->Prop} {W W':World} {n0 l yb pb vb:Nat} {pv pv':Value} {q q':List Int}
theorem It.lt (h:It C W n0 l yb pb vb pv q):yb<W.heap.size/\pb<W.heap.size/\vb<W.heap.size/\∀ b,pv.ownBlock=some b->n0<=b/\b<W.heap.size:=⟨blk_lt h.y,blk_lt h.p,blk_lt h.v,h.row.lt⟩
theorem It.chg (h:It C W n0 l yb pb vb pv q) (hc:Chg D W W') (hD:∀ b,b=yb\/b=pb\/b=vb\/pv.ownBlock=some b->¬ D b) (hC:∀ b,b=yb\/b=pb\/b=vb\/pv.ownBlock=some b->¬ C' b):It C' W' n0 l yb pb vb pv q :=
 { h with
  y:=hc.keep h.y (hD _ (.inl rfl))
  v:=hc.keep h.v (hD _ (.inr (.inr (.inl rfl))))
  p:=hc.keep h.p (hD _ (.inr (.inl rfl)))
  row:=by
   obtain ⟨e1,h2⟩:=h.row
   refine ⟨e1,?_⟩
   rcases h2 with h2|⟨g,cap,cur,rfl,hb,hg,h3⟩
   ·exact .inl h2
   ·exact .inr ⟨g,cap,cur,rfl,hb,hc.keep hg (hD _ (.inr (.inr (.inr rfl)))),h3⟩
  cy:=hC _ (.inl rfl)
  cp:=hC _ (.inr (.inl rfl))
  cv:=hC _ (.inr (.inr (.inl rfl)))
  cr:=fun b hb=>hC _ (.inr (.inr (.inr hb))) }
theorem It.later (h:It C W n0 l yb pb vb pv q) (hb:Below W.heap.size W W'):It C W' n0 l yb pb vb pv q :=
 h.chg (D:=fun _=>False) (Chg.of_below hb) (fun _ _ h=>h) (fun b hb=>by
  rcases hb with rfl|rfl|rfl|hb
  ·exact h.cy
  ·exact h.cp
  ·exact h.cv
  ·exact h.cr b hb)
theorem It.put (h:It C W n0 l yb pb vb pv q) (ho:W'.ownsRow n0 3 1 pv' q'.length (q'.map fun x=>Value.int .i64 x)) (hq:∀ x∈q',I64 x) (hg:W.grownBy W' pv.ownBlock)
  (hob:∀ b,pv'.ownBlock=some b->pv.ownBlock=some b\/W.heap.size<=b) (hC:∀ b,C b->b<W.heap.size):It C (W'.setCell ⟨pb,0,none⟩ pv') n0 l yb pb vb pv' q':=by
 have hlt:=h.lt
 have hc:Chg (fun b=>b=pb\/pv.ownBlock=some b) W (W'.setCell ⟨pb,0,none⟩ pv'):=((Chg.row hg).mono fun _ _ h=>.inr h).setCell (.inl (.inl rfl)) _
 have hp':W'.heap[pb]?=some (.cells #[pv] 24 (0,0)):=(hg.block _ (blk_lt h.p) (fun e=>h.rp e.symm)).trans h.p
 have hnp:pv'.ownBlock≠some pb:=fun e=>by
  rcases hob _ e with e|e
  ·exact h.rp e
  ·have:=hlt.2.1; omega
 refine { h with
  y:=hc.keep h.y (fun hh=>by rcases hh with hh|hh; exact h.nyp hh; exact h.ry hh)
  v:=hc.keep h.v (fun hh=>by rcases hh with hh|hh; exact h.nvp hh; exact h.rv hh)
  p:=by have:=heap_setCell_same W' pb 0 _ _ pv' hp'; simpa using this
  row:=?_
  fits:=hq
  ry:=fun e=>by
   rcases hob _ e with e|e
   ·exact h.ry e
   ·have:=hlt.1; omega
  rp:=hnp
  rv:=fun e=>by
   rcases hob _ e with e|e
   ·exact h.rv e
   ·have:=hlt.2.2.1; omega
  cr:=fun b hb hcb=>by
   rcases hob _ hb with e|e
   ·exact h.cr b e hcb
   ·have:=hC b hcb; omega }
 obtain ⟨e1,h2⟩:=ho
 refine ⟨e1,?_⟩
 rcases h2 with h2|⟨g,cap,cur,rfl,hb,hg',h3⟩
 ·exact .inl h2
 ·refine .inr ⟨g,cap,cur,rfl,hb,?_,h3⟩
  rw [Below.heap_setCell _ _ _ _ (fun e=>hnp (by subst e; rfl))]
  exact hg'
end
def NewIV (w:World) (xs:List Int) (v:Value) (w':World):Prop:=∃ A' c',v=.slice A' xs.length c'/\RowI w' (From w.heap.size) A' xs/\xs.length<=c'/\Below w.heap.size w w'
theorem newIV_of {P:Program} {f:FuncId} {args:Array Value} {w:World} {xs:List Int} (h:Calls P f args w (NewI w xs)):Calls P f args w fun e w'=>∃ v,e=.returned v/\NewIV w xs v w' :=
 h.mono fun _ _ ⟨A,c,he,hn⟩=>⟨_,he,A,c,rfl,hn⟩
structure FS (W:World) (n0 fb N:Nat) (pv:Value):Prop where
 box:W.heap[fb]?=some (.cells #[pv] 106 (0,0))
 row:∃ xs,W.ownsRow n0 154 4 pv N xs
 ge:n0<=fb
 ne:pv.ownBlock≠some fb
section
variable {W W':World} {n0 fb N N':Nat} {pv pv':Value}
theorem FS.lt (h:FS W n0 fb N pv):fb<W.heap.size/\∀ b,pv.ownBlock=some b->n0<=b/\b<W.heap.size:=⟨blk_lt h.box,let ⟨_,hr⟩:=h.row; hr.lt⟩
theorem FS.chg {C:Nat->Prop} (h:FS W n0 fb N pv) (hc:Chg C W W') (hC:∀ b,b=fb\/pv.ownBlock=some b->¬ C b):FS W' n0 fb N pv:=by
 refine ⟨hc.keep h.box (hC _ (.inl rfl)),?_,h.ge,h.ne⟩
 obtain ⟨xs,e1,h2⟩:=h.row
 refine ⟨xs,e1,?_⟩
 rcases h2 with h2|⟨g,cap,cur,rfl,hb,hg,h3⟩
 ·exact .inl h2
 ·exact .inr ⟨g,cap,cur,rfl,hb,hc.keep hg (hC _ (.inr rfl)),h3⟩
theorem FS.later (h:FS W n0 fb N pv) (hb:Below W.heap.size W W'):FS W' n0 fb N pv:=h.chg (C:=fun _=>False) (Chg.of_below hb) (fun _ _ h=>h)
theorem FS.put (h:FS W n0 fb N pv) (ho:∃ xs,W'.ownsRow n0 154 4 pv' N' xs) (hg:W.grownBy W' pv.ownBlock) (hob:∀ b,pv'.ownBlock=some b->pv.ownBlock=some b\/W.heap.size<=b) :
  FS (W'.setCell ⟨fb,0,none⟩ pv') n0 fb N' pv':=by
 have hp':W'.heap[fb]?=some (.cells #[pv] 106 (0,0)):=(hg.block _ (blk_lt h.box) (fun e=>h.ne e.symm)).trans h.box
 have hnp:pv'.ownBlock≠some fb:=fun e=>by
  rcases hob _ e with e|e
  ·exact h.ne e
  ·have:=blk_lt h.box; omega
 refine ⟨by have:=heap_setCell_same W' fb 0 _ _ pv' hp'; simpa using this,?_,h.ge,hnp⟩
 obtain ⟨xs,e1,h2⟩:=ho
 refine ⟨xs,e1,?_⟩
 rcases h2 with h2|⟨g,cap,cur,rfl,hb,hg',h3⟩
 ·exact .inl h2
 ·refine .inr ⟨g,cap,cur,rfl,hb,?_,h3⟩
  rw [Below.heap_setCell _ _ _ _ (fun e=>hnp (by subst e; rfl))]
  exact hg'
theorem FS.slice (h:FS W n0 fb N pv):∃ A c,pv=.slice A N c:=by
 obtain ⟨xs,e1,h2⟩:=h.row
 rcases h2 with ⟨rfl,rfl⟩|⟨g,cap,cur,rfl,_⟩
 ·exact ⟨_,_,rfl⟩
 ·exact ⟨_,_,rfl⟩
end
def RepP (W:World) (n0 fb:Nat) (pv:Value) (N':Nat) (e:Ending) (W':World):Prop :=
 (∃ v,e=.returned v)/\∃ pv',FS W' n0 fb N' pv'/\(∀ b,pv'.ownBlock=some b->pv.ownBlock=some b\/W.heap.size<=b)/\Chg (fun b=>b=fb\/pv.ownBlock=some b) W W'
def one1 (e:Int):Nat:=if e=0 then 0 else 1
theorem fltInfo:(Tryz.prog.info? 154).map (fun i=>(i.zero,i.size,i.bytes))=some (some (.agg #[.int .i64 0,.slice none 0 0,.int .i64 0,.string ⟨#[]⟩]),4,56):=by kernel_rfl
theorem buildF (p:Int) (A:Option Addr) (l c:Nat) (e:Int) (s:ByteArray) (w:World):(Instr.build 154 #[(0,.int .i64 p),(1,.slice A l c),(2,.int .i64 e),(3,.string s)]).run Tryz.prog w=.ok (.agg #[.int .i64 p,.slice A l c,.int .i64 e,.string s]) w:=by kernel_rfl
theorem buildSF (a0 a1 a2 a3:Value) (w:World):(Instr.buildSlice 106 1 #[(0,.agg #[a0,a1,a2,a3])]).run Tryz.prog w=.ok (.slice (some ⟨w.heap.size,0,none⟩) 1 1) (w.alloc (.cells #[a0,a1,a2,a3] 154)):=by kernel_rfl
theorem report_any (n0 fb N:Nat) (pv:Value) (pr er:Int) (q:List Int) (A:Option Addr) (c:Nat) (s:ByteArray) (S:Nat->Prop) (W:World) (hfs:FS W n0 fb N pv) (hq:RowI W S A q) (hql:q.length<=100000) (hN:N<=1000000) :
  Calls Tryz.prog 92 #[.int .i64 pr,.slice A q.length c,.string s,.int .i64 er,.pointer (some ⟨fb,0,none⟩)] W (RepP W n0 fb pv (N+one1 er)):=by
 obtain ⟨i0,hi0,hz0,hz1,hz2⟩:=info_parts fltInfo
 obtain ⟨Ap,cp,rfl⟩:=hfs.slice
 have HFS:=zh hfs
 have HQ:=zh hq
 have hc0:W.cell? ⟨fb,0,none⟩=some (.slice Ap N cp):=zc hfs.box rfl
 have hbf:=buildF
 have hbs:=buildSF
 have hge:=hfs.ge
 have hlf:=hfs.lt.1
 clear hfs hq
 by_cases he:er=0
 ·subst he
  clear hc0
  go_enter Tryz.func92,Tryz.ntmps92
  go_wp2_with fail
  go_end0
  exact ⟨⟨_,rfl⟩,_,HFS.out,fun b hb=>.inl hb,Chg.refl _ _⟩
 ·have e1:(er==0)=false:=by simpa using he
  have e2:(er != 0)=true:=by simpa using he
  have HONE:=zh (show one1 er=1 by simp [one1,he])
  rw [HONE.out]
  clear he
  go_enter Tryz.func92,Tryz.ntmps92
  go_upto_region 1 with fail
  have hSS:(fun _:World=>True) W.drew/\(fun w':World=>w'.cell? ⟨fb,0,none⟩=some (.slice Ap N cp)) W.drew:=⟨trivial,hc0⟩
  refine wp_region_noPanic ?_
  refine wp_region_G (fun _:World=>True) (fun w':World=>w'.cell? ⟨fb,0,none⟩=some (.slice Ap N cp)) 8 (by kernel_rfl) ?_
  refine wpG_take2 (i:=0) (v:=?_) rfl (by kernel_rfl) (by kernel_rfl) (by kernel_rfl) (by decide) rfl (by kernel_rfl) (by kernel_rfl) (fun _ _ _ h=>h) (Or.inl ⟨by rfl,?_⟩) hSS ?_
  rotate_left 1
  ·(intro w hSw; (try dsimp only at hSw); (try simp only [zA,zB,zC]); go_simp; (try with_reducible rfl))
  (try simp only [Act.put,zP])
  refine zT 1 hSS ?_
  (try simp only [Act.put,zP])
  refine zT 2 hSS ?_
  (try simp only [Act.put,zP])
  refine zT 4 hSS ?_
  (try simp only [Act.put,zP])
  refine zT 5 hSS ?_
  (try simp only [Act.put,zP])
  refine wpG_one (i:=3) (by kernel_rfl) rfl (fun K hK=>?_)
  refine step_call1 (by rfl) (.func 49) (.tmp 13) _ (by rfl) 49 _ fnCloneI (by rfl) _ (by rfl) _ (newIV_of (CloneI_any q A c S _ (HQ.out.later (Below.refl _ _).drew) (by unfold LI; omega))) ?_
  rintro v2 w2 ⟨A2,c2,rfl,_,_,bw2⟩
  have b2:=bl_tt (Below.refl W.heap.size W).drew bw2
  have hfs2:=HFS.out.later b2
  have g2:w2.cell? ⟨fb,0,none⟩=some (.slice Ap N cp):=zc hfs2.box rfl
  have hSS2:(fun _:World=>True) w2/\(fun w':World=>w'.cell? ⟨fb,0,none⟩=some (.slice Ap N cp)) w2:=⟨trivial,g2⟩
  refine hK.out _ _ hSS2 ?_
  clear hK K hSS
  (try simp only [Act.put,zP])
  refine zT 6 hSS2 ?_
  (try simp only [Act.put,zP])
  refine wpG_one (i:=7) (by kernel_rfl) rfl (fun K hK=>?_)
  (try simp only [zA,zB,zC])
  go_simp
  refine hK.out _ _ ⟨trivial,cell_al g2 _⟩ ?_
  clear hK K hSS2
  (try simp only [Act.put,zP])
  obtain ⟨xs,hrow⟩:=hfs2.row
  have hl2:=hfs2.lt
  refine wpG_past (i:=8) (by kernel_rfl) rfl (by kernel_rfl) (fun K hK=>?_)
  refine step_append_own (by rfl) (.tmp 11) (.tmp 18) 106 (by rfl) n0 154 i0 _ 4 56 Tryz.underlying106 hi0 hz0 hz1 hz2 rfl (by decide) (.slice Ap N cp) N xs (by rfl) (hrow.alloc _) ⟨w2.heap.size,0,none⟩ 1 1 [.int .i64 pr,.slice A2 q.length c2,.int .i64 er,.string s] (by rfl) rfl (news_newN w2 _ _) (by intro u hu; simp at hu; rcases hu with rfl|rfl|rfl|rfl<;>rfl) (by unfold maxLen; omega) (by omega) (by simp; omega) ?_
  intro v' w' h2 h3 h5
  have hput:=hfs2.put (W':=w') (pv':=v') (N':=N+1) ⟨_,h2⟩ ⟨h3.os,h3.tape,h3.output,Nat.le_trans (by simp) h3.size,fun b hb hne=>(h3.block b (by simp; omega) hne).trans (Below.heap_alloc w2 _ b hb)⟩ (fun b hb=>by rcases h5 with h5|h5; exact .inl (h5▸hb); exact .inr (by rw [h5] at hb; injection hb with hb; simp at hb; omega))
  have hob':∀ b,v'.ownBlock=some b->(Value.slice Ap N cp).ownBlock=some b\/W.heap.size<=b:=fun b hb=>by
   have:=b2.size
   rcases h5 with h5|h5
   ·exact .inl (h5▸hb)
   ·exact .inr (by rw [h5] at hb; injection hb with hb; simp at hb; omega)
  have hch:Chg (fun b=>b=fb\/(Value.slice Ap N cp).ownBlock=some b) W (w'.setCell ⟨fb,0,none⟩ v'):=(((Chg.of_below b2).alloc _).trans2 (Chg.row h3) (fun b _ h=>.inr h)).setCell (.inl (.inl rfl)) _
  have hbx:=(h3.block _ (by have:=blk_lt hfs2.box; simp; omega) (fun e=>hfs2.ne e.symm)).trans (blk_al hfs2.box _)
  have hy0:w'.cell? ⟨fb,0,none⟩=some (.slice Ap N cp):=zc hbx rfl
  have hy1:w'.frozen? ⟨fb,0,none⟩=false:=zf hbx
  obtain ⟨g8,cap8,rfl⟩:=ownsRow_succ h2
  have HP:=zh hput
  have HO:=zh hob'
  have HCH:=zh hch
  clear hput hob' hch hbx h2 h3 h5 hrow hfs2
  refine hK.out _ _ trivial ?_
  clear hK K
  (try simp only [Act.put,zP])
  refine wpG_past (i:=9) (by kernel_rfl) rfl (by kernel_rfl) (fun K hK=>?_)
  (try simp only [zA,zB,zC])
  go_simp
  refine hK.out _ _ trivial ?_
  clear hK K
  (try simp only [Act.put,zP])
  refine wpG_done (by kernel_rfl) ?_
  refine NoPanic.normal ?_
  go_wp2_with fail
  go_end0
  exact ⟨⟨_,rfl⟩,_,HP.out,HO.out,HCH.out⟩
structure RepC (f:FuncId) (cap:Array Value) (Rd:World->Prop) (n0 fb:Nat):Prop where
 fn:∃ fn,IsFn Tryz.prog f fn
 keep:∀ W W' pv N,Rd W->FS W n0 fb N pv->Chg (fun b=>b=fb\/pv.ownBlock=some b) W W'->Rd W'
 call:∀ (N:Nat) (pv:Value) (er:Int) (q:List Int) (A:Option Addr) (c:Nat) (s:ByteArray) (S:Nat->Prop) (W:World),Rd W->FS W n0 fb N pv->RowI W S A q->q.length<=100000->N<=1000000 ->
  Calls Tryz.prog f (#[.slice A q.length c,.string s,.int .i64 er]++cap) W (RepP W n0 fb pv (N+one1 er))
theorem FS.other {W:World} {n0 fb N:Nat} {pv:Value} {b:Nat} {cs:Array Value} {E:TypeId} (h:FS W n0 fb N pv) (hb:W.heap[b]?=some (.cells cs E (0,0))) (h1:E≠106) (h2:E≠154):¬ (b=fb\/pv.ownBlock=some b):=by
 rintro (rfl|ho)
 ·have:=h.box
  rw [hb] at this
  injection this with this
  injection this with _ e
  exact h1 e
 ·obtain ⟨xs,e1,h2'⟩:=h.row
  rcases h2' with ⟨rfl,_⟩|⟨g,cap,cur,rfl,_,hg,_⟩
  ·simp [Value.ownBlock] at ho
  ·simp [Value.ownBlock] at ho
   subst ho
   rw [hb] at hg
   injection hg with hg
   injection hg with _ e
   exact h2 e
theorem fnChk2:IsFn Tryz.prog 96 Tryz.f96:=⟨Tryz.func96,by kernel_rfl,by kernel_rfl⟩
theorem fnChk3:IsFn Tryz.prog 97 Tryz.f97:=⟨Tryz.func97,by kernel_rfl,by kernel_rfl⟩
theorem Chk2_rep (n0 fb rb ib:Nat) (k:Int):RepC 96 #[.pointer (some ⟨rb,0,none⟩),.pointer (some ⟨ib,0,none⟩)]
  (fun W=>W.heap[rb]?=some (.cells #[.func (.func 92) #[] #[.pointer (some ⟨fb,0,none⟩)]] 155 (0,0))/\W.heap[ib]?=some (.cells #[.int .i64 k] 3 (0,0))) n0 fb where
 fn:=⟨_,fnChk2⟩
 keep W W' pv N h hfs hc:=⟨hc.keep h.1 (hfs.other h.1 (by decide) (by decide)),hc.keep h.2 (hfs.other h.2 (by decide) (by decide))⟩
 call N pv er q A c s S W h hfs hq hql hN:=by
  have x0:W.cell? ⟨rb,0,none⟩=some (.func (.func 92) #[] #[.pointer (some ⟨fb,0,none⟩)]):=zc h.1 rfl
  have x1:W.cell? ⟨ib,0,none⟩=some (.int .i64 k):=zc h.2 rfl
  have HC:=zh (report_any n0 fb N pv k er q A c s S W hfs hq hql hN)
  clear h hfs hq
  show Calls Tryz.prog 96 #[.slice A q.length c,.string s,.int .i64 er,.pointer (some ⟨rb,0,none⟩),.pointer (some ⟨ib,0,none⟩)] W _
  go_enter Tryz.func96,Tryz.ntmps96
  go_wp2_with fail
  refine HC.out.mono ?_
  rintro e W' ⟨⟨v,rfl⟩,hp⟩
  have HP:=zh hp
  clear hp
  go_wp2_with fail
  go_end0
  exact ⟨⟨_,rfl⟩,HP.out⟩
theorem Chk3_rep (n0 fb rb pb:Nat) (A1:Option Addr) (l1 c1:Nat) (A2:Option Addr) (l2 c2:Nat) (k n:Int) (sn:ByteArray) (A3:Option Addr) (l3 c3:Nat):RepC 97 #[.pointer (some ⟨rb,0,none⟩),.pointer (some ⟨pb,0,none⟩)]
  (fun W=>W.heap[rb]?=some (.cells #[.func (.func 92) #[] #[.pointer (some ⟨fb,0,none⟩)]] 155 (0,0))/\W.heap[pb]?=some (.cells #[.slice A1 l1 c1,.slice A2 l2 c2,.int .u8 k,.int .i64 n,.string sn,.slice A3 l3 c3] 35 (0,0))) n0 fb where
 fn:=⟨_,fnChk3⟩
 keep W W' pv N h hfs hc:=⟨hc.keep h.1 (hfs.other h.1 (by decide) (by decide)),hc.keep h.2 (hfs.other h.2 (by decide) (by decide))⟩
 call N pv er q A c s S W h hfs hq hql hN:=by
  have x0:W.cell? ⟨rb,0,none⟩=some (.func (.func 92) #[] #[.pointer (some ⟨fb,0,none⟩)]):=zc h.1 rfl
  have x1:W.cell? ⟨pb,1,none⟩=some (.slice A2 l2 c2):=zc h.2 rfl
  have HC:=zh (report_any n0 fb N pv l2 er q A c s S W hfs hq hql hN)
  clear h hfs hq
  show Calls Tryz.prog 97 #[.slice A q.length c,.string s,.int .i64 er,.pointer (some ⟨rb,0,none⟩),.pointer (some ⟨pb,0,none⟩)] W _
  go_enter Tryz.func97,Tryz.ntmps97
  go_wp2_with fail
  refine HC.out.mono ?_
  rintro e W' ⟨⟨v,rfl⟩,hp⟩
  have HP:=zh hp
  clear hp
  go_wp2_with fail
  go_end0
  exact ⟨⟨_,rfl⟩,HP.out⟩
def cntA (ps:List PR) (s:ByteArray) (l:Nat):Nat->List T->List VD->Nat
 | _,[],_=>0
 | i,t::ts,vs=>one1 (argE ps s l i t.s vs)+cntA ps s l (i+1) ts vs
mutual
/-- How many faults scope.visit reports. -/
def cntV (ps:List PR):T->List VD->Nat
 | .nd k _ s ks,vs=>one1 (faultE ps k s ks.length vs)+(if k=50\/k=51 then cntA ps s ks.length 0 ks vs else cntK ps k s 0 ks vs)
def cntK (ps:List PR) (k:Int) (s:ByteArray):Nat->List T->List VD->Nat
 | _,[],_=>0
 | i,t::ts,vs=>cntV ps t (innerV k s i vs)+cntK ps k s (i+1) ts vs
end
theorem cntA_append (ps:List PR) (s:ByteArray) (l:Nat) (vs:List VD):∀ (a b:List T) (i:Nat),cntA ps s l i (a++b) vs=cntA ps s l i a vs+cntA ps s l (i+a.length) b vs
 | [],b,i=>by simp [cntA]
 | t::ts,b,i=>by simp [cntA,cntA_append ps s l vs ts b (i+1),Nat.add_assoc,Nat.add_comm 1 ts.length]
theorem cntK_append (ps:List PR) (k:Int) (s:ByteArray) (vs:List VD):∀ (a b:List T) (i:Nat),cntK ps k s i (a++b) vs=cntK ps k s i a vs+cntK ps k s (i+a.length) b vs
 | [],b,i=>by simp [cntK]
 | t::ts,b,i=>by simp [cntK,cntK_append ps k s vs ts b (i+1),Nat.add_assoc,Nat.add_comm 1 ts.length]
theorem cntA_take (ps:List PR) (s:ByteArray) (l:Nat) (vs:List VD) {ks:List T} {j:Nat} (h:j<ks.length):cntA ps s l 0 (ks.take (j+1)) vs=cntA ps s l 0 (ks.take j) vs+one1 (argE ps s l j ks[j].s vs):=by
 rw [List.take_succ_eq_append_getElem h,cntA_append]
 have:(ks.take j).length=j:=by simp; omega
 simp [cntA,this]
theorem cntK_take (ps:List PR) (k:Int) (s:ByteArray) (vs:List VD) {ks:List T} {j:Nat} (h:j<ks.length):cntK ps k s 0 (ks.take (j+1)) vs=cntK ps k s 0 (ks.take j) vs+cntV ps ks[j] (innerV k s j vs):=by
 rw [List.take_succ_eq_append_getElem h,cntK_append]
 have:(ks.take j).length=j:=by simp; omega
 simp [cntK,this]
theorem one1_le (e:Int):one1 e<=1:=by unfold one1; split<;>omega
theorem size_pos (t:T):1<=size t:=by cases t; rw [size]; omega
theorem cntA_le (ps:List PR) (s:ByteArray) (l:Nat) (vs:List VD):∀ (ks:List T) (i:Nat),cntA ps s l i ks vs<=sizes ks
 | [],i=>by simp [cntA]
 | t::ts,i=>by
  have h1:=cntA_le ps s l vs ts (i+1)
  have h2:=one1_le (argE ps s l i t.s vs)
  have h3:=size_pos t
  simp only [cntA,sizes]
  omega
theorem cntK_le (ps:List PR) (k:Int) (s:ByteArray):∀ (ks:List T),(∀ t∈ks,∀ vs,cntV ps t vs<=size t)->∀ (i:Nat) (vs:List VD),cntK ps k s i ks vs<=sizes ks
 | [],_,i,vs=>by simp [cntK]
 | t::ts,h,i,vs=>by
  have h1:=cntK_le ps k s ts (fun u hu=>h u (by simp [hu])) (i+1) vs
  have h2:=h t (by simp) (innerV k s i vs)
  simp only [cntK,sizes]
  omega
theorem cntV_le (ps:List PR) (t:T):∀ vs,cntV ps t vs<=size t:=by
 induction t using T.ind with
 | _ k n s ks ih =>
 intro vs
 rw [cntV,size]
 have h1:=one1_le (faultE ps k s ks.length vs)
 have h2:=cntA_le ps s ks.length vs ks 0
 have h3:=cntK_le ps k s ks ih 0 vs
 split<;>omega
theorem sizes_take_le:∀ (ks:List T) (j:Nat),sizes (ks.take j)<=sizes ks
 | [],j=>by simp [sizes]
 | t::ts,0=>by simp [sizes]
 | t::ts,j+1=>by have:=sizes_take_le ts j; simp only [List.take_succ_cons,sizes]; omega
theorem innerV_len (k:Int) (s:ByteArray) (i:Nat) (vs:List VD):(innerV k s i vs).length<=vs.length+1:=by unfold innerV; split; simp; split<;>simp
theorem PV.keep {w w':World} {S S':Nat->Prop} {p:PG} {v:Value} (h:PV w S p v) (hS:∀ b,S b->b<w.heap.size->S' b) (hk:∀ b,S b->b<w.heap.size->w'.heap[b]?=w.heap[b]?):PV w' S' p v :=
 let ⟨A1,c1,A2,c2,A3,c3,e,h⟩:=h; ⟨A1,c1,A2,c2,A3,c3,e,h.keep hS hk⟩
structure VsI (Rd:World->Prop) (n0 fb:Nat) (Wb:World) (pv:Value) (N:Nat) (wr:World) (pv':Value):Prop where
 rd:Rd wr
 fs:FS wr n0 fb N pv'
 own:∀ b,pv'.ownBlock=some b->pv.ownBlock=some b\/Wb.heap.size<=b
 chg:Chg (fun b=>b=fb\/pv.ownBlock=some b) Wb wr
theorem VsI.step {f:FuncId} {cap:Array Value} {Rd:World->Prop} {n0 fb:Nat} {Wb wr w5 W6:World} {pv pv':Value} {N N':Nat} {e:Ending} (hr:RepC f cap Rd n0 fb) (h:VsI Rd n0 fb Wb pv N wr pv') (hb:Below wr.heap.size wr w5) (hp:RepP w5 n0 fb pv' N' e W6) :
  ∃ pv'',VsI Rd n0 fb Wb pv N' W6 pv'':=by
 obtain ⟨_,pv'',hfs,hob,hc⟩:=hp
 have hfs5:=h.fs.later hb
 have hz:=h.chg.size
 have hz5:=hb.size
 refine ⟨pv'',hr.keep w5 W6 pv' N (hr.keep wr w5 pv' N h.rd h.fs (Chg.of_below hb)) hfs5 hc,hfs,fun b hb'=>?_,(h.chg.trans (Chg.of_below hb)).trans2 hc fun b hlt hh=>?_⟩
 ·rcases hob b hb' with h1|h1
  ·exact h.own b h1
  ·exact .inr (by omega)
 ·rcases hh with hh|hh
  ·exact .inl hh
  ·rcases h.own b hh with h1|h1
   ·exact .inr h1
   ·omega
theorem VsI.rep {Rd:World->Prop} {n0 fb:Nat} {W Wb w:World} {pw pv':Value} {N':Nat} {e:Ending} (h:VsI Rd n0 fb Wb pw N' w pv') (hb:Below W.heap.size W Wb) (he:∃ v,e=.returned v):RepP W n0 fb pw N' e w :=
 ⟨he,pv',h.fs,fun b hh=>(h.own b hh).imp id fun h1=>by have:=hb.size; omega,(Chg.of_below hb).trans h.chg⟩
def IsW (x:Value) (w:World) (v:Value) (w':World):Prop:=v=x/\Below w.heap.size w w'
theorem isW_of {P:Program} {f:FuncId} {args:Array Value} {w:World} {x:Value} (h:Calls P f args w fun e w'=>e=.returned x/\Below w.heap.size w w'):Calls P f args w fun e w'=>∃ v,e=.returned v/\IsW x w v w' :=
 h.mono fun _ _ ⟨he,hb⟩=>⟨_,he,rfl,hb⟩
def RepV (W:World) (n0 fb:Nat) (pv:Value) (N':Nat) (_:Value) (W':World):Prop:=RepP W n0 fb pv N' (.returned undef) W'
theorem repV_of {P:Program} {f:FuncId} {args:Array Value} {W:World} {n0 fb N':Nat} {pv:Value} (h:Calls P f args W (RepP W n0 fb pv N')):Calls P f args W fun e w'=>∃ v,e=.returned v/\RepV W n0 fb pv N' v w' :=
 h.mono fun _ _ ⟨⟨v,he⟩,hp⟩=>⟨v,he,⟨_,rfl⟩,hp⟩
def ShRowV (w:World) (S:Nat->Prop) (vs:List VD) (v:Value) (w':World):Prop:=∃ A' c',v=.slice A' vs.length c'/\RowV w' (fun b=>S b\/w.heap.size<=b) A' vs/\vs.length<=c'/\Below w.heap.size w w'
theorem shRowV_of {P:Program} {f:FuncId} {args:Array Value} {w:World} {S:Nat->Prop} {vs:List VD} (h:Calls P f args w (ShRow w S vs)):Calls P f args w fun e w'=>∃ v,e=.returned v/\ShRowV w S vs v w' :=
 h.mono fun _ _ ⟨A,c,he,hn⟩=>⟨_,he,A,c,rfl,hn⟩
theorem fnFault:IsFn Tryz.prog 137 Tryz.f137:=⟨Tryz.func137,by kernel_rfl,by kernel_rfl⟩
theorem fnArgument:IsFn Tryz.prog 139 Tryz.f139:=⟨Tryz.func139,by kernel_rfl,by kernel_rfl⟩
theorem fnChild:IsFn Tryz.prog 138 Tryz.f138:=⟨Tryz.func138,by kernel_rfl,by kernel_rfl⟩
theorem fnInner:IsFn Tryz.prog 140 Tryz.f140:=⟨Tryz.func140,by kernel_rfl,by kernel_rfl⟩
theorem fnVisit:IsFn Tryz.prog 95 Tryz.f95:=⟨Tryz.func95,by kernel_rfl,by kernel_rfl⟩
theorem svisit_any (f:FuncId) (cap:Array Value) (Rd:World->Prop) (n0 fb:Nat) (hrep:RepC f cap Rd n0 fb) (p:PG) (t:T) :
  ∀ (S:Nat->Prop) (vs:List VD) (A:Option Addr) (c:Nat) (q:List Int) (Aq:Option Addr) (cq N:Nat) (pw:Value) (W:World) (v1 v2:Value),Rd W->FS W n0 fb N pw->PV W S p v1->NV W S t v2->RowV W S A vs->vs.length<=c->RowI W S Aq q->q.length<=cq ->
   (∀ b,S b->b<W.heap.size->¬ (b=fb\/pw.ownBlock=some b))->q.length+dep t<=50000->vs.length+dep t<=50000->N+size t<=1000000 ->
   Calls Tryz.prog 95 #[v1,v2,.slice Aq q.length cq,.slice A vs.length c,.func (.func f) #[] cap] W (RepP W n0 fb pw (N+cntV p.prs t vs)):=by
 obtain ⟨fn,hfn⟩:=hrep.fn
 have HREP:=zh hrep
 clear hrep
 induction t using T.ind with
 | _ tk tn ts ks ih =>
 intro S vs A c q Aq cq N pw W v1 v2 hrd hfs hv1 hv2 hrow hlc hqr hqc hfar hdq hdv hN
 have HIH:=zh ih
 have hvv:=hv1
 obtain ⟨A1,c1,A2,c2,A3,c3,rfl,-⟩:=hv1
 obtain ⟨L1,hL1⟩:∃ L,p.vs.length=L:=⟨_,rfl⟩
 obtain ⟨L2,hL2⟩:∃ L,p.prs.length=L:=⟨_,rfl⟩
 obtain ⟨k,hk⟩:∃ k,p.m.k=k:=⟨_,rfl⟩
 obtain ⟨n,hn⟩:∃ n,p.m.n=n:=⟨_,rfl⟩
 obtain ⟨s,hs⟩:∃ s,p.m.s=s:=⟨_,rfl⟩
 obtain ⟨l3,hl3⟩:∃ l,p.m.ks.length=l:=⟨_,rfl⟩
 rw [hL1,hL2,hk,hn,hs,hl3]
 rw [hL1,hL2,hk,hn,hs,hl3] at hvv
 have HV0:=zh hvv
 clear ih hvv hL1 hL2 hk hn hs hl3
 have HN0:=zh hv2
 obtain ⟨B,tc,rfl,_,hlk,_,hrk⟩:=hv2.open_
 simp only [T.k_nd,T.n_nd,T.s_nd,T.ks_nd] at *
 have hlk':=LK_int hlk
 rw [dep] at hdq hdv
 rw [size] at hN
 have hksz:ks.length<=1000000:=by
  have:∀ l:List T,l.length<=sizes l:=fun l=>by
   induction l with
   | nil=>simp
   | cons t ts ih=>have:=size_pos t; simp only [List.length_cons,sizes]; omega
  have:=this ks
  omega
 have HRK:=zh hrk
 have HROW:=zh hrow
 have HLC:=zh hlc
 have HQR:=zh hqr
 have HQC:=zh hqc
 have HRD:=zh hrd
 have HFS:=zh hfs
 have HFAR:=zh hfar
 have hlv:vs.length<=LV:=by unfold LV; omega
 have HLV:=zh hlv
 have hfl:=hfs.lt
 have HFL:=zh hfl
 obtain ⟨CC,hCC⟩:∃ CC,cntV p.prs (.nd tk tn ts ks) vs=CC:=⟨_,rfl⟩
 rw [hCC]
 have HCC:=zh hCC
 obtain ⟨E0,hE0⟩:∃ E0,faultE p.prs tk ts ks.length vs=E0:=⟨_,rfl⟩
 have HE0:=zh hE0
 have hE1:=one1_le E0
 clear hrk hrow hlc hqr hqc hrd hfs hfar hlk hlv hv2 hfl hCC hE0
 go_enter Tryz.func95,Tryz.ntmps95
 go_upto_region 1 with fail
 have hbw:Below W.heap.size W ((W.alloc (.cells #[.slice A1 L1 c1,.slice A2 L2 c2,.int .u8 k,.int .i64 n,.string s,.slice A3 l3 c3] 35)).alloc (.cells #[.int .u8 tk,.int .i64 tn,.string ts,.slice B ks.length tc] 29)):=bl_al (bl_al (Below.refl _ _) _) _
 have hbP:=blk_al (heap_alloc_new W (.cells #[.slice A1 L1 c1,.slice A2 L2 c2,.int .u8 k,.int .i64 n,.string s,.slice A3 l3 c3] 35)) (.cells #[.int .u8 tk,.int .i64 tn,.string ts,.slice B ks.length tc] 29)
 have hbN:=heap_alloc_new (W.alloc (.cells #[.slice A1 L1 c1,.slice A2 L2 c2,.int .u8 k,.int .i64 n,.string s,.slice A3 l3 c3] 35)) (.cells #[.int .u8 tk,.int .i64 tn,.string ts,.slice B ks.length tc] 29)
 simp only [World.size_alloc] at hbN
 obtain ⟨Wb,hWb⟩:∃ Wb,(W.alloc (.cells #[.slice A1 L1 c1,.slice A2 L2 c2,.int .u8 k,.int .i64 n,.string s,.slice A3 l3 c3] 35)).alloc (.cells #[.int .u8 tk,.int .i64 tn,.string ts,.slice B ks.length tc] 29)=Wb:=⟨_,rfl⟩
 rw [hWb] at hbw hbP hbN ⊢
 have HZB:=zh (show Wb.heap.size=W.heap.size+2 by rw [<-hWb]; simp)
 have HBW:=zh hbw
 have HBP:=zh hbP
 have HBN:=zh hbN
 have HSB:=zh (show ∀ w':World,w'.heap[W.heap.size]?=Wb.heap[W.heap.size]?->w'.heap[W.heap.size+1]?=Wb.heap[W.heap.size+1]?->(fun w':World=>(w'.cell? ⟨W.heap.size,0,none⟩=some (.slice A1 L1 c1)/\w'.cell? ⟨W.heap.size,1,none⟩=some (.slice A2 L2 c2)/\w'.cell? ⟨W.heap.size,2,none⟩=some (.int .u8 k)/\w'.cell? ⟨W.heap.size,3,none⟩=some (.int .i64 n)/\w'.cell? ⟨W.heap.size,4,none⟩=some (.string s)/\w'.cell? ⟨W.heap.size,5,none⟩=some (.slice A3 l3 c3))/\(w'.cell? ⟨W.heap.size+1,0,none⟩=some (.int .u8 tk)/\w'.cell? ⟨W.heap.size+1,1,none⟩=some (.int .i64 tn)/\w'.cell? ⟨W.heap.size+1,2,none⟩=some (.string ts)/\w'.cell? ⟨W.heap.size+1,3,none⟩=some (.slice B ks.length tc))) w' from fun w' h1 h2=>⟨box6 (h1.trans hbP),box4 (h2.trans hbN)⟩)
 have HCB:=zh (show ∀ w':World,Chg (fun b=>b=fb\/pw.ownBlock=some b) Wb w'->(fun w':World=>(w'.cell? ⟨W.heap.size,0,none⟩=some (.slice A1 L1 c1)/\w'.cell? ⟨W.heap.size,1,none⟩=some (.slice A2 L2 c2)/\w'.cell? ⟨W.heap.size,2,none⟩=some (.int .u8 k)/\w'.cell? ⟨W.heap.size,3,none⟩=some (.int .i64 n)/\w'.cell? ⟨W.heap.size,4,none⟩=some (.string s)/\w'.cell? ⟨W.heap.size,5,none⟩=some (.slice A3 l3 c3))/\(w'.cell? ⟨W.heap.size+1,0,none⟩=some (.int .u8 tk)/\w'.cell? ⟨W.heap.size+1,1,none⟩=some (.int .i64 tn)/\w'.cell? ⟨W.heap.size+1,2,none⟩=some (.string ts)/\w'.cell? ⟨W.heap.size+1,3,none⟩=some (.slice B ks.length tc))) w' from fun w' h=>HSB.out w' (h.block _ (by have:=HZB.out; omega) (fun hh=>by rcases hh with hh|hh; (have:=HFL.out.1; omega); (have:=(HFL.out.2 _ hh).2; omega))) (h.block _ (by have:=HZB.out; omega) (fun hh=>by rcases hh with hh|hh; (have:=HFL.out.1; omega); (have:=(HFL.out.2 _ hh).2; omega))))
 have HKB:=zh (show ∀ w':World,Chg (fun b=>b=fb\/pw.ownBlock=some b) Wb w'->∀ b,S b->b<W.heap.size->w'.heap[b]?=W.heap[b]? from fun w' h b hb hlt=>(h.block b (by have:=HZB.out; omega) (HFAR.out b hb hlt)).trans (HBW.out.block b hlt))
 have hi0:VsI Rd n0 fb Wb pw N Wb pw:=⟨HREP.out.keep W Wb pw N HRD.out HFS.out (Chg.of_below hbw),HFS.out.later hbw,fun b hb=>.inl hb,Chg.refl _ _⟩
 have HI0:=zh hi0
 clear hWb hbw hbP hbN hi0
 have hdr:=(Below.refl Wb.heap.size Wb).drew
 have hSS:(fun w':World=>(w'.cell? ⟨W.heap.size,0,none⟩=some (.slice A1 L1 c1)/\w'.cell? ⟨W.heap.size,1,none⟩=some (.slice A2 L2 c2)/\w'.cell? ⟨W.heap.size,2,none⟩=some (.int .u8 k)/\w'.cell? ⟨W.heap.size,3,none⟩=some (.int .i64 n)/\w'.cell? ⟨W.heap.size,4,none⟩=some (.string s)/\w'.cell? ⟨W.heap.size,5,none⟩=some (.slice A3 l3 c3))/\(w'.cell? ⟨W.heap.size+1,0,none⟩=some (.int .u8 tk)/\w'.cell? ⟨W.heap.size+1,1,none⟩=some (.int .i64 tn)/\w'.cell? ⟨W.heap.size+1,2,none⟩=some (.string ts)/\w'.cell? ⟨W.heap.size+1,3,none⟩=some (.slice B ks.length tc))) Wb.drew/\(fun _:World=>True) Wb.drew:=⟨HCB.out _ (Chg.of_below hdr),trivial⟩
 refine wp_region_noPanic ?_
 refine wp_region_G (fun w':World=>(w'.cell? ⟨W.heap.size,0,none⟩=some (.slice A1 L1 c1)/\w'.cell? ⟨W.heap.size,1,none⟩=some (.slice A2 L2 c2)/\w'.cell? ⟨W.heap.size,2,none⟩=some (.int .u8 k)/\w'.cell? ⟨W.heap.size,3,none⟩=some (.int .i64 n)/\w'.cell? ⟨W.heap.size,4,none⟩=some (.string s)/\w'.cell? ⟨W.heap.size,5,none⟩=some (.slice A3 l3 c3))/\(w'.cell? ⟨W.heap.size+1,0,none⟩=some (.int .u8 tk)/\w'.cell? ⟨W.heap.size+1,1,none⟩=some (.int .i64 tn)/\w'.cell? ⟨W.heap.size+1,2,none⟩=some (.string ts)/\w'.cell? ⟨W.heap.size+1,3,none⟩=some (.slice B ks.length tc))) (fun _:World=>True) 20 (by kernel_rfl) ?_
 refine zT 0 hSS ?_
 (try simp only [Act.put,zP])
 refine zT 1 hSS ?_
 (try simp only [Act.put,zP])
 refine zT 2 hSS ?_
 (try simp only [Act.put,zP])
 refine zT 3 hSS ?_
 (try simp only [Act.put,zP])
 refine zT 4 hSS ?_
 (try simp only [Act.put,zP])
 refine zT 5 hSS ?_
 (try simp only [Act.put,zP])
 refine zT 6 hSS ?_
 (try simp only [Act.put,zP])
 refine wpG_one (i:=7) (by kernel_rfl) rfl (fun K hK=>?_)
 refine step_callL (by rfl) (.func 137) [.tmp 18,.tmp 19,.tmp 20] _ (by rfl) 137 _ fnFault (by rfl) _ (by rfl) _ (isW_of (fault_any p (.nd tk tn ts ks) vs A c S S S _ _ _ (HV0.out.later (bl_tt HBW.out hdr)) (HN0.out.later (bl_tt HBW.out hdr)) (HROW.out.later (bl_tt HBW.out hdr)) HLV.out)) ?_
 rintro vq w2 ⟨rfl,bw2⟩
 simp only [T.k_nd,T.s_nd,T.ks_nd]
 rw [HE0.out]
 have b2:=bl_tt hdr bw2
 have hSS2:(fun w':World=>(w'.cell? ⟨W.heap.size,0,none⟩=some (.slice A1 L1 c1)/\w'.cell? ⟨W.heap.size,1,none⟩=some (.slice A2 L2 c2)/\w'.cell? ⟨W.heap.size,2,none⟩=some (.int .u8 k)/\w'.cell? ⟨W.heap.size,3,none⟩=some (.int .i64 n)/\w'.cell? ⟨W.heap.size,4,none⟩=some (.string s)/\w'.cell? ⟨W.heap.size,5,none⟩=some (.slice A3 l3 c3))/\(w'.cell? ⟨W.heap.size+1,0,none⟩=some (.int .u8 tk)/\w'.cell? ⟨W.heap.size+1,1,none⟩=some (.int .i64 tn)/\w'.cell? ⟨W.heap.size+1,2,none⟩=some (.string ts)/\w'.cell? ⟨W.heap.size+1,3,none⟩=some (.slice B ks.length tc))) w2/\(fun _:World=>True) w2:=⟨HCB.out _ (Chg.of_below b2),trivial⟩
 refine hK.out _ _ hSS2 ?_
 clear hK K hSS
 (try simp only [Act.put,zP])
 refine wpG_one (i:=8) (by kernel_rfl) rfl (fun K hK=>?_)
 refine step_callC (by rfl) (.tmp 14) [.tmp 15,.tmp 17,.tmp 21] _ (by rfl) f fn hfn cap (by rfl) _ (by rfl) _ (repV_of (HREP.out.call N pw E0 q Aq cq ts S w2 (HREP.out.keep Wb w2 pw N HI0.out.rd HI0.out.fs (Chg.of_below b2)) (HI0.out.fs.later b2) ((HQR.out.later HBW.out).later b2) (by omega) (by omega))) ?_
 rintro vq W3 hp3
 obtain ⟨pv3,hi3⟩:=HI0.out.step HREP.out b2 hp3
 have hSS3:(fun w':World=>(w'.cell? ⟨W.heap.size,0,none⟩=some (.slice A1 L1 c1)/\w'.cell? ⟨W.heap.size,1,none⟩=some (.slice A2 L2 c2)/\w'.cell? ⟨W.heap.size,2,none⟩=some (.int .u8 k)/\w'.cell? ⟨W.heap.size,3,none⟩=some (.int .i64 n)/\w'.cell? ⟨W.heap.size,4,none⟩=some (.string s)/\w'.cell? ⟨W.heap.size,5,none⟩=some (.slice A3 l3 c3))/\(w'.cell? ⟨W.heap.size+1,0,none⟩=some (.int .u8 tk)/\w'.cell? ⟨W.heap.size+1,1,none⟩=some (.int .i64 tn)/\w'.cell? ⟨W.heap.size+1,2,none⟩=some (.string ts)/\w'.cell? ⟨W.heap.size+1,3,none⟩=some (.slice B ks.length tc))) W3/\(fun _:World=>True) W3:=⟨HCB.out _ hi3.chg,trivial⟩
 refine hK.out _ _ hSS3 ?_
 clear hK K hSS2
 (try simp only [Act.put,zP])
 refine wpG_done (by kernel_rfl) ?_
 refine NoPanic.normal ?_
 obtain ⟨⟨a0,a1,a2,a3,a4,a5⟩,b0,b1,b2',b3⟩:=hSS3.1
 have HI3:=zh hi3
 clear hSS3 hi3 hp3 b2 bw2 hdr HI0
 have HD:=zh (show ∀ w':World,Chg (fun b=>b=fb\/pw.ownBlock=some b) Wb w'->PV w' (fun b=>S b/\b<W.heap.size) p _/\NV w' (fun b=>S b/\b<W.heap.size) (.nd tk tn ts ks) _/\RowV w' (fun b=>S b/\b<W.heap.size) A vs/\RowI w' (fun b=>S b/\b<W.heap.size) Aq q/\RowAt w' (fun b=>S b/\b<W.heap.size) B ks from fun w' h=>⟨HV0.out.keep (fun b hb hlt=>⟨hb,hlt⟩) (HKB.out w' h),HN0.out.keep (fun b hb hlt=>⟨hb,hlt⟩) (HKB.out w' h),HROW.out.keep (fun b hb hlt=>⟨hb,hlt⟩) (HKB.out w' h),HQR.out.keep (fun b hb hlt=>⟨hb,hlt⟩) (HKB.out w' h),HRK.out.keep (fun b hb hlt=>⟨hb,hlt⟩) (HKB.out w' h)⟩)
 by_cases hcall:tk=50\/tk=51
 ·rcases hcall with rfl|rfl
  ·go_wp2_with fail
   go_loopw [34] (fun i wr=>∃ (j:Nat) (pv':Value),j<=ks.length/\i=.int .i64 j/\VsI Rd n0 fb Wb pw (N+one1 E0+cntA p.prs ts ks.length 0 (ks.take j) vs) wr pv') (fun i _=>ks.length-(intOf i).toNat)
   case atStart=>exact ⟨0,_,Nat.zero_le _,rfl,by simpa [cntA] using HI3.out⟩
   case round =>
    obtain ⟨j,pv',hj,rfl,hinv⟩:=hrel
    have HINV:=zh hinv
    clear HI3
    by_cases hlt:j<ks.length
    ·obtain ⟨-,-,-,-,hrk⟩:=HD.out wr hinv.chg
     obtain ⟨a,u,A4,c4,rfl,hsa,Hu,⟨q0,q1,q2,q3⟩,hnu⟩:=hrk.nd hlt
     have HNU:=zh hnu
     clear hinv hrk hnu hsa
     go_upto_region 6 with fail
     have hbk:Below wr.heap.size wr (wr.alloc (.cells #[.int .u8 u.k,.int .i64 u.n,.string u.s,.slice A4 u.ks.length c4] 29)):=bl_al (Below.refl _ _) _
     have hbU:=heap_alloc_new wr (.cells #[.int .u8 u.k,.int .i64 u.n,.string u.s,.slice A4 u.ks.length c4] 29)
     obtain ⟨wk,hwk⟩:∃ wk,wr.alloc (.cells #[.int .u8 u.k,.int .i64 u.n,.string u.s,.slice A4 u.ks.length c4] 29)=wk:=⟨_,rfl⟩
     rw [hwk] at hbk hbU ⊢
     have HZK:=zh (show wk.heap.size=wr.heap.size+1 by rw [<-hwk]; simp)
     have HBK:=zh hbk
     have HBU:=zh hbU
     clear hwk hbk hbU
     have HCK:=zh (show ∀ w':World,Below wk.heap.size wk w'->(fun w':World=>((w'.cell? ⟨W.heap.size,0,none⟩=some (.slice A1 L1 c1)/\w'.cell? ⟨W.heap.size,1,none⟩=some (.slice A2 L2 c2)/\w'.cell? ⟨W.heap.size,2,none⟩=some (.int .u8 k)/\w'.cell? ⟨W.heap.size,3,none⟩=some (.int .i64 n)/\w'.cell? ⟨W.heap.size,4,none⟩=some (.string s)/\w'.cell? ⟨W.heap.size,5,none⟩=some (.slice A3 l3 c3))/\(w'.cell? ⟨W.heap.size+1,0,none⟩=some (.int .u8 50)/\w'.cell? ⟨W.heap.size+1,1,none⟩=some (.int .i64 tn)/\w'.cell? ⟨W.heap.size+1,2,none⟩=some (.string ts)/\w'.cell? ⟨W.heap.size+1,3,none⟩=some (.slice (some a) ks.length tc)))/\(w'.cell? ⟨wr.heap.size,0,none⟩=some (.int .u8 u.k)/\w'.cell? ⟨wr.heap.size,1,none⟩=some (.int .i64 u.n)/\w'.cell? ⟨wr.heap.size,2,none⟩=some (.string u.s)/\w'.cell? ⟨wr.heap.size,3,none⟩=some (.slice A4 u.ks.length c4))) w'/\(fun _:World=>True) w' from fun w' h=>⟨⟨HCB.out w' (HINV.out.chg.trans (Chg.of_below (bl_tt HBK.out h))),box4 ((h.block _ (by have:=HZK.out; omega)).trans HBU.out)⟩,trivial⟩)
     have hdr:=(Below.refl wk.heap.size wk).drew
     have hSS:=HCK.out _ hdr
     refine wp_region_noPanic ?_
     refine wp_region_G (fun w':World=>((w'.cell? ⟨W.heap.size,0,none⟩=some (.slice A1 L1 c1)/\w'.cell? ⟨W.heap.size,1,none⟩=some (.slice A2 L2 c2)/\w'.cell? ⟨W.heap.size,2,none⟩=some (.int .u8 k)/\w'.cell? ⟨W.heap.size,3,none⟩=some (.int .i64 n)/\w'.cell? ⟨W.heap.size,4,none⟩=some (.string s)/\w'.cell? ⟨W.heap.size,5,none⟩=some (.slice A3 l3 c3))/\(w'.cell? ⟨W.heap.size+1,0,none⟩=some (.int .u8 50)/\w'.cell? ⟨W.heap.size+1,1,none⟩=some (.int .i64 tn)/\w'.cell? ⟨W.heap.size+1,2,none⟩=some (.string ts)/\w'.cell? ⟨W.heap.size+1,3,none⟩=some (.slice (some a) ks.length tc)))/\(w'.cell? ⟨wr.heap.size,0,none⟩=some (.int .u8 u.k)/\w'.cell? ⟨wr.heap.size,1,none⟩=some (.int .i64 u.n)/\w'.cell? ⟨wr.heap.size,2,none⟩=some (.string u.s)/\w'.cell? ⟨wr.heap.size,3,none⟩=some (.slice A4 u.ks.length c4))) (fun _:World=>True) 40 (by kernel_rfl) ?_
     refine zT 0 hSS ?_
     (try simp only [Act.put,zP])
     refine zT 1 hSS ?_
     (try simp only [Act.put,zP])
     refine zT 2 hSS ?_
     (try simp only [Act.put,zP])
     refine zT 4 hSS ?_
     (try simp only [Act.put,zP])
     refine zT 5 hSS ?_
     (try simp only [Act.put,zP])
     refine zT 6 hSS ?_
     (try simp only [Act.put,zP])
     refine zT 7 hSS ?_
     (try simp only [Act.put,zP])
     refine zT 8 hSS ?_
     (try simp only [Act.put,zP])
     refine zT 9 hSS ?_
     (try simp only [Act.put,zP])
     refine wpG_one (i:=3) (by kernel_rfl) rfl (fun K hK=>?_)
     refine step_callL (by rfl) (.func 138) [.tmp 40,.tmp 41] _ (by rfl) 138 _ fnChild (by rfl) _ (by rfl) _ (newIV_of (child_any q Aq cq (j:Int) ⟨by omega,by omega⟩ _ _ (HD.out _ (HINV.out.chg.trans (Chg.of_below (bl_tt HBK.out hdr)))).2.2.2.1 HQC.out (by omega))) ?_
     rintro vq w2 ⟨Ac,cc,rfl,hrc,hcc,bw2⟩
     have b2:=bl_tt hdr bw2
     have hSS2:=HCK.out _ b2
     refine hK.out _ _ hSS2 ?_
     clear hK K hSS
     (try simp only [Act.put,zP])
     refine wpG_one (i:=10) (by kernel_rfl) rfl (fun K hK=>?_)
     refine step_callL (by rfl) (.func 139) [.tmp 45,.tmp 46,.tmp 47,.tmp 48] _ (by rfl) 139 _ fnArgument (by rfl) _ (by rfl) _ (isW_of (argument_any p (.nd 50 tn ts ks) j hlt vs A c _ _ _ _ _ _ (HD.out _ (HINV.out.chg.trans (Chg.of_below (bl_tt HBK.out b2)))).1 (HD.out _ (HINV.out.chg.trans (Chg.of_below (bl_tt HBK.out b2)))).2.1 (HD.out _ (HINV.out.chg.trans (Chg.of_below (bl_tt HBK.out b2)))).2.2.1 HLV.out)) ?_
     rintro vq w3 ⟨rfl,bw3⟩
     simp only [T.k_nd,T.s_nd,T.ks_nd]
     have b3:=bl_tt b2 bw3
     have hSS3:=HCK.out _ b3
     refine hK.out _ _ hSS3 ?_
     clear hK K hSS2
     (try simp only [Act.put,zP])
     refine wpG_one (i:=11) (by kernel_rfl) rfl (fun K hK=>?_)
     have hcl:cntA p.prs ts ks.length 0 (ks.take j) vs<=sizes ks:=Nat.le_trans (cntA_le _ _ _ _ _ _) (sizes_take_le _ _)
     have hF:=HINV.out.fs.later (bl_tt HBK.out b3)
     have hR:=HREP.out.keep _ _ _ _ HINV.out.rd HINV.out.fs (Chg.of_below (bl_tt HBK.out b3))
     refine step_callC (by rfl) (.tmp 39) [.tmp 42,.tmp 44,.tmp 49] _ (by rfl) f fn hfn cap (by rfl) _ (by rfl) _ (repV_of (HREP.out.call _ pv' _ (q++[(j:Int)]) Ac cc u.s _ w3 hR hF (hrc.later bw3) (by simp; omega) (by omega))) ?_
     rintro vq W6 hp
     obtain ⟨pv6,hi6⟩:=HINV.out.step HREP.out (bl_tt HBK.out b3) hp
     have hi7:VsI Rd n0 fb Wb pw (N+one1 E0+cntA p.prs ts ks.length 0 (ks.take (j+1)) vs) W6 pv6:=by rw [cntA_take p.prs ts ks.length vs hlt]; simpa [Nat.add_assoc] using hi6
     have hSS6:(fun w':World=>((w'.cell? ⟨W.heap.size,0,none⟩=some (.slice A1 L1 c1)/\w'.cell? ⟨W.heap.size,1,none⟩=some (.slice A2 L2 c2)/\w'.cell? ⟨W.heap.size,2,none⟩=some (.int .u8 k)/\w'.cell? ⟨W.heap.size,3,none⟩=some (.int .i64 n)/\w'.cell? ⟨W.heap.size,4,none⟩=some (.string s)/\w'.cell? ⟨W.heap.size,5,none⟩=some (.slice A3 l3 c3))/\(w'.cell? ⟨W.heap.size+1,0,none⟩=some (.int .u8 50)/\w'.cell? ⟨W.heap.size+1,1,none⟩=some (.int .i64 tn)/\w'.cell? ⟨W.heap.size+1,2,none⟩=some (.string ts)/\w'.cell? ⟨W.heap.size+1,3,none⟩=some (.slice (some a) ks.length tc)))/\(w'.cell? ⟨wr.heap.size,0,none⟩=some (.int .u8 u.k)/\w'.cell? ⟨wr.heap.size,1,none⟩=some (.int .i64 u.n)/\w'.cell? ⟨wr.heap.size,2,none⟩=some (.string u.s)/\w'.cell? ⟨wr.heap.size,3,none⟩=some (.slice A4 u.ks.length c4))) W6/\(fun _:World=>True) W6:=⟨⟨HCB.out _ hi7.chg,box4 ((hp.2.elim fun _ h=>h.2.2.block _ (by have:=(bl_tt HBK.out b3).size; have:=b3.size; have:=HZK.out; omega) (fun hh=>by have hl:=HINV.out.fs.lt; rcases hh with hh|hh; (have:=hl.1; omega); (have:=(hl.2 _ hh).2; omega))).trans ((b3.block _ (by have:=HZK.out; omega)).trans HBU.out))⟩,trivial⟩
     refine hK.out _ _ hSS6 ?_
     clear hK K hSS3
     (try simp only [Act.put,zP])
     refine wpG_done (by kernel_rfl) ?_
     refine NoPanic.normal ?_
     have HI7:=zh hi7
     clear hi7 hi6 hp hSS6 hF hR
     go_wp2_with fail
     go_roundw
     case rel=>exact ⟨j+1,_,by omega,by go_num,HI7.out⟩
     case measure=>simp [intOf]; omega
    ·obtain rfl:j=ks.length:=by omega
     clear hinv
     go_wp2_with fail
     (try simp only [Exit.inBlock,Exit.then]); refine bodyPost_ret (results_none rfl _ _ _) rfl ?_
     have hinv:=HINV.out
     rw [List.take_of_length_le (Nat.le_refl _)] at hinv
     have hcc:=HCC.out
     rw [cntV,HE0.out,if_pos (by decide)] at hcc
     rw [<-hcc,<-Nat.add_assoc]
     exact hinv.rep HBW.out ⟨_,rfl⟩
  ·go_wp2_with fail
   go_loopw [34] (fun i wr=>∃ (j:Nat) (pv':Value),j<=ks.length/\i=.int .i64 j/\VsI Rd n0 fb Wb pw (N+one1 E0+cntA p.prs ts ks.length 0 (ks.take j) vs) wr pv') (fun i _=>ks.length-(intOf i).toNat)
   case atStart=>exact ⟨0,_,Nat.zero_le _,rfl,by simpa [cntA] using HI3.out⟩
   case round =>
    obtain ⟨j,pv',hj,rfl,hinv⟩:=hrel
    have HINV:=zh hinv
    clear HI3
    by_cases hlt:j<ks.length
    ·obtain ⟨-,-,-,-,hrk⟩:=HD.out wr hinv.chg
     obtain ⟨a,u,A4,c4,rfl,hsa,Hu,⟨q0,q1,q2,q3⟩,hnu⟩:=hrk.nd hlt
     have HNU:=zh hnu
     clear hinv hrk hnu hsa
     go_upto_region 6 with fail
     have hbk:Below wr.heap.size wr (wr.alloc (.cells #[.int .u8 u.k,.int .i64 u.n,.string u.s,.slice A4 u.ks.length c4] 29)):=bl_al (Below.refl _ _) _
     have hbU:=heap_alloc_new wr (.cells #[.int .u8 u.k,.int .i64 u.n,.string u.s,.slice A4 u.ks.length c4] 29)
     obtain ⟨wk,hwk⟩:∃ wk,wr.alloc (.cells #[.int .u8 u.k,.int .i64 u.n,.string u.s,.slice A4 u.ks.length c4] 29)=wk:=⟨_,rfl⟩
     rw [hwk] at hbk hbU ⊢
     have HZK:=zh (show wk.heap.size=wr.heap.size+1 by rw [<-hwk]; simp)
     have HBK:=zh hbk
     have HBU:=zh hbU
     clear hwk hbk hbU
     have HCK:=zh (show ∀ w':World,Below wk.heap.size wk w'->(fun w':World=>((w'.cell? ⟨W.heap.size,0,none⟩=some (.slice A1 L1 c1)/\w'.cell? ⟨W.heap.size,1,none⟩=some (.slice A2 L2 c2)/\w'.cell? ⟨W.heap.size,2,none⟩=some (.int .u8 k)/\w'.cell? ⟨W.heap.size,3,none⟩=some (.int .i64 n)/\w'.cell? ⟨W.heap.size,4,none⟩=some (.string s)/\w'.cell? ⟨W.heap.size,5,none⟩=some (.slice A3 l3 c3))/\(w'.cell? ⟨W.heap.size+1,0,none⟩=some (.int .u8 51)/\w'.cell? ⟨W.heap.size+1,1,none⟩=some (.int .i64 tn)/\w'.cell? ⟨W.heap.size+1,2,none⟩=some (.string ts)/\w'.cell? ⟨W.heap.size+1,3,none⟩=some (.slice (some a) ks.length tc)))/\(w'.cell? ⟨wr.heap.size,0,none⟩=some (.int .u8 u.k)/\w'.cell? ⟨wr.heap.size,1,none⟩=some (.int .i64 u.n)/\w'.cell? ⟨wr.heap.size,2,none⟩=some (.string u.s)/\w'.cell? ⟨wr.heap.size,3,none⟩=some (.slice A4 u.ks.length c4))) w'/\(fun _:World=>True) w' from fun w' h=>⟨⟨HCB.out w' (HINV.out.chg.trans (Chg.of_below (bl_tt HBK.out h))),box4 ((h.block _ (by have:=HZK.out; omega)).trans HBU.out)⟩,trivial⟩)
     have hdr:=(Below.refl wk.heap.size wk).drew
     have hSS:=HCK.out _ hdr
     refine wp_region_noPanic ?_
     refine wp_region_G (fun w':World=>((w'.cell? ⟨W.heap.size,0,none⟩=some (.slice A1 L1 c1)/\w'.cell? ⟨W.heap.size,1,none⟩=some (.slice A2 L2 c2)/\w'.cell? ⟨W.heap.size,2,none⟩=some (.int .u8 k)/\w'.cell? ⟨W.heap.size,3,none⟩=some (.int .i64 n)/\w'.cell? ⟨W.heap.size,4,none⟩=some (.string s)/\w'.cell? ⟨W.heap.size,5,none⟩=some (.slice A3 l3 c3))/\(w'.cell? ⟨W.heap.size+1,0,none⟩=some (.int .u8 51)/\w'.cell? ⟨W.heap.size+1,1,none⟩=some (.int .i64 tn)/\w'.cell? ⟨W.heap.size+1,2,none⟩=some (.string ts)/\w'.cell? ⟨W.heap.size+1,3,none⟩=some (.slice (some a) ks.length tc)))/\(w'.cell? ⟨wr.heap.size,0,none⟩=some (.int .u8 u.k)/\w'.cell? ⟨wr.heap.size,1,none⟩=some (.int .i64 u.n)/\w'.cell? ⟨wr.heap.size,2,none⟩=some (.string u.s)/\w'.cell? ⟨wr.heap.size,3,none⟩=some (.slice A4 u.ks.length c4))) (fun _:World=>True) 40 (by kernel_rfl) ?_
     refine zT 0 hSS ?_
     (try simp only [Act.put,zP])
     refine zT 1 hSS ?_
     (try simp only [Act.put,zP])
     refine zT 2 hSS ?_
     (try simp only [Act.put,zP])
     refine zT 4 hSS ?_
     (try simp only [Act.put,zP])
     refine zT 5 hSS ?_
     (try simp only [Act.put,zP])
     refine zT 6 hSS ?_
     (try simp only [Act.put,zP])
     refine zT 7 hSS ?_
     (try simp only [Act.put,zP])
     refine zT 8 hSS ?_
     (try simp only [Act.put,zP])
     refine zT 9 hSS ?_
     (try simp only [Act.put,zP])
     refine wpG_one (i:=3) (by kernel_rfl) rfl (fun K hK=>?_)
     refine step_callL (by rfl) (.func 138) [.tmp 40,.tmp 41] _ (by rfl) 138 _ fnChild (by rfl) _ (by rfl) _ (newIV_of (child_any q Aq cq (j:Int) ⟨by omega,by omega⟩ _ _ (HD.out _ (HINV.out.chg.trans (Chg.of_below (bl_tt HBK.out hdr)))).2.2.2.1 HQC.out (by omega))) ?_
     rintro vq w2 ⟨Ac,cc,rfl,hrc,hcc,bw2⟩
     have b2:=bl_tt hdr bw2
     have hSS2:=HCK.out _ b2
     refine hK.out _ _ hSS2 ?_
     clear hK K hSS
     (try simp only [Act.put,zP])
     refine wpG_one (i:=10) (by kernel_rfl) rfl (fun K hK=>?_)
     refine step_callL (by rfl) (.func 139) [.tmp 45,.tmp 46,.tmp 47,.tmp 48] _ (by rfl) 139 _ fnArgument (by rfl) _ (by rfl) _ (isW_of (argument_any p (.nd 51 tn ts ks) j hlt vs A c _ _ _ _ _ _ (HD.out _ (HINV.out.chg.trans (Chg.of_below (bl_tt HBK.out b2)))).1 (HD.out _ (HINV.out.chg.trans (Chg.of_below (bl_tt HBK.out b2)))).2.1 (HD.out _ (HINV.out.chg.trans (Chg.of_below (bl_tt HBK.out b2)))).2.2.1 HLV.out)) ?_
     rintro vq w3 ⟨rfl,bw3⟩
     simp only [T.k_nd,T.s_nd,T.ks_nd]
     have b3:=bl_tt b2 bw3
     have hSS3:=HCK.out _ b3
     refine hK.out _ _ hSS3 ?_
     clear hK K hSS2
     (try simp only [Act.put,zP])
     refine wpG_one (i:=11) (by kernel_rfl) rfl (fun K hK=>?_)
     have hcl:cntA p.prs ts ks.length 0 (ks.take j) vs<=sizes ks:=Nat.le_trans (cntA_le _ _ _ _ _ _) (sizes_take_le _ _)
     have hF:=HINV.out.fs.later (bl_tt HBK.out b3)
     have hR:=HREP.out.keep _ _ _ _ HINV.out.rd HINV.out.fs (Chg.of_below (bl_tt HBK.out b3))
     refine step_callC (by rfl) (.tmp 39) [.tmp 42,.tmp 44,.tmp 49] _ (by rfl) f fn hfn cap (by rfl) _ (by rfl) _ (repV_of (HREP.out.call _ pv' _ (q++[(j:Int)]) Ac cc u.s _ w3 hR hF (hrc.later bw3) (by simp; omega) (by omega))) ?_
     rintro vq W6 hp
     obtain ⟨pv6,hi6⟩:=HINV.out.step HREP.out (bl_tt HBK.out b3) hp
     have hi7:VsI Rd n0 fb Wb pw (N+one1 E0+cntA p.prs ts ks.length 0 (ks.take (j+1)) vs) W6 pv6:=by rw [cntA_take p.prs ts ks.length vs hlt]; simpa [Nat.add_assoc] using hi6
     have hSS6:(fun w':World=>((w'.cell? ⟨W.heap.size,0,none⟩=some (.slice A1 L1 c1)/\w'.cell? ⟨W.heap.size,1,none⟩=some (.slice A2 L2 c2)/\w'.cell? ⟨W.heap.size,2,none⟩=some (.int .u8 k)/\w'.cell? ⟨W.heap.size,3,none⟩=some (.int .i64 n)/\w'.cell? ⟨W.heap.size,4,none⟩=some (.string s)/\w'.cell? ⟨W.heap.size,5,none⟩=some (.slice A3 l3 c3))/\(w'.cell? ⟨W.heap.size+1,0,none⟩=some (.int .u8 51)/\w'.cell? ⟨W.heap.size+1,1,none⟩=some (.int .i64 tn)/\w'.cell? ⟨W.heap.size+1,2,none⟩=some (.string ts)/\w'.cell? ⟨W.heap.size+1,3,none⟩=some (.slice (some a) ks.length tc)))/\(w'.cell? ⟨wr.heap.size,0,none⟩=some (.int .u8 u.k)/\w'.cell? ⟨wr.heap.size,1,none⟩=some (.int .i64 u.n)/\w'.cell? ⟨wr.heap.size,2,none⟩=some (.string u.s)/\w'.cell? ⟨wr.heap.size,3,none⟩=some (.slice A4 u.ks.length c4))) W6/\(fun _:World=>True) W6:=⟨⟨HCB.out _ hi7.chg,box4 ((hp.2.elim fun _ h=>h.2.2.block _ (by have:=(bl_tt HBK.out b3).size; have:=b3.size; have:=HZK.out; omega) (fun hh=>by have hl:=HINV.out.fs.lt; rcases hh with hh|hh; (have:=hl.1; omega); (have:=(hl.2 _ hh).2; omega))).trans ((b3.block _ (by have:=HZK.out; omega)).trans HBU.out))⟩,trivial⟩
     refine hK.out _ _ hSS6 ?_
     clear hK K hSS3
     (try simp only [Act.put,zP])
     refine wpG_done (by kernel_rfl) ?_
     refine NoPanic.normal ?_
     have HI7:=zh hi7
     clear hi7 hi6 hp hSS6 hF hR
     go_wp2_with fail
     go_roundw
     case rel=>exact ⟨j+1,_,by omega,by go_num,HI7.out⟩
     case measure=>simp [intOf]; omega
    ·obtain rfl:j=ks.length:=by omega
     clear hinv
     go_wp2_with fail
     (try simp only [Exit.inBlock,Exit.then]); refine bodyPost_ret (results_none rfl _ _ _) rfl ?_
     have hinv:=HINV.out
     rw [List.take_of_length_le (Nat.le_refl _)] at hinv
     have hcc:=HCC.out
     rw [cntV,HE0.out,if_pos (by decide)] at hcc
     rw [<-hcc,<-Nat.add_assoc]
     exact hinv.rep HBW.out ⟨_,rfl⟩
 ·obtain ⟨h50,h51⟩:=not_or.1 hcall
  have hd50:(tk==50)=false:=beq_false_of_ne h50
  have hd51:(tk==51)=false:=beq_false_of_ne h51
  go_wp2_with fail
  go_loopw [55] (fun i wr=>∃ (j:Nat) (pv':Value),j<=ks.length/\i=.int .i64 j/\VsI Rd n0 fb Wb pw (N+one1 E0+cntK p.prs tk ts 0 (ks.take j) vs) wr pv') (fun i _=>ks.length-(intOf i).toNat)
  case atStart=>exact ⟨0,_,Nat.zero_le _,rfl,by simpa [cntK] using HI3.out⟩
  case round =>
   obtain ⟨j,pv',hj,rfl,hinv⟩:=hrel
   have HINV:=zh hinv
   clear HI3
   by_cases hlt:j<ks.length
   ·obtain ⟨-,-,-,-,hrk⟩:=HD.out wr hinv.chg
    obtain ⟨a,u,A4,c4,rfl,hsa,Hu,⟨q0,q1,q2,q3⟩,hnu⟩:=hrk.nd hlt
    have HNU:=zh hnu
    clear hinv hrk hnu hsa
    go_upto_region 11 with fail
    have hbk:Below wr.heap.size wr (wr.alloc (.cells #[.int .u8 u.k,.int .i64 u.n,.string u.s,.slice A4 u.ks.length c4] 29)):=bl_al (Below.refl _ _) _
    have hbU:=heap_alloc_new wr (.cells #[.int .u8 u.k,.int .i64 u.n,.string u.s,.slice A4 u.ks.length c4] 29)
    obtain ⟨wk,hwk⟩:∃ wk,wr.alloc (.cells #[.int .u8 u.k,.int .i64 u.n,.string u.s,.slice A4 u.ks.length c4] 29)=wk:=⟨_,rfl⟩
    rw [hwk] at hbk hbU ⊢
    have HZK:=zh (show wk.heap.size=wr.heap.size+1 by rw [<-hwk]; simp)
    have HBK:=zh hbk
    have HBU:=zh hbU
    clear hwk hbk hbU
    have HCK:=zh (show ∀ w':World,Below wk.heap.size wk w'->(fun w':World=>((w'.cell? ⟨W.heap.size,0,none⟩=some (.slice A1 L1 c1)/\w'.cell? ⟨W.heap.size,1,none⟩=some (.slice A2 L2 c2)/\w'.cell? ⟨W.heap.size,2,none⟩=some (.int .u8 k)/\w'.cell? ⟨W.heap.size,3,none⟩=some (.int .i64 n)/\w'.cell? ⟨W.heap.size,4,none⟩=some (.string s)/\w'.cell? ⟨W.heap.size,5,none⟩=some (.slice A3 l3 c3))/\(w'.cell? ⟨W.heap.size+1,0,none⟩=some (.int .u8 tk)/\w'.cell? ⟨W.heap.size+1,1,none⟩=some (.int .i64 tn)/\w'.cell? ⟨W.heap.size+1,2,none⟩=some (.string ts)/\w'.cell? ⟨W.heap.size+1,3,none⟩=some (.slice (some a) ks.length tc)))/\(w'.cell? ⟨wr.heap.size,0,none⟩=some (.int .u8 u.k)/\w'.cell? ⟨wr.heap.size,1,none⟩=some (.int .i64 u.n)/\w'.cell? ⟨wr.heap.size,2,none⟩=some (.string u.s)/\w'.cell? ⟨wr.heap.size,3,none⟩=some (.slice A4 u.ks.length c4))) w'/\(fun _:World=>True) w' from fun w' h=>⟨⟨HCB.out w' (HINV.out.chg.trans (Chg.of_below (bl_tt HBK.out h))),box4 ((h.block _ (by have:=HZK.out; omega)).trans HBU.out)⟩,trivial⟩)
    have hdr:=(Below.refl wk.heap.size wk).drew
    have hSS:=HCK.out _ hdr
    refine wp_region_noPanic ?_
    refine wp_region_G (fun w':World=>((w'.cell? ⟨W.heap.size,0,none⟩=some (.slice A1 L1 c1)/\w'.cell? ⟨W.heap.size,1,none⟩=some (.slice A2 L2 c2)/\w'.cell? ⟨W.heap.size,2,none⟩=some (.int .u8 k)/\w'.cell? ⟨W.heap.size,3,none⟩=some (.int .i64 n)/\w'.cell? ⟨W.heap.size,4,none⟩=some (.string s)/\w'.cell? ⟨W.heap.size,5,none⟩=some (.slice A3 l3 c3))/\(w'.cell? ⟨W.heap.size+1,0,none⟩=some (.int .u8 tk)/\w'.cell? ⟨W.heap.size+1,1,none⟩=some (.int .i64 tn)/\w'.cell? ⟨W.heap.size+1,2,none⟩=some (.string ts)/\w'.cell? ⟨W.heap.size+1,3,none⟩=some (.slice (some a) ks.length tc)))/\(w'.cell? ⟨wr.heap.size,0,none⟩=some (.int .u8 u.k)/\w'.cell? ⟨wr.heap.size,1,none⟩=some (.int .i64 u.n)/\w'.cell? ⟨wr.heap.size,2,none⟩=some (.string u.s)/\w'.cell? ⟨wr.heap.size,3,none⟩=some (.slice A4 u.ks.length c4))) (fun _:World=>True) 40 (by kernel_rfl) ?_
    refine zT 0 hSS ?_
    (try simp only [Act.put,zP])
    refine zT 1 hSS ?_
    (try simp only [Act.put,zP])
    refine zT 2 hSS ?_
    (try simp only [Act.put,zP])
    refine zT 3 hSS ?_
    (try simp only [Act.put,zP])
    refine zT 5 hSS ?_
    (try simp only [Act.put,zP])
    refine zT 6 hSS ?_
    (try simp only [Act.put,zP])
    refine zT 7 hSS ?_
    (try simp only [Act.put,zP])
    refine zT 9 hSS ?_
    (try simp only [Act.put,zP])
    refine wpG_one (i:=4) (by kernel_rfl) rfl (fun K hK=>?_)
    refine step_callL (by rfl) (.func 138) [.tmp 62,.tmp 63] _ (by rfl) 138 _ fnChild (by rfl) _ (by rfl) _ (newIV_of (child_any q Aq cq (j:Int) ⟨by omega,by omega⟩ _ _ (HD.out _ (HINV.out.chg.trans (Chg.of_below (bl_tt HBK.out hdr)))).2.2.2.1 HQC.out (by omega))) ?_
    rintro vq w2 ⟨Ac,cc,rfl,hrc,hcc,bw2⟩
    have b2:=bl_tt hdr bw2
    have hSS2:=HCK.out _ b2
    refine hK.out _ _ hSS2 ?_
    clear hK K hSS
    (try simp only [Act.put,zP])
    refine wpG_one (i:=8) (by kernel_rfl) rfl (fun K hK=>?_)
    refine step_callL (by rfl) (.func 140) [.tmp 65,.tmp 66,.tmp 67] _ (by rfl) 140 _ fnInner (by rfl) _ (by rfl) _ (shRowV_of (inner_any (.nd tk tn ts ks) j (by omega) vs A c _ _ _ _ (HD.out _ (HINV.out.chg.trans (Chg.of_below (bl_tt HBK.out b2)))).2.1 (HD.out _ (HINV.out.chg.trans (Chg.of_below (bl_tt HBK.out b2)))).2.2.1 HLC.out (by omega))) ?_
    simp only [T.k_nd,T.s_nd,T.ks_nd]
    rintro vq w3 ⟨Av,cv,rfl,hrv,hcv,bw3⟩
    have b3:=bl_tt b2 bw3
    have hSS3:=HCK.out _ b3
    refine hK.out _ _ hSS3 ?_
    clear hK K hSS2
    (try simp only [Act.put,zP])
    refine wpG_one (i:=10) (by kernel_rfl) rfl (fun K hK=>?_)
    have hcl:cntK p.prs tk ts 0 (ks.take j) vs<=sizes (ks.take j):=cntK_le _ _ _ _ (fun t _ vs=>cntV_le _ t vs) _ _
    have hsz:=sizes_take_le ks (j+1)
    rw [sizes_take ks j hlt,Hu.out] at hsz
    have hmem:u∈ks:=by rw [<-Hu.out]; exact List.getElem_mem hlt
    have hdu:=dep_le hmem
    have hil:=innerV_len tk ts j vs
    have hzb:=HINV.out.chg.size
    have hz0:=HZB.out
    have hzk:=HZK.out
    have hfl:=HINV.out.fs.lt
    have hF:=HINV.out.fs.later (bl_tt HBK.out b3)
    have hR:=HREP.out.keep _ _ _ _ HINV.out.rd HINV.out.fs (Chg.of_below (bl_tt HBK.out b3))
    have hzz:=hdr.size
    have hzw:=bw2.size
    have hzw2:=b2.size
    refine step_callL (by rfl) (.func 95) [.tmp 60,.tmp 61,.tmp 64,.tmp 68,.tmp 69] _ (by rfl) 95 _ fnVisit (by rfl) _ (by rfl) _ (repV_of (HIH.out u hmem (fun b=>(S b/\b<W.heap.size)\/wk.heap.size<=b) (innerV tk ts j vs) Av cv (q++[(j:Int)]) Ac cc (N+one1 E0+cntK p.prs tk ts 0 (ks.take j) vs) pv' w3 _ _ hR hF ((HD.out _ (HINV.out.chg.trans (Chg.of_below (bl_tt HBK.out b3)))).1.keep (fun b hb _=>.inl hb) (fun _ _ _=>rfl)) ((HNU.out.later (bl_tt HBK.out b3)).keep (fun b hb _=>.inl hb) (fun _ _ _=>rfl)) (hrv.mono fun b hb=>by rcases hb with hb|hb; exact .inl hb; exact .inr (by omega)) hcv ((hrc.later bw3).mono fun b hb=>.inr (by have:_<=b:=hb; omega)) hcc (fun b hb hlt' hh=>?_) (by simp; omega) (by omega) (by omega))) ?_
    ·rcases hb with ⟨hb,hbl⟩|hb
     ·refine HFAR.out b hb hbl (hh.imp id fun h=>?_)
      rcases HINV.out.own b h with h1|h1
      ·exact h1
      ·omega
     ·rcases hh with rfl|hh
      ·omega
      ·have:=hfl.2 b hh; omega
    rintro vq W6 hp
    obtain ⟨pv6,hi6⟩:=HINV.out.step HREP.out (bl_tt HBK.out b3) hp
    have hi7:VsI Rd n0 fb Wb pw (N+one1 E0+cntK p.prs tk ts 0 (ks.take (j+1)) vs) W6 pv6:=by rw [cntK_take p.prs tk ts vs hlt,Hu.out]; simpa [Nat.add_assoc] using hi6
    have hSS6:(fun w':World=>((w'.cell? ⟨W.heap.size,0,none⟩=some (.slice A1 L1 c1)/\w'.cell? ⟨W.heap.size,1,none⟩=some (.slice A2 L2 c2)/\w'.cell? ⟨W.heap.size,2,none⟩=some (.int .u8 k)/\w'.cell? ⟨W.heap.size,3,none⟩=some (.int .i64 n)/\w'.cell? ⟨W.heap.size,4,none⟩=some (.string s)/\w'.cell? ⟨W.heap.size,5,none⟩=some (.slice A3 l3 c3))/\(w'.cell? ⟨W.heap.size+1,0,none⟩=some (.int .u8 tk)/\w'.cell? ⟨W.heap.size+1,1,none⟩=some (.int .i64 tn)/\w'.cell? ⟨W.heap.size+1,2,none⟩=some (.string ts)/\w'.cell? ⟨W.heap.size+1,3,none⟩=some (.slice (some a) ks.length tc)))/\(w'.cell? ⟨wr.heap.size,0,none⟩=some (.int .u8 u.k)/\w'.cell? ⟨wr.heap.size,1,none⟩=some (.int .i64 u.n)/\w'.cell? ⟨wr.heap.size,2,none⟩=some (.string u.s)/\w'.cell? ⟨wr.heap.size,3,none⟩=some (.slice A4 u.ks.length c4))) W6/\(fun _:World=>True) W6:=⟨⟨HCB.out _ hi7.chg,box4 ((hp.2.elim fun _ h=>h.2.2.block _ (by have:=(bl_tt HBK.out b3).size; have:=b3.size; have:=HZK.out; omega) (fun hh=>by have hl:=HINV.out.fs.lt; rcases hh with hh|hh; (have:=hl.1; omega); (have:=(hl.2 _ hh).2; omega))).trans ((b3.block _ (by have:=HZK.out; omega)).trans HBU.out))⟩,trivial⟩
    refine hK.out _ _ hSS6 ?_
    clear hK K hSS3
    (try simp only [Act.put,zP])
    refine wpG_done (by kernel_rfl) ?_
    refine NoPanic.normal ?_
    have HI7:=zh hi7
    clear hi7 hi6 hp hSS6 hF hR
    go_wp2_with fail
    go_roundw
    case rel=>exact ⟨j+1,_,by omega,by go_num,HI7.out⟩
    case measure=>simp [intOf]; omega
   ·obtain rfl:j=ks.length:=by omega
    clear hinv
    go_wp2_with fail
    go_end0
    have hinv:=HINV.out
    rw [List.take_of_length_le (Nat.le_refl _)] at hinv
    have hcc:=HCC.out
    rw [cntV,HE0.out,if_neg hcall] at hcc
    rw [<-hcc,<-Nat.add_assoc]
    exact hinv.rep HBW.out ⟨_,rfl⟩
end Go.Proofs.YtckhofdinldhpaaGreat
