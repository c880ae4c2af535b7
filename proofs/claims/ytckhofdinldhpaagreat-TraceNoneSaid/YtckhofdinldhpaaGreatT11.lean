/-
  Texts of the proof, put together without their remarks: Tlo, Tst, Tlc, Tlx, Tly, Alt, Tca, Tal, Ia.
-/
import Derived.Test.YtckhofdinldhpaaGreatT10
import Derived.Tactics
import Derived.Tactics2
import Derived.Defers
set_option linter.unusedSimpArgs false
set_option linter.unusedVariables false
set_option maxHeartbeats 8000000
set_option maxRecDepth 100000
namespace Go.Proofs.YtckhofdinldhpaaGreat
open Go Go.RowKit
def LopN (G:List PR->T->Prop) (back:Bool) (t:T):Nat->ST->List SS->ST->Prop
 | 0,_,_,_=>False
 | m+1,S,L,S'=>(exprE S.look (fstT back t)).2=0/\∃ S1 L1,BlkC G back (blkL back (kid t 1)) S L1 S1/\(exprE S1.look (lstT back t)).2=0 /\
   (((exprE S1.look (lstT back t)).1≠0/\L=S.state::L1++[S1.state]/\S'=S1)\/((exprE S1.look (lstT back t)).1=0/\∃ S2 L2 L3,BlkC G back (blkL back (kid t 2)) S1 L2 S2/\LopN G back t m S2 L3 S'/\L=S.state::L1++S1.state::L2++L3))
def evl (tb:Nat) (W:World):Nat:=match W.cell? ⟨tb,10,none⟩ with
 | some (.slice _ n _)=>n
 | _=>0
theorem evl_eq {C:TC} {W:World} {S:ST} {L:List SS} (h:TI C W S L):evl C.tb W=L.length:=by
 obtain ⟨O,v1,v2,v3,ev,h1,h2,h3,h4,⟨xs,g1,-⟩,-⟩:=h.ex
 obtain ⟨A,c,rfl,-⟩:=row_slice g1
 unfold evl
 rw [show W.cell? ⟨C.tb,10,none⟩=some (.slice A (evsE C.s0 L).length c) from zc h3 rfl]
 exact evsE_len _ _
theorem tloop_any {G:List PR->T->Prop} {C:TC} (hC:C.Ok) {W:World} {S S':ST} {L0 L:List SS} (h:TI C W S L0) (t:T) (v:Value) (back:Bool) (m:Nat)
  (hB:LopN G back t m S L S') (hln:L0.length+L.length<=900000) (hv:NV C.w Any t v) (hk:t.ks.length=4) (hG1:∀ u∈(kid t 1).ks,G C.p.prs u) (hG2:∀ u∈(kid t 2).ks,G C.p.prs u) :
  Calls Tryz.prog 150 #[.pointer (some ⟨C.tb,0,none⟩),v,.bool back] W fun e W'=>e=.returned (.int .i64 0)/\TrP C W S' (L0++L) W':=by
 obtain ⟨A,c,rfl,-,hlk,hlc,hrow⟩:=hv.open_
 have HROW:=zh hrow
 have hb0:=bl_al (Below.refl W.heap.size W) (.cells #[.int .u8 t.k,.int .i64 t.n,.string t.s,.slice A t.ks.length c] 29)
 obtain ⟨x0,x1,x2,x3⟩:=box4 (heap_alloc_new W (.cells #[.int .u8 t.k,.int .i64 t.n,.string t.s,.slice A t.ks.length c] 29))
 have HB0:=zh hb0
 have H:=zh h
 have HC:=zh hC
 have HLN:=zh hln
 have HX:=zh (heap_alloc_new W (.cells #[.int .u8 t.k,.int .i64 t.n,.string t.s,.slice A t.ks.length c] 29))
 have HEN:=zh (fun w' (hb:Below W.heap.size W w')=>tends_any t _ back C.w w' (bl_tt h.below hb) hv (by omega))
 have HKL:=zh hk
 obtain ⟨t1,ht1⟩:∃ x,fstT back t=x:=⟨_,rfl⟩
 obtain ⟨t2,ht2⟩:∃ x,lstT back t=x:=⟨_,rfl⟩
 rw [ht1,ht2] at HEN
 have HT1:=zh ht1
 have HT2:=zh ht2
 have HLO:=zh hB
 have HG1:=zh hG1
 have HG2:=zh hG2
 clear hrow hb0 h hv hk hC hlk hln hB hG1 hG2 ht1 ht2
 go_enter Tryz.func150,Tryz.ntmps150
 go_wp2_with fail
 refine (HEN.out _ HB0.out).mono ?_
 rintro e w2 ⟨v1,v2,rfl,n1,n2,b2⟩
 obtain ⟨A1,c1,rfl,-⟩:=n1.open_
 obtain ⟨A2,c2,rfl,-⟩:=n2.open_
 have HN1:=zh n1
 have HN2:=zh n2
 have b3:=bl_al (bl_al (bl_tt HB0.out b2) (.cells #[.int .u8 t1.k,.int .i64 t1.n,.string t1.s,.slice A1 t1.ks.length c1] 29)) (.cells #[.int .u8 t2.k,.int .i64 t2.n,.string t2.s,.slice A2 t2.ks.length c2] 29)
 have k0:=blk_al (blk_al (blk_bl HX.out b2) (.cells #[.int .u8 t1.k,.int .i64 t1.n,.string t1.s,.slice A1 t1.ks.length c1] 29)) (.cells #[.int .u8 t2.k,.int .i64 t2.n,.string t2.s,.slice A2 t2.ks.length c2] 29)
 have k1:=blk_al (heap_alloc_new w2 (.cells #[.int .u8 t1.k,.int .i64 t1.n,.string t1.s,.slice A1 t1.ks.length c1] 29)) (.cells #[.int .u8 t2.k,.int .i64 t2.n,.string t2.s,.slice A2 t2.ks.length c2] 29)
 have k2:=heap_alloc_new (w2.alloc (.cells #[.int .u8 t1.k,.int .i64 t1.n,.string t1.s,.slice A1 t1.ks.length c1] 29)) (.cells #[.int .u8 t2.k,.int .i64 t2.n,.string t2.s,.slice A2 t2.ks.length c2] 29)
 simp only [World.size_alloc] at k2
 obtain ⟨w3,hw3⟩:∃ x,(w2.alloc (.cells #[.int .u8 t1.k,.int .i64 t1.n,.string t1.s,.slice A1 t1.ks.length c1] 29)).alloc (.cells #[.int .u8 t2.k,.int .i64 t2.n,.string t2.s,.slice A2 t2.ks.length c2] 29)=x:=⟨_,rfl⟩
 rw [hw3] at b3 k0 k1 k2
 have hz2:=bl_tt HB0.out b2
 have hzz:=hz2.size
 obtain ⟨hC3,h3⟩:=H.out.plus HC.out b3
 have HP3:=zh (Kpt.of_below (n0:=C.n0) (kb:=C.kb) b3)
 have l0:=blk_lt k0
 have l1:=blk_lt k1
 have l2:=blk_lt k2
 obtain ⟨hi,hhi⟩:∃ x,w3.heap.size=x:=⟨_,rfl⟩
 rw [hhi] at hC3 h3 l0 l1 l2
 have HC3:=zh hC3
 have H3:=zh h3
 have K0:=zh k0
 have K2:=zh k2
 have hkl:=HKL.out
 have i2:2<t.ks.length:=by omega
 have i1:1<t.ks.length:=by omega
 have i2':(2:Int)<(t.ks.length:Int):=by omega
 have i1':(1:Int)<(t.ks.length:Int):=by omega
 obtain ⟨a,u2,Au2,cu2,rfl,-,hu2,⟨p0,p1,p2,p3⟩,hnu2⟩:=HROW.out.nd i2
 obtain ⟨a',u1,Au1,cu1,ea,-,hu1,⟨r0,r1,r2,r3⟩,hnu1⟩:=HROW.out.nd i1
 injection ea with ea
 subst ea
 have e2:kid t 2=u2:=by unfold kid; rw [List.getD_eq_getElem?_getD,List.getElem?_eq_getElem i2]; exact hu2.out
 have e1:kid t 1=u1:=by unfold kid; rw [List.getD_eq_getElem?_getD,List.getElem?_eq_getElem i1]; exact hu1.out
 have ha2:a.add (2*4)=⟨a.block,a.off+8,none⟩:=by unfold Addr.add; split<;>simp_all
 have ha1:a.add (1*4)=⟨a.block,a.off+4,none⟩:=by unfold Addr.add; split<;>simp_all
 rw [ha2] at p0 p1 p2 p3
 rw [ha1] at r0 r1 r2 r3
 have HPP:=zh (show ∀ w',Below C.w.heap.size C.w w'->(w'.cell? ⟨a.block,a.off+4,none⟩=some (.int .u8 u1.k)/\w'.cell? ⟨a.block,a.off+4+1,none⟩=some (.int .i64 u1.n)/\w'.cell? ⟨a.block,a.off+4+2,none⟩=some (.string u1.s)/\w'.cell? ⟨a.block,a.off+4+3,none⟩=some (.slice Au1 u1.ks.length cu1))/\(w'.cell? ⟨a.block,a.off+8,none⟩=some (.int .u8 u2.k)/\w'.cell? ⟨a.block,a.off+8+1,none⟩=some (.int .i64 u2.n)/\w'.cell? ⟨a.block,a.off+8+2,none⟩=some (.string u2.s)/\w'.cell? ⟨a.block,a.off+8+3,none⟩=some (.slice Au2 u2.ks.length cu2)) from fun w' hb=>⟨⟨zb hb r0,zb hb r1,zb hb r2,zb hb r3⟩,⟨zb hb p0,zb hb p1,zb hb p2,zb hb p3⟩⟩)
 have HNU1:=zh hnu1
 have HNU2:=zh hnu2
 have HKU1:=zh e1
 have HKU2:=zh e2
 have HGU1:=zh (show ∀ x∈u1.ks,G C.p.prs x by rw [<-e1]; exact HG1.out)
 have HGU2:=zh (show ∀ x∈u2.ks,G C.p.prs x by rw [<-e2]; exact HG2.out)
 have HK1:=zh k1
 clear hnu1 hnu2 e1 e2 p0 p1 p2 p3 r0 r1 r2 r3 ha1 ha2 hu1 hu2 hkl i1 i2 HG1 HG2 HROW
 clear n1 n2 b2 b3 k0 k1 k2 hz2 hC3 h3 x0 x1 x2 x3 HX HB0 HEN
 go_upto_region 2 with fail
 clear hw3
 go_loopw [] (fun wr=>∃ (m:Nat) (S1:ST) (L1 L2:List SS),Hid (TI (C.plus W.heap.size hi) wr S1 (L0++L1))/\Hid (Kpt C.n0 (C.plus W.heap.size hi).kb w3 wr)/\Hid (LopN G back t m S1 L2 S')/\Hid (L=L1++L2)) (fun wr=>1000000-evl C.tb wr)
 case atStart=>exact ⟨m,S,[],L,by simpa using H3,zh (Kpt.refl _ _ _),HLO,zh rfl⟩
 case round =>
  obtain ⟨wo,rfl⟩:∃ x,x=wr:=⟨_,rfl⟩
  obtain ⟨m',S1,L1,L2,HR,HK,HLP,HLE⟩:=hrel
  cases m' with
  | zero=>exact absurd HLP.out id
  | succ m' =>
   obtain ⟨g1,Sa,La,g2,g3,g4⟩:=HLP.out
   rw [HT1.out] at g1
   rw [HT2.out] at g3
   rw [HKU1.out] at g2
   obtain ⟨Lx,hlx⟩:∃ Lx,L2=S1.state::La++[Sa.state]++Lx:=by
    rcases g4 with ⟨-,e,-⟩|⟨-,Sb,Lb,Lc,-,-,e⟩
    ·exact ⟨[],by rw [e,List.append_nil]⟩
    ·exact ⟨Lb++Lc,by rw [e]; simp⟩
   have HLE2:=zh (show L=L1++(S1.state::La++[Sa.state]++Lx) by rw [HLE.out,hlx])
   have j0:=HK.out.blk (.inr (.inr ⟨by omega,l0⟩)) K0.out
   have j1:=HK.out.blk (.inr (.inr ⟨by omega,l1⟩)) HK1.out
   have j2:=HK.out.blk (.inr (.inr ⟨by omega,l2⟩)) K2.out
   have HJ0:=zh j0
   have HJ2:=zh j2
   obtain ⟨y0,y1,y2,y3⟩:=box4 j1
   have HTT:=zh (test_any HC3.out HR.out.ex (HR.out.sm (by have:=HLN.out; rw [HLE2.out] at this; simp only [List.length_append,List.length_cons,List.length_nil] at this ⊢; omega)) (by have:=HLN.out; rw [HLE2.out] at this; simp only [List.length_append,List.length_cons,List.length_nil] at this ⊢; omega) t1 _ HN1.out g1)
   have HG2b:=zh g2
   have HG3b:=zh g3
   have HG4b:=zh g4
   clear g1 g2 g3 g4 j0 j1 j2 hlx
   go_wp2_with fail
   refine HTT.out.mono ?_
   rintro e w4 ⟨rfl,hk4,hb4,hr4⟩
   have HK4:=zh (HK.out.trans hk4)
   have HT4:=zh (show TI (C.plus W.heap.size hi) w4 S1 (L0++L1++[S1.state]) from ⟨hr4,HR.out.fb.mono (by simp)⟩)
   have hj0:=hk4.blk (.inr (.inr ⟨Nat.le_refl _,l0⟩)) HJ0.out
   have z3:w4.cell? ⟨W.heap.size,3,none⟩=some (.slice (some a) t.ks.length c):=zc hj0 rfl
   have HJ0':=zh hj0
   have HJ2':=zh (hk4.blk (.inr (.inr ⟨by omega,l2⟩)) HJ2.out)
   obtain ⟨⟨q0,q1,q2,q3⟩,-⟩:=HPP.out w4 hb4
   have HBK:=zh (tblock_any HC3.out HT4.out u1 _ back HG2b.out (by have:=HLN.out; rw [HLE2.out] at this; simp only [List.length_append,List.length_cons,List.length_nil] at this ⊢; omega) HNU1.out HGU1.out)
   clear hk4 hb4 hr4 y0 y1 y2 y3 HTT hj0 HJ0 HJ2
   go_wp2_with fail
   refine HBK.out.mono ?_
   rintro e w5 ⟨rfl,hk5,hb5,hr5⟩
   have HK5:=zh (HK4.out.trans hk5)
   have HR5:=zh hr5
   have j2:=hk5.blk (.inr (.inr ⟨by omega,l2⟩)) HJ2'.out
   have HJ0:=zh (hk5.blk (.inr (.inr ⟨Nat.le_refl _,l0⟩)) HJ0'.out)
   have HTT:=zh (test_any HC3.out hr5.ex (hr5.sm (by have:=HLN.out; rw [HLE2.out] at this; simp only [List.length_append,List.length_cons,List.length_nil] at this ⊢; omega)) (by have:=HLN.out; rw [HLE2.out] at this; simp only [List.length_append,List.length_cons,List.length_nil] at this ⊢; omega) t2 _ HN2.out HG3b.out)
   obtain ⟨y0,y1,y2,y3⟩:=box4 j2
   obtain ⟨bb,hbb⟩:∃ b,decide ((exprE Sa.look t2).1≠0)=b:=⟨_,rfl⟩
   rw [hbb] at HTT
   clear hk5 hb5 hr5 q0 q1 q2 q3 z3 HBK j2 HJ0' HJ2'
   go_wp2_with fail
   refine HTT.out.mono ?_
   rintro e w6 ⟨rfl,hk6,hb6,hr6⟩
   have HK6:=zh (HK5.out.trans hk6)
   have HT6:=zh (show TI (C.plus W.heap.size hi) w6 Sa (L0++L1++[S1.state]++La++[Sa.state]) from ⟨hr6,HR5.out.fb.mono (by simp)⟩)
   have HJ0':=zh (hk6.blk (.inr (.inr ⟨Nat.le_refl _,l0⟩)) HJ0.out)
   have HB6:=zh (show Below C.w.heap.size C.w w6 from hb6)
   clear hk6 hb6 hr6 y0 y1 y2 y3 HTT HJ0
   cases bb
   ·have hx:¬ (exprE Sa.look t2).1≠0:=of_decide_eq_false hbb
    have hg:=HG4b.out
    rw [HT2.out] at hg
    rcases hg with ⟨hg,-⟩|⟨-,Sb,Lb,Lc,hg1,hg2,hg3⟩
    ·exact absurd hg hx
    ·rw [HKU2.out] at hg1
     have HLE3:=zh (show L=L1++(S1.state::La++Sa.state::Lb++Lc) by rw [HLE.out,hg3])
     have HBK:=zh (tblock_any HC3.out HT6.out u2 _ back hg1 (by have:=HLN.out; rw [HLE3.out] at this; simp only [List.length_append,List.length_cons,List.length_nil] at this ⊢; omega) HNU2.out HGU2.out)
     have HGL:=zh hg2
     have z3:w6.cell? ⟨W.heap.size,3,none⟩=some (.slice (some a) t.ks.length c):=zc HJ0'.out rfl
     obtain ⟨-,⟨q0,q1,q2,q3⟩⟩:=HPP.out w6 HB6.out
     clear hg1 hg2 hg3 hx hbb
     go_wp2_with fail
     refine HBK.out.mono ?_
     rintro e w7 ⟨rfl,hk7,hb7,hr7⟩
     have HK7:=zh (HK6.out.trans hk7)
     have HR7:=zh (show TI (C.plus W.heap.size hi) w7 Sb (L0++(L1++(S1.state::La++Sa.state::Lb))) by simpa using hr7)
     have hmm:1000000-evl C.tb w7<1000000-evl C.tb wo:=by
      have f1:evl C.tb w7=(L0++(L1++(S1.state::La++Sa.state::Lb))).length:=evl_eq (C:=C.plus W.heap.size hi) HR7.out
      have f2:evl C.tb wo=(L0++L1).length:=evl_eq (C:=C.plus W.heap.size hi) HR.out
      rw [f1,f2]
      have:=HLN.out
      rw [HLE3.out] at this
      simp only [List.length_append,List.length_cons] at this ⊢
      omega
     have HMM:=zh hmm
     clear hk7 hb7 hr7 q0 q1 q2 q3 z3 HBK hmm
     go_wp2_with fail
     go_roundw
     case rel=>exact ⟨m',Sb,L1++(S1.state::La++Sa.state::Lb),Lc,HR7,HK7,HGL,zh (by rw [HLE3.out]; simp)⟩
     case measure=>exact HMM.out
   ·have hx:(exprE Sa.look t2).1≠0:=of_decide_eq_true hbb
    have hg:=HG4b.out
    rw [HT2.out] at hg
    rcases hg with ⟨-,hg,rfl⟩|⟨hg,-⟩
    ·have HLE3:=zh (show L=L1++(S1.state::La++[S'.state]) by rw [HLE.out,hg])
     have HRF:=zh (show TI C w6 S' (L0++L) by rw [HLE3.out]; have:=HT6.out.less; simpa using this)
     have HKF:=zh (show Kpt C.n0 C.kb W w6 from HP3.out.trans ⟨HK6.out.size,fun b hb hk=>HK6.out.kept b hb (hk.elim .inl fun h=>.inr (.inl h))⟩)
     clear hg hx hbb
     go_wp2_with fail
     go_ret
     exact ⟨rfl,HKF.out,HRF.out.below,HRF.out⟩
    ·exact absurd hg hx
theorem fnDone:IsFn Tryz.prog 153 Tryz.f153:=⟨Tryz.func153,by kernel_rfl,by kernel_rfl⟩
theorem fnDoT:IsFn Tryz.prog 20 Tryz.f20:=⟨Tryz.func20,by kernel_rfl,by kernel_rfl⟩
theorem fnUndoT:IsFn Tryz.prog 19 Tryz.f19:=⟨Tryz.func19,by kernel_rfl,by kernel_rfl⟩
theorem st_sm {S:ST} {j:Nat} (hw:S.WF) (hf:FB j S) (hj:j<=900000):S.state.Sm:=by
 obtain ⟨kd,h1,_,_⟩:=hw.ex
 obtain ⟨_,_,h2⟩:=state_I hw
 have:=hw.tin.1
 have:=hw.tout.1
 have:=hf.1
 have:=h1.len
 refine ⟨?_,fun l hl=>by have:=h2 l hl; omega,by show S.tin.length<=_; omega,by show S.tout.length<=_; omega⟩
 simp only [ST.state,List.length_map,List.length_take]
 omega
theorem TX.call {C:TC} {W:World} {S:ST} {L:List SS} {R:Int×ST} {f:FuncId} {args:Array Value} (h:TX C W S L) (hc:∀ kb,KS C.w C.n0 C.sb kb W S->Calls Tryz.prog f args W (KP C.w C.n0 C.sb kb W R)) :
  Calls Tryz.prog f args W fun e W'=>e=.returned (.int .i64 R.1)/\TX C W' R.2 L/\Kpt C.n0 C.kb W W':=by
 obtain ⟨O,v1,v2,v3,ev,h1,h2,h3,h4,h5,h6⟩:=h
 refine (hc _ h1).mono ?_
 rintro e W' ⟨e1,e2,e3⟩
 have hkp:∀ b,O b->b<W.heap.size->W'.heap[b]?=W.heap[b]?:=fun b hb hlt=>e3.kept b hlt (.inr (.inr (.inr hb)))
 refine ⟨e1,⟨O,v1,v2,v3,ev,e2,h2,e3.blk (.inr (.inr (.inl rfl))) h3,h4.keep (fun b hb _=>hb) (fun b hb hlt=>hkp b hb.1 hlt),?_,h6⟩,⟨e3.size,fun b hb hh=>e3.kept b hb (hh.elim .inl fun h=>.inr (.inl h))⟩⟩
 obtain ⟨xs,g1,g2,g3⟩:=h5
 refine ⟨xs,own_kept g1 fun b hb=>hkp b (g2 b hb) (g1.lt b hb).2,g2,fun i hi=>?_⟩
 obtain ⟨A,c,f1,f2,f3⟩:=g3 i hi
 exact ⟨A,c,f1,f2,f3.keep (fun b hb _=>hb) fun b hb hlt=>hkp b hb.1 hlt⟩
theorem tbas_any {C:TC} (hC:C.Ok) {W:World} {S:ST} {L0:List SS} (h:TI C W S L0) (t:T) (v:Value) (back:Bool) (hv:NV C.w Any t v) (hk:t.k≠52/\t.k≠53/\t.k≠54/\t.k≠55/\t.k≠50/\t.k≠51)
  (h0:(if back=true then undoE S t else doE S t).1=0) (hln:L0.length+1<=900000) :
  Calls Tryz.prog 115 #[.pointer (some ⟨C.tb,0,none⟩),v,.bool back] W fun e W'=>e=.returned (.int .i64 0)/\TrP C W (if back=true then undoE S t else doE S t).2 (L0++[(if back=true then undoE S t else doE S t).2.state]) W':=by
 have HV:=zh hv
 have HLN:=zh hln
 obtain ⟨A,c,rfl,-,hlk,hlc,-⟩:=hv.open_
 have e0:(t.k==52)=false:=by simpa using hk.1
 have e1:(t.k==53)=false:=by simpa using hk.2.1
 have e2:(t.k==54)=false:=by simpa using hk.2.2.1
 have e3:(t.k==55)=false:=by simpa using hk.2.2.2.1
 have e4:(t.k==50)=false:=by simpa using hk.2.2.2.2.1
 have e5:(t.k==51)=false:=by simpa using hk.2.2.2.2.2
 have hb0:=bl_al (Below.refl W.heap.size W) (.cells #[.int .u8 t.k,.int .i64 t.n,.string t.s,.slice A t.ks.length c] 29)
 obtain ⟨hC1,h1⟩:=h.plus hC hb0
 have k0:=heap_alloc_new W (.cells #[.int .u8 t.k,.int .i64 t.n,.string t.s,.slice A t.ks.length c] 29)
 obtain ⟨x0,x1,x2,x3⟩:=box4 k0
 have HP3:=zh (Kpt.of_below (n0:=C.n0) (kb:=C.kb) hb0)
 have HB1:=zh (bl_tt h.below hb0)
 obtain ⟨w3,hw3⟩:∃ x,W.alloc (.cells #[.int .u8 t.k,.int .i64 t.n,.string t.s,.slice A t.ks.length c] 29)=x:=⟨_,rfl⟩
 rw [hw3] at hC1 h1 k0 x0 x1 x2 x3 HP3 HB1
 have l0:=blk_lt k0
 have K0:=zh k0
 obtain ⟨hi,hhi⟩:∃ x,w3.heap.size=x:=⟨_,rfl⟩
 rw [hhi] at hC1 h1 l0
 have HC1:=zh hC1
 have H1:=zh h1
 clear hv hb0 hC1 h1 k0 h hk hC
 go_enter Tryz.func115,Tryz.ntmps115
 cases back
 ·have h0:(doE S t).1=0:=h0
  go_upto_region 14 with fail
  have hSS:(fun w':World=>w'.cell? ⟨C.tb,6,none⟩=some (.pointer (some ⟨C.sb,0,none⟩))/\w'.cell? ⟨W.heap.size,0,none⟩=some (.int .u8 t.k)/\w'.cell? ⟨W.heap.size,1,none⟩=some (.int .i64 t.n)/\w'.cell? ⟨W.heap.size,2,none⟩=some (.string t.s)/\w'.cell? ⟨W.heap.size,3,none⟩=some (.slice A t.ks.length c)) w3.drew/\(fun _:World=>True) w3.drew:=⟨⟨(H1.out.ex.later (Below.refl _ _).drew).cells.1,zc (blk_bl K0.out (Below.refl _ _).drew) rfl,zc (blk_bl K0.out (Below.refl _ _).drew) rfl,zc (blk_bl K0.out (Below.refl _ _).drew) rfl,zc (blk_bl K0.out (Below.refl _ _).drew) rfl⟩,trivial⟩
  refine wp_region_noPanic ?_
  refine wp_region_G (fun w':World=>w'.cell? ⟨C.tb,6,none⟩=some (.pointer (some ⟨C.sb,0,none⟩))/\w'.cell? ⟨W.heap.size,0,none⟩=some (.int .u8 t.k)/\w'.cell? ⟨W.heap.size,1,none⟩=some (.int .i64 t.n)/\w'.cell? ⟨W.heap.size,2,none⟩=some (.string t.s)/\w'.cell? ⟨W.heap.size,3,none⟩=some (.slice A t.ks.length c)) (fun _:World=>True) 7 (by kernel_rfl) ?_
  refine zT 0 hSS ?_
  (try simp only [Act.put,zP])
  refine zT 1 hSS ?_
  (try simp only [Act.put,zP])
  refine zT 2 hSS ?_
  (try simp only [Act.put,zP])
  refine zT 3 hSS ?_
  (try simp only [Act.put,zP])
  refine zT 4 hSS ?_
  (try simp only [Act.put,zP])
  refine zT 5 hSS ?_
  (try simp only [Act.put,zP])
  have hbd:Below w3.heap.size w3 w3.drew:=(Below.refl _ _).drew
  have had:Calls Tryz.prog 20 [.pointer (some ⟨C.sb,0,none⟩),.agg #[.int .u8 t.k,.int .i64 t.n,.string t.s,.slice A t.ks.length c]].toArray w3.drew fun e w'=>∃ v,e=.returned v/\(v=.int .i64 0/\TX (C.plus W.heap.size hi) w' (doE S t).2 L0/\Kpt C.n0 (C.plus W.heap.size hi).kb w3 w') :=
   (TX.call (R:=(doE S t)) (H1.out.ex.later hbd) fun kb hkb=>hkb.do_ t _ (HV.out.later (bl_tt HB1.out (Below.refl _ _).drew))).mono fun e w' ⟨g1,g2,g3⟩=>⟨_,g1,by rw [h0],g2,(Kpt.of_below hbd).trans g3⟩
  refine wpG_one (i:=6) (by kernel_rfl) rfl (fun K hK=>?_)
  refine step_callG (by rfl) (.func 20) [.tmp 52,.tmp 53] _ (by rfl) 20 _ fnDoT (by rfl) _ (by rfl) _ had ?_
  rintro v6x w6x ⟨rfl,hx6,hk6⟩
  have kk0:=hk6.blk (.inr (.inr ⟨Nat.le_refl _,l0⟩)) K0.out
  have hS6:(fun w':World=>w'.cell? ⟨C.tb,6,none⟩=some (.pointer (some ⟨C.sb,0,none⟩))/\w'.cell? ⟨W.heap.size,0,none⟩=some (.int .u8 t.k)/\w'.cell? ⟨W.heap.size,1,none⟩=some (.int .i64 t.n)/\w'.cell? ⟨W.heap.size,2,none⟩=some (.string t.s)/\w'.cell? ⟨W.heap.size,3,none⟩=some (.slice A t.ks.length c)) w6x:=⟨hx6.cells.1,zc kk0 rfl,zc kk0 rfl,zc kk0 rfl,zc kk0 rfl⟩
  refine hK.out _ _ ⟨hS6,trivial⟩ ?_
  have HX6:=zh hx6
  have HKP6:=zh hk6
  have HKK0:=zh kk0
  clear hK K had hSS hx6 hk6 hS6 hbd kk0
  (try simp only [Act.put,zP])
  have had:Calls Tryz.prog 153 [.pointer (some ⟨C.tb,0,none⟩),.int .i64 0].toArray w6x fun e w'=>∃ v,e=.returned v/\(v=.int .i64 0/\Kpt C.n0 (C.plus W.heap.size hi).kb w6x w'/\Below C.w.heap.size C.w w'/\TX (C.plus W.heap.size hi) w' (doE S t).2 (L0++[(doE S t).2.state])) :=
   (done_any HC1.out HX6.out (st_sm HX6.out.ks.wf (by have:=H1.out.fb.do_ t; simpa using this) (by have:=HLN.out; (try simp only [List.length_append,List.length_cons,List.length_nil] at this ⊢); omega)) (by have:=HLN.out; (try simp only [List.length_append,List.length_cons,List.length_nil] at this ⊢); omega)).mono fun e w' ⟨g1,g2,g3,g4⟩=>⟨_,g1,rfl,g2,g3,g4⟩
  refine wpG_past (i:=7) (by kernel_rfl) rfl (by kernel_rfl) (fun K hK=>?_)
  refine step_callG (by rfl) (.func 153) [.tmp 48,.tmp 54] _ (by rfl) 153 _ fnDone (by rfl) _ (by rfl) _ had ?_
  rintro v7x w7x ⟨rfl,hk7,hb7,hx7⟩
  have kk0:=hk7.blk (.inr (.inr ⟨Nat.le_refl _,l0⟩)) HKK0.out
  have hS7:(fun w':World=>w'.cell? ⟨C.tb,6,none⟩=some (.pointer (some ⟨C.sb,0,none⟩))/\w'.cell? ⟨W.heap.size,0,none⟩=some (.int .u8 t.k)/\w'.cell? ⟨W.heap.size,1,none⟩=some (.int .i64 t.n)/\w'.cell? ⟨W.heap.size,2,none⟩=some (.string t.s)/\w'.cell? ⟨W.heap.size,3,none⟩=some (.slice A t.ks.length c)) w7x:=⟨hx7.cells.1,zc kk0 rfl,zc kk0 rfl,zc kk0 rfl,zc kk0 rfl⟩
  refine hK.out _ _ hS7 ?_
  clear hK K had
  (try simp only [Act.put,zP])
  refine wpG_past (i:=8) (by kernel_rfl) rfl (by kernel_rfl) (fun K hK=>?_)
  (try simp only [zA,zB,zC])
  go_simp
  refine hK.out _ _ hS7 ?_
  clear hK K
  (try simp only [Act.put,zP])
  refine wpG_done (by kernel_rfl) ?_
  refine NoPanic.normal ?_
  have HK7x:=zh (HKP6.out.trans hk7)
  have HX7x:=zh hx7
  have HB7x:=zh hb7
  have HQ0x:=zh kk0
  clear hk7 hx7 hb7 hS7 HKP6 HX6 kk0 HKK0
  go_wp2_with fail
  go_ret
  have HF:=zh (TI.less (lo:=W.heap.size) (hi:=hi) (C:=C) ⟨HX7x.out,by have:=H1.out.fb.do_ t; simpa using this⟩)
  exact ⟨rfl,HP3.out.trans ⟨HK7x.out.size,fun b hb hk=>HK7x.out.kept b hb (hk.elim .inl fun h=>.inr (.inl h))⟩,HB7x.out,HF.out⟩
 ·have h0:(undoE S t).1=0:=h0
  go_upto_region 13 with fail
  have hSS:(fun w':World=>w'.cell? ⟨C.tb,6,none⟩=some (.pointer (some ⟨C.sb,0,none⟩))/\w'.cell? ⟨W.heap.size,0,none⟩=some (.int .u8 t.k)/\w'.cell? ⟨W.heap.size,1,none⟩=some (.int .i64 t.n)/\w'.cell? ⟨W.heap.size,2,none⟩=some (.string t.s)/\w'.cell? ⟨W.heap.size,3,none⟩=some (.slice A t.ks.length c)) w3.drew/\(fun _:World=>True) w3.drew:=⟨⟨(H1.out.ex.later (Below.refl _ _).drew).cells.1,zc (blk_bl K0.out (Below.refl _ _).drew) rfl,zc (blk_bl K0.out (Below.refl _ _).drew) rfl,zc (blk_bl K0.out (Below.refl _ _).drew) rfl,zc (blk_bl K0.out (Below.refl _ _).drew) rfl⟩,trivial⟩
  refine wp_region_noPanic ?_
  refine wp_region_G (fun w':World=>w'.cell? ⟨C.tb,6,none⟩=some (.pointer (some ⟨C.sb,0,none⟩))/\w'.cell? ⟨W.heap.size,0,none⟩=some (.int .u8 t.k)/\w'.cell? ⟨W.heap.size,1,none⟩=some (.int .i64 t.n)/\w'.cell? ⟨W.heap.size,2,none⟩=some (.string t.s)/\w'.cell? ⟨W.heap.size,3,none⟩=some (.slice A t.ks.length c)) (fun _:World=>True) 7 (by kernel_rfl) ?_
  refine zT 0 hSS ?_
  (try simp only [Act.put,zP])
  refine zT 1 hSS ?_
  (try simp only [Act.put,zP])
  refine zT 2 hSS ?_
  (try simp only [Act.put,zP])
  refine zT 3 hSS ?_
  (try simp only [Act.put,zP])
  refine zT 4 hSS ?_
  (try simp only [Act.put,zP])
  refine zT 5 hSS ?_
  (try simp only [Act.put,zP])
  have hbd:Below w3.heap.size w3 w3.drew:=(Below.refl _ _).drew
  have had:Calls Tryz.prog 19 [.pointer (some ⟨C.sb,0,none⟩),.agg #[.int .u8 t.k,.int .i64 t.n,.string t.s,.slice A t.ks.length c]].toArray w3.drew fun e w'=>∃ v,e=.returned v/\(v=.int .i64 0/\TX (C.plus W.heap.size hi) w' (undoE S t).2 L0/\Kpt C.n0 (C.plus W.heap.size hi).kb w3 w') :=
   (TX.call (R:=(undoE S t)) (H1.out.ex.later hbd) fun kb hkb=>hkb.undo t _ (HV.out.later (bl_tt HB1.out (Below.refl _ _).drew))).mono fun e w' ⟨g1,g2,g3⟩=>⟨_,g1,by rw [h0],g2,(Kpt.of_below hbd).trans g3⟩
  refine wpG_one (i:=6) (by kernel_rfl) rfl (fun K hK=>?_)
  refine step_callG (by rfl) (.func 19) [.tmp 44,.tmp 45] _ (by rfl) 19 _ fnUndoT (by rfl) _ (by rfl) _ had ?_
  rintro v6x w6x ⟨rfl,hx6,hk6⟩
  have kk0:=hk6.blk (.inr (.inr ⟨Nat.le_refl _,l0⟩)) K0.out
  have hS6:(fun w':World=>w'.cell? ⟨C.tb,6,none⟩=some (.pointer (some ⟨C.sb,0,none⟩))/\w'.cell? ⟨W.heap.size,0,none⟩=some (.int .u8 t.k)/\w'.cell? ⟨W.heap.size,1,none⟩=some (.int .i64 t.n)/\w'.cell? ⟨W.heap.size,2,none⟩=some (.string t.s)/\w'.cell? ⟨W.heap.size,3,none⟩=some (.slice A t.ks.length c)) w6x:=⟨hx6.cells.1,zc kk0 rfl,zc kk0 rfl,zc kk0 rfl,zc kk0 rfl⟩
  refine hK.out _ _ ⟨hS6,trivial⟩ ?_
  have HX6:=zh hx6
  have HKP6:=zh hk6
  have HKK0:=zh kk0
  clear hK K had hSS hx6 hk6 hS6 hbd kk0
  (try simp only [Act.put,zP])
  have had:Calls Tryz.prog 153 [.pointer (some ⟨C.tb,0,none⟩),.int .i64 0].toArray w6x fun e w'=>∃ v,e=.returned v/\(v=.int .i64 0/\Kpt C.n0 (C.plus W.heap.size hi).kb w6x w'/\Below C.w.heap.size C.w w'/\TX (C.plus W.heap.size hi) w' (undoE S t).2 (L0++[(undoE S t).2.state])) :=
   (done_any HC1.out HX6.out (st_sm HX6.out.ks.wf (by have:=H1.out.fb.undo t; simpa using this) (by have:=HLN.out; (try simp only [List.length_append,List.length_cons,List.length_nil] at this ⊢); omega)) (by have:=HLN.out; (try simp only [List.length_append,List.length_cons,List.length_nil] at this ⊢); omega)).mono fun e w' ⟨g1,g2,g3,g4⟩=>⟨_,g1,rfl,g2,g3,g4⟩
  refine wpG_past (i:=7) (by kernel_rfl) rfl (by kernel_rfl) (fun K hK=>?_)
  refine step_callG (by rfl) (.func 153) [.tmp 40,.tmp 46] _ (by rfl) 153 _ fnDone (by rfl) _ (by rfl) _ had ?_
  rintro v7x w7x ⟨rfl,hk7,hb7,hx7⟩
  have kk0:=hk7.blk (.inr (.inr ⟨Nat.le_refl _,l0⟩)) HKK0.out
  have hS7:(fun w':World=>w'.cell? ⟨C.tb,6,none⟩=some (.pointer (some ⟨C.sb,0,none⟩))/\w'.cell? ⟨W.heap.size,0,none⟩=some (.int .u8 t.k)/\w'.cell? ⟨W.heap.size,1,none⟩=some (.int .i64 t.n)/\w'.cell? ⟨W.heap.size,2,none⟩=some (.string t.s)/\w'.cell? ⟨W.heap.size,3,none⟩=some (.slice A t.ks.length c)) w7x:=⟨hx7.cells.1,zc kk0 rfl,zc kk0 rfl,zc kk0 rfl,zc kk0 rfl⟩
  refine hK.out _ _ hS7 ?_
  clear hK K had
  (try simp only [Act.put,zP])
  refine wpG_past (i:=8) (by kernel_rfl) rfl (by kernel_rfl) (fun K hK=>?_)
  (try simp only [zA,zB,zC])
  go_simp
  refine hK.out _ _ hS7 ?_
  clear hK K
  (try simp only [Act.put,zP])
  refine wpG_done (by kernel_rfl) ?_
  refine NoPanic.normal ?_
  have HK7x:=zh (HKP6.out.trans hk7)
  have HX7x:=zh hx7
  have HB7x:=zh hb7
  have HQ0x:=zh kk0
  clear hk7 hx7 hb7 hS7 HKP6 HX6 kk0 HKK0
  go_wp2_with fail
  go_ret
  have HF:=zh (TI.less (lo:=W.heap.size) (hi:=hi) (C:=C) ⟨HX7x.out,by have:=H1.out.fb.undo t; simpa using this⟩)
  exact ⟨rfl,HP3.out.trans ⟨HK7x.out.size,fun b hb hk=>HK7x.out.kept b hb (hk.elim .inl fun h=>.inr (.inl h))⟩,HB7x.out,HF.out⟩
theorem fnExprT:IsFn Tryz.prog 110 Tryz.f110:=⟨Tryz.func110,by kernel_rfl,by kernel_rfl⟩
theorem lval_any {C:TC} {W:World} {S:ST} {L:List SS} (h:TX C W S L) (b0:Nat) (hb:W.cell? ⟨b0,0,none⟩=some (.pointer (some ⟨C.tb,0,none⟩))) (t:T) (v:Value) (hv:NV C.w Any t v) :
  Calls Tryz.prog 183 #[v,.pointer (some ⟨b0,0,none⟩)] W fun e W'=>e=.returned (.tuple #[.int .i64 (exprE S.look t).1,.int .i64 (exprE S.look t).2])/\Below W.heap.size W W':=by
 obtain ⟨A,c,rfl,-⟩:=hv.open_
 obtain ⟨⟨x,y⟩,hxy⟩:∃ x,exprE S.look t=x:=⟨_,rfl⟩
 have hb0:=bl_al (Below.refl W.heap.size W) (.cells #[.int .u8 t.k,.int .i64 t.n,.string t.s,.slice A t.ks.length c] 29)
 have kb:=heap_alloc_new W (.cells #[.int .u8 t.k,.int .i64 t.n,.string t.s,.slice A t.ks.length c] 29)
 obtain ⟨w1,hw1⟩:∃ x,W.alloc (.cells #[.int .u8 t.k,.int .i64 t.n,.string t.s,.slice A t.ks.length c] 29)=x:=⟨_,rfl⟩
 rw [hw1] at hb0 kb
 have HX:=zh (h.later hb0)
 have HTE:=zh (fun w' (hb:Below w1.heap.size w1 w')=>Expr_any (cellC C.w C.n0 C.sb _ S h.ks.wf) t _ w' (hv.later (bl_tt (bl_tt h.ks.bl hb0) hb)) ((h.later hb0).ks.later hb))
 rw [hxy] at HTE
 rw [hxy]
 dsimp only at HTE ⊢
 have HKB:=zh kb
 have HB0:=zh hb0
 have HBC:=zh (zb hb0 hb)
 have hmf:∀ (fn:Fn) (first cap:Array Value) (w:World),(Instr.makeFunc fn first cap).run Tryz.prog w=.ok (.func fn first cap) w:=fun _ _ _ _=>rfl
 clear h hv hb hxy hb0 kb
 go_enter Tryz.func183,Tryz.ntmps183
 go_upto_region 1 with fail
 (try rw [hw1])
 clear hw1
 have HSS:=zh (show ∀ w',Below w1.heap.size w1 w'->(fun w':World=>w'.cell? ⟨W.heap.size,0,none⟩=some (.int .u8 t.k)/\w'.cell? ⟨W.heap.size,1,none⟩=some (.int .i64 t.n)/\w'.cell? ⟨W.heap.size,2,none⟩=some (.string t.s)/\w'.cell? ⟨W.heap.size,3,none⟩=some (.slice A t.ks.length c)/\w'.cell? ⟨b0,0,none⟩=some (.pointer (some ⟨C.tb,0,none⟩))/\w'.cell? ⟨C.tb,6,none⟩=some (.pointer (some ⟨C.sb,0,none⟩))) w' from fun w' hb=>⟨zb hb (zc HKB.out rfl),zb hb (zc HKB.out rfl),zb hb (zc HKB.out rfl),zb hb (zc HKB.out rfl),zb hb HBC.out,zb hb HX.out.cells.1⟩)
 have hSS:(fun w':World=>w'.cell? ⟨W.heap.size,0,none⟩=some (.int .u8 t.k)/\w'.cell? ⟨W.heap.size,1,none⟩=some (.int .i64 t.n)/\w'.cell? ⟨W.heap.size,2,none⟩=some (.string t.s)/\w'.cell? ⟨W.heap.size,3,none⟩=some (.slice A t.ks.length c)/\w'.cell? ⟨b0,0,none⟩=some (.pointer (some ⟨C.tb,0,none⟩))/\w'.cell? ⟨C.tb,6,none⟩=some (.pointer (some ⟨C.sb,0,none⟩))) w1.drew/\(fun _:World=>True) w1.drew:=⟨HSS.out _ (Below.refl _ _).drew,trivial⟩
 refine wp_region_noPanic ?_
 refine wp_region_G (fun w':World=>w'.cell? ⟨W.heap.size,0,none⟩=some (.int .u8 t.k)/\w'.cell? ⟨W.heap.size,1,none⟩=some (.int .i64 t.n)/\w'.cell? ⟨W.heap.size,2,none⟩=some (.string t.s)/\w'.cell? ⟨W.heap.size,3,none⟩=some (.slice A t.ks.length c)/\w'.cell? ⟨b0,0,none⟩=some (.pointer (some ⟨C.tb,0,none⟩))/\w'.cell? ⟨C.tb,6,none⟩=some (.pointer (some ⟨C.sb,0,none⟩))) (fun _:World=>True) 6 (by kernel_rfl) ?_
 refine zT 0 hSS ?_
 (try simp only [Act.put,zP])
 refine zT 1 hSS ?_
 (try simp only [Act.put,zP])
 refine zT 2 hSS ?_
 (try simp only [Act.put,zP])
 refine zT 3 hSS ?_
 (try simp only [Act.put,zP])
 refine zT 4 hSS ?_
 (try simp only [Act.put,zP])
 refine zT 5 hSS ?_
 (try simp only [Act.put,zP])
 have had:Calls Tryz.prog 110 [.agg #[.int .u8 t.k,.int .i64 t.n,.string t.s,.slice A t.ks.length c],.func (.func 184) #[.pointer (some ⟨C.sb,0,none⟩)] #[]].toArray w1.drew fun e1 W'=>∃ u,e1=.returned u/\u=.tuple #[.int .i64 x,.int .i64 y]/\Below w1.heap.size w1 W' :=
  (HTE.out _ (Below.refl _ _).drew).mono fun e1 W' ⟨q1,q2⟩=>⟨_,q1,rfl,(Below.refl _ _).drew.trans q2⟩
 refine wpG_past (i:=6) (by kernel_rfl) rfl (by kernel_rfl) (fun K hK=>?_)
 refine step_callL (by rfl) (.func 110) [.tmp 5,.tmp 10] _ (by rfl) 110 _ fnExprT (by rfl) _ (by rfl) _ had ?_
 rintro v3 w3 ⟨rfl,hb3⟩
 have hS3:=HSS.out _ hb3
 have HB3:=zh hb3
 refine hK.out _ _ hS3 ?_
 clear hK K had hSS hb3
 (try simp only [Act.put,zP])
 refine wpG_takeP (i:=7) (v:=?_) rfl (by kernel_rfl) (by kernel_rfl) (by kernel_rfl) (by decide) (by kernel_rfl) (fun _ _ _ h=>h) (Or.inl ⟨by rfl,?_⟩) hS3 ?_
 rotate_left 1
 ·(intro w hSw; (try dsimp only at hSw); (try simp only [zA,zB,zC]); go_simp; (try with_reducible rfl))
 (try simp only [Act.put,zP])
 refine wpG_takeP (i:=8) (v:=?_) rfl (by kernel_rfl) (by kernel_rfl) (by kernel_rfl) (by decide) (by kernel_rfl) (fun _ _ _ h=>h) (Or.inl ⟨by rfl,?_⟩) hS3 ?_
 rotate_left 1
 ·(intro w hSw; (try dsimp only at hSw); (try simp only [zA,zB,zC]); go_simp; (try with_reducible rfl))
 (try simp only [Act.put,zP])
 refine wpG_past (i:=9) (by kernel_rfl) rfl (by kernel_rfl) (fun K hK=>?_)
 (try simp only [zA,zB,zC])
 go_simp
 refine hK.out _ _ hS3 ?_
 clear hK K
 (try simp only [Act.put,zP])
 refine wpG_past (i:=10) (by kernel_rfl) rfl (by kernel_rfl) (fun K hK=>?_)
 (try simp only [zA,zB,zC])
 go_simp
 refine hK.out _ _ hS3 ?_
 clear hK K
 (try simp only [Act.put,zP])
 refine wpG_done (by kernel_rfl) ?_
 refine NoPanic.normal ?_
 go_wp2_with fail
 go_ret2
 exact ⟨rfl,bl_tt HB0.out HB3.out⟩
theorem lnil_any (v:Value) (t:T) (w0 W:World) (hv:NV w0 Any t v):Calls Tryz.prog 182 #[v] W fun e W'=>e=.returned (.tuple #[.int .i64 0,.int .i64 0])/\Below W.heap.size W W':=by
 obtain ⟨A,c,rfl,-⟩:=hv.open_
 go_enter Tryz.func182,Tryz.ntmps182
 go_wp2_with fail
 go_ret2
 exact ⟨rfl,bl_al (Below.refl _ _) _⟩
theorem fnOpenT:IsFn Tryz.prog 185 Tryz.f185:=⟨Tryz.func185,by kernel_rfl,by kernel_rfl⟩
theorem fnCloseT:IsFn Tryz.prog 186 Tryz.f186:=⟨Tryz.func186,by kernel_rfl,by kernel_rfl⟩
theorem fst_NV {w:World} {S:Nat->Prop} {t:T} {v:Value} {back:Bool} (h:NV w S t v) (hk:0<t.ks.length):∃ v',NV w S (fstT back t) v':=by
 obtain ⟨A,c,rfl,-,-,-,hrow⟩:=h.open_
 have key:∀ i,i<t.ks.length->∃ v',NV w S (kid t i) v':=fun i hi=>by
  obtain ⟨a,u0,u1,u2,u3,-,-,-,hn⟩:=hrow i hi
  exact ⟨.agg #[u0,u1,u2,u3],by unfold kid; rw [List.getD_eq_getElem?_getD,List.getElem?_eq_getElem hi]; exact hn⟩
 unfold fstT
 split
 ·exact key _ (by omega)
 ·exact key 0 hk
theorem tlocal_any {G:List PR->T->Prop} {C:TC} (hC:C.Ok) {W:World} {S S2:ST} {L0 L:List SS} (h:TI C W S L0) (t:T) (v:Value) (back:Bool) (xv yv:Int) (hx:(exprE S.look (fstT back t)).1=xv) (hy:(exprE S2.look (lstT back t)).1=yv) (h1:(exprE S.look (fstT back t)).2=0) (h4:(exprE S2.look (lstT back t)).2=0) (h2:(openE S ⟨t.s,1,0⟩ xv).1=0) (hB:BlkC G back (blkL back (kid t 1)) (openE S ⟨t.s,1,0⟩ xv).2 L S2) (h5:(closeE S2 t.s yv).1=0)
  (hln:L0.length+((openE S ⟨t.s,1,0⟩ xv).2.state::L++[(closeE S2 t.s yv).2.state]).length<=900000) (hv:NV C.w Any t v) (hk:t.k=54) (hkl:t.ks.length=3) (hG1:∀ u∈(kid t 1).ks,G C.p.prs u) :
  Calls Tryz.prog 151 #[.pointer (some ⟨C.tb,0,none⟩),v,.bool back] W fun e W'=>e=.returned (.int .i64 0)/\TrP C W (closeE S2 t.s yv).2 (L0++((openE S ⟨t.s,1,0⟩ xv).2.state::L++[(closeE S2 t.s yv).2.state])) W':=by
 obtain ⟨A,c,rfl,hfld,hlk,hlc,hrow⟩:=hv.open_
 have HLN:=zh hln
 have HC:=zh hC
 have H:=zh h
 have hbv:=bV2
 have hmf:∀ (fn:Fn) (first cap:Array Value) (w:World),(Instr.makeFunc fn first cap).run Tryz.prog w=.ok (.func fn first cap) w:=fun _ _ _ _=>rfl
 have HXI:=zh (show I64 xv from hx▸expr_I64 (w:=C.w) h.wf (t:=fstT back t) (fst_NV hv (by omega)).choose_spec)
 have HCUR:=zh (show S.cur.vs.length+1<=4398046511000 by have:=h.fb.cur; have:=h.ex.len; omega)
 have HFV:=zh (show FldV ⟨t.s,1,0⟩ from ⟨hfld.2.2,by simp only; omega,by simp only; omega⟩)
 have i0:0<t.ks.length:=by omega
 have i0':(0:Int)<(t.ks.length:Int):=by omega
 have i1:1<t.ks.length:=by omega
 have i1':(1:Int)<(t.ks.length:Int):=by omega
 obtain ⟨a,u0,Au0,cu0,rfl,-,hu0,⟨p0,p1,p2,p3⟩,hnu0⟩:=hrow.nd i0
 obtain ⟨a',u1,Au1,cu1,ea,-,hu1,⟨r0,r1,r2,r3⟩,hnu1⟩:=hrow.nd i1
 injection ea with ea
 subst ea
 have ha0:a.add (0*4)=a:=by unfold Addr.add; split<;>simp_all
 rw [ha0] at p0 p1 p2 p3
 have ha1:a.add (1*4)=⟨a.block,a.off+4,none⟩:=by unfold Addr.add; split<;>simp_all
 rw [ha1] at r0 r1 r2 r3
 have HPP1:=zh (show ∀ w',Below C.w.heap.size C.w w'->(w'.cell? ⟨a.block,a.off+4,none⟩=some (.int .u8 u1.k)/\w'.cell? ⟨a.block,a.off+4+1,none⟩=some (.int .i64 u1.n)/\w'.cell? ⟨a.block,a.off+4+2,none⟩=some (.string u1.s)/\w'.cell? ⟨a.block,a.off+4+3,none⟩=some (.slice Au1 u1.ks.length cu1)) from fun w' hb=>⟨zb hb r0,zb hb r1,zb hb r2,zb hb r3⟩)
 have e1:kid t 1=u1:=by unfold kid; rw [List.getD_eq_getElem?_getD,List.getElem?_eq_getElem i1]; exact hu1.out
 have HPP0:=zh (show ∀ w',Below C.w.heap.size C.w w'->(w'.cell? a=some (.int .u8 u0.k)/\w'.cell? ⟨a.block,a.off+1,none⟩=some (.int .i64 u0.n)/\w'.cell? ⟨a.block,a.off+2,none⟩=some (.string u0.s)/\w'.cell? ⟨a.block,a.off+3,none⟩=some (.slice Au0 u0.ks.length cu0)) from fun w' hb=>⟨zb hb p0,zb hb p1,zb hb p2,zb hb p3⟩)
 have e0:kid t 0=u0:=by unfold kid; rw [List.getD_eq_getElem?_getD,List.getElem?_eq_getElem i0]; exact hu0.out
 rw [e1] at hB hG1
 have HBC:=zh hB
 have HGU:=zh hG1
 have HNU:=zh hnu1
 obtain ⟨t1,ht1⟩:∃ x,fstT back t=x:=⟨_,rfl⟩
 obtain ⟨t2,ht2⟩:∃ x,lstT back t=x:=⟨_,rfl⟩
 have HEN:=zh (fun w' (hb:Below C.w.heap.size C.w w')=>tends_any t _ back C.w w' hb hv (by omega))
 rw [ht1,ht2,hk] at HEN
 rw [ht1] at hx h1
 rw [ht2] at hy h4
 have HE1:=zh (show exprE S.look t1=(xv,0) by rw [<-hx,<-h1])
 have HE2:=zh (show exprE S2.look t2=(yv,0) by rw [<-hy,<-h4])
 have H2:=zh h2
 have H5:=zh h5
 have HBW:=zh h.below
 have hb0:=bl_al (bl_al (Below.refl W.heap.size W) (.cells #[.pointer (some ⟨C.tb,0,none⟩)] 117)) (.cells #[.int .u8 t.k,.int .i64 t.n,.string t.s,.slice (some a) t.ks.length c] 29)
 have k0:=blk_al (heap_alloc_new W (.cells #[.pointer (some ⟨C.tb,0,none⟩)] 117)) (.cells #[.int .u8 t.k,.int .i64 t.n,.string t.s,.slice (some a) t.ks.length c] 29)
 have k4:=heap_alloc_new (W.alloc (.cells #[.pointer (some ⟨C.tb,0,none⟩)] 117)) (.cells #[.int .u8 t.k,.int .i64 t.n,.string t.s,.slice (some a) t.ks.length c] 29)
 rw [World.size_alloc] at k4
 obtain ⟨w0,hw0⟩:∃ x,(W.alloc (.cells #[.pointer (some ⟨C.tb,0,none⟩)] 117)).alloc (.cells #[.int .u8 t.k,.int .i64 t.n,.string t.s,.slice (some a) t.ks.length c] 29)=x:=⟨_,rfl⟩
 rw [hw0] at hb0 k0 k4
 rw [hk] at k4
 have HKK:=zh hk
 have HKL:=zh hkl
 have HB0:=zh hb0
 have K0:=zh k0
 have K4:=zh k4
 have x3:w0.cell? ⟨W.heap.size+1,2,none⟩=some (.string t.s):=zc k4 rfl
 clear hrow h hC hln hB hG1 h2 h5 hb0 k0 k4 ha0 hx hy ht1 ht2 p0 p1 p2 p3 hu0 e0 hv hlk hfld hk hkl ha1 r0 r1 r2 r3 hu1 e1 h1 h4 hnu0
 go_enter Tryz.func151,Tryz.ntmps151
 rw [HKK.out] at hw0 ⊢
 go_upto_region 2 with fail
 (try rw [hw0])
 clear hw0 x3
 have hb1:=bl_al (Below.refl w0.heap.size w0) (.cells #[.string t.s,.int .u8 3,.int .i64 0] 83)
 have k7:=heap_alloc_new w0 (.cells #[.string t.s,.int .u8 3,.int .i64 0] 83)
 obtain ⟨w1,hw1⟩:∃ x,w0.alloc (.cells #[.string t.s,.int .u8 3,.int .i64 0] 83)=x:=⟨_,rfl⟩
 obtain ⟨b7,hb7⟩:∃ x,w0.heap.size=x:=⟨_,rfl⟩
 rw [hw1] at hb1 k7 ⊢
 rw [hb7] at k7 ⊢
 have HB1:=zh (bl_tt HB0.out hb1)
 have K7:=zh k7
 have h7:W.heap.size+1<b7:=by have:=blk_lt K4.out; omega
 have H7:=zh h7
 have x3:w1.cell? ⟨W.heap.size+1,3,none⟩=some (.slice (some a) t.ks.length c):=zc (blk_bl K4.out hb1) rfl
 obtain ⟨p0,p1,p2,p3⟩:=HPP0.out w1 (bl_tt HBW.out HB1.out)
 have K4b:=zh (blk_bl K4.out hb1)
 have K0b:=zh (blk_bl K0.out hb1)
 clear hb1 k7 hw1 hb7 K4 K0 h7
 go_upto_region 3 with fail
 have hb2:=bl_al (Below.refl w1.heap.size w1) (.cells #[.int .u8 u0.k,.int .i64 u0.n,.string u0.s,.slice Au0 u0.ks.length cu0] 29)
 have k8:=heap_alloc_new w1 (.cells #[.int .u8 u0.k,.int .i64 u0.n,.string u0.s,.slice Au0 u0.ks.length cu0] 29)
 obtain ⟨w2,hw2⟩:∃ x,w1.alloc (.cells #[.int .u8 u0.k,.int .i64 u0.n,.string u0.s,.slice Au0 u0.ks.length cu0] 29)=x:=⟨_,rfl⟩
 obtain ⟨b8,hb8⟩:∃ x,w1.heap.size=x:=⟨_,rfl⟩
 rw [hw2] at hb2 k8 ⊢
 rw [hb8] at k8 ⊢
 have h8:b7<b8:=by have:=blk_lt K7.out; omega
 have H8:=zh h8
 have HB2:=zh (bl_tt HB1.out hb2)
 have K8:=zh k8
 have K4:=zh (blk_bl K4b.out hb2)
 have K0:=zh (blk_bl K0b.out hb2)
 have K7b:=zh (blk_bl K7.out hb2)
 clear hb2 k8 hw2 hb8 p0 p1 p2 p3 x3 K4b K0b K7 h8
 have x0:w2.cell? ⟨W.heap.size+1,0,none⟩=some (.int .u8 54):=zc K4.out rfl
 have x1:w2.cell? ⟨b7,1,none⟩=some (.int .u8 3):=zc K7b.out rfl
 have xf:∀ o,w2.frozen? ⟨b7,o,none⟩=false:=fun _=>zf K7b.out
 go_upto_region 6 with fail
 have hc3:=(Chg.refl (fun q=>q=b7) w2).setCell (p:=⟨b7,1,none⟩) (.inl rfl) (.int .u8 1)
 have k7:=heap_setCell_same w2 b7 1 _ _ (.int .u8 1) K7b.out
 simp only [List.setIfInBounds_toArray,List.set_cons_zero,List.set_cons_succ] at k7
 have HB3:=zh (HB2.out.trans (hc3.below HB2.out.size fun b e=>by have e:b=b7:=e; have:=H7.out; omega))
 have K8b:=zh (hc3.keep K8.out (by show ¬ (b8=b7); have:=H8.out; omega))
 have K4b:=zh (hc3.keep K4.out (by show ¬ (W.heap.size+1=b7); have:=H7.out; omega))
 have K0b:=zh (hc3.keep K0.out (by show ¬ (W.heap.size=b7); have:=H7.out; omega))
 obtain ⟨w3,hw3⟩:∃ x,w2.setCell ⟨b7,1,none⟩ (.int .u8 1)=x:=⟨_,rfl⟩
 rw [hw3] at hc3 k7 HB3 K8b K4b K0b ⊢
 have K7:=zh k7
 clear x0 x1 xf k7 hc3 hw3 K8 K4 K0 K7b
 have x3:w3.cell? ⟨W.heap.size+1,3,none⟩=some (.slice (some a) t.ks.length c):=zc K4b.out rfl
 obtain ⟨r0,r1,r2,r3⟩:=HPP1.out w3 (bl_tt HBW.out HB3.out)
 obtain ⟨m0,m1,m2,m3⟩:=box4 K8b.out
 have xf:∀ o,w3.frozen? ⟨b8,o,none⟩=false:=fun _=>zf K8b.out
 go_upto_region 7 with fail
 obtain ⟨k8,hc4⟩:=set4 (u0:=.int .u8 u1.k) (u1:=.int .i64 u1.n) (u2:=.string u1.s) (u3:=.slice Au1 u1.ks.length cu1) K8b.out
 have HB4:=zh (HB3.out.trans (hc4.below HB3.out.size fun b e=>by have e:b=b8:=e; have:=H7.out; have:=H8.out; omega))
 have K7b:=zh (hc4.keep K7.out (by show ¬ (b7=b8); have:=H8.out; omega))
 have K4:=zh (hc4.keep K4b.out (by show ¬ (W.heap.size+1=b8); have:=H7.out; have:=H8.out; omega))
 have K0:=zh (hc4.keep K0b.out (by show ¬ (W.heap.size=b8); have:=H7.out; have:=H8.out; omega))
 obtain ⟨w4,hw4⟩:∃ x,((((w3.setCell ⟨b8,0,none⟩ (.int .u8 u1.k)).setCell ⟨b8,1,none⟩ (.int .i64 u1.n)).setCell ⟨b8,2,none⟩ (.string u1.s)).setCell ⟨b8,3,none⟩ (.slice Au1 u1.ks.length cu1))=x:=⟨_,rfl⟩
 rw [hw4] at k8 HB4 K7b K4 K0 ⊢
 have K8:=zh k8
 clear x3 r0 r1 r2 r3 m0 m1 m2 m3 xf k8 hc4 hw4 K8b K4b K0b K7
 go_upto_region 8 with fail
 obtain ⟨x0,x1,x2,x3⟩:=box4 K4.out
 go_wp2_with fail
 refine (HEN.out w4 (bl_tt HBW.out HB4.out)).mono ?_
 rintro e w5 ⟨v1,v2,rfl,n1,n2,b5⟩
 obtain ⟨A1,c1,rfl,-⟩:=n1.open_
 obtain ⟨A2,c2,rfl,-⟩:=n2.open_
 have HN1:=zh n1
 have HN2:=zh n2
 have b6:=bl_al (bl_al (bl_tt (Below.refl _ _) b5) (.cells #[.int .u8 t1.k,.int .i64 t1.n,.string t1.s,.slice A1 t1.ks.length c1] 29)) (.cells #[.int .u8 t2.k,.int .i64 t2.n,.string t2.s,.slice A2 t2.ks.length c2] 29)
 have k10:=blk_al (heap_alloc_new w5 (.cells #[.int .u8 t1.k,.int .i64 t1.n,.string t1.s,.slice A1 t1.ks.length c1] 29)) (.cells #[.int .u8 t2.k,.int .i64 t2.n,.string t2.s,.slice A2 t2.ks.length c2] 29)
 have k11:=heap_alloc_new (w5.alloc (.cells #[.int .u8 t1.k,.int .i64 t1.n,.string t1.s,.slice A1 t1.ks.length c1] 29)) (.cells #[.int .u8 t2.k,.int .i64 t2.n,.string t2.s,.slice A2 t2.ks.length c2] 29)
 rw [World.size_alloc] at k11
 obtain ⟨w6,hw6⟩:∃ x,(w5.alloc (.cells #[.int .u8 t1.k,.int .i64 t1.n,.string t1.s,.slice A1 t1.ks.length c1] 29)).alloc (.cells #[.int .u8 t2.k,.int .i64 t2.n,.string t2.s,.slice A2 t2.ks.length c2] 29)=x:=⟨_,rfl⟩
 obtain ⟨b10,hb10⟩:∃ x,w5.heap.size=x:=⟨_,rfl⟩
 rw [hw6] at b6 k10 k11
 rw [hb10] at k10 k11
 have HB6:=zh (HB4.out.trans (b6.mono HB4.out.size))
 obtain ⟨hC1,h1'⟩:=H.out.plus HC.out HB6.out
 have HP3:=zh (Kpt.of_below (n0:=C.n0) (kb:=C.kb) HB6.out)
 have J0:=zh (blk_bl K0.out b6)
 have J4:=zh (blk_bl K4.out b6)
 have J7:=zh (blk_bl K7b.out b6)
 have J8:=zh (blk_bl K8.out b6)
 have J10:=zh k10
 have J11:=zh k11
 have l0:=blk_lt J0.out
 have l4:=blk_lt J4.out
 have l7:=blk_lt J7.out
 have l8:=blk_lt J8.out
 have l10:=blk_lt J10.out
 have l11:=blk_lt J11.out
 have hwz:=HB6.out.size
 have h10:W.heap.size<=b10:=by have:=(bl_tt HB4.out b5).size; omega
 obtain ⟨hi,hhi⟩:∃ x,w6.heap.size=x:=⟨_,rfl⟩
 rw [hhi] at hC1 h1' l0 l4 l7 l8 l10 l11 hwz
 have HC1:=zh hC1
 have H1:=zh h1'
 have hq7:=H7.out
 have hq8:=H8.out
 clear n1 n2 b5 b6 k10 k11 hC1 h1' hhi x0 x1 x2 x3 HEN K0 K4 K7b K8
 go_upto_region 9 with fail
 (try rw [hw6])
 (try rw [hb10])
 clear hw6 hb10
 obtain ⟨y0,y1,y2,y3⟩:=box4 J10.out
 have HV1:=zh (lval_any H1.out.ex W.heap.size (zc J0.out rfl) t1 _ HN1.out)
 rw [HE1.out] at HV1
 go_wp2_with fail
 refine HV1.out.mono ?_
 rintro e w7 ⟨rfl,b7'⟩
 have HX7:=zh (H1.out.later b7')
 have Q0:=zh (blk_bl J0.out b7')
 have Q4:=zh (blk_bl J4.out b7')
 have Q7:=zh (blk_bl J7.out b7')
 have Q8:=zh (blk_bl J8.out b7')
 have Q11:=zh (blk_bl J11.out b7')
 have HK37:=zh (HP3.out.trans (Kpt.of_below b7'))
 clear y0 y1 y2 y3 HV1 b7' J0 J4 J7 J8 J10 J11
 go_upto_region 12 with fail
 have hSS:(fun w':World=>w'.cell? ⟨W.heap.size,0,none⟩=some (.pointer (some ⟨C.tb,0,none⟩))/\w'.cell? ⟨C.tb,6,none⟩=some (.pointer (some ⟨C.sb,0,none⟩))/\w'.cell? ⟨b7,0,none⟩=some (.string t.s)/\w'.cell? ⟨b7,1,none⟩=some (.int .u8 1)/\w'.cell? ⟨b7,2,none⟩=some (.int .i64 0)) w7.drew/\(fun _:World=>True) w7.drew:=⟨⟨zc (blk_bl Q0.out (Below.refl _ _).drew) rfl,(HX7.out.ex.later (Below.refl _ _).drew).cells.1,zc (blk_bl Q7.out (Below.refl _ _).drew) rfl,zc (blk_bl Q7.out (Below.refl _ _).drew) rfl,zc (blk_bl Q7.out (Below.refl _ _).drew) rfl⟩,trivial⟩
 refine wp_region_noPanic ?_
 refine wp_region_G (fun w':World=>w'.cell? ⟨W.heap.size,0,none⟩=some (.pointer (some ⟨C.tb,0,none⟩))/\w'.cell? ⟨C.tb,6,none⟩=some (.pointer (some ⟨C.sb,0,none⟩))/\w'.cell? ⟨b7,0,none⟩=some (.string t.s)/\w'.cell? ⟨b7,1,none⟩=some (.int .u8 1)/\w'.cell? ⟨b7,2,none⟩=some (.int .i64 0)) (fun _:World=>True) 8 (by kernel_rfl) ?_
 refine zT 0 hSS ?_
 (try simp only [Act.put,zP])
 refine zT 1 hSS ?_
 (try simp only [Act.put,zP])
 refine zT 2 hSS ?_
 (try simp only [Act.put,zP])
 refine zT 3 hSS ?_
 (try simp only [Act.put,zP])
 refine zT 4 hSS ?_
 (try simp only [Act.put,zP])
 refine zT 5 hSS ?_
 (try simp only [Act.put,zP])
 refine zT 6 hSS ?_
 (try simp only [Act.put,zP])
 have hbd:Below w7.heap.size w7 w7.drew:=(Below.refl _ _).drew
 have had:Calls Tryz.prog 185 [.pointer (some ⟨C.sb,0,none⟩),.agg #[.string t.s,.int .u8 1,.int .i64 0],.int .i64 xv].toArray w7.drew fun e w'=>∃ v,e=.returned v/\(v=.int .i64 0/\TX (C.plus W.heap.size hi) w' (openE S ⟨t.s,1,0⟩ xv).2 L0/\Kpt C.n0 (C.plus W.heap.size hi).kb w7 w') :=
  (TX.call (R:=(openE S ⟨t.s,1,0⟩ xv)) (HX7.out.ex.later hbd) fun kb hkb=>hkb.open_ ⟨t.s,1,0⟩ HFV.out xv HXI.out HCUR.out).mono fun e w' ⟨g1,g2,g3⟩=>⟨_,g1,by rw [H2.out],g2,(Kpt.of_below hbd).trans g3⟩
 refine wpG_one (i:=7) (by kernel_rfl) rfl (fun K hK=>?_)
 refine step_callG (by rfl) (.func 185) [.tmp 51,.tmp 52,.tmp 53] _ (by rfl) 185 _ fnOpenT (by rfl) _ (by rfl) _ had ?_
 rintro v6x w6x ⟨rfl,hx6,hk6⟩
 have kk0:=hk6.blk (.inr (.inr ⟨by omega,by omega⟩)) Q0.out
 have kk1:=hk6.blk (.inr (.inr ⟨by omega,by omega⟩)) Q7.out
 have kk2:=hk6.blk (.inr (.inr ⟨by omega,by omega⟩)) Q8.out
 have kk3:=hk6.blk (.inr (.inr ⟨by omega,by omega⟩)) Q11.out
 have kk4:=hk6.blk (.inr (.inr ⟨by omega,by omega⟩)) Q4.out
 have hS6:(fun w':World=>w'.cell? ⟨W.heap.size,0,none⟩=some (.pointer (some ⟨C.tb,0,none⟩))/\w'.cell? ⟨C.tb,6,none⟩=some (.pointer (some ⟨C.sb,0,none⟩))/\w'.cell? ⟨b7,0,none⟩=some (.string t.s)/\w'.cell? ⟨b7,1,none⟩=some (.int .u8 1)/\w'.cell? ⟨b7,2,none⟩=some (.int .i64 0)) w6x:=⟨zc kk0 rfl,hx6.cells.1,zc kk1 rfl,zc kk1 rfl,zc kk1 rfl⟩
 refine hK.out _ _ ⟨hS6,trivial⟩ ?_
 have HX6:=zh hx6
 have HKP6:=zh hk6
 have HKK0:=zh kk0
 have HKK1:=zh kk1
 have HKK2:=zh kk2
 have HKK3:=zh kk3
 have HKK4:=zh kk4
 clear hK K had hSS hx6 hk6 hS6 hbd kk0 kk1 kk2 kk3 kk4
 (try simp only [Act.put,zP])
 have had:Calls Tryz.prog 153 [.pointer (some ⟨C.tb,0,none⟩),.int .i64 0].toArray w6x fun e w'=>∃ v,e=.returned v/\(v=.int .i64 0/\Kpt C.n0 (C.plus W.heap.size hi).kb w6x w'/\Below C.w.heap.size C.w w'/\TX (C.plus W.heap.size hi) w' (openE S ⟨t.s,1,0⟩ xv).2 (L0++[(openE S ⟨t.s,1,0⟩ xv).2.state])) :=
  (done_any HC1.out HX6.out (st_sm HX6.out.ks.wf (by have:=H1.out.fb.open_ ⟨t.s,1,0⟩ xv; simpa using this) (by have:=HLN.out; (try simp only [List.length_append,List.length_cons,List.length_nil] at this ⊢); omega)) (by have:=HLN.out; (try simp only [List.length_append,List.length_cons,List.length_nil] at this ⊢); omega)).mono fun e w' ⟨g1,g2,g3,g4⟩=>⟨_,g1,rfl,g2,g3,g4⟩
 refine wpG_past (i:=8) (by kernel_rfl) rfl (by kernel_rfl) (fun K hK=>?_)
 refine step_callG (by rfl) (.func 153) [.tmp 47,.tmp 54] _ (by rfl) 153 _ fnDone (by rfl) _ (by rfl) _ had ?_
 rintro v7x w7x ⟨rfl,hk7,hb7,hx7⟩
 have kk0:=hk7.blk (.inr (.inr ⟨by omega,by omega⟩)) HKK0.out
 have kk1:=hk7.blk (.inr (.inr ⟨by omega,by omega⟩)) HKK1.out
 have kk2:=hk7.blk (.inr (.inr ⟨by omega,by omega⟩)) HKK2.out
 have kk3:=hk7.blk (.inr (.inr ⟨by omega,by omega⟩)) HKK3.out
 have kk4:=hk7.blk (.inr (.inr ⟨by omega,by omega⟩)) HKK4.out
 have hS7:(fun w':World=>w'.cell? ⟨W.heap.size,0,none⟩=some (.pointer (some ⟨C.tb,0,none⟩))/\w'.cell? ⟨C.tb,6,none⟩=some (.pointer (some ⟨C.sb,0,none⟩))/\w'.cell? ⟨b7,0,none⟩=some (.string t.s)/\w'.cell? ⟨b7,1,none⟩=some (.int .u8 1)/\w'.cell? ⟨b7,2,none⟩=some (.int .i64 0)) w7x:=⟨zc kk0 rfl,hx7.cells.1,zc kk1 rfl,zc kk1 rfl,zc kk1 rfl⟩
 refine hK.out _ _ hS7 ?_
 clear hK K had
 (try simp only [Act.put,zP])
 refine wpG_past (i:=9) (by kernel_rfl) rfl (by kernel_rfl) (fun K hK=>?_)
 (try simp only [zA,zB,zC])
 go_simp
 refine hK.out _ _ hS7 ?_
 clear hK K
 (try simp only [Act.put,zP])
 refine wpG_done (by kernel_rfl) ?_
 refine NoPanic.normal ?_
 have HK7x:=zh (HKP6.out.trans hk7)
 have HX7x:=zh hx7
 have HB7x:=zh hb7
 have HQ0x:=zh kk0
 have HQ1x:=zh kk1
 have HQ2x:=zh kk2
 have HQ3x:=zh kk3
 have HQ4x:=zh kk4
 clear hk7 hx7 hb7 hS7 HKP6 HX6 kk0 HKK0 kk1 HKK1 kk2 HKK2 kk3 HKK3 kk4 HKK4
 have HT7:=zh (show TI (C.plus W.heap.size hi) w7x (openE S ⟨t.s,1,0⟩ xv).2 (L0++[(openE S ⟨t.s,1,0⟩ xv).2.state]) from ⟨HX7x.out,by have:=H1.out.fb.open_ ⟨t.s,1,0⟩ xv; simpa using this⟩)
 have HBK:=zh (tblock_any HC1.out HT7.out u1 _ back HBC.out (by have:=HLN.out; simp only [List.length_append,List.length_cons,List.length_nil] at this ⊢; omega) HNU.out HGU.out)
 have z0:w7x.cell? ⟨W.heap.size,0,none⟩=some (.pointer (some ⟨C.tb,0,none⟩)):=zc HQ0x.out rfl
 obtain ⟨m0,m1,m2,m3⟩:=box4 HQ2x.out
 go_wp2_with fail
 refine HBK.out.mono ?_
 rintro e w8 ⟨rfl,hk8,hb8,hr8⟩
 have HK8:=zh (HK7x.out.trans hk8)
 have HR8:=zh hr8
 have G0:=zh (hk8.blk (.inr (.inr ⟨by omega,by omega⟩)) HQ0x.out)
 have G11:=zh (hk8.blk (.inr (.inr ⟨by omega,by omega⟩)) HQ3x.out)
 have G4:=zh (hk8.blk (.inr (.inr ⟨by omega,by omega⟩)) HQ4x.out)
 clear z0 m0 m1 m2 m3 hk8 hb8 hr8 HBK
 obtain ⟨y0,y1,y2,y3⟩:=box4 G11.out
 have HV2:=zh (lval_any HR8.out.ex W.heap.size (zc G0.out rfl) t2 _ HN2.out)
 rw [HE2.out] at HV2
 go_wp2_with fail
 refine HV2.out.mono ?_
 rintro e w9 ⟨rfl,b9⟩
 have HX9:=zh (HR8.out.later b9)
 have P0:=zh (blk_bl G0.out b9)
 have P4:=zh (blk_bl G4.out b9)
 have HK9:=zh (HK8.out.trans (Kpt.of_below b9))
 clear y0 y1 y2 y3 HV2 b9
 go_upto_region 21 with fail
 have hSS:(fun w':World=>w'.cell? ⟨W.heap.size,0,none⟩=some (.pointer (some ⟨C.tb,0,none⟩))/\w'.cell? ⟨C.tb,6,none⟩=some (.pointer (some ⟨C.sb,0,none⟩))/\w'.cell? ⟨W.heap.size+1,2,none⟩=some (.string t.s)) w9.drew/\(fun _:World=>True) w9.drew:=⟨⟨zc (blk_bl P0.out (Below.refl _ _).drew) rfl,(HX9.out.ex.later (Below.refl _ _).drew).cells.1,zc (blk_bl P4.out (Below.refl _ _).drew) rfl⟩,trivial⟩
 refine wp_region_noPanic ?_
 refine wp_region_G (fun w':World=>w'.cell? ⟨W.heap.size,0,none⟩=some (.pointer (some ⟨C.tb,0,none⟩))/\w'.cell? ⟨C.tb,6,none⟩=some (.pointer (some ⟨C.sb,0,none⟩))/\w'.cell? ⟨W.heap.size+1,2,none⟩=some (.string t.s)) (fun _:World=>True) 9 (by kernel_rfl) ?_
 refine zT 0 hSS ?_
 (try simp only [Act.put,zP])
 refine zT 1 hSS ?_
 (try simp only [Act.put,zP])
 refine zT 2 hSS ?_
 (try simp only [Act.put,zP])
 refine zT 3 hSS ?_
 (try simp only [Act.put,zP])
 refine zT 4 hSS ?_
 (try simp only [Act.put,zP])
 refine zT 5 hSS ?_
 (try simp only [Act.put,zP])
 refine zT 6 hSS ?_
 (try simp only [Act.put,zP])
 refine zT 7 hSS ?_
 (try simp only [Act.put,zP])
 have hbd:Below w9.heap.size w9 w9.drew:=(Below.refl _ _).drew
 have had:Calls Tryz.prog 186 [.pointer (some ⟨C.sb,0,none⟩),.string t.s,.int .i64 yv].toArray w9.drew fun e w'=>∃ v,e=.returned v/\(v=.int .i64 0/\TX (C.plus W.heap.size hi) w' (closeE S2 t.s yv).2 (L0++[(openE S ⟨t.s,1,0⟩ xv).2.state]++L)/\Kpt C.n0 (C.plus W.heap.size hi).kb w9 w') :=
  (TX.call (R:=(closeE S2 t.s yv)) (HX9.out.ex.later hbd) fun kb hkb=>hkb.close t.s yv).mono fun e w' ⟨g1,g2,g3⟩=>⟨_,g1,by rw [H5.out],g2,(Kpt.of_below hbd).trans g3⟩
 refine wpG_one (i:=8) (by kernel_rfl) rfl (fun K hK=>?_)
 refine step_callG (by rfl) (.func 186) [.tmp 79,.tmp 81,.tmp 82] _ (by rfl) 186 _ fnCloseT (by rfl) _ (by rfl) _ had ?_
 rintro v6y w6y ⟨rfl,hx6,hk6⟩
 have kk0:=hk6.blk (.inr (.inr ⟨by omega,by omega⟩)) P0.out
 have kk1:=hk6.blk (.inr (.inr ⟨by omega,by omega⟩)) P4.out
 have hS6:(fun w':World=>w'.cell? ⟨W.heap.size,0,none⟩=some (.pointer (some ⟨C.tb,0,none⟩))/\w'.cell? ⟨C.tb,6,none⟩=some (.pointer (some ⟨C.sb,0,none⟩))/\w'.cell? ⟨W.heap.size+1,2,none⟩=some (.string t.s)) w6y:=⟨zc kk0 rfl,hx6.cells.1,zc kk1 rfl⟩
 refine hK.out _ _ ⟨hS6,trivial⟩ ?_
 have HX6:=zh hx6
 have HKP6:=zh hk6
 have HKK0:=zh kk0
 have HKK1:=zh kk1
 clear hK K had hSS hx6 hk6 hS6 hbd kk0 kk1
 (try simp only [Act.put,zP])
 have had:Calls Tryz.prog 153 [.pointer (some ⟨C.tb,0,none⟩),.int .i64 0].toArray w6y fun e w'=>∃ v,e=.returned v/\(v=.int .i64 0/\Kpt C.n0 (C.plus W.heap.size hi).kb w6y w'/\Below C.w.heap.size C.w w'/\TX (C.plus W.heap.size hi) w' (closeE S2 t.s yv).2 ((L0++[(openE S ⟨t.s,1,0⟩ xv).2.state]++L)++[(closeE S2 t.s yv).2.state])) :=
  (done_any HC1.out HX6.out (st_sm HX6.out.ks.wf (by have:=HX9.out.fb.close_ t.s yv; simpa using this) (by have:=HLN.out; (try simp only [List.length_append,List.length_cons,List.length_nil] at this ⊢); omega)) (by have:=HLN.out; (try simp only [List.length_append,List.length_cons,List.length_nil] at this ⊢); omega)).mono fun e w' ⟨g1,g2,g3,g4⟩=>⟨_,g1,rfl,g2,g3,g4⟩
 refine wpG_past (i:=9) (by kernel_rfl) rfl (by kernel_rfl) (fun K hK=>?_)
 refine step_callG (by rfl) (.func 153) [.tmp 75,.tmp 83] _ (by rfl) 153 _ fnDone (by rfl) _ (by rfl) _ had ?_
 rintro v7y w7y ⟨rfl,hk7,hb7,hx7⟩
 have kk0:=hk7.blk (.inr (.inr ⟨by omega,by omega⟩)) HKK0.out
 have kk1:=hk7.blk (.inr (.inr ⟨by omega,by omega⟩)) HKK1.out
 have hS7:(fun w':World=>w'.cell? ⟨W.heap.size,0,none⟩=some (.pointer (some ⟨C.tb,0,none⟩))/\w'.cell? ⟨C.tb,6,none⟩=some (.pointer (some ⟨C.sb,0,none⟩))/\w'.cell? ⟨W.heap.size+1,2,none⟩=some (.string t.s)) w7y:=⟨zc kk0 rfl,hx7.cells.1,zc kk1 rfl⟩
 refine hK.out _ _ hS7 ?_
 clear hK K had
 (try simp only [Act.put,zP])
 refine wpG_past (i:=10) (by kernel_rfl) rfl (by kernel_rfl) (fun K hK=>?_)
 (try simp only [zA,zB,zC])
 go_simp
 refine hK.out _ _ hS7 ?_
 clear hK K
 (try simp only [Act.put,zP])
 refine wpG_done (by kernel_rfl) ?_
 refine NoPanic.normal ?_
 have HK7y:=zh (HKP6.out.trans hk7)
 have HX7y:=zh hx7
 have HB7y:=zh hb7
 have HQ0y:=zh kk0
 have HQ1y:=zh kk1
 clear hk7 hx7 hb7 hS7 HKP6 HX6 kk0 HKK0 kk1 HKK1
 go_wp2_with fail
 go_ret
 have HF:=zh (TI.less (lo:=W.heap.size) (hi:=hi) (C:=C) ⟨HX7y.out,(show ∀ {a b:Nat},a=b->FB a (closeE S2 t.s yv).2->FB b (closeE S2 t.s yv).2 from fun e h=>e▸h) (by simp only [List.length_append,List.length_cons,List.length_nil]) (HX9.out.fb.close_ t.s yv)⟩)
 have hkk:=HK37.out.trans (n0:=C.n0) (kb:=C.kb) (show Kpt C.n0 C.kb w7 w7y from ⟨(HK9.out.trans HK7y.out).size,fun b hb hk=>(HK9.out.trans HK7y.out).kept b hb (hk.elim .inl fun h=>.inr (.inl h))⟩)
 refine ⟨rfl,hkk,HB7y.out,?_⟩
 have:=HF.out
 simpa using this
theorem tstack_any {G:List PR->T->Prop} {C:TC} (hC:C.Ok) {W:World} {S S2:ST} {L0 L:List SS} (h:TI C W S L0) (t:T) (v:Value) (back:Bool) (h2:(openE S ⟨t.s,3,0⟩ 0).1=0) (hB:BlkC G back (blkL back (kid t 0)) (openE S ⟨t.s,3,0⟩ 0).2 L S2) (h5:(closeE S2 t.s 0).1=0)
  (hln:L0.length+((openE S ⟨t.s,3,0⟩ 0).2.state::L++[(closeE S2 t.s 0).2.state]).length<=900000) (hv:NV C.w Any t v) (hk:t.k=55) (hkl:t.ks.length=1) (hG1:∀ u∈(kid t 0).ks,G C.p.prs u) :
  Calls Tryz.prog 151 #[.pointer (some ⟨C.tb,0,none⟩),v,.bool back] W fun e W'=>e=.returned (.int .i64 0)/\TrP C W (closeE S2 t.s 0).2 (L0++((openE S ⟨t.s,3,0⟩ 0).2.state::L++[(closeE S2 t.s 0).2.state])) W':=by
 obtain ⟨A,c,rfl,hfld,hlk,hlc,hrow⟩:=hv.open_
 have HLN:=zh hln
 have HC:=zh hC
 have H:=zh h
 have hbv:=bV2
 have hmf:∀ (fn:Fn) (first cap:Array Value) (w:World),(Instr.makeFunc fn first cap).run Tryz.prog w=.ok (.func fn first cap) w:=fun _ _ _ _=>rfl
 have HXI:=zh (show I64 0 from zero_I64)
 have HCUR:=zh (show S.cur.vs.length+1<=4398046511000 by have:=h.fb.cur; have:=h.ex.len; omega)
 have HFV:=zh (show FldV ⟨t.s,3,0⟩ from ⟨hfld.2.2,by simp only; omega,by simp only; omega⟩)
 have i0:0<t.ks.length:=by omega
 have i0':(0:Int)<(t.ks.length:Int):=by omega
 obtain ⟨a,u0,Au0,cu0,rfl,-,hu0,⟨p0,p1,p2,p3⟩,hnu0⟩:=hrow.nd i0
 have ha0:a.add (0*4)=a:=by unfold Addr.add; split<;>simp_all
 rw [ha0] at p0 p1 p2 p3
 have HPP0:=zh (show ∀ w',Below C.w.heap.size C.w w'->(w'.cell? a=some (.int .u8 u0.k)/\w'.cell? ⟨a.block,a.off+1,none⟩=some (.int .i64 u0.n)/\w'.cell? ⟨a.block,a.off+2,none⟩=some (.string u0.s)/\w'.cell? ⟨a.block,a.off+3,none⟩=some (.slice Au0 u0.ks.length cu0)) from fun w' hb=>⟨zb hb p0,zb hb p1,zb hb p2,zb hb p3⟩)
 have e0:kid t 0=u0:=by unfold kid; rw [List.getD_eq_getElem?_getD,List.getElem?_eq_getElem i0]; exact hu0.out
 rw [e0] at hB hG1
 have HBC:=zh hB
 have HGU:=zh hG1
 have HNU:=zh hnu0
 obtain ⟨t1,ht1⟩:∃ x,fstT back t=x:=⟨_,rfl⟩
 obtain ⟨t2,ht2⟩:∃ x,lstT back t=x:=⟨_,rfl⟩
 have HEN:=zh (fun w' (hb:Below C.w.heap.size C.w w')=>tends_any t _ back C.w w' hb hv (by omega))
 rw [ht1,ht2,hk] at HEN
 have H2:=zh h2
 have H5:=zh h5
 have HBW:=zh h.below
 have hb0:=bl_al (bl_al (Below.refl W.heap.size W) (.cells #[.pointer (some ⟨C.tb,0,none⟩)] 117)) (.cells #[.int .u8 t.k,.int .i64 t.n,.string t.s,.slice (some a) t.ks.length c] 29)
 have k0:=blk_al (heap_alloc_new W (.cells #[.pointer (some ⟨C.tb,0,none⟩)] 117)) (.cells #[.int .u8 t.k,.int .i64 t.n,.string t.s,.slice (some a) t.ks.length c] 29)
 have k4:=heap_alloc_new (W.alloc (.cells #[.pointer (some ⟨C.tb,0,none⟩)] 117)) (.cells #[.int .u8 t.k,.int .i64 t.n,.string t.s,.slice (some a) t.ks.length c] 29)
 rw [World.size_alloc] at k4
 obtain ⟨w0,hw0⟩:∃ x,(W.alloc (.cells #[.pointer (some ⟨C.tb,0,none⟩)] 117)).alloc (.cells #[.int .u8 t.k,.int .i64 t.n,.string t.s,.slice (some a) t.ks.length c] 29)=x:=⟨_,rfl⟩
 rw [hw0] at hb0 k0 k4
 rw [hk] at k4
 have HKK:=zh hk
 have HKL:=zh hkl
 have HB0:=zh hb0
 have K0:=zh k0
 have K4:=zh k4
 have x3:w0.cell? ⟨W.heap.size+1,2,none⟩=some (.string t.s):=zc k4 rfl
 clear hrow h hC hln hB hG1 h2 h5 hb0 k0 k4 ha0 ht1 ht2 p0 p1 p2 p3 hu0 e0 hv hlk hfld hk hkl
 go_enter Tryz.func151,Tryz.ntmps151
 rw [HKK.out] at hw0 ⊢
 go_upto_region 2 with fail
 (try rw [hw0])
 clear hw0 x3
 have hb1:=bl_al (Below.refl w0.heap.size w0) (.cells #[.string t.s,.int .u8 3,.int .i64 0] 83)
 have k7:=heap_alloc_new w0 (.cells #[.string t.s,.int .u8 3,.int .i64 0] 83)
 obtain ⟨w1,hw1⟩:∃ x,w0.alloc (.cells #[.string t.s,.int .u8 3,.int .i64 0] 83)=x:=⟨_,rfl⟩
 obtain ⟨b7,hb7⟩:∃ x,w0.heap.size=x:=⟨_,rfl⟩
 rw [hw1] at hb1 k7 ⊢
 rw [hb7] at k7 ⊢
 have HB1:=zh (bl_tt HB0.out hb1)
 have K7:=zh k7
 have h7:W.heap.size+1<b7:=by have:=blk_lt K4.out; omega
 have H7:=zh h7
 have x3:w1.cell? ⟨W.heap.size+1,3,none⟩=some (.slice (some a) t.ks.length c):=zc (blk_bl K4.out hb1) rfl
 obtain ⟨p0,p1,p2,p3⟩:=HPP0.out w1 (bl_tt HBW.out HB1.out)
 have K4b:=zh (blk_bl K4.out hb1)
 have K0b:=zh (blk_bl K0.out hb1)
 clear hb1 k7 hw1 hb7 K4 K0 h7
 go_upto_region 3 with fail
 have hb2:=bl_al (Below.refl w1.heap.size w1) (.cells #[.int .u8 u0.k,.int .i64 u0.n,.string u0.s,.slice Au0 u0.ks.length cu0] 29)
 have k8:=heap_alloc_new w1 (.cells #[.int .u8 u0.k,.int .i64 u0.n,.string u0.s,.slice Au0 u0.ks.length cu0] 29)
 obtain ⟨w2,hw2⟩:∃ x,w1.alloc (.cells #[.int .u8 u0.k,.int .i64 u0.n,.string u0.s,.slice Au0 u0.ks.length cu0] 29)=x:=⟨_,rfl⟩
 obtain ⟨b8,hb8⟩:∃ x,w1.heap.size=x:=⟨_,rfl⟩
 rw [hw2] at hb2 k8 ⊢
 rw [hb8] at k8 ⊢
 have h8:b7<b8:=by have:=blk_lt K7.out; omega
 have H8:=zh h8
 have HB2:=zh (bl_tt HB1.out hb2)
 have K8:=zh k8
 have K4:=zh (blk_bl K4b.out hb2)
 have K0:=zh (blk_bl K0b.out hb2)
 have K7b:=zh (blk_bl K7.out hb2)
 clear hb2 k8 hw2 hb8 p0 p1 p2 p3 x3 K4b K0b K7 h8
 have x0:w2.cell? ⟨W.heap.size+1,0,none⟩=some (.int .u8 55):=zc K4.out rfl
 go_upto_region 8 with fail
 clear x0
 obtain ⟨x0,x1,x2,x3⟩:=box4 K4.out
 go_wp2_with fail
 refine (HEN.out w2 (bl_tt HBW.out HB2.out)).mono ?_
 rintro e w5 ⟨v1,v2,rfl,n1,n2,b5⟩
 obtain ⟨A1,c1,rfl,-⟩:=n1.open_
 obtain ⟨A2,c2,rfl,-⟩:=n2.open_
 have HN1:=zh n1
 have HN2:=zh n2
 have b6:=bl_al (bl_al (bl_tt (Below.refl _ _) b5) (.cells #[.int .u8 t1.k,.int .i64 t1.n,.string t1.s,.slice A1 t1.ks.length c1] 29)) (.cells #[.int .u8 t2.k,.int .i64 t2.n,.string t2.s,.slice A2 t2.ks.length c2] 29)
 have k10:=blk_al (heap_alloc_new w5 (.cells #[.int .u8 t1.k,.int .i64 t1.n,.string t1.s,.slice A1 t1.ks.length c1] 29)) (.cells #[.int .u8 t2.k,.int .i64 t2.n,.string t2.s,.slice A2 t2.ks.length c2] 29)
 have k11:=heap_alloc_new (w5.alloc (.cells #[.int .u8 t1.k,.int .i64 t1.n,.string t1.s,.slice A1 t1.ks.length c1] 29)) (.cells #[.int .u8 t2.k,.int .i64 t2.n,.string t2.s,.slice A2 t2.ks.length c2] 29)
 rw [World.size_alloc] at k11
 obtain ⟨w6,hw6⟩:∃ x,(w5.alloc (.cells #[.int .u8 t1.k,.int .i64 t1.n,.string t1.s,.slice A1 t1.ks.length c1] 29)).alloc (.cells #[.int .u8 t2.k,.int .i64 t2.n,.string t2.s,.slice A2 t2.ks.length c2] 29)=x:=⟨_,rfl⟩
 obtain ⟨b10,hb10⟩:∃ x,w5.heap.size=x:=⟨_,rfl⟩
 rw [hw6] at b6 k10 k11
 rw [hb10] at k10 k11
 have HB6:=zh (HB2.out.trans (b6.mono HB2.out.size))
 obtain ⟨hC1,h1'⟩:=H.out.plus HC.out HB6.out
 have HP3:=zh (Kpt.of_below (n0:=C.n0) (kb:=C.kb) HB6.out)
 have J0:=zh (blk_bl K0.out b6)
 have J4:=zh (blk_bl K4.out b6)
 have J7:=zh (blk_bl K7b.out b6)
 have J8:=zh (blk_bl K8.out b6)
 have J10:=zh k10
 have J11:=zh k11
 have l0:=blk_lt J0.out
 have l4:=blk_lt J4.out
 have l7:=blk_lt J7.out
 have l8:=blk_lt J8.out
 have l10:=blk_lt J10.out
 have l11:=blk_lt J11.out
 have hwz:=HB6.out.size
 have h10:W.heap.size<=b10:=by have:=(bl_tt HB2.out b5).size; omega
 obtain ⟨hi,hhi⟩:∃ x,w6.heap.size=x:=⟨_,rfl⟩
 rw [hhi] at hC1 h1' l0 l4 l7 l8 l10 l11 hwz
 have HC1:=zh hC1
 have H1:=zh h1'
 have hq7:=H7.out
 have hq8:=H8.out
 clear n1 n2 b5 b6 k10 k11 hC1 h1' hhi x0 x1 x2 x3 HEN K0 K4 K7b K8
 go_upto_region 9 with fail
 (try rw [hw6])
 (try rw [hb10])
 clear hw6 hb10
 obtain ⟨y0,y1,y2,y3⟩:=box4 J10.out
 have HV1:=zh (lnil_any _ t1 C.w w6 HN1.out)
 go_wp2_with fail
 refine HV1.out.mono ?_
 rintro e w7 ⟨rfl,b7'⟩
 have HX7:=zh (H1.out.later b7')
 have Q0:=zh (blk_bl J0.out b7')
 have Q4:=zh (blk_bl J4.out b7')
 have Q7:=zh (blk_bl J7.out b7')
 have Q8:=zh (blk_bl J8.out b7')
 have Q11:=zh (blk_bl J11.out b7')
 have HK37:=zh (HP3.out.trans (Kpt.of_below b7'))
 clear y0 y1 y2 y3 HV1 b7' J0 J4 J7 J8 J10 J11
 skip
 go_upto_region 12 with fail
 have hSS:(fun w':World=>w'.cell? ⟨W.heap.size,0,none⟩=some (.pointer (some ⟨C.tb,0,none⟩))/\w'.cell? ⟨C.tb,6,none⟩=some (.pointer (some ⟨C.sb,0,none⟩))/\w'.cell? ⟨b7,0,none⟩=some (.string t.s)/\w'.cell? ⟨b7,1,none⟩=some (.int .u8 3)/\w'.cell? ⟨b7,2,none⟩=some (.int .i64 0)) w7.drew/\(fun _:World=>True) w7.drew:=⟨⟨zc (blk_bl Q0.out (Below.refl _ _).drew) rfl,(HX7.out.ex.later (Below.refl _ _).drew).cells.1,zc (blk_bl Q7.out (Below.refl _ _).drew) rfl,zc (blk_bl Q7.out (Below.refl _ _).drew) rfl,zc (blk_bl Q7.out (Below.refl _ _).drew) rfl⟩,trivial⟩
 refine wp_region_noPanic ?_
 refine wp_region_G (fun w':World=>w'.cell? ⟨W.heap.size,0,none⟩=some (.pointer (some ⟨C.tb,0,none⟩))/\w'.cell? ⟨C.tb,6,none⟩=some (.pointer (some ⟨C.sb,0,none⟩))/\w'.cell? ⟨b7,0,none⟩=some (.string t.s)/\w'.cell? ⟨b7,1,none⟩=some (.int .u8 3)/\w'.cell? ⟨b7,2,none⟩=some (.int .i64 0)) (fun _:World=>True) 8 (by kernel_rfl) ?_
 refine zT 0 hSS ?_
 (try simp only [Act.put,zP])
 refine zT 1 hSS ?_
 (try simp only [Act.put,zP])
 refine zT 2 hSS ?_
 (try simp only [Act.put,zP])
 refine zT 3 hSS ?_
 (try simp only [Act.put,zP])
 refine zT 4 hSS ?_
 (try simp only [Act.put,zP])
 refine zT 5 hSS ?_
 (try simp only [Act.put,zP])
 refine zT 6 hSS ?_
 (try simp only [Act.put,zP])
 have hbd:Below w7.heap.size w7 w7.drew:=(Below.refl _ _).drew
 have had:Calls Tryz.prog 185 [.pointer (some ⟨C.sb,0,none⟩),.agg #[.string t.s,.int .u8 3,.int .i64 0],.int .i64 0].toArray w7.drew fun e w'=>∃ v,e=.returned v/\(v=.int .i64 0/\TX (C.plus W.heap.size hi) w' (openE S ⟨t.s,3,0⟩ 0).2 L0/\Kpt C.n0 (C.plus W.heap.size hi).kb w7 w') :=
  (TX.call (R:=(openE S ⟨t.s,3,0⟩ 0)) (HX7.out.ex.later hbd) fun kb hkb=>hkb.open_ ⟨t.s,3,0⟩ HFV.out 0 HXI.out HCUR.out).mono fun e w' ⟨g1,g2,g3⟩=>⟨_,g1,by rw [H2.out],g2,(Kpt.of_below hbd).trans g3⟩
 refine wpG_one (i:=7) (by kernel_rfl) rfl (fun K hK=>?_)
 refine step_callG (by rfl) (.func 185) [.tmp 51,.tmp 52,.tmp 53] _ (by rfl) 185 _ fnOpenT (by rfl) _ (by rfl) _ had ?_
 rintro v6x w6x ⟨rfl,hx6,hk6⟩
 have kk0:=hk6.blk (.inr (.inr ⟨by omega,by omega⟩)) Q0.out
 have kk1:=hk6.blk (.inr (.inr ⟨by omega,by omega⟩)) Q7.out
 have kk2:=hk6.blk (.inr (.inr ⟨by omega,by omega⟩)) Q8.out
 have kk3:=hk6.blk (.inr (.inr ⟨by omega,by omega⟩)) Q11.out
 have kk4:=hk6.blk (.inr (.inr ⟨by omega,by omega⟩)) Q4.out
 have hS6:(fun w':World=>w'.cell? ⟨W.heap.size,0,none⟩=some (.pointer (some ⟨C.tb,0,none⟩))/\w'.cell? ⟨C.tb,6,none⟩=some (.pointer (some ⟨C.sb,0,none⟩))/\w'.cell? ⟨b7,0,none⟩=some (.string t.s)/\w'.cell? ⟨b7,1,none⟩=some (.int .u8 3)/\w'.cell? ⟨b7,2,none⟩=some (.int .i64 0)) w6x:=⟨zc kk0 rfl,hx6.cells.1,zc kk1 rfl,zc kk1 rfl,zc kk1 rfl⟩
 refine hK.out _ _ ⟨hS6,trivial⟩ ?_
 have HX6:=zh hx6
 have HKP6:=zh hk6
 have HKK0:=zh kk0
 have HKK1:=zh kk1
 have HKK2:=zh kk2
 have HKK3:=zh kk3
 have HKK4:=zh kk4
 clear hK K had hSS hx6 hk6 hS6 hbd kk0 kk1 kk2 kk3 kk4
 (try simp only [Act.put,zP])
 have had:Calls Tryz.prog 153 [.pointer (some ⟨C.tb,0,none⟩),.int .i64 0].toArray w6x fun e w'=>∃ v,e=.returned v/\(v=.int .i64 0/\Kpt C.n0 (C.plus W.heap.size hi).kb w6x w'/\Below C.w.heap.size C.w w'/\TX (C.plus W.heap.size hi) w' (openE S ⟨t.s,3,0⟩ 0).2 (L0++[(openE S ⟨t.s,3,0⟩ 0).2.state])) :=
  (done_any HC1.out HX6.out (st_sm HX6.out.ks.wf (by have:=H1.out.fb.open_ ⟨t.s,3,0⟩ 0; simpa using this) (by have:=HLN.out; (try simp only [List.length_append,List.length_cons,List.length_nil] at this ⊢); omega)) (by have:=HLN.out; (try simp only [List.length_append,List.length_cons,List.length_nil] at this ⊢); omega)).mono fun e w' ⟨g1,g2,g3,g4⟩=>⟨_,g1,rfl,g2,g3,g4⟩
 refine wpG_past (i:=8) (by kernel_rfl) rfl (by kernel_rfl) (fun K hK=>?_)
 refine step_callG (by rfl) (.func 153) [.tmp 47,.tmp 54] _ (by rfl) 153 _ fnDone (by rfl) _ (by rfl) _ had ?_
 rintro v7x w7x ⟨rfl,hk7,hb7,hx7⟩
 have kk0:=hk7.blk (.inr (.inr ⟨by omega,by omega⟩)) HKK0.out
 have kk1:=hk7.blk (.inr (.inr ⟨by omega,by omega⟩)) HKK1.out
 have kk2:=hk7.blk (.inr (.inr ⟨by omega,by omega⟩)) HKK2.out
 have kk3:=hk7.blk (.inr (.inr ⟨by omega,by omega⟩)) HKK3.out
 have kk4:=hk7.blk (.inr (.inr ⟨by omega,by omega⟩)) HKK4.out
 have hS7:(fun w':World=>w'.cell? ⟨W.heap.size,0,none⟩=some (.pointer (some ⟨C.tb,0,none⟩))/\w'.cell? ⟨C.tb,6,none⟩=some (.pointer (some ⟨C.sb,0,none⟩))/\w'.cell? ⟨b7,0,none⟩=some (.string t.s)/\w'.cell? ⟨b7,1,none⟩=some (.int .u8 3)/\w'.cell? ⟨b7,2,none⟩=some (.int .i64 0)) w7x:=⟨zc kk0 rfl,hx7.cells.1,zc kk1 rfl,zc kk1 rfl,zc kk1 rfl⟩
 refine hK.out _ _ hS7 ?_
 clear hK K had
 (try simp only [Act.put,zP])
 refine wpG_past (i:=9) (by kernel_rfl) rfl (by kernel_rfl) (fun K hK=>?_)
 (try simp only [zA,zB,zC])
 go_simp
 refine hK.out _ _ hS7 ?_
 clear hK K
 (try simp only [Act.put,zP])
 refine wpG_done (by kernel_rfl) ?_
 refine NoPanic.normal ?_
 have HK7x:=zh (HKP6.out.trans hk7)
 have HX7x:=zh hx7
 have HB7x:=zh hb7
 have HQ0x:=zh kk0
 have HQ1x:=zh kk1
 have HQ2x:=zh kk2
 have HQ3x:=zh kk3
 have HQ4x:=zh kk4
 clear hk7 hx7 hb7 hS7 HKP6 HX6 kk0 HKK0 kk1 HKK1 kk2 HKK2 kk3 HKK3 kk4 HKK4
 have HT7:=zh (show TI (C.plus W.heap.size hi) w7x (openE S ⟨t.s,3,0⟩ 0).2 (L0++[(openE S ⟨t.s,3,0⟩ 0).2.state]) from ⟨HX7x.out,by have:=H1.out.fb.open_ ⟨t.s,3,0⟩ 0; simpa using this⟩)
 have HBK:=zh (tblock_any HC1.out HT7.out u0 _ back HBC.out (by have:=HLN.out; simp only [List.length_append,List.length_cons,List.length_nil] at this ⊢; omega) HNU.out HGU.out)
 have z0:w7x.cell? ⟨W.heap.size,0,none⟩=some (.pointer (some ⟨C.tb,0,none⟩)):=zc HQ0x.out rfl
 obtain ⟨m0,m1,m2,m3⟩:=box4 HQ2x.out
 go_wp2_with fail
 refine HBK.out.mono ?_
 rintro e w8 ⟨rfl,hk8,hb8,hr8⟩
 have HK8:=zh (HK7x.out.trans hk8)
 have HR8:=zh hr8
 have G0:=zh (hk8.blk (.inr (.inr ⟨by omega,by omega⟩)) HQ0x.out)
 have G11:=zh (hk8.blk (.inr (.inr ⟨by omega,by omega⟩)) HQ3x.out)
 have G4:=zh (hk8.blk (.inr (.inr ⟨by omega,by omega⟩)) HQ4x.out)
 clear z0 m0 m1 m2 m3 hk8 hb8 hr8 HBK
 obtain ⟨y0,y1,y2,y3⟩:=box4 G11.out
 have HV2:=zh (lnil_any _ t2 C.w w8 HN2.out)
 go_wp2_with fail
 refine HV2.out.mono ?_
 rintro e w9 ⟨rfl,b9⟩
 have HX9:=zh (HR8.out.later b9)
 have P0:=zh (blk_bl G0.out b9)
 have P4:=zh (blk_bl G4.out b9)
 have HK9:=zh (HK8.out.trans (Kpt.of_below b9))
 clear y0 y1 y2 y3 HV2 b9
 go_upto_region 21 with fail
 have hSS:(fun w':World=>w'.cell? ⟨W.heap.size,0,none⟩=some (.pointer (some ⟨C.tb,0,none⟩))/\w'.cell? ⟨C.tb,6,none⟩=some (.pointer (some ⟨C.sb,0,none⟩))/\w'.cell? ⟨W.heap.size+1,2,none⟩=some (.string t.s)) w9.drew/\(fun _:World=>True) w9.drew:=⟨⟨zc (blk_bl P0.out (Below.refl _ _).drew) rfl,(HX9.out.ex.later (Below.refl _ _).drew).cells.1,zc (blk_bl P4.out (Below.refl _ _).drew) rfl⟩,trivial⟩
 refine wp_region_noPanic ?_
 refine wp_region_G (fun w':World=>w'.cell? ⟨W.heap.size,0,none⟩=some (.pointer (some ⟨C.tb,0,none⟩))/\w'.cell? ⟨C.tb,6,none⟩=some (.pointer (some ⟨C.sb,0,none⟩))/\w'.cell? ⟨W.heap.size+1,2,none⟩=some (.string t.s)) (fun _:World=>True) 9 (by kernel_rfl) ?_
 refine zT 0 hSS ?_
 (try simp only [Act.put,zP])
 refine zT 1 hSS ?_
 (try simp only [Act.put,zP])
 refine zT 2 hSS ?_
 (try simp only [Act.put,zP])
 refine zT 3 hSS ?_
 (try simp only [Act.put,zP])
 refine zT 4 hSS ?_
 (try simp only [Act.put,zP])
 refine zT 5 hSS ?_
 (try simp only [Act.put,zP])
 refine zT 6 hSS ?_
 (try simp only [Act.put,zP])
 refine zT 7 hSS ?_
 (try simp only [Act.put,zP])
 have hbd:Below w9.heap.size w9 w9.drew:=(Below.refl _ _).drew
 have had:Calls Tryz.prog 186 [.pointer (some ⟨C.sb,0,none⟩),.string t.s,.int .i64 0].toArray w9.drew fun e w'=>∃ v,e=.returned v/\(v=.int .i64 0/\TX (C.plus W.heap.size hi) w' (closeE S2 t.s 0).2 (L0++[(openE S ⟨t.s,3,0⟩ 0).2.state]++L)/\Kpt C.n0 (C.plus W.heap.size hi).kb w9 w') :=
  (TX.call (R:=(closeE S2 t.s 0)) (HX9.out.ex.later hbd) fun kb hkb=>hkb.close t.s 0).mono fun e w' ⟨g1,g2,g3⟩=>⟨_,g1,by rw [H5.out],g2,(Kpt.of_below hbd).trans g3⟩
 refine wpG_one (i:=8) (by kernel_rfl) rfl (fun K hK=>?_)
 refine step_callG (by rfl) (.func 186) [.tmp 79,.tmp 81,.tmp 82] _ (by rfl) 186 _ fnCloseT (by rfl) _ (by rfl) _ had ?_
 rintro v6y w6y ⟨rfl,hx6,hk6⟩
 have kk0:=hk6.blk (.inr (.inr ⟨by omega,by omega⟩)) P0.out
 have kk1:=hk6.blk (.inr (.inr ⟨by omega,by omega⟩)) P4.out
 have hS6:(fun w':World=>w'.cell? ⟨W.heap.size,0,none⟩=some (.pointer (some ⟨C.tb,0,none⟩))/\w'.cell? ⟨C.tb,6,none⟩=some (.pointer (some ⟨C.sb,0,none⟩))/\w'.cell? ⟨W.heap.size+1,2,none⟩=some (.string t.s)) w6y:=⟨zc kk0 rfl,hx6.cells.1,zc kk1 rfl⟩
 refine hK.out _ _ ⟨hS6,trivial⟩ ?_
 have HX6:=zh hx6
 have HKP6:=zh hk6
 have HKK0:=zh kk0
 have HKK1:=zh kk1
 clear hK K had hSS hx6 hk6 hS6 hbd kk0 kk1
 (try simp only [Act.put,zP])
 have had:Calls Tryz.prog 153 [.pointer (some ⟨C.tb,0,none⟩),.int .i64 0].toArray w6y fun e w'=>∃ v,e=.returned v/\(v=.int .i64 0/\Kpt C.n0 (C.plus W.heap.size hi).kb w6y w'/\Below C.w.heap.size C.w w'/\TX (C.plus W.heap.size hi) w' (closeE S2 t.s 0).2 ((L0++[(openE S ⟨t.s,3,0⟩ 0).2.state]++L)++[(closeE S2 t.s 0).2.state])) :=
  (done_any HC1.out HX6.out (st_sm HX6.out.ks.wf (by have:=HX9.out.fb.close_ t.s 0; simpa using this) (by have:=HLN.out; (try simp only [List.length_append,List.length_cons,List.length_nil] at this ⊢); omega)) (by have:=HLN.out; (try simp only [List.length_append,List.length_cons,List.length_nil] at this ⊢); omega)).mono fun e w' ⟨g1,g2,g3,g4⟩=>⟨_,g1,rfl,g2,g3,g4⟩
 refine wpG_past (i:=9) (by kernel_rfl) rfl (by kernel_rfl) (fun K hK=>?_)
 refine step_callG (by rfl) (.func 153) [.tmp 75,.tmp 83] _ (by rfl) 153 _ fnDone (by rfl) _ (by rfl) _ had ?_
 rintro v7y w7y ⟨rfl,hk7,hb7,hx7⟩
 have kk0:=hk7.blk (.inr (.inr ⟨by omega,by omega⟩)) HKK0.out
 have kk1:=hk7.blk (.inr (.inr ⟨by omega,by omega⟩)) HKK1.out
 have hS7:(fun w':World=>w'.cell? ⟨W.heap.size,0,none⟩=some (.pointer (some ⟨C.tb,0,none⟩))/\w'.cell? ⟨C.tb,6,none⟩=some (.pointer (some ⟨C.sb,0,none⟩))/\w'.cell? ⟨W.heap.size+1,2,none⟩=some (.string t.s)) w7y:=⟨zc kk0 rfl,hx7.cells.1,zc kk1 rfl⟩
 refine hK.out _ _ hS7 ?_
 clear hK K had
 (try simp only [Act.put,zP])
 refine wpG_past (i:=10) (by kernel_rfl) rfl (by kernel_rfl) (fun K hK=>?_)
 (try simp only [zA,zB,zC])
 go_simp
 refine hK.out _ _ hS7 ?_
 clear hK K
 (try simp only [Act.put,zP])
 refine wpG_done (by kernel_rfl) ?_
 refine NoPanic.normal ?_
 have HK7y:=zh (HKP6.out.trans hk7)
 have HX7y:=zh hx7
 have HB7y:=zh hb7
 have HQ0y:=zh kk0
 have HQ1y:=zh kk1
 clear hk7 hx7 hb7 hS7 HKP6 HX6 kk0 HKK0 kk1 HKK1
 go_wp2_with fail
 go_ret
 have HF:=zh (TI.less (lo:=W.heap.size) (hi:=hi) (C:=C) ⟨HX7y.out,(show ∀ {a b:Nat},a=b->FB a (closeE S2 t.s 0).2->FB b (closeE S2 t.s 0).2 from fun e h=>e▸h) (by simp only [List.length_append,List.length_cons,List.length_nil]) (HX9.out.fb.close_ t.s 0)⟩)
 have hkk:=HK37.out.trans (n0:=C.n0) (kb:=C.kb) (show Kpt C.n0 C.kb w7 w7y from ⟨(HK9.out.trans HK7y.out).size,fun b hb hk=>(HK9.out.trans HK7y.out).kept b hb (hk.elim .inl fun h=>.inr (.inl h))⟩)
 refine ⟨rfl,hkk,HB7y.out,?_⟩
 have:=HF.out
 simpa using this
section
variable {P:Program} {md:Region.Mode} {ops:Array Oper} {Q:Exit->Act->World->Prop} {S1 S2:World->Prop} {k:Nat}
theorem wpG_alt {i j:Nat} {oi oj:Oper} (si sj:Option Nat) (n:Nat) (L:Bool->Bool->Array Bool) (a0:Act) (Inv:World->Prop) (Al Fact:Value->World->Prop)
  (hoi:ops[i]?=some oi) (hoj:ops[j]?=some oj) (hdi:oi.dst=si) (hdj:oj.dst=sj) (hr0:Region.ready md ops (L false false)=[i,j]) (hr1:Region.ready md ops (L false true)=[i])
  (hLi:∀ l4,(L false l4).setIfInBounds i true=L true l4) (hLj:(L false false).setIfInBounds j true=L false true)
  (hS:∀ w,Inv w->S1 w/\S2 w) (hInv:∀ w w',Inv w->Below w.heap.size w w'->Inv w') (hAl:∀ u w w',Al u w->Below w.heap.size w w'->Al u w')
  (hi:∀ (v4:Value) (K:Act->World->Prop) (w:World),Inv w->Shut (∀ v w',Below w.heap.size w w'->Fact v w'->K ((a0.put sj v4).put si v) w')->if Region.wanted oi (yielded ops (a0.put sj v4).tmps)=true then Oper.wp P oi (a0.put sj v4) w K Q else K ((a0.put sj v4).put si undef) w)
  (hj:∀ (v4:Value) (K:Act->World->Prop) (w:World),Inv w->Shut (∀ v w',Below w.heap.size w w'->Al v w'->K ((a0.put sj v4).put sj v) w')->if Region.wanted oj (yielded ops (a0.put sj v4).tmps)=true then Oper.wp P oj (a0.put sj v4) w K Q else K ((a0.put sj v4).put sj undef) w)
  (hpp:∀ u v,(a0.put sj u).put sj v=a0.put sj v)
  (hc:∀ (l4:Bool) (v4 v:Value) (w:World),Inv w->Fact v w->(l4=true->Al v4 w)->(l4=false->v4=undef)->wpG P md ops Q S1 S2 k (n+(!l4).toNat) (L true l4) ((a0.put sj v4).put si v) w) :
  ∀ (l4:Bool) (v4:Value) (w:World),Inv w->(l4=true->Al v4 w)->(l4=false->v4=undef)->a0.put sj v4=a0->wpG P md ops Q S1 S2 k (n+1+(!l4).toNat) (L false l4) a0 w:=by
 subst hdi hdj
 have h1:∀ (v4:Value) (w:World),Inv w->Al v4 w->wpG P md ops Q S1 S2 k (n+1) (L false true) (a0.put oj.dst v4) w:=by
  intro v4 w hI hA
  refine ⟨(fun h0=>by rw [hr1] at h0; cases h0),fun q hq=>?_⟩
  rw [hr1] at hq
  simp only [List.mem_singleton] at hq
  subst hq
  refine wpOp_step hoi fun K' hK=>hi v4 K' w hI ?_
  intro v w' hb hF
  have hI':=hInv _ _ hI hb
  refine hK _ _ ⟨⟨(hS _ hI').1,fun _=>(hS _ hI').2⟩,?_⟩
  rw [hLi]
  exact hc true v4 v w' hI' hF (fun _=>hAl _ _ _ hA hb) (fun h=>by cases h)
 intro l4 v4 w hI hA hU ha
 cases l4
 ·have hv:=hU rfl
  refine ⟨(fun h0=>by rw [hr0] at h0; cases h0),fun q hq=>?_⟩
  rw [hr0] at hq
  simp only [List.mem_cons,List.not_mem_nil,or_false] at hq
  rcases hq with rfl|rfl
  ·refine wpOp_step hoi fun K' hK=>?_
   rw [<-ha]
   refine hi v4 K' w hI ?_
   intro v w' hb hF
   have hI':=hInv _ _ hI hb
   refine hK _ _ ⟨⟨(hS _ hI').1,fun _=>(hS _ hI').2⟩,?_⟩
   rw [hLi]
   exact hc false v4 v w' hI' hF (fun h=>by cases h) (fun _=>hv)
  ·refine wpOp_step hoj fun K' hK=>?_
   rw [<-ha]
   refine hj v4 K' w hI ?_
   intro v w' hb hF
   have hI':=hInv _ _ hI hb
   refine hK _ _ ⟨⟨(hS _ hI').1,fun _=>(hS _ hI').2⟩,?_⟩
   rw [hLj,hpp]
   exact h1 v w' hI' hF
 ·rw [<-ha]
  exact h1 v4 w hI (hA rfl)
theorem wpG_free {j:Nat} {oj:Oper} (sj:Option Nat) (n:Nat) (L:Bool->Array Bool) (a0:Act) (Inv:World->Prop) (Al:Value->World->Prop)
  (hoj:ops[j]?=some oj) (hdj:oj.dst=sj) (hr0:Region.ready md ops (L false)=[j]) (hLj:(L false).setIfInBounds j true=L true)
  (hS:∀ w,Inv w->S1 w/\S2 w) (hInv:∀ w w',Inv w->Below w.heap.size w w'->Inv w')
  (hj:∀ (v4:Value) (K:Act->World->Prop) (w:World),Inv w->Shut (∀ v w',Below w.heap.size w w'->Al v w'->K ((a0.put sj v4).put sj v) w')->if Region.wanted oj (yielded ops (a0.put sj v4).tmps)=true then Oper.wp P oj (a0.put sj v4) w K Q else K ((a0.put sj v4).put sj undef) w)
  (hpp:∀ u v,(a0.put sj u).put sj v=a0.put sj v)
  (hc:∀ (v4:Value) (w:World),Inv w->Al v4 w->wpG P md ops Q S1 S2 k n (L true) (a0.put sj v4) w) :
  ∀ (l4:Bool) (v4:Value) (w:World),Inv w->(l4=true->Al v4 w)->a0.put sj v4=a0->wpG P md ops Q S1 S2 k (n+(!l4).toNat) (L l4) a0 w:=by
 subst hdj
 intro l4 v4 w hI hA ha
 cases l4
 ·refine ⟨(fun h0=>by rw [hr0] at h0; cases h0),fun q hq=>?_⟩
  rw [hr0] at hq
  simp only [List.mem_singleton] at hq
  subst hq
  refine wpOp_step hoj fun K' hK=>?_
  rw [<-ha]
  refine hj v4 K' w hI ?_
  intro v w' hb hF
  have hI':=hInv _ _ hI hb
  refine hK _ _ ⟨⟨(hS _ hI').1,fun _=>(hS _ hI').2⟩,?_⟩
  rw [hLj,hpp]
  exact hc v w' hI' hF
 ·rw [<-ha]
  exact hc v4 w hI (hA rfl)
end
theorem bStr (s:ByteArray) (w:World):(Instr.buildSlice 232 1 #[(0,.string s)]).run Tryz.prog w=.ok (.slice (some ⟨w.heap.size,0,none⟩) 1 1) (w.alloc (.cells #[.string s] 9)):=by kernel_rfl
theorem wpList_append_Str {ops:Array Oper} {rest:List Oper} {o:Oper} {a:Act} {W:World} {Q:Exit->Act->World->Prop} (hgd:o.guard=none) (s x:Operand)
  (ho:o.op=.call { callee:=.builtin .append,args := #[s,x],argTypes := #[232,232] }) (base:Nat) (v:Value) (n:Nat) (xs:List Value) (hs:a.eval s=v) (hrow:W.ownsRow base 9 1 v n xs)
  (ad:Addr) (y:ByteArray) (hx:a.eval x=.slice (some ad) 1 1) (hc:W.cell? ad=some (.string y)) (hl:n+1<=2513169434917) (hb:base<=W.heap.size)
  (h:∀ v' w',w'.ownsRow base 9 1 v' (n+1) (xs++[.string y])->W.grownBy w' v.ownBlock->(v'.ownBlock=v.ownBlock\/v'.ownBlock=some W.heap.size)->wpList Tryz.prog ops Q rest (a.put o.dst v') w') :
  wpList Tryz.prog ops Q (o::rest) a W:=by
 obtain ⟨i,hi,hz0,hz1,hz2⟩:=info_parts strInf
 refine wpList_append_own_at (P:=Tryz.prog) _ hgd s x 232 ho base 9 i _ 1 16 Tryz.underlying232 hi hz0 hz1 hz2 rfl (by decide) v n xs hs hrow ad 1 1 [.string y] hx (by simp) (fun j u hj=>?_) (fun u hu=>?_) (by unfold maxLen; omega) (by omega) hb (fun v' w' h1 h2 _ h4=>h v' w' h1 h2 h4)
 ·rcases j with _|j
  ·have e:ad.add 0=ad:=by unfold Addr.add; split<;>simp_all
   rw [e,hc]
   simpa using hj
  ·simp at hj
 ·simp only [List.mem_singleton] at hu
  subst hu
  rfl
theorem own_rowS {w:World} {base:Nat} {A:Option Addr} {n c:Nat} {l:List ByteArray} (h:w.ownsRow base 9 1 (.slice A n c) n (l.map Value.string)):RowS w A l:=fun i hi=>by
 have hn:n=l.length:=by have:=h.1; simpa using this.symm
 rcases h.2 with ⟨e1,e2⟩|⟨g,cap,cur,e1,h3,hg,-⟩
 ·omega
 ·injection e1 with e1
  subst e1
  refine ⟨⟨g,0,none⟩,rfl,?_⟩
  rw [Addr.add_lit,Nat.zero_add,h.cellAt i (by omega)]
  simp [hi]
theorem set6 {W:World} {b:Nat} {x0 x1 x2 x3 x4 x5 u0 u1 u2 u3 u4 u5:Value} {E:TypeId} (h:W.heap[b]?=some (.cells #[x0,x1,x2,x3,x4,x5] E (0,0))) :
  ((((((W.setCell ⟨b,0,none⟩ u0).setCell ⟨b,1,none⟩ u1).setCell ⟨b,2,none⟩ u2).setCell ⟨b,3,none⟩ u3).setCell ⟨b,4,none⟩ u4).setCell ⟨b,5,none⟩ u5).heap[b]?=some (.cells #[u0,u1,u2,u3,u4,u5] E (0,0)) /\
   Chg (fun q=>q=b) W ((((((W.setCell ⟨b,0,none⟩ u0).setCell ⟨b,1,none⟩ u1).setCell ⟨b,2,none⟩ u2).setCell ⟨b,3,none⟩ u3).setCell ⟨b,4,none⟩ u4).setCell ⟨b,5,none⟩ u5):=by
 refine ⟨?_,((((((Chg.refl (fun q=>q=b) W).setCell (p:=⟨b,0,none⟩) (.inl rfl) _).setCell (p:=⟨b,1,none⟩) (.inl rfl) _).setCell (p:=⟨b,2,none⟩) (.inl rfl) _).setCell (p:=⟨b,3,none⟩) (.inl rfl) _).setCell (p:=⟨b,4,none⟩) (.inl rfl) _).setCell (p:=⟨b,5,none⟩) (.inl rfl) _⟩
 rw [heap_setCell_same _ b 5 _ _ u5 (heap_setCell_same _ b 4 _ _ u4 (heap_setCell_same _ b 3 _ _ u3 (heap_setCell_same _ b 2 _ _ u2 (heap_setCell_same _ b 1 _ _ u1 (heap_setCell_same W b 0 _ _ u0 h)))))]
 simp
theorem tcall_any {G:List PR->T->Prop} {C:TC} (hC:C.Ok) {W:World} {S S2:ST} {L0 L:List SS} (h:TI C W S L0) (t:T) (v:Value) (back:Bool) (hv:NV C.w Any t v) (i:Nat) (hi:prcI C.p.prs t.s=some i) (q:PR) (hq:C.p.prs[i]?=some q)
  (h2:(enterE S q.ps (t.ks.map (·.s))).1=0) (hB:BlkC G back (blkL back q.b) (enterE S q.ps (t.ks.map (·.s))).2 L S2) (h4:(leaveE S2).1=0)
  (hln:L0.length+((enterE S q.ps (t.ks.map (·.s))).2.state::L++[(leaveE S2).2.state]).length<=900000) (hG1:∀ u∈q.b.ks,G C.p.prs u) :
  Calls Tryz.prog 152 #[.pointer (some ⟨C.tb,0,none⟩),v,.bool back] W fun e W'=>e=.returned (.int .i64 0)/\TrP C W (leaveE S2).2 (L0++((enterE S q.ps (t.ks.map (·.s))).2.state::L++[(leaveE S2).2.state])) W':=by
 have HV:=zh hv
 have H:=zh h
 have HC:=zh hC
 have HLN:=zh hln
 have HBC:=zh hB
 have H2:=zh h2
 have H4:=zh h4
 obtain ⟨hpi,hil⟩:=prcI_idx _ _ _ hi
 obtain ⟨A,c,rfl,-,hlk,hlc,hrow⟩:=hv.open_
 have HROW:=zh hrow
 have hb0:=bl_al (Below.refl W.heap.size W) (.cells #[.int .u8 t.k,.int .i64 t.n,.string t.s,.slice A t.ks.length c] 29)
 have k0:=heap_alloc_new W (.cells #[.int .u8 t.k,.int .i64 t.n,.string t.s,.slice A t.ks.length c] 29)
 have HBW:=zh h.below
 obtain ⟨w1,hw1⟩:∃ x,W.alloc (.cells #[.int .u8 t.k,.int .i64 t.n,.string t.s,.slice A t.ks.length c] 29)=x:=⟨_,rfl⟩
 rw [hw1] at hb0 k0
 have HB1:=zh hb0
 have K0:=zh k0
 have HIL:=zh hil
 have HPI:=zh hpi
 have HQ:=zh hq
 have HGU:=zh hG1
 obtain ⟨pa,q1,B1,d1,B2,d2,hA2,-,Hq1,⟨p0,p1,p2,p3,p4,p5⟩,hpr⟩:=hC.pg.procs.nd hil
 obtain rfl:q=q1:=by
  have e:=hq
  rw [List.getElem?_eq_getElem hil,Hq1.out] at e
  injection e with e
  exact e.symm
 have HPRR:=zh hpr
 have HPR:=zh (fun w' (hb:Below w1.heap.size w1 w')=>Proc_any C.p Any (pv C.A1 C.p.vs.length C.c1 C.A2 C.p.prs.length C.c2 C.p.m.k C.p.m.n C.p.m.s C.A3 C.p.m.ks.length C.c3) t.s w' ⟨_,_,_,_,_,_,rfl,HC.out.pg.later (bl_tt HBW.out (bl_tt HB1.out hb))⟩)
 rw [HPI.out,hA2] at HPR
 have HTB:Hid (∃ v1 v2 v3 ev,W.heap[C.tb]?=some (.cells (C.cells v1 v2 v3 ev) 119 (0,0))):=by
  obtain ⟨O,v1,v2,v3,ev,-,-,g3,-⟩:=h.ex
  exact zh ⟨v1,v2,v3,ev,g3⟩
 have HPC:=zh (show C.w.cell? (pa.add (i*6))=_/\_/\_/\_/\_/\_ from ⟨p0,p1,p2,p3,p4,p5⟩)
 have HIL2:=zh (show (i:Int)<(C.p.prs.length:Int) by omega)
 obtain ⟨tb,htb⟩:∃ b,C.tb=b:=⟨_,rfl⟩
 obtain ⟨z1,hz1⟩:∃ b,C.A1=b:=⟨_,rfl⟩
 obtain ⟨z2,hz2⟩:∃ b,C.p.vs.length=b:=⟨_,rfl⟩
 obtain ⟨z3,hz3⟩:∃ b,C.c1=b:=⟨_,rfl⟩
 obtain ⟨z5,hz5⟩:∃ b,C.p.prs.length=b:=⟨_,rfl⟩
 obtain ⟨z6,hz6⟩:∃ b,C.c2=b:=⟨_,rfl⟩
 obtain ⟨z7,hz7⟩:∃ b,C.p.m.k=b:=⟨_,rfl⟩
 obtain ⟨z8,hz8⟩:∃ b,C.p.m.n=b:=⟨_,rfl⟩
 obtain ⟨z9,hz9⟩:∃ b,C.p.m.s=b:=⟨_,rfl⟩
 obtain ⟨z10,hz10⟩:∃ b,C.A3=b:=⟨_,rfl⟩
 obtain ⟨z11,hz11⟩:∃ b,C.p.m.ks.length=b:=⟨_,rfl⟩
 obtain ⟨z12,hz12⟩:∃ b,C.c3=b:=⟨_,rfl⟩
 rw [hz1,hz2,hz3,hz5,hz6,hz7,hz8,hz9,hz10,hz11,hz12] at HPR
 have HSS:=zh (show ∀ w',Below w1.heap.size w1 w'->(fun w':World=>w'.cell? ⟨tb,0,none⟩=some (.slice z1 z2 z3)/\w'.cell? ⟨tb,1,none⟩=some (.slice (some pa) z5 z6)/\w'.cell? ⟨tb,2,none⟩=some (.int .u8 z7)/\w'.cell? ⟨tb,3,none⟩=some (.int .i64 z8)/\w'.cell? ⟨tb,4,none⟩=some (.string z9)/\w'.cell? ⟨tb,5,none⟩=some (.slice z10 z11 z12)/\w'.cell? ⟨W.heap.size,2,none⟩=some (.string t.s)) w' from fun w' hb=>by
  obtain ⟨v1,v2,v3,ev,g3⟩:=HTB.out
  have g4:=blk_bl (blk_bl g3 HB1.out) hb
  rw [htb] at g4
  unfold TC.cells at g4
  rw [hz1,hz2,hz3,hz5,hz6,hz7,hz8,hz9,hz10,hz11,hz12,hA2] at g4
  exact ⟨zc g4 rfl,zc g4 rfl,zc g4 rfl,zc g4 rfl,zc g4 rfl,zc g4 rfl,zc (blk_bl K0.out hb) rfl⟩)
 have hSS:(fun w':World=>w'.cell? ⟨tb,0,none⟩=some (.slice z1 z2 z3)/\w'.cell? ⟨tb,1,none⟩=some (.slice (some pa) z5 z6)/\w'.cell? ⟨tb,2,none⟩=some (.int .u8 z7)/\w'.cell? ⟨tb,3,none⟩=some (.int .i64 z8)/\w'.cell? ⟨tb,4,none⟩=some (.string z9)/\w'.cell? ⟨tb,5,none⟩=some (.slice z10 z11 z12)/\w'.cell? ⟨W.heap.size,2,none⟩=some (.string t.s)) w1.drew/\(fun _:World=>True) w1.drew:=⟨HSS.out _ (Below.refl _ _).drew,trivial⟩
 rw [hz5] at HIL2
 have HT:=zh htb
 have hlk2:t.ks.length<=2513169434916:=by unfold LK at hlk; omega
 obtain ⟨ss,hss⟩:∃ ss,t.ks.map (·.s)=ss:=⟨_,rfl⟩
 have HSL:=zh (show ss.length=t.ks.length by rw [<-hss]; simp)
 rw [hss] at H2 HBC HLN ⊢
 have HSE:=zh (show ∀ j (hj:j<t.ks.length),ss.take j++[t.ks[j].s]=ss.take (j+1) from fun j hj=>by
  rw [<-hss,List.take_succ_eq_append_getElem (by simpa using hj)]
  simp)
 clear hz1 hz2 hz3 hz5 hz6 hz7 hz8 hz9 hz10 hz11 hz12 p0 p1 p2 p3 p4 p5 hpr hA2 hv hb0 k0 h hrow hC hlk hpi Hq1 hil hq hi hB h2 h4 hln hG1 hss HTB
 rw [htb]
 clear htb
 have hi1:=HIL2.out
 have hi0:(0:Int)<=(i:Int):=by omega
 go_enter Tryz.func152,Tryz.ntmps152
 go_upto_region 1 with fail
 (try rw [hw1])
 clear hw1
 refine wp_region_noPanic ?_
 refine wp_region_G (fun w':World=>w'.cell? ⟨tb,0,none⟩=some (.slice z1 z2 z3)/\w'.cell? ⟨tb,1,none⟩=some (.slice (some pa) z5 z6)/\w'.cell? ⟨tb,2,none⟩=some (.int .u8 z7)/\w'.cell? ⟨tb,3,none⟩=some (.int .i64 z8)/\w'.cell? ⟨tb,4,none⟩=some (.string z9)/\w'.cell? ⟨tb,5,none⟩=some (.slice z10 z11 z12)/\w'.cell? ⟨W.heap.size,2,none⟩=some (.string t.s)) (fun _:World=>True) 15 (by kernel_rfl) ?_
 refine zT 0 hSS ?_
 (try simp only [Act.put,zP])
 refine zT 1 hSS ?_
 (try simp only [Act.put,zP])
 refine zT 2 hSS ?_
 (try simp only [Act.put,zP])
 refine zT 3 hSS ?_
 (try simp only [Act.put,zP])
 refine zT 4 hSS ?_
 (try simp only [Act.put,zP])
 refine zT 5 hSS ?_
 (try simp only [Act.put,zP])
 refine zT 6 hSS ?_
 (try simp only [Act.put,zP])
 refine zT 7 hSS ?_
 (try simp only [Act.put,zP])
 refine zT 8 hSS ?_
 (try simp only [Act.put,zP])
 refine zT 9 hSS ?_
 (try simp only [Act.put,zP])
 refine zT 10 hSS ?_
 (try simp only [Act.put,zP])
 have hI:(fun w=>Below w1.heap.size w1 w) w1.drew:=(Below.refl _ _).drew
 clear hSS
 -- operation 11
 refine wpG_alt (i:=11) (j:=14) (some 24) (some 7) 3 (fun li l4 => #[true,true,true,true,true,true,true,true,true,true,true,li,false,false,l4,false]) _ (fun w=>Below w1.heap.size w1 w) (fun u w=>∃ b,u=.pointer (some ⟨b,0,none⟩)/\w1.heap.size<=b/\w.heap[b]?=some (.cells #[.string ⟨#[]⟩,.slice none 0 0,.int .u8 0,.int .i64 0,.string ⟨#[]⟩,.slice none 0 0] 103 (0,0))) (fun v w=>v=.int .i64 (i:Int)) rfl rfl rfl rfl (by kernel_rfl) (by kernel_rfl) (fun l4=>by cases l4<;>rfl) rfl (fun w h=>⟨HSS.out _ h,trivial⟩) (fun w w' h hb=>bl_tt (show Below w1.heap.size w1 w from h) hb) (fun u w w' h hb=>?_) (fun v4 K w h hK0=>?_) (fun v4 K w h hK0=>?_) (fun u v=>?_) (fun l4 v4 v wc h hF hA hU=>?_) false undef w1.drew hI (fun h=>by cases h) (fun _=>rfl) ?_
 ·obtain ⟨b,e1,e2,e3⟩:=h
  exact ⟨b,e1,e2,blk_bl e3 hb⟩
 ·have hb0:Below w1.heap.size w1 w:=h
  have hK:=zh hK0
  clear hK0
  refine step_callL (by rfl) (.func 94) [.tmp 21,.tmp 23] _ (by rfl) 94 _ fnProcI (by rfl) _ (by rfl) (fun v w'=>v=.int .i64 (i:Int)/\Below w.heap.size w w') ((HPR.out _ hb0).mono fun e w' ⟨h1,h2⟩=>⟨_,h1,rfl,h2⟩) ?_
  rintro v w' ⟨rfl,hb⟩
  exact hK.out _ _ hb rfl
 ·have hb0:Below w1.heap.size w1 w:=h
  have hK:=zh hK0
  clear hK0
  (try simp only [Act.put,zP])
  (try simp only [zA,zB,zC])
  go_simp
  exact hK.out _ _ (bl_al (Below.refl _ _) _) ⟨_,rfl,hb0.size,heap_alloc_new w _⟩
 ·simp only [Act.put,zD,zE,zF]
 rotate_left 1
 ·simp only [Act.put,zD,zE,zF]
 (try simp only [Act.put,zP])
 have hF:v=.int .i64 (i:Int):=hF
 subst hF
 clear hI
 have hI:(fun w=>Below w1.heap.size w1 w) wc:=h
 have hA4:=hA
 have hU4:=hU
 clear hA hU h
 -- operation 12
 refine wpG_alt (i:=12) (j:=14) (some 25) (some 7) 2 (fun li l4 => #[true,true,true,true,true,true,true,true,true,true,true,true,li,false,l4,false]) _ (fun w=>Below w1.heap.size w1 w) (fun u w=>∃ b,u=.pointer (some ⟨b,0,none⟩)/\w1.heap.size<=b/\w.heap[b]?=some (.cells #[.string ⟨#[]⟩,.slice none 0 0,.int .u8 0,.int .i64 0,.string ⟨#[]⟩,.slice none 0 0] 103 (0,0))) (fun v w=>v=.pointer (some (pa.add (i*6)))) rfl rfl rfl rfl (by kernel_rfl) (by kernel_rfl) (fun l4=>by cases l4<;>rfl) rfl (fun w h=>⟨HSS.out _ h,trivial⟩) (fun w w' h hb=>bl_tt (show Below w1.heap.size w1 w from h) hb) (fun u w w' h hb=>?_) (fun v4 K w h hK0=>?_) (fun v4 K w h hK0=>?_) (fun u v=>?_) (fun l4 v4 v wc h hF hA hU=>?_) l4 v4 wc hI hA4 hU4 ?_
 ·obtain ⟨b,e1,e2,e3⟩:=h
  exact ⟨b,e1,e2,blk_bl e3 hb⟩
 ·have hb0:Below w1.heap.size w1 w:=h
  have hK:=zh hK0
  clear hK0
  have hpc:=bl_tt HBW.out (bl_tt HB1.out hb0)
  have p0:=zb hpc HPC.out.1
  have p1:=zb hpc HPC.out.2.1
  have p2:=zb hpc HPC.out.2.2.1
  have p3:=zb hpc HPC.out.2.2.2.1
  have p4:=zb hpc HPC.out.2.2.2.2.1
  have p5:=zb hpc HPC.out.2.2.2.2.2
  (try simp only [Act.put,zP])
  (try simp only [zA,zB,zC])
  go_simp
  exact hK.out _ _ (Below.refl _ _) rfl
 ·have hb0:Below w1.heap.size w1 w:=h
  have hK:=zh hK0
  clear hK0
  (try simp only [Act.put,zP])
  (try simp only [zA,zB,zC])
  go_simp
  exact hK.out _ _ (bl_al (Below.refl _ _) _) ⟨_,rfl,hb0.size,heap_alloc_new w _⟩
 ·simp only [Act.put,zD,zE,zF]
 rotate_left 1
 ·simp only [Act.put,zD,zE,zF]
 (try simp only [Act.put,zP])
 have hF:v=.pointer (some (pa.add (i*6))):=hF
 subst hF
 clear hI
 clear hA4 hU4
 have hI:(fun w=>Below w1.heap.size w1 w) wc:=h
 have hA4:=hA
 have hU4:=hU
 clear hA hU h
 -- operation 13
 refine wpG_alt (i:=13) (j:=14) (some 26) (some 7) 1 (fun li l4 => #[true,true,true,true,true,true,true,true,true,true,true,true,true,li,l4,false]) _ (fun w=>Below w1.heap.size w1 w) (fun u w=>∃ b,u=.pointer (some ⟨b,0,none⟩)/\w1.heap.size<=b/\w.heap[b]?=some (.cells #[.string ⟨#[]⟩,.slice none 0 0,.int .u8 0,.int .i64 0,.string ⟨#[]⟩,.slice none 0 0] 103 (0,0))) (fun v w=>v=.agg #[.string q.s,.slice B1 q.ps.length d1,.int .u8 q.b.k,.int .i64 q.b.n,.string q.b.s,.slice B2 q.b.ks.length d2]) rfl rfl rfl rfl (by kernel_rfl) (by kernel_rfl) (fun l4=>by cases l4<;>rfl) rfl (fun w h=>⟨HSS.out _ h,trivial⟩) (fun w w' h hb=>bl_tt (show Below w1.heap.size w1 w from h) hb) (fun u w w' h hb=>?_) (fun v4 K w h hK0=>?_) (fun v4 K w h hK0=>?_) (fun u v=>?_) (fun l4 v4 v wc h hF hA hU=>?_) l4 v4 wc hI hA4 hU4 ?_
 ·obtain ⟨b,e1,e2,e3⟩:=h
  exact ⟨b,e1,e2,blk_bl e3 hb⟩
 ·have hb0:Below w1.heap.size w1 w:=h
  have hK:=zh hK0
  clear hK0
  have hpc:=bl_tt HBW.out (bl_tt HB1.out hb0)
  have p0:=zb hpc HPC.out.1
  have p1:=zb hpc HPC.out.2.1
  have p2:=zb hpc HPC.out.2.2.1
  have p3:=zb hpc HPC.out.2.2.2.1
  have p4:=zb hpc HPC.out.2.2.2.2.1
  have p5:=zb hpc HPC.out.2.2.2.2.2
  (try simp only [Act.put,zP])
  (try simp only [zA,zB,zC])
  go_simp
  exact hK.out _ _ (Below.refl _ _) rfl
 ·have hb0:Below w1.heap.size w1 w:=h
  have hK:=zh hK0
  clear hK0
  (try simp only [Act.put,zP])
  (try simp only [zA,zB,zC])
  go_simp
  exact hK.out _ _ (bl_al (Below.refl _ _) _) ⟨_,rfl,hb0.size,heap_alloc_new w _⟩
 ·simp only [Act.put,zD,zE,zF]
 rotate_left 1
 ·simp only [Act.put,zD,zE,zF]
 (try simp only [Act.put,zP])
 have hF:v=.agg #[.string q.s,.slice B1 q.ps.length d1,.int .u8 q.b.k,.int .i64 q.b.n,.string q.b.s,.slice B2 q.b.ks.length d2]:=hF
 subst hF
 clear hI
 clear hA4 hU4
 have hI:(fun w=>Below w1.heap.size w1 w) wc:=h
 have hA4:=hA
 have hU4:=hU
 clear hA hU h
 refine wpG_free (j:=14) (some 7) 1 (fun l4 => #[true,true,true,true,true,true,true,true,true,true,true,true,true,true,l4,false]) _ (fun w=>Below w1.heap.size w1 w) (fun u w=>∃ b,u=.pointer (some ⟨b,0,none⟩)/\w1.heap.size<=b/\w.heap[b]?=some (.cells #[.string ⟨#[]⟩,.slice none 0 0,.int .u8 0,.int .i64 0,.string ⟨#[]⟩,.slice none 0 0] 103 (0,0))) rfl rfl (by kernel_rfl) rfl (fun w h=>⟨HSS.out _ h,trivial⟩) (fun w w' h hb=>bl_tt (show Below w1.heap.size w1 w from h) hb) (fun v4 K w h hK0=>?_) (fun u v=>?_) (fun v5 w3 h5 hA5=>?_) l4 v4 wc hI hA4 ?_
 ·have hb0:Below w1.heap.size w1 w:=h
  have hK:=zh hK0
  clear hK0
  (try simp only [Act.put,zP])
  (try simp only [zA,zB,zC])
  go_simp
  exact hK.out _ _ (bl_al (Below.refl _ _) _) ⟨_,rfl,hb0.size,heap_alloc_new w _⟩
 ·simp only [Act.put,zD,zE,zF]
 rotate_left 1
 ·simp only [Act.put,zD,zE,zF]
 (try simp only [Act.put,zP])
 clear hI hA4 hU4
 obtain ⟨bb,rfl,hbl,hbz⟩:=hA5
 have hb3:Below w1.heap.size w1 w3:=h5
 clear h5
 have c0:w3.cell? ⟨bb,0,none⟩=some (.string ⟨#[]⟩):=zc hbz rfl
 have c1:w3.cell? ⟨bb,1,none⟩=some (.slice none 0 0):=zc hbz rfl
 have c2:w3.cell? ⟨bb,2,none⟩=some (.int .u8 0):=zc hbz rfl
 have c3:w3.cell? ⟨bb,3,none⟩=some (.int .i64 0):=zc hbz rfl
 have c4:w3.cell? ⟨bb,4,none⟩=some (.string ⟨#[]⟩):=zc hbz rfl
 have c5:w3.cell? ⟨bb,5,none⟩=some (.slice none 0 0):=zc hbz rfl
 have cf:∀ o,w3.frozen? ⟨bb,o,none⟩=false:=fun _=>zf hbz
 have HBZ:=zh hbz
 have HB3:=zh hb3
 have HBL:=zh hbl
 clear hb3 hbz hbl
 refine wpG_past (i:=15) (by kernel_rfl) rfl (by kernel_rfl) (fun K hK=>?_)
 (try simp only [zA,zB,zC])
 go_simp
 obtain ⟨hh,hch⟩:=set6 (u0:=.string q.s) (u1:=.slice B1 q.ps.length d1) (u2:=.int .u8 q.b.k) (u3:=.int .i64 q.b.n) (u4:=.string q.b.s) (u5:=.slice B2 q.b.ks.length d2) HBZ.out
 have hb4:=HB3.out.trans (hch.below HB3.out.size fun b e=>by have e:b=bb:=e; have:=HBL.out; omega)
 obtain ⟨w4,hw4⟩:∃ x,((((((w3.setCell ⟨bb,0,none⟩ (.string q.s)).setCell ⟨bb,1,none⟩ (.slice B1 q.ps.length d1)).setCell ⟨bb,2,none⟩ (.int .u8 q.b.k)).setCell ⟨bb,3,none⟩ (.int .i64 q.b.n)).setCell ⟨bb,4,none⟩ (.string q.b.s)).setCell ⟨bb,5,none⟩ (.slice B2 q.b.ks.length d2))=x:=⟨_,rfl⟩
 rw [hw4] at hh hb4 ⊢
 have HB4:=zh (bl_tt HB1.out hb4)
 have HK4:=zh hh
 have J0:=zh (blk_bl K0.out hb4)
 refine hK.out _ _ (HSS.out _ hb4) ?_
 clear hK K HSS c0 c1 c2 c3 c4 c5 cf hw4 hch hb4 HB3 HBZ hh
 (try simp only [Act.put,zP])
 refine wpG_done (by kernel_rfl) ?_
 refine NoPanic.normal ?_
 have hbs:=bStr
 have hgw:W.heap.size+1<=bb:=by have e1:=HBL.out; have e2:=blk_lt K0.out; omega
 have x3:w4.cell? ⟨W.heap.size,3,none⟩=some (.slice A t.ks.length c):=zc J0.out rfl
 go_wp2_with fail
 clear x3
 have ht:=HT.out
 subst ht
 go_loopw [8,30] (fun v x wr=>∃ j:Nat,j<=t.ks.length/\x=.int .i64 j/\(∃ A c,v=.slice A j c)/\Hid (Below w4.heap.size w4 wr)/\Hid (wr.ownsRow w4.heap.size 9 1 v j ((ss.take j).map Value.string))) (fun _ x _=>t.ks.length-(intOf x).toNat)
 case atStart=>exact ⟨0,Nat.zero_le _,rfl,⟨none,0,rfl⟩,zh (Below.refl _ _),zh (World.ownsRow_nil w4 _ _ _)⟩
 case round =>
  obtain ⟨j,hj,rfl,⟨A',c',rfl⟩,HBL,HO⟩:=hrel
  by_cases hlt:j<t.ks.length
  ·obtain ⟨a,u,Au,cu,rfl,-,Hu,⟨p0,p1,p2,p3⟩,-⟩:=HROW.out.nd hlt
   have hbb:=bl_tt HBW.out (bl_tt HB4.out HBL.out)
   have q0:=zb hbb p0
   have q1:=zb hbb p1
   have q2:=zb hbb p2
   have q3:=zb hbb p3
   have hj1:(j:Int)<(t.ks.length:Int):=by omega
   have hj0:(0:Int)<=(j:Int):=by omega
   have hbz:=bl_al (bl_al (Below.refl wr.heap.size wr) (.cells #[.int .u8 u.k,.int .i64 u.n,.string u.s,.slice Au u.ks.length cu] 29)) (.cells #[.string u.s] 9)
   have kz:=heap_alloc_new (wr.alloc (.cells #[.int .u8 u.k,.int .i64 u.n,.string u.s,.slice Au u.ks.length cu] 29)) (.cells #[.string u.s] 9)
   rw [World.size_alloc] at kz
   have hcz:((wr.alloc (.cells #[.int .u8 u.k,.int .i64 u.n,.string u.s,.slice Au u.ks.length cu] 29)).alloc (.cells #[.string u.s] 9)).cell? ⟨wr.heap.size+1,0,none⟩=some (.string u.s):=zc kz rfl
   have hrow:=own_later HO.out hbz
   have hln:j+1<=2513169434917:=by omega
   have hsz:w4.heap.size<=((wr.alloc (.cells #[.int .u8 u.k,.int .i64 u.n,.string u.s,.slice Au u.ks.length cu] 29)).alloc (.cells #[.string u.s] 9)).heap.size:=Nat.le_trans HBL.out.size hbz.size
   have HX:=zh (show ∀ v' w',w'.ownsRow w4.heap.size 9 1 v' (j+1) ((ss.take j).map Value.string++[.string u.s])->((wr.alloc (.cells #[.int .u8 u.k,.int .i64 u.n,.string u.s,.slice Au u.ks.length cu] 29)).alloc (.cells #[.string u.s] 9)).grownBy w' (Value.slice A' j c').ownBlock->(∃ A c,v'=.slice A (j+1) c)/\w'.ownsRow w4.heap.size 9 1 v' (j+1) ((ss.take (j+1)).map Value.string)/\Below w4.heap.size w4 w' from fun v' w' ho hg=>by
    have hx:=(Chg.row hg).below (B:=w4.heap.size) hsz (fun b e=>(HO.out.lt b e).1)
    have e:(ss.take j).map Value.string++[.string u.s]=(ss.take (j+1)).map Value.string:=by rw [<-HSE.out j hlt,Hu.out]; simp
    rw [e] at ho
    obtain ⟨A',c',e',-⟩:=row_slice ho
    exact ⟨⟨A',c',e'⟩,ho,(bl_tt HBL.out hbz).trans hx⟩)
   clear p0 p1 p2 p3 hbb kz
   go_wp2_with (at_builtin; refine wpList_append_Str rfl (.tmp 34) (.tmp 37) rfl w4.heap.size (.slice A' j c') j ((ss.take j).map Value.string) rfl hrow ⟨wr.heap.size+1,0,none⟩ u.s rfl hcz hln hsz ?_; intro v' w' ho hg hob; obtain ⟨⟨A2,c2,rfl⟩,ho2,hb2⟩:=HX.out _ _ ho hg; clear ho hg hob)
   exact ⟨⟨j+1,by omega,by go_num,⟨A2,c2,rfl⟩,zh hb2,zh ho2⟩,by simp [intOf]; omega⟩
  ·obtain rfl:j=t.ks.length:=by omega
   rw [List.take_of_length_le (by rw [HSL.out]; exact Nat.le_refl _)] at HO
   have hj1:¬ (t.ks.length:Int)<(t.ks.length:Int):=by omega
   obtain ⟨w5,rfl⟩:∃ x,x=wr:=⟨_,rfl⟩
   have hbz:=bl_tt HB4.out HBL.out
   obtain ⟨hC1,h1⟩:=H.out.plus HC.out hbz
   have HP3:=zh (Kpt.of_below (n0:=C.n0) (kb:=C.kb) hbz)
   have HB5:=zh (bl_tt HBW.out hbz)
   have K5:=zh (blk_bl HK4.out HBL.out)
   have l5:=blk_lt K5.out
   have HRS:=zh (own_rowS HO.out)
   obtain ⟨hi,hhi⟩:∃ x,w5.heap.size=x:=⟨_,rfl⟩
   rw [hhi] at hC1 h1 l5
   have HC1:=zh hC1
   have H1:=zh h1
   have HPQ:=zh (show q.ps.length<=1000 from HC.out.ps q (List.mem_of_getElem? HQ.out))
   clear hbz hC1 h1 hhi HK4 J0 HSE
   go_upto_region 8 with fail
   have hSS:(fun w':World=>w'.cell? ⟨C.tb,6,none⟩=some (.pointer (some ⟨C.sb,0,none⟩))/\w'.cell? ⟨bb,1,none⟩=some (.slice B1 q.ps.length d1)) w5.drew/\(fun _:World=>True) w5.drew:=⟨⟨(H1.out.ex.later (Below.refl _ _).drew).cells.1,zc (blk_bl K5.out (Below.refl _ _).drew) rfl⟩,trivial⟩
   refine wp_region_noPanic ?_
   refine wp_region_G (fun w':World=>w'.cell? ⟨C.tb,6,none⟩=some (.pointer (some ⟨C.sb,0,none⟩))/\w'.cell? ⟨bb,1,none⟩=some (.slice B1 q.ps.length d1)) (fun _:World=>True) 9 (by kernel_rfl) ?_
   refine zT 0 hSS ?_
   (try simp only [Act.put,zP])
   refine zT 1 hSS ?_
   (try simp only [Act.put,zP])
   refine zT 2 hSS ?_
   (try simp only [Act.put,zP])
   refine zT 3 hSS ?_
   (try simp only [Act.put,zP])
   refine zT 4 hSS ?_
   (try simp only [Act.put,zP])
   refine zT 5 hSS ?_
   (try simp only [Act.put,zP])
   refine zT 6 hSS ?_
   (try simp only [Act.put,zP])
   refine zT 7 hSS ?_
   (try simp only [Act.put,zP])
   have hbd:Below w5.heap.size w5 w5.drew:=(Below.refl _ _).drew
   have had:Calls Tryz.prog 187 [.pointer (some ⟨C.sb,0,none⟩),.slice B1 q.ps.length d1,.slice A' t.ks.length c'].toArray w5.drew fun e w'=>∃ v,e=.returned v/\(v=.int .i64 0/\TX (C.plus W.heap.size hi) w' (enterE S q.ps ss).2 L0/\Kpt C.n0 (C.plus W.heap.size hi).kb w5 w') :=
    (TX.call (R:=(enterE S q.ps ss)) (H1.out.ex.later hbd) fun kb hkb=>(by have he:=hkb.enter q.ps ss B1 A' d1 c' (HPRR.out.row.later (bl_tt HB5.out (Below.refl _ _).drew)) (HRS.out.later (Below.refl _ _).drew) (by have:=HPQ.out; omega) (by rw [HSL.out]; omega); rw [HSL.out] at he; exact he)).mono fun e w' ⟨g1,g2,g3⟩=>⟨_,g1,by rw [H2.out],g2,(Kpt.of_below hbd).trans g3⟩
   refine wpG_one (i:=8) (by kernel_rfl) rfl (fun K hK=>?_)
   refine step_callG (by rfl) (.func 187) [.tmp 44,.tmp 46,.tmp 47] _ (by rfl) 187 _ fnEnterI (by rfl) _ (by rfl) _ had ?_
   rintro v6x w6x ⟨rfl,hx6,hk6⟩
   have kk0:=hk6.blk (.inr (.inr ⟨by omega,by omega⟩)) K5.out
   have hS6:(fun w':World=>w'.cell? ⟨C.tb,6,none⟩=some (.pointer (some ⟨C.sb,0,none⟩))/\w'.cell? ⟨bb,1,none⟩=some (.slice B1 q.ps.length d1)) w6x:=⟨hx6.cells.1,zc kk0 rfl⟩
   refine hK.out _ _ ⟨hS6,trivial⟩ ?_
   have HX6:=zh hx6
   have HKP6:=zh hk6
   have HKK0:=zh kk0
   clear hK K had hSS hx6 hk6 hS6 hbd kk0
   (try simp only [Act.put,zP])
   have had:Calls Tryz.prog 153 [.pointer (some ⟨C.tb,0,none⟩),.int .i64 0].toArray w6x fun e w'=>∃ v,e=.returned v/\(v=.int .i64 0/\Kpt C.n0 (C.plus W.heap.size hi).kb w6x w'/\Below C.w.heap.size C.w w'/\TX (C.plus W.heap.size hi) w' (enterE S q.ps ss).2 (L0++[(enterE S q.ps ss).2.state])) :=
    (done_any HC1.out HX6.out (st_sm HX6.out.ks.wf (by have:=H1.out.fb.enter q.ps ss HPQ.out; simpa using this) (by have:=HLN.out; (try simp only [List.length_append,List.length_cons,List.length_nil] at this ⊢); omega)) (by have:=HLN.out; (try simp only [List.length_append,List.length_cons,List.length_nil] at this ⊢); omega)).mono fun e w' ⟨g1,g2,g3,g4⟩=>⟨_,g1,rfl,g2,g3,g4⟩
   refine wpG_past (i:=9) (by kernel_rfl) rfl (by kernel_rfl) (fun K hK=>?_)
   refine step_callG (by rfl) (.func 153) [.tmp 40,.tmp 48] _ (by rfl) 153 _ fnDone (by rfl) _ (by rfl) _ had ?_
   rintro v7x w7x ⟨rfl,hk7,hb7,hx7⟩
   have kk0:=hk7.blk (.inr (.inr ⟨by omega,by omega⟩)) HKK0.out
   have hS7:(fun w':World=>w'.cell? ⟨C.tb,6,none⟩=some (.pointer (some ⟨C.sb,0,none⟩))/\w'.cell? ⟨bb,1,none⟩=some (.slice B1 q.ps.length d1)) w7x:=⟨hx7.cells.1,zc kk0 rfl⟩
   refine hK.out _ _ hS7 ?_
   clear hK K had
   (try simp only [Act.put,zP])
   refine wpG_past (i:=10) (by kernel_rfl) rfl (by kernel_rfl) (fun K hK=>?_)
   (try simp only [zA,zB,zC])
   go_simp
   refine hK.out _ _ hS7 ?_
   clear hK K
   (try simp only [Act.put,zP])
   refine wpG_done (by kernel_rfl) ?_
   refine NoPanic.normal ?_
   have HK7x:=zh (HKP6.out.trans hk7)
   have HX7x:=zh hx7
   have HB7x:=zh hb7
   have HQ0x:=zh kk0
   clear hk7 hx7 hb7 hS7 HKP6 HX6 kk0 HKK0
   have HT7:=zh (show TI (C.plus W.heap.size hi) w7x (enterE S q.ps ss).2 (L0++[(enterE S q.ps ss).2.state]) from ⟨HX7x.out,by have:=H1.out.fb.enter q.ps ss HPQ.out; simpa using this⟩)
   have HBK:=zh (tblock_any HC1.out HT7.out q.b _ back HBC.out (by have:=HLN.out; simp only [List.length_append,List.length_cons,List.length_nil] at this ⊢; omega) HPRR.out.body HGU.out)
   have m2:w7x.cell? ⟨bb,2,none⟩=some (.int .u8 q.b.k):=zc HQ0x.out rfl
   have m3:w7x.cell? ⟨bb,3,none⟩=some (.int .i64 q.b.n):=zc HQ0x.out rfl
   have m4:w7x.cell? ⟨bb,4,none⟩=some (.string q.b.s):=zc HQ0x.out rfl
   have m5:w7x.cell? ⟨bb,5,none⟩=some (.slice B2 q.b.ks.length d2):=zc HQ0x.out rfl
   go_wp2_with fail
   refine HBK.out.mono ?_
   rintro e w8 ⟨rfl,hk8,hb8,hr8⟩
   have HK8:=zh (HK7x.out.trans hk8)
   have HR8:=zh hr8
   clear m2 m3 m4 m5 hk8 hb8 hr8 HBK
   have HLW:=zh (show Calls Tryz.prog 188 #[.pointer (some ⟨C.sb,0,none⟩)] w8 fun e W'=>e=.returned (.int .i64 (leaveE S2).1)/\TX (C.plus W.heap.size hi) W' (leaveE S2).2 (L0++[(enterE S q.ps ss).2.state]++L)/\Kpt C.n0 (C.plus W.heap.size hi).kb w8 W' from TX.call (R:=(leaveE S2)) HR8.out.ex fun kb hkb=>hkb.leave)
   rw [H4.out] at HLW
   have y6:w8.cell? ⟨C.tb,6,none⟩=some (.pointer (some ⟨C.sb,0,none⟩)):=HR8.out.ex.cells.1
   go_wp2_with fail
   refine HLW.out.mono ?_
   rintro e w9 ⟨rfl,hx9,hk9⟩
   have HX9:=zh hx9
   have HK9:=zh (HK8.out.trans hk9)
   clear hx9 hk9 y6 HLW
   go_wp2_with fail
   refine (done_any HC1.out HX9.out (st_sm HX9.out.ks.wf (by have:=HR8.out.fb.leave; simpa using this) (by have:=HLN.out; (try simp only [List.length_append,List.length_cons,List.length_nil] at this ⊢); omega)) (by have:=HLN.out; (try simp only [List.length_append,List.length_cons,List.length_nil] at this ⊢); omega)).mono ?_
   rintro e w7 ⟨rfl,hk7,hb7,hx7⟩
   have HX7:=zh hx7
   have HB7:=zh hb7
   have HK7:=zh (HK9.out.trans hk7)
   clear hk7 hb7 hx7
   go_wp2_with fail
   go_ret
   have HF:=zh (TI.less (lo:=W.heap.size) (hi:=hi) (C:=C) ⟨HX7.out,(show ∀ {a b:Nat},a=b->FB a (leaveE S2).2->FB b (leaveE S2).2 from fun e h=>e▸h) (by simp only [List.length_append,List.length_cons,List.length_nil]) HR8.out.fb.leave⟩)
   have hkk:=HP3.out.trans (n0:=C.n0) (kb:=C.kb) (show Kpt C.n0 C.kb w5 w7 from ⟨HK7.out.size,fun b hb hk=>HK7.out.kept b hb (hk.elim .inl fun h=>.inr (.inl h))⟩)
   refine ⟨rfl,hkk,HB7.out,?_⟩
   have:=HF.out
   simpa using this
theorem tst_52 {C:TC} {W:World} {S S':ST} {L0 L:List SS} (h:TI C W S L0) (t:T) (v:Value) (back:Bool) (hv:NV C.w Any t v) (hk:t.k=52) (hc:∀ w,TI C w S L0->Calls Tryz.prog 149 #[.pointer (some ⟨C.tb,0,none⟩),v,.bool back] w fun e W'=>e=.returned (.int .i64 0)/\TrP C w S' L W') :
  Calls Tryz.prog 115 #[.pointer (some ⟨C.tb,0,none⟩),v,.bool back] W fun e W'=>e=.returned (.int .i64 0)/\TrP C W S' L W':=by
 obtain ⟨k,n,s,ks⟩:=t
 obtain rfl:k=52:=hk
 obtain ⟨A,c,rfl,-,hlk,hlc,-⟩:=hv.open_
 have hb0:=bl_al (Below.refl W.heap.size W) (.cells #[.int .u8 52,.int .i64 n,.string s,.slice A ks.length c] 29)
 obtain ⟨x0,x1,x2,x3⟩:=box4 (heap_alloc_new W (.cells #[.int .u8 52,.int .i64 n,.string s,.slice A ks.length c] 29))
 have HK0:=zh (Kpt.of_below (n0:=C.n0) (kb:=C.kb) hb0)
 have HCC:=zh (hc _ (h.later hb0))
 clear hv hb0 h hc
 go_enter Tryz.func115,Tryz.ntmps115
 go_wp2_with fail
 refine HCC.out.mono ?_
 rintro e w1 ⟨rfl,hk1,hb1,h1⟩
 have HK1:=zh (HK0.out.trans hk1)
 have HB1:=zh hb1
 have H1:=zh h1
 clear x0 x1 x2 x3 hk1 hb1 h1
 go_wp2_with fail
 go_ret
 exact ⟨rfl,HK1.out,HB1.out,H1.out⟩
theorem tst_53 {C:TC} {W:World} {S S':ST} {L0 L:List SS} (h:TI C W S L0) (t:T) (v:Value) (back:Bool) (hv:NV C.w Any t v) (hk:t.k=53) (hc:∀ w,TI C w S L0->Calls Tryz.prog 150 #[.pointer (some ⟨C.tb,0,none⟩),v,.bool back] w fun e W'=>e=.returned (.int .i64 0)/\TrP C w S' L W') :
  Calls Tryz.prog 115 #[.pointer (some ⟨C.tb,0,none⟩),v,.bool back] W fun e W'=>e=.returned (.int .i64 0)/\TrP C W S' L W':=by
 obtain ⟨k,n,s,ks⟩:=t
 obtain rfl:k=53:=hk
 obtain ⟨A,c,rfl,-,hlk,hlc,-⟩:=hv.open_
 have hb0:=bl_al (Below.refl W.heap.size W) (.cells #[.int .u8 53,.int .i64 n,.string s,.slice A ks.length c] 29)
 obtain ⟨x0,x1,x2,x3⟩:=box4 (heap_alloc_new W (.cells #[.int .u8 53,.int .i64 n,.string s,.slice A ks.length c] 29))
 have HK0:=zh (Kpt.of_below (n0:=C.n0) (kb:=C.kb) hb0)
 have HCC:=zh (hc _ (h.later hb0))
 clear hv hb0 h hc
 go_enter Tryz.func115,Tryz.ntmps115
 go_wp2_with fail
 refine HCC.out.mono ?_
 rintro e w1 ⟨rfl,hk1,hb1,h1⟩
 have HK1:=zh (HK0.out.trans hk1)
 have HB1:=zh hb1
 have H1:=zh h1
 clear x0 x1 x2 x3 hk1 hb1 h1
 go_wp2_with fail
 go_ret
 exact ⟨rfl,HK1.out,HB1.out,H1.out⟩
theorem tst_54 {C:TC} {W:World} {S S':ST} {L0 L:List SS} (h:TI C W S L0) (t:T) (v:Value) (back:Bool) (hv:NV C.w Any t v) (hk:t.k=54) (hc:∀ w,TI C w S L0->Calls Tryz.prog 151 #[.pointer (some ⟨C.tb,0,none⟩),v,.bool back] w fun e W'=>e=.returned (.int .i64 0)/\TrP C w S' L W') :
  Calls Tryz.prog 115 #[.pointer (some ⟨C.tb,0,none⟩),v,.bool back] W fun e W'=>e=.returned (.int .i64 0)/\TrP C W S' L W':=by
 obtain ⟨k,n,s,ks⟩:=t
 obtain rfl:k=54:=hk
 obtain ⟨A,c,rfl,-,hlk,hlc,-⟩:=hv.open_
 have hb0:=bl_al (Below.refl W.heap.size W) (.cells #[.int .u8 54,.int .i64 n,.string s,.slice A ks.length c] 29)
 obtain ⟨x0,x1,x2,x3⟩:=box4 (heap_alloc_new W (.cells #[.int .u8 54,.int .i64 n,.string s,.slice A ks.length c] 29))
 have HK0:=zh (Kpt.of_below (n0:=C.n0) (kb:=C.kb) hb0)
 have HCC:=zh (hc _ (h.later hb0))
 clear hv hb0 h hc
 go_enter Tryz.func115,Tryz.ntmps115
 go_wp2_with fail
 refine HCC.out.mono ?_
 rintro e w1 ⟨rfl,hk1,hb1,h1⟩
 have HK1:=zh (HK0.out.trans hk1)
 have HB1:=zh hb1
 have H1:=zh h1
 clear x0 x1 x2 x3 hk1 hb1 h1
 go_wp2_with fail
 go_ret
 exact ⟨rfl,HK1.out,HB1.out,H1.out⟩
theorem tst_55 {C:TC} {W:World} {S S':ST} {L0 L:List SS} (h:TI C W S L0) (t:T) (v:Value) (back:Bool) (hv:NV C.w Any t v) (hk:t.k=55) (hc:∀ w,TI C w S L0->Calls Tryz.prog 151 #[.pointer (some ⟨C.tb,0,none⟩),v,.bool back] w fun e W'=>e=.returned (.int .i64 0)/\TrP C w S' L W') :
  Calls Tryz.prog 115 #[.pointer (some ⟨C.tb,0,none⟩),v,.bool back] W fun e W'=>e=.returned (.int .i64 0)/\TrP C W S' L W':=by
 obtain ⟨k,n,s,ks⟩:=t
 obtain rfl:k=55:=hk
 obtain ⟨A,c,rfl,-,hlk,hlc,-⟩:=hv.open_
 have hb0:=bl_al (Below.refl W.heap.size W) (.cells #[.int .u8 55,.int .i64 n,.string s,.slice A ks.length c] 29)
 obtain ⟨x0,x1,x2,x3⟩:=box4 (heap_alloc_new W (.cells #[.int .u8 55,.int .i64 n,.string s,.slice A ks.length c] 29))
 have HK0:=zh (Kpt.of_below (n0:=C.n0) (kb:=C.kb) hb0)
 have HCC:=zh (hc _ (h.later hb0))
 clear hv hb0 h hc
 go_enter Tryz.func115,Tryz.ntmps115
 go_wp2_with fail
 refine HCC.out.mono ?_
 rintro e w1 ⟨rfl,hk1,hb1,h1⟩
 have HK1:=zh (HK0.out.trans hk1)
 have HB1:=zh hb1
 have H1:=zh h1
 clear x0 x1 x2 x3 hk1 hb1 h1
 go_wp2_with fail
 go_ret
 exact ⟨rfl,HK1.out,HB1.out,H1.out⟩
theorem tst_50 {C:TC} {W:World} {S S':ST} {L0 L:List SS} (h:TI C W S L0) (t:T) (v:Value) (back:Bool) (hv:NV C.w Any t v) (hk:t.k=50) (hc:∀ w,TI C w S L0->Calls Tryz.prog 152 #[.pointer (some ⟨C.tb,0,none⟩),v,.bool back] w fun e W'=>e=.returned (.int .i64 0)/\TrP C w S' L W') :
  Calls Tryz.prog 115 #[.pointer (some ⟨C.tb,0,none⟩),v,.bool back] W fun e W'=>e=.returned (.int .i64 0)/\TrP C W S' L W':=by
 cases back
 ·skip
  obtain ⟨k,n,s,ks⟩:=t
  obtain rfl:k=50:=hk
  obtain ⟨A,c,rfl,-,hlk,hlc,-⟩:=hv.open_
  have hb0:=bl_al (Below.refl W.heap.size W) (.cells #[.int .u8 50,.int .i64 n,.string s,.slice A ks.length c] 29)
  obtain ⟨x0,x1,x2,x3⟩:=box4 (heap_alloc_new W (.cells #[.int .u8 50,.int .i64 n,.string s,.slice A ks.length c] 29))
  have HK0:=zh (Kpt.of_below (n0:=C.n0) (kb:=C.kb) hb0)
  have HCC:=zh (hc _ (h.later hb0))
  clear hv hb0 h hc
  go_enter Tryz.func115,Tryz.ntmps115
  go_wp2_with fail
  refine HCC.out.mono ?_
  rintro e w1 ⟨rfl,hk1,hb1,h1⟩
  have HK1:=zh (HK0.out.trans hk1)
  have HB1:=zh hb1
  have H1:=zh h1
  clear x0 x1 x2 x3 hk1 hb1 h1
  go_wp2_with fail
  go_ret
  exact ⟨rfl,HK1.out,HB1.out,H1.out⟩
 ·skip
  obtain ⟨k,n,s,ks⟩:=t
  obtain rfl:k=50:=hk
  obtain ⟨A,c,rfl,-,hlk,hlc,-⟩:=hv.open_
  have hb0:=bl_al (Below.refl W.heap.size W) (.cells #[.int .u8 50,.int .i64 n,.string s,.slice A ks.length c] 29)
  obtain ⟨x0,x1,x2,x3⟩:=box4 (heap_alloc_new W (.cells #[.int .u8 50,.int .i64 n,.string s,.slice A ks.length c] 29))
  have HK0:=zh (Kpt.of_below (n0:=C.n0) (kb:=C.kb) hb0)
  have HCC:=zh (hc _ (h.later hb0))
  clear hv hb0 h hc
  go_enter Tryz.func115,Tryz.ntmps115
  go_wp2_with fail
  refine HCC.out.mono ?_
  rintro e w1 ⟨rfl,hk1,hb1,h1⟩
  have HK1:=zh (HK0.out.trans hk1)
  have HB1:=zh hb1
  have H1:=zh h1
  clear x0 x1 x2 x3 hk1 hb1 h1
  go_wp2_with fail
  go_ret
  exact ⟨rfl,HK1.out,HB1.out,H1.out⟩
theorem tst_51 {C:TC} {W:World} {S S':ST} {L0 L:List SS} (h:TI C W S L0) (t:T) (v:Value) (back:Bool) (hv:NV C.w Any t v) (hk:t.k=51) (hc:∀ w,TI C w S L0->Calls Tryz.prog 152 #[.pointer (some ⟨C.tb,0,none⟩),v,.bool (!back)] w fun e W'=>e=.returned (.int .i64 0)/\TrP C w S' L W') :
  Calls Tryz.prog 115 #[.pointer (some ⟨C.tb,0,none⟩),v,.bool back] W fun e W'=>e=.returned (.int .i64 0)/\TrP C W S' L W':=by
 cases back
 ·skip
  obtain ⟨k,n,s,ks⟩:=t
  obtain rfl:k=51:=hk
  obtain ⟨A,c,rfl,-,hlk,hlc,-⟩:=hv.open_
  have hb0:=bl_al (Below.refl W.heap.size W) (.cells #[.int .u8 51,.int .i64 n,.string s,.slice A ks.length c] 29)
  obtain ⟨x0,x1,x2,x3⟩:=box4 (heap_alloc_new W (.cells #[.int .u8 51,.int .i64 n,.string s,.slice A ks.length c] 29))
  have HK0:=zh (Kpt.of_below (n0:=C.n0) (kb:=C.kb) hb0)
  have HCC:=zh (hc _ (h.later hb0))
  clear hv hb0 h hc
  go_enter Tryz.func115,Tryz.ntmps115
  go_wp2_with fail
  refine HCC.out.mono ?_
  rintro e w1 ⟨rfl,hk1,hb1,h1⟩
  have HK1:=zh (HK0.out.trans hk1)
  have HB1:=zh hb1
  have H1:=zh h1
  clear x0 x1 x2 x3 hk1 hb1 h1
  go_wp2_with fail
  go_ret
  exact ⟨rfl,HK1.out,HB1.out,H1.out⟩
 ·skip
  obtain ⟨k,n,s,ks⟩:=t
  obtain rfl:k=51:=hk
  obtain ⟨A,c,rfl,-,hlk,hlc,-⟩:=hv.open_
  have hb0:=bl_al (Below.refl W.heap.size W) (.cells #[.int .u8 51,.int .i64 n,.string s,.slice A ks.length c] 29)
  obtain ⟨x0,x1,x2,x3⟩:=box4 (heap_alloc_new W (.cells #[.int .u8 51,.int .i64 n,.string s,.slice A ks.length c] 29))
  have HK0:=zh (Kpt.of_below (n0:=C.n0) (kb:=C.kb) hb0)
  have HCC:=zh (hc _ (h.later hb0))
  clear hv hb0 h hc
  go_enter Tryz.func115,Tryz.ntmps115
  go_wp2_with fail
  refine HCC.out.mono ?_
  rintro e w1 ⟨rfl,hk1,hb1,h1⟩
  have HK1:=zh (HK0.out.trans hk1)
  have HB1:=zh hb1
  have H1:=zh h1
  clear x0 x1 x2 x3 hk1 hb1 h1
  go_wp2_with fail
  go_ret
  exact ⟨rfl,HK1.out,HB1.out,H1.out⟩
def TM (G:List PR->T->Prop):Tc->ST->List SS->ST->Prop
 | .blk back l,S,L,S'=>BlkC G back l S L S'
 | .stm back t,S,L,S'=>StmC G back t S L S'
 | .lop back t,S,L,S'=>∃ m,LopN G back t m S L S'
theorem tr_all {G:List PR->T->Prop} (hG:GC G) {prs:List PR} {c:Tc} {S S':ST} {L:List SS} (h:Tg prs c S L S'):TM (fun p t=>p=prs/\G p t) c S L S':=by
 induction h with
 | nil back S=>exact ⟨rfl,rfl⟩
 | cons h1 h2 ih1 ih2=>exact ⟨_,_,_,rfl,ih1,ih2⟩
 | bas hk h0=>exact fun C hC hg W L0 h hln v hv=>tbas_any hC h _ v _ hv ⟨by omega,by omega,by omega,by omega,by omega,by omega⟩ h0 (by simpa using hln)
 | iff hk h1 h2 h3 h4 ih =>
  rintro C hC ⟨hp,hg⟩ W L0 h hln v hv
  obtain ⟨h5,g1,g2⟩:=hG.two _ _ hg (.inl hk)
  exact tst_52 h _ v _ hv hk fun w hw=>tbranch_any hC hw _ v _ h1 ih h3 hln hv h5 (fun u hu=>⟨hp,g1 u hu⟩) (fun u hu=>⟨hp,g2 u hu⟩)
 | frm hk h1 h2 ih =>
  rintro C hC ⟨hp,hg⟩ W L0 h hln v hv
  obtain ⟨h5,g1,g2⟩:=hG.two _ _ hg (.inr hk)
  obtain ⟨m,hm⟩:=ih
  exact tst_53 h _ v _ hv hk fun w hw=>tloop_any hC hw _ v _ m hm hln hv h5 (fun u hu=>⟨hp,g1 u hu⟩) (fun u hu=>⟨hp,g2 u hu⟩)
 | done h1 h2 h3 h4 ih=>exact ⟨1,h1,_,_,ih,h3,.inl ⟨h4,rfl,rfl⟩⟩
 | more h1 h2 h3 h4 h5 h6 h7 ih1 ih2 ih3 =>
  obtain ⟨m,hm⟩:=ih3
  exact ⟨m+1,h1,_,_,ih1,h3,.inr ⟨h4,_,_,_,ih2,hm,rfl⟩⟩
 | loc hk h1 h2 h3 h4 h5 ih =>
  rintro C hC ⟨hp,hg⟩ W L0 h hln v hv
  obtain ⟨h6,g1⟩:=hG.loc _ _ hg hk
  exact tst_54 h _ v _ hv hk fun w hw=>tlocal_any hC hw _ v _ _ _ rfl rfl h1 h4 h2 ih h5 hln hv hk h6 (fun u hu=>⟨hp,g1 u hu⟩)
 | stk hk h2 h3 h5 ih =>
  rintro C hC ⟨hp,hg⟩ W L0 h hln v hv
  obtain ⟨h6,g1⟩:=hG.stk _ _ hg hk
  exact tst_55 h _ v _ hv hk fun w hw=>tstack_any hC hw _ v _ h2 ih h5 hln hv hk h6 (fun u hu=>⟨hp,g1 u hu⟩)
 | @cal back t S S2 L i hk h1 h2 h3 h4 ih =>
  rintro C hC ⟨hp,hg⟩ W L0 h hln v hv
  obtain ⟨i',q,hi',hq,hu⟩:=hG.cal _ _ hg hk
  have e1:C.p.prs.getD i ⟨⟨#[]⟩,[],nil0⟩=q:=getD_some (by rw [hp] at hi'; rw [h1] at hi'; injection hi' with hi'; rw [hi']; exact hq)
  rw [hp] at e1
  have hii:i=i':=by rw [hp,h1] at hi'; injection hi'
  subst hii
  have ih:BlkC (fun p t=>p=prs/\G p t) (back != decide (t.k=51)) (blkL (back != decide (t.k=51)) (prs.getD i ⟨⟨#[]⟩,[],nil0⟩).b) (enterE S (prs.getD i ⟨⟨#[]⟩,[],nil0⟩).ps (t.ks.map (·.s))).2 L S2:=ih
  rw [e1] at h2 ih hln ⊢
  rcases hk with hk|hk
  ·have e2:(back != decide (t.k=51))=back:=by rw [hk]; cases back<;>rfl
   rw [e2] at ih
   exact tst_50 h _ v _ hv hk fun w hw=>tcall_any hC hw t v back hv i hi' q hq h2 ih h4 hln (fun u hu'=>⟨hp,hu u hu'⟩)
  ·have e2:(back != decide (t.k=51)) = !back:=by rw [hk]; cases back<;>rfl
   rw [e2] at ih
   exact tst_51 h _ v _ hv hk fun w hw=>tcall_any hC hw t v (!back) hv i hi' q hq h2 ih h4 hln (fun u hu'=>⟨hp,hu u hu'⟩)
theorem jLen_any (jb:Nat) (w:World) (h:w.cell? ⟨jb,0,none⟩=some (.slice none 0 0)):Calls Tryz.prog 154 #[.pointer (some ⟨jb,0,none⟩)] w fun e w'=>e=.returned (.int .i64 0)/\w'=w:=by
 go_enter Tryz.func154,Tryz.ntmps154
 go_wp2_with fail
 go_ret
 exact ⟨rfl,rfl⟩
theorem fnJLen:IsFn Tryz.prog 154 Tryz.f154:=⟨Tryz.func154,by kernel_rfl,by kernel_rfl⟩
theorem wp_weak {P:Program} {c:Code} {Q Q':Exit->Act->World->Prop} {a:Act} {w:World} (h:c.wp P Q a w) (hQ:∀ e a' w',Q e a' w'->Q' e a' w'):c.wp P Q' a w :=
 fun b k cs=>let ⟨e,a',w',q,r⟩:=h b k cs; ⟨e,a',w',hQ _ _ _ q,r⟩
theorem opaqueQ (C:World->Prop):∃ Q:Exit->Act->World->Prop,(∀ a' w',a'.defers=[]->C w'->Q .normal a' w')/\∀ e a' w',Q e a' w'->e=.normal/\a'.defers=[]/\C w' :=
 ⟨fun e a' w'=>e=.normal/\a'.defers=[]/\C w',fun _ _ h1 h2=>⟨rfl,h1,h2⟩,fun _ _ _ h=>h⟩
theorem tAss (x:Int) (w:World):(Instr.typeAssert (.iface 210 (.agg #[.int .i64 x])) 20 210 true).run Tryz.prog w=.ok (.tuple #[.agg #[.int .i64 x],.bool true]) w:=by kernel_rfl
theorem att_idle (a b c:Value) (w:World) :
  CallsD Tryz.prog 155 #[a,b,c] .returning w fun e u' w'=>e=.returned (.tuple #[])/\u'=.returning/\w'=w:=by
 refine callsD_of_wpS Tryz.func155 rfl fun c₀ cs hu=>?_
 apply wpS_seq
 apply wpS_region
 simp [wpOpsS,go_sem,recoverD,hu,Tryz.ntmps155,Exit.thenS]
 apply wpS_seq
 apply wpS_seq
 apply wpS_region
 simp [wpOpsS,go_sem,Exit.thenS]
 refine wpS_cond (t:=true) (by simp [Act.eval,Array.replicate]) ?_
 simp only [if_true]
 refine wpS_of_wp (wp_ret ?_)
 cases c₀
 simp_all [bodyPostS,results,Tryz.results155,Exit.thenS]
theorem att_panic (a2 a5 a4 jb:Nat) (x y:Int) (w:World) (h2:w.cell? ⟨a2,0,none⟩=some (.pointer (some ⟨jb,0,none⟩))) (h5:w.cell? ⟨a5,0,none⟩=some (.int .i64 0)) (hj:w.cell? ⟨jb,0,none⟩=some (.slice none 0 0)) (h4:w.cell? ⟨a4,0,none⟩=some (.int .i64 y)) (hf:w.frozen? ⟨a4,0,none⟩=false) :
  CallsD Tryz.prog 155 #[.pointer (some ⟨a2,0,none⟩),.pointer (some ⟨a5,0,none⟩),.pointer (some ⟨a4,0,none⟩)] (.panicking [{ v:=.iface 210 (.agg #[.int .i64 x]),recovered:=false }]) w fun e u' w' =>
   e=.returned (.tuple #[])/\u'=.panicking [{ v:=.iface 210 (.agg #[.int .i64 x]),recovered:=true }]/\w'.cell? ⟨a4,0,none⟩=some (.int .i64 x)/\Chg (fun b=>b=a4) w w':=by
 refine callsD_of_wpS Tryz.func155 rfl fun c₀ cs hu=>?_
 apply wpS_seq
 apply wpS_region
 simp [wpOpsS,go_sem,recoverD,hu,Tryz.ntmps155,Exit.thenS]
 apply wpS_seq
 apply wpS_seq
 apply wpS_region
 simp [wpOpsS,go_sem,Exit.thenS]
 refine wpS_cond (t:=false) (by simp [Act.eval,Array.replicate]) ?_
 simp only [Bool.false_eq_true,if_false]
 refine wpS_of_wp (wp_skip ?_)
 refine wpS_of_wp ?_
 obtain ⟨Q,hQ1,hQ2⟩:=opaqueQ (fun w'=>w'.cell? ⟨a4,0,none⟩=some (.int .i64 x)/\Chg (fun b=>b=a4) w w')
 refine wp_weak (Q:=Q) ?_ ?_
 rotate_left 1
 ·intro e a' w' hq
  obtain ⟨rfl,h1,h2⟩:=hQ2 _ _ _ hq
  cases c₀
  simp_all [bodyPostS,results,Tryz.results155,Exit.thenS]
 have HQ:=zh hQ1
 clear hQ1 hQ2 hu
 refine Eq.mp (congrArg (fun t=>Code.wp Tryz.prog _ Q ⟨t,[]⟩ w) (?e:(#[.pointer (some ⟨a2,0,none⟩),.pointer (some ⟨a5,0,none⟩),.pointer (some ⟨a4,0,none⟩),.iface 210 (.agg #[.int .i64 x]),undef,undef,.iface 210 (.agg #[.int .i64 x]),.iface 210 (.agg #[.int .i64 x]),.bool false,undef,undef,undef,undef,undef,undef,undef,undef,undef,undef,undef,undef,undef,undef,undef,undef,undef]:Array Value)=_)) ?_
 case e=>kernel_rfl
 go_upto_region 2 with fail
 have HS:=zh (show ∀ w',Below w.heap.size w w'->(fun w':World=>w'.cell? ⟨a2,0,none⟩=some (.pointer (some ⟨jb,0,none⟩))/\w'.cell? ⟨a5,0,none⟩=some (.int .i64 0)) w' from fun w' hb=>⟨zb hb h2,zb hb h5⟩)
 have HLE:=zh (fun w' (hb:Below w.heap.size w w')=>jLen_any jb w' (zb hb hj))
 have hSS:(fun w':World=>w'.cell? ⟨a2,0,none⟩=some (.pointer (some ⟨jb,0,none⟩))/\w'.cell? ⟨a5,0,none⟩=some (.int .i64 0)) w.drew/\(fun _:World=>True) w.drew:=⟨HS.out _ (Below.refl _ _).drew,trivial⟩
 refine wp_region_noPanic ?_
 refine wp_region_G (fun w':World=>w'.cell? ⟨a2,0,none⟩=some (.pointer (some ⟨jb,0,none⟩))/\w'.cell? ⟨a5,0,none⟩=some (.int .i64 0)) (fun _:World=>True) 3 (by kernel_rfl) ?_
 refine zT 0 hSS ?_
 (try simp only [Act.put,zP])
 refine zT 2 hSS ?_
 (try simp only [Act.put,zP])
 have had:Calls Tryz.prog 154 [.pointer (some ⟨jb,0,none⟩)].toArray w.drew fun e w'=>∃ v,e=.returned v/\(v=.int .i64 0/\w'=w.drew):=(HLE.out _ (Below.refl _ _).drew).mono fun e w' ⟨h1,h2⟩=>⟨_,h1,rfl,h2⟩
 refine wpG_one (i:=1) (by kernel_rfl) rfl (fun K hK=>?_)
 refine step_callL (by rfl) (.func 154) [.tmp 9] _ (by rfl) 154 _ fnJLen (by rfl) _ (by rfl) _ had ?_
 rintro v1 w1 ⟨rfl,rfl⟩
 refine hK.out _ _ hSS ?_
 clear hK K had
 (try simp only [Act.put,zP])
 refine wpG_past (i:=3) (by kernel_rfl) rfl (by kernel_rfl) (fun K hK=>?_)
 (try simp only [zA,zB,zC])
 go_simp
 refine hK.out _ _ hSS.1 ?_
 clear hK K
 (try simp only [Act.put,zP])
 refine wpG_done (by kernel_rfl) ?_
 refine NoPanic.normal ?_
 clear hSS HS HLE
 have ht:=fun w=>tAss x w
 obtain ⟨w1,hw1⟩:∃ w1,w.drew=w1:=⟨_,rfl⟩
 have hb1:Below w.heap.size w w1:=hw1▸(Below.refl _ _).drew
 have g4:=zb hb1 h4
 have gf:w1.frozen? ⟨a4,0,none⟩=false:=hw1▸hf
 have hlt:a4<w1.heap.size:=World.block_lt_of_cell? w1 _ g4
 have z4:=cell_al g4 (.cells #[.int .i64 x] 210)
 have HB1:=zh hb1
 rw [hw1]
 clear h2 h5 hj h4 hf hw1 hb1
 go_wp2_with fail
 have hch:=(Chg.refl (fun b=>b=a4) w1).setCell (p:=⟨a4,0,none⟩) (.inl rfl) (.int .i64 x)
 exact HQ.out _ _ rfl ⟨cell_al (by simp [go_sem,g4]) _,(Chg.of_below HB1.out).trans (hch.alloc _)⟩
def AttP (W:World) (R:World->Prop) (X:Int->World->Prop) (e:Ending) (w':World):Prop :=
 (e=.returned (.int .i64 0)/\∃ w1,R w1/\Chg (fun b=>W.heap.size<=b/\b<W.heap.size+3) w1 w')\/∃ x,e=.returned (.int .i64 x)/\∃ w1,X x w1/\Chg (fun b=>W.heap.size<=b/\b<W.heap.size+3) w1 w'
theorem Attempt_any (jb:Nat) (f:FuncId) (fn:Func) (hf:IsFn Tryz.prog f fn) (caps:Array Value) (W:World) (hj:W.heap[jb]?=some (.cells #[.slice none 0 0,.bool false] 179 (0,0))) (R:World->Prop) (X:Int->World->Prop)
  (hact:∀ W1,Below W.heap.size W W1->W1.heap.size=W.heap.size+3->Calls Tryz.prog f caps W1 fun e w'=>(∀ b,(W.heap.size<=b\/b=jb)->b<W1.heap.size->w'.heap[b]?=W1.heap[b]?)/\(((∃ u,e=.returned u)/\R w')\/∃ x,e=failE x/\X x w')) :
  Calls Tryz.prog 116 #[.pointer (some ⟨jb,0,none⟩),.func (.func f) #[] caps] W (AttP W R X):=by
 have hmf:∀ (fn:Fn) (first cap:Array Value) (w:World),(Instr.makeFunc fn first cap).run Tryz.prog w=.ok (.func fn first cap) w:=fun _ _ _ _=>rfl
 have hnf:∀ w:World,(binOp BinOp.eql 1 (.func (.func f) #[] caps) .nilFunc).run Tryz.prog w=.ok (.bool false) w:=fun _=>by kernel_rfl
 have HJ:=zh hj
 have hjl:=blk_lt hj
 have HA:=zh hact
 have hLE:=fun w' (hb:Below W.heap.size W w')=>jLen_any jb w' (zb hb (zc hj rfl))
 have HLE:=zh hLE
 clear hj hact hLE
 go_enter_defers Tryz.func116,Tryz.ntmps116
 go_wp2_with fail
 refine (HLE.out _ (bl_al (bl_al (Below.refl _ _) _) _)).mono ?_
 rintro e w1 ⟨rfl,rfl⟩
 go_wp2_with fail
 rw [run_callFunc hf,Oper.upon_enter]
 have k0:=blk_al (blk_al (heap_alloc_new W (.cells #[.pointer (some ⟨jb,0,none⟩)] 176)) (.cells #[.int .i64 0] 37)) (.cells #[.int .i64 0] 3)
 have k1:=blk_al (heap_alloc_new (W.alloc (.cells #[.pointer (some ⟨jb,0,none⟩)] 176)) (.cells #[.int .i64 0] 37)) (.cells #[.int .i64 0] 3)
 have k2:=heap_alloc_new ((W.alloc (.cells #[.pointer (some ⟨jb,0,none⟩)] 176)).alloc (.cells #[.int .i64 0] 37)) (.cells #[.int .i64 0] 3)
 have kj:=blk_al (blk_al (blk_al HJ.out (.cells #[.pointer (some ⟨jb,0,none⟩)] 176)) (.cells #[.int .i64 0] 37)) (.cells #[.int .i64 0] 3)
 have hb3:=bl_al (bl_al (bl_al (Below.refl W.heap.size W) (.cells #[.pointer (some ⟨jb,0,none⟩)] 176)) (.cells #[.int .i64 0] 37)) (.cells #[.int .i64 0] 3)
 simp only [World.size_alloc] at k1 k2
 obtain ⟨w3,hw3⟩:∃ x,((W.alloc (.cells #[.pointer (some ⟨jb,0,none⟩)] 176)).alloc (.cells #[.int .i64 0] 37)).alloc (.cells #[.int .i64 0] 3)=x:=⟨_,rfl⟩
 have hz3:w3.heap.size=W.heap.size+3:=by rw [<-hw3]; simp
 rw [hw3] at k0 k1 k2 kj hb3 ⊢
 clear hw3
 refine (HA.out w3 hb3 hz3).mono ?_
 rintro e w2 ⟨hk,h⟩
 have q0:=(hk _ (.inl (Nat.le_refl _)) (by omega)).trans k0
 have q1:=(hk _ (.inl (Nat.le_succ _)) (by omega)).trans k1
 have q2:=(hk _ (.inl (by omega)) (by omega)).trans k2
 have qj:=(hk _ (.inr rfl) (by omega)).trans kj
 clear k0 k1 k2 kj hk hb3
 rcases h with ⟨⟨u,rfl⟩,hR⟩|⟨x,rfl,hX⟩
 ·have c1:w2.cell? ⟨W.heap.size+1,0,none⟩=some (.int .i64 0):=zc q1 rfl
  have f1:∀ o,w2.frozen? ⟨W.heap.size+1,o,none⟩=false:=fun _=>zf q1
  have HRR:=zh hR
  clear q0 q2 qj HLE HA hR
  go_wp2_with fail
  refine leaves_cons (f:=155) (args := #[.pointer (some ⟨W.heap.size,0,none⟩),.pointer (some ⟨W.heap.size+1+1,0,none⟩),.pointer (some ⟨W.heap.size+1,0,none⟩)]) (by simp) (by simp [go_sem]) ?_
  refine (att_idle _ _ _ _).mono ?_
  rintro e u' w'' ⟨rfl,rfl,rfl⟩
  have hch:=(Chg.refl (fun b=>W.heap.size<=b/\b<W.heap.size+3) w2).setCell (p:=⟨W.heap.size+1,0,none⟩) (.inl ⟨Nat.le_succ _,by simp⟩) (.int .i64 0)
  have hc2:(w2.setCell ⟨W.heap.size+1,0,none⟩ (.int .i64 0)).cell? ⟨W.heap.size+1,0,none⟩=some (.int .i64 0):=by simp [go_sem,c1]
  have HP:AttP W R X (.returned (.int .i64 0)) (w2.setCell ⟨W.heap.size+1,0,none⟩ (.int .i64 0)):=.inl ⟨rfl,w2,HRR.out,hch⟩
  simp [Leaves,settle,results,Tryz.results116,go_sem,hc2,HP]
 ·have p0:w2.cell? ⟨W.heap.size,0,none⟩=some (.pointer (some ⟨jb,0,none⟩)):=zc q0 rfl
  have p1:w2.cell? ⟨W.heap.size+1,0,none⟩=some (.int .i64 0):=zc q1 rfl
  have p2:w2.cell? ⟨W.heap.size+1+1,0,none⟩=some (.int .i64 0):=zc q2 rfl
  have pj:w2.cell? ⟨jb,0,none⟩=some (.slice none 0 0):=zc qj rfl
  have f1:w2.frozen? ⟨W.heap.size+1,0,none⟩=false:=zf q1
  refine leaves_cons (f:=155) (args := #[.pointer (some ⟨W.heap.size,0,none⟩),.pointer (some ⟨W.heap.size+1+1,0,none⟩),.pointer (some ⟨W.heap.size+1,0,none⟩)]) (by simp) (by simp [go_sem]) ?_
  refine (att_panic _ _ _ jb x 0 _ p0 p2 pj p1 f1).mono ?_
  rintro e u' w'' ⟨rfl,rfl,hc2,hch⟩
  have HP:AttP W R X (.returned (.int .i64 x)) w'':=.inr ⟨x,rfl,w2,hX,hch.mono fun b _ e=>by omega⟩
  simp [Leaves,settle,results,Tryz.results116,go_sem,hc2,HP]
end Go.Proofs.YtckhofdinldhpaaGreat
