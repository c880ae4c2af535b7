/-
  Texts of the proof, put together without their remarks: Cm, Cp, Und, Rev2, Cq, Ia, Rcp, Scl, Nz, Ib, If, Lfp, Rpl, Sup, Av, Lsm, Sz.
-/
import Derived.Test.YtckhofdinldhpaaGreatA8
import Derived.Tactics
import Derived.Tactics2
import Derived.Defers
set_option linter.unusedSimpArgs false
set_option linter.unusedVariables false
set_option maxHeartbeats 8000000
set_option maxRecDepth 100000
namespace Go.Proofs.YtckhofdinldhpaaGreat
open Go Go.RowKit
def dupB (ks:List T):Bool:=(List.range ks.length).any fun i=>hasN (ks.take i) (ks.getD i (.nd 0 0 ⟨#[]⟩ [])).s
theorem dupB_yes {ks:List T} {j:Nat} (hj:j<ks.length) (h:hasN (ks.take j) ks[j].s=true):dupB ks=true:=by
 unfold dupB
 rw [List.any_eq_true]
 exact ⟨j,by simpa using hj,by simpa [hj] using h⟩
theorem dupB_no {ks:List T} (h:∀ j (hj:j<ks.length),hasN (ks.take j) ks[j].s=false):dupB ks=false:=by
 unfold dupB
 rw [List.any_eq_false]
 intro j hj
 have hj':j<ks.length:=by simpa using hj
 simpa [hj'] using h j hj'
structure RejOK (t:T):Prop where
 d:dep t<=1000
 two:t.k=40\/t.k=41\/t.k=42\/t.k=43\/t.k=56->2<=t.ks.length
 one:44<=t.k/\t.k<=49->1<=t.ks.length
 four:t.k=52\/t.k=53->4<=t.ks.length
 pl:40<=t.k/\t.k<=49->∀ x∈t.ks,x.k=3->1<=x.ks.length
def rejE (t:T):Int :=
 if t.k=56 then 9
 else if t.k=40\/t.k=41\/t.k=42 then if idxB (kidC t 0) (kidC t 0).s||menB (kidC t 1) (kidC t 0).s then 8 else 0
 else if t.k=43 then if aliB t.ks [(kidC t 0).s,(kidC t 1).s] then 8 else 0
 else if t.k=44\/t.k=45 then if aliB t.ks [(kidC t 0).s,t.s] then 8 else 0
 else if 46<=t.k/\t.k<=49 then if aliB t.ks [(kidC t 0).s] then 8 else 0
 else if t.k=50\/t.k=51 then if dupB t.ks then 8 else 0
 else if t.k=52 then if conB (kidC t 3) && !conB (kidC t 0) then 10 else 0
 else if t.k=53 then if conB (kidC t 0) then 10 else 0
 else 0
theorem row0 {w:World} {ks:List T} {A:Option Addr} (h:RowAt w Any A ks) (hl:0<ks.length):∃ (a:Addr) (t:T) (A':Option Addr) (c':Nat),A=some a/\Hid (ks[0]=t)/\Nd4 w a t A' c'/\NV w Any t (nv t.k t.n t.s A' t.ks.length c'):=by
 obtain ⟨a,t,A',c',rfl,_,Ht,h4,hn⟩:=h.nd hl
 simp only [Nat.zero_mul,Addr.add_zero'] at h4
 exact ⟨a,t,A',c',rfl,Ht,h4,hn⟩
theorem rowI {w:World} {ks:List T} {a:Addr} (h:RowAt w Any (some a) ks) (i:Nat) (hl:i+1<ks.length):∃ (t:T) (A':Option Addr) (c':Nat),Hid (ks[i+1]=t)/\Nd4 w ⟨a.block,a.off+(i+1)*4,none⟩ t A' c'/\NV w Any t (nv t.k t.n t.s A' t.ks.length c'):=by
 obtain ⟨a',t,A',c',e,_,Ht,h4,hn⟩:=h.nd hl
 injection e with e
 subst e
 have ha:a.add ((i+1)*4)=⟨a.block,a.off+(i+1)*4,none⟩:=by unfold Addr.add; split<;>simp_all
 rw [ha] at h4
 exact ⟨t,A',c',Ht,h4,hn⟩
theorem reject_set (n:Int) (s:ByteArray) (ks:List T) (A:Option Addr) (c:Nat) (w:World) (hrow:RowAt w Any A ks) (hl:2<=ks.length):Calls Tryz.prog 142 #[nv 56 n s A ks.length c] w (NmE w 9):=by
 obtain ⟨a,t0,A1,c1,rfl,Ht0,h4,-⟩:=row0 (hrow.later (bl_al (Below.refl _ _) (.cells #[.int .u8 56,.int .i64 n,.string s,.slice A ks.length c] 29))) (by omega)
 obtain ⟨q0,q1,q2,q3⟩:=h4
 clear Ht0
 obtain ⟨L,hL⟩:∃ L,ks.length=L:=⟨_,rfl⟩
 rw [hL] at q0 q1 q2 q3 hl ⊢
 have hfl:(0:Int)<(L:Int):=by omega
 have hfl0:0<L:=by omega
 clear hrow hL hl
 go_enter Tryz.func142,Tryz.ntmps142
 go_wp2_with fail
 go_ret2
 exact ⟨_,rfl,bl_al (Below.refl _ _) _⟩
theorem reject_upd (k n:Int) (s:ByteArray) (ks:List T) (A:Option Addr) (c:Nat) (w:World) (hk:k=40\/k=41\/k=42) (hrow:RowAt w Any A ks) (hl:2<=ks.length) (hd:∀ t∈ks,dep t<=1000) (hp:∀ t∈ks,t.k=3->1<=t.ks.length) :
  Calls Tryz.prog 142 #[nv k n s A ks.length c] w (NmE w (if idxB ks[0] ks[0].s||menB ks[1] ks[0].s then 8 else 0)):=by
 have hrow':=hrow.later (bl_al (Below.refl _ _) (.cells #[.int .u8 k,.int .i64 n,.string s,.slice A ks.length c] 29))
 obtain ⟨a,t0,A1,c1,rfl,Ht0,h4,hn0⟩:=row0 hrow' (by omega)
 obtain ⟨t1,A2,c2,Ht1,h5,hn1⟩:=rowI hrow' 0 (by omega)
 simp only [Nat.zero_add,Nat.one_mul] at Ht1 h5
 have d0:=hd ks[0] (List.getElem_mem _)
 have d1:=hd ks[1] (List.getElem_mem _)
 have p0:=hp ks[0] (List.getElem_mem _)
 rw [Ht0.out] at d0 p0 ⊢
 rw [Ht1.out] at d1 ⊢
 obtain ⟨R,hR⟩:∃ R:Int,(if (idxB t0 t0.s||menB t1 t0.s)=true then 8 else 0)=R:=⟨_,rfl⟩
 rw [hR]
 obtain ⟨b0,hb0⟩:∃ b,idxB t0 t0.s=b:=⟨_,rfl⟩
 obtain ⟨b1,hb1⟩:∃ b,menB t1 t0.s=b:=⟨_,rfl⟩
 have HI:=zh (show ∀ v w,NV w Any t0 v->Calls Tryz.prog 169 #[v,.string t0.s] w fun e w'=>e=.returned (.bool b0)/\Below w.heap.size w w' from fun v w h=>hb0▸indexed_any t0 t0.s v w h d0 p0)
 have HM:=zh (show ∀ v w,NV w Any t1 v->Calls Tryz.prog 170 #[v,.string t0.s] w fun e w'=>e=.returned (.bool b1)/\Below w.heap.size w w' from fun v w h=>hb1▸mentions_any t1 t0.s v w h d1)
 rw [hb0,hb1] at hR
 have HR:=zh hR
 obtain ⟨L,hL⟩:∃ L,ks.length=L:=⟨_,rfl⟩
 have hfl:(0:Int)<(L:Int):=by omega
 have hfl0:0<L:=by omega
 have hfl1:(1:Int)<(L:Int):=by omega
 have hfl2:1<L:=by omega
 have hbx:=box4 (heap_alloc_new w (.cells #[.int .u8 k,.int .i64 n,.string s,.slice (some a) ks.length c] 29))
 clear Ht0 Ht1 hrow hrow' hR hb0 hb1 d0 d1 p0 hd hp
 rw [hL] at h4 h5 hn0 hn1 hl hbx ⊢
 obtain ⟨W0,hW0⟩:∃ W0,w.alloc (.cells #[.int .u8 k,.int .i64 n,.string s,.slice (some a) L c] 29)=W0:=⟨_,rfl⟩
 have q0:Below w.heap.size w W0:=hW0▸bl_al (Below.refl _ _) _
 rw [hW0] at h4 h5 hn0 hn1 hbx
 have HN0:=zh hn0
 have HN1:=zh hn1
 have HALL:=zh (show ∀ w',Below W0.heap.size W0 w'->(Nd4 w' a t0 A1 c1/\Nd4 w' ⟨a.block,a.off+4,none⟩ t1 A2 c2)/\w'.cell? ⟨w.heap.size,0,none⟩=some (.int .u8 k)/\w'.cell? ⟨w.heap.size,3,none⟩=some (.slice (some a) L c) from fun w' h=>⟨⟨Nd4_bl h h4,Nd4_bl h h5⟩,zb h hbx.1,zb h hbx.2.2.2⟩)
 clear hn0 hn1 h4 h5 hbx hL hl
 obtain ⟨⟨⟨a0,a1,a2,a3⟩,⟨b0',b1',b2,b3⟩⟩,x0,x3⟩:=HALL.out _ (Below.refl _ _)
 rcases hk with rfl|rfl|rfl
 all_goals
  go_enter Tryz.func142,Tryz.ntmps142
  go_wp2_with fail
  refine (HI.out _ _ HN0.out).mono ?_
  rintro e w1 ⟨rfl,bw1⟩
  obtain ⟨⟨⟨a0,a1,a2,a3⟩,⟨b0',b1',b2,b3⟩⟩,x0,x3⟩:=HALL.out _ bw1
  have q1:=bl_tt q0 bw1
  have HN2:=zh (HN1.out.later bw1)
  clear bw1
  cases b0
  ·go_wp2_with fail
   refine (HM.out _ _ HN2.out).mono ?_
   rintro e w2 ⟨rfl,bw2⟩
   have q2:=bl_tt q1 bw2
   clear bw2
   cases b1
   ·go_wp2_with fail
    go_ret2
    exact ⟨_,by rw [<-HR.out]; rfl,q2⟩
   ·go_wp2_with fail
    go_ret2
    exact ⟨_,by rw [<-HR.out]; rfl,q2⟩
  ·go_wp2_with fail
   go_ret2
   exact ⟨_,by rw [<-HR.out]; rfl,q1⟩
theorem buildSS1 (s:ByteArray) (w:World):(Instr.buildSlice 232 1 #[(0,.string s)]).run Tryz.prog w=.ok (.slice (some ⟨w.heap.size,0,none⟩) 1 1) (w.alloc (.cells #[.string s] 9)):=by kernel_rfl
theorem buildSS2 (s s':ByteArray) (w:World):(Instr.buildSlice 232 2 #[(0,.string s),(1,.string s')]).run Tryz.prog w=.ok (.slice (some ⟨w.heap.size,0,none⟩) 2 2) (w.alloc (.cells #[.string s,.string s'] 9)):=by kernel_rfl
theorem rowS_new (w:World) (E:TypeId) (ss:List ByteArray):RowS (w.alloc (.cells (ss.map Value.string).toArray E)) (some ⟨w.heap.size,0,none⟩) ss:=fun i hi=>by
 refine ⟨_,rfl,?_⟩
 have:=news_newN w E (ss.map Value.string) i (.string ss[i]) (by simp [hi])
 exact this
theorem reject_tr (k n:Int) (s:ByteArray) (ks:List T) (A:Option Addr) (c:Nat) (w:World) (hk:k=46\/k=47\/k=48\/k=49) (hrow:RowAt w Any A ks) (hl:1<=ks.length) (hlk:ks.length<=LK) (hd:∀ t∈ks,dep t<=1000) (hp:∀ t∈ks,t.k=3->1<=t.ks.length) :
  Calls Tryz.prog 142 #[nv k n s A ks.length c] w (NmE w (if aliB ks [ks[0].s] then 8 else 0)):=by
 have hrow':=hrow.later (bl_al (Below.refl _ _) (.cells #[.int .u8 k,.int .i64 n,.string s,.slice A ks.length c] 29))
 obtain ⟨a,t0,A1,c1,rfl,Ht0,h4,hn0⟩:=row0 hrow' (by omega)
 rw [Ht0.out]
 obtain ⟨R,hR⟩:∃ R:Int,(if aliB ks [t0.s]=true then 8 else 0)=R:=⟨_,rfl⟩
 rw [hR]
 obtain ⟨L,hL⟩:∃ L,ks.length=L:=⟨_,rfl⟩
 have HAL:=zh (show ∀ (B:Option Addr) (d:Nat) (w:World),RowAt w Any (some a) ks->RowS w B [t0.s]->Calls Tryz.prog 171 #[.slice (some a) L c,.slice B 1 d] w (NmE w R) from fun B d w h h'=>hL▸hR▸alias_any ks [t0.s] (some a) c B d w h h' hlk (by simp) (fun t ht=>⟨hd t ht,hp t ht⟩))
 have hfl:(0:Int)<(L:Int):=by omega
 have hfl0:0<L:=by omega
 have hbx:=box4 (heap_alloc_new w (.cells #[.int .u8 k,.int .i64 n,.string s,.slice (some a) ks.length c] 29))
 have HROW:=zh hrow'
 clear Ht0 hrow hrow' hR hd hp
 rw [hL] at h4 hl hbx HROW ⊢
 obtain ⟨W0,hW0⟩:∃ W0,w.alloc (.cells #[.int .u8 k,.int .i64 n,.string s,.slice (some a) L c] 29)=W0:=⟨_,rfl⟩
 have q0:Below w.heap.size w W0:=hW0▸bl_al (Below.refl _ _) _
 rw [hW0] at h4 hbx HROW
 obtain ⟨x0,x1,x2,x3⟩:=hbx
 obtain ⟨a0,a1,a2,a3⟩:=h4
 have hb1:=buildSS1
 clear hn0 hL hl
 have HS:=zh (show ∀ w',Below W0.heap.size W0 w'->w'.cell? ⟨w.heap.size,3,none⟩=some (.slice (some a) L c)/\w'.cell? ⟨a.block,a.off+2,none⟩=some (.string t0.s) from fun w' h=>⟨zb h x3,zb h a2⟩)
 have HK0:=zh (HS.out _ (Below.refl _ _).drew)
 have HK1:=zh (HS.out _ (bl_al (Below.refl _ _) (.cells #[.string t0.s] 9)).drew)
 have HRS:=zh (show RowS (W0.alloc (.cells #[.string t0.s] 9)).drew (some ⟨W0.heap.size,0,none⟩) [t0.s] from rowS_new W0 9 [t0.s])
 have HRW:=zh (HROW.out.later (bl_al (Below.refl _ _) (.cells #[.string t0.s] 9)).drew)
 clear x3 a0 a1 a2 a3 x1 x2
 rcases hk with rfl|rfl|rfl|rfl
 all_goals
  go_enter Tryz.func142,Tryz.ntmps142
  go_upto_region 20 with fail
  go_region_held3 (fun w':World=>w'.cell? ⟨w.heap.size,3,none⟩=some (.slice (some a) L c)/\w'.cell? ⟨a.block,a.off+2,none⟩=some (.string t0.s))
   (first|with_reducible exact HK2.out|with_reducible exact HK1.out|with_reducible exact HK0.out)
   (first
    | (go_at_call 171; refine (HAL.out _ _ _ HRW.out HRS.out).mono ?_; rintro e y1 ⟨s1,rfl,by1⟩; have b1:=bl_tt (bl_al (Below.refl W0.heap.size W0) (.cells #[.string t0.s] 9)).drew by1; have HK2:=zh (HS.out _ b1))
    | fail)
  have HB1:=zh (bl_tt q0 b1)
  clear by1 b1 HK2
  go_wp2_with fail
  go_ret2
  exact ⟨s1,rfl,HB1.out⟩
theorem reject_pp (k n:Int) (s:ByteArray) (ks:List T) (A:Option Addr) (c:Nat) (w:World) (hk:k=44\/k=45) (hrow:RowAt w Any A ks) (hl:1<=ks.length) (hlk:ks.length<=LK) (hd:∀ t∈ks,dep t<=1000) (hp:∀ t∈ks,t.k=3->1<=t.ks.length) :
  Calls Tryz.prog 142 #[nv k n s A ks.length c] w (NmE w (if aliB ks [ks[0].s,s] then 8 else 0)):=by
 have hrow':=hrow.later (bl_al (Below.refl _ _) (.cells #[.int .u8 k,.int .i64 n,.string s,.slice A ks.length c] 29))
 obtain ⟨a,t0,A1,c1,rfl,Ht0,h4,hn0⟩:=row0 hrow' (by omega)
 rw [Ht0.out]
 obtain ⟨R,hR⟩:∃ R:Int,(if aliB ks [t0.s,s]=true then 8 else 0)=R:=⟨_,rfl⟩
 rw [hR]
 obtain ⟨L,hL⟩:∃ L,ks.length=L:=⟨_,rfl⟩
 have HAL:=zh (show ∀ (B:Option Addr) (d:Nat) (w:World),RowAt w Any (some a) ks->RowS w B [t0.s,s]->Calls Tryz.prog 171 #[.slice (some a) L c,.slice B 2 d] w (NmE w R) from fun B d w h h'=>hL▸hR▸alias_any ks [t0.s,s] (some a) c B d w h h' hlk (by simp) (fun t ht=>⟨hd t ht,hp t ht⟩))
 have hfl:(0:Int)<(L:Int):=by omega
 have hfl0:0<L:=by omega
 have hbx:=box4 (heap_alloc_new w (.cells #[.int .u8 k,.int .i64 n,.string s,.slice (some a) ks.length c] 29))
 have HROW:=zh hrow'
 clear Ht0 hrow hrow' hR hd hp
 rw [hL] at h4 hl hbx HROW ⊢
 obtain ⟨W0,hW0⟩:∃ W0,w.alloc (.cells #[.int .u8 k,.int .i64 n,.string s,.slice (some a) L c] 29)=W0:=⟨_,rfl⟩
 have q0:Below w.heap.size w W0:=hW0▸bl_al (Below.refl _ _) _
 rw [hW0] at h4 hbx HROW
 obtain ⟨x0,x1,x2,x3⟩:=hbx
 obtain ⟨a0,a1,a2,a3⟩:=h4
 have hb1:=buildSS2
 clear hn0 hL hl
 have HS:=zh (show ∀ w',Below W0.heap.size W0 w'->w'.cell? ⟨w.heap.size,2,none⟩=some (.string s)/\w'.cell? ⟨w.heap.size,3,none⟩=some (.slice (some a) L c)/\w'.cell? ⟨a.block,a.off+2,none⟩=some (.string t0.s) from fun w' h=>⟨zb h x2,zb h x3,zb h a2⟩)
 have HK0:=zh (HS.out _ (Below.refl _ _).drew)
 have HK1:=zh (HS.out _ (bl_al (Below.refl _ _) (.cells #[.string t0.s,.string s] 9)).drew)
 have HRS:=zh (show RowS (W0.alloc (.cells #[.string t0.s,.string s] 9)).drew (some ⟨W0.heap.size,0,none⟩) [t0.s,s] from rowS_new W0 9 [t0.s,s])
 have HRW:=zh (HROW.out.later (bl_al (Below.refl _ _) (.cells #[.string t0.s,.string s] 9)).drew)
 clear x3 a0 a1 a2 a3 x1 x2
 rcases hk with rfl|rfl
 all_goals
  go_enter Tryz.func142,Tryz.ntmps142
  go_upto_region 15 with fail
  go_region_held3 (fun w':World=>w'.cell? ⟨w.heap.size,2,none⟩=some (.string s)/\w'.cell? ⟨w.heap.size,3,none⟩=some (.slice (some a) L c)/\w'.cell? ⟨a.block,a.off+2,none⟩=some (.string t0.s))
   (first|with_reducible exact HK2.out|with_reducible exact HK1.out|with_reducible exact HK0.out)
   (first
    | (go_at_call 171; refine (HAL.out _ _ _ HRW.out HRS.out).mono ?_; rintro e y1 ⟨s1,rfl,by1⟩; have b1:=bl_tt (bl_al (Below.refl W0.heap.size W0) (.cells #[.string t0.s,.string s] 9)).drew by1; have HK2:=zh (HS.out _ b1))
    | fail)
  have HB1:=zh (bl_tt q0 b1)
  clear by1 b1 HK2
  go_wp2_with fail
  go_ret2
  exact ⟨s1,rfl,HB1.out⟩
theorem reject_swap (n:Int) (s:ByteArray) (ks:List T) (A:Option Addr) (c:Nat) (w:World) (hrow:RowAt w Any A ks) (hl:2<=ks.length) (hlk:ks.length<=LK) (hd:∀ t∈ks,dep t<=1000) (hp:∀ t∈ks,t.k=3->1<=t.ks.length) :
  Calls Tryz.prog 142 #[nv 43 n s A ks.length c] w (NmE w (if aliB ks [ks[0].s,ks[1].s] then 8 else 0)):=by
 have hrow':=hrow.later (bl_al (Below.refl _ _) (.cells #[.int .u8 43,.int .i64 n,.string s,.slice A ks.length c] 29))
 obtain ⟨a,t0,A1,c1,rfl,Ht0,h4,hn0⟩:=row0 hrow' (by omega)
 obtain ⟨t1,A2,c2,Ht1,h5,hn1⟩:=rowI hrow' 0 (by omega)
 simp only [Nat.zero_add,Nat.one_mul] at Ht1 h5
 rw [Ht0.out,Ht1.out]
 obtain ⟨R,hR⟩:∃ R:Int,(if aliB ks [t0.s,t1.s]=true then 8 else 0)=R:=⟨_,rfl⟩
 rw [hR]
 obtain ⟨L,hL⟩:∃ L,ks.length=L:=⟨_,rfl⟩
 have HAL:=zh (show ∀ (B:Option Addr) (d:Nat) (w:World),RowAt w Any (some a) ks->RowS w B [t0.s,t1.s]->Calls Tryz.prog 171 #[.slice (some a) L c,.slice B 2 d] w (NmE w R) from fun B d w h h'=>hL▸hR▸alias_any ks [t0.s,t1.s] (some a) c B d w h h' hlk (by simp) (fun t ht=>⟨hd t ht,hp t ht⟩))
 have hfl:(0:Int)<(L:Int):=by omega
 have hfl0:0<L:=by omega
 have hfl1:(1:Int)<(L:Int):=by omega
 have hfl2:1<L:=by omega
 have hbx:=box4 (heap_alloc_new w (.cells #[.int .u8 43,.int .i64 n,.string s,.slice (some a) ks.length c] 29))
 have HROW:=zh hrow'
 clear Ht0 Ht1 hrow hrow' hR hd hp
 rw [hL] at h4 h5 hl hbx HROW ⊢
 obtain ⟨W0,hW0⟩:∃ W0,w.alloc (.cells #[.int .u8 43,.int .i64 n,.string s,.slice (some a) L c] 29)=W0:=⟨_,rfl⟩
 have q0:Below w.heap.size w W0:=hW0▸bl_al (Below.refl _ _) _
 rw [hW0] at h4 h5 hbx HROW
 obtain ⟨x0,x1,x2,x3⟩:=hbx
 obtain ⟨a0,a1,a2,a3⟩:=h4
 obtain ⟨b0,b1,b2,b3⟩:=h5
 have hb1:=buildSS2
 clear hn0 hn1 hL hl
 go_enter Tryz.func142,Tryz.ntmps142
 go_upto_region 11 with fail
 have HS:=zh (show ∀ w',Below W0.heap.size W0 w'->w'.cell? ⟨w.heap.size,3,none⟩=some (.slice (some a) L c)/\Nd4 w' a t0 A1 c1/\Nd4 w' ⟨a.block,a.off+4,none⟩ t1 A2 c2 from fun w' h=>⟨zb h x3,Nd4_bl h ⟨a0,a1,a2,a3⟩,Nd4_bl h ⟨b0,b1,b2,b3⟩⟩)
 clear x3 a0 a1 a2 a3 b0 b1 b2 b3 x1 x2
 go_region_held3 (fun w':World=>w'.cell? ⟨w.heap.size,3,none⟩=some (.slice (some a) L c)/\(w'.cell? a=some (.int .u8 t0.k)/\w'.cell? ⟨a.block,a.off+1,none⟩=some (.int .i64 t0.n)/\w'.cell? ⟨a.block,a.off+2,none⟩=some (.string t0.s)/\w'.cell? ⟨a.block,a.off+3,none⟩=some (.slice A1 t0.ks.length c1))/\(w'.cell? ⟨a.block,a.off+4,none⟩=some (.int .u8 t1.k)/\w'.cell? ⟨a.block,a.off+4+1,none⟩=some (.int .i64 t1.n)/\w'.cell? ⟨a.block,a.off+4+2,none⟩=some (.string t1.s)/\w'.cell? ⟨a.block,a.off+4+3,none⟩=some (.slice A2 t1.ks.length c2)))
   (exact HS.out _ (by first|exact (Below.refl _ _).drew|exact (bl_al (Below.refl _ _) _).drew|exact (bl_al (bl_al (Below.refl _ _) _) _).drew|fail))
   (first|fail)
 ·have hrs:=rowS_new ((W0.alloc (.cells #[.int .u8 t0.k,.int .i64 t0.n,.string t0.s,.slice A1 t0.ks.length c1] 29)).alloc (.cells #[.int .u8 t1.k,.int .i64 t1.n,.string t1.s,.slice A2 t1.ks.length c2] 29)) 9 [t0.s,t1.s]
  simp only [World.size_alloc] at hrs
  have HRS:=zh hrs
  clear hrs
  go_wp2_with fail
  refine (HAL.out _ _ _ (HROW.out.later (bl_al (bl_al (bl_al (Below.refl _ _) _) _) _).drew) HRS.out).mono ?_
  rintro e y1 ⟨s1,rfl,by1⟩
  have HB1:=zh (bl_tt q0 (bl_tt (bl_al (bl_al (bl_al (Below.refl W0.heap.size W0) _) _) _).drew by1))
  clear by1
  go_wp2_with fail
  go_ret2
  exact ⟨s1,rfl,HB1.out⟩
 ·have hrs:=rowS_new ((W0.alloc (.cells #[.int .u8 t1.k,.int .i64 t1.n,.string t1.s,.slice A2 t1.ks.length c2] 29)).alloc (.cells #[.int .u8 t0.k,.int .i64 t0.n,.string t0.s,.slice A1 t0.ks.length c1] 29)) 9 [t0.s,t1.s]
  simp only [World.size_alloc] at hrs
  have HRS:=zh hrs
  clear hrs
  go_wp2_with fail
  refine (HAL.out _ _ _ (HROW.out.later (bl_al (bl_al (bl_al (Below.refl _ _) _) _) _).drew) HRS.out).mono ?_
  rintro e y1 ⟨s1,rfl,by1⟩
  have HB1:=zh (bl_tt q0 (bl_tt (bl_al (bl_al (bl_al (Below.refl W0.heap.size W0) _) _) _).drew by1))
  clear by1
  go_wp2_with fail
  go_ret2
  exact ⟨s1,rfl,HB1.out⟩
theorem reject_none (k n:Int) (s:ByteArray) (A:Option Addr) (l c:Nat) (w:World) (hk:k<40\/54<=k) (hk2:k≠56):Calls Tryz.prog 142 #[nv k n s A l c] w (NmE w 0):=by
 have z56:(k==56)=false:=by simp; omega
 have z40:(k==40)=false:=by simp; omega
 have z41:(k==41)=false:=by simp; omega
 have z42:(k==42)=false:=by simp; omega
 have z43:(k==43)=false:=by simp; omega
 have z44:(k==44)=false:=by simp; omega
 have z45:(k==45)=false:=by simp; omega
 have z46:(k==46)=false:=by simp; omega
 have z47:(k==47)=false:=by simp; omega
 have z48:(k==48)=false:=by simp; omega
 have z49:(k==49)=false:=by simp; omega
 have z50:(k==50)=false:=by simp; omega
 have z51:(k==51)=false:=by simp; omega
 have z52:(k==52)=false:=by simp; omega
 have z53:(k==53)=false:=by simp; omega
 clear hk hk2
 go_enter Tryz.func142,Tryz.ntmps142
 go_wp2_with fail
 go_ret2
 exact ⟨_,rfl,bl_al (Below.refl _ _) _⟩
theorem reject_if (n:Int) (s:ByteArray) (ks:List T) (A:Option Addr) (c:Nat) (w:World) (hrow:RowAt w Any A ks) (hl:4<=ks.length) :
  Calls Tryz.prog 142 #[nv 52 n s A ks.length c] w (NmE w (if conB ks[3] && !conB ks[0] then 10 else 0)):=by
 have hrow':=hrow.later (bl_al (Below.refl _ _) (.cells #[.int .u8 52,.int .i64 n,.string s,.slice A ks.length c] 29))
 obtain ⟨a,t0,A1,c1,rfl,Ht0,h4,hn0⟩:=row0 hrow' (by omega)
 obtain ⟨t1,A2,c2,Ht1,h5,hn1⟩:=rowI hrow' 2 (by omega)
 simp only [Nat.reduceAdd,Nat.reduceMul] at Ht1 h5
 rw [Ht0.out,Ht1.out]
 obtain ⟨R,hR⟩:∃ R:Int,(if (conB t1 && !conB t0)=true then 10 else 0)=R:=⟨_,rfl⟩
 rw [hR]
 obtain ⟨b0,hb0⟩:∃ b,conB t0=b:=⟨_,rfl⟩
 obtain ⟨b1,hb1⟩:∃ b,conB t1=b:=⟨_,rfl⟩
 have H0:=zh (show ∀ v w,NV w Any t0 v->Calls Tryz.prog 174 #[v] w fun e w'=>e=.returned (.bool b0)/\Below w.heap.size w w' from fun v w h=>hb0▸constant_any t0 v w h)
 have H1:=zh (show ∀ v w,NV w Any t1 v->Calls Tryz.prog 174 #[v] w fun e w'=>e=.returned (.bool b1)/\Below w.heap.size w w' from fun v w h=>hb1▸constant_any t1 v w h)
 rw [hb0,hb1] at hR
 have HR:=zh hR
 obtain ⟨L,hL⟩:∃ L,ks.length=L:=⟨_,rfl⟩
 have hfl:(0:Int)<(L:Int):=by omega
 have hfl0:0<L:=by omega
 have hfl1:(3:Int)<(L:Int):=by omega
 have hfl2:3<L:=by omega
 have hbx:=box4 (heap_alloc_new w (.cells #[.int .u8 52,.int .i64 n,.string s,.slice (some a) ks.length c] 29))
 clear Ht0 Ht1 hrow hrow' hR hb0 hb1
 rw [hL] at h4 h5 hn0 hn1 hl hbx ⊢
 obtain ⟨W0,hW0⟩:∃ W0,w.alloc (.cells #[.int .u8 52,.int .i64 n,.string s,.slice (some a) L c] 29)=W0:=⟨_,rfl⟩
 have q0:Below w.heap.size w W0:=hW0▸bl_al (Below.refl _ _) _
 rw [hW0] at h4 h5 hn0 hn1 hbx
 have HN0:=zh hn0
 have HN1:=zh hn1
 have HALL:=zh (show ∀ w',Below W0.heap.size W0 w'->(Nd4 w' a t0 A1 c1/\Nd4 w' ⟨a.block,a.off+12,none⟩ t1 A2 c2)/\w'.cell? ⟨w.heap.size,0,none⟩=some (.int .u8 52)/\w'.cell? ⟨w.heap.size,3,none⟩=some (.slice (some a) L c) from fun w' h=>⟨⟨Nd4_bl h h4,Nd4_bl h h5⟩,zb h hbx.1,zb h hbx.2.2.2⟩)
 clear hn0 hn1 h4 h5 hbx hL hl
 obtain ⟨⟨⟨a0,a1,a2,a3⟩,⟨b0',b1',b2,b3⟩⟩,x0,x3⟩:=HALL.out _ (Below.refl _ _)
 go_enter Tryz.func142,Tryz.ntmps142
 go_wp2_with fail
 refine (H1.out _ _ HN1.out).mono ?_
 rintro e w1 ⟨rfl,bw1⟩
 obtain ⟨⟨⟨a0,a1,a2,a3⟩,⟨b0',b1',b2,b3⟩⟩,x0,x3⟩:=HALL.out _ bw1
 have q1:=bl_tt q0 bw1
 have HN2:=zh (HN0.out.later bw1)
 clear bw1
 cases b1
 ·go_wp2_with fail
  go_ret2
  exact ⟨_,by rw [<-HR.out]; rfl,q1⟩
 ·go_wp2_with fail
  refine (H0.out _ _ HN2.out).mono ?_
  rintro e w2 ⟨rfl,bw2⟩
  have q2:=bl_tt q1 bw2
  clear bw2
  cases b0
  ·go_wp2_with fail
   go_ret2
   exact ⟨_,by rw [<-HR.out]; rfl,q2⟩
  ·go_wp2_with fail
   go_ret2
   exact ⟨_,by rw [<-HR.out]; rfl,q2⟩
theorem reject_from (n:Int) (s:ByteArray) (ks:List T) (A:Option Addr) (c:Nat) (w:World) (hrow:RowAt w Any A ks) (hl:4<=ks.length) :
  Calls Tryz.prog 142 #[nv 53 n s A ks.length c] w (NmE w (if conB ks[0] then 10 else 0)):=by
 have hrow':=hrow.later (bl_al (Below.refl _ _) (.cells #[.int .u8 53,.int .i64 n,.string s,.slice A ks.length c] 29))
 obtain ⟨a,t0,A1,c1,rfl,Ht0,h4,hn0⟩:=row0 hrow' (by omega)
 rw [Ht0.out]
 obtain ⟨R,hR⟩:∃ R:Int,(if conB t0=true then 10 else 0)=R:=⟨_,rfl⟩
 rw [hR]
 obtain ⟨b0,hb0⟩:∃ b,conB t0=b:=⟨_,rfl⟩
 have H0:=zh (show ∀ v w,NV w Any t0 v->Calls Tryz.prog 174 #[v] w fun e w'=>e=.returned (.bool b0)/\Below w.heap.size w w' from fun v w h=>hb0▸constant_any t0 v w h)
 rw [hb0] at hR
 have HR:=zh hR
 obtain ⟨L,hL⟩:∃ L,ks.length=L:=⟨_,rfl⟩
 have hfl:(0:Int)<(L:Int):=by omega
 have hfl0:0<L:=by omega
 have hbx:=box4 (heap_alloc_new w (.cells #[.int .u8 53,.int .i64 n,.string s,.slice (some a) ks.length c] 29))
 clear Ht0 hrow hrow' hR hb0
 rw [hL] at h4 hn0 hl hbx ⊢
 obtain ⟨W0,hW0⟩:∃ W0,w.alloc (.cells #[.int .u8 53,.int .i64 n,.string s,.slice (some a) L c] 29)=W0:=⟨_,rfl⟩
 have q0:Below w.heap.size w W0:=hW0▸bl_al (Below.refl _ _) _
 rw [hW0] at h4 hn0 hbx
 have HN0:=zh hn0
 obtain ⟨a0,a1,a2,a3⟩:=h4
 obtain ⟨x0,x1,x2,x3⟩:=hbx
 clear hn0 hL hl
 go_enter Tryz.func142,Tryz.ntmps142
 go_wp2_with fail
 refine (H0.out _ _ HN0.out).mono ?_
 rintro e w1 ⟨rfl,bw1⟩
 have q1:=bl_tt q0 bw1
 clear bw1 a0 a1 a2 a3 x0 x1 x2 x3
 cases b0
 ·go_wp2_with fail
  go_ret2
  exact ⟨_,by rw [<-HR.out]; rfl,q1⟩
 ·go_wp2_with fail
  go_ret2
  exact ⟨_,by rw [<-HR.out]; rfl,q1⟩
theorem reject_call (k n:Int) (s:ByteArray) (ks:List T) (A:Option Addr) (c:Nat) (w:World) (hk:k=50\/k=51) (hrow:RowAt w Any A ks) (hlk:ks.length<=LK) (hlc:ks.length<=c) :
  Calls Tryz.prog 142 #[nv k n s A ks.length c] w (NmE w (if dupB ks then 8 else 0)):=by
 have hl':=LK_int hlk
 obtain ⟨R,hR⟩:∃ R:Int,(if dupB ks=true then 8 else 0)=R:=⟨_,rfl⟩
 rw [hR]
 have HR:=zh hR
 have HROW:=zh hrow
 have HLK:=zh hlk
 clear hR hrow hlk
 rcases hk with rfl|rfl
 ·go_enter Tryz.func142,Tryz.ntmps142
  go_wp2_with fail
  go_loopw [100] (fun i wr=>∃ j:Nat,j<=ks.length/\i=.int .i64 j/\Below w.heap.size w wr/\wr.heap[w.heap.size]?=some (.cells #[.int .u8 50,.int .i64 n,.string s,.slice A ks.length c] 29 (0,0))/\Hid (∀ q (hq:q<ks.length),q<j->hasN (ks.take q) ks[q].s=false)) (fun i _=>ks.length-(intOf i).toNat)
  case atStart=>exact ⟨0,Nat.zero_le _,rfl,bl_al (Below.refl _ _) _,heap_alloc_new w _,zh fun q _ h=>by omega⟩
  case round =>
   obtain ⟨j,hj,rfl,hbl,hbx,HJ⟩:=hrel
   have HBX:=zh hbx
   have HBL:=zh hbl
   by_cases hlt:j<ks.length
   ·obtain ⟨a,t,A1,c1,rfl,_,Ht,⟨q0,q1,q2,q3⟩,-⟩:=(HROW.out.later hbl).nd hlt
    obtain ⟨m0,m1,m2,m3⟩:=box4 hbx
    have m3':=fun o=>cell_al m3 o
    obtain ⟨b,hb⟩:∃ b,hasN (ks.take j) t.s=b:=⟨_,rfl⟩
    have htl:(ks.take j).length=j:=by simp; omega
    have HCO:=zh (show ∀ (c:Nat) (nb:Nat) (w:World),RowAt w Any (some a) (ks.take j)->w.cell? ⟨nb,2,none⟩=some (.string t.s)->Calls Tryz.prog 172 #[.slice (some a) j c,.func (.func 173) #[] #[.pointer (some ⟨nb,0,none⟩)]] w fun e w'=>e=.returned (.bool b)/\Below w.heap.size w w' from fun c nb w h h'=>by
     have:=ContainsN_any (ks.take j) (some a) c t.s nb w h (by have:=HLK.out; omega) h'
     rwa [htl,hb] at this)
    have HB:=zh hb
    have HRT:=zh (show RowAt (wr.alloc (.cells #[.int .u8 t.k,.int .i64 t.n,.string t.s,.slice A1 t.ks.length c1] 29)) Any (some a) (ks.take j) from fun i hi=>by
     have hi':i<ks.length:=by simp at hi; omega
     have:=(HROW.out.later (bl_al hbl (.cells #[.int .u8 t.k,.int .i64 t.n,.string t.s,.slice A1 t.ks.length c1] 29))) i hi'
     simpa using this)
    have hjc:j<=c:=by omega
    have hjc':(j:Int)<=(c:Int):=by omega
    clear hb htl hbx hbl
    go_wp2_with fail
    refine (HCO.out _ _ _ HRT.out (by simp)).mono ?_
    rintro e w1 ⟨rfl,bw1⟩
    have HB1:=zh (bl_tt (bl_al HBL.out _) bw1)
    have HX1:=zh (blk_bl (blk_al HBX.out _) bw1)
    have hy2:w1.cell? ⟨wr.heap.size,2,none⟩=some (.string t.s):=zb bw1 (by simp)
    clear bw1 q0 q1 q2 q3 m0 m1 m2 m3 m3'
    cases b
    ·have HJ2:Hid (∀ q (hq:q<ks.length),q<j+1->hasN (ks.take q) ks[q].s=false):=zh fun q hq hqj=>by
      by_cases e:q<j
      ·exact HJ.out q hq e
      ·obtain rfl:q=j:=by omega
       rw [Ht.out]; exact HB.out
     go_wp2_with fail
     go_roundw
     case rel=>exact ⟨j+1,by omega,by go_num,HB1.out,HX1.out,HJ2⟩
     case measure=>simp [intOf]; omega
    ·have hRR:R=8:=by rw [<-HR.out,if_pos (dupB_yes hlt (by rw [Ht.out]; exact HB.out))]
     have HRR:=zh hRR
     clear hRR
     go_wp2_with fail
     go_ret2
     exact ⟨_,by rw [HRR.out]; rfl,HB1.out⟩
   ·have hRR:R=0:=by rw [<-HR.out,dupB_no fun q hq=>HJ.out q hq (by omega)]; rfl
    have HRR:=zh hRR
    clear hRR hbl hbx
    go_wp2_with fail
    go_ret2
    exact ⟨_,by rw [HRR.out]; rfl,HBL.out⟩
 ·go_enter Tryz.func142,Tryz.ntmps142
  go_wp2_with fail
  go_loopw [100] (fun i wr=>∃ j:Nat,j<=ks.length/\i=.int .i64 j/\Below w.heap.size w wr/\wr.heap[w.heap.size]?=some (.cells #[.int .u8 51,.int .i64 n,.string s,.slice A ks.length c] 29 (0,0))/\Hid (∀ q (hq:q<ks.length),q<j->hasN (ks.take q) ks[q].s=false)) (fun i _=>ks.length-(intOf i).toNat)
  case atStart=>exact ⟨0,Nat.zero_le _,rfl,bl_al (Below.refl _ _) _,heap_alloc_new w _,zh fun q _ h=>by omega⟩
  case round =>
   obtain ⟨j,hj,rfl,hbl,hbx,HJ⟩:=hrel
   have HBX:=zh hbx
   have HBL:=zh hbl
   by_cases hlt:j<ks.length
   ·obtain ⟨a,t,A1,c1,rfl,_,Ht,⟨q0,q1,q2,q3⟩,-⟩:=(HROW.out.later hbl).nd hlt
    obtain ⟨m0,m1,m2,m3⟩:=box4 hbx
    have m3':=fun o=>cell_al m3 o
    obtain ⟨b,hb⟩:∃ b,hasN (ks.take j) t.s=b:=⟨_,rfl⟩
    have htl:(ks.take j).length=j:=by simp; omega
    have HCO:=zh (show ∀ (c:Nat) (nb:Nat) (w:World),RowAt w Any (some a) (ks.take j)->w.cell? ⟨nb,2,none⟩=some (.string t.s)->Calls Tryz.prog 172 #[.slice (some a) j c,.func (.func 173) #[] #[.pointer (some ⟨nb,0,none⟩)]] w fun e w'=>e=.returned (.bool b)/\Below w.heap.size w w' from fun c nb w h h'=>by
     have:=ContainsN_any (ks.take j) (some a) c t.s nb w h (by have:=HLK.out; omega) h'
     rwa [htl,hb] at this)
    have HB:=zh hb
    have HRT:=zh (show RowAt (wr.alloc (.cells #[.int .u8 t.k,.int .i64 t.n,.string t.s,.slice A1 t.ks.length c1] 29)) Any (some a) (ks.take j) from fun i hi=>by
     have hi':i<ks.length:=by simp at hi; omega
     have:=(HROW.out.later (bl_al hbl (.cells #[.int .u8 t.k,.int .i64 t.n,.string t.s,.slice A1 t.ks.length c1] 29))) i hi'
     simpa using this)
    have hjc:j<=c:=by omega
    have hjc':(j:Int)<=(c:Int):=by omega
    clear hb htl hbx hbl
    go_wp2_with fail
    refine (HCO.out _ _ _ HRT.out (by simp)).mono ?_
    rintro e w1 ⟨rfl,bw1⟩
    have HB1:=zh (bl_tt (bl_al HBL.out _) bw1)
    have HX1:=zh (blk_bl (blk_al HBX.out _) bw1)
    have hy2:w1.cell? ⟨wr.heap.size,2,none⟩=some (.string t.s):=zb bw1 (by simp)
    clear bw1 q0 q1 q2 q3 m0 m1 m2 m3 m3'
    cases b
    ·have HJ2:Hid (∀ q (hq:q<ks.length),q<j+1->hasN (ks.take q) ks[q].s=false):=zh fun q hq hqj=>by
      by_cases e:q<j
      ·exact HJ.out q hq e
      ·obtain rfl:q=j:=by omega
       rw [Ht.out]; exact HB.out
     go_wp2_with fail
     go_roundw
     case rel=>exact ⟨j+1,by omega,by go_num,HB1.out,HX1.out,HJ2⟩
     case measure=>simp [intOf]; omega
    ·have hRR:R=8:=by rw [<-HR.out,if_pos (dupB_yes hlt (by rw [Ht.out]; exact HB.out))]
     have HRR:=zh hRR
     clear hRR
     go_wp2_with fail
     go_ret2
     exact ⟨_,by rw [HRR.out]; rfl,HB1.out⟩
   ·have hRR:R=0:=by rw [<-HR.out,dupB_no fun q hq=>HJ.out q hq (by omega)]; rfl
    have HRR:=zh hRR
    clear hRR hbl hbx
    go_wp2_with fail
    go_ret2
    exact ⟨_,by rw [HRR.out]; rfl,HBL.out⟩
theorem rejE_nd (k n:Int) (s:ByteArray) (ks:List T):rejE (.nd k n s ks)=(if k=56 then 9
 else if k=40\/k=41\/k=42 then if idxB (kidC (.nd k n s ks) 0) (kidC (.nd k n s ks) 0).s||menB (kidC (.nd k n s ks) 1) (kidC (.nd k n s ks) 0).s then 8 else 0
 else if k=43 then if aliB ks [(kidC (.nd k n s ks) 0).s,(kidC (.nd k n s ks) 1).s] then 8 else 0
 else if k=44\/k=45 then if aliB ks [(kidC (.nd k n s ks) 0).s,s] then 8 else 0
 else if 46<=k/\k<=49 then if aliB ks [(kidC (.nd k n s ks) 0).s] then 8 else 0
 else if k=50\/k=51 then if dupB ks then 8 else 0
 else if k=52 then if conB (kidC (.nd k n s ks) 3) && !conB (kidC (.nd k n s ks) 0) then 10 else 0
 else if k=53 then if conB (kidC (.nd k n s ks) 0) then 10 else 0
 else 0):=rfl
theorem reject_any (t:T) (v:Value) (w:World) (hv:NV w Any t v) (h:RejOK t):Calls Tryz.prog 142 #[v] w (NmE w (rejE t)):=by
 obtain ⟨A,c,rfl,hf,hlk,hlc,hrow⟩:=hv.open_
 have hd:∀ x∈t.ks,dep x<=1000:=fun x hx=>by
  have h1:=dep_le hx
  have h2:=h.d
  cases t with
  | nd k n s ks=>simp only [dep,T.ks_nd] at *; omega
 obtain ⟨hdd,h2,h1,h4,hp⟩:=h
 obtain ⟨k,n,s,ks⟩:=t
 simp only [T.k_nd,T.n_nd,T.s_nd,T.ks_nd] at *
 rw [rejE_nd]
 by_cases e1:k=56
 ·subst e1
  rw [if_pos rfl]
  exact reject_set n s ks A c w hrow (h2 (by omega))
 rw [if_neg e1]
 by_cases e2:k=40\/k=41\/k=42
 ·rw [if_pos e2]
  have hl:=h2 (by omega)
  rw [kidC_eq (t:=.nd k n s ks) (i:=0) (by simp; omega),kidC_eq (t:=.nd k n s ks) (i:=1) (by simp; omega)]
  exact reject_upd k n s ks A c w e2 hrow hl hd (hp (by omega))
 rw [if_neg e2]
 by_cases e3:k=43
 ·subst e3
  rw [if_pos rfl]
  have hl:=h2 (by omega)
  rw [kidC_eq (t:=.nd 43 n s ks) (i:=0) (by simp; omega),kidC_eq (t:=.nd 43 n s ks) (i:=1) (by simp; omega)]
  exact reject_swap n s ks A c w hrow hl hlk hd (hp (by omega))
 rw [if_neg e3]
 by_cases e4:k=44\/k=45
 ·rw [if_pos e4]
  have hl:=h1 (by omega)
  rw [kidC_eq (t:=.nd k n s ks) (i:=0) (by simp; omega)]
  exact reject_pp k n s ks A c w e4 hrow hl hlk hd (hp (by omega))
 rw [if_neg e4]
 by_cases e5:46<=k/\k<=49
 ·rw [if_pos e5]
  have hl:=h1 (by omega)
  rw [kidC_eq (t:=.nd k n s ks) (i:=0) (by simp; omega)]
  exact reject_tr k n s ks A c w (by omega) hrow hl hlk hd (hp (by omega))
 rw [if_neg e5]
 by_cases e6:k=50\/k=51
 ·rw [if_pos e6]
  exact reject_call k n s ks A c w e6 hrow hlk hlc
 rw [if_neg e6]
 by_cases e7:k=52
 ·subst e7
  rw [if_pos rfl]
  have hl:=h4 (by omega)
  rw [kidC_eq (t:=.nd 52 n s ks) (i:=0) (by simp; omega),kidC_eq (t:=.nd 52 n s ks) (i:=3) (by simp; omega)]
  exact reject_if n s ks A c w hrow hl
 rw [if_neg e7]
 by_cases e8:k=53
 ·subst e8
  rw [if_pos rfl]
  have hl:=h4 (by omega)
  rw [kidC_eq (t:=.nd 53 n s ks) (i:=0) (by simp; omega)]
  exact reject_from n s ks A c w hrow hl
 rw [if_neg e8]
 exact reject_none k n s A ks.length c w (by omega) e1
def Node3 (t:T):Prop:=isE t=true\/isS t=true\/isB t=true
theorem isP_shape {t:T} (h:isP t=true):t.k=3->1<=t.ks.length:=by
 intro h3
 have hE:=isP_E h
 obtain ⟨k,n,s,ks⟩:=t
 simp only [T.k_nd,T.ks_nd] at *
 subst h3
 rw [isE] at hE
 simp at hE
 omega
theorem isS_shape {k n:Int} {s:ByteArray} {ks:List T} (h:isS (.nd k n s ks)=true) :
  (k=40\/k=41\/k=42\/k=43\/k=56->2<=ks.length)/\(44<=k/\k<=49->1<=ks.length)/\(k=52\/k=53->4<=ks.length)/\40<=k/\k<=56:=by
 rw [isS] at h
 repeat' split at h
 all_goals first
  | cases h
  | (simp only [kidsB,Bool.and_eq_true,decide_eq_true_eq] at h; omega)
theorem node3_kids {k n:Int} {s:ByteArray} {ks:List T} (h:Node3 (.nd k n s ks)):∀ t∈ks,Node3 t:=by
 intro t ht
 rcases h with h|h|h
 ·exact .inl (isE_kids h t ht)
 ·rcases (isS_EB h).2 t ht with h|h
  ·exact .inl h
  ·exact .inr (.inr h)
 ·exact .inr (.inl (((isB_iff _ _ _ _).1 h).2.2 t ht))
theorem node3_po (t:T):Node3 t->∀ x∈po t,Node3 x/\dep x<=dep t:=by
 induction t using T.ind with
 | _ k n s ks ih =>
  intro h x hx
  rw [po,List.mem_cons] at hx
  rcases hx with rfl|hx
  ·exact ⟨h,Nat.le_refl _⟩
  ·obtain ⟨t,ht,hx⟩:=mem_pos.1 hx
   obtain ⟨h1,h2⟩:=ih t ht (node3_kids h t ht) x hx
   have:=dep_le ht
   exact ⟨h1,by simp only [dep]; omega⟩
theorem isE_item {t:T} (h:isE t=true):t.k=3->1<=t.ks.length:=fun h3=>isP_shape (t:=t) (by simp [isP,h3,h]) h3
theorem rejOK_of {t:T} (h:Node3 t) (hd:dep t<=1000):RejOK t:=by
 obtain ⟨k,n,s,ks⟩:=t
 have hpl:∀ x∈ks,40<=k/\k<=49->x.k=3->1<=x.ks.length:=fun x hx hk h3=>by
  rcases node3_kids h x hx with h'|h'|h'
  ·exact isE_item h' h3
  ·obtain ⟨k',n',s',ks'⟩:=x
   have:=(isS_shape h').2.2.2
   simp only [T.k_nd] at h3
   omega
  ·have:=isB_k h'
   omega
 rcases h with h'|h'|h'
 ·have:=isE_shape h'
  exact ⟨hd,fun h=>by simp at h; omega,fun h=>by simp at h; omega,fun h=>by simp at h; omega,fun h x hx=>hpl x hx h⟩
 ·have:=isS_shape h'
  exact ⟨hd,this.1,this.2.1,this.2.2.1,fun h x hx=>hpl x hx h⟩
 ·have:=isB_k h'
  simp only [T.k_nd] at this
  exact ⟨hd,fun h=>by simp at h; omega,fun h=>by simp at h; omega,fun h=>by simp at h; omega,fun h x hx=>hpl x hx h⟩
theorem rejOK_po {t:T} (h:Node3 t) (hd:dep t<=1000):∀ x∈po t,RejOK x:=fun x hx =>
 have ⟨h1,h2⟩:=node3_po t h x hx
 rejOK_of h1 (by omega)
attribute [local go_sem] Oper.semAt_some
theorem wpListIn_append_own_at {F:Fence} {n:Nat} {P:Program} (w:World) {ops:Array Oper} {rest:List Oper} {o:Oper} {a:Act} {Q:Exit->Act->World->Prop}
  (hg:o.guard=none) (s x:Operand) (t:TypeId) (hop:o.op=Op.call { callee:=Callee.builtin Builtin.append,args := #[s,x],argTypes := #[t,t] })
  (base:Nat) (e:TypeId) (i:TypeInfo) (z:Value) (size bytes:Nat) (h1:P.underlying t=some (.slice e)) (h2:P.info? e=some i) (h3:i.zero=some z) (h4:i.size=size) (h5:i.bytes=bytes) (h6:z.cells.size=size) (h7:0<size)
  (v:Value) (k:Nat) (xs:List Value) (hs:a.eval s=v) (hown:w.ownsRow base e size v k xs) (ad:Addr) (m c:Nat) (news:List Value) (hx:a.eval x=.slice (some ad) m c) (hn:news.length=m*size)
  (hc:∀ j u,news[j]?=some u->w.cell? (ad.add j)=some u) (h1c:∀ u∈news,u.oneCell'=true) (b1:k+m<=maxLen) (b2:(k+m)*bytes<=140737488355328) (b3:base<=w.heap.size)
  (hK:∀ v' w',w'.ownsRow base e size v' (k+m) (xs++news)->w.grownBy w' v.ownBlock->(v'.ownBlock=v.ownBlock\/v'.ownBlock=some w.heap.size)->wpListIn F n P ops Q rest (a.put o.dst v') w') :
  wpListIn F n P ops Q (o::rest) a w:=by
 refine wpListIn_plain hg fun K hK'=>?_
 obtain ⟨v',w',hrun,r1,r2,_,r4⟩:=run_append_own_at (P:=P) w base t o.type e i z size bytes h1 h2 h3 h4 h5 h6 h7 v k xs hown ad m c news hn hc h1c b1 b2 b3
 unfold Oper.wpIn
 refine ⟨?_,?_⟩
 ·simp [Oper.about,hop,resolve,Target.leads,Sem.run_pure]
 ·rw [Oper.semAt_plain F _ _ (by rw [hop]; intro c hc'; cases hc')]
  simp [execOp,hop,resolve,invoke,builtin,hs,hx,hrun,Result.andThen]
  exact hK' _ _ (hK v' w' r1 r2 r4)
theorem rejInfo:(Tryz.prog.info? 204).map (fun i=>(i.zero,i.size,i.bytes))=some (some (.agg #[.int .i64 0,.slice none 0 0,.int .i64 0,.string ⟨#[]⟩]),4,56):=by kernel_rfl
theorem buildRj (p:Int) (A:Option Addr) (l c:Nat) (e:Int) (s:ByteArray) (w:World):(Instr.build 204 #[(0,.int .i64 p),(1,.slice A l c),(2,.int .i64 e),(3,.string s)]).run Tryz.prog w=.ok (.agg #[.int .i64 p,.slice A l c,.int .i64 e,.string s]) w:=by kernel_rfl
theorem buildSRj (a0 a1 a2 a3:Value) (w:World):(Instr.buildSlice 108 1 #[(0,.agg #[a0,a1,a2,a3])]).run Tryz.prog w=.ok (.slice (some ⟨w.heap.size,0,none⟩) 1 1) (w.alloc (.cells #[a0,a1,a2,a3] 204)):=by kernel_rfl
def rejN (l:List T):Nat:=(l.filter fun x=>rejE x != 0).length
structure RjS (W:World) (n0 fb N:Nat) (pv:Value):Prop where
 box:W.heap[fb]?=some (.cells #[pv] 108 (0,0))
 row:∃ xs,W.ownsRow n0 204 4 pv N xs/\∀ u∈xs,u.oneCell'=true
 ge:n0<=fb
 ne:pv.ownBlock≠some fb
section
variable {W W':World} {n0 fb N N':Nat} {pv pv':Value}
theorem RjS.lt (h:RjS W n0 fb N pv):fb<W.heap.size/\∀ b,pv.ownBlock=some b->n0<=b/\b<W.heap.size:=⟨blk_lt h.box,let ⟨_,hr,_⟩:=h.row; hr.lt⟩
theorem RjS.chg {C:Nat->Prop} (h:RjS W n0 fb N pv) (hc:Chg C W W') (hC:∀ b,b=fb\/pv.ownBlock=some b->¬ C b):RjS W' n0 fb N pv:=by
 refine ⟨hc.keep h.box (hC _ (.inl rfl)),?_,h.ge,h.ne⟩
 obtain ⟨xs,⟨e1,h2⟩,h9⟩:=h.row
 refine ⟨xs,⟨e1,?_⟩,h9⟩
 rcases h2 with h2|⟨g,cap,cur,rfl,hb,hg,h3⟩
 ·exact .inl h2
 ·exact .inr ⟨g,cap,cur,rfl,hb,hc.keep hg (hC _ (.inr rfl)),h3⟩
theorem RjS.later (h:RjS W n0 fb N pv) (hb:Below W.heap.size W W'):RjS W' n0 fb N pv:=h.chg (C:=fun _=>False) (Chg.of_below hb) (fun _ _ h=>h)
theorem RjS.put (h:RjS W n0 fb N pv) (ho:∃ xs,W'.ownsRow n0 204 4 pv' N' xs/\∀ u∈xs,u.oneCell'=true) (hg:W.grownBy W' pv.ownBlock) (hob:∀ b,pv'.ownBlock=some b->pv.ownBlock=some b\/W.heap.size<=b) :
  RjS (W'.setCell ⟨fb,0,none⟩ pv') n0 fb N' pv':=by
 have hp':W'.heap[fb]?=some (.cells #[pv] 108 (0,0)):=(hg.block _ (blk_lt h.box) (fun e=>h.ne e.symm)).trans h.box
 have hnp:pv'.ownBlock≠some fb:=fun e=>by
  rcases hob _ e with e|e
  ·exact h.ne e
  ·have:=blk_lt h.box; omega
 refine ⟨by have:=heap_setCell_same W' fb 0 _ _ pv' hp'; simpa using this,?_,h.ge,hnp⟩
 obtain ⟨xs,⟨e1,h2⟩,h9⟩:=ho
 refine ⟨xs,⟨e1,?_⟩,h9⟩
 rcases h2 with h2|⟨g,cap,cur,rfl,hb,hg',h3⟩
 ·exact .inl h2
 ·refine .inr ⟨g,cap,cur,rfl,hb,?_,h3⟩
  rw [Below.heap_setCell _ _ _ _ (fun e=>hnp (by subst e; rfl))]
  exact hg'
theorem RjS.slice (h:RjS W n0 fb N pv):∃ A c,pv=.slice A N c:=by
 obtain ⟨xs,⟨e1,h2⟩,_⟩:=h.row
 rcases h2 with ⟨rfl,rfl⟩|⟨g,cap,cur,rfl,_⟩
 ·exact ⟨_,_,rfl⟩
 ·exact ⟨_,_,rfl⟩
end
theorem rejN_snoc (l:List T) (x:T):rejN (l++[x])=rejN l+one1 (rejE x):=by
 unfold rejN one1
 rw [List.filter_append,List.length_append]
 by_cases h:rejE x=0
 ·simp [h]
 ·simp [h]
theorem rejN_le (l:List T):rejN l<=l.length:=List.length_filter_le _ _
def ChkI (p:Int) (N:Nat) (pre:List T) (C:Nat->Prop) (W:World):Prop :=
 ∃ pv,(∀ b,C b↔b=N\/b=N+1+1\/pv.ownBlock=some b)/\W.heap[N]?=some (.cells #[.int .i64 p] 3 (0,0))/\RjS W (N+1+1) (N+1+1) (rejN pre) pv
theorem ccheck_any (t:T) (p:Int) (v:Value) (w:World) (hv:NV w Any t v) (hd:dep t<=1000) (hsz:(po t).length<=100000) (hok:∀ x∈po t,RejOK x):Calls Tryz.prog 98 #[.int .i64 p,v] w fun e w'=>∃ pv xs,e=.returned pv/\w'.ownsRow w.heap.size 204 4 pv (rejN (po t)) xs/\(∀ u∈xs,u.oneCell'=true)/\Below w.heap.size w w':=by
 have HV:=zh hv
 obtain ⟨A,c,rfl,-⟩:=hv.open_
 clear hv
 have HD:=zh hd
 have HOK:=zh hok
 have HSZ:=zh hsz
 clear hok hd hsz
 generalize t.k=k,t.n=n,t.s=s,t.ks.length=m at *
 refine (callsIn_wide (n:=3)).1 (callsIn_of_wp_marks Tryz.func98 rfl trivial ((wpIn_wide (n:=3)).2 ?_))
 simp only [Tryz.ntmps98,List.size_toArray,List.length_cons,List.length_nil,Nat.reduceAdd,Nat.reduceSub,Array.replicate_succ,Array.replicate_zero,List.push_toArray,List.append_toArray,List.nil_append,List.cons_append]
 go_wp2_with fail
 refine (Walk_any t _ _ (HV.out.later (bl_al (bl_al (bl_al (Below.refl _ _) _) _) _))).mono ?_
 rintro e x6 ⟨gr,k6,n6,s6,A6,m6,c6,rfl,hgr,hgb,hn6,bx6⟩
 have q6:=bl_tt (bl_al (bl_al (bl_al (Below.refl w.heap.size w) _) _) _) bx6
 have hPB:=blk_bl (blk_al (blk_al (heap_alloc_new w (.cells #[.int .i64 p] 3)) (.cells #[.int .u8 k,.int .i64 n,.string s,.slice A m c] 29)) (.cells #[.slice none 0 0] 108)) bx6
 have hLB:=blk_bl (heap_alloc_new ((w.alloc (.cells #[.int .i64 p] 3)).alloc (.cells #[.int .u8 k,.int .i64 n,.string s,.slice A m c] 29)) (.cells #[.slice none 0 0] 108)) bx6
 simp only [World.size_alloc] at hPB hLB hgr
 have HGB:=zh hgb
 have HN6:=zh hn6
 have HQ6:=zh q6
 have HPB:=zh hPB
 have HLB:=zh hLB
 have HGR:=zh hgr
 clear bx6 hgb hn6 q6 hPB hLB hgr
 go_wp2_with fail
 refine (wpIn_wide (n:=3)).1 ?_
 refine range_walk (n:=3) (gf:=167) (lb := #[.pointer (some ⟨gr,0,none⟩)]) rfl (run_callFunc fnWalk1) (Walk1_stops (3-1) gr t x6 _ k6 n6 s6 A6 m6 c6 HGB.out HN6.out HD.out) rfl
  (ChkI p w.heap.size) (fun _ _ _=>False) (fun b=>b=w.heap.size\/b=w.heap.size+1+1)
  (fun pre C W W' ⟨pv,h1,h2,h3⟩ hc=>⟨pv,h1,hc.keep h2 (fun h=>h ((h1 _).2 (.inl rfl))),h3.chg hc (fun b hb h=>h ((h1 _).2 (.inr hb)))⟩)
  (fun _ _ _ _ h _=>h)
  (fun pre C W ⟨pv,h1,h2,h3⟩ b hb=>by rcases (h1 b).1 hb with rfl|rfl|h; exact blk_lt h2; exact h3.lt.1; exact (h3.lt.2 b h).2)
  (fun _ _ _ h=>h.elim)
  (fun b hb hr=>by have:=HGR.out; rcases hr with hr|hr<;>rcases hb with hb|hb<;>first|omega|(have:=hr.1; simp at this; omega)) ?_
  ⟨.slice none 0 0,fun b=>by simp [Value.ownBlock],HPB.out,⟨HLB.out,⟨[],World.ownsRow_nil _ _ _ _,by simp⟩,Nat.le_refl _,by simp [Value.ownBlock]⟩⟩ ?_ ?_ ?_
 ·rintro b (rfl|hb)
  ·exact blk_lt HGB.out
  ·exact hb.2
 ·rintro l pre x C W pv' v ⟨pv,hC,hpb,hrs⟩ hCl hl hlW hpre ⟨Ap,mp,cp,rfl⟩ hnx
  have hxm:x∈po t:=by
   obtain ⟨ys,hys⟩:=hpre
   rw [<-hys]; simp
  have HRJ:=zh (HOK.out x hxm)
  have HNL:=zh (show rejN pre<=100000 from by
   have h1:=rejN_le pre
   have h2:=HSZ.out
   have h3:=hpre.length_le
   simp at h3
   omega)
  have HNX:=zh hnx
  obtain ⟨Ax,cx,rfl,-⟩:=hnx.open_
  change Code.wpIn (Fence.wide.inRound l) (3-1-1) Tryz.prog _ _ _ _
  gi_wp2
  refine ⟨(Chg.refl _ _).alloc _,fun W2 hW2=>?_⟩
  have hwl:=blk_lt hpb
  have hbx:=hW2.keep (heap_alloc_new W (.cells #[.int .u8 x.k,.int .i64 x.n,.string x.s,.slice Ax x.ks.length cx] 29)) (show ¬ W.heap.size=l by omega)
  have hpb2:=hW2.keep (blk_al hpb (.cells #[.int .u8 x.k,.int .i64 x.n,.string x.s,.slice Ax x.ks.length cx] 29)) (fun h=>hCl ((hC _).2 (.inl h.symm)))
  have hrs2:=(hrs.later (bl_al (Below.refl _ _) (.cells #[.int .u8 x.k,.int .i64 x.n,.string x.s,.slice Ax x.ks.length cx] 29))).chg hW2 (fun b hb h=>hCl ((hC _).2 (.inr (by rcases hb with rfl|hb; exact .inl h.symm; exact .inr (h▸hb)))))
  have hnx2:NV W2 Any x (nv x.k x.n x.s Ax x.ks.length cx):=HNX.out.keep (fun _ _ _=>trivial) fun b hb hlt=>by
   rw [hW2.block b (by simp; omega) (show ¬ b=l by omega)]
   exact Below.heap_alloc W _ b hlt
  obtain ⟨m0,m1,m2,m3⟩:=box4 hbx
  have HCC:=zh hC
  have HPB2:=zh hpb2
  have HRS2:=zh hrs2
  have HNX2:=zh hnx2
  have HLW:=zh hlW
  clear hW2 hbx hpre hC hpb2 hrs hrs2 hnx hnx2 hxm hpb
  change Code.wpIn (Fence.wide.inRound l) (3-1-1) Tryz.prog _ _ _ _
  obtain ⟨er,her⟩:∃ er,rejE x=er:=⟨_,rfl⟩
  have HRJC:=zh (her▸reject_any x _ _ HNX2.out HRJ.out)
  have HER:=zh her
  clear her
  gi_wp2
  refine ⟨trivial,CallsIn.inRound l (callsIn_wide.2 ?_)⟩
  refine HRJC.out.mono ?_
  rintro e w3 ⟨s3,rfl,bw3⟩
  have HPB3:=zh (blk_bl HPB2.out bw3)
  have hrs3:=HRS2.out.later bw3
  have HB3:=zh bw3
  clear bw3 m0 m1 m2 m3
  by_cases he0:er=0
  ·subst he0
   have HRS3:=zh hrs3
   clear hrs3
   gi_wp2
   refine ⟨C,⟨pv,HCC.out,HPB3.out,?_⟩,fun b hb=>.inl hb,Chg.of_below HB3.out⟩
   rw [rejN_snoc,HER.out]
   exact HRS3.out
  ·have e1:(er==0)=false:=by simpa using he0
   have e2:(er != 0)=true:=by simpa using he0
   obtain ⟨Apv,cpv,rfl⟩:=hrs3.slice
   have y0:w3.cell? ⟨w.heap.size,0,none⟩=some (.int .i64 p):=zc HPB3.out rfl
   have y1:w3.cell? ⟨w.heap.size+1+1,0,none⟩=some (.slice Apv (rejN pre) cpv):=zc hrs3.box rfl
   obtain ⟨xs,hown,h1c⟩:=hrs3.row
   have hl3:=hrs3.lt
   have hge:=hrs3.ge
   have HRS3:=zh hrs3
   have hown':=hown.alloc (.cells #[.int .i64 p,.slice Ap mp cp,.int .i64 er,.string s3] 204)
   have hnl:=HNL.out
   have HN1:=zh (news_newN w3 204 [.int .i64 p,.slice Ap mp cp,.int .i64 er,.string s3])
   have hbb:=buildRj
   have hbs:=buildSRj
   obtain ⟨i0,hi0,hz0,hz1,hz2⟩:=info_parts rejInfo
   clear hrs3 hown
   gi_wp2_with (gi_at_builtin; refine wpListIn_append_own_at (P:=Tryz.prog) _ rfl (.tmp 21) (.tmp 27) 108 rfl (w.heap.size+1+1) 204 i0 _ 4 56 Tryz.underlying108 hi0 hz0 hz1 hz2 rfl (by decide) (.slice Apv (rejN pre) cpv) (rejN pre) xs rfl hown' ⟨w3.heap.size,0,none⟩ 1 1 [.int .i64 p,.slice Ap mp cp,.int .i64 er,.string s3] rfl rfl HN1.out (by intro u hu; simp at hu; rcases hu with rfl|rfl|rfl|rfl<;>rfl) (by unfold maxLen; omega) (by omega) (by simp; omega) ?_; intro v' w' h2 h3 h5; have hbx:=(h3.block _ (by simp; omega) (fun e=>HRS3.out.ne e.symm)).trans (blk_al HRS3.out.box _); have z0:w'.cell? ⟨w.heap.size+1+1,0,none⟩=some (.slice Apv (rejN pre) cpv):=zc hbx rfl; have z1:w'.frozen? ⟨w.heap.size+1+1,0,none⟩=false:=zf hbx; clear hbx; obtain ⟨g8,cap8,rfl⟩:=ownsRow_succ h2)
   have hob:∀ b,(Value.slice (some ⟨g8,0,none⟩) (rejN pre+1) cap8).ownBlock=some b->(Value.slice Apv (rejN pre) cpv).ownBlock=some b\/w3.heap.size<=b:=fun b hb=>by
    rcases h5 with h5|h5
    ·exact .inl (h5▸hb)
    ·exact .inr (by rw [h5] at hb; injection hb with hb; simp at hb; omega)
   have hput:=HRS3.out.put (W':=w') (pv':=.slice (some ⟨g8,0,none⟩) (rejN pre+1) cap8) (N':=rejN pre+1) ⟨_,h2,fun u hu=>by
     rw [List.mem_append] at hu
     rcases hu with hu|hu
     ·exact h1c u hu
     ·simp at hu; rcases hu with rfl|rfl|rfl|rfl<;>rfl⟩ ⟨h3.os,h3.tape,h3.output,Nat.le_trans (by simp) h3.size,fun b hb hne=>(h3.block b (by simp; omega) hne).trans (Below.heap_alloc w3 _ b hb)⟩ hob
   have hch:Chg C W2 (w'.setCell ⟨w.heap.size+1+1,0,none⟩ (.slice (some ⟨g8,0,none⟩) (rejN pre+1) cap8)) :=
    (((Chg.of_below HB3.out).alloc _).trans2 (Chg.row h3) (fun b _ h=>(HCC.out b).2 (.inr (.inr h)))).setCell (.inl ((HCC.out _).2 (.inr (.inl rfl)))) _
   have hpb4:(w'.setCell ⟨w.heap.size+1+1,0,none⟩ (.slice (some ⟨g8,0,none⟩) (rejN pre+1) cap8)).heap[w.heap.size]?=some (.cells #[.int .i64 p] 3 (0,0)):=by
    rw [Below.heap_setCell _ _ _ _ (by simp; omega),h3.block _ (by simp; omega) (fun e=>by have:=(hl3.2 _ e.symm).1; omega)]
    exact blk_al HPB3.out _
   refine ⟨fun b=>b=w.heap.size\/b=w.heap.size+1+1\/(Value.slice (some ⟨g8,0,none⟩) (rejN pre+1) cap8).ownBlock=some b,⟨_,fun _=>Iff.rfl,hpb4,?_⟩,fun b hb=>?_,hch⟩
   ·rw [rejN_snoc,HER.out,one1,if_neg he0]
    exact hput
   ·rcases hb with hb|hb|hb
    ·exact .inl ((HCC.out _).2 (.inl hb))
    ·exact .inl ((HCC.out _).2 (.inr (.inl hb)))
    ·rcases hob b hb with h|h
     ·exact .inl ((HCC.out _).2 (.inr (.inr h)))
     ·exact .inr (Nat.le_trans HB3.out.size h)
 ·intro D C W' hD hC hch hK
  obtain ⟨pv,hC1,hpb7,hr7⟩:=hC
  obtain ⟨Apv,cpv,rfl⟩:=hr7.slice
  have r0:W'.cell? ⟨w.heap.size+1+1,0,none⟩=some (.slice Apv (rejN (po t)) cpv):=zc hr7.box rfl
  have hq6:=HQ6.out.size
  have hlR:=blk_lt HLB.out
  have HB7:=zh (show Below w.heap.size w W' from HQ6.out.trans (hch.below hq6 (fun b h=>by omega)))
  have HK:=zh hK
  have HR7:=zh hr7
  clear hch hK hr7 hC1 hpb7
  go_wp2_with fail
  refine ⟨by simp,.inl ⟨_,_,rfl,run_takeDeferred HK.out,?_⟩⟩
  have hb9:=HB7.out.trans ((Chg.putObj W' D (.deferred none)).below (B:=w.heap.size) HB7.out.size (fun b hb=>by have:b=D:=hb; omega))
  obtain ⟨xs,⟨e1,h2⟩,h9⟩:=HR7.out.row
  refine ⟨.slice Apv (rejN (po t)) cpv,by simp [results,Tryz.results98,go_sem],_,xs,rfl,⟨e1,?_⟩,h9,hb9⟩
  rcases h2 with h2|⟨g,cap,cur,h8,hb,hg,h3⟩
  ·exact .inl h2
  ·refine .inr ⟨g,cap,cur,h8,by omega,(World.putObj_heap_other (fun e=>?_)).trans hg,h3⟩
   subst e
   rw [HK.out] at hg
   cases hg
 ·intro D pre C W' hD hC
  exact hC.elim
theorem menB_kid {k n:Int} {s:ByteArray} {ks:List T} {nm:ByteArray} (h:menB (.nd k n s ks) nm=false):(2<=k/\k<=5->(s.toList==nm.toList)=false)/\∀ t∈ks,menB t nm=false:=by
 simp only [menB,po,List.any_cons,Bool.or_eq_false_iff] at h
 refine ⟨fun hk=>?_,fun t ht=>?_⟩
 ·have h1:=h.1
  simp only [naming,T.k_nd,T.s_nd,Bool.and_eq_false_iff] at h1
  rcases h1 with h1|h1
  ·simp only [Bool.or_eq_false_iff,beq_eq_false_iff_ne] at h1
   omega
  ·exact h1
 ·have h2:=h.2
  rw [List.any_eq_false] at h2
  rw [menB,List.any_eq_false]
  exact fun u hu=>h2 u (mem_pos.2 ⟨t,ht,hu⟩)
theorem ev_other {look look':ByteArray->Option (List Int)} {nms:List ByteArray} (h:∀ s:ByteArray,(∀ nm∈nms,(s.toList==nm.toList)=false)->look' s=look s):∀ t,(∀ nm∈nms,menB t nm=false)->evE look' t=evE look t:=by
 intro t
 induction t using T.ind with
 | _ k n s ks ih =>
  intro hm
  rw [evE,evE,evEs_map,evEs_map]
  have e:ks.map (evE look')=ks.map (evE look):=List.map_congr_left fun t ht=>ih t ht fun nm hn=>(menB_kid (hm nm hn)).2 t ht
  rw [e]
  unfold evK
  split
  ·rfl
  ·split
   ·rename_i hk
    unfold varE
    rw [h s fun nm hn=>(menB_kid (hm nm hn)).1 hk]
   ·rfl
theorem expr_other {look look':ByteArray->Option (List Int)} {nms:List ByteArray} (h:∀ s:ByteArray,(∀ nm∈nms,(s.toList==nm.toList)=false)->look' s=look s) (t:T) (hm:∀ nm∈nms,menB t nm=false):exprE look' t=exprE look t:=by
 unfold exprE
 rw [ev_other h t hm]
theorem ind_other {look look':ByteArray->Option (List Int)} {nms:List ByteArray} (h:∀ s:ByteArray,(∀ nm∈nms,(s.toList==nm.toList)=false)->look' s=look s) (t:T) (hm:∀ nm∈nms,idxB t nm=false):indE look' t=indE look t:=by
 unfold indE
 split
 ·rename_i hp
  split
  ·rfl
  ·rename_i h2
   have h3:t.k=3:=by
    simp only [isP,Bool.and_eq_true,Bool.or_eq_true,beq_iff_eq] at hp
    omega
   refine ev_other h _ fun nm hn=>?_
   have:=hm nm hn
   simpa [idxB,h3,kidC] using this
 ·rfl
theorem xor_back {x:Int} (hx:I64 x) (y:Int):bits BinOp.xor IntKind.i64 (bits BinOp.xor IntKind.i64 x y) y=x:=by
 show IntKind.i64.wrap (((BitVec.ofInt 64 (IntKind.i64.wrap ((BitVec.ofInt 64 x ^^^ BitVec.ofInt 64 y).toNat:Int)) ^^^ BitVec.ofInt 64 y).toNat:Nat):Int)=x
 have e:BitVec.ofInt 64 (IntKind.i64.wrap ((BitVec.ofInt 64 x ^^^ BitVec.ofInt 64 y).toNat:Int))=BitVec.ofInt 64 x ^^^ BitVec.ofInt 64 y:=by
  generalize BitVec.ofInt 64 x ^^^ BitVec.ofInt 64 y=c
  apply BitVec.eq_of_toNat_eq
  rw [BitVec.toNat_ofInt,IntKind.wrap_i64]
  have:=c.isLt
  omega
 rw [e,BitVec.xor_assoc,BitVec.xor_self,BitVec.xor_zero,BitVec.toNat_ofInt,IntKind.wrap_i64]
 obtain ⟨h1,h2⟩:=hx
 omega
theorem updE_back {k x:Int} (hk:k=40\/k=41\/k=42) (hx:I64 x) (y:Int):updE (invK1 k) (updE k x y) y=x:=by
 obtain ⟨h1,h2⟩:=hx
 rcases hk with rfl|rfl|rfl
 ·show wrap64 (wrap64 (x+y)-y)=x
  unfold wrap64
  omega
 ·show wrap64 (wrap64 (x-y)+y)=x
  unfold wrap64
  omega
 ·exact xor_back ⟨h1,h2⟩ y
section
variable {S:ST}
theorem st_cell {S:ST} {f:Nat->List Int} (h:f=S.cell):({ S with cell:=f }:ST)=S:=by subst h; rfl
theorem setL_self (S:ST) (id:Nat):S.setL id (S.cell id)=S:=st_cell (by funext j; split<;>simp_all)
theorem setL_setL (S:ST) (id:Nat) (l m:List Int):(S.setL id l).setL id m=S.setL id m:=by
 unfold ST.setL
 congr 1
 funext j
 simp only
 split<;>rfl
theorem setL_comm (S:ST) {a b:Nat} (h:a≠b) (l m:List Int):(S.setL a l).setL b m=(S.setL b m).setL a l:=by
 unfold ST.setL
 congr 1
 funext j
 simp only
 by_cases e:j=b
 ·subst e; rw [if_pos rfl,if_neg (Ne.symm h),if_pos rfl]
 ·rw [if_neg e,if_neg e]
theorem setL_at (S:ST) (id:Nat) (l:List Int):(S.setL id l).cell id=l:=by simp [ST.setL]
theorem setL_far (S:ST) {id j:Nat} (h:j≠id) (l:List Int):(S.setL id l).cell j=S.cell j:=by simp [ST.setL,h]
theorem put_put (S:ST) (id i:Nat) (x y:Int):(S.put id i x).put id i y=S.put id i y:=by
 unfold ST.put
 rw [setL_at,setL_setL,List.set_set]
theorem set_getD (l:List Int) (i:Nat):l.set i (l.getD i 0)=l:=by
 rcases Nat.lt_or_ge i l.length with h|h
 ·rw [List.getD_eq_getElem?_getD,List.getElem?_eq_getElem h,Option.getD_some,List.set_getElem_self]
 ·rw [List.set_eq_of_length_le h]
theorem put_el (S:ST) (id i:Nat):S.put id i (S.el id i)=S:=by
 unfold ST.put ST.el
 rw [set_getD,setL_self]
theorem put_len (S:ST) (id i:Nat) (x:Int) (j:Nat):((S.put id i x).cell j).length=(S.cell j).length:=by
 by_cases e:j=id
 ·subst e; unfold ST.put; rw [setL_at,List.length_set]
 ·unfold ST.put; rw [setL_far _ e]
theorem put_at (S:ST) {id i:Nat} (h:i<(S.cell id).length) (x:Int):(S.put id i x).el id i=x:=by
 unfold ST.el ST.put
 rw [setL_at,List.getD_eq_getElem?_getD,List.getElem?_set_self h,Option.getD_some]
theorem put_far (S:ST) {id j:Nat} (h:j≠id) (i:Nat) (x:Int):(S.put id i x).cell j=S.cell j:=setL_far S h _
theorem put_comm (S:ST) {id jd i j:Nat} (h:id≠jd\/i≠j) (x y:Int):(S.put id i x).put jd j y=(S.put jd j y).put id i x:=by
 by_cases e:id=jd
 ·subst e
  have hij:=h.resolve_left (fun h=>h rfl)
  unfold ST.put
  rw [setL_at,setL_at,setL_setL,setL_setL,List.set_comm _ _ hij]
 ·have e1:(S.put id i x).cell jd=S.cell jd:=put_far S (Ne.symm e) i x
  have e2:(S.put jd j y).cell id=S.cell id:=put_far S e j y
  show (S.put id i x).setL jd (((S.put id i x).cell jd).set j y)=(S.put jd j y).setL id (((S.put jd j y).cell id).set i x)
  rw [e1,e2]
  exact setL_comm S e _ _
theorem swap_back (S:ST) {id i jd j:Nat} (hi:i<(S.cell id).length) (hj:j<(S.cell jd).length):swapS (swapS S id i jd j) id i jd j=S:=by
 unfold swapS
 by_cases e:id=jd/\i=j
 ·obtain ⟨rfl,rfl⟩:=e
  rw [put_el,put_el,put_el,put_el]
 ·have hne:id≠jd\/i≠j:=by
   rcases Decidable.em (id=jd) with h|h
   ·exact .inr fun h'=>e ⟨h,h'⟩
   ·exact .inl h
  obtain ⟨x,hx⟩:∃ x,S.el id i=x:=⟨_,rfl⟩
  obtain ⟨y,hy⟩:∃ y,S.el jd j=y:=⟨_,rfl⟩
  rw [hx,hy]
  have e1:((S.put id i y).put jd j x).el jd j=x:=put_at _ (by rw [put_len]; exact hj) x
  have e2:((S.put id i y).put jd j x).el id i=y:=by
   rw [put_comm S hne]
   exact put_at _ (by rw [put_len]; exact hi) y
  rw [e1,e2,put_comm S hne,put_put,<-put_comm S hne,put_put,<-hx,put_el,<-hy,put_el]
theorem lastI_name {vs:List VD} {s:ByteArray}:∀ {j i:Nat},lastI vs s j=some i->∃ v,vs[i]?=some v/\(v.s.toList==s.toList)=true
 | 0,_,h=>by simp [lastI] at h
 | j+1,i,h=>by
  rw [lastI] at h
  split at h
  ·rename_i hb
   injection h with h
   subst h
   cases hv:vs[j]? with
   | none=>rw [hv] at hb; simp at hb
   | some v=>rw [hv] at hb; exact ⟨v,rfl,hb⟩
  ·exact lastI_name h
theorem num_inj (hnd:S.cur.cs.Nodup) {s s':ByteArray} {id:Nat} (h:S.num s=some id) (h':S.num s'=some id):(s.toList==s'.toList)=true:=by
 unfold ST.num at h h'
 obtain ⟨i,h1,h2⟩:=Option.bind_eq_some_iff.1 h
 obtain ⟨j,h3,h4⟩:=Option.bind_eq_some_iff.1 h'
 obtain ⟨a1,a2⟩:=List.getElem?_eq_some_iff.1 h2
 obtain ⟨b1,b2⟩:=List.getElem?_eq_some_iff.1 h4
 have hij:i=j:=(List.getElem_inj hnd).1 (a2.trans b2.symm)
 subst hij
 obtain ⟨v,c1,c2⟩:=lastI_name h1
 obtain ⟨v',d1,d2⟩:=lastI_name h3
 rw [c1] at d1
 injection d1 with d1
 subst d1
 rw [beq_iff_eq] at c2 d2 ⊢
 rw [<-c2,<-d2]
theorem look_other {S1:ST} (hnd:S.cur.cs.Nodup) (hf:S1.base=S.base/\S1.calls=S.calls) (nms:List ByteArray) (hc:∀ id,(∀ nm∈nms,S.num nm≠some id)->S1.cell id=S.cell id) (s:ByteArray) (hs:∀ nm∈nms,(s.toList==nm.toList)=false):S1.look s=S.look s:=by
 have e:S1.num s=S.num s:=by unfold ST.num ST.cur; rw [hf.1,hf.2]
 unfold ST.look
 rw [e]
 cases hn:S.num s with
 | none=>rfl
 | some id =>
  simp only [Option.map_some,Option.some.injEq]
  refine hc id fun nm hm h2=>?_
  have:=num_inj hnd hn h2
  rw [hs nm hm] at this
  cases this
theorem isS_inv {k n:Int} {s:ByteArray} {ks:List T} (h:isS (.nd k n s ks)=true) (hb:basB k=true):isS (.nd (invK1 k) n s ks)=true:=by
 have hr:=of_decide_eq_true hb
 have:k=40\/k=41\/k=42\/k=43\/k=44\/k=45\/k=46\/k=47\/k=48\/k=49:=by omega
 rcases this with rfl|rfl|rfl|rfl|rfl|rfl|rfl|rfl|rfl|rfl<;>simpa [isS,invK1] using h
theorem need_inv (k:Int):needE (invK1 k)=needE k:=by
 unfold invK1
 repeat' split
 all_goals first|rfl|(subst_vars; rfl)
theorem flt_inv (vs:List VD) (k n:Int) (s:ByteArray) (ks:List T):fltE vs (.nd (invK1 k) n s ks)=fltE vs (.nd k n s ks):=by
 rw [fltE,fltE]
 unfold ownE
 rw [need_inv]
theorem bas_inv {k:Int} (hb:basB k=true):basB (invK1 k)=true/\invK1 k≠56/\invK1 (invK1 k)=k:=by
 have hr:=of_decide_eq_true hb
 have:k=40\/k=41\/k=42\/k=43\/k=44\/k=45\/k=46\/k=47\/k=48\/k=49:=by omega
 rcases this with rfl|rfl|rfl|rfl|rfl|rfl|rfl|rfl|rfl|rfl<;>exact ⟨rfl,by decide,rfl⟩
theorem doE_run {k n:Int} {s:ByteArray} {ks:List T} (hs:isS (.nd k n s ks)=true) (hk:k≠56) (hb:basB k=true) (hf:fltE S.cur.vs (.nd k n s ks)=0):doE S (.nd k n s ks)=exec1 S k s (ks.getD 0 nil0) (ks.getD 1 nil0) (indE S.look (ks.getD 0 nil0)) (rightE S k (ks.getD 1 nil0)):=by
 unfold doE
 rw [if_neg (by rw [hs]; decide),if_neg (by exact hk),if_neg (by show ¬ basB k=false; rw [hb]; decide),if_neg (by rw [hf]; decide)]
 rfl
theorem ali_place {ks:List T} {nms:List ByteArray} (h:aliB ks nms=false) {t:T} (ht:t∈ks):∀ nm∈nms,idxB t nm=false:=by
 intro nm hn
 unfold aliB at h
 rw [List.any_eq_false] at h
 have:=h t ht
 rw [List.any_eq_true] at this
 simp only [not_exists,not_and,Bool.not_eq_true] at this
 exact this nm hn
theorem moveE_back {k:Int} (hk:k=44\/k=45) {id i sid:Nat} (hne:id≠sid) (hi:i<(S.cell id).length) (hl:(S.cell sid).length<=1000) (h0:(moveE S k id i sid).1=0):moveE (moveE S k id i sid).2 (invK1 k) id i sid=(0,S):=by
 rcases hk with rfl|rfl
 ·unfold moveE at h0 ⊢
  rw [if_pos rfl] at h0 ⊢
  split at h0
  ·cases h0
  rename_i hf
  rw [if_neg hf]
  show (if (invK1 44)=44 then _ else _)=_
  rw [if_neg (by decide)]
  dsimp only
  obtain ⟨x,hx⟩:∃ x,S.el id i=x:=⟨_,rfl⟩
  rw [hx]
  have e1:(((S.setL sid (S.cell sid++[x])).put id i 0).cell sid)=S.cell sid++[x]:=by rw [put_far _ (Ne.symm hne),setL_at]
  have e2:((S.setL sid (S.cell sid++[x])).put id i 0).el id i=0:=put_at _ (by rw [setL_far _ hne]; exact hi) 0
  have e3:((S.setL sid (S.cell sid++[x])).put id i 0).el sid ((S.cell sid++[x]).length-1)=x:=by unfold ST.el; rw [e1]; simp
  rw [e1,e2,e3,if_neg (by simp),if_neg (by simp),put_put]
  have e4:(S.cell sid++[x]).take ((S.cell sid++[x]).length-1)=S.cell sid:=by simp
  rw [e4]
  have e5:(S.setL sid (S.cell sid++[x])).put id i x=(S.put id i x).setL sid (S.cell sid++[x]):=by
   unfold ST.put
   rw [setL_far _ hne,setL_comm _ (Ne.symm hne)]
  have e6:(S.put id i x)=S:=by rw [<-hx]; exact put_el S id i
  rw [e5,setL_setL,e6,setL_self]
 ·unfold moveE at h0 ⊢
  rw [if_neg (show ¬ ((45:Int)=44) by decide)] at h0 ⊢
  split at h0
  ·cases h0
  rename_i hf
  rw [if_neg hf]
  split at h0
  ·cases h0
  rename_i hz
  rw [if_neg hz]
  have hz:=Decidable.not_not.1 hz
  show (if (invK1 45)=44 then _ else _)=_
  rw [if_pos (by decide)]
  dsimp only
  obtain ⟨x,hx⟩:∃ x,S.el sid ((S.cell sid).length-1)=x:=⟨_,rfl⟩
  rw [hx]
  have hsd:(S.cell sid).take ((S.cell sid).length-1)++[x]=S.cell sid:=by
   have hl:S.cell sid≠[]:=fun e=>hf (by rw [e]; rfl)
   have:x=(S.cell sid).getLast hl:=by
    rw [<-hx]
    unfold ST.el
    rw [List.getD_eq_getElem?_getD,List.getElem?_eq_getElem (by omega),Option.getD_some,List.getLast_eq_getElem]
   rw [this,<-List.dropLast_eq_take]
   exact List.dropLast_concat_getLast hl
  have e1:(((S.put id i x).setL sid ((S.cell sid).take ((S.cell sid).length-1))).cell sid)=(S.cell sid).take ((S.cell sid).length-1):=setL_at _ _ _
  have e2:((S.put id i x).setL sid ((S.cell sid).take ((S.cell sid).length-1))).el id i=x:=by
   unfold ST.el
   rw [setL_far _ hne]
   exact put_at S hi x
  rw [e1,e2,if_neg (by rw [List.length_take]; omega),setL_setL,hsd]
  have e5:((S.put id i x).setL sid (S.cell sid)).put id i 0=((S.put id i x).put id i 0).setL sid (S.cell sid):=by
   show _=((S.put id i x).setL id (((S.put id i x).cell id).set i 0)).setL sid (S.cell sid)
   rw [setL_comm _ hne]
   unfold ST.put
   rw [setL_far _ hne]
  have e6:S.put id i 0=S:=by rw [<-hz]; exact put_el S id i
  rw [e5,put_put,e6,setL_self]
theorem put_tin (S:ST) (l:List Int) (id i:Nat) (x:Int):({ S with tin:=l }:ST).put id i x={ S.put id i x with tin:=l }:=rfl
theorem transE_back (h:S.WF) {k:Int} (hk:k=46\/k=47\/k=48\/k=49) {id i:Nat} (hi:i<(S.cell id).length) (h0:(transE S k id i).1=0):transE (transE S k id i).2 (invK1 k) id i=(0,S):=by
 have ht:=h.tin.1
 have ho:=h.tout.1
 have key:∀ (l m:List Int) (y:Int),({ S with tin:=l,tout:=m }:ST).put id i y={ S.put id i y with tin:=l,tout:=m }:=fun _ _ _=>rfl
 rcases hk with rfl|rfl|rfl|rfl
 ·unfold transE at h0
  rw [if_pos rfl] at h0
  obtain ⟨y,r,hl⟩:∃ y r,S.tin=y::r:=by
   cases hl:S.tin with
   | nil=>rw [hl] at h0; cases h0
   | cons y r=>exact ⟨y,r,rfl⟩
  rw [hl] at h0 ht
  dsimp only at h0
  split at h0
  ·cases h0
  rename_i hz
  have hz:=Decidable.not_not.1 hz
  have e:transE S 46 id i=(0,({ S with tin:=r }:ST).put id i y):=by
   unfold transE
   rw [if_pos rfl,hl]
   dsimp only
   rw [if_neg (by rw [hz]; decide)]
  rw [e]
  show transE (({ S with tin:=r }:ST).put id i y) 47 id i=(0,S)
  unfold transE
  rw [if_neg (by decide),if_neg (by decide),if_pos rfl]
  have e2:(({ S with tin:=r }:ST).put id i y).el id i=y:=put_at (S:={ S with tin:=r }) hi y
  rw [e2,if_neg (by show ¬ 4096<=r.length; simp at ht; omega)]
  congr 1
  have e3:(({ S with tin:=y::r }:ST).put id i y).put id i 0=S:=by
   rw [put_put,put_tin,<-hz,put_el,<-hl]
  exact e3
 ·unfold transE at h0
  rw [if_neg (by decide),if_neg (by decide),if_pos rfl] at h0
  split at h0
  ·cases h0
  rename_i hz
  obtain ⟨x,hx⟩:∃ x,S.el id i=x:=⟨_,rfl⟩
  have e:transE S 47 id i=(0,({ S with tin:=x::S.tin }:ST).put id i 0):=by
   unfold transE
   rw [if_neg (by decide),if_neg (by decide),if_pos rfl,if_neg hz,hx]
  rw [e]
  show transE (({ S with tin:=x::S.tin }:ST).put id i 0) 46 id i=(0,S)
  unfold transE
  rw [if_pos rfl]
  have e2:(({ S with tin:=x::S.tin }:ST).put id i 0).el id i=0:=put_at (S:={ S with tin:=x::S.tin }) hi 0
  show (if (({ S with tin:=x::S.tin }:ST).put id i 0).el id i≠0 then _ else _)=_
  rw [e2,if_neg (by simp)]
  congr 1
  have e3:(S.put id i 0).put id i x=S:=by rw [put_put,<-hx,put_el]
  exact e3
 ·unfold transE at h0
  rw [if_neg (by decide),if_neg (by decide),if_neg (by decide)] at h0
  split at h0
  ·cases h0
  rename_i hz
  obtain ⟨x,hx⟩:∃ x,S.el id i=x:=⟨_,rfl⟩
  have e:transE S 48 id i=(0,({ S with tout:=S.tout++[x] }:ST).put id i 0):=by
   unfold transE
   rw [if_neg (by decide),if_neg (by decide),if_neg (by decide),if_neg hz,hx]
  rw [e]
  show transE (({ S with tout:=S.tout++[x] }:ST).put id i 0) 49 id i=(0,S)
  unfold transE
  rw [if_neg (by decide),if_pos rfl]
  have e2:(({ S with tout:=S.tout++[x] }:ST).put id i 0).el id i=0:=put_at (S:={ S with tout:=S.tout++[x] }) hi 0
  have et:(({ S with tout:=S.tout++[x] }:ST).put id i 0).tout=S.tout++[x]:=rfl
  rw [e2,et,if_neg (by simp),if_neg (by simp)]
  congr 1
  have e3:(S.put id i 0).put id i x=S:=by rw [put_put,<-hx,put_el]
  have e4:(S.tout++[x]).dropLast=S.tout:=by simp
  have e5:(S.tout++[x]).getLast?.getD 0=x:=by simp
  rw [e4,e5]
  exact e3
 ·unfold transE at h0
  rw [if_neg (by decide),if_pos rfl] at h0
  split at h0
  ·cases h0
  rename_i hn
  split at h0
  ·cases h0
  rename_i hz
  have hz:=Decidable.not_not.1 hz
  obtain ⟨y,hy⟩:∃ y,S.tout.getLast?.getD 0=y:=⟨_,rfl⟩
  have e:transE S 49 id i=(0,({ S with tout:=S.tout.dropLast }:ST).put id i y):=by
   unfold transE
   rw [if_neg (by decide),if_pos rfl,if_neg hn,if_neg (by rw [hz]; decide),hy]
  rw [e]
  show transE (({ S with tout:=S.tout.dropLast }:ST).put id i y) 48 id i=(0,S)
  unfold transE
  rw [if_neg (by decide),if_neg (by decide),if_neg (by decide)]
  have e2:(({ S with tout:=S.tout.dropLast }:ST).put id i y).el id i=y:=put_at (S:={ S with tout:=S.tout.dropLast }) hi y
  have et:(({ S with tout:=S.tout.dropLast }:ST).put id i y).tout=S.tout.dropLast:=rfl
  have hpos:0<S.tout.length:=List.length_pos_iff.2 hn
  rw [e2,et,if_neg (by simp; omega)]
  congr 1
  have e4:S.tout.dropLast++[y]=S.tout:=by
   have:y=S.tout.getLast hn:=by rw [<-hy,List.getLast?_eq_some_getLast hn]; rfl
   rw [this]
   exact List.dropLast_concat_getLast hn
  have e3:(S.put id i y).put id i 0=S:=by rw [put_put,<-hz,put_el]
  rw [e4]
  exact e3
theorem doE_parts (h:S.WF) {k n:Int} {s:ByteArray} {ks:List T} (h0:(doE S (.nd k n s ks)).1=0) :
  ∃ id kp,S.num (ks.getD 0 nil0).s=some id/\CurK S id kp/\kp≠3/\(indE S.look (ks.getD 0 nil0)).2=0/\(rightE S k (ks.getD 1 nil0)).2=0/\0<=(indE S.look (ks.getD 0 nil0)).1/\(indE S.look (ks.getD 0 nil0)).1.toNat<(S.cell id).length /\
   doE S (.nd k n s ks)=exec3 S k s (ks.getD 1 nil0).s (rightE S k (ks.getD 1 nil0)).1 id (indE S.look (ks.getD 0 nil0)).1.toNat:=by
 obtain ⟨hs,h56,hb,hf,-⟩:=doE_ok h0
 simp only [T.k_nd] at h56 hb
 have hp:∃ id kp,S.num (ks.getD 0 nil0).s=some id/\CurK S id kp/\kp≠3:=by
  obtain ⟨-,fk⟩:=flt_own hf
  rcases isS_basic hs hb with ⟨_,p,q,rfl,hp,_⟩|⟨_,p,q,rfl,hp,_⟩|⟨_,p,rfl,hp⟩
  ·exact plc_num h hp (flts_mem fk p (by simp))
  ·exact plc_num h hp (flts_mem fk p (by simp))
  ·exact plc_num h hp (flts_mem fk p (by simp))
 obtain ⟨id,kp,h1,h2,h3⟩:=hp
 rw [doE_run hs h56 hb hf] at h0 ⊢
 unfold exec1 at h0 ⊢
 split at h0
 ·rename_i e; exact absurd h0 e
 rename_i e1
 rw [if_neg e1]
 unfold exec2 at h0 ⊢
 split at h0
 ·rename_i e; exact absurd h0 e
 rename_i e2
 rw [if_neg e2]
 rw [h1] at h0 ⊢
 dsimp only at h0 ⊢
 split at h0
 ·rename_i e3
  rw [if_pos e3]
  exact ⟨id,kp,rfl,h2,h3,Decidable.not_not.1 e1,Decidable.not_not.1 e2,e3.1,by omega,rfl⟩
 ·cases h0
theorem doE_join {k n:Int} {s:ByteArray} {ks:List T} (hs:isS (.nd k n s ks)=true) (h56:k≠56) (hb:basB k=true) (hf:fltE S.cur.vs (.nd k n s ks)=0) {id i:Nat} {y:Int} (h1:S.num (ks.getD 0 nil0).s=some id) (h2:indE S.look (ks.getD 0 nil0)=((i:Int),0)) (h3:rightE S k (ks.getD 1 nil0)=(y,0)) (h4:i<(S.cell id).length) :
  doE S (.nd k n s ks)=exec3 S k s (ks.getD 1 nil0).s y id i:=by
 rw [doE_run hs h56 hb hf]
 unfold exec1
 rw [h2,h3,if_neg (by simp)]
 unfold exec2
 rw [if_neg (by simp),h1]
 dsimp only
 rw [if_pos (by omega)]
 simp
theorem doE_undo (h:S.WF) (hnd:S.cur.cs.Nodup) {t:T} (hr:rejE t=0) (h0:(doE S t).1=0):undoE (doE S t).2 t=(0,S):=by
 obtain ⟨k,n,s,ks⟩:=t
 obtain ⟨hs,h56,hb,hf,-⟩:=doE_ok h0
 simp only [T.k_nd] at h56 hb
 obtain ⟨f1,f2,f3⟩:=doE_frames (S:=S) (.nd k n s ks)
 obtain ⟨id,kp,a1,a2,a3,a4,a5,a6,a7,a8⟩:=doE_parts h h0
 obtain ⟨i,hi⟩:∃ i,(indE S.look (ks.getD 0 nil0)).1.toNat=i:=⟨_,rfl⟩
 obtain ⟨y,hy⟩:∃ y,(rightE S k (ks.getD 1 nil0)).1=y:=⟨_,rfl⟩
 rw [hi,hy] at a8
 rw [hi] at a7
 have b1:indE S.look (ks.getD 0 nil0)=((i:Int),0):=Prod.ext (by simp only; omega) a4
 have b2:rightE S k (ks.getD 1 nil0)=(y,0):=Prod.ext hy a5
 have hid:=a2.lt h
 rw [a8] at h0 f1 f2 f3 ⊢
 obtain ⟨c1,c2,c3⟩:=bas_inv hb
 -- what the second one comes to,once the places are the same
 have key:∀ nms:List ByteArray,(∀ j,(∀ nm∈nms,S.num nm≠some j)->(exec3 S k s (ks.getD 1 nil0).s y id i).2.cell j=S.cell j)->(∀ nm∈nms,idxB (ks.getD 0 nil0) nm=false) ->
   ((∀ s',(∀ nm∈nms,(s'.toList==nm.toList)=false)->(exec3 S k s (ks.getD 1 nil0).s y id i).2.look s'=S.look s')->rightE (exec3 S k s (ks.getD 1 nil0).s y id i).2 (invK1 k) (ks.getD 1 nil0)=(y,0)) ->
   i<((exec3 S k s (ks.getD 1 nil0).s y id i).2.cell id).length ->
   undoE (exec3 S k s (ks.getD 1 nil0).s y id i).2 (.nd k n s ks)=exec3 (exec3 S k s (ks.getD 1 nil0).s y id i).2 (invK1 k) s (ks.getD 1 nil0).s y id i:=by
  intro nms hc hp hr2 hl
  have hlk:=look_other hnd ⟨f1,f2⟩ nms hc
  have hnum:∀ s',(exec3 S k s (ks.getD 1 nil0).s y id i).2.num s'=S.num s':=fun s'=>by unfold ST.num ST.cur; rw [f1,f2]
  show doE _ (.nd (invK1 k) n s ks)=_
  refine doE_join (isS_inv hs hb) c2 c1 ?_ ((hnum _).trans a1) ((ind_other hlk _ hp).trans b1) (hr2 hlk) hl
  rw [flt_inv]
  have:(exec3 S k s (ks.getD 1 nil0).s y id i).2.cur=S.cur:=by unfold ST.cur; rw [f1,f2]
  rw [this]
  exact hf
 rw [rejE_nd,if_neg h56] at hr
 rcases isS_basic hs hb with ⟨hk,p,q,rfl,hp,hq⟩|⟨rfl,p,q,rfl,hp,hq⟩|⟨hk,p,rfl,hp⟩
 ·rw [if_pos hk] at hr
  split at hr
  ·cases hr
  rename_i hrj
  simp only [Bool.or_eq_true,not_or,Bool.not_eq_true] at hrj
  have e3:∀ S':ST,∀ k',(k'=40\/k'=41\/k'=42)->exec3 S' k' s q.s y id i=(0,S'.put id i (updE k' (S'.el id i) y)):=fun S' k' hk'=>by unfold exec3; rw [if_pos hk']
  have hk':invK1 k=40\/invK1 k=41\/invK1 k=42:=by rcases hk with rfl|rfl|rfl<;>decide
  have e4:exec3 S k s q.s y id i=(0,S.put id i (updE k (S.el id i) y)):=e3 S k hk
  have hkk:=key [p.s] (fun j hj=>by
   show (exec3 S k s q.s y id i).2.cell j=_
   rw [e4]
   exact put_far S (fun e=>hj p.s (by simp) (by rw [e]; exact a1)) _ _) (fun nm hn=>by obtain rfl:=List.mem_singleton.1 hn; exact hrj.1) (fun hlk=>by
   show rightE (exec3 S k s q.s y id i).2 (invK1 k) q=(y,0)
   rw [<-b2]
   show rightE (exec3 S k s q.s y id i).2 (invK1 k) q=rightE S k q
   unfold rightE
   rw [if_neg (by omega),if_pos hk',if_neg (by omega),if_pos hk]
   exact expr_other hlk _ fun nm hn=>by obtain rfl:=List.mem_singleton.1 hn; exact hrj.2) (by
   show i<((exec3 S k s q.s y id i).2.cell id).length
   rw [e4]
   show i<((S.put id i _).cell id).length
   rw [put_len]; exact a7)
  show undoE (exec3 S k s q.s y id i).2 _=_
  refine hkk.trans ?_
  show exec3 (exec3 S k s q.s y id i).2 (invK1 k) s q.s y id i=(0,S)
  rw [e4,e3 _ _ hk']
  dsimp only
  rw [put_at S a7,updE_back hk (el_I64 h hid i),put_put,put_el]
 ·rw [if_neg (by decide),if_pos rfl] at hr
  split at hr
  ·cases hr
  rename_i hrj
  simp only [Bool.not_eq_true] at hrj
  obtain ⟨jd,kq,d1,d2,d3⟩:=plc_num h hq (flts_mem (flt_own hf).2 q (by simp))
  have hjd:=d2.lt h
  have b2':indE S.look q=(y,0):=b2
  have e4:exec3 S 43 s q.s y id i=if 0<=y/\y<(S.cell jd).length then (0,swapS S id i jd y.toNat) else (12,S):=by
   unfold exec3
   rw [if_neg (by decide),if_pos rfl,d1]
  have h0':(exec3 S 43 s q.s y id i).1=0:=h0
  rw [e4] at h0'
  split at h0'
  ·rename_i hy2
   rw [if_pos hy2] at e4
   have hlen:∀ j,((swapS S id i jd y.toNat).cell j).length=(S.cell j).length:=fun j=>by unfold swapS; rw [put_len,put_len]
   have hkk:=key [p.s,q.s] (fun j hj=>by
    show (exec3 S 43 s q.s y id i).2.cell j=_
    rw [e4]
    show (swapS S id i jd y.toNat).cell j=_
    unfold swapS
    rw [put_far _ (fun e=>hj q.s (by simp) (by rw [e]; exact d1)),put_far _ (fun e=>hj p.s (by simp) (by rw [e]; exact a1))]) (ali_place hrj (t:=p) (by simp)) (fun hlk=>by
    show rightE (exec3 S 43 s q.s y id i).2 43 q=(y,0)
    rw [<-b2']
    exact ind_other hlk q (ali_place hrj (t:=q) (by simp))) (by
    show i<((exec3 S 43 s q.s y id i).2.cell id).length
    rw [e4]
    show i<((swapS S id i jd y.toNat).cell id).length
    rw [hlen]; exact a7)
   show undoE (exec3 S 43 s q.s y id i).2 _=_
   refine hkk.trans ?_
   show exec3 (exec3 S 43 s q.s y id i).2 43 s q.s y id i=(0,S)
   rw [e4]
   dsimp only
   have hnq:(swapS S id i jd y.toNat).num q.s=some jd:=d1
   unfold exec3
   rw [if_neg (by decide),if_pos rfl,hnq]
   dsimp only
   rw [hlen,if_pos hy2,swap_back S a7 (by omega)]
  ·cases h0'
 ·have hk40:¬ (k=40\/k=41\/k=42):=by omega
  have hk43:k≠43:=by omega
  rw [if_neg hk40,if_neg hk43] at hr
  have b2r:∀ (S':ST) k',44<=k'/\k'<=49->rightE S' k' nil0=(0,0):=fun S' k' hk'=>by unfold rightE; rw [if_neg (by omega),if_neg (by omega)]
  have hinv:44<=invK1 k/\invK1 k<=49:=by
   have:k=44\/k=45\/k=46\/k=47\/k=48\/k=49:=by omega
   rcases this with rfl|rfl|rfl|rfl|rfl|rfl<;>decide
  have hy0:y=0:=by
   have:rightE S k nil0=(y,0):=b2
   rw [b2r S k hk] at this
   injection this with this
   exact this.symm
  by_cases hk2:k=44\/k=45
  ·rw [if_pos hk2] at hr
   split at hr
   ·cases hr
   rename_i hrj
   simp only [Bool.not_eq_true] at hrj
   obtain ⟨sid,d1,d2⟩:=stk_num h hf hk2
   have hne:id≠sid:=a2.ne d2 h a3
   have hinv2:invK1 k=44\/invK1 k=45:=by rcases hk2 with rfl|rfl<;>decide
   have e3:∀ (S':ST) k',(k'=44\/k'=45)->S'.num s=some sid->exec3 S' k' s nil0.s y id i=moveE S' k' id i sid:=fun S' k' hk' hn=>by
    unfold exec3
    rw [if_neg (by omega),if_neg (by omega),if_pos hk',hn]
   have e4:exec3 S k s nil0.s y id i=moveE S k id i sid:=e3 S k hk2 d1
   have h0':(exec3 S k s nil0.s y id i).1=0:=h0
   rw [e4] at h0'
   have hfar:∀ j,j≠id->j≠sid->(moveE S k id i sid).2.cell j=S.cell j:=fun j h1 h2=>by
    unfold moveE
    repeat' split
    all_goals first|rfl|(show ((S.setL sid _).put id i _).cell j=_; rw [put_far _ h1,setL_far _ h2])|(show ((S.put id i _).setL sid _).cell j=_; rw [setL_far _ h2,put_far _ h1])
   have hlen:((moveE S k id i sid).2.cell id).length=(S.cell id).length:=by
    unfold moveE
    repeat' split
    all_goals first|rfl|(show (((S.setL sid _).put id i _).cell id).length=_; rw [put_len,setL_far _ hne])|(show (((S.put id i _).setL sid _).cell id).length=_; rw [setL_far _ hne,put_len])
   have hkk:=key [p.s,s] (fun j hj=>by
    show (exec3 S k s nil0.s y id i).2.cell j=_
    rw [e4]
    exact hfar j (fun e=>hj p.s (by simp) (by rw [e]; exact a1)) (fun e=>hj s (by simp) (by rw [e]; exact d1))) (ali_place hrj (t:=p) (by simp)) (fun _=>by rw [hy0]; exact b2r _ _ hinv) (by
    show i<((exec3 S k s nil0.s y id i).2.cell id).length
    rw [e4,hlen]; exact a7)
   show undoE (exec3 S k s nil0.s y id i).2 _=_
   refine hkk.trans ?_
   show exec3 (exec3 S k s nil0.s y id i).2 (invK1 k) s nil0.s y id i=(0,S)
   have hfr:=(moveE_fr S k id i sid)
   have hn2:(moveE S k id i sid).2.num s=some sid:=by
    unfold ST.num ST.cur
    rw [hfr.1,hfr.2.1]
    exact d1
   rw [e4,e3 _ _ hinv2 hn2]
   exact moveE_back hk2 hne a7 (h.cells sid (d2.lt h)).1 h0'
  ·have hk3:46<=k/\k<=49:=by omega
   rw [if_neg hk2,if_pos hk3] at hr
   split at hr
   ·cases hr
   rename_i hrj
   simp only [Bool.not_eq_true] at hrj
   have hk4:k=46\/k=47\/k=48\/k=49:=by omega
   have hinv2:46<=invK1 k/\invK1 k<=49:=by rcases hk4 with rfl|rfl|rfl|rfl<;>decide
   have e3:∀ (S':ST) k',(46<=k'/\k'<=49)->exec3 S' k' s nil0.s y id i=transE S' k' id i:=fun S' k' hk'=>by
    unfold exec3
    rw [if_neg (by omega),if_neg (by omega),if_neg (by omega)]
   have e4:exec3 S k s nil0.s y id i=transE S k id i:=e3 S k hk3
   have h0':(exec3 S k s nil0.s y id i).1=0:=h0
   rw [e4] at h0'
   have hfar:∀ j,j≠id->(transE S k id i).2.cell j=S.cell j:=fun j h1=>by
    unfold transE
    repeat' split
    all_goals first|rfl|exact put_far (S:={ S with tin:=_ }) h1 _ _|exact put_far (S:={ S with tout:=_ }) h1 _ _
   have hlen:((transE S k id i).2.cell id).length=(S.cell id).length:=by
    unfold transE
    repeat' split
    all_goals first|rfl|exact put_len (S:={ S with tin:=_ }) _ _ _ _|exact put_len (S:={ S with tout:=_ }) _ _ _ _
   have hkk:=key [p.s] (fun j hj=>by
    show (exec3 S k s nil0.s y id i).2.cell j=_
    rw [e4]
    exact hfar j (fun e=>hj p.s (by simp) (by rw [e]; exact a1))) (ali_place hrj (t:=p) (by simp)) (fun _=>by rw [hy0]; exact b2r _ _ hinv) (by
    show i<((exec3 S k s nil0.s y id i).2.cell id).length
    rw [e4,hlen]; exact a7)
   show undoE (exec3 S k s nil0.s y id i).2 _=_
   refine hkk.trans ?_
   show exec3 (exec3 S k s nil0.s y id i).2 (invK1 k) s nil0.s y id i=(0,S)
   rw [e4,e3 _ _ hinv2]
   exact transE_back h hk4 a7 h0'
theorem inv_inv1 (k:Int):invK1 (invK1 k)=k:=by
 by_cases h:k=40\/k=41\/k=44\/k=45\/k=46\/k=47\/k=48\/k=49
 ·rcases h with rfl|rfl|rfl|rfl|rfl|rfl|rfl|rfl<;>rfl
 ·have e:invK1 k=k:=by
   unfold invK1
   rw [if_neg (by omega),if_neg (by omega),if_neg (by omega),if_neg (by omega),if_neg (by omega),if_neg (by omega),if_neg (by omega),if_neg (by omega)]
  rw [e,e]
theorem undoE_do (h:S.WF) (hnd:S.cur.cs.Nodup) {t:T} (hr:rejE t=0) (h0:(undoE S t).1=0):doE (undoE S t).2 t=(0,S):=by
 obtain ⟨k,n,s,ks⟩:=t
 have h0':(doE S (.nd (invK1 k) n s ks)).1=0:=h0
 obtain ⟨hs,h56,hb,-,-⟩:=doE_ok h0'
 have hb:basB (invK1 k)=true:=hb
 have hkk:=inv_inv1 k
 have hr':rejE (.nd (invK1 k) n s ks)=0:=by
  have hbk:basB k=true:=by
   have:=(bas_inv hb).1
   rw [hkk] at this
   exact this
  have hrange:=of_decide_eq_true hbk
  rw [rejE_nd] at hr ⊢
  have:k=40\/k=41\/k=42\/k=43\/k=44\/k=45\/k=46\/k=47\/k=48\/k=49:=by omega
  rcases this with rfl|rfl|rfl|rfl|rfl|rfl|rfl|rfl|rfl|rfl<;>exact hr
 have:=doE_undo h hnd hr' h0'
 show doE (doE S (.nd (invK1 k) n s ks)).2 (.nd k n s ks)=(0,S)
 have e:undoE (doE S (.nd (invK1 k) n s ks)).2 (.nd (invK1 k) n s ks)=doE (doE S (.nd (invK1 k) n s ks)).2 (.nd k n s ks):=by
  show doE _ (.nd (invK1 (invK1 k)) n s ks)=_
  rw [hkk]
 rw [<-e]
 exact this
end
def OkN (u:T):Prop:=rejE u=0/\(u.k=54->menB (kid u 0) u.s=false/\menB (kid u 2) u.s=false)
structure RvT (prs:List PR) (t:T):Prop where
 gp:GP prs t
 ok:∀ u∈po t,OkN u
 pr:∀ q∈prs,∀ u∈po q.b,OkN u
theorem po_self (t:T):t∈po t:=by obtain ⟨k,n,s,ks⟩:=t; simp [po]
theorem po_of {t u:T} (h:u∈t.ks):∀ w∈po u,w∈po t:=by
 obtain ⟨k,n,s,ks⟩:=t
 exact fun w hw=>by simp only [po,List.mem_cons]; exact .inr (mem_pos.2 ⟨u,h,hw⟩)
theorem po_kid {t u:T} {i:Nat} (h:u∈(kid t i).ks):∀ w∈po u,w∈po t:=by
 unfold kid at h
 rw [List.getD_eq_getElem?_getD] at h
 rcases hk:t.ks[i]? with _|v
 ·rw [hk] at h; simp [nil0] at h
 ·rw [hk] at h
  exact fun w hw=>po_of (List.mem_of_getElem? hk) w (po_of h w hw)
theorem RvT.own {prs:List PR} {t:T} (h:RvT prs t):OkN t:=h.ok t (po_self t)
theorem RvT.two {prs:List PR} {t:T} (h:RvT prs t) (hk:t.k=52\/t.k=53):(∀ u∈(kid t 1).ks,RvT prs u)/\∀ u∈(kid t 2).ks,RvT prs u:=by
 obtain ⟨-,h1,h2⟩:=GP_GC.two prs t h.gp hk
 exact ⟨fun u hu=>⟨h1 u hu,fun w hw=>h.ok w (po_kid hu w hw),h.pr⟩,fun u hu=>⟨h2 u hu,fun w hw=>h.ok w (po_kid hu w hw),h.pr⟩⟩
theorem RvT.loc {prs:List PR} {t:T} (h:RvT prs t) (hk:t.k=54):t.ks.length=3/\∀ u∈(kid t 1).ks,RvT prs u:=by
 obtain ⟨h0,h1⟩:=GP_GC.loc prs t h.gp hk
 exact ⟨h0,fun u hu=>⟨h1 u hu,fun w hw=>h.ok w (po_kid hu w hw),h.pr⟩⟩
theorem RvT.stk {prs:List PR} {t:T} (h:RvT prs t) (hk:t.k=55):∀ u∈(kid t 0).ks,RvT prs u:=by
 obtain ⟨-,h1⟩:=GP_GC.stk prs t h.gp hk
 exact fun u hu=>⟨h1 u hu,fun w hw=>h.ok w (po_kid hu w hw),h.pr⟩
theorem RvT.cal {prs:List PR} {t:T} (h:RvT prs t) (hk:t.k=50\/t.k=51):∀ i,prcI prs t.s=some i->∀ u∈(prs.getD i ⟨⟨#[]⟩,[],nil0⟩).b.ks,RvT prs u:=by
 intro i hi
 obtain ⟨j,q,hj,hq,h1⟩:=GP_GC.cal prs t h.gp hk
 rw [hi] at hj
 injection hj with hj
 subst hj
 rw [getD_some hq]
 exact fun u hu=>⟨h1 u hu,fun w hw=>h.pr q (List.mem_of_getElem? hq) w (po_of hu w hw),h.pr⟩
def NdS (S:ST):Prop:=S.base.cs.Nodup/\∀ f∈S.calls,f.cs.Nodup
theorem NdS.cur {S:ST} (h:NdS S):S.cur.cs.Nodup:=by
 rcases Nat.eq_zero_or_pos S.calls.length with h0|h0
 ·rw [cur_0 h0]; exact h.1
 ·rw [cur_1 h0]; exact h.2 _ (List.getElem_mem _)
theorem NdS.of {S S':ST} (h:NdS S) (h1:S'.base=S.base) (h2:S'.calls=S.calls):NdS S':=by unfold NdS; rw [h1,h2]; exact h
theorem NdS.keep {r r':RS} (h:NdS r.S) (hk:Keep r r'):NdS r'.S:=h.of hk.base hk.calls
theorem NdS.setCur {S:ST} (h:NdS S) {f:FR} (hf:f.cs.Nodup):NdS (S.setCur f):=by
 unfold ST.setCur
 split
 ·exact ⟨hf,h.2⟩
 ·refine ⟨h.1,fun g hg=>?_⟩
  rcases List.mem_or_eq_of_mem_set hg with hg|rfl
  ·exact h.2 g hg
  ·exact hf
theorem NdS.open_ {S:ST} (h:NdS S) (hw:S.WF) (l:List Int) (v:VD):NdS ((S.newCell l).setCur (S.cur.push v S.nc)):=by
 obtain ⟨kd,hc⟩:=hw.cur
 refine NdS.setCur (S:=S.newCell l) h ?_
 show (S.cur.cs++[S.nc]).Nodup
 rw [List.nodup_append]
 refine ⟨h.cur,by simp,fun a ha b hb=>?_⟩
 obtain rfl:=List.mem_singleton.1 hb
 have:=hc.num a ha
 omega
def RevR (F:Int) (f:RS->Out) (r r':RS):Prop:=r.n<=r'.n/\∀ x:RS,Eqv r'.S x.S->(x.n:Int)+(r'.n-r.n:Nat)<=F->∃ x',f x=.ok x'/\Eqv r.S x'.S/\x'.n=x.n+(r'.n-r.n)
section
variable {F:Int} {f f':RS->Out} {r r1 r':RS} {t:T}
theorem RevR.trans (h:RevR F f r r1) (h':RevR F f' r1 r'):RevR F (fun x=>(f' x).bind f) r r':=by
 obtain ⟨a1,a2⟩:=h
 obtain ⟨b1,b2⟩:=h'
 refine ⟨by omega,fun x hx hF=>?_⟩
 obtain ⟨x1,c1,c2,c3⟩:=b2 x hx (by omega)
 obtain ⟨x2,d1,d2,d3⟩:=a2 x1 c2 (by omega)
 exact ⟨x2,by show (f' x).bind f=_; rw [c1]; exact d1,d2,by omega⟩
theorem Eqv.look {S S':ST} (h:Eqv S S'):S'.look=S.look:=by
 obtain ⟨ρ,h⟩:=h
 exact h.look
end
mutual
theorem po_len:∀ t:T,(po t).length=size t
 | .nd k n s ks=>by rw [po,size,List.length_cons,pos_len ks]; omega
theorem pos_len:∀ ks:List T,(pos ks).length=sizes ks
 | []=>by simp [pos,sizes]
 | t::ts=>by rw [pos,sizes,List.length_append,po_len t,pos_len ts]
end
def rjP (ps:List PR):Nat:=(ps.map fun r=>rejN (po r.b)).sum
def rjT (p:PG):Nat:=rjP p.prs+rejN (po p.m)
theorem body_ok {t:T} (h:isBodyB t=true):dep t<=1000/\(po t).length<=2000/\∀ x∈po t,RejOK x:=by
 obtain ⟨⟨h1,h2⟩,h3⟩:=(isBodyB_iff t).1 h
 exact ⟨by omega,by rw [po_len]; exact h2,rejOK_po (.inr (.inr h3)) (by omega)⟩
theorem rjP_take {ps:List PR} {j:Nat} (h:j<ps.length):rjP (ps.take (j+1))=rjP (ps.take j)+rejN (po ps[j].b):=by
 unfold rjP
 rw [List.take_succ_eq_append_getElem h,List.map_append,List.sum_append]
 simp
theorem rjP_le {ps:List PR} (h:∀ r∈ps,isBodyB r.b=true):rjP ps<=ps.length*2000:=by
 induction ps with
 | nil=>simp [rjP]
 | cons r rs ih =>
  have h1:=ih fun r hr=>h r (List.mem_cons_of_mem _ hr)
  have h2:=(body_ok (h r List.mem_cons_self)).2.1
  have h3:=rejN_le (po r.b)
  simp only [rjP,List.map_cons,List.sum_cons,List.length_cons] at *
  omega
theorem valid_bodies {p:PG} (h:validB p=true):(∀ r∈p.prs,isBodyB r.b=true)/\isBodyB p.m=true/\p.prs.length<=64:=by
 unfold validB at h
 simp only [Bool.and_eq_true,List.all_eq_true,decide_eq_true_eq] at h
 refine ⟨fun r hr=>?_,h.2,h.1.1.1.2⟩
 have:=h.1.2 r hr
 unfold procB at this
 simp only [Bool.and_eq_true] at this
 exact this.2
theorem Check_yes (p:PG) (v:Value) (w:World) (hv:PV w Any p v) (hval:validB p=true) (hch:chkN p=0):Calls Tryz.prog 54 #[v] w fun e w'=>∃ A c,e=.returned (.slice A (rjT p) c)/\Below w.heap.size w w':=by
 have HV:=zh hv
 obtain ⟨A1,c1,A2,c2,A3,c3,rfl,hr⟩:=hv
 have HR:=zh hr
 have HVAL:=zh (Valid_yes hval (HV.out.later (bl_al (Below.refl _ _) (.cells #[.slice A1 p.vs.length c1,.slice A2 p.prs.length c2,.int .u8 p.m.k,.int .i64 p.m.n,.string p.m.s,.slice A3 p.m.ks.length c3] 35))))
 have HSC:=zh (show ∀ w,PV w Any p (pv A1 p.vs.length c1 A2 p.prs.length c2 p.m.k p.m.n p.m.s A3 p.m.ks.length c3)->Calls Tryz.prog 53 #[pv A1 p.vs.length c1 A2 p.prs.length c2 p.m.k p.m.n p.m.s A3 p.m.ks.length c3] w fun e w'=>∃ A c,e=.returned (.slice A 0 c)/\Below w.heap.size w w' from fun w h=>by
  have:=SCheck_any p Any _ w h
  rwa [if_pos hval,hch] at this)
 have HBD:=zh (valid_bodies hval)
 obtain ⟨L1,hL1⟩:∃ L,p.vs.length=L:=⟨_,rfl⟩
 obtain ⟨k,hk⟩:∃ k,p.m.k=k:=⟨_,rfl⟩
 obtain ⟨n,hn⟩:∃ n,p.m.n=n:=⟨_,rfl⟩
 obtain ⟨s,hs⟩:∃ s,p.m.s=s:=⟨_,rfl⟩
 obtain ⟨l3,hl3⟩:∃ l,p.m.ks.length=l:=⟨_,rfl⟩
 rw [hL1,hk,hn,hs,hl3] at HV HVAL HSC ⊢
 have HM:=zh hr.main
 rw [hk,hn,hs,hl3] at HM
 have hlp:=LV_int hr.lp
 clear hr hL1 hk hn hs hl3 hval hch
 go_enter Tryz.func54,Tryz.ntmps54
 go_wp2_with fail
 refine HVAL.out.mono ?_
 rintro e w1 ⟨rfl,bw1⟩
 have q1:=bl_tt (bl_al (Below.refl w.heap.size w) _) bw1
 have hP:=blk_bl (heap_alloc_new w (.cells #[.slice A1 L1 c1,.slice A2 p.prs.length c2,.int .u8 k,.int .i64 n,.string s,.slice A3 l3 c3] 35)) bw1
 obtain ⟨a0,a1,a2,a3,a4,a5⟩:=box6 hP
 have HP:=zh hP
 clear bw1 hP
 go_wp2_with fail
 refine (HSC.out _ (HV.out.later q1)).mono ?_
 rintro e w2 ⟨B0,d0,rfl,bw2⟩
 have q2:=bl_tt q1 bw2
 have hP:=blk_bl HP.out bw2
 clear a0 a1 a2 a3 a4 a5 HP bw2 q1
 obtain ⟨a0,a1,a2,a3,a4,a5⟩:=box6 hP
 have HP:=zh hP
 have HQ2:=zh q2
 clear hP q2
 go_wp2_with fail
 obtain ⟨i0,hi0,hz0,hz1,hz2⟩:=info_parts rejInfo
 clear a0 a1 a2 a3 a4 a5
 go_loopw [3,18] (fun x i wr=>∃ (j:Nat) (xs:List Value),j<=p.prs.length/\i=.int .i64 j/\wr.ownsRow (w.heap.size+1) 204 4 x (rjP (p.prs.take j)) xs/\(∀ u∈xs,u.oneCell'=true)/\Below w.heap.size w wr/\wr.heap[w.heap.size]?=some (.cells #[.slice A1 L1 c1,.slice A2 p.prs.length c2,.int .u8 k,.int .i64 n,.string s,.slice A3 l3 c3] 35 (0,0))) (fun _ i _=>p.prs.length-(intOf i).toNat)
 case atStart=>exact ⟨0,[],Nat.zero_le _,rfl,by simpa [rjP] using World.ownsRow_nil _ _ _ _,by simp,HQ2.out,HP.out⟩
 case round =>
  obtain ⟨j,xs,hj,rfl,hown,h1c,hbw,hbx⟩:=hrel
  have hxsl:∃ B3 d3,u3=.slice B3 (rjP (p.prs.take j)) d3:=by
   rcases hown.2 with ⟨rfl,h0⟩|⟨g,cap,cur,rfl,_⟩
   ·exact ⟨_,_,by rw [h0]⟩
   ·exact ⟨_,_,rfl⟩
  obtain ⟨B3,d3,rfl⟩:=hxsl
  have HOWN:=zh hown
  have H1C:=zh h1c
  have HBW:=zh hbw
  have HBX:=zh hbx
  have hwr:=blk_lt hbx
  have hrj:rjP (p.prs.take j)<=128000:=by
   have h1:=rjP_le (ps:=p.prs.take j) (fun r hr=>HBD.out.1 r (List.mem_of_mem_take hr))
   have h2:=HBD.out.2.2
   simp at h1
   omega
  clear hown h1c hbx
  by_cases hlt:j<p.prs.length
  ·obtain ⟨a,r,D1,e1,D2,e2,rfl,_,Hr,⟨y0,y1,y2,y3,y4,y5⟩,hpr⟩:=(HR.out.procs.later hbw).nd hlt
   have hbd:=body_ok (HBD.out.1 p.prs[j] (List.getElem_mem hlt))
   rw [Hr.out] at hbd
   have HBO:=zh hbd
   have HPR:=zh hpr.body
   have hrl:rejN (po r.b)<=2000:=Nat.le_trans (rejN_le _) hbd.2.1
   have HTK:=zh (show rjP (p.prs.take (j+1))=rjP (p.prs.take j)+rejN (po r.b) by rw [rjP_take hlt,Hr.out])
   obtain ⟨NN,hNN⟩:∃ NN,rejN (po r.b)=NN:=⟨_,rfl⟩
   rw [hNN] at hrl HTK
   have HNN:=zh hNN
   clear hbd hpr hbw hNN
   go_wp2_with fail
   refine (ccheck_any r.b _ _ _ (HPR.out.later (bl_al (Below.refl _ _) _)) HBO.out.1 (by have:=HBO.out.2.1; omega) HBO.out.2.2).mono ?_
   rintro e w4 ⟨pv4,ys,rfl,hown4,h4c,bw4⟩
   rw [HNN.out] at hown4
   have hb4:=bl_tt (bl_al (Below.refl wr.heap.size wr) _) bw4
   have hs4:=hb4.size
   have hown5:=own_later HOWN.out hb4
   have HB4:=zh hb4
   have HX4:=zh (blk_bl HBX.out hb4)
   clear bw4 hb4 y0 y1 y2 y3 y4 y5
   go_wp2_with (at_builtin; refine wpList_append_rows (P:=Tryz.prog) rfl (.tmp 23) (.tmp 27) 108 rfl (w.heap.size+1) _ 204 i0 _ 4 56 Tryz.underlying108 hi0 hz0 hz1 hz2 rfl (by decide) (.slice B3 (rjP (p.prs.take j)) d3) (rjP (p.prs.take j)) xs rfl hown5 pv4 NN ys rfl hown4 h4c (by unfold maxLen; omega) (by omega) (by omega) ?_; intro v' w' h2 h3 h5)
   refine ⟨⟨j+1,_,by omega,rfl,by rw [HTK.out]; exact h2,fun u hu=>?_,(bl_tt HBW.out HB4.out).grown h3 (by have:=HBW.out.size; omega) (fun g e=>by have:=(hown5.lt g e).1; omega),?_⟩,by simp [intOf]; omega⟩
   ·rw [List.mem_append] at hu
    rcases hu with hu|hu
    ·exact H1C.out u hu
    ·exact h4c u hu
   ·exact (h3.block _ (by omega) (fun e=>by have:=(hown5.lt _ e.symm).1; omega)).trans HX4.out
  ·obtain rfl:j=p.prs.length:=by omega
   have hmb:=body_ok HBD.out.2.1
   have HMB:=zh hmb
   have hrl:rejN (po p.m)<=2000:=Nat.le_trans (rejN_le _) hmb.2.1
   have hTT:rjT p=rjP p.prs+rejN (po p.m):=rfl
   have e3:p.prs.take p.prs.length=p.prs:=List.take_of_length_le (Nat.le_refl _)
   rw [e3] at HOWN hrj ⊢
   clear e3
   obtain ⟨NN,hNN⟩:∃ NN,rejN (po p.m)=NN:=⟨_,rfl⟩
   rw [hNN] at hrl hTT
   have HNN:=zh hNN
   have HTT:=zh hTT
   obtain ⟨a0,a1,a2,a3,a4,a5⟩:=box6 HBX.out
   clear hmb hNN hTT hbw
   go_wp2_with fail
   refine (ccheck_any p.m _ _ _ ((HM.out.later HBW.out).any) HMB.out.1 (by have:=HMB.out.2.1; omega) HMB.out.2.2).mono ?_
   rintro e w4 ⟨pv4,ys,rfl,hown4,h4c,bw4⟩
   rw [HNN.out] at hown4
   have hs4:=bw4.size
   have hown5:=own_later HOWN.out bw4
   have HB4:=zh bw4
   clear bw4 a0 a1 a2 a3 a4 a5
   go_wp2_with (at_builtin; refine wpList_append_rows (P:=Tryz.prog) rfl (.tmp 30) (.tmp 33) 108 rfl (w.heap.size+1) _ 204 i0 _ 4 56 Tryz.underlying108 hi0 hz0 hz1 hz2 rfl (by decide) (.slice B3 (rjP p.prs) d3) (rjP p.prs) xs rfl hown5 pv4 NN ys rfl hown4 h4c (by unfold maxLen; omega) (by omega) (by omega) ?_; intro v' w' h2 h3 h5)
   have hvs:∃ B d,v'=.slice B (rjP p.prs+NN) d:=by
    rcases h2.2 with ⟨rfl,h0⟩|⟨g,cap,cur,rfl,_⟩
    ·exact ⟨_,_,by rw [h0]⟩
    ·exact ⟨_,_,rfl⟩
   obtain ⟨B,d,rfl⟩:=hvs
   have HBF:=zh (show Below w.heap.size w w' from (bl_tt HBW.out HB4.out).grown h3 (by have:=HBW.out.size; omega) (fun g e=>by have:=(hown5.lt g e).1; omega))
   clear h2 h3 h5 hown5 hown4
   go_wp2_with fail
   go_ret
   exact ⟨B,d,by rw [HTT.out]; rfl,HBF.out⟩
def okB (p:PG):Bool:=validB p&&decide (chkN p=0)&&decide (rjT p=0)
theorem OK_any (p:PG) (v:Value) (w:World) (hv:PV w Any p v):Calls Tryz.prog 18 #[v] w fun e w'=>e=.returned (.bool (okB p))/\Below w.heap.size w w':=by
 have HV:=zh hv
 obtain ⟨A1,c1,A2,c2,A3,c3,rfl,hr⟩:=hv
 obtain ⟨b,hb⟩:∃ b,okB p=b:=⟨_,rfl⟩
 obtain ⟨vb,hvb⟩:∃ b,validB p=b:=⟨_,rfl⟩
 obtain ⟨N1,hN1⟩:∃ N,chkN p=N:=⟨_,rfl⟩
 obtain ⟨N2,hN2⟩:∃ N,rjT p=N:=⟨_,rfl⟩
 have hbb:b=(vb&&decide (N1=0)&&decide (N2=0)):=by rw [<-hb,<-hvb,<-hN1,<-hN2]; rfl
 rw [hb]
 have HVA:=zh (show ∀ w,PV w Any p (pv A1 p.vs.length c1 A2 p.prs.length c2 p.m.k p.m.n p.m.s A3 p.m.ks.length c3)->Calls Tryz.prog 17 #[pv A1 p.vs.length c1 A2 p.prs.length c2 p.m.k p.m.n p.m.s A3 p.m.ks.length c3] w fun e w'=>e=.returned (.bool vb)/\Below w.heap.size w w' from fun w h=>hvb▸Valid_any p Any _ w h)
 have HSC:=zh (show vb=true->∀ w,PV w Any p (pv A1 p.vs.length c1 A2 p.prs.length c2 p.m.k p.m.n p.m.s A3 p.m.ks.length c3)->Calls Tryz.prog 53 #[pv A1 p.vs.length c1 A2 p.prs.length c2 p.m.k p.m.n p.m.s A3 p.m.ks.length c3] w fun e w'=>∃ A c,e=.returned (.slice A N1 c)/\Below w.heap.size w w' from fun h0 w h=>by
  have:=SCheck_any p Any _ w h
  rwa [if_pos (hvb.trans h0),hN1] at this)
 have HCK:=zh (show vb=true->N1=0->∀ w,PV w Any p (pv A1 p.vs.length c1 A2 p.prs.length c2 p.m.k p.m.n p.m.s A3 p.m.ks.length c3)->Calls Tryz.prog 54 #[pv A1 p.vs.length c1 A2 p.prs.length c2 p.m.k p.m.n p.m.s A3 p.m.ks.length c3] w fun e w'=>∃ A c,e=.returned (.slice A N2 c)/\Below w.heap.size w w' from fun h0 h1 w h=>hN2▸Check_yes p _ w h (hvb.trans h0) (hN1.trans h1))
 have HBB:=zh hbb
 obtain ⟨L1,hL1⟩:∃ L,p.vs.length=L:=⟨_,rfl⟩
 obtain ⟨L2,hL2⟩:∃ L,p.prs.length=L:=⟨_,rfl⟩
 obtain ⟨k,hk⟩:∃ k,p.m.k=k:=⟨_,rfl⟩
 obtain ⟨n,hn⟩:∃ n,p.m.n=n:=⟨_,rfl⟩
 obtain ⟨s,hs⟩:∃ s,p.m.s=s:=⟨_,rfl⟩
 obtain ⟨l3,hl3⟩:∃ l,p.m.ks.length=l:=⟨_,rfl⟩
 rw [hL1,hL2,hk,hn,hs,hl3] at HV HVA HSC HCK ⊢
 clear hr hL1 hL2 hk hn hs hl3 hb hvb hN1 hN2 hbb
 go_enter Tryz.func18,Tryz.ntmps18
 go_wp2_with fail
 refine (HVA.out _ (HV.out.later (bl_al (Below.refl _ _) _))).mono ?_
 rintro e w1 ⟨rfl,bw1⟩
 have q1:=bl_tt (bl_al (Below.refl w.heap.size w) _) bw1
 have hP:=blk_bl (heap_alloc_new w (.cells #[.slice A1 L1 c1,.slice A2 L2 c2,.int .u8 k,.int .i64 n,.string s,.slice A3 l3 c3] 35)) bw1
 obtain ⟨a0,a1,a2,a3,a4,a5⟩:=box6 hP
 have HP:=zh hP
 clear bw1 hP
 cases vb
 ·have HX:=zh (show b=false by rw [HBB.out]; rfl)
  go_wp2_with fail
  go_ret
  exact ⟨by rw [HX.out]; rfl,q1⟩
 ·have HSC1:=zh (HSC.out rfl)
  have HCK1:=zh (HCK.out rfl)
  clear HSC HCK
  go_wp2_with fail
  refine (HSC1.out _ (HV.out.later q1)).mono ?_
  rintro e w2 ⟨B0,d0,rfl,bw2⟩
  have q2:=bl_tt q1 bw2
  have hP:=blk_bl HP.out bw2
  clear a0 a1 a2 a3 a4 a5 HP bw2 q1
  obtain ⟨a0,a1,a2,a3,a4,a5⟩:=box6 hP
  clear hP
  by_cases hN:N1=0
  ·have HCK2:=zh (HCK1.out hN)
   clear HCK1 HSC1
   subst hN
   go_wp2_with fail
   refine (HCK2.out _ (HV.out.later q2)).mono ?_
   rintro e w3 ⟨B1,d1,rfl,bw3⟩
   have q3:=bl_tt q2 bw3
   clear a0 a1 a2 a3 a4 a5 bw3
   by_cases hM:N2=0
   ·subst hM
    have HX:=zh (show b=true by rw [HBB.out]; rfl)
    go_wp2_with fail
    go_ret
    exact ⟨by rw [HX.out]; rfl,q3⟩
   ·have hM1:((N2:Int)==0)=false:=by simpa using hM
    have HX:=zh (show b=false by rw [HBB.out]; simp [hM])
    clear hM
    go_wp2_with fail
    go_ret
    exact ⟨by rw [HX.out]; rfl,q3⟩
  ·have hM1:((N1:Int)==0)=false:=by simpa using hN
   have HX:=zh (show b=false by rw [HBB.out]; simp [hN])
   clear hN
   go_wp2_with fail
   go_ret
   exact ⟨by rw [HX.out]; rfl,q2⟩
section
variable {P:Program} {ops:Array Oper} {Q:Exit->Act->World->Prop} {md:Region.Mode} {S1 S2:World->Prop} {k:Nat}
end
end Go.Proofs.YtckhofdinldhpaaGreat
namespace Go.Proofs.YtckhofdinldhpaaGreat
open Go Go.RowKit
def Nz (o:Out):Prop:=o ≠ .err 0
theorem Nz.bind {o:Out} {f:RS->Out} (h:Nz o) (hf:∀ r,Nz (f r)):Nz (o.bind f):=by
 cases o with
 | gas=>exact fun e=>by cases e
 | err x=>exact h
 | ok r=>exact hf r
theorem Nz.ok (r:RS):Nz (.ok r):=fun e=>by cases e
theorem Nz.gas:Nz .gas:=fun e=>by cases e
theorem Nz.step (F:Int) (r:RS):Nz (stepO F r):=by
 unfold stepO
 split
 ·intro e; injection e with e; omega
 ·exact Nz.ok _
theorem Nz.val {t:T} {r:RS} {f:Int->RS->Out} (hf:∀ x,Nz (f x r)):Nz (valO t r f):=by
 unfold valO
 split
 ·rename_i h; intro e; injection e with e; exact h e
 ·exact hf _
theorem Nz.holds {F:Int} {t:T} {r:RS} {f:Bool->RS->Out} (hf:∀ b r,Nz (f b r)):Nz (holdsO F t r f):=(Nz.step F r).bind fun r=>Nz.val fun x=>hf _ _
theorem Nz.assert (F:Int) (t:T) (b:Bool) (r:RS):Nz (assertO F t b r):=Nz.holds fun b' r=>by
 split
 ·exact Nz.ok _
 ·intro e; injection e with e; omega
theorem Nz.body {f:T->RS->Out}:∀ (l:List T) (r:RS),(∀ t∈l,∀ r,Nz (f t r))->Nz (bodyO f l r)
 | [],r,_=>Nz.ok r
 | t::ts,r,h=>(h t (List.mem_cons_self ..) r).bind fun r=>Nz.body ts r fun u hu=>h u (List.mem_cons_of_mem _ hu)
theorem Nz.loop {F:Int} {f:T->RS->Out} {entry test:T} {l1 l2:List T} (h1:∀ t∈l1,∀ r,Nz (f t r)) (h2:∀ t∈l2,∀ r,Nz (f t r)):∀ (m:Nat) (r:RS),Nz (loopO F f entry test l1 l2 m r)
 | 0,_=>Nz.gas
 | m+1,r=>by
  rw [loopO]
  refine (Nz.body l1 r h1).bind fun r=>Nz.holds fun b r=>?_
  split
  ·exact Nz.ok _
  ·exact (Nz.body l2 r h2).bind fun r=>(Nz.assert F entry false r).bind fun r=>Nz.loop h1 h2 m r
def LimR (R:SS×Nat×Int×List Nat):Prop:=R.1.Lim/\(R.2.2.1=0->R.1.cells.length<=1000+R.2.1/\(∀ l∈R.1.cells,l.length<=1000)/\R.1.tin.length<=4096/\R.1.tout.length<=4096)
theorem LimR.run {r:RS} (h:r.S.WF) (hf:FB r.n r.S) (e:List Nat):LimR (r.S.state,r.n,0,e):=by
 obtain ⟨-,h1,h2⟩:=state_I h
 obtain ⟨kd,hb,-⟩:=h.ex
 refine ⟨h1,fun _=>⟨?_,h2,h.tin.1,h.tout.1⟩⟩
 have:=hb.len
 have:=hf.1
 simp only [ST.state,List.length_map,List.length_take]
 omega
theorem OwnS.chg {W W':World} {n0:Nat} {s:SS} {v:Value} {Cc:Nat->Prop} (h:OwnS W n0 s v) (hc:Chg Cc W W') (hC:∀ b,Cc b->b<n0):OwnS W' n0 s v:=by
 obtain ⟨vc,vi,vo,fc,rfl,hr,hi⟩:=h
 exact ⟨vc,vi,vo,fc,rfl,hr.chg hc fun i b hb hcb=>by have:=(hr.lt i b hb).1; have:=hC b hcb; omega,hi⟩
def Fl (F':Int) (n:Nat) (o o':Out):Prop:=∀ r',o=.ok r'->n<=r'.n/\((r'.n:Int)<=F'\/r'.n=n->o'=.ok r')/\(F'<(r'.n:Int)->n<r'.n->o'=.err 18)
theorem Fl.bind {F':Int} {n:Nat} {o o':Out} {f f':RS->Out} (h:Fl F' n o o') (hf:∀ r,n<=r.n->Fl F' r.n (f r) (f' r)):Fl F' n (o.bind f) (o'.bind f'):=by
 intro r2 e
 cases o with
 | gas=>cases e
 | err x=>cases e
 | ok r1 =>
  obtain ⟨h1,h2,h3⟩:=h r1 rfl
  obtain ⟨g1,g2,g3⟩:=hf r1 h1 r2 e
  refine ⟨by omega,fun hc=>?_,fun a b=>?_⟩
  ·rw [h2 (by omega)]; exact g2 (by omega)
  ·by_cases hc:(r1.n:Int)<=F'\/r1.n=n
   ·rw [h2 hc]; exact g3 a (by omega)
   ·rw [h3 (by omega) (by omega)]; rfl
theorem Fl.err {F':Int} {n:Nat} {x:Int} {o':Out}:Fl F' n (.err x) o':=fun _ e=>by cases e
theorem Fl.gas {F':Int} {n:Nat} {o':Out}:Fl F' n .gas o':=fun _ e=>by cases e
theorem Fl.same {F':Int} {r:RS}:Fl F' r.n (.ok r) (.ok r):=fun r' e=>by
 injection e with e
 subst e
 exact ⟨Nat.le_refl _,fun _=>rfl,fun _ h=>absurd h (Nat.lt_irrefl _)⟩
theorem Fl.step (F F':Int) (r:RS):Fl F' r.n (stepO F r) (stepO F' r):=fun r' e=>by
 obtain ⟨rfl,-⟩:=stepO_ok e
 refine ⟨by simp only; omega,fun h=>?_,fun h _=>?_⟩
 ·unfold stepO; rw [if_neg (by simp only at h; omega)]
 ·unfold stepO; rw [if_pos (by simp only at h; omega)]
theorem Fl.val {F':Int} {n:Nat} {t:T} {r:RS} {f f':Int->RS->Out} (h:∀ x,Fl F' n (f x r) (f' x r)):Fl F' n (valO t r f) (valO t r f'):=by
 unfold valO
 split
 ·exact Fl.err
 ·exact h _
theorem Fl.holds {F F':Int} {t:T} {r:RS} {f f':Bool->RS->Out} (h:∀ b r1,r.n<=r1.n->Fl F' r1.n (f b r1) (f' b r1)):Fl F' r.n (holdsO F t r f) (holdsO F' t r f'):=by
 unfold holdsO
 exact (Fl.step F F' r).bind fun r1 h1=>Fl.val fun x=>h _ _ h1
theorem Fl.assert {F F':Int} {t:T} {b:Bool} {r:RS}:Fl F' r.n (assertO F t b r) (assertO F' t b r):=by
 unfold assertO
 refine Fl.holds fun b1 r1 _=>?_
 split
 ·exact Fl.same
 ·exact Fl.err
theorem Fl.body {F':Int} {f f':T->RS->Out}:∀ (l:List T) (r:RS),(∀ t∈l,∀ r',Fl F' r'.n (f t r') (f' t r'))->Fl F' r.n (bodyO f l r) (bodyO f' l r)
 | [],r,_=>Fl.same
 | t::ts,r,h=>by
  rw [bodyO,bodyO]
  exact (h t (List.mem_cons_self ..) r).bind fun r1 _=>Fl.body ts r1 fun u hu r'=>h u (List.mem_cons_of_mem _ hu) r'
theorem Fl.loop {F F':Int} {f f':T->RS->Out} {entry test:T} {l1 l2:List T} (h1:∀ t∈l1,∀ r',Fl F' r'.n (f t r') (f' t r')) (h2:∀ t∈l2,∀ r',Fl F' r'.n (f t r') (f' t r')):∀ (m:Nat) (r:RS),Fl F' r.n (loopO F f entry test l1 l2 m r) (loopO F' f' entry test l1 l2 m r)
 | 0,r=>Fl.gas
 | m+1,r=>by
  rw [loopO,loopO]
  refine (Fl.body l1 r h1).bind fun r1 _=>Fl.holds fun b r2 _=>?_
  split
  ·exact Fl.same
  ·exact (Fl.body l2 r2 h2).bind fun r3 _=>Fl.assert.bind fun r4 _=>Fl.loop h1 h2 m r4
theorem rejN_zero {l:List T} (h:rejN l=0):∀ x∈l,rejE x=0:=by
 intro x hx
 unfold rejN at h
 have:=List.filter_eq_nil_iff.1 (List.length_eq_zero_iff.1 h) x hx
 simpa using this
theorem okB_parts {p:PG} (h:okB p=true):validB p=true/\chkN p=0/\rjT p=0:=by
 unfold okB at h
 simp only [Bool.and_eq_true,decide_eq_true_eq] at h
 exact ⟨h.1.1,h.1.2,h.2⟩
section
variable {vs:List VD} {s:SS} {r':RS} {e:List Nat}
theorem start_inv (hv:vs.length<=1000) (h0:fitB vs s=true) (hf:∀ v∈vs,FldV v) (hI:s.I):RInv ⟨newS vs s,0,e⟩/\NdS (newS vs s):=by
 have hw:=newS_WF h0 hf hI.1 hI.2.1 hI.2.2 vs.length (Nat.le_refl _)
 rw [List.take_of_length_le (Nat.le_refl _)] at hw
 refine ⟨⟨hw,⟨by show vs.length<=1000+0; omega,fun f hf=>by cases hf⟩,Nat.zero_le _⟩,⟨List.nodup_range,fun f hf=>by cases hf⟩⟩
end
theorem SV.nums {s:SS} {w:World} {S:Nat->Prop} {v:Value} (h:SV w S s v):s.I:=by
 obtain ⟨A,c,B,d,D,e,-,hr,hi,ho,-⟩:=h
 have key:∀ {A:Option Addr} {xs:List Int},RowI w S A xs->∀ x∈xs,I64 x:=fun hr x hx=>by
  obtain ⟨i,hi,rfl⟩:=List.getElem_of_mem hx
  obtain ⟨_,_,_,_,h⟩:=hr i hi
  exact h
 refine ⟨fun l hl=>?_,key hi,key ho⟩
 obtain ⟨i,hi,rfl⟩:=List.getElem_of_mem hl
 obtain ⟨_,_,_,_,_,_,_,h⟩:=hr i hi
 exact key h
def oneP (vs:List VD) (t:T):PG:=⟨vs,[],.nd 57 0 ⟨#[]⟩ [t]⟩
theorem oneP_rej {vs:List VD} {t:T} (h:okB (oneP vs t)=true):rejE t=0:=by
 obtain ⟨-,-,hr⟩:=okB_parts h
 unfold rjT at hr
 have h0:rejN (po (.nd 57 0 ⟨#[]⟩ [t]))=0:=by
  have:(oneP vs t).m=.nd 57 0 ⟨#[]⟩ [t]:=rfl
  rw [this] at hr
  omega
 refine rejN_zero h0 t ?_
 simp only [po,pos,List.mem_cons,List.append_nil]
 right
 obtain ⟨k,n,s,ks⟩:=t
 simp [po]
theorem undoes_law {vs:List VD} {s:SS} {t:T} (back:Bool) (hl:vs.length<=1000) (h0:fitB vs s=true) (hf:∀ v∈vs,FldV v) (hI:s.I) (hok:okB (oneP vs t)=true) :
  ((if back=true then undoE (newS vs s) t else doE (newS vs s) t).1≠0->(if back=true then undoE (newS vs s) t else doE (newS vs s) t).2.state=s) /\
  ((if back=true then undoE (newS vs s) t else doE (newS vs s) t).1=0->(if back=true then doE (undoE (newS vs s) t).2 t else undoE (doE (newS vs s) t).2 t)=(0,newS vs s)):=by
 obtain ⟨hi,hn⟩:=start_inv (e:=[]) hl h0 hf hI
 have hnd:(newS vs s).cur.cs.Nodup:=List.nodup_range
 have hr:=oneP_rej hok
 cases back
 ·refine ⟨fun h=>?_,fun h=>doE_undo hi.wf hnd hr h⟩
  rw [show (if false=true then undoE (newS vs s) t else doE (newS vs s) t)=doE (newS vs s) t from rfl] at h ⊢
  rw [doE_no _ _ h,newS_state h0]
 ·refine ⟨fun h=>?_,fun h=>undoE_do hi.wf hnd hr h⟩
  rw [show (if true=true then undoE (newS vs s) t else doE (newS vs s) t)=undoE (newS vs s) t from rfl] at h ⊢
  rw [undoE_no _ _ h,newS_state h0]
theorem lvariable_any (s:ByteArray) (w:World):Calls Tryz.prog 45 #[.string s] w fun e w'=>e=.returned (nv 2 0 s none 0 0)/\Below w.heap.size w w':=by
 have hb:∀ w,(Instr.build 29 #[(0,.int .u8 2),(2,.string s)]).run Tryz.prog w=.ok (nv 2 0 s none 0 0) w:=fun w=>by kernel_rfl
 go_enter Tryz.func45,Tryz.ntmps45
 go_wp2_with fail
 exact bodyPost_ret (v:=nv 2 0 s none 0 0) (by simp [results,Tryz.results45,go_sem]) rfl ⟨rfl,bl_al (Below.refl _ _) _⟩
theorem lnumber_any (n:Int) (w:World):Calls Tryz.prog 44 #[.int .i64 n] w fun e w'=>e=.returned (nv 1 n ⟨#[]⟩ none 0 0)/\Below w.heap.size w w':=by
 have hb:∀ w,(Instr.build 29 #[(0,.int .u8 1),(1,.int .i64 n)]).run Tryz.prog w=.ok (nv 1 n ⟨#[]⟩ none 0 0) w:=fun w=>by kernel_rfl
 go_enter Tryz.func44,Tryz.ntmps44
 go_wp2_with fail
 exact bodyPost_ret (v:=nv 1 n ⟨#[]⟩ none 0 0) (by simp [results,Tryz.results44,go_sem]) rfl ⟨rfl,bl_al (Below.refl _ _) _⟩
theorem aitem_any (n:Int) (hn:I64 n) (w:World):Calls Tryz.prog 43 #[.int .i64 n] w fun e w'=>∃ A,e=.returned (nv 3 0 ⟨#[97]⟩ A 1 1)/\NV w' Any (.nd 3 0 ⟨#[97]⟩ [.nd 1 n ⟨#[]⟩ []]) (nv 3 0 ⟨#[97]⟩ A 1 1)/\Below w.heap.size w w':=by
 have hb:∀ A w,(Instr.build 29 #[(0,.int .u8 3),(2,.string ⟨#[97]⟩),(3,.slice A 1 1)]).run Tryz.prog w=.ok (nv 3 0 ⟨#[97]⟩ A 1 1) w:=fun A w=>by kernel_rfl
 have hb1:∀ w,(Instr.buildSlice 27 1 #[(0,nv 1 n ⟨#[]⟩ none 0 0)]).run Tryz.prog w=.ok (.slice (some ⟨w.heap.size,0,none⟩) 1 1) (w.alloc (.cells #[.int .u8 1,.int .i64 n,.string ⟨#[]⟩,.slice none 0 0] 29)):=fun w=>by kernel_rfl
 go_enter Tryz.func43,Tryz.ntmps43
 go_wp2_with fail
 refine (lnumber_any n _).mono ?_
 rintro e w1 ⟨rfl,bw1⟩
 have hk:=blk_bl (heap_alloc_new w (.cells #[.int .u8 0,.int .i64 0,.string ⟨#[]⟩,.slice none 0 0] 29)) bw1
 have q1:=bl_tt (bl_al (Below.refl _ _) _) bw1
 have hka:=fun o=>blk_al hk o
 have c0:∀ o,(w1.alloc o).cell? ⟨w.heap.size,0,none⟩=some (.int .u8 0):=fun o=>zc (hka o) rfl
 have c1:∀ o,(w1.alloc o).cell? ⟨w.heap.size,1,none⟩=some (.int .i64 0):=fun o=>zc (hka o) rfl
 have c2:∀ o,(w1.alloc o).cell? ⟨w.heap.size,2,none⟩=some (.string ⟨#[]⟩):=fun o=>zc (hka o) rfl
 have c3:∀ o,(w1.alloc o).cell? ⟨w.heap.size,3,none⟩=some (.slice none 0 0):=fun o=>zc (hka o) rfl
 have cf:∀ o j,(w1.alloc o).frozen? ⟨w.heap.size,j,none⟩=false:=fun o j=>zf (hka o)
 clear hka
 go_wp2_with fail
 have hnv:=NV_one w1 29 (S:=fun b=>b=w1.heap.size) rfl (k:=3) (n:=0) (s:=⟨#[97]⟩) ⟨⟨by omega,by omega⟩,⟨by omega,by omega⟩,by decide⟩ (NV_leaf w1 _ (k:=1) (n:=n) (s:=⟨#[]⟩) ⟨⟨by omega,by omega⟩,hn,by decide⟩)
 have hsz:=blk_lt hk
 obtain ⟨W2,hW2⟩:∃ W2,w1.alloc (.cells #[.int .u8 1,.int .i64 n,.string ⟨#[]⟩,.slice none 0 0] 29)=W2:=⟨_,rfl⟩
 have hk2:W2.heap[w.heap.size]?=_:=hW2▸blk_al hk _
 have q2:Below w.heap.size w W2:=hW2▸bl_al q1 _
 rw [hW2] at hnv ⊢
 have hc6:Chg (fun b=>b=w.heap.size) W2 ((((W2.setCell ⟨w.heap.size,0,none⟩ (.int .u8 3)).setCell ⟨w.heap.size,1,none⟩ (.int .i64 0)).setCell ⟨w.heap.size,2,none⟩ (.string ⟨#[97]⟩)).setCell ⟨w.heap.size,3,none⟩ (.slice (some ⟨w1.heap.size,0,none⟩) 1 1)) :=
  ((((Chg.refl (fun b=>b=w.heap.size) W2).setCell (p:=⟨w.heap.size,0,none⟩) (.inl rfl) _).setCell (p:=⟨w.heap.size,1,none⟩) (.inl rfl) _).setCell (p:=⟨w.heap.size,2,none⟩) (.inl rfl) _).setCell (p:=⟨w.heap.size,3,none⟩) (.inl rfl) _
 have hh6:=heap_setCell_same _ w.heap.size 3 _ _ (.slice (some ⟨w1.heap.size,0,none⟩) 1 1) (heap_setCell_same _ w.heap.size 2 _ _ (.string ⟨#[97]⟩) (heap_setCell_same _ w.heap.size 1 _ _ (.int .i64 0) (heap_setCell_same W2 w.heap.size 0 _ _ (.int .u8 3) hk2)))
 obtain ⟨w6,hw6⟩:∃ w6,(((W2.setCell ⟨w.heap.size,0,none⟩ (.int .u8 3)).setCell ⟨w.heap.size,1,none⟩ (.int .i64 0)).setCell ⟨w.heap.size,2,none⟩ (.string ⟨#[97]⟩)).setCell ⟨w.heap.size,3,none⟩ (.slice (some ⟨w1.heap.size,0,none⟩) 1 1)=w6:=⟨_,rfl⟩
 rw [hw6] at hc6 hh6 ⊢
 obtain ⟨r0,r1,r2,r3⟩:=box4 (u0:=.int .u8 3) (u1:=.int .i64 0) (u2:=.string ⟨#[97]⟩) (u3:=.slice (some ⟨w1.heap.size,0,none⟩) 1 1) hh6
 refine bodyPost_ret (v:=nv 3 0 ⟨#[97]⟩ (some ⟨w1.heap.size,0,none⟩) 1 1) (by simp [results,Tryz.results43,go_sem,r0,r1,r2,r3]) rfl ⟨_,rfl,?_,?_⟩
 ·exact hnv.keep (fun _ _ _=>trivial) fun b hb hlt=>hc6.block b hlt fun e=>by omega
 ·exact q2.trans (hc6.below q2.size fun b hb=>by omega)
def vsA:List VD:=[⟨⟨#[120]⟩,1,0⟩,⟨⟨#[97]⟩,2,2⟩,⟨⟨#[115]⟩,3,0⟩]
def ssA:SS:=⟨[[3],[5,6],[]],[],[]⟩
def tA1:T:=.nd 41 0 ⟨#[]⟩ [.nd 3 0 ⟨#[97]⟩ [.nd 1 1 ⟨#[]⟩ []],.nd 2 0 ⟨#[120]⟩ []]
def tA2:T:=.nd 44 0 ⟨#[115]⟩ [.nd 2 0 ⟨#[120]⟩ []]
def tA3:T:=.nd 45 0 ⟨#[115]⟩ [.nd 3 0 ⟨#[97]⟩ [.nd 1 0 ⟨#[]⟩ []]]
def sA1:ST:=(doE (newS vsA ssA) tA1).2
def sA2:ST:=(doE sA1 tA2).2
def sA3:ST:=(doE sA2 tA3).2
theorem eA0:fitB vsA ssA=true:=by decide +kernel
theorem eA1:(doE (newS vsA ssA) tA1).1=0:=by decide +kernel
theorem eA2:(doE sA1 tA2).1=0:=by decide +kernel
theorem eA3:(doE sA2 tA3).1=14:=by decide +kernel
theorem eA4:eqS sA3.state ⟨[[0],[5,3],[3]],[],[]⟩=true:=by decide +kernel
theorem awake_any (w:World):Calls Tryz.prog 13 #[] w fun e w'=>e=.returned (.bool true)/\Below w.heap.size w w':=by
 have h1:=bV2
 have h2:=bV3
 have h3:=bSV3
 have h4:=bI2
 have h5:=buildI1
 have h6:=bII3
 have h7:=bS1
 go_enter Tryz.func13,Tryz.ntmps13
 go_wp2_with fail
 obtain ⟨w1,hw1⟩:∃ w1,w.alloc (.cells #[.string ⟨#[120]⟩,.int .u8 1,.int .i64 0,.string ⟨#[97]⟩,.int .u8 2,.int .i64 2,.string ⟨#[115]⟩,.int .u8 3,.int .i64 0] 83)=w1:=⟨_,rfl⟩
 obtain ⟨w2,hw2⟩:∃ w2,w1.alloc (.cells #[.int .i64 3] 3)=w2:=⟨_,rfl⟩
 obtain ⟨w3,hw3⟩:∃ w3,w2.alloc (.cells #[.int .i64 5,.int .i64 6] 3)=w3:=⟨_,rfl⟩
 obtain ⟨w4,hw4⟩:∃ w4,w3.alloc (.cells #[.slice (some ⟨w.heap.size+1,0,none⟩) 1 1,.slice (some ⟨w.heap.size+1+1,0,none⟩) 2 2,.slice none 0 0] 24)=w4:=⟨_,rfl⟩
 rw [hw1,hw2,hw3,hw4]
 have b1:Below w.heap.size w w1:=hw1▸bl_al (Below.refl _ _) _
 have b2:Below w1.heap.size w1 w2:=hw2▸bl_al (Below.refl _ _) _
 have b3:Below w2.heap.size w2 w3:=hw3▸bl_al (Below.refl _ _) _
 have b4:Below w3.heap.size w3 w4:=hw4▸bl_al (Below.refl _ _) _
 have z1:w1.heap.size=w.heap.size+1:=by rw [<-hw1]; simp
 have z2:w2.heap.size=w.heap.size+1+1:=by rw [<-hw2]; simp [z1]
 have z3:w3.heap.size=w.heap.size+1+1+1:=by rw [<-hw3]; simp [z2]
 have k1:w1.heap[w.heap.size]?=some (.cells (flatV vsA).toArray 83 (0,0)):=hw1▸heap_alloc_new w _
 have k2:w2.heap[w.heap.size+1]?=some (.cells (flatI [3]).toArray 3 (0,0)):=by rw [<-z1,<-hw2]; exact heap_alloc_new w1 _
 have k3:w3.heap[w.heap.size+1+1]?=some (.cells (flatI [5,6]).toArray 3 (0,0)):=by rw [<-z2,<-hw3]; exact heap_alloc_new w2 _
 have k4:w4.heap[w.heap.size+1+1+1]?=some (.cells #[.slice (some ⟨w.heap.size+1,0,none⟩) 1 1,.slice (some ⟨w.heap.size+1+1,0,none⟩) 2 2,.slice none 0 0] 24 (0,0)):=by rw [<-z3,<-hw4]; exact heap_alloc_new w3 _
 have hV:RowV w4 Any (some ⟨w.heap.size,0,none⟩) vsA:=rowV_blk (blk_bl (blk_bl (blk_bl k1 b2) b3) b4) (by
  intro v hv
  simp only [vsA,List.mem_cons,List.not_mem_nil,or_false] at hv
  rcases hv with rfl|rfl|rfl<;>exact ⟨by decide,⟨by decide,by decide⟩,by decide,by decide⟩)
 have hSV:SV w4 Any ssA (.agg #[.slice (some ⟨w.heap.size+1+1+1,0,none⟩) 3 3,.slice none 0 0,.slice none 0 0]) :=
  ⟨_,3,none,0,none,0,rfl,rowII3 (l1:=[3]) (l2:=[5,6]) (l3:=[]) k4 (rowI_blk (blk_bl (blk_bl k2 b3) b4) (by intro x hx; simp at hx; subst hx; exact ⟨by decide,by decide⟩)) (rowI_blk (blk_bl k3 b4) (by intro x hx; simp at hx; rcases hx with rfl|rfl<;>exact ⟨by decide,by decide⟩)) (fun i hi=>by simp at hi) (by simp) (by simp) (by simp),
   fun i hi=>by simp [ssA] at hi,fun i hi=>by simp [ssA] at hi,by decide,by decide,by decide,by decide,by intro l hl; simp only [ssA,List.mem_cons,List.not_mem_nil,or_false] at hl; rcases hl with rfl|rfl|rfl<;>decide,by decide,by decide⟩
 have HB4:=zh (bl_tt (bl_tt (bl_tt b1 b2) b3) b4)
 have HNW:=zh (New_any vsA ssA (some ⟨w.heap.size,0,none⟩) 3 _ w4 hV (by decide) hSV)
 clear hw1 hw2 hw3 hw4 b1 b2 b3 b4 z1 z2 z3 k1 k2 k3 k4 hV hSV h1 h2 h3 h6 h7
 refine HNW.out.mono ?_
 rintro e w5 ⟨bw5,hh⟩
 rcases hh with ⟨hno,-⟩|⟨-,P,rfl,hsr⟩
 ·rw [eA0] at hno; cases hno
 ·have HS0:=zh hsr
  have HB5:=zh (bl_tt HB4.out bw5)
  have HB5W:=zh bw5.size
  clear hsr bw5
  have h8:=buildS2
  have h9:=buildOp
  have h10:=bN4
  have h11:=bSN1
  go_wp2_with fail
  refine (aitem_any 1 ⟨by decide,by decide⟩ w5).mono ?_
  rintro e w6 ⟨A6,rfl,hn6,bw6⟩
  have HN6:=zh hn6
  have HB6:=zh bw6
  clear hn6 bw6
  go_wp2_with fail
  refine (lvariable_any ⟨#[120]⟩ w6).mono ?_
  rintro e w7 ⟨rfl,bw7⟩
  have HB7:=zh bw7
  have HDO:=zh (Do_any (HS0.out.later (bl_al (bl_tt HB6.out bw7) (.cells #[.int .u8 3,.int .i64 0,.string ⟨#[97]⟩,.slice A6 1 1,.int .u8 2,.int .i64 0,.string ⟨#[120]⟩,.slice none 0 0] 29))) tA1 _ (NV_two w7 29 (S:=Any) trivial (k:=41) (n:=0) (s:=⟨#[]⟩) ⟨⟨by omega,by omega⟩,⟨by omega,by omega⟩,by decide⟩ (HN6.out.later bw7) (NV_leaf w7 Any (k:=2) (n:=0) (s:=⟨#[120]⟩) ⟨⟨by omega,by omega⟩,⟨by omega,by omega⟩,by decide⟩)))
  clear bw7
  go_wp2_with fail
  refine HDO.out.mono ?_
  rintro e w8 ⟨he,P1,hs1,hp1⟩
  rw [eA1] at he
  subst he
  have HS1:=zh (show SR w8 w4.heap.size P1 sA1 from hs1.sr)
  have HC1:=zh (show Below w4.heap.size w5 w8 from ((bl_al (bl_tt HB6.out HB7.out) _).mono HB5W.out).trans (hs1.st.chg.below (by have:=HB6.out.size; have:=HB7.out.size; have:=HB5W.out; simp; omega) fun b ⟨q,hq⟩=>(HS0.out.rws.lt q b hq).1))
  clear hs1 HDO HN6
  rw [<-hp1]
  clear hp1
  go_wp2_with fail
  refine (lvariable_any ⟨#[120]⟩ w8).mono ?_
  rintro e w9 ⟨rfl,bw9⟩
  have HB9:=zh bw9
  have HDO:=zh (Do_any (HS1.out.later (bl_al bw9 (.cells #[.int .u8 2,.int .i64 0,.string ⟨#[120]⟩,.slice none 0 0] 29))) tA2 _ (NV_one w9 29 (S:=Any) trivial (k:=44) (n:=0) (s:=⟨#[115]⟩) ⟨⟨by omega,by omega⟩,⟨by omega,by omega⟩,by decide⟩ (NV_leaf w9 Any (k:=2) (n:=0) (s:=⟨#[120]⟩) ⟨⟨by omega,by omega⟩,⟨by omega,by omega⟩,by decide⟩)))
  clear bw9
  go_wp2_with fail
  refine HDO.out.mono ?_
  rintro e w10 ⟨he,P2,hs2,hp2⟩
  rw [eA2] at he
  subst he
  have HS2:=zh (show SR w10 w4.heap.size P2 sA2 from hs2.sr)
  have hz8:w4.heap.size<=w8.heap.size:=by have:=HS1.out.rws.lt .sb _ rfl; omega
  have HC2:=zh (show Below w4.heap.size w8 w10 from ((bl_al HB9.out _).mono hz8).trans (hs2.st.chg.below (by have:=HB9.out.size; simp; omega) fun b ⟨q,hq⟩=>(HS1.out.rws.lt q b hq).1))
  clear hs2 HDO
  rw [<-hp2]
  clear hp2
  go_wp2_with fail
  refine (aitem_any 0 ⟨by decide,by decide⟩ w10).mono ?_
  rintro e w11 ⟨A11,rfl,hn11,bw11⟩
  have HB11:=zh bw11
  have HDO:=zh (Do_any (HS2.out.later (bl_al bw11 (.cells #[.int .u8 3,.int .i64 0,.string ⟨#[97]⟩,.slice A11 1 1] 29))) tA3 _ (NV_one w11 29 (S:=Any) trivial (k:=45) (n:=0) (s:=⟨#[115]⟩) ⟨⟨by omega,by omega⟩,⟨by omega,by omega⟩,by decide⟩ hn11))
  clear hn11 bw11
  go_wp2_with fail
  refine HDO.out.mono ?_
  rintro e w12 ⟨he,P3,hs3,hp3⟩
  rw [eA3] at he
  subst he
  have HS3:=zh (show SR w12 w4.heap.size P3 sA3 from hs3.sr)
  have hz10:w4.heap.size<=w10.heap.size:=by have:=HS2.out.rws.lt .sb _ rfl; omega
  have HC3:=zh (show Below w4.heap.size w10 w12 from ((bl_al HB11.out _).mono hz10).trans (hs3.st.chg.below (by have:=HB11.out.size; simp; omega) fun b ⟨q,hq⟩=>(HS2.out.rws.lt q b hq).1))
  clear hs3 HDO
  rw [<-hp3]
  clear hp3
  go_wp2_with fail
  refine (State_any HS3.out).mono ?_
  rintro e w13 ⟨v13,rfl,ho13,bw13⟩
  have HO13:=zh ho13
  have HB13:=zh bw13
  obtain ⟨vc,vi,vo,fc,rfl,-⟩:=ho13
  clear bw13
  have h6:=bII3
  have h7:=bS1
  go_wp2_with fail
  obtain ⟨x1,hx1⟩:∃ x,w13.alloc (.cells #[.int .i64 0] 3)=x:=⟨_,rfl⟩
  obtain ⟨x2,hx2⟩:∃ x,x1.alloc (.cells #[.int .i64 5,.int .i64 3] 3)=x:=⟨_,rfl⟩
  obtain ⟨x3,hx3⟩:∃ x,x2.alloc (.cells #[.int .i64 3] 3)=x:=⟨_,rfl⟩
  obtain ⟨x4,hx4⟩:∃ x,x3.alloc (.cells #[.slice (some ⟨w13.heap.size,0,none⟩) 1 1,.slice (some ⟨w13.heap.size+1,0,none⟩) 2 2,.slice (some ⟨w13.heap.size+1+1,0,none⟩) 1 1] 24)=x:=⟨_,rfl⟩
  rw [hx1,hx2,hx3,hx4]
  have d1:Below w13.heap.size w13 x1:=hx1▸bl_al (Below.refl _ _) _
  have d2:Below x1.heap.size x1 x2:=hx2▸bl_al (Below.refl _ _) _
  have d3:Below x2.heap.size x2 x3:=hx3▸bl_al (Below.refl _ _) _
  have d4:Below x3.heap.size x3 x4:=hx4▸bl_al (Below.refl _ _) _
  have z1:x1.heap.size=w13.heap.size+1:=by rw [<-hx1]; simp
  have z2:x2.heap.size=w13.heap.size+1+1:=by rw [<-hx2]; simp [z1]
  have z3:x3.heap.size=w13.heap.size+1+1+1:=by rw [<-hx3]; simp [z2]
  have k1:x1.heap[w13.heap.size]?=some (.cells (flatI [0]).toArray 3 (0,0)):=hx1▸heap_alloc_new w13 _
  have k2:x2.heap[w13.heap.size+1]?=some (.cells (flatI [5,3]).toArray 3 (0,0)):=by rw [<-z1,<-hx2]; exact heap_alloc_new x1 _
  have k3:x3.heap[w13.heap.size+1+1]?=some (.cells (flatI [3]).toArray 3 (0,0)):=by rw [<-z2,<-hx3]; exact heap_alloc_new x2 _
  have k4:x4.heap[w13.heap.size+1+1+1]?=some (.cells #[.slice (some ⟨w13.heap.size,0,none⟩) 1 1,.slice (some ⟨w13.heap.size+1,0,none⟩) 2 2,.slice (some ⟨w13.heap.size+1+1,0,none⟩) 1 1] 24 (0,0)):=by rw [<-z3,<-hx4]; exact heap_alloc_new x3 _
  have hSV:SV x4 Any ⟨[[0],[5,3],[3]],[],[]⟩ (.agg #[.slice (some ⟨w13.heap.size+1+1+1,0,none⟩) 3 3,.slice none 0 0,.slice none 0 0]) :=
   ⟨_,3,none,0,none,0,rfl,rowII3 (l1:=[0]) (l2:=[5,3]) (l3:=[3]) k4 (rowI_blk (blk_bl (blk_bl (blk_bl k1 d2) d3) d4) (by intro x hx; simp at hx; subst hx; exact ⟨by decide,by decide⟩)) (rowI_blk (blk_bl (blk_bl k2 d3) d4) (by intro x hx; simp at hx; rcases hx with rfl|rfl<;>exact ⟨by decide,by decide⟩)) (rowI_blk (blk_bl k3 d4) (by intro x hx; simp at hx; subst hx; exact ⟨by decide,by decide⟩)) (by simp) (by simp) (by simp),
    fun i hi=>by simp at hi,fun i hi=>by simp at hi,by decide,by decide,by decide,by decide,by intro l hl; simp only [List.mem_cons,List.not_mem_nil,or_false] at hl; rcases hl with rfl|rfl|rfl<;>decide,by decide,by decide⟩
  have hB4:=bl_tt (bl_tt (bl_tt d1 d2) d3) d4
  obtain ⟨hI,hLim,hL2⟩:=state_I HS3.out.wf
  have hsm:sA3.state.Sm:=⟨by rw [show sA3.state.cells.length=3 by decide +kernel]; decide,fun l hl=>by have:=hL2 l hl; omega,by have:=HS3.out.wf.tin.1; simp only [ST.state]; omega,by have:=HS3.out.wf.tout.1; simp only [ST.state]; omega⟩
  have HEQ:=zh (StEqual_any sA3.state ⟨[[0],[5,3],[3]],[],[]⟩ _ _ x4 ((HO13.out.sv hLim).later hB4) hSV hsm ⟨by decide,by intro l hl; simp only [List.mem_cons,List.not_mem_nil,or_false] at hl; rcases hl with rfl|rfl|rfl<;>decide,by decide,by decide⟩)
  rw [eA4] at HEQ
  have HX4:=zh hB4
  clear hx1 hx2 hx3 hx4 d1 d2 d3 d4 z1 z2 z3 k1 k2 k3 k4 hSV hB4 hI hLim hL2 hsm
  refine HEQ.out.mono ?_
  rintro e w14 ⟨rfl,bw14⟩
  have HB14:=zh bw14
  clear bw14
  go_wp2_with fail
  go_ret
  refine ⟨rfl,?_⟩
  have hs4:=HB4.out.size
  have hs12:w4.heap.size<=w12.heap.size:=by have:=HS3.out.rws.lt .sb _ rfl; omega
  have t12:Below w.heap.size w w12:=HB5.out.trans (((HC1.out.trans HC2.out).trans HC3.out).mono hs4)
  exact bl_tt (bl_tt (bl_tt t12 HB13.out) HX4.out) HB14.out
theorem SV.parts {w:World} {S:Nat->Prop} {s:SS} {v:Value} (h:SV w S s v):∃ A c B d D e,v=.agg #[.slice A s.cells.length c,.slice B s.tin.length d,.slice D s.tout.length e]:=by
 obtain ⟨A,c,B,d,D,e,h1,_⟩:=h
 exact ⟨A,c,B,d,D,e,h1⟩
theorem fnState:IsFn Tryz.prog 22 Tryz.f22:=⟨Tryz.func22,by kernel_rfl,by kernel_rfl⟩
theorem fnStEqual:IsFn Tryz.prog 21 Tryz.f21:=⟨Tryz.func21,by kernel_rfl,by kernel_rfl⟩
theorem eqS_refl (s:SS):eqS s s=true:=by simp [eqS]
def smlB (vs:List VD) (s:SS):Int:=if 12<vs.length\/12<s.cells.length\/60<s.tin.length\/60<s.tout.length then 0 else if s.cells.all (fun l=>decide (l.length<=60))=true then 1 else 0
theorem lsmall_any (vs:List VD) (s:SS) (A0:Option Addr) (c0:Nat) (v:Value) (w:World) (hl:vs.length<=LV) (hv:SV w Any s v):Calls Tryz.prog 14 #[.slice A0 vs.length c0,v] w fun e w'=>e=.returned (.int .i64 (smlB vs s))/\Below w.heap.size w w':=by
 obtain ⟨A,c,B,d,D,e,rfl,hr1,hr2,hr3,hc1,hc2,hc3,hl1,hl2,hl3,hl4⟩:=hv
 have hl':=LV_int hl
 obtain ⟨R,hR⟩:∃ R,smlB vs s=R:=⟨_,rfl⟩
 rw [hR]
 have HR:=zh hR
 obtain ⟨n1,hn1⟩:∃ n,vs.length=n:=⟨_,rfl⟩
 obtain ⟨n2,hn2⟩:∃ n,s.cells.length=n:=⟨_,rfl⟩
 obtain ⟨n3,hn3⟩:∃ n,s.tin.length=n:=⟨_,rfl⟩
 obtain ⟨n4,hn4⟩:∃ n,s.tout.length=n:=⟨_,rfl⟩
 have HR1:=zh (show R=if 12<n1\/12<n2\/60<n3\/60<n4 then 0 else if s.cells.all (fun l=>decide (l.length<=60))=true then 1 else 0 by rw [<-hR,smlB,hn1,hn2,hn3,hn4])
 have HROW:=zh (hr1.later (bl_al (Below.refl w.heap.size w) (.cells #[.slice A s.cells.length c,.slice B s.tin.length d,.slice D s.tout.length e] 26)))
 have HLL:=zh hl2
 have HN2:=zh hn2
 rw [hn1,hn2,hn3,hn4]
 rw [hn1] at hl'
 rw [hn2] at HROW
 rw [hn3,hn4] at HROW
 unfold LI at hl1 hl3 hl4
 rw [hn2] at hl1
 rw [hn3] at hl3
 rw [hn4] at hl4
 clear hr1 hr2 hr3 hc1 hc2 hc3 hl2 hl hR hn1 hn2 hn3 hn4
 by_cases hbig:12<n1\/12<n2\/60<n3\/60<n4
 ·have HX:=zh (show R=0 by rw [HR1.out,if_pos hbig])
  by_cases g1:12<n1
  ·have k1:(12:Int)<(n1:Int):=by omega
   clear hbig
   go_enter Tryz.func14,Tryz.ntmps14
   go_wp2_with fail
   go_ret
   exact ⟨by rw [HX.out]; rfl,bl_al (Below.refl _ _) _⟩
  ·have k1:¬ (12:Int)<(n1:Int):=by omega
   by_cases g2:12<n2
   ·have k2:(12:Int)<(n2:Int):=by omega
    clear hbig
    go_enter Tryz.func14,Tryz.ntmps14
    go_wp2_with fail
    go_ret
    exact ⟨by rw [HX.out]; rfl,bl_al (Below.refl _ _) _⟩
   ·have k2:¬ (12:Int)<(n2:Int):=by omega
    by_cases g3:60<n3
    ·have k3:(60:Int)<(n3:Int):=by omega
     clear hbig
     go_enter Tryz.func14,Tryz.ntmps14
     go_wp2_with fail
     go_ret
     exact ⟨by rw [HX.out]; rfl,bl_al (Below.refl _ _) _⟩
    ·have k3:¬ (60:Int)<(n3:Int):=by omega
     have k4:(60:Int)<(n4:Int):=by omega
     clear hbig
     go_enter Tryz.func14,Tryz.ntmps14
     go_wp2_with fail
     go_ret
     exact ⟨by rw [HX.out]; rfl,bl_al (Below.refl _ _) _⟩
 ·have HX:=zh (show R=if s.cells.all (fun l=>decide (l.length<=60))=true then 1 else 0 by rw [HR1.out,if_neg hbig])
  have k1:¬ (12:Int)<(n1:Int):=by omega
  have k2:¬ (12:Int)<(n2:Int):=by omega
  have k3:¬ (60:Int)<(n3:Int):=by omega
  have k4:¬ (60:Int)<(n4:Int):=by omega
  have hn2':n2<=12:=by omega
  clear hbig
  go_enter Tryz.func14,Tryz.ntmps14
  go_wp2_with fail
  have HB:=zh (bl_al (Below.refl w.heap.size w) (.cells #[.slice A n2 c,.slice B n3 d,.slice D n4 e] 26))
  obtain ⟨c0',c1',c2'⟩:=box3o (heap_alloc_new w (.cells #[.slice A n2 c,.slice B n3 d,.slice D n4 e] 26))
  obtain ⟨W0,hW0⟩:∃ x,w.alloc (.cells #[.slice A n2 c,.slice B n3 d,.slice D n4 e] 26)=x:=⟨_,rfl⟩
  rw [hW0] at HB c0' c1' c2' HROW ⊢
  clear hW0
  go_loopw [5] (fun i wr=>∃ j:Nat,j<=n2/\i=.int .i64 j/\wr=W0/\Hid ((s.cells.take j).all (fun l=>decide (l.length<=60))=true)) (fun i _=>n2-(intOf i).toNat)
  case atStart=>exact ⟨0,Nat.zero_le _,rfl,rfl,zh rfl⟩
  case round =>
   obtain ⟨j,hj,rfl,rfl,HJ⟩:=hrel
   by_cases hlt:j<n2
   ·have hlt':j<s.cells.length:=by rw [HN2.out]; exact hlt
    obtain ⟨a,l,A',c',rfl,Hl,y0,_,hrl⟩:=HROW.out.nd hlt'
    have hll:l.length<=LI:=by rw [<-Hl.out]; exact HLL.out _ (List.getElem_mem hlt')
    unfold LI at hll
    have hj1:(j:Int)<(n2:Int):=by omega
    have htk:s.cells.take (j+1)=s.cells.take j++[l]:=by rw [List.take_succ_eq_append_getElem hlt',Hl.out]
    by_cases hbl:60<l.length
    ·have kb:(60:Int)<(l.length:Int):=by omega
     have HF:=zh (show R=0 by
      rw [HX.out,if_neg]
      intro hall
      have:=List.all_eq_true.1 hall l (by rw [<-Hl.out]; exact List.getElem_mem hlt')
      simp at this
      omega)
     clear hrl htk hbl
     go_wp2_with fail
     go_ret
     exact ⟨by rw [HF.out]; rfl,HB.out⟩
    ·have kb:¬ (60:Int)<(l.length:Int):=by omega
     have HJ2:=zh (show (s.cells.take (j+1)).all (fun l=>decide (l.length<=60))=true by
      rw [htk,List.all_append,HJ.out]
      simp
      omega)
     clear hrl htk hbl
     go_wp2_with fail
     go_roundw
     case rel=>exact ⟨j+1,by omega,by go_num,by first|rfl|trivial,HJ2⟩
     case measure=>simp [intOf]; omega
   ·obtain rfl:j=n2:=by omega
    have hj1:¬ (j:Int)<(j:Int):=by omega
    have HF:=zh (show R=1 by
     have:=HJ.out
     rw [List.take_of_length_le (by rw [HN2.out]; exact Nat.le_refl _)] at this
     rw [HX.out,if_pos this])
    go_wp2_with fail
    go_ret
    exact ⟨by rw [HF.out]; rfl,HB.out⟩
theorem smlB_one {vs:List VD} {s:SS}:smlB vs s=0\/(smlB vs s=1/\vs.length<=12/\s.cells.length<=12/\s.tin.length<=60/\s.tout.length<=60/\∀ l∈s.cells,l.length<=60):=by
 unfold smlB
 split
 ·exact .inl rfl
 ·split
  ·rename_i h1 h2
   refine .inr ⟨rfl,by omega,by omega,by omega,by omega,fun l hl=>?_⟩
   have:=List.all_eq_true.1 h2 l hl
   simpa using this
  ·exact .inl rfl
end Go.Proofs.YtckhofdinldhpaaGreat
namespace Go.Proofs.YtckhofdinldhpaaGreat
open Go.RowKit
theorem Size_any (t:T):∀ (v:Value) (w:World),NV w Any t v ->
  Calls Tryz.prog 15 #[v] w fun e w'=>e=.returned (.int .i64 (wrap64 (size t)))/\Below w.heap.size w w':=by
 induction t using T.ind with
 | _ k n s ks ih =>
 intro v w hv
 obtain ⟨A,c,rfl,hf,hlk,hlc,hrow⟩:=hv.open_
 simp only [T.k_nd,T.n_nd,T.s_nd,T.ks_nd] at *
 have hlk':=LK_int hlk
 generalize hlen:ks.length=l at *
 have HL:=zh hlen
 clear hlen hf hv hlk
 go_enter Tryz.func15,Tryz.ntmps15
 go_wp2
 go_loopw [3,9] (fun x i wr=>∃ j:Nat,j<=l/\i=.int .i64 j/\x=.int .i64 (wrap64 (1+sizes (ks.take j)))/\Below w.heap.size w wr) (fun _ i _=>l-(intOf i).toNat)
 case atStart=>exact ⟨0,Nat.zero_le _,rfl,by simp [sizes,wrap64],(Below.refl _ _).alloc (Nat.le_refl _) _⟩
 case round =>
  obtain ⟨j,hj,rfl,rfl,hb⟩:=hrel
  by_cases hlt:j<l
  ·have hi:j<ks.length:=by rw [HL.out]; exact hlt
   obtain ⟨a,t,A',c',rfl,_,Ht,c0,c1,c2,c3,hn⟩:=(hrow.later hb).get hi
   have ih1:=zh (ih ks[j] (List.getElem_mem hi))
   rw [Ht.out] at ih1
   clear ih hrow
   go_wp2_with fail
   refine (ih1.out _ _ ?_).mono ?_
   ·exact hn.later ((Below.refl _ _).alloc (Nat.le_refl _) _)
   rintro e w1 ⟨rfl,hb1⟩
   go_wp2_with fail
   go_roundw
   case rel=>exact ⟨j+1,by omega,by go_num,by rw [wrap_add,sizes_take _ _ hi,Ht.out]; simp [Int.add_assoc],hb.trans (((Below.refl _ _).alloc hb.size _).trans (hb1.mono (by simp; have:=hb.size; omega)))⟩
   case measure=>simp [intOf]; omega
  ·go_wp2
   go_ret
   have:ks.length=j:=by have:=HL.out; omega
   exact ⟨by rw [List.take_of_length_le (by omega)]; simp [size],hb⟩
end Go.Proofs.YtckhofdinldhpaaGreat
