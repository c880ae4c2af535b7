/-
  Texts of the proof, put together without their remarks: Ie, Is, Ic, Iu, Iw, Ix, Iy, Il, Iv, Id.
-/
import Derived.Test.YtckhofdinldhpaaGreatS5
set_option linter.unusedSimpArgs false
set_option linter.unusedVariables false
set_option maxHeartbeats 8000000
set_option maxRecDepth 100000
namespace Go.Proofs.YtckhofdinldhpaaGreat
open Go Go.RowKit
section
variable {P:Program} {ops:Array Oper} {Q:Exit->Act->World->Prop} {md:Region.Mode} {S1 S2:World->Prop} {k:Nat}
theorem zqz {i j:Nat} {o o':Oper} {fuel:Nat} {listed:Array Bool} {a:Act} {w:World} (hr:Region.ready md ops listed=[i,j]) (ho:ops[i]?=some o) (ho':ops[j]?=some o')
  (h:∀ K':Act->World->Prop,Shut (∀ a w,S1 w/\S2 w->wpG P md ops Q S1 S2 k fuel (listed.setIfInBounds i true) a w->K' a w)->if Region.wanted o (yielded ops a.tmps)=true then Oper.wp P o a w K' Q else K' (a.put o.dst undef) w)
  (h':∀ K':Act->World->Prop,Shut (∀ a w,S1 w/\S2 w->wpG P md ops Q S1 S2 k fuel (listed.setIfInBounds j true) a w->K' a w)->if Region.wanted o' (yielded ops a.tmps)=true then Oper.wp P o' a w K' Q else K' (a.put o'.dst undef) w) :
  wpG P md ops Q S1 S2 k (fuel+1) listed a w:=by
 refine⟨(fun h0=>by rw[hr] at h0;cases h0),fun x hx=>?_⟩;rw[hr] at hx;simp only[List.mem_cons,List.not_mem_nil,or_false] at hx;rcases hx with rfl|rfl
 ·exact wpOp_step ho fun K' hK=>h K' fun a w hS hW=>hK a w ⟨⟨hS.1,fun _=>hS.2⟩,hW⟩
 ·exact wpOp_step ho' fun K' hK=>h' K' fun a w hS hW=>hK a w ⟨⟨hS.1,fun _=>hS.2⟩,hW⟩
end
theorem set4 {W:World} {b:Nat} {x0 x1 x2 x3 u0 u1 u2 u3:Value} {E:TypeId} (h:W.heap[b]?=some (.cells #[x0,x1,x2,x3] E (0,0))) :
  ((((W.setCell ⟨b,0,none⟩ u0).setCell ⟨b,1,none⟩ u1).setCell ⟨b,2,none⟩ u2).setCell ⟨b,3,none⟩ u3).heap[b]?=some (.cells #[u0,u1,u2,u3] E (0,0)) /\
   Chg (fun q=>q=b) W ((((W.setCell ⟨b,0,none⟩ u0).setCell ⟨b,1,none⟩ u1).setCell ⟨b,2,none⟩ u2).setCell ⟨b,3,none⟩ u3):=by
 refine⟨?_,((((Chg.refl (fun q=>q=b) W).setCell (p:=⟨b,0,none⟩) (.inl rfl) _).setCell (p:=⟨b,1,none⟩) (.inl rfl) _).setCell (p:=⟨b,2,none⟩) (.inl rfl) _).setCell (p:=⟨b,3,none⟩) (.inl rfl) _⟩;rw[heap_setCell_same _ b 3 _ _ u3 (heap_setCell_same _ b 2 _ _ u2 (heap_setCell_same _ b 1 _ _ u1 (heap_setCell_same W b 0 _ _ u0 h)))];simp
theorem zpb (t:T) (v:Value) (back:Bool) (w0 w:World) (hB0:Below w0.heap.size w0 w) (hv:NV w0 Any t v) (hk:0<t.ks.length):Calls Tryz.prog 208 #[v,.bool back] w fun e W'=>∃ v1 v2,e=.returned (.tuple #[v1,v2])/\NV w0 Any (fstT back t) v1/\NV w0 Any (lstT back t) v2/\Below w.heap.size w W':=by
 have HV:=zh hv;obtain⟨A,c,rfl,hf,hlk,hlc,hrow⟩:=hv.open_;obtain⟨m,hm⟩:∃ m,t.ks.length=m+1:=⟨t.ks.length-1,by omega⟩
 obtain⟨a,a0,a1,a2,a3,rfl,-,ha,hna⟩:=hrow 0 (by omega);obtain⟨a',b0,b1,b2,b3,e',-,hb,hnb⟩:=hrow m (by omega);injection e' with e';subst e';obtain⟨t6,qO⟩:∃ x,t.ks[0]'(by omega)=x:=⟨_,rfl⟩
 obtain⟨t7,qN⟩:∃ x,t.ks[m]'(by omega)=x:=⟨_,rfl⟩
 rw[qO] at hna;rw[qN] at hnb;have eG:=zh hna;have pF:=zh hnb;have gU:=zh (show kid t 0=t6 by simp[kid,show 0<t.ks.length by omega,qO]);have fM:=zh (show kid t (t.ks.length-1)=t7 by simp[kid,hm,show m<t.ks.length by omega,qN]);obtain⟨A6,c6,e6,-⟩:=hna.open_;obtain⟨A7,c7,e7,-⟩:=hnb.open_;simp only[nv,Value.agg.injEq,Array.mk.injEq,List.cons.injEq,and_true] at e6 e7;obtain⟨rfl,rfl,rfl,rfl⟩:=e6;obtain⟨rfl,rfl,rfl,rfl⟩:=e7;clear hna hnb qO qN;obtain⟨ha0,ha1,ha2,mr⟩:=ha;obtain⟨hb0,hb1,hb2,hb3⟩:=hb;simp only[Nat.zero_mul,Addr.add_zero'] at ha0 ha1 ha2 mr
 replace ha0:=zb hB0 ha0
 replace ha1:=zb hB0 ha1
 replace ha2:=zb hB0 ha2
 replace mr:=zb hB0 mr
 replace hb0:=zb hB0 hb0
 replace hb1:=zb hB0 hb1
 replace hb2:=zb hB0 hb2
 replace hb3:=zb hB0 hb3
 clear hB0;have hwm:IntKind.i64.wrap (m:Int)=(m:Int):=IntWalk.i64_in _ (by unfold LK at hlk;omega);have hm0:(0:Int)<=(m:Int):=by omega
 have hm1:(m:Int)<((m:Int)+1):=by omega
 have hbl:Below w.heap.size w (((w.alloc (.cells #[.int .u8 t.k,.int .i64 t.n,.string t.s,.slice (some a) (m+1) c] 29)).alloc (.cells #[.int .u8 0,.int .i64 0,.string ⟨#[]⟩,.slice none 0 0] 29)).alloc (.cells #[.int .u8 0,.int .i64 0,.string ⟨#[]⟩,.slice none 0 0] 29)):=zkd (zkd (zkd (Below.refl _ _) _) _) _;have hk0:=zkj (zkj (heap_alloc_new w (.cells #[.int .u8 t.k,.int .i64 t.n,.string t.s,.slice (some a) (m+1) c] 29)) (.cells #[.int .u8 0,.int .i64 0,.string ⟨#[]⟩,.slice none 0 0] 29)) (.cells #[.int .u8 0,.int .i64 0,.string ⟨#[]⟩,.slice none 0 0] 29);have hk4:=zkj (heap_alloc_new (w.alloc (.cells #[.int .u8 t.k,.int .i64 t.n,.string t.s,.slice (some a) (m+1) c] 29)) (.cells #[.int .u8 0,.int .i64 0,.string ⟨#[]⟩,.slice none 0 0] 29)) (.cells #[.int .u8 0,.int .i64 0,.string ⟨#[]⟩,.slice none 0 0] 29)
 have hk5:=heap_alloc_new ((w.alloc (.cells #[.int .u8 t.k,.int .i64 t.n,.string t.s,.slice (some a) (m+1) c] 29)).alloc (.cells #[.int .u8 0,.int .i64 0,.string ⟨#[]⟩,.slice none 0 0] 29)) (.cells #[.int .u8 0,.int .i64 0,.string ⟨#[]⟩,.slice none 0 0] 29);simp only[World.size_alloc] at hk4 hk5;go_enter Tryz.func208,Tryz.ntmps208;go_upto_region 1 with fail;obtain⟨w1,hw1⟩:∃ x,((w.alloc (.cells #[.int .u8 t.k,.int .i64 t.n,.string t.s,.slice (some a) (m+1) c] 29)).alloc (.cells #[.int .u8 0,.int .i64 0,.string ⟨#[]⟩,.slice none 0 0] 29)).alloc (.cells #[.int .u8 0,.int .i64 0,.string ⟨#[]⟩,.slice none 0 0] 29)=x:=⟨_,rfl⟩
 rw[hw1] at hbl hk0 hk4 hk5 ⊢;have hSS:(fun w':World=>w'.cell? ⟨w.heap.size,3,none⟩=some (.slice (some a) (m+1) c)/\(w'.cell? a=some (.int .u8 t6.k)/\w'.cell? ⟨a.block,a.off+1,none⟩=some (.int .i64 t6.n)/\w'.cell? ⟨a.block,a.off+2,none⟩=some (.string t6.s)/\w'.cell? ⟨a.block,a.off+3,none⟩=some (.slice A6 t6.ks.length c6))/\(w'.cell? (a.add (m*4))=some (.int .u8 t7.k)/\w'.cell? ⟨(a.add (m*4)).block,(a.add (m*4)).off+1,none⟩=some (.int .i64 t7.n)/\w'.cell? ⟨(a.add (m*4)).block,(a.add (m*4)).off+2,none⟩=some (.string t7.s)/\w'.cell? ⟨(a.add (m*4)).block,(a.add (m*4)).off+3,none⟩=some (.slice A7 t7.ks.length c7))) w1.drew/\(fun _:World=>True) w1.drew:=⟨⟨zc hk0 rfl,⟨zb hbl.drew ha0,zb hbl.drew ha1,zb hbl.drew ha2,zb hbl.drew mr⟩,⟨zb hbl.drew hb0,zb hbl.drew hb1,zb hbl.drew hb2,zb hbl.drew hb3⟩⟩,trivial⟩
 have dO:=zh (show w1.heap[w.heap.size+1]?=some (.cells #[.int .u8 0,.int .i64 0,.string ⟨#[]⟩,.slice none 0 0] 29 (0,0)) from hk4);have dh:=zh (show w1.heap[w.heap.size+1+1]?=some (.cells #[.int .u8 0,.int .i64 0,.string ⟨#[]⟩,.slice none 0 0] 29 (0,0)) from hk5);have af:=zh hbl;clear hw1 hbl hk0 hk4 hk5 ha0 ha1 ha2 mr hb0 hb1 hb2 hb3 hrow HV;refine wp_region_noPanic ?_
 refine zkc (fun w':World=>w'.cell? ⟨w.heap.size,3,none⟩=some (.slice (some a) (m+1) c)/\(w'.cell? a=some (.int .u8 t6.k)/\w'.cell? ⟨a.block,a.off+1,none⟩=some (.int .i64 t6.n)/\w'.cell? ⟨a.block,a.off+2,none⟩=some (.string t6.s)/\w'.cell? ⟨a.block,a.off+3,none⟩=some (.slice A6 t6.ks.length c6))/\(w'.cell? (a.add (m*4))=some (.int .u8 t7.k)/\w'.cell? ⟨(a.add (m*4)).block,(a.add (m*4)).off+1,none⟩=some (.int .i64 t7.n)/\w'.cell? ⟨(a.add (m*4)).block,(a.add (m*4)).off+2,none⟩=some (.string t7.s)/\w'.cell? ⟨(a.add (m*4)).block,(a.add (m*4)).off+3,none⟩=some (.slice A7 t7.ks.length c7))) (fun _:World=>True) 15 (by kernel_rfl) ?_;refine zT 0 hSS ?_;(try simp only[zQ]);refine zT 1 hSS ?_;(try simp only[zQ]);refine zT 2 hSS ?_;(try simp only[zQ]);refine zT 3 hSS ?_;(try simp only[zQ]);refine zT 4 hSS ?_;(try simp only[zQ]);refine zT 5 hSS ?_;(try simp only[zQ]);refine zT 6 hSS ?_
 (try simp only[zQ]);refine zT 7 hSS ?_;(try simp only[zQ]);refine zT 8 hSS ?_;(try simp only[zQ]);refine zT 9 hSS ?_;(try simp only[zQ]);refine zT 10 hSS ?_;(try simp only[zQ]);refine zT 11 hSS ?_;(try simp only[zQ]);have gL:=zh (show ∀ w',Below w1.heap.size w1 w'->(fun w':World=>w'.cell? ⟨w.heap.size,3,none⟩=some (.slice (some a) (m+1) c)/\(w'.cell? a=some (.int .u8 t6.k)/\w'.cell? ⟨a.block,a.off+1,none⟩=some (.int .i64 t6.n)/\w'.cell? ⟨a.block,a.off+2,none⟩=some (.string t6.s)/\w'.cell? ⟨a.block,a.off+3,none⟩=some (.slice A6 t6.ks.length c6))/\(w'.cell? (a.add (m*4))=some (.int .u8 t7.k)/\w'.cell? ⟨(a.add (m*4)).block,(a.add (m*4)).off+1,none⟩=some (.int .i64 t7.n)/\w'.cell? ⟨(a.add (m*4)).block,(a.add (m*4)).off+2,none⟩=some (.string t7.s)/\w'.cell? ⟨(a.add (m*4)).block,(a.add (m*4)).off+3,none⟩=some (.slice A7 t7.ks.length c7))) w' from fun w' hb=>by
  obtain⟨⟨q0,⟨q1,q2,q3,q4⟩,q5,q6,q7,q8⟩,-⟩:=hSS;exact⟨zb hb q0,⟨zb hb q1,zb hb q2,zb hb q3,zb hb q4⟩,zb hb q5,zb hb q6,zb hb q7,zb hb q8⟩)
 clear hSS;refine zqz (i:=12) (j:=13) (by kernel_rfl) rfl rfl (fun K hK=>?_) (fun K hK=>?_)
 ·skip
  (try simp only[zA,zB,zC]);go_simp;have hb2:=zkd (Below.refl w1.heap.size w1) (.cells #[.int .u8 0,.int .i64 0,.string ⟨#[]⟩,.slice none 0 0] 29);refine hK.out _ _ ⟨gL.out _ hb2.drew,trivial⟩ ?_;clear hK K;(try simp only[zQ]);refine zo 13 fun K hK=>?_;(try simp only[zA,zB,zC]);go_simp;have hb3:Below w1.heap.size w1 ((w1.alloc (.cells #[.int .u8 0,.int .i64 0,.string ⟨#[]⟩,.slice none 0 0] 29)).alloc (.cells #[.int .u8 0,.int .i64 0,.string ⟨#[]⟩,.slice none 0 0] 29)):=zkd hb2 (.cells #[.int .u8 0,.int .i64 0,.string ⟨#[]⟩,.slice none 0 0] 29);have bQ:=zkj (heap_alloc_new w1 (.cells #[.int .u8 0,.int .i64 0,.string ⟨#[]⟩,.slice none 0 0] 29)) (.cells #[.int .u8 0,.int .i64 0,.string ⟨#[]⟩,.slice none 0 0] 29);have bP:=heap_alloc_new (w1.alloc (.cells #[.int .u8 0,.int .i64 0,.string ⟨#[]⟩,.slice none 0 0] 29)) (.cells #[.int .u8 0,.int .i64 0,.string ⟨#[]⟩,.slice none 0 0] 29)
  rw[World.size_alloc] at bP;refine hK.out _ _ ⟨gL.out _ hb3.drew,trivial⟩ ?_;clear hK K;(try simp only[zQ]);obtain⟨w3,hw3⟩:∃ x,(w1.alloc (.cells #[.int .u8 0,.int .i64 0,.string ⟨#[]⟩,.slice none 0 0] 29)).alloc (.cells #[.int .u8 0,.int .i64 0,.string ⟨#[]⟩,.slice none 0 0] 29)=x:=⟨_,rfl⟩
  rw[hw3] at hb3 bQ bP ⊢;clear hw3 hb2;have HB3:=zh hb3;have c0:w3.cell? ⟨w1.heap.size,0,none⟩=some (.int .u8 0):=zc bQ rfl;have c1:w3.cell? ⟨w1.heap.size,1,none⟩=some (.int .i64 0):=zc bQ rfl;have c2:w3.cell? ⟨w1.heap.size,2,none⟩=some (.string ⟨#[]⟩):=zc bQ rfl;have c3:w3.cell? ⟨w1.heap.size,3,none⟩=some (.slice none 0 0):=zc bQ rfl;have cf:∀ o,w3.frozen? ⟨w1.heap.size,o,none⟩=false:=fun _=>zf bQ;refine zo 14 fun K hK=>?_;(try simp only[zA,zB,zC]);go_simp;obtain⟨hh,hch⟩:=set4 (u0:=(.int .u8 t6.k)) (u1:=(.int .i64 t6.n)) (u2:=(.string t6.s)) (u3:=(.slice A6 t6.ks.length c6)) bQ;obtain⟨w4,hwn⟩:∃ x,(((w3.setCell ⟨w1.heap.size,0,none⟩ (.int .u8 t6.k)).setCell ⟨w1.heap.size,1,none⟩ (.int .i64 t6.n)).setCell ⟨w1.heap.size,2,none⟩ (.string t6.s)).setCell ⟨w1.heap.size,3,none⟩ (.slice A6 t6.ks.length c6)=x:=⟨_,rfl⟩
  rw[hwn] at hh hch ⊢;have hb4:Below w1.heap.size w1 w4:=HB3.out.trans (hch.below HB3.out.size fun b e=>by omega);refine hK.out _ _ ⟨gL.out _ hb4.drew,trivial⟩ ?_;clear hK K c0 c1 c2 c3 cf hwn;(try simp only[zQ]);have ax:=zh hb4;have aP:=hch.keep bP (by omega);have c0:w4.cell? ⟨(w1.heap.size+1),0,none⟩=some (.int .u8 0):=zc aP rfl;have c1:w4.cell? ⟨(w1.heap.size+1),1,none⟩=some (.int .i64 0):=zc aP rfl;have c2:w4.cell? ⟨(w1.heap.size+1),2,none⟩=some (.string ⟨#[]⟩):=zc aP rfl;have c3:w4.cell? ⟨(w1.heap.size+1),3,none⟩=some (.slice none 0 0):=zc aP rfl;have cf:∀ o,w4.frozen? ⟨(w1.heap.size+1),o,none⟩=false:=fun _=>zf aP;refine zp 15 fun K hK=>?_;(try simp only[zA,zB,zC]);go_simp;obtain⟨iL,bL⟩:=set4 (u0:=(.int .u8 t7.k)) (u1:=(.int .i64 t7.n)) (u2:=(.string t7.s)) (u3:=(.slice A7 t7.ks.length c7)) aP
  obtain⟨w5,hwn⟩:∃ x,(((w4.setCell ⟨(w1.heap.size+1),0,none⟩ (.int .u8 t7.k)).setCell ⟨(w1.heap.size+1),1,none⟩ (.int .i64 t7.n)).setCell ⟨(w1.heap.size+1),2,none⟩ (.string t7.s)).setCell ⟨(w1.heap.size+1),3,none⟩ (.slice A7 t7.ks.length c7)=x:=⟨_,rfl⟩
  rw[hwn] at iL bL ⊢;have hb5:Below w1.heap.size w1 w5:=ax.out.trans (bL.below ax.out.size fun b e=>by omega);refine hK.out _ _ (gL.out _ hb5.drew) ?_;clear hK K c0 c1 c2 c3 cf hwn;(try simp only[zQ]);have aC:=zh (bL.keep hh (by omega));have aB:=zh iL;have aR:=zh (show Below w1.heap.size w1 w5 from hb5);clear hb3 bQ bP aP hh iL hch bL hb4 hb5 ax HB3 gL;refine zd ?_;refine NoPanic.normal ?_;have eD:=zh (zkb dO.out aR.out);have kK:=zh (zkb dh.out aR.out)
  cases back
  ·go_upto_region 4 with fail;have hS5:(fun w':World=>(w'.cell? ⟨w1.heap.size,0,none⟩=some (.int .u8 t6.k)/\w'.cell? ⟨w1.heap.size,1,none⟩=some (.int .i64 t6.n)/\w'.cell? ⟨w1.heap.size,2,none⟩=some (.string t6.s)/\w'.cell? ⟨w1.heap.size,3,none⟩=some (.slice A6 t6.ks.length c6))/\(w'.cell? ⟨(w1.heap.size+1),0,none⟩=some (.int .u8 t7.k)/\w'.cell? ⟨(w1.heap.size+1),1,none⟩=some (.int .i64 t7.n)/\w'.cell? ⟨(w1.heap.size+1),2,none⟩=some (.string t7.s)/\w'.cell? ⟨(w1.heap.size+1),3,none⟩=some (.slice A7 t7.ks.length c7))) w5.drew:=⟨⟨zc aC.out rfl,zc aC.out rfl,zc aC.out rfl,zc aC.out rfl⟩,⟨zc aB.out rfl,zc aB.out rfl,zc aB.out rfl,zc aB.out rfl⟩⟩
   refine wp_region_noPanic ?_;refine zkc (fun w':World=>(w'.cell? ⟨w1.heap.size,0,none⟩=some (.int .u8 t6.k)/\w'.cell? ⟨w1.heap.size,1,none⟩=some (.int .i64 t6.n)/\w'.cell? ⟨w1.heap.size,2,none⟩=some (.string t6.s)/\w'.cell? ⟨w1.heap.size,3,none⟩=some (.slice A6 t6.ks.length c6))/\(w'.cell? ⟨(w1.heap.size+1),0,none⟩=some (.int .u8 t7.k)/\w'.cell? ⟨(w1.heap.size+1),1,none⟩=some (.int .i64 t7.n)/\w'.cell? ⟨(w1.heap.size+1),2,none⟩=some (.string t7.s)/\w'.cell? ⟨(w1.heap.size+1),3,none⟩=some (.slice A7 t7.ks.length c7))) (fun _:World=>True) 3 (by kernel_rfl) ?_;refine zko (i:=0) (v:=?_) rfl (by kernel_rfl) (by kernel_rfl) (by kernel_rfl) (by decide) (fun _ _ _ h=>h) (Or.inl ⟨by rfl,?_⟩) ⟨hS5,trivial⟩ ?_;rotate_left 1
   ·(intro w hSw;(try dsimp only at hSw);(try simp only[zA,zC]);go_simp;(try with_reducible rfl))
   (try simp only[zQ]);refine zko (i:=1) (v:=?_) rfl (by kernel_rfl) (by kernel_rfl) (by kernel_rfl) (by decide) (fun _ _ _ h=>h) (Or.inl ⟨by rfl,?_⟩) ⟨hS5,trivial⟩ ?_;rotate_left 1
   ·(intro w hSw;(try dsimp only at hSw);(try simp only[zA,zB,zC]);go_simp;(try with_reducible rfl))
   (try simp only[zQ]);have hsz:w.heap.size+1+1<w1.heap.size:=(Array.getElem?_eq_some_iff.mp dh.out).1;have aU:=zh (af.out.trans (aR.out.mono (by omega)))
   have HC:=zh (show ∀ W':World,W'.heap[w1.heap.size]?=w5.heap[w1.heap.size]?->W'.heap[(w1.heap.size+1)]?=w5.heap[(w1.heap.size+1)]?->(fun w':World=>((w'.cell? ⟨w1.heap.size,0,none⟩=some (.int .u8 t6.k)/\w'.cell? ⟨w1.heap.size,1,none⟩=some (.int .i64 t6.n)/\w'.cell? ⟨w1.heap.size,2,none⟩=some (.string t6.s)/\w'.cell? ⟨w1.heap.size,3,none⟩=some (.slice A6 t6.ks.length c6))/\(w'.cell? ⟨(w1.heap.size+1),0,none⟩=some (.int .u8 t7.k)/\w'.cell? ⟨(w1.heap.size+1),1,none⟩=some (.int .i64 t7.n)/\w'.cell? ⟨(w1.heap.size+1),2,none⟩=some (.string t7.s)/\w'.cell? ⟨(w1.heap.size+1),3,none⟩=some (.slice A7 t7.ks.length c7)))) W'.drew from fun W' h6 h7=>⟨⟨zc (h6.trans aC.out) rfl,zc (h6.trans aC.out) rfl,zc (h6.trans aC.out) rfl,zc (h6.trans aC.out) rfl⟩,⟨zc (h7.trans aB.out) rfl,zc (h7.trans aB.out) rfl,zc (h7.trans aB.out) rfl,zc (h7.trans aB.out) rfl⟩⟩);have rW:=zh eD.out;have au:=eD.out
   have bX:=kK.out;have c0:w5.cell? ⟨(w.heap.size+1),0,none⟩=some (.int .u8 0):=zc au rfl;have c1:w5.cell? ⟨(w.heap.size+1),1,none⟩=some (.int .i64 0):=zc au rfl;have c2:w5.cell? ⟨(w.heap.size+1),2,none⟩=some (.string ⟨#[]⟩):=zc au rfl;have c3:w5.cell? ⟨(w.heap.size+1),3,none⟩=some (.slice none 0 0):=zc au rfl;have cf:∀ o,w5.frozen? ⟨(w.heap.size+1),o,none⟩=false:=fun _=>zf au;refine zo 2 fun K hK=>?_;(try simp only[zA,zB,zC]);go_simp;obtain⟨hh,hch⟩:=set4 (u0:=(.int .u8 t6.k)) (u1:=(.int .i64 t6.n)) (u2:=(.string t6.s)) (u3:=(.slice A6 t6.ks.length c6)) au;obtain⟨w6,hwn⟩:∃ x,(((w5.setCell ⟨(w.heap.size+1),0,none⟩ (.int .u8 t6.k)).setCell ⟨(w.heap.size+1),1,none⟩ (.int .i64 t6.n)).setCell ⟨(w.heap.size+1),2,none⟩ (.string t6.s)).setCell ⟨(w.heap.size+1),3,none⟩ (.slice A6 t6.ks.length c6)=x:=⟨_,rfl⟩
   rw[hwn] at hh hch ⊢;clear c0 c1 c2 c3 cf hwn;have bz:=zh (aU.out.trans (hch.below aU.out.size fun b e=>by omega));have k6:=hch.block (w1.heap.size) (Array.getElem?_eq_some_iff.mp aC.out).1 (by omega);have k7:=hch.block ((w1.heap.size+1)) (Array.getElem?_eq_some_iff.mp aB.out).1 (by omega);have ak:=hch.keep bX (by omega);refine hK.out _ _ ⟨HC.out _ k6 k7,trivial⟩ ?_;have gQ:=zh hh;have K6:=zh k6;have K7:=zh k7;have aQ:=zh hch;clear hK K k6 k7 hh hch;(try simp only[zQ]);have c0:w6.cell? ⟨(w.heap.size+1+1),0,none⟩=some (.int .u8 0):=zc ak rfl;have c1:w6.cell? ⟨(w.heap.size+1+1),1,none⟩=some (.int .i64 0):=zc ak rfl;have c2:w6.cell? ⟨(w.heap.size+1+1),2,none⟩=some (.string ⟨#[]⟩):=zc ak rfl;have c3:w6.cell? ⟨(w.heap.size+1+1),3,none⟩=some (.slice none 0 0):=zc ak rfl;have cf:∀ o,w6.frozen? ⟨(w.heap.size+1+1),o,none⟩=false:=fun _=>zf ak;refine zp 3 fun K hK=>?_
   (try simp only[zA,zB,zC]);go_simp;obtain⟨hh,hch⟩:=set4 (u0:=(.int .u8 t7.k)) (u1:=(.int .i64 t7.n)) (u2:=(.string t7.s)) (u3:=(.slice A7 t7.ks.length c7)) ak;obtain⟨w7,hwn⟩:∃ x,(((w6.setCell ⟨(w.heap.size+1+1),0,none⟩ (.int .u8 t7.k)).setCell ⟨(w.heap.size+1+1),1,none⟩ (.int .i64 t7.n)).setCell ⟨(w.heap.size+1+1),2,none⟩ (.string t7.s)).setCell ⟨(w.heap.size+1+1),3,none⟩ (.slice A7 t7.ks.length c7)=x:=⟨_,rfl⟩
   rw[hwn] at hh hch ⊢;clear c0 c1 c2 c3 cf hwn;have cz:=zh (bz.out.trans (hch.below bz.out.size fun b e=>by omega));have k6:=hch.block (w1.heap.size) (by have:=(Array.getElem?_eq_some_iff.mp aC.out).1;have:=aQ.out.size;omega) (by omega);have k7:=hch.block ((w1.heap.size+1)) (by have:=(Array.getElem?_eq_some_iff.mp aB.out).1;have:=aQ.out.size;omega) (by omega);have bZ:=zh (hch.keep gQ.out (by omega));refine hK.out _ _ (HC.out _ (k6.trans K6.out) (k7.trans K7.out)) ?_;have jT:=zh hh;clear hK K k6 k7 hh hch;(try simp only[zQ]);refine zd ?_;refine NoPanic.normal ?_;have d4:=bZ.out;have d5:=jT.out;have g0:w7.drew.cell? ⟨w.heap.size+1,0,none⟩=some (.int .u8 t6.k):=zc d4 rfl;have g1:w7.drew.cell? ⟨w.heap.size+1,1,none⟩=some (.int .i64 t6.n):=zc d4 rfl;have g2:w7.drew.cell? ⟨w.heap.size+1,2,none⟩=some (.string t6.s):=zc d4 rfl
   have g3:w7.drew.cell? ⟨w.heap.size+1,3,none⟩=some (.slice A6 t6.ks.length c6):=zc d4 rfl;have g4:w7.drew.cell? ⟨w.heap.size+1+1,0,none⟩=some (.int .u8 t7.k):=zc d5 rfl;have g5:w7.drew.cell? ⟨w.heap.size+1+1,1,none⟩=some (.int .i64 t7.n):=zc d5 rfl;have g6:w7.drew.cell? ⟨w.heap.size+1+1,2,none⟩=some (.string t7.s):=zc d5 rfl;have g7:w7.drew.cell? ⟨w.heap.size+1+1,3,none⟩=some (.slice A7 t7.ks.length c7):=zc d5 rfl;go_wp2_with fail;refine bodyPost_ret (v:=.tuple #[.agg #[.int .u8 t6.k,.int .i64 t6.n,.string t6.s,.slice A6 t6.ks.length c6],.agg #[.int .u8 t7.k,.int .i64 t7.n,.string t7.s,.slice A7 t7.ks.length c7]]) (by simp[results,Tryz.results208,go_sem,g0,g1,g2,g3,g4,g5,g6,g7]) rfl ⟨_,_,rfl,?_,?_,cz.out.drew.drew⟩
   ·simp only[fstT,lstT,if_true,if_false,Bool.false_eq_true,gU.out,fM.out];exact eG.out
   ·simp only[fstT,lstT,if_true,if_false,Bool.false_eq_true,gU.out,fM.out];exact pF.out
  ·go_upto_region 3 with fail;have hS5:(fun w':World=>(w'.cell? ⟨w1.heap.size,0,none⟩=some (.int .u8 t6.k)/\w'.cell? ⟨w1.heap.size,1,none⟩=some (.int .i64 t6.n)/\w'.cell? ⟨w1.heap.size,2,none⟩=some (.string t6.s)/\w'.cell? ⟨w1.heap.size,3,none⟩=some (.slice A6 t6.ks.length c6))/\(w'.cell? ⟨(w1.heap.size+1),0,none⟩=some (.int .u8 t7.k)/\w'.cell? ⟨(w1.heap.size+1),1,none⟩=some (.int .i64 t7.n)/\w'.cell? ⟨(w1.heap.size+1),2,none⟩=some (.string t7.s)/\w'.cell? ⟨(w1.heap.size+1),3,none⟩=some (.slice A7 t7.ks.length c7))) w5.drew:=⟨⟨zc aC.out rfl,zc aC.out rfl,zc aC.out rfl,zc aC.out rfl⟩,⟨zc aB.out rfl,zc aB.out rfl,zc aB.out rfl,zc aB.out rfl⟩⟩
   refine wp_region_noPanic ?_;refine zkc (fun w':World=>(w'.cell? ⟨w1.heap.size,0,none⟩=some (.int .u8 t6.k)/\w'.cell? ⟨w1.heap.size,1,none⟩=some (.int .i64 t6.n)/\w'.cell? ⟨w1.heap.size,2,none⟩=some (.string t6.s)/\w'.cell? ⟨w1.heap.size,3,none⟩=some (.slice A6 t6.ks.length c6))/\(w'.cell? ⟨(w1.heap.size+1),0,none⟩=some (.int .u8 t7.k)/\w'.cell? ⟨(w1.heap.size+1),1,none⟩=some (.int .i64 t7.n)/\w'.cell? ⟨(w1.heap.size+1),2,none⟩=some (.string t7.s)/\w'.cell? ⟨(w1.heap.size+1),3,none⟩=some (.slice A7 t7.ks.length c7))) (fun _:World=>True) 3 (by kernel_rfl) ?_;refine zko (i:=0) (v:=?_) rfl (by kernel_rfl) (by kernel_rfl) (by kernel_rfl) (by decide) (fun _ _ _ h=>h) (Or.inl ⟨by rfl,?_⟩) ⟨hS5,trivial⟩ ?_;rotate_left 1
   ·(intro w hSw;(try dsimp only at hSw);(try simp only[zA,zC]);go_simp;(try with_reducible rfl))
   (try simp only[zQ]);refine zko (i:=1) (v:=?_) rfl (by kernel_rfl) (by kernel_rfl) (by kernel_rfl) (by decide) (fun _ _ _ h=>h) (Or.inl ⟨by rfl,?_⟩) ⟨hS5,trivial⟩ ?_;rotate_left 1
   ·(intro w hSw;(try dsimp only at hSw);(try simp only[zA,zB,zC]);go_simp;(try with_reducible rfl))
   (try simp only[zQ]);have hsz:w.heap.size+1+1<w1.heap.size:=(Array.getElem?_eq_some_iff.mp dh.out).1;have aU:=zh (af.out.trans (aR.out.mono (by omega)))
   have HC:=zh (show ∀ W':World,W'.heap[w1.heap.size]?=w5.heap[w1.heap.size]?->W'.heap[(w1.heap.size+1)]?=w5.heap[(w1.heap.size+1)]?->(fun w':World=>((w'.cell? ⟨w1.heap.size,0,none⟩=some (.int .u8 t6.k)/\w'.cell? ⟨w1.heap.size,1,none⟩=some (.int .i64 t6.n)/\w'.cell? ⟨w1.heap.size,2,none⟩=some (.string t6.s)/\w'.cell? ⟨w1.heap.size,3,none⟩=some (.slice A6 t6.ks.length c6))/\(w'.cell? ⟨(w1.heap.size+1),0,none⟩=some (.int .u8 t7.k)/\w'.cell? ⟨(w1.heap.size+1),1,none⟩=some (.int .i64 t7.n)/\w'.cell? ⟨(w1.heap.size+1),2,none⟩=some (.string t7.s)/\w'.cell? ⟨(w1.heap.size+1),3,none⟩=some (.slice A7 t7.ks.length c7)))) W'.drew from fun W' h6 h7=>⟨⟨zc (h6.trans aC.out) rfl,zc (h6.trans aC.out) rfl,zc (h6.trans aC.out) rfl,zc (h6.trans aC.out) rfl⟩,⟨zc (h7.trans aB.out) rfl,zc (h7.trans aB.out) rfl,zc (h7.trans aB.out) rfl,zc (h7.trans aB.out) rfl⟩⟩);have rW:=zh eD.out;have au:=eD.out
   have bX:=kK.out;have c0:w5.cell? ⟨(w.heap.size+1),0,none⟩=some (.int .u8 0):=zc au rfl;have c1:w5.cell? ⟨(w.heap.size+1),1,none⟩=some (.int .i64 0):=zc au rfl;have c2:w5.cell? ⟨(w.heap.size+1),2,none⟩=some (.string ⟨#[]⟩):=zc au rfl;have c3:w5.cell? ⟨(w.heap.size+1),3,none⟩=some (.slice none 0 0):=zc au rfl;have cf:∀ o,w5.frozen? ⟨(w.heap.size+1),o,none⟩=false:=fun _=>zf au;refine zo 2 fun K hK=>?_;(try simp only[zA,zB,zC]);go_simp;obtain⟨hh,hch⟩:=set4 (u0:=(.int .u8 t7.k)) (u1:=(.int .i64 t7.n)) (u2:=(.string t7.s)) (u3:=(.slice A7 t7.ks.length c7)) au;obtain⟨w6,hwn⟩:∃ x,(((w5.setCell ⟨(w.heap.size+1),0,none⟩ (.int .u8 t7.k)).setCell ⟨(w.heap.size+1),1,none⟩ (.int .i64 t7.n)).setCell ⟨(w.heap.size+1),2,none⟩ (.string t7.s)).setCell ⟨(w.heap.size+1),3,none⟩ (.slice A7 t7.ks.length c7)=x:=⟨_,rfl⟩
   rw[hwn] at hh hch ⊢;clear c0 c1 c2 c3 cf hwn;have bz:=zh (aU.out.trans (hch.below aU.out.size fun b e=>by omega));have k6:=hch.block (w1.heap.size) (Array.getElem?_eq_some_iff.mp aC.out).1 (by omega);have k7:=hch.block ((w1.heap.size+1)) (Array.getElem?_eq_some_iff.mp aB.out).1 (by omega);have ak:=hch.keep bX (by omega);refine hK.out _ _ ⟨HC.out _ k6 k7,trivial⟩ ?_;have gQ:=zh hh;have K6:=zh k6;have K7:=zh k7;have aQ:=zh hch;clear hK K k6 k7 hh hch;(try simp only[zQ]);have c0:w6.cell? ⟨(w.heap.size+1+1),0,none⟩=some (.int .u8 0):=zc ak rfl;have c1:w6.cell? ⟨(w.heap.size+1+1),1,none⟩=some (.int .i64 0):=zc ak rfl;have c2:w6.cell? ⟨(w.heap.size+1+1),2,none⟩=some (.string ⟨#[]⟩):=zc ak rfl;have c3:w6.cell? ⟨(w.heap.size+1+1),3,none⟩=some (.slice none 0 0):=zc ak rfl;have cf:∀ o,w6.frozen? ⟨(w.heap.size+1+1),o,none⟩=false:=fun _=>zf ak;refine zp 3 fun K hK=>?_
   (try simp only[zA,zB,zC]);go_simp;obtain⟨hh,hch⟩:=set4 (u0:=(.int .u8 t6.k)) (u1:=(.int .i64 t6.n)) (u2:=(.string t6.s)) (u3:=(.slice A6 t6.ks.length c6)) ak;obtain⟨w7,hwn⟩:∃ x,(((w6.setCell ⟨(w.heap.size+1+1),0,none⟩ (.int .u8 t6.k)).setCell ⟨(w.heap.size+1+1),1,none⟩ (.int .i64 t6.n)).setCell ⟨(w.heap.size+1+1),2,none⟩ (.string t6.s)).setCell ⟨(w.heap.size+1+1),3,none⟩ (.slice A6 t6.ks.length c6)=x:=⟨_,rfl⟩
   rw[hwn] at hh hch ⊢;clear c0 c1 c2 c3 cf hwn;have cz:=zh (bz.out.trans (hch.below bz.out.size fun b e=>by omega));have k6:=hch.block (w1.heap.size) (by have:=(Array.getElem?_eq_some_iff.mp aC.out).1;have:=aQ.out.size;omega) (by omega);have k7:=hch.block ((w1.heap.size+1)) (by have:=(Array.getElem?_eq_some_iff.mp aB.out).1;have:=aQ.out.size;omega) (by omega);have bZ:=zh (hch.keep gQ.out (by omega));refine hK.out _ _ (HC.out _ (k6.trans K6.out) (k7.trans K7.out)) ?_;have jT:=zh hh;clear hK K k6 k7 hh hch;(try simp only[zQ]);refine zd ?_;refine NoPanic.normal ?_;have d4:=bZ.out;have d5:=jT.out;have g0:w7.drew.cell? ⟨w.heap.size+1,0,none⟩=some (.int .u8 t7.k):=zc d4 rfl;have g1:w7.drew.cell? ⟨w.heap.size+1,1,none⟩=some (.int .i64 t7.n):=zc d4 rfl;have g2:w7.drew.cell? ⟨w.heap.size+1,2,none⟩=some (.string t7.s):=zc d4 rfl
   have g3:w7.drew.cell? ⟨w.heap.size+1,3,none⟩=some (.slice A7 t7.ks.length c7):=zc d4 rfl;have g4:w7.drew.cell? ⟨w.heap.size+1+1,0,none⟩=some (.int .u8 t6.k):=zc d5 rfl;have g5:w7.drew.cell? ⟨w.heap.size+1+1,1,none⟩=some (.int .i64 t6.n):=zc d5 rfl;have g6:w7.drew.cell? ⟨w.heap.size+1+1,2,none⟩=some (.string t6.s):=zc d5 rfl;have g7:w7.drew.cell? ⟨w.heap.size+1+1,3,none⟩=some (.slice A6 t6.ks.length c6):=zc d5 rfl;go_wp2_with fail;refine bodyPost_ret (v:=.tuple #[.agg #[.int .u8 t7.k,.int .i64 t7.n,.string t7.s,.slice A7 t7.ks.length c7],.agg #[.int .u8 t6.k,.int .i64 t6.n,.string t6.s,.slice A6 t6.ks.length c6]]) (by simp[results,Tryz.results208,go_sem,g0,g1,g2,g3,g4,g5,g6,g7]) rfl ⟨_,_,rfl,?_,?_,cz.out.drew.drew⟩
   ·simp only[fstT,lstT,if_true,if_false,Bool.false_eq_true,fM.out,gU.out];exact pF.out
   ·simp only[fstT,lstT,if_true,if_false,Bool.false_eq_true,fM.out,gU.out];exact eG.out
 ·skip
  (try simp only[zA,zB,zC]);go_simp;have hb2:=zkd (Below.refl w1.heap.size w1) (.cells #[.int .u8 0,.int .i64 0,.string ⟨#[]⟩,.slice none 0 0] 29);refine hK.out _ _ ⟨gL.out _ hb2.drew,trivial⟩ ?_;clear hK K;(try simp only[zQ]);refine zo 12 fun K hK=>?_;(try simp only[zA,zB,zC]);go_simp;have hb3:Below w1.heap.size w1 ((w1.alloc (.cells #[.int .u8 0,.int .i64 0,.string ⟨#[]⟩,.slice none 0 0] 29)).alloc (.cells #[.int .u8 0,.int .i64 0,.string ⟨#[]⟩,.slice none 0 0] 29)):=zkd hb2 (.cells #[.int .u8 0,.int .i64 0,.string ⟨#[]⟩,.slice none 0 0] 29);have bQ:=zkj (heap_alloc_new w1 (.cells #[.int .u8 0,.int .i64 0,.string ⟨#[]⟩,.slice none 0 0] 29)) (.cells #[.int .u8 0,.int .i64 0,.string ⟨#[]⟩,.slice none 0 0] 29);have bP:=heap_alloc_new (w1.alloc (.cells #[.int .u8 0,.int .i64 0,.string ⟨#[]⟩,.slice none 0 0] 29)) (.cells #[.int .u8 0,.int .i64 0,.string ⟨#[]⟩,.slice none 0 0] 29)
  rw[World.size_alloc] at bP;refine hK.out _ _ ⟨gL.out _ hb3.drew,trivial⟩ ?_;clear hK K;(try simp only[zQ]);obtain⟨w3,hw3⟩:∃ x,(w1.alloc (.cells #[.int .u8 0,.int .i64 0,.string ⟨#[]⟩,.slice none 0 0] 29)).alloc (.cells #[.int .u8 0,.int .i64 0,.string ⟨#[]⟩,.slice none 0 0] 29)=x:=⟨_,rfl⟩
  rw[hw3] at hb3 bQ bP ⊢;clear hw3 hb2;have HB3:=zh hb3;have c0:w3.cell? ⟨(w1.heap.size+1),0,none⟩=some (.int .u8 0):=zc bP rfl;have c1:w3.cell? ⟨(w1.heap.size+1),1,none⟩=some (.int .i64 0):=zc bP rfl;have c2:w3.cell? ⟨(w1.heap.size+1),2,none⟩=some (.string ⟨#[]⟩):=zc bP rfl;have c3:w3.cell? ⟨(w1.heap.size+1),3,none⟩=some (.slice none 0 0):=zc bP rfl;have cf:∀ o,w3.frozen? ⟨(w1.heap.size+1),o,none⟩=false:=fun _=>zf bP;refine zo 14 fun K hK=>?_;(try simp only[zA,zB,zC]);go_simp;obtain⟨hh,hch⟩:=set4 (u0:=(.int .u8 t6.k)) (u1:=(.int .i64 t6.n)) (u2:=(.string t6.s)) (u3:=(.slice A6 t6.ks.length c6)) bP;obtain⟨w4,hwn⟩:∃ x,(((w3.setCell ⟨(w1.heap.size+1),0,none⟩ (.int .u8 t6.k)).setCell ⟨(w1.heap.size+1),1,none⟩ (.int .i64 t6.n)).setCell ⟨(w1.heap.size+1),2,none⟩ (.string t6.s)).setCell ⟨(w1.heap.size+1),3,none⟩ (.slice A6 t6.ks.length c6)=x:=⟨_,rfl⟩
  rw[hwn] at hh hch ⊢;have hb4:Below w1.heap.size w1 w4:=HB3.out.trans (hch.below HB3.out.size fun b e=>by omega);refine hK.out _ _ ⟨gL.out _ hb4.drew,trivial⟩ ?_;clear hK K c0 c1 c2 c3 cf hwn;(try simp only[zQ]);have ax:=zh hb4;have aP:=hch.keep bQ (by omega);have c0:w4.cell? ⟨w1.heap.size,0,none⟩=some (.int .u8 0):=zc aP rfl;have c1:w4.cell? ⟨w1.heap.size,1,none⟩=some (.int .i64 0):=zc aP rfl;have c2:w4.cell? ⟨w1.heap.size,2,none⟩=some (.string ⟨#[]⟩):=zc aP rfl;have c3:w4.cell? ⟨w1.heap.size,3,none⟩=some (.slice none 0 0):=zc aP rfl;have cf:∀ o,w4.frozen? ⟨w1.heap.size,o,none⟩=false:=fun _=>zf aP;refine zp 15 fun K hK=>?_;(try simp only[zA,zB,zC]);go_simp;obtain⟨iL,bL⟩:=set4 (u0:=(.int .u8 t7.k)) (u1:=(.int .i64 t7.n)) (u2:=(.string t7.s)) (u3:=(.slice A7 t7.ks.length c7)) aP
  obtain⟨w5,hwn⟩:∃ x,(((w4.setCell ⟨w1.heap.size,0,none⟩ (.int .u8 t7.k)).setCell ⟨w1.heap.size,1,none⟩ (.int .i64 t7.n)).setCell ⟨w1.heap.size,2,none⟩ (.string t7.s)).setCell ⟨w1.heap.size,3,none⟩ (.slice A7 t7.ks.length c7)=x:=⟨_,rfl⟩
  rw[hwn] at iL bL ⊢;have hb5:Below w1.heap.size w1 w5:=ax.out.trans (bL.below ax.out.size fun b e=>by omega);refine hK.out _ _ (gL.out _ hb5.drew) ?_;clear hK K c0 c1 c2 c3 cf hwn;(try simp only[zQ]);have aC:=zh (bL.keep hh (by omega));have aB:=zh iL;have aR:=zh (show Below w1.heap.size w1 w5 from hb5);clear hb3 bQ bP aP hh iL hch bL hb4 hb5 ax HB3 gL;refine zd ?_;refine NoPanic.normal ?_;have eD:=zh (zkb dO.out aR.out);have kK:=zh (zkb dh.out aR.out)
  cases back
  ·go_upto_region 4 with fail;have hS5:(fun w':World=>(w'.cell? ⟨(w1.heap.size+1),0,none⟩=some (.int .u8 t6.k)/\w'.cell? ⟨(w1.heap.size+1),1,none⟩=some (.int .i64 t6.n)/\w'.cell? ⟨(w1.heap.size+1),2,none⟩=some (.string t6.s)/\w'.cell? ⟨(w1.heap.size+1),3,none⟩=some (.slice A6 t6.ks.length c6))/\(w'.cell? ⟨w1.heap.size,0,none⟩=some (.int .u8 t7.k)/\w'.cell? ⟨w1.heap.size,1,none⟩=some (.int .i64 t7.n)/\w'.cell? ⟨w1.heap.size,2,none⟩=some (.string t7.s)/\w'.cell? ⟨w1.heap.size,3,none⟩=some (.slice A7 t7.ks.length c7))) w5.drew:=⟨⟨zc aC.out rfl,zc aC.out rfl,zc aC.out rfl,zc aC.out rfl⟩,⟨zc aB.out rfl,zc aB.out rfl,zc aB.out rfl,zc aB.out rfl⟩⟩
   refine wp_region_noPanic ?_;refine zkc (fun w':World=>(w'.cell? ⟨(w1.heap.size+1),0,none⟩=some (.int .u8 t6.k)/\w'.cell? ⟨(w1.heap.size+1),1,none⟩=some (.int .i64 t6.n)/\w'.cell? ⟨(w1.heap.size+1),2,none⟩=some (.string t6.s)/\w'.cell? ⟨(w1.heap.size+1),3,none⟩=some (.slice A6 t6.ks.length c6))/\(w'.cell? ⟨w1.heap.size,0,none⟩=some (.int .u8 t7.k)/\w'.cell? ⟨w1.heap.size,1,none⟩=some (.int .i64 t7.n)/\w'.cell? ⟨w1.heap.size,2,none⟩=some (.string t7.s)/\w'.cell? ⟨w1.heap.size,3,none⟩=some (.slice A7 t7.ks.length c7))) (fun _:World=>True) 3 (by kernel_rfl) ?_;refine zko (i:=0) (v:=?_) rfl (by kernel_rfl) (by kernel_rfl) (by kernel_rfl) (by decide) (fun _ _ _ h=>h) (Or.inl ⟨by rfl,?_⟩) ⟨hS5,trivial⟩ ?_;rotate_left 1
   ·(intro w hSw;(try dsimp only at hSw);(try simp only[zA,zC]);go_simp;(try with_reducible rfl))
   (try simp only[zQ]);refine zko (i:=1) (v:=?_) rfl (by kernel_rfl) (by kernel_rfl) (by kernel_rfl) (by decide) (fun _ _ _ h=>h) (Or.inl ⟨by rfl,?_⟩) ⟨hS5,trivial⟩ ?_;rotate_left 1
   ·(intro w hSw;(try dsimp only at hSw);(try simp only[zA,zB,zC]);go_simp;(try with_reducible rfl))
   (try simp only[zQ]);have hsz:w.heap.size+1+1<w1.heap.size:=(Array.getElem?_eq_some_iff.mp dh.out).1;have aU:=zh (af.out.trans (aR.out.mono (by omega)))
   have HC:=zh (show ∀ W':World,W'.heap[(w1.heap.size+1)]?=w5.heap[(w1.heap.size+1)]?->W'.heap[w1.heap.size]?=w5.heap[w1.heap.size]?->(fun w':World=>((w'.cell? ⟨(w1.heap.size+1),0,none⟩=some (.int .u8 t6.k)/\w'.cell? ⟨(w1.heap.size+1),1,none⟩=some (.int .i64 t6.n)/\w'.cell? ⟨(w1.heap.size+1),2,none⟩=some (.string t6.s)/\w'.cell? ⟨(w1.heap.size+1),3,none⟩=some (.slice A6 t6.ks.length c6))/\(w'.cell? ⟨w1.heap.size,0,none⟩=some (.int .u8 t7.k)/\w'.cell? ⟨w1.heap.size,1,none⟩=some (.int .i64 t7.n)/\w'.cell? ⟨w1.heap.size,2,none⟩=some (.string t7.s)/\w'.cell? ⟨w1.heap.size,3,none⟩=some (.slice A7 t7.ks.length c7)))) W'.drew from fun W' h6 h7=>⟨⟨zc (h6.trans aC.out) rfl,zc (h6.trans aC.out) rfl,zc (h6.trans aC.out) rfl,zc (h6.trans aC.out) rfl⟩,⟨zc (h7.trans aB.out) rfl,zc (h7.trans aB.out) rfl,zc (h7.trans aB.out) rfl,zc (h7.trans aB.out) rfl⟩⟩);have rW:=zh eD.out;have au:=eD.out
   have bX:=kK.out;have c0:w5.cell? ⟨(w.heap.size+1),0,none⟩=some (.int .u8 0):=zc au rfl;have c1:w5.cell? ⟨(w.heap.size+1),1,none⟩=some (.int .i64 0):=zc au rfl;have c2:w5.cell? ⟨(w.heap.size+1),2,none⟩=some (.string ⟨#[]⟩):=zc au rfl;have c3:w5.cell? ⟨(w.heap.size+1),3,none⟩=some (.slice none 0 0):=zc au rfl;have cf:∀ o,w5.frozen? ⟨(w.heap.size+1),o,none⟩=false:=fun _=>zf au;refine zo 2 fun K hK=>?_;(try simp only[zA,zB,zC]);go_simp;obtain⟨hh,hch⟩:=set4 (u0:=(.int .u8 t6.k)) (u1:=(.int .i64 t6.n)) (u2:=(.string t6.s)) (u3:=(.slice A6 t6.ks.length c6)) au;obtain⟨w6,hwn⟩:∃ x,(((w5.setCell ⟨(w.heap.size+1),0,none⟩ (.int .u8 t6.k)).setCell ⟨(w.heap.size+1),1,none⟩ (.int .i64 t6.n)).setCell ⟨(w.heap.size+1),2,none⟩ (.string t6.s)).setCell ⟨(w.heap.size+1),3,none⟩ (.slice A6 t6.ks.length c6)=x:=⟨_,rfl⟩
   rw[hwn] at hh hch ⊢;clear c0 c1 c2 c3 cf hwn;have bz:=zh (aU.out.trans (hch.below aU.out.size fun b e=>by omega));have k6:=hch.block ((w1.heap.size+1)) (Array.getElem?_eq_some_iff.mp aC.out).1 (by omega);have k7:=hch.block (w1.heap.size) (Array.getElem?_eq_some_iff.mp aB.out).1 (by omega);have ak:=hch.keep bX (by omega);refine hK.out _ _ ⟨HC.out _ k6 k7,trivial⟩ ?_;have gQ:=zh hh;have K6:=zh k6;have K7:=zh k7;have aQ:=zh hch;clear hK K k6 k7 hh hch;(try simp only[zQ]);have c0:w6.cell? ⟨(w.heap.size+1+1),0,none⟩=some (.int .u8 0):=zc ak rfl;have c1:w6.cell? ⟨(w.heap.size+1+1),1,none⟩=some (.int .i64 0):=zc ak rfl;have c2:w6.cell? ⟨(w.heap.size+1+1),2,none⟩=some (.string ⟨#[]⟩):=zc ak rfl;have c3:w6.cell? ⟨(w.heap.size+1+1),3,none⟩=some (.slice none 0 0):=zc ak rfl;have cf:∀ o,w6.frozen? ⟨(w.heap.size+1+1),o,none⟩=false:=fun _=>zf ak;refine zp 3 fun K hK=>?_
   (try simp only[zA,zB,zC]);go_simp;obtain⟨hh,hch⟩:=set4 (u0:=(.int .u8 t7.k)) (u1:=(.int .i64 t7.n)) (u2:=(.string t7.s)) (u3:=(.slice A7 t7.ks.length c7)) ak;obtain⟨w7,hwn⟩:∃ x,(((w6.setCell ⟨(w.heap.size+1+1),0,none⟩ (.int .u8 t7.k)).setCell ⟨(w.heap.size+1+1),1,none⟩ (.int .i64 t7.n)).setCell ⟨(w.heap.size+1+1),2,none⟩ (.string t7.s)).setCell ⟨(w.heap.size+1+1),3,none⟩ (.slice A7 t7.ks.length c7)=x:=⟨_,rfl⟩
   rw[hwn] at hh hch ⊢;clear c0 c1 c2 c3 cf hwn;have cz:=zh (bz.out.trans (hch.below bz.out.size fun b e=>by omega));have k6:=hch.block ((w1.heap.size+1)) (by have:=(Array.getElem?_eq_some_iff.mp aC.out).1;have:=aQ.out.size;omega) (by omega);have k7:=hch.block (w1.heap.size) (by have:=(Array.getElem?_eq_some_iff.mp aB.out).1;have:=aQ.out.size;omega) (by omega);have bZ:=zh (hch.keep gQ.out (by omega));refine hK.out _ _ (HC.out _ (k6.trans K6.out) (k7.trans K7.out)) ?_;have jT:=zh hh;clear hK K k6 k7 hh hch;(try simp only[zQ]);refine zd ?_;refine NoPanic.normal ?_;have d4:=bZ.out;have d5:=jT.out;have g0:w7.drew.cell? ⟨w.heap.size+1,0,none⟩=some (.int .u8 t6.k):=zc d4 rfl;have g1:w7.drew.cell? ⟨w.heap.size+1,1,none⟩=some (.int .i64 t6.n):=zc d4 rfl;have g2:w7.drew.cell? ⟨w.heap.size+1,2,none⟩=some (.string t6.s):=zc d4 rfl
   have g3:w7.drew.cell? ⟨w.heap.size+1,3,none⟩=some (.slice A6 t6.ks.length c6):=zc d4 rfl;have g4:w7.drew.cell? ⟨w.heap.size+1+1,0,none⟩=some (.int .u8 t7.k):=zc d5 rfl;have g5:w7.drew.cell? ⟨w.heap.size+1+1,1,none⟩=some (.int .i64 t7.n):=zc d5 rfl;have g6:w7.drew.cell? ⟨w.heap.size+1+1,2,none⟩=some (.string t7.s):=zc d5 rfl;have g7:w7.drew.cell? ⟨w.heap.size+1+1,3,none⟩=some (.slice A7 t7.ks.length c7):=zc d5 rfl;go_wp2_with fail;refine bodyPost_ret (v:=.tuple #[.agg #[.int .u8 t6.k,.int .i64 t6.n,.string t6.s,.slice A6 t6.ks.length c6],.agg #[.int .u8 t7.k,.int .i64 t7.n,.string t7.s,.slice A7 t7.ks.length c7]]) (by simp[results,Tryz.results208,go_sem,g0,g1,g2,g3,g4,g5,g6,g7]) rfl ⟨_,_,rfl,?_,?_,cz.out.drew.drew⟩
   ·simp only[fstT,lstT,if_true,if_false,Bool.false_eq_true,gU.out,fM.out];exact eG.out
   ·simp only[fstT,lstT,if_true,if_false,Bool.false_eq_true,gU.out,fM.out];exact pF.out
  ·go_upto_region 3 with fail;have hS5:(fun w':World=>(w'.cell? ⟨(w1.heap.size+1),0,none⟩=some (.int .u8 t6.k)/\w'.cell? ⟨(w1.heap.size+1),1,none⟩=some (.int .i64 t6.n)/\w'.cell? ⟨(w1.heap.size+1),2,none⟩=some (.string t6.s)/\w'.cell? ⟨(w1.heap.size+1),3,none⟩=some (.slice A6 t6.ks.length c6))/\(w'.cell? ⟨w1.heap.size,0,none⟩=some (.int .u8 t7.k)/\w'.cell? ⟨w1.heap.size,1,none⟩=some (.int .i64 t7.n)/\w'.cell? ⟨w1.heap.size,2,none⟩=some (.string t7.s)/\w'.cell? ⟨w1.heap.size,3,none⟩=some (.slice A7 t7.ks.length c7))) w5.drew:=⟨⟨zc aC.out rfl,zc aC.out rfl,zc aC.out rfl,zc aC.out rfl⟩,⟨zc aB.out rfl,zc aB.out rfl,zc aB.out rfl,zc aB.out rfl⟩⟩
   refine wp_region_noPanic ?_;refine zkc (fun w':World=>(w'.cell? ⟨(w1.heap.size+1),0,none⟩=some (.int .u8 t6.k)/\w'.cell? ⟨(w1.heap.size+1),1,none⟩=some (.int .i64 t6.n)/\w'.cell? ⟨(w1.heap.size+1),2,none⟩=some (.string t6.s)/\w'.cell? ⟨(w1.heap.size+1),3,none⟩=some (.slice A6 t6.ks.length c6))/\(w'.cell? ⟨w1.heap.size,0,none⟩=some (.int .u8 t7.k)/\w'.cell? ⟨w1.heap.size,1,none⟩=some (.int .i64 t7.n)/\w'.cell? ⟨w1.heap.size,2,none⟩=some (.string t7.s)/\w'.cell? ⟨w1.heap.size,3,none⟩=some (.slice A7 t7.ks.length c7))) (fun _:World=>True) 3 (by kernel_rfl) ?_;refine zko (i:=0) (v:=?_) rfl (by kernel_rfl) (by kernel_rfl) (by kernel_rfl) (by decide) (fun _ _ _ h=>h) (Or.inl ⟨by rfl,?_⟩) ⟨hS5,trivial⟩ ?_;rotate_left 1
   ·(intro w hSw;(try dsimp only at hSw);(try simp only[zA,zC]);go_simp;(try with_reducible rfl))
   (try simp only[zQ]);refine zko (i:=1) (v:=?_) rfl (by kernel_rfl) (by kernel_rfl) (by kernel_rfl) (by decide) (fun _ _ _ h=>h) (Or.inl ⟨by rfl,?_⟩) ⟨hS5,trivial⟩ ?_;rotate_left 1
   ·(intro w hSw;(try dsimp only at hSw);(try simp only[zA,zB,zC]);go_simp;(try with_reducible rfl))
   (try simp only[zQ]);have hsz:w.heap.size+1+1<w1.heap.size:=(Array.getElem?_eq_some_iff.mp dh.out).1;have aU:=zh (af.out.trans (aR.out.mono (by omega)))
   have HC:=zh (show ∀ W':World,W'.heap[(w1.heap.size+1)]?=w5.heap[(w1.heap.size+1)]?->W'.heap[w1.heap.size]?=w5.heap[w1.heap.size]?->(fun w':World=>((w'.cell? ⟨(w1.heap.size+1),0,none⟩=some (.int .u8 t6.k)/\w'.cell? ⟨(w1.heap.size+1),1,none⟩=some (.int .i64 t6.n)/\w'.cell? ⟨(w1.heap.size+1),2,none⟩=some (.string t6.s)/\w'.cell? ⟨(w1.heap.size+1),3,none⟩=some (.slice A6 t6.ks.length c6))/\(w'.cell? ⟨w1.heap.size,0,none⟩=some (.int .u8 t7.k)/\w'.cell? ⟨w1.heap.size,1,none⟩=some (.int .i64 t7.n)/\w'.cell? ⟨w1.heap.size,2,none⟩=some (.string t7.s)/\w'.cell? ⟨w1.heap.size,3,none⟩=some (.slice A7 t7.ks.length c7)))) W'.drew from fun W' h6 h7=>⟨⟨zc (h6.trans aC.out) rfl,zc (h6.trans aC.out) rfl,zc (h6.trans aC.out) rfl,zc (h6.trans aC.out) rfl⟩,⟨zc (h7.trans aB.out) rfl,zc (h7.trans aB.out) rfl,zc (h7.trans aB.out) rfl,zc (h7.trans aB.out) rfl⟩⟩);have rW:=zh eD.out;have au:=eD.out
   have bX:=kK.out;have c0:w5.cell? ⟨(w.heap.size+1),0,none⟩=some (.int .u8 0):=zc au rfl;have c1:w5.cell? ⟨(w.heap.size+1),1,none⟩=some (.int .i64 0):=zc au rfl;have c2:w5.cell? ⟨(w.heap.size+1),2,none⟩=some (.string ⟨#[]⟩):=zc au rfl;have c3:w5.cell? ⟨(w.heap.size+1),3,none⟩=some (.slice none 0 0):=zc au rfl;have cf:∀ o,w5.frozen? ⟨(w.heap.size+1),o,none⟩=false:=fun _=>zf au;refine zo 2 fun K hK=>?_;(try simp only[zA,zB,zC]);go_simp;obtain⟨hh,hch⟩:=set4 (u0:=(.int .u8 t7.k)) (u1:=(.int .i64 t7.n)) (u2:=(.string t7.s)) (u3:=(.slice A7 t7.ks.length c7)) au;obtain⟨w6,hwn⟩:∃ x,(((w5.setCell ⟨(w.heap.size+1),0,none⟩ (.int .u8 t7.k)).setCell ⟨(w.heap.size+1),1,none⟩ (.int .i64 t7.n)).setCell ⟨(w.heap.size+1),2,none⟩ (.string t7.s)).setCell ⟨(w.heap.size+1),3,none⟩ (.slice A7 t7.ks.length c7)=x:=⟨_,rfl⟩
   rw[hwn] at hh hch ⊢;clear c0 c1 c2 c3 cf hwn;have bz:=zh (aU.out.trans (hch.below aU.out.size fun b e=>by omega));have k6:=hch.block ((w1.heap.size+1)) (Array.getElem?_eq_some_iff.mp aC.out).1 (by omega);have k7:=hch.block (w1.heap.size) (Array.getElem?_eq_some_iff.mp aB.out).1 (by omega);have ak:=hch.keep bX (by omega);refine hK.out _ _ ⟨HC.out _ k6 k7,trivial⟩ ?_;have gQ:=zh hh;have K6:=zh k6;have K7:=zh k7;have aQ:=zh hch;clear hK K k6 k7 hh hch;(try simp only[zQ]);have c0:w6.cell? ⟨(w.heap.size+1+1),0,none⟩=some (.int .u8 0):=zc ak rfl;have c1:w6.cell? ⟨(w.heap.size+1+1),1,none⟩=some (.int .i64 0):=zc ak rfl;have c2:w6.cell? ⟨(w.heap.size+1+1),2,none⟩=some (.string ⟨#[]⟩):=zc ak rfl;have c3:w6.cell? ⟨(w.heap.size+1+1),3,none⟩=some (.slice none 0 0):=zc ak rfl;have cf:∀ o,w6.frozen? ⟨(w.heap.size+1+1),o,none⟩=false:=fun _=>zf ak;refine zp 3 fun K hK=>?_
   (try simp only[zA,zB,zC]);go_simp;obtain⟨hh,hch⟩:=set4 (u0:=(.int .u8 t6.k)) (u1:=(.int .i64 t6.n)) (u2:=(.string t6.s)) (u3:=(.slice A6 t6.ks.length c6)) ak;obtain⟨w7,hwn⟩:∃ x,(((w6.setCell ⟨(w.heap.size+1+1),0,none⟩ (.int .u8 t6.k)).setCell ⟨(w.heap.size+1+1),1,none⟩ (.int .i64 t6.n)).setCell ⟨(w.heap.size+1+1),2,none⟩ (.string t6.s)).setCell ⟨(w.heap.size+1+1),3,none⟩ (.slice A6 t6.ks.length c6)=x:=⟨_,rfl⟩
   rw[hwn] at hh hch ⊢;clear c0 c1 c2 c3 cf hwn;have cz:=zh (bz.out.trans (hch.below bz.out.size fun b e=>by omega));have k6:=hch.block ((w1.heap.size+1)) (by have:=(Array.getElem?_eq_some_iff.mp aC.out).1;have:=aQ.out.size;omega) (by omega);have k7:=hch.block (w1.heap.size) (by have:=(Array.getElem?_eq_some_iff.mp aB.out).1;have:=aQ.out.size;omega) (by omega);have bZ:=zh (hch.keep gQ.out (by omega));refine hK.out _ _ (HC.out _ (k6.trans K6.out) (k7.trans K7.out)) ?_;have jT:=zh hh;clear hK K k6 k7 hh hch;(try simp only[zQ]);refine zd ?_;refine NoPanic.normal ?_;have d4:=bZ.out;have d5:=jT.out;have g0:w7.drew.cell? ⟨w.heap.size+1,0,none⟩=some (.int .u8 t7.k):=zc d4 rfl;have g1:w7.drew.cell? ⟨w.heap.size+1,1,none⟩=some (.int .i64 t7.n):=zc d4 rfl;have g2:w7.drew.cell? ⟨w.heap.size+1,2,none⟩=some (.string t7.s):=zc d4 rfl
   have g3:w7.drew.cell? ⟨w.heap.size+1,3,none⟩=some (.slice A7 t7.ks.length c7):=zc d4 rfl;have g4:w7.drew.cell? ⟨w.heap.size+1+1,0,none⟩=some (.int .u8 t6.k):=zc d5 rfl;have g5:w7.drew.cell? ⟨w.heap.size+1+1,1,none⟩=some (.int .i64 t6.n):=zc d5 rfl;have g6:w7.drew.cell? ⟨w.heap.size+1+1,2,none⟩=some (.string t6.s):=zc d5 rfl;have g7:w7.drew.cell? ⟨w.heap.size+1+1,3,none⟩=some (.slice A6 t6.ks.length c6):=zc d5 rfl;go_wp2_with fail;refine bodyPost_ret (v:=.tuple #[.agg #[.int .u8 t7.k,.int .i64 t7.n,.string t7.s,.slice A7 t7.ks.length c7],.agg #[.int .u8 t6.k,.int .i64 t6.n,.string t6.s,.slice A6 t6.ks.length c6]]) (by simp[results,Tryz.results208,go_sem,g0,g1,g2,g3,g4,g5,g6,g7]) rfl ⟨_,_,rfl,?_,?_,cz.out.drew.drew⟩
   ·simp only[fstT,lstT,if_true,if_false,Bool.false_eq_true,fM.out,gU.out];exact pF.out
   ·simp only[fstT,lstT,if_true,if_false,Bool.false_eq_true,fM.out,gU.out];exact eG.out
def IStC (G:List PR->T->Prop) (g:Nat):Prop:=∀ C:RC,C.Ok->∀ (W:World) (r:RS),RI C W r->∀ (t:T) (v:Value) (back:Bool),NV C.w Any t v->G C.p.prs t->zkw C.p.prs C.F g back t r ≠ .gas ->
 Calls Tryz.prog 157 #[.pointer (some ⟨C.rb,0,none⟩),v,.bool back] W (RunP C W (zkw C.p.prs C.F g back t r))
theorem zlj {G:List PR->T->Prop} {g:Nat} (hS:IStC G g) {C:RC} (hC:C.Ok) {W:World} {r:RS} (h:RI C W r) (t:T) (v:Value) (back:Bool) (hv:NV C.w Any t v) (hG:∀ u∈t.ks,G C.p.prs u) (aI:runO C.p.prs C.F g back t r ≠ .gas) :
  Calls Tryz.prog 118 #[.pointer (some ⟨C.rb,0,none⟩),v,.bool back] W (RunP C W (runO C.p.prs C.F g back t r)):=by
 obtain⟨A,c,rfl,-,hlk,hlc,hrow⟩:=hv.open_;have aa:=zh hrow;have HS:=zh hS;have HG:=zh hG;have hb0:=zkd (Below.refl W.heap.size W) (.cells #[.int .u8 t.k,.int .i64 t.n,.string t.s,.slice A t.ks.length c] 29);obtain⟨bB,h1⟩:=h.plus hC hb0;have hz1:(W.alloc (.cells #[.int .u8 t.k,.int .i64 t.n,.string t.s,.slice A t.ks.length c] 29)).heap.size=W.heap.size+1:=by simp
 have hbx:=box4 (heap_alloc_new W (.cells #[.int .u8 t.k,.int .i64 t.n,.string t.s,.slice A t.ks.length c] 29));have aK:=zh (Kpt.of_below (n0:=C.n0) (kb:=C.kb) hb0);obtain⟨W1,hW1⟩:∃ x,W.alloc (.cells #[.int .u8 t.k,.int .i64 t.n,.string t.s,.slice A t.ks.length c] 29)=x:=⟨_,rfl⟩
 rw[hW1] at bB h1 hz1 hbx aK;obtain⟨hi,hhi⟩:∃ x,W1.heap.size=x:=⟨_,rfl⟩
 rw[hhi] at bB h1 hz1;have di:=zh bB;have H1:=zh h1;have aX:=zh hbx;have hz2:W.heap.size<hi:=by omega
 have hwn:IntKind.i64.wrap ((t.ks.length:Int)-1)=(t.ks.length:Int)-1:=IntWalk.i64_in _ (by unfold LK at hlk;omega);have hwq:∀ j:Nat,j<t.ks.length->IntKind.i64.wrap ((t.ks.length:Int)-1-(j:Int))=((t.ks.length-1-j:Nat):Int):=fun j hj=>by rw[IntWalk.i64_in _ (by unfold LK at hlk;omega)];omega
 obtain⟨o,ho⟩:∃ o,runO C.p.prs C.F g back t r=o:=⟨_,rfl⟩
 have HO:=zh (show zk2 (zkw C.p.prs C.F g back) ((blkL back t).drop 0) r=o by rw[List.drop_zero];exact ho);have pK:=zh (show o ≠ .gas from ho▸aI);have fU:(blkL back t).length=t.ks.length:=by unfold blkL;split<;>simp
 rw[ho];have dN:=zh fU;have hlk2:t.ks.length<=17592186044416:=by unfold LK at hlk;omega
 clear fU hlk;clear hv bB h1 hbx hb0 h hz1 hS hG hrow ho aI;obtain⟨x0,x1,x2,x3⟩:=aX.out;go_enter Tryz.func118,Tryz.ntmps118;go_wp2_with fail;clear x0 x1 x2 x3 hW1
 go_loopw [15] (fun i wr=>∃ (j:Nat) (r1:RS),j<=t.ks.length/\i=.int .i64 j/\Hid (RI (C.plus W.heap.size hi) wr r1)/\Hid (Kpt C.n0 (C.plus W.heap.size hi).kb W1 wr)/\Hid (zk2 (zkw C.p.prs C.F g back) ((blkL back t).drop j) r1=o)) (fun i _=>t.ks.length-(intOf i).toNat)
 case atStart=>exact⟨0,r,Nat.zero_le _,rfl,H1,zh (Kpt.refl _ _ _),HO⟩
 case round =>
  obtain⟨j,r1,hj,rfl,HR,HK,HB⟩:=hrel;by_cases hlt:j<t.ks.length
  ·cases back
   ·skip
    have hj1:(j:Int)<(t.ks.length:Int):=by omega
    have hj0:(0:Int)<=(j:Int):=by omega
    have mf:j<t.ks.length:=by omega
    have qV:(j:Int)<(t.ks.length:Int):=by omega
    have qW:(0:Int)<=(j:Int):=by omega
    have bq:=HR.out.below;obtain⟨a,u,A1,c1,rfl,-,hu,⟨p0,p1,p2,p3⟩,hnu⟩:=aa.out.nd mf;have hgu:=HG.out u (by rw[<-hu.out];exact List.getElem_mem _);have hbs:zk2 (zkw C.p.prs C.F g false) ((blkL false t).drop j) r1=(zkw C.p.prs C.F g false u r1).bind (zk2 (zkw C.p.prs C.F g false) ((blkL false t).drop (j+1))):=by
     rw[show(blkL false t).drop j=u::(blkL false t).drop (j+1) by rw[List.drop_eq_getElem_cons (by rw[dN.out];exact hlt),<-hu.out];congr 1;all_goals simp[blkL,hlt]];rfl
    rw[HB.out] at hbs;have pU:=zh hbs;have mQ:=zh (HS.out (C.plus W.heap.size hi) di.out wr r1 HR.out u _ false hnu hgu (fun e=>pK.out (by rw[hbs,show zkw C.p.prs C.F g false u r1=.gas from e];rfl)));have q0:=zb bq p0;have q1:=zb bq p1;have q2:=zb bq p2;have q3:=zb bq p3;have x3:wr.cell? ⟨W.heap.size,3,none⟩=some (.slice (some a) t.ks.length c):=HK.out.cell (.inr (.inr ⟨Nat.le_refl _,hz2⟩)) aX.out.2.2.2;clear hbs bq hnu hgu p0 p1 p2 p3 hu;go_wp2_with fail;refine mQ.out.mono ?_;rintro e w2 ⟨hk2,hb2,ho2⟩;have iy:match zkw C.p.prs C.F g false u r1 with
     | .gas=>True
     | .err x=>e=zlB x
     | .ok r=>(∃ u,e=.returned u)/\RI (C.plus W.heap.size hi) w2 r:=ho2
    have bW:=zh (HK.out.trans hk2);clear ho2 hk2 mQ q0 q1 q2 q3 x3
    cases hx:zkw C.p.prs C.F g false u r1 with
    | gas=>exact absurd (by rw[pU.out,hx];rfl) pK.out
    | err x =>
     rw[hx] at iy;subst iy;have ho3:o=.err x:=by rw[pU.out,hx];rfl
     dsimp only;refine⟨rfl,aK.out.trans (Kpt.less bW.out),hb2,?_⟩;rw[ho3]
    | ok r2 =>
     rw[hx] at iy;obtain⟨⟨u2,rfl⟩,hr2⟩:=iy;have HR2:=zh hr2;have HB2:=zh (show zk2 (zkw C.p.prs C.F g false) ((blkL false t).drop (j+1)) r2=o by rw[pU.out,hx];rfl);clear hr2 hx;go_wp2_with fail
     go_roundw
     case rel=>exact⟨j+1,r2,by omega,by go_num,HR2,bW,HB2⟩
     case measure=>simp[intOf];omega
   ·skip
    have qJ:=hwq j hlt;obtain⟨q,hq⟩:∃ q,t.ks.length-1-j=q:=⟨_,rfl⟩
    rw[hq] at qJ;have hj1:(j:Int)<(t.ks.length:Int):=by omega
    have hj0:(0:Int)<=(j:Int):=by omega
    have mf:q<t.ks.length:=by omega
    have qV:(q:Int)<(t.ks.length:Int):=by omega
    have qW:(0:Int)<=(q:Int):=by omega
    have bq:=HR.out.below;obtain⟨a,u,A1,c1,rfl,-,hu,⟨p0,p1,p2,p3⟩,hnu⟩:=aa.out.nd mf;have hgu:=HG.out u (by rw[<-hu.out];exact List.getElem_mem _);have hbs:zk2 (zkw C.p.prs C.F g true) ((blkL true t).drop j) r1=(zkw C.p.prs C.F g true u r1).bind (zk2 (zkw C.p.prs C.F g true) ((blkL true t).drop (j+1))):=by
     rw[show(blkL true t).drop j=u::(blkL true t).drop (j+1) by rw[List.drop_eq_getElem_cons (by rw[dN.out];exact hlt),<-hu.out];congr 1;all_goals simp[blkL,hq]];rfl
    rw[HB.out] at hbs;have pU:=zh hbs;have mQ:=zh (HS.out (C.plus W.heap.size hi) di.out wr r1 HR.out u _ true hnu hgu (fun e=>pK.out (by rw[hbs,show zkw C.p.prs C.F g true u r1=.gas from e];rfl)));have q0:=zb bq p0;have q1:=zb bq p1;have q2:=zb bq p2;have q3:=zb bq p3;have x3:wr.cell? ⟨W.heap.size,3,none⟩=some (.slice (some a) t.ks.length c):=HK.out.cell (.inr (.inr ⟨Nat.le_refl _,hz2⟩)) aX.out.2.2.2;clear hbs bq hnu hgu p0 p1 p2 p3 hu;go_wp2_with fail;refine mQ.out.mono ?_;rintro e w2 ⟨hk2,hb2,ho2⟩;have iy:match zkw C.p.prs C.F g true u r1 with
     | .gas=>True
     | .err x=>e=zlB x
     | .ok r=>(∃ u,e=.returned u)/\RI (C.plus W.heap.size hi) w2 r:=ho2
    have bW:=zh (HK.out.trans hk2);clear ho2 hk2 mQ q0 q1 q2 q3 x3
    cases hx:zkw C.p.prs C.F g true u r1 with
    | gas=>exact absurd (by rw[pU.out,hx];rfl) pK.out
    | err x =>
     rw[hx] at iy;subst iy;have ho3:o=.err x:=by rw[pU.out,hx];rfl
     dsimp only;refine⟨rfl,aK.out.trans (Kpt.less bW.out),hb2,?_⟩;rw[ho3]
    | ok r2 =>
     rw[hx] at iy;obtain⟨⟨u2,rfl⟩,hr2⟩:=iy;have HR2:=zh hr2;have HB2:=zh (show zk2 (zkw C.p.prs C.F g true) ((blkL true t).drop (j+1)) r2=o by rw[pU.out,hx];rfl);clear hr2 hx;go_wp2_with fail
     go_roundw
     case rel=>exact⟨j+1,r2,by omega,by go_num,HR2,bW,HB2⟩
     case measure=>simp[intOf];omega
  ·have ho3:o=.ok r1:=by
    rw[<-HB.out,show(blkL back t).drop j=[] by rw[List.drop_eq_nil_iff,dN.out];omega];rfl
   have hbr:=HR.out.below;have hj1:¬ (j:Int)<(t.ks.length:Int):=by omega
   go_wp2_with fail;go_end0;refine⟨aK.out.trans (Kpt.less HK.out),hbr,?_⟩
   try rw[ho3]
   exact⟨⟨_,rfl⟩,HR.out.less⟩
def brO (prs:List PR) (F:Int) (g:Nat) (back:Bool) (t:T) (r:RS):Out :=
 zk3 F (fstT back t) r fun yes r=>(zk2 (zkw prs F g back) (blkL back (if yes=true then kid t 1 else kid t 2)) r).bind (zkv F (lstT back t) yes)
theorem zrK {G:List PR->T->Prop} {g:Nat} (hS:IStC G g) {C:RC} (hC:C.Ok) {W:World} {r:RS} (h:RI C W r) (t:T) (v:Value) (back:Bool) (hv:NV C.w Any t v) (hk:t.ks.length=4) (hG1:∀ u∈(kid t 1).ks,G C.p.prs u) (hG2:∀ u∈(kid t 2).ks,G C.p.prs u)
  (aI:brO C.p.prs C.F g back t r ≠ .gas) :
  Calls Tryz.prog 193 #[.pointer (some ⟨C.rb,0,none⟩),v,.bool back] W (RunP C W (brO C.p.prs C.F g back t r)):=by
 obtain⟨A,c,rfl,-,hlk,hlc,hrow⟩:=hv.open_;have aa:=zh hrow;have HS:=zh hS;have HV:=zh hv;have hb0:=zkd (Below.refl W.heap.size W) (.cells #[.int .u8 t.k,.int .i64 t.n,.string t.s,.slice A t.ks.length c] 29);obtain⟨x0,x1,x2,x3⟩:=box4 (heap_alloc_new W (.cells #[.int .u8 t.k,.int .i64 t.n,.string t.s,.slice A t.ks.length c] 29));have HB0:=zh hb0;have H:=zh h;have HC:=zh hC;have HX:=zh (heap_alloc_new W (.cells #[.int .u8 t.k,.int .i64 t.n,.string t.s,.slice A t.ks.length c] 29));have dQ:=zh (fun w' (hb:Below W.heap.size W w')=>zpb t _ back C.w w' (zka h.below hb) hv (by omega));have iR:=zh hk;clear hrow hS hb0 h hv hk hC hlk;go_enter Tryz.func193,Tryz.ntmps193;go_wp2_with fail;refine(dQ.out _ HB0.out).mono ?_;rintro e w2 ⟨v1,v2,rfl,n1,n2,b2⟩;obtain⟨t1,ht1⟩:∃ x,fstT back t=x:=⟨_,rfl⟩
 obtain⟨t2,ht2⟩:∃ x,lstT back t=x:=⟨_,rfl⟩
 have HT1:=zh ht1;have HT2:=zh ht2;rw[ht1] at n1;rw[ht2] at n2;obtain⟨A1,c1,rfl,-⟩:=n1.open_;obtain⟨A2,c2,rfl,-⟩:=n2.open_;have fw:=zh n1;have aN:=zh n2;have b3:=zkd (zkd (zka HB0.out b2) (.cells #[.int .u8 t1.k,.int .i64 t1.n,.string t1.s,.slice A1 t1.ks.length c1] 29)) (.cells #[.int .u8 t2.k,.int .i64 t2.n,.string t2.s,.slice A2 t2.ks.length c2] 29);have k0:=zkj (zkj (zkb HX.out b2) (.cells #[.int .u8 t1.k,.int .i64 t1.n,.string t1.s,.slice A1 t1.ks.length c1] 29)) (.cells #[.int .u8 t2.k,.int .i64 t2.n,.string t2.s,.slice A2 t2.ks.length c2] 29);have k1:=zkj (heap_alloc_new w2 (.cells #[.int .u8 t1.k,.int .i64 t1.n,.string t1.s,.slice A1 t1.ks.length c1] 29)) (.cells #[.int .u8 t2.k,.int .i64 t2.n,.string t2.s,.slice A2 t2.ks.length c2] 29)
 have k2:=heap_alloc_new (w2.alloc (.cells #[.int .u8 t1.k,.int .i64 t1.n,.string t1.s,.slice A1 t1.ks.length c1] 29)) (.cells #[.int .u8 t2.k,.int .i64 t2.n,.string t2.s,.slice A2 t2.ks.length c2] 29);simp only[World.size_alloc] at k2;obtain⟨w3,hw3⟩:∃ x,(w2.alloc (.cells #[.int .u8 t1.k,.int .i64 t1.n,.string t1.s,.slice A1 t1.ks.length c1] 29)).alloc (.cells #[.int .u8 t2.k,.int .i64 t2.n,.string t2.s,.slice A2 t2.ks.length c2] 29)=x:=⟨_,rfl⟩
 rw[hw3] at b3 k0 k1 k2;have hz2:=zka HB0.out b2;have hzz:=hz2.size;obtain⟨fK,h3⟩:=H.out.plus HC.out b3;have bD:=zh (Kpt.of_below (n0:=C.n0) (kb:=C.kb) b3);have l0:=zkk k0;have l1:=zkk k1;have l2:=zkk k2;obtain⟨hi,hhi⟩:∃ x,w3.heap.size=x:=⟨_,rfl⟩
 rw[hhi] at fK h3 l0 l1 l2;have gz:=zh fK;have H3:=zh h3;have K0:=zh k0;have K1:=zh k1;have K2:=zh k2;have ji:=zh (zn8 fK h3 t1 _ n1);obtain⟨p1,⟨y0,y1,y2,y3⟩⟩:True/\(w3.cell? ⟨w2.heap.size,0,none⟩=some (.int .u8 t1.k)/\w3.cell? ⟨w2.heap.size,1,none⟩=some (.int .i64 t1.n)/\w3.cell? ⟨w2.heap.size,2,none⟩=some (.string t1.s)/\w3.cell? ⟨w2.heap.size,3,none⟩=some (.slice A1 t1.ks.length c1)):=⟨trivial,zc k1 rfl,zc k1 rfl,zc k1 rfl,zc k1 rfl⟩
 clear n1 n2 b2 b3 k0 k1 k2 hz2 fK h3 x0 x1 x2 x3 HX HB0 dQ p1 ht1 ht2;go_upto_region 2 with fail;clear hw3;go_wp2_with fail;refine ji.out.mono ?_;rintro e w4 ⟨hk4,hb4,gH⟩;have dO:=zh (bD.out.trans (Kpt.less (C:=C) hk4));have ax:=zh (show Below C.w.heap.size C.w w4 from hb4);clear y0 y1 y2 y3 ji;rcases gH with⟨x,rfl,hx⟩|⟨b,r1,rfl,hr1,hx⟩
 ·refine⟨rfl,dO.out,ax.out,?_⟩;rw[show brO C.p.prs C.F g back t r=.err x by unfold brO;rw[HT1.out];exact hx _]
 ·have k0:=hk4.blk (.inr (.inr ⟨by omega,l0⟩)) K0.out;have k2:=hk4.blk (.inr (.inr ⟨by omega,l2⟩)) K2.out;have HR4:=zh hr1;have xW:=zh (show brO C.p.prs C.F g back t r=(runO C.p.prs C.F g back (if b=true then kid t 1 else kid t 2) r1).bind (zkv C.F t2 b) by unfold brO;rw[HT1.out,HT2.out];exact hx _);have K4:=zh k0;have K5:=zh k2;have z3:w4.cell? ⟨W.heap.size,3,none⟩=some (.slice A t.ks.length c):=zc k0 rfl;have dP:=zh aI;clear hk4 hb4 hr1 hx k0 k2 aI
  cases b
  ·skip
   have hI:2<t.ks.length:=by have:=iR.out;omega
   have hI1:(2:Int)<(t.ks.length:Int):=by omega
   obtain⟨a,u,Au,cu,rfl,-,hu,⟨p0,p1,p2,p3⟩,hnu⟩:=aa.out.nd hI;have iA:kid t 2=u:=by unfold kid;rw[List.getD_eq_getElem?_getD,List.getElem?_eq_getElem hI];exact hu.out
   have jk:=zh (show ∀ x∈u.ks,G C.p.prs x by rw[<-iA];exact hG2);have iI:=zh (show brO C.p.prs C.F g back t r=(runO C.p.prs C.F g back u r1).bind (zkv C.F t2 false) by rw[xW.out];simp only[Bool.false_eq_true,if_false,if_true,iA]);have hgu:runO C.p.prs C.F g back u r1 ≠ .gas:=fun e=>dP.out (by rw[iI.out,e];rfl);have av:=zh (zlj HS.out gz.out HR4.out u _ back hnu jk.out hgu);have ha:a.add (2*4)=⟨a.block,a.off+8,none⟩:=by unfold Addr.add;split<;>simp_all
   rw[ha] at p0 p1 p2 p3;have q0:w4.cell? ⟨a.block,a.off+8,none⟩=some (.int .u8 u.k):=zb ax.out p0;have q1:w4.cell? ⟨a.block,a.off+8+1,none⟩=some (.int .i64 u.n):=zb ax.out p1;have q2:w4.cell? ⟨a.block,a.off+8+2,none⟩=some (.string u.s):=zb ax.out p2;have q3:w4.cell? ⟨a.block,a.off+8+3,none⟩=some (.slice Au u.ks.length cu):=zb ax.out p3;clear iA hnu hu p0 p1 p2 p3 hgu;go_wp2_with fail;refine av.out.mono ?_;rintro e w5 ⟨hk5,hb5,dB⟩;have dh:=zh (dO.out.trans (Kpt.less (C:=C) hk5));have aR:=zh (show Below C.w.heap.size C.w w5 from hb5);have dA:match runO C.p.prs C.F g back u r1 with
    | .gas=>True
    | .err x=>e=zlB x
    | .ok r=>(∃ u,e=.returned u)/\RI (C.plus W.heap.size hi) w5 r:=dB
   have k5:=hk5.blk (.inr (.inr ⟨by omega,l2⟩)) K5.out;have K6:=zh k5;clear q0 q1 q2 q3 z3 hk5 hb5 dB k5
   cases hx:runO C.p.prs C.F g back u r1 with
   | gas=>exact absurd (by rw[iI.out,hx];rfl) dP.out
   | err x =>
    rw[hx] at dA;subst dA;refine⟨rfl,dh.out,aR.out,?_⟩;rw[iI.out,hx];rfl
   | ok r2 =>
    rw[hx] at dA;obtain⟨⟨u2,rfl⟩,hr2⟩:=dA;have HAS:=zh (zmM gz.out hr2 t2 _ aN.out false);have jV:=zh (show brO C.p.prs C.F g back t r=zkv C.F t2 false r2 by rw[iI.out,hx];rfl);have q0:w5.cell? ⟨w2.heap.size+1,0,none⟩=some (.int .u8 t2.k):=zc K6.out rfl;have q1:w5.cell? ⟨w2.heap.size+1,1,none⟩=some (.int .i64 t2.n):=zc K6.out rfl;have q2:w5.cell? ⟨w2.heap.size+1,2,none⟩=some (.string t2.s):=zc K6.out rfl;have q3:w5.cell? ⟨w2.heap.size+1,3,none⟩=some (.slice A2 t2.ks.length c2):=zc K6.out rfl;clear hx hr2;go_wp2_with fail;refine HAS.out.mono ?_;rintro e w6 ⟨ay,hb6,nR⟩;have bY:=zh (dh.out.trans (Kpt.less (C:=C) ay));have bg:=zh (show Below C.w.heap.size C.w w6 from hb6);have dz:match zkv C.F t2 false r2 with
     | .gas=>True
     | .err x=>e=zlB x
     | .ok r=>(∃ u,e=.returned u)/\RI (C.plus W.heap.size hi) w6 r:=nR
    clear q0 q1 q2 q3 ay hb6 nR
    cases hy:zkv C.F t2 false r2 with
    | gas=>exact absurd (by rw[jV.out,hy]) dP.out
    | err x =>
     rw[hy] at dz;subst dz;refine⟨rfl,bY.out,bg.out,?_⟩;rw[jV.out,hy]
    | ok r3 =>
     rw[hy] at dz;obtain⟨⟨u3,rfl⟩,hr3⟩:=dz;have dY:=zh hr3.less;have uj:=zh (show brO C.p.prs C.F g back t r=.ok r3 by rw[jV.out,hy]);clear hr3 hy;go_wp2_with fail;go_end0;refine⟨bY.out,bg.out,?_⟩;rw[uj.out];exact⟨⟨_,rfl⟩,dY.out⟩
  ·skip
   have hI:1<t.ks.length:=by have:=iR.out;omega
   have hI1:(1:Int)<(t.ks.length:Int):=by omega
   obtain⟨a,u,Au,cu,rfl,-,hu,⟨p0,p1,p2,p3⟩,hnu⟩:=aa.out.nd hI;have iA:kid t 1=u:=by unfold kid;rw[List.getD_eq_getElem?_getD,List.getElem?_eq_getElem hI];exact hu.out
   have jk:=zh (show ∀ x∈u.ks,G C.p.prs x by rw[<-iA];exact hG1);have iI:=zh (show brO C.p.prs C.F g back t r=(runO C.p.prs C.F g back u r1).bind (zkv C.F t2 true) by rw[xW.out];simp only[Bool.false_eq_true,if_false,if_true,iA]);have hgu:runO C.p.prs C.F g back u r1 ≠ .gas:=fun e=>dP.out (by rw[iI.out,e];rfl);have av:=zh (zlj HS.out gz.out HR4.out u _ back hnu jk.out hgu);have ha:a.add (1*4)=⟨a.block,a.off+4,none⟩:=by unfold Addr.add;split<;>simp_all
   rw[ha] at p0 p1 p2 p3;have q0:w4.cell? ⟨a.block,a.off+4,none⟩=some (.int .u8 u.k):=zb ax.out p0;have q1:w4.cell? ⟨a.block,a.off+4+1,none⟩=some (.int .i64 u.n):=zb ax.out p1;have q2:w4.cell? ⟨a.block,a.off+4+2,none⟩=some (.string u.s):=zb ax.out p2;have q3:w4.cell? ⟨a.block,a.off+4+3,none⟩=some (.slice Au u.ks.length cu):=zb ax.out p3;clear iA hnu hu p0 p1 p2 p3 hgu;go_wp2_with fail;refine av.out.mono ?_;rintro e w5 ⟨hk5,hb5,dB⟩;have dh:=zh (dO.out.trans (Kpt.less (C:=C) hk5));have aR:=zh (show Below C.w.heap.size C.w w5 from hb5);have dA:match runO C.p.prs C.F g back u r1 with
    | .gas=>True
    | .err x=>e=zlB x
    | .ok r=>(∃ u,e=.returned u)/\RI (C.plus W.heap.size hi) w5 r:=dB
   have k5:=hk5.blk (.inr (.inr ⟨by omega,l2⟩)) K5.out;have K6:=zh k5;clear q0 q1 q2 q3 z3 hk5 hb5 dB k5
   cases hx:runO C.p.prs C.F g back u r1 with
   | gas=>exact absurd (by rw[iI.out,hx];rfl) dP.out
   | err x =>
    rw[hx] at dA;subst dA;refine⟨rfl,dh.out,aR.out,?_⟩;rw[iI.out,hx];rfl
   | ok r2 =>
    rw[hx] at dA;obtain⟨⟨u2,rfl⟩,hr2⟩:=dA;have HAS:=zh (zmM gz.out hr2 t2 _ aN.out true);have jV:=zh (show brO C.p.prs C.F g back t r=zkv C.F t2 true r2 by rw[iI.out,hx];rfl);have q0:w5.cell? ⟨w2.heap.size+1,0,none⟩=some (.int .u8 t2.k):=zc K6.out rfl;have q1:w5.cell? ⟨w2.heap.size+1,1,none⟩=some (.int .i64 t2.n):=zc K6.out rfl;have q2:w5.cell? ⟨w2.heap.size+1,2,none⟩=some (.string t2.s):=zc K6.out rfl;have q3:w5.cell? ⟨w2.heap.size+1,3,none⟩=some (.slice A2 t2.ks.length c2):=zc K6.out rfl;clear hx hr2;go_wp2_with fail;refine HAS.out.mono ?_;rintro e w6 ⟨ay,hb6,nR⟩;have bY:=zh (dh.out.trans (Kpt.less (C:=C) ay));have bg:=zh (show Below C.w.heap.size C.w w6 from hb6);have dz:match zkv C.F t2 true r2 with
     | .gas=>True
     | .err x=>e=zlB x
     | .ok r=>(∃ u,e=.returned u)/\RI (C.plus W.heap.size hi) w6 r:=nR
    clear q0 q1 q2 q3 ay hb6 nR
    cases hy:zkv C.F t2 true r2 with
    | gas=>exact absurd (by rw[jV.out,hy]) dP.out
    | err x =>
     rw[hy] at dz;subst dz;refine⟨rfl,bY.out,bg.out,?_⟩;rw[jV.out,hy]
    | ok r3 =>
     rw[hy] at dz;obtain⟨⟨u3,rfl⟩,hr3⟩:=dz;have dY:=zh hr3.less;have uj:=zh (show brO C.p.prs C.F g back t r=.ok r3 by rw[jV.out,hy]);clear hr3 hy;go_wp2_with fail;go_end0;refine⟨bY.out,bg.out,?_⟩;rw[uj.out];exact⟨⟨_,rfl⟩,dY.out⟩
def Up (n:Nat) (o:Out):Prop:=∀ r,o=.ok r->n<=r.n
section
variable {m n:Nat} {o:Out} {F:Int} {t:T} {r:RS}
theorem Up.of (h:Good n o):Up n o:=h.2
theorem Up.mono (h:Up n o) (hm:m<=n):Up m o:=fun r e=>Nat.le_trans hm (h r e)
theorem Up.bind {f:RS->Out} (h:Up n o) (hf:∀ r,n<=r.n->Up m (f r)):Up m (o.bind f):=by
 cases o with
 | gas=>intro r e;cases e
 | err x=>intro r e;cases e
 | ok r=>exact hf r (h r rfl)
theorem zpX {f:Int->RS->Out} (hf:∀ x,Up m (f x r)):Up m (valO t r f):=by
 unfold valO
 split
 ·intro r e;cases e
 ·exact hf _
theorem zn9 {f:Bool->RS->Out} (hf:∀ b r',r.n+1<=r'.n->Up m (f b r')):Up m (zk3 F t r f):=by
 unfold zk3;exact(Up.of (zkx F r)).bind fun r' h=>zpX fun x=>hf _ _ h
theorem zmL {f:T->RS->Out} (hf:∀ t r,Up r.n (f t r)):∀ (l:List T) (r:RS),Up r.n (zk2 f l r)
 | [],r=>fun r' e=>by injection e with e;subst e;exact Nat.le_refl _
 | t::ts,r=>by
  rw[zk2];exact(hf t r).bind fun r1 h1=>(zmL hf ts r1).mono h1
theorem zqO {f:T->RS->Out} (hf:∀ t r,Up r.n (f t r)) {entry test:T} {l1 l2:List T}:∀ (m:Nat) (r:RS),Up r.n (zlI F f entry test l1 l2 m r)
 | 0,_=>fun r' e=>by cases e
 | m+1,r=>by
  rw[zlI];refine(zmL hf l1 r).bind fun r1 h1=>zn9 fun b r2 h2=>?_
  split
  ·intro r' e;injection e with e;subst e;omega
  ·refine(zmL hf l2 r2).bind fun r3 h3=>(Up.of (zlk F entry false r3)).bind fun r4 h4=>?_;exact(zqO hf m r4).mono (by omega)
end
theorem znL {prs:List PR} {F:Int}:∀ (g:Nat) (back:Bool) (t:T) (r:RS),Up r.n (zkw prs F g back t r)
 | 0,_,_,_=>fun r' e=>by cases e
 | g+1,back,t,r=>by
  have hb:∀ (back:Bool) l r1,Up r1.n (zk2 (zkw prs F g back) l r1):=fun back l r1=>zmL (fun u r2=>znL g back u r2) l r1;rw[zkw]
  split
  ·exact zn9 fun b r1 h1=>(hb _ _ r1).bind fun r2 h2=>(Up.of (zlk _ _ _ _)).mono (by omega)
  ·split
   ·refine(Up.of (zlk _ _ _ _)).bind fun r1 h1=>?_;exact(zqO (fun u r2=>znL g back u r2) g r1).mono (by omega)
   ·split
    ·refine(Up.of (zkx F r)).bind fun r1 h1=>zpX fun x=>?_;refine(Up.of (zkE r1 _)).bind fun r2 h2=>(hb _ _ r2).bind fun r3 h3=>(Up.of (zkx F r3)).bind fun r4 h4=>zpX fun x=>?_;exact(Up.of (zkE r4 _)).mono (by omega)
    ·split
     ·refine(Up.of (zkx F r)).bind fun r1 h1=>?_;refine(Up.of (zkE r1 _)).bind fun r2 h2=>(hb _ _ r2).bind fun r3 h3=>(Up.of (zkx F r3)).bind fun r4 h4=>?_;exact(Up.of (zkE r4 _)).mono (by omega)
     ·split
      ·split
       ·intro r' e;cases e
       ·refine(Up.of (zkx F r)).bind fun r1 h1=>?_;refine(Up.of (zkE r1 _)).bind fun r2 h2=>(hb _ _ _).bind fun r3 h3=>(Up.of (zkx F r3)).bind fun r4 h4=>?_;exact(Up.of (zkE r4 _)).mono (by simp only at h3;omega)
      ·refine(Up.of (zkx F r)).bind fun r1 h1=>?_;exact(Up.of (zkE r1 _)).mono (by omega)
def lpO (prs:List PR) (F:Int) (g:Nat) (back:Bool) (t:T) (r:RS):Out :=
 (zkv F (fstT back t) true r).bind (zlI F (zkw prs F g back) (fstT back t) (lstT back t) (blkL back (kid t 1)) (blkL back (kid t 2)) g)
def stp (rb:Nat) (W:World):Nat:=match W.cell? ⟨rb,7,none⟩ with
 | some (.int _ n)=>n.toNat
 | _=>0
theorem zvw {C:RC} {W:World} {r:RS} (h:RI C W r):stp C.rb W=r.n:=by
 unfold stp;rw[h.cells.2.1];simp
theorem zuu {G:List PR->T->Prop} {g:Nat} (hS:IStC G g) {C:RC} (hC:C.Ok) {W:World} {r:RS} (h:RI C W r) (t:T) (v:Value) (back:Bool) (hv:NV C.w Any t v) (hk:t.ks.length=4) (hG1:∀ u∈(kid t 1).ks,G C.p.prs u) (hG2:∀ u∈(kid t 2).ks,G C.p.prs u)
  (aI:lpO C.p.prs C.F g back t r ≠ .gas) :
  Calls Tryz.prog 194 #[.pointer (some ⟨C.rb,0,none⟩),v,.bool back] W (RunP C W (lpO C.p.prs C.F g back t r)):=by
 obtain⟨A,c,rfl,-,hlk,hlc,hrow⟩:=hv.open_;have aa:=zh hrow;have HS:=zh hS;have HV:=zh hv;have hb0:=zkd (Below.refl W.heap.size W) (.cells #[.int .u8 t.k,.int .i64 t.n,.string t.s,.slice A t.ks.length c] 29);obtain⟨x0,x1,x2,x3⟩:=box4 (heap_alloc_new W (.cells #[.int .u8 t.k,.int .i64 t.n,.string t.s,.slice A t.ks.length c] 29));have HB0:=zh hb0;have H:=zh h;have HC:=zh hC;have HX:=zh (heap_alloc_new W (.cells #[.int .u8 t.k,.int .i64 t.n,.string t.s,.slice A t.ks.length c] 29));have dQ:=zh (fun w' (hb:Below W.heap.size W w')=>zpb t _ back C.w w' (zka h.below hb) hv (by omega));have iR:=zh hk;clear hrow hS hb0 h hv hk hC hlk;go_enter Tryz.func194,Tryz.ntmps194;go_wp2_with fail;refine(dQ.out _ HB0.out).mono ?_;rintro e w2 ⟨v1,v2,rfl,n1,n2,b2⟩;obtain⟨t1,ht1⟩:∃ x,fstT back t=x:=⟨_,rfl⟩
 obtain⟨t2,ht2⟩:∃ x,lstT back t=x:=⟨_,rfl⟩
 have HT1:=zh ht1;have HT2:=zh ht2;rw[ht1] at n1;rw[ht2] at n2;obtain⟨A1,c1,rfl,-⟩:=n1.open_;obtain⟨A2,c2,rfl,-⟩:=n2.open_;have fw:=zh n1;have aN:=zh n2;have b3:=zkd (zkd (zka HB0.out b2) (.cells #[.int .u8 t1.k,.int .i64 t1.n,.string t1.s,.slice A1 t1.ks.length c1] 29)) (.cells #[.int .u8 t2.k,.int .i64 t2.n,.string t2.s,.slice A2 t2.ks.length c2] 29);have k0:=zkj (zkj (zkb HX.out b2) (.cells #[.int .u8 t1.k,.int .i64 t1.n,.string t1.s,.slice A1 t1.ks.length c1] 29)) (.cells #[.int .u8 t2.k,.int .i64 t2.n,.string t2.s,.slice A2 t2.ks.length c2] 29);have k1:=zkj (heap_alloc_new w2 (.cells #[.int .u8 t1.k,.int .i64 t1.n,.string t1.s,.slice A1 t1.ks.length c1] 29)) (.cells #[.int .u8 t2.k,.int .i64 t2.n,.string t2.s,.slice A2 t2.ks.length c2] 29)
 have k2:=heap_alloc_new (w2.alloc (.cells #[.int .u8 t1.k,.int .i64 t1.n,.string t1.s,.slice A1 t1.ks.length c1] 29)) (.cells #[.int .u8 t2.k,.int .i64 t2.n,.string t2.s,.slice A2 t2.ks.length c2] 29);simp only[World.size_alloc] at k2;obtain⟨w3,hw3⟩:∃ x,(w2.alloc (.cells #[.int .u8 t1.k,.int .i64 t1.n,.string t1.s,.slice A1 t1.ks.length c1] 29)).alloc (.cells #[.int .u8 t2.k,.int .i64 t2.n,.string t2.s,.slice A2 t2.ks.length c2] 29)=x:=⟨_,rfl⟩
 rw[hw3] at b3 k0 k1 k2;have hz2:=zka HB0.out b2;have hzz:=hz2.size;obtain⟨fK,h3⟩:=H.out.plus HC.out b3;have bD:=zh (Kpt.of_below (n0:=C.n0) (kb:=C.kb) b3);have l0:=zkk k0;have l1:=zkk k1;have l2:=zkk k2;obtain⟨hi,hhi⟩:∃ x,w3.heap.size=x:=⟨_,rfl⟩
 rw[hhi] at fK h3 l0 l1 l2;have gz:=zh fK;have H3:=zh h3;have K0:=zh k0;have K1:=zh k1;have K2:=zh k2;have ji:=zh (zmM fK h3 t1 _ n1 true);obtain⟨p1,⟨y0,y1,y2,y3⟩⟩:True/\(w3.cell? ⟨w2.heap.size,0,none⟩=some (.int .u8 t1.k)/\w3.cell? ⟨w2.heap.size,1,none⟩=some (.int .i64 t1.n)/\w3.cell? ⟨w2.heap.size,2,none⟩=some (.string t1.s)/\w3.cell? ⟨w2.heap.size,3,none⟩=some (.slice A1 t1.ks.length c1)):=⟨trivial,zc k1 rfl,zc k1 rfl,zc k1 rfl,zc k1 rfl⟩
 clear n1 n2 b2 b3 k0 k1 k2 hz2 fK h3 x0 x1 x2 x3 HX HB0 dQ p1 ht1 ht2;go_upto_region 2 with fail;clear hw3;obtain⟨o,ho⟩:∃ o,lpO C.p.prs C.F g back t r=o:=⟨_,rfl⟩
 have HO:=zh (show(zkv C.F t1 true r).bind (zlI C.F (zkw C.p.prs C.F g back) t1 t2 (blkL back (kid t 1)) (blkL back (kid t 2)) g)=o by rw[<-ho];unfold lpO;rw[HT1.out,HT2.out]);rw[ho] at aI ⊢;have dP:=zh aI;have bR:=zh ho;clear aI ho;go_wp2_with fail;refine ji.out.mono ?_;rintro e w4 ⟨hk4,hb4,gH⟩;have dO:=zh (bD.out.trans (Kpt.less (C:=C) hk4));have ax:=zh (show Below C.w.heap.size C.w w4 from hb4);have bK:match zkv C.F t1 true r with
  | .gas=>True
  | .err x=>e=zlB x
  | .ok r=>(∃ u,e=.returned u)/\RI (C.plus W.heap.size hi) w4 r:=gH
 have eP:=zh hk4;clear y0 y1 y2 y3 ji hk4 hb4 gH
 cases hy:zkv C.F t1 true r with
 | gas=>exact absurd (by rw[<-HO.out,hy];rfl) dP.out
 | err x =>
  rw[hy] at bK;subst bK;refine⟨rfl,dO.out,ax.out,?_⟩;rw[<-HO.out,hy];rfl
 | ok r1 =>
  rw[hy] at bK;obtain⟨⟨u3,rfl⟩,hr1⟩:=bK;have HR4:=zh hr1;have jC:=zh (show zlI C.F (zkw C.p.prs C.F g back) t1 t2 (blkL back (kid t 1)) (blkL back (kid t 2)) g r1=o by rw[<-HO.out,hy];rfl);clear hr1 hy;have hI1:(1:Int)<(t.ks.length:Int):=by have:=iR.out;omega
  have hI2:(2:Int)<(t.ks.length:Int):=by have:=iR.out;omega
  have hi1:1<t.ks.length:=by omega
  have hi2:2<t.ks.length:=by omega
  obtain⟨a,u,Au,cu,rfl,-,hu,⟨p0,p1,p2,p3⟩,hnu⟩:=aa.out.nd hi1;obtain⟨a',u',Au',cu',e',-,hu',⟨p4,p5,p6,p7⟩,hnu'⟩:=aa.out.nd hi2;injection e' with e';subst e';have iA:kid t 1=u:=by unfold kid;rw[List.getD_eq_getElem?_getD,List.getElem?_eq_getElem hi1];exact hu.out
  have q9:kid t 2=u':=by unfold kid;rw[List.getD_eq_getElem?_getD,List.getElem?_eq_getElem hi2];exact hu'.out
  rw[iA] at hG1;rw[q9] at hG2;rw[iA,q9] at jC;have pM:=zh hG1;have HG2:=zh hG2;have pE:=zh hnu;have HNU':=zh hnu';have ha:a.add (1*4)=⟨a.block,a.off+4,none⟩:=by unfold Addr.add;split<;>simp_all
  have ha':a.add (2*4)=⟨a.block,a.off+8,none⟩:=by unfold Addr.add;split<;>simp_all
  rw[ha] at p0 p1 p2 p3;rw[ha'] at p4 p5 p6 p7;have wE:=zh (show ∀ w',Below C.w.heap.size C.w w'->(w'.cell? ⟨a.block,a.off+4,none⟩=some (.int .u8 u.k)/\w'.cell? ⟨a.block,a.off+4+1,none⟩=some (.int .i64 u.n)/\w'.cell? ⟨a.block,a.off+4+2,none⟩=some (.string u.s)/\w'.cell? ⟨a.block,a.off+4+3,none⟩=some (.slice Au u.ks.length cu))/\(w'.cell? ⟨a.block,a.off+8,none⟩=some (.int .u8 u'.k)/\w'.cell? ⟨a.block,a.off+8+1,none⟩=some (.int .i64 u'.n)/\w'.cell? ⟨a.block,a.off+8+2,none⟩=some (.string u'.s)/\w'.cell? ⟨a.block,a.off+8+3,none⟩=some (.slice Au' u'.ks.length cu')) from fun w' hb=>⟨⟨zb hb p0,zb hb p1,zb hb p2,zb hb p3⟩,⟨zb hb p4,zb hb p5,zb hb p6,zb hb p7⟩⟩);clear iA q9 hnu hnu' hu hu' p0 p1 p2 p3 p4 p5 p6 p7 ha ha' hG1 hG2;have hz0:W.heap.size<hi:=l0;go_wp2_with fail
  go_loopw [] (fun wr=>∃ (m:Nat) (r1:RS),Hid (RI (C.plus W.heap.size hi) wr r1)/\Hid (Kpt C.n0 (C.plus W.heap.size hi).kb w3 wr)/\Hid (zlI C.F (zkw C.p.prs C.F g back) t1 t2 (blkL back u) (blkL back u') m r1=o)) (fun wr=>C.F.toNat-stp C.rb wr)
  case atStart=>exact⟨g,r1,HR4,eP,jC⟩
  case round =>
   obtain⟨m,r3,HR,HK,HL⟩:=hrel;have j0:=HK.out.blk (.inr (.inr ⟨by omega,l0⟩)) K0.out;have j1:=HK.out.blk (.inr (.inr ⟨by omega,l1⟩)) K1.out;have j2:=HK.out.blk (.inr (.inr ⟨by omega,l2⟩)) K2.out;have z3:wr.cell? ⟨W.heap.size,3,none⟩=some (.slice (some a) t.ks.length c):=zc j0 rfl
   cases m with
   | zero=>exact absurd HL.out.symm dP.out
   | succ m =>
    have HL2:=zh (show(runO C.p.prs C.F g back u r3).bind (fun r=>zk3 C.F t2 r fun b r=>if b=true then .ok r else (runO C.p.prs C.F g back u' r).bind fun r=>(zkv C.F t1 false r).bind (zlI C.F (zkw C.p.prs C.F g back) t1 t2 (blkL back u) (blkL back u') m))=o from HL.out);have hgu:runO C.p.prs C.F g back u r3 ≠ .gas:=fun e=>dP.out (by rw[<-HL2.out,e];rfl);have av:=zh (zlj HS.out gz.out HR.out u _ back pE.out pM.out hgu);obtain⟨⟨q0,q1,q2,q3⟩,-⟩:=wE.out wr HR.out.below;clear hgu j0 j1 j2;go_wp2_with fail;refine av.out.mono ?_;rintro e w5 ⟨hk5,hb5,dB⟩;have dh:=zh (HK.out.trans hk5);have aR:=zh (show Below C.w.heap.size C.w w5 from hb5);have dA:match runO C.p.prs C.F g back u r3 with
     | .gas=>True
     | .err x=>e=zlB x
     | .ok r=>(∃ u,e=.returned u)/\RI (C.plus W.heap.size hi) w5 r:=dB
    clear q0 q1 q2 q3 z3 hk5 hb5 dB av
    cases hx:runO C.p.prs C.F g back u r3 with
    | gas=>exact absurd (by rw[<-HL2.out,hx];rfl) dP.out
    | err x =>
     rw[hx] at dA;subst dA;refine⟨rfl,bD.out.trans (Kpt.less (C:=C) dh.out),aR.out,?_⟩
     try rw[bR.out]
     rw[<-HL2.out,hx];rfl
    | ok r4 =>
     rw[hx] at dA;obtain⟨⟨u2,rfl⟩,hr4⟩:=dA;have qo:=zh (zmL (fun t r=>znL g back t r) (blkL back u) r3 r4 hx);have HL3:=zh (show(zk3 C.F t2 r4 fun b r=>if b=true then .ok r else (runO C.p.prs C.F g back u' r).bind fun r=>(zkv C.F t1 false r).bind (zlI C.F (zkw C.p.prs C.F g back) t1 t2 (blkL back u) (blkL back u') m))=o by rw[<-HL2.out,hx];rfl);have HHO2:=zh (zn8 gz.out hr4 t2 _ aN.out);have j2:=dh.out.blk (.inr (.inr ⟨by omega,l2⟩)) K2.out;have q0:w5.cell? ⟨w2.heap.size+1,0,none⟩=some (.int .u8 t2.k):=zc j2 rfl;have q1:w5.cell? ⟨w2.heap.size+1,1,none⟩=some (.int .i64 t2.n):=zc j2 rfl;have q2:w5.cell? ⟨w2.heap.size+1,2,none⟩=some (.string t2.s):=zc j2 rfl;have q3:w5.cell? ⟨w2.heap.size+1,3,none⟩=some (.slice A2 t2.ks.length c2):=zc j2 rfl;clear hx hr4 j2;go_wp2_with fail;refine HHO2.out.mono ?_;rintro e w6 ⟨ay,hb6,nR⟩;have bY:=zh (dh.out.trans ay)
     have bg:=zh (show Below C.w.heap.size C.w w6 from hb6);clear q0 q1 q2 q3 ay hb6 HHO2;rcases nR with⟨x,rfl,hx⟩|⟨b,r5,rfl,iK,hx⟩
     ·refine⟨rfl,bD.out.trans (Kpt.less (C:=C) bY.out),bg.out,?_⟩
      try rw[bR.out]
      rw[<-HL3.out,show ∀ f,zk3 C.F t2 r4 f=.err x from hx]
     ·have dY:=zh iK;have HL4:=zh (show(if b=true then .ok r5 else (runO C.p.prs C.F g back u' r5).bind fun r=>(zkv C.F t1 false r).bind (zlI C.F (zkw C.p.prs C.F g back) t1 t2 (blkL back u) (blkL back u') m))=o by rw[<-HL3.out,show ∀ f,zk3 C.F t2 r4 f=f b r5 from hx]);have HUP2:=zh (zn9 (t:=t2) (F:=C.F) (r:=r4) (m:=r4.n+1) (f:=fun _ r=>.ok r) (fun b r' h r'' e=>by injection e with e;subst e;exact h) r5 (hx _));clear hx iK
      cases b
      ·have sW:=zh (show(runO C.p.prs C.F g back u' r5).bind (fun r=>(zkv C.F t1 false r).bind (zlI C.F (zkw C.p.prs C.F g back) t1 t2 (blkL back u) (blkL back u') m))=o from HL4.out);have hgu:runO C.p.prs C.F g back u' r5 ≠ .gas:=fun e=>dP.out (by rw[<-sW.out,e];rfl);have av:=zh (zlj HS.out gz.out dY.out u' _ back HNU'.out HG2.out hgu);have j0:=bY.out.blk (.inr (.inr ⟨by omega,l0⟩)) K0.out;have z3:w6.cell? ⟨W.heap.size,3,none⟩=some (.slice (some a) t.ks.length c):=zc j0 rfl;obtain⟨-,q0,q1,q2,q3⟩:=wE.out w6 bg.out;clear hgu j0;go_wp2_with fail;refine av.out.mono ?_;rintro e w7 ⟨aS,bE,p9⟩;have kF:=zh (bY.out.trans aS);have nL:=zh (show Below C.w.heap.size C.w w7 from bE);have oC:match runO C.p.prs C.F g back u' r5 with
        | .gas=>True
        | .err x=>e=zlB x
        | .ok r=>(∃ u,e=.returned u)/\RI (C.plus W.heap.size hi) w7 r:=p9
       clear q0 q1 q2 q3 z3 aS bE p9 av
       cases hx:runO C.p.prs C.F g back u' r5 with
       | gas=>exact absurd (by rw[<-sW.out,hx];rfl) dP.out
       | err x =>
        rw[hx] at oC;subst oC;refine⟨rfl,bD.out.trans (Kpt.less (C:=C) kF.out),nL.out,?_⟩
        try rw[bR.out]
        rw[<-sW.out,hx];rfl
       | ok r6 =>
        rw[hx] at oC;obtain⟨⟨u2,rfl⟩,bN⟩:=oC;have HUP3:=zh (zmL (fun t r=>znL g back t r) (blkL back u') r5 r6 hx);have yY:=zh (show(zkv C.F t1 false r6).bind (zlI C.F (zkw C.p.prs C.F g back) t1 t2 (blkL back u) (blkL back u') m)=o by rw[<-sW.out,hx];rfl);have HAS:=zh (zmM gz.out bN t1 _ fw.out false);have j1:=kF.out.blk (.inr (.inr ⟨by omega,l1⟩)) K1.out;have q0:w7.cell? ⟨w2.heap.size,0,none⟩=some (.int .u8 t1.k):=zc j1 rfl;have q1:w7.cell? ⟨w2.heap.size,1,none⟩=some (.int .i64 t1.n):=zc j1 rfl;have q2:w7.cell? ⟨w2.heap.size,2,none⟩=some (.string t1.s):=zc j1 rfl;have q3:w7.cell? ⟨w2.heap.size,3,none⟩=some (.slice A1 t1.ks.length c1):=zc j1 rfl;clear hx bN j1;go_wp2_with fail;refine HAS.out.mono ?_;rintro e w8 ⟨cZ,dC,fT⟩;have lL:=zh (kF.out.trans cZ);have fE:=zh (show Below C.w.heap.size C.w w8 from dC)
        have dw:match zkv C.F t1 false r6 with
         | .gas=>True
         | .err x=>e=zlB x
         | .ok r=>(∃ u,e=.returned u)/\RI (C.plus W.heap.size hi) w8 r:=fT
        clear q0 q1 q2 q3 cZ dC fT HAS
        cases hy:zkv C.F t1 false r6 with
        | gas=>exact absurd (by rw[<-yY.out,hy];rfl) dP.out
        | err x =>
         rw[hy] at dw;subst dw;refine⟨rfl,bD.out.trans (Kpt.less (C:=C) lL.out),fE.out,?_⟩
         try rw[bR.out]
         rw[<-yY.out,hy];rfl
        | ok r7 =>
         rw[hy] at dw;obtain⟨⟨u3,rfl⟩,jy⟩:=dw;have gW:=zh jy;have HL7:=zh (show zlI C.F (zkw C.p.prs C.F g back) t1 t2 (blkL back u) (blkL back u') m r7=o by rw[<-yY.out,hy];rfl);have hmm:C.F.toNat-stp C.rb w8<C.F.toNat-stp C.rb wr:=by
          have e1:stp C.rb w8=r7.n:=zvw (C:=C.plus W.heap.size hi) gW.out;have e2:stp C.rb wr=r3.n:=zvw (C:=C.plus W.heap.size hi) HR.out;obtain⟨e3,e4⟩:=znv hy;have e5:=qo.out;have e6:=HUP2.out;have e7:=HUP3.out;have e8:r7.n=r6.n+1:=by rw[e3]
          omega
         have jg:=zh hmm;clear jy hy hmm;go_wp2_with fail
         go_roundw
         case rel=>exact⟨m,r7,gW,lL,HL7⟩
         case measure=>exact jg.out
      ·have sW:=zh (show o=.ok r5 from HL4.out.symm);have fu:=zh dY.out.less;go_wp2_with fail;go_end0;refine⟨bD.out.trans (Kpt.less (C:=C) bY.out),bg.out,?_⟩
       try rw[bR.out]
       rw[sW.out];exact⟨⟨_,rfl⟩,fu.out⟩
section
variable {C:RC} {W W':World} {r:RS} {S':ST}
theorem RI.store (h:RI C W r) (hk:KS C.w C.n0 C.sb (fun b=>C.kb b\/b=C.rb\/C.ev.ownBlock=some b) W' S') (hp:Kpt C.n0 (fun b=>C.kb b\/b=C.rb\/C.ev.ownBlock=some b) W W') (hf:FB r.n S') :
  RI C W' { r with S:=S' }/\Kpt C.n0 C.kb W W' :=
 ⟨⟨hk,hp.blk (.inr (.inr (.inl rfl))) h.box,zoZ h.ent fun b hb=>hp.kept b (h.ent.lt b hb).2 (.inr (.inr (.inr hb))),h.el,h.en,h.n,hf⟩,⟨hp.size,fun b hb hk=>hp.kept b hb (hk.imp id .inl)⟩⟩
end
theorem FB.fr {j:Nat} {S S':ST} (h:FB j S) (hf:FrK S S'):FB (j+1) S':=by
 obtain⟨h1,h2,_⟩:=hf;unfold FB;rw[h1,h2];exact h.mono (Nat.le_succ _)
theorem FB.cur {j:Nat} {S:ST} (h:FB j S):S.cur.vs.length<=1000+j:=by
 rcases Nat.eq_zero_or_pos S.calls.length with h0|h0
 ·rw[zmR h0];have:=h.1;omega
 ·rw[znf h0];exact h.2 _ (List.getElem_mem _)
theorem FB.setCur {j:Nat} {S:ST} (h:FB j S) (f:FR) (hf:f.vs.length<=S.cur.vs.length+1):FB (j+1) (S.setCur f):=by
 unfold ST.setCur;by_cases h0:S.calls.length=0
 ·rw[if_pos h0];rw[zmR h0] at hf;exact⟨by have:=h.1;show f.vs.length<=_;omega,(h.mono (Nat.le_succ _)).2⟩
 ·rw[if_neg h0];refine⟨(h.mono (Nat.le_succ _)).1,fun g hg=>?_⟩;rw[znf (by omega)] at hf;rcases List.mem_or_eq_of_mem_set hg with hg|rfl
  ·exact(h.mono (Nat.le_succ _)).2 g hg
  ·have:=h.2 _ (List.getElem_mem (l:=S.calls) (n:=S.calls.length-1) (by omega));omega
theorem FB.open_ {j:Nat} {S:ST} (h:FB j S) (v:VD) (x:Int):FB (j+1) (zkF S v x).2:=by
 unfold zkF
 repeat' split
 all_goals first|exact h.mono (Nat.le_succ _)|exact FB.setCur (S:=S.newCell _) h _ (by rw[zmX];simp[FR.push])
theorem FB.close_ {j:Nat} {S:ST} (h:FB j S) (s:ByteArray) (x:Int):FB (j+1) (zks S s x).2:=by
 unfold zks
 repeat' split
 all_goals first|exact h.mono (Nat.le_succ _)|skip
 all_goals exact h.setCur _ (by simp[FR.pop];omega)
theorem FB.enter {j:Nat} {S:ST} (h:FB j S) (ps:List VD) (ss:List ByteArray) (hp:ps.length<=1000):FB (j+1) (zkM S ps ss).2:=by
 unfold zkM
 split
 ·exact h.mono (Nat.le_succ _)
 ·rcases he:entL S.cur ⟨[],[],0⟩ (ps.zip ss) with e|f
  ·exact h.mono (Nat.le_succ _)
  ·unfold entR;dsimp only
   split
   ·exact h.mono (Nat.le_succ _)
   ·refine⟨(h.mono (Nat.le_succ _)).1,fun g hg=>?_⟩;rcases List.mem_append.1 hg with hg|hg
    ·exact(h.mono (Nat.le_succ _)).2 g hg
    ·simp at hg;subst hg;have:=zq4 _ _ _ he;simp at this;omega
theorem FB.leave {j:Nat} {S:ST} (h:FB j S):FB (j+1) (zkS S).2:=by
 unfold zkS
 split
 ·exact h.mono (Nat.le_succ _)
 ·exact⟨(h.mono (Nat.le_succ _)).1,fun g hg=>(h.mono (Nat.le_succ _)).2 g (List.mem_of_mem_take hg)⟩
theorem FB.do_ {j:Nat} {S:ST} (h:FB j S) (t:T):FB (j+1) (doE S t).2:=h.fr (zta _ _)
theorem FB.undo {j:Nat} {S:ST} (h:FB j S) (t:T):FB (j+1) (zlp S t).2:=h.fr (zt4 _ _)
theorem zlb {P:Program} {ops:Array Oper} {o:Oper} {a:Act} {w:World} {K:Act->World->Prop} {Q:Exit->Act->World->Prop} {F:Prop} (hw:Region.wanted o (yielded ops a.tmps)=true) (x:Operand) (xs:List Operand) (ats:Array TypeId)
  (ho:o.op=.call { callee:=.value x,args:=xs.toArray,argTypes:=ats }) (f:FuncId) (fn:Func) (hf:IsFn P f fn) (hv:a.eval x=.func (.func f) #[] #[]) (l:List Value) (hargs:xs.map a.eval=l) (R:Value->World->Prop)
  (hc:Calls P f l.toArray w fun e w'=>(∃ v,e=.returned v/\R v w')\/∃ ch,e=.panicked ch/\Q (.panic ch) a w') (h:∀ v w',R v w'->K (a.put o.dst v) w') :
  if Region.wanted o (yielded ops a.tmps)=true then Oper.wp P o a w K Q else F:=by
 rw[if_pos hw];subst hargs;have e:(execOp a.eval o).run P w=.ok (.enter f (xs.map a.eval).toArray) w:=by
  unfold execOp;simp only[ho,resolve,hv,Deferred.ofValue,Sem.run_bind,Sem.run_pure,Result.andThen_ok,invoke,zkU hf,Array.empty_append,List.map_toArray,Array.append_empty]
 unfold Oper.wp;rw[e,Oper.upon_enter];refine hc.mono ?_;rintro e w' (⟨v,rfl,hR⟩|⟨ch,rfl,hq⟩)
 ·exact h v w' hR
 ·exact hq
theorem zsM:IsFn Tryz.prog 211 Tryz.f211:=⟨Tryz.func211,by kernel_rfl,by kernel_rfl⟩
theorem zma:IsFn Tryz.prog 197 Tryz.f197:=⟨Tryz.func197,by kernel_rfl,by kernel_rfl⟩
theorem zsT:IsFn Tryz.prog 185 Tryz.f185:=⟨Tryz.func185,by kernel_rfl,by kernel_rfl⟩
theorem zq0:IsFn Tryz.prog 186 Tryz.f186:=⟨Tryz.func186,by kernel_rfl,by kernel_rfl⟩
def loR (prs:List PR) (F:Int) (g:Nat) (back:Bool) (t t2:T) (r:RS):Out :=
 (zk2 (zkw prs F g back) (blkL back (kid t 1)) r).bind fun r=>(zkD F r).bind fun r=>valO t2 r fun x r=>zkm r (zks r.S t.s x)
def loO (prs:List PR) (F:Int) (g:Nat) (back:Bool) (t:T) (r:RS):Out :=
 (zkD F r).bind fun r=>valO (fstT back t) r fun x r=>(zkm r (zkF r.S ⟨t.s,1,0⟩ x)).bind (loR prs F g back t (lstT back t))
theorem zsB {G:List PR->T->Prop} {g:Nat} (hS:IStC G g) {C:RC} (hC:C.Ok) {W:World} {r:RS} (h:RI C W r) (t:T) (v:Value) (back:Bool) (hv:NV C.w Any t v) (hk:t.ks.length=3) (hG1:∀ u∈(kid t 1).ks,G C.p.prs u)
  (aI:loO C.p.prs C.F g back t r ≠ .gas) :
  Calls Tryz.prog 195 #[.pointer (some ⟨C.rb,0,none⟩),v,.bool back] W (RunP C W (loO C.p.prs C.F g back t r)):=by
 obtain⟨A,c,rfl,-,hlk,hlc,hrow⟩:=hv.open_;have aa:=zh hrow;have HS:=zh hS;have HV:=zh hv;have hb0:=zkd (Below.refl W.heap.size W) (.cells #[.int .u8 t.k,.int .i64 t.n,.string t.s,.slice A t.ks.length c] 29);obtain⟨x0,x1,x2,x3⟩:=box4 (heap_alloc_new W (.cells #[.int .u8 t.k,.int .i64 t.n,.string t.s,.slice A t.ks.length c] 29));have HB0:=zh hb0;have H:=zh h;have HC:=zh hC;have HX:=zh (heap_alloc_new W (.cells #[.int .u8 t.k,.int .i64 t.n,.string t.s,.slice A t.ks.length c] 29));have dQ:=zh (fun w' (hb:Below W.heap.size W w')=>zpb t _ back C.w w' (zka h.below hb) hv (by omega));have iR:=zh hk;clear hrow hS hb0 h hv hk hC hlk;go_enter Tryz.func195,Tryz.ntmps195;go_wp2_with fail;refine(dQ.out _ HB0.out).mono ?_;rintro e w2 ⟨v1,v2,rfl,n1,n2,b2⟩;obtain⟨t1,ht1⟩:∃ x,fstT back t=x:=⟨_,rfl⟩
 obtain⟨t2,ht2⟩:∃ x,lstT back t=x:=⟨_,rfl⟩
 have HT1:=zh ht1;have HT2:=zh ht2;rw[ht1] at n1;rw[ht2] at n2;obtain⟨A1,c1,rfl,-⟩:=n1.open_;obtain⟨A2,c2,rfl,-⟩:=n2.open_;have fw:=zh n1;have aN:=zh n2;have b3:=zkd (zkd (zka HB0.out b2) (.cells #[.int .u8 t1.k,.int .i64 t1.n,.string t1.s,.slice A1 t1.ks.length c1] 29)) (.cells #[.int .u8 t2.k,.int .i64 t2.n,.string t2.s,.slice A2 t2.ks.length c2] 29);have k0:=zkj (zkj (zkb HX.out b2) (.cells #[.int .u8 t1.k,.int .i64 t1.n,.string t1.s,.slice A1 t1.ks.length c1] 29)) (.cells #[.int .u8 t2.k,.int .i64 t2.n,.string t2.s,.slice A2 t2.ks.length c2] 29);have k1:=zkj (heap_alloc_new w2 (.cells #[.int .u8 t1.k,.int .i64 t1.n,.string t1.s,.slice A1 t1.ks.length c1] 29)) (.cells #[.int .u8 t2.k,.int .i64 t2.n,.string t2.s,.slice A2 t2.ks.length c2] 29)
 have k2:=heap_alloc_new (w2.alloc (.cells #[.int .u8 t1.k,.int .i64 t1.n,.string t1.s,.slice A1 t1.ks.length c1] 29)) (.cells #[.int .u8 t2.k,.int .i64 t2.n,.string t2.s,.slice A2 t2.ks.length c2] 29);simp only[World.size_alloc] at k2;obtain⟨w3,hw3⟩:∃ x,(w2.alloc (.cells #[.int .u8 t1.k,.int .i64 t1.n,.string t1.s,.slice A1 t1.ks.length c1] 29)).alloc (.cells #[.int .u8 t2.k,.int .i64 t2.n,.string t2.s,.slice A2 t2.ks.length c2] 29)=x:=⟨_,rfl⟩
 rw[hw3] at b3 k0 k1 k2;have hz2:=zka HB0.out b2;have hzz:=hz2.size;obtain⟨fK,h3⟩:=H.out.plus HC.out b3;have bD:=zh (Kpt.of_below (n0:=C.n0) (kb:=C.kb) b3);have l0:=zkk k0;have l1:=zkk k1;have l2:=zkk k2;obtain⟨hi,hhi⟩:∃ x,w3.heap.size=x:=⟨_,rfl⟩
 rw[hhi] at fK h3 l0 l1 l2;have gz:=zh fK;have H3:=zh h3;have K0:=zh k0;have K1:=zh k1;have K2:=zh k2;have ji:=zh (zlV fK h3);obtain⟨p1,⟨y0,y1,y2,y3⟩⟩:True/\(w3.cell? ⟨w2.heap.size,0,none⟩=some (.int .u8 t1.k)/\w3.cell? ⟨w2.heap.size,1,none⟩=some (.int .i64 t1.n)/\w3.cell? ⟨w2.heap.size,2,none⟩=some (.string t1.s)/\w3.cell? ⟨w2.heap.size,3,none⟩=some (.slice A1 t1.ks.length c1)):=⟨trivial,zc k1 rfl,zc k1 rfl,zc k1 rfl,zc k1 rfl⟩
 clear n1 n2 b2 b3 k0 k1 k2 hz2 fK h3 x0 x1 x2 x3 HX HB0 dQ p1 ht1 ht2;go_upto_region 2 with fail;clear hw3;obtain⟨o,ho⟩:∃ o,loO C.p.prs C.F g back t r=o:=⟨_,rfl⟩
 have HO:=zh (show(zkD C.F r).bind (fun r=>valO t1 r fun x r=>(zkm r (zkF r.S ⟨t.s,1,0⟩ x)).bind (loR C.p.prs C.F g back t t2))=o by rw[<-ho];unfold loO loR;rw[HT1.out,HT2.out]);rw[ho] at aI ⊢;have dP:=zh aI;have bR:=zh ho;clear aI ho;go_wp2_with fail;refine ji.out.mono ?_;rintro e w4 ⟨hk4,hb4,gH⟩;have dO:=zh (bD.out.trans (Kpt.less (C:=C) hk4));have ax:=zh (show Below C.w.heap.size C.w w4 from hb4);have bK:match zkD C.F r with
  | .gas=>True
  | .err x=>e=zlB x
  | .ok r=>(∃ u,e=.returned u)/\RI (C.plus W.heap.size hi) w4 r:=gH
 have eP:=zh hk4;clear y0 y1 y2 y3 ji hk4 hb4 gH
 cases hy:zkD C.F r with
 | gas=>exact absurd (by rw[<-HO.out,hy];rfl) dP.out
 | err x =>
  rw[hy] at bK;subst bK;refine⟨rfl,dO.out,ax.out,?_⟩;rw[<-HO.out,hy];rfl
 | ok r1 =>
  rw[hy] at bK;obtain⟨⟨u3,rfl⟩,hr1⟩:=bK;have HR4:=zh hr1;have jC:=zh (show(valO t1 r1 fun x r=>(zkm r (zkF r.S ⟨t.s,1,0⟩ x)).bind (loR C.p.prs C.F g back t t2))=o by rw[<-HO.out,hy];rfl);have jm:=zh (show FB r.n r1.S/\r1.n=r.n+1 by obtain⟨rfl,-⟩:=zkQ hy;exact⟨H.out.fb,rfl⟩);have j0:=eP.out.blk (.inr (.inr ⟨by omega,l0⟩)) K0.out;have j1:=eP.out.blk (.inr (.inr ⟨by omega,l1⟩)) K1.out;have qi:=zh (fun w' (hb:Below w4.heap.size w4 w')=>zpm (hr1.later hb) t1 _ fw.out)
  have aA:=zh (show ∀ w',Below w4.heap.size w4 w'->(fun w':World=>w'.cell? ⟨C.rb,6,none⟩=some (.pointer (some ⟨C.sb,0,none⟩))/\w'.cell? ⟨W.heap.size,2,none⟩=some (.string t.s)/\w'.cell? ⟨w2.heap.size,0,none⟩=some (.int .u8 t1.k)/\w'.cell? ⟨w2.heap.size,1,none⟩=some (.int .i64 t1.n)/\w'.cell? ⟨w2.heap.size,2,none⟩=some (.string t1.s)/\w'.cell? ⟨w2.heap.size,3,none⟩=some (.slice A1 t1.ks.length c1)) w' from fun w' hb=>⟨zb hb hr1.cells.1,zb hb (zc j0 rfl),zb hb (zc j1 rfl),zb hb (zc j1 rfl),zb hb (zc j1 rfl),zb hb (zc j1 rfl)⟩);have iO:=zh (aA.out _ (Below.refl _ _).drew);clear hr1 hy j0 j1;go_upto_region 3 with fail
  have hSS:(fun w':World=>w'.cell? ⟨C.rb,6,none⟩=some (.pointer (some ⟨C.sb,0,none⟩))/\w'.cell? ⟨W.heap.size,2,none⟩=some (.string t.s)/\w'.cell? ⟨w2.heap.size,0,none⟩=some (.int .u8 t1.k)/\w'.cell? ⟨w2.heap.size,1,none⟩=some (.int .i64 t1.n)/\w'.cell? ⟨w2.heap.size,2,none⟩=some (.string t1.s)/\w'.cell? ⟨w2.heap.size,3,none⟩=some (.slice A1 t1.ks.length c1)) w4.drew/\(fun _:World=>True) w4.drew:=⟨iO.out,trivial⟩
  refine zkc (fun w':World=>w'.cell? ⟨C.rb,6,none⟩=some (.pointer (some ⟨C.sb,0,none⟩))/\w'.cell? ⟨W.heap.size,2,none⟩=some (.string t.s)/\w'.cell? ⟨w2.heap.size,0,none⟩=some (.int .u8 t1.k)/\w'.cell? ⟨w2.heap.size,1,none⟩=some (.int .i64 t1.n)/\w'.cell? ⟨w2.heap.size,2,none⟩=some (.string t1.s)/\w'.cell? ⟨w2.heap.size,3,none⟩=some (.slice A1 t1.ks.length c1)) (fun _:World=>True) 12 (by kernel_rfl) ?_;refine zT 0 hSS ?_;(try simp only[zQ]);refine zT 1 hSS ?_;(try simp only[zQ]);refine zT 2 hSS ?_;(try simp only[zQ]);refine zT 3 hSS ?_;(try simp only[zQ]);refine zT 4 hSS ?_;(try simp only[zQ]);refine zT 5 hSS ?_;(try simp only[zQ]);refine zT 6 hSS ?_;(try simp only[zQ]);refine zT 7 hSS ?_;(try simp only[zQ]);refine zT 8 hSS ?_;(try simp only[zQ]);refine zT 9 hSS ?_;(try simp only[zQ])
  have had:Calls Tryz.prog 211 [.pointer (some ⟨C.rb,0,none⟩),nv t1.k t1.n t1.s A1 t1.ks.length c1].toArray w4.drew (ValP (C.plus W.heap.size hi) w4.drew t1 r1):=qi.out _ (Below.refl _ _).drew;refine zo 10 fun K hK=>?_;refine zlb (by rfl) (.func 211) [.tmp 24,.tmp 25] _ (by rfl) 211 _ zsM (by rfl) _ (by rfl) (fun v w'=>Below w4.heap.size w4 w'/\∃ x,v=.int .i64 x/\I64 x/\∀ f,valO t1 r1 f=f x r1) (had.mono ?_) ?_
  ·rintro e y1 ⟨eZ,hv1⟩;have b1:=zka (Below.refl w4.heap.size w4).drew eZ;rcases hv1 with⟨x,rfl,hx⟩|⟨x,rfl,oz,hx⟩
   ·refine .inr ⟨_,rfl,?_⟩;refine⟨rfl,dO.out.trans (Kpt.of_below b1),zka ax.out b1,?_⟩
    try rw[bR.out]
    rw[<-jC.out,hx]
   ·exact .inl ⟨_,rfl,b1,x,rfl,oz,hx⟩
  rintro v5 w5 ⟨b5,x,rfl,hx,vG⟩;have aR:=zh b5;have sw:=zh hx;have iP:=zh (show(zkm r1 (zkF r1.S ⟨t.s,1,0⟩ x)).bind (loR C.p.prs C.F g back t t2)=o by rw[<-jC.out,vG]);refine hK.out _ _ ⟨aA.out _ b5,trivial⟩ ?_;clear hK K had b5 hx vG hSS qi;(try simp only[zQ]);obtain⟨R,hR⟩:∃ R,zkF r1.S ⟨t.s,1,0⟩ x=R:=⟨_,rfl⟩
  have HRR:=zh hR;have kH:=jm.out.1.cur;have nS:=H.out.n;have had:Calls Tryz.prog 185 [.pointer (some ⟨C.sb,0,none⟩),.agg #[.string t.s,.int .u8 1,.int .i64 0],.int .i64 x].toArray w5 fun e w'=>∃ v,e=.returned v/\(v=.int .i64 R.1/\RI (C.plus W.heap.size hi) w' { r1 with S:=R.2 }/\Kpt C.n0 (C.plus W.heap.size hi).kb w5 w') :=
   ((HR4.out.later aR.out).ks.open_ ⟨t.s,1,0⟩ (by obtain⟨_,_,_,hf,-⟩:=HV.out.open_;exact⟨hf.2.2,⟨by simp only;omega,by simp only;omega⟩,⟨by simp only;omega,by simp only;omega⟩⟩) x sw.out (by omega)).mono fun e w' ⟨h1,h2,h3⟩=>⟨_,h1,by rw[hR],(RI.store (C:=C.plus W.heap.size hi) (HR4.out.later aR.out) (hR▸h2) h3 (by rw[jm.out.2,<-hR];exact jm.out.1.open_ _ _))⟩
  refine zo 11 fun K hK=>?_;refine zkr (by rfl) (.func 185) [.tmp 20,.tmp 23,.tmp 26] _ (by rfl) 185 _ zsT (by rfl) _ (by rfl) _ had ?_;rintro v6 w6 ⟨rfl,bN,ay⟩;have gP:=zh (eP.out.trans ((Kpt.of_below aR.out).trans ay));have j0:=gP.out.blk (.inr (.inr ⟨by omega,l0⟩)) K0.out;have j1:=gP.out.blk (.inr (.inr ⟨by omega,l1⟩)) K1.out;have dY:=zh bN;have az:(fun w':World=>w'.cell? ⟨C.rb,6,none⟩=some (.pointer (some ⟨C.sb,0,none⟩))/\w'.cell? ⟨W.heap.size,2,none⟩=some (.string t.s)/\w'.cell? ⟨w2.heap.size,0,none⟩=some (.int .u8 t1.k)/\w'.cell? ⟨w2.heap.size,1,none⟩=some (.int .i64 t1.n)/\w'.cell? ⟨w2.heap.size,2,none⟩=some (.string t1.s)/\w'.cell? ⟨w2.heap.size,3,none⟩=some (.slice A1 t1.ks.length c1)) w6:=⟨bN.cells.1,zc j0 rfl,zc j1 rfl,zc j1 rfl,zc j1 rfl,zc j1 rfl⟩
  refine hK.out _ _ ⟨az,trivial⟩ ?_;have kN:=zh az;have bg:=zh bN.below;clear hK K had bN ay j0 j1 az iO aA;(try simp only[zQ]);have bY:=zh (bD.out.trans (Kpt.less (C:=C) gP.out));rw[hR] at iP;have had:=zld ⟨C.rb,0,none⟩ R.1 w6;refine zp 12 fun K hK=>?_;refine zlb (by rfl) (.func 197) [.tmp 16,.tmp 27] _ (by rfl) 197 _ zma (by rfl) _ (by rfl) (fun v w'=>w'=w6/\R.1=0) (had.mono ?_) ?_
  ·rintro e y1 ⟨rfl,hv1⟩;rcases hv1 with⟨h0,u0,rfl⟩|⟨h0,rfl⟩
   ·exact .inl ⟨_,rfl,rfl,h0⟩
   ·refine .inr ⟨_,rfl,?_⟩;refine⟨rfl,bY.out,bg.out,?_⟩
    try rw[bR.out]
    rw[<-iP.out,show zkm r1 R=.err R.1 by unfold zkm;rw[if_pos h0]];rfl
  rintro v7 w7 ⟨rfl,h0⟩;have pq:=zh (show loR C.p.prs C.F g back t t2 { r1 with S:=R.2 }=o by rw[<-iP.out,show zkm r1 R=.ok { r1 with S:=R.2 } by unfold zkm;rw[if_neg (by simpa using h0)]];rfl);refine hK.out _ _ kN.out ?_;clear hK K had h0;(try simp only[zQ]);refine zd ?_;obtain⟨r2,hr2⟩:∃ x,({ r1 with S:=R.2 }:RS)=x:=⟨_,rfl⟩
  rw[hr2] at dY pq;have hI:1<t.ks.length:=by have:=iR.out;omega
  have hI1:(1:Int)<(t.ks.length:Int):=by omega
  obtain⟨a,u,Au,cu,rfl,-,hu,⟨p0,p1,p2,p3⟩,hnu⟩:=aa.out.nd hI;have iA:kid t 1=u:=by unfold kid;rw[List.getD_eq_getElem?_getD,List.getElem?_eq_getElem hI];exact hu.out
  have jk:=zh (show ∀ x∈u.ks,G C.p.prs x by rw[<-iA];exact hG1);have jP:=zh (show(runO C.p.prs C.F g back u r2).bind (fun r=>(zkD C.F r).bind fun r=>valO t2 r fun x r=>zkm r (zks r.S t.s x))=o by rw[<-pq.out,<-iA];rfl);have hgu:runO C.p.prs C.F g back u r2 ≠ .gas:=fun e=>dP.out (by rw[<-jP.out,e];rfl);have av:=zh (zlj HS.out gz.out dY.out u _ back hnu jk.out hgu);have ha:a.add (1*4)=⟨a.block,a.off+4,none⟩:=by unfold Addr.add;split<;>simp_all
  rw[ha] at p0 p1 p2 p3;have q0:=zb bg.out p0;have q1:=zb bg.out p1;have q2:=zb bg.out p2;have q3:=zb bg.out p3;have j0:=gP.out.blk (.inr (.inr ⟨by omega,l0⟩)) K0.out;have q4:=zc (i:=3) j0 rfl;clear iA hnu hu p0 p1 p2 p3 hgu ha j0 kH nS;go_wp2_with fail;refine av.out.mono ?_;rintro e w8 ⟨cZ,dC,fT⟩;have nD:=zh (gP.out.trans cZ);have lL:=zh (bD.out.trans (Kpt.less (C:=C) nD.out));have fE:=zh (show Below C.w.heap.size C.w w8 from dC);have dw:match runO C.p.prs C.F g back u r2 with
   | .gas=>True
   | .err x=>e=zlB x
   | .ok r=>(∃ u,e=.returned u)/\RI (C.plus W.heap.size hi) w8 r:=fT
  clear q0 q1 q2 q3 q4 cZ dC fT av
  cases hx:runO C.p.prs C.F g back u r2 with
  | gas=>exact absurd (by rw[<-jP.out,hx];rfl) dP.out
  | err x =>
   rw[hx] at dw;subst dw;refine⟨rfl,lL.out,fE.out,?_⟩
   try rw[bR.out]
   rw[<-jP.out,hx];rfl
  | ok r3 =>
   rw[hx] at dw;obtain⟨⟨u9,rfl⟩,hr3⟩:=dw;have HST:=zh (zlV gz.out hr3);have iE:=zh (show((zkD C.F r3).bind fun r=>valO t2 r fun x r=>zkm r (zks r.S t.s x))=o by rw[<-jP.out,hx];rfl);have fu:=zh hr3;clear hx hr3;go_wp2_with fail;refine HST.out.mono ?_;rintro e w9 ⟨aJ,df,dJ⟩;have jh:=zh (nD.out.trans aJ);have eH:=zh (bD.out.trans (Kpt.less (C:=C) jh.out));have bT:=zh (show Below C.w.heap.size C.w w9 from df);have iw:match zkD C.F r3 with
    | .gas=>True
    | .err x=>e=zlB x
    | .ok r=>(∃ u,e=.returned u)/\RI (C.plus W.heap.size hi) w9 r:=dJ
   clear aJ df dJ HST
   cases hy:zkD C.F r3 with
   | gas=>exact absurd (by rw[<-iE.out,hy];rfl) dP.out
   | err x =>
    rw[hy] at iw;subst iw;refine⟨rfl,eH.out,bT.out,?_⟩
    try rw[bR.out]
    rw[<-iE.out,hy];rfl
   | ok r4 =>
    rw[hy] at iw;obtain⟨⟨u9,rfl⟩,hr4⟩:=iw;have o8:=zh hr4;have gY:=zh (show(valO t2 r4 fun x r=>zkm r (zks r.S t.s x))=o by rw[<-iE.out,hy];rfl);have jl:=zh (show FB r3.n r4.S/\r4.n=r3.n+1 by obtain⟨rfl,-⟩:=zkQ hy;exact⟨fu.out.fb,rfl⟩);have j0:=jh.out.blk (.inr (.inr ⟨by omega,l0⟩)) K0.out;have j2:=jh.out.blk (.inr (.inr ⟨by omega,l2⟩)) K2.out;have qi:=zh (fun w' (hb:Below w9.heap.size w9 w')=>zpm (hr4.later hb) t2 _ aN.out)
    have aA:=zh (show ∀ w',Below w9.heap.size w9 w'->(fun w':World=>w'.cell? ⟨C.rb,6,none⟩=some (.pointer (some ⟨C.sb,0,none⟩))/\w'.cell? ⟨W.heap.size,2,none⟩=some (.string t.s)/\w'.cell? ⟨w2.heap.size+1,0,none⟩=some (.int .u8 t2.k)/\w'.cell? ⟨w2.heap.size+1,1,none⟩=some (.int .i64 t2.n)/\w'.cell? ⟨w2.heap.size+1,2,none⟩=some (.string t2.s)/\w'.cell? ⟨w2.heap.size+1,3,none⟩=some (.slice A2 t2.ks.length c2)) w' from fun w' hb=>⟨zb hb hr4.cells.1,zb hb (zc j0 rfl),zb hb (zc j2 rfl),zb hb (zc j2 rfl),zb hb (zc j2 rfl),zb hb (zc j2 rfl)⟩);clear hr4 hy j0 j2;go_upto_region 6 with fail
    have hSS:(fun w':World=>w'.cell? ⟨C.rb,6,none⟩=some (.pointer (some ⟨C.sb,0,none⟩))/\w'.cell? ⟨W.heap.size,2,none⟩=some (.string t.s)/\w'.cell? ⟨w2.heap.size+1,0,none⟩=some (.int .u8 t2.k)/\w'.cell? ⟨w2.heap.size+1,1,none⟩=some (.int .i64 t2.n)/\w'.cell? ⟨w2.heap.size+1,2,none⟩=some (.string t2.s)/\w'.cell? ⟨w2.heap.size+1,3,none⟩=some (.slice A2 t2.ks.length c2)) w9.drew/\(fun _:World=>True) w9.drew:=⟨aA.out _ (Below.refl _ _).drew,trivial⟩
    refine zkc (fun w':World=>w'.cell? ⟨C.rb,6,none⟩=some (.pointer (some ⟨C.sb,0,none⟩))/\w'.cell? ⟨W.heap.size,2,none⟩=some (.string t.s)/\w'.cell? ⟨w2.heap.size+1,0,none⟩=some (.int .u8 t2.k)/\w'.cell? ⟨w2.heap.size+1,1,none⟩=some (.int .i64 t2.n)/\w'.cell? ⟨w2.heap.size+1,2,none⟩=some (.string t2.s)/\w'.cell? ⟨w2.heap.size+1,3,none⟩=some (.slice A2 t2.ks.length c2)) (fun _:World=>True) 11 (by kernel_rfl) ?_;refine zT 0 hSS ?_;(try simp only[zQ]);refine zT 1 hSS ?_;(try simp only[zQ]);refine zT 2 hSS ?_;(try simp only[zQ]);refine zT 3 hSS ?_;(try simp only[zQ]);refine zT 4 hSS ?_;(try simp only[zQ]);refine zT 5 hSS ?_;(try simp only[zQ]);refine zT 6 hSS ?_;(try simp only[zQ]);refine zT 7 hSS ?_;(try simp only[zQ]);refine zT 8 hSS ?_;(try simp only[zQ])
    have had:Calls Tryz.prog 211 [.pointer (some ⟨C.rb,0,none⟩),nv t2.k t2.n t2.s A2 t2.ks.length c2].toArray w9.drew (ValP (C.plus W.heap.size hi) w9.drew t2 r4):=qi.out _ (Below.refl _ _).drew;refine zo 9 fun K hK=>?_;refine zlb (by rfl) (.func 211) [.tmp 45,.tmp 46] _ (by rfl) 211 _ zsM (by rfl) _ (by rfl) (fun v w'=>Below w9.heap.size w9 w'/\∃ x,v=.int .i64 x/\I64 x/\∀ f,valO t2 r4 f=f x r4) (had.mono ?_) ?_
    ·rintro e y1 ⟨eZ,hv1⟩;have b1:=zka (Below.refl w9.heap.size w9).drew eZ;rcases hv1 with⟨x,rfl,hx⟩|⟨x,rfl,oz,hx⟩
     ·refine .inr ⟨_,rfl,?_⟩;refine⟨rfl,eH.out.trans (Kpt.of_below b1),zka bT.out b1,?_⟩
      try rw[bR.out]
      rw[<-gY.out,hx]
     ·exact .inl ⟨_,rfl,b1,x,rfl,oz,hx⟩
    rintro v10 bG ⟨b10,z,rfl,hx,vG⟩;have jX:=zh b10;obtain⟨Rc,lC⟩:∃ R,zks r4.S t.s z=R:=⟨_,rfl⟩
    have jf:=zh (show zkm r4 Rc=o by rw[<-gY.out,vG,lC]);refine hK.out _ _ ⟨aA.out _ b10,trivial⟩ ?_;clear hK K had b10 hx vG hSS qi;(try simp only[zQ]);have had:Calls Tryz.prog 186 [.pointer (some ⟨C.sb,0,none⟩),.string t.s,.int .i64 z].toArray bG fun e w'=>∃ v,e=.returned v/\(v=.int .i64 Rc.1/\RI (C.plus W.heap.size hi) w' { r4 with S:=Rc.2 }/\Kpt C.n0 (C.plus W.heap.size hi).kb bG w') :=
     ((o8.out.later jX.out).ks.close t.s z).mono fun e w' ⟨h1,h2,h3⟩=>⟨_,h1,by rw[lC],(RI.store (C:=C.plus W.heap.size hi) (o8.out.later jX.out) (lC▸h2) h3 (by rw[jl.out.2,<-lC];exact jl.out.1.close_ _ _))⟩
    refine zo 10 fun K hK=>?_;refine zkr (by rfl) (.func 186) [.tmp 42,.tmp 44,.tmp 47] _ (by rfl) 186 _ zq0 (by rfl) _ (by rfl) _ had ?_;rintro v11 bA ⟨rfl,iq,iX⟩;have ig:=zh (jh.out.trans ((Kpt.of_below jX.out).trans iX));have j0:=ig.out.blk (.inr (.inr ⟨by omega,l0⟩)) K0.out;have j2:=ig.out.blk (.inr (.inr ⟨by omega,l2⟩)) K2.out;have kR:=zh iq;have az:(fun w':World=>w'.cell? ⟨C.rb,6,none⟩=some (.pointer (some ⟨C.sb,0,none⟩))/\w'.cell? ⟨W.heap.size,2,none⟩=some (.string t.s)/\w'.cell? ⟨w2.heap.size+1,0,none⟩=some (.int .u8 t2.k)/\w'.cell? ⟨w2.heap.size+1,1,none⟩=some (.int .i64 t2.n)/\w'.cell? ⟨w2.heap.size+1,2,none⟩=some (.string t2.s)/\w'.cell? ⟨w2.heap.size+1,3,none⟩=some (.slice A2 t2.ks.length c2)) bA:=⟨iq.cells.1,zc j0 rfl,zc j2 rfl,zc j2 rfl,zc j2 rfl,zc j2 rfl⟩
    refine hK.out _ _ ⟨az,trivial⟩ ?_;have kN:=zh az;have jW:=zh iq.below;clear hK K had iq iX j0 j2 az aA;(try simp only[zQ]);have iH:=zh (bD.out.trans (Kpt.less (C:=C) ig.out));have had:=zld ⟨C.rb,0,none⟩ Rc.1 bA;refine zp 11 fun K hK=>?_;refine zlb (by rfl) (.func 197) [.tmp 38,.tmp 48] _ (by rfl) 197 _ zma (by rfl) _ (by rfl) (fun v w'=>w'=bA/\Rc.1=0) (had.mono ?_) ?_
    ·rintro e y1 ⟨rfl,hv1⟩;rcases hv1 with⟨h0,u0,rfl⟩|⟨h0,rfl⟩
     ·exact .inl ⟨_,rfl,rfl,h0⟩
     ·refine .inr ⟨_,rfl,?_⟩;refine⟨rfl,iH.out,jW.out,?_⟩
      try rw[bR.out]
      rw[<-jf.out,show zkm r4 Rc=.err Rc.1 by unfold zkm;rw[if_pos h0]]
    rintro v12 jr ⟨rfl,h0⟩;have iF:=zh (show o=.ok { r4 with S:=Rc.2 } by rw[<-jf.out];unfold zkm;rw[if_neg (by simpa using h0)]);refine hK.out _ _ kN.out ?_;clear hK K had h0;(try simp only[zQ]);refine zd ?_;have mU:=zh kR.out.less;go_wp2_with fail;go_end0;refine⟨iH.out,jW.out,?_⟩
    try rw[bR.out]
    rw[iF.out];exact⟨⟨_,rfl⟩,mU.out⟩
theorem zvX {G:List PR->T->Prop} {g:Nat} (hS:IStC G g) {C:RC} (hC:C.Ok) {W:World} {r:RS} (h:RI C W r) (t:T) (v:Value) (back:Bool) (hv:NV C.w Any t v) (hk0:t.k=52) (hk:t.ks.length=4) (hG1:∀ u∈(kid t 1).ks,G C.p.prs u) (hG2:∀ u∈(kid t 2).ks,G C.p.prs u)
  (o:Out) (ho:brO C.p.prs C.F g back t r=o) (hog:o ≠ .gas) :
  Calls Tryz.prog 157 #[.pointer (some ⟨C.rb,0,none⟩),v,.bool back] W (RunP C W o):=by
 have aI:=hog;obtain⟨k,n,s,ks⟩:=t;obtain rfl:k=52:=hk0;obtain⟨A,c,rfl,-,hlk,hlc,-⟩:=hv.open_;have hb0:=zkd (Below.refl W.heap.size W) (.cells #[.int .u8 52,.int .i64 n,.string s,.slice A ks.length c] 29);obtain⟨x0,x1,x2,x3⟩:=box4 (heap_alloc_new W (.cells #[.int .u8 52,.int .i64 n,.string s,.slice A ks.length c] 29));have aK:=zh (Kpt.of_below (n0:=C.n0) (kb:=C.kb) hb0);have aL:=zh (show Calls Tryz.prog 193 #[.pointer (some ⟨C.rb,0,none⟩),.agg #[.int .u8 52,.int .i64 n,.string s,.slice A ks.length c],.bool back] (W.alloc (.cells #[.int .u8 52,.int .i64 n,.string s,.slice A ks.length c] 29)) (RunP C _ o) from (ho▸(zrK hS hC (h.later hb0) _ _ back hv hk hG1 hG2 (ho▸hog))));clear hv hb0 h aI hG1 ho hk;go_enter Tryz.func157,Tryz.ntmps157;go_wp2_with fail;refine aL.out.mono ?_;rintro e w1 ⟨hk1,hb1,ho1⟩
 cases o with
 | gas=>exact absurd rfl hog
 | err x =>
  subst ho1;exact⟨rfl,aK.out.trans hk1,hb1,rfl⟩
 | ok r1 =>
  obtain⟨⟨u,rfl⟩,hr1⟩:=ho1;have HR:=zh hr1;have aG:=zh (aK.out.trans hk1);have HB1:=zh hb1;clear x0 x1 x2 x3 hr1 hk1 hb1;go_wp2_with fail;go_end0;exact⟨aG.out,HB1.out,⟨_,rfl⟩,HR.out⟩
theorem zr7 {G:List PR->T->Prop} {g:Nat} (hS:IStC G g) {C:RC} (hC:C.Ok) {W:World} {r:RS} (h:RI C W r) (t:T) (v:Value) (back:Bool) (hv:NV C.w Any t v) (hk0:t.k=53) (hk:t.ks.length=4) (hG1:∀ u∈(kid t 1).ks,G C.p.prs u) (hG2:∀ u∈(kid t 2).ks,G C.p.prs u)
  (o:Out) (ho:lpO C.p.prs C.F g back t r=o) (hog:o ≠ .gas) :
  Calls Tryz.prog 157 #[.pointer (some ⟨C.rb,0,none⟩),v,.bool back] W (RunP C W o):=by
 have aI:=hog;obtain⟨k,n,s,ks⟩:=t;obtain rfl:k=53:=hk0;obtain⟨A,c,rfl,-,hlk,hlc,-⟩:=hv.open_;have hb0:=zkd (Below.refl W.heap.size W) (.cells #[.int .u8 53,.int .i64 n,.string s,.slice A ks.length c] 29);obtain⟨x0,x1,x2,x3⟩:=box4 (heap_alloc_new W (.cells #[.int .u8 53,.int .i64 n,.string s,.slice A ks.length c] 29));have aK:=zh (Kpt.of_below (n0:=C.n0) (kb:=C.kb) hb0);have aL:=zh (show Calls Tryz.prog 194 #[.pointer (some ⟨C.rb,0,none⟩),.agg #[.int .u8 53,.int .i64 n,.string s,.slice A ks.length c],.bool back] (W.alloc (.cells #[.int .u8 53,.int .i64 n,.string s,.slice A ks.length c] 29)) (RunP C _ o) from (ho▸(zuu hS hC (h.later hb0) _ _ back hv hk hG1 hG2 (ho▸hog))));clear hv hb0 h aI hG1 ho hk;go_enter Tryz.func157,Tryz.ntmps157;go_wp2_with fail;refine aL.out.mono ?_;rintro e w1 ⟨hk1,hb1,ho1⟩
 cases o with
 | gas=>exact absurd rfl hog
 | err x =>
  subst ho1;exact⟨rfl,aK.out.trans hk1,hb1,rfl⟩
 | ok r1 =>
  obtain⟨⟨u,rfl⟩,hr1⟩:=ho1;have HR:=zh hr1;have aG:=zh (aK.out.trans hk1);have HB1:=zh hb1;clear x0 x1 x2 x3 hr1 hk1 hb1;go_wp2_with fail;go_end0;exact⟨aG.out,HB1.out,⟨_,rfl⟩,HR.out⟩
theorem zrn {G:List PR->T->Prop} {g:Nat} (hS:IStC G g) {C:RC} (hC:C.Ok) {W:World} {r:RS} (h:RI C W r) (t:T) (v:Value) (back:Bool) (hv:NV C.w Any t v) (hk0:t.k=54) (hk:t.ks.length=3) (hG1:∀ u∈(kid t 1).ks,G C.p.prs u)
  (o:Out) (ho:loO C.p.prs C.F g back t r=o) (hog:o ≠ .gas) :
  Calls Tryz.prog 157 #[.pointer (some ⟨C.rb,0,none⟩),v,.bool back] W (RunP C W o):=by
 have aI:=hog;obtain⟨k,n,s,ks⟩:=t;obtain rfl:k=54:=hk0;obtain⟨A,c,rfl,-,hlk,hlc,-⟩:=hv.open_;have hb0:=zkd (Below.refl W.heap.size W) (.cells #[.int .u8 54,.int .i64 n,.string s,.slice A ks.length c] 29);obtain⟨x0,x1,x2,x3⟩:=box4 (heap_alloc_new W (.cells #[.int .u8 54,.int .i64 n,.string s,.slice A ks.length c] 29));have aK:=zh (Kpt.of_below (n0:=C.n0) (kb:=C.kb) hb0);have aL:=zh (show Calls Tryz.prog 195 #[.pointer (some ⟨C.rb,0,none⟩),.agg #[.int .u8 54,.int .i64 n,.string s,.slice A ks.length c],.bool back] (W.alloc (.cells #[.int .u8 54,.int .i64 n,.string s,.slice A ks.length c] 29)) (RunP C _ o) from (ho▸(zsB hS hC (h.later hb0) _ _ back hv hk hG1 (ho▸hog))));clear hv hb0 h aI hG1 ho hk;go_enter Tryz.func157,Tryz.ntmps157;go_wp2_with fail;refine aL.out.mono ?_;rintro e w1 ⟨hk1,hb1,ho1⟩
 cases o with
 | gas=>exact absurd rfl hog
 | err x =>
  subst ho1;exact⟨rfl,aK.out.trans hk1,hb1,rfl⟩
 | ok r1 =>
  obtain⟨⟨u,rfl⟩,hr1⟩:=ho1;have HR:=zh hr1;have aG:=zh (aK.out.trans hk1);have HB1:=zh hb1;clear x0 x1 x2 x3 hr1 hk1 hb1;go_wp2_with fail;go_end0;exact⟨aG.out,HB1.out,⟨_,rfl⟩,HR.out⟩
theorem zxK:IsFn Tryz.prog 20 Tryz.f20:=⟨Tryz.func20,by kernel_rfl,by kernel_rfl⟩
theorem zwg:IsFn Tryz.prog 19 Tryz.f19:=⟨Tryz.func19,by kernel_rfl,by kernel_rfl⟩
def basO (F:Int) (back:Bool) (t:T) (r:RS):Out:=(zkD F r).bind fun r=>zkm r (if back=true then zlp r.S t else doE r.S t)
theorem zt9 {C:RC} (hC:C.Ok) {W:World} {r:RS} (h:RI C W r) (t:T) (v:Value) (back:Bool) (hv:NV C.w Any t v) (hk:t.k≠52/\t.k≠53/\t.k≠54/\t.k≠55/\t.k≠50/\t.k≠51) :
  Calls Tryz.prog 157 #[.pointer (some ⟨C.rb,0,none⟩),v,.bool back] W (RunP C W (basO C.F back t r)):=by
 have HV:=zh hv;have H:=zh h;obtain⟨A,c,rfl,-,hlk,hlc,-⟩:=hv.open_;have e0:(t.k==52)=false:=by simpa using hk.1
 have e1:(t.k==53)=false:=by simpa using hk.2.1
 have e2:(t.k==54)=false:=by simpa using hk.2.2.1
 have e3:(t.k==55)=false:=by simpa using hk.2.2.2.1
 have e4:(t.k==50)=false:=by simpa using hk.2.2.2.2.1
 have e5:(t.k==51)=false:=by simpa using hk.2.2.2.2.2
 have hb0:=zkd (Below.refl W.heap.size W) (.cells #[.int .u8 t.k,.int .i64 t.n,.string t.s,.slice A t.ks.length c] 29);obtain⟨bB,h1⟩:=h.plus hC hb0;have k0:=heap_alloc_new W (.cells #[.int .u8 t.k,.int .i64 t.n,.string t.s,.slice A t.ks.length c] 29);obtain⟨x0,x1,x2,x3⟩:=box4 k0;have bD:=zh (Kpt.of_below (n0:=C.n0) (kb:=C.kb) hb0);obtain⟨w3,hw3⟩:∃ x,W.alloc (.cells #[.int .u8 t.k,.int .i64 t.n,.string t.s,.slice A t.ks.length c] 29)=x:=⟨_,rfl⟩
 rw[hw3] at bB h1 k0 x0 x1 x2 x3 bD;have l0:=zkk k0;have K0:=zh k0;obtain⟨hi,hhi⟩:∃ x,w3.heap.size=x:=⟨_,rfl⟩
 rw[hhi] at bB h1 l0;have ji:=zh (zlV bB h1);obtain⟨o,ho⟩:∃ o,basO C.F back t r=o:=⟨_,rfl⟩
 have bR:=zh ho;have HO:=zh (show(zkD C.F r).bind (fun r=>zkm r (if back=true then zlp r.S t else doE r.S t))=o from ho);rw[ho];clear hv hb0 bB h1 k0 h hk ho;go_enter Tryz.func157,Tryz.ntmps157;go_wp2_with fail;refine ji.out.mono ?_;rintro e w4 ⟨hk4,hb4,gH⟩;have dO:=zh (bD.out.trans (Kpt.less (C:=C) hk4));have ax:=zh (show Below C.w.heap.size C.w w4 from hb4);have bK:match zkD C.F r with
  | .gas=>True
  | .err x=>e=zlB x
  | .ok r=>(∃ u,e=.returned u)/\RI (C.plus W.heap.size hi) w4 r:=gH
 have eP:=zh hk4;clear x0 x1 x2 x3 ji hk4 hb4 gH hw3
 cases hy:zkD C.F r with
 | gas=>exact absurd hy (zkx _ _).1
 | err x =>
  rw[hy] at bK;subst bK;refine⟨rfl,dO.out,ax.out,?_⟩
  try rw[bR.out]
  rw[<-HO.out,hy];rfl
 | ok r1 =>
  rw[hy] at bK;obtain⟨⟨u3,rfl⟩,hr1⟩:=bK;have HR4:=zh hr1;have jC:=zh (show zkm r1 (if back=true then zlp r1.S t else doE r1.S t)=o by rw[<-HO.out,hy];rfl);have jm:=zh (show FB r.n r1.S/\r1.n=r.n+1 by obtain⟨rfl,-⟩:=zkQ hy;exact⟨H.out.fb,rfl⟩);have j0:=eP.out.blk (.inr (.inr ⟨Nat.le_refl _,l0⟩)) K0.out;have hSS:(fun w':World=>w'.cell? ⟨C.rb,6,none⟩=some (.pointer (some ⟨C.sb,0,none⟩))/\w'.cell? ⟨W.heap.size,0,none⟩=some (.int .u8 t.k)/\w'.cell? ⟨W.heap.size,1,none⟩=some (.int .i64 t.n)/\w'.cell? ⟨W.heap.size,2,none⟩=some (.string t.s)/\w'.cell? ⟨W.heap.size,3,none⟩=some (.slice A t.ks.length c)) w4.drew/\(fun _:World=>True) w4.drew:=⟨⟨hr1.cells.1,zc j0 rfl,zc j0 rfl,zc j0 rfl,zc j0 rfl⟩,trivial⟩
  clear hr1 hy j0
  cases back
  ·skip
   go_upto_region 5 with fail;refine zkc (fun w':World=>w'.cell? ⟨C.rb,6,none⟩=some (.pointer (some ⟨C.sb,0,none⟩))/\w'.cell? ⟨W.heap.size,0,none⟩=some (.int .u8 t.k)/\w'.cell? ⟨W.heap.size,1,none⟩=some (.int .i64 t.n)/\w'.cell? ⟨W.heap.size,2,none⟩=some (.string t.s)/\w'.cell? ⟨W.heap.size,3,none⟩=some (.slice A t.ks.length c)) (fun _:World=>True) 7 (by kernel_rfl) ?_;refine zT 0 hSS ?_;(try simp only[zQ]);refine zT 1 hSS ?_;(try simp only[zQ]);refine zT 2 hSS ?_;(try simp only[zQ]);refine zT 3 hSS ?_;(try simp only[zQ]);refine zT 4 hSS ?_;(try simp only[zQ]);refine zT 5 hSS ?_;(try simp only[zQ]);obtain⟨R,hR⟩:∃ R,doE r1.S t=R:=⟨_,rfl⟩
   have iP:=zh (show zkm r1 R=o by rw[<-hR];exact jC.out);have hbd:Below w4.heap.size w4 w4.drew:=(Below.refl _ _).drew;have had:Calls Tryz.prog 20 [.pointer (some ⟨C.sb,0,none⟩),.agg #[.int .u8 t.k,.int .i64 t.n,.string t.s,.slice A t.ks.length c]].toArray w4.drew fun e w'=>∃ v,e=.returned v/\(v=.int .i64 R.1/\RI (C.plus W.heap.size hi) w' { r1 with S:=R.2 }/\Kpt C.n0 (C.plus W.heap.size hi).kb w4 w') :=
    ((HR4.out.later hbd).ks.do_ t _ (HV.out.later (zka ax.out hbd))).mono fun e w' ⟨h1,h2,h3⟩=>by
     have hs:=RI.store (C:=C.plus W.heap.size hi) (HR4.out.later hbd) h2 h3 (by rw[jm.out.2];exact jm.out.1.do_ _);rw[hR] at h1 hs;exact⟨_,h1,rfl,hs.1,(Kpt.of_below hbd).trans hs.2⟩
   refine zo 6 fun K hK=>?_;refine zkr (by rfl) (.func 20) [.tmp 23,.tmp 24] _ (by rfl) 20 _ zxK (by rfl) _ (by rfl) _ had ?_;rintro v6 w6 ⟨rfl,bN,ay⟩;have bY:=zh (dO.out.trans (Kpt.less (C:=C) ay));have j0:=(eP.out.trans ay).blk (.inr (.inr ⟨Nat.le_refl _,l0⟩)) K0.out;have az:(fun w':World=>w'.cell? ⟨C.rb,6,none⟩=some (.pointer (some ⟨C.sb,0,none⟩))/\w'.cell? ⟨W.heap.size,0,none⟩=some (.int .u8 t.k)/\w'.cell? ⟨W.heap.size,1,none⟩=some (.int .i64 t.n)/\w'.cell? ⟨W.heap.size,2,none⟩=some (.string t.s)/\w'.cell? ⟨W.heap.size,3,none⟩=some (.slice A t.ks.length c)) w6:=⟨bN.cells.1,zc j0 rfl,zc j0 rfl,zc j0 rfl,zc j0 rfl⟩
   have dY:=zh bN.less;have bg:=zh bN.below;refine hK.out _ _ ⟨az,trivial⟩ ?_;have kN:=zh az;clear hK K had bN ay j0 az hSS;(try simp only[zQ]);have had:=zld ⟨C.rb,0,none⟩ R.1 w6;refine zp 7 fun K hK=>?_;refine zlb (by rfl) (.func 197) [.tmp 19,.tmp 25] _ (by rfl) 197 _ zma (by rfl) _ (by rfl) (fun v w'=>w'=w6/\R.1=0) (had.mono ?_) ?_
   ·rintro e y1 ⟨rfl,hv1⟩;rcases hv1 with⟨h0,u0,rfl⟩|⟨h0,rfl⟩
    ·exact .inl ⟨_,rfl,rfl,h0⟩
    ·refine .inr ⟨_,rfl,?_⟩;refine⟨rfl,bY.out,bg.out,?_⟩
     try rw[bR.out]
     rw[<-iP.out,show zkm r1 R=.err R.1 by unfold zkm;rw[if_pos h0]]
   rintro v12 jr ⟨rfl,h0⟩;have iF:=zh (show o=.ok { r1 with S:=R.2 } by rw[<-iP.out];unfold zkm;rw[if_neg (by simpa using h0)]);refine hK.out _ _ kN.out ?_;clear hK K had h0;(try simp only[zQ]);refine zd ?_;go_wp2_with fail;go_end0;refine⟨bY.out,bg.out,?_⟩
   try rw[bR.out]
   rw[iF.out];exact⟨⟨_,rfl⟩,dY.out⟩
  ·skip
   go_upto_region 4 with fail;refine zkc (fun w':World=>w'.cell? ⟨C.rb,6,none⟩=some (.pointer (some ⟨C.sb,0,none⟩))/\w'.cell? ⟨W.heap.size,0,none⟩=some (.int .u8 t.k)/\w'.cell? ⟨W.heap.size,1,none⟩=some (.int .i64 t.n)/\w'.cell? ⟨W.heap.size,2,none⟩=some (.string t.s)/\w'.cell? ⟨W.heap.size,3,none⟩=some (.slice A t.ks.length c)) (fun _:World=>True) 7 (by kernel_rfl) ?_;refine zT 0 hSS ?_;(try simp only[zQ]);refine zT 1 hSS ?_;(try simp only[zQ]);refine zT 2 hSS ?_;(try simp only[zQ]);refine zT 3 hSS ?_;(try simp only[zQ]);refine zT 4 hSS ?_;(try simp only[zQ]);refine zT 5 hSS ?_;(try simp only[zQ]);obtain⟨R,hR⟩:∃ R,zlp r1.S t=R:=⟨_,rfl⟩
   have iP:=zh (show zkm r1 R=o by rw[<-hR];exact jC.out);have hbd:Below w4.heap.size w4 w4.drew:=(Below.refl _ _).drew;have had:Calls Tryz.prog 19 [.pointer (some ⟨C.sb,0,none⟩),.agg #[.int .u8 t.k,.int .i64 t.n,.string t.s,.slice A t.ks.length c]].toArray w4.drew fun e w'=>∃ v,e=.returned v/\(v=.int .i64 R.1/\RI (C.plus W.heap.size hi) w' { r1 with S:=R.2 }/\Kpt C.n0 (C.plus W.heap.size hi).kb w4 w') :=
    ((HR4.out.later hbd).ks.undo t _ (HV.out.later (zka ax.out hbd))).mono fun e w' ⟨h1,h2,h3⟩=>by
     have hs:=RI.store (C:=C.plus W.heap.size hi) (HR4.out.later hbd) h2 h3 (by rw[jm.out.2];exact jm.out.1.undo _);rw[hR] at h1 hs;exact⟨_,h1,rfl,hs.1,(Kpt.of_below hbd).trans hs.2⟩
   refine zo 6 fun K hK=>?_;refine zkr (by rfl) (.func 19) [.tmp 15,.tmp 16] _ (by rfl) 19 _ zwg (by rfl) _ (by rfl) _ had ?_;rintro v6 w6 ⟨rfl,bN,ay⟩;have bY:=zh (dO.out.trans (Kpt.less (C:=C) ay));have j0:=(eP.out.trans ay).blk (.inr (.inr ⟨Nat.le_refl _,l0⟩)) K0.out;have az:(fun w':World=>w'.cell? ⟨C.rb,6,none⟩=some (.pointer (some ⟨C.sb,0,none⟩))/\w'.cell? ⟨W.heap.size,0,none⟩=some (.int .u8 t.k)/\w'.cell? ⟨W.heap.size,1,none⟩=some (.int .i64 t.n)/\w'.cell? ⟨W.heap.size,2,none⟩=some (.string t.s)/\w'.cell? ⟨W.heap.size,3,none⟩=some (.slice A t.ks.length c)) w6:=⟨bN.cells.1,zc j0 rfl,zc j0 rfl,zc j0 rfl,zc j0 rfl⟩
   have dY:=zh bN.less;have bg:=zh bN.below;refine hK.out _ _ ⟨az,trivial⟩ ?_;have kN:=zh az;clear hK K had bN ay j0 az hSS;(try simp only[zQ]);have had:=zld ⟨C.rb,0,none⟩ R.1 w6;refine zp 7 fun K hK=>?_;refine zlb (by rfl) (.func 197) [.tmp 11,.tmp 17] _ (by rfl) 197 _ zma (by rfl) _ (by rfl) (fun v w'=>w'=w6/\R.1=0) (had.mono ?_) ?_
   ·rintro e y1 ⟨rfl,hv1⟩;rcases hv1 with⟨h0,u0,rfl⟩|⟨h0,rfl⟩
    ·exact .inl ⟨_,rfl,rfl,h0⟩
    ·refine .inr ⟨_,rfl,?_⟩;refine⟨rfl,bY.out,bg.out,?_⟩
     try rw[bR.out]
     rw[<-iP.out,show zkm r1 R=.err R.1 by unfold zkm;rw[if_pos h0]]
   rintro v12 jr ⟨rfl,h0⟩;have iF:=zh (show o=.ok { r1 with S:=R.2 } by rw[<-iP.out];unfold zkm;rw[if_neg (by simpa using h0)]);refine hK.out _ _ kN.out ?_;clear hK K had h0;(try simp only[zQ]);refine zd ?_;go_wp2_with fail;go_end0;refine⟨bY.out,bg.out,?_⟩
   try rw[bR.out]
   rw[iF.out];exact⟨⟨_,rfl⟩,dY.out⟩
end Go.Proofs.YtckhofdinldhpaaGreat
