/-
  Texts of the proof, put together without their remarks: Ie, Is, Ic, Iu, Iw, Ix, Iy, Il, Iv, Id, It, Ik, Im, Iz.
-/
import Derived.Test.YthjinpodhacleaaGreatB9
set_option linter.unusedSimpArgs false
set_option linter.unusedVariables false
set_option maxHeartbeats 8000000
set_option maxRecDepth 100000
namespace Go.Proofs.YthjinpodhacleaaGreat
open Tryz
section
open Go Go.RowKit
section
variable {P:Program} {ops:Array Oper} {Q:Exit->Act->World->Prop} {md:Region.Mode} {S1 S2:World->Prop} {k:Nat}
theorem zwk{i j:Nat}{o o':Oper}{fuel:Nat}{listed:Array Bool}{a:Act}{w:World}(hr:Region.ready md ops listed=[i,j])(ho:ops[i]?=some o)(ho':ops[j]?=some o')
  (h:∀K':Act->World->Prop,Shut (∀a w,S1 w/\S2 w->wpG P md ops Q S1 S2 k fuel (listed.setIfInBounds i true) a w->K' a w)->if Region.wanted o (yielded ops a.tmps)=true then Oper.wp P o a w K' Q else K' (a.put o.dst undef) w)
  (h':∀K':Act->World->Prop,Shut (∀a w,S1 w/\S2 w->wpG P md ops Q S1 S2 k fuel (listed.setIfInBounds j true) a w->K' a w)->if Region.wanted o' (yielded ops a.tmps)=true then Oper.wp P o' a w K' Q else K' (a.put o'.dst undef) w) :
  wpG P md ops Q S1 S2 k (fuel+1) listed a w:=by
 refine⟨(fun h0=>by rw[hr]at h0;cases h0),fun x hx=>?_⟩;rw[hr]at hx;simp only[List.mem_cons,List.not_mem_nil,or_false]at hx;rcases hx with rfl|rfl
 ·exact wpOp_step ho fun K' hK=>h K' fun a w hS hW=>hK a w ⟨⟨hS.1,fun _=>hS.2⟩,hW⟩
 ·exact wpOp_step ho' fun K' hK=>h' K' fun a w hS hW=>hK a w ⟨⟨hS.1,fun _=>hS.2⟩,hW⟩
end
theorem set4{W:World}{b:Nat}{x0 x1 x2 x3 u0 u1 u2 u3:Value}{E:TypeId}(h:W.heap[b]?=some (.cells #[x0,x1,x2,x3] E (0,0))) :
  ((((W.setCell ⟨b,0,none⟩ u0).setCell ⟨b,1,none⟩ u1).setCell ⟨b,2,none⟩ u2).setCell ⟨b,3,none⟩ u3).heap[b]?=some (.cells #[u0,u1,u2,u3] E (0,0)) /\
   Chg (fun q=>q=b) W ((((W.setCell ⟨b,0,none⟩ u0).setCell ⟨b,1,none⟩ u1).setCell ⟨b,2,none⟩ u2).setCell ⟨b,3,none⟩ u3):=by
 refine⟨?_,((((Chg.refl (fun q=>q=b) W).setCell (p:=⟨b,0,none⟩) (.inl rfl) _).setCell (p:=⟨b,1,none⟩) (.inl rfl) _).setCell (p:=⟨b,2,none⟩) (.inl rfl) _).setCell (p:=⟨b,3,none⟩) (.inl rfl) _⟩;rw[heap_setCell_same _ b 3 _ _ u3 (heap_setCell_same _ b 2 _ _ u2 (heap_setCell_same _ b 1 _ _ u1 (heap_setCell_same W b 0 _ _ u0 h)))];simp
theorem zp6(t:T)(v:Value)(back:Bool)(w0 w:World)(hB0:Below w0.heap.size w0 w)(hv:NV w0 Any t v)(hk:0<t.ks.length):Calls prog 151 #[v,.bool back] w fun e W'=>∃v1 v2,e=.returned (.tuple #[v1,v2])/\NV w0 Any (fstT back t) v1/\NV w0 Any (lstT back t) v2/\Below w.heap.size w W':=by
 have HV:=zh hv;obtain⟨A,c,rfl,hf,hlk,hlc,hrow⟩:=hv.open_;obtain⟨m,hm⟩:∃m,t.ks.length=m+1:=⟨t.ks.length-1,by omega⟩
 obtain⟨a,a0,a1,a2,a3,rfl,-,ha,hna⟩:=hrow 0 (by omega);obtain⟨a',b0,b1,b2,b3,e',-,hb,hnb⟩:=hrow m (by omega);injection e' with e';subst e';obtain⟨t6,zR⟩:=zX (t.ks[0]'(by omega));obtain⟨t7,zP⟩:=zX (t.ks[m]'(by omega));rw[zR]at hna;rw[zP]at hnb;have iH:=zh hna;have BL:=zh hnb;have BD:=zh (show kid t 0=t6 by simp[kid,show 0<t.ks.length by omega,zR]);have BC:=zh (show kid t (t.ks.length-1)=t7 by simp[kid,hm,show m<t.ks.length by omega,zP]);obtain⟨A6,c6,e6,-⟩:=hna.open_;obtain⟨A7,c7,e7,-⟩:=hnb.open_;simp only[nv,Value.agg.injEq,Array.mk.injEq,List.cons.injEq,and_true]at e6 e7;obtain⟨rfl,rfl,rfl,rfl⟩:=e6;obtain⟨rfl,rfl,rfl,rfl⟩:=e7;clear hna hnb zR zP;obtain⟨ha0,ha1,ha2,sQ⟩:=ha;obtain⟨hb0,hb1,hb2,hb3⟩:=hb;simp only[Nat.zero_mul,Addr.add_zero']at ha0 ha1 ha2 sQ
 replace ha0:=zb hB0 ha0
 replace ha1:=zb hB0 ha1
 replace ha2:=zb hB0 ha2
 replace sQ:=zb hB0 sQ
 replace hb0:=zb hB0 hb0
 replace hb1:=zb hB0 hb1
 replace hb2:=zb hB0 hb2
 replace hb3:=zb hB0 hb3
 clear hB0;have vB:IntKind.i64.wrap (m:Int)=(m:Int):=IntWalk.i64_in _ (by unfold LK at hlk;omega);have hm0:(0:Int)<=(m:Int):=by omega
 have hm1:(m:Int)<((m:Int)+1):=by omega
 have hbl:Below w.heap.size w (((w.alloc (.cells #[.int .u8 t.k,.int .i64 t.n,.string t.s,.slice (some a) (m+1) c] 28)).alloc (.cells #[.int .u8 0,.int .i64 0,.string ⟨#[]⟩,.slice none 0 0] 28)).alloc (.cells #[.int .u8 0,.int .i64 0,.string ⟨#[]⟩,.slice none 0 0] 28)):=zkb (zkb (zkb zr _) _) _;have hk0:=zke (zke (heap_alloc_new w (.cells #[.int .u8 t.k,.int .i64 t.n,.string t.s,.slice (some a) (m+1) c] 28)) (.cells #[.int .u8 0,.int .i64 0,.string ⟨#[]⟩,.slice none 0 0] 28)) (.cells #[.int .u8 0,.int .i64 0,.string ⟨#[]⟩,.slice none 0 0] 28);have hk4:=zke (heap_alloc_new (w.alloc (.cells #[.int .u8 t.k,.int .i64 t.n,.string t.s,.slice (some a) (m+1) c] 28)) (.cells #[.int .u8 0,.int .i64 0,.string ⟨#[]⟩,.slice none 0 0] 28)) (.cells #[.int .u8 0,.int .i64 0,.string ⟨#[]⟩,.slice none 0 0] 28)
 have hk5:=heap_alloc_new ((w.alloc (.cells #[.int .u8 t.k,.int .i64 t.n,.string t.s,.slice (some a) (m+1) c] 28)).alloc (.cells #[.int .u8 0,.int .i64 0,.string ⟨#[]⟩,.slice none 0 0] 28)) (.cells #[.int .u8 0,.int .i64 0,.string ⟨#[]⟩,.slice none 0 0] 28);simp only[World.size_alloc]at hk4 hk5;go_enter func151,ntmps151;go_upto_region 1 with fail;obtain⟨w1,hw1⟩:=zX (((w.alloc (.cells #[.int .u8 t.k,.int .i64 t.n,.string t.s,.slice (some a) (m+1) c] 28)).alloc (.cells #[.int .u8 0,.int .i64 0,.string ⟨#[]⟩,.slice none 0 0] 28)).alloc (.cells #[.int .u8 0,.int .i64 0,.string ⟨#[]⟩,.slice none 0 0] 28));rw[hw1]at hbl hk0 hk4 hk5 ⊢
 have hSS:zW (fun w':World=>zv w' w.heap.size 3 (.slice (some a) (m+1) c)/\(w'.cell? a=some (.int .u8 t6.k)/\zv w' a.block (a.off+1) (.int .i64 t6.n)/\zv w' a.block (a.off+2) (.string t6.s)/\zv w' a.block (a.off+3) (.slice A6 t6.ks.length c6))/\(w'.cell? (a.add (m*4))=some (.int .u8 t7.k)/\zv w' ((a.add (m*4)).block) ((a.add (m*4)).off+1) (.int .i64 t7.n)/\zv w' ((a.add (m*4)).block) ((a.add (m*4)).off+2) (.string t7.s)/\zv w' ((a.add (m*4)).block) ((a.add (m*4)).off+3) (.slice A7 t7.ks.length c7))) zU w1.drew:=⟨⟨zc hk0 rfl,⟨zb hbl.drew ha0,zb hbl.drew ha1,zb hbl.drew ha2,zb hbl.drew sQ⟩,⟨zb hbl.drew hb0,zb hbl.drew hb1,zb hbl.drew hb2,zb hbl.drew hb3⟩⟩,trivial⟩
 have gL:=zh (show w1.heap[w.heap.size+1]?=some (.cells #[.int .u8 0,.int .i64 0,.string ⟨#[]⟩,.slice none 0 0] 28 (0,0))from hk4);have fI:=zh (show w1.heap[w.heap.size+1+1]?=some (.cells #[.int .u8 0,.int .i64 0,.string ⟨#[]⟩,.slice none 0 0] 28 (0,0))from hk5);have af:=zh hbl;clear hw1 hbl hk0 hk4 hk5 ha0 ha1 ha2 sQ hb0 hb1 hb2 hb3 hrow HV;refine wp_region_noPanic ?_;refine zG hSS 15 ?_;refine zT 0 hSS ?_;refine zT 1 hSS ?_;refine zT 2 hSS ?_;refine zT 3 hSS ?_;refine zT 4 hSS ?_;refine zT 5 hSS ?_;refine zT 6 hSS ?_;refine zT 7 hSS ?_;refine zT 8 hSS ?_;refine zT 9 hSS ?_;refine zT 10 hSS ?_;refine zT 11 hSS ?_
 have uh:=zh (show ∀w',Below w1.heap.size w1 w'->(fun w':World=>zv w' w.heap.size 3 (.slice (some a) (m+1) c)/\(w'.cell? a=some (.int .u8 t6.k)/\zv w' a.block (a.off+1) (.int .i64 t6.n)/\zv w' a.block (a.off+2) (.string t6.s)/\zv w' a.block (a.off+3) (.slice A6 t6.ks.length c6))/\(w'.cell? (a.add (m*4))=some (.int .u8 t7.k)/\zv w' ((a.add (m*4)).block) ((a.add (m*4)).off+1) (.int .i64 t7.n)/\zv w' ((a.add (m*4)).block) ((a.add (m*4)).off+2) (.string t7.s)/\zv w' ((a.add (m*4)).block) ((a.add (m*4)).off+3) (.slice A7 t7.ks.length c7))) w' from fun w' hb=>by
  obtain⟨⟨q0,⟨q1,q2,q3,q4⟩,q5,q6,q7,q8⟩,-⟩:=hSS;exact⟨zb hb q0,⟨zb hb q1,zb hb q2,zb hb q3,zb hb q4⟩,zb hb q5,zb hb q6,zb hb q7,zb hb q8⟩)
 clear hSS;refine zwk (i:=12) (j:=13) (by kernel_rfl) rfl rfl (fun K hK=>?_) (fun K hK=>?_);(try simp only[zA,zB,zC]);go_simp;have hb2:=zkb (zs w1) (.cells #[.int .u8 0,.int .i64 0,.string ⟨#[]⟩,.slice none 0 0] 28);refine hK.out _ _ ⟨uh.out _ hb2.drew,trivial⟩ ?_;clear hK K;(try simp only[zQ]);refine zo 13 fun K hK=>?_;(try simp only[zA,zB,zC]);go_simp;have hb3:Below w1.heap.size w1 ((w1.alloc (.cells #[.int .u8 0,.int .i64 0,.string ⟨#[]⟩,.slice none 0 0] 28)).alloc (.cells #[.int .u8 0,.int .i64 0,.string ⟨#[]⟩,.slice none 0 0] 28)):=zkb hb2 (.cells #[.int .u8 0,.int .i64 0,.string ⟨#[]⟩,.slice none 0 0] 28);have eP:=zke (heap_alloc_new w1 (.cells #[.int .u8 0,.int .i64 0,.string ⟨#[]⟩,.slice none 0 0] 28)) (.cells #[.int .u8 0,.int .i64 0,.string ⟨#[]⟩,.slice none 0 0] 28)
 have lu:=heap_alloc_new (w1.alloc (.cells #[.int .u8 0,.int .i64 0,.string ⟨#[]⟩,.slice none 0 0] 28)) (.cells #[.int .u8 0,.int .i64 0,.string ⟨#[]⟩,.slice none 0 0] 28);rw[World.size_alloc]at lu;refine hK.out _ _ ⟨uh.out _ hb3.drew,trivial⟩ ?_;clear hK K;(try simp only[zQ]);obtain⟨w3,hw3⟩:=zX ((w1.alloc (.cells #[.int .u8 0,.int .i64 0,.string ⟨#[]⟩,.slice none 0 0] 28)).alloc (.cells #[.int .u8 0,.int .i64 0,.string ⟨#[]⟩,.slice none 0 0] 28));rw[hw3]at hb3 eP lu ⊢;clear hw3 hb2;generalize GE7:w1.heap.size+1=b7 at lu ⊢;generalize GE6:w1.heap.size=b6 at eP ⊢;rotate_left 1;(try simp only[zA,zB,zC]);go_simp;have hb2:=zkb (zs w1) (.cells #[.int .u8 0,.int .i64 0,.string ⟨#[]⟩,.slice none 0 0] 28);refine hK.out _ _ ⟨uh.out _ hb2.drew,trivial⟩ ?_;clear hK K;(try simp only[zQ]);refine zo 12 fun K hK=>?_;(try simp only[zA,zB,zC]);go_simp
 have hb3:Below w1.heap.size w1 ((w1.alloc (.cells #[.int .u8 0,.int .i64 0,.string ⟨#[]⟩,.slice none 0 0] 28)).alloc (.cells #[.int .u8 0,.int .i64 0,.string ⟨#[]⟩,.slice none 0 0] 28)):=zkb hb2 (.cells #[.int .u8 0,.int .i64 0,.string ⟨#[]⟩,.slice none 0 0] 28);have lu:=zke (heap_alloc_new w1 (.cells #[.int .u8 0,.int .i64 0,.string ⟨#[]⟩,.slice none 0 0] 28)) (.cells #[.int .u8 0,.int .i64 0,.string ⟨#[]⟩,.slice none 0 0] 28);have eP:=heap_alloc_new (w1.alloc (.cells #[.int .u8 0,.int .i64 0,.string ⟨#[]⟩,.slice none 0 0] 28)) (.cells #[.int .u8 0,.int .i64 0,.string ⟨#[]⟩,.slice none 0 0] 28);rw[World.size_alloc]at eP;refine hK.out _ _ ⟨uh.out _ hb3.drew,trivial⟩ ?_;clear hK K;(try simp only[zQ]);obtain⟨w3,hw3⟩:=zX ((w1.alloc (.cells #[.int .u8 0,.int .i64 0,.string ⟨#[]⟩,.slice none 0 0] 28)).alloc (.cells #[.int .u8 0,.int .i64 0,.string ⟨#[]⟩,.slice none 0 0] 28))
 rw[hw3]at hb3 lu eP ⊢;clear hw3 hb2;generalize GE7:w1.heap.size+1=b6 at eP ⊢;generalize GE6:w1.heap.size=b7 at lu ⊢
 all_goals
  have gE:w1.heap.size<=b6/\w1.heap.size<=b7/\b6≠b7:=by omega
  obtain⟨g6,g7,gN⟩:=gE;clear GE6 GE7;have HB3:=zh hb3;have c0:w3.cell? ⟨b6,0,none⟩=some (.int .u8 0):=zc eP rfl;have c1:w3.cell? ⟨b6,1,none⟩=some (.int .i64 0):=zc eP rfl;have c2:w3.cell? ⟨b6,2,none⟩=some (.string ⟨#[]⟩):=zc eP rfl;have c3:w3.cell? ⟨b6,3,none⟩=some (.slice none 0 0):=zc eP rfl;have cf:∀o,w3.frozen? ⟨b6,o,none⟩=false:=fun _=>zf eP;refine zo 14 fun K hK=>?_;(try simp only[zA,zB,zC]);go_simp;obtain⟨hh,hch⟩:=set4 (u0:=(.int .u8 t6.k)) (u1:=(.int .i64 t6.n)) (u2:=(.string t6.s)) (u3:=(.slice A6 t6.ks.length c6)) eP;obtain⟨w4,hwn⟩:=zX ((((w3.setCell ⟨b6,0,none⟩ (.int .u8 t6.k)).setCell ⟨b6,1,none⟩ (.int .i64 t6.n)).setCell ⟨b6,2,none⟩ (.string t6.s)).setCell ⟨b6,3,none⟩ (.slice A6 t6.ks.length c6));rw[hwn]at hh hch ⊢;have hb4:Below w1.heap.size w1 w4:=HB3.out.trans (hch.below HB3.out.size fun b e=>by omega);refine hK.out _ _ ⟨uh.out _ hb4.drew,trivial⟩ ?_
  clear hK K c0 c1 c2 c3 cf hwn;(try simp only[zQ]);have ay:=zh hb4;have ja:=hch.keep lu (by omega);have c0:w4.cell? ⟨b7,0,none⟩=some (.int .u8 0):=zc ja rfl;have c1:w4.cell? ⟨b7,1,none⟩=some (.int .i64 0):=zc ja rfl;have c2:w4.cell? ⟨b7,2,none⟩=some (.string ⟨#[]⟩):=zc ja rfl;have c3:w4.cell? ⟨b7,3,none⟩=some (.slice none 0 0):=zc ja rfl;have cf:∀o,w4.frozen? ⟨b7,o,none⟩=false:=fun _=>zf ja;refine zp 15 fun K hK=>?_;(try simp only[zA,zB,zC]);go_simp;obtain⟨vH,bM⟩:=set4 (u0:=(.int .u8 t7.k)) (u1:=(.int .i64 t7.n)) (u2:=(.string t7.s)) (u3:=(.slice A7 t7.ks.length c7)) ja;obtain⟨w5,hwn⟩:=zX ((((w4.setCell ⟨b7,0,none⟩ (.int .u8 t7.k)).setCell ⟨b7,1,none⟩ (.int .i64 t7.n)).setCell ⟨b7,2,none⟩ (.string t7.s)).setCell ⟨b7,3,none⟩ (.slice A7 t7.ks.length c7));rw[hwn]at vH bM ⊢;have hb5:Below w1.heap.size w1 w5:=ay.out.trans (bM.below ay.out.size fun b e=>by omega)
  refine hK.out _ _ (uh.out _ hb5.drew) ?_;clear hK K c0 c1 c2 c3 cf hwn;(try simp only[zQ]);have xR:=zh (bM.keep hh (by omega));have BZ:=zh vH;have aR:=zh (show Below w1.heap.size w1 w5 from hb5);clear hb3 eP lu ja hh vH hch bM hb4 hb5 ay HB3 uh;refine zd ?_;refine NoPanic.normal ?_;have qC:=zh (zkc gL.out aR.out);have tQ:=zh (zkc fI.out aR.out);obtain⟨P,Q,X,Y,AX,AY,CX,CY,hE⟩:∃P Q X Y AX AY CX CY,cond back (P=b7/\Q=b6/\X=t7/\Y=t6/\AX=A7/\AY=A6/\CX=c7/\CY=c6) (P=b6/\Q=b7/\X=t6/\Y=t7/\AX=A6/\AY=A7/\CX=c6/\CY=c7):=by cases back<;>exact⟨_,_,_,_,_,_,_,_,rfl,rfl,rfl,rfl,rfl,rfl,rfl,rfl⟩
  cases back
  obtain⟨rfl,rfl,rfl,rfl,rfl,rfl,rfl,rfl⟩:=hE;have HX:=xR;have HY:=BZ;have NX:=iH;have NY:=BL;have EX:=BD;have EY:=BC;go_upto_region 4 with fail;rotate_left 1;obtain⟨rfl,rfl,rfl,rfl,rfl,rfl,rfl,rfl⟩:=hE;have HX:=BZ;have HY:=xR;have NX:=BL;have NY:=iH;have EX:=BC;have EY:=BD;go_upto_region 3 with fail
  all_goals
   clear xR BZ iH BL BD BC;have hS5:(fun w':World=>(zN4 w' P (.int .u8 X.k) (.int .i64 X.n) (.string X.s) (.slice AX X.ks.length CX))/\zN4 w' Q (.int .u8 Y.k) (.int .i64 Y.n) (.string Y.s) (.slice AY Y.ks.length CY)) w5.drew:=⟨⟨zc HX.out rfl,zc HX.out rfl,zc HX.out rfl,zc HX.out rfl⟩,⟨zc HY.out rfl,zc HY.out rfl,zc HY.out rfl,zc HY.out rfl⟩⟩
   refine wp_region_noPanic ?_;refine zkk (fun w':World=>(zN4 w' P (.int .u8 X.k) (.int .i64 X.n) (.string X.s) (.slice AX X.ks.length CX))/\zN4 w' Q (.int .u8 Y.k) (.int .i64 Y.n) (.string Y.s) (.slice AY Y.ks.length CY)) zU 3 (by kernel_rfl) ?_;refine zkp (i:=0) (v:=?_) rfl (by kernel_rfl) (by kernel_rfl) (by kernel_rfl) (by decide) (fun _ _ _ h=>h) (Or.inl ⟨by rfl,?_⟩) ⟨hS5,trivial⟩ ?_;rotate_left 1
   ·(intro w hSw;(try dsimp only at hSw);(try simp only[zA,zC]);go_simp;(try with_reducible rfl))
   (try simp only[zQ]);refine zkp (i:=1) (v:=?_) rfl (by kernel_rfl) (by kernel_rfl) (by kernel_rfl) (by decide) (fun _ _ _ h=>h) (Or.inl ⟨by rfl,?_⟩) ⟨hS5,trivial⟩ ?_;rotate_left 1
   ·(intro w hSw;(try dsimp only at hSw);(try simp only[zA,zB,zC]);go_simp;(try with_reducible rfl))
   (try simp only[zQ]);have hsz:w.heap.size+1+1<w1.heap.size:=(Array.getElem?_eq_some_iff.mp fI.out).1;have aU:=zh (af.out.trans (aR.out.mono (by omega)));have HC:=zh (show ∀W':World,W'.heap[P]?=w5.heap[P]?->W'.heap[Q]?=w5.heap[Q]?->(fun w':World=>(zN4 w' P (.int .u8 X.k) (.int .i64 X.n) (.string X.s) (.slice AX X.ks.length CX)/\zN4 w' Q (.int .u8 Y.k) (.int .i64 Y.n) (.string Y.s) (.slice AY Y.ks.length CY))) W'.drew from fun W' h6 h7=>⟨⟨zc (h6.trans HX.out) rfl,zc (h6.trans HX.out) rfl,zc (h6.trans HX.out) rfl,zc (h6.trans HX.out) rfl⟩,⟨zc (h7.trans HY.out) rfl,zc (h7.trans HY.out) rfl,zc (h7.trans HY.out) rfl,zc (h7.trans HY.out) rfl⟩⟩);have HZQ:=zh qC.out;have kT:=qC.out;have HZ5K:=tQ.out;have c0:w5.cell? ⟨(w.heap.size+1),0,none⟩=some (.int .u8 0):=zc kT rfl;have c1:w5.cell? ⟨(w.heap.size+1),1,none⟩=some (.int .i64 0):=zc kT rfl
   have c2:w5.cell? ⟨(w.heap.size+1),2,none⟩=some (.string ⟨#[]⟩):=zc kT rfl;have c3:w5.cell? ⟨(w.heap.size+1),3,none⟩=some (.slice none 0 0):=zc kT rfl;have cf:∀o,w5.frozen? ⟨(w.heap.size+1),o,none⟩=false:=fun _=>zf kT;refine zo 2 fun K hK=>?_;(try simp only[zA,zB,zC]);go_simp;obtain⟨hh,hch⟩:=set4 (u0:=(.int .u8 X.k)) (u1:=(.int .i64 X.n)) (u2:=(.string X.s)) (u3:=(.slice AX X.ks.length CX)) kT;obtain⟨w6,hwn⟩:=zX ((((w5.setCell ⟨(w.heap.size+1),0,none⟩ (.int .u8 X.k)).setCell ⟨(w.heap.size+1),1,none⟩ (.int .i64 X.n)).setCell ⟨(w.heap.size+1),2,none⟩ (.string X.s)).setCell ⟨(w.heap.size+1),3,none⟩ (.slice AX X.ks.length CX));rw[hwn]at hh hch ⊢;clear c0 c1 c2 c3 cf hwn;have HBW6:=zh (aU.out.trans (hch.below aU.out.size fun b e=>by omega));have k6:=hch.block (P) (Array.getElem?_eq_some_iff.mp HX.out).1 (by omega)
   have k7:=hch.block (Q) (Array.getElem?_eq_some_iff.mp HY.out).1 (by omega);have kS:=hch.keep HZ5K (by omega);refine hK.out _ _ ⟨HC.out _ k6 k7,trivial⟩ ?_;have HF4:=zh hh;have K6:=zh k6;have K7:=zh k7;have fK:=zh hch;clear hK K k6 k7 hh hch;(try simp only[zQ]);have c0:w6.cell? ⟨(w.heap.size+1+1),0,none⟩=some (.int .u8 0):=zc kS rfl;have c1:w6.cell? ⟨(w.heap.size+1+1),1,none⟩=some (.int .i64 0):=zc kS rfl;have c2:w6.cell? ⟨(w.heap.size+1+1),2,none⟩=some (.string ⟨#[]⟩):=zc kS rfl;have c3:w6.cell? ⟨(w.heap.size+1+1),3,none⟩=some (.slice none 0 0):=zc kS rfl;have cf:∀o,w6.frozen? ⟨(w.heap.size+1+1),o,none⟩=false:=fun _=>zf kS;refine zp 3 fun K hK=>?_;(try simp only[zA,zB,zC]);go_simp;obtain⟨hh,hch⟩:=set4 (u0:=(.int .u8 Y.k)) (u1:=(.int .i64 Y.n)) (u2:=(.string Y.s)) (u3:=(.slice AY Y.ks.length CY)) kS
   obtain⟨w7,hwn⟩:=zX ((((w6.setCell ⟨(w.heap.size+1+1),0,none⟩ (.int .u8 Y.k)).setCell ⟨(w.heap.size+1+1),1,none⟩ (.int .i64 Y.n)).setCell ⟨(w.heap.size+1+1),2,none⟩ (.string Y.s)).setCell ⟨(w.heap.size+1+1),3,none⟩ (.slice AY Y.ks.length CY));rw[hwn]at hh hch ⊢;clear c0 c1 c2 c3 cf hwn;have HBW7:=zh (HBW6.out.trans (hch.below HBW6.out.size fun b e=>by omega));have k6:=hch.block (P) (by have:=(Array.getElem?_eq_some_iff.mp HX.out).1;have:=fK.out.size;omega) (by omega);have k7:=hch.block (Q) (by have:=(Array.getElem?_eq_some_iff.mp HY.out).1;have:=fK.out.size;omega) (by omega);have HF4':=zh (hch.keep HF4.out (by omega));refine hK.out _ _ (HC.out _ (k6.trans K6.out) (k7.trans K7.out)) ?_;have HF5:=zh hh;clear hK K k6 k7 hh hch;(try simp only[zQ]);refine zd ?_;refine NoPanic.normal ?_;have d4:=HF4'.out;have d5:=HF5.out
   have g0:w7.drew.cell? ⟨w.heap.size+1,0,none⟩=some (.int .u8 X.k):=zc d4 rfl;have g1:w7.drew.cell? ⟨w.heap.size+1,1,none⟩=some (.int .i64 X.n):=zc d4 rfl;have g2:w7.drew.cell? ⟨w.heap.size+1,2,none⟩=some (.string X.s):=zc d4 rfl;have g3:w7.drew.cell? ⟨w.heap.size+1,3,none⟩=some (.slice AX X.ks.length CX):=zc d4 rfl;have g4:w7.drew.cell? ⟨w.heap.size+1+1,0,none⟩=some (.int .u8 Y.k):=zc d5 rfl;have g5:w7.drew.cell? ⟨w.heap.size+1+1,1,none⟩=some (.int .i64 Y.n):=zc d5 rfl;have g6:w7.drew.cell? ⟨w.heap.size+1+1,2,none⟩=some (.string Y.s):=zc d5 rfl;have g7:w7.drew.cell? ⟨w.heap.size+1+1,3,none⟩=some (.slice AY Y.ks.length CY):=zc d5 rfl;go_wp2_with fail
   refine bodyPost_ret (v:=.tuple #[.agg #[.int .u8 X.k,.int .i64 X.n,.string X.s,.slice AX X.ks.length CX],.agg #[.int .u8 Y.k,.int .i64 Y.n,.string Y.s,.slice AY Y.ks.length CY]]) (by simp[results,results151,go_sem,g0,g1,g2,g3,g4,g5,g6,g7]) rfl ⟨_,_,rfl,?_,?_,HBW7.out.drew.drew⟩
   ·simp only[fstT,lstT,if_true,if_false,Bool.false_eq_true,EX.out,EY.out];exact NX.out
   ·simp only[fstT,lstT,if_true,if_false,Bool.false_eq_true,EX.out,EY.out];exact NY.out
def IStC(G:List PR->T->Prop)(g:Nat):Prop:=∀C:RC,C.Ok->∀(W:World) (r:RS),RI C W r->∀(t:T) (v:Value) (back:Bool),NV C.w Any t v->G C.p.prs t->zku C.p.prs C.F g back t r ≠ .gas ->
 Calls prog 108 #[.pointer (some ⟨C.rb,0,none⟩),v,.bool back] W (RunP C W (zku C.p.prs C.F g back t r))
theorem zlf{G:List PR->T->Prop}{g:Nat}(hS:IStC G g){C:RC}(hC:C.Ok){W:World}{r:RS}(h:RI C W r)(t:T)(v:Value)(back:Bool)(hv:NV C.w Any t v)(hG:∀u∈t.ks,G C.p.prs u)(aC:runO C.p.prs C.F g back t r ≠ .gas) :
  Calls prog 76 #[.pointer (some ⟨C.rb,0,none⟩),v,.bool back] W (RunP C W (runO C.p.prs C.F g back t r)):=by
 obtain⟨A,c,rfl,-,hlk,hlc,hrow⟩:=hv.open_;have ae:=zh hrow;have HS:=zh hS;have HG:=zh hG;have hb0:=zkb (zs W) (.cells #[.int .u8 t.k,.int .i64 t.n,.string t.s,.slice A t.ks.length c] 28);obtain⟨bB,h1⟩:=h.plus hC hb0;have hz1:(W.alloc (.cells #[.int .u8 t.k,.int .i64 t.n,.string t.s,.slice A t.ks.length c] 28)).heap.size=W.heap.size+1:=by simp
 have hbx:=box4 (heap_alloc_new W (.cells #[.int .u8 t.k,.int .i64 t.n,.string t.s,.slice A t.ks.length c] 28));have aF:=zh (Kpt.of_below (n0:=C.n0) (kb:=C.kb) hb0);obtain⟨W1,hW1⟩:=zX (W.alloc (.cells #[.int .u8 t.k,.int .i64 t.n,.string t.s,.slice A t.ks.length c] 28));rw[hW1]at bB h1 hz1 hbx aF;obtain⟨hi,hhi⟩:=zX (W1.heap.size);rw[hhi]at bB h1 hz1;have lV:=zh bB;have H1:=zh h1;have aQ:=zh hbx;have hz2:W.heap.size<hi:=by omega
 have hwn:IntKind.i64.wrap ((t.ks.length:Int)-1)=(t.ks.length:Int)-1:=IntWalk.i64_in _ (by unfold LK at hlk;omega);have hwq:∀j:Nat,j<t.ks.length->IntKind.i64.wrap ((t.ks.length:Int)-1-(j:Int))=((t.ks.length-1-j:Nat):Int):=fun j hj=>by rw[IntWalk.i64_in _ (by unfold LK at hlk;omega)];omega
 obtain⟨o,ho⟩:=zX (runO C.p.prs C.F g back t r);have HO:=zh (show zk1 (zku C.p.prs C.F g back) ((blkL back t).drop 0) r=o by rw[List.drop_zero];exact ho);have qg:=zh (show o ≠ .gas from ho▸aC);have vP:(blkL back t).length=t.ks.length:=by unfold blkL;split<;>simp
 rw[ho];have gK:=zh vP;have hlk2:t.ks.length<=17592186044416:=by unfold LK at hlk;omega
 clear vP hlk;clear hv bB h1 hbx hb0 h hz1 hS hG hrow ho aC;obtain⟨x0,x1,x2,x3⟩:=aQ.out;go_enter func76,ntmps76;go_wp2_with fail;clear x0 x1 x2 x3 hW1
 go_loopw [15] (fun i wr=>∃(j:Nat) (r1:RS),j<=t.ks.length/\i=.int .i64 j/\Hid (RI (C.plus W.heap.size hi) wr r1)/\Hid (Kpt C.n0 (C.plus W.heap.size hi).kb W1 wr)/\Hid (zk1 (zku C.p.prs C.F g back) ((blkL back t).drop j) r1=o)) (fun i _=>t.ks.length-(intOf i).toNat)
 case atStart=>exact⟨0,r,Nat.zero_le _,rfl,H1,zh (Kpt.refl _ _ _),HO⟩
 case round =>
  obtain⟨j,r1,hj,rfl,HR,HK,HB⟩:=hrel;by_cases hlt:j<t.ks.length
  ·cases back
   ·skip
    have hj1:(j:Int)<(t.ks.length:Int):=by omega
    have hj0:(0:Int)<=(j:Int):=by omega
    have Ah:j<t.ks.length:=by omega
    have hqs1:(j:Int)<(t.ks.length:Int):=by omega
    have hqs0:(0:Int)<=(j:Int):=by omega
    have dX:=HR.out.below;obtain⟨a,u,A1,c1,rfl,-,hu,⟨p0,p1,p2,p3⟩,hnu⟩:=ae.out.nd Ah;have hgu:=HG.out u (by rw[<-hu.out];exact List.getElem_mem _);have hbs:zk1 (zku C.p.prs C.F g false) ((blkL false t).drop j) r1=(zku C.p.prs C.F g false u r1).bind (zk1 (zku C.p.prs C.F g false) ((blkL false t).drop (j+1))):=by
     rw[show(blkL false t).drop j=u::(blkL false t).drop (j+1) by rw[List.drop_eq_getElem_cons (by rw[gK.out];exact hlt),<-hu.out];congr 1;all_goals simp[blkL,hlt]];rfl
    rw[HB.out]at hbs;have nR:=zh hbs;have xG:=zh (HS.out (C.plus W.heap.size hi) lV.out wr r1 HR.out u _ false hnu hgu (fun e=>qg.out (by rw[hbs,show zku C.p.prs C.F g false u r1=.gas from e];rfl)));have q0:=zb dX p0;have q1:=zb dX p1;have q2:=zb dX p2;have q3:=zb dX p3;have x3:wr.cell? ⟨W.heap.size,3,none⟩=some (.slice (some a) t.ks.length c):=HK.out.cell (.inr (.inr ⟨zl,hz2⟩)) aQ.out.2.2.2;clear hbs dX hnu hgu p0 p1 p2 p3 hu;go_wp2_with fail;refine xG.out.mono ?_;rintro e w2 ⟨hk2,hb2,ho2⟩;have gq:match zku C.p.prs C.F g false u r1 with
     | .gas=>True
     | .err x=>e=zlz x
     | .ok r=>(∃u,e=.returned u)/\RI (C.plus W.heap.size hi) w2 r:=ho2
    have aP:=zh (HK.out.trans hk2);clear ho2 hk2 xG q0 q1 q2 q3 x3
    cases hx:zku C.p.prs C.F g false u r1 with
    | gas=>exact absurd (by rw[nR.out,hx];rfl) qg.out
    | err x =>
     rw[hx]at gq;subst gq;have ho3:o=.err x:=by rw[nR.out,hx];rfl
     dsimp only;refine⟨rfl,aF.out.trans (Kpt.less aP.out),hb2,?_⟩;rw[ho3]
    | ok r2 =>
     rw[hx]at gq;obtain⟨⟨u2,rfl⟩,hr2⟩:=gq;have HR2:=zh hr2;have HB2:=zh (show zk1 (zku C.p.prs C.F g false) ((blkL false t).drop (j+1)) r2=o by rw[nR.out,hx];rfl);clear hr2 hx;go_wp2_with fail
     go_roundw
     case rel=>exact⟨j+1,r2,by omega,by go_num,HR2,aP,HB2⟩
     case measure=>simp[intOf];omega
   ·skip
    have hwq1:=hwq j hlt;obtain⟨q,hq⟩:=zX (t.ks.length-1-j);rw[hq]at hwq1;have hj1:(j:Int)<(t.ks.length:Int):=by omega
    have hj0:(0:Int)<=(j:Int):=by omega
    have Ah:q<t.ks.length:=by omega
    have hqs1:(q:Int)<(t.ks.length:Int):=by omega
    have hqs0:(0:Int)<=(q:Int):=by omega
    have dX:=HR.out.below;obtain⟨a,u,A1,c1,rfl,-,hu,⟨p0,p1,p2,p3⟩,hnu⟩:=ae.out.nd Ah;have hgu:=HG.out u (by rw[<-hu.out];exact List.getElem_mem _);have hbs:zk1 (zku C.p.prs C.F g true) ((blkL true t).drop j) r1=(zku C.p.prs C.F g true u r1).bind (zk1 (zku C.p.prs C.F g true) ((blkL true t).drop (j+1))):=by
     rw[show(blkL true t).drop j=u::(blkL true t).drop (j+1) by rw[List.drop_eq_getElem_cons (by rw[gK.out];exact hlt),<-hu.out];congr 1;all_goals simp[blkL,hq]];rfl
    rw[HB.out]at hbs;have nR:=zh hbs;have xG:=zh (HS.out (C.plus W.heap.size hi) lV.out wr r1 HR.out u _ true hnu hgu (fun e=>qg.out (by rw[hbs,show zku C.p.prs C.F g true u r1=.gas from e];rfl)));have q0:=zb dX p0;have q1:=zb dX p1;have q2:=zb dX p2;have q3:=zb dX p3;have x3:wr.cell? ⟨W.heap.size,3,none⟩=some (.slice (some a) t.ks.length c):=HK.out.cell (.inr (.inr ⟨zl,hz2⟩)) aQ.out.2.2.2;clear hbs dX hnu hgu p0 p1 p2 p3 hu;go_wp2_with fail;refine xG.out.mono ?_;rintro e w2 ⟨hk2,hb2,ho2⟩;have gq:match zku C.p.prs C.F g true u r1 with
     | .gas=>True
     | .err x=>e=zlz x
     | .ok r=>(∃u,e=.returned u)/\RI (C.plus W.heap.size hi) w2 r:=ho2
    have aP:=zh (HK.out.trans hk2);clear ho2 hk2 xG q0 q1 q2 q3 x3
    cases hx:zku C.p.prs C.F g true u r1 with
    | gas=>exact absurd (by rw[nR.out,hx];rfl) qg.out
    | err x =>
     rw[hx]at gq;subst gq;have ho3:o=.err x:=by rw[nR.out,hx];rfl
     dsimp only;refine⟨rfl,aF.out.trans (Kpt.less aP.out),hb2,?_⟩;rw[ho3]
    | ok r2 =>
     rw[hx]at gq;obtain⟨⟨u2,rfl⟩,hr2⟩:=gq;have HR2:=zh hr2;have HB2:=zh (show zk1 (zku C.p.prs C.F g true) ((blkL true t).drop (j+1)) r2=o by rw[nR.out,hx];rfl);clear hr2 hx;go_wp2_with fail
     go_roundw
     case rel=>exact⟨j+1,r2,by omega,by go_num,HR2,aP,HB2⟩
     case measure=>simp[intOf];omega
  ·have ho3:o=.ok r1:=by
    rw[<-HB.out,show(blkL back t).drop j=[] by rw[List.drop_eq_nil_iff,gK.out];omega];rfl
   have hbr:=HR.out.below;have hj1:¬ (j:Int)<(t.ks.length:Int):=by omega
   go_wp2_with fail;go_end0;refine⟨aF.out.trans (Kpt.less HK.out),hbr,?_⟩
   try rw[ho3]
   exact⟨⟨_,rfl⟩,HR.out.less⟩
def brO(prs:List PR)(F:Int)(g:Nat)(back:Bool)(t:T)(r:RS):Out :=
 zk8 F (fstT back t) r fun yes r=>(zk1 (zku prs F g back) (blkL back (if yes=true then kid t 1 else kid t 2)) r).bind (zkq F (lstT back t) yes)
theorem ztn{G:List PR->T->Prop}{g:Nat}(hS:IStC G g){C:RC}(hC:C.Ok){W:World}{r:RS}(h:RI C W r)(t:T)(v:Value)(back:Bool)(hv:NV C.w Any t v)(hk:t.ks.length=4)(hG1:∀u∈(kid t 1).ks,G C.p.prs u)(hG2:∀u∈(kid t 2).ks,G C.p.prs u)
  (aC:brO C.p.prs C.F g back t r ≠ .gas) :
  Calls prog 132 #[.pointer (some ⟨C.rb,0,none⟩),v,.bool back] W (RunP C W (brO C.p.prs C.F g back t r)):=by
 obtain⟨A,c,rfl,-,hlk,hlc,hrow⟩:=hv.open_;have ae:=zh hrow;have HS:=zh hS;have HV:=zh hv;have hb0:=zkb (zs W) (.cells #[.int .u8 t.k,.int .i64 t.n,.string t.s,.slice A t.ks.length c] 28);obtain⟨x0,x1,x2,x3⟩:=box4 (heap_alloc_new W (.cells #[.int .u8 t.k,.int .i64 t.n,.string t.s,.slice A t.ks.length c] 28));have HB0:=zh hb0;have H:=zh h;have HC:=zh hC;have HX:=zh (heap_alloc_new W (.cells #[.int .u8 t.k,.int .i64 t.n,.string t.s,.slice A t.ks.length c] 28));have nN:=zh (fun w' (hb:Below W.heap.size W w')=>zp6 t _ back C.w w' (zka h.below hb) hv (by omega));have qd:=zh hk;clear hrow hS hb0 h hv hk hC hlk;go_enter func132,ntmps132;go_wp2_with fail;refine(nN.out _ HB0.out).mono ?_;rintro e w2 ⟨v1,v2,rfl,n1,n2,b2⟩;obtain⟨t1,ht1⟩:=zX (fstT back t);obtain⟨t2,ht2⟩:=zX (lstT back t);have HT1:=zh ht1;have HT2:=zh ht2;rw[ht1]at n1;rw[ht2]at n2;obtain⟨A1,c1,rfl,-⟩:=n1.open_
 obtain⟨A2,c2,rfl,-⟩:=n2.open_;have fq:=zh n1;have aD:=zh n2;have b3:=zkb (zkb (zka HB0.out b2) (.cells #[.int .u8 t1.k,.int .i64 t1.n,.string t1.s,.slice A1 t1.ks.length c1] 28)) (.cells #[.int .u8 t2.k,.int .i64 t2.n,.string t2.s,.slice A2 t2.ks.length c2] 28);have k0:=zke (zke (zkc HX.out b2) (.cells #[.int .u8 t1.k,.int .i64 t1.n,.string t1.s,.slice A1 t1.ks.length c1] 28)) (.cells #[.int .u8 t2.k,.int .i64 t2.n,.string t2.s,.slice A2 t2.ks.length c2] 28);have k1:=zke (heap_alloc_new w2 (.cells #[.int .u8 t1.k,.int .i64 t1.n,.string t1.s,.slice A1 t1.ks.length c1] 28)) (.cells #[.int .u8 t2.k,.int .i64 t2.n,.string t2.s,.slice A2 t2.ks.length c2] 28);have k2:=heap_alloc_new (w2.alloc (.cells #[.int .u8 t1.k,.int .i64 t1.n,.string t1.s,.slice A1 t1.ks.length c1] 28)) (.cells #[.int .u8 t2.k,.int .i64 t2.n,.string t2.s,.slice A2 t2.ks.length c2] 28)
 simp only[World.size_alloc]at k2;obtain⟨w3,hw3⟩:=zX ((w2.alloc (.cells #[.int .u8 t1.k,.int .i64 t1.n,.string t1.s,.slice A1 t1.ks.length c1] 28)).alloc (.cells #[.int .u8 t2.k,.int .i64 t2.n,.string t2.s,.slice A2 t2.ks.length c2] 28));rw[hw3]at b3 k0 k1 k2;have hz2:=zka HB0.out b2;have hzz:=hz2.size;obtain⟨dm,h3⟩:=H.out.plus HC.out b3;have bT:=zh (Kpt.of_below (n0:=C.n0) (kb:=C.kb) b3);have l0:=zkf k0;have l1:=zkf k1;have l2:=zkf k2;obtain⟨hi,hhi⟩:=zX (w3.heap.size);rw[hhi]at dm h3 l0 l1 l2;have aX:=zh dm;have H3:=zh h3;have K0:=zh k0;have K1:=zh k1;have K2:=zh k2;have iJ:=zh (zou dm h3 t1 _ n1)
 obtain⟨p1,⟨y0,y1,y2,y3⟩⟩:True/\(w3.cell? ⟨w2.heap.size,0,none⟩=some (.int .u8 t1.k)/\w3.cell? ⟨w2.heap.size,1,none⟩=some (.int .i64 t1.n)/\w3.cell? ⟨w2.heap.size,2,none⟩=some (.string t1.s)/\w3.cell? ⟨w2.heap.size,3,none⟩=some (.slice A1 t1.ks.length c1)):=⟨trivial,zc k1 rfl,zc k1 rfl,zc k1 rfl,zc k1 rfl⟩
 clear n1 n2 b2 b3 k0 k1 k2 hz2 dm h3 x0 x1 x2 x3 HX HB0 nN p1 ht1 ht2;go_upto_region 2 with fail;clear hw3;go_wp2_with fail;refine iJ.out.mono ?_;rintro e w4 ⟨hk4,hb4,eU⟩;have gL:=zh (bT.out.trans (Kpt.less (C:=C) hk4));have ay:=zh (show Below C.w.heap.size C.w w4 from hb4);clear y0 y1 y2 y3 iJ;rcases eU with⟨x,rfl,hx⟩|⟨b,r1,rfl,hr1,hx⟩
 ·refine⟨rfl,gL.out,ay.out,?_⟩;rw[show brO C.p.prs C.F g back t r=.err x by unfold brO;rw[HT1.out];exact hx _]
 ·have k0:=hk4.blk (.inr (.inr ⟨by omega,l0⟩)) K0.out;have k2:=hk4.blk (.inr (.inr ⟨by omega,l2⟩)) K2.out;have HR4:=zh hr1;have fE:=zh (show brO C.p.prs C.F g back t r=(runO C.p.prs C.F g back (if b=true then kid t 1 else kid t 2) r1).bind (zkq C.F t2 b) by unfold brO;rw[HT1.out,HT2.out];exact hx _);have K4:=zh k0;have K5:=zh k2;have z3:w4.cell? ⟨W.heap.size,3,none⟩=some (.slice A t.ks.length c):=zc k0 rfl;have bD:=zh aC;clear hk4 hb4 hr1 hx k0 k2 aC
  cases b
  ·skip
   have hI:2<t.ks.length:=by have:=qd.out;omega
   have hI1:(2:Int)<(t.ks.length:Int):=by omega
   obtain⟨a,u,Au,cu,rfl,-,hu,⟨p0,p1,p2,p3⟩,hnu⟩:=ae.out.nd hI;have gu:kid t 2=u:=by unfold kid;rw[List.getD_eq_getElem?_getD,List.getElem?_eq_getElem hI];exact hu.out
   have uP:=zh (show ∀x∈u.ks,G C.p.prs x by rw[<-gu];exact hG2);have gP:=zh (show brO C.p.prs C.F g back t r=(runO C.p.prs C.F g back u r1).bind (zkq C.F t2 false) by rw[fE.out];simp only[Bool.false_eq_true,if_false,if_true,gu]);have hgu:runO C.p.prs C.F g back u r1 ≠ .gas:=fun e=>bD.out (by rw[gP.out,e];rfl);have ax:=zh (zlf HS.out aX.out HR4.out u _ back hnu uP.out hgu);have ha:a.add (2*4)=⟨a.block,a.off+8,none⟩:=by unfold Addr.add;split<;>simp_all
   rw[ha]at p0 p1 p2 p3;have q0:w4.cell? ⟨a.block,a.off+8,none⟩=some (.int .u8 u.k):=zb ay.out p0;have q1:w4.cell? ⟨a.block,a.off+8+1,none⟩=some (.int .i64 u.n):=zb ay.out p1;have q2:w4.cell? ⟨a.block,a.off+8+2,none⟩=some (.string u.s):=zb ay.out p2;have q3:w4.cell? ⟨a.block,a.off+8+3,none⟩=some (.slice Au u.ks.length cu):=zb ay.out p3;clear gu hnu hu p0 p1 p2 p3 hgu;go_wp2_with fail;refine ax.out.mono ?_;rintro e w5 ⟨hk5,hb5,lD⟩;have fI:=zh (gL.out.trans (Kpt.less (C:=C) hk5));have aR:=zh (show Below C.w.heap.size C.w w5 from hb5);have bZ:match runO C.p.prs C.F g back u r1 with
    | .gas=>True
    | .err x=>e=zlz x
    | .ok r=>(∃u,e=.returned u)/\RI (C.plus W.heap.size hi) w5 r:=lD
   have k5:=hk5.blk (.inr (.inr ⟨by omega,l2⟩)) K5.out;have K6:=zh k5;clear q0 q1 q2 q3 z3 hk5 hb5 lD k5
   cases hx:runO C.p.prs C.F g back u r1 with
   | gas=>exact absurd (by rw[gP.out,hx];rfl) bD.out
   | err x =>
    rw[hx]at bZ;subst bZ;refine⟨rfl,fI.out,aR.out,?_⟩;rw[gP.out,hx];rfl
   | ok r2 =>
    rw[hx]at bZ;obtain⟨⟨u2,rfl⟩,hr2⟩:=bZ;have HAS:=zh (zmT aX.out hr2 t2 _ aD.out false);have jO:=zh (show brO C.p.prs C.F g back t r=zkq C.F t2 false r2 by rw[gP.out,hx];rfl);have q0:w5.cell? ⟨w2.heap.size+1,0,none⟩=some (.int .u8 t2.k):=zc K6.out rfl;have q1:w5.cell? ⟨w2.heap.size+1,1,none⟩=some (.int .i64 t2.n):=zc K6.out rfl;have q2:w5.cell? ⟨w2.heap.size+1,2,none⟩=some (.string t2.s):=zc K6.out rfl;have q3:w5.cell? ⟨w2.heap.size+1,3,none⟩=some (.slice A2 t2.ks.length c2):=zc K6.out rfl;clear hx hr2;go_wp2_with fail;refine HAS.out.mono ?_;rintro e w6 ⟨bu,hb6,jT⟩;have eF:=zh (fI.out.trans (Kpt.less (C:=C) bu));have bC:=zh (show Below C.w.heap.size C.w w6 from hb6);have bY:match zkq C.F t2 false r2 with
     | .gas=>True
     | .err x=>e=zlz x
     | .ok r=>(∃u,e=.returned u)/\RI (C.plus W.heap.size hi) w6 r:=jT
    clear q0 q1 q2 q3 bu hb6 jT
    cases hy:zkq C.F t2 false r2 with
    | gas=>exact absurd (by rw[jO.out,hy]) bD.out
    | err x =>
     rw[hy]at bY;subst bY;refine⟨rfl,eF.out,bC.out,?_⟩;rw[jO.out,hy]
    | ok r3 =>
     rw[hy]at bY;obtain⟨⟨u3,rfl⟩,hr3⟩:=bY;have ek:=zh hr3.less;have u6:=zh (show brO C.p.prs C.F g back t r=.ok r3 by rw[jO.out,hy]);clear hr3 hy;go_wp2_with fail;go_end0;refine⟨eF.out,bC.out,?_⟩;rw[u6.out];exact⟨⟨_,rfl⟩,ek.out⟩
  ·skip
   have hI:1<t.ks.length:=by have:=qd.out;omega
   have hI1:(1:Int)<(t.ks.length:Int):=by omega
   obtain⟨a,u,Au,cu,rfl,-,hu,⟨p0,p1,p2,p3⟩,hnu⟩:=ae.out.nd hI;have gu:kid t 1=u:=by unfold kid;rw[List.getD_eq_getElem?_getD,List.getElem?_eq_getElem hI];exact hu.out
   have uP:=zh (show ∀x∈u.ks,G C.p.prs x by rw[<-gu];exact hG1);have gP:=zh (show brO C.p.prs C.F g back t r=(runO C.p.prs C.F g back u r1).bind (zkq C.F t2 true) by rw[fE.out];simp only[Bool.false_eq_true,if_false,if_true,gu]);have hgu:runO C.p.prs C.F g back u r1 ≠ .gas:=fun e=>bD.out (by rw[gP.out,e];rfl);have ax:=zh (zlf HS.out aX.out HR4.out u _ back hnu uP.out hgu);have ha:a.add (1*4)=⟨a.block,a.off+4,none⟩:=by unfold Addr.add;split<;>simp_all
   rw[ha]at p0 p1 p2 p3;have q0:w4.cell? ⟨a.block,a.off+4,none⟩=some (.int .u8 u.k):=zb ay.out p0;have q1:w4.cell? ⟨a.block,a.off+4+1,none⟩=some (.int .i64 u.n):=zb ay.out p1;have q2:w4.cell? ⟨a.block,a.off+4+2,none⟩=some (.string u.s):=zb ay.out p2;have q3:w4.cell? ⟨a.block,a.off+4+3,none⟩=some (.slice Au u.ks.length cu):=zb ay.out p3;clear gu hnu hu p0 p1 p2 p3 hgu;go_wp2_with fail;refine ax.out.mono ?_;rintro e w5 ⟨hk5,hb5,lD⟩;have fI:=zh (gL.out.trans (Kpt.less (C:=C) hk5));have aR:=zh (show Below C.w.heap.size C.w w5 from hb5);have bZ:match runO C.p.prs C.F g back u r1 with
    | .gas=>True
    | .err x=>e=zlz x
    | .ok r=>(∃u,e=.returned u)/\RI (C.plus W.heap.size hi) w5 r:=lD
   have k5:=hk5.blk (.inr (.inr ⟨by omega,l2⟩)) K5.out;have K6:=zh k5;clear q0 q1 q2 q3 z3 hk5 hb5 lD k5
   cases hx:runO C.p.prs C.F g back u r1 with
   | gas=>exact absurd (by rw[gP.out,hx];rfl) bD.out
   | err x =>
    rw[hx]at bZ;subst bZ;refine⟨rfl,fI.out,aR.out,?_⟩;rw[gP.out,hx];rfl
   | ok r2 =>
    rw[hx]at bZ;obtain⟨⟨u2,rfl⟩,hr2⟩:=bZ;have HAS:=zh (zmT aX.out hr2 t2 _ aD.out true);have jO:=zh (show brO C.p.prs C.F g back t r=zkq C.F t2 true r2 by rw[gP.out,hx];rfl);have q0:w5.cell? ⟨w2.heap.size+1,0,none⟩=some (.int .u8 t2.k):=zc K6.out rfl;have q1:w5.cell? ⟨w2.heap.size+1,1,none⟩=some (.int .i64 t2.n):=zc K6.out rfl;have q2:w5.cell? ⟨w2.heap.size+1,2,none⟩=some (.string t2.s):=zc K6.out rfl;have q3:w5.cell? ⟨w2.heap.size+1,3,none⟩=some (.slice A2 t2.ks.length c2):=zc K6.out rfl;clear hx hr2;go_wp2_with fail;refine HAS.out.mono ?_;rintro e w6 ⟨bu,hb6,jT⟩;have eF:=zh (fI.out.trans (Kpt.less (C:=C) bu));have bC:=zh (show Below C.w.heap.size C.w w6 from hb6);have bY:match zkq C.F t2 true r2 with
     | .gas=>True
     | .err x=>e=zlz x
     | .ok r=>(∃u,e=.returned u)/\RI (C.plus W.heap.size hi) w6 r:=jT
    clear q0 q1 q2 q3 bu hb6 jT
    cases hy:zkq C.F t2 true r2 with
    | gas=>exact absurd (by rw[jO.out,hy]) bD.out
    | err x =>
     rw[hy]at bY;subst bY;refine⟨rfl,eF.out,bC.out,?_⟩;rw[jO.out,hy]
    | ok r3 =>
     rw[hy]at bY;obtain⟨⟨u3,rfl⟩,hr3⟩:=bY;have ek:=zh hr3.less;have u6:=zh (show brO C.p.prs C.F g back t r=.ok r3 by rw[jO.out,hy]);clear hr3 hy;go_wp2_with fail;go_end0;refine⟨eF.out,bC.out,?_⟩;rw[u6.out];exact⟨⟨_,rfl⟩,ek.out⟩
def Up(n:Nat)(o:Out):Prop:=∀r,o=.ok r->n<=r.n
section
variable {m n:Nat} {o:Out} {F:Int} {t:T} {r:RS}
theorem Up.of(h:Good n o):Up n o:=h.2
theorem Up.mono(h:Up n o)(hm:m<=n):Up m o:=fun r e=>Nat.le_trans hm (h r e)
theorem Up.bind{f:RS->Out}(h:Up n o)(hf:∀r,n<=r.n->Up m (f r)):Up m (o.bind f):=by
 cases o with
 | gas=>intro r e;cases e
 | err x=>intro r e;cases e
 | ok r=>exact hf r (h r rfl)
theorem zrj{f:Int->RS->Out}(hf:∀x,Up m (f x r)):Up m (valO t r f):=by
 unfold valO
 split
 ·intro r e;cases e
 ·exact hf _
theorem zov{f:Bool->RS->Out}(hf:∀b r',r.n+1<=r'.n->Up m (f b r')):Up m (zk8 F t r f):=by
 unfold zk8;exact(Up.of (zkr F r)).bind fun r' h=>zrj fun x=>hf _ _ h
theorem zmS{f:T->RS->Out}(hf:∀t r,Up r.n (f t r)):∀(l:List T) (r:RS),Up r.n (zk1 f l r)
 | [],r=>fun r' e=>by injection e with e;subst e;exact zl
 | t::ts,r=>by
  rw[zk1];exact(hf t r).bind fun r1 h1=>(zmS hf ts r1).mono h1
theorem zsv{f:T->RS->Out}(hf:∀t r,Up r.n (f t r)){entry test:T}{l1 l2:List T}:∀(m:Nat) (r:RS),Up r.n (zlV F f entry test l1 l2 m r)
 | 0,_=>fun r' e=>by cases e
 | m+1,r=>by
  rw[zlV];refine(zmS hf l1 r).bind fun r1 h1=>zov fun b r2 h2=>?_
  split
  ·intro r' e;injection e with e;subst e;omega
  ·refine(zmS hf l2 r2).bind fun r3 h3=>(Up.of (zlh F entry false r3)).bind fun r4 h4=>?_;exact(zsv hf m r4).mono (by omega)
end
theorem zn2{prs:List PR}{F:Int}:∀(g:Nat) (back:Bool) (t:T) (r:RS),Up r.n (zku prs F g back t r)
 | 0,_,_,_=>fun r' e=>by cases e
 | g+1,back,t,r=>by
  have hb:∀(back:Bool) l r1,Up r1.n (zk1 (zku prs F g back) l r1):=fun back l r1=>zmS (fun u r2=>zn2 g back u r2) l r1;rw[zku]
  split
  ·exact zov fun b r1 h1=>(hb _ _ r1).bind fun r2 h2=>(Up.of (zlh _ _ _ _)).mono (by omega)
  ·split
   ·refine(Up.of (zlh _ _ _ _)).bind fun r1 h1=>?_;exact(zsv (fun u r2=>zn2 g back u r2) g r1).mono (by omega)
   ·split
    ·refine(Up.of (zkr F r)).bind fun r1 h1=>zrj fun x=>?_;refine(Up.of (zkA r1 _)).bind fun r2 h2=>(hb _ _ r2).bind fun r3 h3=>(Up.of (zkr F r3)).bind fun r4 h4=>zrj fun x=>?_;exact(Up.of (zkA r4 _)).mono (by omega)
    ·split
     ·refine(Up.of (zkr F r)).bind fun r1 h1=>?_;refine(Up.of (zkA r1 _)).bind fun r2 h2=>(hb _ _ r2).bind fun r3 h3=>(Up.of (zkr F r3)).bind fun r4 h4=>?_;exact(Up.of (zkA r4 _)).mono (by omega)
     ·split
      ·split
       ·intro r' e;cases e
       ·refine(Up.of (zkr F r)).bind fun r1 h1=>?_;refine(Up.of (zkA r1 _)).bind fun r2 h2=>(hb _ _ _).bind fun r3 h3=>(Up.of (zkr F r3)).bind fun r4 h4=>?_;exact(Up.of (zkA r4 _)).mono (by simp only at h3;omega)
      ·refine(Up.of (zkr F r)).bind fun r1 h1=>?_;exact(Up.of (zkA r1 _)).mono (by omega)
def lpO(prs:List PR)(F:Int)(g:Nat)(back:Bool)(t:T)(r:RS):Out :=
 (zkq F (fstT back t) true r).bind (zlV F (zku prs F g back) (fstT back t) (lstT back t) (blkL back (kid t 1)) (blkL back (kid t 2)) g)
def stp(rb:Nat)(W:World):Nat:=match W.cell? ⟨rb,7,none⟩with
 | some (.int _ n)=>n.toNat
 | _=>0
theorem zyb{C:RC}{W:World}{r:RS}(h:RI C W r):stp C.rb W=r.n:=by
 unfold stp;rw[h.cells.2.1];simp
theorem zwT{G:List PR->T->Prop}{g:Nat}(hS:IStC G g){C:RC}(hC:C.Ok){W:World}{r:RS}(h:RI C W r)(t:T)(v:Value)(back:Bool)(hv:NV C.w Any t v)(hk:t.ks.length=4)(hG1:∀u∈(kid t 1).ks,G C.p.prs u)(hG2:∀u∈(kid t 2).ks,G C.p.prs u)
  (aC:lpO C.p.prs C.F g back t r ≠ .gas) :
  Calls prog 133 #[.pointer (some ⟨C.rb,0,none⟩),v,.bool back] W (RunP C W (lpO C.p.prs C.F g back t r)):=by
 obtain⟨A,c,rfl,-,hlk,hlc,hrow⟩:=hv.open_;have ae:=zh hrow;have HS:=zh hS;have HV:=zh hv;have hb0:=zkb (zs W) (.cells #[.int .u8 t.k,.int .i64 t.n,.string t.s,.slice A t.ks.length c] 28);obtain⟨x0,x1,x2,x3⟩:=box4 (heap_alloc_new W (.cells #[.int .u8 t.k,.int .i64 t.n,.string t.s,.slice A t.ks.length c] 28));have HB0:=zh hb0;have H:=zh h;have HC:=zh hC;have HX:=zh (heap_alloc_new W (.cells #[.int .u8 t.k,.int .i64 t.n,.string t.s,.slice A t.ks.length c] 28));have nN:=zh (fun w' (hb:Below W.heap.size W w')=>zp6 t _ back C.w w' (zka h.below hb) hv (by omega));have qd:=zh hk;clear hrow hS hb0 h hv hk hC hlk;go_enter func133,ntmps133;go_wp2_with fail;refine(nN.out _ HB0.out).mono ?_;rintro e w2 ⟨v1,v2,rfl,n1,n2,b2⟩;obtain⟨t1,ht1⟩:=zX (fstT back t);obtain⟨t2,ht2⟩:=zX (lstT back t);have HT1:=zh ht1;have HT2:=zh ht2;rw[ht1]at n1;rw[ht2]at n2;obtain⟨A1,c1,rfl,-⟩:=n1.open_
 obtain⟨A2,c2,rfl,-⟩:=n2.open_;have fq:=zh n1;have aD:=zh n2;have b3:=zkb (zkb (zka HB0.out b2) (.cells #[.int .u8 t1.k,.int .i64 t1.n,.string t1.s,.slice A1 t1.ks.length c1] 28)) (.cells #[.int .u8 t2.k,.int .i64 t2.n,.string t2.s,.slice A2 t2.ks.length c2] 28);have k0:=zke (zke (zkc HX.out b2) (.cells #[.int .u8 t1.k,.int .i64 t1.n,.string t1.s,.slice A1 t1.ks.length c1] 28)) (.cells #[.int .u8 t2.k,.int .i64 t2.n,.string t2.s,.slice A2 t2.ks.length c2] 28);have k1:=zke (heap_alloc_new w2 (.cells #[.int .u8 t1.k,.int .i64 t1.n,.string t1.s,.slice A1 t1.ks.length c1] 28)) (.cells #[.int .u8 t2.k,.int .i64 t2.n,.string t2.s,.slice A2 t2.ks.length c2] 28);have k2:=heap_alloc_new (w2.alloc (.cells #[.int .u8 t1.k,.int .i64 t1.n,.string t1.s,.slice A1 t1.ks.length c1] 28)) (.cells #[.int .u8 t2.k,.int .i64 t2.n,.string t2.s,.slice A2 t2.ks.length c2] 28)
 simp only[World.size_alloc]at k2;obtain⟨w3,hw3⟩:=zX ((w2.alloc (.cells #[.int .u8 t1.k,.int .i64 t1.n,.string t1.s,.slice A1 t1.ks.length c1] 28)).alloc (.cells #[.int .u8 t2.k,.int .i64 t2.n,.string t2.s,.slice A2 t2.ks.length c2] 28));rw[hw3]at b3 k0 k1 k2;have hz2:=zka HB0.out b2;have hzz:=hz2.size;obtain⟨dm,h3⟩:=H.out.plus HC.out b3;have bT:=zh (Kpt.of_below (n0:=C.n0) (kb:=C.kb) b3);have l0:=zkf k0;have l1:=zkf k1;have l2:=zkf k2;obtain⟨hi,hhi⟩:=zX (w3.heap.size);rw[hhi]at dm h3 l0 l1 l2;have aX:=zh dm;have H3:=zh h3;have K0:=zh k0;have K1:=zh k1;have K2:=zh k2;have iJ:=zh (zmT dm h3 t1 _ n1 true)
 obtain⟨p1,⟨y0,y1,y2,y3⟩⟩:True/\(w3.cell? ⟨w2.heap.size,0,none⟩=some (.int .u8 t1.k)/\w3.cell? ⟨w2.heap.size,1,none⟩=some (.int .i64 t1.n)/\w3.cell? ⟨w2.heap.size,2,none⟩=some (.string t1.s)/\w3.cell? ⟨w2.heap.size,3,none⟩=some (.slice A1 t1.ks.length c1)):=⟨trivial,zc k1 rfl,zc k1 rfl,zc k1 rfl,zc k1 rfl⟩
 clear n1 n2 b2 b3 k0 k1 k2 hz2 dm h3 x0 x1 x2 x3 HX HB0 nN p1 ht1 ht2;go_upto_region 2 with fail;clear hw3;obtain⟨o,ho⟩:=zX (lpO C.p.prs C.F g back t r);have HO:=zh (show(zkq C.F t1 true r).bind (zlV C.F (zku C.p.prs C.F g back) t1 t2 (blkL back (kid t 1)) (blkL back (kid t 2)) g)=o by rw[<-ho];unfold lpO;rw[HT1.out,HT2.out]);rw[ho]at aC ⊢;have bD:=zh aC;have bN:=zh ho;clear aC ho;go_wp2_with fail;refine iJ.out.mono ?_;rintro e w4 ⟨hk4,hb4,eU⟩;have gL:=zh (bT.out.trans (Kpt.less (C:=C) hk4));have ay:=zh (show Below C.w.heap.size C.w w4 from hb4);have bA:match zkq C.F t1 true r with
  | .gas=>True
  | .err x=>e=zlz x
  | .ok r=>(∃u,e=.returned u)/\RI (C.plus W.heap.size hi) w4 r:=eU
 have dK:=zh hk4;clear y0 y1 y2 y3 iJ hk4 hb4 eU
 cases hy:zkq C.F t1 true r with
 | gas=>exact absurd (by rw[<-HO.out,hy];rfl) bD.out
 | err x =>
  rw[hy]at bA;subst bA;refine⟨rfl,gL.out,ay.out,?_⟩;rw[<-HO.out,hy];rfl
 | ok r1 =>
  rw[hy]at bA;obtain⟨⟨u3,rfl⟩,hr1⟩:=bA;have HR4:=zh hr1;have iR:=zh (show zlV C.F (zku C.p.prs C.F g back) t1 t2 (blkL back (kid t 1)) (blkL back (kid t 2)) g r1=o by rw[<-HO.out,hy];rfl);clear hr1 hy;have hI1:(1:Int)<(t.ks.length:Int):=by have:=qd.out;omega
  have hI2:(2:Int)<(t.ks.length:Int):=by have:=qd.out;omega
  have hi1:1<t.ks.length:=by omega
  have hi2:2<t.ks.length:=by omega
  obtain⟨a,u,Au,cu,rfl,-,hu,⟨p0,p1,p2,p3⟩,hnu⟩:=ae.out.nd hi1;obtain⟨a',u',Au',cu',e',-,hu',⟨p4,p5,p6,p7⟩,hnu'⟩:=ae.out.nd hi2;injection e' with e';subst e';have gu:kid t 1=u:=by unfold kid;rw[List.getD_eq_getElem?_getD,List.getElem?_eq_getElem hi1];exact hu.out
  have rV:kid t 2=u':=by unfold kid;rw[List.getD_eq_getElem?_getD,List.getElem?_eq_getElem hi2];exact hu'.out
  rw[gu]at hG1;rw[rV]at hG2;rw[gu,rV]at iR;have uQ:=zh hG1;have HG2:=zh hG2;have uC:=zh hnu;have HNU':=zh hnu';have ha:a.add (1*4)=⟨a.block,a.off+4,none⟩:=by unfold Addr.add;split<;>simp_all
  have ha':a.add (2*4)=⟨a.block,a.off+8,none⟩:=by unfold Addr.add;split<;>simp_all
  rw[ha]at p0 p1 p2 p3;rw[ha']at p4 p5 p6 p7;have HPP:=zh (show ∀w',Below C.w.heap.size C.w w'->(w'.cell? ⟨a.block,a.off+4,none⟩=some (.int .u8 u.k)/\w'.cell? ⟨a.block,a.off+4+1,none⟩=some (.int .i64 u.n)/\w'.cell? ⟨a.block,a.off+4+2,none⟩=some (.string u.s)/\w'.cell? ⟨a.block,a.off+4+3,none⟩=some (.slice Au u.ks.length cu))/\(w'.cell? ⟨a.block,a.off+8,none⟩=some (.int .u8 u'.k)/\w'.cell? ⟨a.block,a.off+8+1,none⟩=some (.int .i64 u'.n)/\w'.cell? ⟨a.block,a.off+8+2,none⟩=some (.string u'.s)/\w'.cell? ⟨a.block,a.off+8+3,none⟩=some (.slice Au' u'.ks.length cu'))from fun w' hb=>⟨⟨zb hb p0,zb hb p1,zb hb p2,zb hb p3⟩,⟨zb hb p4,zb hb p5,zb hb p6,zb hb p7⟩⟩);clear gu rV hnu hnu' hu hu' p0 p1 p2 p3 p4 p5 p6 p7 ha ha' hG1 hG2;have hz0:W.heap.size<hi:=l0;go_wp2_with fail
  go_loopw [] (fun wr=>∃(m:Nat) (r1:RS),Hid (RI (C.plus W.heap.size hi) wr r1)/\Hid (Kpt C.n0 (C.plus W.heap.size hi).kb w3 wr)/\Hid (zlV C.F (zku C.p.prs C.F g back) t1 t2 (blkL back u) (blkL back u') m r1=o)) (fun wr=>C.F.toNat-stp C.rb wr)
  case atStart=>exact⟨g,r1,HR4,dK,iR⟩
  case round =>
   obtain⟨m,r3,HR,HK,HL⟩:=hrel;have j0:=HK.out.blk (.inr (.inr ⟨by omega,l0⟩)) K0.out;have j1:=HK.out.blk (.inr (.inr ⟨by omega,l1⟩)) K1.out;have j2:=HK.out.blk (.inr (.inr ⟨by omega,l2⟩)) K2.out;have z3:wr.cell? ⟨W.heap.size,3,none⟩=some (.slice (some a) t.ks.length c):=zc j0 rfl
   cases m with
   | zero=>exact absurd HL.out.symm bD.out
   | succ m =>
    have HL2:=zh (show(runO C.p.prs C.F g back u r3).bind (fun r=>zk8 C.F t2 r fun b r=>if b=true then .ok r else(runO C.p.prs C.F g back u' r).bind fun r=>(zkq C.F t1 false r).bind (zlV C.F (zku C.p.prs C.F g back) t1 t2 (blkL back u) (blkL back u') m))=o from HL.out);have hgu:runO C.p.prs C.F g back u r3 ≠ .gas:=fun e=>bD.out (by rw[<-HL2.out,e];rfl);have ax:=zh (zlf HS.out aX.out HR.out u _ back uC.out uQ.out hgu);obtain⟨⟨q0,q1,q2,q3⟩,-⟩:=HPP.out wr HR.out.below;clear hgu j0 j1 j2;go_wp2_with fail;refine ax.out.mono ?_;rintro e w5 ⟨hk5,hb5,lD⟩;have fI:=zh (HK.out.trans hk5);have aR:=zh (show Below C.w.heap.size C.w w5 from hb5);have bZ:match runO C.p.prs C.F g back u r3 with
     | .gas=>True
     | .err x=>e=zlz x
     | .ok r=>(∃u,e=.returned u)/\RI (C.plus W.heap.size hi) w5 r:=lD
    clear q0 q1 q2 q3 z3 hk5 hb5 lD ax
    cases hx:runO C.p.prs C.F g back u r3 with
    | gas=>exact absurd (by rw[<-HL2.out,hx];rfl) bD.out
    | err x =>
     rw[hx]at bZ;subst bZ;refine⟨rfl,bT.out.trans (Kpt.less (C:=C) fI.out),aR.out,?_⟩
     try rw[bN.out]
     rw[<-HL2.out,hx];rfl
    | ok r4 =>
     rw[hx]at bZ;obtain⟨⟨u2,rfl⟩,hr4⟩:=bZ;have vS:=zh (zmS (fun t r=>zn2 g back t r) (blkL back u) r3 r4 hx);have qJ:=zh (show(zk8 C.F t2 r4 fun b r=>if b=true then .ok r else(runO C.p.prs C.F g back u' r).bind fun r=>(zkq C.F t1 false r).bind (zlV C.F (zku C.p.prs C.F g back) t1 t2 (blkL back u) (blkL back u') m))=o by rw[<-HL2.out,hx];rfl);have HHO2:=zh (zou aX.out hr4 t2 _ aD.out);have j2:=fI.out.blk (.inr (.inr ⟨by omega,l2⟩)) K2.out;have q0:w5.cell? ⟨w2.heap.size+1,0,none⟩=some (.int .u8 t2.k):=zc j2 rfl;have q1:w5.cell? ⟨w2.heap.size+1,1,none⟩=some (.int .i64 t2.n):=zc j2 rfl;have q2:w5.cell? ⟨w2.heap.size+1,2,none⟩=some (.string t2.s):=zc j2 rfl;have q3:w5.cell? ⟨w2.heap.size+1,3,none⟩=some (.slice A2 t2.ks.length c2):=zc j2 rfl;clear hx hr4 j2;go_wp2_with fail;refine HHO2.out.mono ?_;rintro e w6 ⟨bu,hb6,jT⟩;have eF:=zh (fI.out.trans bu)
     have bC:=zh (show Below C.w.heap.size C.w w6 from hb6);clear q0 q1 q2 q3 bu hb6 HHO2;rcases jT with⟨x,rfl,hx⟩|⟨b,r5,rfl,ky,hx⟩
     ·refine⟨rfl,bT.out.trans (Kpt.less (C:=C) eF.out),bC.out,?_⟩
      try rw[bN.out]
      rw[<-qJ.out,show ∀f,zk8 C.F t2 r4 f=.err x from hx]
     ·have ek:=zh ky;have HL4:=zh (show(if b=true then .ok r5 else(runO C.p.prs C.F g back u' r5).bind fun r=>(zkq C.F t1 false r).bind (zlV C.F (zku C.p.prs C.F g back) t1 t2 (blkL back u) (blkL back u') m))=o by rw[<-qJ.out,show ∀f,zk8 C.F t2 r4 f=f b r5 from hx]);have HUP2:=zh (zov (t:=t2) (F:=C.F) (r:=r4) (m:=r4.n+1) (f:=fun _ r=>.ok r) (fun b r' h r'' e=>by injection e with e;subst e;exact h) r5 (hx _));clear hx ky
      cases b
      ·have wh:=zh (show(runO C.p.prs C.F g back u' r5).bind (fun r=>(zkq C.F t1 false r).bind (zlV C.F (zku C.p.prs C.F g back) t1 t2 (blkL back u) (blkL back u') m))=o from HL4.out);have hgu:runO C.p.prs C.F g back u' r5 ≠ .gas:=fun e=>bD.out (by rw[<-wh.out,e];rfl);have ax:=zh (zlf HS.out aX.out ek.out u' _ back HNU'.out HG2.out hgu);have j0:=eF.out.blk (.inr (.inr ⟨by omega,l0⟩)) K0.out;have z3:w6.cell? ⟨W.heap.size,3,none⟩=some (.slice (some a) t.ks.length c):=zc j0 rfl;obtain⟨-,q0,q1,q2,q3⟩:=HPP.out w6 bC.out;clear hgu j0;go_wp2_with fail;refine ax.out.mono ?_;rintro e w7 ⟨mi,eX,ho7⟩;have xP:=zh (eF.out.trans mi);have ig:=zh (show Below C.w.heap.size C.w w7 from eX);have oN:match runO C.p.prs C.F g back u' r5 with
        | .gas=>True
        | .err x=>e=zlz x
        | .ok r=>(∃u,e=.returned u)/\RI (C.plus W.heap.size hi) w7 r:=ho7
       clear q0 q1 q2 q3 z3 mi eX ho7 ax
       cases hx:runO C.p.prs C.F g back u' r5 with
       | gas=>exact absurd (by rw[<-wh.out,hx];rfl) bD.out
       | err x =>
        rw[hx]at oN;subst oN;refine⟨rfl,bT.out.trans (Kpt.less (C:=C) xP.out),ig.out,?_⟩
        try rw[bN.out]
        rw[<-wh.out,hx];rfl
       | ok r6 =>
        rw[hx]at oN;obtain⟨⟨u2,rfl⟩,di⟩:=oN;have HUP3:=zh (zmS (fun t r=>zn2 g back t r) (blkL back u') r5 r6 hx);have BP:=zh (show(zkq C.F t1 false r6).bind (zlV C.F (zku C.p.prs C.F g back) t1 t2 (blkL back u) (blkL back u') m)=o by rw[<-wh.out,hx];rfl);have HAS:=zh (zmT aX.out di t1 _ fq.out false);have j1:=xP.out.blk (.inr (.inr ⟨by omega,l1⟩)) K1.out;have q0:w7.cell? ⟨w2.heap.size,0,none⟩=some (.int .u8 t1.k):=zc j1 rfl;have q1:w7.cell? ⟨w2.heap.size,1,none⟩=some (.int .i64 t1.n):=zc j1 rfl;have q2:w7.cell? ⟨w2.heap.size,2,none⟩=some (.string t1.s):=zc j1 rfl;have q3:w7.cell? ⟨w2.heap.size,3,none⟩=some (.slice A1 t1.ks.length c1):=zc j1 rfl;clear hx di j1;go_wp2_with fail;refine HAS.out.mono ?_;rintro e w8 ⟨lF,cB,qw⟩;have wo:=zh (xP.out.trans lF);have fM:=zh (show Below C.w.heap.size C.w w8 from cB)
        have bX:match zkq C.F t1 false r6 with
         | .gas=>True
         | .err x=>e=zlz x
         | .ok r=>(∃u,e=.returned u)/\RI (C.plus W.heap.size hi) w8 r:=qw
        clear q0 q1 q2 q3 lF cB qw HAS
        cases hy:zkq C.F t1 false r6 with
        | gas=>exact absurd (by rw[<-BP.out,hy];rfl) bD.out
        | err x =>
         rw[hy]at bX;subst bX;refine⟨rfl,bT.out.trans (Kpt.less (C:=C) wo.out),fM.out,?_⟩
         try rw[bN.out]
         rw[<-BP.out,hy];rfl
        | ok r7 =>
         rw[hy]at bX;obtain⟨⟨u3,rfl⟩,eT⟩:=bX;have j3:=zh eT;have HL7:=zh (show zlV C.F (zku C.p.prs C.F g back) t1 t2 (blkL back u) (blkL back u') m r7=o by rw[<-BP.out,hy];rfl);have hmm:C.F.toNat-stp C.rb w8<C.F.toNat-stp C.rb wr:=by
          have e1:stp C.rb w8=r7.n:=zyb (C:=C.plus W.heap.size hi) j3.out;have e2:stp C.rb wr=r3.n:=zyb (C:=C.plus W.heap.size hi) HR.out;obtain⟨e3,e4⟩:=znF hy;have e5:=vS.out;have e6:=HUP2.out;have e7:=HUP3.out;have e8:r7.n=r6.n+1:=by rw[e3]
          omega
         have vZ:=zh hmm;clear eT hy hmm;go_wp2_with fail
         go_roundw
         case rel=>exact⟨m,r7,j3,wo,HL7⟩
         case measure=>exact vZ.out
      ·have wh:=zh (show o=.ok r5 from HL4.out.symm);have oo:=zh ek.out.less;go_wp2_with fail;go_end0;refine⟨bT.out.trans (Kpt.less (C:=C) eF.out),bC.out,?_⟩
       try rw[bN.out]
       rw[wh.out];exact⟨⟨_,rfl⟩,oo.out⟩
section
variable {C:RC} {W W':World} {r:RS} {S':ST}
theorem RI.store(h:RI C W r)(hk:KS C.w C.n0 C.sb (fun b=>C.kb b\/b=C.rb\/C.ev.ownBlock=some b) W' S')(hp:Kpt C.n0 (fun b=>C.kb b\/b=C.rb\/C.ev.ownBlock=some b) W W')(hf:FB r.n S') :
  RI C W' { r with S:=S' }/\Kpt C.n0 C.kb W W' :=
 ⟨⟨hk,hp.blk (.inr (.inr (.inl rfl))) h.box,zon h.ent fun b hb=>hp.kept b (h.ent.lt b hb).2 (.inr (.inr (.inr hb))),h.el,h.en,h.n,hf⟩,⟨hp.size,fun b hb hk=>hp.kept b hb (hk.imp id .inl)⟩⟩
end
theorem FB.fr{j:Nat}{S S':ST}(h:FB j S)(hf:FrK S S'):FB (j+1) S':=by
 obtain⟨h1,h2,_⟩:=hf;unfold FB;rw[h1,h2];exact h.mono (Nat.le_succ _)
theorem FB.cur{j:Nat}{S:ST}(h:FB j S):S.cur.vs.length<=1000+j:=by
 rcases Nat.eq_zero_or_pos S.calls.length with h0|h0
 ·rw[zni h0];have:=h.1;omega
 ·rw[znh h0];exact h.2 _ (List.getElem_mem _)
theorem FB.setCur{j:Nat}{S:ST}(h:FB j S)(f:FR)(hf:f.vs.length<=S.cur.vs.length+1):FB (j+1) (S.setCur f):=by
 unfold ST.setCur;by_cases h0:S.calls.length=0
 ·rw[if_pos h0];rw[zni h0]at hf;exact⟨by have:=h.1;show f.vs.length<=_;omega,(h.mono (Nat.le_succ _)).2⟩
 ·rw[if_neg h0];refine⟨(h.mono (Nat.le_succ _)).1,fun g hg=>?_⟩;rw[znh (by omega)]at hf;rcases List.mem_or_eq_of_mem_set hg with hg|rfl
  ·exact(h.mono (Nat.le_succ _)).2 g hg
  ·have:=h.2 _ (List.getElem_mem (l:=S.calls) (n:=S.calls.length-1) (by omega));omega
theorem FB.open_{j:Nat}{S:ST}(h:FB j S)(v:VD)(x:Int):FB (j+1) (zl9 S v x).2:=by
 unfold zl9
 repeat' split
 all_goals first|exact h.mono (Nat.le_succ _)|exact FB.setCur (S:=S.newCell _) h _ (by rw[zmZ];simp[FR.push])
theorem FB.close_{j:Nat}{S:ST}(h:FB j S)(s:ByteArray)(x:Int):FB (j+1) (zlg S s x).2:=by
 unfold zlg
 repeat' split
 all_goals first|exact h.mono (Nat.le_succ _)|skip
 all_goals exact h.setCur _ (by simp[FR.pop];omega)
theorem FB.enter{j:Nat}{S:ST}(h:FB j S)(ps:List VD)(ss:List ByteArray)(hp:ps.length<=1000):FB (j+1) (zme S ps ss).2:=by
 unfold zme
 split
 ·exact h.mono (Nat.le_succ _)
 ·rcases he:entL S.cur ⟨[],[],0⟩ (ps.zip ss)with e|f
  ·exact h.mono (Nat.le_succ _)
  ·unfold entR;dsimp only
   split
   ·exact h.mono (Nat.le_succ _)
   ·refine⟨(h.mono (Nat.le_succ _)).1,fun g hg=>?_⟩;rcases List.mem_append.1 hg with hg|hg
    ·exact(h.mono (Nat.le_succ _)).2 g hg
    ·simp at hg;subst hg;have:=zsE _ _ _ he;simp at this;omega
theorem FB.leave{j:Nat}{S:ST}(h:FB j S):FB (j+1) (zmo S).2:=by
 unfold zmo
 split
 ·exact h.mono (Nat.le_succ _)
 ·exact⟨(h.mono (Nat.le_succ _)).1,fun g hg=>(h.mono (Nat.le_succ _)).2 g (List.mem_of_mem_take hg)⟩
theorem FB.do_{j:Nat}{S:ST}(h:FB j S)(t:T):FB (j+1) (doE S t).2:=h.fr (zyn _ _)
theorem FB.undo{j:Nat}{S:ST}(h:FB j S)(t:T):FB (j+1) (zoU S t).2:=h.fr (zwq _ _)
theorem zk5{P:Program}{ops:Array Oper}{o:Oper}{a:Act}{w:World}{K:Act->World->Prop}{Q:Exit->Act->World->Prop}{F:Prop}(hw:Region.wanted o (yielded ops a.tmps)=true)(x:Operand)(xs:List Operand)(ats:Array TypeId)
  (ho:o.op=.call { callee:=.value x,args:=xs.toArray,argTypes:=ats })(f:FuncId)(fn:Func)(hf:IsFn P f fn)(hv:a.eval x=.func (.func f) #[] #[])(l:List Value)(hargs:xs.map a.eval=l)(R:Value->World->Prop)
  (hc:Calls P f l.toArray w fun e w'=>(∃v,e=.returned v/\R v w')\/∃ch,e=.panicked ch/\Q (.panic ch) a w')(h:∀v w',R v w'->K (a.put o.dst v) w') :
  if Region.wanted o (yielded ops a.tmps)=true then Oper.wp P o a w K Q else F:=by
 rw[if_pos hw];subst hargs;have e:(execOp a.eval o).run P w=.ok (.enter f (xs.map a.eval).toArray) w:=by
  unfold execOp;simp only[ho,resolve,hv,Deferred.ofValue,Sem.run_bind,Sem.run_pure,Result.andThen_ok,invoke,zkE hf,Array.empty_append,List.map_toArray,Array.append_empty]
 unfold Oper.wp;rw[e,Oper.upon_enter];refine hc.mono ?_;rintro e w' (⟨v,rfl,hR⟩|⟨ch,rfl,hq⟩)
 ·exact h v w' hR
 ·exact hq
theorem zuY:IsFn prog 154 f154:=⟨func154,by kernel_rfl,by kernel_rfl⟩
theorem zmk:IsFn prog 136 f136:=⟨func136,by kernel_rfl,by kernel_rfl⟩
theorem zu3:IsFn prog 137 f137:=⟨func137,by kernel_rfl,by kernel_rfl⟩
theorem zsA:IsFn prog 138 f138:=⟨func138,by kernel_rfl,by kernel_rfl⟩
def loR(prs:List PR)(F:Int)(g:Nat)(back:Bool)(t t2:T)(r:RS):Out :=
 (zk1 (zku prs F g back) (blkL back (kid t 1)) r).bind fun r=>(zkz F r).bind fun r=>valO t2 r fun x r=>zkm r (zlg r.S t.s x)
def loO(prs:List PR)(F:Int)(g:Nat)(back:Bool)(t:T)(r:RS):Out :=
 (zkz F r).bind fun r=>valO (fstT back t) r fun x r=>(zkm r (zl9 r.S ⟨t.s,1,0⟩ x)).bind (loR prs F g back t (lstT back t))
theorem zuy{G:List PR->T->Prop}{g:Nat}(hS:IStC G g){C:RC}(hC:C.Ok){W:World}{r:RS}(h:RI C W r)(t:T)(v:Value)(back:Bool)(hv:NV C.w Any t v)(hk:t.ks.length=3)(hG1:∀u∈(kid t 1).ks,G C.p.prs u)
  (aC:loO C.p.prs C.F g back t r ≠ .gas) :
  Calls prog 134 #[.pointer (some ⟨C.rb,0,none⟩),v,.bool back] W (RunP C W (loO C.p.prs C.F g back t r)):=by
 obtain⟨A,c,rfl,-,hlk,hlc,hrow⟩:=hv.open_;have ae:=zh hrow;have HS:=zh hS;have HV:=zh hv;have hb0:=zkb (zs W) (.cells #[.int .u8 t.k,.int .i64 t.n,.string t.s,.slice A t.ks.length c] 28);obtain⟨x0,x1,x2,x3⟩:=box4 (heap_alloc_new W (.cells #[.int .u8 t.k,.int .i64 t.n,.string t.s,.slice A t.ks.length c] 28));have HB0:=zh hb0;have H:=zh h;have HC:=zh hC;have HX:=zh (heap_alloc_new W (.cells #[.int .u8 t.k,.int .i64 t.n,.string t.s,.slice A t.ks.length c] 28));have nN:=zh (fun w' (hb:Below W.heap.size W w')=>zp6 t _ back C.w w' (zka h.below hb) hv (by omega));have qd:=zh hk;clear hrow hS hb0 h hv hk hC hlk;go_enter func134,ntmps134;go_wp2_with fail;refine(nN.out _ HB0.out).mono ?_;rintro e w2 ⟨v1,v2,rfl,n1,n2,b2⟩;obtain⟨t1,ht1⟩:=zX (fstT back t);obtain⟨t2,ht2⟩:=zX (lstT back t);have HT1:=zh ht1;have HT2:=zh ht2;rw[ht1]at n1;rw[ht2]at n2;obtain⟨A1,c1,rfl,-⟩:=n1.open_
 obtain⟨A2,c2,rfl,-⟩:=n2.open_;have fq:=zh n1;have aD:=zh n2;have b3:=zkb (zkb (zka HB0.out b2) (.cells #[.int .u8 t1.k,.int .i64 t1.n,.string t1.s,.slice A1 t1.ks.length c1] 28)) (.cells #[.int .u8 t2.k,.int .i64 t2.n,.string t2.s,.slice A2 t2.ks.length c2] 28);have k0:=zke (zke (zkc HX.out b2) (.cells #[.int .u8 t1.k,.int .i64 t1.n,.string t1.s,.slice A1 t1.ks.length c1] 28)) (.cells #[.int .u8 t2.k,.int .i64 t2.n,.string t2.s,.slice A2 t2.ks.length c2] 28);have k1:=zke (heap_alloc_new w2 (.cells #[.int .u8 t1.k,.int .i64 t1.n,.string t1.s,.slice A1 t1.ks.length c1] 28)) (.cells #[.int .u8 t2.k,.int .i64 t2.n,.string t2.s,.slice A2 t2.ks.length c2] 28);have k2:=heap_alloc_new (w2.alloc (.cells #[.int .u8 t1.k,.int .i64 t1.n,.string t1.s,.slice A1 t1.ks.length c1] 28)) (.cells #[.int .u8 t2.k,.int .i64 t2.n,.string t2.s,.slice A2 t2.ks.length c2] 28)
 simp only[World.size_alloc]at k2;obtain⟨w3,hw3⟩:=zX ((w2.alloc (.cells #[.int .u8 t1.k,.int .i64 t1.n,.string t1.s,.slice A1 t1.ks.length c1] 28)).alloc (.cells #[.int .u8 t2.k,.int .i64 t2.n,.string t2.s,.slice A2 t2.ks.length c2] 28));rw[hw3]at b3 k0 k1 k2;have hz2:=zka HB0.out b2;have hzz:=hz2.size;obtain⟨dm,h3⟩:=H.out.plus HC.out b3;have bT:=zh (Kpt.of_below (n0:=C.n0) (kb:=C.kb) b3);have l0:=zkf k0;have l1:=zkf k1;have l2:=zkf k2;obtain⟨hi,hhi⟩:=zX (w3.heap.size);rw[hhi]at dm h3 l0 l1 l2;have aX:=zh dm;have H3:=zh h3;have K0:=zh k0;have K1:=zh k1;have K2:=zh k2;have iJ:=zh (zlZ dm h3)
 obtain⟨p1,⟨y0,y1,y2,y3⟩⟩:True/\(w3.cell? ⟨w2.heap.size,0,none⟩=some (.int .u8 t1.k)/\w3.cell? ⟨w2.heap.size,1,none⟩=some (.int .i64 t1.n)/\w3.cell? ⟨w2.heap.size,2,none⟩=some (.string t1.s)/\w3.cell? ⟨w2.heap.size,3,none⟩=some (.slice A1 t1.ks.length c1)):=⟨trivial,zc k1 rfl,zc k1 rfl,zc k1 rfl,zc k1 rfl⟩
 clear n1 n2 b2 b3 k0 k1 k2 hz2 dm h3 x0 x1 x2 x3 HX HB0 nN p1 ht1 ht2;go_upto_region 2 with fail;clear hw3;obtain⟨o,ho⟩:=zX (loO C.p.prs C.F g back t r);have HO:=zh (show(zkz C.F r).bind (fun r=>valO t1 r fun x r=>(zkm r (zl9 r.S ⟨t.s,1,0⟩ x)).bind (loR C.p.prs C.F g back t t2))=o by rw[<-ho];unfold loO loR;rw[HT1.out,HT2.out]);rw[ho]at aC ⊢;have bD:=zh aC;have bN:=zh ho;clear aC ho;go_wp2_with fail;refine iJ.out.mono ?_;rintro e w4 ⟨hk4,hb4,eU⟩;have gL:=zh (bT.out.trans (Kpt.less (C:=C) hk4));have ay:=zh (show Below C.w.heap.size C.w w4 from hb4);have bA:match zkz C.F r with
  | .gas=>True
  | .err x=>e=zlz x
  | .ok r=>(∃u,e=.returned u)/\RI (C.plus W.heap.size hi) w4 r:=eU
 have dK:=zh hk4;clear y0 y1 y2 y3 iJ hk4 hb4 eU
 cases hy:zkz C.F r with
 | gas=>exact absurd (by rw[<-HO.out,hy];rfl) bD.out
 | err x =>
  rw[hy]at bA;subst bA;refine⟨rfl,gL.out,ay.out,?_⟩;rw[<-HO.out,hy];rfl
 | ok r1 =>
  rw[hy]at bA;obtain⟨⟨u3,rfl⟩,hr1⟩:=bA;have HR4:=zh hr1;have iR:=zh (show(valO t1 r1 fun x r=>(zkm r (zl9 r.S ⟨t.s,1,0⟩ x)).bind (loR C.p.prs C.F g back t t2))=o by rw[<-HO.out,hy];rfl);have iL:=zh (show FB r.n r1.S/\r1.n=r.n+1 by obtain⟨rfl,-⟩:=zli hy;exact⟨H.out.fb,rfl⟩);have j0:=dK.out.blk (.inr (.inr ⟨by omega,l0⟩)) K0.out;have j1:=dK.out.blk (.inr (.inr ⟨by omega,l1⟩)) K1.out;have dG:=zh (fun w' (hb:Below w4.heap.size w4 w')=>zqm (hr1.later hb) t1 _ fq.out);have av:=zh (show ∀w',Below w4.heap.size w4 w'->(fun w':World=>zv w' C.rb 6 (.pointer (some ⟨C.sb,0,none⟩))/\zv w' W.heap.size 2 (.string t.s)/\zN4 w' w2.heap.size (.int .u8 t1.k) (.int .i64 t1.n) (.string t1.s) (.slice A1 t1.ks.length c1)) w' from fun w' hb=>⟨zb hb hr1.cells.1,zb hb (zc j0 rfl),zb hb (zc j1 rfl),zb hb (zc j1 rfl),zb hb (zc j1 rfl),zb hb (zc j1 rfl)⟩);have gW:=zh (av.out _ zr.drew)
  clear hr1 hy j0 j1;go_upto_region 3 with fail;have hSS:zW (fun w':World=>zv w' C.rb 6 (.pointer (some ⟨C.sb,0,none⟩))/\zv w' W.heap.size 2 (.string t.s)/\zN4 w' w2.heap.size (.int .u8 t1.k) (.int .i64 t1.n) (.string t1.s) (.slice A1 t1.ks.length c1)) zU w4.drew:=⟨gW.out,trivial⟩
  refine zG hSS 12 ?_;refine zT 0 hSS ?_;refine zT 1 hSS ?_;refine zT 2 hSS ?_;refine zT 3 hSS ?_;refine zT 4 hSS ?_;refine zT 5 hSS ?_;refine zT 6 hSS ?_;refine zT 7 hSS ?_;refine zT 8 hSS ?_;refine zT 9 hSS ?_;have had:Calls prog 154 [.pointer (some ⟨C.rb,0,none⟩),nv t1.k t1.n t1.s A1 t1.ks.length c1].toArray w4.drew (ValP (C.plus W.heap.size hi) w4.drew t1 r1):=dG.out _ zr.drew;refine zo 10 fun K hK=>?_;refine zk5 (by rfl) (.func 154) [.tmp 24,.tmp 25] _ (by rfl) 154 _ zuY (by rfl) _ (by rfl) (fun v w'=>Below w4.heap.size w4 w'/\∃x,v=.int .i64 x/\I64 x/\∀f,valO t1 r1 f=f x r1) (had.mono ?_) ?_
  ·rintro e y1 ⟨bG,hv1⟩;have b1:=zka (zs w4).drew bG;rcases hv1 with⟨x,rfl,hx⟩|⟨x,rfl,oG,hx⟩
   ·refine .inr ⟨_,rfl,?_⟩;refine⟨rfl,gL.out.trans (Kpt.of_below b1),zka ay.out b1,?_⟩
    try rw[bN.out]
    rw[<-iR.out,hx]
   ·exact .inl ⟨_,rfl,b1,x,rfl,oG,hx⟩
  rintro v5 w5 ⟨b5,x,rfl,hx,wJ⟩;have aR:=zh b5;have tV:=zh hx;have iF:=zh (show(zkm r1 (zl9 r1.S ⟨t.s,1,0⟩ x)).bind (loR C.p.prs C.F g back t t2)=o by rw[<-iR.out,wJ]);refine hK.out _ _ ⟨av.out _ b5,trivial⟩ ?_;clear hK K had b5 hx wJ hSS dG;(try simp only[zQ]);obtain⟨R,hR⟩:=zX (zl9 r1.S ⟨t.s,1,0⟩ x);have HRR:=zh hR;have kI:=iL.out.1.cur;have gT:=H.out.n;have had:Calls prog 137 [.pointer (some ⟨C.sb,0,none⟩),.agg #[.string t.s,.int .u8 1,.int .i64 0],.int .i64 x].toArray w5 fun e w'=>∃v,e=.returned v/\(v=.int .i64 R.1/\RI (C.plus W.heap.size hi) w' { r1 with S:=R.2 }/\Kpt C.n0 (C.plus W.heap.size hi).kb w5 w') :=
   ((HR4.out.later aR.out).ks.open_ ⟨t.s,1,0⟩ (by obtain⟨_,_,_,hf,-⟩:=HV.out.open_;exact⟨hf.2.2,⟨by simp only;omega,by simp only;omega⟩,⟨by simp only;omega,by simp only;omega⟩⟩) x tV.out (by omega)).mono fun e w' ⟨h1,h2,h3⟩=>⟨_,h1,by rw[hR],(RI.store (C:=C.plus W.heap.size hi) (HR4.out.later aR.out) (hR▸h2) h3 (by rw[iL.out.2,<-hR];exact iL.out.1.open_ _ _))⟩
  refine zo 11 fun K hK=>?_;refine zld (by rfl) (.func 137) [.tmp 20,.tmp 23,.tmp 26] _ (by rfl) 137 _ zu3 (by rfl) _ (by rfl) _ had ?_;rintro v6 w6 ⟨rfl,di,bu⟩;have fA:=zh (dK.out.trans ((Kpt.of_below aR.out).trans bu));have j0:=fA.out.blk (.inr (.inr ⟨by omega,l0⟩)) K0.out;have j1:=fA.out.blk (.inr (.inr ⟨by omega,l1⟩)) K1.out;have ek:=zh di;have ak:(fun w':World=>zv w' C.rb 6 (.pointer (some ⟨C.sb,0,none⟩))/\zv w' W.heap.size 2 (.string t.s)/\zN4 w' w2.heap.size (.int .u8 t1.k) (.int .i64 t1.n) (.string t1.s) (.slice A1 t1.ks.length c1)) w6:=⟨di.cells.1,zc j0 rfl,zc j1 rfl,zc j1 rfl,zc j1 rfl,zc j1 rfl⟩
  refine hK.out _ _ ⟨ak,trivial⟩ ?_;have nA:=zh ak;have bC:=zh di.below;clear hK K had di bu j0 j1 ak gW av;(try simp only[zQ]);have eF:=zh (bT.out.trans (Kpt.less (C:=C) fA.out));rw[hR]at iF;have had:=zla ⟨C.rb,0,none⟩ R.1 w6;refine zp 12 fun K hK=>?_;refine zk5 (by rfl) (.func 136) [.tmp 16,.tmp 27] _ (by rfl) 136 _ zmk (by rfl) _ (by rfl) (fun v w'=>w'=w6/\R.1=0) (had.mono ?_) ?_
  ·rintro e y1 ⟨rfl,hv1⟩;rcases hv1 with⟨h0,u0,rfl⟩|⟨h0,rfl⟩
   ·exact .inl ⟨_,rfl,rfl,h0⟩
   ·refine .inr ⟨_,rfl,?_⟩;refine⟨rfl,eF.out,bC.out,?_⟩
    try rw[bN.out]
    rw[<-iF.out,show zkm r1 R=.err R.1 by unfold zkm;rw[if_pos h0]];rfl
  rintro v7 w7 ⟨rfl,h0⟩;have qa:=zh (show loR C.p.prs C.F g back t t2 { r1 with S:=R.2 }=o by rw[<-iF.out,show zkm r1 R=.ok { r1 with S:=R.2 } by unfold zkm;rw[if_neg (by simpa using h0)]];rfl);refine hK.out _ _ nA.out ?_;clear hK K had h0;(try simp only[zQ]);refine zd ?_;obtain⟨r2,hr2⟩:=zX (({ r1 with S:=R.2 }:RS));rw[hr2]at ek qa;have hI:1<t.ks.length:=by have:=qd.out;omega
  have hI1:(1:Int)<(t.ks.length:Int):=by omega
  obtain⟨a,u,Au,cu,rfl,-,hu,⟨p0,p1,p2,p3⟩,hnu⟩:=ae.out.nd hI;have gu:kid t 1=u:=by unfold kid;rw[List.getD_eq_getElem?_getD,List.getElem?_eq_getElem hI];exact hu.out
  have uP:=zh (show ∀x∈u.ks,G C.p.prs x by rw[<-gu];exact hG1);have kX:=zh (show(runO C.p.prs C.F g back u r2).bind (fun r=>(zkz C.F r).bind fun r=>valO t2 r fun x r=>zkm r (zlg r.S t.s x))=o by rw[<-qa.out,<-gu];rfl);have hgu:runO C.p.prs C.F g back u r2 ≠ .gas:=fun e=>bD.out (by rw[<-kX.out,e];rfl);have ax:=zh (zlf HS.out aX.out ek.out u _ back hnu uP.out hgu);have ha:a.add (1*4)=⟨a.block,a.off+4,none⟩:=by unfold Addr.add;split<;>simp_all
  rw[ha]at p0 p1 p2 p3;have q0:=zb bC.out p0;have q1:=zb bC.out p1;have q2:=zb bC.out p2;have q3:=zb bC.out p3;have j0:=fA.out.blk (.inr (.inr ⟨by omega,l0⟩)) K0.out;have q4:=zc (i:=3) j0 rfl;clear gu hnu hu p0 p1 p2 p3 hgu ha j0 kI gT;go_wp2_with fail;refine ax.out.mono ?_;rintro e w8 ⟨lF,cB,qw⟩;have nJ:=zh (fA.out.trans lF);have wo:=zh (bT.out.trans (Kpt.less (C:=C) nJ.out));have fM:=zh (show Below C.w.heap.size C.w w8 from cB);have bX:match runO C.p.prs C.F g back u r2 with
   | .gas=>True
   | .err x=>e=zlz x
   | .ok r=>(∃u,e=.returned u)/\RI (C.plus W.heap.size hi) w8 r:=qw
  clear q0 q1 q2 q3 q4 lF cB qw ax
  cases hx:runO C.p.prs C.F g back u r2 with
  | gas=>exact absurd (by rw[<-kX.out,hx];rfl) bD.out
  | err x =>
   rw[hx]at bX;subst bX;refine⟨rfl,wo.out,fM.out,?_⟩
   try rw[bN.out]
   rw[<-kX.out,hx];rfl
  | ok r3 =>
   rw[hx]at bX;obtain⟨⟨u9,rfl⟩,hr3⟩:=bX;have HST:=zh (zlZ aX.out hr3);have kg:=zh (show((zkz C.F r3).bind fun r=>valO t2 r fun x r=>zkm r (zlg r.S t.s x))=o by rw[<-kX.out,hx];rfl);have oo:=zh hr3;clear hx hr3;go_wp2_with fail;refine HST.out.mono ?_;rintro e w9 ⟨aL,aM,dD⟩;have iI:=zh (nJ.out.trans aL);have jI:=zh (bT.out.trans (Kpt.less (C:=C) iI.out));have bz:=zh (show Below C.w.heap.size C.w w9 from aM);have fZ:match zkz C.F r3 with
    | .gas=>True
    | .err x=>e=zlz x
    | .ok r=>(∃u,e=.returned u)/\RI (C.plus W.heap.size hi) w9 r:=dD
   clear aL aM dD HST
   cases hy:zkz C.F r3 with
   | gas=>exact absurd (by rw[<-kg.out,hy];rfl) bD.out
   | err x =>
    rw[hy]at fZ;subst fZ;refine⟨rfl,jI.out,bz.out,?_⟩
    try rw[bN.out]
    rw[<-kg.out,hy];rfl
   | ok r4 =>
    rw[hy]at fZ;obtain⟨⟨u9,rfl⟩,hr4⟩:=fZ;have oh:=zh hr4;have fH:=zh (show(valO t2 r4 fun x r=>zkm r (zlg r.S t.s x))=o by rw[<-kg.out,hy];rfl);have iK:=zh (show FB r3.n r4.S/\r4.n=r3.n+1 by obtain⟨rfl,-⟩:=zli hy;exact⟨oo.out.fb,rfl⟩);have j0:=iI.out.blk (.inr (.inr ⟨by omega,l0⟩)) K0.out;have j2:=iI.out.blk (.inr (.inr ⟨by omega,l2⟩)) K2.out;have dG:=zh (fun w' (hb:Below w9.heap.size w9 w')=>zqm (hr4.later hb) t2 _ aD.out);have av:=zh (show ∀w',Below w9.heap.size w9 w'->(fun w':World=>zv w' C.rb 6 (.pointer (some ⟨C.sb,0,none⟩))/\zv w' W.heap.size 2 (.string t.s)/\zN4 w' (w2.heap.size+1) (.int .u8 t2.k) (.int .i64 t2.n) (.string t2.s) (.slice A2 t2.ks.length c2)) w' from fun w' hb=>⟨zb hb hr4.cells.1,zb hb (zc j0 rfl),zb hb (zc j2 rfl),zb hb (zc j2 rfl),zb hb (zc j2 rfl),zb hb (zc j2 rfl)⟩);clear hr4 hy j0 j2;go_upto_region 6 with fail
    have hSS:zW (fun w':World=>zv w' C.rb 6 (.pointer (some ⟨C.sb,0,none⟩))/\zv w' W.heap.size 2 (.string t.s)/\zN4 w' (w2.heap.size+1) (.int .u8 t2.k) (.int .i64 t2.n) (.string t2.s) (.slice A2 t2.ks.length c2)) zU w9.drew:=⟨av.out _ zr.drew,trivial⟩
    refine zG hSS 11 ?_;refine zT 0 hSS ?_;refine zT 1 hSS ?_;refine zT 2 hSS ?_;refine zT 3 hSS ?_;refine zT 4 hSS ?_;refine zT 5 hSS ?_;refine zT 6 hSS ?_;refine zT 7 hSS ?_;refine zT 8 hSS ?_;have had:Calls prog 154 [.pointer (some ⟨C.rb,0,none⟩),nv t2.k t2.n t2.s A2 t2.ks.length c2].toArray w9.drew (ValP (C.plus W.heap.size hi) w9.drew t2 r4):=dG.out _ zr.drew;refine zo 9 fun K hK=>?_;refine zk5 (by rfl) (.func 154) [.tmp 45,.tmp 46] _ (by rfl) 154 _ zuY (by rfl) _ (by rfl) (fun v w'=>Below w9.heap.size w9 w'/\∃x,v=.int .i64 x/\I64 x/\∀f,valO t2 r4 f=f x r4) (had.mono ?_) ?_
    ·rintro e y1 ⟨bG,hv1⟩;have b1:=zka (zs w9).drew bG;rcases hv1 with⟨x,rfl,hx⟩|⟨x,rfl,oG,hx⟩
     ·refine .inr ⟨_,rfl,?_⟩;refine⟨rfl,jI.out.trans (Kpt.of_below b1),zka bz.out b1,?_⟩
      try rw[bN.out]
      rw[<-fH.out,hx]
     ·exact .inl ⟨_,rfl,b1,x,rfl,oG,hx⟩
    rintro v10 aT ⟨b10,z,rfl,hx,wJ⟩;have iM:=zh b10;obtain⟨Rc,lI⟩:=zX (zlg r4.S t.s z);have iG:=zh (show zkm r4 Rc=o by rw[<-fH.out,wJ,lI]);refine hK.out _ _ ⟨av.out _ b10,trivial⟩ ?_;clear hK K had b10 hx wJ hSS dG;(try simp only[zQ]);have had:Calls prog 138 [.pointer (some ⟨C.sb,0,none⟩),.string t.s,.int .i64 z].toArray aT fun e w'=>∃v,e=.returned v/\(v=.int .i64 Rc.1/\RI (C.plus W.heap.size hi) w' { r4 with S:=Rc.2 }/\Kpt C.n0 (C.plus W.heap.size hi).kb aT w') :=
     ((oh.out.later iM.out).ks.close t.s z).mono fun e w' ⟨h1,h2,h3⟩=>⟨_,h1,by rw[lI],(RI.store (C:=C.plus W.heap.size hi) (oh.out.later iM.out) (lI▸h2) h3 (by rw[iK.out.2,<-lI];exact iK.out.1.close_ _ _))⟩
    refine zo 10 fun K hK=>?_;refine zld (by rfl) (.func 138) [.tmp 42,.tmp 44,.tmp 47] _ (by rfl) 138 _ zsA (by rfl) _ (by rfl) _ had ?_;rintro v11 aS ⟨rfl,fU,iq⟩;have fJ:=zh (iI.out.trans ((Kpt.of_below iM.out).trans iq));have j0:=fJ.out.blk (.inr (.inr ⟨by omega,l0⟩)) K0.out;have j2:=fJ.out.blk (.inr (.inr ⟨by omega,l2⟩)) K2.out;have kW:=zh fU;have ak:(fun w':World=>zv w' C.rb 6 (.pointer (some ⟨C.sb,0,none⟩))/\zv w' W.heap.size 2 (.string t.s)/\zN4 w' (w2.heap.size+1) (.int .u8 t2.k) (.int .i64 t2.n) (.string t2.s) (.slice A2 t2.ks.length c2)) aS:=⟨fU.cells.1,zc j0 rfl,zc j2 rfl,zc j2 rfl,zc j2 rfl,zc j2 rfl⟩
    refine hK.out _ _ ⟨ak,trivial⟩ ?_;have nA:=zh ak;have jP:=zh fU.below;clear hK K had fU iq j0 j2 ak av;(try simp only[zQ]);have jJ:=zh (bT.out.trans (Kpt.less (C:=C) fJ.out));have had:=zla ⟨C.rb,0,none⟩ Rc.1 aS;refine zp 11 fun K hK=>?_;refine zk5 (by rfl) (.func 136) [.tmp 38,.tmp 48] _ (by rfl) 136 _ zmk (by rfl) _ (by rfl) (fun v w'=>w'=aS/\Rc.1=0) (had.mono ?_) ?_
    ·rintro e y1 ⟨rfl,hv1⟩;rcases hv1 with⟨h0,u0,rfl⟩|⟨h0,rfl⟩
     ·exact .inl ⟨_,rfl,rfl,h0⟩
     ·refine .inr ⟨_,rfl,?_⟩;refine⟨rfl,jJ.out,jP.out,?_⟩
      try rw[bN.out]
      rw[<-iG.out,show zkm r4 Rc=.err Rc.1 by unfold zkm;rw[if_pos h0]]
    rintro v12 eH ⟨rfl,h0⟩;have gJ:=zh (show o=.ok { r4 with S:=Rc.2 } by rw[<-iG.out];unfold zkm;rw[if_neg (by simpa using h0)]);refine hK.out _ _ nA.out ?_;clear hK K had h0;(try simp only[zQ]);refine zd ?_;have nG:=zh kW.out.less;go_wp2_with fail;go_end0;refine⟨jJ.out,jP.out,?_⟩
    try rw[bN.out]
    rw[gJ.out];exact⟨⟨_,rfl⟩,nG.out⟩
theorem zyK{G:List PR->T->Prop}{g:Nat}(hS:IStC G g){C:RC}(hC:C.Ok){W:World}{r:RS}(h:RI C W r)(t:T)(v:Value)(back:Bool)(hv:NV C.w Any t v)(hk0:t.k=52)(hk:t.ks.length=4)(hG1:∀u∈(kid t 1).ks,G C.p.prs u)(hG2:∀u∈(kid t 2).ks,G C.p.prs u)
  (o:Out)(ho:brO C.p.prs C.F g back t r=o)(hog:o ≠ .gas) :
  Calls prog 108 #[.pointer (some ⟨C.rb,0,none⟩),v,.bool back] W (RunP C W o):=by
 have aC:=hog;obtain⟨k,n,s,ks⟩:=t;obtain rfl:k=52:=hk0;obtain⟨A,c,rfl,-,hlk,hlc,-⟩:=hv.open_;have hb0:=zkb (zs W) (.cells #[.int .u8 52,.int .i64 n,.string s,.slice A ks.length c] 28);obtain⟨x0,x1,x2,x3⟩:=box4 (heap_alloc_new W (.cells #[.int .u8 52,.int .i64 n,.string s,.slice A ks.length c] 28));have aF:=zh (Kpt.of_below (n0:=C.n0) (kb:=C.kb) hb0);have aH:=zh (show Calls prog 132 #[.pointer (some ⟨C.rb,0,none⟩),.agg #[.int .u8 52,.int .i64 n,.string s,.slice A ks.length c],.bool back] (W.alloc (.cells #[.int .u8 52,.int .i64 n,.string s,.slice A ks.length c] 28)) (RunP C _ o)from(ho▸(ztn hS hC (h.later hb0) _ _ back hv hk hG1 hG2 (ho▸hog))));clear hv hb0 h aC hG1 ho hk;go_enter func108,ntmps108;go_wp2_with fail;refine aH.out.mono ?_;rintro e w1 ⟨hk1,hb1,ho1⟩
 cases o with
 | gas=>exact absurd rfl hog
 | err x =>
  subst ho1;exact⟨rfl,aF.out.trans hk1,hb1,rfl⟩
 | ok r1 =>
  obtain⟨⟨u,rfl⟩,hr1⟩:=ho1;have HR:=zh hr1;have aA:=zh (aF.out.trans hk1);have HB1:=zh hb1;clear x0 x1 x2 x3 hr1 hk1 hb1;go_wp2_with fail;go_end0;exact⟨aA.out,HB1.out,⟨_,rfl⟩,HR.out⟩
theorem ztR{G:List PR->T->Prop}{g:Nat}(hS:IStC G g){C:RC}(hC:C.Ok){W:World}{r:RS}(h:RI C W r)(t:T)(v:Value)(back:Bool)(hv:NV C.w Any t v)(hk0:t.k=53)(hk:t.ks.length=4)(hG1:∀u∈(kid t 1).ks,G C.p.prs u)(hG2:∀u∈(kid t 2).ks,G C.p.prs u)
  (o:Out)(ho:lpO C.p.prs C.F g back t r=o)(hog:o ≠ .gas) :
  Calls prog 108 #[.pointer (some ⟨C.rb,0,none⟩),v,.bool back] W (RunP C W o):=by
 have aC:=hog;obtain⟨k,n,s,ks⟩:=t;obtain rfl:k=53:=hk0;obtain⟨A,c,rfl,-,hlk,hlc,-⟩:=hv.open_;have hb0:=zkb (zs W) (.cells #[.int .u8 53,.int .i64 n,.string s,.slice A ks.length c] 28);obtain⟨x0,x1,x2,x3⟩:=box4 (heap_alloc_new W (.cells #[.int .u8 53,.int .i64 n,.string s,.slice A ks.length c] 28));have aF:=zh (Kpt.of_below (n0:=C.n0) (kb:=C.kb) hb0);have aH:=zh (show Calls prog 133 #[.pointer (some ⟨C.rb,0,none⟩),.agg #[.int .u8 53,.int .i64 n,.string s,.slice A ks.length c],.bool back] (W.alloc (.cells #[.int .u8 53,.int .i64 n,.string s,.slice A ks.length c] 28)) (RunP C _ o)from(ho▸(zwT hS hC (h.later hb0) _ _ back hv hk hG1 hG2 (ho▸hog))));clear hv hb0 h aC hG1 ho hk;go_enter func108,ntmps108;go_wp2_with fail;refine aH.out.mono ?_;rintro e w1 ⟨hk1,hb1,ho1⟩
 cases o with
 | gas=>exact absurd rfl hog
 | err x =>
  subst ho1;exact⟨rfl,aF.out.trans hk1,hb1,rfl⟩
 | ok r1 =>
  obtain⟨⟨u,rfl⟩,hr1⟩:=ho1;have HR:=zh hr1;have aA:=zh (aF.out.trans hk1);have HB1:=zh hb1;clear x0 x1 x2 x3 hr1 hk1 hb1;go_wp2_with fail;go_end0;exact⟨aA.out,HB1.out,⟨_,rfl⟩,HR.out⟩
theorem zsU{G:List PR->T->Prop}{g:Nat}(hS:IStC G g){C:RC}(hC:C.Ok){W:World}{r:RS}(h:RI C W r)(t:T)(v:Value)(back:Bool)(hv:NV C.w Any t v)(hk0:t.k=54)(hk:t.ks.length=3)(hG1:∀u∈(kid t 1).ks,G C.p.prs u)
  (o:Out)(ho:loO C.p.prs C.F g back t r=o)(hog:o ≠ .gas) :
  Calls prog 108 #[.pointer (some ⟨C.rb,0,none⟩),v,.bool back] W (RunP C W o):=by
 have aC:=hog;obtain⟨k,n,s,ks⟩:=t;obtain rfl:k=54:=hk0;obtain⟨A,c,rfl,-,hlk,hlc,-⟩:=hv.open_;have hb0:=zkb (zs W) (.cells #[.int .u8 54,.int .i64 n,.string s,.slice A ks.length c] 28);obtain⟨x0,x1,x2,x3⟩:=box4 (heap_alloc_new W (.cells #[.int .u8 54,.int .i64 n,.string s,.slice A ks.length c] 28));have aF:=zh (Kpt.of_below (n0:=C.n0) (kb:=C.kb) hb0);have aH:=zh (show Calls prog 134 #[.pointer (some ⟨C.rb,0,none⟩),.agg #[.int .u8 54,.int .i64 n,.string s,.slice A ks.length c],.bool back] (W.alloc (.cells #[.int .u8 54,.int .i64 n,.string s,.slice A ks.length c] 28)) (RunP C _ o)from(ho▸(zuy hS hC (h.later hb0) _ _ back hv hk hG1 (ho▸hog))));clear hv hb0 h aC hG1 ho hk;go_enter func108,ntmps108;go_wp2_with fail;refine aH.out.mono ?_;rintro e w1 ⟨hk1,hb1,ho1⟩
 cases o with
 | gas=>exact absurd rfl hog
 | err x =>
  subst ho1;exact⟨rfl,aF.out.trans hk1,hb1,rfl⟩
 | ok r1 =>
  obtain⟨⟨u,rfl⟩,hr1⟩:=ho1;have HR:=zh hr1;have aA:=zh (aF.out.trans hk1);have HB1:=zh hb1;clear x0 x1 x2 x3 hr1 hk1 hb1;go_wp2_with fail;go_end0;exact⟨aA.out,HB1.out,⟨_,rfl⟩,HR.out⟩
theorem zLg:IsFn prog 141 f141:=⟨func141,by kernel_rfl,by kernel_rfl⟩
theorem zza:IsFn prog 140 f140:=⟨func140,by kernel_rfl,by kernel_rfl⟩
def basO(F:Int)(back:Bool)(t:T)(r:RS):Out:=(zkz F r).bind fun r=>zkm r (if back=true then zoU r.S t else doE r.S t)
theorem zwu{C:RC}(hC:C.Ok){W:World}{r:RS}(h:RI C W r)(t:T)(v:Value)(back:Bool)(hv:NV C.w Any t v)(hk:t.k≠52/\t.k≠53/\t.k≠54/\t.k≠55/\t.k≠50/\t.k≠51) :
  Calls prog 108 #[.pointer (some ⟨C.rb,0,none⟩),v,.bool back] W (RunP C W (basO C.F back t r)):=by
 have HV:=zh hv;have H:=zh h;obtain⟨A,c,rfl,-,hlk,hlc,-⟩:=hv.open_;have e0:(t.k==52)=false:=by simpa using hk.1
 have e1:(t.k==53)=false:=by simpa using hk.2.1
 have e2:(t.k==54)=false:=by simpa using hk.2.2.1
 have e3:(t.k==55)=false:=by simpa using hk.2.2.2.1
 have e4:(t.k==50)=false:=by simpa using hk.2.2.2.2.1
 have e5:(t.k==51)=false:=by simpa using hk.2.2.2.2.2
 have hb0:=zkb (zs W) (.cells #[.int .u8 t.k,.int .i64 t.n,.string t.s,.slice A t.ks.length c] 28);obtain⟨bB,h1⟩:=h.plus hC hb0;have k0:=heap_alloc_new W (.cells #[.int .u8 t.k,.int .i64 t.n,.string t.s,.slice A t.ks.length c] 28);obtain⟨x0,x1,x2,x3⟩:=box4 k0;have bT:=zh (Kpt.of_below (n0:=C.n0) (kb:=C.kb) hb0);obtain⟨w3,hw3⟩:=zX (W.alloc (.cells #[.int .u8 t.k,.int .i64 t.n,.string t.s,.slice A t.ks.length c] 28));rw[hw3]at bB h1 k0 x0 x1 x2 x3 bT;have l0:=zkf k0;have K0:=zh k0;obtain⟨hi,hhi⟩:=zX (w3.heap.size);rw[hhi]at bB h1 l0;have iJ:=zh (zlZ bB h1);obtain⟨o,ho⟩:=zX (basO C.F back t r);have bN:=zh ho;have HO:=zh (show(zkz C.F r).bind (fun r=>zkm r (if back=true then zoU r.S t else doE r.S t))=o from ho);rw[ho];clear hv hb0 bB h1 k0 h hk ho;go_enter func108,ntmps108;go_wp2_with fail;refine iJ.out.mono ?_;rintro e w4 ⟨hk4,hb4,eU⟩
 have gL:=zh (bT.out.trans (Kpt.less (C:=C) hk4));have ay:=zh (show Below C.w.heap.size C.w w4 from hb4);have bA:match zkz C.F r with
  | .gas=>True
  | .err x=>e=zlz x
  | .ok r=>(∃u,e=.returned u)/\RI (C.plus W.heap.size hi) w4 r:=eU
 have dK:=zh hk4;clear x0 x1 x2 x3 iJ hk4 hb4 eU hw3
 cases hy:zkz C.F r with
 | gas=>exact absurd hy (zkr _ _).1
 | err x =>
  rw[hy]at bA;subst bA;refine⟨rfl,gL.out,ay.out,?_⟩
  try rw[bN.out]
  rw[<-HO.out,hy];rfl
 | ok r1 =>
  rw[hy]at bA;obtain⟨⟨u3,rfl⟩,hr1⟩:=bA;have HR4:=zh hr1;have iR:=zh (show zkm r1 (if back=true then zoU r1.S t else doE r1.S t)=o by rw[<-HO.out,hy];rfl);have iL:=zh (show FB r.n r1.S/\r1.n=r.n+1 by obtain⟨rfl,-⟩:=zli hy;exact⟨H.out.fb,rfl⟩);have j0:=dK.out.blk (.inr (.inr ⟨zl,l0⟩)) K0.out;have hSS:zW (fun w':World=>zv w' C.rb 6 (.pointer (some ⟨C.sb,0,none⟩))/\zN4 w' W.heap.size (.int .u8 t.k) (.int .i64 t.n) (.string t.s) (.slice A t.ks.length c)) zU w4.drew:=⟨⟨hr1.cells.1,zc j0 rfl,zc j0 rfl,zc j0 rfl,zc j0 rfl⟩,trivial⟩
  clear hr1 hy j0
  cases back
  ·skip
   go_upto_region 5 with fail;refine zG hSS 7 ?_;refine zT 0 hSS ?_;refine zT 1 hSS ?_;refine zT 2 hSS ?_;refine zT 3 hSS ?_;refine zT 4 hSS ?_;refine zT 5 hSS ?_;obtain⟨R,hR⟩:=zX (doE r1.S t);have iF:=zh (show zkm r1 R=o by rw[<-hR];exact iR.out);have hbd:Below w4.heap.size w4 w4.drew:=zr.drew;have had:Calls prog 141 [.pointer (some ⟨C.sb,0,none⟩),.agg #[.int .u8 t.k,.int .i64 t.n,.string t.s,.slice A t.ks.length c]].toArray w4.drew fun e w'=>∃v,e=.returned v/\(v=.int .i64 R.1/\RI (C.plus W.heap.size hi) w' { r1 with S:=R.2 }/\Kpt C.n0 (C.plus W.heap.size hi).kb w4 w') :=
    ((HR4.out.later hbd).ks.do_ t _ (HV.out.later (zka ay.out hbd))).mono fun e w' ⟨h1,h2,h3⟩=>by
     have hs:=RI.store (C:=C.plus W.heap.size hi) (HR4.out.later hbd) h2 h3 (by rw[iL.out.2];exact iL.out.1.do_ _);rw[hR]at h1 hs;exact⟨_,h1,rfl,hs.1,(Kpt.of_below hbd).trans hs.2⟩
   refine zo 6 fun K hK=>?_;refine zld (by rfl) (.func 141) [.tmp 23,.tmp 24] _ (by rfl) 141 _ zLg (by rfl) _ (by rfl) _ had ?_;rintro v6 w6 ⟨rfl,di,bu⟩;have eF:=zh (gL.out.trans (Kpt.less (C:=C) bu));have j0:=(dK.out.trans bu).blk (.inr (.inr ⟨zl,l0⟩)) K0.out;have ak:(fun w':World=>zv w' C.rb 6 (.pointer (some ⟨C.sb,0,none⟩))/\zN4 w' W.heap.size (.int .u8 t.k) (.int .i64 t.n) (.string t.s) (.slice A t.ks.length c)) w6:=⟨di.cells.1,zc j0 rfl,zc j0 rfl,zc j0 rfl,zc j0 rfl⟩
   have ek:=zh di.less;have bC:=zh di.below;refine hK.out _ _ ⟨ak,trivial⟩ ?_;have nA:=zh ak;clear hK K had di bu j0 ak hSS;(try simp only[zQ]);have had:=zla ⟨C.rb,0,none⟩ R.1 w6;refine zp 7 fun K hK=>?_;refine zk5 (by rfl) (.func 136) [.tmp 19,.tmp 25] _ (by rfl) 136 _ zmk (by rfl) _ (by rfl) (fun v w'=>w'=w6/\R.1=0) (had.mono ?_) ?_
   ·rintro e y1 ⟨rfl,hv1⟩;rcases hv1 with⟨h0,u0,rfl⟩|⟨h0,rfl⟩
    ·exact .inl ⟨_,rfl,rfl,h0⟩
    ·refine .inr ⟨_,rfl,?_⟩;refine⟨rfl,eF.out,bC.out,?_⟩
     try rw[bN.out]
     rw[<-iF.out,show zkm r1 R=.err R.1 by unfold zkm;rw[if_pos h0]]
   rintro v12 eH ⟨rfl,h0⟩;have gJ:=zh (show o=.ok { r1 with S:=R.2 } by rw[<-iF.out];unfold zkm;rw[if_neg (by simpa using h0)]);refine hK.out _ _ nA.out ?_;clear hK K had h0;(try simp only[zQ]);refine zd ?_;go_wp2_with fail;go_end0;refine⟨eF.out,bC.out,?_⟩
   try rw[bN.out]
   rw[gJ.out];exact⟨⟨_,rfl⟩,ek.out⟩
  ·skip
   go_upto_region 4 with fail;refine zkk (fun w':World=>zv w' C.rb 6 (.pointer (some ⟨C.sb,0,none⟩))/\zN4 w' W.heap.size (.int .u8 t.k) (.int .i64 t.n) (.string t.s) (.slice A t.ks.length c)) zU 7 (by kernel_rfl) ?_;refine zT 0 hSS ?_;refine zT 1 hSS ?_;refine zT 2 hSS ?_;refine zT 3 hSS ?_;refine zT 4 hSS ?_;refine zT 5 hSS ?_;obtain⟨R,hR⟩:=zX (zoU r1.S t);have iF:=zh (show zkm r1 R=o by rw[<-hR];exact iR.out);have hbd:Below w4.heap.size w4 w4.drew:=zr.drew;have had:Calls prog 140 [.pointer (some ⟨C.sb,0,none⟩),.agg #[.int .u8 t.k,.int .i64 t.n,.string t.s,.slice A t.ks.length c]].toArray w4.drew fun e w'=>∃v,e=.returned v/\(v=.int .i64 R.1/\RI (C.plus W.heap.size hi) w' { r1 with S:=R.2 }/\Kpt C.n0 (C.plus W.heap.size hi).kb w4 w') :=
    ((HR4.out.later hbd).ks.undo t _ (HV.out.later (zka ay.out hbd))).mono fun e w' ⟨h1,h2,h3⟩=>by
     have hs:=RI.store (C:=C.plus W.heap.size hi) (HR4.out.later hbd) h2 h3 (by rw[iL.out.2];exact iL.out.1.undo _);rw[hR]at h1 hs;exact⟨_,h1,rfl,hs.1,(Kpt.of_below hbd).trans hs.2⟩
   refine zo 6 fun K hK=>?_;refine zld (by rfl) (.func 140) [.tmp 15,.tmp 16] _ (by rfl) 140 _ zza (by rfl) _ (by rfl) _ had ?_;rintro v6 w6 ⟨rfl,di,bu⟩;have eF:=zh (gL.out.trans (Kpt.less (C:=C) bu));have j0:=(dK.out.trans bu).blk (.inr (.inr ⟨zl,l0⟩)) K0.out;have ak:(fun w':World=>zv w' C.rb 6 (.pointer (some ⟨C.sb,0,none⟩))/\zN4 w' W.heap.size (.int .u8 t.k) (.int .i64 t.n) (.string t.s) (.slice A t.ks.length c)) w6:=⟨di.cells.1,zc j0 rfl,zc j0 rfl,zc j0 rfl,zc j0 rfl⟩
   have ek:=zh di.less;have bC:=zh di.below;refine hK.out _ _ ⟨ak,trivial⟩ ?_;have nA:=zh ak;clear hK K had di bu j0 ak hSS;(try simp only[zQ]);have had:=zla ⟨C.rb,0,none⟩ R.1 w6;refine zp 7 fun K hK=>?_;refine zk5 (by rfl) (.func 136) [.tmp 11,.tmp 17] _ (by rfl) 136 _ zmk (by rfl) _ (by rfl) (fun v w'=>w'=w6/\R.1=0) (had.mono ?_) ?_
   ·rintro e y1 ⟨rfl,hv1⟩;rcases hv1 with⟨h0,u0,rfl⟩|⟨h0,rfl⟩
    ·exact .inl ⟨_,rfl,rfl,h0⟩
    ·refine .inr ⟨_,rfl,?_⟩;refine⟨rfl,eF.out,bC.out,?_⟩
     try rw[bN.out]
     rw[<-iF.out,show zkm r1 R=.err R.1 by unfold zkm;rw[if_pos h0]]
   rintro v12 eH ⟨rfl,h0⟩;have gJ:=zh (show o=.ok { r1 with S:=R.2 } by rw[<-iF.out];unfold zkm;rw[if_neg (by simpa using h0)]);refine hK.out _ _ nA.out ?_;clear hK K had h0;(try simp only[zQ]);refine zd ?_;go_wp2_with fail;go_end0;refine⟨eF.out,bC.out,?_⟩
   try rw[bN.out]
   rw[gJ.out];exact⟨⟨_,rfl⟩,ek.out⟩
def lsR(prs:List PR)(F:Int)(g:Nat)(back:Bool)(t:T)(r:RS):Out :=
 (zk1 (zku prs F g back) (blkL back (kid t 0)) r).bind fun r=>(zkz F r).bind fun r=>zkm r (zlg r.S t.s 0)
def lsO(prs:List PR)(F:Int)(g:Nat)(back:Bool)(t:T)(r:RS):Out :=
 (zkz F r).bind fun r=>(zkm r (zl9 r.S ⟨t.s,3,0⟩ 0)).bind (lsR prs F g back t)
theorem zyJ{G:List PR->T->Prop}{g:Nat}(hS:IStC G g){C:RC}(hC:C.Ok){W:World}{r:RS}(h:RI C W r)(t:T)(v:Value)(back:Bool)(hv:NV C.w Any t v)(hk0:t.k=55)(hk:t.ks.length=1)(hG1:∀u∈(kid t 0).ks,G C.p.prs u)
  (aC:lsO C.p.prs C.F g back t r ≠ .gas) :
  Calls prog 108 #[.pointer (some ⟨C.rb,0,none⟩),v,.bool back] W (RunP C W (lsO C.p.prs C.F g back t r)):=by
 have HV:=zh hv;have H:=zh h;have HS:=zh hS;have qd:=zh hk;obtain⟨A,c,rfl,-,hlk,hlc,hrow⟩:=hv.open_;have ae:=zh hrow;have hb0:=zkb (zs W) (.cells #[.int .u8 t.k,.int .i64 t.n,.string t.s,.slice A t.ks.length c] 28);obtain⟨bB,h1⟩:=h.plus hC hb0;have k0:=heap_alloc_new W (.cells #[.int .u8 t.k,.int .i64 t.n,.string t.s,.slice A t.ks.length c] 28);obtain⟨x0,x1,x2,x3⟩:=box4 k0;have bT:=zh (Kpt.of_below (n0:=C.n0) (kb:=C.kb) hb0);obtain⟨w3,hw3⟩:=zX (W.alloc (.cells #[.int .u8 t.k,.int .i64 t.n,.string t.s,.slice A t.ks.length c] 28));rw[hw3]at bB h1 k0 x0 x1 x2 x3 bT;have l0:=zkf k0;have K0:=zh k0;obtain⟨hi,hhi⟩:=zX (w3.heap.size);rw[hhi]at bB h1 l0;have lV:=zh bB;have iJ:=zh (zlZ bB h1);obtain⟨o,ho⟩:=zX (lsO C.p.prs C.F g back t r);have bN:=zh ho;have HO:=zh (show(zkz C.F r).bind (fun r=>(zkm r (zl9 r.S ⟨t.s,3,0⟩ 0)).bind (lsR C.p.prs C.F g back t))=o from ho)
 rw[ho]at aC ⊢;have bD:=zh aC;rw[hk0]at hw3;have hw3':=hw3;clear hv hb0 bB h1 k0 h hk ho aC hrow hS hlk;have HKK:=zh hk0;rw[hk0]at x0;rw[hk0];clear hk0;go_enter func108,ntmps108;go_wp2_with fail;refine iJ.out.mono ?_;rintro e w4 ⟨hk4,hb4,eU⟩;have gL:=zh (bT.out.trans (Kpt.less (C:=C) hk4));have ay:=zh (show Below C.w.heap.size C.w w4 from hb4);have bA:match zkz C.F r with
  | .gas=>True
  | .err x=>e=zlz x
  | .ok r=>(∃u,e=.returned u)/\RI (C.plus W.heap.size hi) w4 r:=eU
 have dK:=zh hk4;clear x0 x1 x2 x3 iJ hk4 hb4 eU hw3 hw3'
 cases hy:zkz C.F r with
 | gas=>exact absurd hy (zkr _ _).1
 | err x =>
  rw[hy]at bA;subst bA;refine⟨rfl,gL.out,ay.out,?_⟩
  try rw[bN.out]
  rw[<-HO.out,hy];rfl
 | ok r1 =>
  rw[hy]at bA;obtain⟨⟨u3,rfl⟩,hr1⟩:=bA;have HR4:=zh hr1;have iR:=zh (show(zkm r1 (zl9 r1.S ⟨t.s,3,0⟩ 0)).bind (lsR C.p.prs C.F g back t)=o by rw[<-HO.out,hy];rfl);have iL:=zh (show FB r.n r1.S/\r1.n=r.n+1 by obtain⟨rfl,-⟩:=zli hy;exact⟨H.out.fb,rfl⟩);have j0:=dK.out.blk (.inr (.inr ⟨zl,l0⟩)) K0.out;have hSS:zW (fun w':World=>zv w' C.rb 6 (.pointer (some ⟨C.sb,0,none⟩))/\zv w' W.heap.size 2 (.string t.s)) zU w4.drew:=⟨⟨hr1.cells.1,zc j0 rfl⟩,trivial⟩
  clear hr1 hy j0;go_upto_region 14 with fail;refine zG hSS 9 ?_;refine zT 0 hSS ?_;refine zT 1 hSS ?_;refine zT 2 hSS ?_;refine zT 3 hSS ?_;refine zT 4 hSS ?_;refine zT 5 hSS ?_;refine zT 6 hSS ?_;refine zT 7 hSS ?_;obtain⟨R,hR⟩:=zX (zl9 r1.S ⟨t.s,3,0⟩ 0);have HRR:=zh hR;have kI:=iL.out.1.cur;have gT:=H.out.n;have hbd:Below w4.heap.size w4 w4.drew:=zr.drew;have had:Calls prog 137 [.pointer (some ⟨C.sb,0,none⟩),.agg #[.string t.s,.int .u8 3,.int .i64 0],.int .i64 0].toArray w4.drew fun e w'=>∃v,e=.returned v/\(v=.int .i64 R.1/\RI (C.plus W.heap.size hi) w' { r1 with S:=R.2 }/\Kpt C.n0 (C.plus W.heap.size hi).kb w4 w') :=
   ((HR4.out.later hbd).ks.open_ ⟨t.s,3,0⟩ (by obtain⟨_,_,_,hf,-⟩:=HV.out.open_;exact⟨hf.2.2,⟨by simp only;omega,by simp only;omega⟩,⟨by simp only;omega,by simp only;omega⟩⟩) 0 zero_I64 (by omega)).mono fun e w' ⟨h1,h2,h3⟩=>by
    have hs:=RI.store (C:=C.plus W.heap.size hi) (HR4.out.later hbd) (hR▸h2) h3 (by rw[iL.out.2,<-hR];exact iL.out.1.open_ _ _);exact⟨_,h1,by rw[hR],hs.1,(Kpt.of_below hbd).trans hs.2⟩
  refine zo 8 fun K hK=>?_;refine zld (by rfl) (.func 137) [.tmp 53,.tmp 56,.const (.int .i64 0)] _ (by rfl) 137 _ zu3 (by rfl) _ (by rfl) _ had ?_;rintro v6 w6 ⟨rfl,di,bu⟩;have fA:=zh (dK.out.trans bu);have j0:=fA.out.blk (.inr (.inr ⟨zl,l0⟩)) K0.out;have ek:=zh di;have ak:(fun w':World=>zv w' C.rb 6 (.pointer (some ⟨C.sb,0,none⟩))/\zv w' W.heap.size 2 (.string t.s)) w6:=⟨di.cells.1,zc j0 rfl⟩
  refine hK.out _ _ ⟨ak,trivial⟩ ?_;have nA:=zh ak;have bC:=zh di.below;clear hK K had di bu j0 ak hSS;(try simp only[zQ]);have eF:=zh (bT.out.trans (Kpt.less (C:=C) fA.out));rw[hR]at iR;have had:=zla ⟨C.rb,0,none⟩ R.1 w6;refine zp 9 fun K hK=>?_;refine zk5 (by rfl) (.func 136) [.tmp 49,.tmp 57] _ (by rfl) 136 _ zmk (by rfl) _ (by rfl) (fun v w'=>w'=w6/\R.1=0) (had.mono ?_) ?_
  ·rintro e y1 ⟨rfl,hv1⟩;rcases hv1 with⟨h0,u0,rfl⟩|⟨h0,rfl⟩
   ·exact .inl ⟨_,rfl,rfl,h0⟩
   ·refine .inr ⟨_,rfl,?_⟩;refine⟨rfl,eF.out,bC.out,?_⟩
    try rw[bN.out]
    rw[<-iR.out,show zkm r1 R=.err R.1 by unfold zkm;rw[if_pos h0]];rfl
  rintro v7 w7 ⟨rfl,h0⟩;have qa:=zh (show lsR C.p.prs C.F g back t { r1 with S:=R.2 }=o by rw[<-iR.out,show zkm r1 R=.ok { r1 with S:=R.2 } by unfold zkm;rw[if_neg (by simpa using h0)]];rfl);refine hK.out _ _ nA.out ?_;clear hK K had h0;(try simp only[zQ]);refine zd ?_;obtain⟨r2,hr2⟩:=zX (({ r1 with S:=R.2 }:RS));rw[hr2]at ek qa;have hI:0<t.ks.length:=by have:=qd.out;omega
  have hI1:(0:Int)<(t.ks.length:Int):=by omega
  obtain⟨a,u,Au,cu,rfl,-,hu,⟨p0,p1,p2,p3⟩,hnu⟩:=ae.out.nd hI;have gu:kid t 0=u:=by unfold kid;rw[List.getD_eq_getElem?_getD,List.getElem?_eq_getElem hI];exact hu.out
  have uP:=zh (show ∀x∈u.ks,G C.p.prs x by rw[<-gu];exact hG1);have kX:=zh (show(runO C.p.prs C.F g back u r2).bind (fun r=>(zkz C.F r).bind fun r=>zkm r (zlg r.S t.s 0))=o by rw[<-qa.out,<-gu];rfl);have hgu:runO C.p.prs C.F g back u r2 ≠ .gas:=fun e=>bD.out (by rw[<-kX.out,e];rfl);have ax:=zh (zlf HS.out lV.out ek.out u _ back hnu uP.out hgu);have ha:a.add (0*4)=a:=by unfold Addr.add;simp
  rw[ha]at p0 p1 p2 p3;have q0:=zb bC.out p0;have q1:=zb bC.out p1;have q2:=zb bC.out p2;have q3:=zb bC.out p3;have j0:=fA.out.blk (.inr (.inr ⟨zl,l0⟩)) K0.out;have q4:=zc (i:=3) j0 rfl;clear gu hnu hu p0 p1 p2 p3 hgu ha j0 kI gT hG1;go_wp2_with fail;refine ax.out.mono ?_;rintro e w8 ⟨lF,cB,qw⟩;have nJ:=zh (fA.out.trans lF);have wo:=zh (bT.out.trans (Kpt.less (C:=C) nJ.out));have fM:=zh (show Below C.w.heap.size C.w w8 from cB);have bX:match runO C.p.prs C.F g back u r2 with
   | .gas=>True
   | .err x=>e=zlz x
   | .ok r=>(∃u,e=.returned u)/\RI (C.plus W.heap.size hi) w8 r:=qw
  clear q0 q1 q2 q3 q4 lF cB qw ax
  cases hx:runO C.p.prs C.F g back u r2 with
  | gas=>exact absurd (by rw[<-kX.out,hx];rfl) bD.out
  | err x =>
   rw[hx]at bX;subst bX;refine⟨rfl,wo.out,fM.out,?_⟩
   try rw[bN.out]
   rw[<-kX.out,hx];rfl
  | ok r3 =>
   rw[hx]at bX;obtain⟨⟨u9,rfl⟩,hr3⟩:=bX;have HST:=zh (zlZ lV.out hr3);have kg:=zh (show((zkz C.F r3).bind fun r=>zkm r (zlg r.S t.s 0))=o by rw[<-kX.out,hx];rfl);have oo:=zh hr3;clear hx hr3;go_wp2_with fail;refine HST.out.mono ?_;rintro e w9 ⟨aL,aM,dD⟩;have iI:=zh (nJ.out.trans aL);have jI:=zh (bT.out.trans (Kpt.less (C:=C) iI.out));have bz:=zh (show Below C.w.heap.size C.w w9 from aM);have fZ:match zkz C.F r3 with
    | .gas=>True
    | .err x=>e=zlz x
    | .ok r=>(∃u,e=.returned u)/\RI (C.plus W.heap.size hi) w9 r:=dD
   clear aL aM dD HST
   cases hy:zkz C.F r3 with
   | gas=>exact absurd (by rw[<-kg.out,hy];rfl) bD.out
   | err x =>
    rw[hy]at fZ;subst fZ;refine⟨rfl,jI.out,bz.out,?_⟩
    try rw[bN.out]
    rw[<-kg.out,hy];rfl
   | ok r4 =>
    rw[hy]at fZ;obtain⟨⟨u9,rfl⟩,hr4⟩:=fZ;have oh:=zh hr4;have iK:=zh (show FB r3.n r4.S/\r4.n=r3.n+1 by obtain⟨rfl,-⟩:=zli hy;exact⟨oo.out.fb,rfl⟩);obtain⟨Rc,lI⟩:=zX (zlg r4.S t.s 0);have iG:=zh (show zkm r4 Rc=o by rw[<-kg.out,hy,<-lI];rfl);have j0:=iI.out.blk (.inr (.inr ⟨zl,l0⟩)) K0.out;have hSS:zW (fun w':World=>zv w' C.rb 6 (.pointer (some ⟨C.sb,0,none⟩))/\zv w' W.heap.size 2 (.string t.s)) zU w9.drew:=⟨⟨hr4.cells.1,zc j0 rfl⟩,trivial⟩
    clear hr4 hy j0;go_upto_region 17 with fail;refine zG hSS 8 ?_;refine zT 0 hSS ?_;refine zT 1 hSS ?_;refine zT 2 hSS ?_;refine zT 3 hSS ?_;refine zT 4 hSS ?_;refine zT 5 hSS ?_;refine zT 6 hSS ?_;have sK:Below w9.heap.size w9 w9.drew:=zr.drew;have had:Calls prog 138 [.pointer (some ⟨C.sb,0,none⟩),.string t.s,.int .i64 0].toArray w9.drew fun e w'=>∃v,e=.returned v/\(v=.int .i64 Rc.1/\RI (C.plus W.heap.size hi) w' { r4 with S:=Rc.2 }/\Kpt C.n0 (C.plus W.heap.size hi).kb w9 w') :=
     ((oh.out.later sK).ks.close t.s 0).mono fun e w' ⟨h1,h2,h3⟩=>by
      have hs:=RI.store (C:=C.plus W.heap.size hi) (oh.out.later sK) (lI▸h2) h3 (by rw[iK.out.2,<-lI];exact iK.out.1.close_ _ _);exact⟨_,h1,by rw[lI],hs.1,(Kpt.of_below sK).trans hs.2⟩
    refine zo 7 fun K hK=>?_;refine zld (by rfl) (.func 138) [.tmp 72,.tmp 74,.const (.int .i64 0)] _ (by rfl) 138 _ zsA (by rfl) _ (by rfl) _ had ?_;rintro v11 aS ⟨rfl,fU,iq⟩;have fJ:=zh (iI.out.trans iq);have j0:=fJ.out.blk (.inr (.inr ⟨zl,l0⟩)) K0.out;have kW:=zh fU;have ak:(fun w':World=>zv w' C.rb 6 (.pointer (some ⟨C.sb,0,none⟩))/\zv w' W.heap.size 2 (.string t.s)) aS:=⟨fU.cells.1,zc j0 rfl⟩
    refine hK.out _ _ ⟨ak,trivial⟩ ?_;have nA:=zh ak;have jP:=zh fU.below;clear hK K had fU iq j0 ak hSS;(try simp only[zQ]);have jJ:=zh (bT.out.trans (Kpt.less (C:=C) fJ.out));have had:=zla ⟨C.rb,0,none⟩ Rc.1 aS;refine zp 8 fun K hK=>?_;refine zk5 (by rfl) (.func 136) [.tmp 68,.tmp 75] _ (by rfl) 136 _ zmk (by rfl) _ (by rfl) (fun v w'=>w'=aS/\Rc.1=0) (had.mono ?_) ?_
    ·rintro e y1 ⟨rfl,hv1⟩;rcases hv1 with⟨h0,u0,rfl⟩|⟨h0,rfl⟩
     ·exact .inl ⟨_,rfl,rfl,h0⟩
     ·refine .inr ⟨_,rfl,?_⟩;refine⟨rfl,jJ.out,jP.out,?_⟩
      try rw[bN.out]
      rw[<-iG.out,show zkm r4 Rc=.err Rc.1 by unfold zkm;rw[if_pos h0]]
    rintro v12 eH ⟨rfl,h0⟩;have gJ:=zh (show o=.ok { r4 with S:=Rc.2 } by rw[<-iG.out];unfold zkm;rw[if_neg (by simpa using h0)]);refine hK.out _ _ nA.out ?_;clear hK K had h0;(try simp only[zQ]);refine zd ?_;have nG:=zh kW.out.less;go_wp2_with fail;go_end0;refine⟨jJ.out,jP.out,?_⟩
    try rw[bN.out]
    rw[gJ.out];exact⟨⟨_,rfl⟩,nG.out⟩
theorem zpP:∀(prs:List PR) (s:ByteArray) (i:Nat),prcI prs s=some i->zlB prs s=(i:Int)/\i<prs.length
 | [],_,_,h=>by simp[prcI]at h
 | q::qs,s,i,h=>by
  unfold prcI at h;unfold zlB idxP;rw[List.findIdx?_cons]
  split at h
  ·rename_i h0;injection h with h;subst h;rw[if_pos h0];exact⟨rfl,by simp⟩
  ·rename_i h0;rw[if_neg h0];obtain⟨j,hj,rfl⟩:=Option.map_eq_some_iff.1 h;have h5:=zpP qs s j hj;unfold zlB idxP at h5
   cases hf:List.findIdx? (fun r=>r.s.toList==s.toList) qs with
   | none =>
    rw[hf]at h5;have h6:(-1:Int)=(j:Int):=h5.1;omega
   | some m =>
    rw[hf]at h5;have h6:(m:Int)=(j:Int):=h5.1;exact⟨by show((m+1:Nat):Int)=((j+1:Nat):Int);omega,by have:=h5.2;simp;omega⟩
def strA(l:List ByteArray):Array Value:=(l.map Value.string).toArray
theorem zz7:(prog.info? 9).map (fun i=>(i.zero,i.size,i.bytes))=some (some (.string ⟨#[]⟩),1,16):=by kernel_rfl
theorem zwS(n:Nat):madeCells (Value.string ⟨#[]⟩).cells (n*1)=strA (List.replicate n ⟨#[]⟩):=by
 unfold strA;apply Array.ext';apply List.ext_getElem
 ·rw[Array.length_toList,size_madeCells];simp
 ·intro i h1 h2;have e:i % 1=0:=by omega
  simp[madeCells,Value.cells,e]
theorem zKG(n:Nat)(hn:n<=17592186044416)(w:World):(Instr.makeSlice 196 (.int .i64 (n:Int)) (.int .i64 (n:Int))).run prog w=.ok (.slice (some ⟨w.heap.size,0,none⟩) n n) (w.alloc (.cells (strA (List.replicate n ⟨#[]⟩)) 9)):=by
 have h:=zz7;obtain⟨i,hi,hz⟩:=Option.map_eq_some_iff.1 h;injection hz with h1 h2;injection h2 with h2 h3;have:=zk6 (P:=prog) 196 9 i (.string ⟨#[]⟩) underlying196 hi h1 .i64 .i64 n n zl (by rw[h3];omega) (by omega) w;rw[h2,zwS]at this;exact this
def argL(ks:List T)(j:Nat):List ByteArray:=(ks.take j).map (·.s)++List.replicate (ks.length-j) ⟨#[]⟩
theorem zyq(ks:List T):argL ks 0=List.replicate ks.length ⟨#[]⟩:=by simp[argL]
theorem zxG(ks:List T):argL ks ks.length=ks.map (·.s):=by simp[argL]
theorem zxF(ks:List T){j:Nat}(hj:j<=ks.length):(argL ks j).length=ks.length:=by simp[argL];omega
theorem zxE(ks:List T){j:Nat}(hj:j<ks.length):(strA (argL ks j)).setIfInBounds j (.string ks[j].s)=strA (argL ks (j+1)):=by
 unfold strA;rw[List.setIfInBounds_toArray,<-List.map_set];congr 2;unfold argL;refine List.ext_getElem (by simp;omega) fun i h1 h2=>?_;rw[List.getElem_set];simp only[List.length_append,List.length_map,List.length_take,List.length_replicate,List.length_set]at h1 h2;by_cases e:j=i
 ·subst e;rw[if_pos rfl,List.getElem_append_left (by simp;omega)];simp
 ·rw[if_neg e];by_cases hi:i<j
  ·rw[List.getElem_append_left (by simp;omega),List.getElem_append_left (by simp;omega)];simp
  ·rw[List.getElem_append_right (by simp;omega),List.getElem_append_right (by simp;omega)];simp
theorem zwt{W:World}{b:Nat}{E:TypeId}{l:List ByteArray}(h:W.heap[b]?=some (.cells (strA l) E (0,0))):RowS W (some ⟨b,0,none⟩) l:=fun i hi=>by
 have ha:(⟨b,0,none⟩:Addr).add i=⟨b,i,none⟩:=by rw[Addr.add_lit,Nat.zero_add]
 refine⟨⟨b,0,none⟩,rfl,?_⟩;rw[ha];simp only[World.cell?,h];simp[strA,hi]
theorem RI.count{C:RC}(hC:C.Ok){W:World}{r:RS}(h:RI C W r){i:Nat}(hi:i<r.ent.length)(hn:r.ent.getD i 0+1<=r.n) :
  ∃g c,C.ev=.slice (some ⟨g,0,none⟩) r.ent.length c/\W.cell? ⟨g,i,none⟩=some (.int .i64 (r.ent.getD i 0:Nat))/\W.frozen? ⟨g,i,none⟩=false /\
   RI C (W.setCell ⟨g,i,none⟩ (.int .i64 ((r.ent.getD i 0+1:Nat):Int))) { r with ent:=r.ent.set i (r.ent.getD i 0+1) }/\Kpt C.n0 C.kb W (W.setCell ⟨g,i,none⟩ (.int .i64 ((r.ent.getD i 0+1:Nat):Int))):=by
 obtain⟨e1,h2⟩:=h.ent;rcases h2 with h2|⟨g,cap,cur,hev,hb,hg,hcap,hlen,hsz,kI⟩
 ·have hn0:r.ent.length=0:=h2.2;omega
 ·have hcz:cur[i]?=some (.int .i64 (r.ent.getD i 0:Nat)):=by
   have h3:(zki (r.ent.map Int.ofNat))[i]?=some (.int .i64 (r.ent.getD i 0:Nat)):=by simp[zki,hi]
   rw[<-kI,List.getElem?_take]at h3
   split at h3
   ·simpa using h3
   ·cases h3
  have hci:i<cur.size:=by
   rcases Nat.lt_or_ge i cur.size with h|h
   ·exact h
   ·rw[Array.getElem?_eq_none h]at hcz;cases hcz
  have hrb:g≠C.rb:=fun e=>hC.ev.1 (by rw[hev,<-e];rfl);have hkb:¬ C.kb g:=hC.ev.2 g (by rw[hev];rfl);have hch:Chg (fun b=>b=g) W (W.setCell ⟨g,i,none⟩ (.int .i64 ((r.ent.getD i 0+1:Nat):Int))):=(Chg.refl (fun b=>b=g) W).setCell (p:=⟨g,i,none⟩) (.inl rfl) _;have hnn:=h.ks.hn;refine⟨g,cap,hev,zc hg hcz,zf hg,⟨h.ks.chg hch fun b _ e=>⟨by omega,.inr (.inr (.inr (by rw[hev,e];rfl)))⟩,?_,?_,by simp[h.el],?_,h.n,h.fb⟩,Kpt.chg hch fun b e=>⟨by omega,by rw[e];exact hkb⟩⟩
  ·rw[Below.heap_setCell _ _ _ _ (fun e=>hrb (by simpa using e.symm))];exact h.box
  ·have hs:=heap_setCell_same W g i _ _ (.int .i64 ((r.ent.getD i 0+1:Nat):Int)) hg;refine⟨by simp[zki],.inr ⟨g,cap,_,by rw[hev];simp,hb,hs,by simpa using hcap,by simpa using hlen,by simpa using hsz,?_⟩⟩;have e2:((cur.setIfInBounds i (.int .i64 ((r.ent.getD i 0+1:Nat):Int))).toList.take ((r.ent.set i (r.ent.getD i 0+1)).length*1))=(cur.toList.take (r.ent.length*1)).set i (.int .i64 ((r.ent.getD i 0+1:Nat):Int)):=by
    rw[Array.toList_setIfInBounds,List.length_set,List.take_set]
   rw[e2,kI];simp[zki,List.map_set]
  ·intro c hc;rcases List.mem_or_eq_of_mem_set hc with hc|rfl
   ·exact h.en c hc
   ·exact hn
theorem zxh:IsFn prog 158 f158:=⟨func158,by kernel_rfl,by kernel_rfl⟩
def caR(prs:List PR)(F:Int)(g:Nat)(back:Bool)(i:Nat)(b:T)(r:RS):Out :=
 (zk1 (zku prs F g back) (blkL back b) { r with ent:=r.ent.set i (r.ent.getD i 0+1) }).bind fun r=>(zkz F r).bind fun r=>zkm r (zmo r.S)
def caO(prs:List PR)(F:Int)(g:Nat)(back:Bool)(i:Nat)(q:PR)(ss:List ByteArray)(r:RS):Out :=
 (zkz F r).bind fun r=>(zkm r (zme r.S q.ps ss)).bind (caR prs F g back i q.b)
theorem zn6{G:List PR->T->Prop}{g:Nat}(hS:IStC G g){C:RC}(hC:C.Ok){W:World}{r:RS}(h:RI C W r)(t:T)(v:Value)(back:Bool)(hv:NV C.w Any t v)(i:Nat)(hi:prcI C.p.prs t.s=some i)(q:PR)(hq:C.p.prs[i]?=some q)(hG1:∀u∈q.b.ks,G C.p.prs u)
  (aC:caO C.p.prs C.F g back i q (t.ks.map (·.s)) r ≠ .gas) :
  Calls prog 139 #[.pointer (some ⟨C.rb,0,none⟩),v,.bool back] W (RunP C W (caO C.p.prs C.F g back i q (t.ks.map (·.s)) r)):=by
 have HV:=zh hv;have H:=zh h;have HS:=zh hS;have HC:=zh hC;obtain⟨hpi,hil⟩:=zpP _ _ _ hi;obtain⟨A,c,rfl,-,hlk,hlc,hrow⟩:=hv.open_;have ae:=zh hrow;have hb0:=zkb (zs W) (.cells #[.int .u8 t.k,.int .i64 t.n,.string t.s,.slice A t.ks.length c] 28);have k0:=heap_alloc_new W (.cells #[.int .u8 t.k,.int .i64 t.n,.string t.s,.slice A t.ks.length c] 28);obtain⟨x0,x1,x2,x3⟩:=box4 k0;have ku:=zh h.below;obtain⟨w1,hw1⟩:=zX (W.alloc (.cells #[.int .u8 t.k,.int .i64 t.n,.string t.s,.slice A t.ks.length c] 28));have hz1:w1.heap.size=W.heap.size+1:=by rw[<-hw1];simp
 rw[hw1]at hb0 k0 x0 x1 x2 x3;have hmk:=zKG t.ks.length (by unfold LK at hlk;omega);have hb1:=zkb hb0 (.cells (strA (List.replicate t.ks.length ⟨#[]⟩)) 9);have k1:=heap_alloc_new w1 (.cells (strA (List.replicate t.ks.length ⟨#[]⟩)) 9);have j0:=zke k0 (.cells (strA (List.replicate t.ks.length ⟨#[]⟩)) 9);rw[hz1]at k1;rw[<-zyq]at hmk;have hz2:(w1.alloc (.cells (strA (argL t.ks 0)) 9)).heap.size=W.heap.size+2:=by simp[hz1]
 rw[<-zyq]at hb1 k1 j0;have HB1:=zh hb1;have K1:=zh k1;have J0:=zh j0;obtain⟨o,ho⟩:=zX (caO C.p.prs C.F g back i q (t.ks.map (·.s)) r);have bN:=zh ho;have HO:=zh (show(zkz C.F r).bind (fun r=>(zkm r (zme r.S q.ps (t.ks.map (·.s)))).bind (caR C.p.prs C.F g back i q.b))=o from ho);rw[ho]at aC ⊢;have bD:=zh aC;have HPI:=zh hpi;have wu:=zh hil;have HQ:=zh hq;have hlk2:t.ks.length<=17592186044416:=by unfold LK at hlk;omega
 have HZ2:=zh hz2;clear hv hb0 k0 h ho aC hrow hS hC hlk hpi hil hq hi hb1 k1 j0 hz2;go_enter func139,ntmps139;go_wp2_with fail;clear x0 x1 x2 x3 hw1 hmk;have jQ:=zh (fun j (hj:j<t.ks.length)=>zxE t.ks hj);have HAN:=zh (fun j (hj:j<=t.ks.length)=>zxF t.ks hj)
 go_loopw [18] (fun x wr=>∃j:Nat,j<=t.ks.length/\x=.int .i64 j/\Hid (Below W.heap.size W wr)/\Hid (wr.heap[W.heap.size]?=some (.cells #[.int .u8 t.k,.int .i64 t.n,.string t.s,.slice A t.ks.length c] 28 (0,0)))/\Hid (wr.heap[W.heap.size+1]?=some (.cells (strA (argL t.ks j)) 9 (0,0)))) (fun x _=>t.ks.length-(intOf x).toNat)
 case atStart=>exact⟨0,Nat.zero_le _,rfl,HB1,J0,K1⟩
 case round =>
  obtain⟨j,hj,rfl,af,HJ,HK⟩:=hrel;clear HB1 J0 K1;by_cases hlt:j<t.ks.length
  ·obtain⟨a,u,Au,cu,rfl,-,Hu,⟨p0,p1,p2,p3⟩,-⟩:=ae.out.nd hlt;have hbb:=zka ku.out af.out;have q0:=zb hbb p0;have q1:=zb hbb p1;have q2:=zb hbb p2;have q3:=zb hbb p3;have hj1:(j:Int)<(t.ks.length:Int):=by omega
   have hj0:(0:Int)<=(j:Int):=by omega
   have kz:=zke HK.out (.cells #[.int .u8 u.k,.int .i64 u.n,.string u.s,.slice Au u.ks.length cu] 28);have jz:=zke HJ.out (.cells #[.int .u8 u.k,.int .i64 u.n,.string u.s,.slice Au u.ks.length cu] 28);have hbz:=zkb af.out (.cells #[.int .u8 u.k,.int .i64 u.n,.string u.s,.slice Au u.ks.length cu] 28);have zc:∃y,(strA (argL t.ks j))[j]?=some y:=⟨_,Array.getElem?_eq_getElem (by simp[strA,HAN.out j hj];exact hlt)⟩
   obtain⟨y,hy⟩:=zc;have zy:=zc kz hy;have zf:(wr.alloc (.cells #[.int .u8 u.k,.int .i64 u.n,.string u.s,.slice Au u.ks.length cu] 28)).frozen? ⟨W.heap.size+1,j,none⟩=false:=zf kz;have yV:=zh hbz;have HKZ:=zh kz;have HJZ:=zh jz;have hwlt:W.heap.size+1<wr.heap.size:=zkf HK.out;clear hbb p0 p1 p2 p3 kz jz hbz hy;go_wp2_with fail
   go_roundw
   case rel =>
    have hch:=(Chg.refl (fun b=>b=W.heap.size+1) wr).setCell (p:=⟨W.heap.size+1,j,none⟩) (.inl rfl) (.string u.s);refine⟨j+1,by omega,by go_num,zh (zkb (af.out.trans (hch.below af.out.size fun b e=>by omega)) _),zh (zke (hch.keep HJ.out (by omega)) _),zh ?_⟩;have:=heap_setCell_same _ (W.heap.size+1) j _ _ (.string u.s) HK.out;refine zke ?_ _;rw[this,<-jQ.out j hlt,Hu.out]
   case measure=>simp[intOf];omega
  ·obtain rfl:j=t.ks.length:=by omega
   rw[zxG]at HK;have hj1:¬ (t.ks.length:Int)<(t.ks.length:Int):=by omega
   have hrn:=H.out.n;have hel:=H.out.el;obtain⟨pa,q1,B1,d1,B2,d2,hA2,-,Hq1,⟨p0,p1,p2,p3,p4,p5⟩,hpr⟩:=HC.out.pg.procs.nd wu.out;obtain rfl:q=q1:=by
    have e:=HQ.out;rw[List.getElem?_eq_getElem wu.out,Hq1.out]at e;injection e with e;exact e.symm
   have HPRR:=zh hpr;have hbb:=zka ku.out af.out;have dM:=zh hbb;have bW:=zh (fun w' (hb:Below wr.heap.size wr w')=>znm C.p Any (pv C.A1 C.p.vs.length C.c1 C.A2 C.p.prs.length C.c2 C.p.m.k C.p.m.n C.p.m.s C.A3 C.p.m.ks.length C.c3) t.s w' ⟨_,_,_,_,_,_,rfl,HC.out.pg.later (zka dM.out hb)⟩);rw[HPI.out]at bW;have HXB:=zh (zkc H.out.box af.out);rw[hA2]at bW;have lM:Hid (wr.cell? ⟨C.rb,0,none⟩=some (.slice C.A1 C.p.vs.length C.c1)/\wr.cell? ⟨C.rb,1,none⟩=some (.slice (some pa) C.p.prs.length C.c2)/\wr.cell? ⟨C.rb,2,none⟩=some (.int .u8 C.p.m.k)/\wr.cell? ⟨C.rb,3,none⟩=some (.int .i64 C.p.m.n)/\wr.cell? ⟨C.rb,4,none⟩=some (.string C.p.m.s)/\wr.cell? ⟨C.rb,5,none⟩=some (.slice C.A3 C.p.m.ks.length C.c3)) :=
    zh ⟨zc HXB.out rfl,by rw[<-hA2];exact zc HXB.out rfl,zc HXB.out rfl,zc HXB.out rfl,zc HXB.out rfl,zc HXB.out rfl⟩
   have uN:=zh (show(i:Int)<(C.p.prs.length:Int) by have:=wu.out;omega);obtain⟨rb,hrb⟩:=zX (C.rb);obtain⟨z1,hz1⟩:=zX (C.A1);obtain⟨z2,hz2⟩:=zX (C.p.vs.length);obtain⟨z3,hz3⟩:=zX (C.c1);obtain⟨z5,qp⟩:=zX (C.p.prs.length);obtain⟨z6,eP⟩:=zX (C.c2);obtain⟨z7,lu⟩:=zX (C.p.m.k);obtain⟨z8,zu⟩:=zX (C.p.m.n);obtain⟨z9,vz⟩:=zX (C.p.m.s);obtain⟨z10,lZ⟩:=zX (C.A3);obtain⟨z11,qY⟩:=zX (C.p.m.ks.length);obtain⟨z12,qX⟩:=zX (C.c3);rw[hz1,hz2,hz3,qp,eP,lu,zu,vz,lZ,qY,qX]at bW;rw[hrb,hz1,hz2,hz3,qp,eP,lu,zu,vz,lZ,qY,qX]at lM;have av:=zh (show ∀w',Below wr.heap.size wr w'->(fun w':World=>zv w' rb 0 (.slice z1 z2 z3)/\zv w' rb 1 (.slice (some pa) z5 z6)/\zv w' rb 2 (.int .u8 z7)/\zv w' rb 3 (.int .i64 z8)/\zv w' rb 4 (.string z9)/\zv w' rb 5 (.slice z10 z11 z12)/\zv w' W.heap.size 2 (.string t.s)) w' from fun w' hb=>by
    obtain⟨y0,y1,y2,y3,y4,y5⟩:=lM.out;exact⟨zb hb y0,zb hb y1,zb hb y2,zb hb y3,zb hb y4,zb hb y5,zb hb (zc HJ.out rfl)⟩)
   have gW:=zh (av.out _ zr.drew);have oq:=zh (show C.w.cell? (pa.add (i*6))=_/\_/\_/\_/\_/\_ from⟨p0,p1,p2,p3,p4,p5⟩);clear p0 p1 p2 p3 p4 p5 hpr hbb hz1 hz2 hz3 eP lu zu vz lZ qY qX hel hrn hj1;have tQ:=zh qp;rw[qp]at uN;clear qp;have cZ:=zh hrb;clear hrb hA2;rw[cZ.out];have hj1:¬ (t.ks.length:Int)<(t.ks.length:Int):=by omega
   go_upto_region 7 with fail
   go_region_held3 (fun w':World=>zv w' rb 0 (.slice z1 z2 z3)/\zv w' rb 1 (.slice (some pa) z5 z6)/\zv w' rb 2 (.int .u8 z7)/\zv w' rb 3 (.int .i64 z8)/\zv w' rb 4 (.string z9)/\zv w' rb 5 (.slice z10 z11 z12)/\zv w' W.heap.size 2 (.string t.s))
    (first|with_reducible exact bH.out|with_reducible exact gW.out)
    (first
     | (go_at_call 57;refine(bW.out _ zr.drew).mono ?_;rintro e y1 ⟨rfl,bG⟩;have b1:=zka (zs wr).drew bG;have bH:=zh (av.out _ b1))
     | fail)
   have hb1:=zka dM.out b1;have p0:=zb hb1 oq.out.1;have p1:=zb hb1 oq.out.2.1;have p2:=zb hb1 oq.out.2.2.1;have p3:=zb hb1 oq.out.2.2.2.1;have p4:=zb hb1 oq.out.2.2.2.2.1;have p5:=zb hb1 oq.out.2.2.2.2.2;obtain⟨-,e1,-⟩:=bH.out;have hi1:=uN.out;have hi0:(0:Int)<=(i:Int):=by omega
   have dO:=zkb (zka af.out b1) (.cells #[.string q.s,.slice B1 q.ps.length d1,.int .u8 q.b.k,.int .i64 q.b.n,.string q.b.s,.slice B2 q.b.ks.length d2] 100);have k0:=zke (zkc HJ.out b1) (.cells #[.string q.s,.slice B1 q.ps.length d1,.int .u8 q.b.k,.int .i64 q.b.n,.string q.b.s,.slice B2 q.b.ks.length d2] 100);have k1:=zke (zkc HK.out b1) (.cells #[.string q.s,.slice B1 q.ps.length d1,.int .u8 q.b.k,.int .i64 q.b.n,.string q.b.s,.slice B2 q.b.ks.length d2] 100);have k2:=heap_alloc_new y1 (.cells #[.string q.s,.slice B1 q.ps.length d1,.int .u8 q.b.k,.int .i64 q.b.n,.string q.b.s,.slice B2 q.b.ks.length d2] 100);obtain⟨pb,hpb⟩:=zX (y1.heap.size);have hpl:W.heap.size<=pb:=by rw[<-hpb];exact(zka af.out b1).size
   obtain⟨w5,mg⟩:=zX (y1.alloc (.cells #[.string q.s,.slice B1 q.ps.length d1,.int .u8 q.b.k,.int .i64 q.b.n,.string q.b.s,.slice B2 q.b.ks.length d2] 100));rw[mg]at dO k0 k1;rw[hpb,mg]at k2;have bT:=zh (Kpt.of_below (n0:=C.n0) (kb:=C.kb) dO);obtain⟨yA,h5⟩:=H.out.plus HC.out dO;have l0:=zkf k0;have l1:=zkf k1;have l2:=zkf k2;obtain⟨hi,hhi⟩:=zX (w5.heap.size);rw[hhi]at yA h5 l0 l1 l2;have bO:=zh yA;have K0:=zh k0;have K1:=zh k1;have K2:=zh k2;have HST:=zh (zlZ yA h5);rw[show(C.plus W.heap.size hi).rb=rb from cZ.out]at HST;have xH:=zh hpl;obtain⟨ss,hss⟩:=zX (t.ks.map (·.s));have HSL:=zh (show ss.length=t.ks.length by rw[<-hss];simp);rw[hss]at HO K1;clear hb1 b1 bG bH av gW dO k0 k1 k2 yA h5 oq hpl lM bW jQ HAN HK HJ hss;go_upto_region 9 with fail;clear p0 p1 p2 p3 p4 p5 e1 mg hpb;go_wp2_with fail;refine HST.out.mono ?_;rintro e w6 ⟨bu,hb6,jT⟩
   have eF:=zh (bT.out.trans (Kpt.less (C:=C) bu));have bC:=zh (show Below C.w.heap.size C.w w6 from hb6);have bY:match zkz C.F r with
    | .gas=>True
    | .err x=>e=zlz x
    | .ok r=>(∃u,e=.returned u)/\RI (C.plus W.heap.size hi) w6 r:=jT
   have uK:=zh bu;clear HST bu hb6 jT
   cases hy:zkz C.F r with
   | gas=>exact absurd (by rw[<-HO.out,hy];rfl) bD.out
   | err x =>
    rw[hy]at bY;subst bY;refine⟨rfl,eF.out,bC.out,?_⟩
    try rw[bN.out]
    rw[<-HO.out,hy];rfl
   | ok r1 =>
    rw[hy]at bY;obtain⟨⟨u3,rfl⟩,hr1⟩:=bY;have ek:=zh hr1;have qa:=zh (show(zkm r1 (zme r1.S q.ps ss)).bind (caR C.p.prs C.F g back i q.b)=o by rw[<-HO.out,hy];rfl);have iL:=zh (show FB r.n r1.S/\r1.n=r.n+1/\r1.ent=r.ent by obtain⟨rfl,-⟩:=zli hy;exact⟨H.out.fb,rfl,rfl⟩);have j2:=uK.out.blk (.inr (.inr ⟨xH.out,l2⟩)) K2.out;have hSS:zW (fun w':World=>zv w' rb 6 (.pointer (some ⟨C.sb,0,none⟩))/\zv w' pb 1 (.slice B1 q.ps.length d1)) zU w6.drew:=⟨⟨by rw[<-cZ.out];exact hr1.cells.1,zc j2 rfl⟩,trivial⟩
    clear hr1 hy j2;go_upto_region 10 with fail;refine zG hSS 9 ?_;refine zT 0 hSS ?_;refine zT 1 hSS ?_;refine zT 2 hSS ?_;refine zT 3 hSS ?_;refine zT 4 hSS ?_;refine zT 5 hSS ?_;refine zT 6 hSS ?_;refine zT 7 hSS ?_;obtain⟨R,hR⟩:=zX (zme r1.S q.ps ss);have HRR:=zh hR;have hbd:Below w6.heap.size w6 w6.drew:=zr.drew;have hpq:q.ps.length<=1000:=HC.out.ps q (List.mem_of_getElem? HQ.out);have hen:=(ek.out.later hbd).ks.enter q.ps ss B1 (some ⟨W.heap.size+1,0,none⟩) d1 t.ks.length (HPRR.out.row.later (zka bC.out hbd)) ((zwt (uK.out.blk (.inr (.inr ⟨Nat.le_succ _,l1⟩)) K1.out)).later hbd) (by omega) (by rw[HSL.out];exact hlk2);rw[HSL.out]at hen
    have had:Calls prog 158 [.pointer (some ⟨C.sb,0,none⟩),.slice B1 q.ps.length d1,.slice (some ⟨W.heap.size+1,0,none⟩) t.ks.length t.ks.length].toArray w6.drew fun e w'=>∃v,e=.returned v/\(v=.int .i64 R.1/\RI (C.plus W.heap.size hi) w' { r1 with S:=R.2 }/\Kpt C.n0 (C.plus W.heap.size hi).kb w6 w') :=
     hen.mono fun e w' ⟨h1,h2,h3⟩=>by
      have hs:=RI.store (C:=C.plus W.heap.size hi) (ek.out.later hbd) (hR▸h2) h3 (by rw[iL.out.2.1,<-hR];exact iL.out.1.enter _ _ hpq);exact⟨_,h1,by rw[hR],hs.1,(Kpt.of_below hbd).trans hs.2⟩
    refine zo 8 fun K hK=>?_;refine zld (by rfl) (.func 158) [.tmp 50,.tmp 52,.tmp 53] _ (by rfl) 158 _ zxh (by rfl) _ (by rfl) _ had ?_;rintro v7 w7 ⟨rfl,eT,mi⟩;have uJ:=zh (uK.out.trans mi);have j2:=uJ.out.blk (.inr (.inr ⟨xH.out,l2⟩)) K2.out;have j3:=zh eT;have sZ:(fun w':World=>zv w' rb 6 (.pointer (some ⟨C.sb,0,none⟩))/\zv w' pb 1 (.slice B1 q.ps.length d1)) w7:=⟨by rw[<-cZ.out];exact eT.cells.1,zc j2 rfl⟩
    refine hK.out _ _ ⟨sZ,trivial⟩ ?_;have HS7:=zh sZ;have ig:=zh eT.below;clear hK K had eT mi j2 sZ hSS hen;(try simp only[zQ]);have xP:=zh (bT.out.trans (Kpt.less (C:=C) uJ.out));rw[hR]at qa;have had:=zla ⟨rb,0,none⟩ R.1 w7;refine zp 9 fun K hK=>?_;refine zk5 (by rfl) (.func 136) [.tmp 46,.tmp 54] _ (by rfl) 136 _ zmk (by rfl) _ (by rfl) (fun v w'=>w'=w7/\R.1=0) (had.mono ?_) ?_
    ·rintro e y1 ⟨rfl,hv1⟩;rcases hv1 with⟨h0,u0,rfl⟩|⟨h0,rfl⟩
     ·exact .inl ⟨_,rfl,rfl,h0⟩
     ·refine .inr ⟨_,rfl,?_⟩;refine⟨rfl,xP.out,ig.out,?_⟩
      try rw[bN.out]
      rw[<-qa.out,show zkm r1 R=.err R.1 by unfold zkm;rw[if_pos h0]];rfl
    rintro v8 w8 ⟨rfl,h0⟩;have kX:=zh (show caR C.p.prs C.F g back i q.b { r1 with S:=R.2 }=o by rw[<-qa.out,show zkm r1 R=.ok { r1 with S:=R.2 } by unfold zkm;rw[if_neg (by simpa using h0)]];rfl);refine hK.out _ _ HS7.out ?_;clear hK K had h0;(try simp only[zQ]);refine zd ?_;obtain⟨r2,hr2⟩:=zX (({ r1 with S:=R.2 }:RS));rw[hr2]at j3 kX;have he2:r2.ent.length=C.p.prs.length:=j3.out.el;have hi2:i<r2.ent.length:=by rw[he2];exact wu.out
    have hn2:r2.ent.getD i 0+1<=r2.n:=by
     rw[<-hr2];simp only;rw[iL.out.2.2,iL.out.2.1,List.getD_eq_getElem?_getD,List.getElem?_eq_getElem (by rw[H.out.el];exact wu.out)];have:=H.out.en _ (List.getElem_mem (l:=r.ent) (n:=i) (by rw[H.out.el];exact wu.out));simp only[Option.getD_some];omega
    obtain⟨eg,ec,hev,hcz,hcf,hrc,hkc⟩:=j3.out.count bO.out hi2 hn2;have hev':C.ev=.slice (some ⟨eg,0,none⟩) r2.ent.length ec:=hev;obtain⟨-,-,-,e9,-⟩:=j3.out.cells;have e9':w8.cell? ⟨rb,9,none⟩=some (.slice (some ⟨eg,0,none⟩) z5 ec):=by
     rw[<-cZ.out,<-tQ.out,<-he2,<-hev'];exact e9
    have hnn:=j3.out.n;have zz:IntKind.i64.wrap ((r2.ent.getD i 0:Nat)+1:Int)=((r2.ent.getD i 0+1:Nat):Int):=by rw[IntWalk.i64_in _ (by omega)];omega
    have kg:=zh (show(runO C.p.prs C.F g back q.b { r2 with ent:=r2.ent.set i (r2.ent.getD i 0+1) }).bind (fun r=>(zkz C.F r).bind fun r=>zkm r (zmo r.S))=o from kX.out);obtain⟨e0,he0⟩:=zX (r2.ent.getD i 0);rw[he0]at hcz hrc hkc zz kg;obtain⟨w9,dC⟩:=zX (w8.setCell ⟨eg,i,none⟩ (.int .i64 ((e0+1:Nat):Int)));rw[dC]at hrc hkc;obtain⟨r3,hr3⟩:=zX (({ r2 with ent:=r2.ent.set i (e0+1) }:RS));rw[hr3]at hrc kg;have oh:=zh hrc;have uI:=zh (uJ.out.trans hkc);have jI:=zh (bT.out.trans (Kpt.less (C:=C) uI.out));have bz:=zh (show Below C.w.heap.size C.w w9 from hrc.below);have j2:=uI.out.blk (.inr (.inr ⟨xH.out,l2⟩)) K2.out;have hgu:runO C.p.prs C.F g back q.b r3 ≠ .gas:=fun e=>bD.out (by rw[<-kg.out,e];rfl);have ax:=zh (zlf HS.out bO.out oh.out q.b _ back HPRR.out.body hG1 hgu);rw[show(C.plus W.heap.size hi).rb=rb from cZ.out]at ax;have HJ2:=zh j2
    have hi1:=uN.out;have hi0:(0:Int)<=(i:Int):=by omega
    rw[show((e0+1:Nat):Int)=(e0:Int)+1 by omega]at zz dC;clear hr2 he2 hi2 hn2 hev hev' e9 hnn he0 hr3 hrc hkc j2 hgu hG1 kX HS7 hbd hpq hR;go_upto_region 12 with fail;clear dC hcz hcf e9' zz;have q2:w9.cell? ⟨pb,2,none⟩=some (.int .u8 q.b.k):=zc HJ2.out rfl;have q3:w9.cell? ⟨pb,3,none⟩=some (.int .i64 q.b.n):=zc HJ2.out rfl;have q4:w9.cell? ⟨pb,4,none⟩=some (.string q.b.s):=zc HJ2.out rfl;have q5:w9.cell? ⟨pb,5,none⟩=some (.slice B2 q.b.ks.length d2):=zc HJ2.out rfl;go_wp2_with fail;refine ax.out.mono ?_;rintro e aT ⟨hk10,cK,kC⟩;have HK510:=zh (uI.out.trans hk10);have HK10:=zh (bT.out.trans (Kpt.less (C:=C) HK510.out));have iM:=zh (show Below C.w.heap.size C.w aT from cK);have jV:match runO C.p.prs C.F g back q.b r3 with
     | .gas=>True
     | .err x=>e=zlz x
     | .ok r=>(∃u,e=.returned u)/\RI (C.plus W.heap.size hi) aT r:=kC
    clear q2 q3 q4 q5 hk10 cK kC ax
    cases hx:runO C.p.prs C.F g back q.b r3 with
    | gas=>exact absurd (by rw[<-kg.out,hx];rfl) bD.out
    | err x =>
     rw[hx]at jV;subst jV;refine⟨rfl,HK10.out,iM.out,?_⟩
     try rw[bN.out]
     rw[<-kg.out,hx];rfl
    | ok r4 =>
     rw[hx]at jV;obtain⟨⟨u9,rfl⟩,hr4⟩:=jV;have HST:=zh (zlZ bO.out hr4);rw[show(C.plus W.heap.size hi).rb=rb from cZ.out]at HST;have fH:=zh (show((zkz C.F r4).bind fun r=>zkm r (zmo r.S))=o by rw[<-kg.out,hx];rfl);have uu:=zh hr4;clear hx hr4;go_wp2_with fail;refine HST.out.mono ?_;rintro e aS ⟨iq,dZ,oO⟩;have HK511:=zh (HK510.out.trans iq);have jJ:=zh (bT.out.trans (Kpt.less (C:=C) HK511.out));have jP:=zh (show Below C.w.heap.size C.w aS from dZ);have jU:match zkz C.F r4 with
      | .gas=>True
      | .err x=>e=zlz x
      | .ok r=>(∃u,e=.returned u)/\RI (C.plus W.heap.size hi) aS r:=oO
     clear iq dZ oO HST
     cases hy:zkz C.F r4 with
     | gas=>exact absurd (by rw[<-fH.out,hy];rfl) bD.out
     | err x =>
      rw[hy]at jU;subst jU;refine⟨rfl,jJ.out,jP.out,?_⟩
      try rw[bN.out]
      rw[<-fH.out,hy];rfl
     | ok r5 =>
      rw[hy]at jU;obtain⟨⟨u9,rfl⟩,ky⟩:=jU;have kW:=zh ky;have iK:=zh (show FB r4.n r5.S/\r5.n=r4.n+1 by obtain⟨rfl,-⟩:=zli hy;exact⟨uu.out.fb,rfl⟩);obtain⟨Rc,lI⟩:=zX (zmo r5.S);have iG:=zh (show zkm r5 Rc=o by rw[<-fH.out,hy,<-lI];rfl);have y6:aS.cell? ⟨rb,6,none⟩=some (.pointer (some ⟨C.sb,0,none⟩)):=by rw[<-cZ.out];exact ky.cells.1
      clear ky hy;go_wp2_with fail;refine(kW.out.ks.leave).mono ?_;rintro e eH ⟨rfl,h2,h3⟩;have hs:=RI.store (C:=C.plus W.heap.size hi) kW.out h2 h3 (by rw[iK.out.2];exact iK.out.1.leave);rw[lI]at hs ⊢;have nG:=zh hs.1;have HK512:=zh (HK511.out.trans hs.2);have gQ:=zh hs.1.below;have nL:=zh (bT.out.trans (Kpt.less (C:=C) HK512.out));clear hs h2 h3 y6;go_wp2_with fail;refine(zla ⟨rb,0,none⟩ Rc.1 eH).mono ?_;rintro e y1 ⟨rfl,hv1⟩;rcases hv1 with⟨h0,u0,rfl⟩|⟨h0,rfl⟩
      ·have gJ:=zh (show o=.ok { r5 with S:=Rc.2 } by rw[<-iG.out];unfold zkm;rw[if_neg (by simpa using h0)]);have HR13:=zh nG.out.less;clear h0;go_wp2_with fail;go_end0;refine⟨nL.out,gQ.out,?_⟩
       try rw[bN.out]
       rw[gJ.out];exact⟨⟨_,rfl⟩,HR13.out⟩
      ·refine⟨rfl,nL.out,gQ.out,?_⟩
       try rw[bN.out]
       rw[<-iG.out,show zkm r5 Rc=.err Rc.1 by unfold zkm;rw[if_pos h0]]
theorem zrp{G:List PR->T->Prop}{g:Nat}(hS:IStC G g){C:RC}(hC:C.Ok){W:World}{r:RS}(h:RI C W r)(t:T)(v:Value)(back:Bool)(hv:NV C.w Any t v)(hk0:t.k=50)(i:Nat)(hi:prcI C.p.prs t.s=some i)(q:PR)(hq:C.p.prs[i]?=some q)(hG1:∀u∈q.b.ks,G C.p.prs u)
  (o:Out)(ho:caO C.p.prs C.F g back i q (t.ks.map (·.s)) r=o)(hog:o ≠ .gas) :
  Calls prog 108 #[.pointer (some ⟨C.rb,0,none⟩),v,.bool back] W (RunP C W o):=by
 have aC:=hog
 cases back
 ·skip
  obtain⟨k,n,s,ks⟩:=t;obtain rfl:k=50:=hk0;obtain⟨A,c,rfl,-,hlk,hlc,-⟩:=hv.open_;have hb0:=zkb (zs W) (.cells #[.int .u8 50,.int .i64 n,.string s,.slice A ks.length c] 28);obtain⟨x0,x1,x2,x3⟩:=box4 (heap_alloc_new W (.cells #[.int .u8 50,.int .i64 n,.string s,.slice A ks.length c] 28));have aF:=zh (Kpt.of_below (n0:=C.n0) (kb:=C.kb) hb0);have aH:=zh (show Calls prog 139 #[.pointer (some ⟨C.rb,0,none⟩),.agg #[.int .u8 50,.int .i64 n,.string s,.slice A ks.length c],.bool false] (W.alloc (.cells #[.int .u8 50,.int .i64 n,.string s,.slice A ks.length c] 28)) (RunP C _ o)from ho▸(zn6 hS hC (h.later hb0) _ _ false hv i hi q hq hG1 (ho▸hog)));clear hv hb0 h aC hG1 ho hi hq;go_enter func108,ntmps108;go_wp2_with fail;refine aH.out.mono ?_;rintro e w1 ⟨hk1,hb1,ho1⟩
  cases o with
  | gas=>exact absurd rfl hog
  | err x =>
   subst ho1;exact⟨rfl,aF.out.trans hk1,hb1,rfl⟩
  | ok r1 =>
   obtain⟨⟨u,rfl⟩,hr1⟩:=ho1;have HR:=zh hr1;have aA:=zh (aF.out.trans hk1);have HB1:=zh hb1;clear x0 x1 x2 x3 hr1 hk1 hb1;go_wp2_with fail;go_end0;exact⟨aA.out,HB1.out,⟨_,rfl⟩,HR.out⟩
 ·skip
  obtain⟨k,n,s,ks⟩:=t;obtain rfl:k=50:=hk0;obtain⟨A,c,rfl,-,hlk,hlc,-⟩:=hv.open_;have hb0:=zkb (zs W) (.cells #[.int .u8 50,.int .i64 n,.string s,.slice A ks.length c] 28);obtain⟨x0,x1,x2,x3⟩:=box4 (heap_alloc_new W (.cells #[.int .u8 50,.int .i64 n,.string s,.slice A ks.length c] 28));have aF:=zh (Kpt.of_below (n0:=C.n0) (kb:=C.kb) hb0);have aH:=zh (show Calls prog 139 #[.pointer (some ⟨C.rb,0,none⟩),.agg #[.int .u8 50,.int .i64 n,.string s,.slice A ks.length c],.bool true] (W.alloc (.cells #[.int .u8 50,.int .i64 n,.string s,.slice A ks.length c] 28)) (RunP C _ o)from ho▸(zn6 hS hC (h.later hb0) _ _ true hv i hi q hq hG1 (ho▸hog)));clear hv hb0 h aC hG1 ho hi hq;go_enter func108,ntmps108;go_wp2_with fail;refine aH.out.mono ?_;rintro e w1 ⟨hk1,hb1,ho1⟩
  cases o with
  | gas=>exact absurd rfl hog
  | err x =>
   subst ho1;exact⟨rfl,aF.out.trans hk1,hb1,rfl⟩
  | ok r1 =>
   obtain⟨⟨u,rfl⟩,hr1⟩:=ho1;have HR:=zh hr1;have aA:=zh (aF.out.trans hk1);have HB1:=zh hb1;clear x0 x1 x2 x3 hr1 hk1 hb1;go_wp2_with fail;go_end0;exact⟨aA.out,HB1.out,⟨_,rfl⟩,HR.out⟩
theorem zro{G:List PR->T->Prop}{g:Nat}(hS:IStC G g){C:RC}(hC:C.Ok){W:World}{r:RS}(h:RI C W r)(t:T)(v:Value)(back:Bool)(hv:NV C.w Any t v)(hk0:t.k=51)(i:Nat)(hi:prcI C.p.prs t.s=some i)(q:PR)(hq:C.p.prs[i]?=some q)(hG1:∀u∈q.b.ks,G C.p.prs u)
  (o:Out)(ho:caO C.p.prs C.F g (!back) i q (t.ks.map (·.s)) r=o)(hog:o ≠ .gas) :
  Calls prog 108 #[.pointer (some ⟨C.rb,0,none⟩),v,.bool back] W (RunP C W o):=by
 have aC:=hog
 cases back
 ·skip
  change caO C.p.prs C.F g true i q (t.ks.map (·.s)) r=o at ho;obtain⟨k,n,s,ks⟩:=t;obtain rfl:k=51:=hk0;obtain⟨A,c,rfl,-,hlk,hlc,-⟩:=hv.open_;have hb0:=zkb (zs W) (.cells #[.int .u8 51,.int .i64 n,.string s,.slice A ks.length c] 28);obtain⟨x0,x1,x2,x3⟩:=box4 (heap_alloc_new W (.cells #[.int .u8 51,.int .i64 n,.string s,.slice A ks.length c] 28));have aF:=zh (Kpt.of_below (n0:=C.n0) (kb:=C.kb) hb0);have aH:=zh (show Calls prog 139 #[.pointer (some ⟨C.rb,0,none⟩),.agg #[.int .u8 51,.int .i64 n,.string s,.slice A ks.length c],.bool true] (W.alloc (.cells #[.int .u8 51,.int .i64 n,.string s,.slice A ks.length c] 28)) (RunP C _ o)from ho▸(zn6 hS hC (h.later hb0) _ _ true hv i hi q hq hG1 (ho▸hog)));clear hv hb0 h aC hG1 ho hi hq;go_enter func108,ntmps108;go_wp2_with fail;refine aH.out.mono ?_;rintro e w1 ⟨hk1,hb1,ho1⟩
  cases o with
  | gas=>exact absurd rfl hog
  | err x =>
   subst ho1;exact⟨rfl,aF.out.trans hk1,hb1,rfl⟩
  | ok r1 =>
   obtain⟨⟨u,rfl⟩,hr1⟩:=ho1;have HR:=zh hr1;have aA:=zh (aF.out.trans hk1);have HB1:=zh hb1;clear x0 x1 x2 x3 hr1 hk1 hb1;go_wp2_with fail;go_end0;exact⟨aA.out,HB1.out,⟨_,rfl⟩,HR.out⟩
 ·skip
  change caO C.p.prs C.F g false i q (t.ks.map (·.s)) r=o at ho;obtain⟨k,n,s,ks⟩:=t;obtain rfl:k=51:=hk0;obtain⟨A,c,rfl,-,hlk,hlc,-⟩:=hv.open_;have hb0:=zkb (zs W) (.cells #[.int .u8 51,.int .i64 n,.string s,.slice A ks.length c] 28);obtain⟨x0,x1,x2,x3⟩:=box4 (heap_alloc_new W (.cells #[.int .u8 51,.int .i64 n,.string s,.slice A ks.length c] 28));have aF:=zh (Kpt.of_below (n0:=C.n0) (kb:=C.kb) hb0);have aH:=zh (show Calls prog 139 #[.pointer (some ⟨C.rb,0,none⟩),.agg #[.int .u8 51,.int .i64 n,.string s,.slice A ks.length c],.bool false] (W.alloc (.cells #[.int .u8 51,.int .i64 n,.string s,.slice A ks.length c] 28)) (RunP C _ o)from ho▸(zn6 hS hC (h.later hb0) _ _ false hv i hi q hq hG1 (ho▸hog)));clear hv hb0 h aC hG1 ho hi hq;go_enter func108,ntmps108;go_wp2_with fail;refine aH.out.mono ?_;rintro e w1 ⟨hk1,hb1,ho1⟩
  cases o with
  | gas=>exact absurd rfl hog
  | err x =>
   subst ho1;exact⟨rfl,aF.out.trans hk1,hb1,rfl⟩
  | ok r1 =>
   obtain⟨⟨u,rfl⟩,hr1⟩:=ho1;have HR:=zh hr1;have aA:=zh (aF.out.trans hk1);have HB1:=zh hb1;clear x0 x1 x2 x3 hr1 hk1 hb1;go_wp2_with fail;go_end0;exact⟨aA.out,HB1.out,⟨_,rfl⟩,HR.out⟩
structure GC(G:List PR->T->Prop):Prop where
 two:∀prs t,G prs t->(t.k=52\/t.k=53)->t.ks.length=4/\(∀u∈(kid t 1).ks,G prs u)/\∀u∈(kid t 2).ks,G prs u
 loc:∀prs t,G prs t->t.k=54->t.ks.length=3/\∀u∈(kid t 1).ks,G prs u
 stk:∀prs t,G prs t->t.k=55->t.ks.length=1/\∀u∈(kid t 0).ks,G prs u
 cal:∀prs t,G prs t->(t.k=50\/t.k=51)->∃i q,prcI prs t.s=some i/\prs[i]?=some q/\∀u∈q.b.ks,G prs u
theorem getD_some{prs:List PR}{i:Nat}{q:PR}(h:prs[i]?=some q):prs.getD i ⟨⟨#[]⟩,[],nil0⟩=q:=by
 rw[List.getD_eq_getElem?_getD,h];rfl
theorem zsd{G:List PR->T->Prop}(hG:GC G):∀g,IStC G g
 | 0=>fun C hC W r h t v back hv vQ hg=>absurd rfl hg
 | g+1=>fun C hC W r h t v back hv vQ hg=>by
  have hS:=zsd hG g;by_cases lK:t.k=52
  ·obtain⟨h1,h2,h3⟩:=hG.two _ _ vQ (.inl lK);have e:zku C.p.prs C.F (g+1) back t r=brO C.p.prs C.F g back t r:=by rw[zku,if_pos lK];rfl
   rw[e]at hg ⊢;exact zyK hS hC h t v back hv lK h1 h2 h3 _ rfl hg
  by_cases mQ:t.k=53
  ·obtain⟨h1,h2,h3⟩:=hG.two _ _ vQ (.inr mQ);have e:zku C.p.prs C.F (g+1) back t r=lpO C.p.prs C.F g back t r:=by rw[zku,if_neg lK,if_pos mQ];rfl
   rw[e]at hg ⊢;exact ztR hS hC h t v back hv mQ h1 h2 h3 _ rfl hg
  by_cases eB:t.k=54
  ·obtain⟨h1,h2⟩:=hG.loc _ _ vQ eB;have e:zku C.p.prs C.F (g+1) back t r=loO C.p.prs C.F g back t r:=by rw[zku,if_neg lK,if_neg mQ,if_pos eB];rfl
   rw[e]at hg ⊢;exact zsU hS hC h t v back hv eB h1 h2 _ rfl hg
  by_cases eY:t.k=55
  ·obtain⟨h1,h2⟩:=hG.stk _ _ vQ eY;have e:zku C.p.prs C.F (g+1) back t r=lsO C.p.prs C.F g back t r:=by rw[zku,if_neg lK,if_neg mQ,if_neg eB,if_pos eY];rfl
   rw[e]at hg ⊢;exact zyJ hS hC h t v back hv eY h1 h2 hg
  by_cases h5:t.k=50\/t.k=51
  ·obtain⟨i,q,hi,hq,hb⟩:=hG.cal _ _ vQ h5;have e:zku C.p.prs C.F (g+1) back t r=caO C.p.prs C.F g (back != decide (t.k=51)) i q (t.ks.map (·.s)) r:=by
    rw[zku,if_neg lK,if_neg mQ,if_neg eB,if_neg eY,if_pos h5,hi];dsimp only;rw[getD_some hq];rfl
   rw[e]at hg ⊢;rcases h5 with h50|lL
   ·have e2:(back != decide (t.k=51))=back:=by rw[show decide (t.k=51)=false by simp[h50]];cases back<;>rfl
    rw[e2]at hg ⊢;exact zrp hS hC h t v back hv h50 i hi q hq hb _ rfl hg
   ·have e2:(back != decide (t.k=51)) = !back:=by rw[show decide (t.k=51)=true by simp[lL]];cases back<;>rfl
    rw[e2]at hg ⊢;exact zro hS hC h t v back hv lL i hi q hq hb _ rfl hg
  ·have e:zku C.p.prs C.F (g+1) back t r=basO C.F back t r:=by
    rw[zku,if_neg lK,if_neg mQ,if_neg eB,if_neg eY,if_neg h5];rfl
   rw[e];exact zwu hC h t v back hv ⟨lK,mQ,eB,eY,fun h=>h5 (.inl h),fun h=>h5 (.inr h)⟩
end
end Go.Proofs.YthjinpodhacleaaGreat
