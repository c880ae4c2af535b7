/-
  Texts of the proof, put together without their remarks: Tsq, Tam, Tar, Tap, Tcp, Tcu.
-/
import Derived.Test.YtckhofdinldhpaaGreatE8
import Derived.Maps.OwnSet
set_option linter.unusedSimpArgs false
set_option linter.unusedVariables false
set_option maxHeartbeats 8000000
set_option maxRecDepth 100000
namespace Go.Proofs.YtckhofdinldhpaaGreat
open Go Go.RowKit
structure SqV (W:World) (n0:Nat) (B:Nat->Prop) (b:Nat) (q:SQ) (v:Value):Prop where
 box:W.heap[b]?=some (.cells #[.int .i64 q.len,v] 128 (0,0))
 row:W.ownsRow n0 3 1 v q.el.length (zkf q.el)
 own:∀ g,v.ownBlock=some g->B g/\g≠b
 bb:B b
 nb:n0<=b
 i:∀ x∈q.el,I64 x
def SqB (W:World) (n0:Nat) (B:Nat->Prop) (b:Nat) (q:SQ):Prop:=∃ v,SqV W n0 B b q v
section
variable {W W' w0 w':World} {n0 b:Nat} {B B':Nat->Prop} {q:SQ} {v v':Value}
theorem SqV.keep (h:SqV W n0 B b q v) (hk:∀ g,B g->g<W.heap.size->W'.heap[g]?=W.heap[g]?):SqV W' n0 B b q v :=
 ⟨(hk b h.bb (zko h.box)).trans h.box,zlo h.row fun g hg=>hk g (h.own g hg).1 (h.row.lt g hg).2,h.own,h.bb,h.nb,h.i⟩
theorem SqV.later (h:SqV W n0 B b q v) (hb:Below W.heap.size W W'):SqV W' n0 B b q v:=h.keep fun g _ hlt=>hb.block g hlt
theorem SqV.mono (h:SqV W n0 B b q v) (hB:∀ g,B g->g<W.heap.size->B' g):SqV W n0 B' b q v :=
 ⟨h.box,h.row,fun g hg=>⟨hB g (h.own g hg).1 (h.row.lt g hg).2,(h.own g hg).2⟩,hB b h.bb (zko h.box),h.nb,h.i⟩
theorem SqB.keep (h:SqB W n0 B b q) (hk:∀ g,B g->g<W.heap.size->W'.heap[g]?=W.heap[g]?):SqB W' n0 B b q:=let ⟨v,h⟩:=h;⟨v,h.keep hk⟩
theorem SqB.later (h:SqB W n0 B b q) (hb:Below W.heap.size W W'):SqB W' n0 B b q:=let ⟨v,h⟩:=h;⟨v,h.later hb⟩
theorem SqB.mono (h:SqB W n0 B b q) (hB:∀ g,B g->g<W.heap.size->B' g):SqB W n0 B' b q:=let ⟨v,h⟩:=h;⟨v,h.mono hB⟩
def zlY (B:Nat->Prop) (lo hi:Nat):Nat->Prop:=fun g=>B g\/(lo<=g/\g<hi)
theorem SqB.add (h:SqB W n0 B b q) (lo hi:Nat):SqB W n0 (zlY B lo hi) b q:=h.mono fun _ h _=>.inl h
theorem SqV.push {x:Int} (h:SqV W n0 B b q v) (hx:I64 x) (hb0:Below W.heap.size W w0) (ho:w'.ownsRow n0 3 1 v' (q.el.length+1) (zkf q.el++zkf [x])) (hg:w0.grownBy w' v.ownBlock) (ak:v'.ownBlock=v.ownBlock\/v'.ownBlock=some w0.heap.size) :
  (w'.cell? ⟨b,1,none⟩=some v/\∀ o,w'.frozen? ⟨b,o,none⟩=false)/\SqB (w'.setCell ⟨b,1,none⟩ v') n0 (zlY B W.heap.size (w'.setCell ⟨b,1,none⟩ v').heap.size) b ⟨q.len,q.el++[x]⟩/\Chg B W (w'.setCell ⟨b,1,none⟩ v'):=by
 have hlt:=zko h.box;have hbv:some b≠v.ownBlock:=fun e=>(h.own b e.symm).2 rfl;have hbx:w'.heap[b]?=some (.cells #[.int .i64 q.len,v] 128 (0,0)):=(hg.block b (Nat.lt_of_lt_of_le hlt hb0.size) hbv).trans (zkc h.box hb0);have hch:Chg (fun g=>g=b) w' (w'.setCell ⟨b,1,none⟩ v'):=(Chg.refl (fun g=>g=b) w').setCell (p:=⟨b,1,none⟩) (.inl rfl) _;have hne:∀ g,v'.ownBlock=some g->g≠b:=fun g e=>by
  rcases ak with h1|h1
  ·exact(h.own g (h1▸e)).2
  ·rw[h1] at e;injection e with e;have:=hb0.size;omega
 have h0:=hb0.size;have h1:=hg.size;have h2:=hch.size;refine⟨⟨zc hbx rfl,fun o=>zf hbx⟩,⟨v',?_,?_,?_,.inl h.bb,h.nb,?_⟩,?_⟩
 ·have:=heap_setCell_same w' b 1 _ _ v' hbx;simpa using this
 ·have e:zkf (q.el++[x])=zkf q.el++zkf [x]:=by simp[zkf]
  show World.ownsRow _ _ _ _ _ (q.el++[x]).length (zkf (q.el++[x]))
  rw[e,List.length_append];exact zlo ho fun g hg=>hch.block g (ho.lt g hg).2 (hne g hg)
 ·intro g e;refine⟨?_,hne g e⟩;rcases ak with h3|h3
  ·exact .inl (h.own g (h3▸e)).1
  ·rw[h3] at e;injection e with e;have:=(ho.lt g (by rw[h3,e])).2;exact .inr ⟨by omega,by omega⟩
 ·intro y hy;rcases List.mem_append.1 hy with hy|hy
  ·exact h.i y hy
  ·simp at hy;subst hy;exact hx
 ·have c0:Chg B W w0:=Chg.of_below hb0;have c1:Chg B W w':=c0.trans2 (Chg.row hg) fun g _ e=>(h.own g e).1;exact c1.trans2 hch fun g _ e=>by have e:g=b:=e;subst e;exact h.bb
def sql (b:Nat) (W:World):Nat:=match W.cell? ⟨b,1,none⟩ with
 | some (.slice _ n _)=>n
 | _=>0
theorem ztE (h:SqB W n0 B b q):sql b W=q.el.length:=by
 obtain⟨v,h⟩:=h;obtain⟨A,c,rfl,-⟩:=zkb h.row;unfold sql;rw[show W.cell? ⟨b,1,none⟩=some (.slice A q.el.length c) from zc h.box rfl]
end
theorem zoe {W:World} {n0 b:Nat} {B:Nat->Prop} {q:SQ} (h:SqB W n0 B b q) (n:Int) (hn:I64 n) (hn2:n<=1000001) (hnw:n0<=W.heap.size) :
  Calls Tryz.prog 121 #[.pointer (some ⟨b,0,none⟩),.int .i64 n] W fun e W'=>(∃ u,e=.returned u)/\SqB W' n0 (zlY B W.heap.size W'.heap.size) b ⟨q.len,ext q.el n.toNat⟩/\Chg B W W':=by
 have H:=zh h;have h1:=zoE;clear h;go_enter Tryz.func121,Tryz.ntmps121;go_wp2_with fail
 go_loopw [] (fun wr=>∃ j:Nat,Hid (j<=n.toNat-q.el.length)/\Hid (SqB wr n0 (zlY B W.heap.size wr.heap.size) b ⟨q.len,q.el++List.replicate j 0⟩)/\Hid (Chg B W wr)) (fun wr=>n.toNat-sql b wr)
 case atStart=>exact⟨0,zh (Nat.zero_le _),zh (by simpa using H.out.add _ _),zh (Chg.refl _ _)⟩
 case round =>
  obtain⟨j,HJ,HS,aJ⟩:=hrel;obtain⟨v,hv⟩:=HS.out;have HV:=zh hv;obtain⟨A,c,ev,-⟩:=zkb hv.row;obtain⟨m,hm⟩:∃ m,(q.el++List.replicate j (0:Int)).length=m:=⟨_,rfl⟩
  change v=.slice A (q.el++List.replicate j (0:Int)).length c at ev;rw[hm] at ev;subst ev;have HM:=zh hm;have x1:wr.cell? ⟨b,1,none⟩=some (.slice A m c):=zc hv.box rfl;have hrow:wr.ownsRow n0 3 1 (.slice A m c) m (zkf (q.el++List.replicate j (0:Int))):=by have:=hv.row;rw[show(⟨q.len,q.el++List.replicate j (0:Int)⟩:SQ).el.length=m from hm] at this;exact this
  have HSQ:=zh (ztE HS.out);clear hv hm;by_cases hlt:(m:Int)<n
  ·have hbz:=zkd (Below.refl wr.heap.size wr) (.cells #[.int .i64 0] 3);have gN:=zkt hrow hbz;have aL:RowI (wr.alloc (.cells #[.int .i64 0] 3)) Any (some ⟨wr.heap.size,0,none⟩) [0]:=zm9 (xs:=[0]) (heap_alloc_new wr _) (by intro x hx;simp at hx;subst hx;exact⟨by decide,by decide⟩);have hln:m+1<=17592186044416:=by omega
   have hsz:n0<=(wr.alloc (.cells #[.int .i64 0] 3)).heap.size:=by have:=aJ.out.size;have:=hbz.size;omega
   have y1:=fun o=>zkj x1 o;have HX:=zh (show ∀ v' w',w'.ownsRow n0 3 1 v' (m+[(0:Int)].length) (zkf (q.el++List.replicate j (0:Int))++zkf [0])->(wr.alloc (.cells #[.int .i64 0] 3)).grownBy w' (Value.slice A m c).ownBlock->(v'.ownBlock=(Value.slice A m c).ownBlock\/v'.ownBlock=some (wr.alloc (.cells #[.int .i64 0] 3)).heap.size) ->
     ∃ A' c',v'=.slice A' (m+1) c'/\w'.cell? ⟨b,1,none⟩=some (.slice A m c)/\(∀ o,w'.frozen? ⟨b,o,none⟩=false)/\SqB (w'.setCell ⟨b,1,none⟩ v') n0 (zlY B W.heap.size (w'.setCell ⟨b,1,none⟩ v').heap.size) b ⟨q.len,q.el++List.replicate (j+1) 0⟩/\Chg B W (w'.setCell ⟨b,1,none⟩ v') from fun v' w' ho hg ak=>by
    obtain⟨A',c',e',-⟩:=zkb ho;obtain⟨⟨p1,p2⟩,p3,p4⟩:=HV.out.push (x:=0) ⟨by decide,by decide⟩ hbz (by rw[show(⟨q.len,q.el++List.replicate j (0:Int)⟩:SQ).el.length=m from HM.out];exact ho) hg ak;refine⟨A',c',e',p1,p2,?_,aJ.out.trans2 p4 fun g hlt hg=>?_⟩
    ·have e:(q.el++List.replicate j (0:Int))++[0]=q.el++List.replicate (j+1) 0:=by rw[List.append_assoc,List.replicate_succ']
     rw[e] at p3;refine p3.mono fun g hg _=>?_;rcases hg with(hg|hg)|hg
     ·exact .inl hg
     ·have:=p4.size;exact .inr ⟨hg.1,by omega⟩
     ·have:=aJ.out.size;exact .inr ⟨by omega,hg.2⟩
    ·rcases hg with hg|hg
     ·exact hg
     ·omega)
   go_wp2_with (at_builtin;refine zlr rfl (.tmp 15) (.tmp 16) rfl n0 (.slice A m c) m (zkf (q.el++List.replicate j (0:Int))) rfl gN (some ⟨wr.heap.size,0,none⟩) [0] 1 rfl aL (by simp;omega) hsz ?_;intro v' w' ho hg ak;obtain⟨A',c',rfl,z1,zf,hs2,hc2⟩:=HX.out _ _ ho hg ak;clear ho hg ak)
   refine⟨⟨j+1,zh (by have:=HM.out;simp at this;omega),zh hs2,zh hc2⟩,?_⟩;rw[ztE hs2,HSQ.out];have:=HM.out;simp at this ⊢;omega
  ·go_wp2_with fail;go_end0;refine⟨⟨_,rfl⟩,?_,aJ.out⟩;have e:q.el++List.replicate j (0:Int)=ext q.el n.toNat:=by
    unfold ext;have e1:=HM.out;have e2:=HJ.out;simp only[List.length_append,List.length_replicate] at e1;rw[show j=n.toNat-q.el.length by omega]
   rw[<-e];exact HS.out
theorem zuW:IsFn Tryz.prog 120 Tryz.f120:=⟨Tryz.func120,by kernel_rfl,by kernel_rfl⟩
def ChqP (W:World) (n0:Nat) (B:Nat->Prop) (b:Nat) (R:Int×SQ) (e:Ending) (W':World):Prop:=e=.returned (.int .i64 R.1)/\SqB W' n0 (zlY B W.heap.size W'.heap.size) b R.2/\Chg B W W'
theorem zqJ {W:World} {n0 b:Nat} {B:Nat->Prop} {q:SQ} (h:SqB W n0 B b q) (cc co cn:Int) (i:Nat) (hi:i<4096) (hcn:I64 cn) (hnw:n0<=W.heap.size) (hel:q.el.length<=1000000) :
  Calls Tryz.prog 69 #[.pointer (some ⟨b,0,none⟩),.agg #[.int .i64 cc,.int .i64 (i:Int),.int .i64 co,.int .i64 cn]] W (ChqP W n0 B b (chgQ q ⟨cc,i,co,cn⟩)):=by
 have hb1:=zkd (Below.refl W.heap.size W) (.cells #[.int .i64 cc,.int .i64 (i:Int),.int .i64 co,.int .i64 cn] 64);have k1:=heap_alloc_new W (.cells #[.int .i64 cc,.int .i64 (i:Int),.int .i64 co,.int .i64 cn] 64);obtain⟨w1,hw1⟩:∃ x,W.alloc (.cells #[.int .i64 cc,.int .i64 (i:Int),.int .i64 co,.int .i64 cn] 64)=x:=⟨_,rfl⟩
 rw[hw1] at hb1 k1;obtain⟨x0,x1,x2,x3⟩:=box4 k1;have H:=zh h;have K1:=zh k1;have HB1:=zh hb1;have kS:=zh hel;have gK:=zh (show ∀ w',Below w1.heap.size w1 w'->SqB w' n0 (zlY B W.heap.size w'.heap.size) b q/\Chg B W w' from fun w' hb=>⟨(H.out.later (zka HB1.out hb)).add _ _,Chg.of_below (zka HB1.out hb)⟩);obtain⟨R,hR⟩:∃ R,chgQ q ⟨cc,(i:Int),co,cn⟩=R:=⟨_,rfl⟩
 rw[hR];unfold chgQ at hR;dsimp only at hR;clear h k1 hb1 hel;have h1:¬ ((i:Int) < -1):=by omega
 have h2:¬ (4096<=(i:Int)):=by omega
 have h3:¬ ((i:Int) = -1):=by omega
 have e3:((i:Int) == -1)=false:=by rw[beq_eq_false_iff_ne];exact h3
 rw[if_neg (by omega),if_neg (fun h=>h3 h.1),if_neg (fun h=>h3 h.1),if_neg h3] at hR;go_enter Tryz.func69,Tryz.ntmps69;go_upto_region 1 with fail;(try rw[hw1]);clear hw1;simp only[Int.toNat_natCast] at hR;obtain⟨v,hv⟩:=H.out;have HV:=zh hv;obtain⟨A,k,ev,hkc⟩:=zkb hv.row;subst ev;obtain⟨Aq,kq,eq,-,aL⟩:=zk2 (w:=W) (xs:=q.el) (by simpa[zkf] using hv.row) hv.i;simp only[Value.slice.injEq,true_and] at eq;obtain⟨rfl,rfl⟩:=eq;obtain⟨x,hx⟩:∃ x,q.el.getD i 0=x:=⟨_,rfl⟩
 have HEL1:=zh (fun w' (hb:Below W.heap.size W w')=>zlz q.el A k i w' ((aL.keep (fun _ _ _=>trivial) fun _ _ _=>rfl).later hb) (by unfold LI;have:=kS.out;omega));rw[hx] at HEL1 hR;go_upto_region 5 with fail
 go_quiet (fail)
 obtain⟨w2,hw2⟩:∃ w2,w1.drewN nq=w2:=⟨_,rfl⟩
 have hb2:Below w1.heap.size w1 w2:=hw2▸zkN (Below.refl _ _) nq;rw[hw2];have z0:=zb hb2 x0;have z1:=zb hb2 x1;have z2:=zb hb2 x2;have z3:=zb hb2 x3;have HB2:=zh (zka HB1.out hb2);have bE:=zh hb2;have K2:=zh (zkc K1.out hb2);clear hw2 hb2 x0 x1 x2 x3 hv aL;go_upto_region 10 with fail;have aB:=zh (show ∀ w',Below w2.heap.size w2 w'->(fun w':World=>w'.cell? ⟨b,1,none⟩=some (.slice A q.el.length k)/\w'.cell? ⟨W.heap.size,1,none⟩=some (.int .i64 (i:Int))/\w'.cell? ⟨W.heap.size,2,none⟩=some (.int .i64 co)) w' from fun w' hb=>⟨zc (zkc (zkc HV.out.box HB2.out) hb) rfl,zb hb z1,zb hb z2⟩);have hSS:(fun w':World=>w'.cell? ⟨b,1,none⟩=some (.slice A q.el.length k)/\w'.cell? ⟨W.heap.size,1,none⟩=some (.int .i64 (i:Int))/\w'.cell? ⟨W.heap.size,2,none⟩=some (.int .i64 co)) w2.drew/\(fun _:World=>True) w2.drew:=⟨aB.out _ (Below.refl _ _).drew,trivial⟩
 refine wp_region_noPanic ?_;refine zke (fun w':World=>w'.cell? ⟨b,1,none⟩=some (.slice A q.el.length k)/\w'.cell? ⟨W.heap.size,1,none⟩=some (.int .i64 (i:Int))/\w'.cell? ⟨W.heap.size,2,none⟩=some (.int .i64 co)) (fun _:World=>True) 9 (by kernel_rfl) ?_;refine zT 0 hSS ?_;(try simp only[zQ]);refine zT 1 hSS ?_;(try simp only[zQ]);refine zT 2 hSS ?_;(try simp only[zQ]);refine zT 3 hSS ?_;(try simp only[zQ]);refine zT 4 hSS ?_;(try simp only[zQ]);refine zT 5 hSS ?_;(try simp only[zQ]);refine zT 6 hSS ?_;(try simp only[zQ]);refine zT 7 hSS ?_;(try simp only[zQ]);have had:Calls Tryz.prog 120 [.slice A q.el.length k,.int .i64 (i:Int)].toArray w2.drew fun e w'=>∃ u,e=.returned u/\(u=.int .i64 x/\w'=w2.drew) :=
  (HEL1.out w2.drew (HB2.out.trans (Below.refl _ _).drew)).mono fun e w' ⟨g1,g2⟩=>⟨_,g1,rfl,g2⟩
 refine zo 8 fun K hK=>?_
 set_option pp.deepTerms true in
 set_option pp.maxSteps 1000000 in
 refine zkQ (by rfl) (.func 120) [.tmp 56,.tmp 58] _ (by rfl) 120 _ zuW (by rfl) _ (by rfl) _ had ?_;rintro v3 w3 ⟨rfl,rfl⟩;refine hK.out _ _ ⟨aB.out _ (Below.refl _ _).drew,trivial⟩ ?_;clear hK K had hSS;(try simp only[zQ]);refine zp 9 fun K hK=>?_;(try simp only[zA,zB,zC]);go_simp;refine hK.out _ _ (aB.out _ (Below.refl _ _).drew) ?_;clear hK K;(try simp only[zQ]);refine zp 10 fun K hK=>?_;(try simp only[zA,zB,zC]);go_simp;refine hK.out _ _ (aB.out _ (Below.refl _ _).drew) ?_;clear hK K;(try simp only[zQ]);refine zd ?_;refine NoPanic.normal ?_;obtain⟨w3,hw3⟩:∃ w3,w2.drew=w3:=⟨_,rfl⟩
 have hb3:Below w2.heap.size w2 w3:=hw3▸(Below.refl _ _).drew;rw[hw3];have HB3:=zh (zka HB2.out hb3);have qd:=zh (zka bE.out hb3);have K3:=zh (zkc K2.out hb3);clear z0 z1 z2 z3 hw3 hb3 aB;by_cases h7:co=x
 ·rw[if_neg (fun h=>h h7)] at hR;subst h7 hR;have iC:IntKind.i64.wrap ((i:Int)+1)=(i:Int)+1:=IntWalk.i64_in _ (by omega);have HQ3:=zh ((H.out.mono (B':=fun g=>B g/\g<W.heap.size) fun g h1 h2=>⟨h1,h2⟩).later HB3.out);have iQ:=zh (zoe (W:=w3) HQ3.out ((i:Int)+1) ⟨by omega,by omega⟩ (by omega) (Nat.le_trans hnw HB3.out.size));rw[show((i:Int)+1).toNat=i+1 by omega] at iQ;obtain⟨z0,z1,z2,z3⟩:=box4 K3.out;go_wp2_with fail;refine iQ.out.mono ?_;rintro e4 w4 ⟨⟨u4,rfl⟩,hs4,hc4⟩;have hcz:=zko K1.out;have K4:=zh ((hc4.block W.heap.size (Nat.lt_of_lt_of_le hcz qd.out.size) fun h=>Nat.lt_irrefl _ h.2).trans K3.out);have HC4:=zh ((Chg.of_below HB3.out).trans2 hc4 fun g _ h=>h.1);have hs4':SqB w4 n0 (zlY B W.heap.size w4.heap.size) b ⟨q.len,ext q.el (i+1)⟩:=hs4.mono fun g h _=>by
   rcases h with h|h
   ·exact .inl h.1
   ·exact .inr ⟨Nat.le_trans HB3.out.size h.1,h.2⟩
  obtain⟨v4,hv4⟩:=hs4';have hne4:∀ g,v4.ownBlock=some g->g≠W.heap.size:=fun g hg e=>by
   obtain⟨v4',hv4'⟩:=hs4;have hb1:=hv4.box.symm.trans hv4'.box;simp only[Option.some.injEq,Obj.cells.injEq,Array.mk.injEq,List.cons.injEq,and_true,true_and] at hb1;subst hb1;rcases(hv4'.own g hg).1 with h|h
   ·omega
   ·have:=qd.out.size;omega
  obtain⟨L,hL⟩:∃ L,(ext q.el (i+1)).length=L:=⟨_,rfl⟩
  have hiL:i<L:=by rw[<-hL,zoB];omega
  have hrow4:w4.ownsRow n0 3 1 v4 (ext q.el (i+1)).length (zkf (ext q.el (i+1))):=hv4.row;have nI:=zmi hrow4;obtain⟨g,c4,e4,-,-,-⟩:=zkZ hrow4 (by omega);subst e4;have hg:(Value.slice (some ⟨g,0,none⟩) (ext q.el (i+1)).length c4).ownBlock=some g:=rfl;obtain⟨p0,p1⟩:=zlv nI hg (o:=i) (by omega);have hset:=zor nI hg (o:=i) (by omega) cn;have HSET:=zh (hset.row ());have hgb:=(hv4.own g rfl).2;have qB:=zh hv4;have q8:=hne4 g rfl;have y1:w4.cell? ⟨b,1,none⟩=some (.slice (some ⟨g,0,none⟩) L c4):=by rw[<-hL];exact zc hv4.box rfl
  obtain⟨x,hx⟩:∃ x,(ext q.el (i+1)).getD i 0=x:=⟨_,rfl⟩
  rw[hx] at p0;have hi1:(i:Int)<(L:Int):=by omega
  have hi0:(0:Int)<=(i:Int):=by omega
  have HL:=zh hL;have HGB:=zh hgb;have HNG:=zh q8;have aJ:=zh (show Chg (fun x=>x=g) w4 (w4.setCell ⟨g,i,none⟩ (.int .i64 cn)) from (Chg.refl (fun x=>x=g) w4).setCell (p:=⟨g,i,none⟩) (.inl rfl) _);have aW:=zh ((aJ.out.block b (zko hv4.box) fun e=>hgb e.symm).trans hv4.box);have mZ:=zh ((aJ.out.block W.heap.size (zko K4.out) fun e=>q8 e.symm).trans K4.out);rw[hL] at aW;clear hs4 hc4 hv4 hne4 hrow4 nI hset hgb q8 hL hx hg iQ HQ3 z0 z1 z2 z3;obtain⟨z0,z1,z2,z3⟩:=box4 K4.out;go_upto_region 13 with fail;have hSS:(fun w':World=>w'.cell? ⟨b,1,none⟩=some (.slice (some ⟨g,0,none⟩) L c4)/\w'.cell? ⟨W.heap.size,1,none⟩=some (.int .i64 (i:Int))/\w'.cell? ⟨W.heap.size,3,none⟩=some (.int .i64 cn)) w4.drew/\(fun _:World=>True) w4.drew:=⟨⟨y1,z1,z3⟩,trivial⟩
  have qR:w4.drew.cell? ⟨g,i,none⟩=some (.int .i64 x):=p0;have qQ:w4.drew.frozen? ⟨g,i,none⟩=false:=p1;refine wp_region_noPanic ?_;refine zke (fun w':World=>w'.cell? ⟨b,1,none⟩=some (.slice (some ⟨g,0,none⟩) L c4)/\w'.cell? ⟨W.heap.size,1,none⟩=some (.int .i64 (i:Int))/\w'.cell? ⟨W.heap.size,3,none⟩=some (.int .i64 cn)) (fun _:World=>True) 9 (by kernel_rfl) ?_;refine zT 0 hSS ?_;(try simp only[zQ]);refine zT 1 hSS ?_;(try simp only[zQ]);refine zT 2 hSS ?_;(try simp only[zQ]);refine zT 3 hSS ?_;(try simp only[zQ]);refine zT 4 hSS ?_;(try simp only[zQ]);refine zT 5 hSS ?_;(try simp only[zQ]);refine zT 6 hSS ?_;(try simp only[zQ]);refine zT 7 hSS ?_;(try simp only[zQ]);refine zT 8 hSS ?_;(try simp only[zQ]);refine zp 9 fun K hK=>?_;(try simp only[zA,zB,zC]);go_simp;refine hK.out _ _ ⟨zc aW.out rfl,zc mZ.out rfl,zc mZ.out rfl⟩ ?_;clear hK K hSS;(try simp only[zQ]);refine zd ?_
  refine NoPanic.normal ?_;clear y1 z0 z1 z2 z3 p0 p1 qR qQ;go_wp2_with fail;go_ret;have hsq:SqB (w4.setCell ⟨g,i,none⟩ (.int .i64 cn)) n0 (zlY B W.heap.size (w4.setCell ⟨g,i,none⟩ (.int .i64 cn)).heap.size) b ⟨q.len,(ext q.el (i+1)).set i cn⟩:=by
   refine⟨.slice (some ⟨g,0,none⟩) (ext q.el (i+1)).length c4,?_,HSET.out,fun g' hg'=>⟨?_,(qB.out.own g' hg').2⟩,?_,qB.out.nb,fun y hy=>?_⟩
   ·rw[HL.out];exact aW.out
   ·rcases(qB.out.own g' hg').1 with h|h
    ·exact .inl h
    ·exact .inr ⟨h.1,Nat.lt_of_lt_of_le h.2 aJ.out.size⟩
   ·rcases qB.out.bb with h|h
    ·exact .inl h
    ·exact .inr ⟨h.1,Nat.lt_of_lt_of_le h.2 aJ.out.size⟩
   ·rcases List.mem_or_eq_of_mem_set hy with h|rfl
    ·exact qB.out.i y h
    ·exact hcn
  have hcc:Chg B W (w4.setCell ⟨g,i,none⟩ (.int .i64 cn)):=HC4.out.trans2 aJ.out fun g' hlt e=>by
   have e:g'=g:=e;subst e;rcases(qB.out.own g' rfl).1 with h|h
   ·exact h
   ·omega
  exact⟨rfl,hsq.later (Below.refl _ _).drew,⟨hcc.os,hcc.tape,hcc.output,hcc.size,hcc.block⟩⟩
 ·rw[if_pos h7] at hR;subst hR;obtain⟨z0,z1,z2,z3⟩:=box4 K3.out;go_wp2_with fail;go_ret;exact⟨rfl,gK.out _ qd.out⟩
theorem zqK {W:World} {n0 b:Nat} {B:Nat->Prop} {q:SQ} (h:SqB W n0 B b q) (c:CH) (hc:c.I) (hnw:n0<=W.heap.size) (hel:q.el.length<=1000000) :
  Calls Tryz.prog 69 #[.pointer (some ⟨b,0,none⟩),.agg #[.int .i64 c.cell,.int .i64 c.at',.int .i64 c.old,.int .i64 c.new]] W (ChqP W n0 B b (chgQ q c)):=by
 obtain⟨cc,ca,co,cn⟩:=c;obtain⟨-,⟨ha1,ha2⟩,-,hcn⟩:=hc;dsimp only at ha1 ha2 hcn ⊢;by_cases hps:0<=ca/\ca<4096
 ·obtain⟨i,rfl⟩:∃ i:Nat,ca=(i:Int):=⟨ca.toNat,by omega⟩
  exact zqJ h cc co cn i (by omega) hcn hnw hel
 have hb1:=zkd (Below.refl W.heap.size W) (.cells #[.int .i64 cc,.int .i64 ca,.int .i64 co,.int .i64 cn] 64);have k1:=heap_alloc_new W (.cells #[.int .i64 cc,.int .i64 ca,.int .i64 co,.int .i64 cn] 64);obtain⟨w1,hw1⟩:∃ x,W.alloc (.cells #[.int .i64 cc,.int .i64 ca,.int .i64 co,.int .i64 cn] 64)=x:=⟨_,rfl⟩
 rw[hw1] at hb1 k1;obtain⟨x0,x1,x2,x3⟩:=box4 k1;have H:=zh h;have K1:=zh k1;have HB1:=zh hb1;have kS:=zh hel;have gK:=zh (show ∀ w',Below w1.heap.size w1 w'->SqB w' n0 (zlY B W.heap.size w'.heap.size) b q/\Chg B W w' from fun w' hb=>⟨(H.out.later (zka HB1.out hb)).add _ _,Chg.of_below (zka HB1.out hb)⟩);obtain⟨R,hR⟩:∃ R,chgQ q ⟨cc,ca,co,cn⟩=R:=⟨_,rfl⟩
 rw[hR];unfold chgQ at hR;dsimp only at hR;clear h k1 hb1 hel;go_enter Tryz.func69,Tryz.ntmps69;go_upto_region 1 with fail;(try rw[hw1]);clear hw1;by_cases h1:ca < -1
 ·rw[if_pos (.inl h1)] at hR;subst hR;go_wp2_with fail;go_ret;exact⟨rfl,gK.out _ (Below.refl _ _)⟩
 by_cases h2:4096<=ca
 ·rw[if_pos (.inr h2)] at hR;subst hR;go_wp2_with fail;go_ret;exact⟨rfl,gK.out _ (Below.refl _ _)⟩
 rw[if_neg (by omega)] at hR;obtain rfl:ca = -1:=by omega
 ·
  by_cases h4:cn<0
  ·rw[if_pos ⟨rfl,.inl h4⟩] at hR;subst hR;go_wp2_with fail;go_ret;exact⟨rfl,gK.out _ (Below.refl _ _)⟩
  by_cases h5:4096<cn
  ·rw[if_pos ⟨rfl,.inr h5⟩] at hR;subst hR;go_wp2_with fail;go_ret;exact⟨rfl,gK.out _ (Below.refl _ _)⟩
  rw[if_neg (by omega)] at hR;obtain⟨v,hv⟩:=H.out;have HV:=zh hv;have y0:w1.cell? ⟨b,0,none⟩=some (.int .i64 q.len):=zc (zkc hv.box HB1.out) rfl;have yf:∀ o,w1.frozen? ⟨b,o,none⟩=false:=fun o=>zf (zkc hv.box HB1.out);clear hv;by_cases h6:co=q.len
  ·rw[if_neg (by omega),if_pos rfl] at hR;subst h6 hR;go_upto_region 5 with fail
   go_quiet (fail)
   obtain⟨w2,hw2⟩:∃ w2,w1.drewN nq=w2:=⟨_,rfl⟩
   have hb2:Below w1.heap.size w1 w2:=hw2▸zkN (Below.refl _ _) nq;rw[hw2];have z0:=zb hb2 x0;have z1:=zb hb2 x1;have z2:=zb hb2 x2;have z3:=zb hb2 x3;have hbx:=zkc (zkc HV.out.box HB1.out) hb2;have u0:w2.cell? ⟨b,0,none⟩=some (.int .i64 q.len):=zc hbx rfl;have uf:∀ o,w2.frozen? ⟨b,o,none⟩=false:=fun o=>zf hbx;have HB2:=zh (zka HB1.out hb2);have ax:=zh hbx;clear hw2 hb2 x0 x1 x2 x3 y0 yf hbx;go_wp2_with fail;go_ret;have hch:Chg (fun g=>g=b) w2 (w2.setCell ⟨b,0,none⟩ (.int .i64 cn)):=(Chg.refl (fun g=>g=b) w2).setCell (p:=⟨b,0,none⟩) (.inl rfl) _;refine⟨rfl,⟨v,?_,zlo (zkt HV.out.row HB2.out) fun g hg=>hch.block g ?_ (HV.out.own g hg).2,fun g hg=>⟨.inl (HV.out.own g hg).1,(HV.out.own g hg).2⟩,.inl HV.out.bb,HV.out.nb,HV.out.i⟩,(Chg.of_below HB2.out).trans2 hch fun g _ e=>by have e:g=b:=e;subst e;exact HV.out.bb⟩
   ·have:=heap_setCell_same w2 b 0 _ _ (.int .i64 cn) ax.out;simpa using this
   ·exact Nat.lt_of_lt_of_le (HV.out.row.lt g hg).2 HB2.out.size
  ·rw[if_pos ⟨rfl,h6⟩] at hR;subst hR;go_upto_region 5 with fail
   go_quiet (fail)
   go_wp2_with fail;go_ret;exact⟨rfl,gK.out _ (zkN (Below.refl _ _) nq)⟩
def LstP (W:World) (B:Nat->Prop) (r:Option (List Int)) (e:Ending) (W':World):Prop:=Chg B W W'/\match r with
 | none=>e=.returned (.tuple #[.slice none 0 0,.bool false])
 | some l=>∃ v,e=.returned (.tuple #[v,.bool true])/\W'.ownsRow W.heap.size 3 1 v l.length (zkf l)
theorem zsL {W:World} {n0 b:Nat} {B:Nat->Prop} {q:SQ} (h:SqB W n0 B b q) (h0:0<=q.len) (h1:q.len<=1000000) (hnw:n0<=W.heap.size) (hel:q.el.length<=1000000) :
  Calls Tryz.prog 70 #[.pointer (some ⟨b,0,none⟩)] W (LstP W B (lstQ q)):=by
 obtain⟨ql,el⟩:=q;simp only at h0 h1 hel;obtain⟨n,rfl⟩:∃ n:Nat,ql=(n:Int):=⟨ql.toNat,by omega⟩
 obtain⟨R,hR⟩:∃ R,lstQ ⟨(n:Int),el⟩=R:=⟨_,rfl⟩
 rw[hR];have iQ:=zh (zoe h (n:Int) ⟨by omega,by omega⟩ (by omega) hnw);rw[Int.toNat_natCast] at iQ;obtain⟨v,hv⟩:=h;have y0:W.cell? ⟨b,0,none⟩=some (.int .i64 (n:Int)):=zc hv.box rfl;unfold lstQ at hR;simp only[Int.toNat_natCast] at hR;obtain⟨xs,hxs⟩:∃ xs,ext el n=xs:=⟨_,rfl⟩
 have hnl:n<=xs.length:=by rw[<-hxs,zoB];omega
 have hxl:xs.length<=1000001:=by rw[<-hxs,zoB];omega
 rw[hxs] at hR iQ;have HR:=zh hR;have iM:=zh hnw;have mH:=zh hxl;clear hv hR hxs h0 h1 hel hnw;go_enter Tryz.func70,Tryz.ntmps70;go_wp2_with fail;refine iQ.out.mono ?_;rintro e1 w1 ⟨⟨u1,rfl⟩,hs1,hc1⟩;obtain⟨v1,hv1⟩:=hs1;obtain⟨A,c,e1,hcap⟩:=zkb hv1.row;subst e1;clear y0 iQ;have y0:w1.cell? ⟨b,0,none⟩=some (.int .i64 (n:Int)):=zc hv1.box rfl;have y1:w1.cell? ⟨b,1,none⟩=some (.slice A xs.length c):=zc hv1.box rfl;have qC:=zh hv1;have iU:=zh hc1;obtain⟨L,hL⟩:∃ L,xs.length=L:=⟨_,rfl⟩
 rw[hL] at y1 hnl;have HL:=zh hL;have hn1:(n:Int)<=(L:Int):=by omega
 have hn2:(0:Int)<=(n:Int):=by omega
 clear hv1 hc1 hL;go_upto_region 2 with fail
 go_quiet (fail)
 obtain⟨w2,hw2⟩:∃ w2,w1.drewN nq=w2:=⟨_,rfl⟩
 have hb2:Below w1.heap.size w1 w2:=hw2▸zkN (Below.refl _ _) nq;obtain⟨A',hA'⟩:∃ A',(if c=n then A else Option.map (fun x=>x.add n) A)=A':=⟨_,rfl⟩
 obtain⟨M,hM⟩:∃ M,L-n=M:=⟨_,rfl⟩
 rw[hw2,hA',hM];have HB2:=zh hb2;have iN:=zh (show n+M=L by omega);have HCELL:=zh (show ∀ j,j<M->∃ g,A'=some ⟨g,n,none⟩/\∀ wr,Below w1.heap.size w1 wr->wr.cell? ⟨g,n+j,none⟩=some (.int .i64 (xs.getD (n+j) 0)) from fun j hj=>by
  have hL:=HL.out;obtain⟨g,c',e,hc',-,hcell⟩:=zkZ qC.out.row (by show 0<xs.length;omega);simp only[Value.slice.injEq,true_and] at e;obtain⟨rfl,rfl⟩:=e;change xs.length<=c at hc';refine⟨g,?_,fun wr hb=>?_⟩
  ·rw[<-hA',if_neg (by omega)]
   show some ((⟨g,0,none⟩:Addr).add n)=_
   rw[Addr.add_lit,Nat.zero_add]
  ·have h1:=hcell (n+j) (by show n+j<xs.length*1;omega);have h2:(zkf xs)[n+j]?=some (.int .i64 (xs.getD (n+j) 0)):=by
    simp only[zkf,List.getElem?_map,List.getD_eq_getElem?_getD];rw[List.getElem?_eq_getElem (by omega)];rfl
   exact zb hb (h1.trans h2))
 have hkk:=qC.out.row;clear hw2 hb2 hA' hM hn1 hn2 y0 y1 hkk hnl hxl;go_wp2_with fail
 go_loopw [22] (fun i wr=>∃ j:Nat,j<=M/\i=.int .i64 j/\Hid (Below w1.heap.size w1 wr)/\Hid (∀ k,k<j->xs.getD (n+k) 0=0)) (fun i _=>M-(intOf i).toNat)
 case atStart=>exact⟨0,Nat.zero_le _,rfl,HB2,zh fun k hk=>by omega⟩
 case round =>
  clear HB2;obtain⟨j,hj,rfl,HB,HZ⟩:=hrel;by_cases hlt:j<M
  ·have hj1:(j:Int)<(M:Int):=by omega
   have hj0:(0:Int)<=(j:Int):=by omega
   have aY:=zh hlt;have iC:IntKind.i64.wrap ((j:Int)+1)=(j:Int)+1:=IntWalk.i64_in _ (by have:=mH.out;have:=iN.out;have:=HL.out;omega);obtain⟨g,rfl,hcell⟩:=HCELL.out j hlt;have x0:=hcell wr HB.out;obtain⟨x,hx⟩:∃ x,xs.getD (n+j) 0=x:=⟨_,rfl⟩
   rw[hx] at x0;have HX:=zh hx;clear hcell hx;by_cases hx0:x=0
   ·subst hx0;go_wp2_with fail
    go_roundw
    case rel=>exact⟨j+1,by have:=aY.out;omega,by go_num,HB,zh fun k hk=>by
     rcases Nat.lt_or_ge k j with h|h
     ·exact HZ.out k h
     ·rw[show k=j by omega];exact HX.out⟩
    case measure=>have:=aY.out;simp[intOf];omega
   ·go_wp2_with fail;go_ret2;refine⟨iU.out.trans2 (Chg.of_below (C:=B) HB.out) fun g _ h=>h,?_⟩;have hl:=HL.out;have hm:=iN.out;have hr:=HR.out;rw[if_neg (fun hall=>hx0 (by
     rw[List.all_eq_true] at hall;have hmem:x∈xs.drop n:=by
      have hlt2:n+j<xs.length:=by omega
      rw[<-HX.out,List.getD_eq_getElem?_getD,List.getElem?_eq_getElem hlt2,Option.getD_some];exact List.mem_drop_iff_getElem.2 ⟨j,by omega,rfl⟩
     simpa using hall x hmem))] at hr
    rw[<-hr];rfl
  ·have hz:(xs.drop n).all (fun x=>decide (x=0))=true:=by
    have hl:=HL.out;have hm:=iN.out;rw[List.all_eq_true];intro x hx;obtain⟨i,hi,rfl⟩:=List.getElem_of_mem hx;rw[List.length_drop] at hi;have:=HZ.out i (by omega);rw[List.getD_eq_getElem?_getD,List.getElem?_eq_getElem (by omega),Option.getD_some] at this;rw[List.getElem_drop,this];rfl
   have hr:=HR.out;rw[if_pos hz] at hr;subst hr;have hjm:¬ (j:Int)<(M:Int):=by omega
   obtain⟨Aq,kq,eq,-,aL⟩:=zk2 (w:=w1) (xs:=xs) (by simpa[zkf] using qC.out.row) qC.out.i;simp only[Value.slice.injEq,true_and] at eq;obtain⟨rfl,rfl⟩:=eq;have rq:=iN.out;have hle:=HL.out;have hnl:n<=xs.length:=by omega
   have dG:RowI w1 Any A (xs.take n):=fun i hi=>by
    rw[List.length_take] at hi;obtain⟨a,h1,h2,h3,h4⟩:=aL i (by omega);exact⟨a,h1,trivial,by rw[List.getElem_take];exact h3,by rw[List.getElem_take];exact h4⟩
   have htl:(xs.take n).length=n:=by rw[List.length_take];omega
   have HCLO:=zh (fun w' (hb:Below w1.heap.size w1 w')=>zkC (xs.take n) A c Any w' (dG.later hb) (by rw[htl];have:=mH.out;unfold LI;omega));rw[htl] at HCLO;have HTL:=zh htl;have hn1:(n:Int)<=(c:Int):=by omega
   have hn2:(0:Int)<=(n:Int):=by omega
   have y0:wr.cell? ⟨b,0,none⟩=some (.int .i64 (n:Int)):=zc (zkc qC.out.box HB.out) rfl;have y1:wr.cell? ⟨b,1,none⟩=some (.slice A L c):=by rw[<-HL.out];exact zc (zkc qC.out.box HB.out) rfl
   clear aL dG htl rq hle hnl hz;have bD:=zh (iU.out.trans2 (Chg.of_below (C:=B) HB.out) fun g _ h=>h);have jT:=zh (show W.heap.size<=wr.heap.size from bD.out.size);go_upto_region 8 with fail;have hSS:(fun w':World=>w'.cell? ⟨b,0,none⟩=some (.int .i64 (n:Int))/\w'.cell? ⟨b,1,none⟩=some (.slice A L c)) wr.drew/\(fun _:World=>True) wr.drew:=⟨⟨y0,y1⟩,trivial⟩
   have had:Calls Tryz.prog 49 [.slice A n c].toArray wr.drew fun e w'=>∃ u,e=.returned u/\(w'.ownsRow wr.heap.size 3 1 u (xs.take n).length ((xs.take n).map (fun x=>Value.int .i64 x))/\Below wr.heap.size wr w') :=
    (HCLO.out wr.drew (HB.out.trans (Below.refl _ _).drew)).mono fun e w' ⟨v,h1,h2,_,h4⟩=>⟨v,h1,h2,zka (Below.refl wr.heap.size wr).drew h4⟩
   refine wp_region_noPanic ?_;refine zke (fun w':World=>w'.cell? ⟨b,0,none⟩=some (.int .i64 (n:Int))/\w'.cell? ⟨b,1,none⟩=some (.slice A L c)) (fun _:World=>True) 9 (by kernel_rfl) ?_;refine zT 0 hSS ?_;(try simp only[zQ]);refine zT 1 hSS ?_;(try simp only[zQ]);refine zT 2 hSS ?_;(try simp only[zQ]);refine zT 3 hSS ?_;(try simp only[zQ]);refine zT 4 hSS ?_;(try simp only[zQ]);refine zT 5 hSS ?_;(try simp only[zQ]);refine zT 6 hSS ?_;(try simp only[zQ]);refine zT 7 hSS ?_;(try simp only[zQ]);refine zT 8 hSS ?_;(try simp only[zQ]);refine zo 9 fun K hK=>?_;refine zkg (by rfl) (.func 49) [.tmp 37] _ (by rfl) 49 _ zml (by rfl) _ (by rfl) _ had ?_;rintro v8 w8 ⟨iE,eU⟩;have oW:=zh iE;have bR:=zh eU;refine hK.out _ _ ⟨⟨zb eU y0,zb eU y1⟩,trivial⟩ ?_;clear hK K iE eU had hSS;(try simp only[zQ]);refine zp 10 fun K hK=>?_;(try simp only[zA,zB,zC]);go_simp
   refine hK.out _ _ ⟨zb bR.out y0,zb bR.out y1⟩ ?_;clear hK K;(try simp only[zQ]);refine zp 11 fun K hK=>?_;(try simp only[zA,zB,zC]);go_simp;refine hK.out _ _ ⟨zb bR.out y0,zb bR.out y1⟩ ?_;clear hK K;(try simp only[zQ]);refine zd ?_;refine NoPanic.normal ?_;clear y0 y1;go_wp2_with fail;go_ret2;exact⟨bD.out.trans2 (Chg.of_below (C:=B) bR.out) fun g _ h=>h,v8,rfl,zlO oW.out jT.out⟩
def pR:Value->Option (DataW Unit×List MemPlace)
 | .pointer (some ⟨b,0,none⟩)=>some (.lit (.int .i64 b),[])
 | .pointer none=>some (.nil,[])
 | _=>none
theorem ztF {v:Value} {x:Nat} {ps:List MemPlace} (h:pR v=some (.lit (.int .i64 (x:Int)),ps)):v=.pointer (some ⟨x,0,none⟩):=by
 unfold pR at h
 split at h
 ·simp only[Option.some.injEq,Prod.mk.injEq,DataW.lit.injEq,Lit.int.injEq,true_and] at h;obtain⟨h1,-⟩:=h;have:∀ a b:Nat,(a:Int)=(b:Int)->a=b:=fun a b h=>by omega
  rw[this _ _ h1]
 ·simp at h
 ·cases h
def kL (c:Int):Lit:=.int .i64 c
theorem zuQ {c d:Int} (h:c≠d):kL c≠kL d:=fun e=>h (by unfold kL at e;injection e)
theorem ztK (c:Int):WideAt.IsKeyLit (kL c):=trivial
theorem zsz {c:Int} (hc:I64 c):keyOf Tryz.prog 3 (.int .i64 c)=some (kL c) :=
 Maps.keyOf_int_mk Tryz.underlying3 (by
  obtain⟨h1,h2⟩:=hc;simp[Lit.wf,IntKind.min,IntKind.max,IntKind.signed,IntKind.bits];omega)
theorem zSqp (w:World):(zeroValue 126).run Tryz.prog w=.ok (.pointer none) w:=by kernel_rfl
structure AF (W:World) (n0 mb k:Nat) (S:Int->Prop) (m:QM) (F:Int->Nat) (Bs:Int->Nat->Prop):Prop where
 map:∃ D:DataW Unit,W.ownsMap Tryz.prog 3 pR mb k D/\(∀ c,I64 c->Maps.has D (kL c)=(m c).isSome)/\∀ c q,I64 c->m c=some q->D.atKey (kL c) .nil=.lit (.int .i64 (F c))
 seq:∀ c q,S c->m c=some q->SqB W n0 (Bs c) (F c) q
 sep:∀ c c' g,c≠c'->Bs c g->¬ Bs c' g
 lo:∀ c g,Bs c g->n0<=g/\g<W.heap.size/\g≠mb
 nb:n0<=mb
section
variable {W W' W1 W2 W3:World} {n0 mb k:Nat} {S S':Int->Prop} {m:QM} {F:Int->Nat} {Bs:Int->Nat->Prop} {c:Int} {q q':SQ}
theorem zl4 {D:DataW Unit} (h:W.ownsMap Tryz.prog 3 pR mb k D) (hk:W'.heap[mb]?=W.heap[mb]?):W'.ownsMap Tryz.prog 3 pR mb k D:=by
 obtain⟨es,clock,hb,r⟩:=h;exact⟨es,clock,hk.trans hb,r⟩
theorem AF.mlt (h:AF W n0 mb k S m F Bs):mb<W.heap.size:=by
 obtain⟨D,h1,-⟩:=h.map;exact h1.lt
theorem AF.keep (h:AF W n0 mb k S m F Bs) (hs:W.heap.size<=W'.heap.size) (hS:∀ c,S' c->S c) (hk:∀ g,g<W.heap.size->(g=mb\/∃ c,S' c/\Bs c g)->W'.heap[g]?=W.heap[g]?):AF W' n0 mb k S' m F Bs where
 map:=by
  obtain⟨D,h1,h2⟩:=h.map;exact⟨D,zl4 h1 (hk mb h1.lt (.inl rfl)),h2⟩
 seq:=fun c q hc hq=>(h.seq c q (hS c hc) hq).keep fun g hg hlt=>hk g hlt (.inr ⟨c,hc,hg⟩)
 sep:=h.sep
 lo:=fun c g hg=>by
  obtain⟨h1,h2,h3⟩:=h.lo c g hg;exact⟨h1,by omega,h3⟩
 nb:=h.nb
theorem AF.later (h:AF W n0 mb k S m F Bs) (hb:Below W.heap.size W W'):AF W' n0 mb k S m F Bs:=h.keep hb.size (fun _ h=>h) fun g hlt _=>hb.block g hlt
theorem AF.made (W:World) {n0:Nat} (hn:n0<=W.heap.size):AF (W.alloc (.map #[] 0)) n0 W.heap.size 0 (fun _=>True) (fun _=>none) (fun _=>0) (fun _ _=>False) where
 map:=⟨.map [],World.ownsMap_made W _ _ _,fun _ _=>rfl,fun c q _ h=>by cases h⟩
 seq:=fun c q _ h=>by cases h
 sep:=fun c c' g _ h=>h.elim
 lo:=fun c g h=>h.elim
 nb:=hn
theorem AF.put (h:AF W n0 mb k S m F Bs) {xs:List Int} {v:Value} {D:DataW Unit} (hc:I64 c) (hI:∀ x∈xs,I64 x) (hm:∀ c,I64 c->Maps.has D (kL c)=(m c).isSome) (ha:∀ c q,I64 c->m c=some q->D.atKey (kL c) .nil=.lit (.int .i64 (F c))) (hD:Maps.IsMap D) (hb:Below W.heap.size W W1) (ho:W1.ownsRow W.heap.size 3 1 v xs.length (zkf xs))
  (h3:W3.ownsMap Tryz.prog 3 pR mb (k+1) (D.put (kL c) (.lit (.int .i64 (W1.heap.size:Int))))) (hg:(W1.alloc (.cells #[.int .i64 (xs.length:Int),v] 128)).grownBy W3 (some mb)) :
  AF W3 n0 mb (k+1) S (m.put c ⟨xs.length,xs⟩) (fun d=>if d=c then W1.heap.size else F d) (fun d=>if d=c then fun g=>W.heap.size<=g/\g<W3.heap.size else Bs d) where
 map:=by
  refine⟨_,h3,fun d hd=>?_,fun d q hd hq=>?_⟩
  ·by_cases e:d=c
   ·subst e;rw[Maps.has_put_same hD (ztK d),QM.put_same];rfl
   ·rw[Maps.has_put_other (zuQ e),hm d hd]
    show _=(if d=c then _ else _:Option SQ).isSome
    rw[if_neg e]
  ·by_cases e:d=c
   ·subst e;rw[Maps.atKey_put_same hD (ztK d)];simp
   ·rw[Maps.atKey_put_other (zuQ e),if_neg e];exact ha d q hd ((if_neg e).symm.trans hq)
 seq:=fun d q hd hq=>by
  have rq:=h.mlt;have hs1:=hb.size;have hs3:=hg.size;have hs2:(W1.alloc (.cells #[.int .i64 (xs.length:Int),v] 128)).heap.size=W1.heap.size+1:=World.size_alloc ..
  have hbx:W3.heap[W1.heap.size]?=some (.cells #[.int .i64 (xs.length:Int),v] 128 (0,0)):=(hg.block _ (by omega) (by intro e;injection e with e;omega)).trans (heap_alloc_new W1 _);by_cases e:d=c
  ·subst e;have hq:some (⟨xs.length,xs⟩:SQ)=some q:=(QM.put_same m d _).symm.trans hq;injection hq with hq;subst hq;simp only[if_true];have hn0:n0<=W.heap.size:=by have:=h.nb;omega
   refine⟨v,hbx,zlo (zkt (zlO ho hn0) (zkd (Below.refl _ _) _)) fun g hg'=>hg.block g ?_ ?_,fun g hg'=>⟨⟨(ho.lt g hg').1,?_⟩,?_⟩,⟨hs1,by omega⟩,by omega,hI⟩
   ·have:=(ho.lt g hg').2;omega
   ·intro e;injection e with e;have:=(ho.lt g hg').1;omega
   ·have:=(ho.lt g hg').2;omega
   ·have:=(ho.lt g hg').2;omega
  ·simp only[if_neg e];refine(h.seq d q hd ((if_neg e).symm.trans hq)).keep fun g hg' hlt=>?_;have h1:=hb.block g hlt;have h2:=(zkd (Below.refl W1.heap.size W1) (.cells #[.int .i64 (xs.length:Int),v] 128)).block g (by omega);exact(hg.block g (by omega) (by intro e;injection e with e;exact(h.lo d g hg').2.2 e)).trans (h2.trans h1)
 sep:=fun d d' g hne h1 h2=>by
  by_cases e:d=c
  ·rw[if_pos e] at h1;rw[if_neg (fun e'=>hne (e.trans e'.symm))] at h2;have:=(h.lo d' g h2).2.1;omega
  ·rw[if_neg e] at h1;by_cases e':d'=c
   ·rw[if_pos e'] at h2;have:=(h.lo d g h1).2.1;omega
   ·rw[if_neg e'] at h2;exact h.sep d d' g hne h1 h2
 lo:=fun d g h1=>by
  have rq:=h.mlt;have hnb:=h.nb;have hs1:=hb.size;have hs3:=hg.size;have hs2:(W1.alloc (.cells #[.int .i64 (xs.length:Int),v] 128)).heap.size=W1.heap.size+1:=World.size_alloc ..
  by_cases e:d=c
  ·rw[if_pos e] at h1;exact⟨by omega,h1.2,by omega⟩
  ·rw[if_neg e] at h1;obtain⟨h2,h3,h4⟩:=h.lo d g h1;exact⟨h2,by omega,h4⟩
 nb:=h.nb
theorem AF.change (h:AF W n0 mb k S m F Bs) (hq:m c=some q) (hc:Chg (Bs c) W W') (hs:SqB W' n0 (zlY (Bs c) W.heap.size W'.heap.size) (F c) q'):AF W' n0 mb k S (m.put c q') F (fun d=>if d=c then zlY (Bs c) W.heap.size W'.heap.size else Bs d) where
 map:=by
  obtain⟨D,h1,h2,h3⟩:=h.map;refine⟨D,zl4 h1 (hc.block mb h1.lt fun e=>(h.lo c mb e).2.2 rfl),fun d hd=>?_,fun d q hd hq'=>?_⟩
  ·rw[h2 d hd];by_cases e:d=c
   ·subst e;rw[hq,QM.put_same];rfl
   ·show _=(if d=c then _ else _:Option SQ).isSome
    rw[if_neg e]
  ·by_cases e:d=c
   ·subst e;exact h3 d _ hd hq
   ·exact h3 d q hd ((if_neg e).symm.trans hq')
 seq:=fun d q2 hd hq2=>by
  by_cases e:d=c
  ·subst e;have hq2:some q'=some q2:=(QM.put_same m d _).symm.trans hq2;injection hq2 with hq2;subst hq2;simp only[if_true];exact hs
  ·simp only[if_neg e];exact(h.seq d q2 hd ((if_neg e).symm.trans hq2)).keep fun g hg hlt=>hc.block g hlt fun h1=>h.sep d c g e hg h1
 sep:=fun d d' g hne h1 h2=>by
  by_cases e:d=c
  ·rw[if_pos e] at h1;rw[if_neg (fun e'=>hne (e.trans e'.symm))] at h2;rcases h1 with h1|h1
   ·exact h.sep c d' g (fun e'=>hne (e.trans e')) h1 h2
   ·have:=(h.lo d' g h2).2.1;omega
  ·rw[if_neg e] at h1;by_cases e':d'=c
   ·rw[if_pos e'] at h2;rcases h2 with h2|h2
    ·exact h.sep d c g e h1 h2
    ·have:=(h.lo d g h1).2.1;omega
   ·rw[if_neg e'] at h2;exact h.sep d d' g hne h1 h2
 lo:=fun d g h1=>by
  have rq:=h.mlt;have hnb:=h.nb;have hs1:=hc.size;by_cases e:d=c
  ·rw[if_pos e] at h1;rcases h1 with h1|h1
   ·obtain⟨h2,h3,h4⟩:=h.lo c g h1;exact⟨h2,by omega,h4⟩
   ·exact⟨by omega,h1.2,by omega⟩
  ·rw[if_neg e] at h1;obtain⟨h2,h3,h4⟩:=h.lo d g h1;exact⟨h2,by omega,h4⟩
 nb:=h.nb
theorem AF.look (h:AF W n0 mb k S m F Bs) (hc:I64 c) (hq:m c=some q):(Instr.lookup 123 (.map (some mb)) (.int .i64 c) true).run Tryz.prog W=.ok (.tuple #[.pointer (some ⟨F c,0,none⟩),.bool true]) W:=by
 obtain⟨D,h1,h2,h3⟩:=h.map;obtain⟨v,ps,hr,hv⟩:=h1.look_ok (Maps.int_keyed Tryz.underlying3) Tryz.underlying123 (zSqp W) (zd:=.nil) (zp:=[]) rfl (zsz hc);rw[h3 c q hc hq] at hv;rw[h2 c hc,hq] at hr;rw[hr,ztF hv];rfl
theorem AF.look0 (h:AF W n0 mb k S m F Bs) (hc:I64 c) (hq:m c=none):∃ v,(Instr.lookup 123 (.map (some mb)) (.int .i64 c) true).run Tryz.prog W=.ok (.tuple #[v,.bool false]) W:=by
 obtain⟨D,h1,h2,h3⟩:=h.map;obtain⟨v,ps,hr,hv⟩:=h1.look_ok (Maps.int_keyed Tryz.underlying3) Tryz.underlying123 (zSqp W) (zd:=.nil) (zp:=[]) rfl (zsz hc);rw[h2 c hc,hq] at hr;exact⟨v,hr⟩
theorem AF.get (h:AF W n0 mb k S m F Bs) (hc:I64 c) (hq:m c=some q):(Instr.lookup 123 (.map (some mb)) (.int .i64 c) false).run Tryz.prog W=.ok (.pointer (some ⟨F c,0,none⟩)) W:=by
 obtain⟨D,h1,h2,h3⟩:=h.map;obtain⟨v,ps,hr,hv⟩:=h1.lookup (Maps.int_keyed Tryz.underlying3) Tryz.underlying123 (zSqp W) (zd:=.nil) (zp:=[]) rfl (zsz hc);rw[h3 c q hc hq] at hv;rw[hr,ztF hv]
end
theorem Rws.put {I:Type} [DecidableEq I] {W:World} {n0:Nat} {d:I->RowD} {r:RowD} (h:Rws W n0 d) (i:I) (ho:W.ownsRow n0 r.E r.sz r.v r.n r.xs) (ak:∀ b,r.v.ownBlock=some b->∀ j,j≠i->(d j).v.ownBlock≠some b):Rws W n0 (updR d i r):=by
 refine⟨fun j=>?_,fun j k b hjk hj hk=>?_⟩
 ·by_cases e:j=i
  ·subst e;rw[zkE];exact ho
  ·rw[zki e];exact h.row j
 ·by_cases e:j=i
  ·subst e;rw[zkE] at hj;rw[zki (fun e=>hjk e.symm)] at hk;exact ak b hj k (fun e=>hjk e.symm) hk
  ·rw[zki e] at hj;by_cases e':k=i
   ·subst e';rw[zkE] at hk;exact ak b hk j e hj
   ·rw[zki e'] at hk;exact h.sep j k b hjk hj hk
theorem zqp {W:World} {b3:Nat} (CS:List (List Int)) (h:W.heap[b3]?=some (.cells #[.slice none 0 0,.slice none 0 0,.slice none 0 0] 26 (0,0))):Rws W b3 (zkM (.slice none 0 0) (.slice none 0 0) (.slice none 0 0) (fun _=>.slice none 0 0) b3 ⟨CS,[],[]⟩ 0):=by
 refine⟨fun i=>?_,fun i j b hij hi hj=>?_⟩
 ·rcases i with _|i
  ·exact zpl (Nat.le_refl _) h
  ·cases i with
   | all=>exact zl5 _ _ _
   | el i=>exact zlJ _ _
   | inp=>exact zl5 _ _ _
   | out=>exact zl5 _ _ _
 ·have key:∀ i:SI,(zkM (.slice none 0 0) (.slice none 0 0) (.slice none 0 0) (fun _=>.slice none 0 0) b3 ⟨CS,[],[]⟩ 0 (some i)).v.ownBlock=none:=fun i=>by cases i<;>simp[zkM,nilR,Value.ownBlock]
  rcases i with _|i
  ·rcases j with _|j
   ·exact hij rfl
   ·rw[key] at hj;cases hj
  ·rw[key] at hi;cases hi
section
variable {W W2:World} {b3 j:Nat} {vc dF vi vo v:Value} {fc:Nat->Value} {s:SS} {x:List Int}
theorem zme (h:Rws W b3 (zkM vc vi vo fc b3 s j)):(W.cell? ⟨b3,0,none⟩=some vc/\W.cell? ⟨b3,1,none⟩=some vi/\W.cell? ⟨b3,2,none⟩=some vo)/\∀ o,W.frozen? ⟨b3,o,none⟩=false :=
 ⟨⟨h.cell none rfl rfl,h.cell none rfl rfl,h.cell none rfl rfl⟩,fun o=>h.frozen none rfl o⟩
theorem zrc (h:Rws W b3 (zkM vc vi vo fc b3 s j)) (hl:s.cells.getD j []=x) (ho:W.ownsRow b3 3 1 v x.length (zkf x)) (hd:∀ b,v.ownBlock=some b->∀ i,(zkM vc vi vo fc b3 s j i).v.ownBlock≠some b)
  (ha:W2.ownsRow b3 24 1 dF (j+1) ((List.range j).map fc++[v])) (hg:(W.alloc (.cells #[v] 24)).grownBy W2 vc.ownBlock) (ak:dF.ownBlock=vc.ownBlock\/dF.ownBlock=some (W.alloc (.cells #[v] 24)).heap.size) :
  (W2.cell? ⟨b3,0,none⟩=some vc/\∀ o,W2.frozen? ⟨b3,o,none⟩=false)/\Rws (W2.setCell ⟨b3,0,none⟩ dF) b3 (zkM dF vi vo (fun i=>if i=j then v else fc i) b3 s (j+1))/\Chg (fun b=>b=b3\/vc.ownBlock=some b) W (W2.setCell ⟨b3,0,none⟩ dF):=by
 have h1:=(h.put (some (.el j)) (r:=⟨v,3,1,x.length,zkf x⟩) ho fun b hb k _=>hd b hb k).later (zkd (Below.refl _ _) (.cells #[v] 24));have e1:updR (zkM vc vi vo fc b3 s j) (some (.el j)) ⟨v,3,1,x.length,zkf x⟩ (some .all)=⟨vc,24,1,j,(List.range j).map fc⟩:=zki (by simp);have h2:=h1.upd (some .all) (r:=⟨dF,24,1,j+1,(List.range j).map fc++[v]⟩) ((Chg.row hg).mono fun b _ e=>by rw[e1];exact e) ha (fun b hb=>by
  rcases ak with e|e
  ·exact .inl (by rw[e1];exact e▸hb)
  ·rw[e] at hb;injection hb with hb;exact .inr (by omega))
 have e2:updR (updR (zkM vc vi vo fc b3 s j) (some (.el j)) ⟨v,3,1,x.length,zkf x⟩) (some .all) ⟨dF,24,1,j+1,(List.range j).map fc++[v]⟩ none=⟨boxV b3,26,3,1,[vc,vi,vo]⟩:=by
  rw[zki (by simp),zki (by simp)];rfl
 have hb3:(updR (updR (zkM vc vi vo fc b3 s j) (some (.el j)) ⟨v,3,1,x.length,zkf x⟩) (some .all) ⟨dF,24,1,j+1,(List.range j).map fc++[v]⟩ none).v.ownBlock=some b3:=by rw[e2];rfl
 have h3:=h2.set none hb3 (o:=0) (by rw[e2];show 0<3;decide) dF;rw[e2] at h3;refine⟨⟨h2.cell none hb3 (by rw[e2];rfl),fun o=>h2.frozen none hb3 o⟩,?_,?_⟩
 ·rw[<-ztJ vc dF vi vo fc b3 s j x v hl];exact h3
 ·refine((Chg.of_below (C:=fun b=>b=b3\/vc.ownBlock=some b) (zkd (Below.refl W.heap.size W) (.cells #[v] 24))).trans2 (Chg.row hg) fun b _ e=>.inr e).trans2 ((Chg.refl (fun b=>b=b3) W2).setCell (p:=⟨b3,0,none⟩) (.inl rfl) dF) fun b _ e=>.inl e
theorem zt5 {CS:List (List Int)} {y:List Int} (h:Rws W b3 (zkM vc vi vo fc b3 ⟨CS,[],y⟩ j)) (ho:W.ownsRow b3 3 1 v x.length (zkf x)) (hd:∀ b,v.ownBlock=some b->∀ i,(zkM vc vi vo fc b3 ⟨CS,[],y⟩ j i).v.ownBlock≠some b) :
  Rws (W.setCell ⟨b3,1,none⟩ v) b3 (zkM vc v vo fc b3 ⟨CS,x,y⟩ j):=by
 have h1:=h.put (some .inp) (r:=⟨v,3,1,x.length,zkf x⟩) ho fun b hb k _=>hd b hb k;have e2:updR (zkM vc vi vo fc b3 ⟨CS,[],y⟩ j) (some .inp) ⟨v,3,1,x.length,zkf x⟩ none=⟨boxV b3,26,3,1,[vc,vi,vo]⟩:=by
  rw[zki (by simp)];rfl
 have h3:=h1.set none (g:=b3) (by rw[e2];rfl) (o:=1) (by rw[e2];show 1<3;decide) v;rw[e2] at h3;refine Eq.mp (congrArg _ ?_) h3;funext i;rcases i with _|i
 ·rfl
 ·cases i<;>simp[updR,zkM]
theorem zsE {CS:List (List Int)} {y:List Int} (h:Rws W b3 (zkM vc vi vo fc b3 ⟨CS,y,[]⟩ j)) (ho:W.ownsRow b3 3 1 v x.length (zkf x)) (hd:∀ b,v.ownBlock=some b->∀ i,(zkM vc vi vo fc b3 ⟨CS,y,[]⟩ j i).v.ownBlock≠some b) :
  Rws (W.setCell ⟨b3,2,none⟩ v) b3 (zkM vc vi v fc b3 ⟨CS,y,x⟩ j):=by
 have h1:=h.put (some .out) (r:=⟨v,3,1,x.length,zkf x⟩) ho fun b hb k _=>hd b hb k;have e2:updR (zkM vc vi vo fc b3 ⟨CS,y,[]⟩ j) (some .out) ⟨v,3,1,x.length,zkf x⟩ none=⟨boxV b3,26,3,1,[vc,vi,vo]⟩:=by
  rw[zki (by simp)];rfl
 have h3:=h1.set none (g:=b3) (by rw[e2];rfl) (o:=2) (by rw[e2];show 2<3;decide) v;rw[e2] at h3;refine Eq.mp (congrArg _ ?_) h3;funext i;rcases i with _|i
 ·rfl
 ·cases i<;>simp[updR,zkM]
end
theorem znl {ops:Array Oper} {rest:List Oper} {o:Oper} {a:Act} {W:World} {Q:Exit->Act->World->Prop} (hgd:o.guard=none) (s x:Operand)
  (ho:o.op=.call { callee:=.builtin .append,args := #[s,x],argTypes := #[23,23] }) (base:Nat) (v:Value) (n:Nat) (xs:List Value) (hs:a.eval s=v) (hrow:W.ownsRow base 24 1 v n xs)
  (ad:Addr) (y:Value) (hy:y.oneCell'=true) (hx:a.eval x=.slice (some ad) 1 1) (hc:W.cell? ad=some y) (hl:n+1<=5864062014805) (hb:base<=W.heap.size)
  (h:∀ v' w',w'.ownsRow base 24 1 v' (n+1) (xs++[y])->W.grownBy w' v.ownBlock->(v'.ownBlock=v.ownBlock\/v'.ownBlock=some W.heap.size)->wpList Tryz.prog ops Q rest (a.put o.dst v') w') :
  wpList Tryz.prog ops Q (o::rest) a W:=by
 obtain⟨i,hi,hz0,hz1,hz2⟩:=info_parts zpM;refine wpList_append_own_at (P:=Tryz.prog) _ hgd s x 23 ho base 24 i _ 1 24 Tryz.underlying23 hi hz0 hz1 hz2 rfl (by decide) v n xs hs hrow ad 1 1 [y] hx (by simp) (fun j u hj=>?_) (fun u hu=>?_) (by unfold maxLen;omega) (by omega) hb (fun v' w' h1 h2 _ h4=>h v' w' h1 h2 h4)
 ·rcases j with _|j
  ·have e:ad.add 0=ad:=by unfold Addr.add;split<;>simp_all
   rw[e,hc];simpa using hj
  ·simp at hj
 ·simp only[List.mem_singleton] at hu;subst hu;exact hy
def lq (m:QM) (c:Int):Option (List Int):=match m c with
 | none=>none
 | some q=>lstQ q
def lqD (m:QM) (c:Int):List Int:=(lq m c).getD []
theorem zpU {m:QM}:∀ {cs:List Int},(∀ c∈cs,∃ x,lq m c=some x)->zqw m cs=some (cs.map (lqD m))
 | [],_=>rfl
 | c::cs,h=>by
  obtain⟨x,hx⟩:=h c (List.mem_cons_self ..);have ih:=zpU fun d hd=>h d (List.mem_cons_of_mem _ hd);have hd:lqD m c=x:=by unfold lqD;rw[hx];rfl
  rw[List.map_cons,hd,zqw];unfold lq at hx
  split at hx
  ·cases hx
  ·rename_i q hq;simp only[hq,hx,ih];rfl
theorem zoU {m:QM} {c:Int} (hn:lq m c=none):∀ {cs:List Int},c∈cs->zqw m cs=none
 | d::cs,h=>by
  rw[zqw];by_cases e:d=c
  ·subst e;unfold lq at hn
   split at hn
   ·rename_i hq;simp only[hq]
   ·rename_i q hq;simp only[hq,hn]
  ·have ih:=zoU hn (cs:=cs) (by
    rcases List.mem_cons.1 h with h|h
    ·exact absurd h.symm e
    ·exact h)
   split
   ·rfl
   ·split
    ·rfl
    ·rw[ih];rfl
theorem ztG {q:SQ} {x:List Int} (h:lstQ q=some x) (hi:∀ y∈q.el,I64 y):(∀ y∈x,I64 y)/\x.length<=q.len.toNat:=by
 unfold lstQ at h
 split at h
 ·injection h with h;subst h;refine⟨fun y hy=>?_,by rw[List.length_take];omega⟩;have:=List.mem_of_mem_take hy;unfold ext at this;rcases List.mem_append.1 this with h1|h1
  ·exact hi y h1
  ·obtain⟨-,rfl⟩:=List.mem_replicate.1 h1;exact⟨by decide,by decide⟩
 ·cases h
theorem ztc {n j:Nat} {c:Int} (h:j<(zkl n).length) (hc:(zkl n)[j]=c):(j<n->c=(j:Int))/\(j=n->c = -1)/\(j=n+1->c = -2):=by
 have h1:(zkl n)[j]?=some c:=by rw[List.getElem?_eq_getElem h,hc]
 unfold zkl at h1;refine⟨fun h2=>?_,fun h2=>?_,fun h2=>?_⟩
 ·rw[List.getElem?_append_left (by simpa using h2)] at h1;simp[h2] at h1;exact h1.symm
 ·rw[List.getElem?_append_right (by simp[h2])] at h1;simp[h2] at h1;exact h1.symm
 ·rw[List.getElem?_append_right (by simp[h2])] at h1;simp[h2] at h1;exact h1.symm
theorem zrP {n j:Nat} {c:Int} (h:j<(zkl n).length) (hc:(zkl n)[j]=c):c ∉ (zkl n).take j:=fun h1=>by
 obtain⟨i,hi,e⟩:=List.getElem_of_mem h1;rw[List.length_take] at hi;rw[List.getElem_take] at e;exact List.pairwise_iff_getElem.1 (zpx n) i j (by omega) h (by omega) (e.trans hc.symm)
theorem zoj {s:SS} {l:List CH} {m:QM} {n:Nat} (hn:s.cells.length=n) (ha:zlh (QM.of s) l=(0,m)) (h:∀ c∈zkl n,∃ x,lq m c=some x):zkw s l=(0,⟨(List.range n).map (fun i:Nat=>lqD m (i:Int)),(lqD m (-1)).reverse,lqD m (-2)⟩):=by
 unfold zkw;rw[ha,if_neg (by simp)];simp only[hn,zpU h];have e:(zkl n).map (lqD m)=(List.range n).map (fun i:Nat=>lqD m (i:Int))++[lqD m (-1),lqD m (-2)]:=by
  unfold zkl;rw[List.map_append,List.map_map];rfl
 rw[e];have hl:((List.range n).map (fun i:Nat=>lqD m (i:Int))).length=n:=by simp
 congr 2
 ·rw[List.take_append_of_le_length (by omega),List.take_of_length_le (by omega)]
 ·simp[List.getD_eq_getElem?_getD,List.getElem?_append_right,hl]
 ·simp[List.getD_eq_getElem?_getD,List.getElem?_append_right,hl]
theorem zoi {s:SS} {l:List CH} {m:QM} {n:Nat} {c:Int} (hn:s.cells.length=n) (ha:zlh (QM.of s) l=(0,m)) (hc:c∈zkl n) (h:lq m c=none):zkw s l=(20,⟨[],[],[]⟩):=by
 unfold zkw;rw[ha,if_neg (by simp)];simp only[hn,zoU h hc]
theorem bSqv (x:Int) (A:Option Addr) (l c:Nat) (w:World):(Instr.build 128 #[(0,.int .i64 x),(1,.slice A l c)]).run Tryz.prog w=.ok (.agg #[.int .i64 x,.slice A l c]) w:=by kernel_rfl
theorem bMk (w:World):(Instr.makeMap 123 none).run Tryz.prog w=.ok (.map (some w.heap.size)) (w.alloc (.map #[] 0)):=by kernel_rfl
theorem bSt0 (w:World):(Instr.build 26 #[]).run Tryz.prog w=.ok (.agg #[.slice none 0 0,.slice none 0 0,.slice none 0 0]) w:=by kernel_rfl
def AplP (s:SS) (l:List CH) (w:World) (e:Ending) (w':World):Prop:=∃ v,e=.returned (.tuple #[v,.int .i64 (zkw s l).1])/\Below w.heap.size w w'/\OwnS w' w.heap.size (zkw s l).2 v
def QM.upto (s:SS) (j:Nat):QM:=fun c=>if c∈(zkl s.cells.length).take j then some ⟨(part s c).length,part s c⟩ else none
theorem zq3 (s:SS):QM.upto s 0=fun _=>none:=by
 funext c;simp[QM.upto]
theorem zss (s:SS):QM.upto s (s.cells.length+2)=QM.of s:=by
 funext c;unfold QM.upto QM.of;rw[List.take_of_length_le (by simp[zkl])]
theorem zq4 (s:SS) {j:Nat} (h:j<(zkl s.cells.length).length):QM.upto s (j+1)=(QM.upto s j).put (zkl s.cells.length)[j] ⟨(part s (zkl s.cells.length)[j]).length,part s (zkl s.cells.length)[j]⟩:=by
 funext d;unfold QM.upto QM.put;rw[List.take_succ_eq_append_getElem h];by_cases e:d=(zkl s.cells.length)[j]
 ·rw[if_pos e,if_pos (List.mem_append.2 (.inr (List.mem_singleton.2 e))),e]
 ·rw[if_neg e];by_cases h2:d∈(zkl s.cells.length).take j
  ·rw[if_pos (List.mem_append.2 (.inl h2))];exact(if_pos h2).symm
  ·rw[if_neg fun h=>(List.mem_append.1 h).elim h2 fun h=>e (List.mem_singleton.1 h)];exact(if_neg h2).symm
def QM.Sm (m:QM):Prop:=∀ c q,m c=some q->0<=q.len/\q.len<=1000000/\q.el.length<=1000000
theorem QM.Sm.of {s:SS} (h:s.Sm):(QM.of s).Sm:=fun c q hq=>by
 unfold QM.of at hq
 split at hq
 ·injection hq with hq;subst hq;have:=znt h c;simp only;omega
 ·cases hq
theorem zup {q:SQ} {c:CH} (h:0<=q.len/\q.len<=1000000/\q.el.length<=1000000) (h0:(chgQ q c).1=0):0<=(chgQ q c).2.len/\(chgQ q c).2.len<=1000000/\(chgQ q c).2.el.length<=1000000:=by
 unfold chgQ at h0 ⊢
 split at h0
 ·simp at h0
 ·rename_i g1;rw[if_neg g1]
  split at h0
  ·simp at h0
  ·rename_i g2;rw[if_neg g2]
   split at h0
   ·simp at h0
   ·rename_i g3;rw[if_neg g3]
    split at h0
    ·rename_i g4;rw[if_pos g4];simp only;omega
    ·rename_i g4;rw[if_neg g4]
     split at h0
     ·simp at h0
     ·rename_i g5;rw[if_neg g5];simp only[List.length_set,zoB];omega
theorem QM.Sm.put {m:QM} (h:m.Sm) {c:Int} {q:SQ} (hq:0<=q.len/\q.len<=1000000/\q.el.length<=1000000):(m.put c q).Sm:=fun d q' h'=>by
 by_cases e:d=c
 ·have h':some q=some q':=(if_pos e).symm.trans h';injection h' with h';subst h';exact hq
 ·exact h d q' ((if_neg e).symm.trans h')
theorem znv (w:World) (n0:Nat):OwnS w n0 ⟨[],[],[]⟩ (.agg #[.slice none 0 0,.slice none 0 0,.slice none 0 0]):=by
 refine⟨_,_,_,fun _=>.slice none 0 0,rfl,⟨fun i=>?_,fun i j b _ hi _=>?_⟩,⟨fun l hl=>(by cases hl),fun x hx=>(by cases hx),fun x hx=>(by cases hx)⟩⟩
 ·cases i with
  | all=>exact zl5 _ _ _
  | el i=>exact zlJ _ _
  | inp=>exact zl5 _ _ _
  | out=>exact zl5 _ _ _
 ·cases i<;>simp[zlN,nilR,Value.ownBlock] at hi
theorem zmC (s:SS) (l:List CH) (v:Value) (AL:Option Addr) (cL:Nat) (w:World) (hv:SV w Any s v) (sa:s.Sm) (hl:RowC w Any AL l) (hI:∀ c∈l,c.I) (hln:l.length<=4398046511103):Calls Tryz.prog 26 #[v,.slice AL l.length cL] w (AplP s l w):=by
 have HV:=zh hv;have h1:=bSqv;have h2:=bSt0;have h3:=bMk;obtain⟨A,c,B,d,D,e,rfl,-⟩:=hv;have k0:=zkr (heap_alloc_new w (.cells #[.slice A s.cells.length c,.slice B s.tin.length d,.slice D s.tout.length e] 26)) (.cells #[.slice none 0 0,.slice none 0 0,.slice none 0 0] 26);have k1:=heap_alloc_new (w.alloc (.cells #[.slice A s.cells.length c,.slice B s.tin.length d,.slice D s.tout.length e] 26)) (.cells #[.slice none 0 0,.slice none 0 0,.slice none 0 0] 26);rw[World.size_alloc] at k1;have hb0:=zkd (zkd (Below.refl w.heap.size w) (.cells #[.slice A s.cells.length c,.slice B s.tin.length d,.slice D s.tout.length e] 26)) (.cells #[.slice none 0 0,.slice none 0 0,.slice none 0 0] 26);obtain⟨w0,hw0⟩:∃ x,(w.alloc (.cells #[.slice A s.cells.length c,.slice B s.tin.length d,.slice D s.tout.length e] 26)).alloc (.cells #[.slice none 0 0,.slice none 0 0,.slice none 0 0] 26)=x:=⟨_,rfl⟩
 rw[hw0] at k0 k1 hb0;have bP:=zh k0;have aN:=zh k1;have HB0:=zh hb0;have lS:=zh sa;have HL:=zh hl;have HI:=zh hI;have iO:=zh hln;obtain⟨x0,x1,x2⟩:=zlp k0;clear k0 k1 hb0 sa hl hI hln;go_enter Tryz.func26,Tryz.ntmps26;go_upto_region 2 with fail;have hn2:w.heap.size<=w0.heap.size:=HB0.out.size;have hmd:=AF.made w0 (n0:=w0.heap.size) (Nat.le_refl _);have rC:=zkd (Below.refl w0.heap.size w0) (.map #[] 0);obtain⟨w1,hw1⟩:∃ x,w0.alloc (.map #[] 0)=x:=⟨_,rfl⟩
 obtain⟨mb,hmb⟩:∃ x,w0.heap.size=x:=⟨_,rfl⟩
 have dM:=zh (show w.heap.size+2<=mb by have:=zko aN.out;omega);rw[hw1,hmb] at hmd;rw[hw1] at rC;rw[hw1,hmb];have HB1:=zh (zka HB0.out rC);have HK01:=zh (zkc bP.out rC);have HK11:=zh (zkc aN.out rC);have bX:=zh hmd;have HELS:=zh (zma A B D s.cells.length c s.tin.length d s.tout.length e w1);clear x0 x1 x2 hn2 hmd rC hmb hw0 hw1 h3;obtain⟨x0,x1,x2⟩:=zlp HK01.out;go_wp2_with fail;refine HELS.out.mono ?_;rintro e2 w2 ⟨rfl,rfl⟩;have kb:=heap_alloc_new w1 (.cells #[.slice A s.cells.length c,.slice B s.tin.length d,.slice D s.tout.length e] 26);have bC:=zkd (Below.refl w1.heap.size w1) (.cells #[.slice A s.cells.length c,.slice B s.tin.length d,.slice D s.tout.length e] 26);obtain⟨w2,hw2⟩:∃ x,w1.alloc (.cells #[.slice A s.cells.length c,.slice B s.tin.length d,.slice D s.tout.length e] 26)=x:=⟨_,rfl⟩
 rw[hw2] at kb bC;rw[hw2];obtain⟨ba,eF⟩:∃ x,w1.heap.size=x:=⟨_,rfl⟩
 rw[eF] at kb;rw[eF];have qL:=zh kb;have HB2:=zh (zka HB1.out bC);have pG:=zh (zkc HK01.out bC);have HK12:=zh (zkc HK11.out bC);have qh:=zh (bX.out.later bC);have HBAM:=zh (show mb<ba by rw[<-eF];exact bX.out.mlt);have gD:=zh (show s.cells.length<=1000000 from lS.out.1);have jk:=zh (zlL s.cells.length (by have:=gD.out;omega) w2);clear x0 x1 x2 kb bC hw2 eF HELS bX;obtain⟨x0,x1,x2⟩:=zlp pG.out;obtain⟨n,hn⟩:∃ n,s.cells.length=n:=⟨_,rfl⟩
 have aX:=zh hn;rw[hn] at jk;go_upto_region 3 with fail;go_wp2_with fail;refine jk.out.mono ?_;rintro e3 w3 ⟨v3,rfl,ho3,hb3⟩;obtain⟨Ac,c3,rfl,-⟩:=zkb ho3;have hcl:(zkl n).length=n+2:=by simp[zkl]
 have aQ:=zh hcl;obtain⟨g,rfl⟩:∃ g,Ac=some ⟨g,0,none⟩:=by
  rcases ho3.2 with⟨e1,e2⟩|⟨g,cap,cur,e1,-⟩
  ·omega
  ·injection e1 with e1;exact⟨g,e1⟩
 have oZ:=zh (zmi ho3);have HKA3:=zh (zkc qL.out hb3);have HB3:=zh (zka HB2.out hb3);have qc:=zh hb3;have qg:=zh (qh.out.later hb3);have HAF2L:=zh (show mb<w2.heap.size from qh.out.mlt);rw[hcl];clear x0 x1 x2 jk ho3 hb3 hcl qh qL;have HMB3:=zh (show mb<w3.heap.size from qg.out.mlt);have HGM:=zh (show g≠mb from fun e=>by have h5:=(oZ.out.lt () g rfl).1;have:=HAF2L.out;omega);have HBM:=zh (show ba≠mb from fun e=>by have:=HBAM.out;omega);have uz:=zh (zom HV.out);go_wp2_with fail
 go_loopw [29] (fun i wr=>∃ j:Nat,j<=n+2/\i=.int .i64 j/\Hid (Chg (fun b=>b=mb) w3 wr)/\∃ F Bs,Hid (AF wr mb mb j (fun _=>True) (QM.upto s j) F Bs)) (fun i _=>n+2-(intOf i).toNat)
 case atStart=>exact⟨0,Nat.zero_le _,rfl,zh (Chg.refl _ _),_,_,by rw[zq3];exact qg⟩
 case round =>
  clear qg;obtain⟨j,hj,rfl,aJ,F,Bs,bX⟩:=hrel;have aR:=zh (HB3.out.trans (aJ.out.below HB3.out.size fun b e=>by have e:b=mb:=e;have:=dM.out;omega));by_cases hlt2:j<n+2
  ·have hlt:j<(zkl n).length:=by rw[aQ.out];exact hlt2
   have hj1:(j:Int)<((n:Nat):Int)+2:=by omega
   have hj2:(j:Int)<((n+2:Nat):Int):=by omega
   have hj0:(0:Int)<=(j:Int):=by omega
   have iC:IntKind.i64.wrap ((j:Int)+1)=(j:Int)+1:=IntWalk.i64_in _ (by have:=gD.out;have:=aX.out;omega);obtain⟨kI,-⟩:=zlv oZ.out rfl hlt;obtain⟨cc,hcc⟩:∃ cc,(zkl n)[j]=cc:=⟨_,rfl⟩
   have hgd:(zkl n).getD j 0=cc:=by rw[List.getD_eq_getElem?_getD,List.getElem?_eq_getElem hlt,Option.getD_some,hcc]
   rw[hgd] at kI;have hgl:g<w3.heap.size:=(oZ.out.lt () g rfl).2;have z0:wr.cell? ⟨g,j,none⟩=some (.int .i64 cc):=zkG kI (aJ.out.block g hgl HGM.out);have hmem:cc∈zkl n:=by rw[<-hcc];exact List.getElem_mem hlt
   have dR:=zh (show I64 cc from zpy (by have:=gD.out;have:=aX.out;omega) hmem);have hup:=zq4 s (j:=j) (by rw[aX.out];exact hlt);simp only[aX.out,hcc] at hup;have qD:=zh hup;have oU:=zh (zlU s A B D c d e ba cc wr (aJ.out.keep HKA3.out HBM.out) (HV.out.later aR.out) (by rw[aX.out];exact hmem));have aY:=zh hlt2;obtain⟨DD,hD1,hD2,hD3⟩:=bX.out.map;have HD1:=zh hD1;have HD2:=zh hD2;have HD3:=zh hD3;have hpI:=zn1 uz.out cc;obtain⟨xs,hxs⟩:∃ xs,part s cc=xs:=⟨_,rfl⟩
   have vw:=zh (show ∀ x∈xs,I64 x by rw[<-hxs];exact hpI);unfold zr1 at oU;rw[hxs] at oU qD;clear hgd hmem hcc kI hgl hlt hup hD1 hD2 hD3 hxs hpI;go_wp2_with fail;refine oU.out.mono ?_;rintro e6 w6 ⟨vx,rfl,hox,hbx⟩;have tV:=zh hox;have ax:=zh hbx;obtain⟨Ax,cx,rfl,-⟩:=zkb hox;clear z0 hox hbx oU hj1 hj2;go_wp2_with (at_mapUpdate;refine wpList_mapUpdate_own _ rfl _ _ _ 123 rfl 3 126 (Maps.int_keyed Tryz.underlying3) Tryz.underlying123 pR mb j DD rfl (zl4 HD1.out ((zkd ax.out _).block mb bX.out.mlt)) (by have:=aY.out;have:=gD.out;have:=aX.out;unfold maxLen;omega) _ _ (kL cc) rfl rfl (zsz dR.out) (.lit (.int .i64 (w6.heap.size:Int))) [] rfl ?_;intro w9 hown9 hgrow9)
   go_roundw
   case rel =>
    have hput:=bX.out.put (c:=cc) dR.out vw.out HD2.out HD3.out HD1.out.isMap ax.out tV.out hown9 hgrow9;rw[<-qD.out] at hput;exact⟨j+1,by have:=aY.out;omega,by go_num,zh ((aJ.out.trans2 (Chg.of_below (C:=fun b=>b=mb) (zkd ax.out _)) fun _ _ h=>h).trans2 (Chg.row hgrow9) fun b _ e=>by injection e with e;exact e.symm),_,_,zh hput⟩
   case measure=>have:=aY.out;simp[intOf];omega
  ·obtain rfl:j=n+2:=by omega
   have hj1:¬ ((n+2:Nat):Int)<((n:Nat):Int)+2:=by omega
   have hj2:¬ ((n+2:Nat):Int)<((n+2:Nat):Int):=by omega
   have ha:=bX.out;rw[show QM.upto s (n+2)=QM.of s by rw[<-aX.out];exact zss s] at ha;have HAF4:=zh ha;obtain⟨w4,rfl⟩:∃ x,x=wr:=⟨_,rfl⟩
   clear ha bX;have HK04:=zh (aJ.out.keep (zkc pG.out qc.out) fun e=>by have e:w.heap.size=mb:=e;have:=dM.out;omega);have lZ:=zh (aJ.out.keep (zkc HK12.out qc.out) fun e=>by have e:w.heap.size+1=mb:=e;have:=dM.out;omega);have jf:=zh (QM.Sm.of lS.out);have iR:=zh (show ∀ c,(QM.of s c).isSome=decide (c∈zkl n) from fun c=>by
    unfold QM.of;rw[aX.out];by_cases h:c∈zkl n
    ·rw[if_pos h,decide_eq_true h];rfl
    ·rw[if_neg h,decide_eq_false h];rfl)
   have tZ:=zh (show w.heap.size<=mb by have:=dM.out;omega);clear aJ qc pG HK12 HKA3 oZ;go_wp2_with fail
   go_loopw [46] (fun i wr=>∃ j:Nat,j<=l.length/\i=.int .i64 j/\Hid (Below mb w4 wr)/\∃ m F Bs,Hid (AF wr mb mb (n+2) (fun _=>True) m F Bs)/\Hid m.Sm/\Hid (∀ c,(m c).isSome=decide (c∈zkl n))/\Hid (zlh (QM.of s) l=zlh m (l.drop j))) (fun i _=>l.length-(intOf i).toNat)
   case atStart=>exact⟨0,Nat.zero_le _,rfl,zh (Below.refl _ _),_,_,_,HAF4,jf,iR,zh rfl⟩
   case round =>
    clear HAF4 jf iR;obtain⟨j,hj,rfl,dC,m,F,Bs,bX,jf,iR,uo⟩:=hrel;by_cases hlt:j<l.length
    ·have hj1:(j:Int)<(l.length:Int):=by omega
     have hj0:(0:Int)<=(j:Int):=by omega
     have iC:IntKind.i64.wrap ((j:Int)+1)=(j:Int)+1:=IntWalk.i64_in _ (by have:=iO.out;omega);obtain⟨a,eA,-,hc4⟩:=(HL.out.later (aR.out.trans (dC.out.mono tZ.out))) j hlt;obtain⟨y0,y1,y2,y3⟩:=hc4;have hci:=HI.out _ (List.getElem_mem hlt);have hdr:l.drop j=l[j]::l.drop (j+1):=List.drop_eq_getElem_cons hlt;obtain⟨ch,hch⟩:∃ ch,l[j]=ch:=⟨_,rfl⟩
     have heq:=uo.out;rw[hdr,hch] at heq;rw[hch] at y0 y1 y2 y3 hci;obtain⟨cc,ca,co,cn⟩:=ch;have dR:=zh hci;dsimp only at y0 y1 y2 y3;have eF:=zkd (Below.refl wr.heap.size wr) (.cells #[.int .i64 cc,.int .i64 ca,.int .i64 co,.int .i64 cn] 64);have kx:=heap_alloc_new wr (.cells #[.int .i64 cc,.int .i64 ca,.int .i64 co,.int .i64 cn] 64);have aY:=zh hlt;have pM:=zh heq;subst eA;clear hdr hch hci heq uo;go_upto_region 12 with fail;obtain⟨w5,iD⟩:∃ x,wr.alloc (.cells #[.int .i64 cc,.int .i64 ca,.int .i64 co,.int .i64 cn] 64)=x:=⟨_,rfl⟩
     rw[iD] at eF kx;rw[iD];obtain⟨xb,hxb⟩:∃ x,wr.heap.size=x:=⟨_,rfl⟩
     rw[hxb] at kx;rw[hxb];have jl:=zh eF;have gM:=zh (bX.out.later eF);obtain⟨z0,z1,z2,z3⟩:=box4 kx;have HKX:=zh kx;clear y0 y1 y2 y3 kx eF iD hxb;rcases hq:m cc with _|q
     ·obtain⟨vn,hr⟩:=gM.out.look0 dR.out.1 hq;have HQ:=zh hq;clear hq;have hk1:=zkc ((dC.out.block _ (by have:=dM.out;omega)).trans lZ.out) jl.out;have ha:zlh (QM.of s) l=(2,m):=pM.out.trans (by rw[zlh];simp only[HQ.out]);have dE:=zh (show zkw s l=(2,⟨[],[],[]⟩) by unfold zkw;rw[ha];rfl);have dS:=zh (aR.out.trans ((dC.out.trans (jl.out.mono (Nat.le_of_lt bX.out.mlt))).mono tZ.out));have cf:∀ o,w5.frozen? ⟨w.heap.size+1,o,none⟩=false:=fun o=>zf hk1;have q0:w5.cell? ⟨w.heap.size+1,0,none⟩=some (.slice none 0 0):=zc hk1 rfl;have q1:w5.cell? ⟨w.heap.size+1,1,none⟩=some (.slice none 0 0):=zc hk1 rfl;have q2:w5.cell? ⟨w.heap.size+1,2,none⟩=some (.slice none 0 0):=zc hk1 rfl;have j6:=zh hk1;clear ha hk1;go_wp2_with fail
      have hch:Chg (fun b=>b=w.heap.size+1) w5 (((w5.setCell ⟨w.heap.size+1,0,none⟩ (.slice none 0 0)).setCell ⟨w.heap.size+1,1,none⟩ (.slice none 0 0)).setCell ⟨w.heap.size+1,2,none⟩ (.slice none 0 0)) :=
       (((Chg.refl (fun b=>b=w.heap.size+1) w5).setCell (p:=⟨w.heap.size+1,0,none⟩) (.inl rfl) _).setCell (p:=⟨w.heap.size+1,1,none⟩) (.inl rfl) _).setCell (p:=⟨w.heap.size+1,2,none⟩) (.inl rfl) _
      have hh:=heap_setCell_same _ (w.heap.size+1) 2 _ _ (.slice none 0 0) (heap_setCell_same _ (w.heap.size+1) 1 _ _ (.slice none 0 0) (heap_setCell_same w5 (w.heap.size+1) 0 _ _ (.slice none 0 0) j6.out));obtain⟨w9,aZ⟩:∃ x,((w5.setCell ⟨w.heap.size+1,0,none⟩ (.slice none 0 0)).setCell ⟨w.heap.size+1,1,none⟩ (.slice none 0 0)).setCell ⟨w.heap.size+1,2,none⟩ (.slice none 0 0)=x:=⟨_,rfl⟩
      rw[aZ] at hch hh ⊢;have t0:w9.cell? ⟨w.heap.size+1,0,none⟩=some (.slice none 0 0):=zc hh (by simp);have t1:w9.cell? ⟨w.heap.size+1,1,none⟩=some (.slice none 0 0):=zc hh (by simp);have t2:w9.cell? ⟨w.heap.size+1,2,none⟩=some (.slice none 0 0):=zc hh (by simp);refine bodyPost_ret (v:=.tuple #[.agg #[.slice none 0 0,.slice none 0 0,.slice none 0 0],.int .i64 2]) (by simp[results,Tryz.results26,go_sem,t0,t1,t2]) rfl ⟨_,by rw[dE.out],dS.out.trans (hch.below dS.out.size fun b e=>by omega),by rw[dE.out];exact znv _ _⟩
     ·have hr:=gM.out.look dR.out.1 hq;have hcq:=zqK (gM.out.seq cc q trivial hq) ⟨cc,ca,co,cn⟩ dR.out (Nat.le_of_lt gM.out.mlt) (jf.out cc q hq).2.2;obtain⟨R,hR⟩:∃ R,chgQ q ⟨cc,ca,co,cn⟩=R:=⟨_,rfl⟩
      rw[hR] at hcq;have nH:=fun h0=>zup (c:=⟨cc,ca,co,cn⟩) (jf.out cc q hq) h0;rw[hR] at nH;have HSMQ:=zh nH;have heq2:=pM.out;rw[zlh] at heq2;simp only[hq,hR] at heq2;have pK:=zh heq2;have sI:=zh hcq;have HQ:=zh hq;clear hq hR hcq nH heq2 pM;obtain⟨er,q'⟩:=R;simp only at HSMQ pK sI;go_wp2_with fail;refine sI.out.mono ?_;rintro e6 w6 ⟨rfl,hs6,hc6⟩;have rT:=zh hs6;have sJ:=zh hc6;have dD:=zh ((dC.out.trans (jl.out.mono (Nat.le_of_lt bX.out.mlt))).trans (hc6.below (Nat.le_of_lt gM.out.mlt) fun b h=>(gM.out.lo cc b h).1));clear z0 z1 z2 z3 hr hs6 hc6 sI;dsimp only;by_cases he:er=0
      ·subst he;have HEQ4:=zh (pK.out.trans (if_neg (by decide)));go_wp2_with fail
       go_roundw
       case rel=>exact⟨j+1,by have:=aY.out;omega,by go_num,dD,_,_,_,zh (gM.out.change HQ.out sJ.out rT.out),zh (jf.out.put (HSMQ.out rfl)),zh (fun d=>by
        by_cases e:d=cc
        ·subst e;have:=iR.out d;rw[HQ.out] at this;rw[<-this,QM.put_same];rfl
        ·rw[<-iR.out d]
         show(if d=cc then _ else _:Option SQ).isSome=_
         rw[if_neg e]),HEQ4⟩
       case measure=>have:=aY.out;simp[intOf];omega
      ·have ha:zlh (QM.of s) l=(er,m):=pK.out.trans (if_pos he);have dE:=zh (show zkw s l=(er,⟨[],[],[]⟩) by unfold zkw;rw[ha,if_pos he]);have hk1:w6.heap[w.heap.size+1]?=_:=(dD.out.block _ (by have:=dM.out;omega)).trans lZ.out;have dS:=zh (aR.out.trans (dD.out.mono tZ.out));have cf:∀ o,w6.frozen? ⟨w.heap.size+1,o,none⟩=false:=fun o=>zf hk1;have q0:w6.cell? ⟨w.heap.size+1,0,none⟩=some (.slice none 0 0):=zc hk1 rfl;have q1:w6.cell? ⟨w.heap.size+1,1,none⟩=some (.slice none 0 0):=zc hk1 rfl;have q2:w6.cell? ⟨w.heap.size+1,2,none⟩=some (.slice none 0 0):=zc hk1 rfl;have j6:=zh hk1;clear ha hk1;go_wp2_with fail;have hch:Chg (fun b=>b=w.heap.size+1) w6 (((w6.setCell ⟨w.heap.size+1,0,none⟩ (.slice none 0 0)).setCell ⟨w.heap.size+1,1,none⟩ (.slice none 0 0)).setCell ⟨w.heap.size+1,2,none⟩ (.slice none 0 0)) :=
        (((Chg.refl (fun b=>b=w.heap.size+1) w6).setCell (p:=⟨w.heap.size+1,0,none⟩) (.inl rfl) _).setCell (p:=⟨w.heap.size+1,1,none⟩) (.inl rfl) _).setCell (p:=⟨w.heap.size+1,2,none⟩) (.inl rfl) _
       have hh:=heap_setCell_same _ (w.heap.size+1) 2 _ _ (.slice none 0 0) (heap_setCell_same _ (w.heap.size+1) 1 _ _ (.slice none 0 0) (heap_setCell_same w6 (w.heap.size+1) 0 _ _ (.slice none 0 0) j6.out));obtain⟨w9,aZ⟩:∃ x,((w6.setCell ⟨w.heap.size+1,0,none⟩ (.slice none 0 0)).setCell ⟨w.heap.size+1,1,none⟩ (.slice none 0 0)).setCell ⟨w.heap.size+1,2,none⟩ (.slice none 0 0)=x:=⟨_,rfl⟩
       rw[aZ] at hch hh ⊢;have t0:w9.cell? ⟨w.heap.size+1,0,none⟩=some (.slice none 0 0):=zc hh (by simp);have t1:w9.cell? ⟨w.heap.size+1,1,none⟩=some (.slice none 0 0):=zc hh (by simp);have t2:w9.cell? ⟨w.heap.size+1,2,none⟩=some (.slice none 0 0):=zc hh (by simp);refine bodyPost_ret (v:=.tuple #[.agg #[.slice none 0 0,.slice none 0 0,.slice none 0 0],.int .i64 er]) (by simp[results,Tryz.results26,go_sem,t0,t1,t2]) rfl ⟨_,by rw[dE.out],dS.out.trans (hch.below dS.out.size fun b e=>by omega),by rw[dE.out];exact znv _ _⟩
    ·obtain rfl:j=l.length:=by omega
     have ha:zlh (QM.of s) l=(0,m):=by have:=uo.out;rw[List.drop_length] at this;exact this
     have HAE:=zh ha;obtain⟨w5,rfl⟩:∃ x,x=wr:=⟨_,rfl⟩
     have hj1:¬ (l.length:Int)<(l.length:Int):=by omega
     have HK05:=zh ((dC.out.block _ (by have:=dM.out;omega)).trans HK04.out);have HK15:=zh ((dC.out.block _ (by have:=dM.out;omega)).trans lZ.out);have aW:=zh (aR.out.trans (dC.out.mono tZ.out));have h9:=zuB;clear ha uo dC aR HK04 lZ HL;go_upto_region 20 with fail;have kr:=heap_alloc_new w5 (.cells #[.slice none 0 0,.slice none 0 0,.slice none 0 0] 26);have iI:=zkd (Below.refl w5.heap.size w5) (.cells #[.slice none 0 0,.slice none 0 0,.slice none 0 0] 26);obtain⟨w6,eP⟩:∃ x,w5.alloc (.cells #[.slice none 0 0,.slice none 0 0,.slice none 0 0] 26)=x:=⟨_,rfl⟩
     rw[eP] at kr iI;rw[eP];have nD:w6.heap.size=w5.heap.size+1:=by rw[<-eP];exact World.size_alloc ..
     have iy:=zh (show ∀ c b,Bs c b->mb<b/\b<w5.heap.size from fun c b h=>by
      obtain⟨g1,g2,g3⟩:=bX.out.lo c b h;omega)
     have dL:=zh bX.out.mlt;obtain⟨b3,hb3⟩:∃ x,w5.heap.size=x:=⟨_,rfl⟩
     have HAF6:=zh (bX.out.later iI);have HK06:=zh (zkc HK05.out iI);have HK16:=zh (zkc HK15.out iI);have dD:=zh (zka aW.out iI);rw[hb3] at kr nD iy dL;rw[hb3];have oP:=zh (zqp ((List.range n).map fun i:Nat=>lqD m (i:Int)) kr);have HW6:=zh nD;have HCO6:=zh (zlL n (by have:=gD.out;have:=aX.out;omega) w6);obtain⟨x0,x1,x2⟩:=zlp HK06.out;clear kr iI eP hb3 nD bX HK05 HK15 aW;go_wp2_with fail;refine HCO6.out.mono ?_;rintro e7 w7 ⟨v7,rfl,iX,bH⟩;obtain⟨Ac7,c7,rfl,-⟩:=zkb iX;have hcl7:=aQ.out;obtain⟨g7,rfl⟩:∃ g,Ac7=some ⟨g,0,none⟩:=by
      rcases iX.2 with⟨e1,e2⟩|⟨g,cap,cur,e1,-⟩
      ·omega
      ·injection e1 with e1;exact⟨g,e1⟩
     have mV:=zh (zmi iX);have pJ:=zh (show b3<g7/\g7<w7.heap.size by have h5:=(zmi iX).lt () g7 rfl;have:=HW6.out;omega);have HAF7:=zh (HAF6.out.later bH);have HK17:=zh (zkc HK16.out bH);have gL:=zh (zka dD.out bH);have HR7:=zh (oP.out.later bH);rw[hcl7];clear x0 x1 x2 HCO6 iX bH hcl7 HAF6 HK16 dD oP HK06;go_wp2_with fail
     go_loopw [73] (fun i wr=>∃ j:Nat,j<=n+2/\i=.int .i64 j/\Hid (Chg (fun b=>b=b3\/∃ c,Bs c b) w7 wr)/\Hid (AF wr mb mb (n+2) (fun c=>c ∉ (zkl n).take j) m F Bs)/\Hid (∀ c∈(zkl n).take j,∃ x,lq m c=some x/\∀ y∈x,I64 y)/\∃ vc vi vo fc,Hid (Rws wr b3 (zkM vc vi vo fc b3 ⟨(List.range n).map fun i:Nat=>lqD m (i:Int),if n<j then (lqD m (-1)).reverse else [],if n+1<j then lqD m (-2) else []⟩ (min j n)))/\Hid (∀ b,vc.ownBlock=some b->w7.heap.size<=b)) (fun i _=>n+2-(intOf i).toNat)
     case atStart=>exact⟨0,Nat.zero_le _,rfl,zh (Chg.refl _ _),zh (HAF7.out.keep (Nat.le_refl _) (fun _ _=>trivial) fun _ _ _=>rfl),zh (fun c hc=>by simp at hc),_,_,_,_,(by simpa using HR7),zh (fun b hb=>by simp[Value.ownBlock] at hb)⟩
     case round =>
      clear HAF7 HR7;obtain⟨j,hj,rfl,aJ,bX,pQ,vc,vi,vo,fc,HRW,il⟩:=hrel;have aR:=zh (gL.out.trans (aJ.out.below gL.out.size fun b e=>by
       have:=dM.out;have:=dL.out;rcases e with e|⟨c,e⟩
       ·omega
       ·have:=iy.out c b e;omega))
      have pF:=zh (aJ.out.keep HK17.out fun e=>by
       have:=dM.out;have:=dL.out;rcases e with e|⟨c,e⟩
       ·omega
       ·have:=iy.out c _ e;omega)
      by_cases hlt2:j<n+2
      ·have hlt:j<(zkl n).length:=by rw[aQ.out];exact hlt2
       have hj1:(j:Int)<((n:Nat):Int)+2:=by omega
       have hj2:(j:Int)<((n+2:Nat):Int):=by omega
       have hj0:(0:Int)<=(j:Int):=by omega
       have iC:IntKind.i64.wrap ((j:Int)+1)=(j:Int)+1:=IntWalk.i64_in _ (by have:=gD.out;have:=aX.out;omega);obtain⟨kI,-⟩:=zlv mV.out rfl hlt;obtain⟨cc,hcc⟩:∃ cc,(zkl n)[j]=cc:=⟨_,rfl⟩
       have hgd:(zkl n).getD j 0=cc:=by rw[List.getD_eq_getElem?_getD,List.getElem?_eq_getElem hlt,Option.getD_some,hcc]
       rw[hgd] at kI;have z0:wr.cell? ⟨g7,j,none⟩=some (.int .i64 cc):=zkG kI (aJ.out.block g7 pJ.out.2 fun e=>by
        have:=pJ.out.1;rcases e with e|⟨c,e⟩
        ·omega
        ·have:=iy.out c _ e;omega)
       have hmem:cc∈zkl n:=by rw[<-hcc];exact List.getElem_mem hlt
       have HMEM:=zh hmem;have dR:=zh (show I64 cc from zpy (by have:=gD.out;have:=aX.out;omega) hmem);have hnt:cc ∉ (zkl n).take j:=zrP hlt hcc;have lN:=zh (show(zkl n).take (j+1)=(zkl n).take j++[cc] by rw[List.take_succ_eq_append_getElem hlt,hcc]);obtain⟨q,hq⟩:∃ q,m cc=some q:=by
        have:=iR.out cc;rw[decide_eq_true hmem] at this;exact Option.isSome_iff_exists.1 this
       have fQ:=bX.out.seq cc q hnt hq;have hqm:=jf.out cc q hq;have vR:=zh (zsL fQ hqm.1 hqm.2.1 (Nat.le_of_lt bX.out.mlt) hqm.2.2);have hr:=bX.out.get dR.out hq;have hlq:lq m cc=lstQ q:=by unfold lq;rw[hq]
       have hqi:∀ y∈q.el,I64 y:=by obtain⟨v,hv⟩:=fQ;exact hv.i
       have HQL:=zh (show ∀ x,lstQ q=some x->(∀ y∈x,I64 y)/\x.length<=1000000 from fun x hx=>by
        obtain⟨a1,a2⟩:=ztG hx hqi;exact⟨a1,by omega⟩)
       have aY:=zh hlt2;obtain⟨R,hR⟩:∃ R,lstQ q=R:=⟨_,rfl⟩
       rw[hR] at vR hlq HQL;have o7:=zh hlq;have qN:=zh (ztc hlt hcc);clear hgd hmem hcc kI hlt hnt hq fQ hqm hlq hqi hR;go_wp2_with fail;refine vR.out.mono ?_;rintro e8 w8 ⟨hc8,h8⟩;have HC8:=zh hc8;have qf:=zh (show AF w8 mb mb (n+2) (fun c=>c ∉ (zkl n).take (j+1)) m F Bs from bX.out.keep hc8.size (fun c h1 h2=>h1 (by rw[lN.out];exact List.mem_append.2 (.inl h2))) fun g hg h=>hc8.block g hg fun h2=>by
        rcases h with e|⟨c,h3,h4⟩
        ·exact(bX.out.lo cc g h2).2.2 e
        ·refine bX.out.sep c cc g (fun e=>h3 ?_) h4 h2;rw[lN.out,e];exact List.mem_append.2 (.inr (List.mem_singleton.2 rfl)))
       have fu:=zh (aJ.out.trans2 hc8 fun b _ h=>.inr ⟨cc,h⟩);have mM:=zh (HRW.out.chg hc8 fun i b hb h=>by
        have h5:=((HRW.out.row i).lt b hb).1;have h6:=iy.out cc b h;have:=dL.out;omega)
       have bR:=zh (aR.out.trans (hc8.below aR.out.size fun b h=>by have:=(iy.out cc b h).1;have:=dM.out;omega));have qw:=hc8.keep pF.out fun h=>by have:=(iy.out cc _ h).1;have:=dM.out;omega
       have HK18:=zh qw;have cf:∀ o,w8.frozen? ⟨w.heap.size+1,o,none⟩=false:=fun o=>zf qw;have q0:w8.cell? ⟨w.heap.size+1,0,none⟩=some (.slice none 0 0):=zc qw rfl;have q1:w8.cell? ⟨w.heap.size+1,1,none⟩=some (.slice none 0 0):=zc qw rfl;have q2:w8.cell? ⟨w.heap.size+1,2,none⟩=some (.slice none 0 0):=zc qw rfl;have jT:=zh (show w7.heap.size<=wr.heap.size from aJ.out.size);clear hc8 qw vR hr z0 aJ bX pF aR;rcases R with _|x
       ·have h8:=h8;dsimp only at h8;subst h8;have dE:=zh (zoi aX.out HAE.out HMEM.out o7.out);have dS:=bR;have j6:=HK18;go_wp2_with fail;have hch:Chg (fun b=>b=w.heap.size+1) w8 (((w8.setCell ⟨w.heap.size+1,0,none⟩ (.slice none 0 0)).setCell ⟨w.heap.size+1,1,none⟩ (.slice none 0 0)).setCell ⟨w.heap.size+1,2,none⟩ (.slice none 0 0)) :=
         (((Chg.refl (fun b=>b=w.heap.size+1) w8).setCell (p:=⟨w.heap.size+1,0,none⟩) (.inl rfl) _).setCell (p:=⟨w.heap.size+1,1,none⟩) (.inl rfl) _).setCell (p:=⟨w.heap.size+1,2,none⟩) (.inl rfl) _
        have hh:=heap_setCell_same _ (w.heap.size+1) 2 _ _ (.slice none 0 0) (heap_setCell_same _ (w.heap.size+1) 1 _ _ (.slice none 0 0) (heap_setCell_same w8 (w.heap.size+1) 0 _ _ (.slice none 0 0) j6.out));obtain⟨w9,aZ⟩:∃ x,((w8.setCell ⟨w.heap.size+1,0,none⟩ (.slice none 0 0)).setCell ⟨w.heap.size+1,1,none⟩ (.slice none 0 0)).setCell ⟨w.heap.size+1,2,none⟩ (.slice none 0 0)=x:=⟨_,rfl⟩
        rw[aZ] at hch hh ⊢;have t0:w9.cell? ⟨w.heap.size+1,0,none⟩=some (.slice none 0 0):=zc hh (by simp);have t1:w9.cell? ⟨w.heap.size+1,1,none⟩=some (.slice none 0 0):=zc hh (by simp);have t2:w9.cell? ⟨w.heap.size+1,2,none⟩=some (.slice none 0 0):=zc hh (by simp);refine bodyPost_ret (v:=.tuple #[.agg #[.slice none 0 0,.slice none 0 0,.slice none 0 0],.int .i64 20]) (by simp[results,Tryz.results26,go_sem,t0,t1,t2]) rfl ⟨_,by rw[dE.out],dS.out.trans (hch.below dS.out.size fun b e=>by omega),by rw[dE.out];exact znv _ _⟩
       ·obtain⟨v8,rfl,iE⟩:=h8;obtain⟨jc,bN⟩:=HQL.out x rfl;have vw:=zh jc;have mH:=zh bN;have oW:=zh iE;obtain⟨A8,c8,rfl,-⟩:=zkb iE;have pO:=zh (show ∀ c∈(zkl n).take (j+1),∃ x,lq m c=some x/\∀ y∈x,I64 y from fun c hc=>by
         rw[lN.out] at hc;rcases List.mem_append.1 hc with h|h
         ·exact pQ.out c h
         ·rw[List.mem_singleton.1 h];exact⟨x,o7.out,vw.out⟩)
        have jA:lqD m cc=x:=by unfold lqD;rw[o7.out];rfl
        have HD:=zh (show ∀ b,(Value.slice A8 x.length c8).ownBlock=some b->∀ i,(zkM vc vi vo fc b3 ⟨(List.range n).map fun i:Nat=>lqD m (i:Int),if n<j then (lqD m (-1)).reverse else [],if n+1<j then lqD m (-2) else []⟩ (min j n) i).v.ownBlock≠some b from fun b hb i h=>by
         have h5:=(HRW.out.lt i b h).2;have h6:=(iE.lt b hb).1;omega)
        have jW:=zlO iE (show b3<=wr.heap.size by have:=pJ.out;have:=jT.out;omega);have qA:=zh (fun b h=>(iE.lt b h).1);clear iE jc bN cf q0 q1 q2 pQ;by_cases hjn:j<n
        ·have hce:=qN.out.1 hjn;subst hce;have e1:((j:Int) == -1)=false:=by rw[beq_eq_false_iff_ne];omega
         have e2:((j:Int) == -2)=false:=by rw[beq_eq_false_iff_ne];omega
         have fP:=mM.out;have iY:=HD.out;rw[if_neg (show ¬ n<j by omega),if_neg (show ¬ n+1<j by omega),Nat.min_eq_left (by omega)] at fP iY;obtain⟨Av,cv,dO,-⟩:=zkb (fP.row (some .all));change vc=.slice Av j cv at dO;subst dO;obtain⟨⟨c0,-,-⟩,cfz⟩:=zme fP;have hbz:=zkd (Below.refl w8.heap.size w8) (.cells #[.slice A8 x.length c8] 24);have c0':=zkj c0 (.cells #[.slice A8 x.length c8] 24);have kz:(w8.alloc (.cells #[.slice A8 x.length c8] 24)).cell? ⟨w8.heap.size,0,none⟩=some (.slice A8 x.length c8):=zc (heap_alloc_new w8 _) rfl;have hrow:(w8.alloc (.cells #[.slice A8 x.length c8] 24)).ownsRow b3 24 1 (.slice Av j cv) j ((List.range j).map fc):=zkt (fP.row (some .all)) hbz;have hgl:((List.range n).map fun i:Nat=>lqD m (i:Int)).getD j []=x:=by
          rw[List.getD_eq_getElem?_getD,List.getElem?_map,List.getElem?_range hjn];exact jA
         have HX:=zh (show ∀ v' w',w'.ownsRow b3 24 1 v' (j+1) ((List.range j).map fc++[.slice A8 x.length c8])->(w8.alloc (.cells #[.slice A8 x.length c8] 24)).grownBy w' (Value.slice Av j cv).ownBlock->(v'.ownBlock=(Value.slice Av j cv).ownBlock\/v'.ownBlock=some (w8.alloc (.cells #[.slice A8 x.length c8] 24)).heap.size)->∃ A' c',v'=.slice A' (j+1) c'/\(w'.cell? ⟨b3,0,none⟩=some (.slice Av j cv)/\∀ o,w'.frozen? ⟨b3,o,none⟩=false)/\Hid (Rws (w'.setCell ⟨b3,0,none⟩ v') b3 (zkM v' vi vo (fun i=>if i=j then .slice A8 x.length c8 else fc i) b3 ⟨(List.range n).map fun i:Nat=>lqD m (i:Int),[],[]⟩ (j+1)))/\Hid (Chg (fun b=>b=b3\/(Value.slice Av j cv).ownBlock=some b) w8 (w'.setCell ⟨b3,0,none⟩ v'))/\Hid (∀ b,v'.ownBlock=some b->w7.heap.size<=b) from fun v' w' ho hg ak=>by
          obtain⟨p1,p2,p3⟩:=zrc fP hgl jW iY ho hg ak;obtain⟨A',c',e',-⟩:=zkb ho;refine⟨A',c',e',p1,zh p2,zh p3,zh fun b hb=>?_⟩;rcases ak with h|h
          ·exact il.out b (h▸hb)
          ·rw[h] at hb;injection hb with hb;have h5:=hbz.size;have h6:=fu.out.size;omega)
         have hb38:b3<=(w8.alloc (.cells #[.slice A8 x.length c8] 24)).heap.size:=by have h5:=hbz.size;have h6:=fu.out.size;have:=pJ.out;omega
         have hjl:j+1<=5864062014805:=by have:=gD.out;have:=aX.out;omega
         have vU:=zh hjn;clear fP iY hgl hbz;go_upto_region 27 with fail;go_wp2_with (at_builtin;refine znl rfl (.tmp 89) (.tmp 91) rfl b3 (.slice Av j cv) j ((List.range j).map fc) rfl hrow ⟨w8.heap.size,0,none⟩ (.slice A8 x.length c8) rfl rfl kz hjl hb38 ?_;intro v' w' ho hg ak;obtain⟨A',c',rfl,⟨z1,zf⟩,HR9,HC9,HVC9⟩:=HX.out _ _ ho hg ak;clear ho hg ak)
         go_roundw
         case rel=>exact⟨j+1,by have:=aY.out;omega,by go_num,zh (fu.out.trans2 HC9.out fun b hlt e=>by
           rcases e with e|e
           ·exact .inl e
           ·have:=il.out b e;omega),zh (qf.out.keep HC9.out.size (fun _ h=>h) fun g hg h=>HC9.out.block g hg fun e=>by
           have h6:=dL.out;have h7:b3<=g:=by
            rcases e with e|e
            ·omega
            ·have:=il.out g e;have:=pJ.out;omega
           rcases h with h|⟨c,-,h⟩
           ·omega
           ·have:=iy.out c g h;omega),pO,_,_,_,_,(by rw[if_neg (show ¬ n<j+1 by have:=vU.out;omega),if_neg (show ¬ n+1<j+1 by have:=vU.out;omega),Nat.min_eq_left (by have:=vU.out;omega)];exact HR9),HVC9⟩
         case measure=>have:=aY.out;simp[intOf];omega
        ·by_cases hjn2:j=n
         ·have hce:=qN.out.2.1 hjn2;subst hce hjn2;have fP:=mM.out;have iY:=HD.out;rw[if_neg (show ¬ j<j by omega),if_neg (show ¬ j+1<j by omega),Nat.min_self] at fP iY;have tQ:=zh (znO (n0:=b3) (v:=.slice A8 x.length c8) (xs:=x) w8 jW (by have:=mH.out;unfold LI;omega));go_wp2_with fail;refine tQ.out.mono ?_;rintro e9 w9 ⟨⟨u9,rfl⟩,dz,iZ⟩;have eD:=fP.chg iZ fun i b hb h=>iY b h i hb;obtain⟨⟨-,c0,-⟩,cfz⟩:=zme eD;have oQ:=zh (zt5 eD dz iY);have hst:=(Chg.refl (fun b=>b=b3) w9).setCell (p:=⟨b3,1,none⟩) (.inl rfl) (.slice A8 x.length c8);have kv:=zh ((fu.out.trans2 iZ fun b hlt e=>by have h5:=qA.out b e;have:=jT.out;omega).trans2 hst fun b _ e=>.inl e);have kH:=zh (qf.out.keep (Nat.le_trans iZ.size hst.size) (fun _ h=>h) fun g hg h=>by
           have h6:=dL.out;have h7:g<b3:=by
            rcases h with h|⟨c,-,h⟩
            ·omega
            ·have:=iy.out c g h;omega
           exact(hst.block g (Nat.lt_of_lt_of_le hg iZ.size) (by omega)).trans (iZ.block g hg fun e=>by have:=qA.out g e;have:=jT.out;have:=pJ.out;omega))
          have HQ:=zh jA;clear fP iY tQ dz iZ eD hst jA;go_wp2_with fail
          go_roundw
          case measure=>first|(simp[intOf];done)|(simp[intOf];omega)
          case rel=>exact⟨j+1,by have:=aY.out;omega,by go_num,kv,kH,pO,_,_,_,_,(by rw[if_pos (Nat.lt_succ_self j),if_neg (Nat.lt_irrefl _),Nat.min_eq_right (Nat.le_succ j),HQ.out];exact oQ),il⟩
         ·have hjn3:j=n+1:=by omega
          have hce:=qN.out.2.2 hjn3;subst hce hjn3;have fP:=mM.out;have iY:=HD.out;rw[if_pos (Nat.lt_succ_self n),if_neg (Nat.lt_irrefl _),Nat.min_eq_right (Nat.le_succ n)] at fP iY;have iZ:Chg (fun b=>(Value.slice A8 x.length c8).ownBlock=some b) w8 w8:=Chg.refl _ _;obtain⟨⟨-,-,c0⟩,cfz⟩:=zme fP;have oQ:=zh (zsE fP jW iY);have hst:=(Chg.refl (fun b=>b=b3) w8).setCell (p:=⟨b3,2,none⟩) (.inl rfl) (.slice A8 x.length c8);have kv:=zh ((fu.out.trans2 iZ fun b hlt e=>by have h5:=qA.out b e;have:=jT.out;omega).trans2 hst fun b _ e=>.inl e);have kH:=zh (qf.out.keep (Nat.le_trans iZ.size hst.size) (fun _ h=>h) fun g hg h=>by
           have h6:=dL.out;have h7:g<b3:=by
            rcases h with h|⟨c,-,h⟩
            ·omega
            ·have:=iy.out c g h;omega
           exact(hst.block g (Nat.lt_of_lt_of_le hg iZ.size) (by omega)).trans (iZ.block g hg fun e=>by have:=qA.out g e;have:=jT.out;have:=pJ.out;omega))
          have HQ:=zh jA;have e1:((-2:Int) == -1)=false:=by decide
          have hwj:IntKind.i64.wrap ((n:Int)+1+1)=(n:Int)+1+1:=IntWalk.i64_in _ (by have:=gD.out;have:=aX.out;omega);clear fP iY iZ hst jA;go_wp2_with fail
          go_roundw
          case rel=>exact⟨n+1+1,by have:=aY.out;omega,by go_num,kv,kH,pO,_,_,_,_,(by rw[if_pos (show n<n+1+1 by omega),if_pos (Nat.lt_succ_self (n+1)),Nat.min_eq_right (show n<=n+1+1 by omega),HQ.out];exact oQ),il⟩
          case measure=>have:=aY.out;simp[intOf];omega
      ·obtain rfl:j=n+2:=by omega
       have hj1:¬ ((n+2:Nat):Int)<((n:Nat):Int)+2:=by omega
       have hj2:¬ ((n+2:Nat):Int)<((n+2:Nat):Int):=by omega
       have eD:=HRW.out;rw[if_pos (show n<n+2 by omega),if_pos (show n+1<n+2 by omega),Nat.min_eq_right (show n<=n+2 by omega)] at eD;have hdn:=pQ.out;rw[List.take_of_length_le (by rw[aQ.out];exact Nat.le_refl _)] at hdn;have dE:=zh (zoj aX.out HAE.out fun c hc=>⟨_,(hdn c hc).choose_spec.1⟩);have HII:=zh (show(⟨(List.range n).map fun i:Nat=>lqD m (i:Int),(lqD m (-1)).reverse,lqD m (-2)⟩:SS).I from by
        have key:∀ c∈zkl n,∀ y∈lqD m c,I64 y:=fun c hc y hy=>by
         obtain⟨x,h1,h2⟩:=hdn c hc;unfold lqD at hy;rw[h1] at hy;exact h2 y hy
        refine⟨fun ls hl y hy=>?_,fun y hy=>key (-1) (by simp[zkl]) y (List.mem_reverse.1 hy),key (-2) (by simp[zkl])⟩;obtain⟨i,hi,rfl⟩:=List.mem_map.1 hl;exact key (i:Int) (List.mem_append.2 (.inl (List.mem_map.2 ⟨i,hi,rfl⟩))) y hy)
       obtain⟨⟨c0,c1,c2⟩,-⟩:=zme eD;have hre:=znq (s:=⟨(List.range n).map fun i:Nat=>lqD m (i:Int),(lqD m (-1)).reverse,lqD m (-2)⟩) (by simpa using eD);obtain⟨w9,rfl⟩:∃ x,x=wr:=⟨_,rfl⟩
       have aD:=pF.out;have cf:∀ o,w9.frozen? ⟨w.heap.size+1,o,none⟩=false:=fun o=>zf aD;have q0:w9.cell? ⟨w.heap.size+1,0,none⟩=some (.slice none 0 0):=zc aD rfl;have q1:w9.cell? ⟨w.heap.size+1,1,none⟩=some (.slice none 0 0):=zc aD rfl;have q2:w9.cell? ⟨w.heap.size+1,2,none⟩=some (.slice none 0 0):=zc aD rfl;have bO:=zh hre;have hne:(⟨b3,0,none⟩:Addr).block≠w.heap.size+1:=by have:=dM.out;have:=dL.out;show b3≠_;omega
       have HII2:=HII;obtain⟨Av,cv,dO,-⟩:=zkb (eD.row (some .all));obtain⟨Ai,ci,jo,-⟩:=zkb (eD.row (some .inp));obtain⟨Ao,co,kJ,-⟩:=zkb (eD.row (some .out));change vc=.slice Av n cv at dO;change vi=.slice Ai (lqD m (-1)).reverse.length ci at jo;rw[List.length_reverse] at jo;change vo=.slice Ao (lqD m (-2)).length co at kJ;subst dO jo kJ;have j4:=zh aD;clear eD hdn hre aD HII2;go_wp2_with fail;have hch:Chg (fun b=>b=w.heap.size+1) w9 (((w9.setCell ⟨w.heap.size+1,0,none⟩ (.slice Av n cv)).setCell ⟨w.heap.size+1,1,none⟩ (.slice Ai (lqD m (-1)).length ci)).setCell ⟨w.heap.size+1,2,none⟩ (.slice Ao (lqD m (-2)).length co)) :=
        (((Chg.refl (fun b=>b=w.heap.size+1) w9).setCell (p:=⟨w.heap.size+1,0,none⟩) (.inl rfl) _).setCell (p:=⟨w.heap.size+1,1,none⟩) (.inl rfl) _).setCell (p:=⟨w.heap.size+1,2,none⟩) (.inl rfl) _
       have hh:=heap_setCell_same _ (w.heap.size+1) 2 _ _ (.slice Ao (lqD m (-2)).length co) (heap_setCell_same _ (w.heap.size+1) 1 _ _ (.slice Ai (lqD m (-1)).length ci) (heap_setCell_same w9 (w.heap.size+1) 0 _ _ (.slice Av n cv) j4.out));obtain⟨aT,cZ⟩:∃ x,((w9.setCell ⟨w.heap.size+1,0,none⟩ (.slice Av n cv)).setCell ⟨w.heap.size+1,1,none⟩ (.slice Ai (lqD m (-1)).length ci)).setCell ⟨w.heap.size+1,2,none⟩ (.slice Ao (lqD m (-2)).length co)=x:=⟨_,rfl⟩
       rw[cZ] at hch hh ⊢;have t0:aT.cell? ⟨w.heap.size+1,0,none⟩=some (.slice Av n cv):=zc hh (by simp);have t1:aT.cell? ⟨w.heap.size+1,1,none⟩=some (.slice Ai (lqD m (-1)).length ci):=zc hh (by simp);have t2:aT.cell? ⟨w.heap.size+1,2,none⟩=some (.slice Ao (lqD m (-2)).length co):=zc hh (by simp);have hrw:=bO.out.chg hch fun i b hb e=>by have:=(bO.out.lt i b hb).1;have:=dM.out;have:=dL.out;omega
       refine bodyPost_ret (v:=.tuple #[.agg #[.slice Av n cv,.slice Ai (lqD m (-1)).length ci,.slice Ao (lqD m (-2)).length co],.int .i64 0]) (by simp[results,Tryz.results26,go_sem,t0,t1,t2]) rfl ⟨_,by rw[dE.out],aR.out.trans (hch.below aR.out.size fun b e=>by omega),by rw[dE.out];exact⟨_,_,_,_,rfl,hrw.mono (by have:=dM.out;have:=dL.out;omega),HII.out⟩⟩
def atE:SS->List (List CH)->Int×SS
 | x,[]=>(0,x)
 | x,e::es=>if (zkw x e).1≠0 then ((zkw x e).1,⟨[],[],[]⟩) else atE (zkw x e).2 es
theorem znf:∀ (x:SS) (es:List (List CH)) (e:List CH),(atE x es).1=0->atE x (es++[e])=if (zkw (atE x es).2 e).1≠0 then ((zkw (atE x es).2 e).1,⟨[],[],[]⟩) else (0,(zkw (atE x es).2 e).2)
 | x,[],e,_=>rfl
 | x,a::es,e,h=>by
  rw[atE] at h;rw[List.cons_append,atE,atE]
  split at h
  ·rename_i h1;exact absurd h h1
  ·rename_i h1;rw[if_neg h1,if_neg h1];exact znf _ es e h
theorem zoG:∀ (x:SS) (es fs:List (List CH)),(atE x es).1≠0->atE x (es++fs)=atE x es
 | x,[],_,h=>absurd rfl h
 | x,a::es,fs,h=>by
  rw[atE] at h;rw[List.cons_append,atE,atE]
  split
  ·rfl
  ·rename_i h1;rw[if_neg h1] at h;exact zoG _ es fs h
theorem zmY (x:SS) (l:List CH) (h:(zkw x l).1≠0):(zkw x l).2=⟨[],[],[]⟩:=by
 unfold zkw at h ⊢
 split
 ·rfl
 ·rename_i h1;rw[if_neg h1] at h
  split at h
  ·rfl
  ·exact absurd rfl h
structure zmr (n:Nat) (x:SS):Prop where
 n:x.cells.length=n
 row:∀ l∈x.cells,l.length<=4096
 tin:x.tin.length<=4096
 tout:x.tout.length<=4096
 i:x.I
theorem zmr.sm {n:Nat} {x:SS} (h:zmr n x) (hn:n<=1000000):x.Sm:=⟨by rw[h.n];exact hn,fun l hl=>by have:=h.row l hl;omega,by have:=h.tin;omega,by have:=h.tout;omega⟩
theorem zmr.part {n:Nat} {x:SS} (h:zmr n x) (c:Int):(part x c).length<=4096:=by
 unfold Go.Proofs.YtckhofdinldhpaaGreat.part
 split
 ·rw[List.length_reverse];exact h.tin
 ·split
  ·exact h.tout
  ·rw[List.getD_eq_getElem?_getD];rcases hk:x.cells[c.toNat]? with _|l
   ·simp
   ·exact h.row l (List.mem_of_getElem? hk)
structure QB (n:Nat) (m:QM):Prop where
 dom:∀ c,(m c).isSome=true↔c∈zkl n
 len:∀ c q,m c=some q->0<=q.len/\q.len<=4096/\∀ y∈q.el,I64 y
theorem QB.of {n:Nat} {x:SS} (h:zmr n x):QB n (QM.of x) where
 dom:=fun c=>by
  unfold QM.of;rw[h.n]
  split
  ·rename_i h1;simp[h1]
  ·rename_i h1;simp[h1]
 len:=fun c q hq=>by
  unfold QM.of at hq
  split at hq
  ·injection hq with hq;subst hq;have:=h.part c;exact⟨by simp only;omega,by simp only;omega,zn1 h.i c⟩
  ·cases hq
theorem zuq {q:SQ} {c:CH} (h:0<=q.len/\q.len<=4096/\∀ y∈q.el,I64 y) (hc:c.I) (h0:(chgQ q c).1=0):0<=(chgQ q c).2.len/\(chgQ q c).2.len<=4096/\∀ y∈(chgQ q c).2.el,I64 y:=by
 obtain⟨h1,h2,h3⟩:=h;unfold chgQ at h0 ⊢
 split at h0
 ·simp at h0
 ·rename_i g1;rw[if_neg g1]
  split at h0
  ·simp at h0
  ·rename_i g2;rw[if_neg g2]
   split at h0
   ·simp at h0
   ·rename_i g3;rw[if_neg g3]
    split at h0
    ·rename_i g4;rw[if_pos g4];exact⟨by simp only;omega,by simp only;omega,h3⟩
    ·rename_i g4;rw[if_neg g4]
     split at h0
     ·simp at h0
     ·rename_i g5;rw[if_neg g5];refine⟨h1,h2,fun y hy=>?_⟩;rcases List.mem_or_eq_of_mem_set hy with h|rfl
      ·unfold ext at h;rcases List.mem_append.1 h with h|h
       ·exact h3 y h
       ·obtain⟨-,rfl⟩:=List.mem_replicate.1 h;exact⟨by decide,by decide⟩
      ·exact hc.2.2.2
theorem zo9 {n:Nat}:∀ (l:List CH) (m:QM),QB n m->(∀ c∈l,c.I)->(zlh m l).1=0->QB n (zlh m l).2
 | [],m,h,_,_=>h
 | c::l,m,h,hc,h0=>by
  rw[zlh] at h0 ⊢
  cases hq:m c.cell with
  | none=>rw[hq] at h0;simp at h0
  | some q =>
   rw[hq] at h0;simp only at h0 ⊢
   split at h0
   ·rename_i h1;exact absurd h0 h1
   ·rename_i h1;rw[if_neg h1];have h1:(chgQ q c).1=0:=by simpa using h1
    refine zo9 l _ ⟨fun d=>?_,fun d q' hq'=>?_⟩ (fun d hd=>hc d (List.mem_cons_of_mem _ hd)) h0
    ·by_cases e:d=c.cell
     ·subst e;rw[QM.put_same,<-h.dom,hq];simp
     ·rw[<-h.dom]
      show(if d=c.cell then _ else _:Option SQ).isSome=true↔_
      rw[if_neg e]
    ·by_cases e:d=c.cell
     ·have hq':some (chgQ q c).2=some q':=(if_pos e).symm.trans hq';injection hq' with hq';subst hq';exact zuq (h.len _ _ hq) (hc c (List.mem_cons_self ..)) h1
     ·exact h.len d q' ((if_neg e).symm.trans hq')
theorem zlW {n:Nat} {x:SS} {l:List CH} (h:zmr n x) (hl:∀ c∈l,c.I) (h0:(zkw x l).1=0):zmr n (zkw x l).2:=by
 obtain⟨R,hR⟩:∃ R,zlh (QM.of x) l=R:=⟨_,rfl⟩
 obtain⟨er,m⟩:=R;by_cases he:er=0
 ·subst he;have hb:=zo9 l _ (QB.of h) hl (by rw[hR]);rw[hR] at hb;simp only at hb;by_cases hall:∀ c∈zkl n,∃ y,lq m c=some y
  ·rw[zoj h.n hR hall];have key:∀ c∈zkl n,(lqD m c).length<=4096/\∀ y∈lqD m c,I64 y:=fun c hc=>by
    obtain⟨y,hy⟩:=hall c hc;obtain⟨q,hq⟩:=Option.isSome_iff_exists.1 ((hb.dom c).2 hc);have hyq:lstQ q=some y:=by unfold lq at hy;rw[hq] at hy;exact hy
    obtain⟨g1,g2,g3⟩:=hb.len c q hq;obtain⟨g4,g5⟩:=ztG hyq g3;have hd:lqD m c=y:=by unfold lqD;rw[hy];rfl
    rw[hd];exact⟨by omega,g4⟩
   have k1:=key (-1) (by simp[zkl]);have k2:=key (-2) (by simp[zkl]);have kc:∀ l∈(List.range n).map (fun i:Nat=>lqD m (i:Int)),l.length<=4096/\∀ y∈l,I64 y:=fun l hl=>by
    obtain⟨i,hi,rfl⟩:=List.mem_map.1 hl;exact key (i:Int) (List.mem_append.2 (.inl (List.mem_map.2 ⟨i,hi,rfl⟩)))
   exact⟨by simp,fun l hl=>(kc l hl).1,by rw[List.length_reverse];exact k1.1,k2.1,fun l hl=>(kc l hl).2,fun y hy=>k1.2 y (List.mem_reverse.1 hy),k2.2⟩
  ·rw[Classical.not_forall] at hall;obtain⟨c,hc⟩:=hall;rw[Classical.not_imp] at hc;obtain⟨hc,hn⟩:=hc;have hn:lq m c=none:=by
    cases hq:lq m c with
    | none=>rfl
    | some y=>exact absurd ⟨y,hq⟩ hn
   rw[zoi h.n hR hc hn] at h0
   cases h0
 ·unfold zkw at h0;rw[hR,if_pos he] at h0;exact absurd h0 he
theorem zng {n:Nat}:∀ (x:SS) (es:List (List CH)),zmr n x->(∀ e∈es,∀ c∈e,c.I)->(atE x es).1=0->zmr n (atE x es).2
 | x,[],h,_,_=>h
 | x,e::es,h,hc,h0=>by
  rw[atE] at h0 ⊢
  split at h0
  ·rename_i h1;exact absurd h0 h1
  ·rename_i h1;rw[if_neg h1];exact zng _ es (zlW h (hc e (List.mem_cons_self ..)) (by simpa using h1)) (fun f hf=>hc f (List.mem_cons_of_mem _ hf)) h0
def RowE (w:World) (S:Nat->Prop) (A:Option Addr) (es:List (List CH)):Prop :=
 ∀ i (hi:i<es.length),∃ (a:Addr) (A':Option Addr) (c':Nat),A=some a/\S a.block/\w.cell? (a.add i)=some (.slice A' es[i].length c')/\es[i].length<=c'/\RowC w S A' es[i]
theorem RowE.keep {w w':World} {S S':Nat->Prop} {A:Option Addr} {es:List (List CH)} (h:RowE w S A es) (hS:∀ b,S b->b<w.heap.size->S' b) (hk:∀ b,S b->b<w.heap.size->w'.heap[b]?=w.heap[b]?):RowE w' S' A es:=fun i hi=>by
 obtain⟨a,A',c',h1,h2,h3,h4,h5⟩:=h i hi;have hlt:a.block<w.heap.size:=by have:=World.block_lt_of_cell? w _ h3;rwa[zkn] at this
 exact⟨a,A',c',h1,hS _ h2 hlt,zkG h3 (by rw[zkn];exact hk _ h2 hlt),h4,h5.keep hS hk⟩
theorem RowE.later {w w':World} {S:Nat->Prop} {A:Option Addr} {es:List (List CH)} (h:RowE w S A es) (hb:Below w.heap.size w w'):RowE w' S A es:=h.keep (fun _ h _=>h) fun b _ hlt=>hb.block b hlt
def Cb (n0 b:Nat):Nat->Prop:=fun q=>n0<=q/\q≠b
structure Cu (W:World) (n0 b:Nat) (s0 x:SS) (es:List (List CH)) (pos:Nat):Prop where
 box:∃ f1 f2 f3 g1 g2 g3 A c,W.heap[b]?=some (.cells #[f1,f2,f3,g1,g2,g3,.slice A es.length c,.int .i64 (pos:Int)] 140 (0,0))/\SV W (Cb n0 b) s0 (.agg #[f1,f2,f3])/\SV W (Cb n0 b) x (.agg #[g1,g2,g3])/\RowE W (Cb n0 b) A es/\es.length<=c
 nb:n0<=b
theorem Cu.keep {W W':World} {n0 b:Nat} {s0 x:SS} {es:List (List CH)} {pos:Nat} (h:Cu W n0 b s0 x es pos) (hk:∀ q,n0<=q->q<W.heap.size->W'.heap[q]?=W.heap[q]?):Cu W' n0 b s0 x es pos:=by
 obtain⟨⟨f1,f2,f3,g1,g2,g3,A,c,h1,h2,h3,h4,h5⟩,hn⟩:=h;exact⟨⟨f1,f2,f3,g1,g2,g3,A,c,(hk b hn (zko h1)).trans h1,h2.keep (fun _ h _=>h) fun q hq=>hk q hq.1,h3.keep (fun _ h _=>h) fun q hq=>hk q hq.1,h4.keep (fun _ h _=>h) fun q hq=>hk q hq.1,h5⟩,hn⟩
theorem Cu.later {W W':World} {n0 b:Nat} {s0 x:SS} {es:List (List CH)} {pos:Nat} (h:Cu W n0 b s0 x es pos) (hb:Below W.heap.size W W'):Cu W' n0 b s0 x es pos:=h.keep fun q _ hlt=>hb.block q hlt
def EvOk (es:List (List CH)):Prop:=es.length<=1000000/\∀ e∈es,(∀ c∈e,c.I)/\e.length<=4398046511103
theorem SV.slices {W:World} {S:Nat->Prop} {s:SS} {v:Value} (h:SV W S s v):∃ A c B d D e,v=.agg #[.slice A s.cells.length c,.slice B s.tin.length d,.slice D s.tout.length e]:=by
 obtain⟨A,c,B,d,D,e,rfl,-⟩:=h;exact⟨A,c,B,d,D,e,rfl⟩
theorem zt0 (w:World) (S:Nat->Prop):SV w S ⟨[],[],[]⟩ (.agg #[.slice none 0 0,.slice none 0 0,.slice none 0 0]):=by
 refine⟨none,0,none,0,none,0,rfl,fun i hi=>(by simp at hi),fun i hi=>(by simp at hi),fun i hi=>(by simp at hi),Nat.le_refl _,Nat.le_refl _,Nat.le_refl _,⟨Nat.zero_le _,fun l hl=>(by cases hl),Nat.zero_le _,Nat.zero_le _⟩⟩
theorem set3 {W:World} {b:Nat} {a0 a1 a2:Value} {ty:TypeId} (v0 v1 v2:Value) (h:W.heap[b]?=some (.cells #[a0,a1,a2] ty (0,0))) :
  ∃ W',((W.setCell ⟨b,0,none⟩ v0).setCell ⟨b,1,none⟩ v1).setCell ⟨b,2,none⟩ v2=W'/\Chg (fun q=>q=b) W W'/\W'.heap[b]?=some (.cells #[v0,v1,v2] ty (0,0)):=by
 have hch:Chg (fun q=>q=b) W (((W.setCell ⟨b,0,none⟩ v0).setCell ⟨b,1,none⟩ v1).setCell ⟨b,2,none⟩ v2) :=
  (((Chg.refl (fun q=>q=b) W).setCell (p:=⟨b,0,none⟩) (.inl rfl) _).setCell (p:=⟨b,1,none⟩) (.inl rfl) _).setCell (p:=⟨b,2,none⟩) (.inl rfl) _
 have hh:=heap_setCell_same _ b 2 _ _ v2 (heap_setCell_same _ b 1 _ _ v1 (heap_setCell_same W b 0 _ _ v0 h));exact⟨_,rfl,hch,by simpa using hh⟩
def AtP (W:World) (R:Int×SS) (e:Ending) (W':World):Prop:=Below W.heap.size W W'/\∃ v,e=.returned (.tuple #[v,.int .i64 R.1])/\SV W' (fun q=>W.heap.size<=q) R.2 v
theorem zu6 {W:World} {n0 b:Nat} {s0 x:SS} {es:List (List CH)} {pos:Nat} (h:Cu W n0 b s0 x es pos) (k:Nat) (hk:k<=es.length) {n:Nat} (hg:zmr n s0) (hn:n<=1000) (hes:EvOk es) :
  Calls Tryz.prog 81 #[.pointer (some ⟨b,0,none⟩),.int .i64 (k:Int)] W (AtP W (atE s0 (es.take k))):=by
 obtain⟨⟨f1,f2,f3,g1,g2,g3,A,c,hbx,hf,hx,hr,hc⟩,hnb⟩:=h;obtain⟨A1,c1,B1,d1,D1,e1,he1⟩:=hf.slices;injection he1 with he1;simp only[Array.mk.injEq,List.cons.injEq,and_true] at he1;obtain⟨rfl,rfl,rfl⟩:=he1;have h2:=bSt0;have ax:=zh hbx;have HF:=zh hf;have HR:=zh hr;have HG:=zh hg;have HN:=zh hn;have dP:=zh hes;have HK:=zh hk;have HC:=zh hc;obtain⟨R,hR⟩:∃ R,atE s0 (es.take k)=R:=⟨_,rfl⟩
 have HRR:=zh hR;rw[hR];have k4:=heap_alloc_new W (.cells #[.slice none 0 0,.slice none 0 0,.slice none 0 0] 26);have hb4:=zkd (Below.refl W.heap.size W) (.cells #[.slice none 0 0,.slice none 0 0,.slice none 0 0] 26);clear hbx hf hx hr hc hg hn hes hk hR;go_enter Tryz.func81,Tryz.ntmps81;go_upto_region 1 with fail;obtain⟨w4,hw4⟩:∃ x,W.alloc (.cells #[.slice none 0 0,.slice none 0 0,.slice none 0 0] 26)=x:=⟨_,rfl⟩
 rw[hw4] at k4 hb4;rw[hw4];have az:=zh hb4;have kR:=zh k4;have hb:=zkc ax.out hb4;have y0:w4.cell? ⟨b,0,none⟩=some (.slice A1 s0.cells.length c1):=zc hb rfl;have y1:w4.cell? ⟨b,1,none⟩=some (.slice B1 s0.tin.length d1):=zc hb rfl;have y2:w4.cell? ⟨b,2,none⟩=some (.slice D1 s0.tout.length e1):=zc hb rfl;have aQ:=zh (znj s0 _ w4 ((HF.out.keep (S':=Any) (fun _ _ _=>trivial) fun _ _ _=>rfl).later hb4) (by rw[HG.out.n];have:=HN.out;omega));clear hw4 k4 hb4 hb;go_wp2_with fail;refine aQ.out.mono ?_;rintro e5 w5 ⟨v5,rfl,bY,hb5⟩;obtain⟨A5,c5,B5,d5,D5,e5,rfl⟩:=(bY.sv (HG.out.sm (by have:=HN.out;omega)).lim).slices;have k6:=heap_alloc_new w5 (.cells #[.slice A5 s0.cells.length c5,.slice B5 s0.tin.length d5,.slice D5 s0.tout.length e5] 26);have hb6:=zkd (Below.refl w5.heap.size w5) (.cells #[.slice A5 s0.cells.length c5,.slice B5 s0.tin.length d5,.slice D5 s0.tout.length e5] 26)
 have kC:=zh hb5;have fq:=zh (bY.svR (HG.out.sm (by have:=HN.out;omega)).lim);clear y0 y1 y2 aQ bY hb5;go_upto_region 2 with fail;obtain⟨w6,eP⟩:∃ x,w5.alloc (.cells #[.slice A5 s0.cells.length c5,.slice B5 s0.tin.length d5,.slice D5 s0.tout.length e5] 26)=x:=⟨_,rfl⟩
 obtain⟨sb,hsb⟩:∃ x,w5.heap.size=x:=⟨_,rfl⟩
 rw[eP] at k6 hb6;have HB56:=zh hb6;rw[eP,hsb];have iK:=zh hsb;rw[hsb] at k6;have lY:=zh k6;have dD:=zh (zka (zka az.out kC.out) hb6);have HSV6:=zh (fq.out.keep (S':=fun q=>W.heap.size<q/\q≠sb) (fun q h1 h2=>by have h3:=zko kR.out;have h4:=iK.out;have h1:w4.heap.size<=q:=h1;exact⟨by omega,by omega⟩) fun q _ hlt=>hb6.block q hlt);have hb:=zkc ax.out dD.out;have y6:w6.cell? ⟨b,6,none⟩=some (.slice A es.length c):=zc hb rfl;have oP:=zh (HR.out.later dD.out);have HK46:=zh (zkc kR.out (zka kC.out hb6));have hkc:(k:Int)<=(c:Int):=by have:=HK.out;have:=HC.out;omega
 have hk0:(0:Int)<=(k:Int):=by omega
 clear k6 hb6 eP hsb hb;go_wp2_with fail
 go_loopw [23] (fun i wr=>∃ j:Nat,j<=k/\i=.int .i64 j/\Hid (Chg (fun q=>q=sb) w6 wr)/\∃ x Ax cx Bx dx Dx ex,Hid (atE s0 (es.take j)=(0,x))/\Hid (wr.heap[sb]?=some (.cells #[.slice Ax x.cells.length cx,.slice Bx x.tin.length dx,.slice Dx x.tout.length ex] 26 (0,0)))/\Hid (SV wr (fun q=>W.heap.size<q/\q≠sb) x (.agg #[.slice Ax x.cells.length cx,.slice Bx x.tin.length dx,.slice Dx x.tout.length ex]))) (fun i _=>k-(intOf i).toNat)
 case atStart=>exact⟨0,Nat.zero_le _,rfl,zh (Chg.refl _ _),s0,_,_,_,_,_,_,zh rfl,lY,HSV6⟩
 case round =>
  clear lY HSV6 y6;obtain⟨j,hj,rfl,aJ,x,Ax,cx,Bx,dx,Dx,ex,ig,HXB,eZ⟩:=hrel;have jT:=zh (show W.heap.size<sb by have h1:=(zka az.out kC.out).size;have h2:=iK.out;have h3:=zko kR.out;have h4:=kC.out.size;omega);have aR:=zh (dD.out.trans (aJ.out.below dD.out.size fun q e=>by have e:q=sb:=e;have:=jT.out;omega));have r9:=zh (aJ.out.keep HK46.out fun e=>by have e:W.heap.size=sb:=e;have:=jT.out;omega);obtain⟨x0,x1,x2⟩:=zlp HXB.out;have hk4:=r9.out;have cf:∀ o,wr.frozen? ⟨W.heap.size,o,none⟩=false:=fun o=>zf hk4;have q0:wr.cell? ⟨W.heap.size,0,none⟩=some (.slice none 0 0):=zc hk4 rfl;have q1:wr.cell? ⟨W.heap.size,1,none⟩=some (.slice none 0 0):=zc hk4 rfl;have q2:wr.cell? ⟨W.heap.size,2,none⟩=some (.slice none 0 0):=zc hk4 rfl;by_cases hlt:j<k
  ·clear cf q0 q1 q2 hk4;have hj1:(j:Int)<(k:Int):=by omega
   have hj0:(0:Int)<=(j:Int):=by omega
   have bA:j<es.length:=by have:=HK.out;omega
   have iC:IntKind.i64.wrap ((j:Int)+1)=(j:Int)+1:=IntWalk.i64_in _ (by have:=dP.out.1;omega);obtain⟨a,A',c',eA,-,hce,-,hrc⟩:=(HR.out.later aR.out) j bA;obtain⟨hci,hcl⟩:=dP.out.2 _ (List.getElem_mem bA);have hgx:=zng s0 (es.take j) HG.out (fun e he=>(dP.out.2 e (List.mem_of_mem_take he)).1) (by rw[ig.out]);rw[ig.out] at hgx;have hsn:=znf s0 (es.take j) es[j] (by rw[ig.out]);rw[<-List.take_succ_eq_append_getElem bA,ig.out] at hsn;obtain⟨E,hE⟩:∃ E,es[j]=E:=⟨_,rfl⟩
   rw[hE] at hce hrc hci hcl hsn;have dE:=zh (zmC x E _ A' c' wr (eZ.out.keep (S':=Any) (fun _ _ _=>trivial) fun _ _ _=>rfl) (hgx.sm (by have:=HN.out;omega)) (hrc.keep (S':=Any) (fun _ _ _=>trivial) fun _ _ _=>rfl) hci hcl);have fD:=fun h0=>zlW (l:=E) hgx hci h0;have fB:=zmY x E;obtain⟨R1,jN⟩:∃ R1,zkw x E=R1:=⟨_,rfl⟩
   unfold AplP at dE;rw[jN] at dE hsn fD fB;obtain⟨er,y⟩:=R1;simp only at hsn fD dE fB;have tK:=zh fB;have qF:=zh hsn;have su:=zh fD;have aY:=zh hlt;subst eA;clear hgx hsn hE hrc hci hcl jN fD bA hlt fB;go_wp2_with fail;refine dE.out.mono ?_;rintro e7 w7 ⟨v7,rfl,bH,iX⟩;have hyl:y.Lim:=by
    by_cases h0:er=0
    ·exact((su.out h0).sm (by have:=HN.out;omega)).lim
    ·rw[tK.out h0];exact⟨Nat.zero_le _,fun l hl=>(by cases hl),Nat.zero_le _,Nat.zero_le _⟩
   obtain⟨Ay,cy,By,dy,Dy,ey,rfl⟩:=(iX.sv hyl).slices;have rJ:=zh hyl;have k8:=heap_alloc_new w7 (.cells #[.slice Ay y.cells.length cy,.slice By y.tin.length dy,.slice Dy y.tout.length ey] 26);have eU:=zkd (Below.refl w7.heap.size w7) (.cells #[.slice Ay y.cells.length cy,.slice By y.tin.length dy,.slice Dy y.tout.length ey] 26);have gL:=zh bH;have mV:=zh iX;clear bH iX hyl x0 x1 x2;go_upto_region 6 with fail;obtain⟨w8,hw8⟩:∃ x,w7.alloc (.cells #[.slice Ay y.cells.length cy,.slice By y.tin.length dy,.slice Dy y.tout.length ey] 26)=x:=⟨_,rfl⟩
   rw[hw8] at k8 eU;rw[hw8];have bR:=zh (zka gL.out eU);have qA:=zh ((mV.out.svR rJ.out).keep (S':=fun q=>W.heap.size<q/\q≠sb) (fun q h1 h2=>by have h3:=zko HXB.out;have h4:=jT.out;exact⟨by omega,by omega⟩) fun q _ hlt=>eU.block q hlt);have oF:=zh (zkc HXB.out bR.out);have pq:=zh (zkc r9.out bR.out);have vG:=zh (show sb≠w7.heap.size by have h3:=zko HXB.out;have h4:=gL.out.size;omega);have mH:=zh (zko HXB.out);obtain⟨nb,hnb⟩:∃ x,w7.heap.size=x:=⟨_,rfl⟩
   rw[hnb] at k8 vG;rw[hnb];have HK8:=zh k8;clear hnb k8 eU hw8 gL mV;by_cases h0:er=0
   ·subst h0;have HSN':=zh (show atE s0 (es.take (j+1))=(0,y) by rw[qF.out];simp);obtain⟨y0,y1,y2⟩:=zlp HK8.out;obtain⟨x0,x1,x2⟩:=zlp oF.out;have cf:∀ o,w8.frozen? ⟨sb,o,none⟩=false:=fun o=>zf oF.out;obtain⟨w9,aZ,hch,hh⟩:=set3 (.slice Ay y.cells.length cy) (.slice By y.tin.length dy) (.slice Dy y.tout.length ey) oF.out;have bQ:=zh hch;have gH:=zh hh;have lM:=zh aZ;clear hch hh aZ qF su tK;go_wp2_with fail;rw[lM.out];exact⟨⟨j+1,by have:=aY.out;omega,by go_num,zh ((aJ.out.trans2 (Chg.of_below (C:=fun q=>q=sb) bR.out) fun _ _ h=>h).trans2 bQ.out fun _ _ h=>h),y,Ay,cy,By,dy,Dy,ey,HSN',gH,zh (qA.out.keep (fun q h _=>h) fun q h hl=>bQ.out.block q hl h.2)⟩,by have:=aY.out;simp[intOf];omega⟩
   ·have HERR:=zh h0;obtain rfl:=tK.out h0;have hat:R=(er,⟨[],[],[]⟩):=by
     have h5:atE s0 (es.take (j+1))=(er,⟨[],[],[]⟩):=by rw[qF.out];simp[h0]
     have h6:=zoG s0 (es.take (j+1)) ((es.take k).drop (j+1)) (by rw[h5];exact h0);rw[<-HRR.out,<-h5,<-h6];congr 1;have h7:=List.take_append_drop (j+1) (es.take k);rw[List.take_take,Nat.min_eq_left (by have:=aY.out;omega)] at h7;exact h7.symm
    have HAT:=zh hat
    have hne:(er==0)=false:=by simpa using h0
    obtain⟨z0,z1,z2⟩:=zlp pq.out;have cf:∀ o,w8.frozen? ⟨W.heap.size,o,none⟩=false:=fun o=>zf pq.out;obtain⟨w9,aZ,hch,hh⟩:=set3 (.slice none 0 0) (.slice none 0 0) (.slice none 0 0) pq.out;have bQ:=zh hch;have gH:=zh hh;have lM:=zh aZ;clear hat hch hh aZ qF su tK h0;go_wp2_with fail;rw[lM.out];have t0:w9.cell? ⟨W.heap.size,0,none⟩=some (.slice none 0 0):=zc gH.out (by simp);have t1:w9.cell? ⟨W.heap.size,1,none⟩=some (.slice none 0 0):=zc gH.out (by simp);have t2:w9.cell? ⟨W.heap.size,2,none⟩=some (.slice none 0 0):=zc gH.out (by simp);obtain rfl:=HAT.out;refine bodyPost_ret (v:=.tuple #[.agg #[.slice none 0 0,.slice none 0 0,.slice none 0 0],.int .i64 er]) (by simp[results,Tryz.results81,go_sem,t0,t1,t2]) rfl ⟨(zka aR.out bR.out).trans (bQ.out.below (zka aR.out bR.out).size fun q e=>by have e:q=W.heap.size:=e;omega),_,rfl,zt0 _ _⟩
  ·obtain rfl:j=k:=by omega
   have hj1:¬ (j:Int)<(j:Int):=by omega
   obtain rfl:R=(0,x):=HRR.out.symm.trans ig.out;obtain⟨w9,aZ,hch,hh⟩:=set3 (.slice Ax x.cells.length cx) (.slice Bx x.tin.length dx) (.slice Dx x.tout.length ex) r9.out;have bQ:=zh hch;have gH:=zh hh;have lM:=zh aZ;clear hch hh aZ hk4;go_wp2_with fail;rw[lM.out];have t0:w9.cell? ⟨W.heap.size,0,none⟩=some (.slice Ax x.cells.length cx):=zc gH.out (by simp);have t1:w9.cell? ⟨W.heap.size,1,none⟩=some (.slice Bx x.tin.length dx):=zc gH.out (by simp);have t2:w9.cell? ⟨W.heap.size,2,none⟩=some (.slice Dx x.tout.length ex):=zc gH.out (by simp);refine bodyPost_ret (v:=.tuple #[.agg #[.slice Ax x.cells.length cx,.slice Bx x.tin.length dx,.slice Dx x.tout.length ex],.int .i64 0]) (by simp[results,Tryz.results81,go_sem,t0,t1,t2]) rfl ⟨aR.out.trans (bQ.out.below aR.out.size fun q e=>by have e:q=W.heap.size:=e;omega),_,rfl,?_⟩
   exact eZ.out.keep (fun q h _=>Nat.le_of_lt h.1) fun q h _=>bQ.out.block q (by assumption) (by have:=h.1;omega)
end Go.Proofs.YtckhofdinldhpaaGreat
