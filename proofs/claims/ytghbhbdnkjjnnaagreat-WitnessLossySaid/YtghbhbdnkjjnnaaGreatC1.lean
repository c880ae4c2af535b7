/-
  Texts of the proof, put together without their remarks: Enp, Apq, Rst, Wst, Wsa, Lwc.
-/
import Derived.Test.YtghbhbdnkjjnnaaGreatN13
import Derived.Maps.AppendAt
set_option linter.unusedSimpArgs false
set_option linter.unusedVariables false
set_option maxHeartbeats 8000000
set_option maxRecDepth 100000
namespace Go.Proofs.YtghbhbdnkjjnnaaGreat
open Go Go.RowKit
theorem FitB.get {v:Int}:∀ {bs:List Bn} {x:List (List Int)},FitB v bs x->∀ i (h1:i<bs.length) (h2:i<x.length),bs[i].1<=x[i].length/\x[i].length<=bs[i].2/\∀ e∈x[i],-v<=e/\e<=v
 | b::bs,y::x,h,0,_,_=>⟨h.1,h.2.1,h.2.2.1⟩
 | b::bs,y::x,h,i+1,h1,h2=>FitB.get h.2.2.2 i (by simpa using h1) (by simpa using h2)
attribute [local go_sem] Oper.semAt_some
theorem zxL {F:Fence} {n:Nat} {P:Program} (w:World) {ops:Array Oper} {rest:List Oper} {o:Oper} {a:Act} {Q:Exit->Act->World->Prop}
  (hg:o.guard=none) (s x:Operand) (t:TypeId) (hop:o.op=Op.call { callee:=Callee.builtin Builtin.append,args := #[s,x],argTypes := #[t,t] })
  (base:Nat) (e:TypeId) (i:TypeInfo) (z:Value) (size bytes:Nat) (h1:P.underlying t=some (.slice e)) (h2:P.info? e=some i) (h3:i.zero=some z) (h4:i.size=size) (h5:i.bytes=bytes) (h6:z.cells.size=size) (h7:0<size)
  (v:Value) (k:Nat) (xs:List Value) (hs:a.eval s=v) (hown:w.ownsRow base e size v k xs) (ad:Addr) (m c:Nat) (news:List Value) (hx:a.eval x=.slice (some ad) m c) (hn:news.length=m*size)
  (hc:∀ j u,news[j]?=some u->w.cell? (ad.add j)=some u) (h1c:∀ u∈news,u.oneCell'=true) (b1:k+m<=maxLen) (b2:(k+m)*bytes<=140737488355328) (b3:base<=w.heap.size)
  (hK:∀ v' w',w'.ownsRow base e size v' (k+m) (xs++news)->w.grownBy w' v.ownBlock->(v'.ownBlock=v.ownBlock\/v'.ownBlock=some w.heap.size)->wpListIn F n P ops Q rest (a.put o.dst v') w') :
  wpListIn F n P ops Q (o::rest) a w:=by
 refine wpListIn_plain hg fun K hK'=>?_;obtain⟨v',w',hrun,r1,r2,_,r4⟩:=run_append_own_at (P:=P) w base t o.type e i z size bytes h1 h2 h3 h4 h5 h6 h7 v k xs hown ad m c news hn hc h1c b1 b2 b3;unfold Oper.wpIn;refine⟨?_,?_⟩
 ·simp[Oper.about,hop,resolve,Target.leads,Sem.run_pure]
 ·rw[Oper.semAt_plain F _ _ (by rw[hop];intro c hc';cases hc')];simp[execOp,hop,resolve,invoke,builtin,hs,hx,hrun,Result.andThen];exact hK' _ _ (hK v' w' r1 r2 r4)
theorem zx1:(Tryz.prog.info? 34).map (fun i=>(i.zero,i.size,i.bytes))=some (some (.agg #[.slice none 0 0,.slice none 0 0,.slice none 0 0]),3,72):=by kernel_rfl
theorem bSts (a0 a1 a2:Value) (w:World):(Instr.buildSlice 39 1 #[(0,.agg #[a0,a1,a2])]).run Tryz.prog w=.ok (.slice (some ⟨w.heap.size,0,none⟩) 1 1) (w.alloc (.cells #[a0,a1,a2] 34)):=by kernel_rfl
def zxN (vs:List (Value×Value×Value)):List Value:=vs.flatMap fun t=>[t.1,t.2.1,t.2.2]
theorem zxP:∀ (l:List (Value×Value×Value)) (i o:Nat) (hi:i<l.length),o<3->(zxN l)[i*3+o]?=[l[i].1,l[i].2.1,l[i].2.2][o]?
 | c::l,0,o,_,ho=>by
  rw[show zxN (c::l)=[c.1,c.2.1,c.2.2]++zxN l from rfl,List.getElem?_append_left (by simp;omega)];simp
 | c::l,i+1,o,hi,ho=>by
  rw[show zxN (c::l)=[c.1,c.2.1,c.2.2]++zxN l from rfl,List.getElem?_append_right (by simp;omega)];have:(i+1)*3+o-[c.1,c.2.1,c.2.2].length=i*3+o:=by simp;omega
  rw[this,zxP l i o (by simpa using hi) ho];simp
def zxK (W:World) (n0:Nat) (S:Nat->Prop) (v:Value) (ss:List SS):Prop :=
 ∃ vs:List (Value×Value×Value),W.ownsRow n0 34 3 v ss.length (zxN vs)/\vs.length=ss.length/\∀ k (hk:k<ss.length) (hv:k<vs.length),SV W (fun q=>S q/\v.ownBlock≠some q) ss[k] (.agg #[vs[k].1,vs[k].2.1,vs[k].2.2])
theorem zxW {W:World} {n0 n1 sz n:Nat} {E:TypeId} {v:Value} {xs:List Value} (h:W.ownsRow n0 E sz v n xs) (hn:n1<=n0):W.ownsRow n1 E sz v n xs:=by
 obtain⟨e1,h2⟩:=h;rcases h2 with h2|⟨g,cap,cur,rfl,h3,h4⟩
 ·exact⟨e1,.inl h2⟩
 ·exact⟨e1,.inr ⟨g,cap,cur,rfl,Nat.le_trans hn h3,h4⟩⟩
theorem zxK.base {W:World} {n0 n1:Nat} {S:Nat->Prop} {v:Value} {ss:List SS} (h:zxK W n0 S v ss) (hn:n1<=n0):zxK W n1 S v ss:=by
 obtain⟨vs,h1,h2⟩:=h;exact⟨vs,zxW h1 hn,h2⟩
theorem zxK.nil (W:World) (n0:Nat) (S:Nat->Prop):zxK W n0 S (.slice none 0 0) []:=⟨[],World.ownsRow_nil _ _ _ _,rfl,fun k hk=>by simp at hk⟩
theorem zxK.keep {W W':World} {n0:Nat} {S S':Nat->Prop} {v:Value} {ss:List SS} (h:zxK W n0 S v ss) (hS:∀ q,S q->q<W.heap.size->S' q) (hk:∀ q,S q\/v.ownBlock=some q->q<W.heap.size->W'.heap[q]?=W.heap[q]?):zxK W' n0 S' v ss:=by
 obtain⟨vs,h1,h2,h3⟩:=h;refine⟨vs,znH h1 fun b hb=>hk b (.inr hb) (h1.lt b hb).2,h2,fun k hk1 hk2=>(h3 k hk1 hk2).keep (fun q h hlt=>⟨hS q h.1 hlt,h.2⟩) fun q h hlt=>hk q (.inl h.1) hlt⟩
theorem zxK.push {W W5:World} {n0:Nat} {S S':Nat->Prop} {v v' y0 y1 y2:Value} {ss:List SS} {y:SS} {vs:List (Value×Value×Value)} (hl:vs.length=ss.length)
  (h2:∀ k (hk:k<ss.length) (hv:k<vs.length),SV W (fun q=>S q/\v.ownBlock≠some q) ss[k] (.agg #[vs[k].1,vs[k].2.1,vs[k].2.2])) (hS:∀ q,S q->q<W.heap.size->S' q)
  (hy:SV W (fun q=>S' q/\v.ownBlock≠some q) y (.agg #[y0,y1,y2])) (ho:W5.ownsRow n0 34 3 v' (ss.length+1) (zxN vs++[y0,y1,y2])) (hg:W.grownBy W5 v.ownBlock) (bQ:v'.ownBlock=v.ownBlock\/v'.ownBlock=some W.heap.size) :
  zxK W5 n0 S' v' (ss++[y]):=by
 have hB:∀ q,v.ownBlock≠some q->q<W.heap.size->v'.ownBlock≠some q:=fun q h hq e=>by
  rcases bQ with e1|e1
  ·exact h (e1▸e)
  ·rw[e1] at e;injection e with e;omega
 have hk:∀ q,v.ownBlock≠some q->q<W.heap.size->W5.heap[q]?=W.heap[q]?:=fun q h hq=>hg.block q hq fun e=>h e.symm;refine⟨vs++[(y0,y1,y2)],?_,by simp[hl],fun k hk1 hk2=>?_⟩
 ·have e1:zxN (vs++[(y0,y1,y2)])=zxN vs++[y0,y1,y2]:=by simp[zxN]
  rw[e1,List.length_append];exact ho
 ·by_cases hlt:k<ss.length
  ·have hlv:k<vs.length:=by omega
   rw[List.getElem_append_left hlt,List.getElem_append_left hlv];exact(h2 k hlt hlv).keep (fun q h hq=>⟨hS q h.1 hq,hB q h.2 hq⟩) fun q h hq=>hk q h.2 hq
  ·obtain rfl:k=ss.length:=by simp at hk1;omega
   rw[List.getElem_append_right (Nat.le_refl _),List.getElem_append_right (by omega)];simp only[Nat.sub_self,hl,List.getElem_cons_zero];exact hy.keep (fun q h hq=>⟨h.1,hB q h.2 hq⟩) fun q h hq=>hk q h.2 hq
theorem zxK.nd {W:World} {n0:Nat} {S:Nat->Prop} {v:Value} {ss:List SS} (h:zxK W n0 S v ss) {k:Nat} (hk:k<ss.length) :
  ∃ g cap A c B d D e,v=.slice (some ⟨g,0,none⟩) ss.length cap/\n0<=g/\g<W.heap.size/\W.cell? ⟨g,k*3,none⟩=some (.slice A ss[k].cells.length c)/\W.cell? ⟨g,k*3+1,none⟩=some (.slice B ss[k].tin.length d)/\W.cell? ⟨g,k*3+2,none⟩=some (.slice D ss[k].tout.length e) /\
   SV W (fun q=>S q/\q≠g) ss[k] (.agg #[.slice A ss[k].cells.length c,.slice B ss[k].tin.length d,.slice D ss[k].tout.length e]):=by
 obtain⟨vs,h1,hl,h2⟩:=h;have hkv:k<vs.length:=by omega
 have hs:=h2 k hk hkv;rcases h1.2 with⟨e1,e2⟩|⟨g,cap,cur,rfl,hb,hg,-⟩
 ·omega
 ·have hx:∀ o u,o<3->[vs[k].1,vs[k].2.1,vs[k].2.2][o]?=some u->W.cell? ⟨g,k*3+o,none⟩=some u:=fun o u h4 hu=>by
   rw[h1.cellAt (k*3+o) (by omega),zxP vs k o hkv h4];exact hu
  have x0:=hx 0 _ (by omega) rfl;have x1:=hx 1 _ (by omega) rfl;have x2:=hx 2 _ (by omega) rfl;generalize vs[k]=t at *
  obtain⟨t0,t1,t2⟩:=t;simp only at hs x0 x1 x2;obtain⟨A,c,B,d,D,e,he,h9⟩:=hs;have hs:SV W (fun q=>S q/\(Value.slice (some ⟨g,0,none⟩) ss.length cap).ownBlock≠some q) ss[k] (.agg #[t0,t1,t2]):=⟨A,c,B,d,D,e,he,h9⟩
  injection he with he;simp only[Array.mk.injEq,List.cons.injEq,and_true] at he;obtain⟨rfl,rfl,rfl⟩:=he;exact⟨g,cap,A,c,B,d,D,e,rfl,hb,zkj hg,x0,x1,x2,hs.keep (fun q hq _=>⟨hq.1,fun e=>hq.2 (by rw[e];rfl)⟩) fun _ _ _=>rfl⟩
theorem zxK.slice {W:World} {n0:Nat} {S:Nat->Prop} {v:Value} {ss:List SS} (h:zxK W n0 S v ss):∃ A c,v=.slice A ss.length c:=by
 obtain⟨vs,h1,-⟩:=h;obtain⟨A',c',rfl,-⟩:=zkg h1;exact⟨A',c',rfl⟩
theorem zxM {F:Fence} {m:Nat} {ops:Array Oper} {rest:List Oper} {o:Oper} {a:Act} {W:World} {Q:Exit->Act->World->Prop} (hgd:o.guard=none) (s x:Operand)
  (ho:o.op=.call { callee:=.builtin .append,args := #[s,x],argTypes := #[39,39] }) (base:Nat) (v:Value) (n:Nat) (xs:List Value) (hs:a.eval s=v) (hrow:W.ownsRow base 34 3 v n xs)
  (b:Nat) (y0 y1 y2:Value) (hy:y0.oneCell'=true/\y1.oneCell'=true/\y2.oneCell'=true) (hx:a.eval x=.slice (some ⟨b,0,none⟩) 1 1) (hc:W.heap[b]?=some (.cells #[y0,y1,y2] 34 (0,0))) (hl:n+1<=1000000) (hb:base<=W.heap.size)
  (h:∀ v' w',w'.ownsRow base 34 3 v' (n+1) (xs++[y0,y1,y2])->W.grownBy w' v.ownBlock->(v'.ownBlock=v.ownBlock\/v'.ownBlock=some W.heap.size)->wpListIn F m Tryz.prog ops Q rest (a.put o.dst v') w') :
  wpListIn F m Tryz.prog ops Q (o::rest) a W:=by
 obtain⟨i,hi,hz0,hz1,hz2⟩:=info_parts zx1;refine zxL (P:=Tryz.prog) _ hgd s x 39 ho base 34 i _ 3 72 Tryz.underlying39 hi hz0 hz1 hz2 rfl (by decide) v n xs hs hrow ⟨b,0,none⟩ 1 1 [y0,y1,y2] hx (by simp) (fun j u hj=>?_) (fun u hu=>?_) (by unfold maxLen;omega) (by omega) hb (fun v' w' h1 h2 h4=>h v' w' h1 h2 h4)
 ·rw[Addr.add_lit,Nat.zero_add];exact zc hc (by simpa using hj)
 ·simp only[List.mem_cons,List.not_mem_nil,or_false] at hu;rcases hu with rfl|rfl|rfl
  ·exact hy.1
  ·exact hy.2.1
  ·exact hy.2.2
attribute [local go_sem] Oper.semAt_some
def stsL (vs:List VD) (b:BX) (m:Int):Option (List SS):=if (cntR vs b).2=0/\(cntR vs b).1<=m then some (allS b (lenE vs b)) else none
def StsP (R:Option (List SS)) (W:World) (e:Ending) (W':World):Prop:=Below W.heap.size W W'/\((R=none/\e=.returned (.tuple #[.slice none 0 0,.bool false]))\/∃ l v,R=some l/\e=.returned (.tuple #[v,.bool true])/\zxK W' W.heap.size (fun q=>W.heap.size<=q) v l)
def StI (B M n0:Nat) (w5:World) (pre:List SS) (C:Nat->Prop) (W:World):Prop:=(∀ b,b<B->C b)/\(∀ b,C b->b<W.heap.size)/\(∀ b,b<B->b≠M->W.heap[b]?=w5.heap[b]?) /\
 ∃ rv,W.heap[M]?=some (.cells #[rv] 39 (0,0))/\(∀ q,rv.ownBlock=some q->C q)/\zxK W n0 (fun q=>C q/\n0<=q) rv pre
theorem StI.chg {B M n0:Nat} {w5 W W':World} {pre:List SS} {C D:Nat->Prop} (h:StI B M n0 w5 pre C W) (hM:M<B) (hc:Chg D W W') (hD:∀ b,C b->¬ D b):StI B M n0 w5 pre C W':=by
 obtain⟨h1,h2,h3,rv,h4,h5,h6⟩:=h;refine⟨h1,fun b hb=>Nat.lt_of_lt_of_le (h2 b hb) hc.size,fun b hb hn=>(hc.block b (h2 b (h1 b hb)) (hD b (h1 b hb))).trans (h3 b hb hn),rv,hc.keep h4 (hD _ (h1 _ hM)),h5,h6.keep (fun q h _=>h) fun q h hlt=>hc.block q hlt (hD q ?_)⟩;rcases h with h|h
 ·exact h.1
 ·exact h5 q h
theorem zxQ {W:World} {vs:List VD} {b:BX} {m:Int} {A1:Option Addr} {c1:Nat} (hr:RowV W Any A1 vs) (hl:vs.length<=LV) (hm:m<=65536) :
  Calls Tryz.prog 13 #[.slice A1 vs.length c1,.agg #[.int .i64 b.v,.int .i64 b.l,.int .i64 b.i],.int .i64 m] W (StsP (stsL vs b m) W):=by
 have vD:=zh (fun w' (hb:Below W.heap.size W w')=>zpH vs b A1 c1 w' (hr.later hb) hl);have eU:=zh (fun w' (hb:Below W.heap.size W w') hok=>zts vs b A1 c1 w' (hr.later hb) hl hok);have uT:=zh (show(cntR vs b).2=0/\(cntR vs b).1<=m->smlE vs b=true from fun h=>by
  unfold smlE;simp only[Bool.and_eq_true,decide_eq_true_eq];exact⟨h.1,Int.le_trans h.2 hm⟩)
 obtain⟨bv,bl,bi⟩:=b;have HRR:=zh (show stsL vs ⟨bv,bl,bi⟩ m=if (cntR vs ⟨bv,bl,bi⟩).2=0/\(cntR vs ⟨bv,bl,bi⟩).1<=m then some (allS ⟨bv,bl,bi⟩ (lenE vs ⟨bv,bl,bi⟩)) else none from rfl);obtain⟨RR,hRR⟩:∃ RR,stsL vs ⟨bv,bl,bi⟩ m=RR:=⟨_,rfl⟩
 obtain⟨⟨R1,R2⟩,hR⟩:∃ R,cntR vs ⟨bv,bl,bi⟩=R:=⟨_,rfl⟩
 rw[hRR] at HRR ⊢;rw[hR] at HRR vD uT;simp only at HRR uT vD;obtain⟨N,hN⟩:∃ N,W.heap.size=N:=⟨_,rfl⟩
 have HN:=zh hN;have hb1:=zkc (Below.refl W.heap.size W) (.cells #[.int .i64 bv,.int .i64 bl,.int .i64 bi] 27);have k1:=zlA W hN (.cells #[.int .i64 bv,.int .i64 bl,.int .i64 bi] 27);have hz1:(W.alloc (.cells #[.int .i64 bv,.int .i64 bl,.int .i64 bi] 27)).heap.size=N+1:=by simp[hN]
 obtain⟨w1,hw1⟩:∃ x,W.alloc (.cells #[.int .i64 bv,.int .i64 bl,.int .i64 bi] 27)=x:=⟨_,rfl⟩
 rw[hw1] at hb1 k1 hz1;obtain⟨y0,y1,y2⟩:=zkr k1;have HB1:=zh hb1;have aB:=zh k1;have HZ1:=zh hz1;clear hr hl hm hb1 k1 hz1 hRR hR
 show Calls Tryz.prog 13 #[.slice A1 vs.length c1,.agg #[.int .i64 bv,.int .i64 bl,.int .i64 bi],.int .i64 m] W _
 refine(callsIn_wide (n:=3)).1 (callsIn_of_wp_marks Tryz.func13 rfl trivial ((wpIn_wide (n:=3)).2 ?_));simp only[Tryz.ntmps13,List.size_toArray,List.length_cons,List.length_nil,Nat.reduceAdd,Nat.reduceSub,Array.replicate_succ,Array.replicate_zero,List.push_toArray,List.append_toArray,List.nil_append,List.cons_append];go_wp2_with fail;refine(vD.out _ HB1.out).mono ?_;rintro e2 w2 ⟨rfl,hb2⟩;have HB2:=zh (zka HB1.out hb2);have aK:=zh (zkb aB.out hb2);have HZ2:=zh (show N+1<=w2.heap.size by have:=HZ1.out;have:=hb2.size;omega);clear hb2 y0 y1 y2 hw1 vD;by_cases h0:R2=0;rotate_left 1
 ·have e0:(R2==0)=false:=by simpa using h0
  have HF:=zh (show RR=none by rw[HRR.out,if_neg fun h=>h0 h.1]);go_wp2_with fail;exact⟨.tuple #[.slice none 0 0,.bool false],by simp[results,Tryz.results13,go_sem],HB2.out,.inl ⟨HF.out,rfl⟩⟩
 by_cases hgt:m<R1
 ·have HF:=zh (show RR=none by rw[HRR.out,if_neg fun h=>by omega]);go_wp2_with fail;exact⟨.tuple #[.slice none 0 0,.bool false],by simp[results,Tryz.results13,go_sem],HB2.out,.inl ⟨HF.out,rfl⟩⟩
 have HF:=zh (show RR=some (allS ⟨bv,bl,bi⟩ (lenE vs ⟨bv,bl,bi⟩)) by rw[HRR.out,if_pos ⟨h0,by omega⟩]);subst h0;obtain⟨hok,hcn⟩:=zrL (uT.out ⟨by trivial,by omega⟩);obtain⟨M,hM⟩:∃ M,w2.heap.size=M:=⟨_,rfl⟩
 obtain⟨w3,hw3⟩:∃ x,w2.alloc (.cells #[.slice none 0 0] 39)=x:=⟨_,rfl⟩
 have hb3:Below w2.heap.size w2 w3:=by rw[<-hw3];exact zkc (Below.refl _ _) _
 have hk3:=heap_alloc_new w2 (.cells #[.slice none 0 0] 39);rw[hw3,hM] at hk3;have hz3:w3.heap.size=M+1:=by rw[<-hw3];simp[hM]
 have HB3:=zh (zka HB2.out hb3);obtain⟨y0,y1,y2⟩:=zkr (zkb aK.out hb3);have fw:=zh hk3;have HZ3:=zh hz3;have HM:=zh hM;have yR:=zh hcn;have ko:=zh hok;have jM:=zh (eU.out _ HB3.out hok);clear hb3 hk3 hz3 hcn hok eU hM;go_wp2_with fail;refine jM.out.mono ?_;rintro e5 w5 ⟨iP,xb,lb,A9,c9,rfl,hb5,g1,g2,g3,uG⟩;have av:=zh hb5;have yu:=zh (And.intro g1 (And.intro g2 g3));have jm:=zh uG;have dF:=zh (zkb fw.out hb5);clear hb5 g1 g2 g3 uG y0 y1 y2 jM hw3;go_wp2_with fail;have hlb:=zmq ko.out;have vH:=zh (zpK (nf:=3-1) (S:=fun q=>w3.heap.size<=q/\q<w5.heap.size) ⟨jm.out.ok,jm.out.bx,jm.out.ls,jm.out.row.keep (fun b h hlt=>⟨h,hlt⟩) fun _ _ _=>rfl⟩ ⟨hlb.2.2.2.1,hlb.2.2.2.2⟩ ⟨by rw[hlb.1];omega,by rw[hlb.1];have:=hlb.2.1;omega⟩ fun q hq=>(hlb.2.2.1 q hq).2);clear hlb;have yU:=zh (show M+1<=w5.heap.size by have:=av.out.size;have:=HZ3.out;omega)
 have yX:=zh (show N+1<=M by have:=HZ2.out;have:=HM.out;omega);rw[HM.out];refine(wpIn_wide (n:=3)).1 ?_;refine zok (n:=3) (gf:=79) (lb := #[ptr0 iP,ptr0 xb,ptr0 lb]) rfl (zkC zvk) vH.out (fun l x vs' g W' h=>by obtain⟨v9,rfl,-,h2,-⟩:=h;exact⟨rfl,h2⟩)
  (StI (M+1) M (w5.heap.size+1) w5) (fun _ _ _=>False) (fun b=>b<M+1)
  (fun pre C W' W'' h hc=>h.chg (by omega) hc fun b hb h=>h hb) (fun pre C W' W'' h hc=>h) (fun pre C W' h b hb=>h.2.1 b hb) (fun pre C W' h b hb=>h.elim)
  (fun b h1 h2=>by
   have:=yu.out;have:=HZ3.out;rcases h2 with h|h|h|h<;>omega) (fun b h=>by
   rcases h with rfl|rfl|rfl|h
   ·exact zkj jm.out.ok
   ·exact zkj jm.out.bx
   ·exact zkj jm.out.ls
   ·exact h.2) ⟨fun _ h=>h,fun b h=>Nat.lt_of_lt_of_le h yU.out,fun _ _ _=>rfl,_,dF.out,(fun q h=>by cases h),zxK.nil _ _ _⟩ ?_ ?_ ?_
 ·rintro l pre x C W3 vs' g hI mV mU hl uu hpre ⟨sv,rfl,hsv,sM⟩;have hxm:(pre++[x]).length<=(allS ⟨bv,bl,bi⟩ (lenE vs ⟨bv,bl,bi⟩)).length:=hpre.length_le;obtain⟨As,cs,Bs,ds,Ds,es,rfl⟩:∃ A c B d D e,sv=.agg #[.slice A x.cells.length c,.slice B x.tin.length d,.slice D x.tout.length e]:=by
   obtain⟨A,c,B,d,D,e,rfl,-⟩:=hsv;exact⟨_,_,_,_,_,_,rfl⟩
  change Code.wpIn (Fence.wide.inRound l) (3-1-1) Tryz.prog _ _ _ _
  gi_wp2
  refine⟨(Chg.refl _ _).alloc _,fun W4 gX=>?_⟩;have hbx:=gX.keep (heap_alloc_new W3 (.cells #[.slice As x.cells.length cs,.slice Bs x.tin.length ds,.slice Ds x.tout.length es] 34)) (show ¬ W3.heap.size=l by omega);have jf:=zkc (Below.refl W3.heap.size W3) (.cells #[.slice As x.cells.length cs,.slice Bs x.tin.length ds,.slice Ds x.tout.length es] 34);have mR:=(hI.chg (by omega) (Chg.of_below jf) (fun b hb h=>h)).chg (by omega) gX (fun b hb h=>mU (by have h:b=l:=h;rwa[h] at hb));have jP:SV W4 (fun q=>g<=q) x (.agg #[.slice As x.cells.length cs,.slice Bs x.tin.length ds,.slice Ds x.tout.length es]):=(hsv.later jf).keep (fun _ h _=>h) fun q h hlt=>gX.block q hlt (fun e:q=l=>by have h:g<=q:=h;omega);obtain⟨xp,hxp⟩:∃ q,W3.heap.size=q:=⟨_,rfl⟩
  rw[hxp] at hbx ⊢;obtain⟨x0,x1,x2⟩:=zkr hbx;have aM:=zh hbx;obtain⟨i1,i2,i3,rv,i4,i5,i6⟩:=mR;obtain⟨Ar,cr,rfl⟩:=i6.slice;obtain⟨tv,t1,t2,t3⟩:=i6;have z0:W4.cell? ⟨M,0,none⟩=some (.slice Ar pre.length cr):=zc i4 rfl;have cfM:∀ o,W4.frozen? ⟨M,o,none⟩=false:=fun _=>zf i4;have hbs:=bSts (.slice As x.cells.length cs) (.slice Bs x.tin.length ds) (.slice Ds x.tout.length es) W4;have lU:=zh jP;have HI:=zh (And.intro i1 (And.intro i2 (And.intro i3 (And.intro i4 i5))));have HT:=zh (And.intro t1 (And.intro t2 t3));have HCG:=zh mV;have ou:=zh (And.intro hl (And.intro uu sM));have dE:=zh hpre;have HXM:=zh hxm;have hown:=zkI t1 (zkc (Below.refl W4.heap.size W4) (.cells #[.slice As x.cells.length cs,.slice Bs x.tin.length ds,.slice Ds x.tout.length es] 34))
  have hnew:=heap_alloc_new W4 (.cells #[.slice As x.cells.length cs,.slice Bs x.tin.length ds,.slice Ds x.tout.length es] 34);have hsz:w5.heap.size+1<=W4.heap.size/\g<=W4.heap.size:=by have:=jf.size;have:=gX.size;omega
  have y9:=zh hsz;have hsz2:w5.heap.size+1<=(W4.alloc (.cells #[.slice As x.cells.length cs,.slice Bs x.tin.length ds,.slice Ds x.tout.length es] 34)).heap.size:=by simp;omega
  have hln:pre.length+1<=1000000:=by
   have h1:=zuP ko.out yR.out;simp only[List.length_append,List.length_cons,List.length_nil] at hxm;omega
  clear hI mV mU hl uu hpre hsv sM gX hbx jf jP i1 i2 i3 i4 i5 t1 t2 t3 hxm hsz;change Code.wpIn (Fence.wide.inRound l) (3-1-1) Tryz.prog _ _ _ _
  gi_wp2_with (gi_at_builtin;refine zxM rfl (.tmp 29) (.tmp 31) rfl (w5.heap.size+1) (.slice Ar pre.length cr) pre.length _ rfl hown W4.heap.size _ _ _ ⟨rfl,rfl,rfl⟩ rfl hnew hln hsz2 ?_;intro v' w9 q1 q2 q3;obtain⟨A',c',rfl,-⟩:=zkg q1;have hbx:=(q2.block M (by simp;have:=HI.out.2.1 M (HI.out.1 M (by omega));omega) (fun e=>by have:=(HT.out.1.lt M e.symm).1;have:=yU.out;omega)).trans (zkf HI.out.2.2.2.1 _);have z1:w9.cell? ⟨M,0,none⟩=some (.slice Ar pre.length cr):=zc hbx rfl;have z2:∀ o,w9.frozen? ⟨M,o,none⟩=false:=fun _=>zf hbx;obtain⟨w8,hw8,hc8,gV⟩:=setU (o:=0) (.slice A' (pre.length+1) c') hbx;clear hbx)
  have yZ:=zkc (Below.refl W4.heap.size W4) (.cells #[.slice As x.cells.length cs,.slice Bs x.tin.length ds,.slice Ds x.tout.length es] 34);have yO:Chg (fun q=>q=M\/(Value.slice Ar pre.length cr).ownBlock=some q) W4 w8:=((Chg.of_below (C:=fun q=>q=M\/(Value.slice Ar pre.length cr).ownBlock=some q) yZ).trans2 (Chg.row q2) (fun b _ h=>.inr h)).trans2 hc8 fun b _ (e:b=M)=>.inl e;have hge:∀ q,(Value.slice Ar pre.length cr).ownBlock=some q->w5.heap.size+1<=q:=fun q h=>(HT.out.1.lt q h).1;have hML:=yU.out;have hLW:=ou.out;have hSZ:=y9.out;refine⟨fun b=>C b\/(g<=b/\b<w8.heap.size),⟨fun b hb=>.inl (HI.out.1 b hb),fun b hb=>?_,fun b hb hn=>?_,.slice A' (pre.length+1) c',gV,fun q hq=>?_,?_⟩,fun b hb=>hb.imp id And.left,yO.mono fun b _ h=>?_⟩
  ·rcases hb with hb|hb
   ·exact Nat.lt_of_lt_of_le (HI.out.2.1 b hb) yO.size
   ·exact hb.2
  ·exact(yO.block b (HI.out.2.1 b (HI.out.1 b hb)) fun h=>by
    rcases h with h|h
    ·exact hn h
    ·have:=hge b h;omega).trans (HI.out.2.2.1 b hb hn)
  ·rcases q3 with q3|q3
   ·exact .inl (HI.out.2.2.2.2 q (q3▸hq))
   ·have h1:=(q1.lt q hq).2;have h2:=hc8.size;rw[hq] at q3;injection q3 with q3;simp at q3;exact .inr (by omega)
  ·have hpu:=zxK.push (W:=W4.alloc (.cells #[.slice As x.cells.length cs,.slice Bs x.tin.length ds,.slice Ds x.tout.length es] 34)) (S:=fun q=>C q/\w5.heap.size+1<=q) (S':=fun q=>(C q\/(g<=q/\q<w8.heap.size))/\w5.heap.size+1<=q) HT.out.2.1 (fun k hk hv=>(HT.out.2.2 k hk hv).later yZ) (fun q h _=>⟨.inl h.1,h.2⟩)
    ((lU.out.later yZ).keep (fun q (h:g<=q) hlt=>⟨⟨.inr ⟨h,Nat.lt_of_lt_of_le hlt (Nat.le_trans q2.size hc8.size)⟩,by omega⟩,fun e=>by have:=HCG.out q (HI.out.2.2.2.2 q e);omega⟩) fun _ _ _=>rfl) q1 q2 q3
   exact hpu.keep (fun q h _=>h) fun q h hlt=>hc8.block q hlt fun(e:q=M)=>by
    rcases h with h|h
    ·have:=h.2;omega
    ·have:=(q1.lt q h).1;omega
  ·rcases h with h|h
   ·rw[h];exact HI.out.1 M (by omega)
   ·exact HI.out.2.2.2.2 b h
 ·intro D C W' hD hI hch hK;obtain⟨i1,i2,i3,rv,i4,i5,i6⟩:=hI;obtain⟨Ar,cr,rfl⟩:=i6.slice;have z0:W'.cell? ⟨M,0,none⟩=some (.slice Ar (allS ⟨bv,bl,bi⟩ (lenE vs ⟨bv,bl,bi⟩)).length cr):=zc i4 rfl;have aX:Chg (fun q=>q=M) w5 W':=⟨hch.1,hch.2,hch.3,hch.4,fun q hlt hn=>by
   by_cases hq:q<M+1
   ·exact i3 q hq hn
   ·exact hch.block q hlt hq⟩
  have dA:=zh (show Below W.heap.size W W' from (zka HB3.out av.out).trans (aX.below (zka HB3.out av.out).size fun b (e:b=M)=>by have:=HN.out;have:=yX.out;omega));have yN:=zh i6;have HK:=zh hK;have HD:=zh (show w5.heap.size=D from hD.symm);clear i1 i2 i3 i4 i5 i6 hch aX hK hD;go_wp2_with fail;refine⟨by simp,.inl ⟨_,_,rfl,run_takeDeferred HK.out,?_⟩⟩;have hcd:=Chg.putObj W' D (.deferred none);refine⟨.tuple #[.slice Ar (allS ⟨bv,bl,bi⟩ (lenE vs ⟨bv,bl,bi⟩)).length cr,.bool true],by simp[results,Tryz.results13,go_sem],dA.out.trans (hcd.below dA.out.size fun b (e:b=D)=>by
   have:=HD.out;have:=yU.out;have:=yX.out;have:=HN.out;omega),.inr ⟨_,_,HF.out,rfl,?_⟩⟩
  refine(yN.out.base (by have:=yU.out;have:=yX.out;have:=HN.out;omega)).keep (fun q h _=>by have:=h.2;have:=yU.out;have:=yX.out;have:=HN.out;show W.heap.size<=q;omega) fun q h hlt=>hcd.block q hlt fun(e:q=D)=>?_;have hD:=HD.out;obtain⟨tv,t1,-⟩:=yN.out;rcases h with h|h
  ·have:=h.2;omega
  ·have:=(t1.lt q h).1;omega
 ·intro D pre C W' hD hX hch hK;exact hX.elim
def smL (vs:List VD) (b:BX):Bool:=decide (vs.length<=40)&&(decide ((cntR vs b).2=1)||(decide ((cntR vs b).2=0)&&decide ((cntR vs b).1<=150)))
theorem zxR (vs:List VD) (b:BX) (A:Option Addr) (c:Nat) (w:World) (hrow:RowV w Any A vs) (hl:vs.length<=LV):Calls Tryz.prog 11 #[.slice A vs.length c,.agg #[.int .i64 b.v,.int .i64 b.l,.int .i64 b.i]] w fun e w'=>e=.returned (.bool (smL vs b))/\Below w.heap.size w w':=by
 obtain⟨bv,bl,bi⟩:=b;simp only;have hb1:=zkc (Below.refl w.heap.size w) (.cells #[.int .i64 bv,.int .i64 bl,.int .i64 bi] 27);have hk1:=heap_alloc_new w (.cells #[.int .i64 bv,.int .i64 bl,.int .i64 bi] 27);have vD:=zh (fun w' (hb:Below w.heap.size w w')=>zpH vs ⟨bv,bl,bi⟩ A c w' (hrow.later hb) hl);have HS:=zh (show smL vs ⟨bv,bl,bi⟩=(decide (vs.length<=40)&&(decide ((cntR vs ⟨bv,bl,bi⟩).2=1)||(decide ((cntR vs ⟨bv,bl,bi⟩).2=0)&&decide ((cntR vs ⟨bv,bl,bi⟩).1<=150)))) from rfl);obtain⟨⟨R1,R2⟩,hR⟩:∃ R,cntR vs ⟨bv,bl,bi⟩=R:=⟨_,rfl⟩
 rw[hR] at vD HS;clear hrow hl hR;go_enter Tryz.func11,Tryz.ntmps11;go_upto_region 1 with fail;obtain⟨w1,hw1⟩:∃ x,w.alloc (.cells #[.int .i64 bv,.int .i64 bl,.int .i64 bi] 27)=x:=⟨_,rfl⟩
 rw[hw1] at hb1 hk1 ⊢;obtain⟨x0,x1,x2⟩:=zkr hk1;have HB1:=zh hb1;clear hw1 hb1 hk1;go_wp2_with fail;refine(vD.out _ HB1.out).mono ?_;rintro e w2 ⟨rfl,hb2⟩;have HB2:=zh (zka HB1.out hb2);clear hb2 x0 x1 x2;by_cases xE:vs.length<=40;rotate_left 1
 ·have h4:¬ (vs.length:Int)<=40:=by omega
  have HF:=zh (show smL vs ⟨bv,bl,bi⟩=false by rw[HS.out];simp[xE]);go_wp2_with fail;go_ret;exact⟨by rw[HF.out];rfl,HB2.out⟩
 have h4:(vs.length:Int)<=40:=by omega
 by_cases h1:R2=1
 ·have e1:(R2==1)=true:=by simpa using h1
  have HF:=zh (show smL vs ⟨bv,bl,bi⟩=true by rw[HS.out];simp[h1,xE]);go_wp2_with fail;go_ret;exact⟨by rw[HF.out];rfl,HB2.out⟩
 have e1:(R2==1)=false:=by simpa using h1
 by_cases h0:R2=0
 ·have e0:(R2==0)=true:=by simpa using h0
  have HF:=zh (show smL vs ⟨bv,bl,bi⟩=decide (R1<=150) by rw[HS.out];simp[h1,xE,h0]);go_wp2_with fail;go_ret;exact⟨by rw[HF.out];rfl,HB2.out⟩
 ·have e0:(R2==0)=false:=by simpa using h0
  have HF:=zh (show smL vs ⟨bv,bl,bi⟩=false by rw[HS.out];simp[h1,xE,h0]);go_wp2_with fail;go_ret;exact⟨by rw[HF.out];rfl,HB2.out⟩
theorem zxV {W:World} {vs:List VD} {prs:List PR} {t:T} {v:Value} {A1 A2:Option Addr} {c1 c2:Nat} (hv:NV W Any t v) (hr:RowV W Any A1 vs) (hl:vs.length<=LV) (hlc:vs.length<=c1) (hp:RowP W Any A2 prs) (hlp:prs.length<=LV) (hpc:prs.length<=c2) :
  Calls Tryz.prog 20 #[v,.slice A1 vs.length c1,.slice A2 prs.length c2] W fun e w'=>∃ A3:Option Addr,e=.returned (.agg #[.slice A1 vs.length c1,.slice A2 prs.length c2,.int .u8 57,.int .i64 0,.string ⟨#[]⟩,.slice A3 1 1])/\PV w' Any (zlT vs prs t) (.agg #[.slice A1 vs.length c1,.slice A2 prs.length c2,.int .u8 57,.int .i64 0,.string ⟨#[]⟩,.slice A3 1 1])/\Below W.heap.size W w':=by
 have yT:=zh (fun w' (hb:Below W.heap.size W w')=>And.intro (hv.later hb) (And.intro (hr.later hb) (hp.later hb)));have HL:=zh (And.intro hl (And.intro hlc (And.intro hlp hpc)));obtain⟨A3,c3,rfl,-⟩:=hv.open_;obtain⟨k,n,nm,ks⟩:=t;simp only[T.k_nd,T.n_nd,T.s_nd,T.ks_nd] at yT ⊢;have hbn:=bNd1 k n nm A3 ks.length c3;have hbp:∀ (q:Nat) (w:World),(Instr.build 55 #[(0,.slice A1 vs.length c1),(1,.slice A2 prs.length c2),(2,.agg #[.int .u8 57,.int .i64 0,.string ⟨#[]⟩,.slice (some ⟨q,0,none⟩) 1 1])]).run Tryz.prog w=.ok (.agg #[.slice A1 vs.length c1,.slice A2 prs.length c2,.int .u8 57,.int .i64 0,.string ⟨#[]⟩,.slice (some ⟨q,0,none⟩) 1 1]) w:=fun q w=>by kernel_rfl
 clear hv hr hl hlc hp hlp hpc;go_enter Tryz.func20,Tryz.ntmps20;go_wp2_with fail;obtain⟨hb,hz,k0,k1,k2⟩:=al3 W (.cells #[.int .u8 k,.int .i64 n,.string nm,.slice A3 ks.length c3] 24) (.cells #[.slice A1 vs.length c1,.slice A2 prs.length c2,.int .u8 57,.int .i64 0,.string ⟨#[]⟩,.slice (some ⟨W.heap.size+1+1,0,none⟩) 1 1] 55) (.cells #[.int .u8 k,.int .i64 n,.string nm,.slice A3 ks.length c3] 24);obtain⟨t0,t1,t2,t3,t4,t5⟩:=box6 k1;refine bodyPost_ret (v:=.agg #[.slice A1 vs.length c1,.slice A2 prs.length c2,.int .u8 57,.int .i64 0,.string ⟨#[]⟩,.slice (some ⟨W.heap.size+1+1,0,none⟩) 1 1]) (by simp[results,Tryz.results20,go_sem,t0,t1,t2,t3,t4,t5]) rfl ⟨_,rfl,?_,hb⟩;obtain⟨q1,q2,q3⟩:=yT.out _ hb;exact⟨A1,c1,A2,c2,some ⟨W.heap.size+1+1,0,none⟩,1,rfl,⟨q2,HL.out.1,HL.out.2.1,q3,HL.out.2.2.1,HL.out.2.2.2,zxc ⟨by decide,by decide,Nat.zero_le _⟩ trivial k2 q1⟩⟩
def IdxP (f:SS->Bool) (l:List SS) (r:Int):Prop:=(r = -1/\l.find? f=none)\/∃ (i:Nat) (hi:i<l.length),r=i/\l.find? f=some l[i]
theorem zx0 {f:SS->Bool} {l:List SS} {i:Nat} (hi:i<l.length) (h0:∀ k (hk:k<l.length),k<i->f l[k]=false) (h1:f l[i]=true):l.find? f=some l[i]:=by
 rw[List.find?_eq_some_iff_getElem];exact⟨h1,i,hi,rfl,fun j hj=>by rw[h0 j (by omega) hj];rfl⟩
theorem zxZ {f:SS->Bool} {l:List SS} (h0:∀ k (hk:k<l.length),f l[k]=false):l.find? f=none :=
 List.find?_eq_none.2 fun s hs=>by obtain⟨i,hi,rfl⟩:=List.mem_iff_getElem.1 hs;rw[h0 i hi];simp
theorem zx3:IsFn Tryz.prog 44 Tryz.f44:=⟨Tryz.func44,by kernel_rfl,by kernel_rfl⟩
theorem zxT {W:World} {p:PG} {pv v:Value} {l:List SS} {n0:Nat} {S:Nat->Prop} {F:Int} (hp:PV W Any p pv) (hv:zxK W n0 S v l) (hl:l.length<=65536) (hc:∀ x∈l,x.cells.length<=100) (hF:I64 F) (lK:F<=1000000) :
  Calls Tryz.prog 19 #[pv,v,.int .i64 F] W fun e w'=>Below W.heap.size W w'/\∃ r,e=.returned (.int .i64 r)/\IdxP (zn5 p F) l r:=by
 have yT:=zh (fun w' (hb:Below W.heap.size W w')=>hp.later hb);have yN:=zh (fun w' (hb:Below W.heap.size W w')=>hv.keep (S':=S) (fun q h _=>h) fun q _ hlt=>hb.block q hlt);have HC:=zh hc;have HF:=zh (And.intro hF lK);obtain⟨A,c,rfl⟩:=hv.slice;obtain⟨A1,c1,A2,c2,A3,c3,rfl,-⟩:=hp;have hb1:=zkc (Below.refl W.heap.size W) (.cells #[.slice A1 p.vs.length c1,.slice A2 p.prs.length c2,.int .u8 p.m.k,.int .i64 p.m.n,.string p.m.s,.slice A3 p.m.ks.length c3] 55);have hk1:=heap_alloc_new W (.cells #[.slice A1 p.vs.length c1,.slice A2 p.prs.length c2,.int .u8 p.m.k,.int .i64 p.m.n,.string p.m.s,.slice A3 p.m.ks.length c3] 55);obtain⟨n,hn⟩:∃ n,l.length=n:=⟨_,rfl⟩
 have HN:=zh hn;rw[hn] at hl ⊢;clear hv hc hF lK hn;go_enter Tryz.func19,Tryz.ntmps19;go_upto_region 1 with fail;obtain⟨N,hN⟩:∃ N,W.heap.size=N:=⟨_,rfl⟩
 obtain⟨w1,hw1⟩:∃ x,W.alloc (.cells #[.slice A1 p.vs.length c1,.slice A2 p.prs.length c2,.int .u8 p.m.k,.int .i64 p.m.n,.string p.m.s,.slice A3 p.m.ks.length c3] 55)=x:=⟨_,rfl⟩
 rw[hw1] at hb1 hk1 ⊢;rw[hN] at hk1 ⊢;have HB1:=zh hb1;have aB:=zh hk1;clear hw1 hb1 hk1 hN;go_wp2_with fail
 go_loopw [7] (fun i wr=>∃ j:Nat,j<=n/\i=.int .i64 j/\Hid (Below w1.heap.size w1 wr)/\Hid (∀ k (hk:k<l.length),k<j->zn5 p F l[k]=false)) (fun i _=>n-(intOf i).toNat)
 case atStart=>exact⟨0,by omega,rfl,zh (Below.refl _ _),zh fun k hk h=>by omega⟩
 case round =>
  obtain⟨j,hj,rfl,kF,ko⟩:=hrel;by_cases hlt:j<n
  ·have hj1:(j:Int)<(n:Int):=by omega
   have hj0:(0:Int)<=(j:Int):=by omega
   have hlj:j<l.length:=by rw[HN.out];exact hlt
   have hbW:=zka HB1.out kF.out;obtain⟨g,cap,As,cs,Bs,ds,Ds,es,yY,-,-,y0,y1,y2,hsv⟩:=(yN.out _ hbW).nd hlj;injection yY with e1 e2 e3;subst e1;have nW:=zh hsv.any;have hkp:=zkb aB.out kF.out;obtain⟨p0,p1,p2,p3,p4,p5⟩:=box6 hkp;have sH:IntKind.i64.wrap ((j:Int)+1)=(j:Int)+1:=IntWalk.i64_in _ (by omega);have hcd:=Below.drew (Below.refl wr.heap.size wr)
   have hcell:∀ w',Below wr.heap.size wr w'->(fun w':World=>(w'.cell? ⟨N,0,none⟩=some (.slice A1 p.vs.length c1)/\w'.cell? ⟨N,1,none⟩=some (.slice A2 p.prs.length c2)/\w'.cell? ⟨N,2,none⟩=some (.int .u8 p.m.k)/\w'.cell? ⟨N,3,none⟩=some (.int .i64 p.m.n)/\w'.cell? ⟨N,4,none⟩=some (.string p.m.s)/\w'.cell? ⟨N,5,none⟩=some (.slice A3 p.m.ks.length c3))/\w'.cell? ⟨g,j*3,none⟩=some (.slice As l[j].cells.length cs)/\w'.cell? ⟨g,j*3+1,none⟩=some (.slice Bs l[j].tin.length ds)/\w'.cell? ⟨g,j*3+2,none⟩=some (.slice Ds l[j].tout.length es)) w':=fun w' hb=>⟨⟨zb hb p0,zb hb p1,zb hb p2,zb hb p3,zb hb p4,zb hb p5⟩,zb hb y0,zb hb y1,zb hb y2⟩
   have yI:=zh hcell;have hfw:=(zqj p l[j] F (F.toNat*2000+2000) _ _ wr.drew (yT.out _ (zka hbW hcd)) (nW.out.later hcd) (by have:=HC.out _ (List.getElem_mem hlj);omega) HF.out.1 HF.out.2 (Nat.le_refl _))
   have dz:=zh (show zn5 p F l[j]=decide ((resO p l[j] F (F.toNat*2000+2000) false).2.2.1=15) from rfl);generalize resO p l[j] F (F.toNat*2000+2000) false=R at hfw dz;obtain⟨R1,R2,R3,R4⟩:=R;have had:Calls Tryz.prog 44 [pv A1 p.vs.length c1 A2 p.prs.length c2 p.m.k p.m.n p.m.s A3 p.m.ks.length c3,.agg #[.slice As l[j].cells.length cs,.slice Bs l[j].tin.length ds,.slice Ds l[j].tout.length es],.int .i64 F].toArray wr.drew fun e w'=>∃ v,e=.returned v/\((∃ A6 l6 c6 B6 m6 d6 D6 k6 f6,v=.agg #[.slice A6 l6 c6,.slice B6 m6 d6,.slice D6 k6 f6,.int .i64 (R2:Int),.int .i64 R3])/\Below wr.heap.size wr w') :=
    hfw.mono fun e w6 ⟨u1,u2,u3,he,gB,hb6,_⟩=>by
     obtain⟨A6,l6,c6,B6,m6,d6,D6,k6,f6,hv⟩:=gB.parts;injection hv with hv;simp only[Array.mk.injEq,List.cons.injEq,and_true] at hv;obtain⟨rfl,rfl,rfl⟩:=hv;exact⟨_,he,⟨_,_,_,_,_,_,_,_,_,rfl⟩,zka hcd hb6⟩
   have hfl:∀ A6 l6 c6 B6 m6 d6 D6 k6 f6 w6,(Instr.field 91 (.agg #[.slice A6 l6 c6,.slice B6 m6 d6,.slice D6 k6 f6,.int .i64 (R2:Int),.int .i64 R3]) 2).run Tryz.prog w6=.ok (.int .i64 R3) w6:=fun _ _ _ _ _ _ _ _ _ _=>by kernel_rfl
   clear hfw p0 p1 p2 p3 p4 p5 y0 y1 y2 hkp hsv hcell;go_upto_region 4 with fail;have hSS:(fun w':World=>(w'.cell? ⟨N,0,none⟩=some (.slice A1 p.vs.length c1)/\w'.cell? ⟨N,1,none⟩=some (.slice A2 p.prs.length c2)/\w'.cell? ⟨N,2,none⟩=some (.int .u8 p.m.k)/\w'.cell? ⟨N,3,none⟩=some (.int .i64 p.m.n)/\w'.cell? ⟨N,4,none⟩=some (.string p.m.s)/\w'.cell? ⟨N,5,none⟩=some (.slice A3 p.m.ks.length c3))/\w'.cell? ⟨g,j*3,none⟩=some (.slice As l[j].cells.length cs)/\w'.cell? ⟨g,j*3+1,none⟩=some (.slice Bs l[j].tin.length ds)/\w'.cell? ⟨g,j*3+2,none⟩=some (.slice Ds l[j].tout.length es)) wr.drew/\(fun _:World=>True) wr.drew:=⟨yI.out _ hcd,trivial⟩
   refine wp_region_noPanic ?_;refine zkd (fun w':World=>(w'.cell? ⟨N,0,none⟩=some (.slice A1 p.vs.length c1)/\w'.cell? ⟨N,1,none⟩=some (.slice A2 p.prs.length c2)/\w'.cell? ⟨N,2,none⟩=some (.int .u8 p.m.k)/\w'.cell? ⟨N,3,none⟩=some (.int .i64 p.m.n)/\w'.cell? ⟨N,4,none⟩=some (.string p.m.s)/\w'.cell? ⟨N,5,none⟩=some (.slice A3 p.m.ks.length c3))/\w'.cell? ⟨g,j*3,none⟩=some (.slice As l[j].cells.length cs)/\w'.cell? ⟨g,j*3+1,none⟩=some (.slice Bs l[j].tin.length ds)/\w'.cell? ⟨g,j*3+2,none⟩=some (.slice Ds l[j].tout.length es)) (fun _:World=>True) 20 (by kernel_rfl) ?_;refine zT 0 hSS ?_;(try simp only[zQ]);refine zT 1 hSS ?_;(try simp only[zQ]);refine zT 2 hSS ?_;(try simp only[zQ]);refine zT 3 hSS ?_;(try simp only[zQ]);refine zT 4 hSS ?_;(try simp only[zQ]);refine zT 5 hSS ?_;(try simp only[zQ]);refine zo 6 fun K hK=>?_
   refine zke (by rfl) (.func 44) [.tmp 14,.tmp 18,.tmp 19] _ (by rfl) 44 _ zx3 (by rfl) _ (by rfl) _ had ?_;rintro v6 w6 ⟨⟨A6,l6,c6,B6,m6,d6,D6,k6,f6,rfl⟩,hb6⟩;have yP:(fun w':World=>(w'.cell? ⟨N,0,none⟩=some (.slice A1 p.vs.length c1)/\w'.cell? ⟨N,1,none⟩=some (.slice A2 p.prs.length c2)/\w'.cell? ⟨N,2,none⟩=some (.int .u8 p.m.k)/\w'.cell? ⟨N,3,none⟩=some (.int .i64 p.m.n)/\w'.cell? ⟨N,4,none⟩=some (.string p.m.s)/\w'.cell? ⟨N,5,none⟩=some (.slice A3 p.m.ks.length c3))/\w'.cell? ⟨g,j*3,none⟩=some (.slice As l[j].cells.length cs)/\w'.cell? ⟨g,j*3+1,none⟩=some (.slice Bs l[j].tin.length ds)/\w'.cell? ⟨g,j*3+2,none⟩=some (.slice Ds l[j].tout.length es)) w6/\(fun _:World=>True) w6:=⟨yI.out _ hb6,trivial⟩
   refine hK.out _ _ yP ?_;have aO:=zh (zka kF.out hb6);clear hK K hSS had hcd hb6 hbW;(try simp only[zQ]);refine zT 7 yP ?_;(try simp only[zQ]);refine zT 8 yP ?_;(try simp only[zQ]);refine zd ?_;refine NoPanic.normal ?_;clear yP hfl;by_cases xG:R3=15
   ·have HT:=zh (show zn5 p F l[j]=true by rw[dz.out];exact decide_eq_true xG);subst xG;go_wp2_with fail;go_ret;exact⟨zka HB1.out aO.out,_,rfl,.inr ⟨j,hlj,rfl,zx0 hlj ko.out HT.out⟩⟩
   ·have e15:(R3==15)=false:=by simpa using xG
    have HT:=zh (show zn5 p F l[j]=false by rw[dz.out];exact decide_eq_false xG);go_wp2_with fail
    go_roundw
    case rel=>exact⟨j+1,by omega,by go_num,aO,zh fun k hk h=>by
     by_cases e:k=j
     ·subst e;exact HT.out
     ·exact ko.out k hk (by omega)⟩
    case measure=>simp[intOf];omega
  ·obtain rfl:j=n:=by omega
   go_wp2_with fail;go_ret;exact⟨zka HB1.out kF.out,_,rfl,.inl ⟨rfl,zxZ fun k hk=>ko.out k hk (by have:=HN.out;omega)⟩⟩
theorem zxY:IsFn Tryz.prog 17 Tryz.f17:=⟨Tryz.func17,by kernel_rfl,by kernel_rfl⟩
theorem bStZ (w:World):(Instr.build 34 #[]).run Tryz.prog w=.ok (.agg #[.slice none 0 0,.slice none 0 0,.slice none 0 0]) w:=by kernel_rfl
theorem zxO (w:World) (S:Nat->Prop):SV w S ⟨[],[],[]⟩ (.agg #[.slice none 0 0,.slice none 0 0,.slice none 0 0]) :=
 ⟨none,0,none,0,none,0,rfl,fun i hi=>by simp at hi,fun i hi=>by simp at hi,fun i hi=>by simp at hi,by simp,by simp,by simp,by simp[LI],by intro l hl;simp at hl,by simp[LI],by simp[LI]⟩
theorem zxX:SS.Sm ⟨[],[],[]⟩:=⟨by decide,(by intro l hl;simp at hl),by decide,by decide⟩
theorem zxU {vs:List VD} {b:BX} {t:T} {F:Int} (hs:smL vs b=true) :
  (stsL vs b 150=none/\zoC t vs b F=none)\/∃ l,stsL vs b 150=some l/\l=allS b (lenE vs b)/\(b.ok&&svB vs)=true/\l.length<=65536/\zoC t vs b F=l.find? (zn5 (zlT vs [] t) F):=by
 unfold smL at hs;simp only[Bool.and_eq_true,Bool.or_eq_true,decide_eq_true_eq] at hs;unfold stsL zoC;by_cases h0:(cntR vs b).2=0/\(cntR vs b).1<=150
 ·have hsm:smlE vs b=true:=by
   unfold smlE;simp only[Bool.and_eq_true,decide_eq_true_eq];exact⟨h0.1,by omega⟩
  obtain⟨h1,h2⟩:=zrL hsm;rw[if_pos h0,if_pos hsm];exact .inr ⟨_,rfl,rfl,h1,zuP h1 h2,rfl⟩
 ·rw[if_neg h0];have hsm:smlE vs b=false:=by
   unfold smlE;rcases hs.2 with h|h
   ·rw[h];rfl
   ·exact absurd h h0
  rw[if_neg (by rw[hsm];simp)];exact .inl ⟨rfl,rfl⟩
theorem zx2 {vs:List VD} {b:BX} (h:(b.ok&&svB vs)=true):∀ x∈allS b (lenE vs b),x.Sm/\x.cells.length<=100:=by
 intro x hx;obtain⟨y,hy,rfl⟩:=List.mem_map.1 hx;have h1:=zuQ rfl y hy;have h2:=zmq h;have h3:=h1.len;have h4:∀ i (hi:i<y.length),y[i].length<=1000:=fun i hi=>by
  have h5:=(h1.get i (by omega) hi).2.1;have h6:=(h2.2.2.1 _ (List.getElem_mem (show i<(lenE vs b).length by omega))).2.2;omega
 have h7:∀ l∈y,l.length<=1000:=fun l hl=>by obtain⟨i,hi,rfl⟩:=List.mem_iff_getElem.1 hl;exact h4 i hi
 have ht:(stOf y).tin.length<=1000:=by
  show(y.getLastD []).length<=1000
  rw[zpn (n:=y.length) rfl (by omega)];exact h4 _ (by omega)
 have hc:(stOf y).cells.length=y.length-1:=by simp[stOf]
 exact⟨⟨by omega,fun l hl=>by have:=h7 l ((List.dropLast_sublist y).subset hl);omega,by omega,Nat.zero_le _⟩,by omega⟩
theorem zxS (haw:AwP) {W:World} {vs:List VD} {b:BX} {t:T} {v:Value} {A1:Option Addr} {c1:Nat} {u:Int} (hv:NV W Any t v) (hr:RowV W Any A1 vs) (hl:vs.length<=LV) (hlc:vs.length<=c1) (hu:0<=u/\u<=255) :
  Calls Tryz.prog 4 #[v,.slice A1 vs.length c1,.agg #[.int .i64 b.v,.int .i64 b.l,.int .i64 b.i],.int .u8 u] W fun e w'=>e=.returned (.bool true)/\Below W.heap.size W w':=by
 have vH:=zh haw;have yK:=zh (fun w' (hb:Below W.heap.size W w')=>zvc t v w' (hv.later hb));have yL:=zh (fun w' (hb:Below W.heap.size W w')=>zxR vs b A1 c1 w' (hr.later hb) hl);have gq:=zh (fun w' (hb:Below W.heap.size W w')=>znj (b:=b) (F:=2*u) (hv.later hb) (hr.later hb) hl hlc ⟨by omega,by omega⟩ (by omega));have HSTS:=zh (fun w' (hb:Below W.heap.size W w')=>zxQ (b:=b) (m:=150) (c1:=c1) (hr.later hb) hl (by decide));have HALO:=zh (fun w' (hb:Below W.heap.size W w')=>zxV (prs:=[]) (A2:=none) (c2:=0) (hv.later hb) (hr.later hb) hl hlc (fun i hi=>by cases hi) (by decide) (by decide));have HFAI:=zh (fun w' pv v (l:List SS) n0 S (hp:PV w' Any (zlT vs [] t) pv) (hv:zxK w' n0 S v l) hl hc=>zxT (F:=2*u) hp hv hl hc ⟨by omega,by omega⟩ (by omega));obtain⟨A3,c3,rfl,-⟩:=hv.open_;have dV:=zh (fun h=>zxU (vs:=vs) (b:=b) (t:=t) (F:=2*u) h)
 have HSMX:=zh (fun h=>zx2 (vs:=vs) (b:=b) h);obtain⟨k,n,nm,ks⟩:=t;obtain⟨bv,bl,bi⟩:=b;simp only[T.k_nd,T.n_nd,T.s_nd,T.ks_nd] at yK gq HALO ⊢;obtain⟨N,hN⟩:∃ N,W.heap.size=N:=⟨_,rfl⟩
 have hb1:=zkc (zkc (Below.refl W.heap.size W) (.cells #[.int .u8 k,.int .i64 n,.string nm,.slice A3 ks.length c3] 24)) (.cells #[.int .i64 bv,.int .i64 bl,.int .i64 bi] 27);have k0:=zkf (zlA W hN (.cells #[.int .u8 k,.int .i64 n,.string nm,.slice A3 ks.length c3] 24)) (.cells #[.int .i64 bv,.int .i64 bl,.int .i64 bi] 27);have k1:=zlA (W.alloc (.cells #[.int .u8 k,.int .i64 n,.string nm,.slice A3 ks.length c3] 24)) (n:=N+1) (by simp[hN]) (.cells #[.int .i64 bv,.int .i64 bl,.int .i64 bi] 27);obtain⟨w1,hw1⟩:∃ x,(W.alloc (.cells #[.int .u8 k,.int .i64 n,.string nm,.slice A3 ks.length c3] 24)).alloc (.cells #[.int .i64 bv,.int .i64 bl,.int .i64 bi] 27)=x:=⟨_,rfl⟩
 rw[hw1] at hb1 k0 k1;have HB1:=zh hb1;have aP:=zh k0;have aB:=zh k1;have HN:=zh hN;have hwu:IntKind.i64.wrap u=u:=IntWalk.i64_in _ (by omega);have vM:IntKind.i64.wrap (2*u)=2*u:=IntWalk.i64_in _ (by omega)
 show Calls Tryz.prog 4 #[.agg #[.int .u8 k,.int .i64 n,.string nm,.slice A3 ks.length c3],.slice A1 vs.length c1,.agg #[.int .i64 bv,.int .i64 bl,.int .i64 bi],.int .u8 u] W _
 clear hv hr hl hlc hb1 k0 k1 haw;go_enter Tryz.func4,Tryz.ntmps4;go_wp2_with fail;clear hw1;refine(vH.out _).mono ?_;rintro e2 w2 ⟨rfl,hb2⟩;have HB2:=zh (zka HB1.out hb2);have eT:=zh (zkb aP.out hb2);have eQ:=zh (zkb aB.out hb2);obtain⟨x0,x1,x2,x3⟩:=box4 eT.out;clear hb2;go_wp2_with fail;refine(yK.out _ HB2.out).mono ?_;rintro e3 w3 ⟨bg,rfl,hb3⟩;have HB3:=zh (zka HB2.out hb3);have rQ:=zh (zkb eT.out hb3);have oF:=zh (zkb eQ.out hb3);obtain⟨y0,y1,y2⟩:=zkr oF.out;clear hb3 x0 x1 x2 x3
 cases bg
 rotate_left 1
 ·go_wp2_with fail;go_ret;exact⟨rfl,HB3.out⟩
 go_wp2_with fail;refine(yL.out _ HB3.out).mono ?_;obtain⟨sm,hsm⟩:∃ x,smL vs ⟨bv,bl,bi⟩=x:=⟨_,rfl⟩
 rw[hsm];have HS:=zh hsm;clear hsm;rintro e4 w4 ⟨rfl,hb4⟩;have ak:=zh (zka HB3.out hb4);have oG:=zh (zkb rQ.out hb4);have oD:=zh (zkb oF.out hb4);obtain⟨x0,x1,x2,x3⟩:=box4 oG.out;obtain⟨z0,z1,z2⟩:=zkr oD.out;clear hb4 y0 y1 y2
 cases sm
 ·go_wp2_with fail;go_ret;exact⟨rfl,ak.out⟩
 have yJ:=zh (dV.out HS.out);go_wp2_with fail;refine(gq.out _ ak.out).mono ?_;obtain⟨RC,hRC⟩:∃ RC,zoC (.nd k n nm ks) vs ⟨bv,bl,bi⟩ (2*u)=RC:=⟨_,rfl⟩
 rw[hRC] at yJ ⊢;obtain⟨RS,hRS⟩:∃ RS,stsL vs ⟨bv,bl,bi⟩ 150=RS:=⟨_,rfl⟩
 rw[hRS] at yJ HSTS;clear hRC hRS dV;rintro e5 w5 ⟨hb5,v5,ok,rfl,h5⟩;obtain⟨A5,la,c5,B5,lb,d5,D5,ld,f5,rfl⟩:∃ A l c B m d D k e,v5=.agg #[.slice A l c,.slice B m d,.slice D k e]:=by
  rcases h5 with⟨-,-,h⟩|⟨s,-,-,h⟩
  ·exact⟨_,_,_,_,_,_,_,_,_,h⟩
  ·obtain⟨A,c,B,d,D,e,h,-⟩:=h;exact⟨_,_,_,_,_,_,_,_,_,h⟩
 have HNIL:=zh (show RC=none->ok=false/\A5=none/\la=0/\c5=0/\B5=none/\lb=0/\d5=0/\D5=none/\ld=0/\f5=0 from fun hn=>by
  rcases h5 with⟨-,h1,h2⟩|⟨s,h,-⟩
  ·injection h2 with h2;simp only[Array.mk.injEq,List.cons.injEq,and_true,Value.slice.injEq] at h2;exact⟨h1,h2.1.1,h2.1.2.1,h2.1.2.2,h2.2.1.1,h2.2.1.2.1,h2.2.1.2.2,h2.2.2.1,h2.2.2.2.1,h2.2.2.2.2⟩
  ·rw[hn] at h;cases h)
 have HSOM:=zh (show ∀ s,RC=some s->ok=true/\SV w5 Any s (.agg #[.slice A5 la c5,.slice B5 lb d5,.slice D5 ld f5]) from fun s hs=>by
  rcases h5 with⟨h,-⟩|⟨q,h,h1,h2⟩
  ·rw[hs] at h;cases h
  ·rw[hs] at h;injection h with h;subst h;exact⟨h1,h2.any⟩)
 have vX:=zkc (Below.refl w5.heap.size w5) (.cells #[.slice A5 la c5,.slice B5 lb d5,.slice D5 ld f5] 34);have hk5:=heap_alloc_new w5 (.cells #[.slice A5 la c5,.slice B5 lb d5,.slice D5 ld f5] 34);go_upto_region 6 with fail;obtain⟨w6,sI⟩:∃ x,w5.alloc (.cells #[.slice A5 la c5,.slice B5 lb d5,.slice D5 ld f5] 34)=x:=⟨_,rfl⟩
 rw[sI] at vX hk5 ⊢;obtain⟨sb,hsb⟩:∃ x,w5.heap.size=x:=⟨_,rfl⟩
 have hba2:=vX;rw[hsb] at hk5 ⊢;have HB56:=zh hba2;have aO:=zh (zka (zka ak.out hb5) vX);have ek:=zh hk5;have rP:=zh (zkb (zkb oG.out hb5) vX);have rM:=zh (zkb (zkb oD.out hb5) vX);clear x0 x1 x2 x3 z0 z1 z2 hb5 vX hba2 hk5 sI hsb h5;obtain⟨z0,z1,z2⟩:=zkr rM.out;have hbz:=bStZ;go_wp2_with fail;refine(HSTS.out _ aO.out).mono ?_;rintro e7 w7 ⟨bF,h7⟩;have HB67:=zh bF;have sD:=zh (zka aO.out bF);have HK07:=zh (zkb rP.out bF);have yQ:=zh (zkb ek.out bF);clear z0 z1 z2 bF;rcases h7 with⟨hn,rfl⟩|⟨l,v7,hs,rfl,hrt⟩
 ·have jJ:=zh (show RC=none by
   rcases yJ.out with⟨-,h⟩|⟨l,h,-⟩
   ·exact h
   ·rw[hn] at h;cases h)
  clear hn;obtain⟨rfl,rfl,rfl,rfl,rfl,rfl,rfl,rfl,rfl,rfl⟩:=HNIL.out jJ.out;obtain⟨q0,q1,q2⟩:=zkr yQ.out;have oM:=zh (zmJ ⟨[],[],[]⟩ ⟨[],[],[]⟩ _ _ w7 (zxO w7 Any) (zxO w7 Any) zxX zxX);rw[show eqS ⟨[],[],[]⟩ ⟨[],[],[]⟩=true from by decide] at oM;go_wp2_with fail;refine oM.out.mono ?_;rintro e9 w9 ⟨rfl,aH⟩;have aW:=zh (zka sD.out aH);clear aH q0 q1 q2;go_wp2_with fail;go_ret;exact⟨rfl,aW.out⟩
 ·obtain⟨hle,hok,hln,xu⟩:l=allS ⟨bv,bl,bi⟩ (lenE vs ⟨bv,bl,bi⟩)/\(BX.ok ⟨bv,bl,bi⟩&&svB vs)=true/\l.length<=65536/\RC=l.find? (zn5 (zlT vs [] (.nd k n nm ks)) (2*u)):=by
   rcases yJ.out with⟨h,-⟩|⟨l',h,h2⟩
   ·rw[hs] at h;cases h
   ·rw[hs] at h;injection h with h;subst h;exact h2
  have hsx:=HSMX.out hok;rw[<-hle] at hsx;have yV:=zh hsx;have ve:=zh hln;have vB:=zh xu;have yN:=zh hrt;clear hsx hln xu hok hle hs HSMX yJ;obtain⟨Al,cl,rfl⟩:=hrt.slice;clear hrt;obtain⟨x0,x1,x2,x3⟩:=box4 HK07.out;go_wp2_with fail;refine(HALO.out _ sD.out).mono ?_;rintro e8 w8 ⟨A8,rfl,hpv,dm⟩;have bA:=zh (zka sD.out dm);have HB78:=zh dm;have HFA:=zh (HFAI.out w8 _ _ l _ _ hpv (yN.out.keep (S':=fun q=>W.heap.size<=q) (fun q h _=>Nat.le_trans aO.out.size h) fun q _ hlt=>dm.block q hlt) ve.out fun x hx=>(yV.out x hx).2);clear hpv dm x0 x1 x2 x3;go_wp2_with fail;refine HFA.out.mono ?_;rintro ea wa ⟨vX,r,rfl,hix⟩;have gL:=zh (zka bA.out vX);have yM:=zh (zka HB78.out vX);clear vX;rcases hix with⟨rfl,hno⟩|⟨i,hi,rfl,hyes⟩
  ·have jJ:=zh (show RC=none from vB.out.trans hno);clear hno;obtain⟨rfl,rfl,rfl,rfl,rfl,rfl,rfl,rfl,rfl,rfl⟩:=HNIL.out jJ.out;obtain⟨q0,q1,q2⟩:=zkr (zkb yQ.out yM.out);have oM:=zh (zmJ ⟨[],[],[]⟩ ⟨[],[],[]⟩ _ _ wa (zxO wa Any) (zxO wa Any) zxX zxX);rw[show eqS ⟨[],[],[]⟩ ⟨[],[],[]⟩=true from by decide] at oM;go_wp2_with fail;refine oM.out.mono ?_;rintro e9 w9 ⟨rfl,aH⟩;have aW:=zh (zka gL.out aH);clear aH q0 q1 q2;go_wp2_with fail;go_ret;exact⟨rfl,aW.out⟩
  ·obtain⟨rfl,hsv⟩:=HSOM.out _ (vB.out.trans hyes);have hi0:¬ (i:Int)<0:=by omega
   have hi1:(0:Int)<=(i:Int):=by omega
   have hi2:(i:Int)<(l.length:Int):=by omega
   obtain⟨g,cap,As,cs,Bs,ds,Ds,es,yY,-,-,y0,y1,y2,hsl⟩:=(yN.out.keep (S':=fun q=>W.heap.size<=q) (fun q h _=>Nat.le_trans aO.out.size h) fun q _ hlt=>yM.out.block q hlt).nd hi;injection yY with e1 e2 e3;subst e1;obtain⟨q0,q1,q2⟩:=zkr (zkb yQ.out yM.out);have hxm:=(yV.out _ (List.getElem_mem hi)).1;have nW:=zh (And.intro (hsv.later (zka HB56.out (zka HB67.out yM.out))) (And.intro hsl.any hxm));clear hsv hsl hyes hxm vB yN;generalize l[i]=X at nW y0 y1 y2;go_upto_region 12 with fail;have hcd:=Below.drew (Below.refl wa.heap.size wa)
   have hcell:∀ w',Below wa.heap.size wa w'->(fun w':World=>(w'.cell? ⟨sb,0,none⟩=some (.slice A5 la c5)/\w'.cell? ⟨sb,1,none⟩=some (.slice B5 lb d5)/\w'.cell? ⟨sb,2,none⟩=some (.slice D5 ld f5))/\w'.cell? ⟨g,i*3,none⟩=some (.slice As X.cells.length cs)/\w'.cell? ⟨g,i*3+1,none⟩=some (.slice Bs X.tin.length ds)/\w'.cell? ⟨g,i*3+2,none⟩=some (.slice Ds X.tout.length es)) w':=fun w' hb=>⟨⟨zb hb q0,zb hb q1,zb hb q2⟩,zb hb y0,zb hb y1,zb hb y2⟩
   have yI:=zh hcell;have had:Calls Tryz.prog 17 [.agg #[.slice A5 la c5,.slice B5 lb d5,.slice D5 ld f5],.agg #[.slice As X.cells.length cs,.slice Bs X.tin.length ds,.slice Ds X.tout.length es]].toArray wa.drew fun e w'=>∃ v,e=.returned v/\(v=.bool true/\Below wa.heap.size wa w') :=
    (zmJ X X _ _ wa.drew (nW.out.1.later hcd) (nW.out.2.1.later hcd) nW.out.2.2 nW.out.2.2).mono fun e w' ⟨h1,h2⟩=>⟨_,h1,by rw[show eqS X X=true by simp[eqS]],zka hcd h2⟩
   have hSS:(fun w':World=>(w'.cell? ⟨sb,0,none⟩=some (.slice A5 la c5)/\w'.cell? ⟨sb,1,none⟩=some (.slice B5 lb d5)/\w'.cell? ⟨sb,2,none⟩=some (.slice D5 ld f5))/\w'.cell? ⟨g,i*3,none⟩=some (.slice As X.cells.length cs)/\w'.cell? ⟨g,i*3+1,none⟩=some (.slice Bs X.tin.length ds)/\w'.cell? ⟨g,i*3+2,none⟩=some (.slice Ds X.tout.length es)) wa.drew/\(fun _:World=>True) wa.drew:=⟨yI.out _ hcd,trivial⟩
   clear q0 q1 q2 y0 y1 y2 hcell hcd;refine wp_region_noPanic ?_;refine zkd (fun w':World=>(w'.cell? ⟨sb,0,none⟩=some (.slice A5 la c5)/\w'.cell? ⟨sb,1,none⟩=some (.slice B5 lb d5)/\w'.cell? ⟨sb,2,none⟩=some (.slice D5 ld f5))/\w'.cell? ⟨g,i*3,none⟩=some (.slice As X.cells.length cs)/\w'.cell? ⟨g,i*3+1,none⟩=some (.slice Bs X.tin.length ds)/\w'.cell? ⟨g,i*3+2,none⟩=some (.slice Ds X.tout.length es)) (fun _:World=>True) 20 (by kernel_rfl) ?_;refine zT 0 hSS ?_;(try simp only[zQ]);refine zT 1 hSS ?_;(try simp only[zQ]);refine zT 2 hSS ?_;(try simp only[zQ]);refine zT 3 hSS ?_;(try simp only[zQ]);refine zT 4 hSS ?_;(try simp only[zQ]);refine zT 5 hSS ?_;(try simp only[zQ]);refine zT 6 hSS ?_;(try simp only[zQ]);refine zo 7 fun K hK=>?_;refine zlj (by rfl) (.func 17) [.tmp 60,.tmp 64] _ (by rfl) 17 _ zxY (by rfl) _ (by rfl) _ had ?_;rintro v9 w9 ⟨rfl,aH⟩
   have yS:(fun w':World=>(w'.cell? ⟨sb,0,none⟩=some (.slice A5 la c5)/\w'.cell? ⟨sb,1,none⟩=some (.slice B5 lb d5)/\w'.cell? ⟨sb,2,none⟩=some (.slice D5 ld f5))/\w'.cell? ⟨g,i*3,none⟩=some (.slice As X.cells.length cs)/\w'.cell? ⟨g,i*3+1,none⟩=some (.slice Bs X.tin.length ds)/\w'.cell? ⟨g,i*3+2,none⟩=some (.slice Ds X.tout.length es)) w9/\(fun _:World=>True) w9:=⟨yI.out _ aH,trivial⟩
   refine hK.out _ _ yS ?_;have aW:=zh (zka gL.out aH);clear hK K hSS had aH yI;(try simp only[zQ]);refine zT 8 yS ?_;(try simp only[zQ]);refine zT 9 yS ?_;(try simp only[zQ]);refine zd ?_;refine NoPanic.normal ?_;clear yS;go_wp2_with fail;go_ret;exact⟨rfl,aW.out⟩
end Go.Proofs.YtghbhbdnkjjnnaaGreat
