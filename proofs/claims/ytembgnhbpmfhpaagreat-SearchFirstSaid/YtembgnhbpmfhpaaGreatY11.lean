/-
  Texts of the proof, put together without their remarks: Ssm, Srp, Srq, Srt, Sru, Rpj, Srn, Sve, Altb, Sfd, Ser, Sfo, Sex.
-/
import Derived.Test.YtembgnhbpmfhpaaGreatY10
import Derived.Laws.StructEq
import Derived.Maps.OwnSet
import Derived.Maps.OwnIn
set_option linter.unusedSimpArgs false
set_option linter.unusedVariables false
set_option maxHeartbeats 8000000
set_option maxRecDepth 100000
namespace Go.Proofs.YtembgnhbpmfhpaaGreat
open Tryz
section
open Go Go.RowKit
attribute [local go_sem] Oper.semAt_some
def smF(N0:Nat)(s:SS):Nat->Value->List Value->World->Prop
 | 3,v,_,w|13,v,_,w=>zkq w N0 (fun q=>q<N0) v s.cells
 | 8,v,_,w|18,v,_,w=>zkq w N0 (fun q=>q<N0) v [s.tin,s.tout]
 | 9,v,_,w|19,v,_,w=>zkq w N0 (fun q=>q<N0) v (s.cells++[s.tin,s.tout])
 | 20,v,ds,_|21,v,ds,_=>ds=[v]
 | _,v,_,w=>zkq w N0 (fun q=>q<N0) v []
def smD:Nat->List Nat
 | 3=>[0]|9=>[3,8]|13=>[10]|19=>[13,18]|20=>[9]|21=>[19]|_=>[]
def smC:Nat->List Nat
 | 3=>[0]|9=>[3]|13=>[10]|19=>[13]|_=>[]
def smO:Nat->Value->Option Nat
 | 20,_|21,_=>none
 | _,v=>v.ownBlock
theorem zyd{N0:Nat}{s:SS}(i:Nat)(v:Value)(ds:List Value)(w w':World)(C:Nat->Prop)(h:smF N0 s i v ds w)(hc:Chg C w w')(hC:∀b,C b->N0<=b/\∃i,smC i≠[])(ho:∀b,smO i v=some b->¬ C b):smF N0 s i v ds w':=by
 unfold smF at h ⊢;unfold smO at ho
 split at h<;>first|exact zkq.chg h (fun _ h=>h) hc (fun b hb=>(hC b hb).1) ho|exact h|skip
 rename_i h1 h2 h3 h4 h5 h6 h7 h8
 split at ho
 ·exact absurd rfl h7
 ·exact absurd rfl h8
 ·exact zkq.chg h (fun _ h=>h) hc (fun b hb=>(hC b hb).1) ho
theorem zxz{w:World}{S:Nat->Prop}{B D:Option Addr}{x y:List Int}{l2 l3 d e:Nat}(h2:x.length=l2)(h3:y.length=l3)(r2:RowI w S B x)(r3:RowI w S D y)(c2:x.length<=d)(c3:y.length<=e) :
  ∀k (hk:k<[x,y].length) (hv:k<[Value.slice B l2 d,Value.slice D l3 e].length),∃A c,[Value.slice B l2 d,Value.slice D l3 e][k]=.slice A [x,y][k].length c/\[x,y][k].length<=c/\RowI w S A [x,y][k]:=by
 subst h2 h3;intro k hk hv;rcases k with _|_|k
 ·exact⟨B,d,rfl,c2,r2⟩
 ·exact⟨D,e,rfl,c3,r3⟩
 ·simp at hk;omega
theorem bldR{w:World}{N0 n:Nat}{P:Nat->Prop}{C:Nat->Prop}{ls:List (List Int)}{us:List Value}(hN:N0<=w.heap.size)(hl:us.length=n)(hn:ls.length=n)
  (hs:∀k (hk:k<ls.length) (hv:k<us.length),∃A c,us[k]=.slice A ls[k].length c/\ls[k].length<=c/\RowI w (fun q=>q<N0) A ls[k])(hm:n<=1000000) :
  Chg C w (w.alloc (.cells us.toArray 30))/\(∀b,(Value.slice (some ⟨w.heap.size,0,none⟩) n n).ownBlock=some b->(w.heap.size<=b\/P b)/\b<(w.alloc (.cells us.toArray 30)).heap.size) /\
   zkq (w.alloc (.cells us.toArray 30)) N0 (fun q=>q<N0) (.slice (some ⟨w.heap.size,0,none⟩) n n) ls :=
 ⟨Chg.of_below (zka zr _),fun b hb=>by
  injection hb with hb;have hb:w.heap.size=b:=hb;rw[World.size_alloc];exact⟨.inl (by omega),by omega⟩,zkq.built hN hl hn (fun q h=>by have:q<N0:=h;omega) hs hm⟩
theorem zKk{w:World}{S:Nat->Prop}{s:SS}{v:Value}(h:SV w S s v):∀l∈s.cells++[s.tin,s.tout],l.length<=17592186044416:=by
 obtain⟨A,c,B,d,D,e,rfl,a1,a2,a3,a4,a5,a6,a7,a8,a9,a10⟩:=h;intro l hl;simp only[List.mem_append,List.mem_cons,List.not_mem_nil,or_false]at hl;rcases hl with hl|rfl|rfl
 ·exact a8 l hl
 ·exact a9
 ·exact a10
theorem zv4{W:World}{s:SS}{v1 v2:Value}(h1:SV W Any s v1)(h2:SV W Any s v2)(hl:s.cells.length<=100000) :
  Calls prog 48 #[v1,v2] W fun e w'=>e=.returned (.bool true)/\Below W.heap.size W w':=by
 have rF:=zh (show ∀l∈s.cells++[s.tin,s.tout],l.length<=17592186044416 from zKk h1);obtain⟨A,c,B,d,D,e,rfl,a1,a2,a3,a4,a5,a6,-⟩:=h1;obtain⟨A',c',B',d',D',e',rfl,b1,b2,b3,b4,b5,b6,-⟩:=h2;have hb2:=zka (zka (zs W) (.cells #[.slice A s.cells.length c,.slice B s.tin.length d,.slice D s.tout.length e] 32)) (.cells #[.slice A' s.cells.length c',.slice B' s.tin.length d',.slice D' s.tout.length e'] 32);have k0:=zkf (heap_alloc_new W (.cells #[.slice A s.cells.length c,.slice B s.tin.length d,.slice D s.tout.length e] 32)) (.cells #[.slice A' s.cells.length c',.slice B' s.tin.length d',.slice D' s.tout.length e'] 32);have k1:=heap_alloc_new (W.alloc (.cells #[.slice A s.cells.length c,.slice B s.tin.length d,.slice D s.tout.length e] 32)) (.cells #[.slice A' s.cells.length c',.slice B' s.tin.length d',.slice D' s.tout.length e'] 32);rw[World.size_alloc]at k1
 obtain⟨w1,hw1⟩:=zX ((W.alloc (.cells #[.slice A s.cells.length c,.slice B s.tin.length d,.slice D s.tout.length e] 32)).alloc (.cells #[.slice A' s.cells.length c',.slice B' s.tin.length d',.slice D' s.tout.length e'] 32));obtain⟨N,hN⟩:=zX (W.heap.size);rw[hw1]at hb2 k0 k1;have hz1:w1.heap.size=N+2:=by rw[<-hw1,<-hN];simp
 rw[hN]at k0 k1;have hin:∀ {A:Option Addr} {xs:List Int},RowI W Any A xs->RowI w1 (fun q=>q<N+2) A xs:=fun h=>(h.keep (S':=fun q=>q<N+2) (fun q _ h=>by omega) fun _ _ _=>rfl).later hb2;have hin2:∀ {A:Option Addr} {xs:List (List Int)},zlo W Any A xs->zlo w1 (fun q=>q<N+2) A xs:=fun h=>(h.keep (S':=fun q=>q<N+2) (fun q _ h=>by omega) fun _ _ _=>rfl).later hb2;have HB1:=zh hb2;have HZ1:=zh hz1;have aJ:=zh k0;have aB:=zh k1;have HA1:=zh (hin2 a1);have HA2:=zh (And.intro (hin a2) a5);have Ck:=zh (And.intro (hin a3) a6);have HA4:=zh (hin2 b1);have Cj:=zh (And.intro (hin b2) b5);have Ci:=zh (And.intro (hin b3) b6);have HL:=zh hl;obtain⟨x0,x1,x2⟩:=zky k0;obtain⟨y0,y1,y2⟩:=zky k1;obtain⟨l1,hl1⟩:=zX (s.cells.length);obtain⟨l2,hl2⟩:=zX (s.tin.length);obtain⟨l3,hl3⟩:=zX (s.tout.length);have bK:=zh (And.intro hl1 (And.intro hl2 hl3))
 simp only[hl1,hl2,hl3]at x0 x1 x2 y0 y1 y2 hw1 aJ aB ⊢;clear hb2 k0 k1 hz1 a1 a2 a3 b1 b2 b3 a4 a5 a6 b4 b5 b6 hin hin2 hl hl1 hl2 hl3;go_enter func48,ntmps48;go_upto_region 1 with fail
 try rw[hw1]
 try rw[hN]
 clear hw1;go_upto_region 3 with fail;clear x0 x1 x2 y0 y1 y2;have az:=zh (show ∀w',Below (N+2) w1 w'->(fun w':World=>stC w' N A l1 c B l2 d D l3 e/\stC w' (N+1) A' l1 c' B' l2 d' D' l3 e') w' from fun w' hb=>⟨zky ((hb.block _ (by omega)).trans aJ.out),zky ((hb.block _ (by omega)).trans aB.out)⟩);have hSS:zW (fun w':World=>stC w' N A l1 c B l2 d D l3 e/\stC w' (N+1) A' l1 c' B' l2 d' D' l3 e') zU w1.drew:=⟨az.out _ zr.drew,trivial⟩
 refine wp_region_noPanic ?_;refine zG hSS 25 ?_;refine zT 1 hSS ?_;refine zT 2 hSS ?_;refine zT 4 hSS ?_;refine zT 5 hSS ?_;refine zT 6 hSS ?_;refine zT 7 hSS ?_;refine zT 11 hSS ?_;refine zT 12 hSS ?_;refine zT 14 hSS ?_;refine zT 15 hSS ?_;refine zT 16 hSS ?_;refine zT 17 hSS ?_;have hI:(fun w=>Below (N+2) w1 w) w1.drew:=zr.drew;clear hSS;have hsz:∀w,Below (N+2) w1 w->N+2<=w.heap.size:=fun w h=>by have:=h.size;have:=HZ1.out;omega
 have iR:∀w,Below (N+2) w1 w->Below w1.heap.size w1 w:=fun w h=>by rw[HZ1.out];exact h
 refine zoa (T:=[(0,16),(3,19),(8,24),(9,25),(10,26),(13,29),(18,34),(19,35),(20,5),(21,6)]) (z:=22) (n:=22) (N+2) smO smD smC 0 (fun w=>Below (N+2) w1 w) (smF (N+2) s) (by kernel_rfl) (by kernel_rfl) (by simp only[putP,Act.put,zD,zE,zF]) (by decide) (by kernel_rfl) (by kernel_rfl) (by decide) hsz (fun w h=>⟨az.out _ h,trivial⟩) (fun w w' C h hc hC=>h.trans (hc.below (hsz w h) fun b hb=>(hC b hb).1)) zyd (fun q hq=>?_) (fun vs w2 hb2 hF _=>?_) w1.drew hI
 ·simp only[List.mem_cons,List.not_mem_nil,or_false]at hq;rcases hq with rfl|rfl|rfl|rfl|rfl|rfl|rfl|rfl|rfl|rfl
  ·intro oi hoi vs K w2 hb2 hd aa;obtain rfl:=Option.some.inj hoi;simp only[putP,Act.put,zA,zB,zC,zD,zE,zF]at aa ⊢;have hK:=zh aa;clear aa hoi;have hbr:=bRA0;go_simp;obtain⟨g1,g2,g3⟩:=bldR (P:=fun _=>False) (C:=fun _=>False) (w:=w2) (N0:=N+2) (us:=[]) (ls:=[]) (hsz _ hb2) rfl rfl (fun k hk _=>absurd hk (Nat.not_lt_zero k)) (by simp);exact hK.out _ _ (g1.mono fun _ _ h=>h.elim) (fun b hb=>⟨.inl ((g2 b hb).1.resolve_right id),(g2 b hb).2⟩) g3
  ·intro oi hoi vs K w2 hb2 hd aa;generalize bz:putP vs [(0,16),(3,19),(8,24),(9,25),(10,26),(13,29),(18,34),(19,35),(20,5),(21,6)] _=AC at aa ⊢;have hK:=zh aa;clear aa;have hd1:zkq w2 (N+2) (fun q=>q<N+2) (vs 0) _:=hd 0 (by decide);have hd2:=(HA1.out.later (iR _ hb2)).oth c;rw[bK.out.1]at hd2;refine zm3 (K:=K) hoi (.tmp 16) (.tmp 18) (by kernel_rfl) (by kernel_rfl) (hsz _ hb2) (fun _ h=>h) (by rw[<-bz];kernel_rfl) hd1 (by rw[<-bz];kernel_rfl) hd2 (by have:=HL.out;simp;try omega) ?_;intro v' w3 g1 g2 g3;exact hK.out _ _ (g1.mono fun b _ hb=>⟨0,by decide,hb⟩) (fun b hb=>⟨(g2 b hb).1.imp id fun h=>⟨0,by decide,h⟩,(g2 b hb).2⟩) (by first|exact g3|(rw[List.nil_append]at g3;exact g3))
  ·intro oi hoi vs K w2 hb2 hd aa;obtain rfl:=Option.some.inj hoi;simp only[putP,Act.put,zA,zB,zC,zD,zE,zF]at aa ⊢;have hK:=zh aa;clear aa hoi;have hbr:=bRA2 B D l2 d l3 e;go_simp;obtain⟨g1,g2,g3⟩:=bldR (P:=fun _=>False) (C:=fun _=>False) (w:=w2) (N0:=N+2) (us:=[.slice B l2 d,.slice D l3 e]) (ls:=[s.tin,s.tout]) (hsz _ hb2) rfl rfl (zxz bK.out.2.1 bK.out.2.2 (HA2.out.1.later (iR _ hb2)) (Ck.out.1.later (iR _ hb2)) HA2.out.2 Ck.out.2) (by simp);exact hK.out _ _ (g1.mono fun _ _ h=>h.elim) (fun b hb=>⟨.inl ((g2 b hb).1.resolve_right id),(g2 b hb).2⟩) g3
  ·intro oi hoi vs K w2 hb2 hd aa;generalize bz:putP vs [(0,16),(3,19),(8,24),(9,25),(10,26),(13,29),(18,34),(19,35),(20,5),(21,6)] _=AC at aa ⊢;have hK:=zh aa;clear aa;have hd1:zkq w2 (N+2) (fun q=>q<N+2) (vs 3) _:=hd 3 (by decide);have hd2:=zkq.oth (hd 8 (by decide));refine zm3 (K:=K) hoi (.tmp 19) (.tmp 24) (by kernel_rfl) (by kernel_rfl) (hsz _ hb2) (fun _ h=>h) (by rw[<-bz];kernel_rfl) hd1 (by rw[<-bz];kernel_rfl) hd2 (by have:=HL.out;simp;try omega) ?_;intro v' w3 g1 g2 g3;exact hK.out _ _ (g1.mono fun b _ hb=>⟨3,by decide,hb⟩) (fun b hb=>⟨(g2 b hb).1.imp id fun h=>⟨3,by decide,h⟩,(g2 b hb).2⟩) (by first|exact g3|(rw[List.nil_append]at g3;exact g3))
  ·intro oi hoi vs K w2 hb2 hd aa;obtain rfl:=Option.some.inj hoi;simp only[putP,Act.put,zA,zB,zC,zD,zE,zF]at aa ⊢;have hK:=zh aa;clear aa hoi;have hbr:=bRA0;go_simp;obtain⟨g1,g2,g3⟩:=bldR (P:=fun _=>False) (C:=fun _=>False) (w:=w2) (N0:=N+2) (us:=[]) (ls:=[]) (hsz _ hb2) rfl rfl (fun k hk _=>absurd hk (Nat.not_lt_zero k)) (by simp);exact hK.out _ _ (g1.mono fun _ _ h=>h.elim) (fun b hb=>⟨.inl ((g2 b hb).1.resolve_right id),(g2 b hb).2⟩) g3
  ·intro oi hoi vs K w2 hb2 hd aa;generalize bz:putP vs [(0,16),(3,19),(8,24),(9,25),(10,26),(13,29),(18,34),(19,35),(20,5),(21,6)] _=AC at aa ⊢;have hK:=zh aa;clear aa;have hd1:zkq w2 (N+2) (fun q=>q<N+2) (vs 10) _:=hd 10 (by decide);have hd2:=(HA4.out.later (iR _ hb2)).oth c';rw[bK.out.1]at hd2;refine zm3 (K:=K) hoi (.tmp 26) (.tmp 28) (by kernel_rfl) (by kernel_rfl) (hsz _ hb2) (fun _ h=>h) (by rw[<-bz];kernel_rfl) hd1 (by rw[<-bz];kernel_rfl) hd2 (by have:=HL.out;simp;try omega) ?_;intro v' w3 g1 g2 g3;exact hK.out _ _ (g1.mono fun b _ hb=>⟨10,by decide,hb⟩) (fun b hb=>⟨(g2 b hb).1.imp id fun h=>⟨10,by decide,h⟩,(g2 b hb).2⟩) (by first|exact g3|(rw[List.nil_append]at g3;exact g3))
  ·intro oi hoi vs K w2 hb2 hd aa;obtain rfl:=Option.some.inj hoi;simp only[putP,Act.put,zA,zB,zC,zD,zE,zF]at aa ⊢;have hK:=zh aa;clear aa hoi;have hbr:=bRA2 B' D' l2 d' l3 e';go_simp;obtain⟨g1,g2,g3⟩:=bldR (P:=fun _=>False) (C:=fun _=>False) (w:=w2) (N0:=N+2) (us:=[.slice B' l2 d',.slice D' l3 e']) (ls:=[s.tin,s.tout]) (hsz _ hb2) rfl rfl (zxz bK.out.2.1 bK.out.2.2 (Cj.out.1.later (iR _ hb2)) (Ci.out.1.later (iR _ hb2)) Cj.out.2 Ci.out.2) (by simp);exact hK.out _ _ (g1.mono fun _ _ h=>h.elim) (fun b hb=>⟨.inl ((g2 b hb).1.resolve_right id),(g2 b hb).2⟩) g3
  ·intro oi hoi vs K w2 hb2 hd aa;generalize bz:putP vs [(0,16),(3,19),(8,24),(9,25),(10,26),(13,29),(18,34),(19,35),(20,5),(21,6)] _=AC at aa ⊢;have hK:=zh aa;clear aa;have hd1:zkq w2 (N+2) (fun q=>q<N+2) (vs 13) _:=hd 13 (by decide);have hd2:=zkq.oth (hd 18 (by decide));refine zm3 (K:=K) hoi (.tmp 29) (.tmp 34) (by kernel_rfl) (by kernel_rfl) (hsz _ hb2) (fun _ h=>h) (by rw[<-bz];kernel_rfl) hd1 (by rw[<-bz];kernel_rfl) hd2 (by have:=HL.out;simp;try omega) ?_;intro v' w3 g1 g2 g3;exact hK.out _ _ (g1.mono fun b _ hb=>⟨13,by decide,hb⟩) (fun b hb=>⟨(g2 b hb).1.imp id fun h=>⟨13,by decide,h⟩,(g2 b hb).2⟩) (by first|exact g3|(rw[List.nil_append]at g3;exact g3))
  ·intro oi hoi vs K w2 hb2 hd aa;obtain rfl:=Option.some.inj hoi;simp only[putP,Act.put,zA,zB,zC,zD,zE,zF]at aa ⊢;have hK:=zh aa;clear aa hoi;go_simp;exact hK.out _ _ (Chg.refl _ _) (fun b hb=>by cases hb) rfl
  ·intro oi hoi vs K w2 hb2 hd aa;obtain rfl:=Option.some.inj hoi;simp only[putP,Act.put,zA,zB,zC,zD,zE,zF]at aa ⊢;have hK:=zh aa;clear aa hoi;go_simp;exact hK.out _ _ (Chg.refl _ _) (fun b hb=>by cases hb) rfl
 ·have f1:zkq w2 (N+2) (fun q=>q<N+2) (vs 9) (s.cells++[s.tin,s.tout]):=hF (9,25) (by decide) (by decide);have f2:zkq w2 (N+2) (fun q=>q<N+2) (vs 19) (s.cells++[s.tin,s.tout]):=hF (19,35) (by decide) (by decide);have e1:[vs 9]=[vs 20]:=hF (20,5) (by decide) (by decide);have e2:[vs 19]=[vs 21]:=hF (21,6) (by decide) (by decide);injection e1 with e1;injection e2 with e2;rw[e1]at f1;rw[e2]at f2;clear hF;obtain⟨A1,c1,q1,-,r1⟩:=(f1.keep (S':=Any) (fun _ _ _=>trivial) fun _ _ _=>rfl).ii fun _ _ _=>trivial;obtain⟨A2,c2,q2,-,r2⟩:=(f2.keep (S':=Any) (fun _ _ _=>trivial) fun _ _ _=>rfl).ii fun _ _ _=>trivial;have hbw:Below W.heap.size W w2:=HB1.out.trans (hb2.mono (by have:=HZ1.out;omega));have fM:=zh hbw;have nD:=zh (show ∀l∈s.cells++[s.tin,s.tout],l.length<=17592186044416 from rF.out);have bB:=zh (show(s.cells++[s.tin,s.tout]).length<=200000 by have:=HL.out;simp;omega)
  obtain⟨L,hL⟩:=zX (s.cells++[s.tin,s.tout]);rw[hL]at q1 q2 r1 r2 nD bB;obtain⟨n,hn⟩:=zX (L.length);rw[hn]at q1 q2 bB;have HR1:=zh r1;have HR2:=zh r2;have qp:=zh hn;simp only[putP,Act.put,zD,zE,zF];rw[q1,q2];generalize vs 0=v0;generalize vs 3=v3;generalize vs 8=v8;generalize vs 9=v9;generalize vs 10=v10;generalize vs 13=v13;generalize vs 18=v18;generalize vs 19=v19;clear q1 q2 e1 e2 f1 f2 r1 r2 hn hbw hL hb2 hI hsz iR az HA1 HA2 Ck HA4 Cj Ci aJ aB HB1 rF;refine zd ?_;refine NoPanic.normal ?_;have zH:n<=200000:=bB.out;go_wp2_with fail
  go_loopw [7] (fun i wr=>∃j:Nat,j<=n/\i=.int .i64 j/\Hid (Below w2.heap.size w2 wr)) (fun i _=>n-(intOf i).toNat)
  case atStart=>exact⟨0,by omega,rfl,zh zr⟩
  case round =>
   obtain⟨j,hj,rfl,HB⟩:=hrel;obtain⟨W0,hW0⟩:∃x,x=wr:=⟨_,rfl⟩
   subst hW0;by_cases hlt:j<n
   ·have hj1:(j:Int)<(n:Int):=by omega
    have hj0:(0:Int)<=(j:Int):=by omega
    obtain⟨a,l,B1,d1,rfl,HE,x0,hx,hr1⟩:=(HR1.out.later HB.out).nd (i:=j) (by rw[qp.out];exact hlt);obtain⟨b,l',B2,d2,rfl,HE',y0,hy,hr2⟩:=(HR2.out.later HB.out).nd (i:=j) (by rw[qp.out];exact hlt);obtain rfl:l=l':=HE.out.symm.trans HE'.out;have hll:l.length<=17592186044416:=nD.out l (by rw[<-HE.out];exact List.getElem_mem _);have HR3:=zh hr1;have HR4:=zh hr2;have HX0:=zh x0;have HY0:=zh y0;obtain⟨m,hm⟩:=zX (l.length);have iG:=zh hm;rw[hm]at x0 y0 hll HX0 HY0;clear hr1 hr2 hx hy hm HE HE';go_upto_region 7 with fail
    go_quiet (fail)
    have aQ:=zh (zkm zr nq:Below W0.heap.size W0 _);clear x0 y0;go_wp2_with fail
    go_loopw [8] (fun i wr=>∃k:Nat,k<=m/\i=.int .i64 k/\Hid (Below W0.heap.size W0 wr)) (fun i _=>m-(intOf i).toNat)
    case atStart=>exact⟨0,by omega,rfl,aQ⟩
    case round =>
     obtain⟨k,hk,rfl,vT⟩:=hrel;have x0:=zb vT.out HX0.out;have y0:=zb vT.out HY0.out;by_cases hkl:k<m
     ·have hk1:(k:Int)<(m:Int):=by omega
      have hk0:(0:Int)<=(k:Int):=by omega
      obtain⟨a3,rfl,-,x3,-⟩:=(HR3.out.later vT.out) k (by rw[iG.out];exact hkl);obtain⟨b3,rfl,-,y3,-⟩:=(HR4.out.later vT.out) k (by rw[iG.out];exact hkl);obtain⟨z,hz⟩:=zX (l[k]'(by rw[iG.out];exact hkl));rw[hz]at x3 y3;clear hz;go_upto_region 12 with fail
      go_quiet (fail)
      have aV:=zh (zkm vT.out nq);clear x0 y0 x3 y3;go_wp2_with fail
      go_roundw
      case rel=>exact⟨k+1,by omega,by go_num,aV⟩
      case measure=>simp[intOf];omega
     ·obtain rfl:k=m:=by omega
      have hk1:¬ (k:Int)<(k:Int):=by omega
      go_wp2_with fail
      go_roundw
      case rel=>exact⟨j+1,by omega,by go_num,zh (zkb HB.out vT.out)⟩
      case measure=>simp[intOf];omega
   ·obtain rfl:j=n:=by omega
    have hj1:¬ (j:Int)<(j:Int):=by omega
    go_wp2_with fail;go_ret;exact⟨rfl,by have h:=zkb fM.out HB.out;rw[hN]at h;exact h⟩
end
section
open Go Go.RowKit
theorem znH{v:Int}(hv:0<=v)(a m:Nat):(betE v a m).length=nLst (2*v+1).toNat (a,m):=by
 have h1:=zn7 hv a m;have h2:∀l:List Nat,(((l.map fun i=>(2*v+1).toNat ^ (a+i)).sum:Nat):Int)=(l.map fun i=>(2*v+1) ^ (a+i)).sum:=by
  intro l
  induction l with
  | nil=>rfl
  | cons i l ih =>
   rw[List.map_cons,List.sum_cons,List.map_cons,List.sum_cons,<-ih]
   push_cast
   rw[Int.toNat_of_nonneg (by omega)]
 unfold nLst;have h3:=h2 (List.range (m+1-a));simp only;omega
theorem zyr{b:BX}{v:VD}(hb:b.ok=true)(hv:vdB v=true):(lstE b v).length=nLst (2*b.v+1).toNat (len1 b v):=by
 have hk:=zld hb;unfold lstE len1;rcases zsD hv with⟨h1,h2⟩|⟨h1,h2,h3⟩|⟨h1,h2⟩
 ·rw[if_pos h1,if_neg (by omega),znH hk.1.1];unfold fixE;rw[if_pos h1];rfl
 ·rw[if_neg (by omega),if_pos h1,if_neg (by omega),znH hk.1.1];unfold fixE;rw[if_neg (by omega)]
 ·rw[if_neg (by omega),if_neg (by omega),if_pos h1,znH hk.1.1]
theorem zpy{b:BX}(hb:b.ok=true):∀(vs:List VD) (st:List SS),(∀v∈vs,vdB v=true)->(vs.foldl (fun st v=>stg st (lstE b v)) st).length=st.length*nAll (2*b.v+1).toNat (vs.map (len1 b))
 | [],st,_=>by simp[nAll]
 | v::vs,st,h=>by
  rw[List.foldl_cons,zpy hb vs _ fun u hu=>h u (by simp[hu]),ztE,zyr hb (h v (by simp)),List.map_cons,nAll,Nat.mul_assoc]
theorem zpJ(h:Nat):∀(a b:List Bn),nAll h (a++b)=nAll h a*nAll h b
 | [],b=>by simp[nAll]
 | x::a,b=>by rw[List.cons_append,nAll,nAll,zpJ h a b,Nat.mul_assoc]
theorem znF{α β:Type}(l:List α)(f:α->List β)(n:Nat)(h:∀x,(f x).length=n):(l.flatMap f).length=l.length*n:=by
 induction l with
 | nil=>simp
 | cons x l ih=>rw[List.flatMap_cons,List.length_append,ih,h,List.length_cons,Nat.add_mul];omega
theorem zxW{vs:List VD}{b:BX}(hok:(b.ok&&svB vs)=true)(h60:cntF vs b<=60):(allS b (lenE vs b)).length<=60:=by
 have h:=hok;simp only[Bool.and_eq_true]at h;have hk:=zld h.1;have hr:=(zq9 h.1 h60).all.2;have h1:(allU vs b).length=nAll (2*b.v+1).toNat (lenE vs b):=by
  unfold allU stgF lenE;rw[znF _ _ (betE b.v 0 b.i.toNat).length fun s=>by simp,zpy h.1 vs _ fun v hv=>(zqh h.2).2 v hv,zpJ,znH hk.1.1];simp[nAll]
 have h2:=zp1 (h:=(2*b.v+1).toNat) (by omega) (bs:=lenE vs b) fun q hq=>((zlJ hok).2.2.1 q hq).1;rw[Int.toNat_of_nonneg (by omega)]at h2;unfold allS;rw[List.length_map];omega
theorem zpN{α:Type}:∀ {l l':List α},l.Nodup->(∀x∈l,x∈l')->l.length<=l'.length
 | [],_,_,_=>Nat.zero_le _
 | x::l,l',hn,hs=>by
  classical
  rw[List.nodup_cons]at hn;have hx:=hs x (List.mem_cons_self ..);have h1:l.length<=(l'.erase x).length:=zpN hn.2 fun y hy=>(List.mem_erase_of_ne (fun e=>hn.1 (by rw[<-e];exact hy))).2 (hs y (List.mem_cons_of_mem _ hy));have h2:=List.length_erase_of_mem hx;have h3:=List.length_pos_of_mem hx;rw[List.length_cons];omega
theorem zl5{α β:Type}{l:List α}{f:α->List β}(hl:l.Nodup)(h1:∀x∈l,(f x).Nodup)(h2:∀x∈l,∀y∈l,∀u,u∈f x->u∈f y->x=y):(l.flatMap f).Nodup:=by
 rw[List.nodup_iff_pairwise_ne,List.pairwise_flatMap];exact⟨fun x hx=>h1 x hx,List.Pairwise.imp_of_mem (fun {a b} ha hb hne u hu w hw e=>hne (h2 a ha b hb u hu (e▸hw))) hl⟩
theorem zmu{α β:Type}{l:List α}{f:α->β}(hl:l.Nodup)(hf:∀x y,f x=f y->x=y):(l.map f).Nodup:=by
 rw[List.nodup_iff_pairwise_ne,List.pairwise_map];exact hl.imp fun {a b} hab e=>hab (hf a b e)
theorem zsR(v:Int):(rngZ v).Nodup:=zmu List.nodup_range fun x y h=>by omega
theorem zoV(v:Int):∀n,(tupE v n).Nodup
 | 0=>by simp[tupE]
 | n+1=>by
  rw[tupE];refine zl5 (zoV v n) (fun t _=>zmu (zsR v) fun x y h=>?_) fun s _ t _ u hs ht=>?_
  ·simpa using h
  ·obtain⟨x,-,rfl⟩:=List.mem_map.1 hs;obtain⟨y,-,e⟩:=List.mem_map.1 ht;exact(List.append_inj' e rfl).1.symm
theorem zmP(v:Int)(a m:Nat):(betE v a m).Nodup:=by
 unfold betE;refine zl5 List.nodup_range (fun i _=>zoV v _) fun i _ j _ u hi hj=>?_;have h1:=zl3 hi;have h2:=zl3 hj;omega
theorem zmC{v:Int}{a m:Nat}(ham:a<=m){l:List Int}(h:l∈betE v a m):a<=l.length/\l.length<=m:=by
 unfold betE at h;obtain⟨i,hi,h⟩:=List.mem_flatMap.1 h;rw[List.mem_range]at hi;have:=zl3 h;omega
theorem zrq{v:Int}{a m:Nat}{l:List Int}(h:l∈betE v a m):∀e∈l,-v<=e/\e<=v:=by
 unfold betE at h;obtain⟨i,hi,h⟩:=List.mem_flatMap.1 h;intro e he;have key:∀(n:Nat) (l:List Int),l∈tupE v n->e∈l -> -v<=e/\e<=v:=by
  intro n
  induction n with
  | zero=>intro l h he;rw[tupE,List.mem_singleton]at h;subst h;simp at he
  | succ n ih =>
   intro l h he;rw[tupE]at h;obtain⟨t,ht,h⟩:=List.mem_flatMap.1 h;obtain⟨y,hy,rfl⟩:=List.mem_map.1 h;rcases List.mem_append.1 he with he|he
   ·exact ih t ht he
   ·rw[List.mem_singleton]at he;subst he;unfold rngZ at hy;obtain⟨i,hi,rfl⟩:=List.mem_map.1 hy;rw[List.mem_range]at hi;omega
 exact key _ l h he
def prdB(v:Int):List Bn->List (List (List Int))
 | []=>[[]]
 | b::bs=>(betE v b.1 b.2).flatMap fun l=>(prdB v bs).map fun x=>l::x
theorem zrZ{v:Int}(hv:0<=v):∀bs:List Bn,(prdB v bs).length=nAll (2*v+1).toNat bs
 | []=>rfl
 | b::bs=>by rw[prdB,znF _ _ (prdB v bs).length fun s=>by simp,znH hv,zrZ hv bs,nAll]
theorem zo0(v:Int):∀bs:List Bn,(prdB v bs).Nodup
 | []=>by simp[prdB]
 | b::bs=>by
  rw[prdB];refine zl5 (zmP v _ _) (fun l _=>zmu (zo0 v bs) fun x y h=>(List.cons.inj h).2) fun s _ t _ u hs ht=>?_;obtain⟨x,-,rfl⟩:=List.mem_map.1 hs;obtain⟨y,-,e⟩:=List.mem_map.1 ht;exact(List.cons.inj e).1.symm
theorem zr0{v:Int}:∀ {bs:List Bn},(∀b∈bs,b.1<=b.2)->∀x∈prdB v bs,FitH (2*v+1) bs x
 | [],_,x,h=>by
  rw[prdB,List.mem_singleton]at h;subst h;trivial
 | b::bs,hb,x,h=>by
  rw[prdB]at h;obtain⟨l,hl,h⟩:=List.mem_flatMap.1 h;obtain⟨y,hy,rfl⟩:=List.mem_map.1 h;obtain⟨h1,h2⟩:=zmC (hb b (by simp)) hl;obtain⟨lo,hi⟩:=b;exact⟨h1,h2,fun e he=>ztR (zrq hl e he),zr0 (fun q hq=>hb q (by simp[hq])) y hy⟩
theorem zxF{v:Nat}(hv:1<=v)(lo:Nat):∀n,(lcL lo v n).1<=(((List.range (n-lo)).map fun i=>v ^ (lo+i)).sum:Nat)/\(lcL lo v n).2<=(v ^ n:Nat)/\0<=(lcL lo v n).2
 | 0=>by simp[lcL]
 | n+1=>by
  obtain⟨h1,h2,h3⟩:=zxF hv lo n;have hp:prdE (lcL lo v n).2 v<=((v ^ (n+1):Nat):Int)/\0<=prdE (lcL lo v n).2 v:=by
   have h4:(lcL lo v n).2*(v:Int)<=((v ^ n:Nat):Int)*(v:Int):=Int.mul_le_mul_of_nonneg_right h2 (by omega);have h5:0<=(lcL lo v n).2*(v:Int):=Int.mul_nonneg h3 (by omega);have h6:((v ^ (n+1):Nat):Int)=((v ^ n:Nat):Int)*(v:Int):=by rw[Nat.pow_succ];push_cast;rfl
   rw[h6];unfold prdE
   split
   ·rename_i h;rw[Int.tdiv_eq_ediv_of_nonneg (by unfold maxC;decide)]at h;have h7:=(Int.ediv_lt_iff_lt_mul (show(0:Int)<(v:Int) by omega)).1 h;exact⟨by omega,by unfold maxC;decide⟩
   ·exact⟨h4,h5⟩
  rw[lcL];refine⟨?_,hp.1,hp.2⟩;simp only
  split
  ·rename_i hl;rw[show n+1-lo=(n-lo)+1 by omega,List.range_succ,List.map_append,List.sum_append];simp only[List.map_cons,List.map_nil,List.sum_cons,List.sum_nil,Nat.add_zero];rw[show lo+(n-lo)=n by omega]
   push_cast at h1 h2 ⊢
   omega
  ·rw[show n+1-lo=n-lo by omega];exact h1
theorem zuR{v:Nat}(hv:1<=v):∀(bs:List Bn) (c:Int) (n:Nat),0<=c->c<=n->(∀b∈bs,1<=lcE b v)->bs.foldl (fun s b=>prdE s (lcE b v)) c<=(n*nAll v bs:Nat)
 | [],c,n,_,h,_=>by rw[nAll,Nat.mul_one];exact h
 | b::bs,c,n,h0,h,hb=>by
  have h1:lcE b v<=(nLst v b:Nat):=(zxF hv b.1 (b.2+1)).1;have h2:=hb b (by simp);have h4:c*lcE b v<=(n:Int)*(nLst v b:Nat):=Int.mul_le_mul h h1 (by omega) (by omega);have h5:0<=c*lcE b v:=Int.mul_nonneg h0 (by omega);have hp:prdE c (lcE b v)<=((n*nLst v b:Nat):Int)/\0<=prdE c (lcE b v):=by
   push_cast
   unfold prdE
   split
   ·rename_i h;rw[Int.tdiv_eq_ediv_of_nonneg (by unfold maxC;decide)]at h;have h7:=(Int.ediv_lt_iff_lt_mul (show(0:Int)<lcE b v by omega)).1 h;exact⟨by omega,by unfold maxC;decide⟩
   ·exact⟨h4,h5⟩
  have:=zuR hv bs _ _ hp.2 hp.1 fun q hq=>hb q (by simp[hq]);rw[List.foldl_cons,nAll,<-Nat.mul_assoc];exact this
theorem zuS{vs:List VD}{b:BX}(hok:(b.ok&&svB vs)=true)(h60:cntF vs b<=60):cntR vs b=(((allS b (lenE vs b)).length:Int),0):=by
 have hb:=zlJ hok;have h60':=zxW hok h60;obtain⟨v,hv⟩:∃v:Nat,2*b.v+1=(v:Int):=⟨(2*b.v+1).toNat,by omega⟩
 have hq:∀q∈lenE vs b,q.1<=q.2:=fun q h=>(hb.2.2.1 q h).1;have e1:(allS b (lenE vs b)).length=(allB v (lenE vs b)).length:=by unfold allS;rw[List.length_map,hv]
 have e2:(allB v (lenE vs b)).length=nAll v (lenE vs b):=by
  have h1:=zp1 (h:=v) (by omega) hq;have h2:(prdB b.v (lenE vs b)).length<=(allB (2*b.v+1) (lenE vs b)).length:=zpN (zo0 _ _) fun x hx=>(zsz (by omega) x).2 (zr0 hq x hx);rw[zrZ hb.2.2.2.1,hv]at h2;simp only[Int.toNat_natCast]at h2;omega
 have hl1:∀q∈lenE vs b,1<=lcE q v:=fun q h=>(zul (v:=v) (by omega) (by unfold maxC;omega) (hq q h)).2;have h3:=zuR (v:=v) (by omega) (lenE vs b) 1 1 (by omega) (by omega) hl1;rw[Nat.one_mul]at h3;have h3:cntE v (lenE vs b)<=(nAll v (lenE vs b):Nat):=h3;have h4:=zxb (v:=v) (by omega) (by unfold maxC;omega) hq (by unfold maxC;omega);unfold cntR;rw[if_pos hok,hv,if_neg (by unfold maxC;omega)];have:cntE v (lenE vs b)=((allS b (lenE vs b)).length:Int):=by omega
 rw[this]
theorem zo7:∀ {a b c:List Int},lexR a b->lexR b c->lexR a c
 | x::a,y::b,z::c,h,h'=>by
  rcases h with h|⟨rfl,h⟩
  ·rcases h' with h'|⟨rfl,-⟩
   ·exact .inl (by omega)
   ·exact .inl h
  ·rcases h' with h'|⟨rfl,h'⟩
   ·exact .inl h'
   ·exact .inr ⟨rfl,zo7 h h'⟩
 | [],_,_,h,_=>h.elim
 | _::_,[],_,h,_=>h.elim
 | _::_,_::_,[],_,h=>h.elim
theorem zua{a b c:List Int}(h:ltL a b)(h':ltL b c):ltL a c:=by
 rcases h with h|⟨e,h⟩
 ·rcases h' with h'|⟨e',-⟩
  ·exact .inl (by omega)
  ·exact .inl (by omega)
 ·rcases h' with h'|⟨e',h'⟩
  ·exact .inl (by omega)
  ·exact .inr ⟨by omega,zo7 h h'⟩
theorem zo3:∀ {a b c:List (List Int)},ltLL a b->ltLL b c->ltLL a c
 | x::a,y::b,z::c,h,h'=>by
  rcases h with h|⟨rfl,h⟩
  ·rcases h' with h'|⟨rfl,-⟩
   ·exact .inl (zua h h')
   ·exact .inl h
  ·rcases h' with h'|⟨rfl,h'⟩
   ·exact .inl h'
   ·exact .inr ⟨rfl,zo3 h h'⟩
 | [],_,_,h,_=>h.elim
 | _::_,[],_,h,_=>h.elim
 | _::_,_::_,[],_,h=>h.elim
theorem zqx{a b c:List (List Int)}(h:ltB a b)(h':ltB b c):ltB a c:=by
 rcases h with h|⟨e,h⟩
 ·rcases h' with h'|⟨e',-⟩
  ·exact .inl (by omega)
  ·exact .inl (by omega)
 ·rcases h' with h'|⟨e',h'⟩
  ·exact .inl (by omega)
  ·exact .inr ⟨by omega,zo3 h h'⟩
theorem zsf:∀ {a b:List Int} (c d:List Int),a.length=b.length->lexE (a++c) (b++d)=if lexE a b=0 then lexE c d else lexE a b
 | [],[],c,d,_=>by simp[lexE]
 | x::a,y::b,c,d,h=>by
  have ih:=zsf (a:=a) (b:=b) c d (by simpa using h);simp only[List.cons_append,lexE]
  split
  ·simp
  ·split
   ·simp
   ·exact ih
 | [],_::_,_,_,h=>by simp at h
 | _::_,[],_,_,h=>by simp at h
def TriE{α:Type}(r:Int)(lt:α->α->Prop)(a b:α):Prop:=(r = -1/\lt a b)\/(r=1/\lt b a)\/(r=0/\a=b)
theorem zsd:∀ {a b:List Int},a.length=b.length->TriE (lexE (a.map rnk) (b.map rnk)) lexR a b
 | [],[],_=>.inr (.inr ⟨rfl,rfl⟩)
 | x::a,y::b,h=>by
  simp only[List.map_cons,lexE];by_cases h1:rnk x<rnk y
  ·rw[if_pos h1];exact .inl ⟨rfl,.inl h1⟩
  ·rw[if_neg h1];by_cases h2:rnk y<rnk x
   ·rw[if_pos h2];exact .inr (.inl ⟨rfl,.inl h2⟩)
   ·rw[if_neg h2];have e:x=y:=zyj (by omega);subst e;rcases zsd (a:=a) (b:=b) (by simpa using h)with⟨h3,h4⟩|⟨h3,h4⟩|⟨h3,h4⟩
    ·exact .inl ⟨h3,.inr ⟨rfl,h4⟩⟩
    ·exact .inr (.inl ⟨h3,.inr ⟨rfl,h4⟩⟩)
    ·exact .inr (.inr ⟨h3,by rw[h4]⟩)
 | [],_::_,h=>by simp at h
 | _::_,[],h=>by simp at h
theorem zse:∀ {L M:List (List Int)},L.length=M.length->TriE (lexE (keyA L M) (keyA M L)) ltLL L M
 | [],[],_=>.inr (.inr ⟨rfl,rfl⟩)
 | x::L,y::M,h=>by
  have ih:=zse (L:=L) (M:=M) (by simpa using h);rw[keyA,keyA];by_cases h1:x.length<y.length
  ·have e:lexE (((x.length:Int)::(x.take y.length).map rnk)++(if x.length=y.length then keyA L M else [])) (((y.length:Int)::(y.take x.length).map rnk)++(if y.length=x.length then keyA M L else [])) = -1:=by
    simp only[List.cons_append,lexE];rw[if_pos (by omega)]
   rw[e];exact .inl ⟨rfl,.inl (.inl h1)⟩
  ·by_cases h2:y.length<x.length
   ·have e:lexE (((x.length:Int)::(x.take y.length).map rnk)++(if x.length=y.length then keyA L M else [])) (((y.length:Int)::(y.take x.length).map rnk)++(if y.length=x.length then keyA M L else []))=1:=by
     simp only[List.cons_append,lexE];rw[if_neg (by omega),if_pos (by omega)]
    rw[e];exact .inr (.inl ⟨rfl,.inl (.inl h2)⟩)
   ·have e:x.length=y.length:=by omega
    rw[if_pos e,if_pos e.symm,List.take_of_length_le (by omega),List.take_of_length_le (by omega),List.cons_append,List.cons_append,lexE,if_neg (by omega),if_neg (by omega),zsf _ _ (by simp[e])];rcases zsd e with⟨h3,h4⟩|⟨h3,h4⟩|⟨h3,h4⟩
    ·rw[if_neg (by omega),h3];exact .inl ⟨rfl,.inl (.inr ⟨e,h4⟩)⟩
    ·rw[if_neg (by omega),h3];exact .inr (.inl ⟨rfl,.inl (.inr ⟨e.symm,h4⟩)⟩)
    ·rw[if_pos h3];subst h4;rcases ih with⟨h5,h6⟩|⟨h5,h6⟩|⟨h5,h6⟩
     ·exact .inl ⟨h5,.inr ⟨rfl,h6⟩⟩
     ·exact .inr (.inl ⟨h5,.inr ⟨rfl,h6⟩⟩)
     ·exact .inr (.inr ⟨h5,by rw[h6]⟩)
 | [],_::_,h=>by simp at h
 | _::_,[],h=>by simp at h
theorem zsv{a b:SS}(h:a.cells.length=b.cells.length):TriE (cmpE a b) (fun s t=>ltB (lisS s) (lisS t)) a b:=by
 have hl:(lisS a).length=(lisS b).length:=by simp[lisS,h]
 have he:lisS a=lisS b->a=b:=fun e=>by
  unfold lisS at e;have h1:=List.append_inj e (by omega);have h2:=h1.2;simp only[List.cons.injEq,and_true]at h2;obtain⟨c,i,o⟩:=a;obtain⟨c',i',o'⟩:=b;simp only at h1 h2;rw[h1.1,h2.1,h2.2]
 unfold cmpE keyE;simp only[List.cons_append,List.nil_append];rw[lexE];by_cases h1:wt (lisS a)<wt (lisS b)
 ·rw[if_pos h1];exact .inl ⟨rfl,.inl h1⟩
 ·rw[if_neg h1];by_cases h2:wt (lisS b)<wt (lisS a)
  ·rw[if_pos h2];exact .inr (.inl ⟨rfl,.inl h2⟩)
  ·rw[if_neg h2,lexE,if_neg (by omega),if_neg (by omega)];have e:wt (lisS a)=wt (lisS b):=by omega
   rcases zse hl with⟨h3,h4⟩|⟨h3,h4⟩|⟨h3,h4⟩
   ·exact .inl ⟨h3,.inr ⟨e,h4⟩⟩
   ·exact .inr (.inl ⟨h3,.inr ⟨e.symm,h4⟩⟩)
   ·exact .inr (.inr ⟨h3,he h4⟩)
def ltS(a b:SS):Prop:=ltB (lisS a) (lisS b)
theorem zrf{a:SS}(h:ltS a a):False:=zm9 h h
theorem zt9{a b:SS}(h:a.cells.length=b.cells.length):cmpE a b<0↔ltS a b:=by
 rcases zsv h with⟨h1,h2⟩|⟨h1,h2⟩|⟨h1,h2⟩
 ·exact⟨fun _=>h2,fun _=>by omega⟩
 ·exact⟨fun h=>by omega,fun h=>absurd h2 (zm9 h)⟩
 ·exact⟨fun h=>by omega,fun h=>by subst h2;exact(zrf h).elim⟩
theorem zt8{a b:SS}(h:a.cells.length=b.cells.length):ltS a b\/ltS b a\/a=b:=by
 rcases zsv h with⟨h1,h2⟩|⟨h1,h2⟩|⟨h1,h2⟩
 ·exact .inl h2
 ·exact .inr (.inl h2)
 ·exact .inr (.inr h2)
theorem zmY:∀(a b:List SS),(zkW a b).Perm (a++b)
 | [],b=>by rw[zmI];exact List.Perm.refl _
 | x::a,[]=>by rw[zmg,List.append_nil]
 | x::a,y::b=>by
  rw[zkW]
  split
  ·exact((zmY (x::a) b).cons y).trans List.perm_middle.symm
  ·exact(zmY a (y::b)).cons x
 termination_by a b=>a.length+b.length
theorem zsK:∀(n:Nat) (l:List SS),l.length=n->(zkX l).Perm l:=by
 intro n
 induction n using Nat.strongRecOn with
 | _ n ih =>
  intro l hl;unfold zkX
  split
  ·exact List.Perm.refl _
  ·refine(zmY _ _).trans ?_;have h:=(ih (l.length / 2) (by omega) (l.take (l.length / 2)) (by simp;omega)).append (ih (l.length-l.length / 2) (by omega) (l.drop (l.length / 2)) (by simp));rwa[List.take_append_drop]at h
def LeS(a b:SS):Prop:=¬ ltS b a
theorem zmf{n:Nat}:∀(a b:List SS),(∀s∈a,s.cells.length=n)->(∀s∈b,s.cells.length=n)->a.Pairwise LeS->b.Pairwise LeS->(zkW a b).Pairwise LeS
 | [],b,_,_,_,hb=>by rw[zmI];exact hb
 | x::a,[],_,_,ha,_=>by rw[zmg];exact ha
 | x::a,y::b,ca,cb,ha,hb=>by
  have hx:=ca x (by simp);have hy:=cb y (by simp);obtain⟨ha1,ha2⟩:=List.pairwise_cons.1 ha;obtain⟨hb1,hb2⟩:=List.pairwise_cons.1 hb;rw[zkW]
  split
  ·rename_i h;have h:=(zt9 (by omega)).1 h;refine List.pairwise_cons.2 ⟨fun z hz=>?_,zmf (x::a) b ca (fun s hs=>cb s (by simp[hs])) ha hb2⟩;rcases zl6 _ _ hz with hz|hz
   ·rcases List.mem_cons.1 hz with rfl|hz
    ·exact zm9 h
    ·exact fun e=>ha1 z hz (zqx e h)
   ·exact hb1 z hz
  ·rename_i h;have h:¬ ltS y x:=fun e=>h ((zt9 (by omega)).2 e);refine List.pairwise_cons.2 ⟨fun z hz=>?_,zmf a (y::b) (fun s hs=>ca s (by simp[hs])) cb ha2 hb⟩;rcases zl6 _ _ hz with hz|hz
   ·exact ha1 z hz
   ·rcases List.mem_cons.1 hz with rfl|hz
    ·exact h
    ·intro e;rcases zt8 (a:=x) (b:=y) (by omega)with h1|h1|h1
     ·exact hb1 z hz (zqx e h1)
     ·exact h h1
     ·exact hb1 z hz (h1▸e)
 termination_by a b=>a.length+b.length
theorem zql{m:Nat}:∀(n:Nat) (l:List SS),l.length=n->(∀s∈l,s.cells.length=m)->(zkX l).Pairwise LeS:=by
 intro n
 induction n using Nat.strongRecOn with
 | _ n ih =>
  intro l hl hc;unfold zkX
  split
  ·rename_i h
   match l,h with
   | [],_=>exact List.Pairwise.nil
   | [x],_=>simp
   | _::_::_,h=>exact absurd h (by simp)
  ·refine zmf (n:=m) _ _ (fun s hs=>hc s ?_) (fun s hs=>hc s ?_) (ih (l.length / 2) (by omega) _ (by simp;omega) fun s hs=>hc s (List.mem_of_mem_take hs)) (ih (l.length-l.length / 2) (by omega) _ (by simp) fun s hs=>hc s (List.mem_of_mem_drop hs))
   ·exact List.mem_of_mem_take (zm4 _ _ rfl hs)
   ·exact List.mem_of_mem_drop (zm4 _ _ rfl hs)
theorem zog:∀ {l m:List SS},l.Pairwise ltS->m.Pairwise ltS->(∀s,s∈l↔s∈m)->l=m
 | [],[],_,_,_=>rfl
 | [],y::m,_,_,h=>by have:=(h y).2 (by simp);simp at this
 | x::l,[],_,_,h=>by have:=(h x).1 (by simp);simp at this
 | x::l,y::m,hl,hm,h=>by
  obtain⟨hl1,hl2⟩:=List.pairwise_cons.1 hl;obtain⟨hm1,hm2⟩:=List.pairwise_cons.1 hm;have e:x=y:=by
   rcases List.mem_cons.1 ((h x).1 (by simp))with e|h1
   ·exact e
   ·rcases List.mem_cons.1 ((h y).2 (by simp))with e|h2
    ·exact e.symm
    ·exact absurd (hm1 x h1) (zm9 (hl1 y h2))
  subst e;refine congrArg (x :: ·) (zog hl2 hm2 fun s=>⟨fun hs=>?_,fun hs=>?_⟩)
  ·rcases List.mem_cons.1 ((h s).1 (by simp[hs]))with rfl|h1
   ·exact(zrf (hl1 s hs)).elim
   ·exact h1
  ·rcases List.mem_cons.1 ((h s).2 (by simp[hs]))with rfl|h1
   ·exact(zrf (hm1 s hs)).elim
   ·exact h1
theorem zsa:∀ {a b:List (List Int)} (c d:List (List Int)),ltLL a b->ltLL (a++c) (b++d)
 | x::a,y::b,c,d,h=>by
  rcases h with h|⟨h1,h2⟩
  ·exact .inl h
  ·exact .inr ⟨h1,zsa c d h2⟩
 | [],_,_,_,h=>h.elim
 | _::_,[],_,_,h=>h.elim
theorem zzg{n:Nat}{s t:SS}(h:RSt n s t):ltS s t:=by
 obtain⟨x,y,rfl,rfl,hx,hy,h⟩:=h;have ex:=zsh (zo2 hx);have ey:=zsh (zo2 hy);have e1:lisS (stOf x)=x++[[]]:=by
  conv=>rhs;rw[ex]
  simp[lisS,stOf]
 have e2:lisS (stOf y)=y++[[]]:=by
  conv=>rhs;rw[ey]
  simp[lisS,stOf]
 have hw:∀z:List (List Int),wt (z++[[]])=wt z:=fun z=>by rw[zzk];simp[wt,lw]
 unfold ltS;rw[e1,e2];rcases h with h|⟨h1,h2⟩
 ·exact .inl (by rw[hw,hw];exact h)
 ·exact .inr ⟨by rw[hw,hw];exact h1,zsa _ _ h2⟩
theorem zp4{h:Int}:∀ {bs:List Bn} {x:List (List Int)} {b:Bn} {l:List Int},FitH h bs x->b.1<=l.length->l.length<=b.2->(∀e∈l,rnk e<h)->FitH h (bs++[b]) (x++[l])
 | [],[],b,l,_,h1,h2,h3=>⟨h1,h2,h3,trivial⟩
 | (lo,hi)::bs,y::x,b,l,hf,h1,h2,h3=>⟨hf.1,hf.2.1,hf.2.2.1,zp4 hf.2.2.2 h1 h2 h3⟩
 | [],_::_,_,_,hf,_,_,_=>hf.elim
 | _::_,[],_,_,hf,_,_,_=>hf.elim
theorem zwo{b:BX}{v:VD}(hb:b.ok=true)(hv:vdB v=true){l:List Int}(h:l∈lstE b v):(len1 b v).1<=l.length/\l.length<=(len1 b v).2/\∀e∈l,rnk e<2*b.v+1:=by
 unfold lstE at h;unfold len1;have el:∀ {a m:Nat},l∈betE b.v a m->∀e∈l,rnk e<2*b.v+1:=fun h e he=>ztR (zrq h e he);rcases zsD hv with⟨h1,h2⟩|⟨h1,h2,h3⟩|⟨h1,h2⟩
 ·rw[if_pos h1]at h;rw[if_neg (by omega)];have:=zmC (by omega) h;unfold fixE;rw[if_pos h1];exact⟨this.1,this.2,el h⟩
 ·rw[if_neg (by omega),if_pos h1]at h;rw[if_neg (by omega)];have:=zmC (by omega) h;unfold fixE;rw[if_neg (by omega)];exact⟨this.1,this.2,el h⟩
 ·rw[if_neg (by omega),if_neg (by omega)]at h;rw[if_pos h1];have:=zmC (by omega) h;exact⟨this.1,this.2,el h⟩
theorem zrQ{b:BX}(hb:b.ok=true):∀(vs:List VD) (bs:List Bn) (st:List SS),(∀v∈vs,vdB v=true)->st.Nodup->(∀s∈st,FitH (2*b.v+1) bs s.cells/\s.tin=[]/\s.tout=[]) ->
  (vs.foldl (fun st v=>stg st (lstE b v)) st).Nodup/\∀s∈vs.foldl (fun st v=>stg st (lstE b v)) st,FitH (2*b.v+1) (bs++vs.map (len1 b)) s.cells/\s.tin=[]/\s.tout=[]
 | [],bs,st,_,hn,hs=>by simpa using⟨hn,hs⟩
 | v::vs,bs,st,hv,hn,hs=>by
  have h1:(stg st (lstE b v)).Nodup:=by
   unfold stg;refine zl5 hn (fun s _=>zmu ?_ fun x y h=>?_) fun s hs1 t ht1 u hu hw=>?_
   ·unfold lstE
    split
    ·exact zmP _ _ _
    ·split<;>exact zmP _ _ _
   ·simpa using h
   ·obtain⟨x,-,rfl⟩:=List.mem_map.1 hu;obtain⟨y,-,e⟩:=List.mem_map.1 hw;injection e with e;have e:=(List.append_inj' e rfl).1;obtain⟨c,i,o⟩:=s;obtain⟨c',i',o'⟩:=t;have a1:=(hs _ hs1).2;have a2:=(hs _ ht1).2;simp only at e a1 a2;rw[<-e,a1.1,a1.2,a2.1,a2.2]
  have h2:∀s∈stg st (lstE b v),FitH (2*b.v+1) (bs++[len1 b v]) s.cells/\s.tin=[]/\s.tout=[]:=fun s h=>by
   unfold stg at h;obtain⟨t,ht,h⟩:=List.mem_flatMap.1 h;obtain⟨x,hx,rfl⟩:=List.mem_map.1 h;have h3:=zwo hb (hv v (by simp)) hx;exact⟨zp4 (hs t ht).1 h3.1 h3.2.1 h3.2.2,rfl,rfl⟩
  have:=zrQ hb vs (bs++[len1 b v]) _ (fun u hu=>hv u (by simp[hu])) h1 h2;rw[List.foldl_cons,List.map_cons];simpa using this
theorem zu7{vs:List VD}{b:BX}(hok:(b.ok&&svB vs)=true):(allU vs b).Nodup/\∀s∈allU vs b,s∈allS b (lenE vs b):=by
 have h:=hok;simp only[Bool.and_eq_true]at h;have hk:=zld h.1;obtain⟨h1,h2⟩:=zrQ h.1 vs [] [nilS] (fun v hv=>(zqh h.2).2 v hv) (by simp) fun s hs=>by
  rw[List.mem_singleton]at hs;subst hs;exact⟨trivial,rfl,rfl⟩
 rw[List.nil_append]at h2;refine⟨?_,fun s hs=>?_⟩
 ·unfold allU;refine zl5 h1 (fun s _=>zmu (zmP _ _ _) fun x y h=>by injection h) fun s hs1 t ht1 u hu hw=>?_;obtain⟨x,-,rfl⟩:=List.mem_map.1 hu;obtain⟨y,-,e⟩:=List.mem_map.1 hw;injection e with e;obtain⟨c,i,o⟩:=s;obtain⟨c',i',o'⟩:=t;have a1:=(h2 _ hs1).2;have a2:=(h2 _ ht1).2;simp only at e a1 a2;rw[<-e,a1.1,a1.2,a2.1,a2.2]
 ·unfold allU at hs;obtain⟨t,ht,hs⟩:=List.mem_flatMap.1 hs;obtain⟨x,hx,rfl⟩:=List.mem_map.1 hs;have hl:=zmC (Nat.zero_le _) hx;have hf:=zp4 (b:=(0,b.i.toNat)) (h2 t ht).1 (Nat.zero_le _) hl.2 fun e he=>ztR (zrq hx e he);unfold allS;refine List.mem_map.2 ⟨t.cells++[x],(zsz (by omega) _).2 hf,?_⟩;unfold stOf;simp
theorem zu8{vs:List VD}{b:BX}(hok:(b.ok&&svB vs)=true)(h60:cntF vs b<=60):allR vs b=allS b (lenE vs b):=by
 obtain⟨h1,h2⟩:=zu7 hok;have hin:=zrt hok;have hp:=zsK _ (allU vs b) rfl;have hcl:∀s∈zkX (allU vs b),s.cells.length=vs.length:=fun s hs=>(hin s (h2 s (hp.mem_iff.1 hs))).n;have hnd:(zkX (allU vs b)).Nodup:=hp.nodup_iff.2 h1;have hso:(zkX (allU vs b)).Pairwise ltS:=by
  have h3:=zql (m:=vs.length) _ (allU vs b) rfl fun s hs=>(hin s (h2 s hs)).n;rw[List.nodup_iff_pairwise_ne]at hnd;exact List.Pairwise.imp_of_mem (fun {a c} ha hc hac=>by
   rcases zt8 (a:=a) (b:=c) (by rw[hcl a ha,hcl c hc])with h|h|h
   ·exact h
   ·exact absurd h hac.1
   ·exact absurd h hac.2) (h3.and hnd)
 refine zog hso ((zrs hok).imp fun {s t} h=>zzg h) fun s=>⟨fun hs=>h2 s (hp.mem_iff.1 hs),fun hs=>hp.mem_iff.2 ?_⟩
 have hle:(allS b (lenE vs b)).length<=(allU vs b).length:=by
  have h:=hok;simp only[Bool.and_eq_true]at h;have hr:=(zq9 h.1 h60).all.1;have hc:=zuS hok h60;have hk:=zld h.1;have h1:(allU vs b).length=nAll (2*b.v+1).toNat (lenE vs b):=by
   unfold allU stgF lenE;rw[znF _ _ (betE b.v 0 b.i.toNat).length fun s=>by simp,zpy h.1 vs _ fun v hv=>(zqh h.2).2 v hv,zpJ,znH hk.1.1];simp[nAll]
  have h2:=zp1 (h:=(2*b.v+1).toNat) (by omega) (bs:=lenE vs b) fun q hq=>((zlJ hok).2.2.1 q hq).1;rw[Int.toNat_of_nonneg (by omega)]at h2;unfold allS;rw[List.length_map];omega
 by_cases hs2:s∈allU vs b
 ·exact hs2
 ·have:=zpN (l:=s::allU vs b) (l':=allS b (lenE vs b)) (List.nodup_cons.2 ⟨hs2,h1⟩) fun x hx=>by
   rcases List.mem_cons.1 hx with rfl|hx
   ·exact hs
   ·exact h2 x hx
  simp at this;omega
attribute [local go_sem] Oper.semAt_some
theorem zKG:IsFn prog 44 Tryz.f44:=⟨func44,by kernel_rfl,by kernel_rfl⟩
theorem bStZ(w:World):(Instr.build 32 #[]).run prog w=.ok (.agg #[.slice none 0 0,.slice none 0 0,.slice none 0 0]) w:=by kernel_rfl
theorem bSt1(A:Option Addr)(l c:Nat)(w:World):(Instr.build 32 #[(0,.slice A l c)]).run prog w=.ok (.agg #[.slice A l c,.slice none 0 0,.slice none 0 0]) w:=by kernel_rfl
theorem SV.nilR(w:World)(S:Nat->Prop):SV w S nilS (.agg #[.slice none 0 0,.slice none 0 0,.slice none 0 0]) :=
 ⟨none,0,none,0,none,0,rfl,fun i hi=>by simp[nilS]at hi,fun i hi=>by simp[nilS]at hi,fun i hi=>by simp[nilS]at hi,by simp[nilS],by simp[nilS],by simp[nilS],by simp[nilS,LI],by intro l hl;simp[nilS]at hl,by simp[nilS,LI],by simp[nilS,LI]⟩
theorem zxl(vs:List VD)(b:BX)(A:Option Addr)(c:Nat)(w:World)(hr:RowV w Any A vs)(hok:(b.ok&&svB vs)=true)(hc60:cntF vs b<=60) :
  Calls prog 11 #[.slice A vs.length c,.int .i64 b.v,.int .i64 b.l,.int .i64 b.i] w fun e w'=>∃v,e=.returned v/\(∃A' c',v=.slice A' (allR vs b).length c'/\(allR vs b).length<=c'/\zk9 w' A' (allR vs b))/\Below w.heap.size w w':=by
 have hok2:=hok;simp only[Bool.and_eq_true]at hok2;have hb:=zld hok2.1;obtain⟨hn,hvd⟩:=zqh hok2.2;have dm:=zh (zq9 hok2.1 hc60);have HV:=zh hvd;have HR:=zh hr;have vP:=zh (fun j (hj:j<=vs.length+1)=>zxB hok2.1 hok2.2 hj);have yM:=zh (fun j l (h:l∈lsJ vs b j)=>zxE hok2.1 hok2.2 h);have ru:=zh (fun j=>zyc dm.out j);have bK:=zh (fun j=>zyt dm.out j);have xk:=zh (fun j (h:j<=vs.length)=>zrR (vs:=vs) (b:=b) h);have iY:=zh (show stJ vs b (vs.length+1)=allU vs b from zv1 vs b);have uj:=zh (show stJ vs b 0=[nilS] by simp[stJ,stgF]);obtain⟨V,hV⟩:=zX (b.v);obtain⟨nl,hnl⟩:∃nl:Nat,b.l=(nl:Int):=⟨b.l.toNat,by omega⟩
 obtain⟨ni,hni⟩:∃ni:Nat,b.i=(ni:Int):=⟨b.i.toNat,by omega⟩
 have rE:=zh (fun j (h:j<vs.length)=>show lsJ vs b j=if vs[j].k=1 then betE V 1 1 else if vs[j].k=2 then betE V vs[j].n.toNat vs[j].n.toNat else betE V 0 nl by unfold lsJ;rw[dif_pos h];unfold lstE;rw[hV,hnl];rfl);have bB:=zh (show lsJ vs b vs.length=betE V 0 ni by unfold lsJ;rw[dif_neg (by omega),hV,hni];rfl);have hv3:0<=V/\V<=1000:=by omega
 have sJ:nl<=1000:=by omega
 have sK:ni<=1000:=by omega
 have xK:=zh (fun a m w' (h1:a<=m) (h2:m<=1000) (h3:(betE V a m).length<=1000)=>zrp V a m w' hv3 (by omega) h2 h1 h3);rw[hV,hnl,hni];have dD:=zh (show allR vs b=zkX (allU vs b)from rfl);obtain⟨R9,wL⟩:=zX (allR vs b);rw[wL]at dD ⊢;obtain⟨U9,hU9⟩:=zX (allU vs b);rw[hU9]at iY dD;obtain⟨ST,hST⟩:∃ST:Nat->List SS,∀j,stJ vs b j=ST j:=⟨fun j=>stJ vs b j,fun _=>rfl⟩
 obtain⟨LJ,jw⟩:∃LJ:Nat->List (List Int),∀j,lsJ vs b j=LJ j:=⟨fun j=>lsJ vs b j,fun _=>rfl⟩
 simp only[hST]at vP ru xk iY uj;simp only[jw]at yM bK xk rE bB;clear hr hok hok2 hc60 hb hvd hV hnl hni wL hU9 hST jw dm;obtain⟨n,hn'⟩:=zX (vs.length);have HN:=zh hn';rw[hn']at hn xk iY vP bB ⊢;clear hn';have hI0:=bStZ;have hI1:=bSt1;have hI2:=bSts;go_enter func11,ntmps11;go_upto_region 2 with fail;have hb1:=zka (zs w) (.cells #[.slice none 0 0,.slice none 0 0,.slice none 0 0] 32);have hk1:=heap_alloc_new w (.cells #[.slice none 0 0,.slice none 0 0,.slice none 0 0] 32);have HB1:=zh hb1;have eF:=zh (show zk9 (w.alloc (.cells #[.slice none 0 0,.slice none 0 0,.slice none 0 0] 32)) (some ⟨w.heap.size,0,none⟩) (ST 0) by
  rw[uj.out];intro k hk;obtain rfl:k=0:=by simpa using hk
  exact⟨w.heap.size,0,_,_,_,rfl,zc hk1 rfl,zc hk1 rfl,zc hk1 rfl,SV.nilR _ _⟩)
 have iH:=zh (show(ST 0).length=1 by rw[uj.out];rfl);clear hb1 hk1;go_wp2_with fail
 go_loopw [10,9,11,12,13,14,15] (fun iv sv _ _ _ _ _ wr=>∃(j:Nat) (A:Option Addr) (m c:Nat),j<=n+1/\iv=.int .i64 j/\sv=.slice A m c/\m<=c/\m<=60/\Hid ((ST j).length=m)/\Hid (Below w.heap.size w wr)/\Hid (zk9 wr A (ST j))) (fun iv _ _ _ _ _ _ _=>n+1-(intOf iv).toNat)
 case atStart=>exact⟨0,_,1,1,by omega,rfl,rfl,by omega,by omega,iH,HB1,eF⟩
 case round =>
  clear eF iH HB1;obtain⟨j,As,m,cs,hj,rfl,rfl,hmc,hm60,gQ,HB,iD⟩:=hrel;by_cases hlt:j<=n
  ·have hj1:(j:Int)<=(n:Int):=by omega
   have hj0:(0:Int)<=(j:Int):=by omega
   have lG:=bK.out j;obtain⟨ll,hll⟩:=zX ((LJ j).length);have dN:=zh hll;rw[hll]at lG;clear hll
   go_upto_if 27 with(fail)
   go_cut [11]from 24 to 59 (fun lv wx=>∃(Al:Option Addr) (cl:Nat),lv=.slice Al ll cl/\ll<=cl/\Hid (Below wr.heap.size wr wx)/\Hid (zlo wx (fun q=>q<wx.heap.size) Al (LJ j)))
   case first =>
    have aZ:=zh (show ∀(a m:Nat) u (wx:World),LJ j=betE V a m->Below wr.heap.size wr wx->zkq wx wr.heap.size (fun q=>wr.heap.size<=q) u (betE V a m)->(∃(Al:Option Addr) (cl:Nat),u=.slice Al ll cl/\ll<=cl/\Hid (Below wr.heap.size wr wx)/\Hid (zlo wx (fun q=>q<wx.heap.size) Al (LJ j)))from fun a m u wx h1 h2 h3=>by
     rw[<-h1]at h3;obtain⟨Al,cl,e1,e2,e3⟩:=h3.ii fun q h _=>h;rw[dN.out]at e1 e2;exact⟨Al,cl,e1,e2,zh h2,zh (e3.keep (fun q _ h=>h) fun _ _ _=>rfl)⟩)
    by_cases hjn:j=n
    ·subst hjn;have HL2:=zh bB.out;have uP:=zh (xK.out 0 ni wr (by omega) sK (by rw[<-bB.out];rw[dN.out];omega));go_wp2_with fail;refine(uP.out).mono ?_;rintro e wx ⟨hb2,u,rfl,hr2⟩;have HX:=zh (aZ.out 0 ni u wx HL2.out hb2 hr2);clear hb2 hr2;go_wp2_with fail
     go_meet
     exact HX.out
    ·have di:j<vs.length:=by rw[HN.out];omega
     have hjb:¬ (j:Int)=(n:Int):=by omega
     obtain⟨ab,v,rfl,-,hv,⟨x0,x1,x2⟩,-⟩:=(HR.out.later HB.out).nd di;have hvb:=zsD (HV.out _ (List.getElem_mem di));have jw:=rE.out j di;have hjn2:(j:Int)<(n:Int):=by omega
     rw[hv.out]at hvb jw;clear hv di;obtain⟨v0,v1,v2⟩:=v;simp only at x0 x1 x2 hvb jw;have hjnb:((j:Int)==(n:Int))=false:=by simp;omega
     rcases hvb with⟨rfl,rfl⟩|⟨rfl,hn1,hn2⟩|⟨rfl,rfl⟩
     ·rw[if_pos rfl]at jw;have HL2:=zh jw;have uP:=zh (fun w' (hb:Below wr.heap.size wr w')=>xK.out 1 1 w' (by omega) (by omega) (by rw[<-HL2.out];rw[dN.out];omega));clear jw;go_wp2_with fail;refine(uP.out _ zr).mono ?_;rintro e wx ⟨hb2,u,rfl,hr2⟩;have HX:=zh (aZ.out 1 1 u wx HL2.out hb2 hr2);clear hb2 hr2;go_wp2_with fail
      go_meet
      exact HX.out
     ·rw[if_neg (by decide),if_pos rfl]at jw;obtain⟨nv,rfl⟩:∃nv:Nat,v2=(nv:Int):=⟨v2.toNat,by omega⟩
      rw[Int.toNat_natCast]at jw;have HL2:=zh jw;have uP:=zh (fun w' (hb:Below wr.heap.size wr w')=>xK.out nv nv w' (by omega) (by omega) (by rw[<-HL2.out];rw[dN.out];omega));clear jw;have bD:=zh (show ∀w',Below wr.heap.size wr w'->w'.cell? ⟨(ab.add (j*3)).block,(ab.add (j*3)).off+2,none⟩=some (.int .i64 (nv:Int))from fun w' h=>by have h9:=zb h x2;exact h9);have hd:=(zs wr).drew;go_upto_region 11 with fail;have hSS:zW (fun w':World=>zv w' ((ab.add (j*3)).block) ((ab.add (j*3)).off+2) (.int .i64 (nv:Int))) zU wr.drew:=⟨bD.out _ hd,trivial⟩
      have had:Calls prog 44 [.int .i64 V,.int .i64 (nv:Int),.int .i64 (nv:Int)].toArray wr.drew fun e w'=>∃v,e=.returned v/\(zkq w' wr.drew.heap.size (fun q=>wr.drew.heap.size<=q) v (betE V nv nv)/\Below wr.drew.heap.size wr.drew w'):=(uP.out _ hd).mono fun e w' ⟨h1,u,h2,h3⟩=>⟨u,h2,h3,h1⟩
      refine wp_region_noPanic ?_;refine zG hSS 12 ?_;refine zT 0 hSS ?_;refine zT 1 hSS ?_;refine zT 2 hSS ?_;refine zT 3 hSS ?_;refine zT 4 hSS ?_;refine zT 5 hSS ?_;refine zT 6 hSS ?_;refine zT 7 hSS ?_;refine zT 8 hSS ?_;refine zT 9 hSS ?_;refine zT 10 hSS ?_;refine zo 11 fun K hK=>?_;refine zke (by rfl) (.func 44) [.tmp 45,.tmp 50,.tmp 55] _ (by rfl) 44 _ zKG (by rfl) _ (by rfl) _ had ?_;rintro v5 w5 ⟨hr2,hb5⟩;have hb6:=hd.trans (hb5.mono hd.size);refine hK.out _ _ ⟨bD.out _ hb6,trivial⟩ ?_;clear hK K had hSS;(try simp only[zQ]);refine zp 12 fun K hK=>?_;(try simp only[zA,zB,zC]);go_simp;refine hK.out _ _ (bD.out _ hb6) ?_;clear hK K;(try simp only[zQ]);refine zd ?_;refine NoPanic.normal ?_;have HX:=zh (aZ.out nv nv v5 w5 HL2.out hb6 hr2);clear hb5 hb6 hd;go_wp2_with fail
      go_meet
      exact HX.out
     ·rw[if_neg (by decide),if_neg (by decide)]at jw;have HL2:=zh jw;have uP:=zh (fun w' (hb:Below wr.heap.size wr w')=>xK.out 0 nl w' (by omega) (by omega) (by rw[<-HL2.out];rw[dN.out];omega));clear jw;go_wp2_with fail;refine(uP.out _ zr).mono ?_;rintro e wx ⟨hb2,u,rfl,hr2⟩;have HX:=zh (aZ.out 0 nl u wx HL2.out hb2 hr2);clear hb2 hr2;go_wp2_with fail
      go_meet
      exact HX.out
   case rest =>
    obtain⟨Al,cl,rfl,hlc,aX,BI⟩:=hcut;have ng:=zh (xk.out j hlt);have HGS2:=zh (vP.out j (by omega));have HGL2:=zh (yM.out j);have uo:=zh (ru.out (j+1));have yL:=zh (vP.out (j+1) (by omega));have HRS2:=zh (iD.out.later aX.out);have HB2:=zh (zkb HB.out aX.out);obtain⟨st,hst⟩:=zX (ST j);obtain⟨lj,hlj⟩:=zX (LJ j);obtain⟨s2,hs2⟩:=zX (ST (j+1));have HS2:=zh hs2;rw[hst]at ng HGS2 HRS2 gQ;rw[hlj]at ng HGL2 dN BI;rw[hs2]at ng uo yL;clear hst hlj hs2 aX iD HB rE bB yM xK xk vP;have Bf:=zh (show Below wc.heap.size wc wc from zr);obtain⟨B2,hB2⟩:=zX (wc.heap.size);rw[hB2]at Bf BI;go_wp2_with fail
    go_loopw [13,12,14,15] (fun pv nv _ _ wr=>∃(p:Nat) (An:Option Addr) (e cn:Nat) (acc:List SS),p<=m/\pv=.int .i64 p/\nv=.slice An e cn/\Hid (acc.length=e/\acc=(st.take p).flatMap fun s=>lj.map (nwS n j s))/\Hid (Below B2 wc wr)/\Hid (zk7 wr B2 Any (.slice An e cn) acc)) (fun pv _ _ _ _=>m-(intOf pv).toNat)
    case atStart=>exact⟨0,none,0,0,[],by omega,rfl,rfl,zh ⟨rfl,by simp⟩,Bf,zh (zk7.nil _ _ _)⟩
    case round =>
     clear Bf;obtain⟨p,An,e,cn,acc,hp,rfl,rfl,vU,iN,uy⟩:=hrel;obtain⟨W8,rfl⟩:∃x,x=wr:=⟨_,rfl⟩
     by_cases hpm:p<m
     ·have hp1:(p:Int)<(m:Int):=by omega
      have hp0:(0:Int)<=(p:Int):=by omega
      have hps:p<st.length:=by rw[gQ.out];exact hpm
      obtain⟨s,hs⟩:=zX (st[p]);obtain⟨b1,o1,u1,v1,x1,rfl,h10,h11,h12,hs1⟩:=HRS2.out p hps;have HTP:=zh (show(st.take (p+1)).flatMap (fun s=>lj.map (nwS n j s))=(st.take p).flatMap (fun s=>lj.map (nwS n j s))++lj.map (nwS n j s) by
       rw[List.take_succ_eq_append_getElem hps,List.flatMap_append,hs];simp)
      have vQ:=zh (HGS2.out st[p] (List.getElem_mem hps));have HPF:=zh (show ∀k,((st.take p).flatMap (fun s=>lj.map (nwS n j s))++(lj.take k).map (nwS n j s)).length<=60 from fun k=>by
       have h1:=uo.out;have h2:(st.take (p+1)).flatMap (fun s=>lj.map (nwS n j s))++(st.drop (p+1)).flatMap (fun s=>lj.map (nwS n j s))=s2:=by rw[<-List.flatMap_append,List.take_append_drop];exact ng.out.symm
       rw[<-h2,HTP.out]at h1;simp only[List.length_append,List.length_map,List.length_take]at h1 ⊢;omega)
      have HGM:=zh (show ∀x∈lj,GdS (j+1) (nwS n j s x)from fun x hx=>zxC (hs▸vQ.out) (HGL2.out x hx));rw[hs]at hs1 vQ;obtain⟨A5,c5,l5,e5,r5,bQ⟩:∃A5 c5 l5,u1=.slice A5 l5 c5/\zlo wc (fun q=>q<B2) A5 s.cells/\s.cells.length=l5:=by
       obtain⟨A5,c5,B5,d5,D5,e5,e1,r1,-⟩:=hs1;injection e1 with e1;simp only[Array.mk.injEq,List.cons.injEq,and_true]at e1;exact⟨A5,c5,_,e1.1,hB2▸r1,rfl⟩
      subst e5;have HX:=zh (show ∀w',Below B2 wc w'->w'.cell? ⟨b1,o1+p*3,none⟩=some (.slice A5 l5 c5)from fun w' h=>zb (hB2▸h) h10);have kP:=zh r5;have kU:=zh bQ;have hl5:l5<=32:=by have:=vQ.out.1;omega
      clear hs hps h10 h11 h12 hs1 r5 bQ;go_wp2_with fail
      go_loopw [14,12,15] (fun kv nv _ wr=>∃(k:Nat) (An:Option Addr) (e cn:Nat) (jy:List SS),k<=ll/\kv=.int .i64 k/\nv=.slice An e cn/\Hid (jy.length=e/\jy=acc++(lj.take k).map (nwS n j s))/\Hid (Below B2 wc wr)/\Hid (zk7 wr B2 Any (.slice An e cn) jy)) (fun kv _ _ _=>ll-(intOf kv).toNat)
      case atStart=>exact⟨0,An,e,cn,acc,by omega,rfl,rfl,zh ⟨vU.out.1,by simp⟩,iN,uy⟩
      case round =>
       clear iN uy;obtain⟨k,Co,e2,AV,jy,hk,rfl,rfl,dR,iN,uy⟩:=hrel;by_cases hkl:k<ll
       ·have hk1:(k:Int)<(ll:Int):=by omega
        have hk0:(0:Int)<=(k:Int):=by omega
        have hkx:k<lj.length:=by rw[dN.out];exact hkl
        obtain⟨x,hx⟩:=zX (lj[k]);obtain⟨ax,Ax,cx,rfl,-,hcx,hlx,hrx⟩:=BI.out k hkx;have rq:=zh (show(lj.take (k+1)).map (nwS n j s)=(lj.take k).map (nwS n j s)++[nwS n j s x] by rw[List.take_succ_eq_append_getElem hkx,List.map_append,hx];rfl);have uK:=zh (HGM.out _ (List.getElem_mem hkx));rw[hx]at hcx hlx hrx uK;obtain⟨lx,sM⟩:=zX (x.length);have eG:=zh sM;rw[sM]at hcx hlx;have nL:=zh (show ∀w',Below B2 wc w'->w'.cell? (ax.add k)=some (.slice Ax lx cx)from fun w' h=>zb (hB2▸h) hcx);have kN:=zh hrx;have hsz:B2<=wr.heap.size:=by have:=iN.out.size;omega
        obtain⟨us,lh,hnn,hcl,h1c,hes⟩:=(kP.out.later (hB2▸iN.out)).vals;have qI:=zh (zkq.copy2 (wr:=wr) (B2:=B2) lh kU.out hsz hes);have hul1:us.length=l5*1:=by rw[lh,kU.out];omega
        have hnn1:A5=none->l5=0:=fun h=>by rw[<-kU.out];exact hnn h
        have aW:=zka (zs wr) (.cells #[] 30);have hcl1:∀ad,A5=some ad->∀j u,us[j]?=some u->(wr.alloc (.cells #[] 30)).cell? (ad.add j)=some u:=fun ad h j u hj=>zb aW (hcl ad h j u hj);have hx7:=HX.out _ (iN.out.trans (aW.mono hsz));have hsz1:wr.heap.size<=(wr.alloc (.cells #[] 30)).heap.size:=aW.size;have hown1:=zo1 wr 30 1 wr.heap.size zl;have hI3:=bL0R;clear hkx hx sM hcx hrx lh hnn hcl hes aW;go_upto_region 21 with(at_builtin;refine zki rfl (.tmp 72) (.tmp 77) rfl underlying29 zm6 rfl (by decide) (by decide) wr.heap.size (.slice (some ⟨wr.heap.size,0,none⟩) 0 0) 0 [] rfl hown1 A5 l5 c5 us rfl hul1 hnn1 hcl1 h1c (by omega) hsz1 ?_;intro v9 w9 ho hg aj;obtain⟨A9,c9,rfl,aF,bI⟩:=qI.out _ _ ho hg aj;clear ho hg aj)
        have HK:=zh (heap_alloc_new w9 (.cells #[.slice A9 l5 c9,.slice none 0 0,.slice none 0 0] 32));have aW:=zka (zs w9) (.cells #[.slice A9 l5 c9,.slice none 0 0,.slice none 0 0] 32);have hsa:w9.heap.size<(w9.alloc (.cells #[.slice A9 l5 c9,.slice none 0 0,.slice none 0 0] 32)).heap.size:=by simp
        obtain⟨aT,bX⟩:=zX (w9.alloc (.cells #[.slice A9 l5 c9,.slice none 0 0,.slice none 0 0] 32));have hon:∀q,(Value.slice A9 l5 c9).ownBlock=some q->q<w9.heap.size:=fun q h=>by
         obtain⟨_,h1,-⟩:=bI.out;exact(h1.lt q h).2
        obtain⟨Nb,hNb⟩:=zX (w9.heap.size);rw[bX]at HK aW hsa ⊢;rw[hNb]at HK hsa hon ⊢;have hne0:(Value.slice A9 l5 c9).ownBlock≠some Nb:=fun e=>by have:=hon _ e;omega
        have dF:=zh (aF.out.trans (aW.mono aF.out.size));have qh:=zh (bI.out.keep (W':=aT) (S':=fun q=>q<B2) (fun _ h _=>h) fun q _ h=>aW.block q h);have qw:=zh hne0;have hNw:wr.heap.size<=Nb:=by rw[<-hNb];exact aF.out.size
        have jI:=zh (show ∀w',Below wr.heap.size wr w'->Below B2 wc w' from fun w' h=>iN.out.trans (h.mono hsz));clear aW bX hNb hon hne0 hown1 hcl1 hx7 hsz1 hul1 hnn1 h1c;by_cases hjn:j=n
        ·have hjb:((j:Int)==(n:Int))=true:=by simp[hjn]
         have vL:=zh hjn;clear hjn;have hx8:=nL.out _ (jI.out _ dF.out);have jR:=zky HK.out;have dE:=zh (heap_setCell_same aT Nb 1 _ _ (.slice Ax lx cx) HK.out);have jM:=zh ((Chg.refl (fun q=>q=Nb) aT).setCell (p:=⟨Nb,1,none⟩) (.inl rfl) (.slice Ax lx cx));have cf:∀o,aT.frozen? ⟨Nb,o,none⟩=false:=fun o=>zf HK.out;have bM:=zh (dF.out.trans (jM.out.below (B:=wr.heap.size) dF.out.size fun q e=>by rw[e];exact hNw));have iC:=zh (zzy (w':=aT.setCell ⟨Nb,1,none⟩ (.slice Ax lx cx)) vL.out (qh.out.keep (S':=fun q=>q<B2) (fun _ h _=>h) fun q h hq=>jM.out.block q hq fun e=>by
          rcases h with h|h
          ·omega
          ·exact qw.out (e▸h)) kU.out (kN.out.keep (S':=fun q=>q<B2) (fun q h _=>h) fun q h hq=>(jI.out _ bM.out).block q h) eG.out hlx (uK.out.lim (by omega)))
         go_upto_region 24 with fail;obtain⟨mP,mF⟩:=zX (aT.setCell ⟨Nb,1,none⟩ (.slice Ax lx cx));rw[mF]at dE jM bM iC ⊢;clear mF hx8 jR cf;have HL11:=uK.out.lim (by omega);have mf:e2+1<=1000000:=by
          have h:=HPF.out k;rw[<-vU.out.2,<-dR.out.2,dR.out.1]at h;omega
         obtain⟨xs,hown,eP,hpush⟩:=uy.out.manyA (W0:=wc) (we:=mP.alloc (.cells #[(.slice A9 l5 c9),(.slice Ax lx cx),.slice none 0 0] 32)) (ys:=[nwS n j s x]) (us:=[((.slice A9 l5 c9),(.slice Ax lx cx),.slice none 0 0)]) dR.out.1 iN.out (by omega) rfl (bM.out.trans ((zka (zs mP) _).mono bM.out.size)) (fun k hk hv=>by
          obtain rfl:k=0:=by simpa using hk
          exact(iC.out).keep (fun q h _=>h) fun q _ h=>(zka (zs mP) _).block q h) (m:=1) rfl
         obtain⟨k0,k1,k2⟩:=zky dE.out;have iU:=zh hpush;clear hpush;go_wp2_with (at_builtin;refine zki rfl (.tmp 98) (.tmp 100) rfl underlying27 zmp rfl (by decide) (by decide) B2 (.slice Co e2 AV) e2 xs rfl hown (some ⟨mP.heap.size,0,none⟩) 1 1 [.slice A9 l5 c9,.slice Ax lx cx,.slice none 0 0] rfl rfl (fun e=>by cases e) (zmE mP _ _ _ _) (one3 ⟨rfl,rfl,rfl⟩) mf eP ?_;intro v8 w8 ho hg aj;obtain⟨A8,c8,rfl,hc8,eH,gU⟩:=iU.out _ _ ho hg aj;clear ho hg aj)
         go_roundw
         case rel=>exact⟨k+1,A8,e2+1,c8,jy++[nwS n j s x],by omega,by go_num,rfl,zh ⟨by rw[List.length_append,dR.out.1];rfl,by rw[rq.out,dR.out.2,List.append_assoc]⟩,eH,gU⟩
         case measure=>simp[intOf];omega
        ·have hjb:((j:Int)==(n:Int))=false:=by simp;omega
         have vL:=zh hjn;clear hjn;go_upto_region 23 with fail;have hd:=(zs aT).drew;obtain⟨W0,hW0⟩:=zX (aT.drew);rw[hW0]at hd;have hSS:(fun w':World=>w'.cell? (ax.add k)=some (.slice Ax lx cx)) W0/\(fun w':World=>zv w' Nb 0 (.slice A9 l5 c9)) W0:=⟨nL.out _ (jI.out _ (dF.out.trans (hd.mono dF.out.size))),zb hd (zky HK.out).1⟩
         have hd2:=zkb hd (zka (zs W0) (.cells #[.slice Ax lx cx] 30));have tQ:=zkp HK.out;have hBW:=dF.out.trans (hd2.mono dF.out.size);obtain⟨vs9,dZ,hpu9⟩:=(qh.out.keep (W':=W0.alloc (.cells #[.slice Ax lx cx] 30)) (S':=fun q=>q<B2) (fun _ h _=>h) fun q _ h=>hd2.block q h).more kU.out hsz (kN.out.keep (S':=fun q=>q<B2) (fun q h _=>h) fun q h hq=>(jI.out _ hBW).block q h) eG.out hlx (Nb:=Nb) (Nat.lt_of_lt_of_le tQ hd2.size) qw.out hBW.size;have kR:=zh hpu9;have hkb:=(hd2.block Nb tQ).trans HK.out;have hszW:=hBW.size;have vg:=bL1R;refine wp_region_noPanic ?_;refine zkk (fun w':World=>w'.cell? (ax.add k)=some (.slice Ax lx cx)) (fun w':World=>zv w' Nb 0 (.slice A9 l5 c9)) 9 (by kernel_rfl) ?_;rw[hW0];clear hW0 hpu9;refine zT 0 hSS ?_;refine zJ 1 hSS ?_;refine zT 2 hSS ?_;refine zT 3 hSS ?_;refine zT 4 hSS ?_;refine zT 5 hSS ?_;refine zo 6 fun K hK=>?_
         go_simp;refine hK.out _ _ ⟨nL.out _ (jI.out _ hBW),zb hd2 (zky HK.out).1⟩ ?_;clear hK K hSS;(try simp only[zQ]);have hnw:=zl0 W0 (.slice Ax lx cx) 30;have sG:=hnw ⟨W0.heap.size,0,none⟩ rfl;obtain⟨W1,hW1⟩:=zX (W0.alloc (.cells #[.slice Ax lx cx] 30));rw[hW1]at dZ kR hkb hszW hBW sG ⊢;clear hnw hW1 hd2 hd tQ;refine zo 7 fun K hK=>?_;refine zmb (by rfl) (.tmp 90) (.tmp 95) (by rfl) underlying29 zm6 (by rfl) (by decide) (by decide) wr.heap.size (.slice A9 l5 c9) l5 vs9 (by rfl) dZ ⟨W0.heap.size,0,none⟩ 1 1 [.slice Ax lx cx] (by rfl) (by rfl) sG (zpG _ _ _) (by omega) hszW ?_;intro v13 kY ho hg aj;obtain⟨uR,c13,rfl,HB13,uz,HN13,HNE13⟩:=kR.out _ _ ho hg aj;clear ho hg aj;have nI:=zh (HN13.out.trans hkb);have fM:=zh (hBW.trans HB13.out);have hc1:=nL.out _ (jI.out _ fM.out);refine hK.out _ _ ⟨hc1,(zky nI.out).1⟩ ?_
         clear hK K dZ sG hkb hBW;(try simp only[zQ]);refine zo 8 fun K hK=>?_;go_simp;refine hK.out _ _ ⟨hc1,(zky nI.out).1⟩ ?_;clear hK K;(try simp only[zQ]);have cf:∀o,kY.frozen? ⟨Nb,o,none⟩=false:=fun o=>zf nI.out;have hk13:=zky nI.out;have dE:=zh (heap_setCell_same kY Nb 0 _ _ (.slice uR (l5+1) c13) nI.out);have jM:=zh ((Chg.refl (fun q=>q=Nb) kY).setCell (p:=⟨Nb,0,none⟩) (.inl rfl) (.slice uR (l5+1) c13));have bM:=zh (fM.out.trans (jM.out.below (B:=wr.heap.size) fM.out.size fun q e=>by rw[e];exact hNw));have iC:=zh (zzx (w':=kY.setCell ⟨Nb,0,none⟩ (.slice uR (l5+1) c13)) vL.out (uz.out.keep (S':=fun q=>q<B2) (fun _ h _=>h) fun q h hq=>jM.out.block q hq fun e=>by
          rcases h with h|h
          ·omega
          ·exact HNE13.out (e▸h)) kU.out (uK.out.lim (by omega)))
         refine zp 9 fun K hK=>?_;(try simp only[zA,zB,zC]);go_simp;obtain⟨mP,mF⟩:=zX (kY.setCell ⟨Nb,0,none⟩ (.slice uR (l5+1) c13));rw[mF]at dE jM bM iC ⊢;clear mF hk13 cf hc1;refine hK.out _ _ (nL.out _ (jI.out _ bM.out)) ?_;clear hK K;(try simp only[zQ]);refine zd ?_;refine NoPanic.normal ?_;have HL11:=uK.out.lim (by omega);have mf:e2+1<=1000000:=by
          have h:=HPF.out k;rw[<-vU.out.2,<-dR.out.2,dR.out.1]at h;omega
         obtain⟨xs,hown,eP,hpush⟩:=uy.out.manyA (W0:=wc) (we:=mP.alloc (.cells #[(.slice uR (l5+1) c13),(.slice none 0 0),.slice none 0 0] 32)) (ys:=[nwS n j s x]) (us:=[((.slice uR (l5+1) c13),(.slice none 0 0),.slice none 0 0)]) dR.out.1 iN.out (by omega) rfl (bM.out.trans ((zka (zs mP) _).mono bM.out.size)) (fun k hk hv=>by
          obtain rfl:k=0:=by simpa using hk
          exact(iC.out).keep (fun q h _=>h) fun q _ h=>(zka (zs mP) _).block q h) (m:=1) rfl
         obtain⟨k0,k1,k2⟩:=zky dE.out;have iU:=zh hpush;clear hpush;go_wp2_with (at_builtin;refine zki rfl (.tmp 98) (.tmp 100) rfl underlying27 zmp rfl (by decide) (by decide) B2 (.slice Co e2 AV) e2 xs rfl hown (some ⟨mP.heap.size,0,none⟩) 1 1 [.slice uR (l5+1) c13,.slice none 0 0,.slice none 0 0] rfl rfl (fun e=>by cases e) (zmE mP _ _ _ _) (one3 ⟨rfl,rfl,rfl⟩) mf eP ?_;intro v8 w8 ho hg aj;obtain⟨A8,c8,rfl,hc8,eH,gU⟩:=iU.out _ _ ho hg aj;clear ho hg aj)
         go_roundw
         case rel=>exact⟨k+1,A8,e2+1,c8,jy++[nwS n j s x],by omega,by go_num,rfl,zh ⟨by rw[List.length_append,dR.out.1];rfl,by rw[rq.out,dR.out.2,List.append_assoc]⟩,eH,gU⟩
         case measure=>simp[intOf];omega
       ·obtain rfl:k=ll:=by omega
        have hk1:¬ (k:Int)<(k:Int):=by omega
        go_wp2_with fail
        go_roundw
        case rel=>exact⟨p+1,Co,e2,AV,jy,by omega,by go_num,rfl,zh ⟨dR.out.1,by rw[HTP.out,dR.out.2,vU.out.2,<-dN.out,List.take_length]⟩,iN,uy⟩
        case measure=>simp[intOf];omega
     ·obtain rfl:p=m:=by omega
      have hp1:¬ (p:Int)<(p:Int):=by omega
      have aZ:=zh (show ∀w',Below B2 wc w'->Below w.heap.size w w' from fun w' h=>zkb HB2.out (hB2▸h));have hac:acc=s2:=by rw[vU.out.2,<-gQ.out,List.take_length];exact ng.out.symm
      have hae:=vU.out.1;obtain⟨A9,c9,e9,bG,lq⟩:=uy.out.sa;injection e9 with e91 e92 e93;rw[hac]at lq hae bG;subst e91 e93;have hs60:=uo.out;have bI:=zh lq;have HE9:=zh hae;rw[hae]at hs60 bG;clear lq hae hac e92;go_wp2_with fail
      go_roundw
      case rel=>exact⟨j+1,An,e,cn,by omega,by go_num,rfl,bG,hs60,by rw[HS2.out];exact HE9,zh (aZ.out _ iN.out),by rw[HS2.out];exact bI⟩
      case measure=>simp[intOf];omega
  ·obtain rfl:j=n+1:=by omega
   have hj1:¬ ((n:Int)+1)<=(n:Int):=by omega
   have hjj:=iY.out;rw[hjj]at gQ iD;have hR9l:R9.length=m:=by rw[dD.out];exact zoh m U9 gQ.out
   have hgd:=vP.out (n+1) (by omega);rw[hjj]at hgd;have HC:=zh (zsJ m U9 As cs wr gQ.out hmc (by omega) iD.out fun s h=>(hgd s h).sm (by omega));have gT:=zh hR9l;clear hjj hgd hR9l;go_wp2_with fail;refine HC.out.mono ?_;rintro e w9 ⟨v,rfl,⟨A9,c9,rfl,bG,lq⟩,aU⟩;have bI:=zh lq;have aF:=zh (zkb HB.out aU);clear lq aU;go_wp2_with fail;go_ret;exact⟨_,rfl,⟨A9,c9,by rw[gT.out];rfl,by rw[gT.out];exact bG,by rw[dD.out];exact bI.out⟩,aF.out⟩
end
section
open Go Go.RowKit
attribute [local go_sem] Oper.semAt_some
def boxL(vs:List VD)(b:BX):Bool:=decide (vs.length<=6)&&(b.ok&&svB vs)&&decide (cntF vs b<=60)
theorem zu2(vs:List VD)(b:BX)(A:Option Addr)(c:Nat)(w:World)(hr:RowV w Any A vs)(hl:vs.length<=LV) :
  Calls prog 10 #[.slice A vs.length c,.agg #[.int .i64 b.v,.int .i64 b.l,.int .i64 b.i]] w fun e w'=>e=.returned (.bool (boxL vs b))/\Below w.heap.size w w':=by
 have kJ:=zh (fun w' (h:Below w.heap.size w w')=>zs9 vs b A c w' (hr.later h) hl);have yQ:=zh (fun w' (h:Below w.heap.size w w') (hok:(b.ok&&svB vs)=true)=>zta vs b A c w' (hr.later h) hok);have hl1:=zlc hl;have hb1:=zka (zs w) (.cells #[.int .i64 b.v,.int .i64 b.l,.int .i64 b.i] 24);have hk1:=heap_alloc_new w (.cells #[.int .i64 b.v,.int .i64 b.l,.int .i64 b.i] 24);have HX:=zh (show boxL vs b=(decide (vs.length<=6)&&(b.ok&&svB vs)&&decide (cntF vs b<=60))from rfl);obtain⟨ok,hok⟩:=zX ((b.ok&&svB vs));obtain⟨X,hX⟩:=zX (boxL vs b);obtain⟨C,hC⟩:=zX (cntF vs b);rw[hok]at HX kJ;simp only[hok,hC]at yQ;rw[hX,hC]at HX;rw[hX];clear hok hX hr hl hC;go_enter func10,ntmps10;go_upto_region 1 with fail;obtain⟨w1,hw1⟩:=zX (w.alloc (.cells #[.int .i64 b.v,.int .i64 b.l,.int .i64 b.i] 24));rw[hw1]at hb1 hk1 ⊢;obtain⟨x0,x1,x2⟩:=zky hk1;have HB1:=zh hb1;have aB:=zh hk1
 clear hw1 hb1 hk1;by_cases h6:vs.length<=6
 ·have h6i:(vs.length:Int)<=6:=by omega
  go_wp2_with fail;refine(kJ.out _ HB1.out).mono ?_;rintro e w2 ⟨rfl,hb2⟩;have HB2:=zh (zkb HB1.out hb2);obtain⟨y0,y1,y2⟩:=zky (zkc aB.out hb2);clear hb2 x0 x1 x2
  cases ok
  ·have HF:=zh (show X=false by rw[HX.out];simp);go_wp2_with fail;go_ret;exact⟨by rw[HF.out];rfl,HB2.out⟩
  ·have HF:=zh (show X=decide (C<=60) by rw[HX.out];simp[h6]);go_wp2_with fail;refine(yQ.out _ HB2.out trivial).mono ?_;rintro e w3 ⟨rfl,rfl⟩;go_wp2_with fail;go_ret;exact⟨by rw[HF.out];rfl,HB2.out⟩
 ·have h6i:¬ (vs.length:Int)<=6:=by omega
  have HF:=zh (show X=false by rw[HX.out];simp[h6]);go_wp2_with fail;go_ret;exact⟨by rw[HF.out];rfl,HB1.out⟩
end
section
open Go Go.RowKit
theorem zKj(s1 s2:ByteArray)(k1 k2 n1 n2:Int)(w:World):(Op.equalIn 10000 57 (.agg #[.string s1,.int .u8 k1,.int .i64 n1]) (.agg #[.string s2,.int .u8 k2,.int .i64 n2])).run prog w=.ok (s1.toList==s2.toList&&k1==k2&&n1==n2) w:=by
 have hS:prog.underlying 57=some (.struct (prog.fieldsOf 57)):=by kernel_rfl
 have hp:prog.stoodInHeld 57=false:=by kernel_rfl
 rw[show(10000:Nat)=9999+1 from rfl,run_equalIn_agg w 9999 57 _ _ hS hp];simp only[Program.fieldsOf,underlying57];go_simp;by_cases h1:s1.toList=s2.toList<;>by_cases h2:k1=k2<;>by_cases h3:n1=n2<;>simp[h1,h2,h3]
def eqV(u v:VD):Bool:=decide (u.s=v.s)&&decide (u.k=v.k)&&decide (u.n=v.n)
def eqVs:List VD->List VD->Bool
 | [],[]=>true
 | u::us,v::vs=>eqV u v&&eqVs us vs
 | _,_=>false
theorem zrm{u v:VD}:eqV u v=true↔u=v:=by
 obtain⟨a,b,c⟩:=u;obtain⟨d,e,f⟩:=v;simp[eqV,and_assoc]
theorem znf:∀ {us vs:List VD},eqVs us vs=true↔us=vs
 | [],[]=>by simp[eqVs]
 | u::us,v::vs=>by simp[eqVs,zrm,znf (us:=us) (vs:=vs)]
 | [],_::_=>by simp[eqVs]
 | _::_,[]=>by simp[eqVs]
theorem zsF(s1 s2:ByteArray):(s1.toList==s2.toList)=decide (s1=s2):=by
 rw[ByteArray.toList_eq,ByteArray.toList_eq];obtain⟨⟨x⟩⟩:=s1;obtain⟨⟨y⟩⟩:=s2;by_cases h:x=y
 ·subst h;simp
 ·simp[h]
theorem zKi(s1 s2:ByteArray)(k1 k2 n1 n2:Int)(w:World):(binOp BinOp.neq 57 (.agg #[.string s1,.int .u8 k1,.int .i64 n1]) (.agg #[.string s2,.int .u8 k2,.int .i64 n2])).run prog w=.ok (.bool (!eqV ⟨s1,k1,n1⟩ ⟨s2,k2,n2⟩)) w:=by
 rw[run_neq_struct,zKj];simp only[Result.andThen_ok,zsF,eqV];congr 3
theorem zx2(x y:Operand)(xs ys:Array Value)(w:World):(eqGuard BinOp.neq 57 x y (.agg xs) (.agg ys)).run prog w=.ok () w:=run_eqGuard_agg w _ _ x y xs ys (by kernel_rfl)
theorem zKg{vs us:List VD}{j:Nat}(h1:j<vs.length)(h2:j<us.length)(h:eqV vs[j] us[j]=false):eqVs vs us=false:=by
 cases e:eqVs vs us with
 | false=>rfl
 | true =>
  have e:=znf.1 e;subst e;rw[zrm.2 rfl]at h
  cases h
theorem zzo{vs us:List VD}(h:vs.length≠us.length):eqVs vs us=false:=by
 cases e:eqVs vs us with
 | false=>rfl
 | true=>exact absurd (by rw[znf.1 e]) h
theorem zKh{vs us:List VD}(hl:vs.length=us.length)(h:∀k (h1:k<vs.length) (h2:k<us.length),vs[k]=us[k]):eqVs vs us=true:=znf.2 (List.ext_getElem hl fun i h1 h2=>h i h1 h2)
theorem zzd{W:World}{vs us:List VD}{A B:Option Addr}{c d:Nat}(h1:RowV W Any A vs)(h2:RowV W Any B us)(hl:vs.length<=LV)(hk:us.length<=LV) :
  Calls prog 58 #[.slice A vs.length c,.slice B us.length d] W fun e W'=>e=.returned (.bool (eqVs vs us))/\Below W.heap.size W W':=by
 have H1:=zh h1;have H2:=zh h2;have hl1:=zlc hl;have hl2:=zlc hk;clear h1 h2 hl hk;have hneq:=zKi;have hgd:=zx2;obtain⟨n,hn⟩:=zX (vs.length);obtain⟨m,hm⟩:=zX (us.length);have HN:=zh (And.intro hn hm);rw[hn]at hl1 ⊢;rw[hm]at hl2 ⊢;clear hn hm;obtain⟨R,hR⟩:=zX (eqVs vs us);have HR:=zh hR;rw[hR];clear hR;go_enter func58,ntmps58;by_cases hnm:n=m;rotate_left 1
 ·have e0:((n:Int) != (m:Int))=true:=by simp;omega
  go_wp2_with fail;go_ret;exact⟨by rw[<-HR.out,zzo (by have:=HN.out;omega)];rfl,zr⟩
 subst hnm;go_wp2_with fail
 go_loopw [13] (fun i wr=>∃j:Nat,j<=n/\i=.int .i64 j/\Hid (Below W.heap.size W wr)/\Hid (∀k (h1:k<vs.length) (h2:k<us.length),k<j->vs[k]=us[k])) (fun i _=>n-(intOf i).toNat)
 case atStart=>exact⟨0,by omega,rfl,zh zr,zh fun k _ _ h=>by omega⟩
 case round =>
  obtain⟨j,hj,rfl,HB,HE⟩:=hrel;by_cases hlt:j<n
  ·have hj1:(j:Int)<(n:Int):=by omega
   have hj0:(0:Int)<=(j:Int):=by omega
   have di:j<vs.length:=by rw[HN.out.1];exact hlt
   have hju:j<us.length:=by rw[HN.out.2];exact hlt
   obtain⟨a,v,rfl,-,hv,⟨x0,x1,x2⟩,-⟩:=(H1.out.later HB.out).nd di;obtain⟨b,u,rfl,-,hu,⟨y0,y1,y2⟩,-⟩:=(H2.out.later HB.out).nd hju;obtain⟨v0,v1,v2⟩:=v;obtain⟨u0,u1,u2⟩:=u;simp only at x0 x1 x2 y0 y1 y2;have hvv:=hv.out;have lg:=hu.out;obtain⟨t,ht⟩:=zX (eqV ⟨v0,v1,v2⟩ ⟨u0,u1,u2⟩);have hnn:=fun w=>(hneq v0 u0 v1 u1 v2 u2 w).trans (by rw[ht]);have HT:=zh (show eqV vs[j] us[j]=t by rw[hvv,lg];exact ht);have HJ:=zh (And.intro di hju);clear ht hneq hv hu hvv lg
   cases t
   ·go_upto_region 6 with fail
    go_quiet (fail)
    have gM:=zh (zkm HB.out nq);go_wp2_with fail;go_ret;exact⟨by rw[<-HR.out,zKg HJ.out.1 HJ.out.2 HT.out];rfl,gM.out⟩
   ·go_upto_region 6 with fail
    go_quiet (fail)
    have gM:=zh (zkm HB.out nq);go_wp2_with fail
    go_roundw
    case rel =>
     refine⟨j+1,by omega,by go_num,gM,zh fun k h1 h2 hk=>?_⟩;by_cases e:k<j
     ·exact HE.out k h1 h2 e
     ·obtain rfl:k=j:=by omega
      exact zrm.1 HT.out
    case measure=>simp[intOf];omega
  ·obtain rfl:j=n:=by omega
   have hj1:¬ (j:Int)<(j:Int):=by omega
   go_wp2_with fail;go_ret;exact⟨by rw[<-HR.out,zKh (by have:=HN.out;omega) fun k h1 h2=>HE.out k h1 h2 (by have:=HN.out;omega)];rfl,HB.out⟩
section
variable {P:Program} {md:Region.Mode} {ops:Array Oper} {Q:Exit->Act->World->Prop} {S1 S2:World->Prop} {k:Nat}
theorem zrG{i j1 j2:Nat}{oi o1 o2:Oper}(si s1 s2:Option Nat)(n:Nat)(L:Bool->Bool->Bool->Array Bool)(a0:Act)(Inv:World->Prop)(J:Bool->Bool->Value->Value->World->Prop)(Fact:Value->World->Prop)
  (hoi:ops[i]?=some oi)(ho1:ops[j1]?=some o1)(ho2:ops[j2]?=some o2)(hdi:oi.dst=si)(hd1:o1.dst=s1)(hd2:o2.dst=s2)
  (h00:Region.ready md ops (L false false false)=[i,j1,j2])(h01:Region.ready md ops (L false false true)=[i,j1])(h10:Region.ready md ops (L false true false)=[i,j2])(h11:Region.ready md ops (L false true true)=[i])
  (hLi:∀la lb,(L false la lb).setIfInBounds i true=L true la lb)(hL1:∀lb,(L false false lb).setIfInBounds j1 true=L false true lb)(hL2:∀la,(L false la false).setIfInBounds j2 true=L false la true)
  (hS:∀w,Inv w->S1 w/\S2 w)(hInv:∀w w',Inv w->Below w.heap.size w w'->Inv w')(hJ:∀la lb u v w w',J la lb u v w->Below w.heap.size w w'->J la lb u v w')
  (hi:∀(u v:Value) (K:Act->World->Prop) (w:World),Inv w->Shut (∀x w',Below w.heap.size w w'->Fact x w'->K (((a0.put s1 u).put s2 v).put si x) w')->if Region.wanted oi (yielded ops ((a0.put s1 u).put s2 v).tmps)=true then Oper.wp P oi ((a0.put s1 u).put s2 v) w K Q else K (((a0.put s1 u).put s2 v).put si undef) w)
  (h1:∀(lb:Bool) (u v:Value) (K:Act->World->Prop) (w:World),Inv w->J false lb u v w->Shut (∀x w',Below w.heap.size w w'->J true lb x v w'->K (((a0.put s1 u).put s2 v).put s1 x) w')->if Region.wanted o1 (yielded ops ((a0.put s1 u).put s2 v).tmps)=true then Oper.wp P o1 ((a0.put s1 u).put s2 v) w K Q else K (((a0.put s1 u).put s2 v).put s1 undef) w)
  (h2:∀(la:Bool) (u v:Value) (K:Act->World->Prop) (w:World),Inv w->J la false u v w->Shut (∀x w',Below w.heap.size w w'->J la true u x w'->K (((a0.put s1 u).put s2 v).put s2 x) w')->if Region.wanted o2 (yielded ops ((a0.put s1 u).put s2 v).tmps)=true then Oper.wp P o2 ((a0.put s1 u).put s2 v) w K Q else K (((a0.put s1 u).put s2 v).put s2 undef) w)
  (hp1:∀u v x,((a0.put s1 u).put s2 v).put s1 x=(a0.put s1 x).put s2 v)(hp2:∀u v x,((a0.put s1 u).put s2 v).put s2 x=(a0.put s1 u).put s2 x)
  (hc:∀(la lb:Bool) (u v x:Value) (w:World),Inv w->Fact x w->J la lb u v w->wpG P md ops Q S1 S2 k (n+(!la).toNat+(!lb).toNat) (L true la lb) (((a0.put s1 u).put s2 v).put si x) w) :
  ∀(la lb:Bool) (u v:Value) (w:World),Inv w->J la lb u v w->(a0.put s1 u).put s2 v=a0->wpG P md ops Q S1 S2 k (n+1+(!la).toNat+(!lb).toNat) (L false la lb) a0 w:=by
 subst hdi hd1 hd2;have hmem:∀la lb q,q∈Region.ready md ops (L false la lb)->q=i\/(q=j1/\la=false)\/(q=j2/\lb=false):=by
  intro la lb q hq
  cases la<;>cases lb
  ·rw[h00]at hq;simp at hq;rcases hq with h|h|h<;>simp[h]
  ·rw[h01]at hq;simp at hq;rcases hq with h|h<;>simp[h]
  ·rw[h10]at hq;simp at hq;rcases hq with h|h<;>simp[h]
  ·rw[h11]at hq;simp at hq;simp[hq]
 have hne:∀la lb,Region.ready md ops (L false la lb)≠[]:=by
  intro la lb
  cases la<;>cases lb
  ·rw[h00];simp
  ·rw[h01];simp
  ·rw[h10];simp
  ·rw[h11];simp
 let Pp:Bool->Bool->Prop:=fun la lb=>∀(u v:Value) (w:World),Inv w->J la lb u v w->wpG P md ops Q S1 S2 k (n+1+(!la).toNat+(!lb).toNat) (L false la lb) ((a0.put o1.dst u).put o2.dst v) w
 have step:∀la lb,(la=false->Pp true lb)->(lb=false->Pp la true)->Pp la lb:=by
  intro la lb ia ib u v w hI hj;rw[show n+1+(!la).toNat+(!lb).toNat=(n+(!la).toNat+(!lb).toNat)+1 by omega];refine⟨(fun h0=>absurd h0 (hne la lb)),fun q hq=>?_⟩;rcases hmem la lb q hq with rfl|⟨rfl,rfl⟩|⟨rfl,rfl⟩
  ·refine wpOp_step hoi fun K' hK=>hi u v K' w hI ?_;intro x w' hbl hF;have hI':=hInv _ _ hI hbl;refine hK _ _ ⟨⟨(hS _ hI').1,fun _=>(hS _ hI').2⟩,?_⟩;rw[hLi];exact hc la lb u v x w' hI' hF (hJ _ _ _ _ _ _ hj hbl)
  ·refine wpOp_step ho1 fun K' hK=>h1 lb u v K' w hI hj ?_;intro x w' hbl hF;have hI':=hInv _ _ hI hbl;refine hK _ _ ⟨⟨(hS _ hI').1,fun _=>(hS _ hI').2⟩,?_⟩;rw[hL1,hp1];have:=ia rfl x v w' hI' hF;simpa using this
  ·refine wpOp_step ho2 fun K' hK=>h2 la u v K' w hI hj ?_;intro x w' hbl hF;have hI':=hInv _ _ hI hbl;refine hK _ _ ⟨⟨(hS _ hI').1,fun _=>(hS _ hI').2⟩,?_⟩;rw[hL2,hp2];have:=ib rfl u x w' hI' hF;have e:n+1+(!la).toNat+(!true).toNat=n+(!la).toNat+(!false).toNat:=by simp;omega
   rw[e]at this;exact this
 have vW:Pp true true:=step _ _ (fun h=>by cases h) (fun h=>by cases h);have yY:Pp true false:=step _ _ (fun h=>by cases h) (fun _=>vW);have yZ:Pp false true:=step _ _ (fun _=>vW) (fun h=>by cases h);have pff:Pp false false:=step _ _ (fun _=>yY) (fun _=>yZ);intro la lb u v w hI hj he;have:Pp la lb:=by cases la<;>cases lb<;>assumption
 rw[<-he];exact this u v w hI hj
theorem ztu{j1 j2:Nat}{o1 o2:Oper}(s1 s2:Option Nat)(n:Nat)(L:Bool->Bool->Array Bool)(a0:Act)(Inv:World->Prop)(J:Bool->Bool->Value->Value->World->Prop)
  (ho1:ops[j1]?=some o1)(ho2:ops[j2]?=some o2)(hd1:o1.dst=s1)(hd2:o2.dst=s2)
  (h00:Region.ready md ops (L false false)=[j1,j2])(h01:Region.ready md ops (L false true)=[j1])(h10:Region.ready md ops (L true false)=[j2])
  (hL1:∀lb,(L false lb).setIfInBounds j1 true=L true lb)(hL2:∀la,(L la false).setIfInBounds j2 true=L la true)
  (hS:∀w,Inv w->S1 w/\S2 w)(hInv:∀w w',Inv w->Below w.heap.size w w'->Inv w')
  (h1:∀(lb:Bool) (u v:Value) (K:Act->World->Prop) (w:World),Inv w->J false lb u v w->Shut (∀x w',Below w.heap.size w w'->J true lb x v w'->K (((a0.put s1 u).put s2 v).put s1 x) w')->if Region.wanted o1 (yielded ops ((a0.put s1 u).put s2 v).tmps)=true then Oper.wp P o1 ((a0.put s1 u).put s2 v) w K Q else K (((a0.put s1 u).put s2 v).put s1 undef) w)
  (h2:∀(la:Bool) (u v:Value) (K:Act->World->Prop) (w:World),Inv w->J la false u v w->Shut (∀x w',Below w.heap.size w w'->J la true u x w'->K (((a0.put s1 u).put s2 v).put s2 x) w')->if Region.wanted o2 (yielded ops ((a0.put s1 u).put s2 v).tmps)=true then Oper.wp P o2 ((a0.put s1 u).put s2 v) w K Q else K (((a0.put s1 u).put s2 v).put s2 undef) w)
  (hp1:∀u v x,((a0.put s1 u).put s2 v).put s1 x=(a0.put s1 x).put s2 v)(hp2:∀u v x,((a0.put s1 u).put s2 v).put s2 x=(a0.put s1 u).put s2 x)
  (hc:∀(u v:Value) (w:World),Inv w->J true true u v w->wpG P md ops Q S1 S2 k n (L true true) ((a0.put s1 u).put s2 v) w) :
  ∀(la lb:Bool) (u v:Value) (w:World),Inv w->J la lb u v w->(a0.put s1 u).put s2 v=a0->wpG P md ops Q S1 S2 k (n+(!la).toNat+(!lb).toNat) (L la lb) a0 w:=by
 subst hd1 hd2
 let Pp:Bool->Bool->Prop:=fun la lb=>∀(u v:Value) (w:World),Inv w->J la lb u v w->wpG P md ops Q S1 S2 k (n+(!la).toNat+(!lb).toNat) (L la lb) ((a0.put o1.dst u).put o2.dst v) w
 have vW:Pp true true:=fun u v w hI hj=>hc u v w hI hj;have s1:∀lb (u v:Value) (w:World),Inv w->J false lb u v w->Pp true lb->wpOp P ops Q j1 (fun a' w'=>(S1 w'/\(((L false lb).setIfInBounds j1 true).getD k true=false->S2 w'))/\wpG P md ops Q S1 S2 k (n+(!lb).toNat) ((L false lb).setIfInBounds j1 true) a' w') ((a0.put o1.dst u).put o2.dst v) w:=by
  intro lb u v w hI hj hP;refine wpOp_step ho1 fun K' hK=>h1 lb u v K' w hI hj ?_;intro x w' hbl hF;have hI':=hInv _ _ hI hbl;refine hK _ _ ⟨⟨(hS _ hI').1,fun _=>(hS _ hI').2⟩,?_⟩;rw[hL1,hp1];have:=hP x v w' hI' hF;simpa using this
 have s2:∀la (u v:Value) (w:World),Inv w->J la false u v w->Pp la true->wpOp P ops Q j2 (fun a' w'=>(S1 w'/\(((L la false).setIfInBounds j2 true).getD k true=false->S2 w'))/\wpG P md ops Q S1 S2 k (n+(!la).toNat) ((L la false).setIfInBounds j2 true) a' w') ((a0.put o1.dst u).put o2.dst v) w:=by
  intro la u v w hI hj hP;refine wpOp_step ho2 fun K' hK=>h2 la u v K' w hI hj ?_;intro x w' hbl hF;have hI':=hInv _ _ hI hbl;refine hK _ _ ⟨⟨(hS _ hI').1,fun _=>(hS _ hI').2⟩,?_⟩;rw[hL2,hp2];have:=hP u x w' hI' hF;simpa using this
 have yZ:Pp false true:=fun u v w hI hj=>by
  show wpG P md ops Q S1 S2 k (n+1+0) _ _ w
  refine⟨(fun h0=>by rw[h01]at h0;cases h0),fun q hq=>?_⟩;rw[h01]at hq;simp only[List.mem_singleton]at hq;subst hq;exact s1 true u v w hI hj vW
 have yY:Pp true false:=fun u v w hI hj=>by
  show wpG P md ops Q S1 S2 k (n+0+1) _ _ w
  refine⟨(fun h0=>by rw[h10]at h0;cases h0),fun q hq=>?_⟩;rw[h10]at hq;simp only[List.mem_singleton]at hq;subst hq;exact s2 true u v w hI hj vW
 have pff:Pp false false:=fun u v w hI hj=>by
  show wpG P md ops Q S1 S2 k (n+1+1) _ _ w
  refine⟨(fun h0=>by rw[h00]at h0;cases h0),fun q hq=>?_⟩;rw[h00]at hq;simp only[List.mem_cons,List.not_mem_nil,or_false]at hq;rcases hq with rfl|rfl
  ·exact s1 false u v w hI hj yY
  ·exact s2 false u v w hI hj yZ
 intro la lb u v w hI hj he;have:Pp la lb:=by cases la<;>cases lb<;>assumption
 rw[<-he];exact this u v w hI hj
end
def J2(o:Obj)(n:Nat)(la lb:Bool)(u v:Value)(w:World):Prop :=
 (la=true->∃b,u=.pointer (some ⟨b,0,none⟩)/\n<=b/\w.heap[b]?=some o)/\(lb=true->∃b,v=.pointer (some ⟨b,0,none⟩)/\n<=b/\w.heap[b]?=some o)/\(la=true->lb=true->u≠v)
theorem J2.later{o:Obj}{n:Nat}{la lb:Bool}{u v:Value}{w w':World}(h:J2 o n la lb u v w)(hb:Below w.heap.size w w'):J2 o n la lb u v w':=by
 obtain⟨h1,h2,h3⟩:=h;refine⟨fun e=>?_,fun e=>?_,h3⟩
 ·obtain⟨b,e1,e2,e3⟩:=h1 e;exact⟨b,e1,e2,zkc e3 hb⟩
 ·obtain⟨b,e1,e2,e3⟩:=h2 e;exact⟨b,e1,e2,zkc e3 hb⟩
theorem J2.one{o:Obj}{n:Nat}{lb:Bool}{u v:Value}{w:World}(h:J2 o n false lb u v w)(hn:n<=w.heap.size):J2 o n true lb (.pointer (some ⟨w.heap.size,0,none⟩)) v (w.alloc o):=by
 have hl:=h.later (zka zr o);refine⟨fun _=>⟨_,rfl,hn,heap_alloc_new w o⟩,hl.2.1,fun _ e=>?_⟩;obtain⟨b,rfl,-,e3⟩:=h.2.1 e;intro hh;injection hh with hh;injection hh with hh;injection hh with hh;have:=zkp e3;omega
theorem J2.two{o:Obj}{n:Nat}{la:Bool}{u v:Value}{w:World}(h:J2 o n la false u v w)(hn:n<=w.heap.size):J2 o n la true u (.pointer (some ⟨w.heap.size,0,none⟩)) (w.alloc o):=by
 have hl:=h.later (zka zr o);refine⟨hl.1,fun _=>⟨_,rfl,hn,heap_alloc_new w o⟩,fun e _=>?_⟩;obtain⟨b,rfl,-,e3⟩:=h.1 e;intro hh;injection hh with hh;injection hh with hh;injection hh with hh;have:=zkp e3;omega
theorem J2.boxes{o:Obj}{n:Nat}{u v:Value}{w:World}(h:J2 o n true true u v w):∃b c,u=.pointer (some ⟨b,0,none⟩)/\v=.pointer (some ⟨c,0,none⟩)/\n<=b/\n<=c/\b≠c/\w.heap[b]?=some o/\w.heap[c]?=some o:=by
 obtain⟨b,rfl,e2,e3⟩:=h.1 rfl;obtain⟨c,rfl,f2,f3⟩:=h.2.1 rfl;exact⟨b,c,rfl,rfl,e2,f2,fun e=>h.2.2 rfl rfl (by rw[e]),e3,f3⟩
attribute [local go_sem] Oper.semAt_some
theorem OwnS.chgD{W W':World}{n0 ba:Nat}{s:SS}{v:Value}{xs:Array Value}(h:OwnS W n0 s v)(hc:Chg (fun b=>b=ba) W W')(hz:W.heap[ba]?=some (.cells xs 59 (0,0))):OwnS W' n0 s v:=by
 obtain⟨vc,vi,vo,fc,rfl,hr,hi⟩:=h;refine⟨vc,vi,vo,fc,rfl,hr.chg hc fun i b hb hcb=>?_,hi⟩;have hcb:b=ba:=hcb;subst hcb;obtain⟨-,⟨hv,-⟩|⟨g,cap,cur,hv,-,hg,-⟩⟩:=hr.row i
 ·rw[hv]at hb
  cases hb
 ·rw[hv]at hb;injection hb with hb;have hb:g=b:=hb;subst hb;rw[hz]at hg;injection hg with hg;injection hg with _ hE
  cases i with
  | all=>simp[zlm]at hE
  | inp=>simp[zlm]at hE
  | out=>simp[zlm]at hE
  | el i =>
   simp only[zlm]at hE
   split at hE
   ·simp at hE
   ·exact absurd hE (by decide)
def FwV(n0:Nat)(R:SS×Nat×Int×List Nat)(x:Value)(w:World):Prop:=∃A c B d D g,x=.agg #[.slice A R.1.cells.length c,.slice B R.1.tin.length d,.slice D R.1.tout.length g,.int .i64 (R.2.1:Int),.int .i64 R.2.2.1]/\OwnS w n0 R.1 (.agg #[.slice A R.1.cells.length c,.slice B R.1.tin.length d,.slice D R.1.tout.length g])/\R.1.Lim
theorem FwP.v{W W':World}{R:SS×Nat×Int×List Nat}{e:Ending}{n:Nat}(hn:n<=W.heap.size)(h:FwP W R e W'):∃x,e=.returned x/\FwV n R x W'/\Below W.heap.size W W':=by
 obtain⟨v1,v2,v3,rfl,ho,hb,hl⟩:=h;have hsv:=ho.lower hn;obtain⟨A,c,B,d,D,g,hv⟩:=ho.slices;rw[hv]at hsv;injection hv with hv;simp only[Array.mk.injEq,List.cons.injEq,and_true]at hv;obtain⟨rfl,rfl,rfl⟩:=hv;exact⟨_,rfl,⟨A,c,B,d,D,g,rfl,hsv,hl.1⟩,hb⟩
def difE(p q:PG)(F:Int)(s:SS):Bool:=decide (errE p F s≠errE q F s) || !eqS (resO p s F (F.toNat*2000+2000) false).1 (resO q s F (F.toNat*2000+2000) false).1
theorem zyM:IsFn prog 59 f59:=⟨func59,by kernel_rfl,by kernel_rfl⟩
theorem zuP{W:World}{p q:PG}{s:SS}{F:Int}{bp bf bq c1 c2 c3 e1 e2 e3:Nat}{A1 A2 A3 D1 D2 D3:Option Addr}{sv:Value}(hk:W.heap[bp]?=some (.cells (pgA p A1 c1 A2 c2 A3 c3) 43 (0,0)))(hp:PV W Any p (pv A1 p.vs.length c1 A2 p.prs.length c2 p.m.k p.m.n p.m.s A3 p.m.ks.length c3))(hf:W.heap[bf]?=some (.cells #[.int .i64 F] 3 (0,0)))
  (hkq:W.heap[bq]?=some (.cells (pgA q D1 e1 D2 e2 D3 e3) 43 (0,0)))(hq:PV W Any q (pv D1 q.vs.length e1 D2 q.prs.length e2 q.m.k q.m.n q.m.s D3 q.m.ks.length e3))(hs:SV W Any s sv)(hcl:s.cells.length<=100)(hF:I64 F)(eu:F<=1000000) :
  Calls prog 59 #[sv,.pointer (some ⟨bp,0,none⟩),.pointer (some ⟨bf,0,none⟩),.pointer (some ⟨bq,0,none⟩)] W fun e' W'=>e'=.returned (.bool (difE p q F s))/\Below W.heap.size W W':=by
 obtain⟨A,c,B,d,D,k,rfl⟩:∃A c B d D k,sv=.agg #[.slice A s.cells.length c,.slice B s.tin.length d,.slice D s.tout.length k]:=by
  obtain⟨A,c,B,d,D,k,rfl,-⟩:=hs;exact⟨_,_,_,_,_,_,rfl⟩
 have hkb:=heap_alloc_new W (.cells #[.slice A s.cells.length c,.slice B s.tin.length d,.slice D s.tout.length k] 32);have hb:=zka (zs W) (.cells #[.slice A s.cells.length c,.slice B s.tin.length d,.slice D s.tout.length k] 32);obtain⟨w1,hw1⟩:=zX (W.alloc (.cells #[.slice A s.cells.length c,.slice B s.tin.length d,.slice D s.tout.length k] 32));obtain⟨N,hN⟩:=zX (W.heap.size);rw[hw1]at hkb hb;rw[hN]at hkb;have HB:=zh hb;have uE:=zh (zkc hk hb);have HKQ:=zh (zkc hkq hb);have jE:=zh (zkc hf hb);have nG:=zh hkb;have jJ:=zh (fun w (h:Below w1.heap.size w1 w)=>zmk p s F (F.toNat*2000+2000) _ _ w ((hp.later hb).later h) ((hs.later hb).later h) (by omega) hF eu zl);have oH:=zh (fun w (h:Below w1.heap.size w1 w)=>zmk q s F (F.toNat*2000+2000) _ _ w ((hq.later hb).later h) ((hs.later hb).later h) (by omega) hF eu zl)
 have uN:=zh (show difE p q F s=(decide ((resO p s F (F.toNat*2000+2000) false).2.2.1≠(resO q s F (F.toNat*2000+2000) false).2.2.1) || !eqS (resO p s F (F.toNat*2000+2000) false).1 (resO q s F (F.toNat*2000+2000) false).1)from rfl);obtain⟨RD,hRD⟩:=zX (difE p q F s);rw[hRD]at uN ⊢;generalize resO p s F (F.toNat*2000+2000) false=R1 at jJ uN;generalize resO q s F (F.toNat*2000+2000) false=R2 at oH uN;clear hk hp hf hkq hq hs hcl hF eu hb hkb hRD;go_enter func59,ntmps59;go_upto_region 1 with fail
 try rw[hw1]
 try rw[hN]
 clear hw1 hN;have az:=zh (show ∀w',Below w1.heap.size w1 w'->(fun w':World=>pgS w' bp p A1 c1 A2 c2 A3 c3/\pgS w' bq q D1 e1 D2 e2 D3 e3/\stC w' N A s.cells.length c B s.tin.length d D s.tout.length k/\zv w' bf 0 (.int .i64 F)) w' from fun w' hb=>⟨box6 (zkc uE.out hb),box6 (zkc HKQ.out hb),zky (zkc nG.out hb),zc (zkc jE.out hb) rfl⟩);obtain⟨S1,hS1⟩:∃S1:World->Prop,S1=fun w':World=>pgS w' bp p A1 c1 A2 c2 A3 c3/\pgS w' bq q D1 e1 D2 e2 D3 e3/\stC w' N A s.cells.length c B s.tin.length d D s.tout.length k/\w'.cell? ⟨bf,0,none⟩=some (.int .i64 F):=⟨_,rfl⟩
 rw[<-hS1]at az;have hSS:zW S1 zU w1.drew:=⟨az.out _ zr.drew,trivial⟩
 refine wp_region_noPanic ?_;refine zG hSS 10 ?_;subst hS1;refine zT 0 hSS ?_;refine zT 1 hSS ?_;refine zT 2 hSS ?_;refine zT 4 hSS ?_;refine zT 5 hSS ?_;refine zT 6 hSS ?_;have hI:(fun w=>Below w1.heap.size w1 w) w1.drew:=zr.drew;clear hSS
 refine zrG (i:=3) (j1:=8) (j2:=9) (some 11) (some 6) (some 7) 3 (fun li la lb => #[true,true,true,li,true,true,true,false,la,lb,false,false]) _ (fun w=>Below w1.heap.size w1 w) (J2 (.cells #[.slice none 0 0,.slice none 0 0,.slice none 0 0,.int .i64 0,.int .i64 0] 59 (0,0)) w1.heap.size) (FwV w1.heap.size R1) rfl rfl rfl rfl rfl rfl (by kernel_rfl) (by kernel_rfl) (by kernel_rfl) (by kernel_rfl) (fun la lb=>by cases la<;>cases lb<;>rfl) (fun lb=>by cases lb<;>rfl) (fun la=>by cases la<;>rfl) (fun w h=>⟨az.out _ h,trivial⟩) (fun w w' h hb=>?_) (fun la lb u v w w' h hb=>h.later hb) (fun u v K w h aa=>?_) (fun lb u v K w h hj aa=>?_) (fun la u v K w h hj aa=>?_) (fun u v x=>?_) (fun u v x=>?_) (fun la lb u v x wc h hF hj=>?_) false false undef undef w1.drew hI ⟨nofun,nofun,nofun⟩ ?_
 ·have hb0:=h;exact zkb hb0 hb
 ·have hb0:=h;have hK:=zh aa;clear aa;refine zke (by rfl) (.func 21) [.tmp 8,.tmp 9,.tmp 10] _ (by rfl) 21 _ zsn (by rfl) [pv A1 p.vs.length c1 A2 p.prs.length c2 p.m.k p.m.n p.m.s A3 p.m.ks.length c3,.agg #[.slice A s.cells.length c,.slice B s.tin.length d,.slice D s.tout.length k],.int .i64 F] (by rfl) (fun x w'=>FwV w1.heap.size R1 x w'/\Below w.heap.size w w') ((jJ.out w hb0).mono fun e w' h=>FwP.v hb0.size h) ?_;rintro x w' ⟨hx,hb⟩;exact hK.out _ _ hb hx
 ·have hb0:=h;have hK:=zh aa;clear aa;(try simp only[zQ]);(try simp only[zA,zB,zC]);go_simp;exact hK.out _ _ (zka zr _) (hj.one hb0.size)
 ·have hb0:=h;have hK:=zh aa;clear aa;(try simp only[zQ]);(try simp only[zA,zB,zC]);go_simp;exact hK.out _ _ (zka zr _) (hj.two hb0.size)
 ·simp only[Act.put,zD,zE,zF]
 ·simp only[Act.put,zD,zE,zF]
 rotate_left 1
 ·simp only[Act.put,zD,zE,zF]
 (try simp only[zQ]);obtain⟨fA,fc,fB,fd,fD,fg,rfl,hsa,hl1⟩:=hF;have iH:=zh hl1;clear hI hl1;have hI:(fun w=>Below w1.heap.size w1 w/\OwnS w w1.heap.size R1.1 (.agg #[.slice fA R1.1.cells.length fc,.slice fB R1.1.tin.length fd,.slice fD R1.1.tout.length fg])) wc:=⟨h,hsa⟩
 clear hsa h
 refine zrG (i:=7) (j1:=8) (j2:=9) (some 15) (some 6) (some 7) 2 (fun li la lb => #[true,true,true,true,true,true,true,li,la,lb,false,false]) _ (fun w=>Below w1.heap.size w1 w/\OwnS w w1.heap.size R1.1 (.agg #[.slice fA R1.1.cells.length fc,.slice fB R1.1.tin.length fd,.slice fD R1.1.tout.length fg])) (J2 (.cells #[.slice none 0 0,.slice none 0 0,.slice none 0 0,.int .i64 0,.int .i64 0] 59 (0,0)) w1.heap.size) (FwV w1.heap.size R2) rfl rfl rfl rfl rfl rfl (by kernel_rfl) (by kernel_rfl) (by kernel_rfl) (by kernel_rfl) (fun la lb=>by cases la<;>cases lb<;>rfl) (fun lb=>by cases lb<;>rfl) (fun la=>by cases la<;>rfl) (fun w h=>⟨az.out _ h.1,trivial⟩) (fun w w' h hb=>⟨zkb h.1 hb,h.2.later hb⟩) (fun la lb u v w w' h hb=>h.later hb) (fun u v K w h aa=>?_) (fun lb u v K w h hj aa=>?_) (fun la u v K w h hj aa=>?_) (fun u v x=>?_) (fun u v x=>?_) (fun la lb u v x wc h hF hj=>?_) la lb u v wc hI hj ?_
 ·have hb0:=h.1;have hK:=zh aa;clear aa;refine zke (by rfl) (.func 21) [.tmp 12,.tmp 13,.tmp 14] _ (by rfl) 21 _ zsn (by rfl) [pv D1 q.vs.length e1 D2 q.prs.length e2 q.m.k q.m.n q.m.s D3 q.m.ks.length e3,.agg #[.slice A s.cells.length c,.slice B s.tin.length d,.slice D s.tout.length k],.int .i64 F] (by rfl) (fun x w'=>FwV w1.heap.size R2 x w'/\Below w.heap.size w w') ((oH.out w hb0).mono fun e w' h=>FwP.v hb0.size h) ?_;rintro x w' ⟨hx,hb⟩;exact hK.out _ _ hb hx
 ·have hb0:=h.1;have hK:=zh aa;clear aa;(try simp only[zQ]);(try simp only[zA,zB,zC]);go_simp;exact hK.out _ _ (zka zr _) (hj.one hb0.size)
 ·have hb0:=h.1;have hK:=zh aa;clear aa;(try simp only[zQ]);(try simp only[zA,zB,zC]);go_simp;exact hK.out _ _ (zka zr _) (hj.two hb0.size)
 ·simp only[Act.put,zD,zE,zF]
 ·simp only[Act.put,zD,zE,zF]
 rotate_left 1
 ·simp only[Act.put,zD,zE,zF]
 (try simp only[zQ]);obtain⟨gA,gc,gB,gd,gD,gg,rfl,hsb,hl2⟩:=hF;have HL2:=zh hl2;clear hI hl2;have hI:(fun w=>Below w1.heap.size w1 w/\OwnS w w1.heap.size R1.1 (.agg #[.slice fA R1.1.cells.length fc,.slice fB R1.1.tin.length fd,.slice fD R1.1.tout.length fg])/\OwnS w w1.heap.size R2.1 (.agg #[.slice gA R2.1.cells.length gc,.slice gB R2.1.tin.length gd,.slice gD R2.1.tout.length gg])) wc:=⟨h.1,h.2,hsb⟩
 clear hsb h;refine ztu (j1:=8) (j2:=9) (some 6) (some 7) 2 (fun la lb => #[true,true,true,true,true,true,true,true,la,lb,false,false]) _ (fun w=>Below w1.heap.size w1 w/\OwnS w w1.heap.size R1.1 (.agg #[.slice fA R1.1.cells.length fc,.slice fB R1.1.tin.length fd,.slice fD R1.1.tout.length fg])/\OwnS w w1.heap.size R2.1 (.agg #[.slice gA R2.1.cells.length gc,.slice gB R2.1.tin.length gd,.slice gD R2.1.tout.length gg])) (J2 (.cells #[.slice none 0 0,.slice none 0 0,.slice none 0 0,.int .i64 0,.int .i64 0] 59 (0,0)) w1.heap.size) rfl rfl rfl rfl (by kernel_rfl) (by kernel_rfl) (by kernel_rfl) (fun lb=>by cases lb<;>rfl) (fun la=>by cases la<;>rfl) (fun w h=>⟨az.out _ h.1,trivial⟩) (fun w w' h hb=>⟨zkb h.1 hb,h.2.1.later hb,h.2.2.later hb⟩) (fun lb u v K w h hj aa=>?_) (fun la u v K w h hj aa=>?_) (fun u v x=>?_) (fun u v x=>?_) (fun u v wd h hj=>?_) la lb u v wc hI hj ?_
 ·have hb0:=h.1;have hK:=zh aa;clear aa;(try simp only[zQ]);(try simp only[zA,zB,zC]);go_simp;exact hK.out _ _ (zka zr _) (hj.one hb0.size)
 ·have hb0:=h.1;have hK:=zh aa;clear aa;(try simp only[zQ]);(try simp only[zA,zB,zC]);go_simp;exact hK.out _ _ (zka zr _) (hj.two hb0.size)
 ·simp only[Act.put,zD,zE,zF]
 ·simp only[Act.put,zD,zE,zF]
 rotate_left 1
 ·simp only[Act.put,zD,zE,zF]
 (try simp only[zQ]);obtain⟨ba,bb,rfl,rfl,hla,hlb,hne,hza,hzb⟩:=hj.boxes;obtain⟨hb0,hsa,hsb⟩:=h;clear hI hj;have x0:wd.cell? ⟨ba,0,none⟩=some (.slice none 0 0):=zc hza rfl;have x1:wd.cell? ⟨ba,1,none⟩=some (.slice none 0 0):=zc hza rfl;have x2:wd.cell? ⟨ba,2,none⟩=some (.slice none 0 0):=zc hza rfl;have x3:wd.cell? ⟨ba,3,none⟩=some (.int .i64 0):=zc hza rfl;have x4:wd.cell? ⟨ba,4,none⟩=some (.int .i64 0):=zc hza rfl;have xf:∀o,wd.frozen? ⟨ba,o,none⟩=false:=fun _=>zf hza;have ug:=zh hza;have iB:=zh hzb;have HB0:=zh hb0;have xc:=zh hsa;have kL:=zh hsb;clear hza hzb hb0 hsa hsb;refine zo 10 fun K hK=>?_;(try simp only[zA,zB,zC]);go_simp;obtain⟨hh,hch⟩:=set5 (u0:=.slice fA R1.1.cells.length fc) (u1:=.slice fB R1.1.tin.length fd) (u2:=.slice fD R1.1.tout.length fg) (u3:=.int .i64 (R1.2.1:Int)) (u4:=.int .i64 R1.2.2.1) ug.out
 have hb0:=HB0.out.trans (hch.below HB0.out.size fun b e=>by omega);have hsa:=xc.out.chgD hch ug.out;have hsb:=kL.out.chgD hch ug.out;have hzb:=hch.keep iB.out (by show ¬ (bb=ba);omega);obtain⟨we,hwwe⟩:=zX ((((((wd.setCell ⟨ba,0,none⟩ (.slice fA R1.1.cells.length fc)).setCell ⟨ba,1,none⟩ (.slice fB R1.1.tin.length fd)).setCell ⟨ba,2,none⟩ (.slice fD R1.1.tout.length fg)).setCell ⟨ba,3,none⟩ (.int .i64 (R1.2.1:Int))).setCell ⟨ba,4,none⟩ (.int .i64 R1.2.2.1)));rw[hwwe]at hh hch hb0 hsa hsb hzb ⊢;have hza:=hh;refine hK.out _ _ (⟨az.out _ hb0,trivial⟩) ?_;clear hK K x0 x1 x2 x3 x4 xf hwwe hch ug iB HB0 xc kL hh;(try simp only[zQ]);have x0:we.cell? ⟨bb,0,none⟩=some (.slice none 0 0):=zc hzb rfl;have x1:we.cell? ⟨bb,1,none⟩=some (.slice none 0 0):=zc hzb rfl;have x2:we.cell? ⟨bb,2,none⟩=some (.slice none 0 0):=zc hzb rfl;have x3:we.cell? ⟨bb,3,none⟩=some (.int .i64 0):=zc hzb rfl
 have x4:we.cell? ⟨bb,4,none⟩=some (.int .i64 0):=zc hzb rfl;have xf:∀o,we.frozen? ⟨bb,o,none⟩=false:=fun _=>zf hzb;have ug:=zh hza;have iB:=zh hzb;have HB0:=zh hb0;have xc:=zh hsa;have kL:=zh hsb;clear hza hzb hb0 hsa hsb;refine zp 11 fun K hK=>?_;(try simp only[zA,zB,zC]);go_simp;obtain⟨hh,hch⟩:=set5 (u0:=.slice gA R2.1.cells.length gc) (u1:=.slice gB R2.1.tin.length gd) (u2:=.slice gD R2.1.tout.length gg) (u3:=.int .i64 (R2.2.1:Int)) (u4:=.int .i64 R2.2.2.1) iB.out;have hb0:=HB0.out.trans (hch.below HB0.out.size fun b e=>by omega);have hsa:=xc.out.chgD hch iB.out;have hsb:=kL.out.chgD hch iB.out;have hza:=hch.keep ug.out (by show ¬ (ba=bb);omega)
 obtain⟨wf,hwwf⟩:=zX ((((((we.setCell ⟨bb,0,none⟩ (.slice gA R2.1.cells.length gc)).setCell ⟨bb,1,none⟩ (.slice gB R2.1.tin.length gd)).setCell ⟨bb,2,none⟩ (.slice gD R2.1.tout.length gg)).setCell ⟨bb,3,none⟩ (.int .i64 (R2.2.1:Int))).setCell ⟨bb,4,none⟩ (.int .i64 R2.2.2.1)));rw[hwwf]at hh hch hb0 hsa hsb hza ⊢;have hzb:=hh;refine hK.out _ _ ((az.out _ hb0)) ?_;clear hK K x0 x1 x2 x3 x4 xf hwwf hch ug iB HB0 xc kL hh;(try simp only[zQ]);refine zd ?_;refine NoPanic.normal ?_;have x0:wf.cell? ⟨ba,0,none⟩=some (.slice fA R1.1.cells.length fc):=zc hza rfl;have x1:wf.cell? ⟨ba,1,none⟩=some (.slice fB R1.1.tin.length fd):=zc hza rfl;have x2:wf.cell? ⟨ba,2,none⟩=some (.slice fD R1.1.tout.length fg):=zc hza rfl;have x4:wf.cell? ⟨ba,4,none⟩=some (.int .i64 R1.2.2.1):=zc hza rfl;have y0:wf.cell? ⟨bb,0,none⟩=some (.slice gA R2.1.cells.length gc):=zc hzb rfl
 have y1:wf.cell? ⟨bb,1,none⟩=some (.slice gB R2.1.tin.length gd):=zc hzb rfl;have y2:wf.cell? ⟨bb,2,none⟩=some (.slice gD R2.1.tout.length gg):=zc hzb rfl;have y4:wf.cell? ⟨bb,4,none⟩=some (.int .i64 R2.2.2.1):=zc hzb rfl;have nJ:=zh (zvi R1.1 R2.1 _ _ wf (hsa.sv iH.out) (hsb.sv HL2.out));have oJ:=zh (zkb HB.out hb0);clear hza hzb hb0 hsa hsb;by_cases xZ:R1.2.2.1=R2.2.2.1
 ·have he:(R1.2.2.1 != R2.2.2.1)=false:=by simpa using xZ
  go_wp2_with fail;refine nJ.out.mono ?_;rintro e' w9 ⟨rfl,aU⟩;go_wp2_with fail;go_ret;exact⟨by rw[uN.out,decide_eq_false (by simpa using xZ)];rfl,zkb oJ.out aU⟩
 ·have he:(R1.2.2.1 != R2.2.2.1)=true:=by simpa using xZ
  go_wp2_with fail;go_ret;exact⟨by rw[uN.out,decide_eq_true xZ];rfl,oJ.out⟩
def dffE(p q:PG)(b:BX)(F:Int):SS×Nat×Bool:=if eqVs p.vs q.vs=true then fndE (difE p q F) (allS b (lenE p.vs b))else(nilS,0,false)
theorem ztj{W:World}{p q:PG}{b:BX}{F:Int}{v u:Value}(hp:PV W Any p v)(hq:PV W Any q u)(hok:(b.ok&&svB p.vs)=true)(hm:(allS b (lenE p.vs b)).length<=1000000)(hF:I64 F)(eu:F<=1000000) :
  Calls prog 22 #[v,u,.agg #[.int .i64 b.v,.int .i64 b.l,.int .i64 b.i],.int .i64 F] W (FalP (dffE p q b F) W):=by
 obtain⟨A1,c1,A2,c2,A3,c3,rfl,-⟩:=id hp;obtain⟨D1,e1,D2,e2,D3,e3,rfl,-⟩:=id hq;obtain⟨bv,bl,bi⟩:=b;obtain⟨N,hN⟩:=zX (W.heap.size);have HN:=zh hN;obtain⟨hb1,hz1,k0,k1,k2,k3,k4⟩:=al5F W (.cells (pgA p A1 c1 A2 c2 A3 c3) 43) (.cells (pgA q D1 e1 D2 e2 D3 e3) 43) (.cells #[.int .i64 bv,.int .i64 bl,.int .i64 bi] 24) (.cells #[.int .i64 F] 3) (.cells #[.slice none 0 0,.slice none 0 0,.slice none 0 0] 32);obtain⟨w1,hw1⟩:=zX (((((W.alloc (.cells (pgA p A1 c1 A2 c2 A3 c3) 43)).alloc (.cells (pgA q D1 e1 D2 e2 D3 e3) 43)).alloc (.cells #[.int .i64 bv,.int .i64 bl,.int .i64 bi] 24)).alloc (.cells #[.int .i64 F] 3)).alloc (.cells #[.slice none 0 0,.slice none 0 0,.slice none 0 0] 32));rw[hw1]at hb1 hz1 k0 k1 k2 k3 k4;rw[hN]at hz1 k0 k1 k2 k3 k4;have HB1:=zh hb1;have HZ1:=zh hz1;have HVE:=zh (zzd (W:=w1) (c:=c1) (d:=e1) (hp.pg.vars.later hb1) (hq.pg.vars.later hb1) hp.pg.lv hq.pg.lv)
 have lL:=zh (((hp.keep (S':=fun q=>q<N+5) (fun q _ h=>by omega) fun _ _ _=>rfl).keep (w':=w1) (S':=fun q=>q<N+5) (fun _ h _=>h) fun q _ hlt=>hb1.block q hlt));have HQV:=zh (((hq.keep (S':=fun q=>q<N+5) (fun q _ h=>by omega) fun _ _ _=>rfl).keep (w':=w1) (S':=fun q=>q<N+5) (fun _ h _=>h) fun q _ hlt=>hb1.block q hlt));have jV:=zh hp.pg.lv;have fu:=zh (And.intro hok (And.intro hm (And.intro hF eu)));obtain⟨⟨s9,n9,ok9⟩,lq⟩:=zX (dffE p q ⟨bv,bl,bi⟩ F);have bI:=zh lq;rw[lq];have aJ:=zh k0;have aB:=zh k1;have aR:=zh k2;have gK:=zh k3;have dI:=zh k4;obtain⟨p0,p1,p2,p3,p4,p5⟩:=box6 k0;obtain⟨q0,q1,q2,q3,q4,q5⟩:=box6 k1;clear hp hq hb1 hz1 k0 k1 k2 k3 k4 hok hm hF eu lq;have ma:∀(fn:Fn) (first cap:Array Value) (w:World),(Instr.makeFunc fn first cap).run prog w=.ok (.func fn first cap) w:=fun _ _ _ _=>rfl
 show Calls prog 22 #[pv A1 p.vs.length c1 A2 p.prs.length c2 p.m.k p.m.n p.m.s A3 p.m.ks.length c3,pv D1 q.vs.length e1 D2 q.prs.length e2 q.m.k q.m.n q.m.s D3 q.m.ks.length e3,.agg #[.int .i64 bv,.int .i64 bl,.int .i64 bi],.int .i64 F] W _
 go_enter func22,ntmps22;go_wp2_with fail;simp only[Nat.add_assoc,Nat.reduceAdd];refine HVE.out.mono ?_;rintro e' w2 ⟨rfl,hb2⟩;have HB2:=zh (zkb HB1.out hb2);have qD:=zh (zkc aJ.out hb2);have jG:=zh (zkc aB.out hb2);have qC:=zh (zkc aR.out hb2);have qB:=zh (zkc gK.out hb2);have jF:=zh (zkc dI.out hb2);have HZ2:=zh (show N+5<=w2.heap.size by have:=hb2.size;have:=HZ1.out;omega);have mY:=zh (lL.out.later hb2);have HQV2:=zh (HQV.out.later hb2);clear hb2 p0 p1 p2 p3 p4 p5 q0 q1 q2 q3 q4 q5 lL HQV aJ aB aR gK dI;obtain⟨ev,hev⟩:=zX (eqVs p.vs q.vs);rw[hev];have HEV:=zh hev;clear hev
 cases ev
 ·have hr:dffE p q ⟨bv,bl,bi⟩ F=(nilS,0,false):=by unfold dffE;rw[HEV.out];rfl
  have HRR:=zh (bI.out.symm.trans hr);clear hr;obtain⟨q0,q1,q2⟩:=zky jF.out;have cf:∀o,w2.frozen? ⟨N+4,o,none⟩=false:=fun o=>zf jF.out;obtain⟨w9,dw,bG,fF⟩:=st3 (.slice none 0 0) (.slice none 0 0) (.slice none 0 0) jF.out;have xA:=zh fF;have aF:=zh (HB2.out.trans (bG.below HB2.out.size fun q e=>by have e:q=N+4:=e;have:=HN.out;omega));clear bG fF;go_wp2_with fail;obtain⟨t0,t1,t2⟩:=zky xA.out;have hx:=HRR.out;injection hx with h1 h2;injection h2 with h2 h3;subst h1 h2 h3;exact bodyPost_ret (v:=.tuple #[.agg #[.slice none 0 0,.slice none 0 0,.slice none 0 0],.bool false]) (by simp[results,results22,go_sem,t0,t1,t2]) rfl ⟨aF.out,_,rfl,SV.nilF _ _⟩
 have HT:=zh (show zrx 59 #[.pointer (some ⟨N,0,none⟩),.pointer (some ⟨N+3,0,none⟩),.pointer (some ⟨N+1,0,none⟩)] (fun _ s=>difE p q F s) (allS ⟨bv,bl,bi⟩ (lenE p.vs ⟨bv,bl,bi⟩)) w2.heap.size (fun _=>FrI w2.heap.size w2)from by
  refine⟨fun n W W' h h1 h2=>h.keep h1 h2,fun n W h=>h.size,fun n s v W g hI hg hgs ho hx=>?_⟩;have hx2:=znl fu.out.1 s (List.mem_of_getElem? hx);have hZ:=HZ2.out;have hlt:∀q,q<N+5->W.heap[q]?=w2.heap[q]?:=fun q hq=>hI.same q (by omega);refine(zuP (F:=F) (p:=p) (q:=q) (s:=s) ((hlt N (by omega)).trans qD.out) (mY.out.keep (fun _ _ _=>trivial) fun q h _=>hlt q h) ((hlt (N+3) (by omega)).trans qB.out) ((hlt (N+1) (by omega)).trans jG.out) (HQV2.out.keep (fun _ _ _=>trivial) fun q h _=>hlt q h) (ho.sv hx2.1) hx2.2 fu.out.2.2.1 fu.out.2.2.2).mono ?_;rintro e' W' ⟨rfl,hb⟩;exact⟨rfl,hI.keep hb.size fun q hq=>hb.block q (Nat.lt_of_lt_of_le hq hI.size),Chg.of_below hb⟩)
 have hr:dffE p q ⟨bv,bl,bi⟩ F=fndE (difE p q F) (allS ⟨bv,bl,bi⟩ (lenE p.vs ⟨bv,bl,bi⟩)):=by unfold dffE;rw[HEV.out];rfl
 have aZ:=zh (show Calls _ _ _ _ (FstP (fndE (difE p q F) (allS ⟨bv,bl,bi⟩ (lenE p.vs ⟨bv,bl,bi⟩))) (fun _=>FrI w2.heap.size w2) w2)from znr (W:=w2) (A1:=A1) (c1:=c1) (vs:=p.vs) (b:=⟨bv,bl,bi⟩) (mY.out.keep (S':=Any) (fun _ _ _=>trivial) fun _ _ _=>rfl).pg.vars jV.out fu.out.1 fu.out.2.1 zyM HT.out ⟨zl,fun _ _=>rfl⟩);rw[<-hr,bI.out]at aZ;clear hr HT;obtain⟨p0,p1,p2,p3,p4,p5⟩:=box6 qD.out;obtain⟨y0,y1,y2⟩:=zky qC.out;go_wp2_with fail;refine aZ.out.mono ?_;rintro e' w3 ⟨v2,rfl,hs2,hi2,hc2⟩;have zt:=hs2;obtain⟨B1,d1,B2,d2,B3,d3,rfl,-⟩:=zt;have hb2:=hi2.below hc2;have hb3:=zka hb2 (.cells #[.slice B1 s9.cells.length d1,.slice B2 s9.tin.length d2,.slice B3 s9.tout.length d3] 32);have k10:=heap_alloc_new w3 (.cells #[.slice B1 s9.cells.length d1,.slice B2 s9.tin.length d2,.slice B3 s9.tout.length d3] 32);have k8:=zkc (jF.out) hb3
 have hs3:=hs2.later (zka (zs w3) (.cells #[.slice B1 s9.cells.length d1,.slice B2 s9.tin.length d2,.slice B3 s9.tout.length d3] 32));obtain⟨w4,hw4⟩:=zX (w3.alloc (.cells #[.slice B1 s9.cells.length d1,.slice B2 s9.tin.length d2,.slice B3 s9.tout.length d3] 32));rw[hw4]at hb3 k10 k8 hs3;obtain⟨x0,x1,x2⟩:=zky k10;obtain⟨q0,q1,q2⟩:=zky k8;have cf:∀o,w4.frozen? ⟨N+4,o,none⟩=false:=fun o=>zf k8;obtain⟨w9,dw,bG,fF⟩:=st3 (.slice B1 s9.cells.length d1) (.slice B2 s9.tin.length d2) (.slice B3 s9.tout.length d3) k8;have Bv:=zh (hs3.keep (S':=fun q=>W.heap.size<=q) (fun q h _=>by have:=HB2.out.size;omega) fun q h _=>bG.block q ‹_› (fun e=>by have e:q=N+4:=e;have:=HZ2.out;omega));have xA:=zh fF;have aF:=zh (((HB2.out).trans (hb3.mono HB2.out.size)).trans (bG.below (by have:=HB2.out.size;have:=hb3.size;omega) fun q e=>by have e:q=N+4:=e;have:=HN.out;omega))
 clear hs2 hi2 hc2 hb2 hb3 k10 k8 hs3 bG fF y0 y1 y2 p0 p1 p2 p3 p4 p5;go_wp2_with fail;obtain⟨t0,t1,t2⟩:=zky xA.out;exact bodyPost_ret (v:=.tuple #[.agg #[.slice B1 s9.cells.length d1,.slice B2 s9.tin.length d2,.slice B3 s9.tout.length d3],.bool ok9]) (by simp[results,results22,go_sem,t0,t1,t2]) rfl ⟨aF.out,_,rfl,Bv.out⟩
end
section
open Go Go.RowKit
def E23(e:Int):Prop:=0<=e/\e<=23
theorem zx4{look:ByteArray->Option (List Int)}{k:Int}{s:ByteArray}{i:Int×Int}(h:E23 i.2):E23 (varE look k s i).2:=by
 unfold varE
 split
 ·exact⟨by simp,by simp⟩
 ·(repeat' split)<;>first|exact h|(unfold E23;simp only;omega)
theorem zyV(k x y:Int):E23 (divE k x y).2:=by
 unfold divE
 split
 ·unfold E23;simp only;omega
 ·split<;>(unfold E23;simp only;omega)
theorem zr_rg(x:Int):E23 (x,(0:Int)).2:=⟨Int.le_refl _,by simp⟩
theorem zzE(c:Prop)[Decidable c](a b:Int×Int)(ha:E23 a.2)(hb:E23 b.2):E23 (if c then a else b).2:=by
 split<;>assumption
theorem zz2(k x y:Int):E23 (apE k x y).2:=by
 unfold apE
 repeat' first|exact zyV _ _ _|exact zr_rg _|refine zzE _ _ _ ?_ ?_
theorem zxO(look:ByteArray->Option (List Int))(t:T):E23 (evE look t).2:=by
 induction t using T.ind with
 | _ k n s ks ih =>
  rw[evE,zn3];have hg:∀i,E23 ((ks.map (evE look)).getD i (0,0)).2:=fun i=>by
   rw[List.getD_eq_getElem?_getD];rcases h:(ks.map (evE look))[i]? with _|q
   ·exact⟨by simp,by simp⟩
   ·obtain⟨h1,h2⟩:=List.getElem?_eq_some_iff.1 h;rw[List.getElem_map]at h2;rw[Option.getD_some,<-h2];exact ih _ (List.getElem_mem _)
  unfold evK
  split
  ·unfold E23;simp only;omega
  ·split
   ·exact zx4 (hg 0)
   ·split
    ·exact hg 0
    ·split
     ·unfold unE;split<;>(unfold E23;simp only;omega)
     ·split
      ·exact hg 1
      ·exact zz2 _ _ _
theorem zss(look:ByteArray->Option (List Int))(t:T):E23 (zlP look t).2:=by
 unfold zlP
 split
 ·exact zxO look t
 ·unfold E23;simp only;omega
theorem zus(look:ByteArray->Option (List Int))(t:T):E23 (indE look t).2:=by
 unfold indE
 split
 ·split
  ·unfold E23;simp only;omega
  ·exact zxO look _
 ·unfold E23;simp only;omega
theorem zym(vs:List VD)(k:Int)(s:ByteArray):E23 (ownE vs k s):=by
 unfold ownE
 (repeat' split)<;>(unfold E23;omega)
theorem zyP(vs:List VD)(t:T):E23 (fltE vs t):=by
 induction t using T.ind with
 | _ k n s ks ih =>
  rw[fltE]
  split
  ·exact zym vs k s
  ·have:∀l:List T,(∀u∈l,E23 (fltE vs u))->E23 (zlq vs l):=by
    intro l
    induction l with
    | nil=>intro _;rw[zlq];unfold E23;omega
    | cons u l ih2 =>
     intro hl;rw[zlq]
     split
     ·exact hl u (List.mem_cons_self ..)
     ·exact ih2 fun x hx=>hl x (List.mem_cons_of_mem _ hx)
   exact this ks ih
theorem zwS(S:ST)(k:Int)(s qs:ByteArray)(r2:Int)(id i:Nat):E23 (znG S k s qs r2 id i).1:=by
 unfold znG znB zls
 (repeat' split)<;>(unfold E23;simp only;omega)
theorem zxQ(S:ST)(t:T):E23 (doE S t).1:=by
 unfold doE
 split
 ·unfold E23;simp only;omega
 ·split
  ·unfold E23;simp only;omega
  ·split
   ·unfold E23;simp only;omega
   ·split
    ·exact zyP _ t
    ·obtain⟨k,n,s,ks⟩:=t;simp only[zpV,zlr]
     split
     ·exact zus _ _
     ·unfold znV
      split
      ·unfold znM
       split
       ·exact zus _ _
       ·split
        ·exact zss _ _
        ·unfold E23;simp only;omega
      ·split
       ·unfold E23;simp only;omega
       ·split
        ·exact zwS _ _ _ _ _ _ _
        ·unfold E23;simp only;omega
theorem zvT(S:ST)(t:T):E23 (zod S t).1:=by
 obtain⟨k,n,s,ks⟩:=t;exact zxQ S _
theorem zr5(S:ST)(v:VD)(x:Int):E23 (zlV S v x).1:=by
 unfold zlV
 (repeat' split)<;>(unfold E23;simp only;omega)
theorem zqL(S:ST)(s:ByteArray)(x:Int):E23 (zk8 S s x).1:=by
 unfold zk8
 (repeat' split)<;>(unfold E23;simp only;omega)
theorem zuj(S:ST):E23 (zl1 S).1:=by
 unfold zl1
 (repeat' split)<;>(unfold E23;simp only;omega)
theorem zuN{f:FR}:∀(l:List (VD×ByteArray)) (acc:FR) (e:Int),entL f acc l=.error e->E23 e
 | [],acc,e,h=>by rw[entL]at h;cases h
 | (v,a)::r,acc,e,h=>by
  rw[entL]at h
  split at h
  ·injection h with h;subst h;unfold E23;omega
  ·split at h
   ·exact zuN r _ e h
   ·injection h with h;subst h;unfold E23;omega
theorem zuM(S:ST)(ps:List VD)(ss:List ByteArray):E23 (zlQ S ps ss).1:=by
 unfold zlQ
 split
 ·unfold E23;simp only;omega
 ·cases h:entL S.cur ⟨[],[],0⟩ (ps.zip ss)with
  | error e=>exact zuN _ _ _ h
  | ok f=>unfold entR;simp only;split<;>(unfold E23;simp only;omega)
def Rg(o:Out):Prop:=∀e,o=.err e->E23 e
theorem Rg.bind{o:Out}{f:RS->Out}(h:Rg o)(hf:∀r,Rg (f r)):Rg (o.bind f):=by
 cases o with
 | gas=>exact fun e he=>by cases he
 | err x=>exact fun e he=>h e he
 | ok r=>exact hf r
theorem Rg.ok(r:RS):Rg (.ok r):=fun e he=>by cases he
theorem Rg.gas:Rg .gas:=fun e he=>by cases he
theorem Rg.err{x:Int}(h:E23 x):Rg (.err x):=fun e he=>by injection he with he;subst he;exact h
theorem Rg.step(F:Int)(r:RS):Rg (zkE F r):=by
 unfold zkE
 split
 ·exact Rg.err (by unfold E23;omega)
 ·exact Rg.ok _
theorem Rg.store(r:RS){R:Int×ST}(h:E23 R.1):Rg (zkl r R):=by
 unfold zkl
 split
 ·exact Rg.err h
 ·exact Rg.ok _
theorem Rg.val{t:T}{r:RS}{f:Int->RS->Out}(hf:∀x,Rg (f x r)):Rg (valO t r f):=by
 unfold valO
 split
 ·exact Rg.err (zss _ _)
 ·exact hf _
theorem Rg.holds{F:Int}{t:T}{r:RS}{f:Bool->RS->Out}(hf:∀b r,Rg (f b r)):Rg (zli F t r f):=(Rg.step F r).bind fun r=>Rg.val fun x=>hf _ _
theorem Rg.assert(F:Int)(t:T)(b:Bool)(r:RS):Rg (zkv F t b r):=Rg.holds fun b' r=>by
 split
 ·exact Rg.ok _
 ·exact Rg.err (by unfold E23;omega)
theorem Rg.body{f:T->RS->Out}(h:∀t r,Rg (f t r)):∀(l:List T) (r:RS),Rg (zlb f l r)
 | [],r=>Rg.ok r
 | t::ts,r=>(h t r).bind fun r=>Rg.body h ts r
theorem Rg.loop{F:Int}{f:T->RS->Out}{entry test:T}{l1 l2:List T}(h:∀t r,Rg (f t r)):∀(m:Nat) (r:RS),Rg (zl7 F f entry test l1 l2 m r)
 | 0,_=>Rg.gas
 | m+1,r=>by
  rw[zl7];refine(Rg.body h l1 r).bind fun r=>Rg.holds fun b r=>?_
  split
  ·exact Rg.ok _
  ·exact(Rg.body h l2 r).bind fun r=>(Rg.assert F entry false r).bind fun r=>Rg.loop h m r
theorem zpU{prs:List PR}{F:Int}:∀(g:Nat) (back:Bool) (t:T) (r:RS),Rg (zkB prs F g back t r)
 | 0,_,_,_=>Rg.gas
 | g+1,back,t,r=>by
  have hb:∀back l r,Rg (zlb (zkB prs F g back) l r):=fun back l r=>Rg.body (fun u r=>zpU g back u r) l r;rw[zkB]
  split
  ·exact Rg.holds fun yes r=>(hb _ _ _).bind fun r=>Rg.assert _ _ _ _
  ·split
   ·exact(Rg.assert _ _ _ _).bind fun r=>Rg.loop (fun u r=>zpU g back u r) g r
   ·split
    ·exact(Rg.step _ _).bind fun r=>Rg.val fun x=>(Rg.store _ (zr5 _ _ _)).bind fun r=>(hb _ _ _).bind fun r=>(Rg.step _ _).bind fun r=>Rg.val fun x=>Rg.store _ (zqL _ _ _)
    ·split
     ·exact(Rg.step _ _).bind fun r=>(Rg.store _ (zr5 _ _ _)).bind fun r=>(hb _ _ _).bind fun r=>(Rg.step _ _).bind fun r=>Rg.store _ (zqL _ _ _)
     ·split
      ·split
       ·exact Rg.err (by unfold E23;omega)
       ·exact(Rg.step _ _).bind fun r=>(Rg.store _ (zuM _ _ _)).bind fun r=>(hb _ _ _).bind fun r=>(Rg.step _ _).bind fun r=>Rg.store _ (zuj _)
      ·refine(Rg.step _ _).bind fun r=>Rg.store _ ?_
       split
       ·exact zvT _ _
       ·exact zxQ _ _
theorem zyk(p:PG)(s:SS)(F:Int)(g:Nat)(back:Bool):E23 (resO p s F g back).2.2.1:=by
 unfold resO
 split
 ·unfold E23;simp only;omega
 ·split
  ·unfold E23;simp only;omega
  ·have h:Rg (runO p.prs F g back p.m ⟨newS p.vs s,0,List.replicate p.prs.length 0⟩):=Rg.body (fun u r=>zpU g back u r) _ _
   cases ho:runO p.prs F g back p.m ⟨newS p.vs s,0,List.replicate p.prs.length 0⟩with
   | gas=>simp only[outR];unfold E23;omega
   | err e=>simp only[outR];exact h e ho
   | ok r=>simp only[outR];unfold E23;omega
attribute [local go_sem] Oper.semAt_some
def znT(l:List Int):List Int:=l.foldl (fun acc x=>if acc.contains x then acc else acc++[x]) []
theorem zpa(l:List Int)(x:Int):znT (l++[x])=if (znT l).contains x then znT l else znT l++[x]:=by simp[znT]
def kO(c:Int):Lit:=.int .i64 c
theorem zzD{c d:Int}(h:c≠d):kO c≠kO d:=fun e=>h (by unfold kO at e;injection e)
theorem zxJ(c:Int):WideAt.IsKeyLit (kO c):=trivial
theorem zzn{c:Int}(hc:I64 c):(Lit.int .i64 c).wf=true:=by
 obtain⟨h1,h2⟩:=hc;simp[Lit.wf,IntKind.min,IntKind.max,IntKind.signed,IntKind.bits];omega
theorem keyO{c:Int}(hc:I64 c):keyOf prog 48 (.int .i64 c)=some (kO c):=Maps.keyOf_int_mk underlying48 (zzn hc)
theorem zInt(w:World):(zeroValue 3).run prog w=.ok (.int .i64 0) w:=by kernel_rfl
def OM(W:World)(mb:Nat)(e:SS->Int)(pre:List SS):Prop :=
 ∃D:DataW Unit,W.ownsMap prog 48 (plainElem (H:=Unit) prog 3) mb pre.length D/\(∀k,I64 k->D.atKey (kO k) (.lit (.int .i64 0))=.lit (.int .i64 (cntS e pre k:Int)))/\(∀k,I64 k->Maps.has D (kO k)=(znT (pre.map e)).contains k)/\Maps.size D=(znT (pre.map e)).length
theorem OM.keep{W W':World}{mb:Nat}{e:SS->Int}{pre:List SS}(h:OM W mb e pre)(hk:W'.heap[mb]?=W.heap[mb]?):OM W' mb e pre:=by
 obtain⟨D,⟨es,clock,hb,r⟩,h2⟩:=h;exact⟨D,⟨es,clock,hk.trans hb,r⟩,h2⟩
theorem OM.lt{W:World}{mb:Nat}{e:SS->Int}{pre:List SS}(h:OM W mb e pre):mb<W.heap.size:=h.choose_spec.1.lt
theorem OM.ne{W:World}{mb b:Nat}{e:SS->Int}{pre:List SS}{a:Array Value}{t:TypeId}{z:Nat×Nat}(h:OM W mb e pre)(hb:W.heap[b]?=some (.cells a t z)):¬ b=mb:=fun e=>by
 obtain⟨D,⟨es,clock,hm,-⟩,-⟩:=h;subst e;rw[hb]at hm;injection hm with hm
 cases hm
theorem OM.made(W:World)(e:SS->Int):OM (W.alloc (.map #[] 0)) W.heap.size e []:=⟨.map [],World.ownsMap_made W _ _ _,fun _ _=>rfl,fun _ _=>rfl,rfl⟩
theorem zuU(e:SS->Int)(l:List SS)(s:SS)(k:Int):cntS e (l++[s]) k=cntS e l k+if e s=k then 1 else 0:=by
 unfold cntS;rw[List.filter_append,List.length_append];congr 1;by_cases h:e s=k
 ·simp[h]
 ·simp[h]
theorem zuV(e:SS->Int)(l:List SS)(k:Int):cntS e l k<=l.length:=List.length_filter_le _ _
theorem OM.look{W:World}{mb:Nat}{e:SS->Int}{pre:List SS}(h:OM W mb e pre){k:Int}(hk:I64 k):(Instr.lookup 46 (.map (some mb)) (.int .i64 k) false).run prog W=.ok (.int .i64 (cntS e pre k:Int)) W:=by
 obtain⟨D,h1,h2,-⟩:=h;obtain⟨c,hr,hc,-⟩:=h1.lookup_int (Maps.int_keyed underlying48) underlying46 underlying3 (zInt W) (keyO hk);rw[h2 k hk]at hc;injection hc with hc;injection hc with _ hc;rw[hr,hc]
theorem OM.len{W:World}{mb:Nat}{e:SS->Int}{pre:List SS}(h:OM W mb e pre)(ty:TypeId):(Builtin.len_ #[46] ty #[.map (some mb)]).run prog W=.ok (.int .i64 ((znT (pre.map e)).length:Int)) W:=by
 obtain⟨D,h1,-,-,h4⟩:=h;rw[h1.len underlying46 ty,h4]
theorem OM.put{W:World}{mb:Nat}{e:SS->Int}{pre:List SS}(h:OM W mb e pre)(s:SS)(he:I64 (e s))(hn:pre.length<1000000) :
  ∃W',(Instr.mapUpdate 46 (.map (some mb)) (.int .i64 (e s)) (.int .i64 ((cntS e pre (e s):Int)+1))).run prog W=.ok () W'/\OM W' mb e (pre++[s])/\Chg (fun b=>b=mb) W W':=by
 obtain⟨D,h1,h2,h3,h4⟩:=h;have hle:=zuV e pre (e s);have K:=Maps.int_keyed (P:=prog) underlying48;have ht:=h1.tidy K;have hm:=h1.isMap;obtain⟨W',r1,r2,r3⟩:=h1.store K underlying46 (by unfold maxLen;omega) (keyO he) (val:=.int .i64 ((cntS e pre (e s):Int)+1)) (plainElem_int underlying3 (zzn ⟨by omega,by omega⟩));refine⟨W',r1,⟨_,by simpa using r2,fun k hk=>?_,fun k hk=>?_,?_⟩,(Chg.row r3.grown).mono fun b _ e=>by injection e with e;exact e.symm⟩
 ·rw[zuU];by_cases hkk:e s=k
  ·subst hkk;rw[Maps.atKey_put_same hm (zxJ _),if_pos rfl];simp
  ·rw[Maps.atKey_put_other (zzD fun h=>hkk h.symm),h2 k hk,if_neg hkk];rfl
 ·rw[List.map_append,List.map_cons,List.map_nil,zpa];by_cases hkk:e s=k
  ·subst hkk;rw[Maps.has_put_same hm (zxJ _)];by_cases hc:(znT (pre.map e)).contains (e s)=true
   ·rw[if_pos hc];exact hc.symm
   ·rw[if_neg hc];simp
  ·rw[Maps.has_put_other (zzD fun h=>hkk h.symm),h3 k hk];by_cases hc:(znT (pre.map e)).contains (e s)=true
   ·rw[if_pos hc]
   ·rw[if_neg hc];simp only[List.contains_eq_mem,List.mem_append,List.mem_singleton];have:¬ k=e s:=fun h=>hkk h.symm;simp[this]
 ·rw[List.map_append,List.map_cons,List.map_nil,zpa,Maps.size_put ht,h3 _ he];by_cases hc:(znT (pre.map e)).contains (e s)=true
  ·rw[if_pos hc,if_pos hc];exact h4
  ·rw[if_neg hc,if_neg hc];simp;omega
theorem zzN:IsFn prog 50 Tryz.f50:=⟨func50,by kernel_rfl,by kernel_rfl⟩
theorem zwf{W:World}{p:PG}{s:SS}{pre:List SS}{F:Int}{bp bf bc mb c1 c2 c3:Nat}{A1 A2 A3:Option Addr}{sv:Value}(hk:W.heap[bp]?=some (.cells (pgA p A1 c1 A2 c2 A3 c3) 43 (0,0)))(hp:PV W Any p (pv A1 p.vs.length c1 A2 p.prs.length c2 p.m.k p.m.n p.m.s A3 p.m.ks.length c3))(hf:W.heap[bf]?=some (.cells #[.int .i64 F] 3 (0,0)))
  (hc:W.heap[bc]?=some (.cells #[.map (some mb)] 46 (0,0)))(hm:OM W mb (errE p F) pre)(hn:pre.length<1000000)(he:I64 (errE p F s))(hs:SV W Any s sv)(hcl:s.cells.length<=100)(hF:I64 F)(eu:F<=1000000) :
  Calls prog 50 #[sv,.pointer (some ⟨bc,0,none⟩),.pointer (some ⟨bp,0,none⟩),.pointer (some ⟨bf,0,none⟩)] W fun e' W'=>e'=.returned (.bool false)/\OM W' mb (errE p F) (pre++[s])/\Chg (fun b=>b=mb) W W':=by
 obtain⟨A,c,B,d,D,k,rfl⟩:∃A c B d D k,sv=.agg #[.slice A s.cells.length c,.slice B s.tin.length d,.slice D s.tout.length k]:=by
  obtain⟨A,c,B,d,D,k,rfl,-⟩:=hs;exact⟨_,_,_,_,_,_,rfl⟩
 have hkb:=heap_alloc_new W (.cells #[.slice A s.cells.length c,.slice B s.tin.length d,.slice D s.tout.length k] 32);have hb:=zka (zs W) (.cells #[.slice A s.cells.length c,.slice B s.tin.length d,.slice D s.tout.length k] 32);obtain⟨w1,hw1⟩:=zX (W.alloc (.cells #[.slice A s.cells.length c,.slice B s.tin.length d,.slice D s.tout.length k] 32));obtain⟨N,hN⟩:=zX (W.heap.size);rw[hw1]at hkb hb;rw[hN]at hkb;have HB:=zh hb;have uE:=zh (zkc hk hb);have jE:=zh (zkc hf hb);have BO:=zh (zkc hc hb);have nG:=zh hkb;have qi:=zh (hm.keep (hb.block mb hm.lt));have yG:=zh (And.intro hn he);have jJ:=zh (fun w (h:Below w1.heap.size w1 w)=>zmk p s F (F.toNat*2000+2000) _ _ w ((hp.later hb).later h) ((hs.later hb).later h) (by omega) hF eu zl);have xH:=zh (show errE p F s=(resO p s F (F.toNat*2000+2000) false).2.2.1 from rfl)
 generalize resO p s F (F.toNat*2000+2000) false=R at jJ xH;clear hk hp hf hc hm hn he hs hcl hF eu hb hkb;go_enter func50,ntmps50;go_upto_region 1 with fail
 try rw[hw1]
 try rw[hN]
 clear hw1 hN;have az:=zh (show ∀w',Below w1.heap.size w1 w'->(fun w':World=>pgS w' bp p A1 c1 A2 c2 A3 c3/\stC w' N A s.cells.length c B s.tin.length d D s.tout.length k/\zv w' bf 0 (.int .i64 F)/\zv w' bc 0 (.map (some mb))) w' from fun w' hb=>⟨box6 (zkc uE.out hb),zky (zkc nG.out hb),zc (zkc jE.out hb) rfl,zc (zkc BO.out hb) rfl⟩);have hSS:zW (fun w':World=>pgS w' bp p A1 c1 A2 c2 A3 c3/\stC w' N A s.cells.length c B s.tin.length d D s.tout.length k/\zv w' bf 0 (.int .i64 F)/\zv w' bc 0 (.map (some mb))) zU w1.drew:=⟨az.out _ zr.drew,trivial⟩
 refine wp_region_noPanic ?_;refine zG hSS 8 ?_;refine zT 0 hSS ?_;refine zT 1 hSS ?_;refine zT 2 hSS ?_;refine zT 3 hSS ?_;refine zo 4 fun K hK=>?_;have had:Calls prog 21 [pv A1 p.vs.length c1 A2 p.prs.length c2 p.m.k p.m.n p.m.s A3 p.m.ks.length c3,.agg #[.slice A s.cells.length c,.slice B s.tin.length d,.slice D s.tout.length k],.int .i64 F].toArray w1.drew fun e' W'=>∃z,e'=.returned z/\(∃v1 v2 v3,z=.agg #[v1,v2,v3,.int .i64 (R.2.1:Int),.int .i64 R.2.2.1])/\Below w1.heap.size w1 W' :=
  (jJ.out w1.drew zr.drew).mono fun e' W' ⟨v1,v2,v3,h1,h2,h3,h4⟩=>⟨_,h1,⟨v1,v2,v3,rfl⟩,zkb (zs w1).drew h3⟩
 refine zke (by rfl) (.func 21) [.tmp 7,.tmp 8,.tmp 9] _ (by rfl) 21 _ zsn (by rfl) [pv A1 p.vs.length c1 A2 p.prs.length c2 p.m.k p.m.n p.m.s A3 p.m.ks.length c3,.agg #[.slice A s.cells.length c,.slice B s.tin.length d,.slice D s.tout.length k],.int .i64 F] (by rfl) _ had ?_;rintro z w2 ⟨⟨v1,v2,v3,rfl⟩,hb2⟩;refine hK.out _ _ ⟨az.out _ hb2,trivial⟩ ?_;clear hK K had hSS;(try simp only[zQ]);have hfl:∀w,(Instr.field 59 (.agg #[v1,v2,v3,.int .i64 (R.2.1:Int),.int .i64 R.2.2.1]) 2).run prog w=.ok (.int .i64 R.2.2.1) w:=fun w=>by kernel_rfl
 have hSS:zW (fun w':World=>pgS w' bp p A1 c1 A2 c2 A3 c3/\stC w' N A s.cells.length c B s.tin.length d D s.tout.length k/\zv w' bf 0 (.int .i64 F)/\zv w' bc 0 (.map (some mb))) zU w2:=⟨az.out _ hb2,trivial⟩
 refine zT 5 hSS ?_;have kg:OM w2 mb (errE p F) pre:=qi.out.keep (hb2.block mb qi.out.lt);have hrr:=xH.out;obtain⟨ev,hev⟩:=zX (R.2.2.1);rw[hev]at hrr ⊢;have hlk:=kg.look (k:=ev) (by rw[<-hrr];exact yG.out.2);obtain⟨w3,hput,hom3,hc3⟩:=kg.put s yG.out.2 yG.out.1;rw[hrr]at hput;have hle:=zuV (errE p F) pre ev;have hn9:=yG.out.1;obtain⟨cn,hcn⟩:=zX (cntS (errE p F) pre ev);rw[hcn]at hlk hput hle;have hwr:IntKind.i64.wrap ((cn:Int)+1)=(cn:Int)+1:=IntWalk.i64_in _ (by omega);refine zo 6 fun K hK=>?_;(try simp only[zA,zB,zC]);go_simp;refine hK.out _ _ hSS ?_;clear hK K;(try simp only[zQ]);refine zT 7 hSS ?_;refine zp 8 fun K hK=>?_;(try simp only[zA,zB,zC]);go_simp;have hch:Chg (fun b=>b=mb) w1 w3:=(Chg.of_below (C:=fun b=>b=mb) hb2).trans2 hc3 fun q _ e=>e;have hne:∀ {b:Nat} {a:Array Value} {t:TypeId} {z:Nat×Nat},w1.heap[b]?=some (.cells a t z)->¬ b=mb:=fun h=>qi.out.ne h
 refine hK.out _ _ ⟨box6 (hch.keep uE.out (hne uE.out)),zky (hch.keep nG.out (hne nG.out)),zc (hch.keep jE.out (hne jE.out)) rfl,zc (hch.keep BO.out (hne BO.out)) rfl⟩ ?_;clear hK K;(try simp only[zQ]);refine zd ?_;refine NoPanic.normal ?_;have bS:=zh ((Chg.of_below (C:=fun b=>b=mb) HB.out).trans2 hch fun q _ e=>e);have BB:=zh hom3;clear hch hne hom3 hc3 hput hlk hSS hb2 kg;go_wp2_with fail;go_ret;exact⟨by trivial,BB.out,bS.out⟩
structure FrM(B mb:Nat)(w1:World)(e:SS->Int)(xs:List SS)(n:Nat)(w:World):Prop where
 size:B<=w.heap.size
 same:∀b,b<B->b≠mb->w.heap[b]?=w1.heap[b]?
 om:OM w mb e (xs.take n)
theorem zKN(w:World):(Instr.makeMap 46 none).run prog w=.ok (.map (some w.heap.size)) (w.alloc (.map #[] 0)):=by kernel_rfl
def OutP(e:SS->Int)(xs:List SS)(W:World)(en:Ending)(W':World):Prop:=Below W.heap.size W W'/\∃mb,en=.returned (.map (some mb))/\W.heap.size<=mb/\OM W' mb e xs
theorem zqU{W:World}{p:PG}{b:BX}{F:Int}{v:Value}(hp:PV W Any p v)(hok:(b.ok&&svB p.vs)=true)(hm:(allS b (lenE p.vs b)).length<=1000000)(hF:I64 F)(eu:F<=1000000) :
  Calls prog 16 #[v,.agg #[.int .i64 b.v,.int .i64 b.l,.int .i64 b.i],.int .i64 F] W (OutP (errE p F) (allS b (lenE p.vs b)) W):=by
 obtain⟨A1,c1,A2,c2,A3,c3,rfl,-⟩:=id hp;obtain⟨bv,bl,bi⟩:=b;obtain⟨N,hN⟩:=zX (W.heap.size);have HN:=zh hN;obtain⟨hb1,hz1,k0,k1,k2,k3,k4⟩:=al5F W (.cells (pgA p A1 c1 A2 c2 A3 c3) 43) (.cells #[.int .i64 bv,.int .i64 bl,.int .i64 bi] 24) (.cells #[.int .i64 F] 3) (.map #[] 0) (.cells #[.map none] 46);have jO:=(OM.made (((W.alloc (.cells (pgA p A1 c1 A2 c2 A3 c3) 43)).alloc (.cells #[.int .i64 bv,.int .i64 bl,.int .i64 bi] 24)).alloc (.cells #[.int .i64 F] 3)) (errE p F)).keep (W':=((((W.alloc (.cells (pgA p A1 c1 A2 c2 A3 c3) 43)).alloc (.cells #[.int .i64 bv,.int .i64 bl,.int .i64 bi] 24)).alloc (.cells #[.int .i64 F] 3)).alloc (.map #[] 0)).alloc (.cells #[.map none] 46)) (Below.heap_alloc _ _ _ (by simp));have hzz:(((W.alloc (.cells (pgA p A1 c1 A2 c2 A3 c3) 43)).alloc (.cells #[.int .i64 bv,.int .i64 bl,.int .i64 bi] 24)).alloc (.cells #[.int .i64 F] 3)).heap.size=N+3:=by simp[hN]
 rw[hzz]at jO;obtain⟨w1,hw1⟩:=zX (((((W.alloc (.cells (pgA p A1 c1 A2 c2 A3 c3) 43)).alloc (.cells #[.int .i64 bv,.int .i64 bl,.int .i64 bi] 24)).alloc (.cells #[.int .i64 F] 3)).alloc (.map #[] 0)).alloc (.cells #[.map none] 46));rw[hw1]at hb1 hz1 k0 k1 k2 k3 k4 jO;rw[hN]at hz1 k0 k1 k2 k3 k4;have lL:=zh hp;have fu:=zh (And.intro hok (And.intro hm (And.intro hF eu)));have HB1:=zh hb1;have HZ1:=zh hz1;have aJ:=zh k0;have aB:=zh k1;have aR:=zh k2;have dI:=zh k4;have qi:=zh jO;have q4:w1.cell? ⟨N+4,0,none⟩=some (.map none):=zc k4 rfl;have cf:∀o,w1.frozen? ⟨N+4,o,none⟩=false:=fun o=>zf k4;obtain⟨w2,hw2,hc2,pE⟩:=setU (o:=0) (.map (some (N+3))) k4;have fE:=zh hc2;have HH2:=zh pE;clear hp hok hm hF eu hb1 hz1 k0 k1 k2 k3 k4 jO hzz hc2 pE
 have ma:∀(fn:Fn) (first cap:Array Value) (w:World),(Instr.makeFunc fn first cap).run prog w=.ok (.func fn first cap) w:=fun _ _ _ _=>rfl
 show Calls prog 16 #[pv A1 p.vs.length c1 A2 p.prs.length c2 p.m.k p.m.n p.m.s A3 p.m.ks.length c3,.agg #[.int .i64 bv,.int .i64 bl,.int .i64 bi],.int .i64 F] W _
 go_enter func16,ntmps16;have hmm:=zKN;go_upto_region 2 with fail;simp only[Nat.add_assoc,Nat.reduceAdd];clear hw1 q4 cf hw2;have hZ2:N+5<=w2.heap.size:=by have:=fE.out.size;have:=HZ1.out;omega
 have HZ2:=zh hZ2;have HB2:=zh (HB1.out.trans (fE.out.below HB1.out.size fun q e=>by have e:q=N+4:=e;have:=HN.out;omega));have hk0:=fE.out.keep aJ.out (fun e:N=N+4=>by omega);have hk1:=fE.out.keep aB.out (fun e:N+1=N+4=>by omega);have hk2:=fE.out.keep aR.out (fun e:N+2=N+4=>by omega);have hk4:w2.heap[N+4]?=some (.cells #[.map (some (N+3))] 46 (0,0)):=by have:=HH2.out;simpa using this
 have kg:=qi.out.keep (W':=w2) (fE.out.block (N+3) (by have:=HZ1.out;omega) (fun e:N+3=N+4=>by omega));have mY:=zh (((lL.out.keep (S':=fun q=>q<N) (fun q _ h=>by have:=HN.out;omega) fun _ _ _=>rfl).keep (w':=w2) (S':=fun q=>q<N) (fun _ h _=>h) fun q h hlt=>HB2.out.block q hlt));have oV:=lL.out.pg;have HT:=zh (show zrx 50 #[.pointer (some ⟨N+4,0,none⟩),.pointer (some ⟨N,0,none⟩),.pointer (some ⟨N+2,0,none⟩)] (fun _ _=>false) (allS ⟨bv,bl,bi⟩ (lenE p.vs ⟨bv,bl,bi⟩)) w2.heap.size (fun n=>FrM w2.heap.size (N+3) w2 (errE p F) (allS ⟨bv,bl,bi⟩ (lenE p.vs ⟨bv,bl,bi⟩)) n)from by
  refine⟨fun n W W' h h1 h2=>⟨Nat.le_trans h.size h1,fun b hb hm=>(h2 b hb).trans (h.same b hb hm),h.om.keep (h2 _ (by omega))⟩,fun n W h=>h.size,fun n s v W g hI hg hgs ho hx=>?_⟩;have hx2:=znl fu.out.1 s (List.mem_of_getElem? hx);have hnl:=(List.getElem?_eq_some_iff.1 hx).1;have hlt:∀q,q<N+5->q≠N+3->W.heap[q]?=w2.heap[q]?:=fun q hq=>hI.same q (by omega);have hrg:=zyk p s F (F.toNat*2000+2000) false;refine(zwf (F:=F) (p:=p) (s:=s) ((hlt N (by omega) (by omega)).trans hk0) (mY.out.keep (fun _ _ _=>trivial) fun q h _=>hlt q (by omega) (by omega)) ((hlt (N+2) (by omega) (by omega)).trans hk2) ((hlt (N+4) (by omega) (by omega)).trans hk4) hI.om (by rw[List.length_take];have:=fu.out.2.1;omega) ⟨by unfold E23 at hrg;unfold errE;omega,by unfold E23 at hrg;unfold errE;omega⟩ (ho.sv hx2.1) hx2.2 fu.out.2.2.1 fu.out.2.2.2).mono ?_;rintro e' W' ⟨rfl,jO,hb⟩
  refine⟨rfl,⟨Nat.le_trans hI.size hb.size,fun q hq hm=>(hb.block q (Nat.lt_of_lt_of_le hq hI.size) hm).trans (hI.same q hq hm),?_⟩,hb.mono fun q _ e=>.inl (by have e:q=N+3:=e;omega)⟩;rw[List.take_add_one,hx];exact jO)
 have aZ:=zh (znr (W:=w2) (A1:=A1) (c1:=c1) (vs:=p.vs) (b:=⟨bv,bl,bi⟩) (mY.out.keep (S':=Any) (fun _ _ _=>trivial) fun _ _ _=>rfl).pg.vars oV.lv fu.out.1 fu.out.2.1 zzN HT.out ⟨zl,fun _ _ _=>rfl,kg⟩);rw[zqH (f:=fun _ _=>false) fun _ _=>rfl]at aZ;clear oV kg HT;obtain⟨p0,p1,p2,p3,p4,p5⟩:=box6 hk0;obtain⟨y0,y1,y2⟩:=zky hk1;go_wp2_with fail;refine aZ.out.mono ?_;rintro e' w3 ⟨v2,rfl,hs2,hi2,hc3⟩;have x4:w3.cell? ⟨N+4,0,none⟩=some (.map (some (N+3))):=zc ((hi2.same (N+4) (by omega) (by omega)).trans hk4) rfl;have HB3:=zh (show Below W.heap.size W w3 from HB2.out.trans ⟨hc3.os,hc3.tape,hc3.output,hc3.size,fun q hq=>hi2.same q (by have:=HB2.out.size;omega) (by have:=HN.out;omega)⟩);have BB:=zh (show OM w3 (N+3) (errE p F) (allS ⟨bv,bl,bi⟩ (lenE p.vs ⟨bv,bl,bi⟩)) by have:=hi2.om;rwa[List.take_length]at this)
 clear hs2 hi2 hc3 hk0 hk1 hk2 hk4 p0 p1 p2 p3 p4 p5 y0 y1 y2;go_wp2_with fail;go_ret;exact⟨HB3.out,N+3,rfl,by have:=HN.out;omega,BB.out⟩
end
section
open Go Go.RowKit
def exX:ByteArray:=⟨#[120]⟩
def exV:T:=.nd 2 0 exX []
def exN(n:Int):T:=.nd 1 n ⟨#[]⟩ []
def exE(n:Int):T:=.nd 16 0 ⟨#[]⟩ [exV,exN n]
def exP:PG:=⟨[⟨exX,1,0⟩],[],.nd 57 0 ⟨#[]⟩ [.nd 52 0 ⟨#[]⟩ [exE 1,.nd 57 0 ⟨#[]⟩ [.nd 40 0 ⟨#[]⟩ [exV,exN 1]],.nd 57 0 ⟨#[]⟩ [],exE 2]]⟩
def exB:BX:=⟨2,0,0⟩
theorem zpm:allS exB (lenE exP.vs exB)=[⟨[[0]],[],[]⟩,⟨[[1]],[],[]⟩,⟨[[-1]],[],[]⟩,⟨[[2]],[],[]⟩,⟨[[-2]],[],[]⟩]:=by kernel_rfl
end
end Go.Proofs.YtembgnhbpmfhpaaGreat
