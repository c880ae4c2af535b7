/-
  Texts of the proof, put together without their remarks: Rxs, Rxt, Lift, LiftV, LiftS, LiftP.
-/
import Derived.Test.YtmbbaccjcekhkaaGreatF13
import Derived.Test.YtmbbaccjcekhkaaGreatRows
import Derived.ProofKit
import Derived.SizedLaws
import Derived.Deep.Slices
import Derived.Deep.Fields
import Derived.Lib.SmallJoins
import Derived.ChangeSlices
set_option linter.unusedSimpArgs false
set_option linter.unusedVariables false
set_option maxHeartbeats 8000000
set_option maxRecDepth 100000
namespace Go.Proofs.YtmbbaccjcekhkaaGreat
open Go Go.RowKit
def zx7 (W:World) (R:SS×Nat×Int×List Nat) (e:Ending) (W':World):Prop:=∃ A c v,e=.returned (.tuple #[v,.int .i64 (R.2.1:Int),.int .i64 R.2.2.1,.slice A R.2.2.2.length c]) /\
 SV W' Any R.1 v/\RowI W' Any A (R.2.2.2.map Int.ofNat)/\R.2.2.2.length<=c/\Below W.heap.size W W'/\(R.2.2.1=0->R.1.cells.length<=1000)
theorem zxG (p:PG) (s:SS) (A1 A2 A3:Option Addr) (c1 c2 c3:Nat) (v:Value) (w:World) (hp:PV w Any p (.agg #[.slice A1 p.vs.length c1,.slice A2 p.prs.length c2,.int .u8 p.m.k,.int .i64 p.m.n,.string p.m.s,.slice A3 p.m.ks.length c3])) (hs:SV w Any s v) :
  Calls Tryz.prog 21 #[.slice A1 p.vs.length c1,v] w fun e w'=>e=.returned (.bool (fitB p.vs s))/\Below w.heap.size w w':=by
 obtain⟨B1,d1,B2,d2,B3,d3,he,dK⟩:=hp;injection he with he;injection he with he;injection he with he _;injection he with h1 _ h3;subst h1 h3;exact zrz p.vs s A1 c1 v w dK.vars dK.lv hs
theorem zn1 {w:World} {b:Nat} {x0 x1 x2 y0 y1 y2:Value} {E:TypeId} (h:w.heap[b]?=some (.cells #[x0,x1,x2] E (0,0))) :
  (((w.setCell ⟨b,0,none⟩ y0).setCell ⟨b,1,none⟩ y1).setCell ⟨b,2,none⟩ y2).heap[b]?=some (.cells #[y0,y1,y2] E (0,0))/\Chg (fun q=>q=b) w (((w.setCell ⟨b,0,none⟩ y0).setCell ⟨b,1,none⟩ y1).setCell ⟨b,2,none⟩ y2):=by
 refine⟨?_,(((Chg.refl (fun q=>q=b) w).setCell (p:=⟨b,0,none⟩) (.inl rfl) _).setCell (p:=⟨b,1,none⟩) (.inl rfl) _).setCell (p:=⟨b,2,none⟩) (.inl rfl) _⟩;rw[heap_setCell_same _ b 2 _ _ y2 (heap_setCell_same _ b 1 _ _ y1 (heap_setCell_same w b 0 _ _ y0 h))];simp
theorem zuc (p:PG) (s:SS) (F:Int) (g:Nat) (back:Bool) (v sv:Value) (W:World) (hp:PV W Any p v) (hs:SV W Any s sv) (hF:I64 F) (jm:F<=1000000) (hg:F.toNat*2000+2000<=g) :
  Calls Tryz.prog 9 #[v,sv,.int .i64 F,.bool back] W (zx7 W (resO p s F g back)):=by
 have oo:=zh hp;have nU:=zh hs;obtain⟨A1,c1,A2,c2,A3,c3,rfl,dK⟩:=hp;obtain⟨A,c,B,d,D,e,rfl,hr1,hr2,hr3,hc1,hc2,hc3,hl1,hl2,hl3,hl4⟩:=hs;have hb2:=zkc (zkc (Below.refl W.heap.size W) (.cells #[.slice A1 p.vs.length c1,.slice A2 p.prs.length c2,.int .u8 p.m.k,.int .i64 p.m.n,.string p.m.s,.slice A3 p.m.ks.length c3] 28)) (.cells #[.slice A s.cells.length c,.slice B s.tin.length d,.slice D s.tout.length e] 32);have k0:=zkn (heap_alloc_new W (.cells #[.slice A1 p.vs.length c1,.slice A2 p.prs.length c2,.int .u8 p.m.k,.int .i64 p.m.n,.string p.m.s,.slice A3 p.m.ks.length c3] 28)) (.cells #[.slice A s.cells.length c,.slice B s.tin.length d,.slice D s.tout.length e] 32)
 have k1:=heap_alloc_new (W.alloc (.cells #[.slice A1 p.vs.length c1,.slice A2 p.prs.length c2,.int .u8 p.m.k,.int .i64 p.m.n,.string p.m.s,.slice A3 p.m.ks.length c3] 28)) (.cells #[.slice A s.cells.length c,.slice B s.tin.length d,.slice D s.tout.length e] 32);rw[World.size_alloc] at k1;obtain⟨w2,hw2⟩:∃ x,(W.alloc (.cells #[.slice A1 p.vs.length c1,.slice A2 p.prs.length c2,.int .u8 p.m.k,.int .i64 p.m.n,.string p.m.s,.slice A3 p.m.ks.length c3] 28)).alloc (.cells #[.slice A s.cells.length c,.slice B s.tin.length d,.slice D s.tout.length e] 32)=x:=⟨_,rfl⟩
 rw[hw2] at hb2 k0 k1;have HB2:=zh hb2;have aQ:=zh k0;have aH:=zh k1;clear dK hr1 hr2 hr3 hb2 k0 k1 hc1 hc2 hc3 hl1 hl2 hl3 hl4;have hb3:=zkc (Below.refl w2.heap.size w2) (.cells #[.slice none 0 0,.slice none 0 0,.slice none 0 0] 32);have hkr:=heap_alloc_new w2 (.cells #[.slice none 0 0,.slice none 0 0,.slice none 0 0] 32);have hw2z:w2.heap.size=W.heap.size+1+1:=by rw[<-hw2];simp
 obtain⟨R0,hR0⟩:∃ R,resO p s F g back=R:=⟨_,rfl⟩
 rw[hR0];go_enter Tryz.func9,Tryz.ntmps9;go_upto_region 1 with fail;obtain⟨w3,hw3⟩:∃ x,w2.alloc (.cells #[.slice none 0 0,.slice none 0 0,.slice none 0 0] 32)=x:=⟨_,rfl⟩
 obtain⟨rb,hrb⟩:∃ x,W.heap.size+1+1=x:=⟨_,rfl⟩
 rw[hw3] at hb3 hkr ⊢;rw[hw2z,hrb] at hkr;rw[hrb];have ag:=zh (show W.heap.size+1<rb/\rb<w3.heap.size from ⟨by omega,by rw[<-hw3,World.size_alloc];omega⟩);have HB3:=zh hb3;have rz:=zh hkr;obtain⟨vb,hvb⟩:∃ b,zle p=b:=⟨_,rfl⟩
 have mD:=zh (zox p Any _ w3 (oo.out.later (zka HB2.out hb3)));rw[hvb] at mD;clear hw2 hw3 hrb hb3 hkr hw2z;have aI:=zkf aQ.out HB3.out;have bC:=zkf aH.out HB3.out;have p0:w3.cell? ⟨W.heap.size,0,none⟩=some (.slice A1 p.vs.length c1):=zc aI rfl;have p1:w3.cell? ⟨W.heap.size,1,none⟩=some (.slice A2 p.prs.length c2):=zc aI rfl;have p2:w3.cell? ⟨W.heap.size,2,none⟩=some (.int .u8 p.m.k):=zc aI rfl;have p3:w3.cell? ⟨W.heap.size,3,none⟩=some (.int .i64 p.m.n):=zc aI rfl;have p4:w3.cell? ⟨W.heap.size,4,none⟩=some (.string p.m.s):=zc aI rfl;have p5:w3.cell? ⟨W.heap.size,5,none⟩=some (.slice A3 p.m.ks.length c3):=zc aI rfl;have s0:w3.cell? ⟨W.heap.size+1,0,none⟩=some (.slice A s.cells.length c):=zc bC rfl;have s1:w3.cell? ⟨W.heap.size+1,1,none⟩=some (.slice B s.tin.length d):=zc bC rfl
 have s2:w3.cell? ⟨W.heap.size+1,2,none⟩=some (.slice D s.tout.length e):=zc bC rfl;clear aI bC;go_wp2_with fail;refine mD.out.mono ?_;rintro e5 w5 ⟨rfl,b5⟩;clear mD p0 p1 p2 p3 p4 p5 s0 s1 s2
 cases vb
 ·obtain rfl:R0=(s,0,3,[]):=by rw[<-hR0];unfold resO;rw[if_pos (.inl hvb)]
  have aI:=zkf aQ.out (zka HB3.out b5);have bC:=zkf aH.out (zka HB3.out b5);have p0:w5.cell? ⟨W.heap.size,0,none⟩=some (.slice A1 p.vs.length c1):=zc aI rfl;have p1:w5.cell? ⟨W.heap.size,1,none⟩=some (.slice A2 p.prs.length c2):=zc aI rfl;have p2:w5.cell? ⟨W.heap.size,2,none⟩=some (.int .u8 p.m.k):=zc aI rfl;have p3:w5.cell? ⟨W.heap.size,3,none⟩=some (.int .i64 p.m.n):=zc aI rfl;have p4:w5.cell? ⟨W.heap.size,4,none⟩=some (.string p.m.s):=zc aI rfl;have p5:w5.cell? ⟨W.heap.size,5,none⟩=some (.slice A3 p.m.ks.length c3):=zc aI rfl;have s0:w5.cell? ⟨W.heap.size+1,0,none⟩=some (.slice A s.cells.length c):=zc bC rfl;have s1:w5.cell? ⟨W.heap.size+1,1,none⟩=some (.slice B s.tin.length d):=zc bC rfl;have s2:w5.cell? ⟨W.heap.size+1,2,none⟩=some (.slice D s.tout.length e):=zc bC rfl;clear aI bC;have kR:=zkf rz.out b5
  have q0:w5.cell? ⟨rb,0,none⟩=some (.slice none 0 0):=zc kR rfl;have q1:w5.cell? ⟨rb,1,none⟩=some (.slice none 0 0):=zc kR rfl;have q2:w5.cell? ⟨rb,2,none⟩=some (.slice none 0 0):=zc kR rfl;have qf:∀ j,w5.frozen? ⟨rb,j,none⟩=false:=fun j=>zf kR;obtain⟨hh,hch⟩:=zn1 (y0:=(.slice A s.cells.length c)) (y1:=(.slice B s.tin.length d)) (y2:=(.slice D s.tout.length e)) kR;have fA:=zh hh;have dU:=zh hch;clear hh hch kR;go_wp2_with fail;obtain⟨w9,bH⟩:∃ x,((w5.setCell ⟨rb,0,none⟩ (.slice A s.cells.length c)).setCell ⟨rb,1,none⟩ (.slice B s.tin.length d)).setCell ⟨rb,2,none⟩ (.slice D s.tout.length e)=x:=⟨_,rfl⟩
  rw[bH] at dU fA ⊢;have t0:w9.cell? ⟨rb,0,none⟩=some (.slice A s.cells.length c):=zc fA.out rfl;have t1:w9.cell? ⟨rb,1,none⟩=some (.slice B s.tin.length d):=zc fA.out rfl;have t2:w9.cell? ⟨rb,2,none⟩=some (.slice D s.tout.length e):=zc fA.out rfl;have bO:=(zka HB2.out (zka HB3.out b5)).trans (dU.out.below (zka HB2.out (zka HB3.out b5)).size fun b e=>by have:=ag.out;omega);refine bodyPost_ret (v:=.tuple #[.agg #[.slice A s.cells.length c,.slice B s.tin.length d,.slice D s.tout.length e],.int .i64 0,.int .i64 3,.slice none 0 0]) (by simp[results,Tryz.results9,go_sem,t0,t1,t2]) rfl ?_;exact⟨none,0,_,rfl,nU.out.later bO,fun i hi=>absurd hi (by simp),Nat.le_refl _,bO,fun h=>by cases h⟩
 ·have rC:=zh (show Calls Tryz.prog 20 #[.agg #[.slice A1 p.vs.length c1,.slice A2 p.prs.length c2,.int .u8 p.m.k,.int .i64 p.m.n,.string p.m.s,.slice A3 p.m.ks.length c3]] w5 (fun e w'=>∃ A c,e=Ending.returned (.slice A (chkN p) c)/\Below w5.heap.size w5 w') from (zo9 p Any _ w5 (oo.out.later (zka HB2.out (zka HB3.out b5)))).mono (fun e w' ⟨A,c,h1,h2⟩=>⟨A,c,by rw[h1,if_pos hvb],h2⟩));have aI:=zkf aQ.out (zka HB3.out b5);have bC:=zkf aH.out (zka HB3.out b5);have p0:w5.cell? ⟨W.heap.size,0,none⟩=some (.slice A1 p.vs.length c1):=zc aI rfl;have p1:w5.cell? ⟨W.heap.size,1,none⟩=some (.slice A2 p.prs.length c2):=zc aI rfl;have p2:w5.cell? ⟨W.heap.size,2,none⟩=some (.int .u8 p.m.k):=zc aI rfl;have p3:w5.cell? ⟨W.heap.size,3,none⟩=some (.int .i64 p.m.n):=zc aI rfl;have p4:w5.cell? ⟨W.heap.size,4,none⟩=some (.string p.m.s):=zc aI rfl
  have p5:w5.cell? ⟨W.heap.size,5,none⟩=some (.slice A3 p.m.ks.length c3):=zc aI rfl;have s0:w5.cell? ⟨W.heap.size+1,0,none⟩=some (.slice A s.cells.length c):=zc bC rfl;have s1:w5.cell? ⟨W.heap.size+1,1,none⟩=some (.slice B s.tin.length d):=zc bC rfl;have s2:w5.cell? ⟨W.heap.size+1,2,none⟩=some (.slice D s.tout.length e):=zc bC rfl;clear aI bC;go_wp2_with fail;refine rC.out.mono ?_;rintro e6 w6 ⟨AA,cc,rfl,b6⟩;have oW:=zka b5 b6;clear p0 p1 p2 p3 p4 p5 s0 s1 s2 rC;obtain⟨n,hnn⟩:∃ n,chkN p=n:=⟨_,rfl⟩
  rw[hnn];by_cases hn:n=0;rotate_left 1
  ·obtain rfl:R0=(s,0,3,[]):=by rw[<-hR0];unfold resO;rw[if_pos (.inr (by rw[hnn];exact hn))]
   have hn1:(0:Int)<(n:Int):=by omega
   have aI:=zkf aQ.out (zka HB3.out oW);have bC:=zkf aH.out (zka HB3.out oW);have p0:w6.cell? ⟨W.heap.size,0,none⟩=some (.slice A1 p.vs.length c1):=zc aI rfl;have p1:w6.cell? ⟨W.heap.size,1,none⟩=some (.slice A2 p.prs.length c2):=zc aI rfl;have p2:w6.cell? ⟨W.heap.size,2,none⟩=some (.int .u8 p.m.k):=zc aI rfl;have p3:w6.cell? ⟨W.heap.size,3,none⟩=some (.int .i64 p.m.n):=zc aI rfl;have p4:w6.cell? ⟨W.heap.size,4,none⟩=some (.string p.m.s):=zc aI rfl;have p5:w6.cell? ⟨W.heap.size,5,none⟩=some (.slice A3 p.m.ks.length c3):=zc aI rfl;have s0:w6.cell? ⟨W.heap.size+1,0,none⟩=some (.slice A s.cells.length c):=zc bC rfl;have s1:w6.cell? ⟨W.heap.size+1,1,none⟩=some (.slice B s.tin.length d):=zc bC rfl;have s2:w6.cell? ⟨W.heap.size+1,2,none⟩=some (.slice D s.tout.length e):=zc bC rfl;clear aI bC;have kR:=zkf rz.out oW
   have q0:w6.cell? ⟨rb,0,none⟩=some (.slice none 0 0):=zc kR rfl;have q1:w6.cell? ⟨rb,1,none⟩=some (.slice none 0 0):=zc kR rfl;have q2:w6.cell? ⟨rb,2,none⟩=some (.slice none 0 0):=zc kR rfl;have qf:∀ j,w6.frozen? ⟨rb,j,none⟩=false:=fun j=>zf kR;obtain⟨hh,hch⟩:=zn1 (y0:=(.slice A s.cells.length c)) (y1:=(.slice B s.tin.length d)) (y2:=(.slice D s.tout.length e)) kR;have fA:=zh hh;have dU:=zh hch;clear hh hch kR;go_wp2_with fail;obtain⟨w9,bH⟩:∃ x,((w6.setCell ⟨rb,0,none⟩ (.slice A s.cells.length c)).setCell ⟨rb,1,none⟩ (.slice B s.tin.length d)).setCell ⟨rb,2,none⟩ (.slice D s.tout.length e)=x:=⟨_,rfl⟩
   rw[bH] at dU fA ⊢;have t0:w9.cell? ⟨rb,0,none⟩=some (.slice A s.cells.length c):=zc fA.out rfl;have t1:w9.cell? ⟨rb,1,none⟩=some (.slice B s.tin.length d):=zc fA.out rfl;have t2:w9.cell? ⟨rb,2,none⟩=some (.slice D s.tout.length e):=zc fA.out rfl;have bO:=(zka HB2.out (zka HB3.out oW)).trans (dU.out.below (zka HB2.out (zka HB3.out oW)).size fun b e=>by have:=ag.out;omega);refine bodyPost_ret (v:=.tuple #[.agg #[.slice A s.cells.length c,.slice B s.tin.length d,.slice D s.tout.length e],.int .i64 0,.int .i64 3,.slice none 0 0]) (by simp[results,Tryz.results9,go_sem,t0,t1,t2]) rfl ?_;exact⟨none,0,_,rfl,nU.out.later bO,fun i hi=>absurd hi (by simp),Nat.le_refl _,bO,fun h=>by cases h⟩
  subst hn;obtain⟨fb,gX⟩:∃ b,fitB p.vs s=b:=⟨_,rfl⟩
  have hft:=zxG p s A1 A2 A3 c1 c2 c3 _ w6 (oo.out.later (zka HB2.out (zka HB3.out oW))) (nU.out.later (zka HB2.out (zka HB3.out oW)));rw[gX] at hft;have mJ:=zh hft;clear hft;have aI:=zkf aQ.out (zka HB3.out oW);have bC:=zkf aH.out (zka HB3.out oW);have p0:w6.cell? ⟨W.heap.size,0,none⟩=some (.slice A1 p.vs.length c1):=zc aI rfl;have p1:w6.cell? ⟨W.heap.size,1,none⟩=some (.slice A2 p.prs.length c2):=zc aI rfl;have p2:w6.cell? ⟨W.heap.size,2,none⟩=some (.int .u8 p.m.k):=zc aI rfl;have p3:w6.cell? ⟨W.heap.size,3,none⟩=some (.int .i64 p.m.n):=zc aI rfl;have p4:w6.cell? ⟨W.heap.size,4,none⟩=some (.string p.m.s):=zc aI rfl;have p5:w6.cell? ⟨W.heap.size,5,none⟩=some (.slice A3 p.m.ks.length c3):=zc aI rfl;have s0:w6.cell? ⟨W.heap.size+1,0,none⟩=some (.slice A s.cells.length c):=zc bC rfl
  have s1:w6.cell? ⟨W.heap.size+1,1,none⟩=some (.slice B s.tin.length d):=zc bC rfl;have s2:w6.cell? ⟨W.heap.size+1,2,none⟩=some (.slice D s.tout.length e):=zc bC rfl;clear aI bC;go_wp2_with fail;refine mJ.out.mono ?_;rintro e7 w7 ⟨rfl,b7⟩;have nS:=zka oW b7;clear mJ p0 p1 p2 p3 p4 p5 s0 s1 s2
  cases fb
  ·obtain rfl:R0=(s,0,20,[]):=by rw[<-hR0];unfold resO;rw[if_neg (by rw[hvb,hnn];simp),if_pos gX]
   have aI:=zkf aQ.out (zka HB3.out nS);have bC:=zkf aH.out (zka HB3.out nS);have p0:w7.cell? ⟨W.heap.size,0,none⟩=some (.slice A1 p.vs.length c1):=zc aI rfl;have p1:w7.cell? ⟨W.heap.size,1,none⟩=some (.slice A2 p.prs.length c2):=zc aI rfl;have p2:w7.cell? ⟨W.heap.size,2,none⟩=some (.int .u8 p.m.k):=zc aI rfl;have p3:w7.cell? ⟨W.heap.size,3,none⟩=some (.int .i64 p.m.n):=zc aI rfl;have p4:w7.cell? ⟨W.heap.size,4,none⟩=some (.string p.m.s):=zc aI rfl;have p5:w7.cell? ⟨W.heap.size,5,none⟩=some (.slice A3 p.m.ks.length c3):=zc aI rfl;have s0:w7.cell? ⟨W.heap.size+1,0,none⟩=some (.slice A s.cells.length c):=zc bC rfl;have s1:w7.cell? ⟨W.heap.size+1,1,none⟩=some (.slice B s.tin.length d):=zc bC rfl;have s2:w7.cell? ⟨W.heap.size+1,2,none⟩=some (.slice D s.tout.length e):=zc bC rfl;clear aI bC;have kR:=zkf rz.out nS
   have q0:w7.cell? ⟨rb,0,none⟩=some (.slice none 0 0):=zc kR rfl;have q1:w7.cell? ⟨rb,1,none⟩=some (.slice none 0 0):=zc kR rfl;have q2:w7.cell? ⟨rb,2,none⟩=some (.slice none 0 0):=zc kR rfl;have qf:∀ j,w7.frozen? ⟨rb,j,none⟩=false:=fun j=>zf kR;obtain⟨hh,hch⟩:=zn1 (y0:=(.slice A s.cells.length c)) (y1:=(.slice B s.tin.length d)) (y2:=(.slice D s.tout.length e)) kR;have fA:=zh hh;have dU:=zh hch;clear hh hch kR;go_wp2_with fail;obtain⟨w9,bH⟩:∃ x,((w7.setCell ⟨rb,0,none⟩ (.slice A s.cells.length c)).setCell ⟨rb,1,none⟩ (.slice B s.tin.length d)).setCell ⟨rb,2,none⟩ (.slice D s.tout.length e)=x:=⟨_,rfl⟩
   rw[bH] at dU fA ⊢;have t0:w9.cell? ⟨rb,0,none⟩=some (.slice A s.cells.length c):=zc fA.out rfl;have t1:w9.cell? ⟨rb,1,none⟩=some (.slice B s.tin.length d):=zc fA.out rfl;have t2:w9.cell? ⟨rb,2,none⟩=some (.slice D s.tout.length e):=zc fA.out rfl;have bO:=(zka HB2.out (zka HB3.out nS)).trans (dU.out.below (zka HB2.out (zka HB3.out nS)).size fun b e=>by have:=ag.out;omega);refine bodyPost_ret (v:=.tuple #[.agg #[.slice A s.cells.length c,.slice B s.tin.length d,.slice D s.tout.length e],.int .i64 0,.int .i64 20,.slice none 0 0]) (by simp[results,Tryz.results9,go_sem,t0,t1,t2]) rfl ?_;exact⟨none,0,_,rfl,nU.out.later bO,fun i hi=>absurd hi (by simp),Nat.le_refl _,bO,fun h=>by cases h⟩
  have hdo:=zwY p s F g back _ _ w7 (oo.out.later (zka HB2.out (zka HB3.out nS))) (nU.out.later (zka HB2.out (zka HB3.out nS))) hvb hnn gX hF jm hg;rw[show outR s (runO p.prs F g back p.m ⟨newS p.vs s,0,List.replicate p.prs.length 0⟩)=R0 by rw[<-hR0];unfold resO;rw[if_neg (by rw[hvb,hnn];simp),if_neg (by rw[gX];simp)]] at hdo;have xg:=zh hdo;clear hdo hR0;have aI:=zkf aQ.out (zka HB3.out nS);have bC:=zkf aH.out (zka HB3.out nS);have p0:w7.cell? ⟨W.heap.size,0,none⟩=some (.slice A1 p.vs.length c1):=zc aI rfl;have p1:w7.cell? ⟨W.heap.size,1,none⟩=some (.slice A2 p.prs.length c2):=zc aI rfl;have p2:w7.cell? ⟨W.heap.size,2,none⟩=some (.int .u8 p.m.k):=zc aI rfl;have p3:w7.cell? ⟨W.heap.size,3,none⟩=some (.int .i64 p.m.n):=zc aI rfl;have p4:w7.cell? ⟨W.heap.size,4,none⟩=some (.string p.m.s):=zc aI rfl
  have p5:w7.cell? ⟨W.heap.size,5,none⟩=some (.slice A3 p.m.ks.length c3):=zc aI rfl;have s0:w7.cell? ⟨W.heap.size+1,0,none⟩=some (.slice A s.cells.length c):=zc bC rfl;have s1:w7.cell? ⟨W.heap.size+1,1,none⟩=some (.slice B s.tin.length d):=zc bC rfl;have s2:w7.cell? ⟨W.heap.size+1,2,none⟩=some (.slice D s.tout.length e):=zc bC rfl;clear aI bC;go_wp2_with fail;refine xg.out.mono ?_;rintro e8 w8 ⟨A8,c8,v8,rfl,hsv8,hro8,hle8,b8,hn8⟩;clear xg p0 p1 p2 p3 p4 p5 s0 s1 s2;have b38:=zka nS b8;have hni:¬ IntB w8 rb:=fun h=>by
   obtain⟨cs,E,f,o,x,h1,h2⟩:=h;rw[zkf rz.out b38] at h1;injection h1 with h1;injection h1 with h1;subst h1
   match o,h2 with
   | 0,h2=>simp at h2
   | 1,h2=>simp at h2
   | 2,h2=>simp at h2
   | q+3,h2=>simp at h2
  have hrw7:rb<w7.heap.size:=zku (zkf rz.out nS);have HSV8:=zh hsv8;have HRO8:=zh hro8;obtain⟨A9,c9,B9,d9,D9,g9,rfl,-⟩:=hsv8;obtain⟨S0,n0,e0,l0⟩:=R0;dsimp only at HSV8 HRO8 hle8 ⊢;have ka:=heap_alloc_new w8 (.cells #[.slice A9 S0.cells.length c9,.slice B9 S0.tin.length d9,.slice D9 S0.tout.length g9] 32);have dG:=zkc (Below.refl w8.heap.size w8) (.cells #[.slice A9 S0.cells.length c9,.slice B9 S0.tin.length d9,.slice D9 S0.tout.length g9] 32);clear hro8;go_upto_region 6 with fail;obtain⟨wa,gL⟩:∃ x,w8.alloc (.cells #[.slice A9 S0.cells.length c9,.slice B9 S0.tin.length d9,.slice D9 S0.tout.length g9] 32)=x:=⟨_,rfl⟩
  obtain⟨ab,hab⟩:∃ x,w8.heap.size=x:=⟨_,rfl⟩
  rw[gL] at ka dG ⊢;rw[hab] at ka
  try rw[hab]
  have y0:wa.cell? ⟨ab,0,none⟩=some (.slice A9 S0.cells.length c9):=zc ka rfl;have y1:wa.cell? ⟨ab,1,none⟩=some (.slice B9 S0.tin.length d9):=zc ka rfl;have y2:wa.cell? ⟨ab,2,none⟩=some (.slice D9 S0.tout.length g9):=zc ka rfl;have tO:=zka b38 dG;have dJ:=zh dG;clear ka gL hab dG;have kR:=zkf rz.out tO;have q0:wa.cell? ⟨rb,0,none⟩=some (.slice none 0 0):=zc kR rfl;have q1:wa.cell? ⟨rb,1,none⟩=some (.slice none 0 0):=zc kR rfl;have q2:wa.cell? ⟨rb,2,none⟩=some (.slice none 0 0):=zc kR rfl;have qf:∀ j,wa.frozen? ⟨rb,j,none⟩=false:=fun j=>zf kR;obtain⟨hh,hch⟩:=zn1 (y0:=(.slice A9 S0.cells.length c9)) (y1:=(.slice B9 S0.tin.length d9)) (y2:=(.slice D9 S0.tout.length g9)) kR;have fA:=zh hh;have dU:=zh hch;clear hh hch kR;go_wp2_with fail
  obtain⟨w9,bH⟩:∃ x,((wa.setCell ⟨rb,0,none⟩ (.slice A9 S0.cells.length c9)).setCell ⟨rb,1,none⟩ (.slice B9 S0.tin.length d9)).setCell ⟨rb,2,none⟩ (.slice D9 S0.tout.length g9)=x:=⟨_,rfl⟩
  rw[bH] at dU fA ⊢;have t0:w9.cell? ⟨rb,0,none⟩=some (.slice A9 S0.cells.length c9):=zc fA.out rfl;have t1:w9.cell? ⟨rb,1,none⟩=some (.slice B9 S0.tin.length d9):=zc fA.out rfl;have t2:w9.cell? ⟨rb,2,none⟩=some (.slice D9 S0.tout.length g9):=zc fA.out rfl;have bO:=(zka HB2.out (zka HB3.out tO)).trans (dU.out.below (zka HB2.out (zka HB3.out tO)).size fun b e=>by have:=ag.out;omega);refine bodyPost_ret (v:=.tuple #[.agg #[.slice A9 S0.cells.length c9,.slice B9 S0.tin.length d9,.slice D9 S0.tout.length g9],.int .i64 (n0:Int),.int .i64 e0,.slice A8 l0.length c8]) (by simp[results,Tryz.results9,go_sem,t0,t1,t2]) rfl ?_;have hkk:∀ b,b≠rb->b<w8.heap.size->w9.heap[b]?=w8.heap[b]?:=fun b h1 h2=>(dU.out.block b (Nat.lt_of_lt_of_le h2 dJ.out.size) h1).trans (dJ.out.block b h2)
  exact⟨A8,c8,_,rfl,HSV8.out.keep (fun _ _ _=>trivial) (fun q hq h2=>hkk q (fun e=>hq.elim (fun h=>by omega) fun h=>hni (e▸h)) h2),HRO8.out.keep (fun _ _ _=>trivial) (fun q hq h2=>hkk q (fun e=>hni (e▸hq)) h2),hle8,bO,hn8⟩
theorem SmalX.sm {p:PG} {s:SS} {F:Int} (h:Smal p s F):s.Sm :=
 ⟨by have:=h.cells;omega,fun l hl=>by have:=h.row l hl;omega,by have:=h.tin;omega,by have:=h.tout;omega⟩
theorem zsl {p:PG} {s:SS} {F:Int} {g:Nat} {back:Bool} {R:SS×Nat×Int×List Nat} (h:resO p s F g back=R) (he:R.2.2.1≠0):R.1=s:=by
 subst h;unfold resO at he ⊢
 split
 ·rfl
 ·rename_i h1;rw[if_neg h1] at he
  split
  ·rfl
  ·rename_i h2;rw[if_neg h2] at he
   cases hx:runO p.prs F g back p.m ⟨newS p.vs s,0,List.replicate p.prs.length 0⟩ with
   | ok r=>rw[hx] at he;exact absurd rfl he
   | err e=>rfl
   | gas=>rfl
theorem zw3 {p:PG} {s:SS} {F:Int} {g:Nat} {back:Bool} {S0:SS} {n0:Nat} {e0:Int} {l0:List Nat} (hs:s.Sm) (h:resO p s F g back=(S0,n0,e0,l0)) (hl:LimR (S0,n0,e0,l0)) (hn:e0=0->S0.cells.length<=1000):S0.Sm:=by
 by_cases he:e0=0
 ·obtain⟨-,h2⟩:=hl;obtain⟨h3,h4,h5,h6⟩:=h2 he;exact⟨by have:=hn he;omega,fun l hl=>by have:=h4 l hl;omega,by simp only at h5 ⊢;omega,by simp only at h6 ⊢;omega⟩
 ·have:=zsl h he;simp only at this;rw[this];exact hs
theorem zt3 (p:PG) (s:SS) (F:Int) (v sv:Value) (W:World) (hp:PV W Any p v) (hs:SV W Any s sv) (hF:I64 F) :
  Calls Tryz.prog 3 #[v,sv,.int .i64 F] W fun e W'=>e=.returned (.bool true)/\Below W.heap.size W W':=by
 have oo:=zh hp;have nU:=zh hs;obtain⟨A1,c1,A2,c2,A3,c3,rfl,dK⟩:=hp;obtain⟨A,c,B,d,D,e,rfl,hr1,hr2,hr3,hc1,hc2,hc3,hl1,hl2,hl3,hl4⟩:=hs;have hb2:=zkc (zkc (Below.refl W.heap.size W) (.cells #[.slice A1 p.vs.length c1,.slice A2 p.prs.length c2,.int .u8 p.m.k,.int .i64 p.m.n,.string p.m.s,.slice A3 p.m.ks.length c3] 28)) (.cells #[.slice A s.cells.length c,.slice B s.tin.length d,.slice D s.tout.length e] 32);have k0:=zkn (heap_alloc_new W (.cells #[.slice A1 p.vs.length c1,.slice A2 p.prs.length c2,.int .u8 p.m.k,.int .i64 p.m.n,.string p.m.s,.slice A3 p.m.ks.length c3] 28)) (.cells #[.slice A s.cells.length c,.slice B s.tin.length d,.slice D s.tout.length e] 32)
 have k1:=heap_alloc_new (W.alloc (.cells #[.slice A1 p.vs.length c1,.slice A2 p.prs.length c2,.int .u8 p.m.k,.int .i64 p.m.n,.string p.m.s,.slice A3 p.m.ks.length c3] 28)) (.cells #[.slice A s.cells.length c,.slice B s.tin.length d,.slice D s.tout.length e] 32);rw[World.size_alloc] at k1;obtain⟨w2,hw2⟩:∃ x,(W.alloc (.cells #[.slice A1 p.vs.length c1,.slice A2 p.prs.length c2,.int .u8 p.m.k,.int .i64 p.m.n,.string p.m.s,.slice A3 p.m.ks.length c3] 28)).alloc (.cells #[.slice A s.cells.length c,.slice B s.tin.length d,.slice D s.tout.length e] 32)=x:=⟨_,rfl⟩
 rw[hw2] at hb2 k0 k1;have HB2:=zh hb2;have aQ:=zh k0;have aH:=zh k1;clear dK hr1 hr2 hr3 hb2 k0 k1 hc1 hc2 hc3 hl1 hl2 hl3 hl4;have HAW:=zh (zqc w2);have HGR:=zh (fun w' (hb:Below w2.heap.size w2 w')=>zsN p s F _ _ w' (oo.out.later (zka HB2.out hb)) (nU.out.later (zka HB2.out hb)) hF);go_enter Tryz.func3,Tryz.ntmps3;go_wp2_with fail;refine HAW.out.mono ?_;rintro e3 w3 ⟨rfl,b3⟩;clear hw2 HAW;have aI:=zkf aQ.out b3;have bC:=zkf aH.out b3;have p0:w3.cell? ⟨W.heap.size,0,none⟩=some (.slice A1 p.vs.length c1):=zc aI rfl;have p1:w3.cell? ⟨W.heap.size,1,none⟩=some (.slice A2 p.prs.length c2):=zc aI rfl;have p2:w3.cell? ⟨W.heap.size,2,none⟩=some (.int .u8 p.m.k):=zc aI rfl;have p3:w3.cell? ⟨W.heap.size,3,none⟩=some (.int .i64 p.m.n):=zc aI rfl;have p4:w3.cell? ⟨W.heap.size,4,none⟩=some (.string p.m.s):=zc aI rfl
 have p5:w3.cell? ⟨W.heap.size,5,none⟩=some (.slice A3 p.m.ks.length c3):=zc aI rfl;have s0:w3.cell? ⟨W.heap.size+1,0,none⟩=some (.slice A s.cells.length c):=zc bC rfl;have s1:w3.cell? ⟨W.heap.size+1,1,none⟩=some (.slice B s.tin.length d):=zc bC rfl;have s2:w3.cell? ⟨W.heap.size+1,2,none⟩=some (.slice D s.tout.length e):=zc bC rfl;clear aI bC;go_wp2_with fail;refine(HGR.out _ b3).mono ?_;rintro e4 w4 ⟨gb,rfl,hgb,b4⟩;have vz:=zka b3 b4;clear p0 p1 p2 p3 p4 p5 s0 s1 s2 b3 b4 HGR
 cases gb
 rotate_left 1
 ·go_wp2_with fail;refine(zqc w4).mono ?_;rintro e5 w5 ⟨rfl,b5⟩;clear hgb;go_wp2_with fail;go_ret;exact⟨rfl,zka HB2.out (zka vz b5)⟩
 have vD:=zh (hgb rfl);have fK:=zh (show s.cells.length<=5864062014800 by have:=vD.out.cells;omega);have jm:F<=1000000:=by have:=vD.out.F;omega
 have hFG:F.toNat*2000+2000<=5000000:=by have:=vD.out.F;omega
 clear hgb;obtain⟨R0,hR0⟩:∃ R,resO p s F 5000000 false=R:=⟨_,rfl⟩
 go_upto_region 3 with fail;have aI:=zkf aQ.out vz;have bC:=zkf aH.out vz;have p0:w4.cell? ⟨W.heap.size,0,none⟩=some (.slice A1 p.vs.length c1):=zc aI rfl;have p1:w4.cell? ⟨W.heap.size,1,none⟩=some (.slice A2 p.prs.length c2):=zc aI rfl;have p2:w4.cell? ⟨W.heap.size,2,none⟩=some (.int .u8 p.m.k):=zc aI rfl;have p3:w4.cell? ⟨W.heap.size,3,none⟩=some (.int .i64 p.m.n):=zc aI rfl;have p4:w4.cell? ⟨W.heap.size,4,none⟩=some (.string p.m.s):=zc aI rfl;have p5:w4.cell? ⟨W.heap.size,5,none⟩=some (.slice A3 p.m.ks.length c3):=zc aI rfl;have s0:w4.cell? ⟨W.heap.size+1,0,none⟩=some (.slice A s.cells.length c):=zc bC rfl;have s1:w4.cell? ⟨W.heap.size+1,1,none⟩=some (.slice B s.tin.length d):=zc bC rfl;have s2:w4.cell? ⟨W.heap.size+1,2,none⟩=some (.slice D s.tout.length e):=zc bC rfl;clear aI bC
 have hcon:=zoB p s F 5000000 _ _ _ (oo.out.later (zka HB2.out vz)) (nU.out.later (zka HB2.out vz)) fK.out hF jm hFG;rw[hR0] at hcon;have HCON:=zh hcon;clear hcon;go_wp2_with fail;refine HCON.out.mono ?_;rintro e5 w5 ⟨v1,v2,v3,rfl,av,hbQ5,hl5⟩;obtain⟨A5,c5,B5,d5,D5,g5,hv⟩:=av.slices;injection hv with hv;simp only[Array.mk.injEq,List.cons.injEq,and_true] at hv;obtain⟨rfl,rfl,rfl⟩:=hv;have dZ:=zh av;have qC:=zh hl5;have hq5:=zka vz hbQ5;clear p0 p1 p2 p3 p4 p5 s0 s1 s2 av hl5 HCON;obtain⟨S0,n0,e0,l0⟩:=R0;dsimp only at dZ qC ⊢;go_upto_region 4 with fail;have ka:=heap_alloc_new w5 (.cells #[.slice A5 S0.cells.length c5,.slice B5 S0.tin.length d5,.slice D5 S0.tout.length g5,.int .i64 (n0:Int),.int .i64 e0] 37)
 have dG:=zkc (Below.refl w5.heap.size w5) (.cells #[.slice A5 S0.cells.length c5,.slice B5 S0.tin.length d5,.slice D5 S0.tout.length g5,.int .i64 (n0:Int),.int .i64 e0] 37);obtain⟨w6,ze⟩:∃ x,w5.alloc (.cells #[.slice A5 S0.cells.length c5,.slice B5 S0.tin.length d5,.slice D5 S0.tout.length g5,.int .i64 (n0:Int),.int .i64 e0] 37)=x:=⟨_,rfl⟩
 obtain⟨vX,za⟩:∃ x,w5.heap.size=x:=⟨_,rfl⟩
 rw[ze] at ka dG;rw[za] at ka;rw[ze,za];clear ze za;have wy:=zka hq5 dG;have jR:=zh ka;have HBA5:=zh dG;clear ka dG;have gL:=zuc p s F 5000000 false _ _ w6 (oo.out.later (zka HB2.out wy)) (nU.out.later (zka HB2.out wy)) hF jm hFG;rw[hR0] at gL;have HWA:=zh gL;have uB:=zh hR0;clear gL hR0;have aI:=zkf aQ.out wy;have bC:=zkf aH.out wy;have p0:w6.cell? ⟨W.heap.size,0,none⟩=some (.slice A1 p.vs.length c1):=zc aI rfl;have p1:w6.cell? ⟨W.heap.size,1,none⟩=some (.slice A2 p.prs.length c2):=zc aI rfl;have p2:w6.cell? ⟨W.heap.size,2,none⟩=some (.int .u8 p.m.k):=zc aI rfl;have p3:w6.cell? ⟨W.heap.size,3,none⟩=some (.int .i64 p.m.n):=zc aI rfl;have p4:w6.cell? ⟨W.heap.size,4,none⟩=some (.string p.m.s):=zc aI rfl;have p5:w6.cell? ⟨W.heap.size,5,none⟩=some (.slice A3 p.m.ks.length c3):=zc aI rfl
 have s0:w6.cell? ⟨W.heap.size+1,0,none⟩=some (.slice A s.cells.length c):=zc bC rfl;have s1:w6.cell? ⟨W.heap.size+1,1,none⟩=some (.slice B s.tin.length d):=zc bC rfl;have s2:w6.cell? ⟨W.heap.size+1,2,none⟩=some (.slice D s.tout.length e):=zc bC rfl;clear aI bC;go_wp2_with fail;refine HWA.out.mono ?_;rintro e7 w7 ⟨A7,c7,v7,rfl,rX,hro7,hle7,b7,hn7⟩;clear HWA p0 p1 p2 p3 p4 p5 s0 s1 s2;dsimp only at rX hro7 hle7 hn7 ⊢;have HSV7:=zh rX;obtain⟨A9,c9,B9,d9,D9,g9,rfl,-⟩:=rX;have hk5:=zkf jR.out b7;have ka:=heap_alloc_new w7 (.cells #[.slice A9 S0.cells.length c9,.slice B9 S0.tin.length d9,.slice D9 S0.tout.length g9] 32);have dG:=zkc (Below.refl w7.heap.size w7) (.cells #[.slice A9 S0.cells.length c9,.slice B9 S0.tin.length d9,.slice D9 S0.tout.length g9] 32);go_upto_region 5 with fail
 obtain⟨wa,gL⟩:∃ x,w7.alloc (.cells #[.slice A9 S0.cells.length c9,.slice B9 S0.tin.length d9,.slice D9 S0.tout.length g9] 32)=x:=⟨_,rfl⟩
 obtain⟨ab,hab⟩:∃ x,w7.heap.size=x:=⟨_,rfl⟩
 rw[gL] at ka dG ⊢;rw[hab] at ka
 try rw[hab]
 have lg:=zkf hk5 dG;have x0:wa.cell? ⟨vX,0,none⟩=some (.slice A5 S0.cells.length c5):=zc lg rfl;have x1:wa.cell? ⟨vX,1,none⟩=some (.slice B5 S0.tin.length d5):=zc lg rfl;have x2:wa.cell? ⟨vX,2,none⟩=some (.slice D5 S0.tout.length g5):=zc lg rfl;have x3:wa.cell? ⟨vX,3,none⟩=some (.int .i64 (n0:Int)):=zc lg rfl;have x4:wa.cell? ⟨vX,4,none⟩=some (.int .i64 e0):=zc lg rfl;have y0:wa.cell? ⟨ab,0,none⟩=some (.slice A9 S0.cells.length c9):=zc ka rfl;have y1:wa.cell? ⟨ab,1,none⟩=some (.slice B9 S0.tin.length d9):=zc ka rfl;have y2:wa.cell? ⟨ab,2,none⟩=some (.slice D9 S0.tout.length g9):=zc ka rfl;have hsm:S0.Sm:=zw3 (SmalX.sm vD.out) uB.out qC.out hn7;have Bh:=zh (zqO S0 S0 _ _ wa ((dZ.out.later (zka HBA5.out (zka b7 dG))).sv hsm.lim) (HSV7.out.later dG) hsm hsm);have hee:eqS S0 S0=true:=by simp[eqS]
 rw[hee] at Bh;have hqa:=zka wy (zka b7 dG);clear hk5 lg ka dG hsm hee gL hab hro7 hle7;go_wp2_with fail;refine Bh.out.mono ?_;rintro e13 uX ⟨rfl,b13⟩;clear x0 x1 x2 x3 x4 y0 y1 y2 Bh;go_wp2_with fail;go_ret;exact⟨rfl,zka HB2.out (zka hqa b13)⟩
end Go.Proofs.YtmbbaccjcekhkaaGreat
namespace Go.Proofs.YtmbbaccjcekhkaaGreat
open Go.RowKit Go.ChangeShapes Go.WideShapes Go.ChangeAt Go.Deep
theorem znr:Tryz.prog.cellsOf 26=4:=by kernel_rfl
theorem ztl:Tryz.prog.bytesOf 26=56:=by kernel_rfl
theorem zwy:Tryz.prog.cellsOf 5=1:=by kernel_rfl
theorem zrt:Tryz.prog.cellsOf 3=1:=by kernel_rfl
theorem zu1:Tryz.prog.cellsOf 9=1:=by kernel_rfl
theorem ztk:Tryz.prog.cellsOf 24=1:=by kernel_rfl
theorem zmj {H:Type} {P:Program} {e:TypeId}:∀ {l:List (DataW H)} {d:DataW H},d∈l->∀ n∈d.weights P e,n∈DataW.weightsAll P e l
 | d0::l,d,hd,n,hn=>by
  simp only[DataW.weightsAll,List.mem_append];rcases List.mem_cons.1 hd with rfl|hd
  ·exact .inl hn
  ·exact .inr (zmj hd n hn)
theorem znj {H:Type}:∀ (ks:List T) (ds:List (DataW H)),ks.length=ds.length->(∀ i (h:i<ks.length) (h':i<ds.length),size ks[i]<=Rows.uptoBulk ds[i])->zld ks<=Rows.uptoBulkAll ds
 | [],[],_,_=>by simp[zld]
 | t::ts,d::ds,hl,h=>by
  have h0:=h 0 (Nat.zero_lt_succ _) (Nat.zero_lt_succ _);have h1:=znj ts ds (by simpa using hl) (fun i hi hi'=>h (i+1) (Nat.succ_lt_succ hi) (Nat.succ_lt_succ hi'));simp only[List.getElem_cons_zero] at h0;simp only[zld,Rows.uptoBulkAll];omega
 | [],_::_,hl,_=>by simp at hl
 | _::_,[],hl,_=>by simp at hl
section
variable {H:Type} {enc:TypeId×Value->H} {w:World} {held:Bool}
def zeroT':T:=.nd 0 0 ⟨#[]⟩ []
theorem zpQ:∀ (fuel:Nat) (cs:List Value) (x:DataW H×List MemPlace),DataW.trod enc Tryz.prog w 0 (fun _=>true) held fuel 26 cs=some x ->
  (∀ n∈x.1.weights Tryz.prog 26,n<=reachBytes) ->
  ∃ t u0 u1 u2 u3,cs=[u0,u1,u2,u3]/\NV w Any t (.agg #[u0,u1,u2,u3])/\t.ks.length*56<=reachBytes/\size t<=Rows.uptoBulk x.1:=by
 intro fuel
 induction fuel using Nat.strongRecOn with
 | _ fuel ih =>
 intro cs x h hw;have hts:=DataW.trod_struct Tryz.underlying26 h;obtain⟨xs,n,hfu,hx,hcl,hxl,hg⟩:=hts;subst hx;rw[znr] at hcl
 match cs,hcl with
 | [c0,c1,c2,c3],_ =>
 match xs,hxl with
 | [y0,y1,y2,y3],_ =>
 have g0:=hg 0 _ rfl;have g1:=hg 1 _ rfl;have g2:=hg 2 _ rfl;have g3:=hg 3 _ rfl;simp only[zwy,zrt,zu1,ztk,List.drop_zero,List.take_succ_cons,List.take_zero,List.drop_succ_cons,List.getElem?_cons_zero,List.getElem?_cons_succ] at g0 g1 g2 g3;obtain⟨k,e0,e0',wk⟩:=DataW.trod_int Tryz.underlying5 g0;obtain⟨m,e1,zU,wm⟩:=DataW.trod_int Tryz.underlying3 g1;obtain⟨s,e2,e2',ws⟩:=DataW.trod_string Tryz.underlying9 g2;injection e0 with e0;injection e1 with e1;injection e2 with e2;subst e0 e1 e2 e0' zU e2';have hf:Fld k m s:=by
  refine⟨?_,?_,ws⟩
  ·have:=wk;simp[Lit.wf,IntKind.min,IntKind.max,IntKind.signed,IntKind.bits] at this;omega
  ·have:=wm;simp[Lit.wf,IntKind.min,IntKind.max,IntKind.signed,IntKind.bits] at this;omega
 have hsl:=DataW.trod_slice Tryz.underlying24 g3;rcases hsl with⟨e3,e3'⟩|⟨a,len,cap,elems,rest,n',hn',e3,e3',_,hl,hm,hel,hat,hsp,_⟩
 ·injection e3 with e3;subst e3 e3';refine⟨.nd k m s [],_,_,_,_,rfl,NV.shut (ks:=[]) hf (Nat.zero_le _) (Nat.zero_le _) zl3.nil,by simp,?_⟩;simp only[size,zld,List.map_cons,List.map_nil,Rows.uptoBulk];omega
 ·injection e3 with e3;subst e3 e3';obtain⟨hrl,_⟩:=hsp rfl;rw[znr] at hat
  -- what the reach says of this slice,and of its elements
  have hws:∀ q∈DataW.weights Tryz.prog 24 (.slice (elems.map (·.1)) (rest.map (·.1)):DataW H),q<=reachBytes:=by
   intro q hq;refine hw q ?_;simp only[List.map_cons,List.map_nil,DataW.weights,Tryz.underlying26];simp only[DataW.weightsEach,List.map_cons,List.map_nil,List.mem_append];exact .inr (.inr (.inr (.inl hq)))
  simp only[DataW.weights,Tryz.underlying24,ztl] at hws;have hcap:cap*56<=reachBytes:=by
   have:=hws _ (List.mem_cons_self ..);simp only[List.length_map] at this;rw[hel,hrl] at this;rw[show cap=len+(cap-len) by omega];exact this
  have hwe:∀ y∈elems,∀ q∈y.1.weights Tryz.prog 26,q<=reachBytes:=fun y hy q hq =>
   hws q (List.mem_cons_of_mem _ (List.mem_append_left _ (zmj (List.mem_map_of_mem hy) q hq)))
  have key:∀ i (hi:i<elems.length),∃ t u0 u1 u2 u3,w.cells? 0 (a.add (i*4)) 4=some [u0,u1,u2,u3]/\NV w Any t (.agg #[u0,u1,u2,u3])/\size t<=Rows.uptoBulk elems[i].1:=by
   intro i hi;have h1:=hat i (by omega);rw[List.getElem?_eq_getElem hi] at h1;obtain⟨cs',hcs,ht⟩:=Option.bind_eq_some_iff.1 h1;obtain⟨t,u0,u1,u2,u3,rfl,hn,_,hb⟩:=ih n' (by omega) cs' elems[i] ht (hwe _ (List.getElem_mem hi));exact⟨t,u0,u1,u2,u3,hcs,hn,hb⟩
  have hex:∃ ks:List T,ks.length=elems.length/\∀ i (h:i<ks.length) (h':i<elems.length),(∃ u0 u1 u2 u3,w.cells? 0 (a.add (i*4)) 4=some [u0,u1,u2,u3]/\NV w Any ks[i] (.agg #[u0,u1,u2,u3]))/\size ks[i]<=Rows.uptoBulk elems[i].1:=by
   classical
   refine⟨(List.range elems.length).map fun i=>if h:i<elems.length then (key i h).choose else zeroT',by simp,fun i h h'=>?_⟩;simp only[List.getElem_map,List.getElem_range,h',dif_pos];obtain⟨u0,u1,u2,u3,h1,h2,h3⟩:=(key i h').choose_spec;exact⟨⟨u0,u1,u2,u3,h1,h2⟩,h3⟩
  obtain⟨ks,hkl,hks⟩:=hex;have hlen:ks.length=len:=by omega
  have hLK:ks.length<=LK:=by unfold LK;unfold reachBytes at hcap;omega
  refine⟨.nd k m s ks,_,_,_,_,rfl,?_,?_,?_⟩
  ·rw[<-hlen];refine NV.shut hf hLK (by omega) fun i hi=>?_;obtain⟨⟨u0,u1,u2,u3,hc,hn⟩,_⟩:=hks i hi (by omega);obtain⟨_,_,hcell⟩:=World.cells?_some hc;refine⟨a,u0,u1,u2,u3,rfl,trivial,⟨?_,?_,?_,?_⟩,hn⟩
   ·have:=hcell 0 (by omega);simpa[Addr.add] using this
   ·have:=hcell 1 (by omega);simpa[Addr.add] using this
   ·have:=hcell 2 (by omega);simpa[Addr.add] using this
   ·have:=hcell 3 (by omega);simpa[Addr.add] using this
  ·simp only[T.ks_nd];omega
  ·have hb:=znj ks (elems.map (·.1)) (by simp[hkl]) (fun i h h'=>by
    have:=(hks i h (by simpa using h')).2;simpa using this)
   simp only[size,List.map_cons,List.map_nil,Rows.uptoBulk,Rows.uptoBulkAll];omega
end
theorem Tryz.own:ownKnob Tryz.prog.godebug=none:=by kernel_rfl
theorem Tryz.laidOut:laidOutB Tryz.prog=true:=by kernel_rfl
theorem zti:Tryz.prog.cellsOf 48=3:=by kernel_rfl
theorem zwA:Tryz.prog.bytesOf 48=32:=by kernel_rfl
section
variable {H:Type} {enc:TypeId×Value->H} {w:World} {held:Bool}
theorem znV {ty E:TypeId} {n b:Nat} (ht:Tryz.prog.underlying ty=some (.slice E)) (hc:Tryz.prog.cellsOf E=n) (hb:Tryz.prog.bytesOf E=b) {fuel:Nat} {cs:List Value} {x:DataW H×List MemPlace}
  (h:DataW.trod enc Tryz.prog w 0 (fun _=>true) held fuel ty cs=some x) (hw:∀ q∈x.1.weights Tryz.prog ty,q<=reachBytes) :
  cs=[.slice none 0 0]\/∃ a len cap,cs=[.slice (some a) len cap]/\len<=cap/\cap*b<=reachBytes/\∀ i,i<len->∃ cs' y n',w.cells? 0 (a.add (i*n)) n=some cs'/\DataW.trod enc Tryz.prog w 0 (fun _=>true) held n' E cs'=some y/\∀ q∈y.1.weights Tryz.prog E,q<=reachBytes:=by
 have hsl:=DataW.trod_slice ht h;rcases hsl with⟨e3,e3'⟩|⟨a,len,cap,elems,rest,n',hn',e3,e3',_,hl,hm,hel,hat,hsp,_⟩
 ·exact .inl e3
 ·refine .inr ⟨a,len,cap,e3,hl,?_,?_⟩
  ·obtain⟨hrl,_⟩:=hsp rfl;subst e3';simp only[DataW.weights,ht,hb] at hw;have:=hw _ (List.mem_cons_self ..);simp only[List.length_map] at this;rw[hel,hrl] at this;rw[show cap=len+(cap-len) by omega];exact this
  ·intro i hi;subst e3';simp only[DataW.weights,ht,hb] at hw;have hi':i<elems.length:=by omega
   have h1:=hat i (by omega);rw[List.getElem?_eq_getElem hi',hc] at h1;obtain⟨cs',hcs,ht'⟩:=Option.bind_eq_some_iff.1 h1;exact⟨cs',elems[i],n',hcs,ht',fun q hq=>hw q (List.mem_cons_of_mem _ (List.mem_append_left _ (zmj (List.mem_map_of_mem (List.getElem_mem hi')) q hq)))⟩
theorem zwd {fuel:Nat} {cs:List Value} {x:DataW H×List MemPlace} (h:DataW.trod enc Tryz.prog w 0 (fun _=>true) held fuel 48 cs=some x) :
  ∃ v:VD,cs=[.string v.s,.int .u8 v.k,.int .i64 v.n]/\FldV v:=by
 have hts:=DataW.trod_struct Tryz.underlying48 h;obtain⟨xs,n,hfu,hx,hcl,hxl,hg⟩:=hts;rw[zti] at hcl
 match cs,hcl with
 | [c0,c1,c2],_ =>
 match xs,hxl with
 | [y0,y1,y2],_ =>
 have g0:=hg 0 _ rfl;have g1:=hg 1 _ rfl;have g2:=hg 2 _ rfl;obtain⟨s,e2,e2',ws⟩:=DataW.trod_string Tryz.underlying9 g0;obtain⟨k,e0,e0',wk⟩:=DataW.trod_int Tryz.underlying5 g1;obtain⟨m,e1,zU,wm⟩:=DataW.trod_int Tryz.underlying3 g2;injection e0 with e0;injection e1 with e1;injection e2 with e2;subst e0 e1 e2;refine⟨⟨s,k,m⟩,rfl,ws,?_,?_⟩
 ·have:=wk;simp[Lit.wf,IntKind.min,IntKind.max,IntKind.signed,IntKind.bits] at this;constructor<;>simp only<;>omega
 ·have:=wm;simp[Lit.wf,IntKind.min,IntKind.max,IntKind.signed,IntKind.bits] at this;constructor<;>simp only<;>omega
theorem zmB {α:Type} [Inhabited α] {n:Nat} {P:Nat->α->Prop} (h:∀ i,i<n->∃ x,P i x):∃ l:List α,l.length=n/\∀ i (hi:i<l.length),P i l[i]:=by
 obtain⟨f,hf⟩:=choose_lt h;exact⟨(List.range n).map f,by simp,fun i hi=>by simp only[List.getElem_map,List.getElem_range];exact hf i (by simpa using hi)⟩
instance:Inhabited VD:=⟨⟨⟨#[]⟩,0,0⟩⟩
theorem zrL {fuel:Nat} {cs:List Value} {x:DataW H×List MemPlace} (h:DataW.trod enc Tryz.prog w 0 (fun _=>true) held fuel 22 cs=some x) (hw:∀ q∈x.1.weights Tryz.prog 22,q<=reachBytes) :
  ∃ (A:Option Addr) (vs:List VD) (c:Nat),cs=[.slice A vs.length c]/\RowV w Any A vs/\vs.length<=4398046510976/\vs.length<=c:=by
 rcases znV Tryz.underlying22 zti zwA h hw with rfl|⟨a,len,cap,rfl,hl,hcap,hat⟩
 ·exact⟨none,[],0,rfl,fun i hi=>absurd hi (by simp),Nat.zero_le _,Nat.zero_le _⟩
 ·obtain⟨vs,hvl,hvs⟩:=zmB (n:=len) (P:=fun i (v:VD)=>w.cells? 0 (a.add (i*3)) 3=some [.string v.s,.int .u8 v.k,.int .i64 v.n]/\FldV v) fun i hi=>by
   obtain⟨cs',y,n',hcs,ht,_⟩:=hat i hi;obtain⟨v,rfl,hf⟩:=zwd ht;exact⟨v,hcs,hf⟩
  refine⟨some a,vs,cap,by rw[hvl],fun i hi=>?_,by unfold reachBytes at hcap;omega,by omega⟩;obtain⟨hc,hf⟩:=hvs i hi;obtain⟨_,_,hcell⟩:=World.cells?_some hc;refine⟨a,rfl,trivial,⟨?_,?_,?_⟩,hf⟩
  ·have:=hcell 0 (by omega);simpa[Addr.add] using this
  ·have:=hcell 1 (by omega);simpa[Addr.add] using this
  ·have:=hcell 2 (by omega);simpa[Addr.add] using this
theorem zpP {fuel:Nat} {cs:List Value} {x:DataW H×List MemPlace} (h:DataW.trod enc Tryz.prog w 0 (fun _=>true) held fuel 22 cs=some x) (hw:∀ q∈x.1.weights Tryz.prog 22,q<=reachBytes) :
  ∃ (A:Option Addr) (vs:List VD) (c:Nat),cs=[.slice A vs.length c]/\RowV w Any A vs/\vs.length<=LV/\vs.length<=c:=by
 obtain⟨A,vs,c,h1,h2,h3,h4⟩:=zrL h hw;exact⟨A,vs,c,h1,h2,by unfold LV;omega,h4⟩
instance:Inhabited T:=⟨zeroT'⟩
theorem zrd {t:T} {u0 u1 u2 u3:Value} (h:NV w Any t (.agg #[u0,u1,u2,u3])):∃ A c,u0=.int .u8 t.k/\u1=.int .i64 t.n/\u2=.string t.s/\u3=.slice A t.ks.length c/\NV w Any t (nv t.k t.n t.s A t.ks.length c):=by
 obtain⟨A,c,e,_⟩:=h.open_;have e':=e;simp only[nv,Value.agg.injEq,Array.mk.injEq,List.cons.injEq,and_true] at e;exact⟨A,c,e.1,e.2.1,e.2.2.1,e.2.2.2,e'▸h⟩
end
theorem zxt:Tryz.prog.cellsOf 30=1:=by kernel_rfl
theorem zu3:Tryz.prog.bytesOf 3=8:=by kernel_rfl
theorem zxw:Tryz.prog.bytesOf 30=24:=by kernel_rfl
theorem zrY:Tryz.prog.cellsOf 32=3:=by kernel_rfl
section
variable {H:Type} {enc:TypeId×Value->H} {w:World} {held:Bool}
theorem zxv {a:Addr} {u:Value} (h:w.cells? 0 a 1=some [u]):w.cell? a=some u:=by
 obtain⟨_,_,hcell⟩:=World.cells?_some h;have:=hcell 0 (by omega);have e:a.add 0=a:=by
  obtain⟨b,o,l⟩:=a;rcases l with _|⟨l1,l2⟩<;>simp[Addr.add]
 rw[e] at this;simpa using this
theorem zod {fuel:Nat} {cs:List Value} {x:DataW H×List MemPlace} (h:DataW.trod enc Tryz.prog w 0 (fun _=>true) held fuel 30 cs=some x) (hw:∀ q∈x.1.weights Tryz.prog 30,q<=reachBytes) :
  ∃ (A:Option Addr) (l:List Int) (c:Nat),cs=[.slice A l.length c]/\RowI w Any A l/\l.length<=LI/\l.length<=c:=by
 rcases znV Tryz.underlying30 zrt zu3 h hw with rfl|⟨a,len,cap,rfl,hl,hcap,hat⟩
 ·exact⟨none,[],0,rfl,fun i hi=>absurd hi (by simp),Nat.zero_le _,Nat.zero_le _⟩
 ·obtain⟨l,hvl,hvs⟩:=zmB (n:=len) (P:=fun i (x:Int)=>w.cells? 0 (a.add (i*1)) 1=some [.int .i64 x]/\I64 x) fun i hi=>by
   obtain⟨cs',y,n',hcs,ht,_⟩:=hat i hi;obtain⟨m,e1,zU,wm⟩:=DataW.trod_int Tryz.underlying3 ht;refine⟨m,by rw[hcs,e1],?_⟩;have:=wm;simp[Lit.wf,IntKind.min,IntKind.max,IntKind.signed,IntKind.bits] at this
   constructor<;>omega
  refine⟨some a,l,cap,by rw[hvl],fun i hi=>?_,by unfold LI;unfold reachBytes at hcap;omega,by omega⟩;obtain⟨hc,hf⟩:=hvs i hi;rw[Nat.mul_one] at hc;exact⟨a,rfl,trivial,zxv hc,hf⟩
instance:Inhabited (List Int):=⟨[]⟩
theorem zrN {fuel:Nat} {cs:List Value} {x:DataW H×List MemPlace} (h:DataW.trod enc Tryz.prog w 0 (fun _=>true) held fuel 29 cs=some x) (hw:∀ q∈x.1.weights Tryz.prog 29,q<=reachBytes) :
  ∃ (A:Option Addr) (ls:List (List Int)) (c:Nat),cs=[.slice A ls.length c]/\znt w Any A ls/\ls.length<=LI/\(∀ l∈ls,l.length<=LI)/\ls.length<=c:=by
 rcases znV Tryz.underlying29 zxt zxw h hw with rfl|⟨a,len,cap,rfl,hl,hcap,hat⟩
 ·exact⟨none,[],0,rfl,fun i hi=>absurd hi (by simp),Nat.zero_le _,by simp,Nat.zero_le _⟩
 ·obtain⟨ls,hvl,hvs⟩:=zmB (n:=len) (P:=fun i (l:List Int)=>∃ A' c',w.cells? 0 (a.add (i*1)) 1=some [.slice A' l.length c']/\RowI w Any A' l/\l.length<=LI/\l.length<=c') fun i hi=>by
   obtain⟨cs',y,n',hcs,ht,yQ⟩:=hat i hi;obtain⟨A',l,c',e,hr,h1,h2⟩:=zod ht yQ;exact⟨l,A',c',by rw[hcs,e],hr,h1,h2⟩
  refine⟨some a,ls,cap,by rw[hvl],fun i hi=>?_,by unfold LI;unfold reachBytes at hcap;omega,fun l hl=>?_,by omega⟩
  ·obtain⟨A',c',hc,hr,h1,h2⟩:=hvs i hi;rw[Nat.mul_one] at hc;exact⟨a,A',c',rfl,trivial,zxv hc,h2,hr⟩
  ·obtain⟨i,hi,rfl⟩:=List.mem_iff_getElem.1 hl;obtain⟨A',c',hc,hr,h1,h2⟩:=hvs i hi;exact h1
theorem zrM {fuel:Nat} {cs:List Value} {x:DataW H×List MemPlace} (h:DataW.trod enc Tryz.prog w 0 (fun _=>true) held fuel 32 cs=some x) (hw:∀ q∈x.1.weights Tryz.prog 32,q<=reachBytes) :
  ∃ (s:SS) (u0 u1 u2:Value),cs=[u0,u1,u2]/\SV w Any s (.agg #[u0,u1,u2]):=by
 have hts:=DataW.trod_struct Tryz.underlying32 h;obtain⟨xs,n,hfu,hx,hcl,hxl,hg⟩:=hts;subst hx;rw[zrY] at hcl
 match cs,hcl with
 | [c0,c1,c2],_ =>
 match xs,hxl with
 | [y0,y1,y2],_ =>
 have g0:=hg 0 _ rfl;have g1:=hg 1 _ rfl;have g2:=hg 2 _ rfl;have hw0:∀ q∈y0.1.weights Tryz.prog 29,q<=reachBytes:=fun q hq=>by
  refine hw q ?_;simp only[List.map_cons,List.map_nil,DataW.weights,Tryz.underlying32];simp only[DataW.weightsEach,List.mem_append];exact .inl hq
 have hw1:∀ q∈y1.1.weights Tryz.prog 30,q<=reachBytes:=fun q hq=>by
  refine hw q ?_;simp only[List.map_cons,List.map_nil,DataW.weights,Tryz.underlying32];simp only[DataW.weightsEach,List.mem_append];exact .inr (.inl hq)
 have hw2:∀ q∈y2.1.weights Tryz.prog 30,q<=reachBytes:=fun q hq=>by
  refine hw q ?_;simp only[List.map_cons,List.map_nil,DataW.weights,Tryz.underlying32];simp only[DataW.weightsEach,List.mem_append];exact .inr (.inr (.inl hq))
 obtain⟨A0,ls,k0,e0,hr0,hl0,hl0',hc0⟩:=zrN g0 hw0;obtain⟨A1,l1,k1,e1,hr1,hl1,hc1⟩:=zod g1 hw1;obtain⟨A2,l2,k2,e2,hr2,hl2,hc2⟩:=zod g2 hw2;injection e0 with e0;injection e1 with e1;injection e2 with e2;subst e0 e1 e2;exact⟨⟨ls,l1,l2⟩,_,_,_,rfl,A0,k0,A1,k1,A2,k2,rfl,hr0,hr1,hr2,hc0,hc1,hc2,hl0,hl0',hl1,hl2⟩
theorem zuk {W:World} {base:Nat} {v:Value} {d:DataW H} {p:List MemPlace} (hok:Value.okWide Tryz.prog W .any base 32 v)
  (h:DataW.Trod enc Tryz.prog W 0 (fun _=>true) true 32 v d p) (hw:∀ n∈d.weights Tryz.prog 32,n<=reachBytes):∃ s,SV W Any s v:=by
 obtain⟨cs,rfl,hcs⟩:=okWide_struct Tryz.underlying32 hok;obtain⟨fuel,hf⟩:=h;obtain⟨s,u0,u1,u2,e,hs⟩:=zrM hf hw;refine⟨s,?_⟩;have:cs = #[u0,u1,u2]:=by
  apply Array.ext';simpa[Value.cells] using e
 rw[this];exact hs
end
theorem ztj:Tryz.prog.cellsOf 51=6:=by kernel_rfl
theorem zwB:Tryz.prog.bytesOf 51=96:=by kernel_rfl
theorem zwz:Tryz.prog.cellsOf 28=6:=by kernel_rfl
section
variable {H:Type} {enc:TypeId×Value->H} {w:World} {held:Bool}
instance:Inhabited PR:=⟨⟨⟨#[]⟩,[],zeroT'⟩⟩
theorem zsr {fuel:Nat} {cs:List Value} {x:DataW H×List MemPlace} (h:DataW.trod enc Tryz.prog w 0 (fun _=>true) held fuel 51 cs=some x) (hw:∀ q∈x.1.weights Tryz.prog 51,q<=reachBytes) :
  ∃ (r:PR) (A1:Option Addr) (c1:Nat) (A2:Option Addr) (c2:Nat),cs=[.string r.s,.slice A1 r.ps.length c1,.int .u8 r.b.k,.int .i64 r.b.n,.string r.b.s,.slice A2 r.b.ks.length c2]/\PrR w Any r A1 c1 A2 c2:=by
 have hts:=DataW.trod_struct Tryz.underlying51 h;obtain⟨xs,n,hfu,hx,hcl,hxl,hg⟩:=hts;subst hx;rw[ztj] at hcl
 match cs,hcl with
 | [c0,c1,c2,c3,c4,c5],_ =>
 match xs,hxl with
 | [y0,y1,y2],_ =>
 have g0:=hg 0 _ rfl;have g1:=hg 1 _ rfl;have g2:=hg 2 _ rfl;have hw1:∀ q∈y1.1.weights Tryz.prog 22,q<=reachBytes:=fun q hq=>by
  refine hw q ?_;simp only[List.map_cons,List.map_nil,DataW.weights,Tryz.underlying51];simp only[DataW.weightsEach,List.map_cons,List.map_nil,List.mem_append];exact .inr (.inl hq)
 have hw2:∀ q∈y2.1.weights Tryz.prog 26,q<=reachBytes:=fun q hq=>by
  refine hw q ?_;simp only[List.map_cons,List.map_nil,DataW.weights,Tryz.underlying51];simp only[DataW.weightsEach,List.map_cons,List.map_nil,List.mem_append];exact .inr (.inr (.inl hq))
 obtain⟨s,e0,_,ws⟩:=DataW.trod_string Tryz.underlying9 g0;obtain⟨A1,ps,k1,e1,hrow,hlp,hlc⟩:=zpP g1 hw1;obtain⟨t,u0,u1,u2,u3,e2,hn,_,_⟩:=zpQ _ _ _ g2 hw2;obtain⟨A2,k2,rfl,rfl,rfl,rfl,hn'⟩:=zrd hn;injection e0 with e0;injection e1 with e1;change List.take (Tryz.prog.cellsOf 26) [c2,c3,c4,c5]=_ at e2;rw[znr] at e2;simp only[List.take_succ_cons,List.take_zero,List.cons.injEq,and_true] at e2;obtain⟨rfl,rfl,rfl,rfl⟩:=e2;subst e0 e1;exact⟨⟨s,ps,t⟩,A1,k1,A2,k2,rfl,ws,hrow,hlp,hlc,hn'⟩
theorem zrO {fuel:Nat} {cs:List Value} {x:DataW H×List MemPlace} (h:DataW.trod enc Tryz.prog w 0 (fun _=>true) held fuel 23 cs=some x) (hw:∀ q∈x.1.weights Tryz.prog 23,q<=reachBytes) :
  ∃ (A:Option Addr) (ps:List PR) (c:Nat),cs=[.slice A ps.length c]/\RowP w Any A ps/\ps.length<=LV/\ps.length<=c:=by
 rcases znV Tryz.underlying23 ztj zwB h hw with rfl|⟨a,len,cap,rfl,hl,hcap,hat⟩
 ·exact⟨none,[],0,rfl,fun i hi=>absurd hi (by simp),Nat.zero_le _,Nat.zero_le _⟩
 ·obtain⟨ps,hvl,hvs⟩:=zmB (n:=len) (P:=fun i (r:PR)=>∃ A1 c1 A2 c2,w.cells? 0 (a.add (i*6)) 6=some [.string r.s,.slice A1 r.ps.length c1,.int .u8 r.b.k,.int .i64 r.b.n,.string r.b.s,.slice A2 r.b.ks.length c2]/\PrR w Any r A1 c1 A2 c2) fun i hi=>by
   obtain⟨cs',y,n',hcs,ht,yQ⟩:=hat i hi;obtain⟨r,A1,c1,A2,c2,rfl,hr⟩:=zsr ht yQ;exact⟨r,A1,c1,A2,c2,hcs,hr⟩
  refine⟨some a,ps,cap,by rw[hvl],fun i hi=>?_,by unfold LV;unfold reachBytes at hcap;omega,by omega⟩;obtain⟨A1,c1,A2,c2,hc,hr⟩:=hvs i hi;obtain⟨_,_,hcell⟩:=World.cells?_some hc;refine⟨a,A1,c1,A2,c2,rfl,trivial,⟨?_,?_,?_,?_,?_,?_⟩,hr⟩
  ·have:=hcell 0 (by omega);simpa[Addr.add] using this
  ·have:=hcell 1 (by omega);simpa[Addr.add] using this
  ·have:=hcell 2 (by omega);simpa[Addr.add] using this
  ·have:=hcell 3 (by omega);simpa[Addr.add] using this
  ·have:=hcell 4 (by omega);simpa[Addr.add] using this
  ·have:=hcell 5 (by omega);simpa[Addr.add] using this
theorem zsq {fuel:Nat} {cs:List Value} {x:DataW H×List MemPlace} (h:DataW.trod enc Tryz.prog w 0 (fun _=>true) held fuel 28 cs=some x) (hw:∀ q∈x.1.weights Tryz.prog 28,q<=reachBytes) :
  ∃ (p:PG) (A1:Option Addr) (c1:Nat) (A2:Option Addr) (c2:Nat) (A3:Option Addr) (c3:Nat),cs=[.slice A1 p.vs.length c1,.slice A2 p.prs.length c2,.int .u8 p.m.k,.int .i64 p.m.n,.string p.m.s,.slice A3 p.m.ks.length c3]/\PgR w Any p A1 c1 A2 c2 A3 c3:=by
 have hts:=DataW.trod_struct Tryz.underlying28 h;obtain⟨xs,n,hfu,hx,hcl,hxl,hg⟩:=hts;subst hx;rw[zwz] at hcl
 match cs,hcl with
 | [c0,c1,c2,c3,c4,c5],_ =>
 match xs,hxl with
 | [y0,y1,y2],_ =>
 have g0:=hg 0 _ rfl;have g1:=hg 1 _ rfl;have g2:=hg 2 _ rfl;have hw0:∀ q∈y0.1.weights Tryz.prog 22,q<=reachBytes:=fun q hq=>by
  refine hw q ?_;simp only[List.map_cons,List.map_nil,DataW.weights,Tryz.underlying28];simp only[DataW.weightsEach,List.map_cons,List.map_nil,List.mem_append];exact .inl hq
 have hw1:∀ q∈y1.1.weights Tryz.prog 23,q<=reachBytes:=fun q hq=>by
  refine hw q ?_;simp only[List.map_cons,List.map_nil,DataW.weights,Tryz.underlying28];simp only[DataW.weightsEach,List.map_cons,List.map_nil,List.mem_append];exact .inr (.inl hq)
 have hw2:∀ q∈y2.1.weights Tryz.prog 26,q<=reachBytes:=fun q hq=>by
  refine hw q ?_;simp only[List.map_cons,List.map_nil,DataW.weights,Tryz.underlying28];simp only[DataW.weightsEach,List.map_cons,List.map_nil,List.mem_append];exact .inr (.inr (.inl hq))
 obtain⟨A1,vs,k1,e0,hrow,hlv,hlvc⟩:=zpP g0 hw0;obtain⟨A2,ps,k2,e1,hrp,hlp,hlpc⟩:=zrO g1 hw1;obtain⟨t,u0,u1,u2,u3,e2,hn,_,_⟩:=zpQ _ _ _ g2 hw2;obtain⟨A3,k3,rfl,rfl,rfl,rfl,hn'⟩:=zrd hn;injection e0 with e0;injection e1 with e1;change List.take (Tryz.prog.cellsOf 26) [c2,c3,c4,c5]=_ at e2;rw[znr] at e2;simp only[List.take_succ_cons,List.take_zero,List.cons.injEq,and_true] at e2;obtain⟨rfl,rfl,rfl,rfl⟩:=e2;subst e0 e1;exact⟨⟨vs,ps,t⟩,A1,k1,A2,k2,A3,k3,rfl,hrow,hlv,hlvc,hrp,hlp,hlpc,hn'⟩
end
theorem zwa {H:Type} {enc:TypeId×Value->H} {W:World} {base:Nat} {v:Value} {d:DataW H} {p:List MemPlace} (hok:Value.okWide Tryz.prog W .any base 28 v)
  (h:DataW.Trod enc Tryz.prog W 0 (fun _=>true) true 28 v d p) (hw:∀ n∈d.weights Tryz.prog 28,n<=reachBytes):∃ g,PV W Any g v:=by
 obtain⟨cs,rfl,hcs⟩:=okWide_struct Tryz.underlying28 hok;obtain⟨fuel,hf⟩:=h;obtain⟨g,A1,c1,A2,c2,A3,c3,e,hr⟩:=zsq hf hw;refine⟨g,A1,c1,A2,c2,A3,c3,?_,hr⟩;have:cs = #[.slice A1 g.vs.length c1,.slice A2 g.prs.length c2,.int .u8 g.m.k,.int .i64 g.m.n,.string g.m.s,.slice A3 g.m.ks.length c3]:=by
  apply Array.ext';simpa[Value.cells] using e
 rw[this]
end Go.Proofs.YtmbbaccjcekhkaaGreat
