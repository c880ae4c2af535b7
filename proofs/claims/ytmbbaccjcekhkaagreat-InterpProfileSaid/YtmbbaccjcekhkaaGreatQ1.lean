/-
  Texts of the proof, put together without their remarks: Ib, Rxs, Rxt, Fwq, Rxu, Lift, LiftV, LiftS, LiftP.
-/
import Derived.Test.YtmbbaccjcekhkaaGreatF13
import Derived.Test.YtmbbaccjcekhkaaGreatRows
import Derived.ProofKit
import Derived.SizedLaws
import Derived.Deep.Slices
import Derived.Deep.Fields
import Derived.Lib.SmallJoins
import Derived.ChangeSlices
set_option linter.unusedSimpArgs false
set_option linter.unusedVariables false
set_option maxHeartbeats 8000000
set_option maxRecDepth 100000
namespace Go.Proofs.YtmbbaccjcekhkaaGreat
open Go Go.RowKit
theorem zye (p:PG) (s:SS) (F:Int) (g:Nat) (back:Bool) (v sv:Value) (W:World) (hp:PV W Any p v) (hs:SV W Any s sv) (hcl:s.cells.length<=5864062014800) (hF:I64 F) (jm:F<=1000000) (hg:F.toNat*2000+2000<=g) :
  Calls Tryz.prog 18 #[v,sv,.int .i64 F,.bool back] W (ResP W (resO p s F g back)):=zpI p s F g back v sv W hp hs hcl hF jm hg (zs1 p)
def zx7 (W:World) (R:SS×Nat×Int×List Nat) (e:Ending) (W':World):Prop:=∃ A c v,e=.returned (.tuple #[v,.int .i64 (R.2.1:Int),.int .i64 R.2.2.1,.slice A R.2.2.2.length c]) /\
 SV W' Any R.1 v/\RowI W' Any A (R.2.2.2.map Int.ofNat)/\R.2.2.2.length<=c/\Below W.heap.size W W'/\(R.2.2.1=0->R.1.cells.length<=1000)
theorem zxG (p:PG) (s:SS) (A1 A2 A3:Option Addr) (c1 c2 c3:Nat) (v:Value) (w:World) (hp:PV w Any p (.agg #[.slice A1 p.vs.length c1,.slice A2 p.prs.length c2,.int .u8 p.m.k,.int .i64 p.m.n,.string p.m.s,.slice A3 p.m.ks.length c3])) (hs:SV w Any s v) :
  Calls Tryz.prog 21 #[.slice A1 p.vs.length c1,v] w fun e w'=>e=.returned (.bool (fitB p.vs s))/\Below w.heap.size w w':=by
 obtain⟨B1,d1,B2,d2,B3,d3,he,dK⟩:=hp;injection he with he;injection he with he;injection he with he _;injection he with h1 _ h3;subst h1 h3;exact zrz p.vs s A1 c1 v w dK.vars dK.lv hs
theorem zn1 {w:World} {b:Nat} {x0 x1 x2 y0 y1 y2:Value} {E:TypeId} (h:w.heap[b]?=some (.cells #[x0,x1,x2] E (0,0))) :
  (((w.setCell ⟨b,0,none⟩ y0).setCell ⟨b,1,none⟩ y1).setCell ⟨b,2,none⟩ y2).heap[b]?=some (.cells #[y0,y1,y2] E (0,0))/\Chg (fun q=>q=b) w (((w.setCell ⟨b,0,none⟩ y0).setCell ⟨b,1,none⟩ y1).setCell ⟨b,2,none⟩ y2):=by
 refine⟨?_,(((Chg.refl (fun q=>q=b) w).setCell (p:=⟨b,0,none⟩) (.inl rfl) _).setCell (p:=⟨b,1,none⟩) (.inl rfl) _).setCell (p:=⟨b,2,none⟩) (.inl rfl) _⟩;rw[heap_setCell_same _ b 2 _ _ y2 (heap_setCell_same _ b 1 _ _ y1 (heap_setCell_same w b 0 _ _ y0 h))];simp
theorem zuc (p:PG) (s:SS) (F:Int) (g:Nat) (back:Bool) (v sv:Value) (W:World) (hp:PV W Any p v) (hs:SV W Any s sv) (hF:I64 F) (jm:F<=1000000) (hg:F.toNat*2000+2000<=g) :
  Calls Tryz.prog 9 #[v,sv,.int .i64 F,.bool back] W (zx7 W (resO p s F g back)):=by
 have oo:=zh hp;have nU:=zh hs;obtain⟨A1,c1,A2,c2,A3,c3,rfl,dK⟩:=hp;obtain⟨A,c,B,d,D,e,rfl,hr1,hr2,hr3,hc1,hc2,hc3,hl1,hl2,hl3,hl4⟩:=hs;have hb2:=zkc (zkc (Below.refl W.heap.size W) (.cells #[.slice A1 p.vs.length c1,.slice A2 p.prs.length c2,.int .u8 p.m.k,.int .i64 p.m.n,.string p.m.s,.slice A3 p.m.ks.length c3] 28)) (.cells #[.slice A s.cells.length c,.slice B s.tin.length d,.slice D s.tout.length e] 32);have k0:=zkn (heap_alloc_new W (.cells #[.slice A1 p.vs.length c1,.slice A2 p.prs.length c2,.int .u8 p.m.k,.int .i64 p.m.n,.string p.m.s,.slice A3 p.m.ks.length c3] 28)) (.cells #[.slice A s.cells.length c,.slice B s.tin.length d,.slice D s.tout.length e] 32)
 have k1:=heap_alloc_new (W.alloc (.cells #[.slice A1 p.vs.length c1,.slice A2 p.prs.length c2,.int .u8 p.m.k,.int .i64 p.m.n,.string p.m.s,.slice A3 p.m.ks.length c3] 28)) (.cells #[.slice A s.cells.length c,.slice B s.tin.length d,.slice D s.tout.length e] 32);rw[World.size_alloc] at k1;obtain⟨w2,hw2⟩:∃ x,(W.alloc (.cells #[.slice A1 p.vs.length c1,.slice A2 p.prs.length c2,.int .u8 p.m.k,.int .i64 p.m.n,.string p.m.s,.slice A3 p.m.ks.length c3] 28)).alloc (.cells #[.slice A s.cells.length c,.slice B s.tin.length d,.slice D s.tout.length e] 32)=x:=⟨_,rfl⟩
 rw[hw2] at hb2 k0 k1;have HB2:=zh hb2;have aQ:=zh k0;have aH:=zh k1;clear dK hr1 hr2 hr3 hb2 k0 k1 hc1 hc2 hc3 hl1 hl2 hl3 hl4;have hb3:=zkc (Below.refl w2.heap.size w2) (.cells #[.slice none 0 0,.slice none 0 0,.slice none 0 0] 32);have hkr:=heap_alloc_new w2 (.cells #[.slice none 0 0,.slice none 0 0,.slice none 0 0] 32);have hw2z:w2.heap.size=W.heap.size+1+1:=by rw[<-hw2];simp
 obtain⟨R0,hR0⟩:∃ R,resO p s F g back=R:=⟨_,rfl⟩
 rw[hR0];go_enter Tryz.func9,Tryz.ntmps9;go_upto_region 1 with fail;obtain⟨w3,hw3⟩:∃ x,w2.alloc (.cells #[.slice none 0 0,.slice none 0 0,.slice none 0 0] 32)=x:=⟨_,rfl⟩
 obtain⟨rb,hrb⟩:∃ x,W.heap.size+1+1=x:=⟨_,rfl⟩
 rw[hw3] at hb3 hkr ⊢;rw[hw2z,hrb] at hkr;rw[hrb];have ag:=zh (show W.heap.size+1<rb/\rb<w3.heap.size from ⟨by omega,by rw[<-hw3,World.size_alloc];omega⟩);have HB3:=zh hb3;have rz:=zh hkr;obtain⟨vb,hvb⟩:∃ b,zle p=b:=⟨_,rfl⟩
 have mD:=zh (zox p Any _ w3 (oo.out.later (zka HB2.out hb3)));rw[hvb] at mD;clear hw2 hw3 hrb hb3 hkr hw2z;obtain⟨p0,p1,p2,p3,p4,p5⟩:=box6 (zkf aQ.out HB3.out);obtain⟨s0,s1,s2⟩:=box3 (zkf aH.out HB3.out);go_wp2_with fail;refine mD.out.mono ?_;rintro e5 w5 ⟨rfl,b5⟩;clear mD p0 p1 p2 p3 p4 p5 s0 s1 s2
 cases vb
 ·obtain rfl:R0=(s,0,3,[]):=by rw[<-hR0];unfold resO;rw[if_pos (.inl hvb)]
  obtain⟨p0,p1,p2,p3,p4,p5⟩:=box6 (zkf aQ.out (zka HB3.out b5));obtain⟨s0,s1,s2⟩:=box3 (zkf aH.out (zka HB3.out b5));have kR:=zkf rz.out b5;have q0:w5.cell? ⟨rb,0,none⟩=some (.slice none 0 0):=zc kR rfl;have q1:w5.cell? ⟨rb,1,none⟩=some (.slice none 0 0):=zc kR rfl;have q2:w5.cell? ⟨rb,2,none⟩=some (.slice none 0 0):=zc kR rfl;have qf:∀ j,w5.frozen? ⟨rb,j,none⟩=false:=fun j=>zf kR;obtain⟨hh,hch⟩:=zn1 (y0:=(.slice A s.cells.length c)) (y1:=(.slice B s.tin.length d)) (y2:=(.slice D s.tout.length e)) kR;have fA:=zh hh;have dU:=zh hch;clear hh hch kR;go_wp2_with fail;obtain⟨w9,bH⟩:∃ x,((w5.setCell ⟨rb,0,none⟩ (.slice A s.cells.length c)).setCell ⟨rb,1,none⟩ (.slice B s.tin.length d)).setCell ⟨rb,2,none⟩ (.slice D s.tout.length e)=x:=⟨_,rfl⟩
  rw[bH] at dU fA ⊢;have t0:w9.cell? ⟨rb,0,none⟩=some (.slice A s.cells.length c):=zc fA.out rfl;have t1:w9.cell? ⟨rb,1,none⟩=some (.slice B s.tin.length d):=zc fA.out rfl;have t2:w9.cell? ⟨rb,2,none⟩=some (.slice D s.tout.length e):=zc fA.out rfl;have bO:=(zka HB2.out (zka HB3.out b5)).trans (dU.out.below (zka HB2.out (zka HB3.out b5)).size fun b e=>by have:=ag.out;omega);refine bodyPost_ret (v:=.tuple #[.agg #[.slice A s.cells.length c,.slice B s.tin.length d,.slice D s.tout.length e],.int .i64 0,.int .i64 3,.slice none 0 0]) (by simp[results,Tryz.results9,go_sem,t0,t1,t2]) rfl ?_;exact⟨none,0,_,rfl,nU.out.later bO,fun i hi=>absurd hi (by simp),Nat.le_refl _,bO,fun h=>by cases h⟩
 ·have rC:=zh (show Calls Tryz.prog 20 #[.agg #[.slice A1 p.vs.length c1,.slice A2 p.prs.length c2,.int .u8 p.m.k,.int .i64 p.m.n,.string p.m.s,.slice A3 p.m.ks.length c3]] w5 (fun e w'=>∃ A c,e=Ending.returned (.slice A (chkN p) c)/\Below w5.heap.size w5 w') from (zo9 p Any _ w5 (oo.out.later (zka HB2.out (zka HB3.out b5)))).mono (fun e w' ⟨A,c,h1,h2⟩=>⟨A,c,by rw[h1,if_pos hvb],h2⟩));obtain⟨p0,p1,p2,p3,p4,p5⟩:=box6 (zkf aQ.out (zka HB3.out b5));obtain⟨s0,s1,s2⟩:=box3 (zkf aH.out (zka HB3.out b5));go_wp2_with fail;refine rC.out.mono ?_;rintro e6 w6 ⟨AA,cc,rfl,b6⟩;have oW:=zka b5 b6;clear p0 p1 p2 p3 p4 p5 s0 s1 s2 rC;obtain⟨n,hnn⟩:∃ n,chkN p=n:=⟨_,rfl⟩
  rw[hnn];by_cases hn:n=0;rotate_left 1
  ·obtain rfl:R0=(s,0,3,[]):=by rw[<-hR0];unfold resO;rw[if_pos (.inr (by rw[hnn];exact hn))]
   have hn1:(0:Int)<(n:Int):=by omega
   obtain⟨p0,p1,p2,p3,p4,p5⟩:=box6 (zkf aQ.out (zka HB3.out oW));obtain⟨s0,s1,s2⟩:=box3 (zkf aH.out (zka HB3.out oW));have kR:=zkf rz.out oW;have q0:w6.cell? ⟨rb,0,none⟩=some (.slice none 0 0):=zc kR rfl;have q1:w6.cell? ⟨rb,1,none⟩=some (.slice none 0 0):=zc kR rfl;have q2:w6.cell? ⟨rb,2,none⟩=some (.slice none 0 0):=zc kR rfl;have qf:∀ j,w6.frozen? ⟨rb,j,none⟩=false:=fun j=>zf kR;obtain⟨hh,hch⟩:=zn1 (y0:=(.slice A s.cells.length c)) (y1:=(.slice B s.tin.length d)) (y2:=(.slice D s.tout.length e)) kR;have fA:=zh hh;have dU:=zh hch;clear hh hch kR;go_wp2_with fail;obtain⟨w9,bH⟩:∃ x,((w6.setCell ⟨rb,0,none⟩ (.slice A s.cells.length c)).setCell ⟨rb,1,none⟩ (.slice B s.tin.length d)).setCell ⟨rb,2,none⟩ (.slice D s.tout.length e)=x:=⟨_,rfl⟩
   rw[bH] at dU fA ⊢;have t0:w9.cell? ⟨rb,0,none⟩=some (.slice A s.cells.length c):=zc fA.out rfl;have t1:w9.cell? ⟨rb,1,none⟩=some (.slice B s.tin.length d):=zc fA.out rfl;have t2:w9.cell? ⟨rb,2,none⟩=some (.slice D s.tout.length e):=zc fA.out rfl;have bO:=(zka HB2.out (zka HB3.out oW)).trans (dU.out.below (zka HB2.out (zka HB3.out oW)).size fun b e=>by have:=ag.out;omega);refine bodyPost_ret (v:=.tuple #[.agg #[.slice A s.cells.length c,.slice B s.tin.length d,.slice D s.tout.length e],.int .i64 0,.int .i64 3,.slice none 0 0]) (by simp[results,Tryz.results9,go_sem,t0,t1,t2]) rfl ?_;exact⟨none,0,_,rfl,nU.out.later bO,fun i hi=>absurd hi (by simp),Nat.le_refl _,bO,fun h=>by cases h⟩
  subst hn;obtain⟨fb,gX⟩:∃ b,fitB p.vs s=b:=⟨_,rfl⟩
  have hft:=zxG p s A1 A2 A3 c1 c2 c3 _ w6 (oo.out.later (zka HB2.out (zka HB3.out oW))) (nU.out.later (zka HB2.out (zka HB3.out oW)));rw[gX] at hft;have mJ:=zh hft;clear hft;obtain⟨p0,p1,p2,p3,p4,p5⟩:=box6 (zkf aQ.out (zka HB3.out oW));obtain⟨s0,s1,s2⟩:=box3 (zkf aH.out (zka HB3.out oW));go_wp2_with fail;refine mJ.out.mono ?_;rintro e7 w7 ⟨rfl,b7⟩;have nS:=zka oW b7;clear mJ p0 p1 p2 p3 p4 p5 s0 s1 s2
  cases fb
  ·obtain rfl:R0=(s,0,20,[]):=by rw[<-hR0];unfold resO;rw[if_neg (by rw[hvb,hnn];simp),if_pos gX]
   obtain⟨p0,p1,p2,p3,p4,p5⟩:=box6 (zkf aQ.out (zka HB3.out nS));obtain⟨s0,s1,s2⟩:=box3 (zkf aH.out (zka HB3.out nS));have kR:=zkf rz.out nS;have q0:w7.cell? ⟨rb,0,none⟩=some (.slice none 0 0):=zc kR rfl;have q1:w7.cell? ⟨rb,1,none⟩=some (.slice none 0 0):=zc kR rfl;have q2:w7.cell? ⟨rb,2,none⟩=some (.slice none 0 0):=zc kR rfl;have qf:∀ j,w7.frozen? ⟨rb,j,none⟩=false:=fun j=>zf kR;obtain⟨hh,hch⟩:=zn1 (y0:=(.slice A s.cells.length c)) (y1:=(.slice B s.tin.length d)) (y2:=(.slice D s.tout.length e)) kR;have fA:=zh hh;have dU:=zh hch;clear hh hch kR;go_wp2_with fail;obtain⟨w9,bH⟩:∃ x,((w7.setCell ⟨rb,0,none⟩ (.slice A s.cells.length c)).setCell ⟨rb,1,none⟩ (.slice B s.tin.length d)).setCell ⟨rb,2,none⟩ (.slice D s.tout.length e)=x:=⟨_,rfl⟩
   rw[bH] at dU fA ⊢;have t0:w9.cell? ⟨rb,0,none⟩=some (.slice A s.cells.length c):=zc fA.out rfl;have t1:w9.cell? ⟨rb,1,none⟩=some (.slice B s.tin.length d):=zc fA.out rfl;have t2:w9.cell? ⟨rb,2,none⟩=some (.slice D s.tout.length e):=zc fA.out rfl;have bO:=(zka HB2.out (zka HB3.out nS)).trans (dU.out.below (zka HB2.out (zka HB3.out nS)).size fun b e=>by have:=ag.out;omega);refine bodyPost_ret (v:=.tuple #[.agg #[.slice A s.cells.length c,.slice B s.tin.length d,.slice D s.tout.length e],.int .i64 0,.int .i64 20,.slice none 0 0]) (by simp[results,Tryz.results9,go_sem,t0,t1,t2]) rfl ?_;exact⟨none,0,_,rfl,nU.out.later bO,fun i hi=>absurd hi (by simp),Nat.le_refl _,bO,fun h=>by cases h⟩
  have hdo:=zwY p s F g back _ _ w7 (oo.out.later (zka HB2.out (zka HB3.out nS))) (nU.out.later (zka HB2.out (zka HB3.out nS))) hvb hnn gX hF jm hg;rw[show outR s (runO p.prs F g back p.m ⟨newS p.vs s,0,List.replicate p.prs.length 0⟩)=R0 by rw[<-hR0];unfold resO;rw[if_neg (by rw[hvb,hnn];simp),if_neg (by rw[gX];simp)]] at hdo;have xg:=zh hdo;clear hdo hR0;obtain⟨p0,p1,p2,p3,p4,p5⟩:=box6 (zkf aQ.out (zka HB3.out nS));obtain⟨s0,s1,s2⟩:=box3 (zkf aH.out (zka HB3.out nS));go_wp2_with fail;refine xg.out.mono ?_;rintro e8 w8 ⟨A8,c8,v8,rfl,hsv8,hro8,hle8,b8,hn8⟩;clear xg p0 p1 p2 p3 p4 p5 s0 s1 s2;have b38:=zka nS b8;have hni:¬ IntB w8 rb:=fun h=>by
   obtain⟨cs,E,f,o,x,h1,h2⟩:=h;rw[zkf rz.out b38] at h1;injection h1 with h1;injection h1 with h1;subst h1
   match o,h2 with
   | 0,h2=>simp at h2
   | 1,h2=>simp at h2
   | 2,h2=>simp at h2
   | q+3,h2=>simp at h2
  have hrw7:rb<w7.heap.size:=zku (zkf rz.out nS);have HSV8:=zh hsv8;have HRO8:=zh hro8;obtain⟨A9,c9,B9,d9,D9,g9,rfl,-⟩:=hsv8;obtain⟨S0,n0,e0,l0⟩:=R0;dsimp only at HSV8 HRO8 hle8 ⊢;have ka:=heap_alloc_new w8 (.cells #[.slice A9 S0.cells.length c9,.slice B9 S0.tin.length d9,.slice D9 S0.tout.length g9] 32);have dG:=zkc (Below.refl w8.heap.size w8) (.cells #[.slice A9 S0.cells.length c9,.slice B9 S0.tin.length d9,.slice D9 S0.tout.length g9] 32);clear hro8;go_upto_region 6 with fail;obtain⟨wa,gL⟩:∃ x,w8.alloc (.cells #[.slice A9 S0.cells.length c9,.slice B9 S0.tin.length d9,.slice D9 S0.tout.length g9] 32)=x:=⟨_,rfl⟩
  obtain⟨ab,hab⟩:∃ x,w8.heap.size=x:=⟨_,rfl⟩
  rw[gL] at ka dG ⊢;rw[hab] at ka
  try rw[hab]
  have y0:wa.cell? ⟨ab,0,none⟩=some (.slice A9 S0.cells.length c9):=zc ka rfl;have y1:wa.cell? ⟨ab,1,none⟩=some (.slice B9 S0.tin.length d9):=zc ka rfl;have y2:wa.cell? ⟨ab,2,none⟩=some (.slice D9 S0.tout.length g9):=zc ka rfl;have tO:=zka b38 dG;have dJ:=zh dG;clear ka gL hab dG;have kR:=zkf rz.out tO;have q0:wa.cell? ⟨rb,0,none⟩=some (.slice none 0 0):=zc kR rfl;have q1:wa.cell? ⟨rb,1,none⟩=some (.slice none 0 0):=zc kR rfl;have q2:wa.cell? ⟨rb,2,none⟩=some (.slice none 0 0):=zc kR rfl;have qf:∀ j,wa.frozen? ⟨rb,j,none⟩=false:=fun j=>zf kR;obtain⟨hh,hch⟩:=zn1 (y0:=(.slice A9 S0.cells.length c9)) (y1:=(.slice B9 S0.tin.length d9)) (y2:=(.slice D9 S0.tout.length g9)) kR;have fA:=zh hh;have dU:=zh hch;clear hh hch kR;go_wp2_with fail
  obtain⟨w9,bH⟩:∃ x,((wa.setCell ⟨rb,0,none⟩ (.slice A9 S0.cells.length c9)).setCell ⟨rb,1,none⟩ (.slice B9 S0.tin.length d9)).setCell ⟨rb,2,none⟩ (.slice D9 S0.tout.length g9)=x:=⟨_,rfl⟩
  rw[bH] at dU fA ⊢;have t0:w9.cell? ⟨rb,0,none⟩=some (.slice A9 S0.cells.length c9):=zc fA.out rfl;have t1:w9.cell? ⟨rb,1,none⟩=some (.slice B9 S0.tin.length d9):=zc fA.out rfl;have t2:w9.cell? ⟨rb,2,none⟩=some (.slice D9 S0.tout.length g9):=zc fA.out rfl;have bO:=(zka HB2.out (zka HB3.out tO)).trans (dU.out.below (zka HB2.out (zka HB3.out tO)).size fun b e=>by have:=ag.out;omega);refine bodyPost_ret (v:=.tuple #[.agg #[.slice A9 S0.cells.length c9,.slice B9 S0.tin.length d9,.slice D9 S0.tout.length g9],.int .i64 (n0:Int),.int .i64 e0,.slice A8 l0.length c8]) (by simp[results,Tryz.results9,go_sem,t0,t1,t2]) rfl ?_;have hkk:∀ b,b≠rb->b<w8.heap.size->w9.heap[b]?=w8.heap[b]?:=fun b h1 h2=>(dU.out.block b (Nat.lt_of_lt_of_le h2 dJ.out.size) h1).trans (dJ.out.block b h2)
  exact⟨A8,c8,_,rfl,HSV8.out.keep (fun _ _ _=>trivial) (fun q hq h2=>hkk q (fun e=>hq.elim (fun h=>by omega) fun h=>hni (e▸h)) h2),HRO8.out.keep (fun _ _ _=>trivial) (fun q hq h2=>hkk q (fun e=>hni (e▸hq)) h2),hle8,bO,hn8⟩
theorem SmalX.sm {p:PG} {s:SS} {F:Int} (h:Smal p s F):s.Sm :=
 ⟨by have:=h.cells;omega,fun l hl=>by have:=h.row l hl;omega,by have:=h.tin;omega,by have:=h.tout;omega⟩
theorem zsl {p:PG} {s:SS} {F:Int} {g:Nat} {back:Bool} {R:SS×Nat×Int×List Nat} (h:resO p s F g back=R) (he:R.2.2.1≠0):R.1=s:=by
 subst h;unfold resO at he ⊢
 split
 ·rfl
 ·rename_i h1;rw[if_neg h1] at he
  split
  ·rfl
  ·rename_i h2;rw[if_neg h2] at he
   cases hx:runO p.prs F g back p.m ⟨newS p.vs s,0,List.replicate p.prs.length 0⟩ with
   | ok r=>rw[hx] at he;exact absurd rfl he
   | err e=>rfl
   | gas=>rfl
theorem zw3 {p:PG} {s:SS} {F:Int} {g:Nat} {back:Bool} {S0:SS} {n0:Nat} {e0:Int} {l0:List Nat} (hs:s.Sm) (h:resO p s F g back=(S0,n0,e0,l0)) (hl:LimR (S0,n0,e0,l0)) (hn:e0=0->S0.cells.length<=1000):S0.Sm:=by
 by_cases he:e0=0
 ·obtain⟨-,h2⟩:=hl;obtain⟨h3,h4,h5,h6⟩:=h2 he;exact⟨by have:=hn he;omega,fun l hl=>by have:=h4 l hl;omega,by simp only at h5 ⊢;omega,by simp only at h6 ⊢;omega⟩
 ·have:=zsl h he;simp only at this;rw[this];exact hs
theorem zyd (p:PG) (s:SS) (F:Int) (g:Nat) (v sv:Value) (W:World) (hp:PV W Any p v) (hs:SV W Any s sv) (hcl:s.cells.length<=5864062014800) (hF:I64 F) (jm:F<=1000000) (hg:F.toNat*2000+2000<=g) :
  Calls Tryz.prog 12 #[v,sv,.int .i64 F] W (ResP W (resO p s F g false)):=by
 have AQ:=zh hp;have Az:=zh hs;obtain⟨A1,c1,A2,c2,A3,c3,rfl,dK⟩:=hp;obtain⟨A,c,B,d,D,e,rfl,hr1,hr2,hr3,hc1,hc2,hc3,hl1,hl2,hl3,hl4⟩:=hs;have HST:=zh (fun w' (hb:Below W.heap.size W w')=>zye p s F g false _ _ w' (AQ.out.later hb) (Az.out.later hb) hcl hF jm hg);have hb3:=zkc (zkc (zkc (Below.refl W.heap.size W) (.cells #[.slice A1 p.vs.length c1,.slice A2 p.prs.length c2,.int .u8 p.m.k,.int .i64 p.m.n,.string p.m.s,.slice A3 p.m.ks.length c3] 28)) (.cells #[.slice A s.cells.length c,.slice B s.tin.length d,.slice D s.tout.length e] 32)) (.cells #[.slice none 0 0,.slice none 0 0,.slice none 0 0,.int .i64 0,.int .i64 0] 37)
 have k2:=heap_alloc_new ((W.alloc (.cells #[.slice A1 p.vs.length c1,.slice A2 p.prs.length c2,.int .u8 p.m.k,.int .i64 p.m.n,.string p.m.s,.slice A3 p.m.ks.length c3] 28)).alloc (.cells #[.slice A s.cells.length c,.slice B s.tin.length d,.slice D s.tout.length e] 32)) (.cells #[.slice none 0 0,.slice none 0 0,.slice none 0 0,.int .i64 0,.int .i64 0] 37);simp only[World.size_alloc] at k2;obtain⟨Re,hRe⟩:∃ R,resO p s F g false=R:=⟨_,rfl⟩
 rw[hRe] at HST;have HR:=zh hRe;have HB3:=zh hb3;have df:=zh k2;have hz3:W.heap.size+3<=(((W.alloc (.cells #[.slice A1 p.vs.length c1,.slice A2 p.prs.length c2,.int .u8 p.m.k,.int .i64 p.m.n,.string p.m.s,.slice A3 p.m.ks.length c3] 28)).alloc (.cells #[.slice A s.cells.length c,.slice B s.tin.length d,.slice D s.tout.length e] 32)).alloc (.cells #[.slice none 0 0,.slice none 0 0,.slice none 0 0,.int .i64 0,.int .i64 0] 37)).heap.size:=by simp
 rw[hRe];clear dK hr1 hr2 hr3 hRe hb3 k2 hl1 hl2 hl3 hl4 hc1 hc2 hc3;go_enter Tryz.func12,Tryz.ntmps12;go_wp2_with fail;refine(HST.out _ HB3.out).mono ?_;rintro e9 w9 ⟨A9,c9,v1,v2,v3,rfl,bG,ha9,hcc9,bO,ny⟩;have mH:=zh ny;clear ny;have HA9:=zh ha9;have bN:=zh hcc9;clear ha9 hcc9;obtain⟨A4,c4,B5,d5,D6,e6,h6⟩:=bG.slices;injection h6 with h6;injection h6 with h6;injection h6 with h6 h7;injection h7 with h7 h8;injection h8 with h8 _;subst h6 h7 h8;have gP:=zh bG;have dV:=zh bO;have aN:=zkf df.out bO;have x0:w9.cell? ⟨W.heap.size+1+1,0,none⟩=some (.slice none 0 0):=zc aN rfl;have x1:w9.cell? ⟨W.heap.size+1+1,1,none⟩=some (.slice none 0 0):=zc aN rfl;have x2:w9.cell? ⟨W.heap.size+1+1,2,none⟩=some (.slice none 0 0):=zc aN rfl;have x3:w9.cell? ⟨W.heap.size+1+1,3,none⟩=some (.int .i64 0):=zc aN rfl;have x4:w9.cell? ⟨W.heap.size+1+1,4,none⟩=some (.int .i64 0):=zc aN rfl
 have xf:∀ o,w9.frozen? ⟨W.heap.size+1+1,o,none⟩=false:=fun _=>zf aN;have Bu:W.heap.size+1+1<w9.heap.size:=zku aN;have jD:=zh aN;clear bG bO aN;go_wp2_with fail;obtain⟨hh,hch⟩:=set5 (u0:=.slice A4 Re.1.cells.length c4) (u1:=.slice B5 Re.1.tin.length d5) (u2:=.slice D6 Re.1.tout.length e6) (u3:=.int .i64 (Re.2.1:Int)) (u4:=.int .i64 Re.2.2.1) jD.out;obtain⟨bW,fQ⟩:∃ zz,(((((w9.setCell ⟨W.heap.size+1+1,0,none⟩ (.slice A4 Re.1.cells.length c4)).setCell ⟨W.heap.size+1+1,1,none⟩ (.slice B5 Re.1.tin.length d5)).setCell ⟨W.heap.size+1+1,2,none⟩ (.slice D6 Re.1.tout.length e6)).setCell ⟨W.heap.size+1+1,3,none⟩ (.int .i64 (Re.2.1:Int))).setCell ⟨W.heap.size+1+1,4,none⟩ (.int .i64 Re.2.2.1))=zz:=⟨_,rfl⟩
 rw[fQ] at hh hch ⊢;obtain⟨bq,dA⟩:∃ zz,bW=zz:=⟨_,rfl⟩
 rw[dA] at hh hch ⊢;have t0:bq.cell? ⟨W.heap.size+1+1,0,none⟩=some (.slice A4 Re.1.cells.length c4):=(zc hh rfl)
 have t1:bq.cell? ⟨W.heap.size+1+1,1,none⟩=some (.slice B5 Re.1.tin.length d5):=(zc hh rfl)
 have t2:bq.cell? ⟨W.heap.size+1+1,2,none⟩=some (.slice D6 Re.1.tout.length e6):=(zc hh rfl)
 have t3:bq.cell? ⟨W.heap.size+1+1,3,none⟩=some (.int .i64 (Re.2.1:Int)):=(zc hh rfl)
 have t4:bq.cell? ⟨W.heap.size+1+1,4,none⟩=some (.int .i64 Re.2.2.1):=(zc hh rfl)
 refine bodyPost_ret (v :=  .tuple #[.slice A9 Re.2.2.2.length c9,.agg #[.slice A4 Re.1.cells.length c4,.slice B5 Re.1.tin.length d5,.slice D6 Re.1.tout.length e6,.int .i64 (Re.2.1:Int),.int .i64 Re.2.2.1]]) (by simp[results,Tryz.results12,go_sem,t0,t1,t2,t3,t4]) rfl ?_;have hz33:=hz3;have nM:Below W.heap.size W w9:=zka HB3.out dV.out;have nI:Chg (fun b=>b=W.heap.size+1+1) w9 bq:=hch;have kY:=gP.out.chg nI fun b hb=>by omega
 have lG:=nM.trans (nI.below nM.size fun b hb=>by omega);have hrow:=HA9.out.keep (w':=bq) (S':=fun b=>W.heap.size<=b) (fun b hb _=>by omega) (fun b hb hlt=>nI.block b hlt (by omega));exact⟨_,_,_,_,_,rfl,kY.lower (by omega),hrow,bN.out,lG,mH.out⟩
def EntO (m:Nat):Out->Prop
 | .ok r=>r.ent.length=m
 | _=>True
section
variable {m:Nat} {o:Out} {F:Int}
theorem EntO.bind {f:RS->Out} (h:EntO m o) (hf:∀ r,r.ent.length=m->EntO m (f r)):EntO m (o.bind f):=by
 cases o
 case ok r=>exact hf r h
 all_goals trivial
theorem EntO.step {r:RS} {f:RS->Out} (hf:True->EntO m (f { r with n:=r.n+1 })):EntO m ((zkq F r).bind f):=by
 unfold zkq
 split
 ·trivial
 ·exact hf trivial
theorem EntO.store {r:RS} {R:Int×ST} (h:r.ent.length=m):EntO m (zki r R):=by
 unfold zki
 split
 ·trivial
 ·exact h
theorem EntO.val {r:RS} {t:T} {f:Int->RS->Out} (h:∀ x,EntO m (f x r)):EntO m (valO t r f):=by
 unfold valO
 split
 ·trivial
 ·exact h _
theorem EntO.holds {r:RS} {t:T} {f:Bool->RS->Out} (h:r.ent.length=m) (hf:∀ b r1,r1.ent.length=m->EntO m (f b r1)):EntO m (zkG F t r f):=by
 unfold zkG;exact .step fun _=>(.val fun x=>hf _ _ h)
theorem EntO.assert {r:RS} {t:T} {b:Bool} (h:r.ent.length=m):EntO m (zkx F t b r):=by
 unfold zkx;refine .holds h fun b1 r1 h1=>?_
 split
 ·exact h1
 ·trivial
theorem EntO.body {f:T->RS->Out} (hf:∀ t r,r.ent.length=m->EntO m (f t r)):∀ (l:List T) (r:RS),r.ent.length=m->EntO m (zk9 f l r)
 | [],_,h=>h
 | t::ts,r,h=>by
  rw[zk9];exact(hf t r h).bind fun r1 h1=>EntO.body hf ts r1 h1
theorem EntO.loop {f:T->RS->Out} {entry test:T} {l1 l2:List T} (hf:∀ t r,r.ent.length=m->EntO m (f t r)):∀ (g:Nat) (r:RS),r.ent.length=m->EntO m (zml F f entry test l1 l2 g r)
 | 0,_,_=>trivial
 | g+1,r,h=>by
  rw[zml];refine(EntO.body hf l1 r h).bind fun r1 h1=>.holds h1 fun b r2 h2=>?_
  split
  ·exact h2
  ·exact(EntO.body hf l2 r2 h2).bind fun r3 h3=>(EntO.assert h3).bind fun r4 h4=>EntO.loop hf g r4 h4
theorem zyc {prs:List PR}:∀ (g:Nat) (back:Bool) (t:T) (r:RS),r.ent.length=m->EntO m (zkr prs F g back t r)
 | 0,_,_,_,_=>trivial
 | g+1,back,t,r,h=>by
  have hb:∀ back (l:List T) r,r.ent.length=m->EntO m (zk9 (zkr prs F g back) l r):=fun back l r h=>EntO.body (fun u r h=>zyc g back u r h) l r h;rw[zkr]
  split
  ·exact .holds h fun yes r1 h1=>(hb _ _ r1 h1).bind fun r2 h2=>.assert h2
  ·split
   ·exact(EntO.assert h).bind fun r1 h1=>.loop (fun u r h=>zyc g back u r h) g r1 h1
   ·split
    ·exact .step fun _=>(.val fun x=>(EntO.store (by exact h)).bind fun r2 h2=>(hb _ _ r2 h2).bind fun r3 h3=>.step fun _=>(.val fun x=>.store (by exact h3)))
    ·split
     ·exact .step fun _=>((EntO.store (by exact h)).bind fun r2 h2=>(hb _ _ r2 h2).bind fun r3 h3=>.step fun _=>.store (by exact h3))
     ·split
      ·split
       ·trivial
       ·exact .step fun _=>((EntO.store (by exact h)).bind fun r2 h2=>EntO.bind (hb _ _ { r2 with ent:=r2.ent.set _ (r2.ent.getD _ 0+1) } (by simpa using h2)) fun r3 h3=>.step fun _=>.store (by exact h3))
      ·exact .step fun _=>.store (by exact h)
end
theorem zyg {p:PG} {s:SS} {F:Int} {g:Nat} {back:Bool} {R:SS×Nat×Int×List Nat} (h:resO p s F g back=R):R.2.2.2.length<=p.prs.length:=by
 subst h;unfold resO
 split
 ·exact Nat.zero_le _
 ·split
  ·exact Nat.zero_le _
  ·have h1:EntO p.prs.length (runO p.prs F g back p.m ⟨newS p.vs s,0,List.replicate p.prs.length 0⟩):=EntO.body (fun u r h=>zyc g back u r h) _ _ (by simp);revert h1
   cases runO p.prs F g back p.m ⟨newS p.vs s,0,List.replicate p.prs.length 0⟩ with
   | ok r=>exact fun h1=>Nat.le_of_eq h1
   | err e=>exact fun _=>Nat.zero_le _
   | gas=>exact fun _=>Nat.zero_le _
theorem zyf (p:PG) (s:SS) (F:Int) (v sv:Value) (W:World) (hp:PV W Any p v) (hs:SV W Any s sv) (hF:I64 F) :
  Calls Tryz.prog 5 #[v,sv,.int .i64 F] W fun e W'=>e=.returned (.bool true)/\Below W.heap.size W W':=by
 have oo:=zh hp;have nU:=zh hs;obtain⟨A1,c1,A2,c2,A3,c3,rfl,dK⟩:=hp;obtain⟨A,c,B,d,D,e,rfl,hr1,hr2,hr3,hc1,hc2,hc3,hl1,hl2,hl3,hl4⟩:=hs;have hb2:=zkc (zkc (Below.refl W.heap.size W) (.cells #[.slice A1 p.vs.length c1,.slice A2 p.prs.length c2,.int .u8 p.m.k,.int .i64 p.m.n,.string p.m.s,.slice A3 p.m.ks.length c3] 28)) (.cells #[.slice A s.cells.length c,.slice B s.tin.length d,.slice D s.tout.length e] 32);have k0:=zkn (heap_alloc_new W (.cells #[.slice A1 p.vs.length c1,.slice A2 p.prs.length c2,.int .u8 p.m.k,.int .i64 p.m.n,.string p.m.s,.slice A3 p.m.ks.length c3] 28)) (.cells #[.slice A s.cells.length c,.slice B s.tin.length d,.slice D s.tout.length e] 32)
 have k1:=heap_alloc_new (W.alloc (.cells #[.slice A1 p.vs.length c1,.slice A2 p.prs.length c2,.int .u8 p.m.k,.int .i64 p.m.n,.string p.m.s,.slice A3 p.m.ks.length c3] 28)) (.cells #[.slice A s.cells.length c,.slice B s.tin.length d,.slice D s.tout.length e] 32);rw[World.size_alloc] at k1;obtain⟨w2,hw2⟩:∃ x,(W.alloc (.cells #[.slice A1 p.vs.length c1,.slice A2 p.prs.length c2,.int .u8 p.m.k,.int .i64 p.m.n,.string p.m.s,.slice A3 p.m.ks.length c3] 28)).alloc (.cells #[.slice A s.cells.length c,.slice B s.tin.length d,.slice D s.tout.length e] 32)=x:=⟨_,rfl⟩
 rw[hw2] at hb2 k0 k1;have HB2:=zh hb2;have aQ:=zh k0;have aH:=zh k1;clear dK hr1 hr2 hr3 hb2 k0 k1 hc1 hc2 hc3 hl1 hl2 hl3 hl4;have HAW:=zh (zqc w2);have HGR:=zh (fun w' (hb:Below w2.heap.size w2 w')=>zsN p s F _ _ w' (oo.out.later (zka HB2.out hb)) (nU.out.later (zka HB2.out hb)) hF);go_enter Tryz.func5,Tryz.ntmps5;go_wp2_with fail;refine HAW.out.mono ?_;rintro e3 w3 ⟨rfl,b3⟩;clear hw2 HAW;obtain⟨p0,p1,p2,p3,p4,p5⟩:=box6 (zkf aQ.out b3);obtain⟨s0,s1,s2⟩:=box3 (zkf aH.out b3);go_wp2_with fail;refine(HGR.out _ b3).mono ?_;rintro e4 w4 ⟨gb,rfl,hgb,b4⟩;have vz:=zka b3 b4;clear p0 p1 p2 p3 p4 p5 s0 s1 s2 b3 b4 HGR
 cases gb
 rotate_left 1
 ·go_wp2_with fail;refine(zqc w4).mono ?_;rintro e5 w5 ⟨rfl,b5⟩;clear hgb;go_wp2_with fail;go_ret;exact⟨rfl,zka HB2.out (zka vz b5)⟩
 have vD:=zh (hgb rfl);have fK:=zh (show s.cells.length<=5864062014800 by have:=vD.out.cells;omega);have jm:F<=1000000:=by have:=vD.out.F;omega
 have BB:F.toNat*2000+2000<=5000000:=by have:=vD.out.F;omega
 clear hgb;obtain⟨⟨S0,n0,e0,l0⟩,hR0⟩:∃ R,resO p s F 5000000 false=R:=⟨_,rfl⟩
 have hll:l0.length<=p.prs.length:=zyg hR0;have hlp:p.prs.length<=1000:=by have:=vD.out.prs;omega
 go_upto_region 3 with fail;obtain⟨p0,p1,p2,p3,p4,p5⟩:=box6 (zkf aQ.out vz);obtain⟨s0,s1,s2⟩:=box3 (zkf aH.out vz);have hcon:=zyd p s F 5000000 _ _ _ (oo.out.later (zka HB2.out vz)) (nU.out.later (zka HB2.out vz)) fK.out hF jm BB;rw[hR0] at hcon;have Br:=zh hcon;clear hcon;go_wp2_with fail;refine Br.out.mono ?_;rintro e5 w5 ⟨A0,c0,v1,v2,v3,rfl,av,BA,hcc5,hbq5,hl5⟩;dsimp only at av BA hcc5 ⊢;obtain⟨A5,c5,B5,d5,D5,g5,hv⟩:=av.slices;injection hv with hv;simp only[Array.mk.injEq,List.cons.injEq,and_true] at hv;obtain⟨rfl,rfl,rfl⟩:=hv;have dZ:=zh av;have qC:=zh hl5;have HA5:=zh BA;have hq5:=zka vz hbq5;clear p0 p1 p2 p3 p4 p5 s0 s1 s2 av hl5 BA hcc5 Br;go_upto_region 4 with fail;have ka:=heap_alloc_new w5 (.cells #[.slice A5 S0.cells.length c5,.slice B5 S0.tin.length d5,.slice D5 S0.tout.length g5,.int .i64 (n0:Int),.int .i64 e0] 37)
 have dG:=zkc (Below.refl w5.heap.size w5) (.cells #[.slice A5 S0.cells.length c5,.slice B5 S0.tin.length d5,.slice D5 S0.tout.length g5,.int .i64 (n0:Int),.int .i64 e0] 37);obtain⟨w6,ze⟩:∃ x,w5.alloc (.cells #[.slice A5 S0.cells.length c5,.slice B5 S0.tin.length d5,.slice D5 S0.tout.length g5,.int .i64 (n0:Int),.int .i64 e0] 37)=x:=⟨_,rfl⟩
 obtain⟨vX,za⟩:∃ x,w5.heap.size=x:=⟨_,rfl⟩
 rw[ze] at ka dG;rw[za] at ka;rw[ze,za];clear ze za;have wy:=zka hq5 dG;have jR:=zh ka;have HBA5:=zh dG;clear ka dG;obtain⟨p0,p1,p2,p3,p4,p5⟩:=box6 (zkf aQ.out wy);obtain⟨s0,s1,s2⟩:=box3 (zkf aH.out wy);have hcon:=zoB p s F 5000000 _ _ _ (oo.out.later (zka HB2.out wy)) (nU.out.later (zka HB2.out wy)) fK.out hF jm BB;rw[hR0] at hcon;have Br:=zh hcon;clear hcon;go_wp2_with fail;refine Br.out.mono ?_;rintro e7 w7 ⟨v1,v2,v3,rfl,gW,Bv,hl7⟩;obtain⟨A7,c7,B7,d7,D7,g7,hv⟩:=gW.slices;injection hv with hv;simp only[Array.mk.injEq,List.cons.injEq,and_true] at hv;obtain⟨rfl,rfl,rfl⟩:=hv;have gH:=zh gW;have BD:=zh hl7;have hq7:=zka wy Bv;clear p0 p1 p2 p3 p4 p5 s0 s1 s2 gW hl7 Br;dsimp only at gH BD ⊢;go_upto_region 5 with fail
 have ka:=heap_alloc_new w7 (.cells #[.slice A7 S0.cells.length c7,.slice B7 S0.tin.length d7,.slice D7 S0.tout.length g7,.int .i64 (n0:Int),.int .i64 e0] 37);have dG:=zkc (Below.refl w7.heap.size w7) (.cells #[.slice A7 S0.cells.length c7,.slice B7 S0.tin.length d7,.slice D7 S0.tout.length g7,.int .i64 (n0:Int),.int .i64 e0] 37);obtain⟨w8,ze⟩:∃ x,w7.alloc (.cells #[.slice A7 S0.cells.length c7,.slice B7 S0.tin.length d7,.slice D7 S0.tout.length g7,.int .i64 (n0:Int),.int .i64 e0] 37)=x:=⟨_,rfl⟩
 obtain⟨Bw,za⟩:∃ x,w7.heap.size=x:=⟨_,rfl⟩
 rw[ze] at ka dG;rw[za] at ka;rw[ze,za];clear ze za;have hq8:=zka hq7 dG;have qF:=zh ka;have HBA7:=zh dG;have HB58:=zh (zka HBA5.out (zka Bv dG));have HK58:=zh (zkf jR.out (zka Bv dG));clear ka dG;have gL:=zuc p s F 5000000 false _ _ w8 (oo.out.later (zka HB2.out hq8)) (nU.out.later (zka HB2.out hq8)) hF jm BB;rw[hR0] at gL;have HWA:=zh gL;have uB:=zh hR0;clear gL hR0;obtain⟨p0,p1,p2,p3,p4,p5⟩:=box6 (zkf aQ.out hq8);obtain⟨s0,s1,s2⟩:=box3 (zkf aH.out hq8);go_wp2_with fail;refine HWA.out.mono ?_;rintro e9 w9 ⟨A9,c9,v9,rfl,hsv9,Bt,hle9,b9,hn9⟩;clear HWA p0 p1 p2 p3 p4 p5 s0 s1 s2;dsimp only at hsv9 Bt hle9 hn9 ⊢;have HRO9:=zh Bt;obtain⟨A1',c1',B1',d1',D1',g1',rfl,-⟩:=hsv9;have hk5:=zkf HK58.out b9;have wD:=zkf qF.out b9
 have dG:=zkc (Below.refl w9.heap.size w9) (.cells #[.slice A1' S0.cells.length c1',.slice B1' S0.tin.length d1',.slice D1' S0.tout.length g1'] 32);go_upto_region 6 with fail;obtain⟨wa,gL⟩:∃ x,w9.alloc (.cells #[.slice A1' S0.cells.length c1',.slice B1' S0.tin.length d1',.slice D1' S0.tout.length g1'] 32)=x:=⟨_,rfl⟩
 obtain⟨ab,hab⟩:∃ x,w9.heap.size=x:=⟨_,rfl⟩
 rw[gL] at dG ⊢
 try rw[hab]
 have lg:=zkf hk5 dG;have Bq:=zkf wD dG;have x0:wa.cell? ⟨vX,0,none⟩=some (.slice A5 S0.cells.length c5):=zc lg rfl;have x1:wa.cell? ⟨vX,1,none⟩=some (.slice B5 S0.tin.length d5):=zc lg rfl;have x2:wa.cell? ⟨vX,2,none⟩=some (.slice D5 S0.tout.length g5):=zc lg rfl;have x3:wa.cell? ⟨vX,3,none⟩=some (.int .i64 (n0:Int)):=zc lg rfl;have x4:wa.cell? ⟨vX,4,none⟩=some (.int .i64 e0):=zc lg rfl;have y0:wa.cell? ⟨Bw,0,none⟩=some (.slice A7 S0.cells.length c7):=zc Bq rfl;have y1:wa.cell? ⟨Bw,1,none⟩=some (.slice B7 S0.tin.length d7):=zc Bq rfl;have y2:wa.cell? ⟨Bw,2,none⟩=some (.slice D7 S0.tout.length g7):=zc Bq rfl;have y3:wa.cell? ⟨Bw,3,none⟩=some (.int .i64 (n0:Int)):=zc Bq rfl;have y4:wa.cell? ⟨Bw,4,none⟩=some (.int .i64 e0):=zc Bq rfl;have hsm:S0.Sm:=zw3 (SmalX.sm vD.out) uB.out qC.out hn9;have Bz:=zka b9 dG;have BC:=zka HB58.out Bz
 have Bh:=zh (zqO S0 S0 _ _ wa ((dZ.out.later BC).sv hsm.lim) ((gH.out.later (zka HBA7.out Bz)).sv hsm.lim) hsm hsm);have hee:eqS S0 S0=true:=by simp[eqS]
 rw[hee] at Bh;have hqa:=zka hq8 Bz;have HA6:=zh (HA5.out.later BC);have iK:=zh (HRO9.out.later dG);clear hk5 lg wD Bq dG hsm hee gL hab Bt hle9 Bz BC HA5 HRO9 b9;go_wp2_with fail;refine Bh.out.mono ?_;rintro e13 uX ⟨rfl,b13⟩;clear x0 x1 x2 x3 x4 y0 y1 y2 y3 y4 Bh;have HA:=zh (HA6.out.later b13);have HR:=zh (iK.out.later b13);have HQ:=zh (zka hqa b13);clear HA6 iK hqa b13;obtain⟨nl,hnl⟩:∃ n,l0.length=n:=⟨_,rfl⟩
 have vK:=zh (show(l0.map Int.ofNat).length=nl by rw[List.length_map,hnl]);rw[hnl] at hll ⊢;have hl1:nl<=1000:=by omega
 clear hll hlp hnl;go_wp2_with fail
 go_loopw [79] (fun i wr=>∃ j:Nat,j<=nl/\i=.int .i64 j/\Hid (Below uX.heap.size uX wr)) (fun i _=>nl-(intOf i).toNat)
 case atStart=>exact⟨0,Nat.zero_le _,rfl,zh (Below.refl _ _)⟩
 case round =>
  obtain⟨j,hj,rfl,HB⟩:=hrel;by_cases hlt:j<nl
  ·have hj1:(j:Int)<(nl:Int):=by omega
   have hj0:(0:Int)<=(j:Int):=by omega
   have hj2:IntKind.i64.wrap ((j:Int)+1)=(j:Int)+1:=IntWalk.i64_in _ (by omega);obtain⟨a,rfl,u0⟩:=(HA.out.later HB.out).nd (i:=j) (by rw[vK.out];exact hlt);obtain⟨b,rfl,u1⟩:=(HR.out.later HB.out).nd (i:=j) (by rw[vK.out];exact hlt);obtain⟨x,hx⟩:∃ x,(l0.map Int.ofNat).getD j 0=x:=⟨_,rfl⟩
   rw[hx] at u0 u1;clear hx;go_upto_region 11 with fail
   go_quiet (fail)
   go_wp2_with fail
   go_roundw
   case rel=>exact⟨j+1,by omega,by go_num,zh (zka HB.out (zlm (Below.refl _ _) nq))⟩
   case measure=>simp[intOf];omega
  ·have hj1:¬ (j:Int)<(nl:Int):=by omega
   go_wp2_with fail;go_ret;exact⟨rfl,zka HB2.out (zka HQ.out HB.out)⟩
end Go.Proofs.YtmbbaccjcekhkaaGreat
namespace Go.Proofs.YtmbbaccjcekhkaaGreat
open Go.RowKit Go.ChangeShapes Go.WideShapes Go.ChangeAt Go.Deep
theorem znr:Tryz.prog.cellsOf 26=4:=by kernel_rfl
theorem ztl:Tryz.prog.bytesOf 26=56:=by kernel_rfl
theorem zwy:Tryz.prog.cellsOf 5=1:=by kernel_rfl
theorem zrt:Tryz.prog.cellsOf 3=1:=by kernel_rfl
theorem zu1:Tryz.prog.cellsOf 9=1:=by kernel_rfl
theorem ztk:Tryz.prog.cellsOf 24=1:=by kernel_rfl
theorem zmj {H:Type} {P:Program} {e:TypeId}:∀ {l:List (DataW H)} {d:DataW H},d∈l->∀ n∈d.weights P e,n∈DataW.weightsAll P e l
 | d0::l,d,hd,n,hn=>by
  simp only[DataW.weightsAll,List.mem_append];rcases List.mem_cons.1 hd with rfl|hd
  ·exact .inl hn
  ·exact .inr (zmj hd n hn)
theorem znj {H:Type}:∀ (ks:List T) (ds:List (DataW H)),ks.length=ds.length->(∀ i (h:i<ks.length) (h':i<ds.length),size ks[i]<=Rows.uptoBulk ds[i])->zld ks<=Rows.uptoBulkAll ds
 | [],[],_,_=>by simp[zld]
 | t::ts,d::ds,hl,h=>by
  have h0:=h 0 (Nat.zero_lt_succ _) (Nat.zero_lt_succ _);have h1:=znj ts ds (by simpa using hl) (fun i hi hi'=>h (i+1) (Nat.succ_lt_succ hi) (Nat.succ_lt_succ hi'));simp only[List.getElem_cons_zero] at h0;simp only[zld,Rows.uptoBulkAll];omega
 | [],_::_,hl,_=>by simp at hl
 | _::_,[],hl,_=>by simp at hl
section
variable {H:Type} {enc:TypeId×Value->H} {w:World} {held:Bool}
def zeroT':T:=.nd 0 0 ⟨#[]⟩ []
theorem zpQ:∀ (fuel:Nat) (cs:List Value) (x:DataW H×List MemPlace),DataW.trod enc Tryz.prog w 0 (fun _=>true) held fuel 26 cs=some x ->
  (∀ n∈x.1.weights Tryz.prog 26,n<=reachBytes) ->
  ∃ t u0 u1 u2 u3,cs=[u0,u1,u2,u3]/\NV w Any t (.agg #[u0,u1,u2,u3])/\t.ks.length*56<=reachBytes/\size t<=Rows.uptoBulk x.1:=by
 intro fuel
 induction fuel using Nat.strongRecOn with
 | _ fuel ih =>
 intro cs x h hw;have hts:=DataW.trod_struct Tryz.underlying26 h;obtain⟨xs,n,hfu,hx,hcl,hxl,hg⟩:=hts;subst hx;rw[znr] at hcl
 match cs,hcl with
 | [c0,c1,c2,c3],_ =>
 match xs,hxl with
 | [y0,y1,y2,y3],_ =>
 have g0:=hg 0 _ rfl;have g1:=hg 1 _ rfl;have g2:=hg 2 _ rfl;have g3:=hg 3 _ rfl;simp only[zwy,zrt,zu1,ztk,List.drop_zero,List.take_succ_cons,List.take_zero,List.drop_succ_cons,List.getElem?_cons_zero,List.getElem?_cons_succ] at g0 g1 g2 g3;obtain⟨k,e0,e0',wk⟩:=DataW.trod_int Tryz.underlying5 g0;obtain⟨m,e1,zU,wm⟩:=DataW.trod_int Tryz.underlying3 g1;obtain⟨s,e2,e2',ws⟩:=DataW.trod_string Tryz.underlying9 g2;injection e0 with e0;injection e1 with e1;injection e2 with e2;subst e0 e1 e2 e0' zU e2';have hf:Fld k m s:=by
  refine⟨?_,?_,ws⟩
  ·have:=wk;simp[Lit.wf,IntKind.min,IntKind.max,IntKind.signed,IntKind.bits] at this;omega
  ·have:=wm;simp[Lit.wf,IntKind.min,IntKind.max,IntKind.signed,IntKind.bits] at this;omega
 have hsl:=DataW.trod_slice Tryz.underlying24 g3;rcases hsl with⟨e3,e3'⟩|⟨a,len,cap,elems,rest,n',hn',e3,e3',_,hl,hm,hel,hat,hsp,_⟩
 ·injection e3 with e3;subst e3 e3';refine⟨.nd k m s [],_,_,_,_,rfl,NV.shut (ks:=[]) hf (Nat.zero_le _) (Nat.zero_le _) zl3.nil,by simp,?_⟩;simp only[size,zld,List.map_cons,List.map_nil,Rows.uptoBulk];omega
 ·injection e3 with e3;subst e3 e3';obtain⟨hrl,_⟩:=hsp rfl;rw[znr] at hat
  -- what the reach says of this slice,and of its elements
  have hws:∀ q∈DataW.weights Tryz.prog 24 (.slice (elems.map (·.1)) (rest.map (·.1)):DataW H),q<=reachBytes:=by
   intro q hq;refine hw q ?_;simp only[List.map_cons,List.map_nil,DataW.weights,Tryz.underlying26];simp only[DataW.weightsEach,List.map_cons,List.map_nil,List.mem_append];exact .inr (.inr (.inr (.inl hq)))
  simp only[DataW.weights,Tryz.underlying24,ztl] at hws;have hcap:cap*56<=reachBytes:=by
   have:=hws _ (List.mem_cons_self ..);simp only[List.length_map] at this;rw[hel,hrl] at this;rw[show cap=len+(cap-len) by omega];exact this
  have hwe:∀ y∈elems,∀ q∈y.1.weights Tryz.prog 26,q<=reachBytes:=fun y hy q hq =>
   hws q (List.mem_cons_of_mem _ (List.mem_append_left _ (zmj (List.mem_map_of_mem hy) q hq)))
  have key:∀ i (hi:i<elems.length),∃ t u0 u1 u2 u3,w.cells? 0 (a.add (i*4)) 4=some [u0,u1,u2,u3]/\NV w Any t (.agg #[u0,u1,u2,u3])/\size t<=Rows.uptoBulk elems[i].1:=by
   intro i hi;have h1:=hat i (by omega);rw[List.getElem?_eq_getElem hi] at h1;obtain⟨cs',hcs,ht⟩:=Option.bind_eq_some_iff.1 h1;obtain⟨t,u0,u1,u2,u3,rfl,hn,_,hb⟩:=ih n' (by omega) cs' elems[i] ht (hwe _ (List.getElem_mem hi));exact⟨t,u0,u1,u2,u3,hcs,hn,hb⟩
  have hex:∃ ks:List T,ks.length=elems.length/\∀ i (h:i<ks.length) (h':i<elems.length),(∃ u0 u1 u2 u3,w.cells? 0 (a.add (i*4)) 4=some [u0,u1,u2,u3]/\NV w Any ks[i] (.agg #[u0,u1,u2,u3]))/\size ks[i]<=Rows.uptoBulk elems[i].1:=by
   classical
   refine⟨(List.range elems.length).map fun i=>if h:i<elems.length then (key i h).choose else zeroT',by simp,fun i h h'=>?_⟩;simp only[List.getElem_map,List.getElem_range,h',dif_pos];obtain⟨u0,u1,u2,u3,h1,h2,h3⟩:=(key i h').choose_spec;exact⟨⟨u0,u1,u2,u3,h1,h2⟩,h3⟩
  obtain⟨ks,hkl,hks⟩:=hex;have hlen:ks.length=len:=by omega
  have hLK:ks.length<=LK:=by unfold LK;unfold reachBytes at hcap;omega
  refine⟨.nd k m s ks,_,_,_,_,rfl,?_,?_,?_⟩
  ·rw[<-hlen];refine NV.shut hf hLK (by omega) fun i hi=>?_;obtain⟨⟨u0,u1,u2,u3,hc,hn⟩,_⟩:=hks i hi (by omega);obtain⟨_,_,hcell⟩:=World.cells?_some hc;refine⟨a,u0,u1,u2,u3,rfl,trivial,⟨?_,?_,?_,?_⟩,hn⟩
   ·have:=hcell 0 (by omega);simpa[Addr.add] using this
   ·have:=hcell 1 (by omega);simpa[Addr.add] using this
   ·have:=hcell 2 (by omega);simpa[Addr.add] using this
   ·have:=hcell 3 (by omega);simpa[Addr.add] using this
  ·simp only[T.ks_nd];omega
  ·have hb:=znj ks (elems.map (·.1)) (by simp[hkl]) (fun i h h'=>by
    have:=(hks i h (by simpa using h')).2;simpa using this)
   simp only[size,List.map_cons,List.map_nil,Rows.uptoBulk,Rows.uptoBulkAll];omega
end
theorem Tryz.own:ownKnob Tryz.prog.godebug=none:=by kernel_rfl
theorem Tryz.laidOut:laidOutB Tryz.prog=true:=by kernel_rfl
theorem zti:Tryz.prog.cellsOf 48=3:=by kernel_rfl
theorem zwA:Tryz.prog.bytesOf 48=32:=by kernel_rfl
section
variable {H:Type} {enc:TypeId×Value->H} {w:World} {held:Bool}
theorem znV {ty E:TypeId} {n b:Nat} (ht:Tryz.prog.underlying ty=some (.slice E)) (hc:Tryz.prog.cellsOf E=n) (hb:Tryz.prog.bytesOf E=b) {fuel:Nat} {cs:List Value} {x:DataW H×List MemPlace}
  (h:DataW.trod enc Tryz.prog w 0 (fun _=>true) held fuel ty cs=some x) (hw:∀ q∈x.1.weights Tryz.prog ty,q<=reachBytes) :
  cs=[.slice none 0 0]\/∃ a len cap,cs=[.slice (some a) len cap]/\len<=cap/\cap*b<=reachBytes/\∀ i,i<len->∃ cs' y n',w.cells? 0 (a.add (i*n)) n=some cs'/\DataW.trod enc Tryz.prog w 0 (fun _=>true) held n' E cs'=some y/\∀ q∈y.1.weights Tryz.prog E,q<=reachBytes:=by
 have hsl:=DataW.trod_slice ht h;rcases hsl with⟨e3,e3'⟩|⟨a,len,cap,elems,rest,n',hn',e3,e3',_,hl,hm,hel,hat,hsp,_⟩
 ·exact .inl e3
 ·refine .inr ⟨a,len,cap,e3,hl,?_,?_⟩
  ·obtain⟨hrl,_⟩:=hsp rfl;subst e3';simp only[DataW.weights,ht,hb] at hw;have:=hw _ (List.mem_cons_self ..);simp only[List.length_map] at this;rw[hel,hrl] at this;rw[show cap=len+(cap-len) by omega];exact this
  ·intro i hi;subst e3';simp only[DataW.weights,ht,hb] at hw;have hi':i<elems.length:=by omega
   have h1:=hat i (by omega);rw[List.getElem?_eq_getElem hi',hc] at h1;obtain⟨cs',hcs,ht'⟩:=Option.bind_eq_some_iff.1 h1;exact⟨cs',elems[i],n',hcs,ht',fun q hq=>hw q (List.mem_cons_of_mem _ (List.mem_append_left _ (zmj (List.mem_map_of_mem (List.getElem_mem hi')) q hq)))⟩
theorem zwd {fuel:Nat} {cs:List Value} {x:DataW H×List MemPlace} (h:DataW.trod enc Tryz.prog w 0 (fun _=>true) held fuel 48 cs=some x) :
  ∃ v:VD,cs=[.string v.s,.int .u8 v.k,.int .i64 v.n]/\FldV v:=by
 have hts:=DataW.trod_struct Tryz.underlying48 h;obtain⟨xs,n,hfu,hx,hcl,hxl,hg⟩:=hts;rw[zti] at hcl
 match cs,hcl with
 | [c0,c1,c2],_ =>
 match xs,hxl with
 | [y0,y1,y2],_ =>
 have g0:=hg 0 _ rfl;have g1:=hg 1 _ rfl;have g2:=hg 2 _ rfl;obtain⟨s,e2,e2',ws⟩:=DataW.trod_string Tryz.underlying9 g0;obtain⟨k,e0,e0',wk⟩:=DataW.trod_int Tryz.underlying5 g1;obtain⟨m,e1,zU,wm⟩:=DataW.trod_int Tryz.underlying3 g2;injection e0 with e0;injection e1 with e1;injection e2 with e2;subst e0 e1 e2;refine⟨⟨s,k,m⟩,rfl,ws,?_,?_⟩
 ·have:=wk;simp[Lit.wf,IntKind.min,IntKind.max,IntKind.signed,IntKind.bits] at this;constructor<;>simp only<;>omega
 ·have:=wm;simp[Lit.wf,IntKind.min,IntKind.max,IntKind.signed,IntKind.bits] at this;constructor<;>simp only<;>omega
theorem zmB {α:Type} [Inhabited α] {n:Nat} {P:Nat->α->Prop} (h:∀ i,i<n->∃ x,P i x):∃ l:List α,l.length=n/\∀ i (hi:i<l.length),P i l[i]:=by
 obtain⟨f,hf⟩:=choose_lt h;exact⟨(List.range n).map f,by simp,fun i hi=>by simp only[List.getElem_map,List.getElem_range];exact hf i (by simpa using hi)⟩
instance:Inhabited VD:=⟨⟨⟨#[]⟩,0,0⟩⟩
theorem zrL {fuel:Nat} {cs:List Value} {x:DataW H×List MemPlace} (h:DataW.trod enc Tryz.prog w 0 (fun _=>true) held fuel 22 cs=some x) (hw:∀ q∈x.1.weights Tryz.prog 22,q<=reachBytes) :
  ∃ (A:Option Addr) (vs:List VD) (c:Nat),cs=[.slice A vs.length c]/\RowV w Any A vs/\vs.length<=4398046510976/\vs.length<=c:=by
 rcases znV Tryz.underlying22 zti zwA h hw with rfl|⟨a,len,cap,rfl,hl,hcap,hat⟩
 ·exact⟨none,[],0,rfl,fun i hi=>absurd hi (by simp),Nat.zero_le _,Nat.zero_le _⟩
 ·obtain⟨vs,hvl,hvs⟩:=zmB (n:=len) (P:=fun i (v:VD)=>w.cells? 0 (a.add (i*3)) 3=some [.string v.s,.int .u8 v.k,.int .i64 v.n]/\FldV v) fun i hi=>by
   obtain⟨cs',y,n',hcs,ht,_⟩:=hat i hi;obtain⟨v,rfl,hf⟩:=zwd ht;exact⟨v,hcs,hf⟩
  refine⟨some a,vs,cap,by rw[hvl],fun i hi=>?_,by unfold reachBytes at hcap;omega,by omega⟩;obtain⟨hc,hf⟩:=hvs i hi;obtain⟨_,_,hcell⟩:=World.cells?_some hc;refine⟨a,rfl,trivial,⟨?_,?_,?_⟩,hf⟩
  ·have:=hcell 0 (by omega);simpa[Addr.add] using this
  ·have:=hcell 1 (by omega);simpa[Addr.add] using this
  ·have:=hcell 2 (by omega);simpa[Addr.add] using this
theorem zpP {fuel:Nat} {cs:List Value} {x:DataW H×List MemPlace} (h:DataW.trod enc Tryz.prog w 0 (fun _=>true) held fuel 22 cs=some x) (hw:∀ q∈x.1.weights Tryz.prog 22,q<=reachBytes) :
  ∃ (A:Option Addr) (vs:List VD) (c:Nat),cs=[.slice A vs.length c]/\RowV w Any A vs/\vs.length<=LV/\vs.length<=c:=by
 obtain⟨A,vs,c,h1,h2,h3,h4⟩:=zrL h hw;exact⟨A,vs,c,h1,h2,by unfold LV;omega,h4⟩
instance:Inhabited T:=⟨zeroT'⟩
theorem zrd {t:T} {u0 u1 u2 u3:Value} (h:NV w Any t (.agg #[u0,u1,u2,u3])):∃ A c,u0=.int .u8 t.k/\u1=.int .i64 t.n/\u2=.string t.s/\u3=.slice A t.ks.length c/\NV w Any t (nv t.k t.n t.s A t.ks.length c):=by
 obtain⟨A,c,e,_⟩:=h.open_;have e':=e;simp only[nv,Value.agg.injEq,Array.mk.injEq,List.cons.injEq,and_true] at e;exact⟨A,c,e.1,e.2.1,e.2.2.1,e.2.2.2,e'▸h⟩
end
theorem zxt:Tryz.prog.cellsOf 30=1:=by kernel_rfl
theorem zu3:Tryz.prog.bytesOf 3=8:=by kernel_rfl
theorem zxw:Tryz.prog.bytesOf 30=24:=by kernel_rfl
theorem zrY:Tryz.prog.cellsOf 32=3:=by kernel_rfl
section
variable {H:Type} {enc:TypeId×Value->H} {w:World} {held:Bool}
theorem zxv {a:Addr} {u:Value} (h:w.cells? 0 a 1=some [u]):w.cell? a=some u:=by
 obtain⟨_,_,hcell⟩:=World.cells?_some h;have:=hcell 0 (by omega);have e:a.add 0=a:=by
  obtain⟨b,o,l⟩:=a;rcases l with _|⟨l1,l2⟩<;>simp[Addr.add]
 rw[e] at this;simpa using this
theorem zod {fuel:Nat} {cs:List Value} {x:DataW H×List MemPlace} (h:DataW.trod enc Tryz.prog w 0 (fun _=>true) held fuel 30 cs=some x) (hw:∀ q∈x.1.weights Tryz.prog 30,q<=reachBytes) :
  ∃ (A:Option Addr) (l:List Int) (c:Nat),cs=[.slice A l.length c]/\RowI w Any A l/\l.length<=LI/\l.length<=c:=by
 rcases znV Tryz.underlying30 zrt zu3 h hw with rfl|⟨a,len,cap,rfl,hl,hcap,hat⟩
 ·exact⟨none,[],0,rfl,fun i hi=>absurd hi (by simp),Nat.zero_le _,Nat.zero_le _⟩
 ·obtain⟨l,hvl,hvs⟩:=zmB (n:=len) (P:=fun i (x:Int)=>w.cells? 0 (a.add (i*1)) 1=some [.int .i64 x]/\I64 x) fun i hi=>by
   obtain⟨cs',y,n',hcs,ht,_⟩:=hat i hi;obtain⟨m,e1,zU,wm⟩:=DataW.trod_int Tryz.underlying3 ht;refine⟨m,by rw[hcs,e1],?_⟩;have:=wm;simp[Lit.wf,IntKind.min,IntKind.max,IntKind.signed,IntKind.bits] at this
   constructor<;>omega
  refine⟨some a,l,cap,by rw[hvl],fun i hi=>?_,by unfold LI;unfold reachBytes at hcap;omega,by omega⟩;obtain⟨hc,hf⟩:=hvs i hi;rw[Nat.mul_one] at hc;exact⟨a,rfl,trivial,zxv hc,hf⟩
instance:Inhabited (List Int):=⟨[]⟩
theorem zrN {fuel:Nat} {cs:List Value} {x:DataW H×List MemPlace} (h:DataW.trod enc Tryz.prog w 0 (fun _=>true) held fuel 29 cs=some x) (hw:∀ q∈x.1.weights Tryz.prog 29,q<=reachBytes) :
  ∃ (A:Option Addr) (ls:List (List Int)) (c:Nat),cs=[.slice A ls.length c]/\znt w Any A ls/\ls.length<=LI/\(∀ l∈ls,l.length<=LI)/\ls.length<=c:=by
 rcases znV Tryz.underlying29 zxt zxw h hw with rfl|⟨a,len,cap,rfl,hl,hcap,hat⟩
 ·exact⟨none,[],0,rfl,fun i hi=>absurd hi (by simp),Nat.zero_le _,by simp,Nat.zero_le _⟩
 ·obtain⟨ls,hvl,hvs⟩:=zmB (n:=len) (P:=fun i (l:List Int)=>∃ A' c',w.cells? 0 (a.add (i*1)) 1=some [.slice A' l.length c']/\RowI w Any A' l/\l.length<=LI/\l.length<=c') fun i hi=>by
   obtain⟨cs',y,n',hcs,ht,yQ⟩:=hat i hi;obtain⟨A',l,c',e,hr,h1,h2⟩:=zod ht yQ;exact⟨l,A',c',by rw[hcs,e],hr,h1,h2⟩
  refine⟨some a,ls,cap,by rw[hvl],fun i hi=>?_,by unfold LI;unfold reachBytes at hcap;omega,fun l hl=>?_,by omega⟩
  ·obtain⟨A',c',hc,hr,h1,h2⟩:=hvs i hi;rw[Nat.mul_one] at hc;exact⟨a,A',c',rfl,trivial,zxv hc,h2,hr⟩
  ·obtain⟨i,hi,rfl⟩:=List.mem_iff_getElem.1 hl;obtain⟨A',c',hc,hr,h1,h2⟩:=hvs i hi;exact h1
theorem zrM {fuel:Nat} {cs:List Value} {x:DataW H×List MemPlace} (h:DataW.trod enc Tryz.prog w 0 (fun _=>true) held fuel 32 cs=some x) (hw:∀ q∈x.1.weights Tryz.prog 32,q<=reachBytes) :
  ∃ (s:SS) (u0 u1 u2:Value),cs=[u0,u1,u2]/\SV w Any s (.agg #[u0,u1,u2]):=by
 have hts:=DataW.trod_struct Tryz.underlying32 h;obtain⟨xs,n,hfu,hx,hcl,hxl,hg⟩:=hts;subst hx;rw[zrY] at hcl
 match cs,hcl with
 | [c0,c1,c2],_ =>
 match xs,hxl with
 | [y0,y1,y2],_ =>
 have g0:=hg 0 _ rfl;have g1:=hg 1 _ rfl;have g2:=hg 2 _ rfl;have hw0:∀ q∈y0.1.weights Tryz.prog 29,q<=reachBytes:=fun q hq=>by
  refine hw q ?_;simp only[List.map_cons,List.map_nil,DataW.weights,Tryz.underlying32];simp only[DataW.weightsEach,List.mem_append];exact .inl hq
 have hw1:∀ q∈y1.1.weights Tryz.prog 30,q<=reachBytes:=fun q hq=>by
  refine hw q ?_;simp only[List.map_cons,List.map_nil,DataW.weights,Tryz.underlying32];simp only[DataW.weightsEach,List.mem_append];exact .inr (.inl hq)
 have hw2:∀ q∈y2.1.weights Tryz.prog 30,q<=reachBytes:=fun q hq=>by
  refine hw q ?_;simp only[List.map_cons,List.map_nil,DataW.weights,Tryz.underlying32];simp only[DataW.weightsEach,List.mem_append];exact .inr (.inr (.inl hq))
 obtain⟨A0,ls,k0,e0,hr0,hl0,hl0',hc0⟩:=zrN g0 hw0;obtain⟨A1,l1,k1,e1,hr1,hl1,hc1⟩:=zod g1 hw1;obtain⟨A2,l2,k2,e2,hr2,hl2,hc2⟩:=zod g2 hw2;injection e0 with e0;injection e1 with e1;injection e2 with e2;subst e0 e1 e2;exact⟨⟨ls,l1,l2⟩,_,_,_,rfl,A0,k0,A1,k1,A2,k2,rfl,hr0,hr1,hr2,hc0,hc1,hc2,hl0,hl0',hl1,hl2⟩
theorem zuk {W:World} {base:Nat} {v:Value} {d:DataW H} {p:List MemPlace} (hok:Value.okWide Tryz.prog W .any base 32 v)
  (h:DataW.Trod enc Tryz.prog W 0 (fun _=>true) true 32 v d p) (hw:∀ n∈d.weights Tryz.prog 32,n<=reachBytes):∃ s,SV W Any s v:=by
 obtain⟨cs,rfl,hcs⟩:=okWide_struct Tryz.underlying32 hok;obtain⟨fuel,hf⟩:=h;obtain⟨s,u0,u1,u2,e,hs⟩:=zrM hf hw;refine⟨s,?_⟩;have:cs = #[u0,u1,u2]:=by
  apply Array.ext';simpa[Value.cells] using e
 rw[this];exact hs
end
theorem ztj:Tryz.prog.cellsOf 51=6:=by kernel_rfl
theorem zwB:Tryz.prog.bytesOf 51=96:=by kernel_rfl
theorem zwz:Tryz.prog.cellsOf 28=6:=by kernel_rfl
section
variable {H:Type} {enc:TypeId×Value->H} {w:World} {held:Bool}
instance:Inhabited PR:=⟨⟨⟨#[]⟩,[],zeroT'⟩⟩
theorem zsr {fuel:Nat} {cs:List Value} {x:DataW H×List MemPlace} (h:DataW.trod enc Tryz.prog w 0 (fun _=>true) held fuel 51 cs=some x) (hw:∀ q∈x.1.weights Tryz.prog 51,q<=reachBytes) :
  ∃ (r:PR) (A1:Option Addr) (c1:Nat) (A2:Option Addr) (c2:Nat),cs=[.string r.s,.slice A1 r.ps.length c1,.int .u8 r.b.k,.int .i64 r.b.n,.string r.b.s,.slice A2 r.b.ks.length c2]/\PrR w Any r A1 c1 A2 c2:=by
 have hts:=DataW.trod_struct Tryz.underlying51 h;obtain⟨xs,n,hfu,hx,hcl,hxl,hg⟩:=hts;subst hx;rw[ztj] at hcl
 match cs,hcl with
 | [c0,c1,c2,c3,c4,c5],_ =>
 match xs,hxl with
 | [y0,y1,y2],_ =>
 have g0:=hg 0 _ rfl;have g1:=hg 1 _ rfl;have g2:=hg 2 _ rfl;have hw1:∀ q∈y1.1.weights Tryz.prog 22,q<=reachBytes:=fun q hq=>by
  refine hw q ?_;simp only[List.map_cons,List.map_nil,DataW.weights,Tryz.underlying51];simp only[DataW.weightsEach,List.map_cons,List.map_nil,List.mem_append];exact .inr (.inl hq)
 have hw2:∀ q∈y2.1.weights Tryz.prog 26,q<=reachBytes:=fun q hq=>by
  refine hw q ?_;simp only[List.map_cons,List.map_nil,DataW.weights,Tryz.underlying51];simp only[DataW.weightsEach,List.map_cons,List.map_nil,List.mem_append];exact .inr (.inr (.inl hq))
 obtain⟨s,e0,_,ws⟩:=DataW.trod_string Tryz.underlying9 g0;obtain⟨A1,ps,k1,e1,hrow,hlp,hlc⟩:=zpP g1 hw1;obtain⟨t,u0,u1,u2,u3,e2,hn,_,_⟩:=zpQ _ _ _ g2 hw2;obtain⟨A2,k2,rfl,rfl,rfl,rfl,hn'⟩:=zrd hn;injection e0 with e0;injection e1 with e1;change List.take (Tryz.prog.cellsOf 26) [c2,c3,c4,c5]=_ at e2;rw[znr] at e2;simp only[List.take_succ_cons,List.take_zero,List.cons.injEq,and_true] at e2;obtain⟨rfl,rfl,rfl,rfl⟩:=e2;subst e0 e1;exact⟨⟨s,ps,t⟩,A1,k1,A2,k2,rfl,ws,hrow,hlp,hlc,hn'⟩
theorem zrO {fuel:Nat} {cs:List Value} {x:DataW H×List MemPlace} (h:DataW.trod enc Tryz.prog w 0 (fun _=>true) held fuel 23 cs=some x) (hw:∀ q∈x.1.weights Tryz.prog 23,q<=reachBytes) :
  ∃ (A:Option Addr) (ps:List PR) (c:Nat),cs=[.slice A ps.length c]/\RowP w Any A ps/\ps.length<=LV/\ps.length<=c:=by
 rcases znV Tryz.underlying23 ztj zwB h hw with rfl|⟨a,len,cap,rfl,hl,hcap,hat⟩
 ·exact⟨none,[],0,rfl,fun i hi=>absurd hi (by simp),Nat.zero_le _,Nat.zero_le _⟩
 ·obtain⟨ps,hvl,hvs⟩:=zmB (n:=len) (P:=fun i (r:PR)=>∃ A1 c1 A2 c2,w.cells? 0 (a.add (i*6)) 6=some [.string r.s,.slice A1 r.ps.length c1,.int .u8 r.b.k,.int .i64 r.b.n,.string r.b.s,.slice A2 r.b.ks.length c2]/\PrR w Any r A1 c1 A2 c2) fun i hi=>by
   obtain⟨cs',y,n',hcs,ht,yQ⟩:=hat i hi;obtain⟨r,A1,c1,A2,c2,rfl,hr⟩:=zsr ht yQ;exact⟨r,A1,c1,A2,c2,hcs,hr⟩
  refine⟨some a,ps,cap,by rw[hvl],fun i hi=>?_,by unfold LV;unfold reachBytes at hcap;omega,by omega⟩;obtain⟨A1,c1,A2,c2,hc,hr⟩:=hvs i hi;obtain⟨_,_,hcell⟩:=World.cells?_some hc;refine⟨a,A1,c1,A2,c2,rfl,trivial,⟨?_,?_,?_,?_,?_,?_⟩,hr⟩
  ·have:=hcell 0 (by omega);simpa[Addr.add] using this
  ·have:=hcell 1 (by omega);simpa[Addr.add] using this
  ·have:=hcell 2 (by omega);simpa[Addr.add] using this
  ·have:=hcell 3 (by omega);simpa[Addr.add] using this
  ·have:=hcell 4 (by omega);simpa[Addr.add] using this
  ·have:=hcell 5 (by omega);simpa[Addr.add] using this
theorem zsq {fuel:Nat} {cs:List Value} {x:DataW H×List MemPlace} (h:DataW.trod enc Tryz.prog w 0 (fun _=>true) held fuel 28 cs=some x) (hw:∀ q∈x.1.weights Tryz.prog 28,q<=reachBytes) :
  ∃ (p:PG) (A1:Option Addr) (c1:Nat) (A2:Option Addr) (c2:Nat) (A3:Option Addr) (c3:Nat),cs=[.slice A1 p.vs.length c1,.slice A2 p.prs.length c2,.int .u8 p.m.k,.int .i64 p.m.n,.string p.m.s,.slice A3 p.m.ks.length c3]/\PgR w Any p A1 c1 A2 c2 A3 c3:=by
 have hts:=DataW.trod_struct Tryz.underlying28 h;obtain⟨xs,n,hfu,hx,hcl,hxl,hg⟩:=hts;subst hx;rw[zwz] at hcl
 match cs,hcl with
 | [c0,c1,c2,c3,c4,c5],_ =>
 match xs,hxl with
 | [y0,y1,y2],_ =>
 have g0:=hg 0 _ rfl;have g1:=hg 1 _ rfl;have g2:=hg 2 _ rfl;have hw0:∀ q∈y0.1.weights Tryz.prog 22,q<=reachBytes:=fun q hq=>by
  refine hw q ?_;simp only[List.map_cons,List.map_nil,DataW.weights,Tryz.underlying28];simp only[DataW.weightsEach,List.map_cons,List.map_nil,List.mem_append];exact .inl hq
 have hw1:∀ q∈y1.1.weights Tryz.prog 23,q<=reachBytes:=fun q hq=>by
  refine hw q ?_;simp only[List.map_cons,List.map_nil,DataW.weights,Tryz.underlying28];simp only[DataW.weightsEach,List.map_cons,List.map_nil,List.mem_append];exact .inr (.inl hq)
 have hw2:∀ q∈y2.1.weights Tryz.prog 26,q<=reachBytes:=fun q hq=>by
  refine hw q ?_;simp only[List.map_cons,List.map_nil,DataW.weights,Tryz.underlying28];simp only[DataW.weightsEach,List.map_cons,List.map_nil,List.mem_append];exact .inr (.inr (.inl hq))
 obtain⟨A1,vs,k1,e0,hrow,hlv,hlvc⟩:=zpP g0 hw0;obtain⟨A2,ps,k2,e1,hrp,hlp,hlpc⟩:=zrO g1 hw1;obtain⟨t,u0,u1,u2,u3,e2,hn,_,_⟩:=zpQ _ _ _ g2 hw2;obtain⟨A3,k3,rfl,rfl,rfl,rfl,hn'⟩:=zrd hn;injection e0 with e0;injection e1 with e1;change List.take (Tryz.prog.cellsOf 26) [c2,c3,c4,c5]=_ at e2;rw[znr] at e2;simp only[List.take_succ_cons,List.take_zero,List.cons.injEq,and_true] at e2;obtain⟨rfl,rfl,rfl,rfl⟩:=e2;subst e0 e1;exact⟨⟨vs,ps,t⟩,A1,k1,A2,k2,A3,k3,rfl,hrow,hlv,hlvc,hrp,hlp,hlpc,hn'⟩
end
theorem zwa {H:Type} {enc:TypeId×Value->H} {W:World} {base:Nat} {v:Value} {d:DataW H} {p:List MemPlace} (hok:Value.okWide Tryz.prog W .any base 28 v)
  (h:DataW.Trod enc Tryz.prog W 0 (fun _=>true) true 28 v d p) (hw:∀ n∈d.weights Tryz.prog 28,n<=reachBytes):∃ g,PV W Any g v:=by
 obtain⟨cs,rfl,hcs⟩:=okWide_struct Tryz.underlying28 hok;obtain⟨fuel,hf⟩:=h;obtain⟨g,A1,c1,A2,c2,A3,c3,e,hr⟩:=zsq hf hw;refine⟨g,A1,c1,A2,c2,A3,c3,?_,hr⟩;have:cs = #[.slice A1 g.vs.length c1,.slice A2 g.prs.length c2,.int .u8 g.m.k,.int .i64 g.m.n,.string g.m.s,.slice A3 g.m.ks.length c3]:=by
  apply Array.ext';simpa[Value.cells] using e
 rw[this]
end Go.Proofs.YtmbbaccjcekhkaaGreat
