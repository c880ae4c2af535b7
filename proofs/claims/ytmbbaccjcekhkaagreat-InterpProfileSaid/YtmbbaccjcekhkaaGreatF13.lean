/-
  Texts of the proof, put together without their remarks: Rxr, Fw, Aw, Alt, Awk, Gr.
-/
import Derived.Test.YtmbbaccjcekhkaaGreatF12
set_option linter.unusedSimpArgs false
set_option linter.unusedVariables false
set_option maxHeartbeats 8000000
set_option maxRecDepth 100000
namespace Go.Proofs.YtmbbaccjcekhkaaGreat
open Go Go.RowKit
theorem bRR (A1 A2 A3 E I O:Option Addr) (l1 c1 l2 c2 l3 c3 m d ni ci no co:Nat) (k n F:Int) (s:ByteArray) (w:World):(Instr.build 91 #[(0,pv A1 l1 c1 A2 l2 c2 k n s A3 l3 c3),(3,.slice I ni ci),(4,.slice O no co),(5,.int .i64 F),(8,.slice E m d)]).run Tryz.prog w =
  .ok (.agg #[.slice A1 l1 c1,.slice A2 l2 c2,.int .u8 k,.int .i64 n,.string s,.slice A3 l3 c3,.slice none 0 0,.slice none 0 0,.slice I ni ci,.slice O no co,.int .i64 F,.int .i64 0,.int .i64 0,.slice E m d,.int .i64 0]) w:=by kernel_rfl
theorem zsT:IsFn Tryz.prog 43 Tryz.f43:=⟨Tryz.func43,by kernel_rfl,by kernel_rfl⟩
theorem zwo:IsFn Tryz.prog 44 Tryz.f44:=⟨Tryz.func44,by kernel_rfl,by kernel_rfl⟩
def zyb (W:World) (R:SS×Nat×Int×List Nat) (e:Ending) (W':World):Prop:=∃ A c v,e=.returned (.tuple #[v,.int .i64 (R.2.1:Int),.int .i64 R.2.2.1,.slice A R.2.2.2.length c]) /\
 SV W' (fun q=>W.heap.size<=q\/IntB W' q) R.1 v/\RowI W' (IntB W') A (R.2.2.2.map Int.ofNat)/\R.2.2.2.length<=c/\Below W.heap.size W W'/\(R.2.2.1=0->R.1.cells.length<=1000)
theorem zwY (p:PG) (s:SS) (F:Int) (g:Nat) (back:Bool) (v sv:Value) (W:World) (hp:PV W Any p v) (hs:SV W Any s sv) (hv:zle p=true) (hc:chkN p=0) (hfit:fitB p.vs s=true) (hF:I64 F) (jm:F<=1000000) (hg:F.toNat*2000+2000<=g) :
  Calls Tryz.prog 22 #[v,sv,.int .i64 F,.bool back] W (zyb W (outR s (runO p.prs F g back p.m ⟨newS p.vs s,0,List.replicate p.prs.length 0⟩))):=by
 obtain⟨o,ho⟩:∃ o,runO p.prs F g back p.m ⟨newS p.vs s,0,List.replicate p.prs.length 0⟩=o:=⟨_,rfl⟩
 have HO:=zh ho;have hog:o ≠ .gas:=ho▸(zq4 hv hg back (newS p.vs s) (List.replicate p.prs.length 0)).1;rw[ho];have bE:=zh hog;obtain⟨hlm,hlp,hlv⟩:=PV.lit hp hv;obtain⟨hq1,hq2,hq3⟩:=zxK hv hc;obtain⟨hb1,hb2,-⟩:=zlN hv;obtain⟨-,hfl,-⟩:=zmh hfit;have HI:=zh hs.nums;have pI:=zh (fun w' (hb:Below W.heap.size W w')=>zqR s sv w' (hs.later hb) (by omega));obtain⟨A1,c1,A2,c2,A3,c3,rfl,dK⟩:=hp;obtain⟨A,c,B,d,D,e,rfl,hr1,hr2,hr3,hc1,hc2,hc3,hl1,hl2,hl3,hl4⟩:=hs;obtain⟨K,hK⟩:∃ K:RK,K=⟨W,W.heap.size,p,A1,c1,A2,c2,A3,c3,F⟩:=⟨_,rfl⟩
 have HK:=zh (show K.Ok by subst hK;exact⟨dK,jm,hF,Nat.le_refl _,hq1,hlp,hb2⟩);have eY:=zh hK;have HQ:=zh (And.intro hq2 (And.intro hq3 (And.intro hlv hfit)));have wV:=zh dK;have nU:=zh (show SV W Any s (.agg #[.slice A s.cells.length c,.slice B s.tin.length d,.slice D s.tout.length e]) from ⟨A,c,B,d,D,e,rfl,hr1,hr2,hr3,hc1,hc2,hc3,hl1,hl2,hl3,hl4⟩);obtain⟨np,lZ⟩:∃ n,p.prs.length=n:=⟨_,rfl⟩
 obtain⟨gK,bR⟩:∃ n,p.vs.length=n:=⟨_,rfl⟩
 have HN:=zh (And.intro lZ bR);rw[lZ,bR];have hbW:=zkc (zkc (zkc (Below.refl W.heap.size W) (.cells #[.slice A1 gK c1,.slice A2 np c2,.int .u8 p.m.k,.int .i64 p.m.n,.string p.m.s,.slice A3 p.m.ks.length c3] 28)) (.cells #[.slice A s.cells.length c,.slice B s.tin.length d,.slice D s.tout.length e] 32)) (.cells #[.slice none 0 0,.slice none 0 0,.slice none 0 0] 32);have k0:=zkn (zkn (heap_alloc_new W (.cells #[.slice A1 gK c1,.slice A2 np c2,.int .u8 p.m.k,.int .i64 p.m.n,.string p.m.s,.slice A3 p.m.ks.length c3] 28)) (.cells #[.slice A s.cells.length c,.slice B s.tin.length d,.slice D s.tout.length e] 32)) (.cells #[.slice none 0 0,.slice none 0 0,.slice none 0 0] 32)
 have k1:=zkn (heap_alloc_new (W.alloc (.cells #[.slice A1 gK c1,.slice A2 np c2,.int .u8 p.m.k,.int .i64 p.m.n,.string p.m.s,.slice A3 p.m.ks.length c3] 28)) (.cells #[.slice A s.cells.length c,.slice B s.tin.length d,.slice D s.tout.length e] 32)) (.cells #[.slice none 0 0,.slice none 0 0,.slice none 0 0] 32);have k2:=heap_alloc_new ((W.alloc (.cells #[.slice A1 gK c1,.slice A2 np c2,.int .u8 p.m.k,.int .i64 p.m.n,.string p.m.s,.slice A3 p.m.ks.length c3] 28)).alloc (.cells #[.slice A s.cells.length c,.slice B s.tin.length d,.slice D s.tout.length e] 32)) (.cells #[.slice none 0 0,.slice none 0 0,.slice none 0 0] 32);simp only[World.size_alloc] at k1 k2;have uO:=zh hF;have mH:=zh hlm;clear hlm hlp hlv hq1 hq2 hq3 hb1 hb2 hfl hr1 hr2 hr3 hc1 hc2 hc3 hl1 hl2 hl3 hl4 dK ho hog hv hc hfit hF jm hg lZ bR hK;go_enter Tryz.func22,Tryz.ntmps22;go_upto_region 1 with fail
 obtain⟨w1,hw1⟩:∃ x,((W.alloc (.cells #[.slice A1 gK c1,.slice A2 np c2,.int .u8 p.m.k,.int .i64 p.m.n,.string p.m.s,.slice A3 p.m.ks.length c3] 28)).alloc (.cells #[.slice A s.cells.length c,.slice B s.tin.length d,.slice D s.tout.length e] 32)).alloc (.cells #[.slice none 0 0,.slice none 0 0,.slice none 0 0] 32)=x:=⟨_,rfl⟩
 rw[hw1] at hbW k0 k1 k2 ⊢;obtain⟨b0,hb0⟩:∃ b,W.heap.size=b:=⟨_,rfl⟩
 have HB0:=zh hb0;rw[hb0] at k0 k1 k2 ⊢;have jI:=zh (show Below W.heap.size W w1 from hb0▸hbW);have aQ:=zh k0;have aH:=zh k1;have df:=zh k2;obtain⟨x0,x1,x2⟩:=zwI k1;clear hbW k0 k1 k2 hw1 hb0;go_wp2_with fail;refine(pI.out _ jI.out).mono ?_;rintro e w2 ⟨v',rfl,ho2,hb2⟩;obtain⟨vc,vi,vo,fc,rfl,hrs,-⟩:=ho2;obtain⟨Ac,cc,ec,-⟩:=zkh (hrs.row .all);change vc=.slice Ac s.cells.length cc at ec;obtain⟨Ai,ci,ei,-⟩:=zkh (hrs.row .inp);change vi=.slice Ai s.tin.length ci at ei;obtain⟨Ao,co,eo,-⟩:=zkh (hrs.row .out);change vo=.slice Ao s.tout.length co at eo;subst ec ei eo;clear x0 x1 x2;go_upto_region 2 with fail;have hb3:=zkc hb2 (.cells #[.slice Ac s.cells.length cc,.slice Ai s.tin.length ci,.slice Ao s.tout.length co] 32);have hk3:=heap_alloc_new w2 (.cells #[.slice Ac s.cells.length cc,.slice Ai s.tin.length ci,.slice Ao s.tout.length co] 32)
 obtain⟨w3,hw3⟩:∃ x,w2.alloc (.cells #[.slice Ac s.cells.length cc,.slice Ai s.tin.length ci,.slice Ao s.tout.length co] 32)=x:=⟨_,rfl⟩
 obtain⟨tb,htb⟩:∃ x,w2.heap.size=x:=⟨_,rfl⟩
 have HRS:=zh (hw3▸hrs.later (zkc (Below.refl w2.heap.size w2) (.cells #[.slice Ac s.cells.length cc,.slice Ai s.tin.length ci,.slice Ao s.tout.length co] 32)):Rws w3 w1.heap.size (zlX (.slice Ac s.cells.length cc) (.slice Ai s.tin.length ci) (.slice Ao s.tout.length co) fc s));have jC:=zh (show ∀ b,OwnB (zlX (.slice Ac s.cells.length cc) (.slice Ai s.tin.length ci) (.slice Ao s.tout.length co) fc s) b->w1.heap.size<=b/\b<tb from fun b ⟨x,hx⟩=>htb▸hrs.lt x b hx);rw[hw3] at hb3 hk3 ⊢;rw[htb] at hk3 ⊢;have HB3:=zh hb3;have Ar:=zh hk3;have yj:=zh (show w1.heap.size<=tb/\w3.heap.size=tb+1 from ⟨htb▸hb2.size,by rw[<-hw3,World.size_alloc,htb]⟩);have HK03:=zh (zkf aQ.out hb3);have hmk:=bMkI np (by have h1:=HK.out.np;rw[eY.out] at h1;have h1:p.prs.length<=64:=h1;have h2:=HN.out.1;show np<=4096;omega)
 have hbr:=bRR A1 A2 A3 (some ⟨w3.heap.size,0,none⟩) Ai Ao gK c1 np c2 p.m.ks.length c3 np np s.tin.length ci s.tout.length co p.m.k p.m.n F p.m.s;have hS2:∀ w',Below w3.heap.size w3 w'->(fun w':World=>(w'.cell? ⟨b0,0,none⟩=some (.slice A1 gK c1)/\w'.cell? ⟨b0,1,none⟩=some (.slice A2 np c2)/\w'.cell? ⟨b0,2,none⟩=some (.int .u8 p.m.k)/\w'.cell? ⟨b0,3,none⟩=some (.int .i64 p.m.n)/\w'.cell? ⟨b0,4,none⟩=some (.string p.m.s)/\w'.cell? ⟨b0,5,none⟩=some (.slice A3 p.m.ks.length c3))/\w'.cell? ⟨tb,1,none⟩=some (.slice Ai s.tin.length ci)/\w'.cell? ⟨tb,2,none⟩=some (.slice Ao s.tout.length co)) w'/\(fun _:World=>True) w':=fun w' hb=>by
  have h1:=zkf HK03.out hb;have h2:=zkf Ar.out hb;exact⟨⟨⟨zc h1 rfl,zc h1 rfl,zc h1 rfl,zc h1 rfl,zc h1 rfl,zc h1 rfl⟩,zc h2 rfl,zc h2 rfl⟩,trivial⟩
 have HS2:=zh hS2;have hSS:=hS2 _ (Below.refl w3.heap.size w3).drew;clear hS2 hb2 hb3 hk3 hw3 htb hrs;refine wp_region_noPanic ?_;refine zkd (fun w':World=>(w'.cell? ⟨b0,0,none⟩=some (.slice A1 gK c1)/\w'.cell? ⟨b0,1,none⟩=some (.slice A2 np c2)/\w'.cell? ⟨b0,2,none⟩=some (.int .u8 p.m.k)/\w'.cell? ⟨b0,3,none⟩=some (.int .i64 p.m.n)/\w'.cell? ⟨b0,4,none⟩=some (.string p.m.s)/\w'.cell? ⟨b0,5,none⟩=some (.slice A3 p.m.ks.length c3))/\w'.cell? ⟨tb,1,none⟩=some (.slice Ai s.tin.length ci)/\w'.cell? ⟨tb,2,none⟩=some (.slice Ao s.tout.length co)) (fun _:World=>True) 12 (by kernel_rfl) ?_;refine zT 0 hSS ?_;(try simp only[zQ]);refine zT 1 hSS ?_;(try simp only[zQ]);refine zT 2 hSS ?_;(try simp only[zQ]);refine zT 3 hSS ?_;(try simp only[zQ]);refine zT 4 hSS ?_;(try simp only[zQ]);refine zT 5 hSS ?_;(try simp only[zQ]);refine zT 6 hSS ?_;(try simp only[zQ]);refine zT 7 hSS ?_
 (try simp only[zQ]);refine zT 8 hSS ?_;(try simp only[zQ]);refine zo 9 fun K hK=>?_;(try simp only[zA,zB,zC]);go_simp;obtain⟨w4,hw4⟩:∃ x,(w3.alloc (.cells (zke (List.replicate np 0)).toArray 3)).drew=x:=⟨_,rfl⟩
 obtain⟨cvb,lu⟩:∃ x,w3.heap.size=x:=⟨_,rfl⟩
 have aK:=zh (show Below w3.heap.size w3 w4 from hw4▸(zkc (Below.refl w3.heap.size w3) (.cells (zke (List.replicate np 0)).toArray 3)).drew);have oF:=zh (show w4.heap[cvb]?=some (.cells (zke (List.replicate np 0)).toArray 3 (0,0)) by rw[<-hw4,<-lu];exact heap_alloc_new w3 _);have oZ:=zh (show w4.heap.size=cvb+1 by rw[<-hw4,<-lu];show(w3.alloc _).heap.size=_;rw[World.size_alloc]);rw[hw4,lu];rw[lu] at hbr;have mK:=zh lu;have hSS:=HS2.out _ aK.out;refine hK.out _ _ hSS ?_;clear hK K hw4 lu;(try simp only[zQ]);refine zT 10 hSS ?_;(try simp only[zQ]);refine zo 11 fun K hK=>?_;(try simp only[zA,zB,zC]);go_simp
 obtain⟨w5,fP⟩:∃ x,w4.alloc (.cells #[.slice A1 gK c1,.slice A2 np c2,.int .u8 p.m.k,.int .i64 p.m.n,.string p.m.s,.slice A3 p.m.ks.length c3,.slice none 0 0,.slice none 0 0,.slice Ai s.tin.length ci,.slice Ao s.tout.length co,.int .i64 F,.int .i64 0,.int .i64 0,.slice (some ⟨cvb,0,none⟩) np np,.int .i64 0] 91)=x:=⟨_,rfl⟩
 obtain⟨rb,hrb⟩:∃ x,w4.heap.size=x:=⟨_,rfl⟩
 have hb5:Below w4.heap.size w4 w5:=fP▸zkc (Below.refl _ _) _;have hrx:=heap_alloc_new w4 (.cells #[.slice A1 gK c1,.slice A2 np c2,.int .u8 p.m.k,.int .i64 p.m.n,.string p.m.s,.slice A3 p.m.ks.length c3,.slice none 0 0,.slice none 0 0,.slice Ai s.tin.length ci,.slice Ao s.tout.length co,.int .i64 F,.int .i64 0,.int .i64 0,.slice (some ⟨cvb,0,none⟩) np np,.int .i64 0] 91);rw[fP,hrb] at hrx;rw[fP,hrb];have o6:=zh hrx;have bP:=zh (zka aK.out hb5);have HCV5:=zh (zkf oF.out hb5);have ag:=zh (show rb=cvb+1 by rw[<-hrb];exact oZ.out);have hSS:=HS2.out _ bP.out;refine hK.out _ _ hSS ?_;clear hK K fP hrb hb5 hrx;(try simp only[zQ]);refine zp 12 fun K hK=>?_;(try simp only[zA,zB,zC]);go_simp;refine hK.out _ _ hSS.1 ?_;clear hK K hSS hmk hbr;(try simp only[zQ]);refine zd ?_;refine NoPanic.normal ?_
 obtain⟨O0,zJ⟩:∃ O:Obj,O=.cells #[.slice A1 gK c1,.slice A2 np c2,.int .u8 p.m.k,.int .i64 p.m.n,.string p.m.s,.slice A3 p.m.ks.length c3] 28 (0,0):=⟨_,rfl⟩
 obtain⟨O1,zI⟩:∃ O:Obj,O=.cells #[.slice A s.cells.length c,.slice B s.tin.length d,.slice D s.tout.length e] 32 (0,0):=⟨_,rfl⟩
 obtain⟨O2,hO2⟩:∃ O:Obj,O=.cells #[.slice none 0 0,.slice none 0 0,.slice none 0 0] 32 (0,0):=⟨_,rfl⟩
 obtain⟨O3,hO3⟩:∃ O:Obj,O=.cells #[.slice Ac s.cells.length cc,.slice Ai s.tin.length ci,.slice Ao s.tout.length co] 32 (0,0):=⟨_,rfl⟩
 have ik:=zh (And.intro zJ (And.intro zI (And.intro hO2 hO3)));have HWB:=zh (show Below W.heap.size W w5 from zka jI.out (zka HB3.out bP.out));obtain⟨BX,zS⟩:∃ BX:List (Nat×Obj),BX=[(b0,O0),(b0+1,O1),(b0+1+1,O2),(tb,O3)]:=⟨_,rfl⟩
 have ax:=zh zS;have HDI:=zh (show ∃ P,DoI K s (.slice Ac s.cells.length cc) (.slice Ai s.tin.length ci) (.slice Ao s.tout.length co) fc rb BX 0 P w5 by
  have hw0:=HB0.out;have h1:=yj.out;have h2:=mK.out;have h3:=ag.out;have h4:=zku df.out;refine DoI.start (cvb:=cvb) (by rw[eY.out];exact HQ.out.2.2.2) (by rw[eY.out];exact HQ.out.2.2.1) HI.out HK.out.np ?_ ?_ (by omega) ?_ ?_ ?_ ?_ ?_ ?_
  ·rw[eY.out];dsimp only;rw[HN.out.1,HN.out.2];exact o6.out
  ·rw[eY.out];dsimp only;rw[HN.out.1];exact HCV5.out
  ·rw[eY.out];show W.heap.size<=cvb;omega
  ·rw[eY.out];show W.heap.size<=rb;omega
  ·rw[eY.out];exact(HRS.out.later bP.out).mono (by show W.heap.size<=w1.heap.size;omega)
  ·intro b hb;have:=jC.out b hb;omega
  ·rw[eY.out];exact HWB.out
  ·intro q hq;rw[zS] at hq;simp only[List.mem_cons,List.not_mem_nil,or_false] at hq;rcases hq with rfl|rfl|rfl|rfl
   ·exact⟨by rw[zJ];exact zkf HK03.out bP.out,⟨by show b0≠rb;omega,by show b0≠cvb;omega⟩,fun hb=>by have h5:=jC.out _ hb;have h5:w1.heap.size<=b0:=h5.1;omega⟩
   ·exact⟨by rw[zI];exact zkf aH.out (zka HB3.out bP.out),⟨by show b0+1≠rb;omega,by show b0+1≠cvb;omega⟩,fun hb=>by have h5:=jC.out _ hb;have h5:w1.heap.size<=b0+1:=h5.1;omega⟩
   ·exact⟨by rw[hO2];exact zkf df.out (zka HB3.out bP.out),⟨by show b0+1+1≠rb;omega,by show b0+1+1≠cvb;omega⟩,fun hb=>by have h5:=jC.out _ hb;have h5:w1.heap.size<=b0+1+1:=h5.1;omega⟩
   ·exact⟨by rw[hO3];exact zkf Ar.out bP.out,⟨by show tb≠rb;omega,by show tb≠cvb;omega⟩,fun hb=>by have h5:=jC.out _ hb;have h5:tb<tb:=h5.2;omega⟩)
 clear zJ zI hO2 hO3 zS;go_wp2_with fail
 go_loopw [14] (fun x wr=>∃ (j:Nat) (P:RP),j<=gK/\x=.int .i64 j/\Hid (DoI K s (.slice Ac s.cells.length cc) (.slice Ai s.tin.length ci) (.slice Ao s.tout.length co) fc rb BX j P wr)) (fun x _=>gK-(intOf x).toNat)
 case atStart =>
  obtain⟨P,hP⟩:=HDI.out;exact⟨0,P,Nat.zero_le _,rfl,hP⟩
 case round =>
  clear HDI;obtain⟨j,P,hj,rfl,HD⟩:=hrel;have hx0:=HD.out.bx (b0,O0) (by rw[ax.out];simp);rw[ik.out.1] at hx0;have y0:wr.cell? ⟨b0,0,none⟩=some (.slice A1 gK c1):=zc hx0 rfl;clear hx0;by_cases hlt:j<gK
  ·have hj1:(j:Int)<(gK:Int):=by omega
   have hj0:(0:Int)<=(j:Int):=by omega
   have hcl:s.cells.length=gK:=(zmh HQ.out.2.2.2).2.1.trans HN.out.2;have hj2:(j:Int)<(s.cells.length:Int):=by omega
   have h32:gK<=32:=by have h1:=(zmh HQ.out.2.2.2).1;have h2:=HN.out.2;omega
   obtain⟨a,vd,hA1,-,Hvd,⟨p0,-,-⟩,-⟩:=wV.out.vars.nd (i:=j) (by rw[HN.out.2];exact hlt);obtain⟨gc,cg,eg,-,-,hgc⟩:=zkZ (show wr.ownsRow K.n0 30 1 (.slice Ac s.cells.length cc) s.cells.length ((List.range s.cells.length).map fc) from HD.out.rest.row .all) (by omega);injection eg with eg;obtain⟨Aj,cj,ej,-⟩:=zkh (show wr.ownsRow K.n0 3 1 (fc j) (s.cells.getD j []).length (zke (s.cells.getD j [])) by have h:=HD.out.rest.row (.el j);simp only[zmk,Nat.lt_irrefl,if_false,zlX] at h;rw[if_pos (by omega)] at h;exact h);obtain⟨lj,hlj⟩:∃ l,(s.cells.getD j []).length=l:=⟨_,rfl⟩
   rw[hlj] at ej;subst hA1 eg;have hS1:∀ j' P' w',DoI K s (.slice (some ⟨gc,0,none⟩) s.cells.length cc) (.slice Ai s.tin.length ci) (.slice Ao s.tout.length co) fc rb BX j' P' w'->(fun w':World=>w'.cell? ⟨b0,0,none⟩=some (.slice (some a) gK c1)/\w'.cell? (a.add (j*3))=some (.string vd.s)/\w'.cell? ⟨tb,0,none⟩=some (.slice (some ⟨gc,0,none⟩) s.cells.length cc)/\w'.cell? ⟨gc,j,none⟩=some (.slice Aj lj cj)) w':=fun j' P' w' hd=>by
    have h0:=hd.bx (b0,O0) (by rw[ax.out];simp);have h3:=hd.bx (tb,O3) (by rw[ax.out];simp);rw[ik.out.1] at h0;rw[ik.out.2.2.2] at h3;have hbl:=hd.rf.bl;rw[eY.out] at hbl;refine⟨zc h0 rfl,zb hbl p0,zc h3 rfl,?_⟩;obtain⟨g2,c2',e2,-,-,h2⟩:=zkZ (show w'.ownsRow K.n0 30 1 (.slice (some ⟨gc,0,none⟩) s.cells.length cc) s.cells.length ((List.range s.cells.length).map fc) from hd.rest.row .all) (by omega);injection e2 with e2;injection e2 with e2;injection e2 with e2;subst e2;rw[h2 j (by omega)];simp[show j<s.cells.length by omega,ej]
   have o5:=zh hS1;obtain⟨DN,zP⟩:∃ DN:World->Prop,DN=fun w''=>∃ P',DoI K s (.slice (some ⟨gc,0,none⟩) s.cells.length cc) (.slice Ai s.tin.length ci) (.slice Ao s.tout.length co) fc rb BX (j+1) P' w'':=⟨_,rfl⟩
   have HDN:=zh zP;have uC:=zh (show ∀ w',DoI K s (.slice (some ⟨gc,0,none⟩) s.cells.length cc) (.slice Ai s.tin.length ci) (.slice Ao s.tout.length co) fc rb BX j P w'->Calls Tryz.prog 44 #[.pointer (some ⟨rb,0,none⟩),.string vd.s,.slice Aj lj cj] w' fun en w''=>(∃ u,en=.returned u)/\DN w'' from fun w' hd=>by
    have hjK:j<K.p.vs.length:=by rw[eY.out];show j<p.vs.length;rw[HN.out.2];exact hlt
    have h1:=DoI.open_ HK.out hd (by rw[eY.out];exact HQ.out.2.2.2) (by rw[eY.out];exact HQ.out.2.2.1) HI.out hjK;rw[ej,show K.p.vs[j]=vd by rw[<-Hvd.out];simp only[eY.out]] at h1;rw[zP];exact h1)
   clear p0 hgc ej hlj hS1 zP;go_upto_region 6 with fail;have hSS:(fun w':World=>w'.cell? ⟨b0,0,none⟩=some (.slice (some a) gK c1)/\w'.cell? (a.add (j*3))=some (.string vd.s)/\w'.cell? ⟨tb,0,none⟩=some (.slice (some ⟨gc,0,none⟩) s.cells.length cc)/\w'.cell? ⟨gc,j,none⟩=some (.slice Aj lj cj)) wr.drew/\(fun _:World=>True) wr.drew:=⟨o5.out _ _ _ (HD.out.later (Below.refl _ _).drew),trivial⟩
   refine wp_region_noPanic ?_;refine zkd (fun w':World=>w'.cell? ⟨b0,0,none⟩=some (.slice (some a) gK c1)/\w'.cell? (a.add (j*3))=some (.string vd.s)/\w'.cell? ⟨tb,0,none⟩=some (.slice (some ⟨gc,0,none⟩) s.cells.length cc)/\w'.cell? ⟨gc,j,none⟩=some (.slice Aj lj cj)) (fun _:World=>True) 12 (by kernel_rfl) ?_;refine zT 0 hSS ?_;(try simp only[zQ]);refine zT 1 hSS ?_;(try simp only[zQ]);refine zT 2 hSS ?_;(try simp only[zQ]);refine zT 3 hSS ?_;(try simp only[zQ]);refine zT 4 hSS ?_;(try simp only[zQ]);refine zT 5 hSS ?_;(try simp only[zQ]);refine zT 6 hSS ?_;(try simp only[zQ]);refine zT 7 hSS ?_;(try simp only[zQ]);refine zT 8 hSS ?_;(try simp only[zQ]);refine zT 9 hSS ?_;(try simp only[zQ]);refine zT 10 hSS ?_;(try simp only[zQ]);refine zT 11 hSS ?_;(try simp only[zQ]);have had:=uC.out wr.drew (HD.out.later (Below.refl _ _).drew);refine zp 12 fun K hK=>?_
   refine zkj (by rfl) (.func 44) [.tmp 39,.tmp 45,.tmp 50] _ (by rfl) 44 _ zwo (by rfl) _ (by rfl) (fun _ w'=>DN w') (had.mono fun e w' h=>by obtain⟨⟨u,hu⟩,h2⟩:=h;exact⟨u,hu,h2⟩) ?_;rintro x w6 hm;have HM:=zh hm;rw[HDN.out] at hm;obtain⟨P',hm⟩:=hm;refine hK _ _ (o5.out _ _ _ hm) ?_;have HD2:=zh hm;clear hK hm had HM K;(try simp only[zQ]);refine zd ?_;refine NoPanic.normal ?_;clear hSS y0;go_wp2_with fail;exact⟨⟨j+1,P',by omega,by go_num,HD2⟩,by simp[intOf];omega⟩
  ·obtain rfl:j=gK:=by omega
   have hj1:¬ (j:Int)<(j:Int):=by omega
   obtain⟨r0,hr0⟩:∃ r:RS,r=⟨newS K.p.vs s,0,List.replicate K.p.prs.length 0⟩:=⟨_,rfl⟩
   have uB:=zh hr0;have hrun:=DoI.run (g:=g) HK.out HD.out (by rw[eY.out];exact HN.out.2) (by rw[eY.out];exact HQ.out.1) (by rw[eY.out];exact HQ.out.2.1) (by rw[eY.out];exact mH.out) back hr0 (o:=o) (by rw[hr0,eY.out];exact HO.out) bE.out;obtain⟨hrf,wG,hkp,⟨Ag,cg,hcl,hcg,y7⟩,hx⟩:=hrun;have yz:=zh hkp;have AJ:=zh hrf;have xe:=zh wG;have fK:=zh (And.intro hcl hcg);have HX:Hid (Calls Tryz.prog 45 #[.pointer (some ⟨rb,0,none⟩),nv p.m.k p.m.n p.m.s A3 p.m.ks.length c3,.bool back] wr fun en w'=>(∃ u,en=.returned u)/\RunM K P wr r0 o w'):=zh (by
    have e:nv K.p.m.k K.p.m.n K.p.m.s K.A3 K.p.m.ks.length K.c3=nv p.m.k p.m.n p.m.s A3 p.m.ks.length c3:=by rw[eY.out]
    rw[<-e];exact hx)
   have hx0:=HD.out.bx (b0,O0) (by rw[ax.out];simp);rw[ik.out.1] at hx0;have y2:wr.cell? ⟨b0,2,none⟩=some (.int .u8 p.m.k):=zc hx0 rfl;have y3:wr.cell? ⟨b0,3,none⟩=some (.int .i64 p.m.n):=zc hx0 rfl;have y4:wr.cell? ⟨b0,4,none⟩=some (.string p.m.s):=zc hx0 rfl;have y5:wr.cell? ⟨b0,5,none⟩=some (.slice A3 p.m.ks.length c3):=zc hx0 rfl;clear hx hx0 hrf wG hr0 hcl hcg hkp;go_wp2_with fail;refine HX.out.mono ?_;rintro e w6 ⟨⟨u,rfl⟩,hm⟩;clear y0 y2 y3 y4 y5 y7 HX
   cases o with
   | gas=>exact absurd rfl bE.out
   | err x =>
    have lF:Below W.heap.size W w6:=by
     have h1:=AJ.out.bl;rw[eY.out] at h1;exact h1.trans (hm.2.below h1.size fun b ⟨y,hy⟩=>by have h2:=(AJ.out.rws.lt y b hy).1;rw[eY.out] at h2;exact h2)
    obtain⟨hx0,y14⟩:=hm.1;rw[HD.out.rb] at y14;have e1:(x != 0)=true:=by simpa using hx0
    have hk1:=hm.2.keep (HD.out.bx (b0+1,O1) (by rw[ax.out];simp)) (xe.out _ (by rw[ax.out];simp));have hk2:=hm.2.keep (HD.out.bx (b0+1+1,O2) (by rw[ax.out];simp)) (xe.out _ (by rw[ax.out];simp));rw[ik.out.2.1] at hk1;rw[ik.out.2.2.1] at hk2;have HX0:=zh hx0;clear hm hx0;go_upto_region 10 with fail;have hS2:∀ w',Below w6.heap.size w6 w'->(fun w':World=>(w'.cell? ⟨b0+1,0,none⟩=some (.slice A s.cells.length c)/\w'.cell? ⟨b0+1,1,none⟩=some (.slice B s.tin.length d)/\w'.cell? ⟨b0+1,2,none⟩=some (.slice D s.tout.length e))/\w'.cell? ⟨rb,14,none⟩=some (.int .i64 x)) w'/\(fun _:World=>True) w':=fun w' hb=>by
     have h1:=zkf hk1 hb;exact⟨⟨⟨zc h1 rfl,zc h1 rfl,zc h1 rfl⟩,zb hb y14⟩,trivial⟩
    have HS2:=zh hS2;have jK:=zh lF;have aH:=zh hk1;have df:=zh hk2;have had:=(pI.out w6.drew (zka lF (Below.refl _ _).drew))
    have hSS:=hS2 _ (Below.refl w6.heap.size w6).drew;clear hS2 lF hk1 hk2 y14;refine wp_region_noPanic ?_;refine zkd (fun w':World=>(w'.cell? ⟨b0+1,0,none⟩=some (.slice A s.cells.length c)/\w'.cell? ⟨b0+1,1,none⟩=some (.slice B s.tin.length d)/\w'.cell? ⟨b0+1,2,none⟩=some (.slice D s.tout.length e))/\w'.cell? ⟨rb,14,none⟩=some (.int .i64 x)) (fun _:World=>True) 6 (by kernel_rfl) ?_;refine zT 0 hSS ?_;(try simp only[zQ]);refine zT 2 hSS ?_;(try simp only[zQ]);refine zT 3 hSS ?_;(try simp only[zQ]);refine zT 4 hSS ?_;(try simp only[zQ]);refine zT 5 hSS ?_;(try simp only[zQ]);refine zo 1 fun K hK=>?_;refine zkj (by rfl) (.func 43) [.tmp 66] _ (by rfl) 43 _ zsT (by rfl) _ (by rfl) (fun v' w'=>OwnS w' w6.heap.size s v'/\Below w6.heap.size w6 w') (had.mono fun e w' h=>by obtain⟨v',h1,h2,h3⟩:=h;exact⟨v',h1,h2,zka (Below.refl w6.heap.size w6).drew h3⟩) ?_
    rintro v7 w7 ⟨gW,oP⟩;obtain⟨A7,c7,B7,d7,D7,e7,rfl⟩:=gW.slices;have gH:=zh gW;have uV:=zh oP;have hSS:=HS2.out _ oP;refine hK _ _ hSS ?_;clear hK had gW K;(try simp only[zQ]);have ll:=zkf df.out oP;have q0:w7.cell? ⟨b0+1+1,0,none⟩=some (.slice none 0 0):=zc ll rfl;have q1:w7.cell? ⟨b0+1+1,1,none⟩=some (.slice none 0 0):=zc ll rfl;have q2:w7.cell? ⟨b0+1+1,2,none⟩=some (.slice none 0 0):=zc ll rfl;have cf:∀ j,w7.frozen? ⟨b0+1+1,j,none⟩=false:=fun j=>zf ll;have hch:Chg (fun b=>b=b0+1+1) w7 (((w7.setCell ⟨b0+1+1,0,none⟩ (.slice A7 s.cells.length c7)).setCell ⟨b0+1+1,1,none⟩ (.slice B7 s.tin.length d7)).setCell ⟨b0+1+1,2,none⟩ (.slice D7 s.tout.length e7)) :=
     (((Chg.refl (fun b=>b=b0+1+1) w7).setCell (p:=⟨b0+1+1,0,none⟩) (.inl rfl) _).setCell (p:=⟨b0+1+1,1,none⟩) (.inl rfl) _).setCell (p:=⟨b0+1+1,2,none⟩) (.inl rfl) _
    have hh:=heap_setCell_same _ (b0+1+1) 2 _ _ (.slice D7 s.tout.length e7) (heap_setCell_same _ (b0+1+1) 1 _ _ (.slice B7 s.tin.length d7) (heap_setCell_same w7 (b0+1+1) 0 _ _ (.slice A7 s.cells.length c7) ll));clear ll oP;refine zp 6 fun K hK=>?_;(try simp only[zA,zB,zC]);go_simp;obtain⟨w8,hw8⟩:∃ x,((w7.setCell ⟨b0+1+1,0,none⟩ (.slice A7 s.cells.length c7)).setCell ⟨b0+1+1,1,none⟩ (.slice B7 s.tin.length d7)).setCell ⟨b0+1+1,2,none⟩ (.slice D7 s.tout.length e7)=x:=⟨_,rfl⟩
    rw[hw8] at hch hh ⊢;have hrlt:=World.block_lt_of_cell? w7 _ hSS.1.2;have sN:=hch.keep (zkf aH.out uV.out) (by omega);have hne:rb≠b0+1+1:=by
     have h1:=yj.out;have h2:=mK.out;have h3:=ag.out;have h4:=zku df.out;have h5:=zku Ar.out;have h6:=HD.out.bx (tb,O3) (by rw[ax.out];simp);have h7:=xe.out (b0+1+1,O2) (by rw[ax.out];simp);intro e;exact h7 ⟨.run,by show some P.rb=_;rw[HD.out.rb,e]⟩
    have tX:(fun w':World=>(w'.cell? ⟨b0+1,0,none⟩=some (.slice A s.cells.length c)/\w'.cell? ⟨b0+1,1,none⟩=some (.slice B s.tin.length d)/\w'.cell? ⟨b0+1,2,none⟩=some (.slice D s.tout.length e))/\w'.cell? ⟨rb,14,none⟩=some (.int .i64 x)) w8:=⟨⟨zc sN rfl,zc sN rfl,zc sN rfl⟩,zks hSS.1.2 (hch.block _ hrlt hne)⟩
    refine hK.out _ _ tX ?_;clear hK K hSS;(try simp only[zQ]);have t0:w8.cell? ⟨b0+1+1,0,none⟩=some (.slice A7 s.cells.length c7):=zc hh (by simp);have t1:w8.cell? ⟨b0+1+1,1,none⟩=some (.slice B7 s.tin.length d7):=zc hh (by simp);have t2:w8.cell? ⟨b0+1+1,2,none⟩=some (.slice D7 s.tout.length e7):=zc hh (by simp);refine zlM (i:=7) (v:=?_) rfl (by kernel_rfl) (by kernel_rfl) (by kernel_rfl) (by decide) (by kernel_rfl) (fun _ _ _ h=>h) (Or.inl ⟨by rfl,?_⟩) tX ?_;rotate_left 1
    ·(intro w hSw;(try dsimp only at hSw);(try simp only[zA,zB,zC]);go_simp;(try with_reducible rfl))
    (try simp only[zQ]);refine zlM (i:=8) (v:=?_) rfl (by kernel_rfl) (by kernel_rfl) (by kernel_rfl) (by decide) (by kernel_rfl) (fun _ _ _ h=>h) (Or.inl ⟨by rfl,?_⟩) tX ?_;rotate_left 1
    ·(intro w hSw;(try dsimp only at hSw);(try simp only[zA,zB,zC]);go_simp;(try with_reducible rfl))
    (try simp only[zQ]);refine zlM (i:=9) (v:=?_) rfl (by kernel_rfl) (by kernel_rfl) (by kernel_rfl) (by decide) (by kernel_rfl) (fun _ _ _ h=>h) (Or.inl ⟨by rfl,?_⟩) tX ?_;rotate_left 1
    ·(intro w hSw;(try dsimp only at hSw);(try simp only[zA,zB,zC]);go_simp;(try with_reducible rfl))
    (try simp only[zQ]);refine zd ?_;refine NoPanic.normal ?_;go_wp2_with fail;refine bodyPost_ret (v:=.tuple #[.agg #[.slice A7 s.cells.length c7,.slice B7 s.tin.length d7,.slice D7 s.tout.length e7],.int .i64 0,.int .i64 x,.slice none 0 0]) (by simp[results,Tryz.results22,go_sem,t0,t1,t2]) rfl ?_;have hlim:s.Lim:=by obtain⟨_,_,_,_,_,_,-,-,-,-,-,-,-,h⟩:=nU.out;exact h
    exact⟨none,0,_,rfl,((gH.out.chg hch fun b hb=>by have:=zku df.out;omega).svR hlim).keep (fun q hq _=>.inl (by have:=jK.out.size;omega)) (fun _ _ _=>rfl),fun i hi=>absurd hi (by simp[outR]),Nat.le_refl _,(zka jK.out uV.out).trans (hch.below (zka jK.out uV.out).size fun b hb=>by have:=HB0.out;omega),fun h=>absurd h HX0.out⟩
   | ok r' =>
    obtain⟨P',h6,bA,sq⟩:=hm;have hkp:=yz.out r' rfl;have lF:Below W.heap.size W w6:=by
     have h1:=h6.bl;rw[eY.out] at h1;exact h1
    have y14:=h6.errC.1;rw[sq.rb,HD.out.rb] at y14;have hk2:=bA.chg.keep (HD.out.bx (b0+1+1,O2) (by rw[ax.out];simp)) (xe.out _ (by rw[ax.out];simp));rw[ik.out.2.2.1] at hk2;have hlen:r0.S.cur.cs.length=j:=by rw[uB.out,eY.out];show(List.range p.vs.length).length=j;rw[List.length_range,HN.out.2]
    have hcs:r0.S.cur.cs=List.range j:=by rw[uB.out,eY.out];show List.range p.vs.length=_;rw[HN.out.2]
    have hnc0:r0.S.nc=j:=by rw[uB.out,eY.out];exact HN.out.2
    have HG:=zh (show ∀ j2,j2<j->∃ (a:Addr) (A:Option Addr) (c l:Nat),Ag=some a/\P'.ci j2=.slice A l c/\∀ w',Below w6.heap.size w6 w'->w'.cell? (a.add j2)=some (.pointer (some ⟨P.cb j2,0,none⟩))/\w'.cell? ⟨P.cb j2,0,none⟩=some (.slice A l c) from fun j2 h2=>by
     have h1:=AJ.out.cl.stp bA;obtain⟨A',c',e1,-,h3⟩:=h1;rw[fK.out.1] at e1;injection e1 with e1;subst e1;obtain⟨a,hA,-,h4⟩:=h3 j2 (by rw[hcs];simp[ptrs];exact h2);obtain⟨A2',c2',g1,-,g2,-⟩:=h6.celC (id:=j2) (by omega);rw[sq.cb j2 (by omega)] at g2;exact⟨a,A2',c2',_,hA,g1,fun w' hb=>⟨zb hb (by rw[h4];simp[ptrs,hcs]),zb hb g2⟩⟩)
    have hlp:=h6.box;have H6:=zh h6;have uq:=zh bA;have HSQ:=zh sq;have oz:=zh hkp;have jK:=zh lF;have qG:=zh hk2;have yt:=zh (zrX w6 P'.ci);have uD:=zh (show Below w6.heap.size w6 (w6.alloc (.cells #[.slice none 0 0,.slice none 0 0,.slice none 0 0] 32)) from zkc (Below.refl _ _) _);obtain⟨ob,aL⟩:∃ b,w6.heap.size=b:=⟨_,rfl⟩
    have fu:=zh aL;rw[aL] at yt;have h32:j<=32:=by have h1:=(zmh HQ.out.2.2.2).1;have h2:=HN.out.2;omega
    clear hkp lF h6 bA sq hk2 hlen hcs hnc0 hlp aL;go_upto_region 12 with fail;rw[fu.out];obtain⟨w7,hw7⟩:∃ x,w6.alloc (.cells #[.slice none 0 0,.slice none 0 0,.slice none 0 0] 32)=x:=⟨_,rfl⟩
    rw[hw7] at yt uD ⊢;rw[fu.out] at uD;clear hw7 y14;have HI0:=yt;go_wp2_with fail
    go_loopw [17] (fun x wr=>∃ (j2:Nat) (vc:Value),j2<=j/\x=.int .i64 j2/\Hid (Below ob w6 wr)/\Hid (Rws wr ob (famO vc ob j2 P'.ci))) (fun x _=>j-(intOf x).toNat)
    case atStart=>exact⟨0,_,Nat.zero_le _,rfl,uD,HI0⟩
    case round =>
     clear HI0 yt uD;obtain⟨j2,vc,hj2,rfl,af,HRW⟩:=hrel;have hbw:Below w6.heap.size w6 wr:=by rw[fu.out];exact af.out
     by_cases hlt:j2<j
     ·have hj1:(j2:Int)<(j:Int):=by omega
      have hj0:(0:Int)<=(j2:Int):=by omega
      obtain⟨a,Aj,cj,lj,hAg,hci,hgf⟩:=HG.out j2 hlt;subst hAg;obtain⟨Av,cv,dB,-⟩:=zkh (show wr.ownsRow ob 30 1 vc j2 ((List.range j2).map P'.ci) from HRW.out.row false);subst dB;have x0:wr.cell? ⟨ob,0,none⟩=some (.slice Av j2 cv):=HRW.out.cell true (g:=ob) rfl (o:=0) rfl;have Bf:=zh hgf;have gJ:=zh hci;have hS0:(fun w':World=>w'.cell? (a.add j2)=some (.pointer (some ⟨P.cb j2,0,none⟩))/\w'.cell? ⟨P.cb j2,0,none⟩=some (.slice Aj lj cj)) wr.drew/\(fun w':World=>w'.cell? ⟨ob,0,none⟩=some (.slice Av j2 cv)) wr.drew:=⟨hgf _ (zka hbw (Below.refl _ _).drew),x0⟩
      obtain⟨i0,hi0,hq0,hq1,hq2⟩:=info_parts zq3;have h1:=zwJ;clear hgf hci;go_upto_region 15 with fail;refine wp_region_noPanic ?_;refine zkd (fun w':World=>w'.cell? (a.add j2)=some (.pointer (some ⟨P.cb j2,0,none⟩))/\w'.cell? ⟨P.cb j2,0,none⟩=some (.slice Aj lj cj)) (fun w':World=>w'.cell? ⟨ob,0,none⟩=some (.slice Av j2 cv)) 12 (by kernel_rfl) ?_;refine zT 0 hS0 ?_;(try simp only[zQ]);refine zko (i:=1) (v:=?_) rfl (by kernel_rfl) (by kernel_rfl) (by kernel_rfl) (by decide) rfl (by kernel_rfl) (by kernel_rfl) (fun _ _ _ h=>h) (Or.inl ⟨by rfl,?_⟩) hS0 ?_;rotate_left 1
      ·(intro w hSw;(try dsimp only at hSw);(try simp only[zA,zB,zC]);go_simp;(try with_reducible rfl))
      (try simp only[zQ]);refine zT 2 hS0 ?_;(try simp only[zQ]);refine zT 3 hS0 ?_;(try simp only[zQ]);refine zT 4 hS0 ?_;(try simp only[zQ]);refine zT 5 hS0 ?_;(try simp only[zQ]);refine zT 6 hS0 ?_;(try simp only[zQ]);refine zT 7 hS0 ?_;(try simp only[zQ]);refine zT 8 hS0 ?_;(try simp only[zQ]);refine zo 9 fun K hK=>?_;(try simp only[zA,zB,zC]);go_simp;obtain⟨wa,gL⟩:∃ x,(wr.alloc (.cells #[.slice Aj lj cj] 30)).drew=x:=⟨_,rfl⟩
      have dJ:=zh (show Below wr.heap.size wr wa from gL▸(zkc (Below.refl wr.heap.size wr) (.cells #[.slice Aj lj cj] 30)).drew);have hNA:wa.heap[wr.heap.size]?=some (.cells #[.slice Aj lj cj] 30 (0,0)):=by rw[<-gL];exact heap_alloc_new wr _
      rw[gL];have hS1:(fun w':World=>w'.cell? (a.add j2)=some (.pointer (some ⟨P.cb j2,0,none⟩))/\w'.cell? ⟨P.cb j2,0,none⟩=some (.slice Aj lj cj)) wa/\(fun w':World=>w'.cell? ⟨ob,0,none⟩=some (.slice Av j2 cv)) wa:=⟨Bf.out _ (zka hbw dJ.out),zb dJ.out x0⟩
      refine hK.out _ _ hS1 ?_;clear hK K gL hS0;(try simp only[zQ]);have hrow:=zkJ (show wr.ownsRow ob 30 1 (.slice Av j2 cv) j2 ((List.range j2).map P'.ci) from HRW.out.row false) dJ.out;have hsz:ob<=wa.heap.size:=by have h1:=hbw.size;have h2:=dJ.out.size;have h3:=fu.out;omega
      refine zo 10 fun K hK=>?_;refine zkI (by rfl) (.tmp 79) (.tmp 87) 29 (by rfl) ob 30 i0 _ 1 24 Tryz.underlying29 hi0 hq0 hq1 hq2 rfl (by decide) (.slice Av j2 cv) j2 ((List.range j2).map P'.ci) (by rfl) hrow ⟨wr.heap.size,0,none⟩ 1 1 [.slice Aj lj cj] (by rfl) rfl (fun q u hq=>by
       match q,hq with
       | 0,hq=>injection hq with hq;subst hq;exact zc hNA rfl) (fun u hu=>by simp at hu;subst hu;rfl) (by unfold maxLen;omega) (by omega) hsz (fun vd wd ho hg aL=>?_)
      obtain⟨g1,g2,g3,g4,g5⟩:=zs2 dJ.out HRW.out (by have h1:=hbw.size;have h3:=fu.out;omega) (by rw[gJ.out];exact ho) hg aL;have HR1:=zh g1;have HB1:=zh (af.out.trans g5);have hbd:Below w6.heap.size w6 wd:=by rw[fu.out];exact af.out.trans g2
      obtain⟨Ad,cd,rfl,-⟩:=zkh ho;have hS2:(fun w':World=>w'.cell? (a.add j2)=some (.pointer (some ⟨P.cb j2,0,none⟩))/\w'.cell? ⟨P.cb j2,0,none⟩=some (.slice Aj lj cj)) wd/\(fun w':World=>w'.cell? ⟨ob,0,none⟩=some (.slice Av j2 cv)) wd:=⟨Bf.out _ hbd,g3⟩
      refine hK _ _ hS2 ?_;clear hK K hS1 ho hg aL g1 g2 g5 hrow hNA;(try simp only[zQ]);refine zo 11 fun K hK=>?_;(try simp only[zA,zB,zC]);go_simp;refine hK.out _ _ hS2 ?_;clear hK K;(try simp only[zQ]);refine zp 12 fun K hK=>?_;(try simp only[zA,zB,zC]);go_simp;refine hK.out _ _ (Bf.out _ (by rw[fu.out];exact HB1.out)) ?_;clear hK K hS2 g3 g4 x0 h1;(try simp only[zQ]);refine zd ?_;refine NoPanic.normal ?_;go_wp2_with fail;exact⟨⟨j2+1,_,by omega,by go_num,HB1,HR1⟩,by simp[intOf];omega⟩
     ·obtain rfl:j2=j:=by omega
      have hj1:¬ (j2:Int)<(j2:Int):=by omega
      have hrf7:=H6.out.later hbw;obtain⟨⟨-,-,y8,y9,-,bB,-,y13,-⟩,-,-⟩:=hrf7.box;rw[HSQ.out.rb,HD.out.rb] at y8 y9 bB y13;have hnoint:∀ (o:Nat) (x:Int),(#[Value.slice none 0 0,Value.slice none 0 0,Value.slice none 0 0]:Array Value)[o]?≠some (.int .i64 x):=fun o x=>by
       match o with
       | 0=>simp
       | 1=>simp
       | 2=>simp
       | n+3=>simp
      obtain⟨⟨lX,lI,aV,hi1,hi2⟩,⟨lW,lH,hov,ho1,ho2⟩,⟨rE,qQ,hev,he1,he2⟩,hcs⟩:=H6.out.out oz.out.2 qG.out hnoint;rw[aV] at y8;rw[hov] at y9;rw[hev] at y13;obtain⟨Av,cv,dB,-⟩:=zkh (show wr.ownsRow ob 30 1 vc j2 ((List.range j2).map P'.ci) from HRW.out.row false);subst dB;have hbx:=zlK (HRW.out.row true);have u1:wr.cell? ⟨ob,1,none⟩=some (.slice none 0 0):=zc hbx rfl;have u2:wr.cell? ⟨ob,2,none⟩=some (.slice none 0 0):=zc hbx rfl;have uf:∀ q,wr.frozen? ⟨ob,q,none⟩=false:=fun q=>zf hbx;have hrlt:=(H6.out.rws.lt .run rb (by show some P'.rb=some rb;rw[HSQ.out.rb,HD.out.rb])).2;have hne:rb≠ob:=by have h3:=fu.out;omega
      have hA:=(HRW.out.set true (g:=ob) rfl (o:=1) (by show 1<3;decide) (.slice lX r'.S.tin.length lI)).set true (g:=ob) (by rw[zkk];rfl) (o:=2) (by rw[zkk];show 2<3;decide) (.slice lW r'.S.tout.length lH);have HFIX:=zh (And.intro (And.intro hi1 hi2) (And.intro (And.intro ho1 ho2) (And.intro he1 (And.intro he2 hcs))));have iX:=zh (And.intro aV (And.intro hov hev));obtain⟨lt,hlt1⟩:∃ n,r'.S.tin.length=n:=⟨_,rfl⟩
      obtain⟨lo,hlo1⟩:∃ n,r'.S.tout.length=n:=⟨_,rfl⟩
      obtain⟨le,hle1⟩:∃ n,r'.ent.length=n:=⟨_,rfl⟩
      have vL:=zh (And.intro hlt1 (And.intro hlo1 hle1));rw[hlt1] at y8 hA;rw[hlo1] at y9 hA;rw[hle1] at y13;have HAA:=zh hA;clear hrf7 hnoint aV hov hev hi1 hi2 ho1 ho2 he1 he2 hcs hlt1 hlo1 hle1 hA hbx;go_upto_region 18 with fail;have lD:Chg (fun b=>b=ob) wr ((wr.setCell ⟨ob,1,none⟩ (.slice lX lt lI)).setCell ⟨ob,2,none⟩ (.slice lW lo lH)):=((Chg.refl (fun b=>b=ob) wr).setCell (p:=⟨ob,1,none⟩) (.inl rfl) _).setCell (p:=⟨ob,2,none⟩) (.inl rfl) _;obtain⟨w8,hw8⟩:∃ x,(wr.setCell ⟨ob,1,none⟩ (.slice lX lt lI)).setCell ⟨ob,2,none⟩ (.slice lW lo lH)=x:=⟨_,rfl⟩
      have hA:=HAA.out;rw[hw8] at lD hA ⊢;have nJ:w8.heap[ob]?=some (.cells #[.slice Av j2 cv,.slice lX lt lI,.slice lW lo lH] 32 (0,0)):=by
       have h1:=hA.row true;rw[zkk,zkk] at h1;exact zlK h1
      have sH:∀ b,b<w6.heap.size->w8.heap[b]?=w6.heap[b]?:=fun b hb=>(lD.block b (Nat.lt_of_lt_of_le hb hbw.size) (by have h3:=fu.out;omega)).trans (hbw.block b hb);have lh:w8.heap[b0+1+1]?=_:=(sH _ (zku qG.out)).trans qG.out;have hb2o:b0+1+1<ob:=by have h1:=zku qG.out;have h3:=fu.out;omega
      have hrn:rb≠b0+1+1:=fun e=>xe.out (b0+1+1,O2) (by rw[ax.out];simp) ⟨.run,by show some P.rb=_;rw[HD.out.rb,e]⟩;have v11:w8.cell? ⟨rb,11,none⟩=some (.int .i64 (r'.n:Int)):=zks bB (lD.block rb (by have h1:=hbw.size;omega) hne);have v13:w8.cell? ⟨rb,13,none⟩=some (.slice rE le qQ):=zks y13 (lD.block rb (by have h1:=hbw.size;omega) hne);have tX:(fun w':World=>(w'.cell? ⟨ob,0,none⟩=some (.slice Av j2 cv)/\w'.cell? ⟨ob,1,none⟩=some (.slice lX lt lI)/\w'.cell? ⟨ob,2,none⟩=some (.slice lW lo lH))/\w'.cell? ⟨rb,11,none⟩=some (.int .i64 (r'.n:Int))/\w'.cell? ⟨rb,13,none⟩=some (.slice rE le qQ)) w8:=⟨⟨zc nJ rfl,zc nJ rfl,zc nJ rfl⟩,v11,v13⟩
      have hSS:(fun w':World=>(w'.cell? ⟨ob,0,none⟩=some (.slice Av j2 cv)/\w'.cell? ⟨ob,1,none⟩=some (.slice lX lt lI)/\w'.cell? ⟨ob,2,none⟩=some (.slice lW lo lH))/\w'.cell? ⟨rb,11,none⟩=some (.int .i64 (r'.n:Int))/\w'.cell? ⟨rb,13,none⟩=some (.slice rE le qQ)) w8.drew/\(fun _:World=>True) w8.drew:=⟨tX,trivial⟩
      have q0:w8.cell? ⟨b0+1+1,0,none⟩=some (.slice none 0 0):=zc lh rfl;have q1:w8.cell? ⟨b0+1+1,1,none⟩=some (.slice none 0 0):=zc lh rfl;have q2:w8.cell? ⟨b0+1+1,2,none⟩=some (.slice none 0 0):=zc lh rfl;have cf:∀ j,w8.frozen? ⟨b0+1+1,j,none⟩=false:=fun j=>zf lh;have hch:Chg (fun b=>b=b0+1+1) w8 (((w8.setCell ⟨b0+1+1,0,none⟩ (.slice Av j2 cv)).setCell ⟨b0+1+1,1,none⟩ (.slice lX lt lI)).setCell ⟨b0+1+1,2,none⟩ (.slice lW lo lH)) :=
       (((Chg.refl (fun b=>b=b0+1+1) w8).setCell (p:=⟨b0+1+1,0,none⟩) (.inl rfl) _).setCell (p:=⟨b0+1+1,1,none⟩) (.inl rfl) _).setCell (p:=⟨b0+1+1,2,none⟩) (.inl rfl) _
      have hh:=heap_setCell_same _ (b0+1+1) 2 _ _ (.slice lW lo lH) (heap_setCell_same _ (b0+1+1) 1 _ _ (.slice lX lt lI) (heap_setCell_same w8 (b0+1+1) 0 _ _ (.slice Av j2 cv) lh));have fA:=zh hh;have dU:=zh hch.drew;have HA8:=zh hA;have HC8:=zh lD;have HBX8:=zh nJ;have HLT6:=zh sH;clear hh hch hA lD hw8 nJ sH lh y8 y9 bB y13 u1 u2 uf;refine wp_region_noPanic ?_;refine zkd (fun w':World=>(w'.cell? ⟨ob,0,none⟩=some (.slice Av j2 cv)/\w'.cell? ⟨ob,1,none⟩=some (.slice lX lt lI)/\w'.cell? ⟨ob,2,none⟩=some (.slice lW lo lH))/\w'.cell? ⟨rb,11,none⟩=some (.int .i64 (r'.n:Int))/\w'.cell? ⟨rb,13,none⟩=some (.slice rE le qQ)) (fun _:World=>True) 9 (by kernel_rfl) ?_;refine zT 0 hSS ?_;(try simp only[zQ]);refine zT 1 hSS ?_;(try simp only[zQ]);refine zT 2 hSS ?_;(try simp only[zQ]);refine zT 3 hSS ?_;(try simp only[zQ]);refine zT 4 hSS ?_;(try simp only[zQ])
      refine zT 5 hSS ?_;(try simp only[zQ]);refine zT 6 hSS ?_;(try simp only[zQ]);refine zT 7 hSS ?_;(try simp only[zQ]);refine zT 8 hSS ?_;(try simp only[zQ]);refine zp 9 fun K hK=>?_;(try simp only[zA,zB,zC]);go_simp;obtain⟨w9,bH⟩:∃ x,(((w8.setCell ⟨b0+1+1,0,none⟩ (.slice Av j2 cv)).setCell ⟨b0+1+1,1,none⟩ (.slice lX lt lI)).setCell ⟨b0+1+1,2,none⟩ (.slice lW lo lH)).drew=x:=⟨_,rfl⟩
      have fA:=zh ((congrArg (fun w:World=>w.heap[b0+1+1]?) bH).symm.trans fA.out);rw[bH] at dU ⊢;have xO:(fun w':World=>(w'.cell? ⟨ob,0,none⟩=some (.slice Av j2 cv)/\w'.cell? ⟨ob,1,none⟩=some (.slice lX lt lI)/\w'.cell? ⟨ob,2,none⟩=some (.slice lW lo lH))/\w'.cell? ⟨rb,11,none⟩=some (.int .i64 (r'.n:Int))/\w'.cell? ⟨rb,13,none⟩=some (.slice rE le qQ)) w9:=by
       have tJ:=dU.out.keep HBX8.out (by omega);have hrs:rb<w8.heap.size:=World.block_lt_of_cell? w8 _ v11;exact⟨⟨zc tJ rfl,zc tJ rfl,zc tJ rfl⟩,zks v11 (dU.out.block rb hrs hrn),zks v13 (dU.out.block rb hrs hrn)⟩
      refine hK.out _ _ xO ?_;clear hK K hSS tX q0 q1 q2 cf v11 v13 bH;(try simp only[zQ]);refine zlM (i:=10) (v:=?_) rfl (by kernel_rfl) (by kernel_rfl) (by kernel_rfl) (by decide) (by kernel_rfl) (fun _ _ _ h=>h) (Or.inl ⟨by rfl,?_⟩) xO ?_;rotate_left 1
      ·(intro w hSw;(try dsimp only at hSw);(try simp only[zA,zB,zC]);go_simp;(try with_reducible rfl))
      (try simp only[zQ]);refine zlM (i:=11) (v:=?_) rfl (by kernel_rfl) (by kernel_rfl) (by kernel_rfl) (by decide) (by kernel_rfl) (fun _ _ _ h=>h) (Or.inl ⟨by rfl,?_⟩) xO ?_;rotate_left 1
      ·(intro w hSw;(try dsimp only at hSw);(try simp only[zA,zB,zC]);go_simp;(try with_reducible rfl))
      (try simp only[zQ]);refine zlM (i:=12) (v:=?_) rfl (by kernel_rfl) (by kernel_rfl) (by kernel_rfl) (by decide) (by kernel_rfl) (fun _ _ _ h=>h) (Or.inl ⟨by rfl,?_⟩) xO ?_;rotate_left 1
      ·(intro w hSw;(try dsimp only at hSw);(try simp only[zA,zB,zC]);go_simp;(try with_reducible rfl))
      (try simp only[zQ]);refine zd ?_;refine NoPanic.normal ?_;have t0:w9.cell? ⟨b0+1+1,0,none⟩=some (.slice Av j2 cv):=zc fA.out (by simp);have t1:w9.cell? ⟨b0+1+1,1,none⟩=some (.slice lX lt lI):=zc fA.out (by simp);have t2:w9.cell? ⟨b0+1+1,2,none⟩=some (.slice lW lo lH):=zc fA.out (by simp);go_wp2_with fail;refine bodyPost_ret (v:=.tuple #[.agg #[.slice Av j2 cv,.slice lX lt lI,.slice lW lo lH],.int .i64 (r'.n:Int),.int .i64 0,.slice rE le qQ]) (by simp[results,Tryz.results22,go_sem,t0,t1,t2]) rfl ?_;obtain⟨⟨hi1,hi2⟩,⟨ho1,ho2⟩,he1,he2,hcs⟩:=HFIX.out;obtain⟨hlt1,hlo1,hle1⟩:=vL.out;have hkk:∀ b,b≠b0+1+1->b<w6.heap.size->w9.heap[b]?=w6.heap[b]?:=fun b h1 h2=>(dU.out.block b (show b<w8.heap.size by have h3:=HC8.out.size;have h4:=hbw.size;omega) h1).trans (HLT6.out b h2)
      have iD:∀ {A:Option Addr} {l:List Int},RowI w6 (fun q=>q≠b0+1+1) A l->RowI w9 Any A l:=fun h=>h.keep (fun _ _ _=>trivial) hkk;have hrow:=(HA8.out.chg (dU.out:Chg (fun b=>b=b0+1+1) w8 w9) (fun i b hb e=>by have h1:=(HA8.out.lt i b hb).1;omega)).row false;rw[zkb (by simp),zkb (by simp)] at hrow;have hsv:=zw8 (w:=w9) (n0:=ob) (n:=j2) (r:=r') (fc:=P'.ci) H6.out.inv.wf oz.out.2 (by omega) (by rw[oz.out.1]) (by rw[oz.out.1]) hrow ⟨_,_,by rw[hlt1],hi1,iD hi2⟩ ⟨_,_,by rw[hlo1],ho1,iD ho2⟩ (fun i hi=>by
       obtain⟨A',c',g1,g2,g3⟩:=hcs i hi;exact⟨A',c',g1,g2,iD g3⟩)
      have nL:Below W.heap.size W w8:=(zka jK.out hbw).trans (HC8.out.below (zka jK.out hbw).size fun b hb=>by have h1:=jK.out.size;have h3:=fu.out;omega);exact⟨rE,qQ,_,by show _=Ending.returned (.tuple #[_,_,_,.slice rE r'.ent.length qQ]);rw[hle1];rfl,hsv.keep (fun q hq _=>hq.elim (fun h=>.inl (by have h1:=jK.out.size;have h3:=fu.out;omega)) .inr) (fun _ _ _=>rfl),(iD he2).int,he1,nL.trans ((dU.out:Chg (fun b=>b=b0+1+1) w8 w9).below nL.size fun b hb=>by have h1:=HB0.out;omega),fun _=>by show(ST.state r'.S).cells.length<=1000;simp only[ST.state,List.length_map,List.length_take,oz.out.1,List.length_range];omega⟩
def FwP (W:World) (R:SS×Nat×Int×List Nat) (e:Ending) (W':World):Prop:=∃ v1 v2 v3,e=.returned (.agg #[v1,v2,v3,.int .i64 (R.2.1:Int),.int .i64 R.2.2.1]) /\
 OwnS W' W.heap.size R.1 (.agg #[v1,v2,v3])/\Below W.heap.size W W'/\LimR R
theorem zqV (p:PG) (s:SS) (F:Int) (g:Nat) (v sv:Value) (W:World) (hp:PV W Any p v) (hs:SV W Any s sv) (hcl:s.cells.length<=5864062014800) (hF:I64 F) (jm:F<=1000000) (hg:F.toNat*2000+2000<=g) (hfam:Fam p) :
  Calls Tryz.prog 8 #[v,sv,.int .i64 F] W (FwP W (resO p s F g false)):=by
 have AQ:=zh hp;have Az:=zh hs;obtain⟨A1,c1,A2,c2,A3,c3,rfl,dK⟩:=hp;obtain⟨A,c,B,d,D,e,rfl,hr1,hr2,hr3,hc1,hc2,hc3,hl1,hl2,hl3,hl4⟩:=hs;have HST:=zh (fun w' (hb:Below W.heap.size W w')=>zpI p s F g false _ _ w' (AQ.out.later hb) (Az.out.later hb) hcl hF jm hg hfam);have hb3:=zkc (zkc (zkc (Below.refl W.heap.size W) (.cells #[.slice A1 p.vs.length c1,.slice A2 p.prs.length c2,.int .u8 p.m.k,.int .i64 p.m.n,.string p.m.s,.slice A3 p.m.ks.length c3] 28)) (.cells #[.slice A s.cells.length c,.slice B s.tin.length d,.slice D s.tout.length e] 32)) (.cells #[.slice none 0 0,.slice none 0 0,.slice none 0 0,.int .i64 0,.int .i64 0] 37)
 have k2:=heap_alloc_new ((W.alloc (.cells #[.slice A1 p.vs.length c1,.slice A2 p.prs.length c2,.int .u8 p.m.k,.int .i64 p.m.n,.string p.m.s,.slice A3 p.m.ks.length c3] 28)).alloc (.cells #[.slice A s.cells.length c,.slice B s.tin.length d,.slice D s.tout.length e] 32)) (.cells #[.slice none 0 0,.slice none 0 0,.slice none 0 0,.int .i64 0,.int .i64 0] 37);simp only[World.size_alloc] at k2;obtain⟨Re,hRe⟩:∃ R,resO p s F g false=R:=⟨_,rfl⟩
 rw[hRe] at HST;have HR:=zh hRe;have HB3:=zh hb3;have df:=zh k2;have hz3:W.heap.size+3<=(((W.alloc (.cells #[.slice A1 p.vs.length c1,.slice A2 p.prs.length c2,.int .u8 p.m.k,.int .i64 p.m.n,.string p.m.s,.slice A3 p.m.ks.length c3] 28)).alloc (.cells #[.slice A s.cells.length c,.slice B s.tin.length d,.slice D s.tout.length e] 32)).alloc (.cells #[.slice none 0 0,.slice none 0 0,.slice none 0 0,.int .i64 0,.int .i64 0] 37)).heap.size:=by simp
 rw[hRe];clear dK hr1 hr2 hr3 hRe hb3 k2 hl1 hl2 hl3 hl4 hc1 hc2 hc3;clear hfam;go_enter Tryz.func8,Tryz.ntmps8;go_wp2_with fail;refine(HST.out _ HB3.out).mono ?_;rintro e9 w9 ⟨A9,c9,v1,v2,v3,rfl,bG,-,-,bO,ny⟩;have mH:=zh ny;clear ny;obtain⟨A4,c4,B5,d5,D6,e6,h6⟩:=bG.slices;injection h6 with h6;injection h6 with h6;injection h6 with h6 h7;injection h7 with h7 h8;injection h8 with h8 _;subst h6 h7 h8;have gP:=zh bG;have dV:=zh bO;have aN:=zkf df.out bO;have x0:w9.cell? ⟨W.heap.size+1+1,0,none⟩=some (.slice none 0 0):=zc aN rfl;have x1:w9.cell? ⟨W.heap.size+1+1,1,none⟩=some (.slice none 0 0):=zc aN rfl;have x2:w9.cell? ⟨W.heap.size+1+1,2,none⟩=some (.slice none 0 0):=zc aN rfl;have x3:w9.cell? ⟨W.heap.size+1+1,3,none⟩=some (.int .i64 0):=zc aN rfl;have x4:w9.cell? ⟨W.heap.size+1+1,4,none⟩=some (.int .i64 0):=zc aN rfl
 have xf:∀ o,w9.frozen? ⟨W.heap.size+1+1,o,none⟩=false:=fun _=>zf aN;have y0:=fun o=>zkm x0 o;have y1:=fun o=>zkm x1 o;have y2:=fun o=>zkm x2 o;have y3:=fun o=>zkm x3 o;have y4:=fun o=>zkm x4 o;have hlt9:W.heap.size+1+1<w9.heap.size:=zku aN;have jD:=zh aN;clear bG bO aN;go_wp2_with fail;obtain⟨hh,hch⟩:=set5 (u0:=.slice A4 Re.1.cells.length c4) (u1:=.slice B5 Re.1.tin.length d5) (u2:=.slice D6 Re.1.tout.length e6) (u3:=.int .i64 (Re.2.1:Int)) (u4:=.int .i64 Re.2.2.1) jD.out;obtain⟨bW,fQ⟩:∃ zz,(((((w9.setCell ⟨W.heap.size+1+1,0,none⟩ (.slice A4 Re.1.cells.length c4)).setCell ⟨W.heap.size+1+1,1,none⟩ (.slice B5 Re.1.tin.length d5)).setCell ⟨W.heap.size+1+1,2,none⟩ (.slice D6 Re.1.tout.length e6)).setCell ⟨W.heap.size+1+1,3,none⟩ (.int .i64 (Re.2.1:Int))).setCell ⟨W.heap.size+1+1,4,none⟩ (.int .i64 Re.2.2.1))=zz:=⟨_,rfl⟩
 rw[fQ] at hh hch ⊢;obtain⟨bq,dA⟩:∃ zz,bW.alloc (.cells #[.slice A4 Re.1.cells.length c4,.slice B5 Re.1.tin.length d5,.slice D6 Re.1.tout.length e6,.int .i64 (Re.2.1:Int),.int .i64 Re.2.2.1] 37)=zz:=⟨_,rfl⟩
 rw[dA];have t0:bq.cell? ⟨W.heap.size+1+1,0,none⟩=some (.slice A4 Re.1.cells.length c4):=dA▸zkm (zc hh rfl) _;have t1:bq.cell? ⟨W.heap.size+1+1,1,none⟩=some (.slice B5 Re.1.tin.length d5):=dA▸zkm (zc hh rfl) _;have t2:bq.cell? ⟨W.heap.size+1+1,2,none⟩=some (.slice D6 Re.1.tout.length e6):=dA▸zkm (zc hh rfl) _;have t3:bq.cell? ⟨W.heap.size+1+1,3,none⟩=some (.int .i64 (Re.2.1:Int)):=dA▸zkm (zc hh rfl) _;have t4:bq.cell? ⟨W.heap.size+1+1,4,none⟩=some (.int .i64 Re.2.2.1):=dA▸zkm (zc hh rfl) _;refine bodyPost_ret (v:=.agg #[.slice A4 Re.1.cells.length c4,.slice B5 Re.1.tin.length d5,.slice D6 Re.1.tout.length e6,.int .i64 (Re.2.1:Int),.int .i64 Re.2.2.1]) (by simp[results,Tryz.results8,go_sem,t0,t1,t2,t3,t4]) rfl ?_;have hz33:=hz3;have nM:Below W.heap.size W w9:=zka HB3.out dV.out;have nI:Chg (fun b=>b=W.heap.size+1+1) w9 bq:=dA▸hch.alloc _
 have kY:=gP.out.chg nI fun b hb=>by omega
 have lG:=nM.trans (nI.below nM.size fun b hb=>by omega);exact⟨_,_,_,rfl,kY.lower (by omega),lG,mH.out⟩
theorem zqj (p:PG) (s:SS) (F:Int) (g:Nat) (v sv:Value) (W:World) (hp:PV W Any p v) (hs:SV W Any s sv) (hcl:s.cells.length<=5864062014800) (hF:I64 F) (jm:F<=1000000) (hg:F.toNat*2000+2000<=g) (hfam:Fam p) :
  Calls Tryz.prog 11 #[v,sv,.int .i64 F] W (FwP W (resO p s F g true)):=by
 have AQ:=zh hp;have Az:=zh hs;obtain⟨A1,c1,A2,c2,A3,c3,rfl,dK⟩:=hp;obtain⟨A,c,B,d,D,e,rfl,hr1,hr2,hr3,hc1,hc2,hc3,hl1,hl2,hl3,hl4⟩:=hs;have HST:=zh (fun w' (hb:Below W.heap.size W w')=>zpI p s F g true _ _ w' (AQ.out.later hb) (Az.out.later hb) hcl hF jm hg hfam);have hb3:=zkc (zkc (zkc (Below.refl W.heap.size W) (.cells #[.slice A1 p.vs.length c1,.slice A2 p.prs.length c2,.int .u8 p.m.k,.int .i64 p.m.n,.string p.m.s,.slice A3 p.m.ks.length c3] 28)) (.cells #[.slice A s.cells.length c,.slice B s.tin.length d,.slice D s.tout.length e] 32)) (.cells #[.slice none 0 0,.slice none 0 0,.slice none 0 0,.int .i64 0,.int .i64 0] 37)
 have k2:=heap_alloc_new ((W.alloc (.cells #[.slice A1 p.vs.length c1,.slice A2 p.prs.length c2,.int .u8 p.m.k,.int .i64 p.m.n,.string p.m.s,.slice A3 p.m.ks.length c3] 28)).alloc (.cells #[.slice A s.cells.length c,.slice B s.tin.length d,.slice D s.tout.length e] 32)) (.cells #[.slice none 0 0,.slice none 0 0,.slice none 0 0,.int .i64 0,.int .i64 0] 37);simp only[World.size_alloc] at k2;obtain⟨Re,hRe⟩:∃ R,resO p s F g true=R:=⟨_,rfl⟩
 rw[hRe] at HST;have HR:=zh hRe;have HB3:=zh hb3;have df:=zh k2;have hz3:W.heap.size+3<=(((W.alloc (.cells #[.slice A1 p.vs.length c1,.slice A2 p.prs.length c2,.int .u8 p.m.k,.int .i64 p.m.n,.string p.m.s,.slice A3 p.m.ks.length c3] 28)).alloc (.cells #[.slice A s.cells.length c,.slice B s.tin.length d,.slice D s.tout.length e] 32)).alloc (.cells #[.slice none 0 0,.slice none 0 0,.slice none 0 0,.int .i64 0,.int .i64 0] 37)).heap.size:=by simp
 rw[hRe];clear dK hr1 hr2 hr3 hRe hb3 k2 hl1 hl2 hl3 hl4 hc1 hc2 hc3;clear hfam;go_enter Tryz.func11,Tryz.ntmps11;go_wp2_with fail;refine(HST.out _ HB3.out).mono ?_;rintro e9 w9 ⟨A9,c9,v1,v2,v3,rfl,bG,-,-,bO,ny⟩;have mH:=zh ny;clear ny;obtain⟨A4,c4,B5,d5,D6,e6,h6⟩:=bG.slices;injection h6 with h6;injection h6 with h6;injection h6 with h6 h7;injection h7 with h7 h8;injection h8 with h8 _;subst h6 h7 h8;have gP:=zh bG;have dV:=zh bO;have aN:=zkf df.out bO;have x0:w9.cell? ⟨W.heap.size+1+1,0,none⟩=some (.slice none 0 0):=zc aN rfl;have x1:w9.cell? ⟨W.heap.size+1+1,1,none⟩=some (.slice none 0 0):=zc aN rfl;have x2:w9.cell? ⟨W.heap.size+1+1,2,none⟩=some (.slice none 0 0):=zc aN rfl;have x3:w9.cell? ⟨W.heap.size+1+1,3,none⟩=some (.int .i64 0):=zc aN rfl;have x4:w9.cell? ⟨W.heap.size+1+1,4,none⟩=some (.int .i64 0):=zc aN rfl
 have xf:∀ o,w9.frozen? ⟨W.heap.size+1+1,o,none⟩=false:=fun _=>zf aN;have y0:=fun o=>zkm x0 o;have y1:=fun o=>zkm x1 o;have y2:=fun o=>zkm x2 o;have y3:=fun o=>zkm x3 o;have y4:=fun o=>zkm x4 o;have hlt9:W.heap.size+1+1<w9.heap.size:=zku aN;have jD:=zh aN;clear bG bO aN;go_wp2_with fail;obtain⟨hh,hch⟩:=set5 (u0:=.slice A4 Re.1.cells.length c4) (u1:=.slice B5 Re.1.tin.length d5) (u2:=.slice D6 Re.1.tout.length e6) (u3:=.int .i64 (Re.2.1:Int)) (u4:=.int .i64 Re.2.2.1) jD.out;obtain⟨bW,fQ⟩:∃ zz,(((((w9.setCell ⟨W.heap.size+1+1,0,none⟩ (.slice A4 Re.1.cells.length c4)).setCell ⟨W.heap.size+1+1,1,none⟩ (.slice B5 Re.1.tin.length d5)).setCell ⟨W.heap.size+1+1,2,none⟩ (.slice D6 Re.1.tout.length e6)).setCell ⟨W.heap.size+1+1,3,none⟩ (.int .i64 (Re.2.1:Int))).setCell ⟨W.heap.size+1+1,4,none⟩ (.int .i64 Re.2.2.1))=zz:=⟨_,rfl⟩
 rw[fQ] at hh hch ⊢;obtain⟨bq,dA⟩:∃ zz,bW.alloc (.cells #[.slice A4 Re.1.cells.length c4,.slice B5 Re.1.tin.length d5,.slice D6 Re.1.tout.length e6,.int .i64 (Re.2.1:Int),.int .i64 Re.2.2.1] 37)=zz:=⟨_,rfl⟩
 rw[dA];have t0:bq.cell? ⟨W.heap.size+1+1,0,none⟩=some (.slice A4 Re.1.cells.length c4):=dA▸zkm (zc hh rfl) _;have t1:bq.cell? ⟨W.heap.size+1+1,1,none⟩=some (.slice B5 Re.1.tin.length d5):=dA▸zkm (zc hh rfl) _;have t2:bq.cell? ⟨W.heap.size+1+1,2,none⟩=some (.slice D6 Re.1.tout.length e6):=dA▸zkm (zc hh rfl) _;have t3:bq.cell? ⟨W.heap.size+1+1,3,none⟩=some (.int .i64 (Re.2.1:Int)):=dA▸zkm (zc hh rfl) _;have t4:bq.cell? ⟨W.heap.size+1+1,4,none⟩=some (.int .i64 Re.2.2.1):=dA▸zkm (zc hh rfl) _;refine bodyPost_ret (v:=.agg #[.slice A4 Re.1.cells.length c4,.slice B5 Re.1.tin.length d5,.slice D6 Re.1.tout.length e6,.int .i64 (Re.2.1:Int),.int .i64 Re.2.2.1]) (by simp[results,Tryz.results11,go_sem,t0,t1,t2,t3,t4]) rfl ?_;have hz33:=hz3;have nM:Below W.heap.size W w9:=zka HB3.out dV.out;have nI:Chg (fun b=>b=W.heap.size+1+1) w9 bq:=dA▸hch.alloc _
 have kY:=gP.out.chg nI fun b hb=>by omega
 have lG:=nM.trans (nI.below nM.size fun b hb=>by omega);exact⟨_,_,_,rfl,kY.lower (by omega),lG,mH.out⟩
theorem zoB (p:PG) (s:SS) (F:Int) (g:Nat) (v sv:Value) (W:World) (hp:PV W Any p v) (hs:SV W Any s sv) (hcl:s.cells.length<=5864062014800) (hF:I64 F) (jm:F<=1000000) (hg:F.toNat*2000+2000<=g) :
  Calls Tryz.prog 8 #[v,sv,.int .i64 F] W (FwP W (resO p s F g false)):=zqV p s F g v sv W hp hs hcl hF jm hg (zs1 p)
theorem zqk (p:PG) (s:SS) (F:Int) (g:Nat) (v sv:Value) (W:World) (hp:PV W Any p v) (hs:SV W Any s sv) (hcl:s.cells.length<=5864062014800) (hF:I64 F) (jm:F<=1000000) (hg:F.toNat*2000+2000<=g) :
  Calls Tryz.prog 11 #[v,sv,.int .i64 F] W (FwP W (resO p s F g true)):=zqj p s F g v sv W hp hs hcl hF jm hg (zs1 p)
def xT:T:=.nd 2 0 ⟨#[120]⟩ []
def nT (n:Int):T:=.nd 1 n ⟨#[]⟩ []
def eqT (n:Int):T:=.nd 16 0 ⟨#[]⟩ [xT,nT n]
def blT (l:List T):T:=.nd 57 0 ⟨#[]⟩ l
def plT:T:=.nd 40 0 ⟨#[]⟩ [xT,nT 1]
def loT:T:=.nd 53 0 ⟨#[]⟩ [eqT 0,blT [plT],blT [],eqT 3]
def pgA:PG:=⟨[⟨⟨#[120]⟩,1,0⟩],[],blT [loT]⟩
def okA (n:Nat) (l:List (List Int)):Out->Bool
 | .ok r=>decide (r.n=n)&&decide (r.S.state.cells=l)
 | _=>false
theorem zvT:zle pgA=true:=by decide +kernel
theorem zvU:chkN pgA=0:=by decide +kernel
theorem zwL:fitB pgA.vs ⟨[[0]],[],[]⟩=true:=by decide +kernel
theorem zwK:fitB pgA.vs ⟨[[3]],[],[]⟩=true:=by decide +kernel
theorem aw_f:okA 9 [[3]] (runO pgA.prs 50 102000 false pgA.m ⟨newS pgA.vs ⟨[[0]],[],[]⟩,0,[]⟩)=true:=by decide +kernel
theorem aw_b:okA 9 [[0]] (runO pgA.prs 50 102000 true pgA.m ⟨newS pgA.vs ⟨[[3]],[],[]⟩,0,[]⟩)=true:=by decide +kernel
theorem zvH {n:Nat} {l:List (List Int)} {o:Out} (h:okA n l o=true):∃ r,o=.ok r/\r.n=n/\r.S.state.cells=l:=by
 cases o with
 | gas=>cases h
 | err e=>cases h
 | ok r =>
  simp only[okA,Bool.and_eq_true,decide_eq_true_eq] at h;exact⟨r,rfl,h.1,h.2⟩
theorem zxI:∃ tin tout ent,resO pgA ⟨[[0]],[],[]⟩ 50 102000 false=(⟨[[3]],tin,tout⟩,9,0,ent):=by
 obtain⟨r,h1,h2,h3⟩:=zvH aw_f;refine⟨r.S.state.tin,r.S.state.tout,r.ent,?_⟩;rw[resO,if_neg (by rw[zvT,zvU];simp),if_neg (by rw[zwL];simp)];rw[show List.replicate pgA.prs.length 0=([]:List Nat) from rfl,h1];simp only[outR,h2,<-h3]
theorem zxJ:∃ tin tout ent,resO pgA ⟨[[3]],[],[]⟩ 50 102000 true=(⟨[[0]],tin,tout⟩,9,0,ent):=by
 obtain⟨r,h1,h2,h3⟩:=zvH aw_b;refine⟨r.S.state.tin,r.S.state.tout,r.ent,?_⟩;rw[resO,if_neg (by rw[zvT,zvU];simp),if_neg (by rw[zwK];simp)];rw[show List.replicate pgA.prs.length 0=([]:List Nat) from rfl,h1];simp only[outR,h2,<-h3]
theorem zxA (s:ByteArray) (w:World):Calls Tryz.prog 13 #[.string s] w fun e w'=>e=.returned (nv 2 0 s none 0 0)/\Below w.heap.size w w':=by
 have hb:∀ w,(Instr.build 26 #[(0,.int .u8 2),(2,.string s)]).run Tryz.prog w=.ok (nv 2 0 s none 0 0) w:=fun w=>by kernel_rfl
 go_enter Tryz.func13,Tryz.ntmps13;go_wp2_with fail;exact bodyPost_ret (v:=nv 2 0 s none 0 0) (by simp[results,Tryz.results13,go_sem]) rfl ⟨rfl,zkc (Below.refl _ _) _⟩
theorem zrw (n:Int) (w:World):Calls Tryz.prog 15 #[.int .i64 n] w fun e w'=>e=.returned (nv 1 n ⟨#[]⟩ none 0 0)/\Below w.heap.size w w':=by
 have hb:∀ w,(Instr.build 26 #[(0,.int .u8 1),(1,.int .i64 n)]).run Tryz.prog w=.ok (nv 1 n ⟨#[]⟩ none 0 0) w:=fun w=>by kernel_rfl
 go_enter Tryz.func15,Tryz.ntmps15;go_wp2_with fail;exact bodyPost_ret (v:=nv 1 n ⟨#[]⟩ none 0 0) (by simp[results,Tryz.results15,go_sem]) rfl ⟨rfl,zkc (Below.refl _ _) _⟩
theorem zpv (A:Option Addr) (l c:Nat) (w:World):Calls Tryz.prog 16 #[.slice A l c] w fun e w'=>e=.returned (nv 57 0 ⟨#[]⟩ A l c)/\Below w.heap.size w w':=by
 have hb:∀ w,(Instr.build 26 #[(0,.int .u8 57),(3,.slice A l c)]).run Tryz.prog w=.ok (nv 57 0 ⟨#[]⟩ A l c) w:=fun w=>by kernel_rfl
 go_enter Tryz.func16,Tryz.ntmps16;go_wp2_with fail;exact bodyPost_ret (v:=nv 57 0 ⟨#[]⟩ A l c) (by simp[results,Tryz.results16,go_sem]) rfl ⟨rfl,zkc (Below.refl _ _) _⟩
theorem zvM:IsFn Tryz.prog 15 Tryz.f15:=⟨Tryz.func15,by kernel_rfl,by kernel_rfl⟩
theorem zxl:IsFn Tryz.prog 14 Tryz.f14:=⟨Tryz.func14,by kernel_rfl,by kernel_rfl⟩
theorem zvO:IsFn Tryz.prog 16 Tryz.f16:=⟨Tryz.func16,by kernel_rfl,by kernel_rfl⟩
theorem bSN2 (a0 a1 a2 a3 b0 b1 b2 b3:Value) (w:World):(Instr.buildSlice 24 2 #[(0,.agg #[a0,a1,a2,a3]),(1,.agg #[b0,b1,b2,b3])]).run Tryz.prog w=.ok (.slice (some ⟨w.heap.size,0,none⟩) 2 2) (w.alloc (.cells #[a0,a1,a2,a3,b0,b1,b2,b3] 26)):=by kernel_rfl
theorem bNk (k:Int) (A:Option Addr) (l c:Nat) (w:World):(Instr.build 26 #[(0,.int .u8 k),(3,.slice A l c)]).run Tryz.prog w=.ok (nv k 0 ⟨#[]⟩ A l c) w:=by kernel_rfl
theorem zw1 {W:World} {b:Nat} {u0 u1 u2 u3:Value} {E:TypeId} (h:W.heap[b]?=some (.cells #[.int .u8 0,.int .i64 0,.string ⟨#[]⟩,.slice none 0 0] E (0,0))) :
  ((((W.setCell ⟨b,0,none⟩ u0).setCell ⟨b,1,none⟩ u1).setCell ⟨b,2,none⟩ u2).setCell ⟨b,3,none⟩ u3).heap[b]?=some (.cells #[u0,u1,u2,u3] E (0,0)) /\
   Chg (fun q=>q=b) W ((((W.setCell ⟨b,0,none⟩ u0).setCell ⟨b,1,none⟩ u1).setCell ⟨b,2,none⟩ u2).setCell ⟨b,3,none⟩ u3):=set4 h
def NwN (W:World) (t:T) (v:Value) (w':World):Prop:=∃ A c,v=nv t.k t.n t.s A t.ks.length c/\NV w' Any t v/\Below W.heap.size W w'
theorem ztq (n:Int) (hn:I64 n) (xb:Nat) (w:World) (hx:w.heap[xb]?=some (.cells #[.int .u8 2,.int .i64 0,.string ⟨#[120]⟩,.slice none 0 0] 26 (0,0))):Calls Tryz.prog 14 #[.int .i64 n,.pointer (some ⟨xb,0,none⟩)] w fun e w'=>∃ v,e=.returned v/\NwN w (eqT n) v w':=by
 have h2:=bSN2;have h3:=bNk;have hb1:=zkc (Below.refl w.heap.size w) (.cells #[.int .u8 0,.int .i64 0,.string ⟨#[]⟩,.slice none 0 0] 26);have k1:=heap_alloc_new w (.cells #[.int .u8 0,.int .i64 0,.string ⟨#[]⟩,.slice none 0 0] 26);have hx1:=zkn hx (.cells #[.int .u8 0,.int .i64 0,.string ⟨#[]⟩,.slice none 0 0] 26);obtain⟨w1,hw1⟩:∃ x,w.alloc (.cells #[.int .u8 0,.int .i64 0,.string ⟨#[]⟩,.slice none 0 0] 26)=x:=⟨_,rfl⟩
 rw[hw1] at hb1 k1 hx1;have HB1:=zh hb1;have aH:=zh k1;have aY:=zh hx1;clear hb1 k1 hx1 hx;go_enter Tryz.func14,Tryz.ntmps14;go_upto_region 1 with fail;clear hw1;have aG:=zh (show ∀ w',Below w1.heap.size w1 w'->(fun w':World=>w'.cell? ⟨xb,0,none⟩=some (.int .u8 2)/\w'.cell? ⟨xb,1,none⟩=some (.int .i64 0)/\w'.cell? ⟨xb,2,none⟩=some (.string ⟨#[120]⟩)/\w'.cell? ⟨xb,3,none⟩=some (.slice none 0 0)) w' from fun w' hb=>⟨zb hb (zc aY.out rfl),zb hb (zc aY.out rfl),zb hb (zc aY.out rfl),zb hb (zc aY.out rfl)⟩);have hSS:(fun w':World=>w'.cell? ⟨xb,0,none⟩=some (.int .u8 2)/\w'.cell? ⟨xb,1,none⟩=some (.int .i64 0)/\w'.cell? ⟨xb,2,none⟩=some (.string ⟨#[120]⟩)/\w'.cell? ⟨xb,3,none⟩=some (.slice none 0 0)) w1.drew/\(fun _:World=>True) w1.drew:=⟨aG.out _ (Below.refl _ _).drew,trivial⟩
 refine wp_region_noPanic ?_;refine zkd (fun w':World=>w'.cell? ⟨xb,0,none⟩=some (.int .u8 2)/\w'.cell? ⟨xb,1,none⟩=some (.int .i64 0)/\w'.cell? ⟨xb,2,none⟩=some (.string ⟨#[120]⟩)/\w'.cell? ⟨xb,3,none⟩=some (.slice none 0 0)) (fun _:World=>True) 5 (by kernel_rfl) ?_;refine zT 0 hSS ?_;(try simp only[zQ]);refine zT 1 hSS ?_;(try simp only[zQ]);have had:Calls Tryz.prog 15 [.int .i64 n].toArray w1.drew fun e w'=>∃ v,e=.returned v/\(v=nv 1 n ⟨#[]⟩ none 0 0/\Below w1.heap.size w1 w'):=(zrw n _).mono fun e w' ⟨h1,h2⟩=>⟨_,h1,rfl,zka (Below.refl w1.heap.size w1).drew h2⟩
 refine zo 2 fun K hK=>?_;refine zkj (by rfl) (.func 15) [.tmp 5] _ (by rfl) 15 _ zvM (by rfl) _ (by rfl) _ had ?_;rintro v2 w2 ⟨rfl,hb2⟩;have HB2:=zh hb2;refine hK.out _ _ ⟨aG.out _ hb2,trivial⟩ ?_;clear hK K hSS had hb2;(try simp only[zQ]);refine zo 3 fun K hK=>?_;(try simp only[zA,zB,zC]);go_simp;refine hK.out _ _ ⟨aG.out _ (zkc HB2.out _),trivial⟩ ?_;clear hK K;(try simp only[zQ]);refine zo 4 fun K hK=>?_;(try simp only[zA,zB,zC]);go_simp;refine hK.out _ _ ⟨aG.out _ (zkc HB2.out _),trivial⟩ ?_;clear hK K;(try simp only[zQ]);have bR:=zvX w2 26 (S:=fun b=>b=w2.heap.size) rfl (t1:=xT) (t2:=nT n) (k:=16) (n:=0) (s:=⟨#[]⟩) ⟨⟨by omega,by omega⟩,⟨by omega,by omega⟩,by decide⟩ (zoA w2 _ (k:=2) (n:=0) (s:=⟨#[120]⟩) ⟨⟨by omega,by omega⟩,⟨by omega,by omega⟩,by decide⟩) (zoA w2 _ (k:=1) (n:=n) (s:=⟨#[]⟩) ⟨⟨by omega,by omega⟩,hn,by decide⟩)
 have hb3:Below w1.heap.size w1 (w2.alloc (.cells #[.int .u8 2,.int .i64 0,.string ⟨#[120]⟩,.slice none 0 0,.int .u8 1,.int .i64 n,.string ⟨#[]⟩,.slice none 0 0] 26)):=zkc HB2.out _;have hsz2:w.heap.size<w2.heap.size:=Nat.lt_of_lt_of_le (zku aH.out) HB2.out.size;obtain⟨w3,hw3⟩:∃ x,w2.alloc (.cells #[.int .u8 2,.int .i64 0,.string ⟨#[120]⟩,.slice none 0 0,.int .u8 1,.int .i64 n,.string ⟨#[]⟩,.slice none 0 0] 26)=x:=⟨_,rfl⟩
 rw[hw3] at bR hb3 ⊢;have hz3:w3.heap.size=w2.heap.size+1:=by rw[<-hw3];simp
 have hk3:=zkf aH.out hb3;have c0:w3.cell? ⟨w.heap.size,0,none⟩=some (.int .u8 0):=zc hk3 rfl;have c1:w3.cell? ⟨w.heap.size,1,none⟩=some (.int .i64 0):=zc hk3 rfl;have c2:w3.cell? ⟨w.heap.size,2,none⟩=some (.string ⟨#[]⟩):=zc hk3 rfl;have c3:w3.cell? ⟨w.heap.size,3,none⟩=some (.slice none 0 0):=zc hk3 rfl;have cf:∀ o,w3.frozen? ⟨w.heap.size,o,none⟩=false:=fun _=>zf hk3;have cZ:=zh bR;have HB3:=zh hb3;have kC:=zh hk3;clear hw3 bR hb3 hk3;refine zp 5 fun K hK=>?_;(try simp only[zA,zB,zC]);go_simp;obtain⟨hh,hch⟩:=zw1 (u0:=.int .u8 16) (u1:=.int .i64 0) (u2:=.string ⟨#[]⟩) (u3:=.slice (some ⟨w2.heap.size,0,none⟩) 2 2) kC.out;obtain⟨w4,hw4⟩:∃ x,(((w3.setCell ⟨w.heap.size,0,none⟩ (.int .u8 16)).setCell ⟨w.heap.size,1,none⟩ (.int .i64 0)).setCell ⟨w.heap.size,2,none⟩ (.string ⟨#[]⟩)).setCell ⟨w.heap.size,3,none⟩ (.slice (some ⟨w2.heap.size,0,none⟩) 2 2)=x:=⟨_,rfl⟩
 rw[hw4] at hh hch ⊢;have hxl:xb≠w.heap.size:=by
  intro e;have h1:=aY.out;rw[e,aH.out] at h1;simp at h1
 refine hK.out _ _ ?_ ?_
 ·obtain⟨q0,q1,q2,q3⟩:=aG.out _ HB3.out;exact⟨zkX hch q0 hxl,zkX hch q1 hxl,zkX hch q2 hxl,zkX hch q3 hxl⟩
 clear hK K aG c0 c1 c2 c3 cf hw4;(try simp only[zQ]);refine zd ?_;refine NoPanic.normal ?_;obtain⟨r0,r1,r2,r3⟩:=box4 hh;go_wp2_with fail;refine bodyPost_ret (v:=nv 16 0 ⟨#[]⟩ (some ⟨w2.heap.size,0,none⟩) 2 2) (by simp[results,Tryz.results14,go_sem,r0,r1,r2,r3]) rfl ⟨_,rfl,_,_,rfl,?_,?_⟩
 ·refine cZ.out.keep (fun _ _ _=>trivial) fun b hb hlt=>hch.block b hlt fun e=>by omega
 ·exact(zka HB1.out HB3.out).trans (hch.below (zka HB1.out HB3.out).size fun b e=>by omega)
theorem zero_kind {w:World} {p:Addr} {bb:Nat} {E:TypeId} {k:Int} (hz:w.heap[bb]?=some (.cells #[.int .u8 0,.int .i64 0,.string ⟨#[]⟩,.slice none 0 0] E (0,0))) (hp:p.block=bb) (h:w.cell? p=some (.int .u8 k)):k=0:=by
 subst hp;obtain⟨b,o,m⟩:=p;simp only[World.cell?] at h hz
 cases m with
 | none =>
  simp only[hz] at h
  match o,h with
  | 0,h=>simp at h;exact h.symm
  | 1,h=>simp at h
  | 2,h=>simp at h
  | 3,h=>simp at h
  | n+4,h=>simp at h
 | some x=>simp[hz] at h
theorem NV.nz {w:World} {bb:Nat} {E:TypeId} (hz:w.heap[bb]?=some (.cells #[.int .u8 0,.int .i64 0,.string ⟨#[]⟩,.slice none 0 0] E (0,0))):∀ (t:T) (v:Value),NV w Any t v->(∀ u∈po t,u.k≠0)->NV w (fun b=>b≠bb) t v:=by
 intro t
 induction t using T.ind with
 | _ k n s ks ih =>
  intro v hv hk;obtain⟨A,c,rfl,hf,hlk,hlc,hrow⟩:=hv.open_;refine NV.shut hf hlk hlc fun i hi=>?_;obtain⟨a,u0,u1,u2,u3,hA,-,hc,hn⟩:=hrow i hi;have hm:(T.nd k n s ks).ks[i]∈ks:=List.getElem_mem hi;have hsub:∀ u∈po (T.nd k n s ks).ks[i],u.k≠0:=fun u hu=>hk u (by simp only[po,List.mem_cons];exact .inr (zl9.2 ⟨_,hm,hu⟩));refine⟨a,u0,u1,u2,u3,hA,fun e=>?_,hc,ih _ hm _ hn hsub⟩;obtain⟨A',c',e',-⟩:=hn.open_;injection e' with e';simp only[Array.mk.injEq,List.cons.injEq,and_true] at e';have h0:=hc.c0;rw[e'.1] at h0;have hself:(T.nd k n s ks).ks[i]∈po (T.nd k n s ks).ks[i]:=by
   rcases hq:(T.nd k n s ks).ks[i] with⟨k',n',s',ks'⟩;simp[po]
  exact hsub _ hself (zero_kind hz (by rw[zkv];exact e) h0)
theorem zvD (W:World) (x:Int) (hx:I64 x):SV ((W.alloc (.cells #[.int .i64 x] 3)).alloc (.cells #[.slice (some ⟨W.heap.size,0,none⟩) 1 1] 30)) Any ⟨[[x]],[],[]⟩ (.agg #[.slice (some ⟨W.heap.size+1,0,none⟩) 1 1,.slice none 0 0,.slice none 0 0]):=by
 have k0:=zkn (heap_alloc_new W (.cells #[.int .i64 x] 3)) (.cells #[.slice (some ⟨W.heap.size,0,none⟩) 1 1] 30);have k1:=heap_alloc_new (W.alloc (.cells #[.int .i64 x] 3)) (.cells #[.slice (some ⟨W.heap.size,0,none⟩) 1 1] 30);rw[World.size_alloc] at k1;refine⟨_,1,none,0,none,0,rfl,fun i hi=>?_,fun i hi=>by simp at hi,fun i hi=>by simp at hi,by simp,by simp,by simp,?_⟩
 ·have h0:i=0:=by simp at hi;exact hi
  subst h0;exact⟨⟨W.heap.size+1,0,none⟩,some ⟨W.heap.size,0,none⟩,1,rfl,trivial,zc k1 rfl,by simp,zuq (xs:=[x]) k0 (by intro y hy;simp at hy;subst hy;exact hx)⟩
 ·exact⟨by simp[LI],fun l hl=>by simp at hl;subst hl;simp[LI],by simp,by simp⟩
theorem zw5 {W:World} {vb nb:Nat} (hk:W.heap[vb]?=some (.cells #[.string ⟨#[120]⟩,.int .u8 1,.int .i64 0] 48 (0,0))) (hn:NV W Any (blT [loT]) (nv 57 0 ⟨#[]⟩ (some ⟨nb,0,none⟩) 1 1)) :
  PV W Any pgA (.agg #[.slice (some ⟨vb,0,none⟩) 1 1,.slice none 0 0,.int .u8 57,.int .i64 0,.string ⟨#[]⟩,.slice (some ⟨nb,0,none⟩) 1 1]):=by
 refine⟨some ⟨vb,0,none⟩,1,none,0,some ⟨nb,0,none⟩,1,rfl,zup (vs:=[⟨⟨#[120]⟩,1,0⟩]) hk ?_,by decide,by decide,fun i hi=>by simp[pgA] at hi,by decide,by decide,hn⟩;intro v hv;simp at hv;subst hv;exact⟨by decide,⟨by decide,by decide⟩,by decide,by decide⟩
theorem OwnS.one {W:World} {n0:Nat} {x:Int} {ti rH:List Int} {v:Value} (h:OwnS W n0 ⟨[[x]],ti,rH⟩ v):∃ cb c eb d B d1 D d2,v=.agg #[.slice (some ⟨cb,0,none⟩) 1 c,.slice B ti.length d1,.slice D rH.length d2]/\W.cell? ⟨cb,0,none⟩=some (.slice (some ⟨eb,0,none⟩) 1 d)/\W.cell? ⟨eb,0,none⟩=some (.int .i64 x):=by
 obtain⟨vc,vi,vo,fc,rfl,hr,-⟩:=h;obtain⟨B,d1,e2,-⟩:=zkh (hr.row .inp);obtain⟨D,d2,e3,-⟩:=zkh (hr.row .out);change vi=.slice B ti.length d1 at e2;change vo=.slice D rH.length d2 at e3;obtain⟨cb,c,e1,-,-,hc⟩:=zkZ (hr.row .all) (by show 0<1;decide);change vc=.slice (some ⟨cb,0,none⟩) 1 c at e1;obtain⟨eb,d,e4,-,-,he⟩:=zkZ (hr.row (.el 0)) (by show 0<1;decide);change fc 0=.slice (some ⟨eb,0,none⟩) 1 d at e4;refine⟨cb,c,eb,d,B,d1,D,d2,by rw[e1,e2,e3],?_,?_⟩
 ·rw[hc 0 (by show 0<1*1;decide),<-e4];simp[zlX]
 ·rw[he 0 (by show 0<1*1;decide)];simp[zlX,zke]
theorem zxg:(50:Int).toNat*2000+2000<=102000:=by decide
section
variable {P:Program} {md:Region.Mode} {ops:Array Oper} {Q:Exit->Act->World->Prop} {S1 S2:World->Prop} {k:Nat}
theorem zmi {i j:Nat} {oi oj:Oper} (si sj:Option Nat) (n:Nat) (L:Bool->Bool->Array Bool) (a0:Act) (Inv:World->Prop) (Al Fact:Value->World->Prop)
  (hoi:ops[i]?=some oi) (hoj:ops[j]?=some oj) (hdi:oi.dst=si) (hdj:oj.dst=sj) (hr0:Region.ready md ops (L false false)=[i,j]) (hr1:Region.ready md ops (L false true)=[i])
  (hLi:∀ l4,(L false l4).setIfInBounds i true=L true l4) (hLj:(L false false).setIfInBounds j true=L false true)
  (hS:∀ w,Inv w->S1 w/\S2 w) (hInv:∀ w w',Inv w->Below w.heap.size w w'->Inv w') (hAl:∀ u w w',Al u w->Below w.heap.size w w'->Al u w')
  (hi:∀ (v4:Value) (K:Act->World->Prop) (w:World),Inv w->Shut (∀ v w',Below w.heap.size w w'->Fact v w'->K ((a0.put sj v4).put si v) w')->if Region.wanted oi (yielded ops (a0.put sj v4).tmps)=true then Oper.wp P oi (a0.put sj v4) w K Q else K ((a0.put sj v4).put si undef) w)
  (hj:∀ (v4:Value) (K:Act->World->Prop) (w:World),Inv w->Shut (∀ v w',Below w.heap.size w w'->Al v w'->K ((a0.put sj v4).put sj v) w')->if Region.wanted oj (yielded ops (a0.put sj v4).tmps)=true then Oper.wp P oj (a0.put sj v4) w K Q else K ((a0.put sj v4).put sj undef) w)
  (uZ:∀ u v,(a0.put sj u).put sj v=a0.put sj v)
  (hc:∀ (l4:Bool) (v4 v:Value) (w:World),Inv w->Fact v w->(l4=true->Al v4 w)->(l4=false->v4=undef)->wpG P md ops Q S1 S2 k (n+(!l4).toNat) (L true l4) ((a0.put sj v4).put si v) w) :
  ∀ (l4:Bool) (v4:Value) (w:World),Inv w->(l4=true->Al v4 w)->(l4=false->v4=undef)->a0.put sj v4=a0->wpG P md ops Q S1 S2 k (n+1+(!l4).toNat) (L false l4) a0 w:=by
 subst hdi hdj;have h1:∀ (v4:Value) (w:World),Inv w->Al v4 w->wpG P md ops Q S1 S2 k (n+1) (L false true) (a0.put oj.dst v4) w:=by
  intro v4 w hI hA;refine⟨(fun h0=>by rw[hr1] at h0;cases h0),fun q hq=>?_⟩;rw[hr1] at hq;simp only[List.mem_singleton] at hq;subst hq;refine wpOp_step hoi fun K' hK=>hi v4 K' w hI ?_;intro v w' hb hF;have hI':=hInv _ _ hI hb;refine hK _ _ ⟨⟨(hS _ hI').1,fun _=>(hS _ hI').2⟩,?_⟩;rw[hLi];exact hc true v4 v w' hI' hF (fun _=>hAl _ _ _ hA hb) (fun h=>by cases h)
 intro l4 v4 w hI hA hU ha
 cases l4
 ·have hv:=hU rfl;refine⟨(fun h0=>by rw[hr0] at h0;cases h0),fun q hq=>?_⟩;rw[hr0] at hq;simp only[List.mem_cons,List.not_mem_nil,or_false] at hq;rcases hq with rfl|rfl
  ·refine wpOp_step hoi fun K' hK=>?_;rw[<-ha];refine hi v4 K' w hI ?_;intro v w' hb hF;have hI':=hInv _ _ hI hb;refine hK _ _ ⟨⟨(hS _ hI').1,fun _=>(hS _ hI').2⟩,?_⟩;rw[hLi];exact hc false v4 v w' hI' hF (fun h=>by cases h) (fun _=>hv)
  ·refine wpOp_step hoj fun K' hK=>?_;rw[<-ha];refine hj v4 K' w hI ?_;intro v w' hb hF;have hI':=hInv _ _ hI hb;refine hK _ _ ⟨⟨(hS _ hI').1,fun _=>(hS _ hI').2⟩,?_⟩;rw[hLj,uZ];exact h1 v w' hI' hF
 ·rw[<-ha];exact h1 v4 w hI (hA rfl)
theorem zt9 {j:Nat} {oj:Oper} (sj:Option Nat) (n:Nat) (L:Bool->Array Bool) (a0:Act) (Inv:World->Prop) (Al:Value->World->Prop)
  (hoj:ops[j]?=some oj) (hdj:oj.dst=sj) (hr0:Region.ready md ops (L false)=[j]) (hLj:(L false).setIfInBounds j true=L true)
  (hS:∀ w,Inv w->S1 w/\S2 w) (hInv:∀ w w',Inv w->Below w.heap.size w w'->Inv w')
  (hj:∀ (v4:Value) (K:Act->World->Prop) (w:World),Inv w->Shut (∀ v w',Below w.heap.size w w'->Al v w'->K ((a0.put sj v4).put sj v) w')->if Region.wanted oj (yielded ops (a0.put sj v4).tmps)=true then Oper.wp P oj (a0.put sj v4) w K Q else K ((a0.put sj v4).put sj undef) w)
  (uZ:∀ u v,(a0.put sj u).put sj v=a0.put sj v)
  (hc:∀ (v4:Value) (w:World),Inv w->Al v4 w->wpG P md ops Q S1 S2 k n (L true) (a0.put sj v4) w) :
  ∀ (l4:Bool) (v4:Value) (w:World),Inv w->(l4=true->Al v4 w)->a0.put sj v4=a0->wpG P md ops Q S1 S2 k (n+(!l4).toNat) (L l4) a0 w:=by
 subst hdj;intro l4 v4 w hI hA ha
 cases l4
 ·refine⟨(fun h0=>by rw[hr0] at h0;cases h0),fun q hq=>?_⟩;rw[hr0] at hq;simp only[List.mem_singleton] at hq;subst hq;refine wpOp_step hoj fun K' hK=>?_;rw[<-ha];refine hj v4 K' w hI ?_;intro v w' hb hF;have hI':=hInv _ _ hI hb;refine hK _ _ ⟨⟨(hS _ hI').1,fun _=>(hS _ hI').2⟩,?_⟩;rw[hLj,uZ];exact hc v w' hI' hF
 ·rw[<-ha];exact hc v4 w hI (hA rfl)
end
theorem bSN4 (a0 a1 a2 a3 b0 b1 b2 b3 c0 c1 c2 c3 d0 d1 d2 d3:Value) (w:World):(Instr.buildSlice 24 4 #[(0,.agg #[a0,a1,a2,a3]),(1,.agg #[b0,b1,b2,b3]),(2,.agg #[c0,c1,c2,c3]),(3,.agg #[d0,d1,d2,d3])]).run Tryz.prog w=.ok (.slice (some ⟨w.heap.size,0,none⟩) 4 4) (w.alloc (.cells #[a0,a1,a2,a3,b0,b1,b2,b3,c0,c1,c2,c3,d0,d1,d2,d3] 26)):=by kernel_rfl
theorem zw0 (W:World) (E:TypeId) {S:Nat->Prop} (hS:S W.heap.size) {t1 t2 t3 t4:T} {k n k1 n1 k2 n2 k3 n3 k4 n4:Int} {s s1 s2 s3 s4:ByteArray} {A1 A2 A3 A4:Option Addr} {l1 c1 l2 c2 l3 c3 l4 c4:Nat} (hf:Fld k n s) (h1:NV W S t1 (nv k1 n1 s1 A1 l1 c1)) (h2:NV W S t2 (nv k2 n2 s2 A2 l2 c2)) (h3:NV W S t3 (nv k3 n3 s3 A3 l3 c3)) (h4:NV W S t4 (nv k4 n4 s4 A4 l4 c4)) :
  NV (W.alloc (.cells #[.int .u8 k1,.int .i64 n1,.string s1,.slice A1 l1 c1,.int .u8 k2,.int .i64 n2,.string s2,.slice A2 l2 c2,.int .u8 k3,.int .i64 n3,.string s3,.slice A3 l3 c3,.int .u8 k4,.int .i64 n4,.string s4,.slice A4 l4 c4] E)) S (.nd k n s [t1,t2,t3,t4]) (nv k n s (some ⟨W.heap.size,0,none⟩) 4 4):=by
 refine NV.shut (ks:=[t1,t2,t3,t4]) hf (by simp[LK]) (by simp) fun i hi=>?_;have hb:=zkc (Below.refl W.heap.size W) (.cells #[.int .u8 k1,.int .i64 n1,.string s1,.slice A1 l1 c1,.int .u8 k2,.int .i64 n2,.string s2,.slice A2 l2 c2,.int .u8 k3,.int .i64 n3,.string s3,.slice A3 l3 c3,.int .u8 k4,.int .i64 n4,.string s4,.slice A4 l4 c4] E);have hx:=heap_alloc_new W (.cells #[.int .u8 k1,.int .i64 n1,.string s1,.slice A1 l1 c1,.int .u8 k2,.int .i64 n2,.string s2,.slice A2 l2 c2,.int .u8 k3,.int .i64 n3,.string s3,.slice A3 l3 c3,.int .u8 k4,.int .i64 n4,.string s4,.slice A4 l4 c4] E)
 match i,hi with
 | 0,_=>exact⟨⟨W.heap.size,0,none⟩,_,_,_,_,rfl,hS,⟨zc hx rfl,zc hx rfl,zc hx rfl,zc hx rfl⟩,h1.later hb⟩
 | 1,_=>exact⟨⟨W.heap.size,0,none⟩,_,_,_,_,rfl,hS,⟨zc hx rfl,zc hx rfl,zc hx rfl,zc hx rfl⟩,h2.later hb⟩
 | 2,_=>exact⟨⟨W.heap.size,0,none⟩,_,_,_,_,rfl,hS,⟨zc hx rfl,zc hx rfl,zc hx rfl,zc hx rfl⟩,h3.later hb⟩
 | 3,_=>exact⟨⟨W.heap.size,0,none⟩,_,_,_,_,rfl,hS,⟨zc hx rfl,zc hx rfl,zc hx rfl,zc hx rfl⟩,h4.later hb⟩
theorem fld0 (k:Int) (hk:0<=k/\k<256):Fld k 0 ⟨#[]⟩:=⟨hk,⟨by omega,by omega⟩,by decide⟩
theorem bSVw (a0 a1 a2:Value) (w:World):(Instr.buildSlice 22 1 #[(0,.agg #[a0,a1,a2])]).run Tryz.prog w=.ok (.slice (some ⟨w.heap.size,0,none⟩) 1 1) (w.alloc (.cells #[a0,a1,a2] 48)):=by kernel_rfl
theorem bPgA (A B:Option Addr) (l c m d:Nat) (k n:Int) (s:ByteArray) (w:World):(Instr.build 28 #[(0,.slice A l c),(2,nv k n s B m d)]).run Tryz.prog w=.ok (.agg #[.slice A l c,.slice none 0 0,.int .u8 k,.int .i64 n,.string s,.slice B m d]) w:=by kernel_rfl
theorem zx6 (A:Option Addr) (l c:Nat) (w:World):(Instr.buildSlice 29 1 #[(0,.slice A l c)]).run Tryz.prog w=.ok (.slice (some ⟨w.heap.size,0,none⟩) 1 1) (w.alloc (.cells #[.slice A l c] 30)):=by kernel_rfl
theorem zqc (w:World):Calls Tryz.prog 6 #[] w fun e w'=>e=.returned (.bool true)/\Below w.heap.size w w':=by
 have wB:∀ (fn:Fn) (first cap:Array Value) (w:World),(Instr.makeFunc fn first cap).run Tryz.prog w=.ok (.func fn first cap) w:=fun _ _ _ _=>rfl;have h1:=bSN1;have h2:=bSN2;have h3:=bNk;have h4:=bSN4;go_enter Tryz.func6,Tryz.ntmps6;go_wp2_with fail;refine(zxA ⟨#[120]⟩ w).mono ?_;rintro e w1 ⟨rfl,b1⟩;have hb2:=zkc b1 (.cells #[.int .u8 2,.int .i64 0,.string ⟨#[120]⟩,.slice none 0 0] 26);have kx:=heap_alloc_new w1 (.cells #[.int .u8 2,.int .i64 0,.string ⟨#[120]⟩,.slice none 0 0] 26);go_upto_region 4 with fail;obtain⟨xb,hxb⟩:∃ x,w1.heap.size=x:=⟨_,rfl⟩
 obtain⟨w2,hw2⟩:∃ x,w1.alloc (.cells #[.int .u8 2,.int .i64 0,.string ⟨#[120]⟩,.slice none 0 0] 26)=x:=⟨_,rfl⟩
 rw[hw2] at hb2 kx ⊢;rw[hxb] at kx ⊢;have HB2:=zh hb2;have vM:=zh kx;clear b1 hb2 kx;clear hw2 hxb;have aG:=zh (show ∀ w',Below w2.heap.size w2 w'->(fun w':World=>w'.cell? ⟨xb,0,none⟩=some (.int .u8 2)/\w'.cell? ⟨xb,1,none⟩=some (.int .i64 0)/\w'.cell? ⟨xb,2,none⟩=some (.string ⟨#[120]⟩)/\w'.cell? ⟨xb,3,none⟩=some (.slice none 0 0)) w' from fun w' hb=>⟨zb hb (zc vM.out rfl),zb hb (zc vM.out rfl),zb hb (zc vM.out rfl),zb hb (zc vM.out rfl)⟩);have hSS:(fun w':World=>w'.cell? ⟨xb,0,none⟩=some (.int .u8 2)/\w'.cell? ⟨xb,1,none⟩=some (.int .i64 0)/\w'.cell? ⟨xb,2,none⟩=some (.string ⟨#[120]⟩)/\w'.cell? ⟨xb,3,none⟩=some (.slice none 0 0)) w2.drew/\(fun _:World=>True) w2.drew:=⟨aG.out _ (Below.refl _ _).drew,trivial⟩
 refine wp_region_noPanic ?_;refine zkd (fun w':World=>w'.cell? ⟨xb,0,none⟩=some (.int .u8 2)/\w'.cell? ⟨xb,1,none⟩=some (.int .i64 0)/\w'.cell? ⟨xb,2,none⟩=some (.string ⟨#[120]⟩)/\w'.cell? ⟨xb,3,none⟩=some (.slice none 0 0)) (fun _:World=>True) 16 (by kernel_rfl) ?_;refine zT 0 hSS ?_;(try simp only[zQ]);refine zT 2 hSS ?_;(try simp only[zQ]);refine zT 3 hSS ?_;(try simp only[zQ]);refine zT 9 hSS ?_;(try simp only[zQ]);refine zT 11 hSS ?_;(try simp only[zQ])
 -- operation 1
 have hI:(fun w=>Below w2.heap.size w2 w) w2.drew:=(Below.refl _ _).drew;clear hSS;refine zmi (i:=1) (j:=15) (some 11) (some 4) 10 (fun li l4 => #[true,li,true,true,false,false,false,false,false,true,false,true,false,false,false,l4,false]) _ (fun w=>Below w2.heap.size w2 w) (fun u w=>∃ b,u=.pointer (some ⟨b,0,none⟩)/\w2.heap.size<=b/\w.heap[b]?=some (.cells #[.int .u8 0,.int .i64 0,.string ⟨#[]⟩,.slice none 0 0] 26 (0,0))) (fun v w=>∃ A c,v=nv 16 0 ⟨#[]⟩ A 2 c/\NV w Any (eqT 0) v) rfl rfl rfl rfl (by kernel_rfl) (by kernel_rfl) (fun l4=>by cases l4<;>rfl) rfl (fun w h=>⟨aG.out _ h,trivial⟩) (fun w w' h hb=>?_) (fun u w w' h hb=>?_) (fun v4 K w h aA=>?_) (fun v4 K w h aA=>?_) (fun u v=>?_) (fun l4 v4 v wc h hF hA hU=>?_) false undef w2.drew hI (fun h=>by cases h) (fun _=>rfl) ?_
 ·have hb0:=h;exact zka hb0 hb
 ·obtain⟨b,e1,e2,e3⟩:=h;exact⟨b,e1,e2,zkf e3 hb⟩
 ·have hb0:=h;have hK:=zh aA;clear aA;have had:=ztq 0 ⟨by decide,by decide⟩ xb w (zkf vM.out hb0);rw[show(#[Value.int .i64 0,.pointer (some ⟨xb,0,none⟩)]:Array Value)=[Value.int .i64 0].toArray ++ #[.pointer (some ⟨xb,0,none⟩)] from rfl] at had;refine zlr (by rfl) (.tmp 10) [.const (.int .i64 0)] _ (by rfl) 14 _ zxl #[.pointer (some ⟨xb,0,none⟩)] (by rfl) _ (by rfl) _ had ?_;rintro v w' ⟨A,c,rfl,hn,hb⟩;exact hK.out _ _ hb ⟨A,c,rfl,hn⟩
 ·have hb0:=h;have hK:=zh aA;clear aA;(try simp only[zQ]);(try simp only[zA,zB,zC]);go_simp;exact hK.out _ _ (zkc (Below.refl _ _) _) ⟨_,rfl,hb0.size,heap_alloc_new w _⟩
 ·simp only[Act.put,zD,zE,zF]
 rotate_left 1
 ·simp only[Act.put,zD,zE,zF]
 (try simp only[zQ]);obtain⟨ja,c11,rfl,m11⟩:=hF;clear hI;have hb0:=h;have hI:(fun w=>Below w2.heap.size w2 w/\NV w Any (eqT 0) (nv 16 0 ⟨#[]⟩ ja 2 c11)) wc:=⟨hb0,m11⟩
 have eX:=hA;have dX:=hU;clear hA hU hb0
 -- operation 4
 refine zmi (i:=4) (j:=15) (some 14) (some 4) 9 (fun li l4 => #[true,true,true,true,li,false,false,false,false,true,false,true,false,false,false,l4,false]) _ (fun w=>Below w2.heap.size w2 w/\NV w Any (eqT 0) (nv 16 0 ⟨#[]⟩ ja 2 c11)) (fun u w=>∃ b,u=.pointer (some ⟨b,0,none⟩)/\w2.heap.size<=b/\w.heap[b]?=some (.cells #[.int .u8 0,.int .i64 0,.string ⟨#[]⟩,.slice none 0 0] 26 (0,0))) (fun v w=>v=nv 1 1 ⟨#[]⟩ none 0 0) rfl rfl rfl rfl (by kernel_rfl) (by kernel_rfl) (fun l4=>by cases l4<;>rfl) rfl (fun w h=>⟨aG.out _ h.1,trivial⟩) (fun w w' h hb=>?_) (fun u w w' h hb=>?_) (fun v4 K w h aA=>?_) (fun v4 K w h aA=>?_) (fun u v=>?_) (fun l4 v4 v wc h hF hA hU=>?_) l4 v4 wc hI eX dX ?_
 ·obtain⟨hb0,n11⟩:=h;exact⟨zka hb0 hb,n11.later hb⟩
 ·obtain⟨b,e1,e2,e3⟩:=h;exact⟨b,e1,e2,zkf e3 hb⟩
 ·obtain⟨hb0,n11⟩:=h;have hK:=zh aA;clear aA;refine zkj (by rfl) (.func 15) [.const (.int .i64 1)] _ (by rfl) 15 _ zvM (by rfl) _ (by rfl) (fun v w'=>v=nv 1 1 ⟨#[]⟩ none 0 0/\Below w.heap.size w w') ((zrw 1 w).mono fun e w' ⟨h1,h2⟩=>⟨_,h1,rfl,h2⟩) ?_;rintro v w' ⟨rfl,hb⟩;exact hK.out _ _ hb rfl
 ·obtain⟨hb0,n11⟩:=h;have hK:=zh aA;clear aA;(try simp only[zQ]);(try simp only[zA,zB,zC]);go_simp;exact hK.out _ _ (zkc (Below.refl _ _) _) ⟨_,rfl,hb0.size,heap_alloc_new w _⟩
 ·simp only[Act.put,zD,zE,zF]
 rotate_left 1
 ·simp only[Act.put,zD,zE,zF]
 (try simp only[zQ]);subst hF;clear hI eX dX;obtain⟨hb0,n11⟩:=h;have hI:(fun w=>Below w2.heap.size w2 w/\NV w Any (eqT 0) (nv 16 0 ⟨#[]⟩ ja 2 c11)) wc:=⟨hb0,n11⟩
 have eX:=hA;have dX:=hU;clear hA hU n11 hb0
 -- operation 5
 refine zmi (i:=5) (j:=15) (some 15) (some 4) 8 (fun li l4 => #[true,true,true,true,true,li,false,false,false,true,false,true,false,false,false,l4,false]) _ (fun w=>Below w2.heap.size w2 w/\NV w Any (eqT 0) (nv 16 0 ⟨#[]⟩ ja 2 c11)) (fun u w=>∃ b,u=.pointer (some ⟨b,0,none⟩)/\w2.heap.size<=b/\w.heap[b]?=some (.cells #[.int .u8 0,.int .i64 0,.string ⟨#[]⟩,.slice none 0 0] 26 (0,0))) (fun v w=>∃ b,v=.slice (some ⟨b,0,none⟩) 2 2/\NV w Any plT (nv 40 0 ⟨#[]⟩ (some ⟨b,0,none⟩) 2 2)) rfl rfl rfl rfl (by kernel_rfl) (by kernel_rfl) (fun l4=>by cases l4<;>rfl) rfl (fun w h=>⟨aG.out _ h.1,trivial⟩) (fun w w' h hb=>?_) (fun u w w' h hb=>?_) (fun v4 K w h aA=>?_) (fun v4 K w h aA=>?_) (fun u v=>?_) (fun l4 v4 v wc h hF hA hU=>?_) l4 v4 wc hI eX dX ?_
 ·obtain⟨hb0,n11⟩:=h;exact⟨zka hb0 hb,n11.later hb⟩
 ·obtain⟨b,e1,e2,e3⟩:=h;exact⟨b,e1,e2,zkf e3 hb⟩
 ·obtain⟨hb0,n11⟩:=h;have hK:=zh aA;clear aA;(try simp only[zQ]);(try simp only[zA,zB,zC]);go_simp;exact hK.out _ _ (zkc (Below.refl _ _) _) ⟨_,rfl,zvX w 26 (S:=Any) trivial (t1:=xT) (t2:=nT 1) (fld0 40 (by omega)) (zoA w Any ⟨⟨by omega,by omega⟩,⟨by omega,by omega⟩,by decide⟩) (zoA w Any ⟨⟨by omega,by omega⟩,⟨by omega,by omega⟩,by decide⟩)⟩
 ·obtain⟨hb0,n11⟩:=h;have hK:=zh aA;clear aA;(try simp only[zQ]);(try simp only[zA,zB,zC]);go_simp;exact hK.out _ _ (zkc (Below.refl _ _) _) ⟨_,rfl,hb0.size,heap_alloc_new w _⟩
 ·simp only[Act.put,zD,zE,zF]
 rotate_left 1
 ·simp only[Act.put,zD,zE,zF]
 (try simp only[zQ]);obtain⟨b15,rfl,m15⟩:=hF;clear hI eX dX;obtain⟨hb0,n11⟩:=h;have hI:(fun w=>Below w2.heap.size w2 w/\NV w Any (eqT 0) (nv 16 0 ⟨#[]⟩ ja 2 c11)/\NV w Any plT (nv 40 0 ⟨#[]⟩ (some ⟨b15,0,none⟩) 2 2)) wc:=⟨hb0,n11,m15⟩
 have eX:=hA;have dX:=hU;clear hA hU n11 hb0
 -- operation 6
 refine zmi (i:=6) (j:=15) (some 16) (some 4) 7 (fun li l4 => #[true,true,true,true,true,true,li,false,false,true,false,true,false,false,false,l4,false]) _ (fun w=>Below w2.heap.size w2 w/\NV w Any (eqT 0) (nv 16 0 ⟨#[]⟩ ja 2 c11)/\NV w Any plT (nv 40 0 ⟨#[]⟩ (some ⟨b15,0,none⟩) 2 2)) (fun u w=>∃ b,u=.pointer (some ⟨b,0,none⟩)/\w2.heap.size<=b/\w.heap[b]?=some (.cells #[.int .u8 0,.int .i64 0,.string ⟨#[]⟩,.slice none 0 0] 26 (0,0))) (fun v w=>∃ A c,v=nv 40 0 ⟨#[]⟩ A 2 c/\NV w Any plT v) rfl rfl rfl rfl (by kernel_rfl) (by kernel_rfl) (fun l4=>by cases l4<;>rfl) rfl (fun w h=>⟨aG.out _ h.1,trivial⟩) (fun w w' h hb=>?_) (fun u w w' h hb=>?_) (fun v4 K w h aA=>?_) (fun v4 K w h aA=>?_) (fun u v=>?_) (fun l4 v4 v wc h hF hA hU=>?_) l4 v4 wc hI eX dX ?_
 ·obtain⟨hb0,n11,n15⟩:=h;exact⟨zka hb0 hb,n11.later hb,n15.later hb⟩
 ·obtain⟨b,e1,e2,e3⟩:=h;exact⟨b,e1,e2,zkf e3 hb⟩
 ·obtain⟨hb0,n11,n15⟩:=h;have hK:=zh aA;clear aA;(try simp only[zQ]);(try simp only[zA,zB,zC]);go_simp;exact hK.out _ _ (Below.refl _ _) ⟨_,_,rfl,n15⟩
 ·obtain⟨hb0,n11,n15⟩:=h;have hK:=zh aA;clear aA;(try simp only[zQ]);(try simp only[zA,zB,zC]);go_simp;exact hK.out _ _ (zkc (Below.refl _ _) _) ⟨_,rfl,hb0.size,heap_alloc_new w _⟩
 ·simp only[Act.put,zD,zE,zF]
 rotate_left 1
 ·simp only[Act.put,zD,zE,zF]
 (try simp only[zQ]);obtain⟨mQ,c16,rfl,m16⟩:=hF;clear hI eX dX;obtain⟨hb0,n11,n15⟩:=h;have hI:(fun w=>Below w2.heap.size w2 w/\NV w Any (eqT 0) (nv 16 0 ⟨#[]⟩ ja 2 c11)/\NV w Any plT (nv 40 0 ⟨#[]⟩ (some ⟨b15,0,none⟩) 2 2)/\NV w Any plT (nv 40 0 ⟨#[]⟩ mQ 2 c16)) wc:=⟨hb0,n11,n15,m16⟩
 have eX:=hA;have dX:=hU;clear hA hU n11 n15 hb0
 -- operation 7
 refine zmi (i:=7) (j:=15) (some 17) (some 4) 6 (fun li l4 => #[true,true,true,true,true,true,true,li,false,true,false,true,false,false,false,l4,false]) _ (fun w=>Below w2.heap.size w2 w/\NV w Any (eqT 0) (nv 16 0 ⟨#[]⟩ ja 2 c11)/\NV w Any plT (nv 40 0 ⟨#[]⟩ (some ⟨b15,0,none⟩) 2 2)/\NV w Any plT (nv 40 0 ⟨#[]⟩ mQ 2 c16)) (fun u w=>∃ b,u=.pointer (some ⟨b,0,none⟩)/\w2.heap.size<=b/\w.heap[b]?=some (.cells #[.int .u8 0,.int .i64 0,.string ⟨#[]⟩,.slice none 0 0] 26 (0,0))) (fun v w=>∃ b,v=.slice (some ⟨b,0,none⟩) 1 1/\NV w Any (blT [plT]) (nv 57 0 ⟨#[]⟩ (some ⟨b,0,none⟩) 1 1)) rfl rfl rfl rfl (by kernel_rfl) (by kernel_rfl) (fun l4=>by cases l4<;>rfl) rfl (fun w h=>⟨aG.out _ h.1,trivial⟩) (fun w w' h hb=>?_) (fun u w w' h hb=>?_) (fun v4 K w h aA=>?_) (fun v4 K w h aA=>?_) (fun u v=>?_) (fun l4 v4 v wc h hF hA hU=>?_) l4 v4 wc hI eX dX ?_
 ·obtain⟨hb0,n11,n15,n16⟩:=h;exact⟨zka hb0 hb,n11.later hb,n15.later hb,n16.later hb⟩
 ·obtain⟨b,e1,e2,e3⟩:=h;exact⟨b,e1,e2,zkf e3 hb⟩
 ·obtain⟨hb0,n11,n15,n16⟩:=h;have hK:=zh aA;clear aA;(try simp only[zQ]);(try simp only[zA,zB,zC]);go_simp;exact hK.out _ _ (zkc (Below.refl _ _) _) ⟨_,rfl,zvY w 26 (S:=Any) trivial (fld0 57 (by omega)) n16⟩
 ·obtain⟨hb0,n11,n15,n16⟩:=h;have hK:=zh aA;clear aA;(try simp only[zQ]);(try simp only[zA,zB,zC]);go_simp;exact hK.out _ _ (zkc (Below.refl _ _) _) ⟨_,rfl,hb0.size,heap_alloc_new w _⟩
 ·simp only[Act.put,zD,zE,zF]
 rotate_left 1
 ·simp only[Act.put,zD,zE,zF]
 (try simp only[zQ]);obtain⟨b17,rfl,m17⟩:=hF;clear hI eX dX;obtain⟨hb0,n11,n15,n16⟩:=h;have hI:(fun w=>Below w2.heap.size w2 w/\NV w Any (eqT 0) (nv 16 0 ⟨#[]⟩ ja 2 c11)/\NV w Any plT (nv 40 0 ⟨#[]⟩ (some ⟨b15,0,none⟩) 2 2)/\NV w Any plT (nv 40 0 ⟨#[]⟩ mQ 2 c16)/\NV w Any (blT [plT]) (nv 57 0 ⟨#[]⟩ (some ⟨b17,0,none⟩) 1 1)) wc:=⟨hb0,n11,n15,n16,m17⟩
 have eX:=hA;have dX:=hU;clear hA hU n11 n15 n16 hb0
 -- operation 8
 refine zmi (i:=8) (j:=15) (some 18) (some 4) 5 (fun li l4 => #[true,true,true,true,true,true,true,true,li,true,false,true,false,false,false,l4,false]) _ (fun w=>Below w2.heap.size w2 w/\NV w Any (eqT 0) (nv 16 0 ⟨#[]⟩ ja 2 c11)/\NV w Any plT (nv 40 0 ⟨#[]⟩ (some ⟨b15,0,none⟩) 2 2)/\NV w Any plT (nv 40 0 ⟨#[]⟩ mQ 2 c16)/\NV w Any (blT [plT]) (nv 57 0 ⟨#[]⟩ (some ⟨b17,0,none⟩) 1 1)) (fun u w=>∃ b,u=.pointer (some ⟨b,0,none⟩)/\w2.heap.size<=b/\w.heap[b]?=some (.cells #[.int .u8 0,.int .i64 0,.string ⟨#[]⟩,.slice none 0 0] 26 (0,0))) (fun v w=>∃ A c,v=nv 57 0 ⟨#[]⟩ A 1 c/\NV w Any (blT [plT]) v) rfl rfl rfl rfl (by kernel_rfl) (by kernel_rfl) (fun l4=>by cases l4<;>rfl) rfl (fun w h=>⟨aG.out _ h.1,trivial⟩) (fun w w' h hb=>?_) (fun u w w' h hb=>?_) (fun v4 K w h aA=>?_) (fun v4 K w h aA=>?_) (fun u v=>?_) (fun l4 v4 v wc h hF hA hU=>?_) l4 v4 wc hI eX dX ?_
 ·obtain⟨hb0,n11,n15,n16,n17⟩:=h;exact⟨zka hb0 hb,n11.later hb,n15.later hb,n16.later hb,n17.later hb⟩
 ·obtain⟨b,e1,e2,e3⟩:=h;exact⟨b,e1,e2,zkf e3 hb⟩
 ·obtain⟨hb0,n11,n15,n16,n17⟩:=h;have hK:=zh aA;clear aA;refine zkj (by rfl) (.tmp 12) [.tmp 17] _ (by rfl) 16 _ zvO (by rfl) _ (by rfl) (fun v w'=>v=nv 57 0 ⟨#[]⟩ (some ⟨b17,0,none⟩) 1 1/\Below w.heap.size w w') ((zpv (some ⟨b17,0,none⟩) 1 1 w).mono fun e w' ⟨h1,h2⟩=>⟨_,h1,rfl,h2⟩) ?_;rintro v w' ⟨rfl,hb⟩;exact hK.out _ _ hb ⟨_,_,rfl,n17.later hb⟩
 ·obtain⟨hb0,n11,n15,n16,n17⟩:=h;have hK:=zh aA;clear aA;(try simp only[zQ]);(try simp only[zA,zB,zC]);go_simp;exact hK.out _ _ (zkc (Below.refl _ _) _) ⟨_,rfl,hb0.size,heap_alloc_new w _⟩
 ·simp only[Act.put,zD,zE,zF]
 rotate_left 1
 ·simp only[Act.put,zD,zE,zF]
 (try simp only[zQ]);obtain⟨rF,c18,rfl,m18⟩:=hF;clear hI eX dX;obtain⟨hb0,n11,n15,n16,n17⟩:=h;have hI:(fun w=>Below w2.heap.size w2 w/\NV w Any (eqT 0) (nv 16 0 ⟨#[]⟩ ja 2 c11)/\NV w Any plT (nv 40 0 ⟨#[]⟩ (some ⟨b15,0,none⟩) 2 2)/\NV w Any plT (nv 40 0 ⟨#[]⟩ mQ 2 c16)/\NV w Any (blT [plT]) (nv 57 0 ⟨#[]⟩ (some ⟨b17,0,none⟩) 1 1)/\NV w Any (blT [plT]) (nv 57 0 ⟨#[]⟩ rF 1 c18)) wc:=⟨hb0,n11,n15,n16,n17,m18⟩
 have eX:=hA;have dX:=hU;clear hA hU n11 n15 n16 n17 hb0
 -- operation 10
 refine zmi (i:=10) (j:=15) (some 20) (some 4) 4 (fun li l4 => #[true,true,true,true,true,true,true,true,true,true,li,true,false,false,false,l4,false]) _ (fun w=>Below w2.heap.size w2 w/\NV w Any (eqT 0) (nv 16 0 ⟨#[]⟩ ja 2 c11)/\NV w Any plT (nv 40 0 ⟨#[]⟩ (some ⟨b15,0,none⟩) 2 2)/\NV w Any plT (nv 40 0 ⟨#[]⟩ mQ 2 c16)/\NV w Any (blT [plT]) (nv 57 0 ⟨#[]⟩ (some ⟨b17,0,none⟩) 1 1)/\NV w Any (blT [plT]) (nv 57 0 ⟨#[]⟩ rF 1 c18)) (fun u w=>∃ b,u=.pointer (some ⟨b,0,none⟩)/\w2.heap.size<=b/\w.heap[b]?=some (.cells #[.int .u8 0,.int .i64 0,.string ⟨#[]⟩,.slice none 0 0] 26 (0,0))) (fun v w=>∃ A c,v=nv 57 0 ⟨#[]⟩ A 0 c/\NV w Any (blT []) v) rfl rfl rfl rfl (by kernel_rfl) (by kernel_rfl) (fun l4=>by cases l4<;>rfl) rfl (fun w h=>⟨aG.out _ h.1,trivial⟩) (fun w w' h hb=>?_) (fun u w w' h hb=>?_) (fun v4 K w h aA=>?_) (fun v4 K w h aA=>?_) (fun u v=>?_) (fun l4 v4 v wc h hF hA hU=>?_) l4 v4 wc hI eX dX ?_
 ·obtain⟨hb0,n11,n15,n16,n17,n18⟩:=h;exact⟨zka hb0 hb,n11.later hb,n15.later hb,n16.later hb,n17.later hb,n18.later hb⟩
 ·obtain⟨b,e1,e2,e3⟩:=h;exact⟨b,e1,e2,zkf e3 hb⟩
 ·obtain⟨hb0,n11,n15,n16,n17,n18⟩:=h;have hK:=zh aA;clear aA;refine zkj (by rfl) (.tmp 19) [.const (.slice none 0 0)] _ (by rfl) 16 _ zvO (by rfl) _ (by rfl) (fun v w'=>v=nv 57 0 ⟨#[]⟩ none 0 0/\Below w.heap.size w w') ((zpv none 0 0 w).mono fun e w' ⟨h1,h2⟩=>⟨_,h1,rfl,h2⟩) ?_;rintro v w' ⟨rfl,hb⟩;exact hK.out _ _ hb ⟨_,_,rfl,zoA w' Any (fld0 57 (by omega))⟩
 ·obtain⟨hb0,n11,n15,n16,n17,n18⟩:=h;have hK:=zh aA;clear aA;(try simp only[zQ]);(try simp only[zA,zB,zC]);go_simp;exact hK.out _ _ (zkc (Below.refl _ _) _) ⟨_,rfl,hb0.size,heap_alloc_new w _⟩
 ·simp only[Act.put,zD,zE,zF]
 rotate_left 1
 ·simp only[Act.put,zD,zE,zF]
 (try simp only[zQ]);obtain⟨vU,c20,rfl,m20⟩:=hF;clear hI eX dX;obtain⟨hb0,n11,n15,n16,n17,n18⟩:=h;have hI:(fun w=>Below w2.heap.size w2 w/\NV w Any (eqT 0) (nv 16 0 ⟨#[]⟩ ja 2 c11)/\NV w Any plT (nv 40 0 ⟨#[]⟩ (some ⟨b15,0,none⟩) 2 2)/\NV w Any plT (nv 40 0 ⟨#[]⟩ mQ 2 c16)/\NV w Any (blT [plT]) (nv 57 0 ⟨#[]⟩ (some ⟨b17,0,none⟩) 1 1)/\NV w Any (blT [plT]) (nv 57 0 ⟨#[]⟩ rF 1 c18)/\NV w Any (blT []) (nv 57 0 ⟨#[]⟩ vU 0 c20)) wc:=⟨hb0,n11,n15,n16,n17,n18,m20⟩
 have eX:=hA;have dX:=hU;clear hA hU n11 n15 n16 n17 n18 hb0
 -- operation 12
 refine zmi (i:=12) (j:=15) (some 22) (some 4) 3 (fun li l4 => #[true,true,true,true,true,true,true,true,true,true,true,true,li,false,false,l4,false]) _ (fun w=>Below w2.heap.size w2 w/\NV w Any (eqT 0) (nv 16 0 ⟨#[]⟩ ja 2 c11)/\NV w Any plT (nv 40 0 ⟨#[]⟩ (some ⟨b15,0,none⟩) 2 2)/\NV w Any plT (nv 40 0 ⟨#[]⟩ mQ 2 c16)/\NV w Any (blT [plT]) (nv 57 0 ⟨#[]⟩ (some ⟨b17,0,none⟩) 1 1)/\NV w Any (blT [plT]) (nv 57 0 ⟨#[]⟩ rF 1 c18)/\NV w Any (blT []) (nv 57 0 ⟨#[]⟩ vU 0 c20)) (fun u w=>∃ b,u=.pointer (some ⟨b,0,none⟩)/\w2.heap.size<=b/\w.heap[b]?=some (.cells #[.int .u8 0,.int .i64 0,.string ⟨#[]⟩,.slice none 0 0] 26 (0,0))) (fun v w=>∃ A c,v=nv 16 0 ⟨#[]⟩ A 2 c/\NV w Any (eqT 3) v) rfl rfl rfl rfl (by kernel_rfl) (by kernel_rfl) (fun l4=>by cases l4<;>rfl) rfl (fun w h=>⟨aG.out _ h.1,trivial⟩) (fun w w' h hb=>?_) (fun u w w' h hb=>?_) (fun v4 K w h aA=>?_) (fun v4 K w h aA=>?_) (fun u v=>?_) (fun l4 v4 v wc h hF hA hU=>?_) l4 v4 wc hI eX dX ?_
 ·obtain⟨hb0,n11,n15,n16,n17,n18,n20⟩:=h;exact⟨zka hb0 hb,n11.later hb,n15.later hb,n16.later hb,n17.later hb,n18.later hb,n20.later hb⟩
 ·obtain⟨b,e1,e2,e3⟩:=h;exact⟨b,e1,e2,zkf e3 hb⟩
 ·obtain⟨hb0,n11,n15,n16,n17,n18,n20⟩:=h;have hK:=zh aA;clear aA;have had:=ztq 3 ⟨by decide,by decide⟩ xb w (zkf vM.out hb0);rw[show(#[Value.int .i64 3,.pointer (some ⟨xb,0,none⟩)]:Array Value)=[Value.int .i64 3].toArray ++ #[.pointer (some ⟨xb,0,none⟩)] from rfl] at had;refine zlr (by rfl) (.tmp 21) [.const (.int .i64 3)] _ (by rfl) 14 _ zxl #[.pointer (some ⟨xb,0,none⟩)] (by rfl) _ (by rfl) _ had ?_;rintro v w' ⟨A,c,rfl,hn,hb⟩;exact hK.out _ _ hb ⟨A,c,rfl,hn⟩
 ·obtain⟨hb0,n11,n15,n16,n17,n18,n20⟩:=h;have hK:=zh aA;clear aA;(try simp only[zQ]);(try simp only[zA,zB,zC]);go_simp;exact hK.out _ _ (zkc (Below.refl _ _) _) ⟨_,rfl,hb0.size,heap_alloc_new w _⟩
 ·simp only[Act.put,zD,zE,zF]
 rotate_left 1
 ·simp only[Act.put,zD,zE,zF]
 (try simp only[zQ]);obtain⟨yF,xZ,rfl,m22⟩:=hF;clear hI eX dX;obtain⟨hb0,n11,n15,n16,n17,n18,n20⟩:=h;have hI:(fun w=>Below w2.heap.size w2 w/\NV w Any (eqT 0) (nv 16 0 ⟨#[]⟩ ja 2 c11)/\NV w Any plT (nv 40 0 ⟨#[]⟩ (some ⟨b15,0,none⟩) 2 2)/\NV w Any plT (nv 40 0 ⟨#[]⟩ mQ 2 c16)/\NV w Any (blT [plT]) (nv 57 0 ⟨#[]⟩ (some ⟨b17,0,none⟩) 1 1)/\NV w Any (blT [plT]) (nv 57 0 ⟨#[]⟩ rF 1 c18)/\NV w Any (blT []) (nv 57 0 ⟨#[]⟩ vU 0 c20)/\NV w Any (eqT 3) (nv 16 0 ⟨#[]⟩ yF 2 xZ)) wc:=⟨hb0,n11,n15,n16,n17,n18,n20,m22⟩
 have eX:=hA;have dX:=hU;clear hA hU n11 n15 n16 n17 n18 n20 hb0
 -- operation 13
 refine zmi (i:=13) (j:=15) (some 23) (some 4) 2 (fun li l4 => #[true,true,true,true,true,true,true,true,true,true,true,true,true,li,false,l4,false]) _ (fun w=>Below w2.heap.size w2 w/\NV w Any (eqT 0) (nv 16 0 ⟨#[]⟩ ja 2 c11)/\NV w Any plT (nv 40 0 ⟨#[]⟩ (some ⟨b15,0,none⟩) 2 2)/\NV w Any plT (nv 40 0 ⟨#[]⟩ mQ 2 c16)/\NV w Any (blT [plT]) (nv 57 0 ⟨#[]⟩ (some ⟨b17,0,none⟩) 1 1)/\NV w Any (blT [plT]) (nv 57 0 ⟨#[]⟩ rF 1 c18)/\NV w Any (blT []) (nv 57 0 ⟨#[]⟩ vU 0 c20)/\NV w Any (eqT 3) (nv 16 0 ⟨#[]⟩ yF 2 xZ)) (fun u w=>∃ b,u=.pointer (some ⟨b,0,none⟩)/\w2.heap.size<=b/\w.heap[b]?=some (.cells #[.int .u8 0,.int .i64 0,.string ⟨#[]⟩,.slice none 0 0] 26 (0,0))) (fun v w=>∃ b,v=.slice (some ⟨b,0,none⟩) 4 4/\NV w Any loT (nv 53 0 ⟨#[]⟩ (some ⟨b,0,none⟩) 4 4)) rfl rfl rfl rfl (by kernel_rfl) (by kernel_rfl) (fun l4=>by cases l4<;>rfl) rfl (fun w h=>⟨aG.out _ h.1,trivial⟩) (fun w w' h hb=>?_) (fun u w w' h hb=>?_) (fun v4 K w h aA=>?_) (fun v4 K w h aA=>?_) (fun u v=>?_) (fun l4 v4 v wc h hF hA hU=>?_) l4 v4 wc hI eX dX ?_
 ·obtain⟨hb0,n11,n15,n16,n17,n18,n20,n22⟩:=h;exact⟨zka hb0 hb,n11.later hb,n15.later hb,n16.later hb,n17.later hb,n18.later hb,n20.later hb,n22.later hb⟩
 ·obtain⟨b,e1,e2,e3⟩:=h;exact⟨b,e1,e2,zkf e3 hb⟩
 ·obtain⟨hb0,n11,n15,n16,n17,n18,n20,n22⟩:=h;have hK:=zh aA;clear aA;(try simp only[zQ]);(try simp only[zA,zB,zC]);go_simp;exact hK.out _ _ (zkc (Below.refl _ _) _) ⟨_,rfl,zw0 w 26 (S:=Any) trivial (fld0 53 (by omega)) n11 n18 n20 n22⟩
 ·obtain⟨hb0,n11,n15,n16,n17,n18,n20,n22⟩:=h;have hK:=zh aA;clear aA;(try simp only[zQ]);(try simp only[zA,zB,zC]);go_simp;exact hK.out _ _ (zkc (Below.refl _ _) _) ⟨_,rfl,hb0.size,heap_alloc_new w _⟩
 ·simp only[Act.put,zD,zE,zF]
 rotate_left 1
 ·simp only[Act.put,zD,zE,zF]
 (try simp only[zQ]);obtain⟨b23,rfl,m23⟩:=hF;clear hI eX dX;obtain⟨hb0,n11,n15,n16,n17,n18,n20,n22⟩:=h;have hI:(fun w=>Below w2.heap.size w2 w/\NV w Any (eqT 0) (nv 16 0 ⟨#[]⟩ ja 2 c11)/\NV w Any plT (nv 40 0 ⟨#[]⟩ (some ⟨b15,0,none⟩) 2 2)/\NV w Any plT (nv 40 0 ⟨#[]⟩ mQ 2 c16)/\NV w Any (blT [plT]) (nv 57 0 ⟨#[]⟩ (some ⟨b17,0,none⟩) 1 1)/\NV w Any (blT [plT]) (nv 57 0 ⟨#[]⟩ rF 1 c18)/\NV w Any (blT []) (nv 57 0 ⟨#[]⟩ vU 0 c20)/\NV w Any (eqT 3) (nv 16 0 ⟨#[]⟩ yF 2 xZ)/\NV w Any loT (nv 53 0 ⟨#[]⟩ (some ⟨b23,0,none⟩) 4 4)) wc:=⟨hb0,n11,n15,n16,n17,n18,n20,n22,m23⟩
 have eX:=hA;have dX:=hU;clear hA hU n11 n15 n16 n17 n18 n20 n22 hb0
 -- operation 14
 refine zmi (i:=14) (j:=15) (some 24) (some 4) 1 (fun li l4 => #[true,true,true,true,true,true,true,true,true,true,true,true,true,true,li,l4,false]) _ (fun w=>Below w2.heap.size w2 w/\NV w Any (eqT 0) (nv 16 0 ⟨#[]⟩ ja 2 c11)/\NV w Any plT (nv 40 0 ⟨#[]⟩ (some ⟨b15,0,none⟩) 2 2)/\NV w Any plT (nv 40 0 ⟨#[]⟩ mQ 2 c16)/\NV w Any (blT [plT]) (nv 57 0 ⟨#[]⟩ (some ⟨b17,0,none⟩) 1 1)/\NV w Any (blT [plT]) (nv 57 0 ⟨#[]⟩ rF 1 c18)/\NV w Any (blT []) (nv 57 0 ⟨#[]⟩ vU 0 c20)/\NV w Any (eqT 3) (nv 16 0 ⟨#[]⟩ yF 2 xZ)/\NV w Any loT (nv 53 0 ⟨#[]⟩ (some ⟨b23,0,none⟩) 4 4)) (fun u w=>∃ b,u=.pointer (some ⟨b,0,none⟩)/\w2.heap.size<=b/\w.heap[b]?=some (.cells #[.int .u8 0,.int .i64 0,.string ⟨#[]⟩,.slice none 0 0] 26 (0,0))) (fun v w=>∃ A c,v=nv 53 0 ⟨#[]⟩ A 4 c/\NV w Any loT v) rfl rfl rfl rfl (by kernel_rfl) (by kernel_rfl) (fun l4=>by cases l4<;>rfl) rfl (fun w h=>⟨aG.out _ h.1,trivial⟩) (fun w w' h hb=>?_) (fun u w w' h hb=>?_) (fun v4 K w h aA=>?_) (fun v4 K w h aA=>?_) (fun u v=>?_) (fun l4 v4 v wc h hF hA hU=>?_) l4 v4 wc hI eX dX ?_
 ·obtain⟨hb0,n11,n15,n16,n17,n18,n20,n22,n23⟩:=h;exact⟨zka hb0 hb,n11.later hb,n15.later hb,n16.later hb,n17.later hb,n18.later hb,n20.later hb,n22.later hb,n23.later hb⟩
 ·obtain⟨b,e1,e2,e3⟩:=h;exact⟨b,e1,e2,zkf e3 hb⟩
 ·obtain⟨hb0,n11,n15,n16,n17,n18,n20,n22,n23⟩:=h;have hK:=zh aA;clear aA;(try simp only[zQ]);(try simp only[zA,zB,zC]);go_simp;exact hK.out _ _ (Below.refl _ _) ⟨_,_,rfl,n23⟩
 ·obtain⟨hb0,n11,n15,n16,n17,n18,n20,n22,n23⟩:=h;have hK:=zh aA;clear aA;(try simp only[zQ]);(try simp only[zA,zB,zC]);go_simp;exact hK.out _ _ (zkc (Below.refl _ _) _) ⟨_,rfl,hb0.size,heap_alloc_new w _⟩
 ·simp only[Act.put,zD,zE,zF]
 rotate_left 1
 ·simp only[Act.put,zD,zE,zF]
 (try simp only[zQ]);obtain⟨uW,c24,rfl,m24⟩:=hF;obtain⟨hb0,n11,n15,n16,n17,n18,n20,n22,n23⟩:=h;have hI:(fun w=>Below w2.heap.size w2 w/\NV w Any loT (nv 53 0 ⟨#[]⟩ uW 4 c24)) wc:=⟨hb0,m24⟩
 clear m11 m15 m16 m17 m18 m20 m22 m23 m24 n11 n15 n16 n17 n18 n20 n22 n23 hb0;clear hU eX dX;refine zt9 (j:=15) (some 4) 1 (fun l4 => #[true,true,true,true,true,true,true,true,true,true,true,true,true,true,true,l4,false]) _ (fun w=>Below w2.heap.size w2 w/\NV w Any loT (nv 53 0 ⟨#[]⟩ uW 4 c24)) (fun u w=>∃ b,u=.pointer (some ⟨b,0,none⟩)/\w2.heap.size<=b/\w.heap[b]?=some (.cells #[.int .u8 0,.int .i64 0,.string ⟨#[]⟩,.slice none 0 0] 26 (0,0))) rfl rfl (by kernel_rfl) rfl (fun w h=>⟨aG.out _ h.1,trivial⟩) (fun w w' h hb=>⟨zka h.1 hb,h.2.later hb⟩) (fun v4 K w h aA=>?_) (fun u v=>?_) (fun v5 w3 h5 hA5=>?_) l4 v4 wc hI hA ?_
 ·have hb0:=h.1;have hK:=zh aA;clear aA;(try simp only[zQ]);(try simp only[zA,zB,zC]);go_simp;exact hK.out _ _ (zkc (Below.refl _ _) _) ⟨_,rfl,hb0.size,heap_alloc_new w _⟩
 ·simp only[Act.put,zD,zE,zF]
 rotate_left 1
 ·simp only[Act.put,zD,zE,zF]
 (try simp only[zQ]);clear hI hA;obtain⟨bb,rfl,hbl,hbz⟩:=hA5;obtain⟨hb3,ma⟩:=h5;have c0:w3.cell? ⟨bb,0,none⟩=some (.int .u8 0):=zc hbz rfl;have c1:w3.cell? ⟨bb,1,none⟩=some (.int .i64 0):=zc hbz rfl;have c2:w3.cell? ⟨bb,2,none⟩=some (.string ⟨#[]⟩):=zc hbz rfl;have c3:w3.cell? ⟨bb,3,none⟩=some (.slice none 0 0):=zc hbz rfl;have cf:∀ o,w3.frozen? ⟨bb,o,none⟩=false:=fun _=>zf hbz;have rD:=zh hbz;have HB3:=zh hb3;have cZ:=zh ma;clear hb3 ma hbz;refine zp 16 fun K hK=>?_;(try simp only[zA,zB,zC]);go_simp;obtain⟨hh,hch⟩:=zw1 (u0:=.int .u8 53) (u1:=.int .i64 0) (u2:=.string ⟨#[]⟩) (u3:=.slice uW 4 c24) rD.out;have hb4:=HB3.out.trans (hch.below HB3.out.size fun b e=>by omega)
 have zi:=(NV.nz rD.out loT _ cZ.out (by decide +kernel)).keep (w':=(((w3.setCell ⟨bb,0,none⟩ (.int .u8 53)).setCell ⟨bb,1,none⟩ (.int .i64 0)).setCell ⟨bb,2,none⟩ (.string ⟨#[]⟩)).setCell ⟨bb,3,none⟩ (.slice uW 4 c24)) (S':=Any) (fun _ _ _=>trivial) fun b hb hlt=>hch.block b hlt hb;obtain⟨w4,hw4⟩:∃ x,(((w3.setCell ⟨bb,0,none⟩ (.int .u8 53)).setCell ⟨bb,1,none⟩ (.int .i64 0)).setCell ⟨bb,2,none⟩ (.string ⟨#[]⟩)).setCell ⟨bb,3,none⟩ (.slice uW 4 c24)=x:=⟨_,rfl⟩
 rw[hw4] at hh hb4 zi ⊢;have aK:=zh hb4;have HN4:=zh zi;have HH4:=zh hh;refine hK.out _ _ (aG.out _ aK.out) ?_;clear hK K aG c0 c1 c2 c3 cf hw4 hch hb4 zi HB3 cZ rD hh h2 h3 h4;(try simp only[zQ]);refine zd ?_;refine NoPanic.normal ?_;obtain⟨r0,r1,r2,r3⟩:=box4 HH4.out;have y0:=fun o=>zkm r0 o;have y1:=fun o=>zkm r1 o;have y2:=fun o=>zkm r2 o;have y3:=fun o=>zkm r3 o;have hv2:=bV2;have hv1:=bSVw;have uZ:=bPgA;go_wp2_with fail;refine(zpv _ 1 1 _).mono ?_;rintro e5 w5 ⟨rfl,b5⟩;have k1:=zkf (zkn (heap_alloc_new w4 (.cells #[.string ⟨#[120]⟩,.int .u8 1,.int .i64 0] 48)) (.cells #[.int .u8 53,.int .i64 0,.string ⟨#[]⟩,.slice uW 4 c24] 26)) b5;have zg:=(zvY (w4.alloc (.cells #[.string ⟨#[120]⟩,.int .u8 1,.int .i64 0] 48)) 26 (S:=Any) trivial (fld0 57 (by omega)) (HN4.out.later (zkc (Below.refl _ _) _))).later b5
 have b45:=zka (zkc (zkc (Below.refl w4.heap.size w4) (.cells #[.string ⟨#[120]⟩,.int .u8 1,.int .i64 0] 48)) (.cells #[.int .u8 53,.int .i64 0,.string ⟨#[]⟩,.slice uW 4 c24] 26)) b5;rw[World.size_alloc] at zg;have AZ:=zh zg;have aH:=zh k1;have HB45:=zh b45;clear k1 zg b45 b5 r0 r1 r2 r3 y0 y1 y2 y3;have hi1:=zmR;have hii:=zx6;have hs1:=bS1;have hbp:=zkc (Below.refl w5.heap.size w5) (.cells #[.slice (some ⟨w4.heap.size,0,none⟩) 1 1,.slice none 0 0,.int .u8 57,.int .i64 0,.string ⟨#[]⟩,.slice (some ⟨w4.heap.size+1,0,none⟩) 1 1] 28);have kp:=heap_alloc_new w5 (.cells #[.slice (some ⟨w4.heap.size,0,none⟩) 1 1,.slice none 0 0,.int .u8 57,.int .i64 0,.string ⟨#[]⟩,.slice (some ⟨w4.heap.size+1,0,none⟩) 1 1] 28);go_upto_region 6 with fail
 obtain⟨w6,bz⟩:∃ x,w5.alloc (.cells #[.slice (some ⟨w4.heap.size,0,none⟩) 1 1,.slice none 0 0,.int .u8 57,.int .i64 0,.string ⟨#[]⟩,.slice (some ⟨w4.heap.size+1,0,none⟩) 1 1] 28)=x:=⟨_,rfl⟩
 rw[bz] at hbp kp ⊢;obtain⟨pb,hpb⟩:∃ x,w5.heap.size=x:=⟨_,rfl⟩
 rw[hpb] at kp ⊢;have oo:=zh (fun w' (hb:Below w6.heap.size w6 w')=>zw5 (W:=w') (zkf aH.out (zka hbp hb)) (AZ.out.later (zka hbp hb)));have HB26:=zh (zka aK.out (zka HB45.out hbp));have yz:=zh kp;clear bz hbp hpb;have z0:w6.cell? ⟨pb,0,none⟩=some (.slice (some ⟨w4.heap.size,0,none⟩) 1 1):=zc kp rfl;have z1:w6.cell? ⟨pb,1,none⟩=some (.slice none 0 0):=zc kp rfl;have z2:w6.cell? ⟨pb,2,none⟩=some (.int .u8 57):=zc kp rfl;have z3:w6.cell? ⟨pb,3,none⟩=some (.int .i64 0):=zc kp rfl;have z4:w6.cell? ⟨pb,4,none⟩=some (.string ⟨#[]⟩):=zc kp rfl;have z5:w6.cell? ⟨pb,5,none⟩=some (.slice (some ⟨w4.heap.size+1,0,none⟩) 1 1):=zc kp rfl;clear kp;go_wp2_with fail;have hbf:=zkc (zkc (Below.refl w6.heap.size w6) (.cells #[.int .i64 0] 3)) (.cells #[.slice (some ⟨w6.heap.size,0,none⟩) 1 1] 30)
 have HFW:=zh (zoB pgA ⟨[[0]],[],[]⟩ 50 102000 _ _ _ (oo.out _ hbf) (zvD w6 0 ⟨by decide,by decide⟩) (by decide) ⟨by decide,by decide⟩ (by decide) zxg);refine HFW.out.mono ?_;obtain⟨ti,rH,en,hres⟩:=zxI;rintro e7 w7 ⟨v1,v2,v3,rfl,gW,oP,-⟩;rw[hres] at gW ⊢;obtain⟨cb,c,eb,d,B,d1,D,d2,hv,hc1,hc2⟩:=gW.one;injection hv with hv;simp only[Array.mk.injEq,List.cons.injEq,and_true] at hv;obtain⟨rfl,rfl,rfl⟩:=hv;have hb67:=zka hbf oP;have oG:=zh hc1;have lU:=zh hc2;have HB67:=zh hb67;clear hres gW oP hbf HFW hc1 hc2 z0 z1 z2 z3 z4 z5;have kf:=heap_alloc_new w7 (.cells #[.slice (some ⟨cb,0,none⟩) 1 c,.slice B ti.length d1,.slice D rH.length d2,.int .i64 9,.int .i64 0] 37);have hbf:=zkc (Below.refl w7.heap.size w7) (.cells #[.slice (some ⟨cb,0,none⟩) 1 c,.slice B ti.length d1,.slice D rH.length d2,.int .i64 9,.int .i64 0] 37);go_upto_region 7 with fail
 obtain⟨w8,hw8⟩:∃ x,w7.alloc (.cells #[.slice (some ⟨cb,0,none⟩) 1 c,.slice B ti.length d1,.slice D rH.length d2,.int .i64 9,.int .i64 0] 37)=x:=⟨_,rfl⟩
 obtain⟨fb,gX⟩:∃ x,w7.heap.size=x:=⟨_,rfl⟩
 rw[hw8] at kf hbf ⊢;rw[gX] at kf ⊢;have tN:=zka HB67.out hbf;have kp:=zkf yz.out tN;have HKF:=zh kf;have HB68:=zh tN;have HC18:=zh (zb hbf oG.out);have HC28:=zh (zb hbf lU.out);have z0:w8.cell? ⟨pb,0,none⟩=some (.slice (some ⟨w4.heap.size,0,none⟩) 1 1):=zc kp rfl;have z1:w8.cell? ⟨pb,1,none⟩=some (.slice none 0 0):=zc kp rfl;have z2:w8.cell? ⟨pb,2,none⟩=some (.int .u8 57):=zc kp rfl;have z3:w8.cell? ⟨pb,3,none⟩=some (.int .i64 0):=zc kp rfl;have z4:w8.cell? ⟨pb,4,none⟩=some (.string ⟨#[]⟩):=zc kp rfl;have z5:w8.cell? ⟨pb,5,none⟩=some (.slice (some ⟨w4.heap.size+1,0,none⟩) 1 1):=zc kp rfl;clear hw8 hbf kf tN kp gX;go_wp2_with fail;have hbg:=zkc (zkc (Below.refl w8.heap.size w8) (.cells #[.int .i64 3] 3)) (.cells #[.slice (some ⟨w8.heap.size,0,none⟩) 1 1] 30)
 have az:=zh (zqk pgA ⟨[[3]],[],[]⟩ 50 102000 _ _ _ (oo.out _ (zka HB68.out hbg)) (zvD w8 3 ⟨by decide,by decide⟩) (by decide) ⟨by decide,by decide⟩ (by decide) zxg);refine az.out.mono ?_;obtain⟨ti2,to2,mq,hres⟩:=zxJ;rintro e9 w9 ⟨v1,v2,v3,rfl,bG,bO,-⟩;rw[hres] at bG ⊢;obtain⟨cb2,c2,vw,d2',B2,d12,D2,d22,hv,hc1,hc2⟩:=bG.one;injection hv with hv;simp only[Array.mk.injEq,List.cons.injEq,and_true] at hv;obtain⟨rfl,rfl,rfl⟩:=hv;have nK:=zka hbg bO;have xw:=zkf HKF.out nK;have f0:w9.cell? ⟨fb,0,none⟩=some (.slice (some ⟨cb,0,none⟩) 1 c):=zc xw rfl;have f3:w9.cell? ⟨fb,3,none⟩=some (.int .i64 9):=zc xw rfl;have f4:w9.cell? ⟨fb,4,none⟩=some (.int .i64 0):=zc xw rfl;have g1:=zb nK HC18.out;have g2:=zb nK HC28.out;have y0:=fun o=>zkm f0 o;have y3:=fun o=>zkm f3 o;have y4:=fun o=>zkm f4 o;have y1:=fun o=>zkm g1 o
 have y2:=fun o=>zkm g2 o;have u1:=fun o=>zkm hc1 o;have u2:=fun o=>zkm hc2 o;have HB29:=zh (zka HB2.out (zka HB26.out (zka HB68.out nK)));clear hres bG bO hbg az nK xw z0 z1 z2 z3 z4 z5 f0 f3 f4 g1 g2 hc1 hc2;go_wp2_with fail;go_ret;exact⟨rfl,zkc HB29.out _⟩
mutual
/-- How many nodes are left of a budget. -/
def szE:T->Int->Int
 | .nd _ _ _ ks,l=>szEs ks (l-1)
def szEs:List T->Int->Int
 | [],l=>l
 | t::ts,l=>if l<0 then l else szEs ts (szE t l)
end
theorem zvC:∀ (m:Nat) (t:T) (l:Int),size t<=m->0<=l -> -1<=szE t l/\szE t l<=l
 | 0,.nd k n s ks,l,h,_=>by rw[size] at h;omega
 | m+1,.nd k n s ks,l,h,h0=>by
  rw[szE];rw[size] at h;have key:∀ (us:List T) (l:Int),zld us<=m -> -1<=l -> -1<=szEs us l/\szEs us l<=l:=by
   intro us
   induction us with
   | nil=>intro l _ h1;rw[szEs];exact⟨h1,Int.le_refl _⟩
   | cons u us ih =>
    intro l hs h1;rw[zld] at hs;rw[szEs]
    split
    ·exact⟨h1,Int.le_refl _⟩
    ·have h2:=zvC m u l (by omega) (by omega);have h3:=ih (szE u l) (by omega) h2.1;exact⟨h3.1,by omega⟩
  have:=key ks (l-1) (by omega) (by omega);exact⟨this.1,by omega⟩
theorem zpT:∀ (t:T) (v:Value) (l:Int) (w:World),NV w Any t v->0<=l->l<=1000->Calls Tryz.prog 17 #[v,.int .i64 l] w fun e w'=>e=.returned (.int .i64 (szE t l))/\Below w.heap.size w w':=by
 intro t
 induction t using T.ind with
 | _ k n s ks ih =>
  intro v l w hv h0 h1;obtain⟨A,c,rfl,hf,hlk,hlc,hrow⟩:=hv.open_;have IH:=zh ih;have ah:=zh hrow;have hw1:IntKind.i64.wrap (l-1)=l-1:=IntWalk.i64_in _ (by omega);have hb1:=zkc (Below.refl w.heap.size w) (.cells #[.int .u8 k,.int .i64 n,.string s,.slice A ks.length c] 26);have k1:=heap_alloc_new w (.cells #[.int .u8 k,.int .i64 n,.string s,.slice A ks.length c] 26);obtain⟨w1,hw⟩:∃ x,w.alloc (.cells #[.int .u8 k,.int .i64 n,.string s,.slice A ks.length c] 26)=x:=⟨_,rfl⟩
  obtain⟨r,hr⟩:∃ r,szE (.nd k n s ks) l=r:=⟨_,rfl⟩
  have HR:=zh (show szEs (ks.drop 0) (l-1)=r by rw[<-hr,szE,List.drop_zero]);rw[hr];rw[hw] at hb1 k1;have HB1:=zh hb1;have aH:=zh k1;simp only[T.k_nd,T.n_nd,T.s_nd,T.ks_nd] at hlk hlc ⊢;have hlk2:ks.length<=17592186044416:=by unfold LK at hlk;omega
  clear hv hf hlk hrow ih hr hb1 k1;go_enter Tryz.func17,Tryz.ntmps17;go_wp2_with fail;clear hw
  go_loopw [5,1] (fun i q wr=>∃ (j:Nat) (x:Int),j<=ks.length/\i=.int .i64 j/\q=.int .i64 x /\ -1<=x/\x<=1000/\Hid (Below w1.heap.size w1 wr)/\Hid (szEs (ks.drop j) x=r)) (fun i _ _=>ks.length-(intOf i).toNat)
  case atStart=>exact⟨0,l-1,Nat.zero_le _,rfl,rfl,by omega,by omega,zh (Below.refl _ _),HR⟩
  case round =>
   obtain⟨j,x,hj,rfl,rfl,hx1,hx2,af,HJ⟩:=hrel;have hk:=zkf aH.out af.out;have z3:wr.cell? ⟨w.heap.size,3,none⟩=some (.slice A ks.length c):=zc hk rfl;by_cases hlt:j<ks.length
   ·have hj1:(j:Int)<(ks.length:Int):=by omega
    have hj0:(0:Int)<=(j:Int):=by omega
    by_cases hx:0<=x
    ·have hbb:=zka HB1.out af.out;obtain⟨a,u,Au,cu,rfl,-,Hu,⟨p0,p1,p2,p3⟩,hn⟩:=ah.out.nd hlt;have q0:=zb hbb p0;have q1:=zb hbb p1;have q2:=zb hbb p2;have q3:=zb hbb p3;have HS:=zh (IH.out u (by rw[<-Hu.out];exact List.getElem_mem hlt) _ x wr (hn.later hbb) hx hx2);have HJ2:=zh (show szEs (ks.drop (j+1)) (szE u x)=r by
      have h5:=HJ.out;rw[List.drop_eq_getElem_cons hlt] at h5;rw[szEs,if_neg (by omega)] at h5;rw[<-h5];have:=Hu.out;simp only[T.ks_nd] at this;rw[this])
     have HL:=zh (zvC _ u x (Nat.le_refl _) hx);clear p0 p1 p2 p3 hn hbb HJ hk;go_wp2_with fail;refine HS.out.mono ?_;rintro e w2 ⟨rfl,hb2⟩;have HB2:=zh (zka af.out hb2);obtain⟨y,hy⟩:∃ y,szE u x=y:=⟨_,rfl⟩
     rw[hy] at HJ2 HL ⊢;clear hb2 HS q0 q1 q2 q3 z3 hy;go_wp2_with fail
     go_roundw
     case rel=>exact⟨j+1,y,by omega,by go_num,rfl,HL.out.1,by have:=HL.out.2;omega,HB2,HJ2⟩
     case measure=>simp[intOf];omega
    ·have hx':¬ (0:Int)<=x:=hx;have HJ2:=zh (show x=r by
      have h5:=HJ.out;rw[List.drop_eq_getElem_cons hlt,szEs,if_pos (by omega)] at h5;exact h5)
     clear HJ hk;go_wp2_with fail;go_ret;exact⟨by rw[HJ2.out];rfl,zka HB1.out af.out⟩
   ·have hj1:¬ (j:Int)<(ks.length:Int):=by omega
    have HJ2:=zh (show x=r by
     have h5:=HJ.out;rw[List.drop_eq_nil_of_le (by omega),szEs] at h5;exact h5)
    clear HJ hk;go_wp2_with fail;go_ret;exact⟨by rw[HJ2.out];rfl,zka HB1.out af.out⟩
structure Smal (p:PG) (s:SS) (F:Int):Prop where
 F:F<=2000
 prs:p.prs.length<=4
 vs:p.vs.length<=8
 cells:s.cells.length<=8
 tin:s.tin.length<=50
 tout:s.tout.length<=50
 row:∀ l∈s.cells,l.length<=50
def GrP (W:World) (p:PG) (s:SS) (F:Int) (e:Ending) (W':World):Prop:=∃ b,e=.returned (.bool b)/\(b=false->Smal p s F)/\Below W.heap.size W W'
theorem zsN (p:PG) (s:SS) (F:Int) (v sv:Value) (W:World) (hp:PV W Any p v) (hs:SV W Any s sv) (hF:I64 F) :
  Calls Tryz.prog 7 #[v,sv,.int .i64 F] W (GrP W p s F):=by
 obtain⟨A1,c1,A2,c2,A3,c3,rfl,dK⟩:=hp;obtain⟨A,c,B,d,D,e,rfl,hr1,hr2,hr3,hc1,hc2,hc3,hl1,hl2,hl3,hl4⟩:=hs;have wV:=zh dK;have HR1:=zh hr1;have hb2:=zkc (zkc (Below.refl W.heap.size W) (.cells #[.slice A1 p.vs.length c1,.slice A2 p.prs.length c2,.int .u8 p.m.k,.int .i64 p.m.n,.string p.m.s,.slice A3 p.m.ks.length c3] 28)) (.cells #[.slice A s.cells.length c,.slice B s.tin.length d,.slice D s.tout.length e] 32);have k0:=zkn (heap_alloc_new W (.cells #[.slice A1 p.vs.length c1,.slice A2 p.prs.length c2,.int .u8 p.m.k,.int .i64 p.m.n,.string p.m.s,.slice A3 p.m.ks.length c3] 28)) (.cells #[.slice A s.cells.length c,.slice B s.tin.length d,.slice D s.tout.length e] 32)
 have k1:=heap_alloc_new (W.alloc (.cells #[.slice A1 p.vs.length c1,.slice A2 p.prs.length c2,.int .u8 p.m.k,.int .i64 p.m.n,.string p.m.s,.slice A3 p.m.ks.length c3] 28)) (.cells #[.slice A s.cells.length c,.slice B s.tin.length d,.slice D s.tout.length e] 32);rw[World.size_alloc] at k1;obtain⟨w2,hw2⟩:∃ x,(W.alloc (.cells #[.slice A1 p.vs.length c1,.slice A2 p.prs.length c2,.int .u8 p.m.k,.int .i64 p.m.n,.string p.m.s,.slice A3 p.m.ks.length c3] 28)).alloc (.cells #[.slice A s.cells.length c,.slice B s.tin.length d,.slice D s.tout.length e] 32)=x:=⟨_,rfl⟩
 rw[hw2] at hb2 k0 k1;have HB2:=zh hb2;have aQ:=zh k0;have aH:=zh k1;have p0:w2.cell? ⟨W.heap.size,0,none⟩=some (.slice A1 p.vs.length c1):=zc k0 rfl;have p1:w2.cell? ⟨W.heap.size,1,none⟩=some (.slice A2 p.prs.length c2):=zc k0 rfl;have p2:w2.cell? ⟨W.heap.size,2,none⟩=some (.int .u8 p.m.k):=zc k0 rfl;have p3:w2.cell? ⟨W.heap.size,3,none⟩=some (.int .i64 p.m.n):=zc k0 rfl;have p4:w2.cell? ⟨W.heap.size,4,none⟩=some (.string p.m.s):=zc k0 rfl;have p5:w2.cell? ⟨W.heap.size,5,none⟩=some (.slice A3 p.m.ks.length c3):=zc k0 rfl;have hlv:=zlE dK.lv;have hlp:=zlE dK.lp;have qA:=zh (zpT p.m _ 150 w2 (dK.main.later hb2) (by omega) (by omega));obtain⟨x,hx⟩:∃ x,szE p.m 150=x:=⟨_,rfl⟩
 rw[hx] at qA;have hlc1:s.cells.length<=17592186044416:=by unfold LI at hl1;omega
 clear dK hr1 hr2 hr3 hb2 k0 k1 hx hc1 hc2 hc3 hl1 hl2 hl3 hl4;go_enter Tryz.func7,Tryz.ntmps7;by_cases h1:(4:Int)<(p.prs.length:Int)
 ·skip
  go_wp2_with fail;go_ret;exact(⟨true,rfl,(fun h=>by cases h),HB2.out⟩:GrP W p s F _ _)
 by_cases h2:(8:Int)<(p.vs.length:Int)
 ·skip
  go_wp2_with fail;go_ret;exact(⟨true,rfl,(fun h=>by cases h),HB2.out⟩:GrP W p s F _ _)
 go_wp2_with fail;refine qA.out.mono ?_;rintro e3 w3 ⟨rfl,hb3⟩;have HB3:=zh (zka HB2.out hb3);have ks:=zkf aH.out hb3;have kp:=zkf aQ.out hb3;have s0:w3.cell? ⟨W.heap.size+1,0,none⟩=some (.slice A s.cells.length c):=zc ks rfl;have s1:w3.cell? ⟨W.heap.size+1,1,none⟩=some (.slice B s.tin.length d):=zc ks rfl;have s2:w3.cell? ⟨W.heap.size+1,2,none⟩=some (.slice D s.tout.length e):=zc ks rfl;have q1:w3.cell? ⟨W.heap.size,1,none⟩=some (.slice A2 p.prs.length c2):=zc kp rfl;have yz:=zh kp;have vN:=zh ks;clear hb3 qA ks kp p0 p1 p2 p3 p4 p5 hw2;by_cases h3:x<0
 ·skip
  go_wp2_with fail;go_ret;exact(⟨true,rfl,(fun h=>by cases h),HB3.out⟩:GrP W p s F _ _)
 by_cases h4:(2000:Int)<F
 ·skip
  go_wp2_with fail;go_ret;exact(⟨true,rfl,(fun h=>by cases h),HB3.out⟩:GrP W p s F _ _)
 by_cases h5:(8:Int)<(s.cells.length:Int)
 ·skip
  go_wp2_with fail;go_ret;exact(⟨true,rfl,(fun h=>by cases h),HB3.out⟩:GrP W p s F _ _)
 by_cases h6:(50:Int)<(s.tin.length:Int)
 ·skip
  go_wp2_with fail;go_ret;exact(⟨true,rfl,(fun h=>by cases h),HB3.out⟩:GrP W p s F _ _)
 by_cases h7:(50:Int)<(s.tout.length:Int)
 ·skip
  go_wp2_with fail;go_ret;exact(⟨true,rfl,(fun h=>by cases h),HB3.out⟩:GrP W p s F _ _)
 go_wp2_with fail
 go_loopw [52] (fun i wr=>∃ j:Nat,j<=p.prs.length/\i=.int .i64 j/\Hid (Below w3.heap.size w3 wr)) (fun i _=>p.prs.length-(intOf i).toNat)
 case atStart=>exact⟨0,Nat.zero_le _,rfl,zh (Below.refl _ _)⟩
 case round =>
  obtain⟨j,hj,rfl,af⟩:=hrel;clear s0 s1 s2 q1;by_cases hlt:j<p.prs.length
  ·have hj1:(j:Int)<(p.prs.length:Int):=by omega
   have hj0:(0:Int)<=(j:Int):=by omega
   have hbb:=zka HB3.out af.out;obtain⟨pa,q,B1,d1,B2,d2,rfl,-,Hq,⟨y0,y1,y2,y3,y4,y5⟩,hpr⟩:=(wV.out.procs.later hbb).nd hlt;have hbz:=zkc af.out (.cells #[.string q.s,.slice B1 q.ps.length d1,.int .u8 q.b.k,.int .i64 q.b.n,.string q.b.s,.slice B2 q.b.ks.length d2] 51);have hbw:=zkc (Below.refl wr.heap.size wr) (.cells #[.string q.s,.slice B1 q.ps.length d1,.int .u8 q.b.k,.int .i64 q.b.n,.string q.b.s,.slice B2 q.b.ks.length d2] 51);have qA:=zh (zpT q.b _ 150 _ (hpr.body.later hbw) (by omega) (by omega));obtain⟨z,hz⟩:∃ z,szE q.b 150=z:=⟨_,rfl⟩
   rw[hz] at qA;have rD:=zh hbz;clear hbb hpr hbz hbw hz;go_wp2_with fail;refine qA.out.mono ?_;rintro e4 w4 ⟨rfl,hb4⟩;have aK:=zh (zka rD.out hb4);clear hb4 qA y0 y1 y2 y3 y4 y5;by_cases hz:z<0
   ·skip
    go_wp2_with fail;go_ret;exact(⟨true,rfl,(fun h=>by cases h),(zka HB3.out aK.out)⟩:GrP W p s F _ _)
   ·go_wp2_with fail
    go_roundw
    case rel=>exact⟨j+1,by omega,by go_num,aK⟩
    case measure=>simp[intOf];omega
  ·have hj1:¬ (j:Int)<(p.prs.length:Int):=by omega
   have hk:=zkf vN.out af.out;have s0:wr.cell? ⟨W.heap.size+1,0,none⟩=some (.slice A s.cells.length c):=zc hk rfl;have bP:=zh (zka HB3.out af.out);clear hk af vN;go_wp2_with fail
   go_loopw [64] (fun i wr'=>∃ j:Nat,j<=s.cells.length/\i=.int .i64 j/\Hid (Below wr.heap.size wr wr')/\Hid (∀ q (hq:q<s.cells.length),q<j->s.cells[q].length<=50)) (fun i _=>s.cells.length-(intOf i).toNat)
   case atStart=>exact⟨0,Nat.zero_le _,rfl,zh (Below.refl _ _),zh (fun q _ h=>absurd h (Nat.not_lt_zero _))⟩
   case round =>
    obtain⟨j2,hj2,rfl,qJ,HQ⟩:=hrel;clear s0;by_cases hlt2:j2<s.cells.length
    ·have zk:(j2:Int)<(s.cells.length:Int):=by omega
     have hj4:(0:Int)<=(j2:Int):=by omega
     obtain⟨a,l,Al,cl,rfl,Hl,hcl,hlc,-⟩:=(HR1.out.later (zka bP.out qJ.out)).nd hlt2;by_cases h50:(50:Int)<(l.length:Int)
     ·skip
      go_wp2_with fail;go_ret;exact(⟨true,rfl,(fun h=>by cases h),(zka bP.out qJ.out)⟩:GrP W p s F _ _)
     ·have wU:=zh (show ∀ q (hq:q<s.cells.length),q<j2+1->s.cells[q].length<=50 from fun q hq hlt=>by
       by_cases e:q=j2
       ·subst e;rw[Hl.out];omega
       ·exact HQ.out q hq (by omega))
      clear HQ;go_wp2_with fail
      go_roundw
      case rel=>exact⟨j2+1,by omega,by go_num,qJ,wU⟩
      case measure=>simp[intOf];omega
    ·have zk:¬ (j2:Int)<(s.cells.length:Int):=by omega
     have vD:=zh (show Smal p s F from ⟨by omega,by omega,by omega,by omega,by omega,by omega,fun l hl=>by
      obtain⟨q,hq,rfl⟩:=List.getElem_of_mem hl;exact HQ.out q hq (by omega)⟩)
     clear HQ;go_wp2_with fail;go_ret;exact(⟨false,rfl,(fun _=>vD.out),zka bP.out qJ.out⟩:GrP W p s F _ _)
end Go.Proofs.YtmbbaccjcekhkaaGreat
