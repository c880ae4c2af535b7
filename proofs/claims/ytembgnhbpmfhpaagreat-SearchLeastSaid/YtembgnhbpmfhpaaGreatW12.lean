/-
  Texts of the proof, put together without their remarks: Srn, Srp, Ser, Sfo, Sex, Sak, Sar, Lsl, Lift, LiftV, LiftP, LiftS, LiftB, Lift5.
-/
import Derived.Test.YtembgnhbpmfhpaaGreatW11
import Derived.Maps.OwnSet
import Derived.Maps.OwnIn
import Derived.Test.YtembgnhbpmfhpaaGreatRows
import Derived.ProofKit
import Derived.SizedLaws
import Derived.Deep.Slices
import Derived.Deep.Fields
import Derived.Lib.SmallJoins
import Derived.ChangeSlices
import Derived.OpenShut
import Derived.Carry
set_option linter.unusedSimpArgs false
set_option linter.unusedVariables false
set_option maxHeartbeats 8000000
set_option maxRecDepth 100000
namespace Go.Proofs.YtembgnhbpmfhpaaGreat
open Go.Proofs.Tryz
section
open Go Go.RowKit
attribute [local go_sem] Oper.semAt_some
mutual
/-- How many nodes are left of a budget. -/
def szR:T->Int->Int
 | .nd _ _ _ ks,l=>szRs ks (l-1)
def szRs:List T->Int->Int
 | [],l=>l
 | t::ts,l=>if l<0 then l else szRs ts (szR t l)
end
theorem zrR:∀(m:Nat) (t:T) (l:Int),size t<=m->0<=l -> -1<=szR t l/\szR t l<=l
 | 0,.nd k n s ks,l,h,_=>by rw[size]at h;omega
 | m+1,.nd k n s ks,l,h,h0=>by
  rw[szR];rw[size]at h;have key:∀(us:List T) (l:Int),zkW us<=m -> -1<=l -> -1<=szRs us l/\szRs us l<=l:=by
   intro us
   induction us with
   | nil=>intro l _ h1;rw[szRs];exact⟨h1,Int.le_refl _⟩
   | cons u us ih =>
    intro l hs h1;rw[zkW]at hs;rw[szRs]
    split
    ·exact⟨h1,Int.le_refl _⟩
    ·have h2:=zrR m u l (by omega) (by omega);have h3:=ih (szR u l) (by omega) h2.1;exact⟨h3.1,by omega⟩
  have:=key ks (l-1) (by omega) (by omega);exact⟨this.1,by omega⟩
theorem zrQ:∀(ts:List T) (l:Int),-1<=l->0<=szRs ts l->(ts.length:Int)<=l
 | [],l,_,h=>by rw[szRs]at h;simpa using h
 | t::ts,l,h0,h=>by
  rw[szRs]at h
  split at h
  ·omega
  ·rename_i hl;obtain⟨k,n,s,ks⟩:=t;have h1 : -1<=szR (.nd k n s ks) l/\szR (.nd k n s ks) l<=l-1:=by
    rw[szR];have h2:=zrR _ (.nd k n s ks) l zl (by omega);rw[szR]at h2;refine⟨h2.1,?_⟩;rcases Int.lt_or_le (l-1) 0 with h3|h3
    ·cases ks with
     | nil=>rw[szRs];exact Int.le_refl _
     | cons u us=>rw[szRs,if_pos h3];exact Int.le_refl _
    ·have key:∀(us:List T) (l:Int),-1<=l -> -1<=szRs us l/\szRs us l<=l:=by
      intro us
      induction us with
      | nil=>intro l h1;rw[szRs];exact⟨h1,Int.le_refl _⟩
      | cons u us ih =>
       intro l h1;rw[szRs]
       split
       ·exact⟨h1,Int.le_refl _⟩
       ·have h2:=zrR _ u l zl (by omega);have h3:=ih (szR u l) h2.1;exact⟨h3.1,by omega⟩
     exact(key ks (l-1) (by omega)).2
   have:=zrQ ts _ h1.1 h;simp only[List.length_cons];omega
theorem zyd{t:T}(h:0<=szR t 100):t.ks.length<=100:=by
 obtain⟨k,n,s,ks⟩:=t;rw[szR]at h;have:=zrQ ks 99 (by decide) h
 show ks.length<=100
 omega
theorem zoX:∀(t:T) (v:Value) (l:Int) (w:World),NV w Any t v->0<=l->l<=1000->Calls prog 96 #[v,.int .i64 l] w fun e w'=>e=.returned (.int .i64 (szR t l))/\Below w.heap.size w w':=by
 intro t
 induction t using T.ind with
 | _ k n s ks ih =>
  intro v l w hv h0 h1;obtain⟨A,c,rfl,hf,hlk,hlc,hrow⟩:=hv.open_;have IH:=zh ih;have af:=zh hrow;have hw1:IntKind.i64.wrap (l-1)=l-1:=IntWalk.i64_in _ (by omega);have hb1:=zkb (zs w) (.cells #[.int .u8 k,.int .i64 n,.string s,.slice A ks.length c] 41);have k1:=heap_alloc_new w (.cells #[.int .u8 k,.int .i64 n,.string s,.slice A ks.length c] 41);obtain⟨w1,hw⟩:=zX (w.alloc (.cells #[.int .u8 k,.int .i64 n,.string s,.slice A ks.length c] 41));obtain⟨r,hr⟩:=zX (szR (.nd k n s ks) l);have HR:=zh (show szRs (ks.drop 0) (l-1)=r by rw[<-hr,szR,List.drop_zero]);rw[hr];rw[hw]at hb1 k1;have HB1:=zh hb1;have aB:=zh k1;simp only[T.k_nd,T.n_nd,T.s_nd,T.ks_nd]at hlk hlc ⊢;have hlk2:ks.length<=17592186044416:=by unfold LK at hlk;omega
  clear hv hf hlk hrow ih hr hb1 k1;go_enter func96,ntmps96;go_wp2_with fail;clear hw
  go_loopw [5,1] (fun i q wr=>∃(j:Nat) (x:Int),j<=ks.length/\i=.int .i64 j/\q=.int .i64 x /\ -1<=x/\x<=1000/\Hid (Below w1.heap.size w1 wr)/\Hid (szRs (ks.drop j) x=r)) (fun i _ _=>ks.length-(intOf i).toNat)
  case atStart=>exact⟨0,l-1,Nat.zero_le _,rfl,rfl,by omega,by omega,zh zr,HR⟩
  case round =>
   obtain⟨j,x,hj,rfl,rfl,hx1,hx2,ag,HJ⟩:=hrel;have hk:=zkc aB.out ag.out;have z3:wr.cell? ⟨w.heap.size,3,none⟩=some (.slice A ks.length c):=zc hk rfl;by_cases hlt:j<ks.length
   ·have hj1:(j:Int)<(ks.length:Int):=by omega
    have hj0:(0:Int)<=(j:Int):=by omega
    by_cases hx:0<=x
    ·have hbb:=zka HB1.out ag.out;obtain⟨a,u,Au,cu,rfl,-,Hu,⟨p0,p1,p2,p3⟩,hn⟩:=af.out.nd hlt;have q0:=zb hbb p0;have q1:=zb hbb p1;have q2:=zb hbb p2;have q3:=zb hbb p3;have HS:=zh (IH.out u (by rw[<-Hu.out];exact List.getElem_mem hlt) _ x wr (hn.later hbb) hx hx2);have HJ2:=zh (show szRs (ks.drop (j+1)) (szR u x)=r by
      have h5:=HJ.out;rw[List.drop_eq_getElem_cons hlt]at h5;rw[szRs,if_neg (by omega)]at h5;rw[<-h5];have:=Hu.out;simp only[T.ks_nd]at this;rw[this])
     have HL:=zh (zrR _ u x zl hx);clear p0 p1 p2 p3 hn hbb HJ hk;go_wp2_with fail;refine HS.out.mono ?_;rintro e w2 ⟨rfl,hb2⟩;have HB2:=zh (zka ag.out hb2);obtain⟨y,hy⟩:=zX (szR u x);rw[hy]at HJ2 HL ⊢;clear hb2 HS q0 q1 q2 q3 z3 hy;go_wp2_with fail
     go_roundw
     case rel=>exact⟨j+1,y,by omega,by go_num,rfl,HL.out.1,by have:=HL.out.2;omega,HB2,HJ2⟩
     case measure=>simp[intOf];omega
    ·have hx':¬ (0:Int)<=x:=hx;have HJ2:=zh (show x=r by
      have h5:=HJ.out;rw[List.drop_eq_getElem_cons hlt,szRs,if_pos (by omega)]at h5;exact h5)
     clear HJ hk;go_wp2_with fail;go_ret;exact⟨by rw[HJ2.out];rfl,zka HB1.out ag.out⟩
   ·have hj1:¬ (j:Int)<(ks.length:Int):=by omega
    have HJ2:=zh (show x=r by
     have h5:=HJ.out;rw[List.drop_eq_nil_of_le (by omega),szRs]at h5;exact h5)
    clear HJ hk;go_wp2_with fail;go_ret;exact⟨by rw[HJ2.out];rfl,zka HB1.out ag.out⟩
def SmlP(p:PG)(W:World)(e:Ending)(w':World):Prop:=∃b:Bool,e=.returned (.bool b)/\(b=true->p.m.ks.length<=100)/\Below W.heap.size W w'
theorem zrb(p:PG)(v:Value)(W:World)(hp:PV W Any p v):Calls prog 49 #[v] W (SmlP p W):=by
 obtain⟨A1,c1,A2,c2,A3,c3,rfl,dP⟩:=hp;have xG:=zh dP;have hb2:=zkb (zs W) (.cells #[.slice A1 p.vs.length c1,.slice A2 p.prs.length c2,.int .u8 p.m.k,.int .i64 p.m.n,.string p.m.s,.slice A3 p.m.ks.length c3] 43);have k0:=heap_alloc_new W (.cells #[.slice A1 p.vs.length c1,.slice A2 p.prs.length c2,.int .u8 p.m.k,.int .i64 p.m.n,.string p.m.s,.slice A3 p.m.ks.length c3] 43);obtain⟨w2,hw2⟩:=zX (W.alloc (.cells #[.slice A1 p.vs.length c1,.slice A2 p.prs.length c2,.int .u8 p.m.k,.int .i64 p.m.n,.string p.m.s,.slice A3 p.m.ks.length c3] 43));rw[hw2]at hb2 k0;have HB2:=zh hb2;have aG:=zh k0;obtain⟨p0,p1,p2,p3,p4,p5⟩:=box6 k0;have hlp:=zkZ dP.lp;have qi:=zh (zoX p.m _ 100 w2 (dP.main.later hb2) (by omega) (by omega));obtain⟨x,hx⟩:=zX (szR p.m 100);rw[hx]at qi;have HX:=zh (show 0<=x->p.m.ks.length<=100 from fun h=>zyd (hx▸h));clear dP hb2 k0 hx
 go_enter func49,ntmps49;by_cases h1:(4:Int)<(p.prs.length:Int)
 ·go_wp2_with fail;go_ret;exact⟨_,rfl,nofun,HB2.out⟩
 go_wp2_with fail;refine qi.out.mono ?_;rintro e3 w3 ⟨rfl,hb3⟩;have HB3:=zh (zka HB2.out hb3);have kp:=zkc aG.out hb3;obtain⟨-,q1,-⟩:=box6 kp;clear hb3 qi kp p0 p1 p2 p3 p4 p5 hw2;by_cases h3:x<0
 ·go_wp2_with fail;go_ret;exact⟨_,rfl,nofun,HB3.out⟩
 go_wp2_with fail
 go_loopw [18,4] (fun i _ wr=>∃j:Nat,j<=p.prs.length/\i=.int .i64 j/\Hid (Below w3.heap.size w3 wr)) (fun i _ _=>p.prs.length-(intOf i).toNat)
 case atStart=>exact⟨0,Nat.zero_le _,rfl,zh zr⟩
 case round =>
  obtain⟨j,hj,rfl,ag⟩:=hrel;by_cases hlt:j<p.prs.length
  ·have hj1:(j:Int)<(p.prs.length:Int):=by omega
   have hj0:(0:Int)<=(j:Int):=by omega
   have hbb:=zka HB3.out ag.out;obtain⟨pa,q,B1,d1,B2,d2,rfl,-,Hq,⟨y0,y1,y2,y3,y4,y5⟩,hpr⟩:=(xG.out.procs.later hbb).nd hlt;have hbz:=zkb ag.out (.cells #[.string q.s,.slice B1 q.ps.length d1,.int .u8 q.b.k,.int .i64 q.b.n,.string q.b.s,.slice B2 q.b.ks.length d2] 75);have hbw:=zkb (zs wr) (.cells #[.string q.s,.slice B1 q.ps.length d1,.int .u8 q.b.k,.int .i64 q.b.n,.string q.b.s,.slice B2 q.b.ks.length d2] 75);have qi:=zh (zoX q.b _ 100 _ (hpr.body.later hbw) (by omega) (by omega));obtain⟨z,hz⟩:=zX (szR q.b 100);rw[hz]at qi;have zi:=zh hbz;clear hbb hpr hbz hbw hz;go_wp2_with fail;refine qi.out.mono ?_;rintro e4 w4 ⟨rfl,hb4⟩;have aF:=zh (zka zi.out hb4);clear hb4 qi y0 y1 y2 y3 y4 y5;by_cases hz:z<0
   ·go_wp2_with fail;go_ret;exact⟨_,rfl,nofun,zka HB3.out aF.out⟩
   ·go_wp2_with fail
    go_roundw
    case rel=>exact⟨j+1,by omega,by go_num,aF⟩
    case measure=>simp[intOf];omega
  ·have hj1:¬ (j:Int)<(p.prs.length:Int):=by omega
   go_wp2_with fail;go_ret;exact⟨_,rfl,fun _=>HX.out (by omega),zka HB3.out ag.out⟩
def boxL(vs:List VD)(b:BX):Bool:=decide (vs.length<=6)&&(b.ok&&svB vs)&&decide (cntF vs b<=60)
theorem zvb(vs:List VD)(b:BX)(A:Option Addr)(c:Nat)(w:World)(hr:RowV w Any A vs)(hl:vs.length<=LV) :
  Calls prog 10 #[.slice A vs.length c,.agg #[.int .i64 b.v,.int .i64 b.l,.int .i64 b.i]] w fun e w'=>e=.returned (.bool (boxL vs b))/\Below w.heap.size w w':=by
 have gV:=zh (fun w' (h:Below w.heap.size w w')=>ztd vs b A c w' (hr.later h) hl);have HCN:=zh (fun w' (h:Below w.heap.size w w') (hok:(b.ok&&svB vs)=true)=>zte vs b A c w' (hr.later h) hok);have hl1:=zkZ hl;have hb1:=zkb (zs w) (.cells #[.int .i64 b.v,.int .i64 b.l,.int .i64 b.i] 24);have hk1:=heap_alloc_new w (.cells #[.int .i64 b.v,.int .i64 b.l,.int .i64 b.i] 24);have HX:=zh (show boxL vs b=(decide (vs.length<=6)&&(b.ok&&svB vs)&&decide (cntF vs b<=60))from rfl);obtain⟨ok,hok⟩:=zX ((b.ok&&svB vs));obtain⟨X,hX⟩:=zX (boxL vs b);obtain⟨C,hC⟩:=zX (cntF vs b);rw[hok]at HX gV;simp only[hok,hC]at HCN;rw[hX,hC]at HX;rw[hX];clear hok hX hr hl hC;go_enter func10,ntmps10;go_upto_region 1 with fail;obtain⟨w1,hw1⟩:=zX (w.alloc (.cells #[.int .i64 b.v,.int .i64 b.l,.int .i64 b.i] 24));rw[hw1]at hb1 hk1 ⊢;obtain⟨x0,x1,x2⟩:=zkz hk1;have HB1:=zh hb1;have aB:=zh hk1
 clear hw1 hb1 hk1;by_cases h6:vs.length<=6
 ·have h6i:(vs.length:Int)<=6:=by omega
  go_wp2_with fail;refine(gV.out _ HB1.out).mono ?_;rintro e w2 ⟨rfl,hb2⟩;have HB2:=zh (zka HB1.out hb2);obtain⟨y0,y1,y2⟩:=zkz (zkc aB.out hb2);clear hb2 x0 x1 x2
  cases ok
  ·have HF:=zh (show X=false by rw[HX.out];simp);go_wp2_with fail;go_ret;exact⟨by rw[HF.out];rfl,HB2.out⟩
  ·have HF:=zh (show X=decide (C<=60) by rw[HX.out];simp[h6]);go_wp2_with fail;refine(HCN.out _ HB2.out trivial).mono ?_;rintro e w3 ⟨rfl,rfl⟩;go_wp2_with fail;go_ret;exact⟨by rw[HF.out];rfl,HB2.out⟩
 ·have h6i:¬ (vs.length:Int)<=6:=by omega
  have HF:=zh (show X=false by rw[HX.out];simp[h6]);go_wp2_with fail;go_ret;exact⟨by rw[HF.out];rfl,HB1.out⟩
def zzr(W:World)(p:PG)(b:BX)(F:Int)(e:Ending)(w':World):Prop:=Below W.heap.size W w'/\∃A n c ok,e=.returned (.tuple #[.slice A n c,.bool ok]) /\
 (ok=true->F<=300/\p.vs.length<=6/\(b.ok&&svB p.vs)=true/\cntF p.vs b<=60/\zla p=true/\chkN p=0/\n=(allR p.vs b).length/\n<=c/\zk8 w' A (allR p.vs b)/\p.m.ks.length<=100)
theorem zrX(p:PG)(b:BX)(F:Int)(v:Value)(W:World)(hp:PV W Any p v)(hF:I64 F) :
  Calls prog 15 #[v,.agg #[.int .i64 b.v,.int .i64 b.l,.int .i64 b.i],.int .i64 F] W (zzr W p b F):=by
 have iD:=zh (fun w' (h:Below W.heap.size W w')=>hp.later h);obtain⟨A1,c1,A2,c2,A3,c3,rfl,dP⟩:=hp;have gq:=zh (fun w' (h:Below W.heap.size W w')=>zrb p _ w' (iD.out w' h));have aX:=zh (fun w' (h:Below W.heap.size W w')=>zvb p.vs b A1 c1 w' (dP.vars.later h) dP.lv);have gV:=zh (fun w' (h:Below W.heap.size W w')=>zoF p Any _ w' (iD.out w' h));have lX:=zh (fun w' (h:Below W.heap.size W w')=>zpr p Any _ w' (iD.out w' h));have jW:=zh (fun w' (h:Below W.heap.size W w') h1 h2=>zxs p.vs b A1 c1 w' (dP.vars.later h) h1 h2);obtain⟨X,hX⟩:=zX (boxL p.vs b);have aP:=zh hX;obtain⟨VB,AU⟩:=zX (zla p);have eZ:=zh AU;obtain⟨N,hN⟩:=zX (chkN p);have nM:=zh hN;simp only[hX]at aX;simp only[AU]at gV lX;simp only[hN]at lX;clear hX AU hN dP;go_enter func15,ntmps15;go_upto_region 1 with fail
 have hb2:=zkb (zkb (zs W) (.cells #[.slice A1 p.vs.length c1,.slice A2 p.prs.length c2,.int .u8 p.m.k,.int .i64 p.m.n,.string p.m.s,.slice A3 p.m.ks.length c3] 43)) (.cells #[.int .i64 b.v,.int .i64 b.l,.int .i64 b.i] 24);have k0:=zke (heap_alloc_new W (.cells #[.slice A1 p.vs.length c1,.slice A2 p.prs.length c2,.int .u8 p.m.k,.int .i64 p.m.n,.string p.m.s,.slice A3 p.m.ks.length c3] 43)) (.cells #[.int .i64 b.v,.int .i64 b.l,.int .i64 b.i] 24);have k1:=heap_alloc_new (W.alloc (.cells #[.slice A1 p.vs.length c1,.slice A2 p.prs.length c2,.int .u8 p.m.k,.int .i64 p.m.n,.string p.m.s,.slice A3 p.m.ks.length c3] 43)) (.cells #[.int .i64 b.v,.int .i64 b.l,.int .i64 b.i] 24);rw[World.size_alloc]at k1
 obtain⟨w2,hw2⟩:=zX ((W.alloc (.cells #[.slice A1 p.vs.length c1,.slice A2 p.prs.length c2,.int .u8 p.m.k,.int .i64 p.m.n,.string p.m.s,.slice A3 p.m.ks.length c3] 43)).alloc (.cells #[.int .i64 b.v,.int .i64 b.l,.int .i64 b.i] 24));rw[hw2]at hb2 k0 k1 ⊢;have HB2:=zh hb2;obtain⟨N1,hN1⟩:=zX (W.heap.size);rw[hN1]at k0 k1 ⊢;have aG:=zh (fun w' (h:Below w2.heap.size w2 w')=>zkc k0 h);have aB:=zh (fun w' (h:Below w2.heap.size w2 w')=>zkc k1 h);have dS:=zh (zs w2);clear hw2 hb2 k0 k1 hN1;have bN:=zh (show ∀w',Below w2.heap.size w2 w'->zzr W p b F (.returned (.tuple #[.slice none 0 0,.bool false])) w' from fun w' h=>⟨zka HB2.out h,none,0,0,false,rfl,fun h=>by cases h⟩);obtain⟨p0,p1,p2,p3,p4,p5⟩:=box6 (aG.out _ dS.out);obtain⟨x0,x1,x2⟩:=zkz (aB.out _ dS.out);go_wp2_with fail;refine(gq.out _ HB2.out).mono ?_;rintro e w3 ⟨sb,rfl,hsb,hb3⟩;have fw:=zh hsb;clear hsb
 have HB3:=zh (zka HB2.out hb3);have fF:=zh (zka dS.out hb3);clear p0 p1 p2 p3 p4 p5 x0 x1 x2 hb3;obtain⟨p0,p1,p2,p3,p4,p5⟩:=box6 (aG.out _ fF.out);obtain⟨x0,x1,x2⟩:=zkz (aB.out _ fF.out)
 cases sb
 ·go_wp2_with fail;refine bodyPost_ret (v:=.tuple #[.slice none 0 0,.bool false]) (by simp[results,results15,go_sem]) rfl ?_;exact bN.out _ fF.out
 have nS:=zh (fw.out rfl);clear fw;by_cases h300:F<=300;rotate_left 1
 ·have hgt:(300:Int)<F:=by omega
  go_wp2_with fail;refine bodyPost_ret (v:=.tuple #[.slice none 0 0,.bool false]) (by simp[results,results15,go_sem]) rfl ?_;exact bN.out _ fF.out
 have hgt:¬ (300:Int)<F:=by omega
 go_wp2_with fail;refine(aX.out _ HB3.out).mono ?_;rintro e w4 ⟨rfl,hb4⟩;have aF:=zh (zka HB3.out hb4);have qP:=zh (zka fF.out hb4);clear p0 p1 p2 p3 p4 p5 x0 x1 x2 hb4;obtain⟨p0,p1,p2,p3,p4,p5⟩:=box6 (aG.out _ qP.out);obtain⟨x0,x1,x2⟩:=zkz (aB.out _ qP.out)
 cases X
 ·go_wp2_with fail;refine bodyPost_ret (v:=.tuple #[.slice none 0 0,.bool false]) (by simp[results,results15,go_sem]) rfl ?_;exact bN.out _ qP.out
 go_wp2_with fail;refine(gV.out _ aF.out).mono ?_;rintro e w5 ⟨rfl,hb5⟩;have aQ:=zh (zka aF.out hb5);have eH:=zh (zka qP.out hb5);clear p0 p1 p2 p3 p4 p5 x0 x1 x2 hb5;obtain⟨p0,p1,p2,p3,p4,p5⟩:=box6 (aG.out _ eH.out);obtain⟨x0,x1,x2⟩:=zkz (aB.out _ eH.out)
 cases VB
 ·go_wp2_with fail;refine bodyPost_ret (v:=.tuple #[.slice none 0 0,.bool false]) (by simp[results,results15,go_sem]) rfl ?_;exact bN.out _ eH.out
 go_wp2_with fail;refine(lX.out _ aQ.out).mono ?_;rintro e w6 ⟨A6,c6,rfl,hb6⟩;have aW:=zh (zka aQ.out hb6);have lG:=zh (zka eH.out hb6);clear p0 p1 p2 p3 p4 p5 x0 x1 x2 hb6;simp only[if_true];obtain⟨p0,p1,p2,p3,p4,p5⟩:=box6 (aG.out _ lG.out);obtain⟨x0,x1,x2⟩:=zkz (aB.out _ lG.out);by_cases hN0:N=0;rotate_left 1
 ·have hgn:(0:Int)<(N:Int):=by omega
  go_wp2_with fail;refine bodyPost_ret (v:=.tuple #[.slice none 0 0,.bool false]) (by simp[results,results15,go_sem]) rfl ?_;exact bN.out _ lG.out
 have hgn:¬ (0:Int)<(N:Int):=by omega
 have iV:=zh hN0;clear hN0;have hbx:=aP.out;simp only[boxL,Bool.and_eq_true,decide_eq_true_eq]at hbx;have iN:(b.ok&&svB p.vs)=true:=by simp[hbx.1.2]
 have dI:=zh (And.intro hbx.1.1 (And.intro iN hbx.2));have bO:=zh (jW.out _ aW.out iN hbx.2);clear hbx iN;go_wp2_with fail;refine bO.out.mono ?_;rintro e w7 ⟨v,rfl,⟨A7,c7,rfl,oD,ow⟩,dx⟩;have oK:=zh (show zzr W p b F (.returned (.tuple #[.slice A7 (allR p.vs b).length c7,.bool true])) w7 from⟨zka aW.out dx,A7,_,c7,true,rfl,fun _=>⟨h300,dI.out.1,dI.out.2.1,dI.out.2.2,eZ.out,by rw[nM.out,iV.out],rfl,oD,ow,nS.out⟩⟩);clear ow dx p0 p1 p2 p3 p4 p5 x0 x1 x2 oD;go_wp2_with fail;refine bodyPost_ret (v:=.tuple #[.slice A7 (allR p.vs b).length c7,.bool true]) (by simp[results,results15,go_sem]) rfl ?_;exact oK.out
end
section
open Go Go.RowKit
theorem zpY{v:Int}(hv:0<=v)(a m:Nat):(betE v a m).length=nLst (2*v+1).toNat (a,m):=by
 have h1:=zn3 hv a m;have h2:∀l:List Nat,(((l.map fun i=>(2*v+1).toNat ^ (a+i)).sum:Nat):Int)=(l.map fun i=>(2*v+1) ^ (a+i)).sum:=by
  intro l
  induction l with
  | nil=>rfl
  | cons i l ih =>
   rw[List.map_cons,List.sum_cons,List.map_cons,List.sum_cons,<-ih]
   push_cast
   rw[Int.toNat_of_nonneg (by omega)]
 unfold nLst;have h3:=h2 (List.range (m+1-a));simp only;omega
theorem zyw{b:BX}{v:VD}(hb:b.ok=true)(hv:vdB v=true):(lstE b v).length=nLst (2*b.v+1).toNat (len1 b v):=by
 have hk:=zlm hb;unfold lstE len1;rcases ztA hv with⟨h1,h2⟩|⟨h1,h2,h3⟩|⟨h1,h2⟩
 ·rw[if_pos h1,if_neg (by omega),zpY hk.1.1];unfold fixE;rw[if_pos h1];rfl
 ·rw[if_neg (by omega),if_pos h1,if_neg (by omega),zpY hk.1.1];unfold fixE;rw[if_neg (by omega)]
 ·rw[if_neg (by omega),if_neg (by omega),if_pos h1,zpY hk.1.1]
theorem zrU{b:BX}(hb:b.ok=true):∀(vs:List VD) (st:List SS),(∀v∈vs,vdB v=true)->(vs.foldl (fun st v=>stg st (lstE b v)) st).length=st.length*nAll (2*b.v+1).toNat (vs.map (len1 b))
 | [],st,_=>by simp[nAll]
 | v::vs,st,h=>by
  rw[List.foldl_cons,zrU hb vs _ fun u hu=>h u (by simp[hu]),ztJ,zyw hb (h v (by simp)),List.map_cons,nAll,Nat.mul_assoc]
theorem zsd(h:Nat):∀(a b:List Bn),nAll h (a++b)=nAll h a*nAll h b
 | [],b=>by simp[nAll]
 | x::a,b=>by rw[List.cons_append,nAll,nAll,zsd h a b,Nat.mul_assoc]
theorem zs3{α β:Type}(l:List α)(f:α->List β)(n:Nat)(h:∀x,(f x).length=n):(l.flatMap f).length=l.length*n:=by
 induction l with
 | nil=>simp
 | cons x l ih=>rw[List.flatMap_cons,List.length_append,ih,h,List.length_cons,Nat.add_mul];omega
theorem zKi{vs:List VD}{b:BX}(hok:(b.ok&&svB vs)=true)(h60:cntF vs b<=60):(allS b (lenE vs b)).length<=60:=by
 have h:=hok;simp only[Bool.and_eq_true]at h;have hk:=zlm h.1;have hr:=(ztY h.1 h60).all.2;have h1:(allU vs b).length=nAll (2*b.v+1).toNat (lenE vs b):=by
  unfold allU stgF lenE;rw[zs3 _ _ (betE b.v 0 b.i.toNat).length fun s=>by simp,zrU h.1 vs _ fun v hv=>(zsG h.2).2 v hv,zsd,zpY hk.1.1];simp[nAll]
 have h2:=zzg (h:=(2*b.v+1).toNat) (by omega) (bs:=lenE vs b) fun q hq=>((zl2 hok).2.2.1 q hq).1;rw[Int.toNat_of_nonneg (by omega)]at h2;unfold allS;rw[List.length_map];omega
def E23(e:Int):Prop:=0<=e/\e<=23
theorem zx9{look:ByteArray->Option (List Int)}{k:Int}{s:ByteArray}{i:Int×Int}(h:E23 i.2):E23 (varE look k s i).2:=by
 unfold varE
 split
 ·exact⟨by simp,by simp⟩
 ·(repeat' split)<;>first|exact h|(unfold E23;simp only;omega)
theorem zy2(k x y:Int):E23 (divE k x y).2:=by
 unfold divE
 split
 ·unfold E23;simp only;omega
 ·split<;>(unfold E23;simp only;omega)
theorem zr_rg(x:Int):E23 (x,(0:Int)).2:=⟨Int.le_refl _,by simp⟩
theorem zzR(c:Prop)[Decidable c](a b:Int×Int)(ha:E23 a.2)(hb:E23 b.2):E23 (if c then a else b).2:=by
 split<;>assumption
theorem zKh(k x y:Int):E23 (apE k x y).2:=by
 unfold apE
 repeat' first|exact zy2 _ _ _|exact zr_rg _|refine zzR _ _ _ ?_ ?_
theorem zxV(look:ByteArray->Option (List Int))(t:T):E23 (evE look t).2:=by
 induction t using T.ind with
 | _ k n s ks ih =>
  rw[evE,znZ];have hg:∀i,E23 ((ks.map (evE look)).getD i (0,0)).2:=fun i=>by
   rw[List.getD_eq_getElem?_getD];rcases h:(ks.map (evE look))[i]? with _|q
   ·exact⟨by simp,by simp⟩
   ·obtain⟨h1,h2⟩:=List.getElem?_eq_some_iff.1 h;rw[List.getElem_map]at h2;rw[Option.getD_some,<-h2];exact ih _ (List.getElem_mem _)
  unfold evK
  split
  ·unfold E23;simp only;omega
  ·split
   ·exact zx9 (hg 0)
   ·split
    ·exact hg 0
    ·split
     ·unfold unE;split<;>(unfold E23;simp only;omega)
     ·split
      ·exact hg 1
      ·exact zKh _ _ _
theorem zsq(look:ByteArray->Option (List Int))(t:T):E23 (zlQ look t).2:=by
 unfold zlQ
 split
 ·exact zxV look t
 ·unfold E23;simp only;omega
theorem zux(look:ByteArray->Option (List Int))(t:T):E23 (indE look t).2:=by
 unfold indE
 split
 ·split
  ·unfold E23;simp only;omega
  ·exact zxV look _
 ·unfold E23;simp only;omega
theorem zyq(vs:List VD)(k:Int)(s:ByteArray):E23 (ownE vs k s):=by
 unfold ownE
 (repeat' split)<;>(unfold E23;omega)
theorem zyX(vs:List VD)(t:T):E23 (fltE vs t):=by
 induction t using T.ind with
 | _ k n s ks ih =>
  rw[fltE]
  split
  ·exact zyq vs k s
  ·have:∀l:List T,(∀u∈l,E23 (fltE vs u))->E23 (zlp vs l):=by
    intro l
    induction l with
    | nil=>intro _;rw[zlp];unfold E23;omega
    | cons u l ih2 =>
     intro hl;rw[zlp]
     split
     ·exact hl u (List.mem_cons_self ..)
     ·exact ih2 fun x hx=>hl x (List.mem_cons_of_mem _ hx)
   exact this ks ih
theorem zwW(S:ST)(k:Int)(s qs:ByteArray)(r2:Int)(id i:Nat):E23 (znz S k s qs r2 id i).1:=by
 unfold znz znu zlr
 (repeat' split)<;>(unfold E23;simp only;omega)
theorem zxX(S:ST)(t:T):E23 (doE S t).1:=by
 unfold doE
 split
 ·unfold E23;simp only;omega
 ·split
  ·unfold E23;simp only;omega
  ·split
   ·unfold E23;simp only;omega
   ·split
    ·exact zyX _ t
    ·obtain⟨k,n,s,ks⟩:=t;simp only[zpS,zlq]
     split
     ·exact zux _ _
     ·unfold znQ
      split
      ·unfold znF
       split
       ·exact zux _ _
       ·split
        ·exact zsq _ _
        ·unfold E23;simp only;omega
      ·split
       ·unfold E23;simp only;omega
       ·split
        ·exact zwW _ _ _ _ _ _ _
        ·unfold E23;simp only;omega
theorem zvZ(S:ST)(t:T):E23 (zn9 S t).1:=by
 obtain⟨k,n,s,ks⟩:=t;exact zxX S _
theorem zr7(S:ST)(v:VD)(x:Int):E23 (zlW S v x).1:=by
 unfold zlW
 (repeat' split)<;>(unfold E23;simp only;omega)
theorem zqQ(S:ST)(s:ByteArray)(x:Int):E23 (zk9 S s x).1:=by
 unfold zk9
 (repeat' split)<;>(unfold E23;simp only;omega)
theorem zuo(S:ST):E23 (zl3 S).1:=by
 unfold zl3
 (repeat' split)<;>(unfold E23;simp only;omega)
theorem zuR{f:FR}:∀(l:List (VD×ByteArray)) (acc:FR) (e:Int),entL f acc l=.error e->E23 e
 | [],acc,e,h=>by rw[entL]at h;cases h
 | (v,a)::r,acc,e,h=>by
  rw[entL]at h
  split at h
  ·injection h with h;subst h;unfold E23;omega
  ·split at h
   ·exact zuR r _ e h
   ·injection h with h;subst h;unfold E23;omega
theorem zuQ(S:ST)(ps:List VD)(ss:List ByteArray):E23 (zlR S ps ss).1:=by
 unfold zlR
 split
 ·unfold E23;simp only;omega
 ·cases h:entL S.cur ⟨[],[],0⟩ (ps.zip ss)with
  | error e=>exact zuR _ _ _ h
  | ok f=>unfold entR;simp only;split<;>(unfold E23;simp only;omega)
def Rg(o:Out):Prop:=∀e,o=.err e->E23 e
theorem Rg.bind{o:Out}{f:RS->Out}(h:Rg o)(hf:∀r,Rg (f r)):Rg (o.bind f):=by
 cases o with
 | gas=>exact fun e he=>by cases he
 | err x=>exact fun e he=>h e he
 | ok r=>exact hf r
theorem Rg.ok(r:RS):Rg (.ok r):=fun e he=>by cases he
theorem Rg.gas:Rg .gas:=fun e he=>by cases he
theorem Rg.err{x:Int}(h:E23 x):Rg (.err x):=fun e he=>by injection he with he;subst he;exact h
theorem Rg.step(F:Int)(r:RS):Rg (zkE F r):=by
 unfold zkE
 split
 ·exact Rg.err (by unfold E23;omega)
 ·exact Rg.ok _
theorem Rg.store(r:RS){R:Int×ST}(h:E23 R.1):Rg (zkl r R):=by
 unfold zkl
 split
 ·exact Rg.err h
 ·exact Rg.ok _
theorem Rg.val{t:T}{r:RS}{f:Int->RS->Out}(hf:∀x,Rg (f x r)):Rg (valO t r f):=by
 unfold valO
 split
 ·exact Rg.err (zsq _ _)
 ·exact hf _
theorem Rg.holds{F:Int}{t:T}{r:RS}{f:Bool->RS->Out}(hf:∀b r,Rg (f b r)):Rg (zlg F t r f):=(Rg.step F r).bind fun r=>Rg.val fun x=>hf _ _
theorem Rg.assert(F:Int)(t:T)(b:Bool)(r:RS):Rg (zku F t b r):=Rg.holds fun b' r=>by
 split
 ·exact Rg.ok _
 ·exact Rg.err (by unfold E23;omega)
theorem Rg.body{f:T->RS->Out}(h:∀t r,Rg (f t r)):∀(l:List T) (r:RS),Rg (zld f l r)
 | [],r=>Rg.ok r
 | t::ts,r=>(h t r).bind fun r=>Rg.body h ts r
theorem Rg.loop{F:Int}{f:T->RS->Out}{entry test:T}{l1 l2:List T}(h:∀t r,Rg (f t r)):∀(m:Nat) (r:RS),Rg (zl7 F f entry test l1 l2 m r)
 | 0,_=>Rg.gas
 | m+1,r=>by
  rw[zl7];refine(Rg.body h l1 r).bind fun r=>Rg.holds fun b r=>?_
  split
  ·exact Rg.ok _
  ·exact(Rg.body h l2 r).bind fun r=>(Rg.assert F entry false r).bind fun r=>Rg.loop h m r
theorem zpR{prs:List PR}{F:Int}:∀(g:Nat) (back:Bool) (t:T) (r:RS),Rg (zkB prs F g back t r)
 | 0,_,_,_=>Rg.gas
 | g+1,back,t,r=>by
  have hb:∀back l r,Rg (zld (zkB prs F g back) l r):=fun back l r=>Rg.body (fun u r=>zpR g back u r) l r;rw[zkB]
  split
  ·exact Rg.holds fun yes r=>(hb _ _ _).bind fun r=>Rg.assert _ _ _ _
  ·split
   ·exact(Rg.assert _ _ _ _).bind fun r=>Rg.loop (fun u r=>zpR g back u r) g r
   ·split
    ·exact(Rg.step _ _).bind fun r=>Rg.val fun x=>(Rg.store _ (zr7 _ _ _)).bind fun r=>(hb _ _ _).bind fun r=>(Rg.step _ _).bind fun r=>Rg.val fun x=>Rg.store _ (zqQ _ _ _)
    ·split
     ·exact(Rg.step _ _).bind fun r=>(Rg.store _ (zr7 _ _ _)).bind fun r=>(hb _ _ _).bind fun r=>(Rg.step _ _).bind fun r=>Rg.store _ (zqQ _ _ _)
     ·split
      ·split
       ·exact Rg.err (by unfold E23;omega)
       ·exact(Rg.step _ _).bind fun r=>(Rg.store _ (zuQ _ _ _)).bind fun r=>(hb _ _ _).bind fun r=>(Rg.step _ _).bind fun r=>Rg.store _ (zuo _)
      ·refine(Rg.step _ _).bind fun r=>Rg.store _ ?_
       split
       ·exact zvZ _ _
       ·exact zxX _ _
theorem zyo(p:PG)(s:SS)(F:Int)(g:Nat)(back:Bool):E23 (resO p s F g back).2.2.1:=by
 unfold resO
 split
 ·unfold E23;simp only;omega
 ·split
  ·unfold E23;simp only;omega
  ·have h:Rg (runO p.prs F g back p.m ⟨newS p.vs s,0,List.replicate p.prs.length 0⟩):=Rg.body (fun u r=>zpR g back u r) _ _
   cases ho:runO p.prs F g back p.m ⟨newS p.vs s,0,List.replicate p.prs.length 0⟩with
   | gas=>simp only[outR];unfold E23;omega
   | err e=>simp only[outR];exact h e ho
   | ok r=>simp only[outR];unfold E23;omega
attribute [local go_sem] Oper.semAt_some
def znO(l:List Int):List Int:=l.foldl (fun acc x=>if acc.contains x then acc else acc++[x]) []
theorem zo6(l:List Int)(x:Int):znO (l++[x])=if (znO l).contains x then znO l else znO l++[x]:=by simp[znO]
def kO(c:Int):Lit:=.int .i64 c
theorem zzQ{c d:Int}(h:c≠d):kO c≠kO d:=fun e=>h (by unfold kO at e;injection e)
theorem zxP(c:Int):WideAt.IsKeyLit (kO c):=trivial
theorem zzx{c:Int}(hc:I64 c):(Lit.int .i64 c).wf=true:=by
 obtain⟨h1,h2⟩:=hc;simp[Lit.wf,IntKind.min,IntKind.max,IntKind.signed,IntKind.bits];omega
theorem keyO{c:Int}(hc:I64 c):keyOf prog 48 (.int .i64 c)=some (kO c):=Maps.keyOf_int_mk underlying48 (zzx hc)
theorem zInt(w:World):(zeroValue 3).run prog w=.ok (.int .i64 0) w:=by kernel_rfl
def OM(W:World)(mb:Nat)(e:SS->Int)(pre:List SS):Prop :=
 ∃D:DataW Unit,W.ownsMap prog 48 (plainElem (H:=Unit) prog 3) mb pre.length D/\(∀k,I64 k->D.atKey (kO k) (.lit (.int .i64 0))=.lit (.int .i64 (cntS e pre k:Int)))/\(∀k,I64 k->Maps.has D (kO k)=(znO (pre.map e)).contains k)/\Maps.size D=(znO (pre.map e)).length
theorem OM.keep{W W':World}{mb:Nat}{e:SS->Int}{pre:List SS}(h:OM W mb e pre)(hk:W'.heap[mb]?=W.heap[mb]?):OM W' mb e pre:=by
 obtain⟨D,⟨es,clock,hb,r⟩,h2⟩:=h;exact⟨D,⟨es,clock,hk.trans hb,r⟩,h2⟩
theorem OM.lt{W:World}{mb:Nat}{e:SS->Int}{pre:List SS}(h:OM W mb e pre):mb<W.heap.size:=h.choose_spec.1.lt
theorem OM.ne{W:World}{mb b:Nat}{e:SS->Int}{pre:List SS}{a:Array Value}{t:TypeId}{z:Nat×Nat}(h:OM W mb e pre)(hb:W.heap[b]?=some (.cells a t z)):¬ b=mb:=fun e=>by
 obtain⟨D,⟨es,clock,hm,-⟩,-⟩:=h;subst e;rw[hb]at hm;injection hm with hm
 cases hm
theorem OM.made(W:World)(e:SS->Int):OM (W.alloc (.map #[] 0)) W.heap.size e []:=⟨.map [],World.ownsMap_made W _ _ _,fun _ _=>rfl,fun _ _=>rfl,rfl⟩
theorem zuV(e:SS->Int)(l:List SS)(s:SS)(k:Int):cntS e (l++[s]) k=cntS e l k+if e s=k then 1 else 0:=by
 unfold cntS;rw[List.filter_append,List.length_append];congr 1;by_cases h:e s=k
 ·simp[h]
 ·simp[h]
theorem zuW(e:SS->Int)(l:List SS)(k:Int):cntS e l k<=l.length:=List.length_filter_le _ _
theorem OM.look{W:World}{mb:Nat}{e:SS->Int}{pre:List SS}(h:OM W mb e pre){k:Int}(hk:I64 k):(Instr.lookup 46 (.map (some mb)) (.int .i64 k) false).run prog W=.ok (.int .i64 (cntS e pre k:Int)) W:=by
 obtain⟨D,h1,h2,-⟩:=h;obtain⟨c,hr,hc,-⟩:=h1.lookup_int (Maps.int_keyed underlying48) underlying46 underlying3 (zInt W) (keyO hk);rw[h2 k hk]at hc;injection hc with hc;injection hc with _ hc;rw[hr,hc]
theorem OM.len{W:World}{mb:Nat}{e:SS->Int}{pre:List SS}(h:OM W mb e pre)(ty:TypeId):(Builtin.len_ #[46] ty #[.map (some mb)]).run prog W=.ok (.int .i64 ((znO (pre.map e)).length:Int)) W:=by
 obtain⟨D,h1,-,-,h4⟩:=h;rw[h1.len underlying46 ty,h4]
theorem OM.put{W:World}{mb:Nat}{e:SS->Int}{pre:List SS}(h:OM W mb e pre)(s:SS)(he:I64 (e s))(hn:pre.length<1000000) :
  ∃W',(Instr.mapUpdate 46 (.map (some mb)) (.int .i64 (e s)) (.int .i64 ((cntS e pre (e s):Int)+1))).run prog W=.ok () W'/\OM W' mb e (pre++[s])/\Chg (fun b=>b=mb) W W':=by
 obtain⟨D,h1,h2,h3,h4⟩:=h;have hle:=zuW e pre (e s);have K:=Maps.int_keyed (P:=prog) underlying48;have ht:=h1.tidy K;have hm:=h1.isMap;obtain⟨W',r1,r2,r3⟩:=h1.store K underlying46 (by unfold maxLen;omega) (keyO he) (val:=.int .i64 ((cntS e pre (e s):Int)+1)) (plainElem_int underlying3 (zzx ⟨by omega,by omega⟩));refine⟨W',r1,⟨_,by simpa using r2,fun k hk=>?_,fun k hk=>?_,?_⟩,(Chg.row r3.grown).mono fun b _ e=>by injection e with e;exact e.symm⟩
 ·rw[zuV];by_cases hkk:e s=k
  ·subst hkk;rw[Maps.atKey_put_same hm (zxP _),if_pos rfl];simp
  ·rw[Maps.atKey_put_other (zzQ fun h=>hkk h.symm),h2 k hk,if_neg hkk];rfl
 ·rw[List.map_append,List.map_cons,List.map_nil,zo6];by_cases hkk:e s=k
  ·subst hkk;rw[Maps.has_put_same hm (zxP _)];by_cases hc:(znO (pre.map e)).contains (e s)=true
   ·rw[if_pos hc];exact hc.symm
   ·rw[if_neg hc];simp
  ·rw[Maps.has_put_other (zzQ fun h=>hkk h.symm),h3 k hk];by_cases hc:(znO (pre.map e)).contains (e s)=true
   ·rw[if_pos hc]
   ·rw[if_neg hc];simp only[List.contains_eq_mem,List.mem_append,List.mem_singleton];have:¬ k=e s:=fun h=>hkk h.symm;simp[this]
 ·rw[List.map_append,List.map_cons,List.map_nil,zo6,Maps.size_put ht,h3 _ he];by_cases hc:(znO (pre.map e)).contains (e s)=true
  ·rw[if_pos hc,if_pos hc];exact h4
  ·rw[if_neg hc,if_neg hc];simp;omega
theorem zz0:IsFn prog 50 Tryz.f50:=⟨func50,by kernel_rfl,by kernel_rfl⟩
theorem zwl{W:World}{p:PG}{s:SS}{pre:List SS}{F:Int}{bp bf bc mb c1 c2 c3:Nat}{A1 A2 A3:Option Addr}{sv:Value}(hk:W.heap[bp]?=some (.cells (pgA p A1 c1 A2 c2 A3 c3) 43 (0,0)))(hp:PV W Any p (pv A1 p.vs.length c1 A2 p.prs.length c2 p.m.k p.m.n p.m.s A3 p.m.ks.length c3))(hf:W.heap[bf]?=some (.cells #[.int .i64 F] 3 (0,0)))
  (hc:W.heap[bc]?=some (.cells #[.map (some mb)] 46 (0,0)))(hm:OM W mb (errE p F) pre)(hn:pre.length<1000000)(he:I64 (errE p F s))(hs:SV W Any s sv)(hcl:s.cells.length<=100)(hF:I64 F)(eY:F<=1000000) :
  Calls prog 50 #[sv,.pointer (some ⟨bc,0,none⟩),.pointer (some ⟨bp,0,none⟩),.pointer (some ⟨bf,0,none⟩)] W fun e' W'=>e'=.returned (.bool false)/\OM W' mb (errE p F) (pre++[s])/\Chg (fun b=>b=mb) W W':=by
 obtain⟨A,c,B,d,D,k,rfl⟩:∃A c B d D k,sv=.agg #[.slice A s.cells.length c,.slice B s.tin.length d,.slice D s.tout.length k]:=by
  obtain⟨A,c,B,d,D,k,rfl,-⟩:=hs;exact⟨_,_,_,_,_,_,rfl⟩
 have hkb:=heap_alloc_new W (.cells #[.slice A s.cells.length c,.slice B s.tin.length d,.slice D s.tout.length k] 32);have hb:=zkb (zs W) (.cells #[.slice A s.cells.length c,.slice B s.tin.length d,.slice D s.tout.length k] 32);obtain⟨w1,hw1⟩:=zX (W.alloc (.cells #[.slice A s.cells.length c,.slice B s.tin.length d,.slice D s.tout.length k] 32));obtain⟨N,hN⟩:=zX (W.heap.size);rw[hw1]at hkb hb;rw[hN]at hkb;have HB:=zh hb;have uO:=zh (zkc hk hb);have jN:=zh (zkc hf hb);have Ck:=zh (zkc hc hb);have nR:=zh hkb;have qz:=zh (hm.keep (hb.block mb hm.lt));have yT:=zh (And.intro hn he);have jS:=zh (fun w (h:Below w1.heap.size w1 w)=>zlz p s F (F.toNat*2000+2000) _ _ w ((hp.later hb).later h) ((hs.later hb).later h) (by omega) hF eY zl);have xY:=zh (show errE p F s=(resO p s F (F.toNat*2000+2000) false).2.2.1 from rfl)
 generalize resO p s F (F.toNat*2000+2000) false=R at jS xY;clear hk hp hf hc hm hn he hs hcl hF eY hb hkb;go_enter func50,ntmps50;go_upto_region 1 with fail
 try rw[hw1]
 try rw[hN]
 clear hw1 hN;have az:=zh (show ∀w',Below w1.heap.size w1 w'->(fun w':World=>pgS w' bp p A1 c1 A2 c2 A3 c3/\stC w' N A s.cells.length c B s.tin.length d D s.tout.length k/\zv w' bf 0 (.int .i64 F)/\zv w' bc 0 (.map (some mb))) w' from fun w' hb=>⟨box6 (zkc uO.out hb),zkz (zkc nR.out hb),zc (zkc jN.out hb) rfl,zc (zkc Ck.out hb) rfl⟩);have hSS:zW (fun w':World=>pgS w' bp p A1 c1 A2 c2 A3 c3/\stC w' N A s.cells.length c B s.tin.length d D s.tout.length k/\zv w' bf 0 (.int .i64 F)/\zv w' bc 0 (.map (some mb))) zU w1.drew:=⟨az.out _ zr.drew,trivial⟩
 refine wp_region_noPanic ?_;refine zG hSS 8 ?_;refine zT 0 hSS ?_;refine zT 1 hSS ?_;refine zT 2 hSS ?_;refine zT 3 hSS ?_;refine zo 4 fun K hK=>?_;have had:Calls prog 21 [pv A1 p.vs.length c1 A2 p.prs.length c2 p.m.k p.m.n p.m.s A3 p.m.ks.length c3,.agg #[.slice A s.cells.length c,.slice B s.tin.length d,.slice D s.tout.length k],.int .i64 F].toArray w1.drew fun e' W'=>∃z,e'=.returned z/\(∃v1 v2 v3,z=.agg #[v1,v2,v3,.int .i64 (R.2.1:Int),.int .i64 R.2.2.1])/\Below w1.heap.size w1 W' :=
  (jS.out w1.drew zr.drew).mono fun e' W' ⟨v1,v2,v3,h1,h2,h3,h4⟩=>⟨_,h1,⟨v1,v2,v3,rfl⟩,zka (zs w1).drew h3⟩
 refine zkd (by rfl) (.func 21) [.tmp 7,.tmp 8,.tmp 9] _ (by rfl) 21 _ zo9 (by rfl) [pv A1 p.vs.length c1 A2 p.prs.length c2 p.m.k p.m.n p.m.s A3 p.m.ks.length c3,.agg #[.slice A s.cells.length c,.slice B s.tin.length d,.slice D s.tout.length k],.int .i64 F] (by rfl) _ had ?_;rintro z w2 ⟨⟨v1,v2,v3,rfl⟩,hb2⟩;refine hK.out _ _ ⟨az.out _ hb2,trivial⟩ ?_;clear hK K had hSS;(try simp only[zQ]);have hfl:∀w,(Instr.field 59 (.agg #[v1,v2,v3,.int .i64 (R.2.1:Int),.int .i64 R.2.2.1]) 2).run prog w=.ok (.int .i64 R.2.2.1) w:=fun w=>by kernel_rfl
 have hSS:zW (fun w':World=>pgS w' bp p A1 c1 A2 c2 A3 c3/\stC w' N A s.cells.length c B s.tin.length d D s.tout.length k/\zv w' bf 0 (.int .i64 F)/\zv w' bc 0 (.map (some mb))) zU w2:=⟨az.out _ hb2,trivial⟩
 refine zT 5 hSS ?_;have kK:OM w2 mb (errE p F) pre:=qz.out.keep (hb2.block mb qz.out.lt);have hrr:=xY.out;obtain⟨ev,hev⟩:=zX (R.2.2.1);rw[hev]at hrr ⊢;have hlk:=kK.look (k:=ev) (by rw[<-hrr];exact yT.out.2);obtain⟨w3,hput,hom3,hc3⟩:=kK.put s yT.out.2 yT.out.1;rw[hrr]at hput;have hle:=zuW (errE p F) pre ev;have hn9:=yT.out.1;obtain⟨cn,hcn⟩:=zX (cntS (errE p F) pre ev);rw[hcn]at hlk hput hle;have hwr:IntKind.i64.wrap ((cn:Int)+1)=(cn:Int)+1:=IntWalk.i64_in _ (by omega);refine zo 6 fun K hK=>?_;(try simp only[zA,zB,zC]);go_simp;refine hK.out _ _ hSS ?_;clear hK K;(try simp only[zQ]);refine zT 7 hSS ?_;refine zp 8 fun K hK=>?_;(try simp only[zA,zB,zC]);go_simp;have hch:Chg (fun b=>b=mb) w1 w3:=(Chg.of_below (C:=fun b=>b=mb) hb2).trans2 hc3 fun q _ e=>e;have hne:∀ {b:Nat} {a:Array Value} {t:TypeId} {z:Nat×Nat},w1.heap[b]?=some (.cells a t z)->¬ b=mb:=fun h=>qz.out.ne h
 refine hK.out _ _ ⟨box6 (hch.keep uO.out (hne uO.out)),zkz (hch.keep nR.out (hne nR.out)),zc (hch.keep jN.out (hne jN.out)) rfl,zc (hch.keep Ck.out (hne Ck.out)) rfl⟩ ?_;clear hK K;(try simp only[zQ]);refine zd ?_;refine NoPanic.normal ?_;have dN:=zh ((Chg.of_below (C:=fun b=>b=mb) HB.out).trans2 hch fun q _ e=>e);have BU:=zh hom3;clear hch hne hom3 hc3 hput hlk hSS hb2 kK;go_wp2_with fail;go_ret;exact⟨by trivial,BU.out,dN.out⟩
structure FrM(B mb:Nat)(w1:World)(e:SS->Int)(xs:List SS)(n:Nat)(w:World):Prop where
 size:B<=w.heap.size
 same:∀b,b<B->b≠mb->w.heap[b]?=w1.heap[b]?
 om:OM w mb e (xs.take n)
theorem zK0(w:World):(Instr.makeMap 46 none).run prog w=.ok (.map (some w.heap.size)) (w.alloc (.map #[] 0)):=by kernel_rfl
def OutP(e:SS->Int)(xs:List SS)(W:World)(en:Ending)(W':World):Prop:=Below W.heap.size W W'/\∃mb,en=.returned (.map (some mb))/\W.heap.size<=mb/\OM W' mb e xs
theorem zqZ{W:World}{p:PG}{b:BX}{F:Int}{v:Value}(hp:PV W Any p v)(hok:(b.ok&&svB p.vs)=true)(hm:(allS b (lenE p.vs b)).length<=1000000)(hF:I64 F)(eY:F<=1000000) :
  Calls prog 16 #[v,.agg #[.int .i64 b.v,.int .i64 b.l,.int .i64 b.i],.int .i64 F] W (OutP (errE p F) (allS b (lenE p.vs b)) W):=by
 obtain⟨A1,c1,A2,c2,A3,c3,rfl,-⟩:=id hp;obtain⟨bv,bl,bi⟩:=b;obtain⟨N,hN⟩:=zX (W.heap.size);have HN:=zh hN;obtain⟨hb1,hz1,k0,k1,k2,k3,k4⟩:=al5F W (.cells (pgA p A1 c1 A2 c2 A3 c3) 43) (.cells #[.int .i64 bv,.int .i64 bl,.int .i64 bi] 24) (.cells #[.int .i64 F] 3) (.map #[] 0) (.cells #[.map none] 46);have jX:=(OM.made (((W.alloc (.cells (pgA p A1 c1 A2 c2 A3 c3) 43)).alloc (.cells #[.int .i64 bv,.int .i64 bl,.int .i64 bi] 24)).alloc (.cells #[.int .i64 F] 3)) (errE p F)).keep (W':=((((W.alloc (.cells (pgA p A1 c1 A2 c2 A3 c3) 43)).alloc (.cells #[.int .i64 bv,.int .i64 bl,.int .i64 bi] 24)).alloc (.cells #[.int .i64 F] 3)).alloc (.map #[] 0)).alloc (.cells #[.map none] 46)) (Below.heap_alloc _ _ _ (by simp));have hzz:(((W.alloc (.cells (pgA p A1 c1 A2 c2 A3 c3) 43)).alloc (.cells #[.int .i64 bv,.int .i64 bl,.int .i64 bi] 24)).alloc (.cells #[.int .i64 F] 3)).heap.size=N+3:=by simp[hN]
 rw[hzz]at jX;obtain⟨w1,hw1⟩:=zX (((((W.alloc (.cells (pgA p A1 c1 A2 c2 A3 c3) 43)).alloc (.cells #[.int .i64 bv,.int .i64 bl,.int .i64 bi] 24)).alloc (.cells #[.int .i64 F] 3)).alloc (.map #[] 0)).alloc (.cells #[.map none] 46));rw[hw1]at hb1 hz1 k0 k1 k2 k3 k4 jX;rw[hN]at hz1 k0 k1 k2 k3 k4;have iD:=zh hp;have bZ:=zh (And.intro hok (And.intro hm (And.intro hF eY)));have HB1:=zh hb1;have HZ1:=zh hz1;have aG:=zh k0;have aB:=zh k1;have aT:=zh k2;have dR:=zh k4;have qz:=zh jX;have q4:w1.cell? ⟨N+4,0,none⟩=some (.map none):=zc k4 rfl;have cf:∀o,w1.frozen? ⟨N+4,o,none⟩=false:=fun o=>zf k4;obtain⟨w2,hw2,hc2,pO⟩:=setU (o:=0) (.map (some (N+3))) k4;have dS:=zh hc2;have HH2:=zh pO;clear hp hok hm hF eY hb1 hz1 k0 k1 k2 k3 k4 jX hzz hc2 pO
 have pI:∀(fn:Fn) (first cap:Array Value) (w:World),(Instr.makeFunc fn first cap).run prog w=.ok (.func fn first cap) w:=fun _ _ _ _=>rfl
 show Calls prog 16 #[pv A1 p.vs.length c1 A2 p.prs.length c2 p.m.k p.m.n p.m.s A3 p.m.ks.length c3,.agg #[.int .i64 bv,.int .i64 bl,.int .i64 bi],.int .i64 F] W _
 go_enter func16,ntmps16;have hmm:=zK0;go_upto_region 2 with fail;simp only[Nat.add_assoc,Nat.reduceAdd];clear hw1 q4 cf hw2;have hZ2:N+5<=w2.heap.size:=by have:=dS.out.size;have:=HZ1.out;omega
 have HZ2:=zh hZ2;have HB2:=zh (HB1.out.trans (dS.out.below HB1.out.size fun q e=>by have e:q=N+4:=e;have:=HN.out;omega));have hk0:=dS.out.keep aG.out (fun e:N=N+4=>by omega);have hk1:=dS.out.keep aB.out (fun e:N+1=N+4=>by omega);have hk2:=dS.out.keep aT.out (fun e:N+2=N+4=>by omega);have hk4:w2.heap[N+4]?=some (.cells #[.map (some (N+3))] 46 (0,0)):=by have:=HH2.out;simpa using this
 have kK:=qz.out.keep (W':=w2) (dS.out.block (N+3) (by have:=HZ1.out;omega) (fun e:N+3=N+4=>by omega));have nJ:=zh (((iD.out.keep (S':=fun q=>q<N) (fun q _ h=>by have:=HN.out;omega) fun _ _ _=>rfl).keep (w':=w2) (S':=fun q=>q<N) (fun _ h _=>h) fun q h hlt=>HB2.out.block q hlt));have dP:=iD.out.pg;have HT:=zh (show ztc 50 #[.pointer (some ⟨N+4,0,none⟩),.pointer (some ⟨N,0,none⟩),.pointer (some ⟨N+2,0,none⟩)] (fun _ _=>false) (allS ⟨bv,bl,bi⟩ (lenE p.vs ⟨bv,bl,bi⟩)) w2.heap.size (fun n=>FrM w2.heap.size (N+3) w2 (errE p F) (allS ⟨bv,bl,bi⟩ (lenE p.vs ⟨bv,bl,bi⟩)) n)from by
  refine⟨fun n W W' h h1 h2=>⟨Nat.le_trans h.size h1,fun b hb hm=>(h2 b hb).trans (h.same b hb hm),h.om.keep (h2 _ (by omega))⟩,fun n W h=>h.size,fun n s v W g hI hg hgs ho hx=>?_⟩;have hx2:=zp1 bZ.out.1 s (List.mem_of_getElem? hx);have hnl:=(List.getElem?_eq_some_iff.1 hx).1;have hlt:∀q,q<N+5->q≠N+3->W.heap[q]?=w2.heap[q]?:=fun q hq=>hI.same q (by omega);have hrg:=zyo p s F (F.toNat*2000+2000) false;refine(zwl (F:=F) (p:=p) (s:=s) ((hlt N (by omega) (by omega)).trans hk0) (nJ.out.keep (fun _ _ _=>trivial) fun q h _=>hlt q (by omega) (by omega)) ((hlt (N+2) (by omega) (by omega)).trans hk2) ((hlt (N+4) (by omega) (by omega)).trans hk4) hI.om (by rw[List.length_take];have:=bZ.out.2.1;omega) ⟨by unfold E23 at hrg;unfold errE;omega,by unfold E23 at hrg;unfold errE;omega⟩ (ho.sv hx2.1) hx2.2 bZ.out.2.2.1 bZ.out.2.2.2).mono ?_;rintro e' W' ⟨rfl,jX,hb⟩
  refine⟨rfl,⟨Nat.le_trans hI.size hb.size,fun q hq hm=>(hb.block q (Nat.lt_of_lt_of_le hq hI.size) hm).trans (hI.same q hq hm),?_⟩,hb.mono fun q _ e=>.inl (by have e:q=N+3:=e;omega)⟩;rw[List.take_add_one,hx];exact jX)
 have bz:=zh (zoH (W:=w2) (A1:=A1) (c1:=c1) (vs:=p.vs) (b:=⟨bv,bl,bi⟩) (nJ.out.keep (S':=Any) (fun _ _ _=>trivial) fun _ _ _=>rfl).pg.vars dP.lv bZ.out.1 bZ.out.2.1 zz0 HT.out ⟨zl,fun _ _ _=>rfl,kK⟩);rw[zqK (f:=fun _ _=>false) fun _ _=>rfl]at bz;clear dP kK HT;obtain⟨p0,p1,p2,p3,p4,p5⟩:=box6 hk0;obtain⟨y0,y1,y2⟩:=zkz hk1;go_wp2_with fail;refine bz.out.mono ?_;rintro e' w3 ⟨v2,rfl,hs2,hi2,hc3⟩;have x4:w3.cell? ⟨N+4,0,none⟩=some (.map (some (N+3))):=zc ((hi2.same (N+4) (by omega) (by omega)).trans hk4) rfl;have HB3:=zh (show Below W.heap.size W w3 from HB2.out.trans ⟨hc3.os,hc3.tape,hc3.output,hc3.size,fun q hq=>hi2.same q (by have:=HB2.out.size;omega) (by have:=HN.out;omega)⟩);have BU:=zh (show OM w3 (N+3) (errE p F) (allS ⟨bv,bl,bi⟩ (lenE p.vs ⟨bv,bl,bi⟩)) by have:=hi2.om;rwa[List.take_length]at this)
 clear hs2 hi2 hc3 hk0 hk1 hk2 hk4 p0 p1 p2 p3 p4 p5 y0 y1 y2;go_wp2_with fail;go_ret;exact⟨HB3.out,N+3,rfl,by have:=HN.out;omega,BU.out⟩
end
section
open Go Go.RowKit
def exX:ByteArray:=⟨#[120]⟩
def exV:T:=.nd 2 0 exX []
def exN(n:Int):T:=.nd 1 n ⟨#[]⟩ []
def exE(n:Int):T:=.nd 16 0 ⟨#[]⟩ [exV,exN n]
def exP:PG:=⟨[⟨exX,1,0⟩],[],.nd 57 0 ⟨#[]⟩ [.nd 52 0 ⟨#[]⟩ [exE 1,.nd 57 0 ⟨#[]⟩ [.nd 40 0 ⟨#[]⟩ [exV,exN 1]],.nd 57 0 ⟨#[]⟩ [],exE 2]]⟩
def exB:BX:=⟨2,0,0⟩
theorem zpj:allS exB (lenE exP.vs exB)=[⟨[[0]],[],[]⟩,⟨[[1]],[],[]⟩,⟨[[-1]],[],[]⟩,⟨[[2]],[],[]⟩,⟨[[-2]],[],[]⟩]:=by kernel_rfl
attribute [local go_sem] Oper.semAt_some
theorem zni(w:World)(S:Nat->Prop){k n:Int}{s:ByteArray}(hf:Fld k n s):NV w S (.nd k n s []) (nv k n s none 0 0):=NV.shut (ks:=[]) hf (by simp[LK]) (by simp) fun i hi=>by simp at hi
theorem zKu{w:World}{S:Nat->Prop}{b:Nat}{E:TypeId}{t1:T}{k n k1 n1:Int}{s s1:ByteArray}{A1:Option Addr}{l1 c1:Nat}(hf:Fld k n s)(hS:S b)(hk:w.heap[b]?=some (.cells #[.int .u8 k1,.int .i64 n1,.string s1,.slice A1 l1 c1] E (0,0)))(h1:NV w S t1 (nv k1 n1 s1 A1 l1 c1)) :
  NV w S (.nd k n s [t1]) (nv k n s (some ⟨b,0,none⟩) 1 1):=by
 refine NV.shut (ks:=[t1]) hf (by simp[LK]) (by simp) fun i hi=>?_
 match i,hi with
 | 0,_=>exact⟨⟨b,0,none⟩,_,_,_,_,rfl,hS,⟨zc hk rfl,zc hk rfl,zc hk rfl,zc hk rfl⟩,h1⟩
theorem zKt{w:World}{S:Nat->Prop}{b:Nat}{E:TypeId}{t1 t2:T}{k n k1 n1 k2 n2:Int}{s s1 s2:ByteArray}{A1 A2:Option Addr}{l1 c1 l2 c2:Nat}(hf:Fld k n s)(hS:S b)(hk:w.heap[b]?=some (.cells #[.int .u8 k1,.int .i64 n1,.string s1,.slice A1 l1 c1,.int .u8 k2,.int .i64 n2,.string s2,.slice A2 l2 c2] E (0,0)))(h1:NV w S t1 (nv k1 n1 s1 A1 l1 c1))(h2:NV w S t2 (nv k2 n2 s2 A2 l2 c2)) :
  NV w S (.nd k n s [t1,t2]) (nv k n s (some ⟨b,0,none⟩) 2 2):=by
 refine NV.shut (ks:=[t1,t2]) hf (by simp[LK]) (by simp) fun i hi=>?_
 match i,hi with
 | 0,_=>exact⟨⟨b,0,none⟩,_,_,_,_,rfl,hS,⟨zc hk rfl,zc hk rfl,zc hk rfl,zc hk rfl⟩,h1⟩
 | 1,_=>exact⟨⟨b,0,none⟩,_,_,_,_,rfl,hS,⟨zc hk rfl,zc hk rfl,zc hk rfl,zc hk rfl⟩,h2⟩
theorem zK6{w:World}{S:Nat->Prop}{b:Nat}{E:TypeId}{t1 t2 t3 t4:T}{k n k1 n1 k2 n2 k3 n3 k4 n4:Int}{s s1 s2 s3 s4:ByteArray}{A1 A2 A3 A4:Option Addr}{l1 c1 l2 c2 l3 c3 l4 c4:Nat}(hf:Fld k n s)(hS:S b)
  (hk:w.heap[b]?=some (.cells #[.int .u8 k1,.int .i64 n1,.string s1,.slice A1 l1 c1,.int .u8 k2,.int .i64 n2,.string s2,.slice A2 l2 c2,.int .u8 k3,.int .i64 n3,.string s3,.slice A3 l3 c3,.int .u8 k4,.int .i64 n4,.string s4,.slice A4 l4 c4] E (0,0)))
  (h1:NV w S t1 (nv k1 n1 s1 A1 l1 c1))(h2:NV w S t2 (nv k2 n2 s2 A2 l2 c2))(h3:NV w S t3 (nv k3 n3 s3 A3 l3 c3))(h4:NV w S t4 (nv k4 n4 s4 A4 l4 c4)):NV w S (.nd k n s [t1,t2,t3,t4]) (nv k n s (some ⟨b,0,none⟩) 4 4):=by
 refine NV.shut (ks:=[t1,t2,t3,t4]) hf (by simp[LK]) (by simp) fun i hi=>?_
 match i,hi with
 | 0,_=>exact⟨⟨b,0,none⟩,_,_,_,_,rfl,hS,⟨zc hk rfl,zc hk rfl,zc hk rfl,zc hk rfl⟩,h1⟩
 | 1,_=>exact⟨⟨b,0,none⟩,_,_,_,_,rfl,hS,⟨zc hk rfl,zc hk rfl,zc hk rfl,zc hk rfl⟩,h2⟩
 | 2,_=>exact⟨⟨b,0,none⟩,_,_,_,_,rfl,hS,⟨zc hk rfl,zc hk rfl,zc hk rfl,zc hk rfl⟩,h3⟩
 | 3,_=>exact⟨⟨b,0,none⟩,_,_,_,_,rfl,hS,⟨zc hk rfl,zc hk rfl,zc hk rfl,zc hk rfl⟩,h4⟩
theorem fldG(k n:Int)(hk:0<=k/\k<256)(hn:I64 n):Fld k n ⟨#[]⟩:=⟨hk,hn,by decide⟩
theorem fldX:Fld 2 0 exX:=⟨by decide,by decide,by decide⟩
theorem zKW(a0 a1 a2 a3:Value)(w:World):(Instr.buildSlice 39 1 #[(0,.agg #[a0,a1,a2,a3])]).run prog w=.ok (.slice (some ⟨w.heap.size,0,none⟩) 1 1) (w.alloc (.cells #[a0,a1,a2,a3] 41)):=by kernel_rfl
theorem zKe(a0 a1 a2 a3 b0 b1 b2 b3:Value)(w:World):(Instr.buildSlice 39 2 #[(0,.agg #[a0,a1,a2,a3]),(1,.agg #[b0,b1,b2,b3])]).run prog w=.ok (.slice (some ⟨w.heap.size,0,none⟩) 2 2) (w.alloc (.cells #[a0,a1,a2,a3,b0,b1,b2,b3] 41)):=by kernel_rfl
theorem zKV(a0 a1 a2 a3 b0 b1 b2 b3 c0 c1 c2 c3 d0 d1 d2 d3:Value)(w:World):(Instr.buildSlice 39 4 #[(0,.agg #[a0,a1,a2,a3]),(1,.agg #[b0,b1,b2,b3]),(2,.agg #[c0,c1,c2,c3]),(3,.agg #[d0,d1,d2,d3])]).run prog w=.ok (.slice (some ⟨w.heap.size,0,none⟩) 4 4) (w.alloc (.cells #[a0,a1,a2,a3,b0,b1,b2,b3,c0,c1,c2,c3,d0,d1,d2,d3] 41)):=by kernel_rfl
theorem bNkG(k:Int)(A:Option Addr)(l c:Nat)(w:World):(Instr.build 41 #[(0,.int .u8 k),(3,.slice A l c)]).run prog w=.ok (nv k 0 ⟨#[]⟩ A l c) w:=by kernel_rfl
theorem bNnG(k n:Int)(w:World):(Instr.build 41 #[(0,.int .u8 k),(1,.int .i64 n)]).run prog w=.ok (nv k n ⟨#[]⟩ none 0 0) w:=by kernel_rfl
theorem bNxG(k:Int)(s:ByteArray)(w:World):(Instr.build 41 #[(0,.int .u8 k),(2,.string s)]).run prog w=.ok (nv k 0 s none 0 0) w:=by kernel_rfl
theorem ztQ(n:Int)(hn:I64 n)(xb:Nat)(w:World)(hx:w.heap[xb]?=some (.cells #[.int .u8 2,.int .i64 0,.string exX,.slice none 0 0] 41 (0,0))) :
  Calls prog 40 #[.int .i64 n,.pointer (some ⟨xb,0,none⟩)] w fun e w'=>∃b,e=.returned (nv 16 0 ⟨#[]⟩ (some ⟨b,0,none⟩) 2 2)/\NV w' Any (exE n) (nv 16 0 ⟨#[]⟩ (some ⟨b,0,none⟩) 2 2)/\Below w.heap.size w w':=by
 have h2:=zKe;have h3:=bNkG;have h4:=bNnG;obtain⟨N,hN⟩:=zX (w.heap.size);have HN:=zh hN;have hb1:=zkb (zs w) (.cells #[.int .u8 0,.int .i64 0,.string ⟨#[]⟩,.slice none 0 0] 41);have k1:=heap_alloc_new w (.cells #[.int .u8 0,.int .i64 0,.string ⟨#[]⟩,.slice none 0 0] 41);have kx:=zkc hx hb1;have hz1:(w.alloc (.cells #[.int .u8 0,.int .i64 0,.string ⟨#[]⟩,.slice none 0 0] 41)).heap.size=N+1:=by simp[hN]
 obtain⟨w1,hw1⟩:=zX (w.alloc (.cells #[.int .u8 0,.int .i64 0,.string ⟨#[]⟩,.slice none 0 0] 41));rw[hw1]at hb1 k1 kx hz1;rw[hN]at k1;have kr:=heap_alloc_new w1 (.cells #[.int .u8 2,.int .i64 0,.string exX,.slice none 0 0,.int .u8 1,.int .i64 n,.string ⟨#[]⟩,.slice none 0 0] 41);have k1':=zke k1 (.cells #[.int .u8 2,.int .i64 0,.string exX,.slice none 0 0,.int .u8 1,.int .i64 n,.string ⟨#[]⟩,.slice none 0 0] 41);have hb2:=zkb hb1 (.cells #[.int .u8 2,.int .i64 0,.string exX,.slice none 0 0,.int .u8 1,.int .i64 n,.string ⟨#[]⟩,.slice none 0 0] 41);rw[hz1]at kr;obtain⟨w2,hw2⟩:=zX (w1.alloc (.cells #[.int .u8 2,.int .i64 0,.string exX,.slice none 0 0,.int .u8 1,.int .i64 n,.string ⟨#[]⟩,.slice none 0 0] 41));rw[hw2]at kr k1' hb2;have q0:w2.cell? ⟨N,0,none⟩=some (.int .u8 0):=zc k1' rfl;have q1:w2.cell? ⟨N,1,none⟩=some (.int .i64 0):=zc k1' rfl
 have q2:w2.cell? ⟨N,2,none⟩=some (.string ⟨#[]⟩):=zc k1' rfl;have q3:w2.cell? ⟨N,3,none⟩=some (.slice none 0 0):=zc k1' rfl;have cf:∀o,w2.frozen? ⟨N,o,none⟩=false:=fun o=>zf k1';obtain⟨x0,x1,x2,x3⟩:=box4 kx;obtain⟨hh,hch⟩:=set4 (u0:=.int .u8 16) (u1:=.int .i64 0) (u2:=.string ⟨#[]⟩) (u3:=.slice (some ⟨N+1,0,none⟩) 2 2) k1';obtain⟨w3,hw3⟩:=zX ((((w2.setCell ⟨N,0,none⟩ (.int .u8 16)).setCell ⟨N,1,none⟩ (.int .i64 0)).setCell ⟨N,2,none⟩ (.string ⟨#[]⟩)).setCell ⟨N,3,none⟩ (.slice (some ⟨N+1,0,none⟩) 2 2));rw[hw3]at hh hch;have HH:=zh hh;have jl:=zh (zKt (w:=w3) (S:=Any) (t1:=exV) (t2:=exN n) (k:=16) (n:=0) (s:=⟨#[]⟩) (fldG 16 0 (by decide) ⟨by decide,by decide⟩) trivial (hch.keep kr (fun e:N+1=N=>by omega)) (zni w3 Any fldX) (zni w3 Any (fldG 1 n (by decide) hn)));have HB:=zh (hb2.trans (hch.below hb2.size fun q e=>by have e:q=N:=e;omega));clear hb1 k1 kx hx kr k1' hb2 hh hch
 go_enter func40,ntmps40;go_wp2_with fail;obtain⟨t0,t1,t2,t3⟩:=box4 HH.out;exact bodyPost_ret (v:=nv 16 0 ⟨#[]⟩ (some ⟨N+1,0,none⟩) 2 2) (by simp[results,results40,go_sem,t0,t1,t2,t3]) rfl ⟨N+1,rfl,jl.out,HB.out⟩
theorem zpz(A:Option Addr)(l c:Nat)(w:World):Calls prog 41 #[.slice A l c] w fun e w'=>e=.returned (nv 57 0 ⟨#[]⟩ A l c)/\Below w.heap.size w w':=by
 have hb:∀w,(Instr.build 41 #[(0,.int .u8 57),(3,.slice A l c)]).run prog w=.ok (nv 57 0 ⟨#[]⟩ A l c) w:=fun w=>by kernel_rfl
 go_enter func41,ntmps41;go_wp2_with fail;exact bodyPost_ret (v:=nv 57 0 ⟨#[]⟩ A l c) (by simp[results,results41,go_sem]) rfl ⟨rfl,zkb zr _⟩
end
section
open Go Go.RowKit
attribute [local go_sem] Oper.semAt_some
abbrev xS:ByteArray:=⟨#[]⟩
abbrev ak8:T:=.nd 57 0 xS [.nd 40 0 xS [exV,exN 1]]
abbrev ak13:T:=.nd 52 0 xS [exE 1,ak8,.nd 57 0 xS [],exE 2]
abbrev ak16:T:=.nd 57 0 xS [ak13]
def akZ(W:World)(b:Nat):Prop:=W.heap[b]?=some (.cells #[.slice none 0 0,.slice none 0 0,.int .u8 0,.int .i64 0,.string xS,.slice none 0 0] 43 (0,0))
def akV(W:World)(b:Nat):Prop:=W.heap[b]?=some (.cells #[.string exX,.int .u8 1,.int .i64 0] 57 (0,0))
def akF(B:Nat):Nat->Value->List Value->World->Prop
 | 1,v,_,w=>∃b,v=.slice (some ⟨b,0,none⟩) 1 1/\akV w b
 | 4,v,_,w=>∃b,v=nv 16 0 xS (some ⟨b,0,none⟩) 2 2/\NV w Any (exE 1) (nv 16 0 xS (some ⟨b,0,none⟩) 2 2)
 | 7,v,_,w=>∃b,v=.slice (some ⟨b,0,none⟩) 1 1/\NV w Any ak8 (nv 57 0 xS (some ⟨b,0,none⟩) 1 1)
 | 8,v,_,w=>∃b,v=nv 57 0 xS (some ⟨b,0,none⟩) 1 1/\NV w Any ak8 (nv 57 0 xS (some ⟨b,0,none⟩) 1 1)
 | 10,v,_,_=>v=nv 57 0 xS none 0 0
 | 12,v,_,w=>∃b,v=nv 16 0 xS (some ⟨b,0,none⟩) 2 2/\NV w Any (exE 2) (nv 16 0 xS (some ⟨b,0,none⟩) 2 2)
 | 13,v,_,w=>∃b,v=.slice (some ⟨b,0,none⟩) 4 4/\NV w Any ak13 (nv 52 0 xS (some ⟨b,0,none⟩) 4 4)
 | 14,v,_,w=>∃b,v=nv 52 0 xS (some ⟨b,0,none⟩) 4 4/\NV w Any ak13 (nv 52 0 xS (some ⟨b,0,none⟩) 4 4)
 | 15,v,_,w=>∃b,v=.slice (some ⟨b,0,none⟩) 1 1/\NV w Any ak16 (nv 57 0 xS (some ⟨b,0,none⟩) 1 1)
 | 16,v,_,w=>∃b,v=nv 57 0 xS (some ⟨b,0,none⟩) 1 1/\NV w Any ak16 (nv 57 0 xS (some ⟨b,0,none⟩) 1 1)
 | 17,v,_,w=>∃b c,v=pv (some ⟨b,0,none⟩) 1 1 none 0 0 57 0 xS (some ⟨c,0,none⟩) 1 1/\akV w b/\NV w Any ak16 (nv 57 0 xS (some ⟨c,0,none⟩) 1 1)
 | 18,v,_,w=>∃b,v=.pointer (some ⟨b,0,none⟩)/\B<=b/\akZ w b
 | _,_,_,_=>True
def akD:Nat->List Nat
 | 8=>[7]
 | 13=>[4,8,10,12]
 | 14=>[13]
 | 15=>[14]
 | 16=>[15]
 | 17=>[1,16]
 | _=>[]
theorem zvh{B:Nat}{v:Value}{ds:List Value}{w w':World}(i:Nat)(h:akF B i v ds w)(hb:Below w.heap.size w w'):akF B i v ds w':=by
 unfold akF at h ⊢
 split at h<;>try exact h
 all_goals first
  | (obtain⟨b,e,h⟩:=h;exact⟨b,e,zkc h hb⟩)
  | (obtain⟨b,e,h⟩:=h;exact⟨b,e,h.later hb⟩)
  | (obtain⟨b,c,e,h1,h2⟩:=h;exact⟨b,c,e,zkc h1 hb,h2.later hb⟩)
  | (obtain⟨b,e,h1,h2⟩:=h;exact⟨b,e,h1,zkc h2 hb⟩)
theorem zKz{W:World}{b:Nat}{x0 x1 x2 x3 x4 x5 u0 u1 u2 u3 u4 u5:Value}{E:TypeId}(h:W.heap[b]?=some (.cells #[x0,x1,x2,x3,x4,x5] E (0,0))) :
  ((((((W.setCell ⟨b,0,none⟩ u0).setCell ⟨b,1,none⟩ u1).setCell ⟨b,2,none⟩ u2).setCell ⟨b,3,none⟩ u3).setCell ⟨b,4,none⟩ u4).setCell ⟨b,5,none⟩ u5).heap[b]?=some (.cells #[u0,u1,u2,u3,u4,u5] E (0,0)) /\
   Chg (fun q=>q=b) W ((((((W.setCell ⟨b,0,none⟩ u0).setCell ⟨b,1,none⟩ u1).setCell ⟨b,2,none⟩ u2).setCell ⟨b,3,none⟩ u3).setCell ⟨b,4,none⟩ u4).setCell ⟨b,5,none⟩ u5):=by
 refine⟨?_,((((((Chg.refl (fun q=>q=b) W).setCell (p:=⟨b,0,none⟩) (.inl rfl) _).setCell (p:=⟨b,1,none⟩) (.inl rfl) _).setCell (p:=⟨b,2,none⟩) (.inl rfl) _).setCell (p:=⟨b,3,none⟩) (.inl rfl) _).setCell (p:=⟨b,4,none⟩) (.inl rfl) _).setCell (p:=⟨b,5,none⟩) (.inl rfl) _⟩;rw[heap_setCell_same _ b 5 _ _ u5 (heap_setCell_same _ b 4 _ _ u4 (heap_setCell_same _ b 3 _ _ u3 (heap_setCell_same _ b 2 _ _ u2 (heap_setCell_same _ b 1 _ _ u1 (heap_setCell_same W b 0 _ _ u0 h)))))];simp
theorem zwA{w:World}{p:Addr}{bb:Nat}{E:TypeId}{xs:Array Value}{k:Int}(hz:w.heap[bb]?=some (.cells xs E (0,0)))(hx:∀(i:Nat) (k:Int),xs[i]?=some (Value.int .u8 k)->k=0)(hp:p.block=bb)(h:w.cell? p=some (.int .u8 k)):k=0:=by
 subst hp;obtain⟨b,o,m⟩:=p;simp only[World.cell?]at h hz
 cases m with
 | none =>
  simp only[hz]at h;exact hx o k h
 | some x=>simp[hz]at h
theorem zK3(i:Nat)(k:Int)(h:(#[Value.slice none 0 0,.slice none 0 0,.int .u8 0,.int .i64 0,.string xS,.slice none 0 0]:Array Value)[i]?=some (Value.int .u8 k)):k=0:=by
 match i,h with
 | 0,h=>simp at h
 | 1,h=>simp at h
 | 2,h=>simp at h;exact h.symm
 | 3,h=>simp at h
 | 4,h=>simp at h
 | 5,h=>simp at h
 | n+6,h=>simp at h
theorem NV.nz6{w:World}{bb:Nat}{E:TypeId}{xs:Array Value}(hz:w.heap[bb]?=some (.cells xs E (0,0)))(hx:∀(i:Nat) (k:Int),xs[i]?=some (Value.int .u8 k)->k=0):∀(t:T) (v:Value),NV w Any t v->(∀u∈po t,u.k≠0)->NV w (fun b=>b≠bb) t v:=by
 intro t
 induction t using T.ind with
 | _ k n s ks ih =>
  intro v hv hk;obtain⟨A,c,rfl,hf,hlk,hlc,hrow⟩:=hv.open_;refine NV.shut hf hlk hlc fun i hi=>?_;obtain⟨a,u0,u1,u2,u3,hA,-,hc,hn⟩:=hrow i hi;have hm:(T.nd k n s ks).ks[i]∈ks:=List.getElem_mem hi;have hsub:∀u∈po (T.nd k n s ks).ks[i],u.k≠0:=fun u hu=>hk u (by simp only[po,List.mem_cons];exact .inr (zmS.2 ⟨_,hm,hu⟩));refine⟨a,u0,u1,u2,u3,hA,fun e=>?_,hc,ih _ hm _ hn hsub⟩;obtain⟨A',c',e',-⟩:=hn.open_;injection e' with e';simp only[Array.mk.injEq,List.cons.injEq,and_true]at e';have h0:=hc.c0;rw[e'.1]at h0;have hself:(T.nd k n s ks).ks[i]∈po (T.nd k n s ks).ks[i]:=by
   rcases hq:(T.nd k n s ks).ks[i]with⟨k',n',s',ks'⟩;simp[po]
  exact hsub _ hself (zwA hz hx (by rw[zkx];exact e) h0)
theorem zK1(n:Int)(w:World):(Instr.build 24 #[(0,.int .i64 n)]).run prog w=.ok (.agg #[.int .i64 n,.int .i64 0,.int .i64 0]) w:=by kernel_rfl
theorem zzh:(exB.ok&&svB exP.vs)=true:=by kernel_rfl
theorem zvg:(allS exB (lenE exP.vs exB)).length<=1000000:=by rw[zpj];decide
theorem zzj:fndE (fun s=>decide (errE exP 9 s=15)) (allS exB (lenE exP.vs exB))=(⟨[[2]],[],[]⟩,4,true):=by rw[zpj];kernel_rfl
theorem zKj:dffE exP exP exB 9=(nilS,5,false):=by
 unfold dffE;rw[if_pos (zm9.2 rfl),zpj]
 kernel_rfl
theorem zzi:(znO ((allS exB (lenE exP.vs exB)).map (errE exP 9))).length=2:=by rw[zpj];kernel_rfl
theorem zK2:cntS (errE exP 9) (allS exB (lenE exP.vs exB)) 0=4:=by rw[zpj];kernel_rfl
theorem zKk:cntS (errE exP 9) (allS exB (lenE exP.vs exB)) 15=1:=by rw[zpj];kernel_rfl
theorem zqi{w:World}{S:Nat->Prop}{x:Int}{v:Value}(h:SV w S ⟨[[x]],[],[]⟩ v):∃(a:Addr) (c:Nat) (D D2:Option Addr) (d1 d2:Nat) (a':Addr) (c':Nat),v=.agg #[.slice (some a) 1 c,.slice D 0 d1,.slice D2 0 d2]/\w.cell? (a.add 0)=some (.slice (some a') 1 c')/\w.cell? (a'.add 0)=some (.int .i64 x):=by
 obtain⟨A,c,D,d1,D2,d2,rfl,h1,-⟩:=h;obtain⟨a,A',c',rfl,-,h2,-,h3⟩:=h1 0 (by simp);obtain⟨a',rfl,-,h4,-⟩:=h3 0 (by simp);exact⟨a,c,D,D2,d1,d2,a',c',rfl,h2,h4⟩
theorem zzW:IsFn prog 40 f40:=⟨func40,by kernel_rfl,by kernel_rfl⟩
theorem zyL:IsFn prog 41 f41:=⟨func41,by kernel_rfl,by kernel_rfl⟩
theorem bSVG(a0 a1 a2:Value)(w:World):(Instr.buildSlice 22 1 #[(0,.agg #[a0,a1,a2])]).run prog w=.ok (.slice (some ⟨w.heap.size,0,none⟩) 1 1) (w.alloc (.cells #[a0,a1,a2] 57)):=by kernel_rfl
theorem bVdG(s:ByteArray)(k:Int)(w:World):(Instr.build 57 #[(0,.string s),(1,.int .u8 k)]).run prog w=.ok (.agg #[.string s,.int .u8 k,.int .i64 0]) w:=by kernel_rfl
theorem bPgG(A B:Option Addr)(l c m d:Nat)(k n:Int)(s:ByteArray)(w:World):(Instr.build 43 #[(0,.slice A l c),(2,nv k n s B m d)]).run prog w=.ok (pv A l c none 0 0 k n s B m d) w:=by kernel_rfl
theorem zsM(w:World):Calls prog 9 #[] w fun e w'=>e=.returned (.bool true)/\Below w.heap.size w w':=by
 have pI:∀(fn:Fn) (first cap:Array Value) (w:World),(Instr.makeFunc fn first cap).run prog w=.ok (.func fn first cap) w:=fun _ _ _ _=>rfl;have h1:=zKW;have h2:=zKe;have h3:=bNkG;have h4:=bNnG;have h5:=bNxG;obtain⟨N,hN⟩:=zX (w.heap.size);have HN:=zh hN;have al:=(fun(o0 o1 o2:Obj)=>(⟨zkb (zkb (zkb zr _) _) _,by simp,zke (zke (zln _ rfl _) _) _,zke (zln _ (by simp) _) _,zln _ (by simp) _⟩:Below w.heap.size w (((w.alloc o0).alloc o1).alloc o2)/\(((w.alloc o0).alloc o1).alloc o2).heap.size=w.heap.size+3/\(((w.alloc o0).alloc o1).alloc o2).heap[w.heap.size]?=some o0/\(((w.alloc o0).alloc o1).alloc o2).heap[w.heap.size+1]?=some o1/\(((w.alloc o0).alloc o1).alloc o2).heap[w.heap.size+2]?=some o2))
 obtain⟨hb1,hz1,k0,k1,k2⟩:=al (.cells #[.int .u8 2,.int .i64 0,.string ⟨#[120]⟩,.slice none 0 0] 41) (.cells #[.int .u8 2,.int .i64 0,.string ⟨#[120]⟩,.slice none 0 0,.int .u8 1,.int .i64 1,.string ⟨#[]⟩,.slice none 0 0] 41) (.cells #[.int .u8 40,.int .i64 0,.string ⟨#[]⟩,.slice (some ⟨N+1,0,none⟩) 2 2] 41);obtain⟨w1,hw1⟩:=zX (((w.alloc (.cells #[.int .u8 2,.int .i64 0,.string ⟨#[120]⟩,.slice none 0 0] 41)).alloc (.cells #[.int .u8 2,.int .i64 0,.string ⟨#[120]⟩,.slice none 0 0,.int .u8 1,.int .i64 1,.string ⟨#[]⟩,.slice none 0 0] 41)).alloc (.cells #[.int .u8 40,.int .i64 0,.string ⟨#[]⟩,.slice (some ⟨N+1,0,none⟩) 2 2] 41));rw[hw1]at hb1 hz1 k0 k1 k2;rw[hN]at hz1 k0 k1 k2;have HB1:=zh hb1;have HZ1:=zh hz1;have aG:=zh k0;have aB:=zh k1;have aT:=zh k2;clear hb1 hz1 k0 k1 k2 al;go_enter func9,ntmps9;go_upto_region 5 with fail
 try rw[hw1]
 simp only[Nat.add_assoc,Nat.reduceAdd];clear hw1;have az:=zh (show ∀w',Below w1.heap.size w1 w'->(fun w':World=>zN4 w' (N+2) (.int .u8 40) (.int .i64 0) (.string xS) (.slice (some ⟨N+1,0,none⟩) 2 2)) w' from fun w' hb=>box4 (zkc aT.out hb));have hSS:zW (fun w':World=>zN4 w' (N+2) (.int .u8 40) (.int .i64 0) (.string xS) (.slice (some ⟨N+1,0,none⟩) 2 2)) zU w1.drew:=⟨az.out _ zr.drew,trivial⟩
 have h6:=bSVG;have h7:=bVdG;have h8:=bPgG;refine wp_region_noPanic ?_;refine zG hSS 19 ?_;refine zT 0 hSS ?_;refine zT 2 hSS ?_;refine zT 3 hSS ?_;refine zT 5 hSS ?_;refine zT 6 hSS ?_;refine zT 9 hSS ?_;refine zT 11 hSS ?_;have hI:(fun w=>Below w1.heap.size w1 w) w1.drew:=zr.drew;clear hSS;refine zoQ (T:=[(1,18),(4,21),(7,24),(8,25),(10,27),(12,29),(13,30),(14,31),(15,32),(16,33),(17,34),(18,5)]) (z:=19) (n:=20) akD 1 (fun w=>Below w1.heap.size w1 w) (akF w1.heap.size) (by kernel_rfl) (by kernel_rfl) (by simp only[putP,Act.put,zD,zE,zF]) (by decide) (by kernel_rfl) (by kernel_rfl) (fun w h=>⟨az.out _ h,trivial⟩) (fun w w' h hb=>zka h hb) (fun i v ds w w' h hb=>zvh i h hb) (fun q hq=>?_) (fun vs w2 hb2 hF=>?_) w1.drew hI
 ·simp only[List.mem_cons,List.not_mem_nil,or_false]at hq;rcases hq with rfl|rfl|rfl|rfl|rfl|rfl|rfl|rfl|rfl|rfl|rfl|rfl
  ·intro oi hoi vs K w2 hb2 hd aa;obtain rfl:=Option.some.inj hoi;simp only[putP,Act.put,zA,zB,zC,zD,zE,zF]at aa ⊢;have hK:=zh aa;clear aa hoi;go_simp;exact hK.out _ _ (zkb zr _) ⟨w2.heap.size,rfl,heap_alloc_new w2 _⟩
  ·intro oi hoi vs K w2 hb2 hd aa;generalize bG:putP vs [(1,18),(4,21),(7,24),(8,25),(10,27),(12,29),(13,30),(14,31),(15,32),(16,33),(17,34),(18,5)] _=AC at aa ⊢;have hK:=zh aa;clear aa;have had:Calls prog 40 ([.int .i64 1].toArray ++ #[.pointer (some ⟨N,0,none⟩)]) w2 fun e w'=>∃v,e=.returned v/\((∃b,v=nv 16 0 xS (some ⟨b,0,none⟩) 2 2/\NV w' Any (exE 1) (nv 16 0 xS (some ⟨b,0,none⟩) 2 2))/\Below w2.heap.size w2 w') :=
    (ztQ 1 ⟨by decide,by decide⟩ N w2 (zkc aG.out hb2)).mono fun e w' ⟨b,h1,h2,h3⟩=>⟨_,h1,⟨b,rfl,h2⟩,h3⟩
   refine zkU hoi (.tmp 20) [.const (.int .i64 1)] #[3] (by kernel_rfl) (by kernel_rfl) 40 _ zzW #[.pointer (some ⟨N,0,none⟩)] (by rw[<-bG];kernel_rfl) _ (by rw[<-bG];kernel_rfl) _ had ?_;rintro v w3 ⟨hv,hb3⟩;exact hK.out _ _ hb3 hv
  ·intro oi hoi vs K w2 hb2 hd aa;obtain rfl:=Option.some.inj hoi;simp only[putP,Act.put,zA,zB,zC,zD,zE,zF]at aa ⊢;have hK:=zh aa;clear aa hoi;go_simp;have bB:=zkb (zs w2) (.cells #[.int .u8 40,.int .i64 0,.string xS,.slice (some ⟨N+1,0,none⟩) 2 2] 41);exact hK.out _ _ bB ⟨w2.heap.size,rfl,zKu (fldG 57 0 (by decide) ⟨by decide,by decide⟩) trivial (heap_alloc_new w2 _) (zKt (fldG 40 0 (by decide) ⟨by decide,by decide⟩) trivial (zkc (zkc aB.out hb2) bB) (zni _ Any fldX) (zni _ Any (fldG 1 1 (by decide) ⟨by decide,by decide⟩)))⟩
  ·intro oi hoi vs K w2 hb2 hd aa;generalize bG:putP vs [(1,18),(4,21),(7,24),(8,25),(10,27),(12,29),(13,30),(14,31),(15,32),(16,33),(17,34),(18,5)] _=AC at aa ⊢;have hK:=zh aa;clear aa;obtain⟨b,hv7,oC⟩:=hd 7 (by decide);have had:Calls prog 41 ([vs 7].toArray ++ #[]) w2 fun e w'=>∃v,e=.returned v/\((∃b,v=nv 57 0 xS (some ⟨b,0,none⟩) 1 1/\NV w' Any ak8 (nv 57 0 xS (some ⟨b,0,none⟩) 1 1))/\Below w2.heap.size w2 w'):=by
    rw[hv7];exact(zpz _ _ _ w2).mono fun e w' ⟨h1,h3⟩=>⟨_,h1,⟨b,rfl,oC.later h3⟩,h3⟩
   refine zkU hoi (.tmp 22) [.tmp 24] #[39] (by kernel_rfl) (by kernel_rfl) 41 _ zyL #[] (by rw[<-bG];kernel_rfl) _ (by rw[<-bG];kernel_rfl) _ had ?_;rintro v w3 ⟨hv,hb3⟩;exact hK.out _ _ hb3 hv
  ·intro oi hoi vs K w2 hb2 hd aa;generalize bG:putP vs [(1,18),(4,21),(7,24),(8,25),(10,27),(12,29),(13,30),(14,31),(15,32),(16,33),(17,34),(18,5)] _=AC at aa ⊢;have hK:=zh aa;clear aa;have had:Calls prog 41 ([.slice none 0 0].toArray ++ #[]) w2 fun e w'=>∃v,e=.returned v/\(v=nv 57 0 xS none 0 0/\Below w2.heap.size w2 w') :=
    (zpz _ _ _ w2).mono fun e w' ⟨h1,h3⟩=>⟨_,h1,rfl,h3⟩
   refine zkU hoi (.tmp 26) [.const (.slice none 0 0)] #[39] (by kernel_rfl) (by kernel_rfl) 41 _ zyL #[] (by rw[<-bG];kernel_rfl) _ (by rw[<-bG];kernel_rfl) _ had ?_;rintro v w3 ⟨hv,hb3⟩;exact hK.out _ _ hb3 hv
  ·intro oi hoi vs K w2 hb2 hd aa;generalize bG:putP vs [(1,18),(4,21),(7,24),(8,25),(10,27),(12,29),(13,30),(14,31),(15,32),(16,33),(17,34),(18,5)] _=AC at aa ⊢;have hK:=zh aa;clear aa;have had:Calls prog 40 ([.int .i64 2].toArray ++ #[.pointer (some ⟨N,0,none⟩)]) w2 fun e w'=>∃v,e=.returned v/\((∃b,v=nv 16 0 xS (some ⟨b,0,none⟩) 2 2/\NV w' Any (exE 2) (nv 16 0 xS (some ⟨b,0,none⟩) 2 2))/\Below w2.heap.size w2 w') :=
    (ztQ 2 ⟨by decide,by decide⟩ N w2 (zkc aG.out hb2)).mono fun e w' ⟨b,h1,h2,h3⟩=>⟨_,h1,⟨b,rfl,h2⟩,h3⟩
   refine zkU hoi (.tmp 28) [.const (.int .i64 2)] #[3] (by kernel_rfl) (by kernel_rfl) 40 _ zzW #[.pointer (some ⟨N,0,none⟩)] (by rw[<-bG];kernel_rfl) _ (by rw[<-bG];kernel_rfl) _ had ?_;rintro v w3 ⟨hv,hb3⟩;exact hK.out _ _ hb3 hv
  ·intro oi hoi vs K w2 hb2 hd aa;obtain rfl:=Option.some.inj hoi;simp only[putP,Act.put,zA,zB,zC,zD,zE,zF]at aa ⊢;have hK:=zh aa;clear aa hoi;obtain⟨b4,hv4,qW⟩:=hd 4 (by decide);obtain⟨b8,hv8,hn8⟩:=hd 8 (by decide);have hv10:vs 10=nv 57 0 xS none 0 0:=hd 10 (by decide);obtain⟨b12,mq,hn12⟩:=hd 12 (by decide);rw[hv4,hv8,hv10,mq]at hK ⊢;have hq:=zKV;go_simp;have bB:=fun o=>zkb (zs w2) o;exact hK.out _ _ (bB _) ⟨w2.heap.size,rfl,zK6 (fldG 52 0 (by decide) ⟨by decide,by decide⟩) trivial (heap_alloc_new w2 _) (qW.later (bB _)) (hn8.later (bB _)) (zni _ Any (fldG 57 0 (by decide) ⟨by decide,by decide⟩)) (hn12.later (bB _))⟩
  ·intro oi hoi vs K w2 hb2 hd aa;obtain rfl:=Option.some.inj hoi;simp only[putP,Act.put,zA,zB,zC,zD,zE,zF]at aa ⊢;have hK:=zh aa;clear aa hoi;obtain⟨b13,hv13,hn13⟩:=hd 13 (by decide);rw[hv13]at hK ⊢;go_simp;exact hK.out _ _ zr ⟨b13,rfl,hn13⟩
  ·intro oi hoi vs K w2 hb2 hd aa;obtain rfl:=Option.some.inj hoi;simp only[putP,Act.put,zA,zB,zC,zD,zE,zF]at aa ⊢;have hK:=zh aa;clear aa hoi;obtain⟨b14,hv14,hn14⟩:=hd 14 (by decide);rw[hv14]at hK ⊢;go_simp;have bB:=fun o=>zkb (zs w2) o;exact hK.out _ _ (bB _) ⟨w2.heap.size,rfl,zKu (fldG 57 0 (by decide) ⟨by decide,by decide⟩) trivial (heap_alloc_new w2 _) (hn14.later (bB _))⟩
  ·intro oi hoi vs K w2 hb2 hd aa;generalize bG:putP vs [(1,18),(4,21),(7,24),(8,25),(10,27),(12,29),(13,30),(14,31),(15,32),(16,33),(17,34),(18,5)] _=AC at aa ⊢;have hK:=zh aa;clear aa;obtain⟨b,hv7,oC⟩:=hd 15 (by decide);have had:Calls prog 41 ([vs 15].toArray ++ #[]) w2 fun e w'=>∃v,e=.returned v/\((∃b,v=nv 57 0 xS (some ⟨b,0,none⟩) 1 1/\NV w' Any ak16 (nv 57 0 xS (some ⟨b,0,none⟩) 1 1))/\Below w2.heap.size w2 w'):=by
    rw[hv7];exact(zpz _ _ _ w2).mono fun e w' ⟨h1,h3⟩=>⟨_,h1,⟨b,rfl,oC.later h3⟩,h3⟩
   refine zkU hoi (.tmp 19) [.tmp 32] #[39] (by kernel_rfl) (by kernel_rfl) 41 _ zyL #[] (by rw[<-bG];kernel_rfl) _ (by rw[<-bG];kernel_rfl) _ had ?_;rintro v w3 ⟨hv,hb3⟩;exact hK.out _ _ hb3 hv
  ·intro oi hoi vs K w2 hb2 hd aa;obtain rfl:=Option.some.inj hoi;simp only[putP,Act.put,zA,zB,zC,zD,zE,zF]at aa ⊢;have hK:=zh aa;clear aa hoi;obtain⟨b1,hv1,hn1⟩:=hd 1 (by decide);obtain⟨b16,hv16,hn16⟩:=hd 16 (by decide);rw[hv1,hv16]at hK ⊢;go_simp;exact hK.out _ _ zr ⟨b1,b16,rfl,hn1,hn16⟩
  ·intro oi hoi vs K w2 hb2 hd aa;obtain rfl:=Option.some.inj hoi;simp only[putP,Act.put,zA,zB,zC,zD,zE,zF]at aa ⊢;have hK:=zh aa;clear aa hoi;go_simp;exact hK.out _ _ (zkb zr _) ⟨w2.heap.size,rfl,hb2.size,heap_alloc_new w2 _⟩
 ·obtain⟨vb,nb,sJ,pM,hnm⟩:=hF (17,34) (by decide);obtain⟨pb,sI,hpb,hkz⟩:=hF (18,5) (by decide);clear hF;simp only[putP,Act.put,zD,zE,zF];simp only at sJ sI;rw[sJ,sI];generalize vs 1=v1;generalize vs 4=v4;generalize vs 7=v7;generalize vs 8=v8;generalize vs 10=v10;generalize vs 12=v12;generalize vs 13=v13;generalize vs 14=v14;generalize vs 15=v15;generalize vs 16=v16;clear sJ sI;obtain⟨q0,q1,q2,q3,q4,q5⟩:=box6 hkz;have cf:∀o,w2.frozen? ⟨pb,o,none⟩=false:=fun o=>zf hkz;obtain⟨hh,hch⟩:=zKz (u0:=.slice (some ⟨vb,0,none⟩) 1 1) (u1:=.slice none 0 0) (u2:=.int .u8 57) (u3:=.int .i64 0) (u4:=.string xS) (u5:=.slice (some ⟨nb,0,none⟩) 1 1) hkz
  obtain⟨w3,hw3⟩:=zX ((((((w2.setCell ⟨pb,0,none⟩ (.slice (some ⟨vb,0,none⟩) 1 1)).setCell ⟨pb,1,none⟩ (.slice none 0 0)).setCell ⟨pb,2,none⟩ (.int .u8 57)).setCell ⟨pb,3,none⟩ (.int .i64 0)).setCell ⟨pb,4,none⟩ (.string xS)).setCell ⟨pb,5,none⟩ (.slice (some ⟨nb,0,none⟩) 1 1));rw[hw3]at hh hch;have sQ:=(NV.nz6 hkz zK3 _ _ hnm (by decide)).keep (w':=w3) (S':=Any) (fun _ _ _=>trivial) fun q h hlt=>hch.block q hlt h;have hkv3:akV w3 vb:=hch.keep pM fun e=>by
   have e:vb=pb:=e;subst e;have:=pM.symm.trans hkz;injection this with this;injection this with this;simp at this
  have hb3:=hb2.trans (hch.below hb2.size fun q e=>by have e:q=pb:=e;omega);have nI:=zh hh;have HNM:=zh sQ;have yV:=zh hkv3;have HB3:=zh hb3;clear pM hkz hnm hh hch sQ hkv3 hpb;refine zp 19 fun K hK=>?_;(try simp only[zA,zB,zC]);go_simp;refine hK.out _ _ (az.out _ HB3.out) ?_;clear hK K q0 q1 q2 q3 q4 q5 cf hb3 hb2 hw3;(try simp only[zQ]);refine zd ?_;refine NoPanic.normal ?_;have iD:=zh (show PV w3 Any exP (pv (some ⟨vb,0,none⟩) 1 1 none 0 0 57 0 xS (some ⟨nb,0,none⟩) 1 1)from⟨some ⟨vb,0,none⟩,1,none,0,some ⟨nb,0,none⟩,1,rfl,⟨fun i hi=>by
   obtain rfl:i=0:=by simp[exP]at hi;omega
   exact⟨⟨vb,0,none⟩,rfl,trivial,⟨zc yV.out rfl,zc yV.out rfl,zc yV.out rfl⟩,show FldV ⟨exX,1,0⟩from⟨by decide,by decide,by decide⟩⟩,by decide,by decide,fun i hi=>by simp[exP]at hi,by decide,by decide,HNM.out⟩⟩)
  obtain⟨p0,p1,p2,p3,p4,p5⟩:=box6 nI.out;have Cs:=zh (zrE (b:=exB) (e:=15) (F:=9) iD.out zzh zvg ⟨by decide,by decide⟩ (by decide));rw[zzj]at Cs;have hbx:=zK1;clear az h1 h2 h3 h4 h5 h6 h7 h8 pI yV HNM aG aB aT;go_wp2_with fail;refine Cs.out.mono ?_;rintro e' w4 ⟨hb4,v4',rfl,hs4⟩;obtain⟨ca,cc,D,D2,d1,d2,ia,ic,rfl,hc0,hc1⟩:=zqi hs4;have hb5:=zkb hb4 (.cells #[.slice (some ca) 1 cc,.slice D 0 d1,.slice D2 0 d2] 32);have k6:=heap_alloc_new w4 (.cells #[.slice (some ca) 1 cc,.slice D 0 d1,.slice D2 0 d2] 32);have bB:=zkb (zs w4) (.cells #[.slice (some ca) 1 cc,.slice D 0 d1,.slice D2 0 d2] 32);obtain⟨w5,iH⟩:=zX (w4.alloc (.cells #[.slice (some ca) 1 cc,.slice D 0 d1,.slice D2 0 d2] 32));obtain⟨sb,hsb⟩:=zX (w4.heap.size);rw[iH]at hb5 k6 bB;rw[hsb]at k6;have aQ:=zh (HB3.out.trans (hb5.mono HB3.out.size));have uJ:=zh (zkc nI.out hb5)
  have dX:=zh k6;have bA:=zh (And.intro (zb bB hc0) (zb bB hc1));have uL:=zh (iD.out.later hb5);clear p0 p1 p2 p3 p4 p5 hb4 hs4 hc0 hc1 hb5 k6 bB Cs nI iD;obtain⟨p0,p1,p2,p3,p4,p5⟩:=box6 uJ.out;have HOU:=zh (zqZ (b:=exB) (F:=9) uL.out zzh zvg ⟨by decide,by decide⟩ (by decide));go_wp2_with fail
  try simp only[iH,hsb]
  clear iH;refine HOU.out.mono ?_;rintro e' w6 ⟨hb6,mb,rfl,hmb,jX⟩;have aW:=zh (zka aQ.out hb6);have HPX6:=zh (zkc uJ.out hb6);have HK66:=zh (zkc dX.out hb6);have lG:=zh (And.intro (zb hb6 bA.out.1) (zb hb6 bA.out.2));have uK:=zh (uL.out.later hb6);have qz:=zh jX;clear p0 p1 p2 p3 p4 p5 hb6 hmb jX HOU uJ uL dX bA;obtain⟨p0,p1,p2,p3,p4,p5⟩:=box6 HPX6.out;have wE:=zh (zpt (b:=exB) (F:=9) uK.out uK.out zzh zvg ⟨by decide,by decide⟩ (by decide));rw[zKj]at wE;go_wp2_with fail;refine wE.out.mono ?_;rintro e' w7 ⟨dx,v7',rfl,hs7⟩;obtain⟨B1,f1,B2,f2,B3,f3,rfl,-⟩:=hs7;have bu:=zkb dx (.cells #[.slice B1 nilS.cells.length f1,.slice B2 nilS.tin.length f2,.slice B3 nilS.tout.length f3] 32);have dZ:=zh (aW.out.trans (bu.mono aW.out.size));have bE:=zkc HK66.out bu;obtain⟨x0,x1,x2⟩:=zkz bE;have hc0:=zb bu lG.out.1
  have hc1:=zb bu lG.out.2;have hd0:(w7.alloc (.cells #[.slice B1 nilS.cells.length f1,.slice B2 nilS.tin.length f2,.slice B3 nilS.tout.length f3] 32)).cell? ca=some (.slice (some ia) 1 ic):=by rw[<-Addr.add_zero' ca];exact hc0
  have hd1:(w7.alloc (.cells #[.slice B1 nilS.cells.length f1,.slice B2 nilS.tin.length f2,.slice B3 nilS.tout.length f3] 32)).cell? ia=some (.int .i64 2):=by rw[<-Addr.add_zero' ia];exact hc1
  have pE:=qz.out.keep (bu.block mb qz.out.lt);have hl0:=pE.look (k:=0) ⟨by decide,by decide⟩;have hl15:=pE.look (k:=15) ⟨by decide,by decide⟩;have hlen:=fun ty=>pE.len ty;rw[zK2]at hl0;rw[zKk]at hl15;rw[zzi]at hlen;clear p0 p1 p2 p3 p4 p5 bE pE wE qz HPX6 uK;clear dx bu;go_wp2_with fail;go_ret;exact⟨by trivial,zka HB1.out dZ.out⟩
end
section
open Go Go.RowKit
attribute [local go_sem] Oper.semAt_some
theorem al4F(W:World)(o0 o1 o2 o3:Obj):Below W.heap.size W ((((W.alloc o0).alloc o1).alloc o2).alloc o3)/\((((W.alloc o0).alloc o1).alloc o2).alloc o3).heap.size=W.heap.size+4/\((((W.alloc o0).alloc o1).alloc o2).alloc o3).heap[W.heap.size]?=some o0/\((((W.alloc o0).alloc o1).alloc o2).alloc o3).heap[W.heap.size+1]?=some o1/\((((W.alloc o0).alloc o1).alloc o2).alloc o3).heap[W.heap.size+2]?=some o2/\((((W.alloc o0).alloc o1).alloc o2).alloc o3).heap[W.heap.size+3]?=some o3 :=
 ⟨zkb (zkb (zkb (zkb zr _) _) _) _,by simp,zke (zke (zke (zln _ rfl _) _) _) _,zke (zke (zln _ (by simp) _) _) _,zke (zln _ (by simp) _) _,zln _ (by simp) _⟩
def slF(N0:Nat)(s:SS):Nat->Value->List Value->World->Prop
 | 3,v,_,w=>zkr w N0 (fun q=>q<N0) v s.cells
 | 6,v,_,w=>zkr w N0 (fun q=>q<N0) v [s.tin]
 | 7,v,_,w=>zkr w N0 (fun q=>q<N0) v (s.cells++[s.tin])
 | 8,v,_,_=>v=.int .i64 (((s.cells++[s.tin]).length:Nat):Int)
 | _,v,_,w=>zkr w N0 (fun q=>q<N0) v []
def slD:Nat->List Nat
 | 3=>[0]|7=>[3,6]|8=>[7]|_=>[]
def slC:Nat->List Nat
 | 3=>[0]|7=>[3]|_=>[]
def slO:Nat->Value->Option Nat
 | 8,_=>none
 | _,v=>v.ownBlock
theorem zyk{N0:Nat}{s:SS}(i:Nat)(v:Value)(ds:List Value)(w w':World)(C:Nat->Prop)(h:slF N0 s i v ds w)(hc:Chg C w w')(hC:∀b,C b->N0<=b/\∃i,slC i≠[])(ho:∀b,slO i v=some b->¬ C b):slF N0 s i v ds w':=by
 unfold slF at h ⊢;unfold slO at ho
 split at h<;>first|exact zkr.chg h (fun _ h=>h) hc (fun b hb=>(hC b hb).1) ho|exact h|skip
 rename_i h1 h2 h3 h4
 split at ho
 ·exact absurd rfl h4
 ·exact zkr.chg h (fun _ h=>h) hc (fun b hb=>(hC b hb).1) ho
theorem zzI{w:World}{S:Nat->Prop}{B:Option Addr}{x:List Int}{l2 d:Nat}(h2:x.length=l2)(r2:RowI w S B x)(c2:x.length<=d) :
  ∀k (hk:k<[x].length) (hv:k<[Value.slice B l2 d].length),∃A c,[Value.slice B l2 d][k]=.slice A [x][k].length c/\[x][k].length<=c/\RowI w S A [x][k]:=by
 subst h2;intro k hk hv;obtain rfl:k=0:=by simpa using hk
 exact⟨B,d,rfl,c2,r2⟩
def slG(n0:Nat)(R1 R2:SS×Nat×Int×List Nat):Nat->Value->List Value->World->Prop
 | 3,v,_,w=>FwV n0 R1 v w
 | 7,v,_,w=>FwV n0 R2 v w
 | _,v,_,w=>∃b,v=.pointer (some ⟨b,0,none⟩)/\n0<=b/\w.heap[b]?=some (.cells #[.slice none 0 0,.slice none 0 0,.slice none 0 0,.int .i64 0,.int .i64 0] 59 (0,0))
def slB:Nat->Value->Option Nat
 | 3,_|7,_=>none
 | _,.pointer (some a)=>some a.block
 | _,_=>none
theorem FwV.later{n:Nat}{R:SS×Nat×Int×List Nat}{x:Value}{w w':World}(h:FwV n R x w)(hb:Below w.heap.size w w'):FwV n R x w':=by
 obtain⟨A,c,B,d,D,g,rfl,h1,h2⟩:=h;exact⟨A,c,B,d,D,g,rfl,h1.later hb,h2⟩
theorem ztO{n0:Nat}{R1 R2:SS×Nat×Int×List Nat}(i:Nat)(v:Value)(ds:List Value)(w w':World)(h:slG n0 R1 R2 i v ds w)(hb:Below w.heap.size w w'):slG n0 R1 R2 i v ds w':=by
 unfold slG at h ⊢
 split at h
 ·exact FwV.later h hb
 ·exact FwV.later h hb
 ·obtain⟨b,h1,h2,h3⟩:=h;exact⟨b,h1,h2,zkc h3 hb⟩
def OkRw(vs:List VD)(b:BX)(k:Nat)(l:List Int):Prop:=(∀h:k<vs.length,vs[k].k=3->(l.length:Int)<=b.l)/\∀x∈l,-b.v<=x/\x<=b.v
theorem zyu{vs:List VD}{b:BX}(h:(b.ok&&svB vs)=true){s:SS}(hf:fitB vs s=true)(ho:s.tout=[])(hi:(s.tin.length:Int)<=b.i)
  (hk:∀k (hk:k<(s.cells++[s.tin]).length),OkRw vs b k (s.cells++[s.tin])[k]):s∈allS b (lenE vs b):=by
 have hc:∀k (hs:k<s.cells.length),OkRw vs b k s.cells[k]:=fun k hs=>by
  have:=hk k (by simp;omega);rwa[List.getElem_append_left hs]at this
 refine zup h hf ho hi (fun i hv hs h3=>(hc i hs).1 hv h3) ⟨fun l hl=>?_,?_⟩
 ·obtain⟨k,hk,rfl⟩:=List.mem_iff_getElem.1 hl;exact(hc k hk).2
 ·have:=(hk s.cells.length (by simp)).2;simpa using this
theorem ztg{W:World}{p q:PG}{b:BX}{s:SS}{F:Int}{v u sv:Value}(hp:PV W Any p v)(hq:PV W Any q u)(hs:SV W Any s sv)(hF:I64 F) :
  Calls prog 5 #[v,u,.agg #[.int .i64 b.v,.int .i64 b.l,.int .i64 b.i],sv,.int .i64 F] W fun en w'=>en=.returned (.bool true)/\Below W.heap.size W w':=by
 have uN:=zh (show ∀l∈s.cells++[s.tin],l.length<=17592186044416 from fun l hl=>zKy hs l (by simp only[List.mem_append,List.mem_cons,List.not_mem_nil,or_false]at hl ⊢;rcases hl with h|h<;>simp[h]));have iD:=zh (fun w' (h:Below W.heap.size W w')=>hp.later h);have yQ:=zh (fun w' (h:Below W.heap.size W w')=>hq.later h);have ku:=zh (fun w' (h:Below W.heap.size W w')=>hs.later h);obtain⟨A1,c1,A2,c2,A3,c3,rfl,dP⟩:=hp;obtain⟨D1,e1,D2,e2,D3,e3,rfl,hqg⟩:=hq;obtain⟨A,c,B,d,D,e,rfl,a1,a2,a3,a4,a5,a6,-⟩:=hs;have xG:=zh dP;have HQG:=zh hqg;obtain⟨l1,hl1⟩:=zX (s.cells.length);obtain⟨l2,hl2⟩:=zX (s.tin.length);obtain⟨l3,hl3⟩:=zX (s.tout.length);have bO:=zh (And.intro hl1 (And.intro hl2 hl3));simp only[hl1,hl2,hl3]at ku ⊢
 obtain⟨hb2,hz2,k0,k1,k2,k3⟩:=al4F W (.cells (pgA p A1 c1 A2 c2 A3 c3) 43) (.cells (pgA q D1 e1 D2 e2 D3 e3) 43) (.cells #[.int .i64 b.v,.int .i64 b.l,.int .i64 b.i] 24) (.cells #[.slice A l1 c,.slice B l2 d,.slice D l3 e] 32);obtain⟨w2,hw2⟩:=zX ((((W.alloc (.cells (pgA p A1 c1 A2 c2 A3 c3) 43)).alloc (.cells (pgA q D1 e1 D2 e2 D3 e3) 43)).alloc (.cells #[.int .i64 b.v,.int .i64 b.l,.int .i64 b.i] 24)).alloc (.cells #[.slice A l1 c,.slice B l2 d,.slice D l3 e] 32));obtain⟨N,hN⟩:=zX (W.heap.size);rw[hw2]at hb2 hz2 k0 k1 k2 k3;have HN:=zh hN;rw[hN]at hz2 k0 k1 k2 k3;have HZ2:=zh hz2
 have HF:=zh (fun w' (h:Below w2.heap.size w2 w')=>(⟨box6 (zkc k0 h),box6 (zkc k1 h),zkz (zkc k2 h),zkz (zkc k3 h)⟩:pgS w' N p A1 c1 A2 c2 A3 c3/\pgS w' (N+1) q D1 e1 D2 e2 D3 e3/\(w'.cell? ⟨N+2,0,none⟩=some (.int .i64 b.v)/\w'.cell? ⟨N+2,1,none⟩=some (.int .i64 b.l)/\w'.cell? ⟨N+2,2,none⟩=some (.int .i64 b.i))/\stC w' (N+3) A l1 c B l2 d D l3 e));have vU:=zh (fun w' (h:Below w2.heap.size w2 w')=>iD.out _ (zka hb2 h));have BQ:=zh (fun w' (h:Below w2.heap.size w2 w')=>yQ.out _ (zka hb2 h));have az:=zh (fun w' (h:Below w2.heap.size w2 w')=>ku.out _ (zka hb2 h));have dH:=zh (fun w' (h:Below w2.heap.size w2 w')=>zka hb2 h);have dS:=zh (zs w2);have HR1:=zh (fun w' (h:Below w2.heap.size w2 w')=>zrX p b F _ w' (vU.out _ h) hF);have HR2:=zh (fun w' (h:Below w2.heap.size w2 w')=>zrX q b F _ w' (BQ.out _ h) hF)
 have bz:=zh (fun w' (h:Below w2.heap.size w2 w')=>zsA p.vs s A1 c1 _ w' (dP.vars.later (zka hb2 h)) dP.lv (az.out _ h));have gV:=zh (fun w' (h:Below w2.heap.size w2 w')=>zxk (c:=c1) (d:=e1) (dP.vars.later (zka hb2 h)) (hqg.vars.later (zka hb2 h)) dP.lv hqg.lv);have qQ:=zh zsM;have uT:=zh hF;have HA1:=zh (show zlj w2 (fun q=>q<N+4) A s.cells from(a1.keep (S':=fun q=>q<N+4) (fun q _ h=>by omega) fun _ _ _=>rfl).later hb2);have HA2:=zh (show RowI w2 (fun q=>q<N+4) B s.tin/\s.tin.length<=d from⟨(a2.keep (S':=fun q=>q<N+4) (fun q _ h=>by omega) fun _ _ _=>rfl).later hb2,a5⟩);obtain⟨FB,Bj⟩:=zX (fitB p.vs s);have bS:=zh Bj;simp only[Bj]at bz;obtain⟨VE,AR⟩:=zX (eqVs p.vs q.vs);have BH:=zh AR;simp only[AR]at gV;clear hb2 hz2 k0 k1 k2 k3 dP hqg hF a1 a2 a3 a4 a5 a6 Bj AR hl1 hl2 hl3
 obtain⟨⟨p0,p1,p2,p3,p4,p5⟩,⟨q0,q1,q2,q3,q4,q5⟩,⟨x0,x1,x2⟩,y0,y1,y2⟩:=HF.out _ dS.out;go_enter func5,ntmps5;go_upto_region 1 with fail
 try rw[hw2]
 try rw[hN]
 try simp only[Nat.add_assoc,Nat.reduceAdd]
 clear hw2 hN;go_wp2_with fail;refine(HR1.out _ dS.out).mono ?_;rintro en w3 ⟨hb3,A4,n4,c4,ok1,rfl,hr1⟩;have fF:=zh (zka dS.out hb3);have xI:=zh hr1;clear hb3 hr1;clear p0 p1 p2 p3 p4 p5 q0 q1 q2 q3 q4 q5 x0 x1 x2 y0 y1 y2;obtain⟨⟨p0,p1,p2,p3,p4,p5⟩,⟨q0,q1,q2,q3,q4,q5⟩,⟨x0,x1,x2⟩,y0,y1,y2⟩:=HF.out _ fF.out;go_wp2_with fail;refine(HR2.out _ fF.out).mono ?_;rintro en w4 ⟨hb4,A5,n5,c5,ok2,rfl,hr2⟩;have qP:=zh (zka fF.out hb4);have vX:=zh hr2;clear hb4 hr2;clear p0 p1 p2 p3 p4 p5 q0 q1 q2 q3 q4 q5 x0 x1 x2 y0 y1 y2;obtain⟨⟨p0,p1,p2,p3,p4,p5⟩,⟨q0,q1,q2,q3,q4,q5⟩,⟨x0,x1,x2⟩,y0,y1,y2⟩:=HF.out _ qP.out;go_wp2_with fail;refine(qQ.out _).mono ?_;rintro en w5 ⟨rfl,hb5⟩;have eH:=zh (zka qP.out hb5);clear hb5;clear p0 p1 p2 p3 p4 p5 q0 q1 q2 q3 q4 q5 x0 x1 x2 y0 y1 y2;obtain⟨⟨p0,p1,p2,p3,p4,p5⟩,⟨q0,q1,q2,q3,q4,q5⟩,⟨x0,x1,x2⟩,y0,y1,y2⟩:=HF.out _ eH.out
 cases ok1
 ·skip
  go_wp2_with fail;refine(qQ.out _).mono ?_;rintro en w7 ⟨rfl,dx⟩;have nY:=zh (zka eH.out dx);clear dx;go_wp2_with fail;go_ret;exact⟨rfl,dH.out _ nY.out⟩
 cases ok2
 ·skip
  go_wp2_with fail;refine(qQ.out _).mono ?_;rintro en w7 ⟨rfl,dx⟩;have nY:=zh (zka eH.out dx);clear dx;go_wp2_with fail;go_ret;exact⟨rfl,dH.out _ nY.out⟩
 have lY:=zh (xI.out rfl);have lg:=zh (vX.out rfl);clear xI vX;go_wp2_with fail;refine(bz.out _ eH.out).mono ?_;rintro en w6 ⟨rfl,hb6⟩;have lG:=zh (zka eH.out hb6);clear hb6;clear p0 p1 p2 p3 p4 p5 q0 q1 q2 q3 q4 q5 x0 x1 x2 y0 y1 y2;obtain⟨⟨p0,p1,p2,p3,p4,p5⟩,⟨q0,q1,q2,q3,q4,q5⟩,⟨x0,x1,x2⟩,y0,y1,y2⟩:=HF.out _ lG.out
 cases FB
 ·skip
  go_wp2_with fail;refine(qQ.out _).mono ?_;rintro en w7 ⟨rfl,dx⟩;have nY:=zh (zka lG.out dx);clear dx;go_wp2_with fail;go_ret;exact⟨rfl,dH.out _ nY.out⟩
 go_wp2_with fail;refine(gV.out _ lG.out).mono ?_;rintro en w8 ⟨rfl,bu⟩;have qO:=zh (zka lG.out bu);clear bu;clear p0 p1 p2 p3 p4 p5 q0 q1 q2 q3 q4 q5 x0 x1 x2 y0 y1 y2;obtain⟨⟨p0,p1,p2,p3,p4,p5⟩,⟨q0,q1,q2,q3,q4,q5⟩,⟨x0,x1,x2⟩,y0,y1,y2⟩:=HF.out _ qO.out;have dB:=zh (show s.cells.length<=100 by have h1:=(zm8 bS.out).2.1;have h2:=lY.out.2.1;omega)
 cases VE
 ·skip
  go_wp2_with fail;refine(qQ.out _).mono ?_;rintro en w7 ⟨rfl,dx⟩;have nY:=zh (zka qO.out dx);clear dx;go_wp2_with fail;go_ret;exact⟨rfl,dH.out _ nY.out⟩
 by_cases ht:l3=0;rotate_left 1
 ·have ht1:(0:Int)<(l3:Int):=by omega
  go_wp2_with fail;refine(qQ.out _).mono ?_;rintro en w7 ⟨rfl,dx⟩;have nY:=zh (zka qO.out dx);clear dx;go_wp2_with fail;go_ret;exact⟨rfl,dH.out _ nY.out⟩
 subst ht;have ht1:¬ (0:Int)<((0:Nat):Int):=by omega
 have HTO:=zh (show s.tout=[]from List.eq_nil_of_length_eq_zero bO.out.2.2);by_cases hi:b.i<(l2:Int)
 ·skip
  go_wp2_with fail;refine(qQ.out _).mono ?_;rintro en w7 ⟨rfl,dx⟩;have nY:=zh (zka qO.out dx);clear dx;go_wp2_with fail;go_ret;exact⟨rfl,dH.out _ nY.out⟩
 have HTI:=zh (show(s.tin.length:Int)<=b.i by rw[bO.out.2.1];omega);have BV:=zh (zlm (by have:=lY.out.2.2.1;simp only[Bool.and_eq_true]at this;exact this.1));go_upto_region 5 with fail;obtain⟨M,hM⟩:=zX (w8.heap.size);have HM:=zh hM;have hNM:N+4<=M:=by have:=qO.out.size;have:=HZ2.out;omega
 have HB1:=zh (show zlj w8 (fun q=>q<M) A s.cells from(HA1.out.keep (S':=fun q=>q<M) (fun q h _=>by have:q<N+4:=h;omega) fun _ _ _=>rfl).later qO.out);have HB2:=zh (show RowI w8 (fun q=>q<M) B s.tin from(HA2.out.1.keep (S':=fun q=>q<M) (fun q h _=>by have:q<N+4:=h;omega) fun _ _ _=>rfl).later qO.out);clear p0 p1 p2 p3 p4 p5 q0 q1 q2 q3 q4 q5 x0 x1 x2 y0 y1 y2 hM hi ht1;have sZ:∀w,Below M w8 w->Below w8.heap.size w8 w:=fun w h=>by rw[HM.out];exact h
 have hsz:∀w,Below M w8 w->M<=w.heap.size:=fun w h=>by have:=h.size;have:=HM.out;omega
 have HST:=zh (fun w (h:Below M w8 w)=>(HF.out w (zka qO.out (sZ w h))).2.2.2);have hSS:zW (fun w':World=>stC w' (N+3) A l1 c B l2 d D 0 e) zU w8.drew:=⟨HST.out _ zr.drew,trivial⟩
 refine wp_region_noPanic ?_;refine zG hSS 15 ?_;refine zT 1 hSS ?_;refine zT 2 hSS ?_;refine zT 4 hSS ?_;refine zT 5 hSS ?_;refine zT 9 hSS ?_;have hI:(fun w=>Below M w8 w) w8.drew:=zr.drew;clear hSS;refine zp9 (T:=[(0,77),(3,80),(6,83),(7,84),(8,85)]) (z:=10) (n:=10) M slO slD slC 0 (fun w=>Below M w8 w) (slF M s) (by kernel_rfl) (by kernel_rfl) (by simp only[putP,Act.put,zD,zE,zF]) (by decide) (by kernel_rfl) (by kernel_rfl) (by decide) hsz (fun w h=>⟨HST.out _ h,trivial⟩) (fun w w' C h hc hC=>h.trans (hc.below (hsz w h) fun b hb=>(hC b hb).1)) zyk (fun q hq=>?_) (fun vs w9 aS hF _=>?_) w8.drew hI
 ·simp only[List.mem_cons,List.not_mem_nil,or_false]at hq;rcases hq with rfl|rfl|rfl|rfl|rfl
  ·intro oi hoi vs K w2 hb2 hd aa;obtain rfl:=Option.some.inj hoi;simp only[putP,Act.put,zA,zB,zC,zD,zE,zF]at aa ⊢;have hK:=zh aa;clear aa hoi;have hbr:=bRA0;go_simp;obtain⟨g1,g2,g3⟩:=bldR (P:=fun _=>False) (C:=fun _=>False) (w:=w2) (N0:=M) (us:=[]) (ls:=[]) (hsz _ hb2) rfl rfl (fun k hk _=>absurd hk (Nat.not_lt_zero k)) (by simp);exact hK.out _ _ (g1.mono fun _ _ h=>h.elim) (fun b hb=>⟨.inl ((g2 b hb).1.resolve_right id),(g2 b hb).2⟩) g3
  ·intro oi hoi vs K w2 hb2 hd aa;generalize bG:putP vs [(0,77),(3,80),(6,83),(7,84),(8,85)] _=AC at aa ⊢;have hK:=zh aa;clear aa;have hd1:zkr w2 M (fun q=>q<M) (vs 0) _:=hd 0 (by decide);have hd2:=(HB1.out.later (sZ _ hb2)).oth c;rw[bO.out.1]at hd2;refine zql (K:=K) hoi (.tmp 77) (.tmp 79) (by kernel_rfl) (by kernel_rfl) (hsz _ hb2) (fun _ h=>h) (by rw[<-bG];kernel_rfl) hd1 (by rw[<-bG];kernel_rfl) hd2 (by have:=dB.out;simp;try omega) ?_;intro v' w3 g1 g2 g3;exact hK.out _ _ (g1.mono fun b _ hb=>⟨0,by decide,hb⟩) (fun b hb=>⟨(g2 b hb).1.imp id fun h=>⟨0,by decide,h⟩,(g2 b hb).2⟩) (by first|exact g3|(rw[List.nil_append]at g3;exact g3))
  ·intro oi hoi vs K w2 hb2 hd aa;obtain rfl:=Option.some.inj hoi;simp only[putP,Act.put,zA,zB,zC,zD,zE,zF]at aa ⊢;have hK:=zh aa;clear aa hoi;have hbr:=bRA1 B l2 d;go_simp;obtain⟨g1,g2,g3⟩:=bldR (P:=fun _=>False) (C:=fun _=>False) (w:=w2) (N0:=M) (us:=[.slice B l2 d]) (ls:=[s.tin]) (hsz _ hb2) rfl rfl (zzI bO.out.2.1 (HB2.out.later (sZ _ hb2)) HA2.out.2) (by simp);exact hK.out _ _ (g1.mono fun _ _ h=>h.elim) (fun b hb=>⟨.inl ((g2 b hb).1.resolve_right id),(g2 b hb).2⟩) g3
  ·intro oi hoi vs K w2 hb2 hd aa;generalize bG:putP vs [(0,77),(3,80),(6,83),(7,84),(8,85)] _=AC at aa ⊢;have hK:=zh aa;clear aa;have hd1:zkr w2 M (fun q=>q<M) (vs 3) _:=hd 3 (by decide);have hd2:=zkr.oth (hd 6 (by decide));refine zql (K:=K) hoi (.tmp 80) (.tmp 83) (by kernel_rfl) (by kernel_rfl) (hsz _ hb2) (fun _ h=>h) (by rw[<-bG];kernel_rfl) hd1 (by rw[<-bG];kernel_rfl) hd2 (by have:=dB.out;simp;try omega) ?_;intro v' w3 g1 g2 g3;exact hK.out _ _ (g1.mono fun b _ hb=>⟨3,by decide,hb⟩) (fun b hb=>⟨(g2 b hb).1.imp id fun h=>⟨3,by decide,h⟩,(g2 b hb).2⟩) (by first|exact g3|(rw[List.nil_append]at g3;exact g3))
  ·intro oi hoi vs K w2 hb2 hd aa;obtain rfl:=Option.some.inj hoi;simp only[putP,Act.put,zA,zB,zC,zD,zE,zF]at aa ⊢;have hd1:zkr w2 M (fun q=>q<M) (vs 7) (s.cells++[s.tin]):=hd 7 (by decide);obtain⟨A7,c7,e7⟩:=hd1.slice;obtain⟨n7,oC⟩:=zX ((s.cells++[s.tin]).length);rw[oC]at e7;have oN:=zh oC;rw[e7]at aa ⊢;have hK:=zh aa;clear aa hoi oC hd1 hd;go_simp;exact hK.out _ _ (Chg.refl _ _) (fun b hb=>by cases hb) (by rw[<-oN.out];rfl)
 ·have f1:zkr w9 M (fun q=>q<M) (vs 7) (s.cells++[s.tin]):=hF (7,84) (by decide) (by decide);have e8:vs 8=.int .i64 (((s.cells++[s.tin]).length:Nat):Int):=hF (8,85) (by decide) (by decide);clear hF;obtain⟨A1',c1',q1,-,r1⟩:=(f1.keep (S':=Any) (fun _ _ _=>trivial) fun _ _ _=>rfl).ii fun _ _ _=>trivial;obtain⟨L,hL⟩:=zX (s.cells++[s.tin]);obtain⟨n,hn⟩:=zX (L.length);rw[hL,hn]at q1 e8;rw[hL]at r1;have dF:=zh hL;have nM:=zh hn;have HR:=zh r1;have oP:=zh (show ∀l∈L,l.length<=17592186044416 by rw[<-hL];exact uN.out);have wF:=zh (zka qO.out (sZ _ aS));have Aj:n<=200000:=by have:=dB.out;rw[<-hn,<-hL];simp;omega
  simp only[putP,Act.put,zD,zE,zF];rw[q1,e8];generalize vs 0=v0;generalize vs 3=v3;generalize vs 6=v6;clear q1 e8 f1 r1 hL hn hI hsz sZ HST aS;refine zd ?_;refine NoPanic.normal ?_;obtain⟨nb,hnb⟩:=zX (wrap64 (-b.v));have jl:=zh (show nb = -b.v by have:=BV.out;rw[<-hnb,IntWalk.wrap64_in _ (by omega)]);go_wp2_with fail
  go_loopw [86] (fun i wr=>∃j:Nat,j<=n/\i=.int .i64 j/\Hid (Below w9.heap.size w9 wr)/\Hid (∀k (hk:k<L.length),k<j->OkRw p.vs b k L[k])) (fun i _=>n-(intOf i).toNat)
  case atStart=>exact⟨0,by omega,rfl,zh zr,zh fun k _ h=>by omega⟩
  case round =>
   obtain⟨j,hj,rfl,HB,HK⟩:=hrel;obtain⟨W0,hW0⟩:∃x,x=wr:=⟨_,rfl⟩
   subst hW0;have eG:=zh (zka wF.out HB.out);by_cases hlt:j<n;rotate_left 1
   ·obtain rfl:j=n:=by omega
    have hj1:¬ (j:Int)<(j:Int):=by omega
    have HMEM:=zh (zyu lY.out.2.2.1 bS.out HTO.out HTI.out fun k hk=>by
     have e:=dF.out;subst e;exact HK.out k hk (by rw[<-nM.out];exact hk))
    have qI:=zh (zp2 lY.out.2.2.1 s HMEM.out);have yF:F<=1000000:=by have:=lY.out.1;omega
    have jS:=zh (fun w (h:Below W0.heap.size W0 w)=>zlz p s F (F.toNat*2000+2000) _ _ w (vU.out w (zka eG.out h)) (az.out w (zka eG.out h)) (by have:=dB.out;omega) uT.out yF zl);have lD:=zh (fun w (h:Below W0.heap.size W0 w)=>zlz q s F (F.toNat*2000+2000) _ _ w (BQ.out w (zka eG.out h)) (az.out w (zka eG.out h)) (by have:=dB.out;omega) uT.out yF zl);have Cw:=zh (fun w (h:Below W0.heap.size W0 w)=>zpt (b:=b) (F:=F) (vU.out w (zka eG.out h)) (BQ.out w (zka eG.out h)) lY.out.2.2.1 (Nat.le_trans (zKi lY.out.2.2.1 lY.out.2.2.2.1) (by decide)) uT.out yF);have oM:=zh (show difE p q F s=true->∃t n,dffE p q b F=(t,n,true)/\InB p.vs t/\znN s t=false from fun h=>by
     obtain⟨t,n,h1,h2,h3⟩:=zwr lY.out.2.2.1 HMEM.out h;exact⟨t,n,by unfold dffE;rw[if_pos BH.out];exact h1,h2,h3⟩)
    have lF:=zh (show difE p q F s=(decide ((resO p s F (F.toNat*2000+2000) false).2.2.1≠(resO q s F (F.toNat*2000+2000) false).2.2.1) || !eqS (resO p s F (F.toNat*2000+2000) false).1 (resO q s F (F.toNat*2000+2000) false).1)from rfl);obtain⟨RD,wZ⟩:=zX (difE p q F s);rw[wZ]at lF oM;generalize resO p s F (F.toNat*2000+2000) false=R1 at jS lF;generalize resO q s F (F.toNat*2000+2000) false=R2 at lD lF;obtain⟨⟨s1,m1,f1⟩,qZ⟩:=zX (dffE p q b F);simp only[qZ]at Cw oM;clear wZ qZ yF hlt;have hNW:N+4<=W0.heap.size:=by have:=eG.out.size;have:=HZ2.out;omega
    go_upto_region 17 with fail;have HST:=zh (fun w (h:Below W0.heap.size W0 w)=>(⟨(HF.out w (zka eG.out h)).1,(HF.out w (zka eG.out h)).2.1,(HF.out w (zka eG.out h)).2.2.2⟩:pgS w N p A1 c1 A2 c2 A3 c3/\pgS w (N+1) q D1 e1 D2 e2 D3 e3/\stC w (N+3) A l1 c B l2 d D 0 e));have hSS:zW (fun w':World=>pgS w' N p A1 c1 A2 c2 A3 c3/\pgS w' (N+1) q D1 e1 D2 e2 D3 e3/\stC w' (N+3) A l1 c B l2 d D 0 e) zU W0.drew:=⟨HST.out _ zr.drew,trivial⟩
    refine wp_region_noPanic ?_;refine zG hSS 10 ?_;refine zT 0 hSS ?_;refine zT 1 hSS ?_;refine zT 2 hSS ?_;refine zT 4 hSS ?_;refine zT 5 hSS ?_;refine zT 6 hSS ?_;have hI:(fun w=>Below W0.heap.size W0 w) W0.drew:=zr.drew;clear hSS;refine znn (T:=[(3,134),(7,138),(8,19),(9,20)]) (z:=10) (n:=12) slB (fun _=>[]) 2 (fun w=>Below W0.heap.size W0 w) (slG W0.heap.size R1 R2) (by kernel_rfl) (by kernel_rfl) (by simp only[putP,Act.put,zD,zE,zF]) (by decide) (by kernel_rfl) (by kernel_rfl) (fun w h=>⟨HST.out _ h,trivial⟩) (fun w w' h hb=>zka h hb) ztO (fun qq hq=>?_) (fun vs wd hb0 hG hO=>?_) W0.drew hI
    ·simp only[List.mem_cons,List.not_mem_nil,or_false]at hq;rcases hq with rfl|rfl|rfl|rfl
     ·intro oi hoi vs K w3 hb3 hd aa;generalize bG:putP vs [(3,134),(7,138),(8,19),(9,20)] _=AC at aa ⊢;have hK:=zh aa;clear aa;have had:Calls prog 21 ([pv A1 p.vs.length c1 A2 p.prs.length c2 p.m.k p.m.n p.m.s A3 p.m.ks.length c3,.agg #[.slice A l1 c,.slice B l2 d,.slice D 0 e],.int .i64 F].toArray ++ #[]) w3 fun e' w'=>∃v,e'=.returned v/\(FwV W0.heap.size R1 v w'/\Below w3.heap.size w3 w'):=(jS.out w3 hb3).mono fun e' w' h=>FwP.v hb3.size h;refine zkU hoi (.func 21) [.tmp 131,.tmp 132,.tmp 133] #[43,32,3] (by kernel_rfl) (by kernel_rfl) 21 _ zo9 #[] (by rw[<-bG];kernel_rfl) _ (by rw[<-bG];kernel_rfl) _ had ?_;rintro x w4 ⟨hv,hb4⟩;exact hK.out _ _ hb4 (fun b hb=>by cases hb) hv
     ·intro oi hoi vs K w3 hb3 hd aa;generalize bG:putP vs [(3,134),(7,138),(8,19),(9,20)] _=AC at aa ⊢;have hK:=zh aa;clear aa;have had:Calls prog 21 ([pv D1 q.vs.length e1 D2 q.prs.length e2 q.m.k q.m.n q.m.s D3 q.m.ks.length e3,.agg #[.slice A l1 c,.slice B l2 d,.slice D 0 e],.int .i64 F].toArray ++ #[]) w3 fun e' w'=>∃v,e'=.returned v/\(FwV W0.heap.size R2 v w'/\Below w3.heap.size w3 w'):=(lD.out w3 hb3).mono fun e' w' h=>FwP.v hb3.size h;refine zkU hoi (.func 21) [.tmp 135,.tmp 136,.tmp 137] #[43,32,3] (by kernel_rfl) (by kernel_rfl) 21 _ zo9 #[] (by rw[<-bG];kernel_rfl) _ (by rw[<-bG];kernel_rfl) _ had ?_;rintro x w4 ⟨hv,hb4⟩;exact hK.out _ _ hb4 (fun b hb=>by cases hb) hv
     ·intro oi hoi vs K w3 hb3 hd aa;obtain rfl:=Option.some.inj hoi;simp only[putP,Act.put,zA,zB,zC,zD,zE,zF]at aa ⊢;have hK:=zh aa;clear aa hoi;go_simp;refine hK.out _ _ (zkb zr _) (fun b hb=>?_) ⟨w3.heap.size,rfl,hb3.size,heap_alloc_new w3 _⟩;injection hb with hb;have hb:w3.heap.size=b:=hb;rw[World.size_alloc];omega
     ·intro oi hoi vs K w3 hb3 hd aa;obtain rfl:=Option.some.inj hoi;simp only[putP,Act.put,zA,zB,zC,zD,zE,zF]at aa ⊢;have hK:=zh aa;clear aa hoi;go_simp;refine hK.out _ _ (zkb zr _) (fun b hb=>?_) ⟨w3.heap.size,rfl,hb3.size,heap_alloc_new w3 _⟩;injection hb with hb;have hb:w3.heap.size=b:=hb;rw[World.size_alloc];omega
    ·have g1:FwV W0.heap.size R1 (vs 3) wd:=hG (3,134) (by decide);have g2:FwV W0.heap.size R2 (vs 7) wd:=hG (7,138) (by decide);obtain⟨ba,ea,hla,hza⟩:∃b,vs 8=.pointer (some ⟨b,0,none⟩)/\W0.heap.size<=b/\wd.heap[b]?=some (.cells #[.slice none 0 0,.slice none 0 0,.slice none 0 0,.int .i64 0,.int .i64 0] 59 (0,0)):=hG (8,19) (by decide);obtain⟨bb,eb,hlb,hzb⟩:∃b,vs 9=.pointer (some ⟨b,0,none⟩)/\W0.heap.size<=b/\wd.heap[b]?=some (.cells #[.slice none 0 0,.slice none 0 0,.slice none 0 0,.int .i64 0,.int .i64 0] 59 (0,0)):=hG (9,20) (by decide);have hne:ba≠bb:=fun e=>hO 8 9 (by decide) (by decide) (by decide) ba (by rw[ea];rfl) (by rw[eb,e];rfl);obtain⟨fA,fc,fB,fd,fD,fg,ef,hsa,hl1⟩:=g1;obtain⟨gA,gc,gB,gd,gD,gg,eg,hsb,hl2⟩:=g2;clear hG hO;simp only[putP,Act.put,zD,zE,zF];rw[ea,eb,ef,eg];clear ea eb ef eg hI;have ig:=zh hl1;have HL2:=zh hl2;clear hl1 hl2
     have x0:wd.cell? ⟨ba,0,none⟩=some (.slice none 0 0):=zc hza rfl;have x1:wd.cell? ⟨ba,1,none⟩=some (.slice none 0 0):=zc hza rfl;have x2:wd.cell? ⟨ba,2,none⟩=some (.slice none 0 0):=zc hza rfl;have x3:wd.cell? ⟨ba,3,none⟩=some (.int .i64 0):=zc hza rfl;have x4:wd.cell? ⟨ba,4,none⟩=some (.int .i64 0):=zc hza rfl;have xf:∀o,wd.frozen? ⟨ba,o,none⟩=false:=fun _=>zf hza;have gp:=zh hza;have cZ:=zh hzb;have HB0:=zh hb0;have nE:=zh hsa;have fw:=zh hsb;clear hza hzb hb0 hsa hsb;refine zo 10 fun K hK=>?_;(try simp only[zA,zB,zC]);go_simp;obtain⟨hh,hch⟩:=set5 (u0:=.slice fA R1.1.cells.length fc) (u1:=.slice fB R1.1.tin.length fd) (u2:=.slice fD R1.1.tout.length fg) (u3:=.int .i64 (R1.2.1:Int)) (u4:=.int .i64 R1.2.2.1) gp.out;have hb0:=HB0.out.trans (hch.below HB0.out.size fun b e=>by omega);have hsa:=nE.out.chgD hch gp.out;have hsb:=fw.out.chgD hch gp.out
     have hzb:=hch.keep cZ.out (by show ¬ (bb=ba);omega);obtain⟨we,mi⟩:=zX ((((((wd.setCell ⟨ba,0,none⟩ (.slice fA R1.1.cells.length fc)).setCell ⟨ba,1,none⟩ (.slice fB R1.1.tin.length fd)).setCell ⟨ba,2,none⟩ (.slice fD R1.1.tout.length fg)).setCell ⟨ba,3,none⟩ (.int .i64 (R1.2.1:Int))).setCell ⟨ba,4,none⟩ (.int .i64 R1.2.2.1)));rw[mi]at hh hch hb0 hsa hsb hzb ⊢;have hza:=hh;refine hK.out _ _ (⟨HST.out _ hb0,trivial⟩) ?_;clear hK K x0 x1 x2 x3 x4 xf mi hch gp cZ HB0 nE fw hh;(try simp only[zQ]);have x0:we.cell? ⟨bb,0,none⟩=some (.slice none 0 0):=zc hzb rfl;have x1:we.cell? ⟨bb,1,none⟩=some (.slice none 0 0):=zc hzb rfl;have x2:we.cell? ⟨bb,2,none⟩=some (.slice none 0 0):=zc hzb rfl;have x3:we.cell? ⟨bb,3,none⟩=some (.int .i64 0):=zc hzb rfl;have x4:we.cell? ⟨bb,4,none⟩=some (.int .i64 0):=zc hzb rfl;have xf:∀o,we.frozen? ⟨bb,o,none⟩=false:=fun _=>zf hzb;have gp:=zh hza
     have cZ:=zh hzb;have HB0:=zh hb0;have nE:=zh hsa;have fw:=zh hsb;clear hza hzb hb0 hsa hsb;refine zp 11 fun K hK=>?_;(try simp only[zA,zB,zC]);go_simp;obtain⟨hh,hch⟩:=set5 (u0:=.slice gA R2.1.cells.length gc) (u1:=.slice gB R2.1.tin.length gd) (u2:=.slice gD R2.1.tout.length gg) (u3:=.int .i64 (R2.2.1:Int)) (u4:=.int .i64 R2.2.2.1) cZ.out;have hb0:=HB0.out.trans (hch.below HB0.out.size fun b e=>by omega);have hsa:=nE.out.chgD hch cZ.out;have hsb:=fw.out.chgD hch cZ.out;have hza:=hch.keep gp.out (by show ¬ (ba=bb);omega);obtain⟨wf,mh⟩:=zX ((((((we.setCell ⟨bb,0,none⟩ (.slice gA R2.1.cells.length gc)).setCell ⟨bb,1,none⟩ (.slice gB R2.1.tin.length gd)).setCell ⟨bb,2,none⟩ (.slice gD R2.1.tout.length gg)).setCell ⟨bb,3,none⟩ (.int .i64 (R2.2.1:Int))).setCell ⟨bb,4,none⟩ (.int .i64 R2.2.2.1)));rw[mh]at hh hch hb0 hsa hsb hza ⊢;have hzb:=hh
     refine hK.out _ _ ((HST.out _ hb0)) ?_;clear hK K x0 x1 x2 x3 x4 xf mh hch gp cZ HB0 nE fw hh;(try simp only[zQ]);refine zd ?_;refine NoPanic.normal ?_;have x0:wf.cell? ⟨ba,0,none⟩=some (.slice fA R1.1.cells.length fc):=zc hza rfl;have x1:wf.cell? ⟨ba,1,none⟩=some (.slice fB R1.1.tin.length fd):=zc hza rfl;have x2:wf.cell? ⟨ba,2,none⟩=some (.slice fD R1.1.tout.length fg):=zc hza rfl;have x4:wf.cell? ⟨ba,4,none⟩=some (.int .i64 R1.2.2.1):=zc hza rfl;have y0:wf.cell? ⟨bb,0,none⟩=some (.slice gA R2.1.cells.length gc):=zc hzb rfl;have y1:wf.cell? ⟨bb,1,none⟩=some (.slice gB R2.1.tin.length gd):=zc hzb rfl;have y2:wf.cell? ⟨bb,2,none⟩=some (.slice gD R2.1.tout.length gg):=zc hzb rfl;have y4:wf.cell? ⟨bb,4,none⟩=some (.int .i64 R2.2.2.1):=zc hzb rfl;have kC:=zh (fun w (h:Below wf.heap.size wf w)=>zqW R1.1 R2.1 _ _ w ((hsa.sv ig.out).later h) ((hsb.sv HL2.out).later h))
     have xZ:=zh (zka eG.out hb0);have gp:=zh hza;have cZ:=zh hzb;have HDG:=zh (Cw.out _ hb0);clear x0 x1 x2 x4 y0 y1 y2 y4 hza hzb hb0 hsa hsb Cw;obtain⟨⟨p0,p1,p2,p3,p4,p5⟩,⟨q0,q1,q2,q3,q4,q5⟩,⟨x0,x1,x2⟩,y0,y1,y2⟩:=HF.out _ (xZ.out);go_wp2_with fail;refine HDG.out.mono ?_;rintro en w7 ⟨dx,v7,rfl,hs7⟩;simp only at hs7;obtain⟨As,cs,Bs,ds,Ds,es,rfl⟩:∃A c B d D e,v7=.agg #[.slice A s1.cells.length c,.slice B s1.tin.length d,.slice D s1.tout.length e]:=by
      obtain⟨A,c,B,d,D,e,h,-⟩:=hs7;exact⟨_,_,_,_,_,_,h⟩
     have bu:=zkb dx (.cells #[.slice As s1.cells.length cs,.slice Bs s1.tin.length ds,.slice Ds s1.tout.length es] 32);have k8:=heap_alloc_new w7 (.cells #[.slice As s1.cells.length cs,.slice Bs s1.tin.length ds,.slice Ds s1.tout.length es] 32);have yx:=hs7.any.later (zkb (zs w7) (.cells #[.slice As s1.cells.length cs,.slice Bs s1.tin.length ds,.slice Ds s1.tout.length es] 32));obtain⟨wk,hwk⟩:=zX (w7.alloc (.cells #[.slice As s1.cells.length cs,.slice Bs s1.tin.length ds,.slice Ds s1.tout.length es] 32));obtain⟨N7,Bh⟩:=zX (w7.heap.size);rw[hwk]at bu k8 yx;rw[Bh]at k8;have cz:=zh (zka xZ.out bu);have qE:=zh k8;have HS8:=zh yx;have Ct:=zh (kC.out _ bu);have x0:wk.cell? ⟨ba,0,none⟩=some (.slice fA R1.1.cells.length fc):=zc (zkc gp.out bu) rfl;have x1:wk.cell? ⟨ba,1,none⟩=some (.slice fB R1.1.tin.length fd):=zc (zkc gp.out bu) rfl
     have x2:wk.cell? ⟨ba,2,none⟩=some (.slice fD R1.1.tout.length fg):=zc (zkc gp.out bu) rfl;have x4:wk.cell? ⟨ba,4,none⟩=some (.int .i64 R1.2.2.1):=zc (zkc gp.out bu) rfl;have y0:wk.cell? ⟨bb,0,none⟩=some (.slice gA R2.1.cells.length gc):=zc (zkc cZ.out bu) rfl;have y1:wk.cell? ⟨bb,1,none⟩=some (.slice gB R2.1.tin.length gd):=zc (zkc cZ.out bu) rfl;have y2:wk.cell? ⟨bb,2,none⟩=some (.slice gD R2.1.tout.length gg):=zc (zkc cZ.out bu) rfl;have y4:wk.cell? ⟨bb,4,none⟩=some (.int .i64 R2.2.2.1):=zc (zkc cZ.out bu) rfl;go_upto_region 19 with fail
     try rw[hwk]
     try rw[Bh]
     clear p0 p1 p2 p3 p4 p5 q0 q1 q2 q3 q4 q5 dx hs7 bu k8 yx hwk Bh HDG kC;by_cases pQ:R1.2.2.1=R2.2.2.1
     ·have he:(R1.2.2.1==R2.2.2.1)=true:=by simpa using pQ
      obtain⟨EQ,Bl⟩:=zX (eqS R1.1 R2.1);have il:=zh Bl;rw[Bl]at Ct;clear Bl;go_wp2_with fail;refine Ct.out.mono ?_;rintro en w9 ⟨rfl,aS⟩;have wF:=zh (zka cz.out aS);have gy:=zh (zkc qE.out aS);have xB:=zh (HS8.out.later aS);clear aS Ct x0 x1 x2 x4 y0 y1 y2 y4
      cases EQ
      ·skip
       obtain⟨t,m,h1,h2,h3⟩:=oM.out (lF.out.trans (by rw[il.out];simp));injection h1 with h1 h4;injection h4 with h4 h5;subst h1 h4 h5;have hss:=az.out _ wF.out;have nP:=zh (zsz s _ _ _ _ hss xB.out qI.out.sm h2.sm (by rw[qI.out.n,h2.n]));rw[h3]at nP;obtain⟨-,-,-,r0,r1,r2⟩:=HF.out _ wF.out;obtain⟨z0,z1,z2⟩:=zkz gy.out;clear h3 h2 oM hss;go_wp2_with fail;refine nP.out.mono ?_;rintro en wz ⟨rfl,hbz⟩;have Cy:=zh (zka wF.out hbz);clear hbz z0 z1 z2 r0 r1 r2;go_wp2_with fail;go_ret;exact⟨rfl,dH.out _ Cy.out⟩
      ·go_wp2_with fail;go_ret;exact⟨rfl,dH.out _ wF.out⟩
     ·have he:(R1.2.2.1==R2.2.2.1)=false:=by simpa using pQ
      have il:=zh (show decide (R1.2.2.1≠R2.2.2.1)=true from decide_eq_true pQ);clear x0 x1 x2 y0 y1 y2 pQ;go_upto_region 21 with fail;clear he x4 y4;obtain⟨t,m,h1,h2,h3⟩:=oM.out (lF.out.trans (by rw[il.out];rfl));injection h1 with h1 h4;injection h4 with h4 h5;subst h1 h4 h5;have hss:=az.out _ cz.out;have nP:=zh (zsz s _ _ _ _ hss HS8.out qI.out.sm h2.sm (by rw[qI.out.n,h2.n]));rw[h3]at nP;obtain⟨-,-,-,r0,r1,r2⟩:=HF.out _ cz.out;obtain⟨z0,z1,z2⟩:=zkz qE.out;clear h3 h2 oM hss;go_wp2_with fail;refine nP.out.mono ?_;rintro en wz ⟨rfl,hbz⟩;have Cy:=zh (zka cz.out hbz);clear hbz z0 z1 z2 r0 r1 r2;go_wp2_with fail;go_ret;exact⟨rfl,dH.out _ Cy.out⟩
   ·have hj1:(j:Int)<(n:Int):=by omega
    have hj0:(0:Int)<=(j:Int):=by omega
    obtain⟨a,l,B1,d1,rfl,HE,x9,hx,hr1⟩:=(HR.out.later HB.out).nd (i:=j) (by rw[nM.out];exact hlt);have hll:l.length<=17592186044416:=oP.out l (by rw[<-HE.out];exact List.getElem_mem _);have HR3:=zh hr1;obtain⟨m,hm⟩:=zX (l.length);have iW:=zh hm;rw[hm]at x9 hll;have Cj:=zh (show(∀h:j<p.vs.length,p.vs[j].k=3->(m:Int)<=b.l)->(∀x∈l,-b.v<=x/\x<=b.v)->∀k (hk:k<L.length),k<j+1->OkRw p.vs b k L[k]from fun h1 h2 k hk hkj=>by
     by_cases hkj2:k<j
     ·exact HK.out k hk hkj2
     ·obtain rfl:k=j:=by omega
      rw[show L[k]=l from HE.out];exact⟨fun h h3=>by rw[iW.out];exact h1 h h3,h2⟩)
    clear hr1 hx hm HE;obtain⟨⟨p0,p1,p2,p3,p4,p5⟩,⟨q0,q1,q2,q3,q4,q5⟩,⟨x0,x1,x2⟩,y0,y1,y2⟩:=HF.out _ (eG.out);by_cases bR:j<p.vs.length;rotate_left 1
    ·have hjv1:¬ (j:Int)<(p.vs.length:Int):=by omega
     have bZ:=zh (Cj.out (fun h=>absurd h bR));go_wp2_with fail
     go_loopw [114] (fun i wr=>∃k:Nat,k<=m/\i=.int .i64 k/\Hid (Below W0.heap.size W0 wr)/\Hid (∀i (hi:i<l.length),i<k -> -b.v<=l[i]/\l[i]<=b.v)) (fun i _=>m-(intOf i).toNat)
     case atStart=>exact⟨0,by omega,rfl,zh zr,zh fun i _ h=>by omega⟩
     case round =>
      obtain⟨k,hk,rfl,gH,HX⟩:=hrel;clear p0 p1 p2 p3 p4 p5 q0 q1 q2 q3 q4 q5 x0 x1 x2 y0 y1 y2;obtain⟨⟨p0,p1,p2,p3,p4,p5⟩,⟨q0,q1,q2,q3,q4,q5⟩,⟨x0,x1,x2⟩,y0,y1,y2⟩:=HF.out _ (zka eG.out gH.out);by_cases hkl:k<m
      ·have hk1:(k:Int)<(m:Int):=by omega
       have hk0:(0:Int)<=(k:Int):=by omega
       obtain⟨a3,rfl,-,x3,-⟩:=(HR3.out.later gH.out) k (by rw[iW.out];exact hkl);obtain⟨z,hz⟩:=zX (l[k]'(by rw[iW.out];exact hkl));have HZ:=zh hz;rw[hz]at x3;clear hz;by_cases hz1:b.v<z
       ·go_wp2_with fail;go_ret;exact⟨rfl,dH.out _ (zka eG.out gH.out)⟩
       by_cases hz2:z<nb
       ·go_wp2_with fail;go_ret;exact⟨rfl,dH.out _ (zka eG.out gH.out)⟩
       have HZ2:=zh (show -b.v<=z/\z<=b.v by have:=jl.out;omega);clear x9;go_wp2_with fail
       go_roundw
       case rel =>
        refine⟨k+1,by omega,by go_num,gH,zh fun i hi hik=>?_⟩;by_cases mI:i<k
        ·exact HX.out i hi mI
        ·obtain rfl:i=k:=by omega
         rw[show l[i]=z from HZ.out];exact HZ2.out
       case measure=>simp[intOf];omega
      ·obtain rfl:k=m:=by omega
       have hk1:¬ (k:Int)<(k:Int):=by omega
       go_wp2_with fail
       go_roundw
       case rel =>
        refine⟨j+1,by omega,by go_num,zh (zka HB.out gH.out),zh (bZ.out fun x hx=>?_)⟩;obtain⟨i,hi,rfl⟩:=List.mem_iff_getElem.1 hx;exact HX.out i hi (by rw[<-iW.out];exact hi)
       case measure=>simp[intOf];omega
    ·have hjv1:(j:Int)<(p.vs.length:Int):=by omega
     obtain⟨av,v9,AP,-,HV9,⟨z0,z1,z2⟩,-⟩:=(xG.out.vars.later (dH.out _ eG.out)).nd bR;subst AP;by_cases hk3:v9.k=3
     ·have hk31:(v9.k==3)=true:=by simp[hk3]
      by_cases kM:b.l<(m:Int)
      ·go_wp2_with fail;go_ret;exact⟨rfl,dH.out _ eG.out⟩
      ·skip
       have bZ:=zh (Cj.out (fun _ _=>by omega));go_wp2_with fail
       go_loopw [114] (fun i wr=>∃k:Nat,k<=m/\i=.int .i64 k/\Hid (Below W0.heap.size W0 wr)/\Hid (∀i (hi:i<l.length),i<k -> -b.v<=l[i]/\l[i]<=b.v)) (fun i _=>m-(intOf i).toNat)
       case atStart=>exact⟨0,by omega,rfl,zh zr,zh fun i _ h=>by omega⟩
       case round =>
        obtain⟨k,hk,rfl,gH,HX⟩:=hrel;clear p0 p1 p2 p3 p4 p5 q0 q1 q2 q3 q4 q5 x0 x1 x2 y0 y1 y2;obtain⟨⟨p0,p1,p2,p3,p4,p5⟩,⟨q0,q1,q2,q3,q4,q5⟩,⟨x0,x1,x2⟩,y0,y1,y2⟩:=HF.out _ (zka eG.out gH.out);by_cases hkl:k<m
        ·have hk1:(k:Int)<(m:Int):=by omega
         have hk0:(0:Int)<=(k:Int):=by omega
         obtain⟨a3,rfl,-,x3,-⟩:=(HR3.out.later gH.out) k (by rw[iW.out];exact hkl);obtain⟨z,hz⟩:=zX (l[k]'(by rw[iW.out];exact hkl));have HZ:=zh hz;rw[hz]at x3;clear hz;by_cases hz1:b.v<z
         ·go_wp2_with fail;go_ret;exact⟨rfl,dH.out _ (zka eG.out gH.out)⟩
         by_cases hz2:z<nb
         ·go_wp2_with fail;go_ret;exact⟨rfl,dH.out _ (zka eG.out gH.out)⟩
         have HZ2:=zh (show -b.v<=z/\z<=b.v by have:=jl.out;omega);clear x9;go_wp2_with fail
         go_roundw
         case rel =>
          refine⟨k+1,by omega,by go_num,gH,zh fun i hi hik=>?_⟩;by_cases mI:i<k
          ·exact HX.out i hi mI
          ·obtain rfl:i=k:=by omega
           rw[show l[i]=z from HZ.out];exact HZ2.out
         case measure=>simp[intOf];omega
        ·obtain rfl:k=m:=by omega
         have hk1:¬ (k:Int)<(k:Int):=by omega
         go_wp2_with fail
         go_roundw
         case rel =>
          refine⟨j+1,by omega,by go_num,zh (zka HB.out gH.out),zh (bZ.out fun x hx=>?_)⟩;obtain⟨i,hi,rfl⟩:=List.mem_iff_getElem.1 hx;exact HX.out i hi (by rw[<-iW.out];exact hi)
         case measure=>simp[intOf];omega
     ·have hk31:(v9.k==3)=false:=by simp[hk3]
      have bZ:=zh (Cj.out (fun h h3=>absurd (HV9.out▸h3) hk3));go_wp2_with fail
      go_loopw [114] (fun i wr=>∃k:Nat,k<=m/\i=.int .i64 k/\Hid (Below W0.heap.size W0 wr)/\Hid (∀i (hi:i<l.length),i<k -> -b.v<=l[i]/\l[i]<=b.v)) (fun i _=>m-(intOf i).toNat)
      case atStart=>exact⟨0,by omega,rfl,zh zr,zh fun i _ h=>by omega⟩
      case round =>
       obtain⟨k,hk,rfl,gH,HX⟩:=hrel;clear p0 p1 p2 p3 p4 p5 q0 q1 q2 q3 q4 q5 x0 x1 x2 y0 y1 y2;obtain⟨⟨p0,p1,p2,p3,p4,p5⟩,⟨q0,q1,q2,q3,q4,q5⟩,⟨x0,x1,x2⟩,y0,y1,y2⟩:=HF.out _ (zka eG.out gH.out);by_cases hkl:k<m
       ·have hk1:(k:Int)<(m:Int):=by omega
        have hk0:(0:Int)<=(k:Int):=by omega
        obtain⟨a3,rfl,-,x3,-⟩:=(HR3.out.later gH.out) k (by rw[iW.out];exact hkl);obtain⟨z,hz⟩:=zX (l[k]'(by rw[iW.out];exact hkl));have HZ:=zh hz;rw[hz]at x3;clear hz;by_cases hz1:b.v<z
        ·go_wp2_with fail;go_ret;exact⟨rfl,dH.out _ (zka eG.out gH.out)⟩
        by_cases hz2:z<nb
        ·go_wp2_with fail;go_ret;exact⟨rfl,dH.out _ (zka eG.out gH.out)⟩
        have HZ2:=zh (show -b.v<=z/\z<=b.v by have:=jl.out;omega);clear x9;go_wp2_with fail
        go_roundw
        case rel =>
         refine⟨k+1,by omega,by go_num,gH,zh fun i hi hik=>?_⟩;by_cases mI:i<k
         ·exact HX.out i hi mI
         ·obtain rfl:i=k:=by omega
          rw[show l[i]=z from HZ.out];exact HZ2.out
        case measure=>simp[intOf];omega
       ·obtain rfl:k=m:=by omega
        have hk1:¬ (k:Int)<(k:Int):=by omega
        go_wp2_with fail
        go_roundw
        case rel =>
         refine⟨j+1,by omega,by go_num,zh (zka HB.out gH.out),zh (bZ.out fun x hx=>?_)⟩;obtain⟨i,hi,rfl⟩:=List.mem_iff_getElem.1 hx;exact HX.out i hi (by rw[<-iW.out];exact hi)
        case measure=>simp[intOf];omega
end
section
open Go.RowKit Go.ChangeShapes Go.WideShapes Go.ChangeAt Go.Deep
theorem zne:prog.cellsOf 41=4:=by kernel_rfl
theorem zu9:prog.bytesOf 41=56:=by kernel_rfl
theorem zy4:prog.cellsOf 5=1:=by kernel_rfl
theorem zsv:prog.cellsOf 3=1:=by kernel_rfl
theorem zw2:prog.cellsOf 9=1:=by kernel_rfl
theorem zu7:prog.cellsOf 39=1:=by kernel_rfl
theorem zl4{H:Type}{P:Program}{e:TypeId}:∀ {l:List (DataW H)} {d:DataW H},d∈l->∀n∈d.weights P e,n∈DataW.weightsAll P e l
 | d0::l,d,hd,n,hn=>by
  simp only[DataW.weightsAll,List.mem_append];rcases List.mem_cons.1 hd with rfl|hd
  ·exact .inl hn
  ·exact .inr (zl4 hd n hn)
theorem zmZ{H:Type}:∀(ks:List T) (ds:List (DataW H)),ks.length=ds.length->(∀i (h:i<ks.length) (h':i<ds.length),size ks[i]<=Rows.uptoBulk ds[i])->zkW ks<=Rows.uptoBulkAll ds
 | [],[],_,_=>by simp[zkW]
 | t::ts,d::ds,hl,h=>by
  have h0:=h 0 (Nat.zero_lt_succ _) (Nat.zero_lt_succ _);have h1:=zmZ ts ds (by simpa using hl) (fun i hi hi'=>h (i+1) (Nat.succ_lt_succ hi) (Nat.succ_lt_succ hi'));simp only[List.getElem_cons_zero]at h0;simp only[zkW,Rows.uptoBulkAll];omega
 | [],_::_,hl,_=>by simp at hl
 | _::_,[],hl,_=>by simp at hl
section
variable {H:Type} {enc:TypeId×Value->H} {w:World} {held:Bool}
def zeroT':T:=.nd 0 0 ⟨#[]⟩ []
theorem zqx:∀(fuel:Nat) (cs:List Value) (x:DataW H×List MemPlace),DataW.trod enc prog w 0 (fun _=>true) held fuel 41 cs=some x ->
  (∀n∈x.1.weights prog 41,n<=reachBytes) ->
  ∃t u0 u1 u2 u3,cs=[u0,u1,u2,u3]/\NV w Any t (.agg #[u0,u1,u2,u3])/\t.ks.length*56<=reachBytes/\size t<=Rows.uptoBulk x.1:=by
 intro fuel
 induction fuel using Nat.strongRecOn with
 | _ fuel ih =>
 intro cs x h hw;have hts:=DataW.trod_struct underlying41 h;obtain⟨xs,n,hfu,hx,hcl,hxl,hg⟩:=hts;subst hx;rw[zne]at hcl
 match cs,hcl with
 | [c0,c1,c2,c3],_ =>
 match xs,hxl with
 | [y0,y1,y2,y3],_ =>
 have g0:=hg 0 _ rfl;have g1:=hg 1 _ rfl;have g2:=hg 2 _ rfl;have g3:=hg 3 _ rfl;simp only[zy4,zsv,zw2,zu7,List.drop_zero,List.take_succ_cons,List.take_zero,List.drop_succ_cons,List.getElem?_cons_zero,List.getElem?_cons_succ]at g0 g1 g2 g3;obtain⟨k,e0,e0',wk⟩:=DataW.trod_int underlying5 g0;obtain⟨m,e1,Br,wm⟩:=DataW.trod_int underlying3 g1;obtain⟨s,e2,e2',ws⟩:=DataW.trod_string underlying9 g2;injection e0 with e0;injection e1 with e1;injection e2 with e2;subst e0 e1 e2 e0' Br e2';have hf:Fld k m s:=by
  refine⟨?_,?_,ws⟩
  ·have:=wk;simp[Lit.wf,IntKind.min,IntKind.max,IntKind.signed,IntKind.bits]at this;omega
  ·have:=wm;simp[Lit.wf,IntKind.min,IntKind.max,IntKind.signed,IntKind.bits]at this;omega
 have hsl:=DataW.trod_slice underlying39 g3;rcases hsl with⟨e3,e3'⟩|⟨a,len,cap,elems,rest,n',hn',e3,e3',_,hl,hm,hel,hat,hsp,_⟩
 ·injection e3 with e3;subst e3 e3';refine⟨.nd k m s [],_,_,_,_,rfl,NV.shut (ks:=[]) hf (Nat.zero_le _) (Nat.zero_le _) zma.nil,by simp,?_⟩;simp only[size,zkW,List.map_cons,List.map_nil,Rows.uptoBulk];omega
 ·injection e3 with e3;subst e3 e3';obtain⟨hrl,_⟩:=hsp rfl;rw[zne]at hat
  -- what the reach says of this slice,and of its elements
  have hws:∀q∈DataW.weights prog 39 (.slice (elems.map (·.1)) (rest.map (·.1)):DataW H),q<=reachBytes:=by
   intro q hq;refine hw q ?_;simp only[List.map_cons,List.map_nil,DataW.weights,underlying41];simp only[DataW.weightsEach,List.map_cons,List.map_nil,List.mem_append];exact .inr (.inr (.inr (.inl hq)))
  simp only[DataW.weights,underlying39,zu9]at hws;have hcap:cap*56<=reachBytes:=by
   have:=hws _ (List.mem_cons_self ..);simp only[List.length_map]at this;rw[hel,hrl]at this;rw[show cap=len+(cap-len) by omega];exact this
  have yt:∀y∈elems,∀q∈y.1.weights prog 41,q<=reachBytes:=fun y hy q hq =>
   hws q (List.mem_cons_of_mem _ (List.mem_append_left _ (zl4 (List.mem_map_of_mem hy) q hq)))
  have key:∀i (hi:i<elems.length),∃t u0 u1 u2 u3,w.cells? 0 (a.add (i*4)) 4=some [u0,u1,u2,u3]/\NV w Any t (.agg #[u0,u1,u2,u3])/\size t<=Rows.uptoBulk elems[i].1:=by
   intro i hi;have h1:=hat i (by omega);rw[List.getElem?_eq_getElem hi]at h1;obtain⟨cs',hcs,ht⟩:=Option.bind_eq_some_iff.1 h1;obtain⟨t,u0,u1,u2,u3,rfl,hn,_,hb⟩:=ih n' (by omega) cs' elems[i] ht (yt _ (List.getElem_mem hi));exact⟨t,u0,u1,u2,u3,hcs,hn,hb⟩
  have hex:∃ks:List T,ks.length=elems.length/\∀i (h:i<ks.length) (h':i<elems.length),(∃u0 u1 u2 u3,w.cells? 0 (a.add (i*4)) 4=some [u0,u1,u2,u3]/\NV w Any ks[i] (.agg #[u0,u1,u2,u3]))/\size ks[i]<=Rows.uptoBulk elems[i].1:=by
   classical
   refine⟨(List.range elems.length).map fun i=>if h:i<elems.length then(key i h).choose else zeroT',by simp,fun i h h'=>?_⟩;simp only[List.getElem_map,List.getElem_range,h',dif_pos];obtain⟨u0,u1,u2,u3,h1,h2,h3⟩:=(key i h').choose_spec;exact⟨⟨u0,u1,u2,u3,h1,h2⟩,h3⟩
  obtain⟨ks,hkl,hks⟩:=hex;have hlen:ks.length=len:=by omega
  have hLK:ks.length<=LK:=by unfold LK;unfold reachBytes at hcap;omega
  refine⟨.nd k m s ks,_,_,_,_,rfl,?_,?_,?_⟩
  ·rw[<-hlen];refine NV.shut hf hLK (by omega) fun i hi=>?_;obtain⟨⟨u0,u1,u2,u3,hc,hn⟩,_⟩:=hks i hi (by omega);obtain⟨_,_,hcell⟩:=World.cells?_some hc;refine⟨a,u0,u1,u2,u3,rfl,trivial,⟨?_,?_,?_,?_⟩,hn⟩
   ·have:=hcell 0 (by omega);simpa[Addr.add]using this
   ·have:=hcell 1 (by omega);simpa[Addr.add]using this
   ·have:=hcell 2 (by omega);simpa[Addr.add]using this
   ·have:=hcell 3 (by omega);simpa[Addr.add]using this
  ·simp only[T.ks_nd];omega
  ·have hb:=zmZ ks (elems.map (·.1)) (by simp[hkl]) (fun i h h'=>by
    have:=(hks i h (by simpa using h')).2;simpa using this)
   simp only[size,List.map_cons,List.map_nil,Rows.uptoBulk,Rows.uptoBulkAll];omega
end
theorem Tryz.own:ownKnob prog.godebug=none:=by kernel_rfl
theorem Tryz.laidOut:laidOutB prog=true:=by kernel_rfl
theorem zu5:prog.cellsOf 57=3:=by kernel_rfl
theorem zy6:prog.bytesOf 57=32:=by kernel_rfl
section
variable {H:Type} {enc:TypeId×Value->H} {w:World} {held:Bool}
theorem znS{ty E:TypeId}{n b:Nat}(ht:prog.underlying ty=some (.slice E))(hc:prog.cellsOf E=n)(hb:prog.bytesOf E=b){fuel:Nat}{cs:List Value}{x:DataW H×List MemPlace}
  (h:DataW.trod enc prog w 0 (fun _=>true) held fuel ty cs=some x)(hw:∀q∈x.1.weights prog ty,q<=reachBytes) :
  cs=[.slice none 0 0]\/∃a len cap,cs=[.slice (some a) len cap]/\len<=cap/\cap*b<=reachBytes/\∀i,i<len->∃cs' y n',w.cells? 0 (a.add (i*n)) n=some cs'/\DataW.trod enc prog w 0 (fun _=>true) held n' E cs'=some y/\∀q∈y.1.weights prog E,q<=reachBytes:=by
 have hsl:=DataW.trod_slice ht h;rcases hsl with⟨e3,e3'⟩|⟨a,len,cap,elems,rest,n',hn',e3,e3',_,hl,hm,hel,hat,hsp,_⟩
 ·exact .inl e3
 ·refine .inr ⟨a,len,cap,e3,hl,?_,?_⟩
  ·obtain⟨hrl,_⟩:=hsp rfl;subst e3';simp only[DataW.weights,ht,hb]at hw;have:=hw _ (List.mem_cons_self ..);simp only[List.length_map]at this;rw[hel,hrl]at this;rw[show cap=len+(cap-len) by omega];exact this
  ·intro i hi;subst e3';simp only[DataW.weights,ht,hb]at hw;have hi':i<elems.length:=by omega
   have h1:=hat i (by omega);rw[List.getElem?_eq_getElem hi',hc]at h1;obtain⟨cs',hcs,ht'⟩:=Option.bind_eq_some_iff.1 h1;exact⟨cs',elems[i],n',hcs,ht',fun q hq=>hw q (List.mem_cons_of_mem _ (List.mem_append_left _ (zl4 (List.mem_map_of_mem (List.getElem_mem hi')) q hq)))⟩
theorem zyr{fuel:Nat}{cs:List Value}{x:DataW H×List MemPlace}(h:DataW.trod enc prog w 0 (fun _=>true) held fuel 57 cs=some x) :
  ∃v:VD,cs=[.string v.s,.int .u8 v.k,.int .i64 v.n]/\FldV v:=by
 have hts:=DataW.trod_struct underlying57 h;obtain⟨xs,n,hfu,hx,hcl,hxl,hg⟩:=hts;rw[zu5]at hcl
 match cs,hcl with
 | [c0,c1,c2],_ =>
 match xs,hxl with
 | [y0,y1,y2],_ =>
 have g0:=hg 0 _ rfl;have g1:=hg 1 _ rfl;have g2:=hg 2 _ rfl;obtain⟨s,e2,e2',ws⟩:=DataW.trod_string underlying9 g0;obtain⟨k,e0,e0',wk⟩:=DataW.trod_int underlying5 g1;obtain⟨m,e1,Br,wm⟩:=DataW.trod_int underlying3 g2;injection e0 with e0;injection e1 with e1;injection e2 with e2;subst e0 e1 e2;refine⟨⟨s,k,m⟩,rfl,ws,?_,?_⟩
 ·have:=wk;simp[Lit.wf,IntKind.min,IntKind.max,IntKind.signed,IntKind.bits]at this;constructor<;>simp only<;>omega
 ·have:=wm;simp[Lit.wf,IntKind.min,IntKind.max,IntKind.signed,IntKind.bits]at this;constructor<;>simp only<;>omega
theorem zmi{α:Type}[Inhabited α]{n:Nat}{P:Nat->α->Prop}(h:∀i,i<n->∃x,P i x):∃l:List α,l.length=n/\∀i (hi:i<l.length),P i l[i]:=by
 obtain⟨f,hf⟩:=choose_lt h;exact⟨(List.range n).map f,by simp,fun i hi=>by simp only[List.getElem_map,List.getElem_range];exact hf i (by simpa using hi)⟩
instance:Inhabited VD:=⟨⟨⟨#[]⟩,0,0⟩⟩
theorem zsS{fuel:Nat}{cs:List Value}{x:DataW H×List MemPlace}(h:DataW.trod enc prog w 0 (fun _=>true) held fuel 22 cs=some x)(hw:∀q∈x.1.weights prog 22,q<=reachBytes) :
  ∃(A:Option Addr) (vs:List VD) (c:Nat),cs=[.slice A vs.length c]/\RowV w Any A vs/\vs.length<=4398046510976/\vs.length<=c:=by
 rcases znS underlying22 zu5 zy6 h hw with rfl|⟨a,len,cap,rfl,hl,hcap,hat⟩
 ·exact⟨none,[],0,rfl,fun i hi=>absurd hi (by simp),Nat.zero_le _,Nat.zero_le _⟩
 ·obtain⟨vs,hvl,hvs⟩:=zmi (n:=len) (P:=fun i (v:VD)=>w.cells? 0 (a.add (i*3)) 3=some [.string v.s,.int .u8 v.k,.int .i64 v.n]/\FldV v) fun i hi=>by
   obtain⟨cs',y,n',hcs,ht,_⟩:=hat i hi;obtain⟨v,rfl,hf⟩:=zyr ht;exact⟨v,hcs,hf⟩
  refine⟨some a,vs,cap,by rw[hvl],fun i hi=>?_,by unfold reachBytes at hcap;omega,by omega⟩;obtain⟨hc,hf⟩:=hvs i hi;obtain⟨_,_,hcell⟩:=World.cells?_some hc;refine⟨a,rfl,trivial,⟨?_,?_,?_⟩,hf⟩
  ·have:=hcell 0 (by omega);simpa[Addr.add]using this
  ·have:=hcell 1 (by omega);simpa[Addr.add]using this
  ·have:=hcell 2 (by omega);simpa[Addr.add]using this
theorem zqw{fuel:Nat}{cs:List Value}{x:DataW H×List MemPlace}(h:DataW.trod enc prog w 0 (fun _=>true) held fuel 22 cs=some x)(hw:∀q∈x.1.weights prog 22,q<=reachBytes) :
  ∃(A:Option Addr) (vs:List VD) (c:Nat),cs=[.slice A vs.length c]/\RowV w Any A vs/\vs.length<=LV/\vs.length<=c:=by
 obtain⟨A,vs,c,h1,h2,h3,h4⟩:=zsS h hw;exact⟨A,vs,c,h1,h2,by unfold LV;omega,h4⟩
instance:Inhabited T:=⟨zeroT'⟩
theorem zr9{t:T}{u0 u1 u2 u3:Value}(h:NV w Any t (.agg #[u0,u1,u2,u3])):∃A c,u0=.int .u8 t.k/\u1=.int .i64 t.n/\u2=.string t.s/\u3=.slice A t.ks.length c/\NV w Any t (nv t.k t.n t.s A t.ks.length c):=by
 obtain⟨A,c,e,_⟩:=h.open_;have e':=e;simp only[nv,Value.agg.injEq,Array.mk.injEq,List.cons.injEq,and_true]at e;exact⟨A,c,e.1,e.2.1,e.2.2.1,e.2.2.2,e'▸h⟩
end
theorem zu6:prog.cellsOf 75=6:=by kernel_rfl
theorem zy7:prog.bytesOf 75=96:=by kernel_rfl
theorem zy5:prog.cellsOf 43=6:=by kernel_rfl
section
variable {H:Type} {enc:TypeId×Value->H} {w:World} {held:Bool}
instance:Inhabited PR:=⟨⟨⟨#[]⟩,[],zeroT'⟩⟩
theorem zt8{fuel:Nat}{cs:List Value}{x:DataW H×List MemPlace}(h:DataW.trod enc prog w 0 (fun _=>true) held fuel 75 cs=some x)(hw:∀q∈x.1.weights prog 75,q<=reachBytes) :
  ∃(r:PR) (A1:Option Addr) (c1:Nat) (A2:Option Addr) (c2:Nat),cs=[.string r.s,.slice A1 r.ps.length c1,.int .u8 r.b.k,.int .i64 r.b.n,.string r.b.s,.slice A2 r.b.ks.length c2]/\PrR w Any r A1 c1 A2 c2:=by
 have hts:=DataW.trod_struct underlying75 h;obtain⟨xs,n,hfu,hx,hcl,hxl,hg⟩:=hts;subst hx;rw[zu6]at hcl
 match cs,hcl with
 | [c0,c1,c2,c3,c4,c5],_ =>
 match xs,hxl with
 | [y0,y1,y2],_ =>
 have g0:=hg 0 _ rfl;have g1:=hg 1 _ rfl;have g2:=hg 2 _ rfl;have hw1:∀q∈y1.1.weights prog 22,q<=reachBytes:=fun q hq=>by
  refine hw q ?_;simp only[List.map_cons,List.map_nil,DataW.weights,underlying75];simp only[DataW.weightsEach,List.map_cons,List.map_nil,List.mem_append];exact .inr (.inl hq)
 have hw2:∀q∈y2.1.weights prog 41,q<=reachBytes:=fun q hq=>by
  refine hw q ?_;simp only[List.map_cons,List.map_nil,DataW.weights,underlying75];simp only[DataW.weightsEach,List.map_cons,List.map_nil,List.mem_append];exact .inr (.inr (.inl hq))
 obtain⟨s,e0,_,ws⟩:=DataW.trod_string underlying9 g0;obtain⟨A1,ps,k1,e1,hrow,hlp,hlc⟩:=zqw g1 hw1;obtain⟨t,u0,u1,u2,u3,e2,hn,_,_⟩:=zqx _ _ _ g2 hw2;obtain⟨A2,k2,rfl,rfl,rfl,rfl,hn'⟩:=zr9 hn;injection e0 with e0;injection e1 with e1;change List.take (prog.cellsOf 41) [c2,c3,c4,c5]=_ at e2;rw[zne]at e2;simp only[List.take_succ_cons,List.take_zero,List.cons.injEq,and_true]at e2;obtain⟨rfl,rfl,rfl,rfl⟩:=e2;subst e0 e1;exact⟨⟨s,ps,t⟩,A1,k1,A2,k2,rfl,ws,hrow,hlp,hlc,hn'⟩
theorem zsV{fuel:Nat}{cs:List Value}{x:DataW H×List MemPlace}(h:DataW.trod enc prog w 0 (fun _=>true) held fuel 38 cs=some x)(hw:∀q∈x.1.weights prog 38,q<=reachBytes) :
  ∃(A:Option Addr) (ps:List PR) (c:Nat),cs=[.slice A ps.length c]/\RowP w Any A ps/\ps.length<=LV/\ps.length<=c:=by
 rcases znS underlying38 zu6 zy7 h hw with rfl|⟨a,len,cap,rfl,hl,hcap,hat⟩
 ·exact⟨none,[],0,rfl,fun i hi=>absurd hi (by simp),Nat.zero_le _,Nat.zero_le _⟩
 ·obtain⟨ps,hvl,hvs⟩:=zmi (n:=len) (P:=fun i (r:PR)=>∃A1 c1 A2 c2,w.cells? 0 (a.add (i*6)) 6=some [.string r.s,.slice A1 r.ps.length c1,.int .u8 r.b.k,.int .i64 r.b.n,.string r.b.s,.slice A2 r.b.ks.length c2]/\PrR w Any r A1 c1 A2 c2) fun i hi=>by
   obtain⟨cs',y,n',hcs,ht,zH⟩:=hat i hi;obtain⟨r,A1,c1,A2,c2,rfl,hr⟩:=zt8 ht zH;exact⟨r,A1,c1,A2,c2,hcs,hr⟩
  refine⟨some a,ps,cap,by rw[hvl],fun i hi=>?_,by unfold LV;unfold reachBytes at hcap;omega,by omega⟩;obtain⟨A1,c1,A2,c2,hc,hr⟩:=hvs i hi;obtain⟨_,_,hcell⟩:=World.cells?_some hc;refine⟨a,A1,c1,A2,c2,rfl,trivial,⟨?_,?_,?_,?_,?_,?_⟩,hr⟩
  ·have:=hcell 0 (by omega);simpa[Addr.add]using this
  ·have:=hcell 1 (by omega);simpa[Addr.add]using this
  ·have:=hcell 2 (by omega);simpa[Addr.add]using this
  ·have:=hcell 3 (by omega);simpa[Addr.add]using this
  ·have:=hcell 4 (by omega);simpa[Addr.add]using this
  ·have:=hcell 5 (by omega);simpa[Addr.add]using this
theorem zt7{fuel:Nat}{cs:List Value}{x:DataW H×List MemPlace}(h:DataW.trod enc prog w 0 (fun _=>true) held fuel 43 cs=some x)(hw:∀q∈x.1.weights prog 43,q<=reachBytes) :
  ∃(p:PG) (A1:Option Addr) (c1:Nat) (A2:Option Addr) (c2:Nat) (A3:Option Addr) (c3:Nat),cs=[.slice A1 p.vs.length c1,.slice A2 p.prs.length c2,.int .u8 p.m.k,.int .i64 p.m.n,.string p.m.s,.slice A3 p.m.ks.length c3]/\PgR w Any p A1 c1 A2 c2 A3 c3:=by
 have hts:=DataW.trod_struct underlying43 h;obtain⟨xs,n,hfu,hx,hcl,hxl,hg⟩:=hts;subst hx;rw[zy5]at hcl
 match cs,hcl with
 | [c0,c1,c2,c3,c4,c5],_ =>
 match xs,hxl with
 | [y0,y1,y2],_ =>
 have g0:=hg 0 _ rfl;have g1:=hg 1 _ rfl;have g2:=hg 2 _ rfl;have hw0:∀q∈y0.1.weights prog 22,q<=reachBytes:=fun q hq=>by
  refine hw q ?_;simp only[List.map_cons,List.map_nil,DataW.weights,underlying43];simp only[DataW.weightsEach,List.map_cons,List.map_nil,List.mem_append];exact .inl hq
 have hw1:∀q∈y1.1.weights prog 38,q<=reachBytes:=fun q hq=>by
  refine hw q ?_;simp only[List.map_cons,List.map_nil,DataW.weights,underlying43];simp only[DataW.weightsEach,List.map_cons,List.map_nil,List.mem_append];exact .inr (.inl hq)
 have hw2:∀q∈y2.1.weights prog 41,q<=reachBytes:=fun q hq=>by
  refine hw q ?_;simp only[List.map_cons,List.map_nil,DataW.weights,underlying43];simp only[DataW.weightsEach,List.map_cons,List.map_nil,List.mem_append];exact .inr (.inr (.inl hq))
 obtain⟨A1,vs,k1,e0,hrow,hlv,hlvc⟩:=zqw g0 hw0;obtain⟨A2,ps,k2,e1,wN,hlp,hlpc⟩:=zsV g1 hw1;obtain⟨t,u0,u1,u2,u3,e2,hn,_,_⟩:=zqx _ _ _ g2 hw2;obtain⟨A3,k3,rfl,rfl,rfl,rfl,hn'⟩:=zr9 hn;injection e0 with e0;injection e1 with e1;change List.take (prog.cellsOf 41) [c2,c3,c4,c5]=_ at e2;rw[zne]at e2;simp only[List.take_succ_cons,List.take_zero,List.cons.injEq,and_true]at e2;obtain⟨rfl,rfl,rfl,rfl⟩:=e2;subst e0 e1;exact⟨⟨vs,ps,t⟩,A1,k1,A2,k2,A3,k3,rfl,hrow,hlv,hlvc,wN,hlp,hlpc,hn'⟩
end
theorem zt0{H:Type}{enc:TypeId×Value->H}{W:World}{base:Nat}{v:Value}{d:DataW H}{p:List MemPlace}(hok:Value.okWide prog W .any base 43 v)
  (h:DataW.Trod enc prog W 0 (fun _=>true) true 43 v d p)(hw:∀n∈d.weights prog 43,n<=reachBytes):∃g,PV W Any g v:=by
 obtain⟨cs,rfl,hcs⟩:=okWide_struct underlying43 hok;obtain⟨fuel,hf⟩:=h;obtain⟨g,A1,c1,A2,c2,A3,c3,e,hr⟩:=zt7 hf hw;refine⟨g,A1,c1,A2,c2,A3,c3,?_,hr⟩;have:cs = #[.slice A1 g.vs.length c1,.slice A2 g.prs.length c2,.int .u8 g.m.k,.int .i64 g.m.n,.string g.m.s,.slice A3 g.m.ks.length c3]:=by
  apply Array.ext';simpa[Value.cells]using e
 rw[this]
theorem zz7:prog.cellsOf 30=1:=by kernel_rfl
theorem zw4:prog.bytesOf 3=8:=by kernel_rfl
theorem zKa:prog.bytesOf 30=24:=by kernel_rfl
theorem zs8:prog.cellsOf 32=3:=by kernel_rfl
section
variable {H:Type} {enc:TypeId×Value->H} {w:World} {held:Bool}
theorem zz9{a:Addr}{u:Value}(h:w.cells? 0 a 1=some [u]):w.cell? a=some u:=by
 obtain⟨_,_,hcell⟩:=World.cells?_some h;have:=hcell 0 (by omega);have e:a.add 0=a:=by
  obtain⟨b,o,l⟩:=a;rcases l with _|⟨l1,l2⟩<;>simp[Addr.add]
 rw[e]at this;simpa using this
theorem zoh{fuel:Nat}{cs:List Value}{x:DataW H×List MemPlace}(h:DataW.trod enc prog w 0 (fun _=>true) held fuel 30 cs=some x)(hw:∀q∈x.1.weights prog 30,q<=reachBytes) :
  ∃(A:Option Addr) (l:List Int) (c:Nat),cs=[.slice A l.length c]/\RowI w Any A l/\l.length<=LI/\l.length<=c:=by
 rcases znS underlying30 zsv zw4 h hw with rfl|⟨a,len,cap,rfl,hl,hcap,hat⟩
 ·exact⟨none,[],0,rfl,fun i hi=>absurd hi (by simp),Nat.zero_le _,Nat.zero_le _⟩
 ·obtain⟨l,hvl,hvs⟩:=zmi (n:=len) (P:=fun i (x:Int)=>w.cells? 0 (a.add (i*1)) 1=some [.int .i64 x]/\I64 x) fun i hi=>by
   obtain⟨cs',y,n',hcs,ht,_⟩:=hat i hi;obtain⟨m,e1,Br,wm⟩:=DataW.trod_int underlying3 ht;refine⟨m,by rw[hcs,e1],?_⟩;have:=wm;simp[Lit.wf,IntKind.min,IntKind.max,IntKind.signed,IntKind.bits]at this
   constructor<;>omega
  refine⟨some a,l,cap,by rw[hvl],fun i hi=>?_,by unfold LI;unfold reachBytes at hcap;omega,by omega⟩;obtain⟨hc,hf⟩:=hvs i hi;rw[Nat.mul_one]at hc;exact⟨a,rfl,trivial,zz9 hc,hf⟩
instance:Inhabited (List Int):=⟨[]⟩
theorem zsU{fuel:Nat}{cs:List Value}{x:DataW H×List MemPlace}(h:DataW.trod enc prog w 0 (fun _=>true) held fuel 29 cs=some x)(hw:∀q∈x.1.weights prog 29,q<=reachBytes) :
  ∃(A:Option Addr) (ls:List (List Int)) (c:Nat),cs=[.slice A ls.length c]/\zlj w Any A ls/\ls.length<=LI/\(∀l∈ls,l.length<=LI)/\ls.length<=c:=by
 rcases znS underlying29 zz7 zKa h hw with rfl|⟨a,len,cap,rfl,hl,hcap,hat⟩
 ·exact⟨none,[],0,rfl,fun i hi=>absurd hi (by simp),Nat.zero_le _,by simp,Nat.zero_le _⟩
 ·obtain⟨ls,hvl,hvs⟩:=zmi (n:=len) (P:=fun i (l:List Int)=>∃A' c',w.cells? 0 (a.add (i*1)) 1=some [.slice A' l.length c']/\RowI w Any A' l/\l.length<=LI/\l.length<=c') fun i hi=>by
   obtain⟨cs',y,n',hcs,ht,zH⟩:=hat i hi;obtain⟨A',l,c',e,hr,h1,h2⟩:=zoh ht zH;exact⟨l,A',c',by rw[hcs,e],hr,h1,h2⟩
  refine⟨some a,ls,cap,by rw[hvl],fun i hi=>?_,by unfold LI;unfold reachBytes at hcap;omega,fun l hl=>?_,by omega⟩
  ·obtain⟨A',c',hc,hr,h1,h2⟩:=hvs i hi;rw[Nat.mul_one]at hc;exact⟨a,A',c',rfl,trivial,zz9 hc,h2,hr⟩
  ·obtain⟨i,hi,rfl⟩:=List.mem_iff_getElem.1 hl;obtain⟨A',c',hc,hr,h1,h2⟩:=hvs i hi;exact h1
theorem zsT{fuel:Nat}{cs:List Value}{x:DataW H×List MemPlace}(h:DataW.trod enc prog w 0 (fun _=>true) held fuel 32 cs=some x)(hw:∀q∈x.1.weights prog 32,q<=reachBytes) :
  ∃(s:SS) (u0 u1 u2:Value),cs=[u0,u1,u2]/\SV w Any s (.agg #[u0,u1,u2]):=by
 have hts:=DataW.trod_struct underlying32 h;obtain⟨xs,n,hfu,hx,hcl,hxl,hg⟩:=hts;subst hx;rw[zs8]at hcl
 match cs,hcl with
 | [c0,c1,c2],_ =>
 match xs,hxl with
 | [y0,y1,y2],_ =>
 have g0:=hg 0 _ rfl;have g1:=hg 1 _ rfl;have g2:=hg 2 _ rfl;have hw0:∀q∈y0.1.weights prog 29,q<=reachBytes:=fun q hq=>by
  refine hw q ?_;simp only[List.map_cons,List.map_nil,DataW.weights,underlying32];simp only[DataW.weightsEach,List.mem_append];exact .inl hq
 have hw1:∀q∈y1.1.weights prog 30,q<=reachBytes:=fun q hq=>by
  refine hw q ?_;simp only[List.map_cons,List.map_nil,DataW.weights,underlying32];simp only[DataW.weightsEach,List.mem_append];exact .inr (.inl hq)
 have hw2:∀q∈y2.1.weights prog 30,q<=reachBytes:=fun q hq=>by
  refine hw q ?_;simp only[List.map_cons,List.map_nil,DataW.weights,underlying32];simp only[DataW.weightsEach,List.mem_append];exact .inr (.inr (.inl hq))
 obtain⟨A0,ls,k0,e0,hr0,hl0,hl0',hc0⟩:=zsU g0 hw0;obtain⟨A1,l1,k1,e1,hr1,hl1,hc1⟩:=zoh g1 hw1;obtain⟨A2,l2,k2,e2,hr2,hl2,hc2⟩:=zoh g2 hw2;injection e0 with e0;injection e1 with e1;injection e2 with e2;subst e0 e1 e2;exact⟨⟨ls,l1,l2⟩,_,_,_,rfl,A0,k0,A1,k1,A2,k2,rfl,hr0,hr1,hr2,hc0,hc1,hc2,hl0,hl0',hl1,hl2⟩
theorem zv7{W:World}{base:Nat}{v:Value}{d:DataW H}{p:List MemPlace}(hok:Value.okWide prog W .any base 32 v)
  (h:DataW.Trod enc prog W 0 (fun _=>true) true 32 v d p)(hw:∀n∈d.weights prog 32,n<=reachBytes):∃s,SV W Any s v:=by
 obtain⟨cs,rfl,hcs⟩:=okWide_struct underlying32 hok;obtain⟨fuel,hf⟩:=h;obtain⟨s,u0,u1,u2,e,hs⟩:=zsT hf hw;refine⟨s,?_⟩;have:cs = #[u0,u1,u2]:=by
  apply Array.ext';simpa[Value.cells]using e
 rw[this];exact hs
end
theorem zw3:prog.cellsOf 24=3:=by kernel_rfl
theorem zKc{H:Type}{enc:TypeId×Value->H}{W:World}{base:Nat}{v:Value}{d:DataW H}{p:List MemPlace}(hok:Value.okWide prog W .any base 24 v)
  (h:DataW.Trod enc prog W 0 (fun _=>true) true 24 v d p):∃x:BX,v=.agg #[.int .i64 x.v,.int .i64 x.l,.int .i64 x.i]/\(-9223372036854775808<=x.v/\x.v<=9223372036854775807)/\(-9223372036854775808<=x.l/\x.l<=9223372036854775807)/\(-9223372036854775808<=x.i/\x.i<=9223372036854775807):=by
 obtain⟨cs,rfl,hcs⟩:=okWide_struct underlying24 hok;obtain⟨fuel,hf⟩:=h;have hts:=DataW.trod_struct underlying24 hf;obtain⟨xs,n,hfu,hx,hcl,hxl,hg⟩:=hts;rw[zw3]at hcl;obtain⟨cs⟩:=cs;simp only[Value.cells]at hcl hg
 match cs,hcl with
 | [c0,c1,c2],_ =>
 match xs,hxl with
 | [y0,y1,y2],_ =>
 have g0:=hg 0 _ rfl;have g1:=hg 1 _ rfl;have g2:=hg 2 _ rfl;obtain⟨m0,e0,_,w0⟩:=DataW.trod_int underlying3 g0;obtain⟨m1,e1,_,w1⟩:=DataW.trod_int underlying3 g1;obtain⟨m2,e2,_,w2⟩:=DataW.trod_int underlying3 g2;injection e0 with e0;injection e1 with e1;injection e2 with e2;subst e0 e1 e2;simp[Lit.wf,IntKind.min,IntKind.max,IntKind.signed,IntKind.bits]at w0 w1 w2;exact⟨⟨m0,m1,m2⟩,rfl,⟨by simp only;omega,by simp only;omega⟩,⟨by simp only;omega,by simp only;omega⟩,⟨by simp only;omega,by simp only;omega⟩⟩
end
section
open Go Go.RowKit Go.ChangeShapes Go.WideShapes Go.ChangeAt
section
variable {H:Type} {enc:TypeId×Value->H} {P:Program} {w:World} {base:Nat} {spare:Nat->Bool} {held:Bool}
theorem zqe{t t' t'' t3 t4:TypeId}{args:Array Value}{ds:List (DataW H)}{ps:List MemPlace}(h:DataW.TrodAll enc P w base spare held [t,t',t'',t3,t4] args.toList ds ps) :
  ∃v v' v'' v3 v4 d d' d'' d3 d4 p p' p'' p3 p4,args = #[v,v',v'',v3,v4]/\ds=[d,d',d'',d3,d4]/\ps=p++p'++p''++p3++p4/\DataW.Trod enc P w base spare held t v d p/\DataW.Trod enc P w base spare held t' v' d' p'/\DataW.Trod enc P w base spare held t'' v'' d'' p''/\DataW.Trod enc P w base spare held t3 v3 d3 p3/\DataW.Trod enc P w base spare held t4 v4 d4 p4:=by
 obtain⟨v,vs,d,ds',p,q,hargs,rfl,rfl,hd,hrest⟩:=trodAll_cons h;obtain⟨v',vs',d',ds'',p',q',rfl,rfl,rfl,hd',hrest'⟩:=trodAll_cons hrest;obtain⟨v'',vs'',d'',ds''',p'',q'',rfl,rfl,rfl,hd'',hrest''⟩:=trodAll_cons hrest';obtain⟨v3,vs3,d3,ds3,p3,q3,rfl,rfl,rfl,hd3,hrest3⟩:=trodAll_cons hrest'';obtain⟨v4,vs4,d4,ds4,p4,q4,rfl,rfl,rfl,hd4,hrest4⟩:=trodAll_cons hrest3;obtain⟨rfl,rfl,rfl⟩:=trodAll_nil hrest4;exact⟨v,v',v'',v3,v4,d,d',d'',d3,d4,p,p',p'',p3,p4,by cases args;simp_all,rfl,by simp,hd,hd',hd'',hd3,hd4⟩
theorem zq7{t t' t'' t3 t4:TypeId}{v v' v'' v3 v4:Value}{d d' d'' d3 d4:DataW H}{p p' p'' p3 p4:List MemPlace}(h:DataW.Trod enc P w base spare held t v d p)(h':DataW.Trod enc P w base spare held t' v' d' p')
  (h'':DataW.Trod enc P w base spare held t'' v'' d'' p'')(h3:DataW.Trod enc P w base spare held t3 v3 d3 p3)(h4:DataW.Trod enc P w base spare held t4 v4 d4 p4):DataW.TrodAll enc P w base spare held [t,t',t'',t3,t4] [v,v',v'',v3,v4] [d,d',d'',d3,d4] (p++(p'++(p''++(p3++p4)))):=⟨p,p'++(p''++(p3++p4)),h,trodAll_mk4 h' h'' h3 h4,rfl⟩
end
end
end Go.Proofs.YtembgnhbpmfhpaaGreat
