/-
  Texts of the proof, put together without their remarks: Lim, Val, Scp, Ik, Im, Iz, Ia, ScA, ClW, ScC, Wp, ScR.
-/
import Derived.Test.YtghbhbdnkjjnnaaGreatA5
import Derived.Tactics
import Derived.Tactics2
import Derived.Defers
import Derived.ArgAppend
set_option linter.unusedSimpArgs false
set_option linter.unusedVariables false
set_option maxHeartbeats 8000000
set_option maxRecDepth 100000
namespace Go.Proofs.YtghbhbdnkjjnnaaGreat
section
open Go.RowKit
mutual
/-- ast.limited: what is left of the count,or none. -/
def lim:T->Nat->Nat->Option Nat
 | .nd _ _ _ ks,d,l=>if d=0\/l=0 then none else lims ks (d-1) (l-1)
def lims:List T->Nat->Nat->Option Nat
 | [],_,l=>some l
 | t::ts,d,l=>match lim t d l with
  | none=>none
  | some l'=>lims ts d l'
end
theorem znY(ts us:List T)(d:Nat):∀l,lims (ts++us) d l=(lims ts d l).bind fun r=>lims us d r:=by
 induction ts with
 | nil=>intro l;simp[lims]
 | cons t ts ih =>
  intro l;simp only[List.cons_append,lims]
  cases lim t d l with
  | none=>rfl
  | some r=>exact ih r
theorem zuV(t:T)(d l:Nat):lims [t] d l=lim t d l:=by
 simp only[lims]
 cases lim t d l<;>rfl
theorem zsW{ks:List T}{d l r j:Nat}(hj:j<ks.length)(h:lims (ks.take j) d l=some r):lims (ks.take (j+1)) d l=lim ks[j] d r:=by
 rw[List.take_succ_eq_append_getElem hj,znY,h];exact zuV _ _ _
theorem zsX{ks:List T}{d l j:Nat}(h:lims (ks.take j) d l=none):lims ks d l=none:=by
 rw[<-List.take_append_drop j ks,znY,h];rfl
theorem zxO(t:T):∀d l r,lim t d l=some r->r<=l:=by
 induction t using T.ind with
 | _ k n s ks ih =>
 intro d l r h;rw[lim]at h
 split at h
 ·cases h
 ·have key:∀(us:List T),(∀t∈us,∀d l r,lim t d l=some r->r<=l)->∀l r d,lims us d l=some r->r<=l:=by
   intro us
   induction us with
   | nil=>intro _ l r d h;simp[lims]at h;omega
   | cons t us ih2 =>
    intro hu l r d h;simp only[lims]at h
    cases h1:lim t d l with
    | none=>rw[h1]at h;cases h
    | some r1 =>
     rw[h1]at h;have:=hu t (by simp) d l r1 h1;have:=ih2 (fun t ht=>hu t (by simp[ht])) r1 r d h;omega
  have:=key ks ih _ _ _ h;omega
def LimE(w:World)(b:Nat)(o:Option Nat)(e:Ending)(w':World):Prop :=
 e=.returned (.bool o.isSome)/\∃l':Nat,w'.heap[b]?=some (.cells #[.int .i64 (l':Int)] 3 (0,0))/\(∀r,o=some r->l'=r)/\w.grownBy w' (some b)
theorem zmO{a b c:World}{row:Option Nat}(h1:a.grownBy b row)(h2:b.grownBy c row):a.grownBy c row :=
 ⟨h2.os.trans h1.os,h2.tape.trans h1.tape,h2.output.trans h1.output,Nat.le_trans h1.size h2.size,fun i hi hne=>(h2.block i (Nat.lt_of_lt_of_le hi h1.size) hne).trans (h1.block i hi hne)⟩
theorem zl8{w:World}(o:Obj)(row:Option Nat):w.grownBy (w.alloc o) row :=
 let h:=(zs w).alloc zl o
 ⟨h.os,h.tape,h.output,h.size,fun b hb _=>h.block b hb⟩
theorem zl4.grown{w w':World}{S:Nat->Prop}{A:Option Addr}{ts:List T}{b:Nat}(h:zl4 w S A ts)(hg:w.grownBy w' (some b))(hb:¬ S b):zl4 w' S A ts :=
 h.keep (fun _ h _=>h) fun i hi hlt=>hg.block i hlt fun e=>by injection e with e;subst e;exact hb hi
theorem zqr(t:T):∀(d l:Nat) (S:Nat->Prop) (v:Value) (w:World) (b:Nat),NV w S t v->¬ S b->d<=80->l<=2000->w.heap[b]?=some (.cells #[.int .i64 (l:Int)] 3 (0,0)) ->
  Calls Tryz.prog 127 #[v,.int .i64 (d:Int),.pointer (some ⟨b,0,none⟩)] w (LimE w b (lim t d l)):=by
 induction t using T.ind with
 | _ k n s ks ih =>
 intro d l S v w b hv hSb hd hl hbx;obtain⟨A,c,rfl,hf,hlk,hlc,hrow⟩:=hv.open_;simp only[T.k_nd,T.n_nd,T.s_nd,T.ks_nd]at *
 have aA:=zkK hlk;have IH:=zh ih;have aa:=zh hrow;have og:=zh hSb;have aO:=zh hbx;have hbl:=zki hbx;have c0:=zks (zc (i:=0) (u:=.int .i64 (l:Int)) hbx rfl);have f0:∀o:Obj,(w.alloc o).frozen? ⟨b,0,none⟩=false:=fun o=>by
  have:(w.alloc o).heap[b]?=some (.cells #[.int .i64 (l:Int)] 3 (0,0)):=(Below.heap_alloc w o b hbl).trans hbx;exact zf this
 clear hv ih hrow hSb hf hlk hbx;have hne:¬ b=w.heap.size:=by omega
 have hne':¬ w.heap.size=b:=by omega
 by_cases hd0:d=0
 ·subst hd0;have HX:=zh (show lim (.nd k n s ks) 0 l=none by rw[lim];simp);go_enter Tryz.func127,Tryz.ntmps127;go_wp2_with fail;go_ret;rw[HX.out];exact⟨rfl,l,(Below.heap_alloc w _ b hbl).trans aO.out,(fun r h=>by cases h),zl8 _ _⟩
 by_cases hl0:l=0
 ·subst hl0;have HX:=zh (show lim (.nd k n s ks) d 0=none by rw[lim];simp);have fd:((d:Int)==0)=false:=by simpa using hd0
  go_enter Tryz.func127,Tryz.ntmps127;go_wp2_with fail;go_ret;rw[HX.out];exact⟨rfl,0,(Below.heap_alloc w _ b hbl).trans aO.out,(fun r h=>by cases h),zl8 _ _⟩
 obtain⟨d',rfl⟩:∃d',d=d'+1:=⟨d-1,by omega⟩
 obtain⟨l',rfl⟩:∃l',l=l'+1:=⟨l-1,by omega⟩
 have HX:=zh (show lim (.nd k n s ks) (d'+1) (l'+1)=lims ks d' l' by rw[lim,if_neg (by omega)];simp);rw[show((d'+1:Nat):Int)=(d':Int)+1 from rfl];have fd:((d':Int)+1==0)=false:=by simp;omega
 have fl:((l':Int)+1==0)=false:=by simp;omega
 clear hd0 hl0;have hb1:(w.setCell ⟨b,0,none⟩ (.int .i64 (l':Int))).heap[b]?=some (.cells #[.int .i64 (l':Int)] 3 (0,0)):=by
  have h1:=heap_setCell_same w b 0 _ 3 (.int .i64 (l':Int)) aO.out;simpa using h1
 have hz1:(w.setCell ⟨b,0,none⟩ (.int .i64 (l':Int))).heap.size=w.heap.size:=by simp[World.setCell]
 obtain⟨W0,hW0⟩:=zX ((w.setCell ⟨b,0,none⟩ (.int .i64 (l':Int))).alloc (.cells #[.int .u8 k,.int .i64 n,.string s,.slice A ks.length c] 24));have H0:W0.heap[b]?=some (.cells #[.int .i64 (l':Int)] 3 (0,0)):=by
  rw[<-hW0,Below.heap_alloc _ _ b (by rw[hz1];exact hbl)];exact hb1
 have A0:W0.heap[w.heap.size]?=some (.cells #[.int .u8 k,.int .i64 n,.string s,.slice A ks.length c] 24 (0,0)):=by
  rw[<-hW0,<-hz1];exact heap_alloc_new _ _
 have G0:w.grownBy W0 (some b):=by
  rw[<-hW0];refine zmO (zuJ (zpK w (some b)) (p:=⟨b,0,none⟩) rfl _) (zl8 _ _)
 have HH:=zh (And.intro H0 (And.intro A0 G0));have HW0:=zh hW0;clear H0 G0 A0 hb1 hz1 hW0;go_enter Tryz.func127,Tryz.ntmps127;go_wp2_with fail;rw[HW0.out];clear c0 f0
 go_loopw [25] (fun i wr=>∃(j lc:Nat),j<=ks.length/\i=.int .i64 j/\lc<=2000/\Hid (lims (ks.take j) d' l'=some lc)/\wr.heap[b]?=some (.cells #[.int .i64 (lc:Int)] 3 (0,0))/\wr.heap[w.heap.size]?=some (.cells #[.int .u8 k,.int .i64 n,.string s,.slice A ks.length c] 24 (0,0))/\w.grownBy wr (some b)) (fun i _=>ks.length-(intOf i).toNat)
 case atStart=>exact⟨0,l',Nat.zero_le _,rfl,by omega,zh (by simp[lims]),HH.out.1,HH.out.2.1,HH.out.2.2⟩
 case round =>
  obtain⟨j,lc,hj,rfl,oM,HLI,hbx,hax,hg⟩:=hrel;clear HH HW0;by_cases hlt:j<ks.length
  ·obtain⟨a,t,A1,c1,rfl,_,Ht,⟨q0,q1,q2,q3⟩,hn⟩:=(aa.out.grown hg og.out).nd hlt;have hI:=IH.out ks[j] (List.getElem_mem hlt);rw[Ht.out]at hI;have oV:=zki hbx;have hal:∀o:Obj,(wr.alloc o).heap[b]?=some (.cells #[.int .i64 (lc:Int)] 3 (0,0)):=fun o=>(Below.heap_alloc wr o b oV).trans hbx;have HI1:=zh (hI d' lc S _ (wr.alloc (.cells #[.int .u8 t.k,.int .i64 t.n,.string t.s,.slice A1 t.ks.length c1] 24)) b (hn.later (zr.alloc zl _)) og.out (by omega) oM (hal _));have HT:=zh (show lims (ks.take (j+1)) d' l'=lim t d' lc by rw[zsW hlt HLI.out,Ht.out]);have HG:=zh (zmO hg (zl8 (.cells #[.int .u8 t.k,.int .i64 t.n,.string t.s,.slice A1 t.ks.length c1] 24) _));have HAX:=zh (show ∀o:Obj,(wr.alloc o).heap[w.heap.size]?=some (.cells #[.int .u8 k,.int .i64 n,.string s,.slice (some a) ks.length c] 24 (0,0))from fun o=>(Below.heap_alloc wr o _ (zki hax)).trans hax)
   clear hI hn hbx hax hal;go_wp2_with fail;refine HI1.out.mono ?_;rintro e w1 ⟨rfl,l1,hb1,hl1,hg1⟩;have xZ:=zh (zmO HG.out hg1);have HA1:=zh ((hg1.block _ (zki (HAX.out _)) (fun e=>hne' (by injection e))).trans (HAX.out _));have HB1:=zh hb1;clear hb1 hg1
   cases ho:lim t d' lc with
   | none =>
    have eu:=zh (show lims ks d' l'=none from zsX (j:=j+1) (by rw[HT.out,ho]));go_wp2_with fail;go_ret;rw[HX.out,eu.out];exact⟨rfl,l1,HB1.out,(fun r h=>by cases h),xZ.out⟩
   | some r =>
    have hr1:=hl1 r ho;subst hr1;have hle:l1<=2000:=by have:=zxO t d' lc l1 ho;omega
    have HT2:=zh (show lims (ks.take (j+1)) d' l'=some l1 by rw[HT.out,ho]);clear hl1 ho;go_wp2_with fail
    go_roundw
    case rel=>exact⟨j+1,l1,by omega,by go_num,hle,HT2,HB1.out,HA1.out,xZ.out⟩
    case measure=>simp[intOf];omega
  ·obtain rfl:j=ks.length:=by omega
   have HL2:=zh (show lims ks d' l'=some lc by have:=HLI.out;rw[List.take_of_length_le (by omega)]at this;exact this);go_wp2_with fail;go_ret;rw[HX.out,HL2.out];exact⟨rfl,lc,hbx,(fun r h=>by cases h;rfl),hg⟩
def zlA(t:T):Bool:=(lim t 80 2000).isSome&&isB t
theorem zoJ(t:T)(v:Value)(w:World)(hv:NV w Any t v):Calls Tryz.prog 104 #[v] w fun e w'=>e=.returned (.bool (zlA t))/\Below w.heap.size w w':=by
 have HV:=zh hv;have HX:=zh (show zlA t=((lim t 80 2000).isSome&&isB t)from rfl);obtain⟨A,c,rfl,hf,hlk,hlc,hrow⟩:=hv.open_;clear hf hlk hrow hv hlc;generalize t.k=k,t.n=n,t.s=s,t.ks.length=l at *
 have xS:=zh (show NV w (fun b=>b<w.heap.size) t (nv k n s A l c)from HV.out.keep (fun _ _ h=>h) fun _ _ _=>rfl);have hb2:∀o o',Below w.heap.size w ((w.alloc o).alloc o'):=fun o o'=>(zr.alloc zl _).alloc (by simp) _;have HB2:=zh hb2;have aO:=zh (show ∀o:Obj,((w.alloc o).alloc (.cells #[.int .i64 2000] 3)).heap[w.heap.size+1]?=some (.cells #[.int .i64 ((2000:Nat):Int)] 3 (0,0))from fun o=>by
  have:=heap_alloc_new (w.alloc o) (.cells #[.int .i64 2000] 3);simpa using this)
 clear hb2;go_enter Tryz.func104,Tryz.ntmps104;go_wp2_with fail;refine(zqr t 80 2000 (fun b=>b<w.heap.size) _ _ (w.heap.size+1) (xS.out.later (HB2.out _ _)) (fun h=>by have h':w.heap.size+1<w.heap.size:=h;omega) (by omega) (by omega) (aO.out _)).mono ?_;rintro e w1 ⟨rfl,l1,hb1,_,hg1⟩;have q1:Below w.heap.size w w1:=by
  refine(HB2.out (.cells #[.int .u8 k,.int .i64 n,.string s,.slice A l c] 24) (.cells #[.int .i64 2000] 3)).grown hg1 (by simp;omega) ?_;intro g e;injection e with e;omega
 have hc:∀i,w1.cell? ⟨w.heap.size,i,none⟩=((w.alloc (.cells #[.int .u8 k,.int .i64 n,.string s,.slice A l c] 24)).alloc (.cells #[.int .i64 2000] 3)).cell? ⟨w.heap.size,i,none⟩:=fun i =>
  World.cell?_of_block (a:=⟨w.heap.size,i,none⟩) (hg1.block _ (by simp;omega) (fun e=>by simp at e))
 have x0:w1.cell? ⟨w.heap.size,0,none⟩=some (.int .u8 k):=(hc 0).trans (by simp);have x1:w1.cell? ⟨w.heap.size,1,none⟩=some (.int .i64 n):=(hc 1).trans (by simp);have x2:w1.cell? ⟨w.heap.size,2,none⟩=some (.string s):=(hc 2).trans (by simp);have x3:w1.cell? ⟨w.heap.size,3,none⟩=some (.slice A l c):=(hc 3).trans (by simp);have wJ:=HX.out;clear hc hg1 hb1
 cases ho:(lim t 80 2000).isSome
 ·rw[ho]at wJ;go_wp2_with fail;go_ret;exact⟨by rw[wJ];rfl,q1⟩
 ·rw[ho]at wJ;have eu:=zh wJ;clear wJ;go_wp2_with fail;refine(zqL t _ _ (HV.out.later q1)).mono ?_;rintro e w2 ⟨rfl,ak⟩;go_wp2_with fail;go_ret;exact⟨by rw[eu.out];simp,q1.trans (ak.mono q1.size)⟩
def zmg(v:VD):Bool:=zme v.s&&(if v.k=1\/v.k=3 then v.n==0 else if v.k=2 then decide (1<=v.n/\v.n<=16)else false)
theorem zvF{vs:List VD}{f:VD->Bool}{j:Nat}(hj:j<vs.length)(h:(vs.take j).all f=true):(vs.take (j+1)).all f=f vs[j]:=by
 rw[List.take_succ_eq_append_getElem hj,List.all_append,h];simp
theorem zvG{vs:List VD}{f:VD->Bool}{j:Nat}(hj:j<vs.length)(h:f vs[j]=false):vs.all f=false:=by
 simp only[List.all_eq_false];exact⟨vs[j],List.getElem_mem hj,by simp[h]⟩
theorem znx(vs:List VD)(A:Option Addr)(c:Nat)(S:Nat->Prop)(w:World)(hrow:RowV w S A vs)(hl:vs.length<=LV)(_hlc:vs.length<=c) :
  Calls Tryz.prog 103 #[.slice A vs.length c] w fun e w'=>e=.returned (.bool (vs.all zmg))/\Below w.heap.size w w':=by
 have hl':=zly hl;have aa:=zh hrow;clear hrow hl;go_enter Tryz.func103,Tryz.ntmps103;go_wp2_with fail
 go_loopw [7] (fun i wr=>∃j:Nat,j<=vs.length/\i=.int .i64 j/\Below w.heap.size w wr/\Hid ((vs.take j).all zmg=true)) (fun i _=>vs.length-(intOf i).toNat)
 case atStart=>exact⟨0,Nat.zero_le _,rfl,zr,zh (by simp)⟩
 case round =>
  obtain⟨j,hj,rfl,hb,HA⟩:=hrel;by_cases hlt:j<vs.length
  ·obtain⟨a,v,rfl,_,Hv,⟨q0,q1,q2⟩,hf⟩:=(aa.out.later hb).nd hlt;have HT:=zh (show(vs.take (j+1)).all zmg=zmg v by rw[zvF hlt HA.out,Hv.out]);have HN:=zh (show zmg v=false->vs.all zmg=false from fun h=>zvG hlt (by rw[Hv.out];exact h));have HD:=zh (show zmg v=(zme v.s&&(if v.k=1\/v.k=3 then v.n==0 else if v.k=2 then decide (1<=v.n/\v.n<=16)else false))from rfl);obtain⟨s,hs⟩:=zX (v.s);obtain⟨k,hk⟩:=zX (v.k);obtain⟨n,hn⟩:=zX (v.n);have eD:=HD.out;rw[hs,hk,hn]at eD;rw[hs]at q0;rw[hk]at q1;rw[hn]at q2;clear HD hf hs hk hn;have HD:=zh eD;clear eD;go_wp2_with fail;refine(zpt s _).mono ?_;rintro e w1 ⟨rfl,ae⟩;have q1':Below w.heap.size w w1:=(hb.alloc hb.size _).trans (ae.mono (by have:=hb.size;simp;omega));have x1:w1.cell? ⟨wr.heap.size,1,none⟩=some (.int .u8 k):=zb ae (by simp);have x2:w1.cell? ⟨wr.heap.size,2,none⟩=some (.int .i64 n):=zb ae (by simp)
   have eD:=HD.out;clear ae
   cases hnm:zme s
   ·rw[hnm]at eD;have HR:=zh (HN.out (by rw[eD];rfl));clear eD;go_wp2_with fail;go_ret;exact⟨by rw[HR.out];rfl,q1'⟩
   rw[hnm,Bool.true_and]at eD;by_cases sM:k=1\/k=3
   ·rw[if_pos sM]at eD;by_cases hn0:n=0
    ·subst hn0;have HG:=zh (show(vs.take (j+1)).all zmg=true by rw[HT.out,eD];rfl);clear eD;rcases sM with rfl|rfl
     ·go_wp2_with fail
      go_roundw
      case rel=>exact⟨j+1,by omega,by go_num,q1',HG⟩
      case measure=>simp[intOf];omega
     ·go_wp2_with fail
      go_roundw
      case rel=>exact⟨j+1,by omega,by go_num,q1',HG⟩
      case measure=>simp[intOf];omega
    ·have fn:(n != 0)=true:=by simpa using hn0
     have HR:=zh (HN.out (by rw[eD];simpa using hn0));clear eD;rcases sM with rfl|rfl
     ·go_wp2_with fail;go_ret;exact⟨by rw[HR.out];rfl,q1'⟩
     ·go_wp2_with fail;go_ret;exact⟨by rw[HR.out];rfl,q1'⟩
   ·rw[if_neg sM]at eD;have f1:(k==1)=false:=by simp;omega
    have f3:(k==3)=false:=by simp;omega
    by_cases h2:k=2
    ·subst h2;rw[if_pos rfl]at eD;by_cases hl1:n<1
     ·have HR:=zh (HN.out (by rw[eD];simp;omega));clear eD;go_wp2_with fail;go_ret;exact⟨by rw[HR.out];rfl,q1'⟩
     ·by_cases hg16:16<n
      ·have HR:=zh (HN.out (by rw[eD];simp;omega));have rD:1<=n:=by omega
       clear eD hl1;go_wp2_with fail;go_ret;exact⟨by rw[HR.out];rfl,q1'⟩
      ·have HG:=zh (show(vs.take (j+1)).all zmg=true by rw[HT.out,eD];simp;omega);have rD:1<=n:=by omega
       have hg16':n<=16:=by omega
       clear eD hl1 hg16;go_wp2_with fail
       go_roundw
       case rel=>exact⟨j+1,by omega,by go_num,q1',HG⟩
       case measure=>simp[intOf];omega
    ·rw[if_neg h2]at eD;have f2:(k==2)=false:=by simpa using h2
     have HR:=zh (HN.out eD);clear eD;go_wp2_with fail;go_ret;exact⟨by rw[HR.out];rfl,q1'⟩
  ·obtain rfl:j=vs.length:=by omega
   have HR:=zh (show vs.all zmg=true by have:=HA.out;rw[List.take_of_length_le (by omega)]at this;exact this);go_wp2_with fail;go_ret;exact⟨by rw[HR.out];rfl,hb⟩
def zok(r:PR):Bool:=zme r.s&&decide (r.ps.length<=8)&&r.ps.all zmg&&zlA r.b
def zle(p:PG):Bool:=decide (p.vs.length<=32)&&decide (p.prs.length<=64)&&p.vs.all zmg&&p.prs.all zok&&zlA p.m
theorem zsG{vs:List PR}{f:PR->Bool}{j:Nat}(hj:j<vs.length)(h:(vs.take j).all f=true):(vs.take (j+1)).all f=f vs[j]:=by
 rw[List.take_succ_eq_append_getElem hj,List.all_append,h];simp
theorem zsH{vs:List PR}{f:PR->Bool}{j:Nat}(hj:j<vs.length)(h:f vs[j]=false):vs.all f=false:=by
 simp only[List.all_eq_false];exact⟨vs[j],List.getElem_mem hj,by simp[h]⟩
theorem zp2(p:PG)(S:Nat->Prop)(v:Value)(w:World)(hv:PV w S p v):Calls Tryz.prog 76 #[v] w fun e w'=>e=.returned (.bool (zle p))/\Below w.heap.size w w':=by
 obtain⟨A1,c1,A2,c2,A3,c3,rfl,hr⟩:=hv;have HR:=zh hr;have hv1:=zly hr.lv;have hv2:=zly hr.lp;have HX:=zh (show zle p=(decide (p.vs.length<=32)&&decide (p.prs.length<=64)&&p.vs.all zmg&&p.prs.all zok&&zlA p.m)from rfl);have oM:=hr.lpc;obtain⟨L1,hL1⟩:=zX (p.vs.length);obtain⟨L2,hL2⟩:=zX (p.prs.length);obtain⟨k,hk⟩:=zX (p.m.k);obtain⟨n,hn⟩:=zX (p.m.n);obtain⟨s,hs⟩:=zX (p.m.s);obtain⟨l3,hl3⟩:=zX (p.m.ks.length);have qJ:=zh hL1;have HL2:=zh hL2;have hm:=hr.main;rw[hk,hn,hs,hl3]at hm;have HM:=zh hm;have hx:=HX.out;rw[hL1,hL2]at hx;rw[hL1]at hv1;rw[hL2]at hv2 oM;rw[hL1,hL2,hk,hn,hs,hl3];clear hr hm HX hL1 hL2 hk hn hs hl3;have HX:=zh hx;clear hx;have hb0:∀o,Below w.heap.size w (w.alloc o):=fun o=>zr.alloc zl _;have HB0:=zh hb0;clear hb0
 have uq:=zh (show ∀w',Below w.heap.size w w'->Calls Tryz.prog 103 #[.slice A1 L1 c1] w' fun e w''=>e=.returned (.bool (p.vs.all zmg))/\Below w'.heap.size w' w'' from fun w' h=>by
  have:=znx p.vs A1 c1 S w' (HR.out.vars.later h) HR.out.lv HR.out.lvc;rw[qJ.out]at this;exact this)
 by_cases h32:32<L1
 ·have HF:=zh (show zle p=false by rw[HX.out];simp;intro h;omega);have h32':(32:Int)<(L1:Int):=by omega
  go_enter Tryz.func76,Tryz.ntmps76;go_wp2_with fail;go_ret;exact⟨by rw[HF.out];rfl,HB0.out _⟩
 by_cases h64:64<L2
 ·have HF:=zh (show zle p=false by rw[HX.out];simp;intro _ h;omega);have h32':(L1:Int)<=32:=by omega
  have h64':(64:Int)<(L2:Int):=by omega
  clear h32;go_enter Tryz.func76,Tryz.ntmps76;go_wp2_with fail;go_ret;exact⟨by rw[HF.out];rfl,HB0.out _⟩
 have h32':(L1:Int)<=32:=by omega
 have h64':(L2:Int)<=64:=by omega
 have hx:=HX.out;have e1:L1<=32:=by omega
 have e2:L2<=64:=by omega
 rw[decide_eq_true e1,decide_eq_true e2]at hx;simp only[Bool.true_and]at hx;clear HX h32 h64 e1 e2;have HX:=zh hx;clear hx;go_enter Tryz.func76,Tryz.ntmps76;go_wp2_with fail;refine(uq.out _ (HB0.out _)).mono ?_;rintro e w1 ⟨rfl,ae⟩;have q1:Below w.heap.size w w1:=(HB0.out _).trans (ae.mono (by simp));have hbx:w1.heap[w.heap.size]?=some (.cells #[.slice A1 L1 c1,.slice A2 L2 c2,.int .u8 k,.int .i64 n,.string s,.slice A3 l3 c3] 55 (0,0)):=(ae.block _ (by simp)).trans (heap_alloc_new w _);have x1:w1.cell? ⟨w.heap.size,1,none⟩=some (.slice A2 L2 c2):=zc hbx rfl;have hx:=HX.out;clear ae uq
 cases hd:p.vs.all zmg
 ·rw[hd]at hx;have HF:=zh (show zle p=false by rw[hx];rfl);clear hx;go_wp2_with fail;go_ret;exact⟨by rw[HF.out];rfl,q1⟩
 rw[hd,Bool.true_and]at hx;have eu:=zh hx;have aO:=zh hbx;clear hx HX hd hbx;go_wp2_with fail
 go_loopw [24] (fun i wr=>∃j:Nat,j<=L2/\i=.int .i64 j/\Below w1.heap.size w1 wr/\Hid ((p.prs.take j).all zok=true)) (fun i _=>L2-(intOf i).toNat)
 case atStart=>exact⟨0,Nat.zero_le _,rfl,zr,zh (by simp)⟩
 case round =>
  obtain⟨j,hj,rfl,hb,HA⟩:=hrel;have hq:Below w.heap.size w wr:=q1.trans (hb.mono q1.size);by_cases hlt:j<L2
  ·have hlt':j<p.prs.length:=by rw[HL2.out];exact hlt
   obtain⟨a,r,B1,d1,B2,d2,rfl,_,Hr,⟨z0,z1,z2,z3,z4,z5⟩,hrr⟩:=(HR.out.procs.later hq).nd hlt';have HRR:=zh hrr;have HT:=zh (show(p.prs.take (j+1)).all zok=zok r by rw[zsG hlt' HA.out,Hr.out]);have HN:=zh (show zok r=false->zle p=false from fun h=>by rw[eu.out,zsH hlt' (by rw[Hr.out];exact h)];rfl);have qG:=zh (show zok r=(zme r.s&&decide (r.ps.length<=8)&&r.ps.all zmg&&zlA r.b)from rfl);have hd1:=zly hrr.lp;clear hrr;have uq:=zh (show ∀w',Below wr.heap.size wr w'->Calls Tryz.prog 103 #[.slice B1 r.ps.length d1] w' fun e w''=>e=.returned (.bool (r.ps.all zmg))/\Below w'.heap.size w' w'' from fun w' h=>znx r.ps B1 d1 S w' (HRR.out.row.later h) HRR.out.lp HRR.out.lc);have jl:=zh (show ∀w',Below wr.heap.size wr w'->NV w' Any r.b (nv r.b.k r.b.n r.b.s B2 r.b.ks.length d2)from fun w' h=>(HRR.out.body.later h).any);obtain⟨rs,hrs⟩:=zX (r.s)
   obtain⟨rl,hrl⟩:=zX (r.ps.length);obtain⟨bk,hbk⟩:=zX (r.b.k);obtain⟨bn,hbn⟩:=zX (r.b.n);obtain⟨bs,hbs⟩:=zX (r.b.s);obtain⟨bl,hbl⟩:=zX (r.b.ks.length);have hpb:=qG.out;have yK:=uq.out;have hbd:=jl.out;rw[hrs]at z0 hpb;rw[hrl]at z1 hpb yK hd1;rw[hbk]at z2 hbd;rw[hbn]at z3 hbd;rw[hbs]at z4 hbd;rw[hbl]at z5 hbd;clear qG uq jl HRR hrs hrl hbk hbn hbs hbl;have qG:=zh hpb;have uq:=zh yK;have jl:=zh hbd;clear hpb yK hbd;go_wp2_with fail;refine(zpt rs _).mono ?_;rintro e w2 ⟨rfl,ak⟩;have b2:Below wr.heap.size wr w2:=(zr.alloc zl _).trans (ak.mono (by simp));have hbx:w2.heap[wr.heap.size]?=some (.cells #[.string rs,.slice B1 rl d1,.int .u8 bk,.int .i64 bn,.string bs,.slice B2 bl d2] 166 (0,0)):=(ak.block _ (by simp)).trans (heap_alloc_new wr _);have u1:w2.cell? ⟨wr.heap.size,1,none⟩=some (.slice B1 rl d1):=zc hbx rfl;have hpb:=qG.out;clear ak
   cases hnm:zme rs
   ·rw[hnm]at hpb;have HF:=zh (HN.out (by rw[hpb];rfl));clear hpb;go_wp2_with fail;go_ret;exact⟨by rw[HF.out];rfl,hq.trans (b2.mono hq.size)⟩
   rw[hnm,Bool.true_and]at hpb;by_cases h8:8<rl
   ·have HF:=zh (HN.out (by rw[hpb];simp;intro h;omega));have h8':(8:Int)<(rl:Int):=by omega
    clear hpb;go_wp2_with fail;go_ret;exact⟨by rw[HF.out];rfl,hq.trans (b2.mono hq.size)⟩
   rw[decide_eq_true (show rl<=8 by omega),Bool.true_and]at hpb;have h8':(rl:Int)<=8:=by omega
   have oq:=zh hpb;have HBX2:=zh hbx;clear hpb qG h8 hbx;go_wp2_with fail;refine(uq.out _ b2).mono ?_;rintro e w3 ⟨rfl,bW⟩;have b3:=b2.trans (bW.mono b2.size);have hbx:w3.heap[wr.heap.size]?=some (.cells #[.string rs,.slice B1 rl d1,.int .u8 bk,.int .i64 bn,.string bs,.slice B2 bl d2] 166 (0,0)):=(bW.block _ (zki HBX2.out)).trans HBX2.out;have u2:w3.cell? ⟨wr.heap.size,2,none⟩=some (.int .u8 bk):=zc hbx rfl;have u3:w3.cell? ⟨wr.heap.size,3,none⟩=some (.int .i64 bn):=zc hbx rfl;have u4:w3.cell? ⟨wr.heap.size,4,none⟩=some (.string bs):=zc hbx rfl;have u5:w3.cell? ⟨wr.heap.size,5,none⟩=some (.slice B2 bl d2):=zc hbx rfl;have hpb:=oq.out;clear bW u1 hbx
   cases hdd:r.ps.all zmg
   ·rw[hdd]at hpb;have HF:=zh (HN.out (by rw[hpb];rfl));clear hpb;go_wp2_with fail;go_ret;exact⟨by rw[HF.out];rfl,hq.trans (b3.mono hq.size)⟩
   rw[hdd,Bool.true_and]at hpb;have HPD:=zh hpb;clear hpb oq hdd;go_wp2_with fail;refine(zoJ r.b _ _ (jl.out _ b3)).mono ?_;rintro e w4 ⟨rfl,wF⟩;have b4:=b3.trans (wF.mono b3.size);have hpb:=HPD.out;clear wF u2 u3 u4 u5
   cases hbb:zlA r.b
   ·rw[hbb]at hpb;have HF:=zh (HN.out hpb);clear hpb;go_wp2_with fail;go_ret;exact⟨by rw[HF.out];rfl,hq.trans (b4.mono hq.size)⟩
   ·rw[hbb]at hpb;have HG:=zh (show(p.prs.take (j+1)).all zok=true by rw[HT.out];exact hpb);have xW:=zh (hb.trans (b4.mono hb.size));clear hpb;go_wp2_with fail
    go_roundw
    case rel=>exact⟨j+1,by omega,by go_num,xW.out,HG⟩
    case measure=>simp[intOf];omega
  ·obtain rfl:j=L2:=by omega
   have HF:=zh (show zle p=zlA p.m by rw[eu.out];have:=HA.out;rw[List.take_of_length_le (by rw[HL2.out];omega)]at this;rw[this];rfl);have hbx:wr.heap[w.heap.size]?=some (.cells #[.slice A1 L1 c1,.slice A2 j c2,.int .u8 k,.int .i64 n,.string s,.slice A3 l3 c3] 55 (0,0)):=(hb.block _ (zki aO.out)).trans aO.out;have y2:wr.cell? ⟨w.heap.size,2,none⟩=some (.int .u8 k):=zc hbx rfl;have y3:wr.cell? ⟨w.heap.size,3,none⟩=some (.int .i64 n):=zc hbx rfl;have y4:wr.cell? ⟨w.heap.size,4,none⟩=some (.string s):=zc hbx rfl;have y5:wr.cell? ⟨w.heap.size,5,none⟩=some (.slice A3 l3 c3):=zc hbx rfl;go_wp2_with fail;refine(zoJ p.m _ _ (HM.out.later hq).any).mono ?_;rintro e w2 ⟨rfl,ak⟩;go_wp2_with fail;go_ret;exact⟨by rw[HF.out];rfl,hq.trans (ak.mono hq.size)⟩
def zmo(vs:List VD)(s:ByteArray):Int:=if (zlp vs s).isSome then 22 else 0
def useE(vs:List VD)(s:ByteArray)(k:Int):Int:=match zlp vs s with
 | none=>6
 | some v=>if v.k=k then 0 else 7
theorem zn3(vs:List VD)(A:Option Addr)(c:Nat)(s:ByteArray)(S:Nat->Prop)(w:World)(hrow:RowV w S A vs)(hl:vs.length<=LV) :
  Calls Tryz.prog 106 #[.slice A vs.length c,.string s] w fun e w'=>e=.returned (.int .i64 (zmo vs s))/\Below w.heap.size w w':=by
 have aa:=zh hrow;have HL:=zh hl;obtain⟨E,hE⟩:=zX (zmo vs s);rw[hE];have HE:=zh hE;clear hrow hl hE;go_enter Tryz.func106,Tryz.ntmps106;go_wp2_with fail;refine(znL vs A c s S _ aa.out HL.out).mono ?_;rintro e w1 ⟨rfl,ae⟩
 cases hf:zlp vs s with
 | none =>
  have HN:=zh (show E=0 by rw[<-HE.out];simp[zmo,hf]);have HB:=zh (show Below w.heap.size w (w1.alloc (.cells #[.string ⟨#[]⟩,.int .u8 0,.int .i64 0] 76))from ae.alloc ae.size _);clear hf ae;go_wp2_with fail;go_ret;exact⟨by rw[HN.out];rfl,HB.out⟩
 | some v =>
  have HN:=zh (show E=22 by rw[<-HE.out];simp[zmo,hf]);have HB:=zh (show Below w.heap.size w (w1.alloc (.cells #[.string v.s,.int .u8 v.k,.int .i64 v.n] 76))from ae.alloc ae.size _);clear hf ae;go_wp2_with fail;go_ret;exact⟨by rw[HN.out];rfl,HB.out⟩
theorem znf(vs:List VD)(A:Option Addr)(c:Nat)(s:ByteArray)(k:Int)(S:Nat->Prop)(w:World)(hrow:RowV w S A vs)(hl:vs.length<=LV) :
  Calls Tryz.prog 149 #[.slice A vs.length c,.string s,.int .u8 k] w fun e w'=>e=.returned (.int .i64 (useE vs s k))/\Below w.heap.size w w':=by
 have aa:=zh hrow;have HL:=zh hl;obtain⟨E,hE⟩:=zX (useE vs s k);rw[hE];have HE:=zh hE;clear hrow hl hE;go_enter Tryz.func149,Tryz.ntmps149;go_wp2_with fail;refine(znL vs A c s S _ aa.out HL.out).mono ?_;rintro e w1 ⟨rfl,ae⟩
 cases hf:zlp vs s with
 | none =>
  have HN:=zh (show E=6 by rw[<-HE.out];simp[useE,hf]);have HB:=zh (show Below w.heap.size w (w1.alloc (.cells #[.string ⟨#[]⟩,.int .u8 0,.int .i64 0] 76))from ae.alloc ae.size _);clear hf ae;go_wp2_with fail;go_ret;exact⟨by rw[HN.out];rfl,HB.out⟩
 | some v =>
  obtain⟨vm,vk,vl⟩:=v;have HB2:=zh (show Below w.heap.size w (w1.alloc (.cells #[.string vm,.int .u8 vk,.int .i64 vl] 76))from ae.alloc ae.size _);have HN:=zh (show E=if vk=k then 0 else 7 by rw[<-HE.out];simp[useE,hf]);clear hf ae;by_cases hk:vk=k
  ·have e1:(vk==k)=true:=by simpa using hk
   have e2:(vk != k)=false:=by simpa using hk
   have aI:=zh (show E=0 by rw[HN.out,if_pos hk]);clear hk;go_wp2_with fail;go_ret;exact⟨by rw[aI.out];rfl,HB2.out⟩
  ·have e1:(vk==k)=false:=by simpa using hk
   have e2:(vk != k)=true:=by simpa using hk
   have aI:=zh (show E=7 by rw[HN.out,if_neg hk]);clear hk;go_wp2_with fail;go_ret;exact⟨by rw[aI.out];rfl,HB2.out⟩
def idxP(ps:List PR)(s:ByteArray):Option Nat:=ps.findIdx? fun r=>r.s.toList==s.toList
def zlz(ps:List PR)(s:ByteArray):Int:=match idxP ps s with
 | some i=>i
 | none => -1
theorem ztT(rs:ByteArray)(u1 u2 u3 u4 u5:Value)(s:ByteArray)(nb:Nat)(w:World)(hc:w.cell? ⟨nb,0,none⟩=some (.string s)) :
  Calls Tryz.prog 129 #[.agg #[.string rs,u1,u2,u3,u4,u5],.pointer (some ⟨nb,0,none⟩)] w fun e w'=>e=.returned (.bool (rs.toList==s.toList))/\Below w.heap.size w w':=by
 have hc':=zks hc;go_enter Tryz.func129,Tryz.ntmps129;go_wp2_with fail;go_ret;exact⟨rfl,zr.alloc zl _⟩
theorem zor(ps:List PR)(A:Option Addr)(c:Nat)(s:ByteArray)(nb:Nat)(S:Nat->Prop)(w:World)(hrow:RowP w S A ps)(hl:ps.length<=LV)(hc:w.cell? ⟨nb,0,none⟩=some (.string s)) :
  Calls Tryz.prog 128 #[.slice A ps.length c,.func (.func 129) #[] #[.pointer (some ⟨nb,0,none⟩)]] w fun e w'=>e=.returned (.int .i64 (zlz ps s))/\Below w.heap.size w w':=by
 have hl':=zly hl;have aa:=zh hrow;have HC:=zh hc;obtain⟨R,hR⟩:=zX (zlz ps s);rw[hR];have HR:=zh hR;clear hrow hl hc hR;go_enter Tryz.func128,Tryz.ntmps128;go_wp2_with fail
 go_loopw [8] (fun i wr=>∃j:Nat,j<=ps.length/\i=.int .i64 j/\Below w.heap.size w wr/\Hid (∀q (h:q<ps.length),q<j->(ps[q].s.toList==s.toList)=false)) (fun i _=>ps.length-(intOf i).toNat)
 case atStart=>exact⟨0,Nat.zero_le _,rfl,zr,zh fun q _ h=>by omega⟩
 case round =>
  obtain⟨j,hj,rfl,hbl,HJ⟩:=hrel;by_cases hlt:j<ps.length
  ·obtain⟨a,r,B1,f1,B2,f2,rfl,_,Hr,⟨q0,q1,q2,q3,q4,q5⟩,-⟩:=(aa.out.later hbl).nd hlt;obtain⟨b,hb⟩:=zX ((r.s.toList==s.toList));have HB:=zh hb;clear hb;go_wp2_with fail;refine(ztT r.s _ _ _ _ _ s nb _ (zb hbl HC.out)).mono ?_;rintro e w1 ⟨rfl,ae⟩;rw[HB.out];have af:=zh (zkb hbl ae);clear ae q0 q1 q2 q3 q4 q5
   cases b
   ·have HJ2:=zh (show ∀q (h:q<ps.length),q<j+1->(ps[q].s.toList==s.toList)=false from fun q h hq=>by
     by_cases e:q<j
     ·exact HJ.out q h e
     ·obtain rfl:q=j:=by omega
      rw[Hr.out];exact HB.out)
    go_wp2_with fail
    go_roundw
    case rel=>exact⟨j+1,by omega,by go_num,af.out,HJ2⟩
    case measure=>simp[intOf];omega
   ·have HN:=zh (show R=j by
     rw[<-HR.out];have:idxP ps s=some j:=List.findIdx?_eq_some_iff_getElem.2 ⟨hlt,by rw[Hr.out];exact HB.out,fun q hq=>by rw[HJ.out q (by omega) hq];simp⟩;simp[zlz,this])
    go_wp2_with fail;go_ret;exact⟨by rw[HN.out];rfl,af.out⟩
  ·have HN:=zh (show R = -1 by
    rw[<-HR.out];have:idxP ps s=none:=List.findIdx?_eq_none_iff.2 fun r hr=>by
     obtain⟨q,hq,rfl⟩:=List.getElem_of_mem hr;exact HJ.out q hq (by omega)
    simp[zlz,this])
   have af:=zh hbl;clear hbl;go_wp2_with fail;go_ret;exact⟨by rw[HN.out];rfl,af.out⟩
theorem zna(p:PG)(S:Nat->Prop)(v:Value)(s:ByteArray)(w:World)(hv:PV w S p v):Calls Tryz.prog 107 #[v,.string s] w fun e w'=>e=.returned (.int .i64 (zlz p.prs s))/\Below w.heap.size w w':=by
 obtain⟨A1,c1,A2,c2,A3,c3,rfl,hr⟩:=hv;have HR:=zh hr;obtain⟨L1,hL1⟩:=zX (p.vs.length);rw[hL1];clear hr hL1;go_enter Tryz.func107,Tryz.ntmps107;go_wp2_with fail;refine(zor p.prs A2 c2 s (w.heap.size+1) S _ (HR.out.procs.later (zkc (zkc zr _) _)) HR.out.lp (by simp)).mono ?_;rintro e w1 ⟨rfl,ae⟩;have HB:=zh (zkb (zkc (zkc (zs w) _) _) ae);clear ae;go_wp2_with fail;go_ret;exact⟨rfl,HB.out⟩
end
section
open Go Go.RowKit
theorem zo5:∀(prs:List PR) (s:ByteArray) (i:Nat),prcI prs s=some i->zlz prs s=(i:Int)/\i<prs.length
 | [],_,_,h=>by simp[prcI]at h
 | q::qs,s,i,h=>by
  unfold prcI at h;unfold zlz idxP;rw[List.findIdx?_cons]
  split at h
  ·rename_i h0;injection h with h;subst h;rw[if_pos h0];exact⟨rfl,by simp⟩
  ·rename_i h0;rw[if_neg h0];obtain⟨j,hj,rfl⟩:=Option.map_eq_some_iff.1 h;have h5:=zo5 qs s j hj;unfold zlz idxP at h5
   cases hf:List.findIdx? (fun r=>r.s.toList==s.toList) qs with
   | none =>
    rw[hf]at h5;have h6:(-1:Int)=(j:Int):=h5.1;omega
   | some m =>
    rw[hf]at h5;have h6:(m:Int)=(j:Int):=h5.1;exact⟨by show((m+1:Nat):Int)=((j+1:Nat):Int);omega,by have:=h5.2;simp;omega⟩
def strA(l:List ByteArray):Array Value:=(l.map Value.string).toArray
theorem zxF:(Tryz.prog.info? 9).map (fun i=>(i.zero,i.size,i.bytes))=some (some (.string ⟨#[]⟩),1,16):=by kernel_rfl
theorem zuQ(n:Nat):madeCells (Value.string ⟨#[]⟩).cells (n*1)=strA (List.replicate n ⟨#[]⟩):=by
 unfold strA;apply Array.ext';apply List.ext_getElem
 ·rw[Array.length_toList,size_madeCells];simp
 ·intro i h1 h2;have e:i % 1=0:=by omega
  simp[madeCells,Value.cells,e]
theorem zyb(n:Nat)(hn:n<=17592186044416)(w:World):(Instr.makeSlice 228 (.int .i64 (n:Int)) (.int .i64 (n:Int))).run Tryz.prog w=.ok (.slice (some ⟨w.heap.size,0,none⟩) n n) (w.alloc (.cells (strA (List.replicate n ⟨#[]⟩)) 9)):=by
 have h:=zxF;obtain⟨i,hi,hz⟩:=Option.map_eq_some_iff.1 h;injection hz with h1 h2;injection h2 with h2 h3;have:=zlg (P:=Tryz.prog) 228 9 i (.string ⟨#[]⟩) Tryz.underlying228 hi h1 .i64 .i64 n n zl (by rw[h3];omega) (by omega) w;rw[h2,zuQ]at this;exact this
def argL(ks:List T)(j:Nat):List ByteArray:=(ks.take j).map (·.s)++List.replicate (ks.length-j) ⟨#[]⟩
theorem zwq(ks:List T):argL ks 0=List.replicate ks.length ⟨#[]⟩:=by simp[argL]
theorem zvE(ks:List T):argL ks ks.length=ks.map (·.s):=by simp[argL]
theorem zvD(ks:List T){j:Nat}(hj:j<=ks.length):(argL ks j).length=ks.length:=by simp[argL];omega
theorem zvC(ks:List T){j:Nat}(hj:j<ks.length):(strA (argL ks j)).setIfInBounds j (.string ks[j].s)=strA (argL ks (j+1)):=by
 unfold strA;rw[List.setIfInBounds_toArray,<-List.map_set];congr 2;unfold argL;refine List.ext_getElem (by simp;omega) fun i h1 h2=>?_;rw[List.getElem_set];simp only[List.length_append,List.length_map,List.length_take,List.length_replicate,List.length_set]at h1 h2;by_cases e:j=i
 ·subst e;rw[if_pos rfl,List.getElem_append_left (by simp;omega)];simp
 ·rw[if_neg e];by_cases hi:i<j
  ·rw[List.getElem_append_left (by simp;omega),List.getElem_append_left (by simp;omega)];simp
  ·rw[List.getElem_append_right (by simp;omega),List.getElem_append_right (by simp;omega)];simp
theorem zuv{W:World}{b:Nat}{E:TypeId}{l:List ByteArray}(h:W.heap[b]?=some (.cells (strA l) E (0,0))):RowS W (some ⟨b,0,none⟩) l:=fun i hi=>by
 have ha:(⟨b,0,none⟩:Addr).add i=⟨b,i,none⟩:=by rw[Addr.add_lit,Nat.zero_add]
 refine⟨⟨b,0,none⟩,rfl,?_⟩;rw[ha];simp only[World.cell?,h];simp[strA,hi]
theorem RI.count{C:RC}(hC:C.Ok){W:World}{r:RS}(h:RI C W r){i:Nat}(hi:i<r.ent.length)(hn:r.ent.getD i 0+1<=r.n) :
  ∃g c,C.ev=.slice (some ⟨g,0,none⟩) r.ent.length c/\W.cell? ⟨g,i,none⟩=some (.int .i64 (r.ent.getD i 0:Nat))/\W.frozen? ⟨g,i,none⟩=false /\
   RI C (W.setCell ⟨g,i,none⟩ (.int .i64 ((r.ent.getD i 0+1:Nat):Int))) { r with ent:=r.ent.set i (r.ent.getD i 0+1) }/\Kpt C.n0 C.kb W (W.setCell ⟨g,i,none⟩ (.int .i64 ((r.ent.getD i 0+1:Nat):Int))):=by
 obtain⟨e1,h2⟩:=h.ent;rcases h2 with h2|⟨g,cap,cur,hev,hb,hg,hcap,hlen,hsz,kV⟩
 ·have hn0:r.ent.length=0:=h2.2;omega
 ·have hcz:cur[i]?=some (.int .i64 (r.ent.getD i 0:Nat)):=by
   have h3:(zkf (r.ent.map Int.ofNat))[i]?=some (.int .i64 (r.ent.getD i 0:Nat)):=by simp[zkf,hi]
   rw[<-kV,List.getElem?_take]at h3
   split at h3
   ·simpa using h3
   ·cases h3
  have hci:i<cur.size:=by
   rcases Nat.lt_or_ge i cur.size with h|h
   ·exact h
   ·rw[Array.getElem?_eq_none h]at hcz;cases hcz
  have hrb:g≠C.rb:=fun e=>hC.ev.1 (by rw[hev,<-e];rfl);have hkb:¬ C.kb g:=hC.ev.2 g (by rw[hev];rfl);have hch:Chg (fun b=>b=g) W (W.setCell ⟨g,i,none⟩ (.int .i64 ((r.ent.getD i 0+1:Nat):Int))):=(Chg.refl (fun b=>b=g) W).setCell (p:=⟨g,i,none⟩) (.inl rfl) _;have hnn:=h.ks.hn;refine⟨g,cap,hev,zc hg hcz,zf hg,⟨h.ks.chg hch fun b _ e=>⟨by omega,.inr (.inr (.inr (by rw[hev,e];rfl)))⟩,?_,?_,by simp[h.el],?_,h.n,h.fb⟩,Kpt.chg hch fun b e=>⟨by omega,by rw[e];exact hkb⟩⟩
  ·rw[Below.heap_setCell _ _ _ _ (fun e=>hrb (by simpa using e.symm))];exact h.box
  ·have hs:=heap_setCell_same W g i _ _ (.int .i64 ((r.ent.getD i 0+1:Nat):Int)) hg;refine⟨by simp[zkf],.inr ⟨g,cap,_,by rw[hev];simp,hb,hs,by simpa using hcap,by simpa using hlen,by simpa using hsz,?_⟩⟩;have e2:((cur.setIfInBounds i (.int .i64 ((r.ent.getD i 0+1:Nat):Int))).toList.take ((r.ent.set i (r.ent.getD i 0+1)).length*1))=(cur.toList.take (r.ent.length*1)).set i (.int .i64 ((r.ent.getD i 0+1:Nat):Int)):=by
    rw[Array.toList_setIfInBounds,List.length_set,List.take_set]
   rw[e2,kV];simp[zkf,List.map_set]
  ·intro c hc;rcases List.mem_or_eq_of_mem_set hc with hc|rfl
   ·exact h.en c hc
   ·exact hn
theorem zvc:IsFn Tryz.prog 184 Tryz.f184:=⟨Tryz.func184,by kernel_rfl,by kernel_rfl⟩
def caR(prs:List PR)(F:Int)(g:Nat)(back:Bool)(i:Nat)(b:T)(r:RS):Out :=
 (zld (zkB prs F g back) (blkL back b) { r with ent:=r.ent.set i (r.ent.getD i 0+1) }).bind fun r=>(zkF F r).bind fun r=>zkl r (zmd r.S)
def caO(prs:List PR)(F:Int)(g:Nat)(back:Bool)(i:Nat)(q:PR)(ss:List ByteArray)(r:RS):Out :=
 (zkF F r).bind fun r=>(zkl r (zl3 r.S q.ps ss)).bind (caR prs F g back i q.b)
theorem znI{G:List PR->T->Prop}{g:Nat}(hS:IStC G g){C:RC}(hC:C.Ok){W:World}{r:RS}(h:RI C W r)(t:T)(v:Value)(back:Bool)(hv:NV C.w Any t v)(i:Nat)(hi:prcI C.p.prs t.s=some i)(q:PR)(hq:C.p.prs[i]?=some q)(hG1:∀u∈q.b.ks,G C.p.prs u)
  (aD:caO C.p.prs C.F g back i q (t.ks.map (·.s)) r ≠ .gas) :
  Calls Tryz.prog 171 #[.pointer (some ⟨C.rb,0,none⟩),v,.bool back] W (RunP C W (caO C.p.prs C.F g back i q (t.ks.map (·.s)) r)):=by
 have HV:=zh hv;have H:=zh h;have HS:=zh hS;have HC:=zh hC;obtain⟨hpi,hil⟩:=zo5 _ _ _ hi;obtain⟨A,c,rfl,-,hlk,hlc,hrow⟩:=hv.open_;have aa:=zh hrow;have hb0:=zkc (zs W) (.cells #[.int .u8 t.k,.int .i64 t.n,.string t.s,.slice A t.ks.length c] 24);have k0:=heap_alloc_new W (.cells #[.int .u8 t.k,.int .i64 t.n,.string t.s,.slice A t.ks.length c] 24);obtain⟨x0,x1,x2,x3⟩:=box4 k0;have iG:=zh h.below;obtain⟨w1,hw1⟩:=zX (W.alloc (.cells #[.int .u8 t.k,.int .i64 t.n,.string t.s,.slice A t.ks.length c] 24));have hz1:w1.heap.size=W.heap.size+1:=by rw[<-hw1];simp
 rw[hw1]at hb0 k0 x0 x1 x2 x3;have hmk:=zyb t.ks.length (by unfold LK at hlk;omega);have hb1:=zkc hb0 (.cells (strA (List.replicate t.ks.length ⟨#[]⟩)) 9);have k1:=heap_alloc_new w1 (.cells (strA (List.replicate t.ks.length ⟨#[]⟩)) 9);have j0:=zkg k0 (.cells (strA (List.replicate t.ks.length ⟨#[]⟩)) 9);rw[hz1]at k1;rw[<-zwq]at hmk;have hz2:(w1.alloc (.cells (strA (argL t.ks 0)) 9)).heap.size=W.heap.size+2:=by simp[hz1]
 rw[<-zwq]at hb1 k1 j0;have HB1:=zh hb1;have K1:=zh k1;have J0:=zh j0;obtain⟨o,ho⟩:=zX (caO C.p.prs C.F g back i q (t.ks.map (·.s)) r);have bO:=zh ho;have HO:=zh (show(zkF C.F r).bind (fun r=>(zkl r (zl3 r.S q.ps (t.ks.map (·.s)))).bind (caR C.p.prs C.F g back i q.b))=o from ho);rw[ho]at aD ⊢;have dz:=zh aD;have HPI:=zh hpi;have pX:=zh hil;have HQ:=zh hq;have hlk2:t.ks.length<=17592186044416:=by unfold LK at hlk;omega
 have HZ2:=zh hz2;clear hv hb0 k0 h ho aD hrow hS hC hlk hpi hil hq hi hb1 k1 j0 hz2;go_enter Tryz.func171,Tryz.ntmps171;go_wp2_with fail;clear x0 x1 x2 x3 hw1 hmk;have gZ:=zh (fun j (hj:j<t.ks.length)=>zvC t.ks hj);have HAN:=zh (fun j (hj:j<=t.ks.length)=>zvD t.ks hj)
 go_loopw [18] (fun x wr=>∃j:Nat,j<=t.ks.length/\x=.int .i64 j/\Hid (Below W.heap.size W wr)/\Hid (wr.heap[W.heap.size]?=some (.cells #[.int .u8 t.k,.int .i64 t.n,.string t.s,.slice A t.ks.length c] 24 (0,0)))/\Hid (wr.heap[W.heap.size+1]?=some (.cells (strA (argL t.ks j)) 9 (0,0)))) (fun x _=>t.ks.length-(intOf x).toNat)
 case atStart=>exact⟨0,Nat.zero_le _,rfl,HB1,J0,K1⟩
 case round =>
  obtain⟨j,hj,rfl,af,HJ,HK⟩:=hrel;clear HB1 J0 K1;by_cases hlt:j<t.ks.length
  ·obtain⟨a,u,Au,cu,rfl,-,Hu,⟨p0,p1,p2,p3⟩,-⟩:=aa.out.nd hlt;have hbb:=zkb iG.out af.out;have q0:=zb hbb p0;have q1:=zb hbb p1;have q2:=zb hbb p2;have q3:=zb hbb p3;have hj1:(j:Int)<(t.ks.length:Int):=by omega
   have hj0:(0:Int)<=(j:Int):=by omega
   have kz:=zkg HK.out (.cells #[.int .u8 u.k,.int .i64 u.n,.string u.s,.slice Au u.ks.length cu] 24);have jz:=zkg HJ.out (.cells #[.int .u8 u.k,.int .i64 u.n,.string u.s,.slice Au u.ks.length cu] 24);have hbz:=zkc af.out (.cells #[.int .u8 u.k,.int .i64 u.n,.string u.s,.slice Au u.ks.length cu] 24);have zc:∃y,(strA (argL t.ks j))[j]?=some y:=⟨_,Array.getElem?_eq_getElem (by simp[strA,HAN.out j hj];exact hlt)⟩
   obtain⟨y,hy⟩:=zc;have zy:=zc kz hy;have zf:(wr.alloc (.cells #[.int .u8 u.k,.int .i64 u.n,.string u.s,.slice Au u.ks.length cu] 24)).frozen? ⟨W.heap.size+1,j,none⟩=false:=zf kz;have vg:=zh hbz;have HKZ:=zh kz;have HJZ:=zh jz;have hwlt:W.heap.size+1<wr.heap.size:=zki HK.out;clear hbb p0 p1 p2 p3 kz jz hbz hy;go_wp2_with fail
   go_roundw
   case rel =>
    have hch:=(Chg.refl (fun b=>b=W.heap.size+1) wr).setCell (p:=⟨W.heap.size+1,j,none⟩) (.inl rfl) (.string u.s);refine⟨j+1,by omega,by go_num,zh (zkc (af.out.trans (hch.below af.out.size fun b e=>by omega)) _),zh (zkg (hch.keep HJ.out (by omega)) _),zh ?_⟩;have:=heap_setCell_same _ (W.heap.size+1) j _ _ (.string u.s) HK.out;refine zkg ?_ _;rw[this,<-gZ.out j hlt,Hu.out]
   case measure=>simp[intOf];omega
  ·obtain rfl:j=t.ks.length:=by omega
   rw[zvE]at HK;have hj1:¬ (t.ks.length:Int)<(t.ks.length:Int):=by omega
   have hrn:=H.out.n;have hel:=H.out.el;obtain⟨pa,q1,B1,d1,B2,d2,hA2,-,Hq1,⟨p0,p1,p2,p3,p4,p5⟩,hpr⟩:=HC.out.pg.procs.nd pX.out;obtain rfl:q=q1:=by
    have e:=HQ.out;rw[List.getElem?_eq_getElem pX.out,Hq1.out]at e;injection e with e;exact e.symm
   have HPRR:=zh hpr;have hbb:=zkb iG.out af.out;have dA:=zh hbb;have eU:=zh (fun w' (hb:Below wr.heap.size wr w')=>zna C.p Any (pv C.A1 C.p.vs.length C.c1 C.A2 C.p.prs.length C.c2 C.p.m.k C.p.m.n C.p.m.s C.A3 C.p.m.ks.length C.c3) t.s w' ⟨_,_,_,_,_,_,rfl,HC.out.pg.later (zkb dA.out hb)⟩);rw[HPI.out]at eU;have HXB:=zh (zka H.out.box af.out);rw[hA2]at eU;have iW:Hid (wr.cell? ⟨C.rb,0,none⟩=some (.slice C.A1 C.p.vs.length C.c1)/\wr.cell? ⟨C.rb,1,none⟩=some (.slice (some pa) C.p.prs.length C.c2)/\wr.cell? ⟨C.rb,2,none⟩=some (.int .u8 C.p.m.k)/\wr.cell? ⟨C.rb,3,none⟩=some (.int .i64 C.p.m.n)/\wr.cell? ⟨C.rb,4,none⟩=some (.string C.p.m.s)/\wr.cell? ⟨C.rb,5,none⟩=some (.slice C.A3 C.p.m.ks.length C.c3)) :=
    zh ⟨zc HXB.out rfl,by rw[<-hA2];exact zc HXB.out rfl,zc HXB.out rfl,zc HXB.out rfl,zc HXB.out rfl,zc HXB.out rfl⟩
   have tX:=zh (show(i:Int)<(C.p.prs.length:Int) by have:=pX.out;omega);obtain⟨rb,hrb⟩:=zX (C.rb);obtain⟨z1,hz1⟩:=zX (C.A1);obtain⟨z2,hz2⟩:=zX (C.p.vs.length);obtain⟨z3,hz3⟩:=zX (C.c1);obtain⟨z5,nM⟩:=zX (C.p.prs.length);obtain⟨z6,fF⟩:=zX (C.c2);obtain⟨z7,lM⟩:=zX (C.p.m.k);obtain⟨z8,qP⟩:=zX (C.p.m.n);obtain⟨z9,lL⟩:=zX (C.p.m.s);obtain⟨z10,jK⟩:=zX (C.A3);obtain⟨z11,qR⟩:=zX (C.p.m.ks.length);obtain⟨z12,qQ⟩:=zX (C.c3);rw[hz1,hz2,hz3,nM,fF,lM,qP,lL,jK,qR,qQ]at eU;rw[hrb,hz1,hz2,hz3,nM,fF,lM,qP,lL,jK,qR,qQ]at iW;have ax:=zh (show ∀w',Below wr.heap.size wr w'->(fun w':World=>zv w' rb 0 (.slice z1 z2 z3)/\zv w' rb 1 (.slice (some pa) z5 z6)/\zv w' rb 2 (.int .u8 z7)/\zv w' rb 3 (.int .i64 z8)/\zv w' rb 4 (.string z9)/\zv w' rb 5 (.slice z10 z11 z12)/\zv w' W.heap.size 2 (.string t.s)) w' from fun w' hb=>by
    obtain⟨y0,y1,y2,y3,y4,y5⟩:=iW.out;exact⟨zb hb y0,zb hb y1,zb hb y2,zb hb y3,zb hb y4,zb hb y5,zb hb (zc HJ.out rfl)⟩)
   have iq:=zh (ax.out _ zr.drew);have oq:=zh (show C.w.cell? (pa.add (i*6))=_/\_/\_/\_/\_/\_ from⟨p0,p1,p2,p3,p4,p5⟩);clear p0 p1 p2 p3 p4 p5 hpr hbb hz1 hz2 hz3 fF lM qP lL jK qR qQ hel hrn hj1;have jy:=zh nM;rw[nM]at tX;clear nM;have fu:=zh hrb;clear hrb hA2;rw[fu.out];have hj1:¬ (t.ks.length:Int)<(t.ks.length:Int):=by omega
   go_upto_region 7 with fail
   go_region_held3 (fun w':World=>zv w' rb 0 (.slice z1 z2 z3)/\zv w' rb 1 (.slice (some pa) z5 z6)/\zv w' rb 2 (.int .u8 z7)/\zv w' rb 3 (.int .i64 z8)/\zv w' rb 4 (.string z9)/\zv w' rb 5 (.slice z10 z11 z12)/\zv w' W.heap.size 2 (.string t.s))
    (first|with_reducible exact dK.out|with_reducible exact iq.out)
    (first
     | (go_at_call 107;refine(eU.out _ zr.drew).mono ?_;rintro e y1 ⟨rfl,dZ⟩;have b1:=zkb (zs wr).drew dZ;have dK:=zh (ax.out _ b1))
     | fail)
   have hb1:=zkb dA.out b1;have p0:=zb hb1 oq.out.1;have p1:=zb hb1 oq.out.2.1;have p2:=zb hb1 oq.out.2.2.1;have p3:=zb hb1 oq.out.2.2.2.1;have p4:=zb hb1 oq.out.2.2.2.2.1;have p5:=zb hb1 oq.out.2.2.2.2.2;obtain⟨-,e1,-⟩:=dK.out;have hi1:=tX.out;have hi0:(0:Int)<=(i:Int):=by omega
   have gp:=zkc (zkb af.out b1) (.cells #[.string q.s,.slice B1 q.ps.length d1,.int .u8 q.b.k,.int .i64 q.b.n,.string q.b.s,.slice B2 q.b.ks.length d2] 166);have k0:=zkg (zka HJ.out b1) (.cells #[.string q.s,.slice B1 q.ps.length d1,.int .u8 q.b.k,.int .i64 q.b.n,.string q.b.s,.slice B2 q.b.ks.length d2] 166);have k1:=zkg (zka HK.out b1) (.cells #[.string q.s,.slice B1 q.ps.length d1,.int .u8 q.b.k,.int .i64 q.b.n,.string q.b.s,.slice B2 q.b.ks.length d2] 166);have k2:=heap_alloc_new y1 (.cells #[.string q.s,.slice B1 q.ps.length d1,.int .u8 q.b.k,.int .i64 q.b.n,.string q.b.s,.slice B2 q.b.ks.length d2] 166);obtain⟨pb,hpb⟩:=zX (y1.heap.size);have hpl:W.heap.size<=pb:=by rw[<-hpb];exact(zkb af.out b1).size
   obtain⟨w5,eF⟩:=zX (y1.alloc (.cells #[.string q.s,.slice B1 q.ps.length d1,.int .u8 q.b.k,.int .i64 q.b.n,.string q.b.s,.slice B2 q.b.ks.length d2] 166));rw[eF]at gp k0 k1;rw[hpb,eF]at k2;have bV:=zh (Kpt.of_below (n0:=C.n0) (kb:=C.kb) gp);obtain⟨xL,h5⟩:=H.out.plus HC.out gp;have l0:=zki k0;have l1:=zki k1;have l2:=zki k2;obtain⟨hi,hhi⟩:=zX (w5.heap.size);rw[hhi]at xL h5 l0 l1 l2;have ve:=zh xL;have K0:=zh k0;have K1:=zh k1;have K2:=zh k2;have HST:=zh (zlR xL h5);rw[show(C.plus W.heap.size hi).rb=rb from fu.out]at HST;have wQ:=zh hpl;obtain⟨ss,hss⟩:=zX (t.ks.map (·.s));have HSL:=zh (show ss.length=t.ks.length by rw[<-hss];simp);rw[hss]at HO K1;clear hb1 b1 dZ dK ax iq gp k0 k1 k2 xL h5 oq hpl iW eU gZ HAN HK HJ hss;go_upto_region 9 with fail;clear p0 p1 p2 p3 p4 p5 e1 eF hpb;go_wp2_with fail;refine HST.out.mono ?_;rintro e w6 ⟨dn,hb6,ik⟩
   have fB:=zh (bV.out.trans (Kpt.less (C:=C) dn));have aT:=zh (show Below C.w.heap.size C.w w6 from hb6);have bZ:match zkF C.F r with
    | .gas=>True
    | .err x=>e=zlx x
    | .ok r=>(∃u,e=.returned u)/\RI (C.plus W.heap.size hi) w6 r:=ik
   have tT:=zh dn;clear HST dn hb6 ik
   cases hy:zkF C.F r with
   | gas=>exact absurd (by rw[<-HO.out,hy];rfl) dz.out
   | err x =>
    rw[hy]at bZ;subst bZ;refine⟨rfl,fB.out,aT.out,?_⟩
    try rw[bO.out]
    rw[<-HO.out,hy];rfl
   | ok r1 =>
    rw[hy]at bZ;obtain⟨⟨u3,rfl⟩,hr1⟩:=bZ;have gQ:=zh hr1;have lY:=zh (show(zkl r1 (zl3 r1.S q.ps ss)).bind (caR C.p.prs C.F g back i q.b)=o by rw[<-HO.out,hy];rfl);have dM:=zh (show FB r.n r1.S/\r1.n=r.n+1/\r1.ent=r.ent by obtain⟨rfl,-⟩:=zls hy;exact⟨H.out.fb,rfl,rfl⟩);have j2:=tT.out.blk (.inr (.inr ⟨wQ.out,l2⟩)) K2.out;have hSS:zW (fun w':World=>zv w' rb 6 (.pointer (some ⟨C.sb,0,none⟩))/\zv w' pb 1 (.slice B1 q.ps.length d1)) zU w6.drew:=⟨⟨by rw[<-fu.out];exact hr1.cells.1,zc j2 rfl⟩,trivial⟩
    clear hr1 hy j2;go_upto_region 10 with fail;refine zG hSS 9 ?_;refine zT 0 hSS ?_;refine zT 1 hSS ?_;refine zT 2 hSS ?_;refine zT 3 hSS ?_;refine zT 4 hSS ?_;refine zT 5 hSS ?_;refine zT 6 hSS ?_;refine zT 7 hSS ?_;obtain⟨R,hR⟩:=zX (zl3 r1.S q.ps ss);have HRR:=zh hR;have hbd:Below w6.heap.size w6 w6.drew:=zr.drew;have hpq:q.ps.length<=1000:=HC.out.ps q (List.mem_of_getElem? HQ.out);have hen:=(gQ.out.later hbd).ks.enter q.ps ss B1 (some ⟨W.heap.size+1,0,none⟩) d1 t.ks.length (HPRR.out.row.later (zkb aT.out hbd)) ((zuv (tT.out.blk (.inr (.inr ⟨Nat.le_succ _,l1⟩)) K1.out)).later hbd) (by omega) (by rw[HSL.out];exact hlk2);rw[HSL.out]at hen
    have had:Calls Tryz.prog 184 [.pointer (some ⟨C.sb,0,none⟩),.slice B1 q.ps.length d1,.slice (some ⟨W.heap.size+1,0,none⟩) t.ks.length t.ks.length].toArray w6.drew fun e w'=>∃v,e=.returned v/\(v=.int .i64 R.1/\RI (C.plus W.heap.size hi) w' { r1 with S:=R.2 }/\Kpt C.n0 (C.plus W.heap.size hi).kb w6 w') :=
     hen.mono fun e w' ⟨h1,h2,h3⟩=>by
      have hs:=RI.store (C:=C.plus W.heap.size hi) (gQ.out.later hbd) (hR▸h2) h3 (by rw[dM.out.2.1,<-hR];exact dM.out.1.enter _ _ hpq);exact⟨_,h1,by rw[hR],hs.1,(Kpt.of_below hbd).trans hs.2⟩
    refine zo 8 fun K hK=>?_;refine zk3 (by rfl) (.func 184) [.tmp 50,.tmp 52,.tmp 53] _ (by rfl) 184 _ zvc (by rfl) _ (by rfl) _ had ?_;rintro v7 w7 ⟨rfl,ry,kH⟩;have tQ:=zh (tT.out.trans kH);have j2:=tQ.out.blk (.inr (.inr ⟨wQ.out,l2⟩)) K2.out;have qC:=zh ry;have rZ:(fun w':World=>zv w' rb 6 (.pointer (some ⟨C.sb,0,none⟩))/\zv w' pb 1 (.slice B1 q.ps.length d1)) w7:=⟨by rw[<-fu.out];exact ry.cells.1,zc j2 rfl⟩
    refine hK.out _ _ ⟨rZ,trivial⟩ ?_;have xV:=zh rZ;have Be:=zh ry.below;clear hK K had ry kH j2 rZ hSS hen;(try simp only[zQ]);have tN:=zh (bV.out.trans (Kpt.less (C:=C) tQ.out));rw[hR]at lY;have had:=zk5 ⟨rb,0,none⟩ R.1 w7;refine zp 9 fun K hK=>?_;refine zk2 (by rfl) (.func 168) [.tmp 46,.tmp 54] _ (by rfl) 168 _ zl9 (by rfl) _ (by rfl) (fun v w'=>w'=w7/\R.1=0) (had.mono ?_) ?_
    ·rintro e y1 ⟨rfl,hv1⟩;rcases hv1 with⟨h0,u0,rfl⟩|⟨h0,rfl⟩
     ·exact .inl ⟨_,rfl,rfl,h0⟩
     ·refine .inr ⟨_,rfl,?_⟩;refine⟨rfl,tN.out,Be.out,?_⟩
      try rw[bO.out]
      rw[<-lY.out,show zkl r1 R=.err R.1 by unfold zkl;rw[if_pos h0]];rfl
    rintro v8 w8 ⟨rfl,h0⟩;have lF:=zh (show caR C.p.prs C.F g back i q.b { r1 with S:=R.2 }=o by rw[<-lY.out,show zkl r1 R=.ok { r1 with S:=R.2 } by unfold zkl;rw[if_neg (by simpa using h0)]];rfl);refine hK.out _ _ xV.out ?_;clear hK K had h0;(try simp only[zQ]);refine zd ?_;obtain⟨r2,hr2⟩:=zX (({ r1 with S:=R.2 }:RS));rw[hr2]at qC lF;have he2:r2.ent.length=C.p.prs.length:=qC.out.el;have hi2:i<r2.ent.length:=by rw[he2];exact pX.out
    have hn2:r2.ent.getD i 0+1<=r2.n:=by
     rw[<-hr2];simp only;rw[dM.out.2.2,dM.out.2.1,List.getD_eq_getElem?_getD,List.getElem?_eq_getElem (by rw[H.out.el];exact pX.out)];have:=H.out.en _ (List.getElem_mem (l:=r.ent) (n:=i) (by rw[H.out.el];exact pX.out));simp only[Option.getD_some];omega
    obtain⟨eg,ec,hev,hcz,hcf,hrc,hkc⟩:=qC.out.count ve.out hi2 hn2;have hev':C.ev=.slice (some ⟨eg,0,none⟩) r2.ent.length ec:=hev;obtain⟨-,-,-,e9,-⟩:=qC.out.cells;have e9':w8.cell? ⟨rb,9,none⟩=some (.slice (some ⟨eg,0,none⟩) z5 ec):=by
     rw[<-fu.out,<-jy.out,<-he2,<-hev'];exact e9
    have hnn:=qC.out.n;have yz:IntKind.i64.wrap ((r2.ent.getD i 0:Nat)+1:Int)=((r2.ent.getD i 0+1:Nat):Int):=by rw[IntWalk.i64_in _ (by omega)];omega
    have iw:=zh (show(runO C.p.prs C.F g back q.b { r2 with ent:=r2.ent.set i (r2.ent.getD i 0+1) }).bind (fun r=>(zkF C.F r).bind fun r=>zkl r (zmd r.S))=o from lF.out);obtain⟨e0,he0⟩:=zX (r2.ent.getD i 0);rw[he0]at hcz hrc hkc yz iw;obtain⟨w9,aP⟩:=zX (w8.setCell ⟨eg,i,none⟩ (.int .i64 ((e0+1:Nat):Int)));rw[aP]at hrc hkc;obtain⟨r3,hr3⟩:=zX (({ r2 with ent:=r2.ent.set i (e0+1) }:RS));rw[hr3]at hrc iw;have lu:=zh hrc;have tO:=zh (tQ.out.trans hkc);have iZ:=zh (bV.out.trans (Kpt.less (C:=C) tO.out));have aW:=zh (show Below C.w.heap.size C.w w9 from hrc.below);have j2:=tO.out.blk (.inr (.inr ⟨wQ.out,l2⟩)) K2.out;have hgu:runO C.p.prs C.F g back q.b r3 ≠ .gas:=fun e=>dz.out (by rw[<-iw.out,e];rfl);have aj:=zh (zla HS.out ve.out lu.out q.b _ back HPRR.out.body hG1 hgu);rw[show(C.plus W.heap.size hi).rb=rb from fu.out]at aj;have HJ2:=zh j2
    have hi1:=tX.out;have hi0:(0:Int)<=(i:Int):=by omega
    rw[show((e0+1:Nat):Int)=(e0:Int)+1 by omega]at yz aP;clear hr2 he2 hi2 hn2 hev hev' e9 hnn he0 hr3 hrc hkc j2 hgu hG1 lF xV hbd hpq hR;go_upto_region 12 with fail;clear aP hcz hcf e9' yz;have q2:w9.cell? ⟨pb,2,none⟩=some (.int .u8 q.b.k):=zc HJ2.out rfl;have q3:w9.cell? ⟨pb,3,none⟩=some (.int .i64 q.b.n):=zc HJ2.out rfl;have q4:w9.cell? ⟨pb,4,none⟩=some (.string q.b.s):=zc HJ2.out rfl;have q5:w9.cell? ⟨pb,5,none⟩=some (.slice B2 q.b.ks.length d2):=zc HJ2.out rfl;go_wp2_with fail;refine aj.out.mono ?_;rintro e bD ⟨hk10,fH,ho10⟩;have HK510:=zh (tO.out.trans hk10);have HK10:=zh (bV.out.trans (Kpt.less (C:=C) HK510.out));have nL:=zh (show Below C.w.heap.size C.w bD from fH);have kF:match runO C.p.prs C.F g back q.b r3 with
     | .gas=>True
     | .err x=>e=zlx x
     | .ok r=>(∃u,e=.returned u)/\RI (C.plus W.heap.size hi) bD r:=ho10
    clear q2 q3 q4 q5 hk10 fH ho10 aj
    cases hx:runO C.p.prs C.F g back q.b r3 with
    | gas=>exact absurd (by rw[<-iw.out,hx];rfl) dz.out
    | err x =>
     rw[hx]at kF;subst kF;refine⟨rfl,HK10.out,nL.out,?_⟩
     try rw[bO.out]
     rw[<-iw.out,hx];rfl
    | ok r4 =>
     rw[hx]at kF;obtain⟨⟨u9,rfl⟩,hr4⟩:=kF;have HST:=zh (zlR ve.out hr4);rw[show(C.plus W.heap.size hi).rb=rb from fu.out]at HST;have fw:=zh (show((zkF C.F r4).bind fun r=>zkl r (zmd r.S))=o by rw[<-iw.out,hx];rfl);have HR10:=zh hr4;clear hx hr4;go_wp2_with fail;refine HST.out.mono ?_;rintro e aZ ⟨iN,o9,oL⟩;have HK511:=zh (HK510.out.trans iN);have kg:=zh (bV.out.trans (Kpt.less (C:=C) HK511.out));have ky:=zh (show Below C.w.heap.size C.w aZ from o9);have kD:match zkF C.F r4 with
      | .gas=>True
      | .err x=>e=zlx x
      | .ok r=>(∃u,e=.returned u)/\RI (C.plus W.heap.size hi) aZ r:=oL
     clear iN o9 oL HST
     cases hy:zkF C.F r4 with
     | gas=>exact absurd (by rw[<-fw.out,hy];rfl) dz.out
     | err x =>
      rw[hy]at kD;subst kD;refine⟨rfl,kg.out,ky.out,?_⟩
      try rw[bO.out]
      rw[<-fw.out,hy];rfl
     | ok r5 =>
      rw[hy]at kD;obtain⟨⟨u9,rfl⟩,kT⟩:=kD;have lC:=zh kT;have jh:=zh (show FB r4.n r5.S/\r5.n=r4.n+1 by obtain⟨rfl,-⟩:=zls hy;exact⟨HR10.out.fb,rfl⟩);obtain⟨Rc,lS⟩:=zX (zmd r5.S);have iX:=zh (show zkl r5 Rc=o by rw[<-fw.out,hy,<-lS];rfl);have y6:aZ.cell? ⟨rb,6,none⟩=some (.pointer (some ⟨C.sb,0,none⟩)):=by rw[<-fu.out];exact kT.cells.1
      clear kT hy;go_wp2_with fail;refine(lC.out.ks.leave).mono ?_;rintro e kN ⟨rfl,h2,h3⟩;have hs:=RI.store (C:=C.plus W.heap.size hi) lC.out h2 h3 (by rw[jh.out.2];exact jh.out.1.leave);rw[lS]at hs ⊢;have mY:=zh hs.1;have HK512:=zh (HK511.out.trans hs.2);have gY:=zh hs.1.below;have jc:=zh (bV.out.trans (Kpt.less (C:=C) HK512.out));clear hs h2 h3 y6;go_wp2_with fail;refine(zk5 ⟨rb,0,none⟩ Rc.1 kN).mono ?_;rintro e y1 ⟨rfl,hv1⟩;rcases hv1 with⟨h0,u0,rfl⟩|⟨h0,rfl⟩
      ·have gT:=zh (show o=.ok { r5 with S:=Rc.2 } by rw[<-iX.out];unfold zkl;rw[if_neg (by simpa using h0)]);have HR13:=zh mY.out.less;clear h0;go_wp2_with fail;go_end0;refine⟨jc.out,gY.out,?_⟩
       try rw[bO.out]
       rw[gT.out];exact⟨⟨_,rfl⟩,HR13.out⟩
      ·refine⟨rfl,jc.out,gY.out,?_⟩
       try rw[bO.out]
       rw[<-iX.out,show zkl r5 Rc=.err Rc.1 by unfold zkl;rw[if_pos h0]]
theorem zqe{G:List PR->T->Prop}{g:Nat}(hS:IStC G g){C:RC}(hC:C.Ok){W:World}{r:RS}(h:RI C W r)(t:T)(v:Value)(back:Bool)(hv:NV C.w Any t v)(hk0:t.k=50)(i:Nat)(hi:prcI C.p.prs t.s=some i)(q:PR)(hq:C.p.prs[i]?=some q)(hG1:∀u∈q.b.ks,G C.p.prs u)
  (o:Out)(ho:caO C.p.prs C.F g back i q (t.ks.map (·.s)) r=o)(hog:o ≠ .gas) :
  Calls Tryz.prog 139 #[.pointer (some ⟨C.rb,0,none⟩),v,.bool back] W (RunP C W o):=by
 have aD:=hog
 cases back
 ·skip
  obtain⟨k,n,s,ks⟩:=t;obtain rfl:k=50:=hk0;obtain⟨A,c,rfl,-,hlk,hlc,-⟩:=hv.open_;have hb0:=zkc (zs W) (.cells #[.int .u8 50,.int .i64 n,.string s,.slice A ks.length c] 24);obtain⟨x0,x1,x2,x3⟩:=box4 (heap_alloc_new W (.cells #[.int .u8 50,.int .i64 n,.string s,.slice A ks.length c] 24));have aN:=zh (Kpt.of_below (n0:=C.n0) (kb:=C.kb) hb0);have aV:=zh (show Calls Tryz.prog 171 #[.pointer (some ⟨C.rb,0,none⟩),.agg #[.int .u8 50,.int .i64 n,.string s,.slice A ks.length c],.bool false] (W.alloc (.cells #[.int .u8 50,.int .i64 n,.string s,.slice A ks.length c] 24)) (RunP C _ o)from ho▸(znI hS hC (h.later hb0) _ _ false hv i hi q hq hG1 (ho▸hog)));clear hv hb0 h aD hG1 ho hi hq;go_enter Tryz.func139,Tryz.ntmps139;go_wp2_with fail;refine aV.out.mono ?_;rintro e w1 ⟨hk1,hb1,ho1⟩
  cases o with
  | gas=>exact absurd rfl hog
  | err x =>
   subst ho1;exact⟨rfl,aN.out.trans hk1,hb1,rfl⟩
  | ok r1 =>
   obtain⟨⟨u,rfl⟩,hr1⟩:=ho1;have HR:=zh hr1;have aB:=zh (aN.out.trans hk1);have HB1:=zh hb1;clear x0 x1 x2 x3 hr1 hk1 hb1;go_wp2_with fail;go_end0;exact⟨aB.out,HB1.out,⟨_,rfl⟩,HR.out⟩
 ·skip
  obtain⟨k,n,s,ks⟩:=t;obtain rfl:k=50:=hk0;obtain⟨A,c,rfl,-,hlk,hlc,-⟩:=hv.open_;have hb0:=zkc (zs W) (.cells #[.int .u8 50,.int .i64 n,.string s,.slice A ks.length c] 24);obtain⟨x0,x1,x2,x3⟩:=box4 (heap_alloc_new W (.cells #[.int .u8 50,.int .i64 n,.string s,.slice A ks.length c] 24));have aN:=zh (Kpt.of_below (n0:=C.n0) (kb:=C.kb) hb0);have aV:=zh (show Calls Tryz.prog 171 #[.pointer (some ⟨C.rb,0,none⟩),.agg #[.int .u8 50,.int .i64 n,.string s,.slice A ks.length c],.bool true] (W.alloc (.cells #[.int .u8 50,.int .i64 n,.string s,.slice A ks.length c] 24)) (RunP C _ o)from ho▸(znI hS hC (h.later hb0) _ _ true hv i hi q hq hG1 (ho▸hog)));clear hv hb0 h aD hG1 ho hi hq;go_enter Tryz.func139,Tryz.ntmps139;go_wp2_with fail;refine aV.out.mono ?_;rintro e w1 ⟨hk1,hb1,ho1⟩
  cases o with
  | gas=>exact absurd rfl hog
  | err x =>
   subst ho1;exact⟨rfl,aN.out.trans hk1,hb1,rfl⟩
  | ok r1 =>
   obtain⟨⟨u,rfl⟩,hr1⟩:=ho1;have HR:=zh hr1;have aB:=zh (aN.out.trans hk1);have HB1:=zh hb1;clear x0 x1 x2 x3 hr1 hk1 hb1;go_wp2_with fail;go_end0;exact⟨aB.out,HB1.out,⟨_,rfl⟩,HR.out⟩
theorem zqd{G:List PR->T->Prop}{g:Nat}(hS:IStC G g){C:RC}(hC:C.Ok){W:World}{r:RS}(h:RI C W r)(t:T)(v:Value)(back:Bool)(hv:NV C.w Any t v)(hk0:t.k=51)(i:Nat)(hi:prcI C.p.prs t.s=some i)(q:PR)(hq:C.p.prs[i]?=some q)(hG1:∀u∈q.b.ks,G C.p.prs u)
  (o:Out)(ho:caO C.p.prs C.F g (!back) i q (t.ks.map (·.s)) r=o)(hog:o ≠ .gas) :
  Calls Tryz.prog 139 #[.pointer (some ⟨C.rb,0,none⟩),v,.bool back] W (RunP C W o):=by
 have aD:=hog
 cases back
 ·skip
  change caO C.p.prs C.F g true i q (t.ks.map (·.s)) r=o at ho;obtain⟨k,n,s,ks⟩:=t;obtain rfl:k=51:=hk0;obtain⟨A,c,rfl,-,hlk,hlc,-⟩:=hv.open_;have hb0:=zkc (zs W) (.cells #[.int .u8 51,.int .i64 n,.string s,.slice A ks.length c] 24);obtain⟨x0,x1,x2,x3⟩:=box4 (heap_alloc_new W (.cells #[.int .u8 51,.int .i64 n,.string s,.slice A ks.length c] 24));have aN:=zh (Kpt.of_below (n0:=C.n0) (kb:=C.kb) hb0);have aV:=zh (show Calls Tryz.prog 171 #[.pointer (some ⟨C.rb,0,none⟩),.agg #[.int .u8 51,.int .i64 n,.string s,.slice A ks.length c],.bool true] (W.alloc (.cells #[.int .u8 51,.int .i64 n,.string s,.slice A ks.length c] 24)) (RunP C _ o)from ho▸(znI hS hC (h.later hb0) _ _ true hv i hi q hq hG1 (ho▸hog)));clear hv hb0 h aD hG1 ho hi hq;go_enter Tryz.func139,Tryz.ntmps139;go_wp2_with fail;refine aV.out.mono ?_;rintro e w1 ⟨hk1,hb1,ho1⟩
  cases o with
  | gas=>exact absurd rfl hog
  | err x =>
   subst ho1;exact⟨rfl,aN.out.trans hk1,hb1,rfl⟩
  | ok r1 =>
   obtain⟨⟨u,rfl⟩,hr1⟩:=ho1;have HR:=zh hr1;have aB:=zh (aN.out.trans hk1);have HB1:=zh hb1;clear x0 x1 x2 x3 hr1 hk1 hb1;go_wp2_with fail;go_end0;exact⟨aB.out,HB1.out,⟨_,rfl⟩,HR.out⟩
 ·skip
  change caO C.p.prs C.F g false i q (t.ks.map (·.s)) r=o at ho;obtain⟨k,n,s,ks⟩:=t;obtain rfl:k=51:=hk0;obtain⟨A,c,rfl,-,hlk,hlc,-⟩:=hv.open_;have hb0:=zkc (zs W) (.cells #[.int .u8 51,.int .i64 n,.string s,.slice A ks.length c] 24);obtain⟨x0,x1,x2,x3⟩:=box4 (heap_alloc_new W (.cells #[.int .u8 51,.int .i64 n,.string s,.slice A ks.length c] 24));have aN:=zh (Kpt.of_below (n0:=C.n0) (kb:=C.kb) hb0);have aV:=zh (show Calls Tryz.prog 171 #[.pointer (some ⟨C.rb,0,none⟩),.agg #[.int .u8 51,.int .i64 n,.string s,.slice A ks.length c],.bool false] (W.alloc (.cells #[.int .u8 51,.int .i64 n,.string s,.slice A ks.length c] 24)) (RunP C _ o)from ho▸(znI hS hC (h.later hb0) _ _ false hv i hi q hq hG1 (ho▸hog)));clear hv hb0 h aD hG1 ho hi hq;go_enter Tryz.func139,Tryz.ntmps139;go_wp2_with fail;refine aV.out.mono ?_;rintro e w1 ⟨hk1,hb1,ho1⟩
  cases o with
  | gas=>exact absurd rfl hog
  | err x =>
   subst ho1;exact⟨rfl,aN.out.trans hk1,hb1,rfl⟩
  | ok r1 =>
   obtain⟨⟨u,rfl⟩,hr1⟩:=ho1;have HR:=zh hr1;have aB:=zh (aN.out.trans hk1);have HB1:=zh hb1;clear x0 x1 x2 x3 hr1 hk1 hb1;go_wp2_with fail;go_end0;exact⟨aB.out,HB1.out,⟨_,rfl⟩,HR.out⟩
structure GC(G:List PR->T->Prop):Prop where
 two:∀prs t,G prs t->(t.k=52\/t.k=53)->t.ks.length=4/\(∀u∈(kid t 1).ks,G prs u)/\∀u∈(kid t 2).ks,G prs u
 loc:∀prs t,G prs t->t.k=54->t.ks.length=3/\∀u∈(kid t 1).ks,G prs u
 stk:∀prs t,G prs t->t.k=55->t.ks.length=1/\∀u∈(kid t 0).ks,G prs u
 cal:∀prs t,G prs t->(t.k=50\/t.k=51)->∃i q,prcI prs t.s=some i/\prs[i]?=some q/\∀u∈q.b.ks,G prs u
theorem getD_some{prs:List PR}{i:Nat}{q:PR}(h:prs[i]?=some q):prs.getD i ⟨⟨#[]⟩,[],nil0⟩=q:=by
 rw[List.getD_eq_getElem?_getD,h];rfl
theorem zqT{G:List PR->T->Prop}(hG:GC G):∀g,IStC G g
 | 0=>fun C hC W r h t v back hv uQ hg=>absurd rfl hg
 | g+1=>fun C hC W r h t v back hv uQ hg=>by
  have hS:=zqT hG g;by_cases lT:t.k=52
  ·obtain⟨h1,h2,h3⟩:=hG.two _ _ uQ (.inl lT);have e:zkB C.p.prs C.F (g+1) back t r=brO C.p.prs C.F g back t r:=by rw[zkB,if_pos lT];rfl
   rw[e]at hg ⊢;exact zwz hS hC h t v back hv lT h1 h2 h3 _ rfl hg
  by_cases mP:t.k=53
  ·obtain⟨h1,h2,h3⟩:=hG.two _ _ uQ (.inr mP);have e:zkB C.p.prs C.F (g+1) back t r=lpO C.p.prs C.F g back t r:=by rw[zkB,if_neg lT,if_pos mP];rfl
   rw[e]at hg ⊢;exact zsr hS hC h t v back hv mP h1 h2 h3 _ rfl hg
  by_cases eZ:t.k=54
  ·obtain⟨h1,h2⟩:=hG.loc _ _ uQ eZ;have e:zkB C.p.prs C.F (g+1) back t r=loO C.p.prs C.F g back t r:=by rw[zkB,if_neg lT,if_neg mP,if_pos eZ];rfl
   rw[e]at hg ⊢;exact zry hS hC h t v back hv eZ h1 h2 _ rfl hg
  by_cases fI:t.k=55
  ·obtain⟨h1,h2⟩:=hG.stk _ _ uQ fI;have e:zkB C.p.prs C.F (g+1) back t r=lsO C.p.prs C.F g back t r:=by rw[zkB,if_neg lT,if_neg mP,if_neg eZ,if_pos fI];rfl
   rw[e]at hg ⊢;exact zwy hS hC h t v back hv fI h1 h2 hg
  by_cases h5:t.k=50\/t.k=51
  ·obtain⟨i,q,hi,hq,hb⟩:=hG.cal _ _ uQ h5;have e:zkB C.p.prs C.F (g+1) back t r=caO C.p.prs C.F g (back != decide (t.k=51)) i q (t.ks.map (·.s)) r:=by
    rw[zkB,if_neg lT,if_neg mP,if_neg eZ,if_neg fI,if_pos h5,hi];dsimp only;rw[getD_some hq];rfl
   rw[e]at hg ⊢;rcases h5 with h50|lU
   ·have e2:(back != decide (t.k=51))=back:=by rw[show decide (t.k=51)=false by simp[h50]];cases back<;>rfl
    rw[e2]at hg ⊢;exact zqe hS hC h t v back hv h50 i hi q hq hb _ rfl hg
   ·have e2:(back != decide (t.k=51)) = !back:=by rw[show decide (t.k=51)=true by simp[lU]];cases back<;>rfl
    rw[e2]at hg ⊢;exact zqd hS hC h t v back hv lU i hi q hq hb _ rfl hg
  ·have e:zkB C.p.prs C.F (g+1) back t r=basO C.F back t r:=by
    rw[zkB,if_neg lT,if_neg mP,if_neg eZ,if_neg fI,if_neg h5];rfl
   rw[e];exact zuw hC h t v back hv ⟨lT,mP,eZ,fI,fun h=>h5 (.inl h),fun h=>h5 (.inr h)⟩
theorem zra(jb:Nat)(w:World)(h:w.cell? ⟨jb,0,none⟩=some (.slice none 0 0)):Calls Tryz.prog 136 #[.pointer (some ⟨jb,0,none⟩)] w fun e w'=>e=.returned (.int .i64 0)/\w'=w:=by
 go_enter Tryz.func136,Tryz.ntmps136;go_wp2_with fail;go_ret;exact⟨rfl,rfl⟩
theorem zxX:IsFn Tryz.prog 136 Tryz.f136:=⟨Tryz.func136,by kernel_rfl,by kernel_rfl⟩
theorem zwt{P:Program}{c:Code}{Q Q':Exit->Act->World->Prop}{a:Act}{w:World}(h:c.wp P Q a w)(hQ:∀e a' w',Q e a' w'->Q' e a' w'):c.wp P Q' a w :=
 fun b k cs=>let ⟨e,a',w',q,r⟩:=h b k cs;⟨e,a',w',hQ _ _ _ q,r⟩
theorem zwI(C:World->Prop):∃Q:Exit->Act->World->Prop,(∀a' w',a'.defers=[]->C w'->Q .normal a' w')/\∀e a' w',Q e a' w'->e=.normal/\a'.defers=[]/\C w' :=
 ⟨fun e a' w'=>e=.normal/\a'.defers=[]/\C w',fun _ _ h1 h2=>⟨rfl,h1,h2⟩,fun _ _ _ h=>h⟩
theorem tAss(x:Int)(w:World):(Instr.typeAssert (.iface 207 (.agg #[.int .i64 x])) 20 207 true).run Tryz.prog w=.ok (.tuple #[.agg #[.int .i64 x],.bool true]) w:=by kernel_rfl
theorem zvB(a b c:Value)(w:World) :
  CallsD Tryz.prog 137 #[a,b,c] .returning w fun e u' w'=>e=.returned (.tuple #[])/\u'=.returning/\w'=w:=by
 refine callsD_of_wpS Tryz.func137 rfl fun c₀ cs hu=>?_;apply wpS_seq;apply wpS_region;simp[wpOpsS,go_sem,recoverD,hu,Tryz.ntmps137,Exit.thenS];apply wpS_seq;apply wpS_seq;apply wpS_region;simp[wpOpsS,go_sem,Exit.thenS];refine wpS_cond (t:=true) (by simp[Act.eval,Array.replicate]) ?_;simp only[if_true];refine wpS_of_wp (wp_ret ?_)
 cases c₀
 simp_all [bodyPostS,results,Tryz.results137,Exit.thenS]
theorem ztJ(a2 a5 a4 jb:Nat)(x y:Int)(w:World)(h2:w.cell? ⟨a2,0,none⟩=some (.pointer (some ⟨jb,0,none⟩)))(h5:w.cell? ⟨a5,0,none⟩=some (.int .i64 0))(hj:w.cell? ⟨jb,0,none⟩=some (.slice none 0 0))(h4:w.cell? ⟨a4,0,none⟩=some (.int .i64 y))(hf:w.frozen? ⟨a4,0,none⟩=false) :
  CallsD Tryz.prog 137 #[.pointer (some ⟨a2,0,none⟩),.pointer (some ⟨a5,0,none⟩),.pointer (some ⟨a4,0,none⟩)] (.panicking [{ v:=.iface 207 (.agg #[.int .i64 x]),recovered:=false }]) w fun e u' w' =>
   e=.returned (.tuple #[])/\u'=.panicking [{ v:=.iface 207 (.agg #[.int .i64 x]),recovered:=true }]/\w'.cell? ⟨a4,0,none⟩=some (.int .i64 x)/\Chg (fun b=>b=a4) w w':=by
 refine callsD_of_wpS Tryz.func137 rfl fun c₀ cs hu=>?_;apply wpS_seq;apply wpS_region;simp[wpOpsS,go_sem,recoverD,hu,Tryz.ntmps137,Exit.thenS];apply wpS_seq;apply wpS_seq;apply wpS_region;simp[wpOpsS,go_sem,Exit.thenS];refine wpS_cond (t:=false) (by simp[Act.eval,Array.replicate]) ?_;simp only[Bool.false_eq_true,if_false];refine wpS_of_wp (wp_skip ?_);refine wpS_of_wp ?_;obtain⟨Q,uO,hQ2⟩:=zwI (fun w'=>w'.cell? ⟨a4,0,none⟩=some (.int .i64 x)/\Chg (fun b=>b=a4) w w');refine zwt (Q:=Q) ?_ ?_;rotate_left 1
 ·intro e a' w' hq;obtain⟨rfl,h1,h2⟩:=hQ2 _ _ _ hq
  cases c₀
  simp_all [bodyPostS,results,Tryz.results137,Exit.thenS]
 have HQ:=zh uO;clear uO hQ2 hu;refine Eq.mp (congrArg (fun t=>Code.wp Tryz.prog _ Q ⟨t,[]⟩ w) (?e:(#[.pointer (some ⟨a2,0,none⟩),.pointer (some ⟨a5,0,none⟩),.pointer (some ⟨a4,0,none⟩),.iface 207 (.agg #[.int .i64 x]),undef,undef,.iface 207 (.agg #[.int .i64 x]),.iface 207 (.agg #[.int .i64 x]),.bool false,undef,undef,undef,undef,undef,undef,undef,undef,undef,undef,undef,undef,undef,undef,undef,undef,undef]:Array Value)=_)) ?_
 case e=>kernel_rfl
 go_upto_region 2 with fail;have HS:=zh (show ∀w',Below w.heap.size w w'->(fun w':World=>zv w' a2 0 (.pointer (some ⟨jb,0,none⟩))/\zv w' a5 0 (.int .i64 0)) w' from fun w' hb=>⟨zb hb h2,zb hb h5⟩);have kM:=zh (fun w' (hb:Below w.heap.size w w')=>zra jb w' (zb hb hj));have hSS:zW (fun w':World=>zv w' a2 0 (.pointer (some ⟨jb,0,none⟩))/\zv w' a5 0 (.int .i64 0)) zU w.drew:=⟨HS.out _ zr.drew,trivial⟩
 refine wp_region_noPanic ?_;refine zG hSS 3 ?_;refine zT 0 hSS ?_;refine zT 2 hSS ?_;have had:Calls Tryz.prog 136 [.pointer (some ⟨jb,0,none⟩)].toArray w.drew fun e w'=>∃v,e=.returned v/\(v=.int .i64 0/\w'=w.drew):=(kM.out _ zr.drew).mono fun e w' ⟨h1,h2⟩=>⟨_,h1,rfl,h2⟩
 refine zo 1 fun K hK=>?_;refine zke (by rfl) (.func 136) [.tmp 9] _ (by rfl) 136 _ zxX (by rfl) _ (by rfl) _ had ?_;rintro v1 w1 ⟨rfl,rfl⟩;refine hK.out _ _ hSS ?_;clear hK K had;(try simp only[zQ]);refine zp 3 fun K hK=>?_;(try simp only[zA,zB,zC]);go_simp;refine hK.out _ _ hSS.1 ?_;clear hK K;(try simp only[zQ]);refine zd ?_;refine NoPanic.normal ?_;clear hSS HS kM;have ht:=fun w=>tAss x w;obtain⟨w1,hw1⟩:=zX (w.drew);have hb1:Below w.heap.size w w1:=hw1▸zr.drew;have g4:=zb hb1 h4;have gf:w1.frozen? ⟨a4,0,none⟩=false:=hw1▸hf;have hlt:a4<w1.heap.size:=World.block_lt_of_cell? w1 _ g4;have z4:=zks g4 (.cells #[.int .i64 x] 207);have HB1:=zh hb1;rw[hw1];clear h2 h5 hj h4 hf hw1 hb1;go_wp2_with fail;have hch:=(Chg.refl (fun b=>b=a4) w1).setCell (p:=⟨a4,0,none⟩) (.inl rfl) (.int .i64 x)
 exact HQ.out _ _ rfl ⟨zks (by simp[go_sem,g4]) _,(Chg.of_below HB1.out).trans (hch.alloc _)⟩
def AttP(W:World)(R:World->Prop)(X:Int->World->Prop)(e:Ending)(w':World):Prop :=
 (e=.returned (.int .i64 0)/\∃w1,R w1/\Chg (fun b=>W.heap.size<=b/\b<W.heap.size+3) w1 w')\/∃x,e=.returned (.int .i64 x)/\∃w1,X x w1/\Chg (fun b=>W.heap.size<=b/\b<W.heap.size+3) w1 w'
theorem zqO(jb:Nat)(f:FuncId)(fn:Func)(hf:IsFn Tryz.prog f fn)(caps:Array Value)(W:World)(hj:W.heap[jb]?=some (.cells #[.slice none 0 0,.bool false] 185 (0,0)))(R:World->Prop)(X:Int->World->Prop)
  (hact:∀W1,Below W.heap.size W W1->W1.heap.size=W.heap.size+3->Calls Tryz.prog f caps W1 fun e w'=>(∀b,(W.heap.size<=b\/b=jb)->b<W1.heap.size->w'.heap[b]?=W1.heap[b]?)/\(((∃u,e=.returned u)/\R w')\/∃x,e=zlx x/\X x w')) :
  Calls Tryz.prog 116 #[.pointer (some ⟨jb,0,none⟩),.func (.func f) #[] caps] W (AttP W R X):=by
 have vM:∀(fn:Fn) (first cap:Array Value) (w:World),(Instr.makeFunc fn first cap).run Tryz.prog w=.ok (.func fn first cap) w:=fun _ _ _ _=>rfl;have hnf:∀w:World,(binOp BinOp.eql 1 (.func (.func f) #[] caps) .nilFunc).run Tryz.prog w=.ok (.bool false) w:=fun _=>by kernel_rfl
 have HJ:=zh hj;have hjl:=zki hj;have HA:=zh hact;have hLE:=fun w' (hb:Below W.heap.size W w')=>zra jb w' (zb hb (zc hj rfl));have kM:=zh hLE;clear hj hact hLE
 go_enter_defers Tryz.func116,Tryz.ntmps116
 go_wp2_with fail;refine(kM.out _ (zkc (zkc zr _) _)).mono ?_;rintro e w1 ⟨rfl,rfl⟩;go_wp2_with fail;rw[zkE hf,Oper.upon_enter];have k0:=zkg (zkg (heap_alloc_new W (.cells #[.pointer (some ⟨jb,0,none⟩)] 182)) (.cells #[.int .i64 0] 44)) (.cells #[.int .i64 0] 3);have k1:=zkg (heap_alloc_new (W.alloc (.cells #[.pointer (some ⟨jb,0,none⟩)] 182)) (.cells #[.int .i64 0] 44)) (.cells #[.int .i64 0] 3);have k2:=heap_alloc_new ((W.alloc (.cells #[.pointer (some ⟨jb,0,none⟩)] 182)).alloc (.cells #[.int .i64 0] 44)) (.cells #[.int .i64 0] 3);have kj:=zkg (zkg (zkg HJ.out (.cells #[.pointer (some ⟨jb,0,none⟩)] 182)) (.cells #[.int .i64 0] 44)) (.cells #[.int .i64 0] 3);have hb3:=zkc (zkc (zkc (zs W) (.cells #[.pointer (some ⟨jb,0,none⟩)] 182)) (.cells #[.int .i64 0] 44)) (.cells #[.int .i64 0] 3);simp only[World.size_alloc]at k1 k2
 obtain⟨w3,hw3⟩:=zX (((W.alloc (.cells #[.pointer (some ⟨jb,0,none⟩)] 182)).alloc (.cells #[.int .i64 0] 44)).alloc (.cells #[.int .i64 0] 3));have hz3:w3.heap.size=W.heap.size+3:=by rw[<-hw3];simp
 rw[hw3]at k0 k1 k2 kj hb3 ⊢;clear hw3;refine(HA.out w3 hb3 hz3).mono ?_;rintro e w2 ⟨hk,h⟩;have q0:=(hk _ (.inl zl) (by omega)).trans k0;have q1:=(hk _ (.inl (Nat.le_succ _)) (by omega)).trans k1;have q2:=(hk _ (.inl (by omega)) (by omega)).trans k2;have qj:=(hk _ (.inr rfl) (by omega)).trans kj;clear k0 k1 k2 kj hk hb3;rcases h with⟨⟨u,rfl⟩,hR⟩|⟨x,rfl,hX⟩
 ·have c1:w2.cell? ⟨W.heap.size+1,0,none⟩=some (.int .i64 0):=zc q1 rfl;have f1:∀o,w2.frozen? ⟨W.heap.size+1,o,none⟩=false:=fun _=>zf q1;have HRR:=zh hR;clear q0 q2 qj kM HA hR;go_wp2_with fail;refine leaves_cons (f:=137) (args := #[.pointer (some ⟨W.heap.size,0,none⟩),.pointer (some ⟨W.heap.size+1+1,0,none⟩),.pointer (some ⟨W.heap.size+1,0,none⟩)]) (by simp) (by simp[go_sem]) ?_;refine(zvB _ _ _ _).mono ?_;rintro e u' w'' ⟨rfl,rfl,rfl⟩;have hch:=(Chg.refl (fun b=>W.heap.size<=b/\b<W.heap.size+3) w2).setCell (p:=⟨W.heap.size+1,0,none⟩) (.inl ⟨Nat.le_succ _,by simp⟩) (.int .i64 0);have hc2:(w2.setCell ⟨W.heap.size+1,0,none⟩ (.int .i64 0)).cell? ⟨W.heap.size+1,0,none⟩=some (.int .i64 0):=by simp[go_sem,c1]
  have HP:AttP W R X (.returned (.int .i64 0)) (w2.setCell ⟨W.heap.size+1,0,none⟩ (.int .i64 0)):=.inl ⟨rfl,w2,HRR.out,hch⟩;simp[Leaves,settle,results,Tryz.results116,go_sem,hc2,HP]
 ·have p0:w2.cell? ⟨W.heap.size,0,none⟩=some (.pointer (some ⟨jb,0,none⟩)):=zc q0 rfl;have p1:w2.cell? ⟨W.heap.size+1,0,none⟩=some (.int .i64 0):=zc q1 rfl;have p2:w2.cell? ⟨W.heap.size+1+1,0,none⟩=some (.int .i64 0):=zc q2 rfl;have pj:w2.cell? ⟨jb,0,none⟩=some (.slice none 0 0):=zc qj rfl;have f1:w2.frozen? ⟨W.heap.size+1,0,none⟩=false:=zf q1;refine leaves_cons (f:=137) (args := #[.pointer (some ⟨W.heap.size,0,none⟩),.pointer (some ⟨W.heap.size+1+1,0,none⟩),.pointer (some ⟨W.heap.size+1,0,none⟩)]) (by simp) (by simp[go_sem]) ?_;refine(ztJ _ _ _ jb x 0 _ p0 p2 pj p1 f1).mono ?_;rintro e u' w'' ⟨rfl,rfl,hc2,hch⟩;have HP:AttP W R X (.returned (.int .i64 x)) w'':=.inr ⟨x,rfl,w2,hX,hch.mono fun b _ e=>by omega⟩;simp[Leaves,settle,results,Tryz.results116,go_sem,hc2,HP]
end
section
open Go.RowKit
def zlk(ps:List PR)(k:Int)(s:ByteArray)(l:Nat)(vs:List VD):Int :=
 if k=2 then useE vs s 1 else if k=3 then useE vs s 2 else if k=4\/k=5\/k=44\/k=45 then useE vs s 3 else if k=54\/k=55 then zmo vs s
 else if k=50\/k=51 then(match idxP ps s with
  | none=>6
  | some i=>match ps[i]? with
   | none=>6
   | some r=>if l=r.ps.length then 0 else 7)
 else 0
theorem ztl(p:PG)(t:T)(vs:List VD)(A:Option Addr)(c:Nat)(S S' S'':Nat->Prop)(v1 v2:Value)(w:World)(hv1:PV w S p v1)(hv2:NV w S' t v2)(hrow:RowV w S'' A vs)(hl:vs.length<=LV) :
  Calls Tryz.prog 130 #[v1,v2,.slice A vs.length c] w fun e w'=>e=.returned (.int .i64 (zlk p.prs t.k t.s t.ks.length vs))/\Below w.heap.size w w':=by
 have hvv:=hv1;obtain⟨A1,c1,A2,c2,A3,c3,rfl,hr⟩:=hv1;have eU:=zh hr.procs;have hlp:=zly hr.lp;obtain⟨L1,hL1⟩:=zX (p.vs.length);obtain⟨L2,hL2⟩:=zX (p.prs.length);obtain⟨k,hk⟩:=zX (p.m.k);obtain⟨n,hn⟩:=zX (p.m.n);obtain⟨s,hs⟩:=zX (p.m.s);obtain⟨l3,hl3⟩:=zX (p.m.ks.length);rw[hL1,hL2,hk,hn,hs,hl3];rw[hL1,hL2,hk,hn,hs,hl3]at hvv;rw[hL2]at hlp;have HL2:=zh hL2;have HV:=zh hvv;clear hr hvv hL1 hL2 hk hn hs hl3;obtain⟨B,tc,rfl,_,hlk,_,_⟩:=hv2.open_;have aA:=zkK hlk;have aa:=zh hrow;have HL:=zh hl;clear hrow hl hv2 hlk;generalize t.k=tk,t.n=tn,t.s=ts,t.ks.length=tl at *
 obtain⟨R,hR⟩:=zX (zlk p.prs tk ts tl vs);rw[hR];have HR:=zh hR;clear hR;have hb0:∀o o',Below w.heap.size w ((w.alloc o).alloc o'):=fun o o'=>(zr.alloc zl _).alloc (by simp) _;have HB0:=zh hb0;clear hb0;by_cases h2:tk=2
 ·subst h2;have HN:=zh (show R=useE vs ts 1 by rw[<-HR.out];simp[zlk]);go_enter Tryz.func130,Tryz.ntmps130;go_wp2_with fail;refine(znf vs A c ts 1 S'' _ (aa.out.later (HB0.out _ _)) HL.out).mono ?_;rintro e w1 ⟨rfl,ae⟩;rw[<-HN.out];have HB:=zh (zkb (HB0.out _ _) ae);clear ae;go_wp2_with fail;go_ret;exact⟨rfl,HB.out⟩
 have f2:(tk==2)=false:=by simpa using h2
 by_cases h3:tk=3
 ·subst h3;have HN:=zh (show R=useE vs ts 2 by rw[<-HR.out];simp[zlk]);go_enter Tryz.func130,Tryz.ntmps130;go_wp2_with fail;refine(znf vs A c ts 2 S'' _ (aa.out.later (HB0.out _ _)) HL.out).mono ?_;rintro e w1 ⟨rfl,ae⟩;rw[<-HN.out];have HB:=zh (zkb (HB0.out _ _) ae);clear ae;go_wp2_with fail;go_ret;exact⟨rfl,HB.out⟩
 have f3:(tk==3)=false:=by simpa using h3
 by_cases h4:tk=4
 ·subst h4;have HN:=zh (show R=useE vs ts 3 by rw[<-HR.out];simp[zlk]);go_enter Tryz.func130,Tryz.ntmps130;go_wp2_with fail;refine(znf vs A c ts 3 S'' _ (aa.out.later (HB0.out _ _)) HL.out).mono ?_;rintro e w1 ⟨rfl,ae⟩;rw[<-HN.out];have HB:=zh (zkb (HB0.out _ _) ae);clear ae;go_wp2_with fail;go_ret;exact⟨rfl,HB.out⟩
 have f4:(tk==4)=false:=by simpa using h4
 by_cases h5:tk=5
 ·subst h5;have HN:=zh (show R=useE vs ts 3 by rw[<-HR.out];simp[zlk]);go_enter Tryz.func130,Tryz.ntmps130;go_wp2_with fail;refine(znf vs A c ts 3 S'' _ (aa.out.later (HB0.out _ _)) HL.out).mono ?_;rintro e w1 ⟨rfl,ae⟩;rw[<-HN.out];have HB:=zh (zkb (HB0.out _ _) ae);clear ae;go_wp2_with fail;go_ret;exact⟨rfl,HB.out⟩
 have f5:(tk==5)=false:=by simpa using h5
 by_cases sK:tk=44
 ·subst sK;have HN:=zh (show R=useE vs ts 3 by rw[<-HR.out];simp[zlk]);go_enter Tryz.func130,Tryz.ntmps130;go_wp2_with fail;refine(znf vs A c ts 3 S'' _ (aa.out.later (HB0.out _ _)) HL.out).mono ?_;rintro e w1 ⟨rfl,ae⟩;rw[<-HN.out];have HB:=zh (zkb (HB0.out _ _) ae);clear ae;go_wp2_with fail;go_ret;exact⟨rfl,HB.out⟩
 have f44:(tk==44)=false:=by simpa using sK
 by_cases h45:tk=45
 ·subst h45;have HN:=zh (show R=useE vs ts 3 by rw[<-HR.out];simp[zlk]);go_enter Tryz.func130,Tryz.ntmps130;go_wp2_with fail;refine(znf vs A c ts 3 S'' _ (aa.out.later (HB0.out _ _)) HL.out).mono ?_;rintro e w1 ⟨rfl,ae⟩;rw[<-HN.out];have HB:=zh (zkb (HB0.out _ _) ae);clear ae;go_wp2_with fail;go_ret;exact⟨rfl,HB.out⟩
 have f45:(tk==45)=false:=by simpa using h45
 by_cases eZ:tk=54
 ·subst eZ;have HN:=zh (show R=zmo vs ts by rw[<-HR.out];simp[zlk]);go_enter Tryz.func130,Tryz.ntmps130;go_wp2_with fail;refine(zn3 vs A c ts S'' _ (aa.out.later (HB0.out _ _)) HL.out).mono ?_;rintro e w1 ⟨rfl,ae⟩;rw[<-HN.out];have HB:=zh (zkb (HB0.out _ _) ae);clear ae;go_wp2_with fail;go_ret;exact⟨rfl,HB.out⟩
 have f54:(tk==54)=false:=by simpa using eZ
 by_cases fI:tk=55
 ·subst fI;have HN:=zh (show R=zmo vs ts by rw[<-HR.out];simp[zlk]);go_enter Tryz.func130,Tryz.ntmps130;go_wp2_with fail;refine(zn3 vs A c ts S'' _ (aa.out.later (HB0.out _ _)) HL.out).mono ?_;rintro e w1 ⟨rfl,ae⟩;rw[<-HN.out];have HB:=zh (zkb (HB0.out _ _) ae);clear ae;go_wp2_with fail;go_ret;exact⟨rfl,HB.out⟩
 have f55:(tk==55)=false:=by simpa using fI
 by_cases h50:tk=50
 ·subst h50;have HN:=zh (show R=(match idxP p.prs ts with|none=>6|some i=>match p.prs[i]? with|none=>6|some r=>if tl=r.ps.length then 0 else 7) by rw[<-HR.out];simp[zlk]);go_enter Tryz.func130,Tryz.ntmps130;go_wp2_with fail;refine(zna p S _ ts _ (HV.out.later (HB0.out _ _))).mono ?_;rintro e w1 ⟨rfl,ae⟩;have hbl:=zkb (HB0.out _ _) ae;have hP:=zka (zkg (heap_alloc_new w (.cells #[.slice A1 L1 c1,.slice A2 L2 c2,.int .u8 k,.int .i64 n,.string s,.slice A3 l3 c3] 55)) _) ae;have hN:=zka (heap_alloc_new (w.alloc (.cells #[.slice A1 L1 c1,.slice A2 L2 c2,.int .u8 k,.int .i64 n,.string s,.slice A3 l3 c3] 55)) (.cells #[.int .u8 50,.int .i64 tn,.string ts,.slice B tl tc] 24)) ae;simp only[World.size_alloc]at hN
  cases hi:idxP p.prs ts with
  | none =>
   have e1:zlz p.prs ts = -1:=by simp[zlz,hi]
   rw[e1];have aI:=zh (show R=6 by rw[HN.out,hi]);have HB:=zh hbl;clear ae hi e1 hP hN hbl;go_wp2_with fail;go_ret;exact⟨by rw[aI.out];rfl,HB.out⟩
  | some i =>
   have e1:zlz p.prs ts=i:=by simp[zlz,hi]
   rw[e1];have hi2:i<p.prs.length:=(List.findIdx?_eq_some_iff_getElem.1 hi).1;have hiL:i<L2:=by rw[<-HL2.out];exact hi2
   obtain⟨a,r,P1,d1,P2,d2,rfl,_,Hr,⟨_,q1,_⟩,hpr⟩:=(eU.out.later hbl).nd hi2;obtain⟨rl,hrl⟩:=zX (r.ps.length);have hlr:=zly hpr.lp;rw[hrl]at q1 hlr;have aI:=zh (show R=if tl=rl then 0 else 7 by rw[HN.out,hi];simp only;rw[List.getElem?_eq_getElem hi2,Hr.out,<-hrl]);obtain⟨a0,a1,a2,a3,a4,a5⟩:=box6 hP;obtain⟨b0,b1,b2,b3⟩:=box4 hN;have HB:=zh hbl;clear ae hi e1 hP hN hbl hrl hpr;go_wp2_with fail
   go_region_held3 (fun w'=>(w'.cell? ⟨w.heap.size+1,3,none⟩=some (.slice B tl tc)/\w'.cell? ⟨w.heap.size,1,none⟩=some (.slice (some a) L2 c2)/\w'.cell? ⟨(a.add (i*6)).block,(a.add (i*6)).off+1,none⟩=some (.slice P1 rl d1))) (exact⟨b3,a1,q1⟩) (fail)
   by_cases hq:tl=rl
   ·have g1:(tl==rl)=true:=by simpa using hq
    have g2:(tl != rl)=false:=by simpa using hq
    have g3:((tl:Int)==(rl:Int))=true:=by simp;omega
    have g4:((tl:Int) != (rl:Int))=false:=by simp;omega
    have bU:=zh (show R=0 by rw[aI.out,if_pos hq]);clear hq;go_wp2_with fail;go_ret;exact⟨by rw[bU.out];rfl,HB.out.drew⟩
   ·have g1:(tl==rl)=false:=by simpa using hq
    have g2:(tl != rl)=true:=by simpa using hq
    have g3:((tl:Int)==(rl:Int))=false:=by simp;omega
    have g4:((tl:Int) != (rl:Int))=true:=by simp;omega
    have bU:=zh (show R=7 by rw[aI.out,if_neg hq]);clear hq;go_wp2_with fail;go_ret;exact⟨by rw[bU.out];rfl,HB.out.drew⟩
 have f50:(tk==50)=false:=by simpa using h50
 by_cases lU:tk=51
 ·subst lU;have HN:=zh (show R=(match idxP p.prs ts with|none=>6|some i=>match p.prs[i]? with|none=>6|some r=>if tl=r.ps.length then 0 else 7) by rw[<-HR.out];simp[zlk]);go_enter Tryz.func130,Tryz.ntmps130;go_wp2_with fail;refine(zna p S _ ts _ (HV.out.later (HB0.out _ _))).mono ?_;rintro e w1 ⟨rfl,ae⟩;have hbl:=zkb (HB0.out _ _) ae;have hP:=zka (zkg (heap_alloc_new w (.cells #[.slice A1 L1 c1,.slice A2 L2 c2,.int .u8 k,.int .i64 n,.string s,.slice A3 l3 c3] 55)) _) ae;have hN:=zka (heap_alloc_new (w.alloc (.cells #[.slice A1 L1 c1,.slice A2 L2 c2,.int .u8 k,.int .i64 n,.string s,.slice A3 l3 c3] 55)) (.cells #[.int .u8 51,.int .i64 tn,.string ts,.slice B tl tc] 24)) ae;simp only[World.size_alloc]at hN
  cases hi:idxP p.prs ts with
  | none =>
   have e1:zlz p.prs ts = -1:=by simp[zlz,hi]
   rw[e1];have aI:=zh (show R=6 by rw[HN.out,hi]);have HB:=zh hbl;clear ae hi e1 hP hN hbl;go_wp2_with fail;go_ret;exact⟨by rw[aI.out];rfl,HB.out⟩
  | some i =>
   have e1:zlz p.prs ts=i:=by simp[zlz,hi]
   rw[e1];have hi2:i<p.prs.length:=(List.findIdx?_eq_some_iff_getElem.1 hi).1;have hiL:i<L2:=by rw[<-HL2.out];exact hi2
   obtain⟨a,r,P1,d1,P2,d2,rfl,_,Hr,⟨_,q1,_⟩,hpr⟩:=(eU.out.later hbl).nd hi2;obtain⟨rl,hrl⟩:=zX (r.ps.length);have hlr:=zly hpr.lp;rw[hrl]at q1 hlr;have aI:=zh (show R=if tl=rl then 0 else 7 by rw[HN.out,hi];simp only;rw[List.getElem?_eq_getElem hi2,Hr.out,<-hrl]);obtain⟨a0,a1,a2,a3,a4,a5⟩:=box6 hP;obtain⟨b0,b1,b2,b3⟩:=box4 hN;have HB:=zh hbl;clear ae hi e1 hP hN hbl hrl hpr;go_wp2_with fail
   go_region_held3 (fun w'=>(w'.cell? ⟨w.heap.size+1,3,none⟩=some (.slice B tl tc)/\w'.cell? ⟨w.heap.size,1,none⟩=some (.slice (some a) L2 c2)/\w'.cell? ⟨(a.add (i*6)).block,(a.add (i*6)).off+1,none⟩=some (.slice P1 rl d1))) (exact⟨b3,a1,q1⟩) (fail)
   by_cases hq:tl=rl
   ·have g1:(tl==rl)=true:=by simpa using hq
    have g2:(tl != rl)=false:=by simpa using hq
    have g3:((tl:Int)==(rl:Int))=true:=by simp;omega
    have g4:((tl:Int) != (rl:Int))=false:=by simp;omega
    have bU:=zh (show R=0 by rw[aI.out,if_pos hq]);clear hq;go_wp2_with fail;go_ret;exact⟨by rw[bU.out];rfl,HB.out.drew⟩
   ·have g1:(tl==rl)=false:=by simpa using hq
    have g2:(tl != rl)=true:=by simpa using hq
    have g3:((tl:Int)==(rl:Int))=false:=by simp;omega
    have g4:((tl:Int) != (rl:Int))=true:=by simp;omega
    have bU:=zh (show R=7 by rw[aI.out,if_neg hq]);clear hq;go_wp2_with fail;go_ret;exact⟨by rw[bU.out];rfl,HB.out.drew⟩
 have f51:(tk==51)=false:=by simpa using lU
 have HN:=zh (show R=0 by rw[<-HR.out];simp[zlk,h2,h3,h4,h5,sK,h45,eZ,fI,h50,lU]);clear h2 h3 h4 h5 sK h45 eZ fI h50 lU;go_enter Tryz.func130,Tryz.ntmps130;go_wp2_with fail;go_ret;exact⟨by rw[HN.out];rfl,HB0.out _ _⟩
def argE(ps:List PR)(s:ByteArray)(l i:Nat)(m:ByteArray)(vs:List VD):Int:=match zlp vs m with
 | none=>6
 | some v=>match idxP ps s with
  | none=>0
  | some j=>match ps[j]? with
   | none=>0
   | some r=>if l=r.ps.length then(match r.ps[i]? with
    | none=>0
    | some q=>if v.k=q.k/\v.n=q.n then 0 else 7)else 0
theorem box3{w:World}{b:Nat}{E:TypeId}{u0 u1 u2:Value}(h:w.heap[b]?=some (.cells #[u0,u1,u2] E (0,0))):w.cell? ⟨b,0,none⟩=some u0/\w.cell? ⟨b,1,none⟩=some u1/\w.cell? ⟨b,2,none⟩=some u2 :=
 ⟨zc h rfl,zc h rfl,zc h rfl⟩
theorem zny(p:PG)(t:T)(i:Nat)(hi:i<t.ks.length)(vs:List VD)(A:Option Addr)(c:Nat)(S S' S'':Nat->Prop)(v1 v2:Value)(w:World)(hv1:PV w S p v1)(hv2:NV w S' t v2)(hrow:RowV w S'' A vs)(hl:vs.length<=LV) :
  Calls Tryz.prog 132 #[v1,v2,.int .i64 i,.slice A vs.length c] w fun e w'=>e=.returned (.int .i64 (argE p.prs t.s t.ks.length i t.ks[i].s vs))/\Below w.heap.size w w':=by
 have hvv:=hv1;obtain⟨A1,c1,A2,c2,A3,c3,rfl,hr⟩:=hv1;have eU:=zh hr.procs;have hlp:=zly hr.lp;obtain⟨L1,hL1⟩:=zX (p.vs.length);obtain⟨L2,hL2⟩:=zX (p.prs.length);obtain⟨k,hk⟩:=zX (p.m.k);obtain⟨n,hn⟩:=zX (p.m.n);obtain⟨s,hs⟩:=zX (p.m.s);obtain⟨l3,hl3⟩:=zX (p.m.ks.length);rw[hL1,hL2,hk,hn,hs,hl3];rw[hL1,hL2,hk,hn,hs,hl3]at hvv;rw[hL2]at hlp;have HL2:=zh hL2;have HV:=zh hvv;clear hr hvv hL1 hL2 hk hn hs hl3;obtain⟨B,tc,rfl,_,hlk,_,kC⟩:=hv2.open_;have aA:=zkK hlk;have aa:=zh hrow;have HL:=zh hl;obtain⟨b,u,B1,f1,rfl,_,Hu,⟨z0,z1,z2,z3⟩,-⟩:=kC.nd hi;rw[Hu.out];clear hrow hl hv2 hlk kC z0 z1 z3;obtain⟨us,iI⟩:=zX (u.s);rw[iI]at z2 ⊢;clear iI Hu;generalize t.k=tk,t.n=tn,t.s=ts,t.ks.length=tl at *
 obtain⟨R,hR⟩:=zX (argE p.prs ts tl i us vs);rw[hR];have HR:=zh hR;clear hR;have hb0:∀o o',Below w.heap.size w ((w.alloc o).alloc o'):=fun o o'=>(zr.alloc zl _).alloc (by simp) _;have HB0:=zh hb0;have z2':=fun o o'=>zks (zks z2 o) o';clear hb0 z2;go_enter Tryz.func132,Tryz.ntmps132;go_wp2_with fail;refine(znL vs A c us S'' _ (aa.out.later (HB0.out _ _)) HL.out).mono ?_;rintro e w1 ⟨rfl,ae⟩;have hbl:=zkb (HB0.out _ _) ae;have hP:=zka (zkg (heap_alloc_new w (.cells #[.slice A1 L1 c1,.slice A2 L2 c2,.int .u8 k,.int .i64 n,.string s,.slice A3 l3 c3] 55)) _) ae;have hN:=zka (heap_alloc_new (w.alloc (.cells #[.slice A1 L1 c1,.slice A2 L2 c2,.int .u8 k,.int .i64 n,.string s,.slice A3 l3 c3] 55)) (.cells #[.int .u8 tk,.int .i64 tn,.string ts,.slice (some b) tl tc] 24)) ae;simp only[World.size_alloc]at hN
 cases hf:zlp vs us with
 | none =>
  have HN:=zh (show R=6 by rw[<-HR.out];simp[argE,hf]);have HB:=zh (zkc hbl (.cells #[.string ⟨#[]⟩,.int .u8 0,.int .i64 0] 76));clear hf ae hP hN hbl z2';go_wp2_with fail;go_ret;exact⟨by rw[HN.out];rfl,HB.out⟩
 | some v =>
  obtain⟨vm,vk,vl⟩:=v;have hq2:=zkc hbl (.cells #[.string vm,.int .u8 vk,.int .i64 vl] 76);have hP2:=zkg hP (.cells #[.string vm,.int .u8 vk,.int .i64 vl] 76);have sG:=zkg hN (.cells #[.string vm,.int .u8 vk,.int .i64 vl] 76);have hV2:=heap_alloc_new w1 (.cells #[.string vm,.int .u8 vk,.int .i64 vl] 76);have HR2:=zh (show R=(match idxP p.prs ts with
   | none=>0
   | some j=>match p.prs[j]? with
    | none=>0
    | some r=>if tl=r.ps.length then(match r.ps[i]? with
     | none=>0
     | some q=>if vk=q.k/\vl=q.n then 0 else 7)else 0) by rw[<-HR.out];simp[argE,hf])
  obtain⟨a0,a1,a2,a3,a4,a5⟩:=box6 hP2;obtain⟨b0,b1,b2,b3⟩:=box4 sG;have lX:=zh hP2;have aI:=zh sG;have xS:=zh hV2;have qE:=zh hq2;clear hf ae hP hN hbl z2' hP2 sG hV2 hq2 HR;go_wp2_with fail;refine(zna p S _ ts _ (HV.out.later qE.out)).mono ?_;rintro e w2 ⟨rfl,ak⟩;have hbl:=zkb qE.out ak;have hP:=zka lX.out ak;have hN:=zka aI.out ak;have hV:=zka xS.out ak;clear a0 a1 a2 a3 a4 a5 b0 b1 b2 b3 lX aI xS qE ak
  cases hi2:idxP p.prs ts with
  | none =>
   have e1:zlz p.prs ts = -1:=by simp[zlz,hi2]
   rw[e1];have bU:=zh (show R=0 by rw[HR2.out,hi2]);have HB:=zh hbl;clear hi2 e1 hP hN hV hbl;go_wp2_with fail;refine wp_region_noPanic ?_;refine zkk zU zU 20 (by kernel_rfl) ?_;have hSS:zW zU zU w2.drew:=⟨trivial,trivial⟩
   refine zT 0 hSS ?_;refine zT 1 hSS ?_;refine zT 2 hSS ?_;refine zkp (i:=3) (v:=undef) rfl (by kernel_rfl) (by kernel_rfl) (by kernel_rfl) (by decide) (fun _ _ _ h=>h) (Or.inr ⟨by rfl,rfl⟩) hSS ?_;(try simp only[zQ]);refine zkp (i:=4) (v:=undef) rfl (by kernel_rfl) (by kernel_rfl) (by kernel_rfl) (by decide) (fun _ _ _ h=>h) (Or.inr ⟨by rfl,rfl⟩) hSS ?_;(try simp only[zQ]);refine zkp (i:=5) (v:=undef) rfl (by kernel_rfl) (by kernel_rfl) (by kernel_rfl) (by decide) (fun _ _ _ h=>h) (Or.inr ⟨by rfl,rfl⟩) hSS ?_;(try simp only[zQ]);refine zkp (i:=6) (v:=undef) rfl (by kernel_rfl) (by kernel_rfl) (by kernel_rfl) (by decide) (fun _ _ _ h=>h) (Or.inr ⟨by rfl,rfl⟩) hSS ?_;(try simp only[zQ]);refine zkp (i:=7) (v:=undef) rfl (by kernel_rfl) (by kernel_rfl) (by kernel_rfl) (by decide) (fun _ _ _ h=>h) (Or.inr ⟨by rfl,rfl⟩) hSS ?_;(try simp only[zQ])
   refine zkp (i:=8) (v:=undef) rfl (by kernel_rfl) (by kernel_rfl) (by kernel_rfl) (by decide) (fun _ _ _ h=>h) (Or.inr ⟨by rfl,rfl⟩) hSS ?_;(try simp only[zQ]);refine zkp (i:=9) (v:=undef) rfl (by kernel_rfl) (by kernel_rfl) (by kernel_rfl) (by decide) (fun _ _ _ h=>h) (Or.inr ⟨by rfl,rfl⟩) hSS ?_;(try simp only[zQ]);refine zkp (i:=10) (v:=undef) rfl (by kernel_rfl) (by kernel_rfl) (by kernel_rfl) (by decide) (fun _ _ _ h=>h) (Or.inr ⟨by rfl,rfl⟩) hSS ?_;(try simp only[zQ]);refine zkp (i:=11) (v:=undef) rfl (by kernel_rfl) (by kernel_rfl) (by kernel_rfl) (by decide) (fun _ _ _ h=>h) (Or.inr ⟨by rfl,rfl⟩) hSS ?_;(try simp only[zQ]);refine zkp (i:=12) (v:=undef) rfl (by kernel_rfl) (by kernel_rfl) (by kernel_rfl) (by decide) (fun _ _ _ h=>h) (Or.inr ⟨by rfl,rfl⟩) hSS ?_;(try simp only[zQ])
   refine zkp (i:=13) (v:=undef) rfl (by kernel_rfl) (by kernel_rfl) (by kernel_rfl) (by decide) (fun _ _ _ h=>h) (Or.inr ⟨by rfl,rfl⟩) hSS ?_;(try simp only[zQ]);refine zT 14 hSS ?_;refine zd ?_;refine NoPanic.normal ?_;clear hSS;go_wp2_with fail;go_ret;exact⟨by rw[bU.out];rfl,HB.out.drew⟩
  | some j =>
   have e1:zlz p.prs ts=j:=by simp[zlz,hi2]
   rw[e1];have hj2:j<p.prs.length:=(List.findIdx?_eq_some_iff_getElem.1 hi2).1;have hjL:j<L2:=by rw[<-HL2.out];exact hj2
   obtain⟨a,r,P1,d1,P2,d2,rfl,_,Hr,⟨_,q1,_⟩,hpr⟩:=(eU.out.later hbl).nd hj2;obtain⟨rl,hrl⟩:=zX (r.ps.length);have hlr:=zly hpr.lp;have HPW:=zh hpr.row;rw[hrl]at q1 hlr;have HR3:=zh (show R=if tl=rl then(match r.ps[i]? with
     | none=>0
     | some q=>if vk=q.k/\vl=q.n then 0 else 7)else 0 by rw[HR2.out,hi2];simp only;rw[List.getElem?_eq_getElem hj2,Hr.out,<-hrl])
   have zz:=zh hrl;obtain⟨a0,a1,a2,a3,a4,a5⟩:=box6 hP;obtain⟨b0,b1,b2,b3⟩:=box4 hN;have fK:=zh hV;have HB:=zh hbl;have hj0:decide ((j:Int)<0)=false:=by simp
   clear hi2 e1 hP hN hbl hrl hpr hV;go_wp2_with fail
   go_region_held3 (fun w'=>(w'.cell? ⟨w.heap.size+1,3,none⟩=some (.slice (some b) tl tc)/\w'.cell? ⟨w.heap.size,1,none⟩=some (.slice (some a) L2 c2)/\w'.cell? ⟨(a.add (j*6)).block,(a.add (j*6)).off+1,none⟩=some (.slice P1 rl d1))) (exact⟨b3,a1,q1⟩) (fail)
   by_cases hq:tl=rl
   ·have g1:(tl==rl)=true:=by simpa using hq
    have g2:(tl != rl)=false:=by simpa using hq
    have g3:((tl:Int)==(rl:Int))=true:=by simp;omega
    have g4:((tl:Int) != (rl:Int))=false:=by simp;omega
    have hir:i<r.ps.length:=by rw[zz.out];omega
    have hir':i<rl:=by omega
    obtain⟨e,q,rfl,_,Hq,⟨y0,y1,y2⟩,vR⟩:=(HPW.out.later zr.drew).nd hir;have HR4:=zh (show R=if vk=q.k/\vl=q.n then 0 else 7 by rw[HR3.out,if_pos hq,List.getElem?_eq_getElem hir,Hq.out]);obtain⟨qm,qk,ql⟩:=q;simp only at y0 y1 y2 HR4;have hV3:=box3 fK.out;obtain⟨x0,x1,x2⟩:=hV3;have aW:=zh (zkc HB.out.drew (.cells #[.string qm,.int .u8 qk,.int .i64 ql] 76));have hlt9:=zki fK.out;clear hq Hq vR HPW fK;by_cases hk1:vk=qk
    ·have k1:(vk==qk)=true:=by simpa using hk1
     have k2:(vk != qk)=false:=by simpa using hk1
     by_cases hk2:vl=ql
     ·have k3:(vl==ql)=true:=by simpa using hk2
      have k4:(vl != ql)=false:=by simpa using hk2
      have bU:=zh (show R=0 by rw[HR4.out,if_pos ⟨hk1,hk2⟩]);clear hk1 hk2;go_wp2_with fail;go_ret;exact⟨by rw[bU.out];rfl,aW.out⟩
     ·have k3:(vl==ql)=false:=by simpa using hk2
      have k4:(vl != ql)=true:=by simpa using hk2
      have bU:=zh (show R=7 by rw[HR4.out,if_neg (fun h=>hk2 h.2)]);clear hk1 hk2;go_wp2_with fail;go_ret;exact⟨by rw[bU.out];rfl,aW.out⟩
    ·have k1:(vk==qk)=false:=by simpa using hk1
     have k2:(vk != qk)=true:=by simpa using hk1
     have bU:=zh (show R=7 by rw[HR4.out,if_neg (fun h=>hk1 h.1)]);clear hk1;go_wp2_with fail;go_ret;exact⟨by rw[bU.out];rfl,aW.out⟩
   ·have g1:(tl==rl)=false:=by simpa using hq
    have g2:(tl != rl)=true:=by simpa using hq
    have g3:((tl:Int)==(rl:Int))=false:=by simp;omega
    have g4:((tl:Int) != (rl:Int))=true:=by simp;omega
    have bU:=zh (show R=0 by rw[HR3.out,if_neg hq]);clear hq;go_wp2_with fail;go_ret;exact⟨by rw[bU.out];rfl,HB.out.drew⟩
theorem RowV.news{w:World}{S:Nat->Prop}{a:Addr}:∀ {vs:List VD},RowV w S (some a) vs->∃news:List Value,news.length=vs.length*3/\(∀j u,news[j]?=some u->w.cell? (a.add j)=some u)/\(∀u∈news,u.oneCell'=true) /\
  ∀i (hi:i<vs.length),news[i*3]?=some (.string vs[i].s)/\news[i*3+1]?=some (.int .u8 vs[i].k)/\news[i*3+2]?=some (.int .i64 vs[i].n):=by
 intro vs
 induction vs generalizing a with
 | nil=>exact fun _=>⟨[],rfl,fun j u h=>by simp at h,fun u h=>by simp at h,fun i hi=>absurd hi (by simp)⟩
 | cons t us ih =>
  intro h;obtain⟨a',e,hS,hc,_⟩:=h 0 (by simp);injection e with e;subst e;obtain⟨news,hl,hcell,h1,hns⟩:=ih (a:=a.add 3) (fun i hi=>by
   obtain⟨a'',e,hS',hc,hf⟩:=h (i+1) (by simpa using hi);injection e with e;subst e;refine⟨_,rfl,by rw[zkq];exact hS',?_,by simpa using hf⟩;rw[ztK,show 3+i*3=(i+1)*3 by omega];simpa using hc)
  obtain⟨c0,c1,c2⟩:=hc;simp only[Nat.zero_mul]at c0 c1 c2;refine⟨.string t.s :: .int .u8 t.k :: .int .i64 t.n::news,by simp[hl];omega,fun j u hj=>?_,fun u hu=>?_,fun i hi=>?_⟩
  ·rcases j with _|_|_|j
   ·simp at hj;subst hj;exact c0
   ·simp at hj;subst hj;exact c1
   ·simp at hj;subst hj;exact c2
   ·have:=hcell j u (by simpa using hj);rw[ztK]at this;rw[show j+1+1+1=3+j by omega];exact this
  ·simp only[List.mem_cons]at hu;rcases hu with rfl|rfl|rfl|hu
   ·rfl
   ·rfl
   ·rfl
   ·exact h1 u hu
  ·rcases i with _|i
   ·exact⟨rfl,rfl,rfl⟩
   ·obtain⟨e0,e1,e2⟩:=hns i (by simpa using hi);refine⟨?_,?_,?_⟩
    ·rw[show(i+1)*3=i*3+1+1+1 by omega];simpa using e0
    ·rw[show(i+1)*3+1=i*3+1+1+1+1 by omega];simpa using e1
    ·rw[show(i+1)*3+2=i*3+2+1+1+1 by omega];simpa using e2
theorem zuh(A:Option Addr)(l c:Nat)(hlc:l<=c)(hl:l<=LI)(w:World):Calls Tryz.prog 150 #[.slice A l c] w fun e w'=>e=.returned (.slice A l l)/\w=w':=by
 have hl':=znc hl;have h1:(l:Int)<=(c:Int):=by omega
 clear hl;go_enter Tryz.func150,Tryz.ntmps150;go_wp2_with fail;go_ret;exact⟨rfl,rfl⟩
theorem zp6(A:Option Addr)(l c:Nat)(hlc:l<=c)(hl:l<=LV)(w:World):Calls Tryz.prog 151 #[.slice A l c] w fun e w'=>e=.returned (.slice A l l)/\w=w':=by
 have hl':=zly hl;have h1:(l:Int)<=(c:Int):=by omega
 clear hl;go_enter Tryz.func151,Tryz.ntmps151;go_wp2_with fail;go_ret;exact⟨rfl,rfl⟩
theorem zlZ{P:Program}{w:World}{ops:Array Oper}{o:Oper}{a:Act}{K:Act->World->Prop}{Q:Exit->Act->World->Prop}{F:Prop}(hgd:o.guard=none)(s x:Operand)(t:TypeId)
  (hop:o.op=Op.call { callee:=Callee.builtin Builtin.append,args := #[s,x],argTypes := #[t,t] })(e:TypeId)(i:TypeInfo)(z:Value)(size bytes:Nat)(h1:P.underlying t=some (.slice e))(h2:P.info? e=some i)(h3:i.zero=some z)(h4:i.size=size)(h5:i.bytes=bytes)(h6:z.cells.size=size)(h7:0<size)
  (ao:Option Addr)(n cap:Nat)(olds:List Value)(hs:a.eval s=.slice ao n cap)(hnone:ao=none->n=0/\cap=0)(hlo:olds.length=n*size)(holds:∀b,ao=some b->∀j u,olds[j]?=some u->w.cell? (b.add j)=some u)
  (ad:Addr)(m c:Nat)(news:List Value)(hx:a.eval x=.slice (some ad) m c)(hn:news.length=m*size)(hc:∀j u,news[j]?=some u->w.cell? (ad.add j)=some u)(h1c:∀u∈news,u.oneCell'=true)
  (hfull:cap<n+m)(b1:n+m<=maxLen)(b2:(n+m)*bytes<=140737488355328)
  (hK:∀v' w',w'.ownsRow w.heap.size e size v' (n+m) (olds++news)->w.grownBy w' none->K (a.put o.dst v') w') :
  if Region.wanted o (yielded ops a.tmps)=true then Oper.wp P o a w K Q else F:=by
 have hw:Region.wanted o (yielded ops a.tmps)=true:=by simp[Region.wanted,hgd]
 rw[if_pos hw]
 cases ao with
 | some b =>
  obtain⟨v',w',hrun,r1,r2⟩:=run_append_arg_grows (P:=P) w t o.type e i z size bytes h1 h2 h3 h4 h5 h6 h7 b n cap olds hlo (holds b rfl) ad m c news hn hc hfull b1 b2;unfold Oper.wp;simp[execOp,hop,resolve,invoke,builtin,hs,hx,hrun,Result.andThen];exact hK v' w' r1 r2
 | none =>
  obtain⟨rfl,rfl⟩:=hnone rfl;obtain rfl:olds=[]:=List.eq_nil_of_length_eq_zero (by simpa using hlo);obtain⟨v',w',hrun,r1,r2,_⟩:=run_append_own (P:=P) w w.heap.size t o.type e i z size bytes h1 h2 h3 h4 h5 h6 h7 (.slice none 0 0) 0 [] (World.ownsRow_nil w _ e size) ad m c news hn hc h1c b1 b2 zl;unfold Oper.wp;simp[execOp,hop,resolve,invoke,builtin,hs,hx,hrun,Result.andThen];exact hK v' w' r1 r2
theorem zog(q:List Int)(A:Option Addr)(c:Nat)(i:Int)(hi:I64 i)(S:Nat->Prop)(w:World)(hrow:RowI w S A q)(hlc:q.length<=c)(hl:q.length<=100000) :
  Calls Tryz.prog 131 #[.slice A q.length c,.int .i64 i] w (NewI w (q++[i])):=by
 obtain⟨i0,hi0,hz0,hz1,hz2⟩:=info_parts znn;have aa:=zh hrow;have HI:=zh hi;have hbI:=zpr;have hm1:q.length+1<=maxLen:=by unfold maxLen;omega
 have hm2:(q.length+1)*8<=140737488355328:=by omega
 have hnone:A=none->q.length=0/\q.length=0:=fun h=>by
  subst h
  cases q with
  | nil=>simp
  | cons x xs=>obtain⟨_,h,_⟩:=hrow 0 (by simp);cases h
 have hold:∀b,A=some b->∀(j:Nat) u,(q.map fun x=>Value.int .i64 x)[j]?=some u->(w.alloc (.cells #[.int .i64 i] 3)).cell? (b.add j)=some u:=fun b hb j u hj=>by
  subst hb;exact zks (hrow.news.1 j u hj) _
 have hnew:∀(j:Nat) (u:Value),[Value.int .i64 i][j]?=some u->(w.alloc (.cells #[.int .i64 i] 3)).cell? ((⟨w.heap.size,0,none⟩:Addr).add j)=some u:=fun j u h=>by
  have:=zlv w 3 [Value.int .i64 i] j u h;simpa using this
 clear hrow hi;go_enter Tryz.func131,Tryz.ntmps131;go_wp2_with fail;refine(zuh A q.length c hlc (by unfold LI;omega) _).mono ?_;rintro e w' ⟨rfl,rfl⟩;go_wp2_with (at_builtin;refine wpList_append_grows (P:=Tryz.prog) _ rfl (.tmp 6) (.tmp 8) 32 rfl 3 i0 _ 1 8 Tryz.underlying32 hi0 hz0 hz1 hz2 rfl (by decide) A q.length q.length _ rfl hnone (by simp) hold ⟨w.heap.size,0,none⟩ 1 1 [.int .i64 i] rfl rfl hnew (by intro u hu;simp at hu;subst hu;rfl) (by omega) hm1 hm2 ?_;intro v' w' h2 h3)
 have h2':w'.ownsRow (w.heap.size+1) 3 1 v' (q++[i]).length ((q++[i]).map (fun x=>Value.int .i64 x)):=by
  have:=h2;simp only[World.size_alloc]at this;simpa using this
 have hbl:Below w.heap.size w w':=((zs w).alloc zl _).grown h3 (by simp) (fun g e=>by cases e);obtain⟨A',c',rfl,hcc,aQ⟩:=zlU h2' (by
  intro x hx;simp only[List.mem_append,List.mem_singleton]at hx;rcases hx with hx|rfl
  ·exact aa.out.fits x hx
  ·exact HI.out)
 have df:=zh (aQ.mono (S':=From w.heap.size) fun b hb=>by have:=(h2'.lt b hb).1;show w.heap.size<=b;omega);have HB:=zh hbl;have HC:=zh hcc;clear h2 h2' h3 hbl hold hnew aQ hcc hnone;go_wp2_with fail;go_ret;exact⟨A',c',rfl,df.out,HC.out,HB.out⟩
theorem zxg(s:ByteArray)(k:Int)(w:World):(Instr.build 76 #[(0,.string s),(1,.int .u8 k)]).run Tryz.prog w=.ok (.agg #[.string s,.int .u8 k,.int .i64 0]) w:=by kernel_rfl
theorem zvw(a0 a1 a2:Value)(w:World):(Instr.buildSlice 25 1 #[(0,.agg #[a0,a1,a2])]).run Tryz.prog w=.ok (.slice (some ⟨w.heap.size,0,none⟩) 1 1) (w.alloc (.cells #[a0,a1,a2] 76)):=by kernel_rfl
def zmm(k:Int)(s:ByteArray)(i:Nat)(vs:List VD):List VD:=if k=54/\i=1 then vs++[⟨s,1,0⟩]else if k=55/\i=0 then vs++[⟨s,3,0⟩]else vs
def zvQ(w:World)(S:Nat->Prop)(vs:List VD)(e:Ending)(w':World):Prop:=∃A' c',e=.returned (.slice A' vs.length c')/\RowV w' (fun b=>S b\/w.heap.size<=b) A' vs/\vs.length<=c'/\Below w.heap.size w w'
theorem zpJ{w w':World}{base:Nat}{E:TypeId}{v:Value}{vs:List VD}{u:VD}{news:List Value}(hn:∀i (hi:i<vs.length),news[i*3]?=some (.string vs[i].s)/\news[i*3+1]?=some (.int .u8 vs[i].k)/\news[i*3+2]?=some (.int .i64 vs[i].n))
  (hl:news.length=vs.length*3)(hf:∀i (hi:i<vs.length),FldV vs[i])(hu:FldV u)(h:w'.ownsRow base E 3 v (vs.length+1) (news++[.string u.s,.int .u8 u.k,.int .i64 u.n])) :
  ∃A c,v=.slice A (vs++[u]).length c/\(vs++[u]).length<=c/\RowV w' (fun b=>base<=b) A (vs++[u]):=by
 rcases h.2 with⟨_,h0⟩|⟨g,cap,cur,rfl,hb,hg,hc,hm,hz,hx⟩
 ·omega
 ·refine⟨some ⟨g,0,none⟩,cap,by simp,by simpa using hc,fun i hi=>?_⟩;have ha:(⟨g,0,none⟩:Addr).add (i*3)=⟨g,i*3,none⟩:=by unfold Addr.add;split<;>simp_all
  have hcell:∀j x,(news++[Value.string u.s,.int .u8 u.k,.int .i64 u.n])[j]?=some x->w'.cell? ⟨g,j,none⟩=some x:=fun j x hj=>by
   have hlt:=(List.getElem?_eq_some_iff.1 hj).1;rw[h.cellAt j (by simp at hlt;omega)];exact hj
  refine⟨⟨g,0,none⟩,rfl,hb,?_,?_⟩
  ·rw[ha];by_cases e:i<vs.length
   ·obtain⟨e0,e1,e2⟩:=hn i e;rw[List.getElem_append_left e];exact⟨hcell (i*3) _ (by rw[List.getElem?_append_left (by omega)];exact e0),hcell (i*3+1) _ (by rw[List.getElem?_append_left (by omega)];exact e1),hcell (i*3+2) _ (by rw[List.getElem?_append_left (by omega)];exact e2)⟩
   ·have e':i=vs.length:=by simp at hi;omega
    subst e';simp only[List.getElem_append_right zl,Nat.sub_self,List.getElem_cons_zero];exact⟨hcell (vs.length*3) _ (by rw[List.getElem?_append_right (by omega)];simp[hl]),hcell (vs.length*3+1) _ (by rw[List.getElem?_append_right (by omega)];simp[hl]),hcell (vs.length*3+2) _ (by rw[List.getElem?_append_right (by omega)];simp[hl])⟩
  ·by_cases e:i<vs.length
   ·rw[List.getElem_append_left e];exact hf i e
   ·have e':i=vs.length:=by simp at hi;omega
    subst e';simpa using hu
theorem zs6(t:T)(i:Nat)(hi64:i<=4000000000)(vs:List VD)(A:Option Addr)(c:Nat)(S S':Nat->Prop)(v:Value)(w:World)(hv:NV w S' t v)(hrow:RowV w S A vs)(hlc:vs.length<=c)(hl:vs.length<=100000) :
  Calls Tryz.prog 133 #[v,.int .i64 i,.slice A vs.length c] w (zvQ w S (zmm t.k t.s i vs)):=by
 obtain⟨i0,hi0,hz0,hz1,hz2⟩:=info_parts zv8;obtain⟨B,tc,rfl,hft,-⟩:=hv.open_;have aa:=zh hrow;have jD:=zh hlc;have p8:=zh hft;have hb2:=zxg;have hbs:=zvw;have hm1:vs.length+1<=maxLen:=by unfold maxLen;omega
 have hm2:(vs.length+1)*32<=140737488355328:=by omega
 have hlv:vs.length<=LV:=by unfold LV;omega
 obtain⟨news,hnl,hnc,hn1,nP⟩:∃news:List Value,news.length=vs.length*3/\(∀b,A=some b->∀(j:Nat) u,news[j]?=some u->w.cell? (b.add j)=some u)/\(A=none->vs.length=0/\vs.length=0)/\(∀i (hi:i<vs.length),news[i*3]?=some (.string vs[i].s)/\news[i*3+1]?=some (.int .u8 vs[i].k)/\news[i*3+2]?=some (.int .i64 vs[i].n)):=by
  cases A with
  | none =>
   have h0:vs=[]:=by
    cases vs with
    | nil=>rfl
    | cons x xs=>obtain⟨_,h,_⟩:=hrow 0 (by simp);cases h
   subst h0;exact⟨[],rfl,(fun b h=>by cases h),(fun _=>⟨rfl,rfl⟩),fun i hi=>absurd hi (by simp)⟩
  | some a =>
   obtain⟨news,h1,h2,_,h4⟩:=hrow.news;exact⟨news,h1,(fun b h=>by injection h with h;subst h;exact h2),(fun h=>by cases h),h4⟩
 have kL:=zh nP;have Az:=zh (show ∀i (hi:i<vs.length),FldV vs[i]from fun i hi=>(hrow i hi).choose_spec.2.2.2);clear hrow hlc hft hv nP;generalize t.k=tk,t.n=tn,t.s=ts,t.ks.length=tl at *
 obtain⟨V,hV⟩:=zX (zmm tk ts i vs);rw[hV];have HV:=zh hV;clear hV;have key:∀(kd:Int) (hkd:kd=1\/kd=3) (W':World) (v':Value),(((w.alloc (.cells #[.int .u8 tk,.int .i64 tn,.string ts,.slice B tl tc] 24)).alloc (.cells #[.string ts,.int .u8 kd,.int .i64 0] 76)).drew).grownBy W' none ->
   W'.ownsRow ((w.alloc (.cells #[.int .u8 tk,.int .i64 tn,.string ts,.slice B tl tc] 24)).alloc (.cells #[.string ts,.int .u8 kd,.int .i64 0] 76)).drew.heap.size 76 3 v' (vs.length+1) (news++[.string ts,.int .u8 kd,.int .i64 0])->V=vs++[⟨ts,kd,0⟩]->zvQ w S V (.returned v') W':=by
  intro kd hkd W' v' hg ho hVV;subst hVV;obtain⟨A',c',rfl,hcc,hrr⟩:=zpJ (w:=w) (u:=⟨ts,kd,0⟩) kL.out hnl Az.out ⟨p8.out.2.2,(show(0:Int)<=kd/\kd<256 by rcases hkd with rfl|rfl<;>decide),(by decide:(-9223372036854775808:Int)<=0/\(0:Int)<=9223372036854775807)⟩ ho;refine⟨A',c',rfl,hrr.mono fun b hb=>.inr ?_,hcc,?_⟩
  ·simp at hb;omega
  ·exact((((zs w).alloc zl _).alloc (by simp) _).drew).grown hg (by simp;omega) (fun g e=>by cases e)
 have HKEY:=zh key;have hnc':∀o o' b,A=some b->∀(j:Nat) u,news[j]?=some u->((w.alloc o).alloc o').drew.cell? (b.add j)=some u:=fun o o' b hb j u hj=>zks (zks (hnc b hb j u hj) o) o';have hnw:∀(kd:Int) (j:Nat) (u:Value),[Value.string ts,.int .u8 kd,.int .i64 0][j]?=some u->((w.alloc (.cells #[.int .u8 tk,.int .i64 tn,.string ts,.slice B tl tc] 24)).alloc (.cells #[.string ts,.int .u8 kd,.int .i64 0] 76)).drew.cell? ((⟨w.heap.size+1,0,none⟩:Addr).add j)=some u:=fun kd j u h=>by
  have:=zlv (w.alloc (.cells #[.int .u8 tk,.int .i64 tn,.string ts,.slice B tl tc] 24)) 76 [Value.string ts,.int .u8 kd,.int .i64 0] j u h;simpa using this
 have HNC:=zh hnc';have iA:=zh hnw;clear key hnc hnc' hnw;by_cases eZ:tk=54/\i=1
 ·obtain⟨rfl,rfl⟩:=eZ;have wK:=zh (show V=vs++[⟨ts,1,0⟩] by rw[<-HV.out];simp[zmm]);go_enter Tryz.func133,Tryz.ntmps133;go_wp2_with fail
  go_region_held3 (fun w'=>w'.cell? ⟨w.heap.size,2,none⟩=some (.string ts))
   (first|exact hk5|(simp;done))
   (first
    | (refine zlZ (by rfl) (.tmp 16) (.tmp 20) 25 (by rfl) 76 i0 _ 3 32 Tryz.underlying25 hi0 hz0 hz1 hz2 rfl (by decide) A vs.length vs.length news (by rfl) hn1 hnl (HNC.out _ _) ⟨w.heap.size+1,0,none⟩ 1 1 [.string ts,.int .u8 1,.int .i64 0] (by rfl) rfl (iA.out 1) (by intro u hu;simp at hu;rcases hu with rfl|rfl|rfl<;>rfl) (by omega) hm1 hm2 ?_;intro v' w' h2 h3;have HF:=zh (HKEY.out 1 (.inl rfl) w' v' h3 h2 wK.out);have hk5:w'.cell? ⟨w.heap.size,2,none⟩=some (.string ts):=(World.cell?_of_block (a:=⟨w.heap.size,2,none⟩) (h3.block _ (by simp;omega) (by simp))).trans (by simp);clear h2 h3)
    | (go_at_call 151;refine(zp6 A vs.length c jD.out hlv _).mono ?_;rintro e wq ⟨rfl,rfl⟩)
    | fail)
  all_goals
   clear hk5;go_wp2_with fail;go_ret;exact HF.out
 by_cases fI:tk=55/\i=0
 ·obtain⟨rfl,rfl⟩:=fI;have wK:=zh (show V=vs++[⟨ts,3,0⟩] by rw[<-HV.out];simp[zmm]);go_enter Tryz.func133,Tryz.ntmps133;go_wp2_with fail
  go_region_held3 (fun w'=>w'.cell? ⟨w.heap.size,2,none⟩=some (.string ts))
   (first|exact hk5|(simp;done))
   (first
    | (refine zlZ (by rfl) (.tmp 31) (.tmp 35) 25 (by rfl) 76 i0 _ 3 32 Tryz.underlying25 hi0 hz0 hz1 hz2 rfl (by decide) A vs.length vs.length news (by rfl) hn1 hnl (HNC.out _ _) ⟨w.heap.size+1,0,none⟩ 1 1 [.string ts,.int .u8 3,.int .i64 0] (by rfl) rfl (iA.out 3) (by intro u hu;simp at hu;rcases hu with rfl|rfl|rfl<;>rfl) (by omega) hm1 hm2 ?_;intro v' w' h2 h3;have HF:=zh (HKEY.out 3 (.inr rfl) w' v' h3 h2 wK.out);have hk5:w'.cell? ⟨w.heap.size,2,none⟩=some (.string ts):=(World.cell?_of_block (a:=⟨w.heap.size,2,none⟩) (h3.block _ (by simp;omega) (by simp))).trans (by simp);clear h2 h3)
    | (go_at_call 151;refine(zp6 A vs.length c jD.out hlv _).mono ?_;rintro e wq ⟨rfl,rfl⟩)
    | fail)
  all_goals
   clear hk5;go_wp2_with fail;go_ret;exact HF.out
 have wK:=zh (show V=vs by rw[<-HV.out];unfold zmm;rw[if_neg eZ,if_neg fI]);have HF:=zh (show ∀o,zvQ w S V (.returned (.slice A vs.length c)) (w.alloc o)from fun o=>by
  rw[wK.out];exact⟨A,c,rfl,(aa.out.later (zr.alloc zl _)).mono fun b hb=>.inl hb,jD.out,zr.alloc zl _⟩)
 by_cases yx:tk=54
 ·subst yx;have hne:¬ i=1:=fun e=>eZ ⟨rfl,e⟩;have e1:(i==1)=false:=by simpa using hne
  have e2:((i:Int)==1)=false:=by simp;omega
  clear eZ fI hne;go_enter Tryz.func133,Tryz.ntmps133;go_wp2_with fail;go_ret;exact HF.out _
 have f54:(tk==54)=false:=by simpa using yx
 by_cases yw:tk=55
 ·subst yw;have hne:¬ i=0:=fun e=>fI ⟨rfl,e⟩;have e1:(i==0)=false:=by simpa using hne
  have e2:((i:Int)==0)=false:=by simp;omega
  clear eZ fI hne;go_enter Tryz.func133,Tryz.ntmps133;go_wp2_with fail;go_ret;exact HF.out _
 have f55:(tk==55)=false:=by simpa using yw
 clear eZ fI yx yw;go_enter Tryz.func133,Tryz.ntmps133;go_wp2_with fail;go_ret;exact HF.out _
end
section
open Go Go.RowKit
mutual
/-- The nodes of a tree,in pre-order. -/
def po:T->List T
 | .nd k n s ks=>.nd k n s ks::pos ks
def pos:List T->List T
 | []=>[]
 | t::ts=>po t++pos ts
end
mutual
/-- The depth of a tree. -/
def dep:T->Nat
 | .nd _ _ _ ks=>1+deps ks
def deps:List T->Nat
 | []=>0
 | t::ts=>max (dep t) (deps ts)
end
theorem zwn{t:T}:∀ {ks:List T},t∈ks->dep t<=deps ks
 | u::us,h=>by
  simp only[List.mem_cons]at h;rcases h with rfl|h
  ·simp only[deps];omega
  ·have:=zwn h;simp only[deps];omega
def zyQ(w:World)(xs:List Int)(v:Value)(w':World):Prop:=∃A' c',v=.slice A' xs.length c'/\RowI w' (From w.heap.size) A' xs/\xs.length<=c'/\Below w.heap.size w w'
theorem znC{P:Program}{f:FuncId}{args:Array Value}{w:World}{xs:List Int}(h:Calls P f args w (NewI w xs)):Calls P f args w fun e w'=>∃v,e=.returned v/\zyQ w xs v w' :=
 h.mono fun _ _ ⟨A,c,he,hn⟩=>⟨_,he,A,c,rfl,hn⟩
structure FS(W:World)(n0 fb N:Nat)(pv:Value):Prop where
 box:W.heap[fb]?=some (.cells #[pv] 131 (0,0))
 row:∃xs,W.ownsRow n0 168 4 pv N xs
 ge:n0<=fb
 ne:pv.ownBlock≠some fb
section
variable {W W':World} {n0 fb N N':Nat} {pv pv':Value}
theorem FS.lt(h:FS W n0 fb N pv):fb<W.heap.size/\∀b,pv.ownBlock=some b->n0<=b/\b<W.heap.size:=⟨zki h.box,let ⟨_,hr⟩:=h.row;hr.lt⟩
theorem FS.chg{C:Nat->Prop}(h:FS W n0 fb N pv)(hc:Chg C W W')(hC:∀b,b=fb\/pv.ownBlock=some b->¬ C b):FS W' n0 fb N pv:=by
 refine⟨hc.keep h.box (hC _ (.inl rfl)),?_,h.ge,h.ne⟩;obtain⟨xs,e1,h2⟩:=h.row;refine⟨xs,e1,?_⟩;rcases h2 with h2|⟨g,cap,cur,rfl,hb,hg,h3⟩
 ·exact .inl h2
 ·exact .inr ⟨g,cap,cur,rfl,hb,hc.keep hg (hC _ (.inr rfl)),h3⟩
theorem FS.later(h:FS W n0 fb N pv)(hb:Below W.heap.size W W'):FS W' n0 fb N pv:=h.chg (C:=fun _=>False) (Chg.of_below hb) (fun _ _ h=>h)
theorem FS.put(h:FS W n0 fb N pv)(ho:∃xs,W'.ownsRow n0 168 4 pv' N' xs)(hg:W.grownBy W' pv.ownBlock)(aR:∀b,pv'.ownBlock=some b->pv.ownBlock=some b\/W.heap.size<=b) :
  FS (W'.setCell ⟨fb,0,none⟩ pv') n0 fb N' pv':=by
 have hp':W'.heap[fb]?=some (.cells #[pv] 131 (0,0)):=(hg.block _ (zki h.box) (fun e=>h.ne e.symm)).trans h.box;have rA:pv'.ownBlock≠some fb:=fun e=>by
  rcases aR _ e with e|e
  ·exact h.ne e
  ·have:=zki h.box;omega
 refine⟨by have:=heap_setCell_same W' fb 0 _ _ pv' hp';simpa using this,?_,h.ge,rA⟩;obtain⟨xs,e1,h2⟩:=ho;refine⟨xs,e1,?_⟩;rcases h2 with h2|⟨g,cap,cur,rfl,hb,hg',h3⟩
 ·exact .inl h2
 ·refine .inr ⟨g,cap,cur,rfl,hb,?_,h3⟩;rw[Below.heap_setCell _ _ _ _ (fun e=>rA (by subst e;rfl))];exact hg'
theorem FS.slice(h:FS W n0 fb N pv):∃A c,pv=.slice A N c:=by
 obtain⟨xs,e1,h2⟩:=h.row;rcases h2 with⟨rfl,rfl⟩|⟨g,cap,cur,rfl,_⟩
 ·exact⟨_,_,rfl⟩
 ·exact⟨_,_,rfl⟩
end
def RepP(W:World)(n0 fb:Nat)(pv:Value)(N':Nat)(e:Ending)(W':World):Prop :=
 (∃v,e=.returned v)/\∃pv',FS W' n0 fb N' pv'/\(∀b,pv'.ownBlock=some b->pv.ownBlock=some b\/W.heap.size<=b)/\Chg (fun b=>b=fb\/pv.ownBlock=some b) W W'
def one1(e:Int):Nat:=if e=0 then 0 else 1
theorem zw3:(Tryz.prog.info? 168).map (fun i=>(i.zero,i.size,i.bytes))=some (some (.agg #[.int .i64 0,.slice none 0 0,.int .i64 0,.string ⟨#[]⟩]),4,56):=by kernel_rfl
theorem zx8(p:Int)(A:Option Addr)(l c:Nat)(e:Int)(s:ByteArray)(w:World):(Instr.build 168 #[(0,.int .i64 p),(1,.slice A l c),(2,.int .i64 e),(3,.string s)]).run Tryz.prog w=.ok (.agg #[.int .i64 p,.slice A l c,.int .i64 e,.string s]) w:=by kernel_rfl
theorem zxl(a0 a1 a2 a3:Value)(w:World):(Instr.buildSlice 131 1 #[(0,.agg #[a0,a1,a2,a3])]).run Tryz.prog w=.ok (.slice (some ⟨w.heap.size,0,none⟩) 1 1) (w.alloc (.cells #[a0,a1,a2,a3] 168)):=by kernel_rfl
theorem zmv(n0 fb N:Nat)(pv:Value)(pr er:Int)(q:List Int)(A:Option Addr)(c:Nat)(s:ByteArray)(S:Nat->Prop)(W:World)(hfs:FS W n0 fb N pv)(hq:RowI W S A q)(mh:q.length<=100000)(hN:N<=1000000) :
  Calls Tryz.prog 105 #[.int .i64 pr,.slice A q.length c,.string s,.int .i64 er,.pointer (some ⟨fb,0,none⟩)] W (RepP W n0 fb pv (N+one1 er)):=by
 obtain⟨i0,hi0,hz0,hz1,hz2⟩:=info_parts zw3;obtain⟨Ap,cp,rfl⟩:=hfs.slice;have p9:=zh hfs;have HQ:=zh hq;have hc0:W.cell? ⟨fb,0,none⟩=some (.slice Ap N cp):=zc hfs.box rfl;have hbf:=zx8;have hbs:=zxl;have hge:=hfs.ge;have hlf:=hfs.lt.1;clear hfs hq;by_cases he:er=0
 ·subst he;clear hc0;go_enter Tryz.func105,Tryz.ntmps105;go_wp2_with fail;go_end0;exact⟨⟨_,rfl⟩,_,p9.out,fun b hb=>.inl hb,Chg.refl _ _⟩
 ·have e1:(er==0)=false:=by simpa using he
  have e2:(er != 0)=true:=by simpa using he
  have HONE:=zh (show one1 er=1 by simp[one1,he]);rw[HONE.out];clear he;go_enter Tryz.func105,Tryz.ntmps105;go_upto_region 1 with fail;have hSS:zU W.drew/\(fun w':World=>zv w' fb 0 (.slice Ap N cp)) W.drew:=⟨trivial,hc0⟩
  refine wp_region_noPanic ?_;refine zkk zU (fun w':World=>zv w' fb 0 (.slice Ap N cp)) 8 (by kernel_rfl) ?_;refine zJ 0 hSS ?_;refine zT 1 hSS ?_;refine zT 2 hSS ?_;refine zT 4 hSS ?_;refine zT 5 hSS ?_;refine zo 3 fun K hK=>?_;refine zrz (by rfl) (.func 48) (.tmp 13) _ (by rfl) 48 _ zm3 (by rfl) _ (by rfl) _ (znC (zr9 q A c S _ (HQ.out.later zr.drew) (by unfold LI;omega))) ?_;rintro v2 w2 ⟨A2,c2,rfl,_,_,ak⟩;have b2:=zkb (zs W).drew ak;have iP:=p9.out.later b2;have g2:w2.cell? ⟨fb,0,none⟩=some (.slice Ap N cp):=zc iP.box rfl;have aK:zU w2/\(fun w':World=>zv w' fb 0 (.slice Ap N cp)) w2:=⟨trivial,g2⟩
  refine hK.out _ _ aK ?_;clear hK K hSS;(try simp only[zQ]);refine zT 6 aK ?_;refine zo 7 fun K hK=>?_;(try simp only[zA,zB,zC]);go_simp;refine hK.out _ _ ⟨trivial,zks g2 _⟩ ?_;clear hK K aK;(try simp only[zQ]);obtain⟨xs,hrow⟩:=iP.row;have hl2:=iP.lt;refine zp 8 fun K hK=>?_;refine zkR (by rfl) (.tmp 11) (.tmp 18) 131 (by rfl) n0 168 i0 _ 4 56 Tryz.underlying131 hi0 hz0 hz1 hz2 rfl (by decide) (.slice Ap N cp) N xs (by rfl) (hrow.alloc _) ⟨w2.heap.size,0,none⟩ 1 1 [.int .i64 pr,.slice A2 q.length c2,.int .i64 er,.string s] (by rfl) rfl (zlv w2 _ _) (by intro u hu;simp at hu;rcases hu with rfl|rfl|rfl|rfl<;>rfl) (by unfold maxLen;omega) (by omega) (by simp;omega) ?_;intro v' w' h2 h3 h5
  have hput:=iP.put (W':=w') (pv':=v') (N':=N+1) ⟨_,h2⟩ ⟨h3.os,h3.tape,h3.output,Nat.le_trans (by simp) h3.size,fun b hb hne=>(h3.block b (by simp;omega) hne).trans (Below.heap_alloc w2 _ b hb)⟩ (fun b hb=>by rcases h5 with h5|h5;exact .inl (h5▸hb);exact .inr (by rw[h5]at hb;injection hb with hb;simp at hb;omega));have hob':∀b,v'.ownBlock=some b->(Value.slice Ap N cp).ownBlock=some b\/W.heap.size<=b:=fun b hb=>by
   have:=b2.size;rcases h5 with h5|h5
   ·exact .inl (h5▸hb)
   ·exact .inr (by rw[h5]at hb;injection hb with hb;simp at hb;omega)
  have hch:Chg (fun b=>b=fb\/(Value.slice Ap N cp).ownBlock=some b) W (w'.setCell ⟨fb,0,none⟩ v'):=(((Chg.of_below b2).alloc _).trans2 (Chg.row h3) (fun b _ h=>.inr h)).setCell (.inl (.inl rfl)) _;have hbx:=(h3.block _ (by have:=zki iP.box;simp;omega) (fun e=>iP.ne e.symm)).trans (zkg iP.box _);have hy0:w'.cell? ⟨fb,0,none⟩=some (.slice Ap N cp):=zc hbx rfl;have hy1:w'.frozen? ⟨fb,0,none⟩=false:=zf hbx;obtain⟨g8,aG,rfl⟩:=ownsRow_succ h2;have HP:=zh hput;have HO:=zh hob';have bH:=zh hch;clear hput hob' hch hbx h2 h3 h5 hrow iP;refine hK.out _ _ trivial ?_;clear hK K;(try simp only[zQ]);refine zp 9 fun K hK=>?_;(try simp only[zA,zB,zC]);go_simp;refine hK.out _ _ trivial ?_;clear hK K;(try simp only[zQ]);refine zd ?_;refine NoPanic.normal ?_;go_wp2_with fail;go_end0;exact⟨⟨_,rfl⟩,_,HP.out,HO.out,bH.out⟩
structure RepC(f:FuncId)(cap:Array Value)(Rd:World->Prop)(n0 fb:Nat):Prop where
 fn:∃fn,IsFn Tryz.prog f fn
 keep:∀W W' pv N,Rd W->FS W n0 fb N pv->Chg (fun b=>b=fb\/pv.ownBlock=some b) W W'->Rd W'
 call:∀(N:Nat) (pv:Value) (er:Int) (q:List Int) (A:Option Addr) (c:Nat) (s:ByteArray) (S:Nat->Prop) (W:World),Rd W->FS W n0 fb N pv->RowI W S A q->q.length<=100000->N<=1000000 ->
  Calls Tryz.prog f (#[.slice A q.length c,.string s,.int .i64 er]++cap) W (RepP W n0 fb pv (N+one1 er))
theorem FS.other{W:World}{n0 fb N:Nat}{pv:Value}{b:Nat}{cs:Array Value}{E:TypeId}(h:FS W n0 fb N pv)(hb:W.heap[b]?=some (.cells cs E (0,0)))(h1:E≠131)(h2:E≠168):¬ (b=fb\/pv.ownBlock=some b):=by
 rintro(rfl|ho)
 ·have:=h.box;rw[hb]at this;injection this with this;injection this with _ e;exact h1 e
 ·obtain⟨xs,e1,h2'⟩:=h.row;rcases h2' with⟨rfl,_⟩|⟨g,cap,cur,rfl,_,hg,_⟩
  ·simp[Value.ownBlock]at ho
  ·simp[Value.ownBlock]at ho;subst ho;rw[hb]at hg;injection hg with hg;injection hg with _ e;exact h2 e
theorem zx0:IsFn Tryz.prog 109 Tryz.f109:=⟨Tryz.func109,by kernel_rfl,by kernel_rfl⟩
theorem zxZ:IsFn Tryz.prog 110 Tryz.f110:=⟨Tryz.func110,by kernel_rfl,by kernel_rfl⟩
theorem zrv(n0 fb rb ib:Nat)(k:Int):RepC 109 #[.pointer (some ⟨rb,0,none⟩),.pointer (some ⟨ib,0,none⟩)]
  (fun W=>W.heap[rb]?=some (.cells #[.func (.func 105) #[] #[.pointer (some ⟨fb,0,none⟩)]] 169 (0,0))/\W.heap[ib]?=some (.cells #[.int .i64 k] 3 (0,0))) n0 fb where
 fn:=⟨_,zx0⟩
 keep W W' pv N h hfs hc:=⟨hc.keep h.1 (hfs.other h.1 (by decide) (by decide)),hc.keep h.2 (hfs.other h.2 (by decide) (by decide))⟩
 call N pv er q A c s S W h hfs hq mh hN:=by
  have x0:W.cell? ⟨rb,0,none⟩=some (.func (.func 105) #[] #[.pointer (some ⟨fb,0,none⟩)]):=zc h.1 rfl;have x1:W.cell? ⟨ib,0,none⟩=some (.int .i64 k):=zc h.2 rfl;have HC:=zh (zmv n0 fb N pv k er q A c s S W hfs hq mh hN);clear h hfs hq
  show Calls Tryz.prog 109 #[.slice A q.length c,.string s,.int .i64 er,.pointer (some ⟨rb,0,none⟩),.pointer (some ⟨ib,0,none⟩)] W _
  go_enter Tryz.func109,Tryz.ntmps109;go_wp2_with fail;refine HC.out.mono ?_;rintro e W' ⟨⟨v,rfl⟩,hp⟩;have HP:=zh hp;clear hp;go_wp2_with fail;go_end0;exact⟨⟨_,rfl⟩,HP.out⟩
theorem zv5(n0 fb rb pb:Nat)(A1:Option Addr)(l1 c1:Nat)(A2:Option Addr)(l2 c2:Nat)(k n:Int)(sn:ByteArray)(A3:Option Addr)(l3 c3:Nat):RepC 110 #[.pointer (some ⟨rb,0,none⟩),.pointer (some ⟨pb,0,none⟩)]
  (fun W=>W.heap[rb]?=some (.cells #[.func (.func 105) #[] #[.pointer (some ⟨fb,0,none⟩)]] 169 (0,0))/\W.heap[pb]?=some (.cells #[.slice A1 l1 c1,.slice A2 l2 c2,.int .u8 k,.int .i64 n,.string sn,.slice A3 l3 c3] 55 (0,0))) n0 fb where
 fn:=⟨_,zxZ⟩
 keep W W' pv N h hfs hc:=⟨hc.keep h.1 (hfs.other h.1 (by decide) (by decide)),hc.keep h.2 (hfs.other h.2 (by decide) (by decide))⟩
 call N pv er q A c s S W h hfs hq mh hN:=by
  have x0:W.cell? ⟨rb,0,none⟩=some (.func (.func 105) #[] #[.pointer (some ⟨fb,0,none⟩)]):=zc h.1 rfl;have x1:W.cell? ⟨pb,1,none⟩=some (.slice A2 l2 c2):=zc h.2 rfl;have HC:=zh (zmv n0 fb N pv l2 er q A c s S W hfs hq mh hN);clear h hfs hq
  show Calls Tryz.prog 110 #[.slice A q.length c,.string s,.int .i64 er,.pointer (some ⟨rb,0,none⟩),.pointer (some ⟨pb,0,none⟩)] W _
  go_enter Tryz.func110,Tryz.ntmps110;go_wp2_with fail;refine HC.out.mono ?_;rintro e W' ⟨⟨v,rfl⟩,hp⟩;have HP:=zh hp;clear hp;go_wp2_with fail;go_end0;exact⟨⟨_,rfl⟩,HP.out⟩
end
end Go.Proofs.YtghbhbdnkjjnnaaGreat
