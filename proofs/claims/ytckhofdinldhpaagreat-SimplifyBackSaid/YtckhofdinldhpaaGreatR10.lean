/-
  Texts of the proof, put together without their remarks: Cz, Ce, Ck, Cm, Cp, Und.
-/
import Derived.Test.YtckhofdinldhpaaGreatR9
import Derived.Laws.Closers25b
import Derived.Deep.Cut
import Derived.Deep.RegionLaw
import Derived.Sort.CutIn
set_option linter.unusedSimpArgs false
set_option linter.unusedVariables false
set_option maxHeartbeats 8000000
set_option maxRecDepth 100000
namespace Go.Proofs.YtckhofdinldhpaaGreat
open Go Go.RowKit
def zKC (w:World) (e:Ending) (w':World):Prop:=∃ k n s A l c,e=.returned (nv k n s A l c)/\Below w.heap.size w w'
theorem zK8 (k n:Int) (w:World):(Instr.build 29 #[(0,.int .u8 k),(1,.int .i64 n)]).run Tryz.prog w=.ok (nv k n ⟨#[]⟩ none 0 0) w:=by kernel_rfl
theorem zlU (v:Int) (hv:0<=v) (w:World):Calls Tryz.prog 219 #[.int .i64 v] w (zKC w):=by
 have hd:decide (0<=v)=true:=decide_eq_true hv;have hb:=zK8;go_enter Tryz.func219,Tryz.ntmps219;go_wp2_with fail;(try simp only[Exit.inBlock,Exit.then]);refine bodyPost_ret (v:=nv 1 v ⟨#[]⟩ none 0 0) (by simp[results,Tryz.results219,go_sem]) rfl ⟨_,_,_,_,_,_,rfl,zkb (Below.refl _ _) _⟩
theorem zsI (v:Int) (hv : -9223372036854775808<=v/\v<=9223372036854775807) (w:World):Calls Tryz.prog 219 #[.int .i64 v] w (zKC w):=by
 by_cases h0:0<=v
 ·exact zlU v h0 w
 ·have hd:decide (0<=v)=false:=decide_eq_false h0;have hb:=zsW;have hb2:=zsV;have hb1:=zr3;by_cases hm:v = -9223372036854775808
  ·subst hm;go_enter Tryz.func219,Tryz.ntmps219;go_wp2_with fail;refine(zlU _ (by omega) _).mono ?_;rintro e w1 ⟨k1,n1,s1,A1,l1,c1,rfl,b1⟩;have b1':Below w.heap.size w w1:=zka (zkb (Below.refl _ _) _) b1;go_wp2_with fail;refine(zlU _ (by omega) _).mono ?_;rintro e w2 ⟨k2,n2,s2,A2,l2,c2,rfl,b2⟩;have b2':=zka b1' b2;have hbx:w2.heap[w.heap.size]?=some (.cells #[.int .u8 0,.int .i64 0,.string ⟨#[]⟩,.slice none 0 0] 29 (0,0)):=((b2.block _ (by have:=b1.size;simp at this;omega)).trans (b1.block _ (by simp))).trans (heap_alloc_new w _);obtain⟨m0,m1,m2,m3⟩:=box4 hbx;have f0:∀ i,w2.frozen? ⟨w.heap.size,i,none⟩=false:=fun i=>zf hbx;have hlt:=zki hbx;have hne:¬ w.heap.size=w2.heap.size:=by omega
   have hne2:¬ w2.heap.size=w.heap.size:=by omega
   clear hbx;go_wp2_with fail;(try simp only[Exit.inBlock,Exit.then]);refine bodyPost_ret (v:=nv 8 0 ⟨#[]⟩ (some ⟨w2.heap.size,0,none⟩) 2 2) (by simp[results,Tryz.results219,go_sem,m0,m1,m2,m3,hne,hne2,hlt]) rfl ⟨_,_,_,_,_,_,rfl,zkb ((((b2'.setCell (by simp) _).setCell (by simp) _).setCell (by simp) _).setCell (by simp) _) _⟩
  ·have hm':(v == -9223372036854775808)=false:=by simpa using hm
   go_enter Tryz.func219,Tryz.ntmps219;go_wp2_with fail;refine(zlU _ (by omega) _).mono ?_;rintro e w1 ⟨k1,n1,s1,A1,l1,c1,rfl,b1⟩;have b1':Below w.heap.size w w1:=zka (zkb (Below.refl _ _) _) b1;have hbx:w1.heap[w.heap.size]?=some (.cells #[.int .u8 0,.int .i64 0,.string ⟨#[]⟩,.slice none 0 0] 29 (0,0)):=(b1.block _ (by simp)).trans (heap_alloc_new w _);obtain⟨m0,m1,m2,m3⟩:=box4 hbx;have f0:∀ i,w1.frozen? ⟨w.heap.size,i,none⟩=false:=fun i=>zf hbx;have hlt:=zki hbx;have hne:¬ w.heap.size=w1.heap.size:=by omega
   have hne2:¬ w1.heap.size=w.heap.size:=by omega
   clear hbx;go_wp2_with fail;(try simp only[Exit.inBlock,Exit.then]);refine bodyPost_ret (v:=nv 6 0 ⟨#[]⟩ (some ⟨w1.heap.size,0,none⟩) 1 1) (by simp[results,Tryz.results219,go_sem,m0,m1,m2,m3,hne,hne2,hlt]) rfl ⟨_,_,_,_,_,_,rfl,zkb ((((b1'.setCell (by simp) _).setCell (by simp) _).setCell (by simp) _).setCell (by simp) _) _⟩
theorem zms (b:Bool):I64 (numI b):=by cases b<;>simp[numI,I64]
theorem zmW (x:Int):I64 (wrap64 x):=by unfold I64 wrap64;omega
theorem zsY (op:BinOp) (a b:Int):I64 (bits op .i64 a b):=⟨bits_lo_i64 _ _ _,bits_hi_i64 _ _ _⟩
theorem zzw {x y:Int} (hx:I64 x):I64 (x.tmod y):=by
 have h:(x.tmod y).natAbs<=x.natAbs:=by rw[Int.natAbs_tmod];exact Nat.mod_le _ _
 have hs:0<=x->0<=x.tmod y:=fun h0=>Int.tmod_nonneg y h0;have hn:x<=0->x.tmod y<=0:=fun h0=>by
  have h1:=Int.tmod_nonneg (a := -x) y (by omega);rw[Int.neg_tmod] at h1;omega
 unfold I64 at *
 omega
theorem zwp {k x y:Int} (hx:I64 x):I64 (divE k x y).1:=by
 unfold divE
 split
 ·simp[I64]
 ·split
  ·exact zmW _
  ·exact zzw hx
theorem zKF {k x:Int}:I64 (unE k x).1:=by
 unfold unE
 split
 ·exact zmW _
 ·exact zms _
theorem zLf {k x y:Int} (hx:I64 x):I64 (apE k x y).1:=by
 unfold apE;by_cases h:k=8
 ·rw[if_pos h];dsimp only;exact zmW _
 rw[if_neg h];clear h;by_cases h:k=9
 ·rw[if_pos h];dsimp only;exact zmW _
 rw[if_neg h];clear h;by_cases h:k=10
 ·rw[if_pos h];dsimp only;exact zmW _
 rw[if_neg h];clear h;by_cases h:k=11
 ·rw[if_pos h];exact zwp hx
 rw[if_neg h];clear h;by_cases h:k=12
 ·rw[if_pos h];exact zwp hx
 rw[if_neg h];clear h;by_cases h:k=13
 ·rw[if_pos h];dsimp only;exact zsY _ _ _
 rw[if_neg h];clear h;by_cases h:k=14
 ·rw[if_pos h];dsimp only;exact zsY _ _ _
 rw[if_neg h];clear h;by_cases h:k=15
 ·rw[if_pos h];dsimp only;exact zsY _ _ _
 rw[if_neg h];clear h;by_cases h:k=16
 ·rw[if_pos h];dsimp only;exact zms _
 rw[if_neg h];clear h;by_cases h:k=17
 ·rw[if_pos h];dsimp only;exact zms _
 rw[if_neg h];clear h;by_cases h:k=18
 ·rw[if_pos h];dsimp only;exact zms _
 rw[if_neg h];clear h;by_cases h:k=19
 ·rw[if_pos h];dsimp only;exact zms _
 rw[if_neg h];clear h;by_cases h:k=20
 ·rw[if_pos h];dsimp only;exact zms _
 rw[if_neg h];clear h;by_cases h:k=21
 ·rw[if_pos h];dsimp only;exact zms _
 rw[if_neg h];clear h;by_cases h:k=22
 ·rw[if_pos h];dsimp only;exact zms _
 rw[if_neg h];clear h;by_cases h:k=23
 ·rw[if_pos h];dsimp only;exact zms _
 rw[if_neg h];clear h;exact zms false
structure FO where
 v:Int
 c:Bool
def Fo6 (w:World) (p:Addr) (f:FO):Prop:=∃ k n s A l c,w.cell? p=some (.int .u8 k)/\w.cell? ⟨p.block,p.off+1,none⟩=some (.int .i64 n)/\w.cell? ⟨p.block,p.off+2,none⟩=some (.string s)/\w.cell? ⟨p.block,p.off+3,none⟩=some (.slice A l c)/\w.cell? ⟨p.block,p.off+4,none⟩=some (.int .i64 f.v)/\w.cell? ⟨p.block,p.off+5,none⟩=some (.bool f.c)
def RowF (w:World) (S:Nat->Prop) (A:Option Addr) (fs:List FO):Prop :=
 ∀ i (hi:i<fs.length),∃ a:Addr,A=some a/\S a.block/\Fo6 w (a.add (i*6)) fs[i]/\I64 fs[i].v
def valE (k n:Int) (fs:List FO):FO :=
 if fs.all (·.c) then
  if k=1 then ⟨n,true⟩ else if 2<=k/\k<=5 then ⟨0,false⟩ else
  if k=6\/k=7 then ⟨(unE k (fs[0]?.elim 0 (·.v))).1,(unE k (fs[0]?.elim 0 (·.v))).2==0⟩ else
  ⟨(apE k (fs[0]?.elim 0 (·.v)) (fs[1]?.elim 0 (·.v))).1,(apE k (fs[0]?.elim 0 (·.v)) (fs[1]?.elim 0 (·.v))).2==0⟩
 else ⟨0,false⟩
def nrm (f:FO):FO:=if f.c=true then f else ⟨0,false⟩
mutual
/-- Value and constancy of a folded tree. -/
def zl9:T->FO
 | .nd k n _ ks=>nrm (valE k n (zrP ks))
def zrP:List T->List FO
 | []=>[]
 | t::ts=>zl9 t::zrP ts
end
theorem zqn:∀ ks:List T,zrP ks=ks.map zl9
 | []=>by simp[zrP]
 | t::ts=>by simp[zrP,zqn ts]
theorem RowF.later {w w':World} {S:Nat->Prop} {A:Option Addr} {fs:List FO} (h:RowF w S A fs) (hb:Below w.heap.size w w'):RowF w' S A fs:=fun i hi=>by
 obtain⟨a,h1,h2,⟨k,n,s,A',l,c,q0,q1,q2,q3,q4,q5⟩,h4⟩:=h i hi;have kp:∀ {p:Addr} {v:Value},w.cell? p=some v->w'.cell? p=some v:=fun {p v} hq=>zlP hq (hb.block _ (World.block_lt_of_cell? w _ hq));exact⟨a,h1,h2,⟨k,n,s,A',l,c,kp q0,kp q1,kp q2,kp q3,kp q4,kp q5⟩,h4⟩
theorem RowF.nd {w:World} {S:Nat->Prop} {A:Option Addr} {fs:List FO} (h:RowF w S A fs) {i:Nat} (hi:i<fs.length):∃ (a:Addr) (f:FO),A=some a/\Hid (fs[i]=f)/\Fo6 w (a.add (i*6)) f/\I64 f.v :=
 let ⟨a,h1,_,h3,h4⟩:=h i hi;⟨a,fs[i],h1,rfl,h3,h4⟩
theorem zuD (t:T) (fs:List FO) (A:Option Addr) (c:Nat) (S:Nat->Prop) (v:Value) (w:World) (hv:NV w Any t v) (hrow:RowF w S A fs) (hl:fs.length<=100000) (h1:t.k=6\/t.k=7->1<=fs.length) (h2:8<=t.k->t.k<=23/\2<=fs.length) (h0:1<=t.k) :
  Calls Tryz.prog 218 #[v,.slice A fs.length c] w fun e w'=>e=.returned (.tuple #[.int .i64 (valE t.k t.n fs).v,.bool (valE t.k t.n fs).c])/\Below w.heap.size w w':=by
 obtain⟨B,tc,rfl,hf,hlk,-,-⟩:=hv.open_;obtain⟨k,hk⟩:∃ k,t.k=k:=⟨_,rfl⟩
 obtain⟨n,hn⟩:∃ n,t.n=n:=⟨_,rfl⟩
 obtain⟨s,hs⟩:∃ s,t.s=s:=⟨_,rfl⟩
 obtain⟨l,hlks⟩:∃ l,t.ks.length=l:=⟨_,rfl⟩
 rw[hk,hn,hs,hlks];rw[hk] at h0 h1 h2;clear hv hf hlk hk hn hs hlks;obtain⟨F,hF⟩:∃ F,valE k n fs=F:=⟨_,rfl⟩
 rw[hF];have HF:=zh hF;have ae:=zh hrow;have H1:=zh h1;have H2:=zh h2;clear hF hrow h1 h2;go_enter Tryz.func218,Tryz.ntmps218;go_wp2_with fail
 go_loopw [12] (fun i wr=>∃ j:Nat,j<=fs.length/\i=.int .i64 j/\(fs.take j).all (·.c)=true/\Below w.heap.size w wr/\wr.heap[w.heap.size]?=some (.cells #[.int .u8 k,.int .i64 n,.string s,.slice B l tc] 29 (0,0))) (fun i _=>fs.length-(intOf i).toNat)
 case atStart=>exact⟨0,Nat.zero_le _,rfl,by simp,zkb (Below.refl _ _) _,heap_alloc_new w _⟩
 case round =>
  obtain⟨j,hj,rfl,hall,hbw,hbx⟩:=hrel;have aN:=zh hbw;have aO:=zh hbx;have di:=zh hall;by_cases hlt:j<fs.length
  ·obtain⟨a,f,rfl,Hf,⟨k1,n1,s1,A1,l1,c1,q0,q1,q2,q3,q4,q5⟩,-⟩:=(ae.out.later hbw).nd hlt;obtain⟨fv,fc⟩:=f;clear hbw hbx hall;dsimp only at q4 q5
   cases fc
   ·go_wp2_with fail;go_ret2;have gT:F=⟨0,false⟩:=by
     rw[<-HF.out,valE,if_neg];intro h;have:=List.all_eq_true.1 h _ (List.getElem_mem hlt);rw[Hf.out] at this
     cases this
    subst gT;exact⟨rfl,zkb aN.out _⟩
   ·go_wp2_with fail
    go_roundw
    case rel=>exact⟨j+1,by omega,by go_num,by rw[List.take_succ_eq_append_getElem hlt,List.all_append,di.out,Hf.out];rfl,zkb aN.out _,zkl aO.out _⟩
    case measure=>simp[intOf];omega
  ·have hjl:j=fs.length:=by omega
   have hallf:fs.all (·.c)=true:=by have:=di.out;rwa[hjl,List.take_of_length_le (Nat.le_refl _)] at this
   have hge:¬ ((j:Int)<(fs.length:Int)):=by omega
   have vP:=zh hallf;obtain⟨m0,m1,m2,m3⟩:=box4 hbx;clear hbw hbx hall hallf;by_cases k1:k=1
   ·subst k1;go_wp2_with fail;go_ret2;have gT:F=⟨n,true⟩:=by rw[<-HF.out,valE,if_pos vP.out];simp
    subst gT;exact⟨rfl,aN.out⟩
   ·by_cases k2:k=2\/k=3\/k=4\/k=5
    ·have gT:F=⟨0,false⟩:=by rw[<-HF.out,valE,if_pos vP.out,if_neg k1,if_pos (by omega)]
     subst gT;rcases k2 with rfl|rfl|rfl|rfl
     all_goals (go_wp2_with fail;go_ret2;exact⟨rfl,aN.out⟩)
    ·by_cases k6:k=6\/k=7
     ·have hl1:=H1.out k6;obtain⟨a,f,rfl,Hf,⟨k1',n1',s1',A1',l1',c1',q0,q1,q2,q3,q4,q5⟩,-⟩:=(ae.out.later aN.out).nd (show 0<fs.length by omega);have hfl:(0:Int)<(fs.length:Int):=by omega
      have fE:0<fs.length:=by omega
      have gT:F=⟨(unE k f.v).1,(unE k f.v).2==0⟩:=by
       have e0:fs[0]?=some f:=by rw[List.getElem?_eq_getElem (by omega),Hf.out]
       rw[<-HF.out,valE,if_pos vP.out,if_neg k1,if_neg (by omega),if_pos k6,e0];rfl
      have jT:=zh (zsd k f.v k6);obtain⟨⟨uv,ue⟩,hU⟩:∃ p,unE k f.v=p:=⟨_,rfl⟩
      rw[hU] at jT gT;dsimp only at jT gT;have vL:=zh gT;clear hU gT;rcases k6 with rfl|rfl
      ·have HS:=zh (show(fun w':World=>w'.cell? ⟨w.heap.size,0,none⟩=some (.int .u8 6)/\w'.cell? ⟨a.block,a.off+4,none⟩=some (.int .i64 f.v)) wr.drew from ⟨m0,by simpa[Addr.add_zero'] using q4⟩);clear q0 q1 q2 q3 q4 q5;go_upto_region 20 with fail
       go_region_held3 (fun w':World=>w'.cell? ⟨w.heap.size,0,none⟩=some (.int .u8 6)/\w'.cell? ⟨a.block,a.off+4,none⟩=some (.int .i64 f.v))
        (with_reducible exact HS.out)
        (first
         | (go_at_call 176;refine(jT.out _).mono ?_;rintro e x1 ⟨rfl,rfl⟩)
         | fail)
       go_wp2_with fail;go_ret2;exact⟨by rw[vL.out];rfl,aN.out.drew⟩
      ·have HS:=zh (show(fun w':World=>w'.cell? ⟨w.heap.size,0,none⟩=some (.int .u8 7)/\w'.cell? ⟨a.block,a.off+4,none⟩=some (.int .i64 f.v)) wr.drew from ⟨m0,by simpa[Addr.add_zero'] using q4⟩);clear q0 q1 q2 q3 q4 q5;go_upto_region 20 with fail
       go_region_held3 (fun w':World=>w'.cell? ⟨w.heap.size,0,none⟩=some (.int .u8 7)/\w'.cell? ⟨a.block,a.off+4,none⟩=some (.int .i64 f.v))
        (with_reducible exact HS.out)
        (first
         | (go_at_call 176;refine(jT.out _).mono ?_;rintro e x1 ⟨rfl,rfl⟩)
         | fail)
       go_wp2_with fail;go_ret2;exact⟨by rw[vL.out];rfl,aN.out.drew⟩
     ·have hl2:=H2.out (by omega);have hl2':=hl2.2;obtain⟨a,f,rfl,Hf,⟨k1',n1',s1',A1',l1',c1',q0,q1,q2,q3,q4,q5⟩,-⟩:=(ae.out.later aN.out).nd (show 0<fs.length by omega);obtain⟨a',f',ea,Hf',⟨k2',n2',s2',A2',l2',c2',y0,y1,y2,y3,y4,y5⟩,-⟩:=(ae.out.later aN.out).nd (show 1<fs.length by omega);injection ea with ea;subst ea;have hfl:(0:Int)<(fs.length:Int):=by omega
      have fE:0<fs.length:=by omega
      have pO:(1:Int)<(fs.length:Int):=by omega
      have pM:1<fs.length:=by omega
      have gT:F=⟨(apE k f.v f'.v).1,(apE k f.v f'.v).2==0⟩:=by
       have e0:fs[0]?=some f:=by rw[List.getElem?_eq_getElem (by omega),Hf.out]
       have e1:fs[1]?=some f':=by rw[List.getElem?_eq_getElem (by omega),Hf'.out]
       rw[<-HF.out,valE,if_pos vP.out,if_neg k1,if_neg (by omega),if_neg k6,e0,e1];rfl
      have jT:=zh (zsf k f.v f'.v (by omega));obtain⟨⟨uv,ue⟩,hU⟩:∃ p,apE k f.v f'.v=p:=⟨_,rfl⟩
      rw[hU] at jT gT;dsimp only at jT gT;have vL:=zh gT;have x1:(k==1)=false:=by simp;omega
      have x2:(k==2)=false:=by simp;omega
      have x3:(k==3)=false:=by simp;omega
      have x4:(k==4)=false:=by simp;omega
      have x5:(k==5)=false:=by simp;omega
      have x6:(k==6)=false:=by simp;omega
      have x7:(k==7)=false:=by simp;omega
      have HS:=zh (show(fun w':World=>w'.cell? ⟨w.heap.size,0,none⟩=some (.int .u8 k)/\w'.cell? ⟨a.block,a.off+4,none⟩=some (.int .i64 f.v)/\w'.cell? ⟨a.block,a.off+6+4,none⟩=some (.int .i64 f'.v)) wr.drew from ⟨m0,by simpa[Addr.add_zero'] using q4,by simpa[Addr.add] using y4⟩);clear hU gT q0 q1 q2 q3 q4 q5 y0 y1 y2 y3 y4 y5 k1 k2 k6;go_upto_region 10 with fail
      go_region_held3 (fun w':World=>w'.cell? ⟨w.heap.size,0,none⟩=some (.int .u8 k)/\w'.cell? ⟨a.block,a.off+4,none⟩=some (.int .i64 f.v)/\w'.cell? ⟨a.block,a.off+6+4,none⟩=some (.int .i64 f'.v))
       (with_reducible exact HS.out)
       (first
        | (go_at_call 177;refine(jT.out _).mono ?_;rintro e x1 ⟨rfl,rfl⟩)
        | fail)
      go_wp2_with fail;go_ret2;exact⟨by rw[vL.out];rfl,aN.out.drew⟩
def zLl (f:FO) (us:List Value):Prop:=∃ k n s A l c,us=[.int .u8 k,.int .i64 n,.string s,.slice A l c,.int .i64 f.v,.bool f.c]
inductive zre:List FO->List Value->Prop
 | nil:zre [] []
 | snoc {fs:List FO} {xs:List Value} {f:FO} {us:List Value}:zre fs xs->zLl f us->zre (fs++[f]) (xs++us)
theorem zre.len {fs:List FO} {xs:List Value} (h:zre fs xs):xs.length=fs.length*6:=by
 induction h with
 | nil=>rfl
 | snoc _ hc ih=>obtain⟨_,_,_,_,_,_,rfl⟩:=hc;simp[ih];omega
theorem zre.get {fs:List FO} {xs:List Value} (h:zre fs xs):∀ i (hi:i<fs.length),∃ us,zLl fs[i] us/\∀ j,j<6->xs[i*6+j]?=us[j]?:=by
 induction h with
 | nil=>intro i hi;simp at hi
 | @snoc fs xs f us h hc ih =>
  intro i hi;have hl:=h.len;by_cases hlt:i<fs.length
  ·obtain⟨us',h1,h2⟩:=ih i hlt;rw[List.getElem_append_left hlt];refine⟨us',h1,fun j hj=>?_⟩;rw[List.getElem?_append_left (by omega)];exact h2 j hj
  ·obtain rfl:i=fs.length:=by simp at hi;omega
   refine⟨us,by simpa using hc,fun j hj=>?_⟩;rw[List.getElem?_append_right (by omega),show fs.length*6+j-xs.length=j by omega]
theorem zrB {w:World} {base:Nat} {E:TypeId} {v:Value} {fs:List FO} {xs:List Value} (h:w.ownsRow base E 6 v fs.length xs) (hx:zre fs xs) (hf:∀ f∈fs,I64 f.v):∃ A c,v=.slice A fs.length c/\fs.length<=c/\RowF w Any A fs:=by
 rcases h.2 with⟨rfl,h0⟩|⟨g,cap,cur,rfl,hb,hg,hc,hm,hz,hx'⟩
 ·exact⟨none,0,by rw[h0],by omega,fun i hi=>absurd hi (by omega)⟩
 ·refine⟨some ⟨g,0,none⟩,cap,rfl,hc,fun i hi=>?_⟩;have ha:(⟨g,0,none⟩:Addr).add (i*6)=⟨g,i*6,none⟩:=by unfold Addr.add;split<;>simp_all
  obtain⟨us,⟨k,n,s,A,l,c,rfl⟩,h2⟩:=hx.get i hi;have cc:∀ j,j<6->w.cell? ⟨g,i*6+j,none⟩=([.int .u8 k,.int .i64 n,.string s,.slice A l c,.int .i64 fs[i].v,.bool fs[i].c]:List Value)[j]?:=fun j hj=>by
   rw[h.cellAt _ (by omega),h2 j hj]
  refine⟨⟨g,0,none⟩,rfl,trivial,?_,hf _ (List.getElem_mem hi)⟩;rw[ha];exact⟨k,n,s,A,l,c,by simpa using cc 0 (by omega),by simpa using cc 1 (by omega),by simpa using cc 2 (by omega),by simpa using cc 3 (by omega),by simpa using cc 4 (by omega),by simpa using cc 5 (by omega)⟩
abbrev fv (k n:Int) (s:ByteArray) (A:Option Addr) (l c:Nat) (f:FO):Value:=.agg #[.int .u8 k,.int .i64 n,.string s,.slice A l c,.int .i64 f.v,.bool f.c]
def NewF (w:World) (f:FO) (e:Ending) (w':World):Prop:=∃ k n s A l c,e=.returned (fv k n s A l c f)/\I64 f.v/\Below w.heap.size w w'
def zKE (t:T):Prop:=∀ (v:Value) (w:World),NV w Any t v->Calls Tryz.prog 214 #[v] w (NewF w (zl9 t))
theorem zx2:(Tryz.prog.info? 246).map (fun i=>(i.zero,i.size,i.bytes))=some (some (.agg #[.int .u8 0,.int .i64 0,.string ⟨#[]⟩,.slice none 0 0,.int .i64 0,.bool false]),6,72):=by kernel_rfl
theorem zyA (a0 a1 a2 a3 a4 a5:Value) (w:World):(Instr.buildSlice 249 1 #[(0,.agg #[a0,a1,a2,a3,a4,a5])]).run Tryz.prog w=.ok (.slice (some ⟨w.heap.size,0,none⟩) 1 1) (w.alloc (.cells #[a0,a1,a2,a3,a4,a5] 246)):=by kernel_rfl
theorem zwj (ks:List T) (A:Option Addr) (c:Nat) (w:World) (hrow:zkX w Any A ks) (hl:ks.length<=8) (hF:∀ kid∈ks,zKE kid) :
  Calls Tryz.prog 217 #[.slice A ks.length c,.func (.func 214) #[] #[]] w fun e w'=>∃ A' c',e=.returned (.slice A' ks.length c')/\RowF w' Any A' (ks.map zl9)/\Below w.heap.size w w':=by
 obtain⟨i0,hi0,hz0,hz1,hz2⟩:=info_parts zx2;have HF:=zh hF;have ae:=zh hrow;clear hF hrow;have hbs:=zyA;go_enter Tryz.func217,Tryz.ntmps217;go_wp2_with fail
 go_loopw [5,10] (fun x i wr=>∃ (j:Nat) (xs:List Value),j<=ks.length/\i=.int .i64 j/\wr.ownsRow w.heap.size 246 6 x j xs/\zre ((ks.take j).map zl9) xs/\(∀ f∈(ks.take j).map zl9,I64 f.v)/\Below w.heap.size w wr) (fun _ i _=>ks.length-(intOf i).toNat)
 case atStart=>exact⟨0,[],Nat.zero_le _,rfl,World.ownsRow_nil _ _ _ _,.nil,by simp,Below.refl _ _⟩
 case round =>
  obtain⟨j,xs,hj,rfl,hown,hfl,hf64,hbw⟩:=hrel;have kg:∃ A3 c3,u5=.slice A3 j c3:=by
   rcases hown.2 with⟨rfl,rfl⟩|⟨g,cap,cur,rfl,_⟩
   ·exact⟨_,_,rfl⟩
   ·exact⟨_,_,rfl⟩
  obtain⟨A3,c3,rfl⟩:=kg;have HOWN:=zh hown;have rq:=zh hfl;have HF64:=zh hf64;have aN:=zh hbw;clear hown hfl hf64;by_cases hlt:j<ks.length
  ·obtain⟨a,t,A1,c1,rfl,_,Ht,⟨q0,q1,q2,q3⟩,hn⟩:=(ae.out.later hbw).nd hlt;have hF1:=HF.out ks[j] (List.getElem_mem hlt);rw[Ht.out] at hF1;have jV:=zh hF1;have HN:=zh hn;clear hF1 hn hbw;go_wp2_with fail;refine(jV.out _ _ (HN.out.later ((Below.refl _ _).alloc (Nat.le_refl _) _))).mono ?_;rintro e w1 ⟨k',n',s',A',l',c',rfl,h64,aa⟩;have hb1:Below wr.heap.size wr w1:=zka (zkb (Below.refl _ _) _) aa;have hown1:=(zk7 HOWN.out hb1).alloc (.cells #[.int .u8 k',.int .i64 n',.string s',.slice A' l' c',.int .i64 (zl9 t).v,.bool (zl9 t).c] 246);have HB1:=zh hb1;have hbz:=aN.out.size;have hbz1:=hb1.size;have eG:=zh (zk3 w1 246 [.int .u8 k',.int .i64 n',.string s',.slice A' l' c',.int .i64 (zl9 t).v,.bool (zl9 t).c]);clear q0 q1 q2 q3 aa
   go_wp2_with (at_builtin;refine wpList_append_own_at (P:=Tryz.prog) _ rfl (.tmp 14) (.tmp 18) 249 rfl w.heap.size 246 i0 _ 6 72 Tryz.underlying249 hi0 hz0 hz1 hz2 rfl (by decide) (.slice A3 j c3) j xs rfl hown1 ⟨w1.heap.size,0,none⟩ 1 1 [.int .u8 k',.int .i64 n',.string s',.slice A' l' c',.int .i64 (zl9 t).v,.bool (zl9 t).c] rfl rfl eG.out (by intro u hu;simp at hu;rcases hu with rfl|rfl|rfl|rfl|rfl|rfl<;>rfl) (by unfold maxLen;omega) (by omega) (by simp;omega) ?_;intro v' w' h2 h3 h4 h5)
   have hbl:Below w.heap.size w w':=(zkb (zka aN.out HB1.out) _).grown h3 (by simp;omega) (fun g e=>(hown1.lt g e).1);have e2:(ks.take (j+1)).map zl9=(ks.take j).map zl9++[zl9 t]:=by rw[List.take_succ_eq_append_getElem hlt,Ht.out];simp
   refine⟨⟨j+1,_,by omega,rfl,h2,?_,?_,hbl⟩,by simp[intOf];omega⟩
   ·rw[e2];exact rq.out.snoc ⟨_,_,_,_,_,_,rfl⟩
   ·intro f hf;rw[e2,List.mem_append] at hf;rcases hf with hf|hf
    ·exact HF64.out f hf
    ·simp at hf;rw[hf];exact h64
  ·obtain rfl:j=ks.length:=by omega
   have e3:ks.take ks.length=ks:=List.take_of_length_le (Nat.le_refl _);have h1:=rq.out;have h2:=HF64.out;rw[e3] at h1 h2;have h3:=HOWN.out;rw[show ks.length=(ks.map zl9).length by simp] at h3;obtain⟨A4,c4,e4,hc4,hrf⟩:=zrB h3 h1 h2;have e5:A4=A3:=by injection e4 with e _ _;exact e.symm
   subst e5;have vg:=zh hrf;clear hbw h1 h2 h3 e4 hrf;go_wp2_with fail;go_ret;exact⟨_,_,rfl,vg.out,aN.out⟩
theorem zvW (k n:Int) (s:ByteArray) (A:Option Addr) (l c:Nat) (f:FO) (w:World):Calls Tryz.prog 221 #[fv k n s A l c f] w (zKC w):=by
 go_enter Tryz.func221,Tryz.ntmps221;go_wp2_with fail;exact bodyPost_ret (v:=nv k n s A l c) (by simp[results,Tryz.results221,go_sem]) rfl ⟨_,_,_,_,_,_,rfl,zkb (zkb (Below.refl _ _) _) _⟩
theorem zwi (fs:List FO) (A:Option Addr) (c:Nat) (S:Nat->Prop) (w:World) (hrow:RowF w S A fs) (hl:fs.length<=8) :
  Calls Tryz.prog 220 #[.slice A fs.length c,.func (.func 221) #[] #[]] w fun e w'=>∃ A' l' c',e=.returned (.slice A' l' c')/\Below w.heap.size w w':=by
 obtain⟨i0,hi0,hz0,hz1,hz2⟩:=info_parts zn7;have ae:=zh hrow;clear hrow;have hbs:=zr3;go_enter Tryz.func220,Tryz.ntmps220;go_wp2_with fail
 go_loopw [5,10] (fun x i wr=>∃ (j:Nat) (xs:List Value),j<=fs.length/\i=.int .i64 j/\wr.ownsRow w.heap.size 29 4 x j xs/\Below w.heap.size w wr) (fun _ i _=>fs.length-(intOf i).toNat)
 case atStart=>exact⟨0,[],Nat.zero_le _,rfl,World.ownsRow_nil _ _ _ _,Below.refl _ _⟩
 case round =>
  obtain⟨j,xs,hj,rfl,hown,hbw⟩:=hrel;have kg:∃ A3 c3,u5=.slice A3 j c3:=by
   rcases hown.2 with⟨rfl,rfl⟩|⟨g,cap,cur,rfl,_⟩
   ·exact⟨_,_,rfl⟩
   ·exact⟨_,_,rfl⟩
  obtain⟨A3,c3,rfl⟩:=kg;have HOWN:=zh hown;have aN:=zh hbw;clear hown;by_cases hlt:j<fs.length
  ·obtain⟨a,f,rfl,Hf,⟨k1,n1,s1,A1,l1,c1,q0,q1,q2,q3,q4,q5⟩,-⟩:=(ae.out.later hbw).nd hlt;clear hbw;go_wp2_with fail;refine(zvW k1 n1 s1 A1 l1 c1 f _).mono ?_;rintro e w1 ⟨k',n',s',A',l',c',rfl,aa⟩;have hb1:Below wr.heap.size wr w1:=zka (zkb (Below.refl _ _) _) aa;have hown1:=(zk7 HOWN.out hb1).alloc (.cells #[.int .u8 k',.int .i64 n',.string s',.slice A' l' c'] 29);have HB1:=zh hb1;have hbz:=aN.out.size;have hbz1:=hb1.size;have eG:=zh (zk3 w1 29 [.int .u8 k',.int .i64 n',.string s',.slice A' l' c']);clear q0 q1 q2 q3 q4 q5 aa
   go_wp2_with (at_builtin;refine wpList_append_own_at (P:=Tryz.prog) _ rfl (.tmp 14) (.tmp 18) 27 rfl w.heap.size 29 i0 _ 4 56 Tryz.underlying27 hi0 hz0 hz1 hz2 rfl (by decide) (.slice A3 j c3) j xs rfl hown1 ⟨w1.heap.size,0,none⟩ 1 1 [.int .u8 k',.int .i64 n',.string s',.slice A' l' c'] rfl rfl eG.out (by intro u hu;simp at hu;rcases hu with rfl|rfl|rfl|rfl<;>rfl) (by unfold maxLen;omega) (by omega) (by simp;omega) ?_;intro v' w' h2 h3 h4 h5)
   have hbl:Below w.heap.size w w':=(zkb (zka aN.out HB1.out) _).grown h3 (by simp;omega) (fun g e=>(hown1.lt g e).1);exact⟨⟨j+1,_,by omega,rfl,h2,hbl⟩,by simp[intOf];omega⟩
  ·obtain rfl:j=fs.length:=by omega
   clear hbw;go_wp2_with fail;go_ret;exact⟨_,_,_,rfl,aN.out⟩
theorem zzt (t:T) (fs:List FO) (L:Nat) (hL:fs.length=L) (A:Option Addr) (c:Nat) (S:Nat->Prop) (v:Value) (w:World) (hv:NV w Any t v) (hrow:RowF w S A fs) (hl:L<=100000) (h1:t.k=6\/t.k=7->1<=L) (h2:8<=t.k->t.k<=23/\2<=L) (h0:1<=t.k) (g:FO) (hg:valE t.k t.n fs=g) :
  Calls Tryz.prog 218 #[v,.slice A L c] w fun e w'=>e=.returned (.tuple #[.int .i64 g.v,.bool g.c])/\Below w.heap.size w w':=by
 subst hL hg;exact zuD t fs A c S v w hv hrow hl h1 h2 h0
theorem zKa (fs:List FO) (L:Nat) (hL:fs.length=L) (A:Option Addr) (c:Nat) (S:Nat->Prop) (w:World) (hrow:RowF w S A fs) (hl:L<=8) :
  Calls Tryz.prog 220 #[.slice A L c,.func (.func 221) #[] #[]] w fun e w'=>∃ A' l' c',e=.returned (.slice A' l' c')/\Below w.heap.size w w':=by
 subst hL;exact zwi fs A c S w hrow hl
theorem zzu {k n:Int} {fs:List FO} (hn:I64 n) (hf:∀ f∈fs,I64 f.v):I64 (valE k n fs).v:=by
 have h0:I64 (fs[0]?.elim 0 (·.v)):=by
  cases fs with
  | nil=>simp[I64]
  | cons f fs=>simpa using hf f (by simp)
 unfold valE
 split
 ·split
  ·exact hn
  ·split
   ·simp[I64]
   ·split
    ·exact zKF
    ·exact zLf h0
 ·simp[I64]
theorem RowF.fits {w:World} {S:Nat->Prop} {A:Option Addr} {fs:List FO} (h:RowF w S A fs):∀ f∈fs,I64 f.v:=fun f hf=>by
 obtain⟨i,hi,rfl⟩:=List.getElem_of_mem hf;obtain⟨_,_,_,_,h⟩:=h i hi;exact h
theorem zrL {k n:Int} {s:ByteArray} {ks:List T} (h:isE (.nd k n s ks)=true):1<=k/\k<=23/\ks.length<=2/\(k=6\/k=7->1<=ks.length)/\(8<=k->2<=ks.length):=by
 rw[isE] at h
 split at h
 ·simp only[Bool.and_eq_true,decide_eq_true_eq] at h;omega
 ·split at h
  ·simp only[Bool.and_eq_true,decide_eq_true_eq] at h;omega
  ·split at h
   ·simp only[Bool.and_eq_true,decide_eq_true_eq] at h;omega
   ·split at h
    ·simp only[Bool.and_eq_true,decide_eq_true_eq] at h;omega
    ·split at h
     ·simp only[Bool.and_eq_true,decide_eq_true_eq] at h;omega
     ·cases h
theorem zx1 (t:T) (hE:isE t=true):zKE t:=by
 revert hE;refine T.ind (p:=fun t=>isE t=true->zKE t) ?_ t;intro k n s ks ih hE v w hv;have hk:=zoX hE;have hsh:=zrL hE;have HV:=zh hv;obtain⟨A,c,rfl,hf,hlk,hlc,hrow⟩:=hv.open_;simp only[T.k_nd,T.n_nd,T.s_nd,T.ks_nd] at *
 have nK:=zh (fun t ht=>ih t ht (hk t ht));have ae:=zh hrow;obtain⟨g,hg⟩:∃ g,valE k n (ks.map zl9)=g:=⟨_,rfl⟩
 have hff:zl9 (.nd k n s ks)=nrm g:=by rw[zl9,zqn,hg]
 rw[hff];have HG:=zh hg;have qB:=zh hsh;have ru:=zh hf;clear ih hk hrow hg hff hsh hE hlk hlc hf;go_enter Tryz.func214,Tryz.ntmps214;go_wp2_with fail;refine(zwj ks A c _ (ae.out.later (zkb (zkb (Below.refl _ _) _) _)) (by have:=qB.out;omega) nK.out).mono ?_;rintro e w1 ⟨A1,c1,rfl,hrf,aa⟩;have q1:Below w.heap.size w w1:=zka (zkb (zkb (Below.refl _ _) _) _) aa;have hN:=zkd (zkl (heap_alloc_new w (.cells #[.int .u8 k,.int .i64 n,.string s,.slice A ks.length c] 29)) _) aa;have hR:=zkd (heap_alloc_new (w.alloc (.cells #[.int .u8 k,.int .i64 n,.string s,.slice A ks.length c] 29)) (.cells #[.int .u8 0,.int .i64 0,.string ⟨#[]⟩,.slice none 0 0,.int .i64 0,.bool false] 246)) aa;simp only[World.size_alloc] at hR;obtain⟨a0,a1,a2,a3⟩:=box4 hN;have HG64:=zh (show I64 g.v from HG.out▸zzu ru.out.2.1 hrf.fits);have HN:=zh hN;have HR:=zh hR;have vg:=zh hrf
 clear aa hN hR hrf;go_wp2_with fail;refine(zzt (.nd k n s ks) (ks.map zl9) ks.length (by simp) A1 c1 Any _ _ (HV.out.later q1) vg.out (by have:=qB.out;omega) qB.out.2.2.2.1 (fun h=>⟨qB.out.2.1,qB.out.2.2.2.2 h⟩) qB.out.1 g HG.out).mono ?_;rintro e w2 ⟨rfl,ag⟩;have q2:=zka q1 ag;have hN:=zkd HN.out ag;have hR:=zkd HR.out ag;obtain⟨gv,gc⟩:=g;dsimp only at *
 cases gc
 ·clear a0 a1 a2 a3;obtain⟨a0,a1,a2,a3⟩:=box4 hN;have HN:=zh hN;have HR:=zh hR;have HRF2:=zh (vg.out.later ag);clear hN hR ag;go_wp2_with fail;refine(zKa (ks.map zl9) ks.length (by simp) A1 c1 Any _ HRF2.out (by have:=qB.out;omega)).mono ?_;rintro e w3 ⟨A3,l3,c3,rfl,az⟩;have q3:=zka q2 az;have hN:=zkd HN.out az;have hR:=zkd HR.out az;have hz:w3.frozen? ⟨w.heap.size,3,none⟩=false:=zf hN;clear a0 a1 a2 a3;obtain⟨a0,a1,a2,a3⟩:=box4 hN;obtain⟨r0,r1,r2,r3,r4,r5⟩:=box6 hR;have rz:∀ i,w3.frozen? ⟨w.heap.size+1,i,none⟩=false:=fun i=>zf hR;clear hN hR az;go_wp2_with fail;refine bodyPost_ret (v:=fv k n s A3 l3 c3 ⟨0,false⟩) (by simp[results,Tryz.results214,go_sem,r0,r1,r2,r3,r4,r5]) rfl ⟨_,_,_,_,_,_,rfl,by simp[nrm,I64],?_⟩
  exact(((((((q3.setCell (by simp) _).setCell (by simp) _).setCell (by simp) _).setCell (by simp) _).setCell (by simp) _).setCell (by simp) _).setCell (by simp) _)
 ·clear a0 a1 a2 a3;obtain⟨r0,r1,r2,r3,r4,r5⟩:=box6 hR;have HN:=zh hN;have HR:=zh hR;clear hN hR ag;go_wp2_with fail;refine(zsI gv HG64.out _).mono ?_;rintro e w3 ⟨k3,n3,s3,A3,l3,c3,rfl,az⟩;have q3:=zka q2 az;have hR:=zkd HR.out az;clear r0 r1 r2 r3 r4 r5;obtain⟨r0,r1,r2,r3,r4,r5⟩:=box6 hR;have rz:∀ i,w3.frozen? ⟨w.heap.size+1,i,none⟩=false:=fun i=>zf hR;clear hR az;go_wp2_with fail;refine bodyPost_ret (v:=fv k3 n3 s3 A3 l3 c3 ⟨gv,true⟩) (by simp[results,Tryz.results214,go_sem,r0,r1,r2,r3,r4,r5]) rfl ⟨_,_,_,_,_,_,rfl,HG64.out,?_⟩;exact((((((q3.setCell (by simp) _).setCell (by simp) _).setCell (by simp) _).setCell (by simp) _).setCell (by simp) _).setCell (by simp) _)
attribute [local go_sem] Oper.semAt_some
def conB (t:T):Bool:=isE t&&(zl9 t).c
theorem zxc (t:T) (v:Value) (w:World) (hv:NV w Any t v):Calls Tryz.prog 202 #[v] w fun e w'=>∃ x:Int,e=.returned (.tuple #[.int .i64 x,.bool (conB t)])/\Below w.heap.size w w':=by
 have HV:=zh hv;obtain⟨A,c,rfl,-⟩:=hv.open_;clear hv
 cases hE:isE t
 ·have hc:conB t=false:=by simp[conB,hE]
  rw[hc];have HE:=zh hE;generalize t.k=k,t.n=n,t.s=s,t.ks.length=m at *
  clear hE hc;go_enter Tryz.func202,Tryz.ntmps202;go_wp2_with fail;refine(zkO t _ _ (HV.out.later (zkb (Below.refl _ _) _))).mono ?_;rintro e w1 ⟨rfl,aa⟩;have q1:=zka (zkb (Below.refl _ _) _) aa;rw[HE.out];clear aa;go_wp2_with fail;go_ret2;exact⟨_,rfl,q1⟩
 ·have hc:conB t=(zl9 t).c:=by simp[conB,hE]
  rw[hc];have HE:=zh hE;obtain⟨⟨gv,gc⟩,hf⟩:∃ f,zl9 t=f:=⟨_,rfl⟩
  have HFO:=zh (show ∀ (v:Value) (w:World),NV w Any t v->Calls Tryz.prog 214 #[v] w (NewF w ⟨gv,gc⟩) from hf▸zx1 t hE);rw[hf];generalize t.k=k,t.n=n,t.s=s,t.ks.length=m at *
  clear hE hc hf;go_enter Tryz.func202,Tryz.ntmps202;go_wp2_with fail;refine(zkO t _ _ (HV.out.later (zkb (Below.refl _ _) _))).mono ?_;rintro e w1 ⟨rfl,aa⟩;have q1:=zka (zkb (Below.refl _ _) _) aa;have hN:=zkd (heap_alloc_new w (.cells #[.int .u8 k,.int .i64 n,.string s,.slice A m c] 29)) aa;obtain⟨a0,a1,a2,a3⟩:=box4 hN;rw[HE.out];clear aa hN;go_wp2_with fail;refine(HFO.out _ _ (HV.out.later q1)).mono ?_;rintro e w2 ⟨k2,n2,s2,A2,l2,c2,rfl,-,ag⟩;have q2:=zka q1 ag;clear ag a0 a1 a2 a3;obtain⟨-,-,-,-,y4,y5⟩:=box6 (heap_alloc_new w2 (.cells #[.int .u8 k2,.int .i64 n2,.string s2,.slice A2 l2 c2,.int .i64 gv,.bool gc] 246))
  have HS:=zh (show(fun w':World=>w'.cell? ⟨w2.heap.size,4,none⟩=some (.int .i64 gv)/\w'.cell? ⟨w2.heap.size,5,none⟩=some (.bool gc)) (w2.alloc (.cells #[.int .u8 k2,.int .i64 n2,.string s2,.slice A2 l2 c2,.int .i64 gv,.bool gc] 246)).drew from ⟨y4,y5⟩);clear y4 y5;go_upto_region 4 with fail
  go_region_held3 (fun w':World=>w'.cell? ⟨w2.heap.size,4,none⟩=some (.int .i64 gv)/\w'.cell? ⟨w2.heap.size,5,none⟩=some (.bool gc))
   (with_reducible exact HS.out)
   (first|fail)
  go_wp2_with fail;refine bodyPost_ret (v:=.tuple #[.int .i64 gv,.bool gc]) (by simp[results,Tryz.results202,go_sem]) rfl ⟨gv,rfl,(zkb q2 _).drew⟩
theorem zne (t:T) (v:Value) (w:World) (hv:NV w Any t v):Calls Tryz.prog 174 #[v] w fun e w'=>e=.returned (.bool (conB t))/\Below w.heap.size w w':=by
 have HV:=zh hv;obtain⟨A,c,rfl,-⟩:=hv.open_;clear hv;obtain⟨b,hb⟩:∃ b,conB t=b:=⟨_,rfl⟩
 rw[hb];have HB:=zh hb;clear hb;generalize t.k=k,t.n=n,t.s=s,t.ks.length=m at *
 go_enter Tryz.func174,Tryz.ntmps174;go_wp2_with fail;refine(zxc t _ _ (HV.out.later (zkb (Below.refl _ _) _))).mono ?_;rintro e w1 ⟨x,rfl,aa⟩;have q1:=zka (zkb (Below.refl _ _) _) aa;rw[HB.out];clear aa;go_wp2_with fail;go_ret;exact⟨rfl,q1⟩
def zmx (s:ByteArray) (x:T):Bool:=(x.k==2||x.k==3||x.k==4||x.k==5)&&x.s.toList==s.toList
def menB (t:T) (s:ByteArray):Bool:=(po t).any (zmx s)
def MenI (nm:ByteArray) (N:Nat) (r:Bool) (q:Prop) (C:Nat->Prop) (W:World):Prop :=
 (∀ b,C b↔b=N+1\/b=N+1+1)/\W.heap[N+1]?=some (.cells #[.string nm] 9 (0,0))/\W.heap[N+1+1]?=some (.cells #[.bool r] 4 (0,0))/\q
theorem zoI (t:T) (nm:ByteArray) (v:Value) (w:World) (hv:NV w Any t v) (hd:dep t<=1000):Calls Tryz.prog 170 #[v,.string nm] w fun e w'=>e=.returned (.bool (menB t nm))/\Below w.heap.size w w':=by
 have HV:=zh hv;obtain⟨A,c,rfl,-⟩:=hv.open_;clear hv;obtain⟨b,hb⟩:∃ b,menB t nm=b:=⟨_,rfl⟩
 rw[hb];have HB:=zh hb;have HD:=zh hd;clear hb hd;generalize t.k=k,t.n=n,t.s=s,t.ks.length=m at *
 refine(callsIn_wide (n:=3)).1 (callsIn_of_wp_marks Tryz.func170 rfl trivial ((wpIn_wide (n:=3)).2 ?_));simp only[Tryz.ntmps170,List.size_toArray,List.length_cons,List.length_nil,Nat.reduceAdd,Nat.reduceSub,Array.replicate_succ,Array.replicate_zero,List.push_toArray,List.append_toArray,List.nil_append,List.cons_append];go_wp2_with fail;refine(zt4 t _ _ (HV.out.later (zkb (zkb (zkb (Below.refl _ _) _) _) _))).mono ?_;rintro e x6 ⟨gr,k6,n6,s6,A6,m6,c6,rfl,hgr,hgb,kr,mZ⟩;have q6:=zka (zkb (zkb (zkb (Below.refl w.heap.size w) _) _) _) mZ;have wW:=zkd (zkl (heap_alloc_new (w.alloc (.cells #[.int .u8 k,.int .i64 n,.string s,.slice A m c] 29)) (.cells #[.string nm] 9)) (.cells #[.bool false] 4)) mZ;have iG:=zkd (heap_alloc_new ((w.alloc (.cells #[.int .u8 k,.int .i64 n,.string s,.slice A m c] 29)).alloc (.cells #[.string nm] 9)) (.cells #[.bool false] 4)) mZ
 simp only[World.size_alloc] at wW iG hgr;have uq:=zh hgb;have oD:=zh kr;have nG:=zh q6;have eY:=zh iG;have sI:=zh wW;have sO:=zh hgr;clear mZ hgb kr q6 iG wW hgr;go_wp2_with fail;refine(wpIn_wide (n:=3)).1 ?_;refine zqb (n:=3) (gf:=167) (lb := #[.pointer (some ⟨gr,0,none⟩)]) rfl (zkP zvX) (zpU (3-1) gr t x6 _ k6 n6 s6 A6 m6 c6 uq.out oD.out HD.out) rfl
  (fun pre C W=>MenI nm w.heap.size false (pre.any (zmx nm)=false) C W)
  (fun _ C W=>MenI nm w.heap.size true ((po t).any (zmx nm)=true) C W)
  (fun b=>b=w.heap.size+1\/b=w.heap.size+1+1)
  (fun pre C W W' ⟨h1,h2,h3,h4⟩ hc=>⟨h1,hc.keep h2 (fun h=>h ((h1 _).2 (.inl rfl))),hc.keep h3 (fun h=>h ((h1 _).2 (.inr rfl))),h4⟩)
  (fun pre C W W' ⟨h1,h2,h3,h4⟩ hc=>⟨h1,hc.keep h2 (fun h=>h ((h1 _).2 (.inl rfl))),hc.keep h3 (fun h=>h ((h1 _).2 (.inr rfl))),h4⟩)
  (fun pre C W ⟨h1,h2,h3,_⟩ b hb=>by rcases(h1 b).1 hb with rfl|rfl;exact zki h2;exact zki h3)
  (fun pre C W ⟨h1,h2,h3,_⟩ b hb=>by rcases(h1 b).1 hb with rfl|rfl;exact zki h2;exact zki h3)
  (fun b hb hr=>by have:=sO.out;rcases hr with hr|hr<;>rcases hb with hb|hb<;>first|omega|(have:=hr.1;simp at this;omega)) ?_ ⟨fun _=>Iff.rfl,sI.out,eY.out,rfl⟩ ?_ ?_ ?_
 ·rintro b (rfl|hb)
  ·exact zki uq.out
  ·exact hb.2
 ·rintro l pre x C W pv v ⟨hC,hnb,hrb,hno⟩ jQ hl hlW hpre ⟨Ap,mp,cp,rfl⟩ hnx;obtain⟨Ax,cx,rfl,hfx,hlx,hlcx,hrx⟩:=hnx.open_;change Code.wpIn (Fence.wide.inRound l) (3-1-1) Tryz.prog _ _ _ _
  gi_wp2
  refine⟨(Chg.refl _ _).alloc _,fun W2 hW2=>?_⟩;have hwl:=zki hnb;have hwl2:=zki hrb;have hbx:=hW2.keep (heap_alloc_new W (.cells #[.int .u8 x.k,.int .i64 x.n,.string x.s,.slice Ax x.ks.length cx] 29)) (show ¬ W.heap.size=l by omega);have pq:=hW2.keep (zkl hnb (.cells #[.int .u8 x.k,.int .i64 x.n,.string x.s,.slice Ax x.ks.length cx] 29)) (fun h=>jQ ((hC _).2 (.inl h.symm)));have mh:=hW2.keep (zkl hrb (.cells #[.int .u8 x.k,.int .i64 x.n,.string x.s,.slice Ax x.ks.length cx] 29)) (fun h=>jQ ((hC _).2 (.inr h.symm)));have hx0:W2.cell? ⟨W.heap.size,0,none⟩=some (.int .u8 x.k):=zc hbx rfl;have hx2:W2.cell? ⟨W.heap.size,2,none⟩=some (.string x.s):=zc hbx rfl;have hy0:W2.cell? ⟨w.heap.size+1,0,none⟩=some (.string nm):=zc pq rfl;have hz0:W2.cell? ⟨w.heap.size+1+1,0,none⟩=some (.bool false):=zc mh rfl;have rQ:W2.frozen? ⟨w.heap.size+1+1,0,none⟩=false:=zf mh
  have hxm:x∈po t:=by
   obtain⟨ys,hys⟩:=hpre;rw[<-hys];simp
  have HXM:=zh hxm;have bY:=zh hno;have aI:=zh hC;have HNB2:=zh pq;have HRB2:=zh mh;obtain⟨nx,hnx'⟩:∃ z,zmx nm x=z:=⟨_,rfl⟩
  have HNX:=zh hnx';obtain⟨kk,hkk⟩:∃ kk,x.k=kk:=⟨_,rfl⟩
  obtain⟨ss,hss⟩:∃ ss,x.s=ss:=⟨_,rfl⟩
  have qO:=zh (show zmx nm x=((kk==2||kk==3||kk==4||kk==5)&&ss.toList==nm.toList) by rw[<-hkk,<-hss];rfl);rw[hkk] at hx0 ⊢;rw[hss] at hx2 ⊢;clear hW2 hbx hrx hnx hfx hlcx hlx hxm hpre hkk hss hC pq mh hno hnx';change Code.wpIn (Fence.wide.inRound l) (3-1-1) Tryz.prog _ _ _ _;have dW:=zh (show zmx nm x=false->∀ ac,zKN
    (fun pre C W=>MenI nm w.heap.size false (pre.any (zmx nm)=false) C W)
    (fun _ C W=>MenI nm w.heap.size true ((po t).any (zmx nm)=true) C W)
    (pre++[x]) C W2 Exit.normal ac W2 from fun h _=>⟨C,⟨aI.out,HNB2.out,HRB2.out,by rw[List.any_append,bY.out];simp[h]⟩,fun b hb=>.inl hb,Chg.refl _ _⟩)
  cases hq:(ss.toList==nm.toList)
  ·have hnn:zmx nm x=false:=by rw[qO.out,hq];simp
   by_cases k2:kk=2
   ·subst k2;gi_wp2;exact dW.out hnn _
   by_cases k3:kk=3
   ·subst k3;gi_wp2;exact dW.out hnn _
   by_cases k4:kk=4
   ·subst k4;gi_wp2;exact dW.out hnn _
   by_cases k5:kk=5
   ·subst k5;gi_wp2;exact dW.out hnn _
   have x2:(kk==2)=false:=by simpa using k2
   have x3:(kk==3)=false:=by simpa using k3
   have x4:(kk==4)=false:=by simpa using k4
   have x5:(kk==5)=false:=by simpa using k5
   gi_wp2
   exact dW.out hnn _
  ·have HST:=zh (show(kk==2||kk==3||kk==4||kk==5)=true->∃ C',MenI nm w.heap.size true ((po t).any (zmx nm)=true) C' (W2.setCell ⟨w.heap.size+1+1,0,none⟩ (.bool true))/\(∀ b,C' b->C b\/W2.heap.size<=b)/\Chg C W2 (W2.setCell ⟨w.heap.size+1+1,0,none⟩ (.bool true)) from fun h=>by
    refine⟨C,⟨aI.out,?_,?_,?_⟩,fun b hb=>.inl hb,(Chg.refl _ _).setCell (.inl ((aI.out _).2 (.inr rfl))) _⟩
    ·rw[Below.heap_setCell _ _ _ _ (by simp)];exact HNB2.out
    ·have:=heap_setCell_same W2 (w.heap.size+1+1) 0 _ _ (.bool true) HRB2.out;simpa using this
    ·rw[List.any_eq_true];exact⟨x,HXM.out,by rw[qO.out,h,hq];rfl⟩)
   by_cases k2:kk=2
   ·subst k2;gi_wp2;exact HST.out rfl
   by_cases k3:kk=3
   ·subst k3;gi_wp2;exact HST.out rfl
   by_cases k4:kk=4
   ·subst k4;gi_wp2;exact HST.out rfl
   by_cases k5:kk=5
   ·subst k5;gi_wp2;exact HST.out rfl
   have x2:(kk==2)=false:=by simpa using k2
   have x3:(kk==3)=false:=by simpa using k3
   have x4:(kk==4)=false:=by simpa using k4
   have x5:(kk==5)=false:=by simpa using k5
   have hnn:zmx nm x=false:=by rw[qO.out,x2,x3,x4,x5];rfl
   gi_wp2
   exact dW.out hnn _
 ·intro D C W' hD hC hch hK;obtain⟨bC,o9,dY,hno⟩:=hC;have hbf:b=false:=by rw[<-HB.out];exact hno
  subst hbf;have r0:W'.cell? ⟨w.heap.size+1+1,0,none⟩=some (.bool false):=zc dY rfl;have rf:W'.frozen? ⟨w.heap.size+1+1,0,none⟩=false:=zf dY;have sZ:=nG.out.size;have hlR:=zki eY.out;have lK:=zh (show Below w.heap.size w W' from nG.out.trans (hch.below sZ (fun b h=>by omega)));have HK:=zh hK;have jg:=zh dY;clear hch hK dY bC o9 hno;go_wp2_with fail;have hK':(W'.setCell ⟨w.heap.size+1+1,0,none⟩ (.bool false)).heap[D]?=some (.deferred (some [])):=(Below.heap_setCell _ _ _ _ (show D≠w.heap.size+1+1 by omega)).trans HK.out;refine⟨by simp,.inl ⟨_,_,rfl,run_takeDeferred hK',?_⟩⟩;have hr8:=heap_setCell_same W' (w.heap.size+1+1) 0 _ _ (.bool false) jg.out
  have wH:((W'.setCell ⟨w.heap.size+1+1,0,none⟩ (.bool false)).putObj D (.deferred none)).heap[w.heap.size+1+1]?=some (.cells #[.bool false] 4 (0,0)):=(World.putObj_heap_other (show w.heap.size+1+1≠D by omega)).trans (by simpa using hr8);have r1:((W'.setCell ⟨w.heap.size+1+1,0,none⟩ (.bool false)).putObj D (.deferred none)).cell? ⟨w.heap.size+1+1,0,none⟩=some (.bool false):=zc wH rfl;have kL:=lK.out.setCell (p:=⟨w.heap.size+1+1,0,none⟩) (by simp;omega) (.bool false);have bJ:=kL.trans ((Chg.putObj (W'.setCell ⟨w.heap.size+1+1,0,none⟩ (.bool false)) D (.deferred none)).below (B:=w.heap.size) kL.size (fun b hb=>by have:b=D:=hb;omega));exact⟨.bool false,by simp[results,Tryz.results170,go_sem,r1],rfl,bJ⟩
 ·intro D pre C W' hD hC hch hK;obtain⟨bC,o9,dY,hno⟩:=hC;have hbf:b=true:=by rw[<-HB.out];exact hno
  subst hbf;have r0:W'.cell? ⟨w.heap.size+1+1,0,none⟩=some (.bool true):=zc dY rfl;have sZ:=nG.out.size;have hlR:=zki eY.out;have lK:=zh (show Below w.heap.size w W' from nG.out.trans (hch.below sZ (fun b h=>by omega)));have HK:=zh hK;have jg:=zh dY;clear hch hK dY bC o9 hno;refine(wpIn_wide (n:=3)).2 ?_;go_wp2_with fail;refine⟨by simp,.inl ⟨_,_,rfl,run_takeDeferred HK.out,?_⟩⟩;have wH:(W'.putObj D (.deferred none)).heap[w.heap.size+1+1]?=some (.cells #[.bool true] 4 (0,0)):=(World.putObj_heap_other (show w.heap.size+1+1≠D by omega)).trans jg.out;have r1:(W'.putObj D (.deferred none)).cell? ⟨w.heap.size+1+1,0,none⟩=some (.bool true):=zc wH rfl;have bJ:=lK.out.trans ((Chg.putObj W' D (.deferred none)).below (B:=w.heap.size) lK.out.size (fun b hb=>by have:b=D:=hb;omega));exact⟨.bool true,by simp[results,Tryz.results170,go_sem,r1],rfl,bJ⟩
def kidC (t:T) (i:Nat):T:=t.ks.getD i (.nd 0 0 ⟨#[]⟩ [])
theorem zme {t:T} {i:Nat} (h:i<t.ks.length):kidC t i=t.ks[i]:=by simp[kidC,h]
theorem zxU {t:T} {i:Nat} (h:i<t.ks.length):dep (kidC t i)<=dep t:=by
 rw[zme h];have:=zoL (List.getElem_mem h)
 cases t with
 | nd k n s ks=>simp only[dep,T.ks_nd] at *;omega
def idxB (t:T) (s:ByteArray):Bool:=t.k==3&&menB (kidC t 0) s
theorem zpz (t:T) (nm:ByteArray) (v:Value) (w:World) (hv:NV w Any t v) (hd:dep t<=1000) (hk:t.k=3->1<=t.ks.length):Calls Tryz.prog 169 #[v,.string nm] w fun e w'=>e=.returned (.bool (idxB t nm))/\Below w.heap.size w w':=by
 have HV:=zh hv;obtain⟨A,c,rfl,hf,hlk,hlc,hrow⟩:=hv.open_;by_cases h3:t.k=3
 ·have hl:=hk h3;have hm:=zoI (kidC t 0) nm;have hdd:=zxU (t:=t) (i:=0) (by omega);have HM:=zh (fun v w h=>hm v w h (by omega));obtain⟨b,hb⟩:∃ b,menB (kidC t 0) nm=b:=⟨_,rfl⟩
  have hi:idxB t nm=b:=by simp[idxB,h3,hb]
  rw[hb] at HM;obtain⟨a,t1,A1,c1,rfl,_,Ht,⟨q0,q1,q2,q3⟩,hn⟩:=(hrow.later (zkb (Below.refl _ _) (.cells #[.int .u8 t.k,.int .i64 t.n,.string t.s,.slice A t.ks.length c] 29))).nd (i:=0) (by omega);have ht1:kidC t 0=t1:=by rw[zme (by omega),Ht.out]
  rw[ht1] at HM;rw[hi,h3];rw[h3] at q0 q1 q2 q3;have HN:=zh hn;rw[h3] at HN;obtain⟨m,hm'⟩:∃ m,t.ks.length=m:=⟨_,rfl⟩
  rw[hm'] at HN hl q0 q1 q2 q3 ⊢;generalize t.n=n,t.s=s at *
  have hfl:(0:Int)<(m:Int):=by omega
  have fE:0<m:=by omega
  simp only[Nat.zero_mul,Addr.add_zero'] at q0 q1 q2 q3;clear hv hrow hf hlk hlc hm hdd hb hi ht1 hn Ht HV hk hm' hd hl;go_enter Tryz.func169,Tryz.ntmps169;go_wp2_with fail;refine(HM.out _ _ HN.out).mono ?_;rintro e w1 ⟨rfl,aa⟩;have q1:=zka (zkb (Below.refl _ _) _) aa;go_wp2_with fail;go_ret;exact⟨rfl,q1⟩
 ·have hi:idxB t nm=false:=by simp[idxB,h3]
  have x3:(t.k==3)=false:=by simpa using h3
  rw[hi];generalize t.k=k,t.n=n,t.s=s,t.ks.length=m at *
  clear hv HV hrow hf hlk hlc hk hd h3 hi;go_enter Tryz.func169,Tryz.ntmps169;go_wp2_with fail;go_ret;exact⟨rfl,zkb (Below.refl _ _) _⟩
def aliB (ts:List T) (ss:List ByteArray):Bool:=ts.any fun t=>ss.any (idxB t)
def NmE (w:World) (x:Int) (e:Ending) (w':World):Prop:=∃ s,e=.returned (.tuple #[.string s,.int .i64 x])/\Below w.heap.size w w'
theorem zpT (ts:List T) (ss:List ByteArray) (A:Option Addr) (c:Nat) (B:Option Addr) (d:Nat) (w:World) (hrow:zkX w Any A ts) (hss:RowS w B ss) (hl:ts.length<=LK) (hl2:ss.length<=100) (ht:∀ t∈ts,dep t<=1000/\(t.k=3->1<=t.ks.length)) :
  Calls Tryz.prog 171 #[.slice A ts.length c,.slice B ss.length d] w (NmE w (if aliB ts ss=true then 8 else 0)):=by
 have hl':=zkx hl;obtain⟨R,hR⟩:∃ R:Int,(if aliB ts ss=true then 8 else 0)=R:=⟨_,rfl⟩
 rw[hR];have HR:=zh hR;have ae:=zh hrow;have aP:=zh hss;have HT:=zh ht;clear hrow hss hl ht hR;go_enter Tryz.func171,Tryz.ntmps171;go_wp2_with fail
 go_loopw [12] (fun i wr=>∃ j:Nat,j<=ts.length/\i=.int .i64 j/\Below w.heap.size w wr/\Hid (aliB (ts.take j) ss=false)) (fun i _=>ts.length-(intOf i).toNat)
 case atStart=>exact⟨0,Nat.zero_le _,rfl,Below.refl _ _,zh rfl⟩
 case round =>
  obtain⟨j,hj,rfl,hbl,HJ⟩:=hrel;by_cases hlt:j<ts.length
  ·obtain⟨a,t,A1,c1,rfl,_,Ht,⟨q0,q1,q2,q3⟩,hn⟩:=(ae.out.later hbl).nd hlt;have wE:=HT.out ts[j] (List.getElem_mem hlt);rw[Ht.out] at wE;have u6:=zh wE;have HN:=zh hn;have aj:=zh hbl;clear wE hn;go_wp2_with fail
   go_loopw [9,18] (fun _ i wi=>∃ q:Nat,q<=ss.length/\i=.int .i64 q/\Below wr.heap.size wr wi/\wi.heap[wr.heap.size]?=some (.cells #[.int .u8 t.k,.int .i64 t.n,.string t.s,.slice A1 t.ks.length c1] 29 (0,0))/\Hid ((ss.take q).any (idxB t)=false)) (fun _ i _=>ss.length-(intOf i).toNat)
   case atStart=>exact⟨0,Nat.zero_le _,rfl,zkb (Below.refl _ _) _,heap_alloc_new wr _,zh rfl⟩
   case round =>
    obtain⟨q,hq,rfl,hbi,hbx,HQ⟩:=hrel;have xV:=zh hbi;have aO:=zh hbx;obtain⟨m0,m1,m2,m3⟩:=box4 hbx;by_cases hlq:q<ss.length
    ·obtain⟨a2,s2,rfl,Hs2,y0⟩:=(aP.out.later (zka hbl hbi)).nd hlq;obtain⟨b,hb⟩:∃ b,idxB t s2=b:=⟨_,rfl⟩
     have HB:=zh hb;clear hb q0 q1 q2 q3 hbx hbi hbl;go_wp2_with fail;refine(zpz t s2 _ _ (HN.out.later xV.out) u6.out.1 u6.out.2).mono ?_;rintro e w3 ⟨rfl,az⟩;rw[HB.out];have HB3:=zh (zka xV.out az);have jS:=zh (zkd aO.out az);clear az m0 m1 m2 m3 y0
     cases b
     ·have qH:Hid ((ss.take (q+1)).any (idxB t)=false):=zh (by rw[List.take_succ_eq_append_getElem hlq,List.any_append,HQ.out,Hs2.out];simp[HB.out]);go_wp2_with fail
      go_roundw
      case rel=>exact⟨q+1,by omega,by go_num,HB3.out,jS.out,qH⟩
      case measure=>simp[intOf];omega
     ·have hRR:R=8:=by
       rw[<-HR.out,if_pos];unfold aliB;rw[List.any_eq_true];refine⟨ts[j],List.getElem_mem hlt,?_⟩;rw[Ht.out,List.any_eq_true];exact⟨ss[q],List.getElem_mem hlq,by rw[Hs2.out];exact HB.out⟩
      have HRR:=zh hRR;clear hRR;go_wp2_with fail;go_ret2;exact⟨s2,by rw[HRR.out];rfl,zka aj.out HB3.out⟩
    ·obtain rfl:q=ss.length:=by omega
     have HJ2:Hid (aliB (ts.take (j+1)) ss=false):=zh (by
      have h1:=HQ.out;rw[List.take_of_length_le (Nat.le_refl _)] at h1;have h2:=HJ.out;unfold aliB at *
      rw[List.take_succ_eq_append_getElem hlt,List.any_append,h2,Ht.out];simp[h1])
     clear q0 q1 q2 q3 hbx hbi hbl m0 m1 m2 m3;go_wp2_with fail
     go_roundw
     case rel=>exact⟨j+1,by omega,by go_num,zka aj.out xV.out,HJ2⟩
     case measure=>simp[intOf];omega
  ·obtain rfl:j=ts.length:=by omega
   have hRR:R=0:=by
    rw[<-HR.out,if_neg];have:=HJ.out;rw[List.take_of_length_le (Nat.le_refl _)] at this;simp[this]
   have HRR:=zh hRR;have aj:=zh hbl;clear hRR hbl;go_wp2_with fail;go_ret2;exact⟨_,by rw[HRR.out];rfl,aj.out⟩
theorem zsA (k n:Int) (rs:ByteArray) (u3:Value) (s:ByteArray) (nb:Nat) (w:World) (hc:w.cell? ⟨nb,2,none⟩=some (.string s)) :
  Calls Tryz.prog 173 #[.agg #[.int .u8 k,.int .i64 n,.string rs,u3],.pointer (some ⟨nb,0,none⟩)] w fun e w'=>e=.returned (.bool (rs.toList==s.toList))/\Below w.heap.size w w':=by
 have hc':=zke hc;go_enter Tryz.func173,Tryz.ntmps173;go_wp2_with fail;go_ret;exact⟨rfl,(Below.refl _ _).alloc (Nat.le_refl _) _⟩
def hasN (ks:List T) (s:ByteArray):Bool:=ks.any fun t=>t.s.toList==s.toList
theorem zp2 (ks:List T) (A:Option Addr) (c:Nat) (s:ByteArray) (nb:Nat) (w:World) (hrow:zkX w Any A ks) (hl:ks.length<=LK) (hc:w.cell? ⟨nb,2,none⟩=some (.string s)) :
  Calls Tryz.prog 201 #[.slice A ks.length c,.func (.func 173) #[] #[.pointer (some ⟨nb,0,none⟩)]] w fun e w'=>∃ x:Int,e=.returned (.int .i64 x)/\decide (0<=x)=hasN ks s/\Below w.heap.size w w':=by
 have hl':=zkx hl;have ae:=zh hrow;have HC:=zh hc;obtain⟨R,hR⟩:∃ R,hasN ks s=R:=⟨_,rfl⟩
 rw[hR];have HR:=zh hR;clear hrow hl hc hR;go_enter Tryz.func201,Tryz.ntmps201;go_wp2_with fail
 go_loopw [8] (fun i wr=>∃ j:Nat,j<=ks.length/\i=.int .i64 j/\Below w.heap.size w wr/\Hid (hasN (ks.take j) s=false)) (fun i _=>ks.length-(intOf i).toNat)
 case atStart=>exact⟨0,Nat.zero_le _,rfl,Below.refl _ _,zh rfl⟩
 case round =>
  obtain⟨j,hj,rfl,hbl,HJ⟩:=hrel;by_cases hlt:j<ks.length
  ·obtain⟨a,t,A1,c1,rfl,_,Ht,⟨q0,q1,q2,q3⟩,-⟩:=(ae.out.later hbl).nd hlt;obtain⟨b,hb⟩:∃ b,(t.s.toList==s.toList)=b:=⟨_,rfl⟩
   have HB:=zh hb;clear hb;go_wp2_with fail;refine(zsA t.k t.n t.s _ s nb _ (zb hbl HC.out)).mono ?_;rintro e w1 ⟨rfl,aa⟩;rw[HB.out];have aj:=zh (zka hbl aa);clear aa q0 q1 q2 q3
   cases b
   ·have HJ2:Hid (hasN (ks.take (j+1)) s=false):=zh (by
     have:=HJ.out;unfold hasN at *
     rw[List.take_succ_eq_append_getElem hlt,List.any_append,this,Ht.out];simp[HB.out])
    go_wp2_with fail
    go_roundw
    case rel=>exact⟨j+1,by omega,by go_num,aj.out,HJ2⟩
    case measure=>simp[intOf];omega
   ·have HN:=zh (show R=true by
     rw[<-HR.out];unfold hasN;rw[List.any_eq_true];exact⟨ks[j],List.getElem_mem hlt,by rw[Ht.out];exact HB.out⟩)
    go_wp2_with fail;go_ret;exact⟨j,rfl,by rw[HN.out];simp,aj.out⟩
  ·have HN:=zh (show R=false by
    rw[<-HR.out];have:=HJ.out;rwa[List.take_of_length_le (by omega)] at this)
   have aj:=zh hbl;clear hbl;go_wp2_with fail;go_ret;exact⟨-1,rfl,by rw[HN.out];rfl,aj.out⟩
theorem zon (ks:List T) (A:Option Addr) (c:Nat) (s:ByteArray) (nb:Nat) (w:World) (hrow:zkX w Any A ks) (hl:ks.length<=LK) (hc:w.cell? ⟨nb,2,none⟩=some (.string s)) :
  Calls Tryz.prog 172 #[.slice A ks.length c,.func (.func 173) #[] #[.pointer (some ⟨nb,0,none⟩)]] w fun e w'=>e=.returned (.bool (hasN ks s))/\Below w.heap.size w w':=by
 have ae:=zh hrow;have HC:=zh hc;have HL:=zh hl;obtain⟨R,hR⟩:∃ R,hasN ks s=R:=⟨_,rfl⟩
 rw[hR];have HR:=zh hR;obtain⟨L,hL⟩:∃ L,ks.length=L:=⟨_,rfl⟩
 rw[hL];have gV:=zh hL;clear hrow hl hc hR hL;go_enter Tryz.func172,Tryz.ntmps172;go_wp2_with fail;refine(gV.out▸zp2 ks A c s nb _ ae.out HL.out HC.out).mono ?_;rintro e w1 ⟨x,rfl,hx,aa⟩;rw[HR.out] at hx;go_wp2_with fail;go_ret;exact⟨by rw[<-hx];rfl,aa⟩
def dupB (ks:List T):Bool:=(List.range ks.length).any fun i=>hasN (ks.take i) (ks.getD i (.nd 0 0 ⟨#[]⟩ [])).s
theorem ztS {ks:List T} {j:Nat} (hj:j<ks.length) (h:hasN (ks.take j) ks[j].s=true):dupB ks=true:=by
 unfold dupB;rw[List.any_eq_true];exact⟨j,by simpa using hj,by simpa[hj] using h⟩
theorem zwk {ks:List T} (h:∀ j (hj:j<ks.length),hasN (ks.take j) ks[j].s=false):dupB ks=false:=by
 unfold dupB;rw[List.any_eq_false];intro j hj;have hj':j<ks.length:=by simpa using hj
 simpa[hj'] using h j hj'
structure zwP (t:T):Prop where
 d:dep t<=1000
 two:t.k=40\/t.k=41\/t.k=42\/t.k=43\/t.k=56->2<=t.ks.length
 one:44<=t.k/\t.k<=49->1<=t.ks.length
 four:t.k=52\/t.k=53->4<=t.ks.length
 pl:40<=t.k/\t.k<=49->∀ x∈t.ks,x.k=3->1<=x.ks.length
def rejE (t:T):Int :=
 if t.k=56 then 9
 else if t.k=40\/t.k=41\/t.k=42 then if idxB (kidC t 0) (kidC t 0).s||menB (kidC t 1) (kidC t 0).s then 8 else 0
 else if t.k=43 then if aliB t.ks [(kidC t 0).s,(kidC t 1).s] then 8 else 0
 else if t.k=44\/t.k=45 then if aliB t.ks [(kidC t 0).s,t.s] then 8 else 0
 else if 46<=t.k/\t.k<=49 then if aliB t.ks [(kidC t 0).s] then 8 else 0
 else if t.k=50\/t.k=51 then if dupB t.ks then 8 else 0
 else if t.k=52 then if conB (kidC t 3) && !conB (kidC t 0) then 10 else 0
 else if t.k=53 then if conB (kidC t 0) then 10 else 0
 else 0
theorem row0 {w:World} {ks:List T} {A:Option Addr} (h:zkX w Any A ks) (hl:0<ks.length):∃ (a:Addr) (t:T) (A':Option Addr) (c':Nat),A=some a/\Hid (ks[0]=t)/\Nd4 w a t A' c'/\NV w Any t (nv t.k t.n t.s A' t.ks.length c'):=by
 obtain⟨a,t,A',c',rfl,_,Ht,h4,hn⟩:=h.nd hl;simp only[Nat.zero_mul,Addr.add_zero'] at h4;exact⟨a,t,A',c',rfl,Ht,h4,hn⟩
theorem rowI {w:World} {ks:List T} {a:Addr} (h:zkX w Any (some a) ks) (i:Nat) (hl:i+1<ks.length):∃ (t:T) (A':Option Addr) (c':Nat),Hid (ks[i+1]=t)/\Nd4 w ⟨a.block,a.off+(i+1)*4,none⟩ t A' c'/\NV w Any t (nv t.k t.n t.s A' t.ks.length c'):=by
 obtain⟨a',t,A',c',e,_,Ht,h4,hn⟩:=h.nd hl;injection e with e;subst e;have ha:a.add ((i+1)*4)=⟨a.block,a.off+(i+1)*4,none⟩:=by unfold Addr.add;split<;>simp_all
 rw[ha] at h4;exact⟨t,A',c',Ht,h4,hn⟩
theorem zul (n:Int) (s:ByteArray) (ks:List T) (A:Option Addr) (c:Nat) (w:World) (hrow:zkX w Any A ks) (hl:2<=ks.length):Calls Tryz.prog 142 #[nv 56 n s A ks.length c] w (NmE w 9):=by
 obtain⟨a,t0,A1,c1,rfl,fF,h4,-⟩:=row0 (hrow.later (zkb (Below.refl _ _) (.cells #[.int .u8 56,.int .i64 n,.string s,.slice A ks.length c] 29))) (by omega);obtain⟨q0,q1,q2,q3⟩:=h4;clear fF;obtain⟨L,hL⟩:∃ L,ks.length=L:=⟨_,rfl⟩
 rw[hL] at q0 q1 q2 q3 hl ⊢;have hfl:(0:Int)<(L:Int):=by omega
 have fE:0<L:=by omega
 clear hrow hL hl;go_enter Tryz.func142,Tryz.ntmps142;go_wp2_with fail;go_ret2;exact⟨_,rfl,zkb (Below.refl _ _) _⟩
theorem zuk (k n:Int) (s:ByteArray) (ks:List T) (A:Option Addr) (c:Nat) (w:World) (hk:k=40\/k=41\/k=42) (hrow:zkX w Any A ks) (hl:2<=ks.length) (hd:∀ t∈ks,dep t<=1000) (hp:∀ t∈ks,t.k=3->1<=t.ks.length) :
  Calls Tryz.prog 142 #[nv k n s A ks.length c] w (NmE w (if idxB ks[0] ks[0].s||menB ks[1] ks[0].s then 8 else 0)):=by
 have hrow':=hrow.later (zkb (Below.refl _ _) (.cells #[.int .u8 k,.int .i64 n,.string s,.slice A ks.length c] 29));obtain⟨a,t0,A1,c1,rfl,fF,h4,hn0⟩:=row0 hrow' (by omega);obtain⟨t1,A2,c2,kW,h5,hn1⟩:=rowI hrow' 0 (by omega);simp only[Nat.zero_add,Nat.one_mul] at kW h5;have d0:=hd ks[0] (List.getElem_mem _);have d1:=hd ks[1] (List.getElem_mem _);have p0:=hp ks[0] (List.getElem_mem _);rw[fF.out] at d0 p0 ⊢;rw[kW.out] at d1 ⊢;obtain⟨R,hR⟩:∃ R:Int,(if (idxB t0 t0.s||menB t1 t0.s)=true then 8 else 0)=R:=⟨_,rfl⟩
 rw[hR];obtain⟨b0,hb0⟩:∃ b,idxB t0 t0.s=b:=⟨_,rfl⟩
 obtain⟨b1,hb1⟩:∃ b,menB t1 t0.s=b:=⟨_,rfl⟩
 have HI:=zh (show ∀ v w,NV w Any t0 v->Calls Tryz.prog 169 #[v,.string t0.s] w fun e w'=>e=.returned (.bool b0)/\Below w.heap.size w w' from fun v w h=>hb0▸zpz t0 t0.s v w h d0 p0);have HM:=zh (show ∀ v w,NV w Any t1 v->Calls Tryz.prog 170 #[v,.string t0.s] w fun e w'=>e=.returned (.bool b1)/\Below w.heap.size w w' from fun v w h=>hb1▸zoI t1 t0.s v w h d1);rw[hb0,hb1] at hR;have HR:=zh hR;obtain⟨L,hL⟩:∃ L,ks.length=L:=⟨_,rfl⟩
 have hfl:(0:Int)<(L:Int):=by omega
 have fE:0<L:=by omega
 have pO:(1:Int)<(L:Int):=by omega
 have pM:1<L:=by omega
 have hbx:=box4 (heap_alloc_new w (.cells #[.int .u8 k,.int .i64 n,.string s,.slice (some a) ks.length c] 29));clear fF kW hrow hrow' hR hb0 hb1 d0 d1 p0 hd hp;rw[hL] at h4 h5 hn0 hn1 hl hbx ⊢;obtain⟨W0,hW0⟩:∃ W0,w.alloc (.cells #[.int .u8 k,.int .i64 n,.string s,.slice (some a) L c] 29)=W0:=⟨_,rfl⟩
 have q0:Below w.heap.size w W0:=hW0▸zkb (Below.refl _ _) _;rw[hW0] at h4 h5 hn0 hn1 hbx;have eH:=zh hn0;have eG:=zh hn1;have di:=zh (show ∀ w',Below W0.heap.size W0 w'->(Nd4 w' a t0 A1 c1/\Nd4 w' ⟨a.block,a.off+4,none⟩ t1 A2 c2)/\w'.cell? ⟨w.heap.size,0,none⟩=some (.int .u8 k)/\w'.cell? ⟨w.heap.size,3,none⟩=some (.slice (some a) L c) from fun w' h=>⟨⟨zl3 h h4,zl3 h h5⟩,zb h hbx.1,zb h hbx.2.2.2⟩);clear hn0 hn1 h4 h5 hbx hL hl;obtain⟨⟨⟨a0,a1,a2,a3⟩,⟨b0',b1',b2,b3⟩⟩,x0,x3⟩:=di.out _ (Below.refl _ _);rcases hk with rfl|rfl|rfl
 all_goals
  go_enter Tryz.func142,Tryz.ntmps142;go_wp2_with fail;refine(HI.out _ _ eH.out).mono ?_;rintro e w1 ⟨rfl,aa⟩;obtain⟨⟨⟨a0,a1,a2,a3⟩,⟨b0',b1',b2,b3⟩⟩,x0,x3⟩:=di.out _ aa;have q1:=zka q0 aa;have aF:=zh (eG.out.later aa);clear aa
  cases b0
  ·go_wp2_with fail;refine(HM.out _ _ aF.out).mono ?_;rintro e w2 ⟨rfl,ag⟩;have q2:=zka q1 ag;clear ag
   cases b1
   ·go_wp2_with fail;go_ret2;exact⟨_,by rw[<-HR.out];rfl,q2⟩
   ·go_wp2_with fail;go_ret2;exact⟨_,by rw[<-HR.out];rfl,q2⟩
  ·go_wp2_with fail;go_ret2;exact⟨_,by rw[<-HR.out];rfl,q1⟩
theorem zyx (s:ByteArray) (w:World):(Instr.buildSlice 232 1 #[(0,.string s)]).run Tryz.prog w=.ok (.slice (some ⟨w.heap.size,0,none⟩) 1 1) (w.alloc (.cells #[.string s] 9)):=by kernel_rfl
theorem zt2 (s s':ByteArray) (w:World):(Instr.buildSlice 232 2 #[(0,.string s),(1,.string s')]).run Tryz.prog w=.ok (.slice (some ⟨w.heap.size,0,none⟩) 2 2) (w.alloc (.cells #[.string s,.string s'] 9)):=by kernel_rfl
theorem zoT (w:World) (E:TypeId) (ss:List ByteArray):RowS (w.alloc (.cells (ss.map Value.string).toArray E)) (some ⟨w.heap.size,0,none⟩) ss:=fun i hi=>by
 refine⟨_,rfl,?_⟩;have:=zk3 w E (ss.map Value.string) i (.string ss[i]) (by simp[hi]);exact this
theorem zvj (k n:Int) (s:ByteArray) (ks:List T) (A:Option Addr) (c:Nat) (w:World) (hk:k=46\/k=47\/k=48\/k=49) (hrow:zkX w Any A ks) (hl:1<=ks.length) (hlk:ks.length<=LK) (hd:∀ t∈ks,dep t<=1000) (hp:∀ t∈ks,t.k=3->1<=t.ks.length) :
  Calls Tryz.prog 142 #[nv k n s A ks.length c] w (NmE w (if aliB ks [ks[0].s] then 8 else 0)):=by
 have hrow':=hrow.later (zkb (Below.refl _ _) (.cells #[.int .u8 k,.int .i64 n,.string s,.slice A ks.length c] 29));obtain⟨a,t0,A1,c1,rfl,fF,h4,hn0⟩:=row0 hrow' (by omega);rw[fF.out];obtain⟨R,hR⟩:∃ R:Int,(if aliB ks [t0.s]=true then 8 else 0)=R:=⟨_,rfl⟩
 rw[hR];obtain⟨L,hL⟩:∃ L,ks.length=L:=⟨_,rfl⟩
 have jX:=zh (show ∀ (B:Option Addr) (d:Nat) (w:World),zkX w Any (some a) ks->RowS w B [t0.s]->Calls Tryz.prog 171 #[.slice (some a) L c,.slice B 1 d] w (NmE w R) from fun B d w h h'=>hL▸hR▸zpT ks [t0.s] (some a) c B d w h h' hlk (by simp) (fun t ht=>⟨hd t ht,hp t ht⟩));have hfl:(0:Int)<(L:Int):=by omega
 have fE:0<L:=by omega
 have hbx:=box4 (heap_alloc_new w (.cells #[.int .u8 k,.int .i64 n,.string s,.slice (some a) ks.length c] 29));have ae:=zh hrow';clear fF hrow hrow' hR hd hp;rw[hL] at h4 hl hbx ae ⊢;obtain⟨W0,hW0⟩:∃ W0,w.alloc (.cells #[.int .u8 k,.int .i64 n,.string s,.slice (some a) L c] 29)=W0:=⟨_,rfl⟩
 have q0:Below w.heap.size w W0:=hW0▸zkb (Below.refl _ _) _;rw[hW0] at h4 hbx ae;obtain⟨x0,x1,x2,x3⟩:=hbx;obtain⟨a0,a1,a2,a3⟩:=h4;have hb1:=zyx;clear hn0 hL hl;have HS:=zh (show ∀ w',Below W0.heap.size W0 w'->w'.cell? ⟨w.heap.size,3,none⟩=some (.slice (some a) L c)/\w'.cell? ⟨a.block,a.off+2,none⟩=some (.string t0.s) from fun w' h=>⟨zb h x3,zb h a2⟩);have aM:=zh (HS.out _ (Below.refl _ _).drew);have aD:=zh (HS.out _ (zkb (Below.refl _ _) (.cells #[.string t0.s] 9)).drew);have qD:=zh (show RowS (W0.alloc (.cells #[.string t0.s] 9)).drew (some ⟨W0.heap.size,0,none⟩) [t0.s] from zoT W0 9 [t0.s]);have HRW:=zh (ae.out.later (zkb (Below.refl _ _) (.cells #[.string t0.s] 9)).drew);clear x3 a0 a1 a2 a3 x1 x2;rcases hk with rfl|rfl|rfl|rfl
 all_goals
  go_enter Tryz.func142,Tryz.ntmps142;go_upto_region 20 with fail
  go_region_held3 (fun w':World=>w'.cell? ⟨w.heap.size,3,none⟩=some (.slice (some a) L c)/\w'.cell? ⟨a.block,a.off+2,none⟩=some (.string t0.s))
   (first|with_reducible exact bg.out|with_reducible exact aD.out|with_reducible exact aM.out)
   (first
    | (go_at_call 171;refine(jX.out _ _ _ HRW.out qD.out).mono ?_;rintro e y1 ⟨s1,rfl,bq⟩;have b1:=zka (zkb (Below.refl W0.heap.size W0) (.cells #[.string t0.s] 9)).drew bq;have bg:=zh (HS.out _ b1))
    | fail)
  have HB1:=zh (zka q0 b1);clear bq b1 bg;go_wp2_with fail;go_ret2;exact⟨s1,rfl,HB1.out⟩
theorem zvk (k n:Int) (s:ByteArray) (ks:List T) (A:Option Addr) (c:Nat) (w:World) (hk:k=44\/k=45) (hrow:zkX w Any A ks) (hl:1<=ks.length) (hlk:ks.length<=LK) (hd:∀ t∈ks,dep t<=1000) (hp:∀ t∈ks,t.k=3->1<=t.ks.length) :
  Calls Tryz.prog 142 #[nv k n s A ks.length c] w (NmE w (if aliB ks [ks[0].s,s] then 8 else 0)):=by
 have hrow':=hrow.later (zkb (Below.refl _ _) (.cells #[.int .u8 k,.int .i64 n,.string s,.slice A ks.length c] 29));obtain⟨a,t0,A1,c1,rfl,fF,h4,hn0⟩:=row0 hrow' (by omega);rw[fF.out];obtain⟨R,hR⟩:∃ R:Int,(if aliB ks [t0.s,s]=true then 8 else 0)=R:=⟨_,rfl⟩
 rw[hR];obtain⟨L,hL⟩:∃ L,ks.length=L:=⟨_,rfl⟩
 have jX:=zh (show ∀ (B:Option Addr) (d:Nat) (w:World),zkX w Any (some a) ks->RowS w B [t0.s,s]->Calls Tryz.prog 171 #[.slice (some a) L c,.slice B 2 d] w (NmE w R) from fun B d w h h'=>hL▸hR▸zpT ks [t0.s,s] (some a) c B d w h h' hlk (by simp) (fun t ht=>⟨hd t ht,hp t ht⟩));have hfl:(0:Int)<(L:Int):=by omega
 have fE:0<L:=by omega
 have hbx:=box4 (heap_alloc_new w (.cells #[.int .u8 k,.int .i64 n,.string s,.slice (some a) ks.length c] 29));have ae:=zh hrow';clear fF hrow hrow' hR hd hp;rw[hL] at h4 hl hbx ae ⊢;obtain⟨W0,hW0⟩:∃ W0,w.alloc (.cells #[.int .u8 k,.int .i64 n,.string s,.slice (some a) L c] 29)=W0:=⟨_,rfl⟩
 have q0:Below w.heap.size w W0:=hW0▸zkb (Below.refl _ _) _;rw[hW0] at h4 hbx ae;obtain⟨x0,x1,x2,x3⟩:=hbx;obtain⟨a0,a1,a2,a3⟩:=h4;have hb1:=zt2;clear hn0 hL hl;have HS:=zh (show ∀ w',Below W0.heap.size W0 w'->w'.cell? ⟨w.heap.size,2,none⟩=some (.string s)/\w'.cell? ⟨w.heap.size,3,none⟩=some (.slice (some a) L c)/\w'.cell? ⟨a.block,a.off+2,none⟩=some (.string t0.s) from fun w' h=>⟨zb h x2,zb h x3,zb h a2⟩);have aM:=zh (HS.out _ (Below.refl _ _).drew);have aD:=zh (HS.out _ (zkb (Below.refl _ _) (.cells #[.string t0.s,.string s] 9)).drew);have qD:=zh (show RowS (W0.alloc (.cells #[.string t0.s,.string s] 9)).drew (some ⟨W0.heap.size,0,none⟩) [t0.s,s] from zoT W0 9 [t0.s,s]);have HRW:=zh (ae.out.later (zkb (Below.refl _ _) (.cells #[.string t0.s,.string s] 9)).drew);clear x3 a0 a1 a2 a3 x1 x2;rcases hk with rfl|rfl
 all_goals
  go_enter Tryz.func142,Tryz.ntmps142;go_upto_region 15 with fail
  go_region_held3 (fun w':World=>w'.cell? ⟨w.heap.size,2,none⟩=some (.string s)/\w'.cell? ⟨w.heap.size,3,none⟩=some (.slice (some a) L c)/\w'.cell? ⟨a.block,a.off+2,none⟩=some (.string t0.s))
   (first|with_reducible exact bg.out|with_reducible exact aD.out|with_reducible exact aM.out)
   (first
    | (go_at_call 171;refine(jX.out _ _ _ HRW.out qD.out).mono ?_;rintro e y1 ⟨s1,rfl,bq⟩;have b1:=zka (zkb (Below.refl W0.heap.size W0) (.cells #[.string t0.s,.string s] 9)).drew bq;have bg:=zh (HS.out _ b1))
    | fail)
  have HB1:=zh (zka q0 b1);clear bq b1 bg;go_wp2_with fail;go_ret2;exact⟨s1,rfl,HB1.out⟩
theorem zsw (n:Int) (s:ByteArray) (ks:List T) (A:Option Addr) (c:Nat) (w:World) (hrow:zkX w Any A ks) (hl:2<=ks.length) (hlk:ks.length<=LK) (hd:∀ t∈ks,dep t<=1000) (hp:∀ t∈ks,t.k=3->1<=t.ks.length) :
  Calls Tryz.prog 142 #[nv 43 n s A ks.length c] w (NmE w (if aliB ks [ks[0].s,ks[1].s] then 8 else 0)):=by
 have hrow':=hrow.later (zkb (Below.refl _ _) (.cells #[.int .u8 43,.int .i64 n,.string s,.slice A ks.length c] 29));obtain⟨a,t0,A1,c1,rfl,fF,h4,hn0⟩:=row0 hrow' (by omega);obtain⟨t1,A2,c2,kW,h5,hn1⟩:=rowI hrow' 0 (by omega);simp only[Nat.zero_add,Nat.one_mul] at kW h5;rw[fF.out,kW.out];obtain⟨R,hR⟩:∃ R:Int,(if aliB ks [t0.s,t1.s]=true then 8 else 0)=R:=⟨_,rfl⟩
 rw[hR];obtain⟨L,hL⟩:∃ L,ks.length=L:=⟨_,rfl⟩
 have jX:=zh (show ∀ (B:Option Addr) (d:Nat) (w:World),zkX w Any (some a) ks->RowS w B [t0.s,t1.s]->Calls Tryz.prog 171 #[.slice (some a) L c,.slice B 2 d] w (NmE w R) from fun B d w h h'=>hL▸hR▸zpT ks [t0.s,t1.s] (some a) c B d w h h' hlk (by simp) (fun t ht=>⟨hd t ht,hp t ht⟩));have hfl:(0:Int)<(L:Int):=by omega
 have fE:0<L:=by omega
 have pO:(1:Int)<(L:Int):=by omega
 have pM:1<L:=by omega
 have hbx:=box4 (heap_alloc_new w (.cells #[.int .u8 43,.int .i64 n,.string s,.slice (some a) ks.length c] 29));have ae:=zh hrow';clear fF kW hrow hrow' hR hd hp;rw[hL] at h4 h5 hl hbx ae ⊢;obtain⟨W0,hW0⟩:∃ W0,w.alloc (.cells #[.int .u8 43,.int .i64 n,.string s,.slice (some a) L c] 29)=W0:=⟨_,rfl⟩
 have q0:Below w.heap.size w W0:=hW0▸zkb (Below.refl _ _) _;rw[hW0] at h4 h5 hbx ae;obtain⟨x0,x1,x2,x3⟩:=hbx;obtain⟨a0,a1,a2,a3⟩:=h4;obtain⟨b0,b1,b2,b3⟩:=h5;have hb1:=zt2;clear hn0 hn1 hL hl;go_enter Tryz.func142,Tryz.ntmps142;go_upto_region 11 with fail;have HS:=zh (show ∀ w',Below W0.heap.size W0 w'->w'.cell? ⟨w.heap.size,3,none⟩=some (.slice (some a) L c)/\Nd4 w' a t0 A1 c1/\Nd4 w' ⟨a.block,a.off+4,none⟩ t1 A2 c2 from fun w' h=>⟨zb h x3,zl3 h ⟨a0,a1,a2,a3⟩,zl3 h ⟨b0,b1,b2,b3⟩⟩);clear x3 a0 a1 a2 a3 b0 b1 b2 b3 x1 x2
 go_region_held3 (fun w':World=>w'.cell? ⟨w.heap.size,3,none⟩=some (.slice (some a) L c)/\(w'.cell? a=some (.int .u8 t0.k)/\w'.cell? ⟨a.block,a.off+1,none⟩=some (.int .i64 t0.n)/\w'.cell? ⟨a.block,a.off+2,none⟩=some (.string t0.s)/\w'.cell? ⟨a.block,a.off+3,none⟩=some (.slice A1 t0.ks.length c1))/\(w'.cell? ⟨a.block,a.off+4,none⟩=some (.int .u8 t1.k)/\w'.cell? ⟨a.block,a.off+4+1,none⟩=some (.int .i64 t1.n)/\w'.cell? ⟨a.block,a.off+4+2,none⟩=some (.string t1.s)/\w'.cell? ⟨a.block,a.off+4+3,none⟩=some (.slice A2 t1.ks.length c2)))
   (exact HS.out _ (by first|exact(Below.refl _ _).drew|exact(zkb (Below.refl _ _) _).drew|exact(zkb (zkb (Below.refl _ _) _) _).drew|fail))
   (first|fail)
 ·have hrs:=zoT ((W0.alloc (.cells #[.int .u8 t0.k,.int .i64 t0.n,.string t0.s,.slice A1 t0.ks.length c1] 29)).alloc (.cells #[.int .u8 t1.k,.int .i64 t1.n,.string t1.s,.slice A2 t1.ks.length c2] 29)) 9 [t0.s,t1.s];simp only[World.size_alloc] at hrs;have qD:=zh hrs;clear hrs;go_wp2_with fail;refine(jX.out _ _ _ (ae.out.later (zkb (zkb (zkb (Below.refl _ _) _) _) _).drew) qD.out).mono ?_;rintro e y1 ⟨s1,rfl,bq⟩;have HB1:=zh (zka q0 (zka (zkb (zkb (zkb (Below.refl W0.heap.size W0) _) _) _).drew bq));clear bq;go_wp2_with fail;go_ret2;exact⟨s1,rfl,HB1.out⟩
 ·have hrs:=zoT ((W0.alloc (.cells #[.int .u8 t1.k,.int .i64 t1.n,.string t1.s,.slice A2 t1.ks.length c2] 29)).alloc (.cells #[.int .u8 t0.k,.int .i64 t0.n,.string t0.s,.slice A1 t0.ks.length c1] 29)) 9 [t0.s,t1.s];simp only[World.size_alloc] at hrs;have qD:=zh hrs;clear hrs;go_wp2_with fail;refine(jX.out _ _ _ (ae.out.later (zkb (zkb (zkb (Below.refl _ _) _) _) _).drew) qD.out).mono ?_;rintro e y1 ⟨s1,rfl,bq⟩;have HB1:=zh (zka q0 (zka (zkb (zkb (zkb (Below.refl W0.heap.size W0) _) _) _).drew bq));clear bq;go_wp2_with fail;go_ret2;exact⟨s1,rfl,HB1.out⟩
theorem zsx (k n:Int) (s:ByteArray) (A:Option Addr) (l c:Nat) (w:World) (hk:k<40\/54<=k) (hk2:k≠56):Calls Tryz.prog 142 #[nv k n s A l c] w (NmE w 0):=by
 have z56:(k==56)=false:=by simp;omega
 have z40:(k==40)=false:=by simp;omega
 have z41:(k==41)=false:=by simp;omega
 have z42:(k==42)=false:=by simp;omega
 have z43:(k==43)=false:=by simp;omega
 have z44:(k==44)=false:=by simp;omega
 have z45:(k==45)=false:=by simp;omega
 have z46:(k==46)=false:=by simp;omega
 have z47:(k==47)=false:=by simp;omega
 have z48:(k==48)=false:=by simp;omega
 have z49:(k==49)=false:=by simp;omega
 have z50:(k==50)=false:=by simp;omega
 have z51:(k==51)=false:=by simp;omega
 have z52:(k==52)=false:=by simp;omega
 have z53:(k==53)=false:=by simp;omega
 clear hk hk2;go_enter Tryz.func142,Tryz.ntmps142;go_wp2_with fail;go_ret2;exact⟨_,rfl,zkb (Below.refl _ _) _⟩
theorem zvl (n:Int) (s:ByteArray) (ks:List T) (A:Option Addr) (c:Nat) (w:World) (hrow:zkX w Any A ks) (hl:4<=ks.length) :
  Calls Tryz.prog 142 #[nv 52 n s A ks.length c] w (NmE w (if conB ks[3] && !conB ks[0] then 10 else 0)):=by
 have hrow':=hrow.later (zkb (Below.refl _ _) (.cells #[.int .u8 52,.int .i64 n,.string s,.slice A ks.length c] 29));obtain⟨a,t0,A1,c1,rfl,fF,h4,hn0⟩:=row0 hrow' (by omega);obtain⟨t1,A2,c2,kW,h5,hn1⟩:=rowI hrow' 2 (by omega);simp only[Nat.reduceAdd,Nat.reduceMul] at kW h5;rw[fF.out,kW.out];obtain⟨R,hR⟩:∃ R:Int,(if (conB t1 && !conB t0)=true then 10 else 0)=R:=⟨_,rfl⟩
 rw[hR];obtain⟨b0,hb0⟩:∃ b,conB t0=b:=⟨_,rfl⟩
 obtain⟨b1,hb1⟩:∃ b,conB t1=b:=⟨_,rfl⟩
 have H0:=zh (show ∀ v w,NV w Any t0 v->Calls Tryz.prog 174 #[v] w fun e w'=>e=.returned (.bool b0)/\Below w.heap.size w w' from fun v w h=>hb0▸zne t0 v w h);have H1:=zh (show ∀ v w,NV w Any t1 v->Calls Tryz.prog 174 #[v] w fun e w'=>e=.returned (.bool b1)/\Below w.heap.size w w' from fun v w h=>hb1▸zne t1 v w h);rw[hb0,hb1] at hR;have HR:=zh hR;obtain⟨L,hL⟩:∃ L,ks.length=L:=⟨_,rfl⟩
 have hfl:(0:Int)<(L:Int):=by omega
 have fE:0<L:=by omega
 have pO:(3:Int)<(L:Int):=by omega
 have pM:3<L:=by omega
 have hbx:=box4 (heap_alloc_new w (.cells #[.int .u8 52,.int .i64 n,.string s,.slice (some a) ks.length c] 29));clear fF kW hrow hrow' hR hb0 hb1;rw[hL] at h4 h5 hn0 hn1 hl hbx ⊢;obtain⟨W0,hW0⟩:∃ W0,w.alloc (.cells #[.int .u8 52,.int .i64 n,.string s,.slice (some a) L c] 29)=W0:=⟨_,rfl⟩
 have q0:Below w.heap.size w W0:=hW0▸zkb (Below.refl _ _) _;rw[hW0] at h4 h5 hn0 hn1 hbx;have eH:=zh hn0;have eG:=zh hn1;have di:=zh (show ∀ w',Below W0.heap.size W0 w'->(Nd4 w' a t0 A1 c1/\Nd4 w' ⟨a.block,a.off+12,none⟩ t1 A2 c2)/\w'.cell? ⟨w.heap.size,0,none⟩=some (.int .u8 52)/\w'.cell? ⟨w.heap.size,3,none⟩=some (.slice (some a) L c) from fun w' h=>⟨⟨zl3 h h4,zl3 h h5⟩,zb h hbx.1,zb h hbx.2.2.2⟩);clear hn0 hn1 h4 h5 hbx hL hl;obtain⟨⟨⟨a0,a1,a2,a3⟩,⟨b0',b1',b2,b3⟩⟩,x0,x3⟩:=di.out _ (Below.refl _ _);go_enter Tryz.func142,Tryz.ntmps142;go_wp2_with fail;refine(H1.out _ _ eG.out).mono ?_;rintro e w1 ⟨rfl,aa⟩;obtain⟨⟨⟨a0,a1,a2,a3⟩,⟨b0',b1',b2,b3⟩⟩,x0,x3⟩:=di.out _ aa;have q1:=zka q0 aa;have aF:=zh (eH.out.later aa);clear aa
 cases b1
 ·go_wp2_with fail;go_ret2;exact⟨_,by rw[<-HR.out];rfl,q1⟩
 ·go_wp2_with fail;refine(H0.out _ _ aF.out).mono ?_;rintro e w2 ⟨rfl,ag⟩;have q2:=zka q1 ag;clear ag
  cases b0
  ·go_wp2_with fail;go_ret2;exact⟨_,by rw[<-HR.out];rfl,q2⟩
  ·go_wp2_with fail;go_ret2;exact⟨_,by rw[<-HR.out];rfl,q2⟩
theorem zsy (n:Int) (s:ByteArray) (ks:List T) (A:Option Addr) (c:Nat) (w:World) (hrow:zkX w Any A ks) (hl:4<=ks.length) :
  Calls Tryz.prog 142 #[nv 53 n s A ks.length c] w (NmE w (if conB ks[0] then 10 else 0)):=by
 have hrow':=hrow.later (zkb (Below.refl _ _) (.cells #[.int .u8 53,.int .i64 n,.string s,.slice A ks.length c] 29));obtain⟨a,t0,A1,c1,rfl,fF,h4,hn0⟩:=row0 hrow' (by omega);rw[fF.out];obtain⟨R,hR⟩:∃ R:Int,(if conB t0=true then 10 else 0)=R:=⟨_,rfl⟩
 rw[hR];obtain⟨b0,hb0⟩:∃ b,conB t0=b:=⟨_,rfl⟩
 have H0:=zh (show ∀ v w,NV w Any t0 v->Calls Tryz.prog 174 #[v] w fun e w'=>e=.returned (.bool b0)/\Below w.heap.size w w' from fun v w h=>hb0▸zne t0 v w h);rw[hb0] at hR;have HR:=zh hR;obtain⟨L,hL⟩:∃ L,ks.length=L:=⟨_,rfl⟩
 have hfl:(0:Int)<(L:Int):=by omega
 have fE:0<L:=by omega
 have hbx:=box4 (heap_alloc_new w (.cells #[.int .u8 53,.int .i64 n,.string s,.slice (some a) ks.length c] 29));clear fF hrow hrow' hR hb0;rw[hL] at h4 hn0 hl hbx ⊢;obtain⟨W0,hW0⟩:∃ W0,w.alloc (.cells #[.int .u8 53,.int .i64 n,.string s,.slice (some a) L c] 29)=W0:=⟨_,rfl⟩
 have q0:Below w.heap.size w W0:=hW0▸zkb (Below.refl _ _) _;rw[hW0] at h4 hn0 hbx;have eH:=zh hn0;obtain⟨a0,a1,a2,a3⟩:=h4;obtain⟨x0,x1,x2,x3⟩:=hbx;clear hn0 hL hl;go_enter Tryz.func142,Tryz.ntmps142;go_wp2_with fail;refine(H0.out _ _ eH.out).mono ?_;rintro e w1 ⟨rfl,aa⟩;have q1:=zka q0 aa;clear aa a0 a1 a2 a3 x0 x1 x2 x3
 cases b0
 ·go_wp2_with fail;go_ret2;exact⟨_,by rw[<-HR.out];rfl,q1⟩
 ·go_wp2_with fail;go_ret2;exact⟨_,by rw[<-HR.out];rfl,q1⟩
theorem zsz (k n:Int) (s:ByteArray) (ks:List T) (A:Option Addr) (c:Nat) (w:World) (hk:k=50\/k=51) (hrow:zkX w Any A ks) (hlk:ks.length<=LK) (hlc:ks.length<=c) :
  Calls Tryz.prog 142 #[nv k n s A ks.length c] w (NmE w (if dupB ks then 8 else 0)):=by
 have hl':=zkx hlk;obtain⟨R,hR⟩:∃ R:Int,(if dupB ks=true then 8 else 0)=R:=⟨_,rfl⟩
 rw[hR];have HR:=zh hR;have ae:=zh hrow;have vG:=zh hlk;clear hR hrow hlk;rcases hk with rfl|rfl
 ·go_enter Tryz.func142,Tryz.ntmps142;go_wp2_with fail
  go_loopw [100] (fun i wr=>∃ j:Nat,j<=ks.length/\i=.int .i64 j/\Below w.heap.size w wr/\wr.heap[w.heap.size]?=some (.cells #[.int .u8 50,.int .i64 n,.string s,.slice A ks.length c] 29 (0,0))/\Hid (∀ q (hq:q<ks.length),q<j->hasN (ks.take q) ks[q].s=false)) (fun i _=>ks.length-(intOf i).toNat)
  case atStart=>exact⟨0,Nat.zero_le _,rfl,zkb (Below.refl _ _) _,heap_alloc_new w _,zh fun q _ h=>by omega⟩
  case round =>
   obtain⟨j,hj,rfl,hbl,hbx,HJ⟩:=hrel;have aO:=zh hbx;have aj:=zh hbl;by_cases hlt:j<ks.length
   ·obtain⟨a,t,A1,c1,rfl,_,Ht,⟨q0,q1,q2,q3⟩,-⟩:=(ae.out.later hbl).nd hlt;obtain⟨m0,m1,m2,m3⟩:=box4 hbx;have vW:=fun o=>zke m3 o;obtain⟨b,hb⟩:∃ b,hasN (ks.take j) t.s=b:=⟨_,rfl⟩
    have htl:(ks.take j).length=j:=by simp;omega
    have uw:=zh (show ∀ (c:Nat) (nb:Nat) (w:World),zkX w Any (some a) (ks.take j)->w.cell? ⟨nb,2,none⟩=some (.string t.s)->Calls Tryz.prog 172 #[.slice (some a) j c,.func (.func 173) #[] #[.pointer (some ⟨nb,0,none⟩)]] w fun e w'=>e=.returned (.bool b)/\Below w.heap.size w w' from fun c nb w h h'=>by
     have:=zon (ks.take j) (some a) c t.s nb w h (by have:=vG.out;omega) h';rwa[htl,hb] at this)
    have HB:=zh hb;have xz:=zh (show zkX (wr.alloc (.cells #[.int .u8 t.k,.int .i64 t.n,.string t.s,.slice A1 t.ks.length c1] 29)) Any (some a) (ks.take j) from fun i hi=>by
     have hi':i<ks.length:=by simp at hi;omega
     have:=(ae.out.later (zkb hbl (.cells #[.int .u8 t.k,.int .i64 t.n,.string t.s,.slice A1 t.ks.length c1] 29))) i hi';simpa using this)
    have hjc:j<=c:=by omega
    have hjc':(j:Int)<=(c:Int):=by omega
    clear hb htl hbx hbl;go_wp2_with fail;refine(uw.out _ _ _ xz.out (by simp)).mono ?_;rintro e w1 ⟨rfl,aa⟩;have HB1:=zh (zka (zkb aj.out _) aa);have ny:=zh (zkd (zkl aO.out _) aa);have hy2:w1.cell? ⟨wr.heap.size,2,none⟩=some (.string t.s):=zb aa (by simp);clear aa q0 q1 q2 q3 m0 m1 m2 m3 vW
    cases b
    ·have HJ2:Hid (∀ q (hq:q<ks.length),q<j+1->hasN (ks.take q) ks[q].s=false):=zh fun q hq hqj=>by
      by_cases e:q<j
      ·exact HJ.out q hq e
      ·obtain rfl:q=j:=by omega
       rw[Ht.out];exact HB.out
     go_wp2_with fail
     go_roundw
     case rel=>exact⟨j+1,by omega,by go_num,HB1.out,ny.out,HJ2⟩
     case measure=>simp[intOf];omega
    ·have hRR:R=8:=by rw[<-HR.out,if_pos (ztS hlt (by rw[Ht.out];exact HB.out))]
     have HRR:=zh hRR;clear hRR;go_wp2_with fail;go_ret2;exact⟨_,by rw[HRR.out];rfl,HB1.out⟩
   ·have hRR:R=0:=by rw[<-HR.out,zwk fun q hq=>HJ.out q hq (by omega)];rfl
    have HRR:=zh hRR;clear hRR hbl hbx;go_wp2_with fail;go_ret2;exact⟨_,by rw[HRR.out];rfl,aj.out⟩
 ·go_enter Tryz.func142,Tryz.ntmps142;go_wp2_with fail
  go_loopw [100] (fun i wr=>∃ j:Nat,j<=ks.length/\i=.int .i64 j/\Below w.heap.size w wr/\wr.heap[w.heap.size]?=some (.cells #[.int .u8 51,.int .i64 n,.string s,.slice A ks.length c] 29 (0,0))/\Hid (∀ q (hq:q<ks.length),q<j->hasN (ks.take q) ks[q].s=false)) (fun i _=>ks.length-(intOf i).toNat)
  case atStart=>exact⟨0,Nat.zero_le _,rfl,zkb (Below.refl _ _) _,heap_alloc_new w _,zh fun q _ h=>by omega⟩
  case round =>
   obtain⟨j,hj,rfl,hbl,hbx,HJ⟩:=hrel;have aO:=zh hbx;have aj:=zh hbl;by_cases hlt:j<ks.length
   ·obtain⟨a,t,A1,c1,rfl,_,Ht,⟨q0,q1,q2,q3⟩,-⟩:=(ae.out.later hbl).nd hlt;obtain⟨m0,m1,m2,m3⟩:=box4 hbx;have vW:=fun o=>zke m3 o;obtain⟨b,hb⟩:∃ b,hasN (ks.take j) t.s=b:=⟨_,rfl⟩
    have htl:(ks.take j).length=j:=by simp;omega
    have uw:=zh (show ∀ (c:Nat) (nb:Nat) (w:World),zkX w Any (some a) (ks.take j)->w.cell? ⟨nb,2,none⟩=some (.string t.s)->Calls Tryz.prog 172 #[.slice (some a) j c,.func (.func 173) #[] #[.pointer (some ⟨nb,0,none⟩)]] w fun e w'=>e=.returned (.bool b)/\Below w.heap.size w w' from fun c nb w h h'=>by
     have:=zon (ks.take j) (some a) c t.s nb w h (by have:=vG.out;omega) h';rwa[htl,hb] at this)
    have HB:=zh hb;have xz:=zh (show zkX (wr.alloc (.cells #[.int .u8 t.k,.int .i64 t.n,.string t.s,.slice A1 t.ks.length c1] 29)) Any (some a) (ks.take j) from fun i hi=>by
     have hi':i<ks.length:=by simp at hi;omega
     have:=(ae.out.later (zkb hbl (.cells #[.int .u8 t.k,.int .i64 t.n,.string t.s,.slice A1 t.ks.length c1] 29))) i hi';simpa using this)
    have hjc:j<=c:=by omega
    have hjc':(j:Int)<=(c:Int):=by omega
    clear hb htl hbx hbl;go_wp2_with fail;refine(uw.out _ _ _ xz.out (by simp)).mono ?_;rintro e w1 ⟨rfl,aa⟩;have HB1:=zh (zka (zkb aj.out _) aa);have ny:=zh (zkd (zkl aO.out _) aa);have hy2:w1.cell? ⟨wr.heap.size,2,none⟩=some (.string t.s):=zb aa (by simp);clear aa q0 q1 q2 q3 m0 m1 m2 m3 vW
    cases b
    ·have HJ2:Hid (∀ q (hq:q<ks.length),q<j+1->hasN (ks.take q) ks[q].s=false):=zh fun q hq hqj=>by
      by_cases e:q<j
      ·exact HJ.out q hq e
      ·obtain rfl:q=j:=by omega
       rw[Ht.out];exact HB.out
     go_wp2_with fail
     go_roundw
     case rel=>exact⟨j+1,by omega,by go_num,HB1.out,ny.out,HJ2⟩
     case measure=>simp[intOf];omega
    ·have hRR:R=8:=by rw[<-HR.out,if_pos (ztS hlt (by rw[Ht.out];exact HB.out))]
     have HRR:=zh hRR;clear hRR;go_wp2_with fail;go_ret2;exact⟨_,by rw[HRR.out];rfl,HB1.out⟩
   ·have hRR:R=0:=by rw[<-HR.out,zwk fun q hq=>HJ.out q hq (by omega)];rfl
    have HRR:=zh hRR;clear hRR hbl hbx;go_wp2_with fail;go_ret2;exact⟨_,by rw[HRR.out];rfl,aj.out⟩
theorem zl4 (k n:Int) (s:ByteArray) (ks:List T):rejE (.nd k n s ks)=(if k=56 then 9
 else if k=40\/k=41\/k=42 then if idxB (kidC (.nd k n s ks) 0) (kidC (.nd k n s ks) 0).s||menB (kidC (.nd k n s ks) 1) (kidC (.nd k n s ks) 0).s then 8 else 0
 else if k=43 then if aliB ks [(kidC (.nd k n s ks) 0).s,(kidC (.nd k n s ks) 1).s] then 8 else 0
 else if k=44\/k=45 then if aliB ks [(kidC (.nd k n s ks) 0).s,s] then 8 else 0
 else if 46<=k/\k<=49 then if aliB ks [(kidC (.nd k n s ks) 0).s] then 8 else 0
 else if k=50\/k=51 then if dupB ks then 8 else 0
 else if k=52 then if conB (kidC (.nd k n s ks) 3) && !conB (kidC (.nd k n s ks) 0) then 10 else 0
 else if k=53 then if conB (kidC (.nd k n s ks) 0) then 10 else 0
 else 0):=rfl
theorem zum (t:T) (v:Value) (w:World) (hv:NV w Any t v) (h:zwP t):Calls Tryz.prog 142 #[v] w (NmE w (rejE t)):=by
 obtain⟨A,c,rfl,hf,hlk,hlc,hrow⟩:=hv.open_;have hd:∀ x∈t.ks,dep x<=1000:=fun x hx=>by
  have h1:=zoL hx;have h2:=h.d
  cases t with
  | nd k n s ks=>simp only[dep,T.ks_nd] at *;omega
 obtain⟨hdd,h2,h1,h4,hp⟩:=h;obtain⟨k,n,s,ks⟩:=t;simp only[T.k_nd,T.n_nd,T.s_nd,T.ks_nd] at *
 rw[zl4];by_cases e1:k=56
 ·subst e1;rw[if_pos rfl];exact zul n s ks A c w hrow (h2 (by omega))
 rw[if_neg e1];by_cases e2:k=40\/k=41\/k=42
 ·rw[if_pos e2];have hl:=h2 (by omega);rw[zme (t:=.nd k n s ks) (i:=0) (by simp;omega),zme (t:=.nd k n s ks) (i:=1) (by simp;omega)];exact zuk k n s ks A c w e2 hrow hl hd (hp (by omega))
 rw[if_neg e2];by_cases e3:k=43
 ·subst e3;rw[if_pos rfl];have hl:=h2 (by omega);rw[zme (t:=.nd 43 n s ks) (i:=0) (by simp;omega),zme (t:=.nd 43 n s ks) (i:=1) (by simp;omega)];exact zsw n s ks A c w hrow hl hlk hd (hp (by omega))
 rw[if_neg e3];by_cases e4:k=44\/k=45
 ·rw[if_pos e4];have hl:=h1 (by omega);rw[zme (t:=.nd k n s ks) (i:=0) (by simp;omega)];exact zvk k n s ks A c w e4 hrow hl hlk hd (hp (by omega))
 rw[if_neg e4];by_cases e5:46<=k/\k<=49
 ·rw[if_pos e5];have hl:=h1 (by omega);rw[zme (t:=.nd k n s ks) (i:=0) (by simp;omega)];exact zvj k n s ks A c w (by omega) hrow hl hlk hd (hp (by omega))
 rw[if_neg e5];by_cases e6:k=50\/k=51
 ·rw[if_pos e6];exact zsz k n s ks A c w e6 hrow hlk hlc
 rw[if_neg e6];by_cases e7:k=52
 ·subst e7;rw[if_pos rfl];have hl:=h4 (by omega);rw[zme (t:=.nd 52 n s ks) (i:=0) (by simp;omega),zme (t:=.nd 52 n s ks) (i:=3) (by simp;omega)];exact zvl n s ks A c w hrow hl
 rw[if_neg e7];by_cases e8:k=53
 ·subst e8;rw[if_pos rfl];have hl:=h4 (by omega);rw[zme (t:=.nd 53 n s ks) (i:=0) (by simp;omega)];exact zsy n s ks A c w hrow hl
 rw[if_neg e8];exact zsx k n s A ks.length c w (by omega) e1
def zuI (t:T):Prop:=isE t=true\/isS t=true\/isB t=true
theorem zvN {t:T} (h:isP t=true):t.k=3->1<=t.ks.length:=by
 intro h3;have hE:=zvP h;obtain⟨k,n,s,ks⟩:=t;simp only[T.k_nd,T.ks_nd] at *
 subst h3;rw[isE] at hE;simp at hE;omega
theorem zrJ {k n:Int} {s:ByteArray} {ks:List T} (h:isS (.nd k n s ks)=true) :
  (k=40\/k=41\/k=42\/k=43\/k=56->2<=ks.length)/\(44<=k/\k<=49->1<=ks.length)/\(k=52\/k=53->4<=ks.length)/\40<=k/\k<=56:=by
 rw[isS] at h
 repeat' split at h
 all_goals first
  | cases h
  | (simp only[zkN,Bool.and_eq_true,decide_eq_true_eq] at h;omega)
theorem zqd {k n:Int} {s:ByteArray} {ks:List T} (h:zuI (.nd k n s ks)):∀ t∈ks,zuI t:=by
 intro t ht;rcases h with h|h|h
 ·exact .inl (zoX h t ht)
 ·rcases(zoK h).2 t ht with h|h
  ·exact .inl h
  ·exact .inr (.inr h)
 ·exact .inr (.inl (((zmt _ _ _ _).1 h).2.2 t ht))
theorem zxK (t:T):zuI t->∀ x∈po t,zuI x/\dep x<=dep t:=by
 induction t using T.ind with
 | _ k n s ks ih =>
  intro h x hx;rw[po,List.mem_cons] at hx;rcases hx with rfl|hx
  ·exact⟨h,Nat.le_refl _⟩
  ·obtain⟨t,ht,hx⟩:=zk8.1 hx;obtain⟨h1,h2⟩:=ih t ht (zqd h t ht) x hx;have:=zoL ht;exact⟨h1,by simp only[dep];omega⟩
theorem zxX {t:T} (h:isE t=true):t.k=3->1<=t.ks.length:=fun h3=>zvN (t:=t) (by simp[isP,h3,h]) h3
theorem zxC {t:T} (h:zuI t) (hd:dep t<=1000):zwP t:=by
 obtain⟨k,n,s,ks⟩:=t;have hpl:∀ x∈ks,40<=k/\k<=49->x.k=3->1<=x.ks.length:=fun x hx hk h3=>by
  rcases zqd h x hx with h'|h'|h'
  ·exact zxX h' h3
  ·obtain⟨k',n',s',ks'⟩:=x;have:=(zrJ h').2.2.2;simp only[T.k_nd] at h3;omega
  ·have:=zuu h';omega
 rcases h with h'|h'|h'
 ·have:=zrL h';exact⟨hd,fun h=>by simp at h;omega,fun h=>by simp at h;omega,fun h=>by simp at h;omega,fun h x hx=>hpl x hx h⟩
 ·have:=zrJ h';exact⟨hd,this.1,this.2.1,this.2.2.1,fun h x hx=>hpl x hx h⟩
 ·have:=zuu h';simp only[T.k_nd] at this;exact⟨hd,fun h=>by simp at h;omega,fun h=>by simp at h;omega,fun h=>by simp at h;omega,fun h x hx=>hpl x hx h⟩
theorem zxB {t:T} (h:zuI t) (hd:dep t<=1000):∀ x∈po t,zwP x:=fun x hx =>
 have ⟨h1,h2⟩:=zxK t h x hx
 zxC h1 (by omega)
attribute [local go_sem] Oper.semAt_some
theorem zmT {F:Fence} {n:Nat} {P:Program} (w:World) {ops:Array Oper} {rest:List Oper} {o:Oper} {a:Act} {Q:Exit->Act->World->Prop}
  (hg:o.guard=none) (s x:Operand) (t:TypeId) (hop:o.op=Op.call { callee:=Callee.builtin Builtin.append,args := #[s,x],argTypes := #[t,t] })
  (base:Nat) (e:TypeId) (i:TypeInfo) (z:Value) (size bytes:Nat) (h1:P.underlying t=some (.slice e)) (h2:P.info? e=some i) (h3:i.zero=some z) (h4:i.size=size) (h5:i.bytes=bytes) (h6:z.cells.size=size) (h7:0<size)
  (v:Value) (k:Nat) (xs:List Value) (hs:a.eval s=v) (hown:w.ownsRow base e size v k xs) (ad:Addr) (m c:Nat) (news:List Value) (hx:a.eval x=.slice (some ad) m c) (hn:news.length=m*size)
  (hc:∀ j u,news[j]?=some u->w.cell? (ad.add j)=some u) (h1c:∀ u∈news,u.oneCell'=true) (b1:k+m<=maxLen) (b2:(k+m)*bytes<=140737488355328) (b3:base<=w.heap.size)
  (hK:∀ v' w',w'.ownsRow base e size v' (k+m) (xs++news)->w.grownBy w' v.ownBlock->(v'.ownBlock=v.ownBlock\/v'.ownBlock=some w.heap.size)->wpListIn F n P ops Q rest (a.put o.dst v') w') :
  wpListIn F n P ops Q (o::rest) a w:=by
 refine wpListIn_plain hg fun K hK'=>?_;obtain⟨v',w',hrun,r1,r2,_,r4⟩:=run_append_own_at (P:=P) w base t o.type e i z size bytes h1 h2 h3 h4 h5 h6 h7 v k xs hown ad m c news hn hc h1c b1 b2 b3;unfold Oper.wpIn;refine⟨?_,?_⟩
 ·simp[Oper.about,hop,resolve,Target.leads,Sem.run_pure]
 ·rw[Oper.semAt_plain F _ _ (by rw[hop];intro c hc';cases hc')];simp[execOp,hop,resolve,invoke,builtin,hs,hx,hrun,Result.andThen];exact hK' _ _ (hK v' w' r1 r2 r4)
theorem zvm:(Tryz.prog.info? 204).map (fun i=>(i.zero,i.size,i.bytes))=some (some (.agg #[.int .i64 0,.slice none 0 0,.int .i64 0,.string ⟨#[]⟩]),4,56):=by kernel_rfl
theorem zKn (p:Int) (A:Option Addr) (l c:Nat) (e:Int) (s:ByteArray) (w:World):(Instr.build 204 #[(0,.int .i64 p),(1,.slice A l c),(2,.int .i64 e),(3,.string s)]).run Tryz.prog w=.ok (.agg #[.int .i64 p,.slice A l c,.int .i64 e,.string s]) w:=by kernel_rfl
theorem zyy (a0 a1 a2 a3:Value) (w:World):(Instr.buildSlice 108 1 #[(0,.agg #[a0,a1,a2,a3])]).run Tryz.prog w=.ok (.slice (some ⟨w.heap.size,0,none⟩) 1 1) (w.alloc (.cells #[a0,a1,a2,a3] 204)):=by kernel_rfl
def rejN (l:List T):Nat:=(l.filter fun x=>rejE x != 0).length
structure RjS (W:World) (n0 fb N:Nat) (pv:Value):Prop where
 box:W.heap[fb]?=some (.cells #[pv] 108 (0,0))
 row:∃ xs,W.ownsRow n0 204 4 pv N xs/\∀ u∈xs,u.oneCell'=true
 ge:n0<=fb
 ne:pv.ownBlock≠some fb
section
variable {W W':World} {n0 fb N N':Nat} {pv pv':Value}
theorem RjS.lt (h:RjS W n0 fb N pv):fb<W.heap.size/\∀ b,pv.ownBlock=some b->n0<=b/\b<W.heap.size:=⟨zki h.box,let ⟨_,hr,_⟩:=h.row;hr.lt⟩
theorem RjS.chg {C:Nat->Prop} (h:RjS W n0 fb N pv) (hc:Chg C W W') (hC:∀ b,b=fb\/pv.ownBlock=some b->¬ C b):RjS W' n0 fb N pv:=by
 refine⟨hc.keep h.box (hC _ (.inl rfl)),?_,h.ge,h.ne⟩;obtain⟨xs,⟨e1,h2⟩,h9⟩:=h.row;refine⟨xs,⟨e1,?_⟩,h9⟩;rcases h2 with h2|⟨g,cap,cur,rfl,hb,hg,h3⟩
 ·exact .inl h2
 ·exact .inr ⟨g,cap,cur,rfl,hb,hc.keep hg (hC _ (.inr rfl)),h3⟩
theorem RjS.later (h:RjS W n0 fb N pv) (hb:Below W.heap.size W W'):RjS W' n0 fb N pv:=h.chg (C:=fun _=>False) (Chg.of_below hb) (fun _ _ h=>h)
theorem RjS.put (h:RjS W n0 fb N pv) (ho:∃ xs,W'.ownsRow n0 204 4 pv' N' xs/\∀ u∈xs,u.oneCell'=true) (hg:W.grownBy W' pv.ownBlock) (aR:∀ b,pv'.ownBlock=some b->pv.ownBlock=some b\/W.heap.size<=b) :
  RjS (W'.setCell ⟨fb,0,none⟩ pv') n0 fb N' pv':=by
 have hp':W'.heap[fb]?=some (.cells #[pv] 108 (0,0)):=(hg.block _ (zki h.box) (fun e=>h.ne e.symm)).trans h.box;have jy:pv'.ownBlock≠some fb:=fun e=>by
  rcases aR _ e with e|e
  ·exact h.ne e
  ·have:=zki h.box;omega
 refine⟨by have:=heap_setCell_same W' fb 0 _ _ pv' hp';simpa using this,?_,h.ge,jy⟩;obtain⟨xs,⟨e1,h2⟩,h9⟩:=ho;refine⟨xs,⟨e1,?_⟩,h9⟩;rcases h2 with h2|⟨g,cap,cur,rfl,hb,hg',h3⟩
 ·exact .inl h2
 ·refine .inr ⟨g,cap,cur,rfl,hb,?_,h3⟩;rw[Below.heap_setCell _ _ _ _ (fun e=>jy (by subst e;rfl))];exact hg'
theorem RjS.slice (h:RjS W n0 fb N pv):∃ A c,pv=.slice A N c:=by
 obtain⟨xs,⟨e1,h2⟩,_⟩:=h.row;rcases h2 with⟨rfl,rfl⟩|⟨g,cap,cur,rfl,_⟩
 ·exact⟨_,_,rfl⟩
 ·exact⟨_,_,rfl⟩
end
theorem zrw (l:List T) (x:T):rejN (l++[x])=rejN l+one1 (rejE x):=by
 unfold rejN one1;rw[List.filter_append,List.length_append];by_cases h:rejE x=0
 ·simp[h]
 ·simp[h]
theorem zqO (l:List T):rejN l<=l.length:=List.length_filter_le _ _
def ChkI (p:Int) (N:Nat) (pre:List T) (C:Nat->Prop) (W:World):Prop :=
 ∃ pv,(∀ b,C b↔b=N\/b=N+1+1\/pv.ownBlock=some b)/\W.heap[N]?=some (.cells #[.int .i64 p] 3 (0,0))/\RjS W (N+1+1) (N+1+1) (rejN pre) pv
theorem zqD (t:T) (p:Int) (v:Value) (w:World) (hv:NV w Any t v) (hd:dep t<=1000) (hsz:(po t).length<=100000) (hok:∀ x∈po t,zwP x):Calls Tryz.prog 98 #[.int .i64 p,v] w fun e w'=>∃ pv xs,e=.returned pv/\w'.ownsRow w.heap.size 204 4 pv (rejN (po t)) xs/\(∀ u∈xs,u.oneCell'=true)/\Below w.heap.size w w':=by
 have HV:=zh hv;obtain⟨A,c,rfl,-⟩:=hv.open_;clear hv;have HD:=zh hd;have ll:=zh hok;have HSZ:=zh hsz;clear hok hd hsz;generalize t.k=k,t.n=n,t.s=s,t.ks.length=m at *
 refine(callsIn_wide (n:=3)).1 (callsIn_of_wp_marks Tryz.func98 rfl trivial ((wpIn_wide (n:=3)).2 ?_));simp only[Tryz.ntmps98,List.size_toArray,List.length_cons,List.length_nil,Nat.reduceAdd,Nat.reduceSub,Array.replicate_succ,Array.replicate_zero,List.push_toArray,List.append_toArray,List.nil_append,List.cons_append];go_wp2_with fail;refine(zt4 t _ _ (HV.out.later (zkb (zkb (zkb (Below.refl _ _) _) _) _))).mono ?_;rintro e x6 ⟨gr,k6,n6,s6,A6,m6,c6,rfl,hgr,hgb,kr,mZ⟩;have q6:=zka (zkb (zkb (zkb (Below.refl w.heap.size w) _) _) _) mZ;have ja:=zkd (zkl (zkl (heap_alloc_new w (.cells #[.int .i64 p] 3)) (.cells #[.int .u8 k,.int .i64 n,.string s,.slice A m c] 29)) (.cells #[.slice none 0 0] 108)) mZ
 have wX:=zkd (heap_alloc_new ((w.alloc (.cells #[.int .i64 p] 3)).alloc (.cells #[.int .u8 k,.int .i64 n,.string s,.slice A m c] 29)) (.cells #[.slice none 0 0] 108)) mZ;simp only[World.size_alloc] at ja wX hgr;have uq:=zh hgb;have oD:=zh kr;have nG:=zh q6;have qJ:=zh ja;have HLB:=zh wX;have sO:=zh hgr;clear mZ hgb kr q6 ja wX hgr;go_wp2_with fail;refine(wpIn_wide (n:=3)).1 ?_;refine zqb (n:=3) (gf:=167) (lb := #[.pointer (some ⟨gr,0,none⟩)]) rfl (zkP zvX) (zpU (3-1) gr t x6 _ k6 n6 s6 A6 m6 c6 uq.out oD.out HD.out) rfl
  (ChkI p w.heap.size) (fun _ _ _=>False) (fun b=>b=w.heap.size\/b=w.heap.size+1+1)
  (fun pre C W W' ⟨pv,h1,h2,h3⟩ hc=>⟨pv,h1,hc.keep h2 (fun h=>h ((h1 _).2 (.inl rfl))),h3.chg hc (fun b hb h=>h ((h1 _).2 (.inr hb)))⟩)
  (fun _ _ _ _ h _=>h)
  (fun pre C W ⟨pv,h1,h2,h3⟩ b hb=>by rcases(h1 b).1 hb with rfl|rfl|h;exact zki h2;exact h3.lt.1;exact(h3.lt.2 b h).2)
  (fun _ _ _ h=>h.elim)
  (fun b hb hr=>by have:=sO.out;rcases hr with hr|hr<;>rcases hb with hb|hb<;>first|omega|(have:=hr.1;simp at this;omega)) ?_
  ⟨.slice none 0 0,fun b=>by simp[Value.ownBlock],qJ.out,⟨HLB.out,⟨[],World.ownsRow_nil _ _ _ _,by simp⟩,Nat.le_refl _,by simp[Value.ownBlock]⟩⟩ ?_ ?_ ?_
 ·rintro b (rfl|hb)
  ·exact zki uq.out
  ·exact hb.2
 ·rintro l pre x C W pv' v ⟨pv,hC,hpb,hrs⟩ jQ hl hlW hpre ⟨Ap,mp,cp,rfl⟩ hnx;have hxm:x∈po t:=by
   obtain⟨ys,hys⟩:=hpre;rw[<-hys];simp
  have HRJ:=zh (ll.out x hxm);have xG:=zh (show rejN pre<=100000 from by
   have h1:=zqO pre;have h2:=HSZ.out;have h3:=hpre.length_le;simp at h3;omega)
  have HNX:=zh hnx;obtain⟨Ax,cx,rfl,-⟩:=hnx.open_;change Code.wpIn (Fence.wide.inRound l) (3-1-1) Tryz.prog _ _ _ _
  gi_wp2
  refine⟨(Chg.refl _ _).alloc _,fun W2 hW2=>?_⟩;have hwl:=zki hpb;have hbx:=hW2.keep (heap_alloc_new W (.cells #[.int .u8 x.k,.int .i64 x.n,.string x.s,.slice Ax x.ks.length cx] 29)) (show ¬ W.heap.size=l by omega);have hpb2:=hW2.keep (zkl hpb (.cells #[.int .u8 x.k,.int .i64 x.n,.string x.s,.slice Ax x.ks.length cx] 29)) (fun h=>jQ ((hC _).2 (.inl h.symm)));have hrs2:=(hrs.later (zkb (Below.refl _ _) (.cells #[.int .u8 x.k,.int .i64 x.n,.string x.s,.slice Ax x.ks.length cx] 29))).chg hW2 (fun b hb h=>jQ ((hC _).2 (.inr (by rcases hb with rfl|hb;exact .inl h.symm;exact .inr (h▸hb)))));have hnx2:NV W2 Any x (nv x.k x.n x.s Ax x.ks.length cx):=HNX.out.keep (fun _ _ _=>trivial) fun b hb hlt=>by
   rw[hW2.block b (by simp;omega) (show ¬ b=l by omega)];exact Below.heap_alloc W _ b hlt
  obtain⟨m0,m1,m2,m3⟩:=box4 hbx;have aI:=zh hC;have HPB2:=zh hpb2;have HRS2:=zh hrs2;have HNX2:=zh hnx2;have vE:=zh hlW;clear hW2 hbx hpre hC hpb2 hrs hrs2 hnx hnx2 hxm hpb;change Code.wpIn (Fence.wide.inRound l) (3-1-1) Tryz.prog _ _ _ _;obtain⟨er,her⟩:∃ er,rejE x=er:=⟨_,rfl⟩
  have HRJC:=zh (her▸zum x _ _ HNX2.out HRJ.out);have HER:=zh her;clear her
  gi_wp2
  refine⟨trivial,CallsIn.inRound l (callsIn_wide.2 ?_)⟩;refine HRJC.out.mono ?_;rintro e w3 ⟨s3,rfl,az⟩;have qI:=zh (zkd HPB2.out az);have fu:=HRS2.out.later az;have HB3:=zh az;clear az m0 m1 m2 m3;by_cases he0:er=0
  ·subst he0;have lg:=zh fu;clear fu
   gi_wp2
   refine⟨C,⟨pv,aI.out,qI.out,?_⟩,fun b hb=>.inl hb,Chg.of_below HB3.out⟩;rw[zrw,HER.out];exact lg.out
  ·have e1:(er==0)=false:=by simpa using he0
   have e2:(er != 0)=true:=by simpa using he0
   obtain⟨rM,qh,rfl⟩:=fu.slice;have y0:w3.cell? ⟨w.heap.size,0,none⟩=some (.int .i64 p):=zc qI.out rfl;have y1:w3.cell? ⟨w.heap.size+1+1,0,none⟩=some (.slice rM (rejN pre) qh):=zc fu.box rfl;obtain⟨xs,hown,h1c⟩:=fu.row;have hl3:=fu.lt;have hge:=fu.ge;have lg:=zh fu;have hown':=hown.alloc (.cells #[.int .i64 p,.slice Ap mp cp,.int .i64 er,.string s3] 204);have hnl:=xG.out;have eG:=zh (zk3 w3 204 [.int .i64 p,.slice Ap mp cp,.int .i64 er,.string s3]);have hbb:=zKn;have hbs:=zyy;obtain⟨i0,hi0,hz0,hz1,hz2⟩:=info_parts zvm;clear fu hown
   gi_wp2_with (gi_at_builtin;refine zmT (P:=Tryz.prog) _ rfl (.tmp 21) (.tmp 27) 108 rfl (w.heap.size+1+1) 204 i0 _ 4 56 Tryz.underlying108 hi0 hz0 hz1 hz2 rfl (by decide) (.slice rM (rejN pre) qh) (rejN pre) xs rfl hown' ⟨w3.heap.size,0,none⟩ 1 1 [.int .i64 p,.slice Ap mp cp,.int .i64 er,.string s3] rfl rfl eG.out (by intro u hu;simp at hu;rcases hu with rfl|rfl|rfl|rfl<;>rfl) (by unfold maxLen;omega) (by omega) (by simp;omega) ?_;intro v' w' h2 h3 h5;have hbx:=(h3.block _ (by simp;omega) (fun e=>lg.out.ne e.symm)).trans (zkl lg.out.box _);have z0:w'.cell? ⟨w.heap.size+1+1,0,none⟩=some (.slice rM (rejN pre) qh):=zc hbx rfl;have z1:w'.frozen? ⟨w.heap.size+1+1,0,none⟩=false:=zf hbx;clear hbx;obtain⟨g8,ay,rfl⟩:=ownsRow_succ h2)
   have aR:∀ b,(Value.slice (some ⟨g8,0,none⟩) (rejN pre+1) ay).ownBlock=some b->(Value.slice rM (rejN pre) qh).ownBlock=some b\/w3.heap.size<=b:=fun b hb=>by
    rcases h5 with h5|h5
    ·exact .inl (h5▸hb)
    ·exact .inr (by rw[h5] at hb;injection hb with hb;simp at hb;omega)
   have hput:=lg.out.put (W':=w') (pv':=.slice (some ⟨g8,0,none⟩) (rejN pre+1) ay) (N':=rejN pre+1) ⟨_,h2,fun u hu=>by
     rw[List.mem_append] at hu;rcases hu with hu|hu
     ·exact h1c u hu
     ·simp at hu;rcases hu with rfl|rfl|rfl|rfl<;>rfl⟩ ⟨h3.os,h3.tape,h3.output,Nat.le_trans (by simp) h3.size,fun b hb hne=>(h3.block b (by simp;omega) hne).trans (Below.heap_alloc w3 _ b hb)⟩ aR
   have hch:Chg C W2 (w'.setCell ⟨w.heap.size+1+1,0,none⟩ (.slice (some ⟨g8,0,none⟩) (rejN pre+1) ay)) :=
    (((Chg.of_below HB3.out).alloc _).trans2 (Chg.row h3) (fun b _ h=>(aI.out b).2 (.inr (.inr h)))).setCell (.inl ((aI.out _).2 (.inr (.inl rfl)))) _
   have hpb4:(w'.setCell ⟨w.heap.size+1+1,0,none⟩ (.slice (some ⟨g8,0,none⟩) (rejN pre+1) ay)).heap[w.heap.size]?=some (.cells #[.int .i64 p] 3 (0,0)):=by
    rw[Below.heap_setCell _ _ _ _ (by simp;omega),h3.block _ (by simp;omega) (fun e=>by have:=(hl3.2 _ e.symm).1;omega)];exact zkl qI.out _
   refine⟨fun b=>b=w.heap.size\/b=w.heap.size+1+1\/(Value.slice (some ⟨g8,0,none⟩) (rejN pre+1) ay).ownBlock=some b,⟨_,fun _=>Iff.rfl,hpb4,?_⟩,fun b hb=>?_,hch⟩
   ·rw[zrw,HER.out,one1,if_neg he0];exact hput
   ·rcases hb with hb|hb|hb
    ·exact .inl ((aI.out _).2 (.inl hb))
    ·exact .inl ((aI.out _).2 (.inr (.inl hb)))
    ·rcases aR b hb with h|h
     ·exact .inl ((aI.out _).2 (.inr (.inr h)))
     ·exact .inr (Nat.le_trans HB3.out.size h)
 ·intro D C W' hD hC hch hK;obtain⟨pv,bC,hpb7,dY⟩:=hC;obtain⟨rM,qh,rfl⟩:=dY.slice;have r0:W'.cell? ⟨w.heap.size+1+1,0,none⟩=some (.slice rM (rejN (po t)) qh):=zc dY.box rfl;have sZ:=nG.out.size;have hlR:=zki HLB.out;have lK:=zh (show Below w.heap.size w W' from nG.out.trans (hch.below sZ (fun b h=>by omega)));have HK:=zh hK;have jg:=zh dY;clear hch hK dY bC hpb7;go_wp2_with fail;refine⟨by simp,.inl ⟨_,_,rfl,run_takeDeferred HK.out,?_⟩⟩;have bJ:=lK.out.trans ((Chg.putObj W' D (.deferred none)).below (B:=w.heap.size) lK.out.size (fun b hb=>by have:b=D:=hb;omega));obtain⟨xs,⟨e1,h2⟩,h9⟩:=jg.out.row;refine⟨.slice rM (rejN (po t)) qh,by simp[results,Tryz.results98,go_sem],_,xs,rfl,⟨e1,?_⟩,h9,bJ⟩;rcases h2 with h2|⟨g,cap,cur,h8,hb,hg,h3⟩
  ·exact .inl h2
  ·refine .inr ⟨g,cap,cur,h8,by omega,(World.putObj_heap_other (fun e=>?_)).trans hg,h3⟩;subst e;rw[HK.out] at hg
   cases hg
 ·intro D pre C W' hD hC;exact hC.elim
end Go.Proofs.YtckhofdinldhpaaGreat
namespace Go.Proofs.YtckhofdinldhpaaGreat
open Go Go.RowKit
theorem ztz {k n:Int} {s:ByteArray} {ks:List T} {nm:ByteArray} (h:menB (.nd k n s ks) nm=false):(2<=k/\k<=5->(s.toList==nm.toList)=false)/\∀ t∈ks,menB t nm=false:=by
 simp only[menB,po,List.any_cons,Bool.or_eq_false_iff] at h;refine⟨fun hk=>?_,fun t ht=>?_⟩
 ·have h1:=h.1;simp only[zmx,T.k_nd,T.s_nd,Bool.and_eq_false_iff] at h1;rcases h1 with h1|h1
  ·simp only[Bool.or_eq_false_iff,beq_eq_false_iff_ne] at h1;omega
  ·exact h1
 ·have h2:=h.2;rw[List.any_eq_false] at h2;rw[menB,List.any_eq_false];exact fun u hu=>h2 u (zk8.2 ⟨t,ht,hu⟩)
theorem ztO {look look':ByteArray->Option (List Int)} {nms:List ByteArray} (h:∀ s:ByteArray,(∀ nm∈nms,(s.toList==nm.toList)=false)->look' s=look s):∀ t,(∀ nm∈nms,menB t nm=false)->evE look' t=evE look t:=by
 intro t
 induction t using T.ind with
 | _ k n s ks ih =>
  intro hm;rw[evE,evE,znu,znu];have e:ks.map (evE look')=ks.map (evE look):=List.map_congr_left fun t ht=>ih t ht fun nm hn=>(ztz (hm nm hn)).2 t ht;rw[e];unfold evK
  split
  ·rfl
  ·split
   ·rename_i hk;unfold varE;rw[h s fun nm hn=>(ztz (hm nm hn)).1 hk]
   ·rfl
theorem zoz {look look':ByteArray->Option (List Int)} {nms:List ByteArray} (h:∀ s:ByteArray,(∀ nm∈nms,(s.toList==nm.toList)=false)->look' s=look s) (t:T) (hm:∀ nm∈nms,menB t nm=false):zkH look' t=zkH look t:=by
 unfold zkH;rw[ztO h t hm]
theorem zrO {look look':ByteArray->Option (List Int)} {nms:List ByteArray} (h:∀ s:ByteArray,(∀ nm∈nms,(s.toList==nm.toList)=false)->look' s=look s) (t:T) (hm:∀ nm∈nms,idxB t nm=false):indE look' t=indE look t:=by
 unfold indE
 split
 ·rename_i hp
  split
  ·rfl
  ·rename_i h2;have h3:t.k=3:=by
    simp only[isP,Bool.and_eq_true,Bool.or_eq_true,beq_iff_eq] at hp;omega
   refine ztO h _ fun nm hn=>?_;have:=hm nm hn;simpa[idxB,h3,kidC] using this
 ·rfl
theorem zxg {x:Int} (hx:I64 x) (y:Int):bits BinOp.xor IntKind.i64 (bits BinOp.xor IntKind.i64 x y) y=x:=by
 show IntKind.i64.wrap (((BitVec.ofInt 64 (IntKind.i64.wrap ((BitVec.ofInt 64 x ^^^ BitVec.ofInt 64 y).toNat:Int)) ^^^ BitVec.ofInt 64 y).toNat:Nat):Int)=x
 have e:BitVec.ofInt 64 (IntKind.i64.wrap ((BitVec.ofInt 64 x ^^^ BitVec.ofInt 64 y).toNat:Int))=BitVec.ofInt 64 x ^^^ BitVec.ofInt 64 y:=by
  generalize BitVec.ofInt 64 x ^^^ BitVec.ofInt 64 y=c;apply BitVec.eq_of_toNat_eq;rw[BitVec.toNat_ofInt,IntKind.wrap_i64];have:=c.isLt;omega
 rw[e,BitVec.xor_assoc,BitVec.xor_self,BitVec.xor_zero,BitVec.toNat_ofInt,IntKind.wrap_i64];obtain⟨h1,h2⟩:=hx;omega
theorem zuX {k x:Int} (hk:k=40\/k=41\/k=42) (hx:I64 x) (y:Int):updE (zkL k) (updE k x y) y=x:=by
 obtain⟨h1,h2⟩:=hx;rcases hk with rfl|rfl|rfl
 ·show wrap64 (wrap64 (x+y)-y)=x
  unfold wrap64;omega
 ·show wrap64 (wrap64 (x-y)+y)=x
  unfold wrap64;omega
 ·exact zxg ⟨h1,h2⟩ y
section
variable {S:ST}
theorem zzB {S:ST} {f:Nat->List Int} (h:f=S.cell):({ S with cell:=f }:ST)=S:=by subst h;rfl
theorem zpi (S:ST) (id:Nat):S.setL id (S.cell id)=S:=zzB (by funext j;split<;>simp_all)
theorem zmY (S:ST) (id:Nat) (l m:List Int):(S.setL id l).setL id m=S.setL id m:=by
 unfold ST.setL;congr 1;funext j;simp only
 split<;>rfl
theorem zpj (S:ST) {a b:Nat} (h:a≠b) (l m:List Int):(S.setL a l).setL b m=(S.setL b m).setL a l:=by
 unfold ST.setL;congr 1;funext j;simp only;by_cases e:j=b
 ·subst e;rw[if_pos rfl,if_neg (Ne.symm h),if_pos rfl]
 ·rw[if_neg e,if_neg e]
theorem znJ (S:ST) (id:Nat) (l:List Int):(S.setL id l).cell id=l:=by simp[ST.setL]
theorem zlS (S:ST) {id j:Nat} (h:j≠id) (l:List Int):(S.setL id l).cell j=S.cell j:=by simp[ST.setL,h]
theorem zmH (S:ST) (id i:Nat) (x y:Int):(S.put id i x).put id i y=S.put id i y:=by
 unfold ST.put;rw[znJ,zmY,List.set_set]
theorem zxv (l:List Int) (i:Nat):l.set i (l.getD i 0)=l:=by
 rcases Nat.lt_or_ge i l.length with h|h
 ·rw[List.getD_eq_getElem?_getD,List.getElem?_eq_getElem h,Option.getD_some,List.set_getElem_self]
 ·rw[List.set_eq_of_length_le h]
theorem zmw (S:ST) (id i:Nat):S.put id i (S.el id i)=S:=by
 unfold ST.put ST.el;rw[zxv,zpi]
theorem zmI (S:ST) (id i:Nat) (x:Int) (j:Nat):((S.put id i x).cell j).length=(S.cell j).length:=by
 by_cases e:j=id
 ·subst e;unfold ST.put;rw[znJ,List.length_set]
 ·unfold ST.put;rw[zlS _ e]
theorem zn4 (S:ST) {id i:Nat} (h:i<(S.cell id).length) (x:Int):(S.put id i x).el id i=x:=by
 unfold ST.el ST.put;rw[znJ,List.getD_eq_getElem?_getD,List.getElem?_set_self h,Option.getD_some]
theorem zmr (S:ST) {id j:Nat} (h:j≠id) (i:Nat) (x:Int):(S.put id i x).cell j=S.cell j:=zlS S h _
theorem put_comm (S:ST) {id jd i j:Nat} (h:id≠jd\/i≠j) (x y:Int):(S.put id i x).put jd j y=(S.put jd j y).put id i x:=by
 by_cases e:id=jd
 ·subst e;have hij:=h.resolve_left (fun h=>h rfl);unfold ST.put;rw[znJ,znJ,zmY,zmY,List.set_comm _ _ hij]
 ·have e1:(S.put id i x).cell jd=S.cell jd:=zmr S (Ne.symm e) i x;have e2:(S.put jd j y).cell id=S.cell id:=zmr S e j y
  show(S.put id i x).setL jd (((S.put id i x).cell jd).set j y)=(S.put jd j y).setL id (((S.put jd j y).cell id).set i x)
  rw[e1,e2];exact zpj S e _ _
theorem zu1 (S:ST) {id i jd j:Nat} (hi:i<(S.cell id).length) (hj:j<(S.cell jd).length):znF (znF S id i jd j) id i jd j=S:=by
 unfold znF;by_cases e:id=jd/\i=j
 ·obtain⟨rfl,rfl⟩:=e;rw[zmw,zmw,zmw,zmw]
 ·have hne:id≠jd\/i≠j:=by
   rcases Decidable.em (id=jd) with h|h
   ·exact .inr fun h'=>e ⟨h,h'⟩
   ·exact .inl h
  obtain⟨x,hx⟩:∃ x,S.el id i=x:=⟨_,rfl⟩
  obtain⟨y,hy⟩:∃ y,S.el jd j=y:=⟨_,rfl⟩
  rw[hx,hy];have e1:((S.put id i y).put jd j x).el jd j=x:=zn4 _ (by rw[zmI];exact hj) x;have e2:((S.put id i y).put jd j x).el id i=y:=by
   rw[put_comm S hne];exact zn4 _ (by rw[zmI];exact hi) y
  rw[e1,e2,put_comm S hne,zmH,<-put_comm S hne,zmH,<-hx,zmw,<-hy,zmw]
theorem znn {vs:List VD} {s:ByteArray}:∀ {j i:Nat},zlv vs s j=some i->∃ v,vs[i]?=some v/\(v.s.toList==s.toList)=true
 | 0,_,h=>by simp[zlv] at h
 | j+1,i,h=>by
  rw[zlv] at h
  split at h
  ·rename_i hb;injection h with h;subst h
   cases hv:vs[j]? with
   | none=>rw[hv] at hb;simp at hb
   | some v=>rw[hv] at hb;exact⟨v,rfl,hb⟩
  ·exact znn h
theorem zzO (hnd:S.cur.cs.Nodup) {s s':ByteArray} {id:Nat} (h:S.num s=some id) (h':S.num s'=some id):(s.toList==s'.toList)=true:=by
 unfold ST.num at h h';obtain⟨i,h1,h2⟩:=Option.bind_eq_some_iff.1 h;obtain⟨j,h3,h4⟩:=Option.bind_eq_some_iff.1 h';obtain⟨a1,a2⟩:=List.getElem?_eq_some_iff.1 h2;obtain⟨b1,b2⟩:=List.getElem?_eq_some_iff.1 h4;have hij:i=j:=(List.getElem_inj hnd).1 (a2.trans b2.symm);subst hij;obtain⟨v,c1,c2⟩:=znn h1;obtain⟨v',d1,d2⟩:=znn h3;rw[c1] at d1;injection d1 with d1;subst d1;rw[beq_iff_eq] at c2 d2 ⊢;rw[<-c2,<-d2]
theorem zur {S1:ST} (hnd:S.cur.cs.Nodup) (hf:S1.base=S.base/\S1.calls=S.calls) (nms:List ByteArray) (hc:∀ id,(∀ nm∈nms,S.num nm≠some id)->S1.cell id=S.cell id) (s:ByteArray) (hs:∀ nm∈nms,(s.toList==nm.toList)=false):S1.look s=S.look s:=by
 have e:S1.num s=S.num s:=by unfold ST.num ST.cur;rw[hf.1,hf.2]
 unfold ST.look;rw[e]
 cases hn:S.num s with
 | none=>rfl
 | some id =>
  simp only[Option.map_some,Option.some.injEq];refine hc id fun nm hm h2=>?_;have:=zzO hnd hn h2;rw[hs nm hm] at this
  cases this
theorem zzT {k n:Int} {s:ByteArray} {ks:List T} (h:isS (.nd k n s ks)=true) (hb:basB k=true):isS (.nd (zkL k) n s ks)=true:=by
 have hr:=of_decide_eq_true hb;have:k=40\/k=41\/k=42\/k=43\/k=44\/k=45\/k=46\/k=47\/k=48\/k=49:=by omega
 rcases this with rfl|rfl|rfl|rfl|rfl|rfl|rfl|rfl|rfl|rfl<;>simpa[isS,zkL] using h
theorem zxM (k:Int):zoR (zkL k)=zoR k:=by
 unfold zkL
 repeat' split
 all_goals first|rfl|(subst_vars;rfl)
theorem zz6 (vs:List VD) (k n:Int) (s:ByteArray) (ks:List T):fltE vs (.nd (zkL k) n s ks)=fltE vs (.nd k n s ks):=by
 rw[fltE,fltE];unfold ownE;rw[zxM]
theorem zwD {k:Int} (hb:basB k=true):basB (zkL k)=true/\zkL k≠56/\zkL (zkL k)=k:=by
 have hr:=of_decide_eq_true hb;have:k=40\/k=41\/k=42\/k=43\/k=44\/k=45\/k=46\/k=47\/k=48\/k=49:=by omega
 rcases this with rfl|rfl|rfl|rfl|rfl|rfl|rfl|rfl|rfl|rfl<;>exact⟨rfl,by decide,rfl⟩
theorem zwl {k n:Int} {s:ByteArray} {ks:List T} (hs:isS (.nd k n s ks)=true) (hk:k≠56) (hb:basB k=true) (hf:fltE S.cur.vs (.nd k n s ks)=0):doE S (.nd k n s ks)=zlk S k s (ks.getD 0 nil0) (ks.getD 1 nil0) (indE S.look (ks.getD 0 nil0)) (zk6 S k (ks.getD 1 nil0)):=by
 unfold doE;rw[if_neg (by rw[hs];decide),if_neg (by exact hk),if_neg (by show ¬ basB k=false;rw[hb];decide),if_neg (by rw[hf];decide)];rfl
theorem zoj {ks:List T} {nms:List ByteArray} (h:aliB ks nms=false) {t:T} (ht:t∈ks):∀ nm∈nms,idxB t nm=false:=by
 intro nm hn;unfold aliB at h;rw[List.any_eq_false] at h;have:=h t ht;rw[List.any_eq_true] at this;simp only[not_exists,not_and,Bool.not_eq_true] at this;exact this nm hn
theorem zuq {k:Int} (hk:k=44\/k=45) {id i af:Nat} (hne:id≠af) (hi:i<(S.cell id).length) (hl:(S.cell af).length<=1000) (h0:(zlH S k id i af).1=0):zlH (zlH S k id i af).2 (zkL k) id i af=(0,S):=by
 rcases hk with rfl|rfl
 ·unfold zlH at h0 ⊢;rw[if_pos rfl] at h0 ⊢
  split at h0
  ·cases h0
  rename_i hf;rw[if_neg hf]
  show(if (zkL 44)=44 then _ else _)=_
  rw[if_neg (by decide)];dsimp only;obtain⟨x,hx⟩:∃ x,S.el id i=x:=⟨_,rfl⟩
  rw[hx];have e1:(((S.setL af (S.cell af++[x])).put id i 0).cell af)=S.cell af++[x]:=by rw[zmr _ (Ne.symm hne),znJ]
  have e2:((S.setL af (S.cell af++[x])).put id i 0).el id i=0:=zn4 _ (by rw[zlS _ hne];exact hi) 0;have e3:((S.setL af (S.cell af++[x])).put id i 0).el af ((S.cell af++[x]).length-1)=x:=by unfold ST.el;rw[e1];simp
  rw[e1,e2,e3,if_neg (by simp),if_neg (by simp),zmH];have e4:(S.cell af++[x]).take ((S.cell af++[x]).length-1)=S.cell af:=by simp
  rw[e4];have e5:(S.setL af (S.cell af++[x])).put id i x=(S.put id i x).setL af (S.cell af++[x]):=by
   unfold ST.put;rw[zlS _ hne,zpj _ (Ne.symm hne)]
  have e6:(S.put id i x)=S:=by rw[<-hx];exact zmw S id i
  rw[e5,zmY,e6,zpi]
 ·unfold zlH at h0 ⊢;rw[if_neg (show ¬ ((45:Int)=44) by decide)] at h0 ⊢
  split at h0
  ·cases h0
  rename_i hf;rw[if_neg hf]
  split at h0
  ·cases h0
  rename_i hz;rw[if_neg hz];have hz:=Decidable.not_not.1 hz
  show(if (zkL 45)=44 then _ else _)=_
  rw[if_pos (by decide)];dsimp only;obtain⟨x,hx⟩:∃ x,S.el af ((S.cell af).length-1)=x:=⟨_,rfl⟩
  rw[hx];have hsd:(S.cell af).take ((S.cell af).length-1)++[x]=S.cell af:=by
   have hl:S.cell af≠[]:=fun e=>hf (by rw[e];rfl);have:x=(S.cell af).getLast hl:=by
    rw[<-hx];unfold ST.el;rw[List.getD_eq_getElem?_getD,List.getElem?_eq_getElem (by omega),Option.getD_some,List.getLast_eq_getElem]
   rw[this,<-List.dropLast_eq_take];exact List.dropLast_concat_getLast hl
  have e1:(((S.put id i x).setL af ((S.cell af).take ((S.cell af).length-1))).cell af)=(S.cell af).take ((S.cell af).length-1):=znJ _ _ _;have e2:((S.put id i x).setL af ((S.cell af).take ((S.cell af).length-1))).el id i=x:=by
   unfold ST.el;rw[zlS _ hne];exact zn4 S hi x
  rw[e1,e2,if_neg (by rw[List.length_take];omega),zmY,hsd];have e5:((S.put id i x).setL af (S.cell af)).put id i 0=((S.put id i x).put id i 0).setL af (S.cell af):=by
   show _=((S.put id i x).setL id (((S.put id i x).cell id).set i 0)).setL af (S.cell af)
   rw[zpj _ hne];unfold ST.put;rw[zlS _ hne]
  have e6:S.put id i 0=S:=by rw[<-hz];exact zmw S id i
  rw[e5,zmH,e6,zpi]
theorem zzE (S:ST) (l:List Int) (id i:Nat) (x:Int):({ S with tin:=l }:ST).put id i x={ S.put id i x with tin:=l }:=rfl
theorem zsk (h:S.WF) {k:Int} (hk:k=46\/k=47\/k=48\/k=49) {id i:Nat} (hi:i<(S.cell id).length) (h0:(zkt S k id i).1=0):zkt (zkt S k id i).2 (zkL k) id i=(0,S):=by
 have ht:=h.tin.1;have ho:=h.tout.1;have key:∀ (l m:List Int) (y:Int),({ S with tin:=l,tout:=m }:ST).put id i y={ S.put id i y with tin:=l,tout:=m }:=fun _ _ _=>rfl;rcases hk with rfl|rfl|rfl|rfl
 ·unfold zkt at h0;rw[if_pos rfl] at h0;obtain⟨y,r,hl⟩:∃ y r,S.tin=y::r:=by
   cases hl:S.tin with
   | nil=>rw[hl] at h0;cases h0
   | cons y r=>exact⟨y,r,rfl⟩
  rw[hl] at h0 ht;dsimp only at h0
  split at h0
  ·cases h0
  rename_i hz;have hz:=Decidable.not_not.1 hz;have e:zkt S 46 id i=(0,({ S with tin:=r }:ST).put id i y):=by
   unfold zkt;rw[if_pos rfl,hl];dsimp only;rw[if_neg (by rw[hz];decide)]
  rw[e]
  show zkt (({ S with tin:=r }:ST).put id i y) 47 id i=(0,S)
  unfold zkt;rw[if_neg (by decide),if_neg (by decide),if_pos rfl];have e2:(({ S with tin:=r }:ST).put id i y).el id i=y:=zn4 (S:={ S with tin:=r }) hi y;rw[e2,if_neg (by show ¬ 4096<=r.length;simp at ht;omega)];congr 1;have e3:(({ S with tin:=y::r }:ST).put id i y).put id i 0=S:=by
   rw[zmH,zzE,<-hz,zmw,<-hl]
  exact e3
 ·unfold zkt at h0;rw[if_neg (by decide),if_neg (by decide),if_pos rfl] at h0
  split at h0
  ·cases h0
  rename_i hz;obtain⟨x,hx⟩:∃ x,S.el id i=x:=⟨_,rfl⟩
  have e:zkt S 47 id i=(0,({ S with tin:=x::S.tin }:ST).put id i 0):=by
   unfold zkt;rw[if_neg (by decide),if_neg (by decide),if_pos rfl,if_neg hz,hx]
  rw[e]
  show zkt (({ S with tin:=x::S.tin }:ST).put id i 0) 46 id i=(0,S)
  unfold zkt;rw[if_pos rfl];have e2:(({ S with tin:=x::S.tin }:ST).put id i 0).el id i=0:=zn4 (S:={ S with tin:=x::S.tin }) hi 0
  show(if (({ S with tin:=x::S.tin }:ST).put id i 0).el id i≠0 then _ else _)=_
  rw[e2,if_neg (by simp)];congr 1;have e3:(S.put id i 0).put id i x=S:=by rw[zmH,<-hx,zmw]
  exact e3
 ·unfold zkt at h0;rw[if_neg (by decide),if_neg (by decide),if_neg (by decide)] at h0
  split at h0
  ·cases h0
  rename_i hz;obtain⟨x,hx⟩:∃ x,S.el id i=x:=⟨_,rfl⟩
  have e:zkt S 48 id i=(0,({ S with tout:=S.tout++[x] }:ST).put id i 0):=by
   unfold zkt;rw[if_neg (by decide),if_neg (by decide),if_neg (by decide),if_neg hz,hx]
  rw[e]
  show zkt (({ S with tout:=S.tout++[x] }:ST).put id i 0) 49 id i=(0,S)
  unfold zkt;rw[if_neg (by decide),if_pos rfl];have e2:(({ S with tout:=S.tout++[x] }:ST).put id i 0).el id i=0:=zn4 (S:={ S with tout:=S.tout++[x] }) hi 0;have et:(({ S with tout:=S.tout++[x] }:ST).put id i 0).tout=S.tout++[x]:=rfl;rw[e2,et,if_neg (by simp),if_neg (by simp)];congr 1;have e3:(S.put id i 0).put id i x=S:=by rw[zmH,<-hx,zmw]
  have e4:(S.tout++[x]).dropLast=S.tout:=by simp
  have e5:(S.tout++[x]).getLast?.getD 0=x:=by simp
  rw[e4,e5];exact e3
 ·unfold zkt at h0;rw[if_neg (by decide),if_pos rfl] at h0
  split at h0
  ·cases h0
  rename_i hn
  split at h0
  ·cases h0
  rename_i hz;have hz:=Decidable.not_not.1 hz;obtain⟨y,hy⟩:∃ y,S.tout.getLast?.getD 0=y:=⟨_,rfl⟩
  have e:zkt S 49 id i=(0,({ S with tout:=S.tout.dropLast }:ST).put id i y):=by
   unfold zkt;rw[if_neg (by decide),if_pos rfl,if_neg hn,if_neg (by rw[hz];decide),hy]
  rw[e]
  show zkt (({ S with tout:=S.tout.dropLast }:ST).put id i y) 48 id i=(0,S)
  unfold zkt;rw[if_neg (by decide),if_neg (by decide),if_neg (by decide)];have e2:(({ S with tout:=S.tout.dropLast }:ST).put id i y).el id i=y:=zn4 (S:={ S with tout:=S.tout.dropLast }) hi y;have et:(({ S with tout:=S.tout.dropLast }:ST).put id i y).tout=S.tout.dropLast:=rfl;have hpos:0<S.tout.length:=List.length_pos_iff.2 hn;rw[e2,et,if_neg (by simp;omega)];congr 1;have e4:S.tout.dropLast++[y]=S.tout:=by
   have:y=S.tout.getLast hn:=by rw[<-hy,List.getLast?_eq_some_getLast hn];rfl
   rw[this];exact List.dropLast_concat_getLast hn
  have e3:(S.put id i y).put id i 0=S:=by rw[zmH,<-hz,zmw]
  rw[e4];exact e3
theorem zwm (h:S.WF) {k n:Int} {s:ByteArray} {ks:List T} (h0:(doE S (.nd k n s ks)).1=0) :
  ∃ id kp,S.num (ks.getD 0 nil0).s=some id/\CurK S id kp/\kp≠3/\(indE S.look (ks.getD 0 nil0)).2=0/\(zk6 S k (ks.getD 1 nil0)).2=0/\0<=(indE S.look (ks.getD 0 nil0)).1/\(indE S.look (ks.getD 0 nil0)).1.toNat<(S.cell id).length /\
   doE S (.nd k n s ks)=zkC S k s (ks.getD 1 nil0).s (zk6 S k (ks.getD 1 nil0)).1 id (indE S.look (ks.getD 0 nil0)).1.toNat:=by
 obtain⟨hs,gU,hb,hf,-⟩:=zwn h0;simp only[T.k_nd] at gU hb;have hp:∃ id kp,S.num (ks.getD 0 nil0).s=some id/\CurK S id kp/\kp≠3:=by
  obtain⟨-,fk⟩:=zpD hf;rcases zpx hs hb with⟨_,p,q,rfl,hp,_⟩|⟨_,p,q,rfl,hp,_⟩|⟨_,p,rfl,hp⟩
  ·exact zm3 h hp (zma fk p (by simp))
  ·exact zm3 h hp (zma fk p (by simp))
  ·exact zm3 h hp (zma fk p (by simp))
 obtain⟨id,kp,h1,h2,h3⟩:=hp;rw[zwl hs gU hb hf] at h0 ⊢;unfold zlk at h0 ⊢
 split at h0
 ·rename_i e;exact absurd h0 e
 rename_i e1;rw[if_neg e1];unfold zmO at h0 ⊢
 split at h0
 ·rename_i e;exact absurd h0 e
 rename_i e2;rw[if_neg e2];rw[h1] at h0 ⊢;dsimp only at h0 ⊢
 split at h0
 ·rename_i e3;rw[if_pos e3];exact⟨id,kp,rfl,h2,h3,Decidable.not_not.1 e1,Decidable.not_not.1 e2,e3.1,by omega,rfl⟩
 ·cases h0
theorem zyo {k n:Int} {s:ByteArray} {ks:List T} (hs:isS (.nd k n s ks)=true) (gU:k≠56) (hb:basB k=true) (hf:fltE S.cur.vs (.nd k n s ks)=0) {id i:Nat} {y:Int} (h1:S.num (ks.getD 0 nil0).s=some id) (h2:indE S.look (ks.getD 0 nil0)=((i:Int),0)) (h3:zk6 S k (ks.getD 1 nil0)=(y,0)) (h4:i<(S.cell id).length) :
  doE S (.nd k n s ks)=zkC S k s (ks.getD 1 nil0).s y id i:=by
 rw[zwl hs gU hb hf];unfold zlk;rw[h2,h3,if_neg (by simp)];unfold zmO;rw[if_neg (by simp),h1];dsimp only;rw[if_pos (by omega)];simp
theorem ztT (h:S.WF) (hnd:S.cur.cs.Nodup) {t:T} (hr:rejE t=0) (h0:(doE S t).1=0):zlp (doE S t).2 t=(0,S):=by
 obtain⟨k,n,s,ks⟩:=t;obtain⟨hs,gU,hb,hf,-⟩:=zwn h0;simp only[T.k_nd] at gU hb;obtain⟨f1,f2,f3⟩:=zoA (S:=S) (.nd k n s ks);obtain⟨id,kp,a1,a2,a3,a4,a5,a6,a7,a8⟩:=zwm h h0;obtain⟨i,hi⟩:∃ i,(indE S.look (ks.getD 0 nil0)).1.toNat=i:=⟨_,rfl⟩
 obtain⟨y,hy⟩:∃ y,(zk6 S k (ks.getD 1 nil0)).1=y:=⟨_,rfl⟩
 rw[hi,hy] at a8;rw[hi] at a7;have b1:indE S.look (ks.getD 0 nil0)=((i:Int),0):=Prod.ext (by simp only;omega) a4;have b2:zk6 S k (ks.getD 1 nil0)=(y,0):=Prod.ext hy a5;have hid:=a2.lt h;rw[a8] at h0 f1 f2 f3 ⊢;obtain⟨c1,c2,c3⟩:=zwD hb
 -- what the second one comes to,once the places are the same
 have key:∀ nms:List ByteArray,(∀ j,(∀ nm∈nms,S.num nm≠some j)->(zkC S k s (ks.getD 1 nil0).s y id i).2.cell j=S.cell j)->(∀ nm∈nms,idxB (ks.getD 0 nil0) nm=false) ->
   ((∀ s',(∀ nm∈nms,(s'.toList==nm.toList)=false)->(zkC S k s (ks.getD 1 nil0).s y id i).2.look s'=S.look s')->zk6 (zkC S k s (ks.getD 1 nil0).s y id i).2 (zkL k) (ks.getD 1 nil0)=(y,0)) ->
   i<((zkC S k s (ks.getD 1 nil0).s y id i).2.cell id).length ->
   zlp (zkC S k s (ks.getD 1 nil0).s y id i).2 (.nd k n s ks)=zkC (zkC S k s (ks.getD 1 nil0).s y id i).2 (zkL k) s (ks.getD 1 nil0).s y id i:=by
  intro nms hc hp hr2 hl;have hlk:=zur hnd ⟨f1,f2⟩ nms hc;have hnum:∀ s',(zkC S k s (ks.getD 1 nil0).s y id i).2.num s'=S.num s':=fun s'=>by unfold ST.num ST.cur;rw[f1,f2]
  show doE _ (.nd (zkL k) n s ks)=_
  refine zyo (zzT hs hb) c2 c1 ?_ ((hnum _).trans a1) ((zrO hlk _ hp).trans b1) (hr2 hlk) hl;rw[zz6];have:(zkC S k s (ks.getD 1 nil0).s y id i).2.cur=S.cur:=by unfold ST.cur;rw[f1,f2]
  rw[this];exact hf
 rw[zl4,if_neg gU] at hr;rcases zpx hs hb with⟨hk,p,q,rfl,hp,hq⟩|⟨rfl,p,q,rfl,hp,hq⟩|⟨hk,p,rfl,hp⟩
 ·rw[if_pos hk] at hr
  split at hr
  ·cases hr
  rename_i gM;simp only[Bool.or_eq_true,not_or,Bool.not_eq_true] at gM;have e3:∀ S':ST,∀ k',(k'=40\/k'=41\/k'=42)->zkC S' k' s q.s y id i=(0,S'.put id i (updE k' (S'.el id i) y)):=fun S' k' hk'=>by unfold zkC;rw[if_pos hk']
  have hk':zkL k=40\/zkL k=41\/zkL k=42:=by rcases hk with rfl|rfl|rfl<;>decide
  have e4:zkC S k s q.s y id i=(0,S.put id i (updE k (S.el id i) y)):=e3 S k hk;have hkk:=key [p.s] (fun j hj=>by
   show(zkC S k s q.s y id i).2.cell j=_
   rw[e4];exact zmr S (fun e=>hj p.s (by simp) (by rw[e];exact a1)) _ _) (fun nm hn=>by obtain rfl:=List.mem_singleton.1 hn;exact gM.1) (fun hlk=>by
   show zk6 (zkC S k s q.s y id i).2 (zkL k) q=(y,0)
   rw[<-b2]
   show zk6 (zkC S k s q.s y id i).2 (zkL k) q=zk6 S k q
   unfold zk6;rw[if_neg (by omega),if_pos hk',if_neg (by omega),if_pos hk];exact zoz hlk _ fun nm hn=>by obtain rfl:=List.mem_singleton.1 hn;exact gM.2) (by
   show i<((zkC S k s q.s y id i).2.cell id).length
   rw[e4]
   show i<((S.put id i _).cell id).length
   rw[zmI];exact a7)
  show zlp (zkC S k s q.s y id i).2 _=_
  refine hkk.trans ?_
  show zkC (zkC S k s q.s y id i).2 (zkL k) s q.s y id i=(0,S)
  rw[e4,e3 _ _ hk'];dsimp only;rw[zn4 S a7,zuX hk (zmS h hid i),zmH,zmw]
 ·rw[if_neg (by decide),if_pos rfl] at hr
  split at hr
  ·cases hr
  rename_i gM;simp only[Bool.not_eq_true] at gM;obtain⟨jd,kq,d1,d2,d3⟩:=zm3 h hq (zma (zpD hf).2 q (by simp));have hjd:=d2.lt h;have b2':indE S.look q=(y,0):=b2;have e4:zkC S 43 s q.s y id i=if 0<=y/\y<(S.cell jd).length then (0,znF S id i jd y.toNat) else (12,S):=by
   unfold zkC;rw[if_neg (by decide),if_pos rfl,d1]
  have h0':(zkC S 43 s q.s y id i).1=0:=h0;rw[e4] at h0'
  split at h0'
  ·rename_i hy2;rw[if_pos hy2] at e4;have hlen:∀ j,((znF S id i jd y.toNat).cell j).length=(S.cell j).length:=fun j=>by unfold znF;rw[zmI,zmI]
   have hkk:=key [p.s,q.s] (fun j hj=>by
    show(zkC S 43 s q.s y id i).2.cell j=_
    rw[e4]
    show(znF S id i jd y.toNat).cell j=_
    unfold znF;rw[zmr _ (fun e=>hj q.s (by simp) (by rw[e];exact d1)),zmr _ (fun e=>hj p.s (by simp) (by rw[e];exact a1))]) (zoj gM (t:=p) (by simp)) (fun hlk=>by
    show zk6 (zkC S 43 s q.s y id i).2 43 q=(y,0)
    rw[<-b2'];exact zrO hlk q (zoj gM (t:=q) (by simp))) (by
    show i<((zkC S 43 s q.s y id i).2.cell id).length
    rw[e4]
    show i<((znF S id i jd y.toNat).cell id).length
    rw[hlen];exact a7)
   show zlp (zkC S 43 s q.s y id i).2 _=_
   refine hkk.trans ?_
   show zkC (zkC S 43 s q.s y id i).2 43 s q.s y id i=(0,S)
   rw[e4];dsimp only;have hnq:(znF S id i jd y.toNat).num q.s=some jd:=d1;unfold zkC;rw[if_neg (by decide),if_pos rfl,hnq];dsimp only;rw[hlen,if_pos hy2,zu1 S a7 (by omega)]
  ·cases h0'
 ·have hk40:¬ (k=40\/k=41\/k=42):=by omega
  have hk43:k≠43:=by omega
  rw[if_neg hk40,if_neg hk43] at hr;have xm:∀ (S':ST) k',44<=k'/\k'<=49->zk6 S' k' nil0=(0,0):=fun S' k' hk'=>by unfold zk6;rw[if_neg (by omega),if_neg (by omega)]
  have hinv:44<=zkL k/\zkL k<=49:=by
   have:k=44\/k=45\/k=46\/k=47\/k=48\/k=49:=by omega
   rcases this with rfl|rfl|rfl|rfl|rfl|rfl<;>decide
  have hy0:y=0:=by
   have:zk6 S k nil0=(y,0):=b2;rw[xm S k hk] at this;injection this with this;exact this.symm
  by_cases hk2:k=44\/k=45
  ·rw[if_pos hk2] at hr
   split at hr
   ·cases hr
   rename_i gM;simp only[Bool.not_eq_true] at gM;obtain⟨af,d1,d2⟩:=zu3 h hf hk2;have hne:id≠af:=a2.ne d2 h a3;have kv:zkL k=44\/zkL k=45:=by rcases hk2 with rfl|rfl<;>decide
   have e3:∀ (S':ST) k',(k'=44\/k'=45)->S'.num s=some af->zkC S' k' s nil0.s y id i=zlH S' k' id i af:=fun S' k' hk' hn=>by
    unfold zkC;rw[if_neg (by omega),if_neg (by omega),if_pos hk',hn]
   have e4:zkC S k s nil0.s y id i=zlH S k id i af:=e3 S k hk2 d1;have h0':(zkC S k s nil0.s y id i).1=0:=h0;rw[e4] at h0';have ek:∀ j,j≠id->j≠af->(zlH S k id i af).2.cell j=S.cell j:=fun j h1 h2=>by
    unfold zlH
    repeat' split
    all_goals first|rfl|(show((S.setL af _).put id i _).cell j=_;rw[zmr _ h1,zlS _ h2])|(show((S.put id i _).setL af _).cell j=_;rw[zlS _ h2,zmr _ h1])
   have hlen:((zlH S k id i af).2.cell id).length=(S.cell id).length:=by
    unfold zlH
    repeat' split
    all_goals first|rfl|(show(((S.setL af _).put id i _).cell id).length=_;rw[zmI,zlS _ hne])|(show(((S.put id i _).setL af _).cell id).length=_;rw[zlS _ hne,zmI])
   have hkk:=key [p.s,s] (fun j hj=>by
    show(zkC S k s nil0.s y id i).2.cell j=_
    rw[e4];exact ek j (fun e=>hj p.s (by simp) (by rw[e];exact a1)) (fun e=>hj s (by simp) (by rw[e];exact d1))) (zoj gM (t:=p) (by simp)) (fun _=>by rw[hy0];exact xm _ _ hinv) (by
    show i<((zkC S k s nil0.s y id i).2.cell id).length
    rw[e4,hlen];exact a7)
   show zlp (zkC S k s nil0.s y id i).2 _=_
   refine hkk.trans ?_
   show zkC (zkC S k s nil0.s y id i).2 (zkL k) s nil0.s y id i=(0,S)
   have hfr:=(zty S k id i af)
   have hn2:(zlH S k id i af).2.num s=some af:=by
    unfold ST.num ST.cur;rw[hfr.1,hfr.2.1];exact d1
   rw[e4,e3 _ _ kv hn2];exact zuq hk2 hne a7 (h.cells af (d2.lt h)).1 h0'
  ·have hk3:46<=k/\k<=49:=by omega
   rw[if_neg hk2,if_pos hk3] at hr
   split at hr
   ·cases hr
   rename_i gM;simp only[Bool.not_eq_true] at gM;have hk4:k=46\/k=47\/k=48\/k=49:=by omega
   have kv:46<=zkL k/\zkL k<=49:=by rcases hk4 with rfl|rfl|rfl|rfl<;>decide
   have e3:∀ (S':ST) k',(46<=k'/\k'<=49)->zkC S' k' s nil0.s y id i=zkt S' k' id i:=fun S' k' hk'=>by
    unfold zkC;rw[if_neg (by omega),if_neg (by omega),if_neg (by omega)]
   have e4:zkC S k s nil0.s y id i=zkt S k id i:=e3 S k hk3;have h0':(zkC S k s nil0.s y id i).1=0:=h0;rw[e4] at h0';have ek:∀ j,j≠id->(zkt S k id i).2.cell j=S.cell j:=fun j h1=>by
    unfold zkt
    repeat' split
    all_goals first|rfl|exact zmr (S:={ S with tin:=_ }) h1 _ _|exact zmr (S:={ S with tout:=_ }) h1 _ _
   have hlen:((zkt S k id i).2.cell id).length=(S.cell id).length:=by
    unfold zkt
    repeat' split
    all_goals first|rfl|exact zmI (S:={ S with tin:=_ }) _ _ _ _|exact zmI (S:={ S with tout:=_ }) _ _ _ _
   have hkk:=key [p.s] (fun j hj=>by
    show(zkC S k s nil0.s y id i).2.cell j=_
    rw[e4];exact ek j (fun e=>hj p.s (by simp) (by rw[e];exact a1))) (zoj gM (t:=p) (by simp)) (fun _=>by rw[hy0];exact xm _ _ hinv) (by
    show i<((zkC S k s nil0.s y id i).2.cell id).length
    rw[e4,hlen];exact a7)
   show zlp (zkC S k s nil0.s y id i).2 _=_
   refine hkk.trans ?_
   show zkC (zkC S k s nil0.s y id i).2 (zkL k) s nil0.s y id i=(0,S)
   rw[e4,e3 _ _ kv];exact zsk h hk4 a7 h0'
theorem ztF (k:Int):zkL (zkL k)=k:=by
 by_cases h:k=40\/k=41\/k=44\/k=45\/k=46\/k=47\/k=48\/k=49
 ·rcases h with rfl|rfl|rfl|rfl|rfl|rfl|rfl|rfl<;>rfl
 ·have e:zkL k=k:=by
   unfold zkL;rw[if_neg (by omega),if_neg (by omega),if_neg (by omega),if_neg (by omega),if_neg (by omega),if_neg (by omega),if_neg (by omega),if_neg (by omega)]
  rw[e,e]
theorem zxn (h:S.WF) (hnd:S.cur.cs.Nodup) {t:T} (hr:rejE t=0) (h0:(zlp S t).1=0):doE (zlp S t).2 t=(0,S):=by
 obtain⟨k,n,s,ks⟩:=t;have h0':(doE S (.nd (zkL k) n s ks)).1=0:=h0;obtain⟨hs,gU,hb,-,-⟩:=zwn h0';have hb:basB (zkL k)=true:=hb;have hkk:=ztF k;have hr':rejE (.nd (zkL k) n s ks)=0:=by
  have hbk:basB k=true:=by
   have:=(zwD hb).1;rw[hkk] at this;exact this
  have hrange:=of_decide_eq_true hbk;rw[zl4] at hr ⊢;have:k=40\/k=41\/k=42\/k=43\/k=44\/k=45\/k=46\/k=47\/k=48\/k=49:=by omega
  rcases this with rfl|rfl|rfl|rfl|rfl|rfl|rfl|rfl|rfl|rfl<;>exact hr
 have:=ztT h hnd hr' h0'
 show doE (doE S (.nd (zkL k) n s ks)).2 (.nd k n s ks)=(0,S)
 have e:zlp (doE S (.nd (zkL k) n s ks)).2 (.nd (zkL k) n s ks)=doE (doE S (.nd (zkL k) n s ks)).2 (.nd k n s ks):=by
  show doE _ (.nd (zkL (zkL k)) n s ks)=_
  rw[hkk]
 rw[<-e];exact this
end
end Go.Proofs.YtckhofdinldhpaaGreat
