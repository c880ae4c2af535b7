/-
  Texts of the proof, put together without their remarks: Cz, Scf, Scp, ScA, ScC, RgI, Rf, Wp, Cal, ScR, Fa, Ce.
-/
import Derived.Test.YthjinpodhacleaaGreatR2
import Derived.Laws.Closers25b
import Derived.Deep.Cut
import Derived.ArgAppend
import Derived.RangeFuncNested
import Derived.RangeFuncBound
import Derived.RangeFuncCalls
import Derived.RangeFuncLeaves
import Derived.OwnWalkIn
import Derived.TacticsInMore
import Derived.LoopNIn
import Derived.LoopIn
import Derived.OrdersIn
import Derived.BigQuiet
import Derived.Deep.RegionLaw
set_option linter.unusedSimpArgs false
set_option linter.unusedVariables false
set_option maxHeartbeats 8000000
set_option maxRecDepth 100000
namespace Go.Proofs.YthjinpodhacleaaGreat
open Tryz
section
open Go Go.RowKit
def zza(w:World)(e:Ending)(w':World):Prop:=∃k n s A l c,e=.returned (nv k n s A l c)/\Below w.heap.size w w'
theorem zzT(k n:Int)(w:World):(Instr.build 28 #[(0,.int .u8 k),(1,.int .i64 n)]).run prog w=.ok (nv k n ⟨#[]⟩ none 0 0) w:=by kernel_rfl
theorem zls(v:Int)(hv:0<=v)(w:World):Calls prog 178 #[.int .i64 v] w (zza w):=by
 have hd:decide (0<=v)=true:=decide_eq_true hv;have hb:=zzT;go_enter func178,ntmps178;go_wp2_with fail;(try simp only[Exit.inBlock,Exit.then]);refine bodyPost_ret (v:=nv 1 v ⟨#[]⟩ none 0 0) (by simp[results,results178,go_sem]) rfl ⟨_,_,_,_,_,_,rfl,zkb zr _⟩
theorem zrf(v:Int)(hv : -9223372036854775808<=v/\v<=9223372036854775807)(w:World):Calls prog 178 #[.int .i64 v] w (zza w):=by
 by_cases h0:0<=v
 ·exact zls v h0 w
 ·have hd:decide (0<=v)=false:=decide_eq_false h0;have hb:=zyU;have hb2:=zyR;have hb1:=zu0;by_cases hm:v = -9223372036854775808
  ·subst hm;go_enter func178,ntmps178;go_wp2_with fail;refine(zls _ (by omega) _).mono ?_;rintro e w1 ⟨k1,n1,s1,A1,l1,c1,rfl,b1⟩;have b1':Below w.heap.size w w1:=zka (zkb zr _) b1;go_wp2_with fail;refine(zls _ (by omega) _).mono ?_;rintro e w2 ⟨k2,n2,s2,A2,l2,c2,rfl,b2⟩;have b2':=zka b1' b2;have hbx:w2.heap[w.heap.size]?=some (.cells #[.int .u8 0,.int .i64 0,.string ⟨#[]⟩,.slice none 0 0] 28 (0,0)):=((b2.block _ (by have:=b1.size;simp at this;omega)).trans (b1.block _ (by simp))).trans (heap_alloc_new w _);obtain⟨m0,m1,m2,m3⟩:=box4 hbx;have f0:∀i,w2.frozen? ⟨w.heap.size,i,none⟩=false:=fun i=>zf hbx;have hlt:=zkf hbx;have hne:¬ w.heap.size=w2.heap.size:=by omega
   have hne2:¬ w2.heap.size=w.heap.size:=by omega
   clear hbx;go_wp2_with fail;(try simp only[Exit.inBlock,Exit.then]);refine bodyPost_ret (v:=nv 8 0 ⟨#[]⟩ (some ⟨w2.heap.size,0,none⟩) 2 2) (by simp[results,results178,go_sem,m0,m1,m2,m3,hne,hne2,hlt]) rfl ⟨_,_,_,_,_,_,rfl,zkb ((((b2'.setCell (by simp) _).setCell (by simp) _).setCell (by simp) _).setCell (by simp) _) _⟩
  ·have hm':(v == -9223372036854775808)=false:=by simpa using hm
   go_enter func178,ntmps178;go_wp2_with fail;refine(zls _ (by omega) _).mono ?_;rintro e w1 ⟨k1,n1,s1,A1,l1,c1,rfl,b1⟩;have b1':Below w.heap.size w w1:=zka (zkb zr _) b1;have hbx:w1.heap[w.heap.size]?=some (.cells #[.int .u8 0,.int .i64 0,.string ⟨#[]⟩,.slice none 0 0] 28 (0,0)):=(b1.block _ (by simp)).trans (heap_alloc_new w _);obtain⟨m0,m1,m2,m3⟩:=box4 hbx;have f0:∀i,w1.frozen? ⟨w.heap.size,i,none⟩=false:=fun i=>zf hbx;have hlt:=zkf hbx;have hne:¬ w.heap.size=w1.heap.size:=by omega
   have hne2:¬ w1.heap.size=w.heap.size:=by omega
   clear hbx;go_wp2_with fail;(try simp only[Exit.inBlock,Exit.then]);refine bodyPost_ret (v:=nv 6 0 ⟨#[]⟩ (some ⟨w1.heap.size,0,none⟩) 1 1) (by simp[results,results178,go_sem,m0,m1,m2,m3,hne,hne2,hlt]) rfl ⟨_,_,_,_,_,_,rfl,zkb ((((b1'.setCell (by simp) _).setCell (by simp) _).setCell (by simp) _).setCell (by simp) _) _⟩
theorem zl0(b:Bool):I64 (numI b):=by cases b<;>simp[numI,I64]
theorem zmp(x:Int):I64 (wrap64 x):=by unfold I64 wrap64;omega
theorem zrs(op:BinOp)(a b:Int):I64 (bits op .i64 a b):=⟨bits_lo_i64 _ _ _,bits_hi_i64 _ _ _⟩
theorem zxY{x y:Int}(hx:I64 x):I64 (x.tmod y):=by
 have h:(x.tmod y).natAbs<=x.natAbs:=by rw[Int.natAbs_tmod];exact Nat.mod_le _ _
 have hs:0<=x->0<=x.tmod y:=fun h0=>Int.tmod_nonneg y h0;have hn:x<=0->x.tmod y<=0:=fun h0=>by
  have h1:=Int.tmod_nonneg (a := -x) y (by omega);rw[Int.neg_tmod]at h1;omega
 unfold I64 at *
 omega
theorem zuP{k x y:Int}(hx:I64 x):I64 (divE k x y).1:=by
 unfold divE
 split
 ·simp[I64]
 ·split
  ·exact zmp _
  ·exact zxY hx
theorem zzk{k x:Int}:I64 (unE k x).1:=by
 unfold unE
 split
 ·exact zmp _
 ·exact zl0 _
theorem zz1{k x y:Int}(hx:I64 x):I64 (apE k x y).1:=by
 unfold apE;by_cases h:k=8
 ·rw[if_pos h];dsimp only;exact zmp _
 rw[if_neg h];clear h;by_cases h:k=9
 ·rw[if_pos h];dsimp only;exact zmp _
 rw[if_neg h];clear h;by_cases h:k=10
 ·rw[if_pos h];dsimp only;exact zmp _
 rw[if_neg h];clear h;by_cases h:k=11
 ·rw[if_pos h];exact zuP hx
 rw[if_neg h];clear h;by_cases h:k=12
 ·rw[if_pos h];exact zuP hx
 rw[if_neg h];clear h;by_cases h:k=13
 ·rw[if_pos h];dsimp only;exact zrs _ _ _
 rw[if_neg h];clear h;by_cases h:k=14
 ·rw[if_pos h];dsimp only;exact zrs _ _ _
 rw[if_neg h];clear h;by_cases h:k=15
 ·rw[if_pos h];dsimp only;exact zrs _ _ _
 rw[if_neg h];clear h;by_cases h:k=16
 ·rw[if_pos h];dsimp only;exact zl0 _
 rw[if_neg h];clear h;by_cases h:k=17
 ·rw[if_pos h];dsimp only;exact zl0 _
 rw[if_neg h];clear h;by_cases h:k=18
 ·rw[if_pos h];dsimp only;exact zl0 _
 rw[if_neg h];clear h;by_cases h:k=19
 ·rw[if_pos h];dsimp only;exact zl0 _
 rw[if_neg h];clear h;by_cases h:k=20
 ·rw[if_pos h];dsimp only;exact zl0 _
 rw[if_neg h];clear h;by_cases h:k=21
 ·rw[if_pos h];dsimp only;exact zl0 _
 rw[if_neg h];clear h;by_cases h:k=22
 ·rw[if_pos h];dsimp only;exact zl0 _
 rw[if_neg h];clear h;by_cases h:k=23
 ·rw[if_pos h];dsimp only;exact zl0 _
 rw[if_neg h];clear h;exact zl0 false
structure FO where
 v:Int
 c:Bool
def Fo6(w:World)(p:Addr)(f:FO):Prop:=∃k n s A l c,w.cell? p=some (.int .u8 k)/\w.cell? ⟨p.block,p.off+1,none⟩=some (.int .i64 n)/\w.cell? ⟨p.block,p.off+2,none⟩=some (.string s)/\w.cell? ⟨p.block,p.off+3,none⟩=some (.slice A l c)/\w.cell? ⟨p.block,p.off+4,none⟩=some (.int .i64 f.v)/\w.cell? ⟨p.block,p.off+5,none⟩=some (.bool f.c)
def RowF(w:World)(S:Nat->Prop)(A:Option Addr)(fs:List FO):Prop :=
 ∀i (hi:i<fs.length),∃a:Addr,A=some a/\S a.block/\Fo6 w (a.add (i*6)) fs[i]/\I64 fs[i].v
def valE(k n:Int)(fs:List FO):FO :=
 if fs.all (·.c)then
  if k=1 then⟨n,true⟩else if 2<=k/\k<=5 then⟨0,false⟩else
  if k=6\/k=7 then⟨(unE k (fs[0]?.elim 0 (·.v))).1,(unE k (fs[0]?.elim 0 (·.v))).2==0⟩else
  ⟨(apE k (fs[0]?.elim 0 (·.v)) (fs[1]?.elim 0 (·.v))).1,(apE k (fs[0]?.elim 0 (·.v)) (fs[1]?.elim 0 (·.v))).2==0⟩
 else⟨0,false⟩
def nrm(f:FO):FO:=if f.c=true then f else⟨0,false⟩
mutual
/-- Value and constancy of a folded tree. -/
def zlF:T->FO
 | .nd k n _ ks=>nrm (valE k n (zqw ks))
def zqw:List T->List FO
 | []=>[]
 | t::ts=>zlF t::zqw ts
end
theorem zo9:∀ks:List T,zqw ks=ks.map zlF
 | []=>by simp[zqw]
 | t::ts=>by simp[zqw,zo9 ts]
theorem RowF.later{w w':World}{S:Nat->Prop}{A:Option Addr}{fs:List FO}(h:RowF w S A fs)(hb:Below w.heap.size w w'):RowF w' S A fs:=fun i hi=>by
 obtain⟨a,h1,h2,⟨k,n,s,A',l,c,q0,q1,q2,q3,q4,q5⟩,h4⟩:=h i hi;have kp:∀ {p:Addr} {v:Value},w.cell? p=some v->w'.cell? p=some v:=fun {p v} hq=>zkM hq (hb.block _ (World.block_lt_of_cell? w _ hq));exact⟨a,h1,h2,⟨k,n,s,A',l,c,kp q0,kp q1,kp q2,kp q3,kp q4,kp q5⟩,h4⟩
theorem RowF.nd{w:World}{S:Nat->Prop}{A:Option Addr}{fs:List FO}(h:RowF w S A fs){i:Nat}(hi:i<fs.length):∃(a:Addr) (f:FO),A=some a/\Hid (fs[i]=f)/\Fo6 w (a.add (i*6)) f/\I64 f.v :=
 let ⟨a,h1,_,h3,h4⟩:=h i hi;⟨a,fs[i],h1,rfl,h3,h4⟩
theorem zsX(t:T)(fs:List FO)(A:Option Addr)(c:Nat)(S:Nat->Prop)(v:Value)(w:World)(hv:NV w Any t v)(hrow:RowF w S A fs)(hl:fs.length<=100000)(h1:t.k=6\/t.k=7->1<=fs.length)(h2:8<=t.k->t.k<=23/\2<=fs.length)(h0:1<=t.k) :
  Calls prog 177 #[v,.slice A fs.length c] w fun e w'=>e=.returned (.tuple #[.int .i64 (valE t.k t.n fs).v,.bool (valE t.k t.n fs).c])/\Below w.heap.size w w':=by
 obtain⟨B,tc,rfl,hf,hlk,-,-⟩:=hv.open_;obtain⟨k,hk⟩:=zX (t.k);obtain⟨n,hn⟩:=zX (t.n);obtain⟨s,hs⟩:=zX (t.s);obtain⟨l,hlks⟩:=zX (t.ks.length);rw[hk,hn,hs,hlks];rw[hk]at h0 h1 h2;clear hv hf hlk hk hn hs hlks;obtain⟨F,hF⟩:=zX (valE k n fs);rw[hF];have HF:=zh hF;have ae:=zh hrow;have H1:=zh h1;have H2:=zh h2;clear hF hrow h1 h2;go_enter func177,ntmps177;go_wp2_with fail
 go_loopw [12] (fun i wr=>∃j:Nat,j<=fs.length/\i=.int .i64 j/\(fs.take j).all (·.c)=true/\Below w.heap.size w wr/\wr.heap[w.heap.size]?=some (.cells #[.int .u8 k,.int .i64 n,.string s,.slice B l tc] 28 (0,0))) (fun i _=>fs.length-(intOf i).toNat)
 case atStart=>exact⟨0,Nat.zero_le _,rfl,by simp,zkb zr _,heap_alloc_new w _⟩
 case round =>
  obtain⟨j,hj,rfl,hall,hbw,hbx⟩:=hrel;have aU:=zh hbw;have aS:=zh hbx;have bR:=zh hall;by_cases hlt:j<fs.length
  ·obtain⟨a,f,rfl,Hf,⟨k1,n1,s1,A1,l1,c1,q0,q1,q2,q3,q4,q5⟩,-⟩:=(ae.out.later hbw).nd hlt;obtain⟨fv,fc⟩:=f;clear hbw hbx hall;dsimp only at q4 q5
   cases fc
   ·go_wp2_with fail;go_ret2;have jD:F=⟨0,false⟩:=by
     rw[<-HF.out,valE,if_neg];intro h;have:=List.all_eq_true.1 h _ (List.getElem_mem hlt);rw[Hf.out]at this
     cases this
    subst jD;exact⟨rfl,zkb aU.out _⟩
   ·go_wp2_with fail
    go_roundw
    case rel=>exact⟨j+1,by omega,by go_num,by rw[List.take_succ_eq_append_getElem hlt,List.all_append,bR.out,Hf.out];rfl,zkb aU.out _,zkd aS.out _⟩
    case measure=>simp[intOf];omega
  ·have hjl:j=fs.length:=by omega
   have hallf:fs.all (·.c)=true:=by have:=bR.out;rwa[hjl,List.take_of_length_le zl]at this
   have hge:¬ ((j:Int)<(fs.length:Int)):=by omega
   have zN:=zh hallf;obtain⟨m0,m1,m2,m3⟩:=box4 hbx;clear hbw hbx hall hallf;by_cases k1:k=1
   ·subst k1;go_wp2_with fail;go_ret2;have jD:F=⟨n,true⟩:=by rw[<-HF.out,valE,if_pos zN.out];simp
    subst jD;exact⟨rfl,aU.out⟩
   ·by_cases k2:k=2\/k=3\/k=4\/k=5
    ·have jD:F=⟨0,false⟩:=by rw[<-HF.out,valE,if_pos zN.out,if_neg k1,if_pos (by omega)]
     subst jD;rcases k2 with rfl|rfl|rfl|rfl
     all_goals (go_wp2_with fail;go_ret2;exact⟨rfl,aU.out⟩)
    ·by_cases k6:k=6\/k=7
     ·have hl1:=H1.out k6;obtain⟨a,f,rfl,Hf,⟨k1',n1',s1',A1',l1',c1',q0,q1,q2,q3,q4,q5⟩,-⟩:=(ae.out.later aU.out).nd (show 0<fs.length by omega);have hfl:(0:Int)<(fs.length:Int):=by omega
      have gG:0<fs.length:=by omega
      have jD:F=⟨(unE k f.v).1,(unE k f.v).2==0⟩:=by
       have e0:fs[0]?=some f:=by rw[List.getElem?_eq_getElem (by omega),Hf.out]
       rw[<-HF.out,valE,if_pos zN.out,if_neg k1,if_neg (by omega),if_pos k6,e0];rfl
      have lU:=zh (zqN k f.v k6);obtain⟨⟨uv,ue⟩,hU⟩:=zX (unE k f.v);rw[hU]at lU jD;dsimp only at lU jD;have zu:=zh jD;clear hU jD;rcases k6 with rfl|rfl
      ·have HS:=zh (show(fun w':World=>zv w' w.heap.size 0 (.int .u8 6)/\zv w' a.block (a.off+4) (.int .i64 f.v)) wr.drew from⟨m0,by simpa[zv,Addr.add_zero']using q4⟩);clear q0 q1 q2 q3 q4 q5;go_upto_region 20 with fail
       go_region_held3 (fun w':World=>zv w' w.heap.size 0 (.int .u8 6)/\zv w' a.block (a.off+4) (.int .i64 f.v))
        (with_reducible exact HS.out)
        (first
         | (go_at_call 186;refine(lU.out _).mono ?_;rintro e x1 ⟨rfl,rfl⟩)
         | fail)
       go_wp2_with fail;go_ret2;exact⟨by rw[zu.out];rfl,aU.out.drew⟩
      ·have HS:=zh (show(fun w':World=>zv w' w.heap.size 0 (.int .u8 7)/\zv w' a.block (a.off+4) (.int .i64 f.v)) wr.drew from⟨m0,by simpa[zv,Addr.add_zero']using q4⟩);clear q0 q1 q2 q3 q4 q5;go_upto_region 20 with fail
       go_region_held3 (fun w':World=>zv w' w.heap.size 0 (.int .u8 7)/\zv w' a.block (a.off+4) (.int .i64 f.v))
        (with_reducible exact HS.out)
        (first
         | (go_at_call 186;refine(lU.out _).mono ?_;rintro e x1 ⟨rfl,rfl⟩)
         | fail)
       go_wp2_with fail;go_ret2;exact⟨by rw[zu.out];rfl,aU.out.drew⟩
     ·have hl2:=H2.out (by omega);have hl2':=hl2.2;obtain⟨a,f,rfl,Hf,⟨k1',n1',s1',A1',l1',c1',q0,q1,q2,q3,q4,q5⟩,-⟩:=(ae.out.later aU.out).nd (show 0<fs.length by omega);obtain⟨a',f',ea,Hf',⟨k2',n2',s2',A2',l2',c2',y0,y1,y2,y3,y4,y5⟩,-⟩:=(ae.out.later aU.out).nd (show 1<fs.length by omega);injection ea with ea;subst ea;have hfl:(0:Int)<(fs.length:Int):=by omega
      have gG:0<fs.length:=by omega
      have sP:(1:Int)<(fs.length:Int):=by omega
      have sO:1<fs.length:=by omega
      have jD:F=⟨(apE k f.v f'.v).1,(apE k f.v f'.v).2==0⟩:=by
       have e0:fs[0]?=some f:=by rw[List.getElem?_eq_getElem (by omega),Hf.out]
       have e1:fs[1]?=some f':=by rw[List.getElem?_eq_getElem (by omega),Hf'.out]
       rw[<-HF.out,valE,if_pos zN.out,if_neg k1,if_neg (by omega),if_neg k6,e0,e1];rfl
      have lU:=zh (zqS k f.v f'.v (by omega));obtain⟨⟨uv,ue⟩,hU⟩:=zX (apE k f.v f'.v);rw[hU]at lU jD;dsimp only at lU jD;have zu:=zh jD;have x1:(k==1)=false:=by simp;omega
      have x2:(k==2)=false:=by simp;omega
      have x3:(k==3)=false:=by simp;omega
      have x4:(k==4)=false:=by simp;omega
      have x5:(k==5)=false:=by simp;omega
      have x6:(k==6)=false:=by simp;omega
      have x7:(k==7)=false:=by simp;omega
      have HS:=zh (show(fun w':World=>zv w' w.heap.size 0 (.int .u8 k)/\zv w' a.block (a.off+4) (.int .i64 f.v)/\zv w' a.block (a.off+6+4) (.int .i64 f'.v)) wr.drew from⟨m0,by simpa[zv,Addr.add_zero']using q4,by simpa[zv,Addr.add]using y4⟩);clear hU jD q0 q1 q2 q3 q4 q5 y0 y1 y2 y3 y4 y5 k1 k2 k6;go_upto_region 10 with fail
      go_region_held3 (fun w':World=>zv w' w.heap.size 0 (.int .u8 k)/\zv w' a.block (a.off+4) (.int .i64 f.v)/\zv w' a.block (a.off+6+4) (.int .i64 f'.v))
       (with_reducible exact HS.out)
       (first
        | (go_at_call 187;refine(lU.out _).mono ?_;rintro e x1 ⟨rfl,rfl⟩)
        | fail)
      go_wp2_with fail;go_ret2;exact⟨by rw[zu.out];rfl,aU.out.drew⟩
end
section
open Go.RowKit
def zlo:List VD->ByteArray->Option VD
 | [],_=>none
 | v::vs,s=>match zlo vs s with
  | some u=>some u
  | none=>if v.s.toList=s.toList then some v else none
theorem zsT(vs:List VD)(v:VD)(s:ByteArray):zlo (vs++[v]) s=if v.s.toList=s.toList then some v else zlo vs s:=by
 induction vs with
 | nil=>simp only[List.nil_append,zlo]
 | cons u us ih =>
  simp only[List.cons_append,zlo];rw[ih];by_cases h:v.s.toList=s.toList
  ·rw[if_pos h,if_pos h]
  ·rw[if_neg h,if_neg h]
theorem zph{vs:List VD}{j:Nat}(h:j<vs.length)(s:ByteArray):zlo (vs.take (j+1)) s=if vs[j].s.toList=s.toList then some vs[j]else zlo (vs.take j) s:=by
 rw[List.take_succ_eq_append_getElem h,zsT]
abbrev fdV(v:Option VD):Value:=match v with
 | some v=>.tuple #[.agg #[.string v.s,.int .u8 v.k,.int .i64 v.n],.bool true]
 | none=>.tuple #[.agg #[.string ⟨#[]⟩,.int .u8 0,.int .i64 0],.bool false]
theorem zwW(w:World):(Instr.build 38 #[]).run prog w=.ok (.agg #[.string ⟨#[]⟩,.int .u8 0,.int .i64 0]) w:=by kernel_rfl
theorem zn4(vs:List VD)(A:Option Addr)(c:Nat)(s:ByteArray)(S:Nat->Prop)(w:World)(hrow:RowV w S A vs)(hl:vs.length<=LV) :
  Calls prog 85 #[.slice A vs.length c,.string s] w fun e w'=>e=.returned (fdV (zlo vs s))/\Below w.heap.size w w':=by
 have hl':=zkW hl;have ae:=zh hrow;obtain⟨R,hR⟩:=zX (zlo vs s);rw[hR];have HR:=zh hR;clear hrow hl hR;have hb:=zwW;go_enter func85,ntmps85;go_wp2_with fail;have hr0:(w.alloc (.cells #[.string ⟨#[]⟩,.int .u8 0,.int .i64 0] 38)).heap[w.heap.size]?=some (.cells #[.string ⟨#[]⟩,.int .u8 0,.int .i64 0] 38 (0,0)):=heap_alloc_new w _;have hbl:Below w.heap.size w (w.alloc (.cells #[.string ⟨#[]⟩,.int .u8 0,.int .i64 0] 38)):=zr.alloc zl _;have af:=zh hbl;clear hr0 hbl
 go_loopw [6] (fun i wr=>∃j:Nat,j<=vs.length/\i=.int .i64 ((j:Int)-1)/\wr=w.alloc (.cells #[.string ⟨#[]⟩,.int .u8 0,.int .i64 0] 38)/\Hid (zlo (vs.take j) s=R)) (fun i _=>((intOf i)+1).toNat)
 case atStart=>exact⟨vs.length,zl,by first|rfl|simp,by first|rfl|trivial,by rw[List.take_of_length_le zl];exact HR⟩
 case round =>
  obtain⟨j,hj,rfl,rfl,HJ⟩:=hrel;rcases j with _|m
  ·have e0:((0:Nat):Int)-1 = -1:=by omega
   rw[e0];have HN:=zh (show R=none by have:=HJ.out;simp[zlo]at this;exact this.symm);clear e0 HJ;go_wp2_with fail;exact bodyPost_ret (v:=fdV none) (by simp[results,results85,go_sem]) rfl ⟨by rw[HN.out],af.out⟩
  ·rw[show((m+1:Nat):Int)-1=(m:Int) by omega];obtain⟨a,v,rfl,_,Hv,⟨q0,q1,q2⟩,hfv⟩:=(ae.out.later af.out).nd (i:=m) (by omega);have hm:m<vs.length:=by omega
   have hx:=HJ.out;rw[zph hm,Hv.out]at hx;have HX:=zh hx;clear hx HJ;by_cases hs:v.s.toList=s.toList
   ·have HN:=zh (show R=some v by have:=HX.out;rw[if_pos hs]at this;exact this.symm);have e1:(v.s.toList==s.toList)=true:=by simpa using hs
    have nU:=zh (show Below w.heap.size w (w.alloc (.cells #[.string v.s,.int .u8 v.k,.int .i64 v.n] 38))from zr.alloc zl _);clear hs;go_wp2_with fail;exact bodyPost_ret (v:=fdV (some v)) (by simp[results,results85,go_sem]) rfl ⟨by rw[HN.out],nU.out⟩
   ·have e1:(v.s.toList==s.toList)=false:=by simpa using hs
    have HN:=zh (show zlo (vs.take m) s=R by have:=HX.out;rw[if_neg hs]at this;exact this);clear hs;go_wp2_with fail
    go_roundw
    case rel=>exact⟨m,by omega,by first|rfl|go_num,by first|rfl|trivial,HN⟩
    case measure=>simp[intOf]
def zmw(vs:List VD)(s:ByteArray):Int:=if (zlo vs s).isSome then 22 else 0
def useE(vs:List VD)(s:ByteArray)(k:Int):Int:=match zlo vs s with
 | none=>6
 | some v=>if v.k=k then 0 else 7
theorem zoo(vs:List VD)(A:Option Addr)(c:Nat)(s:ByteArray)(S:Nat->Prop)(w:World)(hrow:RowV w S A vs)(hl:vs.length<=LV) :
  Calls prog 56 #[.slice A vs.length c,.string s] w fun e w'=>e=.returned (.int .i64 (zmw vs s))/\Below w.heap.size w w':=by
 have ae:=zh hrow;have HL:=zh hl;obtain⟨E,hE⟩:=zX (zmw vs s);rw[hE];have HE:=zh hE;clear hrow hl hE;go_enter func56,ntmps56;go_wp2_with fail;refine(zn4 vs A c s S _ ae.out HL.out).mono ?_;rintro e w1 ⟨rfl,aa⟩
 cases hf:zlo vs s with
 | none =>
  have HN:=zh (show E=0 by rw[<-HE.out];simp[zmw,hf]);have HB:=zh (show Below w.heap.size w (w1.alloc (.cells #[.string ⟨#[]⟩,.int .u8 0,.int .i64 0] 38))from aa.alloc aa.size _);clear hf aa;go_wp2_with fail;go_ret;exact⟨by rw[HN.out];rfl,HB.out⟩
 | some v =>
  have HN:=zh (show E=22 by rw[<-HE.out];simp[zmw,hf]);have HB:=zh (show Below w.heap.size w (w1.alloc (.cells #[.string v.s,.int .u8 v.k,.int .i64 v.n] 38))from aa.alloc aa.size _);clear hf aa;go_wp2_with fail;go_ret;exact⟨by rw[HN.out];rfl,HB.out⟩
theorem znp(vs:List VD)(A:Option Addr)(c:Nat)(s:ByteArray)(k:Int)(S:Nat->Prop)(w:World)(hrow:RowV w S A vs)(hl:vs.length<=LV) :
  Calls prog 114 #[.slice A vs.length c,.string s,.int .u8 k] w fun e w'=>e=.returned (.int .i64 (useE vs s k))/\Below w.heap.size w w':=by
 have ae:=zh hrow;have HL:=zh hl;obtain⟨E,hE⟩:=zX (useE vs s k);rw[hE];have HE:=zh hE;clear hrow hl hE;go_enter func114,ntmps114;go_wp2_with fail;refine(zn4 vs A c s S _ ae.out HL.out).mono ?_;rintro e w1 ⟨rfl,aa⟩
 cases hf:zlo vs s with
 | none =>
  have HN:=zh (show E=6 by rw[<-HE.out];simp[useE,hf]);have HB:=zh (show Below w.heap.size w (w1.alloc (.cells #[.string ⟨#[]⟩,.int .u8 0,.int .i64 0] 38))from aa.alloc aa.size _);clear hf aa;go_wp2_with fail;go_ret;exact⟨by rw[HN.out];rfl,HB.out⟩
 | some v =>
  obtain⟨vm,vk,vl⟩:=v;have HB2:=zh (show Below w.heap.size w (w1.alloc (.cells #[.string vm,.int .u8 vk,.int .i64 vl] 38))from aa.alloc aa.size _);have HN:=zh (show E=if vk=k then 0 else 7 by rw[<-HE.out];simp[useE,hf]);clear hf aa;by_cases hk:vk=k
  ·have e1:(vk==k)=true:=by simpa using hk
   have e2:(vk != k)=false:=by simpa using hk
   have aG:=zh (show E=0 by rw[HN.out,if_pos hk]);clear hk;go_wp2_with fail;go_ret;exact⟨by rw[aG.out];rfl,HB2.out⟩
  ·have e1:(vk==k)=false:=by simpa using hk
   have e2:(vk != k)=true:=by simpa using hk
   have aG:=zh (show E=7 by rw[HN.out,if_neg hk]);clear hk;go_wp2_with fail;go_ret;exact⟨by rw[aG.out];rfl,HB2.out⟩
def idxP(ps:List PR)(s:ByteArray):Option Nat:=ps.findIdx? fun r=>r.s.toList==s.toList
def zlA(ps:List PR)(s:ByteArray):Int:=match idxP ps s with
 | some i=>i
 | none => -1
theorem zvg(rs:ByteArray)(u1 u2 u3 u4 u5:Value)(s:ByteArray)(nb:Nat)(w:World)(hc:w.cell? ⟨nb,0,none⟩=some (.string s)) :
  Calls prog 87 #[.agg #[.string rs,u1,u2,u3,u4,u5],.pointer (some ⟨nb,0,none⟩)] w fun e w'=>e=.returned (.bool (rs.toList==s.toList))/\Below w.heap.size w w':=by
 have hc':=zkj hc;go_enter func87,ntmps87;go_wp2_with fail;go_ret;exact⟨rfl,zr.alloc zl _⟩
theorem zoQ(ps:List PR)(A:Option Addr)(c:Nat)(s:ByteArray)(nb:Nat)(S:Nat->Prop)(w:World)(hrow:RowP w S A ps)(hl:ps.length<=LV)(hc:w.cell? ⟨nb,0,none⟩=some (.string s)) :
  Calls prog 86 #[.slice A ps.length c,.func (.func 87) #[] #[.pointer (some ⟨nb,0,none⟩)]] w fun e w'=>e=.returned (.int .i64 (zlA ps s))/\Below w.heap.size w w':=by
 have hl':=zkW hl;have ae:=zh hrow;have HC:=zh hc;obtain⟨R,hR⟩:=zX (zlA ps s);rw[hR];have HR:=zh hR;clear hrow hl hc hR;go_enter func86,ntmps86;go_wp2_with fail
 go_loopw [8] (fun i wr=>∃j:Nat,j<=ps.length/\i=.int .i64 j/\Below w.heap.size w wr/\Hid (∀q (h:q<ps.length),q<j->(ps[q].s.toList==s.toList)=false)) (fun i _=>ps.length-(intOf i).toNat)
 case atStart=>exact⟨0,Nat.zero_le _,rfl,zr,zh fun q _ h=>by omega⟩
 case round =>
  obtain⟨j,hj,rfl,hbl,HJ⟩:=hrel;by_cases hlt:j<ps.length
  ·obtain⟨a,r,B1,f1,B2,f2,rfl,_,Hr,⟨q0,q1,q2,q3,q4,q5⟩,-⟩:=(ae.out.later hbl).nd hlt;obtain⟨b,hb⟩:=zX ((r.s.toList==s.toList));have HB:=zh hb;clear hb;go_wp2_with fail;refine(zvg r.s _ _ _ _ _ s nb _ (zb hbl HC.out)).mono ?_;rintro e w1 ⟨rfl,aa⟩;rw[HB.out];have af:=zh (zka hbl aa);clear aa q0 q1 q2 q3 q4 q5
   cases b
   ·have HJ2:=zh (show ∀q (h:q<ps.length),q<j+1->(ps[q].s.toList==s.toList)=false from fun q h hq=>by
     by_cases e:q<j
     ·exact HJ.out q h e
     ·obtain rfl:q=j:=by omega
      rw[Hr.out];exact HB.out)
    go_wp2_with fail
    go_roundw
    case rel=>exact⟨j+1,by omega,by go_num,af.out,HJ2⟩
    case measure=>simp[intOf];omega
   ·have HN:=zh (show R=j by
     rw[<-HR.out];have:idxP ps s=some j:=List.findIdx?_eq_some_iff_getElem.2 ⟨hlt,by rw[Hr.out];exact HB.out,fun q hq=>by rw[HJ.out q (by omega) hq];simp⟩;simp[zlA,this])
    go_wp2_with fail;go_ret;exact⟨by rw[HN.out];rfl,af.out⟩
  ·have HN:=zh (show R = -1 by
    rw[<-HR.out];have:idxP ps s=none:=List.findIdx?_eq_none_iff.2 fun r hr=>by
     obtain⟨q,hq,rfl⟩:=List.getElem_of_mem hr;exact HJ.out q hq (by omega)
    simp[zlA,this])
   have af:=zh hbl;clear hbl;go_wp2_with fail;go_ret;exact⟨by rw[HN.out];rfl,af.out⟩
theorem zni(p:PG)(S:Nat->Prop)(v:Value)(s:ByteArray)(w:World)(hv:PV w S p v):Calls prog 57 #[v,.string s] w fun e w'=>e=.returned (.int .i64 (zlA p.prs s))/\Below w.heap.size w w':=by
 obtain⟨A1,c1,A2,c2,A3,c3,rfl,hr⟩:=hv;have HR:=zh hr;obtain⟨L1,hL1⟩:=zX (p.vs.length);rw[hL1];clear hr hL1;go_enter func57,ntmps57;go_wp2_with fail;refine(zoQ p.prs A2 c2 s (w.heap.size+1) S _ (HR.out.procs.later (zkb (zkb zr _) _)) HR.out.lp (by simp)).mono ?_;rintro e w1 ⟨rfl,aa⟩;have HB:=zh (zka (zkb (zkb (zs w) _) _) aa);clear aa;go_wp2_with fail;go_ret;exact⟨rfl,HB.out⟩
def zll(ps:List PR)(k:Int)(s:ByteArray)(l:Nat)(vs:List VD):Int :=
 if k=2 then useE vs s 1 else if k=3 then useE vs s 2 else if k=4\/k=5\/k=44\/k=45 then useE vs s 3 else if k=54\/k=55 then zmw vs s
 else if k=50\/k=51 then(match idxP ps s with
  | none=>6
  | some i=>match ps[i]? with
   | none=>6
   | some r=>if l=r.ps.length then 0 else 7)
 else 0
theorem zuF(p:PG)(t:T)(vs:List VD)(A:Option Addr)(c:Nat)(S S' S'':Nat->Prop)(v1 v2:Value)(w:World)(hv1:PV w S p v1)(hv2:NV w S' t v2)(hrow:RowV w S'' A vs)(hl:vs.length<=LV) :
  Calls prog 88 #[v1,v2,.slice A vs.length c] w fun e w'=>e=.returned (.int .i64 (zll p.prs t.k t.s t.ks.length vs))/\Below w.heap.size w w':=by
 have hvv:=hv1;obtain⟨A1,c1,A2,c2,A3,c3,rfl,hr⟩:=hv1;have cz:=zh hr.procs;have hlp:=zkW hr.lp;obtain⟨L1,hL1⟩:=zX (p.vs.length);obtain⟨L2,hL2⟩:=zX (p.prs.length);obtain⟨k,hk⟩:=zX (p.m.k);obtain⟨n,hn⟩:=zX (p.m.n);obtain⟨s,hs⟩:=zX (p.m.s);obtain⟨l3,hl3⟩:=zX (p.m.ks.length);rw[hL1,hL2,hk,hn,hs,hl3];rw[hL1,hL2,hk,hn,hs,hl3]at hvv;rw[hL2]at hlp;have HL2:=zh hL2;have HV:=zh hvv;clear hr hvv hL1 hL2 hk hn hs hl3;obtain⟨B,tc,rfl,_,hlk,_,_⟩:=hv2.open_;have au:=zkx hlk;have ae:=zh hrow;have HL:=zh hl;clear hrow hl hv2 hlk;generalize t.k=tk,t.n=tn,t.s=ts,t.ks.length=tl at *
 obtain⟨R,hR⟩:=zX (zll p.prs tk ts tl vs);rw[hR];have HR:=zh hR;clear hR;have hb0:∀o o',Below w.heap.size w ((w.alloc o).alloc o'):=fun o o'=>(zr.alloc zl _).alloc (by simp) _;have HB0:=zh hb0;clear hb0;by_cases h2:tk=2
 ·subst h2;have HN:=zh (show R=useE vs ts 1 by rw[<-HR.out];simp[zll]);go_enter func88,ntmps88;go_wp2_with fail;refine(znp vs A c ts 1 S'' _ (ae.out.later (HB0.out _ _)) HL.out).mono ?_;rintro e w1 ⟨rfl,aa⟩;rw[<-HN.out];have HB:=zh (zka (HB0.out _ _) aa);clear aa;go_wp2_with fail;go_ret;exact⟨rfl,HB.out⟩
 have f2:(tk==2)=false:=by simpa using h2
 by_cases h3:tk=3
 ·subst h3;have HN:=zh (show R=useE vs ts 2 by rw[<-HR.out];simp[zll]);go_enter func88,ntmps88;go_wp2_with fail;refine(znp vs A c ts 2 S'' _ (ae.out.later (HB0.out _ _)) HL.out).mono ?_;rintro e w1 ⟨rfl,aa⟩;rw[<-HN.out];have HB:=zh (zka (HB0.out _ _) aa);clear aa;go_wp2_with fail;go_ret;exact⟨rfl,HB.out⟩
 have f3:(tk==3)=false:=by simpa using h3
 by_cases h4:tk=4
 ·subst h4;have HN:=zh (show R=useE vs ts 3 by rw[<-HR.out];simp[zll]);go_enter func88,ntmps88;go_wp2_with fail;refine(znp vs A c ts 3 S'' _ (ae.out.later (HB0.out _ _)) HL.out).mono ?_;rintro e w1 ⟨rfl,aa⟩;rw[<-HN.out];have HB:=zh (zka (HB0.out _ _) aa);clear aa;go_wp2_with fail;go_ret;exact⟨rfl,HB.out⟩
 have f4:(tk==4)=false:=by simpa using h4
 by_cases h5:tk=5
 ·subst h5;have HN:=zh (show R=useE vs ts 3 by rw[<-HR.out];simp[zll]);go_enter func88,ntmps88;go_wp2_with fail;refine(znp vs A c ts 3 S'' _ (ae.out.later (HB0.out _ _)) HL.out).mono ?_;rintro e w1 ⟨rfl,aa⟩;rw[<-HN.out];have HB:=zh (zka (HB0.out _ _) aa);clear aa;go_wp2_with fail;go_ret;exact⟨rfl,HB.out⟩
 have f5:(tk==5)=false:=by simpa using h5
 by_cases uh:tk=44
 ·subst uh;have HN:=zh (show R=useE vs ts 3 by rw[<-HR.out];simp[zll]);go_enter func88,ntmps88;go_wp2_with fail;refine(znp vs A c ts 3 S'' _ (ae.out.later (HB0.out _ _)) HL.out).mono ?_;rintro e w1 ⟨rfl,aa⟩;rw[<-HN.out];have HB:=zh (zka (HB0.out _ _) aa);clear aa;go_wp2_with fail;go_ret;exact⟨rfl,HB.out⟩
 have f44:(tk==44)=false:=by simpa using uh
 by_cases h45:tk=45
 ·subst h45;have HN:=zh (show R=useE vs ts 3 by rw[<-HR.out];simp[zll]);go_enter func88,ntmps88;go_wp2_with fail;refine(znp vs A c ts 3 S'' _ (ae.out.later (HB0.out _ _)) HL.out).mono ?_;rintro e w1 ⟨rfl,aa⟩;rw[<-HN.out];have HB:=zh (zka (HB0.out _ _) aa);clear aa;go_wp2_with fail;go_ret;exact⟨rfl,HB.out⟩
 have f45:(tk==45)=false:=by simpa using h45
 by_cases eG:tk=54
 ·subst eG;have HN:=zh (show R=zmw vs ts by rw[<-HR.out];simp[zll]);go_enter func88,ntmps88;go_wp2_with fail;refine(zoo vs A c ts S'' _ (ae.out.later (HB0.out _ _)) HL.out).mono ?_;rintro e w1 ⟨rfl,aa⟩;rw[<-HN.out];have HB:=zh (zka (HB0.out _ _) aa);clear aa;go_wp2_with fail;go_ret;exact⟨rfl,HB.out⟩
 have f54:(tk==54)=false:=by simpa using eG
 by_cases fw:tk=55
 ·subst fw;have HN:=zh (show R=zmw vs ts by rw[<-HR.out];simp[zll]);go_enter func88,ntmps88;go_wp2_with fail;refine(zoo vs A c ts S'' _ (ae.out.later (HB0.out _ _)) HL.out).mono ?_;rintro e w1 ⟨rfl,aa⟩;rw[<-HN.out];have HB:=zh (zka (HB0.out _ _) aa);clear aa;go_wp2_with fail;go_ret;exact⟨rfl,HB.out⟩
 have f55:(tk==55)=false:=by simpa using fw
 by_cases h50:tk=50
 ·subst h50;have HN:=zh (show R=(match idxP p.prs ts with|none=>6|some i=>match p.prs[i]? with|none=>6|some r=>if tl=r.ps.length then 0 else 7) by rw[<-HR.out];simp[zll]);go_enter func88,ntmps88;go_wp2_with fail;refine(zni p S _ ts _ (HV.out.later (HB0.out _ _))).mono ?_;rintro e w1 ⟨rfl,aa⟩;have hbl:=zka (HB0.out _ _) aa;have hP:=zkc (zkd (heap_alloc_new w (.cells #[.slice A1 L1 c1,.slice A2 L2 c2,.int .u8 k,.int .i64 n,.string s,.slice A3 l3 c3] 30)) _) aa;have hN:=zkc (heap_alloc_new (w.alloc (.cells #[.slice A1 L1 c1,.slice A2 L2 c2,.int .u8 k,.int .i64 n,.string s,.slice A3 l3 c3] 30)) (.cells #[.int .u8 50,.int .i64 tn,.string ts,.slice B tl tc] 28)) aa;simp only[World.size_alloc]at hN
  cases hi:idxP p.prs ts with
  | none =>
   have e1:zlA p.prs ts = -1:=by simp[zlA,hi]
   rw[e1];have aG:=zh (show R=6 by rw[HN.out,hi]);have HB:=zh hbl;clear aa hi e1 hP hN hbl;go_wp2_with fail;go_ret;exact⟨by rw[aG.out];rfl,HB.out⟩
  | some i =>
   have e1:zlA p.prs ts=i:=by simp[zlA,hi]
   rw[e1];have hi2:i<p.prs.length:=(List.findIdx?_eq_some_iff_getElem.1 hi).1;have hiL:i<L2:=by rw[<-HL2.out];exact hi2
   obtain⟨a,r,P1,d1,P2,d2,rfl,_,Hr,⟨_,q1,_⟩,hpr⟩:=(cz.out.later hbl).nd hi2;obtain⟨rl,hrl⟩:=zX (r.ps.length);have hlr:=zkW hpr.lp;rw[hrl]at q1 hlr;have aG:=zh (show R=if tl=rl then 0 else 7 by rw[HN.out,hi];simp only;rw[List.getElem?_eq_getElem hi2,Hr.out,<-hrl]);obtain⟨a0,a1,a2,a3,a4,a5⟩:=box6 hP;obtain⟨b0,b1,b2,b3⟩:=box4 hN;have HB:=zh hbl;clear aa hi e1 hP hN hbl hrl hpr;go_wp2_with fail
   go_region_held3 (fun w'=>(w'.cell? ⟨w.heap.size+1,3,none⟩=some (.slice B tl tc)/\w'.cell? ⟨w.heap.size,1,none⟩=some (.slice (some a) L2 c2)/\w'.cell? ⟨(a.add (i*6)).block,(a.add (i*6)).off+1,none⟩=some (.slice P1 rl d1))) (exact⟨b3,a1,q1⟩) (fail)
   by_cases hq:tl=rl
   ·have g1:(tl==rl)=true:=by simpa using hq
    have g2:(tl != rl)=false:=by simpa using hq
    have g3:((tl:Int)==(rl:Int))=true:=by simp;omega
    have g4:((tl:Int) != (rl:Int))=false:=by simp;omega
    have dA:=zh (show R=0 by rw[aG.out,if_pos hq]);clear hq;go_wp2_with fail;go_ret;exact⟨by rw[dA.out];rfl,HB.out.drew⟩
   ·have g1:(tl==rl)=false:=by simpa using hq
    have g2:(tl != rl)=true:=by simpa using hq
    have g3:((tl:Int)==(rl:Int))=false:=by simp;omega
    have g4:((tl:Int) != (rl:Int))=true:=by simp;omega
    have dA:=zh (show R=7 by rw[aG.out,if_neg hq]);clear hq;go_wp2_with fail;go_ret;exact⟨by rw[dA.out];rfl,HB.out.drew⟩
 have f50:(tk==50)=false:=by simpa using h50
 by_cases lS:tk=51
 ·subst lS;have HN:=zh (show R=(match idxP p.prs ts with|none=>6|some i=>match p.prs[i]? with|none=>6|some r=>if tl=r.ps.length then 0 else 7) by rw[<-HR.out];simp[zll]);go_enter func88,ntmps88;go_wp2_with fail;refine(zni p S _ ts _ (HV.out.later (HB0.out _ _))).mono ?_;rintro e w1 ⟨rfl,aa⟩;have hbl:=zka (HB0.out _ _) aa;have hP:=zkc (zkd (heap_alloc_new w (.cells #[.slice A1 L1 c1,.slice A2 L2 c2,.int .u8 k,.int .i64 n,.string s,.slice A3 l3 c3] 30)) _) aa;have hN:=zkc (heap_alloc_new (w.alloc (.cells #[.slice A1 L1 c1,.slice A2 L2 c2,.int .u8 k,.int .i64 n,.string s,.slice A3 l3 c3] 30)) (.cells #[.int .u8 51,.int .i64 tn,.string ts,.slice B tl tc] 28)) aa;simp only[World.size_alloc]at hN
  cases hi:idxP p.prs ts with
  | none =>
   have e1:zlA p.prs ts = -1:=by simp[zlA,hi]
   rw[e1];have aG:=zh (show R=6 by rw[HN.out,hi]);have HB:=zh hbl;clear aa hi e1 hP hN hbl;go_wp2_with fail;go_ret;exact⟨by rw[aG.out];rfl,HB.out⟩
  | some i =>
   have e1:zlA p.prs ts=i:=by simp[zlA,hi]
   rw[e1];have hi2:i<p.prs.length:=(List.findIdx?_eq_some_iff_getElem.1 hi).1;have hiL:i<L2:=by rw[<-HL2.out];exact hi2
   obtain⟨a,r,P1,d1,P2,d2,rfl,_,Hr,⟨_,q1,_⟩,hpr⟩:=(cz.out.later hbl).nd hi2;obtain⟨rl,hrl⟩:=zX (r.ps.length);have hlr:=zkW hpr.lp;rw[hrl]at q1 hlr;have aG:=zh (show R=if tl=rl then 0 else 7 by rw[HN.out,hi];simp only;rw[List.getElem?_eq_getElem hi2,Hr.out,<-hrl]);obtain⟨a0,a1,a2,a3,a4,a5⟩:=box6 hP;obtain⟨b0,b1,b2,b3⟩:=box4 hN;have HB:=zh hbl;clear aa hi e1 hP hN hbl hrl hpr;go_wp2_with fail
   go_region_held3 (fun w'=>(w'.cell? ⟨w.heap.size+1,3,none⟩=some (.slice B tl tc)/\w'.cell? ⟨w.heap.size,1,none⟩=some (.slice (some a) L2 c2)/\w'.cell? ⟨(a.add (i*6)).block,(a.add (i*6)).off+1,none⟩=some (.slice P1 rl d1))) (exact⟨b3,a1,q1⟩) (fail)
   by_cases hq:tl=rl
   ·have g1:(tl==rl)=true:=by simpa using hq
    have g2:(tl != rl)=false:=by simpa using hq
    have g3:((tl:Int)==(rl:Int))=true:=by simp;omega
    have g4:((tl:Int) != (rl:Int))=false:=by simp;omega
    have dA:=zh (show R=0 by rw[aG.out,if_pos hq]);clear hq;go_wp2_with fail;go_ret;exact⟨by rw[dA.out];rfl,HB.out.drew⟩
   ·have g1:(tl==rl)=false:=by simpa using hq
    have g2:(tl != rl)=true:=by simpa using hq
    have g3:((tl:Int)==(rl:Int))=false:=by simp;omega
    have g4:((tl:Int) != (rl:Int))=true:=by simp;omega
    have dA:=zh (show R=7 by rw[aG.out,if_neg hq]);clear hq;go_wp2_with fail;go_ret;exact⟨by rw[dA.out];rfl,HB.out.drew⟩
 have f51:(tk==51)=false:=by simpa using lS
 have HN:=zh (show R=0 by rw[<-HR.out];simp[zll,h2,h3,h4,h5,uh,h45,eG,fw,h50,lS]);clear h2 h3 h4 h5 uh h45 eG fw h50 lS;go_enter func88,ntmps88;go_wp2_with fail;go_ret;exact⟨by rw[HN.out];rfl,HB0.out _ _⟩
def argE(ps:List PR)(s:ByteArray)(l i:Nat)(m:ByteArray)(vs:List VD):Int:=match zlo vs m with
 | none=>6
 | some v=>match idxP ps s with
  | none=>0
  | some j=>match ps[j]? with
   | none=>0
   | some r=>if l=r.ps.length then(match r.ps[i]? with
    | none=>0
    | some q=>if v.k=q.k/\v.n=q.n then 0 else 7)else 0
theorem box3{w:World}{b:Nat}{E:TypeId}{u0 u1 u2:Value}(h:w.heap[b]?=some (.cells #[u0,u1,u2] E (0,0))):w.cell? ⟨b,0,none⟩=some u0/\w.cell? ⟨b,1,none⟩=some u1/\w.cell? ⟨b,2,none⟩=some u2 :=
 ⟨zc h rfl,zc h rfl,zc h rfl⟩
theorem znJ(p:PG)(t:T)(i:Nat)(hi:i<t.ks.length)(vs:List VD)(A:Option Addr)(c:Nat)(S S' S'':Nat->Prop)(v1 v2:Value)(w:World)(hv1:PV w S p v1)(hv2:NV w S' t v2)(hrow:RowV w S'' A vs)(hl:vs.length<=LV) :
  Calls prog 90 #[v1,v2,.int .i64 i,.slice A vs.length c] w fun e w'=>e=.returned (.int .i64 (argE p.prs t.s t.ks.length i t.ks[i].s vs))/\Below w.heap.size w w':=by
 have hvv:=hv1;obtain⟨A1,c1,A2,c2,A3,c3,rfl,hr⟩:=hv1;have cz:=zh hr.procs;have hlp:=zkW hr.lp;obtain⟨L1,hL1⟩:=zX (p.vs.length);obtain⟨L2,hL2⟩:=zX (p.prs.length);obtain⟨k,hk⟩:=zX (p.m.k);obtain⟨n,hn⟩:=zX (p.m.n);obtain⟨s,hs⟩:=zX (p.m.s);obtain⟨l3,hl3⟩:=zX (p.m.ks.length);rw[hL1,hL2,hk,hn,hs,hl3];rw[hL1,hL2,hk,hn,hs,hl3]at hvv;rw[hL2]at hlp;have HL2:=zh hL2;have HV:=zh hvv;clear hr hvv hL1 hL2 hk hn hs hl3;obtain⟨B,tc,rfl,_,hlk,_,gX⟩:=hv2.open_;have au:=zkx hlk;have ae:=zh hrow;have HL:=zh hl;obtain⟨b,u,B1,f1,rfl,_,Hu,⟨z0,z1,z2,z3⟩,-⟩:=gX.nd hi;rw[Hu.out];clear hrow hl hv2 hlk gX z0 z1 z3;obtain⟨us,iw⟩:=zX (u.s);rw[iw]at z2 ⊢;clear iw Hu;generalize t.k=tk,t.n=tn,t.s=ts,t.ks.length=tl at *
 obtain⟨R,hR⟩:=zX (argE p.prs ts tl i us vs);rw[hR];have HR:=zh hR;clear hR;have hb0:∀o o',Below w.heap.size w ((w.alloc o).alloc o'):=fun o o'=>(zr.alloc zl _).alloc (by simp) _;have HB0:=zh hb0;have z2':=fun o o'=>zkj (zkj z2 o) o';clear hb0 z2;go_enter func90,ntmps90;go_wp2_with fail;refine(zn4 vs A c us S'' _ (ae.out.later (HB0.out _ _)) HL.out).mono ?_;rintro e w1 ⟨rfl,aa⟩;have hbl:=zka (HB0.out _ _) aa;have hP:=zkc (zkd (heap_alloc_new w (.cells #[.slice A1 L1 c1,.slice A2 L2 c2,.int .u8 k,.int .i64 n,.string s,.slice A3 l3 c3] 30)) _) aa;have hN:=zkc (heap_alloc_new (w.alloc (.cells #[.slice A1 L1 c1,.slice A2 L2 c2,.int .u8 k,.int .i64 n,.string s,.slice A3 l3 c3] 30)) (.cells #[.int .u8 tk,.int .i64 tn,.string ts,.slice (some b) tl tc] 28)) aa;simp only[World.size_alloc]at hN
 cases hf:zlo vs us with
 | none =>
  have HN:=zh (show R=6 by rw[<-HR.out];simp[argE,hf]);have HB:=zh (zkb hbl (.cells #[.string ⟨#[]⟩,.int .u8 0,.int .i64 0] 38));clear hf aa hP hN hbl z2';go_wp2_with fail;go_ret;exact⟨by rw[HN.out];rfl,HB.out⟩
 | some v =>
  obtain⟨vm,vk,vl⟩:=v;have hq2:=zkb hbl (.cells #[.string vm,.int .u8 vk,.int .i64 vl] 38);have hP2:=zkd hP (.cells #[.string vm,.int .u8 vk,.int .i64 vl] 38);have tY:=zkd hN (.cells #[.string vm,.int .u8 vk,.int .i64 vl] 38);have hV2:=heap_alloc_new w1 (.cells #[.string vm,.int .u8 vk,.int .i64 vl] 38);have HR2:=zh (show R=(match idxP p.prs ts with
   | none=>0
   | some j=>match p.prs[j]? with
    | none=>0
    | some r=>if tl=r.ps.length then(match r.ps[i]? with
     | none=>0
     | some q=>if vk=q.k/\vl=q.n then 0 else 7)else 0) by rw[<-HR.out];simp[argE,hf])
  obtain⟨a0,a1,a2,a3,a4,a5⟩:=box6 hP2;obtain⟨b0,b1,b2,b3⟩:=box4 tY;have lX:=zh hP2;have aG:=zh tY;have yX:=zh hV2;have uJ:=zh hq2;clear hf aa hP hN hbl z2' hP2 tY hV2 hq2 HR;go_wp2_with fail;refine(zni p S _ ts _ (HV.out.later uJ.out)).mono ?_;rintro e w2 ⟨rfl,ah⟩;have hbl:=zka uJ.out ah;have hP:=zkc lX.out ah;have hN:=zkc aG.out ah;have hV:=zkc yX.out ah;clear a0 a1 a2 a3 a4 a5 b0 b1 b2 b3 lX aG yX uJ ah
  cases hi2:idxP p.prs ts with
  | none =>
   have e1:zlA p.prs ts = -1:=by simp[zlA,hi2]
   rw[e1];have dA:=zh (show R=0 by rw[HR2.out,hi2]);have HB:=zh hbl;clear hi2 e1 hP hN hV hbl;go_wp2_with fail;refine wp_region_noPanic ?_;refine zkk zU zU 20 (by kernel_rfl) ?_;have hSS:zW zU zU w2.drew:=⟨trivial,trivial⟩
   refine zT 0 hSS ?_;refine zT 1 hSS ?_;refine zT 2 hSS ?_;refine zkp (i:=3) (v:=undef) rfl (by kernel_rfl) (by kernel_rfl) (by kernel_rfl) (by decide) (fun _ _ _ h=>h) (Or.inr ⟨by rfl,rfl⟩) hSS ?_;(try simp only[zQ]);refine zkp (i:=4) (v:=undef) rfl (by kernel_rfl) (by kernel_rfl) (by kernel_rfl) (by decide) (fun _ _ _ h=>h) (Or.inr ⟨by rfl,rfl⟩) hSS ?_;(try simp only[zQ]);refine zkp (i:=5) (v:=undef) rfl (by kernel_rfl) (by kernel_rfl) (by kernel_rfl) (by decide) (fun _ _ _ h=>h) (Or.inr ⟨by rfl,rfl⟩) hSS ?_;(try simp only[zQ]);refine zkp (i:=6) (v:=undef) rfl (by kernel_rfl) (by kernel_rfl) (by kernel_rfl) (by decide) (fun _ _ _ h=>h) (Or.inr ⟨by rfl,rfl⟩) hSS ?_;(try simp only[zQ]);refine zkp (i:=7) (v:=undef) rfl (by kernel_rfl) (by kernel_rfl) (by kernel_rfl) (by decide) (fun _ _ _ h=>h) (Or.inr ⟨by rfl,rfl⟩) hSS ?_;(try simp only[zQ])
   refine zkp (i:=8) (v:=undef) rfl (by kernel_rfl) (by kernel_rfl) (by kernel_rfl) (by decide) (fun _ _ _ h=>h) (Or.inr ⟨by rfl,rfl⟩) hSS ?_;(try simp only[zQ]);refine zkp (i:=9) (v:=undef) rfl (by kernel_rfl) (by kernel_rfl) (by kernel_rfl) (by decide) (fun _ _ _ h=>h) (Or.inr ⟨by rfl,rfl⟩) hSS ?_;(try simp only[zQ]);refine zkp (i:=10) (v:=undef) rfl (by kernel_rfl) (by kernel_rfl) (by kernel_rfl) (by decide) (fun _ _ _ h=>h) (Or.inr ⟨by rfl,rfl⟩) hSS ?_;(try simp only[zQ]);refine zkp (i:=11) (v:=undef) rfl (by kernel_rfl) (by kernel_rfl) (by kernel_rfl) (by decide) (fun _ _ _ h=>h) (Or.inr ⟨by rfl,rfl⟩) hSS ?_;(try simp only[zQ]);refine zkp (i:=12) (v:=undef) rfl (by kernel_rfl) (by kernel_rfl) (by kernel_rfl) (by decide) (fun _ _ _ h=>h) (Or.inr ⟨by rfl,rfl⟩) hSS ?_;(try simp only[zQ])
   refine zkp (i:=13) (v:=undef) rfl (by kernel_rfl) (by kernel_rfl) (by kernel_rfl) (by decide) (fun _ _ _ h=>h) (Or.inr ⟨by rfl,rfl⟩) hSS ?_;(try simp only[zQ]);refine zT 14 hSS ?_;refine zd ?_;refine NoPanic.normal ?_;clear hSS;go_wp2_with fail;go_ret;exact⟨by rw[dA.out];rfl,HB.out.drew⟩
  | some j =>
   have e1:zlA p.prs ts=j:=by simp[zlA,hi2]
   rw[e1];have hj2:j<p.prs.length:=(List.findIdx?_eq_some_iff_getElem.1 hi2).1;have pG:j<L2:=by rw[<-HL2.out];exact hj2
   obtain⟨a,r,P1,d1,P2,d2,rfl,_,Hr,⟨_,q1,_⟩,hpr⟩:=(cz.out.later hbl).nd hj2;obtain⟨rl,hrl⟩:=zX (r.ps.length);have hlr:=zkW hpr.lp;have zg:=zh hpr.row;rw[hrl]at q1 hlr;have HR3:=zh (show R=if tl=rl then(match r.ps[i]? with
     | none=>0
     | some q=>if vk=q.k/\vl=q.n then 0 else 7)else 0 by rw[HR2.out,hi2];simp only;rw[List.getElem?_eq_getElem hj2,Hr.out,<-hrl])
   have lV:=zh hrl;obtain⟨a0,a1,a2,a3,a4,a5⟩:=box6 hP;obtain⟨b0,b1,b2,b3⟩:=box4 hN;have aZ:=zh hV;have HB:=zh hbl;have hj0:decide ((j:Int)<0)=false:=by simp
   clear hi2 e1 hP hN hbl hrl hpr hV;go_wp2_with fail
   go_region_held3 (fun w'=>(w'.cell? ⟨w.heap.size+1,3,none⟩=some (.slice (some b) tl tc)/\w'.cell? ⟨w.heap.size,1,none⟩=some (.slice (some a) L2 c2)/\w'.cell? ⟨(a.add (j*6)).block,(a.add (j*6)).off+1,none⟩=some (.slice P1 rl d1))) (exact⟨b3,a1,q1⟩) (fail)
   by_cases hq:tl=rl
   ·have g1:(tl==rl)=true:=by simpa using hq
    have g2:(tl != rl)=false:=by simpa using hq
    have g3:((tl:Int)==(rl:Int))=true:=by simp;omega
    have g4:((tl:Int) != (rl:Int))=false:=by simp;omega
    have hir:i<r.ps.length:=by rw[lV.out];omega
    have hir':i<rl:=by omega
    obtain⟨e,q,rfl,_,Hq,⟨y0,y1,y2⟩,xq⟩:=(zg.out.later zr.drew).nd hir;have HR4:=zh (show R=if vk=q.k/\vl=q.n then 0 else 7 by rw[HR3.out,if_pos hq,List.getElem?_eq_getElem hir,Hq.out]);obtain⟨qm,qk,ql⟩:=q;simp only at y0 y1 y2 HR4;have yO:=box3 aZ.out;obtain⟨x0,x1,x2⟩:=yO;have bE:=zh (zkb HB.out.drew (.cells #[.string qm,.int .u8 qk,.int .i64 ql] 38));have hlt9:=zkf aZ.out;clear hq Hq xq zg aZ;by_cases hk1:vk=qk
    ·have k1:(vk==qk)=true:=by simpa using hk1
     have k2:(vk != qk)=false:=by simpa using hk1
     by_cases hk2:vl=ql
     ·have k3:(vl==ql)=true:=by simpa using hk2
      have k4:(vl != ql)=false:=by simpa using hk2
      have dA:=zh (show R=0 by rw[HR4.out,if_pos ⟨hk1,hk2⟩]);clear hk1 hk2;go_wp2_with fail;go_ret;exact⟨by rw[dA.out];rfl,bE.out⟩
     ·have k3:(vl==ql)=false:=by simpa using hk2
      have k4:(vl != ql)=true:=by simpa using hk2
      have dA:=zh (show R=7 by rw[HR4.out,if_neg (fun h=>hk2 h.2)]);clear hk1 hk2;go_wp2_with fail;go_ret;exact⟨by rw[dA.out];rfl,bE.out⟩
    ·have k1:(vk==qk)=false:=by simpa using hk1
     have k2:(vk != qk)=true:=by simpa using hk1
     have dA:=zh (show R=7 by rw[HR4.out,if_neg (fun h=>hk1 h.1)]);clear hk1;go_wp2_with fail;go_ret;exact⟨by rw[dA.out];rfl,bE.out⟩
   ·have g1:(tl==rl)=false:=by simpa using hq
    have g2:(tl != rl)=true:=by simpa using hq
    have g3:((tl:Int)==(rl:Int))=false:=by simp;omega
    have g4:((tl:Int) != (rl:Int))=true:=by simp;omega
    have dA:=zh (show R=0 by rw[HR3.out,if_neg hq]);clear hq;go_wp2_with fail;go_ret;exact⟨by rw[dA.out];rfl,HB.out.drew⟩
theorem zvD(A:Option Addr)(l c:Nat)(hlc:l<=c)(hl:l<=LI)(w:World):Calls prog 115 #[.slice A l c] w fun e w'=>e=.returned (.slice A l l)/\w=w':=by
 have hl':=zpr hl;have h1:(l:Int)<=(c:Int):=by omega
 clear hl;go_enter func115,ntmps115;go_wp2_with fail;go_ret;exact⟨rfl,rfl⟩
theorem zqP(A:Option Addr)(l c:Nat)(hlc:l<=c)(hl:l<=LV)(w:World):Calls prog 116 #[.slice A l c] w fun e w'=>e=.returned (.slice A l l)/\w=w':=by
 have hl':=zkW hl;have h1:(l:Int)<=(c:Int):=by omega
 clear hl;go_enter func116,ntmps116;go_wp2_with fail;go_ret;exact⟨rfl,rfl⟩
theorem zl3{P:Program}{w:World}{ops:Array Oper}{o:Oper}{a:Act}{K:Act->World->Prop}{Q:Exit->Act->World->Prop}{F:Prop}(hgd:o.guard=none)(s x:Operand)(t:TypeId)
  (hop:o.op=Op.call { callee:=Callee.builtin Builtin.append,args := #[s,x],argTypes := #[t,t] })(e:TypeId)(i:TypeInfo)(z:Value)(size bytes:Nat)(h1:P.underlying t=some (.slice e))(h2:P.info? e=some i)(h3:i.zero=some z)(h4:i.size=size)(h5:i.bytes=bytes)(h6:z.cells.size=size)(h7:0<size)
  (ao:Option Addr)(n cap:Nat)(olds:List Value)(hs:a.eval s=.slice ao n cap)(hnone:ao=none->n=0/\cap=0)(hlo:olds.length=n*size)(holds:∀b,ao=some b->∀j u,olds[j]?=some u->w.cell? (b.add j)=some u)
  (ad:Addr)(m c:Nat)(news:List Value)(hx:a.eval x=.slice (some ad) m c)(hn:news.length=m*size)(hc:∀j u,news[j]?=some u->w.cell? (ad.add j)=some u)(h1c:∀u∈news,u.oneCell'=true)
  (hfull:cap<n+m)(b1:n+m<=maxLen)(b2:(n+m)*bytes<=140737488355328)
  (hK:∀v' w',w'.ownsRow w.heap.size e size v' (n+m) (olds++news)->w.grownBy w' none->K (a.put o.dst v') w') :
  if Region.wanted o (yielded ops a.tmps)=true then Oper.wp P o a w K Q else F:=by
 have hw:Region.wanted o (yielded ops a.tmps)=true:=by simp[Region.wanted,hgd]
 rw[if_pos hw]
 cases ao with
 | some b =>
  obtain⟨v',w',hrun,r1,r2⟩:=run_append_arg_grows (P:=P) w t o.type e i z size bytes h1 h2 h3 h4 h5 h6 h7 b n cap olds hlo (holds b rfl) ad m c news hn hc hfull b1 b2;unfold Oper.wp;simp[execOp,hop,resolve,invoke,builtin,hs,hx,hrun,Result.andThen];exact hK v' w' r1 r2
 | none =>
  obtain⟨rfl,rfl⟩:=hnone rfl;obtain rfl:olds=[]:=List.eq_nil_of_length_eq_zero (by simpa using hlo);obtain⟨v',w',hrun,r1,r2,_⟩:=run_append_own (P:=P) w w.heap.size t o.type e i z size bytes h1 h2 h3 h4 h5 h6 h7 (.slice none 0 0) 0 [] (World.ownsRow_nil w _ e size) ad m c news hn hc h1c b1 b2 zl;unfold Oper.wp;simp[execOp,hop,resolve,invoke,builtin,hs,hx,hrun,Result.andThen];exact hK v' w' r1 r2
theorem zoC(q:List Int)(A:Option Addr)(c:Nat)(i:Int)(hi:I64 i)(S:Nat->Prop)(w:World)(hrow:RowI w S A q)(hlc:q.length<=c)(hl:q.length<=100000) :
  Calls prog 89 #[.slice A q.length c,.int .i64 i] w (NewI w (q++[i])):=by
 obtain⟨i0,hi0,hz0,hz1,hz2⟩:=info_parts znA;have ae:=zh hrow;have HI:=zh hi;have hbI:=zoD;have hm1:q.length+1<=maxLen:=by unfold maxLen;omega
 have hm2:(q.length+1)*8<=140737488355328:=by omega
 have hnone:A=none->q.length=0/\q.length=0:=fun h=>by
  subst h
  cases q with
  | nil=>simp
  | cons x xs=>obtain⟨_,h,_⟩:=hrow 0 (by simp);cases h
 have hold:∀b,A=some b->∀(j:Nat) u,(q.map fun x=>Value.int .i64 x)[j]?=some u->(w.alloc (.cells #[.int .i64 i] 3)).cell? (b.add j)=some u:=fun b hb j u hj=>by
  subst hb;exact zkj (hrow.news.1 j u hj) _
 have hnew:∀(j:Nat) (u:Value),[Value.int .i64 i][j]?=some u->(w.alloc (.cells #[.int .i64 i] 3)).cell? ((⟨w.heap.size,0,none⟩:Addr).add j)=some u:=fun j u h=>by
  have:=zkR w 3 [Value.int .i64 i] j u h;simpa using this
 clear hrow hi;go_enter func89,ntmps89;go_wp2_with fail;refine(zvD A q.length c hlc (by unfold LI;omega) _).mono ?_;rintro e w' ⟨rfl,rfl⟩;go_wp2_with (at_builtin;refine wpList_append_grows (P:=prog) _ rfl (.tmp 6) (.tmp 8) 42 rfl 3 i0 _ 1 8 underlying42 hi0 hz0 hz1 hz2 rfl (by decide) A q.length q.length _ rfl hnone (by simp) hold ⟨w.heap.size,0,none⟩ 1 1 [.int .i64 i] rfl rfl hnew (by intro u hu;simp at hu;subst hu;rfl) (by omega) hm1 hm2 ?_;intro v' w' h2 h3)
 have h2':w'.ownsRow (w.heap.size+1) 3 1 v' (q++[i]).length ((q++[i]).map (fun x=>Value.int .i64 x)):=by
  have:=h2;simp only[World.size_alloc]at this;simpa using this
 have hbl:Below w.heap.size w w':=((zs w).alloc zl _).grown h3 (by simp) (fun g e=>by cases e);obtain⟨A',c',rfl,hcc,aX⟩:=zld h2' (by
  intro x hx;simp only[List.mem_append,List.mem_singleton]at hx;rcases hx with hx|rfl
  ·exact ae.out.fits x hx
  ·exact HI.out)
 have bZ:=zh (aX.mono (S':=From w.heap.size) fun b hb=>by have:=(h2'.lt b hb).1;show w.heap.size<=b;omega);have HB:=zh hbl;have HC:=zh hcc;clear h2 h2' h3 hbl hold hnew aX hcc hnone;go_wp2_with fail;go_ret;exact⟨A',c',rfl,bZ.out,HC.out,HB.out⟩
theorem zyM(s:ByteArray)(k:Int)(w:World):(Instr.build 38 #[(0,.string s),(1,.int .u8 k)]).run prog w=.ok (.agg #[.string s,.int .u8 k,.int .i64 0]) w:=by kernel_rfl
theorem zwX(a0 a1 a2:Value)(w:World):(Instr.buildSlice 24 1 #[(0,.agg #[a0,a1,a2])]).run prog w=.ok (.slice (some ⟨w.heap.size,0,none⟩) 1 1) (w.alloc (.cells #[a0,a1,a2] 38)):=by kernel_rfl
def zmu(k:Int)(s:ByteArray)(i:Nat)(vs:List VD):List VD:=if k=54/\i=1 then vs++[⟨s,1,0⟩]else if k=55/\i=0 then vs++[⟨s,3,0⟩]else vs
def zxi(w:World)(S:Nat->Prop)(vs:List VD)(e:Ending)(w':World):Prop:=∃A' c',e=.returned (.slice A' vs.length c')/\RowV w' (fun b=>S b\/w.heap.size<=b) A' vs/\vs.length<=c'/\Below w.heap.size w w'
theorem zqj{w w':World}{base:Nat}{E:TypeId}{v:Value}{vs:List VD}{u:VD}{news:List Value}(hn:∀i (hi:i<vs.length),news[i*3]?=some (.string vs[i].s)/\news[i*3+1]?=some (.int .u8 vs[i].k)/\news[i*3+2]?=some (.int .i64 vs[i].n))
  (hl:news.length=vs.length*3)(hf:∀i (hi:i<vs.length),FldV vs[i])(hu:FldV u)(h:w'.ownsRow base E 3 v (vs.length+1) (news++[.string u.s,.int .u8 u.k,.int .i64 u.n])) :
  ∃A c,v=.slice A (vs++[u]).length c/\(vs++[u]).length<=c/\RowV w' (fun b=>base<=b) A (vs++[u]):=by
 rcases h.2 with⟨_,h0⟩|⟨g,cap,cur,rfl,hb,hg,hc,hm,hz,hx⟩
 ·omega
 ·refine⟨some ⟨g,0,none⟩,cap,by simp,by simpa using hc,fun i hi=>?_⟩;have ha:(⟨g,0,none⟩:Addr).add (i*3)=⟨g,i*3,none⟩:=by unfold Addr.add;split<;>simp_all
  have hcell:∀j x,(news++[Value.string u.s,.int .u8 u.k,.int .i64 u.n])[j]?=some x->w'.cell? ⟨g,j,none⟩=some x:=fun j x hj=>by
   have hlt:=(List.getElem?_eq_some_iff.1 hj).1;rw[h.cellAt j (by simp at hlt;omega)];exact hj
  refine⟨⟨g,0,none⟩,rfl,hb,?_,?_⟩
  ·rw[ha];by_cases e:i<vs.length
   ·obtain⟨e0,e1,e2⟩:=hn i e;rw[List.getElem_append_left e];exact⟨hcell (i*3) _ (by rw[List.getElem?_append_left (by omega)];exact e0),hcell (i*3+1) _ (by rw[List.getElem?_append_left (by omega)];exact e1),hcell (i*3+2) _ (by rw[List.getElem?_append_left (by omega)];exact e2)⟩
   ·have e':i=vs.length:=by simp at hi;omega
    subst e';simp only[List.getElem_append_right zl,Nat.sub_self,List.getElem_cons_zero];exact⟨hcell (vs.length*3) _ (by rw[List.getElem?_append_right (by omega)];simp[hl]),hcell (vs.length*3+1) _ (by rw[List.getElem?_append_right (by omega)];simp[hl]),hcell (vs.length*3+2) _ (by rw[List.getElem?_append_right (by omega)];simp[hl])⟩
  ·by_cases e:i<vs.length
   ·rw[List.getElem_append_left e];exact hf i e
   ·have e':i=vs.length:=by simp at hi;omega
    subst e';simpa using hu
theorem zuo(t:T)(i:Nat)(hi64:i<=4000000000)(vs:List VD)(A:Option Addr)(c:Nat)(S S':Nat->Prop)(v:Value)(w:World)(hv:NV w S' t v)(hrow:RowV w S A vs)(hlc:vs.length<=c)(hl:vs.length<=100000) :
  Calls prog 91 #[v,.int .i64 i,.slice A vs.length c] w (zxi w S (zmu t.k t.s i vs)):=by
 obtain⟨i0,hi0,hz0,hz1,hz2⟩:=info_parts zrI;obtain⟨B,tc,rfl,hft,-⟩:=hv.open_;have ae:=zh hrow;have jc:=zh hlc;have lZ:=zh hft;have hb2:=zyM;have hbs:=zwX;have hm1:vs.length+1<=maxLen:=by unfold maxLen;omega
 have hm2:(vs.length+1)*32<=140737488355328:=by omega
 have hlv:vs.length<=LV:=by unfold LV;omega
 obtain⟨news,hnl,hnc,hn1,kK⟩:∃news:List Value,news.length=vs.length*3/\(∀b,A=some b->∀(j:Nat) u,news[j]?=some u->w.cell? (b.add j)=some u)/\(A=none->vs.length=0/\vs.length=0)/\(∀i (hi:i<vs.length),news[i*3]?=some (.string vs[i].s)/\news[i*3+1]?=some (.int .u8 vs[i].k)/\news[i*3+2]?=some (.int .i64 vs[i].n)):=by
  cases A with
  | none =>
   have h0:vs=[]:=by
    cases vs with
    | nil=>rfl
    | cons x xs=>obtain⟨_,h,_⟩:=hrow 0 (by simp);cases h
   subst h0;exact⟨[],rfl,(fun b h=>by cases h),(fun _=>⟨rfl,rfl⟩),fun i hi=>absurd hi (by simp)⟩
  | some a =>
   obtain⟨news,h1,h2,_,h4⟩:=hrow.news;exact⟨news,h1,(fun b h=>by injection h with h;subst h;exact h2),(fun h=>by cases h),h4⟩
 have ja:=zh kK;have Cv:=zh (show ∀i (hi:i<vs.length),FldV vs[i]from fun i hi=>(hrow i hi).choose_spec.2.2.2);clear hrow hlc hft hv kK;generalize t.k=tk,t.n=tn,t.s=ts,t.ks.length=tl at *
 obtain⟨V,hV⟩:=zX (zmu tk ts i vs);rw[hV];have HV:=zh hV;clear hV;have key:∀(kd:Int) (hkd:kd=1\/kd=3) (W':World) (v':Value),(((w.alloc (.cells #[.int .u8 tk,.int .i64 tn,.string ts,.slice B tl tc] 28)).alloc (.cells #[.string ts,.int .u8 kd,.int .i64 0] 38)).drew).grownBy W' none ->
   W'.ownsRow ((w.alloc (.cells #[.int .u8 tk,.int .i64 tn,.string ts,.slice B tl tc] 28)).alloc (.cells #[.string ts,.int .u8 kd,.int .i64 0] 38)).drew.heap.size 38 3 v' (vs.length+1) (news++[.string ts,.int .u8 kd,.int .i64 0])->V=vs++[⟨ts,kd,0⟩]->zxi w S V (.returned v') W':=by
  intro kd hkd W' v' hg ho hVV;subst hVV;obtain⟨A',c',rfl,hcc,hrr⟩:=zqj (w:=w) (u:=⟨ts,kd,0⟩) ja.out hnl Cv.out ⟨lZ.out.2.2,(show(0:Int)<=kd/\kd<256 by rcases hkd with rfl|rfl<;>decide),(by decide:(-9223372036854775808:Int)<=0/\(0:Int)<=9223372036854775807)⟩ ho;refine⟨A',c',rfl,hrr.mono fun b hb=>.inr ?_,hcc,?_⟩
  ·simp at hb;omega
  ·exact((((zs w).alloc zl _).alloc (by simp) _).drew).grown hg (by simp;omega) (fun g e=>by cases e)
 have HKEY:=zh key;have hnc':∀o o' b,A=some b->∀(j:Nat) u,news[j]?=some u->((w.alloc o).alloc o').drew.cell? (b.add j)=some u:=fun o o' b hb j u hj=>zkj (zkj (hnc b hb j u hj) o) o';have hnw:∀(kd:Int) (j:Nat) (u:Value),[Value.string ts,.int .u8 kd,.int .i64 0][j]?=some u->((w.alloc (.cells #[.int .u8 tk,.int .i64 tn,.string ts,.slice B tl tc] 28)).alloc (.cells #[.string ts,.int .u8 kd,.int .i64 0] 38)).drew.cell? ((⟨w.heap.size+1,0,none⟩:Addr).add j)=some u:=fun kd j u h=>by
  have:=zkR (w.alloc (.cells #[.int .u8 tk,.int .i64 tn,.string ts,.slice B tl tc] 28)) 38 [Value.string ts,.int .u8 kd,.int .i64 0] j u h;simpa using this
 have HNC:=zh hnc';have wH:=zh hnw;clear key hnc hnc' hnw;by_cases eG:tk=54/\i=1
 ·obtain⟨rfl,rfl⟩:=eG;have xP:=zh (show V=vs++[⟨ts,1,0⟩] by rw[<-HV.out];simp[zmu]);go_enter func91,ntmps91;go_wp2_with fail
  go_region_held3 (fun w'=>w'.cell? ⟨w.heap.size,2,none⟩=some (.string ts))
   (first|exact hk5|(simp;done))
   (first
    | (refine zl3 (by rfl) (.tmp 16) (.tmp 20) 24 (by rfl) 38 i0 _ 3 32 underlying24 hi0 hz0 hz1 hz2 rfl (by decide) A vs.length vs.length news (by rfl) hn1 hnl (HNC.out _ _) ⟨w.heap.size+1,0,none⟩ 1 1 [.string ts,.int .u8 1,.int .i64 0] (by rfl) rfl (wH.out 1) (by intro u hu;simp at hu;rcases hu with rfl|rfl|rfl<;>rfl) (by omega) hm1 hm2 ?_;intro v' w' h2 h3;have HF:=zh (HKEY.out 1 (.inl rfl) w' v' h3 h2 xP.out);have hk5:w'.cell? ⟨w.heap.size,2,none⟩=some (.string ts):=(World.cell?_of_block (a:=⟨w.heap.size,2,none⟩) (h3.block _ (by simp;omega) (by simp))).trans (by simp);clear h2 h3)
    | (go_at_call 116;refine(zqP A vs.length c jc.out hlv _).mono ?_;rintro e wq ⟨rfl,rfl⟩)
    | fail)
  all_goals
   clear hk5;go_wp2_with fail;go_ret;exact HF.out
 by_cases fw:tk=55/\i=0
 ·obtain⟨rfl,rfl⟩:=fw;have xP:=zh (show V=vs++[⟨ts,3,0⟩] by rw[<-HV.out];simp[zmu]);go_enter func91,ntmps91;go_wp2_with fail
  go_region_held3 (fun w'=>w'.cell? ⟨w.heap.size,2,none⟩=some (.string ts))
   (first|exact hk5|(simp;done))
   (first
    | (refine zl3 (by rfl) (.tmp 31) (.tmp 35) 24 (by rfl) 38 i0 _ 3 32 underlying24 hi0 hz0 hz1 hz2 rfl (by decide) A vs.length vs.length news (by rfl) hn1 hnl (HNC.out _ _) ⟨w.heap.size+1,0,none⟩ 1 1 [.string ts,.int .u8 3,.int .i64 0] (by rfl) rfl (wH.out 3) (by intro u hu;simp at hu;rcases hu with rfl|rfl|rfl<;>rfl) (by omega) hm1 hm2 ?_;intro v' w' h2 h3;have HF:=zh (HKEY.out 3 (.inr rfl) w' v' h3 h2 xP.out);have hk5:w'.cell? ⟨w.heap.size,2,none⟩=some (.string ts):=(World.cell?_of_block (a:=⟨w.heap.size,2,none⟩) (h3.block _ (by simp;omega) (by simp))).trans (by simp);clear h2 h3)
    | (go_at_call 116;refine(zqP A vs.length c jc.out hlv _).mono ?_;rintro e wq ⟨rfl,rfl⟩)
    | fail)
  all_goals
   clear hk5;go_wp2_with fail;go_ret;exact HF.out
 have xP:=zh (show V=vs by rw[<-HV.out];unfold zmu;rw[if_neg eG,if_neg fw]);have HF:=zh (show ∀o,zxi w S V (.returned (.slice A vs.length c)) (w.alloc o)from fun o=>by
  rw[xP.out];exact⟨A,c,rfl,(ae.out.later (zr.alloc zl _)).mono fun b hb=>.inl hb,jc.out,zr.alloc zl _⟩)
 by_cases Ao:tk=54
 ·subst Ao;have hne:¬ i=1:=fun e=>eG ⟨rfl,e⟩;have e1:(i==1)=false:=by simpa using hne
  have e2:((i:Int)==1)=false:=by simp;omega
  clear eG fw hne;go_enter func91,ntmps91;go_wp2_with fail;go_ret;exact HF.out _
 have f54:(tk==54)=false:=by simpa using Ao
 by_cases Am:tk=55
 ·subst Am;have hne:¬ i=0:=fun e=>fw ⟨rfl,e⟩;have e1:(i==0)=false:=by simpa using hne
  have e2:((i:Int)==0)=false:=by simp;omega
  clear eG fw hne;go_enter func91,ntmps91;go_wp2_with fail;go_ret;exact HF.out _
 have f55:(tk==55)=false:=by simpa using Am
 clear eG fw Ao Am;go_enter func91,ntmps91;go_wp2_with fail;go_ret;exact HF.out _
end
section
open Go
abbrev Fw(ro:Option Nat):Fence:={ Fence.wide with round:=ro }
def zny(ops:Array Oper):Bool:=ops.all fun o=>match o.op with|.defer _=>false|_=>true
theorem zlx{ops:Array Oper}(h:zny ops=true){j:Nat}{o:Oper}(hj:ops[j]?=some o):∀c,o.op ≠ .defer c:=fun c e=>by
 have hm:o∈ops:=Array.mem_of_getElem? hj;have:=(Array.all_eq_true_iff_forall_mem.1 h) o hm;rw[e]at this
 cases this
section
variable {ro:Option Nat} {n:Nat} {P:Program} {ops:Array Oper} {Q:Exit->Act->World->Prop} {md:Region.Mode}
theorem zzn{row:String}{args:Array Value}{w:World}{R:Value->World->Prop}(h:Rows P row args w R):RowsIn (Fw ro) n P row args w R :=
 fun c cs _=>let ⟨v,w',r,s⟩:=h c cs;⟨v,w',r,stepsIn_wide.2 s⟩
theorem zoT{o:Oper}{a:Act}{w:World}{K:Act->World->Prop}(hnd:∀c,o.op ≠ .defer c)(h:o.wp P a w K Q):o.wpIn (Fw ro) n P a w K Q:=by
 refine⟨fun _ _=>trivial,?_⟩;rw[Oper.semAt_eq _ _ _ hnd];unfold Oper.wp at h;generalize (execOp a.eval o).run P w=r at *
 cases r with
 | ok x w' =>
  cases x<;>simp only[Oper.upon,Oper.uponIn]at h ⊢
  case value=>exact h
  case skip=>exact h
  case defer=>exact h
  case enter f args =>
   have h':CallsIn Fence.wide (n-1) P f args w' _:=callsIn_wide.2 h;exact⟨(fun e=>by cases e),h'⟩
  case row row args=>exact⟨(fun e=>by cases e),zzn h⟩
 | halt x w'=>cases x<;>simp only[Oper.upon,Oper.uponIn]at h ⊢ <;> exact h
theorem YieldsIf.wpOpI{S:World->Prop}{i:Nat}{o:Oper}{v:Value}{a:Act}(hnd:∀c,o.op ≠ .defer c)(hi:ops[i]?=some o)(hy:YieldsIf P ops S o v a)
  {K:Act->World->Prop}{w:World}(hS:S w)(h:K (a.put o.dst v) w):wpOpIn (Fw ro) n P ops Q i K a w:=by
 unfold Go.wpOpIn;simp only[hi];rcases hy with⟨hw,hv⟩|⟨hw,rfl⟩
 ·simp only[hw,if_true];refine zoT hnd ?_;simp only[Oper.wp,hv w hS,Oper.upon];exact h
 ·simp only[hw,Bool.false_eq_true,if_false];exact⟨fun _ _=>trivial,h⟩
theorem zqT{S:World->Prop}{j:Nat}{oi oj:Oper}{v:Value}(hnd:∀c,oj.op ≠ .defer c)(hj:ops[j]?=some oj)(hap:oi.apart ops oj=true)
  (hsi:∀cs b,oi.op ≠ .select cs b)(hsj:∀cs b,oj.op ≠ .select cs b)
  (hQ:∀c a w,Q (.panic c) (a.put oi.dst v) w->Q (.panic c) a w){K:Act->World->Prop}{a:Act}{w:World}
  (hy:YieldsIf P ops S oi v a)(h:wpOpIn (Fw ro) n P ops Q j K (a.put oi.dst v) w) :
  wpOpIn (Fw ro) n P ops Q j (fun a' w'=>YieldsIf P ops S oi v a'/\K (a'.put oi.dst v) w') a w:=by
 obtain⟨h1,h2,h3⟩:=Oper.apart_spec hap;have keep:∀(a:Act),YieldsIf P ops S oi v a->∀u,YieldsIf P ops S oi v (a.put oj.dst u):=fun a hy u =>
  hy.of_same (execOp_put oi hsi a oj.dst u h3) (wanted_put oi a oj.dst u h3)
 have keepD:∀d,YieldsIf P ops S oi v { a with defers:=d::a.defers }:=fun d=>hy.of_same rfl rfl;unfold wpOpIn at *
 simp only[hj]at *
 rw[wanted_put oj a oi.dst v h1]at h
 split
 ·rename_i hw;simp only[hw,if_true]at h;unfold Oper.wpIn at *
  refine⟨fun _ _=>trivial,?_⟩;have h:=h.2;rw[Oper.semAt_eq _ _ _ hnd,execOp_put oj hsj a oi.dst v h1]at h;rw[Oper.semAt_eq _ _ _ hnd];generalize (execOp a.eval oj).run P w=r at *
  cases r with
  | ok x w' =>
   cases x<;>simp only[Oper.uponIn]at h ⊢
   case value u=>exact⟨keep a hy u,by rw[<-Act.put_comm a v u h2];exact h⟩
   case skip=>exact⟨keep a hy _,by rw[<-Act.put_comm a v undef h2];exact h⟩
   case defer d =>
    refine⟨keep _ (keepD d) _,?_⟩;rw[<-Act.put_comm _ v undef h2,<-Act.put_defers];exact h
   case enter f args =>
    refine⟨h.1,CallsIn.mono h.2 fun e w'' he=>?_⟩
    cases e with
    | returned u=>exact⟨keep a hy u,by rw[<-Act.put_comm a v u h2];exact he⟩
    | panicked c=>exact hQ _ _ _ he
    | outgrown=>exact he
   case row row args=>exact⟨h.1,RowsIn.mono h.2 fun u w'' he=>⟨keep a hy u,by rw[<-Act.put_comm a v u h2];exact he⟩⟩
   case round l f tmps assign body =>
    refine⟨h.1,RoundIn.mono h.2 fun e w'' he=>?_⟩
    cases e with
    | returned u=>exact⟨keep a hy u,by rw[<-Act.put_comm a v u h2];exact he⟩
    | panicked c=>exact hQ _ _ _ he
    | outgrown=>exact he
  | halt x w' =>
   cases x<;>simp only[Oper.uponIn]at h ⊢
   case panic u=>exact hQ _ _ _ h
 ·rename_i hw;simp only[hw]at h;exact⟨fun _ _=>trivial,keep a hy _,by rw[<-Act.put_comm a v undef h2];exact h.2⟩
def wpI(ro:Option Nat)(n:Nat)(P:Program)(md:Region.Mode)(ops:Array Oper)(Q:Exit->Act->World->Prop)(S:World->Prop):Nat->Array Bool->Act->World->Prop
 | 0,listed,a,w=>Region.ready md ops listed=[]/\Q .normal a w
 | fuel+1,listed,a,w =>
  (Region.ready md ops listed=[]->Q .normal a w) /\
  ∀i∈Region.ready md ops listed,wpOpIn (Fw ro) n P ops Q i (fun a' w'=>S w'/\wpI ro n P md ops Q S fuel (listed.setIfInBounds i true) a' w') a w
variable {S:World->Prop}
theorem zoV:∀(fuel:Nat) (listed:Array Bool) (a:Act) (w:World),wpI ro n P md ops Q S fuel listed a w->wpAnyIn (Fw ro) n P md ops Q fuel listed a w
 | 0,_,_,_,h=>h
 | fuel+1,_,_,_,h=>⟨h.1,fun i hi=>wpOpIn_mono (fun a' w' h'=>zoV fuel _ a' w' h'.2) (h.2 i hi)⟩
theorem zte{i:Nat}{oi:Oper}{v:Value}(hnd:zny ops=true)(hi:ops[i]?=some oi)(hsel:∀(j:Nat) (o:Oper) cs b,ops[j]?=some o->o.op ≠ .select cs b)
  (hQ:∀c a w,Q (.panic c) (a.put oi.dst v) w->Q (.panic c) a w) :
  ∀(fuel:Nat) (listed:Array Bool) (a:Act) (w:World),
   (∀j oj,ops[j]?=some oj->j≠i->listed.getD j true=false->(∀e∈oj.after,Region.binds md e=true->e.on≠i)->oi.apart ops oj=true) ->
   i∈Region.ready md ops listed->YieldsIf P ops S oi v a->S w ->
   wpI ro n P md ops Q S fuel (listed.setIfInBounds i true) (a.put oi.dst v) w->wpI ro n P md ops Q S (fuel+1) listed a w:=by
 intro fuel
 induction fuel with
 | zero =>
  intro listed a w _ hr hy hS H;refine⟨fun h=>(by rw[h]at hr;cases hr),fun j hj=>?_⟩;by_cases hji:j=i
  ·subst hji;exact YieldsIf.wpOpI (zlx hnd hi) hi hy hS ⟨hS,H⟩
  ·have:=ready_mono hj hji;rw[H.1]at this
   cases this
 | succ fuel ih =>
  intro listed a w hfree hr hy hS H;refine⟨fun h=>(by rw[h]at hr;cases hr),fun j hj=>?_⟩;by_cases hji:j=i
  ·subst hji;exact YieldsIf.wpOpI (zlx hnd hi) hi hy hS ⟨hS,H⟩
  ·have h1:=H.2 j (ready_mono hj hji);obtain⟨hjun,oj,hoj,hall⟩:=mem_ready.1 hj;have hnot:∀e∈oj.after,Region.binds md e=true->e.on≠i:=fun e he hb heq=>by
    have h1:=hall e he hb;have h0:=(mem_ready.1 hr).1;rw[heq]at h1;rcases Nat.lt_or_ge i listed.size with h'|h'
    ·simp[h']at h0 h1;rw[h0]at h1;cases h1
    ·simp[Array.getElem?_eq_none h']at h1
   have h2:=zqT (zlx hnd hoj) hoj (hfree j oj hoj hji hjun hnot) (fun cs b=>hsel i oi cs b hi) (fun cs b=>hsel j oj cs b hoj) hQ hy h1;have hfree':∀k ok,ops[k]?=some ok->k≠i->(listed.setIfInBounds j true).getD k true=false ->
     (∀e∈ok.after,Region.binds md e=true->e.on≠i)->oi.apart ops ok=true:=fun k ok hk hki hun hno=>by
    refine hfree k ok hk hki ?_ hno;by_cases hjk:j=k
    ·subst hjk;exact hjun
    ·rw[getD_set_ne true hjk]at hun;exact hun
   refine wpOpIn_mono (fun a' w' h3=>?_) h2;obtain⟨hy',hs1,hW⟩:=h3;refine⟨hs1,ih (listed.setIfInBounds j true) a' w' hfree' (ready_mono hr (Ne.symm hji)) hy' hs1 ?_⟩;rw[Array.setIfInBounds_comm _ _ hji];exact hW
theorem zvF{i:Nat}{oi:Oper}{v:Value}{fuel:Nat}{listed:Array Bool}{a:Act}{w:World}(hi:ops[i]?=some oi)(hnd:zny ops=true)
  (hs:Region.noSelect ops=true)(hf:Region.free md ops listed i=true)(hr:(Region.ready md ops listed).contains i=true)
  (hQ:∀c a w,Q (.panic c) (a.put oi.dst v) w->Q (.panic c) a w)(hy:YieldsIf P ops S oi v a)(hS:S w)
  (h:wpI ro n P md ops Q S fuel (listed.setIfInBounds i true) (a.put oi.dst v) w):wpI ro n P md ops Q S (fuel+1) listed a w :=
 zte hnd hi (Region.noSelect_spec hs) hQ fuel listed a w (Region.free_spec hi hf) (by simpa using hr) hy hS h
theorem zno{i:Nat}{o:Oper}{fuel:Nat}{listed:Array Bool}{a:Act}{w:World}(hr:Region.ready md ops listed=[i])(ho:ops[i]?=some o)(hnd:zny ops=true)
  (hw:Region.wanted o (yielded ops a.tmps)=true)
  (h:∀K':Act->World->Prop,Shut (∀a w,S w->wpI ro n P md ops Q S fuel (listed.setIfInBounds i true) a w->K' a w)->if Region.wanted o (yielded ops a.tmps)=true then Oper.wp P o a w K' Q else K' (a.put o.dst undef) w) :
  wpI ro n P md ops Q S (fuel+1) listed a w:=by
 refine⟨(fun h0=>by rw[hr]at h0;cases h0),fun j hj=>?_⟩;rw[hr]at hj;simp only[List.mem_singleton]at hj;subst hj;unfold wpOpIn;have:=h _ (fun a w hS hW=>(⟨hS,hW⟩:S w/\wpI ro n P md ops Q S fuel (listed.setIfInBounds j true) a w));rw[if_pos hw]at this;simp only[ho,hw,if_true];exact zoT (zlx hnd ho) this
theorem zp2{i:Nat}{o:Oper}{fuel:Nat}{listed:Array Bool}{a:Act}{w:World}(hr:Region.ready md ops listed=[i])(ho:ops[i]?=some o)(hnd:zny ops=true)
  (hw:Region.wanted o (yielded ops a.tmps)=true){l:Nat}{f:FuncId}{tmps:Array Value}{assign body:Code}
  (hx:(execOp a.eval o).run P w=.ok (.round l f tmps assign body) w){R:Ending->World->Prop}(hR:RoundIn (Fw ro) (n-1) P l f tmps assign body w R)
  (h:∀e w',R e w'->∃v,e=.returned v/\S w'/\wpI ro n P md ops Q S fuel (listed.setIfInBounds i true) (a.put o.dst v) w') :
  wpI ro n P md ops Q S (fuel+1) listed a w:=by
 refine⟨(fun h0=>by rw[hr]at h0;cases h0),fun j hj=>?_⟩;rw[hr]at hj;simp only[List.mem_singleton]at hj;subst hj;unfold wpOpIn;simp only[ho,hw,if_true];refine⟨fun _ _=>trivial,?_⟩;rw[Oper.semAt_eq _ _ _ (zlx hnd ho),hx];refine⟨(fun e=>by cases e),hR.mono fun e w' hr=>?_⟩;obtain⟨v,rfl,hS,hW⟩:=h e w' hr;exact⟨hS,hW⟩
theorem znP{fuel:Nat}{listed:Array Bool}{a:Act}{w:World}(hr:Region.ready md ops listed=[])(h:Q .normal a w):wpI ro n P md ops Q S fuel listed a w:=by
 cases fuel with
 | zero=>exact⟨hr,h⟩
 | succ fuel=>exact⟨fun _=>h,fun i hi=>by rw[hr]at hi;cases hi⟩
theorem zl9{id:Nat}{a:Act}{w:World}(S:World->Prop)(hm:P.follows .mixedOrders=true)
  (h:wpI ro n P .any ops Q S ops.size (Array.replicate ops.size false) a w.drew):(Code.region id ops true).wpIn (Fw ro) n P Q a w :=
 wpIn_region_any hm (zoV _ _ _ _ h)
end
section
variable {P:Program} {ops:Array Oper} {Q:Exit->Act->World->Prop} {md:Region.Mode} {S:World->Prop} {ro:Option Nat} {n:Nat}
theorem zI(i:Nat){oi:Oper}{v:Value}{fuel:Nat}{listed l':Array Bool}{a a':Act}{w:World}(hS:S w)(h:wpI ro n P md ops Q S fuel l' a' w)(hi:ops[i]?=some oi:=by rfl)(hnd:zny ops=true:=by kernel_rfl)(hs:Region.noSelect ops=true:=by kernel_rfl)(hf:Region.free md ops listed i=true:=by kernel_rfl)(hr:(Region.ready md ops listed).contains i=true:=by kernel_rfl)(hQ:∀c a w,Q (.panic c) (a.put oi.dst v) w->Q (.panic c) a w:=by exact fun _ _ _ h=>h)(hy:YieldsIf P ops S oi v a:=by (refine Or.inl ⟨by rfl,?_⟩;intro w hSw;(try dsimp only at hSw);(try simp only[zA,zB,zC]);go_simp;(try with_reducible rfl)))(ha:a.put oi.dst v=a':=by ((try simp only[zQ]);(try with_reducible rfl)))(hl:listed.setIfInBounds i true=l':=by ((try simp only[zQ]);(try with_reducible rfl))):wpI ro n P md ops Q S (fuel+1) listed a w:=by subst ha hl;exact zvF hi hnd hs hf hr hQ hy hS h
end
end
section
open Go Go.RowKit
structure Chg(C:Nat->Prop)(w w':World):Prop where
 os:w'.os=w.os
 tape:w'.tape=w.tape
 output:w'.output=w.output
 size:w.heap.size<=w'.heap.size
 block:∀b,b<w.heap.size->¬ C b->w'.heap[b]?=w.heap[b]?
section
variable {C C':Nat->Prop} {w w' w'':World}
theorem Chg.refl(C:Nat->Prop)(w:World):Chg C w w:=⟨rfl,rfl,rfl,zl,fun _ _ _=>rfl⟩
theorem Chg.trans(h:Chg C w w')(h':Chg C w' w''):Chg C w w'' :=
 ⟨h'.os.trans h.os,h'.tape.trans h.tape,h'.output.trans h.output,Nat.le_trans h.size h'.size,fun b hb hc=>(h'.block b (Nat.lt_of_lt_of_le hb h.size) hc).trans (h.block b hb hc)⟩
theorem Chg.mono(h:Chg C w w')(hC:∀b,b<w.heap.size->C b->C' b):Chg C' w w':=⟨h.os,h.tape,h.output,h.size,fun b hb hc=>h.block b hb fun h=>hc (hC b hb h)⟩
theorem Chg.trans2(h:Chg C w w')(h':Chg C' w' w'')(hC:∀b,b<w.heap.size->C' b->C b):Chg C w w'' :=
 ⟨h'.os.trans h.os,h'.tape.trans h.tape,h'.output.trans h.output,Nat.le_trans h.size h'.size,fun b hb hc=>(h'.block b (Nat.lt_of_lt_of_le hb h.size) fun h=>hc (hC b hb h)).trans (h.block b hb hc)⟩
theorem Chg.of_below(h:Below w.heap.size w w'):Chg C w w':=⟨h.os,h.tape,h.output,h.size,fun b hb _=>h.block b hb⟩
theorem Chg.alloc(h:Chg C w w')(o:Obj):Chg C w (w'.alloc o):=h.trans (Chg.of_below (zr.alloc zl o))
theorem Chg.drew(h:Chg C w w'):Chg C w w'.drew:=h.trans (Chg.of_below zr.drew)
theorem Chg.setCell(h:Chg C w w'){p:Addr}(hp:C p.block\/w.heap.size<=p.block)(v:Value):Chg C w (w'.setCell p v) :=
 have hs:Below p.block w' (w'.setCell p v):=zr.setCell zl v
 ⟨hs.os.trans h.os,hs.tape.trans h.tape,hs.output.trans h.output,Nat.le_trans h.size hs.size,fun b hb hc=>by
  rw[Below.heap_setCell _ _ _ _ (by rintro rfl;rcases hp with hp|hp;exact hc hp;omega)];exact h.block b hb hc⟩
theorem Chg.below{B:Nat}(h:Chg C w w')(hB:B<=w.heap.size)(hC:∀b,C b->B<=b):Below B w w' :=
 ⟨h.os,h.tape,h.output,h.size,fun b hb=>h.block b (by omega) fun hc=>by have:=hC b hc;omega⟩
theorem Chg.putObj(w:World)(l:Nat)(o:Obj):Chg (· = l) w (w.putObj l o) :=
 ⟨rfl,rfl,rfl,by simp[World.putObj],fun b _ hc=>World.putObj_heap_other hc⟩
theorem Chg.keep{b:Nat}{o:Obj}(h:Chg C w w')(hb:w.heap[b]?=some o)(hc:¬ C b):w'.heap[b]?=some o :=
 (h.block b (Array.getElem?_eq_some_iff.1 hb).1 hc).trans hb
theorem Chg.row{row:Option Nat}(h:w.grownBy w' row):Chg (fun b=>row=some b) w w':=⟨h.os,h.tape,h.output,h.size,fun b hb hc=>h.block b hb fun e=>hc e.symm⟩
end
def zz5(n:Nat)(P:Program)(gf:FuncId)(lb:Array Value)(xs:List T)(R:Nat->Prop)(W:World):Prop :=
 ∀(l:Nat) (J Jx:List T->(Nat->Prop)->World->Prop) (C:Nat->Prop) (W1:World),l<W1.heap.size->(∀b,C b->¬ R b)->Chg C W W1 ->
  (∀pre C W W',J pre C W->Chg (fun b=>¬ C b) W W'->J pre C W')->(∀pre C W,J pre C W->∀b,C b->b<W.heap.size) ->
  (∀pre x C W pv v,J pre C W->(pre++[x]) <+: xs->(∃A m c,pv=.slice A m c)->NV W (fun b=>l<b) x v ->
   YieldAt (Fw none) (n-1) P l #[pv,v] W fun e W' =>
    (e=.returned (.bool true)/\∃C',J (pre++[x]) C' W'/\(∀b,C' b->C b\/W.heap.size<=b)/\Chg C W W') \/
    (e=.returned (.bool false)/\∃C',Jx (pre++[x]) C' W'/\Chg C W W')) ->
  J [] C W1 ->
  CallsIn (Fw none) n P gf (#[.func (.yield l) #[] #[]]++lb) W1 fun e W'=>(∃v,e=.returned v)/\((∃C',J xs C' W'/\Chg C W1 W')\/(∃pre C',Jx pre C' W'/\Chg C W1 W'))
def zzu(I Ix:List T->(Nat->Prop)->World->Prop)(pre:List T)(C:Nat->Prop)(W:World):Exit->Act->World->Prop
 | .normal,_,W'=>∃C',I pre C' W'/\(∀b,C' b->C b\/W.heap.size<=b)/\Chg C W W'
 | .ret,_,W'=>∃C',Ix pre C' W'/\(∀b,C' b->C b\/W.heap.size<=b)/\Chg C W W'
 | _,_,_=>False
theorem zo2{n:Nat}{P:Program}{g:Operand}{ps:Array Tmp}{assign body:Code}{Q:Exit->Act->World->Prop}{a:Act}{w:World}{gf:FuncId}{lb:Array Value}{xs:List T}{R:Nat->Prop}
  (hg:a.eval g=.func (.func gf) #[] lb)(eg:∀args w,(callFunc gf args).run P w=.ok (.enter gf args) w)(hseq:zz5 (n-1) P gf lb xs R w)(hps:ps.size=2)
  (I Ix:List T->(Nat->Prop)->World->Prop)(C0:Nat->Prop)(hI:∀pre C W W',I pre C W->Chg (fun b=>¬ C b) W W'->I pre C W')(hIx:∀pre C W W',Ix pre C W->Chg (fun b=>¬ C b) W W'->Ix pre C W')
  (hIlt:∀pre C W,I pre C W->∀b,C b->b<W.heap.size)(hIxlt:∀pre C W,Ix pre C W->∀b,C b->b<W.heap.size)(hC:∀b,C0 b->¬ R b)(hRlt:∀b,R b->b<w.heap.size)(h0:I [] C0 w)
  (jm:∀l pre x C W pv v,I pre C W->¬ C l->w.heap.size<=l->l<W.heap.size->(pre++[x]) <+: xs->(∃A m c,pv=.slice A m c)->NV W (fun b=>l<b) x v ->
   assign.wpIn (Fw (some l)) (n-1-1) P (Exit.then (fun a1 W1=>Chg C W W1/\∀W2,Chg (· = l) W1 W2->body.wpIn (Fw (some l)) (n-1-1) P (zzu I Ix (pre++[x]) C W2) a1 W2) (fun _ _ _=>False))
    { tmps:=(ps.zip #[pv,v]).foldl (fun t (p,v)=>t.setIfInBounds p v) a.tmps,defers:=[] } W)
  (hdone:∀D C W',w.heap.size<=D->I xs C W'->Chg C0 w W'->W'.heap[D]?=some (.deferred (some []))->Q .normal { a with defers:={ target:=.collected D,args := #[] }::a.defers } W')
  (hstop:∀D pre C W',w.heap.size<=D->Ix pre C W'->Chg C0 w W'->W'.heap[D]?=some (.deferred (some []))->Code.ret.wpIn (Fw none) n P Q { a with defers:={ target:=.collected D,args := #[] }::a.defers } W') :
  (Code.rangeFunc g ps assign body).wpIn (Fw none) n P Q a w:=by
 refine wpIn_rangeFunc ?_;intro fn hfn;obtain⟨rec,hrec⟩:∃rec:LoopState->Option Code->Loop,rec=fun st pe=>{ state:=st,pending:=pe,fn,tmps:=a.tmps,params:=ps,assign,body,defers:=w.heap.size }:=⟨_,rfl⟩
 obtain⟨W1,hW1⟩:=zX ((w.alloc (.deferred (some []))).alloc (.loop (rec .ready none)));have hL1:W1.heap[w.heap.size+1]?=some (.loop (rec .ready none)):=by
  rw[<-hW1];have:=World.alloc_heap_new (w.alloc (.deferred (some []))) (.loop (rec .ready none));rwa[World.size_alloc]at this
 have hK1:W1.heap[w.heap.size]?=some (.deferred (some [])):=by
  rw[<-hW1];exact(Below.heap_alloc _ _ _ (by simp)).trans (World.alloc_heap_new w _)
 have hb1:Below w.heap.size w W1:=by rw[<-hW1];exact((Below.refl _ w).alloc zl _).alloc (by simp) _
 have hI1:I [] C0 W1:=hI _ _ _ _ h0 (Chg.of_below hb1);have iI:∀b,C0 b->b<w.heap.size:=hIlt _ _ _ h0;refine⟨w.heap.size+1,[{ target:=.collected w.heap.size,args := #[] }],W1,{ target:=.fn (.func gf) lb,args := #[.func (.yield (w.heap.size+1)) #[] #[]] },W1,gf,
  #[.func (.yield (w.heap.size+1)) #[] #[]]++lb,W1,?_,?_,(fun _ _=>trivial),?_,(fun e=>by cases e),?_⟩
 ·rw[<-hW1,hrec];exact run_enterLoop_outer _ _ _ _ _
 ·simp only[resolve,hg];simp[go_sem]
 ·simp[invoke,go_sem,eg]
 ·refine(hseq (w.heap.size+1)
   (fun pre C' W=>∃C,(∀b,C' b↔C b\/b=w.heap.size+1\/b=w.heap.size)/\I pre C W/\¬ C (w.heap.size+1)/\¬ C w.heap.size/\(∀b,C b->b<w.heap.size->C0 b)/\W.heap[w.heap.size+1]?=some (.loop (rec .ready none))/\W.heap[w.heap.size]?=some (.deferred (some [])))
   (fun pre C' W=>∃C,Ix pre C W/\¬ C (w.heap.size+1)/\W.heap[w.heap.size+1]?=some (.loop (rec .done (some .ret)))/\W.heap[w.heap.size]?=some (.deferred (some [])))
   (fun b=>C0 b\/b=w.heap.size+1\/b=w.heap.size) W1 (Array.getElem?_eq_some_iff.1 hL1).1 ?_ (Chg.of_below hb1) ?_ ?_ ?_ ⟨C0,fun _=>Iff.rfl,hI1,(fun h=>by have:=iI _ h;omega),(fun h=>by have:=iI _ h;omega),(fun _ h _=>h),hL1,hK1⟩).mono ?_
  ·intro b hb hr;have:=hRlt b hr;rcases hb with hb|hb|hb
   ·exact hC b hb hr
   ·omega
   ·omega
  ·rintro pre C' W W' ⟨C,hC',hi,h1,h2,h3,hl,hk⟩ hch;refine⟨C,hC',hI _ _ _ _ hi (hch.mono fun b _ hb hc=>hb ((hC' b).2 (.inl hc))),h1,h2,h3,hch.keep hl (fun h=>h ((hC' _).2 (.inr (.inl rfl)))),hch.keep hk (fun h=>h ((hC' _).2 (.inr (.inr rfl))))⟩
  ·rintro pre C' W ⟨C,hC',hi,h1,h2,h3,hl,hk⟩ b hb;rcases(hC' b).1 hb with hb|rfl|rfl
   ·exact hIlt _ _ _ hi b hb
   ·exact(Array.getElem?_eq_some_iff.1 hl).1
   ·exact(Array.getElem?_eq_some_iff.1 hk).1
  ·rintro pre x C' W pv v ⟨C,hC',hi,h1,h2,h3,hl,hk⟩ hpre hpv hn;have hlt:w.heap.size+1<W.heap.size:=(Array.getElem?_eq_some_iff.1 hl).1;have hy:=run_yield (P:=P) (args := #[pv,v]) hl (by rw[hrec];exact hps.symm);rw[hrec]at hy;refine⟨fn,_,assign,body,hy,roundIn_of_wpIn hfn (wpIn_mono (jm (w.heap.size+1) pre x C W pv v hi h1 (by omega) hlt hpre hpv hn) ?_)⟩;rintro e a1 Wa kN
   cases e with
   | normal =>
    obtain⟨sW,hbody⟩:=kN;have hl1:=sW.keep hl h1;have hk1:=sW.keep hk h2;have hlt1:w.heap.size+1<Wa.heap.size:=(Array.getElem?_eq_some_iff.1 hl1).1;refine⟨_,run_beginRound hl1 (by rw[hrec]),?_⟩;have hl2:(Wa.putObj (w.heap.size+1) (.loop { rec .ready none with state:=.busy })).heap[w.heap.size+1]?=some (.loop { rec .ready none with state:=.busy }):=World.putObj_heap_same hlt1;have hk2:(Wa.putObj (w.heap.size+1) (.loop { rec .ready none with state:=.busy })).heap[w.heap.size]?=some (.deferred (some [])):=(World.putObj_heap_other (by omega)).trans hk1;have hc2:Chg (fun b=>C b\/b=w.heap.size+1) W (Wa.putObj (w.heap.size+1) (.loop { rec .ready none with state:=.busy })) :=
     (sW.mono fun _ _ h=>.inl h).trans2 (Chg.putObj Wa (w.heap.size+1) _) (fun b _ h=>.inr h)
    refine wpIn_mono (hbody _ (Chg.putObj _ _ _)) ?_;have fin:∀(jump:Option Code) (W3:World),Chg C (Wa.putObj (w.heap.size+1) (.loop { rec .ready none with state:=.busy })) W3 ->
      (Instr.endRound (w.heap.size+1) jump).run P W3=.ok (.bool jump.isNone) (W3.putObj (w.heap.size+1) (.loop (rec (if jump.isNone then .ready else .done) jump))) /\
      (W3.putObj (w.heap.size+1) (.loop (rec (if jump.isNone then .ready else .done) jump))).heap[w.heap.size+1]?=some (.loop (rec (if jump.isNone then .ready else .done) jump)) /\
      (W3.putObj (w.heap.size+1) (.loop (rec (if jump.isNone then .ready else .done) jump))).heap[w.heap.size]?=some (.deferred (some [])) /\
      Chg C' W (W3.putObj (w.heap.size+1) (.loop (rec (if jump.isNone then .ready else .done) jump))):=fun jump W3 hk3=>by
     have hl3:=hk3.keep hl2 h1;have:=run_endRound (P:=P) jump hl3;rw[hrec]at this ⊢;refine⟨this,World.putObj_heap_same (Array.getElem?_eq_some_iff.1 hl3).1,(World.putObj_heap_other (by omega)).trans (hk3.keep hk2 h2),?_⟩;have hA:Chg (fun b=>C b\/b=w.heap.size+1) W W3:=by
      have:=hc2;rw[hrec]at this hk3;exact this.trans2 hk3 (fun b _ h=>.inl h)
     exact(hA.trans2 (Chg.putObj W3 (w.heap.size+1) _) (fun b _ h=>.inr h)).mono fun b _ hb=>(hC' b).2 (by rcases hb with hb|hb;exact .inl hb;exact .inr (.inl hb))
    rintro e3 a3 W3 hp;have hsz:W.heap.size<=(Wa.putObj (w.heap.size+1) (.loop { rec .ready none with state:=.busy })).heap.size:=hc2.size
    cases e3 with
    | normal =>
     obtain⟨C3,hi3,jG,jy⟩:=hp;have dz:∀b,C3 b->C b\/W.heap.size<=b:=fun b h=>(jG b h).imp id fun h'=>Nat.le_trans hsz h';obtain⟨hr,hl4,hk4,dC⟩:=fin none W3 jy;have dB:¬ C3 (w.heap.size+1):=fun h=>by rcases dz _ h with h|h;exact h1 h;omega
     have sD:¬ C3 w.heap.size:=fun h=>by rcases dz _ h with h|h;exact h2 h;omega
     refine⟨_,_,hr,.inl ⟨rfl,fun b=>C3 b\/b=w.heap.size+1\/b=w.heap.size,⟨C3,fun _=>Iff.rfl,hI _ _ _ _ hi3 ((Chg.putObj _ _ _).mono fun b _ hb hc=>dB (hb▸hc)),dB,sD,?_,hl4,hk4⟩,?_,dC⟩⟩
     ·intro b hb hlt';rcases dz b hb with hb|hb
      ·exact h3 b hb hlt'
      ·omega
     ·intro b hb;rcases hb with hb|hb
      ·rcases dz b hb with hb|hb
       ·exact .inl ((hC' b).2 (.inl hb))
       ·exact .inr (by omega)
      ·exact .inl ((hC' b).2 (.inr hb))
    | ret =>
     obtain⟨C3,hi3,jG,jy⟩:=hp;have dz:∀b,C3 b->C b\/W.heap.size<=b:=fun b h=>(jG b h).imp id fun h'=>Nat.le_trans hsz h';obtain⟨hr,hl4,hk4,dC⟩:=fin (some .ret) W3 jy;have dB:¬ C3 (w.heap.size+1):=fun h=>by rcases dz _ h with h|h;exact h1 h;omega
     exact⟨_,_,hr,.inr ⟨rfl,fun _=>True,⟨C3,hIx _ _ _ _ hi3 ((Chg.putObj _ _ _).mono fun b _ hb hc=>dB (hb▸hc)),dB,hl4,hk4⟩,dC⟩⟩
    | exit id=>exact hp.elim
    | goto t=>exact hp.elim
    | panic ch=>exact hp.elim
    | outgrown=>exact hp.elim
   | exit id=>exact kN.elim
   | goto t=>exact kN.elim
   | ret=>exact kN.elim
   | panic ch=>exact kN.elim
   | outgrown=>exact kN.elim
  ·rintro e W2 ⟨⟨v,rfl⟩,(⟨C',⟨C,hC',hi,h1,h2,h3,hl,hk⟩,hch⟩|⟨pre,C',⟨C,hi,h1,hl,hk⟩,hch⟩)⟩
   all_goals
    have hw2:Chg C0 w W2:=((Chg.of_below hb1).trans2 hch fun b hb hc=>by rcases hc with hc|hc|hc;exact hc;omega;omega)
    have hfin:∀o,Chg C0 w (W2.putObj (w.heap.size+1) o):=fun o=>hw2.trans2 (Chg.putObj W2 (w.heap.size+1) o) fun b hb hc=>by omega
   ·exact⟨none,_,by have:=run_endLoop (P:=P) hl (by rw[hrec];simp);rw[hrec]at this;exact this,hdone _ C _ zl (hI _ _ _ _ hi ((Chg.putObj W2 (w.heap.size+1) _).mono fun b _ (hb:b=w.heap.size+1) hc=>h1 (hb▸hc))) (hfin _) ((World.putObj_heap_other (by omega)).trans hk)⟩
   ·exact⟨some .ret,_,by have:=run_endLoop (P:=P) hl (by rw[hrec];simp);rw[hrec]at this;exact this,hstop _ pre C _ zl (hIx _ _ _ _ hi ((Chg.putObj W2 (w.heap.size+1) _).mono fun b _ (hb:b=w.heap.size+1) hc=>h1 (hb▸hc))) (hfin _) ((World.putObj_heap_other (by omega)).trans hk)⟩
mutual
/-- The nodes of a tree,in pre-order. -/
def po:T->List T
 | .nd k n s ks=>.nd k n s ks::pos ks
def pos:List T->List T
 | []=>[]
 | t::ts=>po t++pos ts
end
theorem znv:∀a b:List T,pos (a++b)=pos a++pos b
 | [],b=>by simp[pos]
 | t::ts,b=>by simp[pos,znv ts b]
theorem zrY{ks:List T}{j:Nat}(h:j<ks.length):pos (ks.take (j+1))=pos (ks.take j)++po ks[j]:=by
 rw[List.take_succ_eq_append_getElem h,znv];simp[pos]
theorem zyb{ks:List T}{j:Nat}(h:j<ks.length):pos (ks.take j)++po ks[j] <+: pos ks:=by
 have e:pos ks=pos (ks.take (j+1))++pos (ks.drop (j+1)):=by rw[<-znv,List.take_append_drop]
 rw[e,zrY h];exact⟨_,rfl⟩
mutual
/-- The depth of a tree. -/
def dep:T->Nat
 | .nd _ _ _ ks=>1+deps ks
def deps:List T->Nat
 | []=>0
 | t::ts=>max (dep t) (deps ts)
end
theorem zpm{t:T}:∀ {ks:List T},t∈ks->dep t<=deps ks
 | u::us,h=>by
  simp only[List.mem_cons]at h;rcases h with rfl|h
  ·simp only[deps];omega
  ·have:=zpm h;simp only[deps];omega
theorem zmH:IsFn prog 55 Tryz.f55:=⟨func55,by kernel_rfl,by kernel_rfl⟩
def zKJ(w:World)(xs:List Int)(v:Value)(w':World):Prop:=∃A' c',v=.slice A' xs.length c'/\RowI w' (From w.heap.size) A' xs/\xs.length<=c'/\Below w.heap.size w w'
theorem zm2{P:Program}{f:FuncId}{args:Array Value}{w:World}{xs:List Int}(h:Calls P f args w (NewI w xs)):Calls P f args w fun e w'=>∃v,e=.returned v/\zKJ w xs v w' :=
 h.mono fun _ _ ⟨A,c,he,hn⟩=>⟨_,he,A,c,rfl,hn⟩
theorem zo0{P:Program}{ops:Array Oper}{o:Oper}{a:Act}{w:World}{K:Act->World->Prop}{Q:Exit->Act->World->Prop}{F:Prop}(hgd:o.guard=none)(x:Operand)(xs:Array Operand)(ats:Array TypeId)
  (ho:o.op=.call { callee:=.value x,args:=xs,argTypes:=ats })(f:FuncId)(fn:Func)(hf:IsFn P f fn)(cap:Array Value)(hv:a.eval x=.func (.func f) #[] cap)(args:Array Value)(hargs:xs.map a.eval++cap=args)(R:Value->World->Prop)
  (hc:Calls P f args w fun e w'=>∃v,e=.returned v/\R v w')(h:∀v w',R v w'->K (a.put o.dst v) w') :
  if Region.wanted o (yielded ops a.tmps)=true then Oper.wp P o a w K Q else F:=by
 have hw:Region.wanted o (yielded ops a.tmps)=true:=by simp[Region.wanted,hgd]
 rw[if_pos hw];subst hargs;have e:(execOp a.eval o).run P w=.ok (.enter f (xs.map a.eval++cap)) w:=by
  unfold execOp;simp only[ho,resolve,hv,Deferred.ofValue,Sem.run_bind,Sem.run_pure,Result.andThen_ok,invoke,zkG hf,Array.empty_append]
 unfold Oper.wp;rw[e,Oper.upon_enter];refine hc.mono ?_;rintro e w' ⟨v,rfl,hR⟩;exact h v w' hR
theorem zke{P:Program}{ops:Array Oper}{o:Oper}{a:Act}{w:World}{K:Act->World->Prop}{Q:Exit->Act->World->Prop}{F:Prop}(hgd:o.guard=none)(x:Operand)(xs:List Operand)(ats:Array TypeId)
  (ho:o.op=.call { callee:=.value x,args:=xs.toArray,argTypes:=ats })(f:FuncId)(fn:Func)(hf:IsFn P f fn)(hv:a.eval x=.func (.func f) #[] #[])(l:List Value)(hargs:xs.map a.eval=l)(R:Value->World->Prop)
  (hc:Calls P f l.toArray w fun e w'=>∃v,e=.returned v/\R v w')(h:∀v w',R v w'->K (a.put o.dst v) w') :
  if Region.wanted o (yielded ops a.tmps)=true then Oper.wp P o a w K Q else F :=
 zo0 hgd x xs.toArray ats ho f fn hf #[] hv l.toArray (by rw[List.map_toArray,hargs,Array.append_empty]) R hc h
theorem zlm{P:Program}{ops:Array Oper}{o:Oper}{a:Act}{w:World}{K:Act->World->Prop}{Q:Exit->Act->World->Prop}{F:Prop}(hgd:o.guard=none)(x:Operand)(xs:List Operand)(ats:Array TypeId)
  (ho:o.op=.call { callee:=.value x,args:=xs.toArray,argTypes:=ats })(f:FuncId)(fn:Func)(hf:IsFn P f fn)(cap:Array Value)(hv:a.eval x=.func (.func f) #[] cap)(l:List Value)(hargs:xs.map a.eval=l)(R:Value->World->Prop)
  (hc:Calls P f (l.toArray++cap) w fun e w'=>∃v,e=.returned v/\R v w')(h:∀v w',R v w'->K (a.put o.dst v) w') :
  if Region.wanted o (yielded ops a.tmps)=true then Oper.wp P o a w K Q else F :=
 zo0 hgd x xs.toArray ats ho f fn hf cap hv _ (by rw[List.map_toArray,hargs]) R hc h
def RowS(w:World)(A:Option Addr)(ss:List ByteArray):Prop:=∀i (hi:i<ss.length),∃a:Addr,A=some a/\w.cell? (a.add i)=some (.string ss[i])
theorem RowS.later{w w':World}{A:Option Addr}{ss:List ByteArray}(h:RowS w A ss)(hb:Below w.heap.size w w'):RowS w' A ss:=fun i hi =>
 let ⟨a,h1,h2⟩:=h i hi;⟨a,h1,zb hb h2⟩
theorem RowS.nd{w:World}{A:Option Addr}{ss:List ByteArray}(h:RowS w A ss){i:Nat}(hi:i<ss.length):∃(a:Addr) (s:ByteArray),A=some a/\Hid (ss[i]=s)/\w.cell? (a.add i)=some (.string s) :=
 let ⟨a,h1,h2⟩:=h i hi;⟨a,ss[i],h1,rfl,h2⟩
theorem zkL{B:Nat}{w w':World}(h:Below B w w')(n:Nat):Below B w (w'.drewN n):=⟨h.os,h.tape,h.output,h.size,h.block⟩
structure FS(W:World)(n0 fb N:Nat)(pv:Value):Prop where
 box:W.heap[fb]?=some (.cells #[pv] 68 (0,0))
 row:∃xs,W.ownsRow n0 104 4 pv N xs
 ge:n0<=fb
 ne:pv.ownBlock≠some fb
section
variable {W W':World} {n0 fb N N':Nat} {pv pv':Value}
theorem FS.lt(h:FS W n0 fb N pv):fb<W.heap.size/\∀b,pv.ownBlock=some b->n0<=b/\b<W.heap.size:=⟨zkf h.box,let ⟨_,hr⟩:=h.row;hr.lt⟩
theorem FS.chg{C:Nat->Prop}(h:FS W n0 fb N pv)(hc:Chg C W W')(hC:∀b,b=fb\/pv.ownBlock=some b->¬ C b):FS W' n0 fb N pv:=by
 refine⟨hc.keep h.box (hC _ (.inl rfl)),?_,h.ge,h.ne⟩;obtain⟨xs,e1,h2⟩:=h.row;refine⟨xs,e1,?_⟩;rcases h2 with h2|⟨g,cap,cur,rfl,hb,hg,h3⟩
 ·exact .inl h2
 ·exact .inr ⟨g,cap,cur,rfl,hb,hc.keep hg (hC _ (.inr rfl)),h3⟩
theorem FS.later(h:FS W n0 fb N pv)(hb:Below W.heap.size W W'):FS W' n0 fb N pv:=h.chg (C:=fun _=>False) (Chg.of_below hb) (fun _ _ h=>h)
theorem FS.put(h:FS W n0 fb N pv)(ho:∃xs,W'.ownsRow n0 104 4 pv' N' xs)(hg:W.grownBy W' pv.ownBlock)(aY:∀b,pv'.ownBlock=some b->pv.ownBlock=some b\/W.heap.size<=b) :
  FS (W'.setCell ⟨fb,0,none⟩ pv') n0 fb N' pv':=by
 have hp':W'.heap[fb]?=some (.cells #[pv] 68 (0,0)):=(hg.block _ (zkf h.box) (fun e=>h.ne e.symm)).trans h.box;have kL:pv'.ownBlock≠some fb:=fun e=>by
  rcases aY _ e with e|e
  ·exact h.ne e
  ·have:=zkf h.box;omega
 refine⟨by have:=heap_setCell_same W' fb 0 _ _ pv' hp';simpa using this,?_,h.ge,kL⟩;obtain⟨xs,e1,h2⟩:=ho;refine⟨xs,e1,?_⟩;rcases h2 with h2|⟨g,cap,cur,rfl,hb,hg',h3⟩
 ·exact .inl h2
 ·refine .inr ⟨g,cap,cur,rfl,hb,?_,h3⟩;rw[Below.heap_setCell _ _ _ _ (fun e=>kL (by subst e;rfl))];exact hg'
theorem FS.slice(h:FS W n0 fb N pv):∃A c,pv=.slice A N c:=by
 obtain⟨xs,e1,h2⟩:=h.row;rcases h2 with⟨rfl,rfl⟩|⟨g,cap,cur,rfl,_⟩
 ·exact⟨_,_,rfl⟩
 ·exact⟨_,_,rfl⟩
end
def RepP(W:World)(n0 fb:Nat)(pv:Value)(N':Nat)(e:Ending)(W':World):Prop :=
 (∃v,e=.returned v)/\∃pv',FS W' n0 fb N' pv'/\(∀b,pv'.ownBlock=some b->pv.ownBlock=some b\/W.heap.size<=b)/\Chg (fun b=>b=fb\/pv.ownBlock=some b) W W'
def one1(e:Int):Nat:=if e=0 then 0 else 1
theorem zyB:(prog.info? 104).map (fun i=>(i.zero,i.size,i.bytes))=some (some (.agg #[.int .i64 0,.slice none 0 0,.int .i64 0,.string ⟨#[]⟩]),4,56):=by kernel_rfl
theorem zzU(p:Int)(A:Option Addr)(l c:Nat)(e:Int)(s:ByteArray)(w:World):(Instr.build 104 #[(0,.int .i64 p),(1,.slice A l c),(2,.int .i64 e),(3,.string s)]).run prog w=.ok (.agg #[.int .i64 p,.slice A l c,.int .i64 e,.string s]) w:=by kernel_rfl
theorem zyQ(a0 a1 a2 a3:Value)(w:World):(Instr.buildSlice 68 1 #[(0,.agg #[a0,a1,a2,a3])]).run prog w=.ok (.slice (some ⟨w.heap.size,0,none⟩) 1 1) (w.alloc (.cells #[a0,a1,a2,a3] 104)):=by kernel_rfl
theorem zmE(n0 fb N:Nat)(pv:Value)(pr er:Int)(q:List Int)(A:Option Addr)(c:Nat)(s:ByteArray)(S:Nat->Prop)(W:World)(hfs:FS W n0 fb N pv)(hq:RowI W S A q)(lJ:q.length<=100000)(hN:N<=1000000) :
  Calls prog 54 #[.int .i64 pr,.slice A q.length c,.string s,.int .i64 er,.pointer (some ⟨fb,0,none⟩)] W (RepP W n0 fb pv (N+one1 er)):=by
 obtain⟨i0,hi0,hz0,hz1,hz2⟩:=info_parts zyB;obtain⟨Ap,cp,rfl⟩:=hfs.slice;have yt:=zh hfs;have HQ:=zh hq;have hc0:W.cell? ⟨fb,0,none⟩=some (.slice Ap N cp):=zc hfs.box rfl;have hbf:=zzU;have hbs:=zyQ;have hge:=hfs.ge;have hlf:=hfs.lt.1;clear hfs hq;by_cases he:er=0
 ·subst he;clear hc0;go_enter func54,ntmps54;go_wp2_with fail;go_end0;exact⟨⟨_,rfl⟩,_,yt.out,fun b hb=>.inl hb,Chg.refl _ _⟩
 ·have e1:(er==0)=false:=by simpa using he
  have e2:(er != 0)=true:=by simpa using he
  have HONE:=zh (show one1 er=1 by simp[one1,he]);rw[HONE.out];clear he;go_enter func54,ntmps54;go_upto_region 1 with fail;have hSS:zU W.drew/\(fun w':World=>zv w' fb 0 (.slice Ap N cp)) W.drew:=⟨trivial,hc0⟩
  refine wp_region_noPanic ?_;refine zkk zU (fun w':World=>zv w' fb 0 (.slice Ap N cp)) 8 (by kernel_rfl) ?_;refine zJ 0 hSS ?_;refine zT 1 hSS ?_;refine zT 2 hSS ?_;refine zT 4 hSS ?_;refine zT 5 hSS ?_;refine zo 3 fun K hK=>?_;refine zl2 (by rfl) (.func 55) (.tmp 13) _ (by rfl) 55 _ zmH (by rfl) _ (by rfl) _ (zm2 (zpt q A c S _ (HQ.out.later zr.drew) (by unfold LI;omega))) ?_;rintro v2 w2 ⟨A2,c2,rfl,_,_,ah⟩;have b2:=zka (zs W).drew ah;have iD:=yt.out.later b2;have g2:w2.cell? ⟨fb,0,none⟩=some (.slice Ap N cp):=zc iD.box rfl;have aC:zU w2/\(fun w':World=>zv w' fb 0 (.slice Ap N cp)) w2:=⟨trivial,g2⟩
  refine hK.out _ _ aC ?_;clear hK K hSS;(try simp only[zQ]);refine zT 6 aC ?_;refine zo 7 fun K hK=>?_;(try simp only[zA,zB,zC]);go_simp;refine hK.out _ _ ⟨trivial,zkj g2 _⟩ ?_;clear hK K aC;(try simp only[zQ]);obtain⟨xs,hrow⟩:=iD.row;have hl2:=iD.lt;refine zp 8 fun K hK=>?_;refine zkT (by rfl) (.tmp 11) (.tmp 18) 68 (by rfl) n0 104 i0 _ 4 56 underlying68 hi0 hz0 hz1 hz2 rfl (by decide) (.slice Ap N cp) N xs (by rfl) (hrow.alloc _) ⟨w2.heap.size,0,none⟩ 1 1 [.int .i64 pr,.slice A2 q.length c2,.int .i64 er,.string s] (by rfl) rfl (zkR w2 _ _) (by intro u hu;simp at hu;rcases hu with rfl|rfl|rfl|rfl<;>rfl) (by unfold maxLen;omega) (by omega) (by simp;omega) ?_;intro v' w' h2 h3 h5
  have hput:=iD.put (W':=w') (pv':=v') (N':=N+1) ⟨_,h2⟩ ⟨h3.os,h3.tape,h3.output,Nat.le_trans (by simp) h3.size,fun b hb hne=>(h3.block b (by simp;omega) hne).trans (Below.heap_alloc w2 _ b hb)⟩ (fun b hb=>by rcases h5 with h5|h5;exact .inl (h5▸hb);exact .inr (by rw[h5]at hb;injection hb with hb;simp at hb;omega));have rY:∀b,v'.ownBlock=some b->(Value.slice Ap N cp).ownBlock=some b\/W.heap.size<=b:=fun b hb=>by
   have:=b2.size;rcases h5 with h5|h5
   ·exact .inl (h5▸hb)
   ·exact .inr (by rw[h5]at hb;injection hb with hb;simp at hb;omega)
  have hch:Chg (fun b=>b=fb\/(Value.slice Ap N cp).ownBlock=some b) W (w'.setCell ⟨fb,0,none⟩ v'):=(((Chg.of_below b2).alloc _).trans2 (Chg.row h3) (fun b _ h=>.inr h)).setCell (.inl (.inl rfl)) _;have hbx:=(h3.block _ (by have:=zkf iD.box;simp;omega) (fun e=>iD.ne e.symm)).trans (zkd iD.box _);have hy0:w'.cell? ⟨fb,0,none⟩=some (.slice Ap N cp):=zc hbx rfl;have hy1:w'.frozen? ⟨fb,0,none⟩=false:=zf hbx;obtain⟨g8,aA,rfl⟩:=ownsRow_succ h2;have HP:=zh hput;have HO:=zh rY;have fQ:=zh hch;clear hput rY hch hbx h2 h3 h5 hrow iD;refine hK.out _ _ trivial ?_;clear hK K;(try simp only[zQ]);refine zp 9 fun K hK=>?_;(try simp only[zA,zB,zC]);go_simp;refine hK.out _ _ trivial ?_;clear hK K;(try simp only[zQ]);refine zd ?_;refine NoPanic.normal ?_;go_wp2_with fail;go_end0;exact⟨⟨_,rfl⟩,_,HP.out,HO.out,fQ.out⟩
structure RepC(f:FuncId)(cap:Array Value)(Rd:World->Prop)(n0 fb:Nat):Prop where
 fn:∃fn,IsFn prog f fn
 keep:∀W W' pv N,Rd W->FS W n0 fb N pv->Chg (fun b=>b=fb\/pv.ownBlock=some b) W W'->Rd W'
 call:∀(N:Nat) (pv:Value) (er:Int) (q:List Int) (A:Option Addr) (c:Nat) (s:ByteArray) (S:Nat->Prop) (W:World),Rd W->FS W n0 fb N pv->RowI W S A q->q.length<=100000->N<=1000000 ->
  Calls prog f (#[.slice A q.length c,.string s,.int .i64 er]++cap) W (RepP W n0 fb pv (N+one1 er))
theorem FS.other{W:World}{n0 fb N:Nat}{pv:Value}{b:Nat}{cs:Array Value}{E:TypeId}(h:FS W n0 fb N pv)(hb:W.heap[b]?=some (.cells cs E (0,0)))(h1:E≠68)(h2:E≠104):¬ (b=fb\/pv.ownBlock=some b):=by
 rintro(rfl|ho)
 ·have:=h.box;rw[hb]at this;injection this with this;injection this with _ e;exact h1 e
 ·obtain⟨xs,e1,h2'⟩:=h.row;rcases h2' with⟨rfl,_⟩|⟨g,cap,cur,rfl,_,hg,_⟩
  ·simp[Value.ownBlock]at ho
  ·simp[Value.ownBlock]at ho;subst ho;rw[hb]at hg;injection hg with hg;injection hg with _ e;exact h2 e
theorem zzK:IsFn prog 59 f59:=⟨func59,by kernel_rfl,by kernel_rfl⟩
theorem zzJ:IsFn prog 60 f60:=⟨func60,by kernel_rfl,by kernel_rfl⟩
theorem zsp(n0 fb rb ib:Nat)(k:Int):RepC 59 #[.pointer (some ⟨rb,0,none⟩),.pointer (some ⟨ib,0,none⟩)]
  (fun W=>W.heap[rb]?=some (.cells #[.func (.func 54) #[] #[.pointer (some ⟨fb,0,none⟩)]] 105 (0,0))/\W.heap[ib]?=some (.cells #[.int .i64 k] 3 (0,0))) n0 fb where
 fn:=⟨_,zzK⟩
 keep W W' pv N h hfs hc:=⟨hc.keep h.1 (hfs.other h.1 (by decide) (by decide)),hc.keep h.2 (hfs.other h.2 (by decide) (by decide))⟩
 call N pv er q A c s S W h hfs hq lJ hN:=by
  have x0:W.cell? ⟨rb,0,none⟩=some (.func (.func 54) #[] #[.pointer (some ⟨fb,0,none⟩)]):=zc h.1 rfl;have x1:W.cell? ⟨ib,0,none⟩=some (.int .i64 k):=zc h.2 rfl;have HC:=zh (zmE n0 fb N pv k er q A c s S W hfs hq lJ hN);clear h hfs hq
  show Calls prog 59 #[.slice A q.length c,.string s,.int .i64 er,.pointer (some ⟨rb,0,none⟩),.pointer (some ⟨ib,0,none⟩)] W _
  go_enter func59,ntmps59;go_wp2_with fail;refine HC.out.mono ?_;rintro e W' ⟨⟨v,rfl⟩,hp⟩;have HP:=zh hp;clear hp;go_wp2_with fail;go_end0;exact⟨⟨_,rfl⟩,HP.out⟩
theorem zxv(n0 fb rb pb:Nat)(A1:Option Addr)(l1 c1:Nat)(A2:Option Addr)(l2 c2:Nat)(k n:Int)(sn:ByteArray)(A3:Option Addr)(l3 c3:Nat):RepC 60 #[.pointer (some ⟨rb,0,none⟩),.pointer (some ⟨pb,0,none⟩)]
  (fun W=>W.heap[rb]?=some (.cells #[.func (.func 54) #[] #[.pointer (some ⟨fb,0,none⟩)]] 105 (0,0))/\W.heap[pb]?=some (.cells #[.slice A1 l1 c1,.slice A2 l2 c2,.int .u8 k,.int .i64 n,.string sn,.slice A3 l3 c3] 30 (0,0))) n0 fb where
 fn:=⟨_,zzJ⟩
 keep W W' pv N h hfs hc:=⟨hc.keep h.1 (hfs.other h.1 (by decide) (by decide)),hc.keep h.2 (hfs.other h.2 (by decide) (by decide))⟩
 call N pv er q A c s S W h hfs hq lJ hN:=by
  have x0:W.cell? ⟨rb,0,none⟩=some (.func (.func 54) #[] #[.pointer (some ⟨fb,0,none⟩)]):=zc h.1 rfl;have x1:W.cell? ⟨pb,1,none⟩=some (.slice A2 l2 c2):=zc h.2 rfl;have HC:=zh (zmE n0 fb N pv l2 er q A c s S W hfs hq lJ hN);clear h hfs hq
  show Calls prog 60 #[.slice A q.length c,.string s,.int .i64 er,.pointer (some ⟨rb,0,none⟩),.pointer (some ⟨pb,0,none⟩)] W _
  go_enter func60,ntmps60;go_wp2_with fail;refine HC.out.mono ?_;rintro e W' ⟨⟨v,rfl⟩,hp⟩;have HP:=zh hp;clear hp;go_wp2_with fail;go_end0;exact⟨⟨_,rfl⟩,HP.out⟩
theorem zun(k n:Int)(s:ByteArray)(ks:List T):isB (.nd k n s ks)=true↔k=57/\zko n s=true/\∀t∈ks,isS t=true:=by
 rw[isB];simp only[Bool.and_eq_true,decide_eq_true_eq,and_assoc];refine and_congr Iff.rfl (and_congr Iff.rfl ?_);rw[zpJ 0,zkH]
 constructor
 ·intro h t ht;obtain⟨q,hq,rfl⟩:=List.getElem_of_mem ht;exact h q hq
 ·intro h q hq;exact h _ (List.getElem_mem hq)
theorem zyo{t:T}(h:isB t=true):t.k=57:=by cases t;exact((zun _ _ _ _).1 h).1
theorem zmU{x:T}:∀ {l:List T},x∈pos l↔∃t∈l,x∈po t
 | []=>by simp[pos]
 | t::ts=>by simp[pos,zmU (l:=ts)]
theorem zua:∀(ks:List T),(∀t∈ks,∀d l,lim t d l=if dep t<=d/\size t<=l then some (l-size t)else none)->∀d l,lims ks d l=if deps ks<=d/\zkU ks<=l then some (l-zkU ks)else none
 | [],_,d,l=>by simp[lims,deps,zkU]
 | t::ts,h,d,l=>by
  have e1:deps (t::ts)=max (dep t) (deps ts):=by rw[deps]
  have e2:zkU (t::ts)=size t+zkU ts:=by rw[zkU]
  rw[lims,h t (by simp) d l];by_cases h1:dep t<=d/\size t<=l
  ·rw[if_pos h1];simp only;rw[zua ts (fun u hu=>h u (by simp[hu])) d (l-size t)];by_cases h2:deps ts<=d/\zkU ts<=l-size t
   ·rw[if_pos h2,if_pos ⟨by omega,by omega⟩];congr 1;omega
   ·rw[if_neg h2,if_neg (by omega)]
  ·rw[if_neg h1];simp only;rw[if_neg (by omega)]
theorem zxA(t:T):∀d l,lim t d l=if dep t<=d/\size t<=l then some (l-size t)else none:=by
 induction t using T.ind with
 | _ k n s ks ih =>
 intro d l;have e1:dep (.nd k n s ks)=1+deps ks:=by rw[dep]
 have e2:size (.nd k n s ks)=1+zkU ks:=by rw[size]
 rw[lim];by_cases h:d=0\/l=0
 ·rw[if_pos h,if_neg (by omega)]
 ·rw[if_neg h,zua ks ih];by_cases h2:deps ks<=d-1/\zkU ks<=l-1
  ·rw[if_pos h2,if_pos ⟨by omega,by omega⟩];congr 1;omega
  ·rw[if_neg h2,if_neg (by omega)]
theorem zri(t:T):zkY t=true↔(dep t<=80/\size t<=2000)/\isB t=true:=by
 unfold zkY;rw[zxA,Bool.and_eq_true];by_cases h:dep t<=80/\size t<=2000
 ·rw[if_pos h];simp[h]
 ·rw[if_neg h];simp[h]
theorem zpK{k n:Int}{s:ByteArray}{ks:List T}(h:isE (.nd k n s ks)=true):∀t∈ks,isE t=true:=by
 have key:isEs ks=true->∀t∈ks,isE t=true:=by
  intro h t ht;rw[znz 0,zkH]at h;obtain⟨i,hi,rfl⟩:=List.getElem_of_mem ht;exact h i hi
 have nil:decide (ks.length=0)=true->∀t∈ks,isE t=true:=by
  intro h t ht;have:ks=[]:=by simpa using h
  rw[this]at ht;cases ht
 rw[isE]at h
 split at h
 ·simp only[Bool.and_eq_true]at h;exact nil h.2
 split at h
 ·simp only[Bool.and_eq_true]at h;exact nil h.2
 split at h
 ·simp only[Bool.and_eq_true]at h;exact key h.2.2
 split at h
 ·simp only[Bool.and_eq_true]at h;exact key h.2.2
 split at h
 ·simp only[Bool.and_eq_true]at h;exact key h.2.2
 ·cases h
theorem zul{t:T}(h:isP t=true):isE t=true:=by unfold isP at h;simp only[Bool.and_eq_true]at h;exact h.2
theorem zKv{t:T}(h:isV t=true):isE t=true:=by unfold isV at h;simp only[Bool.and_eq_true]at h;exact h.2
theorem zm6{m:Nat}{p:Nat->T->Bool}{ks:List T}(h:zkC m p ks=true){t:T}(ht:t∈ks):∃i,p i t=true:=by
 unfold zkC at h;simp only[Bool.and_eq_true]at h;have:=(zkH p 0 ks).1 h.2;obtain⟨i,hi,rfl⟩:=List.getElem_of_mem ht;exact⟨0+i,this i hi⟩
theorem zpL{d:Nat}{ks:List T}(h:isEB d ks=true){t:T}(ht:t∈ks):isE t=true\/isB t=true:=by
 have h':isEB (d+0) ks=true:=h;rw[zmd d 0]at h';have:=(zkH _ 0 ks).1 h';obtain⟨i,hi,rfl⟩:=List.getElem_of_mem ht;have h2:=this i hi;unfold pEB at h2
 split at h2
 ·exact .inl h2
 ·exact .inr h2
theorem zui{k n:Int}{s:ByteArray}{ks:List T}(h:isS (.nd k n s ks)=true):k≠57/\∀t∈ks,isE t=true\/isB t=true:=by
 rw[isS]at h
 split at h
 ·rename_i hk;simp only[Bool.and_eq_true]at h;refine⟨by omega,fun t ht=>?_⟩;obtain⟨i,hi⟩:=zm6 h.2 ht
  split at hi
  ·exact .inl (zul hi)
  ·exact .inl hi
 split at h
 ·rename_i hk;simp only[Bool.and_eq_true]at h;refine⟨by omega,fun t ht=>?_⟩;obtain⟨i,hi⟩:=zm6 h.2 ht;exact .inl (zul hi)
 split at h
 ·rename_i hk;simp only[Bool.and_eq_true]at h;refine⟨by omega,fun t ht=>?_⟩;obtain⟨i,hi⟩:=zm6 h.2 ht;exact .inl (zul hi)
 split at h
 ·rename_i hk;simp only[Bool.and_eq_true]at h;refine⟨by omega,fun t ht=>?_⟩;obtain⟨i,hi⟩:=zm6 h.2 ht;exact .inl (zul hi)
 split at h
 ·rename_i hk;simp only[Bool.and_eq_true]at h;refine⟨by omega,fun t ht=>?_⟩;have:=(zkH _ 0 ks).1 h.2;obtain⟨i,hi,rfl⟩:=List.getElem_of_mem ht;exact .inl (zKv (this i hi))
 split at h
 ·rename_i hk;simp only[Bool.and_eq_true]at h;exact⟨by omega,fun t ht=>zpL h.2.2 ht⟩
 split at h
 ·rename_i hk;simp only[Bool.and_eq_true]at h;exact⟨by omega,fun t ht=>zpL h.2.2 ht⟩
 split at h
 ·rename_i hk;simp only[Bool.and_eq_true]at h;exact⟨by omega,fun t ht=>zpL h.2.2 ht⟩
 ·cases h
theorem zm7{k n:Int}{s:ByteArray}{ks:List T}(h:isS (.nd k n s ks)=true) :
  ((k≠52/\k≠53/\k≠54/\k≠55/\k≠57)/\∀t∈ks,t.k≠57) \/
  ((k=52\/k=53)/\zko n s=true/\∃a b c d,ks=[a,b,c,d]/\isE a=true/\isB b=true/\isB c=true/\isE d=true) \/
  (k=54/\zky n s=true/\∃a b c,ks=[a,b,c]/\isE a=true/\isB b=true/\isE c=true) \/
  (k=55/\zky n s=true/\∃b,ks=[b]/\isB b=true):=by
 have key:∀(p:Nat->T->Bool),(∀j t,p j t=true->t.k≠57)->zkv p 0 ks=true->∀t∈ks,t.k≠57:=by
  intro p hp hk t ht;obtain⟨q,hq,rfl⟩:=List.getElem_of_mem ht;exact hp _ _ ((zkH p 0 ks).1 hk q hq)
 have kE:∀t,isE t=true->t.k≠57:=fun t h1=>by have:=zum t h1;omega
 rw[isS]at h
 repeat' split at h
 ·simp only[zkC,Bool.and_eq_true]at h;exact .inl ⟨by omega,key _ (fun j t hj=>by split at hj;exact zuk t hj;exact kE t hj) h.2.2⟩
 ·simp only[zkC,Bool.and_eq_true]at h;exact .inl ⟨by omega,key _ (fun j t=>zuk t) h.2.2⟩
 ·simp only[zkC,Bool.and_eq_true]at h;exact .inl ⟨by omega,key _ (fun j t=>zuk t) h.2.2⟩
 ·simp only[zkC,Bool.and_eq_true]at h;exact .inl ⟨by omega,key _ (fun j t=>zuk t) h.2.2⟩
 ·simp only[Bool.and_eq_true]at h;exact .inl ⟨by omega,key _ (fun j t=>zzA t) h.2⟩
 ·rename_i hk;simp only[Bool.and_eq_true,decide_eq_true_eq]at h;obtain⟨h1,h2,h3⟩:=h
  match ks,h2 with
  | [a,b,c,d],_ =>
   simp only[isEB,Bool.and_eq_true,Bool.and_true]at h3;simp at h3;exact .inr (.inl ⟨hk,h1,a,b,c,d,rfl,h3.1,h3.2.1,h3.2.2.1,h3.2.2.2⟩)
 ·rename_i hk;simp only[Bool.and_eq_true,decide_eq_true_eq]at h;obtain⟨h1,h2,h3⟩:=h
  match ks,h2 with
  | [a,b,c],_ =>
   simp only[isEB,Bool.and_eq_true,Bool.and_true]at h3;simp at h3;exact .inr (.inr (.inl ⟨hk,h1,a,b,c,rfl,h3.1,h3.2.1,h3.2.2⟩))
 ·rename_i hk;simp only[Bool.and_eq_true,decide_eq_true_eq]at h;obtain⟨h1,h2,h3⟩:=h
  match ks,h2 with
  | [b],_ =>
   simp only[isEB,Bool.and_eq_true,Bool.and_true]at h3;simp at h3;exact .inr (.inr (.inr ⟨hk,h1,b,rfl,h3⟩))
 ·cases h
def zKd(f:FO)(us:List Value):Prop:=∃k n s A l c,us=[.int .u8 k,.int .i64 n,.string s,.slice A l c,.int .i64 f.v,.bool f.c]
inductive zpY:List FO->List Value->Prop
 | nil:zpY [] []
 | snoc {fs:List FO} {xs:List Value} {f:FO} {us:List Value}:zpY fs xs->zKd f us->zpY (fs++[f]) (xs++us)
theorem zpY.len{fs:List FO}{xs:List Value}(h:zpY fs xs):xs.length=fs.length*6:=by
 induction h with
 | nil=>rfl
 | snoc _ hc ih=>obtain⟨_,_,_,_,_,_,rfl⟩:=hc;simp[ih];omega
theorem zpY.get{fs:List FO}{xs:List Value}(h:zpY fs xs):∀i (hi:i<fs.length),∃us,zKd fs[i] us/\∀j,j<6->xs[i*6+j]?=us[j]?:=by
 induction h with
 | nil=>intro i hi;simp at hi
 | @snoc fs xs f us h hc ih =>
  intro i hi;have hl:=h.len;by_cases hlt:i<fs.length
  ·obtain⟨us',h1,h2⟩:=ih i hlt;rw[List.getElem_append_left hlt];refine⟨us',h1,fun j hj=>?_⟩;rw[List.getElem?_append_left (by omega)];exact h2 j hj
  ·obtain rfl:i=fs.length:=by simp at hi;omega
   refine⟨us,by simpa using hc,fun j hj=>?_⟩;rw[List.getElem?_append_right (by omega),show fs.length*6+j-xs.length=j by omega]
theorem zqk{w:World}{base:Nat}{E:TypeId}{v:Value}{fs:List FO}{xs:List Value}(h:w.ownsRow base E 6 v fs.length xs)(hx:zpY fs xs)(hf:∀f∈fs,I64 f.v):∃A c,v=.slice A fs.length c/\fs.length<=c/\RowF w Any A fs:=by
 rcases h.2 with⟨rfl,h0⟩|⟨g,cap,cur,rfl,hb,hg,hc,hm,hz,hx'⟩
 ·exact⟨none,0,by rw[h0],by omega,fun i hi=>absurd hi (by omega)⟩
 ·refine⟨some ⟨g,0,none⟩,cap,rfl,hc,fun i hi=>?_⟩;have ha:(⟨g,0,none⟩:Addr).add (i*6)=⟨g,i*6,none⟩:=by unfold Addr.add;split<;>simp_all
  obtain⟨us,⟨k,n,s,A,l,c,rfl⟩,h2⟩:=hx.get i hi;have cc:∀j,j<6->w.cell? ⟨g,i*6+j,none⟩=([.int .u8 k,.int .i64 n,.string s,.slice A l c,.int .i64 fs[i].v,.bool fs[i].c]:List Value)[j]?:=fun j hj=>by
   rw[h.cellAt _ (by omega),h2 j hj]
  refine⟨⟨g,0,none⟩,rfl,trivial,?_,hf _ (List.getElem_mem hi)⟩;rw[ha];exact⟨k,n,s,A,l,c,by simpa using cc 0 (by omega),by simpa using cc 1 (by omega),by simpa using cc 2 (by omega),by simpa using cc 3 (by omega),by simpa using cc 4 (by omega),by simpa using cc 5 (by omega)⟩
abbrev fv(k n:Int)(s:ByteArray)(A:Option Addr)(l c:Nat)(f:FO):Value:=.agg #[.int .u8 k,.int .i64 n,.string s,.slice A l c,.int .i64 f.v,.bool f.c]
def NewF(w:World)(f:FO)(e:Ending)(w':World):Prop:=∃k n s A l c,e=.returned (fv k n s A l c f)/\I64 f.v/\Below w.heap.size w w'
def zzd(t:T):Prop:=∀(v:Value) (w:World),NV w Any t v->Calls prog 164 #[v] w (NewF w (zlF t))
theorem zwx:(prog.info? 208).map (fun i=>(i.zero,i.size,i.bytes))=some (some (.agg #[.int .u8 0,.int .i64 0,.string ⟨#[]⟩,.slice none 0 0,.int .i64 0,.bool false]),6,72):=by kernel_rfl
theorem zw1(a0 a1 a2 a3 a4 a5:Value)(w:World):(Instr.buildSlice 217 1 #[(0,.agg #[a0,a1,a2,a3,a4,a5])]).run prog w=.ok (.slice (some ⟨w.heap.size,0,none⟩) 1 1) (w.alloc (.cells #[a0,a1,a2,a3,a4,a5] 208)):=by kernel_rfl
theorem zuN(ks:List T)(A:Option Addr)(c:Nat)(w:World)(hrow:zkP w Any A ks)(hl:ks.length<=8)(hF:∀kid∈ks,zzd kid) :
  Calls prog 176 #[.slice A ks.length c,.func (.func 164) #[] #[]] w fun e w'=>∃A' c',e=.returned (.slice A' ks.length c')/\RowF w' Any A' (ks.map zlF)/\Below w.heap.size w w':=by
 obtain⟨i0,hi0,hz0,hz1,hz2⟩:=info_parts zwx;have HF:=zh hF;have ae:=zh hrow;clear hF hrow;have hbs:=zw1;go_enter func176,ntmps176;go_wp2_with fail
 go_loopw [5,10] (fun x i wr=>∃(j:Nat) (xs:List Value),j<=ks.length/\i=.int .i64 j/\wr.ownsRow w.heap.size 208 6 x j xs/\zpY ((ks.take j).map zlF) xs/\(∀f∈(ks.take j).map zlF,I64 f.v)/\Below w.heap.size w wr) (fun _ i _=>ks.length-(intOf i).toNat)
 case atStart=>exact⟨0,[],Nat.zero_le _,rfl,World.ownsRow_nil _ _ _ _,.nil,by simp,zr⟩
 case round =>
  obtain⟨j,xs,hj,rfl,hown,hfl,hf64,hbw⟩:=hrel;have mE:∃A3 c3,u5=.slice A3 j c3:=by
   rcases hown.2 with⟨rfl,rfl⟩|⟨g,cap,cur,rfl,_⟩
   ·exact⟨_,_,rfl⟩
   ·exact⟨_,_,rfl⟩
  obtain⟨A3,c3,rfl⟩:=mE;have HOWN:=zh hown;have ik:=zh hfl;have HF64:=zh hf64;have aU:=zh hbw;clear hown hfl hf64;by_cases hlt:j<ks.length
  ·obtain⟨a,t,A1,c1,rfl,_,Ht,⟨q0,q1,q2,q3⟩,hn⟩:=(ae.out.later hbw).nd hlt;have hF1:=HF.out ks[j] (List.getElem_mem hlt);rw[Ht.out]at hF1;have qZ:=zh hF1;have HN:=zh hn;clear hF1 hn hbw;go_wp2_with fail;refine(qZ.out _ _ (HN.out.later (zr.alloc zl _))).mono ?_;rintro e w1 ⟨k',n',s',A',l',c',rfl,h64,aa⟩;have hb1:Below wr.heap.size wr w1:=zka (zkb zr _) aa;have hown1:=(zkJ HOWN.out hb1).alloc (.cells #[.int .u8 k',.int .i64 n',.string s',.slice A' l' c',.int .i64 (zlF t).v,.bool (zlF t).c] 208);have HB1:=zh hb1;have hbz:=aU.out.size;have hbz1:=hb1.size;have fE:=zh (zkR w1 208 [.int .u8 k',.int .i64 n',.string s',.slice A' l' c',.int .i64 (zlF t).v,.bool (zlF t).c]);clear q0 q1 q2 q3 aa
   go_wp2_with (at_builtin;refine wpList_append_own_at (P:=prog) _ rfl (.tmp 14) (.tmp 18) 217 rfl w.heap.size 208 i0 _ 6 72 underlying217 hi0 hz0 hz1 hz2 rfl (by decide) (.slice A3 j c3) j xs rfl hown1 ⟨w1.heap.size,0,none⟩ 1 1 [.int .u8 k',.int .i64 n',.string s',.slice A' l' c',.int .i64 (zlF t).v,.bool (zlF t).c] rfl rfl fE.out (by intro u hu;simp at hu;rcases hu with rfl|rfl|rfl|rfl|rfl|rfl<;>rfl) (by unfold maxLen;omega) (by omega) (by simp;omega) ?_;intro v' w' h2 h3 h4 h5)
   have hbl:Below w.heap.size w w':=(zkb (zka aU.out HB1.out) _).grown h3 (by simp;omega) (fun g e=>(hown1.lt g e).1);have e2:(ks.take (j+1)).map zlF=(ks.take j).map zlF++[zlF t]:=by rw[List.take_succ_eq_append_getElem hlt,Ht.out];simp
   refine⟨⟨j+1,_,by omega,rfl,h2,?_,?_,hbl⟩,by simp[intOf];omega⟩
   ·rw[e2];exact ik.out.snoc ⟨_,_,_,_,_,_,rfl⟩
   ·intro f hf;rw[e2,List.mem_append]at hf;rcases hf with hf|hf
    ·exact HF64.out f hf
    ·simp at hf;rw[hf];exact h64
  ·obtain rfl:j=ks.length:=by omega
   have e3:ks.take ks.length=ks:=List.take_of_length_le zl;have h1:=ik.out;have h2:=HF64.out;rw[e3]at h1 h2;have h3:=HOWN.out;rw[show ks.length=(ks.map zlF).length by simp]at h3;obtain⟨A4,c4,e4,hc4,hrf⟩:=zqk h3 h1 h2;have e5:A4=A3:=by injection e4 with e _ _;exact e.symm
   subst e5;have lW:=zh hrf;clear hbw h1 h2 h3 e4 hrf;go_wp2_with fail;go_ret;exact⟨_,_,rfl,lW.out,aU.out⟩
theorem zur(k n:Int)(s:ByteArray)(A:Option Addr)(l c:Nat)(f:FO)(w:World):Calls prog 180 #[fv k n s A l c f] w (zza w):=by
 go_enter func180,ntmps180;go_wp2_with fail;exact bodyPost_ret (v:=nv k n s A l c) (by simp[results,results180,go_sem]) rfl ⟨_,_,_,_,_,_,rfl,zkb (zkb zr _) _⟩
theorem zuM(fs:List FO)(A:Option Addr)(c:Nat)(S:Nat->Prop)(w:World)(hrow:RowF w S A fs)(hl:fs.length<=8) :
  Calls prog 179 #[.slice A fs.length c,.func (.func 180) #[] #[]] w fun e w'=>∃A' l' c',e=.returned (.slice A' l' c')/\Below w.heap.size w w':=by
 obtain⟨i0,hi0,hz0,hz1,hz2⟩:=info_parts zpC;have ae:=zh hrow;clear hrow;have hbs:=zu0;go_enter func179,ntmps179;go_wp2_with fail
 go_loopw [5,10] (fun x i wr=>∃(j:Nat) (xs:List Value),j<=fs.length/\i=.int .i64 j/\wr.ownsRow w.heap.size 28 4 x j xs/\Below w.heap.size w wr) (fun _ i _=>fs.length-(intOf i).toNat)
 case atStart=>exact⟨0,[],Nat.zero_le _,rfl,World.ownsRow_nil _ _ _ _,zr⟩
 case round =>
  obtain⟨j,xs,hj,rfl,hown,hbw⟩:=hrel;have mE:∃A3 c3,u5=.slice A3 j c3:=by
   rcases hown.2 with⟨rfl,rfl⟩|⟨g,cap,cur,rfl,_⟩
   ·exact⟨_,_,rfl⟩
   ·exact⟨_,_,rfl⟩
  obtain⟨A3,c3,rfl⟩:=mE;have HOWN:=zh hown;have aU:=zh hbw;clear hown;by_cases hlt:j<fs.length
  ·obtain⟨a,f,rfl,Hf,⟨k1,n1,s1,A1,l1,c1,q0,q1,q2,q3,q4,q5⟩,-⟩:=(ae.out.later hbw).nd hlt;clear hbw;go_wp2_with fail;refine(zur k1 n1 s1 A1 l1 c1 f _).mono ?_;rintro e w1 ⟨k',n',s',A',l',c',rfl,aa⟩;have hb1:Below wr.heap.size wr w1:=zka (zkb zr _) aa;have hown1:=(zkJ HOWN.out hb1).alloc (.cells #[.int .u8 k',.int .i64 n',.string s',.slice A' l' c'] 28);have HB1:=zh hb1;have hbz:=aU.out.size;have hbz1:=hb1.size;have fE:=zh (zkR w1 28 [.int .u8 k',.int .i64 n',.string s',.slice A' l' c']);clear q0 q1 q2 q3 q4 q5 aa
   go_wp2_with (at_builtin;refine wpList_append_own_at (P:=prog) _ rfl (.tmp 14) (.tmp 18) 26 rfl w.heap.size 28 i0 _ 4 56 underlying26 hi0 hz0 hz1 hz2 rfl (by decide) (.slice A3 j c3) j xs rfl hown1 ⟨w1.heap.size,0,none⟩ 1 1 [.int .u8 k',.int .i64 n',.string s',.slice A' l' c'] rfl rfl fE.out (by intro u hu;simp at hu;rcases hu with rfl|rfl|rfl|rfl<;>rfl) (by unfold maxLen;omega) (by omega) (by simp;omega) ?_;intro v' w' h2 h3 h4 h5)
   have hbl:Below w.heap.size w w':=(zkb (zka aU.out HB1.out) _).grown h3 (by simp;omega) (fun g e=>(hown1.lt g e).1);exact⟨⟨j+1,_,by omega,rfl,h2,hbl⟩,by simp[intOf];omega⟩
  ·obtain rfl:j=fs.length:=by omega
   clear hbw;go_wp2_with fail;go_ret;exact⟨_,_,_,rfl,aU.out⟩
theorem zxU(t:T)(fs:List FO)(L:Nat)(hL:fs.length=L)(A:Option Addr)(c:Nat)(S:Nat->Prop)(v:Value)(w:World)(hv:NV w Any t v)(hrow:RowF w S A fs)(hl:L<=100000)(h1:t.k=6\/t.k=7->1<=L)(h2:8<=t.k->t.k<=23/\2<=L)(h0:1<=t.k)(g:FO)(hg:valE t.k t.n fs=g) :
  Calls prog 177 #[v,.slice A L c] w fun e w'=>e=.returned (.tuple #[.int .i64 g.v,.bool g.c])/\Below w.heap.size w w':=by
 subst hL hg;exact zsX t fs A c S v w hv hrow hl h1 h2 h0
theorem zyG(fs:List FO)(L:Nat)(hL:fs.length=L)(A:Option Addr)(c:Nat)(S:Nat->Prop)(w:World)(hrow:RowF w S A fs)(hl:L<=8) :
  Calls prog 179 #[.slice A L c,.func (.func 180) #[] #[]] w fun e w'=>∃A' l' c',e=.returned (.slice A' l' c')/\Below w.heap.size w w':=by
 subst hL;exact zuM fs A c S w hrow hl
theorem zxV{k n:Int}{fs:List FO}(hn:I64 n)(hf:∀f∈fs,I64 f.v):I64 (valE k n fs).v:=by
 have h0:I64 (fs[0]?.elim 0 (·.v)):=by
  cases fs with
  | nil=>simp[I64]
  | cons f fs=>simpa using hf f (by simp)
 unfold valE
 split
 ·split
  ·exact hn
  ·split
   ·simp[I64]
   ·split
    ·exact zzk
    ·exact zz1 h0
 ·simp[I64]
theorem RowF.fits{w:World}{S:Nat->Prop}{A:Option Addr}{fs:List FO}(h:RowF w S A fs):∀f∈fs,I64 f.v:=fun f hf=>by
 obtain⟨i,hi,rfl⟩:=List.getElem_of_mem hf;obtain⟨_,_,_,_,h⟩:=h i hi;exact h
theorem zqs{k n:Int}{s:ByteArray}{ks:List T}(h:isE (.nd k n s ks)=true):1<=k/\k<=23/\ks.length<=2/\(k=6\/k=7->1<=ks.length)/\(8<=k->2<=ks.length):=by
 rw[isE]at h
 split at h
 ·simp only[Bool.and_eq_true,decide_eq_true_eq]at h;omega
 ·split at h
  ·simp only[Bool.and_eq_true,decide_eq_true_eq]at h;omega
  ·split at h
   ·simp only[Bool.and_eq_true,decide_eq_true_eq]at h;omega
   ·split at h
    ·simp only[Bool.and_eq_true,decide_eq_true_eq]at h;omega
    ·split at h
     ·simp only[Bool.and_eq_true,decide_eq_true_eq]at h;omega
     ·cases h
theorem zww(t:T)(hE:isE t=true):zzd t:=by
 revert hE;refine T.ind (p:=fun t=>isE t=true->zzd t) ?_ t;intro k n s ks ih hE v w hv;have hk:=zpK hE;have hsh:=zqs hE;have HV:=zh hv;obtain⟨A,c,rfl,hf,hlk,hlc,hrow⟩:=hv.open_;simp only[T.k_nd,T.n_nd,T.s_nd,T.ks_nd]at *
 have qz:=zh (fun t ht=>ih t ht (hk t ht));have ae:=zh hrow;obtain⟨g,hg⟩:=zX (valE k n (ks.map zlF));have vS:zlF (.nd k n s ks)=nrm g:=by rw[zlF,zo9,hg]
 rw[vS];have HG:=zh hg;have uF:=zh hsh;have vz:=zh hf;clear ih hk hrow hg vS hsh hE hlk hlc hf;go_enter func164,ntmps164;go_wp2_with fail;refine(zuN ks A c _ (ae.out.later (zkb (zkb zr _) _)) (by have:=uF.out;omega) qz.out).mono ?_;rintro e w1 ⟨A1,c1,rfl,hrf,aa⟩;have q1:Below w.heap.size w w1:=zka (zkb (zkb zr _) _) aa;have hN:=zkc (zkd (heap_alloc_new w (.cells #[.int .u8 k,.int .i64 n,.string s,.slice A ks.length c] 28)) _) aa;have hR:=zkc (heap_alloc_new (w.alloc (.cells #[.int .u8 k,.int .i64 n,.string s,.slice A ks.length c] 28)) (.cells #[.int .u8 0,.int .i64 0,.string ⟨#[]⟩,.slice none 0 0,.int .i64 0,.bool false] 208)) aa;simp only[World.size_alloc]at hR;obtain⟨a0,a1,a2,a3⟩:=box4 hN;have HG64:=zh (show I64 g.v from HG.out▸zxV vz.out.2.1 hrf.fits);have HN:=zh hN;have HR:=zh hR;have lW:=zh hrf;clear aa hN hR hrf;go_wp2_with fail
 refine(zxU (.nd k n s ks) (ks.map zlF) ks.length (by simp) A1 c1 Any _ _ (HV.out.later q1) lW.out (by have:=uF.out;omega) uF.out.2.2.2.1 (fun h=>⟨uF.out.2.1,uF.out.2.2.2.2 h⟩) uF.out.1 g HG.out).mono ?_;rintro e w2 ⟨rfl,ah⟩;have q2:=zka q1 ah;have hN:=zkc HN.out ah;have hR:=zkc HR.out ah;obtain⟨gv,gc⟩:=g;dsimp only at *
 cases gc
 ·clear a0 a1 a2 a3;obtain⟨a0,a1,a2,a3⟩:=box4 hN;have HN:=zh hN;have HR:=zh hR;have HRF2:=zh (lW.out.later ah);clear hN hR ah;go_wp2_with fail;refine(zyG (ks.map zlF) ks.length (by simp) A1 c1 Any _ HRF2.out (by have:=uF.out;omega)).mono ?_;rintro e w3 ⟨A3,l3,c3,rfl,aN⟩;have q3:=zka q2 aN;have hN:=zkc HN.out aN;have hR:=zkc HR.out aN;have hz:w3.frozen? ⟨w.heap.size,3,none⟩=false:=zf hN;clear a0 a1 a2 a3;obtain⟨a0,a1,a2,a3⟩:=box4 hN;obtain⟨r0,r1,r2,r3,r4,r5⟩:=box6 hR;have rz:∀i,w3.frozen? ⟨w.heap.size+1,i,none⟩=false:=fun i=>zf hR;clear hN hR aN;go_wp2_with fail;refine bodyPost_ret (v:=fv k n s A3 l3 c3 ⟨0,false⟩) (by simp[results,results164,go_sem,r0,r1,r2,r3,r4,r5]) rfl ⟨_,_,_,_,_,_,rfl,by simp[nrm,I64],?_⟩
  exact(((((((q3.setCell (by simp) _).setCell (by simp) _).setCell (by simp) _).setCell (by simp) _).setCell (by simp) _).setCell (by simp) _).setCell (by simp) _)
 ·clear a0 a1 a2 a3;obtain⟨r0,r1,r2,r3,r4,r5⟩:=box6 hR;have HN:=zh hN;have HR:=zh hR;clear hN hR ah;go_wp2_with fail;refine(zrf gv HG64.out _).mono ?_;rintro e w3 ⟨k3,n3,s3,A3,l3,c3,rfl,aN⟩;have q3:=zka q2 aN;have hR:=zkc HR.out aN;clear r0 r1 r2 r3 r4 r5;obtain⟨r0,r1,r2,r3,r4,r5⟩:=box6 hR;have rz:∀i,w3.frozen? ⟨w.heap.size+1,i,none⟩=false:=fun i=>zf hR;clear hR aN;go_wp2_with fail;refine bodyPost_ret (v:=fv k3 n3 s3 A3 l3 c3 ⟨gv,true⟩) (by simp[results,results164,go_sem,r0,r1,r2,r3,r4,r5]) rfl ⟨_,_,_,_,_,_,rfl,HG64.out,?_⟩;exact((((((q3.setCell (by simp) _).setCell (by simp) _).setCell (by simp) _).setCell (by simp) _).setCell (by simp) _).setCell (by simp) _)
end
end Go.Proofs.YthjinpodhacleaaGreat
