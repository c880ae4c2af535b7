/-
  Texts of the proof, put together without their remarks: Ar, Ast, Ast2, Ev, Sq, Stk, Ss.
-/
import Derived.Test.YtembgnhbpmfhpaaGreatV1
import Derived.Deep.DeepCutAuto
set_option linter.unusedSimpArgs false
set_option linter.unusedVariables false
set_option maxHeartbeats 8000000
set_option maxRecDepth 100000
namespace Go.Proofs.YtembgnhbpmfhpaaGreat
open Tryz
section
open Go Go.RowKit
def numI(b:Bool):Int:=if b then 1 else 0
theorem zkF(b:Bool)(w:World):Calls prog 223 #[.bool b] w fun e w'=>e=.returned (.int .i64 (numI b))/\w'=w:=by
 cases b
 ·go_enter func223,ntmps223;go_wp2_with fail;go_ret;exact⟨rfl,rfl⟩
 ·go_enter func223,ntmps223;go_wp2_with fail;go_ret;exact⟨rfl,rfl⟩
def divE(k x y:Int):Int×Int:=if y=0 then(0,11)else if k=11 then(wrap64 (x.tdiv y),0)else(x.tmod y,0)
theorem zpq(k x y:Int)(w:World):Calls prog 224 #[.int .u8 k,.int .i64 x,.int .i64 y] w fun e w'=>e=.returned (.tuple #[.int .i64 (divE k x y).1,.int .i64 (divE k x y).2])/\w'=w:=by
 by_cases h0:y=0
 ·subst h0;rw[show divE k x 0=(0,11) by simp[divE]];go_enter func224,ntmps224;go_wp2_with fail;go_ret2;exact⟨rfl,rfl⟩
 ·by_cases hk:k=11
  ·subst hk;rw[show divE 11 x y=(wrap64 (x.tdiv y),0) by simp[divE,h0]];go_enter func224,ntmps224;go_wp2_with fail;go_ret2;exact⟨rfl,rfl⟩
  ·rw[show divE k x y=(x.tmod y,0) by simp[divE,h0,hk]];have hy:(y==0)=false:=by simpa using h0
   have hk':(k==11)=false:=by simpa using hk
   go_enter func224,ntmps224;go_wp2_with fail;go_ret2;exact⟨rfl,rfl⟩
def unE(k x:Int):Int×Int:=if k=6 then(wrap64 (-x),0)else(numI (x==0),0)
theorem zvq(k x:Int)(hk:k=6\/k=7)(w:World):Calls prog 210 #[.int .u8 k,.int .i64 x] w fun e w'=>e=.returned (.tuple #[.int .i64 (unE k x).1,.int .i64 (unE k x).2])/\w'=w:=by
 rcases hk with rfl|rfl
 ·rw[show unE 6 x=(wrap64 (-x),0) by simp[unE]];go_enter func210,ntmps210;go_wp2_with fail;go_ret2;exact⟨rfl,rfl⟩
 ·rw[show unE 7 x=(numI (x==0),0) by simp[unE]];go_enter func210,ntmps210;go_wp2_with fail;refine(zkF _ w).mono ?_;rintro e w' ⟨rfl,rfl⟩;go_wp2_with fail;go_ret2;exact⟨rfl,rfl⟩
def apE(k x y:Int):Int×Int :=
 if k=8 then(wrap64 (x+y),0)else
 if k=9 then(wrap64 (x-y),0)else
 if k=10 then(wrap64 (x*y),0)else
 if k=11 then divE 11 x y else
 if k=12 then divE 12 x y else
 if k=13 then(bits BinOp.and IntKind.i64 x y,0)else
 if k=14 then(bits BinOp.or IntKind.i64 x y,0)else
 if k=15 then(bits BinOp.xor IntKind.i64 x y,0)else
 if k=16 then(numI (x==y),0)else
 if k=17 then(numI (x != y),0)else
 if k=18 then(numI (decide (x<y)),0)else
 if k=19 then(numI (decide (x<=y)),0)else
 if k=20 then(numI (decide (y<x)),0)else
 if k=21 then(numI (decide (y<=x)),0)else
 if k=22 then(numI (x != 0&&y != 0),0)else
 if k=23 then(numI (x != 0||y != 0),0)else
 (0,0)
theorem zvQ(k x y:Int)(hk:8<=k/\k<=23)(w:World):Calls prog 211 #[.int .u8 k,.int .i64 x,.int .i64 y] w fun e w'=>e=.returned (.tuple #[.int .i64 (apE k x y).1,.int .i64 (apE k x y).2])/\w'=w:=by
 have hc:k=8\/k=9\/k=10\/k=11\/k=12\/k=13\/k=14\/k=15\/k=16\/k=17\/k=18\/k=19\/k=20\/k=21\/k=22\/k=23:=by omega
 clear hk;rcases hc with rfl|rfl|rfl|rfl|rfl|rfl|rfl|rfl|rfl|rfl|rfl|rfl|rfl|rfl|rfl|rfl
 ·rw[show apE 8 x y=(wrap64 (x+y),0) by simp[apE]];go_enter func211,ntmps211;go_wp2_with fail;go_ret2;exact⟨rfl,rfl⟩
 ·rw[show apE 9 x y=(wrap64 (x-y),0) by simp[apE]];go_enter func211,ntmps211;go_wp2_with fail;go_ret2;exact⟨rfl,rfl⟩
 ·rw[show apE 10 x y=(wrap64 (x*y),0) by simp[apE]];go_enter func211,ntmps211;go_wp2_with fail;go_ret2;exact⟨rfl,rfl⟩
 ·rw[show apE 11 x y=divE 11 x y by simp[apE]];go_enter func211,ntmps211;go_wp2_with fail;refine(zpq 11 x y w).mono ?_;rintro e w' ⟨rfl,rfl⟩;go_wp2_with fail;go_ret2;exact⟨rfl,rfl⟩
 ·rw[show apE 12 x y=divE 12 x y by simp[apE]];go_enter func211,ntmps211;go_wp2_with fail;refine(zpq 12 x y w).mono ?_;rintro e w' ⟨rfl,rfl⟩;go_wp2_with fail;go_ret2;exact⟨rfl,rfl⟩
 ·rw[show apE 13 x y=(bits BinOp.and IntKind.i64 x y,0) by simp[apE]];go_enter func211,ntmps211;go_wp2_with fail;go_ret2;exact⟨rfl,rfl⟩
 ·rw[show apE 14 x y=(bits BinOp.or IntKind.i64 x y,0) by simp[apE]];go_enter func211,ntmps211;go_wp2_with fail;go_ret2;exact⟨rfl,rfl⟩
 ·rw[show apE 15 x y=(bits BinOp.xor IntKind.i64 x y,0) by simp[apE]];go_enter func211,ntmps211;go_wp2_with fail;go_ret2;exact⟨rfl,rfl⟩
 ·rw[show apE 16 x y=(numI (x==y),0) by simp[apE]];go_enter func211,ntmps211;go_wp2_with fail;refine(zkF _ w).mono ?_;rintro e w' ⟨rfl,rfl⟩;go_wp2_with fail;go_ret2;exact⟨rfl,rfl⟩
 ·rw[show apE 17 x y=(numI (x != y),0) by simp[apE]];go_enter func211,ntmps211;go_wp2_with fail;refine(zkF _ w).mono ?_;rintro e w' ⟨rfl,rfl⟩;go_wp2_with fail;go_ret2;exact⟨rfl,rfl⟩
 ·rw[show apE 18 x y=(numI (decide (x<y)),0) by simp[apE]];go_enter func211,ntmps211;go_wp2_with fail;refine(zkF _ w).mono ?_;rintro e w' ⟨rfl,rfl⟩;go_wp2_with fail;go_ret2;exact⟨rfl,rfl⟩
 ·rw[show apE 19 x y=(numI (decide (x<=y)),0) by simp[apE]];go_enter func211,ntmps211;go_wp2_with fail;refine(zkF _ w).mono ?_;rintro e w' ⟨rfl,rfl⟩;go_wp2_with fail;go_ret2;exact⟨rfl,rfl⟩
 ·rw[show apE 20 x y=(numI (decide (y<x)),0) by simp[apE]];go_enter func211,ntmps211;go_wp2_with fail;refine(zkF _ w).mono ?_;rintro e w' ⟨rfl,rfl⟩;go_wp2_with fail;go_ret2;exact⟨rfl,rfl⟩
 ·rw[show apE 21 x y=(numI (decide (y<=x)),0) by simp[apE]];go_enter func211,ntmps211;go_wp2_with fail;refine(zkF _ w).mono ?_;rintro e w' ⟨rfl,rfl⟩;go_wp2_with fail;go_ret2;exact⟨rfl,rfl⟩
 ·rw[show apE 22 x y=(numI (x != 0&&y != 0),0) by simp[apE]]
  cases hx:(x != 0)<;>cases hy:(y != 0)
  ·rw[show(false&&false)=false from rfl];go_enter func211,ntmps211;go_wp2_with fail;refine(zkF false w).mono ?_;rintro e w' ⟨rfl,rfl⟩;go_wp2_with fail;go_ret2;exact⟨rfl,rfl⟩
  ·rw[show(false&&true)=false from rfl];go_enter func211,ntmps211;go_wp2_with fail;refine(zkF false w).mono ?_;rintro e w' ⟨rfl,rfl⟩;go_wp2_with fail;go_ret2;exact⟨rfl,rfl⟩
  ·rw[show(true&&false)=false from rfl];go_enter func211,ntmps211;go_wp2_with fail;refine(zkF false w).mono ?_;rintro e w' ⟨rfl,rfl⟩;go_wp2_with fail;go_ret2;exact⟨rfl,rfl⟩
  ·rw[show(true&&true)=true from rfl];go_enter func211,ntmps211;go_wp2_with fail;refine(zkF true w).mono ?_;rintro e w' ⟨rfl,rfl⟩;go_wp2_with fail;go_ret2;exact⟨rfl,rfl⟩
 ·rw[show apE 23 x y=(numI (x != 0||y != 0),0) by simp[apE]]
  cases hx:(x != 0)<;>cases hy:(y != 0)
  ·rw[show(false||false)=false from rfl];go_enter func211,ntmps211;go_wp2_with fail;refine(zkF false w).mono ?_;rintro e w' ⟨rfl,rfl⟩;go_wp2_with fail;go_ret2;exact⟨rfl,rfl⟩
  ·rw[show(false||true)=true from rfl];go_enter func211,ntmps211;go_wp2_with fail;refine(zkF true w).mono ?_;rintro e w' ⟨rfl,rfl⟩;go_wp2_with fail;go_ret2;exact⟨rfl,rfl⟩
  ·rw[show(true||false)=true from rfl];go_enter func211,ntmps211;go_wp2_with fail;refine(zkF true w).mono ?_;rintro e w' ⟨rfl,rfl⟩;go_wp2_with fail;go_ret2;exact⟨rfl,rfl⟩
  ·rw[show(true||true)=true from rfl];go_enter func211,ntmps211;go_wp2_with fail;refine(zkF true w).mono ?_;rintro e w' ⟨rfl,rfl⟩;go_wp2_with fail;go_ret2;exact⟨rfl,rfl⟩
end
section
open Go.RowKit
theorem zlD{W w1:World}(hb:Below W.heap.size W w1):(∀b o,b<W.heap.size->w1.cell? ⟨b,o,none⟩=W.cell? ⟨b,o,none⟩)/\(∀b o,b<W.heap.size->w1.frozen? ⟨b,o,none⟩=W.frozen? ⟨b,o,none⟩) :=
 ⟨fun b o h=>hb.cell (p:=⟨b,o,none⟩) h,fun b o h=>hb.frozen (p:=⟨b,o,none⟩) h⟩
theorem zkn(k n:Int)(s:ByteArray)(A:Option Addr)(l c:Nat)(w:World) :
  Calls prog 147 #[nv k n s A l c] w fun e w'=>e=.returned (.bool (zkr n s))/\Below w.heap.size w w':=by
 go_enter func147,ntmps147;go_wp2
 all_goals (go_ret;exact⟨by simp[zkr, *],zr.alloc zl _⟩)
theorem zkw(k n:Int)(s:ByteArray)(A:Option Addr)(l c:Nat)(w:World) :
  Calls prog 163 #[nv k n s A l c] w fun e w'=>e=.returned (.bool (zkD n s))/\Below w.heap.size w w':=by
 go_enter func163,ntmps163;by_cases hn:(n==0)=true
 ·go_wp2_with (go_at_call 67;refine(zp1 _ _).mono ?_;rintro e w' ⟨rfl,hb⟩)
  go_ret;exact⟨by simp[zkD,hn],(zr.alloc zl _).trans (hb.mono (by simp))⟩
 ·have hn':(n==0)=false:=by simpa using hn
  clear hn;go_wp2_with fail;go_ret;exact⟨by simp[zkD,hn'],zr.alloc zl _⟩
theorem zkP(t:T)(v:Value)(w:World)(hv:NV w Any t v)(b m:Nat)(F:Nat->FuncId)(G:Nat->Func)(p:Nat->T->Bool)(hm:m<=8)(hbl:b<w.heap.size)
  (hcell:∀i,i<m->w.cell? ⟨b,i,none⟩=some (.func (.func (F i)) #[] #[]))(hfn:∀i,i<m->IsFn prog (F i) (G i))
  (hc:t.ks.length=m->∀i (hi:i<t.ks.length) v1 w1,NV w1 Any t.ks[i] v1->Calls prog (F i) #[v1] w1 fun e w'=>e=.returned (.bool (p i t.ks[i]))/\Below w1.heap.size w1 w') :
  Calls prog 160 #[v,.slice (some ⟨b,0,none⟩) m m] w fun e w'=>e=.returned (.bool (zkH m p t.ks))/\Below w.heap.size w w':=by
 obtain⟨A,c,rfl,hf,hlk,hlc,hrow⟩:=hv.open_;have aB:=zkJ hlk;have HC:=zh hc;have HCell:=zh hcell;have HFn:=zh hfn;clear hc hcell hfn hf hv hlk;generalize t.k=k,t.n=n,t.s=s,t.ks=ks at *
 by_cases hl:ks.length=m
 ·subst hl;have lU:=zh (HC.out rfl);clear HC;have hneq:((ks.length:Int) != (ks.length:Int))=false:=by simp
  go_enter func160,ntmps160;go_wp2
  go_loopw [4,5,6,15] (fun r _ _ i wr=>∃j:Nat,j<=ks.length/\i=.int .i64 j/\r=.bool false/\Hid (∀q (hq:q<ks.length),q<j->p q ks[q]=true)/\Below (w.heap.size+1) (w.alloc (.cells #[.int .u8 k,.int .i64 n,.string s,.slice A ks.length c] 41)) wr) (fun _ _ _ i _=>ks.length-(intOf i).toNat)
  case atStart=>exact⟨0,Nat.zero_le _,rfl,rfl,fun q hq h=>by omega,zr⟩
  case round =>
   obtain⟨j,hj,rfl,rfl,HP,hb⟩:=hrel;have hb0:Below w.heap.size w wr:=(zr.alloc zl _).trans (hb.mono (by omega));by_cases hlt:j<ks.length
   ·obtain⟨a,t',A',c',rfl,_,Ht,c0,c1,c2,c3,hn⟩:=(hrow.later hb0).get hlt;have hcall:=zkQ (HFn.out j hlt);have hfc:wr.cell? ⟨b,j,none⟩=some (.func (.func (F j)) #[] #[]):=(hb0.cell (p:=⟨b,j,none⟩) hbl).trans (HCell.out j hlt);have hbox:wr.cell? ⟨w.heap.size,3,none⟩=some (.slice (some a) ks.length c):=(hb.cell (p:=⟨w.heap.size,3,none⟩) (Nat.lt_succ_self _)).trans (by simp);have hlt':j<8:=by omega
    have h0:=lU.out j hlt;rw[Ht.out]at h0;have H0:=zh h0;clear h0 hrow;go_wp2_with fail;refine(H0.out _ _ hn).mono ?_;rintro e w1 ⟨rfl,hb1⟩
    cases hp:p j t'
    ·go_wp2_with fail;go_ret;exact⟨by rw[zot hlt (by rw[Ht.out];exact hp)];rfl,hb0.trans (hb1.mono hb0.size)⟩
    ·have lN:=zh hp;clear hp;go_wp2_with fail
     go_roundw
     case rel =>
      refine⟨j+1,by omega,by go_num,rfl,?_,hb.trans (hb1.mono (by have:=hb.size;simpa using this))⟩;intro q hq hqj;by_cases e:q=j
      ·subst e;rw[Ht.out];exact lN.out
      ·exact HP.out q hq (by omega)
     case measure=>simp[intOf];omega
   ·have hlt':ks.length<=j:=by omega
    go_wp2_with fail;go_ret;exact⟨by rw[zs1 rfl (fun q hq=>HP.out q hq (by omega))];rfl,hb0⟩
 ·have hneq:((ks.length:Int) != (m:Int))=true:=by simp;omega
  have hneq':(ks.length != m)=true:=by simpa using hl
  have HX:=zh (zut (p:=p) hl);clear hl HC hrow;generalize ks.length=l at *
  go_enter func160,ntmps160;go_wp2;go_ret;exact⟨by rw[HX.out];rfl,zr.alloc zl _⟩
theorem zoD(ts:List T)(Ad:Option Addr)(c:Nat)(w:World)(hrow:zlP w Any Ad ts)(hlk:ts.length<=LK)(f:FuncId)(fn:Func)(hfn:IsFn prog f fn)(p:T->Bool)
  (hc:∀i (hi:i<ts.length) v1 w1,NV w1 Any ts[i] v1->Calls prog f #[v1] w1 fun e w'=>e=.returned (.bool (p ts[i]))/\Below w1.heap.size w1 w') :
  Calls prog 148 #[.slice Ad ts.length c,.func (.func f) #[] #[]] w fun e w'=>e=.returned (.bool (zkC (fun _=>p) 0 ts))/\Below w.heap.size w w':=by
 have aB:=zkJ hlk;have HC:=zh hc;have hcall:=zkQ hfn;clear hc hfn hlk;go_enter func148,ntmps148;go_wp2
 go_loopw [4,9] (fun r i wr=>∃j:Nat,j<=ts.length/\i=.int .i64 j/\r=.bool false/\Hid (∀q (hq:q<ts.length),q<j->p ts[q]=true)/\Below w.heap.size w wr) (fun _ i _=>ts.length-(intOf i).toNat)
 case atStart=>exact⟨0,Nat.zero_le _,rfl,rfl,fun q hq h=>by omega,zr⟩
 case round =>
  obtain⟨j,hj,rfl,rfl,HP,hb⟩:=hrel;by_cases hlt:j<ts.length
  ·obtain⟨a,t',A',c',rfl,_,Ht,c0,c1,c2,c3,hn⟩:=(hrow.later hb).get hlt;have h0:=HC.out j hlt;rw[Ht.out]at h0;have H0:=zh h0;clear h0 hrow;go_wp2_with fail;refine(H0.out _ _ (hn.later (zr.alloc zl _))).mono ?_;rintro e w1 ⟨rfl,hb1⟩;have hb2:Below w.heap.size w w1:=zAC hb hb1
   cases hp:p t'
   ·go_wp2_with fail;go_ret;have hx:zkC (fun _=>p) 0 ts=false:=by
     have:=zot (m:=ts.length) (p:=fun _=>p) hlt (by rw[Ht.out];exact hp);simpa[zkH]using this
    exact⟨by rw[hx];rfl,hb2⟩
   ·have lN:=zh hp;clear hp;go_wp2_with fail
    go_roundw
    case rel =>
     refine⟨j+1,by omega,by go_num,rfl,?_,hb2⟩;intro q hq hqj;by_cases e:q=j
     ·subst e;rw[Ht.out];exact lN.out
     ·exact HP.out q hq (by omega)
    case measure=>simp[intOf];omega
  ·have hlt':ts.length<=j:=by omega
   go_wp2_with fail;go_ret;have hx:zkC (fun _=>p) 0 ts=true:=by
    rw[zkI];exact fun q hq=>HP.out q hq (by omega)
   exact⟨by rw[hx];rfl,hb⟩
theorem zmn{w:World}{cs:Array Value}{ty:TypeId}{i:Nat}{u:Value}(h:cs[i]?=some u):(w.alloc (.cells cs ty)).cell? ⟨w.heap.size,i,none⟩=some u:=by
 have hh:(w.alloc (.cells cs ty)).heap[w.heap.size]?=some (.cells cs ty (0,0)):=heap_alloc_new w _;simp only[World.cell?,hh];simpa using h
theorem zk3:IsFn prog 162 f162:=⟨func162,by kernel_rfl,by kernel_rfl⟩
theorem zk7:IsFn prog 161 f161:=⟨func161,by kernel_rfl,by kernel_rfl⟩
theorem zuF:IsFn prog 164 f164:=⟨func164,by kernel_rfl,by kernel_rfl⟩
theorem zwT:IsFn prog 121 f121:=⟨func121,by kernel_rfl,by kernel_rfl⟩
theorem zmb:IsFn prog 109 f109:=⟨func109,by kernel_rfl,by kernel_rfl⟩
theorem zxF(n:Int)(s:ByteArray)(ks:List T)(v:Value)(w:World)(hv:NV w Any (.nd 1 n s ks) v) :
  Calls prog 162 #[v] w fun e w'=>e=.returned (.bool (isE (.nd 1 n s ks)))/\Below w.heap.size w w':=by
 obtain⟨Ad,c,rfl,hf,hlk,hlc,hrow⟩:=hv.open_;simp only[T.k_nd,T.n_nd,T.s_nd,T.ks_nd]at *
 have aB:=zkJ hlk;clear hf hv hlk hrow hlc;have HX:=zh (show isE (.nd 1 n s ks)=(decide (0<=n)&&s.toList.isEmpty&&decide (ks.length=0)) by simp[isE]);have hz:((ks.length:Int)==0)=decide (ks.length=0):=by rw[Bool.eq_iff_iff];simp
 generalize ks.length=l at *
 have HZ:=zh hz;clear hz;by_cases hn:0<=n
 all_goals
  by_cases hs:s.toList.isEmpty=true
  all_goals
   go_enter func162,ntmps162;go_wp2
   all_goals (go_ret;exact⟨by rw[HX.out,<-HZ.out];simp[*]<;>omega,zr.alloc zl _⟩)
theorem zxE(n:Int)(s:ByteArray)(ks:List T)(v:Value)(w:World)(hv:NV w Any (.nd 2 n s ks) v) :
  Calls prog 162 #[v] w fun e w'=>e=.returned (.bool (isE (.nd 2 n s ks)))/\Below w.heap.size w w':=by
 obtain⟨Ad,c,rfl,hf,hlk,hlc,hrow⟩:=hv.open_;simp only[T.k_nd,T.n_nd,T.s_nd,T.ks_nd]at *
 have aB:=zkJ hlk;clear hf hv hlk hrow hlc;have HX:=zh (show isE (.nd 2 n s ks)=(zkD n s&&decide (ks.length=0)) by simp[isE]);have hz:((ks.length:Int)==0)=decide (ks.length=0):=by rw[Bool.eq_iff_iff];simp
 generalize ks.length=l at *
 have HZ:=zh hz;clear hz;by_cases hnb:zkD n s=true
 ·go_enter func162,ntmps162;go_wp2_with fail;refine(zkw _ _ _ _ _ _ _).mono ?_;rintro e w1 ⟨rfl,hb1⟩;obtain⟨hc1,hf1⟩:=zlD hb1;have hbb:Below w.heap.size w w1:=zAB hb1;go_wp2_with fail;go_ret;exact⟨by rw[HX.out,<-HZ.out];simp[*],hbb⟩
 ·have hnb':zkD n s=false:=by simpa using hnb
  clear hnb;go_enter func162,ntmps162;go_wp2_with fail;refine(zkw _ _ _ _ _ _ _).mono ?_;rintro e w1 ⟨rfl,hb1⟩;have hbb:Below w.heap.size w w1:=zAB hb1;go_wp2_with fail;go_ret;exact⟨by rw[HX.out];simp[*],hbb⟩
theorem zxC(n:Int)(s:ByteArray)(ks:List T)(v:Value)(w:World)(hv:NV w Any (.nd 4 n s ks) v) :
  Calls prog 162 #[v] w fun e w'=>e=.returned (.bool (isE (.nd 4 n s ks)))/\Below w.heap.size w w':=by
 obtain⟨Ad,c,rfl,hf,hlk,hlc,hrow⟩:=hv.open_;simp only[T.k_nd,T.n_nd,T.s_nd,T.ks_nd]at *
 have aB:=zkJ hlk;clear hf hv hlk hrow hlc;have HX:=zh (show isE (.nd 4 n s ks)=(zkD n s&&decide (ks.length=0)) by simp[isE]);have hz:((ks.length:Int)==0)=decide (ks.length=0):=by rw[Bool.eq_iff_iff];simp
 generalize ks.length=l at *
 have HZ:=zh hz;clear hz;by_cases hnb:zkD n s=true
 ·go_enter func162,ntmps162;go_wp2_with fail;refine(zkw _ _ _ _ _ _ _).mono ?_;rintro e w1 ⟨rfl,hb1⟩;obtain⟨hc1,hf1⟩:=zlD hb1;have hbb:Below w.heap.size w w1:=zAB hb1;go_wp2_with fail;go_ret;exact⟨by rw[HX.out,<-HZ.out];simp[*],hbb⟩
 ·have hnb':zkD n s=false:=by simpa using hnb
  clear hnb;go_enter func162,ntmps162;go_wp2_with fail;refine(zkw _ _ _ _ _ _ _).mono ?_;rintro e w1 ⟨rfl,hb1⟩;have hbb:Below w.heap.size w w1:=zAB hb1;go_wp2_with fail;go_ret;exact⟨by rw[HX.out];simp[*],hbb⟩
theorem zxB(n:Int)(s:ByteArray)(ks:List T)(v:Value)(w:World)(hv:NV w Any (.nd 5 n s ks) v) :
  Calls prog 162 #[v] w fun e w'=>e=.returned (.bool (isE (.nd 5 n s ks)))/\Below w.heap.size w w':=by
 obtain⟨Ad,c,rfl,hf,hlk,hlc,hrow⟩:=hv.open_;simp only[T.k_nd,T.n_nd,T.s_nd,T.ks_nd]at *
 have aB:=zkJ hlk;clear hf hv hlk hrow hlc;have HX:=zh (show isE (.nd 5 n s ks)=(zkD n s&&decide (ks.length=0)) by simp[isE]);have hz:((ks.length:Int)==0)=decide (ks.length=0):=by rw[Bool.eq_iff_iff];simp
 generalize ks.length=l at *
 have HZ:=zh hz;clear hz;by_cases hnb:zkD n s=true
 ·go_enter func162,ntmps162;go_wp2_with fail;refine(zkw _ _ _ _ _ _ _).mono ?_;rintro e w1 ⟨rfl,hb1⟩;obtain⟨hc1,hf1⟩:=zlD hb1;have hbb:Below w.heap.size w w1:=zAB hb1;go_wp2_with fail;go_ret;exact⟨by rw[HX.out,<-HZ.out];simp[*],hbb⟩
 ·have hnb':zkD n s=false:=by simpa using hnb
  clear hnb;go_enter func162,ntmps162;go_wp2_with fail;refine(zkw _ _ _ _ _ _ _).mono ?_;rintro e w1 ⟨rfl,hb1⟩;have hbb:Below w.heap.size w w1:=zAB hb1;go_wp2_with fail;go_ret;exact⟨by rw[HX.out];simp[*],hbb⟩
theorem zxD(n:Int)(s:ByteArray)(ks:List T)(v:Value)(w:World)(hv:NV w Any (.nd 3 n s ks) v)
  (ih:∀i (hi:i<ks.length) v1 w1,NV w1 Any ks[i] v1->Calls prog 162 #[v1] w1 fun e w'=>e=.returned (.bool (isE ks[i]))/\Below w1.heap.size w1 w') :
  Calls prog 162 #[v] w fun e w'=>e=.returned (.bool (isE (.nd 3 n s ks)))/\Below w.heap.size w w':=by
 have HX:=zh (show isE (.nd 3 n s ks)=(zkD n s&&zkH 1 (fun _=>isE) ks) by simp[isE,zkH,znI 0]);have IH:=zh ih;have HV:=zh hv;obtain⟨Ad,c,rfl,hf,hlk,hlc,hrow⟩:=hv.open_;simp only[T.k_nd,T.n_nd,T.s_nd,T.ks_nd]at *
 have aB:=zkJ hlk;clear hf hv hlk hrow hlc ih;by_cases hnb:zkD n s=true
 ·go_enter func162,ntmps162;go_wp2_with fail;refine(zkw _ _ _ _ _ _ _).mono ?_;rintro e w1 ⟨rfl,hb1⟩;obtain⟨hc1,hf1⟩:=zlD hb1;have hbb:Below w.heap.size w w1:=zAB hb1;go_wp2_with fail;refine(zkP (.nd 3 n s ks) _ _ (HV.out.later (hbb.alloc hbb.size _)) _ 1 (fun _=>162) (fun _=>f162) (fun _=>isE) (by decide) (by simp) (fun i hi=>zmn (by rcases i with _|_|i<;>first|omega|rfl)) (fun _ _=>zk3) (fun _=>IH.out)).mono ?_;rintro e w2 ⟨rfl,hb2⟩;have hbc:Below w.heap.size w w2:=zAC hbb hb2;go_wp2_with fail;go_ret;exact⟨by rw[HX.out];simp[*],hbc⟩
 ·have hnb':zkD n s=false:=by simpa using hnb
  clear hnb;go_enter func162,ntmps162;go_wp2_with fail;refine(zkw _ _ _ _ _ _ _).mono ?_;rintro e w1 ⟨rfl,hb1⟩;have hbb:Below w.heap.size w w1:=zAB hb1;go_wp2_with fail;go_ret;exact⟨by rw[HX.out];simp[*],hbb⟩
theorem zxA(n:Int)(s:ByteArray)(ks:List T)(v:Value)(w:World)(hv:NV w Any (.nd 6 n s ks) v)
  (ih:∀i (hi:i<ks.length) v1 w1,NV w1 Any ks[i] v1->Calls prog 162 #[v1] w1 fun e w'=>e=.returned (.bool (isE ks[i]))/\Below w1.heap.size w1 w') :
  Calls prog 162 #[v] w fun e w'=>e=.returned (.bool (isE (.nd 6 n s ks)))/\Below w.heap.size w w':=by
 have HX:=zh (show isE (.nd 6 n s ks)=(zkr n s&&zkH 1 (fun _=>isE) ks) by simp[isE,zkH,znI 0]);have IH:=zh ih;have HV:=zh hv;obtain⟨Ad,c,rfl,hf,hlk,hlc,hrow⟩:=hv.open_;simp only[T.k_nd,T.n_nd,T.s_nd,T.ks_nd]at *
 have aB:=zkJ hlk;clear hf hv hlk hrow hlc ih;by_cases hnb:zkr n s=true
 ·go_enter func162,ntmps162;go_wp2_with fail;refine(zkn _ _ _ _ _ _ _).mono ?_;rintro e w1 ⟨rfl,hb1⟩;obtain⟨hc1,hf1⟩:=zlD hb1;have hbb:Below w.heap.size w w1:=zAB hb1;go_wp2_with fail;refine(zkP (.nd 6 n s ks) _ _ (HV.out.later (hbb.alloc hbb.size _)) _ 1 (fun _=>162) (fun _=>f162) (fun _=>isE) (by decide) (by simp) (fun i hi=>zmn (by rcases i with _|_|i<;>first|omega|rfl)) (fun _ _=>zk3) (fun _=>IH.out)).mono ?_;rintro e w2 ⟨rfl,hb2⟩;have hbc:Below w.heap.size w w2:=zAC hbb hb2;go_wp2_with fail;go_ret;exact⟨by rw[HX.out];simp[*],hbc⟩
 ·have hnb':zkr n s=false:=by simpa using hnb
  clear hnb;go_enter func162,ntmps162;go_wp2_with fail;refine(zkn _ _ _ _ _ _ _).mono ?_;rintro e w1 ⟨rfl,hb1⟩;have hbb:Below w.heap.size w w1:=zAB hb1;go_wp2_with fail;go_ret;exact⟨by rw[HX.out];simp[*],hbb⟩
theorem zxz(n:Int)(s:ByteArray)(ks:List T)(v:Value)(w:World)(hv:NV w Any (.nd 7 n s ks) v)
  (ih:∀i (hi:i<ks.length) v1 w1,NV w1 Any ks[i] v1->Calls prog 162 #[v1] w1 fun e w'=>e=.returned (.bool (isE ks[i]))/\Below w1.heap.size w1 w') :
  Calls prog 162 #[v] w fun e w'=>e=.returned (.bool (isE (.nd 7 n s ks)))/\Below w.heap.size w w':=by
 have HX:=zh (show isE (.nd 7 n s ks)=(zkr n s&&zkH 1 (fun _=>isE) ks) by simp[isE,zkH,znI 0]);have IH:=zh ih;have HV:=zh hv;obtain⟨Ad,c,rfl,hf,hlk,hlc,hrow⟩:=hv.open_;simp only[T.k_nd,T.n_nd,T.s_nd,T.ks_nd]at *
 have aB:=zkJ hlk;clear hf hv hlk hrow hlc ih;by_cases hnb:zkr n s=true
 ·go_enter func162,ntmps162;go_wp2_with fail;refine(zkn _ _ _ _ _ _ _).mono ?_;rintro e w1 ⟨rfl,hb1⟩;obtain⟨hc1,hf1⟩:=zlD hb1;have hbb:Below w.heap.size w w1:=zAB hb1;go_wp2_with fail;refine(zkP (.nd 7 n s ks) _ _ (HV.out.later (hbb.alloc hbb.size _)) _ 1 (fun _=>162) (fun _=>f162) (fun _=>isE) (by decide) (by simp) (fun i hi=>zmn (by rcases i with _|_|i<;>first|omega|rfl)) (fun _ _=>zk3) (fun _=>IH.out)).mono ?_;rintro e w2 ⟨rfl,hb2⟩;have hbc:Below w.heap.size w w2:=zAC hbb hb2;go_wp2_with fail;go_ret;exact⟨by rw[HX.out];simp[*],hbc⟩
 ·have hnb':zkr n s=false:=by simpa using hnb
  clear hnb;go_enter func162,ntmps162;go_wp2_with fail;refine(zkn _ _ _ _ _ _ _).mono ?_;rintro e w1 ⟨rfl,hb1⟩;have hbb:Below w.heap.size w w1:=zAB hb1;go_wp2_with fail;go_ret;exact⟨by rw[HX.out];simp[*],hbb⟩
theorem ztn(k n:Int)(s:ByteArray)(ks:List T)(v:Value)(w:World)(h8:8<=k)(h23:k<=23)(hv:NV w Any (.nd k n s ks) v)
  (ih:∀i (hi:i<ks.length) v1 w1,NV w1 Any ks[i] v1->Calls prog 162 #[v1] w1 fun e w'=>e=.returned (.bool (isE ks[i]))/\Below w1.heap.size w1 w') :
  Calls prog 162 #[v] w fun e w'=>e=.returned (.bool (isE (.nd k n s ks)))/\Below w.heap.size w w':=by
 have HX:=zh (show isE (.nd k n s ks)=(zkr n s&&zkH 2 (fun _=>isE) ks) by rw[isE,if_neg (by omega),if_neg (by omega),if_neg (by omega),if_neg (by omega),if_pos ⟨h8,h23⟩,zkH,znI 0]);have IH:=zh ih;have HV:=zh hv;obtain⟨Ad,c,rfl,hf,hlk,hlc,hrow⟩:=hv.open_;simp only[T.k_nd,T.n_nd,T.s_nd,T.ks_nd]at *
 have aB:=zkJ hlk;clear hf hv hlk hrow hlc ih;by_cases hnb:zkr n s=true
 ·go_enter func162,ntmps162;go_wp2_with fail;refine(zkn _ _ _ _ _ _ _).mono ?_;rintro e w1 ⟨rfl,hb1⟩;obtain⟨hc1,hf1⟩:=zlD hb1;have hbb:Below w.heap.size w w1:=zAB hb1;go_wp2_with fail;refine(zkP (.nd k n s ks) _ _ (HV.out.later (hbb.alloc hbb.size _)) _ 2 (fun _=>162) (fun _=>f162) (fun _=>isE) (by decide) (by simp) (fun i hi=>zmn (by rcases i with _|_|i<;>first|omega|rfl)) (fun _ _=>zk3) (fun _=>IH.out)).mono ?_;rintro e w2 ⟨rfl,hb2⟩;have hbc:Below w.heap.size w w2:=zAC hbb hb2;go_wp2_with fail;go_ret;exact⟨by rw[HX.out];simp[*],hbc⟩
 ·have hnb':zkr n s=false:=by simpa using hnb
  clear hnb;go_enter func162,ntmps162;go_wp2_with fail;refine(zkn _ _ _ _ _ _ _).mono ?_;rintro e w1 ⟨rfl,hb1⟩;have hbb:Below w.heap.size w w1:=zAB hb1;go_wp2_with fail;go_ret;exact⟨by rw[HX.out];simp[*],hbb⟩
theorem ztm(k n:Int)(s:ByteArray)(ks:List T)(v:Value)(w:World)(n1:(k==1)=false)(n2:(k==2)=false)(n3:(k==3)=false)(n4:(k==4)=false)(n5:(k==5)=false)(n6:(k==6)=false)(n7:(k==7)=false)(h8:k<8\/23<k)(hv:NV w Any (.nd k n s ks) v) :
  Calls prog 162 #[v] w fun e w'=>e=.returned (.bool (isE (.nd k n s ks)))/\Below w.heap.size w w':=by
 obtain⟨Ad,c,rfl,hf,hlk,hlc,hrow⟩:=hv.open_;simp only[T.k_nd,T.n_nd,T.s_nd,T.ks_nd]at *
 have aB:=zkJ hlk;have HX:=zh (show isE (.nd k n s ks)=false by
  simp only[beq_eq_false_iff_ne,ne_eq]at n1 n2 n3 n4 n5 n6 n7;rw[isE,if_neg (by omega),if_neg (by omega),if_neg (by omega),if_neg (by omega),if_neg (by omega)])
 clear hf hv hlk hrow hlc;rcases h8 with h8|h8
 all_goals
  go_enter func162,ntmps162;go_wp2;go_ret;exact⟨by rw[HX.out];rfl,zr.alloc zl _⟩
theorem zkM(t:T):∀(v:Value) (w:World),NV w Any t v ->
  Calls prog 162 #[v] w fun e w'=>e=.returned (.bool (isE t))/\Below w.heap.size w w':=by
 induction t using T.ind with
 | _ k n s ks ih =>
 intro v w hv;have ih':∀i (hi:i<ks.length) v1 w1,NV w1 Any ks[i] v1->Calls prog 162 #[v1] w1 fun e w'=>e=.returned (.bool (isE ks[i]))/\Below w1.heap.size w1 w':=fun i hi=>ih _ (List.getElem_mem hi);by_cases h1:k=1
 ·subst h1;exact zxF n s ks v w hv
 by_cases h2:k=2
 ·subst h2;exact zxE n s ks v w hv
 by_cases h4:k=4
 ·subst h4;exact zxC n s ks v w hv
 by_cases h5:k=5
 ·subst h5;exact zxB n s ks v w hv
 by_cases h3:k=3
 ·subst h3;exact zxD n s ks v w hv ih'
 by_cases h6:k=6
 ·subst h6;exact zxA n s ks v w hv ih'
 by_cases h7:k=7
 ·subst h7;exact zxz n s ks v w hv ih'
 by_cases h8:8<=k/\k<=23
 ·exact ztn k n s ks v w h8.1 h8.2 hv ih'
 ·exact ztm k n s ks v w (by simpa using h1) (by simpa using h2) (by simpa using h3) (by simpa using h4) (by simpa using h5) (by simpa using h6) (by simpa using h7) (by omega) hv
theorem zkO(t:T)(v:Value)(w:World)(hv:NV w Any t v) :
  Calls prog 161 #[v] w fun e w'=>e=.returned (.bool (isP t))/\Below w.heap.size w w':=by
 have HV:=zh hv;obtain⟨Ad,c,rfl,hf,hlk,hlc,hrow⟩:=hv.open_;clear hf hlk hrow hv;have HX:=zh (show isP t=((t.k==2||t.k==3)&&isE t)from rfl);generalize t.k=k,t.n=n,t.s=s,t.ks.length=l at *
 by_cases h2:(k==2)=true
 ·go_enter func161,ntmps161;go_wp2_with (go_at_call 162;refine(zkM t _ _ (HV.out.later (zr.alloc zl _))).mono ?_;rintro e w1 ⟨rfl,hb1⟩)
  go_ret;exact⟨by rw[HX.out];simp[h2],(zr.alloc zl _).trans (hb1.mono (by simp))⟩
 ·have h2':(k==2)=false:=by simpa using h2
  clear h2;by_cases h3:(k==3)=true
  ·go_enter func161,ntmps161;go_wp2_with (go_at_call 162;refine(zkM t _ _ (HV.out.later (zr.alloc zl _))).mono ?_;rintro e w1 ⟨rfl,hb1⟩)
   go_ret;exact⟨by rw[HX.out];simp[h3],(zr.alloc zl _).trans (hb1.mono (by simp))⟩
  ·have h3':(k==3)=false:=by simpa using h3
   clear h3;go_enter func161,ntmps161;go_wp2_with fail;go_ret;exact⟨by rw[HX.out];simp[h2',h3'],(zr.alloc zl _)⟩
theorem zqx(t:T)(v:Value)(w:World)(hv:NV w Any t v) :
  Calls prog 164 #[v] w fun e w'=>e=.returned (.bool (isV t))/\Below w.heap.size w w':=by
 have HV:=zh hv;obtain⟨Ad,c,rfl,hf,hlk,hlc,hrow⟩:=hv.open_;clear hf hlk hrow hv;have HX:=zh (show isV t=(t.k==2&&isE t)from rfl);generalize t.k=k,t.n=n,t.s=s,t.ks.length=l at *
 by_cases h2:(k==2)=true
 ·go_enter func164,ntmps164;go_wp2_with (go_at_call 162;refine(zkM t _ _ (HV.out.later (zr.alloc zl _))).mono ?_;rintro e w1 ⟨rfl,hb1⟩)
  go_ret;exact⟨by rw[HX.out];simp[h2],(zr.alloc zl _).trans (hb1.mono (by simp))⟩
 ·have h2':(k==2)=false:=by simpa using h2
  clear h2;go_enter func164,ntmps164;go_wp2_with fail;go_ret;exact⟨by rw[HX.out];simp[h2'],(zr.alloc zl _)⟩
end
section
open Go Go.RowKit
def varE(look:ByteArray->Option (List Int))(k:Int)(s:ByteArray)(i:Int×Int):Int×Int :=
 match look s with
 | none=>(0,6)
 | some l =>
  if k=2 then(if l.length=1 then(l.getD 0 0,0)else(0,7))
  else if k=3 then(if i.2≠0 then(0,i.2)else if 0<=i.1/\i.1<l.length then(l.getD i.1.toNat 0,0)else(0,12))
  else if k=4 then(if l.length=0 then(0,13)else(l.getD (l.length-1) 0,0))
  else(l.length,0)
def evK(look:ByteArray->Option (List Int))(k n:Int)(s:ByteArray)(rs:List (Int×Int)):Int×Int :=
 if k=1 then(n,0)
 else if 2<=k/\k<=5 then varE look k s (rs.getD 0 (0,0))
 else if (rs.getD 0 (0,0)).2≠0 then(0,(rs.getD 0 (0,0)).2)
 else if rs.length=1 then unE k (rs.getD 0 (0,0)).1
 else if (rs.getD 1 (0,0)).2≠0 then(0,(rs.getD 1 (0,0)).2)
 else apE k (rs.getD 0 (0,0)).1 (rs.getD 1 (0,0)).1
mutual
def evE(look:ByteArray->Option (List Int)):T->Int×Int
 | .nd k n s ks=>evK look k n s (evEs look ks)
def evEs(look:ByteArray->Option (List Int)):List T->List (Int×Int)
 | []=>[]
 | t::ts=>evE look t::evEs look ts
end
theorem znl(look:ByteArray->Option (List Int)):∀ks:List T,evEs look ks=ks.map (evE look)
 | []=>by simp[evEs]
 | t::ts=>by simp[evEs,znl look ts]
structure zrz(f:FuncId)(fn:Func)(rv:Value)(Rd:World->Prop)(look:ByteArray->Option (List Int)):Prop where
 isFn:IsFn prog f fn
 later:∀W W',Rd W->Below W.heap.size W W'->Rd W'
 fits:∀s l,look s=some l->l.length<=100000
 call:∀(s:ByteArray) (W:World),Rd W->Calls prog f #[rv,.string s] W fun e W'=>Below W.heap.size W W' /\
  ((look s=none/\∃A c,e=.returned (.tuple #[.slice A 0 c,.bool false]))\/∃l A c,look s=some l/\e=.returned (.tuple #[.slice A l.length c,.bool true])/\RowI W' Any A l)
def NumE(r:Int×Int)(w:World)(e:Ending)(w':World):Prop:=e=.returned (.tuple #[.int .i64 r.1,.int .i64 r.2])/\Below w.heap.size w w'
def ValC(f:FuncId)(rv:Value)(Rd:World->Prop)(look:ByteArray->Option (List Int))(t:T):Prop :=
 ∀(v:Value) (W:World),NV W Any t v->Rd W->Calls prog 189 #[v,.func (.func f) #[rv] #[]] W (NumE (evE look t) W)
theorem RowI.nd{w:World}{S:Nat->Prop}{A:Option Addr}{xs:List Int}(h:RowI w S A xs){i:Nat}(hi:i<xs.length):∃a:Addr,A=some a/\w.cell? (a.add i)=some (.int .i64 (xs.getD i 0)) :=
 let ⟨a,h1,_,h3,_⟩:=h i hi;⟨a,h1,by simpa[hi]using h3⟩
theorem znO{f:FuncId}{fn:Func}{rv:Value}{Rd:World->Prop}{look:ByteArray->Option (List Int)}(hL:zrz f fn rv Rd look)(k n:Int)(s:ByteArray)(ks:List T)(v:Value)(w:World)(hv:NV w Any (.nd k n s ks) v)(hR:Rd w)
  (hk:2<=k/\k<=5)(h3:k=3->∃t,ks=[t]/\ValC f rv Rd look t) :
  Calls prog 209 #[v,.func (.func f) #[rv] #[]] w (NumE (varE look k s ((ks.map (evE look)).getD 0 (0,0))) w):=by
 obtain⟨A,c,rfl,hf,hlk,hlc,hrow⟩:=hv.open_;simp only[T.k_nd,T.n_nd,T.s_nd,T.ks_nd]at *
 have hcall:=zkQ hL.isFn;have HL:=zh hL;have uy:=zh hR;have af:=zh hrow;have H3:=zh h3;obtain⟨L,lI⟩:=zX (ks.length);rw[lI];obtain⟨R,hRR⟩:=zX (varE look k s ((ks.map (evE look)).getD 0 (0,0)));rw[hRR];have HRR:=zh hRR;have bH:=zh lI;clear hv hrow h3 hL hR hRR lI hf hlk hlc;go_enter func209,ntmps209;go_wp2_with fail;refine(HL.out.call s _ (HL.out.later _ _ uy.out (zkb zr _))).mono ?_;rintro e w1 ⟨ae,h1⟩;have q1:=zka (zkb zr _) ae;have hN:=zkc (heap_alloc_new w (.cells #[.int .u8 k,.int .i64 n,.string s,.slice A L c] 41)) ae;obtain⟨a0,a1,a2,a3⟩:=box4 hN;have HN:=zh hN;clear ae hN;rcases h1 with⟨hno,A1,c1,rfl⟩|⟨l,A1,c1,hso,rfl,aV⟩
 ·have hRR:R=(0,6):=by rw[<-HRR.out,varE,hno]
  subst hRR;clear a0 a1 a2 a3;go_wp2_with fail;go_ret2;exact⟨rfl,q1⟩
 ·have hlen:=HL.out.fits s l hso;have dE:=zh aV;have mV:=zh hso;clear aV hso;by_cases k2:k=2
  ·subst k2;have hRR:R=if l.length=1 then(l.getD 0 0,0)else(0,7):=by rw[<-HRR.out,varE,mV.out];rfl
   by_cases hl1:l.length=1
   ·rw[if_pos hl1]at hRR;obtain⟨a,rfl,hc⟩:=dE.out.nd (i:=0) (by omega);simp only[Addr.add_zero']at hc;obtain⟨x0,hx0⟩:=zX (l.getD 0 0);rw[hx0]at hc hRR;have HX:=zh hRR;rw[hl1];clear hx0 hl1 dE HRR mV hRR;go_wp2_with fail;go_ret2;exact⟨by rw[HX.out];rfl,q1⟩
   ·rw[if_neg hl1]at hRR;have HX:=zh hRR;have e1:((l.length:Int)==1)=false:=by simp;omega
    have e2:((l.length:Int) != 1)=true:=by simp;omega
    clear hl1 hRR;go_wp2_with fail;go_ret2;exact⟨by rw[HX.out];rfl,q1⟩
  by_cases k4:k=4
  ·subst k4;have hRR:R=if l.length=0 then(0,13)else(l.getD (l.length-1) 0,0):=by rw[<-HRR.out,varE,mV.out];rfl
   by_cases hl1:l.length=0
   ·rw[if_pos hl1]at hRR;have HX:=zh hRR;rw[hl1];clear hl1 dE HRR mV hRR;go_wp2_with fail;go_ret2;exact⟨by rw[HX.out];rfl,q1⟩
   ·rw[if_neg hl1]at hRR;obtain⟨a,rfl,hc⟩:=dE.out.nd (i:=l.length-1) (by omega);obtain⟨x0,hx0⟩:=zX (l.getD (l.length-1) 0);rw[hx0]at hc hRR;have HX:=zh hRR;obtain⟨m,hm⟩:∃m,l.length=m+1:=⟨l.length-1,by omega⟩
    rw[hm]at hc hlen ⊢;simp only[Nat.add_sub_cancel]at hc;clear hx0 hl1 dE HRR mV hm hRR;go_wp2_with fail;go_ret2;exact⟨by rw[HX.out];rfl,q1⟩
  by_cases k5:k=5
  ·subst k5;have hRR:R=((l.length:Int),0):=by rw[<-HRR.out,varE,mV.out];rfl
   have HX:=zh hRR;clear dE HRR mV hRR;go_wp2_with fail;go_ret2;exact⟨by rw[HX.out];rfl,q1⟩
  ·obtain rfl:k=3:=by omega
   obtain⟨t,rfl,hval⟩:=H3.out rfl;obtain⟨a,t0,A2,c2,rfl,_,Ht,⟨y0,y1,y2,y3⟩,hn0⟩:=(af.out.later q1).nd (i:=0) (by simp);simp only[Nat.zero_mul,Addr.add_zero']at y0 y1 y2 y3;have ht0:t0=t:=Ht.out.symm;subst ht0;have hL1:L=1:=bH.out.symm;subst hL1;obtain⟨⟨iv,ie⟩,hiv⟩:=zX (evE look t0);have hRR:R=if ie≠0 then(0,ie)else if 0<=iv/\iv<l.length then(l.getD iv.toNat 0,0)else(0,12):=by rw[<-HRR.out,varE,mV.out];simp[hiv]
   have qV:=zh (show ∀(v:Value) (W:World),NV W Any t0 v->Rd W->Calls prog 189 #[v,.func (.func f) #[rv] #[]] W (NumE (iv,ie) W)from hiv▸hval);have iO:=zh hn0;have HR2:=zh hRR;clear hval hn0 Ht hiv hRR;go_wp2_with fail;refine(qV.out _ _ iO.out (HL.out.later _ _ uy.out q1)).mono ?_;rintro e w2 ⟨rfl,au⟩;have q2:=zka q1 au;have gK:=zh (dE.out.later au);have hRR:=HR2.out;clear au a0 a1 a2 a3 y0 y1 y2 y3 HRR mV dE HR2;by_cases he:ie=0
   ·subst he;rw[if_neg (by simp)]at hRR;by_cases hb:0<=iv/\iv<l.length
    ·rw[if_pos hb]at hRR;obtain⟨j,hj⟩:∃j:Nat,iv=j:=⟨iv.toNat,by omega⟩
     subst hj;have hjl:j<l.length:=by omega
     obtain⟨a',rfl,hc⟩:=gK.out.nd hjl;simp only[Int.toNat_natCast]at hRR;obtain⟨x0,hx0⟩:=zX (l.getD j 0);rw[hx0]at hc hRR;have HX:=zh hRR;clear hx0 gK hRR hb;go_wp2_with fail;go_ret2;exact⟨by rw[HX.out];rfl,q2⟩
    ·rw[if_neg hb]at hRR;have HX:=zh hRR;clear hRR gK;by_cases h0:0<=iv
     ·have h1:(l.length:Int)<=iv:=by omega
      have h2:¬ iv<0:=by omega
      clear hb;go_wp2_with fail;go_ret2;exact⟨by rw[HX.out];rfl,q2⟩
     ·have h1:iv<0:=by omega
      clear hb;go_wp2_with fail;go_ret2;exact⟨by rw[HX.out];rfl,q2⟩
   ·rw[if_pos he]at hRR;have HX:=zh hRR;have e1:(ie==0)=false:=by simpa using he
    have e2:(ie != 0)=true:=by simpa using he
    clear hRR gK he;go_wp2_with fail;go_ret2;exact⟨by rw[HX.out];rfl,q2⟩
theorem zpc{k n:Int}{s:ByteArray}{ks:List T}(h:isE (.nd k n s ks)=true) :
  (k=1/\ks=[])\/((k=2\/k=4\/k=5)/\ks=[])\/(k=3/\∃t,ks=[t]/\isE t=true)\/((k=6\/k=7)/\∃t,ks=[t]/\isE t=true)\/((8<=k/\k<=23)/\∃t u,ks=[t,u]/\isE t=true/\isE u=true):=by
 have l0:decide (ks.length=0)=true->ks=[]:=fun h=>by simpa using h
 have l1:(decide (ks.length=1)&&isEs ks)=true->∃t,ks=[t]/\isE t=true:=fun h=>by
  match ks with
  | [t]=>simp[isEs]at h;exact⟨t,rfl,h⟩
  | []=>simp at h
  | a::b::l=>simp at h
 have l2:(decide (ks.length=2)&&isEs ks)=true->∃t u,ks=[t,u]/\isE t=true/\isE u=true:=fun h=>by
  match ks with
  | [t,u]=>simp[isEs]at h;exact⟨t,u,rfl,h⟩
  | []=>simp at h
  | [a]=>simp at h
  | a::b::c::l=>simp at h
 rw[isE]at h
 split at h
 ·rename_i h1;simp only[Bool.and_eq_true]at h;exact .inl ⟨h1,l0 h.2⟩
 ·split at h
  ·rename_i h1;simp only[Bool.and_eq_true]at h;exact .inr (.inl ⟨h1,l0 h.2⟩)
  ·split at h
   ·rename_i h1;rw[Bool.and_eq_true]at h;exact .inr (.inr (.inl ⟨h1,l1 h.2⟩))
   ·split at h
    ·rename_i h1;rw[Bool.and_eq_true]at h;exact .inr (.inr (.inr (.inl ⟨h1,l1 h.2⟩)))
    ·split at h
     ·rename_i h1;rw[Bool.and_eq_true]at h;exact .inr (.inr (.inr (.inr ⟨h1,l2 h.2⟩)))
     ·cases h
theorem zpo{f:FuncId}{fn:Func}{rv:Value}{Rd:World->Prop}{look:ByteArray->Option (List Int)}(hL:zrz f fn rv Rd look)(t:T):isE t=true->ValC f rv Rd look t:=by
 refine T.ind (p:=fun t=>isE t=true->ValC f rv Rd look t) ?_ t;intro k n s ks ih hE v w hv hR;have HV:=zh hv;have HL:=zh hL;have uy:=zh hR;obtain⟨A,c,rfl,hf,hlk,hlc,hrow⟩:=hv.open_;simp only[T.k_nd,T.n_nd,T.s_nd,T.ks_nd]at *
 have af:=zh hrow;obtain⟨R,hRR⟩:=zX (evE look (.nd k n s ks));rw[hRR];rw[evE,znl]at hRR;rcases zpc hE with⟨rfl,rfl⟩|⟨hk,rfl⟩|⟨rfl,t,rfl,ht⟩|⟨hk,t,rfl,ht⟩|⟨hk,t,u,rfl,ht,hu⟩
 ·have HX:=zh (show R=(n,0) by rw[<-hRR,evK];rfl);clear hv hrow ih hE hR hL hRR hf hlk hlc;go_enter func189,ntmps189;go_wp2_with fail;go_ret2;exact⟨by rw[HX.out];rfl,zkb zr _⟩
 ·have HX:=zh (show varE look k s (([].map (evE look)).getD 0 (0,0))=R by rw[<-hRR,evK,if_neg (by omega),if_pos (by omega)]);have HC:=zh (fun w' (h:Below w.heap.size w w')=>znO hL k n s [] _ w' (hv.later h) (hL.later _ _ hR h) (by omega) (fun h=>by omega));clear hv hrow ih hE hR hL hRR hf hlk hlc;rcases hk with rfl|rfl|rfl
  all_goals
   go_enter func189,ntmps189;go_wp2_with fail;refine(HC.out _ (zkb zr _)).mono ?_;rintro e w1 ⟨rfl,ae⟩;rw[HX.out];have q1:=zka (zkb zr _) ae;clear ae;go_wp2_with fail;go_ret2;exact⟨rfl,q1⟩
 ·have HX:=zh (show varE look 3 s (([t].map (evE look)).getD 0 (0,0))=R by rw[<-hRR,evK,if_neg (by omega),if_pos (by omega)]);have HC:=zh (fun w' (h:Below w.heap.size w w')=>znO hL 3 n s [t] _ w' (hv.later h) (hL.later _ _ hR h) (by omega) (fun _=>⟨t,rfl,ih t List.mem_cons_self ht⟩));clear hv hrow ih hE hR hL hRR hf hlk hlc;simp only[List.length_cons,List.length_nil,Nat.zero_add]at *
  go_enter func189,ntmps189;go_wp2_with fail;refine(HC.out _ (zkb zr _)).mono ?_;rintro e w1 ⟨rfl,ae⟩;rw[HX.out];have q1:=zka (zkb zr _) ae;clear ae;go_wp2_with fail;go_ret2;exact⟨rfl,q1⟩
 ·obtain⟨⟨iv,ie⟩,hiv⟩:=zX (evE look t);obtain⟨⟨uv,ue⟩,hu⟩:=zX (unE k iv);have HX:=zh (show R=if ie≠0 then(0,ie)else(uv,ue) by rw[<-hRR,<-hu,evK,if_neg (by omega),if_neg (by omega)];simp[hiv]);have qV:=zh (show ∀(v:Value) (W:World),NV W Any t v->Rd W->Calls prog 189 #[v,.func (.func f) #[rv] #[]] W (NumE (iv,ie) W)from hiv▸ih t List.mem_cons_self ht);obtain⟨a,t0,A2,c2,rfl,_,Ht,⟨y0,y1,y2,y3⟩,hn0⟩:=(hrow.later (zkb zr (.cells #[.int .u8 k,.int .i64 n,.string s,.slice A [t].length c] 41))).nd (i:=0) (by simp);simp only[Nat.zero_mul,Addr.add_zero',List.length_cons,List.length_nil,Nat.zero_add]at *
  have ht0:t0=t:=Ht.out.symm;subst ht0;have iO:=zh hn0;have hbx:=box4 (heap_alloc_new w (.cells #[.int .u8 k,.int .i64 n,.string s,.slice (some a) 1 c] 41));obtain⟨W0,hW0⟩:=zX (w.alloc (.cells #[.int .u8 k,.int .i64 n,.string s,.slice (some a) 1 c] 41));have q0:Below w.heap.size w W0:=hW0▸zkb zr _;rw[hW0]at y0 y1 y2 y3 iO hbx;have qc:=zh (hL.later _ _ hR q0);have BI:=zh (show ∀w,Calls prog 210 #[.int .u8 k,.int .i64 iv] w fun e w'=>e=.returned (.tuple #[.int .i64 uv,.int .i64 ue])/\w'=w from fun w=>by have:=zvq k iv hk w;rwa[hu]at this);have aX:=zh hbx;obtain⟨x0,x1,x2,x3⟩:=hbx;clear hv hrow ih hE hR hL hRR hf hlk hlc hn0 Ht hiv hu;rcases hk with rfl|rfl
  all_goals
   go_enter func189,ntmps189;go_wp2_with fail;refine(qV.out _ _ iO.out qc.out).mono ?_;rintro e w1 ⟨rfl,ae⟩;have q1:=zka q0 ae;have hx0:=zb ae x0;have hx3:=zb ae x3;clear ae y0 y1 y2 y3 x0 x1 x2 x3;have hX:=HX.out;by_cases he:ie=0
   ·subst he;rw[if_neg (by simp)]at hX;have bC:=zh hX;clear hX HX;go_wp2_with fail;refine(BI.out _).mono ?_;rintro e w2 ⟨rfl,rfl⟩;go_wp2_with fail;go_ret2;exact⟨by rw[bC.out];rfl,q1⟩
   ·rw[if_pos he]at hX;have bC:=zh hX;have e1:(ie==0)=false:=by simpa using he
    have e2:(ie != 0)=true:=by simpa using he
    clear hX HX he;go_wp2_with fail;go_ret2;exact⟨by rw[bC.out];rfl,q1⟩
 ·obtain⟨⟨iv,ie⟩,hiv⟩:=zX (evE look t);obtain⟨⟨jv,je⟩,dw⟩:=zX (evE look u);obtain⟨⟨uv,ue⟩,hu'⟩:=zX (apE k iv jv);have HX:=zh (show R=if ie≠0 then(0,ie)else if je≠0 then(0,je)else(uv,ue) by rw[<-hRR,<-hu',evK,if_neg (by omega),if_neg (by omega)];simp[hiv,dw]);have qV:=zh (show ∀(v:Value) (W:World),NV W Any t v->Rd W->Calls prog 189 #[v,.func (.func f) #[rv] #[]] W (NumE (iv,ie) W)from hiv▸ih t (by simp) ht);have HVD:=zh (show ∀(v:Value) (W:World),NV W Any u v->Rd W->Calls prog 189 #[v,.func (.func f) #[rv] #[]] W (NumE (jv,je) W)from dw▸ih u (by simp) hu);have BI:=zh (show ∀w,Calls prog 211 #[.int .u8 k,.int .i64 iv,.int .i64 jv] w fun e w'=>e=.returned (.tuple #[.int .i64 uv,.int .i64 ue])/\w'=w from fun w=>by have:=zvQ k iv jv hk w;rwa[hu']at this);have hrow':=hrow.later (zkb zr (.cells #[.int .u8 k,.int .i64 n,.string s,.slice A [t,u].length c] 41))
  obtain⟨a,t0,A2,c2,rfl,_,Ht,h4,hn0⟩:=hrow'.nd (i:=0) (by simp);obtain⟨a',t1,A3,c3,ea,_,Hu,h5,hn1⟩:=hrow'.nd (i:=1) (by simp);injection ea with ea;subst ea;have ha:a.add (1*4)=⟨a.block,a.off+4,none⟩:=by unfold Addr.add;split<;>simp_all
  rw[ha]at h5;simp only[Nat.zero_mul,Addr.add_zero',List.length_cons,List.length_nil,Nat.zero_add]at *
  have ht0:t0=t:=Ht.out.symm;have hu0:t1=u:=Hu.out.symm;subst ht0 hu0;have hbx:=box4 (heap_alloc_new w (.cells #[.int .u8 k,.int .i64 n,.string s,.slice (some a) 2 c] 41));obtain⟨W0,hW0⟩:=zX (w.alloc (.cells #[.int .u8 k,.int .i64 n,.string s,.slice (some a) 2 c] 41));have q0:Below w.heap.size w W0:=hW0▸zkb zr _;rw[hW0]at h4 h5 hn0 hn1 hbx;have iO:=zh hn0;have kV:=zh hn1;have qc:=zh (hL.later _ _ hR q0);have kZ:=zh (show ∀w',Below W0.heap.size W0 w'->(Nd4 w' a t0 A2 c2/\Nd4 w' ⟨a.block,a.off+4,none⟩ t1 A3 c3)/\w'.cell? ⟨w.heap.size,0,none⟩=some (.int .u8 k)/\w'.cell? ⟨w.heap.size,3,none⟩=some (.slice (some a) 2 c)from fun w' h=>⟨⟨znt h h4,znt h h5⟩,zb h hbx.1,zb h hbx.2.2.2⟩);have z1:(k==1)=false:=by simp;omega
  have z2:(k==2)=false:=by simp;omega
  have z3:(k==3)=false:=by simp;omega
  have z4:(k==4)=false:=by simp;omega
  have z5:(k==5)=false:=by simp;omega
  obtain⟨⟨⟨y0,y1,y2,y3⟩,⟨v0,v1,v2,v3⟩⟩,x0,x3⟩:=kZ.out _ zr;clear hv hrow hrow' ih hE hR hL hRR hf hlk hlc hn0 hn1 Ht Hu hiv dw hu' h4 h5 hbx ha hk;go_enter func189,ntmps189;go_wp2_with fail;refine(qV.out _ _ iO.out qc.out).mono ?_;rintro e w1 ⟨rfl,ae⟩;have r1:=ae;obtain⟨⟨⟨y0,y1,y2,y3⟩,⟨v0,v1,v2,v3⟩⟩,x0,x3⟩:=kZ.out _ r1;have aK:=zh (kV.out.later r1);have HRd2:=zh (HL.out.later _ _ qc.out r1);clear ae;have hX:=HX.out;by_cases he:ie=0
  ·subst he;rw[if_neg (by simp)]at hX;have bC:=zh hX;clear hX HX;go_wp2_with fail;refine(HVD.out _ _ aK.out HRd2.out).mono ?_;rintro e w2 ⟨rfl,au⟩;have r2:=zka r1 au;obtain⟨⟨⟨y0,y1,y2,y3⟩,⟨v0,v1,v2,v3⟩⟩,x0,x3⟩:=kZ.out _ r2;clear au;have hX:=bC.out;by_cases hj:je=0
   ·subst hj;rw[if_neg (by simp)]at hX;have BB:=zh hX;clear hX bC;go_wp2_with fail;refine(BI.out _).mono ?_;rintro e w3 ⟨rfl,rfl⟩;go_wp2_with fail;go_ret2;exact⟨by rw[BB.out];rfl,zka q0 r2⟩
   ·rw[if_pos hj]at hX;have BB:=zh hX;have e1:(je==0)=false:=by simpa using hj
    have e2:(je != 0)=true:=by simpa using hj
    clear hX bC hj;go_wp2_with fail;go_ret2;exact⟨by rw[BB.out];rfl,zka q0 r2⟩
  ·rw[if_pos he]at hX;have bC:=zh hX;have e1:(ie==0)=false:=by simpa using he
   have e2:(ie != 0)=true:=by simpa using he
   clear hX HX he;go_wp2_with fail;go_ret2;exact⟨by rw[bC.out];rfl,zka q0 r1⟩
theorem zx3(f:FuncId)(rv:Value)(w:World):(binOp BinOp.eql 232 (.func (.func f) #[rv] #[]) .nilFunc).run prog w=.ok (.bool false) w:=by kernel_rfl
def zk9(look:ByteArray->Option (List Int))(t:T):Int×Int:=if isE t=true then evE look t else(0,3)
def indE(look:ByteArray->Option (List Int))(t:T):Int×Int:=if isP t=true then(if t.k=2 then(0,0)else evE look (t.ks.getD 0 (.nd 0 0 ⟨#[]⟩ [])))else(0,3)
theorem zp5{f:FuncId}{fn:Func}{rv:Value}{Rd:World->Prop}{look:ByteArray->Option (List Int)}(hL:zrz f fn rv Rd look)(t:T)(v:Value)(w:World)(hv:NV w Any t v)(hR:Rd w) :
  Calls prog 167 #[v,.func (.func f) #[rv] #[]] w (NumE (zk9 look t) w):=by
 have HV:=zh hv;have HL:=zh hL;have uy:=zh hR;obtain⟨A,c,rfl,-⟩:=hv.open_;obtain⟨⟨R1,R2⟩,hRR⟩:=zX (zk9 look t);rw[hRR];obtain⟨b,hb⟩:=zX (isE t);have Co:=zh (show ∀(v:Value) (w:World),NV w Any t v->Calls prog 162 #[v] w fun e w'=>e=.returned (.bool b)/\Below w.heap.size w w' from fun v w h=>hb▸zkM t v w h);have fM:=zh (show b=true->∀(v:Value) (W:World),NV W Any t v->Rd W->Calls prog 189 #[v,.func (.func f) #[rv] #[]] W (NumE (R1,R2) W)from fun h=>by
  have h1:zk9 look t=evE look t:=by rw[zk9,if_pos (hb.trans h)]
  rw[<-hRR,h1];exact zpo hL t (hb.trans h))
 have bL:=zh (show b=false->R1=0/\R2=3 from fun h=>by
  rw[zk9,hb,h]at hRR;simp at hRR;exact⟨hRR.1.symm,hRR.2.symm⟩)
 clear hv hR hL hRR hb;generalize t.k=k,t.n=n,t.s=s,t.ks.length=m at *
 have hen:=zx3;go_enter func167,ntmps167;go_wp2_with fail;refine(Co.out _ _ (HV.out.later (zkb zr _))).mono ?_;rintro e w1 ⟨rfl,ae⟩;have q1:=zka (zkb zr _) ae;obtain⟨a0,a1,a2,a3⟩:=box4 (zkc (heap_alloc_new w (.cells #[.int .u8 k,.int .i64 n,.string s,.slice A m c] 41)) ae);clear ae
 cases b
 ·obtain⟨rfl,rfl⟩:=bL.out rfl;go_wp2_with fail;go_ret2;exact⟨rfl,q1⟩
 ·have HVA2:=zh (fM.out rfl);clear fM bL;go_wp2_with fail;refine(HVA2.out _ _ (HV.out.later q1) (HL.out.later _ _ uy.out q1)).mono ?_;rintro e w2 ⟨rfl,au⟩;have q2:=zka q1 au;clear au;go_wp2_with fail;go_ret2;exact⟨rfl,q2⟩
theorem znu{f:FuncId}{fn:Func}{rv:Value}{Rd:World->Prop}{look:ByteArray->Option (List Int)}(hL:zrz f fn rv Rd look)(t:T)(v:Value)(w:World)(hv:NV w Any t v)(hR:Rd w) :
  Calls prog 165 #[v,.func (.func f) #[rv] #[]] w (NumE (indE look t) w):=by
 have HV:=zh hv;have HL:=zh hL;have uy:=zh hR;obtain⟨A,c,rfl,hf,hlk,hlc,hrow⟩:=hv.open_;obtain⟨⟨R1,R2⟩,hRR⟩:=zX (indE look t);rw[hRR];obtain⟨b,hb⟩:=zX (isP t);have Co:=zh (show ∀(v:Value) (w:World),NV w Any t v->Calls prog 161 #[v] w fun e w'=>e=.returned (.bool b)/\Below w.heap.size w w' from fun v w h=>hb▸zkO t v w h);have af:=zh hrow;have HK:=zh (show ∀k n s m,t.k=k->t.n=n->t.s=s->t.ks.length=m->b=true->(k=2/\R1=0/\R2=0)\/(k=3/\m=1/\∃u,t.ks=[u]/\∀(v:Value) (W:World),NV W Any u v->Rd W->Calls prog 189 #[v,.func (.func f) #[rv] #[]] W (NumE (R1,R2) W))from by
  rintro k n s m rfl rfl rfl rfl h;have hp:=hb.trans h;rw[indE,if_pos hp]at hRR;unfold isP at hp;simp only[Bool.and_eq_true,Bool.or_eq_true,beq_iff_eq]at hp;rcases hp.1 with h2|h3
  ·rw[if_pos h2]at hRR;injection hRR with r1 r2;exact .inl ⟨h2,r1.symm,r2.symm⟩
  ·rw[if_neg (by omega)]at hRR;obtain⟨k,n,s,ks⟩:=t;simp only[T.k_nd,T.ks_nd]at *
   subst h3;rcases zpc hp.2 with h|h|⟨_,u,rfl,hu⟩|h|h
   ·omega
   ·omega
   ·refine .inr ⟨rfl,rfl,u,rfl,?_⟩;simp at hRR;rw[<-hRR];exact zpo hL u hu
   ·omega
   ·omega)
 have bL:=zh (show b=false->R1=0/\R2=3 from fun h=>by
  rw[indE,hb,h]at hRR;simp at hRR;exact⟨hRR.1.symm,hRR.2.symm⟩)
 obtain⟨k,hk⟩:=zX (t.k);obtain⟨n,hn⟩:=zX (t.n);obtain⟨s,hs⟩:=zX (t.s);obtain⟨m,hm⟩:=zX (t.ks.length);have HKK:=zh (HK.out k n s m hk hn hs hm);rw[hk,hn,hs,hm]at HV ⊢;clear hv hR hL hRR hb hrow hf hlk hlc HK hk hn hs hm;have hen:=zx3;go_enter func165,ntmps165;go_wp2_with fail;refine(Co.out _ _ (HV.out.later (zkb zr _))).mono ?_;rintro e w1 ⟨rfl,ae⟩;have q1:=zka (zkb zr _) ae;obtain⟨a0,a1,a2,a3⟩:=box4 (zkc (heap_alloc_new w (.cells #[.int .u8 k,.int .i64 n,.string s,.slice A m c] 41)) ae);clear ae
 cases b
 ·obtain⟨rfl,rfl⟩:=bL.out rfl;clear HKK;go_wp2_with fail;go_ret2;exact⟨rfl,q1⟩
 ·rcases HKK.out rfl with⟨rfl,rfl,rfl⟩|⟨rfl,rfl,u,hu,dn⟩
  ·clear HKK bL;go_wp2_with fail;go_ret2;exact⟨rfl,q1⟩
  ·have hrow:=af.out;rw[hu]at hrow;obtain⟨a,t0,A2,c2,rfl,_,Ht,⟨y0,y1,y2,y3⟩,hn0⟩:=(hrow.later q1).nd (i:=0) (by simp);simp only[Nat.zero_mul,Addr.add_zero']at y0 y1 y2 y3;have ht0:t0=u:=Ht.out.symm;subst ht0;have iO:=zh hn0;have qV:=zh dn;clear HKK bL dn hu hrow hn0 Ht;go_wp2_with fail;refine(qV.out _ _ iO.out (HL.out.later _ _ uy.out q1)).mono ?_;rintro e w2 ⟨rfl,au⟩;have q2:=zka q1 au;clear au;go_wp2_with fail;go_ret2;exact⟨rfl,q2⟩
theorem zlW{W:World}{n0 b k:Nat}{E:TypeId}{xs:List Value}(h:W.ownsRow n0 E k (boxV b) 1 xs):W.heap[b]?=some (.cells xs.toArray E (0,0)):=by
 rcases h.2 with⟨h1,_⟩|⟨g,cap,cur,hv,_,hg,hn,_,hz,hx⟩
 ·cases h1
 ·injection hv with e1 e2 e3;injection e1 with e1;injection e1 with e1;subst e1 e3;have:cur=xs.toArray:=by
   rw[List.take_of_length_le (by simp;omega)]at hx;rw[<-hx]
  rw[this]at hg;exact hg
theorem zkd{W:World}{n0 sz n:Nat}{E:TypeId}{v:Value}{xs:List Value}(h:W.ownsRow n0 E sz v n xs):∃A c,v=.slice A n c/\n<=c/\c<=maxLen:=by
 rcases h.2 with⟨rfl,rfl⟩|⟨g,cap,cur,rfl,_,_,hn,hm,_⟩
 ·exact⟨none,0,rfl,zl,Nat.zero_le _⟩
 ·exact⟨_,_,rfl,hn,hm⟩
theorem zlf{W:World}{n0 sz n:Nat}{E:TypeId}{v:Value}{xs:List Value}(h:W.ownsRow n0 E sz v n xs)(hn:0<n):∃g c,v=.slice (some ⟨g,0,none⟩) n c/\n<=c/\c<=maxLen/\∀j,j<n*sz->W.cell? ⟨g,j,none⟩=xs[j]?:=by
 rcases h.2 with⟨rfl,rfl⟩|⟨g,cap,cur,rfl,_,_,hc,hm,_⟩
 ·omega
 ·exact⟨g,cap,rfl,hc,hm,fun j hj=>h.cellAt j hj⟩
theorem zzT{W:World}{n0:Nat}{E:TypeId}{v:Value}{vs:List VD}(h:W.ownsRow n0 E 3 v vs.length (zkX vs))(hf:∀v∈vs,FldV v):∃A c,v=.slice A vs.length c/\vs.length<=c/\RowV W Any A vs:=by
 rcases Nat.eq_zero_or_pos vs.length with h0|h0
 ·obtain⟨A,c,rfl,hc,_⟩:=zkd h;exact⟨A,c,rfl,hc,fun i hi=>by omega⟩
 ·obtain⟨g,c,rfl,hc,_,hcell⟩:=zlf h h0;refine⟨_,c,rfl,hc,fun i hi=>⟨_,rfl,trivial,?_,hf _ (List.getElem_mem hi)⟩⟩;have ha:(⟨g,0,none⟩:Addr).add (i*3)=⟨g,i*3,none⟩:=by unfold Addr.add;split<;>simp_all
  obtain⟨h1,h2,h3⟩:=zqy vs i hi;rw[ha];exact⟨(hcell (i*3) (by omega)).trans h1,(hcell (i*3+1) (by omega)).trans h2,(hcell (i*3+2) (by omega)).trans h3⟩
theorem zre{W:World}{n0:Nat}{E:TypeId}{v:Value}{l:List Int}(h:W.ownsRow n0 E 1 v l.length (zkg l))(hf:∀x∈l,I64 x):∃A c,v=.slice A l.length c/\l.length<=c/\RowI W Any A l:=by
 obtain⟨A,c,e,hc,hr⟩:=zlF (xs:=l) h hf;exact⟨A,c,e,hc,hr.any⟩
def Ph.gF(P:Ph):Nat:=P.vF.ownBlock.getD 0
def curP(P:Ph)(S:ST):Addr:=if S.calls.length=0 then⟨P.sb,0,none⟩else⟨P.gF,(S.calls.length-1)*3,none⟩
def curV(P:Ph)(S:ST):Value:=if S.calls.length=0 then P.vV else P.fV (S.calls.length-1)
def curC(P:Ph)(S:ST):Value:=if S.calls.length=0 then P.vC else P.fC (S.calls.length-1)
theorem zmo{S:ST}(h:S.calls.length=0):S.cur=S.base:=by
 have:S.calls=[]:=List.length_eq_zero_iff.1 h;simp[ST.cur,this]
theorem zmu{S:ST}(h:0<S.calls.length):S.cur=S.calls[S.calls.length-1]:=by
 unfold ST.cur;rw[List.getLast?_eq_getElem?,List.getElem?_eq_getElem (by omega)];rfl
section
variable {W W':World} {n0:Nat} {P:Ph} {S:ST}
theorem SR.later(h:SR W n0 P S)(hb:Below W.heap.size W W'):SR W' n0 P S:=⟨h.rws.later hb,h.wf⟩
theorem SR.box(h:SR W n0 P S):W.heap[P.sb]?=some (.cells #[P.vV,P.vC,.int .i64 S.base.loc,P.vF,.pointer (some ⟨P.tb,0,none⟩)] 190 (0,0)):=zlW (h.rws.row .sb)
theorem SR.tbox(h:SR W n0 P S):W.heap[P.tb]?=some (.cells #[P.vI,P.vO] 220 (0,0)):=zlW (h.rws.row .tb)
theorem SR.cbox(h:SR W n0 P S){i:Nat}(hi:i<S.nc):W.heap[P.cb i]?=some (.cells #[P.ci i] 194 (0,0)):=by
 have:=h.rws.row (.cb i);simp only[rows,hi,if_true]at this;exact zlW this
theorem SR.items(h:SR W n0 P S){i:Nat}(hi:i<S.nc):∃A c,P.ci i=.slice A (S.cell i).length c/\(S.cell i).length<=c/\RowI W Any A (S.cell i):=by
 have:=h.rws.row (.ci i);simp only[rows,hi,if_true]at this;exact zre this (h.wf.cells i hi).2
theorem SR.calls(h:SR W n0 P S):∃A c,P.vF=.slice A S.calls.length c/\S.calls.length<=c/\(0<S.calls.length->A=some ⟨P.gF,0,none⟩/\∀j,j<S.calls.length*3->W.cell? ⟨P.gF,j,none⟩=(zkW P 0 S.calls)[j]?):=by
 have hr:W.ownsRow n0 187 3 P.vF S.calls.length (zkW P 0 S.calls):=h.rws.row .calls;rcases Nat.eq_zero_or_pos S.calls.length with h0|h0
 ·obtain⟨A,c,e,hc,_⟩:=zkd hr;exact⟨A,c,e,hc,fun h=>by omega⟩
 ·obtain⟨g,c,e,hc,_,hcell⟩:=zlf hr h0;have hg:P.gF=g:=by simp[Ph.gF,e,Value.ownBlock]
  exact⟨_,c,e,hc,fun _=>⟨by rw[hg],by rw[hg];exact hcell⟩⟩
theorem SR.curWF(h:SR W n0 P S):∃kd,S.cur.WF kd S.nc:=by
 obtain⟨kd,h1,h2,_⟩:=h.wf.ex;refine⟨kd,?_⟩;rcases Nat.eq_zero_or_pos S.calls.length with h0|h0
 ·rw[zmo h0];exact h1
 ·rw[zmu h0];exact h2 _ (List.getElem_mem _)
theorem SR.cur3(h:SR W n0 P S):W.cell? (curP P S)=some (curV P S)/\W.cell? ⟨(curP P S).block,(curP P S).off+1,none⟩=some (curC P S)/\W.cell? ⟨(curP P S).block,(curP P S).off+2,none⟩=some (.int .i64 S.cur.loc):=by
 rcases Nat.eq_zero_or_pos S.calls.length with h0|h0
 ·rw[zmo h0];simp only[curP,curV,curC,h0,if_true];exact⟨zc h.box rfl,zc h.box rfl,zc h.box rfl⟩
 ·rw[zmu h0];have hne:S.calls.length≠0:=by omega
  simp only[curP,curV,curC,hne,if_false];obtain⟨A,c,_,_,h2⟩:=h.calls;obtain⟨_,hcell⟩:=h2 h0;obtain⟨g1,g2,g3⟩:=zoB P S.calls 0 (S.calls.length-1) (by omega);simp only[Nat.zero_add]at g1 g2;exact⟨(hcell _ (by omega)).trans g1,(hcell _ (by omega)).trans g2,(hcell _ (by omega)).trans g3⟩
theorem SR.curVs(h:SR W n0 P S):∃A c,curV P S=.slice A S.cur.vs.length c/\S.cur.vs.length<=c/\RowV W Any A S.cur.vs:=by
 obtain⟨kd,hw⟩:=h.curWF;rcases Nat.eq_zero_or_pos S.calls.length with h0|h0
 ·rw[zmo h0]at hw ⊢;simp only[curV,h0,if_true];exact zzT (h.rws.row .bv) hw.fld
 ·rw[zmu h0]at hw ⊢;have hne:S.calls.length≠0:=by omega
  simp only[curV,hne,if_false];have:=h.rws.row (.fv (S.calls.length-1));simp only[rows,List.getElem?_eq_getElem (show S.calls.length-1<S.calls.length by omega)]at this;exact zzT this hw.fld
theorem SR.curCs(h:SR W n0 P S):W.ownsRow n0 192 1 (curC P S) S.cur.cs.length (ptrs P.cb S.cur.cs):=by
 rcases Nat.eq_zero_or_pos S.calls.length with h0|h0
 ·rw[zmo h0];simp only[curC,h0,if_true];exact h.rws.row .bc
 ·rw[zmu h0];have hne:S.calls.length≠0:=by omega
  simp only[curC,hne,if_false];have:=h.rws.row (.fc (S.calls.length-1));simp only[rows,List.getElem?_eq_getElem (show S.calls.length-1<S.calls.length by omega)]at this;exact this
end
def idxZ:Option Nat->Int
 | none => -1
 | some i=>i
theorem zlo{W:World}{n0:Nat}{P:Ph}{S:ST}(h:SR W n0 P S):Calls prog 170 #[.pointer (some ⟨P.sb,0,none⟩)] W fun e w'=>e=.returned (.pointer (some (curP P S)))/\w'=W:=by
 obtain⟨A,c,nT,hc,h2⟩:=h.calls;have hx:W.cell? ⟨P.sb,3,none⟩=some (.slice A S.calls.length c):=by rw[<-nT];exact zc h.box rfl
 have tu:=h.wf.ncalls;obtain⟨cp,hcp⟩:=zX (curP P S);rw[hcp];have qG:=zh hcp;have H2:=zh h2;obtain⟨L,hL⟩:=zX (S.calls.length);rw[hL]at hx tu;have HL:=zh hL;clear h nT hc h2 hcp hL;rcases Nat.eq_zero_or_pos L with h0|h0
 ·subst h0;have HX:=zh (show cp=⟨P.sb,0,none⟩ by rw[<-qG.out,curP,if_pos HL.out]);clear HL qG H2;go_enter func170,ntmps170;go_wp2_with fail;go_ret;exact⟨by rw[HX.out];rfl,rfl⟩
 ·obtain⟨rfl,-⟩:=H2.out (by rw[HL.out];exact h0);obtain⟨m,hm⟩:∃m,L=m+1:=⟨L-1,by omega⟩
  subst hm;have HX:=zh (show cp=⟨P.gF,m*3,none⟩ by rw[<-qG.out,curP,if_neg (by have:=HL.out;omega),HL.out];rfl);clear HL qG H2 h0;go_enter func170,ntmps170;go_wp2_with fail;go_ret;exact⟨by rw[HX.out];simp,rfl⟩
theorem zn2(vs:List VD)(A:Option Addr)(c:Nat)(s:ByteArray)(fp:Addr)(w:World)(hc:w.cell? fp=some (.slice A vs.length c))(hrow:RowV w Any A vs)(hl:vs.length<=4398046511000) :
  Calls prog 202 #[.pointer (some fp),.string s] w fun e w'=>e=.returned (.int .i64 (idxZ (zl6 vs s vs.length)))/\Below w.heap.size w w':=by
 obtain⟨R,hR⟩:=zX (zl6 vs s vs.length);rw[hR];have HR:=zh hR;have af:=zh hrow;have HC:=zh hc;clear hR hrow;go_enter func202,ntmps202;go_wp2_with fail
 go_loopw [5] (fun i wr=>∃j:Nat,j<=vs.length/\i=.int .i64 ((j:Int)-1)/\wr=w/\Hid (zl6 vs s j=R)) (fun i _=>(intOf i+1).toNat)
 case atStart=>exact⟨vs.length,zl,by go_num,rfl,HR⟩
 case round =>
  obtain⟨j,hj,rfl,rfl,HJ⟩:=hrel;by_cases h0:j=0
  ·subst h0;have HX:=zh (show R=none by rw[<-HJ.out];rfl);go_wp2_with fail;go_ret;exact⟨by rw[HX.out];rfl,zr⟩
  ·obtain⟨m,rfl⟩:∃m,j=m+1:=⟨j-1,by omega⟩
   have hm:m<vs.length:=by omega
   obtain⟨a,rfl,-,⟨y0,y1,y2⟩,-⟩:=af.out m hm;have hjm:((m+1:Nat):Int)-1=(m:Int):=by omega
   rw[hjm];obtain⟨vm,Af⟩:=zX (vs[m]);rw[Af]at y0 y1 y2;have HL:=zh (show(if vm.s.toList==s.toList then some m else zl6 vs s m)=R by rw[<-HJ.out,zpa hm,Af]);obtain⟨b,hb⟩:=zX ((vm.s.toList==s.toList));rw[hb]at HL;clear HJ Af hjm
   cases b
   ·go_wp2_with fail
    go_roundw
    case rel=>exact⟨m,by omega,by go_num,trivial,zh (by have:=HL.out;simpa using this)⟩
    case measure=>simp[intOf]
   ·have HX:=zh (show R=some m by rw[<-HL.out];rfl);go_wp2_with fail;go_ret;exact⟨by rw[HX.out];rfl,zr⟩
theorem zo8{W:World}{n0:Nat}{P:Ph}{S:ST}(h:SR W n0 P S)(s:ByteArray):Calls prog 190 #[.pointer (some ⟨P.sb,0,none⟩),.string s] W fun e W'=>Below W.heap.size W W' /\
  ((S.look s=none/\∃A c,e=.returned (.tuple #[.slice A 0 c,.bool false]))\/∃l A c,S.look s=some l/\e=.returned (.tuple #[.slice A l.length c,.bool true])/\RowI W' Any A l):=by
 have HS:=zh h;obtain⟨kd,hw⟩:=h.curWF;obtain⟨A,c,hcv,hc,hrow⟩:=h.curVs;obtain⟨h1,h2,h3⟩:=h.cur3;rw[hcv]at h1;have dm:=zh (zlo h);have bz:=zh (fun W' (hb:Below W.heap.size W W')=>zn2 S.cur.vs A c s (curP P S) W' (zb hb h1) (hrow.later hb) hw.lim);have Cx:=zh h.curCs;have eT:=zh hw;obtain⟨cp,hcp⟩:=zX (curP P S);rw[hcp]at h1 h2 h3 dm bz;obtain⟨r,hr⟩:=zX (S.cur.at s);have hr':zl6 S.cur.vs s S.cur.vs.length=r:=hr;rw[hr']at bz;have HRR:=zh hr;have H2:=zh h2;clear h hw hcv hrow h1 h2 h3 hcp hr hr';go_enter func190,ntmps190;go_wp2_with fail;refine dm.out.mono ?_;rintro e w1 ⟨rfl,rfl⟩;go_wp2_with fail;refine(bz.out _ zr).mono ?_;rintro e w2 ⟨rfl,au⟩;have hy:=zb au H2.out;have HS2:=zh (HS.out.later au);have HB2:=zh au;clear au;rcases r with _|i
 ·have HX:=zh (show S.look s=none by unfold ST.look ST.num;rw[HRR.out];rfl);simp only[idxZ];go_wp2_with fail;go_ret2;exact⟨HB2.out,.inl ⟨HX.out,none,0,rfl⟩⟩
 ·have hil:i<S.cur.vs.length:=FR.at_lt HRR.out;have hic:i<S.cur.cs.length:=by rw[eT.out.len];exact hil
  obtain⟨id,hid⟩:=zX (S.cur.cs[i]);have aL:id<S.nc:=by rw[<-hid];exact eT.out.num _ (List.getElem_mem hic)
  have HX:=zh (show S.look s=some (S.cell id) by unfold ST.look ST.num;rw[HRR.out];simp[hic,hid]);obtain⟨g,c2,hcc,hc2,hm2,hcell⟩:=zlf HS2.out.curCs (by omega);rw[hcc]at hy;have hz:w2.cell? ⟨g,i,none⟩=some (.pointer (some ⟨P.cb id,0,none⟩)):=by rw[hcell i (by omega)];simp[ptrs,hic,hid]
  obtain⟨A3,c3,hci,hc3,aV⟩:=HS2.out.items aL;have hz2:w2.cell? ⟨P.cb id,0,none⟩=some (.slice A3 (S.cell id).length c3):=by rw[<-hci];exact zc (HS2.out.cbox aL) rfl
  have dE:=zh aV;have hi1:(i:Int)<(S.cur.cs.length:Int):=by omega
  have hi2:¬ (i:Int)<0:=by omega
  simp only[idxZ];clear hcell hcc aV hci hid hil;go_wp2_with fail;go_ret2;exact⟨HB2.out,.inr ⟨_,HX.out,A3,⟨c3,rfl⟩,dE.out⟩⟩
theorem zwS:IsFn prog 190 f190:=⟨func190,by kernel_rfl,by kernel_rfl⟩
theorem ST.look_num{S:ST}{s:ByteArray}{l:List Int}(h:S.look s=some l):∃i id,S.cur.at s=some i/\S.cur.cs[i]?=some id/\l=S.cell id:=by
 unfold ST.look ST.num at h;simp only[Option.map_eq_some_iff,Option.bind_eq_some_iff]at h;obtain⟨id,⟨i,h1,h2⟩,rfl⟩:=h;exact⟨i,id,h1,h2,rfl⟩
theorem ST.WF.cur{S:ST}(h:S.WF):∃kd,S.cur.WF kd S.nc:=by
 obtain⟨kd,h1,h2,_⟩:=h.ex;refine⟨kd,?_⟩;rcases Nat.eq_zero_or_pos S.calls.length with h0|h0
 ·rw[zmo h0];exact h1
 ·rw[zmu h0];exact h2 _ (List.getElem_mem _)
theorem zui(n0:Nat)(P:Ph)(S:ST)(hw:S.WF):zrz 190 f190 (.pointer (some ⟨P.sb,0,none⟩)) (fun W=>SR W n0 P S) S.look where
 isFn:=zwS
 later:=fun _ _ h hb=>h.later hb
 fits:=fun s l hl=>by
  obtain⟨i,id,h1,h2,rfl⟩:=ST.look_num hl;obtain⟨kd,hc⟩:=hw.cur;have:=(hw.cells id (hc.num id (List.mem_of_getElem? h2))).1;omega
 call:=fun s W h=>zo8 h s
theorem zmw{W:World}{n0:Nat}{P:Ph}{S:ST}(h:SR W n0 P S)(s:ByteArray)(id:Nat)(hid:S.num s=some id):Calls prog 193 #[.pointer (some ⟨P.sb,0,none⟩),.string s] W fun e W'=>e=.returned (.pointer (some ⟨P.cb id,0,none⟩))/\Below W.heap.size W W':=by
 have HS:=zh h;obtain⟨kd,hw⟩:=h.curWF;obtain⟨A,c,hcv,hc,hrow⟩:=h.curVs;obtain⟨h1,h2,h3⟩:=h.cur3;rw[hcv]at h1;unfold ST.num at hid;rw[Option.bind_eq_some_iff]at hid;obtain⟨i,hr,hci⟩:=hid;have hr':zl6 S.cur.vs s S.cur.vs.length=some i:=hr;have dm:=zh (zlo h);have hfi:=fun W' (hb:Below W.heap.size W W')=>zn2 S.cur.vs A c s (curP P S) W' (zb hb h1) (hrow.later hb) hw.lim;rw[hr']at hfi;simp only[idxZ]at hfi;have bz:=zh hfi;have hic:i<S.cur.cs.length:=(List.getElem?_eq_some_iff.1 hci).1;have hidd:S.cur.cs[i]=id:=(List.getElem?_eq_some_iff.1 hci).2;obtain⟨cp,hcp⟩:=zX (curP P S);rw[hcp]at h1 h2 h3 dm bz;have H2:=zh h2;clear hw hcv hrow h1 h2 h3 hcp hr hr' hfi h hci;go_enter func193,ntmps193;go_wp2_with fail;refine dm.out.mono ?_;rintro e w1 ⟨rfl,rfl⟩;have hy0:=H2.out;obtain⟨g,c2,hcc,hc2,hm2,hcell⟩:=zlf HS.out.curCs (by omega);rw[hcc]at hy0
 have hz:w1.cell? ⟨g,i,none⟩=some (.pointer (some ⟨P.cb id,0,none⟩)):=by rw[hcell i (by omega)];simp[ptrs,hic,hidd]
 have az:=zh (show ∀w',Below w1.heap.size w1 w'->w'.cell? ⟨cp.block,cp.off+1,none⟩=some (.slice (some ⟨g,0,none⟩) S.cur.cs.length c2)/\w'.cell? ⟨g,i,none⟩=some (.pointer (some ⟨P.cb id,0,none⟩))from fun w' hb=>⟨zb hb hy0,zb hb hz⟩);have aD:=zh (az.out _ zr.drew);obtain⟨L,hL⟩:=zX (S.cur.cs.length);have hi1:(i:Int)<(L:Int):=by omega
 have hi0:(0:Int)<=(i:Int):=by omega
 have hi2:i<L:=by omega
 rw[hL]at az aD;clear hcell hcc hy0 hz hL;go_upto_region 2 with fail
 go_region_held3 (fun w':World=>zv w' cp.block (cp.off+1) (.slice (some ⟨g,0,none⟩) L c2)/\zv w' g i (.pointer (some ⟨P.cb id,0,none⟩)))
  (first|with_reducible exact aA.out|with_reducible exact aD.out)
  (first
   | (go_at_call 202;refine(bz.out _ zr.drew).mono ?_;rintro e y1 ⟨rfl,dZ⟩;have b1:=zka (zs w1).drew dZ;have aA:=zh (az.out _ b1))
   | fail)
 have HB1:=zh b1;clear b1 dZ aA;go_wp2_with fail;go_ret;exact⟨rfl,HB1.out⟩
def zoN(k:Int):Int:=if k=2 then 1 else if k=3 then 2 else if k=4\/k=5\/k=44\/k=45 then 3 else 0
def basB(k:Int):Bool:=decide (40<=k/\k<=49)
def zs2(k:Int):Int:=if k=40 then 41 else if k=41 then 40 else if k=44 then 45 else if k=45 then 44 else if k=46 then 47 else if k=47 then 46 else if k=48 then 49 else if k=49 then 48 else k
theorem zue(k:Int)(w:World):Calls prog 192 #[.int .u8 k] w fun e w'=>e=.returned (.int .u8 (zoN k))/\w'=w:=by
 by_cases e2:k=2
 ·subst e2;go_enter func192,ntmps192;go_wp2_with fail;go_ret;exact⟨rfl,rfl⟩
 by_cases e3:k=3
 ·subst e3;go_enter func192,ntmps192;go_wp2_with fail;go_ret;exact⟨rfl,rfl⟩
 by_cases e4:k=4
 ·subst e4;go_enter func192,ntmps192;go_wp2_with fail;go_ret;exact⟨rfl,rfl⟩
 by_cases e5:k=5
 ·subst e5;go_enter func192,ntmps192;go_wp2_with fail;go_ret;exact⟨rfl,rfl⟩
 by_cases e44:k=44
 ·subst e44;go_enter func192,ntmps192;go_wp2_with fail;go_ret;exact⟨rfl,rfl⟩
 by_cases e45:k=45
 ·subst e45;go_enter func192,ntmps192;go_wp2_with fail;go_ret;exact⟨rfl,rfl⟩
 have x2:(k==2)=false:=by simpa using e2
 have x3:(k==3)=false:=by simpa using e3
 have x4:(k==4)=false:=by simpa using e4
 have x5:(k==5)=false:=by simpa using e5
 have x44:(k==44)=false:=by simpa using e44
 have x45:(k==45)=false:=by simpa using e45
 obtain⟨R,hR⟩:=zX (zoN k);rw[hR];have HR:=zh (show R=0 by rw[<-hR,zoN];rw[if_neg e2,if_neg e3,if_neg (by omega)]);clear hR e2 e3 e4 e5 e44 e45;go_enter func192,ntmps192;go_wp2_with fail;go_ret;exact⟨by rw[HR.out];rfl,rfl⟩
theorem zvh(k:Int)(w:World):Calls prog 169 #[.int .u8 k] w fun e w'=>e=.returned (.bool (basB k))/\w'=w:=by
 by_cases e40:k=40
 ·subst e40;go_enter func169,ntmps169;go_wp2_with fail;go_ret;exact⟨rfl,rfl⟩
 by_cases e41:k=41
 ·subst e41;go_enter func169,ntmps169;go_wp2_with fail;go_ret;exact⟨rfl,rfl⟩
 by_cases e42:k=42
 ·subst e42;go_enter func169,ntmps169;go_wp2_with fail;go_ret;exact⟨rfl,rfl⟩
 by_cases e43:k=43
 ·subst e43;go_enter func169,ntmps169;go_wp2_with fail;go_ret;exact⟨rfl,rfl⟩
 by_cases e44:k=44
 ·subst e44;go_enter func169,ntmps169;go_wp2_with fail;go_ret;exact⟨rfl,rfl⟩
 by_cases e45:k=45
 ·subst e45;go_enter func169,ntmps169;go_wp2_with fail;go_ret;exact⟨rfl,rfl⟩
 by_cases e46:k=46
 ·subst e46;go_enter func169,ntmps169;go_wp2_with fail;go_ret;exact⟨rfl,rfl⟩
 by_cases e47:k=47
 ·subst e47;go_enter func169,ntmps169;go_wp2_with fail;go_ret;exact⟨rfl,rfl⟩
 by_cases e48:k=48
 ·subst e48;go_enter func169,ntmps169;go_wp2_with fail;go_ret;exact⟨rfl,rfl⟩
 by_cases e49:k=49
 ·subst e49;go_enter func169,ntmps169;go_wp2_with fail;go_ret;exact⟨rfl,rfl⟩
 have x40:(k==40)=false:=by simpa using e40
 have x41:(k==41)=false:=by simpa using e41
 have x42:(k==42)=false:=by simpa using e42
 have x43:(k==43)=false:=by simpa using e43
 have x44:(k==44)=false:=by simpa using e44
 have x45:(k==45)=false:=by simpa using e45
 have x46:(k==46)=false:=by simpa using e46
 have x47:(k==47)=false:=by simpa using e47
 have x48:(k==48)=false:=by simpa using e48
 have x49:(k==49)=false:=by simpa using e49
 obtain⟨R,hR⟩:=zX (basB k);rw[hR];have HR:=zh (show R=false by rw[<-hR,basB];simp;omega);clear hR e40 e41 e42 e43 e44 e45 e46 e47 e48 e49;go_enter func169,ntmps169;go_wp2_with fail;go_ret;exact⟨by rw[HR.out];rfl,rfl⟩
theorem zrn(k:Int)(w:World):Calls prog 205 #[.int .u8 k] w fun e w'=>e=.returned (.int .u8 (zs2 k))/\w'=w:=by
 by_cases e40:k=40
 ·subst e40;go_enter func205,ntmps205;go_wp2_with fail;go_ret;exact⟨rfl,rfl⟩
 by_cases e41:k=41
 ·subst e41;go_enter func205,ntmps205;go_wp2_with fail;go_ret;exact⟨rfl,rfl⟩
 by_cases e44:k=44
 ·subst e44;go_enter func205,ntmps205;go_wp2_with fail;go_ret;exact⟨rfl,rfl⟩
 by_cases e45:k=45
 ·subst e45;go_enter func205,ntmps205;go_wp2_with fail;go_ret;exact⟨rfl,rfl⟩
 by_cases e46:k=46
 ·subst e46;go_enter func205,ntmps205;go_wp2_with fail;go_ret;exact⟨rfl,rfl⟩
 by_cases e47:k=47
 ·subst e47;go_enter func205,ntmps205;go_wp2_with fail;go_ret;exact⟨rfl,rfl⟩
 by_cases e48:k=48
 ·subst e48;go_enter func205,ntmps205;go_wp2_with fail;go_ret;exact⟨rfl,rfl⟩
 by_cases e49:k=49
 ·subst e49;go_enter func205,ntmps205;go_wp2_with fail;go_ret;exact⟨rfl,rfl⟩
 have x40:(k==40)=false:=by simpa using e40
 have x41:(k==41)=false:=by simpa using e41
 have x44:(k==44)=false:=by simpa using e44
 have x45:(k==45)=false:=by simpa using e45
 have x46:(k==46)=false:=by simpa using e46
 have x47:(k==47)=false:=by simpa using e47
 have x48:(k==48)=false:=by simpa using e48
 have x49:(k==49)=false:=by simpa using e49
 obtain⟨R,hR⟩:=zX (zs2 k);rw[hR];have HR:=zh (show R=k by rw[<-hR,zs2];rw[if_neg e40,if_neg e41,if_neg e44,if_neg e45,if_neg e46,if_neg e47,if_neg e48,if_neg e49]);clear hR e40 e41 e44 e45 e46 e47 e48 e49;go_enter func205,ntmps205;go_wp2_with fail;go_ret;exact⟨by rw[HR.out];rfl,rfl⟩
def OwnB{I:Type}(d:I->RowD)(b:Nat):Prop:=∃i,(d i).v.ownBlock=some b
structure Stp{I:Type}(n0:Nat)(d:I->RowD)(W:World)(d':I->RowD)(W':World):Prop where
 rws:Rws W' n0 d'
 chg:Chg (OwnB d) W W'
 own:∀b,OwnB d' b->OwnB d b\/W.heap.size<=b
section
variable {I:Type} {n0:Nat} {d d' d'':I->RowD} {W W' W'':World}
theorem Stp.refl(h:Rws W n0 d):Stp n0 d W d W:=⟨h,Chg.refl _ _,fun _ h=>.inl h⟩
theorem Stp.trans(h:Stp n0 d W d' W')(h':Stp n0 d' W' d'' W''):Stp n0 d W d'' W'' :=
 ⟨h'.rws,h.chg.trans2 h'.chg fun b hb hc=>(h.own b hc).elim id fun h=>by omega,fun b hb=>(h'.own b hb).elim (h.own b) fun h2=>.inr (Nat.le_trans h.chg.size h2)⟩
theorem Stp.cast(h:Stp n0 d W d' W')(e:d'=d''):Stp n0 d W d'' W':=e▸h
theorem Stp.below(h:Stp n0 d W d' W')(hb:Below W'.heap.size W' W''):Stp n0 d W d' W'' :=
 ⟨h.rws.later hb,h.chg.trans (Chg.of_below hb),h.own⟩
theorem Stp.after(h:Stp n0 d W' d' W'')(hb:Below W.heap.size W W')(hd:Rws W n0 d):Stp n0 d W d' W'' :=
 (Stp.below (Stp.refl hd) hb).trans h
variable [DecidableEq I]
theorem Stp.upd{i:I}{r:RowD}(h:Rws W n0 d)(hc:Chg (fun b=>(d i).v.ownBlock=some b) W W')(ho:W'.ownsRow n0 r.E r.sz r.v r.n r.xs)(ak:∀b,r.v.ownBlock=some b->(d i).v.ownBlock=some b\/W.heap.size<=b):Stp n0 d W (updR d i r) W' :=
 ⟨h.upd i hc ho ak,hc.mono fun b _ hb=>⟨i,hb⟩,fun b ⟨j,hj⟩=>by
  by_cases e:j=i
  ·subst e;rw[zkA]at hj;exact(ak b hj).imp (fun h=>⟨j,h⟩) id
  ·rw[zkk e]at hj;exact .inl ⟨j,hj⟩⟩
theorem Stp.set{i:I}(h:Rws W n0 d){g:Nat}(hg:(d i).v.ownBlock=some g){o:Nat}(ho:o<(d i).xs.length)(u:Value):Stp n0 d W (updR d i { d i with xs:=(d i).xs.set o u }) (W.setCell ⟨g,o,none⟩ u) :=
 ⟨h.set i hg ho u,((Chg.refl _ _).setCell (.inl hg) u).mono fun b _ hb=>⟨i,hb⟩,fun b ⟨j,hj⟩=>by
  by_cases e:j=i
  ·subst e;rw[zkA]at hj;exact .inl ⟨j,hj⟩
  ·rw[zkk e]at hj;exact .inl ⟨j,hj⟩⟩
end
theorem zxK:(prog.info? 57).map (fun i=>(i.zero,i.size,i.bytes))=some (some (.agg #[.string ⟨#[]⟩,.int .u8 0,.int .i64 0]),3,32):=by kernel_rfl
theorem zzX:(prog.info? 192).map (fun i=>(i.zero,i.size,i.bytes))=some (some (.pointer none),1,8):=by kernel_rfl
theorem zvd(a0 a1 a2:Value)(w:World):(Instr.buildSlice 22 1 #[(0,.agg #[a0,a1,a2])]).run prog w=.ok (.slice (some ⟨w.heap.size,0,none⟩) 1 1) (w.alloc (.cells #[a0,a1,a2] 57)):=by kernel_rfl
theorem zxe(p:Option Addr)(w:World):(Instr.buildSlice 185 1 #[(0,.pointer p)]).run prog w=.ok (.slice (some ⟨w.heap.size,0,none⟩) 1 1) (w.alloc (.cells #[.pointer p] 192)):=by kernel_rfl
theorem zrv{I:Type}[DecidableEq I]{n0:Nat}{d:I->RowD}{W:World}(h:Rws W n0 d)(i0 iv ic:I)(h01:i0≠iv)(h02:i0≠ic)(h12:iv≠ic)(b o:Nat)(hb:(d i0).v.ownBlock=some b)
  (hov:(d i0).xs[o]?=some (d iv).v)(hoc:(d i0).xs[o+1]?=some (d ic).v)(xs ys:List Value)(m:Nat)(hiv:d iv=⟨(d iv).v,57,3,m,xs⟩)(hic:d ic=⟨(d ic).v,192,1,m,ys⟩)(hm:m<=4398046511000)
  (v:VD)(q:Option Addr) :
  Calls prog 133 #[.pointer (some ⟨b,o,none⟩),.agg #[.string v.s,.int .u8 v.k,.int .i64 v.n],.pointer q] W fun e W'=>(∃u,e=.returned u)/\∃vv vc,
   Stp n0 d W (updR (updR (updR d iv ⟨vv,57,3,m+1,xs++[.string v.s,.int .u8 v.k,.int .i64 v.n]⟩) ic ⟨vc,192,1,m+1,ys++[.pointer q]⟩) i0 { d i0 with xs:=((d i0).xs.set o vv).set (o+1) vc }) W':=by
 obtain⟨i1,hi1,hz0,hz1,hz2⟩:=info_parts zxK;obtain⟨i2,hi2,hy0,hy1,hy2⟩:=info_parts zzX;have gq:=h.row iv;rw[hiv]at gq;have hrc:=h.row ic;rw[hic]at hrc;obtain⟨A1,c1,e1,-⟩:=zkd gq;obtain⟨A2,c2,e2,-⟩:=zkd hrc;dsimp only at e1 e2 gq hrc;have x0:W.cell? ⟨b,o,none⟩=some (.slice A1 m c1):=by rw[<-e1];exact h.cell i0 hb hov
 have x1:W.cell? ⟨b,o+1,none⟩=some (.slice A2 m c2):=by rw[<-e2];exact h.cell i0 hb hoc
 have hbf:=h.frozen i0 hb;have HR:=zh h;have hb1:=zvd;have hb2:=zxe;clear h;go_enter func133,ntmps133;go_upto_region 1 with fail;have hvb:=heap_alloc_new W (.cells #[.string v.s,.int .u8 v.k,.int .i64 v.n] 57);obtain⟨W1,hW1⟩:=zX (W.alloc (.cells #[.string v.s,.int .u8 v.k,.int .i64 v.n] 57));have q1:Below W.heap.size W W1:=hW1▸zkb zr _;have hzW:W1.heap.size=W.heap.size+1:=by rw[<-hW1];simp
 rw[hW1]at hvb ⊢;have HR1:=zh (HR.out.later q1);have dL:=zh q1;have g0:W1.cell? ⟨b,o,none⟩=some (.slice A1 m c1):=zb q1 x0;have g1:W1.cell? ⟨b,o+1,none⟩=some (.slice A2 m c2):=zb q1 x1;have v0:W1.cell? ⟨W.heap.size,0,none⟩=some (.string v.s):=zc hvb rfl;have v1:W1.cell? ⟨W.heap.size,1,none⟩=some (.int .u8 v.k):=zc hvb rfl;have v2:W1.cell? ⟨W.heap.size,2,none⟩=some (.int .i64 v.n):=zc hvb rfl;clear hW1 q1 x0 x1 hbf;have hSS:(fun w':World=>zN3 w' W.heap.size (.string v.s) (.int .u8 v.k) (.int .i64 v.n)) W1.drew/\(fun w':World=>zv w' b o (.slice A1 m c1)) W1.drew:=⟨⟨v0,v1,v2⟩,g0⟩
 refine wp_region_noPanic ?_;refine zkl (fun w':World=>zN3 w' W.heap.size (.string v.s) (.int .u8 v.k) (.int .i64 v.n)) (fun w':World=>zv w' b o (.slice A1 m c1)) 7 (by kernel_rfl) ?_;refine zT 0 hSS ?_;refine zT 1 hSS ?_;refine zT 2 hSS ?_;refine zT 3 hSS ?_;refine zJ 4 hSS ?_;refine zT 5 hSS ?_;refine zo 6 fun K hK=>?_;(try simp only[zA,zB,zC]);go_simp;refine hK.out _ _ ⟨⟨zku v0 _,zku v1 _,zku v2 _⟩,zku g0 _⟩ ?_;clear hK K hSS;(try simp only[zQ]);obtain⟨W2,hW2⟩:=zX ((W1.alloc (.cells #[.string v.s,.int .u8 v.k,.int .i64 v.n] 57)).drew);have q2:Below W1.heap.size W1 W2:=hW2▸(zkb zr _).drew;have hzW2:W2.heap.size=W1.heap.size+1:=by rw[<-hW2];simp
 have aK:=zh (show ∀j u,[Value.string v.s,.int .u8 v.k,.int .i64 v.n][j]?=some u->W2.cell? ((⟨W.heap.size+1,0,none⟩:Addr).add j)=some u from hzW▸hW2▸zlI W1 57 [.string v.s,.int .u8 v.k,.int .i64 v.n]);have HR2:=HR1.out.later q2;have hrv2:W2.ownsRow n0 57 3 (.slice A1 m c1) m xs:=by have:=HR2.row iv;rw[hiv]at this;rw[<-e1];exact this
 have w0:W2.cell? ⟨W.heap.size,0,none⟩=some (.string v.s):=zb q2 v0;have w1:W2.cell? ⟨W.heap.size,1,none⟩=some (.int .u8 v.k):=zb q2 v1;have w2:W2.cell? ⟨W.heap.size,2,none⟩=some (.int .i64 v.n):=zb q2 v2;have hn0:=(HR.out.lt i0 b hb)
 rw[hW2];clear hW2 v0 v1 v2 g0 g1 hvb;refine zp 7 fun K hK=>?_;refine zkT (by rfl) (.tmp 10) (.tmp 12) 22 (by rfl) n0 57 i1 _ 3 32 underlying22 hi1 hz0 hz1 hz2 rfl (by decide) (.slice A1 m c1) m xs (by rfl) hrv2 ⟨W.heap.size+1,0,none⟩ 1 1 [.string v.s,.int .u8 v.k,.int .i64 v.n] (by rfl) rfl aK.out (by intro u hu;simp at hu;rcases hu with rfl|rfl|rfl<;>rfl) (by unfold maxLen;omega) (by omega) (by omega) ?_;intro vv w3 h2 h3 h5;obtain⟨g8,aJ,rfl⟩:=ownsRow_succ h2;have st1:Stp n0 d W2 (updR d iv ⟨.slice (some ⟨g8,0,none⟩) (m+1) aJ,57,3,m+1,xs++[.string v.s,.int .u8 v.k,.int .i64 v.n]⟩) w3:=by
  refine Stp.upd (i:=iv) HR2 ((Chg.row h3).mono fun b' _ hb'=>by rw[e1];exact hb') h2 (fun b' hb'=>?_);rw[e1];rcases h5 with h5|h5
  ·exact .inl (h5▸hb')
  ·exact .inr (by rw[h5]at hb';injection hb' with hb';omega)
 have hd0:updR d iv ⟨.slice (some ⟨g8,0,none⟩) (m+1) aJ,57,3,m+1,xs++[.string v.s,.int .u8 v.k,.int .i64 v.n]⟩ i0=d i0:=zkk h01;have z0:w3.cell? ⟨b,o,none⟩=some (.slice A1 m c1):=by rw[<-e1];exact st1.rws.cell i0 (by rw[hd0];exact hb) (by rw[hd0];exact hov)
 have zf:w3.frozen? ⟨b,o,none⟩=false:=st1.rws.frozen i0 (by rw[hd0];exact hb) o;have hol:o<(d i0).xs.length:=(List.getElem?_eq_some_iff.1 hov).1;have hol1:o+1<(d i0).xs.length:=(List.getElem?_eq_some_iff.1 hoc).1;have st2:=Stp.set (i:=i0) st1.rws (g:=b) (by rw[hd0];exact hb) (o:=o) (by rw[hd0];exact hol) (.slice (some ⟨g8,0,none⟩) (m+1) aJ);rw[hd0]at st2;have yB:∀b',(Value.slice A1 m c1).ownBlock=some b'->b'≠W.heap.size:=fun b' hb' e=>by
  have:=(HR.out.lt iv b' (by rw[e1];exact hb')).2;omega
 have y0:w3.cell? ⟨W.heap.size,0,none⟩=some (.string v.s):=(World.cell?_of_block (a:=⟨W.heap.size,0,none⟩) (h3.block _ (by show W.heap.size<_;omega) (fun e=>yB _ e.symm rfl))).trans w0;have y1:w3.cell? ⟨W.heap.size,1,none⟩=some (.int .u8 v.k):=(World.cell?_of_block (a:=⟨W.heap.size,1,none⟩) (h3.block _ (by show W.heap.size<_;omega) (fun e=>yB _ e.symm rfl))).trans w1;have y2:w3.cell? ⟨W.heap.size,2,none⟩=some (.int .i64 v.n):=(World.cell?_of_block (a:=⟨W.heap.size,2,none⟩) (h3.block _ (by show W.heap.size<_;omega) (fun e=>yB _ e.symm rfl))).trans w2;have HST:=zh ((st1.trans st2).after (zka dL.out q2) HR.out);have HY:=zh (show(fun w':World=>zN3 w' W.heap.size (.string v.s) (.int .u8 v.k) (.int .i64 v.n)) w3 from⟨y0,y1,y2⟩);have hbW:b≠W.heap.size:=by omega
 have xx:=zh (show(fun w':World=>zN3 w' W.heap.size (.string v.s) (.int .u8 v.k) (.int .i64 v.n)) (w3.setCell ⟨b,o,none⟩ (.slice (some ⟨g8,0,none⟩) (m+1) aJ))from by
  have key:∀i u,w3.cell? ⟨W.heap.size,i,none⟩=some u->(w3.setCell ⟨b,o,none⟩ (.slice (some ⟨g8,0,none⟩) (m+1) aJ)).cell? ⟨W.heap.size,i,none⟩=some u:=fun i u hu=>(World.cell?_of_block (a:=⟨W.heap.size,i,none⟩) (Below.heap_setCell _ _ _ _ (Ne.symm hbW))).trans hu;exact⟨key _ _ y0,key _ _ y1,key _ _ y2⟩)
 refine hK.out _ _ HY.out ?_;clear hK K h2 h3 h5 st1 st2 w0 w1 w2 hrv2 HR2 q2 aK dL HR1 y0 y1 y2;(try simp only[zQ]);refine zp 8 fun K hK=>?_;(try simp only[zA,zB,zC]);go_simp;refine hK.out _ _ HY.out ?_;clear hK K;(try simp only[zQ]);refine zp 9 fun K hK=>?_;(try simp only[zA,zB,zC]);go_simp;refine hK.out _ _ HY.out ?_;clear hK K;(try simp only[zQ]);refine zp 10 fun K hK=>?_;(try simp only[zA,zB,zC]);go_simp;refine hK.out _ _ xx.out ?_;clear hK K;(try simp only[zQ]);refine zd ?_;refine NoPanic.normal ?_;clear HY xx z0 zf;obtain⟨W4,tN⟩:=zX (w3.setCell ⟨b,o,none⟩ (.slice (some ⟨g8,0,none⟩) (m+1) aJ));rw[tN]at HST ⊢;obtain⟨d2,hd2⟩:=zX (updR (updR d iv ⟨.slice (some ⟨g8,0,none⟩) (m+1) aJ,57,3,m+1,xs++[.string v.s,.int .u8 v.k,.int .i64 v.n]⟩) i0 { d i0 with xs:=(d i0).xs.set o (.slice (some ⟨g8,0,none⟩) (m+1) aJ) });rw[hd2]at HST
 have sV:d2 ic=d ic:=by rw[<-hd2,zkk (Ne.symm h02),zkk (Ne.symm h12)]
 have pG:d2 i0={ d i0 with xs:=(d i0).xs.set o (.slice (some ⟨g8,0,none⟩) (m+1) aJ) }:=by rw[<-hd2,zkA]
 have g1:W4.cell? ⟨b,o+1,none⟩=some (.slice A2 m c2):=by
  rw[<-e2];exact HST.out.rws.cell i0 (by rw[pG];exact hb) (by rw[pG];show((d i0).xs.set o _)[o+1]?=_;rw[List.getElem?_set_ne (by omega)];exact hoc)
 have HD2:=zh hd2;clear tN hd0 hd2;obtain⟨W5,hW5⟩:=zX (W4.alloc (.cells #[.pointer q] 192));have q5:Below W4.heap.size W4 W5:=hW5▸zkb zr _;have xN:=zh (show ∀j u,[Value.pointer q][j]?=some u->W5.cell? ((⟨W4.heap.size,0,none⟩:Addr).add j)=some u from hW5▸zlI W4 192 [.pointer q]);have kQ:=HST.out.rws.later q5;have hrc5:W5.ownsRow n0 192 1 (.slice A2 m c2) m ys:=by have:=kQ.row ic;rw[sV,hic]at this;rw[<-e2];exact this
 have hs5:=q5.size;have hs4:=HST.out.chg.size;have e2':(d2 ic).v=.slice A2 m c2:=by rw[sV];exact e2
 have HKEY:=zh (show ∀(g9 dD:Nat) (w6:World),w6.ownsRow n0 192 1 (.slice (some ⟨g9,0,none⟩) (m+1) dD) (m+1) (ys++[.pointer q])->W5.grownBy w6 (Value.slice A2 m c2).ownBlock->((Value.slice (some ⟨g9,0,none⟩) (m+1) dD).ownBlock=(Value.slice A2 m c2).ownBlock\/(Value.slice (some ⟨g9,0,none⟩) (m+1) dD).ownBlock=some W5.heap.size) ->
   w6.cell? ⟨b,o+1,none⟩=some (.slice A2 m c2)/\w6.frozen? ⟨b,o+1,none⟩=false/\Stp n0 d W (updR (updR d2 ic ⟨.slice (some ⟨g9,0,none⟩) (m+1) dD,192,1,m+1,ys++[.pointer q]⟩) i0 { d i0 with xs:=((d i0).xs.set o (.slice (some ⟨g8,0,none⟩) (m+1) aJ)).set (o+1) (.slice (some ⟨g9,0,none⟩) (m+1) dD) }) (w6.setCell ⟨b,o+1,none⟩ (.slice (some ⟨g9,0,none⟩) (m+1) dD))from fun g9 dD w6 h2 h3 h5=>by
  have st1:Stp n0 d2 W5 (updR d2 ic ⟨.slice (some ⟨g9,0,none⟩) (m+1) dD,192,1,m+1,ys++[.pointer q]⟩) w6:=by
   refine Stp.upd (i:=ic) kQ ((Chg.row h3).mono fun b' _ hb'=>by rw[e2'];exact hb') h2 (fun b' hb'=>?_);rw[e2'];rcases h5 with h5|h5
   ·exact .inl (h5▸hb')
   ·exact .inr (by rw[h5]at hb';injection hb' with hb';omega)
  have hd0:updR d2 ic ⟨.slice (some ⟨g9,0,none⟩) (m+1) dD,192,1,m+1,ys++[.pointer q]⟩ i0={ d i0 with xs:=(d i0).xs.set o (.slice (some ⟨g8,0,none⟩) (m+1) aJ) }:=(zkk h02).trans pG;have z0:w6.cell? ⟨b,o+1,none⟩=some (.slice A2 m c2):=by
   rw[<-e2];exact st1.rws.cell i0 (by rw[hd0];exact hb) (by rw[hd0];show((d i0).xs.set o _)[o+1]?=_;rw[List.getElem?_set_ne (by omega)];exact hoc)
  have zf:w6.frozen? ⟨b,o+1,none⟩=false:=st1.rws.frozen i0 (by rw[hd0];exact hb) (o+1);have st2:=Stp.set (i:=i0) st1.rws (g:=b) (by rw[hd0];exact hb) (o:=o+1) (by rw[hd0];simpa using hol1) (.slice (some ⟨g9,0,none⟩) (m+1) dD);rw[hd0]at st2;exact⟨z0,zf,HST.out.trans ((st1.trans st2).after q5 HST.out.rws)⟩)
 clear kQ q5 sV pG e2' yB;go_wp2_with (at_builtin;refine wpList_append_own_at (P:=prog) _ rfl (.tmp 20) (.tmp 22) 185 rfl n0 192 i2 _ 1 8 underlying185 hi2 hy0 hy1 hy2 rfl (by decide) (.slice A2 m c2) m ys rfl hrc5 ⟨W4.heap.size,0,none⟩ 1 1 [.pointer q] rfl rfl xN.out (by intro u hu;simp at hu;rw[hu];rfl) (by unfold maxLen;omega) (by omega) (by omega) ?_;intro vc w6 h2 h3 h4 h5;obtain⟨g9,dD,rfl⟩:=ownsRow_succ h2;obtain⟨z0,zf,hfin⟩:=HKEY.out g9 dD w6 h2 h3 h5;have aS:=zh hfin;clear h2 h3 h4 h5 hfin)
 go_end0;refine⟨⟨_,rfl⟩,.slice (some ⟨g8,0,none⟩) (m+1) aJ,.slice (some ⟨g9,0,none⟩) (m+1) dD,?_⟩;have:=aS.out;rw[<-HD2.out]at this;refine this.cast ?_;funext j;by_cases j0:j=i0
 ·subst j0;simp
 ·simp only[updR,j0,if_false]
end
end Go.Proofs.YtembgnhbpmfhpaaGreat
