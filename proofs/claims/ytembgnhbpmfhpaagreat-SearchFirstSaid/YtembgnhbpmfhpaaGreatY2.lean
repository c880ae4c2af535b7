/-
  Texts of the proof, put together without their remarks: Ast2, Ev, Sq, Stk, Ss, Sp.
-/
import Derived.Test.YtembgnhbpmfhpaaGreatY1
import Derived.Deep.DeepCutAuto
import Derived.IntWalk
set_option linter.unusedSimpArgs false
set_option linter.unusedVariables false
set_option maxHeartbeats 8000000
set_option maxRecDepth 100000
namespace Go.Proofs.YtembgnhbpmfhpaaGreat
open Tryz
section
open Go.RowKit
theorem zoB(ts:List T)(Ad:Option Addr)(c:Nat)(w:World)(hrow:zmD w Any Ad ts)(hlk:ts.length<=LK)(f:FuncId)(fn:Func)(hfn:IsFn prog f fn)(p:T->Bool)
  (hc:∀i (hi:i<ts.length) v1 w1,NV w1 Any ts[i] v1->Calls prog f #[v1] w1 fun e w'=>e=.returned (.bool (p ts[i]))/\Below w1.heap.size w1 w') :
  Calls prog 148 #[.slice Ad ts.length c,.func (.func f) #[] #[]] w fun e w'=>e=.returned (.bool (zkA (fun _=>p) 0 ts))/\Below w.heap.size w w':=by
 have aA:=zkI hlk;have HC:=zh hc;have hcall:=zkN hfn;clear hc hfn hlk;go_enter func148,ntmps148;go_wp2
 go_loopw [4,9] (fun r i wr=>∃j:Nat,j<=ts.length/\i=.int .i64 j/\r=.bool false/\Hid (∀q (hq:q<ts.length),q<j->p ts[q]=true)/\Below w.heap.size w wr) (fun _ i _=>ts.length-(intOf i).toNat)
 case atStart=>exact⟨0,Nat.zero_le _,rfl,rfl,fun q hq h=>by omega,zr⟩
 case round =>
  obtain⟨j,hj,rfl,rfl,HP,hb⟩:=hrel;by_cases hlt:j<ts.length
  ·obtain⟨a,t',A',c',rfl,_,Ht,c0,c1,c2,c3,hn⟩:=(hrow.later hb).get hlt;have h0:=HC.out j hlt;rw[Ht.out]at h0;have H0:=zh h0;clear h0 hrow;go_wp2_with fail;refine(H0.out _ _ (hn.later (zr.alloc zl _))).mono ?_;rintro e w1 ⟨rfl,hb1⟩;have hb2:Below w.heap.size w w1:=zAC hb hb1
   cases hp:p t'
   ·go_wp2_with fail;go_ret;have hx:zkA (fun _=>p) 0 ts=false:=by
     have:=zor (m:=ts.length) (p:=fun _=>p) hlt (by rw[Ht.out];exact hp);simpa[zkG]using this
    exact⟨by rw[hx];rfl,hb2⟩
   ·have lM:=zh hp;clear hp;go_wp2_with fail
    go_roundw
    case rel =>
     refine⟨j+1,by omega,by go_num,rfl,?_,hb2⟩;intro q hq hqj;by_cases e:q=j
     ·subst e;rw[Ht.out];exact lM.out
     ·exact HP.out q hq (by omega)
    case measure=>simp[intOf];omega
  ·have hlt':ts.length<=j:=by omega
   go_wp2_with fail;go_ret;have hx:zkA (fun _=>p) 0 ts=true:=by
    rw[zkH];exact fun q hq=>HP.out q hq (by omega)
   exact⟨by rw[hx];rfl,hb⟩
theorem zmj{w:World}{cs:Array Value}{ty:TypeId}{i:Nat}{u:Value}(h:cs[i]?=some u):(w.alloc (.cells cs ty)).cell? ⟨w.heap.size,i,none⟩=some u:=by
 have hh:(w.alloc (.cells cs ty)).heap[w.heap.size]?=some (.cells cs ty (0,0)):=heap_alloc_new w _;simp only[World.cell?,hh];simpa using h
theorem zkZ:IsFn prog 162 f162:=⟨func162,by kernel_rfl,by kernel_rfl⟩
theorem zk0:IsFn prog 161 f161:=⟨func161,by kernel_rfl,by kernel_rfl⟩
theorem zuA:IsFn prog 164 f164:=⟨func164,by kernel_rfl,by kernel_rfl⟩
theorem zwI:IsFn prog 121 f121:=⟨func121,by kernel_rfl,by kernel_rfl⟩
theorem zl8:IsFn prog 109 f109:=⟨func109,by kernel_rfl,by kernel_rfl⟩
theorem zxu(n:Int)(s:ByteArray)(ks:List T)(v:Value)(w:World)(hv:NV w Any (.nd 1 n s ks) v) :
  Calls prog 162 #[v] w fun e w'=>e=.returned (.bool (isE (.nd 1 n s ks)))/\Below w.heap.size w w':=by
 obtain⟨Ad,c,rfl,hf,hlk,hlc,hrow⟩:=hv.open_;simp only[T.k_nd,T.n_nd,T.s_nd,T.ks_nd]at *
 have aA:=zkI hlk;clear hf hv hlk hrow hlc;have HX:=zh (show isE (.nd 1 n s ks)=(decide (0<=n)&&s.toList.isEmpty&&decide (ks.length=0)) by simp[isE]);have hz:((ks.length:Int)==0)=decide (ks.length=0):=by rw[Bool.eq_iff_iff];simp
 generalize ks.length=l at *
 have HZ:=zh hz;clear hz;by_cases hn:0<=n
 all_goals
  by_cases hs:s.toList.isEmpty=true
  all_goals
   go_enter func162,ntmps162;go_wp2
   all_goals (go_ret;exact⟨by rw[HX.out,<-HZ.out];simp[*]<;>omega,zr.alloc zl _⟩)
theorem zxt(n:Int)(s:ByteArray)(ks:List T)(v:Value)(w:World)(hv:NV w Any (.nd 2 n s ks) v) :
  Calls prog 162 #[v] w fun e w'=>e=.returned (.bool (isE (.nd 2 n s ks)))/\Below w.heap.size w w':=by
 obtain⟨Ad,c,rfl,hf,hlk,hlc,hrow⟩:=hv.open_;simp only[T.k_nd,T.n_nd,T.s_nd,T.ks_nd]at *
 have aA:=zkI hlk;clear hf hv hlk hrow hlc;have HX:=zh (show isE (.nd 2 n s ks)=(zkC n s&&decide (ks.length=0)) by simp[isE]);have hz:((ks.length:Int)==0)=decide (ks.length=0):=by rw[Bool.eq_iff_iff];simp
 generalize ks.length=l at *
 have HZ:=zh hz;clear hz;by_cases hnb:zkC n s=true
 ·go_enter func162,ntmps162;go_wp2_with fail;refine(zkw _ _ _ _ _ _ _).mono ?_;rintro e w1 ⟨rfl,hb1⟩;obtain⟨hc1,hf1⟩:=zly hb1;have hbb:Below w.heap.size w w1:=zAB hb1;go_wp2_with fail;go_ret;exact⟨by rw[HX.out,<-HZ.out];simp[*],hbb⟩
 ·have hnb':zkC n s=false:=by simpa using hnb
  clear hnb;go_enter func162,ntmps162;go_wp2_with fail;refine(zkw _ _ _ _ _ _ _).mono ?_;rintro e w1 ⟨rfl,hb1⟩;have hbb:Below w.heap.size w w1:=zAB hb1;go_wp2_with fail;go_ret;exact⟨by rw[HX.out];simp[*],hbb⟩
theorem zxr(n:Int)(s:ByteArray)(ks:List T)(v:Value)(w:World)(hv:NV w Any (.nd 4 n s ks) v) :
  Calls prog 162 #[v] w fun e w'=>e=.returned (.bool (isE (.nd 4 n s ks)))/\Below w.heap.size w w':=by
 obtain⟨Ad,c,rfl,hf,hlk,hlc,hrow⟩:=hv.open_;simp only[T.k_nd,T.n_nd,T.s_nd,T.ks_nd]at *
 have aA:=zkI hlk;clear hf hv hlk hrow hlc;have HX:=zh (show isE (.nd 4 n s ks)=(zkC n s&&decide (ks.length=0)) by simp[isE]);have hz:((ks.length:Int)==0)=decide (ks.length=0):=by rw[Bool.eq_iff_iff];simp
 generalize ks.length=l at *
 have HZ:=zh hz;clear hz;by_cases hnb:zkC n s=true
 ·go_enter func162,ntmps162;go_wp2_with fail;refine(zkw _ _ _ _ _ _ _).mono ?_;rintro e w1 ⟨rfl,hb1⟩;obtain⟨hc1,hf1⟩:=zly hb1;have hbb:Below w.heap.size w w1:=zAB hb1;go_wp2_with fail;go_ret;exact⟨by rw[HX.out,<-HZ.out];simp[*],hbb⟩
 ·have hnb':zkC n s=false:=by simpa using hnb
  clear hnb;go_enter func162,ntmps162;go_wp2_with fail;refine(zkw _ _ _ _ _ _ _).mono ?_;rintro e w1 ⟨rfl,hb1⟩;have hbb:Below w.heap.size w w1:=zAB hb1;go_wp2_with fail;go_ret;exact⟨by rw[HX.out];simp[*],hbb⟩
theorem zxq(n:Int)(s:ByteArray)(ks:List T)(v:Value)(w:World)(hv:NV w Any (.nd 5 n s ks) v) :
  Calls prog 162 #[v] w fun e w'=>e=.returned (.bool (isE (.nd 5 n s ks)))/\Below w.heap.size w w':=by
 obtain⟨Ad,c,rfl,hf,hlk,hlc,hrow⟩:=hv.open_;simp only[T.k_nd,T.n_nd,T.s_nd,T.ks_nd]at *
 have aA:=zkI hlk;clear hf hv hlk hrow hlc;have HX:=zh (show isE (.nd 5 n s ks)=(zkC n s&&decide (ks.length=0)) by simp[isE]);have hz:((ks.length:Int)==0)=decide (ks.length=0):=by rw[Bool.eq_iff_iff];simp
 generalize ks.length=l at *
 have HZ:=zh hz;clear hz;by_cases hnb:zkC n s=true
 ·go_enter func162,ntmps162;go_wp2_with fail;refine(zkw _ _ _ _ _ _ _).mono ?_;rintro e w1 ⟨rfl,hb1⟩;obtain⟨hc1,hf1⟩:=zly hb1;have hbb:Below w.heap.size w w1:=zAB hb1;go_wp2_with fail;go_ret;exact⟨by rw[HX.out,<-HZ.out];simp[*],hbb⟩
 ·have hnb':zkC n s=false:=by simpa using hnb
  clear hnb;go_enter func162,ntmps162;go_wp2_with fail;refine(zkw _ _ _ _ _ _ _).mono ?_;rintro e w1 ⟨rfl,hb1⟩;have hbb:Below w.heap.size w w1:=zAB hb1;go_wp2_with fail;go_ret;exact⟨by rw[HX.out];simp[*],hbb⟩
theorem zxs(n:Int)(s:ByteArray)(ks:List T)(v:Value)(w:World)(hv:NV w Any (.nd 3 n s ks) v)
  (ih:∀i (hi:i<ks.length) v1 w1,NV w1 Any ks[i] v1->Calls prog 162 #[v1] w1 fun e w'=>e=.returned (.bool (isE ks[i]))/\Below w1.heap.size w1 w') :
  Calls prog 162 #[v] w fun e w'=>e=.returned (.bool (isE (.nd 3 n s ks)))/\Below w.heap.size w w':=by
 have HX:=zh (show isE (.nd 3 n s ks)=(zkC n s&&zkG 1 (fun _=>isE) ks) by simp[isE,zkG,znD 0]);have IH:=zh ih;have HV:=zh hv;obtain⟨Ad,c,rfl,hf,hlk,hlc,hrow⟩:=hv.open_;simp only[T.k_nd,T.n_nd,T.s_nd,T.ks_nd]at *
 have aA:=zkI hlk;clear hf hv hlk hrow hlc ih;by_cases hnb:zkC n s=true
 ·go_enter func162,ntmps162;go_wp2_with fail;refine(zkw _ _ _ _ _ _ _).mono ?_;rintro e w1 ⟨rfl,hb1⟩;obtain⟨hc1,hf1⟩:=zly hb1;have hbb:Below w.heap.size w w1:=zAB hb1;go_wp2_with fail;refine(zkM (.nd 3 n s ks) _ _ (HV.out.later (hbb.alloc hbb.size _)) _ 1 (fun _=>162) (fun _=>f162) (fun _=>isE) (by decide) (by simp) (fun i hi=>zmj (by rcases i with _|_|i<;>first|omega|rfl)) (fun _ _=>zkZ) (fun _=>IH.out)).mono ?_;rintro e w2 ⟨rfl,hb2⟩;have hbc:Below w.heap.size w w2:=zAC hbb hb2;go_wp2_with fail;go_ret;exact⟨by rw[HX.out];simp[*],hbc⟩
 ·have hnb':zkC n s=false:=by simpa using hnb
  clear hnb;go_enter func162,ntmps162;go_wp2_with fail;refine(zkw _ _ _ _ _ _ _).mono ?_;rintro e w1 ⟨rfl,hb1⟩;have hbb:Below w.heap.size w w1:=zAB hb1;go_wp2_with fail;go_ret;exact⟨by rw[HX.out];simp[*],hbb⟩
theorem zxp(n:Int)(s:ByteArray)(ks:List T)(v:Value)(w:World)(hv:NV w Any (.nd 6 n s ks) v)
  (ih:∀i (hi:i<ks.length) v1 w1,NV w1 Any ks[i] v1->Calls prog 162 #[v1] w1 fun e w'=>e=.returned (.bool (isE ks[i]))/\Below w1.heap.size w1 w') :
  Calls prog 162 #[v] w fun e w'=>e=.returned (.bool (isE (.nd 6 n s ks)))/\Below w.heap.size w w':=by
 have HX:=zh (show isE (.nd 6 n s ks)=(zkr n s&&zkG 1 (fun _=>isE) ks) by simp[isE,zkG,znD 0]);have IH:=zh ih;have HV:=zh hv;obtain⟨Ad,c,rfl,hf,hlk,hlc,hrow⟩:=hv.open_;simp only[T.k_nd,T.n_nd,T.s_nd,T.ks_nd]at *
 have aA:=zkI hlk;clear hf hv hlk hrow hlc ih;by_cases hnb:zkr n s=true
 ·go_enter func162,ntmps162;go_wp2_with fail;refine(zkn _ _ _ _ _ _ _).mono ?_;rintro e w1 ⟨rfl,hb1⟩;obtain⟨hc1,hf1⟩:=zly hb1;have hbb:Below w.heap.size w w1:=zAB hb1;go_wp2_with fail;refine(zkM (.nd 6 n s ks) _ _ (HV.out.later (hbb.alloc hbb.size _)) _ 1 (fun _=>162) (fun _=>f162) (fun _=>isE) (by decide) (by simp) (fun i hi=>zmj (by rcases i with _|_|i<;>first|omega|rfl)) (fun _ _=>zkZ) (fun _=>IH.out)).mono ?_;rintro e w2 ⟨rfl,hb2⟩;have hbc:Below w.heap.size w w2:=zAC hbb hb2;go_wp2_with fail;go_ret;exact⟨by rw[HX.out];simp[*],hbc⟩
 ·have hnb':zkr n s=false:=by simpa using hnb
  clear hnb;go_enter func162,ntmps162;go_wp2_with fail;refine(zkn _ _ _ _ _ _ _).mono ?_;rintro e w1 ⟨rfl,hb1⟩;have hbb:Below w.heap.size w w1:=zAB hb1;go_wp2_with fail;go_ret;exact⟨by rw[HX.out];simp[*],hbb⟩
theorem zxo(n:Int)(s:ByteArray)(ks:List T)(v:Value)(w:World)(hv:NV w Any (.nd 7 n s ks) v)
  (ih:∀i (hi:i<ks.length) v1 w1,NV w1 Any ks[i] v1->Calls prog 162 #[v1] w1 fun e w'=>e=.returned (.bool (isE ks[i]))/\Below w1.heap.size w1 w') :
  Calls prog 162 #[v] w fun e w'=>e=.returned (.bool (isE (.nd 7 n s ks)))/\Below w.heap.size w w':=by
 have HX:=zh (show isE (.nd 7 n s ks)=(zkr n s&&zkG 1 (fun _=>isE) ks) by simp[isE,zkG,znD 0]);have IH:=zh ih;have HV:=zh hv;obtain⟨Ad,c,rfl,hf,hlk,hlc,hrow⟩:=hv.open_;simp only[T.k_nd,T.n_nd,T.s_nd,T.ks_nd]at *
 have aA:=zkI hlk;clear hf hv hlk hrow hlc ih;by_cases hnb:zkr n s=true
 ·go_enter func162,ntmps162;go_wp2_with fail;refine(zkn _ _ _ _ _ _ _).mono ?_;rintro e w1 ⟨rfl,hb1⟩;obtain⟨hc1,hf1⟩:=zly hb1;have hbb:Below w.heap.size w w1:=zAB hb1;go_wp2_with fail;refine(zkM (.nd 7 n s ks) _ _ (HV.out.later (hbb.alloc hbb.size _)) _ 1 (fun _=>162) (fun _=>f162) (fun _=>isE) (by decide) (by simp) (fun i hi=>zmj (by rcases i with _|_|i<;>first|omega|rfl)) (fun _ _=>zkZ) (fun _=>IH.out)).mono ?_;rintro e w2 ⟨rfl,hb2⟩;have hbc:Below w.heap.size w w2:=zAC hbb hb2;go_wp2_with fail;go_ret;exact⟨by rw[HX.out];simp[*],hbc⟩
 ·have hnb':zkr n s=false:=by simpa using hnb
  clear hnb;go_enter func162,ntmps162;go_wp2_with fail;refine(zkn _ _ _ _ _ _ _).mono ?_;rintro e w1 ⟨rfl,hb1⟩;have hbb:Below w.heap.size w w1:=zAB hb1;go_wp2_with fail;go_ret;exact⟨by rw[HX.out];simp[*],hbb⟩
theorem ztf(k n:Int)(s:ByteArray)(ks:List T)(v:Value)(w:World)(h8:8<=k)(h23:k<=23)(hv:NV w Any (.nd k n s ks) v)
  (ih:∀i (hi:i<ks.length) v1 w1,NV w1 Any ks[i] v1->Calls prog 162 #[v1] w1 fun e w'=>e=.returned (.bool (isE ks[i]))/\Below w1.heap.size w1 w') :
  Calls prog 162 #[v] w fun e w'=>e=.returned (.bool (isE (.nd k n s ks)))/\Below w.heap.size w w':=by
 have HX:=zh (show isE (.nd k n s ks)=(zkr n s&&zkG 2 (fun _=>isE) ks) by rw[isE,if_neg (by omega),if_neg (by omega),if_neg (by omega),if_neg (by omega),if_pos ⟨h8,h23⟩,zkG,znD 0]);have IH:=zh ih;have HV:=zh hv;obtain⟨Ad,c,rfl,hf,hlk,hlc,hrow⟩:=hv.open_;simp only[T.k_nd,T.n_nd,T.s_nd,T.ks_nd]at *
 have aA:=zkI hlk;clear hf hv hlk hrow hlc ih;by_cases hnb:zkr n s=true
 ·go_enter func162,ntmps162;go_wp2_with fail;refine(zkn _ _ _ _ _ _ _).mono ?_;rintro e w1 ⟨rfl,hb1⟩;obtain⟨hc1,hf1⟩:=zly hb1;have hbb:Below w.heap.size w w1:=zAB hb1;go_wp2_with fail;refine(zkM (.nd k n s ks) _ _ (HV.out.later (hbb.alloc hbb.size _)) _ 2 (fun _=>162) (fun _=>f162) (fun _=>isE) (by decide) (by simp) (fun i hi=>zmj (by rcases i with _|_|i<;>first|omega|rfl)) (fun _ _=>zkZ) (fun _=>IH.out)).mono ?_;rintro e w2 ⟨rfl,hb2⟩;have hbc:Below w.heap.size w w2:=zAC hbb hb2;go_wp2_with fail;go_ret;exact⟨by rw[HX.out];simp[*],hbc⟩
 ·have hnb':zkr n s=false:=by simpa using hnb
  clear hnb;go_enter func162,ntmps162;go_wp2_with fail;refine(zkn _ _ _ _ _ _ _).mono ?_;rintro e w1 ⟨rfl,hb1⟩;have hbb:Below w.heap.size w w1:=zAB hb1;go_wp2_with fail;go_ret;exact⟨by rw[HX.out];simp[*],hbb⟩
theorem zte(k n:Int)(s:ByteArray)(ks:List T)(v:Value)(w:World)(n1:(k==1)=false)(n2:(k==2)=false)(n3:(k==3)=false)(n4:(k==4)=false)(n5:(k==5)=false)(n6:(k==6)=false)(n7:(k==7)=false)(h8:k<8\/23<k)(hv:NV w Any (.nd k n s ks) v) :
  Calls prog 162 #[v] w fun e w'=>e=.returned (.bool (isE (.nd k n s ks)))/\Below w.heap.size w w':=by
 obtain⟨Ad,c,rfl,hf,hlk,hlc,hrow⟩:=hv.open_;simp only[T.k_nd,T.n_nd,T.s_nd,T.ks_nd]at *
 have aA:=zkI hlk;have HX:=zh (show isE (.nd k n s ks)=false by
  simp only[beq_eq_false_iff_ne,ne_eq]at n1 n2 n3 n4 n5 n6 n7;rw[isE,if_neg (by omega),if_neg (by omega),if_neg (by omega),if_neg (by omega),if_neg (by omega)])
 clear hf hv hlk hrow hlc;rcases h8 with h8|h8
 all_goals
  go_enter func162,ntmps162;go_wp2;go_ret;exact⟨by rw[HX.out];rfl,zr.alloc zl _⟩
theorem zkJ(t:T):∀(v:Value) (w:World),NV w Any t v ->
  Calls prog 162 #[v] w fun e w'=>e=.returned (.bool (isE t))/\Below w.heap.size w w':=by
 induction t using T.ind with
 | _ k n s ks ih =>
 intro v w hv;have ih':∀i (hi:i<ks.length) v1 w1,NV w1 Any ks[i] v1->Calls prog 162 #[v1] w1 fun e w'=>e=.returned (.bool (isE ks[i]))/\Below w1.heap.size w1 w':=fun i hi=>ih _ (List.getElem_mem hi);by_cases h1:k=1
 ·subst h1;exact zxu n s ks v w hv
 by_cases h2:k=2
 ·subst h2;exact zxt n s ks v w hv
 by_cases h4:k=4
 ·subst h4;exact zxr n s ks v w hv
 by_cases h5:k=5
 ·subst h5;exact zxq n s ks v w hv
 by_cases h3:k=3
 ·subst h3;exact zxs n s ks v w hv ih'
 by_cases h6:k=6
 ·subst h6;exact zxp n s ks v w hv ih'
 by_cases h7:k=7
 ·subst h7;exact zxo n s ks v w hv ih'
 by_cases h8:8<=k/\k<=23
 ·exact ztf k n s ks v w h8.1 h8.2 hv ih'
 ·exact zte k n s ks v w (by simpa using h1) (by simpa using h2) (by simpa using h3) (by simpa using h4) (by simpa using h5) (by simpa using h6) (by simpa using h7) (by omega) hv
theorem zkL(t:T)(v:Value)(w:World)(hv:NV w Any t v) :
  Calls prog 161 #[v] w fun e w'=>e=.returned (.bool (isP t))/\Below w.heap.size w w':=by
 have HV:=zh hv;obtain⟨Ad,c,rfl,hf,hlk,hlc,hrow⟩:=hv.open_;clear hf hlk hrow hv;have HX:=zh (show isP t=((t.k==2||t.k==3)&&isE t)from rfl);generalize t.k=k,t.n=n,t.s=s,t.ks.length=l at *
 by_cases h2:(k==2)=true
 ·go_enter func161,ntmps161;go_wp2_with (go_at_call 162;refine(zkJ t _ _ (HV.out.later (zr.alloc zl _))).mono ?_;rintro e w1 ⟨rfl,hb1⟩)
  go_ret;exact⟨by rw[HX.out];simp[h2],(zr.alloc zl _).trans (hb1.mono (by simp))⟩
 ·have h2':(k==2)=false:=by simpa using h2
  clear h2;by_cases h3:(k==3)=true
  ·go_enter func161,ntmps161;go_wp2_with (go_at_call 162;refine(zkJ t _ _ (HV.out.later (zr.alloc zl _))).mono ?_;rintro e w1 ⟨rfl,hb1⟩)
   go_ret;exact⟨by rw[HX.out];simp[h3],(zr.alloc zl _).trans (hb1.mono (by simp))⟩
  ·have h3':(k==3)=false:=by simpa using h3
   clear h3;go_enter func161,ntmps161;go_wp2_with fail;go_ret;exact⟨by rw[HX.out];simp[h2',h3'],(zr.alloc zl _)⟩
theorem zqz(t:T)(v:Value)(w:World)(hv:NV w Any t v) :
  Calls prog 164 #[v] w fun e w'=>e=.returned (.bool (isV t))/\Below w.heap.size w w':=by
 have HV:=zh hv;obtain⟨Ad,c,rfl,hf,hlk,hlc,hrow⟩:=hv.open_;clear hf hlk hrow hv;have HX:=zh (show isV t=(t.k==2&&isE t)from rfl);generalize t.k=k,t.n=n,t.s=s,t.ks.length=l at *
 by_cases h2:(k==2)=true
 ·go_enter func164,ntmps164;go_wp2_with (go_at_call 162;refine(zkJ t _ _ (HV.out.later (zr.alloc zl _))).mono ?_;rintro e w1 ⟨rfl,hb1⟩)
  go_ret;exact⟨by rw[HX.out];simp[h2],(zr.alloc zl _).trans (hb1.mono (by simp))⟩
 ·have h2':(k==2)=false:=by simpa using h2
  clear h2;go_enter func164,ntmps164;go_wp2_with fail;go_ret;exact⟨by rw[HX.out];simp[h2'],(zr.alloc zl _)⟩
end
section
open Go Go.RowKit
def varE(look:ByteArray->Option (List Int))(k:Int)(s:ByteArray)(i:Int×Int):Int×Int :=
 match look s with
 | none=>(0,6)
 | some l =>
  if k=2 then(if l.length=1 then(l.getD 0 0,0)else(0,7))
  else if k=3 then(if i.2≠0 then(0,i.2)else if 0<=i.1/\i.1<l.length then(l.getD i.1.toNat 0,0)else(0,12))
  else if k=4 then(if l.length=0 then(0,13)else(l.getD (l.length-1) 0,0))
  else(l.length,0)
def evK(look:ByteArray->Option (List Int))(k n:Int)(s:ByteArray)(rs:List (Int×Int)):Int×Int :=
 if k=1 then(n,0)
 else if 2<=k/\k<=5 then varE look k s (rs.getD 0 (0,0))
 else if (rs.getD 0 (0,0)).2≠0 then(0,(rs.getD 0 (0,0)).2)
 else if rs.length=1 then unE k (rs.getD 0 (0,0)).1
 else if (rs.getD 1 (0,0)).2≠0 then(0,(rs.getD 1 (0,0)).2)
 else apE k (rs.getD 0 (0,0)).1 (rs.getD 1 (0,0)).1
mutual
def evE(look:ByteArray->Option (List Int)):T->Int×Int
 | .nd k n s ks=>evK look k n s (evEs look ks)
def evEs(look:ByteArray->Option (List Int)):List T->List (Int×Int)
 | []=>[]
 | t::ts=>evE look t::evEs look ts
end
theorem zn3(look:ByteArray->Option (List Int)):∀ks:List T,evEs look ks=ks.map (evE look)
 | []=>by simp[evEs]
 | t::ts=>by simp[evEs,zn3 look ts]
structure zry(f:FuncId)(fn:Func)(rv:Value)(Rd:World->Prop)(look:ByteArray->Option (List Int)):Prop where
 isFn:IsFn prog f fn
 later:∀W W',Rd W->Below W.heap.size W W'->Rd W'
 fits:∀s l,look s=some l->l.length<=100000
 call:∀(s:ByteArray) (W:World),Rd W->Calls prog f #[rv,.string s] W fun e W'=>Below W.heap.size W W' /\
  ((look s=none/\∃A c,e=.returned (.tuple #[.slice A 0 c,.bool false]))\/∃l A c,look s=some l/\e=.returned (.tuple #[.slice A l.length c,.bool true])/\RowI W' Any A l)
def NumE(r:Int×Int)(w:World)(e:Ending)(w':World):Prop:=e=.returned (.tuple #[.int .i64 r.1,.int .i64 r.2])/\Below w.heap.size w w'
def ValC(f:FuncId)(rv:Value)(Rd:World->Prop)(look:ByteArray->Option (List Int))(t:T):Prop :=
 ∀(v:Value) (W:World),NV W Any t v->Rd W->Calls prog 189 #[v,.func (.func f) #[rv] #[]] W (NumE (evE look t) W)
theorem RowI.nd{w:World}{S:Nat->Prop}{A:Option Addr}{xs:List Int}(h:RowI w S A xs){i:Nat}(hi:i<xs.length):∃a:Addr,A=some a/\w.cell? (a.add i)=some (.int .i64 (xs.getD i 0)) :=
 let ⟨a,h1,_,h3,_⟩:=h i hi;⟨a,h1,by simpa[hi]using h3⟩
theorem znL{f:FuncId}{fn:Func}{rv:Value}{Rd:World->Prop}{look:ByteArray->Option (List Int)}(hL:zry f fn rv Rd look)(k n:Int)(s:ByteArray)(ks:List T)(v:Value)(w:World)(hv:NV w Any (.nd k n s ks) v)(hR:Rd w)
  (hk:2<=k/\k<=5)(h3:k=3->∃t,ks=[t]/\ValC f rv Rd look t) :
  Calls prog 209 #[v,.func (.func f) #[rv] #[]] w (NumE (varE look k s ((ks.map (evE look)).getD 0 (0,0))) w):=by
 obtain⟨A,c,rfl,hf,hlk,hlc,hrow⟩:=hv.open_;simp only[T.k_nd,T.n_nd,T.s_nd,T.ks_nd]at *
 have hcall:=zkN hL.isFn;have HL:=zh hL;have uu:=zh hR;have af:=zh hrow;have H3:=zh h3;obtain⟨L,lG⟩:=zX (ks.length);rw[lG];obtain⟨R,hRR⟩:=zX (varE look k s ((ks.map (evE look)).getD 0 (0,0)));rw[hRR];have HRR:=zh hRR;have bK:=zh lG;clear hv hrow h3 hL hR hRR lG hf hlk hlc;go_enter func209,ntmps209;go_wp2_with fail;refine(HL.out.call s _ (HL.out.later _ _ uu.out (zka zr _))).mono ?_;rintro e w1 ⟨ae,h1⟩;have q1:=zkb (zka zr _) ae;have hN:=zkc (heap_alloc_new w (.cells #[.int .u8 k,.int .i64 n,.string s,.slice A L c] 41)) ae;obtain⟨a0,a1,a2,a3⟩:=box4 hN;have HN:=zh hN;clear ae hN;rcases h1 with⟨hno,A1,c1,rfl⟩|⟨l,A1,c1,hso,rfl,bA⟩
 ·have hRR:R=(0,6):=by rw[<-HRR.out,varE,hno]
  subst hRR;clear a0 a1 a2 a3;go_wp2_with fail;go_ret2;exact⟨rfl,q1⟩
 ·have hlen:=HL.out.fits s l hso;have dC:=zh bA;have mU:=zh hso;clear bA hso;by_cases k2:k=2
  ·subst k2;have hRR:R=if l.length=1 then(l.getD 0 0,0)else(0,7):=by rw[<-HRR.out,varE,mU.out];rfl
   by_cases hl1:l.length=1
   ·rw[if_pos hl1]at hRR;obtain⟨a,rfl,hc⟩:=dC.out.nd (i:=0) (by omega);simp only[Addr.add_zero']at hc;obtain⟨x0,hx0⟩:=zX (l.getD 0 0);rw[hx0]at hc hRR;have HX:=zh hRR;rw[hl1];clear hx0 hl1 dC HRR mU hRR;go_wp2_with fail;go_ret2;exact⟨by rw[HX.out];rfl,q1⟩
   ·rw[if_neg hl1]at hRR;have HX:=zh hRR;have e1:((l.length:Int)==1)=false:=by simp;omega
    have e2:((l.length:Int) != 1)=true:=by simp;omega
    clear hl1 hRR;go_wp2_with fail;go_ret2;exact⟨by rw[HX.out];rfl,q1⟩
  by_cases k4:k=4
  ·subst k4;have hRR:R=if l.length=0 then(0,13)else(l.getD (l.length-1) 0,0):=by rw[<-HRR.out,varE,mU.out];rfl
   by_cases hl1:l.length=0
   ·rw[if_pos hl1]at hRR;have HX:=zh hRR;rw[hl1];clear hl1 dC HRR mU hRR;go_wp2_with fail;go_ret2;exact⟨by rw[HX.out];rfl,q1⟩
   ·rw[if_neg hl1]at hRR;obtain⟨a,rfl,hc⟩:=dC.out.nd (i:=l.length-1) (by omega);obtain⟨x0,hx0⟩:=zX (l.getD (l.length-1) 0);rw[hx0]at hc hRR;have HX:=zh hRR;obtain⟨m,hm⟩:∃m,l.length=m+1:=⟨l.length-1,by omega⟩
    rw[hm]at hc hlen ⊢;simp only[Nat.add_sub_cancel]at hc;clear hx0 hl1 dC HRR mU hm hRR;go_wp2_with fail;go_ret2;exact⟨by rw[HX.out];rfl,q1⟩
  by_cases k5:k=5
  ·subst k5;have hRR:R=((l.length:Int),0):=by rw[<-HRR.out,varE,mU.out];rfl
   have HX:=zh hRR;clear dC HRR mU hRR;go_wp2_with fail;go_ret2;exact⟨by rw[HX.out];rfl,q1⟩
  ·obtain rfl:k=3:=by omega
   obtain⟨t,rfl,hval⟩:=H3.out rfl;obtain⟨a,t0,A2,c2,rfl,_,Ht,⟨y0,y1,y2,y3⟩,hn0⟩:=(af.out.later q1).nd (i:=0) (by simp);simp only[Nat.zero_mul,Addr.add_zero']at y0 y1 y2 y3;have ht0:t0=t:=Ht.out.symm;subst ht0;have hL1:L=1:=bK.out.symm;subst hL1;obtain⟨⟨iv,ie⟩,hiv⟩:=zX (evE look t0);have hRR:R=if ie≠0 then(0,ie)else if 0<=iv/\iv<l.length then(l.getD iv.toNat 0,0)else(0,12):=by rw[<-HRR.out,varE,mU.out];simp[hiv]
   have qZ:=zh (show ∀(v:Value) (W:World),NV W Any t0 v->Rd W->Calls prog 189 #[v,.func (.func f) #[rv] #[]] W (NumE (iv,ie) W)from hiv▸hval);have jD:=zh hn0;have HR2:=zh hRR;clear hval hn0 Ht hiv hRR;go_wp2_with fail;refine(qZ.out _ _ jD.out (HL.out.later _ _ uu.out q1)).mono ?_;rintro e w2 ⟨rfl,au⟩;have q2:=zkb q1 au;have gz:=zh (dC.out.later au);have hRR:=HR2.out;clear au a0 a1 a2 a3 y0 y1 y2 y3 HRR mU dC HR2;by_cases he:ie=0
   ·subst he;rw[if_neg (by simp)]at hRR;by_cases hb:0<=iv/\iv<l.length
    ·rw[if_pos hb]at hRR;obtain⟨j,hj⟩:∃j:Nat,iv=j:=⟨iv.toNat,by omega⟩
     subst hj;have hjl:j<l.length:=by omega
     obtain⟨a',rfl,hc⟩:=gz.out.nd hjl;simp only[Int.toNat_natCast]at hRR;obtain⟨x0,hx0⟩:=zX (l.getD j 0);rw[hx0]at hc hRR;have HX:=zh hRR;clear hx0 gz hRR hb;go_wp2_with fail;go_ret2;exact⟨by rw[HX.out];rfl,q2⟩
    ·rw[if_neg hb]at hRR;have HX:=zh hRR;clear hRR gz;by_cases h0:0<=iv
     ·have h1:(l.length:Int)<=iv:=by omega
      have h2:¬ iv<0:=by omega
      clear hb;go_wp2_with fail;go_ret2;exact⟨by rw[HX.out];rfl,q2⟩
     ·have h1:iv<0:=by omega
      clear hb;go_wp2_with fail;go_ret2;exact⟨by rw[HX.out];rfl,q2⟩
   ·rw[if_pos he]at hRR;have HX:=zh hRR;have e1:(ie==0)=false:=by simpa using he
    have e2:(ie != 0)=true:=by simpa using he
    clear hRR gz he;go_wp2_with fail;go_ret2;exact⟨by rw[HX.out];rfl,q2⟩
theorem zpb{k n:Int}{s:ByteArray}{ks:List T}(h:isE (.nd k n s ks)=true) :
  (k=1/\ks=[])\/((k=2\/k=4\/k=5)/\ks=[])\/(k=3/\∃t,ks=[t]/\isE t=true)\/((k=6\/k=7)/\∃t,ks=[t]/\isE t=true)\/((8<=k/\k<=23)/\∃t u,ks=[t,u]/\isE t=true/\isE u=true):=by
 have l0:decide (ks.length=0)=true->ks=[]:=fun h=>by simpa using h
 have l1:(decide (ks.length=1)&&isEs ks)=true->∃t,ks=[t]/\isE t=true:=fun h=>by
  match ks with
  | [t]=>simp[isEs]at h;exact⟨t,rfl,h⟩
  | []=>simp at h
  | a::b::l=>simp at h
 have l2:(decide (ks.length=2)&&isEs ks)=true->∃t u,ks=[t,u]/\isE t=true/\isE u=true:=fun h=>by
  match ks with
  | [t,u]=>simp[isEs]at h;exact⟨t,u,rfl,h⟩
  | []=>simp at h
  | [a]=>simp at h
  | a::b::c::l=>simp at h
 rw[isE]at h
 split at h
 ·rename_i h1;simp only[Bool.and_eq_true]at h;exact .inl ⟨h1,l0 h.2⟩
 ·split at h
  ·rename_i h1;simp only[Bool.and_eq_true]at h;exact .inr (.inl ⟨h1,l0 h.2⟩)
  ·split at h
   ·rename_i h1;rw[Bool.and_eq_true]at h;exact .inr (.inr (.inl ⟨h1,l1 h.2⟩))
   ·split at h
    ·rename_i h1;rw[Bool.and_eq_true]at h;exact .inr (.inr (.inr (.inl ⟨h1,l1 h.2⟩)))
    ·split at h
     ·rename_i h1;rw[Bool.and_eq_true]at h;exact .inr (.inr (.inr (.inr ⟨h1,l2 h.2⟩)))
     ·cases h
theorem zpn{f:FuncId}{fn:Func}{rv:Value}{Rd:World->Prop}{look:ByteArray->Option (List Int)}(hL:zry f fn rv Rd look)(t:T):isE t=true->ValC f rv Rd look t:=by
 refine T.ind (p:=fun t=>isE t=true->ValC f rv Rd look t) ?_ t;intro k n s ks ih hE v w hv hR;have HV:=zh hv;have HL:=zh hL;have uu:=zh hR;obtain⟨A,c,rfl,hf,hlk,hlc,hrow⟩:=hv.open_;simp only[T.k_nd,T.n_nd,T.s_nd,T.ks_nd]at *
 have af:=zh hrow;obtain⟨R,hRR⟩:=zX (evE look (.nd k n s ks));rw[hRR];rw[evE,zn3]at hRR;rcases zpb hE with⟨rfl,rfl⟩|⟨hk,rfl⟩|⟨rfl,t,rfl,ht⟩|⟨hk,t,rfl,ht⟩|⟨hk,t,u,rfl,ht,hu⟩
 ·have HX:=zh (show R=(n,0) by rw[<-hRR,evK];rfl);clear hv hrow ih hE hR hL hRR hf hlk hlc;go_enter func189,ntmps189;go_wp2_with fail;go_ret2;exact⟨by rw[HX.out];rfl,zka zr _⟩
 ·have HX:=zh (show varE look k s (([].map (evE look)).getD 0 (0,0))=R by rw[<-hRR,evK,if_neg (by omega),if_pos (by omega)]);have HC:=zh (fun w' (h:Below w.heap.size w w')=>znL hL k n s [] _ w' (hv.later h) (hL.later _ _ hR h) (by omega) (fun h=>by omega));clear hv hrow ih hE hR hL hRR hf hlk hlc;rcases hk with rfl|rfl|rfl
  all_goals
   go_enter func189,ntmps189;go_wp2_with fail;refine(HC.out _ (zka zr _)).mono ?_;rintro e w1 ⟨rfl,ae⟩;rw[HX.out];have q1:=zkb (zka zr _) ae;clear ae;go_wp2_with fail;go_ret2;exact⟨rfl,q1⟩
 ·have HX:=zh (show varE look 3 s (([t].map (evE look)).getD 0 (0,0))=R by rw[<-hRR,evK,if_neg (by omega),if_pos (by omega)]);have HC:=zh (fun w' (h:Below w.heap.size w w')=>znL hL 3 n s [t] _ w' (hv.later h) (hL.later _ _ hR h) (by omega) (fun _=>⟨t,rfl,ih t List.mem_cons_self ht⟩));clear hv hrow ih hE hR hL hRR hf hlk hlc;simp only[List.length_cons,List.length_nil,Nat.zero_add]at *
  go_enter func189,ntmps189;go_wp2_with fail;refine(HC.out _ (zka zr _)).mono ?_;rintro e w1 ⟨rfl,ae⟩;rw[HX.out];have q1:=zkb (zka zr _) ae;clear ae;go_wp2_with fail;go_ret2;exact⟨rfl,q1⟩
 ·obtain⟨⟨iv,ie⟩,hiv⟩:=zX (evE look t);obtain⟨⟨uv,ue⟩,hu⟩:=zX (unE k iv);have HX:=zh (show R=if ie≠0 then(0,ie)else(uv,ue) by rw[<-hRR,<-hu,evK,if_neg (by omega),if_neg (by omega)];simp[hiv]);have qZ:=zh (show ∀(v:Value) (W:World),NV W Any t v->Rd W->Calls prog 189 #[v,.func (.func f) #[rv] #[]] W (NumE (iv,ie) W)from hiv▸ih t List.mem_cons_self ht);obtain⟨a,t0,A2,c2,rfl,_,Ht,⟨y0,y1,y2,y3⟩,hn0⟩:=(hrow.later (zka zr (.cells #[.int .u8 k,.int .i64 n,.string s,.slice A [t].length c] 41))).nd (i:=0) (by simp);simp only[Nat.zero_mul,Addr.add_zero',List.length_cons,List.length_nil,Nat.zero_add]at *
  have ht0:t0=t:=Ht.out.symm;subst ht0;have jD:=zh hn0;have hbx:=box4 (heap_alloc_new w (.cells #[.int .u8 k,.int .i64 n,.string s,.slice (some a) 1 c] 41));obtain⟨W0,hW0⟩:=zX (w.alloc (.cells #[.int .u8 k,.int .i64 n,.string s,.slice (some a) 1 c] 41));have q0:Below w.heap.size w W0:=hW0▸zka zr _;rw[hW0]at y0 y1 y2 y3 jD hbx;have qa:=zh (hL.later _ _ hR q0);have Bl:=zh (show ∀w,Calls prog 210 #[.int .u8 k,.int .i64 iv] w fun e w'=>e=.returned (.tuple #[.int .i64 uv,.int .i64 ue])/\w'=w from fun w=>by have:=zvg k iv hk w;rwa[hu]at this);have aX:=zh hbx;obtain⟨x0,x1,x2,x3⟩:=hbx;clear hv hrow ih hE hR hL hRR hf hlk hlc hn0 Ht hiv hu;rcases hk with rfl|rfl
  all_goals
   go_enter func189,ntmps189;go_wp2_with fail;refine(qZ.out _ _ jD.out qa.out).mono ?_;rintro e w1 ⟨rfl,ae⟩;have q1:=zkb q0 ae;have hx0:=zb ae x0;have hx3:=zb ae x3;clear ae y0 y1 y2 y3 x0 x1 x2 x3;have hX:=HX.out;by_cases he:ie=0
   ·subst he;rw[if_neg (by simp)]at hX;have bD:=zh hX;clear hX HX;go_wp2_with fail;refine(Bl.out _).mono ?_;rintro e w2 ⟨rfl,rfl⟩;go_wp2_with fail;go_ret2;exact⟨by rw[bD.out];rfl,q1⟩
   ·rw[if_pos he]at hX;have bD:=zh hX;have e1:(ie==0)=false:=by simpa using he
    have e2:(ie != 0)=true:=by simpa using he
    clear hX HX he;go_wp2_with fail;go_ret2;exact⟨by rw[bD.out];rfl,q1⟩
 ·obtain⟨⟨iv,ie⟩,hiv⟩:=zX (evE look t);obtain⟨⟨jv,je⟩,di⟩:=zX (evE look u);obtain⟨⟨uv,ue⟩,hu'⟩:=zX (apE k iv jv);have HX:=zh (show R=if ie≠0 then(0,ie)else if je≠0 then(0,je)else(uv,ue) by rw[<-hRR,<-hu',evK,if_neg (by omega),if_neg (by omega)];simp[hiv,di]);have qZ:=zh (show ∀(v:Value) (W:World),NV W Any t v->Rd W->Calls prog 189 #[v,.func (.func f) #[rv] #[]] W (NumE (iv,ie) W)from hiv▸ih t (by simp) ht);have HVD:=zh (show ∀(v:Value) (W:World),NV W Any u v->Rd W->Calls prog 189 #[v,.func (.func f) #[rv] #[]] W (NumE (jv,je) W)from di▸ih u (by simp) hu);have Bl:=zh (show ∀w,Calls prog 211 #[.int .u8 k,.int .i64 iv,.int .i64 jv] w fun e w'=>e=.returned (.tuple #[.int .i64 uv,.int .i64 ue])/\w'=w from fun w=>by have:=zvI k iv jv hk w;rwa[hu']at this);have hrow':=hrow.later (zka zr (.cells #[.int .u8 k,.int .i64 n,.string s,.slice A [t,u].length c] 41))
  obtain⟨a,t0,A2,c2,rfl,_,Ht,h4,hn0⟩:=hrow'.nd (i:=0) (by simp);obtain⟨a',t1,A3,c3,ea,_,Hu,h5,hn1⟩:=hrow'.nd (i:=1) (by simp);injection ea with ea;subst ea;have ha:a.add (1*4)=⟨a.block,a.off+4,none⟩:=by unfold Addr.add;split<;>simp_all
  rw[ha]at h5;simp only[Nat.zero_mul,Addr.add_zero',List.length_cons,List.length_nil,Nat.zero_add]at *
  have ht0:t0=t:=Ht.out.symm;have hu0:t1=u:=Hu.out.symm;subst ht0 hu0;have hbx:=box4 (heap_alloc_new w (.cells #[.int .u8 k,.int .i64 n,.string s,.slice (some a) 2 c] 41));obtain⟨W0,hW0⟩:=zX (w.alloc (.cells #[.int .u8 k,.int .i64 n,.string s,.slice (some a) 2 c] 41));have q0:Below w.heap.size w W0:=hW0▸zka zr _;rw[hW0]at h4 h5 hn0 hn1 hbx;have jD:=zh hn0;have nz:=zh hn1;have qa:=zh (hL.later _ _ hR q0);have kW:=zh (show ∀w',Below W0.heap.size W0 w'->(Nd4 w' a t0 A2 c2/\Nd4 w' ⟨a.block,a.off+4,none⟩ t1 A3 c3)/\w'.cell? ⟨w.heap.size,0,none⟩=some (.int .u8 k)/\w'.cell? ⟨w.heap.size,3,none⟩=some (.slice (some a) 2 c)from fun w' h=>⟨⟨znn h h4,znn h h5⟩,zb h hbx.1,zb h hbx.2.2.2⟩);have z1:(k==1)=false:=by simp;omega
  have z2:(k==2)=false:=by simp;omega
  have z3:(k==3)=false:=by simp;omega
  have z4:(k==4)=false:=by simp;omega
  have z5:(k==5)=false:=by simp;omega
  obtain⟨⟨⟨y0,y1,y2,y3⟩,⟨v0,v1,v2,v3⟩⟩,x0,x3⟩:=kW.out _ zr;clear hv hrow hrow' ih hE hR hL hRR hf hlk hlc hn0 hn1 Ht Hu hiv di hu' h4 h5 hbx ha hk;go_enter func189,ntmps189;go_wp2_with fail;refine(qZ.out _ _ jD.out qa.out).mono ?_;rintro e w1 ⟨rfl,ae⟩;have r1:=ae;obtain⟨⟨⟨y0,y1,y2,y3⟩,⟨v0,v1,v2,v3⟩⟩,x0,x3⟩:=kW.out _ r1;have aI:=zh (nz.out.later r1);have HRd2:=zh (HL.out.later _ _ qa.out r1);clear ae;have hX:=HX.out;by_cases he:ie=0
  ·subst he;rw[if_neg (by simp)]at hX;have bD:=zh hX;clear hX HX;go_wp2_with fail;refine(HVD.out _ _ aI.out HRd2.out).mono ?_;rintro e w2 ⟨rfl,au⟩;have r2:=zkb r1 au;obtain⟨⟨⟨y0,y1,y2,y3⟩,⟨v0,v1,v2,v3⟩⟩,x0,x3⟩:=kW.out _ r2;clear au;have hX:=bD.out;by_cases hj:je=0
   ·subst hj;rw[if_neg (by simp)]at hX;have Be:=zh hX;clear hX bD;go_wp2_with fail;refine(Bl.out _).mono ?_;rintro e w3 ⟨rfl,rfl⟩;go_wp2_with fail;go_ret2;exact⟨by rw[Be.out];rfl,zkb q0 r2⟩
   ·rw[if_pos hj]at hX;have Be:=zh hX;have e1:(je==0)=false:=by simpa using hj
    have e2:(je != 0)=true:=by simpa using hj
    clear hX bD hj;go_wp2_with fail;go_ret2;exact⟨by rw[Be.out];rfl,zkb q0 r2⟩
  ·rw[if_pos he]at hX;have bD:=zh hX;have e1:(ie==0)=false:=by simpa using he
   have e2:(ie != 0)=true:=by simpa using he
   clear hX HX he;go_wp2_with fail;go_ret2;exact⟨by rw[bD.out];rfl,zkb q0 r1⟩
theorem zxP(f:FuncId)(rv:Value)(w:World):(binOp BinOp.eql 232 (.func (.func f) #[rv] #[]) .nilFunc).run prog w=.ok (.bool false) w:=by kernel_rfl
def zlP(look:ByteArray->Option (List Int))(t:T):Int×Int:=if isE t=true then evE look t else(0,3)
def indE(look:ByteArray->Option (List Int))(t:T):Int×Int:=if isP t=true then(if t.k=2 then(0,0)else evE look (t.ks.getD 0 (.nd 0 0 ⟨#[]⟩ [])))else(0,3)
theorem zp6{f:FuncId}{fn:Func}{rv:Value}{Rd:World->Prop}{look:ByteArray->Option (List Int)}(hL:zry f fn rv Rd look)(t:T)(v:Value)(w:World)(hv:NV w Any t v)(hR:Rd w) :
  Calls prog 167 #[v,.func (.func f) #[rv] #[]] w (NumE (zlP look t) w):=by
 have HV:=zh hv;have HL:=zh hL;have uu:=zh hR;obtain⟨A,c,rfl,-⟩:=hv.open_;obtain⟨⟨R1,R2⟩,hRR⟩:=zX (zlP look t);rw[hRR];obtain⟨b,hb⟩:=zX (isE t);have BS:=zh (show ∀(v:Value) (w:World),NV w Any t v->Calls prog 162 #[v] w fun e w'=>e=.returned (.bool b)/\Below w.heap.size w w' from fun v w h=>hb▸zkJ t v w h);have kJ:=zh (show b=true->∀(v:Value) (W:World),NV W Any t v->Rd W->Calls prog 189 #[v,.func (.func f) #[rv] #[]] W (NumE (R1,R2) W)from fun h=>by
  have h1:zlP look t=evE look t:=by rw[zlP,if_pos (hb.trans h)]
  rw[<-hRR,h1];exact zpn hL t (hb.trans h))
 have df:=zh (show b=false->R1=0/\R2=3 from fun h=>by
  rw[zlP,hb,h]at hRR;simp at hRR;exact⟨hRR.1.symm,hRR.2.symm⟩)
 clear hv hR hL hRR hb;generalize t.k=k,t.n=n,t.s=s,t.ks.length=m at *
 have hen:=zxP;go_enter func167,ntmps167;go_wp2_with fail;refine(BS.out _ _ (HV.out.later (zka zr _))).mono ?_;rintro e w1 ⟨rfl,ae⟩;have q1:=zkb (zka zr _) ae;obtain⟨a0,a1,a2,a3⟩:=box4 (zkc (heap_alloc_new w (.cells #[.int .u8 k,.int .i64 n,.string s,.slice A m c] 41)) ae);clear ae
 cases b
 ·obtain⟨rfl,rfl⟩:=df.out rfl;go_wp2_with fail;go_ret2;exact⟨rfl,q1⟩
 ·have HVA2:=zh (kJ.out rfl);clear kJ df;go_wp2_with fail;refine(HVA2.out _ _ (HV.out.later q1) (HL.out.later _ _ uu.out q1)).mono ?_;rintro e w2 ⟨rfl,au⟩;have q2:=zkb q1 au;clear au;go_wp2_with fail;go_ret2;exact⟨rfl,q2⟩
theorem znp{f:FuncId}{fn:Func}{rv:Value}{Rd:World->Prop}{look:ByteArray->Option (List Int)}(hL:zry f fn rv Rd look)(t:T)(v:Value)(w:World)(hv:NV w Any t v)(hR:Rd w) :
  Calls prog 165 #[v,.func (.func f) #[rv] #[]] w (NumE (indE look t) w):=by
 have HV:=zh hv;have HL:=zh hL;have uu:=zh hR;obtain⟨A,c,rfl,hf,hlk,hlc,hrow⟩:=hv.open_;obtain⟨⟨R1,R2⟩,hRR⟩:=zX (indE look t);rw[hRR];obtain⟨b,hb⟩:=zX (isP t);have BS:=zh (show ∀(v:Value) (w:World),NV w Any t v->Calls prog 161 #[v] w fun e w'=>e=.returned (.bool b)/\Below w.heap.size w w' from fun v w h=>hb▸zkL t v w h);have af:=zh hrow;have HK:=zh (show ∀k n s m,t.k=k->t.n=n->t.s=s->t.ks.length=m->b=true->(k=2/\R1=0/\R2=0)\/(k=3/\m=1/\∃u,t.ks=[u]/\∀(v:Value) (W:World),NV W Any u v->Rd W->Calls prog 189 #[v,.func (.func f) #[rv] #[]] W (NumE (R1,R2) W))from by
  rintro k n s m rfl rfl rfl rfl h;have hp:=hb.trans h;rw[indE,if_pos hp]at hRR;unfold isP at hp;simp only[Bool.and_eq_true,Bool.or_eq_true,beq_iff_eq]at hp;rcases hp.1 with h2|h3
  ·rw[if_pos h2]at hRR;injection hRR with r1 r2;exact .inl ⟨h2,r1.symm,r2.symm⟩
  ·rw[if_neg (by omega)]at hRR;obtain⟨k,n,s,ks⟩:=t;simp only[T.k_nd,T.ks_nd]at *
   subst h3;rcases zpb hp.2 with h|h|⟨_,u,rfl,hu⟩|h|h
   ·omega
   ·omega
   ·refine .inr ⟨rfl,rfl,u,rfl,?_⟩;simp at hRR;rw[<-hRR];exact zpn hL u hu
   ·omega
   ·omega)
 have df:=zh (show b=false->R1=0/\R2=3 from fun h=>by
  rw[indE,hb,h]at hRR;simp at hRR;exact⟨hRR.1.symm,hRR.2.symm⟩)
 obtain⟨k,hk⟩:=zX (t.k);obtain⟨n,hn⟩:=zX (t.n);obtain⟨s,hs⟩:=zX (t.s);obtain⟨m,hm⟩:=zX (t.ks.length);have HKK:=zh (HK.out k n s m hk hn hs hm);rw[hk,hn,hs,hm]at HV ⊢;clear hv hR hL hRR hb hrow hf hlk hlc HK hk hn hs hm;have hen:=zxP;go_enter func165,ntmps165;go_wp2_with fail;refine(BS.out _ _ (HV.out.later (zka zr _))).mono ?_;rintro e w1 ⟨rfl,ae⟩;have q1:=zkb (zka zr _) ae;obtain⟨a0,a1,a2,a3⟩:=box4 (zkc (heap_alloc_new w (.cells #[.int .u8 k,.int .i64 n,.string s,.slice A m c] 41)) ae);clear ae
 cases b
 ·obtain⟨rfl,rfl⟩:=df.out rfl;clear HKK;go_wp2_with fail;go_ret2;exact⟨rfl,q1⟩
 ·rcases HKK.out rfl with⟨rfl,rfl,rfl⟩|⟨rfl,rfl,u,hu,bN⟩
  ·clear HKK df;go_wp2_with fail;go_ret2;exact⟨rfl,q1⟩
  ·have hrow:=af.out;rw[hu]at hrow;obtain⟨a,t0,A2,c2,rfl,_,Ht,⟨y0,y1,y2,y3⟩,hn0⟩:=(hrow.later q1).nd (i:=0) (by simp);simp only[Nat.zero_mul,Addr.add_zero']at y0 y1 y2 y3;have ht0:t0=u:=Ht.out.symm;subst ht0;have jD:=zh hn0;have qZ:=zh bN;clear HKK df bN hu hrow hn0 Ht;go_wp2_with fail;refine(qZ.out _ _ jD.out (HL.out.later _ _ uu.out q1)).mono ?_;rintro e w2 ⟨rfl,au⟩;have q2:=zkb q1 au;clear au;go_wp2_with fail;go_ret2;exact⟨rfl,q2⟩
theorem zlS{W:World}{n0 b k:Nat}{E:TypeId}{xs:List Value}(h:W.ownsRow n0 E k (boxV b) 1 xs):W.heap[b]?=some (.cells xs.toArray E (0,0)):=by
 rcases h.2 with⟨h1,_⟩|⟨g,cap,cur,hv,_,hg,hn,_,hz,hx⟩
 ·cases h1
 ·injection hv with e1 e2 e3;injection e1 with e1;injection e1 with e1;subst e1 e3;have:cur=xs.toArray:=by
   rw[List.take_of_length_le (by simp;omega)]at hx;rw[<-hx]
  rw[this]at hg;exact hg
theorem zkd{W:World}{n0 sz n:Nat}{E:TypeId}{v:Value}{xs:List Value}(h:W.ownsRow n0 E sz v n xs):∃A c,v=.slice A n c/\n<=c/\c<=maxLen:=by
 rcases h.2 with⟨rfl,rfl⟩|⟨g,cap,cur,rfl,_,_,hn,hm,_⟩
 ·exact⟨none,0,rfl,zl,Nat.zero_le _⟩
 ·exact⟨_,_,rfl,hn,hm⟩
theorem zkV{W:World}{n0 sz n:Nat}{E:TypeId}{v:Value}{xs:List Value}(h:W.ownsRow n0 E sz v n xs)(hn:0<n):∃g c,v=.slice (some ⟨g,0,none⟩) n c/\n<=c/\c<=maxLen/\∀j,j<n*sz->W.cell? ⟨g,j,none⟩=xs[j]?:=by
 rcases h.2 with⟨rfl,rfl⟩|⟨g,cap,cur,rfl,_,_,hc,hm,_⟩
 ·omega
 ·exact⟨g,cap,rfl,hc,hm,fun j hj=>h.cellAt j hj⟩
theorem zzt{W:World}{n0:Nat}{E:TypeId}{v:Value}{vs:List VD}(h:W.ownsRow n0 E 3 v vs.length (zkS vs))(hf:∀v∈vs,FldV v):∃A c,v=.slice A vs.length c/\vs.length<=c/\RowV W Any A vs:=by
 rcases Nat.eq_zero_or_pos vs.length with h0|h0
 ·obtain⟨A,c,rfl,hc,_⟩:=zkd h;exact⟨A,c,rfl,hc,fun i hi=>by omega⟩
 ·obtain⟨g,c,rfl,hc,_,hcell⟩:=zkV h h0;refine⟨_,c,rfl,hc,fun i hi=>⟨_,rfl,trivial,?_,hf _ (List.getElem_mem hi)⟩⟩;have ha:(⟨g,0,none⟩:Addr).add (i*3)=⟨g,i*3,none⟩:=by unfold Addr.add;split<;>simp_all
  obtain⟨h1,h2,h3⟩:=zqA vs i hi;rw[ha];exact⟨(hcell (i*3) (by omega)).trans h1,(hcell (i*3+1) (by omega)).trans h2,(hcell (i*3+2) (by omega)).trans h3⟩
theorem zq8{W:World}{n0:Nat}{E:TypeId}{v:Value}{l:List Int}(h:W.ownsRow n0 E 1 v l.length (zkg l))(hf:∀x∈l,I64 x):∃A c,v=.slice A l.length c/\l.length<=c/\RowI W Any A l:=by
 obtain⟨A,c,e,hc,hr⟩:=zlA (xs:=l) h hf;exact⟨A,c,e,hc,hr.any⟩
def Ph.gF(P:Ph):Nat:=P.vF.ownBlock.getD 0
def curP(P:Ph)(S:ST):Addr:=if S.calls.length=0 then⟨P.sb,0,none⟩else⟨P.gF,(S.calls.length-1)*3,none⟩
def curV(P:Ph)(S:ST):Value:=if S.calls.length=0 then P.vV else P.fV (S.calls.length-1)
def curC(P:Ph)(S:ST):Value:=if S.calls.length=0 then P.vC else P.fC (S.calls.length-1)
theorem zni{S:ST}(h:S.calls.length=0):S.cur=S.base:=by
 have:S.calls=[]:=List.length_eq_zero_iff.1 h;simp[ST.cur,this]
theorem znh{S:ST}(h:0<S.calls.length):S.cur=S.calls[S.calls.length-1]:=by
 unfold ST.cur;rw[List.getLast?_eq_getElem?,List.getElem?_eq_getElem (by omega)];rfl
section
variable {W W':World} {n0:Nat} {P:Ph} {S:ST}
theorem SR.later(h:SR W n0 P S)(hb:Below W.heap.size W W'):SR W' n0 P S:=⟨h.rws.later hb,h.wf⟩
theorem SR.box(h:SR W n0 P S):W.heap[P.sb]?=some (.cells #[P.vV,P.vC,.int .i64 S.base.loc,P.vF,.pointer (some ⟨P.tb,0,none⟩)] 190 (0,0)):=zlS (h.rws.row .sb)
theorem SR.tbox(h:SR W n0 P S):W.heap[P.tb]?=some (.cells #[P.vI,P.vO] 220 (0,0)):=zlS (h.rws.row .tb)
theorem SR.cbox(h:SR W n0 P S){i:Nat}(hi:i<S.nc):W.heap[P.cb i]?=some (.cells #[P.ci i] 194 (0,0)):=by
 have:=h.rws.row (.cb i);simp only[rows,hi,if_true]at this;exact zlS this
theorem SR.items(h:SR W n0 P S){i:Nat}(hi:i<S.nc):∃A c,P.ci i=.slice A (S.cell i).length c/\(S.cell i).length<=c/\RowI W Any A (S.cell i):=by
 have:=h.rws.row (.ci i);simp only[rows,hi,if_true]at this;exact zq8 this (h.wf.cells i hi).2
theorem SR.calls(h:SR W n0 P S):∃A c,P.vF=.slice A S.calls.length c/\S.calls.length<=c/\(0<S.calls.length->A=some ⟨P.gF,0,none⟩/\∀j,j<S.calls.length*3->W.cell? ⟨P.gF,j,none⟩=(zkR P 0 S.calls)[j]?):=by
 have hr:W.ownsRow n0 187 3 P.vF S.calls.length (zkR P 0 S.calls):=h.rws.row .calls;rcases Nat.eq_zero_or_pos S.calls.length with h0|h0
 ·obtain⟨A,c,e,hc,_⟩:=zkd hr;exact⟨A,c,e,hc,fun h=>by omega⟩
 ·obtain⟨g,c,e,hc,_,hcell⟩:=zkV hr h0;have hg:P.gF=g:=by simp[Ph.gF,e,Value.ownBlock]
  exact⟨_,c,e,hc,fun _=>⟨by rw[hg],by rw[hg];exact hcell⟩⟩
theorem SR.curWF(h:SR W n0 P S):∃kd,S.cur.WF kd S.nc:=by
 obtain⟨kd,h1,h2,_⟩:=h.wf.ex;refine⟨kd,?_⟩;rcases Nat.eq_zero_or_pos S.calls.length with h0|h0
 ·rw[zni h0];exact h1
 ·rw[znh h0];exact h2 _ (List.getElem_mem _)
theorem SR.cur3(h:SR W n0 P S):W.cell? (curP P S)=some (curV P S)/\W.cell? ⟨(curP P S).block,(curP P S).off+1,none⟩=some (curC P S)/\W.cell? ⟨(curP P S).block,(curP P S).off+2,none⟩=some (.int .i64 S.cur.loc):=by
 rcases Nat.eq_zero_or_pos S.calls.length with h0|h0
 ·rw[zni h0];simp only[curP,curV,curC,h0,if_true];exact⟨zc h.box rfl,zc h.box rfl,zc h.box rfl⟩
 ·rw[znh h0];have hne:S.calls.length≠0:=by omega
  simp only[curP,curV,curC,hne,if_false];obtain⟨A,c,_,_,h2⟩:=h.calls;obtain⟨_,hcell⟩:=h2 h0;obtain⟨g1,g2,g3⟩:=zoy P S.calls 0 (S.calls.length-1) (by omega);simp only[Nat.zero_add]at g1 g2;exact⟨(hcell _ (by omega)).trans g1,(hcell _ (by omega)).trans g2,(hcell _ (by omega)).trans g3⟩
theorem SR.curVs(h:SR W n0 P S):∃A c,curV P S=.slice A S.cur.vs.length c/\S.cur.vs.length<=c/\RowV W Any A S.cur.vs:=by
 obtain⟨kd,hw⟩:=h.curWF;rcases Nat.eq_zero_or_pos S.calls.length with h0|h0
 ·rw[zni h0]at hw ⊢;simp only[curV,h0,if_true];exact zzt (h.rws.row .bv) hw.fld
 ·rw[znh h0]at hw ⊢;have hne:S.calls.length≠0:=by omega
  simp only[curV,hne,if_false];have:=h.rws.row (.fv (S.calls.length-1));simp only[rows,List.getElem?_eq_getElem (show S.calls.length-1<S.calls.length by omega)]at this;exact zzt this hw.fld
theorem SR.curCs(h:SR W n0 P S):W.ownsRow n0 192 1 (curC P S) S.cur.cs.length (ptrs P.cb S.cur.cs):=by
 rcases Nat.eq_zero_or_pos S.calls.length with h0|h0
 ·rw[zni h0];simp only[curC,h0,if_true];exact h.rws.row .bc
 ·rw[znh h0];have hne:S.calls.length≠0:=by omega
  simp only[curC,hne,if_false];have:=h.rws.row (.fc (S.calls.length-1));simp only[rows,List.getElem?_eq_getElem (show S.calls.length-1<S.calls.length by omega)]at this;exact this
end
def idxZ:Option Nat->Int
 | none => -1
 | some i=>i
theorem zlf{W:World}{n0:Nat}{P:Ph}{S:ST}(h:SR W n0 P S):Calls prog 170 #[.pointer (some ⟨P.sb,0,none⟩)] W fun e w'=>e=.returned (.pointer (some (curP P S)))/\w'=W:=by
 obtain⟨A,c,nS,hc,h2⟩:=h.calls;have hx:W.cell? ⟨P.sb,3,none⟩=some (.slice A S.calls.length c):=by rw[<-nS];exact zc h.box rfl
 have tq:=h.wf.ncalls;obtain⟨cp,hcp⟩:=zX (curP P S);rw[hcp];have qI:=zh hcp;have H2:=zh h2;obtain⟨L,hL⟩:=zX (S.calls.length);rw[hL]at hx tq;have HL:=zh hL;clear h nS hc h2 hcp hL;rcases Nat.eq_zero_or_pos L with h0|h0
 ·subst h0;have HX:=zh (show cp=⟨P.sb,0,none⟩ by rw[<-qI.out,curP,if_pos HL.out]);clear HL qI H2;go_enter func170,ntmps170;go_wp2_with fail;go_ret;exact⟨by rw[HX.out];rfl,rfl⟩
 ·obtain⟨rfl,-⟩:=H2.out (by rw[HL.out];exact h0);obtain⟨m,hm⟩:∃m,L=m+1:=⟨L-1,by omega⟩
  subst hm;have HX:=zh (show cp=⟨P.gF,m*3,none⟩ by rw[<-qI.out,curP,if_neg (by have:=HL.out;omega),HL.out];rfl);clear HL qI H2 h0;go_enter func170,ntmps170;go_wp2_with fail;go_ret;exact⟨by rw[HX.out];simp,rfl⟩
theorem zn0(vs:List VD)(A:Option Addr)(c:Nat)(s:ByteArray)(fp:Addr)(w:World)(hc:w.cell? fp=some (.slice A vs.length c))(hrow:RowV w Any A vs)(hl:vs.length<=4398046511000) :
  Calls prog 202 #[.pointer (some fp),.string s] w fun e w'=>e=.returned (.int .i64 (idxZ (zmm vs s vs.length)))/\Below w.heap.size w w':=by
 obtain⟨R,hR⟩:=zX (zmm vs s vs.length);rw[hR];have HR:=zh hR;have af:=zh hrow;have HC:=zh hc;clear hR hrow;go_enter func202,ntmps202;go_wp2_with fail
 go_loopw [5] (fun i wr=>∃j:Nat,j<=vs.length/\i=.int .i64 ((j:Int)-1)/\wr=w/\Hid (zmm vs s j=R)) (fun i _=>(intOf i+1).toNat)
 case atStart=>exact⟨vs.length,zl,by go_num,rfl,HR⟩
 case round =>
  obtain⟨j,hj,rfl,rfl,HJ⟩:=hrel;by_cases h0:j=0
  ·subst h0;have HX:=zh (show R=none by rw[<-HJ.out];rfl);go_wp2_with fail;go_ret;exact⟨by rw[HX.out];rfl,zr⟩
  ·obtain⟨m,rfl⟩:∃m,j=m+1:=⟨j-1,by omega⟩
   have hm:m<vs.length:=by omega
   obtain⟨a,rfl,-,⟨y0,y1,y2⟩,-⟩:=af.out m hm;have hjm:((m+1:Nat):Int)-1=(m:Int):=by omega
   rw[hjm];obtain⟨vm,zi⟩:=zX (vs[m]);rw[zi]at y0 y1 y2;have HL:=zh (show(if vm.s.toList==s.toList then some m else zmm vs s m)=R by rw[<-HJ.out,zo9 hm,zi]);obtain⟨b,hb⟩:=zX ((vm.s.toList==s.toList));rw[hb]at HL;clear HJ zi hjm
   cases b
   ·go_wp2_with fail
    go_roundw
    case rel=>exact⟨m,by omega,by go_num,trivial,zh (by have:=HL.out;simpa using this)⟩
    case measure=>simp[intOf]
   ·have HX:=zh (show R=some m by rw[<-HL.out];rfl);go_wp2_with fail;go_ret;exact⟨by rw[HX.out];rfl,zr⟩
theorem zo6{W:World}{n0:Nat}{P:Ph}{S:ST}(h:SR W n0 P S)(s:ByteArray):Calls prog 190 #[.pointer (some ⟨P.sb,0,none⟩),.string s] W fun e W'=>Below W.heap.size W W' /\
  ((S.look s=none/\∃A c,e=.returned (.tuple #[.slice A 0 c,.bool false]))\/∃l A c,S.look s=some l/\e=.returned (.tuple #[.slice A l.length c,.bool true])/\RowI W' Any A l):=by
 have HS:=zh h;obtain⟨kd,hw⟩:=h.curWF;obtain⟨A,c,hcv,hc,hrow⟩:=h.curVs;obtain⟨h1,h2,h3⟩:=h.cur3;rw[hcv]at h1;have dh:=zh (zlf h);have aZ:=zh (fun W' (hb:Below W.heap.size W W')=>zn0 S.cur.vs A c s (curP P S) W' (zb hb h1) (hrow.later hb) hw.lim);have Cg:=zh h.curCs;have eD:=zh hw;obtain⟨cp,hcp⟩:=zX (curP P S);rw[hcp]at h1 h2 h3 dh aZ;obtain⟨r,hr⟩:=zX (S.cur.at s);have hr':zmm S.cur.vs s S.cur.vs.length=r:=hr;rw[hr']at aZ;have HRR:=zh hr;have H2:=zh h2;clear h hw hcv hrow h1 h2 h3 hcp hr hr';go_enter func190,ntmps190;go_wp2_with fail;refine dh.out.mono ?_;rintro e w1 ⟨rfl,rfl⟩;go_wp2_with fail;refine(aZ.out _ zr).mono ?_;rintro e w2 ⟨rfl,au⟩;have hy:=zb au H2.out;have HS2:=zh (HS.out.later au);have HB2:=zh au;clear au;rcases r with _|i
 ·have HX:=zh (show S.look s=none by unfold ST.look ST.num;rw[HRR.out];rfl);simp only[idxZ];go_wp2_with fail;go_ret2;exact⟨HB2.out,.inl ⟨HX.out,none,0,rfl⟩⟩
 ·have hil:i<S.cur.vs.length:=FR.at_lt HRR.out;have hic:i<S.cur.cs.length:=by rw[eD.out.len];exact hil
  obtain⟨id,hid⟩:=zX (S.cur.cs[i]);have aL:id<S.nc:=by rw[<-hid];exact eD.out.num _ (List.getElem_mem hic)
  have HX:=zh (show S.look s=some (S.cell id) by unfold ST.look ST.num;rw[HRR.out];simp[hic,hid]);obtain⟨g,c2,hcc,hc2,hm2,hcell⟩:=zkV HS2.out.curCs (by omega);rw[hcc]at hy;have hz:w2.cell? ⟨g,i,none⟩=some (.pointer (some ⟨P.cb id,0,none⟩)):=by rw[hcell i (by omega)];simp[ptrs,hic,hid]
  obtain⟨A3,c3,hci,hc3,bA⟩:=HS2.out.items aL;have hz2:w2.cell? ⟨P.cb id,0,none⟩=some (.slice A3 (S.cell id).length c3):=by rw[<-hci];exact zc (HS2.out.cbox aL) rfl
  have dC:=zh bA;have hi1:(i:Int)<(S.cur.cs.length:Int):=by omega
  have hi2:¬ (i:Int)<0:=by omega
  simp only[idxZ];clear hcell hcc bA hci hid hil;go_wp2_with fail;go_ret2;exact⟨HB2.out,.inr ⟨_,HX.out,A3,⟨c3,rfl⟩,dC.out⟩⟩
theorem zwH:IsFn prog 190 f190:=⟨func190,by kernel_rfl,by kernel_rfl⟩
theorem ST.look_num{S:ST}{s:ByteArray}{l:List Int}(h:S.look s=some l):∃i id,S.cur.at s=some i/\S.cur.cs[i]?=some id/\l=S.cell id:=by
 unfold ST.look ST.num at h;simp only[Option.map_eq_some_iff,Option.bind_eq_some_iff]at h;obtain⟨id,⟨i,h1,h2⟩,rfl⟩:=h;exact⟨i,id,h1,h2,rfl⟩
theorem ST.WF.cur{S:ST}(h:S.WF):∃kd,S.cur.WF kd S.nc:=by
 obtain⟨kd,h1,h2,_⟩:=h.ex;refine⟨kd,?_⟩;rcases Nat.eq_zero_or_pos S.calls.length with h0|h0
 ·rw[zni h0];exact h1
 ·rw[znh h0];exact h2 _ (List.getElem_mem _)
theorem zuc(n0:Nat)(P:Ph)(S:ST)(hw:S.WF):zry 190 f190 (.pointer (some ⟨P.sb,0,none⟩)) (fun W=>SR W n0 P S) S.look where
 isFn:=zwH
 later:=fun _ _ h hb=>h.later hb
 fits:=fun s l hl=>by
  obtain⟨i,id,h1,h2,rfl⟩:=ST.look_num hl;obtain⟨kd,hc⟩:=hw.cur;have:=(hw.cells id (hc.num id (List.mem_of_getElem? h2))).1;omega
 call:=fun s W h=>zo6 h s
theorem zmq{W:World}{n0:Nat}{P:Ph}{S:ST}(h:SR W n0 P S)(s:ByteArray)(id:Nat)(hid:S.num s=some id):Calls prog 193 #[.pointer (some ⟨P.sb,0,none⟩),.string s] W fun e W'=>e=.returned (.pointer (some ⟨P.cb id,0,none⟩))/\Below W.heap.size W W':=by
 have HS:=zh h;obtain⟨kd,hw⟩:=h.curWF;obtain⟨A,c,hcv,hc,hrow⟩:=h.curVs;obtain⟨h1,h2,h3⟩:=h.cur3;rw[hcv]at h1;unfold ST.num at hid;rw[Option.bind_eq_some_iff]at hid;obtain⟨i,hr,hci⟩:=hid;have hr':zmm S.cur.vs s S.cur.vs.length=some i:=hr;have dh:=zh (zlf h);have hfi:=fun W' (hb:Below W.heap.size W W')=>zn0 S.cur.vs A c s (curP P S) W' (zb hb h1) (hrow.later hb) hw.lim;rw[hr']at hfi;simp only[idxZ]at hfi;have aZ:=zh hfi;have hic:i<S.cur.cs.length:=(List.getElem?_eq_some_iff.1 hci).1;have hidd:S.cur.cs[i]=id:=(List.getElem?_eq_some_iff.1 hci).2;obtain⟨cp,hcp⟩:=zX (curP P S);rw[hcp]at h1 h2 h3 dh aZ;have H2:=zh h2;clear hw hcv hrow h1 h2 h3 hcp hr hr' hfi h hci;go_enter func193,ntmps193;go_wp2_with fail;refine dh.out.mono ?_;rintro e w1 ⟨rfl,rfl⟩;have hy0:=H2.out;obtain⟨g,c2,hcc,hc2,hm2,hcell⟩:=zkV HS.out.curCs (by omega);rw[hcc]at hy0
 have hz:w1.cell? ⟨g,i,none⟩=some (.pointer (some ⟨P.cb id,0,none⟩)):=by rw[hcell i (by omega)];simp[ptrs,hic,hidd]
 have az:=zh (show ∀w',Below w1.heap.size w1 w'->w'.cell? ⟨cp.block,cp.off+1,none⟩=some (.slice (some ⟨g,0,none⟩) S.cur.cs.length c2)/\w'.cell? ⟨g,i,none⟩=some (.pointer (some ⟨P.cb id,0,none⟩))from fun w' hb=>⟨zb hb hy0,zb hb hz⟩);have aJ:=zh (az.out _ zr.drew);obtain⟨L,hL⟩:=zX (S.cur.cs.length);have hi1:(i:Int)<(L:Int):=by omega
 have hi0:(0:Int)<=(i:Int):=by omega
 have hi2:i<L:=by omega
 rw[hL]at az aJ;clear hcell hcc hy0 hz hL;go_upto_region 2 with fail
 go_region_held3 (fun w':World=>zv w' cp.block (cp.off+1) (.slice (some ⟨g,0,none⟩) L c2)/\zv w' g i (.pointer (some ⟨P.cb id,0,none⟩)))
  (first|with_reducible exact aB.out|with_reducible exact aJ.out)
  (first
   | (go_at_call 202;refine(aZ.out _ zr.drew).mono ?_;rintro e y1 ⟨rfl,dU⟩;have b1:=zkb (zs w1).drew dU;have aB:=zh (az.out _ b1))
   | fail)
 have HB1:=zh b1;clear b1 dU aB;go_wp2_with fail;go_ret;exact⟨rfl,HB1.out⟩
def zpI(k:Int):Int:=if k=2 then 1 else if k=3 then 2 else if k=4\/k=5\/k=44\/k=45 then 3 else 0
def basB(k:Int):Bool:=decide (40<=k/\k<=49)
def zsX(k:Int):Int:=if k=40 then 41 else if k=41 then 40 else if k=44 then 45 else if k=45 then 44 else if k=46 then 47 else if k=47 then 46 else if k=48 then 49 else if k=49 then 48 else k
theorem zt6(k:Int)(w:World):Calls prog 192 #[.int .u8 k] w fun e w'=>e=.returned (.int .u8 (zpI k))/\w'=w:=by
 by_cases e2:k=2
 ·subst e2;go_enter func192,ntmps192;go_wp2_with fail;go_ret;exact⟨rfl,rfl⟩
 by_cases e3:k=3
 ·subst e3;go_enter func192,ntmps192;go_wp2_with fail;go_ret;exact⟨rfl,rfl⟩
 by_cases e4:k=4
 ·subst e4;go_enter func192,ntmps192;go_wp2_with fail;go_ret;exact⟨rfl,rfl⟩
 by_cases e5:k=5
 ·subst e5;go_enter func192,ntmps192;go_wp2_with fail;go_ret;exact⟨rfl,rfl⟩
 by_cases e44:k=44
 ·subst e44;go_enter func192,ntmps192;go_wp2_with fail;go_ret;exact⟨rfl,rfl⟩
 by_cases e45:k=45
 ·subst e45;go_enter func192,ntmps192;go_wp2_with fail;go_ret;exact⟨rfl,rfl⟩
 have x2:(k==2)=false:=by simpa using e2
 have x3:(k==3)=false:=by simpa using e3
 have x4:(k==4)=false:=by simpa using e4
 have x5:(k==5)=false:=by simpa using e5
 have x44:(k==44)=false:=by simpa using e44
 have x45:(k==45)=false:=by simpa using e45
 obtain⟨R,hR⟩:=zX (zpI k);rw[hR];have HR:=zh (show R=0 by rw[<-hR,zpI];rw[if_neg e2,if_neg e3,if_neg (by omega)]);clear hR e2 e3 e4 e5 e44 e45;go_enter func192,ntmps192;go_wp2_with fail;go_ret;exact⟨by rw[HR.out];rfl,rfl⟩
theorem zu5(k:Int)(w:World):Calls prog 169 #[.int .u8 k] w fun e w'=>e=.returned (.bool (basB k))/\w'=w:=by
 by_cases e40:k=40
 ·subst e40;go_enter func169,ntmps169;go_wp2_with fail;go_ret;exact⟨rfl,rfl⟩
 by_cases e41:k=41
 ·subst e41;go_enter func169,ntmps169;go_wp2_with fail;go_ret;exact⟨rfl,rfl⟩
 by_cases e42:k=42
 ·subst e42;go_enter func169,ntmps169;go_wp2_with fail;go_ret;exact⟨rfl,rfl⟩
 by_cases e43:k=43
 ·subst e43;go_enter func169,ntmps169;go_wp2_with fail;go_ret;exact⟨rfl,rfl⟩
 by_cases e44:k=44
 ·subst e44;go_enter func169,ntmps169;go_wp2_with fail;go_ret;exact⟨rfl,rfl⟩
 by_cases e45:k=45
 ·subst e45;go_enter func169,ntmps169;go_wp2_with fail;go_ret;exact⟨rfl,rfl⟩
 by_cases e46:k=46
 ·subst e46;go_enter func169,ntmps169;go_wp2_with fail;go_ret;exact⟨rfl,rfl⟩
 by_cases e47:k=47
 ·subst e47;go_enter func169,ntmps169;go_wp2_with fail;go_ret;exact⟨rfl,rfl⟩
 by_cases e48:k=48
 ·subst e48;go_enter func169,ntmps169;go_wp2_with fail;go_ret;exact⟨rfl,rfl⟩
 by_cases e49:k=49
 ·subst e49;go_enter func169,ntmps169;go_wp2_with fail;go_ret;exact⟨rfl,rfl⟩
 have x40:(k==40)=false:=by simpa using e40
 have x41:(k==41)=false:=by simpa using e41
 have x42:(k==42)=false:=by simpa using e42
 have x43:(k==43)=false:=by simpa using e43
 have x44:(k==44)=false:=by simpa using e44
 have x45:(k==45)=false:=by simpa using e45
 have x46:(k==46)=false:=by simpa using e46
 have x47:(k==47)=false:=by simpa using e47
 have x48:(k==48)=false:=by simpa using e48
 have x49:(k==49)=false:=by simpa using e49
 obtain⟨R,hR⟩:=zX (basB k);rw[hR];have HR:=zh (show R=false by rw[<-hR,basB];simp;omega);clear hR e40 e41 e42 e43 e44 e45 e46 e47 e48 e49;go_enter func169,ntmps169;go_wp2_with fail;go_ret;exact⟨by rw[HR.out];rfl,rfl⟩
theorem zri(k:Int)(w:World):Calls prog 205 #[.int .u8 k] w fun e w'=>e=.returned (.int .u8 (zsX k))/\w'=w:=by
 by_cases e40:k=40
 ·subst e40;go_enter func205,ntmps205;go_wp2_with fail;go_ret;exact⟨rfl,rfl⟩
 by_cases e41:k=41
 ·subst e41;go_enter func205,ntmps205;go_wp2_with fail;go_ret;exact⟨rfl,rfl⟩
 by_cases e44:k=44
 ·subst e44;go_enter func205,ntmps205;go_wp2_with fail;go_ret;exact⟨rfl,rfl⟩
 by_cases e45:k=45
 ·subst e45;go_enter func205,ntmps205;go_wp2_with fail;go_ret;exact⟨rfl,rfl⟩
 by_cases e46:k=46
 ·subst e46;go_enter func205,ntmps205;go_wp2_with fail;go_ret;exact⟨rfl,rfl⟩
 by_cases e47:k=47
 ·subst e47;go_enter func205,ntmps205;go_wp2_with fail;go_ret;exact⟨rfl,rfl⟩
 by_cases e48:k=48
 ·subst e48;go_enter func205,ntmps205;go_wp2_with fail;go_ret;exact⟨rfl,rfl⟩
 by_cases e49:k=49
 ·subst e49;go_enter func205,ntmps205;go_wp2_with fail;go_ret;exact⟨rfl,rfl⟩
 have x40:(k==40)=false:=by simpa using e40
 have x41:(k==41)=false:=by simpa using e41
 have x44:(k==44)=false:=by simpa using e44
 have x45:(k==45)=false:=by simpa using e45
 have x46:(k==46)=false:=by simpa using e46
 have x47:(k==47)=false:=by simpa using e47
 have x48:(k==48)=false:=by simpa using e48
 have x49:(k==49)=false:=by simpa using e49
 obtain⟨R,hR⟩:=zX (zsX k);rw[hR];have HR:=zh (show R=k by rw[<-hR,zsX];rw[if_neg e40,if_neg e41,if_neg e44,if_neg e45,if_neg e46,if_neg e47,if_neg e48,if_neg e49]);clear hR e40 e41 e44 e45 e46 e47 e48 e49;go_enter func205,ntmps205;go_wp2_with fail;go_ret;exact⟨by rw[HR.out];rfl,rfl⟩
def OwnB{I:Type}(d:I->RowD)(b:Nat):Prop:=∃i,(d i).v.ownBlock=some b
structure Stp{I:Type}(n0:Nat)(d:I->RowD)(W:World)(d':I->RowD)(W':World):Prop where
 rws:Rws W' n0 d'
 chg:Chg (OwnB d) W W'
 own:∀b,OwnB d' b->OwnB d b\/W.heap.size<=b
section
variable {I:Type} {n0:Nat} {d d' d'':I->RowD} {W W' W'':World}
theorem Stp.refl(h:Rws W n0 d):Stp n0 d W d W:=⟨h,Chg.refl _ _,fun _ h=>.inl h⟩
theorem Stp.trans(h:Stp n0 d W d' W')(h':Stp n0 d' W' d'' W''):Stp n0 d W d'' W'' :=
 ⟨h'.rws,h.chg.trans2 h'.chg fun b hb hc=>(h.own b hc).elim id fun h=>by omega,fun b hb=>(h'.own b hb).elim (h.own b) fun h2=>.inr (Nat.le_trans h.chg.size h2)⟩
theorem Stp.cast(h:Stp n0 d W d' W')(e:d'=d''):Stp n0 d W d'' W':=e▸h
theorem Stp.below(h:Stp n0 d W d' W')(hb:Below W'.heap.size W' W''):Stp n0 d W d' W'' :=
 ⟨h.rws.later hb,h.chg.trans (Chg.of_below hb),h.own⟩
theorem Stp.after(h:Stp n0 d W' d' W'')(hb:Below W.heap.size W W')(hd:Rws W n0 d):Stp n0 d W d' W'' :=
 (Stp.below (Stp.refl hd) hb).trans h
variable [DecidableEq I]
theorem Stp.upd{i:I}{r:RowD}(h:Rws W n0 d)(hc:Chg (fun b=>(d i).v.ownBlock=some b) W W')(ho:W'.ownsRow n0 r.E r.sz r.v r.n r.xs)(aj:∀b,r.v.ownBlock=some b->(d i).v.ownBlock=some b\/W.heap.size<=b):Stp n0 d W (updR d i r) W' :=
 ⟨h.upd i hc ho aj,hc.mono fun b _ hb=>⟨i,hb⟩,fun b ⟨j,hj⟩=>by
  by_cases e:j=i
  ·subst e;rw[zkt]at hj;exact(aj b hj).imp (fun h=>⟨j,h⟩) id
  ·rw[zkj e]at hj;exact .inl ⟨j,hj⟩⟩
theorem Stp.set{i:I}(h:Rws W n0 d){g:Nat}(hg:(d i).v.ownBlock=some g){o:Nat}(ho:o<(d i).xs.length)(u:Value):Stp n0 d W (updR d i { d i with xs:=(d i).xs.set o u }) (W.setCell ⟨g,o,none⟩ u) :=
 ⟨h.set i hg ho u,((Chg.refl _ _).setCell (.inl hg) u).mono fun b _ hb=>⟨i,hb⟩,fun b ⟨j,hj⟩=>by
  by_cases e:j=i
  ·subst e;rw[zkt]at hj;exact .inl ⟨j,hj⟩
  ·rw[zkj e]at hj;exact .inl ⟨j,hj⟩⟩
end
theorem zxx:(prog.info? 57).map (fun i=>(i.zero,i.size,i.bytes))=some (some (.agg #[.string ⟨#[]⟩,.int .u8 0,.int .i64 0]),3,32):=by kernel_rfl
theorem zzw:(prog.info? 192).map (fun i=>(i.zero,i.size,i.bytes))=some (some (.pointer none),1,8):=by kernel_rfl
theorem zu1(a0 a1 a2:Value)(w:World):(Instr.buildSlice 22 1 #[(0,.agg #[a0,a1,a2])]).run prog w=.ok (.slice (some ⟨w.heap.size,0,none⟩) 1 1) (w.alloc (.cells #[a0,a1,a2] 57)):=by kernel_rfl
theorem zw2(p:Option Addr)(w:World):(Instr.buildSlice 185 1 #[(0,.pointer p)]).run prog w=.ok (.slice (some ⟨w.heap.size,0,none⟩) 1 1) (w.alloc (.cells #[.pointer p] 192)):=by kernel_rfl
theorem zrv{I:Type}[DecidableEq I]{n0:Nat}{d:I->RowD}{W:World}(h:Rws W n0 d)(i0 iv ic:I)(h01:i0≠iv)(h02:i0≠ic)(h12:iv≠ic)(b o:Nat)(hb:(d i0).v.ownBlock=some b)
  (hov:(d i0).xs[o]?=some (d iv).v)(hoc:(d i0).xs[o+1]?=some (d ic).v)(xs ys:List Value)(m:Nat)(hiv:d iv=⟨(d iv).v,57,3,m,xs⟩)(hic:d ic=⟨(d ic).v,192,1,m,ys⟩)(hm:m<=4398046511000)
  (v:VD)(q:Option Addr) :
  Calls prog 133 #[.pointer (some ⟨b,o,none⟩),.agg #[.string v.s,.int .u8 v.k,.int .i64 v.n],.pointer q] W fun e W'=>(∃u,e=.returned u)/\∃vv vc,
   Stp n0 d W (updR (updR (updR d iv ⟨vv,57,3,m+1,xs++[.string v.s,.int .u8 v.k,.int .i64 v.n]⟩) ic ⟨vc,192,1,m+1,ys++[.pointer q]⟩) i0 { d i0 with xs:=((d i0).xs.set o vv).set (o+1) vc }) W':=by
 obtain⟨i1,hi1,hz0,hz1,hz2⟩:=info_parts zxx;obtain⟨i2,hi2,hy0,hy1,hy2⟩:=info_parts zzw;have fQ:=h.row iv;rw[hiv]at fQ;have hrc:=h.row ic;rw[hic]at hrc;obtain⟨A1,c1,e1,-⟩:=zkd fQ;obtain⟨A2,c2,e2,-⟩:=zkd hrc;dsimp only at e1 e2 fQ hrc;have x0:W.cell? ⟨b,o,none⟩=some (.slice A1 m c1):=by rw[<-e1];exact h.cell i0 hb hov
 have x1:W.cell? ⟨b,o+1,none⟩=some (.slice A2 m c2):=by rw[<-e2];exact h.cell i0 hb hoc
 have hbf:=h.frozen i0 hb;have HR:=zh h;have hb1:=zu1;have hb2:=zw2;clear h;go_enter func133,ntmps133;go_upto_region 1 with fail;have hvb:=heap_alloc_new W (.cells #[.string v.s,.int .u8 v.k,.int .i64 v.n] 57);obtain⟨W1,hW1⟩:=zX (W.alloc (.cells #[.string v.s,.int .u8 v.k,.int .i64 v.n] 57));have q1:Below W.heap.size W W1:=hW1▸zka zr _;have hzW:W1.heap.size=W.heap.size+1:=by rw[<-hW1];simp
 rw[hW1]at hvb ⊢;have HR1:=zh (HR.out.later q1);have dH:=zh q1;have g0:W1.cell? ⟨b,o,none⟩=some (.slice A1 m c1):=zb q1 x0;have g1:W1.cell? ⟨b,o+1,none⟩=some (.slice A2 m c2):=zb q1 x1;have v0:W1.cell? ⟨W.heap.size,0,none⟩=some (.string v.s):=zc hvb rfl;have v1:W1.cell? ⟨W.heap.size,1,none⟩=some (.int .u8 v.k):=zc hvb rfl;have v2:W1.cell? ⟨W.heap.size,2,none⟩=some (.int .i64 v.n):=zc hvb rfl;clear hW1 q1 x0 x1 hbf;have hSS:(fun w':World=>zN3 w' W.heap.size (.string v.s) (.int .u8 v.k) (.int .i64 v.n)) W1.drew/\(fun w':World=>zv w' b o (.slice A1 m c1)) W1.drew:=⟨⟨v0,v1,v2⟩,g0⟩
 refine wp_region_noPanic ?_;refine zkk (fun w':World=>zN3 w' W.heap.size (.string v.s) (.int .u8 v.k) (.int .i64 v.n)) (fun w':World=>zv w' b o (.slice A1 m c1)) 7 (by kernel_rfl) ?_;refine zT 0 hSS ?_;refine zT 1 hSS ?_;refine zT 2 hSS ?_;refine zT 3 hSS ?_;refine zJ 4 hSS ?_;refine zT 5 hSS ?_;refine zo 6 fun K hK=>?_;(try simp only[zA,zB,zC]);go_simp;refine hK.out _ _ ⟨⟨zks v0 _,zks v1 _,zks v2 _⟩,zks g0 _⟩ ?_;clear hK K hSS;(try simp only[zQ]);obtain⟨W2,hW2⟩:=zX ((W1.alloc (.cells #[.string v.s,.int .u8 v.k,.int .i64 v.n] 57)).drew);have q2:Below W1.heap.size W1 W2:=hW2▸(zka zr _).drew;have hzW2:W2.heap.size=W1.heap.size+1:=by rw[<-hW2];simp
 have aI:=zh (show ∀j u,[Value.string v.s,.int .u8 v.k,.int .i64 v.n][j]?=some u->W2.cell? ((⟨W.heap.size+1,0,none⟩:Addr).add j)=some u from hzW▸hW2▸zlD W1 57 [.string v.s,.int .u8 v.k,.int .i64 v.n]);have HR2:=HR1.out.later q2;have hrv2:W2.ownsRow n0 57 3 (.slice A1 m c1) m xs:=by have:=HR2.row iv;rw[hiv]at this;rw[<-e1];exact this
 have w0:W2.cell? ⟨W.heap.size,0,none⟩=some (.string v.s):=zb q2 v0;have w1:W2.cell? ⟨W.heap.size,1,none⟩=some (.int .u8 v.k):=zb q2 v1;have w2:W2.cell? ⟨W.heap.size,2,none⟩=some (.int .i64 v.n):=zb q2 v2;have hn0:=(HR.out.lt i0 b hb)
 rw[hW2];clear hW2 v0 v1 v2 g0 g1 hvb;refine zp 7 fun K hK=>?_;refine zkP (by rfl) (.tmp 10) (.tmp 12) 22 (by rfl) n0 57 i1 _ 3 32 underlying22 hi1 hz0 hz1 hz2 rfl (by decide) (.slice A1 m c1) m xs (by rfl) hrv2 ⟨W.heap.size+1,0,none⟩ 1 1 [.string v.s,.int .u8 v.k,.int .i64 v.n] (by rfl) rfl aI.out (by intro u hu;simp at hu;rcases hu with rfl|rfl|rfl<;>rfl) (by unfold maxLen;omega) (by omega) (by omega) ?_;intro vv w3 h2 h3 h5;obtain⟨g8,aH,rfl⟩:=ownsRow_succ h2;have st1:Stp n0 d W2 (updR d iv ⟨.slice (some ⟨g8,0,none⟩) (m+1) aH,57,3,m+1,xs++[.string v.s,.int .u8 v.k,.int .i64 v.n]⟩) w3:=by
  refine Stp.upd (i:=iv) HR2 ((Chg.row h3).mono fun b' _ hb'=>by rw[e1];exact hb') h2 (fun b' hb'=>?_);rw[e1];rcases h5 with h5|h5
  ·exact .inl (h5▸hb')
  ·exact .inr (by rw[h5]at hb';injection hb' with hb';omega)
 have hd0:updR d iv ⟨.slice (some ⟨g8,0,none⟩) (m+1) aH,57,3,m+1,xs++[.string v.s,.int .u8 v.k,.int .i64 v.n]⟩ i0=d i0:=zkj h01;have z0:w3.cell? ⟨b,o,none⟩=some (.slice A1 m c1):=by rw[<-e1];exact st1.rws.cell i0 (by rw[hd0];exact hb) (by rw[hd0];exact hov)
 have zf:w3.frozen? ⟨b,o,none⟩=false:=st1.rws.frozen i0 (by rw[hd0];exact hb) o;have hol:o<(d i0).xs.length:=(List.getElem?_eq_some_iff.1 hov).1;have hol1:o+1<(d i0).xs.length:=(List.getElem?_eq_some_iff.1 hoc).1;have st2:=Stp.set (i:=i0) st1.rws (g:=b) (by rw[hd0];exact hb) (o:=o) (by rw[hd0];exact hol) (.slice (some ⟨g8,0,none⟩) (m+1) aH);rw[hd0]at st2;have xR:∀b',(Value.slice A1 m c1).ownBlock=some b'->b'≠W.heap.size:=fun b' hb' e=>by
  have:=(HR.out.lt iv b' (by rw[e1];exact hb')).2;omega
 have y0:w3.cell? ⟨W.heap.size,0,none⟩=some (.string v.s):=(World.cell?_of_block (a:=⟨W.heap.size,0,none⟩) (h3.block _ (by show W.heap.size<_;omega) (fun e=>xR _ e.symm rfl))).trans w0;have y1:w3.cell? ⟨W.heap.size,1,none⟩=some (.int .u8 v.k):=(World.cell?_of_block (a:=⟨W.heap.size,1,none⟩) (h3.block _ (by show W.heap.size<_;omega) (fun e=>xR _ e.symm rfl))).trans w1;have y2:w3.cell? ⟨W.heap.size,2,none⟩=some (.int .i64 v.n):=(World.cell?_of_block (a:=⟨W.heap.size,2,none⟩) (h3.block _ (by show W.heap.size<_;omega) (fun e=>xR _ e.symm rfl))).trans w2;have HST:=zh ((st1.trans st2).after (zkb dH.out q2) HR.out);have HY:=zh (show(fun w':World=>zN3 w' W.heap.size (.string v.s) (.int .u8 v.k) (.int .i64 v.n)) w3 from⟨y0,y1,y2⟩);have hbW:b≠W.heap.size:=by omega
 have wS:=zh (show(fun w':World=>zN3 w' W.heap.size (.string v.s) (.int .u8 v.k) (.int .i64 v.n)) (w3.setCell ⟨b,o,none⟩ (.slice (some ⟨g8,0,none⟩) (m+1) aH))from by
  have key:∀i u,w3.cell? ⟨W.heap.size,i,none⟩=some u->(w3.setCell ⟨b,o,none⟩ (.slice (some ⟨g8,0,none⟩) (m+1) aH)).cell? ⟨W.heap.size,i,none⟩=some u:=fun i u hu=>(World.cell?_of_block (a:=⟨W.heap.size,i,none⟩) (Below.heap_setCell _ _ _ _ (Ne.symm hbW))).trans hu;exact⟨key _ _ y0,key _ _ y1,key _ _ y2⟩)
 refine hK.out _ _ HY.out ?_;clear hK K h2 h3 h5 st1 st2 w0 w1 w2 hrv2 HR2 q2 aI dH HR1 y0 y1 y2;(try simp only[zQ]);refine zp 8 fun K hK=>?_;(try simp only[zA,zB,zC]);go_simp;refine hK.out _ _ HY.out ?_;clear hK K;(try simp only[zQ]);refine zp 9 fun K hK=>?_;(try simp only[zA,zB,zC]);go_simp;refine hK.out _ _ HY.out ?_;clear hK K;(try simp only[zQ]);refine zp 10 fun K hK=>?_;(try simp only[zA,zB,zC]);go_simp;refine hK.out _ _ wS.out ?_;clear hK K;(try simp only[zQ]);refine zd ?_;refine NoPanic.normal ?_;clear HY wS z0 zf;obtain⟨W4,tL⟩:=zX (w3.setCell ⟨b,o,none⟩ (.slice (some ⟨g8,0,none⟩) (m+1) aH));rw[tL]at HST ⊢;obtain⟨d2,hd2⟩:=zX (updR (updR d iv ⟨.slice (some ⟨g8,0,none⟩) (m+1) aH,57,3,m+1,xs++[.string v.s,.int .u8 v.k,.int .i64 v.n]⟩) i0 { d i0 with xs:=(d i0).xs.set o (.slice (some ⟨g8,0,none⟩) (m+1) aH) });rw[hd2]at HST
 have sU:d2 ic=d ic:=by rw[<-hd2,zkj (Ne.symm h02),zkj (Ne.symm h12)]
 have pF:d2 i0={ d i0 with xs:=(d i0).xs.set o (.slice (some ⟨g8,0,none⟩) (m+1) aH) }:=by rw[<-hd2,zkt]
 have g1:W4.cell? ⟨b,o+1,none⟩=some (.slice A2 m c2):=by
  rw[<-e2];exact HST.out.rws.cell i0 (by rw[pF];exact hb) (by rw[pF];show((d i0).xs.set o _)[o+1]?=_;rw[List.getElem?_set_ne (by omega)];exact hoc)
 have HD2:=zh hd2;clear tL hd0 hd2;obtain⟨W5,hW5⟩:=zX (W4.alloc (.cells #[.pointer q] 192));have q5:Below W4.heap.size W4 W5:=hW5▸zka zr _;have xn:=zh (show ∀j u,[Value.pointer q][j]?=some u->W5.cell? ((⟨W4.heap.size,0,none⟩:Addr).add j)=some u from hW5▸zlD W4 192 [.pointer q]);have kP:=HST.out.rws.later q5;have hrc5:W5.ownsRow n0 192 1 (.slice A2 m c2) m ys:=by have:=kP.row ic;rw[sU,hic]at this;rw[<-e2];exact this
 have hs5:=q5.size;have hs4:=HST.out.chg.size;have e2':(d2 ic).v=.slice A2 m c2:=by rw[sU];exact e2
 have HKEY:=zh (show ∀(g9 dB:Nat) (w6:World),w6.ownsRow n0 192 1 (.slice (some ⟨g9,0,none⟩) (m+1) dB) (m+1) (ys++[.pointer q])->W5.grownBy w6 (Value.slice A2 m c2).ownBlock->((Value.slice (some ⟨g9,0,none⟩) (m+1) dB).ownBlock=(Value.slice A2 m c2).ownBlock\/(Value.slice (some ⟨g9,0,none⟩) (m+1) dB).ownBlock=some W5.heap.size) ->
   w6.cell? ⟨b,o+1,none⟩=some (.slice A2 m c2)/\w6.frozen? ⟨b,o+1,none⟩=false/\Stp n0 d W (updR (updR d2 ic ⟨.slice (some ⟨g9,0,none⟩) (m+1) dB,192,1,m+1,ys++[.pointer q]⟩) i0 { d i0 with xs:=((d i0).xs.set o (.slice (some ⟨g8,0,none⟩) (m+1) aH)).set (o+1) (.slice (some ⟨g9,0,none⟩) (m+1) dB) }) (w6.setCell ⟨b,o+1,none⟩ (.slice (some ⟨g9,0,none⟩) (m+1) dB))from fun g9 dB w6 h2 h3 h5=>by
  have st1:Stp n0 d2 W5 (updR d2 ic ⟨.slice (some ⟨g9,0,none⟩) (m+1) dB,192,1,m+1,ys++[.pointer q]⟩) w6:=by
   refine Stp.upd (i:=ic) kP ((Chg.row h3).mono fun b' _ hb'=>by rw[e2'];exact hb') h2 (fun b' hb'=>?_);rw[e2'];rcases h5 with h5|h5
   ·exact .inl (h5▸hb')
   ·exact .inr (by rw[h5]at hb';injection hb' with hb';omega)
  have hd0:updR d2 ic ⟨.slice (some ⟨g9,0,none⟩) (m+1) dB,192,1,m+1,ys++[.pointer q]⟩ i0={ d i0 with xs:=(d i0).xs.set o (.slice (some ⟨g8,0,none⟩) (m+1) aH) }:=(zkj h02).trans pF;have z0:w6.cell? ⟨b,o+1,none⟩=some (.slice A2 m c2):=by
   rw[<-e2];exact st1.rws.cell i0 (by rw[hd0];exact hb) (by rw[hd0];show((d i0).xs.set o _)[o+1]?=_;rw[List.getElem?_set_ne (by omega)];exact hoc)
  have zf:w6.frozen? ⟨b,o+1,none⟩=false:=st1.rws.frozen i0 (by rw[hd0];exact hb) (o+1);have st2:=Stp.set (i:=i0) st1.rws (g:=b) (by rw[hd0];exact hb) (o:=o+1) (by rw[hd0];simpa using hol1) (.slice (some ⟨g9,0,none⟩) (m+1) dB);rw[hd0]at st2;exact⟨z0,zf,HST.out.trans ((st1.trans st2).after q5 HST.out.rws)⟩)
 clear kP q5 sU pF e2' xR;go_wp2_with (at_builtin;refine wpList_append_own_at (P:=prog) _ rfl (.tmp 20) (.tmp 22) 185 rfl n0 192 i2 _ 1 8 underlying185 hi2 hy0 hy1 hy2 rfl (by decide) (.slice A2 m c2) m ys rfl hrc5 ⟨W4.heap.size,0,none⟩ 1 1 [.pointer q] rfl rfl xn.out (by intro u hu;simp at hu;rw[hu];rfl) (by unfold maxLen;omega) (by omega) (by omega) ?_;intro vc w6 h2 h3 h4 h5;obtain⟨g9,dB,rfl⟩:=ownsRow_succ h2;obtain⟨z0,zf,hfin⟩:=HKEY.out g9 dB w6 h2 h3 h5;have aS:=zh hfin;clear h2 h3 h4 h5 hfin)
 go_end0;refine⟨⟨_,rfl⟩,.slice (some ⟨g8,0,none⟩) (m+1) aH,.slice (some ⟨g9,0,none⟩) (m+1) dB,?_⟩;have:=aS.out;rw[<-HD2.out]at this;refine this.cast ?_;funext j;by_cases j0:j=i0
 ·subst j0;simp
 ·simp only[updR,j0,if_false]
theorem zyZ(a0 a1:Value)(w:World)(h0:∃A l c,a0=.slice A l c)(h1:∃A l c,a1=.slice A l c):(Instr.build 220 #[(0,a0),(1,a1)]).run prog w=.ok (.agg #[a0,a1]) w:=by
 obtain⟨A,l,c,rfl⟩:=h0;obtain⟨A',l',c',rfl⟩:=h1
 kernel_rfl
theorem zxh(xs ys:List Int)(A B:Option Addr)(c d:Nat)(w:World)(hx:RowI w Any A xs)(hy:RowI w Any B ys)(hl:xs.length<=4096)(hm:ys.length<=4096) :
  Calls prog 132 #[.slice A xs.length c,.slice B ys.length d] w fun e w'=>∃tb vI vO,e=.returned (.tuple #[.pointer (some ⟨tb,0,none⟩),.int .i64 0])/\w.heap.size<=tb/\w'.heap[tb]?=some (.cells #[vI,vO] 220 (0,0)) /\
   w'.ownsRow w.heap.size 3 1 vI xs.length (zkg xs)/\w'.ownsRow w.heap.size 3 1 vO ys.length (zkg ys)/\vI.ownBlock≠some tb/\vO.ownBlock≠some tb/\(∀b,vI.ownBlock=some b->vO.ownBlock≠some b)/\Below w.heap.size w w':=by
 have hxl:¬ (4096:Int)<(xs.length:Int):=by omega
 have hyl:¬ (4096:Int)<(ys.length:Int):=by omega
 have HX:=zh (fun w' (hb:Below w.heap.size w w')=>zkO xs A c Any w' (hx.later hb) (by unfold LI;omega));have HY:=zh (fun w' (hb:Below w.heap.size w w')=>zkO ys B d Any w' (hy.later hb) (by unfold LI;omega));obtain⟨n,hn⟩:=zX (xs.length);obtain⟨m,hm'⟩:=zX (ys.length);rw[hn,hm'];rw[hn]at hxl HX;rw[hm']at hyl HY;have HN:=zh hn;have HM:=zh hm';clear hx hy hn hm' hl hm;go_enter func132,ntmps132;go_wp2_with fail;refine(HX.out _ zr).mono ?_;rintro e w1 ⟨v1,rfl,ho1,hf1,ae⟩;rw[HN.out]at ho1;obtain⟨A1,c1,rfl,-⟩:=zkd ho1;have HO1:=zh ho1;have HB1:=zh ae;clear ho1 ae;go_wp2_with fail;refine(HY.out _ HB1.out).mono ?_;rintro e w2 ⟨v2,rfl,ho2,hf2,au⟩;rw[HM.out]at ho2;obtain⟨A2,c2,rfl,-⟩:=zkd ho2;have BC:=zh ho2;have HB2:=zh au;have hbt:=fun w=>zyZ (.slice A1 n c1) (.slice A2 m c2) w ⟨_,_,_,rfl⟩ ⟨_,_,_,rfl⟩;clear ho2 au;go_wp2_with fail;go_ret2
 have h1:=zko HO1.out HB2.out;have hs1:=HB1.out.size;have hs2:=HB2.out.size;refine⟨w2.heap.size,.slice A1 n c1,.slice A2 m c2,rfl,by omega,heap_alloc_new w2 _,?_,?_,fun e=>?_,fun e=>?_,fun b e1 e2=>?_,zka (zkb HB1.out HB2.out) _⟩
 ·exact h1.alloc _
 ·obtain⟨x1,x2⟩:=BC.out.alloc (.cells #[.slice A1 n c1,.slice A2 m c2] 220);refine⟨x1,?_⟩;rcases x2 with x2|⟨g,cap,cur,y1,y2,y3⟩
  ·exact .inl x2
  ·exact .inr ⟨g,cap,cur,y1,by omega,y3⟩
 ·have:=(h1.lt _ e).2;omega
 ·have:=(BC.out.lt _ e).2;omega
 ·have:=(HO1.out.lt _ e1).2;have:=(BC.out.lt _ e2).1;omega
theorem zze{W:World}{n0:Nat}{P:Ph}{S:ST}(h:SR W n0 P S):Calls prog 138 #[.pointer (some ⟨P.tb,0,none⟩)] W (OwnI W S.tin):=by
 obtain⟨A,c,hv,hc,hr⟩:=zq8 (h.rws.row .tin) h.wf.tin.2;have hv':P.vI=.slice A S.tin.length c:=hv;have x0:W.cell? ⟨P.tb,0,none⟩=some (.slice A S.tin.length c):=by rw[<-hv'];exact zc h.tbox rfl
 have HC:=zh (zkO S.tin A c Any W hr (by have:=h.wf.tin.1;unfold LI;omega));obtain⟨n,hn⟩:=zX (S.tin.length);rw[hn]at x0 HC;clear h hv hv' hr hn hc;go_enter func138,ntmps138;go_wp2_with fail;refine HC.out.mono ?_;rintro e w1 ⟨v1,rfl,h1⟩;have H1:=zh h1;obtain⟨A1,c1,rfl,-⟩:=zkd h1.1;clear h1;go_wp2_with fail;go_ret;exact⟨_,rfl,H1.out⟩
theorem zxg{W:World}{n0:Nat}{P:Ph}{S:ST}(h:SR W n0 P S):Calls prog 139 #[.pointer (some ⟨P.tb,0,none⟩)] W (OwnI W S.tout):=by
 obtain⟨A,c,hv,hc,hr⟩:=zq8 (h.rws.row .tout) h.wf.tout.2;have hv':P.vO=.slice A S.tout.length c:=hv;have x0:W.cell? ⟨P.tb,1,none⟩=some (.slice A S.tout.length c):=by rw[<-hv'];exact zc h.tbox rfl
 have HC:=zh (zkO S.tout A c Any W hr (by have:=h.wf.tout.1;unfold LI;omega));obtain⟨n,hn⟩:=zX (S.tout.length);rw[hn]at x0 HC;clear h hv hv' hr hn hc;go_enter func139,ntmps139;go_wp2_with fail;refine HC.out.mono ?_;rintro e w1 ⟨v1,rfl,h1⟩;have H1:=zh h1;obtain⟨A1,c1,rfl,-⟩:=zkd h1.1;clear h1;go_wp2_with fail;go_ret;exact⟨_,rfl,H1.out⟩
def zKf(W:World)(S:ST)(s:ByteArray)(e:Ending)(W':World):Prop:=∃v l b,e=.returned (.tuple #[v,.bool b])/\S.look s=(if b=true then some l else none)/\(b=false->l=[])/\W'.ownsRow W.heap.size 3 1 v l.length (zkg l)/\(∀x∈l,I64 x)/\Below W.heap.size W W'
theorem zvj{W:World}{n0:Nat}{P:Ph}{S:ST}(h:SR W n0 P S)(s:ByteArray):Calls prog 166 #[.pointer (some ⟨P.sb,0,none⟩),.string s] W (zKf W S s):=by
 have HLK:=zh (zo6 h s);have lQ:=zh ((zuc n0 P S h.wf).fits s);clear h;go_enter func166,ntmps166;go_wp2_with fail;refine HLK.out.mono ?_;rintro e w1 ⟨ae,hr⟩;have HB1:=zh ae;clear ae;rcases hr with⟨hno,A,c,rfl⟩|⟨l,A,c,hso,rfl,bA⟩
 ·have df:=zh hno;have dQ:=zh (zkO [] A c Any w1 (fun i hi=>by simp at hi) (by simp[LI]));clear hno;simp only[List.length_nil]at dQ;go_wp2_with fail;refine dQ.out.mono ?_;rintro e w2 ⟨v2,rfl,ho2,hf2,au⟩;obtain⟨A2,c2,rfl,-⟩:=zkd ho2;have HO:=zh ho2;have HB2:=zh au;clear ho2 au;go_wp2_with fail;go_ret2;refine⟨.slice A2 0 c2,[],false,rfl,df.out,fun _=>rfl,?_,by simp,zkb HB1.out HB2.out⟩;obtain⟨x1,x2⟩:=HO.out;refine⟨x1,?_⟩;rcases x2 with x2|⟨g,cap,cur,y1,y2,y3⟩
  ·exact .inl x2
  ·exact .inr ⟨g,cap,cur,y1,by have:=HB1.out.size;omega,y3⟩
 ·have hll:=lQ.out l hso;have mU:=zh hso;have dQ:=zh (zkO l A c Any w1 bA (by unfold LI;omega));clear hso bA;go_wp2_with fail;refine dQ.out.mono ?_;rintro e w2 ⟨v2,rfl,ho2,hf2,au⟩;obtain⟨A2,c2,rfl,-⟩:=zkd ho2;have HO:=zh ho2;have oH:=zh hf2;have HB2:=zh au;clear ho2 au hf2;go_wp2_with fail;go_ret2;refine⟨.slice A2 l.length c2,l,true,rfl,mU.out,(fun h=>by cases h),?_,oH.out,zkb HB1.out HB2.out⟩;obtain⟨x1,x2⟩:=HO.out;refine⟨x1,?_⟩;rcases x2 with x2|⟨g,cap,cur,y1,y2,y3⟩
  ·exact .inl x2
  ·exact .inr ⟨g,cap,cur,y1,by have:=HB1.out.size;omega,y3⟩
structure SStp(n0:Nat)(P:Ph)(S:ST)(W:World)(P':Ph)(S':ST)(W':World):Prop where
 st:Stp n0 (rows P S) W (rows P' S') W'
 wf:S'.WF
theorem SStp.sr{n0:Nat}{P P':Ph}{S S':ST}{W W':World}(h:SStp n0 P S W P' S' W'):SR W' n0 P' S':=⟨h.st.rws,h.wf⟩
theorem SStp.trans{n0:Nat}{P P' P'':Ph}{S S' S'':ST}{W W' W'':World}(h:SStp n0 P S W P' S' W')(h':SStp n0 P' S' W' P'' S'' W''):SStp n0 P S W P'' S'' W'':=⟨h.st.trans h'.st,h'.wf⟩
theorem SStp.refl{n0:Nat}{P:Ph}{S:ST}{W W':World}(h:SR W n0 P S)(hb:Below W.heap.size W W'):SStp n0 P S W P S W':=⟨(Stp.refl h.rws).below hb,h.wf⟩
theorem zlZ(w:World)(n0:Nat):w.ownsRow n0 nilR.E nilR.sz nilR.v nilR.n nilR.xs:=⟨rfl,.inl ⟨rfl,rfl⟩⟩
theorem Stp.drop{I:Type}[DecidableEq I]{n0:Nat}{d:I->RowD}{W:World}(h:Rws W n0 d)(i:I):Stp n0 d W (updR d i nilR) W :=
 Stp.upd h (Chg.refl _ _) (zlZ W n0) (fun b hb=>by simp[nilR,Value.ownBlock]at hb)
theorem zlv{P P':Ph}(h1:P'.fV=P.fV)(h2:P'.fC=P.fC):∀(fs:List FR) (i:Nat),zkR P' i fs=zkR P i fs
 | [],_=>rfl
 | f::fs,i=>by simp[zkR,h1,h2,zlv h1 h2 fs]
theorem zpg(P:Ph):∀(fs:List FR) (i m:Nat),(zkR P i fs).take (m*3)=zkR P i (fs.take m)
 | [],i,m=>by simp[zkR]
 | f::fs,i,0=>by simp[zkR]
 | f::fs,i,m+1=>by
  rw[show(m+1)*3=m*3+1+1+1 by omega];simp only[zkR,List.take_succ_cons,zpg P fs (i+1) m]
def zl1(S:ST):Int×ST:=if S.calls.length=0\/0<S.cur.loc then(20,S)else(0,{ S with calls:=S.calls.take (S.calls.length-1) })
theorem zxc{S:ST}(h:S.WF):({ S with calls:=S.calls.take (S.calls.length-1) }:ST).WF:=by
 obtain⟨kd,h1,h2,h3⟩:=h.ex;exact⟨⟨kd,h1,fun f hf=>h2 f (List.mem_of_mem_take hf),h3⟩,by have:=h.ncalls;simp;omega,h.cells,h.tin,h.tout⟩
theorem zsV{W:World}{n0:Nat}{P:Ph}{S:ST}(h:SR W n0 P S)(m c:Nat)(hm:S.calls.length=m+1)(hv:P.vF=.slice (some ⟨P.gF,0,none⟩) (m+1) c) :
  SStp n0 P S W { P with vF:=.slice (some ⟨P.gF,0,none⟩) m c } { S with calls:=S.calls.take (S.calls.length-1) } (W.setCell ⟨P.sb,3,none⟩ (.slice (some ⟨P.gF,0,none⟩) m c)):=by
 refine⟨?_,zxc h.wf⟩;have hrow:W.ownsRow n0 187 3 P.vF S.calls.length (zkR P 0 S.calls):=h.rws.row .calls;have hpop:W.ownsRow n0 187 3 (.slice (some ⟨P.gF,0,none⟩) m c) m (zkR P 0 (S.calls.take m)):=by
  rw[hv,hm]at hrow;have e1:zkR P 0 S.calls=zkR P 0 (S.calls.take m)++(zkR P 0 S.calls).drop (m*3):=by rw[<-zpg,List.take_append_drop]
  rw[e1]at hrow;exact ownsRow_pop (by rw[zox];simp[hm]) hrow
 have st1:Stp n0 (rows P S) W (updR (rows P S) .calls ⟨.slice (some ⟨P.gF,0,none⟩) m c,187,3,m,zkR P 0 (S.calls.take m)⟩) W :=
  Stp.upd h.rws (Chg.refl _ _) hpop (fun b hb=>.inl (by show P.vF.ownBlock=some b;rw[hv];exact hb))
 have st2:=Stp.set (i:=Res.sb) st1.rws (g:=P.sb) (by rw[zkj (by simp)];rfl) (o:=3) (by rw[zkj (by simp)];simp[rows]) (.slice (some ⟨P.gF,0,none⟩) m c);have st3:=Stp.drop st2.rws (Res.fv m);have st4:=Stp.drop st3.rws (Res.fc m);refine(((st1.trans st2).trans st3).trans st4).cast ?_;have hm1:S.calls.length-1=m:=by omega
 funext r
 cases r with
 | fv i =>
  by_cases e:i=m
  ·subst e;have h2:(S.calls.take (S.calls.length-1))[i]?=none:=List.getElem?_eq_none (by rw[List.length_take];omega);simp[updR,rows,nilR,h2]
  ·simp only[updR,Res.fv.injEq,e,reduceCtorEq,if_false,rows,hm1];by_cases hi:i<m
   ·simp[hi]
   ·have h1:S.calls[i]?=none:=List.getElem?_eq_none (by omega);have h2:(S.calls.take m)[i]?=none:=List.getElem?_eq_none (by rw[List.length_take];omega);rw[h1,h2]
 | fc i =>
  by_cases e:i=m
  ·subst e;have h2:(S.calls.take (S.calls.length-1))[i]?=none:=List.getElem?_eq_none (by rw[List.length_take];omega);simp[updR,rows,nilR,h2]
  ·simp only[updR,Res.fc.injEq,e,reduceCtorEq,if_false,rows,hm1];by_cases hi:i<m
   ·simp[hi]
   ·have h1:S.calls[i]?=none:=List.getElem?_eq_none (by omega);have h2:(S.calls.take m)[i]?=none:=List.getElem?_eq_none (by rw[List.length_take];omega);rw[h1,h2]
 | calls =>
  simp only[updR,reduceCtorEq,if_false,if_true,rows,hm1];simp only[List.length_take,hm];rw[zlv (P:=P) (P':={ P with vF:=.slice (some ⟨P.gF,0,none⟩) m c }) rfl rfl];simp
 | sb=>simp[updR,rows]
 | tb=>simp[updR,rows]
 | tin=>simp[updR,rows]
 | tout=>simp[updR,rows]
 | bv=>simp[updR,rows]
 | bc=>simp[updR,rows]
 | cb i=>simp[updR,rows]
 | ci i=>simp[updR,rows]
 | x i=>simp[updR,rows]
theorem zvl{W:World}{n0:Nat}{P:Ph}{S:ST}(h:SR W n0 P S):Calls prog 204 #[.pointer (some ⟨P.sb,0,none⟩)] W fun e W'=>e=.returned (.int .i64 (zl1 S).1)/\∃P',SStp n0 P S W P' (zl1 S).2 W'/\P'.sb=P.sb:=by
 obtain⟨A,c,nS,hc,h2⟩:=h.calls;have hx:W.cell? ⟨P.sb,3,none⟩=some (.slice A S.calls.length c):=by rw[<-nS];exact zc h.box rfl
 have hfz:W.frozen? ⟨P.sb,3,none⟩=false:=zf h.box;have tq:=h.wf.ncalls;have HS:=zh h;have dh:=zh (zlf h);obtain⟨h3,h4,h5⟩:=h.cur3;obtain⟨L,hL⟩:=zX (S.calls.length);obtain⟨lc,hlc⟩:=zX (S.cur.loc);obtain⟨cp,hcp⟩:=zX (curP P S);rw[hcp]at h5 dh;rw[hlc]at h5;obtain⟨R,hR⟩:=zX (zl1 S);rw[hR];have HR:=zh (show R=if L=0\/0<lc then(20,S)else(0,{ S with calls:=S.calls.take (S.calls.length-1) }) by rw[<-hR,zl1,hL,hlc]);have mQ:=zh nS;have HL:=zh hL;have H2:=zh h2;rw[hL]at hx tq;rw[hL]at hc;clear h nS h2 h3 h4 hL hlc hcp hR;rcases Nat.eq_zero_or_pos L with h0|h0
 ·subst h0;have HX:=zh (show R=(20,S) by rw[HR.out,if_pos (.inl rfl)]);clear HR;go_enter func204,ntmps204;go_wp2_with fail;go_ret;exact⟨by rw[HX.out];rfl,P,by rw[HX.out];exact SStp.refl HS.out zr,rfl⟩
 ·obtain⟨m,rfl⟩:∃m,L=m+1:=⟨L-1,by omega⟩
  obtain⟨rfl,-⟩:=H2.out (by rw[HL.out];exact h0);by_cases hl:0<lc
  ·have HX:=zh (show R=(20,S) by rw[HR.out,if_pos (.inr hl)]);have hl':(0:Int)<(lc:Int):=by omega
   clear HR;go_enter func204,ntmps204;go_wp2_with fail;refine dh.out.mono ?_;rintro e w1 ⟨rfl,rfl⟩;go_wp2_with fail;go_ret;exact⟨by rw[HX.out];rfl,P,by rw[HX.out];exact SStp.refl HS.out zr,rfl⟩
  ·obtain rfl:lc=0:=by omega
   have HX:=zh (show R=(0,{ S with calls:=S.calls.take (S.calls.length-1) }) by rw[HR.out,if_neg (by omega)]);have iL:=zh (zsV (HS.out.later zr.drew) m c HL.out (by rw[mQ.out,HL.out]));clear HR;go_enter func204,ntmps204;go_wp2_with fail;refine dh.out.mono ?_;rintro e w1 ⟨rfl,rfl⟩;go_upto_region 5 with fail;have hSS:zU w1.drew/\(fun w':World=>zv w' P.sb 3 (.slice (some ⟨P.gF,0,none⟩) (m+1) c)) w1.drew:=⟨trivial,hx⟩
   have hm1:(m:Int)<=(c:Int):=by omega
   have hm0:(0:Int)<=(m:Int):=by omega
   have hw1:IntKind.i64.wrap (m:Int)=(m:Int):=IntWalk.i64_in _ (by omega);refine wp_region_noPanic ?_;refine zkk zU (fun w':World=>zv w' P.sb 3 (.slice (some ⟨P.gF,0,none⟩) (m+1) c)) 14 (by kernel_rfl) ?_;refine zT 0 hSS ?_;refine zT 1 hSS ?_;refine zT 2 hSS ?_;refine zT 3 hSS ?_;refine zJ 4 hSS ?_;refine zT 5 hSS ?_;refine zT 6 hSS ?_;refine zT 7 hSS ?_;refine zJ 8 hSS ?_;refine zT 9 hSS ?_;refine zT 10 hSS ?_;refine zT 11 hSS ?_;refine zT 12 hSS ?_;refine zT 13 hSS ?_;refine zp 14 fun K hK=>?_;(try simp only[zA,zB,zC]);have hx1:w1.drew.cell? ⟨P.sb,3,none⟩=some (.slice (some ⟨P.gF,0,none⟩) (m+1) c):=hx;have hfz1:w1.drew.frozen? ⟨P.sb,3,none⟩=false:=hfz;go_simp;refine hK.out _ _ trivial ?_;clear hK K hSS hx1 hfz1;(try simp only[zQ]);refine zd ?_;refine NoPanic.normal ?_;clear hx hfz;go_wp2_with fail;go_ret
   refine⟨by rw[HX.out];rfl,{ P with vF:=.slice (some ⟨P.gF,0,none⟩) m c },?_,rfl⟩;rw[HX.out];exact⟨iL.out.st.after zr.drew HS.out.rws,iL.out.wf⟩
def ST.setCur(S:ST)(f:FR):ST:=if S.calls.length=0 then { S with base:=f } else { S with calls:=S.calls.set (S.calls.length-1) f }
def hI(S:ST):Res:=if S.calls.length=0 then .sb else .calls
def oI(S:ST):Nat:=if S.calls.length=0 then 0 else(S.calls.length-1)*3
def vI(S:ST):Res:=if S.calls.length=0 then .bv else .fv (S.calls.length-1)
def cI(S:ST):Res:=if S.calls.length=0 then .bc else .fc (S.calls.length-1)
def Ph.setCur(P:Ph)(S:ST)(vv vc:Value):Ph:=if S.calls.length=0 then { P with vV:=vv,vC:=vc } else { P with fV:=fun i=>if i=S.calls.length-1 then vv else P.fV i,fC:=fun i=>if i=S.calls.length-1 then vc else P.fC i }
theorem zqB{P P':Ph}{vv vc:Value}{f:FR}:∀(fs:List FR) (i j:Nat),j<fs.length->(∀q,q≠i+j->P'.fV q=P.fV q/\P'.fC q=P.fC q)->P'.fV (i+j)=vv->P'.fC (i+j)=vc ->
  zkR P' i (fs.set j f)=(((zkR P i fs).set (j*3) vv).set (j*3+1) vc).set (j*3+2) (.int .i64 f.loc)
 | g::fs,i,0,_,h,h1,h2=>by
  have hr:zkR P' (i+1) fs=zkR P (i+1) fs:=by
   have key:∀(l:List FR) (q:Nat),i<q->zkR P' q l=zkR P q l:=by
    intro l
    induction l with
    | nil=>intro q _;rfl
    | cons a l ih=>intro q hq;simp[zkR,(h q (by omega)).1,(h q (by omega)).2,ih (q+1) (by omega)]
   exact key fs (i+1) (by omega)
  simp only[Nat.add_zero]at h1 h2;simp[zkR,h1,h2,hr]
 | g::fs,i,j+1,hj,h,h1,h2=>by
  have ih:=zqB (P:=P) (P':=P') (vv:=vv) (vc:=vc) (f:=f) fs (i+1) j (by simpa using hj) (fun q hq=>h q (by omega)) (by rw[show i+1+j=i+(j+1) by omega];exact h1) (by rw[show i+1+j=i+(j+1) by omega];exact h2);rw[show(j+1)*3=j*3+1+1+1 by omega];simp only[List.set_cons_succ,zkR,(h i (by omega)).1,(h i (by omega)).2,ih]
theorem zmU(P:Ph)(S:ST)(f:FR)(vv vc:Value):rows (P.setCur S vv vc) (S.setCur f) =
  updR (updR (updR (rows P S) (vI S) ⟨vv,57,3,f.vs.length,zkS f.vs⟩) (cI S) ⟨vc,192,1,f.cs.length,ptrs P.cb f.cs⟩) (hI S)
   { rows P S (hI S)with xs:=(((rows P S (hI S)).xs.set (oI S) vv).set (oI S+1) vc).set (oI S+2) (.int .i64 f.loc) }:=by
 by_cases h0:S.calls.length=0
 ·simp only[Ph.setCur,ST.setCur,hI,vI,cI,oI,h0,if_true];have hc:S.calls=[]:=List.length_eq_zero_iff.1 h0;funext r
  cases r<;>simp[updR,rows,hc,zkR]
 ·obtain⟨m,hm⟩:∃m,S.calls.length=m+1:=⟨S.calls.length-1,by omega⟩
  have hm1:S.calls.length-1=m:=by omega
  simp only[Ph.setCur,ST.setCur,hI,vI,cI,oI,h0,if_false,hm1];funext r
  cases r with
  | calls =>
   have hq:∀q,q≠0+m->({ P with fV:=fun i=>if i=m then vv else P.fV i,fC:=fun i=>if i=m then vc else P.fC i }:Ph).fV q=P.fV q/\({ P with fV:=fun i=>if i=m then vv else P.fV i,fC:=fun i=>if i=m then vc else P.fC i }:Ph).fC q=P.fC q:=fun q h=>by
    have h':q≠m:=by omega
    simp[h']
   have:=zqB (P:=P) (P':={ P with fV:=fun i=>if i=m then vv else P.fV i,fC:=fun i=>if i=m then vc else P.fC i }) (vv:=vv) (vc:=vc) (f:=f) S.calls 0 m (by omega) hq (by simp) (by simp);simp only[updR,if_true,rows,List.length_set,this]
  | fv i =>
   by_cases e:i=m
   ·subst e;simp[updR,rows,hm]
   ·have e':m≠i:=Ne.symm e;simp[updR,rows,e,e']
  | fc i =>
   by_cases e:i=m
   ·subst e;simp[updR,rows,hm]
   ·have e':m≠i:=Ne.symm e;simp[updR,rows,e,e']
  | sb=>simp[updR,rows]
  | tb=>simp[updR,rows]
  | tin=>simp[updR,rows]
  | tout=>simp[updR,rows]
  | bv=>simp[updR,rows]
  | bc=>simp[updR,rows]
  | cb i=>simp[updR,rows]
  | ci i=>simp[updR,rows]
  | x i=>simp[updR,rows]
def zun(f:FR):VD:=f.vs.getD (f.vs.length-1) ⟨⟨#[]⟩,0,0⟩
def zwt(f:FR):Nat:=f.cs.getD (f.vs.length-1) 0
def FR.pop(f:FR):FR:=⟨f.vs.take (f.vs.length-1),f.cs.take (f.vs.length-1),f.loc-1⟩
def zk8(S:ST)(name:ByteArray)(x:Int):Int×ST :=
 if S.cur.loc=0\/((zun S.cur).s.toList==name.toList)=false then(6,S)
 else if ((zun S.cur).k=1/\(S.cell (zwt S.cur)).getD 0 0≠x)\/((zun S.cur).k=3/\0<(S.cell (zwt S.cur)).length)then(16,S)
 else(0,S.setCur S.cur.pop)
theorem ST.WF.cur2{S:ST}(h:S.WF):∃kd:Nat->Int×Int,S.cur.WF kd S.nc/\∀i,i<S.nc->((kd i).1=1->(S.cell i).length=1)/\((kd i).1=2->((S.cell i).length:Int)=(kd i).2)/\((kd i).1=1\/(kd i).1=2\/(kd i).1=3):=by
 obtain⟨kd,h1,h2,h3⟩:=h.ex;refine⟨kd,?_,h3⟩;rcases Nat.eq_zero_or_pos S.calls.length with h0|h0
 ·rw[zni h0];exact h1
 ·rw[znh h0];exact h2 _ (List.getElem_mem _)
theorem zum{S:ST}(h:S.WF){m:Nat}(hm:m<S.cur.vs.length)(hc:m<S.cur.cs.length)(hk:S.cur.vs[m].k=1):(S.cell S.cur.cs[m]).length=1:=by
 obtain⟨kd,h1,h2⟩:=h.cur2;refine(h2 _ (h1.num _ (List.getElem_mem hc))).1 ?_;rw[h1.kind m hm hc];exact hk
theorem zlx{W:World}{n0:Nat}{P:Ph}{S:ST}(h:SR W n0 P S):curP P S=⟨(curP P S).block,oI S,none⟩/\(rows P S (hI S)).v.ownBlock=some (curP P S).block/\oI S+2<(rows P S (hI S)).xs.length:=by
 by_cases h0:S.calls.length=0
 ·simp[curP,oI,hI,h0,rows,Value.ownBlock]
 ·obtain⟨A,c,hv,_,h2⟩:=h.calls;obtain⟨rfl,-⟩:=h2 (by omega);simp only[curP,oI,hI,h0,if_false,rows];refine⟨by first|rfl|trivial,by rw[hv];rfl,?_⟩;rw[zox];omega
theorem ztT(cb:Nat->Nat)(cs:List Nat)(m:Nat):ptrs cb (cs.take m)=(ptrs cb cs).take m:=by simp[ptrs]
theorem zpe:∀(vs:List VD) (m:Nat),zkS (vs.take m)=(zkS vs).take (m*3)
 | [],m=>by simp[zkS]
 | v::vs,0=>by simp[zkS]
 | v::vs,m+1=>by
  have:=zpe vs m;rw[show(m+1)*3=m*3+1+1+1 by omega];simp only[zkS,List.take_succ_cons,List.flatMap_cons,List.cons_append,List.nil_append]at *
  rw[this]
theorem zq6(P:Ph)(S:ST):rows P S (vI S)=⟨curV P S,57,3,S.cur.vs.length,zkS S.cur.vs⟩/\rows P S (cI S)=⟨curC P S,192,1,S.cur.cs.length,ptrs P.cb S.cur.cs⟩:=by
 by_cases h0:S.calls.length=0
 ·simp[vI,cI,curV,curC,h0,rows,zni h0]
 ·have hl:S.calls.length-1<S.calls.length:=by omega
  simp[vI,cI,curV,curC,h0,rows,znh (show 0<S.calls.length by omega),List.getElem?_eq_getElem hl]
theorem zyC(S:ST):hI S≠vI S/\hI S≠cI S/\vI S≠cI S:=by
 unfold hI vI cI
 split<;>simp
theorem zwX{W:World}{n0:Nat}{P:Ph}{S:ST}(h:SR W n0 P S)(f:FR)(hwf:(S.setCur f).WF)(W2:World)(vv vc:Value)
  (hst:Stp n0 (rows P S) W (updR (updR (rows P S) (vI S) ⟨vv,57,3,f.vs.length,zkS f.vs⟩) (cI S) ⟨vc,192,1,f.cs.length,ptrs P.cb f.cs⟩) W2) :
  SStp n0 P S W (P.setCur S vv vc) (S.setCur f) (((W2.setCell ⟨(curP P S).block,oI S,none⟩ vv).setCell ⟨(curP P S).block,oI S+1,none⟩ vc).setCell ⟨(curP P S).block,oI S+2,none⟩ (.int .i64 f.loc)):=by
 refine⟨?_,hwf⟩;obtain⟨_,hb,ho⟩:=zlx h;obtain⟨n1,n2,_⟩:=zyC S;have hd:updR (updR (rows P S) (vI S) ⟨vv,57,3,f.vs.length,zkS f.vs⟩) (cI S) ⟨vc,192,1,f.cs.length,ptrs P.cb f.cs⟩ (hI S)=rows P S (hI S):=by rw[zkj n2,zkj n1]
 have s1:=Stp.set (i:=hI S) hst.rws (g:=(curP P S).block) (by rw[hd];exact hb) (o:=oI S) (by rw[hd];omega) vv;rw[hd]at s1;have s2:=Stp.set (i:=hI S) s1.rws (g:=(curP P S).block) (by rw[zkt];exact hb) (o:=oI S+1) (by rw[zkt];simp;omega) vc;rw[zkt]at s2;have s3:=Stp.set (i:=hI S) s2.rws (g:=(curP P S).block) (by rw[zkt];exact hb) (o:=oI S+2) (by rw[zkt];simp;omega) (.int .i64 f.loc);rw[zkt]at s3;refine((((hst.trans s1).trans s2).trans s3)).cast ?_;rw[zmU];funext r;by_cases e:r=hI S
 ·subst e;simp
 ·simp only[updR,e,if_false]
theorem zvd{S:ST}(h:S.WF)(f:FR)(hf:∀kd,S.cur.WF kd S.nc->f.WF kd S.nc):(S.setCur f).WF:=by
 obtain⟨kd,h1,h2,h3⟩:=h.ex;by_cases h0:S.calls.length=0
 ·have hc:S.calls=[]:=List.length_eq_zero_iff.1 h0;simp only[ST.setCur,h0,if_true];refine⟨⟨kd,hf kd (by rw[zni h0];exact h1),fun g hg=>?_,h3⟩,h.ncalls,h.cells,h.tin,h.tout⟩;rw[hc]at hg
  cases hg
 ·simp only[ST.setCur,h0,if_false];refine⟨⟨kd,h1,fun g hg=>?_,h3⟩,by simpa using h.ncalls,h.cells,h.tin,h.tout⟩;rcases List.mem_or_eq_of_mem_set hg with hg|rfl
  ·exact h2 g hg
  ·exact hf kd (by rw[znh (by omega)];exact h2 _ (List.getElem_mem _))
theorem zz9{f:FR}{kd:Nat->Int×Int}{nc:Nat}(h:f.WF kd nc):f.pop.WF kd nc:=by
 refine⟨?_,?_,?_,fun v hv=>h.fld v (List.mem_of_mem_take hv),fun c hc=>h.num c (List.mem_of_mem_take hc),fun i hi hi'=>?_⟩
 ·have:=h.len;simp[FR.pop,this]
 ·have:=h.loc;simp[FR.pop];omega
 ·have:=h.lim;simp[FR.pop];omega
 ·have h1:i<f.vs.length:=by simp[FR.pop]at hi;omega
  have h2:i<f.cs.length:=by rw[h.len];exact h1
  have:=h.kind i h1 h2;simpa[FR.pop]using this
theorem zwa{W:World}{n0:Nat}{P:Ph}{S:ST}(h:SR W n0 P S)(m:Nat)(hm:S.cur.vs.length=m+1)(ga c g c2:Nat)(hv:curV P S=.slice (some ⟨ga,0,none⟩) (m+1) c)(hc:curC P S=.slice (some ⟨g,0,none⟩) (m+1) c2) :
  Stp n0 (rows P S) W (updR (updR (rows P S) (vI S) ⟨.slice (some ⟨ga,0,none⟩) m c,57,3,S.cur.pop.vs.length,zkS S.cur.pop.vs⟩) (cI S) ⟨.slice (some ⟨g,0,none⟩) m c2,192,1,S.cur.pop.cs.length,ptrs P.cb S.cur.pop.cs⟩) W:=by
 obtain⟨kd,hw⟩:=h.curWF;have hcl:S.cur.cs.length=m+1:=by rw[hw.len];exact hm
 obtain⟨r1,r2⟩:=zq6 P S;obtain⟨n1,n2,n3⟩:=zyC S;have e1:S.cur.pop.vs.length=m:=by simp[FR.pop,hm]
 have e2:S.cur.pop.cs.length=m:=by simp[FR.pop,hm,hcl]
 have o1:W.ownsRow n0 57 3 (.slice (some ⟨ga,0,none⟩) m c) m (zkS S.cur.pop.vs):=by
  have:=h.rws.row (vI S);rw[r1,hv,hm]at this;have e:zkS S.cur.vs=zkS S.cur.pop.vs++(zkS S.cur.vs).drop (m*3):=by
   simp only[FR.pop,hm,Nat.add_sub_cancel];rw[zpe,List.take_append_drop]
  dsimp only at this;rw[e]at this;exact ownsRow_pop (by rw[zuD,e1]) this
 have o2:W.ownsRow n0 192 1 (.slice (some ⟨g,0,none⟩) m c2) m (ptrs P.cb S.cur.pop.cs):=by
  have:=h.rws.row (cI S);rw[r2,hc,hcl]at this;have e:ptrs P.cb S.cur.cs=ptrs P.cb S.cur.pop.cs++(ptrs P.cb S.cur.cs).drop m:=by
   simp only[FR.pop,hm,Nat.add_sub_cancel];rw[ztT,List.take_append_drop]
  dsimp only at this;rw[e]at this;exact ownsRow_pop (by simp[ptrs,e2]) this
 rw[e1,e2];have s1:=Stp.upd (i:=vI S) (r:=⟨.slice (some ⟨ga,0,none⟩) m c,57,3,m,zkS S.cur.pop.vs⟩) h.rws (Chg.refl _ _) o1 (fun b hb=>.inl (by rw[r1];show(curV P S).ownBlock=some b;rw[hv];exact hb));refine s1.trans (Stp.upd (i:=cI S) s1.rws (Chg.refl _ _) o2 (fun b hb=>.inl ?_));rw[zkj (Ne.symm n3),r2]
 show(curC P S).ownBlock=some b
 rw[hc];exact hb
theorem zoF{W:World}{n0:Nat}{P:Ph}{S:ST}(h:SR W n0 P S)(m c g c2 lc B O:Nat)(a:Addr)(hm:S.cur.vs.length=m+1)(hv:curV P S=.slice (some a) (m+1) c)(hc:curC P S=.slice (some ⟨g,0,none⟩) (m+1) c2)(hB:(curP P S).block=B)(hO:oI S=O)(hlc:S.cur.loc=lc)(h0:lc≠0) :
  ∃P',SStp n0 P S W P' (S.setCur S.cur.pop) (((W.setCell ⟨B,O,none⟩ (.slice (some a) m c)).setCell ⟨B,O+1,none⟩ (.slice (some ⟨g,0,none⟩) m c2)).setCell ⟨B,O+2,none⟩ (.int .i64 ((lc:Int)-1))).drew/\P'.sb=P.sb:=by
 have hr:=h.rws.row (vI S);rw[(zq6 P S).1]at hr;obtain⟨ga,ca,hga,_⟩:=zkV hr (by dsimp only;omega);dsimp only at hga;have ha:a=⟨ga,0,none⟩:=by
  have:=hv.symm.trans hga;injection this with e1;injection e1
 subst ha;have key:=zwX h S.cur.pop (zvd h.wf _ fun kd hk=>zz9 hk) W _ _ (zwa h m hm ga c g c2 hv hc);have el:((S.cur.pop.loc:Nat):Int)=(lc:Int)-1:=by simp only[FR.pop,hlc];omega
 rw[hB,hO,el]at key;exact⟨_,⟨key.st.below zr.drew,key.wf⟩,by unfold Ph.setCur;split<;>rfl⟩
theorem zvG{W:World}{n0:Nat}{P:Ph}{S:ST}(h:SR W n0 P S)(name:ByteArray)(x:Int):Calls prog 182 #[.pointer (some ⟨P.sb,0,none⟩),.string name,.int .i64 x] W fun e W'=>e=.returned (.int .i64 (zk8 S name x).1)/\∃P',SStp n0 P S W P' (zk8 S name x).2 W'/\P'.sb=P.sb:=by
 have HS:=zh h;have dh:=zh (zlf h);obtain⟨kd,hw⟩:=h.curWF;obtain⟨A,c,hcv,hc,hrow⟩:=h.curVs;obtain⟨h3,h4,h5⟩:=h.cur3;obtain⟨A2,c2,hcc,hc2,_⟩:=zkd h.curCs;rw[hcv]at h3;rw[hcc,hw.len]at h4;obtain⟨hh1,pE,hh3⟩:=zlx h;obtain⟨B,hB⟩:=zX ((curP P S).block);obtain⟨O,hO⟩:=zX (oI S);have hcp:curP P S=⟨B,O,none⟩:=by rw[hh1,hB,hO]
 have aF:=zh hB;have fI:=zh hO;rw[hcp]at h3 h4 h5 dh;dsimp only at h3 h4 h5;obtain⟨R,hR⟩:=zX (zk8 S name x);rw[hR];obtain⟨lc,hlc⟩:=zX (S.cur.loc);obtain⟨L,hL⟩:=zX (S.cur.vs.length);have hlim:=hw.lim;have hloc:=hw.loc;rw[hlc]at h5 hloc;rw[hL]at h3 h4 hlim hloc;have af:=zh hrow;have eD:=zh hw;have nE:=zh hlc;have HL:=zh hL;have HRR:=zh hR;have bg:=zh hcc;have qH:=zh hcv;have fE:=zh hc2;have hfz:∀i,W.frozen? ⟨B,i,none⟩=false:=fun i=>h.rws.frozen (hI S) (by rw[<-hB];exact pE) i;clear h hw hcv hrow hcp hR hlc hL hcc hc2 hh1 pE hh3 hB hO;by_cases hl0:lc=0
 ·subst hl0;have HX:=zh (show R=(6,S) by rw[<-HRR.out,zk8,if_pos (.inl nE.out)]);go_enter func182,ntmps182;go_wp2_with fail;refine dh.out.mono ?_;rintro e w1 ⟨rfl,rfl⟩;go_wp2_with fail;go_ret;exact⟨by rw[HX.out];rfl,P,by rw[HX.out];exact SStp.refl HS.out zr,rfl⟩
 ·obtain⟨m,rfl⟩:∃m,L=m+1:=⟨L-1,by omega⟩
  have lC:m<S.cur.vs.length:=by rw[HL.out];omega
  obtain⟨a,rfl,-,⟨y0,y1,y2⟩,-⟩:=af.out m lC;obtain⟨v,hv⟩:=zX (S.cur.vs[m]);rw[hv]at y0 y1 y2;have hlv:zun S.cur=v:=by rw[<-hv,zun,HL.out];simp[lC]
  have jV:=zh hlv;obtain⟨b,hb⟩:=zX ((v.s.toList==name.toList));have e1:((lc:Int)==0)=false:=by simp;omega
  have HB:=zh hb;have hml2:(m:Int)<((m+1:Nat):Int):=by omega
  clear hlv hb
  cases b
  ·have HX:=zh (show R=(6,S) by rw[<-HRR.out,zk8,if_pos (.inr (by rw[jV.out];exact HB.out))]);have hbn:=HB.out;clear hv;go_enter func182,ntmps182;go_wp2_with fail;refine dh.out.mono ?_;rintro e w1 ⟨rfl,rfl⟩;go_wp2_with fail;go_ret;exact⟨by rw[HX.out];rfl,P,by rw[HX.out];exact SStp.refl HS.out zr,rfl⟩
  ·have hbn:=HB.out;have hmc:m<S.cur.cs.length:=by rw[eD.out.len];exact lC
   obtain⟨id,hid⟩:=zX (S.cur.cs[m]);have aL:id<S.nc:=by rw[<-hid];exact eD.out.num _ (List.getElem_mem hmc)
   have hlcc:zwt S.cur=id:=by rw[<-hid,zwt,HL.out];simp[hmc]
   obtain⟨g,c2',hcc',_,_,hcell⟩:=zkV HS.out.curCs (by omega);obtain⟨rfl,rfl⟩:A2=some ⟨g,0,none⟩/\c2=c2':=by
    have:=bg.out.symm.trans hcc';injection this with e1 _ e3;exact⟨e1,e3⟩
   have z0:W.cell? ⟨g,m,none⟩=some (.pointer (some ⟨P.cb id,0,none⟩)):=by rw[hcell m (by omega)];simp[ptrs,hmc,hid]
   obtain⟨A3,c3,hci,hc3,bA⟩:=HS.out.items aL;have z1:W.cell? ⟨P.cb id,0,none⟩=some (.slice A3 (S.cell id).length c3):=by rw[<-hci];exact zc (HS.out.cbox aL) rfl
   obtain⟨l,hl⟩:=zX (S.cell id);have hll:=(HS.out.wf.cells id aL).1;have hk1:v.k=1->l.length=1:=fun hk=>by
    have:=zum HS.out.wf lC hmc (by rw[hv];exact hk);rw[hid,hl]at this;exact this
   rw[hl]at z1 bA hll;have dQ:=zh hl;have HR2:=zh (show R=if (v.k=1/\l.getD 0 0≠x)\/(v.k=3/\0<l.length)then(16,S)else(0,S.setCur S.cur.pop) by
    rw[<-HRR.out,zk8,if_neg (by rw[jV.out,HB.out,nE.out];simp;omega),jV.out,hlcc,hl])
   have dC:=zh bA;clear hcell hcc' hci bA hl hlcc hid HRR hv;by_cases k1:v.k=1
   ·have hl1:=hk1 k1;obtain⟨a3,rfl,hx0⟩:=dC.out.nd (i:=0) (by omega);simp only[Addr.add_zero']at hx0;obtain⟨x0,hx0'⟩:=zX (l.getD 0 0);rw[hx0']at hx0 HR2;rw[k1]at y1 HR2;rw[hl1]at z1;by_cases oM:x0=x
    ·subst oM;have HX:=zh (show R=(0,S.setCur S.cur.pop) by rw[HR2.out,if_neg (by simp)]);have aS:=zh (zoF HS.out m c g c2 lc B O a HL.out (by rw[qH.out,HL.out]) (by rw[bg.out,eD.out.len,HL.out]) aF.out fI.out nE.out hl0);clear HR2 hx0' hk1 k1 hl1;go_enter func182,ntmps182;go_wp2_with fail;refine dh.out.mono ?_;rintro e w1 ⟨rfl,rfl⟩;go_upto_region 10 with fail;have hSS:zU w1.drew/\(fun w':World=>zv w' B O (.slice (some a) (m+1) c)/\zv w' B (O+1) (.slice (some ⟨g,0,none⟩) (m+1) c2)) w1.drew:=⟨trivial,h3,h4⟩
     have hm1:(m:Int)<=(c:Int):=by omega
     have hm2:(m:Int)<=(c2:Int):=by omega
     have hm0:(0:Int)<=(m:Int):=by omega
     refine wp_region_noPanic ?_;refine zkk zU (fun w':World=>zv w' B O (.slice (some a) (m+1) c)/\zv w' B (O+1) (.slice (some ⟨g,0,none⟩) (m+1) c2)) 16 (by kernel_rfl) ?_;refine zT 0 hSS ?_;refine zT 1 hSS ?_;refine zT 2 hSS ?_;refine zT 3 hSS ?_;refine zT 4 hSS ?_;refine zJ 5 hSS ?_;refine zT 6 hSS ?_;refine zT 7 hSS ?_;refine zT 8 hSS ?_;refine zT 9 hSS ?_;refine zT 10 hSS ?_;refine zJ 11 hSS ?_;refine zT 12 hSS ?_;refine zT 13 hSS ?_;refine zT 14 hSS ?_;refine zT 15 hSS ?_;refine zp 16 fun K hK=>?_;(try simp only[zA,zB,zC]);have g3:w1.drew.cell? ⟨B,O,none⟩=some (.slice (some a) (m+1) c):=h3;have gf:w1.drew.frozen? ⟨B,O,none⟩=false:=hfz O;go_simp;refine hK.out _ _ trivial ?_;clear hK K hSS;(try simp only[zQ])
     have j4:(w1.setCell ⟨B,O,none⟩ (.slice (some a) m c)).drew.cell? ⟨B,O+1,none⟩=some (.slice (some ⟨g,0,none⟩) (m+1) c2):=(World.cell?_setCell_other w1 ⟨B,O,none⟩ ⟨B,O+1,none⟩ _ (by simp)).trans h4;have j5:((w1.setCell ⟨B,O,none⟩ (.slice (some a) m c)).setCell ⟨B,O+1,none⟩ (.slice (some ⟨g,0,none⟩) m c2)).cell? ⟨B,O+2,none⟩=some (.int .i64 lc):=(World.cell?_setCell_other _ ⟨B,O+1,none⟩ ⟨B,O+2,none⟩ _ (by simp)).trans ((World.cell?_setCell_other w1 ⟨B,O,none⟩ ⟨B,O+2,none⟩ _ (by simp)).trans h5);refine zp 17 fun K hK=>?_;(try simp only[zA,zB,zC]);go_simp;refine hK.out _ _ trivial ?_;clear hK K;(try simp only[zQ]);refine zp 18 fun K hK=>?_;(try simp only[zA,zB,zC]);go_simp;refine hK.out _ _ trivial ?_;clear hK K;(try simp only[zQ]);refine zp 19 fun K hK=>?_;(try simp only[zA,zB,zC]);go_simp;refine hK.out _ _ trivial ?_;clear hK K;(try simp only[zQ]);refine zd ?_;refine NoPanic.normal ?_
     clear g3 gf h3 h4 h5;go_wp2_with fail;go_ret;refine⟨by rw[HX.out];rfl,?_⟩;rw[HX.out];exact aS.out
    ·have HX:=zh (show R=(16,S) by rw[HR2.out,if_pos (.inl ⟨rfl,oM⟩)]);have e5:(x0==x)=false:=by simpa using oM
     have e6:(x0 != x)=true:=by simpa using oM
     clear HR2 oM hx0' hk1 k1 hl1;go_enter func182,ntmps182;go_wp2_with fail;refine dh.out.mono ?_;rintro e w1 ⟨rfl,rfl⟩;go_wp2_with fail;go_ret;exact⟨by rw[HX.out];rfl,P,by rw[HX.out];exact SStp.refl HS.out zr,rfl⟩
   ·have x1:(v.k==1)=false:=by simpa using k1
    have sP:=k1;by_cases k3:v.k=3
    ·rw[k3]at y1 HR2 x1;have hk3:True:=trivial;by_cases hl0':l.length=0
     ·have HX:=zh (show R=(0,S.setCur S.cur.pop) by rw[HR2.out,if_neg (by simp[hl0'])]);rw[hl0']at z1;have aS:=zh (zoF HS.out m c g c2 lc B O a HL.out (by rw[qH.out,HL.out]) (by rw[bg.out,eD.out.len,HL.out]) aF.out fI.out nE.out hl0);clear HR2 hk1 k1 sP k3 hl0' x1;go_enter func182,ntmps182;go_wp2_with fail;refine dh.out.mono ?_;rintro e w1 ⟨rfl,rfl⟩;go_upto_region 10 with fail;have hSS:zU w1.drew/\(fun w':World=>zv w' B O (.slice (some a) (m+1) c)/\zv w' B (O+1) (.slice (some ⟨g,0,none⟩) (m+1) c2)) w1.drew:=⟨trivial,h3,h4⟩
      have hm1:(m:Int)<=(c:Int):=by omega
      have hm2:(m:Int)<=(c2:Int):=by omega
      have hm0:(0:Int)<=(m:Int):=by omega
      refine wp_region_noPanic ?_;refine zkk zU (fun w':World=>zv w' B O (.slice (some a) (m+1) c)/\zv w' B (O+1) (.slice (some ⟨g,0,none⟩) (m+1) c2)) 16 (by kernel_rfl) ?_;refine zT 0 hSS ?_;refine zT 1 hSS ?_;refine zT 2 hSS ?_;refine zT 3 hSS ?_;refine zT 4 hSS ?_;refine zJ 5 hSS ?_;refine zT 6 hSS ?_;refine zT 7 hSS ?_;refine zT 8 hSS ?_;refine zT 9 hSS ?_;refine zT 10 hSS ?_;refine zJ 11 hSS ?_;refine zT 12 hSS ?_;refine zT 13 hSS ?_;refine zT 14 hSS ?_;refine zT 15 hSS ?_;refine zp 16 fun K hK=>?_;(try simp only[zA,zB,zC]);have g3:w1.drew.cell? ⟨B,O,none⟩=some (.slice (some a) (m+1) c):=h3;have gf:w1.drew.frozen? ⟨B,O,none⟩=false:=hfz O;go_simp;refine hK.out _ _ trivial ?_;clear hK K hSS;(try simp only[zQ])
      have j4:(w1.setCell ⟨B,O,none⟩ (.slice (some a) m c)).drew.cell? ⟨B,O+1,none⟩=some (.slice (some ⟨g,0,none⟩) (m+1) c2):=(World.cell?_setCell_other w1 ⟨B,O,none⟩ ⟨B,O+1,none⟩ _ (by simp)).trans h4;have j5:((w1.setCell ⟨B,O,none⟩ (.slice (some a) m c)).setCell ⟨B,O+1,none⟩ (.slice (some ⟨g,0,none⟩) m c2)).cell? ⟨B,O+2,none⟩=some (.int .i64 lc):=(World.cell?_setCell_other _ ⟨B,O+1,none⟩ ⟨B,O+2,none⟩ _ (by simp)).trans ((World.cell?_setCell_other w1 ⟨B,O,none⟩ ⟨B,O+2,none⟩ _ (by simp)).trans h5);refine zp 17 fun K hK=>?_;(try simp only[zA,zB,zC]);go_simp;refine hK.out _ _ trivial ?_;clear hK K;(try simp only[zQ]);refine zp 18 fun K hK=>?_;(try simp only[zA,zB,zC]);go_simp;refine hK.out _ _ trivial ?_;clear hK K;(try simp only[zQ]);refine zp 19 fun K hK=>?_;(try simp only[zA,zB,zC]);go_simp;refine hK.out _ _ trivial ?_;clear hK K;(try simp only[zQ]);refine zd ?_;refine NoPanic.normal ?_
      clear g3 gf h3 h4 h5;go_wp2_with fail;go_ret;refine⟨by rw[HX.out];rfl,?_⟩;rw[HX.out];exact aS.out
     ·have HX:=zh (show R=(16,S) by rw[HR2.out,if_pos (.inr ⟨rfl,by omega⟩)]);have e5:(0:Int)<(l.length:Int):=by omega
      clear HR2 hk1 k1 sP k3 hl0' x1;go_enter func182,ntmps182;go_wp2_with fail;refine dh.out.mono ?_;rintro e w1 ⟨rfl,rfl⟩;go_wp2_with fail;go_ret;exact⟨by rw[HX.out];rfl,P,by rw[HX.out];exact SStp.refl HS.out zr,rfl⟩
    ·have x3:(v.k==3)=false:=by simpa using k3
     have HX:=zh (show R=(0,S.setCur S.cur.pop) by rw[HR2.out,if_neg (by simp[k1,k3])]);have aS:=zh (zoF HS.out m c g c2 lc B O a HL.out (by rw[qH.out,HL.out]) (by rw[bg.out,eD.out.len,HL.out]) aF.out fI.out nE.out hl0);clear HR2 hk1 k1 sP k3;go_enter func182,ntmps182;go_wp2_with fail;refine dh.out.mono ?_;rintro e w1 ⟨rfl,rfl⟩;go_upto_region 10 with fail;have hSS:zU w1.drew/\(fun w':World=>zv w' B O (.slice (some a) (m+1) c)/\zv w' B (O+1) (.slice (some ⟨g,0,none⟩) (m+1) c2)) w1.drew:=⟨trivial,h3,h4⟩
     have hm1:(m:Int)<=(c:Int):=by omega
     have hm2:(m:Int)<=(c2:Int):=by omega
     have hm0:(0:Int)<=(m:Int):=by omega
     refine wp_region_noPanic ?_;refine zkk zU (fun w':World=>zv w' B O (.slice (some a) (m+1) c)/\zv w' B (O+1) (.slice (some ⟨g,0,none⟩) (m+1) c2)) 16 (by kernel_rfl) ?_;refine zT 0 hSS ?_;refine zT 1 hSS ?_;refine zT 2 hSS ?_;refine zT 3 hSS ?_;refine zT 4 hSS ?_;refine zJ 5 hSS ?_;refine zT 6 hSS ?_;refine zT 7 hSS ?_;refine zT 8 hSS ?_;refine zT 9 hSS ?_;refine zT 10 hSS ?_;refine zJ 11 hSS ?_;refine zT 12 hSS ?_;refine zT 13 hSS ?_;refine zT 14 hSS ?_;refine zT 15 hSS ?_;refine zp 16 fun K hK=>?_;(try simp only[zA,zB,zC]);have g3:w1.drew.cell? ⟨B,O,none⟩=some (.slice (some a) (m+1) c):=h3;have gf:w1.drew.frozen? ⟨B,O,none⟩=false:=hfz O;go_simp;refine hK.out _ _ trivial ?_;clear hK K hSS;(try simp only[zQ])
     have j4:(w1.setCell ⟨B,O,none⟩ (.slice (some a) m c)).drew.cell? ⟨B,O+1,none⟩=some (.slice (some ⟨g,0,none⟩) (m+1) c2):=(World.cell?_setCell_other w1 ⟨B,O,none⟩ ⟨B,O+1,none⟩ _ (by simp)).trans h4;have j5:((w1.setCell ⟨B,O,none⟩ (.slice (some a) m c)).setCell ⟨B,O+1,none⟩ (.slice (some ⟨g,0,none⟩) m c2)).cell? ⟨B,O+2,none⟩=some (.int .i64 lc):=(World.cell?_setCell_other _ ⟨B,O+1,none⟩ ⟨B,O+2,none⟩ _ (by simp)).trans ((World.cell?_setCell_other w1 ⟨B,O,none⟩ ⟨B,O+2,none⟩ _ (by simp)).trans h5);refine zp 17 fun K hK=>?_;(try simp only[zA,zB,zC]);go_simp;refine hK.out _ _ trivial ?_;clear hK K;(try simp only[zQ]);refine zp 18 fun K hK=>?_;(try simp only[zA,zB,zC]);go_simp;refine hK.out _ _ trivial ?_;clear hK K;(try simp only[zQ]);refine zp 19 fun K hK=>?_;(try simp only[zA,zB,zC]);go_simp;refine hK.out _ _ trivial ?_;clear hK K;(try simp only[zQ]);refine zd ?_;refine NoPanic.normal ?_
     clear g3 gf h3 h4 h5;go_wp2_with fail;go_ret;refine⟨by rw[HX.out];rfl,?_⟩;rw[HX.out];exact aS.out
def ST.newCell(S:ST)(l:List Int):ST:={ S with cell:=fun i=>if i=S.nc then l else S.cell i,nc:=S.nc+1 }
def Ph.newCell(P:Ph)(S:ST)(b:Nat)(v:Value):Ph:={ P with cb:=fun i=>if i=S.nc then b else P.cb i,ci:=fun i=>if i=S.nc then v else P.ci i }
theorem zrY{cb:Nat->Nat}{nc b:Nat}{cs:List Nat}(h:∀c∈cs,c<nc):ptrs (fun i=>if i=nc then b else cb i) cs=ptrs cb cs:=by
 unfold ptrs;refine List.map_congr_left fun c hc=>?_;have:=h c hc;have e:c≠nc:=by omega
 simp[e]
theorem zmr{S:ST}(hw:S.WF)(P:Ph)(b:Nat)(v:Value)(l:List Int):rows (P.newCell S b v) (S.newCell l) =
  updR (updR (rows P S) (.cb S.nc) ⟨boxV b,194,1,1,[v]⟩) (.ci S.nc) ⟨v,3,1,l.length,zkg l⟩:=by
 obtain⟨kd,h1,h2,_⟩:=hw.ex;funext r
 cases r with
 | cb i =>
  by_cases e:i=S.nc
  ·subst e;simp[updR,rows,Ph.newCell,ST.newCell]
  ·have:(i<S.nc+1)=(i<S.nc):=by simp;omega
   simp[updR,rows,Ph.newCell,ST.newCell,e,this]
 | ci i =>
  by_cases e:i=S.nc
  ·subst e;simp[updR,rows,Ph.newCell,ST.newCell]
  ·have:(i<S.nc+1)=(i<S.nc):=by simp;omega
   simp[updR,rows,Ph.newCell,ST.newCell,e,this]
 | bc=>simp[updR,rows,Ph.newCell,ST.newCell,zrY h1.num]
 | fc i =>
  simp only[updR,reduceCtorEq,if_false,rows,ST.newCell,Ph.newCell]
  cases hi:S.calls[i]? with
  | none=>rfl
  | some f=>simp only[zrY (h2 f (List.mem_of_getElem? hi)).num]
 | calls =>
  simp only[updR,reduceCtorEq,if_false,rows,ST.newCell];rw[zlv (P:=P) (P':=P.newCell S b v) rfl rfl];rfl
 | fv i=>simp[updR,rows,Ph.newCell,ST.newCell]
 | sb=>simp[updR,rows,Ph.newCell,ST.newCell]
 | tb=>simp[updR,rows,Ph.newCell,ST.newCell]
 | tin=>simp[updR,rows,Ph.newCell,ST.newCell]
 | tout=>simp[updR,rows,Ph.newCell,ST.newCell]
 | bv=>simp[updR,rows,Ph.newCell,ST.newCell]
 | x i=>simp[updR,rows]
theorem FR.WF.new{f:FR}{kd:Nat->Int×Int}{nc:Nat}(h:f.WF kd nc)(k:Int×Int):f.WF (fun i=>if i=nc then k else kd i) (nc+1):=by
 refine⟨h.len,h.loc,h.lim,h.fld,fun c hc=>by have:=h.num c hc;omega,fun i hi hi'=>?_⟩;have:=h.num _ (List.getElem_mem hi');rw[if_neg (by omega)];exact h.kind i hi hi'
theorem zmX(S:ST)(l:List Int):(S.newCell l).cur=S.cur:=rfl
theorem znJ{S:ST}(h:S.WF)(l:List Int)(k:Int×Int)(hl:l.length<=1000)(hf:∀x∈l,I64 x)(hk:(k.1=1->l.length=1)/\(k.1=2->(l.length:Int)=k.2)/\(k.1=1\/k.1=2\/k.1=3)):(S.newCell l).WF:=by
 obtain⟨kd,h1,h2,h3⟩:=h.ex;refine⟨⟨fun i=>if i=S.nc then k else kd i,h1.new k,fun f hf=>(h2 f hf).new k,fun i hi=>?_⟩,h.ncalls,fun i hi=>?_,h.tin,h.tout⟩
 ·simp only[ST.newCell]at hi ⊢;by_cases e:i=S.nc
  ·subst e;simpa using hk
  ·simp only[e,if_false];exact h3 i (by omega)
 ·simp only[ST.newCell]at hi ⊢;by_cases e:i=S.nc
  ·subst e;simpa using⟨hl,hf⟩
  ·simp only[e,if_false];exact h.cells i (by omega)
theorem ztN(P:Ph)(S:ST):rows P S (.cb S.nc)=nilR/\rows P S (.ci S.nc)=nilR:=by simp[rows]
theorem znz{k:Nat}(w:World)(n0:Nat)(E:TypeId)(xs:List Value)(hn:n0<=w.heap.size)(hx:xs.length=k):(w.alloc (.cells xs.toArray E)).ownsRow n0 E k (.slice (some ⟨w.heap.size,0,none⟩) 1 1) 1 xs :=
 ⟨by omega,.inr ⟨w.heap.size,1,xs.toArray,rfl,hn,heap_alloc_new w _,zl,by decide,by simp[hx],by rw[Nat.one_mul,<-hx];simp⟩⟩
theorem zrd{W w2:World}{n0:Nat}{P:Ph}{S:ST}(h:SR W n0 P S)(hb:Below W.heap.size W w2)(x:Int)(hx:I64 x) :
  SStp n0 P S W (P.newCell S w2.heap.size (.slice (some ⟨w2.heap.size+1,0,none⟩) 1 1)) (S.newCell [x]) ((w2.alloc (.cells #[.slice (some ⟨w2.heap.size+1,0,none⟩) 1 1] 194)).alloc (.cells #[.int .i64 x] 3)):=by
 have hn:n0<=w2.heap.size:=by
  have h1:=(h.rws.lt .sb P.sb rfl)
  have h2:=hb.size;omega
 obtain⟨r1,r2⟩:=ztN P S;have s0:=(Stp.refl h.rws).below hb;have s1:=Stp.upd (i:=Res.cb S.nc) (r:=⟨boxV w2.heap.size,194,1,1,[.slice (some ⟨w2.heap.size+1,0,none⟩) 1 1]⟩) s0.rws (Chg.of_below (zka zr (.cells #[.slice (some ⟨w2.heap.size+1,0,none⟩) 1 1] 194))) (znz w2 n0 _ [_] hn rfl) (fun b hb=>.inr (by simp[Value.ownBlock]at hb;omega));have o2:=znz (k:=1) (w2.alloc (.cells #[.slice (some ⟨w2.heap.size+1,0,none⟩) 1 1] 194)) n0 3 [.int .i64 x] (by simp;omega) rfl;rw[World.size_alloc]at o2;have s2:=Stp.upd (i:=Res.ci S.nc) (r:=⟨.slice (some ⟨w2.heap.size+1,0,none⟩) 1 1,3,1,1,[.int .i64 x]⟩) s1.rws (Chg.of_below (zka zr (.cells #[.int .i64 x] 3))) o2 (fun b hb=>.inr (by simp[Value.ownBlock]at hb;simp;omega));refine⟨((s0.trans s1).trans s2).cast ?_,znJ h.wf [x] (1,0) (by simp) (by simpa using hx) (by simp)⟩;rw[zmr h.wf];rfl
theorem zpH{W w2:World}{n0:Nat}{P:Ph}{S:ST}(h:SR W n0 P S)(hb:Below W.heap.size W w2) :
  SStp n0 P S W (P.newCell S w2.heap.size (.slice none 0 0)) (S.newCell []) (w2.alloc (.cells #[.slice none 0 0] 194)):=by
 have hn:n0<=w2.heap.size:=by
  have h1:=(h.rws.lt .sb P.sb rfl)
  have h2:=hb.size;omega
 have s0:=(Stp.refl h.rws).below hb;have s1:=Stp.upd (i:=Res.cb S.nc) (r:=⟨boxV w2.heap.size,194,1,1,[.slice none 0 0]⟩) s0.rws (Chg.of_below (zka zr (.cells #[.slice none 0 0] 194))) (znz w2 n0 _ [_] hn rfl) (fun b hb=>.inr (by simp[Value.ownBlock]at hb;omega));have s2:=Stp.upd (i:=Res.ci S.nc) (r:=⟨.slice none 0 0,3,1,0,[]⟩) s1.rws (Chg.refl _ _) (World.ownsRow_nil _ _ _ _) (fun b hb=>by simp[Value.ownBlock]at hb);refine⟨((s0.trans s1).trans s2).cast ?_,znJ h.wf [] (3,0) (by simp) (by simp) (by simp)⟩;rw[zmr h.wf];rfl
theorem zpR(P:Ph)(S:ST):(rows P S (hI S)).xs[oI S]?=some (curV P S)/\(rows P S (hI S)).xs[oI S+1]?=some (curC P S)/\(rows P S (hI S)).xs[oI S+2]?=some (.int .i64 S.cur.loc):=by
 by_cases h0:S.calls.length=0
 ·simp[hI,oI,curV,curC,h0,rows,zni h0]
 ·obtain⟨g1,g2,g3⟩:=zoy P S.calls 0 (S.calls.length-1) (by omega);simp only[Nat.zero_add]at g1 g2;simp only[hI,oI,curV,curC,h0,if_false,rows,znh (show 0<S.calls.length by omega)];exact⟨g1,g2,g3⟩
theorem zza{W:World}{n0:Nat}{P:Ph}{S:ST}(h:SR W n0 P S)(v:VD)(q:Option Addr)(hlim:S.cur.vs.length<=4398046511000) :
  Calls prog 133 #[.pointer (some ⟨(curP P S).block,oI S,none⟩),.agg #[.string v.s,.int .u8 v.k,.int .i64 v.n],.pointer q] W fun e W'=>(∃u,e=.returned u)/\∃vv vc,
   Stp n0 (rows P S) W (updR (updR (updR (rows P S) (vI S) ⟨vv,57,3,S.cur.vs.length+1,zkS S.cur.vs++[.string v.s,.int .u8 v.k,.int .i64 v.n]⟩) (cI S) ⟨vc,192,1,S.cur.vs.length+1,ptrs P.cb S.cur.cs++[.pointer q]⟩) (hI S) { rows P S (hI S)with xs:=((rows P S (hI S)).xs.set (oI S) vv).set (oI S+1) vc }) W':=by
 obtain⟨n1,n2,n3⟩:=zyC S;obtain⟨r1,r2⟩:=zq6 P S;obtain⟨g1,g2,_⟩:=zpR P S;obtain⟨_,hb,_⟩:=zlx h;obtain⟨kd,hw⟩:=h.curWF;refine zrv h.rws (hI S) (vI S) (cI S) n1 n2 n3 _ _ hb (by rw[g1,r1]) (by rw[g2,r2]) (zkS S.cur.vs) (ptrs P.cb S.cur.cs) S.cur.vs.length (by rw[r1]) (by rw[r2,hw.len]) hlim v q
def FR.push(f:FR)(v:VD)(id:Nat):FR:=⟨f.vs++[v],f.cs++[id],f.loc+1⟩
theorem zpf(vs:List VD)(v:VD):zkS (vs++[v])=zkS vs++[.string v.s,.int .u8 v.k,.int .i64 v.n]:=by simp[zkS]
theorem zv9{W W':World}{n0:Nat}{P:Ph}{S:ST}(h:SR W n0 P S)(v:VD)(id:Nat)(vv vc:Value)(hwf:(S.setCur (S.cur.push v id)).WF)
  (hst:Stp n0 (rows P S) W (updR (updR (updR (rows P S) (vI S) ⟨vv,57,3,S.cur.vs.length+1,zkS S.cur.vs++[.string v.s,.int .u8 v.k,.int .i64 v.n]⟩) (cI S) ⟨vc,192,1,S.cur.vs.length+1,ptrs P.cb S.cur.cs++[.pointer (some ⟨P.cb id,0,none⟩)]⟩) (hI S) { rows P S (hI S)with xs:=((rows P S (hI S)).xs.set (oI S) vv).set (oI S+1) vc }) W') :
  SStp n0 P S W (P.setCur S vv vc) (S.setCur (S.cur.push v id)) (W'.setCell ⟨(curP P S).block,oI S+2,none⟩ (.int .i64 ((S.cur.loc:Int)+1))):=by
 refine⟨?_,hwf⟩;obtain⟨_,hb,ho⟩:=zlx h;obtain⟨kd,hw⟩:=h.curWF;have s3:=Stp.set (i:=hI S) hst.rws (g:=(curP P S).block) (by rw[zkt];exact hb) (o:=oI S+2) (by rw[zkt];simp;omega) (.int .i64 ((S.cur.loc:Int)+1));rw[zkt]at s3;refine(hst.trans s3).cast ?_;rw[zmU];have e1:(S.cur.push v id).vs.length=S.cur.vs.length+1:=by simp[FR.push]
 have e2:(S.cur.push v id).cs.length=S.cur.vs.length+1:=by simp[FR.push,hw.len]
 have e3:zkS (S.cur.push v id).vs=zkS S.cur.vs++[.string v.s,.int .u8 v.k,.int .i64 v.n]:=zpf _ _;have e4:ptrs P.cb (S.cur.push v id).cs=ptrs P.cb S.cur.cs++[.pointer (some ⟨P.cb id,0,none⟩)]:=by simp[FR.push,ptrs]
 have e5:(((S.cur.push v id).loc:Nat):Int)=(S.cur.loc:Int)+1:=by simp[FR.push]
 rw[e1,e2,e3,e4,e5];funext r;by_cases e:r=hI S
 ·subst e;simp
 ·simp only[updR,e,if_false]
theorem zve{f:FR}{kd:Nat->Int×Int}{nc:Nat}(h:f.WF kd nc)(v:VD)(hv:FldV v)(hlim:f.vs.length+1<=4398046511000):(f.push v nc).WF (fun i=>if i=nc then(v.k,v.n)else kd i) (nc+1):=by
 have hl:=h.len;refine⟨by simp[FR.push,hl],by have:=h.loc;simp[FR.push];omega,by simpa[FR.push]using hlim,fun u hu=>?_,fun c hc=>?_,fun i hi hi'=>?_⟩
 ·simp only[FR.push,List.mem_append,List.mem_singleton]at hu;rcases hu with hu|rfl
  ·exact h.fld u hu
  ·exact hv
 ·simp only[FR.push,List.mem_append,List.mem_singleton]at hc;rcases hc with hc|rfl
  ·have:=h.num c hc;omega
  ·omega
 ·by_cases e:i<f.vs.length
  ·have e':i<f.cs.length:=by omega
   have a1:(f.push v nc).vs[i]=f.vs[i]:=List.getElem_append_left e;have a2:(f.push v nc).cs[i]=f.cs[i]:=List.getElem_append_left e';rw[a1];generalize (f.push v nc).cs[i]=ci at a2 ⊢;subst a2;have:=h.num _ (List.getElem_mem e');rw[if_neg (by omega)];exact h.kind i e e'
  ·have hi2:i=f.vs.length:=by simp[FR.push]at hi;omega
   have a1:(f.push v nc).vs[i]=v:=by simp[FR.push,hi2]
   have a2:(f.push v nc).cs[i]=nc:=by simp[FR.push,hi2,<-hl]
   rw[a1];generalize (f.push v nc).cs[i]=ci at a2 ⊢;subst a2;simp
theorem zvf{S:ST}(h:S.WF)(v:VD)(hv:FldV v)(l:List Int)(hl:l.length<=1000)(hf:∀x∈l,I64 x)(hk:(v.k=1->l.length=1)/\(v.k=2->(l.length:Int)=v.n)/\(v.k=1\/v.k=2\/v.k=3))(hlim:S.cur.vs.length+1<=4398046511000) :
  ((S.newCell l).setCur (S.cur.push v S.nc)).WF:=by
 obtain⟨kd,h1,h2,h3⟩:=h.ex;have hn:=znJ h l (v.k,v.n) hl hf hk;have hkd:∀i,i<S.nc+1->(((fun i=>if i=S.nc then(v.k,v.n)else kd i) i).1=1->((S.newCell l).cell i).length=1)/\(((fun i=>if i=S.nc then(v.k,v.n)else kd i) i).1=2->(((S.newCell l).cell i).length:Int)=((fun i=>if i=S.nc then(v.k,v.n)else kd i) i).2)/\(((fun i=>if i=S.nc then(v.k,v.n)else kd i) i).1=1\/((fun i=>if i=S.nc then(v.k,v.n)else kd i) i).1=2\/((fun i=>if i=S.nc then(v.k,v.n)else kd i) i).1=3):=fun i hi=>by
  simp only[ST.newCell];by_cases e:i=S.nc
  ·subst e;simpa using hk
  ·simp only[e,if_false];exact h3 i (by omega)
 by_cases h0:S.calls.length=0
 ·have hc:S.calls=[]:=List.length_eq_zero_iff.1 h0;have h0':(S.newCell l).calls.length=0:=h0;rw[zni h0]at hlim ⊢;simp only[ST.setCur,h0',if_true];refine⟨⟨_,zve h1 v hv hlim,fun g hg=>?_,hkd⟩,hn.ncalls,hn.cells,hn.tin,hn.tout⟩;have:g∈S.calls:=hg;rw[hc]at this
  cases this
 ·have h0':¬ (S.newCell l).calls.length=0:=h0;have hcu:S.cur.WF kd S.nc:=by rw[znh (by omega)];exact h2 _ (List.getElem_mem _)
  simp only[ST.setCur,h0',if_false];refine⟨⟨_,h1.new (v.k,v.n),fun g hg=>?_,hkd⟩,by simpa using hn.ncalls,hn.cells,hn.tin,hn.tout⟩;rcases List.mem_or_eq_of_mem_set hg with hg|rfl
  ·exact(h2 g hg).new _
  ·exact zve hcu v hv hlim
def zlV(S:ST)(v:VD)(x:Int):Int×ST :=
 if ¬ ((v.k=1\/v.k=3)/\v.n=0)then(7,S)
 else if (S.cur.at v.s).isSome=true then(22,S)
 else(0,(S.newCell (if v.k=1 then [x]else [])).setCur (S.cur.push v S.nc))
theorem zqP{W:World}{n0:Nat}{P:Ph}{S:ST}(h:SR W n0 P S)(v:VD)(id b B O:Nat)(hb:P.cb id=b)(hcp:curP P S=⟨B,O,none⟩)(hlim:S.cur.vs.length<=4398046511000)(hwf:(S.setCur (S.cur.push v id)).WF) :
  Calls prog 133 #[.pointer (some ⟨B,O,none⟩),.agg #[.string v.s,.int .u8 v.k,.int .i64 v.n],.pointer (some ⟨b,0,none⟩)] W fun e W'=>(∃u,e=.returned u) /\
   W'.cell? ⟨B,O+2,none⟩=some (.int .i64 S.cur.loc)/\W'.frozen? ⟨B,O+2,none⟩=false/\∃P',SStp n0 P S W P' (S.setCur (S.cur.push v id)) (W'.setCell ⟨B,O+2,none⟩ (.int .i64 ((S.cur.loc:Int)+1)))/\P'.sb=P.sb:=by
 obtain⟨e0,aj,ho⟩:=zlx h;obtain⟨g1,g2,g3⟩:=zpR P S;rw[hcp]at e0 aj;dsimp only at e0 aj;have eO:O=oI S:=by injection e0
 subst eO;have hadd:=zza h v (some ⟨P.cb id,0,none⟩) hlim;rw[hcp,hb]at hadd;refine hadd.mono ?_;rintro e W' ⟨hu,vv,vc,hst⟩;have hr:=hst.rws;refine⟨hu,hr.cell (hI S) (by rw[zkt];exact aj) ?_,hr.frozen (hI S) (by rw[zkt];exact aj) _,P.setCur S vv vc,?_,?_⟩
 ·rw[zkt]
  show(((rows P S (hI S)).xs.set (oI S) vv).set (oI S+1) vc)[oI S+2]?=_
  rw[List.getElem?_set_ne (by omega),List.getElem?_set_ne (by omega)];exact g3
 ·have:=zv9 h v id vv vc hwf (by rw[hb];exact hst);rw[hcp]at this;exact this
 ·unfold Ph.setCur;split<;>rfl
theorem zxm{W:World}{n0:Nat}{P:Ph}{S:ST}(h:SR W n0 P S)(v:VD)(hfv:FldV v)(x:Int)(hx:I64 x)(hlim:S.cur.vs.length+1<=4398046511000):Calls prog 181 #[.pointer (some ⟨P.sb,0,none⟩),.agg #[.string v.s,.int .u8 v.k,.int .i64 v.n],.int .i64 x] W fun e W'=>e=.returned (.int .i64 (zlV S v x).1)/\∃P',SStp n0 P S W P' (zlV S v x).2 W'/\P'.sb=P.sb:=by
 have HS:=zh h;obtain⟨kd,hw⟩:=h.curWF;obtain⟨A,c,hcv,hc,hrow⟩:=h.curVs;obtain⟨h3,h4,h5⟩:=h.cur3;rw[hcv]at h3;have HLOC:=zh (show S.cur.loc<=4398046511000 by have:=hw.loc;have:=hw.lim;omega);obtain⟨R,hR⟩:=zX (zlV S v x);rw[hR];have HRR:=zh hR;have dh:=zh (fun W' (hb:Below W.heap.size W W')=>zlf (h.later hb));have aZ:=zh (fun W' (hb:Below W.heap.size W W')=>zn0 S.cur.vs A c v.s (curP P S) W' (zb hb h3) (hrow.later hb) hw.lim);obtain⟨vm,vk,vn⟩:=v;dsimp only at aZ ⊢;clear h hw hcv hrow h3 h4 h5 hR;by_cases k13:vk=1\/vk=3
 ·by_cases hn:vn=0
  ·subst hn;obtain⟨r,hr⟩:=zX (S.cur.at vm);have hr':zmm S.cur.vs vm S.cur.vs.length=r:=hr;rw[hr']at aZ;have HR2:=zh (show R=if r.isSome=true then(22,S)else(0,(S.newCell (if vk=1 then [x]else [])).setCur (S.cur.push ⟨vm,vk,0⟩ S.nc)) by
    rw[<-HRR.out,zlV,if_neg (by simp[k13]),hr])
   obtain⟨B,O,hcp⟩:∃B O,curP P S=⟨B,O,none⟩:=⟨_,_,(zlx HS.out).1⟩
   rw[hcp]at aZ dh;have qI:=zh hcp;clear HRR hr hr' hcp;rcases r with _|i
   ·rcases k13 with rfl|rfl
    ·simp only[idxZ]at aZ;go_enter func181,ntmps181;go_wp2_with fail;refine(dh.out _ (zka zr _)).mono ?_;rintro e w1 ⟨rfl,rfl⟩;go_wp2_with fail;refine(aZ.out _ (zka zr _)).mono ?_;rintro e w2 ⟨rfl,au⟩;have hvb:=zkc (heap_alloc_new W (.cells #[.string vm,.int .u8 1,.int .i64 0] 57)) au;have hva:=fun o=>zkf hvb o;have u0:∀o,(w2.alloc o).cell? ⟨W.heap.size,0,none⟩=some (.string vm):=fun o=>zc (hva o) rfl;have u1:∀o,(w2.alloc o).cell? ⟨W.heap.size,1,none⟩=some (.int .u8 1):=fun o=>zc (hva o) rfl;have u2:∀o,(w2.alloc o).cell? ⟨W.heap.size,2,none⟩=some (.int .i64 0):=fun o=>zc (hva o) rfl;have bN:=fun o o'=>zkf (hva o) o';have t0:∀o o',((w2.alloc o).alloc o').cell? ⟨W.heap.size,0,none⟩=some (.string vm):=fun o o'=>zc (bN o o') rfl;have t1:∀o o',((w2.alloc o).alloc o').cell? ⟨W.heap.size,1,none⟩=some (.int .u8 1):=fun o o'=>zc (bN o o') rfl
     have t2:∀o o',((w2.alloc o).alloc o').cell? ⟨W.heap.size,2,none⟩=some (.int .i64 0):=fun o o'=>zc (bN o o') rfl;have s1:=zrd HS.out (zkb (zka zr _) au) x hx;have hwf:=zvf HS.out.wf ⟨vm,1,0⟩ hfv [x] (by simp) (by simpa using hx) (by simp) hlim;have HX:=zh (show R=(0,(S.newCell [x]).setCur (S.cur.push ⟨vm,1,0⟩ S.nc)) by rw[HR2.out];simp);have HAD:=zh (zqP s1.sr ⟨vm,1,0⟩ S.nc w2.heap.size B O (by simp[Ph.newCell]) qI.out (by show S.cur.vs.length<=_;omega) hwf);have eF:=zh s1;dsimp only[zmX]at HAD;have hl1:=HLOC.out;clear hva bN s1 hwf HR2;go_wp2_with fail;refine HAD.out.mono ?_;rintro e w4 ⟨⟨u,rfl⟩,y0,y1,P2,hs2,hp2⟩;have HS2:=zh hs2;have lM:=zh hp2;obtain⟨lc,hlc⟩:=zX (S.cur.loc);rw[hlc]at y0 HS2 hl1;clear hs2 hp2 hlc;go_wp2_with fail;go_ret;refine⟨by rw[HX.out];rfl,P2,?_,lM.out⟩;rw[HX.out];exact eF.out.trans HS2.out
    ·simp only[idxZ]at aZ;go_enter func181,ntmps181;go_wp2_with fail;refine(dh.out _ (zka zr _)).mono ?_;rintro e w1 ⟨rfl,rfl⟩;go_wp2_with fail;refine(aZ.out _ (zka zr _)).mono ?_;rintro e w2 ⟨rfl,au⟩;have hvb:=zkc (heap_alloc_new W (.cells #[.string vm,.int .u8 3,.int .i64 0] 57)) au;have hva:=fun o=>zkf hvb o;have u0:∀o,(w2.alloc o).cell? ⟨W.heap.size,0,none⟩=some (.string vm):=fun o=>zc (hva o) rfl;have u1:∀o,(w2.alloc o).cell? ⟨W.heap.size,1,none⟩=some (.int .u8 3):=fun o=>zc (hva o) rfl;have u2:∀o,(w2.alloc o).cell? ⟨W.heap.size,2,none⟩=some (.int .i64 0):=fun o=>zc (hva o) rfl;have bN:=fun o o'=>zkf (hva o) o';have t0:∀o o',((w2.alloc o).alloc o').cell? ⟨W.heap.size,0,none⟩=some (.string vm):=fun o o'=>zc (bN o o') rfl;have t1:∀o o',((w2.alloc o).alloc o').cell? ⟨W.heap.size,1,none⟩=some (.int .u8 3):=fun o o'=>zc (bN o o') rfl
     have t2:∀o o',((w2.alloc o).alloc o').cell? ⟨W.heap.size,2,none⟩=some (.int .i64 0):=fun o o'=>zc (bN o o') rfl;have s1:=zpH HS.out (zkb (zka zr _) au);have hwf:=zvf HS.out.wf ⟨vm,3,0⟩ hfv [] (by simp) (by simp) (by simp) hlim;have HX:=zh (show R=(0,(S.newCell []).setCur (S.cur.push ⟨vm,3,0⟩ S.nc)) by rw[HR2.out];simp);have HAD:=zh (zqP s1.sr ⟨vm,3,0⟩ S.nc w2.heap.size B O (by simp[Ph.newCell]) qI.out (by show S.cur.vs.length<=_;omega) hwf);have eF:=zh s1;dsimp only[zmX]at HAD;have hl1:=HLOC.out;clear hva bN s1 hwf HR2;go_wp2_with fail;refine HAD.out.mono ?_;rintro e w4 ⟨⟨u,rfl⟩,y0,y1,P2,hs2,hp2⟩;have HS2:=zh hs2;have lM:=zh hp2;obtain⟨lc,hlc⟩:=zX (S.cur.loc);rw[hlc]at y0 HS2 hl1;clear hs2 hp2 hlc;go_wp2_with fail;go_ret;refine⟨by rw[HX.out];rfl,P2,?_,lM.out⟩;rw[HX.out];exact eF.out.trans HS2.out
   ·have HX:=zh (show R=(22,S) by rw[HR2.out];rfl);simp only[idxZ]at aZ;have hi0:¬ (i:Int)<0:=by omega
    clear HR2;rcases k13 with rfl|rfl
    all_goals
     go_enter func181,ntmps181;go_wp2_with fail;refine(dh.out _ (zka zr _)).mono ?_;rintro e w1 ⟨rfl,rfl⟩;go_wp2_with fail;refine(aZ.out _ (zka zr _)).mono ?_;rintro e w2 ⟨rfl,au⟩;have q2:=zkb (zka zr _) au;clear au;go_wp2_with fail;go_ret;exact⟨by rw[HX.out];rfl,P,by rw[HX.out];exact SStp.refl HS.out q2,rfl⟩
  ·have HX:=zh (show R=(7,S) by rw[<-HRR.out,zlV,if_pos (by simp[hn])]);have e1:(vn==0)=false:=by simpa using hn
   have e2:(vn != 0)=true:=by simpa using hn
   clear hn HRR;rcases k13 with rfl|rfl
   all_goals
    go_enter func181,ntmps181;go_wp2_with fail;go_ret;exact⟨by rw[HX.out];rfl,P,by rw[HX.out];exact SStp.refl HS.out (zka zr _),rfl⟩
 ·have HX:=zh (show R=(7,S) by rw[<-HRR.out,zlV,if_pos (by simp[k13])]);have x1:(vk==1)=false:=by simp;omega
  have x3:(vk==3)=false:=by simp;omega
  have y1:(vk != 1)=true:=by simp;omega
  have y3:(vk != 3)=true:=by simp;omega
  clear k13 HRR;go_enter func181,ntmps181;go_wp2_with fail;go_ret;exact⟨by rw[HX.out];rfl,P,by rw[HX.out];exact SStp.refl HS.out (zka zr _),rfl⟩
end
end Go.Proofs.YtembgnhbpmfhpaaGreat
