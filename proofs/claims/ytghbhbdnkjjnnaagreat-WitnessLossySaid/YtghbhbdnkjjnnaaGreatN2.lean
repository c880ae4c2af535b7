/-
  Texts of the proof, put together without their remarks: Ast2, Ev, Sq, Stk, Ss.
-/
import Derived.Test.YtghbhbdnkjjnnaaGreatN1
import Derived.Deep.DeepCutAuto
set_option linter.unusedSimpArgs false
set_option linter.unusedVariables false
set_option maxHeartbeats 8000000
set_option maxRecDepth 100000
namespace Go.Proofs.YtghbhbdnkjjnnaaGreat
open Go.RowKit
theorem znV (ts:List T) (Ad:Option Addr) (c:Nat) (w:World) (hrow:zl1 w Any Ad ts) (hlk:ts.length<=LK) (f:FuncId) (fn:Func) (hfn:IsFn Tryz.prog f fn) (p:T->Bool)
  (hc:∀ i (hi:i<ts.length) v1 w1,NV w1 Any ts[i] v1->Calls Tryz.prog f #[v1] w1 fun e w'=>e=.returned (.bool (p ts[i]))/\Below w1.heap.size w1 w') :
  Calls Tryz.prog 56 #[.slice Ad ts.length c,.func (.func f) #[] #[]] w fun e w'=>e=.returned (.bool (zky (fun _=>p) 0 ts))/\Below w.heap.size w w':=by
 have az:=zkK hlk;have HC:=zh hc;have hcall:=zkC hfn;clear hc hfn hlk;go_enter Tryz.func56,Tryz.ntmps56;go_wp2
 go_loopw [4,9] (fun r i wr=>∃ j:Nat,j<=ts.length/\i=.int .i64 j/\r=.bool false/\Hid (∀ q (hq:q<ts.length),q<j->p ts[q]=true)/\Below w.heap.size w wr) (fun _ i _=>ts.length-(intOf i).toNat)
 case atStart=>exact⟨0,Nat.zero_le _,rfl,rfl,fun q hq h=>by omega,Below.refl _ _⟩
 case round =>
  obtain⟨j,hj,rfl,rfl,HP,hb⟩:=hrel;by_cases hlt:j<ts.length
  ·obtain⟨a,t',A',c',rfl,_,Ht,c0,c1,c2,c3,hn⟩:=(hrow.later hb).get hlt;have h0:=HC.out j hlt;rw[Ht.out] at h0;have H0:=zh h0;clear h0 hrow;go_wp2_with fail;refine(H0.out _ _ (hn.later ((Below.refl _ _).alloc (Nat.le_refl _) _))).mono ?_;rintro e w1 ⟨rfl,hb1⟩;have hb2:Below w.heap.size w w1:=(hb.alloc hb.size _).trans (hb1.mono (by have:=hb.size;simp;omega))
   cases hp:p t'
   ·go_wp2_with fail;go_ret;have hx:zky (fun _=>p) 0 ts=false:=by
     have:=znL (m:=ts.length) (p:=fun _=>p) hlt (by rw[Ht.out];exact hp);simpa[zkG] using this
    exact⟨by rw[hx];rfl,hb2⟩
   ·have kU:=zh hp;clear hp;go_wp2_with fail
    go_roundw
    case rel =>
     refine⟨j+1,by omega,by go_num,rfl,?_,hb2⟩;intro q hq hqj;by_cases e:q=j
     ·subst e;rw[Ht.out];exact kU.out
     ·exact HP.out q hq (by omega)
    case measure=>simp[intOf];omega
  ·have hlt':ts.length<=j:=by omega
   go_wp2_with fail;go_ret;have hx:zky (fun _=>p) 0 ts=true:=by
    rw[zkJ];exact fun q hq=>HP.out q hq (by omega)
   exact⟨by rw[hx];rfl,hb⟩
theorem zl7 {w:World} {cs:Array Value} {ty:TypeId} {i:Nat} {u:Value} (h:cs[i]?=some u):(w.alloc (.cells cs ty)).cell? ⟨w.heap.size,i,none⟩=some u:=by
 have hh:(w.alloc (.cells cs ty)).heap[w.heap.size]?=some (.cells cs ty (0,0)):=heap_alloc_new w _;simp only[World.cell?,hh];simpa using h
theorem zkV:IsFn Tryz.prog 54 Tryz.f54:=⟨Tryz.func54,by kernel_rfl,by kernel_rfl⟩
theorem zkY:IsFn Tryz.prog 53 Tryz.f53:=⟨Tryz.func53,by kernel_rfl,by kernel_rfl⟩
theorem zsw:IsFn Tryz.prog 57 Tryz.f57:=⟨Tryz.func57,by kernel_rfl,by kernel_rfl⟩
theorem zuh:IsFn Tryz.prog 25 Tryz.f25:=⟨Tryz.func25,by kernel_rfl,by kernel_rfl⟩
theorem zlY:IsFn Tryz.prog 58 Tryz.f58:=⟨Tryz.func58,by kernel_rfl,by kernel_rfl⟩
theorem zva (n:Int) (s:ByteArray) (ks:List T) (v:Value) (w:World) (hv:NV w Any (.nd 1 n s ks) v) :
  Calls Tryz.prog 54 #[v] w fun e w'=>e=.returned (.bool (isE (.nd 1 n s ks)))/\Below w.heap.size w w':=by
 obtain⟨Ad,c,rfl,hf,hlk,hlc,hrow⟩:=hv.open_;simp only[T.k_nd,T.n_nd,T.s_nd,T.ks_nd] at *
 have az:=zkK hlk;clear hf hv hlk hrow hlc;have HX:=zh (show isE (.nd 1 n s ks)=(decide (0<=n)&&s.toList.isEmpty&&decide (ks.length=0)) by simp[isE]);have hz:((ks.length:Int)==0)=decide (ks.length=0):=by rw[Bool.eq_iff_iff];simp
 generalize ks.length=l at *
 have HZ:=zh hz;clear hz;by_cases hn:0<=n
 all_goals
  by_cases hs:s.toList.isEmpty=true
  all_goals
   go_enter Tryz.func54,Tryz.ntmps54;go_wp2
   all_goals (go_ret;exact⟨by rw[HX.out,<-HZ.out];simp[*]<;>omega,(Below.refl _ _).alloc (Nat.le_refl _) _⟩)
theorem zu9 (n:Int) (s:ByteArray) (ks:List T) (v:Value) (w:World) (hv:NV w Any (.nd 2 n s ks) v) :
  Calls Tryz.prog 54 #[v] w fun e w'=>e=.returned (.bool (isE (.nd 2 n s ks)))/\Below w.heap.size w w':=by
 obtain⟨Ad,c,rfl,hf,hlk,hlc,hrow⟩:=hv.open_;simp only[T.k_nd,T.n_nd,T.s_nd,T.ks_nd] at *
 have az:=zkK hlk;clear hf hv hlk hrow hlc;have HX:=zh (show isE (.nd 2 n s ks)=(zkz n s&&decide (ks.length=0)) by simp[isE]);have hz:((ks.length:Int)==0)=decide (ks.length=0):=by rw[Bool.eq_iff_iff];simp
 generalize ks.length=l at *
 have HZ:=zh hz;clear hz;by_cases hnb:zkz n s=true
 ·go_enter Tryz.func54,Tryz.ntmps54;go_wp2_with fail;refine(zku _ _ _ _ _ _ _).mono ?_;rintro e w1 ⟨rfl,hb1⟩;obtain⟨hc1,hf1⟩:=zlo hb1;have hbb:Below w.heap.size w w1:=((Below.refl _ _).alloc (Nat.le_refl _) _).trans (hb1.mono (by simp));go_wp2_with fail;go_ret;exact⟨by rw[HX.out,<-HZ.out];simp[*],hbb⟩
 ·have hnb':zkz n s=false:=by simpa using hnb
  clear hnb;go_enter Tryz.func54,Tryz.ntmps54;go_wp2_with fail;refine(zku _ _ _ _ _ _ _).mono ?_;rintro e w1 ⟨rfl,hb1⟩;have hbb:Below w.heap.size w w1:=((Below.refl _ _).alloc (Nat.le_refl _) _).trans (hb1.mono (by simp));go_wp2_with fail;go_ret;exact⟨by rw[HX.out];simp[*],hbb⟩
theorem zu7 (n:Int) (s:ByteArray) (ks:List T) (v:Value) (w:World) (hv:NV w Any (.nd 4 n s ks) v) :
  Calls Tryz.prog 54 #[v] w fun e w'=>e=.returned (.bool (isE (.nd 4 n s ks)))/\Below w.heap.size w w':=by
 obtain⟨Ad,c,rfl,hf,hlk,hlc,hrow⟩:=hv.open_;simp only[T.k_nd,T.n_nd,T.s_nd,T.ks_nd] at *
 have az:=zkK hlk;clear hf hv hlk hrow hlc;have HX:=zh (show isE (.nd 4 n s ks)=(zkz n s&&decide (ks.length=0)) by simp[isE]);have hz:((ks.length:Int)==0)=decide (ks.length=0):=by rw[Bool.eq_iff_iff];simp
 generalize ks.length=l at *
 have HZ:=zh hz;clear hz;by_cases hnb:zkz n s=true
 ·go_enter Tryz.func54,Tryz.ntmps54;go_wp2_with fail;refine(zku _ _ _ _ _ _ _).mono ?_;rintro e w1 ⟨rfl,hb1⟩;obtain⟨hc1,hf1⟩:=zlo hb1;have hbb:Below w.heap.size w w1:=((Below.refl _ _).alloc (Nat.le_refl _) _).trans (hb1.mono (by simp));go_wp2_with fail;go_ret;exact⟨by rw[HX.out,<-HZ.out];simp[*],hbb⟩
 ·have hnb':zkz n s=false:=by simpa using hnb
  clear hnb;go_enter Tryz.func54,Tryz.ntmps54;go_wp2_with fail;refine(zku _ _ _ _ _ _ _).mono ?_;rintro e w1 ⟨rfl,hb1⟩;have hbb:Below w.heap.size w w1:=((Below.refl _ _).alloc (Nat.le_refl _) _).trans (hb1.mono (by simp));go_wp2_with fail;go_ret;exact⟨by rw[HX.out];simp[*],hbb⟩
theorem zu6 (n:Int) (s:ByteArray) (ks:List T) (v:Value) (w:World) (hv:NV w Any (.nd 5 n s ks) v) :
  Calls Tryz.prog 54 #[v] w fun e w'=>e=.returned (.bool (isE (.nd 5 n s ks)))/\Below w.heap.size w w':=by
 obtain⟨Ad,c,rfl,hf,hlk,hlc,hrow⟩:=hv.open_;simp only[T.k_nd,T.n_nd,T.s_nd,T.ks_nd] at *
 have az:=zkK hlk;clear hf hv hlk hrow hlc;have HX:=zh (show isE (.nd 5 n s ks)=(zkz n s&&decide (ks.length=0)) by simp[isE]);have hz:((ks.length:Int)==0)=decide (ks.length=0):=by rw[Bool.eq_iff_iff];simp
 generalize ks.length=l at *
 have HZ:=zh hz;clear hz;by_cases hnb:zkz n s=true
 ·go_enter Tryz.func54,Tryz.ntmps54;go_wp2_with fail;refine(zku _ _ _ _ _ _ _).mono ?_;rintro e w1 ⟨rfl,hb1⟩;obtain⟨hc1,hf1⟩:=zlo hb1;have hbb:Below w.heap.size w w1:=((Below.refl _ _).alloc (Nat.le_refl _) _).trans (hb1.mono (by simp));go_wp2_with fail;go_ret;exact⟨by rw[HX.out,<-HZ.out];simp[*],hbb⟩
 ·have hnb':zkz n s=false:=by simpa using hnb
  clear hnb;go_enter Tryz.func54,Tryz.ntmps54;go_wp2_with fail;refine(zku _ _ _ _ _ _ _).mono ?_;rintro e w1 ⟨rfl,hb1⟩;have hbb:Below w.heap.size w w1:=((Below.refl _ _).alloc (Nat.le_refl _) _).trans (hb1.mono (by simp));go_wp2_with fail;go_ret;exact⟨by rw[HX.out];simp[*],hbb⟩
theorem zu8 (n:Int) (s:ByteArray) (ks:List T) (v:Value) (w:World) (hv:NV w Any (.nd 3 n s ks) v)
  (ih:∀ i (hi:i<ks.length) v1 w1,NV w1 Any ks[i] v1->Calls Tryz.prog 54 #[v1] w1 fun e w'=>e=.returned (.bool (isE ks[i]))/\Below w1.heap.size w1 w') :
  Calls Tryz.prog 54 #[v] w fun e w'=>e=.returned (.bool (isE (.nd 3 n s ks)))/\Below w.heap.size w w':=by
 have HX:=zh (show isE (.nd 3 n s ks)=(zkz n s&&zkG 1 (fun _=>isE) ks) by simp[isE,zkG,zm7 0]);have IH:=zh ih;have HV:=zh hv;obtain⟨Ad,c,rfl,hf,hlk,hlc,hrow⟩:=hv.open_;simp only[T.k_nd,T.n_nd,T.s_nd,T.ks_nd] at *
 have az:=zkK hlk;clear hf hv hlk hrow hlc ih;by_cases hnb:zkz n s=true
 ·go_enter Tryz.func54,Tryz.ntmps54;go_wp2_with fail;refine(zku _ _ _ _ _ _ _).mono ?_;rintro e w1 ⟨rfl,hb1⟩;obtain⟨hc1,hf1⟩:=zlo hb1;have hbb:Below w.heap.size w w1:=((Below.refl _ _).alloc (Nat.le_refl _) _).trans (hb1.mono (by simp));go_wp2_with fail;refine(zkO (.nd 3 n s ks) _ _ (HV.out.later (hbb.alloc hbb.size _)) _ 1 (fun _=>54) (fun _=>Tryz.f54) (fun _=>isE) (by decide) (by simp) (fun i hi=>zl7 (by rcases i with _|_|i<;>first|omega|rfl)) (fun _ _=>zkV) (fun _=>IH.out)).mono ?_;rintro e w2 ⟨rfl,hb2⟩;have hbc:Below w.heap.size w w2:=(hbb.alloc hbb.size _).trans (hb2.mono (by have:=hbb.size;simp;omega));go_wp2_with fail;go_ret;exact⟨by rw[HX.out];simp[*],hbc⟩
 ·have hnb':zkz n s=false:=by simpa using hnb
  clear hnb;go_enter Tryz.func54,Tryz.ntmps54;go_wp2_with fail;refine(zku _ _ _ _ _ _ _).mono ?_;rintro e w1 ⟨rfl,hb1⟩;have hbb:Below w.heap.size w w1:=((Below.refl _ _).alloc (Nat.le_refl _) _).trans (hb1.mono (by simp));go_wp2_with fail;go_ret;exact⟨by rw[HX.out];simp[*],hbb⟩
theorem zu5 (n:Int) (s:ByteArray) (ks:List T) (v:Value) (w:World) (hv:NV w Any (.nd 6 n s ks) v)
  (ih:∀ i (hi:i<ks.length) v1 w1,NV w1 Any ks[i] v1->Calls Tryz.prog 54 #[v1] w1 fun e w'=>e=.returned (.bool (isE ks[i]))/\Below w1.heap.size w1 w') :
  Calls Tryz.prog 54 #[v] w fun e w'=>e=.returned (.bool (isE (.nd 6 n s ks)))/\Below w.heap.size w w':=by
 have HX:=zh (show isE (.nd 6 n s ks)=(zkn n s&&zkG 1 (fun _=>isE) ks) by simp[isE,zkG,zm7 0]);have IH:=zh ih;have HV:=zh hv;obtain⟨Ad,c,rfl,hf,hlk,hlc,hrow⟩:=hv.open_;simp only[T.k_nd,T.n_nd,T.s_nd,T.ks_nd] at *
 have az:=zkK hlk;clear hf hv hlk hrow hlc ih;by_cases hnb:zkn n s=true
 ·go_enter Tryz.func54,Tryz.ntmps54;go_wp2_with fail;refine(zkm _ _ _ _ _ _ _).mono ?_;rintro e w1 ⟨rfl,hb1⟩;obtain⟨hc1,hf1⟩:=zlo hb1;have hbb:Below w.heap.size w w1:=((Below.refl _ _).alloc (Nat.le_refl _) _).trans (hb1.mono (by simp));go_wp2_with fail;refine(zkO (.nd 6 n s ks) _ _ (HV.out.later (hbb.alloc hbb.size _)) _ 1 (fun _=>54) (fun _=>Tryz.f54) (fun _=>isE) (by decide) (by simp) (fun i hi=>zl7 (by rcases i with _|_|i<;>first|omega|rfl)) (fun _ _=>zkV) (fun _=>IH.out)).mono ?_;rintro e w2 ⟨rfl,hb2⟩;have hbc:Below w.heap.size w w2:=(hbb.alloc hbb.size _).trans (hb2.mono (by have:=hbb.size;simp;omega));go_wp2_with fail;go_ret;exact⟨by rw[HX.out];simp[*],hbc⟩
 ·have hnb':zkn n s=false:=by simpa using hnb
  clear hnb;go_enter Tryz.func54,Tryz.ntmps54;go_wp2_with fail;refine(zkm _ _ _ _ _ _ _).mono ?_;rintro e w1 ⟨rfl,hb1⟩;have hbb:Below w.heap.size w w1:=((Below.refl _ _).alloc (Nat.le_refl _) _).trans (hb1.mono (by simp));go_wp2_with fail;go_ret;exact⟨by rw[HX.out];simp[*],hbb⟩
theorem zu4 (n:Int) (s:ByteArray) (ks:List T) (v:Value) (w:World) (hv:NV w Any (.nd 7 n s ks) v)
  (ih:∀ i (hi:i<ks.length) v1 w1,NV w1 Any ks[i] v1->Calls Tryz.prog 54 #[v1] w1 fun e w'=>e=.returned (.bool (isE ks[i]))/\Below w1.heap.size w1 w') :
  Calls Tryz.prog 54 #[v] w fun e w'=>e=.returned (.bool (isE (.nd 7 n s ks)))/\Below w.heap.size w w':=by
 have HX:=zh (show isE (.nd 7 n s ks)=(zkn n s&&zkG 1 (fun _=>isE) ks) by simp[isE,zkG,zm7 0]);have IH:=zh ih;have HV:=zh hv;obtain⟨Ad,c,rfl,hf,hlk,hlc,hrow⟩:=hv.open_;simp only[T.k_nd,T.n_nd,T.s_nd,T.ks_nd] at *
 have az:=zkK hlk;clear hf hv hlk hrow hlc ih;by_cases hnb:zkn n s=true
 ·go_enter Tryz.func54,Tryz.ntmps54;go_wp2_with fail;refine(zkm _ _ _ _ _ _ _).mono ?_;rintro e w1 ⟨rfl,hb1⟩;obtain⟨hc1,hf1⟩:=zlo hb1;have hbb:Below w.heap.size w w1:=((Below.refl _ _).alloc (Nat.le_refl _) _).trans (hb1.mono (by simp));go_wp2_with fail;refine(zkO (.nd 7 n s ks) _ _ (HV.out.later (hbb.alloc hbb.size _)) _ 1 (fun _=>54) (fun _=>Tryz.f54) (fun _=>isE) (by decide) (by simp) (fun i hi=>zl7 (by rcases i with _|_|i<;>first|omega|rfl)) (fun _ _=>zkV) (fun _=>IH.out)).mono ?_;rintro e w2 ⟨rfl,hb2⟩;have hbc:Below w.heap.size w w2:=(hbb.alloc hbb.size _).trans (hb2.mono (by have:=hbb.size;simp;omega));go_wp2_with fail;go_ret;exact⟨by rw[HX.out];simp[*],hbc⟩
 ·have hnb':zkn n s=false:=by simpa using hnb
  clear hnb;go_enter Tryz.func54,Tryz.ntmps54;go_wp2_with fail;refine(zkm _ _ _ _ _ _ _).mono ?_;rintro e w1 ⟨rfl,hb1⟩;have hbb:Below w.heap.size w w1:=((Below.refl _ _).alloc (Nat.le_refl _) _).trans (hb1.mono (by simp));go_wp2_with fail;go_ret;exact⟨by rw[HX.out];simp[*],hbb⟩
theorem zrp (k n:Int) (s:ByteArray) (ks:List T) (v:Value) (w:World) (h8:8<=k) (h23:k<=23) (hv:NV w Any (.nd k n s ks) v)
  (ih:∀ i (hi:i<ks.length) v1 w1,NV w1 Any ks[i] v1->Calls Tryz.prog 54 #[v1] w1 fun e w'=>e=.returned (.bool (isE ks[i]))/\Below w1.heap.size w1 w') :
  Calls Tryz.prog 54 #[v] w fun e w'=>e=.returned (.bool (isE (.nd k n s ks)))/\Below w.heap.size w w':=by
 have HX:=zh (show isE (.nd k n s ks)=(zkn n s&&zkG 2 (fun _=>isE) ks) by rw[isE,if_neg (by omega),if_neg (by omega),if_neg (by omega),if_neg (by omega),if_pos ⟨h8,h23⟩,zkG,zm7 0]);have IH:=zh ih;have HV:=zh hv;obtain⟨Ad,c,rfl,hf,hlk,hlc,hrow⟩:=hv.open_;simp only[T.k_nd,T.n_nd,T.s_nd,T.ks_nd] at *
 have az:=zkK hlk;clear hf hv hlk hrow hlc ih;by_cases hnb:zkn n s=true
 ·go_enter Tryz.func54,Tryz.ntmps54;go_wp2_with fail;refine(zkm _ _ _ _ _ _ _).mono ?_;rintro e w1 ⟨rfl,hb1⟩;obtain⟨hc1,hf1⟩:=zlo hb1;have hbb:Below w.heap.size w w1:=((Below.refl _ _).alloc (Nat.le_refl _) _).trans (hb1.mono (by simp));go_wp2_with fail;refine(zkO (.nd k n s ks) _ _ (HV.out.later (hbb.alloc hbb.size _)) _ 2 (fun _=>54) (fun _=>Tryz.f54) (fun _=>isE) (by decide) (by simp) (fun i hi=>zl7 (by rcases i with _|_|i<;>first|omega|rfl)) (fun _ _=>zkV) (fun _=>IH.out)).mono ?_;rintro e w2 ⟨rfl,hb2⟩;have hbc:Below w.heap.size w w2:=(hbb.alloc hbb.size _).trans (hb2.mono (by have:=hbb.size;simp;omega));go_wp2_with fail;go_ret;exact⟨by rw[HX.out];simp[*],hbc⟩
 ·have hnb':zkn n s=false:=by simpa using hnb
  clear hnb;go_enter Tryz.func54,Tryz.ntmps54;go_wp2_with fail;refine(zkm _ _ _ _ _ _ _).mono ?_;rintro e w1 ⟨rfl,hb1⟩;have hbb:Below w.heap.size w w1:=((Below.refl _ _).alloc (Nat.le_refl _) _).trans (hb1.mono (by simp));go_wp2_with fail;go_ret;exact⟨by rw[HX.out];simp[*],hbb⟩
theorem zro (k n:Int) (s:ByteArray) (ks:List T) (v:Value) (w:World) (n1:(k==1)=false) (n2:(k==2)=false) (n3:(k==3)=false) (n4:(k==4)=false) (n5:(k==5)=false) (n6:(k==6)=false) (n7:(k==7)=false) (h8:k<8\/23<k) (hv:NV w Any (.nd k n s ks) v) :
  Calls Tryz.prog 54 #[v] w fun e w'=>e=.returned (.bool (isE (.nd k n s ks)))/\Below w.heap.size w w':=by
 obtain⟨Ad,c,rfl,hf,hlk,hlc,hrow⟩:=hv.open_;simp only[T.k_nd,T.n_nd,T.s_nd,T.ks_nd] at *
 have az:=zkK hlk;have HX:=zh (show isE (.nd k n s ks)=false by
  simp only[beq_eq_false_iff_ne,ne_eq] at n1 n2 n3 n4 n5 n6 n7;rw[isE,if_neg (by omega),if_neg (by omega),if_neg (by omega),if_neg (by omega),if_neg (by omega)])
 clear hf hv hlk hrow hlc;rcases h8 with h8|h8
 all_goals
  go_enter Tryz.func54,Tryz.ntmps54;go_wp2;go_ret;exact⟨by rw[HX.out];rfl,(Below.refl _ _).alloc (Nat.le_refl _) _⟩
theorem zkL (t:T):∀ (v:Value) (w:World),NV w Any t v ->
  Calls Tryz.prog 54 #[v] w fun e w'=>e=.returned (.bool (isE t))/\Below w.heap.size w w':=by
 induction t using T.ind with
 | _ k n s ks ih =>
 intro v w hv;have ih':∀ i (hi:i<ks.length) v1 w1,NV w1 Any ks[i] v1->Calls Tryz.prog 54 #[v1] w1 fun e w'=>e=.returned (.bool (isE ks[i]))/\Below w1.heap.size w1 w':=fun i hi=>ih _ (List.getElem_mem hi);by_cases h1:k=1
 ·subst h1;exact zva n s ks v w hv
 by_cases h2:k=2
 ·subst h2;exact zu9 n s ks v w hv
 by_cases h4:k=4
 ·subst h4;exact zu7 n s ks v w hv
 by_cases h5:k=5
 ·subst h5;exact zu6 n s ks v w hv
 by_cases h3:k=3
 ·subst h3;exact zu8 n s ks v w hv ih'
 by_cases h6:k=6
 ·subst h6;exact zu5 n s ks v w hv ih'
 by_cases h7:k=7
 ·subst h7;exact zu4 n s ks v w hv ih'
 by_cases h8:8<=k/\k<=23
 ·exact zrp k n s ks v w h8.1 h8.2 hv ih'
 ·exact zro k n s ks v w (by simpa using h1) (by simpa using h2) (by simpa using h3) (by simpa using h4) (by simpa using h5) (by simpa using h6) (by simpa using h7) (by omega) hv
theorem zkM (t:T) (v:Value) (w:World) (hv:NV w Any t v) :
  Calls Tryz.prog 53 #[v] w fun e w'=>e=.returned (.bool (isP t))/\Below w.heap.size w w':=by
 have HV:=zh hv;obtain⟨Ad,c,rfl,hf,hlk,hlc,hrow⟩:=hv.open_;clear hf hlk hrow hv;have HX:=zh (show isP t=((t.k==2||t.k==3)&&isE t) from rfl);generalize t.k=k,t.n=n,t.s=s,t.ks.length=l at *
 by_cases h2:(k==2)=true
 ·go_enter Tryz.func53,Tryz.ntmps53;go_wp2_with (go_at_call 54;refine(zkL t _ _ (HV.out.later ((Below.refl _ _).alloc (Nat.le_refl _) _))).mono ?_;rintro e w1 ⟨rfl,hb1⟩)
  go_ret;exact⟨by rw[HX.out];simp[h2],((Below.refl _ _).alloc (Nat.le_refl _) _).trans (hb1.mono (by simp))⟩
 ·have h2':(k==2)=false:=by simpa using h2
  clear h2;by_cases h3:(k==3)=true
  ·go_enter Tryz.func53,Tryz.ntmps53;go_wp2_with (go_at_call 54;refine(zkL t _ _ (HV.out.later ((Below.refl _ _).alloc (Nat.le_refl _) _))).mono ?_;rintro e w1 ⟨rfl,hb1⟩)
   go_ret;exact⟨by rw[HX.out];simp[h3],((Below.refl _ _).alloc (Nat.le_refl _) _).trans (hb1.mono (by simp))⟩
  ·have h3':(k==3)=false:=by simpa using h3
   clear h3;go_enter Tryz.func53,Tryz.ntmps53;go_wp2_with fail;go_ret;exact⟨by rw[HX.out];simp[h2',h3'],((Below.refl _ _).alloc (Nat.le_refl _) _)⟩
theorem zpl (t:T) (v:Value) (w:World) (hv:NV w Any t v) :
  Calls Tryz.prog 57 #[v] w fun e w'=>e=.returned (.bool (isV t))/\Below w.heap.size w w':=by
 have HV:=zh hv;obtain⟨Ad,c,rfl,hf,hlk,hlc,hrow⟩:=hv.open_;clear hf hlk hrow hv;have HX:=zh (show isV t=(t.k==2&&isE t) from rfl);generalize t.k=k,t.n=n,t.s=s,t.ks.length=l at *
 by_cases h2:(k==2)=true
 ·go_enter Tryz.func57,Tryz.ntmps57;go_wp2_with (go_at_call 54;refine(zkL t _ _ (HV.out.later ((Below.refl _ _).alloc (Nat.le_refl _) _))).mono ?_;rintro e w1 ⟨rfl,hb1⟩)
  go_ret;exact⟨by rw[HX.out];simp[h2],((Below.refl _ _).alloc (Nat.le_refl _) _).trans (hb1.mono (by simp))⟩
 ·have h2':(k==2)=false:=by simpa using h2
  clear h2;go_enter Tryz.func57,Tryz.ntmps57;go_wp2_with fail;go_ret;exact⟨by rw[HX.out];simp[h2'],((Below.refl _ _).alloc (Nat.le_refl _) _)⟩
end Go.Proofs.YtghbhbdnkjjnnaaGreat
namespace Go.Proofs.YtghbhbdnkjjnnaaGreat
open Go Go.RowKit
def varE (look:ByteArray->Option (List Int)) (k:Int) (s:ByteArray) (i:Int×Int):Int×Int :=
 match look s with
 | none=>(0,6)
 | some l =>
  if k=2 then (if l.length=1 then (l.getD 0 0,0) else (0,7))
  else if k=3 then (if i.2≠0 then (0,i.2) else if 0<=i.1/\i.1<l.length then (l.getD i.1.toNat 0,0) else (0,12))
  else if k=4 then (if l.length=0 then (0,13) else (l.getD (l.length-1) 0,0))
  else (l.length,0)
def evK (look:ByteArray->Option (List Int)) (k n:Int) (s:ByteArray) (rs:List (Int×Int)):Int×Int :=
 if k=1 then (n,0)
 else if 2<=k/\k<=5 then varE look k s (rs.getD 0 (0,0))
 else if (rs.getD 0 (0,0)).2≠0 then (0,(rs.getD 0 (0,0)).2)
 else if rs.length=1 then unE k (rs.getD 0 (0,0)).1
 else if (rs.getD 1 (0,0)).2≠0 then (0,(rs.getD 1 (0,0)).2)
 else apE k (rs.getD 0 (0,0)).1 (rs.getD 1 (0,0)).1
mutual
def evE (look:ByteArray->Option (List Int)):T->Int×Int
 | .nd k n s ks=>evK look k n s (evEs look ks)
def evEs (look:ByteArray->Option (List Int)):List T->List (Int×Int)
 | []=>[]
 | t::ts=>evE look t::evEs look ts
end
theorem zoY (look:ByteArray->Option (List Int)):∀ ks:List T,evEs look ks=ks.map (evE look)
 | []=>by simp[evEs]
 | t::ts=>by simp[evEs,zoY look ts]
structure zqf (f:FuncId) (fn:Func) (rv:Value) (Rd:World->Prop) (look:ByteArray->Option (List Int)):Prop where
 isFn:IsFn Tryz.prog f fn
 later:∀ W W',Rd W->Below W.heap.size W W'->Rd W'
 fits:∀ s l,look s=some l->l.length<=100000
 call:∀ (s:ByteArray) (W:World),Rd W->Calls Tryz.prog f #[rv,.string s] W fun e W'=>Below W.heap.size W W' /\
  ((look s=none/\∃ A c,e=.returned (.tuple #[.slice A 0 c,.bool false]))\/∃ l A c,look s=some l/\e=.returned (.tuple #[.slice A l.length c,.bool true])/\RowI W' Any A l)
def NumE (r:Int×Int) (w:World) (e:Ending) (w':World):Prop:=e=.returned (.tuple #[.int .i64 r.1,.int .i64 r.2])/\Below w.heap.size w w'
def ValC (f:FuncId) (rv:Value) (Rd:World->Prop) (look:ByteArray->Option (List Int)) (t:T):Prop :=
 ∀ (v:Value) (W:World),NV W Any t v->Rd W->Calls Tryz.prog 67 #[v,.func (.func f) #[rv] #[]] W (NumE (evE look t) W)
theorem RowI.nd {w:World} {S:Nat->Prop} {A:Option Addr} {xs:List Int} (h:RowI w S A xs) {i:Nat} (hi:i<xs.length):∃ a:Addr,A=some a/\w.cell? (a.add i)=some (.int .i64 (xs.getD i 0)) :=
 let ⟨a,h1,_,h3,_⟩:=h i hi;⟨a,h1,by simpa[hi] using h3⟩
theorem znf {f:FuncId} {fn:Func} {rv:Value} {Rd:World->Prop} {look:ByteArray->Option (List Int)} (hL:zqf f fn rv Rd look) (k n:Int) (s:ByteArray) (ks:List T) (v:Value) (w:World) (hv:NV w Any (.nd k n s ks) v) (hR:Rd w)
  (hk:2<=k/\k<=5) (h3:k=3->∃ t,ks=[t]/\ValC f rv Rd look t) :
  Calls Tryz.prog 94 #[v,.func (.func f) #[rv] #[]] w (NumE (varE look k s ((ks.map (evE look)).getD 0 (0,0))) w):=by
 obtain⟨A,c,rfl,hf,hlk,hlc,hrow⟩:=hv.open_;simp only[T.k_nd,T.n_nd,T.s_nd,T.ks_nd] at *
 have hcall:=zkC hL.isFn;have HL:=zh hL;have ry:=zh hR;have ae:=zh hrow;have H3:=zh h3;obtain⟨L,sZ⟩:∃ L,ks.length=L:=⟨_,rfl⟩
 rw[sZ];obtain⟨R,hRR⟩:∃ R,varE look k s ((ks.map (evE look)).getD 0 (0,0))=R:=⟨_,rfl⟩
 rw[hRR];have HRR:=zh hRR;have fU:=zh sZ;clear hv hrow h3 hL hR hRR sZ hf hlk hlc;go_enter Tryz.func94,Tryz.ntmps94;go_wp2_with fail;refine(HL.out.call s _ (HL.out.later _ _ ry.out (zkc (Below.refl _ _) _))).mono ?_;rintro e w1 ⟨aa,h1⟩;have q1:=zka (zkc (Below.refl _ _) _) aa;have hN:=zkb (heap_alloc_new w (.cells #[.int .u8 k,.int .i64 n,.string s,.slice A L c] 24)) aa;obtain⟨a0,a1,a2,a3⟩:=box4 hN;have HN:=zh hN;clear aa hN;rcases h1 with⟨hno,A1,c1,rfl⟩|⟨l,A1,c1,hso,rfl,aS⟩
 ·have hRR:R=(0,6):=by rw[<-HRR.out,varE,hno]
  subst hRR;clear a0 a1 a2 a3;go_wp2_with fail;go_ret2;exact⟨rfl,q1⟩
 ·have hlen:=HL.out.fits s l hso;have bV:=zh aS;have lV:=zh hso;clear aS hso;by_cases k2:k=2
  ·subst k2;have hRR:R=if l.length=1 then (l.getD 0 0,0) else (0,7):=by rw[<-HRR.out,varE,lV.out];rfl
   by_cases hl1:l.length=1
   ·rw[if_pos hl1] at hRR;obtain⟨a,rfl,hc⟩:=bV.out.nd (i:=0) (by omega);simp only[Addr.add_zero'] at hc;obtain⟨x0,hx0⟩:∃ x0,l.getD 0 0=x0:=⟨_,rfl⟩
    rw[hx0] at hc hRR;have HX:=zh hRR;rw[hl1];clear hx0 hl1 bV HRR lV hRR;go_wp2_with fail;go_ret2;exact⟨by rw[HX.out];rfl,q1⟩
   ·rw[if_neg hl1] at hRR;have HX:=zh hRR;have e1:((l.length:Int)==1)=false:=by simp;omega
    have e2:((l.length:Int) != 1)=true:=by simp;omega
    clear hl1 hRR;go_wp2_with fail;go_ret2;exact⟨by rw[HX.out];rfl,q1⟩
  by_cases k4:k=4
  ·subst k4;have hRR:R=if l.length=0 then (0,13) else (l.getD (l.length-1) 0,0):=by rw[<-HRR.out,varE,lV.out];rfl
   by_cases hl1:l.length=0
   ·rw[if_pos hl1] at hRR;have HX:=zh hRR;rw[hl1];clear hl1 bV HRR lV hRR;go_wp2_with fail;go_ret2;exact⟨by rw[HX.out];rfl,q1⟩
   ·rw[if_neg hl1] at hRR;obtain⟨a,rfl,hc⟩:=bV.out.nd (i:=l.length-1) (by omega);obtain⟨x0,hx0⟩:∃ x0,l.getD (l.length-1) 0=x0:=⟨_,rfl⟩
    rw[hx0] at hc hRR;have HX:=zh hRR;obtain⟨m,hm⟩:∃ m,l.length=m+1:=⟨l.length-1,by omega⟩
    rw[hm] at hc hlen ⊢;simp only[Nat.add_sub_cancel] at hc;clear hx0 hl1 bV HRR lV hm hRR;go_wp2_with fail;go_ret2;exact⟨by rw[HX.out];rfl,q1⟩
  by_cases k5:k=5
  ·subst k5;have hRR:R=((l.length:Int),0):=by rw[<-HRR.out,varE,lV.out];rfl
   have HX:=zh hRR;clear bV HRR lV hRR;go_wp2_with fail;go_ret2;exact⟨by rw[HX.out];rfl,q1⟩
  ·obtain rfl:k=3:=by omega
   obtain⟨t,rfl,hval⟩:=H3.out rfl;obtain⟨a,t0,A2,c2,rfl,_,Ht,⟨y0,y1,y2,y3⟩,hn0⟩:=(ae.out.later q1).nd (i:=0) (by simp);simp only[Nat.zero_mul,Addr.add_zero'] at y0 y1 y2 y3;have ht0:t0=t:=Ht.out.symm;subst ht0;have hL1:L=1:=fU.out.symm;subst hL1;obtain⟨⟨iv,ie⟩,hiv⟩:∃ r,evE look t0=r:=⟨_,rfl⟩
   have hRR:R=if ie≠0 then (0,ie) else if 0<=iv/\iv<l.length then (l.getD iv.toNat 0,0) else (0,12):=by rw[<-HRR.out,varE,lV.out];simp[hiv]
   have pE:=zh (show ∀ (v:Value) (W:World),NV W Any t0 v->Rd W->Calls Tryz.prog 67 #[v,.func (.func f) #[rv] #[]] W (NumE (iv,ie) W) from hiv▸hval);have jl:=zh hn0;have HR2:=zh hRR;clear hval hn0 Ht hiv hRR;go_wp2_with fail;refine(pE.out _ _ jl.out (HL.out.later _ _ ry.out q1)).mono ?_;rintro e w2 ⟨rfl,aj⟩;have q2:=zka q1 aj;have fM:=zh (bV.out.later aj);have hRR:=HR2.out;clear aj a0 a1 a2 a3 y0 y1 y2 y3 HRR lV bV HR2;by_cases he:ie=0
   ·subst he;rw[if_neg (by simp)] at hRR;by_cases hb:0<=iv/\iv<l.length
    ·rw[if_pos hb] at hRR;obtain⟨j,hj⟩:∃ j:Nat,iv=j:=⟨iv.toNat,by omega⟩
     subst hj;have hjl:j<l.length:=by omega
     obtain⟨a',rfl,hc⟩:=fM.out.nd hjl;simp only[Int.toNat_natCast] at hRR;obtain⟨x0,hx0⟩:∃ x0,l.getD j 0=x0:=⟨_,rfl⟩
     rw[hx0] at hc hRR;have HX:=zh hRR;clear hx0 fM hRR hb;go_wp2_with fail;go_ret2;exact⟨by rw[HX.out];rfl,q2⟩
    ·rw[if_neg hb] at hRR;have HX:=zh hRR;clear hRR fM;by_cases h0:0<=iv
     ·have h1:(l.length:Int)<=iv:=by omega
      have h2:¬ iv<0:=by omega
      clear hb;go_wp2_with fail;go_ret2;exact⟨by rw[HX.out];rfl,q2⟩
     ·have h1:iv<0:=by omega
      clear hb;go_wp2_with fail;go_ret2;exact⟨by rw[HX.out];rfl,q2⟩
   ·rw[if_pos he] at hRR;have HX:=zh hRR;have e1:(ie==0)=false:=by simpa using he
    have e2:(ie != 0)=true:=by simpa using he
    clear hRR fM he;go_wp2_with fail;go_ret2;exact⟨by rw[HX.out];rfl,q2⟩
theorem zoo {k n:Int} {s:ByteArray} {ks:List T} (h:isE (.nd k n s ks)=true) :
  (k=1/\ks=[])\/((k=2\/k=4\/k=5)/\ks=[])\/(k=3/\∃ t,ks=[t]/\isE t=true)\/((k=6\/k=7)/\∃ t,ks=[t]/\isE t=true)\/((8<=k/\k<=23)/\∃ t u,ks=[t,u]/\isE t=true/\isE u=true):=by
 have l0:decide (ks.length=0)=true->ks=[]:=fun h=>by simpa using h
 have l1:(decide (ks.length=1)&&isEs ks)=true->∃ t,ks=[t]/\isE t=true:=fun h=>by
  match ks with
  | [t]=>simp[isEs] at h;exact⟨t,rfl,h⟩
  | []=>simp at h
  | a::b::l=>simp at h
 have l2:(decide (ks.length=2)&&isEs ks)=true->∃ t u,ks=[t,u]/\isE t=true/\isE u=true:=fun h=>by
  match ks with
  | [t,u]=>simp[isEs] at h;exact⟨t,u,rfl,h⟩
  | []=>simp at h
  | [a]=>simp at h
  | a::b::c::l=>simp at h
 rw[isE] at h
 split at h
 ·rename_i h1;simp only[Bool.and_eq_true] at h;exact .inl ⟨h1,l0 h.2⟩
 ·split at h
  ·rename_i h1;simp only[Bool.and_eq_true] at h;exact .inr (.inl ⟨h1,l0 h.2⟩)
  ·split at h
   ·rename_i h1;rw[Bool.and_eq_true] at h;exact .inr (.inr (.inl ⟨h1,l1 h.2⟩))
   ·split at h
    ·rename_i h1;rw[Bool.and_eq_true] at h;exact .inr (.inr (.inr (.inl ⟨h1,l1 h.2⟩)))
    ·split at h
     ·rename_i h1;rw[Bool.and_eq_true] at h;exact .inr (.inr (.inr (.inr ⟨h1,l2 h.2⟩)))
     ·cases h
theorem zoA {f:FuncId} {fn:Func} {rv:Value} {Rd:World->Prop} {look:ByteArray->Option (List Int)} (hL:zqf f fn rv Rd look) (t:T):isE t=true->ValC f rv Rd look t:=by
 refine T.ind (p:=fun t=>isE t=true->ValC f rv Rd look t) ?_ t;intro k n s ks ih hE v w hv hR;have HV:=zh hv;have HL:=zh hL;have ry:=zh hR;obtain⟨A,c,rfl,hf,hlk,hlc,hrow⟩:=hv.open_;simp only[T.k_nd,T.n_nd,T.s_nd,T.ks_nd] at *
 have ae:=zh hrow;obtain⟨R,hRR⟩:∃ R,evE look (.nd k n s ks)=R:=⟨_,rfl⟩
 rw[hRR];rw[evE,zoY] at hRR;rcases zoo hE with⟨rfl,rfl⟩|⟨hk,rfl⟩|⟨rfl,t,rfl,ht⟩|⟨hk,t,rfl,ht⟩|⟨hk,t,u,rfl,ht,hu⟩
 ·have HX:=zh (show R=(n,0) by rw[<-hRR,evK];rfl);clear hv hrow ih hE hR hL hRR hf hlk hlc;go_enter Tryz.func67,Tryz.ntmps67;go_wp2_with fail;go_ret2;exact⟨by rw[HX.out];rfl,zkc (Below.refl _ _) _⟩
 ·have HX:=zh (show varE look k s (([].map (evE look)).getD 0 (0,0))=R by rw[<-hRR,evK,if_neg (by omega),if_pos (by omega)]);have HC:=zh (fun w' (h:Below w.heap.size w w')=>znf hL k n s [] _ w' (hv.later h) (hL.later _ _ hR h) (by omega) (fun h=>by omega));clear hv hrow ih hE hR hL hRR hf hlk hlc;rcases hk with rfl|rfl|rfl
  all_goals
   go_enter Tryz.func67,Tryz.ntmps67;go_wp2_with fail;refine(HC.out _ (zkc (Below.refl _ _) _)).mono ?_;rintro e w1 ⟨rfl,aa⟩;rw[HX.out];have q1:=zka (zkc (Below.refl _ _) _) aa;clear aa;go_wp2_with fail;go_ret2;exact⟨rfl,q1⟩
 ·have HX:=zh (show varE look 3 s (([t].map (evE look)).getD 0 (0,0))=R by rw[<-hRR,evK,if_neg (by omega),if_pos (by omega)]);have HC:=zh (fun w' (h:Below w.heap.size w w')=>znf hL 3 n s [t] _ w' (hv.later h) (hL.later _ _ hR h) (by omega) (fun _=>⟨t,rfl,ih t List.mem_cons_self ht⟩));clear hv hrow ih hE hR hL hRR hf hlk hlc;simp only[List.length_cons,List.length_nil,Nat.zero_add] at *
  go_enter Tryz.func67,Tryz.ntmps67;go_wp2_with fail;refine(HC.out _ (zkc (Below.refl _ _) _)).mono ?_;rintro e w1 ⟨rfl,aa⟩;rw[HX.out];have q1:=zka (zkc (Below.refl _ _) _) aa;clear aa;go_wp2_with fail;go_ret2;exact⟨rfl,q1⟩
 ·obtain⟨⟨iv,ie⟩,hiv⟩:∃ r,evE look t=r:=⟨_,rfl⟩
  obtain⟨⟨uv,ue⟩,hu⟩:∃ r,unE k iv=r:=⟨_,rfl⟩
  have HX:=zh (show R=if ie≠0 then (0,ie) else (uv,ue) by rw[<-hRR,<-hu,evK,if_neg (by omega),if_neg (by omega)];simp[hiv]);have pE:=zh (show ∀ (v:Value) (W:World),NV W Any t v->Rd W->Calls Tryz.prog 67 #[v,.func (.func f) #[rv] #[]] W (NumE (iv,ie) W) from hiv▸ih t List.mem_cons_self ht);obtain⟨a,t0,A2,c2,rfl,_,Ht,⟨y0,y1,y2,y3⟩,hn0⟩:=(hrow.later (zkc (Below.refl _ _) (.cells #[.int .u8 k,.int .i64 n,.string s,.slice A [t].length c] 24))).nd (i:=0) (by simp);simp only[Nat.zero_mul,Addr.add_zero',List.length_cons,List.length_nil,Nat.zero_add] at *
  have ht0:t0=t:=Ht.out.symm;subst ht0;have jl:=zh hn0;have hbx:=box4 (heap_alloc_new w (.cells #[.int .u8 k,.int .i64 n,.string s,.slice (some a) 1 c] 24));obtain⟨W0,hW0⟩:∃ W0,w.alloc (.cells #[.int .u8 k,.int .i64 n,.string s,.slice (some a) 1 c] 24)=W0:=⟨_,rfl⟩
  have q0:Below w.heap.size w W0:=hW0▸zkc (Below.refl _ _) _;rw[hW0] at y0 y1 y2 y3 jl hbx;have og:=zh (hL.later _ _ hR q0);have xP:=zh (show ∀ w,Calls Tryz.prog 95 #[.int .u8 k,.int .i64 iv] w fun e w'=>e=.returned (.tuple #[.int .i64 uv,.int .i64 ue])/\w'=w from fun w=>by have:=zsZ k iv hk w;rwa[hu] at this);have aM:=zh hbx;obtain⟨x0,x1,x2,x3⟩:=hbx;clear hv hrow ih hE hR hL hRR hf hlk hlc hn0 Ht hiv hu;rcases hk with rfl|rfl
  all_goals
   go_enter Tryz.func67,Tryz.ntmps67;go_wp2_with fail;refine(pE.out _ _ jl.out og.out).mono ?_;rintro e w1 ⟨rfl,aa⟩;have q1:=zka q0 aa;have hx0:=zb aa x0;have hx3:=zb aa x3;clear aa y0 y1 y2 y3 x0 x1 x2 x3;have hX:=HX.out;by_cases he:ie=0
   ·subst he;rw[if_neg (by simp)] at hX;have dK:=zh hX;clear hX HX;go_wp2_with fail;refine(xP.out _).mono ?_;rintro e w2 ⟨rfl,rfl⟩;go_wp2_with fail;go_ret2;exact⟨by rw[dK.out];rfl,q1⟩
   ·rw[if_pos he] at hX;have dK:=zh hX;have e1:(ie==0)=false:=by simpa using he
    have e2:(ie != 0)=true:=by simpa using he
    clear hX HX he;go_wp2_with fail;go_ret2;exact⟨by rw[dK.out];rfl,q1⟩
 ·obtain⟨⟨iv,ie⟩,hiv⟩:∃ r,evE look t=r:=⟨_,rfl⟩
  obtain⟨⟨jv,je⟩,hjv⟩:∃ r,evE look u=r:=⟨_,rfl⟩
  obtain⟨⟨uv,ue⟩,hu'⟩:∃ r,apE k iv jv=r:=⟨_,rfl⟩
  have HX:=zh (show R=if ie≠0 then (0,ie) else if je≠0 then (0,je) else (uv,ue) by rw[<-hRR,<-hu',evK,if_neg (by omega),if_neg (by omega)];simp[hiv,hjv]);have pE:=zh (show ∀ (v:Value) (W:World),NV W Any t v->Rd W->Calls Tryz.prog 67 #[v,.func (.func f) #[rv] #[]] W (NumE (iv,ie) W) from hiv▸ih t (by simp) ht);have HVD:=zh (show ∀ (v:Value) (W:World),NV W Any u v->Rd W->Calls Tryz.prog 67 #[v,.func (.func f) #[rv] #[]] W (NumE (jv,je) W) from hjv▸ih u (by simp) hu);have xP:=zh (show ∀ w,Calls Tryz.prog 96 #[.int .u8 k,.int .i64 iv,.int .i64 jv] w fun e w'=>e=.returned (.tuple #[.int .i64 uv,.int .i64 ue])/\w'=w from fun w=>by have:=ztr k iv jv hk w;rwa[hu'] at this);have hrow':=hrow.later (zkc (Below.refl _ _) (.cells #[.int .u8 k,.int .i64 n,.string s,.slice A [t,u].length c] 24));obtain⟨a,t0,A2,c2,rfl,_,Ht,h4,hn0⟩:=hrow'.nd (i:=0) (by simp)
  obtain⟨a',t1,A3,c3,ea,_,Hu,h5,hn1⟩:=hrow'.nd (i:=1) (by simp);injection ea with ea;subst ea;have ha:a.add (1*4)=⟨a.block,a.off+4,none⟩:=by unfold Addr.add;split<;>simp_all
  rw[ha] at h5;simp only[Nat.zero_mul,Addr.add_zero',List.length_cons,List.length_nil,Nat.zero_add] at *
  have ht0:t0=t:=Ht.out.symm;have hu0:t1=u:=Hu.out.symm;subst ht0 hu0;have hbx:=box4 (heap_alloc_new w (.cells #[.int .u8 k,.int .i64 n,.string s,.slice (some a) 2 c] 24));obtain⟨W0,hW0⟩:∃ W0,w.alloc (.cells #[.int .u8 k,.int .i64 n,.string s,.slice (some a) 2 c] 24)=W0:=⟨_,rfl⟩
  have q0:Below w.heap.size w W0:=hW0▸zkc (Below.refl _ _) _;rw[hW0] at h4 h5 hn0 hn1 hbx;have jl:=zh hn0;have ma:=zh hn1;have og:=zh (hL.later _ _ hR q0);have eU:=zh (show ∀ w',Below W0.heap.size W0 w'->(Nd4 w' a t0 A2 c2/\Nd4 w' ⟨a.block,a.off+4,none⟩ t1 A3 c3)/\w'.cell? ⟨w.heap.size,0,none⟩=some (.int .u8 k)/\w'.cell? ⟨w.heap.size,3,none⟩=some (.slice (some a) 2 c) from fun w' h=>⟨⟨zmZ h h4,zmZ h h5⟩,zb h hbx.1,zb h hbx.2.2.2⟩);have z1:(k==1)=false:=by simp;omega
  have z2:(k==2)=false:=by simp;omega
  have z3:(k==3)=false:=by simp;omega
  have z4:(k==4)=false:=by simp;omega
  have z5:(k==5)=false:=by simp;omega
  obtain⟨⟨⟨y0,y1,y2,y3⟩,⟨v0,v1,v2,v3⟩⟩,x0,x3⟩:=eU.out _ (Below.refl _ _);clear hv hrow hrow' ih hE hR hL hRR hf hlk hlc hn0 hn1 Ht Hu hiv hjv hu' h4 h5 hbx ha hk;go_enter Tryz.func67,Tryz.ntmps67;go_wp2_with fail;refine(pE.out _ _ jl.out og.out).mono ?_;rintro e w1 ⟨rfl,aa⟩;have r1:=aa;obtain⟨⟨⟨y0,y1,y2,y3⟩,⟨v0,v1,v2,v3⟩⟩,x0,x3⟩:=eU.out _ r1;have aI:=zh (ma.out.later r1);have HRd2:=zh (HL.out.later _ _ og.out r1);clear aa;have hX:=HX.out;by_cases he:ie=0
  ·subst he;rw[if_neg (by simp)] at hX;have dK:=zh hX;clear hX HX;go_wp2_with fail;refine(HVD.out _ _ aI.out HRd2.out).mono ?_;rintro e w2 ⟨rfl,aj⟩;have r2:=zka r1 aj;obtain⟨⟨⟨y0,y1,y2,y3⟩,⟨v0,v1,v2,v3⟩⟩,x0,x3⟩:=eU.out _ r2;clear aj;have hX:=dK.out;by_cases hj:je=0
   ·subst hj;rw[if_neg (by simp)] at hX;have xL:=zh hX;clear hX dK;go_wp2_with fail;refine(xP.out _).mono ?_;rintro e w3 ⟨rfl,rfl⟩;go_wp2_with fail;go_ret2;exact⟨by rw[xL.out];rfl,zka q0 r2⟩
   ·rw[if_pos hj] at hX;have xL:=zh hX;have e1:(je==0)=false:=by simpa using hj
    have e2:(je != 0)=true:=by simpa using hj
    clear hX dK hj;go_wp2_with fail;go_ret2;exact⟨by rw[xL.out];rfl,zka q0 r2⟩
  ·rw[if_pos he] at hX;have dK:=zh hX;have e1:(ie==0)=false:=by simpa using he
   have e2:(ie != 0)=true:=by simpa using he
   clear hX HX he;go_wp2_with fail;go_ret2;exact⟨by rw[dK.out];rfl,zka q0 r1⟩
theorem zvn (f:FuncId) (rv:Value) (w:World):(binOp BinOp.eql 122 (.func (.func f) #[rv] #[]) .nilFunc).run Tryz.prog w=.ok (.bool false) w:=by kernel_rfl
def zlz (look:ByteArray->Option (List Int)) (t:T):Int×Int:=if isE t=true then evE look t else (0,3)
def indE (look:ByteArray->Option (List Int)) (t:T):Int×Int:=if isP t=true then (if t.k=2 then (0,0) else evE look (t.ks.getD 0 (.nd 0 0 ⟨#[]⟩ []))) else (0,3)
theorem znx {f:FuncId} {fn:Func} {rv:Value} {Rd:World->Prop} {look:ByteArray->Option (List Int)} (hL:zqf f fn rv Rd look) (t:T) (v:Value) (w:World) (hv:NV w Any t v) (hR:Rd w) :
  Calls Tryz.prog 29 #[v,.func (.func f) #[rv] #[]] w (NumE (zlz look t) w):=by
 have HV:=zh hv;have HL:=zh hL;have ry:=zh hR;obtain⟨A,c,rfl,-⟩:=hv.open_;obtain⟨⟨R1,R2⟩,hRR⟩:∃ R,zlz look t=R:=⟨_,rfl⟩
 rw[hRR];obtain⟨b,hb⟩:∃ b,isE t=b:=⟨_,rfl⟩
 have yl:=zh (show ∀ (v:Value) (w:World),NV w Any t v->Calls Tryz.prog 54 #[v] w fun e w'=>e=.returned (.bool b)/\Below w.heap.size w w' from fun v w h=>hb▸zkL t v w h);have mW:=zh (show b=true->∀ (v:Value) (W:World),NV W Any t v->Rd W->Calls Tryz.prog 67 #[v,.func (.func f) #[rv] #[]] W (NumE (R1,R2) W) from fun h=>by
  have h1:zlz look t=evE look t:=by rw[zlz,if_pos (hb.trans h)]
  rw[<-hRR,h1];exact zoA hL t (hb.trans h))
 have bW:=zh (show b=false->R1=0/\R2=3 from fun h=>by
  rw[zlz,hb,h] at hRR;simp at hRR;exact⟨hRR.1.symm,hRR.2.symm⟩)
 clear hv hR hL hRR hb;generalize t.k=k,t.n=n,t.s=s,t.ks.length=m at *
 have hen:=zvn;go_enter Tryz.func29,Tryz.ntmps29;go_wp2_with fail;refine(yl.out _ _ (HV.out.later (zkc (Below.refl _ _) _))).mono ?_;rintro e w1 ⟨rfl,aa⟩;have q1:=zka (zkc (Below.refl _ _) _) aa;obtain⟨a0,a1,a2,a3⟩:=box4 (zkb (heap_alloc_new w (.cells #[.int .u8 k,.int .i64 n,.string s,.slice A m c] 24)) aa);clear aa
 cases b
 ·obtain⟨rfl,rfl⟩:=bW.out rfl;go_wp2_with fail;go_ret2;exact⟨rfl,q1⟩
 ·have HVA2:=zh (mW.out rfl);clear mW bW;go_wp2_with fail;refine(HVA2.out _ _ (HV.out.later q1) (HL.out.later _ _ ry.out q1)).mono ?_;rintro e w2 ⟨rfl,aj⟩;have q2:=zka q1 aj;clear aj;go_wp2_with fail;go_ret2;exact⟨rfl,q2⟩
theorem zml {f:FuncId} {fn:Func} {rv:Value} {Rd:World->Prop} {look:ByteArray->Option (List Int)} (hL:zqf f fn rv Rd look) (t:T) (v:Value) (w:World) (hv:NV w Any t v) (hR:Rd w) :
  Calls Tryz.prog 31 #[v,.func (.func f) #[rv] #[]] w (NumE (indE look t) w):=by
 have HV:=zh hv;have HL:=zh hL;have ry:=zh hR;obtain⟨A,c,rfl,hf,hlk,hlc,hrow⟩:=hv.open_;obtain⟨⟨R1,R2⟩,hRR⟩:∃ R,indE look t=R:=⟨_,rfl⟩
 rw[hRR];obtain⟨b,hb⟩:∃ b,isP t=b:=⟨_,rfl⟩
 have yl:=zh (show ∀ (v:Value) (w:World),NV w Any t v->Calls Tryz.prog 53 #[v] w fun e w'=>e=.returned (.bool b)/\Below w.heap.size w w' from fun v w h=>hb▸zkM t v w h);have ae:=zh hrow;have HK:=zh (show ∀ k n s m,t.k=k->t.n=n->t.s=s->t.ks.length=m->b=true->(k=2/\R1=0/\R2=0)\/(k=3/\m=1/\∃ u,t.ks=[u]/\∀ (v:Value) (W:World),NV W Any u v->Rd W->Calls Tryz.prog 67 #[v,.func (.func f) #[rv] #[]] W (NumE (R1,R2) W)) from by
  rintro k n s m rfl rfl rfl rfl h;have hp:=hb.trans h;rw[indE,if_pos hp] at hRR;unfold isP at hp;simp only[Bool.and_eq_true,Bool.or_eq_true,beq_iff_eq] at hp;rcases hp.1 with h2|h3
  ·rw[if_pos h2] at hRR;injection hRR with r1 r2;exact .inl ⟨h2,r1.symm,r2.symm⟩
  ·rw[if_neg (by omega)] at hRR;obtain⟨k,n,s,ks⟩:=t;simp only[T.k_nd,T.ks_nd] at *
   subst h3;rcases zoo hp.2 with h|h|⟨_,u,rfl,hu⟩|h|h
   ·omega
   ·omega
   ·refine .inr ⟨rfl,rfl,u,rfl,?_⟩;simp at hRR;rw[<-hRR];exact zoA hL u hu
   ·omega
   ·omega)
 have bW:=zh (show b=false->R1=0/\R2=3 from fun h=>by
  rw[indE,hb,h] at hRR;simp at hRR;exact⟨hRR.1.symm,hRR.2.symm⟩)
 obtain⟨k,hk⟩:∃ k,t.k=k:=⟨_,rfl⟩
 obtain⟨n,hn⟩:∃ n,t.n=n:=⟨_,rfl⟩
 obtain⟨s,hs⟩:∃ s,t.s=s:=⟨_,rfl⟩
 obtain⟨m,hm⟩:∃ m,t.ks.length=m:=⟨_,rfl⟩
 have HKK:=zh (HK.out k n s m hk hn hs hm);rw[hk,hn,hs,hm] at HV ⊢;clear hv hR hL hRR hb hrow hf hlk hlc HK hk hn hs hm;have hen:=zvn;go_enter Tryz.func31,Tryz.ntmps31;go_wp2_with fail;refine(yl.out _ _ (HV.out.later (zkc (Below.refl _ _) _))).mono ?_;rintro e w1 ⟨rfl,aa⟩;have q1:=zka (zkc (Below.refl _ _) _) aa;obtain⟨a0,a1,a2,a3⟩:=box4 (zkb (heap_alloc_new w (.cells #[.int .u8 k,.int .i64 n,.string s,.slice A m c] 24)) aa);clear aa
 cases b
 ·obtain⟨rfl,rfl⟩:=bW.out rfl;clear HKK;go_wp2_with fail;go_ret2;exact⟨rfl,q1⟩
 ·rcases HKK.out rfl with⟨rfl,rfl,rfl⟩|⟨rfl,rfl,u,hu,bK⟩
  ·clear HKK bW;go_wp2_with fail;go_ret2;exact⟨rfl,q1⟩
  ·have hrow:=ae.out;rw[hu] at hrow;obtain⟨a,t0,A2,c2,rfl,_,Ht,⟨y0,y1,y2,y3⟩,hn0⟩:=(hrow.later q1).nd (i:=0) (by simp);simp only[Nat.zero_mul,Addr.add_zero'] at y0 y1 y2 y3;have ht0:t0=u:=Ht.out.symm;subst ht0;have jl:=zh hn0;have pE:=zh bK;clear HKK bW bK hu hrow hn0 Ht;go_wp2_with fail;refine(pE.out _ _ jl.out (HL.out.later _ _ ry.out q1)).mono ?_;rintro e w2 ⟨rfl,aj⟩;have q2:=zka q1 aj;clear aj;go_wp2_with fail;go_ret2;exact⟨rfl,q2⟩
theorem zlL {W:World} {n0 b k:Nat} {E:TypeId} {xs:List Value} (h:W.ownsRow n0 E k (boxV b) 1 xs):W.heap[b]?=some (.cells xs.toArray E (0,0)):=by
 rcases h.2 with⟨h1,_⟩|⟨g,cap,cur,hv,_,hg,hn,_,hz,hx⟩
 ·cases h1
 ·injection hv with e1 e2 e3;injection e1 with e1;injection e1 with e1;subst e1 e3;have:cur=xs.toArray:=by
   rw[List.take_of_length_le (by simp;omega)] at hx;rw[<-hx]
  rw[this] at hg;exact hg
theorem zkg {W:World} {n0 sz n:Nat} {E:TypeId} {v:Value} {xs:List Value} (h:W.ownsRow n0 E sz v n xs):∃ A c,v=.slice A n c/\n<=c/\c<=maxLen:=by
 rcases h.2 with⟨rfl,rfl⟩|⟨g,cap,cur,rfl,_,_,hn,hm,_⟩
 ·exact⟨none,0,rfl,Nat.le_refl _,Nat.zero_le _⟩
 ·exact⟨_,_,rfl,hn,hm⟩
theorem zk5 {W:World} {n0 sz n:Nat} {E:TypeId} {v:Value} {xs:List Value} (h:W.ownsRow n0 E sz v n xs) (hn:0<n):∃ g c,v=.slice (some ⟨g,0,none⟩) n c/\n<=c/\c<=maxLen/\∀ j,j<n*sz->W.cell? ⟨g,j,none⟩=xs[j]?:=by
 rcases h.2 with⟨rfl,rfl⟩|⟨g,cap,cur,rfl,_,_,hc,hm,_⟩
 ·omega
 ·exact⟨g,cap,rfl,hc,hm,fun j hj=>h.cellAt j hj⟩
theorem zwA {W:World} {n0:Nat} {E:TypeId} {v:Value} {vs:List VD} (h:W.ownsRow n0 E 3 v vs.length (zkQ vs)) (hf:∀ v∈vs,FldV v):∃ A c,v=.slice A vs.length c/\vs.length<=c/\RowV W Any A vs:=by
 rcases Nat.eq_zero_or_pos vs.length with h0|h0
 ·obtain⟨A,c,rfl,hc,_⟩:=zkg h;exact⟨A,c,rfl,hc,fun i hi=>by omega⟩
 ·obtain⟨g,c,rfl,hc,_,hcell⟩:=zk5 h h0;refine⟨_,c,rfl,hc,fun i hi=>⟨_,rfl,trivial,?_,hf _ (List.getElem_mem hi)⟩⟩;have ha:(⟨g,0,none⟩:Addr).add (i*3)=⟨g,i*3,none⟩:=by unfold Addr.add;split<;>simp_all
  obtain⟨h1,h2,h3⟩:=znR vs i hi;rw[ha];exact⟨(hcell (i*3) (by omega)).trans h1,(hcell (i*3+1) (by omega)).trans h2,(hcell (i*3+2) (by omega)).trans h3⟩
theorem ztJ {W:World} {n0:Nat} {E:TypeId} {v:Value} {l:List Int} (h:W.ownsRow n0 E 1 v l.length (zki l)) (hf:∀ x∈l,I64 x):∃ A c,v=.slice A l.length c/\l.length<=c/\RowI W Any A l:=by
 obtain⟨A,c,e,hc,hr⟩:=zlR (xs:=l) h hf;exact⟨A,c,e,hc,hr.any⟩
def Ph.gF (P:Ph):Nat:=P.vF.ownBlock.getD 0
def curP (P:Ph) (S:ST):Addr:=if S.calls.length=0 then ⟨P.sb,0,none⟩ else ⟨P.gF,(S.calls.length-1)*3,none⟩
def curV (P:Ph) (S:ST):Value:=if S.calls.length=0 then P.vV else P.fV (S.calls.length-1)
def curC (P:Ph) (S:ST):Value:=if S.calls.length=0 then P.vC else P.fC (S.calls.length-1)
theorem zmX {S:ST} (h:S.calls.length=0):S.cur=S.base:=by
 have:S.calls=[]:=List.length_eq_zero_iff.1 h;simp[ST.cur,this]
theorem zmW {S:ST} (h:0<S.calls.length):S.cur=S.calls[S.calls.length-1]:=by
 unfold ST.cur;rw[List.getLast?_eq_getElem?,List.getElem?_eq_getElem (by omega)];rfl
section
variable {W W':World} {n0:Nat} {P:Ph} {S:ST}
theorem SR.later (h:SR W n0 P S) (hb:Below W.heap.size W W'):SR W' n0 P S:=⟨h.rws.later hb,h.wf⟩
theorem SR.box (h:SR W n0 P S):W.heap[P.sb]?=some (.cells #[P.vV,P.vC,.int .i64 S.base.loc,P.vF,.pointer (some ⟨P.tb,0,none⟩)] 113 (0,0)):=zlL (h.rws.row .sb)
theorem SR.tbox (h:SR W n0 P S):W.heap[P.tb]?=some (.cells #[P.vI,P.vO] 150 (0,0)):=zlL (h.rws.row .tb)
theorem SR.cbox (h:SR W n0 P S) {i:Nat} (hi:i<S.nc):W.heap[P.cb i]?=some (.cells #[P.ci i] 117 (0,0)):=by
 have:=h.rws.row (.cb i);simp only[rows,hi,if_true] at this;exact zlL this
theorem SR.items (h:SR W n0 P S) {i:Nat} (hi:i<S.nc):∃ A c,P.ci i=.slice A (S.cell i).length c/\(S.cell i).length<=c/\RowI W Any A (S.cell i):=by
 have:=h.rws.row (.ci i);simp only[rows,hi,if_true] at this;exact ztJ this (h.wf.cells i hi).2
theorem SR.calls (h:SR W n0 P S):∃ A c,P.vF=.slice A S.calls.length c/\S.calls.length<=c/\(0<S.calls.length->A=some ⟨P.gF,0,none⟩/\∀ j,j<S.calls.length*3->W.cell? ⟨P.gF,j,none⟩=(zkS P 0 S.calls)[j]?):=by
 have hr:W.ownsRow n0 110 3 P.vF S.calls.length (zkS P 0 S.calls):=h.rws.row .calls;rcases Nat.eq_zero_or_pos S.calls.length with h0|h0
 ·obtain⟨A,c,e,hc,_⟩:=zkg hr;exact⟨A,c,e,hc,fun h=>by omega⟩
 ·obtain⟨g,c,e,hc,_,hcell⟩:=zk5 hr h0;have hg:P.gF=g:=by simp[Ph.gF,e,Value.ownBlock]
  exact⟨_,c,e,hc,fun _=>⟨by rw[hg],by rw[hg];exact hcell⟩⟩
theorem SR.curWF (h:SR W n0 P S):∃ kd,S.cur.WF kd S.nc:=by
 obtain⟨kd,h1,h2,_⟩:=h.wf.ex;refine⟨kd,?_⟩;rcases Nat.eq_zero_or_pos S.calls.length with h0|h0
 ·rw[zmX h0];exact h1
 ·rw[zmW h0];exact h2 _ (List.getElem_mem _)
theorem SR.cur3 (h:SR W n0 P S):W.cell? (curP P S)=some (curV P S)/\W.cell? ⟨(curP P S).block,(curP P S).off+1,none⟩=some (curC P S)/\W.cell? ⟨(curP P S).block,(curP P S).off+2,none⟩=some (.int .i64 S.cur.loc):=by
 rcases Nat.eq_zero_or_pos S.calls.length with h0|h0
 ·rw[zmX h0];simp only[curP,curV,curC,h0,if_true];exact⟨zc h.box rfl,zc h.box rfl,zc h.box rfl⟩
 ·rw[zmW h0];have hne:S.calls.length≠0:=by omega
  simp only[curP,curV,curC,hne,if_false];obtain⟨A,c,_,_,h2⟩:=h.calls;obtain⟨_,hcell⟩:=h2 h0;obtain⟨g1,g2,g3⟩:=znT P S.calls 0 (S.calls.length-1) (by omega);simp only[Nat.zero_add] at g1 g2;exact⟨(hcell _ (by omega)).trans g1,(hcell _ (by omega)).trans g2,(hcell _ (by omega)).trans g3⟩
theorem SR.curVs (h:SR W n0 P S):∃ A c,curV P S=.slice A S.cur.vs.length c/\S.cur.vs.length<=c/\RowV W Any A S.cur.vs:=by
 obtain⟨kd,hw⟩:=h.curWF;rcases Nat.eq_zero_or_pos S.calls.length with h0|h0
 ·rw[zmX h0] at hw ⊢;simp only[curV,h0,if_true];exact zwA (h.rws.row .bv) hw.fld
 ·rw[zmW h0] at hw ⊢;have hne:S.calls.length≠0:=by omega
  simp only[curV,hne,if_false];have:=h.rws.row (.fv (S.calls.length-1));simp only[rows,List.getElem?_eq_getElem (show S.calls.length-1<S.calls.length by omega)] at this;exact zwA this hw.fld
theorem SR.curCs (h:SR W n0 P S):W.ownsRow n0 115 1 (curC P S) S.cur.cs.length (ptrs P.cb S.cur.cs):=by
 rcases Nat.eq_zero_or_pos S.calls.length with h0|h0
 ·rw[zmX h0];simp only[curC,h0,if_true];exact h.rws.row .bc
 ·rw[zmW h0];have hne:S.calls.length≠0:=by omega
  simp only[curC,hne,if_false];have:=h.rws.row (.fc (S.calls.length-1));simp only[rows,List.getElem?_eq_getElem (show S.calls.length-1<S.calls.length by omega)] at this;exact this
end
def idxZ:Option Nat->Int
 | none => -1
 | some i=>i
theorem zk7 {W:World} {n0:Nat} {P:Ph} {S:ST} (h:SR W n0 P S):Calls Tryz.prog 62 #[.pointer (some ⟨P.sb,0,none⟩)] W fun e w'=>e=.returned (.pointer (some (curP P S)))/\w'=W:=by
 obtain⟨A,c,mK,hc,h2⟩:=h.calls;have hx:W.cell? ⟨P.sb,3,none⟩=some (.slice A S.calls.length c):=by rw[<-mK];exact zc h.box rfl
 have qF:=h.wf.ncalls;obtain⟨cp,hcp⟩:∃ cp,curP P S=cp:=⟨_,rfl⟩
 rw[hcp];have su:=zh hcp;have H2:=zh h2;obtain⟨L,hL⟩:∃ L,S.calls.length=L:=⟨_,rfl⟩
 rw[hL] at hx qF;have HL:=zh hL;clear h mK hc h2 hcp hL;rcases Nat.eq_zero_or_pos L with h0|h0
 ·subst h0;have HX:=zh (show cp=⟨P.sb,0,none⟩ by rw[<-su.out,curP,if_pos HL.out]);clear HL su H2;go_enter Tryz.func62,Tryz.ntmps62;go_wp2_with fail;go_ret;exact⟨by rw[HX.out];rfl,rfl⟩
 ·obtain⟨rfl,-⟩:=H2.out (by rw[HL.out];exact h0);obtain⟨m,hm⟩:∃ m,L=m+1:=⟨L-1,by omega⟩
  subst hm;have HX:=zh (show cp=⟨P.gF,m*3,none⟩ by rw[<-su.out,curP,if_neg (by have:=HL.out;omega),HL.out];rfl);clear HL su H2 h0;go_enter Tryz.func62,Tryz.ntmps62;go_wp2_with fail;go_ret;exact⟨by rw[HX.out];simp,rfl⟩
theorem znr (vs:List VD) (A:Option Addr) (c:Nat) (s:ByteArray) (fp:Addr) (w:World) (hc:w.cell? fp=some (.slice A vs.length c)) (hrow:RowV w Any A vs) (hl:vs.length<=4398046511000) :
  Calls Tryz.prog 97 #[.pointer (some fp),.string s] w fun e w'=>e=.returned (.int .i64 (idxZ (zlD vs s vs.length)))/\Below w.heap.size w w':=by
 obtain⟨R,hR⟩:∃ R,zlD vs s vs.length=R:=⟨_,rfl⟩
 rw[hR];have HR:=zh hR;have ae:=zh hrow;have HC:=zh hc;clear hR hrow;go_enter Tryz.func97,Tryz.ntmps97;go_wp2_with fail
 go_loopw [5] (fun i wr=>∃ j:Nat,j<=vs.length/\i=.int .i64 ((j:Int)-1)/\wr=w/\Hid (zlD vs s j=R)) (fun i _=>(intOf i+1).toNat)
 case atStart=>exact⟨vs.length,Nat.le_refl _,by go_num,rfl,HR⟩
 case round =>
  obtain⟨j,hj,rfl,rfl,HJ⟩:=hrel;by_cases h0:j=0
  ·subst h0;have HX:=zh (show R=none by rw[<-HJ.out];rfl);go_wp2_with fail;go_ret;exact⟨by rw[HX.out];rfl,Below.refl _ _⟩
  ·obtain⟨m,rfl⟩:∃ m,j=m+1:=⟨j-1,by omega⟩
   have hm:m<vs.length:=by omega
   obtain⟨a,rfl,-,⟨y0,y1,y2⟩,-⟩:=ae.out m hm;have hjm:((m+1:Nat):Int)-1=(m:Int):=by omega
   rw[hjm];obtain⟨vm,xc⟩:∃ v,vs[m]=v:=⟨_,rfl⟩
   rw[xc] at y0 y1 y2;have HL:=zh (show(if vm.s.toList==s.toList then some m else zlD vs s m)=R by rw[<-HJ.out,zm6 hm,xc]);obtain⟨b,hb⟩:∃ b,(vm.s.toList==s.toList)=b:=⟨_,rfl⟩
   rw[hb] at HL;clear HJ xc hjm
   cases b
   ·go_wp2_with fail
    go_roundw
    case rel=>exact⟨m,by omega,by go_num,trivial,zh (by have:=HL.out;simpa using this)⟩
    case measure=>simp[intOf]
   ·have HX:=zh (show R=some m by rw[<-HL.out];rfl);go_wp2_with fail;go_ret;exact⟨by rw[HX.out];rfl,Below.refl _ _⟩
theorem zom {W:World} {n0:Nat} {P:Ph} {S:ST} (h:SR W n0 P S) (s:ByteArray):Calls Tryz.prog 68 #[.pointer (some ⟨P.sb,0,none⟩),.string s] W fun e W'=>Below W.heap.size W W' /\
  ((S.look s=none/\∃ A c,e=.returned (.tuple #[.slice A 0 c,.bool false]))\/∃ l A c,S.look s=some l/\e=.returned (.tuple #[.slice A l.length c,.bool true])/\RowI W' Any A l):=by
 have HS:=zh h;obtain⟨kd,hw⟩:=h.curWF;obtain⟨A,c,hcv,hc,hrow⟩:=h.curVs;obtain⟨h1,h2,h3⟩:=h.cur3;rw[hcv] at h1;have bX:=zh (zk7 h);have cB:=zh (fun W' (hb:Below W.heap.size W W')=>znr S.cur.vs A c s (curP P S) W' (zb hb h1) (hrow.later hb) hw.lim);have yB:=zh h.curCs;have dY:=zh hw;obtain⟨cp,hcp⟩:∃ cp,curP P S=cp:=⟨_,rfl⟩
 rw[hcp] at h1 h2 h3 bX cB;obtain⟨r,hr⟩:∃ r,S.cur.at s=r:=⟨_,rfl⟩
 have hr':zlD S.cur.vs s S.cur.vs.length=r:=hr;rw[hr'] at cB;have HRR:=zh hr;have H2:=zh h2;clear h hw hcv hrow h1 h2 h3 hcp hr hr';go_enter Tryz.func68,Tryz.ntmps68;go_wp2_with fail;refine bX.out.mono ?_;rintro e w1 ⟨rfl,rfl⟩;go_wp2_with fail;refine(cB.out _ (Below.refl _ _)).mono ?_;rintro e w2 ⟨rfl,aj⟩;have hy:=zb aj H2.out;have HS2:=zh (HS.out.later aj);have HB2:=zh aj;clear aj;rcases r with _|i
 ·have HX:=zh (show S.look s=none by unfold ST.look ST.num;rw[HRR.out];rfl);simp only[idxZ];go_wp2_with fail;go_ret2;exact⟨HB2.out,.inl ⟨HX.out,none,0,rfl⟩⟩
 ·have hil:i<S.cur.vs.length:=FR.at_lt HRR.out;have hic:i<S.cur.cs.length:=by rw[dY.out.len];exact hil
  obtain⟨id,hid⟩:∃ id,S.cur.cs[i]=id:=⟨_,rfl⟩
  have aJ:id<S.nc:=by rw[<-hid];exact dY.out.num _ (List.getElem_mem hic)
  have HX:=zh (show S.look s=some (S.cell id) by unfold ST.look ST.num;rw[HRR.out];simp[hic,hid]);obtain⟨g,c2,hcc,hc2,hm2,hcell⟩:=zk5 HS2.out.curCs (by omega);rw[hcc] at hy;have hz:w2.cell? ⟨g,i,none⟩=some (.pointer (some ⟨P.cb id,0,none⟩)):=by rw[hcell i (by omega)];simp[ptrs,hic,hid]
  obtain⟨A3,c3,hci,hc3,aS⟩:=HS2.out.items aJ;have hz2:w2.cell? ⟨P.cb id,0,none⟩=some (.slice A3 (S.cell id).length c3):=by rw[<-hci];exact zc (HS2.out.cbox aJ) rfl
  have bV:=zh aS;have hi1:(i:Int)<(S.cur.cs.length:Int):=by omega
  have hi2:¬ (i:Int)<0:=by omega
  simp only[idxZ];clear hcell hcc aS hci hid hil;go_wp2_with fail;go_ret2;exact⟨HB2.out,.inr ⟨_,HX.out,A3,⟨c3,rfl⟩,bV.out⟩⟩
theorem zug:IsFn Tryz.prog 68 Tryz.f68:=⟨Tryz.func68,by kernel_rfl,by kernel_rfl⟩
theorem ST.look_num {S:ST} {s:ByteArray} {l:List Int} (h:S.look s=some l):∃ i id,S.cur.at s=some i/\S.cur.cs[i]?=some id/\l=S.cell id:=by
 unfold ST.look ST.num at h;simp only[Option.map_eq_some_iff,Option.bind_eq_some_iff] at h;obtain⟨id,⟨i,h1,h2⟩,rfl⟩:=h;exact⟨i,id,h1,h2,rfl⟩
theorem ST.WF.cur {S:ST} (h:S.WF):∃ kd,S.cur.WF kd S.nc:=by
 obtain⟨kd,h1,h2,_⟩:=h.ex;refine⟨kd,?_⟩;rcases Nat.eq_zero_or_pos S.calls.length with h0|h0
 ·rw[zmX h0];exact h1
 ·rw[zmW h0];exact h2 _ (List.getElem_mem _)
theorem zsa (n0:Nat) (P:Ph) (S:ST) (hw:S.WF):zqf 68 Tryz.f68 (.pointer (some ⟨P.sb,0,none⟩)) (fun W=>SR W n0 P S) S.look where
 isFn:=zug
 later:=fun _ _ h hb=>h.later hb
 fits:=fun s l hl=>by
  obtain⟨i,id,h1,h2,rfl⟩:=ST.look_num hl;obtain⟨kd,hc⟩:=hw.cur;have:=(hw.cells id (hc.num id (List.mem_of_getElem? h2))).1;omega
 call:=fun s W h=>zom h s
theorem zmd {W:World} {n0:Nat} {P:Ph} {S:ST} (h:SR W n0 P S) (s:ByteArray) (id:Nat) (hid:S.num s=some id):Calls Tryz.prog 90 #[.pointer (some ⟨P.sb,0,none⟩),.string s] W fun e W'=>e=.returned (.pointer (some ⟨P.cb id,0,none⟩))/\Below W.heap.size W W':=by
 have HS:=zh h;obtain⟨kd,hw⟩:=h.curWF;obtain⟨A,c,hcv,hc,hrow⟩:=h.curVs;obtain⟨h1,h2,h3⟩:=h.cur3;rw[hcv] at h1;unfold ST.num at hid;rw[Option.bind_eq_some_iff] at hid;obtain⟨i,hr,hci⟩:=hid;have hr':zlD S.cur.vs s S.cur.vs.length=some i:=hr;have bX:=zh (zk7 h);have hfi:=fun W' (hb:Below W.heap.size W W')=>znr S.cur.vs A c s (curP P S) W' (zb hb h1) (hrow.later hb) hw.lim;rw[hr'] at hfi;simp only[idxZ] at hfi;have cB:=zh hfi;have hic:i<S.cur.cs.length:=(List.getElem?_eq_some_iff.1 hci).1;have hidd:S.cur.cs[i]=id:=(List.getElem?_eq_some_iff.1 hci).2;obtain⟨cp,hcp⟩:∃ cp,curP P S=cp:=⟨_,rfl⟩
 rw[hcp] at h1 h2 h3 bX cB;have H2:=zh h2;clear hw hcv hrow h1 h2 h3 hcp hr hr' hfi h hci;go_enter Tryz.func90,Tryz.ntmps90;go_wp2_with fail;refine bX.out.mono ?_;rintro e w1 ⟨rfl,rfl⟩;have hy0:=H2.out;obtain⟨g,c2,hcc,hc2,hm2,hcell⟩:=zk5 HS.out.curCs (by omega);rw[hcc] at hy0;have hz:w1.cell? ⟨g,i,none⟩=some (.pointer (some ⟨P.cb id,0,none⟩)):=by rw[hcell i (by omega)];simp[ptrs,hic,hidd]
 have ay:=zh (show ∀ w',Below w1.heap.size w1 w'->w'.cell? ⟨cp.block,cp.off+1,none⟩=some (.slice (some ⟨g,0,none⟩) S.cur.cs.length c2)/\w'.cell? ⟨g,i,none⟩=some (.pointer (some ⟨P.cb id,0,none⟩)) from fun w' hb=>⟨zb hb hy0,zb hb hz⟩);have aP:=zh (ay.out _ (Below.refl _ _).drew);obtain⟨L,hL⟩:∃ L,S.cur.cs.length=L:=⟨_,rfl⟩
 have hi1:(i:Int)<(L:Int):=by omega
 have hi0:(0:Int)<=(i:Int):=by omega
 have hi2:i<L:=by omega
 rw[hL] at ay aP;clear hcell hcc hy0 hz hL;go_upto_region 2 with fail
 go_region_held3 (fun w':World=>w'.cell? ⟨cp.block,cp.off+1,none⟩=some (.slice (some ⟨g,0,none⟩) L c2)/\w'.cell? ⟨g,i,none⟩=some (.pointer (some ⟨P.cb id,0,none⟩)))
  (first|with_reducible exact aB.out|with_reducible exact aP.out)
  (first
   | (go_at_call 97;refine(cB.out _ (Below.refl _ _).drew).mono ?_;rintro e y1 ⟨rfl,dJ⟩;have b1:=zka (Below.refl w1.heap.size w1).drew dJ;have aB:=zh (ay.out _ b1))
   | fail)
 have HB1:=zh b1;clear b1 dJ aB;go_wp2_with fail;go_ret;exact⟨rfl,HB1.out⟩
end Go.Proofs.YtghbhbdnkjjnnaaGreat
namespace Go.Proofs.YtghbhbdnkjjnnaaGreat
open Go Go.RowKit
def zoO (k:Int):Int:=if k=2 then 1 else if k=3 then 2 else if k=4\/k=5\/k=44\/k=45 then 3 else 0
def basB (k:Int):Bool:=decide (40<=k/\k<=49)
def zra (k:Int):Int:=if k=40 then 41 else if k=41 then 40 else if k=44 then 45 else if k=45 then 44 else if k=46 then 47 else if k=47 then 46 else if k=48 then 49 else if k=49 then 48 else k
theorem zr6 (k:Int) (w:World):Calls Tryz.prog 88 #[.int .u8 k] w fun e w'=>e=.returned (.int .u8 (zoO k))/\w'=w:=by
 by_cases e2:k=2
 ·subst e2;go_enter Tryz.func88,Tryz.ntmps88;go_wp2_with fail;go_ret;exact⟨rfl,rfl⟩
 by_cases e3:k=3
 ·subst e3;go_enter Tryz.func88,Tryz.ntmps88;go_wp2_with fail;go_ret;exact⟨rfl,rfl⟩
 by_cases e4:k=4
 ·subst e4;go_enter Tryz.func88,Tryz.ntmps88;go_wp2_with fail;go_ret;exact⟨rfl,rfl⟩
 by_cases e5:k=5
 ·subst e5;go_enter Tryz.func88,Tryz.ntmps88;go_wp2_with fail;go_ret;exact⟨rfl,rfl⟩
 by_cases e44:k=44
 ·subst e44;go_enter Tryz.func88,Tryz.ntmps88;go_wp2_with fail;go_ret;exact⟨rfl,rfl⟩
 by_cases e45:k=45
 ·subst e45;go_enter Tryz.func88,Tryz.ntmps88;go_wp2_with fail;go_ret;exact⟨rfl,rfl⟩
 have x2:(k==2)=false:=by simpa using e2
 have x3:(k==3)=false:=by simpa using e3
 have x4:(k==4)=false:=by simpa using e4
 have x5:(k==5)=false:=by simpa using e5
 have x44:(k==44)=false:=by simpa using e44
 have x45:(k==45)=false:=by simpa using e45
 obtain⟨R,hR⟩:∃ R,zoO k=R:=⟨_,rfl⟩
 rw[hR];have HR:=zh (show R=0 by rw[<-hR,zoO];rw[if_neg e2,if_neg e3,if_neg (by omega)]);clear hR e2 e3 e4 e5 e44 e45;go_enter Tryz.func88,Tryz.ntmps88;go_wp2_with fail;go_ret;exact⟨by rw[HR.out];rfl,rfl⟩
theorem zsR (k:Int) (w:World):Calls Tryz.prog 61 #[.int .u8 k] w fun e w'=>e=.returned (.bool (basB k))/\w'=w:=by
 by_cases e40:k=40
 ·subst e40;go_enter Tryz.func61,Tryz.ntmps61;go_wp2_with fail;go_ret;exact⟨rfl,rfl⟩
 by_cases e41:k=41
 ·subst e41;go_enter Tryz.func61,Tryz.ntmps61;go_wp2_with fail;go_ret;exact⟨rfl,rfl⟩
 by_cases e42:k=42
 ·subst e42;go_enter Tryz.func61,Tryz.ntmps61;go_wp2_with fail;go_ret;exact⟨rfl,rfl⟩
 by_cases e43:k=43
 ·subst e43;go_enter Tryz.func61,Tryz.ntmps61;go_wp2_with fail;go_ret;exact⟨rfl,rfl⟩
 by_cases e44:k=44
 ·subst e44;go_enter Tryz.func61,Tryz.ntmps61;go_wp2_with fail;go_ret;exact⟨rfl,rfl⟩
 by_cases e45:k=45
 ·subst e45;go_enter Tryz.func61,Tryz.ntmps61;go_wp2_with fail;go_ret;exact⟨rfl,rfl⟩
 by_cases e46:k=46
 ·subst e46;go_enter Tryz.func61,Tryz.ntmps61;go_wp2_with fail;go_ret;exact⟨rfl,rfl⟩
 by_cases e47:k=47
 ·subst e47;go_enter Tryz.func61,Tryz.ntmps61;go_wp2_with fail;go_ret;exact⟨rfl,rfl⟩
 by_cases e48:k=48
 ·subst e48;go_enter Tryz.func61,Tryz.ntmps61;go_wp2_with fail;go_ret;exact⟨rfl,rfl⟩
 by_cases e49:k=49
 ·subst e49;go_enter Tryz.func61,Tryz.ntmps61;go_wp2_with fail;go_ret;exact⟨rfl,rfl⟩
 have x40:(k==40)=false:=by simpa using e40
 have x41:(k==41)=false:=by simpa using e41
 have x42:(k==42)=false:=by simpa using e42
 have x43:(k==43)=false:=by simpa using e43
 have x44:(k==44)=false:=by simpa using e44
 have x45:(k==45)=false:=by simpa using e45
 have x46:(k==46)=false:=by simpa using e46
 have x47:(k==47)=false:=by simpa using e47
 have x48:(k==48)=false:=by simpa using e48
 have x49:(k==49)=false:=by simpa using e49
 obtain⟨R,hR⟩:∃ R,basB k=R:=⟨_,rfl⟩
 rw[hR];have HR:=zh (show R=false by rw[<-hR,basB];simp;omega);clear hR e40 e41 e42 e43 e44 e45 e46 e47 e48 e49;go_enter Tryz.func61,Tryz.ntmps61;go_wp2_with fail;go_ret;exact⟨by rw[HR.out];rfl,rfl⟩
theorem zp1 (k:Int) (w:World):Calls Tryz.prog 186 #[.int .u8 k] w fun e w'=>e=.returned (.int .u8 (zra k))/\w'=w:=by
 by_cases e40:k=40
 ·subst e40;go_enter Tryz.func186,Tryz.ntmps186;go_wp2_with fail;go_ret;exact⟨rfl,rfl⟩
 by_cases e41:k=41
 ·subst e41;go_enter Tryz.func186,Tryz.ntmps186;go_wp2_with fail;go_ret;exact⟨rfl,rfl⟩
 by_cases e44:k=44
 ·subst e44;go_enter Tryz.func186,Tryz.ntmps186;go_wp2_with fail;go_ret;exact⟨rfl,rfl⟩
 by_cases e45:k=45
 ·subst e45;go_enter Tryz.func186,Tryz.ntmps186;go_wp2_with fail;go_ret;exact⟨rfl,rfl⟩
 by_cases e46:k=46
 ·subst e46;go_enter Tryz.func186,Tryz.ntmps186;go_wp2_with fail;go_ret;exact⟨rfl,rfl⟩
 by_cases e47:k=47
 ·subst e47;go_enter Tryz.func186,Tryz.ntmps186;go_wp2_with fail;go_ret;exact⟨rfl,rfl⟩
 by_cases e48:k=48
 ·subst e48;go_enter Tryz.func186,Tryz.ntmps186;go_wp2_with fail;go_ret;exact⟨rfl,rfl⟩
 by_cases e49:k=49
 ·subst e49;go_enter Tryz.func186,Tryz.ntmps186;go_wp2_with fail;go_ret;exact⟨rfl,rfl⟩
 have x40:(k==40)=false:=by simpa using e40
 have x41:(k==41)=false:=by simpa using e41
 have x44:(k==44)=false:=by simpa using e44
 have x45:(k==45)=false:=by simpa using e45
 have x46:(k==46)=false:=by simpa using e46
 have x47:(k==47)=false:=by simpa using e47
 have x48:(k==48)=false:=by simpa using e48
 have x49:(k==49)=false:=by simpa using e49
 obtain⟨R,hR⟩:∃ R,zra k=R:=⟨_,rfl⟩
 rw[hR];have HR:=zh (show R=k by rw[<-hR,zra];rw[if_neg e40,if_neg e41,if_neg e44,if_neg e45,if_neg e46,if_neg e47,if_neg e48,if_neg e49]);clear hR e40 e41 e44 e45 e46 e47 e48 e49;go_enter Tryz.func186,Tryz.ntmps186;go_wp2_with fail;go_ret;exact⟨by rw[HR.out];rfl,rfl⟩
def OwnB {I:Type} (d:I->RowD) (b:Nat):Prop:=∃ i,(d i).v.ownBlock=some b
structure Stp {I:Type} (n0:Nat) (d:I->RowD) (W:World) (d':I->RowD) (W':World):Prop where
 rws:Rws W' n0 d'
 chg:Chg (OwnB d) W W'
 own:∀ b,OwnB d' b->OwnB d b\/W.heap.size<=b
section
variable {I:Type} {n0:Nat} {d d' d'':I->RowD} {W W' W'':World}
theorem Stp.refl (h:Rws W n0 d):Stp n0 d W d W:=⟨h,Chg.refl _ _,fun _ h=>.inl h⟩
theorem Stp.trans (h:Stp n0 d W d' W') (h':Stp n0 d' W' d'' W''):Stp n0 d W d'' W'' :=
 ⟨h'.rws,h.chg.trans2 h'.chg fun b hb hc=>(h.own b hc).elim id fun h=>by omega,fun b hb=>(h'.own b hb).elim (h.own b) fun h2=>.inr (Nat.le_trans h.chg.size h2)⟩
theorem Stp.cast (h:Stp n0 d W d' W') (e:d'=d''):Stp n0 d W d'' W':=e▸h
theorem Stp.below (h:Stp n0 d W d' W') (hb:Below W'.heap.size W' W''):Stp n0 d W d' W'' :=
 ⟨h.rws.later hb,h.chg.trans (Chg.of_below hb),h.own⟩
theorem Stp.after (h:Stp n0 d W' d' W'') (hb:Below W.heap.size W W') (hd:Rws W n0 d):Stp n0 d W d' W'' :=
 (Stp.below (Stp.refl hd) hb).trans h
variable [DecidableEq I]
theorem Stp.upd {i:I} {r:RowD} (h:Rws W n0 d) (hc:Chg (fun b=>(d i).v.ownBlock=some b) W W') (ho:W'.ownsRow n0 r.E r.sz r.v r.n r.xs) (bQ:∀ b,r.v.ownBlock=some b->(d i).v.ownBlock=some b\/W.heap.size<=b):Stp n0 d W (updR d i r) W' :=
 ⟨h.upd i hc ho bQ,hc.mono fun b _ hb=>⟨i,hb⟩,fun b ⟨j,hj⟩=>by
  by_cases e:j=i
  ·subst e;rw[zkx] at hj;exact(bQ b hj).imp (fun h=>⟨j,h⟩) id
  ·rw[zkk e] at hj;exact .inl ⟨j,hj⟩⟩
theorem Stp.set {i:I} (h:Rws W n0 d) {g:Nat} (hg:(d i).v.ownBlock=some g) {o:Nat} (ho:o<(d i).xs.length) (u:Value):Stp n0 d W (updR d i { d i with xs:=(d i).xs.set o u }) (W.setCell ⟨g,o,none⟩ u) :=
 ⟨h.set i hg ho u,((Chg.refl _ _).setCell (.inl hg) u).mono fun b _ hb=>⟨i,hb⟩,fun b ⟨j,hj⟩=>by
  by_cases e:j=i
  ·subst e;rw[zkx] at hj;exact .inl ⟨j,hj⟩
  ·rw[zkk e] at hj;exact .inl ⟨j,hj⟩⟩
end
theorem zvd:(Tryz.prog.info? 76).map (fun i=>(i.zero,i.size,i.bytes))=some (some (.agg #[.string ⟨#[]⟩,.int .u8 0,.int .i64 0]),3,32):=by kernel_rfl
theorem zwE:(Tryz.prog.info? 115).map (fun i=>(i.zero,i.size,i.bytes))=some (some (.pointer none),1,8):=by kernel_rfl
theorem zsO (a0 a1 a2:Value) (w:World):(Instr.buildSlice 25 1 #[(0,.agg #[a0,a1,a2])]).run Tryz.prog w=.ok (.slice (some ⟨w.heap.size,0,none⟩) 1 1) (w.alloc (.cells #[a0,a1,a2] 76)):=by kernel_rfl
theorem zuG (p:Option Addr) (w:World):(Instr.buildSlice 108 1 #[(0,.pointer p)]).run Tryz.prog w=.ok (.slice (some ⟨w.heap.size,0,none⟩) 1 1) (w.alloc (.cells #[.pointer p] 115)):=by kernel_rfl
theorem zqc {I:Type} [DecidableEq I] {n0:Nat} {d:I->RowD} {W:World} (h:Rws W n0 d) (i0 iv ic:I) (h01:i0≠iv) (h02:i0≠ic) (h12:iv≠ic) (b o:Nat) (hb:(d i0).v.ownBlock=some b)
  (hov:(d i0).xs[o]?=some (d iv).v) (hoc:(d i0).xs[o+1]?=some (d ic).v) (xs ys:List Value) (m:Nat) (hiv:d iv=⟨(d iv).v,76,3,m,xs⟩) (hic:d ic=⟨(d ic).v,115,1,m,ys⟩) (hm:m<=4398046511000)
  (v:VD) (q:Option Addr) :
  Calls Tryz.prog 60 #[.pointer (some ⟨b,o,none⟩),.agg #[.string v.s,.int .u8 v.k,.int .i64 v.n],.pointer q] W fun e W'=>(∃ u,e=.returned u)/\∃ vv vc,
   Stp n0 d W (updR (updR (updR d iv ⟨vv,76,3,m+1,xs++[.string v.s,.int .u8 v.k,.int .i64 v.n]⟩) ic ⟨vc,115,1,m+1,ys++[.pointer q]⟩) i0 { d i0 with xs:=((d i0).xs.set o vv).set (o+1) vc }) W':=by
 obtain⟨i1,hi1,hz0,hz1,hz2⟩:=info_parts zvd;obtain⟨i2,hi2,hy0,hy1,hy2⟩:=info_parts zwE;have fB:=h.row iv;rw[hiv] at fB;have hrc:=h.row ic;rw[hic] at hrc;obtain⟨A1,c1,e1,-⟩:=zkg fB;obtain⟨A2,c2,e2,-⟩:=zkg hrc;dsimp only at e1 e2 fB hrc;have x0:W.cell? ⟨b,o,none⟩=some (.slice A1 m c1):=by rw[<-e1];exact h.cell i0 hb hov
 have x1:W.cell? ⟨b,o+1,none⟩=some (.slice A2 m c2):=by rw[<-e2];exact h.cell i0 hb hoc
 have hbf:=h.frozen i0 hb;have HR:=zh h;have hb1:=zsO;have hb2:=zuG;clear h;go_enter Tryz.func60,Tryz.ntmps60;go_upto_region 1 with fail;have hvb:=heap_alloc_new W (.cells #[.string v.s,.int .u8 v.k,.int .i64 v.n] 76);obtain⟨W1,hW1⟩:∃ W1,W.alloc (.cells #[.string v.s,.int .u8 v.k,.int .i64 v.n] 76)=W1:=⟨_,rfl⟩
 have q1:Below W.heap.size W W1:=hW1▸zkc (Below.refl _ _) _;have hzW:W1.heap.size=W.heap.size+1:=by rw[<-hW1];simp
 rw[hW1] at hvb ⊢;have HR1:=zh (HR.out.later q1);have dx:=zh q1;have g0:W1.cell? ⟨b,o,none⟩=some (.slice A1 m c1):=zb q1 x0;have g1:W1.cell? ⟨b,o+1,none⟩=some (.slice A2 m c2):=zb q1 x1;have v0:W1.cell? ⟨W.heap.size,0,none⟩=some (.string v.s):=zc hvb rfl;have v1:W1.cell? ⟨W.heap.size,1,none⟩=some (.int .u8 v.k):=zc hvb rfl;have v2:W1.cell? ⟨W.heap.size,2,none⟩=some (.int .i64 v.n):=zc hvb rfl;clear hW1 q1 x0 x1 hbf;have hSS:(fun w':World=>w'.cell? ⟨W.heap.size,0,none⟩=some (.string v.s)/\w'.cell? ⟨W.heap.size,1,none⟩=some (.int .u8 v.k)/\w'.cell? ⟨W.heap.size,2,none⟩=some (.int .i64 v.n)) W1.drew/\(fun w':World=>w'.cell? ⟨b,o,none⟩=some (.slice A1 m c1)) W1.drew:=⟨⟨v0,v1,v2⟩,g0⟩
 refine wp_region_noPanic ?_;refine zkd (fun w':World=>w'.cell? ⟨W.heap.size,0,none⟩=some (.string v.s)/\w'.cell? ⟨W.heap.size,1,none⟩=some (.int .u8 v.k)/\w'.cell? ⟨W.heap.size,2,none⟩=some (.int .i64 v.n)) (fun w':World=>w'.cell? ⟨b,o,none⟩=some (.slice A1 m c1)) 7 (by kernel_rfl) ?_;refine zT 0 hSS ?_;(try simp only[zQ]);refine zT 1 hSS ?_;(try simp only[zQ]);refine zT 2 hSS ?_;(try simp only[zQ]);refine zT 3 hSS ?_;(try simp only[zQ]);refine zkN (i:=4) (v:=?_) rfl (by kernel_rfl) (by kernel_rfl) (by kernel_rfl) (by decide) rfl (by kernel_rfl) (by kernel_rfl) (fun _ _ _ h=>h) (Or.inl ⟨by rfl,?_⟩) hSS ?_;rotate_left 1
 ·(intro w hSw;(try dsimp only at hSw);(try simp only[zA,zB,zC]);go_simp;(try with_reducible rfl))
 (try simp only[zQ]);refine zT 5 hSS ?_;(try simp only[zQ]);refine zo 6 fun K hK=>?_;(try simp only[zA,zB,zC]);go_simp;refine hK.out _ _ ⟨⟨zkq v0 _,zkq v1 _,zkq v2 _⟩,zkq g0 _⟩ ?_;clear hK K hSS;(try simp only[zQ]);obtain⟨W2,hW2⟩:∃ W2,(W1.alloc (.cells #[.string v.s,.int .u8 v.k,.int .i64 v.n] 76)).drew=W2:=⟨_,rfl⟩
 have q2:Below W1.heap.size W1 W2:=hW2▸(zkc (Below.refl _ _) _).drew;have hzW2:W2.heap.size=W1.heap.size+1:=by rw[<-hW2];simp
 have aI:=zh (show ∀ j u,[Value.string v.s,.int .u8 v.k,.int .i64 v.n][j]?=some u->W2.cell? ((⟨W.heap.size+1,0,none⟩:Addr).add j)=some u from hzW▸hW2▸zlt W1 76 [.string v.s,.int .u8 v.k,.int .i64 v.n]);have HR2:=HR1.out.later q2;have hrv2:W2.ownsRow n0 76 3 (.slice A1 m c1) m xs:=by have:=HR2.row iv;rw[hiv] at this;rw[<-e1];exact this
 have w0:W2.cell? ⟨W.heap.size,0,none⟩=some (.string v.s):=zb q2 v0;have w1:W2.cell? ⟨W.heap.size,1,none⟩=some (.int .u8 v.k):=zb q2 v1;have w2:W2.cell? ⟨W.heap.size,2,none⟩=some (.int .i64 v.n):=zb q2 v2;have hn0:=(HR.out.lt i0 b hb)
 rw[hW2];clear hW2 v0 v1 v2 g0 g1 hvb;refine zp 7 fun K hK=>?_;refine zkT (by rfl) (.tmp 10) (.tmp 12) 25 (by rfl) n0 76 i1 _ 3 32 Tryz.underlying25 hi1 hz0 hz1 hz2 rfl (by decide) (.slice A1 m c1) m xs (by rfl) hrv2 ⟨W.heap.size+1,0,none⟩ 1 1 [.string v.s,.int .u8 v.k,.int .i64 v.n] (by rfl) rfl aI.out (by intro u hu;simp at hu;rcases hu with rfl|rfl|rfl<;>rfl) (by unfold maxLen;omega) (by omega) (by omega) ?_;intro vv w3 h2 h3 h5;obtain⟨g8,aF,rfl⟩:=ownsRow_succ h2;have st1:Stp n0 d W2 (updR d iv ⟨.slice (some ⟨g8,0,none⟩) (m+1) aF,76,3,m+1,xs++[.string v.s,.int .u8 v.k,.int .i64 v.n]⟩) w3:=by
  refine Stp.upd (i:=iv) HR2 ((Chg.row h3).mono fun b' _ hb'=>by rw[e1];exact hb') h2 (fun b' hb'=>?_);rw[e1];rcases h5 with h5|h5
  ·exact .inl (h5▸hb')
  ·exact .inr (by rw[h5] at hb';injection hb' with hb';omega)
 have hd0:updR d iv ⟨.slice (some ⟨g8,0,none⟩) (m+1) aF,76,3,m+1,xs++[.string v.s,.int .u8 v.k,.int .i64 v.n]⟩ i0=d i0:=zkk h01;have z0:w3.cell? ⟨b,o,none⟩=some (.slice A1 m c1):=by rw[<-e1];exact st1.rws.cell i0 (by rw[hd0];exact hb) (by rw[hd0];exact hov)
 have zf:w3.frozen? ⟨b,o,none⟩=false:=st1.rws.frozen i0 (by rw[hd0];exact hb) o;have hol:o<(d i0).xs.length:=(List.getElem?_eq_some_iff.1 hov).1;have hol1:o+1<(d i0).xs.length:=(List.getElem?_eq_some_iff.1 hoc).1;have st2:=Stp.set (i:=i0) st1.rws (g:=b) (by rw[hd0];exact hb) (o:=o) (by rw[hd0];exact hol) (.slice (some ⟨g8,0,none⟩) (m+1) aF);rw[hd0] at st2;have vP:∀ b',(Value.slice A1 m c1).ownBlock=some b'->b'≠W.heap.size:=fun b' hb' e=>by
  have:=(HR.out.lt iv b' (by rw[e1];exact hb')).2;omega
 have y0:w3.cell? ⟨W.heap.size,0,none⟩=some (.string v.s):=(World.cell?_of_block (a:=⟨W.heap.size,0,none⟩) (h3.block _ (by show W.heap.size<_;omega) (fun e=>vP _ e.symm rfl))).trans w0;have y1:w3.cell? ⟨W.heap.size,1,none⟩=some (.int .u8 v.k):=(World.cell?_of_block (a:=⟨W.heap.size,1,none⟩) (h3.block _ (by show W.heap.size<_;omega) (fun e=>vP _ e.symm rfl))).trans w1;have y2:w3.cell? ⟨W.heap.size,2,none⟩=some (.int .i64 v.n):=(World.cell?_of_block (a:=⟨W.heap.size,2,none⟩) (h3.block _ (by show W.heap.size<_;omega) (fun e=>vP _ e.symm rfl))).trans w2;have HST:=zh ((st1.trans st2).after (zka dx.out q2) HR.out);have HY:=zh (show(fun w':World=>w'.cell? ⟨W.heap.size,0,none⟩=some (.string v.s)/\w'.cell? ⟨W.heap.size,1,none⟩=some (.int .u8 v.k)/\w'.cell? ⟨W.heap.size,2,none⟩=some (.int .i64 v.n)) w3 from ⟨y0,y1,y2⟩);have hbW:b≠W.heap.size:=by omega
 have uM:=zh (show(fun w':World=>w'.cell? ⟨W.heap.size,0,none⟩=some (.string v.s)/\w'.cell? ⟨W.heap.size,1,none⟩=some (.int .u8 v.k)/\w'.cell? ⟨W.heap.size,2,none⟩=some (.int .i64 v.n)) (w3.setCell ⟨b,o,none⟩ (.slice (some ⟨g8,0,none⟩) (m+1) aF)) from by
  have key:∀ i u,w3.cell? ⟨W.heap.size,i,none⟩=some u->(w3.setCell ⟨b,o,none⟩ (.slice (some ⟨g8,0,none⟩) (m+1) aF)).cell? ⟨W.heap.size,i,none⟩=some u:=fun i u hu=>(World.cell?_of_block (a:=⟨W.heap.size,i,none⟩) (Below.heap_setCell _ _ _ _ (Ne.symm hbW))).trans hu;exact⟨key _ _ y0,key _ _ y1,key _ _ y2⟩)
 refine hK.out _ _ HY.out ?_;clear hK K h2 h3 h5 st1 st2 w0 w1 w2 hrv2 HR2 q2 aI dx HR1 y0 y1 y2;(try simp only[zQ]);refine zp 8 fun K hK=>?_;(try simp only[zA,zB,zC]);go_simp;refine hK.out _ _ HY.out ?_;clear hK K;(try simp only[zQ]);refine zp 9 fun K hK=>?_;(try simp only[zA,zB,zC]);go_simp;refine hK.out _ _ HY.out ?_;clear hK K;(try simp only[zQ]);refine zp 10 fun K hK=>?_;(try simp only[zA,zB,zC]);go_simp;refine hK.out _ _ uM.out ?_;clear hK K;(try simp only[zQ]);refine zd ?_;refine NoPanic.normal ?_;clear HY uM z0 zf;obtain⟨W4,gX⟩:∃ W4,w3.setCell ⟨b,o,none⟩ (.slice (some ⟨g8,0,none⟩) (m+1) aF)=W4:=⟨_,rfl⟩
 rw[gX] at HST ⊢;obtain⟨d2,hd2⟩:∃ d2,updR (updR d iv ⟨.slice (some ⟨g8,0,none⟩) (m+1) aF,76,3,m+1,xs++[.string v.s,.int .u8 v.k,.int .i64 v.n]⟩) i0 { d i0 with xs:=(d i0).xs.set o (.slice (some ⟨g8,0,none⟩) (m+1) aF) }=d2:=⟨_,rfl⟩
 rw[hd2] at HST;have qE:d2 ic=d ic:=by rw[<-hd2,zkk (Ne.symm h02),zkk (Ne.symm h12)]
 have nJ:d2 i0={ d i0 with xs:=(d i0).xs.set o (.slice (some ⟨g8,0,none⟩) (m+1) aF) }:=by rw[<-hd2,zkx]
 have g1:W4.cell? ⟨b,o+1,none⟩=some (.slice A2 m c2):=by
  rw[<-e2];exact HST.out.rws.cell i0 (by rw[nJ];exact hb) (by rw[nJ];show((d i0).xs.set o _)[o+1]?=_;rw[List.getElem?_set_ne (by omega)];exact hoc)
 have HD2:=zh hd2;clear gX hd0 hd2;obtain⟨W5,sS⟩:∃ W5,W4.alloc (.cells #[.pointer q] 115)=W5:=⟨_,rfl⟩
 have q5:Below W4.heap.size W4 W5:=sS▸zkc (Below.refl _ _) _;have HN5:=zh (show ∀ j u,[Value.pointer q][j]?=some u->W5.cell? ((⟨W4.heap.size,0,none⟩:Addr).add j)=some u from sS▸zlt W4 115 [.pointer q]);have lW:=HST.out.rws.later q5;have hrc5:W5.ownsRow n0 115 1 (.slice A2 m c2) m ys:=by have:=lW.row ic;rw[qE,hic] at this;rw[<-e2];exact this
 have hs5:=q5.size;have hs4:=HST.out.chg.size;have e2':(d2 ic).v=.slice A2 m c2:=by rw[qE];exact e2
 have HKEY:=zh (show ∀ (g9 dh:Nat) (w6:World),w6.ownsRow n0 115 1 (.slice (some ⟨g9,0,none⟩) (m+1) dh) (m+1) (ys++[.pointer q])->W5.grownBy w6 (Value.slice A2 m c2).ownBlock->((Value.slice (some ⟨g9,0,none⟩) (m+1) dh).ownBlock=(Value.slice A2 m c2).ownBlock\/(Value.slice (some ⟨g9,0,none⟩) (m+1) dh).ownBlock=some W5.heap.size) ->
   w6.cell? ⟨b,o+1,none⟩=some (.slice A2 m c2)/\w6.frozen? ⟨b,o+1,none⟩=false/\Stp n0 d W (updR (updR d2 ic ⟨.slice (some ⟨g9,0,none⟩) (m+1) dh,115,1,m+1,ys++[.pointer q]⟩) i0 { d i0 with xs:=((d i0).xs.set o (.slice (some ⟨g8,0,none⟩) (m+1) aF)).set (o+1) (.slice (some ⟨g9,0,none⟩) (m+1) dh) }) (w6.setCell ⟨b,o+1,none⟩ (.slice (some ⟨g9,0,none⟩) (m+1) dh)) from fun g9 dh w6 h2 h3 h5=>by
  have st1:Stp n0 d2 W5 (updR d2 ic ⟨.slice (some ⟨g9,0,none⟩) (m+1) dh,115,1,m+1,ys++[.pointer q]⟩) w6:=by
   refine Stp.upd (i:=ic) lW ((Chg.row h3).mono fun b' _ hb'=>by rw[e2'];exact hb') h2 (fun b' hb'=>?_);rw[e2'];rcases h5 with h5|h5
   ·exact .inl (h5▸hb')
   ·exact .inr (by rw[h5] at hb';injection hb' with hb';omega)
  have hd0:updR d2 ic ⟨.slice (some ⟨g9,0,none⟩) (m+1) dh,115,1,m+1,ys++[.pointer q]⟩ i0={ d i0 with xs:=(d i0).xs.set o (.slice (some ⟨g8,0,none⟩) (m+1) aF) }:=(zkk h02).trans nJ;have z0:w6.cell? ⟨b,o+1,none⟩=some (.slice A2 m c2):=by
   rw[<-e2];exact st1.rws.cell i0 (by rw[hd0];exact hb) (by rw[hd0];show((d i0).xs.set o _)[o+1]?=_;rw[List.getElem?_set_ne (by omega)];exact hoc)
  have zf:w6.frozen? ⟨b,o+1,none⟩=false:=st1.rws.frozen i0 (by rw[hd0];exact hb) (o+1);have st2:=Stp.set (i:=i0) st1.rws (g:=b) (by rw[hd0];exact hb) (o:=o+1) (by rw[hd0];simpa using hol1) (.slice (some ⟨g9,0,none⟩) (m+1) dh);rw[hd0] at st2;exact⟨z0,zf,HST.out.trans ((st1.trans st2).after q5 HST.out.rws)⟩)
 clear lW q5 qE nJ e2' vP;go_wp2_with (at_builtin;refine wpList_append_own_at (P:=Tryz.prog) _ rfl (.tmp 20) (.tmp 22) 108 rfl n0 115 i2 _ 1 8 Tryz.underlying108 hi2 hy0 hy1 hy2 rfl (by decide) (.slice A2 m c2) m ys rfl hrc5 ⟨W4.heap.size,0,none⟩ 1 1 [.pointer q] rfl rfl HN5.out (by intro u hu;simp at hu;rw[hu];rfl) (by unfold maxLen;omega) (by omega) (by omega) ?_;intro vc w6 h2 h3 h4 h5;obtain⟨g9,dh,rfl⟩:=ownsRow_succ h2;obtain⟨z0,zf,hfin⟩:=HKEY.out g9 dh w6 h2 h3 h5;have aC:=zh hfin;clear h2 h3 h4 h5 hfin)
 go_end0;refine⟨⟨_,rfl⟩,.slice (some ⟨g8,0,none⟩) (m+1) aF,.slice (some ⟨g9,0,none⟩) (m+1) dh,?_⟩;have:=aC.out;rw[<-HD2.out] at this;refine this.cast ?_;funext j;by_cases j0:j=i0
 ·subst j0;simp
 ·simp only[updR,j0,if_false]
end Go.Proofs.YtghbhbdnkjjnnaaGreat
