/-
  Texts of the proof, put together without their remarks: Ast3, Sk, Kg, Ip, Trp, Ig, Eqv, Ir.
-/
import Derived.Test.YtckhofdinldhpaaGreatS4
import Derived.Recover
set_option linter.unusedSimpArgs false
set_option linter.unusedVariables false
set_option maxHeartbeats 8000000
set_option maxRecDepth 100000
namespace Go.Proofs.YtckhofdinldhpaaGreat
open Go.RowKit
def zlU (t:T):Prop:=∀ (v:Value) (w:World),NV w Any t v->Calls Tryz.prog 56 #[v] w fun e w'=>e=.returned (.bool (isS t))/\Below w.heap.size w w'
def zlo (t:T):Prop:=∀ (v:Value) (w:World),NV w Any t v->Calls Tryz.prog 91 #[v] w fun e w'=>e=.returned (.bool (isB t))/\Below w.heap.size w w'
theorem ztU (n:Int) (s:ByteArray) (ks:List T) (aV:∀ t∈ks,zlo t):zlU (.nd 40 n s ks):=by
 intro v w hv;have HX:=zh (show isS (.nd 40 n s ks)=(zkq n s&&zkK 2 (fun i=>if i=0 then isP else isE) ks) by simp[isS]);have IH:=zh aV;have HV:=zh hv;obtain⟨Ad,c,rfl,hf,hlk,hlc,hrow⟩:=hv.open_;simp only[T.k_nd,T.n_nd,T.s_nd,T.ks_nd] at *
 have aD:=zkN hlk;clear hf hv hlk hrow hlc aV;by_cases hnb:zkq n s=true
 ·go_enter Tryz.func56,Tryz.ntmps56;go_wp2_with fail;refine(zkn _ _ _ _ _ _ _).mono ?_;rintro e w1 ⟨rfl,hb1⟩;obtain⟨hc1,hf1⟩:=zlv hb1;have hbb:Below w.heap.size w w1:=((Below.refl _ _).alloc (Nat.le_refl _) _).trans (hb1.mono (by simp));go_wp2_with fail;refine(zkR (.nd 40 n s ks) _ _ (HV.out.later (hbb.alloc hbb.size _)) _ 2 (fun i=>if i=0 then 101 else 102) (fun i=>if i=0 then Tryz.f101 else Tryz.f102) (fun i=>if i=0 then isP else isE) (by decide) (by simp) (fun i hi=>zmb (by rcases i with _|_|_|_|i<;>first|omega|rfl)) (fun i hi=>by rcases i with _|i;exact zk8;exact zk4) (fun hl i hi=>by rcases i with _|i;exact zkP _;exact zkO _)).mono ?_;rintro e w2 ⟨rfl,hb2⟩;have hbc:Below w.heap.size w w2:=(hbb.alloc hbb.size _).trans (hb2.mono (by have:=hbb.size;simp;omega));go_wp2_with fail;go_ret;exact⟨by rw[HX.out];simp[*],hbc⟩
 ·have hnb':zkq n s=false:=by simpa using hnb
  clear hnb;go_enter Tryz.func56,Tryz.ntmps56;go_wp2_with fail;refine(zkn _ _ _ _ _ _ _).mono ?_;rintro e w1 ⟨rfl,hb1⟩;have hbb:Below w.heap.size w w1:=((Below.refl _ _).alloc (Nat.le_refl _) _).trans (hb1.mono (by simp));go_wp2_with fail;go_ret;exact⟨by rw[HX.out];simp[*],hbb⟩
theorem ztT (n:Int) (s:ByteArray) (ks:List T) (aV:∀ t∈ks,zlo t):zlU (.nd 41 n s ks):=by
 intro v w hv;have HX:=zh (show isS (.nd 41 n s ks)=(zkq n s&&zkK 2 (fun i=>if i=0 then isP else isE) ks) by simp[isS]);have IH:=zh aV;have HV:=zh hv;obtain⟨Ad,c,rfl,hf,hlk,hlc,hrow⟩:=hv.open_;simp only[T.k_nd,T.n_nd,T.s_nd,T.ks_nd] at *
 have aD:=zkN hlk;clear hf hv hlk hrow hlc aV;by_cases hnb:zkq n s=true
 ·go_enter Tryz.func56,Tryz.ntmps56;go_wp2_with fail;refine(zkn _ _ _ _ _ _ _).mono ?_;rintro e w1 ⟨rfl,hb1⟩;obtain⟨hc1,hf1⟩:=zlv hb1;have hbb:Below w.heap.size w w1:=((Below.refl _ _).alloc (Nat.le_refl _) _).trans (hb1.mono (by simp));go_wp2_with fail;refine(zkR (.nd 41 n s ks) _ _ (HV.out.later (hbb.alloc hbb.size _)) _ 2 (fun i=>if i=0 then 101 else 102) (fun i=>if i=0 then Tryz.f101 else Tryz.f102) (fun i=>if i=0 then isP else isE) (by decide) (by simp) (fun i hi=>zmb (by rcases i with _|_|_|_|i<;>first|omega|rfl)) (fun i hi=>by rcases i with _|i;exact zk8;exact zk4) (fun hl i hi=>by rcases i with _|i;exact zkP _;exact zkO _)).mono ?_;rintro e w2 ⟨rfl,hb2⟩;have hbc:Below w.heap.size w w2:=(hbb.alloc hbb.size _).trans (hb2.mono (by have:=hbb.size;simp;omega));go_wp2_with fail;go_ret;exact⟨by rw[HX.out];simp[*],hbc⟩
 ·have hnb':zkq n s=false:=by simpa using hnb
  clear hnb;go_enter Tryz.func56,Tryz.ntmps56;go_wp2_with fail;refine(zkn _ _ _ _ _ _ _).mono ?_;rintro e w1 ⟨rfl,hb1⟩;have hbb:Below w.heap.size w w1:=((Below.refl _ _).alloc (Nat.le_refl _) _).trans (hb1.mono (by simp));go_wp2_with fail;go_ret;exact⟨by rw[HX.out];simp[*],hbb⟩
theorem ztS (n:Int) (s:ByteArray) (ks:List T) (aV:∀ t∈ks,zlo t):zlU (.nd 42 n s ks):=by
 intro v w hv;have HX:=zh (show isS (.nd 42 n s ks)=(zkq n s&&zkK 2 (fun i=>if i=0 then isP else isE) ks) by simp[isS]);have IH:=zh aV;have HV:=zh hv;obtain⟨Ad,c,rfl,hf,hlk,hlc,hrow⟩:=hv.open_;simp only[T.k_nd,T.n_nd,T.s_nd,T.ks_nd] at *
 have aD:=zkN hlk;clear hf hv hlk hrow hlc aV;by_cases hnb:zkq n s=true
 ·go_enter Tryz.func56,Tryz.ntmps56;go_wp2_with fail;refine(zkn _ _ _ _ _ _ _).mono ?_;rintro e w1 ⟨rfl,hb1⟩;obtain⟨hc1,hf1⟩:=zlv hb1;have hbb:Below w.heap.size w w1:=((Below.refl _ _).alloc (Nat.le_refl _) _).trans (hb1.mono (by simp));go_wp2_with fail;refine(zkR (.nd 42 n s ks) _ _ (HV.out.later (hbb.alloc hbb.size _)) _ 2 (fun i=>if i=0 then 101 else 102) (fun i=>if i=0 then Tryz.f101 else Tryz.f102) (fun i=>if i=0 then isP else isE) (by decide) (by simp) (fun i hi=>zmb (by rcases i with _|_|_|_|i<;>first|omega|rfl)) (fun i hi=>by rcases i with _|i;exact zk8;exact zk4) (fun hl i hi=>by rcases i with _|i;exact zkP _;exact zkO _)).mono ?_;rintro e w2 ⟨rfl,hb2⟩;have hbc:Below w.heap.size w w2:=(hbb.alloc hbb.size _).trans (hb2.mono (by have:=hbb.size;simp;omega));go_wp2_with fail;go_ret;exact⟨by rw[HX.out];simp[*],hbc⟩
 ·have hnb':zkq n s=false:=by simpa using hnb
  clear hnb;go_enter Tryz.func56,Tryz.ntmps56;go_wp2_with fail;refine(zkn _ _ _ _ _ _ _).mono ?_;rintro e w1 ⟨rfl,hb1⟩;have hbb:Below w.heap.size w w1:=((Below.refl _ _).alloc (Nat.le_refl _) _).trans (hb1.mono (by simp));go_wp2_with fail;go_ret;exact⟨by rw[HX.out];simp[*],hbb⟩
theorem ztE (n:Int) (s:ByteArray) (ks:List T) (aV:∀ t∈ks,zlo t):zlU (.nd 56 n s ks):=by
 intro v w hv;have HX:=zh (show isS (.nd 56 n s ks)=(zkq n s&&zkK 2 (fun i=>if i=0 then isP else isE) ks) by simp[isS]);have IH:=zh aV;have HV:=zh hv;obtain⟨Ad,c,rfl,hf,hlk,hlc,hrow⟩:=hv.open_;simp only[T.k_nd,T.n_nd,T.s_nd,T.ks_nd] at *
 have aD:=zkN hlk;clear hf hv hlk hrow hlc aV;by_cases hnb:zkq n s=true
 ·go_enter Tryz.func56,Tryz.ntmps56;go_wp2_with fail;refine(zkn _ _ _ _ _ _ _).mono ?_;rintro e w1 ⟨rfl,hb1⟩;obtain⟨hc1,hf1⟩:=zlv hb1;have hbb:Below w.heap.size w w1:=((Below.refl _ _).alloc (Nat.le_refl _) _).trans (hb1.mono (by simp));go_wp2_with fail;refine(zkR (.nd 56 n s ks) _ _ (HV.out.later (hbb.alloc hbb.size _)) _ 2 (fun i=>if i=0 then 101 else 102) (fun i=>if i=0 then Tryz.f101 else Tryz.f102) (fun i=>if i=0 then isP else isE) (by decide) (by simp) (fun i hi=>zmb (by rcases i with _|_|_|_|i<;>first|omega|rfl)) (fun i hi=>by rcases i with _|i;exact zk8;exact zk4) (fun hl i hi=>by rcases i with _|i;exact zkP _;exact zkO _)).mono ?_;rintro e w2 ⟨rfl,hb2⟩;have hbc:Below w.heap.size w w2:=(hbb.alloc hbb.size _).trans (hb2.mono (by have:=hbb.size;simp;omega));go_wp2_with fail;go_ret;exact⟨by rw[HX.out];simp[*],hbc⟩
 ·have hnb':zkq n s=false:=by simpa using hnb
  clear hnb;go_enter Tryz.func56,Tryz.ntmps56;go_wp2_with fail;refine(zkn _ _ _ _ _ _ _).mono ?_;rintro e w1 ⟨rfl,hb1⟩;have hbb:Below w.heap.size w w1:=((Below.refl _ _).alloc (Nat.le_refl _) _).trans (hb1.mono (by simp));go_wp2_with fail;go_ret;exact⟨by rw[HX.out];simp[*],hbb⟩
theorem ztR (n:Int) (s:ByteArray) (ks:List T) (aV:∀ t∈ks,zlo t):zlU (.nd 43 n s ks):=by
 intro v w hv;have HX:=zh (show isS (.nd 43 n s ks)=(zkq n s&&zkK 2 (fun _=>isP) ks) by simp[isS]);have IH:=zh aV;have HV:=zh hv;obtain⟨Ad,c,rfl,hf,hlk,hlc,hrow⟩:=hv.open_;simp only[T.k_nd,T.n_nd,T.s_nd,T.ks_nd] at *
 have aD:=zkN hlk;clear hf hv hlk hrow hlc aV;by_cases hnb:zkq n s=true
 ·go_enter Tryz.func56,Tryz.ntmps56;go_wp2_with fail;refine(zkn _ _ _ _ _ _ _).mono ?_;rintro e w1 ⟨rfl,hb1⟩;obtain⟨hc1,hf1⟩:=zlv hb1;have hbb:Below w.heap.size w w1:=((Below.refl _ _).alloc (Nat.le_refl _) _).trans (hb1.mono (by simp));go_wp2_with fail;refine(zkR (.nd 43 n s ks) _ _ (HV.out.later (hbb.alloc hbb.size _)) _ 2 (fun _=>101) (fun _=>Tryz.f101) (fun _=>isP) (by decide) (by simp) (fun i hi=>zmb (by rcases i with _|_|_|_|i<;>first|omega|rfl)) (fun _ _=>zk8) (fun hl i hi=>zkP _)).mono ?_;rintro e w2 ⟨rfl,hb2⟩;have hbc:Below w.heap.size w w2:=(hbb.alloc hbb.size _).trans (hb2.mono (by have:=hbb.size;simp;omega));go_wp2_with fail;go_ret;exact⟨by rw[HX.out];simp[*],hbc⟩
 ·have hnb':zkq n s=false:=by simpa using hnb
  clear hnb;go_enter Tryz.func56,Tryz.ntmps56;go_wp2_with fail;refine(zkn _ _ _ _ _ _ _).mono ?_;rintro e w1 ⟨rfl,hb1⟩;have hbb:Below w.heap.size w w1:=((Below.refl _ _).alloc (Nat.le_refl _) _).trans (hb1.mono (by simp));go_wp2_with fail;go_ret;exact⟨by rw[HX.out];simp[*],hbb⟩
theorem ztQ (n:Int) (s:ByteArray) (ks:List T) (aV:∀ t∈ks,zlo t):zlU (.nd 44 n s ks):=by
 intro v w hv;have HX:=zh (show isS (.nd 44 n s ks)=(zkC n s&&zkK 1 (fun _=>isP) ks) by simp[isS]);have IH:=zh aV;have HV:=zh hv;obtain⟨Ad,c,rfl,hf,hlk,hlc,hrow⟩:=hv.open_;simp only[T.k_nd,T.n_nd,T.s_nd,T.ks_nd] at *
 have aD:=zkN hlk;clear hf hv hlk hrow hlc aV;by_cases hnb:zkC n s=true
 ·go_enter Tryz.func56,Tryz.ntmps56;go_wp2_with fail;refine(zky _ _ _ _ _ _ _).mono ?_;rintro e w1 ⟨rfl,hb1⟩;obtain⟨hc1,hf1⟩:=zlv hb1;have hbb:Below w.heap.size w w1:=((Below.refl _ _).alloc (Nat.le_refl _) _).trans (hb1.mono (by simp));go_wp2_with fail;refine(zkR (.nd 44 n s ks) _ _ (HV.out.later (hbb.alloc hbb.size _)) _ 1 (fun _=>101) (fun _=>Tryz.f101) (fun _=>isP) (by decide) (by simp) (fun i hi=>zmb (by rcases i with _|_|_|_|i<;>first|omega|rfl)) (fun _ _=>zk8) (fun hl i hi=>zkP _)).mono ?_;rintro e w2 ⟨rfl,hb2⟩;have hbc:Below w.heap.size w w2:=(hbb.alloc hbb.size _).trans (hb2.mono (by have:=hbb.size;simp;omega));go_wp2_with fail;go_ret;exact⟨by rw[HX.out];simp[*],hbc⟩
 ·have hnb':zkC n s=false:=by simpa using hnb
  clear hnb;go_enter Tryz.func56,Tryz.ntmps56;go_wp2_with fail;refine(zky _ _ _ _ _ _ _).mono ?_;rintro e w1 ⟨rfl,hb1⟩;have hbb:Below w.heap.size w w1:=((Below.refl _ _).alloc (Nat.le_refl _) _).trans (hb1.mono (by simp));go_wp2_with fail;go_ret;exact⟨by rw[HX.out];simp[*],hbb⟩
theorem ztP (n:Int) (s:ByteArray) (ks:List T) (aV:∀ t∈ks,zlo t):zlU (.nd 45 n s ks):=by
 intro v w hv;have HX:=zh (show isS (.nd 45 n s ks)=(zkC n s&&zkK 1 (fun _=>isP) ks) by simp[isS]);have IH:=zh aV;have HV:=zh hv;obtain⟨Ad,c,rfl,hf,hlk,hlc,hrow⟩:=hv.open_;simp only[T.k_nd,T.n_nd,T.s_nd,T.ks_nd] at *
 have aD:=zkN hlk;clear hf hv hlk hrow hlc aV;by_cases hnb:zkC n s=true
 ·go_enter Tryz.func56,Tryz.ntmps56;go_wp2_with fail;refine(zky _ _ _ _ _ _ _).mono ?_;rintro e w1 ⟨rfl,hb1⟩;obtain⟨hc1,hf1⟩:=zlv hb1;have hbb:Below w.heap.size w w1:=((Below.refl _ _).alloc (Nat.le_refl _) _).trans (hb1.mono (by simp));go_wp2_with fail;refine(zkR (.nd 45 n s ks) _ _ (HV.out.later (hbb.alloc hbb.size _)) _ 1 (fun _=>101) (fun _=>Tryz.f101) (fun _=>isP) (by decide) (by simp) (fun i hi=>zmb (by rcases i with _|_|_|_|i<;>first|omega|rfl)) (fun _ _=>zk8) (fun hl i hi=>zkP _)).mono ?_;rintro e w2 ⟨rfl,hb2⟩;have hbc:Below w.heap.size w w2:=(hbb.alloc hbb.size _).trans (hb2.mono (by have:=hbb.size;simp;omega));go_wp2_with fail;go_ret;exact⟨by rw[HX.out];simp[*],hbc⟩
 ·have hnb':zkC n s=false:=by simpa using hnb
  clear hnb;go_enter Tryz.func56,Tryz.ntmps56;go_wp2_with fail;refine(zky _ _ _ _ _ _ _).mono ?_;rintro e w1 ⟨rfl,hb1⟩;have hbb:Below w.heap.size w w1:=((Below.refl _ _).alloc (Nat.le_refl _) _).trans (hb1.mono (by simp));go_wp2_with fail;go_ret;exact⟨by rw[HX.out];simp[*],hbb⟩
theorem ztO (n:Int) (s:ByteArray) (ks:List T) (aV:∀ t∈ks,zlo t):zlU (.nd 46 n s ks):=by
 intro v w hv;have HX:=zh (show isS (.nd 46 n s ks)=(zkq n s&&zkK 1 (fun _=>isP) ks) by simp[isS]);have IH:=zh aV;have HV:=zh hv;obtain⟨Ad,c,rfl,hf,hlk,hlc,hrow⟩:=hv.open_;simp only[T.k_nd,T.n_nd,T.s_nd,T.ks_nd] at *
 have aD:=zkN hlk;clear hf hv hlk hrow hlc aV;by_cases hnb:zkq n s=true
 ·go_enter Tryz.func56,Tryz.ntmps56;go_wp2_with fail;refine(zkn _ _ _ _ _ _ _).mono ?_;rintro e w1 ⟨rfl,hb1⟩;obtain⟨hc1,hf1⟩:=zlv hb1;have hbb:Below w.heap.size w w1:=((Below.refl _ _).alloc (Nat.le_refl _) _).trans (hb1.mono (by simp));go_wp2_with fail;refine(zkR (.nd 46 n s ks) _ _ (HV.out.later (hbb.alloc hbb.size _)) _ 1 (fun _=>101) (fun _=>Tryz.f101) (fun _=>isP) (by decide) (by simp) (fun i hi=>zmb (by rcases i with _|_|_|_|i<;>first|omega|rfl)) (fun _ _=>zk8) (fun hl i hi=>zkP _)).mono ?_;rintro e w2 ⟨rfl,hb2⟩;have hbc:Below w.heap.size w w2:=(hbb.alloc hbb.size _).trans (hb2.mono (by have:=hbb.size;simp;omega));go_wp2_with fail;go_ret;exact⟨by rw[HX.out];simp[*],hbc⟩
 ·have hnb':zkq n s=false:=by simpa using hnb
  clear hnb;go_enter Tryz.func56,Tryz.ntmps56;go_wp2_with fail;refine(zkn _ _ _ _ _ _ _).mono ?_;rintro e w1 ⟨rfl,hb1⟩;have hbb:Below w.heap.size w w1:=((Below.refl _ _).alloc (Nat.le_refl _) _).trans (hb1.mono (by simp));go_wp2_with fail;go_ret;exact⟨by rw[HX.out];simp[*],hbb⟩
theorem ztN (n:Int) (s:ByteArray) (ks:List T) (aV:∀ t∈ks,zlo t):zlU (.nd 47 n s ks):=by
 intro v w hv;have HX:=zh (show isS (.nd 47 n s ks)=(zkq n s&&zkK 1 (fun _=>isP) ks) by simp[isS]);have IH:=zh aV;have HV:=zh hv;obtain⟨Ad,c,rfl,hf,hlk,hlc,hrow⟩:=hv.open_;simp only[T.k_nd,T.n_nd,T.s_nd,T.ks_nd] at *
 have aD:=zkN hlk;clear hf hv hlk hrow hlc aV;by_cases hnb:zkq n s=true
 ·go_enter Tryz.func56,Tryz.ntmps56;go_wp2_with fail;refine(zkn _ _ _ _ _ _ _).mono ?_;rintro e w1 ⟨rfl,hb1⟩;obtain⟨hc1,hf1⟩:=zlv hb1;have hbb:Below w.heap.size w w1:=((Below.refl _ _).alloc (Nat.le_refl _) _).trans (hb1.mono (by simp));go_wp2_with fail;refine(zkR (.nd 47 n s ks) _ _ (HV.out.later (hbb.alloc hbb.size _)) _ 1 (fun _=>101) (fun _=>Tryz.f101) (fun _=>isP) (by decide) (by simp) (fun i hi=>zmb (by rcases i with _|_|_|_|i<;>first|omega|rfl)) (fun _ _=>zk8) (fun hl i hi=>zkP _)).mono ?_;rintro e w2 ⟨rfl,hb2⟩;have hbc:Below w.heap.size w w2:=(hbb.alloc hbb.size _).trans (hb2.mono (by have:=hbb.size;simp;omega));go_wp2_with fail;go_ret;exact⟨by rw[HX.out];simp[*],hbc⟩
 ·have hnb':zkq n s=false:=by simpa using hnb
  clear hnb;go_enter Tryz.func56,Tryz.ntmps56;go_wp2_with fail;refine(zkn _ _ _ _ _ _ _).mono ?_;rintro e w1 ⟨rfl,hb1⟩;have hbb:Below w.heap.size w w1:=((Below.refl _ _).alloc (Nat.le_refl _) _).trans (hb1.mono (by simp));go_wp2_with fail;go_ret;exact⟨by rw[HX.out];simp[*],hbb⟩
theorem ztM (n:Int) (s:ByteArray) (ks:List T) (aV:∀ t∈ks,zlo t):zlU (.nd 48 n s ks):=by
 intro v w hv;have HX:=zh (show isS (.nd 48 n s ks)=(zkq n s&&zkK 1 (fun _=>isP) ks) by simp[isS]);have IH:=zh aV;have HV:=zh hv;obtain⟨Ad,c,rfl,hf,hlk,hlc,hrow⟩:=hv.open_;simp only[T.k_nd,T.n_nd,T.s_nd,T.ks_nd] at *
 have aD:=zkN hlk;clear hf hv hlk hrow hlc aV;by_cases hnb:zkq n s=true
 ·go_enter Tryz.func56,Tryz.ntmps56;go_wp2_with fail;refine(zkn _ _ _ _ _ _ _).mono ?_;rintro e w1 ⟨rfl,hb1⟩;obtain⟨hc1,hf1⟩:=zlv hb1;have hbb:Below w.heap.size w w1:=((Below.refl _ _).alloc (Nat.le_refl _) _).trans (hb1.mono (by simp));go_wp2_with fail;refine(zkR (.nd 48 n s ks) _ _ (HV.out.later (hbb.alloc hbb.size _)) _ 1 (fun _=>101) (fun _=>Tryz.f101) (fun _=>isP) (by decide) (by simp) (fun i hi=>zmb (by rcases i with _|_|_|_|i<;>first|omega|rfl)) (fun _ _=>zk8) (fun hl i hi=>zkP _)).mono ?_;rintro e w2 ⟨rfl,hb2⟩;have hbc:Below w.heap.size w w2:=(hbb.alloc hbb.size _).trans (hb2.mono (by have:=hbb.size;simp;omega));go_wp2_with fail;go_ret;exact⟨by rw[HX.out];simp[*],hbc⟩
 ·have hnb':zkq n s=false:=by simpa using hnb
  clear hnb;go_enter Tryz.func56,Tryz.ntmps56;go_wp2_with fail;refine(zkn _ _ _ _ _ _ _).mono ?_;rintro e w1 ⟨rfl,hb1⟩;have hbb:Below w.heap.size w w1:=((Below.refl _ _).alloc (Nat.le_refl _) _).trans (hb1.mono (by simp));go_wp2_with fail;go_ret;exact⟨by rw[HX.out];simp[*],hbb⟩
theorem ztL (n:Int) (s:ByteArray) (ks:List T) (aV:∀ t∈ks,zlo t):zlU (.nd 49 n s ks):=by
 intro v w hv;have HX:=zh (show isS (.nd 49 n s ks)=(zkq n s&&zkK 1 (fun _=>isP) ks) by simp[isS]);have IH:=zh aV;have HV:=zh hv;obtain⟨Ad,c,rfl,hf,hlk,hlc,hrow⟩:=hv.open_;simp only[T.k_nd,T.n_nd,T.s_nd,T.ks_nd] at *
 have aD:=zkN hlk;clear hf hv hlk hrow hlc aV;by_cases hnb:zkq n s=true
 ·go_enter Tryz.func56,Tryz.ntmps56;go_wp2_with fail;refine(zkn _ _ _ _ _ _ _).mono ?_;rintro e w1 ⟨rfl,hb1⟩;obtain⟨hc1,hf1⟩:=zlv hb1;have hbb:Below w.heap.size w w1:=((Below.refl _ _).alloc (Nat.le_refl _) _).trans (hb1.mono (by simp));go_wp2_with fail;refine(zkR (.nd 49 n s ks) _ _ (HV.out.later (hbb.alloc hbb.size _)) _ 1 (fun _=>101) (fun _=>Tryz.f101) (fun _=>isP) (by decide) (by simp) (fun i hi=>zmb (by rcases i with _|_|_|_|i<;>first|omega|rfl)) (fun _ _=>zk8) (fun hl i hi=>zkP _)).mono ?_;rintro e w2 ⟨rfl,hb2⟩;have hbc:Below w.heap.size w w2:=(hbb.alloc hbb.size _).trans (hb2.mono (by have:=hbb.size;simp;omega));go_wp2_with fail;go_ret;exact⟨by rw[HX.out];simp[*],hbc⟩
 ·have hnb':zkq n s=false:=by simpa using hnb
  clear hnb;go_enter Tryz.func56,Tryz.ntmps56;go_wp2_with fail;refine(zkn _ _ _ _ _ _ _).mono ?_;rintro e w1 ⟨rfl,hb1⟩;have hbb:Below w.heap.size w w1:=((Below.refl _ _).alloc (Nat.le_refl _) _).trans (hb1.mono (by simp));go_wp2_with fail;go_ret;exact⟨by rw[HX.out];simp[*],hbb⟩
theorem ztI (n:Int) (s:ByteArray) (ks:List T) (aV:∀ t∈ks,zlo t):zlU (.nd 52 n s ks):=by
 intro v w hv;have HX:=zh (show isS (.nd 52 n s ks)=(zkq n s&&zkK 4 (pEB 0) ks) by simp[isS,zkK,<-znt]);have IH:=zh aV;have HV:=zh hv;obtain⟨Ad,c,rfl,hf,hlk,hlc,hrow⟩:=hv.open_;simp only[T.k_nd,T.n_nd,T.s_nd,T.ks_nd] at *
 have aD:=zkN hlk;clear hf hv hlk hrow hlc aV;by_cases hnb:zkq n s=true
 ·go_enter Tryz.func56,Tryz.ntmps56;go_wp2_with fail;refine(zkn _ _ _ _ _ _ _).mono ?_;rintro e w1 ⟨rfl,hb1⟩;obtain⟨hc1,hf1⟩:=zlv hb1;have hbb:Below w.heap.size w w1:=((Below.refl _ _).alloc (Nat.le_refl _) _).trans (hb1.mono (by simp));go_wp2_with fail;refine(zkR (.nd 52 n s ks) _ _ (HV.out.later (hbb.alloc hbb.size _)) _ 4 (fun i=>if i=0\/i=3 then 102 else 91) (fun i=>if i=0\/i=3 then Tryz.f102 else Tryz.f91) (pEB 0) (by decide) (by simp) (fun i hi=>zmb (by rcases i with _|_|_|_|i<;>first|omega|rfl)) (fun i hi=>by rcases i with _|_|_|_|i;exact zk4;exact zl4;exact zl4;exact zk4;omega) (fun hl i hi=>by rcases i with _|_|_|_|i;exact zkO _;exact IH.out _ (List.getElem_mem hi);exact IH.out _ (List.getElem_mem hi);exact zkO _;exact absurd hi (by simp only[T.ks_nd] at hl ⊢;omega))).mono ?_;rintro e w2 ⟨rfl,hb2⟩
  have hbc:Below w.heap.size w w2:=(hbb.alloc hbb.size _).trans (hb2.mono (by have:=hbb.size;simp;omega));go_wp2_with fail;go_ret;exact⟨by rw[HX.out];simp[*],hbc⟩
 ·have hnb':zkq n s=false:=by simpa using hnb
  clear hnb;go_enter Tryz.func56,Tryz.ntmps56;go_wp2_with fail;refine(zkn _ _ _ _ _ _ _).mono ?_;rintro e w1 ⟨rfl,hb1⟩;have hbb:Below w.heap.size w w1:=((Below.refl _ _).alloc (Nat.le_refl _) _).trans (hb1.mono (by simp));go_wp2_with fail;go_ret;exact⟨by rw[HX.out];simp[*],hbb⟩
theorem ztH (n:Int) (s:ByteArray) (ks:List T) (aV:∀ t∈ks,zlo t):zlU (.nd 53 n s ks):=by
 intro v w hv;have HX:=zh (show isS (.nd 53 n s ks)=(zkq n s&&zkK 4 (pEB 0) ks) by simp[isS,zkK,<-znt]);have IH:=zh aV;have HV:=zh hv;obtain⟨Ad,c,rfl,hf,hlk,hlc,hrow⟩:=hv.open_;simp only[T.k_nd,T.n_nd,T.s_nd,T.ks_nd] at *
 have aD:=zkN hlk;clear hf hv hlk hrow hlc aV;by_cases hnb:zkq n s=true
 ·go_enter Tryz.func56,Tryz.ntmps56;go_wp2_with fail;refine(zkn _ _ _ _ _ _ _).mono ?_;rintro e w1 ⟨rfl,hb1⟩;obtain⟨hc1,hf1⟩:=zlv hb1;have hbb:Below w.heap.size w w1:=((Below.refl _ _).alloc (Nat.le_refl _) _).trans (hb1.mono (by simp));go_wp2_with fail;refine(zkR (.nd 53 n s ks) _ _ (HV.out.later (hbb.alloc hbb.size _)) _ 4 (fun i=>if i=0\/i=3 then 102 else 91) (fun i=>if i=0\/i=3 then Tryz.f102 else Tryz.f91) (pEB 0) (by decide) (by simp) (fun i hi=>zmb (by rcases i with _|_|_|_|i<;>first|omega|rfl)) (fun i hi=>by rcases i with _|_|_|_|i;exact zk4;exact zl4;exact zl4;exact zk4;omega) (fun hl i hi=>by rcases i with _|_|_|_|i;exact zkO _;exact IH.out _ (List.getElem_mem hi);exact IH.out _ (List.getElem_mem hi);exact zkO _;exact absurd hi (by simp only[T.ks_nd] at hl ⊢;omega))).mono ?_;rintro e w2 ⟨rfl,hb2⟩
  have hbc:Below w.heap.size w w2:=(hbb.alloc hbb.size _).trans (hb2.mono (by have:=hbb.size;simp;omega));go_wp2_with fail;go_ret;exact⟨by rw[HX.out];simp[*],hbc⟩
 ·have hnb':zkq n s=false:=by simpa using hnb
  clear hnb;go_enter Tryz.func56,Tryz.ntmps56;go_wp2_with fail;refine(zkn _ _ _ _ _ _ _).mono ?_;rintro e w1 ⟨rfl,hb1⟩;have hbb:Below w.heap.size w w1:=((Below.refl _ _).alloc (Nat.le_refl _) _).trans (hb1.mono (by simp));go_wp2_with fail;go_ret;exact⟨by rw[HX.out];simp[*],hbb⟩
theorem ztG (n:Int) (s:ByteArray) (ks:List T) (aV:∀ t∈ks,zlo t):zlU (.nd 54 n s ks):=by
 intro v w hv;have HX:=zh (show isS (.nd 54 n s ks)=(zkC n s&&zkK 3 (pEB 4) ks) by simp[isS,zkK,<-znt]);have IH:=zh aV;have HV:=zh hv;obtain⟨Ad,c,rfl,hf,hlk,hlc,hrow⟩:=hv.open_;simp only[T.k_nd,T.n_nd,T.s_nd,T.ks_nd] at *
 have aD:=zkN hlk;clear hf hv hlk hrow hlc aV;by_cases hnb:zkC n s=true
 ·go_enter Tryz.func56,Tryz.ntmps56;go_wp2_with fail;refine(zky _ _ _ _ _ _ _).mono ?_;rintro e w1 ⟨rfl,hb1⟩;obtain⟨hc1,hf1⟩:=zlv hb1;have hbb:Below w.heap.size w w1:=((Below.refl _ _).alloc (Nat.le_refl _) _).trans (hb1.mono (by simp));go_wp2_with fail;refine(zkR (.nd 54 n s ks) _ _ (HV.out.later (hbb.alloc hbb.size _)) _ 3 (fun i=>if i=1 then 91 else 102) (fun i=>if i=1 then Tryz.f91 else Tryz.f102) (pEB 4) (by decide) (by simp) (fun i hi=>zmb (by rcases i with _|_|_|_|i<;>first|omega|rfl)) (fun i hi=>by rcases i with _|_|_|i;exact zk4;exact zl4;exact zk4;omega) (fun hl i hi=>by rcases i with _|_|_|i;exact zkO _;exact IH.out _ (List.getElem_mem hi);exact zkO _;exact absurd hi (by simp only[T.ks_nd] at hl ⊢;omega))).mono ?_;rintro e w2 ⟨rfl,hb2⟩
  have hbc:Below w.heap.size w w2:=(hbb.alloc hbb.size _).trans (hb2.mono (by have:=hbb.size;simp;omega));go_wp2_with fail;go_ret;exact⟨by rw[HX.out];simp[*],hbc⟩
 ·have hnb':zkC n s=false:=by simpa using hnb
  clear hnb;go_enter Tryz.func56,Tryz.ntmps56;go_wp2_with fail;refine(zky _ _ _ _ _ _ _).mono ?_;rintro e w1 ⟨rfl,hb1⟩;have hbb:Below w.heap.size w w1:=((Below.refl _ _).alloc (Nat.le_refl _) _).trans (hb1.mono (by simp));go_wp2_with fail;go_ret;exact⟨by rw[HX.out];simp[*],hbb⟩
theorem ztF (n:Int) (s:ByteArray) (ks:List T) (aV:∀ t∈ks,zlo t):zlU (.nd 55 n s ks):=by
 intro v w hv;have HX:=zh (show isS (.nd 55 n s ks)=(zkC n s&&zkK 1 (pEB 7) ks) by simp[isS,zkK,<-znt]);have IH:=zh aV;have HV:=zh hv;obtain⟨Ad,c,rfl,hf,hlk,hlc,hrow⟩:=hv.open_;simp only[T.k_nd,T.n_nd,T.s_nd,T.ks_nd] at *
 have aD:=zkN hlk;clear hf hv hlk hrow hlc aV;by_cases hnb:zkC n s=true
 ·go_enter Tryz.func56,Tryz.ntmps56;go_wp2_with fail;refine(zky _ _ _ _ _ _ _).mono ?_;rintro e w1 ⟨rfl,hb1⟩;obtain⟨hc1,hf1⟩:=zlv hb1;have hbb:Below w.heap.size w w1:=((Below.refl _ _).alloc (Nat.le_refl _) _).trans (hb1.mono (by simp));go_wp2_with fail;refine(zkR (.nd 55 n s ks) _ _ (HV.out.later (hbb.alloc hbb.size _)) _ 1 (fun _=>91) (fun _=>Tryz.f91) (pEB 7) (by decide) (by simp) (fun i hi=>zmb (by rcases i with _|_|_|_|i<;>first|omega|rfl)) (fun _ _=>zl4) (fun hl i hi=>by rcases i with _|i;exact IH.out _ (List.getElem_mem hi);exact absurd hi (by simp only[T.ks_nd] at hl ⊢;omega))).mono ?_;rintro e w2 ⟨rfl,hb2⟩;have hbc:Below w.heap.size w w2:=(hbb.alloc hbb.size _).trans (hb2.mono (by have:=hbb.size;simp;omega));go_wp2_with fail;go_ret;exact⟨by rw[HX.out];simp[*],hbc⟩
 ·have hnb':zkC n s=false:=by simpa using hnb
  clear hnb;go_enter Tryz.func56,Tryz.ntmps56;go_wp2_with fail;refine(zky _ _ _ _ _ _ _).mono ?_;rintro e w1 ⟨rfl,hb1⟩;have hbb:Below w.heap.size w w1:=((Below.refl _ _).alloc (Nat.le_refl _) _).trans (hb1.mono (by simp));go_wp2_with fail;go_ret;exact⟨by rw[HX.out];simp[*],hbb⟩
theorem ztK (n:Int) (s:ByteArray) (ks:List T):zlU (.nd 50 n s ks):=by
 intro v w hv;have HX:=zh (show isS (.nd 50 n s ks)=(zkC n s&&decide (ks.length<=8)&&zkA (fun _=>isV) 0 ks) by simp[isS]);have HV:=zh hv;obtain⟨Ad,c,rfl,hf,hlk,hlc,hrow⟩:=hv.open_;simp only[T.k_nd,T.n_nd,T.s_nd,T.ks_nd] at *
 have aD:=zkN hlk;clear hf hv hlc;by_cases hnb:zkC n s=true
 ·by_cases yo:ks.length<=8
  ·go_enter Tryz.func56,Tryz.ntmps56;go_wp2_with fail;refine(zky _ _ _ _ _ _ _).mono ?_;rintro e w1 ⟨rfl,hb1⟩;obtain⟨hc1,hf1⟩:=zlv hb1;have hbb:Below w.heap.size w w1:=((Below.refl _ _).alloc (Nat.le_refl _) _).trans (hb1.mono (by simp));go_wp2_with fail;refine(zoh ks _ _ _ (hrow.later hbb) hlk _ _ zsU isV (fun i hi=>zpD _)).mono ?_;rintro e w2 ⟨rfl,hb2⟩;have hbc:Below w.heap.size w w2:=hbb.trans (hb2.mono hbb.size);go_wp2_with fail;go_ret;exact⟨by rw[HX.out];simp[*],hbc⟩
  ·have hl9:8<ks.length:=by omega
   clear yo;go_enter Tryz.func56,Tryz.ntmps56;go_wp2_with fail;refine(zky _ _ _ _ _ _ _).mono ?_;rintro e w1 ⟨rfl,hb1⟩;obtain⟨hc1,hf1⟩:=zlv hb1;have hbb:Below w.heap.size w w1:=((Below.refl _ _).alloc (Nat.le_refl _) _).trans (hb1.mono (by simp));go_wp2_with fail;go_ret;exact⟨by rw[HX.out];simp[show ¬ ks.length<=8 by omega],hbb⟩
 ·have hnb':zkC n s=false:=by simpa using hnb
  clear hnb;go_enter Tryz.func56,Tryz.ntmps56;go_wp2_with fail;refine(zky _ _ _ _ _ _ _).mono ?_;rintro e w1 ⟨rfl,hb1⟩;have hbb:Below w.heap.size w w1:=((Below.refl _ _).alloc (Nat.le_refl _) _).trans (hb1.mono (by simp));go_wp2_with fail;go_ret;exact⟨by rw[HX.out];simp[*],hbb⟩
theorem ztJ (n:Int) (s:ByteArray) (ks:List T):zlU (.nd 51 n s ks):=by
 intro v w hv;have HX:=zh (show isS (.nd 51 n s ks)=(zkC n s&&decide (ks.length<=8)&&zkA (fun _=>isV) 0 ks) by simp[isS]);have HV:=zh hv;obtain⟨Ad,c,rfl,hf,hlk,hlc,hrow⟩:=hv.open_;simp only[T.k_nd,T.n_nd,T.s_nd,T.ks_nd] at *
 have aD:=zkN hlk;clear hf hv hlc;by_cases hnb:zkC n s=true
 ·by_cases yo:ks.length<=8
  ·go_enter Tryz.func56,Tryz.ntmps56;go_wp2_with fail;refine(zky _ _ _ _ _ _ _).mono ?_;rintro e w1 ⟨rfl,hb1⟩;obtain⟨hc1,hf1⟩:=zlv hb1;have hbb:Below w.heap.size w w1:=((Below.refl _ _).alloc (Nat.le_refl _) _).trans (hb1.mono (by simp));go_wp2_with fail;refine(zoh ks _ _ _ (hrow.later hbb) hlk _ _ zsU isV (fun i hi=>zpD _)).mono ?_;rintro e w2 ⟨rfl,hb2⟩;have hbc:Below w.heap.size w w2:=hbb.trans (hb2.mono hbb.size);go_wp2_with fail;go_ret;exact⟨by rw[HX.out];simp[*],hbc⟩
  ·have hl9:8<ks.length:=by omega
   clear yo;go_enter Tryz.func56,Tryz.ntmps56;go_wp2_with fail;refine(zky _ _ _ _ _ _ _).mono ?_;rintro e w1 ⟨rfl,hb1⟩;obtain⟨hc1,hf1⟩:=zlv hb1;have hbb:Below w.heap.size w w1:=((Below.refl _ _).alloc (Nat.le_refl _) _).trans (hb1.mono (by simp));go_wp2_with fail;go_ret;exact⟨by rw[HX.out];simp[show ¬ ks.length<=8 by omega],hbb⟩
 ·have hnb':zkC n s=false:=by simpa using hnb
  clear hnb;go_enter Tryz.func56,Tryz.ntmps56;go_wp2_with fail;refine(zky _ _ _ _ _ _ _).mono ?_;rintro e w1 ⟨rfl,hb1⟩;have hbb:Below w.heap.size w w1:=((Below.refl _ _).alloc (Nat.le_refl _) _).trans (hb1.mono (by simp));go_wp2_with fail;go_ret;exact⟨by rw[HX.out];simp[*],hbb⟩
theorem zrS (k n:Int) (s:ByteArray) (ks:List T) (n40:(k==40)=false) (n41:(k==41)=false) (n42:(k==42)=false) (n43:(k==43)=false) (n44:(k==44)=false) (n45:(k==45)=false) (n46:(k==46)=false) (n47:(k==47)=false) (n48:(k==48)=false) (n49:(k==49)=false) (n50:(k==50)=false) (n51:(k==51)=false) (n52:(k==52)=false) (n53:(k==53)=false) (n54:(k==54)=false) (n55:(k==55)=false) (n56:(k==56)=false):zlU (.nd k n s ks):=by
 intro v w hv;obtain⟨Ad,c,rfl,hf,hlk,hlc,hrow⟩:=hv.open_;simp only[T.k_nd,T.n_nd,T.s_nd,T.ks_nd] at *
 have aD:=zkN hlk;have HX:=zh (show isS (.nd k n s ks)=false by
  simp only[beq_eq_false_iff_ne,ne_eq] at n40 n41 n42 n43 n44 n45 n46 n47 n48 n49 n50 n51 n52 n53 n54 n55 n56;rw[isS,if_neg (by omega),if_neg (by omega),if_neg (by omega),if_neg (by omega),if_neg (by omega),if_neg (by omega),if_neg (by omega),if_neg (by omega)])
 clear hf hv hlk hrow hlc;go_enter Tryz.func56,Tryz.ntmps56;go_wp2;go_ret;exact⟨by rw[HX.out];rfl,(Below.refl _ _).alloc (Nat.le_refl _) _⟩
theorem zrW (k n:Int) (s:ByteArray) (ks:List T) (ih:∀ t∈ks,zlU t):zlo (.nd k n s ks):=by
 intro v w hv;have HX:=zh (show isB (.nd k n s ks)=((k==57)&&zkq n s&&zkA (fun _=>isS) 0 ks) by rw[isB,zo5 0];rfl);have IH:=zh ih;obtain⟨Ad,c,rfl,hf,hlk,hlc,hrow⟩:=hv.open_;simp only[T.k_nd,T.n_nd,T.s_nd,T.ks_nd] at *
 have aD:=zkN hlk;clear hf hv hlc ih;by_cases hk:(k==57)=true
 ·by_cases hnb:zkq n s=true
  ·go_enter Tryz.func91,Tryz.ntmps91;go_wp2_with fail;refine(zkn _ _ _ _ _ _ _).mono ?_;rintro e w1 ⟨rfl,hb1⟩;obtain⟨hc1,hf1⟩:=zlv hb1;have hbb:Below w.heap.size w w1:=((Below.refl _ _).alloc (Nat.le_refl _) _).trans (hb1.mono (by simp));go_wp2_with fail;refine(zoh ks _ _ _ (hrow.later hbb) hlk _ _ zuJ isS (fun i hi=>IH.out _ (List.getElem_mem hi))).mono ?_;rintro e w2 ⟨rfl,hb2⟩;have hbc:Below w.heap.size w w2:=hbb.trans (hb2.mono hbb.size);go_wp2_with fail;go_ret;exact⟨by rw[HX.out];simp[*],hbc⟩
  ·have hnb':zkq n s=false:=by simpa using hnb
   clear hnb;go_enter Tryz.func91,Tryz.ntmps91;go_wp2_with fail;refine(zkn _ _ _ _ _ _ _).mono ?_;rintro e w1 ⟨rfl,hb1⟩;have hbb:Below w.heap.size w w1:=((Below.refl _ _).alloc (Nat.le_refl _) _).trans (hb1.mono (by simp));go_wp2_with fail;go_ret;exact⟨by rw[HX.out];simp[*],hbb⟩
 ·have hk':(k==57)=false:=by simpa using hk
  clear hk;go_enter Tryz.func91,Tryz.ntmps91;go_wp2_with fail;go_ret;exact⟨by rw[HX.out];simp[*],(Below.refl _ _).alloc (Nat.le_refl _) _⟩
theorem zrc (t:T):zlU t/\zlo t:=by
 induction t using T.ind with
 | _ k n s ks ih =>
 have ihS:∀ t∈ks,zlU t:=fun t ht=>(ih t ht).1;have aV:∀ t∈ks,zlo t:=fun t ht=>(ih t ht).2;refine⟨?_,zrW k n s ks ihS⟩;by_cases h40:k=40
 ·subst h40;exact ztU n s ks aV
 by_cases h41:k=41
 ·subst h41;exact ztT n s ks aV
 by_cases h42:k=42
 ·subst h42;exact ztS n s ks aV
 by_cases h43:k=43
 ·subst h43;exact ztR n s ks aV
 by_cases rQ:k=44
 ·subst rQ;exact ztQ n s ks aV
 by_cases h45:k=45
 ·subst h45;exact ztP n s ks aV
 by_cases h46:k=46
 ·subst h46;exact ztO n s ks aV
 by_cases h47:k=47
 ·subst h47;exact ztN n s ks aV
 by_cases h48:k=48
 ·subst h48;exact ztM n s ks aV
 by_cases xx:k=49
 ·subst xx;exact ztL n s ks aV
 by_cases h50:k=50
 ·subst h50;exact ztK n s ks
 by_cases lF:k=51
 ·subst lF;exact ztJ n s ks
 by_cases lD:k=52
 ·subst lD;exact ztI n s ks aV
 by_cases mI:k=53
 ·subst mI;exact ztH n s ks aV
 by_cases fZ:k=54
 ·subst fZ;exact ztG n s ks aV
 by_cases gJ:k=55
 ·subst gJ;exact ztF n s ks aV
 by_cases qf:k=56
 ·subst qf;exact ztE n s ks aV
 exact zrS k n s ks (by simpa using h40) (by simpa using h41) (by simpa using h42) (by simpa using h43) (by simpa using rQ) (by simpa using h45) (by simpa using h46) (by simpa using h47) (by simpa using h48) (by simpa using xx) (by simpa using h50) (by simpa using lF) (by simpa using lD) (by simpa using mI) (by simpa using fZ) (by simpa using gJ) (by simpa using qf)
theorem zrT (t:T):zlU t:=(zrc t).1
theorem zqv (t:T):zlo t:=(zrc t).2
end Go.Proofs.YtckhofdinldhpaaGreat
namespace Go.Proofs.YtckhofdinldhpaaGreat
open Go Go.RowKit
theorem zvB {f:Nat->T->Bool} {ks:List T} (h:zkK 1 f ks=true):∃ p,ks=[p]/\f 0 p=true:=by
 match ks with
 | [p]=>simp[zkK,zkA] at h;exact⟨p,rfl,h⟩
 | []=>simp[zkK] at h
 | a::b::l=>simp[zkK] at h
theorem zvA {f:Nat->T->Bool} {ks:List T} (h:zkK 2 f ks=true):∃ p q,ks=[p,q]/\f 0 p=true/\f 1 q=true:=by
 match ks with
 | [p,q]=>simp[zkK,zkA] at h;exact⟨p,q,rfl,h⟩
 | []=>simp[zkK] at h
 | [a]=>simp[zkK] at h
 | a::b::c::l=>simp[zkK] at h
theorem zsK {k n:Int} {s:ByteArray} {ks:List T} (h:isS (.nd k n s ks)=true) (hb:basB k=true) :
  ((k=40\/k=41\/k=42)/\∃ p q,ks=[p,q]/\isP p=true/\isE q=true)\/(k=43/\∃ p q,ks=[p,q]/\isP p=true/\isP q=true)\/((44<=k/\k<=49)/\∃ p,ks=[p]/\isP p=true):=by
 have hr:=of_decide_eq_true hb;rw[isS] at h;by_cases h1:k=40\/k=41\/k=42\/k=56
 ·rw[if_pos h1,Bool.and_eq_true] at h;obtain⟨p,q,e,a,b⟩:=zvA h.2;exact .inl ⟨by omega,p,q,e,by simpa using a,by simpa using b⟩
 ·rw[if_neg h1] at h;by_cases h2:k=43
  ·rw[if_pos h2,Bool.and_eq_true] at h;obtain⟨p,q,e,a,b⟩:=zvA h.2;exact .inr (.inl ⟨h2,p,q,e,a,b⟩)
  ·rw[if_neg h2] at h;by_cases h3:k=44\/k=45
   ·rw[if_pos h3,Bool.and_eq_true] at h;obtain⟨p,e,a⟩:=zvB h.2;exact .inr (.inr ⟨by omega,p,e,a⟩)
   ·rw[if_neg h3,if_pos (by omega),Bool.and_eq_true] at h;obtain⟨p,e,a⟩:=zvB h.2;exact .inr (.inr ⟨by omega,p,e,a⟩)
def DoP (n0:Nat) (P:Ph) (S:ST) (W:World) (R:Int×ST) (e:Ending) (W':World):Prop:=e=.returned (.int .i64 R.1)/\∃ P',SStp n0 P S W P' R.2 W'/\P'.sb=P.sb
theorem zqj {W:World} {n0:Nat} {P:Ph} {S:ST} (h:SR W n0 P S) (t:T) (v:Value) (hv:NV W Any t v) (hs:isS t=true) (hb:basB t.k=true) (hf:fltE S.cur.vs t=0) :
  Calls Tryz.prog 60 #[.pointer (some ⟨P.sb,0,none⟩),v] W (DoP n0 P S W (zpI S t)):=by
 obtain⟨k,n,s,ks⟩:=t;obtain⟨fo,fk⟩:=zqh hf;rcases zsK hs hb with⟨hk,p,q,rfl,hp,hq⟩|⟨rfl,p,q,rfl,hp,hq⟩|⟨hk,p,rfl,hp⟩
 ·obtain⟨id,kp,h1,h2,h3⟩:=zoY h.wf hp (znd fk p (by simp));have:=zuO h k n s p q v hv hk id h1 kp h2;have e:zpI S (.nd k n s [p,q])=zln S k s p q (indE S.look p) (zkt S.look q):=by
   show zln S k s p q (indE S.look p) (znz S k q)=_
   rw[znz,if_neg (by omega),if_pos hk]
  unfold DoP;rw[e];exact this
 ·obtain⟨id,kp,h1,h2,h3⟩:=zoY h.wf hp (znd fk p (by simp));obtain⟨jd,kq,h4,h5,h6⟩:=zoY h.wf hq (znd fk q (by simp));have:=zs2 h 43 n s p q v hv rfl id h1 kp h2 jd h4 kq h5;have e:zpI S (.nd 43 n s [p,q])=zln S 43 s p q (indE S.look p) (indE S.look q):=by
   show zln S 43 s p q (indE S.look p) (znz S 43 q)=_
   rw[znz,if_pos rfl]
  unfold DoP;rw[e];exact this
 ·obtain⟨id,kp,h1,h2,h3⟩:=zoY h.wf hp (znd fk p (by simp));have hst:k=44\/k=45->∃ ah,S.num s=some ah/\CurK S ah 3:=fun h45=>by
   have hn:zou k=3:=by rcases h45 with rfl|rfl<;>rfl
   obtain⟨u,h4,h5⟩:=znG fo (by rw[hn];decide);obtain⟨ah,h6,h7⟩:=zqK h.wf h4;exact⟨ah,h6,by rw[h5,hn] at h7;exact h7⟩
  have:=zuP h k n s p v hv hk id h1 kp h2 h3 hst;have e:zpI S (.nd k n s [p])=zln S k s p nil0 (indE S.look p) (0,0):=by
   show zln S k s p nil0 (indE S.look p) (znz S k nil0)=_
   rw[znz,if_neg (by omega),if_neg (by omega)]
  unfold DoP;rw[e];exact this
theorem zsW:IsFn Tryz.prog 58 Tryz.f58:=⟨Tryz.func58,by kernel_rfl,by kernel_rfl⟩
theorem zuM:IsFn Tryz.prog 59 Tryz.f59:=⟨Tryz.func59,by kernel_rfl,by kernel_rfl⟩
theorem zvQ {W:World} {n0:Nat} {P:Ph} {S:ST} (h:SR W n0 P S) (t:T) (v:Value) (hv:NV W Any t v) :
  Calls Tryz.prog 20 #[.pointer (some ⟨P.sb,0,none⟩),v] W (DoP n0 P S W (doE S t)):=by
 obtain⟨R,hR⟩:∃ R,doE S t=R:=⟨_,rfl⟩
 rw[hR];have HRR:=zh hR;have HS:=zh h;have HV:=zh hv;obtain⟨A,c,rfl,-,-,-,-⟩:=hv.open_;obtain⟨b,hb⟩:∃ b,isS t=b:=⟨_,rfl⟩
 have HIS:=zh (show ∀ (v:Value) (w:World),NV w Any t v->Calls Tryz.prog 56 #[v] w fun e w'=>e=.returned (.bool b)/\Below w.heap.size w w' from fun v w h=>hb▸zrT t v w h);have zG:=zh hb;have jo:=zh (show ∀ (v:Value) (W':World),NV W' Any t v->Below W.heap.size W W'->isS t=true->basB t.k=true->fltE S.cur.vs t=0->doE S t=zpI S t->Calls Tryz.prog 60 #[.pointer (some ⟨P.sb,0,none⟩),v] W' (DoP n0 P S W R) from fun v W' hv' hbl h1 h2 h3 h4=>by
  refine(zqj (h.later hbl) t v hv' h1 h2 h3).mono ?_;rintro e W2 ⟨a1,P',a2,a3⟩;rw[<-h4,hR] at a1 a2;exact⟨a1,P',⟨a2.st.after hbl h.rws,a2.wf⟩,a3⟩)
 obtain⟨kd,hw⟩:=h.curWF;obtain⟨A0,c0,hcv,hc,hrow⟩:=h.curVs;obtain⟨h3,h4,h5⟩:=h.cur3;rw[hcv] at h3;have dG:=zh (fun W' (hb:Below W.heap.size W W')=>zle (h.later hb));have zn:=zh (fun(v:Value) W' (hb:Below W.heap.size W W') (hv':NV W' Any t v)=>zrG S.cur.vs A0 c0 (curP P S) hw.lim t v W' hv' (zb hb h3) (hrow.later hb));obtain⟨cp,hcp⟩:∃ cp,curP P S=cp:=⟨_,rfl⟩
 rw[hcp] at dG zn;obtain⟨fe,hfe⟩:∃ fe,fltE S.cur.vs t=fe:=⟨_,rfl⟩
 rw[hfe] at zn jo;have lS:=zh (fun w=>ztp t.k w);obtain⟨bb,hbb⟩:∃ b,basB t.k=b:=⟨_,rfl⟩
 rw[hbb] at lS jo;have HD:=zh (show R=if b=false then (3,S) else if t.k=56 then (9,S) else if bb=false then (7,S) else if fe≠0 then (fe,S) else zpI S t by rw[<-hR,doE,hb,hbb,hfe]);have HDE:=zh (show doE S t=R from hR);obtain⟨k,hk⟩:∃ k,t.k=k:=⟨_,rfl⟩
 obtain⟨n,hn⟩:∃ n,t.n=n:=⟨_,rfl⟩
 obtain⟨s,hs⟩:∃ s,t.s=s:=⟨_,rfl⟩
 obtain⟨m,hm⟩:∃ m,t.ks.length=m:=⟨_,rfl⟩
 rw[hk,hn,hs,hm] at HV ⊢;rw[hk] at lS HD;clear h hv hR hb hw hcv hc hrow h3 h4 h5 hcp hfe hbb hk hn hs hm;have hbx:=box4 (heap_alloc_new W (.cells #[.int .u8 k,.int .i64 n,.string s,.slice A m c] 29));have av:=zh (heap_alloc_new W (.cells #[.int .u8 k,.int .i64 n,.string s,.slice A m c] 29));obtain⟨W0,hW0⟩:∃ W0,W.alloc (.cells #[.int .u8 k,.int .i64 n,.string s,.slice A m c] 29)=W0:=⟨_,rfl⟩
 have q0:Below W.heap.size W W0:=hW0▸zkd (Below.refl _ _) _;rw[hW0] at hbx av;have iO:=zh q0;obtain⟨x0,x1,x2,x3⟩:=hbx;clear q0;go_enter Tryz.func20,Tryz.ntmps20;go_wp2_with fail;refine(HIS.out _ _ (HV.out.later iO.out)).mono ?_;rintro e w1 ⟨rfl,ae⟩;have HB1:=zh (zka iO.out ae);have aG:=zh (zkb av.out ae);obtain⟨y0,y1,y2,y3⟩:=box4 aG.out;clear ae x0 x1 x2 x3
 cases b
 ·have HN:=zh (show R=(3,S) by rw[HD.out,if_pos rfl]);go_wp2_with fail;go_ret;exact⟨by rw[HN.out];rfl,P,by rw[HN.out];exact SStp.refl HS.out HB1.out,rfl⟩
 ·by_cases qf:k=56
  ·have HN:=zh (show R=(9,S) by rw[HD.out,if_neg (by decide),if_pos qf]);subst qf;go_wp2_with fail;go_ret;exact⟨by rw[HN.out];rfl,P,by rw[HN.out];exact SStp.refl HS.out HB1.out,rfl⟩
  ·have k56:(k==56)=false:=by simpa using qf
   go_wp2_with fail;refine(lS.out _).mono ?_;rintro e w2 ⟨rfl,rfl⟩
   cases bb
   ·have HN:=zh (show R=(7,S) by rw[HD.out,if_neg (by decide),if_neg qf,if_pos rfl]);go_wp2_with fail;go_ret;exact⟨by rw[HN.out];rfl,P,by rw[HN.out];exact SStp.refl HS.out HB1.out,rfl⟩
   ·have HD2:=zh (show R=if fe≠0 then (fe,S) else zpI S t by rw[HD.out,if_neg (by decide),if_neg qf,if_neg (by decide)]);clear HD lS;go_upto_region 9 with fail;have hSS:(fun w':World=>w'.cell? ⟨W.heap.size,0,none⟩=some (.int .u8 k)/\w'.cell? ⟨W.heap.size,1,none⟩=some (.int .i64 n)/\w'.cell? ⟨W.heap.size,2,none⟩=some (.string s)/\w'.cell? ⟨W.heap.size,3,none⟩=some (.slice A m c)) w2.drew/\(fun _:World=>True) w2.drew:=⟨⟨y0,y1,y2,y3⟩,trivial⟩
    refine wp_region_noPanic ?_;refine zkc (fun w':World=>w'.cell? ⟨W.heap.size,0,none⟩=some (.int .u8 k)/\w'.cell? ⟨W.heap.size,1,none⟩=some (.int .i64 n)/\w'.cell? ⟨W.heap.size,2,none⟩=some (.string s)/\w'.cell? ⟨W.heap.size,3,none⟩=some (.slice A m c)) (fun _:World=>True) 3 (by kernel_rfl) ?_;refine zT 0 hSS ?_;(try simp only[zQ]);refine zT 2 hSS ?_;(try simp only[zQ]);have had:Calls Tryz.prog 58 [.pointer (some ⟨P.sb,0,none⟩)].toArray w2.drew fun e W'=>∃ u,e=.returned u/\u=.pointer (some cp)/\W'=w2.drew :=
     (dG.out _ HB1.out.drew).mono fun e W' hh=>⟨_,hh.1,rfl,hh.2⟩
    refine zo 1 fun K hK=>?_;refine zkg (by rfl) (.func 58) [.tmp 22] _ (by rfl) 58 _ zsW (by rfl) _ (by rfl) _ had ?_;rintro v4 w4 ⟨rfl,rfl⟩;refine hK.out _ _ hSS ?_;clear hK K had;(try simp only[zQ]);have had:Calls Tryz.prog 59 [.pointer (some cp),nv k n s A m c].toArray w2.drew fun e W'=>∃ u,e=.returned u/\u=.int .i64 fe/\Below w2.drew.heap.size w2.drew W' :=
     (zn.out _ _ HB1.out.drew ((HV.out.later HB1.out).later (Below.refl _ _).drew)).mono fun e W' hh=>⟨_,hh.1,rfl,hh.2⟩
    refine zp 3 fun K hK=>?_;refine zkg (by rfl) (.func 59) [.tmp 23,.tmp 24] _ (by rfl) 59 _ zuM (by rfl) _ (by rfl) _ had ?_;rintro v5 w5 ⟨rfl,hb5⟩;have aR:=zh (zka HB1.out.drew hb5);have dh:=zh (zkb (show w2.drew.heap[W.heap.size]?=_ from aG.out) hb5);obtain⟨u0,u1,u2,u3⟩:=box4 dh.out;refine hK.out _ _ ⟨u0,u1,u2,u3⟩ ?_;clear hK K had hb5 hSS y0 y1 y2 y3;(try simp only[zQ]);refine zp 4 fun K hK=>?_;(try simp only[zA,zB,zC]);go_simp;refine hK.out _ _ ⟨u0,u1,u2,u3⟩ ?_;clear hK K;(try simp only[zQ]);refine zd ?_;refine NoPanic.normal ?_;by_cases hfe:fe=0
    ·subst hfe;have lG:=zh (jo.out (nv k n s A m c) w5 (HV.out.later aR.out) aR.out zG.out (by first|rfl|trivial) (by first|rfl|trivial) (by rw[HDE.out,HD2.out];simp));clear HD2 jo;go_wp2_with fail;refine lG.out.mono ?_;rintro e w6 ⟨rfl,hh⟩;have HH:=zh hh;clear hh;go_wp2_with fail;go_ret;exact⟨rfl,HH.out⟩
    ·have HN:=zh (show R=(fe,S) by rw[HD2.out,if_pos hfe]);have e1:(fe==0)=false:=by simpa using hfe
     have e2:(fe != 0)=true:=by simpa using hfe
     clear HD2;go_wp2_with fail;go_ret;exact⟨by rw[HN.out];rfl,P,by rw[HN.out];exact SStp.refl HS.out aR.out,rfl⟩
theorem zvc {W:World} {n0:Nat} {P:Ph} {S:ST} (h:SR W n0 P S) (t:T) (v:Value) (hv:NV W Any t v) :
  Calls Tryz.prog 19 #[.pointer (some ⟨P.sb,0,none⟩),v] W (DoP n0 P S W (zlp S t)):=by
 obtain⟨k,n,s,ks⟩:=t;obtain⟨A,c,rfl,hf,hlk,hlc,hrow⟩:=hv.open_;simp only[T.k_nd,T.n_nd,T.s_nd,T.ks_nd] at *
 obtain⟨k',hk'⟩:∃ k',zov k=k':=⟨_,rfl⟩
 have hf':Fld k' n s:=by
  refine⟨?_,hf.2⟩;rw[<-hk'];unfold zov;have:=hf.1
  split
  ·omega
  ·split
   ·omega
   ·split
    ·omega
    ·split
     ·omega
     ·split
      ·omega
      ·split
       ·omega
       ·split
        ·omega
        ·split
         ·omega
         ·exact this
 obtain⟨R,hR⟩:∃ R,zlp S (.nd k n s ks)=R:=⟨_,rfl⟩
 rw[hR];have HDO:=zh (show ∀ W',Below W.heap.size W W'->Calls Tryz.prog 20 #[.pointer (some ⟨P.sb,0,none⟩),nv k' n s A ks.length c] W' (DoP n0 P S W R) from fun W' hb=>by
  have e:doE S (.nd k' n s ks)=R:=by rw[<-hR,<-hk'];rfl
  have:=zvQ (h.later hb) (.nd k' n s ks) (nv k' n s A ks.length c) (NV.shut hf' hlk hlc (hrow.later hb));rw[e] at this;refine this.mono ?_;rintro e W2 ⟨a1,P',a2,a3⟩;exact⟨a1,P',⟨a2.st.after hb h.rws,a2.wf⟩,a3⟩)
 have pJ:=zh (fun w=>hk'▸zqf k w);obtain⟨m,hm⟩:∃ m,ks.length=m:=⟨_,rfl⟩
 rw[hm] at HDO ⊢;clear h hv hR hf hf' hrow hlk hlc hm hk';go_enter Tryz.func19,Tryz.ntmps19;go_wp2_with fail;refine(pJ.out _).mono ?_;rintro e w1 ⟨rfl,rfl⟩;go_wp2_with fail;refine(HDO.out _ (zkd (Below.refl _ _) _)).mono ?_;rintro e w6 ⟨rfl,hh⟩;have HH:=zh hh;clear hh;go_wp2_with fail;go_ret;exact⟨rfl,HH.out⟩
def FrK (S S':ST):Prop:=S'.base=S.base/\S'.calls=S.calls/\S'.nc=S.nc
theorem zur (S:ST) (k:Int) (id i ah:Nat):FrK S (zm8 S k id i ah).2:=by
 unfold zm8
 repeat' split
 all_goals exact⟨rfl,rfl,rfl⟩
theorem zr4 (S:ST) (k:Int) (id i:Nat):FrK S (zlm S k id i).2:=by
 unfold zlm
 repeat' split
 all_goals exact⟨rfl,rfl,rfl⟩
theorem zuQ (S:ST) (k:Int) (s qs:ByteArray) (r2:Int) (id i:Nat):FrK S (zmP S k s qs r2 id i).2:=by
 unfold zmP
 repeat' split
 all_goals first|exact zur _ _ _ _ _|exact zr4 _ _ _ _|exact⟨rfl,rfl,rfl⟩
theorem zuR (S:ST) (k:Int) (s ps qs:ByteArray) (r1:Int) (r2:Int×Int):FrK S (zmQ S k s ps qs r1 r2).2:=by
 unfold zmQ
 repeat' split
 all_goals first|exact zuQ _ _ _ _ _ _ _|exact⟨rfl,rfl,rfl⟩
theorem zuS (S:ST) (k:Int) (s:ByteArray) (p q:T) (r1 r2:Int×Int):FrK S (zln S k s p q r1 r2).2:=by
 unfold zln;by_cases h:r1.2≠0
 ·rw[if_pos h];exact⟨rfl,rfl,rfl⟩
 ·rw[if_neg h];exact zuR _ _ _ _ _ _ _
theorem zta (S:ST) (t:T):FrK S (doE S t).2:=by
 unfold doE
 repeat' split
 all_goals first|exact⟨rfl,rfl,rfl⟩|skip
 obtain⟨k,n,s,ks⟩:=t;exact zuS _ _ _ _ _ _ _
theorem zt4 (S:ST) (t:T):FrK S (zlp S t).2:=by
 obtain⟨k,n,s,ks⟩:=t;exact zta _ _
theorem zq4 {f:FR}:∀ (l:List (VD×ByteArray)) (acc g:FR),entL f acc l=.ok g->g.vs.length=acc.vs.length+l.length
 | [],acc,g,h=>by rw[entL] at h;injection h with h;subst h;simp
 | (v,a)::r,acc,g,h=>by
  rw[entL] at h
  split at h
  ·cases h
  ·split at h
   ·have:=zq4 r _ _ h;simp at this ⊢;omega
   ·cases h
theorem ztC (W:World) (E:TypeId) {S:Nat->Prop} (hS:S W.heap.size) {t1 t2:T} {k n k1 n1 k2 n2:Int} {s s1 s2:ByteArray} {A1 A2:Option Addr} {l1 c1 l2 c2:Nat} (hf:Fld k n s) (h1:NV W S t1 (nv k1 n1 s1 A1 l1 c1)) (h2:NV W S t2 (nv k2 n2 s2 A2 l2 c2)) :
  NV (W.alloc (.cells #[.int .u8 k1,.int .i64 n1,.string s1,.slice A1 l1 c1,.int .u8 k2,.int .i64 n2,.string s2,.slice A2 l2 c2] E)) S (.nd k n s [t1,t2]) (nv k n s (some ⟨W.heap.size,0,none⟩) 2 2):=by
 refine NV.shut (ks:=[t1,t2]) hf (by simp[LK]) (by simp) fun i hi=>?_;have hb:=zkd (Below.refl W.heap.size W) (.cells #[.int .u8 k1,.int .i64 n1,.string s1,.slice A1 l1 c1,.int .u8 k2,.int .i64 n2,.string s2,.slice A2 l2 c2] E);have hx:=heap_alloc_new W (.cells #[.int .u8 k1,.int .i64 n1,.string s1,.slice A1 l1 c1,.int .u8 k2,.int .i64 n2,.string s2,.slice A2 l2 c2] E)
 match i,hi with
 | 0,_=>exact⟨⟨W.heap.size,0,none⟩,_,_,_,_,rfl,hS,⟨zc hx rfl,zc hx rfl,zc hx rfl,zc hx rfl⟩,h1.later hb⟩
 | 1,_=>exact⟨⟨W.heap.size,0,none⟩,_,_,_,_,rfl,hS,⟨zc hx rfl,zc hx rfl,zc hx rfl,zc hx rfl⟩,h2.later hb⟩
theorem znE {W:World} {b:Nat} {E:TypeId} {xs:List Int} (h:W.heap[b]?=some (.cells (zkf xs).toArray E (0,0))) (hx:∀ x∈xs,I64 x):RowI W Any (some ⟨b,0,none⟩) xs:=fun i hi=>by
 have ha:(⟨b,0,none⟩:Addr).add i=⟨b,i,none⟩:=by rw[Addr.add_lit,Nat.zero_add]
 refine⟨⟨b,0,none⟩,rfl,trivial,?_,hx _ (List.getElem_mem hi)⟩;rw[ha];simp only[World.cell?,h];simp[zkf,hi]
theorem zuh {W:World} {b:Nat} {E:TypeId} {vs:List VD} (h:W.heap[b]?=some (.cells (zkT vs).toArray E (0,0))) (hx:∀ v∈vs,FldV v):RowV W Any (some ⟨b,0,none⟩) vs:=fun i hi=>by
 have ha:(⟨b,0,none⟩:Addr).add (i*3)=⟨b,i*3,none⟩:=by rw[Addr.add_lit,Nat.zero_add]
 obtain⟨g1,g2,g3⟩:=zod vs i hi;refine⟨⟨b,0,none⟩,rfl,trivial,?_,hx _ (List.getElem_mem hi)⟩;rw[ha];have key:∀ o u,(zkT vs)[o]?=some u->W.cell? ⟨b,o,none⟩=some u:=fun o u ho=>by
  simp only[World.cell?,h];simpa using ho
 exact⟨key _ _ g1,key _ _ g2,key _ _ g3⟩
theorem bV2 (s:ByteArray) (k:Int) (w:World):(Instr.build 83 #[(0,.string s),(1,.int .u8 k)]).run Tryz.prog w=.ok (.agg #[.string s,.int .u8 k,.int .i64 0]) w:=by kernel_rfl
theorem bI2 (x y:Int) (w:World):(Instr.buildSlice 24 2 #[(0,.int .i64 x),(1,.int .i64 y)]).run Tryz.prog w=.ok (.slice (some ⟨w.heap.size,0,none⟩) 2 2) (w.alloc (.cells #[.int .i64 x,.int .i64 y] 3)):=by kernel_rfl
theorem bS1 (A:Option Addr) (l c:Nat) (w:World):(Instr.build 26 #[(0,.slice A l c)]).run Tryz.prog w=.ok (.agg #[.slice A l c,.slice none 0 0,.slice none 0 0]) w:=by kernel_rfl
theorem zpg {w:World} {b:Nat} {E:TypeId} {u0 u1 u2:Value} (h:w.heap[b]?=some (.cells #[u0,u1,u2] E (0,0))):w.cell? ⟨b,0,none⟩=some u0/\w.cell? ⟨b,1,none⟩=some u1/\w.cell? ⟨b,2,none⟩=some u2 :=
 ⟨zc h rfl,zc h rfl,zc h rfl⟩
theorem zoC {W:World} {n0:Nat} {E:TypeId} {v:Value} {l:List Int} (h:W.ownsRow n0 E 1 v l.length (zkf l)) (hf:∀ x∈l,I64 x):∃ A c,v=.slice A l.length c/\l.length<=c/\RowI W (fun b=>n0<=b) A l:=by
 obtain⟨A,c,e,hc,hr⟩:=zlh (xs:=l) h hf;exact⟨A,c,e,hc,hr.keep (fun b hb _=>(h.lt b hb).1) (fun _ _ _=>rfl)⟩
theorem OwnS.svR {W:World} {n0:Nat} {s:SS} {v:Value} (h:OwnS W n0 s v) (hl:s.Lim):SV W (fun b=>n0<=b) s v:=by
 obtain⟨vc,vi,vo,fc,rfl,hr,h1,h2,h3⟩:=h;obtain⟨AI,cI,e2,k2,r2⟩:=zoC (hr.row .inp) h2;obtain⟨AO,cO,e3,k3,r3⟩:=zoC (hr.row .out) h3;change vi=_ at e2;change vo=_ at e3;have key:∃ A c,vc=.slice A s.cells.length c/\s.cells.length<=c/\znj W (fun b=>n0<=b) A s.cells:=by
  rcases Nat.eq_zero_or_pos s.cells.length with h0|h0
  ·obtain⟨A,c,e1,hc,_⟩:=zke (hr.row .all);exact⟨A,c,e1,hc,fun i hi=>by omega⟩
  ·obtain⟨g,c,e1,hc,_,hcell⟩:=zkZ (hr.row .all) h0;change vc=_ at e1;have hg:n0<=g:=(hr.lt .all g (by show vc.ownBlock=some g;rw[e1];rfl)).1;refine⟨_,c,e1,hc,fun i hi=>?_⟩;have aY:=hr.row (.el i);simp only[zmf,hi,if_true,List.getD_eq_getElem?_getD,List.getElem?_eq_getElem hi,Option.getD_some] at aY;obtain⟨A',c',e4,k4,r4⟩:=zoC aY (h1 _ (List.getElem_mem hi));have ha:(⟨g,0,none⟩:Addr).add i=⟨g,i,none⟩:=by rw[Addr.add_lit,Nat.zero_add]
   refine⟨⟨g,0,none⟩,A',c',rfl,hg,?_,k4,r4⟩;rw[ha,<-e4,hcell i (by show i<s.cells.length*1;omega)];simp[zmf,hi]
 obtain⟨A,c,e1,k1,r1⟩:=key;exact⟨A,c,AI,cI,AO,cO,by rw[e1,e2,e3],r1,r2,r3,k1,k2,k3,hl⟩
theorem SV.any {W:World} {S:Nat->Prop} {s:SS} {v:Value} (h:SV W S s v):SV W Any s v:=h.keep (fun _ _ _=>trivial) fun _ _ _=>rfl
theorem SR.n0le {W:World} {n0:Nat} {P:Ph} {S:ST} (h:SR W n0 P S):n0<=W.heap.size:=by have:=h.rws.lt .sb _ rfl;omega
theorem SR.own_lt {W:World} {n0:Nat} {P:Ph} {S:ST} (h:SR W n0 P S) {b:Nat} (hb:OwnB (rows P S) b):n0<=b/\b<W.heap.size:=by
 obtain⟨q,hq⟩:=hb;exact h.rws.lt q b hq
theorem SStp.frame {w W W':World} {n0:Nat} {P P':Ph} {S S':ST} (hst:SStp n0 P S W P' S' W') (hs:SR W n0 P S) (hb:Below w.heap.size w W) (hn:w.heap.size<=n0):Below w.heap.size w W' :=
 hb.trans (hst.st.chg.below (Nat.le_trans hn hs.n0le) fun _ ho=>Nat.le_trans hn (hs.own_lt ho).1)
theorem SStp.no {W W':World} {n0:Nat} {P P':Ph} {S S':ST} {b:Nat} (hst:SStp n0 P S W P' S' W') (hlt:b<W.heap.size) (hno:¬ OwnB (rows P S) b):¬ OwnB (rows P' S') b:=fun ho=>by
 rcases hst.st.own _ ho with h|h
 ·exact hno h
 ·omega
theorem zkr {P:Program} {ops:Array Oper} {o:Oper} {a:Act} {w:World} {K:Act->World->Prop} {Q:Exit->Act->World->Prop} {F:Prop} (hw:Region.wanted o (yielded ops a.tmps)=true) (x:Operand) (xs:List Operand) (ats:Array TypeId)
  (ho:o.op=.call { callee:=.value x,args:=xs.toArray,argTypes:=ats }) (f:FuncId) (fn:Func) (hf:IsFn P f fn) (hv:a.eval x=.func (.func f) #[] #[]) (l:List Value) (hargs:xs.map a.eval=l) (R:Value->World->Prop)
  (hc:Calls P f l.toArray w fun e w'=>∃ v,e=.returned v/\R v w') (h:∀ v w',R v w'->K (a.put o.dst v) w') :
  if Region.wanted o (yielded ops a.tmps)=true then Oper.wp P o a w K Q else F:=by
 rw[if_pos hw];subst hargs;have e:(execOp a.eval o).run P w=.ok (.enter f (xs.map a.eval).toArray) w:=by
  unfold execOp;simp only[ho,resolve,hv,Deferred.ofValue,Sem.run_bind,Sem.run_pure,Result.andThen_ok,invoke,zkU hf,Array.empty_append,List.map_toArray,Array.append_empty]
 unfold Oper.wp;rw[e,Oper.upon_enter];refine hc.mono ?_;rintro e w' ⟨v,rfl,hR⟩;exact h v w' hR
theorem zmD {vs:List VD} {s:SS} (h:fitB vs s=true):(newS vs s).state=s:=by
 have hl:s.cells.length=vs.length:=(znJ h).2.1;obtain⟨c,i,o⟩:=s;simp only[ST.state,newS,List.length_range,Nat.sub_zero];congr 1;rw[List.take_of_length_le (by simp)];refine List.ext_getElem (by simpa using hl.symm) fun j h1 h2=>?_;simp at h1 h2;simp[h2]
structure KS (w:World) (n0 sb:Nat) (kb:Nat->Prop) (W:World) (S:ST):Prop where
 bl:Below w.heap.size w W
 hn:w.heap.size<=n0
 sr:∃ P,SR W n0 P S/\P.sb=sb/\∀ b,kb b->b<W.heap.size/\¬ OwnB (rows P S) b
structure Kpt (n0:Nat) (kb:Nat->Prop) (W W':World):Prop where
 size:W.heap.size<=W'.heap.size
 kept:∀ b,b<W.heap.size->(b<n0\/kb b)->W'.heap[b]?=W.heap[b]?
section
variable {w W W' W'':World} {n0 sb:Nat} {kb kb':Nat->Prop} {S S':ST}
theorem Kpt.refl (n0:Nat) (kb:Nat->Prop) (W:World):Kpt n0 kb W W:=⟨Nat.le_refl _,fun _ _ _=>rfl⟩
theorem Kpt.trans (h:Kpt n0 kb W W') (h':Kpt n0 kb W' W''):Kpt n0 kb W W'':=⟨Nat.le_trans h.size h'.size,fun b hb hk=>(h'.kept b (Nat.lt_of_lt_of_le hb h.size) hk).trans (h.kept b hb hk)⟩
theorem Kpt.of_below (h:Below W.heap.size W W'):Kpt n0 kb W W':=⟨h.size,fun b hb _=>h.block b hb⟩
theorem Kpt.cell {b o:Nat} {u:Value} (h:Kpt n0 kb W W') (hk:b<n0\/kb b) (hc:W.cell? ⟨b,o,none⟩=some u):W'.cell? ⟨b,o,none⟩=some u :=
 zk1 hc (h.kept b (World.block_lt_of_cell? W _ hc) hk)
theorem Kpt.blk {b:Nat} {o:Obj} (h:Kpt n0 kb W W') (hk:b<n0\/kb b) (hc:W.heap[b]?=some o):W'.heap[b]?=some o:=(h.kept b (zkk hc) hk).trans hc
theorem KS.n0le (h:KS w n0 sb kb W S):n0<=W.heap.size:=by obtain⟨P,hs,_⟩:=h.sr;exact hs.n0le
theorem KS.wf (h:KS w n0 sb kb W S):S.WF:=by obtain⟨P,hs,_⟩:=h.sr;exact hs.wf
theorem KS.later (h:KS w n0 sb kb W S) (hb:Below W.heap.size W W'):KS w n0 sb kb W' S:=by
 obtain⟨P,hs,e,hk⟩:=h.sr;exact⟨zka h.bl hb,h.hn,P,hs.later hb,e,fun b hb'=>⟨Nat.lt_of_lt_of_le (hk b hb').1 hb.size,(hk b hb').2⟩⟩
theorem KS.also (h:KS w n0 sb kb W S) (hb:Below W.heap.size W W') (hkb:∀ b,kb' b->kb b\/(W.heap.size<=b/\b<W'.heap.size)):KS w n0 sb kb' W' S:=by
 obtain⟨P,hs,e,hk⟩:=h.sr;refine⟨zka h.bl hb,h.hn,P,hs.later hb,e,fun b hb'=>?_⟩;rcases hkb b hb' with h1|⟨h1,h2⟩
 ·exact⟨Nat.lt_of_lt_of_le (hk b h1).1 hb.size,(hk b h1).2⟩
 ·exact⟨h2,fun ho=>by have:=(hs.own_lt ho).2;omega⟩
theorem KS.less (h:KS w n0 sb kb W S) (hkb:∀ b,kb' b->kb b):KS w n0 sb kb' W S:=h.also (Below.refl _ _) fun b hb=>.inl (hkb b hb)
theorem KS.new {P:Ph} {vs:List VD} {s:SS} {W0:World} (h0:Below w.heap.size w W0) (hb:Below W0.heap.size W0 W) (hs:SR W W0.heap.size P (newS vs s)):KS w W0.heap.size P.sb (fun _=>False) W (newS vs s) :=
 ⟨zka h0 hb,h0.size,P,hs,rfl,fun _ h=>h.elim⟩
def KP (w:World) (n0 sb:Nat) (kb:Nat->Prop) (W:World) (R:Int×ST) (e:Ending) (W':World):Prop:=e=.returned (.int .i64 R.1)/\KS w n0 sb kb W' R.2/\Kpt n0 kb W W'
theorem KS.stp {P P':Ph} (hbl:Below w.heap.size w W) (hn0:w.heap.size<=n0) (hs:SR W n0 P S) (hk:∀ b,kb b->b<W.heap.size/\¬ OwnB (rows P S) b) (hst:SStp n0 P S W P' S' W') (hsb:P'.sb=sb):KS w n0 sb kb W' S'/\Kpt n0 kb W W':=by
 refine⟨⟨hst.frame hs hbl hn0,hn0,P',hst.sr,hsb,fun b hb=>⟨Nat.lt_of_lt_of_le (hk b hb).1 hst.st.chg.size,hst.no (hk b hb).1 (hk b hb).2⟩⟩,hst.st.chg.size,fun b hlt hb=>hst.st.chg.block b hlt fun ho=>?_⟩;rcases hb with hb|hb
 ·have:=(hs.own_lt ho).1;omega
 ·exact(hk b hb).2 ho
theorem KS.dop (h:KS w n0 sb kb W S) {f:FuncId} {args:Array Value} {R:Int×ST} (hc:∀ P,SR W n0 P S->P.sb=sb->Calls Tryz.prog f args W (DoP n0 P S W R)):Calls Tryz.prog f args W (KP w n0 sb kb W R):=by
 obtain⟨P,hs,e,hk⟩:=h.sr;refine(hc P hs e).mono ?_;rintro e' W2 ⟨a1,P',a2,a3⟩;exact⟨a1,KS.stp h.bl h.hn hs hk a2 (a3.trans e)⟩
theorem KS.do_ (h:KS w n0 sb kb W S) (t:T) (v:Value) (hv:NV W Any t v):Calls Tryz.prog 20 #[.pointer (some ⟨sb,0,none⟩),v] W (KP w n0 sb kb W (doE S t)) :=
 h.dop fun _ hs e=>e▸zvQ hs t v hv
theorem KS.undo (h:KS w n0 sb kb W S) (t:T) (v:Value) (hv:NV W Any t v):Calls Tryz.prog 19 #[.pointer (some ⟨sb,0,none⟩),v] W (KP w n0 sb kb W (zlp S t)) :=
 h.dop fun _ hs e=>e▸zvc hs t v hv
theorem KS.open_ (h:KS w n0 sb kb W S) (v:VD) (hfv:FldV v) (x:Int) (hx:I64 x) (hlim:S.cur.vs.length+1<=4398046511000):Calls Tryz.prog 185 #[.pointer (some ⟨sb,0,none⟩),.agg #[.string v.s,.int .u8 v.k,.int .i64 v.n],.int .i64 x] W (KP w n0 sb kb W (zkF S v x)) :=
 h.dop fun _ hs e=>e▸zvh hs v hfv x hx hlim
theorem KS.close (h:KS w n0 sb kb W S) (s:ByteArray) (x:Int):Calls Tryz.prog 186 #[.pointer (some ⟨sb,0,none⟩),.string s,.int .i64 x] W (KP w n0 sb kb W (zks S s x)) :=
 h.dop fun _ hs e=>e▸ztW hs s x
theorem KS.enter (h:KS w n0 sb kb W S) (ps:List VD) (ss:List ByteArray) (A D:Option Addr) (c d:Nat) (hp:RowV W Any A ps) (hs:RowS W D ss) (hlp:ps.length<=4398046511000) (hls:ss.length<=17592186044416):Calls Tryz.prog 187 #[.pointer (some ⟨sb,0,none⟩),.slice A ps.length c,.slice D ss.length d] W (KP w n0 sb kb W (zkM S ps ss)) :=
 h.dop fun _ hs' e=>e▸ztV hs' ps ss A D c d hp hs hlp hls
theorem KS.leave (h:KS w n0 sb kb W S):Calls Tryz.prog 188 #[.pointer (some ⟨sb,0,none⟩)] W (KP w n0 sb kb W (zkS S)) :=
 h.dop fun _ hs e=>e▸ztD hs
theorem KS.cell (h:KS w n0 sb kb W S) (s:ByteArray):Calls Tryz.prog 184 #[.pointer (some ⟨sb,0,none⟩),.string s] W (zxq W S s):=by
 obtain⟨P,hs,rfl,-⟩:=h.sr;exact zty hs s
theorem KS.state (h:KS w n0 sb kb W S):Calls Tryz.prog 22 #[.pointer (some ⟨sb,0,none⟩)] W fun e W'=>∃ v,e=.returned v/\OwnS W' W.heap.size S.state v/\Below W.heap.size W W':=by
 obtain⟨P,hs,rfl,-⟩:=h.sr;exact ztx hs
end
theorem KS.chg {w W W':World} {n0 sb:Nat} {kb C:Nat->Prop} {S:ST} (h:KS w n0 sb kb W S) (hc:Chg C W W') (hC:∀ b,b<W.heap.size->C b->w.heap.size<=b/\(b<n0\/kb b)):KS w n0 sb kb W' S:=by
 obtain⟨P,hs,e,hk⟩:=h.sr;have hno:∀ b,OwnB (rows P S) b->¬ C b:=fun b ho hcb=>by
  obtain⟨-,h2⟩:=hC b (hs.own_lt ho).2 hcb;rcases h2 with h2|h2
  ·have:=(hs.own_lt ho).1;omega
  ·exact(hk b h2).2 ho
 refine⟨?_,h.hn,P,⟨hs.rws.chg hc fun i b hb=>hno b ⟨i,hb⟩,hs.wf⟩,e,fun b hb=>⟨Nat.lt_of_lt_of_le (hk b hb).1 hc.size,(hk b hb).2⟩⟩;exact⟨hc.os.trans h.bl.os,hc.tape.trans h.bl.tape,hc.output.trans h.bl.output,Nat.le_trans h.bl.size hc.size,fun b hb=>by
  rw[hc.block b (Nat.lt_of_lt_of_le hb h.bl.size) fun hcb=>by have:=(hC b (Nat.lt_of_lt_of_le hb h.bl.size) hcb).1;omega];exact h.bl.block b hb⟩
theorem SS.Sm.lim {s:SS} (h:s.Sm):s.Lim:=by
 obtain⟨h1,h2,h3,h4⟩:=h;unfold SS.Lim LI;exact⟨by omega,fun l hl=>by have:=h2 l hl;omega,by omega,by omega⟩
structure RS where
 S:ST
 n:Nat
 ent:List Nat
inductive Out where
 | gas
 | err (e:Int)
 | ok (r:RS)
def Out.bind:Out->(RS->Out)->Out
 | .ok r,f=>f r
 | .err e,_=>.err e
 | .gas,_=>.gas
def zkD (F:Int) (r:RS):Out:=if F<=r.n then .err 18 else .ok { r with n:=r.n+1 }
def zkm (r:RS) (R:Int×ST):Out:=if R.1≠0 then .err R.1 else .ok { r with S:=R.2 }
def valO (t:T) (r:RS) (f:Int->RS->Out):Out:=if (zkt r.S.look t).2≠0 then .err (zkt r.S.look t).2 else f (zkt r.S.look t).1 r
def zk3 (F:Int) (t:T) (r:RS) (f:Bool->RS->Out):Out:=(zkD F r).bind fun r=>valO t r fun x r=>f (decide (x≠0)) r
def zkv (F:Int) (t:T) (b:Bool) (r:RS):Out:=zk3 F t r fun b' r=>if b'=b then .ok r else .err 15
def zk2 (f:T->RS->Out):List T->RS->Out
 | [],r=>.ok r
 | t::ts,r=>(f t r).bind (zk2 f ts)
def blkL (back:Bool) (b:T):List T:=if back=true then b.ks.reverse else b.ks
def zlI (F:Int) (f:T->RS->Out) (entry test:T) (l1 l2:List T):Nat->RS->Out
 | 0,_=>.gas
 | m+1,r=>(zk2 f l1 r).bind fun r=>zk3 F test r fun b r=>if b=true then .ok r else (zk2 f l2 r).bind fun r=>(zkv F entry false r).bind (zlI F f entry test l1 l2 m)
def prcI:List PR->ByteArray->Option Nat
 | [],_=>none
 | q::qs,s=>if (q.s.toList==s.toList)=true then some 0 else (prcI qs s).map (· + 1)
def kid (t:T) (i:Nat):T:=t.ks.getD i nil0
def fstT (back:Bool) (t:T):T:=if back=true then kid t (t.ks.length-1) else kid t 0
def lstT (back:Bool) (t:T):T:=if back=true then kid t 0 else kid t (t.ks.length-1)
def zkw (prs:List PR) (F:Int):Nat->Bool->T->RS->Out
 | 0,_,_,_=>.gas
 | g+1,back,t,r =>
  if t.k=52 then
   zk3 F (fstT back t) r fun yes r=>(zk2 (zkw prs F g back) (blkL back (if yes=true then kid t 1 else kid t 2)) r).bind (zkv F (lstT back t) yes)
  else if t.k=53 then
   (zkv F (fstT back t) true r).bind (zlI F (zkw prs F g back) (fstT back t) (lstT back t) (blkL back (kid t 1)) (blkL back (kid t 2)) g)
  else if t.k=54 then
   (zkD F r).bind fun r=>valO (fstT back t) r fun x r=>(zkm r (zkF r.S ⟨t.s,1,0⟩ x)).bind fun r=>(zk2 (zkw prs F g back) (blkL back (kid t 1)) r).bind fun r =>
    (zkD F r).bind fun r=>valO (lstT back t) r fun x r=>zkm r (zks r.S t.s x)
  else if t.k=55 then
   (zkD F r).bind fun r=>(zkm r (zkF r.S ⟨t.s,3,0⟩ 0)).bind fun r=>(zk2 (zkw prs F g back) (blkL back (kid t 0)) r).bind fun r =>
    (zkD F r).bind fun r=>zkm r (zks r.S t.s 0)
  else if t.k=50\/t.k=51 then
   match prcI prs t.s with
   | none=>.err 0
   | some i=>(zkD F r).bind fun r=>(zkm r (zkM r.S (prs.getD i ⟨⟨#[]⟩,[],nil0⟩).ps (t.ks.map (·.s)))).bind fun r =>
     (zk2 (zkw prs F g (back != decide (t.k=51))) (blkL (back != decide (t.k=51)) (prs.getD i ⟨⟨#[]⟩,[],nil0⟩).b) { r with ent:=r.ent.set i (r.ent.getD i 0+1) }).bind fun r =>
      (zkD F r).bind fun r=>zkm r (zkS r.S)
  else (zkD F r).bind fun r=>zkm r (if back=true then zlp r.S t else doE r.S t)
def runO (prs:List PR) (F:Int) (g:Nat) (back:Bool) (b:T) (r:RS):Out:=zk2 (zkw prs F g back) (blkL back b) r
def Good (n:Nat) (o:Out):Prop:=o ≠ .gas/\∀ r,o=.ok r->n<=r.n
theorem Good.err (n:Nat) (e:Int):Good n (.err e):=⟨by simp,by simp⟩
theorem Good.ok {n:Nat} {r:RS} (h:n<=r.n):Good n (.ok r):=⟨by simp,fun r' e=>by injection e with e;subst e;exact h⟩
theorem Good.mono {m n:Nat} {o:Out} (h:Good n o) (hm:m<=n):Good m o:=⟨h.1,fun r e=>Nat.le_trans hm (h.2 r e)⟩
theorem Good.bind {m n:Nat} {o:Out} {f:RS->Out} (h:Good n o) (xk:m<=n) (hf:∀ r,n<=r.n->o=.ok r->Good m (f r)):Good m (o.bind f):=by
 cases o with
 | gas=>exact absurd rfl h.1
 | err e=>exact Good.err _ _
 | ok r=>exact hf r (h.2 r rfl) rfl
theorem zkQ {F:Int} {r r':RS} (h:zkD F r=.ok r'):r'={ r with n:=r.n+1 }/\(r.n:Int)<F:=by
 unfold zkD at h
 split at h
 ·cases h
 ·injection h with h;exact⟨h.symm,by omega⟩
theorem zkx (F:Int) (r:RS):Good (r.n+1) (zkD F r):=by
 unfold zkD
 split
 ·exact Good.err _ _
 ·exact Good.ok (Nat.le_refl _)
theorem zkE (r:RS) (R:Int×ST):Good r.n (zkm r R):=by
 unfold zkm
 split
 ·exact Good.err _ _
 ·exact Good.ok (Nat.le_refl _)
theorem znW {m:Nat} {t:T} {r:RS} {f:Int->RS->Out} (hf:∀ x,Good m (f x r)):Good m (valO t r f):=by
 unfold valO
 split
 ·exact Good.err _ _
 ·exact hf _
theorem zmY {m:Nat} {F:Int} {t:T} {r:RS} {f:Bool->RS->Out} (hm:m<=r.n+1) (hf:∀ b,(r.n:Int)<F->Good m (f b { r with n:=r.n+1 })):Good m (zk3 F t r f):=by
 unfold zk3;refine(zkx F r).bind hm fun r' _ e=>?_;obtain⟨rfl,h⟩:=zkQ e;exact znW fun x=>hf _ h
theorem zlk (F:Int) (t:T) (b:Bool) (r:RS):Good (r.n+1) (zkv F t b r):=by
 unfold zkv;refine zmY (Nat.le_refl _) fun b' _=>?_
 split
 ·exact Good.ok (Nat.le_refl _)
 ·exact Good.err _ _
theorem znv {F:Int} {t:T} {b:Bool} {r r':RS} (h:zkv F t b r=.ok r'):r'={ r with n:=r.n+1 }/\(r.n:Int)<F:=by
 unfold zkv zk3 at h
 cases hs:zkD F r with
 | gas=>rw[hs] at h;cases h
 | err e=>rw[hs] at h;cases h
 | ok r1 =>
  rw[hs] at h;obtain⟨rfl,hl⟩:=zkQ hs;simp only[Out.bind,valO] at h
  split at h
  ·cases h
  ·split at h
   ·injection h with h;exact⟨h.symm,hl⟩
   ·cases h
theorem zlK {f:T->RS->Out}:∀ (l:List T) (r:RS),(∀ t∈l,∀ r',r.n<=r'.n->Good r'.n (f t r'))->Good r.n (zk2 f l r)
 | [],r,_=>Good.ok (Nat.le_refl _)
 | t::ts,r,h=>by
  rw[zk2];refine(h t (List.mem_cons_self ..) r (Nat.le_refl _)).bind (Nat.le_refl _) fun r1 h1 _=>?_;exact(zlK ts r1 fun u hu r' hr'=>h u (List.mem_cons_of_mem _ hu) r' (Nat.le_trans h1 hr')).mono h1
theorem zoD {F:Int} {f:T->RS->Out} {entry test:T} {l1 l2:List T}:∀ (m:Nat) (r:RS),F.toNat-r.n<m->(∀ t∈l1,∀ r',r.n<=r'.n->Good r'.n (f t r'))->(∀ t∈l2,∀ r',r.n<=r'.n->Good r'.n (f t r'))->Good r.n (zlI F f entry test l1 l2 m r)
 | 0,_,h,_,_=>by omega
 | m+1,r,h,h1,h2=>by
  rw[zlI];refine(zlK l1 r h1).bind (Nat.le_refl _) fun r1 hr1 _=>?_;refine zmY (by omega) fun b hF=>?_
  split
  ·exact Good.ok (by simp only;omega)
  ·refine(zlK l2 { r1 with n:=r1.n+1 } fun t ht r' hr'=>h2 t ht r' (by simp only at hr';omega)).bind (by simp only;omega) fun r2 hr2 _=>?_;refine(zlk F entry false r2).bind (by simp only at hr2;omega) fun r3 hr3 e=>?_;obtain⟨rfl,hF2⟩:=znv e;refine(zoD m _ ?_ (fun t ht r' hr'=>h1 t ht r' ?_) (fun t ht r' hr'=>h2 t ht r' ?_)).mono ?_
   all_goals (simp only at *;omega)
theorem zl8:∀ {ts:List T} {u:T},u∈ts->size u<=zk7 ts
 | t::ts,u,h=>by
  rw[zk7];rcases List.mem_cons.1 h with rfl|h
  ·omega
  ·have:=zl8 h;omega
theorem zuy {t:T} {i:Nat} (h:i<t.ks.length):size (kid t i)<size t:=by
 obtain⟨k,n,s,ks⟩:=t;have h':i<ks.length:=h;have:kid (.nd k n s ks) i=ks[i]:=by simp[kid,h']
 rw[this,size];have:=zl8 (List.getElem_mem h');omega
theorem zo2 {t u:T} (h:u∈t.ks):size u<size t:=by
 obtain⟨k,n,s,ks⟩:=t;rw[size];have:=zl8 (ts:=ks) h;omega
theorem zlx {back:Bool} {b u:T} (h:u∈blkL back b):u∈b.ks:=by
 unfold blkL at h
 split at h
 ·simpa using h
 ·exact h
theorem zsJ (t:T) (i:Nat):∀ u∈(kid t i).ks,size u+1<size t:=by
 intro u hu;by_cases h:i<t.ks.length
 ·have:=zuy h;have:=zo2 hu;omega
 ·have:kid t i=nil0:=by
   unfold kid;rw[List.getD_eq_getElem?_getD,List.getElem?_eq_none (by omega)];rfl
  rw[this] at hu;simp[nil0] at hu
theorem zl5 {prs:List PR} {F:Int} {M:Nat} (hM:∀ q∈prs,size q.b<=M) (hM1:1<=M):∀ (g:Nat) (back:Bool) (t:T) (r:RS),(F.toNat-r.n)*M+size t<=g->Good r.n (zkw prs F g back t r)
 | 0,_,t,r,h=>by
  have:0<size t:=by obtain⟨k,n,s,ks⟩:=t;rw[size];omega
  omega
 | g+1,back,t,r,h=>by
  have hmul:∀ a b:Nat,a<=b->a*M<=b*M:=fun a b h=>Nat.mul_le_mul_right _ h;have hone:F.toNat-r.n<=(F.toNat-r.n)*M:=Nat.le_mul_of_pos_right _ hM1;have hb:∀ (back:Bool) i r1,r.n<=r1.n->Good r1.n (zk2 (zkw prs F g back) (blkL back (kid t i)) r1):=fun back i r1 h1 =>
   zlK _ _ fun u hu r2 h2=>zl5 hM hM1 g back u r2 (by
    have:=zsJ t i u (zlx hu);have:=hmul (F.toNat-r2.n) (F.toNat-r.n) (by omega);omega)
  rw[zkw]
  split
  ·refine zmY (by omega) fun yes hF=>?_;have:Good (r.n+1) (zk2 (zkw prs F g back) (blkL back (if yes=true then kid t 1 else kid t 2)) { r with n:=r.n+1 }):=by
    split
    ·exact hb back 1 _ (by simp only;omega)
    ·exact hb back 2 _ (by simp only;omega)
   exact this.bind (by omega) fun r1 h1 _=>(zlk _ _ _ _).mono (by omega)
  ·split
   ·refine(zlk _ _ _ _).bind (by omega) fun r1 h1 e=>?_;obtain⟨rfl,hF⟩:=znv e;have hs:0<size t:=by obtain⟨k,n,s,ks⟩:=t;rw[size];omega
    refine(zoD g _ (by simp only;omega) (fun u hu r' hr'=>?_) (fun u hu r' hr'=>?_)).mono (by simp only;omega)
    ·have:=zsJ t 1 u (zlx hu);have:=hmul (F.toNat-r'.n) (F.toNat-r.n) (by simp only at hr';omega);exact zl5 hM hM1 g back u r' (by omega)
    ·have:=zsJ t 2 u (zlx hu);have:=hmul (F.toNat-r'.n) (F.toNat-r.n) (by simp only at hr';omega);exact zl5 hM hM1 g back u r' (by omega)
   ·split
    ·refine(zkx F r).bind (by omega) fun r1 h1 _=>znW fun x=>?_;refine(zkE r1 _).bind (by omega) fun r2 h2 _=>?_;refine(hb back 1 r2 (by omega)).bind (by omega) fun r3 h3 _=>?_;refine(zkx F r3).bind (by omega) fun r4 h4 _=>znW fun x=>?_;exact(zkE r4 _).mono (by omega)
    ·split
     ·refine(zkx F r).bind (by omega) fun r1 h1 _=>?_;refine(zkE r1 _).bind (by omega) fun r2 h2 _=>?_;refine(hb back 0 r2 (by omega)).bind (by omega) fun r3 h3 _=>?_;refine(zkx F r3).bind (by omega) fun r4 h4 _=>?_;exact(zkE r4 _).mono (by omega)
     ·split
      ·split
       ·exact Good.err _ _
       ·rename_i i hi;refine(zkx F r).bind (by omega) fun r1 h1 e1=>?_;obtain⟨rfl,hF⟩:=zkQ e1;refine(zkE _ _).bind (by simp only;omega) fun r2 h2 _=>?_;have hbody:Good r2.n (zk2 (zkw prs F g (back != decide (t.k=51))) (blkL (back != decide (t.k=51)) (prs.getD i ⟨⟨#[]⟩,[],nil0⟩).b) { r2 with ent:=r2.ent.set i (r2.ent.getD i 0+1) }):=by
         refine zlK _ _ fun u hu r3 h3=>zl5 hM hM1 g _ u r3 ?_;have hu':=zlx hu;by_cases hi:i<prs.length
         ·have hq:prs.getD i ⟨⟨#[]⟩,[],nil0⟩=prs[i]:=by simp[hi]
          rw[hq] at hu';have hl:=zo2 hu';have hMq:=hM _ (List.getElem_mem hi);have hsub:F.toNat-r3.n+1<=F.toNat-r.n:=by simp only at h2 h3;omega
          have:=hmul _ _ hsub;rw[Nat.add_mul,Nat.one_mul] at this;omega
         ·have hq:prs.getD i ⟨⟨#[]⟩,[],nil0⟩=⟨⟨#[]⟩,[],nil0⟩:=by
           rw[List.getD_eq_getElem?_getD,List.getElem?_eq_none (by omega)];rfl
          rw[hq] at hu';simp[nil0] at hu'
        refine hbody.bind (by simp only at h2;omega) fun r3 h3 _=>?_;refine(zkx F r3).bind (by simp only at h2;omega) fun r4 h4 _=>?_;exact(zkE r4 _).mono (by simp only at h2;omega)
      ·refine(zkx F r).bind (by omega) fun r1 h1 _=>?_;exact(zkE r1 _).mono (by omega)
structure CH where
 cell:Int
 at':Int
 old:Int
 new:Int
deriving DecidableEq
def part (s:SS) (c:Int):List Int:=if c = -1 then s.tin.reverse else if c = -2 then s.tout else s.cells.getD c.toNat []
def zkp (n:Nat):List Int:=(List.range n).map Int.ofNat++[-1,-2]
def chg1 (c:Int) (x y:List Int) (i:Nat):List CH:=if x.getD i 0≠y.getD i 0 then [⟨c,i,x.getD i 0,y.getD i 0⟩] else []
def chgL (c:Int) (x y:List Int):List CH:=if x.length≠y.length then [⟨c,-1,x.length,y.length⟩] else []
def dif1 (c:Int) (x y:List Int):List CH:=chgL c x y++(List.range (max x.length y.length)).flatMap (chg1 c x y)
def zlR (a b:SS):List CH:=if a.cells.length≠b.cells.length then [] else (zkp a.cells.length).flatMap fun c=>dif1 c (part a c) (part b c)
def evsE:SS->List SS->List (List CH)
 | _,[]=>[]
 | s,x::l=>zlR s x::evsE x l
def zk6:SS->List SS->SS
 | s,[]=>s
 | _,x::l=>zk6 x l
theorem zpJ (x:SS):∀ (s:SS) (l:List SS),evsE s (l++[x])=evsE s l++[zlR (zk6 s l) x]
 | s,[]=>rfl
 | s,y::l=>by simp only[List.cons_append,evsE,zk6,zpJ x y l]
theorem zli (x:SS):∀ (s:SS) (l:List SS),zk6 s (l++[x])=x
 | s,[]=>rfl
 | s,y::l=>zli x y l
theorem zlZ:∀ (s:SS) (l:List SS),(evsE s l).length=l.length
 | s,[]=>rfl
 | s,y::l=>by simp only[evsE,List.length_cons,zlZ y l]
inductive Tc where
 | blk (back:Bool) (l:List T)
 | stm (back:Bool) (t:T)
 | lop (back:Bool) (t:T)
inductive Tg (prs:List PR):Tc->ST->List SS->ST->Prop
 | nil (back:Bool) (S:ST):Tg prs (.blk back []) S [] S
 | cons {back:Bool} {t:T} {ts:List T} {S S1 S2:ST} {L1 L2:List SS} (h1:Tg prs (.stm back t) S L1 S1) (h2:Tg prs (.blk back ts) S1 L2 S2):Tg prs (.blk back (t::ts)) S (L1++L2) S2
 | bas {back:Bool} {t:T} {S:ST} (hk:¬ (50<=t.k/\t.k<=55)) (h0:(if back=true then zlp S t else doE S t).1=0):Tg prs (.stm back t) S [(if back=true then zlp S t else doE S t).2.state] (if back=true then zlp S t else doE S t).2
 | iff {back:Bool} {t:T} {S S1:ST} {L:List SS} (hk:t.k=52) (h1:(zkt S.look (fstT back t)).2=0) (h2:Tg prs (.blk back (blkL back (if (zkt S.look (fstT back t)).1≠0 then kid t 1 else kid t 2))) S L S1)
   (h3:(zkt S1.look (lstT back t)).2=0) (h4:(zkt S1.look (lstT back t)).1≠0↔(zkt S.look (fstT back t)).1≠0):Tg prs (.stm back t) S (S.state::L++[S1.state]) S1
 | frm {back:Bool} {t:T} {S S1:ST} {L:List SS} (hk:t.k=53) (h1:(zkt S.look (fstT back t)).1≠0) (h2:Tg prs (.lop back t) S L S1):Tg prs (.stm back t) S L S1
 | done {back:Bool} {t:T} {S S1:ST} {L:List SS} (h1:(zkt S.look (fstT back t)).2=0) (h2:Tg prs (.blk back (blkL back (kid t 1))) S L S1) (h3:(zkt S1.look (lstT back t)).2=0) (h4:(zkt S1.look (lstT back t)).1≠0):Tg prs (.lop back t) S (S.state::L++[S1.state]) S1
 | more {back:Bool} {t:T} {S S1 S2 S3:ST} {L L2 L3:List SS} (h1:(zkt S.look (fstT back t)).2=0) (h2:Tg prs (.blk back (blkL back (kid t 1))) S L S1) (h3:(zkt S1.look (lstT back t)).2=0) (h4:(zkt S1.look (lstT back t)).1=0)
   (h5:Tg prs (.blk back (blkL back (kid t 2))) S1 L2 S2) (h6:(zkt S2.look (fstT back t)).1=0) (h7:Tg prs (.lop back t) S2 L3 S3):Tg prs (.lop back t) S (S.state::L++S1.state::L2++L3) S3
 | loc {back:Bool} {t:T} {S S2:ST} {L:List SS} (hk:t.k=54) (h1:(zkt S.look (fstT back t)).2=0) (h2:(zkF S ⟨t.s,1,0⟩ (zkt S.look (fstT back t)).1).1=0) (h3:Tg prs (.blk back (blkL back (kid t 1))) (zkF S ⟨t.s,1,0⟩ (zkt S.look (fstT back t)).1).2 L S2)
   (h4:(zkt S2.look (lstT back t)).2=0) (h5:(zks S2 t.s (zkt S2.look (lstT back t)).1).1=0):Tg prs (.stm back t) S ((zkF S ⟨t.s,1,0⟩ (zkt S.look (fstT back t)).1).2.state::L++[(zks S2 t.s (zkt S2.look (lstT back t)).1).2.state]) (zks S2 t.s (zkt S2.look (lstT back t)).1).2
 | stk {back:Bool} {t:T} {S S2:ST} {L:List SS} (hk:t.k=55) (h2:(zkF S ⟨t.s,3,0⟩ 0).1=0) (h3:Tg prs (.blk back (blkL back (kid t 0))) (zkF S ⟨t.s,3,0⟩ 0).2 L S2) (h5:(zks S2 t.s 0).1=0) :
   Tg prs (.stm back t) S ((zkF S ⟨t.s,3,0⟩ 0).2.state::L++[(zks S2 t.s 0).2.state]) (zks S2 t.s 0).2
 | cal {back:Bool} {t:T} {S S2:ST} {L:List SS} {i:Nat} (hk:t.k=50\/t.k=51) (h1:prcI prs t.s=some i) (h2:(zkM S (prs.getD i ⟨⟨#[]⟩,[],nil0⟩).ps (t.ks.map (·.s))).1=0)
   (h3:Tg prs (.blk (back != decide (t.k=51)) (blkL (back != decide (t.k=51)) (prs.getD i ⟨⟨#[]⟩,[],nil0⟩).b)) (zkM S (prs.getD i ⟨⟨#[]⟩,[],nil0⟩).ps (t.ks.map (·.s))).2 L S2) (h4:(zkS S2).1=0) :
   Tg prs (.stm back t) S ((zkM S (prs.getD i ⟨⟨#[]⟩,[],nil0⟩).ps (t.ks.map (·.s))).2.state::L++[(zkS S2).2.state]) (zkS S2).2
section
variable {E:Prop} {Rl:Nat->ST->ST->Prop} {F F' k:Int} {o o':Out}
end
theorem zq5 {f:FR}:∀ (l:List (VD×ByteArray)) (acc:FR) (e:Int),entL f acc l=.error e->e≠0
 | [],acc,e,h=>by rw[entL] at h;cases h
 | (v,a)::r,acc,e,h=>by
  rw[entL] at h
  split at h
  ·injection h with h;omega
  ·split at h
   ·exact zq5 r _ _ h
   ·injection h with h;omega
section
variable {S:ST} {l:List Int}
end
section
variable {ρ ρ':Nat->Nat->Prop} {f g:FR} {S S' S'':ST} {a b:Nat}
end
abbrev zlB (x:Int):Ending:=.panicked [{ v:=.iface 210 (.agg #[.int .i64 x]),recovered:=false }]
theorem zpj (x:Int) (hx:x≠0) (w:World):Calls Tryz.prog 212 #[.int .i64 x] w fun e w'=>e=zlB x/\w'=w:=by
 have e1:(x==0)=false:=by simpa using hx
 have hb:∀ w,(Instr.build 210 #[(0,.int .i64 x)]).run Tryz.prog w=.ok (.agg #[.int .i64 x]) w:=fun w=>by kernel_rfl
 go_enter Tryz.func212,Tryz.ntmps212;go_wp2_with fail;exact⟨rfl,rfl,rfl⟩
theorem zoZ {W W':World} {base:Nat} {E:TypeId} {size:Nat} {v:Value} {n:Nat} {xs:List Value} (h:W.ownsRow base E size v n xs) (hk:∀ b,v.ownBlock=some b->W'.heap[b]?=W.heap[b]?):W'.ownsRow base E size v n xs:=by
 obtain⟨e1,h2⟩:=h;refine⟨e1,?_⟩;rcases h2 with h2|⟨g,cap,cur,rfl,hb,hg,rest⟩
 ·exact .inl h2
 ·exact .inr ⟨g,cap,cur,rfl,hb,(hk g rfl).trans hg,rest⟩
structure RC where
 w:World
 n0:Nat
 sb:Nat
 rb:Nat
 p:PG
 A1:Option Addr
 c1:Nat
 A2:Option Addr
 c2:Nat
 A3:Option Addr
 c3:Nat
 F:Int
 ev:Value
 kb:Nat->Prop
structure RC.Ok (C:RC):Prop where
 pg:PgR C.w Any C.p C.A1 C.c1 C.A2 C.c2 C.A3 C.c3
 F:I64 C.F
 F6:C.F<=1000000
 rb:C.n0<=C.rb/\¬ C.kb C.rb
 ev:C.ev.ownBlock≠some C.rb/\∀ b,C.ev.ownBlock=some b->¬ C.kb b
 ps:∀ q∈C.p.prs,q.ps.length<=1000
def RC.cells (C:RC) (n:Nat):Array Value := #[.slice C.A1 C.p.vs.length C.c1,.slice C.A2 C.p.prs.length C.c2,.int .u8 C.p.m.k,.int .i64 C.p.m.n,.string C.p.m.s,.slice C.A3 C.p.m.ks.length C.c3,.pointer (some ⟨C.sb,0,none⟩),.int .i64 n,.int .i64 C.F,C.ev]
def FB (j:Nat) (S:ST):Prop:=S.base.vs.length<=1000+j/\∀ f∈S.calls,f.vs.length<=1000+j
structure RI (C:RC) (W:World) (r:RS):Prop where
 ks:KS C.w C.n0 C.sb (fun b=>C.kb b\/b=C.rb\/C.ev.ownBlock=some b) W r.S
 box:W.heap[C.rb]?=some (.cells (C.cells r.n) 174 (0,0))
 ent:W.ownsRow C.n0 3 1 C.ev r.ent.length (zkf (r.ent.map Int.ofNat))
 el:r.ent.length=C.p.prs.length
 en:∀ c∈r.ent,c<=r.n
 n:(r.n:Int)<=1000000
 fb:FB r.n r.S
section
variable {C:RC} {W W' W'':World} {r r':RS}
theorem RI.below (h:RI C W r):Below C.w.heap.size C.w W:=h.ks.bl
theorem RI.later (h:RI C W r) (hb:Below W.heap.size W W'):RI C W' r:=⟨h.ks.later hb,zkb h.box hb,zkB h.ent hb,h.el,h.en,h.n,h.fb⟩
def RunP (C:RC) (W:World) (o:Out) (e:Ending) (W':World):Prop :=
 Kpt C.n0 C.kb W W'/\Below C.w.heap.size C.w W'/\match o with
 | .gas=>True
 | .err x=>e=zlB x
 | .ok r=>(∃ u,e=.returned u)/\RI C W' r
theorem RI.cells (h:RI C W r):W.cell? ⟨C.rb,6,none⟩=some (.pointer (some ⟨C.sb,0,none⟩))/\W.cell? ⟨C.rb,7,none⟩=some (.int .i64 r.n)/\W.cell? ⟨C.rb,8,none⟩=some (.int .i64 C.F)/\W.cell? ⟨C.rb,9,none⟩=some C.ev/\∀ o,W.frozen? ⟨C.rb,o,none⟩=false :=
 ⟨zc h.box rfl,zc h.box rfl,zc h.box rfl,zc h.box rfl,fun _=>zf h.box⟩
theorem FB.mono {j k:Nat} {S:ST} (h:FB j S) (hk:j<=k):FB k S:=⟨by have:=h.1;omega,fun f hf=>by have:=h.2 f hf;omega⟩
theorem Kpt.chg {n0:Nat} {kb Cc:Nat->Prop} (h:Chg Cc W W') (hC:∀ b,Cc b->n0<=b/\¬ kb b):Kpt n0 kb W W' :=
 ⟨h.size,fun b hb hk=>h.block b hb fun hc=>by rcases hk with hk|hk;have:=(hC b hc).1;omega;exact(hC b hc).2 hk⟩
theorem RI.tick (hC:C.Ok) (h:RI C W r) (hF:(r.n:Int)<C.F):RI C (W.setCell ⟨C.rb,7,none⟩ (.int .i64 ((r.n:Int)+1))) { r with n:=r.n+1 }/\Kpt C.n0 C.kb W (W.setCell ⟨C.rb,7,none⟩ (.int .i64 ((r.n:Int)+1))):=by
 have hch:Chg (fun b=>b=C.rb) W (W.setCell ⟨C.rb,7,none⟩ (.int .i64 ((r.n:Int)+1))):=(Chg.refl (fun b=>b=C.rb) W).setCell (p:=⟨C.rb,7,none⟩) (.inl rfl) _;have hn:=h.ks.hn;refine⟨⟨h.ks.chg hch fun b _ e=>⟨by have:=hC.rb.1;omega,.inr (.inr (.inl e))⟩,?_,zoZ h.ent fun b hb=>?_,h.el,fun c hc=>by have:=h.en c hc;simp only;omega,by have:=hC.F6;simp only;omega,h.fb.mono (Nat.le_succ _)⟩,Kpt.chg hch fun b e=>⟨by have:=hC.rb.1;omega,by rw[e];exact hC.rb.2⟩⟩
 ·have:=heap_setCell_same W C.rb 7 _ _ (.int .i64 ((r.n:Int)+1)) h.box;rw[this];simp[RC.cells]
 ·have hne:b≠C.rb:=fun e=>hC.ev.1 (by rw[hb,e]);have hlt:=(h.ent.lt b hb).2;exact hch.block b hlt hne
end
theorem zlV {C:RC} (hC:C.Ok) {W:World} {r:RS} (h:RI C W r):Calls Tryz.prog 196 #[.pointer (some ⟨C.rb,0,none⟩)] W (RunP C W (zkD C.F r)):=by
 obtain⟨-,y7,y8,-,yf⟩:=h.cells;have nS:=h.n;obtain⟨rb,hrb⟩:∃ b,C.rb=b:=⟨_,rfl⟩
 obtain⟨F,hF⟩:∃ b,C.F=b:=⟨_,rfl⟩
 obtain⟨n,hn⟩:∃ b,r.n=b:=⟨_,rfl⟩
 have HS:=zh (show(fun w':World=>w'.cell? ⟨rb,7,none⟩=some (.int .i64 n)/\w'.cell? ⟨rb,8,none⟩=some (.int .i64 F)) W.drew from ⟨by rw[<-hrb,<-hn];exact y7,by rw[<-hrb,<-hF];exact y8⟩);have hd:Below W.heap.size W W.drew:=(Below.refl _ _).drew;have HK:=zh (show Kpt C.n0 C.kb W W.drew/\Below C.w.heap.size C.w W.drew from ⟨Kpt.of_below hd,zka h.below hd⟩);have HT:=zh (fun hlt=>RI.tick hC h hlt);have lQ:=zh h.below;have yf':∀ o,W.drew.frozen? ⟨rb,o,none⟩=false:=by rw[<-hrb];exact yf
 rw[hrb] at HT;rw[hn] at HT nS;rw[hF] at HT;by_cases hlt:F<=(n:Int)
 ·have HO:=zh (show zkD C.F r=.err 18 by unfold zkD;rw[if_pos (by rw[hF,hn];exact hlt)]);rw[hrb];clear h y7 y8 yf hrb hF hn HT;go_enter Tryz.func196,Tryz.ntmps196;go_upto_region 0 with fail
  go_region_held3 (fun w':World=>w'.cell? ⟨rb,7,none⟩=some (.int .i64 n)/\w'.cell? ⟨rb,8,none⟩=some (.int .i64 F))
   (with_reducible exact HS.out)
   (first|fail)
  go_wp2_with fail;refine(zpj 18 (by decide) _).mono ?_;rintro e w1 ⟨rfl,rfl⟩;refine⟨rfl,?_⟩;rw[HO.out];exact⟨HK.out.1,HK.out.2,rfl⟩
 ·have hw1:IntKind.i64.wrap ((n:Int)+1)=(n:Int)+1:=IntWalk.i64_in _ (by omega);have HO:=zh (show zkD C.F r=.ok { r with n:=n+1 } by unfold zkD;rw[if_neg (by rw[hF,hn];exact hlt),hn]);have HT2:=zh (HT.out (by omega));rw[hrb];have hlt':¬ F<=(n:Int):=hlt;clear h y7 y8 yf hrb hF hn HT;go_enter Tryz.func196,Tryz.ntmps196;go_upto_region 0 with fail
  go_region_held3 (fun w':World=>w'.cell? ⟨rb,7,none⟩=some (.int .i64 n)/\w'.cell? ⟨rb,8,none⟩=some (.int .i64 F))
   (with_reducible exact HS.out)
   (first|fail)
  obtain⟨z7,z8⟩:=HS.out;go_wp2_with fail;go_end0;rw[HO.out];have hd2:∀ W:World,Below W.heap.size W W.drew:=fun W=>(Below.refl _ _).drew;exact⟨HT2.out.2.trans (Kpt.of_below (hd2 _)),(HT2.out.1.later (hd2 _)).below,⟨_,rfl⟩,HT2.out.1.later (hd2 _)⟩
theorem zld (p:Addr) (x:Int) (w:World):Calls Tryz.prog 197 #[.pointer (some p),.int .i64 x] w fun e w'=>w'=w/\((x=0/\∃ u,e=.returned u)\/(x≠0/\e=zlB x)):=by
 by_cases hx:x=0
 ·subst hx;go_enter Tryz.func197,Tryz.ntmps197;go_wp2_with fail;go_end0;exact⟨rfl,.inl ⟨trivial,_,rfl⟩⟩
 ·have e1:(x != 0)=true:=by simpa using hx
  go_enter Tryz.func197,Tryz.ntmps197;go_wp2_with fail;refine(zpj x hx _).mono ?_;rintro e w1 ⟨rfl,rfl⟩;exact⟨rfl,rfl,.inr ⟨hx,rfl⟩⟩
theorem zuH:IsFn Tryz.prog 184 Tryz.f184:=⟨Tryz.func184,by kernel_rfl,by kernel_rfl⟩
theorem zuZ (w:World) (n0 sb:Nat) (kb:Nat->Prop) (S:ST) (hw:S.WF):zqt 184 Tryz.f184 (.pointer (some ⟨sb,0,none⟩)) (fun W=>KS w n0 sb kb W S) S.look where
 isFn:=zuH
 later:=fun _ _ h hb=>h.later hb
 fits:=(zsA 0 ⟨0,0,undef,undef,undef,undef,undef,fun _=>undef,fun _=>undef,fun _=>0,fun _=>undef⟩ S hw).fits
 call:=fun s W h=>by
  refine(h.cell s).mono ?_;rintro e W' ⟨v,l,b,rfl,hlk,hl0,ho,hf,hb⟩;refine⟨hb,?_⟩
  cases b
  ·obtain rfl:=hl0 rfl;obtain⟨A,c,rfl,-⟩:=zke ho;exact .inl ⟨by simpa using hlk,A,c,rfl⟩
  ·obtain⟨A,c,rfl,-,hr⟩:=zp6 ho hf;exact .inr ⟨l,A,c,by simpa using hlk,rfl,hr⟩
theorem zrf {f:FuncId} {fn:Func} {rv:Value} {Rd:World->Prop} {look:ByteArray->Option (List Int)} (hL:zqt f fn rv Rd look) (t:T) (v:Value) (w:World) (hv:NV w Any t v) (hR:Rd w) :
  Calls Tryz.prog 207 #[v,.func (.func f) #[rv] #[]] w fun e w'=>e=.returned (.tuple #[.bool (decide ((zkt look t).1≠0)),.int .i64 (zkt look t).2])/\Below w.heap.size w w':=by
 have HV:=zh hv;obtain⟨A,c,rfl,-⟩:=hv.open_;have jo:=zh (fun w' (hb:Below w.heap.size w w')=>znU hL t _ w' (hv.later hb) (hL.later _ _ hR hb));obtain⟨⟨x,y⟩,hx⟩:∃ x,zkt look t=x:=⟨_,rfl⟩
 rw[hx] at jo ⊢;dsimp only[NumE] at jo ⊢;clear hv hR hx;go_enter Tryz.func207,Tryz.ntmps207;have hb0:=zkd (Below.refl w.heap.size w) (.cells #[.int .u8 t.k,.int .i64 t.n,.string t.s,.slice A t.ks.length c] 29);have HB0:=zh hb0;obtain⟨x0,x1,x2,x3⟩:=box4 (heap_alloc_new w (.cells #[.int .u8 t.k,.int .i64 t.n,.string t.s,.slice A t.ks.length c] 29));clear hb0;go_wp2_with fail;refine(jo.out _ HB0.out).mono ?_;rintro e w1 ⟨rfl,ae⟩;have HB1:=zh (zka HB0.out ae);clear ae x0 x1 x2 x3;by_cases h0:x=0
 ·subst h0;go_wp2_with fail;go_ret2;exact⟨by simp,HB1.out⟩
 ·have e1:(x != 0)=true:=by simpa using h0
  go_wp2_with fail;go_ret2;exact⟨by simp[h0],HB1.out⟩
def RC.plus (C:RC) (lo hi:Nat):RC:={ C with kb:=fun b=>C.kb b\/(lo<=b/\b<hi) }
section
variable {C:RC} {W W' W'':World} {r r':RS} {lo hi:Nat}
theorem RI.rlt (h:RI C W r):C.rb<W.heap.size:=zkk h.box
theorem RI.plus (hC:C.Ok) (h:RI C W r) (hb:Below W.heap.size W W'):(C.plus W.heap.size W'.heap.size).Ok/\RI (C.plus W.heap.size W'.heap.size) W' r:=by
 have h1:=h.rlt;refine⟨⟨hC.pg,hC.F,hC.F6,⟨hC.rb.1,fun hk=>?_⟩,⟨hC.ev.1,fun b hb' hk=>?_⟩,hC.ps⟩,⟨h.ks.also hb fun b hk=>?_,zkb h.box hb,zkB h.ent hb,h.el,h.en,h.n,h.fb⟩⟩
 ·rcases hk with hk|hk
  ·exact hC.rb.2 hk
  ·have:W.heap.size<=C.rb:=hk.1;omega
 ·rcases hk with hk|hk
  ·exact hC.ev.2 b hb' hk
  ·have:=(h.ent.lt b hb').2;have:=hk.1;omega
 ·rcases hk with(hk|hk)|hk|hk
  ·exact .inl (.inl hk)
  ·exact .inr hk
  ·exact .inl (.inr (.inl hk))
  ·exact .inl (.inr (.inr hk))
theorem RI.less (h:RI (C.plus lo hi) W r):RI C W r :=
 ⟨h.ks.less fun b hk=>hk.elim (fun hk=>.inl (.inl hk)) .inr,h.box,h.ent,h.el,h.en,h.n,h.fb⟩
theorem Kpt.less (h:Kpt C.n0 (C.plus lo hi).kb W W'):Kpt C.n0 C.kb W W':=⟨h.size,fun b hb hk=>h.kept b hb (hk.imp id .inl)⟩
theorem Kpt.plus {b o:Nat} {u:Value} (h:Kpt C.n0 (C.plus lo hi).kb W W') (hb:lo<=b/\b<hi) (hc:W.cell? ⟨b,o,none⟩=some u):W'.cell? ⟨b,o,none⟩=some u:=h.cell (.inr (.inr hb)) hc
end
def zxS (C:RC) (W:World) (t:T) (r:RS) (e:Ending) (W':World):Prop :=
 Kpt C.n0 C.kb W W'/\Below C.w.heap.size C.w W'/\((∃ x,e=zlB x/\∀ f,zk3 C.F t r f=.err x)\/∃ b r',e=.returned (.bool b)/\RI C W' r'/\∀ f,zk3 C.F t r f=f b r')
theorem zn8 {C:RC} (hC:C.Ok) {W:World} {r:RS} (h:RI C W r) (t:T) (v:Value) (hv:NV C.w Any t v):Calls Tryz.prog 209 #[.pointer (some ⟨C.rb,0,none⟩),v] W (zxS C W t r):=by
 have HV:=zh hv;obtain⟨A,c,rfl,-⟩:=hv.open_;have oG:∀ (fn:Fn) (first cap:Array Value) (w:World),(Instr.makeFunc fn first cap).run Tryz.prog w=.ok (.func fn first cap) w:=fun _ _ _ _=>rfl;have hb0:=zkd (Below.refl W.heap.size W) (.cells #[.int .u8 t.k,.int .i64 t.n,.string t.s,.slice A t.ks.length c] 29);obtain⟨bB,h1⟩:=h.plus hC hb0;have hz1:(W.alloc (.cells #[.int .u8 t.k,.int .i64 t.n,.string t.s,.slice A t.ks.length c] 29)).heap.size=W.heap.size+1:=by simp
 have hbx:=box4 (heap_alloc_new W (.cells #[.int .u8 t.k,.int .i64 t.n,.string t.s,.slice A t.ks.length c] 29));have aK:=zh (Kpt.of_below (n0:=C.n0) (kb:=C.kb) hb0);obtain⟨W1,hW1⟩:∃ x,W.alloc (.cells #[.int .u8 t.k,.int .i64 t.n,.string t.s,.slice A t.ks.length c] 29)=x:=⟨_,rfl⟩
 rw[hW1] at bB h1 hz1 hbx aK;have di:=zh bB;have H1:=zh h1;have HST:=zh (zlV bB h1);obtain⟨hi,hhi⟩:∃ x,W1.heap.size=x:=⟨_,rfl⟩
 rw[hhi] at di H1 HST hz1;have aX:=zh hbx;have HZ1:=zh (show W.heap.size<hi by omega);clear hv bB h1 hbx hb0 h hhi hz1;go_enter Tryz.func209,Tryz.ntmps209;go_wp2_with fail;refine HST.out.mono ?_;rintro e w1 ⟨hk1,hbl1,ho1⟩;have aG:=zh (aK.out.trans (Kpt.less (C:=C) hk1));have HB1:=zh hbl1
 cases hs:zkD C.F r with
 | gas=>exact absurd hs (zkx _ _).1
 | err x =>
  rw[show zkD (C.plus W.heap.size hi).F r=zkD C.F r from rfl,hs] at ho1;subst ho1;exact⟨rfl,aG.out,HB1.out,.inl ⟨x,rfl,fun f=>by unfold zk3;rw[hs];rfl⟩⟩
 | ok r1 =>
  rw[show zkD (C.plus W.heap.size hi).F r=zkD C.F r from rfl,hs] at ho1;obtain⟨⟨u,rfl⟩,hr1⟩:=ho1;have x0:=Kpt.plus (C:=C) hk1 (b:=W.heap.size) ⟨Nat.le_refl _,HZ1.out⟩ aX.out.1;have x1:=Kpt.plus (C:=C) hk1 (b:=W.heap.size) ⟨Nat.le_refl _,HZ1.out⟩ aX.out.2.1;have x2:=Kpt.plus (C:=C) hk1 (b:=W.heap.size) ⟨Nat.le_refl _,HZ1.out⟩ aX.out.2.2.1;have x3:=Kpt.plus (C:=C) hk1 (b:=W.heap.size) ⟨Nat.le_refl _,HZ1.out⟩ aX.out.2.2.2;have HS:=zh hs;have HR1:=zh hr1.less;obtain⟨y6,-⟩:=hr1.cells;have y6':w1.cell? ⟨C.rb,6,none⟩=some (.pointer (some ⟨C.sb,0,none⟩)):=y6;have kC:=zh (fun w' (hb:Below w1.heap.size w1 w')=>zrf (zuZ C.w C.n0 C.sb _ r1.S HR1.out.ks.wf) t _ w' (HV.out.later (zka HR1.out.below hb)) (HR1.out.ks.later hb));obtain⟨⟨x,y⟩,hx⟩:∃ x,zkt r1.S.look t=x:=⟨_,rfl⟩
  rw[hx] at kC;dsimp only at kC;obtain⟨bb,hbb⟩:∃ b,decide (x≠0)=b:=⟨_,rfl⟩
  rw[hbb] at kC;have lG:=zh hx;have HBBB:=zh hbb;clear hbb hk1 hbl1 hs hr1 y6 hx HST aX;have aA:=zh (show ∀ w',Below w1.heap.size w1 w'->(fun w':World=>w'.cell? ⟨W.heap.size,0,none⟩=some (.int .u8 t.k)/\w'.cell? ⟨W.heap.size,1,none⟩=some (.int .i64 t.n)/\w'.cell? ⟨W.heap.size,2,none⟩=some (.string t.s)/\w'.cell? ⟨W.heap.size,3,none⟩=some (.slice A t.ks.length c)/\w'.cell? ⟨C.rb,6,none⟩=some (.pointer (some ⟨C.sb,0,none⟩))) w' from fun w' hb=>⟨zb hb x0,zb hb x1,zb hb x2,zb hb x3,zb hb y6'⟩);have iO:=zh (aA.out _ (Below.refl _ _).drew);clear x0 x1 x2 x3 y6';go_upto_region 2 with fail
  go_region_held3 (fun w':World=>w'.cell? ⟨W.heap.size,0,none⟩=some (.int .u8 t.k)/\w'.cell? ⟨W.heap.size,1,none⟩=some (.int .i64 t.n)/\w'.cell? ⟨W.heap.size,2,none⟩=some (.string t.s)/\w'.cell? ⟨W.heap.size,3,none⟩=some (.slice A t.ks.length c)/\w'.cell? ⟨C.rb,6,none⟩=some (.pointer (some ⟨C.sb,0,none⟩)))
   (first|with_reducible exact dL.out|with_reducible exact iO.out)
   (first
    | (go_at_call 207;refine(kC.out _ (Below.refl _ _).drew).mono ?_;rintro e y1 ⟨rfl,eZ⟩;have b1:=zka (Below.refl w1.heap.size w1).drew eZ;have dL:=zh (aA.out _ b1))
    | fail)
  have HB2:=zh b1;clear b1 eZ dL;go_wp2_with fail;refine(zld _ y _).mono ?_;rintro e w3 ⟨rfl,hcs⟩;rcases hcs with⟨rfl,u2,rfl⟩|⟨hy,rfl⟩
  ·go_wp2_with fail;go_ret;refine⟨aG.out.trans (Kpt.of_below HB2.out),zka HB1.out HB2.out,.inr ⟨bb,r1,rfl,HR1.out.later HB2.out,fun f=>?_⟩⟩;unfold zk3;rw[HS.out];simp only[Out.bind,valO,lG.out];simp[<-HBBB.out]
  ·refine⟨rfl,aG.out.trans (Kpt.of_below HB2.out),zka HB1.out HB2.out,.inl ⟨y,rfl,fun f=>?_⟩⟩;unfold zk3;rw[HS.out];simp only[Out.bind,valO,lG.out];rw[if_pos hy]
theorem zmw (x:Int):I64 (wrap64 x):=by
 unfold wrap64 I64
 constructor<;>omega
theorem zqL (b:Bool):I64 (numI b):=by
 cases b
 ·exact⟨by decide,by decide⟩
 ·exact⟨by decide,by decide⟩
theorem zero_I64:I64 0:=⟨by decide,by decide⟩
theorem zqB {x y:Int} (h:I64 x):I64 (x.tmod y):=by
 obtain⟨h1,h2⟩:=h;rcases Int.le_total 0 x with h0|h0
 ·have a1:=Int.tmod_nonneg y h0;have a2:(x.tmod y).natAbs<=x.natAbs:=by rw[Int.natAbs_tmod];exact Nat.mod_le _ _
  exact⟨by omega,by omega⟩
 ·have a1:=Int.tmod_nonneg y (show 0 <= -x by omega);rw[Int.neg_tmod] at a1;have a2:(x.tmod y).natAbs<=x.natAbs:=by rw[Int.natAbs_tmod];exact Nat.mod_le _ _
  exact⟨by omega,by omega⟩
theorem zuT {k x y:Int} (hx:I64 x):I64 (divE k x y).1:=by
 unfold divE
 repeat' split
 all_goals first|exact zero_I64|exact zmw _|exact zqB hx
theorem zvU (k x:Int):I64 (unE k x).1:=by
 unfold unE
 split
 ·exact zmw _
 ·exact zqL _
theorem zwa {c:Prop} [Decidable c] {a b:Int×Int} (ha:I64 a.1) (hb:I64 b.1):I64 (if c then a else b).1:=by
 split
 ·exact ha
 ·exact hb
theorem zwG {k x y:Int} (hx:I64 x):I64 (apE k x y).1:=by
 unfold apE
 repeat' apply zwa
 all_goals first|exact zmw _|exact zuT hx|exact zqB hx|exact zpV _|exact zqL _|exact zero_I64
theorem zuE {l:List Int} (h:∀ x∈l,I64 x) (i:Nat):I64 (l.getD i 0):=by
 rw[List.getD_eq_getElem?_getD];rcases hx:l[i]? with _|x
 ·exact zero_I64
 ·exact h x (List.mem_of_getElem? hx)
theorem zs4 {look:ByteArray->Option (List Int)} (hl:∀ s l,look s=some l->l.length<=100000/\∀ x∈l,I64 x) {k n:Int} {s:ByteArray} {rs:List (Int×Int)} (hn:I64 n) (h0:I64 (rs.getD 0 (0,0)).1):I64 (evK look k n s rs).1:=by
 unfold evK
 split
 ·exact hn
 ·split
  ·unfold varE
   split
   ·exact zero_I64
   ·rename_i l hlk;obtain⟨h1,h2⟩:=hl s l hlk
    repeat' split
    all_goals first|exact zuE h2 _|exact zero_I64|exact⟨by simp only;omega,by simp only;omega⟩
  ·repeat' split
   all_goals first|exact zvU _ _|exact zwG h0|exact zero_I64
theorem zs5 {look:ByteArray->Option (List Int)} (hl:∀ s l,look s=some l->l.length<=100000/\∀ x∈l,I64 x) {w:World}:∀ (m:Nat) (t:T) (v:Value),size t<=m->NV w Any t v->I64 (evE look t).1
 | 0,t,_,h,_=>by obtain⟨k,n,s,ks⟩:=t;rw[size] at h;omega
 | m+1,.nd k n s ks,v,h,hv=>by
  obtain⟨A,c,-,hf,-,-,hrow⟩:=hv.open_;rw[evE];refine zs4 hl hf.2.1 ?_;rw[znO,List.getD_eq_getElem?_getD,List.getElem?_map];rcases hk:ks[0]? with _|u
  ·exact zero_I64
  ·obtain⟨h1,h2⟩:=List.getElem?_eq_some_iff.1 hk;obtain⟨a,u0,u1,u2,u3,-,-,-,hn⟩:=hrow 0 h1;have hs:=zl8 (List.getElem_mem h1);rw[size] at h;have:=zs5 hl m ks[0] _ (by omega) hn;rw[h2] at this;exact this
theorem zqQ {S:ST} (h:S.WF):∀ s l,S.look s=some l->l.length<=100000/\∀ x∈l,I64 x:=fun s l hl=>by
 obtain⟨i,id,h1,h2,rfl⟩:=ST.look_num hl;obtain⟨kd,hc⟩:=h.cur;have:=h.cells id (hc.num id (List.mem_of_getElem? h2));exact⟨by omega,this.2⟩
theorem zq3 {S:ST} (h:S.WF) {w:World} {t:T} {v:Value} (hv:NV w Any t v):I64 (zkt S.look t).1:=by
 unfold zkt
 split
 ·exact zs5 (zqQ h) _ _ _ (Nat.le_refl _) hv
 ·exact zero_I64
def ValP (C:RC) (W:World) (t:T) (r:RS) (e:Ending) (W':World):Prop :=
 Below W.heap.size W W'/\((∃ x,e=zlB x/\∀ f,valO t r f=.err x)\/∃ x,e=.returned (.int .i64 x)/\I64 x/\∀ f,valO t r f=f x r)
theorem zpm {C:RC} {W:World} {r:RS} (h:RI C W r) (t:T) (v:Value) (hv:NV C.w Any t v):Calls Tryz.prog 211 #[.pointer (some ⟨C.rb,0,none⟩),v] W (ValP C W t r):=by
 have HV:=zh hv;obtain⟨A,c,rfl,-⟩:=hv.open_;have oG:∀ (fn:Fn) (first cap:Array Value) (w:World),(Instr.makeFunc fn first cap).run Tryz.prog w=.ok (.func fn first cap) w:=fun _ _ _ _=>rfl;have hb0:=zkd (Below.refl W.heap.size W) (.cells #[.int .u8 t.k,.int .i64 t.n,.string t.s,.slice A t.ks.length c] 29);have hbx:=box4 (heap_alloc_new W (.cells #[.int .u8 t.k,.int .i64 t.n,.string t.s,.slice A t.ks.length c] 29));obtain⟨y6,-⟩:=(h.later hb0).cells;have HR:=zh (h.later hb0);have HB0:=zh hb0;obtain⟨w1,hW1⟩:∃ x,W.alloc (.cells #[.int .u8 t.k,.int .i64 t.n,.string t.s,.slice A t.ks.length c] 29)=x:=⟨_,rfl⟩
 rw[hW1] at hbx HR HB0 y6;obtain⟨x0,x1,x2,x3⟩:=hbx;have kC:=zh (fun w' (hb:Below w1.heap.size w1 w')=>znU (zuZ C.w C.n0 C.sb _ r.S HR.out.ks.wf) t _ w' (HV.out.later (zka HR.out.below hb)) (HR.out.ks.later hb));obtain⟨⟨x,y⟩,hx⟩:∃ x,zkt r.S.look t=x:=⟨_,rfl⟩
 rw[hx] at kC;have lG:=zh hx;have aA:=zh (show ∀ w',Below w1.heap.size w1 w'->(fun w':World=>w'.cell? ⟨W.heap.size,0,none⟩=some (.int .u8 t.k)/\w'.cell? ⟨W.heap.size,1,none⟩=some (.int .i64 t.n)/\w'.cell? ⟨W.heap.size,2,none⟩=some (.string t.s)/\w'.cell? ⟨W.heap.size,3,none⟩=some (.slice A t.ks.length c)/\w'.cell? ⟨C.rb,6,none⟩=some (.pointer (some ⟨C.sb,0,none⟩))) w' from fun w' hb=>⟨zb hb x0,zb hb x1,zb hb x2,zb hb x3,zb hb y6⟩);have iO:=zh (aA.out _ (Below.refl _ _).drew);clear hv hb0 hx x0 x1 x2 x3 y6 h;go_enter Tryz.func211,Tryz.ntmps211;go_upto_region 1 with fail;clear hW1
 go_region_held3 (fun w':World=>w'.cell? ⟨W.heap.size,0,none⟩=some (.int .u8 t.k)/\w'.cell? ⟨W.heap.size,1,none⟩=some (.int .i64 t.n)/\w'.cell? ⟨W.heap.size,2,none⟩=some (.string t.s)/\w'.cell? ⟨W.heap.size,3,none⟩=some (.slice A t.ks.length c)/\w'.cell? ⟨C.rb,6,none⟩=some (.pointer (some ⟨C.sb,0,none⟩)))
  (first|with_reducible exact dL.out|with_reducible exact iO.out)
  (first
   | (go_at_call 110;refine(kC.out _ (Below.refl _ _).drew).mono ?_;rintro e y1 ⟨rfl,eZ⟩;have b1:=zka (Below.refl w1.heap.size w1).drew eZ;have dL:=zh (aA.out _ b1))
   | fail)
 have HB2:=zh (zka HB0.out b1);clear b1 eZ dL;go_wp2_with fail;refine(zld _ y _).mono ?_;rintro e w3 ⟨rfl,hcs⟩;rcases hcs with⟨rfl,u2,rfl⟩|⟨hy,rfl⟩
 ·go_wp2_with fail;go_ret;refine⟨HB2.out,.inr ⟨x,rfl,?_,fun f=>?_⟩⟩
  ·have:=zq3 HR.out.ks.wf HV.out;rw[lG.out] at this;exact this
  ·unfold valO;rw[lG.out];simp
 ·refine⟨rfl,HB2.out,.inl ⟨y,rfl,fun f=>?_⟩⟩;unfold valO;rw[lG.out,if_pos hy]
theorem zmM {C:RC} (hC:C.Ok) {W:World} {r:RS} (h:RI C W r) (t:T) (v:Value) (hv:NV C.w Any t v) (b:Bool):Calls Tryz.prog 210 #[.pointer (some ⟨C.rb,0,none⟩),v,.bool b] W (RunP C W (zkv C.F t b r)):=by
 have HV:=zh hv;obtain⟨A,c,rfl,-⟩:=hv.open_;have hb0:=zkd (Below.refl W.heap.size W) (.cells #[.int .u8 t.k,.int .i64 t.n,.string t.s,.slice A t.ks.length c] 29);obtain⟨x0,x1,x2,x3⟩:=box4 (heap_alloc_new W (.cells #[.int .u8 t.k,.int .i64 t.n,.string t.s,.slice A t.ks.length c] 29));have aK:=zh (Kpt.of_below (n0:=C.n0) (kb:=C.kb) hb0);have ji:=zh (zn8 hC (h.later hb0) t _ hv);clear hv hb0 h;go_enter Tryz.func210,Tryz.ntmps210;go_wp2_with fail;refine ji.out.mono ?_;rintro e w1 ⟨hk1,hb1,ho⟩;have aG:=zh (aK.out.trans hk1);have HB1:=zh hb1;clear hk1 hb1 ji x0 x1 x2 x3 aK;rcases ho with⟨x,rfl,hx⟩|⟨b1,r1,rfl,hr1,hx⟩
 ·refine⟨rfl,aG.out,HB1.out,?_⟩;rw[show zkv C.F t b r=.err x from hx _]
 ·have HX:=zh (show zkv C.F t b r=if b1=b then .ok r1 else .err 15 from hx _);have HR:=zh hr1;clear hr1 hx;by_cases hbb:b1=b
  ·subst hbb;have dF:=zh (show zkv C.F t b1 r=.ok r1 by rw[HX.out,if_pos rfl]);clear HX;go_wp2_with fail;go_end0;refine⟨aG.out,HB1.out,?_⟩;rw[dF.out];exact⟨⟨_,rfl⟩,HR.out⟩
  ·have e1:(b1 != b)=true:=by simpa using hbb
   have e2:(b1==b)=false:=by simpa using hbb
   go_wp2_with fail;refine(zpj 15 (by decide) _).mono ?_;rintro e w2 ⟨rfl,rfl⟩;refine⟨rfl,aG.out,HB1.out,?_⟩;rw[HX.out,if_neg hbb]
end Go.Proofs.YtckhofdinldhpaaGreat
