/-
  Texts of the proof, put together without their remarks: Ast3, Lim, Val, Clone, Rev, Inv, Rg, Ipg, Ar, RowI.
-/
import Derived.Test.YthjinpodhacleaaGreatR1
import Derived.RegionTactic
import Derived.BigRegion
import Derived.Deep.RegionHeld3
import Derived.Deep.DeepCutAuto
import Derived.Laws.EntriesVeiled
set_option linter.unusedSimpArgs false
set_option linter.unusedVariables false
set_option maxHeartbeats 8000000
set_option maxRecDepth 100000
namespace Go.Proofs.YthjinpodhacleaaGreat
open Tryz
section
open Go.RowKit
def zlU(t:T):Prop:=∀(v:Value) (w:World),NV w Any t v->Calls prog 113 #[v] w fun e w'=>e=.returned (.bool (isS t))/\Below w.heap.size w w'
def zlk(t:T):Prop:=∀(v:Value) (w:World),NV w Any t v->Calls prog 84 #[v] w fun e w'=>e=.returned (.bool (isB t))/\Below w.heap.size w w'
theorem zvy(n:Int)(s:ByteArray)(ks:List T)(aK:∀t∈ks,zlk t):zlU (.nd 40 n s ks):=by
 intro v w hv;have HX:=zh (show isS (.nd 40 n s ks)=(zko n s&&zkC 2 (fun i=>if i=0 then isP else isE) ks) by simp[isS]);have IH:=zh aK;have HV:=zh hv;obtain⟨Ad,c,rfl,hf,hlk,hlc,hrow⟩:=hv.open_;simp only[T.k_nd,T.n_nd,T.s_nd,T.ks_nd]at *
 have au:=zkx hlk;clear hf hv hlk hrow hlc aK;by_cases hnb:zko n s=true
 ·go_enter func113,ntmps113;go_wp2_with fail;refine(zkn _ _ _ _ _ _ _).mono ?_;rintro e w1 ⟨rfl,hb1⟩;obtain⟨hc1,hf1⟩:=zlr hb1;have hbb:Below w.heap.size w w1:=zAB hb1;go_wp2_with fail;refine(zkO (.nd 40 n s ks) _ _ (HV.out.later (hbb.alloc hbb.size _)) _ 2 (fun i=>if i=0 then 143 else 144) (fun i=>if i=0 then f143 else f144) (fun i=>if i=0 then isP else isE) (by decide) (by simp) (fun i hi=>zmg (by rcases i with _|_|_|_|i<;>first|omega|rfl)) (fun i hi=>by rcases i with _|i;exact zk2;exact zkZ) (fun hl i hi=>by rcases i with _|i;exact zkN _;exact zkF _)).mono ?_;rintro e w2 ⟨rfl,hb2⟩;have hbc:Below w.heap.size w w2:=zAC hbb hb2;go_wp2_with fail;go_ret;exact⟨by rw[HX.out];simp[*],hbc⟩
 ·have hnb':zko n s=false:=by simpa using hnb
  clear hnb;go_enter func113,ntmps113;go_wp2_with fail;refine(zkn _ _ _ _ _ _ _).mono ?_;rintro e w1 ⟨rfl,hb1⟩;have hbb:Below w.heap.size w w1:=zAB hb1;go_wp2_with fail;go_ret;exact⟨by rw[HX.out];simp[*],hbb⟩
theorem zvx(n:Int)(s:ByteArray)(ks:List T)(aK:∀t∈ks,zlk t):zlU (.nd 41 n s ks):=by
 intro v w hv;have HX:=zh (show isS (.nd 41 n s ks)=(zko n s&&zkC 2 (fun i=>if i=0 then isP else isE) ks) by simp[isS]);have IH:=zh aK;have HV:=zh hv;obtain⟨Ad,c,rfl,hf,hlk,hlc,hrow⟩:=hv.open_;simp only[T.k_nd,T.n_nd,T.s_nd,T.ks_nd]at *
 have au:=zkx hlk;clear hf hv hlk hrow hlc aK;by_cases hnb:zko n s=true
 ·go_enter func113,ntmps113;go_wp2_with fail;refine(zkn _ _ _ _ _ _ _).mono ?_;rintro e w1 ⟨rfl,hb1⟩;obtain⟨hc1,hf1⟩:=zlr hb1;have hbb:Below w.heap.size w w1:=zAB hb1;go_wp2_with fail;refine(zkO (.nd 41 n s ks) _ _ (HV.out.later (hbb.alloc hbb.size _)) _ 2 (fun i=>if i=0 then 143 else 144) (fun i=>if i=0 then f143 else f144) (fun i=>if i=0 then isP else isE) (by decide) (by simp) (fun i hi=>zmg (by rcases i with _|_|_|_|i<;>first|omega|rfl)) (fun i hi=>by rcases i with _|i;exact zk2;exact zkZ) (fun hl i hi=>by rcases i with _|i;exact zkN _;exact zkF _)).mono ?_;rintro e w2 ⟨rfl,hb2⟩;have hbc:Below w.heap.size w w2:=zAC hbb hb2;go_wp2_with fail;go_ret;exact⟨by rw[HX.out];simp[*],hbc⟩
 ·have hnb':zko n s=false:=by simpa using hnb
  clear hnb;go_enter func113,ntmps113;go_wp2_with fail;refine(zkn _ _ _ _ _ _ _).mono ?_;rintro e w1 ⟨rfl,hb1⟩;have hbb:Below w.heap.size w w1:=zAB hb1;go_wp2_with fail;go_ret;exact⟨by rw[HX.out];simp[*],hbb⟩
theorem zvw(n:Int)(s:ByteArray)(ks:List T)(aK:∀t∈ks,zlk t):zlU (.nd 42 n s ks):=by
 intro v w hv;have HX:=zh (show isS (.nd 42 n s ks)=(zko n s&&zkC 2 (fun i=>if i=0 then isP else isE) ks) by simp[isS]);have IH:=zh aK;have HV:=zh hv;obtain⟨Ad,c,rfl,hf,hlk,hlc,hrow⟩:=hv.open_;simp only[T.k_nd,T.n_nd,T.s_nd,T.ks_nd]at *
 have au:=zkx hlk;clear hf hv hlk hrow hlc aK;by_cases hnb:zko n s=true
 ·go_enter func113,ntmps113;go_wp2_with fail;refine(zkn _ _ _ _ _ _ _).mono ?_;rintro e w1 ⟨rfl,hb1⟩;obtain⟨hc1,hf1⟩:=zlr hb1;have hbb:Below w.heap.size w w1:=zAB hb1;go_wp2_with fail;refine(zkO (.nd 42 n s ks) _ _ (HV.out.later (hbb.alloc hbb.size _)) _ 2 (fun i=>if i=0 then 143 else 144) (fun i=>if i=0 then f143 else f144) (fun i=>if i=0 then isP else isE) (by decide) (by simp) (fun i hi=>zmg (by rcases i with _|_|_|_|i<;>first|omega|rfl)) (fun i hi=>by rcases i with _|i;exact zk2;exact zkZ) (fun hl i hi=>by rcases i with _|i;exact zkN _;exact zkF _)).mono ?_;rintro e w2 ⟨rfl,hb2⟩;have hbc:Below w.heap.size w w2:=zAC hbb hb2;go_wp2_with fail;go_ret;exact⟨by rw[HX.out];simp[*],hbc⟩
 ·have hnb':zko n s=false:=by simpa using hnb
  clear hnb;go_enter func113,ntmps113;go_wp2_with fail;refine(zkn _ _ _ _ _ _ _).mono ?_;rintro e w1 ⟨rfl,hb1⟩;have hbb:Below w.heap.size w w1:=zAB hb1;go_wp2_with fail;go_ret;exact⟨by rw[HX.out];simp[*],hbb⟩
theorem zvi(n:Int)(s:ByteArray)(ks:List T)(aK:∀t∈ks,zlk t):zlU (.nd 56 n s ks):=by
 intro v w hv;have HX:=zh (show isS (.nd 56 n s ks)=(zko n s&&zkC 2 (fun i=>if i=0 then isP else isE) ks) by simp[isS]);have IH:=zh aK;have HV:=zh hv;obtain⟨Ad,c,rfl,hf,hlk,hlc,hrow⟩:=hv.open_;simp only[T.k_nd,T.n_nd,T.s_nd,T.ks_nd]at *
 have au:=zkx hlk;clear hf hv hlk hrow hlc aK;by_cases hnb:zko n s=true
 ·go_enter func113,ntmps113;go_wp2_with fail;refine(zkn _ _ _ _ _ _ _).mono ?_;rintro e w1 ⟨rfl,hb1⟩;obtain⟨hc1,hf1⟩:=zlr hb1;have hbb:Below w.heap.size w w1:=zAB hb1;go_wp2_with fail;refine(zkO (.nd 56 n s ks) _ _ (HV.out.later (hbb.alloc hbb.size _)) _ 2 (fun i=>if i=0 then 143 else 144) (fun i=>if i=0 then f143 else f144) (fun i=>if i=0 then isP else isE) (by decide) (by simp) (fun i hi=>zmg (by rcases i with _|_|_|_|i<;>first|omega|rfl)) (fun i hi=>by rcases i with _|i;exact zk2;exact zkZ) (fun hl i hi=>by rcases i with _|i;exact zkN _;exact zkF _)).mono ?_;rintro e w2 ⟨rfl,hb2⟩;have hbc:Below w.heap.size w w2:=zAC hbb hb2;go_wp2_with fail;go_ret;exact⟨by rw[HX.out];simp[*],hbc⟩
 ·have hnb':zko n s=false:=by simpa using hnb
  clear hnb;go_enter func113,ntmps113;go_wp2_with fail;refine(zkn _ _ _ _ _ _ _).mono ?_;rintro e w1 ⟨rfl,hb1⟩;have hbb:Below w.heap.size w w1:=zAB hb1;go_wp2_with fail;go_ret;exact⟨by rw[HX.out];simp[*],hbb⟩
theorem zvv(n:Int)(s:ByteArray)(ks:List T)(aK:∀t∈ks,zlk t):zlU (.nd 43 n s ks):=by
 intro v w hv;have HX:=zh (show isS (.nd 43 n s ks)=(zko n s&&zkC 2 (fun _=>isP) ks) by simp[isS]);have IH:=zh aK;have HV:=zh hv;obtain⟨Ad,c,rfl,hf,hlk,hlc,hrow⟩:=hv.open_;simp only[T.k_nd,T.n_nd,T.s_nd,T.ks_nd]at *
 have au:=zkx hlk;clear hf hv hlk hrow hlc aK;by_cases hnb:zko n s=true
 ·go_enter func113,ntmps113;go_wp2_with fail;refine(zkn _ _ _ _ _ _ _).mono ?_;rintro e w1 ⟨rfl,hb1⟩;obtain⟨hc1,hf1⟩:=zlr hb1;have hbb:Below w.heap.size w w1:=zAB hb1;go_wp2_with fail;refine(zkO (.nd 43 n s ks) _ _ (HV.out.later (hbb.alloc hbb.size _)) _ 2 (fun _=>143) (fun _=>f143) (fun _=>isP) (by decide) (by simp) (fun i hi=>zmg (by rcases i with _|_|_|_|i<;>first|omega|rfl)) (fun _ _=>zk2) (fun hl i hi=>zkN _)).mono ?_;rintro e w2 ⟨rfl,hb2⟩;have hbc:Below w.heap.size w w2:=zAC hbb hb2;go_wp2_with fail;go_ret;exact⟨by rw[HX.out];simp[*],hbc⟩
 ·have hnb':zko n s=false:=by simpa using hnb
  clear hnb;go_enter func113,ntmps113;go_wp2_with fail;refine(zkn _ _ _ _ _ _ _).mono ?_;rintro e w1 ⟨rfl,hb1⟩;have hbb:Below w.heap.size w w1:=zAB hb1;go_wp2_with fail;go_ret;exact⟨by rw[HX.out];simp[*],hbb⟩
theorem zvu(n:Int)(s:ByteArray)(ks:List T)(aK:∀t∈ks,zlk t):zlU (.nd 44 n s ks):=by
 intro v w hv;have HX:=zh (show isS (.nd 44 n s ks)=(zky n s&&zkC 1 (fun _=>isP) ks) by simp[isS]);have IH:=zh aK;have HV:=zh hv;obtain⟨Ad,c,rfl,hf,hlk,hlc,hrow⟩:=hv.open_;simp only[T.k_nd,T.n_nd,T.s_nd,T.ks_nd]at *
 have au:=zkx hlk;clear hf hv hlk hrow hlc aK;by_cases hnb:zky n s=true
 ·go_enter func113,ntmps113;go_wp2_with fail;refine(zks _ _ _ _ _ _ _).mono ?_;rintro e w1 ⟨rfl,hb1⟩;obtain⟨hc1,hf1⟩:=zlr hb1;have hbb:Below w.heap.size w w1:=zAB hb1;go_wp2_with fail;refine(zkO (.nd 44 n s ks) _ _ (HV.out.later (hbb.alloc hbb.size _)) _ 1 (fun _=>143) (fun _=>f143) (fun _=>isP) (by decide) (by simp) (fun i hi=>zmg (by rcases i with _|_|_|_|i<;>first|omega|rfl)) (fun _ _=>zk2) (fun hl i hi=>zkN _)).mono ?_;rintro e w2 ⟨rfl,hb2⟩;have hbc:Below w.heap.size w w2:=zAC hbb hb2;go_wp2_with fail;go_ret;exact⟨by rw[HX.out];simp[*],hbc⟩
 ·have hnb':zky n s=false:=by simpa using hnb
  clear hnb;go_enter func113,ntmps113;go_wp2_with fail;refine(zks _ _ _ _ _ _ _).mono ?_;rintro e w1 ⟨rfl,hb1⟩;have hbb:Below w.heap.size w w1:=zAB hb1;go_wp2_with fail;go_ret;exact⟨by rw[HX.out];simp[*],hbb⟩
theorem zvt(n:Int)(s:ByteArray)(ks:List T)(aK:∀t∈ks,zlk t):zlU (.nd 45 n s ks):=by
 intro v w hv;have HX:=zh (show isS (.nd 45 n s ks)=(zky n s&&zkC 1 (fun _=>isP) ks) by simp[isS]);have IH:=zh aK;have HV:=zh hv;obtain⟨Ad,c,rfl,hf,hlk,hlc,hrow⟩:=hv.open_;simp only[T.k_nd,T.n_nd,T.s_nd,T.ks_nd]at *
 have au:=zkx hlk;clear hf hv hlk hrow hlc aK;by_cases hnb:zky n s=true
 ·go_enter func113,ntmps113;go_wp2_with fail;refine(zks _ _ _ _ _ _ _).mono ?_;rintro e w1 ⟨rfl,hb1⟩;obtain⟨hc1,hf1⟩:=zlr hb1;have hbb:Below w.heap.size w w1:=zAB hb1;go_wp2_with fail;refine(zkO (.nd 45 n s ks) _ _ (HV.out.later (hbb.alloc hbb.size _)) _ 1 (fun _=>143) (fun _=>f143) (fun _=>isP) (by decide) (by simp) (fun i hi=>zmg (by rcases i with _|_|_|_|i<;>first|omega|rfl)) (fun _ _=>zk2) (fun hl i hi=>zkN _)).mono ?_;rintro e w2 ⟨rfl,hb2⟩;have hbc:Below w.heap.size w w2:=zAC hbb hb2;go_wp2_with fail;go_ret;exact⟨by rw[HX.out];simp[*],hbc⟩
 ·have hnb':zky n s=false:=by simpa using hnb
  clear hnb;go_enter func113,ntmps113;go_wp2_with fail;refine(zks _ _ _ _ _ _ _).mono ?_;rintro e w1 ⟨rfl,hb1⟩;have hbb:Below w.heap.size w w1:=zAB hb1;go_wp2_with fail;go_ret;exact⟨by rw[HX.out];simp[*],hbb⟩
theorem zvs(n:Int)(s:ByteArray)(ks:List T)(aK:∀t∈ks,zlk t):zlU (.nd 46 n s ks):=by
 intro v w hv;have HX:=zh (show isS (.nd 46 n s ks)=(zko n s&&zkC 1 (fun _=>isP) ks) by simp[isS]);have IH:=zh aK;have HV:=zh hv;obtain⟨Ad,c,rfl,hf,hlk,hlc,hrow⟩:=hv.open_;simp only[T.k_nd,T.n_nd,T.s_nd,T.ks_nd]at *
 have au:=zkx hlk;clear hf hv hlk hrow hlc aK;by_cases hnb:zko n s=true
 ·go_enter func113,ntmps113;go_wp2_with fail;refine(zkn _ _ _ _ _ _ _).mono ?_;rintro e w1 ⟨rfl,hb1⟩;obtain⟨hc1,hf1⟩:=zlr hb1;have hbb:Below w.heap.size w w1:=zAB hb1;go_wp2_with fail;refine(zkO (.nd 46 n s ks) _ _ (HV.out.later (hbb.alloc hbb.size _)) _ 1 (fun _=>143) (fun _=>f143) (fun _=>isP) (by decide) (by simp) (fun i hi=>zmg (by rcases i with _|_|_|_|i<;>first|omega|rfl)) (fun _ _=>zk2) (fun hl i hi=>zkN _)).mono ?_;rintro e w2 ⟨rfl,hb2⟩;have hbc:Below w.heap.size w w2:=zAC hbb hb2;go_wp2_with fail;go_ret;exact⟨by rw[HX.out];simp[*],hbc⟩
 ·have hnb':zko n s=false:=by simpa using hnb
  clear hnb;go_enter func113,ntmps113;go_wp2_with fail;refine(zkn _ _ _ _ _ _ _).mono ?_;rintro e w1 ⟨rfl,hb1⟩;have hbb:Below w.heap.size w w1:=zAB hb1;go_wp2_with fail;go_ret;exact⟨by rw[HX.out];simp[*],hbb⟩
theorem zvr(n:Int)(s:ByteArray)(ks:List T)(aK:∀t∈ks,zlk t):zlU (.nd 47 n s ks):=by
 intro v w hv;have HX:=zh (show isS (.nd 47 n s ks)=(zko n s&&zkC 1 (fun _=>isP) ks) by simp[isS]);have IH:=zh aK;have HV:=zh hv;obtain⟨Ad,c,rfl,hf,hlk,hlc,hrow⟩:=hv.open_;simp only[T.k_nd,T.n_nd,T.s_nd,T.ks_nd]at *
 have au:=zkx hlk;clear hf hv hlk hrow hlc aK;by_cases hnb:zko n s=true
 ·go_enter func113,ntmps113;go_wp2_with fail;refine(zkn _ _ _ _ _ _ _).mono ?_;rintro e w1 ⟨rfl,hb1⟩;obtain⟨hc1,hf1⟩:=zlr hb1;have hbb:Below w.heap.size w w1:=zAB hb1;go_wp2_with fail;refine(zkO (.nd 47 n s ks) _ _ (HV.out.later (hbb.alloc hbb.size _)) _ 1 (fun _=>143) (fun _=>f143) (fun _=>isP) (by decide) (by simp) (fun i hi=>zmg (by rcases i with _|_|_|_|i<;>first|omega|rfl)) (fun _ _=>zk2) (fun hl i hi=>zkN _)).mono ?_;rintro e w2 ⟨rfl,hb2⟩;have hbc:Below w.heap.size w w2:=zAC hbb hb2;go_wp2_with fail;go_ret;exact⟨by rw[HX.out];simp[*],hbc⟩
 ·have hnb':zko n s=false:=by simpa using hnb
  clear hnb;go_enter func113,ntmps113;go_wp2_with fail;refine(zkn _ _ _ _ _ _ _).mono ?_;rintro e w1 ⟨rfl,hb1⟩;have hbb:Below w.heap.size w w1:=zAB hb1;go_wp2_with fail;go_ret;exact⟨by rw[HX.out];simp[*],hbb⟩
theorem zvq(n:Int)(s:ByteArray)(ks:List T)(aK:∀t∈ks,zlk t):zlU (.nd 48 n s ks):=by
 intro v w hv;have HX:=zh (show isS (.nd 48 n s ks)=(zko n s&&zkC 1 (fun _=>isP) ks) by simp[isS]);have IH:=zh aK;have HV:=zh hv;obtain⟨Ad,c,rfl,hf,hlk,hlc,hrow⟩:=hv.open_;simp only[T.k_nd,T.n_nd,T.s_nd,T.ks_nd]at *
 have au:=zkx hlk;clear hf hv hlk hrow hlc aK;by_cases hnb:zko n s=true
 ·go_enter func113,ntmps113;go_wp2_with fail;refine(zkn _ _ _ _ _ _ _).mono ?_;rintro e w1 ⟨rfl,hb1⟩;obtain⟨hc1,hf1⟩:=zlr hb1;have hbb:Below w.heap.size w w1:=zAB hb1;go_wp2_with fail;refine(zkO (.nd 48 n s ks) _ _ (HV.out.later (hbb.alloc hbb.size _)) _ 1 (fun _=>143) (fun _=>f143) (fun _=>isP) (by decide) (by simp) (fun i hi=>zmg (by rcases i with _|_|_|_|i<;>first|omega|rfl)) (fun _ _=>zk2) (fun hl i hi=>zkN _)).mono ?_;rintro e w2 ⟨rfl,hb2⟩;have hbc:Below w.heap.size w w2:=zAC hbb hb2;go_wp2_with fail;go_ret;exact⟨by rw[HX.out];simp[*],hbc⟩
 ·have hnb':zko n s=false:=by simpa using hnb
  clear hnb;go_enter func113,ntmps113;go_wp2_with fail;refine(zkn _ _ _ _ _ _ _).mono ?_;rintro e w1 ⟨rfl,hb1⟩;have hbb:Below w.heap.size w w1:=zAB hb1;go_wp2_with fail;go_ret;exact⟨by rw[HX.out];simp[*],hbb⟩
theorem zvp(n:Int)(s:ByteArray)(ks:List T)(aK:∀t∈ks,zlk t):zlU (.nd 49 n s ks):=by
 intro v w hv;have HX:=zh (show isS (.nd 49 n s ks)=(zko n s&&zkC 1 (fun _=>isP) ks) by simp[isS]);have IH:=zh aK;have HV:=zh hv;obtain⟨Ad,c,rfl,hf,hlk,hlc,hrow⟩:=hv.open_;simp only[T.k_nd,T.n_nd,T.s_nd,T.ks_nd]at *
 have au:=zkx hlk;clear hf hv hlk hrow hlc aK;by_cases hnb:zko n s=true
 ·go_enter func113,ntmps113;go_wp2_with fail;refine(zkn _ _ _ _ _ _ _).mono ?_;rintro e w1 ⟨rfl,hb1⟩;obtain⟨hc1,hf1⟩:=zlr hb1;have hbb:Below w.heap.size w w1:=zAB hb1;go_wp2_with fail;refine(zkO (.nd 49 n s ks) _ _ (HV.out.later (hbb.alloc hbb.size _)) _ 1 (fun _=>143) (fun _=>f143) (fun _=>isP) (by decide) (by simp) (fun i hi=>zmg (by rcases i with _|_|_|_|i<;>first|omega|rfl)) (fun _ _=>zk2) (fun hl i hi=>zkN _)).mono ?_;rintro e w2 ⟨rfl,hb2⟩;have hbc:Below w.heap.size w w2:=zAC hbb hb2;go_wp2_with fail;go_ret;exact⟨by rw[HX.out];simp[*],hbc⟩
 ·have hnb':zko n s=false:=by simpa using hnb
  clear hnb;go_enter func113,ntmps113;go_wp2_with fail;refine(zkn _ _ _ _ _ _ _).mono ?_;rintro e w1 ⟨rfl,hb1⟩;have hbb:Below w.heap.size w w1:=zAB hb1;go_wp2_with fail;go_ret;exact⟨by rw[HX.out];simp[*],hbb⟩
theorem zvm(n:Int)(s:ByteArray)(ks:List T)(aK:∀t∈ks,zlk t):zlU (.nd 52 n s ks):=by
 intro v w hv;have HX:=zh (show isS (.nd 52 n s ks)=(zko n s&&zkC 4 (pEB 0) ks) by simp[isS,zkC,<-zmd]);have IH:=zh aK;have HV:=zh hv;obtain⟨Ad,c,rfl,hf,hlk,hlc,hrow⟩:=hv.open_;simp only[T.k_nd,T.n_nd,T.s_nd,T.ks_nd]at *
 have au:=zkx hlk;clear hf hv hlk hrow hlc aK;by_cases hnb:zko n s=true
 ·go_enter func113,ntmps113;go_wp2_with fail;refine(zkn _ _ _ _ _ _ _).mono ?_;rintro e w1 ⟨rfl,hb1⟩;obtain⟨hc1,hf1⟩:=zlr hb1;have hbb:Below w.heap.size w w1:=zAB hb1;go_wp2_with fail;refine(zkO (.nd 52 n s ks) _ _ (HV.out.later (hbb.alloc hbb.size _)) _ 4 (fun i=>if i=0\/i=3 then 144 else 84) (fun i=>if i=0\/i=3 then f144 else f84) (pEB 0) (by decide) (by simp) (fun i hi=>zmg (by rcases i with _|_|_|_|i<;>first|omega|rfl)) (fun i hi=>by rcases i with _|_|_|_|i;exact zkZ;exact zl6;exact zl6;exact zkZ;omega) (fun hl i hi=>by rcases i with _|_|_|_|i;exact zkF _;exact IH.out _ (List.getElem_mem hi);exact IH.out _ (List.getElem_mem hi);exact zkF _;exact absurd hi (by simp only[T.ks_nd]at hl ⊢;omega))).mono ?_;rintro e w2 ⟨rfl,hb2⟩;have hbc:Below w.heap.size w w2:=zAC hbb hb2;go_wp2_with fail;go_ret
  exact⟨by rw[HX.out];simp[*],hbc⟩
 ·have hnb':zko n s=false:=by simpa using hnb
  clear hnb;go_enter func113,ntmps113;go_wp2_with fail;refine(zkn _ _ _ _ _ _ _).mono ?_;rintro e w1 ⟨rfl,hb1⟩;have hbb:Below w.heap.size w w1:=zAB hb1;go_wp2_with fail;go_ret;exact⟨by rw[HX.out];simp[*],hbb⟩
theorem zvl(n:Int)(s:ByteArray)(ks:List T)(aK:∀t∈ks,zlk t):zlU (.nd 53 n s ks):=by
 intro v w hv;have HX:=zh (show isS (.nd 53 n s ks)=(zko n s&&zkC 4 (pEB 0) ks) by simp[isS,zkC,<-zmd]);have IH:=zh aK;have HV:=zh hv;obtain⟨Ad,c,rfl,hf,hlk,hlc,hrow⟩:=hv.open_;simp only[T.k_nd,T.n_nd,T.s_nd,T.ks_nd]at *
 have au:=zkx hlk;clear hf hv hlk hrow hlc aK;by_cases hnb:zko n s=true
 ·go_enter func113,ntmps113;go_wp2_with fail;refine(zkn _ _ _ _ _ _ _).mono ?_;rintro e w1 ⟨rfl,hb1⟩;obtain⟨hc1,hf1⟩:=zlr hb1;have hbb:Below w.heap.size w w1:=zAB hb1;go_wp2_with fail;refine(zkO (.nd 53 n s ks) _ _ (HV.out.later (hbb.alloc hbb.size _)) _ 4 (fun i=>if i=0\/i=3 then 144 else 84) (fun i=>if i=0\/i=3 then f144 else f84) (pEB 0) (by decide) (by simp) (fun i hi=>zmg (by rcases i with _|_|_|_|i<;>first|omega|rfl)) (fun i hi=>by rcases i with _|_|_|_|i;exact zkZ;exact zl6;exact zl6;exact zkZ;omega) (fun hl i hi=>by rcases i with _|_|_|_|i;exact zkF _;exact IH.out _ (List.getElem_mem hi);exact IH.out _ (List.getElem_mem hi);exact zkF _;exact absurd hi (by simp only[T.ks_nd]at hl ⊢;omega))).mono ?_;rintro e w2 ⟨rfl,hb2⟩;have hbc:Below w.heap.size w w2:=zAC hbb hb2;go_wp2_with fail;go_ret
  exact⟨by rw[HX.out];simp[*],hbc⟩
 ·have hnb':zko n s=false:=by simpa using hnb
  clear hnb;go_enter func113,ntmps113;go_wp2_with fail;refine(zkn _ _ _ _ _ _ _).mono ?_;rintro e w1 ⟨rfl,hb1⟩;have hbb:Below w.heap.size w w1:=zAB hb1;go_wp2_with fail;go_ret;exact⟨by rw[HX.out];simp[*],hbb⟩
theorem zvk(n:Int)(s:ByteArray)(ks:List T)(aK:∀t∈ks,zlk t):zlU (.nd 54 n s ks):=by
 intro v w hv;have HX:=zh (show isS (.nd 54 n s ks)=(zky n s&&zkC 3 (pEB 4) ks) by simp[isS,zkC,<-zmd]);have IH:=zh aK;have HV:=zh hv;obtain⟨Ad,c,rfl,hf,hlk,hlc,hrow⟩:=hv.open_;simp only[T.k_nd,T.n_nd,T.s_nd,T.ks_nd]at *
 have au:=zkx hlk;clear hf hv hlk hrow hlc aK;by_cases hnb:zky n s=true
 ·go_enter func113,ntmps113;go_wp2_with fail;refine(zks _ _ _ _ _ _ _).mono ?_;rintro e w1 ⟨rfl,hb1⟩;obtain⟨hc1,hf1⟩:=zlr hb1;have hbb:Below w.heap.size w w1:=zAB hb1;go_wp2_with fail;refine(zkO (.nd 54 n s ks) _ _ (HV.out.later (hbb.alloc hbb.size _)) _ 3 (fun i=>if i=1 then 84 else 144) (fun i=>if i=1 then f84 else f144) (pEB 4) (by decide) (by simp) (fun i hi=>zmg (by rcases i with _|_|_|_|i<;>first|omega|rfl)) (fun i hi=>by rcases i with _|_|_|i;exact zkZ;exact zl6;exact zkZ;omega) (fun hl i hi=>by rcases i with _|_|_|i;exact zkF _;exact IH.out _ (List.getElem_mem hi);exact zkF _;exact absurd hi (by simp only[T.ks_nd]at hl ⊢;omega))).mono ?_;rintro e w2 ⟨rfl,hb2⟩;have hbc:Below w.heap.size w w2:=zAC hbb hb2;go_wp2_with fail;go_ret;exact⟨by rw[HX.out];simp[*],hbc⟩
 ·have hnb':zky n s=false:=by simpa using hnb
  clear hnb;go_enter func113,ntmps113;go_wp2_with fail;refine(zks _ _ _ _ _ _ _).mono ?_;rintro e w1 ⟨rfl,hb1⟩;have hbb:Below w.heap.size w w1:=zAB hb1;go_wp2_with fail;go_ret;exact⟨by rw[HX.out];simp[*],hbb⟩
theorem zvj(n:Int)(s:ByteArray)(ks:List T)(aK:∀t∈ks,zlk t):zlU (.nd 55 n s ks):=by
 intro v w hv;have HX:=zh (show isS (.nd 55 n s ks)=(zky n s&&zkC 1 (pEB 7) ks) by simp[isS,zkC,<-zmd]);have IH:=zh aK;have HV:=zh hv;obtain⟨Ad,c,rfl,hf,hlk,hlc,hrow⟩:=hv.open_;simp only[T.k_nd,T.n_nd,T.s_nd,T.ks_nd]at *
 have au:=zkx hlk;clear hf hv hlk hrow hlc aK;by_cases hnb:zky n s=true
 ·go_enter func113,ntmps113;go_wp2_with fail;refine(zks _ _ _ _ _ _ _).mono ?_;rintro e w1 ⟨rfl,hb1⟩;obtain⟨hc1,hf1⟩:=zlr hb1;have hbb:Below w.heap.size w w1:=zAB hb1;go_wp2_with fail;refine(zkO (.nd 55 n s ks) _ _ (HV.out.later (hbb.alloc hbb.size _)) _ 1 (fun _=>84) (fun _=>f84) (pEB 7) (by decide) (by simp) (fun i hi=>zmg (by rcases i with _|_|_|_|i<;>first|omega|rfl)) (fun _ _=>zl6) (fun hl i hi=>by rcases i with _|i;exact IH.out _ (List.getElem_mem hi);exact absurd hi (by simp only[T.ks_nd]at hl ⊢;omega))).mono ?_;rintro e w2 ⟨rfl,hb2⟩;have hbc:Below w.heap.size w w2:=zAC hbb hb2;go_wp2_with fail;go_ret;exact⟨by rw[HX.out];simp[*],hbc⟩
 ·have hnb':zky n s=false:=by simpa using hnb
  clear hnb;go_enter func113,ntmps113;go_wp2_with fail;refine(zks _ _ _ _ _ _ _).mono ?_;rintro e w1 ⟨rfl,hb1⟩;have hbb:Below w.heap.size w w1:=zAB hb1;go_wp2_with fail;go_ret;exact⟨by rw[HX.out];simp[*],hbb⟩
theorem zvo(n:Int)(s:ByteArray)(ks:List T):zlU (.nd 50 n s ks):=by
 intro v w hv;have HX:=zh (show isS (.nd 50 n s ks)=(zky n s&&decide (ks.length<=8)&&zkv (fun _=>isV) 0 ks) by simp[isS]);have HV:=zh hv;obtain⟨Ad,c,rfl,hf,hlk,hlc,hrow⟩:=hv.open_;simp only[T.k_nd,T.n_nd,T.s_nd,T.ks_nd]at *
 have au:=zkx hlk;clear hf hv hlc;by_cases hnb:zky n s=true
 ·by_cases Bl:ks.length<=8
  ·go_enter func113,ntmps113;go_wp2_with fail;refine(zks _ _ _ _ _ _ _).mono ?_;rintro e w1 ⟨rfl,hb1⟩;obtain⟨hc1,hf1⟩:=zlr hb1;have hbb:Below w.heap.size w w1:=zAB hb1;go_wp2_with fail;refine(zox ks _ _ _ (hrow.later hbb) hlk _ _ zuz isV (fun i hi=>zqq _)).mono ?_;rintro e w2 ⟨rfl,hb2⟩;have hbc:Below w.heap.size w w2:=hbb.trans (hb2.mono hbb.size);go_wp2_with fail;go_ret;exact⟨by rw[HX.out];simp[*],hbc⟩
  ·have hl9:8<ks.length:=by omega
   clear Bl;go_enter func113,ntmps113;go_wp2_with fail;refine(zks _ _ _ _ _ _ _).mono ?_;rintro e w1 ⟨rfl,hb1⟩;obtain⟨hc1,hf1⟩:=zlr hb1;have hbb:Below w.heap.size w w1:=zAB hb1;go_wp2_with fail;go_ret;exact⟨by rw[HX.out];simp[show ¬ ks.length<=8 by omega],hbb⟩
 ·have hnb':zky n s=false:=by simpa using hnb
  clear hnb;go_enter func113,ntmps113;go_wp2_with fail;refine(zks _ _ _ _ _ _ _).mono ?_;rintro e w1 ⟨rfl,hb1⟩;have hbb:Below w.heap.size w w1:=zAB hb1;go_wp2_with fail;go_ret;exact⟨by rw[HX.out];simp[*],hbb⟩
theorem zvn(n:Int)(s:ByteArray)(ks:List T):zlU (.nd 51 n s ks):=by
 intro v w hv;have HX:=zh (show isS (.nd 51 n s ks)=(zky n s&&decide (ks.length<=8)&&zkv (fun _=>isV) 0 ks) by simp[isS]);have HV:=zh hv;obtain⟨Ad,c,rfl,hf,hlk,hlc,hrow⟩:=hv.open_;simp only[T.k_nd,T.n_nd,T.s_nd,T.ks_nd]at *
 have au:=zkx hlk;clear hf hv hlc;by_cases hnb:zky n s=true
 ·by_cases Bl:ks.length<=8
  ·go_enter func113,ntmps113;go_wp2_with fail;refine(zks _ _ _ _ _ _ _).mono ?_;rintro e w1 ⟨rfl,hb1⟩;obtain⟨hc1,hf1⟩:=zlr hb1;have hbb:Below w.heap.size w w1:=zAB hb1;go_wp2_with fail;refine(zox ks _ _ _ (hrow.later hbb) hlk _ _ zuz isV (fun i hi=>zqq _)).mono ?_;rintro e w2 ⟨rfl,hb2⟩;have hbc:Below w.heap.size w w2:=hbb.trans (hb2.mono hbb.size);go_wp2_with fail;go_ret;exact⟨by rw[HX.out];simp[*],hbc⟩
  ·have hl9:8<ks.length:=by omega
   clear Bl;go_enter func113,ntmps113;go_wp2_with fail;refine(zks _ _ _ _ _ _ _).mono ?_;rintro e w1 ⟨rfl,hb1⟩;obtain⟨hc1,hf1⟩:=zlr hb1;have hbb:Below w.heap.size w w1:=zAB hb1;go_wp2_with fail;go_ret;exact⟨by rw[HX.out];simp[show ¬ ks.length<=8 by omega],hbb⟩
 ·have hnb':zky n s=false:=by simpa using hnb
  clear hnb;go_enter func113,ntmps113;go_wp2_with fail;refine(zks _ _ _ _ _ _ _).mono ?_;rintro e w1 ⟨rfl,hb1⟩;have hbb:Below w.heap.size w w1:=zAB hb1;go_wp2_with fail;go_ret;exact⟨by rw[HX.out];simp[*],hbb⟩
theorem zs6(k n:Int)(s:ByteArray)(ks:List T)(n40:(k==40)=false)(n41:(k==41)=false)(n42:(k==42)=false)(n43:(k==43)=false)(n44:(k==44)=false)(n45:(k==45)=false)(n46:(k==46)=false)(n47:(k==47)=false)(n48:(k==48)=false)(n49:(k==49)=false)(n50:(k==50)=false)(n51:(k==51)=false)(n52:(k==52)=false)(n53:(k==53)=false)(n54:(k==54)=false)(n55:(k==55)=false)(n56:(k==56)=false):zlU (.nd k n s ks):=by
 intro v w hv;obtain⟨Ad,c,rfl,hf,hlk,hlc,hrow⟩:=hv.open_;simp only[T.k_nd,T.n_nd,T.s_nd,T.ks_nd]at *
 have au:=zkx hlk;have HX:=zh (show isS (.nd k n s ks)=false by
  simp only[beq_eq_false_iff_ne,ne_eq]at n40 n41 n42 n43 n44 n45 n46 n47 n48 n49 n50 n51 n52 n53 n54 n55 n56;rw[isS,if_neg (by omega),if_neg (by omega),if_neg (by omega),if_neg (by omega),if_neg (by omega),if_neg (by omega),if_neg (by omega),if_neg (by omega)])
 clear hf hv hlk hrow hlc;go_enter func113,ntmps113;go_wp2;go_ret;exact⟨by rw[HX.out];rfl,zr.alloc zl _⟩
theorem zta(k n:Int)(s:ByteArray)(ks:List T)(ih:∀t∈ks,zlU t):zlk (.nd k n s ks):=by
 intro v w hv;have HX:=zh (show isB (.nd k n s ks)=((k==57)&&zko n s&&zkv (fun _=>isS) 0 ks) by rw[isB,zpJ 0];rfl);have IH:=zh ih;obtain⟨Ad,c,rfl,hf,hlk,hlc,hrow⟩:=hv.open_;simp only[T.k_nd,T.n_nd,T.s_nd,T.ks_nd]at *
 have au:=zkx hlk;clear hf hv hlc ih;by_cases hk:(k==57)=true
 ·by_cases hnb:zko n s=true
  ·go_enter func84,ntmps84;go_wp2_with fail;refine(zkn _ _ _ _ _ _ _).mono ?_;rintro e w1 ⟨rfl,hb1⟩;obtain⟨hc1,hf1⟩:=zlr hb1;have hbb:Below w.heap.size w w1:=zAB hb1;go_wp2_with fail;refine(zox ks _ _ _ (hrow.later hbb) hlk _ _ zwE isS (fun i hi=>IH.out _ (List.getElem_mem hi))).mono ?_;rintro e w2 ⟨rfl,hb2⟩;have hbc:Below w.heap.size w w2:=hbb.trans (hb2.mono hbb.size);go_wp2_with fail;go_ret;exact⟨by rw[HX.out];simp[*],hbc⟩
  ·have hnb':zko n s=false:=by simpa using hnb
   clear hnb;go_enter func84,ntmps84;go_wp2_with fail;refine(zkn _ _ _ _ _ _ _).mono ?_;rintro e w1 ⟨rfl,hb1⟩;have hbb:Below w.heap.size w w1:=zAB hb1;go_wp2_with fail;go_ret;exact⟨by rw[HX.out];simp[*],hbb⟩
 ·have hk':(k==57)=false:=by simpa using hk
  clear hk;go_enter func84,ntmps84;go_wp2_with fail;go_ret;exact⟨by rw[HX.out];simp[*],zr.alloc zl _⟩
theorem zsl(t:T):zlU t/\zlk t:=by
 induction t using T.ind with
 | _ k n s ks ih =>
 have ihS:∀t∈ks,zlU t:=fun t ht=>(ih t ht).1;have aK:∀t∈ks,zlk t:=fun t ht=>(ih t ht).2;refine⟨?_,zta k n s ks ihS⟩;by_cases h40:k=40
 ·subst h40;exact zvy n s ks aK
 by_cases h41:k=41
 ·subst h41;exact zvx n s ks aK
 by_cases h42:k=42
 ·subst h42;exact zvw n s ks aK
 by_cases h43:k=43
 ·subst h43;exact zvv n s ks aK
 by_cases uh:k=44
 ·subst uh;exact zvu n s ks aK
 by_cases h45:k=45
 ·subst h45;exact zvt n s ks aK
 by_cases h46:k=46
 ·subst h46;exact zvs n s ks aK
 by_cases h47:k=47
 ·subst h47;exact zvr n s ks aK
 by_cases h48:k=48
 ·subst h48;exact zvq n s ks aK
 by_cases yT:k=49
 ·subst yT;exact zvp n s ks aK
 by_cases h50:k=50
 ·subst h50;exact zvo n s ks
 by_cases lS:k=51
 ·subst lS;exact zvn n s ks
 by_cases lQ:k=52
 ·subst lQ;exact zvm n s ks aK
 by_cases mX:k=53
 ·subst mX;exact zvl n s ks aK
 by_cases eG:k=54
 ·subst eG;exact zvk n s ks aK
 by_cases fw:k=55
 ·subst fw;exact zvj n s ks aK
 by_cases qK:k=56
 ·subst qK;exact zvi n s ks aK
 exact zs6 k n s ks (by simpa using h40) (by simpa using h41) (by simpa using h42) (by simpa using h43) (by simpa using uh) (by simpa using h45) (by simpa using h46) (by simpa using h47) (by simpa using h48) (by simpa using yT) (by simpa using h50) (by simpa using lS) (by simpa using lQ) (by simpa using mX) (by simpa using eG) (by simpa using fw) (by simpa using qK)
theorem zs7(t:T):zlU t:=(zsl t).1
theorem zrz(t:T):zlk t:=(zsl t).2
mutual
/-- ast.limited: what is left of the count,or none. -/
def lim:T->Nat->Nat->Option Nat
 | .nd _ _ _ ks,d,l=>if d=0\/l=0 then none else lims ks (d-1) (l-1)
def lims:List T->Nat->Nat->Option Nat
 | [],_,l=>some l
 | t::ts,d,l=>match lim t d l with
  | none=>none
  | some l'=>lims ts d l'
end
theorem zoh(ts us:List T)(d:Nat):∀l,lims (ts++us) d l=(lims ts d l).bind fun r=>lims us d r:=by
 induction ts with
 | nil=>intro l;simp[lims]
 | cons t ts ih =>
  intro l;simp only[List.cons_append,lims]
  cases lim t d l with
  | none=>rfl
  | some r=>exact ih r
theorem zwo(t:T)(d l:Nat):lims [t] d l=lim t d l:=by
 simp only[lims]
 cases lim t d l<;>rfl
theorem zt8{ks:List T}{d l r j:Nat}(hj:j<ks.length)(h:lims (ks.take j) d l=some r):lims (ks.take (j+1)) d l=lim ks[j] d r:=by
 rw[List.take_succ_eq_append_getElem hj,zoh,h];exact zwo _ _ _
theorem zt9{ks:List T}{d l j:Nat}(h:lims (ks.take j) d l=none):lims ks d l=none:=by
 rw[<-List.take_append_drop j ks,zoh,h];rfl
theorem zzy(t:T):∀d l r,lim t d l=some r->r<=l:=by
 induction t using T.ind with
 | _ k n s ks ih =>
 intro d l r h;rw[lim]at h
 split at h
 ·cases h
 ·have key:∀(us:List T),(∀t∈us,∀d l r,lim t d l=some r->r<=l)->∀l r d,lims us d l=some r->r<=l:=by
   intro us
   induction us with
   | nil=>intro _ l r d h;simp[lims]at h;omega
   | cons t us ih2 =>
    intro hu l r d h;simp only[lims]at h
    cases h1:lim t d l with
    | none=>rw[h1]at h;cases h
    | some r1 =>
     rw[h1]at h;have:=hu t (by simp) d l r1 h1;have:=ih2 (fun t ht=>hu t (by simp[ht])) r1 r d h;omega
  have:=key ks ih _ _ _ h;omega
def LimE(w:World)(b:Nat)(o:Option Nat)(e:Ending)(w':World):Prop :=
 e=.returned (.bool o.isSome)/\∃l':Nat,w'.heap[b]?=some (.cells #[.int .i64 (l':Int)] 3 (0,0))/\(∀r,o=some r->l'=r)/\w.grownBy w' (some b)
theorem zmW{a b c:World}{row:Option Nat}(h1:a.grownBy b row)(h2:b.grownBy c row):a.grownBy c row :=
 ⟨h2.os.trans h1.os,h2.tape.trans h1.tape,h2.output.trans h1.output,Nat.le_trans h1.size h2.size,fun i hi hne=>(h2.block i (Nat.lt_of_lt_of_le hi h1.size) hne).trans (h1.block i hi hne)⟩
theorem zme{w:World}(o:Obj)(row:Option Nat):w.grownBy (w.alloc o) row :=
 let h:=(zs w).alloc zl o
 ⟨h.os,h.tape,h.output,h.size,fun b hb _=>h.block b hb⟩
theorem zkP.grown{w w':World}{S:Nat->Prop}{A:Option Addr}{ts:List T}{b:Nat}(h:zkP w S A ts)(hg:w.grownBy w' (some b))(hb:¬ S b):zkP w' S A ts :=
 h.keep (fun _ h _=>h) fun i hi hlt=>hg.block i hlt fun e=>by injection e with e;subst e;exact hb hi
theorem zrg(t:T):∀(d l:Nat) (S:Nat->Prop) (v:Value) (w:World) (b:Nat),NV w S t v->¬ S b->d<=80->l<=2000->w.heap[b]?=some (.cells #[.int .i64 (l:Int)] 3 (0,0)) ->
  Calls prog 83 #[v,.int .i64 (d:Int),.pointer (some ⟨b,0,none⟩)] w (LimE w b (lim t d l)):=by
 induction t using T.ind with
 | _ k n s ks ih =>
 intro d l S v w b hv hSb hd hl hbx;obtain⟨A,c,rfl,hf,hlk,hlc,hrow⟩:=hv.open_;simp only[T.k_nd,T.n_nd,T.s_nd,T.ks_nd]at *
 have au:=zkx hlk;have IH:=zh ih;have ae:=zh hrow;have kr:=zh hSb;have aS:=zh hbx;have hbl:=zkf hbx;have c0:=zkj (zc (i:=0) (u:=.int .i64 (l:Int)) hbx rfl);have f0:∀o:Obj,(w.alloc o).frozen? ⟨b,0,none⟩=false:=fun o=>by
  have:(w.alloc o).heap[b]?=some (.cells #[.int .i64 (l:Int)] 3 (0,0)):=(Below.heap_alloc w o b hbl).trans hbx;exact zf this
 clear hv ih hrow hSb hf hlk hbx;have hne:¬ b=w.heap.size:=by omega
 have hne':¬ w.heap.size=b:=by omega
 by_cases hd0:d=0
 ·subst hd0;have HX:=zh (show lim (.nd k n s ks) 0 l=none by rw[lim];simp);go_enter func83,ntmps83;go_wp2_with fail;go_ret;rw[HX.out];exact⟨rfl,l,(Below.heap_alloc w _ b hbl).trans aS.out,(fun r h=>by cases h),zme _ _⟩
 by_cases hl0:l=0
 ·subst hl0;have HX:=zh (show lim (.nd k n s ks) d 0=none by rw[lim];simp);have fd:((d:Int)==0)=false:=by simpa using hd0
  go_enter func83,ntmps83;go_wp2_with fail;go_ret;rw[HX.out];exact⟨rfl,0,(Below.heap_alloc w _ b hbl).trans aS.out,(fun r h=>by cases h),zme _ _⟩
 obtain⟨d',rfl⟩:∃d',d=d'+1:=⟨d-1,by omega⟩
 obtain⟨l',rfl⟩:∃l',l=l'+1:=⟨l-1,by omega⟩
 have HX:=zh (show lim (.nd k n s ks) (d'+1) (l'+1)=lims ks d' l' by rw[lim,if_neg (by omega)];simp);rw[show((d'+1:Nat):Int)=(d':Int)+1 from rfl];have fd:((d':Int)+1==0)=false:=by simp;omega
 have fl:((l':Int)+1==0)=false:=by simp;omega
 clear hd0 hl0;have hb1:(w.setCell ⟨b,0,none⟩ (.int .i64 (l':Int))).heap[b]?=some (.cells #[.int .i64 (l':Int)] 3 (0,0)):=by
  have h1:=heap_setCell_same w b 0 _ 3 (.int .i64 (l':Int)) aS.out;simpa using h1
 have hz1:(w.setCell ⟨b,0,none⟩ (.int .i64 (l':Int))).heap.size=w.heap.size:=by simp[World.setCell]
 obtain⟨W0,hW0⟩:=zX ((w.setCell ⟨b,0,none⟩ (.int .i64 (l':Int))).alloc (.cells #[.int .u8 k,.int .i64 n,.string s,.slice A ks.length c] 28));have H0:W0.heap[b]?=some (.cells #[.int .i64 (l':Int)] 3 (0,0)):=by
  rw[<-hW0,Below.heap_alloc _ _ b (by rw[hz1];exact hbl)];exact hb1
 have A0:W0.heap[w.heap.size]?=some (.cells #[.int .u8 k,.int .i64 n,.string s,.slice A ks.length c] 28 (0,0)):=by
  rw[<-hW0,<-hz1];exact heap_alloc_new _ _
 have G0:w.grownBy W0 (some b):=by
  rw[<-hW0];refine zmW (zlj (zlM w (some b)) (p:=⟨b,0,none⟩) rfl _) (zme _ _)
 have HH:=zh (And.intro H0 (And.intro A0 G0));have HW0:=zh hW0;clear H0 G0 A0 hb1 hz1 hW0;go_enter func83,ntmps83;go_wp2_with fail;rw[HW0.out];clear c0 f0
 go_loopw [25] (fun i wr=>∃(j lc:Nat),j<=ks.length/\i=.int .i64 j/\lc<=2000/\Hid (lims (ks.take j) d' l'=some lc)/\wr.heap[b]?=some (.cells #[.int .i64 (lc:Int)] 3 (0,0))/\wr.heap[w.heap.size]?=some (.cells #[.int .u8 k,.int .i64 n,.string s,.slice A ks.length c] 28 (0,0))/\w.grownBy wr (some b)) (fun i _=>ks.length-(intOf i).toNat)
 case atStart=>exact⟨0,l',Nat.zero_le _,rfl,by omega,zh (by simp[lims]),HH.out.1,HH.out.2.1,HH.out.2.2⟩
 case round =>
  obtain⟨j,lc,hj,rfl,pz,HLI,hbx,hax,hg⟩:=hrel;clear HH HW0;by_cases hlt:j<ks.length
  ·obtain⟨a,t,A1,c1,rfl,_,Ht,⟨q0,q1,q2,q3⟩,hn⟩:=(ae.out.grown hg kr.out).nd hlt;have hI:=IH.out ks[j] (List.getElem_mem hlt);rw[Ht.out]at hI;have pV:=zkf hbx;have hal:∀o:Obj,(wr.alloc o).heap[b]?=some (.cells #[.int .i64 (lc:Int)] 3 (0,0)):=fun o=>(Below.heap_alloc wr o b pV).trans hbx;have HI1:=zh (hI d' lc S _ (wr.alloc (.cells #[.int .u8 t.k,.int .i64 t.n,.string t.s,.slice A1 t.ks.length c1] 28)) b (hn.later (zr.alloc zl _)) kr.out (by omega) pz (hal _));have HT:=zh (show lims (ks.take (j+1)) d' l'=lim t d' lc by rw[zt8 hlt HLI.out,Ht.out]);have HG:=zh (zmW hg (zme (.cells #[.int .u8 t.k,.int .i64 t.n,.string t.s,.slice A1 t.ks.length c1] 28) _));have HAX:=zh (show ∀o:Obj,(wr.alloc o).heap[w.heap.size]?=some (.cells #[.int .u8 k,.int .i64 n,.string s,.slice (some a) ks.length c] 28 (0,0))from fun o=>(Below.heap_alloc wr o _ (zkf hax)).trans hax)
   clear hI hn hbx hax hal;go_wp2_with fail;refine HI1.out.mono ?_;rintro e w1 ⟨rfl,l1,hb1,hl1,hg1⟩;have vg:=zh (zmW HG.out hg1);have HA1:=zh ((hg1.block _ (zkf (HAX.out _)) (fun e=>hne' (by injection e))).trans (HAX.out _));have HB1:=zh hb1;clear hb1 hg1
   cases ho:lim t d' lc with
   | none =>
    have bY:=zh (show lims ks d' l'=none from zt9 (j:=j+1) (by rw[HT.out,ho]));go_wp2_with fail;go_ret;rw[HX.out,bY.out];exact⟨rfl,l1,HB1.out,(fun r h=>by cases h),vg.out⟩
   | some r =>
    have hr1:=hl1 r ho;subst hr1;have hle:l1<=2000:=by have:=zzy t d' lc l1 ho;omega
    have HT2:=zh (show lims (ks.take (j+1)) d' l'=some l1 by rw[HT.out,ho]);clear hl1 ho;go_wp2_with fail
    go_roundw
    case rel=>exact⟨j+1,l1,by omega,by go_num,hle,HT2,HB1.out,HA1.out,vg.out⟩
    case measure=>simp[intOf];omega
  ·obtain rfl:j=ks.length:=by omega
   have HL2:=zh (show lims ks d' l'=some lc by have:=HLI.out;rw[List.take_of_length_le (by omega)]at this;exact this);go_wp2_with fail;go_ret;rw[HX.out,HL2.out];exact⟨rfl,lc,hbx,(fun r h=>by cases h;rfl),hg⟩
def zkY(t:T):Bool:=(lim t 80 2000).isSome&&isB t
theorem zo8(t:T)(v:Value)(w:World)(hv:NV w Any t v):Calls prog 53 #[v] w fun e w'=>e=.returned (.bool (zkY t))/\Below w.heap.size w w':=by
 have HV:=zh hv;have HX:=zh (show zkY t=((lim t 80 2000).isSome&&isB t)from rfl);obtain⟨A,c,rfl,hf,hlk,hlc,hrow⟩:=hv.open_;clear hf hlk hrow hv hlc;generalize t.k=k,t.n=n,t.s=s,t.ks.length=l at *
 have yX:=zh (show NV w (fun b=>b<w.heap.size) t (nv k n s A l c)from HV.out.keep (fun _ _ h=>h) fun _ _ _=>rfl);have hb2:∀o o',Below w.heap.size w ((w.alloc o).alloc o'):=fun o o'=>(zr.alloc zl _).alloc (by simp) _;have HB2:=zh hb2;have aS:=zh (show ∀o:Obj,((w.alloc o).alloc (.cells #[.int .i64 2000] 3)).heap[w.heap.size+1]?=some (.cells #[.int .i64 ((2000:Nat):Int)] 3 (0,0))from fun o=>by
  have:=heap_alloc_new (w.alloc o) (.cells #[.int .i64 2000] 3);simpa using this)
 clear hb2;go_enter func53,ntmps53;go_wp2_with fail;refine(zrg t 80 2000 (fun b=>b<w.heap.size) _ _ (w.heap.size+1) (yX.out.later (HB2.out _ _)) (fun h=>by have h':w.heap.size+1<w.heap.size:=h;omega) (by omega) (by omega) (aS.out _)).mono ?_;rintro e w1 ⟨rfl,l1,hb1,_,hg1⟩;have q1:Below w.heap.size w w1:=by
  refine(HB2.out (.cells #[.int .u8 k,.int .i64 n,.string s,.slice A l c] 28) (.cells #[.int .i64 2000] 3)).grown hg1 (by simp;omega) ?_;intro g e;injection e with e;omega
 have hc:∀i,w1.cell? ⟨w.heap.size,i,none⟩=((w.alloc (.cells #[.int .u8 k,.int .i64 n,.string s,.slice A l c] 28)).alloc (.cells #[.int .i64 2000] 3)).cell? ⟨w.heap.size,i,none⟩:=fun i =>
  World.cell?_of_block (a:=⟨w.heap.size,i,none⟩) (hg1.block _ (by simp;omega) (fun e=>by simp at e))
 have x0:w1.cell? ⟨w.heap.size,0,none⟩=some (.int .u8 k):=(hc 0).trans (by simp);have x1:w1.cell? ⟨w.heap.size,1,none⟩=some (.int .i64 n):=(hc 1).trans (by simp);have x2:w1.cell? ⟨w.heap.size,2,none⟩=some (.string s):=(hc 2).trans (by simp);have x3:w1.cell? ⟨w.heap.size,3,none⟩=some (.slice A l c):=(hc 3).trans (by simp);have jJ:=HX.out;clear hc hg1 hb1
 cases ho:(lim t 80 2000).isSome
 ·rw[ho]at jJ;go_wp2_with fail;go_ret;exact⟨by rw[jJ];rfl,q1⟩
 ·rw[ho]at jJ;have bY:=zh jJ;clear jJ;go_wp2_with fail;refine(zrz t _ _ (HV.out.later q1)).mono ?_;rintro e w2 ⟨rfl,ah⟩;go_wp2_with fail;go_ret;exact⟨by rw[bY.out];simp,q1.trans (ah.mono q1.size)⟩
def zmo(v:VD):Bool:=zl5 v.s&&(if v.k=1\/v.k=3 then v.n==0 else if v.k=2 then decide (1<=v.n/\v.n<=16)else false)
theorem zw8{vs:List VD}{f:VD->Bool}{j:Nat}(hj:j<vs.length)(h:(vs.take j).all f=true):(vs.take (j+1)).all f=f vs[j]:=by
 rw[List.take_succ_eq_append_getElem hj,List.all_append,h];simp
theorem zw9{vs:List VD}{f:VD->Bool}{j:Nat}(hj:j<vs.length)(h:f vs[j]=false):vs.all f=false:=by
 simp only[List.all_eq_false];exact⟨vs[j],List.getElem_mem hj,by simp[h]⟩
theorem znI(vs:List VD)(A:Option Addr)(c:Nat)(S:Nat->Prop)(w:World)(hrow:RowV w S A vs)(hl:vs.length<=LV)(_hlc:vs.length<=c) :
  Calls prog 52 #[.slice A vs.length c] w fun e w'=>e=.returned (.bool (vs.all zmo))/\Below w.heap.size w w':=by
 have hl':=zkW hl;have ae:=zh hrow;clear hrow hl;go_enter func52,ntmps52;go_wp2_with fail
 go_loopw [7] (fun i wr=>∃j:Nat,j<=vs.length/\i=.int .i64 j/\Below w.heap.size w wr/\Hid ((vs.take j).all zmo=true)) (fun i _=>vs.length-(intOf i).toNat)
 case atStart=>exact⟨0,Nat.zero_le _,rfl,zr,zh (by simp)⟩
 case round =>
  obtain⟨j,hj,rfl,hb,HA⟩:=hrel;by_cases hlt:j<vs.length
  ·obtain⟨a,v,rfl,_,Hv,⟨q0,q1,q2⟩,hf⟩:=(ae.out.later hb).nd hlt;have HT:=zh (show(vs.take (j+1)).all zmo=zmo v by rw[zw8 hlt HA.out,Hv.out]);have HN:=zh (show zmo v=false->vs.all zmo=false from fun h=>zw9 hlt (by rw[Hv.out];exact h));have HD:=zh (show zmo v=(zl5 v.s&&(if v.k=1\/v.k=3 then v.n==0 else if v.k=2 then decide (1<=v.n/\v.n<=16)else false))from rfl);obtain⟨s,hs⟩:=zX (v.s);obtain⟨k,hk⟩:=zX (v.k);obtain⟨n,hn⟩:=zX (v.n);have dY:=HD.out;rw[hs,hk,hn]at dY;rw[hs]at q0;rw[hk]at q1;rw[hn]at q2;clear HD hf hs hk hn;have HD:=zh dY;clear dY;go_wp2_with fail;refine(zn2 s _).mono ?_;rintro e w1 ⟨rfl,aa⟩;have q1':Below w.heap.size w w1:=(hb.alloc hb.size _).trans (aa.mono (by have:=hb.size;simp;omega));have x1:w1.cell? ⟨wr.heap.size,1,none⟩=some (.int .u8 k):=zb aa (by simp);have x2:w1.cell? ⟨wr.heap.size,2,none⟩=some (.int .i64 n):=zb aa (by simp)
   have dY:=HD.out;clear aa
   cases hnm:zl5 s
   ·rw[hnm]at dY;have HR:=zh (HN.out (by rw[dY];rfl));clear dY;go_wp2_with fail;go_ret;exact⟨by rw[HR.out];rfl,q1'⟩
   rw[hnm,Bool.true_and]at dY;by_cases mY:k=1\/k=3
   ·rw[if_pos mY]at dY;by_cases hn0:n=0
    ·subst hn0;have HG:=zh (show(vs.take (j+1)).all zmo=true by rw[HT.out,dY];rfl);clear dY;rcases mY with rfl|rfl
     ·go_wp2_with fail
      go_roundw
      case rel=>exact⟨j+1,by omega,by go_num,q1',HG⟩
      case measure=>simp[intOf];omega
     ·go_wp2_with fail
      go_roundw
      case rel=>exact⟨j+1,by omega,by go_num,q1',HG⟩
      case measure=>simp[intOf];omega
    ·have fn:(n != 0)=true:=by simpa using hn0
     have HR:=zh (HN.out (by rw[dY];simpa using hn0));clear dY;rcases mY with rfl|rfl
     ·go_wp2_with fail;go_ret;exact⟨by rw[HR.out];rfl,q1'⟩
     ·go_wp2_with fail;go_ret;exact⟨by rw[HR.out];rfl,q1'⟩
   ·rw[if_neg mY]at dY;have f1:(k==1)=false:=by simp;omega
    have f3:(k==3)=false:=by simp;omega
    by_cases h2:k=2
    ·subst h2;rw[if_pos rfl]at dY;by_cases hl1:n<1
     ·have HR:=zh (HN.out (by rw[dY];simp;omega));clear dY;go_wp2_with fail;go_ret;exact⟨by rw[HR.out];rfl,q1'⟩
     ·by_cases hg16:16<n
      ·have HR:=zh (HN.out (by rw[dY];simp;omega));have sI:1<=n:=by omega
       clear dY hl1;go_wp2_with fail;go_ret;exact⟨by rw[HR.out];rfl,q1'⟩
      ·have HG:=zh (show(vs.take (j+1)).all zmo=true by rw[HT.out,dY];simp;omega);have sI:1<=n:=by omega
       have hg16':n<=16:=by omega
       clear dY hl1 hg16;go_wp2_with fail
       go_roundw
       case rel=>exact⟨j+1,by omega,by go_num,q1',HG⟩
       case measure=>simp[intOf];omega
    ·rw[if_neg h2]at dY;have f2:(k==2)=false:=by simpa using h2
     have HR:=zh (HN.out dY);clear dY;go_wp2_with fail;go_ret;exact⟨by rw[HR.out];rfl,q1'⟩
  ·obtain rfl:j=vs.length:=by omega
   have HR:=zh (show vs.all zmo=true by have:=HA.out;rw[List.take_of_length_le (by omega)]at this;exact this);go_wp2_with fail;go_ret;exact⟨by rw[HR.out];rfl,hb⟩
def zod(r:PR):Bool:=zl5 r.s&&decide (r.ps.length<=8)&&r.ps.all zmo&&zkY r.b
def zkA(p:PG):Bool:=decide (p.vs.length<=32)&&decide (p.prs.length<=64)&&p.vs.all zmo&&p.prs.all zod&&zkY p.m
theorem ztO{vs:List PR}{f:PR->Bool}{j:Nat}(hj:j<vs.length)(h:(vs.take j).all f=true):(vs.take (j+1)).all f=f vs[j]:=by
 rw[List.take_succ_eq_append_getElem hj,List.all_append,h];simp
theorem ztP{vs:List PR}{f:PR->Bool}{j:Nat}(hj:j<vs.length)(h:f vs[j]=false):vs.all f=false:=by
 simp only[List.all_eq_false];exact⟨vs[j],List.getElem_mem hj,by simp[h]⟩
theorem zlz(p:PG)(S:Nat->Prop)(v:Value)(w:World)(hv:PV w S p v):Calls prog 25 #[v] w fun e w'=>e=.returned (.bool (zkA p))/\Below w.heap.size w w':=by
 obtain⟨A1,c1,A2,c2,A3,c3,rfl,hr⟩:=hv;have HR:=zh hr;have hv1:=zkW hr.lv;have hv2:=zkW hr.lp;have HX:=zh (show zkA p=(decide (p.vs.length<=32)&&decide (p.prs.length<=64)&&p.vs.all zmo&&p.prs.all zod&&zkY p.m)from rfl);have pz:=hr.lpc;obtain⟨L1,hL1⟩:=zX (p.vs.length);obtain⟨L2,hL2⟩:=zX (p.prs.length);obtain⟨k,hk⟩:=zX (p.m.k);obtain⟨n,hn⟩:=zX (p.m.n);obtain⟨s,hs⟩:=zX (p.m.s);obtain⟨l3,hl3⟩:=zX (p.m.ks.length);have lu:=zh hL1;have HL2:=zh hL2;have hm:=hr.main;rw[hk,hn,hs,hl3]at hm;have HM:=zh hm;have hx:=HX.out;rw[hL1,hL2]at hx;rw[hL1]at hv1;rw[hL2]at hv2 pz;rw[hL1,hL2,hk,hn,hs,hl3];clear hr hm HX hL1 hL2 hk hn hs hl3;have HX:=zh hx;clear hx;have hb0:∀o,Below w.heap.size w (w.alloc o):=fun o=>zr.alloc zl _;have HB0:=zh hb0;clear hb0
 have vE:=zh (show ∀w',Below w.heap.size w w'->Calls prog 52 #[.slice A1 L1 c1] w' fun e w''=>e=.returned (.bool (p.vs.all zmo))/\Below w'.heap.size w' w'' from fun w' h=>by
  have:=znI p.vs A1 c1 S w' (HR.out.vars.later h) HR.out.lv HR.out.lvc;rw[lu.out]at this;exact this)
 by_cases h32:32<L1
 ·have HF:=zh (show zkA p=false by rw[HX.out];simp;intro h;omega);have h32':(32:Int)<(L1:Int):=by omega
  go_enter func25,ntmps25;go_wp2_with fail;go_ret;exact⟨by rw[HF.out];rfl,HB0.out _⟩
 by_cases h64:64<L2
 ·have HF:=zh (show zkA p=false by rw[HX.out];simp;intro _ h;omega);have h32':(L1:Int)<=32:=by omega
  have h64':(64:Int)<(L2:Int):=by omega
  clear h32;go_enter func25,ntmps25;go_wp2_with fail;go_ret;exact⟨by rw[HF.out];rfl,HB0.out _⟩
 have h32':(L1:Int)<=32:=by omega
 have h64':(L2:Int)<=64:=by omega
 have hx:=HX.out;have e1:L1<=32:=by omega
 have e2:L2<=64:=by omega
 rw[decide_eq_true e1,decide_eq_true e2]at hx;simp only[Bool.true_and]at hx;clear HX h32 h64 e1 e2;have HX:=zh hx;clear hx;go_enter func25,ntmps25;go_wp2_with fail;refine(vE.out _ (HB0.out _)).mono ?_;rintro e w1 ⟨rfl,aa⟩;have q1:Below w.heap.size w w1:=(HB0.out _).trans (aa.mono (by simp));have hbx:w1.heap[w.heap.size]?=some (.cells #[.slice A1 L1 c1,.slice A2 L2 c2,.int .u8 k,.int .i64 n,.string s,.slice A3 l3 c3] 30 (0,0)):=(aa.block _ (by simp)).trans (heap_alloc_new w _);have x1:w1.cell? ⟨w.heap.size,1,none⟩=some (.slice A2 L2 c2):=zc hbx rfl;have hx:=HX.out;clear aa vE
 cases hd:p.vs.all zmo
 ·rw[hd]at hx;have HF:=zh (show zkA p=false by rw[hx];rfl);clear hx;go_wp2_with fail;go_ret;exact⟨by rw[HF.out];rfl,q1⟩
 rw[hd,Bool.true_and]at hx;have bY:=zh hx;have aS:=zh hbx;clear hx HX hd hbx;go_wp2_with fail
 go_loopw [24] (fun i wr=>∃j:Nat,j<=L2/\i=.int .i64 j/\Below w1.heap.size w1 wr/\Hid ((p.prs.take j).all zod=true)) (fun i _=>L2-(intOf i).toNat)
 case atStart=>exact⟨0,Nat.zero_le _,rfl,zr,zh (by simp)⟩
 case round =>
  obtain⟨j,hj,rfl,hb,HA⟩:=hrel;have hq:Below w.heap.size w wr:=q1.trans (hb.mono q1.size);by_cases hlt:j<L2
  ·have hlt':j<p.prs.length:=by rw[HL2.out];exact hlt
   obtain⟨a,r,B1,d1,B2,d2,rfl,_,Hr,⟨z0,z1,z2,z3,z4,z5⟩,hrr⟩:=(HR.out.procs.later hq).nd hlt';have HRR:=zh hrr;have HT:=zh (show(p.prs.take (j+1)).all zod=zod r by rw[ztO hlt' HA.out,Hr.out]);have HN:=zh (show zod r=false->zkA p=false from fun h=>by rw[bY.out,ztP hlt' (by rw[Hr.out];exact h)];rfl);have uL:=zh (show zod r=(zl5 r.s&&decide (r.ps.length<=8)&&r.ps.all zmo&&zkY r.b)from rfl);have hd1:=zkW hrr.lp;clear hrr;have vE:=zh (show ∀w',Below wr.heap.size wr w'->Calls prog 52 #[.slice B1 r.ps.length d1] w' fun e w''=>e=.returned (.bool (r.ps.all zmo))/\Below w'.heap.size w' w'' from fun w' h=>znI r.ps B1 d1 S w' (HRR.out.row.later h) HRR.out.lp HRR.out.lc);have cB:=zh (show ∀w',Below wr.heap.size wr w'->NV w' Any r.b (nv r.b.k r.b.n r.b.s B2 r.b.ks.length d2)from fun w' h=>(HRR.out.body.later h).any);obtain⟨rs,hrs⟩:=zX (r.s)
   obtain⟨rl,hrl⟩:=zX (r.ps.length);obtain⟨bk,hbk⟩:=zX (r.b.k);obtain⟨bn,hbn⟩:=zX (r.b.n);obtain⟨bs,hbs⟩:=zX (r.b.s);obtain⟨bl,hbl⟩:=zX (r.b.ks.length);have hpb:=uL.out;have Br:=vE.out;have hbd:=cB.out;rw[hrs]at z0 hpb;rw[hrl]at z1 hpb Br hd1;rw[hbk]at z2 hbd;rw[hbn]at z3 hbd;rw[hbs]at z4 hbd;rw[hbl]at z5 hbd;clear uL vE cB HRR hrs hrl hbk hbn hbs hbl;have uL:=zh hpb;have vE:=zh Br;have cB:=zh hbd;clear hpb Br hbd;go_wp2_with fail;refine(zn2 rs _).mono ?_;rintro e w2 ⟨rfl,ah⟩;have b2:Below wr.heap.size wr w2:=zAB ah;have hbx:w2.heap[wr.heap.size]?=some (.cells #[.string rs,.slice B1 rl d1,.int .u8 bk,.int .i64 bn,.string bs,.slice B2 bl d2] 100 (0,0)):=(ah.block _ (by simp)).trans (heap_alloc_new wr _);have u1:w2.cell? ⟨wr.heap.size,1,none⟩=some (.slice B1 rl d1):=zc hbx rfl;have hpb:=uL.out;clear ah
   cases hnm:zl5 rs
   ·rw[hnm]at hpb;have HF:=zh (HN.out (by rw[hpb];rfl));clear hpb;go_wp2_with fail;go_ret;exact⟨by rw[HF.out];rfl,hq.trans (b2.mono hq.size)⟩
   rw[hnm,Bool.true_and]at hpb;by_cases h8:8<rl
   ·have HF:=zh (HN.out (by rw[hpb];simp;intro h;omega));have h8':(8:Int)<(rl:Int):=by omega
    clear hpb;go_wp2_with fail;go_ret;exact⟨by rw[HF.out];rfl,hq.trans (b2.mono hq.size)⟩
   rw[decide_eq_true (show rl<=8 by omega),Bool.true_and]at hpb;have h8':(rl:Int)<=8:=by omega
   have oG:=zh hpb;have HBX2:=zh hbx;clear hpb uL h8 hbx;go_wp2_with fail;refine(vE.out _ b2).mono ?_;rintro e w3 ⟨rfl,aN⟩;have b3:=b2.trans (aN.mono b2.size);have hbx:w3.heap[wr.heap.size]?=some (.cells #[.string rs,.slice B1 rl d1,.int .u8 bk,.int .i64 bn,.string bs,.slice B2 bl d2] 100 (0,0)):=(aN.block _ (zkf HBX2.out)).trans HBX2.out;have u2:w3.cell? ⟨wr.heap.size,2,none⟩=some (.int .u8 bk):=zc hbx rfl;have u3:w3.cell? ⟨wr.heap.size,3,none⟩=some (.int .i64 bn):=zc hbx rfl;have u4:w3.cell? ⟨wr.heap.size,4,none⟩=some (.string bs):=zc hbx rfl;have u5:w3.cell? ⟨wr.heap.size,5,none⟩=some (.slice B2 bl d2):=zc hbx rfl;have hpb:=oG.out;clear aN u1 hbx
   cases hdd:r.ps.all zmo
   ·rw[hdd]at hpb;have HF:=zh (HN.out (by rw[hpb];rfl));clear hpb;go_wp2_with fail;go_ret;exact⟨by rw[HF.out];rfl,hq.trans (b3.mono hq.size)⟩
   rw[hdd,Bool.true_and]at hpb;have HPD:=zh hpb;clear hpb oG hdd;go_wp2_with fail;refine(zo8 r.b _ _ (cB.out _ b3)).mono ?_;rintro e w4 ⟨rfl,iX⟩;have b4:=b3.trans (iX.mono b3.size);have hpb:=HPD.out;clear iX u2 u3 u4 u5
   cases hbb:zkY r.b
   ·rw[hbb]at hpb;have HF:=zh (HN.out hpb);clear hpb;go_wp2_with fail;go_ret;exact⟨by rw[HF.out];rfl,hq.trans (b4.mono hq.size)⟩
   ·rw[hbb]at hpb;have HG:=zh (show(p.prs.take (j+1)).all zod=true by rw[HT.out];exact hpb);have HQ4:=zh (hb.trans (b4.mono hb.size));clear hpb;go_wp2_with fail
    go_roundw
    case rel=>exact⟨j+1,by omega,by go_num,HQ4.out,HG⟩
    case measure=>simp[intOf];omega
  ·obtain rfl:j=L2:=by omega
   have HF:=zh (show zkA p=zkY p.m by rw[bY.out];have:=HA.out;rw[List.take_of_length_le (by rw[HL2.out];omega)]at this;rw[this];rfl);have hbx:wr.heap[w.heap.size]?=some (.cells #[.slice A1 L1 c1,.slice A2 j c2,.int .u8 k,.int .i64 n,.string s,.slice A3 l3 c3] 30 (0,0)):=(hb.block _ (zkf aS.out)).trans aS.out;have y2:wr.cell? ⟨w.heap.size,2,none⟩=some (.int .u8 k):=zc hbx rfl;have y3:wr.cell? ⟨w.heap.size,3,none⟩=some (.int .i64 n):=zc hbx rfl;have y4:wr.cell? ⟨w.heap.size,4,none⟩=some (.string s):=zc hbx rfl;have y5:wr.cell? ⟨w.heap.size,5,none⟩=some (.slice A3 l3 c3):=zc hbx rfl;go_wp2_with fail;refine(zo8 p.m _ _ (HM.out.later hq).any).mono ?_;rintro e w2 ⟨rfl,ah⟩;go_wp2_with fail;go_ret;exact⟨by rw[HF.out];rfl,hq.trans (ah.mono hq.size)⟩
theorem zqM{p:PG}{S:Nat->Prop}{v:Value}{w:World}(h:zkA p=true)(hv:PV w S p v):Calls prog 25 #[v] w fun e w'=>e=.returned (.bool true)/\Below w.heap.size w w' :=
 (zlz p S v w hv).mono fun e w' ⟨he,hb⟩=>⟨by rw[he,h],hb⟩
theorem znm(t:T):∀(v:Value) (w:World),NV w Any t v->Calls prog 66 #[v] w (zpW w t):=by
 obtain⟨i0,hi0,hz0,hz1,hz2⟩:=info_parts zpC
 induction t using T.ind with
 | _ k n s ks ih =>
 intro v w hv;obtain⟨A,c,rfl,hf,hlk,hlc,hrow⟩:=hv.open_;simp only[T.k_nd,T.n_nd,T.s_nd,T.ks_nd]at *
 have au:=zkx hlk;generalize hlen:ks.length=l at *
 have HL:=zh hlen;clear hlen hv;have hbs:=zu0;go_enter func66,ntmps66;go_wp2
 go_loopw [3,9] (fun x i wr=>∃j:Nat,j<=l/\i=.int .i64 j/\OwnN wr (w.heap.size+2) 28 (From (w.heap.size+2)) x (ks.take j) /\
   Below (w.heap.size+2) ((w.alloc (.cells #[.int .u8 k,.int .i64 n,.string s,.slice A l c] 28)).alloc (.cells #[.int .u8 0,.int .i64 0,.string ⟨#[]⟩,.slice none 0 0] 28)) wr) (fun _ i _=>l-(intOf i).toNat)
 case atStart=>exact⟨0,Nat.zero_le _,rfl,OwnN.nil _ _ _ _,zr⟩
 case round =>
  obtain⟨j,hj,rfl,hown,hb⟩:=hrel;have hb0:Below w.heap.size w wr:=((zr.alloc zl _).alloc (by simp) _).trans (hb.mono (by omega));have hsz:w.heap.size+2<=wr.heap.size:=by have:=hb.size;simpa using this
  by_cases hlt:j<l
  ·have hi:j<ks.length:=by rw[HL.out];exact hlt
   obtain⟨a,t,A',c',rfl,_,Ht,c0,c1,c2,c3,hn⟩:=(hrow.later hb0).get hi;have ih1:=zh (ih ks[j] (List.getElem_mem hi));rw[Ht.out]at ih1;clear ih hrow;go_wp2_with fail;refine(ih1.out _ _ ?_).mono ?_
   ·exact hn.later (zr.alloc zl _)
   rintro e w1 ⟨k1,n1,s1,A1,l1,c1',rfl,hn1,hb1⟩;have hb2:Below wr.heap.size wr w1:=zAB hb1;have hb3:=hb.trans (hb2.mono hsz);have hown1:=hown.later hb2;have hA:NV w1 (fun b=>From (w.heap.size+2) b/\some b≠u3.ownBlock) t (nv k1 n1 s1 A1 l1 c1'):=hn1.mono fun b hb=>by
    have hb':wr.heap.size+1<=b:=by simpa using hb
    refine⟨by show w.heap.size+2<=b;omega,fun e=>?_⟩;have:=(hown.block b e.symm).2;omega
   have hlen1:(ks.take j).length+1<=LK:=by rw[List.length_take];exact Nat.le_trans (by omega) hlk
   have hbase:w.heap.size+2<=w1.heap.size:=Nat.le_trans hsz hb2.size;have htk:ks.take (j+1)=ks.take j++[t]:=by rw[List.take_succ_eq_append_getElem hi,Ht.out]
   have HT:=zh htk;have hblk:=hown.block;have HB:=zh hblk;clear htk hown hb1 hblk;go_wp2_with (at_builtin;refine zmY rfl (.tmp 13) (.tmp 16) 26 rfl 28 i0 _ underlying26 hi0 hz0 hz1 hz2 rfl (w.heap.size+2) (From (w.heap.size+2)) u3 _ rfl hown1 t k1 n1 s1 A1 l1 c1' rfl hA hlen1 hbase ?_;intro v' w' hown' hg' rY)
   go_roundw
   case rel=>exact⟨j+1,by omega,by go_num,by rw[HT.out];exact hown',hb3.grown hg' hbase (fun g hg=>(HB.out g hg).1)⟩
   case measure=>simp[intOf];omega
  ·have hj':j=l:=by omega
   subst hj';have hl:ks.length=j:=HL.out;rw[List.take_of_length_le (by omega)]at hown;obtain⟨A2,c2,hv2,hc2,hr2,ha2⟩:=hown.row;rw[hl]at hv2;have HR:=zh (hr2.mono (S':=From (w.heap.size+2)) fun b hb=>by
    rcases hb with hb|hb
    ·exact hb
    ·exact(hown.block b hb).1)
   have HC:=zh hc2;have HF:=zh hf;subst hv2;clear ha2 hr2 hown hc2 hl ih hrow hf;have g0:wr.cell? ⟨w.heap.size,0,none⟩=some (.int .u8 k):=(hb.cell (p:=⟨w.heap.size,0,none⟩) (by simp)).trans (by simp);have g1:wr.cell? ⟨w.heap.size,1,none⟩=some (.int .i64 n):=(hb.cell (p:=⟨w.heap.size,1,none⟩) (by simp)).trans (by simp);have g2:wr.cell? ⟨w.heap.size,2,none⟩=some (.string s):=(hb.cell (p:=⟨w.heap.size,2,none⟩) (by simp)).trans (by simp);have g3:wr.cell? ⟨w.heap.size,3,none⟩=some (.slice A j c):=(hb.cell (p:=⟨w.heap.size,3,none⟩) (by simp)).trans (by simp);have f3:wr.frozen? ⟨w.heap.size,3,none⟩=false:=(hb.frozen (p:=⟨w.heap.size,3,none⟩) (by simp)).trans (by simp);have r0:wr.cell? ⟨w.heap.size+1,0,none⟩=some (.int .u8 0):=(hb.cell (p:=⟨w.heap.size+1,0,none⟩) (by simp)).trans (by simp)
   have r1:wr.cell? ⟨w.heap.size+1,1,none⟩=some (.int .i64 0):=(hb.cell (p:=⟨w.heap.size+1,1,none⟩) (by simp)).trans (by simp);have r2:wr.cell? ⟨w.heap.size+1,2,none⟩=some (.string ⟨#[]⟩):=(hb.cell (p:=⟨w.heap.size+1,2,none⟩) (by simp)).trans (by simp);have r3:wr.cell? ⟨w.heap.size+1,3,none⟩=some (.slice none 0 0):=(hb.cell (p:=⟨w.heap.size+1,3,none⟩) (by simp)).trans (by simp);have q0:wr.frozen? ⟨w.heap.size+1,0,none⟩=false:=(hb.frozen (p:=⟨w.heap.size+1,0,none⟩) (by simp)).trans (by simp);have q1:wr.frozen? ⟨w.heap.size+1,1,none⟩=false:=(hb.frozen (p:=⟨w.heap.size+1,1,none⟩) (by simp)).trans (by simp);have q2:wr.frozen? ⟨w.heap.size+1,2,none⟩=false:=(hb.frozen (p:=⟨w.heap.size+1,2,none⟩) (by simp)).trans (by simp);have q3:wr.frozen? ⟨w.heap.size+1,3,none⟩=false:=(hb.frozen (p:=⟨w.heap.size+1,3,none⟩) (by simp)).trans (by simp);go_wp2_with fail
   refine bodyPost_ret (v:=nv k n s A2 j c2) (by simp[results,results66,go_sem,r0,r1,r2,r3]) rfl ⟨k,n,s,A2,j,c2,rfl,?_,?_⟩
   ·rw[<-HL.out];refine NV.shut HF.out (by rw[HL.out];exact hlk) HC.out (HR.out.keep (fun b hb _=>Nat.le_trans (Nat.le_add_right _ 2) hb) fun b hb _=>?_);have hb':w.heap.size+2<=b:=hb;rw[Below.heap_setCell _ _ _ _ (by simp;omega),Below.heap_setCell _ _ _ _ (by simp;omega),Below.heap_setCell _ _ _ _ (by simp;omega),Below.heap_setCell _ _ _ _ (by simp;omega),Below.heap_setCell _ _ _ _ (by simp;omega)]
   ·exact((((hb0.setCell (by simp) _).setCell (by simp) _).setCell (by simp) _).setCell (by simp) _).setCell (by simp) _
def zpV(ts L:List T)(j:Nat):Prop:=L.length=ts.length/\∀q (h:q<L.length) (h1:q<ts.length) (h2:ts.length-1-q<ts.length),L[q]=if q<j\/ts.length-j<=q then ts[ts.length-1-q]else ts[q]
theorem zpV.zero(ts:List T):zpV ts ts 0:=⟨rfl,fun q h h1 h2=>by rw[if_neg (by omega)]⟩
theorem zpV.done{ts L:List T}{j:Nat}(h:zpV ts L j)(hj:ts.length<=j+j+1):L=ts.reverse:=by
 refine List.ext_getElem (by simp[h.1]) fun q hq hq'=>?_;have h1:q<ts.length:=by simpa using hq'
 rw[h.2 q hq h1 (by omega),List.getElem_reverse]
 split
 ·rfl
 ·have e:ts.length-1-q=q:=by omega
  simp only[e]
theorem zpV.swap{ts L:List T}{j m:Nat}(h:zpV ts L j)(hm:m+j+1=ts.length)(hjm:j<m)(hj:j<L.length)(sF:m<L.length):zpV ts ((L.set j L[m]).set m L[j]) (j+1):=by
 refine⟨by simp[h.1],fun q hq h1 h2=>?_⟩;have hl:=h.1;rw[List.getElem_set]
 split
 ·rename_i e;subst e;rw[h.2 j hj (by omega) (by omega),if_neg (by omega),if_pos (by omega)];have e:ts.length-1-m=j:=by omega
  simp only[e]
 ·rw[List.getElem_set]
  split
  ·rename_i e;subst e;rw[h.2 m sF (by omega) (by omega),if_neg (by omega),if_pos (by omega)];have e:ts.length-1-j=m:=by omega
   simp only[e]
  ·rw[h.2 q (by omega) h1 h2]
   split
   ·rw[if_pos (by omega)]
   ·rw[if_neg (by omega)]
theorem zrw(w:World)(base:Nat)(S:Nat->Prop)(g l cap:Nat)(ts:List T)(hown:OwnN w base 28 S (.slice (some ⟨g,0,none⟩) l cap) ts) :
  Calls prog 127 #[.slice (some ⟨g,0,none⟩) l cap] w fun e w'=>e=.returned (.tuple #[])/\OwnN w' base 28 S (.slice (some ⟨g,0,none⟩) l cap) ts.reverse/\w.grownBy w' (some g):=by
 have hlk:=zkx hown.lk;obtain⟨hl,hcap,_,_⟩:=hown.len;have HL:=zh hl;have hl':l<=2513169434916:=by omega
 clear hl hlk;go_enter func127,ntmps127;go_wp2
 go_loopw [2,3] (fun i k wr=>∃(j:Nat) (L:List T),j<=l/\i=.int .i64 j/\k=.int .i64 ((l:Int)-1-j)/\Hid (zpV ts L j)/\OwnN wr base 28 S (.slice (some ⟨g,0,none⟩) l cap) L/\w.grownBy wr (some g)) (fun i _ _=>l-(intOf i).toNat)
 case atStart=>exact⟨0,ts,Nat.zero_le _,rfl,by simp,zpV.zero ts,hown,zlM _ _⟩
 case round =>
  obtain⟨j,L,hjl,rfl,rfl,HR,ho,hg⟩:=hrel;clear hown;by_cases hlt:(j:Int)<(l:Int)-1-j
  ·obtain⟨m,hm⟩:∃m:Nat,m+j+1=l:=⟨l-1-j,by omega⟩
   have hp:(l:Int)-1-j=(m:Int):=by omega
   have hm1:m<l:=by omega
   have hj1:j<m:=by omega
   have hj:j<l:=by omega
   have i1:(0:Int)<=(j:Int):=by omega
   have i2:(j:Int)<(l:Int):=by omega
   have i3:(m:Int)<(l:Int):=by omega
   have i4:(0:Int)<=(m:Int):=by omega
   have sG:m<L.length:=by rw[ho.len.1];exact hm1
   have pG:j<L.length:=by rw[ho.len.1];exact hj
   obtain⟨t1,A1,c1,H1,a0,a1,a2,a3,hn1⟩:=ho.nd sG;obtain⟨t2,A2,c2,H2,b0,b1,b2,b3,hn2⟩:=ho.nd pG;have fz:=ho.frozen;rw[hp]at *
   have HM:=zh hm;clear hm hlt hp;go_wp2_with fail
   go_region
   go_wp2_with fail;have hw1:=ho.set4 pG hn1;have hk:∀b,S b/\some b≠some g->b<wr.heap.size->((((wr.setCell ⟨g,j*4,none⟩ (.int .u8 t1.k)).setCell ⟨g,j*4+1,none⟩ (.int .i64 t1.n)).setCell ⟨g,j*4+2,none⟩ (.string t1.s)).setCell ⟨g,j*4+3,none⟩ (.slice A1 t1.ks.length c1)).heap[b]?=wr.heap[b]?:=by
    intro b hb _;have hne:b≠g:=fun e=>hb.2 (by rw[e]);rw[Below.heap_setCell _ _ _ _ hne,Below.heap_setCell _ _ _ _ hne,Below.heap_setCell _ _ _ _ hne,Below.heap_setCell _ _ _ _ hne]
   have hw2:=hw1.set4 (i:=m) (by simpa using sG) (hn2.keep (fun _ h _=>h) hk);have hsw:=HR.out.swap (m:=m) (by rw[HL.out];exact HM.out) hj1 pG sG;rw[H1.out,H2.out]at hsw
   go_roundw
   case rel=>exact⟨j+1,_,by omega,by go_num,by have:=HM.out;congr 1;omega,hsw,hw2.drew,ztV (zlj (zlj (zlj (zlj (zlj (zlj (zlj (zlj hg rfl _) rfl _) rfl _) rfl _) rfl _) rfl _) rfl _) rfl _)⟩
   case measure=>simp[intOf];omega
  ·go_wp2_with fail;go_end0;have e:L=ts.reverse:=HR.out.done (by rw[HL.out];omega);exact⟨rfl,by rw[<-e];exact ho,hg⟩
theorem zmh(k:Int)(w:World):Calls prog 128 #[.int .u8 k] w fun e w'=>e=.returned (.int .u8 (exch k))/\w=w':=by
 go_enter func128,ntmps128;go_wp2
 all_goals (go_ret;exact⟨by simp_all [exch],rfl⟩)
theorem zzV(k n:Int)(s:ByteArray)(A:Option Addr)(l c:Nat)(w:World):(Instr.build 28 #[(0,.int .u8 k),(1,.int .i64 n),(2,.string s),(3,.slice A l c)]).run prog w=.ok (nv k n s A l c) w:=by kernel_rfl
theorem zsL(keep:Bool)(t:T):∀(v:Value) (w:World),NV w Any t v->okT t->Calls prog 102 #[v,.bool keep] w (zpW w (inv keep t)):=by
 obtain⟨i0,hi0,hz0,hz1,hz2⟩:=info_parts zpC
 induction t using T.ind with
 | _ k n s ks ih =>
 intro v w hv hok;obtain⟨A,c,rfl,hf,hlk,hlc,hrow⟩:=hv.open_;simp only[T.k_nd,T.n_nd,T.s_nd,T.ks_nd]at *
 have au:=zkx hlk;have hmk:=fun W=>zk6 (P:=prog) 26 28 i0 _ underlying26 hi0 hz0 .i64 .i64 ks.length ks.length zl (by rw[hz2];omega) (by omega) W;rw[hz1]at hmk;have hb4:=zzV;have IH:=zh ih;have fB:=zh hok;clear hv ih hok;go_enter func102,ntmps102;go_upto_region 1 with fail
 go_cut [5] (fun s5 wx=>∃gm gr:Nat,s5=.pointer (some ⟨gm,0,none⟩)/\zla w wx 28 k n s A ks.length c k gm gr (List.replicate ks.length zeroT))
 case first =>
  go_region
  ·go_wp2_with fail
   go_meet
   exact⟨_,_,rfl,zla.start1 w _ k n s A _ c hlk⟩
  ·go_wp2_with fail
   go_meet
   exact⟨_,_,rfl,zla.start2 w _ k n s A _ c hlk⟩
 case rest =>
  obtain⟨gm,gr,rfl,hst⟩:=hcut;have tJ:wc.cell? ⟨w.heap.size,3,none⟩=some (.slice A ks.length c):=zc hst.arg rfl;clear hmk hb4;go_wp2_with fail
  go_loopw [23] (fun i wr=>∃j:Nat,j<=ks.length/\i=.int .i64 j/\zla w wr 28 k n s A ks.length c k gm gr (zmA (invK keep (k==57)) ks j)) (fun i _=>ks.length-(intOf i).toNat)
  case atStart=>exact⟨0,Nat.zero_le _,rfl,by rw[zrn];exact hst⟩
  case round =>
   obtain⟨j,hj,rfl,hs⟩:=hrel;clear hst tJ;by_cases hlt:j<ks.length
   ·obtain⟨a,t,A1,c1,rfl,_,Ht,⟨q0,q1,q2,q3⟩,hn⟩:=(hrow.later hs.below).nd hlt;have hokt:k=57\/t.k=57->okT t:=fun h=>by
     have:=zyg k n s ks fB.out ks[j] (List.getElem_mem hlt);rw[Ht.out]at this;exact this h
    have zm:=zh hokt;have ih1:=IH.out ks[j] (List.getElem_mem hlt);rw[Ht.out]at ih1;have IH1:=zh ih1;have a0:wr.cell? ⟨w.heap.size,0,none⟩=some (.int .u8 k):=zc hs.arg rfl;have g3:wr.cell? ⟨gm,3,none⟩=some (.slice (some ⟨gr,0,none⟩) ks.length ks.length):=zc hs.box rfl;have a0':=zkj a0;have hgm:=zkf hs.box;have hgr:=hs.grlo;have hlo:=hs.lo;have hne1:gm≠gr:=hs.ne;have hne2:wr.heap.size≠gr:=by omega
    have hne3:wr.heap.size≠gm:=by omega
    have pG:j<(zmA (invK keep (k==57)) ks j).length:=by rw[zsU _ _ _ hj];exact hlt
    have i1:(0:Int)<=(j:Int):=by omega
    have i2:(j:Int)<(ks.length:Int):=by omega
    have hsz:=hs.size;clear ih1 hokt hrow;by_cases hB:k=57\/t.k=57
    ·have HK:=zh (show invK keep (k==57) t=inv keep t by unfold invK;rw[if_pos];rcases hB with h|h<;>simp[h]);have HB:=zh hB;rcases Bool.eq_false_or_eq_true (k==57)with hk1|hk1
     all_goals
      have hk2:((k==57)||(t.k==57))=true:=by rcases hB with h|h<;>simp[h]
      simp only[hk1,Bool.true_or,Bool.false_or]at hk2;clear hB;have HS:∀w',Below (wr.heap.size+1) (wr.alloc (.cells #[.int .u8 t.k,.int .i64 t.n,.string t.s,.slice A1 t.ks.length c1] 28)) w'->(w'.cell? ⟨gm,3,none⟩=some (.slice (some ⟨gr,0,none⟩) ks.length ks.length)/\w'.cell? ⟨wr.heap.size,0,none⟩=some (.int .u8 t.k)/\w'.cell? ⟨wr.heap.size,1,none⟩=some (.int .i64 t.n)/\w'.cell? ⟨wr.heap.size,2,none⟩=some (.string t.s)/\w'.cell? ⟨wr.heap.size,3,none⟩=some (.slice A1 t.ks.length c1)):=by
       intro w' h;refine⟨(h.cell (p:=⟨gm,3,none⟩) (by simp;omega)).trans (zkj g3 _),?_,?_,?_,?_⟩
       ·exact(h.cell (p:=⟨wr.heap.size,0,none⟩) (by simp)).trans (by simp)
       ·exact(h.cell (p:=⟨wr.heap.size,1,none⟩) (by simp)).trans (by simp)
       ·exact(h.cell (p:=⟨wr.heap.size,2,none⟩) (by simp)).trans (by simp)
       ·exact(h.cell (p:=⟨wr.heap.size,3,none⟩) (by simp)).trans (by simp)
      have bT:=zh HS;clear HS;go_wp2_with fail
      go_region_held3 (fun w'=>(w'.cell? ⟨gm,3,none⟩=some (.slice (some ⟨gr,0,none⟩) ks.length ks.length)/\w'.cell? ⟨wr.heap.size,0,none⟩=some (.int .u8 t.k)/\w'.cell? ⟨wr.heap.size,1,none⟩=some (.int .i64 t.n)/\w'.cell? ⟨wr.heap.size,2,none⟩=some (.string t.s)/\w'.cell? ⟨wr.heap.size,3,none⟩=some (.slice A1 t.ks.length c1)))
       (first|exact bT.out _ zr.drew|exact bT.out _ (zr.drew.trans (hb1.mono (by simp)))|(have hx:=bT.out _ (zr.drew.trans (hb1.mono (by simp)));exact⟨zlt hne1 hx.1,zlt hne2 hx.2.1,zlt hne2 hx.2.2.1,zlt hne2 hx.2.2.2.1,zlt hne2 hx.2.2.2.2⟩))
       (first|(go_at_call 102;refine(IH1.out _ _ (hn.later (zr.alloc zl _).drew) (zm.out HB.out)).mono ?_;rintro e w1 ⟨k1,n1,s1,A2,l1,c2,rfl,hn1,hb1⟩;have hs1:=hs.later ((zr.alloc zl _).drew.trans (hb1.mono (by simp)));obtain⟨t0,A0,c0,_,z0,z1,z2,z3,_⟩:=hs1.own.nd pG;have fz:=hs1.own.frozen))
      rename_i mK;clear mK;go_wp2_with fail
      go_roundw
      case rel =>
       refine⟨j+1,by omega,by go_num,?_⟩;rw[<-zpj _ _ _ hlt,Ht.out,HK.out];refine hs1.store pG (hn1.mono fun b hb=>?_);have hb':wr.heap.size+1<=b:=by simpa using hb
       exact⟨⟨by omega,by omega⟩,fun e=>by injection e with e;omega⟩
      case measure=>simp[intOf];omega
    ·have hk1:(k==57)=false:=by simp;omega
     have hk2:(t.k==57)=false:=by simp;omega
     have HK:=zh (show invK keep (k==57) t=t by unfold invK;rw[if_neg];simp[hk1,hk2]);clear hB;have HS:∀w',Below (wr.heap.size+1) (wr.alloc (.cells #[.int .u8 t.k,.int .i64 t.n,.string t.s,.slice A1 t.ks.length c1] 28)) w'->(w'.cell? ⟨gm,3,none⟩=some (.slice (some ⟨gr,0,none⟩) ks.length ks.length)/\w'.cell? ⟨wr.heap.size,0,none⟩=some (.int .u8 t.k)/\w'.cell? ⟨wr.heap.size,1,none⟩=some (.int .i64 t.n)/\w'.cell? ⟨wr.heap.size,2,none⟩=some (.string t.s)/\w'.cell? ⟨wr.heap.size,3,none⟩=some (.slice A1 t.ks.length c1)):=by
      intro w' h;refine⟨(h.cell (p:=⟨gm,3,none⟩) (by simp;omega)).trans (zkj g3 _),?_,?_,?_,?_⟩
      ·exact(h.cell (p:=⟨wr.heap.size,0,none⟩) (by simp)).trans (by simp)
      ·exact(h.cell (p:=⟨wr.heap.size,1,none⟩) (by simp)).trans (by simp)
      ·exact(h.cell (p:=⟨wr.heap.size,2,none⟩) (by simp)).trans (by simp)
      ·exact(h.cell (p:=⟨wr.heap.size,3,none⟩) (by simp)).trans (by simp)
     have bT:=zh HS;clear HS;go_wp2_with fail
     go_region_held3 (fun w'=>(w'.cell? ⟨gm,3,none⟩=some (.slice (some ⟨gr,0,none⟩) ks.length ks.length)/\w'.cell? ⟨wr.heap.size,0,none⟩=some (.int .u8 t.k)/\w'.cell? ⟨wr.heap.size,1,none⟩=some (.int .i64 t.n)/\w'.cell? ⟨wr.heap.size,2,none⟩=some (.string t.s)/\w'.cell? ⟨wr.heap.size,3,none⟩=some (.slice A1 t.ks.length c1)))
      (first|exact bT.out _ zr.drew|exact bT.out _ (zr.drew.trans (hb1.mono (by simp)))|(have hx:=bT.out _ (zr.drew.trans (hb1.mono (by simp)));exact⟨zlt hne1 hx.1,zlt hne2 hx.2.1,zlt hne2 hx.2.2.1,zlt hne2 hx.2.2.2.1,zlt hne2 hx.2.2.2.2⟩))
      (first|(go_at_call 66;refine(znm t _ _ (hn.later (zr.alloc zl _).drew)).mono ?_;rintro e w1 ⟨k1,n1,s1,A2,l1,c2,rfl,hn1,hb1⟩;have hs1:=hs.later ((zr.alloc zl _).drew.trans (hb1.mono (by simp)));obtain⟨t0,A0,c0,_,z0,z1,z2,z3,_⟩:=hs1.own.nd pG;have fz:=hs1.own.frozen))
     rename_i mK;clear mK;go_wp2_with fail
     go_roundw
     case rel =>
      refine⟨j+1,by omega,by go_num,?_⟩;rw[<-zpj _ _ _ hlt,Ht.out,HK.out];refine hs1.store pG (hn1.mono fun b hb=>?_);have hb':wr.heap.size+1<=b:=by simpa using hb
      exact⟨⟨by omega,by omega⟩,fun e=>by injection e with e;omega⟩
     case measure=>simp[intOf];omega
   ·obtain rfl:j=ks.length:=by omega
    rw[zsV]at hs;have a0:wr.cell? ⟨w.heap.size,0,none⟩=some (.int .u8 k):=zc hs.arg rfl;have g0:wr.cell? ⟨gm,0,none⟩=some (.int .u8 k):=zc hs.box rfl;have g1:wr.cell? ⟨gm,1,none⟩=some (.int .i64 n):=zc hs.box rfl;have g2:wr.cell? ⟨gm,2,none⟩=some (.string s):=zc hs.box rfl;have g3:wr.cell? ⟨gm,3,none⟩=some (.slice (some ⟨gr,0,none⟩) ks.length ks.length):=zc hs.box rfl;have gz:∀i,wr.frozen? ⟨gm,i,none⟩=false:=fun i=>zf hs.box;have r0:wr.cell? ⟨w.heap.size+1,0,none⟩=some (.int .u8 0):=zc hs.res rfl;have r1:wr.cell? ⟨w.heap.size+1,1,none⟩=some (.int .i64 0):=zc hs.res rfl;have r2:wr.cell? ⟨w.heap.size+1,2,none⟩=some (.string ⟨#[]⟩):=zc hs.res rfl;have r3:wr.cell? ⟨w.heap.size+1,3,none⟩=some (.slice none 0 0):=zc hs.res rfl;have rz:∀i,wr.frozen? ⟨w.heap.size+1,i,none⟩=false:=fun i=>zf hs.res;have hgr:=hs.grlo;have hlo:=hs.lo;have hne1:¬ gm=gr:=hs.ne
    have hne4:¬ gm=w.heap.size+1:=by omega
    have hne5:¬ w.heap.size+1=gm:=by omega
    have hne6:¬ gr=w.heap.size+1:=by omega
    have hne7:¬ w.heap.size+1=gr:=by omega
    have hne8:¬ w.heap.size=gm:=by omega
    have hne9:¬ gm=w.heap.size:=by omega
    clear hrow;by_cases nZ:k=57
    ·subst nZ;have HX:=zh (show inv keep (.nd 57 n s ks)=.nd 57 n s (ks.map (invK keep ((57:Int)==57))).reverse by
      rw[inv,if_pos rfl,zm8];rfl)
     go_wp2_with fail;refine(zrw _ _ _ gr _ _ _ hs.own).mono ?_;rintro e w1 ⟨rfl,ho1,hg1⟩;have hs1:=hs.rowed ho1 hg1;have g0:w1.cell? ⟨gm,0,none⟩=some (.int .u8 57):=zc hs1.box rfl;have g1:w1.cell? ⟨gm,1,none⟩=some (.int .i64 n):=zc hs1.box rfl;have g2:w1.cell? ⟨gm,2,none⟩=some (.string s):=zc hs1.box rfl;have g3:w1.cell? ⟨gm,3,none⟩=some (.slice (some ⟨gr,0,none⟩) ks.length ks.length):=zc hs1.box rfl;have r0:w1.cell? ⟨w.heap.size+1,0,none⟩=some (.int .u8 0):=zc hs1.res rfl;have r1:w1.cell? ⟨w.heap.size+1,1,none⟩=some (.int .i64 0):=zc hs1.res rfl;have r2:w1.cell? ⟨w.heap.size+1,2,none⟩=some (.string ⟨#[]⟩):=zc hs1.res rfl;have r3:w1.cell? ⟨w.heap.size+1,3,none⟩=some (.slice none 0 0):=zc hs1.res rfl;have rz:∀i,w1.frozen? ⟨w.heap.size+1,i,none⟩=false:=fun i=>zf hs1.res;have hr:=hs1.result hf;go_wp2_with fail
     refine bodyPost_ret (v:=nv 57 n s (some ⟨gr,0,none⟩) ks.length ks.length) (by simp[results,results102,go_sem,r0,r1,r2,r3]) rfl ⟨57,n,s,some ⟨gr,0,none⟩,ks.length,ks.length,rfl,?_,hr.2⟩;rw[HX.out];exact hr.1
    by_cases qD:k=52\/k=53\/k=54
    ·have hl2:=zwb k n s ks fB.out qD;have sG:ks.length-1<(ks.map (invK keep (k==57))).length:=by simp;omega
     have BL:0<(ks.map (invK keep (k==57))).length:=by simp;omega
     obtain⟨t1,A1,c1,H1,p0,p1,p2,p3,hn1⟩:=hs.own.nd sG;obtain⟨t2,A2,c2,H2,q0,q1,q2,q3,hn2⟩:=hs.own.nd BL;simp only[Nat.zero_mul,Nat.zero_add]at q0 q1 q2 q3;have fz:=hs.own.frozen;have HX:=zh (show inv keep (.nd k n s ks)=.nd k n s (((ks.map (invK keep (k==57))).set 0 t1).set (ks.length-1) t2) by
      rw[zwu keep k n s ks nZ qD BL sG,H1.out,H2.out])
     have hw1:=hs.store BL hn1;have hk:∀b,(w.heap.size+2<=b/\b≠gm)/\some b≠some gr->b<wr.heap.size->((((wr.setCell ⟨gr,0*4,none⟩ (.int .u8 t1.k)).setCell ⟨gr,0*4+1,none⟩ (.int .i64 t1.n)).setCell ⟨gr,0*4+2,none⟩ (.string t1.s)).setCell ⟨gr,0*4+3,none⟩ (.slice A1 t1.ks.length c1)).heap[b]?=wr.heap[b]?:=by
      intro b hb _;have hne:b≠gr:=fun e=>hb.2 (by rw[e]);rw[Below.heap_setCell _ _ _ _ hne,Below.heap_setCell _ _ _ _ hne,Below.heap_setCell _ _ _ _ hne,Below.heap_setCell _ _ _ _ hne]
     have hw2:=hw1.store (i:=ks.length-1) (by simpa using sG) (hn2.keep (fun _ h _=>h) hk);have hr:=hw2.result hf;simp only[Nat.zero_mul,Nat.zero_add]at hr;have HW:=zh (And.intro (hr.1.later zr.drew) hr.2.drew);have i1:(0:Int)<=(ks.length:Int)-1:=by omega
     have i2:(ks.length:Int)-1<(ks.length:Int):=by omega
     have i3:(0:Int)<(ks.length:Int):=by omega
     have i4:0<ks.length:=by omega
     have i5:¬ (ks.length-1)*4=0:=by omega
     clear hw1 hw2 hk hr;rcases qD with rfl|rfl|rfl
     ·go_wp2_with fail
      go_region
      go_wp2_with fail;refine bodyPost_ret (v:=nv 52 n s (some ⟨gr,0,none⟩) ks.length ks.length) (by simp[results,results102,go_sem,r0,r1,r2,r3]) rfl ⟨52,n,s,some ⟨gr,0,none⟩,ks.length,ks.length,rfl,?_,HW.out.2⟩;rw[HX.out];exact HW.out.1
     ·go_wp2_with fail
      go_region
      go_wp2_with fail;refine bodyPost_ret (v:=nv 53 n s (some ⟨gr,0,none⟩) ks.length ks.length) (by simp[results,results102,go_sem,r0,r1,r2,r3]) rfl ⟨53,n,s,some ⟨gr,0,none⟩,ks.length,ks.length,rfl,?_,HW.out.2⟩;rw[HX.out];exact HW.out.1
     ·go_wp2_with fail
      go_region
      go_wp2_with fail;refine bodyPost_ret (v:=nv 54 n s (some ⟨gr,0,none⟩) ks.length ks.length) (by simp[results,results102,go_sem,r0,r1,r2,r3]) rfl ⟨54,n,s,some ⟨gr,0,none⟩,ks.length,ks.length,rfl,?_,HW.out.2⟩;rw[HX.out];exact HW.out.1
    by_cases wR:k=50\/k=51
    ·have HX:=zh (show inv keep (.nd k n s ks)=.nd (if keep then k else exch k) n s (ks.map (invK keep (k==57))) by
      rw[inv,if_neg nZ,if_neg qD,if_pos wR,zm8];have:(k==57)=false:=by simpa using nZ
      rw[this])
     cases keep
     ·rcases wR with rfl|rfl
      ·go_wp2_with fail;refine(zmh _ _).mono ?_;rintro e w' ⟨rfl,rfl⟩;have hs2:=hs.kind (exch 50);have hr:=hs2.result ⟨zrp 50 hf.1,hf.2⟩;go_wp2_with fail;refine bodyPost_ret (v:=nv (exch 50) n s (some ⟨gr,0,none⟩) ks.length ks.length) (by simp[results,results102,go_sem,r0,r1,r2,r3]) rfl ⟨exch 50,n,s,some ⟨gr,0,none⟩,ks.length,ks.length,rfl,?_,hr.2⟩;rw[HX.out];exact hr.1
      ·go_wp2_with fail;refine(zmh _ _).mono ?_;rintro e w' ⟨rfl,rfl⟩;have hs2:=hs.kind (exch 51);have hr:=hs2.result ⟨zrp 51 hf.1,hf.2⟩;go_wp2_with fail;refine bodyPost_ret (v:=nv (exch 51) n s (some ⟨gr,0,none⟩) ks.length ks.length) (by simp[results,results102,go_sem,r0,r1,r2,r3]) rfl ⟨exch 51,n,s,some ⟨gr,0,none⟩,ks.length,ks.length,rfl,?_,hr.2⟩;rw[HX.out];exact hr.1
     ·have hr:=hs.result hf;rcases wR with rfl|rfl
      ·go_wp2_with fail;refine bodyPost_ret (v:=nv 50 n s (some ⟨gr,0,none⟩) ks.length ks.length) (by simp[results,results102,go_sem,r0,r1,r2,r3]) rfl ⟨50,n,s,some ⟨gr,0,none⟩,ks.length,ks.length,rfl,?_,hr.2⟩;rw[HX.out];exact hr.1
      ·go_wp2_with fail;refine bodyPost_ret (v:=nv 51 n s (some ⟨gr,0,none⟩) ks.length ks.length) (by simp[results,results102,go_sem,r0,r1,r2,r3]) rfl ⟨51,n,s,some ⟨gr,0,none⟩,ks.length,ks.length,rfl,?_,hr.2⟩;rw[HX.out];exact hr.1
    ·have HX:=zh (show inv keep (.nd k n s ks)=.nd (exch k) n s (ks.map (invK keep (k==57))) by
      rw[inv,if_neg nZ,if_neg qD,if_neg wR,zm8];have:(k==57)=false:=by simpa using nZ
      rw[this])
     have n57:(k==57)=false:=by simp;omega
     have n52:(k==52)=false:=by simp;omega
     have n53:(k==53)=false:=by simp;omega
     have n54:(k==54)=false:=by simp;omega
     have n50:(k==50)=false:=by simp;omega
     have n51:(k==51)=false:=by simp;omega
     clear nZ qD wR;go_wp2_with fail;refine(zmh _ _).mono ?_;rintro e w' ⟨rfl,rfl⟩;have hs2:=hs.kind (exch k);have hr:=hs2.result ⟨zrp k hf.1,hf.2⟩;go_wp2_with fail;refine bodyPost_ret (v:=nv (exch k) n s (some ⟨gr,0,none⟩) ks.length ks.length) (by simp[results,results102,go_sem,r0,r1,r2,r3]) rfl ⟨exch k,n,s,some ⟨gr,0,none⟩,ks.length,ks.length,rfl,?_,hr.2⟩;rw[HX.out];exact hr.1
end
section
open Go
section
variable {P:Program} {ops:Array Oper} {Q:Exit->Act->World->Prop} {md:Region.Mode} {S1 S2:World->Prop} {k:Nat}
def wpG(P:Program)(md:Region.Mode)(ops:Array Oper)(Q:Exit->Act->World->Prop)(S1 S2:World->Prop)(k:Nat):Nat->Array Bool->Act->World->Prop
 | 0,listed,a,w=>Region.ready md ops listed=[]/\Q .normal a w
 | fuel+1,listed,a,w =>
  (Region.ready md ops listed=[]->Q .normal a w) /\
  ∀i∈Region.ready md ops listed,wpOp P ops Q i (fun a' w'=>(S1 w'/\((listed.setIfInBounds i true).getD k true=false->S2 w'))/\wpG P md ops Q S1 S2 k fuel (listed.setIfInBounds i true) a' w') a w
theorem zoW:∀(fuel:Nat) (listed:Array Bool) (a:Act) (w:World),wpG P md ops Q S1 S2 k fuel listed a w->wpAny P md ops Q fuel listed a w
 | 0,_,_,_,h=>h
 | fuel+1,_,_,_,h=>⟨h.1,fun i hi=>wpOp_mono (fun a' w' h'=>zoW fuel _ a' w' h'.2) (h.2 i hi)⟩
theorem zoU{i:Nat}{oi:Oper}{v:Value}(hi:ops[i]?=some oi)(hsel:∀(j:Nat) (o:Oper) cs b,ops[j]?=some o->o.op ≠ .select cs b)
  (hQ:∀c a w,Q (.panic c) (a.put oi.dst v) w->Q (.panic c) a w)(hik:i≠k) :
  ∀(fuel:Nat) (listed:Array Bool) (a:Act) (w:World),
   (∀j oj,ops[j]?=some oj->j≠i->listed.getD j true=false->(∀e∈oj.after,Region.binds md e=true->e.on≠i)->oi.apart ops oj=true) ->
   i∈Region.ready md ops listed->YieldsIf P ops S1 oi v a->S1 w->(listed.getD k true=false->S2 w) ->
   wpG P md ops Q S1 S2 k fuel (listed.setIfInBounds i true) (a.put oi.dst v) w->wpG P md ops Q S1 S2 k (fuel+1) listed a w:=by
 intro fuel
 induction fuel with
 | zero =>
  intro listed a w hfree hr hy hS1 HH H;refine⟨fun h=>(by rw[h]at hr;cases hr),fun j hj=>?_⟩;by_cases hji:j=i
  ·subst hji;exact hy.wpOp hi hS1 ⟨⟨hS1,fun h=>HH (by rw[getD_set_ne true hik]at h;exact h)⟩,H⟩
  ·have:=ready_mono hj hji;rw[H.1]at this
   cases this
 | succ fuel ih =>
  intro listed a w hfree hr hy hS1 HH H;refine⟨fun h=>(by rw[h]at hr;cases hr),fun j hj=>?_⟩;by_cases hji:j=i
  ·subst hji;exact hy.wpOp hi hS1 ⟨⟨hS1,fun h=>HH (by rw[getD_set_ne true hik]at h;exact h)⟩,H⟩
  ·have h1:=H.2 j (ready_mono hj hji);obtain⟨hjun,oj,hoj,hall⟩:=mem_ready.1 hj;have hnot:∀e∈oj.after,Region.binds md e=true->e.on≠i:=fun e he hb heq=>by
    have h1:=hall e he hb;have h0:=(mem_ready.1 hr).1;rw[heq]at h1;rcases Nat.lt_or_ge i listed.size with h'|h'
    ·simp[h']at h0 h1;rw[h0]at h1;cases h1
    ·simp[Array.getElem?_eq_none h']at h1
   have h2:=wpOp_putIf hoj (hfree j oj hoj hji hjun hnot) (fun cs b=>hsel i oi cs b hi) (fun cs b=>hsel j oj cs b hoj) hQ hy h1;have hfree':∀k ok,ops[k]?=some ok->k≠i->(listed.setIfInBounds j true).getD k true=false ->
     (∀e∈ok.after,Region.binds md e=true->e.on≠i)->oi.apart ops ok=true:=fun k ok hk hki hun hno=>by
    refine hfree k ok hk hki ?_ hno;by_cases hjk:j=k
    ·subst hjk;exact hjun
    ·rw[getD_set_ne true hjk]at hun;exact hun
   have hsame:((listed.setIfInBounds i true).setIfInBounds j true).getD k true=(listed.setIfInBounds j true).getD k true:=by
    rw[Array.setIfInBounds_comm _ _ (Ne.symm hji),getD_set_ne true hik]
   refine wpOp_mono (fun a' w' h3=>?_) h2;obtain⟨hy',⟨hs1,hs2⟩,hW⟩:=h3;rw[hsame]at hs2;refine⟨⟨hs1,hs2⟩,ih (listed.setIfInBounds j true) a' w' hfree' (ready_mono hr (Ne.symm hji)) hy' hs1 hs2 ?_⟩;rw[Array.setIfInBounds_comm _ _ hji];exact hW
theorem zsr{i:Nat}{oi:Oper}{v:Value}(hi:ops[i]?=some oi)(hsel:∀(j:Nat) (o:Oper) cs b,ops[j]?=some o->o.op ≠ .select cs b)
  (hQ:∀c a w,Q (.panic c) (a.put oi.dst v) w->Q (.panic c) a w)(hik:i≠k)(hwait:∃ok,ops[k]?=some ok/\∃e∈ok.after,Region.binds md e=true/\e.on=i) :
  ∀(fuel:Nat) (listed:Array Bool) (a:Act) (w:World),
   (∀j oj,ops[j]?=some oj->j≠i->listed.getD j true=false->(∀e∈oj.after,Region.binds md e=true->e.on≠i)->oi.apart ops oj=true) ->
   i∈Region.ready md ops listed->YieldsIf P ops S2 oi v a->S1 w->(listed.getD k true=false/\S2 w) ->
   wpG P md ops Q S1 S2 k fuel (listed.setIfInBounds i true) (a.put oi.dst v) w->wpG P md ops Q S1 S2 k (fuel+1) listed a w:=by
 intro fuel
 induction fuel with
 | zero =>
  intro listed a w hfree hr hy hS1 HH H;refine⟨fun h=>(by rw[h]at hr;cases hr),fun j hj=>?_⟩;by_cases hji:j=i
  ·subst hji;exact hy.wpOp hi HH.2 ⟨⟨hS1,fun h=>HH.2⟩,H⟩
  ·have:=ready_mono hj hji;rw[H.1]at this
   cases this
 | succ fuel ih =>
  intro listed a w hfree hr hy hS1 HH H;refine⟨fun h=>(by rw[h]at hr;cases hr),fun j hj=>?_⟩;by_cases hji:j=i
  ·subst hji;exact hy.wpOp hi HH.2 ⟨⟨hS1,fun h=>HH.2⟩,H⟩
  ·have h1:=H.2 j (ready_mono hj hji);obtain⟨hjun,oj,hoj,hall⟩:=mem_ready.1 hj;have hnot:∀e∈oj.after,Region.binds md e=true->e.on≠i:=fun e he hb heq=>by
    have h1:=hall e he hb;have h0:=(mem_ready.1 hr).1;rw[heq]at h1;rcases Nat.lt_or_ge i listed.size with h'|h'
    ·simp[h']at h0 h1;rw[h0]at h1;cases h1
    ·simp[Array.getElem?_eq_none h']at h1
   have h2:=wpOp_putIf hoj (hfree j oj hoj hji hjun hnot) (fun cs b=>hsel i oi cs b hi) (fun cs b=>hsel j oj cs b hoj) hQ hy h1;have hfree':∀k ok,ops[k]?=some ok->k≠i->(listed.setIfInBounds j true).getD k true=false ->
     (∀e∈ok.after,Region.binds md e=true->e.on≠i)->oi.apart ops ok=true:=fun k ok hk hki hun hno=>by
    refine hfree k ok hk hki ?_ hno;by_cases hjk:j=k
    ·subst hjk;exact hjun
    ·rw[getD_set_ne true hjk]at hun;exact hun
   have hsame:((listed.setIfInBounds i true).setIfInBounds j true).getD k true=(listed.setIfInBounds j true).getD k true:=by
    rw[Array.setIfInBounds_comm _ _ (Ne.symm hji),getD_set_ne true hik]
   have hjk:j≠k:=fun e'=>by
    obtain⟨ok,hok,e,he,hb,heq⟩:=hwait;rw[<-e',hoj]at hok;injection hok with hok;subst hok;exact hnot e he hb heq
   have au:(listed.setIfInBounds j true).getD k true=false:=by rw[getD_set_ne true hjk];exact HH.1
   refine wpOp_mono (fun a' w' h3=>?_) h2;obtain⟨hy',⟨hs1,hs2⟩,hW⟩:=h3;have mV:=hs2 (by rw[hsame];exact au);refine⟨⟨hs1,fun _=>mV⟩,ih (listed.setIfInBounds j true) a' w' hfree' (ready_mono hr (Ne.symm hji)) hy' hs1 ⟨au,mV⟩ ?_⟩;rw[Array.setIfInBounds_comm _ _ hji];exact hW
theorem zkp{i:Nat}{oi:Oper}{v:Value}{fuel:Nat}{listed:Array Bool}{a:Act}{w:World}(hi:ops[i]?=some oi)
  (hs:Region.noSelect ops=true)(hf:Region.free md ops listed i=true)(hr:(Region.ready md ops listed).contains i=true)(hik:i≠k)
  (hQ:∀c a w,Q (.panic c) (a.put oi.dst v) w->Q (.panic c) a w)(hy:YieldsIf P ops S1 oi v a)(hS:S1 w/\S2 w)
  (h:wpG P md ops Q S1 S2 k fuel (listed.setIfInBounds i true) (a.put oi.dst v) w):wpG P md ops Q S1 S2 k (fuel+1) listed a w :=
 zoU hi (Region.noSelect_spec hs) hQ hik fuel listed a w (Region.free_spec hi hf) (by simpa using hr) hy hS.1 (fun _=>hS.2) h
theorem zth{i:Nat}{oi ok:Oper}{v:Value}{fuel:Nat}{listed:Array Bool}{a:Act}{w:World}(hi:ops[i]?=some oi)
  (hs:Region.noSelect ops=true)(hf:Region.free md ops listed i=true)(hr:(Region.ready md ops listed).contains i=true)(hik:i≠k)
  (hok:ops[k]?=some ok)(hwait:ok.after.any (fun e=>Region.binds md e&&e.on==i)=true)(hlk:listed.getD k true=false)
  (hQ:∀c a w,Q (.panic c) (a.put oi.dst v) w->Q (.panic c) a w)(hy:YieldsIf P ops S2 oi v a)(hS:S1 w/\S2 w)
  (h:wpG P md ops Q S1 S2 k fuel (listed.setIfInBounds i true) (a.put oi.dst v) w):wpG P md ops Q S1 S2 k (fuel+1) listed a w :=
 zsr hi (Region.noSelect_spec hs) hQ hik ⟨ok,hok,by
  obtain⟨i',hi',h'⟩:=Array.any_iff_exists.1 hwait;simp only[Bool.and_eq_true,beq_iff_eq]at h';exact⟨_,Array.getElem_mem _,h'.2.2.1,h'.2.2.2⟩⟩ fuel listed a w (Region.free_spec hi hf) (by simpa using hr) hy hS.1 ⟨hlk,hS.2⟩ h
theorem zxS{i:Nat}{o:Oper}{fuel:Nat}{listed:Array Bool}{a:Act}{w:World}(hr:Region.ready md ops listed=[i])(ho:ops[i]?=some o)
  (h:∀K':Act->World->Prop,Shut (∀a w,S1 w/\S2 w->wpG P md ops Q S1 S2 k fuel (listed.setIfInBounds i true) a w->K' a w)->if Region.wanted o (yielded ops a.tmps)=true then Oper.wp P o a w K' Q else K' (a.put o.dst undef) w) :
  wpG P md ops Q S1 S2 k (fuel+1) listed a w:=by
 refine⟨(fun h0=>by rw[hr]at h0;cases h0),fun j hj=>?_⟩;rw[hr]at hj;simp only[List.mem_singleton]at hj;subst hj;exact wpOp_step ho fun K' hK=>h K' fun a w hS hW=>hK a w ⟨⟨hS.1,fun _=>hS.2⟩,hW⟩
theorem zvG{i:Nat}{o:Oper}{fuel:Nat}{listed:Array Bool}{a:Act}{w:World}(hr:Region.ready md ops listed=[i])(ho:ops[i]?=some o)(hk:(listed.setIfInBounds i true).getD k true=true)
  (h:∀K':Act->World->Prop,Shut (∀a w,S1 w->wpG P md ops Q S1 S2 k fuel (listed.setIfInBounds i true) a w->K' a w)->if Region.wanted o (yielded ops a.tmps)=true then Oper.wp P o a w K' Q else K' (a.put o.dst undef) w) :
  wpG P md ops Q S1 S2 k (fuel+1) listed a w:=by
 refine⟨(fun h0=>by rw[hr]at h0;cases h0),fun j hj=>?_⟩;rw[hr]at hj;simp only[List.mem_singleton]at hj;subst hj;exact wpOp_step ho fun K' hK=>h K' fun a w hS hW=>hK a w ⟨⟨hS,fun h=>by rw[hk]at h;cases h⟩,hW⟩
theorem zvH{fuel:Nat}{listed:Array Bool}{a:Act}{w:World}(hr:Region.ready md ops listed=[])(h:Q .normal a w):wpG P md ops Q S1 S2 k fuel listed a w:=by
 cases fuel with
 | zero=>exact⟨hr,h⟩
 | succ fuel=>exact⟨fun _=>h,fun i hi=>by rw[hr]at hi;cases hi⟩
theorem zkk{id:Nat}{a:Act}{w:World}(S1 S2:World->Prop)(k:Nat)(hm:P.follows .mixedOrders=true)
  (h:wpG P .any ops Q S1 S2 k ops.size (Array.replicate ops.size false) a w.drew):(Code.region id ops true).wp P Q a w :=
 wp_region_any hm (zoW _ _ _ _ h)
end
section
variable {P:Program} {ops:Array Oper} {Q:Exit->Act->World->Prop} {md:Region.Mode} {S1 S2:World->Prop} {k:Nat}
def zrH(md:Region.Mode)(ops:Array Oper)(m p:Nat):Bool:=match ops[m]? with
 | some o=>o.after.any fun e=>Region.binds md e&&e.on==p
 | none=>false
def zpn(md:Region.Mode)(ops:Array Oper):Nat->List Nat->Bool
 | _,[]=>true
 | p,m::r=>zrH md ops m p&&zpn md ops m r
theorem zti{m p:Nat}(h:zrH md ops m p=true):∃o,ops[m]?=some o/\∃e∈o.after,Region.binds md e=true/\e.on=p:=by
 unfold zrH at h
 cases ho:ops[m]? with
 | none=>rw[ho]at h;cases h
 | some o =>
  rw[ho]at h;obtain⟨i',hi',h'⟩:=Array.any_iff_exists.1 h;simp only[Bool.and_eq_true,beq_iff_eq]at h';exact⟨o,rfl,_,Array.getElem_mem _,h'.2.2.1,h'.2.2.2⟩
theorem zqG:∀ {L:List Nat} {p:Nat},zpn md ops p L=true->∀m∈L,∃q,(q=p\/q∈L)/\zrH md ops m q=true
 | [],_,_,_,hm=>by cases hm
 | x::r,p,h,m,hm=>by
  simp only[zpn,Bool.and_eq_true]at h;rcases List.mem_cons.1 hm with rfl|hm
  ·exact⟨p,.inl rfl,h.1⟩
  ·obtain⟨q,hq,hw⟩:=zqG h.2 m hm;refine⟨q,.inr ?_,hw⟩;rcases hq with rfl|hq
   ·exact List.mem_cons_self ..
   ·exact List.mem_cons_of_mem _ hq
theorem zsq{i:Nat}{oi:Oper}{v:Value}(hi:ops[i]?=some oi)(hsel:∀(j:Nat) (o:Oper) cs b,ops[j]?=some o->o.op ≠ .select cs b)
  (hQ:∀c a w,Q (.panic c) (a.put oi.dst v) w->Q (.panic c) a w)(ms:List Nat)(hik:i ∉ ms++[k])(hch:zpn md ops i (ms++[k])=true) :
  ∀(fuel:Nat) (listed:Array Bool) (a:Act) (w:World),
   (∀j oj,ops[j]?=some oj->j≠i->listed.getD j true=false->(∀e∈oj.after,Region.binds md e=true->e.on≠i)->oi.apart ops oj=true) ->
   i∈Region.ready md ops listed->YieldsIf P ops S2 oi v a->S1 w->((∀m∈ms++[k],listed.getD m true=false)/\S2 w) ->
   wpG P md ops Q S1 S2 k fuel (listed.setIfInBounds i true) (a.put oi.dst v) w->wpG P md ops Q S1 S2 k (fuel+1) listed a w:=by
 have hik':i≠k:=fun e=>hik (by simp[e]);intro fuel
 induction fuel with
 | zero =>
  intro listed a w hfree hr hy hS1 HH H;refine⟨fun h=>(by rw[h]at hr;cases hr),fun j hj=>?_⟩;by_cases hji:j=i
  ·subst hji;exact hy.wpOp hi HH.2 ⟨⟨hS1,fun h=>HH.2⟩,H⟩
  ·have:=ready_mono hj hji;rw[H.1]at this
   cases this
 | succ fuel ih =>
  intro listed a w hfree hr hy hS1 HH H;refine⟨fun h=>(by rw[h]at hr;cases hr),fun j hj=>?_⟩;by_cases hji:j=i
  ·subst hji;exact hy.wpOp hi HH.2 ⟨⟨hS1,fun h=>HH.2⟩,H⟩
  ·have h1:=H.2 j (ready_mono hj hji);obtain⟨hjun,oj,hoj,hall⟩:=mem_ready.1 hj;have hun:∀p,listed.getD p true=false->∀e∈oj.after,Region.binds md e=true->e.on≠p:=fun p h0 e he hb heq=>by
    have h1:=hall e he hb;rw[heq]at h1;rcases Nat.lt_or_ge p listed.size with h'|h'
    ·simp[h']at h0 h1;rw[h0]at h1;cases h1
    ·simp[Array.getElem?_eq_none h']at h1
   have hnot:∀e∈oj.after,Region.binds md e=true->e.on≠i:=hun i (mem_ready.1 hr).1;have h2:=wpOp_putIf hoj (hfree j oj hoj hji hjun hnot) (fun cs b=>hsel i oi cs b hi) (fun cs b=>hsel j oj cs b hoj) hQ hy h1;have hfree':∀k ok,ops[k]?=some ok->k≠i->(listed.setIfInBounds j true).getD k true=false ->
     (∀e∈ok.after,Region.binds md e=true->e.on≠i)->oi.apart ops ok=true:=fun k ok hk hki hun hno=>by
    refine hfree k ok hk hki ?_ hno;by_cases hjk:j=k
    ·subst hjk;exact hjun
    ·rw[getD_set_ne true hjk]at hun;exact hun
   have hsame:((listed.setIfInBounds i true).setIfInBounds j true).getD k true=(listed.setIfInBounds j true).getD k true:=by
    rw[Array.setIfInBounds_comm _ _ (Ne.symm hji),getD_set_ne true hik']
   have hjm:∀m∈ms++[k],j≠m:=fun m hm e'=>by
    obtain⟨q,hq,hw⟩:=zqG hch m hm;obtain⟨om,yG,e,he,hb,heq⟩:=zti hw;rw[<-e',hoj]at yG;injection yG with yG;subst yG;refine hun q ?_ e he hb heq;rcases hq with rfl|hq
    ·exact(mem_ready.1 hr).1
    ·exact HH.1 q hq
   have au:∀m∈ms++[k],(listed.setIfInBounds j true).getD m true=false:=fun m hm=>by rw[getD_set_ne true (hjm m hm)];exact HH.1 m hm
   refine wpOp_mono (fun a' w' h3=>?_) h2;obtain⟨hy',⟨hs1,hs2⟩,hW⟩:=h3;have mV:=hs2 (by rw[hsame];exact au k (by simp));refine⟨⟨hs1,fun _=>mV⟩,ih (listed.setIfInBounds j true) a' w' hfree' (ready_mono hr (Ne.symm hji)) hy' hs1 ⟨au,mV⟩ ?_⟩;rw[Array.setIfInBounds_comm _ _ hji];exact hW
theorem ztg{i:Nat}{oi:Oper}{v:Value}{fuel:Nat}{listed:Array Bool}{a:Act}{w:World}(ms:List Nat)(hi:ops[i]?=some oi)
  (hs:Region.noSelect ops=true)(hf:Region.free md ops listed i=true)(hr:(Region.ready md ops listed).contains i=true)(hik:(ms++[k]).contains i=false)
  (hch:zpn md ops i (ms++[k])=true)(hlk:(ms++[k]).all (fun m => !listed.getD m true)=true)
  (hQ:∀c a w,Q (.panic c) (a.put oi.dst v) w->Q (.panic c) a w)(hy:YieldsIf P ops S2 oi v a)(hS:S1 w/\S2 w)
  (h:wpG P md ops Q S1 S2 k fuel (listed.setIfInBounds i true) (a.put oi.dst v) w):wpG P md ops Q S1 S2 k (fuel+1) listed a w :=
 zsq hi (Region.noSelect_spec hs) hQ ms (by simpa using hik) hch fuel listed a w (Region.free_spec hi hf) (by simpa using hr) hy hS.1 ⟨fun m hm=>by simpa using List.all_eq_true.1 hlk m hm,hS.2⟩ h
theorem ztf{i:Nat}{oi:Oper}{v:Value}{fuel:Nat}{listed:Array Bool}{a:Act}{w:World}(hi:ops[i]?=some oi)
  (hs:Region.noSelect ops=true)(hf:Region.free md ops listed i=true)(hr:(Region.ready md ops listed).contains i=true)(hik:i≠k)(hlk:listed.getD k true=true)
  (hQ:∀c a w,Q (.panic c) (a.put oi.dst v) w->Q (.panic c) a w)(hy:YieldsIf P ops S1 oi v a)(hS:S1 w)
  (h:wpG P md ops Q S1 S2 k fuel (listed.setIfInBounds i true) (a.put oi.dst v) w):wpG P md ops Q S1 S2 k (fuel+1) listed a w :=
 zoU hi (Region.noSelect_spec hs) hQ hik fuel listed a w (Region.free_spec hi hf) (by simpa using hr) hy hS (fun e=>by rw[hlk]at e;cases e) h
end
section
variable {P:Program} {ops:Array Oper} {Q:Exit->Act->World->Prop} {md:Region.Mode} {S1 S2:World->Prop} {k:Nat}
theorem zJ(i:Nat){oi ok:Oper}{v:Value}{fuel:Nat}{listed l':Array Bool}{a a':Act}{w:World}(hS:S1 w/\S2 w)(h:wpG P md ops Q S1 S2 k fuel l' a' w)(hi:ops[i]?=some oi:=by rfl)(hs:Region.noSelect ops=true:=by kernel_rfl)(hf:Region.free md ops listed i=true:=by kernel_rfl)(hr:(Region.ready md ops listed).contains i=true:=by kernel_rfl)(hik:i≠k:=by decide)(hok:ops[k]?=some ok:=by rfl)(hwait:ok.after.any (fun e=>Region.binds md e&&e.on==i)=true:=by kernel_rfl)(hlk:listed.getD k true=false:=by kernel_rfl)(hQ:∀c a w,Q (.panic c) (a.put oi.dst v) w->Q (.panic c) a w:=by exact fun _ _ _ h=>h)(hy:YieldsIf P ops S2 oi v a:=by (refine Or.inl ⟨by rfl,?_⟩;intro w hSw;(try dsimp only at hSw);(try simp only[zA,zB,zC]);go_simp;(try with_reducible rfl)))(ha:a.put oi.dst v=a':=by ((try simp only[zQ]);(try with_reducible rfl)))(hl:listed.setIfInBounds i true=l':=by ((try simp only[zQ]);(try with_reducible rfl))):wpG P md ops Q S1 S2 k (fuel+1) listed a w:=by subst ha hl;exact zth hi hs hf hr hik hok hwait hlk hQ hy hS h
theorem zL(i:Nat){oi:Oper}{v:Value}{fuel:Nat}{listed l':Array Bool}{a a':Act}{w:World}(ms:List Nat)(hS:S1 w/\S2 w)(h:wpG P md ops Q S1 S2 k fuel l' a' w)(hi:ops[i]?=some oi:=by rfl)(hs:Region.noSelect ops=true:=by kernel_rfl)(hf:Region.free md ops listed i=true:=by kernel_rfl)(hr:(Region.ready md ops listed).contains i=true:=by kernel_rfl)(hik:(ms++[k]).contains i=false:=by decide)(hch:zpn md ops i (ms++[k])=true:=by kernel_rfl)(hlk:(ms++[k]).all (fun m => !listed.getD m true)=true:=by kernel_rfl)(hQ:∀c a w,Q (.panic c) (a.put oi.dst v) w->Q (.panic c) a w:=by exact fun _ _ _ h=>h)(hy:YieldsIf P ops S2 oi v a:=by (refine Or.inl ⟨by rfl,?_⟩;intro w hSw;(try dsimp only at hSw);(try simp only[zA,zB,zC]);go_simp;(try with_reducible rfl)))(ha:a.put oi.dst v=a':=by ((try simp only[zQ]);(try with_reducible rfl)))(hl:listed.setIfInBounds i true=l':=by ((try simp only[zQ]);(try with_reducible rfl))):wpG P md ops Q S1 S2 k (fuel+1) listed a w:=by subst ha hl;exact ztg ms hi hs hf hr hik hch hlk hQ hy hS h
theorem zM(i:Nat){oi:Oper}{v:Value}{fuel:Nat}{listed l':Array Bool}{a a':Act}{w:World}(hS:S1 w)(h:wpG P md ops Q S1 S2 k fuel l' a' w)(hi:ops[i]?=some oi:=by rfl)(hs:Region.noSelect ops=true:=by kernel_rfl)(hf:Region.free md ops listed i=true:=by kernel_rfl)(hr:(Region.ready md ops listed).contains i=true:=by kernel_rfl)(hik:i≠k:=by decide)(hlk:listed.getD k true=true:=by kernel_rfl)(hQ:∀c a w,Q (.panic c) (a.put oi.dst v) w->Q (.panic c) a w:=by exact fun _ _ _ h=>h)(hy:YieldsIf P ops S1 oi v a:=by (refine Or.inl ⟨by rfl,?_⟩;intro w hSw;(try dsimp only at hSw);(try simp only[zA,zB,zC]);go_simp;(try with_reducible rfl)))(ha:a.put oi.dst v=a':=by ((try simp only[zQ]);(try with_reducible rfl)))(hl:listed.setIfInBounds i true=l':=by ((try simp only[zQ]);(try with_reducible rfl))):wpG P md ops Q S1 S2 k (fuel+1) listed a w:=by subst ha hl;exact ztf hi hs hf hr hik hlk hQ hy hS h
theorem zG{id:Nat}{a:Act}{w:World}(hS:zW S1 S2 w.drew)(k:Nat)(h:wpG P .any ops Q S1 S2 k ops.size (Array.replicate ops.size false) a w.drew)(hm:P.follows .mixedOrders=true:=by kernel_rfl):(Code.region id ops true).wp P Q a w:=zkk S1 S2 k hm h
end
section
variable {P:Program} {ops:Array Oper} {Q:Exit->Act->World->Prop} {md:Region.Mode} {S1 S2:World->Prop} {k:Nat}
theorem zT(i:Nat){oi:Oper}{v:Value}{fuel:Nat}{listed l':Array Bool}{a a':Act}{w:World}(hS:S1 w/\S2 w)(h:wpG P md ops Q S1 S2 k fuel l' a' w)(hi:ops[i]?=some oi:=by rfl)(hs:Region.noSelect ops=true:=by kernel_rfl)(hf:Region.free md ops listed i=true:=by kernel_rfl)(hr:(Region.ready md ops listed).contains i=true:=by kernel_rfl)(hik:i≠k:=by decide)(hQ:∀c a w,Q (.panic c) (a.put oi.dst v) w->Q (.panic c) a w:=by exact fun _ _ _ h=>h)(hy:YieldsIf P ops S1 oi v a:=by (refine Or.inl ⟨by rfl,?_⟩;intro w hSw;(try dsimp only at hSw);(try simp only[zA,zB,zC]);go_simp;(try with_reducible rfl)))(ha:a.put oi.dst v=a':=by ((try simp only[zQ]);(try with_reducible rfl)))(hl:listed.setIfInBounds i true=l':=by ((try simp only[zQ]);(try with_reducible rfl))):wpG P md ops Q S1 S2 k (fuel+1) listed a w:=by subst ha hl;exact zkp hi hs hf hr hik hQ hy hS h
theorem zp(i:Nat){o:Oper}{fuel:Nat}{listed:Array Bool}{a:Act}{w:World}(h:∀K':Act->World->Prop,Shut (∀a w,S1 w->wpG P md ops Q S1 S2 k fuel (listed.setIfInBounds i true) a w->K' a w)->if Region.wanted o (yielded ops a.tmps)=true then Oper.wp P o a w K' Q else K' (a.put o.dst undef) w)(hr:Region.ready md ops listed=[i]:=by kernel_rfl)(ho:ops[i]?=some o:=by rfl)(hk:(listed.setIfInBounds i true).getD k true=true:=by kernel_rfl):wpG P md ops Q S1 S2 k (fuel+1) listed a w:=zvG hr ho hk h
theorem zo(i:Nat){o:Oper}{fuel:Nat}{listed:Array Bool}{a:Act}{w:World}(h:∀K':Act->World->Prop,Shut (∀a w,S1 w/\S2 w->wpG P md ops Q S1 S2 k fuel (listed.setIfInBounds i true) a w->K' a w)->if Region.wanted o (yielded ops a.tmps)=true then Oper.wp P o a w K' Q else K' (a.put o.dst undef) w)(hr:Region.ready md ops listed=[i]:=by kernel_rfl)(ho:ops[i]?=some o:=by rfl):wpG P md ops Q S1 S2 k (fuel+1) listed a w:=zxS hr ho h
theorem zd{fuel:Nat}{listed:Array Bool}{a:Act}{w:World}(h:Q .normal a w)(hr:Region.ready md ops listed=[]:=by kernel_rfl):wpG P md ops Q S1 S2 k fuel listed a w:=zvH hr h
end
end
section
open Go.RowKit
def mapR(F:T->T)(r:PR):PR:=⟨r.s,r.ps,F r.b⟩
def zkK(p:PG):PG:=⟨p.vs,p.prs.map (mapR id),inv false p.m⟩
theorem zyz:IsFn prog 66 f66:=⟨func66,by kernel_rfl,by kernel_rfl⟩
def NewB(w:World)(t:T)(v:Value)(w':World):Prop:=∃A c,v=nv t.k t.n t.s A t.ks.length c/\NV w' (From w.heap.size) t (nv t.k t.n t.s A t.ks.length c)/\Below w.heap.size w w'
theorem zt0{P:Program}{f:FuncId}{args:Array Value}{w:World}{t:T}(h:Calls P f args w (zpW w t)):Calls P f args w fun e w'=>∃v,e=.returned v/\NewB w t v w' :=
 h.mono fun e _ ⟨k,n,s,A,l,c,he,hn,hb⟩=>by
  obtain⟨A6,c6,e6,_⟩:=hn.open_;exact⟨_,he,A6,c6,e6,by rw[<-e6];exact hn,hb⟩
def NewL(w:World)(vs:List VD)(L:Nat)(e:Ending)(w':World):Prop:=∃A' c',e=.returned (.slice A' L c')/\RowV w' (From w.heap.size) A' vs/\vs.length<=c'/\Below w.heap.size w w'
def zKI(w:World)(vs:List VD)(L:Nat)(v:Value)(w':World):Prop:=∃A' c',v=.slice A' L c'/\RowV w' (From w.heap.size) A' vs/\vs.length<=c'/\Below w.heap.size w w'
theorem zwh{P:Program}{f:FuncId}{args:Array Value}{w:World}{vs:List VD}{L:Nat}(h:Calls P f args w (NewL w vs L)):Calls P f args w fun e w'=>∃v,e=.returned v/\zKI w vs L v w' :=
 h.mono fun _ _ ⟨A,c,he,hn⟩=>⟨_,he,A,c,rfl,hn⟩
theorem zwJ:IsFn prog 101 f101:=⟨func101,by kernel_rfl,by kernel_rfl⟩
theorem zqt(p:PG)(S0:Nat->Prop)(v:Value)(w:World)(hv:PV w S0 p v)(hval:zkA p=true)(hokm:okT p.m)(hlen:p.prs.length<=64) :
  Calls prog 65 #[v,.func (.func 66) #[] #[],.bool false] w fun e w'=>∃v',e=.returned (.tuple #[v',.int .i64 0])/\PV w' (From w.heap.size) (zkK p) v'/\Below w.heap.size w w':=by
 obtain⟨i0,hi0,hz0,hz1,hz2⟩:=info_parts zzv;have hv':=hv;obtain⟨A1,c1,A2,c2,A3,c3,rfl,hr⟩:=hv;have HR:=zh hr;have hmm:=hr.main;obtain⟨L1,hL1⟩:=zX (p.vs.length);obtain⟨L2,hL2⟩:=zX (p.prs.length);obtain⟨k,hk⟩:=zX (p.m.k);obtain⟨n,hn⟩:=zX (p.m.n);obtain⟨s,hs⟩:=zX (p.m.s);obtain⟨l3,hl3⟩:=zX (p.m.ks.length);rw[hk,hn,hs,hl3]at hmm;rw[hL2]at hlen;rw[hL1,hL2,hk,hn,hs,hl3];rw[hL1,hL2,hk,hn,hs,hl3]at hv';have lu:=zh hL1;have HL2:=zh hL2;have Cj:=zh hmm;have HV:=zh hv';have aZ:=zh (And.intro hval hokm);clear hr hmm hL1 hL2 hk hn hs hl3 hv' hval hokm;have hb38:=zyY;have q0:∀o o',Below w.heap.size w ((w.alloc o).alloc o'):=fun o o'=>(zr.alloc zl _).alloc (by simp) _;go_enter func65,ntmps65;go_wp2_with fail;refine(zlz p S0 _ _ (HV.out.later (q0 _ _))).mono ?_;rintro e w1 ⟨rfl,aa⟩;rw[aZ.out.1]
 have bL:=zh (show Below (w.heap.size+2) ((w.alloc (.cells #[.slice A1 L1 c1,.slice A2 L2 c2,.int .u8 k,.int .i64 n,.string s,.slice A3 l3 c3] 30)).alloc (.cells ZP 30)) w1 by simpa using aa);clear aa q0;have hz1:w.heap.size+2<=w1.heap.size:=by have:=bL.out.size;simpa using this
 have hq:Below (w.heap.size+2) ((w.alloc (.cells #[.slice A1 L1 c1,.slice A2 L2 c2,.int .u8 k,.int .i64 n,.string s,.slice A3 l3 c3] 30)).alloc (.cells ZP 30)) w1:=bL.out;have hbl:Below w.heap.size w w1:=((zr.alloc zl _).alloc (by simp) _).trans (hq.mono (by omega));have kU:w1.heap[w.heap.size]?=some (.cells #[.slice A1 L1 c1,.slice A2 L2 c2,.int .u8 k,.int .i64 n,.string s,.slice A3 l3 c3] 30 (0,0)):=by
  rw[hq.block _ (by omega),Below.heap_alloc _ _ _ (by simp)];exact heap_alloc_new w _
 have hzc:w.heap.size+2<=w1.heap.size:=hz1;have bT:=zh (show ∀w',Below w1.heap.size w1 w'->(w'.cell? ⟨w.heap.size,0,none⟩=some (.slice A1 L1 c1)/\w'.cell? ⟨w.heap.size,2,none⟩=some (.int .u8 k)/\w'.cell? ⟨w.heap.size,3,none⟩=some (.int .i64 n)/\w'.cell? ⟨w.heap.size,4,none⟩=some (.string s)/\w'.cell? ⟨w.heap.size,5,none⟩=some (.slice A3 l3 c3))from
  fun w' h=>⟨zb h (zc kU rfl),zb h (zc kU rfl),zb h (zc kU rfl),zb h (zc kU rfl),zb h (zc kU rfl)⟩)
 have HQ:=zh hq;have af:=zh hbl;obtain⟨B0,hB0⟩:=zX (inv false p.m);have HB0:=zh hB0;have kC:=zh (show ∀W,Below w1.heap.size w1 W->Calls prog 101 #[.slice A1 L1 c1] W (NewL W p.vs L1)from fun W h=>by
  have:=zps p.vs A1 c1 S0 W ((HR.out.vars.later af.out).later h) HR.out.lv;rw[lu.out]at this;exact this.mono fun e w' ⟨A',c',h1,h2,h3,h4⟩=>⟨A',c',by rw[h1,lu.out],h2,h3,h4⟩)
 have HCM:=zh (show ∀W,Below w1.heap.size w1 W->Calls prog 102 #[nv k n s A3 l3 c3,.bool false] W fun e w'=>∃A c,e=.returned (nv B0.k B0.n B0.s A B0.ks.length c)/\NV w' (From W.heap.size) B0 (nv B0.k B0.n B0.s A B0.ks.length c)/\Below W.heap.size W w' from fun W h=>by
  rw[<-HB0.out];exact(zt0 (zsL false p.m _ _ ((Cj.out.later af.out).later h).any aZ.out.2)).mono fun e w' ⟨v,h1,A,c,h2,h3⟩=>⟨A,c,by rw[h1,h2],h3⟩)
 have hp0:Pq w1 w1 30 none none none:=Pq.start w1 _;clear hq hbl kU hB0 hz1 bL;go_upto_region 3 with fail
 go_cut [8] (fun s4 wx=>∃(g:Nat) (A4:Option Addr) (c4:Nat) (A5:Option Addr) (c5:Nat),s4=.pointer (some ⟨g,0,none⟩)/\p.vs.length<=c4/\PI w wx 30 100 (.cells #[.slice A1 L1 c1,.slice A2 L2 c2,.int .u8 k,.int .i64 n,.string s,.slice A3 l3 c3] 30) (fun b=>w.heap.size+2<=b/\b≠g) g A4 L1 c4 B0.k B0.n B0.s A5 B0.ks.length c5 (.slice none 0 0) p.vs B0 [])
 case first =>
  clear HV aZ HR Cj af HB0 hlen lu HL2;have aH:=zh (bT.out _ hp0.drew.low);have HK0l:=zh (bT.out _ hp0.lay.drew.low)
  go_region_held3 (fun w'=>(w'.cell? ⟨w.heap.size,0,none⟩=some (.slice A1 L1 c1)/\w'.cell? ⟨w.heap.size,2,none⟩=some (.int .u8 k)/\w'.cell? ⟨w.heap.size,3,none⟩=some (.int .i64 n)/\w'.cell? ⟨w.heap.size,4,none⟩=some (.string s)/\w'.cell? ⟨w.heap.size,5,none⟩=some (.slice A3 l3 c3)))
   (first|with_reducible exact fH.out|with_reducible exact HK3s.out _ _ _ _ _ _|with_reducible exact HK3a.out _|with_reducible exact aQ.out|with_reducible exact HK2l.out|with_reducible exact aH.out|with_reducible exact HK0l.out)
   (first
    | (go_at_call 101;refine(kC.out _ (by first|with_reducible exact hp0.drew.low|with_reducible exact hp0.lay.drew.low)).mono ?_;rintro e w2 ⟨A4,c4,rfl,hr4,hc4,iX⟩;first|((with_reducible have hpv:=Pq.putV (w:=w1) (b:=none) hp0.drew hr4 iX);have aQ:=zh (bT.out _ hpv.low);have HK2l:=zh (bT.out _ hpv.lay.low))|((with_reducible have hpv:=Pq.putV (w:=w1) hp0.lay.drew hr4 iX);have aQ:=zh (bT.out _ hpv.low)))
    | (go_at_call 102;refine(HCM.out _ (by first|with_reducible exact hpv.low|with_reducible exact hpv.lay.low)).mono ?_;rintro e3 w3 ⟨A5,c5,rfl,Bh,dU⟩;first|((with_reducible have hpq:=Pq.putM (w:=w1) (b:=none) hpv Bh dU);have fH:=zh (bT.out _ hpq.low);have HK3a:=zh (fun o=>bT.out _ (hpq.alloc o).low))|((with_reducible have hpq:=Pq.putM (w:=w1) hpv Bh dU);have hbx:=(hpq.box _ rfl).2;have e0:w3.cell? ⟨_,0,none⟩=some (.slice none 0 0):=zc hbx rfl;have e1:w3.cell? ⟨_,1,none⟩=some (.slice none 0 0):=zc hbx rfl;have e2:w3.cell? ⟨_,2,none⟩=some (.int .u8 0):=zc hbx rfl;have e3:w3.cell? ⟨_,3,none⟩=some (.int .i64 0):=zc hbx rfl;have e4:w3.cell? ⟨_,4,none⟩=some (.string ⟨#[]⟩):=zc hbx rfl;have e5:w3.cell? ⟨_,5,none⟩=some (.slice none 0 0):=zc hbx rfl;have ef:=fun i=>zf (i:=i) hbx;clear hbx;have fH:=zh (bT.out _ hpq.low);have HK3s:=zh (fun u0 u1 u2 u3 u4 u5=>bT.out _ (hpq.set6 u0 u1 u2 u3 u4 u5)))|((with_reducible have hpq:=Pq.putM (w:=w1) hpv.lay Bh dU);have hbx:=(hpq.box _ rfl).2;have e0:w3.cell? ⟨_,0,none⟩=some (.slice none 0 0):=zc hbx rfl;have e1:w3.cell? ⟨_,1,none⟩=some (.slice none 0 0):=zc hbx rfl;have e2:w3.cell? ⟨_,2,none⟩=some (.int .u8 0):=zc hbx rfl;have e3:w3.cell? ⟨_,3,none⟩=some (.int .i64 0):=zc hbx rfl;have e4:w3.cell? ⟨_,4,none⟩=some (.string ⟨#[]⟩):=zc hbx rfl;have e5:w3.cell? ⟨_,5,none⟩=some (.slice none 0 0):=zc hbx rfl;have ef:=fun i=>zf (i:=i) hbx;clear hbx;have fH:=zh (bT.out _ hpq.low);have HK3s:=zh (fun u0 u1 u2 u3 u4 u5=>bT.out _ (hpq.set6 u0 u1 u2 u3 u4 u5))))
    | fail)
  all_goals (go_wp2_with fail;go_meet)
  ·exact⟨_,A4,c4,A5,c5,rfl,hc4,hpq.done2 HQ.out⟩
  ·exact⟨_,A4,c4,A5,c5,rfl,hc4,hpq.done HQ.out⟩
  ·exact⟨_,A4,c4,A5,c5,rfl,hc4,hpq.done HQ.out⟩
 case rest =>
  obtain⟨g,A4,c4,A5,c5,rfl,hc4,hpi⟩:=hcut;clear bT HQ Cj hb38 kC HCM hp0 HV aZ;have bq:=zh hc4;clear hc4;have pX:=zyT;have hb58:=zyX;have aw:wc.cell? ⟨w.heap.size,1,none⟩=some (.slice A2 L2 c2):=zc hpi.arg rfl;go_wp2_with fail
  go_loopw [26] (fun i wr=>∃(j:Nat) (A':Option Addr) (c':Nat),j<=L2/\i=.int .i64 j/\PI w wr 30 100 (.cells #[.slice A1 L1 c1,.slice A2 L2 c2,.int .u8 k,.int .i64 n,.string s,.slice A3 l3 c3] 30) (fun b=>w.heap.size+2<=b/\b≠g) g A4 L1 c4 B0.k B0.n B0.s A5 B0.ks.length c5 (.slice A' j c') p.vs B0 ((p.prs.take j).map (mapR id))) (fun i _=>L2-(intOf i).toNat)
  case atStart=>exact⟨0,none,0,Nat.zero_le _,rfl,hpi⟩
  case round =>
   obtain⟨j,A',c',hj,rfl,hs⟩:=hrel;clear hpi aw;by_cases hlt:j<L2
   ·have ed:j<p.prs.length:=by rw[HL2.out];exact hlt
    obtain⟨a,r,P1,d1,P2,d2,rfl,_,Hr,⟨q0,q1,q2,q3,q4,q5⟩,hpr⟩:=(HR.out.procs.later hs.below).nd ed;have g1:wr.cell? ⟨g,1,none⟩=some (.slice A' j c'):=zc hs.box rfl;have hsz:=hs.size;have hge:=hs.ge;have hgl:g<wr.heap.size:=zkf hs.box;have HT:=zh (show(p.prs.take j).map (mapR id)++[mapR id r]=(p.prs.take (j+1)).map (mapR id) by rw[List.take_succ_eq_append_getElem ed,Hr.out];simp);have HT1:=zh (show ∀x:PR,((p.prs.take j).map (mapR id)++[x]).length=j+1 from fun x=>by simp;omega);have hlen1:((p.prs.take j).map (mapR id)).length+1<=1000:=by simp;omega
    obtain⟨B,hB⟩:=zX (id r.b);have HB:=zh hB;obtain⟨rl,hrl⟩:=zX (r.ps.length);obtain⟨rk,gX⟩:=zX (r.b.k);obtain⟨rn,hrn⟩:=zX (r.b.n);obtain⟨rs,hrs⟩:=zX (r.b.s);obtain⟨rm,hrm⟩:=zX (r.b.ks.length);have hbd:=hpr.body;rw[hrl]at q1;rw[gX]at q2;rw[hrn]at q3;rw[hrs]at q4;rw[hrm]at q5;rw[gX,hrn,hrs,hrm]at hbd;have lV:=zh hrl;have cB:=zh hbd;have cz:=zh hpr;clear hB hpr hbd hrl gX hrn hrs hrm;go_upto_region 7 with fail;obtain⟨Wb,kW⟩:=zX (wr.alloc (.cells #[.string r.s,.slice P1 rl d1,.int .u8 rk,.int .i64 rn,.string rs,.slice P2 rm d2] 100));rw[kW];have hbb:Below wr.heap.size wr Wb:=by rw[<-kW];exact zr.alloc zl _
    have hpb:Wb.heap[wr.heap.size]?=some (.cells #[.string r.s,.slice P1 rl d1,.int .u8 rk,.int .i64 rn,.string rs,.slice P2 rm d2] 100 (0,0)):=by rw[<-kW];exact heap_alloc_new wr _
    have hzb:Wb.heap.size=wr.heap.size+1:=by rw[<-kW];simp
    have BN:Wb.cell? ⟨g,1,none⟩=some (.slice A' j c'):=zb hbb g1;have HS2:=zh (show ∀w':World,w'.heap[wr.heap.size]?=Wb.heap[wr.heap.size]?->(w'.cell? ⟨wr.heap.size,0,none⟩=some (.string r.s)/\w'.cell? ⟨wr.heap.size,1,none⟩=some (.slice P1 rl d1)/\w'.cell? ⟨wr.heap.size,2,none⟩=some (.int .u8 rk)/\w'.cell? ⟨wr.heap.size,3,none⟩=some (.int .i64 rn)/\w'.cell? ⟨wr.heap.size,4,none⟩=some (.string rs)/\w'.cell? ⟨wr.heap.size,5,none⟩=some (.slice P2 rm d2))from
     fun w' h=>have h':=h.trans hpb;⟨zc h' rfl,zc h' rfl,zc h' rfl,zc h' rfl,zc h' rfl,zc h' rfl⟩)
    have yZ:=zh (show ∀w':World,Below Wb.heap.size Wb w'->(w'.cell? ⟨wr.heap.size,0,none⟩=some (.string r.s)/\w'.cell? ⟨wr.heap.size,1,none⟩=some (.slice P1 rl d1)/\w'.cell? ⟨wr.heap.size,2,none⟩=some (.int .u8 rk)/\w'.cell? ⟨wr.heap.size,3,none⟩=some (.int .i64 rn)/\w'.cell? ⟨wr.heap.size,4,none⟩=some (.string rs)/\w'.cell? ⟨wr.heap.size,5,none⟩=some (.slice P2 rm d2))from
     fun w' h=>HS2.out w' (h.block _ (by omega)))
    have hlb:=hs.below.trans (hbb.mono (by omega));have kC:=zh (show ∀W,Below Wb.heap.size Wb W->Calls prog 101 #[.slice P1 rl d1] W (NewL W r.ps rl)from fun W h=>by
     have:=zps r.ps P1 d1 S0 W ((cz.out.row.later hbb).later h) cz.out.lp;rw[lV.out]at this;exact this.mono fun e w' ⟨A',c',h1,h2,h3,h4⟩=>⟨A',c',by rw[h1,lV.out],h2,h3,h4⟩)
    have HCM:=zh (show ∀W,Below Wb.heap.size Wb W->Calls prog 66 #[nv rk rn rs P2 rm d2] W fun e w'=>∃v,e=.returned v/\NewB W B v w' from fun W h=>by
     rw[<-HB.out];exact zt0 (znm r.b _ _ ((cB.out.later hbb).later h).any))
    have qo:=zh (show ∀b,Wb.heap.size<=b/\(none:Option Nat)≠some b->(w.heap.size+2<=b/\b≠g)/\some b≠(Value.slice A' j c').ownBlock from fun b hb=>⟨⟨by omega,by omega⟩,fun e=>by have:=hs.own.block b e.symm;omega⟩);have qw:=zh (show some wr.heap.size≠(Value.slice A' j c').ownBlock from fun e=>by have:=hs.own.block _ e.symm;omega);have kr:=zh (hs.later hbb);have hp0:Pq Wb Wb 30 none none none:=Pq.start Wb _;have kX:=zh hzb;clear hs kW hbb hpb hlb q0 q1 q2 q3 q4 q5 g1 hzb;have hne:¬ wr.heap.size=g:=by omega
    have hne':¬ g=wr.heap.size:=by omega
    -- region 8 begins
    have hSS:(fun w':World=>(zN6 w' wr.heap.size (.string r.s) (.slice P1 rl d1) (.int .u8 rk) (.int .i64 rn) (.string rs) (.slice P2 rm d2))) Wb.drew/\(fun w':World=>zv w' g 1 (.slice A' j c')) Wb.drew:=⟨yZ.out _ hp0.drew.low,BN⟩
    refine wp_region_noPanic ?_;refine zkk (fun w':World=>(zN6 w' wr.heap.size (.string r.s) (.slice P1 rl d1) (.int .u8 rk) (.int .i64 rn) (.string rs) (.slice P2 rm d2))) (fun w':World=>zv w' g 1 (.slice A' j c')) 13 (by kernel_rfl) ?_;refine zT 0 hSS ?_;refine zJ 1 hSS ?_;refine zT 2 hSS ?_;refine zT 3 hSS ?_;refine zT 4 hSS ?_;refine zT 5 hSS ?_;refine zT 7 hSS ?_;refine zT 8 hSS ?_;refine zT 9 hSS ?_;refine zo 6 fun K hK=>?_;refine zl2 (by rfl) (.func 101) (.tmp 35) _ (by rfl) 101 _ zwJ (by rfl) _ (by rfl) _ (zwh (kC.out _ hp0.drew.low)) ?_;rintro v2 w2 ⟨A6,c6,rfl,dx,hc6,bw6⟩;have hpv:=Pq.putV (w:=Wb) hp0.drew dx bw6;have aC:(fun w':World=>(zN6 w' wr.heap.size (.string r.s) (.slice P1 rl d1) (.int .u8 rk) (.int .i64 rn) (.string rs) (.slice P2 rm d2))) w2/\(fun w':World=>zv w' g 1 (.slice A' j c')) w2:=⟨yZ.out _ hpv.low,zb hpv.low BN⟩
    refine hK.out _ _ aC ?_;clear hK K hSS;(try simp only[zQ]);refine zo 10 fun K hK=>?_;refine zl2 (by rfl) (.tmp 37) (.tmp 39) _ (by rfl) 66 _ zyz (by rfl) _ (by rfl) _ (HCM.out _ hpv.low) ?_;rintro v3 w3 ⟨A7,c7,rfl,pq,bw7⟩;have hpq:=Pq.putM (w:=Wb) hpv pq bw7;have BM:w3.cell? ⟨g,1,none⟩=some (.slice A' j c'):=zb hpq.low BN;have aV:(fun w':World=>(zN6 w' wr.heap.size (.string r.s) (.slice P1 rl d1) (.int .u8 rk) (.int .i64 rn) (.string rs) (.slice P2 rm d2))) w3/\(fun w':World=>zv w' g 1 (.slice A' j c')) w3:=⟨yZ.out _ hpq.low,BM⟩
    have hs3:=kr.out.later hpq.low;have hpr3:PrR w3 (fun b=>(w.heap.size+2<=b/\b≠g)/\some b≠(Value.slice A' j c').ownBlock) ⟨r.s,r.ps,B⟩ A6 c6 A7 c7:=⟨cz.out.name,(hpq.vars _ _ rfl).mono qo.out,cz.out.lp,hc6,(hpq.main _ _ rfl).mono qo.out⟩
    refine hK.out _ _ aV ?_;clear hK K aC;(try simp only[zQ]);refine zT 11 aV ?_;refine zo 12 fun K hK=>?_;(try simp only[zA,zB,zC]);go_simp;refine hK.out _ _ ⟨yZ.out _ (hpq.alloc _).low,zkj BM _⟩ ?_;clear hK K aV;(try simp only[zQ]);refine zp 13 fun K hK=>?_;refine znt (by rfl) (.tmp 31) (.tmp 42) 25 (by rfl) 100 i0 _ underlying25 hi0 hz0 hz1 hz2 rfl (w.heap.size+2) (fun b=>w.heap.size+2<=b/\b≠g) (.slice A' j c') _ (by rfl) hs3.own ⟨r.s,r.ps,B⟩ rl lV.out A6 c6 A7 c7 (by rfl) hpr3 hlen1 hs3.size ?_;intro v8 w4 hown2 hg2 jr;obtain⟨A8,c8,AL,_,_⟩:=hown2.row;rw[HT1.out]at AL;have hne2:v8.ownBlock≠some g:=(fun e=>by rcases jr with h|⟨b,h,h'⟩;rw[h]at e;exact hs3.ne e;rw[h]at e;injection e with e;have:=hpq.low.size;have:=kX.out;omega)
    have hst:=hs3.put hown2 hg2 hne2 jr;have hbx:=(hg2.block _ (zkf hs3.box) (fun e=>hs3.ne e.symm)).trans hs3.box;have hy0:w4.cell? ⟨g,1,none⟩=some (.slice A' j c'):=zc hbx rfl;have hy1:w4.frozen? ⟨g,1,none⟩=false:=zf hbx;have hkb:=(hg2.block _ (by have:=hpq.low.size;have:=kX.out;omega) qw.out).trans (hpq.low.block _ (by have:=kX.out;omega));have gP:=zh (HS2.out _ hkb);have fO:=zh (HS2.out _ ((Below.heap_setCell w4 ⟨g,1,none⟩ v8 _ hne).trans hkb));rw[AL]at hst fO;have HST:=zh hst;clear hst hne2 hkb hbx hg2 jr hown2;rw[AL];refine hK.out _ _ gP.out ?_;clear hK K hpr3 hs3 hpq hpv bw6 bw7 pq dx BM;(try simp only[zQ]);refine zp 14 fun K hK=>?_;(try simp only[zA,zB,zC]);go_simp;refine hK.out _ _ gP.out ?_;clear hK K;(try simp only[zQ]);refine zp 15 fun K hK=>?_;(try simp only[zA,zB,zC]);go_simp;refine hK.out _ _ fO.out ?_;clear hK K;(try simp only[zQ]);refine zd ?_
    refine NoPanic.normal ?_
    -- region 8 ends
    all_goals
     go_wp2_with fail
     go_roundw
     case rel =>
      have h1:=HST.out;have e2:=HT.out;have e3:mapR id r=⟨r.s,r.ps,B⟩:=by unfold mapR;rw[HB.out]
      rw[e3]at e2;rw[e2]at h1;exact⟨j+1,A8,c8,by omega,by go_num,h1⟩
     case measure=>simp[intOf];omega
   ·obtain rfl:j=L2:=by omega
    rw[List.take_of_length_le (by rw[HL2.out];omega)]at hs;have g0:wr.cell? ⟨g,0,none⟩=some (.slice A4 L1 c4):=zc hs.box rfl;have g1:wr.cell? ⟨g,1,none⟩=some (.slice A' j c'):=zc hs.box rfl;have g2:wr.cell? ⟨g,2,none⟩=some (.int .u8 B0.k):=zc hs.box rfl;have g3:wr.cell? ⟨g,3,none⟩=some (.int .i64 B0.n):=zc hs.box rfl;have g4:wr.cell? ⟨g,4,none⟩=some (.string B0.s):=zc hs.box rfl;have g5:wr.cell? ⟨g,5,none⟩=some (.slice A5 B0.ks.length c5):=zc hs.box rfl;have r0:wr.cell? ⟨w.heap.size+1,0,none⟩=some (.slice none 0 0):=zc hs.res rfl;have r1:wr.cell? ⟨w.heap.size+1,1,none⟩=some (.slice none 0 0):=zc hs.res rfl;have r2:wr.cell? ⟨w.heap.size+1,2,none⟩=some (.int .u8 0):=zc hs.res rfl;have r3:wr.cell? ⟨w.heap.size+1,3,none⟩=some (.int .i64 0):=zc hs.res rfl;have r4:wr.cell? ⟨w.heap.size+1,4,none⟩=some (.string ⟨#[]⟩):=zc hs.res rfl
    have r5:wr.cell? ⟨w.heap.size+1,5,none⟩=some (.slice none 0 0):=zc hs.res rfl;have rz:∀i,wr.frozen? ⟨w.heap.size+1,i,none⟩=false:=fun i=>zf hs.res;have HRES:=zh (hs.result (A2:=A') (l2:=j) (c2:=c') rfl lu.out.symm HR.out.lv bq.out (From w.heap.size) (fun b hb=>by show w.heap.size<=b;omega) (fun b hb=>by show w.heap.size<=b;omega));have dX:=zh (show zkK p=⟨p.vs,p.prs.map (mapR id),B0⟩ by unfold zkK;rw[HB0.out]);clear hs;go_wp2_with fail;exact bodyPost_ret (v:=.tuple #[pv A4 L1 c4 A' j c' B0.k B0.n B0.s A5 B0.ks.length c5,.int .i64 0]) (by simp[results,results65,go_sem,r0,r1,r2,r3,r4,r5]) rfl ⟨_,rfl,by rw[dX.out];exact HRES.out.1,HRES.out.2⟩
end
section
open Go Go.RowKit
def numI(b:Bool):Int:=if b then 1 else 0
theorem zkI(b:Bool)(w:World):Calls prog 191 #[.bool b] w fun e w'=>e=.returned (.int .i64 (numI b))/\w'=w:=by
 cases b
 ·go_enter func191,ntmps191;go_wp2_with fail;go_ret;exact⟨rfl,rfl⟩
 ·go_enter func191,ntmps191;go_wp2_with fail;go_ret;exact⟨rfl,rfl⟩
def divE(k x y:Int):Int×Int:=if y=0 then(0,11)else if k=11 then(wrap64 (x.tdiv y),0)else(x.tmod y,0)
theorem zpl(k x y:Int)(w:World):Calls prog 192 #[.int .u8 k,.int .i64 x,.int .i64 y] w fun e w'=>e=.returned (.tuple #[.int .i64 (divE k x y).1,.int .i64 (divE k x y).2])/\w'=w:=by
 by_cases h0:y=0
 ·subst h0;rw[show divE k x 0=(0,11) by simp[divE]];go_enter func192,ntmps192;go_wp2_with fail;go_ret2;exact⟨rfl,rfl⟩
 ·by_cases hk:k=11
  ·subst hk;rw[show divE 11 x y=(wrap64 (x.tdiv y),0) by simp[divE,h0]];go_enter func192,ntmps192;go_wp2_with fail;go_ret2;exact⟨rfl,rfl⟩
  ·rw[show divE k x y=(x.tmod y,0) by simp[divE,h0,hk]];have hy:(y==0)=false:=by simpa using h0
   have hk':(k==11)=false:=by simpa using hk
   go_enter func192,ntmps192;go_wp2_with fail;go_ret2;exact⟨rfl,rfl⟩
def unE(k x:Int):Int×Int:=if k=6 then(wrap64 (-x),0)else(numI (x==0),0)
theorem zqN(k x:Int)(hk:k=6\/k=7)(w:World):Calls prog 186 #[.int .u8 k,.int .i64 x] w fun e w'=>e=.returned (.tuple #[.int .i64 (unE k x).1,.int .i64 (unE k x).2])/\w'=w:=by
 rcases hk with rfl|rfl
 ·rw[show unE 6 x=(wrap64 (-x),0) by simp[unE]];go_enter func186,ntmps186;go_wp2_with fail;go_ret2;exact⟨rfl,rfl⟩
 ·rw[show unE 7 x=(numI (x==0),0) by simp[unE]];go_enter func186,ntmps186;go_wp2_with fail;refine(zkI _ w).mono ?_;rintro e w' ⟨rfl,rfl⟩;go_wp2_with fail;go_ret2;exact⟨rfl,rfl⟩
def apE(k x y:Int):Int×Int :=
 if k=8 then(wrap64 (x+y),0)else
 if k=9 then(wrap64 (x-y),0)else
 if k=10 then(wrap64 (x*y),0)else
 if k=11 then divE 11 x y else
 if k=12 then divE 12 x y else
 if k=13 then(bits BinOp.and IntKind.i64 x y,0)else
 if k=14 then(bits BinOp.or IntKind.i64 x y,0)else
 if k=15 then(bits BinOp.xor IntKind.i64 x y,0)else
 if k=16 then(numI (x==y),0)else
 if k=17 then(numI (x != y),0)else
 if k=18 then(numI (decide (x<y)),0)else
 if k=19 then(numI (decide (x<=y)),0)else
 if k=20 then(numI (decide (y<x)),0)else
 if k=21 then(numI (decide (y<=x)),0)else
 if k=22 then(numI (x != 0&&y != 0),0)else
 if k=23 then(numI (x != 0||y != 0),0)else
 (0,0)
theorem zqS(k x y:Int)(hk:8<=k/\k<=23)(w:World):Calls prog 187 #[.int .u8 k,.int .i64 x,.int .i64 y] w fun e w'=>e=.returned (.tuple #[.int .i64 (apE k x y).1,.int .i64 (apE k x y).2])/\w'=w:=by
 have hc:k=8\/k=9\/k=10\/k=11\/k=12\/k=13\/k=14\/k=15\/k=16\/k=17\/k=18\/k=19\/k=20\/k=21\/k=22\/k=23:=by omega
 clear hk;rcases hc with rfl|rfl|rfl|rfl|rfl|rfl|rfl|rfl|rfl|rfl|rfl|rfl|rfl|rfl|rfl|rfl
 ·rw[show apE 8 x y=(wrap64 (x+y),0) by simp[apE]];go_enter func187,ntmps187;go_wp2_with fail;go_ret2;exact⟨rfl,rfl⟩
 ·rw[show apE 9 x y=(wrap64 (x-y),0) by simp[apE]];go_enter func187,ntmps187;go_wp2_with fail;go_ret2;exact⟨rfl,rfl⟩
 ·rw[show apE 10 x y=(wrap64 (x*y),0) by simp[apE]];go_enter func187,ntmps187;go_wp2_with fail;go_ret2;exact⟨rfl,rfl⟩
 ·rw[show apE 11 x y=divE 11 x y by simp[apE]];go_enter func187,ntmps187;go_wp2_with fail;refine(zpl 11 x y w).mono ?_;rintro e w' ⟨rfl,rfl⟩;go_wp2_with fail;go_ret2;exact⟨rfl,rfl⟩
 ·rw[show apE 12 x y=divE 12 x y by simp[apE]];go_enter func187,ntmps187;go_wp2_with fail;refine(zpl 12 x y w).mono ?_;rintro e w' ⟨rfl,rfl⟩;go_wp2_with fail;go_ret2;exact⟨rfl,rfl⟩
 ·rw[show apE 13 x y=(bits BinOp.and IntKind.i64 x y,0) by simp[apE]];go_enter func187,ntmps187;go_wp2_with fail;go_ret2;exact⟨rfl,rfl⟩
 ·rw[show apE 14 x y=(bits BinOp.or IntKind.i64 x y,0) by simp[apE]];go_enter func187,ntmps187;go_wp2_with fail;go_ret2;exact⟨rfl,rfl⟩
 ·rw[show apE 15 x y=(bits BinOp.xor IntKind.i64 x y,0) by simp[apE]];go_enter func187,ntmps187;go_wp2_with fail;go_ret2;exact⟨rfl,rfl⟩
 ·rw[show apE 16 x y=(numI (x==y),0) by simp[apE]];go_enter func187,ntmps187;go_wp2_with fail;refine(zkI _ w).mono ?_;rintro e w' ⟨rfl,rfl⟩;go_wp2_with fail;go_ret2;exact⟨rfl,rfl⟩
 ·rw[show apE 17 x y=(numI (x != y),0) by simp[apE]];go_enter func187,ntmps187;go_wp2_with fail;refine(zkI _ w).mono ?_;rintro e w' ⟨rfl,rfl⟩;go_wp2_with fail;go_ret2;exact⟨rfl,rfl⟩
 ·rw[show apE 18 x y=(numI (decide (x<y)),0) by simp[apE]];go_enter func187,ntmps187;go_wp2_with fail;refine(zkI _ w).mono ?_;rintro e w' ⟨rfl,rfl⟩;go_wp2_with fail;go_ret2;exact⟨rfl,rfl⟩
 ·rw[show apE 19 x y=(numI (decide (x<=y)),0) by simp[apE]];go_enter func187,ntmps187;go_wp2_with fail;refine(zkI _ w).mono ?_;rintro e w' ⟨rfl,rfl⟩;go_wp2_with fail;go_ret2;exact⟨rfl,rfl⟩
 ·rw[show apE 20 x y=(numI (decide (y<x)),0) by simp[apE]];go_enter func187,ntmps187;go_wp2_with fail;refine(zkI _ w).mono ?_;rintro e w' ⟨rfl,rfl⟩;go_wp2_with fail;go_ret2;exact⟨rfl,rfl⟩
 ·rw[show apE 21 x y=(numI (decide (y<=x)),0) by simp[apE]];go_enter func187,ntmps187;go_wp2_with fail;refine(zkI _ w).mono ?_;rintro e w' ⟨rfl,rfl⟩;go_wp2_with fail;go_ret2;exact⟨rfl,rfl⟩
 ·rw[show apE 22 x y=(numI (x != 0&&y != 0),0) by simp[apE]]
  cases hx:(x != 0)<;>cases hy:(y != 0)
  ·rw[show(false&&false)=false from rfl];go_enter func187,ntmps187;go_wp2_with fail;refine(zkI false w).mono ?_;rintro e w' ⟨rfl,rfl⟩;go_wp2_with fail;go_ret2;exact⟨rfl,rfl⟩
  ·rw[show(false&&true)=false from rfl];go_enter func187,ntmps187;go_wp2_with fail;refine(zkI false w).mono ?_;rintro e w' ⟨rfl,rfl⟩;go_wp2_with fail;go_ret2;exact⟨rfl,rfl⟩
  ·rw[show(true&&false)=false from rfl];go_enter func187,ntmps187;go_wp2_with fail;refine(zkI false w).mono ?_;rintro e w' ⟨rfl,rfl⟩;go_wp2_with fail;go_ret2;exact⟨rfl,rfl⟩
  ·rw[show(true&&true)=true from rfl];go_enter func187,ntmps187;go_wp2_with fail;refine(zkI true w).mono ?_;rintro e w' ⟨rfl,rfl⟩;go_wp2_with fail;go_ret2;exact⟨rfl,rfl⟩
 ·rw[show apE 23 x y=(numI (x != 0||y != 0),0) by simp[apE]]
  cases hx:(x != 0)<;>cases hy:(y != 0)
  ·rw[show(false||false)=false from rfl];go_enter func187,ntmps187;go_wp2_with fail;refine(zkI false w).mono ?_;rintro e w' ⟨rfl,rfl⟩;go_wp2_with fail;go_ret2;exact⟨rfl,rfl⟩
  ·rw[show(false||true)=true from rfl];go_enter func187,ntmps187;go_wp2_with fail;refine(zkI true w).mono ?_;rintro e w' ⟨rfl,rfl⟩;go_wp2_with fail;go_ret2;exact⟨rfl,rfl⟩
  ·rw[show(true||false)=true from rfl];go_enter func187,ntmps187;go_wp2_with fail;refine(zkI true w).mono ?_;rintro e w' ⟨rfl,rfl⟩;go_wp2_with fail;go_ret2;exact⟨rfl,rfl⟩
  ·rw[show(true||true)=true from rfl];go_enter func187,ntmps187;go_wp2_with fail;refine(zkI true w).mono ?_;rintro e w' ⟨rfl,rfl⟩;go_wp2_with fail;go_ret2;exact⟨rfl,rfl⟩
end
section
open Go.RowKit
def I64(x:Int):Prop := -9223372036854775808<=x/\x<=9223372036854775807
def RowI(w:World)(S:Nat->Prop)(A:Option Addr)(xs:List Int):Prop :=
 ∀i (hi:i<xs.length),∃a:Addr,A=some a/\S a.block/\w.cell? (a.add i)=some (.int .i64 xs[i])/\I64 xs[i]
def LI:Nat:=17592186044416
theorem zpr{n:Nat}(h:n<=LI):n<=17592186044416:=h
section
variable {w w':World} {S S':Nat->Prop} {A:Option Addr} {xs:List Int}
theorem RowI.keep(h:RowI w S A xs)(hS:∀b,S b->b<w.heap.size->S' b)(hk:∀b,S b->b<w.heap.size->w'.heap[b]?=w.heap[b]?):RowI w' S' A xs:=fun i hi=>by
 obtain⟨a,hA,iF,h0,hf⟩:=h i hi;have hlt:a.block<w.heap.size:=by have:=World.block_lt_of_cell? w _ h0;rwa[zkE]at this
 refine⟨a,hA,hS _ iF hlt,zkM h0 ?_,hf⟩;simp only[zkE];exact hk _ iF hlt
theorem RowI.later(h:RowI w S A xs)(hb:Below w.heap.size w w'):RowI w' S A xs:=h.keep (fun _ hb _=>hb) fun b _ hlt=>hb.block b hlt
theorem RowI.mono(h:RowI w S A xs)(hS:∀b,S b->S' b):RowI w S' A xs:=h.keep (fun b hb _=>hS b hb) fun _ _ _=>rfl
theorem RowI.any(h:RowI w S A xs):RowI w Any A xs:=h.mono fun _ _=>trivial
theorem RowI.fits(h:RowI w S A xs):∀x∈xs,I64 x:=fun x hx=>by
 obtain⟨i,hi,rfl⟩:=List.getElem_of_mem hx;obtain⟨_,_,_,_,h⟩:=h i hi;exact h
theorem RowI.news{a:Addr}(h:RowI w S (some a) xs):(∀(j:Nat) u,(xs.map (fun x=>Value.int .i64 x))[j]?=some u->w.cell? (a.add j)=some u)/\(∀u∈xs.map (fun x=>Value.int .i64 x),u.oneCell'=true):=by
 refine⟨fun j u hj=>?_,fun u hu=>?_⟩
 ·simp only[List.getElem?_map,Option.map_eq_some_iff]at hj;obtain⟨x,hx,rfl⟩:=hj;obtain⟨hlt,rfl⟩:=List.getElem?_eq_some_iff.1 hx;obtain⟨a',e,_,hc,_⟩:=h j hlt;injection e with e;subst e;exact hc
 ·simp only[List.mem_map]at hu;obtain⟨x,_,rfl⟩:=hu;rfl
theorem zld{base:Nat}{E:TypeId}{v:Value}(h:w.ownsRow base E 1 v xs.length (xs.map (fun x=>Value.int .i64 x)))(hf:∀x∈xs,I64 x):∃A c,v=.slice A xs.length c/\xs.length<=c/\RowI w (fun b=>v.ownBlock=some b) A xs:=by
 rcases h.2 with⟨rfl,h0⟩|⟨g,cap,cur,rfl,hb,hg,hc,hm,hz,hx⟩
 ·exact⟨none,0,by rw[h0],by omega,fun i hi=>absurd hi (by omega)⟩
 ·refine⟨some ⟨g,0,none⟩,cap,rfl,hc,fun i hi=>?_⟩;have ha:(⟨g,0,none⟩:Addr).add i=⟨g,i,none⟩:=by unfold Addr.add;split<;>simp_all
  refine⟨⟨g,0,none⟩,rfl,rfl,?_,hf _ (List.getElem_mem hi)⟩;rw[ha];have:=h.cellAt i (by omega);rw[this];simp[hi]
end
theorem znA:(prog.info? 3).map (fun i=>(i.zero,i.size,i.bytes))=some (some (.int .i64 0),1,8):=by kernel_rfl
theorem zyV(w:World):(Instr.buildSlice 42 0 #[]).run prog w=.ok (.slice (some ⟨w.heap.size,0,none⟩) 0 0) (w.alloc (.cells #[] 3)):=by kernel_rfl
theorem zoD(x:Int)(w:World):(Instr.buildSlice 42 1 #[(0,.int .i64 x)]).run prog w=.ok (.slice (some ⟨w.heap.size,0,none⟩) 1 1) (w.alloc (.cells #[.int .i64 x] 3)):=by kernel_rfl
theorem zzO(a:Addr)(l c:Nat)(w:World):(binOp BinOp.eql 42 (.slice (some a) l c) (.slice none 0 0)).run prog w=.ok (.bool false) w:=by kernel_rfl
theorem zyF(l c:Nat)(w:World):(binOp BinOp.eql 42 (.slice none l c) (.slice none 0 0)).run prog w=.ok (.bool true) w:=by kernel_rfl
def NewI(w:World)(xs:List Int)(e:Ending)(w':World):Prop:=∃A' c',e=.returned (.slice A' xs.length c')/\RowI w' (From w.heap.size) A' xs/\xs.length<=c'/\Below w.heap.size w w'
def OwnI(w:World)(xs:List Int)(e:Ending)(w':World):Prop:=∃v',e=.returned v'/\w'.ownsRow w.heap.size 3 1 v' xs.length (xs.map (fun x=>Value.int .i64 x))/\(∀x∈xs,I64 x)/\Below w.heap.size w w'
theorem zkQ(xs:List Int)(A:Option Addr)(c:Nat)(S:Nat->Prop)(w:World)(hrow:RowI w S A xs)(hl:xs.length<=LI):Calls prog 55 #[.slice A xs.length c] w (OwnI w xs):=by
 obtain⟨i0,hi0,hz0,hz1,hz2⟩:=info_parts znA;have hl':=zpr hl;rcases A with _|a
 ·have h0:xs=[]:=by
   cases xs with
   | nil=>rfl
   | cons v vs=>obtain⟨_,h,_⟩:=hrow 0 (by simp);cases h
  subst h0;have he:=zyF;clear hrow hl;go_enter func55,ntmps55;go_wp2_with fail;go_ret;exact⟨_,rfl,World.ownsRow_nil _ _ _ _,by simp,zr⟩
 ·obtain⟨hnc,hn1⟩:=(hrow.later ((zs w).alloc zl (.cells #[] 3))).news;have HF:=zh hrow.fits;have hown:(w.alloc (.cells #[] 3)).ownsRow w.heap.size 3 1 (.slice (some ⟨w.heap.size,0,none⟩) 0 0) 0 [] :=
   ⟨rfl,.inr ⟨w.heap.size,0,#[],rfl,zl,heap_alloc_new w _,zl,Nat.zero_le _,rfl,rfl⟩⟩
  have hnl:(xs.map (fun x=>Value.int .i64 x)).length=xs.length*1:=by simp
  have hm1:0+xs.length<=maxLen:=by unfold maxLen;omega
  have hm2:(0+xs.length)*8<=140737488355328:=by omega
  have hb0:=zyV;have he:=zzO;obtain⟨news,hnews⟩:=zX (xs.map (fun x=>Value.int .i64 x));rw[hnews]at hnc hn1 hnl;have wH:=zh hnews;clear hrow hl hnews;go_enter func55,ntmps55;go_wp2_with (at_builtin;refine wpList_append_own_at (P:=prog) _ rfl (.tmp 5) (.tmp 6) 42 rfl w.heap.size 3 i0 _ 1 8 underlying42 hi0 hz0 hz1 hz2 rfl (by decide) (.slice (some ⟨w.heap.size,0,none⟩) 0 0) 0 [] rfl hown a xs.length c news rfl hnl hnc hn1 hm1 hm2 (by simp) ?_;intro v' w' h2 h3 h4 h5)
  have hbl:Below w.heap.size w w':=((zs w).alloc zl _).grown h3 (by simp) (fun g e=>by simp[Value.ownBlock]at e;omega);have h2':w'.ownsRow w.heap.size 3 1 v' xs.length (xs.map (fun x=>Value.int .i64 x)):=by
   have:=h2;rw[Nat.zero_add,List.nil_append,<-wH.out]at this;exact this
  have HO:=zh h2';have HB:=zh hbl;have hsl:∃A' c',v'=.slice A' xs.length c':=by
   rcases h2'.2 with⟨rfl,h0⟩|⟨g,cap,cur,rfl,_⟩
   ·exact⟨none,0,by rw[h0]⟩
   ·exact⟨_,_,rfl⟩
  obtain⟨A',c',rfl⟩:=hsl;clear h2 h2' h3 h4 h5 hbl hnc hn1 hown;go_wp2_with fail;go_ret;exact⟨_,by simp,HO.out,HF.out,HB.out⟩
theorem zpt(xs:List Int)(A:Option Addr)(c:Nat)(S:Nat->Prop)(w:World)(hrow:RowI w S A xs)(hl:xs.length<=LI):Calls prog 55 #[.slice A xs.length c] w (NewI w xs) :=
 (zkQ xs A c S w hrow hl).mono fun e w' ⟨v',he,ho,hf,hb⟩=>by
  obtain⟨A',c',rfl,hc,hr⟩:=zld ho hf;exact⟨A',c',he,hr.mono fun b hb=>(ho.lt b hb).1,hc,hb⟩
end
end Go.Proofs.YthjinpodhacleaaGreat
